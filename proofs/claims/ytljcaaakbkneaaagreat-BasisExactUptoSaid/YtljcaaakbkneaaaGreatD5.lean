/- BasisExact, second form: for arguments of bulk at most 1048576 the law returns true and what came in reads as it did. Part 5 of 7: Sh Si Sj Sk Sl Sm Sn So Sp Sq Kb Rm Kc Kd Sr Ss St Su Ke Qa Qb Qc Qd Qe Qf Qg Qh Yf Sy Qi Qj Qk Ql Qm Ba Bb. -/
import Derived.Test.YtljcaaakbkneaaaGreatD4
set_option maxHeartbeats 4000000
set_option linter.unusedVariables false
set_option linter.unusedSimpArgs false
namespace Go.Proofs.YtljcaaakbkneaaaGreat
open Go.Vg _root_.Go.Proofs.Tryz
open Go.Vm
open Go.Vy hiding val
set_option maxRecDepth 20000
def bN (f:Nat->Rat):Nat->Rat
 |0=>0
 |n+1=>bN f n+f n
theorem aZ {f g:Nat->Rat}:∀{n:Nat},(∀j,j<n->f j=g j)->bN f n=bN g n
 |0,_=>rfl
 |n+1,h=>by
  show bN f n+f n=bN g n+g n
  rw[aZ λj hj=>h j (dY hj),h n (aS n)]
theorem kZ {f g:Nat->Rat} {q:Rat}:∀{n:Nat},bN (λj=>f j+q*g j) n=bN f n+q*bN g n
 |0=>by show(0:Rat)=0+q*0;rw[bU,bK]
 |n+1=>by
  show bN (λj=>f j+q*g j) n+(f n+q*g n)=bN f n+f n+q*(bN g n+g n)
  rw[kZ];grind
theorem fF:∀{n:Nat} {f:Nat->Rat},(∀j,j<n->f j=0)->bN f n=0
 |0,_,_=>rfl
 |n+1,f,h=>by
  show bN f n+f n=0
  rw[fF λj hj=>h j (dY hj),h n (aS n),bK]
theorem iZ {f:Nat->Rat} {m:Nat}:∀{n:Nat},m<n->(∀j,j≠m->f j=0)->bN f n=f m
 |0,h,_=>U4 h (aF _)
 |n+1,h,h0=>by
  show bN f n+f n=f m
  by_cases e:m=n
  ·subst e;rw[fF λj hj=>h0 j oM,fY]
  rw[iZ oM h0,h0 n (gU e),bK]
def dtn (n:Nat) (es:List En) (x:Nat->Rat):Rat:=bN (λj=>Vm.get es (j:Nat)*x j) n
theorem bKj {n:Nat} {rs es fs:List En} {q:Rat} {x:Nat->Rat} (h:∀j:Int,Vm.get rs j=Vm.get es j+q*Vm.get fs j):dtn n rs x=dtn n es x+q*dtn n fs x:=by
 unfold dtn
 rw[<-kZ]
 exact aZ λj _=>by rw[h];grind
def dtl:List En->(Nat->Rat)->Rat
 |[],_=>0
 |e::es,x=>e.2*x e.1.toNat+dtl es x
theorem aEm {x:Nat->Rat}:∀{es fs:List En},dtl (es++fs) x=dtl es x+dtl fs x
 |[],fs=>by show dtl fs x=0+dtl fs x;rw[fY]
 |e::es,fs=>by
  show e.2*x e.1.toNat+dtl (es++fs) x=e.2*x e.1.toNat+dtl es x+dtl fs x
  rw[aEm,oO]
theorem vH {x:Nat->Rat} {es:List En} {e:En}:dtl (es++[e]) x=dtl es x+e.2*x e.1.toNat:=by
 rw[aEm];show _+(_+(0:Rat))=_;rw[bK]
theorem nA {x y:Nat->Rat}:∀{es:List En},(∀e∈es,x e.1.toNat=y e.1.toNat)->dtl es x=dtl es y
 |[],_=>rfl
 |e::es,h=>by
  show e.2*x e.1.toNat+dtl es x=e.2*y e.1.toNat+dtl es y
  rw[h e (.head _),nA λe' he=>h e' (.tail _ he)]
theorem aOu {x:Nat->Rat} {es fs:List En} (h:es.Perm fs):dtl es x=dtl fs x:=by
 induction h with
 |nil=>rfl
 |cons e _ ih=>show _+_=_+_;rw[ih]
 |swap a b l=>show _+(_+_)=_+(_+_);grind
 |trans _ _ h1 h2=>exact h1.trans h2
theorem vI (e:En) (es:List En) (j:Int):Vm.get (e::es) j=(if e.1=j then e.2 else 0)+Vm.get es j:=by
 rw[show e::es=[e]++es from U,get_append]
 congr 1
 by_cases h:e.1=j
 ·subst h;rw[U3 U,get_head (eK _ _)]
 rw[U2 h];exact get_none λe' he=>by rw[aE.1 he];exact h
theorem tW {n:Nat} {x:Nat->Rat}:∀{es:List En},(∀e∈es,0<=e.1/\e.1<(n:Nat))->dtl es x=dtn n es x
 |[],_=>(fF λj _=>by show(0:Rat)*x j=0;rw[dL]).symm
 |e::es,h=>by
  show e.2*x e.1.toNat+dtl es x=_
  rw[tW λe' he=>h e' (.tail _ he)]
  obtain⟨h1,h2⟩:=h e (.head _)
  have hs:e.2*x e.1.toNat=bN (λj=>(if e.1=(j:Nat) then e.2 else 0)*x j) n:=by
   rw[iZ (m:=e.1.toNat) oM λj hj=>by rw[U2 oM,dL]]
   rw[U3 oM]
  rw[hs]
  unfold dtn
  have:=kZ (f:=λj=>(if e.1=(j:Nat) then e.2 else 0)*x j) (g:=λj=>Vm.get es (j:Nat)*x j) (q:=1) (n:=n)
  rw[iY] at this
  rw[<-this]
  exact aZ λj _=>by rw[vI];grind
theorem VOk.rg {es:List En} {n:Nat} (h:VOk es (n:Nat)):∀e∈es,0<=e.1/\e.1<(n:Nat):=λe he=>⟨(h.2 e he).1,(h.2 e he).2.1⟩
structure Elim (M:Nat->List En) (n k:Nat) (rw cl:Nat->Nat) (A:List Int) (es lw:Nat->List En):Prop where
 kn:A.length+k=n
 nd:A.Nodup
 mem:∀c:Int,c∈A↔∃j:Nat,c=(j:Nat)/\j<n/\∀i,i<k->cl i≠j
 rlt:∀j,j<k->rw j<n
 rinj:∀i j,i<k->j<k->rw i=rw j->i=j
 clt:∀j,j<k->cl j<n
 cinj:∀i j,i<k->j<k->cl i=cl j->i=j
 piv:∀j,j<k->Vm.get (es (rw j)) (cl j:Nat)≠0
 zl:∀j i,j<i->i<k->Vm.get (es (rw i)) (cl j:Nat)=0
 zu:∀j i,j<k->i<n->(∀t,t<k->rw t≠i)->Vm.get (es i) (cl j:Nat)=0
 lok:∀i,i<n->VOk (lw i) (k:Nat)
 lus:∀j,j<k->VOk (lw (rw j)) (j:Nat)
 sum:∀i,i<n->∀x,dtn n (M i) x=dtn n (es i) x+dtl (lw i) λj=>dtn n (es (rw j)) x
theorem Elim.start (M:Nat->List En) (n:Nat) (rw cl:Nat->Nat):Elim M n 0 rw cl (aL n n) M λ_=>[]:=by
 rw[bDh]
 refine⟨by simp,?_,λc=>?_,λj h=>U4 h (aF _),λi j h=>U4 h (aF _),λj h=>U4 h (aF _),λi j h=>U4 h (aF _),λj h=>U4 h (aF _),λj i _ h=>U4 h (aF _),λj i h=>U4 h (aF _),λi _=>⟨List.Pairwise.nil,λe he=>by cases he⟩,λj h=>U4 h (aF _),λi _ x=>?_⟩
 ·rw[cT,gI]
  exact(cT.1 mH).imp λh e=>h (jY e)
 ·rw[bZ]
  constructor
  ·rintro⟨j,hj,rfl⟩;exact⟨j,U,cJ.1 hj,λi h=>U4 h (aF _)⟩
  rintro⟨j,rfl,hj,_⟩;exact⟨j,cJ.2 hj,U⟩
 show _=_+(0:Rat);rw[bK]
theorem aXj {A:List Int} {p:Nat} {c:Int} (hp:p<A.length) (hc:A.getD p 0=c):A=A.take p++c::A.drop (p+1)/\A.eraseIdx p=A.take p++A.drop (p+1):=by
 refine⟨?_,qB A p⟩
 rw[<-hc,gd hp,<-dK hp,dT]
theorem Elim.next {M:Nat->List En} {n k r c p:Nat} {rw cl:Nat->Nat} {A:List Int} {es lw es' lw':Nat->List En} {P:Nat->Prop} (h:Elim M n k rw cl A es lw) (hr:r<n) (hu:∀t,t<k->rw t≠r) (hp:p<A.length) (hc:A.getD p 0=(c:Nat)) (hv:Vm.get (es r) (c:Nat)≠0) (hS:StR r c k es lw es' lw' P) (hP:∀i,P i↔(i<n/\¬(∃t,t<k/\rw t=i)/\i≠r)/\Vm.get (es i) (c:Nat)≠0):Elim M n (k+1) (upd rw k r) (upd cl k c) (A.eraseIdx p) es' lw':=by
 obtain⟨hA1,hA2⟩:=aXj hp hc
 have hcA:(c:Int)∈A:=by rw[hA1];exact dU _ (.head _)
 obtain⟨c',hcc,hcn,hcf⟩:=(h.mem _).1 hcA
 obtain rfl:c=c':=jY hcc
 have nr:¬P r:=λhh=>((hP r).1 hh).1.2.2 rfl
 have er:=(hS.no r nr).1
 have nus:∀t,t<k->¬P (rw t):=λt ht hh=>((hP _).1 hh).1.2.1 ⟨t,ht,U⟩
 have ur:∀t,t<k->upd rw k r t=rw t:=λt ht=>aY oM
 have uc:∀t,t<k->upd cl k c t=cl t:=λt ht=>aY oM
 have ee:∀t,t<k+1->es' (upd rw k r t)=es (upd rw k r t):=λt ht=>by
  by_cases e:t=k
  ·subst e;rw[bF];exact er
  rw[ur t oM];exact(hS.no _ (nus t oM)).1
 have zr:∀j,j<k->Vm.get (es r) (cl j:Nat)=0:=λj hj=>h.zu j r hj hr hu
 refine⟨?_,?_,λc1=>?_,λj hj=>?_,λi j hi hj he=>?_,λj hj=>?_,λi j hi hj he=>?_,λj hj=>?_,λj i hj hi=>?_,λj i hj hi hn=>?_,λi hi=>?_,λj hj=>?_,λi hi x=>?_⟩
 ·rw[tG hp];have:=h.kn;omega
 ·exact h.nd.sublist (List.eraseIdx_sublist _ _)
 ·have hnd:=h.nd
  rw[hA1] at hnd
  have hcn':(c:Int)∉A.take p++A.drop (p+1):=λhh=>by
   have:=(List.perm_middle.nodup_iff).1 hnd
   exact(kN.1 this).1 hh
  have hme:c1∈A.eraseIdx p↔c1∈A/\c1≠(c:Nat):=by
   rw[hA2]
   constructor
   ·intro h1
    refine⟨?_,λe=>hcn' (e▸h1)⟩
    rw[hA1]
    rcases aO.1 h1 with h1|h1
    ·exact cX _ h1
    exact dU _ (.tail _ h1)
   rintro⟨h1,h2⟩
   rw[hA1] at h1
   rcases aO.1 h1 with h1|h1
   ·exact cX _ h1
   rcases bW.1 h1 with h1|h1
   ·exact U4 h1 h2
   exact dU _ h1
  rw[hme,h.mem]
  constructor
  ·rintro⟨⟨j,rfl,h1,h2⟩,h3⟩
   refine⟨j,U,h1,λi hi=>?_⟩
   by_cases e:i=k
   ·subst e;rw[bF];exact λe=>h3 (by rw[e])
   rw[uc i oM];exact h2 i oM
  rintro⟨j,rfl,h1,h2⟩
  refine⟨⟨j,U,h1,λi hi=>by rw[<-uc i hi];exact h2 i oM⟩,λe=>?_⟩
  have:=h2 k oM
  rw[bF] at this
  exact this (jY e).symm
 ·by_cases e:j=k
  ·subst e;rw[bF];exact hr
  rw[ur j oM];exact h.rlt j oM
 ·by_cases e1:i=k
  ·by_cases e2:j=k
   ·omega
   subst e1;rw[bF,ur j oM] at he;exact U4 he.symm (hu j oM)
  by_cases e2:j=k
  ·subst e2;rw[bF,ur i oM] at he;exact U4 he (hu i oM)
  rw[ur i oM,ur j oM] at he;exact h.rinj i j oM oM he
 ·by_cases e:j=k
  ·subst e;rw[bF];exact hcn
  rw[uc j oM];exact h.clt j oM
 ·by_cases e1:i=k
  ·by_cases e2:j=k
   ·omega
   subst e1;rw[bF,uc j oM] at he;exact U4 he.symm (hcf j oM)
  by_cases e2:j=k
  ·subst e2;rw[bF,uc i oM] at he;exact U4 he (hcf i oM)
  rw[uc i oM,uc j oM] at he;exact h.cinj i j oM oM he
 ·rw[ee j hj]
  by_cases e:j=k
  ·subst e;rw[bF,bF];exact hv
  rw[ur j oM,uc j oM];exact h.piv j oM
 ·rw[ee i hi,uc j oM]
  by_cases e:i=k
  ·subst e;rw[bF];exact zr j oM
  rw[ur i oM];exact h.zl j i hj oM
 ·have hnu:∀t,t<k->rw t≠i:=λt ht=>by rw[<-ur t ht];exact hn t oM
  have hnr:i≠r:=λe=>by
   have:=hn k oM
   rw[bF] at this
   exact this e.symm
  by_cases e:j=k
  ·subst e
   rw[bF]
   by_cases hPi:P i
   ·rw[(hS.yes i hPi).1]
    unfold fac
    rw[Rat.neg_mul,qO,fM _ hv,nX,<-jD,Rat.sub_self]
   rw[(hS.no i hPi).1]
   exact aN λhh=>hPi ((hP i).2 ⟨⟨hi,λ⟨t,ht,e⟩=>hnu t ht e,hnr⟩,hh⟩)
  rw[uc j oM]
  have h0:=h.zu j i oM hi hnu
  by_cases hPi:P i
  ·rw[(hS.yes i hPi).1,h0,zr j oM,bU,bK]
  rw[(hS.no i hPi).1];exact h0
 ·have h0:=h.lok i hi
  by_cases hPi:P i
  ·rw[(hS.yes i hPi).2]
   refine⟨eR.2 ⟨h0.1,eK _ _,λa ha b hb=>?_⟩,λe he=>?_⟩
   ·rw[aE.1 hb]
    exact(h0.2 a ha).2.1
   rcases aO.1 he with he|he
   ·have:=h0.2 e he;exact⟨this.1,Uc,this.2.2⟩
   rw[aE.1 he]
   refine⟨by show(0:Int)<=(k:Nat);omega,by show(k:Int)<((k+1:Nat):Int);omega,?_⟩
   show fac es r c i≠0
   unfold fac
   intro hh
   rcases oU.1 hh with hh|hh
   ·exact((hP i).1 hPi).2 hh
   have h9:=fM _ hv
   rw[hh,dL] at h9
   exact U4 h9 dC
  rw[(hS.no i hPi).2]
  exact⟨h0.1,λe he=>by have:=h0.2 e he;exact⟨this.1,Uc,this.2.2⟩⟩
 ·by_cases e:j=k
  ·subst e
   rw[bF,(hS.no r nr).2]
   exact h.lok r hr
  rw[ur j oM,(hS.no _ (nus j oM)).2];exact h.lus j oM
 have h0:=h.sum i hi x
 have hl:∀l:List En,VOk l (k:Nat)->dtl l (λj=>dtn n (es' (upd rw k r j)) x)=dtl l λj=>dtn n (es (rw j)) x:=λl hl=>nA λe he=>by
  have:=hl.2 e he
  have ht:e.1.toNat<k:=Uc
  show dtn n (es' (upd rw k r e.1.toNat)) x=dtn n (es (rw e.1.toNat)) x
  rw[ee _ oM,ur _ ht]
 by_cases hPi:P i
 ·rw[(hS.yes i hPi).2,vH,hl _ (h.lok i hi),bKj (hS.yes i hPi).1,h0]
  show _=_+(_+fac es r c i*dtn n (es' (upd rw k r (k:Nat))) x)
  rw[bF,er]
  grind
 rw[(hS.no i hPi).1,(hS.no i hPi).2,hl _ (h.lok i hi),h0]
theorem aUp {es:List En} {x:Nat->Rat} {j:Nat} {v:Rat}:∀{n:Nat},j<n->dtn n es (upd x j v)=dtn n es x+Vm.get es (j:Nat)*(v-x j)
 |0,h=>U4 h (aF _)
 |n+1,h=>by
  show dtn n es (upd x j v)+Vm.get es (n:Nat)*upd x j v n=dtn n es x+Vm.get es (n:Nat)*x n+Vm.get es (j:Nat)*(v-x j)
  by_cases e:j=n
  ·subst e
   have h1:dtn j es (upd x j v)=dtn j es x:=aZ λi hi=>by rw[aY oM]
   rw[bF,h1];grind
  rw[aUp oM,aY (gU e)];grind
def Ker (M:Nat->List En) (n:Nat):Prop:=∃x:Nat->Rat,(∃i,i<n/\x i≠0)/\∀k,k<n->dtn n (M k) x=0
theorem bNp {x:Nat->Rat}:∀{es:List En},(∀e∈es,x e.1.toNat=0)->dtl es x=0
 |[],_=>rfl
 |e::es,h=>by
  show e.2*x e.1.toNat+dtl es x=0
  rw[h e (.head _),bNp λe' he=>h e' (.tail _ he),bU,bK]
theorem Elim.ker {M:Nat->List En} {n k c:Nat} {rw cl:Nat->Nat} {A:List Int} {es lw:Nat->List En} (h:Elim M n k rw cl A es lw) (hcA:(c:Int)∈A) (hz:∀i,i<n->(∀t,t<k->rw t≠i)->Vm.get (es i) (c:Nat)=0):Ker M n:=by
 obtain⟨c',hc',hcn,hcf⟩:=(h.mem _).1 hcA
 obtain rfl:c=c':=jY hc'
 have key:∀m,m<=k->∃x:Nat->Rat,x c=1/\(∀j,j≠c->(∀t,k-m<=t->t<k->cl t≠j)->x j=0)/\∀t,k-m<=t->t<k->dtn n (es (rw t)) x=0:=λm=>by
  induction m with
  |zero=>exact λ_=>⟨λj=>if j=c then 1 else 0,U3 U,λj hj _=>U2 hj,λt h1 h2=>Uc⟩
  |succ m ih=>
   intro hm
   obtain⟨x,x1,x2,x3⟩:=ih oM
   obtain⟨t0,ht0⟩:∃t0,t0=k-(m+1):=⟨_,U⟩
   have htk:t0<k:=Uc
   have hp:=h.piv t0 htk
   have hcc:=hcf t0 htk
   have hcl:=h.clt t0 htk
   have h0:x (cl t0)=0:=x2 _ hcc λt h1 h2 e=>by
    have:=h.cinj t t0 h2 htk e
    omega
   refine⟨upd x (cl t0) (-(dtn n (es (rw t0)) x/Vm.get (es (rw t0)) (cl t0:Nat))),by rw[aY (gU hcc)];exact x1,λj hj ht=>?_,λt h1 h2=>?_⟩
   ·rw[aY (gU (ht t0 oM htk))]
    exact x2 j hj λt h1 h2=>ht t oM h2
   rw[aUp hcl,h0]
   by_cases e:t=t0
   ·subst e
    rw[iJ]
    have h9:=mO _ hp
    generalize Vm.get (es (rw t)) (cl t:Nat)=p at h9 hp
    generalize dtn n (es (rw t)) x=U7
    have:U7+p*(-(U7*p⁻¹)-0)=U7-U7*(p*p⁻¹):=by grind
    rw[this,h9,nX,Rat.sub_self]
   rw[x3 t oM h2,h.zl t0 t oM h2,dL,bK]
 obtain⟨x,x1,x2,x3⟩:=key k (aH _)
 rw[gH] at x2 x3
 have hE:∀i,i<n->dtn n (es i) x=0:=λi hi=>by
  by_cases hu:∃t,t<k/\rw t=i
  ·obtain⟨t,ht,rfl⟩:=hu
   exact x3 t (aB _) ht
  have hu':∀t,t<k->rw t≠i:=λt ht e=>hu ⟨t,ht,e⟩
  refine fF λj hj=>?_
  by_cases e:j=c
  ·subst e;rw[hz i hi hu',dL]
  by_cases hcl:∃t,t<k/\cl t=j
  ·obtain⟨t,ht,rfl⟩:=hcl
   rw[h.zu t i ht hi hu',dL]
  rw[x2 j e λt _ ht e2=>hcl ⟨t,ht,e2⟩,bU]
 refine⟨x,⟨c,hcn,by rw[x1];decide⟩,λi hi=>?_⟩
 rw[h.sum i hi x,hE i hi,bNp λe he=>?_,bK]
 have:=(h.lok i hi).2 e he
 exact hE _ (h.rlt _ oM)
theorem aRq {p:List Int} {n c:Nat} (hP:PmL p n) (hc:c<n):∀{es:List En},(∀e∈es,0<=e.1/\e.1<(n:Nat))->Vm.get (es.map (rnE p)) (p.getD c 0)=Vm.get es (c:Nat)
 |[],_=>rfl
 |e::es,h=>by
  rw[eQ,vI,vI,aRq hP hc λe' he=>h e' (.tail _ he)]
  congr 1
  obtain⟨h1,h2⟩:=h e (.head _)
  by_cases hh:e.1=(c:Nat)
  ·rw[U3 hh,U3];rfl
   show p.getD e.1.toNat 0=_
   rw[hh];rfl
  rw[U2 hh,U2]
  intro h3
  have:=hP.inj e.1.toNat c oM hc h3
  omega
theorem bEb {p:List Int} {n:Nat} {cl:Nat->Nat} {x:Nat->Rat} (hcl:∀c,c<n->cl (p.getD c 0).toNat=c):∀{es:List En},(∀e∈es,0<=e.1/\e.1<(n:Nat))->dtl (es.map (rnE p)) (λi=>x (cl i))=dtl es x
 |[],_=>rfl
 |e::es,h=>by
  show e.2*x (cl (p.getD e.1.toNat 0).toNat)+dtl (es.map (rnE p)) (λi=>x (cl i))=e.2*x e.1.toNat+dtl es x
  obtain⟨h1,h2⟩:=h e (.head _)
  rw[bEb hcl λe' he=>h e' (.tail _ he),hcl e.1.toNat oM]
theorem aRr {p:List Int} {n:Nat} {es rs:List En} (hP:PmL p n) (ho:VOk es (n:Nat)) (ha:Asc rs) (hp:rs.Perm (es.map (rnE p))):VOk rs (n:Nat):=⟨ha,λe he=>by
 obtain⟨e',he',rfl⟩:=bZ.1 (hp.mem_iff.1 he)
 obtain⟨h1,h2,h3⟩:=ho.2 e' he'
 obtain⟨m,hm,hmn⟩:=hP.at' e'.1.toNat oM
 show 0<=p.getD e'.1.toNat 0/\p.getD e'.1.toNat 0<(n:Nat)/\_
 rw[hm]
 exact⟨Uc,Uc,h3⟩⟩
structure LuOk (M:Nat->List En) (n:Nat) (rw cl:Nat->Nat) (Lw Up:Nat->List En):Prop where
 rlt:∀j,j<n->rw j<n
 rinj:∀i j,i<n->j<n->rw i=rw j->i=j
 clt:∀j,j<n->cl j<n
 cinj:∀i j,i<n->j<n->cl i=cl j->i=j
 low:∀k,k<n->∃l,Lw k=l++[((k:Int),1)]/\VOk l (k:Nat)
 up:∀k,k<n->∃p u,Up k=((k:Int),p)::u/\VOk (Up k) (n:Nat)
 eq:∀k,k<n->∀x,dtn n (M (rw k)) x=dtl (Lw k) λj=>dtn n (Up j) λi=>x (cl i)
theorem pL {f:Nat->Nat} {n:Nat} (h:∀j,j<n->f j<n) (hi:∀i j,i<n->j<n->f i=f j->i=j):∀c,c<n->∃j,j<n/\f j=c:=λc hc=>aN λhn=>by
 have h1:(c::(List.range n).map f).Nodup:=by
  refine kN.2 ⟨λhh=>?_,?_⟩
  ·obtain⟨j,hj,he⟩:=bZ.1 hh
   exact hn ⟨j,cJ.1 hj,he⟩
  rw[cT,gI]
  exact(cT.1 (mH (n:=n))).imp_of_mem λ{a b} ha hb hab he=>hab (hi a b (cJ.1 ha) (cJ.1 hb) he)
 have h2:=qY (n:=n) h1 λi hi=>by
  rcases bW.1 hi with rfl|hi
  ·exact hc
  obtain⟨j,hj,rfl⟩:=bZ.1 hi
  exact h j (cJ.1 hj)
 simp at h2
 omega
abbrev nL (n:Nat) (f:Nat->Nat):List Int:=(List.range n).map λj=>((f j:Nat):Int)
theorem yF {n j:Nat} {f:Nat->Nat} (h:j<n):(nL n f).getD j 0=(f j:Nat):=by unfold nL;simp[h]
theorem bEc {n:Nat} {f:Nat->Nat} (h:∀j,j<n->f j<n) (hi:∀i j,i<n->j<n->f i=f j->i=j):PmL (nL n f) n:=⟨by simp,λi hin=>⟨f i,yF hin,h i hin⟩,λi j hin hjn he=>by rw[yF hin,yF hjn] at he;exact hi i j hin hjn (jY he)⟩
theorem Elim.all {M:Nat->List En} {n:Nat} {rw cl pl:Nat->Nat} {A:List Int} {es lw:Nat->List En} (h:Elim M n n rw cl A es lw) (hp:∀j,j<n->pl (cl j)=j):PmL (nL n pl) n:=by
 have hs:=pL h.clt h.cinj
 refine bEc (λc hc=>?_) λc d hc hd he=>?_
 ·obtain⟨j,hj,rfl⟩:=hs c hc;rw[hp j hj];exact hj
 obtain⟨i,hi,rfl⟩:=hs c hc
 obtain⟨j,hj,rfl⟩:=hs d hd
 rw[hp i hi,hp j hj] at he
 rw[he]
theorem Elim.lu {M:Nat->List En} {n:Nat} {rw cl pl:Nat->Nat} {A:List Int} {es lw Up:Nat->List En} (h:Elim M n n rw cl A es lw) (hp:∀j,j<n->pl (cl j)=j) (ho:∀i,i<n->VOk (es i) (n:Nat)) (hU:∀k,k<n->Asc (Up k)/\(Up k).Perm ((es (rw k)).map (rnE (nL n pl)))):LuOk M n rw cl (λk=>lw (rw k)++[((k:Int),1)]) Up:=by
 have hP:=h.all hp
 have hs:=pL h.clt h.cinj
 have hcl:∀c,c<n->cl ((nL n pl).getD c 0).toNat=c:=λc hc=>by
  obtain⟨j,hj,rfl⟩:=hs c hc
  rw[yF hc,hp j hj];rfl
 have hV:∀k,k<n->VOk (Up k) (n:Nat):=λk hk=>aRr hP (ho _ (h.rlt k hk)) (hU k hk).1 (hU k hk).2
 have hg:∀k j,k<n->j<n->Vm.get (Up k) (j:Nat)=Vm.get (es (rw k)) (cl j:Nat):=λk j hk hj=>by
  have:=aRq hP (h.clt j hj) (ho _ (h.rlt k hk)).rg
  rw[yF (h.clt j hj),hp j hj] at this
  rw[get_perm (hU k hk).2,this]
 refine⟨h.rlt,h.rinj,h.clt,h.cinj,λk hk=>⟨lw (rw k),U,h.lus k hk⟩,λk hk=>?_,λk hk x=>?_⟩
 ·have h1:Vm.get (Up k) (k:Nat)≠0:=by rw[hg k k hk hk];exact h.piv k hk
  obtain⟨e,he,hek⟩:=(uN (hV k hk) _).1 h1
  cases hu:Up k with
  |nil=>rw[hu] at he;cases he
  |cons e0 u=>
   have hv:=hV k hk
   have ha:=(hU k hk).1
   rw[hu] at he ha
   have h0:=hv.2 e0 (by rw[hu];exact .head _)
   have hge:¬e0.1<(k:Nat):=λhlt=>by
    have h2:=hg k e0.1.toNat hk oM
    rw[h.zl e0.1.toNat k oM hk,show((e0.1.toNat:Nat):Int)=e0.1 by omega,hu,get_head ha] at h2
    exact h0.2.2 h2
   have hle:e0.1<=(k:Nat):=by
    rcases bW.1 he with rfl|he
    ·omega
    have:=ha.head e he;omega
   refine⟨e0.2,u,?_,hu▸hv⟩
   rw[show(k:Int)=e0.1 by omega]
 show _=dtl (lw (rw k)++[((k:Int),1)]) _
 have hx:∀j,j<n->dtn n (es (rw j)) x=dtn n (Up j) λi=>x (cl i):=λj hj=>by
  rw[<-tW (hV j hj).rg,aOu (hU j hj).2,bEb hcl (ho _ (h.rlt j hj)).rg,tW (ho _ (h.rlt j hj)).rg]
 rw[h.sum _ (h.rlt k hk),vH,hx k hk,Rat.add_comm]
 congr 1
 ·refine nA λe he=>hx _ ?_
  have:=(h.lus k hk).2 e he
  omega
 show _=(1:Rat)*_;rw[iY];rfl
def prT (q:Nat->List Nat->Tr->Tr):Nat->List Nat->Tr->Tr
 |0,_,t=>t
 |f+1,l,t=>l.foldr (λi r=> .alt i (q i (l.erase i) (prT q f (l.erase i) t)) r) .nil
def cBt:Nat->Tr->Tr
 |7,t=> .alt 2008 t .nil
 |12,t=> .alt 2013 t .nil
 |_,t=>t
def cBu (i:Nat) (l:List Nat) (t:Tr):Tr:=cBt i (bif (l.filter λj=>!Nat.beq j 15).isEmpty&&!Nat.beq i 15 then .alt 2014 t .nil else t)
theorem gs0 {nb:Nat} {s:SS} {σ:Type} {S:σ->SS} {C:σ->Prop} (t i:Nat) {n:Nat} (_:gK s.sl t=some (.c (.s i n))) (h:Gt nb s S C):Gt nb s S C:=h
def bd (B:Nat):Nat->Nat
 |0=>B
 |k+1=>4*bd B k+1
theorem mV {B k n:Nat} (h:k<=n):bd B k<=bd B n:=by
 induction h with
 |refl=>exact aH _
 |step _ ih=>exact aJ ih (by show _<=4*bd B _+1;omega)
theorem wQ {B:Nat} (h:1<=B) (k:Nat):1<=bd B k:=aJ h (mV (aB k))
theorem ElOk.cg {x:El} {n:Nat} {es lw:Nat->List En} {u v:Nat->Prop} (h:ElOk x n es lw u) (hu:∀i,u i↔v i):ElOk x n es lw v:=⟨h.row,h.ok,h.low,h.ca,h.nd,λj hj i=>by rw[h.mem j hj i,hu i]⟩
structure LuM where
 R:Sl Int
 K:Sl Int
 L:MatM
 Ub:MatM
abbrev LuM.C (f:LuM):List CV:=[cI f.R,cI f.K,iC f.L.r,iC f.L.c,mU f.L.d,iC f.Ub.r,iC f.Ub.c,mU f.Ub.d]
abbrev luZ:List CV:=[.v (.slice none 0 0),.v (.slice none 0 0),iC 0,iC 0,.v (.slice none 0 0),iC 0,iC 0,.v (.slice none 0 0)]
abbrev ioC (n:Nat) (f:Nat->Nat):List CV:=eA n λj=>iC (f j:Nat)
abbrev bKk (m:MatM) (n:Nat) (r:BL):BL:=[(78,0,m.C),(80,0,luZ),(3,1,List.replicate n (iC 0)),(3,1,List.replicate n (iC 0)),(57,1,List.replicate n (.v (.slice none 0 0))),(57,1,List.replicate n (.v (.slice none 0 0))),(80,0,[.s 2 n,.s 3 n,iC n,iC n,.s 4 n,iC n,iC n,.s 5 n])]++r
abbrev bKl (n:Nat):List (Nat×DV):=[(5,.c (.p 6 0)),(4,.c (iC n)),(1,.c (.p 0 0)),(2,.c (.p 1 0))]
def cBv:Ord:=.joinX [] [2000,2002,2004,2005,2006,2009,2010,2011] (prT cBu 5 [1,3,7,12,15] (trS [1016]))
structure FaI (M:Nat->List En) (B n k:Nat) (x:El) (es lw:Nat->List En) (A:List Int) (rw cl pl:Nat->Nat):Prop where
 hk:k<=n
 he:Elim M n k rw cl A es lw
 hx:ElOk x n es lw (λi=>∃t,t<k/\rw t=i)
 be:rbM es n (bd B (min k (n-1)))
 bl:rbM lw n (bd B (min k (n-1)))
 hp:∀j,j<k->pl (cl j)=j
structure FaG where
 k:Nat
 x:El
 es:Nat->List En
 lw:Nat->List En
 A:List Int
 rw:Nat->Nat
 cl:Nat->Nat
 pl:Nat->Nat
abbrev faB (m:MatM) (n a:Nat) (x:El) (A:List Int) (rw cl pl:Nat->Nat):BL:=[(78,0,m.C),(80,0,luZ),(3,1,ioC n rw),(3,1,ioC n cl),(57,1,List.replicate n (.v (.slice none 0 0))),(57,1,List.replicate n (.v (.slice none 0 0))),(80,0,[.s 2 n,.s 3 n,iC n,iC n,.s 4 n,iC n,iC n,.s 5 n]),(3,1,ioC n pl),(78,0,m.C),elR n x,elL n x,elC n x,elA A,elE 9 10 11 12 n a]
theorem bEd {m:MatM} {n a:Nat} {x:El} {A:List Int} {rw cl pl:Nat->Nat}:scB 14 (faB m n a x A rw cl pl):=aA U (aA U (aA (bG (bD λ_ _=>U)) (aA (bG (bD λ_ _=>U)) (aA (bG (rF U)) (aA (bG (rF U)) (aA U (aA (bG (bD λ_ _=>U)) (aA U (aA (bG (bD λ_ _=>U)) (aA (bG (bD λ_ _=>U)) (aA (bG (bD λ_ _=>U)) (aA (bG (aW _)) (aA U aU)))))))))))))
abbrev faG (n k:Nat):List (Nat×DV):=[(46,.c (iC k)),(45,.c (iC n)),(7,.c (.p 13 0)),(5,.c (.p 6 0)),(6,.c (.s 7 n)),(2,.c (.p 1 0))]
theorem aRs {n k:Nat} {c1 c2:CV} (h1:(List.replicate n (iC 0))[k]? =some c1) (h2:(ioC n λ_=>0)[k]? =some c2):LeC c1 c2:=uM (λ_ _=>fE _) k c1 c2 h1 h2
theorem aRt {n j v:Nat} {f:Nat->Nat} (h:j<n):mJ (ioC n f) (j*1) [iC (v:Nat)]=ioC n (upd f j v)/\j*1+1<=(ioC n f).length:=gX h λi _=>by
 by_cases e:i=j
 ·subst e;rw[U3 U,bF]
 rw[U2 e,aY e]
def cBw (n:Nat) (x:El) (A:List Int):Option (Nat×Nat×Nat)->OutF
 |none=>⟨.t [.c (iC 0),.c (iC 0),.c (.v (.bool false))],chB n A.length x A,[CF n x],∃c:Nat,c<n/\(c:Int)∈A/\x.U8 c=[]⟩
 |some (r,c,p)=>⟨.t [.c (iC r),.c (iC c),.c (.v (.bool true))],chB n (A.eraseIdx p).length x (A.eraseIdx p),[CF n x],(p<A.length/\A.getD p 0=(c:Nat))/\c<n/\r∈kW (x.U8 c)⟩
theorem aXk (x:El) {n:Nat} {A:List Int} {es lw:Nat->List En} {used:Nat->Prop} (h:ElOk x n es lw used) (h0:0<A.length) (hl:A.length<=4096) (hA:∀a∈A,0<=a/\a<(n:Nat)):CtrF pgQ 150 chL [.c (.p 0 0)] (chB n A.length x A) [CF n x] (cBw n x A):=(bDn x h h0 hl hA).re λg hg=>⟨g,by
 match g,hg with
 |none,hg=>exact⟨hg,U,U,U⟩
 |some (r,c,p),hg=>
  refine⟨hg,U,?_,U⟩
  show chB n _ x _=chB n _ x _
  rw[tG hg.1.1]⟩
def bXu:Ord:=.treeX [] [2000,1,2002,2003,4,2005,2006,2007,2008,2009,2010] (trS [2011,12,2013,14,2015,1016])
theorem aUq {n:Nat} {f:Nat->Nat} (j:Nat) (h:j<n):[iC ((nL n f).getD j 0)]=((ioC n f).drop (j*1)).take 1:=by
 have h1:=eD (P:=λj=>iC (f j:Nat)) h
 rw[bE] at h1
 rw[yF h,bE,dK (by rw[dD];exact h)]
 rw[aG (by rw[dD];exact h)] at h1
 injection h1 with h1
 rw[h1];rfl
theorem aUr {T n c:Nat} {A:Option Nat} {f:Nat->Nat}:FrC ⟨T,1,1,λ_=>A,λ_=>c,λ_=>ioC n f⟩ (.h A n c) (cI ⟨A.map λb=>⟨b,0,none⟩,c,nL n f⟩):=⟨0,n,λj=>[iC ((nL n f).getD j 0)],bL,U,by unfold cI Sl.R;rw[aK,fJ],by rw[dD,bE],λk hk=>aUq k hk⟩
structure FbG where
 k:Nat
 LA:Nat->Option Nat
 Lc:Nat->Nat
 G:Nat->List EntM
 HA:Nat->Option Nat
 Hn:Nat->Nat
 Hc:Nat->Nat
 S:Nat->Sl EntM
 Up:Nat->List En
structure FbI (n:Nat) (x:El) (es lw:Nat->List En) (rw pl:Nat->Nat) (g:FbG):Prop where
 hk:g.k<=n
 hu:∀j,j<g.k->Ek (g.S j).l (g.Up j)/\Asc (g.Up j)/\(g.Up j).Perm ((es (rw j)).map (rnE (nL n pl)))
 hd:∀j,j<g.k->(g.LA (rw j)=g.HA j/\g.Lc (rw j)=g.Hc j/\(g.G (rw j)).length=g.Hn j)/\Ek (g.G (rw j)) (lw (rw j)++[((j:Int),1)])
 hr:∀i,i<n->(∀t,t<g.k->rw t≠i)->g.LA i=x.LA i/\g.Lc i=x.Lc i/\g.G i=x.L i
abbrev fbH (g:FbG):Nat->CV:=λj=> .h (g.HA j) (g.Hn j) (g.Hc j)
abbrev fbB (m:MatM) (n a:Nat) (x:El) (A:List Int) (rw cl:Nat->Nat) (g:FbG):BL:=[(78,0,m.C),(80,0,luZ),(3,1,ioC n rw),(3,1,ioC n cl),(57,1,eA n (fbH g)),(57,1,eA n λj=>cF (g.S j)),(80,0,[.s 2 n,.s 3 n,iC n,iC n,.s 4 n,iC n,iC n,.s 5 n]),(3,1,[]),(78,0,m.C),elR n x,elL n x,elC n x,elA A,elE 9 10 11 12 n a]
theorem bEe {m:MatM} {n a:Nat} {x:El} {A:List Int} {rw cl:Nat->Nat} {g:FbG}:scB 14 (fbB m n a x A rw cl g):=aA U (aA U (aA (bG (bD λ_ _=>U)) (aA (bG (bD λ_ _=>U)) (aA (bG (bD λ_ _=>U)) (aA (bG (bD λ_ _=>U)) (aA U (aA U (aA U (aA (bG (bD λ_ _=>U)) (aA (bG (bD λ_ _=>U)) (aA (bG (bD λ_ _=>U)) (aA (bG (aW _)) (aA U aU)))))))))))))
abbrev fbF (n:Nat) (x:El) (g:FbG):List Fam:=[⟨75,4,n,g.LA,g.Lc,λj=>ecs (g.G j)⟩,CF n x]
abbrev fbS (n:Nat) (P:Sl Int) (k:Nat):List (Nat×DV):=[(81,.c (iC k)),(79,.c (.s 2 n)),(80,.c (iC n)),(7,.c (.p 13 0)),(5,.c (.p 6 0)),(6,.c (cI P)),(2,.c (.p 1 0))]
def bXv:Ord:=.treeX [] [2000,2001,2,2003,2004,2005,2006,7,2008,2009,1010,2011] (trS [12,2013,14,15,2016,1017])
def bXw:Ord:=.treeX [] [2000,2001,2,2003,2004,2005,2006,7,2008,2009,1010,2011] (trS [12,2013,2014,2015,2016,1017])
theorem cm {i:Nat} {l:List CV} (h:∀c∈l,fS c=true):∀c∈l,kS i c=false:=λc hc=>bJ (h c hc)
theorem sk {i a:Nat} {A:Option Nat} {l:List CV} (h:∀c∈l,fS c=true):l.map (qC i A a)=l:=(dR λc hc=>kE c (h c hc)).trans (yZ _)
theorem aRu {B:Nat} (h:1<=B):rb 1 B:=⟨by show len 1<=B;rw[show len 1=1 by decide];omega,by show len 1<=B;rw[show len 1=1 by decide];omega⟩
theorem bEf {l:List En} {k n:Nat} (h:VOk l (k:Nat)) (hk:k<n):VOk (l++[((k:Int),1)]) (n:Nat):=⟨eR.2 ⟨h.1,eK _ _,λa ha b hb=>by rw[aE.1 hb];exact(h.2 a ha).2.1⟩,λe he=>by
 rcases aO.1 he with he|he
 ·have:=h.2 e he;exact⟨this.1,Uc,this.2.2⟩
 rw[aE.1 he];exact⟨by show(0:Int)<=(k:Nat);omega,by show(k:Int)<(n:Nat);omega,show(1:Rat)≠0 by decide⟩⟩
theorem bEg (m:MatM) {M:Nat->List En} {n B:Nat} (h:Mr m M n n B) (hb:rbM M n B) (h1:1<=B) (hB:bd B (n-1)<=4398046511104) (hn:n<=12):Ctr pgQ 98 [] [.a m.C] [] (λg:Option (LuM×(Nat->Nat)×(Nat->Nat)×(Nat->List En)×(Nat->List En))=>match g with
 |none=>⟨.t [.a luZ,.c (iC 6)],[],Ker M n⟩
 |some (f,rw,cl,Lw,Up)=>⟨.t [.a f.C,.c (iC 0)],[],(f.R.l=nL n rw/\f.K.l=nL n cl/\Mx f.L Lw n/\Mx f.Ub Up n)/\LuOk M n rw cl Lw Up/\rbM Lw n (bd B (n-1))/\rbM Up n (bd B (n-1))⟩):=by
 obtain⟨mr,mc,md⟩:=m
 obtain rfl:mr=(n:Nat):=h.r
 obtain rfl:mc=(n:Nat):=h.c
 have hBB:B<=4398046511104:=aJ (mV (aB (n-1))) hB
 have mk1:n<=maxLen:=by simp only[maxLen];omega
 have fin1:∀(sl:List (Nat×DV)),wZ (λ_=>true) [] [] [] sl->AllC sl (bKl n)->Gt 0 ⟨sl,[],bKk ⟨n,n,md⟩ n [],[]⟩ (σ:=Unit) (λ_=>⟨bKl n++[],[],bKk ⟨n,n,md⟩ n [],[]⟩) (λ_=>True):=λsl ht ha=>by
  refine @iP 0 _ (λ_=>true) [] (λt d ht=>by cases ht) Unit (λ_=>bKl n) (λ_=>bKk ⟨n,n,md⟩ n []) (λ_=>[]) _ () trivial ht ?_ trivial ha (aB _) ?_ rfl
  ·exact rS
  exact aA U (aA U (aA (bG (rF U)) (aA (bG (rF U)) (aA (bG (rF U)) (aA (bG (rF U)) (aA U aU))))))
 refine cw func98 (⟨[],aGk _ h hBB oM oM,U,U,U,λ_ _=>⟨λhh=>U4 trivial hh,λ_=>vk ⟨λhh=>U4 U hh,λ_=>vk ?_⟩⟩⟩)
 refine⟨cBv,U0,Unit,λ_=>⟨bKl n++[],[],bKk ⟨n,n,md⟩ n [],[]⟩,λ_=>True,?_,λ_ _=>?_⟩
 ·refine⟨?_,?_,?_,?_,?_⟩
  all_goals (first|refine⟨n,⟨U,U,by show 8*n<=_;omega,mk1⟩,U,?_⟩|refine⟨n,⟨U,U,by show 24*n<=_;omega,mk1⟩,U,?_⟩|refine⟨U,?_⟩)
  all_goals refine⟨?_,?_,?_,?_⟩
  all_goals (first|refine⟨n,⟨U,U,by show 8*n<=_;omega,mk1⟩,U,?_⟩|refine⟨n,⟨U,U,by show 24*n<=_;omega,mk1⟩,U,?_⟩|refine⟨U,?_⟩)
  all_goals refine⟨?_,?_,?_⟩
  all_goals (first|refine⟨n,⟨U,U,by show 8*n<=_;omega,mk1⟩,U,?_⟩|refine⟨n,⟨U,U,by show 24*n<=_;omega,mk1⟩,U,?_⟩|refine⟨U,?_⟩)
  all_goals refine⟨?_,?_⟩
  all_goals (first|refine⟨n,⟨U,U,by show 8*n<=_;omega,mk1⟩,U,?_⟩|refine⟨n,⟨U,U,by show 24*n<=_;omega,mk1⟩,U,?_⟩|refine⟨U,?_⟩)
  all_goals (first|refine⟨n,⟨U,U,by show 8*n<=_;omega,mk1⟩,U,?_⟩|refine⟨n,⟨U,U,by show 24*n<=_;omega,mk1⟩,U,?_⟩|refine⟨U,?_⟩)
  all_goals (first|refine gs0 27 2 U ?_|refine gs0 27 3 U (gsw 2 3 U U bL bL U ⟨_,rpm aP U,_,rpm aP U,_,rpm aP U,_,rpm aP U,bL,?_⟩)|refine gs0 27 4 U (gsw 2 4 U U bL bL U ⟨_,rpm aP U,_,rpm aP U,_,rpm aP U,_,rpm aP U,bL,?_⟩)|refine gs0 27 5 U (gsw 2 5 U U bL bL U ⟨_,rpm aP U,_,rpm aP U,_,rpm aP U,_,rpm aP U,bL,?_⟩)|refine gs0 27 6 U (gsw 2 6 U U bL bL U ⟨_,rpm aP U,_,rpm aP U,_,rpm aP U,_,rpm aP U,bL,?_⟩))
  all_goals (first|refine gs0 29 3 U ?_|refine gs0 29 4 U (gsw 3 4 U U bL bL U ⟨_,rpm aP U,_,rpm aP U,_,rpm aP U,_,rpm aP U,bL,?_⟩)|refine gs0 29 5 U (gsw 3 5 U U bL bL U ⟨_,rpm aP U,_,rpm aP U,_,rpm aP U,_,rpm aP U,bL,?_⟩)|refine gs0 29 6 U (gsw 3 6 U U bL bL U ⟨_,rpm aP U,_,rpm aP U,_,rpm aP U,_,rpm aP U,bL,?_⟩))
  all_goals (first|refine gs0 33 4 U ?_|refine gs0 33 5 U (gsw 4 5 U U bL bL U ⟨_,rpm aP U,_,rpm aP U,_,rpm aP U,_,rpm aP U,bL,?_⟩)|refine gs0 33 6 U (gsw 4 6 U U bL bL U ⟨_,rpm aP U,_,rpm aP U,_,rpm aP U,_,rpm aP U,bL,?_⟩))
  all_goals (first|refine gs0 38 5 U ?_|refine gs0 38 6 U (gsw 5 6 U U bL bL U ⟨_,rpm aP U,_,rpm aP U,_,rpm aP U,_,rpm aP U,bL,?_⟩))
  all_goals exact fin1 _ (by rfl) (by exact rS)
 refine⟨n,⟨U,U,by show 8*n<=_;omega,mk1⟩,[],bJy ⟨n,n,md⟩ h hb h1 hBB oM,U,U,U,λx hx=>?_⟩
 replace hx:ElOk x n M (λ_=>[]) (λ_=>False):=hx
 show Sd _ _ _ _ _ _
 refine gJ tSd 2 (ioC n λ_=>0) U (by rw[dD,cU]) (λ_ _ _=>aRs) ?_
 refine gJ tSd 3 (ioC n λ_=>0) U (by rw[dD,cU]) (λ_ _ _=>aRs) ?_
 refine gJ tSd 7 (ioC n λ_=>0) U (by rw[dD,cU]) (λ_ _ _=>aRs) ?_
 refine bX (λ_=>true) (λg:FaG=>faG n g.k) (λg=>faB ⟨n,n,md⟩ n g.A.length g.x g.A g.rw g.cl g.pl) (λg=>[LF n g.x,CF n g.x]) (λg=>FaI M B n g.k g.x g.es g.lw g.A g.rw g.cl g.pl) (λg=>n-g.k) λhM=>⟨hM ⟨0,x,M,λ_=>[],aL n n,λ_=>0,λ_=>0,λ_=>0⟩ ⟨aB _,Elim.start M n _ _,hx.cg λi=>⟨False.elim,λ⟨t,ht,_⟩=>U4 ht (aF _)⟩,(by show rbM M n (bd B (min 0 (n-1)));rw[Nat.zero_min];exact hb),λi _ e he=>(by cases he),λj hj=>U4 hj (aF _)⟩ U ⟨U,U,U,U,U,U,U,U,U,U,U,U,U,?_⟩ ⟨U,U,tV⟩ rS bL bEd U,λ⟨k,x,es,lw,A,rw,cl,pl⟩ hI=>vk ⟨λh2=>vk ?_,λh2=>vk ?_⟩⟩
 ·show elE 9 10 11 12 n n=elE 9 10 11 12 n (aL n n).length
  rw[bDh];simp
 ·replace h2:(k:Int)<(n:Nat):=h2
  have hkn:k<n:=Uc
  obtain⟨-,he,hx,hbe,hbl,hpp⟩:=hI
  replace he:Elim M n k rw cl A es lw:=he
  replace hx:ElOk x n es lw (λi=>∃t,t<k/\rw t=i):=hx
  replace hbe:rbM es n (bd B (min k (n-1))):=hbe
  replace hbl:rbM lw n (bd B (min k (n-1))):=hbl
  replace hpp:∀j,j<k->pl (cl j)=j:=hpp
  have hAl:=he.kn
  have hA:∀a∈A,0<=a/\a<(n:Nat):=λa ha=>by
   obtain⟨j,rfl,hj,_⟩:=(he.mem a).1 ha
   omega
  refine⟨[13,9,10,11,12,1001],aXk x hx oM oM hA,U,U,U,λg hg=>?_⟩
  match g,hg with
  |none,⟨c,hc,hcA,hI⟩=>
   have hker:Ker M n:=he.ker hcA λi hi hu=>aN λhne=>by
    have:=(hx.mem c hc i).2 ⟨⟨hi,λ⟨t,ht,e⟩=>hu t ht e⟩,hne⟩
    rw[hI] at this
    cases this
   exact⟨none,hker,aI ⟨U,U⟩ U tV⟩
  |some (r,c,p),⟨⟨hp,hc⟩,hcn,hrk⟩=>
   obtain⟨⟨hr,hu⟩,hpv⟩:=(hx.mem c hcn r).1 hrk
   have hbm:bd B (min k (n-1))<=4398046511104:=aJ (mV oM) hB
   have hbb:∀i,i<n->¬(∃t,t<k/\rw t=i)->i≠r->k+1<n:=λi hi hui hir=>aN λhk2=>by
    obtain rfl:n=k+1:=Uc
    obtain⟨t,ht,e⟩:=pL (f:=upd rw k r) (n:=k+1) (λj hj=>by
     by_cases e:j=k
     ·subst e;rw[bF];exact hr
     ·rw[aY e];exact he.rlt j oM) (λa b ha hb e=>by
     by_cases e1:a=k
     ·by_cases e2:b=k
      ·omega
      subst e1;rw[bF,aY e2] at e;exact U4 ⟨b,Uc,e.symm⟩ hu
     by_cases e2:b=k
     ·subst e2;rw[bF,aY e1] at e;exact U4 ⟨a,Uc,e⟩ hu
     rw[aY e1,aY e2] at e;exact he.rinj a b oM oM e) i hi
    by_cases e2:t=k
    ·subst e2;rw[bF] at e;exact hir e.symm
    rw[aY e2] at e;exact hui ⟨t,Uc,e⟩
   have hbo:∀i,i<n->¬(∃t,t<k/\rw t=i)->i≠r->4*bd B (min k (n-1))+1<=4398046511104:=λi hi hui hir=>by
    have h7:=hbb i hi hui hir
    rw[eZ oM]
    exact aJ (mV (k:=k+1) oM) hB
   refine⟨bXu,U0,k,⟨U,hkn,cS hkn⟩,_,aRt hkn,U,k,⟨U,hkn,cS hkn⟩,_,aRt hkn,U,c,⟨U,hcn,cS hcn⟩,_,aRt hcn,?_⟩
   refine⟨[13,9,10,11,12,1000,1001],bSq x (A:=A.eraseIdx p) (kk:=k) hx oM hr hu hcn hpv hbe hbl (wQ h1 _) hbm hbo oM (λi hi=>by have:=kY (he.lok i hi);omega),U,U,U,λ⟨x',es',lw'⟩ ⟨⟨hx',hS⟩,hbe',hbl'⟩=>?_⟩
   have hbx:rbM es' n (bd B (min (k+1) (n-1)))/\rbM lw' n (bd B (min (k+1) (n-1))):=by
    by_cases hk2:k+1<n
    ·rw[show min (k+1) (n-1)=k+1 by omega]
     rw[show min k (n-1)=k by omega] at hbe' hbl'
     exact⟨hbe',hbl'⟩
    rw[show min (k+1) (n-1)=min k (n-1) by omega]
    have h9:∀i,es' i=es i/\lw' i=lw i:=λi=>hS.no i λhh=>hk2 (hbb i hh.1.1 hh.1.2.1 hh.1.2.2)
    exact⟨λi hi=>by rw[(h9 i).1];exact hbe i hi,λi hi=>by rw[(h9 i).2];exact hbl i hi⟩
   replace hu:∀t,t<k->rw t≠r:=λt ht e=>hu ⟨t,ht,e⟩
   have he':=he.next hr hu hp hc hpv hS λi=>iO
   refine⟨(k+1:Nat),wi,hM ⟨k+1,x',es',lw',A.eraseIdx p,upd rw k r,upd cl k c,upd pl c k⟩ ⟨⟨hkn,he',hx'.cg λi=>⟨λhh=>?_,λ⟨t,ht,e⟩=>?_⟩,hbx.1,hbx.2,λj hj=>?_⟩,show n-(k+1)<n-k by omega⟩ U rS ⟨U,U,tV⟩ rS bL bEd U⟩
   ·rcases hh with ⟨t,ht,e⟩|e
    ·exact⟨t,dY ht,(aY oM).trans e⟩
    exact⟨k,aS k,bF.trans e.symm⟩
   ·replace ht:t<k+1:=ht
    replace e:upd rw k r t=i:=e
    by_cases e2:t=k
    ·subst e2;rw[bF] at e;exact .inr e.symm
    rw[aY e2] at e;exact .inl ⟨t,Uc,e⟩
   replace hj:j<k+1:=hj
   show upd pl c k (upd cl k c j)=j
   by_cases e2:j=k
   ·subst e2;rw[bF,bF]
   have e3:cl j≠c:=λe4=>by
    have h5:=he'.cinj j k oM oM
    rw[aY e2,bF] at h5
    exact e2 (h5 e4)
   rw[aY e2,aY e3]
   exact hpp j oM
 replace h2:¬(k:Int)<(n:Nat):=h2
 obtain⟨hk,he,hx,hbe,hbl,hpp⟩:=hI
 replace hk:k<=n:=hk
 obtain rfl:n=k:=Uc
 replace he:Elim M n n rw cl A es lw:=he
 replace hx:ElOk x n es lw (λi=>∃t,t<n/\rw t=i):=hx
 replace hbe:rbM es n (bd B (min n (n-1))):=hbe
 rw[show min n (n-1)=n-1 by omega] at hbe
 replace hbl:rbM lw n (bd B (min n (n-1))):=hbl
 rw[show min n (n-1)=n-1 by omega] at hbl
 replace hpp:∀j,j<n->pl (cl j)=j:=hpp
 have hP:=he.all hpp
 show Sd _ _ _ _ _ _
 refine nS 6 7 (λj=>[iC ((nL n pl).getD j 0)]) U U (λj hj=>aUq j hj) (by rw[dD,bE]) bL (bD λ_ _=>U) bL λPA pc _ _=>⟨cm (bD λ_ _=>U),cm (bD λ_ _=>U),cm (rF U),cm (rF U),cm (bD λ_ _=>U),cm (bD λ_ _=>U),cm (bD λ_ _=>U),cm (aW _),vk ?_⟩
 show Sd _ _ _ _ _ _
 refine gJ tSd 4 (eA n λ_=> .h none 0 0) U (by rw[dD,cU]) (uM λ_ _=>LeC.nilh) ?_
 refine gJ tSd 5 (eA n λ_=>cF cG) U (by rw[dD,cU]) (uM λ_ _=>qW) ?_
 have hPl:(nL n pl).length=n:=hP.ln
 obtain⟨P,hPe⟩:∃P:Sl Int,P=⟨PA,pc,nL n pl⟩:=⟨_,U⟩
 have hPs:CV.r PA n pc 1 (λj=>[iC ((nL n pl).getD j 0)])=cI P:=by rw[hPe];unfold cI Sl.R;rw[hPl]
 refine bX (λ_=>true) (λg:FbG=>fbS n P g.k) (λg=>fbB ⟨n,n,md⟩ n A.length x A rw cl g) (λg=>fbF n x g) (λg=>FbI n x es lw rw pl g) (λg=>n-g.k) λhM2=>⟨hM2 ⟨0,x.LA,x.Lc,x.L,λ_=>none,λ_=>0,λ_=>0,λ_=>cG,λ_=>[]⟩ ⟨aB _,λj hj=>U4 hj (aF _),λj hj=>U4 hj (aF _),λi _ _=>⟨U,U,U⟩⟩ U rS ⟨U,U,tV⟩ ⟨U,U,U,U,U,hPs,U⟩ bL bEe U,λ⟨k,LA,Lc,G,HA,Hn,Hc,S,Up⟩ ⟨hk,hu,hd,hr⟩=>vk ⟨λh3=>vk ?_,λh3=>vk ?_⟩⟩
 all_goals
  replace hk:k<=n:=hk
  replace hu:∀j,j<k->Ek (S j).l (Up j)/\Asc (Up j)/\(Up j).Perm ((es (rw j)).map (rnE (nL n pl))):=hu
  replace hd:∀j,j<k->(LA (rw j)=HA j/\Lc (rw j)=Hc j/\(G (rw j)).length=Hn j)/\Ek (G (rw j)) (lw (rw j)++[((j:Int),1)]):=hd
  replace hr:∀i,i<n->(∀t,t<k->rw t≠i)->LA i=x.LA i/\Lc i=x.Lc i/\G i=x.L i:=hr
 ·replace h3:(k:Int)<(n:Nat):=h3
  have hkn:k<n:=Uc
  obtain⟨i,hi⟩:∃i,i=rw k:=⟨_,U⟩
  have hin:i<n:=by rw[hi];exact he.rlt k hkn
  have hti:∀t,t<k->rw t≠i:=λt ht e=>by
   have:=he.rinj t k oM hkn (e.trans hi)
   omega
  obtain⟨r1,r2,r3⟩:=hr i hin hti
  have hlo:=hx.low i hin
  have hll:(x.L i).length=(lw i).length:=hlo.ln
  have hli:=kY (he.lok i hin)
  have hcell:(eA n (hdP x.LA x.Lc x.L))[i*1]? =some (.h (x.LA i) (x.L i).length (x.Lc i)):=eD hin
  have hcell2:(eA n λj=>cF (x.R j))[i*1]? =some (cF (x.R i)):=eD hin
  refine⟨k,⟨U,hkn,cS hkn⟩,_,(eD hkn).trans (by rw[<-hi]),?_⟩
  refine⟨bXv,U0,i,⟨U,hin,cS hin⟩,_,_,⟨hcell,U⟩,[],zJ (z:=1) dC,U,U,U,λq hq=>⟨ck (U5 uJ hcell) (ck U (ck U U)),ck (U5 uJ hcell) (ck U (ck U U)),0,i,⟨U,hin,r1,r2,?_,?_,?_,?_⟩,λA' c'=>⟨ck (U5 uJ hcell) (ck U (ck U U)),k,⟨U,hkn,cS hkn⟩,_,gX (c:=.h A' ((x.L i).length+1) c') (Q:=λj=> .h (upd HA k A' j) (upd Hn k ((x.L i).length+1) j) (upd Hc k c' j)) hkn (λj _=>?_),?_⟩⟩⟩
  ·show(x.L i).length*4=(ecs (G i)).length
   rw[iA,r3]
  ·show(x.L i).length+1<=maxLen
   simp only[maxLen]
   omega
  ·show((x.L i).length+1)*64<=_
   omega
  ·intro c' hc'
   rcases bW.1 hc' with rfl|hc'
   ·rfl
   exact gF _ c' hc'
  ·by_cases e:j=k
   ·subst e;rw[U3 U,bF,bF,bF]
   rw[U2 e,aY e,aY e,aY e]
  have hPP:PmL P.l n:=by rw[hPe];exact hP
  refine⟨bXw,U0,i,⟨U,hin,cS hin⟩,_,_,⟨hcell2,U⟩,[],bEa (x.R i) P (hx.row i hin) (hbe i hin) (wQ h1 (n-1)) hB (hx.ok i hin).1 hn hPP,U,U,U,λy ⟨rs,y1,y2,y3⟩=>⟨ck (U5 uJ hcell2) (ck U (ck U U)),k,⟨U,hkn,cS hkn⟩,_,gX (c:=cF y) (Q:=λj=>cF (upd S k y j)) hkn (λj _=>?_),(k+1:Nat),wi,hM2 ⟨k+1,upd LA i A',upd Lc i c',upd G i (G i++[(⟨k,q⟩:EntM)]),upd HA k A',upd Hn k ((x.L i).length+1),upd Hc k c',upd S k y,upd Up k rs⟩ ⟨⟨hkn,λj hj=>?_,λj hj=>?_,λi' hi' ht'=>?_⟩,show n-(k+1)<n-k by omega⟩ U rS ⟨aEi (T:=75) (n:=n) (A:=upd LA i A') (cap:=upd Lc i c') (G:=G) (j:=i) (e:=⟨k,q⟩),U,tV⟩ rS bL bEe U⟩⟩
  ·by_cases e:j=k
   ·subst e;rw[U3 U,bF]
   rw[U2 e,aY e]
  ·replace hj:j<k+1:=hj
   show Ek (upd S k y j).l (upd Up k rs j)/\Asc (upd Up k rs j)/\(upd Up k rs j).Perm _
   by_cases e:j=k
   ·subst e
    rw[bF,bF,<-hi]
    refine⟨y1,y2,?_⟩
    rw[hPe] at y3
    exact y3
   rw[aY e,aY e];exact hu j oM
  ·replace hj:j<k+1:=hj
   show(upd LA i A' (rw j)=upd HA k A' j/\upd Lc i c' (rw j)=upd Hc k c' j/\(upd G i (G i++[(⟨k,q⟩:EntM)]) (rw j)).length=upd Hn k _ j)/\Ek (upd G i (G i++[(⟨k,q⟩:EntM)]) (rw j)) _
   by_cases e:j=k
   ·subst e
    rw[<-hi]
    simp only[bF]
    rw[r3]
    exact⟨⟨U1,tV,by rw[aD];rfl⟩,bDp hlo U hq⟩
   have e2:=hti j oM
   rw[aY e,aY e,aY e,aY e2,aY e2,aY e2]
   exact hd j oM
  replace ht':∀t,t<k+1->rw t≠i':=ht'
  have e2:i'≠i:=λe=>ht' k oM (by rw[e,hi])
  show upd LA i A' i'=_/\upd Lc i c' i'=_/\upd G i _ i'=_
  rw[aY e2,aY e2,aY e2]
  exact hr i' hi' λt ht=>ht' t oM
 replace h3:¬(k:Int)<(n:Nat):=h3
 obtain rfl:n=k:=Uc
 have hlu:=he.lu (Up:=Up) hpp (λi hi=>(hx.ok i hi).1) λj hj=>⟨(hu j hj).2.1,(hu j hj).2.2⟩
 obtain⟨SL,hSL⟩:∃SL:Nat->Sl EntM,SL=λj=>⟨(HA j).map λb=>⟨b,0,none⟩,Hc j,G (rw j)⟩:=⟨_,U⟩
 show Sd _ _ _ _ _ _
 refine jQ tSd 4 0 (eA n λj=>cF (SL j)) U U U (by rw[dD,dD]) (aCt λj hj=>?_) ?_
 ·obtain⟨⟨d1,d2,d3⟩,d4⟩:=hd j hj
  refine⟨rw j,Hn j,λk=>((G (rw j)).getD k U6).C,he.rlt j hj,?_,?_,?_,λq hq=>sP _ q oM⟩
  ·show CV.h (HA j) (Hn j) (Hc j)= .h (LA (rw j)) (Hn j) (Lc (rw j))
   rw[d1,d2]
  ·show cF (SL j)=CV.r ((LA (rw j)).map λb=>⟨b,0,none⟩) (Hn j) (Lc (rw j)) 4 _
   rw[hSL,d1,d2,<-d3];rfl
  show Hn j*4=(ecs (G (rw j))).length
  rw[iA,d3]
 refine kT tSd 2 U bL (bD λ_ _=>U) bL U λA2 c2=>⟨_,sk (bD λ_ _=>U),_,sk (bD λ_ _=>U),_,sk (bD λ_ _=>U),_,U,_,sk (bD λ_ _=>U),_,sk (bD λ_ _=>U),_,sk (bD λ_ _=>U),_,sk (aW _),?_⟩
 refine jQ tSd 6 2 [cI ⟨A2.map λb=>⟨b,0,none⟩,c2,nL n rw⟩,.s 3 n,iC n,iC n,.s 4 n,iC n,iC n,.s 5 n] U U U U (wM (k0:=0) U aUr) ?_
 refine kT tSd 3 U bL (bD λ_ _=>U) bL U λA3 c3=>⟨_,U,_,sk (bD λ_ _=>U),_,sk (bD λ_ _=>U),_,U,_,sk (bD λ_ _=>U),_,sk (bD λ_ _=>U),_,sk (bD λ_ _=>U),_,sk (aW _),?_⟩
 refine jQ tSd 6 3 [cI ⟨A2.map λb=>⟨b,0,none⟩,c2,nL n rw⟩,cI ⟨A3.map λb=>⟨b,0,none⟩,c3,nL n cl⟩,iC n,iC n,.s 4 n,iC n,iC n,.s 5 n] U U U U (wM (k0:=1) U aUr) ?_
 refine kT tSd 4 U bL (bD λ_ _=>U) bL U λA4 c4=>⟨_,U,_,U,_,sk (bD λ_ _=>U),_,U,_,sk (bD λ_ _=>U),_,sk (bD λ_ _=>U),_,sk (bD λ_ _=>U),_,sk (aW _),?_⟩
 refine jQ tSd 6 4 [cI ⟨A2.map λb=>⟨b,0,none⟩,c2,nL n rw⟩,cI ⟨A3.map λb=>⟨b,0,none⟩,c3,nL n cl⟩,iC n,iC n,mU ⟨A4.map λb=>⟨b,0,none⟩,c4,lK SL n⟩,iC n,iC n,.s 5 n] U U U U (wM (k0:=4) U wN) ?_
 refine kT tSd 5 U bL (bD λ_ _=>U) bL U λA5 c5=>⟨_,U,_,U,_,U,_,U,_,sk (bD λ_ _=>U),_,sk (bD λ_ _=>U),_,sk (bD λ_ _=>U),_,sk (aW _),?_⟩
 refine jQ tSd 6 5 [cI ⟨A2.map λb=>⟨b,0,none⟩,c2,nL n rw⟩,cI ⟨A3.map λb=>⟨b,0,none⟩,c3,nL n cl⟩,iC n,iC n,mU ⟨A4.map λb=>⟨b,0,none⟩,c4,lK SL n⟩,iC n,iC n,mU ⟨A5.map λb=>⟨b,0,none⟩,c5,lK S n⟩] U U U U (wM (k0:=7) U wN) ?_
 refine vk ⟨some (⟨⟨A2.map λb=>⟨b,0,none⟩,c2,nL n rw⟩,⟨A3.map λb=>⟨b,0,none⟩,c3,nL n cl⟩,⟨n,n,⟨A4.map λb=>⟨b,0,none⟩,c4,lK SL n⟩⟩,⟨n,n,⟨A5.map λb=>⟨b,0,none⟩,c5,lK S n⟩⟩⟩,rw,cl,λk=>lw (rw k)++[((k:Int),1)],Up),⟨⟨U,U,?_,?_⟩,hlu,?_,?_⟩,aI ⟨U,U⟩ U tV⟩
 ·refine⟨U,U,oB,λj hj=>?_,λj hj=>?_⟩
  ·show Ek ((lK SL n).getD j cG).l _
   rw[qX hj,hSL];exact(hd j hj).2
  have:=bEf (he.lus j hj) hj
  exact⟨this,kY this⟩
 ·refine⟨U,U,oB,λj hj=>?_,λj hj=>?_⟩
  ·show Ek ((lK S n).getD j cG).l _
   rw[qX hj];exact(hu j hj).1
  have:=aRr hP (hx.ok _ (he.rlt j hj)).1 (hu j hj).2.1 (hu j hj).2.2
  exact⟨this,kY this⟩
 ·intro j hj e hem
  rcases aO.1 hem with hem|hem
  ·exact hbl _ (he.rlt j hj) e hem
  rw[aE.1 hem];exact aRu (wQ h1 _)
 intro j hj e hem
 obtain⟨e',he',rfl⟩:=bZ.1 ((hu j hj).2.2.mem_iff.1 hem)
 exact hbe _ (he.rlt j hj) e' he'
abbrev fpG (g:Sl Int) (n k:Nat):List (Nat×DV):=[(16,.c (iC k)),(14,.c (cI g)),(15,.c (iC n)),(1,.c (iC n)),(5,.c (.s 0 n))]
theorem bEh (g:Sl Int) {n:Nat} (hp:PmL g.l n) (hn:n<=4096):Ctr pgQ 209 [] [.c (cI g),.c (iC n)] [] (λ_:Unit=>⟨.c (.v (.bool true)),[],True⟩):=by
 obtain rfl:g.l.length=n:=hp.ln
 refine cw func209 (⟨λh=>U4 U h,λ_=>vk ⟨g.l.length,⟨U,U,by show 1*g.l.length<=_;omega,by simp only[maxLen];omega⟩,?_⟩⟩)
 show Sd _ _ _ _ _ _
 refine gJ tSd 0 (eA g.l.length (bw λ_=>false)) U (by rw[dD,cU]) (uM λ_ _=>fE _) ?_
 refine bX (λ_=>true) (λu:Nat×(Nat->Bool)=>fpG g g.l.length u.1) (λu=>ipB g.l.length u.2) (λ_=>[]) (λu=>u.1<=g.l.length/\SnP g.l u.1 u.2) (λu=>g.l.length-u.1) λhM=>⟨hM (0,λ_=>false) ⟨aB _,λj hj=>by cases hj⟩ U U trivial rS bL aLf U,λ⟨k,s⟩ ⟨hk,hs⟩=>vk ⟨λh2=>vk ?_,λh2=>vk ?_⟩⟩
 all_goals
  replace hk:k<=g.l.length:=hk
  replace hs:SnP g.l k s:=hs
 ·replace h2:(k:Int)<(g.l.length:Nat):=h2
  have hkl:k<g.l.length:=Uc
  obtain⟨m,hm,hmn⟩:=hp.at' k hkl
  have hf:=hs.not hp hkl hm
  have hc:(eA g.l.length (bw s))[m*1]? =some (sL (.bool false)):=(eD hmn).trans (by unfold bw;rw[hf];rfl)
  refine⟨k,⟨U,hkl⟩,m,λhq=>⟨hm,hmn,cS hmn⟩,_,λhq=>hc,?_⟩
  refine⟨λh3=>?_,λh3=>vk ⟨m,⟨hm,hmn,cS hmn⟩,_,bDx hmn,(k+1:Nat),wi,hM (k+1,upd s m true) ⟨⟨hkl,hs.next hm⟩,show g.l.length-(k+1)<g.l.length-k by omega⟩ U U trivial rS bL aLf U⟩⟩
  replace h3:(g.l.getD k 0<0\/((g.l.length:Nat):Int)<=g.l.getD k 0)\/(false=true):=h3
  rcases h3 with h3|h3
  ·omega
  cases h3
 exact vk ⟨(),tV,aI U U tV⟩
structure LuG (f:LuM) (M:Nat->List En) (n:Nat) (rw cl:Nat->Nat) (Lw Up:Nat->List En) (F:Nat):Prop where
 R:f.R.l=nL n rw
 K:f.K.l=nL n cl
 L:Mx f.L Lw n
 Ub:Mx f.Ub Up n
 o:LuOk M n rw cl Lw Up
 bl:rbM Lw n F
 bu:rbM Up n F
abbrev wfB (n:Nat):BL:=[(3,0,[iC n])]
theorem bNq (m:MatM) {M:Nat->List En} {n B:Nat} (h:Mx m M n) (hb:rbM M n B) (hB:B<=4398046511104) (hn:n<=4096):Ctr pgQ 210 [true] [.a m.C,.c (.p 0 0)] (wfB n) (λ_:Unit=>⟨pC True,wfB n,True⟩):=by
 have hr:=h.r
 have hc:=h.c
 refine gA gT (eo func210) func210 U U U bL (eW U) (vk ⟨λhq=>?_,λhq=>?_⟩)
 ·exact⟨[],aGk m (h.mr hb) hB hn hn,U,U,U,λ_ _=>⟨(),tV,fH iO U bL (aA U aU) U (eW U)⟩⟩
 exact U4 ⟨hr,hc⟩ hq
abbrev wfG (n k:Nat):List (Nat×DV):=[(37,.c (iC k)),(36,.c (iC n)),(2,.c (.p 0 0)),(6,.c (.p 2 0))]
theorem bXx (f:LuM) {M:Nat->List En} {n F:Nat} {rw cl:Nat->Nat} {Lw Up:Nat->List En} (h:LuG f M n rw cl Lw Up F) (hF:F<=4398046511104) (h1:1<=F) (hn:n<=4096):Ctr pgQ 179 [] [.a f.C,.c (iC n)] [] (λ_:Unit=>⟨.c (.v (.bool true)),[],True⟩):=by
 have pR:PmL f.R.l n:=by rw[h.R];exact bEc h.o.rlt h.o.rinj
 have pK:PmL f.K.l n:=by rw[h.K];exact bEc h.o.clt h.o.cinj
 refine cw func179 (⟨[],bEh f.R pR hn,U,U,U,λ_ _=>⟨[],bEh f.K pK hn,U,U,U,λ_ _=>?_⟩⟩)
 refine⟨_,U,[1],bNq f.L h.L h.bl hF hn,U,U,U,λ_ _=>?_⟩
 refine⟨λhq=>U4 trivial hq,λ_=>⟨_,U,[1],bNq f.Ub h.Ub h.bu hF hn,U,U,U,λ_ _=>⟨λhq=>U4 trivial hq,λ_=>vk ⟨[],zJ (z:=1) dC,U,U,U,λq hq=>?_⟩⟩⟩⟩
 replace hq:Cr q 1:=hq
 show Sd _ _ _ _ _ _
 refine bX (λ_=>true) (λk:Nat=>wfG n k) (λ_=>[(80,0,f.C),(3,0,[iC n]),(53,0,q.C)]) (λ_=>[]) (λk=>k<=n) (λk=>n-k) λhM=>⟨hM 0 (aB _) U ⟨U,U,U⟩ U1 rS bL (aA U (aA U (aA U aU))) U,λk hk=>vk ⟨λh2=>vk ?_,λh2=>vk ?_⟩⟩
 all_goals
  replace hk:k<=n:=hk
 ·replace h2:(k:Int)<(n:Nat):=h2
  have hkn:k<n:=Uc
  have lL:=h.L.ln
  have lU:=h.Ub.ln
  have eL:=h.L.row k hkn
  have eU:=h.Ub.row k hkn
  refine⟨.seq (sq 99 (List.range 14)),U0,k,⟨U,show k<f.L.d.l.length by omega⟩,k,⟨U,show k<f.Ub.d.l.length by omega⟩,?_⟩
  obtain⟨l,hl,hvl⟩:=h.o.low k hkn
  obtain⟨p,u,hu,hvu⟩:=h.o.up k hkn
  have ln1:(f.L.d.l.getD k cG).l.length=l.length+1:=by rw[eL.ln,hl];simp
  have ln2:0<(f.Ub.d.l.getD k cG).l.length:=by rw[eU.ln,hu];simp
  have e1:=eL.e l.length (by rw[hl];simp)
  have e2:=eU.e 0 (by rw[hu];simp)
  have hl2:(Lw k).getD l.length U6=((k:Int),1):=by rw[hl];simp
  rw[hl2] at e1
  rw[hu] at e2
  have i1:((f.L.d.l.getD k cG).l.getD l.length U6).ix=(k:Nat):=e1.1
  have i2:((f.Ub.d.l.getD k cG).l.getD 0 U6).ix=(k:Nat):=e2.1
  have hll:=kY hvl
  have q1:Rq q 1 F:=hq.rq (aRu h1)
  have q2:Rq ((f.L.d.l.getD k cG).l.getD l.length U6).v 1 F:=Cr.rq e1.2 (aRu h1)
  have ar:((l.length:Nat):Int)=IntKind.i64.wrap (((f.L.d.l.getD k cG).l.length:Nat)-1):=wi oM
  refine⟨.seq (sq 23 (List.range 26)),U0,(l.length:Nat),λ_=>ar,l.length,λ_=>⟨U,show l.length<(f.L.d.l.getD k cG).l.length by omega⟩,(l.length:Nat),λ_=>ar,l.length,λ_=>⟨U,show l.length<(f.L.d.l.getD k cG).l.length by omega⟩,?_⟩
  refine⟨λh3=>?_,λh3=>⟨[],bSr _ q (q2.le) (q1.le),U,U,U,λ_ _=>⟨λh4=>U4 U h4,λh4=>vk ⟨0,λ_=>⟨U,ln2⟩,⟨λh5=>?_,λh5=>vk ⟨(k+1:Nat),wi,hM (k+1) ⟨hkn,show n-(k+1)<n-k by omega⟩ U ⟨U,U,U⟩ U1 rS bL (aA U (aA U (aA U aU))) U⟩⟩⟩⟩⟩⟩
  ·replace h3:(((f.L.d.l.getD k cG).l.length:Nat):Int)=0\/((f.L.d.l.getD k cG).l.getD l.length U6).ix≠(k:Nat):=h3
   omega
  replace h5:(((f.Ub.d.l.getD k cG).l.length:Nat):Int)=0\/((f.Ub.d.l.getD k cG).l.getD 0 U6).ix≠(k:Nat):=h5
  omega
 exact vk ⟨(),tV,aI U U tV⟩
theorem bXy (f:LuM) (b:Sl RatM) {M:Nat->List En} {n F:Nat} {rw cl:Nat->Nat} {Lw Up:Nat->List En} (h:LuG f M n rw cl Lw Up F) (hF:F<=4398046511104) (h1:1<=F) (hn:n<=4096) (hb:b.l.length=n):Ctr pgQ 134 [] [.a f.C,.c (dS b)] [] (λ_:Unit=>⟨.c (iC 0),[],True⟩):=by
 have hR:f.R.l.length=n:=by rw[h.R];simp
 have hw:Ctr pgQ 179 [] [.a f.C,.c (iC (f.R.l.length:Nat))] [] (λ_:Unit=>⟨.c (.v (.bool true)),[],True⟩):=by rw[hR];exact bXx f h hF h1 hn
 refine cw func134 (?_)
 refine⟨[],hw,U,U,U,λ_ _=>⟨λh2=>?_,λ_=>vk ⟨(),tV,aI U U tV⟩⟩⟩
 replace h2:¬((b.l.length:Nat):Int)=(f.R.l.length:Nat):=h2
 omega
def fwd (lo:Nat->List En) (b:Nat->Rat):Nat->Nat->Rat
 |0=>λ_=>0
 |i+1=>upd (fwd lo b i) i (b i-dtl (lo i) (fwd lo b i))
theorem aLg {lo:Nat->List En} {b:Nat->Rat}:∀{n:Nat},(∀k,k<n->VOk (lo k) (k:Nat))->∀k,k<n->fwd lo b n k=b k-dtl (lo k) (fwd lo b n)
 |0,_,k,h=>U4 h (aF _)
 |n+1,h,k,hk=>by
  have hc:dtl (lo k) (fwd lo b (n+1))=dtl (lo k) (fwd lo b n):=nA λe he=>by
   have:=(h k hk).2 e he
   exact aY oM
  rw[hc]
  by_cases e:k=n
  ·subst e;exact bF
  show upd _ n _ k=_
  rw[aY e,aLg (λk hk=>h k oM) k oM]
theorem bKm {lo:Nat->List En} {b w:Nat->Rat} {n:Nat} (h:∀k,k<n->VOk (lo k) (k:Nat)):(∀k,k<n->dtl (lo k) w+w k=b k)↔∀k,k<n->w k=fwd lo b n k:=by
 constructor
 ·intro hw k
  induction k using Nat.strongRecOn with
  |ind k ih=>
   intro hk
   rw[aLg h k hk,<-nA (x:=w) λe he=>by
    have:=(h k hk).2 e he
    exact ih e.1.toNat oM oM]
   have:=hw k hk
   grind
 intro hw k hk
 rw[hw k hk,nA (y:=fwd lo b n) λe he=>by
  have:=(h k hk).2 e he
  exact hw e.1.toNat oM,aLg h k hk]
 grind
def bwd (us:Nat->List En) (p:Nat->Rat) (n:Nat) (z:Nat->Rat):Nat->Nat->Rat
 |0=>z
 |k+1=>upd (bwd us p n z k) (n-1-k) ((bwd us p n z k (n-1-k)-dtl (us (n-1-k)) (bwd us p n z k))/p (n-1-k))
theorem aRv {us:Nat->List En} {p z:Nat->Rat} {n:Nat} (h:∀i,i<n->∀e∈us i,(i:Int)<e.1/\e.1<(n:Nat)):∀k,k<=n->(∀i,i<n-k->bwd us p n z k i=z i)/\∀i,n-k<=i->i<n->bwd us p n z k i=(z i-dtl (us i) (bwd us p n z k))/p i
 |0,_=>⟨λi _=>U,λi h1 h2=>Uc⟩
 |k+1,hk=>by
  obtain⟨h1,h2⟩:=aRv h k oM
  have hc:∀i,n-1-k<=i->i<n->dtl (us i) (bwd us p n z (k+1))=dtl (us i) (bwd us p n z k):=λi hi hin=>nA λe he=>by
   have:=h i hin e he
   exact aY oM
  refine⟨λi hi=>?_,λi hi hin=>?_⟩
  ·show upd _ _ _ i=_
   rw[aY oM];exact h1 i oM
  rw[hc i oM hin]
  show upd _ _ _ i=_
  by_cases e:i=n-1-k
  ·subst e;rw[bF,h1 _ oM]
  rw[aY e];exact h2 i oM hin
theorem bKn {us:Nat->List En} {p y z:Nat->Rat} {n:Nat} (h:∀i,i<n->∀e∈us i,(i:Int)<e.1/\e.1<(n:Nat)) (hp:∀i,i<n->p i≠0):(∀i,i<n->p i*y i+dtl (us i) y=z i)↔∀i,i<n->y i=bwd us p n z n i:=by
 have he:=λi (hi:i<n)=>(aRv (p:=p) (z:=z) h n (aH n)).2 i oM hi
 constructor
 ·intro hy
  have key:∀d i,i<n->n-i=d->y i=bwd us p n z n i:=λd=>by
   induction d using Nat.strongRecOn with
   |ind d ih=>
    intro i hi hd
    rw[he i hi,<-nA (x:=y) λe hm=>by
     have:=h i hi e hm
     exact ih (n-e.1.toNat) oM e.1.toNat oM U,<-hy i hi]
    have:=hp i hi
    rw[iJ,Rat.add_comm,jD]
    have e1:dtl (us i) y+p i*y i+ -dtl (us i) y=y i*p i:=by grind
    rw[e1,qO,mO _ this,nX]
  exact λi hi=>key _ i hi U
 intro hy i hi
 rw[hy i hi,nA (y:=bwd us p n z n) λe hm=>by
  have:=h i hi e hm
  exact hy e.1.toNat oM]
 rw[he i hi,iJ]
 have:=hp i hi
 have e1:p i*((z i-dtl (us i) (bwd us p n z n))*(p i)⁻¹)=(z i-dtl (us i) (bwd us p n z n))*(p i*(p i)⁻¹):=by grind
 rw[e1,mO _ this,nX]
 grind
def Sol (M:Nat->List En) (n:Nat) (b xv:Nat->Rat):Prop:=∀x:Nat->Rat,(∀k,k<n->dtn n (M k) x=b k)↔∀c,c<n->x c=xv c
theorem Sol.uniq {M:Nat->List En} {n:Nat} {b xv yv:Nat->Rat} (h:Sol M n b xv) (h':Sol M n b yv):∀c,c<n->xv c=yv c:=(h' xv).1 ((h xv).2 λ_ _=>U)
structure LuP (n:Nat) (Lw Up lo us:Nat->List En) (p:Nat->Rat):Prop where
 lo:∀k,k<n->Lw k=lo k++[((k:Int),1)]/\VOk (lo k) (k:Nat)
 us:∀k,k<n->Up k=((k:Int),p k)::us k/\(∀e∈us k,(k:Int)<e.1/\e.1<(n:Nat))/\(us k).length<=n-1-k
 p:∀k,k<n->p k≠0
theorem LuOk.parts {M:Nat->List En} {n:Nat} {rw cl:Nat->Nat} {Lw Up:Nat->List En} (h:LuOk M n rw cl Lw Up):∃lo us p,LuP n Lw Up lo us p:=by
 refine⟨λk=>(Lw k).dropLast,λk=>(Up k).tail,λk=>((Up k).headD U6).2,λk hk=>?_,λk hk=>?_,λk hk=>?_⟩
 ·obtain⟨l,h1,h2⟩:=h.low k hk
  show Lw k=(Lw k).dropLast++_/\VOk (Lw k).dropLast _
  rw[h1,List.dropLast_concat];exact⟨U,h2⟩
 ·obtain⟨p,u,h1,h2⟩:=h.up k hk
  show Up k=(_,((Up k).headD U6).2)::(Up k).tail/\_
  rw[h1] at h2 ⊢
  have hin:∀e∈u,(k:Int)<e.1/\e.1<(n:Nat):=λe he=>⟨h2.1.head e he,(h2.2 e (.tail _ he)).2.1⟩
  refine⟨U,hin,?_⟩
  have h3:(u.map λe:En=>(e.1-(k:Int)-1).toNat).Nodup:=by
   rw[cT,gI]
   refine h2.1.tail.imp_of_mem λ{a b} ha hb hab he=>?_
   have:=hin a ha
   have:=hin b hb
   have:a.1<b.1:=hab
   omega
  have:=qY (n:=n-1-k) h3 λi hi=>by
   obtain⟨e,he,rfl⟩:=bZ.1 hi
   have:=hin e he
   omega
  rwa [aK] at this
 obtain⟨p,u,h1,h2⟩:=h.up k hk
 show((Up k).headD U6).2≠0
 rw[h1] at h2 ⊢
 exact(h2.2 _ (.head _)).2.2
theorem LuOk.sol {M:Nat->List En} {n:Nat} {rw cl:Nat->Nat} {Lw Up lo us:Nat->List En} {p:Nat->Rat} (h:LuOk M n rw cl Lw Up) (hP:LuP n Lw Up lo us p) {b xv:Nat->Rat} (hx:∀i,i<n->xv (cl i)=bwd us p n (fwd lo (λi=>b (rw i)) n) n i):Sol M n b xv:=λx=>by
 have hU:∀k,k<n->dtn n (Up k) (λi=>x (cl i))=p k*x (cl k)+dtl (us k) (λi=>x (cl i)):=λk hk=>by
  obtain⟨h1,h2,_⟩:=hP.us k hk
  rw[<-tW λe he=>by
   rw[h1] at he
   rcases bW.1 he with rfl|he
   ·exact⟨by show(0:Int)<=(k:Nat);omega,by show(k:Int)<(n:Nat);omega⟩
   have:=h2 e he;exact⟨Uc,this.2⟩,h1]
  rfl
 have hL:∀k,k<n->∀w,dtl (Lw k) w=dtl (lo k) w+w k:=λk hk w=>by
  rw[(hP.lo k hk).1,vH]
  show _+(1:Rat)*w k=_
  rw[iY]
 have e1:(∀k,k<n->dtn n (M k) x=b k)↔∀k,k<n->dtl (lo k) (λj=>dtn n (Up j) λi=>x (cl i))+dtn n (Up k) (λi=>x (cl i))=b (rw k):=by
  constructor
  ·intro hh k hk
   rw[<-hL k hk,<-h.eq k hk]
   exact hh _ (h.rlt k hk)
  intro hh k hk
  obtain⟨j,hj,rfl⟩:=pL h.rlt h.rinj k hk
  rw[h.eq j hj,hL j hj]
  exact hh j hj
 have e2:=bKm (b:=λi=>b (rw i)) (w:=λj=>dtn n (Up j) λi=>x (cl i)) λk hk=>(hP.lo k hk).2
 have e3:=bKn (y:=λi=>x (cl i)) (z:=fwd lo (λi=>b (rw i)) n) (λi hi=>(hP.us i hi).2.1) hP.p
 rw[e1]
 refine e2.trans ⟨λhh=>?_,λhh k hk=>?_⟩
 ·have h4:=e3.1 λi hi=>by rw[<-hh i hi];exact(hU i hi).symm
  intro c hc
  obtain⟨j,hj,rfl⟩:=pL h.clt h.cinj c hc
  rw[hx j hj];exact h4 j hj
 have h4:=e3.2 λi hi=>(hh _ (h.clt i hi)).trans (hx i hi)
 exact(hU k hk).trans (h4 k hk)
theorem aDt {P Q:Nat->List CV} (h:∀j,(P j).length=(Q j).length/\∀(k:Nat) (c c':CV),(P j)[k]? =some c->(Q j)[k]? =some c'->LeC c c'):∀n,(flatR n P).length=(flatR n Q).length/\∀(k:Nat) (c c':CV),(flatR n P)[k]? =some c->(flatR n Q)[k]? =some c'->LeC c c'
 |0=>⟨U,λk c c' h1=>by cases h1⟩
 |n+1=>by
  obtain⟨i1,i2⟩:=aDt h n
  obtain⟨j1,j2⟩:=h n
  rw[gL,gL]
  refine⟨by rw[aD,aD,i1,j1],λk c c' h1 h2=>?_⟩
  by_cases hk:k<(flatR n P).length
  ·rw[aV hk] at h1
   rw[aV oM] at h2
   exact i2 k c c' h1 h2
  rw[bH oM] at h1
  rw[bH oM,<-i1] at h2
  exact j2 _ c c' h1 h2
theorem jI {n:Nat}:(flatR n λ_=>(U6:RatM).C).length=((List.replicate n vG).flatten).length/\∀(k:Nat) (c c':CV),((List.replicate n vG).flatten)[k]? =some c->(flatR n λ_=>(U6:RatM).C)[k]? =some c'->LeC c c':=by
 obtain⟨h1,h2⟩:=aDt (P:=λ_=>vG) (Q:=λ_=>(U6:RatM).C) (λ_=>⟨U,aOm⟩) n
 rw[<-aKy]
 exact⟨h1.symm,h2⟩
abbrev rtC (n:Nat) (Z:Nat->RatM):List CV:=flatR n λj=>(Z j).C
theorem eO {n k:Nat} {Z:Nat->RatM} (h:k<n):k*3<(rtC n Z).length:=bCl (λ_=>U) h
theorem kM {n k:Nat} {Z:Nat->RatM} (h:k<n):((rtC n Z).drop (k*3)).take 3=(Z k).C/\(Z k).C.length=3:=bRt (λ_=>U) h U
theorem fQ {n k:Nat} {Z:Nat->RatM} {g:RatM} (h:k<n):mJ (rtC n Z) (k*3) g.C=rtC n (upd Z k g)/\k*3+g.C.length<=(rtC n Z).length:=aUc (λ_=>U) h U λj _=>by
 by_cases e:j=k
 ·subst e;rw[U3 U,bF]
 rw[U2 e,aY e]
theorem cD {n:Nat} {Z:Nat->RatM}:∀c∈rtC n Z,fS c=true:=aAh (λ_=>gF _) n
abbrev bSw (f:LuM) (n:Nat) (Z:Nat->RatM):BL:=[(80,0,f.C),(53,3,rtC n Z)]
theorem aEn {f:LuM} {n:Nat} {Z:Nat->RatM}:scB 2 (bSw f n Z):=aA U (aA (bG cD) aU)
abbrev bXz (b:Sl RatM) (n i:Nat):List (Nat×DV):=[(31,.c (iC i)),(30,.c (iC n)),(1,.c (dS b)),(2,.c (.p 0 0)),(7,.c (iC n)),(8,.c (.s 1 n))]
abbrev cBx (b:Sl RatM) (n i:Nat) (A:Option Addr) (c m:Nat) (row:Sl EntM) (t:Nat):List (Nat×DV):=(57,.c (iC t))::(55,.c (.r A m c 4 λj=>(row.l.getD j U6).C))::(56,.c (iC m))::(9,.c (iC i))::bXz b n i
abbrev bSx (f:LuM) (n:Nat) (Z X:Nat->RatM):BL:=[(80,0,f.C),(53,3,rtC n Z),(53,3,rtC n X)]
theorem aEo {f:LuM} {n:Nat} {Z X:Nat->RatM}:scB 3 (bSx f n Z X):=aA U (aA (bG cD) (aA (bG cD) aU))
abbrev bYa (n k:Nat):List (Nat×DV):=[(81,.c (iC k)),(80,.c (iC n)),(2,.c (.p 0 0)),(7,.c (iC n)),(8,.c (.s 1 n)),(13,.c (.s 2 n))]
abbrev cBy (n k i:Nat) (A:Option Addr) (c m:Nat) (row:Sl EntM) (t:Nat):List (Nat×DV):=(97,.c (iC t))::(95,.c (.r A m c 4 λj=>(row.l.getD (j+1) U6).C))::(96,.c (iC m))::(15,.c (iC i))::(16,.c (cF row))::bYa n k
theorem aRw {f:Nat->Nat} {n:Nat} (_:∀j,j<n->f j<n) (hi:∀i j,i<n->j<n->f i=f j->i=j) (y:Nat->Rat):∃x:Nat->Rat,∀j,j<n->x (f j)=y j:=by
 classical
 refine⟨λc=>if h:∃j,j<n/\f j=c then y h.choose else 0,λj hj=>?_⟩
 have h:∃j',j'<n/\f j'=f j:=⟨j,hj,U⟩
 show(if h:∃j',j'<n/\f j'=f j then y h.choose else 0)=y j
 rw[dif_pos h]
 exact U5 y (hi _ _ h.choose_spec.1 hj h.choose_spec.2)
theorem swl {i j:Nat} {l:List CV} (h:∀c∈l,fS c=true):l.map (swC i j)=l:=(dR λc hc=>aP c (h c hc)).trans (yZ _)
theorem aOv (a:Rat):a-0=a:=by grind
structure StpM where
 k:Int
 p:RatM
 o:Sl EntM
instance:Inhabited StpM:=⟨⟨0,U6,cG⟩⟩
def StpM.C (s:StpM):List CV:=iC s.k::(s.p.C++[cF s.o])
structure StpR where
 k:Nat
 p:Rat
 o:List En
instance:Inhabited StpR:=⟨⟨0,0,[]⟩⟩
structure StpOk (S:StpM) (s:StpR) (n F:Nat):Prop where
 k:S.k=(s.k:Nat)
 kn:s.k<n
 p:Cr S.p s.p
 pb:rb s.p F
 p0:s.p≠0
 o:Ek S.o.l s.o
 ov:VOk s.o (n:Nat)
 ok:∀e∈s.o,e.1≠(s.k:Nat)
 ob:rbE s.o F
structure IvM where
 c:Nat->Sl EntM
 f:LuM
 A:Option Nat
 k:Nat
 L:List StpM
def SolA (a:Nat->Nat->Rat) (n:Nat) (b xv:Nat->Rat):Prop:=∀x:Nat->Rat,(∀k,k<n->bN (λj=>a k j*x j) n=b k)↔∀c,c<n->x c=xv c
abbrev enM (M:Nat->List En):Nat->Nat->Rat:=λr j=>Vm.get (M r) (j:Nat)
theorem Sol.a {M:Nat->List En} {n:Nat} {b xv:Nat->Rat} (h:Sol M n b xv):SolA (enM M) n b xv:=h
theorem SolA.congr {a a':Nat->Nat->Rat} {n:Nat} {b b' xv xv':Nat->Rat} (h:SolA a n b xv) (ha:∀r j,r<n->j<n->a' r j=a r j) (hb:∀r,r<n->b' r=b r) (hx:∀c,c<n->xv' c=xv c):SolA a' n b' xv':=λx=>by
 have e1:(∀k,k<n->bN (λj=>a' k j*x j) n=b' k)↔∀k,k<n->bN (λj=>a k j*x j) n=b k:=by
  constructor<;>intro hh k hk
  ·rw[<-hb k hk,<-hh k hk];exact aZ λj hj=>by rw[ha k j hk hj]
  rw[hb k hk,<-hh k hk];exact aZ λj hj=>by rw[ha k j hk hj]
 rw[e1,h x]
 constructor<;>intro hh c hc
 ·rw[hx c hc];exact hh c hc
 rw[<-hx c hc];exact hh c hc
theorem SolA.eq {a:Nat->Nat->Rat} {n:Nat} {b xv:Nat->Rat} (h:SolA a n b xv):∀k,k<n->bN (λj=>a k j*xv j) n=b k:=(h xv).2 λ_ _=>U
theorem SolA.uniq {a:Nat->Nat->Rat} {n:Nat} {b xv yv:Nat->Rat} (h:SolA a n b xv) (h':SolA a n b yv):∀c,c<n->xv c=yv c:=(h' xv).1 h.eq
def skp (p r:Nat):Nat:=if r<p then r else r+1
theorem yG {p r n:Nat} (h:r<n):skp p r<n+1:=by unfold skp;split<;>omega
theorem bEi (p r:Nat):skp p r≠p:=by unfold skp;split<;>omega
theorem bEj {p c n:Nat} (h:c<n+1) (hp:p<n+1) (hc:c≠p):∃i,i<n/\skp p i=c:=by
 by_cases e:c<p
 ·exact⟨c,Uc,U3 e⟩
 refine⟨c-1,Uc,?_⟩
 unfold skp
 rw[U2 oM];omega
theorem yH {f:Nat->Rat} {p:Nat}:∀{n:Nat},p<n+1->bN f (n+1)=f p+bN (λi=>f (skp p i)) n
 |0,h=>by
  obtain rfl:p=0:=Uc
  show(0:Rat)+f 0=f 0+0;grind
 |n+1,h=>by
  show bN f (n+1)+f (n+1)=f p+(bN (λi=>f (skp p i)) n+f (skp p n))
  by_cases e:p=n+1
  ·subst e
   have h1:∀m,m<=n+1->bN (λi=>f (skp (n+1) i)) m=bN f m:=λm hm=>aZ λj hj=>by unfold skp;rw[U3 oM]
   have h2:skp (n+1) n=n:=by unfold skp;rw[U3 oM]
   rw[h2,h1 n oM]
   show bN f n+f n+f (n+1)=_
   grind
  have h2:skp p n=n+1:=by unfold skp;rw[U2 oM]
  rw[h2,yH (f:=f) (p:=p) (n:=n) oM]
  grind
theorem aOw (s:Nat):∀n,bd (4*s+1) n=bd s (n+1)
 |0=>rfl
 |n+1=>by show 4*bd (4*s+1) n+1=4*bd s (n+1)+1;rw[aOw s n]
theorem aLh {a b:Rat} {B B':Nat} (ha:rb a B) (hb:rb b B') (hB:1<=B):rb (a/b) (B+B'):=by
 have h1:=zZ (a:=a.num*(b.den:Int)) (b:=(a.den:Int)*b.num)
 have h2:=aAa (a:=a.num*(b.den:Int)) (b:=(a.den:Int)*b.num)
 rw[aNi] at h1 h2
 have p1:=nF a.num.natAbs (b.den:Int).natAbs
 have p2:=nF (a.den:Int).natAbs b.num.natAbs
 rw[<-jL] at p1 p2
 simp only[dX] at p1 p2
 simp only[fD] at h1 h2
 obtain⟨a1,a2⟩:=ha
 obtain⟨b1,b2⟩:=hb
 exact⟨Uc,Uc⟩
theorem SolA.size:∀{n s:Nat} {a:Nat->Nat->Rat} {b xv:Nat->Rat},1<=s->(∀r j,r<n->j<n->rb (a r j) s)->(∀r,r<n->rb (b r) s)->SolA a n b xv->∀i,i<n->rb (xv i) (2*bd s n)
 |0,s,a,b,xv,_,_,_,_,i,hi=>U4 hi (aF _)
 |1,s,a,b,xv,h1,ha,hb,h,i,hi=>by
  obtain rfl:i=0:=Uc
  have he:=h.eq 0 oM
  have he':a 0 0*xv 0=b 0:=by rw[<-he];show _=(0:Rat)+_;grind
  have hne:a 0 0≠0:=λh0=>by
   have h2:=(h λc=>xv c+1).1 λk hk=>by
    obtain rfl:k=0:=Uc
    rw[<-he]
    show(0:Rat)+a 0 0*(xv 0+1)=(0:Rat)+a 0 0*xv 0
    rw[h0];grind
   have:=h2 0 oM
   have h3:(1:Rat)=0:=by grind
   exact U4 h3 dC
  have hx:xv 0=b 0/a 0 0:=by
   rw[<-he',iJ,Rat.mul_comm (a 0 0),qO,mO _ hne,nX]
  rw[hx]
  exact(aLh (hb 0 oM) (ha 0 0 oM oM) h1).le (by show s+s<=2*(4*s+1);omega)
 |n+2,s,a,b,xv,h1,ha,hb,h,i,hi=>by
  obtain⟨j,hj,hji⟩:∃j,j<n+2/\j≠i:=by
   by_cases e:i=0
   ·exact⟨1,Uc,Uc⟩
   exact⟨0,Uc,Uc⟩
  obtain⟨p,hp,hpj⟩:∃p,p<n+2/\a p j≠0:=aN λhn=>by
   have h0:∀p,p<n+2->a p j=0:=λp hp=>aN λh2=>hn ⟨p,hp,h2⟩
   have h2:=(h (upd xv j (xv j+1))).1 λk hk=>by
    rw[<-h.eq k hk]
    refine aZ λc hc=>?_
    by_cases e:c=j
    ·subst e;rw[h0 k hk,dL,dL]
    rw[aY e]
   have:=h2 j hj
   rw[bF] at this
   have h3:(1:Rat)=0:=by grind
   exact U4 h3 dC
  obtain⟨i',hi',hsi⟩:=bEj hi hj (gU hji)
  have hs:=SolA.size (n:=n+1) (s:=4*s+1) (a:=λr c=>a p j*a (skp p r) (skp j c)-a (skp p r) j*a p (skp j c)) (b:=λr=>a p j*b (skp p r)-a (skp p r) j*b p) (xv:=λc=>xv (skp j c)) oM (λr c hr hc=>?_) (λr hr=>?_) (λx=>?_) i' hi'
  ·rw[aOw,hsi] at hs
   exact hs
  ·have m1:=fW (ha p j hp hj) (ha _ _ (yG (p:=p) hr) (yG (p:=j) hc))
   have m2:=fW (ha _ j (yG (p:=p) hr) hj) (ha p _ hp (yG (p:=j) hc))
   exact(pJ m1 m2).le oM
  ·have m1:=fW (ha p j hp hj) (hb _ (yG (p:=p) hr))
   have m2:=fW (ha _ j (yG (p:=p) hr) hj) (hb p hp)
   exact(pJ m1 m2).le oM
  have red:∀(y:Nat->Rat) (r:Nat),bN (λc=>(a p j*a (skp p r) (skp j c)-a (skp p r) j*a p (skp j c))*y (skp j c)) (n+1)=a p j*bN (λc=>a (skp p r) c*y c) (n+2)-a (skp p r) j*bN (λc=>a p c*y c) (n+2):=λy r=>by
   rw[yH (p:=j) hj,yH (f:=λc=>a p c*y c) (p:=j) hj]
   have e1:bN (λc=>(a p j*a (skp p r) (skp j c)-a (skp p r) j*a p (skp j c))*y (skp j c)) (n+1)=bN (λc=>a p j*(a (skp p r) (skp j c)*y (skp j c))+(-a (skp p r) j)*(a p (skp j c)*y (skp j c))) (n+1):=aZ λc _=>by grind
   have e2:∀(f:Nat->Rat) (q:Rat) (m:Nat),bN (λc=>q*f c) m=q*bN f m:=λf q m=>by
    have:=kZ (f:=λ_=>(0:Rat)) (g:=f) (q:=q) (n:=m)
    rw[fF λ_ _=>U,fY] at this
    rw[<-this]
    exact aZ λc _=>by grind
   rw[e1,kZ,e2]
   grind
  constructor
  ·intro hx c hc
   obtain⟨y,hy⟩:∃y:Nat->Rat,(∀c,c<n+1->y (skp j c)=x c)/\bN (λc=>a p c*y c) (n+2)=b p:=by
    obtain⟨un,hun⟩:∃un:Nat->Nat,∀c,un (skp j c)=c:=⟨λc=>if c<j then c else c-1,λc=>by
     show(if skp j c<j then skp j c else skp j c-1)=c
     by_cases e:c<j
     ·have:skp j c=c:=U3 e
      rw[this,U3 e]
     have:skp j c=c+1:=U2 e
     rw[this,U2 oM];rfl⟩
    refine⟨upd (λc=>x (un c)) j ((b p-bN (λc=>a p (skp j c)*x c) (n+1))/a p j),λc _=>by rw[aY (bEi j c),hun],?_⟩
    rw[yH (p:=j) hj,bF]
    have e1:bN (λc=>a p (skp j c)*upd (λc=>x (un c)) j ((b p-bN (λc=>a p (skp j c)*x c) (n+1))/a p j) (skp j c)) (n+1)=bN (λc=>a p (skp j c)*x c) (n+1):=aZ λc _=>by rw[aY (bEi j c),hun]
    rw[e1]
    have h9:=mO _ hpj
    generalize a p j=q at h9
    rw[iJ]
    have:q*((b p-bN (λc=>a p (skp j c)*x c) (n+1))*q⁻¹)=(b p-bN (λc=>a p (skp j c)*x c) (n+1))*(q*q⁻¹):=by grind
    rw[this,h9];grind
   obtain⟨y1,y2⟩:=hy
   have hyx:=(h y).1 λk hk=>by
    by_cases e:k=p
    ·rw[e];exact y2
    obtain⟨r,hr,rfl⟩:=bEj hk hp e
    have h3:=hx r hr
    rw[aZ λc hc=>by rw[<-y1 c hc]] at h3
    rw[red y r,y2] at h3
    have h4:a p j*(bN (λc=>a (skp p r) c*y c) (n+2)-b (skp p r))=0:=by grind
    rcases oU.1 h4 with h5|h5
    ·exact U4 h5 hpj
    grind
   rw[<-y1 c hc]
   exact hyx _ (yG hc)
  intro hx r hr
  rw[aZ λc hc=>by rw[hx c hc],red xv r,h.eq _ (yG hr),h.eq p hp]
def Nul (E:Nat->Nat->Rat) (r c:Nat) (x:Nat->Rat):Prop:=∀i,i<r->bN (λj=>E i j*x j) c=0
structure Ech (Q E:Nat->Nat->Rat) (r c C t:Nat) (pv:Nat->Nat):Prop where
 tr:t<=r
 lt:∀k,k<t->pv k<C
 mono:∀k l,k<l->l<t->pv k<pv l
 piv:∀k,k<t->E k (pv k)≠0
 z:∀j i,j<C->i<r->(∀k,k<t->pv k<=j->k<i)->E i j=0
 nul:∀x,Nul E r c x↔Nul Q r c x
theorem Ech.start {Q:Nat->Nat->Rat} {r c:Nat} (pv:Nat->Nat):Ech Q Q r c 0 0 pv:=⟨aB _,λ_ h=>U4 h (aF _),λ_ _ _ h=>U4 h (aF _),λ_ h=>U4 h (aF _),λ_ _ h=>U4 h (aF _),λ_=>iO⟩
theorem Ech.skip {Q E:Nat->Nat->Rat} {r c C t:Nat} {pv:Nat->Nat} (h:Ech Q E r c C t pv) (hz:∀i,t<=i->i<r->E i C=0):Ech Q E r c (C+1) t pv:=⟨h.tr,λk hk=>dY (h.lt k hk),h.mono,h.piv,λj i hj hi hk=>by
 by_cases e:j=C
 ·subst e
  refine hz i ?_ hi
  cases t with
  |zero=>exact aB _
  |succ t=>exact hk t (aS t) (eT (h.lt t (aS t)))
 exact h.z j i oM hi hk,h.nul⟩
theorem Ech.all {Q E:Nat->Nat->Rat} {r c C:Nat} {pv:Nat->Nat} (h:Ech Q E r c C r pv) (hC:C<=c):Ech Q E r c c r pv:=⟨h.tr,λk hk=>bM (h.lt k hk) hC,h.mono,h.piv,λj i hj hi hk=>by
 by_cases e:j<C
 ·exact h.z j i e hi hk
 exact U4 (hk i hi (aJ (eT (h.lt i hi)) oM)) (gC _),h.nul⟩
def sw2 (a b i:Nat):Nat:=if i=a then b else if i=b then a else i
theorem uO {a b i r:Nat} (ha:a<r) (hb:b<r) (hi:i<r):sw2 a b i<r:=by
 unfold sw2;split
 ·exact hb
 split
 ·exact ha
 exact hi
theorem aLi {a b i:Nat}:sw2 a b (sw2 a b i)=i:=by
 unfold sw2
 by_cases h1:i=a
 ·by_cases h2:b=a
  ·simp[h1,h2]
  simp[h1,h2]
 by_cases h2:i=b
 ·simp[h2]
 simp[h1,h2]
theorem bKo {a b i j:Nat} (h:sw2 a b i=sw2 a b j):i=j:=by rw[<-aLi (a:=a) (b:=b) (i:=i),h,aLi]
theorem bSy {E:Nat->Nat->Rat} {r c a b:Nat} {x:Nat->Rat} (ha:a<r) (hb:b<r):Nul (λi=>E (sw2 a b i)) r c x↔Nul E r c x:=⟨λh i hi=>by
 have:=h (sw2 a b i) (uO ha hb hi)
 simp only[aLi] at this
 exact this,λh i hi=>h _ (uO ha hb hi)⟩
def gsE (E:Nat->Nat->Rat) (t C R:Nat) (i j:Nat):Rat:=if t<i/\i<R then E i j-E i C/E t C*E t j else E i j
theorem bSz {E:Nat->Nat->Rat} {r c t C:Nat} {x:Nat->Rat} (ht:t<r):Nul (gsE E t C r) r c x↔Nul E r c x:=by
 have key:∀i,t<i->i<r->bN (λj=>gsE E t C r i j*x j) c=bN (λj=>E i j*x j) c+ -(E i C/E t C)*bN (λj=>E t j*x j) c:=λi h1 h2=>by
  rw[<-kZ]
  refine aZ λj _=>?_
  unfold gsE
  rw[U3 ⟨h1,h2⟩]
  grind
 have same:∀i,¬(t<i/\i<r)->bN (λj=>gsE E t C r i j*x j) c=bN (λj=>E i j*x j) c:=λi h=>aZ λj _=>by unfold gsE;rw[U2 h]
 constructor
 ·intro h i hi
  have h0:=h t ht
  rw[same t oM] at h0
  by_cases e:t<i
  ·have:=h i hi
   rw[key i e hi,h0,bU,bK] at this
   exact this
  rw[<-same i oM];exact h i hi
 intro h i hi
 by_cases e:t<i
 ·rw[key i e hi,h i hi,h t ht,bU,bK]
 rw[same i oM];exact h i hi
theorem Ech.step {Q E:Nat->Nat->Rat} {r c C t k:Nat} {pv:Nat->Nat} (h:Ech Q E r c C t pv) (hk:t<=k) (hkr:k<r) (hp:E k C≠0):Ech Q (gsE (λi=>E (sw2 k t i)) t C r) r c (C+1) (t+1) (upd pv t C):=by
 have htr:t<r:=fB hk hkr
 have e1:∀i,i<t->sw2 k t i=i:=λi hi=>by unfold sw2;rw[U2 oM,U2 oM]
 have e2:sw2 k t t=k:=by unfold sw2;split<;>simp_all
 have e3:∀i,t<=i->t<=sw2 k t i:=λi hi=>by unfold sw2;split;exact aH _;split;exact hk;exact hi
 have zz:∀j i,j<C->t<=i->i<r->E i j=0:=λj i hj hi hr=>h.z j i hj hr λk' hk' _=>bM hk' hi
 refine⟨htr,λl hl=>?_,λa b hab hb=>?_,λl hl=>?_,λj i hj hi hh=>?_,λx=>(bSz htr).trans ((bSy hkr htr).trans (h.nul x))⟩
 ·by_cases e:l=t
  ·subst e;rw[bF];exact aS C
  rw[aY e];exact dY (h.lt l oM)
 ·by_cases e:b=t
  ·subst e;rw[bF,aY oM];exact h.lt a hab
  rw[aY e,aY oM];exact h.mono a b hab oM
 ·simp only[gsE]
  rw[U2 oM]
  by_cases e:l=t
  ·subst e;rw[bF,e2];exact hp
  rw[aY e,e1 l oM];exact h.piv l oM
 simp only[gsE]
 by_cases e:j=C
 ·subst e
  have:=hh t (aS t) (by rw[bF];exact aH _)
  rw[U3 ⟨this,hi⟩,e2]
  rw[tH hp]
  grind
 have hj':j<C:=Uc
 by_cases e4:t<=i
 ·have a1:E (sw2 k t i) j=0:=zz j _ hj' (e3 i e4) (uO hkr htr hi)
  have a2:E (sw2 k t t) j=0:=zz j _ hj' (e3 t (aH t)) (uO hkr htr htr)
  rw[a1,a2,bU]
  split
  ·grind
  rfl
 rw[U2 oM]
 rw[e1 i oM]
 refine h.z j i hj' hi λk' hk' hle=>hh k' (dY hk') ?_
 rw[aY oM];exact hle
theorem aGs {a:Nat->Rat} {x:Nat->Rat} {p:Nat} {v:Rat}:∀{n:Nat},p<n->bN (λj=>a j*upd x p v j) n=bN (λj=>a j*x j) n+a p*(v-x p)
 |0,h=>U4 h (aF _)
 |n+1,h=>by
  by_cases e:p=n
  ·subst e
   show bN _ p+a p*upd x p v p=bN _ p+a p*x p+_
   rw[bF,aZ (g:=λj=>a j*x j) λj hj=>by rw[aY oM]]
   grind
  show bN _ n+a n*upd x p v n=bN _ n+a n*x n+_
  rw[aGs oM,aY oM]
  grind
theorem Ech.ind {Q E:Nat->Nat->Rat} {r c t:Nat} {pv:Nat->Nat} (h:Ech Q E r c c t pv) {j:Nat} (hj:j<c):(∃k,k<t/\pv k=j)↔¬∃x:Nat->Rat,x j=1/\(∀i,j<i->x i=0)/\Nul Q r c x:=by
 constructor
 ·rintro⟨k,hk,rfl⟩ ⟨x,h1,h2,h3⟩
  have h4:=(h.nul x).2 h3 k (bM hk h.tr)
  refine h.piv k hk ?_
  rw[iZ (m:=pv k) hj λi hi=>?_,h1,nX] at h4
  ·exact h4
  by_cases e:pv k<i
  ·rw[h2 i e,bU]
  rw[h.z i k oM (bM hk h.tr) λl hl hle=>aN λhn=>?_,dL]
  by_cases e2:l=k
  ·subst e2;omega
  have:=h.mono k l oM hl
  omega
 intro hno
 refine aN λhnp=>hno ?_
 have hne:∀k,k<t->pv k≠j:=λk hk e=>hnp ⟨k,hk,e⟩
 have cnt:∀m,m<=t->∃s,s<=m/\(∀k,k<m->(pv k<j↔k<s)):=λm=>by
  induction m with
  |zero=>exact λ_=>⟨0,aH _,λk hk=>U4 hk (aF _)⟩
  |succ m ih=>
   intro hm
   obtain⟨s,hs,hh⟩:=ih oM
   by_cases e:pv m<j
   ·refine⟨m+1,aH _,λk hk=>⟨λ_=>hk,λ_=>?_⟩⟩
    by_cases e2:k=m
    ·subst e2;exact e
    exact sD (h.mono k m oM oM) e
   refine⟨s,Uc,λk hk=>?_⟩
   by_cases e2:k=m
   ·subst e2;exact⟨λh=>U4 h e,λh=>Uc⟩
   exact hh k oM
 obtain⟨s,hs,hsk⟩:=cnt t (aH t)
 have zr:∀i l,s<=i->i<r->l<=j->E i l=0:=λi l hi hr hl=>h.z l i oM hr λk hk hle=>by
  have:=(hsk k hk).1 (by have:=hne k hk;omega)
  omega
 have main:∀d,d<=s->∃x:Nat->Rat,x j=1/\(∀i,j<i->x i=0)/\∀i,s-d<=i->i<r->bN (λl=>E i l*x l) c=0:=λd=>by
  induction d with
  |zero=>
   refine λ_=>⟨λi=>if i=j then 1 else 0,U3 U,λi hi=>U2 oM,λi hi hr=>fF λl hl=>?_⟩
   by_cases e:l=j
   ·rw[zr i l oM hr oM,dL]
   show E i l*(if l=j then 1 else 0)=0
   rw[U2 e,bU]
  |succ d ih=>
   intro hd
   obtain⟨x,h1,h2,h3⟩:=ih oM
   obtain⟨k,hk⟩:∃k,k=s-(d+1):=⟨_,U⟩
   have hkt:k<t:=Uc
   have hpj:pv k<j:=(hsk k hkt).2 oM
   have hpz:=h.piv k hkt
   refine⟨upd x (pv k) (x (pv k)-bN (λl=>E k l*x l) c/E k (pv k)),(aY oM).trans h1,λi hi=>(aY oM).trans (h2 i hi),λi hi hr=>?_⟩
   rw[aGs oM]
   by_cases e:i=k
   ·subst e
    have:E i (pv i)*(x (pv i)-bN (λl=>E i l*x l) c/E i (pv i)-x (pv i))=-(bN (λl=>E i l*x l) c/E i (pv i)*E i (pv i)):=by grind
    rw[this,tH hpz]
    grind
   rw[h3 i oM hr]
   rw[h.z (pv k) i oM hr λl hl hle=>?_,dL,bK]
   by_cases e2:l<=k
   ·omega
   have:=h.mono k l oM hl
   omega
 obtain⟨x,h1,h2,h3⟩:=main s (aH s)
 exact⟨x,h1,h2,(h.nul x).1 λi hi=>h3 i oM hi⟩
theorem Ech.full {Q E:Nat->Nat->Rat} {r n:Nat} {t:Nat} {pv:Nat->Nat} (h:Ech Q E r n n t pv):t=n↔¬∃x:Nat->Rat,(∃i,i<n/\x i≠0)/\Nul Q r n x:=by
 have inj:∀a b,a<t->b<t->pv a=pv b->a=b:=λa b ha hb e=>by
  rcases eF a b with h1|h1|h1
  ·have:=h.mono a b h1 hb;omega
  ·exact h1
  have:=h.mono b a h1 ha;omega
 constructor
 ·rintro rfl ⟨x,⟨i,hi,hx⟩,h3⟩
  obtain⟨d,hd⟩:∃d,d=t-i:=⟨_,U⟩
  induction d using Nat.strongRecOn generalizing i with
  |ind d ih=>
   by_cases hm:∃l,i<l/\l<t/\x l≠0
   ·obtain⟨l,h1,h2,h4⟩:=hm
    exact ih (t-l) oM l h2 h4 U
   obtain⟨k,hk,he⟩:=pL h.lt inj i hi
   refine(h.ind hi).1 ⟨k,hk,he⟩ ⟨λl=>if l<t then (x i)⁻¹*x l else 0,?_,λl hl=>?_,λa ha=>?_⟩
   ·show(if i<t then _ else _)=_
    rw[U3 hi];exact fM _ hx
   ·show(if l<t then _ else _)=_
    split
    ·next hlt=>rw[aN λhn=>hm ⟨l,hl,hlt,hn⟩,bU]
    rfl
   have h5:=h3 a ha
   have h6:bN (λl=>Q a l*if l<t then (x i)⁻¹*x l else 0) t=0+(x i)⁻¹*bN (λl=>Q a l*x l) t:=by
    rw[show(0:Rat)=bN (λ_=>(0:Rat)) t from (fF λ_ _=>U).symm,<-kZ]
    refine aZ λl hl=>?_
    rw[U3 hl];grind
   rw[h6,h5,bU,bK]
 intro hno
 refine aN λhne=>?_
 have hall:∀j,j<n->∃k,k<t/\pv k=j:=λj hj=>(h.ind hj).2 λ⟨x,h1,h2,h3⟩=>hno ⟨x,⟨j,hj,by rw[h1];decide⟩,h3⟩
 have htn:t<=n:=by
  have h1:((List.range t).map pv).Nodup:=by
   rw[cT,gI]
   refine(cT.1 mH).imp_of_mem λ{a b} ha hb hab he=>hab (inj a b (cJ.1 ha) (cJ.1 hb) he)
  have:=qY h1 (n:=n) λi hi=>by
   obtain⟨k,hk,rfl⟩:=bZ.1 hi
   exact h.lt k (cJ.1 hk)
  simpa using this
 have h2:((List.range n).map λj=>if hj:j<n then (hall j hj).choose else 0).Nodup:=by
  rw[cT,gI]
  refine(cT.1 mH).imp_of_mem λ{a b} ha hb hab he=>hab ?_
  have ha':=cJ.1 ha
  have hb':=cJ.1 hb
  rw[dif_pos ha',dif_pos hb'] at he
  rw[<-(hall a ha').choose_spec.2,<-(hall b hb').choose_spec.2,he]
 have h3:=qY h2 (n:=t) λi hi=>by
  obtain⟨j,hj,rfl⟩:=bZ.1 hi
  have hj':=cJ.1 hj
  rw[dif_pos hj']
  exact(hall j hj').choose_spec.1
 simp at h3
 omega
theorem aGt (r s:RatM) {a b:Rat} (hr:Rq r a 4398046511104) (hs:Rq s b 4398046511104):Ctr pgQ 116 [] [.a r.C,.a s.C] [] (rY (a*b)):=by
 have ha:=hr.rb
 have hb:=hs.rb
 have m1:=qK ha.1 (b:=b.num) hb.1
 have m2:=qK (a:=(a.den:Int)) (b:=(b.den:Int)) ha.2 hb.2
 refine cw func116 (⟨.seq [(0,false),(3,false),(7,false),(9,false),(1,false),(2,false),(4,false),(5,false),(6,false),(8,false),(10,false),(11,false),(12,false),(13,true)],U0,[],gE r hr.le,U,U,U,λx hx=>⟨[],gE s hs.le,U,U,U,λy hy=>⟨[],aAd x.n y.n (a:=a.num) (b:=b.num) (Ci.in hx.1 (ha.le).1) (Ci.in hy.1 (hb.le).1),U,U,U,λp1 h2=>⟨[],wH r hr.le,U,U,U,λd1 h3=>⟨[],wH s hs.le,U,U,U,λd2 h4=>⟨[],aAd d1 d2 (Ci.in h3 (ha.le).2) (Ci.in h4 (hb.le).2),U,U,U,λp2 h5=>⟨[],wG p1 p2 (Ci.in h2 oM) (Ci.in h5 oM),U,U,U,λg hg=>⟨g,?_,aI U U tV⟩⟩⟩⟩⟩⟩⟩⟩)
 rw[<-aNh];exact hg
abbrev ecH (c:Nat) (A:Nat->Option Nat) (cap:Nat->Nat):Nat->CV:=λj=> .h (A j) c (cap j)
abbrev ec0 (d:Sl (Sl RatM)) (c i:Nat):List (Nat×DV):=[(8,.c (iC i)),(7,.c (.s 0 i)),(0,.c (yC d)),(1,.c (iC c))]
abbrev cBz (H:List CV):BL:=[(42,1,H)]
theorem bKp {A:Nat->Option Nat} {cap:Nat->Nat} {c k m:Nat} {Aa:Option Nat} {aa:Nat} (hm:m=c):(eA k (ecH c A cap)++[CV.s 1 (0+m)]).map (qC 1 Aa aa)=eA (k+1) (ecH c (upd A k Aa) (upd cap k aa)):=by
 subst hm
 rw[aCx,bA]
 refine(U5 (·++_) ?_).trans (U5 (_++·) ?_)
 ·unfold eA
  rw[lH]
  refine dR λj hj=>?_
  have hj':=cJ.1 hj
  show qC 1 Aa aa (ecH m A cap j)=CV.h (upd A k Aa j) m (upd cap k aa j)
  rw[aY oM,aY oM];rfl
 show [CV.h Aa (0+m) aa]=[CV.h (upd A k Aa k) m (upd cap k aa k)]
 rw[bF,bF,eP]
theorem bEk {T n k:Nat} {A:Nat->Option Nat} {cap:Nat->Nat} {R:Nat->List RatM} {l:List RatM}:(⟨T,3,n,A,cap,upd (λj=>fl RatM.C U6 (R j)) k (fl RatM.C U6 l)⟩:Fam)=⟨T,3,n,A,cap,λi=>fl RatM.C U6 (upd R k l i)⟩:=by
 congr 1
 funext i
 by_cases e:i=k
 ·subst e;rw[bF,bF]
 rw[aY e,aY e]
structure EcR (R:Nat->List RatM) (s:Nat->Nat) (E:Nat->Nat->Rat) (r c:Nat):Prop where
 ln:∀i,i<r->(R (s i)).length=c
 e:∀i j,i<r->j<c->Cr ((R (s i)).getD j U6) (E i j)
theorem EcR.cg {R:Nat->List RatM} {s:Nat->Nat} {E E':Nat->Nat->Rat} {r c:Nat} (h:EcR R s E r c) (he:∀i j,i<r->j<c->E i j=E' i j):EcR R s E' r c:=⟨h.ln,λi j hi hj=>by rw[<-he i j hi hj];exact h.e i j hi hj⟩
theorem EcR.put {R:Nat->List RatM} {s:Nat->Nat} {E:Nat->Nat->Rat} {r c q j:Nat} {g:RatM} {v:Rat} (h:EcR R s E r c) (hs:∀i j,i<r->j<r->s i=s j->i=j) (hq:q<r) (hj:j<c) (hg:Cr g v):EcR (upd R (s q) ((R (s q)).set j g)) s (λi l=>if i=q/\l=j then v else E i l) r c:=⟨λi hi=>by
 by_cases e:i=q
 ·subst e;rw[bF,cC];exact h.ln i hi
 ·rw[aY λe2=>e (hs i q hi hq e2)];exact h.ln i hi,λi l hi hl=>by
 have hlq:=h.ln q hq
 by_cases e:i=q
 ·subst e
  rw[bF]
  by_cases e2:l=j
  ·subst e2
   rw[U3 ⟨U,U⟩,gd (by rw[cC];omega),List.getElem_set_self];exact hg
  rw[U2 (λhh=>e2 hh.2)]
  have:=h.e i l hi hl
  simp only[List.getD,nW (gU e2)]
  exact this
 rw[aY λe2=>e (hs i q hi hq e2),U2 λhh=>e hh.1];exact h.e i l hi hl⟩
def gsP (E:Nat->Nat->Rat) (t C q j:Nat) (i l:Nat):Rat:=if i=q/\l<j then E q l-E q C/E t C*E t l else gsE E t C q i l
theorem aXl {E:Nat->Nat->Rat} {t C q:Nat} (i l:Nat):gsP E t C q 0 i l=gsE E t C q i l:=U2 λh=>U4 h.2 (aF _)
theorem bEl {E:Nat->Nat->Rat} {t C q j:Nat} (i l:Nat):(if i=q/\l=j then E q j-E q C/E t C*E t j else gsP E t C q j i l)=gsP E t C q (j+1) i l:=by
 unfold gsP
 by_cases e:i=q/\l=j
 ·obtain⟨rfl,rfl⟩:=e
  rw[U3 ⟨U,U⟩,U3 ⟨U,aS _⟩]
 rw[U2 e]
 by_cases e2:i=q/\l<j
 ·rw[U3 e2,U3 ⟨e2.1,Uc⟩]
 rw[U2 e2,U2 λh=>?_]
 by_cases e3:l=j
 ·exact e ⟨h.1,e3⟩
 exact e2 ⟨h.1,Uc⟩
theorem bKq {E:Nat->Nat->Rat} {t C q c:Nat} (hq:t<q) (i l:Nat) (hl:l<c):gsP E t C q c i l=gsE E t C (q+1) i l:=by
 unfold gsP gsE
 by_cases e:i=q
 ·subst e;rw[U3 ⟨U,hl⟩,U3 ⟨hq,aS _⟩]
 rw[U2 λh=>e h.1]
 by_cases e2:t<i/\i<q
 ·rw[U3 e2,U3 ⟨e2.1,Uc⟩]
 rw[U2 e2,U2 λh=>e2 ⟨h.1,Uc⟩]
theorem aXm {E:Nat->Nat->Rat} {t C:Nat} (i j:Nat):gsE E t C (t+1) i j=E i j:=U2 λh=>Uc
structure EcG where
 C:Nat
 t:Nat
 pv:Nat->Nat
 n:Int
 s:Nat->Nat
 R:Nat->List RatM
 E:Nat->Nat->Rat
structure EcI (Q:Nat->Nat->Rat) (r c B:Nat) (g:EcG):Prop where
 C:g.C<=c
 o:Ech Q g.E r c g.C g.t g.pv
 R:EcR g.R g.s g.E r c
 lt:∀i,i<r->g.s i<r
 inj:∀i j,i<r->j<r->g.s i=g.s j->i=j
 b:∀i j,i<r->j<c->rb (g.E i j) (bd B (min g.t (r-1)))
 n:g.n=1\/g.n=-1
abbrev ecL (r c:Nat) (A:Nat->Option Nat) (cap s:Nat->Nat):List CV:=eA r λi=>ecH c A cap (s i)
abbrev ec1 (r c:Nat) (g:EcG):List (Nat×DV):=[(12,.c (iC g.C)),(11,.c (iC g.t)),(10,.c (iC g.n)),(9,.c (.s 1 g.t)),(7,.c (.s 0 r)),(1,.c (iC c))]
abbrev aRx (r c:Nat) (A:Nat->Option Nat) (cap:Nat->Nat) (g:EcG):BL:=[(42,1,ecL r c A cap g.s),(3,1,ioC g.t g.pv)]
theorem aAk {r c:Nat} {A:Nat->Option Nat} {cap:Nat->Nat} {g:EcG}:scB 2 (aRx r c A cap g):=aA (bG (bD λ_ _=>U)) (aA (bG (bD λ_ _=>U)) aU)
theorem aOx {l:List RatM} {j:Nat} (h:j<l.length):((fl RatM.C U6 l).drop (j*3)).take 3=(l.getD j U6).C/\(l.getD j U6).C.length=3:=⟨(bCr (f:=RatM.C) (d:=U6) (L:=l) (e:=3) (λ_=>U) j h).symm,U⟩
abbrev bEm (r c:Nat) (A:Nat->Option Nat) (cap:Nat->Nat) (g:EcG) (f:RatM):BL:=[(42,1,ecL r c A cap g.s),(3,1,ioC g.t g.pv),(53,0,f.C)]
theorem aLj {r c:Nat} {A:Nat->Option Nat} {cap:Nat->Nat} {g:EcG} {f:RatM}:scB 3 (bEm r c A cap g f):=aA (bG (bD λ_ _=>U)) (aA (bG (bD λ_ _=>U)) (aA U aU))
theorem bKr {t C:Nat} {pv:Nat->Nat}:((3,1,ioC t pv++[iC (C:Nat)]):TypeId×Nat×List CV)=(3,1,ioC (t+1) (upd pv t C)):=by
 rw[show ioC (t+1) (upd pv t C)=ioC t (upd pv t C)++[iC (upd pv t C t:Nat)] from aCx,bF,show ioC t (upd pv t C)=ioC t pv from gM λi hi=>by rw[aY oM]]
structure EcO where
 d:Sl (Sl RatM)
 p:Sl Int
 n:Int
 E:Nat->Nat->Rat
 t:Nat
 pv:Nat->Nat
structure EcP (Q:Nat->List Rat) (r c B:Nat) (g:EcO):Prop where
 o:Ech (λi j=>(Q i).getD j 0) g.E r c c g.t g.pv
 p:g.p.l=nL g.t g.pv
 d:g.d.l.length=r
 l:∀i,i<r->(g.d.l.getD i cG).l.length=c
 e:∀i j,i<r->j<c->Cr ((g.d.l.getD i cG).l.getD j U6) (g.E i j)
 b:∀i j,i<r->j<c->rb (g.E i j) (bd B (min g.t (r-1)))
theorem bTa {A:Option Addr} {c t:Nat} {pv:Nat->Nat}:CV.r A t c 1 (λj=>[iC ((nL t pv).getD j 0)])=cI ⟨A,c,nL t pv⟩:=by
 unfold cI Sl.R;rw[show(nL t pv).length=t by unfold nL;rw[aK,fJ]]
def bYb:Ord:=.joinR (List.range 14) (.alt 14 (trS [15,1016]) (.alt 15 (trS [14,1016]) .nil))
theorem bNr (d:Sl (Sl RatM)) {Q:Nat->List Rat} {r c B:Nat} (h:Rr d Q r c) (hb:∀i,i<r->rbL (Q i) B) (h1:1<=B) (hB:bd B (r-1)<=4398046511104) (hr:r<=4096) (hc:c<=4096):Ctr pgQ 119 [] [.c (yC d),.c (iC c)] [] (λg:EcO=>⟨.t [.c (yC g.d),.c (cI g.p),.c (iC g.n)],[],EcP Q r c B g⟩):=by
 have hl:=h.ln
 refine cw func119 (?_)
 show Sd _ _ _ _ _ _
 refine aDs tSd 7 42 1 U bL U ?_
 refine aXd tSd 53 3 r bL ?_
 refine bX (λ_=>true) (λg:Nat×(Nat->Option Nat)×(Nat->Nat)×(Nat->List RatM)=>ec0 d c g.1) (λg=>cBz (eA g.1 (ecH c g.2.1 g.2.2.1))) (λg=>[elF r g.2.1 g.2.2.1 g.2.2.2]) (λg=>g.1<=r/\(∀j,j<g.1->Rl (g.2.2.2 j) (Q j))/\∀j,g.1<=j->g.2.1 j=none) (λg=>r-g.1) λhM=>⟨hM (0,λ_=>none,λ_=>0,λ_=>[]) ⟨aB _,λj hj=>U4 hj (aF _),λ_ _=>U⟩ U U ⟨U,tV⟩ rS bL (aA (bG (bD λ_ _=>U)) aU) U,λ⟨k,A,cap,R⟩ ⟨hk,hR,hA⟩=>vk ⟨λh2=>vk ?_,λh2=>?_⟩⟩
 all_goals
  replace hk:k<=r:=hk
  replace hR:∀j,j<k->Rl (R j) (Q j):=hR
  replace hA:∀j,k<=j->A j=none:=hA
 ·replace h2:(k:Int)<(d.l.length:Nat):=h2
  have hkr:k<r:=Uc
  obtain⟨hrw,hrc⟩:=h.row k hkr
  have hln:(d.l.getD k cG).l.length=c:=hrw.ln.trans hrc
  refine⟨k,⟨U,show k<d.l.length by omega⟩,⟨λ_ _=>U,U,by simp only[maxLen];omega,by show(0+(d.l.getD k cG).l.length)*56<=_;omega,λc' hc'=>bJ (xA gF c' hc')⟩,λc' hc'=>bJ (bD (λ_ _=>U) c' hc'),⟨U,by show k*1=(eA k _).length;rw[dD,bE],by show k+1<=maxLen;simp only[maxLen];omega,by show(k+1)*24<=_;omega,λc' hc'=>(aO.1 hc').elim (λhc'=>bJ (bD (λ_ _=>U) c' hc')) λhc'=>by rw[aE.1 hc'];rfl⟩,?_⟩
  refine⟨λc' hc'=>bJ (xA gF c' hc'),(λc' hc'=>by rw[aE.1 hc'];rfl),(k+1:Nat),wi,kT tGt 1 U bL (λc' hc'=>xA gF c' hc') bL U λAa aa=>⟨_,bKp hln,_,U,bQy tGt 0 1 k U U U hkr (hA k (aH _)) bL U U (hM (k+1,upd A k Aa,upd cap k aa,upd R k (d.l.getD k cG).l) ⟨⟨hkr,λj hj=>?_,λj hj=>?_⟩,show r-(k+1)<r-k by omega⟩ U U ⟨bEk,tV⟩ rS bL (aA (bG (bD λ_ _=>U)) aU) U)⟩⟩
  ·show Rl (upd R k _ j) _
   by_cases hjk:j=k
   ·subst hjk;rw[bF];exact hrw
   rw[aY hjk];exact hR j (by have:j<k+1:=hj;omega)
  have hj':k+1<=j:=hj
  exact(aY oM).trans (hA j oM)
 replace h2:¬(k:Int)<(d.l.length:Nat):=h2
 obtain rfl:k=r:=Uc
 refine vk (vk ?_)
 show Sd _ _ _ _ _ _
 refine aDs tSd 9 3 1 U bL U ?_
 refine cAy tSd 0 U λhall=>?_
 have hA:∀j,j<k->0<c->∃b,A j=some b:=λj hj hc0=>hall j hj λhe=>by
  have h2:=aAi (f:=RatM.C) (d:=U6) (L:=R j) (e:=3) λ_=>U
  rw[show fl RatM.C U6 (R j)=[] from he,(hR j hj).ln,(h.row j hj).2] at h2
  simp at h2
  omega
 refine bX (λ_=>true) (λg:EcG=>ec1 k c g) (λg=>aRx k c A cap g) (λg=>[elF k A cap g.R]) (λg=>EcI (λi j=>(Q i).getD j 0) k c B g) (λg=>c-g.C) λhM=>⟨hM ⟨0,0,λ_=>0,1,λi=>i,R,λi j=>(Q i).getD j 0⟩ ⟨aB _,Ech.start _,⟨λi hi=>(hR i hi).ln.trans (h.row i hi).2,λi j hi hj=>(hR i hi).e j (by rw[(h.row i hi).2];exact hj)⟩,λ_ hi=>hi,λ_ _ _ _ e=>e,λi j hi hj=>by
  show rb _ (bd B (min 0 (k-1)))
  rw[Nat.zero_min]
  exact hb i hi _ (gD0 (by rw[(h.row i hi).2];exact hj)),.inl rfl⟩ U ⟨U,U⟩ ⟨U,tV⟩ rS bL aAk U,λ⟨C,t,pv,n,s,R,E⟩ hI=>vk ⟨λh3=>vk ?_,λh3=>?_⟩⟩
 all_goals
  obtain⟨hC,ho,hER,hsl,hsi,hbd,hn⟩:=hI
  replace hC:C<=c:=hC
  replace ho:Ech (λi j=>(Q i).getD j 0) E k c C t pv:=ho
  replace hER:EcR R s E k c:=hER
  replace hsl:∀i,i<k->s i<k:=hsl
  replace hsi:∀i j,i<k->j<k->s i=s j->i=j:=hsi
  replace hbd:∀i j,i<k->j<c->rb (E i j) (bd B (min t (k-1))):=hbd
  replace hn:n=1\/n=-1:=hn
  replace h3:=h3
  have htk:=ho.tr
 ·replace h3:(C:Int)<(c:Nat)/\(t:Int)<(k:Nat):=h3
  have hCc:C<c:=Uc
  have htk':t<k:=Uc
  have hAs:∀i,i<k->A (s i)=some ((A (s i)).getD 0):=λi hi=>by
   obtain⟨b,hb⟩:=hA (s i) (hsl i hi) oM
   rw[hb];rfl
  have hcl:∀i,i<k->C<(R (s i)).length:=λi hi=>by rw[hER.ln i hi];exact hCc
  have hrq:∀i,i<k->Rq ((R (s i)).getD C U6) (E i C) (bd B (min t (k-1))):=λi hi=>(hER.e i C hi hCc).rq (hbd i C hi hCc)
  have hbt:bd B (min t (k-1))<=4398046511104:=aJ (mV oM) hB
  refine vk ?_
  show Sd _ _ _ _ _ _
  refine bX (λ_=>true) (λm:Nat=>(13,.c (iC m))::ec1 k c ⟨C,t,pv,n,s,R,E⟩) (λ_=>aRx k c A cap ⟨C,t,pv,n,s,R,E⟩) (λ_=>[elF k A cap R]) (λm=>(t<=m/\m<=k)/\∀i,t<=i->i<m->E i C=0) (λm=>k-m) λhM2=>⟨hM2 t ⟨⟨aH t,htk⟩,λi h1 h2=>U4 h2 oM⟩ U ⟨U,U⟩ ⟨U,tV⟩ rS bL aAk U,λm ⟨hm,hz⟩=>vk ?_⟩
  replace hm:t<=m/\m<=k:=hm
  replace hz:∀i,t<=i->i<m->E i C=0:=hz
  have hmk:(m:Int)<(k:Nat)->m<k:=λh=>Uc
  refine⟨m,λhq=>⟨U,hmk hq,cS (hmk hq)⟩,_,λhq=>eD (hmk hq),C,(A (s m)).getD 0,λhq=>⟨U,hCc,hAs m (hmk hq)⟩,0,s m,λhq=>⟨hsl m (hmk hq),hAs m (hmk hq)⟩,_,λhq=>aOx (hcl m (hmk hq)),⟨λh4=>⟨[],tT _ ((hrq m (hmk h4)).le),U,U,U,λ_ _=>⟨λh5=>?_,λh5=>?_⟩⟩,λh4=>?_⟩⟩
  ·have hm':=hmk h4
   replace h5:sgn (E m C).num=0:=h5
   have hE0:E m C=0:=by
    have h7:=fT.1 h5
    exact cY.1 h7
   exact vk ⟨(m+1:Nat),wi,hM2 (m+1) ⟨⟨⟨Uc,hm'⟩,λi h1 h2=>by
    by_cases e:i=m
    ·subst e;exact hE0
    exact hz i h1 oM⟩,show k-(m+1)<k-m by omega⟩ U ⟨U,U⟩ ⟨U,tV⟩ rS bL aAk U⟩
  ·have hm':=hmk h4
   replace h5:¬sgn (E m C).num=0:=h5
   have hE0:E m C≠0:=λe=>h5 (by rw[e];rfl)
   refine vk (vk ⟨λh6=>?_,λh6=>?_⟩)
   ·replace h6:(m:Int)=(k:Nat):=h6
    omega
   refine vk ?_
   refine vjn (λ_=>true) (λg:(Nat->Nat)×Int=>ec1 k c ⟨C,t,pv,g.2,g.1,R,λi=>E (sw2 m t i)⟩) (λg=>aRx k c A cap ⟨C,t,pv,g.2,g.1,R,λi=>E (sw2 m t i)⟩) (λg=>g.1=(λi=>s (sw2 m t i))/\(g.2=1\/g.2=-1)) ?_
   refine⟨⟨λh7=>vk ?_,λh7=>vk ?_⟩,λ⟨s',n'⟩ hg=>?_⟩
   ·replace h7:(m:Int)≠(t:Nat):=h7
    refine⟨.seq [(0,false),(1,false),(2,false),(3,false),(4,false),(5,false),(6,false),(7,false),(8,false),(9,false),(10,false),(11,false),(12,false),(13,true),(14,false),(15,true)],U0,t,⟨U,htk',cS htk'⟩,_,eD htk',m,⟨U,hm',cS hm'⟩,_,eD hm',m,⟨U,hm',cS hm'⟩,_,gX (c:=ecH c A cap (s t)) (Q:=λi=>if i=m then ecH c A cap (s t) else ecH c A cap (s i)) hm' (λ_ _=>U),t,⟨U,htk',cS htk'⟩,_,gX (c:=ecH c A cap (s m)) (Q:=λi=>ecH c A cap (s (sw2 m t i))) htk' (λi _=>?_),-n,wi (h:=⟨by show-n=0-n;omega,by show _<=0-n;omega,by show 0-n<=_;omega⟩),(λi=>s (sw2 m t i),-n),⟨U,by show-n=1\/-n=-1;omega⟩,U,U,U,U,U,U,U,U⟩
    unfold sw2
    by_cases e1:i=m
    ·rw[U2 oM,U3 e1,U3 e1]
    by_cases e2:i=t
    ·rw[U3 e2,U2 e1,U3 e2]
    rw[U2 e2,U2 e1,U2 e1,U2 e2]
   ·replace h7:¬(m:Int)≠(t:Nat):=h7
    refine⟨(s,n),⟨funext λi=>?_,hn⟩,U,U,U,U,U,U,U,U⟩
    have e:m=t:=Uc
    show s i=s (sw2 m t i)
    unfold sw2
    by_cases e1:i=t
    ·rw[e,U3 e1,e1]
    rw[U2 oM,U2 e1]
   obtain⟨hs',hn'⟩:=hg
   replace hs':s'=λi=>s (sw2 m t i):=hs'
   replace hn':n'=1\/n'=-1:=hn'
   obtain⟨E1,hE1⟩:∃E1:Nat->Nat->Rat,E1=λi=>E (sw2 m t i):=⟨_,U⟩
   have hsl':∀i,i<k->s' i<k:=λi hi=>by rw[hs'];exact hsl _ (uO hm' htk' hi)
   have hsi':∀i j,i<k->j<k->s' i=s' j->i=j:=λi j hi hj e=>by
    rw[hs'] at e
    exact bKo (hsi _ _ (uO hm' htk' hi) (uO hm' htk' hj) e)
   have hER1:EcR R s' E1 k c:=⟨λi hi=>by rw[hs'];exact hER.ln _ (uO hm' htk' hi),λi j hi hj=>by rw[hs',hE1];exact hER.e _ j (uO hm' htk' hi) hj⟩
   have hbd1:∀i j,i<k->j<c->rb (E1 i j) (bd B (min t (k-1))):=λi j hi hj=>by rw[hE1];exact hbd _ j (uO hm' htk' hi) hj
   have hp1:E1 t C≠0:=by
    rw[hE1]
    show E (sw2 m t t) C≠0
    rw[show sw2 m t t=m by unfold sw2;split<;>simp_all]
    exact hE0
   have hE:=ho.step hm.1 hm' hE0
   rw[<-hE1] at hE
   clear hER hbd hAs hcl hrq hz hE0 hsl hsi
   refine⟨(t+1:Nat),wi,?_⟩
   show Sd _ _ _ _ _ _
   refine bX (λ_=>true) (λg:Nat×(Nat->List RatM)=>(14,.c (iC g.1))::ec1 k c ⟨C,t,pv,n',s',g.2,E1⟩) (λg=>aRx k c A cap ⟨C,t,pv,n',s',g.2,E1⟩) (λg=>[elF k A cap g.2]) (λg=>(t+1<=g.1/\g.1<=k)/\EcR g.2 s' (gsE E1 t C g.1) k c) (λg=>k-g.1) λhM3=>⟨hM3 (t+1,R) ⟨⟨aH _,htk'⟩,hER1.cg λi j _ _=>(aXm i j).symm⟩ U ⟨U,U⟩ ⟨U,tV⟩ rS bL aAk U,λ⟨q,R'⟩ ⟨hq,hR'⟩=>vk ⟨λh8=>vk ?_,λh8=>?_⟩⟩
   all_goals
    replace hq:t+1<=q/\q<=k:=hq
    replace hR':EcR R' s' (gsE E1 t C q) k c:=hR'
   ·replace h8:(q:Int)<(k:Nat):=h8
    have hqk:q<k:=Uc
    have hmt:min t (k-1)=t:=Uc
    rw[hmt] at hbd1 hbt
    have hB4:4*bd B t+1<=4398046511104:=aJ (mV (k:=t+1) oM) hB
    have hAs:∀i,i<k->A (s' i)=some ((A (s' i)).getD 0):=λi hi=>by
     obtain⟨b,hb⟩:=hA (s' i) (hsl' i hi) oM
     rw[hb];rfl
    have hlq:C<(R' (s' q)).length:=by rw[hR'.ln q hqk];exact hCc
    have hlt:C<(R' (s' t)).length:=by rw[hR'.ln t htk'];exact hCc
    have gq:∀j,gsE E1 t C q q j=E1 q j:=λj=>U2 λh=>Uc
    have gt:∀j,gsE E1 t C q t j=E1 t j:=λj=>U2 λh=>Uc
    have rq:Rq ((R' (s' q)).getD C U6) (E1 q C) (bd B t):=by
     have:=hR'.e q C hqk hCc
     rw[gq] at this
     exact this.rq (hbd1 q C hqk hCc)
    have rt:Rq ((R' (s' t)).getD C U6) (E1 t C) (bd B t):=by
     have:=hR'.e t C htk' hCc
     rw[gt] at this
     exact this.rq (hbd1 t C htk' hCc)
    refine⟨bYb,U0,RatM,λf=>⟨((15,.c (.p 2 0))::(14,.c (iC q))::ec1 k c ⟨C,t,pv,n',s',R',E1⟩)++[],[],bEm k c A cap ⟨C,t,pv,n',s',R',E1⟩ f,[elF k A cap R']⟩,λf=>Cr f (E1 q C/E1 t C),⟨q,⟨U,hqk,cS hqk⟩,_,eD hqk,C,_,⟨U,hCc,hAs q hqk⟩,0,s' q,⟨hsl' q hqk,hAs q hqk⟩,_,aOx hlq,t,⟨U,htk',cS htk'⟩,_,eD htk',C,_,⟨U,hCc,hAs t htk'⟩,0,s' t,⟨hsl' t htk',hAs t htk'⟩,_,aOx hlt,?_,?_⟩,λf hf=>?_⟩
    ·exact⟨[],aKl _ _ (rq.le) (rt.le) hp1,U,U,U,λf hf=>iP (M:=λ_=>true) (base:=[]) (chg:=λ_:RatM=>(15,.c (.p 2 0))::(14,.c (iC q))::ec1 k c ⟨C,t,pv,n',s',R',E1⟩) (bls:=λf=>bEm k c A cap ⟨C,t,pv,n',s',R',E1⟩ f) (fls:=λ_=>[elF k A cap R']) (λt d ht=>by cases ht) f hf U ⟨U,U,U⟩ ⟨U,tV⟩ rS bL aLj U⟩
    ·exact⟨[],aKl _ _ (rq.le) (rt.le) hp1,U,U,U,λf hf=>iP (M:=λ_=>true) (base:=[]) (chg:=λ_:RatM=>(15,.c (.p 2 0))::(14,.c (iC q))::ec1 k c ⟨C,t,pv,n',s',R',E1⟩) (bls:=λf=>bEm k c A cap ⟨C,t,pv,n',s',R',E1⟩ f) (fls:=λ_=>[elF k A cap R']) (λt d ht=>by cases ht) f hf U ⟨U,U,U⟩ ⟨U,tV⟩ rS bL aLj U⟩
    replace hf:Cr f (E1 q C/E1 t C):=hf
    have rf:rb (E1 q C/E1 t C) (bd B t+bd B t):=aLh (hbd1 q C hqk hCc) (hbd1 t C htk' hCc) (wQ h1 t)
    show Sd _ _ _ _ _ _
    refine bX (λ_=>true) (λg:Nat×(Nat->List RatM)=>(16,.c (iC g.1))::(15,.c (.p 2 0))::(14,.c (iC q))::ec1 k c ⟨C,t,pv,n',s',g.2,E1⟩) (λg=>bEm k c A cap ⟨C,t,pv,n',s',g.2,E1⟩ f) (λg=>[elF k A cap g.2]) (λg=>g.1<=c/\EcR g.2 s' (gsP E1 t C q g.1) k c) (λg=>c-g.1) λhM4=>⟨hM4 (0,R') ⟨aB _,hR'.cg λi j _ _=>(aXl i j).symm⟩ U ⟨U,U,U⟩ ⟨U,tV⟩ rS bL aLj U,λ⟨j,S⟩ ⟨hj,hS⟩=>vk ⟨λh9=>vk ?_,λh9=>?_⟩⟩
    all_goals
     replace hj:j<=c:=hj
     replace hS:EcR S s' (gsP E1 t C q j) k c:=hS
    ·replace h9:(j:Int)<(c:Nat):=h9
     have hjc:j<c:=Uc
     have ljq:j<(S (s' q)).length:=by rw[hS.ln q hqk];exact hjc
     have ljt:j<(S (s' t)).length:=by rw[hS.ln t htk'];exact hjc
     have pq:gsP E1 t C q j q j=E1 q j:=(U2 λh=>by omega).trans (gq j)
     have pt:gsP E1 t C q j t j=E1 t j:=(U2 λh=>by omega).trans (gt j)
     have rsq:Rq ((S (s' q)).getD j U6) (E1 q j) (bd B t):=by
      have:=hS.e q j hqk hjc
      rw[pq] at this
      exact this.rq (hbd1 q j hqk hjc)
     have rst:Rq ((S (s' t)).getD j U6) (E1 t j) (bd B t):=by
      have:=hS.e t j htk' hjc
      rw[pt] at this
      exact this.rq (hbd1 t j htk' hjc)
     refine⟨.seq (sq 23 (List.range 24)),U0,q,⟨U,hqk,cS hqk⟩,_,eD hqk,q,⟨U,hqk,cS hqk⟩,_,eD hqk,j,_,⟨U,hjc,hAs q hqk⟩,0,s' q,⟨hsl' q hqk,hAs q hqk⟩,_,aOx ljq,t,⟨U,htk',cS htk'⟩,_,eD htk',j,_,⟨U,hjc,hAs t htk'⟩,0,s' t,⟨hsl' t htk',hAs t htk'⟩,_,aOx ljt,[],aGt f _ ((Cr.rq hf rf).le) (rst.le),U,U,U,λx hx=>⟨[],aGi _ x (rsq.le) ((Cr.rq hx (fW rf (hbd1 t j htk' hjc))).le),U,U,U,λg hg=>⟨j,_,⟨U,hjc,hAs q hqk⟩,0,s' q,_,⟨hsl' q hqk,hAs q hqk,aUi (f:=RatM.C) (d:=U6) (L:=S (s' q)) (e:=3) (λ_=>U) ljq⟩,(j+1:Nat),wi,hM4 (j+1,upd S (s' q) ((S (s' q)).set j g)) ⟨⟨hjc,(hS.put hsi' hqk hjc hg).cg λi l _ _=>bEl i l⟩,show c-(j+1)<c-j by omega⟩ U ⟨U,U,U⟩ ⟨bEk,tV⟩ rS bL aLj U⟩⟩⟩
    replace h9:¬(j:Int)<(c:Nat):=h9
    obtain rfl:j=c:=Uc
    refine vk ⟨(q+1:Nat),wi,iP (M:=λ_=>true) (base:=[]) (λt d ht=>by cases ht) (chg:=λg:Nat×(Nat->List RatM)=>(14,.c (iC g.1))::ec1 k j ⟨C,t,pv,n',s',g.2,E1⟩) (bls:=λg=>aRx k j A cap ⟨C,t,pv,n',s',g.2,E1⟩) (fls:=λg=>[elF k A cap g.2]) (q+1,S) ⟨⟨⟨Uc,hqk⟩,hS.cg λi l _ hl=>bKq oM i l hl⟩,show k-(q+1)<k-q by omega⟩ U ⟨U,U⟩ ⟨U,tV⟩ rS bL aAk U⟩
   replace h8:¬(q:Int)<(k:Nat):=h8
   obtain rfl:q=k:=Uc
   have htq:t<=4096:=Uc
   refine vk (vk ⟨⟨U,by show t*1=(ioC t pv).length;rw[dD,bE],by show t+1<=maxLen;simp only[maxLen];omega,by show(t+1)*8<=_;omega,λc' hc'=>(aO.1 hc').elim (λhc'=>bJ (bD (λ_ _=>U) c' hc')) λhc'=>by rw[aE.1 hc'];rfl⟩,λc' hc'=>bJ (bD (λ_ _=>U) c' hc'),(λc' hc'=>by rw[aE.1 hc'];rfl),(t+1:Nat),wi,?_⟩)
   refine⟨(C+1:Nat),wi,iP (M:=λ_=>true) (base:=[]) (λt d ht=>by cases ht) (chg:=λg:EcG=>ec1 q c g) (bls:=λg=>aRx q c A cap g) (fls:=λg=>[elF q A cap g.R]) ⟨C+1,t+1,upd pv t C,n',s',R',gsE E1 t C q⟩ ⟨⟨hCc,hE,hR',hsl',hsi',λi j hi hj=>?_,hn'⟩,show c-(C+1)<c-C by omega⟩ U ⟨U,bKr⟩ ⟨U,tV⟩ rS bL aAk U⟩
   show rb (gsE E1 t C q i j) (bd B (min (t+1) (q-1)))
   unfold gsE
   split
   ·next hh=>
    have e1:min t (q-1)=t:=Uc
    have e2:min (t+1) (q-1)=t+1:=Uc
    rw[e1] at hbd1
    rw[e2]
    have:=pJ (hbd1 i j hi hj) (fW (aLh (hbd1 i C hi hCc) (hbd1 t C htk' hCc) (wQ h1 t)) (hbd1 t j htk' hj))
    exact this.le (by show _<=4*bd B t+1;omega)
   exact(hbd1 i j hi hj).le (mV oM)
  have hmk2:m=k:=by
   replace h4:¬(m:Int)<(k:Nat):=h4
   omega
  refine vk ⟨λh6=>vk ⟨(C+1:Nat),wi,hM ⟨C+1,t,pv,n,s,R,E⟩ ⟨⟨hCc,ho.skip λi h1 h2=>hz i h1 oM,hER,hsl,hsi,hbd,hn⟩,show c-(C+1)<c-C by omega⟩ U ⟨U,U⟩ ⟨U,tV⟩ rS bL aAk U⟩,λh6=>U4 (U5 Int.ofNat hmk2) h6⟩
 have hoc:Ech (λi j=>(Q i).getD j 0) E k c c t pv:=by
  by_cases e:C=c
  ·rw[<-e] at ho ⊢;exact ho
  have e2:t=k:=by
   replace h3:¬((C:Int)<(c:Nat)/\(t:Int)<(k:Nat)):=h3
   omega
  subst e2
  exact ho.all hC
 refine vk ?_
 show Sd _ _ _ _ _ _
 have hfr:∀j,j<k->FrC (elF k A cap R) (ecH c A cap (s j)) (dS (rwS A cap R (s j))):=λj hj=>by
  rw[show ecH c A cap (s j)=hdR A cap R (s j) from U5 (λm=>CV.h (A (s j)) m (cap (s j))) (hER.ln j hj).symm]
  exact bDf (s j) (hsl j hj)
 refine jQ tSd 0 0 (eA k λj=>dS (rwS A cap R (s j))) U U U (by rw[dD,dD]) (aCt hfr) ?_
 refine nS 7 0 (λj=>[dS ((sQ (λi=>rwS A cap R (s i)) k).getD j cG)]) U U aLd (by rw[dD,bE]) bL (bD λ_ _=>U) bL λA2 c2 _ _=>⟨cm (bD λ_ _=>U),?_⟩
 show Sd _ _ _ _ _ _
 refine nS 9 1 (λj=>[iC ((nL t pv).getD j 0)]) U U (λj hj=>aUq j hj) (by rw[dD,bE]) bL (bD λ_ _=>U) bL λPA pc _ _=>⟨(λc' hc'=>by cases hc'),vk ⟨⟨⟨A2,c2,sQ (λi=>rwS A cap R (s i)) k⟩,⟨PA,pc,nL t pv⟩,n,E,t,pv⟩,⟨hoc,U,zK,λi hi=>?_,λi j hi hj=>?_,hbd⟩,aI ⟨aLe,bTa,U⟩ U tV⟩⟩
 ·show((sQ (λi=>rwS A cap R (s i)) k).getD i cG).l.length=c
  rw[yD hi];exact hER.ln i hi
 show Cr (((sQ (λi=>rwS A cap R (s i)) k).getD i cG).l.getD j U6) (E i j)
 rw[yD hi];exact hER.e i j hi hj
abbrev mQ (M:Nat->List En) (i j:Nat):Rat:=Vm.get (M i) (j:Nat)
theorem Ech.cg {Q Q' E:Nat->Nat->Rat} {r c C t:Nat} {pv:Nat->Nat} (h:Ech Q E r c C t pv) (hq:∀i j,i<r->j<c->Q i j=Q' i j):Ech Q' E r c C t pv:=⟨h.tr,h.lt,h.mono,h.piv,h.z,λx=>(h.nul x).trans ⟨λhh i hi=>by rw[<-hh i hi];exact aZ λj hj=>by rw[hq i j hi hj],λhh i hi=>by rw[<-hh i hi];exact aZ λj hj=>by rw[hq i j hi hj]⟩⟩
structure InP (M:Nat->List En) (a b:Nat) (p:Sl Int):Prop where
 ex:∃(E:Nat->Nat->Rat) (t:Nat) (pv:Nat->Nat),p.l=nL t pv/\Ech (mQ M) E a b b t pv
theorem bTb (m:MatM) {M:Nat->List En} {a b B:Nat} (h:Mr m M a b B) (hb:rbM M a B) (h1:1<=B) (hB:bd B (a-1)<=4398046511104) (ha:a<=4096) (hbn:b<=4096):Ctr pgQ 122 [] [.a m.C] [] (λg:Sl Int=>⟨.t [.c (cI g),.c (iC 0)],[],InP M a b g⟩):=by
 have h':=h
 obtain⟨mr,mc,md⟩:=m
 obtain rfl:mr=(a:Nat):=h.r
 obtain rfl:mc=(b:Nat):=h.c
 have hBB:B<=4398046511104:=aJ (mV (aB (a-1))) hB
 have dn:∀i,i<a->rbL (dnL (M i) b) B:=λi hi q hq=>by
  obtain⟨j,_,rfl⟩:=bZ.1 hq
  exact mK (h.ok i hi).1.1 (hb i hi) h1
 refine cw func122 (⟨[],bSg _ h' oM ha hbn,U,U,U,λ_ _=>⟨λhh=>U4 trivial hh,λ_=>vk ⟨.seq [(0,false),(2,false),(3,false),(1,false),(4,true),(5,false),(6,false),(7,false),(8,false),(9,false),(10,false),(11,false)],U0,[],bSj _ h' hb h1 hBB ha hbn,U,U,U,λd hd=>⟨[],bNr d hd dn h1 hB ha hbn,U,U,U,λg hg=>⟨g.p,⟨g.E,g.t,g.pv,hg.p,?_⟩,aI ⟨U,U⟩ U tV⟩⟩⟩⟩⟩)
 exact hg.o.cg λi j hi hj=>aRe hj
theorem bTc (m:MatM) {M:Nat->List En} {a b B:Nat} (h:Mr m M a b B) (hb:rbM M a B) (h1:1<=B) (hB:bd B (a-1)<=4398046511104) (ha:a<=4096) (hbn:b<=4096):Ctr pgQ 79 [] [.a m.C] [] (λg:Nat=>⟨.c (iC g),[],∃(E:Nat->Nat->Rat) (pv:Nat->Nat),Ech (mQ M) E a b b g pv⟩):=by
 refine cw func79 (⟨[],bTb m h hb h1 hB ha hbn,U,U,U,λg hg=>?_⟩)
 obtain⟨E,t,pv,hp,he⟩:=hg.ex
 obtain rfl:t=g.l.length:=by rw[hp];unfold nL;rw[aK,fJ]
 exact⟨g.l.length,⟨E,pv,he⟩,aI U U tV⟩
structure FeR (m:MatM) (M:Nat->List En) (e:Int):Prop where
 bad:¬MOk m M->e=1
 shp:MOk m M->m.r≠m.c->e=4
 sq:∀n:Nat,MOk m M->m.r=(n:Nat)->m.c=(n:Nat)->(Ker M n->e=6)/\(¬Ker M n->e=0)
structure RepG where
 w:Nat->Rat
 o:Option (Sl EntM×StpM×Option Nat×Nat)
theorem aOy {l:List CV} (h:l.all fS=true):∀c∈l,fS c=true:=aX.1 h
theorem LuOk.nk {M:Nat->List En} {n:Nat} {rw cl:Nat->Nat} {Lw Up:Nat->List En} (h:LuOk M n rw cl Lw Up):¬Ker M n:=by
 obtain⟨lo,us,p,hP⟩:=h.parts
 obtain⟨xv,hx⟩:=aRw h.clt h.cinj (bwd us p n (fwd lo (λ_=>0) n) n)
 have hS:Sol M n (λ_=>0) xv:=h.sol (b:=λ_=>0) hP hx
 have h0:=(hS λ_=>0).1 λk _=>fF λj _=>bU _
 rintro⟨x,⟨i,hi,hxi⟩,hz⟩
 exact hxi (((hS x).1 hz i hi).trans (h0 i hi).symm)
structure ColM where
 k:RatM
 pl:Prop
 dl:Decidable pl
 l:RatM
 pu:Prop
 du:Decidable pu
 u:RatM
instance:Inhabited ColM:=⟨⟨U6,False,inferInstance,U6,False,inferInstance,U6⟩⟩
def ColM.C (c:ColM):List CV:=[.b c.k.n.p c.k.n.d,eI c.k.n.m,eI c.k.d,.b c.pl c.dl,.b c.l.n.p c.l.n.d,eI c.l.n.m,eI c.l.d,.b c.pu c.du,.b c.u.n.p c.u.n.d,eI c.u.n.m,eI c.u.d]
structure ColR (c:ColM) (k l u:Rat) (B:Nat):Prop where
 k:Rq c.k k B
 l:Rq c.l l B
 u:Rq c.u u B
structure RowM where
 s:Int
 b:RatM
 e:Sl EntM
instance:Inhabited RowM:=⟨⟨0,U6,cG⟩⟩
def RowM.C (r:RowM):List CV:=[iC r.s,.b r.b.n.p r.b.n.d,eI r.b.n.m,eI r.b.d,cF r.e]
structure RowR (r:RowM) (b:Rat) (es:List En) (B:Nat):Prop where
 b:Rq r.b b B
 e:Ev r.e.l es B
def Pmt (c:ColM) (s:Int):Prop:=s=2\/(s=0/\c.pl)\/(s=1/\c.pu)\/(s=3/\¬c.pl/\¬c.pu)
open Classical in
noncomputable def dfC (c:ColM):Int:=if c.pl then 0 else if c.pu then 1 else 3
def dfR (s:Int):Int:=if s=-1 then 1 else 0
theorem bNs (c:ColM) (s:Int):Ctr pgQ 49 [] [.a c.C,.c (iC s)] [] (λ_:Unit=>⟨pC (Pmt c s),[],True⟩):=by
 refine cw func49 (⟨λh=>vk ?_,λh=>vk ⟨λh2=>vk ?_,λh2=>vk ⟨λh3=>vk ?_,λh3=>vk ⟨λh4=>vk ?_,λh4=>vk ?_⟩⟩⟩⟩)
 ·exact⟨(),tV,aI (tt (.inl h)) U tV⟩
 ·replace h:¬s=2:=h
  replace h2:s=0:=h2
  refine⟨(),tV,aI ⟨λhh=> .inr (.inl ⟨h2,hh⟩),λhh=>?_⟩ U tV⟩
  rcases hh with hh|hh|hh|hh
  ·omega
  ·exact hh.2
  ·omega
  omega
 ·replace h:¬s=2:=h
  replace h2:¬s=0:=h2
  replace h3:s=1:=h3
  refine⟨(),tV,aI ⟨λhh=> .inr (.inr (.inl ⟨h3,hh⟩)),λhh=>?_⟩ U tV⟩
  rcases hh with hh|hh|hh|hh
  ·omega
  ·omega
  ·exact hh.2
  omega
 ·replace h:¬s=2:=h
  replace h2:¬s=0:=h2
  replace h3:¬s=1:=h3
  replace h4:s=3:=h4
  refine⟨(),tV,aI ⟨λhh=> .inr (.inr (.inr ⟨h4,hh⟩)),λhh=>?_⟩ U tV⟩
  rcases hh with hh|hh|hh|hh
  ·omega
  ·omega
  ·omega
  exact hh.2
 replace h:¬s=2:=h
 replace h2:¬s=0:=h2
 replace h3:¬s=1:=h3
 replace h4:¬s=3:=h4
 exact⟨(),tV,aI (ff λhh=>by rcases hh with hh|hh|hh|hh<;>omega) U tV⟩
theorem bNt (c:ColM) (s:Int):Ctr pgQ 33 [] [.a c.C,.c (iC s)] [] (λ_:Unit=>⟨pC (Pmt c s),[],True⟩):=by
 refine cw func33 (⟨λh2=>vk ?_,λh2=>vk ⟨λh3=>vk ?_,λh3=>vk ⟨λh4=>vk ?_,λh4=>vk ?_⟩⟩⟩)
 ·replace h2:s=0:=h2
  refine⟨(),tV,aI ⟨λhh=> .inr (.inl ⟨h2,hh⟩),λhh=>?_⟩ U tV⟩
  rcases hh with hh|hh|hh|hh
  ·omega
  ·exact hh.2
  ·omega
  omega
 ·replace h2:¬s=0:=h2
  replace h3:s=1:=h3
  refine⟨(),tV,aI ⟨λhh=> .inr (.inr (.inl ⟨h3,hh⟩)),λhh=>?_⟩ U tV⟩
  rcases hh with hh|hh|hh|hh
  ·omega
  ·omega
  ·exact hh.2
  omega
 ·replace h2:¬s=0:=h2
  replace h3:¬s=1:=h3
  replace h4:s=3:=h4
  refine⟨(),tV,aI ⟨λhh=> .inr (.inr (.inr ⟨h4,hh⟩)),λhh=>?_⟩ U tV⟩
  rcases hh with hh|hh|hh|hh
  ·omega
  ·omega
  ·omega
  exact hh.2
 replace h2:¬s=0:=h2
 replace h3:¬s=1:=h3
 replace h4:¬s=3:=h4
 exact⟨(),tV,aI ⟨λhh=> .inl hh,λhh=>by rcases hh with hh|hh|hh|hh<;>omega⟩ U tV⟩
theorem bYc (c:ColM):Ctr pgQ 48 [] [.a c.C] [] (λ_:Unit=>⟨.c (iC (dfC c)),[],True⟩):=by
 refine cw func48 (⟨λh=>vk ?_,λh=>vk ⟨λh2=>vk ?_,λh2=>vk ?_⟩⟩)
 ·rw[show dfC c=0 from U3 h]
  exact⟨(),tV,aI U U tV⟩
 ·rw[show dfC c=1 from (U2 h).trans (U3 h2)]
  exact⟨(),tV,aI U U tV⟩
 rw[show dfC c=3 from (U2 h).trans (U2 h2)]
 exact⟨(),tV,aI U U tV⟩
theorem bEn (c:ColM):Ctr pgQ 34 [] [.a c.C] [] (λ_:Unit=>⟨.c (iC (dfC c)),[],True⟩):=by
 refine cw func34 (⟨λh=>vk ?_,λh=>vk ⟨λh2=>vk ?_,λh2=>vk ?_⟩⟩)
 ·rw[show dfC c=0 from U3 h]
  exact⟨(),tV,aI U U tV⟩
 ·rw[show dfC c=1 from (U2 h).trans (U3 h2)]
  exact⟨(),tV,aI U U tV⟩
 rw[show dfC c=3 from (U2 h).trans (U2 h2)]
 exact⟨(),tV,aI U U tV⟩
theorem bNu (r:RowM):Ctr pgQ 52 [] [.a r.C] [] (λ_:Unit=>⟨.c (iC (dfR r.s)),[],True⟩):=by
 refine cw func52 (⟨λh=>vk ?_,λh=>vk ?_⟩)
 ·rw[show dfR r.s=1 from U3 h]
  exact⟨(),tV,aI U U tV⟩
 rw[show dfR r.s=0 from U2 h]
 exact⟨(),tV,aI U U tV⟩
theorem bNv (r:RowM):Ctr pgQ 35 [] [.a r.C] [] (λ_:Unit=>⟨.c (iC (dfR r.s)),[],True⟩):=by
 refine cw func35 (⟨λh=>vk ?_,λh=>vk ?_⟩)
 ·rw[show dfR r.s=1 from U3 h]
  exact⟨(),tV,aI U U tV⟩
 rw[show dfR r.s=0 from U2 h]
 exact⟨(),tV,aI U U tV⟩
def Crs (c:ColM) (l u:Rat):Prop:=(c.pl/\c.pu)/\u<l
def Fxd (c:ColM) (l u:Rat):Prop:=(c.pl/\c.pu)/\l=u
theorem pM {a b:Rat}:0<cmQ a b↔b<a:=by
 unfold cmQ
 split
 ·next h=>exact⟨λh2=>Uc,λh2=>U4 h2 (Rat.not_lt.2 (Rat.le_of_lt h))⟩
 split
 ·next h=>exact⟨λ_=>h,λ_=>Uc⟩
 next h=>exact⟨λh2=>Uc,λh2=>U4 h2 h⟩
theorem bEo {a b:Rat}:cmQ a b=0↔a=b:=by
 unfold cmQ
 split
 ·next h=>exact⟨λh2=>Uc,λh2=>U4 (h2▸h) uQ⟩
 next h1=>
 split
 ·next h=>exact⟨λh2=>Uc,λh2=>U4 (h2▸h) uQ⟩
 next h=>exact⟨λ_=>Rat.le_antisymm (Rat.not_lt.1 h) (Rat.not_lt.1 h1),λ_=>U⟩
theorem bEp {a b:Rat}:0<sgn (a-b).num↔b<a:=by rw[sC];exact pM
theorem bYd (c:ColM) {k l u:Rat} {B:Nat} (h:ColR c k l u B) (hB:B<=4398046511104):Ctr pgQ 88 [] [.a c.C] [] (λ_:Unit=>⟨pC (Crs c l u),[],True⟩):=by
 refine cw func88 (⟨λh1=>⟨[],wP c.l c.u (h.l.le) (h.u.le),U,U,U,λ_ _=>?_⟩,λh1=>?_⟩)
 ·exact⟨(),tV,aI ⟨λhh=>⟨h1,pM.1 hh⟩,λhh=>pM.2 hh.2⟩ U tV⟩
 exact⟨(),tV,aI (ff λhh=>h1 hh.1) U tV⟩
theorem bYe (c:ColM) {k l u:Rat} {B:Nat} (h:ColR c k l u B) (hB:B<=4398046511104):Ctr pgQ 64 [] [.a c.C] [] (λ_:Unit=>⟨pC (Crs c l u),[],True⟩):=by
 refine cw func64 (⟨λh1=>⟨[],aCr c.l c.u (h.l.le) (h.u.le),U,U,U,λ_ _=>?_⟩,λh1=>?_⟩)
 ·exact⟨(),tV,aI ⟨λhh=>⟨h1,bEp.1 hh⟩,λhh=>bEp.2 hh.2⟩ U tV⟩
 exact⟨(),tV,aI (ff λhh=>h1 hh.1) U tV⟩
theorem bYf (c:ColM) {k l u:Rat} {B:Nat} (h:ColR c k l u B) (hB:B<=4398046511104):Ctr pgQ 61 [] [.a c.C] [] (λ_:Unit=>⟨pC (Fxd c l u),[],True⟩):=by
 refine cw func61 (⟨λh1=>⟨[],wP c.l c.u (h.l.le) (h.u.le),U,U,U,λ_ _=>?_⟩,λh1=>?_⟩)
 ·exact⟨(),tV,aI ⟨λhh=>⟨h1,bEo.1 hh⟩,λhh=>bEo.2 hh.2⟩ U tV⟩
 exact⟨(),tV,aI (ff λhh=>h1 hh.1) U tV⟩
def Sns (s:Int):Prop:=s=-1\/s=0\/s=1
theorem bYg (s:Int):Ctr pgQ 89 [] [.c (iC s)] [] (λ_:Unit=>⟨pC (Sns s),[],True⟩):=by
 refine cw func89 (⟨(),tV,aI ?_ rfl tV⟩)
 exact or_assoc
def aBu (x:Sl ColM):CV:=x.R 11 ColM.C U6
def aLk (x:Sl RowM):CV:=x.R 5 RowM.C U6
structure ProgM where
 c:Sl ColM
 r:Sl RowM
def ProgM.C (p:ProgM):List CV:=[aBu p.c,aLk p.r]
structure PrQ where
 k:Nat->Rat
 l:Nat->Rat
 u:Nat->Rat
 b:Nat->Rat
 M:Nat->List En
structure PrR (p:ProgM) (q:PrQ) (B:Nat):Prop where
 c:∀j,j<p.c.l.length->ColR (p.c.l.getD j U6) (q.k j) (q.l j) (q.u j) B
 r:∀i,i<p.r.l.length->RowR (p.r.l.getD i U6) (q.b i) (q.M i) B
abbrev PrM (p:ProgM) (q:PrQ) (i:Nat):Prop:=Sns (p.r.l.getD i U6).s/\VOk (q.M i) (p.c.l.length:Nat)
structure PrE (p:ProgM) (q:PrQ) (e:Int):Prop where
 big:16384<p.c.l.length\/16384<p.r.l.length->e=8
 crs:¬(16384<p.c.l.length\/16384<p.r.l.length)->(∃j,j<p.c.l.length/\Crs (p.c.l.getD j U6) (q.l j) (q.u j))->e=3
 bad:¬(16384<p.c.l.length\/16384<p.r.l.length)->(∀j,j<p.c.l.length->¬Crs (p.c.l.getD j U6) (q.l j) (q.u j))->(∃i,i<p.r.l.length/\¬PrM p q i)->e=1
 ok:¬(16384<p.c.l.length\/16384<p.r.l.length)->(∀j,j<p.c.l.length->¬Crs (p.c.l.getD j U6) (q.l j) (q.u j))->(∀i,i<p.r.l.length->PrM p q i)->e=0
abbrev cCa (p:ProgM) (k:Nat):List (Nat×DV):=[(20,.c (iC k)),(1,.c (.p 0 0)),(18,.c (aBu p.c)),(19,.c (iC (p.c.l.length:Nat)))]
abbrev cCb (p:ProgM) (k:Nat):List (Nat×DV):=[(30,.c (iC k)),(1,.c (.p 0 0)),(28,.c (aLk p.r)),(29,.c (iC (p.r.l.length:Nat)))]
abbrev prB (p:ProgM):BL:=[(25,0,p.C)]
theorem rH {p:ProgM}:scB 1 (prB p):=aA U aU
theorem bEq (p:ProgM) {q:PrQ} {B:Nat} (h:PrR p q B) (hB:B<=4398046511104) (hc:p.c.l.length<=4611686018427387904) (hr:p.r.l.length<=4611686018427387904):Ctr pgQ 42 [] [.a p.C] [] (λe:Int=>⟨.c (iC e),[],PrE p q e⟩):=by
 refine cw func42 (⟨λh2=>vk ?_,λh2=>vk ?_⟩)
 ·replace h2:(16384:Int)<(p.c.l.length:Nat)\/(16384:Int)<(p.r.l.length:Nat):=h2
  have h2':16384<p.c.l.length\/16384<p.r.l.length:=Uc
  exact⟨8,⟨λ_=>U,λhh=>U4 h2' hh,λhh=>U4 h2' hh,λhh=>U4 h2' hh⟩,aI U U tV⟩
 replace h2:¬((16384:Int)<(p.c.l.length:Nat)\/(16384:Int)<(p.r.l.length:Nat)):=h2
 have h2':¬(16384<p.c.l.length\/16384<p.r.l.length):=Uc
 show Sd _ _ _ _ _ _
 refine bX (λ_=>true) (cCa p) (λ_=>prB p) (λ_=>[]) (λk=>k<=p.c.l.length/\∀j,j<k->¬Crs (p.c.l.getD j U6) (q.l j) (q.u j)) (λk=>p.c.l.length-k) λhM=>⟨hM 0 ⟨aB _,λi hi=>U4 hi (aF _)⟩ U U trivial rS bL rH U,λk ⟨hk,hv⟩=>vk ⟨λh3=>vk ?_,λh3=>vk ?_⟩⟩
 ·replace h3:(k:Int)<(p.c.l.length:Nat):=h3
  have hkn:k<p.c.l.length:=Uc
  refine⟨k,⟨U,hkn⟩,[],bYd (p.c.l.getD k U6) (h.c k hkn) hB,U,U,U,λ_ _=>⟨λh4=>vk ?_,λh4=>vk ?_⟩⟩
  ·exact⟨3,⟨λhh=>U4 hh h2',λ_ _=>U,λ_ hh=>U4 h4 (hh k hkn),λ_ hh=>U4 h4 (hh k hkn)⟩,aI U U tV⟩
  refine⟨(k+1:Nat),wi,hM (k+1) ⟨⟨hkn,λi hi=>?_⟩,show p.c.l.length-(k+1)<p.c.l.length-k by omega⟩ U U trivial rS bL rH U⟩
  rcases bR (cB hi) with h5|rfl
  ·exact hv i h5
  exact h4
 replace h3:¬(k:Int)<(p.c.l.length:Nat):=h3
 obtain rfl:k=p.c.l.length:=Uc
 refine vk ?_
 show Sd _ _ _ _ _ _
 refine bX (λ_=>true) (cCb p) (λ_=>prB p) (λ_=>[]) (λk=>k<=p.r.l.length/\∀i,i<k->PrM p q i) (λk=>p.r.l.length-k) λhM=>⟨hM 0 ⟨aB _,λi hi=>U4 hi (aF _)⟩ U U trivial rS bL rH U,λk ⟨hk,hw⟩=>vk ⟨λh3=>vk ?_,λh3=>vk ?_⟩⟩
 ·replace h3:(k:Int)<(p.r.l.length:Nat):=h3
  have hkn:k<p.r.l.length:=Uc
  refine⟨k,⟨U,hkn⟩,[],bYg (p.r.l.getD k U6).s,U,U,U,λ_ _=>⟨λh4=>?_,λh4=>?_⟩⟩
  ·have hb:¬PrM p q k:=λhh=>h4 hh.1
   exact⟨1,⟨λhh=>U4 hh h2',λ_ ⟨j,hj,hh⟩=>U4 hh (hv j hj),λ_ _ _=>U,λ_ _ hh=>U4 (hh k hkn) hb⟩,aI U U tV⟩
  refine⟨[],aOk (p.r.l.getD k U6).e (p.c.l.length:Nat) ((h.r k hkn).e) hB,U,U,U,λ_ _=>⟨λh5=>vk ?_,λh5=>vk ?_⟩⟩
  ·have hb:¬PrM p q k:=λhh=>h5 hh.2
   exact⟨1,⟨λhh=>U4 hh h2',λ_ ⟨j,hj,hh⟩=>U4 hh (hv j hj),λ_ _ _=>U,λ_ _ hh=>U4 (hh k hkn) hb⟩,aI U U tV⟩
  refine⟨(k+1:Nat),wi,hM (k+1) ⟨⟨hkn,λi hi=>?_⟩,show p.r.l.length-(k+1)<p.r.l.length-k by omega⟩ U U trivial rS bL rH U⟩
  rcases bR (cB hi) with h6|rfl
  ·exact hw i h6
  exact⟨cR.1 h4,cR.1 h5⟩
 replace h3:¬(k:Int)<(p.r.l.length:Nat):=h3
 obtain rfl:k=p.r.l.length:=Uc
 exact vk ⟨0,⟨λhh=>U4 hh h2',λ_ ⟨j,hj,hh⟩=>U4 hh (hv j hj),λ_ _ ⟨i,hi,hh⟩=>U4 (hw i hi) hh,λ_ _ _=>U⟩,aI U U tV⟩
theorem bYh (r:RowM) (n:Int) {b:Rat} {es:List En} {B:Nat} (h:RowR r b es B) (hB:B<=4398046511104) (hn:es.length<=4611686018427387904):Ctr pgQ 65 [] [.a r.C,.c (iC n)] [] (λe:Int=>⟨.c (iC e),[],(¬(Sns r.s/\VOk es n)->e=1)/\(Sns r.s/\VOk es n->e=0)⟩):=by
 refine cw func65 (⟨λh1=>?_,λh1=>⟨[],aRi r.e n h.e oM hn,U,U,U,λ_ _=>⟨λh2=>vk ?_,λh2=>vk ?_⟩⟩⟩)
 ·replace h1:(r.s≠-1/\r.s≠0)/\r.s≠1:=h1
  exact⟨1,⟨λ_=>U,λhh=>by rcases hh.1 with h2|h2|h2<;>omega⟩,aI U U tV⟩
 ·exact⟨1,⟨λ_=>U,λhh=>U4 hh.2 h2⟩,aI U U tV⟩
 replace h1:¬((r.s≠-1/\r.s≠0)/\r.s≠1):=h1
 have hs:Sns r.s:=by unfold Sns;omega
 exact⟨0,⟨λhh=>U4 ⟨hs,cR.1 h2⟩ hh,λ_=>U⟩,aI U U tV⟩
abbrev cCc (k:Nat):List (Nat×DV):=[(3,.c (iC k)),(1,.c (.p 0 0))]
abbrev cCd (k:Nat):List (Nat×DV):=[(4,.c (iC k)),(1,.c (.p 0 0))]
theorem bNw (p:ProgM) {q:PrQ} {B:Nat} (h:PrR p q B) (hB:B<=4398046511104) (hc:p.c.l.length<=4611686018427387904) (hr:p.r.l.length<=4611686018427387904) (hl:∀i,i<p.r.l.length->(q.M i).length<=4611686018427387904):Ctr pgQ 24 [] [.a p.C] [] (λe:Int=>⟨.c (iC e),[],PrE p q e⟩):=by
 refine cw func24 (⟨λh2=>vk ?_,λh2=>vk ?_⟩)
 ·replace h2:(16384:Int)<(p.c.l.length:Nat)\/(16384:Int)<(p.r.l.length:Nat):=h2
  have h2':16384<p.c.l.length\/16384<p.r.l.length:=Uc
  exact⟨8,⟨λ_=>U,λhh=>U4 h2' hh,λhh=>U4 h2' hh,λhh=>U4 h2' hh⟩,aI U U tV⟩
 replace h2:¬((16384:Int)<(p.c.l.length:Nat)\/(16384:Int)<(p.r.l.length:Nat)):=h2
 have h2':¬(16384<p.c.l.length\/16384<p.r.l.length):=Uc
 show Sd _ _ _ _ _ _
 refine bX (λ_=>true) cCc (λ_=>prB p) (λ_=>[]) (λk=>k<=p.c.l.length/\∀j,j<k->¬Crs (p.c.l.getD j U6) (q.l j) (q.u j)) (λk=>p.c.l.length-k) λhM=>⟨hM 0 ⟨aB _,λi hi=>U4 hi (aF _)⟩ U U trivial ⟨U,U⟩ bL rH U,λk ⟨hk,hv⟩=>vk ⟨λh3=>vk ?_,λh3=>vk ?_⟩⟩
 ·replace h3:(k:Int)<(p.c.l.length:Nat):=h3
  have hkn:k<p.c.l.length:=Uc
  refine⟨k,⟨U,hkn⟩,[],bYe (p.c.l.getD k U6) (h.c k hkn) hB,U,U,U,λ_ _=>⟨λh4=>vk ?_,λh4=>vk ?_⟩⟩
  ·exact⟨3,⟨λhh=>U4 hh h2',λ_ _=>U,λ_ hh=>U4 h4 (hh k hkn),λ_ hh=>U4 h4 (hh k hkn)⟩,aI U U tV⟩
  refine⟨(k+1:Nat),wi,hM (k+1) ⟨⟨hkn,λi hi=>?_⟩,show p.c.l.length-(k+1)<p.c.l.length-k by omega⟩ U U trivial ⟨U,U⟩ bL rH U⟩
  rcases bR (cB hi) with h5|rfl
  ·exact hv i h5
  exact h4
 replace h3:¬(k:Int)<(p.c.l.length:Nat):=h3
 obtain rfl:k=p.c.l.length:=Uc
 refine vk ?_
 show Sd _ _ _ _ _ _
 refine bX (λ_=>true) cCd (λ_=>prB p) (λ_=>[]) (λk=>k<=p.r.l.length/\∀i,i<k->PrM p q i) (λk=>p.r.l.length-k) λhM=>⟨hM 0 ⟨aB _,λi hi=>U4 hi (aF _)⟩ U U trivial ⟨U,U⟩ bL rH U,λk ⟨hk,hw⟩=>vk ⟨λh3=>vk ?_,λh3=>vk ?_⟩⟩
 ·replace h3:(k:Int)<(p.r.l.length:Nat):=h3
  have hkn:k<p.r.l.length:=Uc
  refine⟨.seq (sq 99 (List.range 10)),U0,k,⟨U,hkn⟩,[],bYh (p.r.l.getD k U6) (p.c.l.length:Nat) (h.r k hkn) hB (hl k hkn),U,U,U,λe ⟨he1,he0⟩=>?_⟩
  by_cases hp:PrM p q k
  ·have e0:=he0 hp
   refine⟨λh4=>U4 e0 h4,λh4=>vk ⟨(k+1:Nat),wi,hM (k+1) ⟨⟨hkn,λi hi=>?_⟩,show p.r.l.length-(k+1)<p.r.l.length-k by omega⟩ U U trivial ⟨U,U⟩ bL rH U⟩⟩
   rcases bR (cB hi) with h6|rfl
   ·exact hw i h6
   exact hp
  have e1:=he1 hp
  refine⟨λh4=>vk ?_,λh4=>U4 (show e≠0 by omega) h4⟩
  exact⟨e,⟨λhh=>U4 hh h2',λ_ ⟨j,hj,hh⟩=>U4 hh (hv j hj),λ_ _ _=>e1,λ_ _ hh=>U4 (hh k hkn) hp⟩,aI U U tV⟩
 replace h3:¬(k:Int)<(p.r.l.length:Nat):=h3
 obtain rfl:k=p.r.l.length:=Uc
 exact vk ⟨0,⟨λhh=>U4 hh h2',λ_ ⟨j,hj,hh⟩=>U4 hh (hv j hj),λ_ _ ⟨i,hi,hh⟩=>U4 (hw i hi) hh,λ_ _ _=>U⟩,aI U U tV⟩
abbrev lQ (qs:List Rat) (j:Nat):Rat:=qs.getD j 0
theorem aDa {x:Nat->Rat} {B Bx:Nat}:∀{es:List En},rbE es B->(∀e∈es,rb (x e.1.toNat) Bx)->rb (dtl es x) (1+es.length*(B+Bx+1))
 |[],_,_=>by
  show rb 0 _
  exact bXg.le oM
 |e::es,hb,hx=>by
  have h1:=aDa (es:=es) (λe' he'=>hb e' (.tail _ he')) λe' he'=>hx e' (.tail _ he')
  have h2:=wL (fW (hb e (.head _)) (hx e (.head _))) h1
  show rb (e.2*x e.1.toNat+dtl es x) _
  exact h2.le (by rw[eG,dH];omega)
abbrev acB (r:RowM) (s:RatM):BL:=[(59,0,r.C),(53,0,vG),(53,0,s.C)]
theorem aGu {r:RowM} {s:RatM}:scB 3 (acB r s):=aA U (aA U (aA U aU))
abbrev acG (r:RowM) (x:Sl RatM) (i:Nat):List (Nat×DV):=[(12,.c (iC i)),(10,.c (cF r.e)),(11,.c (iC (r.e.l.length:Nat))),(5,.c (.p 2 0)),(4,.c (.p 1 0)),(1,.c (dS x))]
structure RwX (r:RowM) (x:Sl RatM) (b:Rat) (es:List En) (qs:List Rat) (B Bx:Nat):Prop where
 r:RowR r b es B
 x:Rl x.l qs
 q:rbL qs Bx
 v:VOk es (qs.length:Nat)
 e:rbE es B
 h:1+(es.length+1)*(B+Bx+1)<=4398046511104
theorem RwX.at {r:RowM} {x:Sl RatM} {b:Rat} {es:List En} {qs:List Rat} {B Bx i:Nat} (h:RwX r x b es qs B Bx) (hi:i<es.length):∃j:Nat,(r.e.l.getD i U6).ix=(j:Nat)/\j<qs.length/\Rq (r.e.l.getD i U6).v (es.getD i U6).2 B/\Cr (x.l.getD j U6) (lQ qs j)/\rb (lQ qs j) Bx/\rb (es.getD i U6).2 B/\(es.getD i U6).1.toNat=j:=by
 have h1:=h.r.e.e i hi
 have h2:=h.v.2 _ (fN hi)
 refine⟨(es.getD i U6).1.toNat,by rw[h1.1];omega,Uc,h1.2,h.x.e _ oM,h.q _ (gD0 oM),h.e _ (fN hi),U⟩
theorem RwX.sum {r:RowM} {x:Sl RatM} {b:Rat} {es:List En} {qs:List Rat} {B Bx i:Nat} (h:RwX r x b es qs B Bx) (hi:i<=es.length):rb (dtl (es.take i) (lQ qs)) (1+i*(B+Bx+1)):=by
 have:=aDa (es:=es.take i) (x:=lQ qs) (B:=B) (Bx:=Bx) (λe he=>h.e e (cH he)) λe he=>h.q _ (gD0 (by have:=h.v.2 e (cH he);omega))
 rwa [bI,eZ hi] at this
theorem aBv {es:List En} {i:Nat} {x:Nat->Rat} (hi:i<es.length):dtl (es.take (i+1)) x=dtl (es.take i) x+(es.getD i U6).2*x (es.getD i U6).1.toNat:=by
 rw[dF,aG hi]
 show dtl (es.take i++[es[i]]) x=_
 rw[vH,gd hi]
theorem bYi (r:RowM) (x:Sl RatM) {b:Rat} {es:List En} {qs:List Rat} {B Bx:Nat} (h:RwX r x b es qs B Bx):Ctr pgQ 198 [] [.a r.C,.c (dS x)] [] (rY (dtl es (lQ qs))):=by
 have hl:=h.r.e.ln
 have hx:=h.x.ln
 have hh:=h.h
 have hBB:B+Bx+1<=4398046511104:=by rw[dH] at hh;omega
 have hnl:es.length<=4398046511104:=by
  have:=eJ (es.length+1) (show 0<B+Bx+1 by omega)
  omega
 refine cw func198 (⟨[],zJ (z:=0) dC,U,U,U,λz hz=>?_⟩)
 show Sd _ _ _ _ _ _
 refine bX (λ_=>true) (λg:Nat×RatM=>acG r x g.1) (λg=>acB r g.2) (λ_=>[]) (λg=>g.1<=es.length/\Cr g.2 (dtl (es.take g.1) (lQ qs))) (λg=>es.length-g.1) λhM=>⟨hM (0,z) ⟨aB _,hz⟩ U ⟨U,U,U⟩ U1 rS bL aGu U,λ⟨i,s⟩ ⟨hi,hs⟩=>vk ⟨λh3=>vk ?_,λh3=>vk ?_⟩⟩
 all_goals
  replace hi:i<=es.length:=hi
  replace hs:Cr s (dtl (es.take i) (lQ qs)):=hs
 ·replace h3:(i:Int)<(r.e.l.length:Nat):=h3
  have hil:i<es.length:=Uc
  obtain⟨j,e1,e2,e3,e4,e5,e6,e7⟩:=h.at hil
  have hsb:=h.sum hi
  have hle:i*(B+Bx+1)<=(es.length+1)*(B+Bx+1):=aT _ oM
  have hdn:=aBv (x:=lQ qs) hil
  rw[e7] at hdn
  refine⟨i,⟨U,show i<r.e.l.length by omega⟩,j,⟨e1,by show j<x.l.length;omega⟩,[],kV (x.l.getD j U6) (e4.rq (e5.le oM)),U,U,U,λ_ _=>⟨λh4=>vk ?_,λh4=>vk ?_⟩⟩
  ·refine⟨.seq [(0,false),(1,false),(2,false),(3,false),(4,false),(5,false),(6,false),(7,false),(8,false),(9,true),(10,true)],U0,j,⟨e1,by show j<x.l.length;omega⟩,[],yB (r.e.l.getD i U6).v (x.l.getD j U6) (e3.le oM) (e4.rq (e5.le oM)),U,U,U,λm hm=>⟨[],aKq s m (hs.rq (hsb.le oM)) (Cr.rq hm ((fW e6 e5).le oM)),U,U,U,λg hg=>?_⟩⟩
   exact⟨(i+1:Nat),wi,hM (i+1,g) ⟨⟨hil,by rw[hdn];exact hg⟩,show es.length-(i+1)<es.length-i by omega⟩ U ⟨U,U,U⟩ U1 rS bL aGu U⟩
  replace h4:¬sgn (lQ qs j).num≠0:=h4
  have h0:lQ qs j=0:=cY.1 (fT.1 (cR.1 h4))
  rw[h0,bU,bK] at hdn
  exact⟨(i+1:Nat),wi,hM (i+1,s) ⟨⟨hil,by rw[hdn];exact hs⟩,show es.length-(i+1)<es.length-i by omega⟩ U ⟨U,U,U⟩ U1 rS bL aGu U⟩
 replace h3:¬(i:Int)<(r.e.l.length:Nat):=h3
 obtain rfl:i=es.length:=Uc
 rw[cQ] at hs
 exact vk ⟨s,hs,aI U U tV⟩
abbrev bcG (x:Sl RatM) (i:Nat):List (Nat×DV):=[(6,.c (iC i)),(2,.c (.p 0 0)),(5,.c (.p 2 0)),(4,.c (.p 1 0)),(1,.c (dS x))]
theorem bYj (r:RowM) (x:Sl RatM) {b:Rat} {es:List En} {qs:List Rat} {B Bx:Nat} (h:RwX r x b es qs B Bx):Ctr pgQ 75 [] [.a r.C,.c (dS x)] [] (rY (dtl es (lQ qs))):=by
 have hl:=h.r.e.ln
 have hx:=h.x.ln
 have hh:=h.h
 have hBB:B+Bx+1<=4398046511104:=by rw[dH] at hh;omega
 have hnl:es.length<=4398046511104:=by
  have:=eJ (es.length+1) (show 0<B+Bx+1 by omega)
  omega
 refine cw func75 (⟨[],xZ,U,U,U,λz hz=>?_⟩)
 show Sd _ _ _ _ _ _
 refine bX (λ_=>true) (λg:Nat×RatM=>bcG x g.1) (λg=>acB r g.2) (λ_=>[]) (λg=>g.1<=es.length/\Cr g.2 (dtl (es.take g.1) (lQ qs))) (λg=>es.length-g.1) λhM=>⟨hM (0,z) ⟨aB _,hz⟩ U ⟨U,U,U⟩ U1 rS bL aGu U,λ⟨i,s⟩ ⟨hi,hs⟩=>vk ⟨λh3=>vk ?_,λh3=>vk ?_⟩⟩
 all_goals
  replace hi:i<=es.length:=hi
  replace hs:Cr s (dtl (es.take i) (lQ qs)):=hs
 ·replace h3:(i:Int)<(r.e.l.length:Nat):=h3
  have hil:i<es.length:=Uc
  have hir:i<r.e.l.length:=Uc
  obtain⟨j,e1,e2,e3,e4,e5,e6,e7⟩:=h.at hil
  have hsb:=h.sum hi
  have hle:i*(B+Bx+1)<=(es.length+1)*(B+Bx+1):=aT _ oM
  have hdn:=aBv (x:=lQ qs) hil
  rw[e7] at hdn
  refine⟨.seq [(0,false),(1,false),(2,false),(3,false),(4,false),(5,false),(6,false),(7,false),(8,false),(9,false),(10,false),(11,false),(12,false),(13,false),(14,false),(15,false),(16,false),(17,true),(18,true)],U0,i,⟨U,hir⟩,i,⟨U,hir⟩,j,⟨e1,by show j<x.l.length;omega⟩,[],aGt (r.e.l.getD i U6).v (x.l.getD j U6) (e3.le oM) (e4.rq (e5.le oM)),U,U,U,λm hm=>⟨[],aGh s m (hs.rq (hsb.le oM)) (Cr.rq hm ((fW e6 e5).le oM)),U,U,U,λg hg=>?_⟩⟩
  exact⟨(i+1:Nat),wi,hM (i+1,g) ⟨⟨hil,by rw[hdn];exact hg⟩,show es.length-(i+1)<es.length-i by omega⟩ U ⟨U,U,U⟩ U1 rS bL aGu U⟩
 replace h3:¬(i:Int)<(r.e.l.length:Nat):=h3
 obtain rfl:i=es.length:=Uc
 rw[cQ] at hs
 exact vk ⟨s,hs,aI U U tV⟩
def bTd (c:ColM) (l u v:Rat):Prop:=(c.pl/\v<l)\/(c.pu/\u<v)
theorem wR {a b:Rat}:cmQ a b<0↔a<b:=by
 unfold cmQ
 split
 ·next h=>exact⟨λ_=>h,λ_=>Uc⟩
 next h1=>
 split
 ·next h=>exact⟨λh2=>Uc,λh2=>U4 h2 h1⟩
 next h=>exact⟨λh2=>Uc,λh2=>U4 h2 h1⟩
theorem bTe (c:ColM) (v:RatM) {k l u q:Rat} {B:Nat} (h:ColR c k l u B) (hB:B<=4398046511104) (hv:Rq v q 4398046511104):Ctr pgQ 157 [] [.a c.C,.a v.C] [] (λ_:Unit=>⟨pC (bTd c l u q),[],True⟩):=by
 refine cw func157 (⟨λh1=>⟨[],wP v c.l hv (h.l.le),U,U,U,λ_ _=>⟨λh2=>?_,λh2=>⟨λh3=>⟨[],wP v c.u hv (h.u.le),U,U,U,λ_ _=>?_⟩,λh3=>?_⟩⟩⟩,λh1=>⟨λh3=>⟨[],wP v c.u hv (h.u.le),U,U,U,λ_ _=>?_⟩,λh3=>?_⟩⟩)
 ·exact⟨(),tV,aI (tt (.inl ⟨h1,wR.1 h2⟩)) U tV⟩
 ·exact⟨(),tV,aI ⟨λhh=> .inr ⟨h3,pM.1 hh⟩,λhh=>hh.elim (λhh=>U4 (wR.2 hh.2) h2) λhh=>pM.2 hh.2⟩ U tV⟩
 ·exact⟨(),tV,aI (ff λhh=>hh.elim (λhh=>h2 (wR.2 hh.2)) λhh=>h3 hh.1) U tV⟩
 ·exact⟨(),tV,aI ⟨λhh=> .inr ⟨h3,pM.1 hh⟩,λhh=>hh.elim (λhh=>U4 hh.1 h1) λhh=>pM.2 hh.2⟩ U tV⟩
 exact⟨(),tV,aI (ff λhh=>hh.elim (λhh=>h1 hh.1) λhh=>h3 hh.1) U tV⟩
def Brk (s:Int) (a b:Rat):Prop:=(b<a/\s≠1)\/(a<b/\s≠-1)
theorem bTf (r:RowM) (x:Sl RatM) {b:Rat} {es:List En} {qs:List Rat} {B Bx:Nat} (h:RwX r x b es qs B Bx) (hB:B<=4398046511104):Ctr pgQ 158 [] [.a r.C,.c (dS x)] [] (λ_:Unit=>⟨pC (Brk r.s (dtl es (lQ qs)) b),[],True⟩):=by
 have hs:=h.sum (aH es.length)
 rw[cQ] at hs
 have hh:=h.h
 have hle:es.length*(B+Bx+1)<=(es.length+1)*(B+Bx+1):=aT _ oM
 refine cw func158 (⟨.seq [(0,false),(1,false),(3,false),(4,false),(2,false),(5,true),(6,false)],U0,[],bYi r x h,U,U,U,λg hg=>⟨[],wP g r.b (Cr.rq hg (hs.le oM)) (h.r.b.le),U,U,U,λ_ _=>?_⟩⟩)
 exact⟨(),tV,aI ⟨λhh=>hh.elim (λhh=> .inl ⟨pM.1 hh.1,hh.2⟩) λhh=> .inr ⟨wR.1 hh.1,hh.2⟩,λhh=>hh.elim (λhh=> .inl ⟨pM.2 hh.1,hh.2⟩) λhh=> .inr ⟨wR.2 hh.1,hh.2⟩⟩ U tV⟩
theorem bYk (x y:RatM) (s:Int) {a b:Rat} (hx:Rq x a 4398046511104) (hy:Rq y b 4398046511104) (hs:Sns s):Ctr pgQ 162 [] [.a x.C,.c (iC s),.a y.C] [] (λ_:Unit=>⟨pC (¬Brk s a b),[],True⟩):=by
 refine cw func162 (⟨[],aCr x y hx hy,U,U,U,λ_ _=>⟨(),tV,aI ?_ rfl tV⟩⟩)
 rw[sC]
 have h1:=pM (a:=a) (b:=b)
 have h2:=wR (a:=a) (b:=b)
 show _↔¬Brk s a b
 unfold Brk
 rw[<-h1,<-h2]
 rcases hs with rfl|rfl|rfl<;>omega
structure PrV (p:ProgM) (q:PrQ) (B:Nat):Prop where
 rd:PrR p q B
 h1:1<=B
 hB:B<=4398046511104
 c:p.c.l.length<=4096
 r:p.r.l.length<=4096
 x:∀j,j<p.c.l.length->¬Crs (p.c.l.getD j U6) (q.l j) (q.u j)
 v:∀i,i<p.r.l.length->PrM p q i
 e:∀i,i<p.r.l.length->rbE (q.M i) B
theorem PrV.ok {p:ProgM} {q:PrQ} {B:Nat} {e:Int} (h:PrV p q B) (he:PrE p q e):e=0:=he.ok (by have:=h.c;have:=h.r;omega) h.x h.v
theorem PrV.len {p:ProgM} {q:PrQ} {B:Nat} (h:PrV p q B) {i:Nat} (hi:i<p.r.l.length):(q.M i).length<=p.c.l.length:=kY (h.v i hi).2
theorem aLl (p:ProgM) {q:PrQ} {B:Nat} (h:PrV p q B):Ctr pgQ 42 [] [.a p.C] [] (λ_:Unit=>⟨.c (iC 0),[],True⟩):=(bEq p h.rd h.hB (by have:=h.c;omega) (by have:=h.r;omega)).re λe he=>⟨(),tV,by rw[h.ok he],U,U⟩
theorem bEr (p:ProgM) {q:PrQ} {B:Nat} (h:PrV p q B):Ctr pgQ 24 [] [.a p.C] [] (λ_:Unit=>⟨.c (iC 0),[],True⟩):=(bNw p h.rd h.hB (by have:=h.c;omega) (by have:=h.r;omega) λi hi=>by have:=h.len hi;have:=h.c;omega).re λe he=>⟨(),tV,by rw[h.ok he],U,U⟩
theorem aRy (p:ProgM) (x:Sl RatM) {q:PrQ} {B:Nat} (h:PrV p q B) (n:Int) (hn:((x.l.length:Nat):Int)=n):Ctr pgQ 109 [] [.a p.C,.c (dS x),.c (iC n)] [] (λ_:Unit=>⟨.c (iC 0),[],True⟩):=by
 refine cw func109 (⟨[],aLl p h,U,U,U,λ_ _=>⟨λhh=>U4 U hh,λ_=>vk ⟨λhh=>U4 hn hh,λ_=>vk ⟨(),tV,aI U U tV⟩⟩⟩⟩)
def fI (P:Nat->Prop) [DecidablePred P]:Nat->List Int
 |0=>[]
 |k+1=>if P k then fI P k++[(k:Int)] else fI P k
theorem pN {P:Nat->Prop} [DecidablePred P]:∀k,(fI P k).length<=k
 |0=>aH _
 |k+1=>by
  have:=pN (P:=P) k
  unfold fI
  split
  ·rw[aD];show _+1<=_;omega
  omega
theorem yI {P:Nat->Prop} [DecidablePred P]:∀{k},fI P k=[]↔∀i,i<k->¬P i
 |0=>⟨λ_ i hi=>U4 hi (aF _),λ_=>U⟩
 |k+1=>by
  have ih:=yI (P:=P) (k:=k)
  unfold fI
  split
  ·next h=>exact⟨λhh=>by simp at hh,λhh=>U4 h (hh k (aS k))⟩
  next h=>exact ih.trans ⟨λhh i hi=>(bR (cB hi)).elim (hh i) λe=>e▸h,λhh i hi=>hh i (dY hi)⟩
theorem yJ {P:Nat->Prop} [DecidablePred P] {k:Nat} (h:P k):fI P (k+1)=fI P k++[(k:Int)]:=U3 h
theorem kJ {P:Nat->Prop} [DecidablePred P] {k:Nat} (h:¬P k):fI P (k+1)=fI P k:=U2 h
theorem sJ {P:Nat->Prop} [DecidablePred P] {k:Nat} (h:P k):(fI P k).length+1=(fI P (k+1)).length:=by rw[yJ h,aD];rfl
theorem vJ {P:Nat->Prop} [DecidablePred P] {k:Nat} (h:P k):(fI P k).map iC++[iC (k:Nat)]=(fI P (k+1)).map iC:=by rw[yJ h,bA];rfl
abbrev vCo (p:ProgM) (q:PrQ) (qs:List Rat) (j:Nat):Prop:=bTd (p.c.l.getD j U6) (q.l j) (q.u j) (lQ qs j)
abbrev vRo (p:ProgM) (q:PrQ) (qs:List Rat) (i:Nat):Prop:=Brk (p.r.l.getD i U6).s (dtl (q.M i) (lQ qs)) (q.b i)
structure PrX (p:ProgM) (q:PrQ) (x:Sl RatM) (qs:List Rat) (B Bx:Nat):Prop where
 v:PrV p q B
 x:Rl x.l qs
 l:qs.length=p.c.l.length
 q:rbL qs Bx
 b:(p.c.l.length+1)*(B+Bx+1)<4398046511104
theorem PrX.row {p:ProgM} {q:PrQ} {x:Sl RatM} {qs:List Rat} {B Bx i:Nat} (h:PrX p q x qs B Bx) (hi:i<p.r.l.length):RwX (p.r.l.getD i U6) x (q.b i) (q.M i) qs B Bx:=⟨h.v.rd.r i hi,h.x,h.q,by rw[h.l];exact(h.v.v i hi).2,h.v.e i hi,by
 have h1:=h.v.len hi
 have h2:((q.M i).length+1)*(B+Bx+1)<=(p.c.l.length+1)*(B+Bx+1):=aT _ oM
 have:=h.b
 omega⟩
theorem PrX.le {p:ProgM} {q:PrQ} {x:Sl RatM} {qs:List Rat} {B Bx:Nat} (h:PrX p q x qs B Bx):Bx<=4398046511104:=by
 have:=h.b
 rw[dH] at this
 omega
open Classical in
noncomputable abbrev vG1 (p:ProgM) (q:PrQ) (x:Sl RatM) (qs:List Rat) (k:Nat):List (Nat×DV):=[(24,.c (iC k)),(4,.c (.s 1 (fI (vCo p q qs) k).length)),(5,.c (.v (.slice none 0 0))),(2,.c (.p 0 0)),(1,.c (dS x)),(22,.c (aBu p.c)),(23,.c (iC (p.c.l.length:Nat)))]
open Classical in
noncomputable abbrev vB1 (p:ProgM) (q:PrQ) (qs:List Rat) (k:Nat):BL:=[(25,0,p.C),(3,1,(fI (vCo p q qs) k).map iC)]
theorem sR {p:ProgM} {q:PrQ} {qs:List Rat} {k:Nat}:scB 2 (vB1 p q qs k):=aA U (aA (bG (aW _)) aU)
theorem oK {L:List Int} {i:Nat} {c:CV} (h:c∈L.map iC):kS i c=false:=bJ (aW L c h)
open Classical in
noncomputable abbrev vG2 (p:ProgM) (q:PrQ) (x:Sl RatM) (qs:List Rat) (k:Nat):List (Nat×DV):=[(43,.c (iC k)),(5,.c (.s 2 (fI (vRo p q qs) k).length)),(4,.c (.s 1 (fI (vCo p q qs) p.c.l.length).length)),(1,.c (dS x)),(41,.c (aLk p.r)),(42,.c (iC (p.r.l.length:Nat)))]
open Classical in
noncomputable abbrev vB2 (p:ProgM) (q:PrQ) (qs:List Rat) (k:Nat):BL:=[(25,0,p.C),(3,1,(fI (vCo p q qs) p.c.l.length).map iC),(3,1,(fI (vRo p q qs) k).map iC)]
theorem aDb {p:ProgM} {q:PrQ} {qs:List Rat} {k:Nat}:scB 3 (vB2 p q qs k):=aA U (aA (bG (aW _)) (aA (bG (aW _)) aU))
open Classical in
theorem bTg (p:ProgM) (x:Sl RatM) {q:PrQ} {qs:List Rat} {B Bx:Nat} (h:PrX p q x qs B Bx):Ctr pgQ 108 [] [.a p.C,.c (dS x)] [] (λg:Sl Int×Sl Int=>⟨.t [.c (cI g.1),.c (cI g.2),.c (iC 0)],[],g.1.l=fI (vCo p q qs) p.c.l.length/\g.2.l=fI (vRo p q qs) p.r.l.length⟩):=by
 have hxl:x.l.length=p.c.l.length:=h.x.ln.trans h.l
 have hc:=h.v.c
 have hr:=h.v.r
 refine cw func108 (⟨[],aRy p x h.v _ (U5 Int.ofNat hxl),U,U,U,λ_ _=>⟨λhh=>U4 U hh,λ_=>vk ?_⟩⟩)
 show Sd _ _ _ _ _ _
 refine aDs tSd 4 3 1 U bL U ?_
 refine bX (λ_=>true) (vG1 p q x qs) (vB1 p q qs) (λ_=>[]) (λk=>k<=p.c.l.length) (λk=>p.c.l.length-k) λhM=>⟨hM 0 (aB _) U ⟨U,U⟩ U1 rS bL sR U,λk hk=>vk ⟨λh3=>vk ?_,λh3=>vk ?_⟩⟩
 ·replace hk:k<=p.c.l.length:=hk
  replace h3:(k:Int)<(p.c.l.length:Nat):=h3
  have hkn:k<p.c.l.length:=Uc
  have hkx:k<x.l.length:=Uc
  have hsl:=pN (P:=vCo p q qs) k
  refine⟨k,⟨U,hkn⟩,.seq (sq 5 (List.range 6)),U0,k,⟨U,hkx⟩,[],bTe (p.c.l.getD k U6) (x.l.getD k U6) (h.v.rd.c k hkn) h.v.hB ((h.x.rq h.q (k:=k) (by rw[h.l];exact hkn)).le h.le),U,U,U,λ_ _=>⟨λh4=>vk ?_,λh4=>vk ?_⟩⟩
  ·exact⟨⟨U,by show(fI (vCo p q qs) k).length*1=((fI (vCo p q qs) k).map iC).length;rw[aK,bE],by show _+1<=maxLen;simp only[maxLen];omega,by show(_+1)*8<=_;omega,λc hc=>(aO.1 hc).elim oK λhc=>by rw[aE.1 hc];rfl⟩,(λc hc=>by rw[aE.1 hc];rfl),(k+1:Nat),wi,hM (k+1) ⟨hkn,show p.c.l.length-(k+1)<p.c.l.length-k by omega⟩ U ⟨U,U5 (λl:List CV=>((3,1,l):TypeId×Nat×List CV)) (vJ h4)⟩ U1 ⟨U,sJ h4,U,U,U,U,U⟩ bL sR U⟩
  exact⟨(k+1:Nat),wi,hM (k+1) ⟨hkn,show p.c.l.length-(k+1)<p.c.l.length-k by omega⟩ U ⟨U,U5 (λl:List Int=>((3,1,l.map iC):TypeId×Nat×List CV)) (kJ h4).symm⟩ U1 ⟨U,U5 List.length (kJ h4).symm,U,U,U,U,U⟩ bL sR U⟩
 replace hk:k<=p.c.l.length:=hk
 replace h3:¬(k:Int)<(p.c.l.length:Nat):=h3
 obtain rfl:k=p.c.l.length:=Uc
 refine vk ?_
 show Sd _ _ _ _ _ _
 refine aDs tSd 5 3 1 U bL U ?_
 refine bX (λ_=>true) (vG2 p q x qs) (vB2 p q qs) (λ_=>[]) (λk=>k<=p.r.l.length) (λk=>p.r.l.length-k) λhM=>⟨hM 0 (aB _) U ⟨U,U,U⟩ U1 rS bL aDb U,λk hk=>vk ⟨λh3=>vk ?_,λh3=>vk ?_⟩⟩
 ·replace hk:k<=p.r.l.length:=hk
  replace h3:(k:Int)<(p.r.l.length:Nat):=h3
  have hkn:k<p.r.l.length:=Uc
  have hsl:=pN (P:=vRo p q qs) k
  refine⟨k,⟨U,hkn⟩,[],bTf (p.r.l.getD k U6) x (h.row hkn) h.v.hB,U,U,U,λ_ _=>⟨λh4=>vk ?_,λh4=>vk ?_⟩⟩
  ·exact⟨⟨U,by show(fI (vRo p q qs) k).length*1=((fI (vRo p q qs) k).map iC).length;rw[aK,bE],by show _+1<=maxLen;simp only[maxLen];omega,by show(_+1)*8<=_;omega,λc hc=>(aO.1 hc).elim oK λhc=>by rw[aE.1 hc];rfl⟩,(λc hc=>oK hc),(λc hc=>by rw[aE.1 hc];rfl),(k+1:Nat),wi,hM (k+1) ⟨hkn,show p.r.l.length-(k+1)<p.r.l.length-k by omega⟩ U ⟨U,U,U5 (λl:List CV=>((3,1,l):TypeId×Nat×List CV)) (vJ h4)⟩ U1 ⟨U,sJ h4,U,U,U,U⟩ bL aDb U⟩
  exact⟨(k+1:Nat),wi,hM (k+1) ⟨hkn,show p.r.l.length-(k+1)<p.r.l.length-k by omega⟩ U ⟨U,U,U5 (λl:List Int=>((3,1,l.map iC):TypeId×Nat×List CV)) (kJ h4).symm⟩ U1 ⟨U,U5 List.length (kJ h4).symm,U,U,U,U⟩ bL aDb U⟩
 replace hk:k<=p.r.l.length:=hk
 replace h3:¬(k:Int)<(p.r.l.length:Nat):=h3
 obtain rfl:k=p.r.l.length:=Uc
 show Sd _ _ _ _ _ _
 refine nS 4 1 (λj=>[iC ((fI (vCo p q qs) p.c.l.length).getD j 0)]) U U (λj hj=>mS j hj) (by rw[aK,bE]) bL (aW _) bL λA2 c2 _ _=>⟨λc hc=>oK hc,?_⟩
 show Sd _ _ _ _ _ _
 refine nS 5 2 (λj=>[iC ((fI (vRo p q qs) p.r.l.length).getD j 0)]) U U (λj hj=>mS j hj) (by rw[aK,bE]) bL (aW _) bL λA3 c3 _ _=>⟨(λc hc=>by cases hc),vk ?_⟩
 exact⟨(⟨A2,c2,fI (vCo p q qs) p.c.l.length⟩,⟨A3,c3,fI (vRo p q qs) p.r.l.length⟩),⟨U,U⟩,aI ⟨U,U,U⟩ U tV⟩
def Fsb (p:ProgM) (q:PrQ) (qs:List Rat):Prop:=(∀j,j<p.c.l.length->¬vCo p q qs j)/\∀i,i<p.r.l.length->¬vRo p q qs i
open Classical in
theorem bYl (p:ProgM) (x:Sl RatM) {q:PrQ} {qs:List Rat} {B Bx:Nat} (h:PrX p q x qs B Bx):Ctr pgQ 58 [] [.a p.C,.c (dS x)] [] (λ_:Unit=>⟨pC (Fsb p q qs),[],True⟩):=by
 refine cw func58 (⟨[],bTg p x h,U,U,U,λ⟨g1,g2⟩ ⟨hg1,hg2⟩=>⟨(),tV,aI ?_ rfl tV⟩⟩)
 replace hg1:g1.l=fI (vCo p q qs) p.c.l.length:=hg1
 replace hg2:g2.l=fI (vRo p q qs) p.r.l.length:=hg2
 show((0:Int)=0/\((g1.l.length:Nat):Int)=0)/\((g2.l.length:Nat):Int)=0↔Fsb p q qs
 rw[hg1,hg2]
 unfold Fsb
 rw[<-yI,<-yI,<-iK,<-iK]
 omega
open Classical in
noncomputable abbrev wG1 (p:ProgM) (q:PrQ) (x:Sl RatM) (qs:List Rat) (k:Nat):List (Nat×DV):=[(6,.c (iC k)),(4,.c (.s 1 (fI (vCo p q qs) k).length)),(5,.c (.v (.slice none 0 0))),(2,.c (.p 0 0)),(1,.c (dS x))]
open Classical in
noncomputable abbrev wG2 (p:ProgM) (q:PrQ) (x:Sl RatM) (qs:List Rat) (k:Nat):List (Nat×DV):=[(8,.c (iC k)),(5,.c (.s 2 (fI (vRo p q qs) k).length)),(4,.c (.s 1 (fI (vCo p q qs) p.c.l.length).length)),(2,.c (.p 0 0)),(1,.c (dS x))]
def bYm:Ord:=.seq [(0,false),(1,false),(2,false),(3,false),(4,false),(5,false),(7,false),(8,false),(9,false),(10,false),(11,false),(12,false),(13,false),(14,false),(15,false),(16,false),(17,false),(18,false),(6,false),(19,true),(20,false)]
def cCe:Ord:=.seq (sq 22 (List.range 26))
open Classical in
theorem bTh (p:ProgM) (x:Sl RatM) {q:PrQ} {qs:List Rat} {B Bx:Nat} (h:PrX p q x qs B Bx):Ctr pgQ 115 [] [.a p.C,.c (dS x)] [] (λg:Sl Int×Sl Int=>⟨.t [.c (cI g.1),.c (cI g.2)],[],g.1.l=fI (vCo p q qs) p.c.l.length/\g.2.l=fI (vRo p q qs) p.r.l.length⟩):=by
 have hxl:x.l.length=p.c.l.length:=h.x.ln.trans h.l
 have hc:=h.v.c
 have hr:=h.v.r
 refine cw func115 (?_)
 show Sd _ _ _ _ _ _
 refine aDs tSd 4 3 1 U bL U ?_
 refine bX (λ_=>true) (wG1 p q x qs) (vB1 p q qs) (λ_=>[]) (λk=>k<=p.c.l.length) (λk=>p.c.l.length-k) λhM=>⟨hM 0 (aB _) U ⟨U,U⟩ U1 rS bL sR U,λk hk=>vk ⟨λh3=>vk ?_,λh3=>vk ?_⟩⟩
 ·replace hk:k<=p.c.l.length:=hk
  replace h3:(k:Int)<(p.c.l.length:Nat):=h3
  have hkn:k<p.c.l.length:=Uc
  have hkx:k<x.l.length:=Uc
  have hsl:=pN (P:=vCo p q qs) k
  have hC:=h.v.rd.c k hkn
  have hBB:=h.v.hB
  have hX:=(h.x.rq h.q (k:=k) (by rw[h.l];exact hkn)).le h.le
  refine⟨k,⟨U,hkn⟩,cCe,U0,k,λ_=>⟨U,hkx⟩,⟨λh1=>⟨[],aCr (x.l.getD k U6) (p.c.l.getD k U6).l hX (hC.l.le),U,U,U,λ_ _=>⟨k,λ_=>⟨U,hkx⟩,⟨λh2=>?_,λh2=>⟨λh3=>⟨[],aCr (x.l.getD k U6) (p.c.l.getD k U6).u hX (hC.u.le),U,U,U,λ_ _=>⟨λh4=>vk ?_,λh4=>vk ?_⟩⟩,λh3=>?_⟩⟩⟩⟩,λh1=>⟨k,λ_=>⟨U,hkx⟩,⟨λh3=>⟨[],aCr (x.l.getD k U6) (p.c.l.getD k U6).u hX (hC.u.le),U,U,U,λ_ _=>⟨λh4=>vk ?_,λh4=>vk ?_⟩⟩,λh3=>?_⟩⟩⟩⟩
  ·have h5:vCo p q qs k:=.inl ⟨h1,wR.1 (by rw[<-sC];exact h2)⟩
   exact⟨⟨U,by show(fI (vCo p q qs) k).length*1=((fI (vCo p q qs) k).map iC).length;rw[aK,bE],by show _+1<=maxLen;simp only[maxLen];omega,by show(_+1)*8<=_;omega,λc hc=>(aO.1 hc).elim oK λhc=>by rw[aE.1 hc];rfl⟩,(λc hc=>by rw[aE.1 hc];rfl),(k+1:Nat),wi,hM (k+1) ⟨hkn,show p.c.l.length-(k+1)<p.c.l.length-k by omega⟩ U ⟨U,U5 (λl:List CV=>((3,1,l):TypeId×Nat×List CV)) (vJ h5)⟩ U1 ⟨U,sJ h5,U,U,U⟩ bL sR U⟩
  ·have h5:vCo p q qs k:=.inr ⟨h3,pM.1 (by rw[<-sC];exact h4)⟩
   exact⟨⟨U,by show(fI (vCo p q qs) k).length*1=((fI (vCo p q qs) k).map iC).length;rw[aK,bE],by show _+1<=maxLen;simp only[maxLen];omega,by show(_+1)*8<=_;omega,λc hc=>(aO.1 hc).elim oK λhc=>by rw[aE.1 hc];rfl⟩,(λc hc=>by rw[aE.1 hc];rfl),(k+1:Nat),wi,hM (k+1) ⟨hkn,show p.c.l.length-(k+1)<p.c.l.length-k by omega⟩ U ⟨U,U5 (λl:List CV=>((3,1,l):TypeId×Nat×List CV)) (vJ h5)⟩ U1 ⟨U,sJ h5,U,U,U⟩ bL sR U⟩
  ·have h5:¬vCo p q qs k:=λhh=>hh.elim (λhh=>h2 (by show sgn _<0;rw[sC];exact wR.2 hh.2)) λhh=>h4 (by show 0<sgn _;rw[sC];exact pM.2 hh.2)
   exact⟨(k+1:Nat),wi,hM (k+1) ⟨hkn,show p.c.l.length-(k+1)<p.c.l.length-k by omega⟩ U ⟨U,U5 (λl:List Int=>((3,1,l.map iC):TypeId×Nat×List CV)) (kJ h5).symm⟩ U1 ⟨U,U5 List.length (kJ h5).symm,U,U,U⟩ bL sR U⟩
  ·have h5:¬vCo p q qs k:=λhh=>hh.elim (λhh=>h2 (by show sgn _<0;rw[sC];exact wR.2 hh.2)) λhh=>h3 hh.1
   exact⟨(k+1:Nat),wi,hM (k+1) ⟨hkn,show p.c.l.length-(k+1)<p.c.l.length-k by omega⟩ U ⟨U,U5 (λl:List Int=>((3,1,l.map iC):TypeId×Nat×List CV)) (kJ h5).symm⟩ U1 ⟨U,U5 List.length (kJ h5).symm,U,U,U⟩ bL sR U⟩
  ·have h5:vCo p q qs k:=.inr ⟨h3,pM.1 (by rw[<-sC];exact h4)⟩
   exact⟨⟨U,by show(fI (vCo p q qs) k).length*1=((fI (vCo p q qs) k).map iC).length;rw[aK,bE],by show _+1<=maxLen;simp only[maxLen];omega,by show(_+1)*8<=_;omega,λc hc=>(aO.1 hc).elim oK λhc=>by rw[aE.1 hc];rfl⟩,(λc hc=>by rw[aE.1 hc];rfl),(k+1:Nat),wi,hM (k+1) ⟨hkn,show p.c.l.length-(k+1)<p.c.l.length-k by omega⟩ U ⟨U,U5 (λl:List CV=>((3,1,l):TypeId×Nat×List CV)) (vJ h5)⟩ U1 ⟨U,sJ h5,U,U,U⟩ bL sR U⟩
  ·have h5:¬vCo p q qs k:=λhh=>hh.elim (λhh=>h1 hh.1) λhh=>h4 (by show 0<sgn _;rw[sC];exact pM.2 hh.2)
   exact⟨(k+1:Nat),wi,hM (k+1) ⟨hkn,show p.c.l.length-(k+1)<p.c.l.length-k by omega⟩ U ⟨U,U5 (λl:List Int=>((3,1,l.map iC):TypeId×Nat×List CV)) (kJ h5).symm⟩ U1 ⟨U,U5 List.length (kJ h5).symm,U,U,U⟩ bL sR U⟩
  have h5:¬vCo p q qs k:=λhh=>hh.elim (λhh=>h1 hh.1) λhh=>h3 hh.1
  exact⟨(k+1:Nat),wi,hM (k+1) ⟨hkn,show p.c.l.length-(k+1)<p.c.l.length-k by omega⟩ U ⟨U,U5 (λl:List Int=>((3,1,l.map iC):TypeId×Nat×List CV)) (kJ h5).symm⟩ U1 ⟨U,U5 List.length (kJ h5).symm,U,U,U⟩ bL sR U⟩
 replace hk:k<=p.c.l.length:=hk
 replace h3:¬(k:Int)<(p.c.l.length:Nat):=h3
 obtain rfl:k=p.c.l.length:=Uc
 refine vk ?_
 show Sd _ _ _ _ _ _
 refine aDs tSd 5 3 1 U bL U ?_
 refine bX (λ_=>true) (wG2 p q x qs) (vB2 p q qs) (λ_=>[]) (λk=>k<=p.r.l.length) (λk=>p.r.l.length-k) λhM=>⟨hM 0 (aB _) U ⟨U,U,U⟩ U1 rS bL aDb U,λk hk=>vk ⟨λh3=>vk ?_,λh3=>vk ?_⟩⟩
 ·replace hk:k<=p.r.l.length:=hk
  replace h3:(k:Int)<(p.r.l.length:Nat):=h3
  have hkn:k<p.r.l.length:=Uc
  have hsl:=pN (P:=vRo p q qs) k
  have hrow:=h.row hkn
  have hBB:=h.v.hB
  have hsum:=hrow.sum (aH (q.M k).length)
  rw[cQ] at hsum
  have hh:=hrow.h
  have hle:(q.M k).length*(B+Bx+1)<=((q.M k).length+1)*(B+Bx+1):=aT _ oM
  refine⟨bYm,U0,k,⟨U,hkn⟩,k,⟨U,hkn⟩,k,⟨U,hkn⟩,[],bYj (p.r.l.getD k U6) x hrow,U,U,U,λg hg=>⟨[],bYk g (p.r.l.getD k U6).b (p.r.l.getD k U6).s (Cr.rq hg (hsum.le oM)) (hrow.r.b.le) (h.v.v k hkn).1,U,U,U,λ_ _=>⟨λh4=>vk ?_,λh4=>vk ?_⟩⟩⟩
  ·have h5:vRo p q qs k:=cR.1 h4
   exact⟨⟨U,by show(fI (vRo p q qs) k).length*1=((fI (vRo p q qs) k).map iC).length;rw[aK,bE],by show _+1<=maxLen;simp only[maxLen];omega,by show(_+1)*8<=_;omega,λc hc=>(aO.1 hc).elim oK λhc=>by rw[aE.1 hc];rfl⟩,(λc hc=>oK hc),(λc hc=>by rw[aE.1 hc];rfl),(k+1:Nat),wi,hM (k+1) ⟨hkn,show p.r.l.length-(k+1)<p.r.l.length-k by omega⟩ U ⟨U,U,U5 (λl:List CV=>((3,1,l):TypeId×Nat×List CV)) (vJ h5)⟩ U1 ⟨U,sJ h5,U,U,U⟩ bL aDb U⟩
  have h5:¬vRo p q qs k:=cR.1 h4
  exact⟨(k+1:Nat),wi,hM (k+1) ⟨hkn,show p.r.l.length-(k+1)<p.r.l.length-k by omega⟩ U ⟨U,U,U5 (λl:List Int=>((3,1,l.map iC):TypeId×Nat×List CV)) (kJ h5).symm⟩ U1 ⟨U,U5 List.length (kJ h5).symm,U,U,U⟩ bL aDb U⟩
 replace hk:k<=p.r.l.length:=hk
 replace h3:¬(k:Int)<(p.r.l.length:Nat):=h3
 obtain rfl:k=p.r.l.length:=Uc
 show Sd _ _ _ _ _ _
 refine nS 4 1 (λj=>[iC ((fI (vCo p q qs) p.c.l.length).getD j 0)]) U U (λj hj=>mS j hj) (by rw[aK,bE]) bL (aW _) bL λA2 c2 _ _=>⟨λc hc=>oK hc,?_⟩
 show Sd _ _ _ _ _ _
 refine nS 5 2 (λj=>[iC ((fI (vRo p q qs) p.r.l.length).getD j 0)]) U U (λj hj=>mS j hj) (by rw[aK,bE]) bL (aW _) bL λA3 c3 _ _=>⟨(λc hc=>by cases hc),vk ?_⟩
 exact⟨(⟨A2,c2,fI (vCo p q qs) p.c.l.length⟩,⟨A3,c3,fI (vRo p q qs) p.r.l.length⟩),⟨U,U⟩,aI ⟨U,U⟩ U tV⟩
open Classical in
theorem bYn (p:ProgM) (x:Sl RatM) {q:PrQ} {qs:List Rat} {B Bx:Nat} (h:PrX p q x qs B Bx):Ctr pgQ 67 [] [.a p.C,.c (dS x)] [] (λ_:Unit=>⟨pC (Fsb p q qs),[],True⟩):=by
 have hxl:x.l.length=p.c.l.length:=h.x.ln.trans h.l
 refine cw func67 (⟨[],bEr p h.v,U,U,U,λ_ _=>⟨λh2=>vk ?_,λh2=>vk ⟨[],bTh p x h,U,U,U,λ⟨g1,g2⟩ ⟨hg1,hg2⟩=>⟨(),tV,aI ?_ rfl tV⟩⟩⟩⟩)
 ·replace h2:(0:Int)≠0\/((x.l.length:Nat):Int)≠(p.c.l.length:Nat):=h2
  omega
 replace hg1:g1.l=fI (vCo p q qs) p.c.l.length:=hg1
 replace hg2:g2.l=fI (vRo p q qs) p.r.l.length:=hg2
 show((g1.l.length:Nat):Int)=0/\((g2.l.length:Nat):Int)=0↔Fsb p q qs
 rw[hg1,hg2]
 unfold Fsb
 rw[<-yI,<-yI,<-iK,<-iK]
 omega
structure PrY (p:ProgM) (q:PrQ) (y:Sl RatM) (ps:List Rat) (B By:Nat):Prop where
 v:PrV p q B
 y:Rl y.l ps
 l:ps.length=p.r.l.length
 q:rbL ps By
 hB:By<=4398046511104
def Sgb (s:Int) (v:Rat):Prop:=(s=-1/\0<sgn v.num)\/(s=1/\sgn v.num<0)
def Sgd (p:ProgM) (ps:List Rat):Prop:=∀i,i<p.r.l.length->¬Sgb (p.r.l.getD i U6).s (lQ ps i)
abbrev cCf (p:ProgM) (y:Sl RatM) (k:Nat):List (Nat×DV):=[(18,.c (iC k)),(1,.c (dS y)),(16,.c (aLk p.r)),(17,.c (iC (p.r.l.length:Nat)))]
theorem bYo (p:ProgM) (y:Sl RatM) {q:PrQ} {ps:List Rat} {B By:Nat} (h:PrY p q y ps B By):Ctr pgQ 59 [] [.a p.C,.c (dS y)] [] (λ_:Unit=>⟨pC (Sgd p ps),[],True⟩):=by
 have hyl:y.l.length=p.r.l.length:=h.y.ln.trans h.l
 have hr:=h.v.r
 have hBy:=h.hB
 refine cw func59 (⟨[],aRy p y h.v _ (U5 Int.ofNat hyl),U,U,U,λ_ _=>⟨λhh=>U4 U hh,λ_=>vk ?_⟩⟩)
 show Sd _ _ _ _ _ _
 refine bX (λ_=>true) (cCf p y) (λ_=>prB p) (λ_=>[]) (λk=>k<=p.r.l.length/\∀i,i<k->¬Sgb (p.r.l.getD i U6).s (lQ ps i)) (λk=>p.r.l.length-k) λhM=>⟨hM 0 ⟨aB _,λi hi=>U4 hi (aF _)⟩ U U trivial rS bL rH U,λk ⟨hk,hv⟩=>vk ⟨λh3=>vk ?_,λh3=>vk ?_⟩⟩
 ·replace h3:(k:Int)<(p.r.l.length:Nat):=h3
  have hkn:k<p.r.l.length:=Uc
  have hky:k<y.l.length:=Uc
  refine⟨k,⟨U,hkn⟩,k,⟨U,hky⟩,[],kV (y.l.getD k U6) ((h.y.rq h.q (k:=k) (by rw[h.l];exact hkn)).le),U,U,U,λ_ _=>⟨λh4=>vk ?_,λh4=>vk ?_⟩⟩
  ·exact⟨(),tV,aI (ff λhh=>hh k hkn h4) U tV⟩
  refine⟨(k+1:Nat),wi,hM (k+1) ⟨⟨hkn,λi hi=>?_⟩,show p.r.l.length-(k+1)<p.r.l.length-k by omega⟩ U U trivial rS bL rH U⟩
  rcases bR (cB hi) with h5|rfl
  ·exact hv i h5
  exact h4
 replace h3:¬(k:Int)<(p.r.l.length:Nat):=h3
 exact vk ⟨(),tV,aI (tt λi hi=>hv i oM) U tV⟩
abbrev cCg (y:Sl RatM) (k:Nat):List (Nat×DV):=[(5,.c (iC k)),(1,.c (dS y)),(2,.c (.p 0 0))]
theorem bYp (p:ProgM) (y:Sl RatM) {q:PrQ} {ps:List Rat} {B By:Nat} (h:PrY p q y ps B By):Ctr pgQ 68 [] [.a p.C,.c (dS y)] [] (λ_:Unit=>⟨pC (Sgd p ps),[],True⟩):=by
 have hyl:y.l.length=p.r.l.length:=h.y.ln.trans h.l
 have hr:=h.v.r
 have hBy:=h.hB
 refine cw func68 (⟨[],bEr p h.v,U,U,U,λ_ _=>⟨λh2=>?_,λh2=>vk ?_⟩⟩)
 ·replace h2:(0:Int)≠0\/((y.l.length:Nat):Int)≠(p.r.l.length:Nat):=h2
  omega
 show Sd _ _ _ _ _ _
 refine bX (λ_=>true) (cCg y) (λ_=>prB p) (λ_=>[]) (λk=>k<=p.r.l.length/\∀i,i<k->¬Sgb (p.r.l.getD i U6).s (lQ ps i)) (λk=>p.r.l.length-k) λhM=>⟨hM 0 ⟨aB _,λi hi=>U4 hi (aF _)⟩ U U trivial ⟨U,U,U⟩ bL rH U,λk ⟨hk,hv⟩=>vk ⟨λh3=>vk ?_,λh3=>vk ?_⟩⟩
 ·replace h3:(k:Int)<(y.l.length:Nat):=h3
  have hkn:k<p.r.l.length:=Uc
  have hky:k<y.l.length:=Uc
  refine⟨k,⟨U,hky⟩,[],tT (y.l.getD k U6) ((h.y.rq h.q (k:=k) (by rw[h.l];exact hkn)).le),U,U,U,λ_ _=>⟨k,⟨U,hkn⟩,k,λ_=>⟨U,hkn⟩,⟨λh4=>vk ?_,λh4=>vk ?_⟩⟩⟩
  ·exact⟨(),tV,aI (ff λhh=>hh k hkn h4) U tV⟩
  refine⟨(k+1:Nat),wi,hM (k+1) ⟨⟨hkn,λi hi=>?_⟩,show p.r.l.length-(k+1)<p.r.l.length-k by omega⟩ U U trivial ⟨U,U,U⟩ bL rH U⟩
  rcases bR (cB hi) with h5|rfl
  ·exact hv i h5
  exact h4
 replace h3:¬(k:Int)<(y.l.length:Nat):=h3
 exact vk ⟨(),tV,aI (tt λi hi=>hv i oM) U tV⟩
def kF (q:PrQ) (ps:List Rat):Nat->Nat->Rat
 |0,j=>q.k j
 |i+1,j=>kF q ps i j-lQ ps i*Vm.get (q.M i) (j:Nat)
def aAl (q:PrQ) (ps:List Rat) (i t j:Nat):Rat:=kF q ps i j-lQ ps i*Vm.get ((q.M i).take t) (j:Nat)
theorem aIj {q:PrQ} {ps:List Rat} {i j:Nat}:aAl q ps i 0 j=kF q ps i j:=by
 unfold aAl
 rw[yX,show Vm.get ([]:List En) (j:Nat)=0 from U,bU];grind
theorem aOz {q:PrQ} {ps:List Rat} {i j:Nat}:aAl q ps i (q.M i).length j=kF q ps (i+1) j:=by
 unfold aAl;rw[cQ];rfl
theorem aIk {q:PrQ} {ps:List Rat} {i t j m:Nat} (ht:t<(q.M i).length) (hm:((q.M i).getD t U6).1=(m:Nat)):aAl q ps i (t+1) j=if j=m then aAl q ps i t m-lQ ps i*((q.M i).getD t U6).2 else aAl q ps i t j:=by
 unfold aAl
 rw[dF,aG ht]
 show _-_*Vm.get ((q.M i).take t++[(q.M i)[t]]) _=_
 rw[gd ht] at hm ⊢
 rw[Vm.get_append]
 by_cases e:j=m
 ·subst e
  rw[U3 U,<-hm,show Vm.get [(q.M i)[t]] ((q.M i)[t]).1=((q.M i)[t]).2 from Vm.get_head (eK _ _)]
  grind
 rw[U2 e,show Vm.get [(q.M i)[t]] (j:Nat)=0 from Vm.get_none λe' he'=>by rw[aE.1 he',hm];omega,bK]
structure PrZ (p:ProgM) (q:PrQ) (y:Sl RatM) (ps:List Rat) (B By:Nat):Prop where
 y:PrY p q y ps B By
 k:∀j,j<p.c.l.length->rb (q.k j) B
 b:B+(p.r.l.length+1)*(By+B+1)<=4398046511104
theorem PrZ.rd {p:ProgM} {q:PrQ} {y:Sl RatM} {ps:List Rat} {B By:Nat} (h:PrZ p q y ps B By) {j:Nat} (hj:j<p.c.l.length):∀i,i<=p.r.l.length->rb (kF q ps i j) (B+i*(By+B+1))
 |0,_=>(h.k j hj).le oM
 |i+1,hi=>by
  have h1:=h.rd hj i oM
  have h2:=mK (i:=(j:Nat)) (h.y.v.v i oM).2.1 (h.y.v.e i oM) h.y.v.h1
  exact(pJ h1 (fW (h.y.q _ (gD0 (by rw[h.y.l];omega))) h2)).le (by rw[dH];omega)
theorem PrZ.re {p:ProgM} {q:PrQ} {y:Sl RatM} {ps:List Rat} {B By i t j:Nat} (h:PrZ p q y ps B By) (hi:i<p.r.l.length) (hj:j<p.c.l.length):rb (aAl q ps i t j) 4398046511104:=by
 have h1:=h.rd hj i oM
 have hv:=h.y.v.v i hi
 have h2:=mK (es:=(q.M i).take t) (i:=(j:Nat)) (hv.2.1.sublist (iT _ _)) (λe he=>h.y.v.e i hi e (cH he)) h.y.v.h1
 have h3:=h.b
 have h4:i*(By+B+1)<=p.r.l.length*(By+B+1):=aT _ oM
 exact(pJ h1 (fW (h.y.q _ (gD0 (by rw[h.y.l];omega))) h2)).le (by rw[dH] at h3;omega)
abbrev rB (p:ProgM) (Z:Nat->RatM):BL:=[(25,0,p.C),(53,3,rtC p.c.l.length Z)]
theorem xB {p:ProgM} {Z:Nat->RatM}:scB 2 (rB p Z):=aA U (aA (bG cD) aU)
abbrev rG1 (p:ProgM) (y:Sl RatM) (k:Nat):List (Nat×DV):=[(30,.c (iC k)),(7,.c (.s 1 p.c.l.length)),(2,.c (.p 0 0)),(1,.c (dS y)),(28,.c (aBu p.c)),(29,.c (iC (p.c.l.length:Nat)))]
abbrev rG2 (p:ProgM) (y:Sl RatM) (k:Nat):List (Nat×DV):=[(45,.c (iC k)),(7,.c (.s 1 p.c.l.length)),(1,.c (dS y)),(43,.c (aLk p.r)),(44,.c (iC (p.r.l.length:Nat)))]
abbrev rG3 (p:ProgM) (y:Sl RatM) (i t:Nat):List (Nat×DV):=(59,.c (iC t))::(10,.c (iC i))::(57,.c (cF (p.r.l.getD i U6).e))::(58,.c (iC ((p.r.l.getD i U6).e.l.length:Nat)))::rG2 p y i
theorem qH {A:Option Addr} {c n:Nat} {Z:Nat->RatM}:CV.r A n c 3 (λj=>((fZ Z n).getD j U6).C)=dS ⟨A,c,fZ Z n⟩:=by
 unfold dS Sl.R;rw[jS]
theorem bYq (p:ProgM) (y:Sl RatM) {q:PrQ} {ps:List Rat} {B By:Nat} (h:PrZ p q y ps B By):Ctr pgQ 60 [] [.a p.C,.c (dS y)] [] (λg:Sl RatM=>⟨.t [.c (dS g),.c (iC 0)],[],g.l.length=p.c.l.length/\∀j,j<p.c.l.length->Cr (g.l.getD j U6) (kF q ps p.r.l.length j)⟩):=by
 have hyl:y.l.length=p.r.l.length:=h.y.y.ln.trans h.y.l
 have hc:=h.y.v.c
 have hr:=h.y.v.r
 have hBB:=h.y.v.hB
 refine cw func60 (⟨[],aRy p y h.y.v _ (U5 Int.ofNat hyl),U,U,U,λ_ _=>⟨λhh=>U4 U hh,λ_=>vk ⟨p.c.l.length,⟨U,U,by show 56*_<=_;omega,by simp only[maxLen];omega⟩,?_⟩⟩⟩)
 show Sd _ _ _ _ _ _
 refine gJ tSd 1 (rtC p.c.l.length λ_=>U6) U jI.1 jI.2 ?_
 refine bX (λ_=>true) (λg:Nat×(Nat->RatM)=>rG1 p y g.1) (λg=>rB p g.2) (λ_=>[]) (λg=>g.1<=p.c.l.length/\∀j,j<g.1->Cr (g.2 j) (q.k j)) (λg=>p.c.l.length-g.1) λhM=>⟨hM (0,λ_=>U6) ⟨aB _,λj hj=>U4 hj (aF _)⟩ U ⟨U,U⟩ U1 rS bL xB U,λ⟨k,Z⟩ ⟨hk,hZ⟩=>vk ⟨λh3=>vk ?_,λh3=>vk ?_⟩⟩
 all_goals
  replace hk:k<=p.c.l.length:=hk
  replace hZ:∀j,j<k->Cr (Z j) (q.k j):=hZ
 ·replace h3:(k:Int)<(p.c.l.length:Nat):=h3
  have hkn:k<p.c.l.length:=Uc
  refine⟨k,⟨U,hkn⟩,[],oR (p.c.l.getD k U6).k ((h.y.v.rd.c k hkn).k.le),U,U,U,λg hg=>⟨k,⟨U,hkn,eO hkn⟩,_,fQ hkn,(k+1:Nat),wi,hM (k+1,upd Z k g) ⟨⟨hkn,λj hj=>?_⟩,show p.c.l.length-(k+1)<p.c.l.length-k by omega⟩ U ⟨U,U⟩ U1 rS bL xB U⟩⟩
  show Cr (upd Z k g j) _
  by_cases e:j=k
  ·subst e;rw[bF];exact hg
  rw[aY e];exact hZ j (by have:j<k+1:=hj;omega)
 replace h3:¬(k:Int)<(p.c.l.length:Nat):=h3
 obtain rfl:k=p.c.l.length:=Uc
 refine vk ?_
 show Sd _ _ _ _ _ _
 refine bX (λ_=>true) (λg:Nat×(Nat->RatM)=>rG2 p y g.1) (λg=>rB p g.2) (λ_=>[]) (λg=>g.1<=p.r.l.length/\∀j,j<p.c.l.length->Cr (g.2 j) (kF q ps g.1 j)) (λg=>p.r.l.length-g.1) λhM=>⟨hM (0,Z) ⟨aB _,hZ⟩ U ⟨U,U⟩ U1 rS bL xB U,λ⟨i,Z⟩ ⟨hi,hZ⟩=>vk ⟨λh3=>vk ?_,λh3=>vk ?_⟩⟩
 all_goals
  replace hi:i<=p.r.l.length:=hi
  replace hZ:∀j,j<p.c.l.length->Cr (Z j) (kF q ps i j):=hZ
 ·replace h3:(i:Int)<(p.r.l.length:Nat):=h3
  have hir:i<p.r.l.length:=Uc
  have hiy:i<y.l.length:=Uc
  have hb:=h.b
  have hYq:=(h.y.y.rq h.y.q (k:=i) (by rw[h.y.l];exact hir)).le h.y.hB
  refine⟨i,⟨U,hir⟩,i,⟨U,hiy⟩,[],kV (y.l.getD i U6) hYq,U,U,U,λ_ _=>⟨λh4=>vk ?_,λh4=>vk ?_⟩⟩
  ·replace h4:sgn (lQ ps i).num=0:=h4
   have h0:lQ ps i=0:=cY.1 (fT.1 h4)
   refine⟨(i+1:Nat),wi,hM (i+1,Z) ⟨⟨hir,λj hj=>?_⟩,show p.r.l.length-(i+1)<p.r.l.length-i by omega⟩ U ⟨U,U⟩ U1 rS bL xB U⟩
   show Cr (Z j) (kF q ps i j-lQ ps i*Vm.get (q.M i) (j:Nat))
   rw[h0,dL,show kF q ps i j-0=kF q ps i j by grind]
   exact hZ j hj
  have hrow:=h.y.v.rd.r i hir
  have hvr:=h.y.v.v i hir
  have hel:=hrow.e.ln
  have hlen:=h.y.v.len hir
  refine vk ?_
  show Sd _ _ _ _ _ _
  refine bX (λ_=>true) (λg:Nat×(Nat->RatM)=>rG3 p y i g.1) (λg=>rB p g.2) (λ_=>[]) (λg=>g.1<=(q.M i).length/\∀j,j<p.c.l.length->Cr (g.2 j) (aAl q ps i g.1 j)) (λg=>(q.M i).length-g.1) λhM2=>⟨hM2 (0,Z) ⟨aB _,λj hj=>by rw[aIj];exact hZ j hj⟩ U ⟨U,U⟩ U1 rS bL xB U,λ⟨t,Z⟩ ⟨ht,hZ⟩=>vk ⟨λh5=>vk ?_,λh5=>vk ?_⟩⟩
  all_goals
   replace ht:t<=(q.M i).length:=ht
   replace hZ:∀j,j<p.c.l.length->Cr (Z j) (aAl q ps i t j):=hZ
  ·replace h5:(t:Int)<((p.r.l.getD i U6).e.l.length:Nat):=h5
   have htl:t<(q.M i).length:=Uc
   have hte:t<(p.r.l.getD i U6).e.l.length:=Uc
   have he:=hrow.e.e t htl
   have hv:=hvr.2.2 _ (fN htl)
   obtain⟨m,hm⟩:∃m:Nat,((q.M i).getD t U6).1=(m:Nat):=⟨((q.M i).getD t U6).1.toNat,Uc⟩
   have hmc:m<p.c.l.length:=Uc
   have hix:((p.r.l.getD i U6).e.l.getD t U6).ix=(m:Nat):=he.1.trans hm
   have hYr:rb (lQ ps i) By:=h.y.q _ (gD0 (by rw[h.y.l];exact hir))
   have hEr:=h.y.v.e i hir _ (fN htl)
   have hnr:(By+B+1)<=(p.r.l.length+1)*(By+B+1):=pU _ (jU _)
   refine⟨t,⟨U,hte⟩,.seq (sq 17 (List.range 18)),U0,m,⟨hix,hmc,eO hmc⟩,_,kM hmc,i,⟨U,hiy⟩,[],yB (y.l.getD i U6) ((p.r.l.getD i U6).e.l.getD t U6).v hYq (he.2.le),U,U,U,λg hg=>⟨[],aKr (Z m) g ((hZ m hmc).rq (h.re hir hmc)) (Cr.rq hg ((fW hYr hEr).le oM)),U,U,U,λd hd=>⟨m,⟨hix,hmc,eO hmc⟩,_,fQ hmc,(t+1:Nat),wi,hM2 (t+1,upd Z m d) ⟨⟨htl,λj hj=>?_⟩,show(q.M i).length-(t+1)<(q.M i).length-t by omega⟩ U ⟨U,U⟩ U1 rS bL xB U⟩⟩⟩
   show Cr (upd Z m d j) (aAl q ps i (t+1) j)
   rw[aIk htl hm]
   by_cases e:j=m
   ·subst e;rw[bF,U3 U];exact hd
   rw[aY e,U2 e];exact hZ j hj
  replace h5:¬(t:Int)<((p.r.l.getD i U6).e.l.length:Nat):=h5
  obtain rfl:t=(q.M i).length:=Uc
  refine⟨(i+1:Nat),wi,hM (i+1,Z) ⟨⟨hir,λj hj=>?_⟩,show p.r.l.length-(i+1)<p.r.l.length-i by omega⟩ U ⟨U,U⟩ U1 rS bL xB U⟩
  show Cr (Z j) (kF q ps (i+1) j)
  rw[<-aOz];exact hZ j hj
 replace h3:¬(i:Int)<(p.r.l.length:Nat):=h3
 obtain rfl:i=p.r.l.length:=Uc
 show Sd _ _ _ _ _ _
 refine nS 7 1 (λj=>((fZ Z p.c.l.length).getD j U6).C) U U (λj hj=>nZ j hj) (by rw[jE (P:=λj=>(Z j).C) (e:=3) λ_ _=>U]) bL cD bL λA2 c2 _ _=>vk ⟨⟨A2,c2,fZ Z p.c.l.length⟩,⟨jS,λj hj=>?_⟩,aI ⟨qH,U⟩ U tV⟩
 show Cr ((fZ Z p.c.l.length).getD j U6) _
 rw[nC hj];exact hZ j hj
abbrev hB1 (p:ProgM) (k:Nat) (Z:Nat->RatM):BL:=[(25,0,p.C),(53,3,rtC k Z)]
theorem bEs {p:ProgM} {k:Nat} {Z:Nat->RatM}:scB 2 (hB1 p k Z):=aA U (aA (bG cD) aU)
abbrev hG1 (y:Sl RatM) (k:Nat):List (Nat×DV):=[(6,.c (iC k)),(5,.c (.s 1 k)),(2,.c (.p 0 0)),(1,.c (dS y))]
abbrev hG2 (y:Sl RatM) (p:ProgM) (k:Nat):List (Nat×DV):=[(7,.c (iC k)),(5,.c (.s 1 p.c.l.length)),(2,.c (.p 0 0)),(1,.c (dS y))]
abbrev hG3 (p:ProgM) (y:Sl RatM) (i t:Nat):List (Nat×DV):=(47,.c (iC t))::(45,.c (cF (p.r.l.getD i U6).e))::(46,.c (iC ((p.r.l.getD i U6).e.l.length:Nat)))::hG2 y p i
theorem bKs {k:Nat} {Z:Nat->RatM} {g:RatM}:rtC k Z++g.C=rtC (k+1) (upd Z k g):=by
 rw[show rtC (k+1) (upd Z k g)=rtC k (upd Z k g)++(upd Z k g k).C from gL _ _,bF,show rtC k (upd Z k g)=rtC k Z from mZ λj hj=>by rw[aY oM]]
theorem bYr (p:ProgM) (y:Sl RatM) {q:PrQ} {ps:List Rat} {B By:Nat} (h:PrZ p q y ps B By):Ctr pgQ 69 [] [.a p.C,.c (dS y)] [] (λg:Sl RatM=>⟨.c (dS g),[],g.l.length=p.c.l.length/\∀j,j<p.c.l.length->Cr (g.l.getD j U6) (kF q ps p.r.l.length j)⟩):=by
 have hyl:y.l.length=p.r.l.length:=h.y.y.ln.trans h.y.l
 have hc:=h.y.v.c
 have hr:=h.y.v.r
 have hBB:=h.y.v.hB
 refine cw func69 (?_)
 show Sd _ _ _ _ _ _
 refine aDs tSd 5 53 3 U bL U ?_
 refine bX (λ_=>true) (λg:Nat×(Nat->RatM)=>hG1 y g.1) (λg=>hB1 p g.1 g.2) (λ_=>[]) (λg=>g.1<=p.c.l.length/\∀j,j<g.1->Cr (g.2 j) (q.k j)) (λg=>p.c.l.length-g.1) λhM=>⟨hM (0,λ_=>U6) ⟨aB _,λj hj=>U4 hj (aF _)⟩ U ⟨U,U⟩ U1 rS bL bEs U,λ⟨k,Z⟩ ⟨hk,hZ⟩=>vk ⟨λh3=>vk ?_,λh3=>vk ?_⟩⟩
 all_goals
  replace hk:k<=p.c.l.length:=hk
  replace hZ:∀j,j<k->Cr (Z j) (q.k j):=hZ
 ·replace h3:(k:Int)<(p.c.l.length:Nat):=h3
  have hkn:k<p.c.l.length:=Uc
  refine⟨k,⟨U,hkn⟩,[],gE (p.c.l.getD k U6).k ((h.y.v.rd.c k hkn).k.le),U,U,U,λg hg=>⟨⟨U,(jE (P:=λj=>(Z j).C) (e:=3) λ_ _=>U).symm,by show k+1<=maxLen;simp only[maxLen];omega,by show(k+1)*56<=_;omega,λc hc=>(aO.1 hc).elim (λhc=>bJ (cD c hc)) λhc=>aOp _ c hc⟩,aOp _,(k+1:Nat),wi,hM (k+1,upd Z k g) ⟨⟨hkn,λj hj=>?_⟩,show p.c.l.length-(k+1)<p.c.l.length-k by omega⟩ U ⟨U,U5 (λl:List CV=>((53,3,l):TypeId×Nat×List CV)) bKs⟩ U1 rS bL bEs U⟩⟩
  show Cr (upd Z k g j) _
  by_cases e:j=k
  ·subst e;rw[bF];exact hg
  rw[aY e];exact hZ j (by have:j<k+1:=hj;omega)
 replace h3:¬(k:Int)<(p.c.l.length:Nat):=h3
 obtain rfl:k=p.c.l.length:=Uc
 refine vk ?_
 show Sd _ _ _ _ _ _
 refine bX (λ_=>true) (λg:Nat×(Nat->RatM)=>hG2 y p g.1) (λg=>rB p g.2) (λ_=>[]) (λg=>g.1<=p.r.l.length/\∀j,j<p.c.l.length->Cr (g.2 j) (kF q ps g.1 j)) (λg=>p.r.l.length-g.1) λhM=>⟨hM (0,Z) ⟨aB _,hZ⟩ U ⟨U,U⟩ U1 rS bL xB U,λ⟨i,Z⟩ ⟨hi,hZ⟩=>vk ⟨λh3=>vk ?_,λh3=>vk ?_⟩⟩
 all_goals
  replace hi:i<=p.r.l.length:=hi
  replace hZ:∀j,j<p.c.l.length->Cr (Z j) (kF q ps i j):=hZ
 ·replace h3:(i:Int)<(p.r.l.length:Nat):=h3
  have hir:i<p.r.l.length:=Uc
  have hiy:i<y.l.length:=Uc
  have hb:=h.b
  have hYq:=(h.y.y.rq h.y.q (k:=i) (by rw[h.y.l];exact hir)).le h.y.hB
  refine⟨i,⟨U,hiy⟩,[],tT (y.l.getD i U6) (hYq.le),U,U,U,λ_ _=>⟨λh4=>vk ?_,λh4=>vk ?_⟩⟩
  ·replace h4:sgn (lQ ps i).num=0:=h4
   have h0:lQ ps i=0:=cY.1 (fT.1 h4)
   refine⟨(i+1:Nat),wi,hM (i+1,Z) ⟨⟨hir,λj hj=>?_⟩,show p.r.l.length-(i+1)<p.r.l.length-i by omega⟩ U ⟨U,U⟩ U1 rS bL xB U⟩
   show Cr (Z j) (kF q ps i j-lQ ps i*Vm.get (q.M i) (j:Nat))
   rw[h0,dL,show kF q ps i j-0=kF q ps i j by grind]
   exact hZ j hj
  have hrow:=h.y.v.rd.r i hir
  have hvr:=h.y.v.v i hir
  have hel:=hrow.e.ln
  have hlen:=h.y.v.len hir
  refine⟨i,⟨U,hir⟩,?_⟩
  show Sd _ _ _ _ _ _
  refine bX (λ_=>true) (λg:Nat×(Nat->RatM)=>hG3 p y i g.1) (λg=>rB p g.2) (λ_=>[]) (λg=>g.1<=(q.M i).length/\∀j,j<p.c.l.length->Cr (g.2 j) (aAl q ps i g.1 j)) (λg=>(q.M i).length-g.1) λhM2=>⟨hM2 (0,Z) ⟨aB _,λj hj=>by rw[aIj];exact hZ j hj⟩ U ⟨U,U⟩ U1 rS bL xB U,λ⟨t,Z⟩ ⟨ht,hZ⟩=>vk ⟨λh5=>vk ?_,λh5=>vk ?_⟩⟩
  all_goals
   replace ht:t<=(q.M i).length:=ht
   replace hZ:∀j,j<p.c.l.length->Cr (Z j) (aAl q ps i t j):=hZ
  ·replace h5:(t:Int)<((p.r.l.getD i U6).e.l.length:Nat):=h5
   have htl:t<(q.M i).length:=Uc
   have hte:t<(p.r.l.getD i U6).e.l.length:=Uc
   have he:=hrow.e.e t htl
   have hv:=hvr.2.2 _ (fN htl)
   obtain⟨m,hm⟩:∃m:Nat,((q.M i).getD t U6).1=(m:Nat):=⟨((q.M i).getD t U6).1.toNat,Uc⟩
   have hmc:m<p.c.l.length:=Uc
   have hix:((p.r.l.getD i U6).e.l.getD t U6).ix=(m:Nat):=he.1.trans hm
   have hYr:rb (lQ ps i) By:=h.y.q _ (gD0 (by rw[h.y.l];exact hir))
   have hEr:=h.y.v.e i hir _ (fN htl)
   have hnr:(By+B+1)<=(p.r.l.length+1)*(By+B+1):=pU _ (jU _)
   refine⟨t,⟨U,hte⟩,.seq (sq 17 (List.range 18)),U0,m,⟨hix,hmc,eO hmc⟩,_,kM hmc,i,⟨U,hiy⟩,[],aGt (y.l.getD i U6) ((p.r.l.getD i U6).e.l.getD t U6).v hYq (he.2.le),U,U,U,λg hg=>⟨[],aGi (Z m) g ((hZ m hmc).rq (h.re hir hmc)) (Cr.rq hg ((fW hYr hEr).le oM)),U,U,U,λd hd=>⟨m,⟨hix,hmc,eO hmc⟩,_,fQ hmc,(t+1:Nat),wi,hM2 (t+1,upd Z m d) ⟨⟨htl,λj hj=>?_⟩,show(q.M i).length-(t+1)<(q.M i).length-t by omega⟩ U ⟨U,U⟩ U1 rS bL xB U⟩⟩⟩
   show Cr (upd Z m d j) (aAl q ps i (t+1) j)
   rw[aIk htl hm]
   by_cases e:j=m
   ·subst e;rw[bF,U3 U];exact hd
   rw[aY e,U2 e];exact hZ j hj
  replace h5:¬(t:Int)<((p.r.l.getD i U6).e.l.length:Nat):=h5
  obtain rfl:t=(q.M i).length:=Uc
  refine⟨(i+1:Nat),wi,hM (i+1,Z) ⟨⟨hir,λj hj=>?_⟩,show p.r.l.length-(i+1)<p.r.l.length-i by omega⟩ U ⟨U,U⟩ U1 rS bL xB U⟩
  show Cr (Z j) (kF q ps (i+1) j)
  rw[<-aOz];exact hZ j hj
 replace h3:¬(i:Int)<(p.r.l.length:Nat):=h3
 obtain rfl:i=p.r.l.length:=Uc
 show Sd _ _ _ _ _ _
 refine nS 5 1 (λj=>((fZ Z p.c.l.length).getD j U6).C) U U (λj hj=>nZ j hj) (by rw[jE (P:=λj=>(Z j).C) (e:=3) λ_ _=>U]) bL cD bL λA2 c2 _ _=>vk ⟨⟨A2,c2,fZ Z p.c.l.length⟩,⟨jS,λj hj=>?_⟩,aI qH U tV⟩
 show Cr ((fZ Z p.c.l.length).getD j U6) _
 rw[nC hj];exact hZ j hj
def zX (F X n:Nat):Nat:=(n+1)*(F+X+1)+2
def wX (F B X n:Nat):Nat:=B+(n+1)*(F+zX F X n+1)+zX F X n+3
theorem bEt (f:LuM) (b:Sl RatM) {M:Nat->List En} {n F B Xb:Nat} {rw cl:Nat->Nat} {Lw Up:Nat->List En} {bv:Nat->Rat} (h:LuG f M n rw cl Lw Up F) (h1:1<=F) (hn:n<=4096) (hb:b.l.length=n) (hbv:∀k,k<n->Rq (b.l.getD k U6) (bv k) B/\rb (bv k) B) (hX:∀x,Sol M n bv x->∀c,c<n->rb (x c) Xb) (hB:wX F B Xb n<=4398046511104):
 Ctr pgQ 87 [true] [.a f.C,.c (dS b)] [] (λg:(Nat->RatM)×(Nat->Rat)=>⟨.t [.c (.s 0 n),.c (iC 0)],[(53,3,rtC n g.1)],Sol M n bv g.2/\∀c,c<n->Cr (g.1 c) (g.2 c)/\rb (g.2 c) Xb⟩):=by
 obtain⟨lo,us,p,hP⟩:=h.o.parts
 have hR:f.R.l.length=n:=by rw[h.R];simp
 have hRi:((f.R.l.length:Nat):Int)=(n:Nat):=by rw[hR]
 have hRc:iC (f.R.l.length:Nat)=iC (n:Nat):=by rw[hR]
 obtain⟨ζ,hζ⟩:∃ζ,ζ=fwd lo (λi=>bv (rw i)) n:=⟨_,U⟩
 have eζ:∀k,k<n->ζ k=bv (rw k)-dtl (lo k) ζ:=λk hk=>by rw[hζ];exact aLg (b:=λi=>bv (rw i)) (λk hk=>(hP.lo k hk).2) k hk
 obtain⟨y,hy⟩:∃y,y=bwd us p n ζ n:=⟨_,U⟩
 have ey:∀k,k<n->y k=(ζ k-dtl (us k) y)/p k:=λk hk=>by rw[hy];exact(aRv (λi hi=>(hP.us i hi).2.1) n (aH n)).2 k oM hk
 obtain⟨xv,hxv⟩:∃xv:Nat->Rat,∀j,j<n->xv (cl j)=y j:=aRw h.o.clt h.o.cinj y
 have hsol:Sol M n bv xv:=h.o.sol hP λi hi=>by rw[hxv i hi,hy,hζ]
 have hyX:∀k,k<n->rb (y k) Xb:=λk hk=>by rw[<-hxv k hk];exact hX xv hsol _ (h.o.clt k hk)
 obtain⟨Z,hZd⟩:∃Z,Z=zX F Xb n:=⟨_,U⟩
 obtain⟨W,hWd⟩:∃W,W=wX F B Xb n:=⟨_,U⟩
 rw[<-hWd] at hB
 have hWe:W=B+(n+1)*(F+Z+1)+Z+3:=by rw[hWd,hZd];rfl
 have hZe:Z=(n+1)*(F+Xb+1)+2:=by rw[hZd];rfl
 have hFXn:∀t,t<=n->t*(F+Xb+1)<=n*(F+Xb+1):=λt ht=>aT _ ht
 have hFZn:∀t,t<=n->t*(F+Z+1)<=n*(F+Z+1):=λt ht=>aT _ ht
 rw[dH] at hWe hZe
 have hub:∀k,k<n->rbE (us k) F:=λk hk e he=>h.bu k hk e (by rw[(hP.us k hk).1];exact .tail _ he)
 have hlb:∀k,k<n->rbE (lo k) F:=λk hk e he=>h.bl k hk e (by rw[(hP.lo k hk).1];exact cX _ he)
 have huy:∀k,k<n->∀t,rb (dtl ((us k).take t) y) (1+n*(F+Xb+1)):=λk hk t=>(aDa (λe he=>hub k hk e (cH he)) λe he=>hyX _ (by have:=(hP.us k hk).2.1 e (cH he);omega)).le (by
  have:=hFXn ((us k).take t).length (by rw[bI];have:=(hP.us k hk).2.2;omega)
  omega)
 have hpb:∀k,k<n->rb (p k) F:=λk hk=>h.bu k hk ((k:Int),p k) (by rw[(hP.us k hk).1];exact .head _)
 have hζZ:∀k,k<n->rb (ζ k) Z:=λk hk=>by
  have e1:ζ k=y k*p k+dtl (us k) y:=by
   have e2:=fM _ (hP.p k hk)
   have e3:=ey k hk
   rw[iJ] at e3
   rw[e3];grind
  have h2:=huy k hk (us k).length
  rw[cQ] at h2
  rw[e1]
  exact(wL (fW (hyX k hk) (hpb k hk)) h2).le oM
 have hp1:∀i,i<n->∀t,rb (bv (rw i)-dtl ((lo i).take t) ζ) W:=λi hi t=>(pJ (hbv _ (h.o.rlt i hi)).2 (aDa (λe he=>hlb i hi e (cH he)) λe he=>hζZ _ (by have:=(hP.lo i hi).2.2 e (cH he);omega))).le (by
  have:=hFZn ((lo i).take t).length (by rw[bI];have:=kY (hP.lo i hi).2;omega)
  omega)
 have hp2:∀i,i<n->∀t,rb (ζ i-dtl ((us i).take t) y) W:=λi hi t=>(pJ (hζZ i hi) (huy i hi t)).le oM
 have hZB:Z<=4398046511104:=Uc
 have hFF:F+Z<=4398046511104:=Uc
 have hF:F<=4398046511104:=Uc
 refine gA gT (eo func87) func87 U U U bL (λi T es l hi=>by cases hi) (vk ⟨[],bXy f b h hF h1 hn hb,U,U,U,λ_ _=>⟨λhh=>U4 U hh,λ_=>vk ⟨n,⟨hRi,hRi,by show 56*n<=_;omega,by simp only[maxLen];omega⟩,?_⟩⟩⟩)
 show Sd _ _ _ _ _ _
 refine gJ tSd 1 (rtC n λ_=>U6) U jI.1 jI.2 ?_
 refine bX (λ_=>true) (λg:Nat×(Nat->RatM)=>bXz b n g.1) (λg=>bSw f n g.2) (λ_=>[]) (λg=>g.1<=n/\∀j,j<g.1->Rq (g.2 j) (ζ j) (W)) (λg=>n-g.1) λhM=>⟨hM (0,λ_=>U6) ⟨aB _,λj hj=>U4 hj (aF _)⟩ U ⟨U,U⟩ U1 ⟨U,hRi,U,U,hRi,U⟩ bL aEn U,λ⟨i,Z⟩ ⟨hi,hZ⟩=>vk ⟨λh2=>vk ?_,λh2=>vk ?_⟩⟩
 all_goals
  replace hi:i<=n:=hi
  replace hZ:∀j,j<i->Rq (Z j) (ζ j) W:=hZ
 ·replace h2:(i:Int)<(n:Nat):=h2
  have hin:i<n:=Uc
  have hri:=h.o.rlt i hin
  have hix:f.R.l.getD i 0=(rw i:Nat):=by rw[h.R];exact yF hin
  have lL:=h.L.ln
  have eL:=h.L.row i hin
  obtain⟨hl,hvl⟩:=hP.lo i hin
  have ln1:(f.L.d.l.getD i cG).l.length=(lo i).length+1:=by rw[eL.ln,hl];simp
  have hll:=kY hvl
  refine⟨i,⟨U,show i<f.R.l.length by omega⟩,rw i,⟨hix,show rw i<b.l.length by omega⟩,i,⟨U,hin,eO hin⟩,_,fQ hin,i,⟨U,show i<f.L.d.l.length by omega⟩,((lo i).length:Nat),wi (by show(((lo i).length:Nat):Int)=(((f.L.d.l.getD i cG).l.length:Nat):Int)-1/\_<=(((f.L.d.l.getD i cG).l.length:Nat):Int)-1/\(((f.L.d.l.getD i cG).l.length:Nat):Int)-1<=_;omega),(lo i).length,⟨U,show(lo i).length<=(f.L.d.l.getD i cG).l.length by omega⟩,?_⟩
  obtain⟨row,hrow⟩:∃row,row=f.L.d.l.getD i cG:=⟨_,U⟩
  rw[<-hrow] at eL ln1
  show Sd _ _ _ _ _ _
  refine bX (λ_=>true) (λg:Nat×(Nat->RatM)=>cBx b n i row.A row.c (lo i).length row g.1) (λg=>bSw f n g.2) (λ_=>[]) (λg=>g.1<=(lo i).length/\(∀j,j<i->Rq (g.2 j) (ζ j) W)/\Rq (g.2 i) (bv (rw i)-dtl ((lo i).take g.1) ζ) W/\rb (bv (rw i)-dtl ((lo i).take g.1) ζ) W) (λg=>(lo i).length-g.1) λhM2=>⟨hM2 (0,upd Z i (b.l.getD (rw i) U6)) ⟨aB _,λj hj=>?_,?_,?_⟩ U ⟨U,U⟩ U1 ?_ bL aEn U,λ⟨t,Z'⟩ ⟨ht,hZ',hq,hqr⟩=>vk ⟨λh3=>vk ?_,λh3=>vk ?_⟩⟩
  ·show Rq (upd Z i _ j) _ _
   rw[aY oM];exact hZ j hj
  ·show Rq (upd Z i _ i) (bv (rw i)-0) W
   rw[bF,aOv]
   exact(hbv _ hri).1.le oM
  ·show rb (bv (rw i)-0) W
   rw[aOv]
   exact(hbv _ hri).2.le oM
  ·exact⟨U,by rw[hrow];rfl,U,U,U,U,U,U,U,U⟩
  all_goals
   replace ht:t<=(lo i).length:=ht
   replace hZ':∀j,j<i->Rq (Z' j) (ζ j) W:=hZ'
   replace hq:Rq (Z' i) (bv (rw i)-dtl ((lo i).take t) ζ) W:=hq
   replace hqr:rb (bv (rw i)-dtl ((lo i).take t) ζ) W:=hqr
  ·replace h3:(t:Int)<((lo i).length:Nat):=h3
   have htl:t<(lo i).length:=Uc
   have e0:=hvl.2 _ (fN htl)
   have er:=eL.e t (by rw[hl];simp;omega)
   rw[show(Lw i).getD t U6=(lo i).getD t U6 by rw[hl,aC,aV htl,aC]] at er
   obtain⟨j0,hj0⟩:∃j0:Nat,((lo i).getD t U6).1=(j0:Nat):=⟨((lo i).getD t U6).1.toNat,Uc⟩
   have hji:j0<i:=Uc
   have hix0:(row.l.getD t U6).ix=(j0:Nat):=er.1.trans hj0
   have hev:rb ((lo i).getD t U6).2 F:=h.bl i hin _ (by rw[hl];exact cX _ (fN htl))
   have hz0:=hZ' j0 hji
   have hm:=fW hev (hζZ j0 oM)
   have hd:bv (rw i)-dtl ((lo i).take (t+1)) ζ=bv (rw i)-dtl ((lo i).take t) ζ-((lo i).getD t U6).2*ζ j0:=by
    rw[aCy htl,vH,hj0,cN];grind
   have hs':=hp1 i hin (t+1)
   have hk:=aKs (Z' i) (row.l.getD t U6).v (Z' j0) (B:=W) (hq.le oM) ((Cr.rq er.2 hev).le) (hz0.le oM) (hm.le oM) (by rw[<-hd];exact hs') hq
   rw[<-hd] at hk
   refine⟨t,⟨U,htl⟩,.seq ((List.range 16).map λi=>(i,i==15)),U0,i,⟨U,hin,eO hin⟩,_,kM hin,j0,⟨hix0,Uc,eO oM⟩,_,kM oM,[],hk,U,U,U,λg hg=>⟨i,⟨U,hin,eO hin⟩,_,fQ hin,(t+1:Nat),wi,hM2 (t+1,upd Z' i g) ⟨⟨htl,λj hj=>?_,?_,hs'⟩,show(lo i).length-(t+1)<(lo i).length-t by omega⟩ U ⟨U,U⟩ U1 rS bL aEn U⟩⟩
   ·show Rq (upd Z' i g j) _ _
    rw[aY oM];exact hZ' j hj
   show Rq (upd Z' i g i) _ _
   rw[bF];exact hg
  replace h3:¬(t:Int)<((lo i).length:Nat):=h3
  obtain rfl:t=(lo i).length:=Uc
  rw[cQ,<-eζ i hin] at hq
  refine⟨(i+1:Nat),wi,hM (i+1,Z') ⟨⟨hin,λj hj=>?_⟩,show n-(i+1)<n-i by omega⟩ U ⟨U,U⟩ U1 rS bL aEn U⟩
  replace hj:j<i+1:=hj
  show Rq (Z' j) (ζ j) W
  by_cases e:j=i
  ·subst e;exact hq.le oM
  exact(hZ' j oM).le oM
 replace h2:¬(i:Int)<(n:Nat):=h2
 obtain rfl:n=i:=Uc
 refine vk ⟨n,⟨U,U,by show 56*n<=_;omega,by simp only[maxLen];omega⟩,?_⟩
 show Sd _ _ _ _ _ _
 refine gJ tSd 2 (rtC n λ_=>U6) U jI.1 jI.2 ?_
 refine bX (λ_=>true) (λg:Nat×(Nat->RatM)×(Nat->RatM)=>bYa n g.1) (λg=>bSx f n g.2.1 g.2.2) (λ_=>[]) (λg=>g.1<=n/\(∀j,j<n-g.1->Rq (g.2.1 j) (ζ j) W)/\(∀j,n-g.1<=j->j<n->Rq (g.2.1 j) (y j) W)/\∀j,n-g.1<=j->j<n->Cr (g.2.2 (cl j)) (y j)/\rb (y j) Xb) (λg=>n-g.1) λhM=>⟨hM (0,Z,λ_=>U6) ⟨aB _,λj hj=>hZ j hj,λj h4 h5=>U4 h4 (by show ¬n-0<=j;omega),λj h4 h5=>U4 h4 (by show ¬n-0<=j;omega)⟩ U ⟨U,U,U⟩ U1 rS bL aEo U,λ⟨k,Z,X⟩ ⟨hk,hZ,hY,hX⟩=>vk ⟨λh2=>vk ?_,λh2=>vk ?_⟩⟩
 all_goals
  replace hk:k<=n:=hk
  replace hZ:∀j,j<n-k->Rq (Z j) (ζ j) W:=hZ
  replace hY:∀j,n-k<=j->j<n->Rq (Z j) (y j) W:=hY
  replace hX:∀j,n-k<=j->j<n->Cr (X (cl j)) (y j)/\rb (y j) Xb:=hX
 ·replace h2:(k:Int)<(n:Nat):=h2
  have hkn:k<n:=Uc
  obtain⟨i,hi⟩:∃i,i=n-1-k:=⟨_,U⟩
  have hin:i<n:=Uc
  have hci:=h.o.clt i hin
  have hix:f.K.l.getD i 0=(cl i:Nat):=by rw[h.K];exact yF hin
  have hK:f.K.l.length=n:=by rw[h.K];simp
  have lU:=h.Ub.ln
  have eU:=h.Ub.row i hin
  obtain⟨hu,hui,hul⟩:=hP.us i hin
  have hpi:=hP.p i hin
  have ln1:(f.Ub.d.l.getD i cG).l.length=(us i).length+1:=by rw[eU.ln,hu];simp
  have a1:((n-1:Nat):Int)=IntKind.i64.wrap ((n:Nat)-1):=wi oM
  have a2:(i:Int)=IntKind.i64.wrap (((n-1:Nat):Int)-(k:Nat)):=wi oM
  refine⟨(n-1:Nat),a1,(i:Nat),a2,i,⟨U,show i<f.Ub.d.l.length by omega⟩,1,⟨U,show 1<=(f.Ub.d.l.getD i cG).l.length by omega⟩,?_⟩
  obtain⟨row,hrow⟩:∃row,row=f.Ub.d.l.getD i cG:=⟨_,U⟩
  rw[<-hrow] at eU ln1
  have hlen:(f.Ub.d.l.getD i cG).l.length-1=(us i).length:=by rw[<-hrow];omega
  have hsz:(((f.Ub.d.l.getD i cG).l.length-1:Nat):Int)=((us i).length:Nat):=by rw[hlen]
  have hsl:CV.r (slA (f.Ub.d.l.getD i cG).A (f.Ub.d.l.getD i cG).c 1 4) ((f.Ub.d.l.getD i cG).l.length-1) ((f.Ub.d.l.getD i cG).c-1) 4 (λj=>((f.Ub.d.l.getD i cG).l.getD (j+1) U6).C)= .r (slA row.A row.c 1 4) (us i).length (row.c-1) 4 λj=>(row.l.getD (j+1) U6).C:=by rw[hlen,hrow]
  show Sd _ _ _ _ _ _
  refine bX (λ_=>true) (λg:Nat×(Nat->RatM)=>cBy n k i (slA row.A row.c 1 4) (row.c-1) (us i).length row g.1) (λg=>bSx f n g.2 X) (λ_=>[]) (λg=>g.1<=(us i).length/\(∀j,j<i->Rq (g.2 j) (ζ j) W)/\(∀j,i<j->j<n->Rq (g.2 j) (y j) W)/\Rq (g.2 i) (ζ i-dtl ((us i).take g.1) y) W/\rb (ζ i-dtl ((us i).take g.1) y) W) (λg=>(us i).length-g.1) λhM2=>⟨hM2 (0,Z) ⟨aB _,λj hj=>hZ j oM,λj h4 h5=>hY j oM h5,?_,?_⟩ U ⟨U,U,U⟩ U1 ?_ bL aEo U,λ⟨t,Z'⟩ ⟨ht,hZ',hY',hq,hqr⟩=>vk ⟨λh3=>vk ?_,λh3=>vk ?_⟩⟩
  ·show Rq (Z i) (ζ i-0) W
   rw[aOv]
   exact hZ i oM
  ·show rb (ζ i-0) W
   rw[aOv]
   exact(hζZ i hin).le oM
  ·exact⟨U,hsl,hsz,U,U5 cF hrow.symm,U,U,U,U,U,U⟩
  all_goals
   replace ht:t<=(us i).length:=ht
   replace hZ':∀j,j<i->Rq (Z' j) (ζ j) W:=hZ'
   replace hY':∀j,i<j->j<n->Rq (Z' j) (y j) W:=hY'
   replace hq:Rq (Z' i) (ζ i-dtl ((us i).take t) y) W:=hq
   replace hqr:rb (ζ i-dtl ((us i).take t) y) W:=hqr
  ·replace h3:(t:Int)<((us i).length:Nat):=h3
   have htl:t<(us i).length:=Uc
   have e0:=hui _ (fN htl)
   have er:=eU.e (t+1) (by rw[hu];simp;omega)
   rw[show(Up i).getD (t+1) U6=(us i).getD t U6 by rw[hu];rfl] at er
   obtain⟨j0,hj0⟩:∃j0:Nat,((us i).getD t U6).1=(j0:Nat):=⟨((us i).getD t U6).1.toNat,Uc⟩
   have hij:i<j0:=Uc
   have hjn:j0<n:=Uc
   have hix0:(row.l.getD (t+1) U6).ix=(j0:Nat):=er.1.trans hj0
   have hev:rb ((us i).getD t U6).2 F:=h.bu i hin _ (by rw[hu];exact .tail _ (fN htl))
   have hz0:=hY' j0 hij hjn
   have hm:=fW hev (hyX j0 hjn)
   have hd:ζ i-dtl ((us i).take (t+1)) y=ζ i-dtl ((us i).take t) y-((us i).getD t U6).2*y j0:=by
    rw[aCy htl,vH,hj0,cN];grind
   have hs':=hp2 i hin (t+1)
   have hk':=aKs (Z' i) (row.l.getD (t+1) U6).v (Z' j0) (B:=W) (hq.le oM) ((Cr.rq er.2 hev).le) (hz0.le oM) (hm.le oM) (by rw[<-hd];exact hs') hq
   rw[<-hd] at hk'
   refine⟨t,⟨U,htl⟩,.seq ((List.range 16).map λi=>(i,i==15)),U0,i,⟨U,hin,eO hin⟩,_,kM hin,j0,⟨hix0,hjn,eO hjn⟩,_,kM hjn,[],hk',U,U,U,λg hg=>⟨i,⟨U,hin,eO hin⟩,_,fQ hin,(t+1:Nat),wi,hM2 (t+1,upd Z' i g) ⟨⟨htl,λj hj=>?_,λj h4 h5=>?_,?_,hs'⟩,show(us i).length-(t+1)<(us i).length-t by omega⟩ U ⟨U,U,U⟩ U1 rS bL aEo U⟩⟩
   ·show Rq (upd Z' i g j) _ _
    rw[aY oM];exact hZ' j hj
   ·show Rq (upd Z' i g j) _ _
    rw[aY oM];exact hY' j h4 h5
   show Rq (upd Z' i g i) _ _
   rw[bF];exact hg
  replace h3:¬(t:Int)<((us i).length:Nat):=h3
  obtain rfl:t=(us i).length:=Uc
  rw[cQ] at hq hqr
  have e2:=eU.e 0 (by rw[hu];simp)
  rw[show(Up i).getD 0 U6=((i:Int),p i) by rw[hu];rfl] at e2
  have hpb:rb (p i) F:=h.bu i hin ((i:Int),p i) (by rw[hu];exact .head _)
  have hpr:Rq (row.l.getD 0 U6).v (p i) F:=Cr.rq e2.2 hpb
  have hpi':rb (p i)⁻¹ F:=hpr.flip.rb h1
  have hyr:rb (y i) Xb:=hyX i hin
  refine vk ?_
  refine⟨.seq ((List.range 16).map λi=>(i,i==15)),U0,i,⟨U,hin,eO hin⟩,_,kM hin,0,⟨U,show 0<row.l.length by omega⟩,[],aRd (Z' i) (row.l.getD 0 U6).v (hq.le oM) (hpr.le) hpi,U,U,U,λg hg=>?_⟩
  replace hg:Cr g (y i):=by rw[ey i hin];exact hg
  have hgq:Rq g (y i) W:=hg.rq (hyr.le oM)
  refine⟨i,⟨U,hin,eO hin⟩,_,fQ hin,?_⟩
  refine⟨.seq ((List.range 12).map λi=>(i,i==11)),U0,i,⟨U,show i<f.K.l.length by omega⟩,i,⟨U,hin,eO hin⟩,_,kM hin,cl i,⟨hix,hci,eO hci⟩,_,fQ hci,(k+1:Nat),wi,hM (k+1,upd Z' i g,upd X (cl i) (upd Z' i g i)) ⟨⟨hkn,λj hj=>?_,λj h4 h5=>?_,λj h4 h5=>?_⟩,show n-(k+1)<n-k by omega⟩ U ⟨U,U,U⟩ U1 rS bL aEo U⟩
  ·replace hj:j<n-(k+1):=hj
   show Rq (upd Z' i g j) _ _
   rw[aY oM];exact hZ' j oM
  ·replace h4:n-(k+1)<=j:=h4
   show Rq (upd Z' i g j) _ W
   by_cases e:j=i
   ·subst e;rw[bF];exact hgq
   rw[aY e];exact(hY' j oM h5).le oM
  replace h4:n-(k+1)<=j:=h4
  show Cr (upd X (cl i) (upd Z' i g i) (cl j)) (y j)/\rb (y j) Xb
  by_cases e:j=i
  ·subst e;rw[bF,bF];exact⟨hg,hyr⟩
  have e2:cl j≠cl i:=λe2=>e (h.o.cinj j i h5 hin e2)
  rw[aY e2]
  have:=hX j oM h5
  exact⟨this.1,this.2.le oM⟩
 replace h2:¬(k:Int)<(n:Nat):=h2
 obtain rfl:n=k:=Uc
 show Sd _ _ _ _ _ _
 refine aTq tSd 0 2 U U bL bL U ⟨_,swl cD,_,swl cD,bL,vk ⟨(X,xv),⟨hsol,λc hc=>?_⟩,fH ⟨U,U⟩ U bL (aA (bG cD) aU) U (aAg cD)⟩⟩
 obtain⟨j,hj,rfl⟩:=pL h.o.clt h.o.cinj c hc
 show Cr (X (cl j)) (xv (cl j))/\rb (xv (cl j)) _
 rw[hxv j hj]
 exact hX j oM hj
theorem iH {f:Nat->Rat} {q:Rat} {n:Nat}:bN (λj=>q*f j) n=q*bN f n:=by
 have:=kZ (f:=λ_=>(0:Rat)) (g:=f) (q:=q) (n:=n)
 rw[fF λ_ _=>U,fY] at this
 rw[<-this]
 exact aZ λj _=>by grind
theorem qZ {f g:Nat->Rat} {n:Nat}:bN (λj=>f j+g j) n=bN f n+bN g n:=by
 have:=kZ (f:=f) (g:=g) (q:=1) (n:=n)
 rw[iY] at this
 rw[<-this]
 exact aZ λj _=>by grind
theorem qI {f:Nat->Nat->Rat} {m:Nat}:∀{n:Nat},bN (λi=>bN (f i) m) n=bN (λj=>bN (λi=>f i j) n) m
 |0=>(fF λ_ _=>U).symm
 |n+1=>by
  show bN (λi=>bN (f i) m) n+bN (f n) m=bN (λj=>bN (λi=>f i j) n+f n j) m
  rw[qI,qZ]
theorem vK {f:Nat->Rat} {m:Nat}:∀{n:Nat},m<=n->(∀j,m<=j->j<n->f j=0)->bN f n=bN f m
 |0,h,_=>by rw[Nat.le_zero.1 h]
 |n+1,h,h0=>by
  by_cases e:m=n+1
  ·rw[e]
  show bN f n+f n=_
  rw[vK oM λj h1 h2=>h0 j h1 oM,h0 n oM (aS n),bK]
theorem aPa {f:Nat->Rat}:∀(n:Nat),bN f n=dtl ((List.range n).map λi:Nat=>((i:Int),(1:Rat))) f
 |0=>rfl
 |n+1=>by
  rw[gR,bA,aEm,<-aPa n]
  show _+_=_+((1:Rat)*f (Int.toNat (n:Nat))+0)
  rw[cN,iY,bK]
theorem aIl {f:Nat->Rat} {n:Nat} {r:Nat->Nat} (h:∀j,j<n->r j<n) (hi:∀i j,i<n->j<n->r i=r j->i=j):bN (λk=>f (r k)) n=bN f n:=by
 have h1:dtl ((List.range n).map λk:Nat=>(((r k:Nat):Int),(1:Rat))) f=bN (λk=>f (r k)) n:=by
  clear h hi
  induction n with
  |zero=>rfl
  |succ n ih=>
   rw[gR,bA,aEm,ih]
   show _+((1:Rat)*f (Int.toNat (r n:Nat))+0)=_+_
   rw[cN,iY,bK]
 rw[<-h1,aPa]
 refine aOu ((List.perm_ext_iff_of_nodup ?_ ?_).2 λe=>?_)
 ·rw[cT,gI]
  refine(cT.1 mH).imp_of_mem λ{a b} ha hb hab he=>hab (hi a b (cJ.1 ha) (cJ.1 hb) (by injection he with he;exact jY he))
 ·rw[cT,gI]
  exact(cT.1 mH).imp λhab he=>hab (by injection he with he;exact jY he)
 rw[bZ,bZ]
 constructor
 ·rintro⟨k,hk,rfl⟩;exact⟨r k,cJ.2 (h k (cJ.1 hk)),U⟩
 rintro⟨i,hk,rfl⟩
 obtain⟨j,hj,rfl⟩:=pL h hi i (cJ.1 hk)
 exact⟨j,cJ.2 hj,U⟩
theorem yK (a:Rat):a-0=a:=by grind
def fwT (us:Nat->List En) (p:Nat->Rat) (c:Nat->Rat):Nat->Nat->Rat
 |0=>c
 |i+1=>λj=>if j=i then fwT us p c i i/p i else fwT us p c i j-Vm.get (us i) (j:Nat)*(fwT us p c i i/p i)
def bkT (lo:Nat->List En) (n:Nat) (y:Nat->Rat):Nat->Nat->Rat
 |0=>y
 |k+1=>λj=>bkT lo n y k j-Vm.get (lo (n-1-k)) (j:Nat)*bkT lo n y k (n-1-k)
section
variable {n:Nat} {Lw Up lo us:Nat->List En} {p c y:Nat->Rat} (hP:LuP n Lw Up lo us p)
include hP
theorem bTi {i j:Nat} (hi:i<n) (hj:j<=i):Vm.get (us i) (j:Nat)=0:=get_none λe he h=>by have:=((hP.us i hi).2.1 e he).1;omega
theorem cCh {i j:Nat} (hi:i<n) (hj:i<=j):Vm.get (lo i) (j:Nat)=0:=get_none λe he h=>by have:=((hP.lo i hi).2.2 e he).2.1;omega
theorem bEu {i j:Nat} (hi:i<n):Vm.get (Up i) (j:Nat)=if j=i then p i else Vm.get (us i) (j:Nat):=by
 rw[(hP.us i hi).1,vI]
 by_cases e:j=i
 ·subst e;rw[U3 U,U3 U,bTi hP hi (aH _),bK]
 rw[U2 e,U2 (by show ¬(i:Int)=(j:Nat);omega),fY]
theorem bYs {i j:Nat} (hi:i<n):Vm.get (Lw i) (j:Nat)=Vm.get (lo i) (j:Nat)+if j=i then 1 else 0:=by
 rw[(hP.lo i hi).1,get_append,vI]
 show _+((if (i:Int)=(j:Nat) then (1:Rat) else 0)+0)=_
 by_cases e:j=i
 ·subst e;rw[U3 U,U3 U,bK]
 rw[U2 e,U2 oM,bK]
theorem aDc {j:Nat}:∀{k:Nat},j<k->k<=n->fwT us p c k j=fwT us p c j j/p j
 |0,h,_=>U4 h (aF _)
 |k+1,h,hk=>by
  by_cases e:j=k
  ·subst e;exact U3 U
  show(if j=k then _ else _)=_
  rw[U2 e,bTi hP oM oM,dL,yK,aDc oM oM]
theorem aLm {j:Nat} (hj:j<n):∀{k:Nat},k<=j->fwT us p c k j+bN (λi=>fwT us p c n i*Vm.get (Up i) (j:Nat)) k=c j
 |0,_=>by show c j+(0:Rat)=_;rw[bK]
 |k+1,hk=>by
  rw[<-aLm hj (k:=k) oM]
  show(if j=k then _ else _)+(bN _ k+_*_)=_
  rw[U2 oM,aDc hP (j:=k) oM (aH n),bEu hP oM,U2 oM]
  grind
theorem bKt {j:Nat} (hj:j<n):bN (λi=>fwT us p c n i*Vm.get (Up i) (j:Nat)) n=c j:=by
 have h1:=aLm hP (c:=c) hj (aH j)
 rw[vK (m:=j+1) oM λi h1 h2=>by rw[bEu hP h2,U2 oM,bTi hP h2 oM,bU]]
 show bN _ j+_*_=_
 rw[bEu hP hj,U3 U,aDc hP hj (aH n),<-h1,iJ,qO,fM _ (hP.p j hj)]
 grind
theorem aLn {j k:Nat} (hj:j<n):∀{d:Nat},n-1-k<=j->k+d<=n->bkT lo n y (k+d) j=bkT lo n y k j
 |0,_,_=>rfl
 |d+1,h,hk=>by
  show bkT lo n y (k+d) j-Vm.get (lo (n-1-(k+d))) (j:Nat)*bkT lo n y (k+d) (n-1-(k+d))=_
  rw[cCh hP oM oM,dL,yK,aLn hj h oM]
theorem aLo {j:Nat}:∀{k:Nat},k<=n->bkT lo n y k j+bN (λi=>if n-k<=i then bkT lo n y n i*Vm.get (lo i) (j:Nat) else 0) n=y j
 |0,_=>by rw[fF λi hi=>U2 oM,bK];rfl
 |k+1,hk=>by
  rw[<-aLo (k:=k) oM]
  have e1:bN (λi=>if n-(k+1)<=i then bkT lo n y n i*Vm.get (lo i) (j:Nat) else 0) n=bN (λi=>(if n-k<=i then bkT lo n y n i*Vm.get (lo i) (j:Nat) else 0)+(if i=n-1-k then bkT lo n y n i*Vm.get (lo i) (j:Nat) else 0)) n:=aZ λi hi=>by
   by_cases e2:n-k<=i
   ·rw[U3 e2,U3 oM,U2 oM,bK]
   rw[U2 e2]
   by_cases e3:i=n-1-k
   ·rw[U3 e3,U3 oM,fY]
   rw[U2 e3,U2 oM,bK]
  have e2:bkT lo n y n (n-1-k)=bkT lo n y k (n-1-k):=by
   have:=aLn hP (y:=y) (j:=n-1-k) (k:=k) oM (d:=n-k) (aH _) oM
   rwa [show k+(n-k)=n by omega] at this
  rw[e1,qZ,iZ (f:=λi=>if i=n-1-k then bkT lo n y n i*Vm.get (lo i) (j:Nat) else 0) (m:=n-1-k) oM λi hi=>U2 hi,U3 U,e2]
  show bkT lo n y k j-_*_+_=_
  grind
theorem aUs {j:Nat} (hj:j<n):bN (λi=>bkT lo n y n i*Vm.get (Lw i) (j:Nat)) n=y j:=by
 rw[<-aLo hP (y:=y) (j:=j) (aH n)]
 have e1:bN (λi=>bkT lo n y n i*Vm.get (Lw i) (j:Nat)) n=bN (λi=>(if n-n<=i then bkT lo n y n i*Vm.get (lo i) (j:Nat) else 0)+(if i=j then bkT lo n y n i else 0)) n:=aZ λi hi=>by
  rw[bYs hP hi,show(if n-n<=i then bkT lo n y n i*Vm.get (lo i) (j:Nat) else 0)=bkT lo n y n i*Vm.get (lo i) (j:Nat) from U3 oM]
  by_cases e:i=j
  ·subst e;rw[U3 U,U3 U];grind
  rw[U2 e,U2 (gU e)];grind
 rw[e1,qZ,iZ (f:=λi=>if i=j then bkT lo n y n i else 0) hj λi hi=>U2 hi,U3 U]
 grind
end
def TEq (a:Nat->Nat->Rat) (n:Nat) (c y:Nat->Rat):Prop:=∀j,j<n->bN (λr=>y r*a r j) n=c j
theorem aPb {n j:Nat} {es:List En} (hj:j<n):dtn n es (λi=>if i=j then 1 else 0)=Vm.get es (j:Nat):=by
 show bN (λi=>Vm.get es (i:Nat)*(if i=j then 1 else 0)) n=_
 rw[iZ (m:=j) hj λi hi=>by rw[U2 hi,bU],U3 U,nX]
theorem LuOk.solT {M:Nat->List En} {n:Nat} {rw cl:Nat->Nat} {Lw Up lo us:Nat->List En} {p:Nat->Rat} (h:LuOk M n rw cl Lw Up) (hP:LuP n Lw Up lo us p) {c xv:Nat->Rat} (hx:∀i,i<n->xv (rw i)=bkT lo n (fwT us p (λj=>c (cl j)) n) n i):TEq (enM M) n c xv:=λq hq=>by
 obtain⟨j,hj,rfl⟩:=pL h.clt h.cinj q hq
 have e1:∀k,k<n->Vm.get (M (rw k)) (cl j:Nat)=bN (λi=>Vm.get (Lw k) (i:Nat)*Vm.get (Up i) (j:Nat)) n:=λk hk=>by
  have:=h.eq k hk λi=>if i=cl j then 1 else 0
  rw[aPb hq,tW λe he=>?_] at this
  ·rw[this]
   refine aZ λi hi=>?_
   rw[<-aPb (es:=Up i) hj]
   exact U5 (Vm.get (Lw k) (i:Nat)*·) (aZ λt ht=>by
    show _*(if cl t=cl j then (1:Rat) else 0)=_*(if t=j then (1:Rat) else 0)
    by_cases e:t=j
    ·subst e;rw[U3 U,U3 U]
    rw[U2 e,U2 λe2=>e (h.cinj t j ht hj e2)])
  rw[(hP.lo k hk).1] at he
  rcases aO.1 he with he|he
  ·have:=(hP.lo k hk).2.2 e he;omega
  rw[aE.1 he];exact⟨by show(0:Int)<=(k:Nat);omega,by show(k:Int)<_;omega⟩
 rw[<-aIl (f:=λr=>xv r*enM M r (cl j)) h.rlt h.rinj]
 have e2:bN (λk=>xv (rw k)*enM M (rw k) (cl j)) n=bN (λk=>bN (λi=>bkT lo n (fwT us p (λj=>c (cl j)) n) n k*Vm.get (Lw k) (i:Nat)*Vm.get (Up i) (j:Nat)) n) n:=aZ λk hk=>by
  rw[hx k hk,show enM M (rw k) (cl j)=_ from e1 k hk,<-iH]
  exact aZ λi _=>by grind
 have e3:bN (λi=>bN (λk=>bkT lo n (fwT us p (λj=>c (cl j)) n) n k*Vm.get (Lw k) (i:Nat)*Vm.get (Up i) (j:Nat)) n) n=bN (λi=>fwT us p (λj=>c (cl j)) n i*Vm.get (Up i) (j:Nat)) n:=aZ λi hi=>by
  rw[<-aUs hP (y:=fwT us p (λj=>c (cl j)) n) hi,Rat.mul_comm,<-iH]
  exact aZ λk _=>by grind
 rw[e2,qI,e3,bKt hP hj]
def NS (a:Nat->Nat->Rat) (n:Nat):Prop:=∀b,∃x,SolA a n b x
theorem TEq.dot {a:Nat->Nat->Rat} {n:Nat} {b c x y:Nat->Rat} (h:TEq a n c y) (hx:∀r,r<n->bN (λj=>a r j*x j) n=b r):bN (λr=>y r*b r) n=bN (λj=>c j*x j) n:=by
 have e1:bN (λr=>y r*b r) n=bN (λr=>bN (λj=>y r*a r j*x j) n) n:=aZ λr hr=>by
  rw[<-hx r hr,<-iH]
  exact aZ λj _=>by grind
 rw[e1,qI]
 exact aZ λj hj=>by
  rw[<-h j hj,Rat.mul_comm,<-iH]
  exact aZ λr _=>by grind
theorem aIm {f:Nat->Rat} {n k:Nat} (hk:k<n):bN (λr=>f r*(if r=k then 1 else 0)) n=f k:=by
 rw[iZ (m:=k) hk λj hj=>by rw[U2 hj,bU],U3 U,nX]
theorem TEq.uniq {a:Nat->Nat->Rat} {n:Nat} {c y y':Nat->Rat} (hN:NS a n) (h:TEq a n c y) (h':TEq a n c y'):∀k,k<n->y k=y' k:=λk hk=>by
 obtain⟨x,hx⟩:=hN λr=>if r=k then 1 else 0
 have h1:=h.dot hx.eq
 have h2:=h'.dot hx.eq
 rw[aIm hk] at h1 h2
 rw[h1,h2]
theorem aBw {g:Nat->Rat} {b:Nat} (h0:1<=b):∀{m:Nat},(∀j,j<m->rb (g j) b)->rb (bN g m) (1+m*(b+1))
 |0,_=>by rw[Nat.zero_mul];exact⟨by show len 0<=1;decide,by show len 1<=1;decide⟩
 |m+1,h=>by
  have:=wL (aBw h0 (m:=m) λj hj=>h j oM) (h m oM)
  exact this.le (by rw[dH];omega)
def sqX (l:List Nat) (n:Nat):List (Nat×Bool):=(List.range n).map λi=>(i,l.contains i)
theorem bYt (d:Sl Int) (p:Nat) (hd:d.l.length<=9223372036854775807) (hp:p<=d.l.length):Ctr pgQ 82 [true] [.c (.p 0 0)] (tpB d p) (λg:RatM×Rat×Nat=>⟨.a g.1.C,tpB d g.2.2,((Cr g.1 g.2.1/\g.2.1≠0)/\rb g.2.1 1)/\g.2.2<=d.l.length⟩):=by
 have last:∀n s:Int,n≠0->-6<=n->n<=6->0<=s->s<3->Rat.divInt n (1+s)≠0/\rb (Rat.divInt n (1+s)) 1:=λn s h1 h2 h3 h4 h5=>⟨λh=>h1 (by
  have h6:=sZ n (1+s)
  rw[h,show(1+s).sign=1 from pW oM,uD] at h6
  have h7:n=n/((1+s).gcd n:Int)*((1+s).gcd n:Int):=(Int.ediv_mul_cancel (Int.gcd_dvd_right ..)).symm
  rw[h7,<-h6];exact Int.zero_mul _),aOo oM oM⟩
 refine gA gT (eo func82) func82 U U U bL (eW U) (vk ⟨[0],oC d p 12 hd hp dC dC,U,U,U,λr hr=>⟨r.1-6,wi (h:=⟨U,by have:=hr.1;omega,by have:=hr.1;omega⟩),⟨λh1=>vk ⟨r.1-6+1,wi (h:=⟨U,by have:=hr.1;omega,by have:=hr.1;omega⟩),?_⟩,λh1=>vk ?_⟩⟩⟩)
 ·replace h1:0<=r.1-6:=h1
  refine⟨[0],oC d r.2 3 hd hr.2 dC dC,U,U,U,λs hs=>⟨1+s.1,wi (h:=⟨U,by have:=hs.1;omega,by have:=hs.1;omega⟩),[],bCs (by have:=hr.1;omega) (by have:=hs.1;omega),U,U,U,λg hg=>⟨(g,Rat.divInt (r.1-6+1) (1+s.1),s.2),⟨⟨⟨hg,?_⟩,?_⟩,hs.2⟩,fH U U bL (aA U aU) U (eW U)⟩⟩⟩
  ·exact(last _ _ oM oM (by have:=hr.1;omega) hs.1.1 hs.1.2).1
  exact(last _ _ oM oM (by have:=hr.1;omega) hs.1.1 hs.1.2).2
 replace h1:¬0<=r.1-6:=h1
 refine⟨[0],oC d r.2 3 hd hr.2 dC dC,U,U,U,λs hs=>⟨1+s.1,wi (h:=⟨U,by have:=hs.1;omega,by have:=hs.1;omega⟩),[],bCs (by have:=hr.1;omega) (by have:=hs.1;omega),U,U,U,λg hg=>⟨(g,Rat.divInt (r.1-6) (1+s.1),s.2),⟨⟨⟨hg,?_⟩,?_⟩,hs.2⟩,fH U U bL (aA U aU) U (eW U)⟩⟩⟩
 ·exact(last _ _ oM (by have:=hr.1;omega) oM hs.1.1 hs.1.2).1
 exact(last _ _ oM (by have:=hr.1;omega) oM hs.1.1 hs.1.2).2
theorem bYu (b:Bool):LeC (.v (.bool b)) (.b (b=true) inferInstance):=λD n w x h=>by
 rw[h.inv_v]
 have h1:Rc (Zf D n w) w (.b (b=true) inferInstance) (.bool (decide (b=true))):=Rc.b _ _
 have h2:decide (b=true)=b:=by cases b<;>rfl
 rw[h2] at h1
 exact h1
abbrev LeL (l l':List CV):Prop:=∀(k:Nat) (c c':CV),l[k]? =some c->l'[k]? =some c'->LeC c c'
theorem LeL.refl (l:List CV):LeL l l:=λk c c' h1 h2=>by rw[h1] at h2;injection h2 with h2;subst h2;exact fE _
theorem LeL.cons {c c':CV} {l l':List CV} (h:LeC c c') (hl:LeL l l'):LeL (c::l) (c'::l')
 |0,a,a',h1,h2=>by injection h1 with h1;injection h2 with h2;subst h1 h2;exact h
 |k+1,a,a',h1,h2=>hl k a a' h1 h2
theorem aUt {P:Program} {nb N:Nat} {cd:Code} {K:Kt} {s:SS} (i:Nat) {T es:Nat} {l:List CV} (l':List CV) (hb:s.bl[i]? =some (T,es,l)) (hl:l'.length=l.length) (hc:LeL l l') (h:nK s.bl i (T,es,l') λbl'=>Sd P nb N cd K ⟨s.sl,s.gl,bl',s.fl⟩):Sd P nb N cd K s:=gJ tSd i l' hb hl hc h
def bV:Bool->CV
 |true=> .v (.bool true)
 |false=> .b (false=true) inferInstance
theorem bNx (b:Bool):LeC (bV b) (.b (b=true) inferInstance):=by
 cases b with
 |true=>exact bYu true
 |false=>exact fE _
abbrev bEv (k:RatM) (b:Bool) (l:RatM) (c:Bool) (u:RatM):ColM:=⟨k,b=true,inferInstance,l,c=true,inferInstance,u⟩
abbrev bEw (k:RatM) (b:Bool) (l:RatM) (c:Bool) (u:RatM):List CV:=[.b k.n.p k.n.d,eI k.n.m,eI k.d,bV b,.b l.n.p l.n.d,eI l.n.m,eI l.d,bV c,.b u.n.p u.n.d,eI u.n.m,eI u.d]
abbrev cCi:List CV:=[.b (false=true) inferInstance,.v (.slice none 0 0),.v (.slice none 0 0),.b (false=true) inferInstance,.b (false=true) inferInstance,.v (.slice none 0 0),.v (.slice none 0 0),.b (false=true) inferInstance,.b (false=true) inferInstance,.v (.slice none 0 0),.v (.slice none 0 0)]
theorem bKu {k:RatM} {b:Bool} {l:RatM} {c:Bool} {u:RatM}:LeL (bEw k b l c u) (bEv k b l c u).C:=.cons (fE _) (.cons (fE _) (.cons (fE _) (.cons (bNx b) (.cons (fE _) (.cons (fE _) (.cons (fE _) (.cons (bNx c) (LeL.refl _))))))))
abbrev tcB (d:Sl Int) (q:Nat) (l:List CV):BL:=[(39,0,[cI d,iC q]),(67,0,cCi),(67,0,l)]
theorem bKv {g:RatM}:LeL ([.b g.n.p g.n.d,eI g.n.m,eI g.d,.b (false=true) inferInstance,.b (false=true) inferInstance,.v (.slice none 0 0),.v (.slice none 0 0),.b (false=true) inferInstance,.b (false=true) inferInstance,.v (.slice none 0 0),.v (.slice none 0 0)]) (bEw g false U6 false U6):=.cons (fE _) (.cons (fE _) (.cons (fE _) (.cons (fE _) (.cons (fE _) (.cons qW (.cons qW (.cons (fE _) (.cons (fE _) (.cons qW (.cons qW (LeL.refl _)))))))))))
theorem bEx {n:Int} (h0:0<=n) (h:n<=1000):rb (n:Rat) 1:=⟨by rw[Rat.num_intCast];exact aJ (fR (show n.natAbs<=1000 by omega)) dC,by rw[Rat.den_intCast];decide⟩
theorem CtrF.ld {P:Program} {q:FuncId} {cl:List Bool} {al:List DV} {bl:BL} {fl:List Fam} {σ τ:Type} {R:σ->OutF} {R':τ->OutF} (h:CtrF P q cl al bl fl R) (hp:∀g,(R g).C->∃g',(R' g').C/\(∀D n w v,Hd D n w (R g).d v->Hd D n w (R' g').d v)/\(R' g').bl=(R g).bl/\(R' g').fl=(R g).fl):CtrF P q cl al bl fl R':=
 ⟨h.ent,h.clb,λD w vals hv hD hF=>(h.run D w vals hv hD hF).mono λe w' ⟨v,he,g,ρ',hC,hDr,hdv,hclr,hFr⟩=>by
  obtain⟨g',h1,h2,h3,h4⟩:=hp g hC
  exact⟨v,he,g',ρ',h1,by rw[h3];exact hDr,by rw[h3];exact h2 _ _ _ _ hdv,by rw[h3];exact hclr,by rw[h4];exact hFr⟩⟩
theorem LeL.hd {l l':List CV} (h:LeL l l') (hl:l'.length=l.length) {D:Pl} {n:Nat} {w:World} {v:Value} (hv:Hd D n w (.a l) v):Hd D n w (.a l') v:=by
 cases hv with
 |a hv=>exact .a (hv.le hl h)
structure ColV where
 k:RatM
 pl:Bool
 l:RatM
 pu:Bool
 u:RatM
 kq:Rat
 lq:Rat
 uq:Rat
 p:Nat
abbrev ColV.W (g:ColV):List CV:=bEw g.k g.pl g.l g.pu g.u
abbrev ColV.M (g:ColV):ColM:=bEv g.k g.pl g.l g.pu g.u
structure ColVR (d:Sl Int) (g:ColV):Prop where
 r:ColR g.M g.kq g.lq g.uq 3
 x:¬Crs g.M g.lq g.uq
 k:rb g.kq 3
 l:rb g.lq 3
 u:rb g.uq 3
 p:g.p<=d.l.length
 kc:Cr g.k g.kq
theorem bTj (d:Sl Int) (p:Nat) (hd:d.l.length<=9223372036854775807) (hp:p<=d.l.length):Ctr pgQ 37 [true] [.c (.p 0 0)] (tpB d p) (λg:ColV=>⟨.a g.W,tpB d g.p,ColVR d g⟩):=by
 have z1:rb (0:Rat) 1:=⟨by decide,by decide⟩
 have z3:rb (0:Rat) 3:=z1.le dC
 refine gA gT (eo func37) func37 U U U bL (eW U) (Sd.sq (vk (Sd.sq (vk ⟨[0],aRg d p hd hp,U,U,U,λg1 ⟨⟨hg,hgb⟩,hp1⟩=>aUt 2 (bEw g1.1 false U6 false U6) U U bKv (vk ⟨[0],oC d g1.2.2 6 hd hp1 dC dC,U,U,U,λk ⟨hk,hp2⟩=>?_⟩)⟩))))
 have fin:∀(l:RatM) (lq:Rat) (u:RatM) (uq:Rat) (b c:Bool) (q:Nat),Rq l lq 3->Rq u uq 3->rb lq 3->rb uq 3->(c=true->lq<=uq)->q<=d.l.length->ColVR d ⟨g1.1,b,l,c,u,g1.2.1,lq,uq,q⟩:=λl lq u uq b c q hl hu bl bu hlu hq=>
  ⟨⟨Cr.rq hg (hgb.le dC),hl,hu⟩,λ⟨⟨_,hc⟩,hlt⟩=>U4 hlt (by have:=hlu hc;grind),hgb.le dC,bl,bu,hq,hg⟩
 refine vjn (λ_=>true) (λ_:Bool×RatM×Rat×Nat=>[(4,.c (iC k.1)),(0,.c (.p 0 0)),(2,.c (.p 1 0)),(3,.c (.p 2 0))]) (λx=>tcB d x.2.2.2 (bEw g1.1 x.1 x.2.1 false U6)) (λx=>Rq x.2.1 x.2.2.1 1/\rb x.2.2.1 1/\x.2.2.2<=d.l.length) ?_
 refine⟨⟨λh1=>vk ⟨λh2=>vk ⟨[0],aRg d k.2 hd hp2,U,U,U,λg2 ⟨⟨hg2,hb2⟩,hp3⟩=>⟨(true,g2.1,g2.2.1,g2.2.2),⟨Cr.rq hg2 hb2,hb2,hp3⟩,U,U,U,U,U,U⟩⟩,λh2=>vk ⟨(true,U6,0,k.2),⟨wI,z1,hp2⟩,U,U,U,U,U,U⟩⟩,λh1=>vk ⟨(false,U6,0,k.2),⟨wI,z1,hp2⟩,U,U,U,U,U,U⟩⟩,λ⟨b,l,lq,q⟩ ⟨hl,bl,hq⟩=>?_⟩
 have hb3:∀r:Int,0<=r/\r<5->rb (lq+(r:Rat)) 3:=λr hr=>(wL bl (bEx hr.1 oM)).le dC
 have hf3:∀(r:Int) (u:RatM) (b:Bool) (q:Nat),0<=r/\r<5->Cr u (lq+(r:Rat))->q<=d.l.length->ColVR d ⟨g1.1,b,l,true,u,g1.2.1,lq,lq+(r:Rat),q⟩:=λr u b q hr hu hq=>fin _ _ _ _ _ _ _ (hl.le dC) (Cr.rq hu (hb3 r hr)) (bl.le dC) (hb3 r hr) (λ_=>by
  have:(0:Rat)<=(r:Rat):=by exact_mod_cast hr.1
  grind) hq
 cases b
 all_goals
  exact⟨λh3=>vk ⟨.treeX [] [2000,1,2002,2006] (trS [3,4,5,1007,2008,1009]),U0,[0],oC d q 5 hd hq dC dC,U,U,U,λr ⟨hr,hp3⟩=>⟨U,[],tS (z:=r.1) oM,U,U,U,λf hf=>⟨U,[],aGh l f (hl.le dC) (Cr.rq hf ((bEx hr.1 oM).le dC)),U,U,U,λu hu=>⟨U,⟨g1.1,_,l,true,u,g1.2.1,lq,lq+(r.1:Rat),r.2⟩,hf3 r.1 u _ r.2 hr hu hp3,fH U U bL (aA U aU) U (eW U)⟩⟩⟩⟩,λh3=>vk ⟨⟨g1.1,_,l,false,U6,g1.2.1,lq,0,q⟩,fin _ _ _ _ _ _ _ (hl.le dC) wI (bl.le dC) z3 (λh=>by cases h) hq,fH U U bL (aA U aU) U (eW U)⟩⟩
theorem bTk (d:Sl Int) (p:Nat) (hd:d.l.length<=9223372036854775807) (hp:p<=d.l.length):Ctr pgQ 37 [true] [.c (.p 0 0)] (tpB d p) (λg:ColV=>⟨.a g.M.C,tpB d g.p,ColVR d g⟩):=CtrF.ld (bTj d p hd hp) λg hg=>⟨g,hg,λ_ _ _ _ h=>LeL.hd bKu U h,U,U⟩
theorem sS {P:Program} {nb N:Nat} {cd:Code} {K:Kt} {s:SS} (i k T es:Nat) {T0 e0:Nat} {l:List CV} (hb:s.bl[i]? =some (T0,e0,l)) (hk:l[k]? =some (.v (.slice none 0 0))) (hes:0<es) (hgl:s.gl=[]) (h:nK s.bl i (T0,e0,l.set k (.s (cnt s.bl 0) 0)) λb1=>rO b1 (T,es,[]) λbl'=>Sd P nb N cd K ⟨s.sl,[],bl',s.fl⟩):Sd P nb N cd K s:=bMx tSd i k T es hb hk hes hgl h
theorem VOk.le {es:List En} {a b:Int} (h:VOk es a) (hab:a<=b):VOk es b:=⟨h.1,λe he=>⟨(h.2 e he).1,Int.lt_of_lt_of_le (h.2 e he).2.1 hab,(h.2 e he).2.2⟩⟩
theorem VOk.snoc {es:List En} {k:Nat} {q:Rat} (h:VOk es (k:Nat)) (hq:q≠0):VOk (es++[((k:Int),q)]) ((k+1:Nat):Int):=⟨eR.2 ⟨h.1,eK _ _,λe he x hx=>by rw[aE.1 hx];exact(h.2 e he).2.1⟩,λe he=>by
 rcases aO.1 he with he|he
 ·have:=h.2 e he
  exact⟨this.1,Uc,this.2.2⟩
 rw[aE.1 he];exact⟨by show(0:Int)<=(k:Nat);omega,by show(k:Int)<_;omega,hq⟩⟩
structure RwS (r:RowM) (b:Rat) (es:List En) (n:Nat):Prop where
 rd:RowR r b es 1
 s:Sns r.s
 v:VOk es (n:Nat)
 bc:Cr r.b b
 b:rb b 1
 e:rbE es 1
 ln:es.length<=n
abbrev cCj:List CV:=[iC 0,.b (false=true) inferInstance,.v (.slice none 0 0),.v (.slice none 0 0),.v (.slice none 0 0)]
abbrev bYv (d:Sl Int) (q:Nat) (s:Int) (b:RatM) (L:List EntM):BL:=[(39,0,[cI d,iC q]),(59,0,cCj),(59,0,[iC s,.b b.n.p b.n.d,eI b.n.m,eI b.d,.s 3 L.length]),(75,4,ecs L)]
theorem aLp {d:Sl Int} {q:Nat} {s:Int} {b:RatM} {L:List EntM}:scB 4 (bYv d q s b L):=aA U (aA U (aA U (aA (bG (iB L)) aU)))
abbrev cCk (n k:Nat):List (Nat×DV):=[(6,.c (iC k)),(0,.c (.p 0 0)),(1,.c (iC n)),(4,.c (.p 1 0)),(5,.c (.p 2 0))]
theorem bYw {T:Nat} {A:Option Nat} {a:Nat} {L:List EntM}:FrC ⟨T,4,1,λ_=>A,λ_=>a,λ_=>ecs L⟩ (.h A L.length a) (cF ⟨A.map λb=>⟨b,0,none⟩,a,L⟩):=⟨0,L.length,_,bL,U,U,(iA _).symm,λk hk=>sP L k hk⟩
theorem bTl (d:Sl Int) (p n:Nat) (hd:d.l.length<=9223372036854775807) (hp:p<=d.l.length) (hn:n<=1000):Ctr pgQ 38 [true] [.c (.p 0 0),.c (iC n)] (tpB d p) (λg:RowM×(Rat×List En)×Nat=>⟨.a g.1.C,tpB d g.2.2,RwS g.1 g.2.1.1 g.2.1.2 n/\g.2.2<=d.l.length⟩):=by
 refine gA gT (eo func38) func38 U U U bL (eW U) (Sd.sq (vk (Sd.sq (vk ⟨[0],oC d p 3 hd hp dC dC,U,U,U,λs ⟨hs,hp1⟩=>⟨s.1-1,wi (h:=⟨U,Uc,Uc⟩),[0],aRg d s.2 hd hp1,U,U,U,λg1 ⟨⟨hg,hgb⟩,hp2⟩=>sS 2 4 75 4 U U bL U (vk ?_)⟩⟩))))
 refine bX (λ_=>true) (λg:Nat×List EntM×List En×Nat=>cCk n g.1) (λg=>bYv d g.2.2.2 (s.1-1) g1.1 g.2.1) (λ_=>[]) (λg=>(g.1<=n/\Ek g.2.1 g.2.2.1)/\(VOk g.2.2.1 (g.1:Nat)/\rbE g.2.2.1 1/\g.2.2.1.length<=g.1)/\g.2.2.2<=d.l.length) (λg=>n-g.1) λhM=>⟨hM (0,[],[],g1.2.2) ⟨⟨aB _,⟨U,λk hk=>U4 hk (aF _)⟩⟩,⟨⟨List.Pairwise.nil,λe he=>(by cases he)⟩,λe he=>(by cases he),aH _⟩,hp2⟩ U rS trivial rS bL aLp U,λ⟨k,L,es,q⟩ ⟨⟨hk,hL⟩,⟨hv,hb,hl⟩,hq⟩=>vk ⟨λh1=>vk ?_,λh1=>vk ?_⟩⟩
 all_goals
  replace hk:k<=n:=hk
  replace hL:Ek L es:=hL
  replace hv:VOk es (k:Nat):=hv
  replace hb:rbE es 1:=hb
  replace hl:es.length<=k:=hl
  replace hq:q<=d.l.length:=hq
  have hLl:=hL.ln
 ·have hkn:k<n:=by replace h1:(k:Int)<(n:Nat):=h1;omega
  refine⟨[0],oC d q 3 hd hq dC dC,U,U,U,λr ⟨hr,hr2⟩=>⟨λh2=>vk ⟨.treeX [] [2000,1,2002,2003] (trS [4,2005,6,1007,2008,1009]),U0,[0],bYt d r.2 hd hr2,U,U,U,λg2 ⟨⟨⟨hg2,hz2⟩,hb2⟩,hp3⟩=>⟨U,U,⟨U,(by rw[iA]),by show L.length+1<=maxLen;simp only[maxLen];omega,by show(L.length+1)*64<=_;omega,λc hc=>(aO.1 hc).elim (λh=>bJ (iB L c h)) (mT ⟨k,g2.1⟩ c)⟩,mT ⟨k,g2.1⟩,(k+1:Nat),wi,hM (k+1,L++[⟨k,g2.1⟩],es++[((k:Int),g2.2.1)],g2.2.2) ⟨⟨⟨hkn,wK hL hg2⟩,⟨hv.snoc hz2,?_,by show(es++[_]).length<=k+1;simp;omega⟩,hp3⟩,show n-(k+1)<n-k by omega⟩ U ⟨U,U,?_,?_⟩ U1 rS bL aLp U⟩⟩,λh2=>vk ⟨(k+1:Nat),wi,hM (k+1,L,es,r.2) ⟨⟨⟨hkn,hL⟩,⟨hv.le oM,hb,Nat.le_succ_of_le hl⟩,hr2⟩,show n-(k+1)<n-k by omega⟩ U rS trivial rS bL aLp U⟩⟩⟩
  ·intro e he
   rcases aO.1 he with he|he
   ·exact hb e he
   rw[aE.1 he];exact hb2
  ·show(_,_,[_,_,_,_,CV.s 3 (L.length+1)])=(_,_,[_,_,_,_,CV.s 3 (L++[_]).length])
   rw[aD];rfl
  show(_,_,_)=(_,_,_)
  rw[<-qV];rfl
 have hkn:k=n:=by replace h1:¬(k:Int)<(n:Nat):=h1;omega
 subst hkn
 show Sd _ _ _ _ _ _
 refine kT tSd 3 U bL (iB L) bL U λA a=>jQ tSd 2 0 [iC (s.1-1),.b g1.1.n.p g1.1.n.d,eI g1.1.n.m,eI g1.1.d,cF ⟨A.map λb=>⟨b,0,none⟩,a,L⟩] U U U U (qD (k0:=4) U bYw) ?_
 exact vk ⟨(⟨s.1-1,g1.1,⟨A.map λb=>⟨b,0,none⟩,a,L⟩⟩,(g1.2.1,es),q),⟨⟨⟨Cr.rq hg hgb,hL.ev hb⟩,by unfold Sns;show s.1-1=-1\/s.1-1=0\/s.1-1=1;omega,hv,hg,hgb,hb,hl⟩,hq⟩,fH U U bL (aA U aU) U (eW U)⟩
theorem lE {l:List CV} (h:l.all fS=true):∀x∈l,fS x=true:=aX.1 h
theorem sT (c:ColM):∀x∈c.C,fS x=true:=lE U
theorem sK (r:RowM):∀x∈r.C,fS x=true:=lE U
structure ClS (c:ColM) (k l u:Rat):Prop where
 r:ColR c k l u 3
 x:¬Crs c l u
 kc:Cr c.k k
 k:rb k 3
 l:rb l 3
 u:rb u 3
def bEy (C:List ColM):Prop:=∀c∈C,∃k l u,ClS c k l u
def bKw (R:List RowM) (n:Nat):Prop:=∀r∈R,∃b es,RwS r b es n
abbrev bTm (d:Sl Int) (q:Nat) (C:List ColM) (R:List RowM):BL:=[(39,0,[cI d,iC q]),(25,0,[.v (.slice none 0 0),.v (.slice none 0 0)]),(25,0,[.s 3 C.length,.s 4 R.length]),(67,11,fl ColM.C U6 C),(59,5,fl RowM.C U6 R)]
theorem aEp {d:Sl Int} {q:Nat} {C:List ColM} {R:List RowM}:scB 5 (bTm d q C R):=aA U (aA U (aA U (aA (bG (xA sT)) (aA (bG (xA sK)) aU))))
abbrev cCl (b:Nat) (k:Int):List (Nat×DV):=[(8,.c (iC k)),(0,.c (.p 0 0)),(2,.c (iC b)),(6,.c (.p 1 0)),(7,.c (.p 2 0))]
abbrev cCm (k:Int):List (Nat×DV):=[(9,.c (iC k)),(0,.c (.p 0 0)),(6,.c (.p 1 0)),(7,.c (.p 2 0))]
theorem bKx {I:Type} {f:I->List CV} {dd:I} {e T:Nat} {A:Option Nat} {a:Nat} {L:List I} (he:∀x,(f x).length=e) (h0:0<e):FrC ⟨T,e,1,λ_=>A,λ_=>a,λ_=>fl f dd L⟩ (.h A L.length a) ((⟨A.map λb=>⟨b,0,none⟩,a,L⟩:Sl I).R e f dd):=⟨0,L.length,_,bL,U,U,(aAi he).symm,λk hk=>bCr he k hk⟩
theorem bTn (d:Sl Int) (p a b:Nat) (hd:d.l.length<=9223372036854775807) (hp:p<=d.l.length) (ha:0<a) (ha2:a<=1000) (hb:b<=1000):Ctr pgQ 11 [true] [.c (.p 0 0),.c (iC a),.c (iC b)] (tpB d p) (λg:ProgM×Nat=>⟨.a g.1.C,tpB d g.2,((1<=g.1.c.l.length/\g.1.c.l.length<=a/\g.1.r.l.length<=b)/\bEy g.1.c.l/\bKw g.1.r.l g.1.c.l.length)/\g.2<=d.l.length⟩):=by
 refine gA gT (eo func11) func11 U U U bL (eW U) (Sd.sq (vk (Sd.sq (vk (sS 2 0 67 11 U U bL U (sS 2 1 59 5 U U bL U (vk ⟨[0],oC d p a hd hp oM oM,U,U,U,λs ⟨hs,hp1⟩=>⟨1+s.1,wi (h:=⟨U,Uc,Uc⟩),?_⟩⟩)))))))
 refine bX (λ_=>true) (λg:List ColM×Nat=>cCl b (1+s.1-(g.1.length:Nat))) (λg=>bTm d g.2 g.1 []) (λ_=>[]) (λg=>((g.1.length:Nat)<=1+s.1/\bEy g.1)/\g.2<=d.l.length) (λg=>(1+s.1-(g.1.length:Nat)).toNat) λhM=>⟨hM ([],s.2) ⟨⟨by show(0:Int)<=1+s.1;omega,λc hc=>(by cases hc)⟩,hp1⟩ U rS trivial ⟨?_,U,U,U,U⟩ bL aEp U,λ⟨C,q⟩ ⟨⟨hk,hC⟩,hq⟩=>vk ⟨λh1=>vk ?_,λh1=>vk ?_⟩⟩
 ·show(1+s.1:Int)=1+s.1-((0:Nat):Int);omega
 all_goals
  replace hk:((C.length:Nat):Int)<=1+s.1:=hk
  replace hC:bEy C:=hC
  replace hq:q<=d.l.length:=hq
 ·replace h1:(0:Int)<1+s.1-(C.length:Nat):=h1
  refine⟨.treeX [] [2000,1,2002] (trS [3,4,1005,2006,1007]),U0,[0],bTk d q hd hq,U,U,U,λg hg=>⟨U,U,⟨U,(aAi (f:=ColM.C) (d:=U6) (L:=C) (e:=11) λ_=>U).symm,by show C.length+1<=maxLen;simp only[maxLen];omega,by show(C.length+1)*184<=_;omega,λc hc=>(aO.1 hc).elim (λh=>bJ (xA sT c h)) λh=>bJ (sT g.M c h)⟩,λc hc=>bJ (xA sK c hc),λc hc=>bJ (sT g.M c hc),1+s.1-(C.length:Nat)-1,wi (h:=⟨U,Uc,Uc⟩),hM (C++[g.M],g.p) ⟨⟨⟨?_,?_⟩,hg.p⟩,?_⟩ U ⟨U,U,?_,?_,U⟩ U1 ⟨?_,U,U,U,U⟩ bL aEp U⟩⟩
  ·show(((C++[g.M]).length:Nat):Int)<=_
   simp;omega
  ·intro c hc
   rcases aO.1 hc with hc|hc
   ·exact hC c hc
   rw[aE.1 hc];exact⟨_,_,_,hg.r,hg.x,hg.kc,hg.k,hg.l,hg.u⟩
  ·show(1+s.1-(((C++[g.M]).length:Nat):Int)).toNat<(1+s.1-((C.length:Nat):Int)).toNat
   simp;omega
  ·show(_,_,[CV.s 3 (C.length+1),_])=(_,_,[CV.s 3 (C++[_]).length,_])
   rw[aD];rfl
  ·show(_,_,_)=(_,_,_)
   rw[<-aLb];rfl
  show 1+s.1-((C.length:Nat):Int)-1=1+s.1-(((C++[g.M]).length:Nat):Int)
  simp;omega
 replace h1:¬(0:Int)<1+s.1-(C.length:Nat):=h1
 have hCl:((C.length:Nat):Int)=1+s.1:=Uc
 refine vk ⟨(b:Int)+1,wi (h:=⟨U,Uc,Uc⟩),[0],oC d q ((b:Int)+1) hd hq oM oM,U,U,U,λt ⟨ht,hq1⟩=>?_⟩
 refine bX (λ_=>true) (λg:List RowM×Nat=>cCm (t.1-(g.1.length:Nat))) (λg=>bTm d g.2 C g.1) (λ_=>[]) (λg=>((g.1.length:Nat)<=t.1/\bKw g.1 C.length)/\g.2<=d.l.length) (λg=>(t.1-(g.1.length:Nat)).toNat) λhM=>⟨hM ([],t.2) ⟨⟨by show(0:Int)<=t.1;omega,λc hc=>(by cases hc)⟩,hq1⟩ U rS trivial ⟨?_,U,U,U⟩ bL aEp U,λ⟨R,q⟩ ⟨⟨hk,hR⟩,hq⟩=>vk ⟨λh1=>vk ?_,λh1=>vk ?_⟩⟩
 ·show t.1=t.1-((0:Nat):Int);omega
 all_goals
  replace hk:((R.length:Nat):Int)<=t.1:=hk
  replace hR:bKw R C.length:=hR
  replace hq:q<=d.l.length:=hq
 ·replace h1:(0:Int)<t.1-(R.length:Nat):=h1
  refine⟨.treeX [] [2000,1,2002,2003,4,2005] (trS [6,7,1008,2009,1010]),U0,[0],bTl d q C.length hd hq oM,U,U,U,λg ⟨hg,hq2⟩=>⟨U,U,⟨U,(aAi (f:=RowM.C) (d:=U6) (L:=R) (e:=5) λ_=>U).symm,by show R.length+1<=maxLen;simp only[maxLen];omega,by show(R.length+1)*88<=_;omega,λc hc=>(aO.1 hc).elim (λh=>bJ (xA sK c h)) λh=>bJ (sK g.1 c h)⟩,λc hc=>bJ (xA sT c hc),λc hc=>bJ (sK g.1 c hc),t.1-(R.length:Nat)-1,wi (h:=⟨U,Uc,Uc⟩),hM (R++[g.1],g.2.2) ⟨⟨⟨?_,?_⟩,hq2⟩,?_⟩ U ⟨U,U,?_,U,?_⟩ U1 ⟨?_,U,U,U⟩ bL aEp U⟩⟩
  ·show(((R++[g.1]).length:Nat):Int)<=_
   simp;omega
  ·intro c hc
   rcases aO.1 hc with hc|hc
   ·exact hR c hc
   rw[aE.1 hc];exact⟨_,_,hg⟩
  ·show(t.1-(((R++[g.1]).length:Nat):Int)).toNat<(t.1-((R.length:Nat):Int)).toNat
   simp;omega
  ·show(_,_,[_,CV.s 4 (R.length+1)])=(_,_,[_,CV.s 4 (R++[_]).length])
   rw[aD];rfl
  ·show(_,_,_)=(_,_,_)
   rw[<-aLb];rfl
  show t.1-((R.length:Nat):Int)-1=t.1-(((R++[g.1]).length:Nat):Int)
  simp;omega
 show Sd _ _ _ _ _ _
 refine kT tSd 4 U bL (xA sK) bL U λA a1=>⟨_,lM kE (xA sT),jQ tSd 2 0 [.s 3 C.length,aLk ⟨A.map λb=>⟨b,0,none⟩,a1,R⟩] U U U U (qD (k0:=1) U (bKx (λ_=>U) bL)) ?_⟩
 refine kT tSd 3 U bL (xA sT) bL U λA2 a2=>⟨_,U,jQ tSd 2 1 [aBu ⟨A2.map λb=>⟨b,0,none⟩,a2,C⟩,aLk ⟨A.map λb=>⟨b,0,none⟩,a1,R⟩] U U U U (qD (k0:=0) U (bKx (λ_=>U) bL)) ?_⟩
 exact vk ⟨(⟨⟨A2.map λb=>⟨b,0,none⟩,a2,C⟩,⟨A.map λb=>⟨b,0,none⟩,a1,R⟩⟩,q),⟨⟨⟨by show 1<=C.length;omega,by show C.length<=a;omega,by show R.length<=b;omega⟩,hC,hR⟩,hq⟩,fH U U bL (aA U aU) U (eW U)⟩
theorem bTo (d:Sl Int) (hd:d.l.length<=9223372036854775807):Ctr pgQ 4 [] [.c (cI d)] [] (λg:ProgM=>⟨.a g.C,[],((1<=g.c.l.length/\g.c.l.length<=4/\g.r.l.length<=4)/\bEy g.c.l/\bKw g.r.l g.c.l.length)⟩):=
 cw func4 (⟨[],aRf d,U,U,U,λ_ _=>⟨[1],bTn d 0 4 4 hd (aB _) dC dC dC,U,U,U,λg hg=>⟨g.1,hg.1,aI U U tV⟩⟩⟩)
structure BasM where
 c:Sl Int
 r:Sl Int
def BasM.C (b:BasM):List CV:=[cI b.c,cI b.r]
abbrev bTp (d:Sl Int) (p:ProgM) (q:Nat) (C R:List Int):BL:=[(39,0,[cI d,iC q]),(25,0,p.C),(28,0,[.v (.slice none 0 0),.v (.slice none 0 0)]),(28,0,[.s 4 C.length,.s 5 R.length]),(3,1,C.map iC),(3,1,R.map iC)]
theorem aEq {d:Sl Int} {p:ProgM} {q:Nat} {C R:List Int}:scB 6 (bTp d p q C R):=aA U (aA U (aA U (aA U (aA (bG (aW _)) (aA (bG (aW _)) aU)))))
abbrev cCn (k:Nat):List (Nat×DV):=[(6,.c (iC k)),(0,.c (.p 0 0)),(3,.c (.p 1 0)),(4,.c (.p 2 0)),(5,.c (.p 3 0))]
abbrev cCo (k:Nat):List (Nat×DV):=[(7,.c (iC k)),(0,.c (.p 0 0)),(3,.c (.p 1 0)),(4,.c (.p 2 0)),(5,.c (.p 3 0))]
theorem aEa {T:Nat} {A:Option Nat} {a:Nat} {L:List Int}:FrC ⟨T,1,1,λ_=>A,λ_=>a,λ_=>L.map iC⟩ (.h A L.length a) (cI ⟨A.map λb=>⟨b,0,none⟩,a,L⟩):=⟨0,L.length,_,bL,U,U,by rw[aK,bE],λk hk=>mS k hk⟩
theorem aRz (d:Sl Int) (p:ProgM) (q0:Nat) (hd:d.l.length<=9223372036854775807) (hp:q0<=d.l.length) (h1:p.c.l.length<=1000) (h2:p.r.l.length<=1000):Ctr pgQ 6 [true] [.c (.p 0 0),.a p.C] (tpB d q0) (λg:BasM×Nat=>⟨.a g.1.C,tpB d g.2,(g.1.c.l.length=p.c.l.length/\g.1.r.l.length=p.r.l.length)/\g.2<=d.l.length⟩):=by
 refine gA gT (eo func6) func6 U U U bL (eW U) (Sd.sq (vk (Sd.sq (vk (sS 3 0 3 1 U U bL U (sS 3 1 3 1 U U bL U (vk ?_)))))))
 refine bX (λ_=>true) (λg:List Int×Nat=>cCn g.1.length) (λg=>bTp d p g.2 g.1 []) (λ_=>[]) (λg=>g.1.length<=p.c.l.length/\g.2<=d.l.length) (λg=>p.c.l.length-g.1.length) λhM=>⟨hM ([],q0) ⟨aB _,hp⟩ U rS trivial rS bL aEq U,λ⟨C,q⟩ ⟨hk,hq⟩=>vk ⟨λh1=>vk ?_,λh1=>vk ?_⟩⟩
 all_goals
  replace hk:C.length<=p.c.l.length:=hk
  replace hq:q<=d.l.length:=hq
 ·replace h1:(C.length:Int)<(p.c.l.length:Nat):=h1
  refine⟨.treeX [] [2000,1,2002] (trS [3,4,1005,2006,1007]),U0,[0],oC d q 5 hd hq dC dC,U,U,U,λg ⟨hg,hq2⟩=>⟨U,U,apI (x:=C) oM,(λc hc=>by cases hc),(λc hc=>by rw[aE.1 hc];rfl),(C.length+1:Nat),wi,hM (C++[g.1],g.2) ⟨⟨?_,hq2⟩,?_⟩ U ⟨U,U,U,?_,?_,U⟩ U1 ⟨?_,U,U,U,U⟩ bL aEq U⟩⟩
  ·show(C++[g.1]).length<=_;simp;omega
  ·show p.c.l.length-(C++[g.1]).length<p.c.l.length-C.length;simp;omega
  ·show(_,_,[CV.s 4 (C.length+1),_])=(_,_,[CV.s 4 (C++[_]).length,_])
   rw[aD];rfl
  ·show(_,_,_)=(_,_,_)
   rw[bA];rfl
  show((C.length+1:Nat):Int)=((C++[g.1]).length:Nat);simp
 replace h1:¬(C.length:Int)<(p.c.l.length:Nat):=h1
 refine vk ?_
 refine bX (λ_=>true) (λg:List Int×Nat=>cCo g.1.length) (λg=>bTp d p g.2 C g.1) (λ_=>[]) (λg=>g.1.length<=p.r.l.length/\g.2<=d.l.length) (λg=>p.r.l.length-g.1.length) λhM=>⟨hM ([],q) ⟨aB _,hq⟩ U rS trivial rS bL aEq U,λ⟨R,q⟩ ⟨hk,hq⟩=>vk ⟨λh1=>vk ?_,λh1=>vk ?_⟩⟩
 all_goals
  replace hk:R.length<=p.r.l.length:=hk
  replace hq:q<=d.l.length:=hq
 ·replace h1:(R.length:Int)<(p.r.l.length:Nat):=h1
  refine⟨.treeX [] [2000,1,2002] (trS [3,4,1005,2006,1007]),U0,[0],oC d q 4 hd hq dC dC,U,U,U,λg ⟨hg,hq2⟩=>⟨U,U,apI (x:=R) oM,(λc hc=>bJ (aW _ c hc)),(λc hc=>by rw[aE.1 hc];rfl),(R.length+1:Nat),wi,hM (R++[g.1],g.2) ⟨⟨?_,hq2⟩,?_⟩ U ⟨U,U,U,?_,U,?_⟩ U1 ⟨?_,U,U,U,U⟩ bL aEq U⟩⟩
  ·show(R++[g.1]).length<=_;simp;omega
  ·show p.r.l.length-(R++[g.1]).length<p.r.l.length-R.length;simp;omega
  ·show(_,_,[_,CV.s 5 (R.length+1)])=(_,_,[_,CV.s 5 (R++[_]).length])
   rw[aD];rfl
  ·show(_,_,_)=(_,_,_)
   rw[bA];rfl
  show((R.length+1:Nat):Int)=((R++[g.1]).length:Nat);simp
 replace h1:¬(R.length:Int)<(p.r.l.length:Nat):=h1
 show Sd _ _ _ _ _ _
 refine kT tSd 5 U bL (aW _) bL U λA a1=>⟨_,lM kE (aW _),jQ tSd 3 0 [.s 4 C.length,cI ⟨A.map λb=>⟨b,0,none⟩,a1,R⟩] U U U U (qD (k0:=1) U aEa) ?_⟩
 refine kT tSd 4 U bL (aW _) bL U λA2 a2=>⟨_,U,jQ tSd 3 1 [cI ⟨A2.map λb=>⟨b,0,none⟩,a2,C⟩,cI ⟨A.map λb=>⟨b,0,none⟩,a1,R⟩] U U U U (qD (k0:=0) U aEa) ?_⟩
 exact vk ⟨(⟨⟨A2.map λb=>⟨b,0,none⟩,a2,C⟩,⟨A.map λb=>⟨b,0,none⟩,a1,R⟩⟩,q),⟨⟨by show C.length=_;omega,by show R.length=_;omega⟩,hq⟩,fH U U bL (aA U aU) U (eW U)⟩
def kvL (x:Nat->Nat) (V:Nat->CV):Nat->List CV
 |0=>[]
 |k+1=>kvL x V k++[iC (x k:Nat),V k]
section kv
variable {x:Nat->Nat} {V:Nat->CV}
theorem aLq:∀k,(kvL x V k).length=2*k
 |0=>rfl
 |k+1=>by
  have:=aLq k
  show(kvL x V k++_).length=_
  rw[aD,this];rfl
theorem aGv:∀{k i:Nat},i<k->(kvL x V k)[2*i]? =some (iC (x i:Nat))/\(kvL x V k)[2*i+1]? =some (V i)
 |0,i,h=>U4 h (aF _)
 |k+1,i,h=>by
  have hl:=aLq (x:=x) (V:=V) k
  show(kvL x V k++_)[2*i]? =_/\(kvL x V k++_)[2*i+1]? =_
  by_cases e:i<k
  ·rw[aV oM,aV oM];exact aGv e
  obtain rfl:i=k:=Uc
  rw[bH oM,bH oM,hl,gH,fP]
  exact⟨U,U⟩
theorem aDd {k i:Nat} {z:Int} {c:CV} (h1:(kvL x V k)[2*i]? =some (.v (.int .i64 z))) (h2:(kvL x V k)[2*i+1]? =some c):i<k/\z=(x i:Nat)/\c=V i:=by
 have hi:i<k:=by have:=eH h2;rw[aLq] at this;omega
 obtain⟨h3,h4⟩:=aGv (x:=x) (V:=V) hi
 rw[h3] at h1
 rw[h4] at h2
 injection h1 with h1
 injection h1 with h1
 injection h1 with _ h1
 injection h2 with h2
 exact⟨hi,h1.symm,h2.symm⟩
end kv
open Classical in
noncomputable def aHo (κ:Nat->Nat) (n:Nat) (z:Int):Option Nat:=if h:∃k,k<n/\((κ k:Nat):Int)=z then some h.choose else none
noncomputable def jT (κ:Nat->Nat) (n:Nat) (es:List En):List En:=es.filterMap λe=>(aHo κ n e.1).map λk=>((k:Int),e.2)
section cof
variable {κ:Nat->Nat} {n:Nat}
theorem aDe {z:Int} {k:Nat} (h:aHo κ n z=some k):k<n/\((κ k:Nat):Int)=z:=by
 unfold aHo at h
 split at h
 ·next hh=>injection h with h;rw[<-h];exact hh.choose_spec
 cases h
theorem aUu (hm:∀k l,k<l->l<n->κ k<κ l) {k:Nat} (hk:k<n):aHo κ n ((κ k:Nat):Int)=some k:=by
 unfold aHo
 have hh:∃l,l<n/\((κ l:Nat):Int)=((κ k:Nat):Int):=⟨k,hk,U⟩
 rw[dif_pos hh]
 have h1:=hh.choose_spec
 refine U5 some ?_
 rcases eF hh.choose k with h|h|h
 ·have:=hm _ _ h hk;omega
 ·exact h
 have:=hm _ _ h h1.1;omega
theorem aXn {z:Int} (h:∀k,k<n->((κ k:Nat):Int)≠z):aHo κ n z=none:=by
 unfold aHo
 rw[dif_neg λ⟨k,hk,hh⟩=>h k hk hh]
theorem aGw {es:List En} {e:En} (h:e∈jT κ n es):∃e'∈es,∃k,k<n/\((κ k:Nat):Int)=e'.1/\e=((k:Int),e'.2):=by
 unfold jT at h
 obtain⟨e',h1,h2⟩:=List.mem_filterMap.1 h
 cases hp:aHo κ n e'.1 with
 |none=>rw[hp] at h2;cases h2
 |some k=>
  rw[hp] at h2
  injection h2 with h2
  obtain⟨h3,h4⟩:=aDe hp
  exact⟨e',h1,k,h3,h4,h2.symm⟩
theorem aPc (hm:∀k l,k<l->l<n->κ k<κ l) {es:List En} (ha:Asc es):Asc (jT κ n es):=by
 unfold jT Asc
 refine List.pairwise_filterMap.2 (List.Pairwise.imp (λ{a b} hab x hx y hy=>?_) ha)
 cases hp:aHo κ n a.1 with
 |none=>rw[hp] at hx;cases hx
 |some k=>
  cases hp2:aHo κ n b.1 with
  |none=>rw[hp2] at hy;cases hy
  |some l=>
   rw[hp] at hx
   rw[hp2] at hy
   injection hx with hx
   injection hy with hy
   obtain⟨h1,h2⟩:=aDe hp
   obtain⟨h3,h4⟩:=aDe hp2
   rw[<-hx,<-hy]
   show(k:Int)<(l:Nat)
   rcases eF k l with h|h|h
   ·omega
   ·rw[h] at h2;omega
   have:=hm _ _ h h1;omega
theorem zL (hm:∀k l,k<l->l<n->κ k<κ l) {es:List En} {c:Int} (h:VOk es c):VOk (jT κ n es) (n:Nat):=⟨aPc hm h.1,λe he=>by
 obtain⟨e',h1,k,h2,h3,rfl⟩:=aGw he
 exact⟨by show(0:Int)<=(k:Nat);omega,by show(k:Int)<(n:Nat);omega,(h.2 e' h1).2.2⟩⟩
theorem pO (hm:∀k l,k<l->l<n->κ k<κ l) {es:List En} (ha:Asc es) {k:Nat} (hk:k<n):Vm.get (jT κ n es) (k:Nat)=Vm.get es (κ k:Nat):=by
 by_cases h:∃e∈es,e.1=((κ k:Nat):Int)
 ·obtain⟨e,h1,h2⟩:=h
  have h3:((k:Int),e.2)∈jT κ n es:=List.mem_filterMap.2 ⟨e,h1,by rw[h2,aUu hm hk];rfl⟩
  have h4:=rZ (aPc hm ha) h3
  rw[show Vm.get (jT κ n es) (k:Nat)=_ from h4,<-h2,rZ ha h1]
 rw[Vm.get_none (a:=es) λe he h2=>h ⟨e,he,h2⟩]
 refine Vm.get_none λe he h2=>h ?_
 obtain⟨e',h1,l,h3,h4,rfl⟩:=aGw he
 have:l=k:=by have:(l:Int)=(k:Nat):=h2;omega
 exact⟨e',h1,by rw[<-h4,this]⟩
theorem aLr {es:List En} {B:Nat} (h:rbE es B):rbE (jT κ n es) B:=λe he=>by
 obtain⟨e',h1,k,_,_,rfl⟩:=aGw he
 exact h e' h1
theorem aIn {es:List En} {t:Nat} (ht:t<es.length) (h:∀k,k<n->((κ k:Nat):Int)≠(es.getD t U6).1):jT κ n (es.take (t+1))=jT κ n (es.take t):=by
 rw[aCy ht]
 unfold jT
 rw[List.filterMap_append,List.filterMap_cons,aXn h]
 simp
theorem aIo (hm:∀k l,k<l->l<n->κ k<κ l) {es:List En} {t k:Nat} (ht:t<es.length) (hk:k<n) (h:(es.getD t U6).1=((κ k:Nat):Int)):jT κ n (es.take (t+1))=jT κ n (es.take t)++[((k:Int),(es.getD t U6).2)]:=by
 rw[aCy ht]
 unfold jT
 rw[List.filterMap_append,List.filterMap_cons,h,aUu hm hk]
 rfl
end cof
abbrev mpF (b:Nat) (G:Nat->List CV):Fam:=⟨1000002,1,1,λ_=>some b,λ_=>0,G⟩
structure CofA (p:ProgM) (rs cs:Sl Int) (D κ:Nat->Nat):Prop where
 r:∀k,k<rs.l.length->rs.l.getD k 0=(D k:Nat)/\D k<p.r.l.length
 c:∀k,k<cs.l.length->cs.l.getD k 0=(κ k:Nat)/\κ k<p.c.l.length
 m:∀k l,k<l->l<cs.l.length->κ k<κ l
 rl:rs.l.length<=4096
 cl:cs.l.length<=4096
abbrev cCp (p:ProgM):BL:=[(25,0,p.C),(78,0,[iC 0,iC 0,.v (.slice none 0 0)])]
abbrev cfB (p:ProgM) (a b:Nat) (H:List CV):BL:=[(25,0,p.C),(78,0,[iC 0,iC 0,.v (.slice none 0 0)]),(57,1,H),(78,0,[iC a,iC b,.s 2 a])]
theorem aGx {p:ProgM} {a b:Nat} {P:Nat->CV} (h:∀j,j<a->fS (P j)=true):scB 4 (cfB p a b (eA a P)):=aA U (aA U (aA (aX.2 λc hc=>sM (bD h c hc)) (aA U aU)))
abbrev cCq (rs cs:Sl Int) (b k:Nat):List (Nat×DV):=[(20,.c (iC k)),(7,.c (.v (.map (some b)))),(18,.c (cI cs)),(19,.c (iC (cs.l.length:Nat))),(3,.c (.p 0 0)),(6,.c (.p 1 0)),(1,.c (cI rs)),(2,.c (cI cs))]
abbrev bYx (rs:Sl Int) (b k:Nat):List (Nat×DV):=[(39,.c (iC k)),(7,.c (.v (.map (some b)))),(37,.c (cI rs)),(38,.c (iC (rs.l.length:Nat))),(3,.c (.p 0 0)),(6,.c (.p 1 0)),(10,.c (.p 3 0))]
abbrev cCr (p:ProgM) (rs:Sl Int) (b k i t:Nat):List (Nat×DV):=(51,.c (iC t))::(11,.c (iC k))::(49,.c (cF (p.r.l.getD i U6).e))::(50,.c (iC ((p.r.l.getD i U6).e.l.length:Nat)))::bYx rs b k
theorem bKy {ys:List EntM} {rs:List En} {B:Nat} {e:EntM} {r:En} (h:Ev ys rs B) (h1:e.ix=r.1) (h2:Rq e.v r.2 B):Ev (ys++[e]) (rs++[r]) B:=⟨by simp[h.ln],λk hk=>by
 rw[aD,cO] at hk
 have hl:=h.ln
 rcases eE k rs.length with h3|h3
 ·have e1:(ys++[e]).getD k U6=ys.getD k U6:=by simp[aV (show k<ys.length by omega)]
  have e2:(rs++[r]).getD k U6=rs.getD k U6:=by simp[aV h3]
  rw[e1,e2];exact h.e k h3
 obtain rfl:k=rs.length:=Uc
 have e1:(ys++[e]).getD rs.length U6=e:=by rw[<-hl];simp
 have e2:(rs++[r]).getD rs.length U6=r:=by simp
 rw[e1,e2];exact⟨h1,h2⟩⟩
def bYy:Ord:=.treeX [] [2000,1,2002,2003,4,2005,2006,1007,2008,2009,10,2011] (trS [12,13,2014,1015])
theorem bNy (p:ProgM) (rs cs:Sl Int) {q:PrQ} {B:Nat} {D κ:Nat->Nat} (h:PrV p q B) (hA:CofA p rs cs D κ):Ctr pgQ 46 [] [.a p.C,.c (cI rs),.c (cI cs)] [] (λg:MatM=>⟨.a g.C,[],Mr g (λk=>jT κ cs.l.length (q.M (D k))) rs.l.length cs.l.length B⟩):=by
 have hrl:=hA.rl
 have hcl:=hA.cl
 refine cw func46 (λb=>?_)
 refine bX (λ_=>true) (λg:Nat×(Nat->List CV)=>cCq rs cs b g.1) (λ_=>cCp p) (λg=>[mpF b g.2]) (λg=>g.1<=cs.l.length/\g.2 0=kvL κ (λk=>iC (k:Nat)) g.1) (λg=>cs.l.length-g.1) λhM=>⟨hM (0,λ_=>[]) ⟨aB _,U⟩ U ⟨U,U⟩ ⟨U,tV⟩ rS bL (aA U (aA U aU)) U,λ⟨k,G⟩ ⟨hk,hG⟩=>vk ⟨λh1=>vk ?_,λh1=>vk ?_⟩⟩
 all_goals
  replace hk:k<=cs.l.length:=hk
  replace hG:G 0=kvL κ (λk=>iC (k:Nat)) k:=hG
 ·replace h1:(k:Int)<(cs.l.length:Nat):=h1
  have hkn:k<cs.l.length:=Uc
  refine⟨k,⟨U,hkn⟩,0,0,κ k,⟨Nat.one_pos,U,(hA.c k hkn).1,λi c' h2 h3=>?_⟩,(k+1:Nat),wi,hM (k+1,upd G 0 (G 0++[iC (κ k:Nat),iC (k:Nat)])) ⟨⟨hkn,?_⟩,show cs.l.length-(k+1)<cs.l.length-k by omega⟩ U ⟨U,U⟩ ⟨U,tV⟩ rS bL (aA U (aA U aU)) U⟩
  ·rw[show(mpF b G).get 0=kvL κ (λk=>iC (k:Nat)) k from hG] at h2 h3
   obtain⟨h4,h5,_⟩:=aDd h2 h3
   have:=hA.m i k h4 hkn
   omega
  show upd G 0 _ 0=_
  rw[bF,hG];rfl
 replace h1:¬(k:Int)<(cs.l.length:Nat):=h1
 obtain rfl:k=cs.l.length:=Uc
 refine vk ⟨rs.l.length,⟨U,U,by show 24*_<=_;omega,by simp only[maxLen];omega⟩,?_⟩
 show Sd _ _ _ _ _ _
 refine aXd tSd 75 4 rs.l.length bL (gJ tSd (l:=List.replicate rs.l.length (.v (.slice none 0 0))) 2 (eA rs.l.length (hdP (λ_=>none) (λ_=>0) λ_=>[])) U (by rw[dD,cU]) (λk c c' h1 h2=>?_) ?_)
 ·have hk:k<rs.l.length:=by have:=eH h1;simpa using this
  have h3:=eD (P:=hdP (λ_=>none) (λ_=>0) λ_=>[]) hk
  rw[bE,h2] at h3
  injection h3 with h3
  rw[h3,(gO.1 (aR h1)).2]
  exact LeC.nilh
 refine bX (λ_=>true) (λg:Nat×(Nat->Option Nat)×(Nat->Nat)×(Nat->List EntM)=>bYx rs b g.1) (λg=>cfB p rs.l.length cs.l.length (eA rs.l.length (hdP g.2.1 g.2.2.1 g.2.2.2))) (λg=>[mpF b G,trF rs.l.length g.2.1 g.2.2.1 g.2.2.2]) (λg=>g.1<=rs.l.length/\(∀k,k<g.1->Ev (g.2.2.2 k) (jT κ cs.l.length (q.M (D k))) B)/\∀k,g.1<=k->g.2.2.2 k=[]) (λg=>rs.l.length-g.1) λhM=>⟨hM (0,λ_=>none,λ_=>0,λ_=>[]) ⟨aB _,λk hk=>U4 hk (aF _),λ_ _=>U⟩ U rS ⟨U,U,tV⟩ rS bL (aGx λ_ _=>U) U,λ⟨i,A,cap,S⟩ ⟨hi,hS,hS0⟩=>vk ⟨λh2=>vk ?_,λh2=>vk ?_⟩⟩
 all_goals
  replace hi:i<=rs.l.length:=hi
  replace hS:∀k,k<i->Ev (S k) (jT κ cs.l.length (q.M (D k))) B:=hS
  replace hS0:∀k,i<=k->S k=[]:=hS0
 ·replace h2:(i:Int)<(rs.l.length:Nat):=h2
  have hia:i<rs.l.length:=Uc
  obtain⟨r1,r2⟩:=hA.r i hia
  have hrow:=h.rd.r _ r2
  have hv:=h.v _ r2
  have hlen:=h.len r2
  have hpc:=h.c
  have hle:=hrow.e.ln
  refine⟨i,⟨U,hia⟩,D i,⟨r1,r2⟩,?_⟩
  show Sd _ _ _ _ _ _
  refine bX (λ_=>true) (λg:Nat×(Nat->Option Nat)×(Nat->Nat)×(Nat->List EntM)=>cCr p rs b i (D i) g.1) (λg=>cfB p rs.l.length cs.l.length (eA rs.l.length (hdP g.2.1 g.2.2.1 g.2.2.2))) (λg=>[mpF b G,trF rs.l.length g.2.1 g.2.2.1 g.2.2.2]) (λg=>g.1<=(q.M (D i)).length/\(∀k,k<i->Ev (g.2.2.2 k) (jT κ cs.l.length (q.M (D k))) B)/\Ev (g.2.2.2 i) (jT κ cs.l.length ((q.M (D i)).take g.1)) B/\∀k,i<k->g.2.2.2 k=[]) (λg=>(q.M (D i)).length-g.1) λhM2=>⟨hM2 (0,A,cap,S) ⟨aB _,hS,by show Ev (S i) _ B;rw[hS0 i (aH i)];exact⟨U,λk hk=>U4 hk (aF _)⟩,λk hk=>hS0 k (eT hk)⟩ U rS ⟨U,U,tV⟩ rS bL (aGx λ_ _=>U) U,λ⟨t,A,cap,S⟩ ⟨ht,hS,hSi,hS0⟩=>vk ⟨λh3=>vk ?_,λh3=>vk ?_⟩⟩
  all_goals
   replace ht:t<=(q.M (D i)).length:=ht
   replace hS:∀k,k<i->Ev (S k) (jT κ cs.l.length (q.M (D k))) B:=hS
   replace hSi:Ev (S i) (jT κ cs.l.length ((q.M (D i)).take t)) B:=hSi
   replace hS0:∀k,i<k->S k=[]:=hS0
  ·replace h3:(t:Int)<((p.r.l.getD (D i) U6).e.l.length:Nat):=h3
   have htl:t<(q.M (D i)).length:=Uc
   have hte:t<(p.r.l.getD (D i) U6).e.l.length:=Uc
   have he:=hrow.e.e t htl
   refine⟨t,⟨U,hte⟩,0,0,⟨Nat.one_pos,U⟩,λj c' h4 h5=>?_,λh4=>?_⟩
   ·rw[show(mpF b G).get 0=kvL κ (λk=>iC (k:Nat)) cs.l.length from hG] at h4 h5
    obtain⟨hj,hz,hc'⟩:=aDd h4 h5
    subst hc'
    have hcf:=aIo hA.m htl hj (he.1.symm.trans hz)
    have hci2:(eA rs.l.length (hdP A cap S))[i*1]? =some (.h (A i) (S i).length (cap i)):=eD hia
    have hSl:=hSi.ln
    have hcl2:(jT κ cs.l.length ((q.M (D i)).take t)).length<=t:=aJ (uR _ _) (by rw[bI];omega)
    have hcx:∀c'∈(⟨j,((p.r.l.getD (D i) U6).e.l.getD t U6).v⟩:EntM).C,fS c'=true:=λc' hc'=>by
     rcases bW.1 hc' with rfl|hc'
     ·rfl
     exact gF _ c' hc'
    refine⟨bYy,U0,i,⟨U,hia,cS hia⟩,_,_,⟨hci2,U⟩,ck U (ck U (ck U (ck (U5 uJ hci2) (ck U (ck U U))))),1,i,⟨U,hia,U,U,(iA _).symm,by show(S i).length+1<=maxLen;simp only[maxLen];omega,by show((S i).length+1)*64<=_;omega,hcx⟩,λA' c'=>⟨ck U (ck U (ck U (ck (U5 uJ hci2) (ck U (ck U U))))),i,⟨U,hia,cS hia⟩,_,aCu (e:=⟨j,((p.r.l.getD (D i) U6).e.l.getD t U6).v⟩) hia,?_⟩⟩
    refine⟨(t+1:Nat),wi,hM2 (t+1,upd A i A',upd cap i c',upd S i (S i++[(⟨(j:Nat),((p.r.l.getD (D i) U6).e.l.getD t U6).v⟩:EntM)])) ⟨⟨htl,λk hk=>?_,?_,λk hk=>?_⟩,show(q.M (D i)).length-(t+1)<(q.M (D i)).length-t by omega⟩ U rS ⟨U,aEi (T:=75) (n:=rs.l.length) (A:=upd A i A') (cap:=upd cap i c') (G:=S) (j:=i) (e:=⟨j,((p.r.l.getD (D i) U6).e.l.getD t U6).v⟩),tV⟩ rS bL (aGx λ_ _=>U) U⟩
    ·show Ev (upd S i _ k) _ B
     rw[aY oM];exact hS k hk
    ·show Ev (upd S i _ i) (jT κ cs.l.length ((q.M (D i)).take (t+1))) B
     rw[bF,hcf];exact bKy hSi U he.2
    show upd S i _ k=[]
    rw[aY oM];exact hS0 k hk
   have hno:∀k,k<cs.l.length->((κ k:Nat):Int)≠((q.M (D i)).getD t U6).1:=λk hk e=>by
    rw[show(mpF b G).get 0=kvL κ (λk=>iC (k:Nat)) cs.l.length from hG] at h4
    have h5:=aGv (x:=κ) (V:=λk=>iC (k:Nat)) hk
    exact h4 k _ (h5.1.trans (U5 (λz=>some (iC z)) (e.trans he.1.symm))) h5.2
   refine⟨(t+1:Nat),wi,hM2 (t+1,A,cap,S) ⟨⟨htl,hS,?_,hS0⟩,show(q.M (D i)).length-(t+1)<(q.M (D i)).length-t by omega⟩ U rS ⟨U,U,tV⟩ rS bL (aGx λ_ _=>U) U⟩
   show Ev (S i) (jT κ cs.l.length ((q.M (D i)).take (t+1))) B
   rw[aIn htl hno];exact hSi
  replace h3:¬(t:Int)<((p.r.l.getD (D i) U6).e.l.length:Nat):=h3
  obtain rfl:t=(q.M (D i)).length:=Uc
  rw[cQ] at hSi
  exact⟨(i+1:Nat),wi,hM (i+1,A,cap,S) ⟨⟨hia,λk hk=>(bR (cB hk)).elim (hS k) λe=>e▸hSi,hS0⟩,show rs.l.length-(i+1)<rs.l.length-i by omega⟩ U rS ⟨U,U,tV⟩ rS bL (aGx λ_ _=>U) U⟩
 replace h2:¬(i:Int)<(rs.l.length:Nat):=h2
 obtain rfl:i=rs.l.length:=Uc
 have hlen:∀k,k<rs.l.length->(jT κ cs.l.length (q.M (D k))).length<=cs.l.length:=λk hk=>kY (zL hA.m (h.v _ (hA.r k hk).2).2)
 show Sd _ _ _ _ _ _
 refine jQ tSd 2 1 (eA rs.l.length λj=>cF (hdS A cap S j)) U U U (by rw[dD,dD]) (aCt bNh) ?_
 refine kT tSd 2 U bL (bD λ_ _=>U) bL U λA2 c2=>?_
 refine jQ tSd 3 2 [iC rs.l.length,iC cs.l.length,mU ⟨A2.map λb=>⟨b,0,none⟩,c2,lK (hdS A cap S) rs.l.length⟩] U U U U (wM (k0:=2) U wN) (vk ⟨⟨rs.l.length,cs.l.length,⟨A2.map λb=>⟨b,0,none⟩,c2,lK (hdS A cap S) rs.l.length⟩⟩,⟨U,U,oB,λj hj=>?_,λj hj=>⟨zL hA.m (h.v _ (hA.r j hj).2).2,hlen j hj⟩⟩,aI U U tV⟩)
 show Ev ((lK (hdS A cap S) rs.l.length).getD j cG).l _ B
 rw[qX hj]
 exact hS j hj
inductive KpS where
 |z
 |o (b:BasM)
 |i (x:Sl Int)
 |t (x:Sl Int)
def KpS.B:KpS->BL
 |.z=>[]
 |.o b=>[(28,0,[cI b.c,cI b.r])]
 |.i x=>[(26,0,[cI x])]
 |.t x=>[(86,0,[.f 96 [] [(1,0)]]),(26,0,[cI x])]
def KpS.V:KpS->FuncId->DV
 |.z,q=> .c (.f q [] [])
 |.o _,q=> .c (.f q [] [(0,0)])
 |.i _,q=> .c (.f q [] [(0,0)])
 |.t _,q=> .c (.f q [] [(0,0)])
def KpS.A:KpS->List DV
 |.z=>[]
 |.o _=>[.c (.p 0 0)]
 |.i _=>[.c (.p 0 0)]
 |.t _=>[.c (.p 0 0)]
def KpS.m:KpS->List Nat
 |.z=>[]
 |.o _=>[0]
 |.i _=>[0]
 |.t _=>[0,1]
def KpS.cl:KpS->List Bool
 |.z=>[]
 |.o _=>[true]
 |.i _=>[true]
 |.t _=>[false,true]
def cCs (own:Bool) (y:KpS) (L:List Int) (g:Sl Int):Out:=match own with
 |true=>⟨.c (.s y.B.length L.length),y.B++[(3,1,L.map iC)],g=g⟩
 |false=>⟨.c (cI g),y.B,g.l=L⟩
theorem bNz (own:Bool) (y:KpS) (q:FuncId) (n:Nat) (P:Nat->Prop) [DecidablePred P] (hn:n<=4096) (hq:∀i,i<n->Ctr pgQ q y.cl (.c (iC (i:Nat))::y.A) y.B (λ_:Unit=>⟨pC (P i),y.B,True⟩)):Ctr pgQ 43 y.cl [.c (iC n),y.V q] y.B (cCs own y (fI P n)):=by
 have sc:∀L:List Int,scB (y.B.length+1) (y.B++[(3,1,L.map iC)]):=λL=>by
  cases y with
  |z=>exact aA (bG (aW _)) aU
  |o b=>exact aA U (aA (bG (aW _)) aU)
  |i x=>exact aA U (aA (bG (aW _)) aU)
  |t x=>exact aA U (aA U (aA (bG (aW _)) aU))
 have sc0:scB y.B.length y.B:=by
  cases y with
  |z=>exact aU
  |o b=>exact aA U aU
  |i x=>exact aA U aU
  |t x=>exact aA U (aA U aU)
 have hcl:ClB y.cl y.B:=by
  cases y with
  |z=>exact λi T es l hi=>by cases hi
  |o b=>exact eW U
  |i x=>exact eW U
  |t x=>exact ClB.cons (λh=>by cases h) (eW U)
 have hcl2:∀L:List Int,ClB y.cl (y.B++[(3,1,L.map iC)]):=λL=>by
  cases y with
  |z=>exact λi T es l _ hc=>by cases hc
  |o b=>exact ClB.cons (λ_=>U) λi T es l _ hc=>by cases hc
  |i x=>exact ClB.cons (λ_=>U) λi T es l _ hc=>by cases hc
  |t x=>exact ClB.cons (λh=>by cases h) (ClB.cons (λ_=>U) λi T es l _ hc=>by cases hc)
 let w:KpS:=y
 cases y
 all_goals
  refine gA gT (eo func43) func43 U U U bL hcl (vk (vW 5 3 1 U bL (vk ?_)))
  refine bX (λ_=>true) (λk:Nat=>[(8,.c (iC k)),(5,.c (.s w.B.length (fI P k).length)),(7,.c (iC n)),(1,w.V q)]) (λk=>w.B++[(3,1,(fI P k).map iC)]) (λ_=>[]) (λk=>k<=n) (λk=>n-k) λhM=>⟨hM 0 (aB _) U ?_ trivial rS bL (sc _) U,λk hk=>vk ⟨λh1=>vk ?_,λh1=>vk ?_⟩⟩
  ·first|exact rfl|exact⟨U,U⟩|exact⟨U,U,U⟩
  ·replace h1:(k:Int)<(n:Nat):=h1
   have hkn:k<n:=Uc
   have hsl:=pN (P:=P) k
   have yes:P k->fI P (k+1)=fI P k++[(k:Int)]:=yJ
   first
    |refine⟨[],hq k hkn,U,U,U,λ_ _=>⟨λh4=>vk ?_,λh4=>vk ?_⟩⟩
    |refine⟨_,U,w.m,hq k hkn,U,U,U,λ_ _=>⟨λh4=>vk ?_,λh4=>vk ?_⟩⟩
   ·have ap:=apI (x:=fI P k) (z:=(k:Nat)) (i:=w.B.length) oM
    refine⟨ap,(λc hc=>by rw[aE.1 hc];rfl),(k+1:Nat),wi,hM (k+1) ⟨hkn,show n-(k+1)<n-k by omega⟩ U ?_ trivial ⟨U,?_,U,U⟩ bL (sc _) U⟩
    ·have e:((3,1,(fI P k).map iC++[iC (k:Nat)]):TypeId×Nat×List CV)=(3,1,(fI P (k+1)).map iC):=by rw[yes h4,bA];rfl
     first|exact e|exact⟨U,e⟩|exact⟨U,U,e⟩
    show(fI P k).length+1=(fI P (k+1)).length
    rw[yes h4,aD];rfl
   refine⟨(k+1:Nat),wi,hM (k+1) ⟨hkn,show n-(k+1)<n-k by omega⟩ U ?_ trivial ⟨U,?_,U,U⟩ bL (sc _) U⟩
   ·have e:((3,1,(fI P k).map iC):TypeId×Nat×List CV)=(3,1,(fI P (k+1)).map iC):=by rw[kJ h4]
    first|exact e|exact⟨U,e⟩|exact⟨U,U,e⟩
   show(fI P k).length=(fI P (k+1)).length
   rw[kJ h4]
  replace h1:¬(k:Int)<(n:Nat):=h1
  obtain rfl:k=n:=Uc
  cases own
  ·refine nS 5 w.B.length (λj=>[iC ((fI P k).getD j 0)]) U U (λj hj=>mS j hj) (by rw[aK,bE]) bL (aW _) (aH _) λA c _ _=>vk ⟨⟨A,c,fI P k⟩,U,fH U (by first|exact rfl|exact⟨U,U⟩|exact tV) (aH _) sc0 U hcl⟩
  exact vk ⟨cG,U,fH U (by first|exact rfl|exact⟨U,U⟩|exact⟨U,U,U⟩) (by first|exact bL|exact aB _) (sc _) U (hcl2 _)⟩
theorem bOa (y:KpS) (q:FuncId) (n:Nat) (P:Nat->Prop) [DecidablePred P] (hn:n<=4096) (hq:∀i,i<n->Ctr pgQ q y.cl (.c (iC (i:Nat))::y.A) y.B (λ_:Unit=>⟨pC (P i),y.B,True⟩)):Ctr pgQ 43 y.cl [.c (iC n),y.V q] y.B (λ_:Unit=>⟨.c (.s y.B.length (fI P n).length),y.B++[(3,1,(fI P n).map iC)],True⟩):=(bNz true y q n P hn hq).re λg hg=>⟨(),tV,U,U,U⟩
theorem bOb (y:KpS) (q:FuncId) (n:Nat) (P:Nat->Prop) [DecidablePred P] (hn:n<=4096) (hq:∀i,i<n->Ctr pgQ q y.cl (.c (iC (i:Nat))::y.A) y.B (λ_:Unit=>⟨pC (P i),y.B,True⟩)):Ctr pgQ 43 y.cl [.c (iC n),y.V q] y.B (λg:Sl Int=>⟨.c (cI g),y.B,g.l=fI P n⟩):=(bNz false y q n P hn hq).re λg hg=>⟨g,hg,U,U,U⟩
/-! ### the functions -/
theorem bTq (i:Int):Ctr pgQ 44 [] [.c (iC i)] [] (λ_:Unit=>⟨pC True,[],True⟩):=
 cw func44 (⟨(),tV,aI (tt tV) U tV⟩)
theorem bTr (b:BasM) (i:Nat) (hi:i<b.c.l.length):Ctr pgQ 45 [true] [.c (iC i),.c (.p 0 0)] [(28,0,[cI b.c,cI b.r])] (λ_:Unit=>⟨pC (b.c.l.getD i 0=2),[(28,0,[cI b.c,cI b.r])],True⟩):=
 gA gT (eo func45) func45 U U U bL (eW U) (vk ⟨i,⟨U,hi⟩,(),tV,fH iO U bL (aA U aU) U (eW U)⟩)
def rA (x:Sl Int) (i:Nat):Prop:=i<x.l.length/\x.l.getD i 0=2
theorem bEz (x:Sl Int) (i:Nat):Ctr pgQ 96 [true] [.c (iC i),.c (.p 0 0)] [(26,0,[cI x])] (λ_:Unit=>⟨pC (rA x i),[(26,0,[cI x])],True⟩):=
 gA gT (eo func96) func96 U U U bL (eW U) (vk ⟨i,λh=>⟨U,by replace h:(i:Int)<(x.l.length:Nat):=h;omega⟩,(),tV,fH ⟨λh=>⟨by have h1:(i:Int)<(x.l.length:Nat):=h.1;omega,h.2⟩,λh=>⟨by show(i:Int)<(x.l.length:Nat);have:=h.1;omega,h.2⟩⟩ U bL (aA U aU) U (eW U)⟩)
theorem bTs (x:Sl Int) (i:Nat):Ctr pgQ 97 [false,true] [.c (iC i),.c (.p 0 0)] (KpS.t x).B (λ_:Unit=>⟨pC (¬rA x i),(KpS.t x).B,True⟩):=
 gA gT (eo func97) func97 U U U bL (ClB.cons (λh=>by cases h) (eW U)) (vk ⟨_,U,[1],bEz x i,U,U,U,λ_ _=>⟨(),tV,fH iO ⟨U,U⟩ bL (aA U (aA U aU)) U (ClB.cons (λh=>by cases h) (eW U))⟩⟩)
end Go.Proofs.YtljcaaakbkneaaaGreat
