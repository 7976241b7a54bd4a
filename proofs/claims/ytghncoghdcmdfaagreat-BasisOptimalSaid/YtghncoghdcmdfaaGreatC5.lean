/- gridmarketlaw13.BasisOptimal: the basic solution and the basic multipliers of a primal and dual feasible basis prove each other optimal Part 5 of 6: Sg Sh Si Sj Sk Sl Sm Sn So Sp Sq Kb Rm Kc Kd Sr Ss St Su Ke Qa Qb Qc Qd Qe Qf Qg Qh Sy Qi Qj Qk Ql Qm Ba Bb Bc. -/
import Derived.Test.YtghncoghdcmdfaaGreatC4
set_option maxHeartbeats 4000000
set_option linter.unusedVariables false
set_option linter.unusedSimpArgs false
namespace Go.Proofs.YtghncoghdcmdfaaGreat
open Go.Vg _root_.Go.Proofs.Tryz
open Go.Vm
open Go.Vy hiding val
set_option maxRecDepth 20000
structure PmL (p:List Int) (n:Nat):Prop where
 ln:p.length=n
 at':∀i,i<n->∃m:Nat,p.getD i 0=(m:Nat)/\m<n
 inj:∀i j,i<n->j<n->p.getD i 0=p.getD j 0->i=j
def bw (s:Nat->Bool):Nat->CV:=λj=>bif s j then .v (.bool true) else qS (.bool false)
theorem bTl {s:Nat->Bool} (n j:Nat) (_:j<n):fO (bw s j)=true:=by unfold bw;cases s j<;>rfl
theorem bCj {s:Nat->Bool} {n j:Nat} (h:j<n):lE (eJ n (bw s)) (j*1) [.v (.bool true)]=eJ n (bw (upd s j true))/\j*1+1<=(eJ n (bw s)).length:=iF h λi _=>by
 by_cases e:i=j
 ·subst e;rw[if_pos rfl];unfold bw;rw[bN];rfl
 rw[if_neg e];unfold bw;rw[bD e]
def SnP (p:List Int) (k:Nat) (s:Nat->Bool):Prop:=∀j,s j=true->∃i,i<k/\p.getD i 0=(j:Nat)
theorem SnP.next {p:List Int} {k m:Nat} {s:Nat->Bool} (h:SnP p k s) (hm:p.getD k 0=(m:Nat)):SnP p (k+1) (upd s m true):=λj hj=>by
 by_cases e:j=m
 ·subst e;exact⟨k,bE _,hm⟩
 rw[bD e] at hj
 obtain⟨i,h1,h2⟩:=h j hj
 exact⟨i,by omega,h2⟩
theorem SnP.not {p:List Int} {k m n:Nat} {s:Nat->Bool} (h:SnP p k s) (hp:PmL p n) (hk:k<n) (hm:p.getD k 0=(m:Nat)):s m=false:=by
 cases e:s m with
 |false=>rfl
 |true=>
  obtain⟨i,h1,h2⟩:=h m e
  have:=hp.inj i k oM hk (h2.trans hm.symm)
  omega
abbrev ipG (g:Sl Int) (n k:Nat):List (Nat×DV):=[(11,.c (iC k)),(9,.c (cM g)),(10,.c (iC n)),(0,.c (cM g)),(3,.c (.s 0 n))]
abbrev ipB (n:Nat) (s:Nat->Bool):BL:=[(4,1,eJ n (bw s))]
theorem aIl {n:Nat} {s:Nat->Bool}:scB 1 (ipB n s):=aB (bT (aZ (bTl n))) aY
abbrev bCk:FuncId:=184
theorem cCr:Ent Tryz.prog bCk:=aW func184 rfl kR
theorem cCs:Tryz.prog.funcs[bCk]? =some Tryz.f184:=func184
theorem bTm (g:Sl Int) {n:Nat} (hp:PmL g.l n) (hn:n<=4096):Ctr Tryz.prog bCk [] [.c (cM g)] [] (λ_:Unit=>⟨.c (.v (.bool true)),[],True⟩):=by
 obtain rfl:g.l.length=n:=hp.ln
 refine aX gT cCr cCs rfl rfl rfl bL aS (aA gT mxd ⟨g.l.length,⟨rfl,rfl,by show 1*g.l.length<=_;omega,by simp only[maxLen];omega⟩,?_⟩)
 show Sd _ _ _ _ _ _
 refine gK tSd 0 (eJ g.l.length (bw λ_=>false)) rfl (by rw[eC,dE]) (sX λ_ _=>eX _) ?_
 refine cO (λ_=>true) (λu:Nat×(Nat->Bool)=>ipG g g.l.length u.1) (λu=>ipB g.l.length u.2) (λ_=>[]) (λu=>u.1<=g.l.length/\SnP g.l u.1 u.2) (λu=>g.l.length-u.1) λhM=>⟨bS hM (chg:=λu:Nat×(Nat->Bool)=>ipG g g.l.length u.1) (bls:=λu=>ipB g.l.length u.2) (fls:=λ_=>[]) (0,λ_=>false) ⟨aC _,λj hj=>by cases hj⟩ rfl rfl trivial ⟨rfl,rfl,rfl,rfl,rfl⟩ bL aIl rfl,λ⟨k,s⟩ ⟨hk,hs⟩=>aA gT mxd ⟨λh2=>aA gT mxd ?_,λh2=>aA gT mxd ?_⟩⟩
 all_goals
  replace hk:k<=g.l.length:=hk
  replace hs:SnP g.l k s:=hs
 ·replace h2:(k:Int)<(g.l.length:Nat):=h2
  have hkl:k<g.l.length:=by omega
  obtain⟨m,hm,hmn⟩:=hp.at' k hkl
  have hf:=hs.not hp hkl hm
  have hc:(eJ g.l.length (bw s))[m*1]? =some (qS (.bool false)):=(eZ hmn).trans (by unfold bw;rw[hf];rfl)
  refine⟨k,⟨rfl,hkl⟩,m,λhq=>⟨hm,hmn,dD hmn⟩,_,λhq=>hc,?_⟩
  refine⟨λh3=>?_,λh3=>aA gT mxd ⟨m,⟨hm,hmn,dD hmn⟩,_,bCj hmn,(k+1:Nat),wi,bS hM (chg:=λu:Nat×(Nat->Bool)=>ipG g g.l.length u.1) (bls:=λu=>ipB g.l.length u.2) (fls:=λ_=>[]) (k+1,upd s m true) ⟨⟨hkl,hs.next hm⟩,show g.l.length-(k+1)<g.l.length-k by omega⟩ rfl rfl trivial ⟨rfl,rfl,rfl,rfl,rfl⟩ bL aIl rfl⟩⟩
  replace h3:(g.l.getD k 0<0\/((g.l.length:Nat):Int)<=g.l.getD k 0)\/(false=true):=h3
  rcases h3 with h3|h3
  ·omega
  cases h3
 exact aA gT mxd ⟨(),trivial,aM rfl rfl trivial⟩
theorem aLk:∀(ys:List EntM) (k:Nat) (z:Int),k<ys.length->lE (ecs ys) (k*4) [iC z]=ecs (ys.set k ⟨z,(ys.getD k default).v⟩)/\k*4+1<=(ecs ys).length
 |[],k,z,h=>absurd h (aD _)
 |e::ys,0,z,h=>⟨rfl,by rw[gZ];simp;omega⟩
 |e::ys,k+1,z,h=>by
  obtain⟨h1,h2⟩:=aLk ys k z (by simpa using h)
  refine⟨?_,by rw[gZ];simp at h;simp;omega⟩
  show lE (e.C++ecs ys) ((k+1)*4) [iC z]=e.C++ecs (ys.set k ⟨z,(ys.getD k default).v⟩)
  rw[<-h1]
  unfold lE
  have e4:(k+1)*4=e.C.length+k*4:=by rw[dG,gB];rfl
  rw[e4,List.take_length_add_append,iB,List.drop_length_add_append,dF]
def reE (f:EntM->EntM) (ys:List EntM) (k:Nat):List EntM:=(ys.take k).map f++ys.drop k
theorem aSi {f:EntM->EntM} {ys:List EntM} {k:Nat} (h:k<=ys.length):(reE f ys k).length=ys.length:=by unfold reE;simp;omega
theorem bCl {f:EntM->EntM} {ys:List EntM} {k:Nat} (h:k<ys.length):(reE f ys k).getD k default=ys.getD k default:=by
 unfold reE
 rw[aO,cC (by simp;omega),dH,aO]
 simp only[aU,bA]
 congr 2
 omega
theorem bJf {f:EntM->EntM} {ys:List EntM} {k:Nat} (h:k<ys.length):(reE f ys k).set k (f (ys.getD k default))=reE f ys (k+1):=by
 unfold reE
 have h1:((ys.take k).map f).length=k:=by simp;omega
 rw[gX _ _ oM,h1,kU,eH h,List.set_cons_zero,dU,aE h,gd h,cH,dF]
 rfl
theorem bJg {f:EntM->EntM} {ys:List EntM}:reE f ys ys.length=ys.map f:=by unfold reE;simp
theorem aSj {ys zs:List EntM} (h:zs.Perm ys):∀{es:List En},Ek ys es->∃rs:List En,Ek zs rs/\rs.Perm es:=by
 have cons:∀{e:EntM} {ys:List EntM} {z:En} {es:List En},Ek (e::ys) (z::es)↔(e.ix=z.1/\Cr e.v z.2)/\Ek ys es:=λ{e ys z es}=>by
  constructor
  ·intro h
   refine⟨h.e 0 (by simp),by simpa using h.ln,λk hk=>h.e (k+1) (by simpa using hk)⟩
  rintro⟨h1,h2⟩
  refine⟨by simpa using h2.ln,λk hk=>?_⟩
  match k,hk with
  |0,_=>exact h1
  |k+1,hk=>exact h2.e k (by simpa using hk)
 induction h with
 |nil=>intro es h;exact⟨es,h,wV _⟩
 |cons e hp ih=>
  intro es h
  match es,h with
  |[],h=>have:=h.ln;simp at this
  |z::es,h=>
   obtain⟨h1,h2⟩:=cons.1 h
   obtain⟨rs,h3,h4⟩:=ih h2
   exact⟨z::rs,cons.2 ⟨h1,h3⟩,h4.cons z⟩
 |swap a b l=>
  intro es h
  match es,h with
  |[],h=>have:=h.ln;simp at this
  |[z],h=>have:=h.ln;simp at this
  |z::z'::es,h=>
   obtain⟨h1,h2⟩:=cons.1 h
   obtain⟨h3,h4⟩:=cons.1 h2
   exact⟨z'::z::es,cons.2 ⟨h3,cons.2 ⟨h1,h4⟩⟩,List.Perm.swap _ _ _⟩
 |trans _ _ ih1 ih2=>
  intro es h
  obtain⟨rs,h1,h2⟩:=ih2 h
  obtain⟨ts,h3,h4⟩:=ih1 h1
  exact⟨ts,h3,h4.trans h2⟩
def rnE (p:List Int) (e:En):En:=(p.getD e.1.toNat 0,e.2)
def rnM (p:List Int) (e:EntM):EntM:=⟨p.getD e.ix.toNat 0,e.v⟩
theorem bTn {ys:List EntM} {es:List En} {p:List Int} (h:Ek ys es):Ek (ys.map (rnM p)) (es.map (rnE p)):=⟨by rw[aU,aU];exact h.ln,λk hk=>by
 rw[aU] at hk
 have hk':k<ys.length:=by rw[h.ln];exact hk
 have h1:=h.e k hk
 rw[gd (by rwa [aU]),gd (by rwa [aU]),tV,tV,<-gd (d:=default) hk,<-gd (d:=default) hk']
 exact⟨by show p.getD _ 0=p.getD _ 0;rw[h1.1],h1.2⟩⟩
theorem bCm {zs:List EntM} {rs es:List En} {p:List Int} {n:Nat} (hz:Ek zs rs) (hs:SrE zs zs.length) (hp:rs.Perm (es.map (rnE p))) (ho:VOk es (n:Nat)) (hP:PmL p n):Asc rs:=by
 have hnd:(rs.map λe=>e.1).Nodup:=by
  refine((hp.map λe=>e.1).nodup_iff).2 ?_
  rw[mR,cI,fN]
  refine ho.1.imp_of_mem λ{a b} ha hb hab he=>?_
  have h1:=ho.2 a ha
  have h2:=ho.2 b hb
  have h3:a.1<b.1:=hab
  have:=hP.inj a.1.toNat b.1.toNat oM oM he
  omega
 refine gV.2 λi j hi hj hij=>?_
 have h1:=hs i j hij (by rw[hz.ln];exact hj)
 have hi':=hz.e i hi
 have hj':=hz.e j hj
 rw[hi'.1,hj'.1,gd hi,gd hj] at h1
 have h2:rs[i].1≠rs[j].1:=λe=>by
  have:=(cI.1 hnd)
  rw[fN,gV] at this
  exact this i j hi hj hij e
 show rs[i].1<rs[j].1
 omega
theorem _root_.Go.Vy.CtrF.clo {P:Program} {q:FuncId} {cl:List Bool} {al:List DV} {fl:List Fam} {σ:Type} {R:σ->OutF} (h:CtrF P q [] al [] fl R) (hc:∀g,(R g).C->ClB cl (R g).bl):CtrF P q cl al [] fl R:=⟨h.ent,λi T es l hi=>(by cases hi),λρ w vals hv hD hF=>(h.run ρ w vals hv hD hF).mono λe w' ⟨v,he,g,ρ',c1,c2,c3,_,c5⟩=>⟨v,he,g,ρ',c1,c2,c3,hc g c1,c5⟩⟩
abbrev bTo:FuncId:=105
theorem cIu:Ent Tryz.prog bTo:=aW func105 rfl kR
theorem cIv:Tryz.prog.funcs[bTo]? =some Tryz.f105:=func105
theorem bJh (x:Sl EntM) {es:List En} {B:Nat} (h:Ev x.l es B) (hb:rbE es B) (h1:1<=B) (hB:B<=4398046511104) (ha:Asc es) (hz:aMr es) (hn:es.length<=4096):Ctr Tryz.prog bTo [true] [.c (cF x)] [] (λys:List EntM=>⟨.c (.s 0 ys.length),isB ys,Ek ys es⟩):=by
 have hm:=(bBe x cP (es:=es) (fs:=[]) (op:=λa _=>a) (q:=168) h ⟨rfl,λk hk=>absurd hk (aD _)⟩ hb (λe he=>absurd he dO) h1 ha List.Pairwise.nil hn (aC _) rfl (λa b h _=>h.le hB) (λu v {a b} hu _ _ _=>bLw u v (hu.le hB))).args (al':=[.c (cF x),.c (.v (.slice none 0 0)),.c (.f 168 [] [])]) λρ n w vals hv=>(by
  match vals,hv with
  |[v0,v1,v2],⟨h0,h1,h2,h3⟩=>exact⟨h0,.c (pH ρ n w v1 h1.inv_c),h2,h3⟩)
 replace hm:=hm.clo (cl:=[true]) λys _=>aAb (hJ ys)
 refine aX gT cIu cIv rfl rfl rfl bL (λi T es l hi=>by cases hi) (aA gT mxd ⟨[],aIc x h ha,rfl,rfl,rfl,λ_ _=>⟨[],hm,rfl,rfl,rfl,λg ⟨rs,h2,h3⟩=>⟨g,?_,fB rfl rfl bL pT rfl (aAb (hJ g))⟩⟩⟩)
 have e:rs=es:=canon_ext rs es h3.a ha h3.z hz h3.g
 rw[<-e];exact h2
abbrev prG (g:Sl Int) (m k:Nat):List (Nat×DV):=[(16,.c (iC k)),(14,.c (.s 0 m)),(15,.c (iC m)),(6,.c (.s 0 m)),(1,.c (cM g))]
abbrev bCn:FuncId:=117
theorem cCt:Ent Tryz.prog bCn:=aW func117 rfl kR
theorem cCu:Tryz.prog.funcs[bCn]? =some Tryz.f117:=func117
theorem bCo (x:Sl EntM) (g:Sl Int) {es:List En} {B n:Nat} (h:Ek x.l es) (hb:rbE es B) (h1:1<=B) (hB:B<=4398046511104) (ho:VOk es (n:Nat)) (hn:n<=12) (hg:PmL g.l n):Ctr Tryz.prog bCn [] [.c (cF x),.c (cM g)] [] (λy:Sl EntM=>⟨.t [.c (cF y),.c (.v (.bool true))],[],∃rs,Ek y.l rs/\Asc rs/\rs.Perm (es.map (rnE g.l))⟩):=by
 have hel:es.length<=n:=jY ho
 have hgl:=hg.ln
 refine aX gT cCt cCu rfl rfl rfl bL aS (aA gT mxd ⟨[],bTm g hg oM,rfl,rfl,rfl,λ_ _=>⟨[],bJh x (h.ev hb) hb h1 hB ho.1 (λe he=>(ho.2 e he).2.2) oM,rfl,rfl,rfl,λys hys=>?_⟩⟩)
 replace hys:Ek ys es:=hys
 have hyl:=hys.ln
 show Sd _ _ _ _ _ _
 refine cO (λ_=>true) (λk:Nat=>prG g ys.length k) (λk=>isB (reE (rnM g.l) ys k)) (λ_=>[]) (λk=>k<=ys.length) (λk=>ys.length-k) λhM=>⟨bS hM (chg:=λk:Nat=>prG g ys.length k) (bls:=λk=>isB (reE (rnM g.l) ys k)) (fls:=λ_=>[]) 0 (aC _) rfl rfl trivial ⟨rfl,rfl,rfl,rfl,rfl⟩ bL pT rfl,λk hk=>aA gT mxd ⟨λh2=>aA gT mxd ?_,λh2=>aA gT mxd ?_⟩⟩
 all_goals
  replace hk:k<=ys.length:=hk
 ·replace h2:(k:Int)<(ys.length:Nat):=h2
  have hkl:k<ys.length:=by omega
  have hr:=aSi (f:=rnM g.l) hk
  have hkr:k<(reE (rnM g.l) ys k).length:=by omega
  have he:=hys.e k oM
  have hv:=ho.2 _ (fX (l:=es) (k:=k) oM)
  obtain⟨m,hm⟩:∃m:Nat,(ys.getD k default).ix=(m:Nat):=⟨(ys.getD k default).ix.toNat,by omega⟩
  have hmn:m<n:=by omega
  refine⟨k,⟨rfl,hkl,wD hkr⟩,_,aDt hkr,?_⟩
  rw[bCl hkl]
  refine⟨λh3=>?_,λh3=>aA gT mxd ?_⟩
  ·replace h3:(ys.getD k default).ix<0\/((g.l.length:Nat):Int)<=(ys.getD k default).ix:=h3
   omega
  have hst:lE (ecs (reE (rnM g.l) ys k)) (k*4) [iC (g.l.getD m 0)]=ecs (reE (rnM g.l) ys (k+1))/\k*4+1<=(ecs (reE (rnM g.l) ys k)).length:=by
   obtain⟨e1,e2⟩:=aLk (reE (rnM g.l) ys k) k (g.l.getD m 0) hkr
   refine⟨e1.trans (congrArg ecs ?_),e2⟩
   rw[<-bJf hkl,bCl hkl]
   unfold rnM
   rw[hm]
   rfl
  exact⟨m,⟨hm,by omega⟩,k,⟨rfl,hkl,wD hkr⟩,_,hst,(k+1:Nat),wi,bS hM (chg:=λk:Nat=>prG g ys.length k) (bls:=λk=>isB (reE (rnM g.l) ys k)) (fls:=λ_=>[]) (k+1) ⟨hkl,show ys.length-(k+1)<ys.length-k by omega⟩ rfl rfl trivial ⟨rfl,rfl,rfl,rfl,rfl⟩ bL pT rfl⟩
 replace h2:¬(k:Int)<(ys.length:Nat):=h2
 obtain rfl:k=ys.length:=by omega
 have hr:=aSi (f:=rnM g.l) (aJ ys.length)
 show Sd _ _ _ _ _ _
 refine Sd.sq (aA gT mxd ⟨none,[0],cCq _ hr oM,rfl,rfl,rfl,λzs hz=>yR 6 0 (λj=>(zs.getD j default).C) rfl rfl (λj hj=>?_) ?_ bL (hJ zs) bL λA c _ _=>aA gT mxd ?_⟩)
 all_goals
  obtain⟨hz1,hz2⟩:=hz
  have hzl:zs.length=ys.length:=hz1.length_eq.trans hr
 ·exact uK zs j oM
 ·rw[gZ,hzl]
 rw[bJg] at hz1
 obtain⟨rs,r1,r2⟩:=aSj hz1 (bTn hys)
 exact⟨⟨A,c,zs⟩,⟨rs,r1,bCm r1 (hzl▸hz2) r2 ho hg,r2⟩,aM ⟨congrArg (λm=>CV.r A m c 4 λj=>(zs.getD j default).C) hzl.symm,rfl⟩ rfl trivial⟩
def cA (f:Nat->Rat):Nat->Rat
 |0=>0
 |n+1=>cA f n+f n
theorem bP {f g:Nat->Rat}:∀{n:Nat},(∀j,j<n->f j=g j)->cA f n=cA g n
 |0,_=>rfl
 |n+1,h=>by
  show cA f n+f n=cA g n+g n
  rw[bP λj hj=>h j (eA hj),h n (bE n)]
theorem jO {f g:Nat->Rat} {q:Rat}:∀{n:Nat},cA (λj=>f j+q*g j) n=cA f n+q*cA g n
 |0=>by show(0:Rat)=0+q*0;rw[bZ,bM]
 |n+1=>by
  show cA (λj=>f j+q*g j) n+(f n+q*g n)=cA f n+f n+q*(cA g n+g n)
  rw[jO];grind
theorem fP:∀{n:Nat} {f:Nat->Rat},(∀j,j<n->f j=0)->cA f n=0
 |0,_,_=>rfl
 |n+1,f,h=>by
  show cA f n+f n=0
  rw[fP λj hj=>h j (eA hj),h n (bE n),bM]
theorem kG {f:Nat->Rat} {m:Nat}:∀{n:Nat},m<n->(∀j,j≠m->f j=0)->cA f n=f m
 |0,h,_=>absurd h (aD _)
 |n+1,h,h0=>by
  show cA f n+f n=f m
  by_cases e:m=n
  ·subst e;rw[fP λj hj=>h0 j oM,fM]
  rw[kG oM h0,h0 n (fV e),bM]
def dtn (n:Nat) (es:List En) (x:Nat->Rat):Rat:=cA (λj=>Vm.get es (j:Nat)*x j) n
theorem bJi {n:Nat} {rs es fs:List En} {q:Rat} {x:Nat->Rat} (h:∀j:Int,Vm.get rs j=Vm.get es j+q*Vm.get fs j):dtn n rs x=dtn n es x+q*dtn n fs x:=by
 unfold dtn
 rw[<-jO]
 exact bP λj _=>by rw[h];grind
def dtl:List En->(Nat->Rat)->Rat
 |[],_=>0
 |e::es,x=>e.2*x e.1.toNat+dtl es x
theorem aBq {x:Nat->Rat}:∀{es fs:List En},dtl (es++fs) x=dtl es x+dtl fs x
 |[],fs=>by show dtl fs x=0+dtl fs x;rw[fM]
 |e::es,fs=>by
  show e.2*x e.1.toNat+dtl (es++fs) x=e.2*x e.1.toNat+dtl es x+dtl fs x
  rw[aBq,lS]
theorem tR {x:Nat->Rat} {es:List En} {e:En}:dtl (es++[e]) x=dtl es x+e.2*x e.1.toNat:=by
 rw[aBq];show _+(_+(0:Rat))=_;rw[bM]
theorem mP {x y:Nat->Rat}:∀{es:List En},(∀e∈es,x e.1.toNat=y e.1.toNat)->dtl es x=dtl es y
 |[],_=>rfl
 |e::es,h=>by
  show e.2*x e.1.toNat+dtl es x=e.2*y e.1.toNat+dtl es y
  rw[h e (.head _),mP λe' he=>h e' (.tail _ he)]
theorem aLl {x:Nat->Rat} {es fs:List En} (h:es.Perm fs):dtl es x=dtl fs x:=by
 induction h with
 |nil=>rfl
 |cons e _ ih=>show _+_=_+_;rw[ih]
 |swap a b l=>show _+(_+_)=_+(_+_);grind
 |trans _ _ h1 h2=>exact h1.trans h2
theorem tS (e:En) (es:List En) (j:Int):Vm.get (e::es) j=(if e.1=j then e.2 else 0)+Vm.get es j:=by
 rw[show e::es=[e]++es from rfl,get_append]
 congr 1
 by_cases h:e.1=j
 ·subst h;rw[if_pos rfl,get_head (eW _ _)]
 rw[if_neg h];exact get_none λe' he=>by rw[aI.1 he];exact h
theorem sI {n:Nat} {x:Nat->Rat}:∀{es:List En},(∀e∈es,0<=e.1/\e.1<(n:Nat))->dtl es x=dtn n es x
 |[],_=>(fP λj _=>by show(0:Rat)*x j=0;rw[cY]).symm
 |e::es,h=>by
  show e.2*x e.1.toNat+dtl es x=_
  rw[sI λe' he=>h e' (.tail _ he)]
  obtain⟨h1,h2⟩:=h e (.head _)
  have hs:e.2*x e.1.toNat=cA (λj=>(if e.1=(j:Nat) then e.2 else 0)*x j) n:=by
   rw[kG (m:=e.1.toNat) oM λj hj=>by rw[if_neg oM,cY]]
   rw[if_pos oM]
  rw[hs]
  unfold dtn
  have:=jO (f:=λj=>(if e.1=(j:Nat) then e.2 else 0)*x j) (g:=λj=>Vm.get es (j:Nat)*x j) (q:=1) (n:=n)
  rw[jW] at this
  rw[<-this]
  exact bP λj _=>by rw[tS];grind
theorem VOk.rg {es:List En} {n:Nat} (h:VOk es (n:Nat)):∀e∈es,0<=e.1/\e.1<(n:Nat):=λe he=>⟨(h.2 e he).1,(h.2 e he).2.1⟩
structure Elim (M:Nat->List En) (n k:Nat) (rw cl:Nat->Nat) (A:List Int) (es lw:Nat->List En):Prop where
 kn:A.length+k=n
 nd:A.Nodup
 mem:∀c:Int,c∈A↔∃j:Nat,c=(j:Nat)/\j<n/\∀i,i<k->cl i≠j
 rlt:∀j,j<k->rw j<n
 rinj:∀i j,i<k->j<k->rw i=rw j->i=j
 clt:∀j,j<k->cl j<n
 cinj:∀i j,i<k->j<k->cl i=cl j->i=j
 piv:∀j,j<k->Vm.get (es (rw j)) (cl j:Nat)≠0
 zl:∀j i,j<i->i<k->Vm.get (es (rw i)) (cl j:Nat)=0
 zu:∀j i,j<k->i<n->(∀t,t<k->rw t≠i)->Vm.get (es i) (cl j:Nat)=0
 lok:∀i,i<n->VOk (lw i) (k:Nat)
 lus:∀j,j<k->VOk (lw (rw j)) (j:Nat)
 sum:∀i,i<n->∀x,dtn n (M i) x=dtn n (es i) x+dtl (lw i) λj=>dtn n (es (rw j)) x
theorem Elim.start (M:Nat->List En) (n:Nat) (rw cl:Nat->Nat):Elim M n 0 rw cl (aL n n) M λ_=>[]:=by
 rw[bBr]
 refine⟨by simp,?_,λc=>?_,λj h=>absurd h (aD _),λi j h=>absurd h (aD _),λj h=>absurd h (aD _),λi j h=>absurd h (aD _),λj h=>absurd h (aD _),λj i _ h=>absurd h (aD _),λj i h=>absurd h (aD _),λi _=>⟨List.Pairwise.nil,λe he=>by cases he⟩,λj h=>absurd h (aD _),λi _ x=>?_⟩
 ·rw[cI,fN]
  exact(cI.1 kS).imp λh e=>h (iU e)
 ·rw[cB]
  constructor
  ·rintro⟨j,hj,rfl⟩;exact⟨j,rfl,cQ.1 hj,λi h=>absurd h (aD _)⟩
  rintro⟨j,rfl,hj,_⟩;exact⟨j,cQ.2 hj,rfl⟩
 show _=_+(0:Rat);rw[bM]
theorem aUv {A:List Int} {p:Nat} {c:Int} (hp:p<A.length) (hc:A.getD p 0=c):A=A.take p++c::A.drop (p+1)/\A.eraseIdx p=A.take p++A.drop (p+1):=by
 refine⟨?_,oQ A p⟩
 rw[<-hc,gd hp,<-eH hp,dP]
theorem Elim.next {M:Nat->List En} {n k r c p:Nat} {rw cl:Nat->Nat} {A:List Int} {es lw es' lw':Nat->List En} {P:Nat->Prop} (h:Elim M n k rw cl A es lw) (hr:r<n) (hu:∀t,t<k->rw t≠r) (hp:p<A.length) (hc:A.getD p 0=(c:Nat)) (hv:Vm.get (es r) (c:Nat)≠0) (hS:StR r c k es lw es' lw' P) (hP:∀i,P i↔(i<n/\¬(∃t,t<k/\rw t=i)/\i≠r)/\Vm.get (es i) (c:Nat)≠0):Elim M n (k+1) (upd rw k r) (upd cl k c) (A.eraseIdx p) es' lw':=by
 obtain⟨hA1,hA2⟩:=aUv hp hc
 have hcA:(c:Int)∈A:=by rw[hA1];exact dL _ (.head _)
 obtain⟨c',hcc,hcn,hcf⟩:=(h.mem _).1 hcA
 obtain rfl:c=c':=iU hcc
 have nr:¬P r:=λhh=>((hP r).1 hh).1.2.2 rfl
 have er:=(hS.no r nr).1
 have nus:∀t,t<k->¬P (rw t):=λt ht hh=>((hP _).1 hh).1.2.1 ⟨t,ht,rfl⟩
 have ur:∀t,t<k->upd rw k r t=rw t:=λt ht=>bD oM
 have uc:∀t,t<k->upd cl k c t=cl t:=λt ht=>bD oM
 have ee:∀t,t<k+1->es' (upd rw k r t)=es (upd rw k r t):=λt ht=>by
  by_cases e:t=k
  ·subst e;rw[bN];exact er
  rw[ur t oM];exact(hS.no _ (nus t oM)).1
 have zr:∀j,j<k->Vm.get (es r) (cl j:Nat)=0:=λj hj=>h.zu j r hj hr hu
 refine⟨?_,?_,λc1=>?_,λj hj=>?_,λi j hi hj he=>?_,λj hj=>?_,λi j hi hj he=>?_,λj hj=>?_,λj i hj hi=>?_,λj i hj hi hn=>?_,λi hi=>?_,λj hj=>?_,λi hi x=>?_⟩
 ·rw[rO hp];have:=h.kn;omega
 ·exact h.nd.sublist (List.eraseIdx_sublist _ _)
 ·have hnd:=h.nd
  rw[hA1] at hnd
  have hcn':(c:Int)∉A.take p++A.drop (p+1):=λhh=>by
   have:=(List.perm_middle.nodup_iff).1 hnd
   exact(jJ.1 this).1 hh
  have hme:c1∈A.eraseIdx p↔c1∈A/\c1≠(c:Nat):=by
   rw[hA2]
   constructor
   ·intro h1
    refine⟨?_,λe=>hcn' (e▸h1)⟩
    rw[hA1]
    rcases aV.1 h1 with h1|h1
    ·exact dB _ h1
    exact dL _ (.tail _ h1)
   rintro⟨h1,h2⟩
   rw[hA1] at h1
   rcases aV.1 h1 with h1|h1
   ·exact dB _ h1
   rcases bR.1 h1 with h1|h1
   ·exact absurd h1 h2
   exact dL _ h1
  rw[hme,h.mem]
  constructor
  ·rintro⟨⟨j,rfl,h1,h2⟩,h3⟩
   refine⟨j,rfl,h1,λi hi=>?_⟩
   by_cases e:i=k
   ·subst e;rw[bN];exact λe=>h3 (by rw[e])
   rw[uc i oM];exact h2 i oM
  rintro⟨j,rfl,h1,h2⟩
  refine⟨⟨j,rfl,h1,λi hi=>by rw[<-uc i hi];exact h2 i oM⟩,λe=>?_⟩
  have:=h2 k oM
  rw[bN] at this
  exact this (iU e).symm
 ·by_cases e:j=k
  ·subst e;rw[bN];exact hr
  rw[ur j oM];exact h.rlt j oM
 ·by_cases e1:i=k
  ·by_cases e2:j=k
   ·omega
   subst e1;rw[bN,ur j oM] at he;exact absurd he.symm (hu j oM)
  by_cases e2:j=k
  ·subst e2;rw[bN,ur i oM] at he;exact absurd he (hu i oM)
  rw[ur i oM,ur j oM] at he;exact h.rinj i j oM oM he
 ·by_cases e:j=k
  ·subst e;rw[bN];exact hcn
  rw[uc j oM];exact h.clt j oM
 ·by_cases e1:i=k
  ·by_cases e2:j=k
   ·omega
   subst e1;rw[bN,uc j oM] at he;exact absurd he.symm (hcf j oM)
  by_cases e2:j=k
  ·subst e2;rw[bN,uc i oM] at he;exact absurd he (hcf i oM)
  rw[uc i oM,uc j oM] at he;exact h.cinj i j oM oM he
 ·rw[ee j hj]
  by_cases e:j=k
  ·subst e;rw[bN,bN];exact hv
  rw[ur j oM,uc j oM];exact h.piv j oM
 ·rw[ee i hi,uc j oM]
  by_cases e:i=k
  ·subst e;rw[bN];exact zr j oM
  rw[ur i oM];exact h.zl j i hj oM
 ·have hnu:∀t,t<k->rw t≠i:=λt ht=>by rw[<-ur t ht];exact hn t oM
  have hnr:i≠r:=λe=>by
   have:=hn k oM
   rw[bN] at this
   exact this e.symm
  by_cases e:j=k
  ·subst e
   rw[bN]
   by_cases hPi:P i
   ·rw[(hS.yes i hPi).1]
    unfold fac
    rw[Rat.neg_mul,tE,kY _ hv,nV,<-kW,Rat.sub_self]
   rw[(hS.no i hPi).1]
   exact aT λhh=>hPi ((hP i).2 ⟨⟨hi,λ⟨t,ht,e⟩=>hnu t ht e,hnr⟩,hh⟩)
  rw[uc j oM]
  have h0:=h.zu j i oM hi hnu
  by_cases hPi:P i
  ·rw[(hS.yes i hPi).1,h0,zr j oM,bZ,bM]
  rw[(hS.no i hPi).1];exact h0
 ·have h0:=h.lok i hi
  by_cases hPi:P i
  ·rw[(hS.yes i hPi).2]
   refine⟨eM.2 ⟨h0.1,eW _ _,λa ha b hb=>?_⟩,λe he=>?_⟩
   ·rw[aI.1 hb]
    exact(h0.2 a ha).2.1
   rcases aV.1 he with he|he
   ·have:=h0.2 e he;exact⟨this.1,by omega,this.2.2⟩
   rw[aI.1 he]
   refine⟨by show(0:Int)<=(k:Nat);omega,by show(k:Int)<((k+1:Nat):Int);omega,?_⟩
   show fac es r c i≠0
   unfold fac
   intro hh
   rcases pZ.1 hh with hh|hh
   ·exact((hP i).1 hPi).2 hh
   have h9:=kY _ hv
   rw[hh,cY] at h9
   exact absurd h9 dC
  rw[(hS.no i hPi).2]
  exact⟨h0.1,λe he=>by have:=h0.2 e he;exact⟨this.1,by omega,this.2.2⟩⟩
 ·by_cases e:j=k
  ·subst e
   rw[bN,(hS.no r nr).2]
   exact h.lok r hr
  rw[ur j oM,(hS.no _ (nus j oM)).2];exact h.lus j oM
 have h0:=h.sum i hi x
 have hl:∀l:List En,VOk l (k:Nat)->dtl l (λj=>dtn n (es' (upd rw k r j)) x)=dtl l λj=>dtn n (es (rw j)) x:=λl hl=>mP λe he=>by
  have:=hl.2 e he
  have ht:e.1.toNat<k:=by omega
  show dtn n (es' (upd rw k r e.1.toNat)) x=dtn n (es (rw e.1.toNat)) x
  rw[ee _ oM,ur _ ht]
 by_cases hPi:P i
 ·rw[(hS.yes i hPi).2,tR,hl _ (h.lok i hi),bJi (hS.yes i hPi).1,h0]
  show _=_+(_+fac es r c i*dtn n (es' (upd rw k r (k:Nat))) x)
  rw[bN,er]
  grind
 rw[(hS.no i hPi).1,(hS.no i hPi).2,hl _ (h.lok i hi),h0]
theorem aSk {es:List En} {x:Nat->Rat} {j:Nat} {v:Rat}:∀{n:Nat},j<n->dtn n es (upd x j v)=dtn n es x+Vm.get es (j:Nat)*(v-x j)
 |0,h=>absurd h (aD _)
 |n+1,h=>by
  show dtn n es (upd x j v)+Vm.get es (n:Nat)*upd x j v n=dtn n es x+Vm.get es (n:Nat)*x n+Vm.get es (j:Nat)*(v-x j)
  by_cases e:j=n
  ·subst e
   have h1:dtn j es (upd x j v)=dtn j es x:=bP λi hi=>by rw[bD oM]
   rw[bN,h1];grind
  rw[aSk oM,bD (fV e)];grind
def Ker (M:Nat->List En) (n:Nat):Prop:=∃x:Nat->Rat,(∃i,i<n/\x i≠0)/\∀k,k<n->dtn n (M k) x=0
theorem bMf {x:Nat->Rat}:∀{es:List En},(∀e∈es,x e.1.toNat=0)->dtl es x=0
 |[],_=>rfl
 |e::es,h=>by
  show e.2*x e.1.toNat+dtl es x=0
  rw[h e (.head _),bMf λe' he=>h e' (.tail _ he),bZ,bM]
theorem Elim.ker {M:Nat->List En} {n k c:Nat} {rw cl:Nat->Nat} {A:List Int} {es lw:Nat->List En} (h:Elim M n k rw cl A es lw) (hcA:(c:Int)∈A) (hz:∀i,i<n->(∀t,t<k->rw t≠i)->Vm.get (es i) (c:Nat)=0):Ker M n:=by
 obtain⟨c',hc',hcn,hcf⟩:=(h.mem _).1 hcA
 obtain rfl:c=c':=iU hc'
 have key:∀m,m<=k->∃x:Nat->Rat,x c=1/\(∀j,j≠c->(∀t,k-m<=t->t<k->cl t≠j)->x j=0)/\∀t,k-m<=t->t<k->dtn n (es (rw t)) x=0:=λm=>by
  induction m with
  |zero=>exact λ_=>⟨λj=>if j=c then 1 else 0,if_pos rfl,λj hj _=>if_neg hj,λt h1 h2=>by omega⟩
  |succ m ih=>
   intro hm
   obtain⟨x,x1,x2,x3⟩:=ih oM
   obtain⟨t0,ht0⟩:∃t0,t0=k-(m+1):=⟨_,rfl⟩
   have htk:t0<k:=by omega
   have hp:=h.piv t0 htk
   have hcc:=hcf t0 htk
   have hcl:=h.clt t0 htk
   have h0:x (cl t0)=0:=x2 _ hcc λt h1 h2 e=>by
    have:=h.cinj t t0 h2 htk e
    omega
   refine⟨upd x (cl t0) (-(dtn n (es (rw t0)) x/Vm.get (es (rw t0)) (cl t0:Nat))),by rw[bD (fV hcc)];exact x1,λj hj ht=>?_,λt h1 h2=>?_⟩
   ·rw[bD (fV (ht t0 oM htk))]
    exact x2 j hj λt h1 h2=>ht t oM h2
   rw[aSk hcl,h0]
   by_cases e:t=t0
   ·subst e
    rw[jT]
    have h9:=kZ _ hp
    generalize Vm.get (es (rw t)) (cl t:Nat)=p at h9 hp
    generalize dtn n (es (rw t)) x=D
    have:D+p*(-(D*p⁻¹)-0)=D-D*(p*p⁻¹):=by grind
    rw[this,h9,nV,Rat.sub_self]
   rw[x3 t oM h2,h.zl t0 t oM h2,cY,bM]
 obtain⟨x,x1,x2,x3⟩:=key k (aJ _)
 rw[kU] at x2 x3
 have hE:∀i,i<n->dtn n (es i) x=0:=λi hi=>by
  by_cases hu:∃t,t<k/\rw t=i
  ·obtain⟨t,ht,rfl⟩:=hu
   exact x3 t (aC _) ht
  have hu':∀t,t<k->rw t≠i:=λt ht e=>hu ⟨t,ht,e⟩
  refine fP λj hj=>?_
  by_cases e:j=c
  ·subst e;rw[hz i hi hu',cY]
  by_cases hcl:∃t,t<k/\cl t=j
  ·obtain⟨t,ht,rfl⟩:=hcl
   rw[h.zu t i ht hi hu',cY]
  rw[x2 j e λt _ ht e2=>hcl ⟨t,ht,e2⟩,bZ]
 refine⟨x,⟨c,hcn,by rw[x1];decide⟩,λi hi=>?_⟩
 rw[h.sum i hi x,hE i hi,bMf λe he=>?_,bM]
 have:=(h.lok i hi).2 e he
 exact hE _ (h.rlt _ oM)
theorem aPa {p:List Int} {n c:Nat} (hP:PmL p n) (hc:c<n):∀{es:List En},(∀e∈es,0<=e.1/\e.1<(n:Nat))->Vm.get (es.map (rnE p)) (p.getD c 0)=Vm.get es (c:Nat)
 |[],_=>rfl
 |e::es,h=>by
  rw[eE,tS,tS,aPa hP hc λe' he=>h e' (.tail _ he)]
  congr 1
  obtain⟨h1,h2⟩:=h e (.head _)
  by_cases hh:e.1=(c:Nat)
  ·rw[if_pos hh,if_pos];rfl
   show p.getD e.1.toNat 0=_
   rw[hh];rfl
  rw[if_neg hh,if_neg]
  intro h3
  have:=hP.inj e.1.toNat c oM hc h3
  omega
theorem bCp {p:List Int} {n:Nat} {cl:Nat->Nat} {x:Nat->Rat} (hcl:∀c,c<n->cl (p.getD c 0).toNat=c):∀{es:List En},(∀e∈es,0<=e.1/\e.1<(n:Nat))->dtl (es.map (rnE p)) (λi=>x (cl i))=dtl es x
 |[],_=>rfl
 |e::es,h=>by
  show e.2*x (cl (p.getD e.1.toNat 0).toNat)+dtl (es.map (rnE p)) (λi=>x (cl i))=e.2*x e.1.toNat+dtl es x
  obtain⟨h1,h2⟩:=h e (.head _)
  rw[bCp hcl λe' he=>h e' (.tail _ he),hcl e.1.toNat oM]
theorem aPb {p:List Int} {n:Nat} {es rs:List En} (hP:PmL p n) (ho:VOk es (n:Nat)) (ha:Asc rs) (hp:rs.Perm (es.map (rnE p))):VOk rs (n:Nat):=⟨ha,λe he=>by
 obtain⟨e',he',rfl⟩:=cB.1 (hp.mem_iff.1 he)
 obtain⟨h1,h2,h3⟩:=ho.2 e' he'
 obtain⟨m,hm,hmn⟩:=hP.at' e'.1.toNat oM
 show 0<=p.getD e'.1.toNat 0/\p.getD e'.1.toNat 0<(n:Nat)/\_
 rw[hm]
 exact⟨by omega,by omega,h3⟩⟩
structure LuOk (M:Nat->List En) (n:Nat) (rw cl:Nat->Nat) (Lw Up:Nat->List En):Prop where
 rlt:∀j,j<n->rw j<n
 rinj:∀i j,i<n->j<n->rw i=rw j->i=j
 clt:∀j,j<n->cl j<n
 cinj:∀i j,i<n->j<n->cl i=cl j->i=j
 low:∀k,k<n->∃l,Lw k=l++[((k:Int),1)]/\VOk l (k:Nat)
 up:∀k,k<n->∃p u,Up k=((k:Int),p)::u/\VOk (Up k) (n:Nat)
 eq:∀k,k<n->∀x,dtn n (M (rw k)) x=dtl (Lw k) λj=>dtn n (Up j) λi=>x (cl i)
theorem oD {f:Nat->Nat} {n:Nat} (h:∀j,j<n->f j<n) (hi:∀i j,i<n->j<n->f i=f j->i=j):∀c,c<n->∃j,j<n/\f j=c:=λc hc=>aT λhn=>by
 have h1:(c::(List.range n).map f).Nodup:=by
  refine jJ.2 ⟨λhh=>?_,?_⟩
  ·obtain⟨j,hj,he⟩:=cB.1 hh
   exact hn ⟨j,cQ.1 hj,he⟩
  rw[cI,fN]
  exact(cI.1 (kS (n:=n))).imp_of_mem λ{a b} ha hb hab he=>hab (hi a b (cQ.1 ha) (cQ.1 hb) he)
 have h2:=pJ (n:=n) h1 λi hi=>by
  rcases bR.1 hi with rfl|hi
  ·exact hc
  obtain⟨j,hj,rfl⟩:=cB.1 hi
  exact h j (cQ.1 hj)
 simp at h2
 omega
abbrev nL (n:Nat) (f:Nat->Nat):List Int:=(List.range n).map λj=>((f j:Nat):Int)
theorem xM {n j:Nat} {f:Nat->Nat} (h:j<n):(nL n f).getD j 0=(f j:Nat):=by unfold nL;simp[h]
theorem bCq {n:Nat} {f:Nat->Nat} (h:∀j,j<n->f j<n) (hi:∀i j,i<n->j<n->f i=f j->i=j):PmL (nL n f) n:=⟨by simp,λi hin=>⟨f i,xM hin,h i hin⟩,λi j hin hjn he=>by rw[xM hin,xM hjn] at he;exact hi i j hin hjn (iU he)⟩
theorem Elim.all {M:Nat->List En} {n:Nat} {rw cl pl:Nat->Nat} {A:List Int} {es lw:Nat->List En} (h:Elim M n n rw cl A es lw) (hp:∀j,j<n->pl (cl j)=j):PmL (nL n pl) n:=by
 have hs:=oD h.clt h.cinj
 refine bCq (λc hc=>?_) λc d hc hd he=>?_
 ·obtain⟨j,hj,rfl⟩:=hs c hc;rw[hp j hj];exact hj
 obtain⟨i,hi,rfl⟩:=hs c hc
 obtain⟨j,hj,rfl⟩:=hs d hd
 rw[hp i hi,hp j hj] at he
 rw[he]
theorem Elim.lu {M:Nat->List En} {n:Nat} {rw cl pl:Nat->Nat} {A:List Int} {es lw Up:Nat->List En} (h:Elim M n n rw cl A es lw) (hp:∀j,j<n->pl (cl j)=j) (ho:∀i,i<n->VOk (es i) (n:Nat)) (hU:∀k,k<n->Asc (Up k)/\(Up k).Perm ((es (rw k)).map (rnE (nL n pl)))):LuOk M n rw cl (λk=>lw (rw k)++[((k:Int),1)]) Up:=by
 have hP:=h.all hp
 have hs:=oD h.clt h.cinj
 have hcl:∀c,c<n->cl ((nL n pl).getD c 0).toNat=c:=λc hc=>by
  obtain⟨j,hj,rfl⟩:=hs c hc
  rw[xM hc,hp j hj];rfl
 have hV:∀k,k<n->VOk (Up k) (n:Nat):=λk hk=>aPb hP (ho _ (h.rlt k hk)) (hU k hk).1 (hU k hk).2
 have hg:∀k j,k<n->j<n->Vm.get (Up k) (j:Nat)=Vm.get (es (rw k)) (cl j:Nat):=λk j hk hj=>by
  have:=aPa hP (h.clt j hj) (ho _ (h.rlt k hk)).rg
  rw[xM (h.clt j hj),hp j hj] at this
  rw[get_perm (hU k hk).2,this]
 refine⟨h.rlt,h.rinj,h.clt,h.cinj,λk hk=>⟨lw (rw k),rfl,h.lus k hk⟩,λk hk=>?_,λk hk x=>?_⟩
 ·have h1:Vm.get (Up k) (k:Nat)≠0:=by rw[hg k k hk hk];exact h.piv k hk
  obtain⟨e,he,hek⟩:=(sY (hV k hk) _).1 h1
  cases hu:Up k with
  |nil=>rw[hu] at he;cases he
  |cons e0 u=>
   have hv:=hV k hk
   have ha:=(hU k hk).1
   rw[hu] at he ha
   have h0:=hv.2 e0 (by rw[hu];exact .head _)
   have hge:¬e0.1<(k:Nat):=λhlt=>by
    have h2:=hg k e0.1.toNat hk oM
    rw[h.zl e0.1.toNat k oM hk,show((e0.1.toNat:Nat):Int)=e0.1 by omega,hu,get_head ha] at h2
    exact h0.2.2 h2
   have hle:e0.1<=(k:Nat):=by
    rcases bR.1 he with rfl|he
    ·omega
    have:=ha.head e he;omega
   refine⟨e0.2,u,?_,hu▸hv⟩
   rw[show(k:Int)=e0.1 by omega]
 show _=dtl (lw (rw k)++[((k:Int),1)]) _
 have hx:∀j,j<n->dtn n (es (rw j)) x=dtn n (Up j) λi=>x (cl i):=λj hj=>by
  rw[<-sI (hV j hj).rg,aLl (hU j hj).2,bCp hcl (ho _ (h.rlt j hj)).rg,sI (ho _ (h.rlt j hj)).rg]
 rw[h.sum _ (h.rlt k hk),tR,hx k hk,uP]
 congr 1
 ·refine mP λe he=>hx _ ?_
  have:=(h.lus k hk).2 e he
  omega
 show _=(1:Rat)*_;rw[jW];rfl
def prT (q:Nat->List Nat->Tr->Tr):Nat->List Nat->Tr->Tr
 |0,_,t=>t
 |f+1,l,t=>l.foldr (λi r=> .alt i (q i (l.erase i) (prT q f (l.erase i) t)) r) .nil
def cIw:Nat->Tr->Tr
 |7,t=> .alt 2008 t .nil
 |12,t=> .alt 2013 t .nil
 |_,t=>t
def cIx (i:Nat) (l:List Nat) (t:Tr):Tr:=cIw i (bif (l.filter λj=>!Nat.beq j 15).isEmpty&&!Nat.beq i 15 then .alt 2014 t .nil else t)
theorem gs0 {nb:Nat} {s:SS} {σ:Type} {S:σ->SS} {C:σ->Prop} (t i:Nat) {n:Nat} (_:fR s.sl t=some (.c (.s i n))) (h:Gt nb s S C):Gt nb s S C:=h
def bd (B:Nat):Nat->Nat
 |0=>B
 |k+1=>4*bd B k+1
theorem nD {B k n:Nat} (h:k<=n):bd B k<=bd B n:=by
 induction h with
 |refl=>exact aJ _
 |step _ ih=>exact aG ih (by show _<=4*bd B _+1;omega)
theorem xV {B:Nat} (h:1<=B) (k:Nat):1<=bd B k:=aG h (nD (aC k))
theorem ElOk.cg {x:El} {n:Nat} {es lw:Nat->List En} {u v:Nat->Prop} (h:ElOk x n es lw u) (hu:∀i,u i↔v i):ElOk x n es lw v:=⟨h.row,h.ok,h.low,h.ca,h.nd,λj hj i=>by rw[h.mem j hj i,hu i]⟩
structure LuM where
 R:Sl Int
 K:Sl Int
 L:MatM
 U:MatM
abbrev LuM.C (f:LuM):List CV:=[cM f.R,cM f.K,iC f.L.r,iC f.L.c,mV f.L.d,iC f.U.r,iC f.U.c,mV f.U.d]
abbrev luZ:List CV:=[.v (.slice none 0 0),.v (.slice none 0 0),iC 0,iC 0,.v (.slice none 0 0),iC 0,iC 0,.v (.slice none 0 0)]
abbrev ioC (n:Nat) (f:Nat->Nat):List CV:=eJ n λj=>iC (f j:Nat)
abbrev bJj (m:MatM) (n:Nat) (r:BL):BL:=[(24,0,m.C),(85,0,luZ),(3,1,List.replicate n (iC 0)),(3,1,List.replicate n (iC 0)),(65,1,List.replicate n (.v (.slice none 0 0))),(65,1,List.replicate n (.v (.slice none 0 0))),(85,0,[.s 2 n,.s 3 n,iC n,iC n,.s 4 n,iC n,iC n,.s 5 n])]++r
abbrev bJk (n:Nat):List (Nat×DV):=[(5,.c (.p 6 0)),(4,.c (iC n)),(1,.c (.p 0 0)),(2,.c (.p 1 0))]
def cIy:Ord:=.joinX [] [2000,2002,2004,2005,2006,2009,2010,2011] (prT cIx 5 [1,3,7,12,15] (trS [1016]))
structure FaI (M:Nat->List En) (B n k:Nat) (x:El) (es lw:Nat->List En) (A:List Int) (rw cl pl:Nat->Nat):Prop where
 hk:k<=n
 he:Elim M n k rw cl A es lw
 hx:ElOk x n es lw (λi=>∃t,t<k/\rw t=i)
 be:rbM es n (bd B (min k (n-1)))
 bl:rbM lw n (bd B (min k (n-1)))
 hp:∀j,j<k->pl (cl j)=j
structure FaG where
 k:Nat
 x:El
 es:Nat->List En
 lw:Nat->List En
 A:List Int
 rw:Nat->Nat
 cl:Nat->Nat
 pl:Nat->Nat
abbrev faB (m:MatM) (n a:Nat) (x:El) (A:List Int) (rw cl pl:Nat->Nat):BL:=[(24,0,m.C),(85,0,luZ),(3,1,ioC n rw),(3,1,ioC n cl),(65,1,List.replicate n (.v (.slice none 0 0))),(65,1,List.replicate n (.v (.slice none 0 0))),(85,0,[.s 2 n,.s 3 n,iC n,iC n,.s 4 n,iC n,iC n,.s 5 n]),(3,1,ioC n pl),(24,0,m.C),elR n x,elL n x,elC n x,elA A,elE 9 10 11 12 n a]
theorem bCr {m:MatM} {n a:Nat} {x:El} {A:List Int} {rw cl pl:Nat->Nat}:scB 14 (faB m n a x A rw cl pl):=aB rfl (aB rfl (aB (bT (aZ λ_ _=>rfl)) (aB (bT (aZ λ_ _=>rfl)) (aB (bT (pS rfl)) (aB (bT (pS rfl)) (aB rfl (aB (bT (aZ λ_ _=>rfl)) (aB rfl (aB (bT (aZ λ_ _=>rfl)) (aB (bT (aZ λ_ _=>rfl)) (aB (bT (aZ λ_ _=>rfl)) (aB (bT (cJ _)) (aB rfl aY)))))))))))))
abbrev faG (n k:Nat):List (Nat×DV):=[(46,.c (iC k)),(45,.c (iC n)),(7,.c (.p 13 0)),(5,.c (.p 6 0)),(6,.c (.s 7 n)),(2,.c (.p 1 0))]
theorem aPc {n k:Nat} {c1 c2:CV} (h1:(List.replicate n (iC 0))[k]? =some c1) (h2:(ioC n λ_=>0)[k]? =some c2):LeC c1 c2:=sX (λ_ _=>eX _) k c1 c2 h1 h2
theorem aPd {n j v:Nat} {f:Nat->Nat} (h:j<n):lE (ioC n f) (j*1) [iC (v:Nat)]=ioC n (upd f j v)/\j*1+1<=(ioC n f).length:=iF h λi _=>by
 by_cases e:i=j
 ·subst e;rw[if_pos rfl,bN]
 rw[if_neg e,bD e]
def cIz (n:Nat) (x:El) (A:List Int):Option (Nat×Nat×Nat)->OutF
 |none=>⟨.t [.c (iC 0),.c (iC 0),.c (.v (.bool false))],chB n A.length x A,[CF n x],∃c:Nat,c<n/\(c:Int)∈A/\x.I c=[]⟩
 |some (r,c,p)=>⟨.t [.c (iC r),.c (iC c),.c (.v (.bool true))],chB n (A.eraseIdx p).length x (A.eraseIdx p),[CF n x],(p<A.length/\A.getD p 0=(c:Nat))/\c<n/\r∈jN (x.I c)⟩
theorem aUw (x:El) {n:Nat} {A:List Int} {es lw:Nat->List En} {used:Nat->Prop} (h:ElOk x n es lw used) (h0:0<A.length) (hl:A.length<=4096) (hA:∀a∈A,0<=a/\a<(n:Nat)):CtrF Tryz.prog zG chL [.c (.p 0 0)] (chB n A.length x A) [CF n x] (cIz n x A):=(bBz x h h0 hl hA).re λg hg=>⟨g,by
 match g,hg with
 |none,hg=>exact⟨hg,rfl,rfl,rfl⟩
 |some (r,c,p),hg=>
  refine⟨hg,rfl,?_,rfl⟩
  show chB n _ x _=chB n _ x _
  rw[rO hg.1.1]⟩
def cCv:Ord:=.treeX [] [2000,1,2002,2003,4,2005,2006,2007,2008,2009,2010] (trS [2011,12,2013,14,2015,1016])
theorem bCs {n:Nat} {f:Nat->Nat} (j:Nat) (h:j<n):[iC ((nL n f).getD j 0)]=((ioC n f).drop (j*1)).take 1:=by
 have h1:=eZ (P:=λj=>iC (f j:Nat)) h
 rw[bU] at h1
 rw[xM h,bU,eH (by rw[eC];exact h)]
 rw[aE (by rw[eC];exact h)] at h1
 injection h1 with h1
 rw[h1];rfl
theorem aSl {T n c:Nat} {A:Option Nat} {f:Nat->Nat}:FrC ⟨T,1,1,λ_=>A,λ_=>c,λ_=>ioC n f⟩ (.h A n c) (cM ⟨A.map λb=>⟨b,0,none⟩,c,nL n f⟩):=⟨0,n,λj=>[iC ((nL n f).getD j 0)],bL,rfl,by unfold cM Sl.R;rw[aU,iJ],by rw[eC,bU],λk hk=>bCs k hk⟩
structure FbG where
 k:Nat
 LA:Nat->Option Nat
 Lc:Nat->Nat
 G:Nat->List EntM
 HA:Nat->Option Nat
 Hn:Nat->Nat
 Hc:Nat->Nat
 S:Nat->Sl EntM
 Up:Nat->List En
structure FbI (n:Nat) (x:El) (es lw:Nat->List En) (rw pl:Nat->Nat) (g:FbG):Prop where
 hk:g.k<=n
 hu:∀j,j<g.k->Ek (g.S j).l (g.Up j)/\Asc (g.Up j)/\(g.Up j).Perm ((es (rw j)).map (rnE (nL n pl)))
 hd:∀j,j<g.k->(g.LA (rw j)=g.HA j/\g.Lc (rw j)=g.Hc j/\(g.G (rw j)).length=g.Hn j)/\Ek (g.G (rw j)) (lw (rw j)++[((j:Int),1)])
 hr:∀i,i<n->(∀t,t<g.k->rw t≠i)->g.LA i=x.LA i/\g.Lc i=x.Lc i/\g.G i=x.L i
abbrev fbH (g:FbG):Nat->CV:=λj=> .h (g.HA j) (g.Hn j) (g.Hc j)
abbrev fbB (m:MatM) (n a:Nat) (x:El) (A:List Int) (rw cl:Nat->Nat) (g:FbG):BL:=[(24,0,m.C),(85,0,luZ),(3,1,ioC n rw),(3,1,ioC n cl),(65,1,eJ n (fbH g)),(65,1,eJ n λj=>cF (g.S j)),(85,0,[.s 2 n,.s 3 n,iC n,iC n,.s 4 n,iC n,iC n,.s 5 n]),(3,1,[]),(24,0,m.C),elR n x,elL n x,elC n x,elA A,elE 9 10 11 12 n a]
theorem bCt {m:MatM} {n a:Nat} {x:El} {A:List Int} {rw cl:Nat->Nat} {g:FbG}:scB 14 (fbB m n a x A rw cl g):=aB rfl (aB rfl (aB (bT (aZ λ_ _=>rfl)) (aB (bT (aZ λ_ _=>rfl)) (aB (bT (aZ λ_ _=>rfl)) (aB (bT (aZ λ_ _=>rfl)) (aB rfl (aB rfl (aB rfl (aB (bT (aZ λ_ _=>rfl)) (aB (bT (aZ λ_ _=>rfl)) (aB (bT (aZ λ_ _=>rfl)) (aB (bT (cJ _)) (aB rfl aY)))))))))))))
abbrev fbF (n:Nat) (x:El) (g:FbG):List Fam:=[⟨82,4,n,g.LA,g.Lc,λj=>ecs (g.G j)⟩,CF n x]
abbrev fbS (n:Nat) (P:Sl Int) (k:Nat):List (Nat×DV):=[(81,.c (iC k)),(79,.c (.s 2 n)),(80,.c (iC n)),(7,.c (.p 13 0)),(5,.c (.p 6 0)),(6,.c (cM P)),(2,.c (.p 1 0))]
def cCw:Ord:=.treeX [] [2000,2001,2,2003,2004,2005,2006,7,2008,2009,1010,2011] (trS [12,2013,14,15,2016,1017])
def cCx:Ord:=.treeX [] [2000,2001,2,2003,2004,2005,2006,7,2008,2009,1010,2011] (trS [12,2013,2014,2015,2016,1017])
theorem cm {i:Nat} {l:List CV} (h:∀c∈l,fO c=true):∀c∈l,mJ i c=false:=λc hc=>fC (h c hc)
theorem sk {i a:Nat} {A:Option Nat} {l:List CV} (h:∀c∈l,fO c=true):l.map (sA i A a)=l:=(eK λc hc=>oC c (h c hc)).trans (wU _)
theorem aPe {B:Nat} (h:1<=B):rb 1 B:=⟨by show len 1<=B;rw[show len 1=1 by decide];omega,by show len 1<=B;rw[show len 1=1 by decide];omega⟩
theorem bCu {l:List En} {k n:Nat} (h:VOk l (k:Nat)) (hk:k<n):VOk (l++[((k:Int),1)]) (n:Nat):=⟨eM.2 ⟨h.1,eW _ _,λa ha b hb=>by rw[aI.1 hb];exact(h.2 a ha).2.1⟩,λe he=>by
 rcases aV.1 he with he|he
 ·have:=h.2 e he;exact⟨this.1,by omega,this.2.2⟩
 rw[aI.1 he];exact⟨by show(0:Int)<=(k:Nat);omega,by show(k:Int)<(n:Nat);omega,show(1:Rat)≠0 by decide⟩⟩
abbrev bCv:FuncId:=46
theorem cCy:Ent Tryz.prog bCv:=aW func46 rfl kR
theorem cCz:Tryz.prog.funcs[bCv]? =some Tryz.f46:=func46
theorem bCw (m:MatM) {M:Nat->List En} {n B:Nat} (h:Mr m M n n B) (hb:rbM M n B) (h1:1<=B) (hB:bd B (n-1)<=4398046511104) (hn:n<=12):Ctr Tryz.prog bCv [] [.a m.C] [] (λg:Option (LuM×(Nat->Nat)×(Nat->Nat)×(Nat->List En)×(Nat->List En))=>match g with
 |none=>⟨.t [.a luZ,.c (iC 6)],[],Ker M n⟩
 |some (f,rw,cl,Lw,Up)=>⟨.t [.a f.C,.c (iC 0)],[],(f.R.l=nL n rw/\f.K.l=nL n cl/\Mx f.L Lw n/\Mx f.U Up n)/\LuOk M n rw cl Lw Up/\rbM Lw n (bd B n)/\rbM Up n (bd B n)⟩):=by
 obtain⟨mr,mc,md⟩:=m
 obtain rfl:mr=(n:Nat):=h.r
 obtain rfl:mc=(n:Nat):=h.c
 have hBB:B<=4398046511104:=aG (nD (aC (n-1))) hB
 have mk1:n<=maxLen:=by simp only[maxLen];omega
 have fin1:∀(sl:List (Nat×DV)),vT (λ_=>true) [] [] [] sl->AllC sl (bJk n)->Gt 0 ⟨sl,[],bJj ⟨n,n,md⟩ n [],[]⟩ (σ:=Unit) (λ_=>⟨bJk n++[],[],bJj ⟨n,n,md⟩ n [],[]⟩) (λ_=>True):=λsl ht ha=>by
  refine @bS 0 _ (λ_=>true) [] (λt d ht=>by cases ht) Unit (λ_=>bJk n) (λ_=>bJj ⟨n,n,md⟩ n []) (λ_=>[]) _ () trivial ht ?_ trivial ha (aC _) ?_ rfl
  ·exact⟨rfl,rfl,rfl,rfl,rfl,rfl,rfl⟩
  exact aB rfl (aB rfl (aB (bT (pS rfl)) (aB (bT (pS rfl)) (aB (bT (pS rfl)) (aB (bT (pS rfl)) (aB rfl aY))))))
 refine aX gT cCy cCz rfl rfl rfl bL aS (aA gT mxd ⟨[],aDm _ h hBB oM oM,rfl,rfl,rfl,λ_ _=>⟨λhh=>absurd trivial hh,λ_=>aA gT mxd ⟨λhh=>absurd rfl hh,λ_=>aA gT mxd ?_⟩⟩⟩)
 refine⟨cIy,by kernel_rfl,Unit,λ_=>⟨bJk n++[],[],bJj ⟨n,n,md⟩ n [],[]⟩,λ_=>True,?_,λ_ _=>?_⟩
 ·refine⟨?_,?_,?_,?_,?_⟩
  all_goals (first|refine⟨n,⟨rfl,rfl,by show 8*n<=_;omega,mk1⟩,rfl,?_⟩|refine⟨n,⟨rfl,rfl,by show 24*n<=_;omega,mk1⟩,rfl,?_⟩|refine⟨rfl,?_⟩)
  all_goals refine⟨?_,?_,?_,?_⟩
  all_goals (first|refine⟨n,⟨rfl,rfl,by show 8*n<=_;omega,mk1⟩,rfl,?_⟩|refine⟨n,⟨rfl,rfl,by show 24*n<=_;omega,mk1⟩,rfl,?_⟩|refine⟨rfl,?_⟩)
  all_goals refine⟨?_,?_,?_⟩
  all_goals (first|refine⟨n,⟨rfl,rfl,by show 8*n<=_;omega,mk1⟩,rfl,?_⟩|refine⟨n,⟨rfl,rfl,by show 24*n<=_;omega,mk1⟩,rfl,?_⟩|refine⟨rfl,?_⟩)
  all_goals refine⟨?_,?_⟩
  all_goals (first|refine⟨n,⟨rfl,rfl,by show 8*n<=_;omega,mk1⟩,rfl,?_⟩|refine⟨n,⟨rfl,rfl,by show 24*n<=_;omega,mk1⟩,rfl,?_⟩|refine⟨rfl,?_⟩)
  all_goals (first|refine⟨n,⟨rfl,rfl,by show 8*n<=_;omega,mk1⟩,rfl,?_⟩|refine⟨n,⟨rfl,rfl,by show 24*n<=_;omega,mk1⟩,rfl,?_⟩|refine⟨rfl,?_⟩)
  all_goals (first|refine gs0 27 2 rfl ?_|refine gs0 27 3 rfl (gsw 2 3 rfl rfl bL bL rfl ⟨_,rpm aN rfl,_,rpm aN rfl,_,rpm aN rfl,_,rpm aN rfl,bL,?_⟩)|refine gs0 27 4 rfl (gsw 2 4 rfl rfl bL bL rfl ⟨_,rpm aN rfl,_,rpm aN rfl,_,rpm aN rfl,_,rpm aN rfl,bL,?_⟩)|refine gs0 27 5 rfl (gsw 2 5 rfl rfl bL bL rfl ⟨_,rpm aN rfl,_,rpm aN rfl,_,rpm aN rfl,_,rpm aN rfl,bL,?_⟩)|refine gs0 27 6 rfl (gsw 2 6 rfl rfl bL bL rfl ⟨_,rpm aN rfl,_,rpm aN rfl,_,rpm aN rfl,_,rpm aN rfl,bL,?_⟩))
  all_goals (first|refine gs0 29 3 rfl ?_|refine gs0 29 4 rfl (gsw 3 4 rfl rfl bL bL rfl ⟨_,rpm aN rfl,_,rpm aN rfl,_,rpm aN rfl,_,rpm aN rfl,bL,?_⟩)|refine gs0 29 5 rfl (gsw 3 5 rfl rfl bL bL rfl ⟨_,rpm aN rfl,_,rpm aN rfl,_,rpm aN rfl,_,rpm aN rfl,bL,?_⟩)|refine gs0 29 6 rfl (gsw 3 6 rfl rfl bL bL rfl ⟨_,rpm aN rfl,_,rpm aN rfl,_,rpm aN rfl,_,rpm aN rfl,bL,?_⟩))
  all_goals (first|refine gs0 33 4 rfl ?_|refine gs0 33 5 rfl (gsw 4 5 rfl rfl bL bL rfl ⟨_,rpm aN rfl,_,rpm aN rfl,_,rpm aN rfl,_,rpm aN rfl,bL,?_⟩)|refine gs0 33 6 rfl (gsw 4 6 rfl rfl bL bL rfl ⟨_,rpm aN rfl,_,rpm aN rfl,_,rpm aN rfl,_,rpm aN rfl,bL,?_⟩))
  all_goals (first|refine gs0 38 5 rfl ?_|refine gs0 38 6 rfl (gsw 5 6 rfl rfl bL bL rfl ⟨_,rpm aN rfl,_,rpm aN rfl,_,rpm aN rfl,_,rpm aN rfl,bL,?_⟩))
  all_goals exact fin1 _ (by rfl) (by exact⟨rfl,rfl,rfl,rfl⟩)
 refine⟨n,⟨rfl,rfl,by show 8*n<=_;omega,mk1⟩,[],bIr ⟨n,n,md⟩ h hb h1 hBB oM,rfl,rfl,rfl,λx hx=>?_⟩
 replace hx:ElOk x n M (λ_=>[]) (λ_=>False):=hx
 show Sd _ _ _ _ _ _
 refine gK tSd 2 (ioC n λ_=>0) rfl (by rw[eC,dE]) (λ_ _ _=>aPc) ?_
 refine gK tSd 3 (ioC n λ_=>0) rfl (by rw[eC,dE]) (λ_ _ _=>aPc) ?_
 refine gK tSd 7 (ioC n λ_=>0) rfl (by rw[eC,dE]) (λ_ _ _=>aPc) ?_
 refine cO (λ_=>true) (λg:FaG=>faG n g.k) (λg=>faB ⟨n,n,md⟩ n g.A.length g.x g.A g.rw g.cl g.pl) (λg=>[LF n g.x,CF n g.x]) (λg=>FaI M B n g.k g.x g.es g.lw g.A g.rw g.cl g.pl) (λg=>n-g.k) λhM=>⟨bS hM (chg:=λg:FaG=>faG n g.k) (bls:=λg=>faB ⟨n,n,md⟩ n g.A.length g.x g.A g.rw g.cl g.pl) (fls:=λg=>[LF n g.x,CF n g.x]) ⟨0,x,M,λ_=>[],aL n n,λ_=>0,λ_=>0,λ_=>0⟩ ⟨aC _,Elim.start M n _ _,hx.cg λi=>⟨False.elim,λ⟨t,ht,_⟩=>absurd ht (aD _)⟩,(by show rbM M n (bd B (min 0 (n-1)));rw[Nat.zero_min];exact hb),λi _ e he=>(by cases he),λj hj=>absurd hj (aD _)⟩ rfl ⟨rfl,rfl,rfl,rfl,rfl,rfl,rfl,rfl,rfl,rfl,rfl,rfl,rfl,?_⟩ ⟨rfl,rfl,trivial⟩ ⟨rfl,rfl,rfl,rfl,rfl,rfl⟩ bL bCr rfl,λ⟨k,x,es,lw,A,rw,cl,pl⟩ hI=>aA gT mxd ⟨λh2=>aA gT mxd ?_,λh2=>aA gT mxd ?_⟩⟩
 ·show elE 9 10 11 12 n n=elE 9 10 11 12 n (aL n n).length
  rw[bBr];simp
 ·replace h2:(k:Int)<(n:Nat):=h2
  have hkn:k<n:=by omega
  obtain⟨-,he,hx,hbe,hbl,hpp⟩:=hI
  replace he:Elim M n k rw cl A es lw:=he
  replace hx:ElOk x n es lw (λi=>∃t,t<k/\rw t=i):=hx
  replace hbe:rbM es n (bd B (min k (n-1))):=hbe
  replace hbl:rbM lw n (bd B (min k (n-1))):=hbl
  replace hpp:∀j,j<k->pl (cl j)=j:=hpp
  have hAl:=he.kn
  have hA:∀a∈A,0<=a/\a<(n:Nat):=λa ha=>by
   obtain⟨j,rfl,hj,_⟩:=(he.mem a).1 ha
   omega
  refine⟨[13,9,10,11,12,1001],aUw x hx oM oM hA,rfl,rfl,rfl,λg hg=>?_⟩
  match g,hg with
  |none,⟨c,hc,hcA,hI⟩=>
   have hker:Ker M n:=he.ker hcA λi hi hu=>aT λhne=>by
    have:=(hx.mem c hc i).2 ⟨⟨hi,λ⟨t,ht,e⟩=>hu t ht e⟩,hne⟩
    rw[hI] at this
    cases this
   exact⟨none,hker,aM ⟨rfl,rfl⟩ rfl trivial⟩
  |some (r,c,p),⟨⟨hp,hc⟩,hcn,hrk⟩=>
   obtain⟨⟨hr,hu⟩,hpv⟩:=(hx.mem c hcn r).1 hrk
   have hbm:bd B (min k (n-1))<=4398046511104:=aG (nD oM) hB
   have hbb:∀i,i<n->¬(∃t,t<k/\rw t=i)->i≠r->k+1<n:=λi hi hui hir=>aT λhk2=>by
    obtain rfl:n=k+1:=by omega
    obtain⟨t,ht,e⟩:=oD (f:=upd rw k r) (n:=k+1) (λj hj=>by
     by_cases e:j=k
     ·subst e;rw[bN];exact hr
     ·rw[bD e];exact he.rlt j oM) (λa b ha hb e=>by
     by_cases e1:a=k
     ·by_cases e2:b=k
      ·omega
      subst e1;rw[bN,bD e2] at e;exact absurd ⟨b,by omega,e.symm⟩ hu
     by_cases e2:b=k
     ·subst e2;rw[bN,bD e1] at e;exact absurd ⟨a,by omega,e⟩ hu
     rw[bD e1,bD e2] at e;exact he.rinj a b oM oM e) i hi
    by_cases e2:t=k
    ·subst e2;rw[bN] at e;exact hir e.symm
    rw[bD e2] at e;exact hui ⟨t,by omega,e⟩
   have hbo:∀i,i<n->¬(∃t,t<k/\rw t=i)->i≠r->4*bd B (min k (n-1))+1<=4398046511104:=λi hi hui hir=>by
    have h7:=hbb i hi hui hir
    rw[eO oM]
    exact aG (nD (k:=k+1) oM) hB
   refine⟨cCv,by kernel_rfl,k,⟨rfl,hkn,dD hkn⟩,_,aPd hkn,rfl,k,⟨rfl,hkn,dD hkn⟩,_,aPd hkn,rfl,c,⟨rfl,hcn,dD hcn⟩,_,aPd hcn,?_⟩
   refine⟨[13,9,10,11,12,1000,1001],bTa x (A:=A.eraseIdx p) (kk:=k) hx oM hr hu hcn hpv hbe hbl (xV h1 _) hbm hbo oM (λi hi=>by have:=jY (he.lok i hi);omega),rfl,rfl,rfl,λ⟨x',es',lw'⟩ ⟨⟨hx',hS⟩,hbe',hbl'⟩=>?_⟩
   have hbx:rbM es' n (bd B (min (k+1) (n-1)))/\rbM lw' n (bd B (min (k+1) (n-1))):=by
    by_cases hk2:k+1<n
    ·rw[show min (k+1) (n-1)=k+1 by omega]
     rw[show min k (n-1)=k by omega] at hbe' hbl'
     exact⟨hbe',hbl'⟩
    rw[show min (k+1) (n-1)=min k (n-1) by omega]
    have h9:∀i,es' i=es i/\lw' i=lw i:=λi=>hS.no i λhh=>hk2 (hbb i hh.1.1 hh.1.2.1 hh.1.2.2)
    exact⟨λi hi=>by rw[(h9 i).1];exact hbe i hi,λi hi=>by rw[(h9 i).2];exact hbl i hi⟩
   replace hu:∀t,t<k->rw t≠r:=λt ht e=>hu ⟨t,ht,e⟩
   have he':=he.next hr hu hp hc hpv hS λi=>mS
   refine⟨(k+1:Nat),wi,bS hM (chg:=λg:FaG=>faG n g.k) (bls:=λg=>faB ⟨n,n,md⟩ n g.A.length g.x g.A g.rw g.cl g.pl) (fls:=λg=>[LF n g.x,CF n g.x]) ⟨k+1,x',es',lw',A.eraseIdx p,upd rw k r,upd cl k c,upd pl c k⟩ ⟨⟨hkn,he',hx'.cg λi=>⟨λhh=>?_,λ⟨t,ht,e⟩=>?_⟩,hbx.1,hbx.2,λj hj=>?_⟩,show n-(k+1)<n-k by omega⟩ rfl ⟨rfl,rfl,rfl,rfl,rfl,rfl,rfl,rfl,rfl,rfl,rfl,rfl,rfl,rfl⟩ ⟨rfl,rfl,trivial⟩ ⟨rfl,rfl,rfl,rfl,rfl,rfl⟩ bL bCr rfl⟩
   ·rcases hh with ⟨t,ht,e⟩|e
    ·exact⟨t,eA ht,(bD oM).trans e⟩
    exact⟨k,bE k,bN.trans e.symm⟩
   ·replace ht:t<k+1:=ht
    replace e:upd rw k r t=i:=e
    by_cases e2:t=k
    ·subst e2;rw[bN] at e;exact .inr e.symm
    rw[bD e2] at e;exact .inl ⟨t,by omega,e⟩
   replace hj:j<k+1:=hj
   show upd pl c k (upd cl k c j)=j
   by_cases e2:j=k
   ·subst e2;rw[bN,bN]
   have e3:cl j≠c:=λe4=>by
    have h5:=he'.cinj j k oM oM
    rw[bD e2,bN] at h5
    exact e2 (h5 e4)
   rw[bD e2,bD e3]
   exact hpp j oM
 replace h2:¬(k:Int)<(n:Nat):=h2
 obtain⟨hk,he,hx,hbe,hbl,hpp⟩:=hI
 replace hk:k<=n:=hk
 obtain rfl:n=k:=by omega
 replace he:Elim M n n rw cl A es lw:=he
 replace hx:ElOk x n es lw (λi=>∃t,t<n/\rw t=i):=hx
 replace hbe:rbM es n (bd B (min n (n-1))):=hbe
 rw[show min n (n-1)=n-1 by omega] at hbe
 replace hbl:rbM lw n (bd B (min n (n-1))):=hbl
 rw[show min n (n-1)=n-1 by omega] at hbl
 replace hpp:∀j,j<n->pl (cl j)=j:=hpp
 have hP:=he.all hpp
 show Sd _ _ _ _ _ _
 refine yR 6 7 (λj=>[iC ((nL n pl).getD j 0)]) rfl rfl (λj hj=>bCs j hj) (by rw[eC,bU]) bL (aZ λ_ _=>rfl) bL λPA pc _ _=>⟨cm (aZ λ_ _=>rfl),cm (aZ λ_ _=>rfl),cm (pS rfl),cm (pS rfl),cm (aZ λ_ _=>rfl),cm (aZ λ_ _=>rfl),cm (aZ λ_ _=>rfl),cm (cJ _),aA gT mxd ?_⟩
 show Sd _ _ _ _ _ _
 refine gK tSd 4 (eJ n λ_=> .h none 0 0) rfl (by rw[eC,dE]) (sX λ_ _=>LeC.nilh) ?_
 refine gK tSd 5 (eJ n λ_=>cF cP) rfl (by rw[eC,dE]) (sX λ_ _=>pH) ?_
 have hPl:(nL n pl).length=n:=hP.ln
 obtain⟨P,hPe⟩:∃P:Sl Int,P=⟨PA,pc,nL n pl⟩:=⟨_,rfl⟩
 have hPs:CV.r PA n pc 1 (λj=>[iC ((nL n pl).getD j 0)])=cM P:=by rw[hPe];unfold cM Sl.R;rw[hPl]
 refine cO (λ_=>true) (λg:FbG=>fbS n P g.k) (λg=>fbB ⟨n,n,md⟩ n A.length x A rw cl g) (λg=>fbF n x g) (λg=>FbI n x es lw rw pl g) (λg=>n-g.k) λhM2=>⟨bS hM2 (chg:=λg:FbG=>fbS n P g.k) (bls:=λg=>fbB ⟨n,n,md⟩ n A.length x A rw cl g) (fls:=λg=>fbF n x g) ⟨0,x.LA,x.Lc,x.L,λ_=>none,λ_=>0,λ_=>0,λ_=>cP,λ_=>[]⟩ ⟨aC _,λj hj=>absurd hj (aD _),λj hj=>absurd hj (aD _),λi _ _=>⟨rfl,rfl,rfl⟩⟩ rfl ⟨rfl,rfl,rfl,rfl,rfl,rfl,rfl,rfl,rfl,rfl,rfl,rfl,rfl,rfl⟩ ⟨rfl,rfl,trivial⟩ ⟨rfl,rfl,rfl,rfl,rfl,hPs,rfl⟩ bL bCt rfl,λ⟨k,LA,Lc,G,HA,Hn,Hc,S,Up⟩ ⟨hk,hu,hd,hr⟩=>aA gT mxd ⟨λh3=>aA gT mxd ?_,λh3=>aA gT mxd ?_⟩⟩
 all_goals
  replace hk:k<=n:=hk
  replace hu:∀j,j<k->Ek (S j).l (Up j)/\Asc (Up j)/\(Up j).Perm ((es (rw j)).map (rnE (nL n pl))):=hu
  replace hd:∀j,j<k->(LA (rw j)=HA j/\Lc (rw j)=Hc j/\(G (rw j)).length=Hn j)/\Ek (G (rw j)) (lw (rw j)++[((j:Int),1)]):=hd
  replace hr:∀i,i<n->(∀t,t<k->rw t≠i)->LA i=x.LA i/\Lc i=x.Lc i/\G i=x.L i:=hr
 ·replace h3:(k:Int)<(n:Nat):=h3
  have hkn:k<n:=by omega
  obtain⟨i,hi⟩:∃i,i=rw k:=⟨_,rfl⟩
  have hin:i<n:=by rw[hi];exact he.rlt k hkn
  have hti:∀t,t<k->rw t≠i:=λt ht e=>by
   have:=he.rinj t k oM hkn (e.trans hi)
   omega
  obtain⟨r1,r2,r3⟩:=hr i hin hti
  have hlo:=hx.low i hin
  have hll:(x.L i).length=(lw i).length:=hlo.ln
  have hli:=jY (he.lok i hin)
  have hcell:(eJ n (hdP x.LA x.Lc x.L))[i*1]? =some (.h (x.LA i) (x.L i).length (x.Lc i)):=eZ hin
  have hcell2:(eJ n λj=>cF (x.R j))[i*1]? =some (cF (x.R i)):=eZ hin
  refine⟨k,⟨rfl,hkn,dD hkn⟩,_,(eZ hkn).trans (by rw[<-hi]),?_⟩
  refine⟨cCw,by kernel_rfl,i,⟨rfl,hin,dD hin⟩,_,_,⟨hcell,rfl⟩,[],sD (z:=1) dC,rfl,rfl,rfl,λq hq=>⟨ck (congrArg sU hcell) (ck rfl (ck rfl rfl)),ck (congrArg sU hcell) (ck rfl (ck rfl rfl)),0,i,⟨rfl,hin,r1,r2,?_,?_,?_,?_⟩,λA' c'=>⟨ck (congrArg sU hcell) (ck rfl (ck rfl rfl)),k,⟨rfl,hkn,dD hkn⟩,_,iF (c:=.h A' ((x.L i).length+1) c') (Q:=λj=> .h (upd HA k A' j) (upd Hn k ((x.L i).length+1) j) (upd Hc k c' j)) hkn (λj _=>?_),?_⟩⟩⟩
  ·show(x.L i).length*4=(ecs (G i)).length
   rw[gZ,r3]
  ·show(x.L i).length+1<=maxLen
   simp only[maxLen]
   omega
  ·show((x.L i).length+1)*64<=_
   omega
  ·intro c' hc'
   rcases bR.1 hc' with rfl|hc'
   ·rfl
   exact oB _ c' hc'
  ·by_cases e:j=k
   ·subst e;rw[if_pos rfl,bN,bN,bN]
   rw[if_neg e,bD e,bD e,bD e]
  have hPP:PmL P.l n:=by rw[hPe];exact hP
  refine⟨cCx,by kernel_rfl,i,⟨rfl,hin,dD hin⟩,_,_,⟨hcell2,rfl⟩,[],bCo (x.R i) P (hx.row i hin) (hbe i hin) (xV h1 (n-1)) hB (hx.ok i hin).1 hn hPP,rfl,rfl,rfl,λy ⟨rs,y1,y2,y3⟩=>⟨ck (congrArg sU hcell2) (ck rfl (ck rfl rfl)),k,⟨rfl,hkn,dD hkn⟩,_,iF (c:=cF y) (Q:=λj=>cF (upd S k y j)) hkn (λj _=>?_),(k+1:Nat),wi,bS hM2 (chg:=λg:FbG=>fbS n P g.k) (bls:=λg=>fbB ⟨n,n,md⟩ n A.length x A rw cl g) (fls:=λg=>fbF n x g) ⟨k+1,upd LA i A',upd Lc i c',upd G i (G i++[(⟨k,q⟩:EntM)]),upd HA k A',upd Hn k ((x.L i).length+1),upd Hc k c',upd S k y,upd Up k rs⟩ ⟨⟨hkn,λj hj=>?_,λj hj=>?_,λi' hi' ht'=>?_⟩,show n-(k+1)<n-k by omega⟩ rfl ⟨rfl,rfl,rfl,rfl,rfl,rfl,rfl,rfl,rfl,rfl,rfl,rfl,rfl,rfl⟩ ⟨aBm (T:=82) (n:=n) (A:=upd LA i A') (cap:=upd Lc i c') (G:=G) (j:=i) (e:=⟨k,q⟩),rfl,trivial⟩ ⟨rfl,rfl,rfl,rfl,rfl,rfl,rfl⟩ bL bCt rfl⟩⟩
  ·by_cases e:j=k
   ·subst e;rw[if_pos rfl,bN]
   rw[if_neg e,bD e]
  ·replace hj:j<k+1:=hj
   show Ek (upd S k y j).l (upd Up k rs j)/\Asc (upd Up k rs j)/\(upd Up k rs j).Perm _
   by_cases e:j=k
   ·subst e
    rw[bN,bN,<-hi]
    refine⟨y1,y2,?_⟩
    rw[hPe] at y3
    exact y3
   rw[bD e,bD e];exact hu j oM
  ·replace hj:j<k+1:=hj
   show(upd LA i A' (rw j)=upd HA k A' j/\upd Lc i c' (rw j)=upd Hc k c' j/\(upd G i (G i++[(⟨k,q⟩:EntM)]) (rw j)).length=upd Hn k _ j)/\Ek (upd G i (G i++[(⟨k,q⟩:EntM)]) (rw j)) _
   by_cases e:j=k
   ·subst e
    rw[<-hi]
    simp only[bN]
    rw[r3]
    exact⟨⟨trivial,trivial,by rw[aH];rfl⟩,bCb hlo rfl hq⟩
   have e2:=hti j oM
   rw[bD e,bD e,bD e,bD e2,bD e2,bD e2]
   exact hd j oM
  replace ht':∀t,t<k+1->rw t≠i':=ht'
  have e2:i'≠i:=λe=>ht' k oM (by rw[e,hi])
  show upd LA i A' i'=_/\upd Lc i c' i'=_/\upd G i _ i'=_
  rw[bD e2,bD e2,bD e2]
  exact hr i' hi' λt ht=>ht' t oM
 replace h3:¬(k:Int)<(n:Nat):=h3
 obtain rfl:n=k:=by omega
 have hlu:=he.lu (Up:=Up) hpp (λi hi=>(hx.ok i hi).1) λj hj=>⟨(hu j hj).2.1,(hu j hj).2.2⟩
 obtain⟨SL,hSL⟩:∃SL:Nat->Sl EntM,SL=λj=>⟨(HA j).map λb=>⟨b,0,none⟩,Hc j,G (rw j)⟩:=⟨_,rfl⟩
 show Sd _ _ _ _ _ _
 refine lI tSd 4 0 (eJ n λj=>cF (SL j)) rfl rfl rfl (by rw[eC,eC]) (aOq λj hj=>?_) ?_
 ·obtain⟨⟨d1,d2,d3⟩,d4⟩:=hd j hj
  refine⟨rw j,Hn j,λk=>((G (rw j)).getD k default).C,he.rlt j hj,?_,?_,?_,λq hq=>uK _ q oM⟩
  ·show CV.h (HA j) (Hn j) (Hc j)= .h (LA (rw j)) (Hn j) (Lc (rw j))
   rw[d1,d2]
  ·show cF (SL j)=CV.r ((LA (rw j)).map λb=>⟨b,0,none⟩) (Hn j) (Lc (rw j)) 4 _
   rw[hSL,d1,d2,<-d3];rfl
  show Hn j*4=(ecs (G (rw j))).length
  rw[gZ,d3]
 refine mU tSd 2 rfl bL (aZ λ_ _=>rfl) bL rfl λA2 c2=>⟨_,sk (aZ λ_ _=>rfl),_,sk (aZ λ_ _=>rfl),_,sk (aZ λ_ _=>rfl),_,rfl,_,sk (aZ λ_ _=>rfl),_,sk (aZ λ_ _=>rfl),_,sk (aZ λ_ _=>rfl),_,sk (cJ _),?_⟩
 refine lI tSd 6 2 [cM ⟨A2.map λb=>⟨b,0,none⟩,c2,nL n rw⟩,.s 3 n,iC n,iC n,.s 4 n,iC n,iC n,.s 5 n] rfl rfl rfl rfl (wB (k0:=0) rfl aSl) ?_
 refine mU tSd 3 rfl bL (aZ λ_ _=>rfl) bL rfl λA3 c3=>⟨_,rfl,_,sk (aZ λ_ _=>rfl),_,sk (aZ λ_ _=>rfl),_,rfl,_,sk (aZ λ_ _=>rfl),_,sk (aZ λ_ _=>rfl),_,sk (aZ λ_ _=>rfl),_,sk (cJ _),?_⟩
 refine lI tSd 6 3 [cM ⟨A2.map λb=>⟨b,0,none⟩,c2,nL n rw⟩,cM ⟨A3.map λb=>⟨b,0,none⟩,c3,nL n cl⟩,iC n,iC n,.s 4 n,iC n,iC n,.s 5 n] rfl rfl rfl rfl (wB (k0:=1) rfl aSl) ?_
 refine mU tSd 4 rfl bL (aZ λ_ _=>rfl) bL rfl λA4 c4=>⟨_,rfl,_,rfl,_,sk (aZ λ_ _=>rfl),_,rfl,_,sk (aZ λ_ _=>rfl),_,sk (aZ λ_ _=>rfl),_,sk (aZ λ_ _=>rfl),_,sk (cJ _),?_⟩
 refine lI tSd 6 4 [cM ⟨A2.map λb=>⟨b,0,none⟩,c2,nL n rw⟩,cM ⟨A3.map λb=>⟨b,0,none⟩,c3,nL n cl⟩,iC n,iC n,mV ⟨A4.map λb=>⟨b,0,none⟩,c4,lJ SL n⟩,iC n,iC n,.s 5 n] rfl rfl rfl rfl (wB (k0:=4) rfl xF) ?_
 refine mU tSd 5 rfl bL (aZ λ_ _=>rfl) bL rfl λA5 c5=>⟨_,rfl,_,rfl,_,rfl,_,rfl,_,sk (aZ λ_ _=>rfl),_,sk (aZ λ_ _=>rfl),_,sk (aZ λ_ _=>rfl),_,sk (cJ _),?_⟩
 refine lI tSd 6 5 [cM ⟨A2.map λb=>⟨b,0,none⟩,c2,nL n rw⟩,cM ⟨A3.map λb=>⟨b,0,none⟩,c3,nL n cl⟩,iC n,iC n,mV ⟨A4.map λb=>⟨b,0,none⟩,c4,lJ SL n⟩,iC n,iC n,mV ⟨A5.map λb=>⟨b,0,none⟩,c5,lJ S n⟩] rfl rfl rfl rfl (wB (k0:=7) rfl xF) ?_
 refine aA gT mxd ⟨some (⟨⟨A2.map λb=>⟨b,0,none⟩,c2,nL n rw⟩,⟨A3.map λb=>⟨b,0,none⟩,c3,nL n cl⟩,⟨n,n,⟨A4.map λb=>⟨b,0,none⟩,c4,lJ SL n⟩⟩,⟨n,n,⟨A5.map λb=>⟨b,0,none⟩,c5,lJ S n⟩⟩⟩,rw,cl,λk=>lw (rw k)++[((k:Int),1)],Up),⟨⟨rfl,rfl,?_,?_⟩,hlu,?_,?_⟩,aM ⟨rfl,rfl⟩ rfl trivial⟩
 ·refine⟨rfl,rfl,nU,λj hj=>?_,λj hj=>?_⟩
  ·show Ek ((lJ SL n).getD j cP).l _
   rw[qY hj,hSL];exact(hd j hj).2
  have:=bCu (he.lus j hj) hj
  exact⟨this,jY this⟩
 ·refine⟨rfl,rfl,nU,λj hj=>?_,λj hj=>?_⟩
  ·show Ek ((lJ S n).getD j cP).l _
   rw[qY hj];exact(hu j hj).1
  have:=aPb hP (hx.ok _ (he.rlt j hj)).1 (hu j hj).2.1 (hu j hj).2.2
  exact⟨this,jY this⟩
 ·intro j hj e hem
  rcases aV.1 hem with hem|hem
  ·exact(hbl _ (he.rlt j hj) e hem).le (nD (Nat.sub_le n 1))
  rw[aI.1 hem];exact aPe (xV h1 n)
 intro j hj e hem
 obtain⟨e',he',rfl⟩:=cB.1 ((hu j hj).2.2.mem_iff.1 hem)
 exact(hbe _ (he.rlt j hj) e' he').le (nD (Nat.sub_le n 1))
abbrev fpG (g:Sl Int) (n k:Nat):List (Nat×DV):=[(16,.c (iC k)),(14,.c (cM g)),(15,.c (iC n)),(1,.c (iC n)),(5,.c (.s 0 n))]
abbrev bCx:FuncId:=236
theorem cDa:Ent Tryz.prog bCx:=aW func236 rfl kR
theorem cDb:Tryz.prog.funcs[bCx]? =some Tryz.f236:=func236
theorem bCy (g:Sl Int) {n:Nat} (hp:PmL g.l n) (hn:n<=4096):Ctr Tryz.prog bCx [] [.c (cM g),.c (iC n)] [] (λ_:Unit=>⟨.c (.v (.bool true)),[],True⟩):=by
 obtain rfl:g.l.length=n:=hp.ln
 refine aX gT cDa cDb rfl rfl rfl bL aS (aA gT mxd ⟨λh=>absurd rfl h,λ_=>aA gT mxd ⟨g.l.length,⟨rfl,rfl,by show 1*g.l.length<=_;omega,by simp only[maxLen];omega⟩,?_⟩⟩)
 show Sd _ _ _ _ _ _
 refine gK tSd 0 (eJ g.l.length (bw λ_=>false)) rfl (by rw[eC,dE]) (sX λ_ _=>eX _) ?_
 refine cO (λ_=>true) (λu:Nat×(Nat->Bool)=>fpG g g.l.length u.1) (λu=>ipB g.l.length u.2) (λ_=>[]) (λu=>u.1<=g.l.length/\SnP g.l u.1 u.2) (λu=>g.l.length-u.1) λhM=>⟨bS hM (chg:=λu:Nat×(Nat->Bool)=>fpG g g.l.length u.1) (bls:=λu=>ipB g.l.length u.2) (fls:=λ_=>[]) (0,λ_=>false) ⟨aC _,λj hj=>by cases hj⟩ rfl rfl trivial ⟨rfl,rfl,rfl,rfl,rfl⟩ bL aIl rfl,λ⟨k,s⟩ ⟨hk,hs⟩=>aA gT mxd ⟨λh2=>aA gT mxd ?_,λh2=>aA gT mxd ?_⟩⟩
 all_goals
  replace hk:k<=g.l.length:=hk
  replace hs:SnP g.l k s:=hs
 ·replace h2:(k:Int)<(g.l.length:Nat):=h2
  have hkl:k<g.l.length:=by omega
  obtain⟨m,hm,hmn⟩:=hp.at' k hkl
  have hf:=hs.not hp hkl hm
  have hc:(eJ g.l.length (bw s))[m*1]? =some (qS (.bool false)):=(eZ hmn).trans (by unfold bw;rw[hf];rfl)
  refine⟨k,⟨rfl,hkl⟩,m,λhq=>⟨hm,hmn,dD hmn⟩,_,λhq=>hc,?_⟩
  refine⟨λh3=>?_,λh3=>aA gT mxd ⟨m,⟨hm,hmn,dD hmn⟩,_,bCj hmn,(k+1:Nat),wi,bS hM (chg:=λu:Nat×(Nat->Bool)=>fpG g g.l.length u.1) (bls:=λu=>ipB g.l.length u.2) (fls:=λ_=>[]) (k+1,upd s m true) ⟨⟨hkl,hs.next hm⟩,show g.l.length-(k+1)<g.l.length-k by omega⟩ rfl rfl trivial ⟨rfl,rfl,rfl,rfl,rfl⟩ bL aIl rfl⟩⟩
  replace h3:(g.l.getD k 0<0\/((g.l.length:Nat):Int)<=g.l.getD k 0)\/(false=true):=h3
  rcases h3 with h3|h3
  ·omega
  cases h3
 exact aA gT mxd ⟨(),trivial,aM rfl rfl trivial⟩
structure LuG (f:LuM) (M:Nat->List En) (n:Nat) (rw cl:Nat->Nat) (Lw Up:Nat->List En) (F:Nat):Prop where
 R:f.R.l=nL n rw
 K:f.K.l=nL n cl
 L:Mx f.L Lw n
 U:Mx f.U Up n
 o:LuOk M n rw cl Lw Up
 bl:rbM Lw n F
 bu:rbM Up n F
abbrev wfB (n:Nat):BL:=[(3,0,[iC n])]
abbrev bCz:FuncId:=237
theorem cDc:Ent Tryz.prog bCz:=aW func237 rfl kR
theorem cDd:Tryz.prog.funcs[bCz]? =some Tryz.f237:=func237
theorem bMg (m:MatM) {M:Nat->List En} {n B:Nat} (h:Mx m M n) (hb:rbM M n B) (hB:B<=4398046511104) (hn:n<=4096):Ctr Tryz.prog bCz [true] [.a m.C,.c (.p 0 0)] (wfB n) (λ_:Unit=>⟨pC True,wfB n,True⟩):=by
 have hr:=h.r
 have hc:=h.c
 refine aX gT cDc cDd rfl rfl rfl bL (eI rfl) (aA gT mxd ⟨λhq=>?_,λhq=>?_⟩)
 ·exact⟨[],aDm m (h.mr hb) hB hn hn,rfl,rfl,rfl,λ_ _=>⟨(),trivial,fB mS rfl bL (aB rfl aY) rfl (eI rfl)⟩⟩
 exact absurd ⟨hr,hc⟩ hq
abbrev wfG (n k:Nat):List (Nat×DV):=[(37,.c (iC k)),(36,.c (iC n)),(2,.c (.p 0 0)),(6,.c (.p 2 0))]
abbrev bDa:FuncId:=213
theorem cJa:Ent Tryz.prog bDa:=aW func213 rfl kR
theorem cJb:Tryz.prog.funcs[bDa]? =some Tryz.f213:=func213
theorem cDe (f:LuM) {M:Nat->List En} {n F:Nat} {rw cl:Nat->Nat} {Lw Up:Nat->List En} (h:LuG f M n rw cl Lw Up F) (hF:F<=4398046511104) (h1:1<=F) (hn:n<=4096):Ctr Tryz.prog bDa [] [.a f.C,.c (iC n)] [] (λ_:Unit=>⟨.c (.v (.bool true)),[],True⟩):=by
 have pR:PmL f.R.l n:=by rw[h.R];exact bCq h.o.rlt h.o.rinj
 have pK:PmL f.K.l n:=by rw[h.K];exact bCq h.o.clt h.o.cinj
 refine aX gT cJa cJb rfl rfl rfl bL aS (aA gT mxd ⟨[],bCy f.R pR hn,rfl,rfl,rfl,λ_ _=>⟨[],bCy f.K pK hn,rfl,rfl,rfl,λ_ _=>?_⟩⟩)
 refine⟨_,rfl,[1],bMg f.L h.L h.bl hF hn,rfl,rfl,rfl,λ_ _=>?_⟩
 refine⟨λhq=>absurd trivial hq,λ_=>⟨_,rfl,[1],bMg f.U h.U h.bu hF hn,rfl,rfl,rfl,λ_ _=>⟨λhq=>absurd trivial hq,λ_=>aA gT mxd ⟨[],sD (z:=1) dC,rfl,rfl,rfl,λq hq=>?_⟩⟩⟩⟩
 replace hq:Cr q 1:=hq
 show Sd _ _ _ _ _ _
 refine cO (λ_=>true) (λk:Nat=>wfG n k) (λ_=>[(85,0,f.C),(3,0,[iC n]),(62,0,q.C)]) (λ_=>[]) (λk=>k<=n) (λk=>n-k) λhM=>⟨bS hM (chg:=λk:Nat=>wfG n k) (bls:=λ_=>[(85,0,f.C),(3,0,[iC n]),(62,0,q.C)]) (fls:=λ_=>[]) 0 (aC _) rfl ⟨rfl,rfl,rfl⟩ trivial ⟨rfl,rfl,rfl,rfl⟩ bL (aB rfl (aB rfl (aB rfl aY))) rfl,λk hk=>aA gT mxd ⟨λh2=>aA gT mxd ?_,λh2=>aA gT mxd ?_⟩⟩
 all_goals
  replace hk:k<=n:=hk
 ·replace h2:(k:Int)<(n:Nat):=h2
  have hkn:k<n:=by omega
  have lL:=h.L.ln
  have lU:=h.U.ln
  have eL:=h.L.row k hkn
  have eU:=h.U.row k hkn
  refine⟨.seq (sq 99 (List.range 14)),by kernel_rfl,k,⟨rfl,show k<f.L.d.l.length by omega⟩,k,⟨rfl,show k<f.U.d.l.length by omega⟩,?_⟩
  obtain⟨l,hl,hvl⟩:=h.o.low k hkn
  obtain⟨p,u,hu,hvu⟩:=h.o.up k hkn
  have ln1:(f.L.d.l.getD k cP).l.length=l.length+1:=by rw[eL.ln,hl];simp
  have ln2:0<(f.U.d.l.getD k cP).l.length:=by rw[eU.ln,hu];simp
  have e1:=eL.e l.length (by rw[hl];simp)
  have e2:=eU.e 0 (by rw[hu];simp)
  have hl2:(Lw k).getD l.length default=((k:Int),1):=by rw[hl];simp
  rw[hl2] at e1
  rw[hu] at e2
  have i1:((f.L.d.l.getD k cP).l.getD l.length default).ix=(k:Nat):=e1.1
  have i2:((f.U.d.l.getD k cP).l.getD 0 default).ix=(k:Nat):=e2.1
  have hll:=jY hvl
  have q1:Rq q 1 F:=hq.rq (aPe h1)
  have q2:Rq ((f.L.d.l.getD k cP).l.getD l.length default).v 1 F:=Cr.rq e1.2 (aPe h1)
  have ar:((l.length:Nat):Int)=IntKind.i64.wrap (((f.L.d.l.getD k cP).l.length:Nat)-1):=wi oM
  refine⟨.seq (sq 23 (List.range 26)),by kernel_rfl,(l.length:Nat),λ_=>ar,l.length,λ_=>⟨rfl,show l.length<(f.L.d.l.getD k cP).l.length by omega⟩,(l.length:Nat),λ_=>ar,l.length,λ_=>⟨rfl,show l.length<(f.L.d.l.getD k cP).l.length by omega⟩,?_⟩
  refine⟨λh3=>?_,λh3=>⟨[],bTh _ q (q2.le) (q1.le),rfl,rfl,rfl,λ_ _=>⟨λh4=>absurd rfl h4,λh4=>aA gT mxd ⟨0,λ_=>⟨rfl,ln2⟩,⟨λh5=>?_,λh5=>aA gT mxd ⟨(k+1:Nat),wi,bS hM (chg:=λk:Nat=>wfG n k) (bls:=λ_=>[(85,0,f.C),(3,0,[iC n]),(62,0,q.C)]) (fls:=λ_=>[]) (k+1) ⟨hkn,show n-(k+1)<n-k by omega⟩ rfl ⟨rfl,rfl,rfl⟩ trivial ⟨rfl,rfl,rfl,rfl⟩ bL (aB rfl (aB rfl (aB rfl aY))) rfl⟩⟩⟩⟩⟩⟩
  ·replace h3:(((f.L.d.l.getD k cP).l.length:Nat):Int)=0\/((f.L.d.l.getD k cP).l.getD l.length default).ix≠(k:Nat):=h3
   omega
  replace h5:(((f.U.d.l.getD k cP).l.length:Nat):Int)=0\/((f.U.d.l.getD k cP).l.getD 0 default).ix≠(k:Nat):=h5
  omega
 exact aA gT mxd ⟨(),trivial,aM rfl rfl trivial⟩
abbrev aSm:FuncId:=170
theorem bMh:Ent Tryz.prog aSm:=aW func170 rfl kR
theorem bMi:Tryz.prog.funcs[aSm]? =some Tryz.f170:=func170
theorem cDf (f:LuM) (b:Sl RatM) {M:Nat->List En} {n F:Nat} {rw cl:Nat->Nat} {Lw Up:Nat->List En} (h:LuG f M n rw cl Lw Up F) (hF:F<=4398046511104) (h1:1<=F) (hn:n<=4096) (hb:b.l.length=n):Ctr Tryz.prog aSm [] [.a f.C,.c (fY b)] [] (λ_:Unit=>⟨.c (iC 0),[],True⟩):=by
 have hR:f.R.l.length=n:=by rw[h.R];simp
 have hw:Ctr Tryz.prog bDa [] [.a f.C,.c (iC (f.R.l.length:Nat))] [] (λ_:Unit=>⟨.c (.v (.bool true)),[],True⟩):=by rw[hR];exact cDe f h hF h1 hn
 refine aX gT bMh bMi rfl rfl rfl bL aS (aA gT mxd ?_)
 refine⟨[],hw,rfl,rfl,rfl,λ_ _=>⟨λh2=>?_,λ_=>aA gT mxd ⟨(),trivial,aM rfl rfl trivial⟩⟩⟩
 replace h2:¬((b.l.length:Nat):Int)=(f.R.l.length:Nat):=h2
 omega
def fwd (lo:Nat->List En) (b:Nat->Rat):Nat->Nat->Rat
 |0=>λ_=>0
 |i+1=>upd (fwd lo b i) i (b i-dtl (lo i) (fwd lo b i))
theorem aIm {lo:Nat->List En} {b:Nat->Rat}:∀{n:Nat},(∀k,k<n->VOk (lo k) (k:Nat))->∀k,k<n->fwd lo b n k=b k-dtl (lo k) (fwd lo b n)
 |0,_,k,h=>absurd h (aD _)
 |n+1,h,k,hk=>by
  have hc:dtl (lo k) (fwd lo b (n+1))=dtl (lo k) (fwd lo b n):=mP λe he=>by
   have:=(h k hk).2 e he
   exact bD oM
  rw[hc]
  by_cases e:k=n
  ·subst e;exact bN
  show upd _ n _ k=_
  rw[bD e,aIm (λk hk=>h k oM) k oM]
theorem bJl {lo:Nat->List En} {b w:Nat->Rat} {n:Nat} (h:∀k,k<n->VOk (lo k) (k:Nat)):(∀k,k<n->dtl (lo k) w+w k=b k)↔∀k,k<n->w k=fwd lo b n k:=by
 constructor
 ·intro hw k
  induction k using Nat.strongRecOn with
  |ind k ih=>
   intro hk
   rw[aIm h k hk,<-mP (x:=w) λe he=>by
    have:=(h k hk).2 e he
    exact ih e.1.toNat oM oM]
   have:=hw k hk
   grind
 intro hw k hk
 rw[hw k hk,mP (y:=fwd lo b n) λe he=>by
  have:=(h k hk).2 e he
  exact hw e.1.toNat oM,aIm h k hk]
 grind
def bwd (us:Nat->List En) (p:Nat->Rat) (n:Nat) (z:Nat->Rat):Nat->Nat->Rat
 |0=>z
 |k+1=>upd (bwd us p n z k) (n-1-k) ((bwd us p n z k (n-1-k)-dtl (us (n-1-k)) (bwd us p n z k))/p (n-1-k))
theorem aPf {us:Nat->List En} {p z:Nat->Rat} {n:Nat} (h:∀i,i<n->∀e∈us i,(i:Int)<e.1/\e.1<(n:Nat)):∀k,k<=n->(∀i,i<n-k->bwd us p n z k i=z i)/\∀i,n-k<=i->i<n->bwd us p n z k i=(z i-dtl (us i) (bwd us p n z k))/p i
 |0,_=>⟨λi _=>rfl,λi h1 h2=>by omega⟩
 |k+1,hk=>by
  obtain⟨h1,h2⟩:=aPf h k oM
  have hc:∀i,n-1-k<=i->i<n->dtl (us i) (bwd us p n z (k+1))=dtl (us i) (bwd us p n z k):=λi hi hin=>mP λe he=>by
   have:=h i hin e he
   exact bD oM
  refine⟨λi hi=>?_,λi hi hin=>?_⟩
  ·show upd _ _ _ i=_
   rw[bD oM];exact h1 i oM
  rw[hc i oM hin]
  show upd _ _ _ i=_
  by_cases e:i=n-1-k
  ·subst e;rw[bN,h1 _ oM]
  rw[bD e];exact h2 i oM hin
theorem bJm {us:Nat->List En} {p y z:Nat->Rat} {n:Nat} (h:∀i,i<n->∀e∈us i,(i:Int)<e.1/\e.1<(n:Nat)) (hp:∀i,i<n->p i≠0):(∀i,i<n->p i*y i+dtl (us i) y=z i)↔∀i,i<n->y i=bwd us p n z n i:=by
 have he:=λi (hi:i<n)=>(aPf (p:=p) (z:=z) h n (aJ n)).2 i oM hi
 constructor
 ·intro hy
  have key:∀d i,i<n->n-i=d->y i=bwd us p n z n i:=λd=>by
   induction d using Nat.strongRecOn with
   |ind d ih=>
    intro i hi hd
    rw[he i hi,<-mP (x:=y) λe hm=>by
     have:=h i hi e hm
     exact ih (n-e.1.toNat) oM e.1.toNat oM rfl,<-hy i hi]
    have:=hp i hi
    rw[jT,uP,kW]
    have e1:dtl (us i) y+p i*y i+ -dtl (us i) y=y i*p i:=by grind
    rw[e1,tE,kZ _ this,nV]
  exact λi hi=>key _ i hi rfl
 intro hy i hi
 rw[hy i hi,mP (y:=bwd us p n z n) λe hm=>by
  have:=h i hi e hm
  exact hy e.1.toNat oM]
 rw[he i hi,jT]
 have:=hp i hi
 have e1:p i*((z i-dtl (us i) (bwd us p n z n))*(p i)⁻¹)=(z i-dtl (us i) (bwd us p n z n))*(p i*(p i)⁻¹):=by grind
 rw[e1,kZ _ this,nV]
 grind
def Sol (M:Nat->List En) (n:Nat) (b xv:Nat->Rat):Prop:=∀x:Nat->Rat,(∀k,k<n->dtn n (M k) x=b k)↔∀c,c<n->x c=xv c
structure LuP (n:Nat) (Lw Up lo us:Nat->List En) (p:Nat->Rat):Prop where
 lo:∀k,k<n->Lw k=lo k++[((k:Int),1)]/\VOk (lo k) (k:Nat)
 us:∀k,k<n->Up k=((k:Int),p k)::us k/\(∀e∈us k,(k:Int)<e.1/\e.1<(n:Nat))/\(us k).length<=n-1-k
 p:∀k,k<n->p k≠0
theorem LuOk.parts {M:Nat->List En} {n:Nat} {rw cl:Nat->Nat} {Lw Up:Nat->List En} (h:LuOk M n rw cl Lw Up):∃lo us p,LuP n Lw Up lo us p:=by
 refine⟨λk=>(Lw k).dropLast,λk=>(Up k).tail,λk=>((Up k).headD default).2,λk hk=>?_,λk hk=>?_,λk hk=>?_⟩
 ·obtain⟨l,h1,h2⟩:=h.low k hk
  show Lw k=(Lw k).dropLast++_/\VOk (Lw k).dropLast _
  rw[h1,List.dropLast_concat];exact⟨rfl,h2⟩
 ·obtain⟨p,u,h1,h2⟩:=h.up k hk
  show Up k=(_,((Up k).headD default).2)::(Up k).tail/\_
  rw[h1] at h2 ⊢
  have hin:∀e∈u,(k:Int)<e.1/\e.1<(n:Nat):=λe he=>⟨h2.1.head e he,(h2.2 e (.tail _ he)).2.1⟩
  refine⟨rfl,hin,?_⟩
  have h3:(u.map λe:En=>(e.1-(k:Int)-1).toNat).Nodup:=by
   rw[cI,fN]
   refine h2.1.tail.imp_of_mem λ{a b} ha hb hab he=>?_
   have:=hin a ha
   have:=hin b hb
   have:a.1<b.1:=hab
   omega
  have:=pJ (n:=n-1-k) h3 λi hi=>by
   obtain⟨e,he,rfl⟩:=cB.1 hi
   have:=hin e he
   omega
  rwa [aU] at this
 obtain⟨p,u,h1,h2⟩:=h.up k hk
 show((Up k).headD default).2≠0
 rw[h1] at h2 ⊢
 exact(h2.2 _ (.head _)).2.2
theorem LuOk.sol {M:Nat->List En} {n:Nat} {rw cl:Nat->Nat} {Lw Up lo us:Nat->List En} {p:Nat->Rat} (h:LuOk M n rw cl Lw Up) (hP:LuP n Lw Up lo us p) {b xv:Nat->Rat} (hx:∀i,i<n->xv (cl i)=bwd us p n (fwd lo (λi=>b (rw i)) n) n i):Sol M n b xv:=λx=>by
 have hU:∀k,k<n->dtn n (Up k) (λi=>x (cl i))=p k*x (cl k)+dtl (us k) (λi=>x (cl i)):=λk hk=>by
  obtain⟨h1,h2,_⟩:=hP.us k hk
  rw[<-sI λe he=>by
   rw[h1] at he
   rcases bR.1 he with rfl|he
   ·exact⟨by show(0:Int)<=(k:Nat);omega,by show(k:Int)<(n:Nat);omega⟩
   have:=h2 e he;exact⟨by omega,this.2⟩,h1]
  rfl
 have hL:∀k,k<n->∀w,dtl (Lw k) w=dtl (lo k) w+w k:=λk hk w=>by
  rw[(hP.lo k hk).1,tR]
  show _+(1:Rat)*w k=_
  rw[jW]
 have e1:(∀k,k<n->dtn n (M k) x=b k)↔∀k,k<n->dtl (lo k) (λj=>dtn n (Up j) λi=>x (cl i))+dtn n (Up k) (λi=>x (cl i))=b (rw k):=by
  constructor
  ·intro hh k hk
   rw[<-hL k hk,<-h.eq k hk]
   exact hh _ (h.rlt k hk)
  intro hh k hk
  obtain⟨j,hj,rfl⟩:=oD h.rlt h.rinj k hk
  rw[h.eq j hj,hL j hj]
  exact hh j hj
 have e2:=bJl (b:=λi=>b (rw i)) (w:=λj=>dtn n (Up j) λi=>x (cl i)) λk hk=>(hP.lo k hk).2
 have e3:=bJm (y:=λi=>x (cl i)) (z:=fwd lo (λi=>b (rw i)) n) (λi hi=>(hP.us i hi).2.1) hP.p
 rw[e1]
 refine e2.trans ⟨λhh=>?_,λhh k hk=>?_⟩
 ·have h4:=e3.1 λi hi=>by rw[<-hh i hi];exact(hU i hi).symm
  intro c hc
  obtain⟨j,hj,rfl⟩:=oD h.clt h.cinj c hc
  rw[hx j hj];exact h4 j hj
 have h4:=e3.2 λi hi=>(hh _ (h.clt i hi)).trans (hx i hi)
 exact(hU k hk).trans (h4 k hk)
def zb (B F:Nat):Nat->Nat
 |0=>B
 |i+1=>zb B F i+i*(F+zb B F i+1)
theorem aSn {B F k n:Nat} (h:k<=n):zb B F k<=zb B F n:=by
 induction h with
 |refl=>exact aJ _
 |step _ ih=>exact aG ih (tU _ _)
def yb (Z F:Nat):Nat->Nat
 |0=>Z
 |k+1=>yb Z F k+k*(F+yb Z F k+1)+F
theorem aLm {Z F k n:Nat} (h:k<=n):yb Z F k<=yb Z F n:=by
 induction h with
 |refl=>exact aJ _
 |step _ ih=>exact aG ih (by show _<=yb Z F _+_+F;omega)
theorem aAu {P Q:Nat->List CV} (h:∀j,(P j).length=(Q j).length/\∀(k:Nat) (c c':CV),(P j)[k]? =some c->(Q j)[k]? =some c'->LeC c c'):∀n,(flatR n P).length=(flatR n Q).length/\∀(k:Nat) (c c':CV),(flatR n P)[k]? =some c->(flatR n Q)[k]? =some c'->LeC c c'
 |0=>⟨rfl,λk c c' h1=>by cases h1⟩
 |n+1=>by
  obtain⟨i1,i2⟩:=aAu h n
  obtain⟨j1,j2⟩:=h n
  rw[gM,gM]
  refine⟨by rw[aH,aH,i1,j1],λk c c' h1 h2=>?_⟩
  by_cases hk:k<(flatR n P).length
  ·rw[bJ hk] at h1
   rw[bJ oM] at h2
   exact i2 k c c' h1 h2
  rw[cC oM] at h1
  rw[cC oM,<-i1] at h2
  exact j2 _ c c' h1 h2
theorem lT {n:Nat}:(flatR n λ_=>(default:RatM).C).length=((List.replicate n vG).flatten).length/\∀(k:Nat) (c c':CV),((List.replicate n vG).flatten)[k]? =some c->(flatR n λ_=>(default:RatM).C)[k]? =some c'->LeC c c':=by
 obtain⟨h1,h2⟩:=aAu (P:=λ_=>vG) (Q:=λ_=>(default:RatM).C) (λ_=>⟨rfl,aLg⟩) n
 rw[<-aRy]
 exact⟨h1.symm,h2⟩
abbrev rtC (n:Nat) (Z:Nat->RatM):List CV:=flatR n λj=>(Z j).C
theorem fD {n k:Nat} {Z:Nat->RatM} (h:k<n):k*3<(rtC n Z).length:=bSc (λ_=>rfl) h
theorem kT {n k:Nat} {Z:Nat->RatM} (h:k<n):((rtC n Z).drop (k*3)).take 3=(Z k).C/\(Z k).C.length=3:=bSd (λ_=>rfl) h rfl
theorem iA {n k:Nat} {Z:Nat->RatM} {g:RatM} (h:k<n):lE (rtC n Z) (k*3) g.C=rtC n (upd Z k g)/\k*3+g.C.length<=(rtC n Z).length:=bIi (λ_=>rfl) h rfl λj _=>by
 by_cases e:j=k
 ·subst e;rw[if_pos rfl,bN]
 rw[if_neg e,bD e]
theorem eD {n:Nat} {Z:Nat->RatM}:∀c∈rtC n Z,fO c=true:=aOp (λ_=>oB _) n
abbrev aPg (f:LuM) (n:Nat) (Z:Nat->RatM):BL:=[(85,0,f.C),(62,3,rtC n Z)]
theorem aBr {f:LuM} {n:Nat} {Z:Nat->RatM}:scB 2 (aPg f n Z):=aB rfl (aB (bT eD) aY)
abbrev bJn (b:Sl RatM) (n i:Nat):List (Nat×DV):=[(31,.c (iC i)),(30,.c (iC n)),(1,.c (fY b)),(2,.c (.p 0 0)),(7,.c (iC n)),(8,.c (.s 1 n))]
abbrev bTp (b:Sl RatM) (n i:Nat) (A:Option Addr) (c m:Nat) (row:Sl EntM) (t:Nat):List (Nat×DV):=(57,.c (iC t))::(55,.c (.r A m c 4 λj=>(row.l.getD j default).C))::(56,.c (iC m))::(9,.c (iC i))::bJn b n i
abbrev aPh (f:LuM) (n:Nat) (Z X:Nat->RatM):BL:=[(85,0,f.C),(62,3,rtC n Z),(62,3,rtC n X)]
theorem aBs {f:LuM} {n:Nat} {Z X:Nat->RatM}:scB 3 (aPh f n Z X):=aB rfl (aB (bT eD) (aB (bT eD) aY))
abbrev bJo (n k:Nat):List (Nat×DV):=[(81,.c (iC k)),(80,.c (iC n)),(2,.c (.p 0 0)),(7,.c (iC n)),(8,.c (.s 1 n)),(13,.c (.s 2 n))]
abbrev bTq (n k i:Nat) (A:Option Addr) (c m:Nat) (row:Sl EntM) (t:Nat):List (Nat×DV):=(97,.c (iC t))::(95,.c (.r A m c 4 λj=>(row.l.getD (j+1) default).C))::(96,.c (iC m))::(15,.c (iC i))::(16,.c (cF row))::bJo n k
theorem aPi {f:Nat->Nat} {n:Nat} (_:∀j,j<n->f j<n) (hi:∀i j,i<n->j<n->f i=f j->i=j) (y:Nat->Rat):∃x:Nat->Rat,∀j,j<n->x (f j)=y j:=by
 classical
 refine⟨λc=>if h:∃j,j<n/\f j=c then y h.choose else 0,λj hj=>?_⟩
 have h:∃j',j'<n/\f j'=f j:=⟨j,hj,rfl⟩
 show(if h:∃j',j'<n/\f j'=f j then y h.choose else 0)=y j
 rw[dif_pos h]
 exact congrArg y (hi _ _ h.choose_spec.1 hj h.choose_spec.2)
theorem swl {i j:Nat} {l:List CV} (h:∀c∈l,fO c=true):l.map (swC i j)=l:=(eK λc hc=>aN c (h c hc)).trans (wU _)
theorem aLn (a:Rat):a-0=a:=by grind
abbrev aIn:FuncId:=107
theorem bJp:Ent Tryz.prog aIn:=aW func107 rfl kR
theorem bJq:Tryz.prog.funcs[aIn]? =some Tryz.f107:=func107
theorem bDb (f:LuM) (b:Sl RatM) {M:Nat->List En} {n F B:Nat} {rw cl:Nat->Nat} {Lw Up:Nat->List En} {bv:Nat->Rat} (h:LuG f M n rw cl Lw Up F) (h1:1<=F) (hn:n<=4096) (hb:b.l.length=n) (hbv:∀k,k<n->Cr (b.l.getD k default) (bv k)/\rb (bv k) B) (h1B:1<=B) (hF:F<=4398046511104) (hB:yb (zb B F n) F n<=4398046511104):
 Ctr Tryz.prog aIn [true] [.a f.C,.c (fY b)] [] (λg:(Nat->RatM)×(Nat->Rat)=>⟨.t [.c (.s 0 n),.c (iC 0)],[(62,3,rtC n g.1)],Sol M n bv g.2/\∀c,c<n->Cr (g.1 c) (g.2 c)/\rb (g.2 c) (yb (zb B F n) F n)⟩):=by
 obtain⟨lo,us,p,hP⟩:=h.o.parts
 have hZB:zb B F n<=4398046511104:=aG (aLm (aC n)) hB
 have hR:f.R.l.length=n:=by rw[h.R];simp
 have hRi:((f.R.l.length:Nat):Int)=(n:Nat):=by rw[hR]
 have hRc:iC (f.R.l.length:Nat)=iC (n:Nat):=by rw[hR]
 obtain⟨ζ,hζ⟩:∃ζ,ζ=fwd lo (λi=>bv (rw i)) n:=⟨_,rfl⟩
 have eζ:∀k,k<n->ζ k=bv (rw k)-dtl (lo k) ζ:=λk hk=>by rw[hζ];exact aIm (b:=λi=>bv (rw i)) (λk hk=>(hP.lo k hk).2) k hk
 refine aX gT bJp bJq rfl rfl rfl bL (λi T es l hi=>by cases hi) (aA gT mxd ⟨[],cDf f b h hF h1 hn hb,rfl,rfl,rfl,λ_ _=>⟨λhh=>absurd rfl hh,λ_=>aA gT mxd ⟨n,⟨hRi,hRi,by show 56*n<=_;omega,by simp only[maxLen];omega⟩,?_⟩⟩⟩)
 show Sd _ _ _ _ _ _
 refine gK tSd 1 (rtC n λ_=>default) rfl lT.1 lT.2 ?_
 refine cO (λ_=>true) (λg:Nat×(Nat->RatM)=>bJn b n g.1) (λg=>aPg f n g.2) (λ_=>[]) (λg=>g.1<=n/\∀j,j<g.1->Rq (g.2 j) (ζ j) (zb B F g.1)) (λg=>n-g.1) λhM=>⟨bS hM (chg:=λg:Nat×(Nat->RatM)=>bJn b n g.1) (bls:=λg=>aPg f n g.2) (fls:=λ_=>[]) (0,λ_=>default) ⟨aC _,λj hj=>absurd hj (aD _)⟩ rfl ⟨rfl,rfl⟩ trivial ⟨rfl,hRi,rfl,rfl,hRi,rfl⟩ bL aBr rfl,λ⟨i,Z⟩ ⟨hi,hZ⟩=>aA gT mxd ⟨λh2=>aA gT mxd ?_,λh2=>aA gT mxd ?_⟩⟩
 all_goals
  replace hi:i<=n:=hi
  replace hZ:∀j,j<i->Rq (Z j) (ζ j) (zb B F i):=hZ
 ·replace h2:(i:Int)<(n:Nat):=h2
  have hin:i<n:=by omega
  have hri:=h.o.rlt i hin
  have hix:f.R.l.getD i 0=(rw i:Nat):=by rw[h.R];exact xM hin
  have lL:=h.L.ln
  have eL:=h.L.row i hin
  obtain⟨hl,hvl⟩:=hP.lo i hin
  have ln1:(f.L.d.l.getD i cP).l.length=(lo i).length+1:=by rw[eL.ln,hl];simp
  have hll:=jY hvl
  refine⟨i,⟨rfl,show i<f.R.l.length by omega⟩,rw i,⟨hix,show rw i<b.l.length by omega⟩,i,⟨rfl,hin,fD hin⟩,_,iA hin,i,⟨rfl,show i<f.L.d.l.length by omega⟩,((lo i).length:Nat),wi (by show(((lo i).length:Nat):Int)=(((f.L.d.l.getD i cP).l.length:Nat):Int)-1/\_<=(((f.L.d.l.getD i cP).l.length:Nat):Int)-1/\(((f.L.d.l.getD i cP).l.length:Nat):Int)-1<=_;omega),(lo i).length,⟨rfl,show(lo i).length<=(f.L.d.l.getD i cP).l.length by omega⟩,?_⟩
  obtain⟨row,hrow⟩:∃row,row=f.L.d.l.getD i cP:=⟨_,rfl⟩
  rw[<-hrow] at eL ln1
  show Sd _ _ _ _ _ _
  refine cO (λ_=>true) (λg:Nat×(Nat->RatM)=>bTp b n i row.A row.c (lo i).length row g.1) (λg=>aPg f n g.2) (λ_=>[]) (λg=>g.1<=(lo i).length/\(∀j,j<i->Rq (g.2 j) (ζ j) (zb B F i))/\Rq (g.2 i) (bv (rw i)-dtl ((lo i).take g.1) ζ) (B+g.1*(F+zb B F i+1))/\rb (bv (rw i)-dtl ((lo i).take g.1) ζ) (B+g.1*(F+zb B F i+1))) (λg=>(lo i).length-g.1) λhM2=>⟨bS hM2 (chg:=λg:Nat×(Nat->RatM)=>bTp b n i row.A row.c (lo i).length row g.1) (bls:=λg=>aPg f n g.2) (fls:=λ_=>[]) (0,upd Z i (b.l.getD (rw i) default)) ⟨aC _,λj hj=>?_,?_,?_⟩ rfl ⟨rfl,rfl⟩ trivial ?_ bL aBr rfl,λ⟨t,Z'⟩ ⟨ht,hZ',hq,hqr⟩=>aA gT mxd ⟨λh3=>aA gT mxd ?_,λh3=>aA gT mxd ?_⟩⟩
  ·show Rq (upd Z i _ j) _ _
   rw[bD oM];exact hZ j hj
  ·show Rq (upd Z i _ i) (bv (rw i)-0) (B+0*(F+zb B F i+1))
   rw[bN,aLn,mT]
   exact Cr.rq (hbv _ hri).1 (hbv _ hri).2
  ·show rb (bv (rw i)-0) (B+0*(F+zb B F i+1))
   rw[aLn,mT]
   exact(hbv _ hri).2
  ·exact⟨rfl,by rw[hrow];rfl,rfl,rfl,rfl,rfl,rfl,rfl,rfl,rfl⟩
  all_goals
   replace ht:t<=(lo i).length:=ht
   replace hZ':∀j,j<i->Rq (Z' j) (ζ j) (zb B F i):=hZ'
   replace hq:Rq (Z' i) (bv (rw i)-dtl ((lo i).take t) ζ) (B+t*(F+zb B F i+1)):=hq
   replace hqr:rb (bv (rw i)-dtl ((lo i).take t) ζ) (B+t*(F+zb B F i+1)):=hqr
   have hb1:B<=zb B F i:=aSn (aC i)
   have hb2:zb B F (i+1)<=4398046511104:=aG (aSn hin) hZB
   have hb3:zb B F (i+1)=zb B F i+i*(F+zb B F i+1):=rfl
  ·replace h3:(t:Int)<((lo i).length:Nat):=h3
   have htl:t<(lo i).length:=by omega
   have hb4:(t+1)*(F+zb B F i+1)<=i*(F+zb B F i+1):=aQ _ oM
   rw[dG] at hb4
   have e0:=hvl.2 _ (fX htl)
   have er:=eL.e t (by rw[hl];simp;omega)
   rw[show(Lw i).getD t default=(lo i).getD t default by rw[hl,aO,bJ htl,aO]] at er
   obtain⟨j0,hj0⟩:∃j0:Nat,((lo i).getD t default).1=(j0:Nat):=⟨((lo i).getD t default).1.toNat,by omega⟩
   have hji:j0<i:=by omega
   have hix0:(row.l.getD t default).ix=(j0:Nat):=er.1.trans hj0
   have hev:rb ((lo i).getD t default).2 F:=h.bl i hin _ (by rw[hl];exact dB _ (fX htl))
   have hz0:=hZ' j0 hji
   have hm:=fI hev (hz0.rb oM)
   have hd:bv (rw i)-dtl ((lo i).take (t+1)) ζ=bv (rw i)-dtl ((lo i).take t) ζ-((lo i).getD t default).2*ζ j0:=by
    rw[aAd htl,tR,hj0,cD];grind
   have hs:=qH hqr hm
   rw[<-hd] at hs
   have hs':rb (bv (rw i)-dtl ((lo i).take (t+1)) ζ) (B+(t+1)*(F+zb B F i+1)):=hs.le (by rw[dG];omega)
   have hk:=aRw (Z' i) (row.l.getD t default).v (Z' j0) (B:=B+(t+1)*(F+zb B F i+1)) (hq.le oM) ((Cr.rq er.2 hev).le) (hz0.le oM) (hm.le oM) (by rw[<-hd];exact hs') (hq.le (by rw[dG];omega))
   rw[<-hd] at hk
   refine⟨t,⟨rfl,htl⟩,.seq ((List.range 16).map λi=>(i,i==15)),by kernel_rfl,i,⟨rfl,hin,fD hin⟩,_,kT hin,j0,⟨hix0,by omega,fD oM⟩,_,kT oM,[],hk,rfl,rfl,rfl,λg hg=>⟨i,⟨rfl,hin,fD hin⟩,_,iA hin,(t+1:Nat),wi,bS hM2 (chg:=λg:Nat×(Nat->RatM)=>bTp b n i row.A row.c (lo i).length row g.1) (bls:=λg=>aPg f n g.2) (fls:=λ_=>[]) (t+1,upd Z' i g) ⟨⟨htl,λj hj=>?_,?_,hs'⟩,show(lo i).length-(t+1)<(lo i).length-t by omega⟩ rfl ⟨rfl,rfl⟩ trivial ⟨rfl,rfl,rfl,rfl,rfl,rfl,rfl,rfl,rfl,rfl⟩ bL aBr rfl⟩⟩
   ·show Rq (upd Z' i g j) _ _
    rw[bD oM];exact hZ' j hj
   show Rq (upd Z' i g i) _ _
   rw[bN];exact hg
  replace h3:¬(t:Int)<((lo i).length:Nat):=h3
  obtain rfl:t=(lo i).length:=by omega
  have hb4:(lo i).length*(F+zb B F i+1)<=i*(F+zb B F i+1):=aQ _ hll
  rw[cZ,<-eζ i hin] at hq
  refine⟨(i+1:Nat),wi,bS hM (chg:=λg:Nat×(Nat->RatM)=>bJn b n g.1) (bls:=λg=>aPg f n g.2) (fls:=λ_=>[]) (i+1,Z') ⟨⟨hin,λj hj=>?_⟩,show n-(i+1)<n-i by omega⟩ rfl ⟨rfl,rfl⟩ trivial ⟨rfl,rfl,rfl,rfl,rfl,rfl⟩ bL aBr rfl⟩
  replace hj:j<i+1:=hj
  show Rq (Z' j) (ζ j) (zb B F (i+1))
  by_cases e:j=i
  ·subst e;exact hq.le oM
  exact(hZ' j oM).le oM
 replace h2:¬(i:Int)<(n:Nat):=h2
 obtain rfl:n=i:=by omega
 obtain⟨y,hy⟩:∃y,y=bwd us p n ζ n:=⟨_,rfl⟩
 have ey:∀k,k<n->y k=(ζ k-dtl (us k) y)/p k:=λk hk=>by rw[hy];exact(aPf (λi hi=>(hP.us i hi).2.1) n (aJ n)).2 k oM hk
 obtain⟨ZB,hZe⟩:∃ZB,ZB=zb B F n:=⟨_,rfl⟩
 rw[<-hZe] at hZ hB hZB
 have hZ1:1<=ZB:=by rw[hZe];exact aG h1B (aSn (aC n))
 refine aA gT mxd ⟨n,⟨rfl,rfl,by show 56*n<=_;omega,by simp only[maxLen];omega⟩,?_⟩
 show Sd _ _ _ _ _ _
 refine gK tSd 2 (rtC n λ_=>default) rfl lT.1 lT.2 ?_
 refine cO (λ_=>true) (λg:Nat×(Nat->RatM)×(Nat->RatM)=>bJo n g.1) (λg=>aPh f n g.2.1 g.2.2) (λ_=>[]) (λg=>g.1<=n/\(∀j,j<n-g.1->Rq (g.2.1 j) (ζ j) ZB)/\(∀j,n-g.1<=j->j<n->Rq (g.2.1 j) (y j) (yb ZB F g.1))/\∀j,n-g.1<=j->j<n->Cr (g.2.2 (cl j)) (y j)/\rb (y j) (yb ZB F g.1)) (λg=>n-g.1) λhM=>⟨bS hM (chg:=λg:Nat×(Nat->RatM)×(Nat->RatM)=>bJo n g.1) (bls:=λg=>aPh f n g.2.1 g.2.2) (fls:=λ_=>[]) (0,Z,λ_=>default) ⟨aC _,λj hj=>hZ j hj,λj h4 h5=>absurd h4 (by show ¬n-0<=j;omega),λj h4 h5=>absurd h4 (by show ¬n-0<=j;omega)⟩ rfl ⟨rfl,rfl,rfl⟩ trivial ⟨rfl,rfl,rfl,rfl,rfl,rfl⟩ bL aBs rfl,λ⟨k,Z,X⟩ ⟨hk,hZ,hY,hX⟩=>aA gT mxd ⟨λh2=>aA gT mxd ?_,λh2=>aA gT mxd ?_⟩⟩
 all_goals
  replace hk:k<=n:=hk
  replace hZ:∀j,j<n-k->Rq (Z j) (ζ j) ZB:=hZ
  replace hY:∀j,n-k<=j->j<n->Rq (Z j) (y j) (yb ZB F k):=hY
  replace hX:∀j,n-k<=j->j<n->Cr (X (cl j)) (y j)/\rb (y j) (yb ZB F k):=hX
 ·replace h2:(k:Int)<(n:Nat):=h2
  have hkn:k<n:=by omega
  obtain⟨i,hi⟩:∃i,i=n-1-k:=⟨_,rfl⟩
  have hin:i<n:=by omega
  have hci:=h.o.clt i hin
  have hix:f.K.l.getD i 0=(cl i:Nat):=by rw[h.K];exact xM hin
  have hK:f.K.l.length=n:=by rw[h.K];simp
  have lU:=h.U.ln
  have eU:=h.U.row i hin
  obtain⟨hu,hui,hul⟩:=hP.us i hin
  have hpi:=hP.p i hin
  have ln1:(f.U.d.l.getD i cP).l.length=(us i).length+1:=by rw[eU.ln,hu];simp
  have a1:((n-1:Nat):Int)=IntKind.i64.wrap ((n:Nat)-1):=wi oM
  have a2:(i:Int)=IntKind.i64.wrap (((n-1:Nat):Int)-(k:Nat)):=wi oM
  refine⟨(n-1:Nat),a1,(i:Nat),a2,i,⟨rfl,show i<f.U.d.l.length by omega⟩,1,⟨rfl,show 1<=(f.U.d.l.getD i cP).l.length by omega⟩,?_⟩
  obtain⟨row,hrow⟩:∃row,row=f.U.d.l.getD i cP:=⟨_,rfl⟩
  rw[<-hrow] at eU ln1
  have hlen:(f.U.d.l.getD i cP).l.length-1=(us i).length:=by rw[<-hrow];omega
  have hsz:(((f.U.d.l.getD i cP).l.length-1:Nat):Int)=((us i).length:Nat):=by rw[hlen]
  have hsl:CV.r (slA (f.U.d.l.getD i cP).A (f.U.d.l.getD i cP).c 1 4) ((f.U.d.l.getD i cP).l.length-1) ((f.U.d.l.getD i cP).c-1) 4 (λj=>((f.U.d.l.getD i cP).l.getD (j+1) default).C)= .r (slA row.A row.c 1 4) (us i).length (row.c-1) 4 λj=>(row.l.getD (j+1) default).C:=by rw[hlen,hrow]
  show Sd _ _ _ _ _ _
  refine cO (λ_=>true) (λg:Nat×(Nat->RatM)=>bTq n k i (slA row.A row.c 1 4) (row.c-1) (us i).length row g.1) (λg=>aPh f n g.2 X) (λ_=>[]) (λg=>g.1<=(us i).length/\(∀j,j<i->Rq (g.2 j) (ζ j) ZB)/\(∀j,i<j->j<n->Rq (g.2 j) (y j) (yb ZB F k))/\Rq (g.2 i) (ζ i-dtl ((us i).take g.1) y) (ZB+g.1*(F+yb ZB F k+1))/\rb (ζ i-dtl ((us i).take g.1) y) (ZB+g.1*(F+yb ZB F k+1))) (λg=>(us i).length-g.1) λhM2=>⟨bS hM2 (chg:=λg:Nat×(Nat->RatM)=>bTq n k i (slA row.A row.c 1 4) (row.c-1) (us i).length row g.1) (bls:=λg=>aPh f n g.2 X) (fls:=λ_=>[]) (0,Z) ⟨aC _,λj hj=>hZ j oM,λj h4 h5=>hY j oM h5,?_,?_⟩ rfl ⟨rfl,rfl,rfl⟩ trivial ?_ bL aBs rfl,λ⟨t,Z'⟩ ⟨ht,hZ',hY',hq,hqr⟩=>aA gT mxd ⟨λh3=>aA gT mxd ?_,λh3=>aA gT mxd ?_⟩⟩
  ·show Rq (Z i) (ζ i-0) (ZB+0*(F+yb ZB F k+1))
   rw[aLn,mT]
   exact hZ i oM
  ·show rb (ζ i-0) (ZB+0*(F+yb ZB F k+1))
   rw[aLn,mT]
   exact(hZ i oM).rb hZ1
  ·exact⟨rfl,hsl,hsz,rfl,congrArg cF hrow.symm,rfl,rfl,rfl,rfl,rfl,rfl⟩
  all_goals
   replace ht:t<=(us i).length:=ht
   replace hZ':∀j,j<i->Rq (Z' j) (ζ j) ZB:=hZ'
   replace hY':∀j,i<j->j<n->Rq (Z' j) (y j) (yb ZB F k):=hY'
   replace hq:Rq (Z' i) (ζ i-dtl ((us i).take t) y) (ZB+t*(F+yb ZB F k+1)):=hq
   replace hqr:rb (ζ i-dtl ((us i).take t) y) (ZB+t*(F+yb ZB F k+1)):=hqr
   have hb1:ZB<=yb ZB F k:=aLm (F:=F) (aC k)
   have hb2:yb ZB F (k+1)<=4398046511104:=aG (aLm hkn) hB
   have hb3:yb ZB F (k+1)=yb ZB F k+k*(F+yb ZB F k+1)+F:=rfl
  ·replace h3:(t:Int)<((us i).length:Nat):=h3
   have htl:t<(us i).length:=by omega
   have hb4:(t+1)*(F+yb ZB F k+1)<=k*(F+yb ZB F k+1):=aQ _ oM
   rw[dG] at hb4
   have e0:=hui _ (fX htl)
   have er:=eU.e (t+1) (by rw[hu];simp;omega)
   rw[show(Up i).getD (t+1) default=(us i).getD t default by rw[hu];rfl] at er
   obtain⟨j0,hj0⟩:∃j0:Nat,((us i).getD t default).1=(j0:Nat):=⟨((us i).getD t default).1.toNat,by omega⟩
   have hij:i<j0:=by omega
   have hjn:j0<n:=by omega
   have hix0:(row.l.getD (t+1) default).ix=(j0:Nat):=er.1.trans hj0
   have hev:rb ((us i).getD t default).2 F:=h.bu i hin _ (by rw[hu];exact .tail _ (fX htl))
   have hz0:=hY' j0 hij hjn
   have hm:=fI hev (hz0.rb oM)
   have hd:ζ i-dtl ((us i).take (t+1)) y=ζ i-dtl ((us i).take t) y-((us i).getD t default).2*y j0:=by
    rw[aAd htl,tR,hj0,cD];grind
   have hs:=qH hqr hm
   rw[<-hd] at hs
   have hs':rb (ζ i-dtl ((us i).take (t+1)) y) (ZB+(t+1)*(F+yb ZB F k+1)):=hs.le (by rw[dG];omega)
   have hk':=aRw (Z' i) (row.l.getD (t+1) default).v (Z' j0) (B:=ZB+(t+1)*(F+yb ZB F k+1)) (hq.le oM) ((Cr.rq er.2 hev).le) (hz0.le oM) (hm.le oM) (by rw[<-hd];exact hs') (hq.le (by rw[dG];omega))
   rw[<-hd] at hk'
   refine⟨t,⟨rfl,htl⟩,.seq ((List.range 16).map λi=>(i,i==15)),by kernel_rfl,i,⟨rfl,hin,fD hin⟩,_,kT hin,j0,⟨hix0,hjn,fD hjn⟩,_,kT hjn,[],hk',rfl,rfl,rfl,λg hg=>⟨i,⟨rfl,hin,fD hin⟩,_,iA hin,(t+1:Nat),wi,bS hM2 (chg:=λg:Nat×(Nat->RatM)=>bTq n k i (slA row.A row.c 1 4) (row.c-1) (us i).length row g.1) (bls:=λg=>aPh f n g.2 X) (fls:=λ_=>[]) (t+1,upd Z' i g) ⟨⟨htl,λj hj=>?_,λj h4 h5=>?_,?_,hs'⟩,show(us i).length-(t+1)<(us i).length-t by omega⟩ rfl ⟨rfl,rfl,rfl⟩ trivial ⟨rfl,rfl,rfl,rfl,rfl,rfl,rfl,rfl,rfl,rfl,rfl⟩ bL aBs rfl⟩⟩
   ·show Rq (upd Z' i g j) _ _
    rw[bD oM];exact hZ' j hj
   ·show Rq (upd Z' i g j) _ _
    rw[bD oM];exact hY' j h4 h5
   show Rq (upd Z' i g i) _ _
   rw[bN];exact hg
  replace h3:¬(t:Int)<((us i).length:Nat):=h3
  obtain rfl:t=(us i).length:=by omega
  have hb4:(us i).length*(F+yb ZB F k+1)<=k*(F+yb ZB F k+1):=aQ _ oM
  rw[cZ] at hq hqr
  have e2:=eU.e 0 (by rw[hu];simp)
  rw[show(Up i).getD 0 default=((i:Int),p i) by rw[hu];rfl] at e2
  have hpb:rb (p i) F:=h.bu i hin ((i:Int),p i) (by rw[hu];exact .head _)
  have hpr:Rq (row.l.getD 0 default).v (p i) F:=Cr.rq e2.2 hpb
  have hpi':rb (p i)⁻¹ F:=hpr.flip.rb h1
  have hyr:rb (y i) (yb ZB F (k+1)):=by
   rw[ey i hin,jT]
   exact(fI hqr hpi').le oM
  refine aA gT mxd ?_
  refine⟨.seq ((List.range 16).map λi=>(i,i==15)),by kernel_rfl,i,⟨rfl,hin,fD hin⟩,_,kT hin,0,⟨rfl,show 0<row.l.length by omega⟩,[],aOn (Z' i) (row.l.getD 0 default).v (hq.le oM) (hpr.le) hpi,rfl,rfl,rfl,λg hg=>?_⟩
  replace hg:Cr g (y i):=by rw[ey i hin];exact hg
  have hgq:Rq g (y i) (yb ZB F (k+1)):=hg.rq hyr
  refine⟨i,⟨rfl,hin,fD hin⟩,_,iA hin,?_⟩
  refine⟨.seq ((List.range 12).map λi=>(i,i==11)),by kernel_rfl,i,⟨rfl,show i<f.K.l.length by omega⟩,i,⟨rfl,hin,fD hin⟩,_,kT hin,cl i,⟨hix,hci,fD hci⟩,_,iA hci,(k+1:Nat),wi,bS hM (chg:=λg:Nat×(Nat->RatM)×(Nat->RatM)=>bJo n g.1) (bls:=λg=>aPh f n g.2.1 g.2.2) (fls:=λ_=>[]) (k+1,upd Z' i g,upd X (cl i) (upd Z' i g i)) ⟨⟨hkn,λj hj=>?_,λj h4 h5=>?_,λj h4 h5=>?_⟩,show n-(k+1)<n-k by omega⟩ rfl ⟨rfl,rfl,rfl⟩ trivial ⟨rfl,rfl,rfl,rfl,rfl,rfl⟩ bL aBs rfl⟩
  ·replace hj:j<n-(k+1):=hj
   show Rq (upd Z' i g j) _ _
   rw[bD oM];exact hZ' j oM
  ·replace h4:n-(k+1)<=j:=h4
   show Rq (upd Z' i g j) _ (yb ZB F (k+1))
   by_cases e:j=i
   ·subst e;rw[bN];exact hgq
   rw[bD e];exact(hY' j oM h5).le oM
  replace h4:n-(k+1)<=j:=h4
  show Cr (upd X (cl i) (upd Z' i g i) (cl j)) (y j)/\rb (y j) (yb ZB F (k+1))
  by_cases e:j=i
  ·subst e;rw[bN,bN];exact⟨hg,hyr⟩
  have e2:cl j≠cl i:=λe2=>e (h.o.cinj j i h5 hin e2)
  rw[bD e2]
  have:=hX j oM h5
  exact⟨this.1,this.2.le oM⟩
 replace h2:¬(k:Int)<(n:Nat):=h2
 obtain rfl:n=k:=by omega
 obtain⟨xv,hxv⟩:∃xv:Nat->Rat,∀j,j<n->xv (cl j)=y j:=aPi h.o.clt h.o.cinj y
 show Sd _ _ _ _ _ _
 refine aRg tSd 0 2 rfl rfl bL bL rfl ⟨_,swl eD,_,swl eD,bL,aA gT mxd ⟨(X,xv),⟨h.o.sol hP λi hi=>?_,λc hc=>?_⟩,fB ⟨rfl,rfl⟩ rfl bL (aB (bT eD) aY) rfl (aAb eD)⟩⟩
 ·show xv (cl i)=_
  rw[hxv i hi,hy,hζ]
 obtain⟨j,hj,rfl⟩:=oD h.o.clt h.o.cinj c hc
 show Cr (X (cl j)) (xv (cl j))/\rb (xv (cl j)) _
 rw[hxv j hj,<-hZe]
 exact hX j oM hj
structure StpM where
 k:Int
 p:RatM
 o:Sl EntM
instance:Inhabited StpM:=⟨⟨0,default,cP⟩⟩
def StpM.C (s:StpM):List CV:=iC s.k::(s.p.C++[cF s.o])
structure StpR where
 k:Nat
 p:Rat
 o:List En
instance:Inhabited StpR:=⟨⟨0,0,[]⟩⟩
structure StpOk (S:StpM) (s:StpR) (n F:Nat):Prop where
 k:S.k=(s.k:Nat)
 kn:s.k<n
 p:Cr S.p s.p
 pb:rb s.p F
 p0:s.p≠0
 o:Ek S.o.l s.o
 ov:VOk s.o (n:Nat)
 ok:∀e∈s.o,e.1≠(s.k:Nat)
 ob:rbE s.o F
structure IvM where
 c:Nat->Sl EntM
 f:LuM
 A:Option Nat
 k:Nat
 L:List StpM
def SolA (a:Nat->Nat->Rat) (n:Nat) (b xv:Nat->Rat):Prop:=∀x:Nat->Rat,(∀k,k<n->cA (λj=>a k j*x j) n=b k)↔∀c,c<n->x c=xv c
abbrev enM (M:Nat->List En):Nat->Nat->Rat:=λr j=>Vm.get (M r) (j:Nat)
theorem Sol.a {M:Nat->List En} {n:Nat} {b xv:Nat->Rat} (h:Sol M n b xv):SolA (enM M) n b xv:=h
theorem SolA.congr {a a':Nat->Nat->Rat} {n:Nat} {b b' xv xv':Nat->Rat} (h:SolA a n b xv) (ha:∀r j,r<n->j<n->a' r j=a r j) (hb:∀r,r<n->b' r=b r) (hx:∀c,c<n->xv' c=xv c):SolA a' n b' xv':=λx=>by
 have e1:(∀k,k<n->cA (λj=>a' k j*x j) n=b' k)↔∀k,k<n->cA (λj=>a k j*x j) n=b k:=by
  constructor<;>intro hh k hk
  ·rw[<-hb k hk,<-hh k hk];exact bP λj hj=>by rw[ha k j hk hj]
  rw[hb k hk,<-hh k hk];exact bP λj hj=>by rw[ha k j hk hj]
 rw[e1,h x]
 constructor<;>intro hh c hc
 ·rw[hx c hc];exact hh c hc
 rw[<-hx c hc];exact hh c hc
theorem SolA.eq {a:Nat->Nat->Rat} {n:Nat} {b xv:Nat->Rat} (h:SolA a n b xv):∀k,k<n->cA (λj=>a k j*xv j) n=b k:=(h xv).2 λ_ _=>rfl
def skp (p r:Nat):Nat:=if r<p then r else r+1
theorem wE {p r n:Nat} (h:r<n):skp p r<n+1:=by unfold skp;split<;>omega
theorem bDc (p r:Nat):skp p r≠p:=by unfold skp;split<;>omega
theorem bDd {p c n:Nat} (h:c<n+1) (hp:p<n+1) (hc:c≠p):∃i,i<n/\skp p i=c:=by
 by_cases e:c<p
 ·exact⟨c,by omega,if_pos e⟩
 refine⟨c-1,by omega,?_⟩
 unfold skp
 rw[if_neg oM];omega
theorem wF {f:Nat->Rat} {p:Nat}:∀{n:Nat},p<n+1->cA f (n+1)=f p+cA (λi=>f (skp p i)) n
 |0,h=>by
  obtain rfl:p=0:=by omega
  show(0:Rat)+f 0=f 0+0;grind
 |n+1,h=>by
  show cA f (n+1)+f (n+1)=f p+(cA (λi=>f (skp p i)) n+f (skp p n))
  by_cases e:p=n+1
  ·subst e
   have h1:∀m,m<=n+1->cA (λi=>f (skp (n+1) i)) m=cA f m:=λm hm=>bP λj hj=>by unfold skp;rw[if_pos oM]
   have h2:skp (n+1) n=n:=by unfold skp;rw[if_pos oM]
   rw[h2,h1 n oM]
   show cA f n+f n+f (n+1)=_
   grind
  have h2:skp p n=n+1:=by unfold skp;rw[if_neg oM]
  rw[h2,wF (f:=f) (p:=p) (n:=n) oM]
  grind
theorem aLo (s:Nat):∀n,bd (4*s+1) n=bd s (n+1)
 |0=>rfl
 |n+1=>by show 4*bd (4*s+1) n+1=4*bd s (n+1)+1;rw[aLo s n]
theorem aIo {a b:Rat} {B B':Nat} (ha:rb a B) (hb:rb b B') (hB:1<=B):rb (a/b) (B+B'):=by
 have h1:=zQ (a:=a.num*(b.den:Int)) (b:=(a.den:Int)*b.num)
 have h2:=zR (a:=a.num*(b.den:Int)) (b:=(a.den:Int)*b.num)
 rw[aWg] at h1 h2
 have p1:=oV a.num.natAbs (b.den:Int).natAbs
 have p2:=oV (a.den:Int).natAbs b.num.natAbs
 rw[<-kM] at p1 p2
 simp only[eB] at p1 p2
 simp only[eY] at h1 h2
 obtain⟨a1,a2⟩:=ha
 obtain⟨b1,b2⟩:=hb
 exact⟨by omega,by omega⟩
theorem SolA.size:∀{n s:Nat} {a:Nat->Nat->Rat} {b xv:Nat->Rat},1<=s->(∀r j,r<n->j<n->rb (a r j) s)->(∀r,r<n->rb (b r) s)->SolA a n b xv->∀i,i<n->rb (xv i) (2*bd s n)
 |0,s,a,b,xv,_,_,_,_,i,hi=>absurd hi (aD _)
 |1,s,a,b,xv,h1,ha,hb,h,i,hi=>by
  obtain rfl:i=0:=by omega
  have he:=h.eq 0 oM
  have he':a 0 0*xv 0=b 0:=by rw[<-he];show _=(0:Rat)+_;grind
  have hne:a 0 0≠0:=λh0=>by
   have h2:=(h λc=>xv c+1).1 λk hk=>by
    obtain rfl:k=0:=by omega
    rw[<-he]
    show(0:Rat)+a 0 0*(xv 0+1)=(0:Rat)+a 0 0*xv 0
    rw[h0];grind
   have:=h2 0 oM
   have h3:(1:Rat)=0:=by grind
   exact absurd h3 dC
  have hx:xv 0=b 0/a 0 0:=by
   rw[<-he',jT,Rat.mul_comm (a 0 0),tE,kZ _ hne,nV]
  rw[hx]
  exact(aIo (hb 0 oM) (ha 0 0 oM oM) h1).le (by show s+s<=2*(4*s+1);omega)
 |n+2,s,a,b,xv,h1,ha,hb,h,i,hi=>by
  obtain⟨j,hj,hji⟩:∃j,j<n+2/\j≠i:=by
   by_cases e:i=0
   ·exact⟨1,by omega,by omega⟩
   exact⟨0,by omega,by omega⟩
  obtain⟨p,hp,hpj⟩:∃p,p<n+2/\a p j≠0:=aT λhn=>by
   have h0:∀p,p<n+2->a p j=0:=λp hp=>aT λh2=>hn ⟨p,hp,h2⟩
   have h2:=(h (upd xv j (xv j+1))).1 λk hk=>by
    rw[<-h.eq k hk]
    refine bP λc hc=>?_
    by_cases e:c=j
    ·subst e;rw[h0 k hk,cY,cY]
    rw[bD e]
   have:=h2 j hj
   rw[bN] at this
   have h3:(1:Rat)=0:=by grind
   exact absurd h3 dC
  obtain⟨i',hi',hsi⟩:=bDd hi hj (fV hji)
  have hs:=SolA.size (n:=n+1) (s:=4*s+1) (a:=λr c=>a p j*a (skp p r) (skp j c)-a (skp p r) j*a p (skp j c)) (b:=λr=>a p j*b (skp p r)-a (skp p r) j*b p) (xv:=λc=>xv (skp j c)) oM (λr c hr hc=>?_) (λr hr=>?_) (λx=>?_) i' hi'
  ·rw[aLo,hsi] at hs
   exact hs
  ·have m1:=fI (ha p j hp hj) (ha _ _ (wE (p:=p) hr) (wE (p:=j) hc))
   have m2:=fI (ha _ j (wE (p:=p) hr) hj) (ha p _ hp (wE (p:=j) hc))
   exact(qH m1 m2).le oM
  ·have m1:=fI (ha p j hp hj) (hb _ (wE (p:=p) hr))
   have m2:=fI (ha _ j (wE (p:=p) hr) hj) (hb p hp)
   exact(qH m1 m2).le oM
  have red:∀(y:Nat->Rat) (r:Nat),cA (λc=>(a p j*a (skp p r) (skp j c)-a (skp p r) j*a p (skp j c))*y (skp j c)) (n+1)=a p j*cA (λc=>a (skp p r) c*y c) (n+2)-a (skp p r) j*cA (λc=>a p c*y c) (n+2):=λy r=>by
   rw[wF (p:=j) hj,wF (f:=λc=>a p c*y c) (p:=j) hj]
   have e1:cA (λc=>(a p j*a (skp p r) (skp j c)-a (skp p r) j*a p (skp j c))*y (skp j c)) (n+1)=cA (λc=>a p j*(a (skp p r) (skp j c)*y (skp j c))+(-a (skp p r) j)*(a p (skp j c)*y (skp j c))) (n+1):=bP λc _=>by grind
   have e2:∀(f:Nat->Rat) (q:Rat) (m:Nat),cA (λc=>q*f c) m=q*cA f m:=λf q m=>by
    have:=jO (f:=λ_=>(0:Rat)) (g:=f) (q:=q) (n:=m)
    rw[fP λ_ _=>rfl,fM] at this
    rw[<-this]
    exact bP λc _=>by grind
   rw[e1,jO,e2]
   grind
  constructor
  ·intro hx c hc
   obtain⟨y,hy⟩:∃y:Nat->Rat,(∀c,c<n+1->y (skp j c)=x c)/\cA (λc=>a p c*y c) (n+2)=b p:=by
    obtain⟨un,hun⟩:∃un:Nat->Nat,∀c,un (skp j c)=c:=⟨λc=>if c<j then c else c-1,λc=>by
     show(if skp j c<j then skp j c else skp j c-1)=c
     by_cases e:c<j
     ·have:skp j c=c:=if_pos e
      rw[this,if_pos e]
     have:skp j c=c+1:=if_neg e
     rw[this,if_neg oM];rfl⟩
    refine⟨upd (λc=>x (un c)) j ((b p-cA (λc=>a p (skp j c)*x c) (n+1))/a p j),λc _=>by rw[bD (bDc j c),hun],?_⟩
    rw[wF (p:=j) hj,bN]
    have e1:cA (λc=>a p (skp j c)*upd (λc=>x (un c)) j ((b p-cA (λc=>a p (skp j c)*x c) (n+1))/a p j) (skp j c)) (n+1)=cA (λc=>a p (skp j c)*x c) (n+1):=bP λc _=>by rw[bD (bDc j c),hun]
    rw[e1]
    have h9:=kZ _ hpj
    generalize a p j=q at h9
    rw[jT]
    have:q*((b p-cA (λc=>a p (skp j c)*x c) (n+1))*q⁻¹)=(b p-cA (λc=>a p (skp j c)*x c) (n+1))*(q*q⁻¹):=by grind
    rw[this,h9];grind
   obtain⟨y1,y2⟩:=hy
   have hyx:=(h y).1 λk hk=>by
    by_cases e:k=p
    ·rw[e];exact y2
    obtain⟨r,hr,rfl⟩:=bDd hk hp e
    have h3:=hx r hr
    rw[bP λc hc=>by rw[<-y1 c hc]] at h3
    rw[red y r,y2] at h3
    have h4:a p j*(cA (λc=>a (skp p r) c*y c) (n+2)-b (skp p r))=0:=by grind
    rcases pZ.1 h4 with h5|h5
    ·exact absurd h5 hpj
    grind
   rw[<-y1 c hc]
   exact hyx _ (wE hc)
  intro hx r hr
  rw[bP λc hc=>by rw[hx c hc],red xv r,h.eq _ (wE hr),h.eq p hp]
def Nul (E:Nat->Nat->Rat) (r c:Nat) (x:Nat->Rat):Prop:=∀i,i<r->cA (λj=>E i j*x j) c=0
structure Ech (Q E:Nat->Nat->Rat) (r c C t:Nat) (pv:Nat->Nat):Prop where
 tr:t<=r
 lt:∀k,k<t->pv k<C
 mono:∀k l,k<l->l<t->pv k<pv l
 piv:∀k,k<t->E k (pv k)≠0
 z:∀j i,j<C->i<r->(∀k,k<t->pv k<=j->k<i)->E i j=0
 nul:∀x,Nul E r c x↔Nul Q r c x
theorem Ech.start {Q:Nat->Nat->Rat} {r c:Nat} (pv:Nat->Nat):Ech Q Q r c 0 0 pv:=⟨aC _,λ_ h=>absurd h (aD _),λ_ _ _ h=>absurd h (aD _),λ_ h=>absurd h (aD _),λ_ _ h=>absurd h (aD _),λ_=>mS⟩
theorem Ech.skip {Q E:Nat->Nat->Rat} {r c C t:Nat} {pv:Nat->Nat} (h:Ech Q E r c C t pv) (hz:∀i,t<=i->i<r->E i C=0):Ech Q E r c (C+1) t pv:=⟨h.tr,λk hk=>eA (h.lt k hk),h.mono,h.piv,λj i hj hi hk=>by
 by_cases e:j=C
 ·subst e
  refine hz i ?_ hi
  cases t with
  |zero=>exact aC _
  |succ t=>exact hk t (bE t) (fG (h.lt t (bE t)))
 exact h.z j i oM hi hk,h.nul⟩
def sw2 (a b i:Nat):Nat:=if i=a then b else if i=b then a else i
theorem aIp {a b i r:Nat} (ha:a<r) (hb:b<r) (hi:i<r):sw2 a b i<r:=by
 unfold sw2;split
 ·exact hb
 split
 ·exact ha
 exact hi
theorem bJr {a b i:Nat}:sw2 a b (sw2 a b i)=i:=by
 unfold sw2
 by_cases h1:i=a
 ·by_cases h2:b=a
  ·simp[h1,h2]
  simp[h1,h2]
 by_cases h2:i=b
 ·simp[h2]
 simp[h1,h2]
theorem bTr {E:Nat->Nat->Rat} {r c a b:Nat} {x:Nat->Rat} (ha:a<r) (hb:b<r):Nul (λi=>E (sw2 a b i)) r c x↔Nul E r c x:=⟨λh i hi=>by
 have:=h (sw2 a b i) (aIp ha hb hi)
 simp only[bJr] at this
 exact this,λh i hi=>h _ (aIp ha hb hi)⟩
def gsE (E:Nat->Nat->Rat) (t C R:Nat) (i j:Nat):Rat:=if t<i/\i<R then E i j-E i C/E t C*E t j else E i j
theorem bTs {E:Nat->Nat->Rat} {r c t C:Nat} {x:Nat->Rat} (ht:t<r):Nul (gsE E t C r) r c x↔Nul E r c x:=by
 have key:∀i,t<i->i<r->cA (λj=>gsE E t C r i j*x j) c=cA (λj=>E i j*x j) c+ -(E i C/E t C)*cA (λj=>E t j*x j) c:=λi h1 h2=>by
  rw[<-jO]
  refine bP λj _=>?_
  unfold gsE
  rw[if_pos ⟨h1,h2⟩]
  grind
 have same:∀i,¬(t<i/\i<r)->cA (λj=>gsE E t C r i j*x j) c=cA (λj=>E i j*x j) c:=λi h=>bP λj _=>by unfold gsE;rw[if_neg h]
 constructor
 ·intro h i hi
  have h0:=h t ht
  rw[same t oM] at h0
  by_cases e:t<i
  ·have:=h i hi
   rw[key i e hi,h0,bZ,bM] at this
   exact this
  rw[<-same i oM];exact h i hi
 intro h i hi
 by_cases e:t<i
 ·rw[key i e hi,h i hi,h t ht,bZ,bM]
 rw[same i oM];exact h i hi
theorem Ech.step {Q E:Nat->Nat->Rat} {r c C t k:Nat} {pv:Nat->Nat} (h:Ech Q E r c C t pv) (hk:t<=k) (hkr:k<r) (hp:E k C≠0):Ech Q (gsE (λi=>E (sw2 k t i)) t C r) r c (C+1) (t+1) (upd pv t C):=by
 have htr:t<r:=eR hk hkr
 have e1:∀i,i<t->sw2 k t i=i:=λi hi=>by unfold sw2;rw[if_neg oM,if_neg oM]
 have e2:sw2 k t t=k:=by unfold sw2;split<;>simp_all
 have e3:∀i,t<=i->t<=sw2 k t i:=λi hi=>by unfold sw2;split;exact aJ _;split;exact hk;exact hi
 have zz:∀j i,j<C->t<=i->i<r->E i j=0:=λj i hj hi hr=>h.z j i hj hr λk' hk' _=>bI hk' hi
 refine⟨htr,λl hl=>?_,λa b hab hb=>?_,λl hl=>?_,λj i hj hi hh=>?_,λx=>(bTs htr).trans ((bTr hkr htr).trans (h.nul x))⟩
 ·by_cases e:l=t
  ·subst e;rw[bN];exact bE C
  rw[bD e];exact eA (h.lt l oM)
 ·by_cases e:b=t
  ·subst e;rw[bN,bD oM];exact h.lt a hab
  rw[bD e,bD oM];exact h.mono a b hab oM
 ·simp only[gsE]
  rw[if_neg oM]
  by_cases e:l=t
  ·subst e;rw[bN,e2];exact hp
  rw[bD e,e1 l oM];exact h.piv l oM
 simp only[gsE]
 by_cases e:j=C
 ·subst e
  have:=hh t (bE t) (by rw[bN];exact aJ _)
  rw[if_pos ⟨this,hi⟩,e2]
  rw[rP hp]
  grind
 have hj':j<C:=by omega
 by_cases e4:t<=i
 ·have a1:E (sw2 k t i) j=0:=zz j _ hj' (e3 i e4) (aIp hkr htr hi)
  have a2:E (sw2 k t t) j=0:=zz j _ hj' (e3 t (aJ t)) (aIp hkr htr htr)
  rw[a1,a2,bZ]
  split
  ·grind
  rfl
 rw[if_neg oM]
 rw[e1 i oM]
 refine h.z j i hj' hi λk' hk' hle=>hh k' (eA hk') ?_
 rw[bD oM];exact hle
theorem aDu {a:Nat->Rat} {x:Nat->Rat} {p:Nat} {v:Rat}:∀{n:Nat},p<n->cA (λj=>a j*upd x p v j) n=cA (λj=>a j*x j) n+a p*(v-x p)
 |0,h=>absurd h (aD _)
 |n+1,h=>by
  by_cases e:p=n
  ·subst e
   show cA _ p+a p*upd x p v p=cA _ p+a p*x p+_
   rw[bN,bP (g:=λj=>a j*x j) λj hj=>by rw[bD oM]]
   grind
  show cA _ n+a n*upd x p v n=cA _ n+a n*x n+_
  rw[aDu oM,bD oM]
  grind
theorem Ech.ind {Q E:Nat->Nat->Rat} {r c t:Nat} {pv:Nat->Nat} (h:Ech Q E r c c t pv) {j:Nat} (hj:j<c):(∃k,k<t/\pv k=j)↔¬∃x:Nat->Rat,x j=1/\(∀i,j<i->x i=0)/\Nul Q r c x:=by
 constructor
 ·rintro⟨k,hk,rfl⟩ ⟨x,h1,h2,h3⟩
  have h4:=(h.nul x).2 h3 k (bI hk h.tr)
  refine h.piv k hk ?_
  rw[kG (m:=pv k) hj λi hi=>?_,h1,nV] at h4
  ·exact h4
  by_cases e:pv k<i
  ·rw[h2 i e,bZ]
  rw[h.z i k oM (bI hk h.tr) λl hl hle=>aT λhn=>?_,cY]
  by_cases e2:l=k
  ·subst e2;omega
  have:=h.mono k l oM hl
  omega
 intro hno
 refine aT λhnp=>hno ?_
 have hne:∀k,k<t->pv k≠j:=λk hk e=>hnp ⟨k,hk,e⟩
 have cnt:∀m,m<=t->∃s,s<=m/\(∀k,k<m->(pv k<j↔k<s)):=λm=>by
  induction m with
  |zero=>exact λ_=>⟨0,aJ _,λk hk=>absurd hk (aD _)⟩
  |succ m ih=>
   intro hm
   obtain⟨s,hs,hh⟩:=ih oM
   by_cases e:pv m<j
   ·refine⟨m+1,aJ _,λk hk=>⟨λ_=>hk,λ_=>?_⟩⟩
    by_cases e2:k=m
    ·subst e2;exact e
    exact qI (h.mono k m oM oM) e
   refine⟨s,by omega,λk hk=>?_⟩
   by_cases e2:k=m
   ·subst e2;exact⟨λh=>absurd h e,λh=>by omega⟩
   exact hh k oM
 obtain⟨s,hs,hsk⟩:=cnt t (aJ t)
 have zr:∀i l,s<=i->i<r->l<=j->E i l=0:=λi l hi hr hl=>h.z l i oM hr λk hk hle=>by
  have:=(hsk k hk).1 (by have:=hne k hk;omega)
  omega
 have main:∀d,d<=s->∃x:Nat->Rat,x j=1/\(∀i,j<i->x i=0)/\∀i,s-d<=i->i<r->cA (λl=>E i l*x l) c=0:=λd=>by
  induction d with
  |zero=>
   refine λ_=>⟨λi=>if i=j then 1 else 0,if_pos rfl,λi hi=>if_neg oM,λi hi hr=>fP λl hl=>?_⟩
   by_cases e:l=j
   ·rw[zr i l oM hr oM,cY]
   show E i l*(if l=j then 1 else 0)=0
   rw[if_neg e,bZ]
  |succ d ih=>
   intro hd
   obtain⟨x,h1,h2,h3⟩:=ih oM
   obtain⟨k,hk⟩:∃k,k=s-(d+1):=⟨_,rfl⟩
   have hkt:k<t:=by omega
   have hpj:pv k<j:=(hsk k hkt).2 oM
   have hpz:=h.piv k hkt
   refine⟨upd x (pv k) (x (pv k)-cA (λl=>E k l*x l) c/E k (pv k)),(bD oM).trans h1,λi hi=>(bD oM).trans (h2 i hi),λi hi hr=>?_⟩
   rw[aDu oM]
   by_cases e:i=k
   ·subst e
    have:E i (pv i)*(x (pv i)-cA (λl=>E i l*x l) c/E i (pv i)-x (pv i))=-(cA (λl=>E i l*x l) c/E i (pv i)*E i (pv i)):=by grind
    rw[this,rP hpz]
    grind
   rw[h3 i oM hr]
   rw[h.z (pv k) i oM hr λl hl hle=>?_,cY,bM]
   by_cases e2:l<=k
   ·omega
   have:=h.mono k l oM hl
   omega
 obtain⟨x,h1,h2,h3⟩:=main s (aJ s)
 exact⟨x,h1,h2,(h.nul x).1 λi hi=>h3 i oM hi⟩
theorem Ech.full {Q E:Nat->Nat->Rat} {r n:Nat} {t:Nat} {pv:Nat->Nat} (h:Ech Q E r n n t pv):t=n↔¬∃x:Nat->Rat,(∃i,i<n/\x i≠0)/\Nul Q r n x:=by
 have inj:∀a b,a<t->b<t->pv a=pv b->a=b:=λa b ha hb e=>by
  rcases eP a b with h1|h1|h1
  ·have:=h.mono a b h1 hb;omega
  ·exact h1
  have:=h.mono b a h1 ha;omega
 constructor
 ·rintro rfl ⟨x,⟨i,hi,hx⟩,h3⟩
  obtain⟨d,hd⟩:∃d,d=t-i:=⟨_,rfl⟩
  induction d using Nat.strongRecOn generalizing i with
  |ind d ih=>
   by_cases hm:∃l,i<l/\l<t/\x l≠0
   ·obtain⟨l,h1,h2,h4⟩:=hm
    exact ih (t-l) oM l h2 h4 rfl
   obtain⟨k,hk,he⟩:=oD h.lt inj i hi
   refine(h.ind hi).1 ⟨k,hk,he⟩ ⟨λl=>if l<t then (x i)⁻¹*x l else 0,?_,λl hl=>?_,λa ha=>?_⟩
   ·show(if i<t then _ else _)=_
    rw[if_pos hi];exact kY _ hx
   ·show(if l<t then _ else _)=_
    split
    ·next hlt=>rw[aT λhn=>hm ⟨l,hl,hlt,hn⟩,bZ]
    rfl
   have h5:=h3 a ha
   have h6:cA (λl=>Q a l*if l<t then (x i)⁻¹*x l else 0) t=0+(x i)⁻¹*cA (λl=>Q a l*x l) t:=by
    rw[show(0:Rat)=cA (λ_=>(0:Rat)) t from (fP λ_ _=>rfl).symm,<-jO]
    refine bP λl hl=>?_
    rw[if_pos hl];grind
   rw[h6,h5,bZ,bM]
 intro hno
 refine aT λhne=>?_
 have hall:∀j,j<n->∃k,k<t/\pv k=j:=λj hj=>(h.ind hj).2 λ⟨x,h1,h2,h3⟩=>hno ⟨x,⟨j,hj,by rw[h1];decide⟩,h3⟩
 have htn:t<=n:=by
  have h1:((List.range t).map pv).Nodup:=by
   rw[cI,fN]
   refine(cI.1 kS).imp_of_mem λ{a b} ha hb hab he=>hab (inj a b (cQ.1 ha) (cQ.1 hb) he)
  have:=pJ h1 (n:=n) λi hi=>by
   obtain⟨k,hk,rfl⟩:=cB.1 hi
   exact h.lt k (cQ.1 hk)
  simpa using this
 have h2:((List.range n).map λj=>if hj:j<n then (hall j hj).choose else 0).Nodup:=by
  rw[cI,fN]
  refine(cI.1 kS).imp_of_mem λ{a b} ha hb hab he=>hab ?_
  have ha':=cQ.1 ha
  have hb':=cQ.1 hb
  rw[dif_pos ha',dif_pos hb'] at he
  rw[<-(hall a ha').choose_spec.2,<-(hall b hb').choose_spec.2,he]
 have h3:=pJ h2 (n:=t) λi hi=>by
  obtain⟨j,hj,rfl⟩:=cB.1 hi
  have hj':=cQ.1 hj
  rw[dif_pos hj']
  exact(hall j hj').choose_spec.1
 simp at h3
 omega
structure EcR (R:Nat->List RatM) (s:Nat->Nat) (E:Nat->Nat->Rat) (r c:Nat):Prop where
 ln:∀i,i<r->(R (s i)).length=c
 e:∀i j,i<r->j<c->Cr ((R (s i)).getD j default) (E i j)
theorem EcR.put {R:Nat->List RatM} {s:Nat->Nat} {E:Nat->Nat->Rat} {r c q j:Nat} {g:RatM} {v:Rat} (h:EcR R s E r c) (hs:∀i j,i<r->j<r->s i=s j->i=j) (hq:q<r) (hj:j<c) (hg:Cr g v):EcR (upd R (s q) ((R (s q)).set j g)) s (λi l=>if i=q/\l=j then v else E i l) r c:=⟨λi hi=>by
 by_cases e:i=q
 ·subst e;rw[bN,bQ];exact h.ln i hi
 ·rw[bD λe2=>e (hs i q hi hq e2)];exact h.ln i hi,λi l hi hl=>by
 have hlq:=h.ln q hq
 by_cases e:i=q
 ·subst e
  rw[bN]
  by_cases e2:l=j
  ·subst e2
   rw[if_pos ⟨rfl,rfl⟩,gd (by rw[bQ];omega),List.getElem_set_self];exact hg
  rw[if_neg (λhh=>e2 hh.2)]
  have:=h.e i l hi hl
  simp only[List.getD,mM (fV e2)]
  exact this
 rw[bD λe2=>e (hs i q hi hq e2),if_neg λhh=>e hh.1];exact h.e i l hi hl⟩
structure EcG where
 C:Nat
 t:Nat
 pv:Nat->Nat
 n:Int
 s:Nat->Nat
 R:Nat->List RatM
 E:Nat->Nat->Rat
structure EcI (Q:Nat->Nat->Rat) (r c B:Nat) (g:EcG):Prop where
 C:g.C<=c
 o:Ech Q g.E r c g.C g.t g.pv
 R:EcR g.R g.s g.E r c
 lt:∀i,i<r->g.s i<r
 inj:∀i j,i<r->j<r->g.s i=g.s j->i=j
 b:∀i j,i<r->j<c->rb (g.E i j) (bd B (min g.t (r-1)))
 n:g.n=1\/g.n=-1
structure EcO where
 d:Sl (Sl RatM)
 p:Sl Int
 n:Int
 E:Nat->Nat->Rat
 t:Nat
 pv:Nat->Nat
structure EcP (Q:Nat->List Rat) (r c B:Nat) (g:EcO):Prop where
 o:Ech (λi j=>(Q i).getD j 0) g.E r c c g.t g.pv
 p:g.p.l=nL g.t g.pv
 d:g.d.l.length=r
 l:∀i,i<r->(g.d.l.getD i cP).l.length=c
 e:∀i j,i<r->j<c->Cr ((g.d.l.getD i cP).l.getD j default) (g.E i j)
 b:∀i j,i<r->j<c->rb (g.E i j) (bd B (min g.t (r-1)))
abbrev mQ (M:Nat->List En) (i j:Nat):Rat:=Vm.get (M i) (j:Nat)
structure InP (M:Nat->List En) (a b:Nat) (p:Sl Int):Prop where
 ex:∃(E:Nat->Nat->Rat) (t:Nat) (pv:Nat->Nat),p.l=nL t pv/\Ech (mQ M) E a b b t pv
structure FeR (m:MatM) (M:Nat->List En) (e:Int):Prop where
 bad:¬MOk m M->e=1
 shp:MOk m M->m.r≠m.c->e=4
 sq:∀n:Nat,MOk m M->m.r=(n:Nat)->m.c=(n:Nat)->(Ker M n->e=6)/\(¬Ker M n->e=0)
structure RepG where
 w:Nat->Rat
 o:Option (Sl EntM×StpM×Option Nat×Nat)
theorem bTt {l:List CV} (h:l.all fO=true):∀c∈l,fO c=true:=aR.1 h
theorem LuOk.nk {M:Nat->List En} {n:Nat} {rw cl:Nat->Nat} {Lw Up:Nat->List En} (h:LuOk M n rw cl Lw Up):¬Ker M n:=by
 obtain⟨lo,us,p,hP⟩:=h.parts
 obtain⟨xv,hx⟩:=aPi h.clt h.cinj (bwd us p n (fwd lo (λ_=>0) n) n)
 have hS:Sol M n (λ_=>0) xv:=h.sol (b:=λ_=>0) hP hx
 have h0:=(hS λ_=>0).1 λk _=>fP λj _=>bZ _
 rintro⟨x,⟨i,hi,hxi⟩,hz⟩
 exact hxi (((hS x).1 hz i hi).trans (h0 i hi).symm)
structure ColM where
 k:RatM
 pl:Prop
 dl:Decidable pl
 l:RatM
 pu:Prop
 du:Decidable pu
 u:RatM
instance:Inhabited ColM:=⟨⟨default,False,inferInstance,default,False,inferInstance,default⟩⟩
def ColM.C (c:ColM):List CV:=[.b c.k.n.p c.k.n.d,dY c.k.n.m,dY c.k.d,.b c.pl c.dl,.b c.l.n.p c.l.n.d,dY c.l.n.m,dY c.l.d,.b c.pu c.du,.b c.u.n.p c.u.n.d,dY c.u.n.m,dY c.u.d]
structure ColR (c:ColM) (k l u:Rat) (B:Nat):Prop where
 k:Rq c.k k B
 l:Rq c.l l B
 u:Rq c.u u B
structure RowM where
 s:Int
 b:RatM
 e:Sl EntM
instance:Inhabited RowM:=⟨⟨0,default,cP⟩⟩
def RowM.C (r:RowM):List CV:=[iC r.s,.b r.b.n.p r.b.n.d,dY r.b.n.m,dY r.b.d,cF r.e]
structure RowR (r:RowM) (b:Rat) (es:List En) (B:Nat):Prop where
 b:Rq r.b b B
 e:Ev r.e.l es B
def Pmt (c:ColM) (s:Int):Prop:=s=2\/(s=0/\c.pl)\/(s=1/\c.pu)\/(s=3/\¬c.pl/\¬c.pu)
open Classical in
noncomputable def dfC (c:ColM):Int:=if c.pl then 0 else if c.pu then 1 else 3
def dfR (s:Int):Int:=if s=-1 then 1 else 0
abbrev bTu:FuncId:=59
theorem cJc:Ent Tryz.prog bTu:=aW func59 rfl kR
theorem cJd:Tryz.prog.funcs[bTu]? =some Tryz.f59:=func59
theorem bMj (c:ColM) (s:Int):Ctr Tryz.prog bTu [] [.a c.C,.c (iC s)] [] (λ_:Unit=>⟨pC (Pmt c s),[],True⟩):=by
 refine aX gT cJc cJd rfl rfl rfl bL aS (aA gT mxd ⟨λh=>aA gT mxd ?_,λh=>aA gT mxd ⟨λh2=>aA gT mxd ?_,λh2=>aA gT mxd ⟨λh3=>aA gT mxd ?_,λh3=>aA gT mxd ⟨λh4=>aA gT mxd ?_,λh4=>aA gT mxd ?_⟩⟩⟩⟩)
 ·exact⟨(),trivial,aM (tt (.inl h)) rfl trivial⟩
 ·replace h:¬s=2:=h
  replace h2:s=0:=h2
  refine⟨(),trivial,aM ⟨λhh=> .inr (.inl ⟨h2,hh⟩),λhh=>?_⟩ rfl trivial⟩
  rcases hh with hh|hh|hh|hh
  ·omega
  ·exact hh.2
  ·omega
  omega
 ·replace h:¬s=2:=h
  replace h2:¬s=0:=h2
  replace h3:s=1:=h3
  refine⟨(),trivial,aM ⟨λhh=> .inr (.inr (.inl ⟨h3,hh⟩)),λhh=>?_⟩ rfl trivial⟩
  rcases hh with hh|hh|hh|hh
  ·omega
  ·omega
  ·exact hh.2
  omega
 ·replace h:¬s=2:=h
  replace h2:¬s=0:=h2
  replace h3:¬s=1:=h3
  replace h4:s=3:=h4
  refine⟨(),trivial,aM ⟨λhh=> .inr (.inr (.inr ⟨h4,hh⟩)),λhh=>?_⟩ rfl trivial⟩
  rcases hh with hh|hh|hh|hh
  ·omega
  ·omega
  ·omega
  exact hh.2
 replace h:¬s=2:=h
 replace h2:¬s=0:=h2
 replace h3:¬s=1:=h3
 replace h4:¬s=3:=h4
 exact⟨(),trivial,aM (ff λhh=>by rcases hh with hh|hh|hh|hh<;>omega) rfl trivial⟩
abbrev bTv:FuncId:=58
theorem cJe:Ent Tryz.prog bTv:=aW func58 rfl kR
theorem cJf:Tryz.prog.funcs[bTv]? =some Tryz.f58:=func58
theorem cDg (c:ColM):Ctr Tryz.prog bTv [] [.a c.C] [] (λ_:Unit=>⟨.c (iC (dfC c)),[],True⟩):=by
 refine aX gT cJe cJf rfl rfl rfl bL aS (aA gT mxd ⟨λh=>aA gT mxd ?_,λh=>aA gT mxd ⟨λh2=>aA gT mxd ?_,λh2=>aA gT mxd ?_⟩⟩)
 ·rw[show dfC c=0 from if_pos h]
  exact⟨(),trivial,aM rfl rfl trivial⟩
 ·rw[show dfC c=1 from (if_neg h).trans (if_pos h2)]
  exact⟨(),trivial,aM rfl rfl trivial⟩
 rw[show dfC c=3 from (if_neg h).trans (if_neg h2)]
 exact⟨(),trivial,aM rfl rfl trivial⟩
abbrev bTw:FuncId:=62
theorem cJg:Ent Tryz.prog bTw:=aW func62 rfl kR
theorem cJh:Tryz.prog.funcs[bTw]? =some Tryz.f62:=func62
theorem bMk (r:RowM):Ctr Tryz.prog bTw [] [.a r.C] [] (λ_:Unit=>⟨.c (iC (dfR r.s)),[],True⟩):=by
 refine aX gT cJg cJh rfl rfl rfl bL aS (aA gT mxd ⟨λh=>aA gT mxd ?_,λh=>aA gT mxd ?_⟩)
 ·rw[show dfR r.s=1 from if_pos h]
  exact⟨(),trivial,aM rfl rfl trivial⟩
 rw[show dfR r.s=0 from if_neg h]
 exact⟨(),trivial,aM rfl rfl trivial⟩
def Crs (c:ColM) (l u:Rat):Prop:=(c.pl/\c.pu)/\u<l
def Fxd (c:ColM) (l u:Rat):Prop:=(c.pl/\c.pu)/\l=u
theorem uN {a b:Rat}:0<cmQ a b↔b<a:=by
 unfold cmQ
 split
 ·next h=>exact⟨λh2=>by omega,λh2=>absurd h2 (Rat.not_lt.2 (Rat.le_of_lt h))⟩
 split
 ·next h=>exact⟨λ_=>h,λ_=>by omega⟩
 next h=>exact⟨λh2=>by omega,λh2=>absurd h2 h⟩
theorem aPj {a b:Rat}:cmQ a b=0↔a=b:=by
 unfold cmQ
 split
 ·next h=>exact⟨λh2=>by omega,λh2=>absurd (h2▸h) tD⟩
 next h1=>
 split
 ·next h=>exact⟨λh2=>by omega,λh2=>absurd (h2▸h) tD⟩
 next h=>exact⟨λ_=>Rat.le_antisymm (Rat.not_lt.1 h) (Rat.not_lt.1 h1),λ_=>rfl⟩
abbrev bTx:FuncId:=124
theorem cJi:Ent Tryz.prog bTx:=aW func124 rfl kR
theorem cJj:Tryz.prog.funcs[bTx]? =some Tryz.f124:=func124
theorem cDh (c:ColM) {k l u:Rat} {B:Nat} (h:ColR c k l u B) (hB:B<=4398046511104):Ctr Tryz.prog bTx [] [.a c.C] [] (λ_:Unit=>⟨pC (Crs c l u),[],True⟩):=by
 refine aX gT cJi cJj rfl rfl rfl bL aS (aA gT mxd ⟨λh1=>⟨[],sH c.l c.u (h.l.le) (h.u.le),rfl,rfl,rfl,λ_ _=>?_⟩,λh1=>?_⟩)
 ·exact⟨(),trivial,aM ⟨λhh=>⟨h1,uN.1 hh⟩,λhh=>uN.2 hh.2⟩ rfl trivial⟩
 exact⟨(),trivial,aM (ff λhh=>h1 hh.1) rfl trivial⟩
abbrev bTy:FuncId:=96
theorem cJk:Ent Tryz.prog bTy:=aW func96 rfl kR
theorem cJl:Tryz.prog.funcs[bTy]? =some Tryz.f96:=func96
theorem cDi (c:ColM) {k l u:Rat} {B:Nat} (h:ColR c k l u B) (hB:B<=4398046511104):Ctr Tryz.prog bTy [] [.a c.C] [] (λ_:Unit=>⟨pC (Fxd c l u),[],True⟩):=by
 refine aX gT cJk cJl rfl rfl rfl bL aS (aA gT mxd ⟨λh1=>⟨[],sH c.l c.u (h.l.le) (h.u.le),rfl,rfl,rfl,λ_ _=>?_⟩,λh1=>?_⟩)
 ·exact⟨(),trivial,aM ⟨λhh=>⟨h1,aPj.1 hh⟩,λhh=>aPj.2 hh.2⟩ rfl trivial⟩
 exact⟨(),trivial,aM (ff λhh=>h1 hh.1) rfl trivial⟩
def Sns (s:Int):Prop:=s=-1\/s=0\/s=1
abbrev bTz:FuncId:=125
theorem cJm:Ent Tryz.prog bTz:=aW func125 rfl kR
theorem cJn:Tryz.prog.funcs[bTz]? =some Tryz.f125:=func125
theorem cDj (s:Int):Ctr Tryz.prog bTz [] [.c (iC s)] [] (λ_:Unit=>⟨pC (Sns s),[],True⟩):=by
 refine aX gT cJm cJn rfl rfl rfl bL aS (aA gT mxd ⟨(),trivial,aM ?_ rfl trivial⟩)
 exact or_assoc
def wG (x:Sl ColM):CV:=x.R 11 ColM.C default
def aEn (x:Sl RowM):CV:=x.R 5 RowM.C default
structure ProgM where
 c:Sl ColM
 r:Sl RowM
def ProgM.C (p:ProgM):List CV:=[wG p.c,aEn p.r]
structure PrQ where
 k:Nat->Rat
 l:Nat->Rat
 u:Nat->Rat
 b:Nat->Rat
 M:Nat->List En
structure PrR (p:ProgM) (q:PrQ) (B:Nat):Prop where
 c:∀j,j<p.c.l.length->ColR (p.c.l.getD j default) (q.k j) (q.l j) (q.u j) B
 r:∀i,i<p.r.l.length->RowR (p.r.l.getD i default) (q.b i) (q.M i) B
abbrev PrM (p:ProgM) (q:PrQ) (i:Nat):Prop:=Sns (p.r.l.getD i default).s/\VOk (q.M i) (p.c.l.length:Nat)
structure PrE (p:ProgM) (q:PrQ) (e:Int):Prop where
 big:16384<p.c.l.length\/16384<p.r.l.length->e=8
 crs:¬(16384<p.c.l.length\/16384<p.r.l.length)->(∃j,j<p.c.l.length/\Crs (p.c.l.getD j default) (q.l j) (q.u j))->e=3
 bad:¬(16384<p.c.l.length\/16384<p.r.l.length)->(∀j,j<p.c.l.length->¬Crs (p.c.l.getD j default) (q.l j) (q.u j))->(∃i,i<p.r.l.length/\¬PrM p q i)->e=1
 ok:¬(16384<p.c.l.length\/16384<p.r.l.length)->(∀j,j<p.c.l.length->¬Crs (p.c.l.getD j default) (q.l j) (q.u j))->(∀i,i<p.r.l.length->PrM p q i)->e=0
abbrev bUa (p:ProgM) (k:Nat):List (Nat×DV):=[(20,.c (iC k)),(1,.c (.p 0 0)),(18,.c (wG p.c)),(19,.c (iC (p.c.l.length:Nat)))]
abbrev bUb (p:ProgM) (k:Nat):List (Nat×DV):=[(30,.c (iC k)),(1,.c (.p 0 0)),(28,.c (aEn p.r)),(29,.c (iC (p.r.l.length:Nat)))]
abbrev prB (p:ProgM):BL:=[(42,0,p.C)]
theorem aAf {p:ProgM}:scB 1 (prB p):=aB rfl aY
abbrev aSo:FuncId:=52
theorem cDk:Ent Tryz.prog aSo:=aW func52 rfl kR
theorem cDl:Tryz.prog.funcs[aSo]? =some Tryz.f52:=func52
theorem bUc (p:ProgM) {q:PrQ} {B:Nat} (h:PrR p q B) (hB:B<=4398046511104) (hc:p.c.l.length<=4611686018427387904) (hr:p.r.l.length<=4611686018427387904):Ctr Tryz.prog aSo [] [.a p.C] [] (λe:Int=>⟨.c (iC e),[],PrE p q e⟩):=by
 refine aX gT cDk cDl rfl rfl rfl bL aS (aA gT mxd ⟨λh2=>aA gT mxd ?_,λh2=>aA gT mxd ?_⟩)
 ·replace h2:(16384:Int)<(p.c.l.length:Nat)\/(16384:Int)<(p.r.l.length:Nat):=h2
  have h2':16384<p.c.l.length\/16384<p.r.l.length:=by omega
  exact⟨8,⟨λ_=>rfl,λhh=>absurd h2' hh,λhh=>absurd h2' hh,λhh=>absurd h2' hh⟩,aM rfl rfl trivial⟩
 replace h2:¬((16384:Int)<(p.c.l.length:Nat)\/(16384:Int)<(p.r.l.length:Nat)):=h2
 have h2':¬(16384<p.c.l.length\/16384<p.r.l.length):=by omega
 show Sd _ _ _ _ _ _
 refine cO (λ_=>true) (bUa p) (λ_=>prB p) (λ_=>[]) (λk=>k<=p.c.l.length/\∀j,j<k->¬Crs (p.c.l.getD j default) (q.l j) (q.u j)) (λk=>p.c.l.length-k) λhM=>⟨bS hM (chg:=bUa p) (bls:=λ_=>prB p) (fls:=λ_=>[]) 0 ⟨aC _,λi hi=>absurd hi (aD _)⟩ rfl rfl trivial ⟨rfl,rfl,rfl,rfl⟩ bL aAf rfl,λk ⟨hk,hv⟩=>aA gT mxd ⟨λh3=>aA gT mxd ?_,λh3=>aA gT mxd ?_⟩⟩
 ·replace h3:(k:Int)<(p.c.l.length:Nat):=h3
  have hkn:k<p.c.l.length:=by omega
  refine⟨k,⟨rfl,hkn⟩,[],cDh (p.c.l.getD k default) (h.c k hkn) hB,rfl,rfl,rfl,λ_ _=>⟨λh4=>aA gT mxd ?_,λh4=>aA gT mxd ?_⟩⟩
  ·exact⟨3,⟨λhh=>absurd hh h2',λ_ _=>rfl,λ_ hh=>absurd h4 (hh k hkn),λ_ hh=>absurd h4 (hh k hkn)⟩,aM rfl rfl trivial⟩
  refine⟨(k+1:Nat),wi,bS hM (chg:=bUa p) (bls:=λ_=>prB p) (fls:=λ_=>[]) (k+1) ⟨⟨hkn,λi hi=>?_⟩,show p.c.l.length-(k+1)<p.c.l.length-k by omega⟩ rfl rfl trivial ⟨rfl,rfl,rfl,rfl⟩ bL aAf rfl⟩
  rcases cX (dJ hi) with h5|rfl
  ·exact hv i h5
  exact h4
 replace h3:¬(k:Int)<(p.c.l.length:Nat):=h3
 obtain rfl:k=p.c.l.length:=by omega
 refine aA gT mxd ?_
 show Sd _ _ _ _ _ _
 refine cO (λ_=>true) (bUb p) (λ_=>prB p) (λ_=>[]) (λk=>k<=p.r.l.length/\∀i,i<k->PrM p q i) (λk=>p.r.l.length-k) λhM=>⟨bS hM (chg:=bUb p) (bls:=λ_=>prB p) (fls:=λ_=>[]) 0 ⟨aC _,λi hi=>absurd hi (aD _)⟩ rfl rfl trivial ⟨rfl,rfl,rfl,rfl⟩ bL aAf rfl,λk ⟨hk,hw⟩=>aA gT mxd ⟨λh3=>aA gT mxd ?_,λh3=>aA gT mxd ?_⟩⟩
 ·replace h3:(k:Int)<(p.r.l.length:Nat):=h3
  have hkn:k<p.r.l.length:=by omega
  refine⟨k,⟨rfl,hkn⟩,[],cDj (p.r.l.getD k default).s,rfl,rfl,rfl,λ_ _=>⟨λh4=>?_,λh4=>?_⟩⟩
  ·have hb:¬PrM p q k:=λhh=>h4 hh.1
   exact⟨1,⟨λhh=>absurd hh h2',λ_ ⟨j,hj,hh⟩=>absurd hh (hv j hj),λ_ _ _=>rfl,λ_ _ hh=>absurd (hh k hkn) hb⟩,aM rfl rfl trivial⟩
  refine⟨[],aLe (p.r.l.getD k default).e (p.c.l.length:Nat) ((h.r k hkn).e) hB,rfl,rfl,rfl,λ_ _=>⟨λh5=>aA gT mxd ?_,λh5=>aA gT mxd ?_⟩⟩
  ·have hb:¬PrM p q k:=λhh=>h5 hh.2
   exact⟨1,⟨λhh=>absurd hh h2',λ_ ⟨j,hj,hh⟩=>absurd hh (hv j hj),λ_ _ _=>rfl,λ_ _ hh=>absurd (hh k hkn) hb⟩,aM rfl rfl trivial⟩
  refine⟨(k+1:Nat),wi,bS hM (chg:=bUb p) (bls:=λ_=>prB p) (fls:=λ_=>[]) (k+1) ⟨⟨hkn,λi hi=>?_⟩,show p.r.l.length-(k+1)<p.r.l.length-k by omega⟩ rfl rfl trivial ⟨rfl,rfl,rfl,rfl⟩ bL aAf rfl⟩
  rcases cX (dJ hi) with h6|rfl
  ·exact hw i h6
  exact⟨dZ.1 h4,dZ.1 h5⟩
 replace h3:¬(k:Int)<(p.r.l.length:Nat):=h3
 obtain rfl:k=p.r.l.length:=by omega
 exact aA gT mxd ⟨0,⟨λhh=>absurd hh h2',λ_ ⟨j,hj,hh⟩=>absurd hh (hv j hj),λ_ _ ⟨i,hi,hh⟩=>absurd (hw i hi) hh,λ_ _ _=>rfl⟩,aM rfl rfl trivial⟩
abbrev lQ (qs:List Rat) (j:Nat):Rat:=qs.getD j 0
theorem aPk {x:Nat->Rat} {B Bx:Nat}:∀{es:List En},rbE es B->(∀e∈es,rb (x e.1.toNat) Bx)->rb (dtl es x) (1+es.length*(B+Bx+1))
 |[],_,_=>by
  show rb 0 _
  exact cCa.le oM
 |e::es,hb,hx=>by
  have h1:=aPk (es:=es) (λe' he'=>hb e' (.tail _ he')) λe' he'=>hx e' (.tail _ he')
  have h2:=uL (fI (hb e (.head _)) (hx e (.head _))) h1
  show rb (e.2*x e.1.toNat+dtl es x) _
  exact h2.le (by rw[dK,dG];omega)
abbrev acB (r:RowM) (s:RatM):BL:=[(67,0,r.C),(62,0,vG),(62,0,s.C)]
theorem aPl {r:RowM} {s:RatM}:scB 3 (acB r s):=aB rfl (aB rfl (aB rfl aY))
abbrev acG (r:RowM) (x:Sl RatM) (i:Nat):List (Nat×DV):=[(12,.c (iC i)),(10,.c (cF r.e)),(11,.c (iC (r.e.l.length:Nat))),(5,.c (.p 2 0)),(4,.c (.p 1 0)),(1,.c (fY x))]
structure RwX (r:RowM) (x:Sl RatM) (b:Rat) (es:List En) (qs:List Rat) (B Bx:Nat):Prop where
 r:RowR r b es B
 x:Rl x.l qs
 q:rbL qs Bx
 v:VOk es (qs.length:Nat)
 e:rbE es B
 h:1+(es.length+1)*(B+Bx+1)<=4398046511104
theorem RwX.at {r:RowM} {x:Sl RatM} {b:Rat} {es:List En} {qs:List Rat} {B Bx i:Nat} (h:RwX r x b es qs B Bx) (hi:i<es.length):∃j:Nat,(r.e.l.getD i default).ix=(j:Nat)/\j<qs.length/\Rq (r.e.l.getD i default).v (es.getD i default).2 B/\Cr (x.l.getD j default) (lQ qs j)/\rb (lQ qs j) Bx/\rb (es.getD i default).2 B/\(es.getD i default).1.toNat=j:=by
 have h1:=h.r.e.e i hi
 have h2:=h.v.2 _ (fX hi)
 refine⟨(es.getD i default).1.toNat,by rw[h1.1];omega,by omega,h1.2,h.x.e _ oM,h.q _ (gD0 oM),h.e _ (fX hi),rfl⟩
theorem RwX.sum {r:RowM} {x:Sl RatM} {b:Rat} {es:List En} {qs:List Rat} {B Bx i:Nat} (h:RwX r x b es qs B Bx) (hi:i<=es.length):rb (dtl (es.take i) (lQ qs)) (1+i*(B+Bx+1)):=by
 have:=aPk (es:=es.take i) (x:=lQ qs) (B:=B) (Bx:=Bx) (λe he=>h.e e (dA he)) λe he=>h.q _ (gD0 (by have:=h.v.2 e (dA he);omega))
 rwa [bA,eO hi] at this
theorem aLp {es:List En} {i:Nat} {x:Nat->Rat} (hi:i<es.length):dtl (es.take (i+1)) x=dtl (es.take i) x+(es.getD i default).2*x (es.getD i default).1.toNat:=by
 rw[dU,aE hi]
 show dtl (es.take i++[es[i]]) x=_
 rw[tR,gd hi]
abbrev bUd:FuncId:=230
theorem cJo:Ent Tryz.prog bUd:=aW func230 rfl kR
theorem cJp:Tryz.prog.funcs[bUd]? =some Tryz.f230:=func230
theorem cDm (r:RowM) (x:Sl RatM) {b:Rat} {es:List En} {qs:List Rat} {B Bx:Nat} (h:RwX r x b es qs B Bx):Ctr Tryz.prog bUd [] [.a r.C,.c (fY x)] [] (vF (dtl es (lQ qs))):=by
 have hl:=h.r.e.ln
 have hx:=h.x.ln
 have hh:=h.h
 have hBB:B+Bx+1<=4398046511104:=by rw[dG] at hh;omega
 have hnl:es.length<=4398046511104:=by
  have:=eT (es.length+1) (show 0<B+Bx+1 by omega)
  omega
 refine aX gT cJo cJp rfl rfl rfl bL aS (aA gT mxd ⟨[],sD (z:=0) dC,rfl,rfl,rfl,λz hz=>?_⟩)
 show Sd _ _ _ _ _ _
 refine cO (λ_=>true) (λg:Nat×RatM=>acG r x g.1) (λg=>acB r g.2) (λ_=>[]) (λg=>g.1<=es.length/\Cr g.2 (dtl (es.take g.1) (lQ qs))) (λg=>es.length-g.1) λhM=>⟨bS hM (chg:=λg:Nat×RatM=>acG r x g.1) (bls:=λg=>acB r g.2) (fls:=λ_=>[]) (0,z) ⟨aC _,hz⟩ rfl ⟨rfl,rfl,rfl⟩ trivial ⟨rfl,rfl,rfl,rfl,rfl,rfl⟩ bL aPl rfl,λ⟨i,s⟩ ⟨hi,hs⟩=>aA gT mxd ⟨λh3=>aA gT mxd ?_,λh3=>aA gT mxd ?_⟩⟩
 all_goals
  replace hi:i<=es.length:=hi
  replace hs:Cr s (dtl (es.take i) (lQ qs)):=hs
 ·replace h3:(i:Int)<(r.e.l.length:Nat):=h3
  have hil:i<es.length:=by omega
  obtain⟨j,e1,e2,e3,e4,e5,e6,e7⟩:=h.at hil
  have hsb:=h.sum hi
  have hle:i*(B+Bx+1)<=(es.length+1)*(B+Bx+1):=aQ _ oM
  have hdn:=aLp (x:=lQ qs) hil
  rw[e7] at hdn
  refine⟨i,⟨rfl,show i<r.e.l.length by omega⟩,j,⟨e1,by show j<x.l.length;omega⟩,[],jF (x.l.getD j default) (e4.rq (e5.le oM)),rfl,rfl,rfl,λ_ _=>⟨λh4=>aA gT mxd ?_,λh4=>aA gT mxd ?_⟩⟩
  ·refine⟨.seq [(0,false),(1,false),(2,false),(3,false),(4,false),(5,false),(6,false),(7,false),(8,false),(9,true),(10,true)],by kernel_rfl,j,⟨e1,by show j<x.l.length;omega⟩,[],pQ (r.e.l.getD i default).v (x.l.getD j default) (e3.le oM) (e4.rq (e5.le oM)),rfl,rfl,rfl,λm hm=>⟨[],wA s m (hs.rq (hsb.le oM)) (Cr.rq hm ((fI e6 e5).le oM)),rfl,rfl,rfl,λg hg=>?_⟩⟩
   exact⟨(i+1:Nat),wi,bS hM (chg:=λg:Nat×RatM=>acG r x g.1) (bls:=λg=>acB r g.2) (fls:=λ_=>[]) (i+1,g) ⟨⟨hil,by rw[hdn];exact hg⟩,show es.length-(i+1)<es.length-i by omega⟩ rfl ⟨rfl,rfl,rfl⟩ trivial ⟨rfl,rfl,rfl,rfl,rfl,rfl⟩ bL aPl rfl⟩
  replace h4:¬sgn (lQ qs j).num≠0:=h4
  have h0:lQ qs j=0:=dW.1 (gW.1 (dZ.1 h4))
  rw[h0,bZ,bM] at hdn
  exact⟨(i+1:Nat),wi,bS hM (chg:=λg:Nat×RatM=>acG r x g.1) (bls:=λg=>acB r g.2) (fls:=λ_=>[]) (i+1,s) ⟨⟨hil,by rw[hdn];exact hs⟩,show es.length-(i+1)<es.length-i by omega⟩ rfl ⟨rfl,rfl,rfl⟩ trivial ⟨rfl,rfl,rfl,rfl,rfl,rfl⟩ bL aPl rfl⟩
 replace h3:¬(i:Int)<(r.e.l.length:Nat):=h3
 obtain rfl:i=es.length:=by omega
 rw[cZ] at hs
 exact aA gT mxd ⟨s,hs,aM rfl rfl trivial⟩
def bUe (c:ColM) (l u v:Rat):Prop:=(c.pl/\v<l)\/(c.pu/\u<v)
theorem aAg {a b:Rat}:cmQ a b<0↔a<b:=by
 unfold cmQ
 split
 ·next h=>exact⟨λ_=>h,λ_=>by omega⟩
 next h1=>
 split
 ·next h=>exact⟨λh2=>by omega,λh2=>absurd h2 h1⟩
 next h=>exact⟨λh2=>by omega,λh2=>absurd h2 h1⟩
abbrev bDe:FuncId:=203
theorem cDn:Ent Tryz.prog bDe:=aW func203 rfl kR
theorem cDo:Tryz.prog.funcs[bDe]? =some Tryz.f203:=func203
theorem bUf (c:ColM) (v:RatM) {k l u q:Rat} {B:Nat} (h:ColR c k l u B) (hB:B<=4398046511104) (hv:Rq v q 4398046511104):Ctr Tryz.prog bDe [] [.a c.C,.a v.C] [] (λ_:Unit=>⟨pC (bUe c l u q),[],True⟩):=by
 refine aX gT cDn cDo rfl rfl rfl bL aS (aA gT mxd ⟨λh1=>⟨[],sH v c.l hv (h.l.le),rfl,rfl,rfl,λ_ _=>⟨λh2=>?_,λh2=>⟨λh3=>⟨[],sH v c.u hv (h.u.le),rfl,rfl,rfl,λ_ _=>?_⟩,λh3=>?_⟩⟩⟩,λh1=>⟨λh3=>⟨[],sH v c.u hv (h.u.le),rfl,rfl,rfl,λ_ _=>?_⟩,λh3=>?_⟩⟩)
 ·exact⟨(),trivial,aM (tt (.inl ⟨h1,aAg.1 h2⟩)) rfl trivial⟩
 ·exact⟨(),trivial,aM ⟨λhh=> .inr ⟨h3,uN.1 hh⟩,λhh=>hh.elim (λhh=>absurd (aAg.2 hh.2) h2) λhh=>uN.2 hh.2⟩ rfl trivial⟩
 ·exact⟨(),trivial,aM (ff λhh=>hh.elim (λhh=>h2 (aAg.2 hh.2)) λhh=>h3 hh.1) rfl trivial⟩
 ·exact⟨(),trivial,aM ⟨λhh=> .inr ⟨h3,uN.1 hh⟩,λhh=>hh.elim (λhh=>absurd hh.1 h1) λhh=>uN.2 hh.2⟩ rfl trivial⟩
 exact⟨(),trivial,aM (ff λhh=>hh.elim (λhh=>h1 hh.1) λhh=>h3 hh.1) rfl trivial⟩
def Brk (s:Int) (a b:Rat):Prop:=(b<a/\s≠1)\/(a<b/\s≠-1)
abbrev bDf:FuncId:=204
theorem cDp:Ent Tryz.prog bDf:=aW func204 rfl kR
theorem cDq:Tryz.prog.funcs[bDf]? =some Tryz.f204:=func204
theorem bUg (r:RowM) (x:Sl RatM) {b:Rat} {es:List En} {qs:List Rat} {B Bx:Nat} (h:RwX r x b es qs B Bx) (hB:B<=4398046511104):Ctr Tryz.prog bDf [] [.a r.C,.c (fY x)] [] (λ_:Unit=>⟨pC (Brk r.s (dtl es (lQ qs)) b),[],True⟩):=by
 have hs:=h.sum (aJ es.length)
 rw[cZ] at hs
 have hh:=h.h
 have hle:es.length*(B+Bx+1)<=(es.length+1)*(B+Bx+1):=aQ _ oM
 refine aX gT cDp cDq rfl rfl rfl bL aS (aA gT mxd ⟨.seq [(0,false),(1,false),(3,false),(4,false),(2,false),(5,true),(6,false)],by kernel_rfl,[],cDm r x h,rfl,rfl,rfl,λg hg=>⟨[],sH g r.b (Cr.rq hg (hs.le oM)) (h.r.b.le),rfl,rfl,rfl,λ_ _=>?_⟩⟩)
 exact⟨(),trivial,aM ⟨λhh=>hh.elim (λhh=> .inl ⟨uN.1 hh.1,hh.2⟩) λhh=> .inr ⟨aAg.1 hh.1,hh.2⟩,λhh=>hh.elim (λhh=> .inl ⟨uN.2 hh.1,hh.2⟩) λhh=> .inr ⟨aAg.2 hh.1,hh.2⟩⟩ rfl trivial⟩
structure PrV (p:ProgM) (q:PrQ) (B:Nat):Prop where
 rd:PrR p q B
 h1:1<=B
 hB:B<=4398046511104
 c:p.c.l.length<=4096
 r:p.r.l.length<=4096
 x:∀j,j<p.c.l.length->¬Crs (p.c.l.getD j default) (q.l j) (q.u j)
 v:∀i,i<p.r.l.length->PrM p q i
 e:∀i,i<p.r.l.length->rbE (q.M i) B
theorem PrV.ok {p:ProgM} {q:PrQ} {B:Nat} {e:Int} (h:PrV p q B) (he:PrE p q e):e=0:=he.ok (by have:=h.c;have:=h.r;omega) h.x h.v
theorem PrV.len {p:ProgM} {q:PrQ} {B:Nat} (h:PrV p q B) {i:Nat} (hi:i<p.r.l.length):(q.M i).length<=p.c.l.length:=jY (h.v i hi).2
theorem aIq (p:ProgM) {q:PrQ} {B:Nat} (h:PrV p q B):Ctr Tryz.prog aSo [] [.a p.C] [] (λ_:Unit=>⟨.c (iC 0),[],True⟩):=(bUc p h.rd h.hB (by have:=h.c;omega) (by have:=h.r;omega)).re λe he=>⟨(),trivial,by rw[h.ok he],rfl,rfl⟩
abbrev bDg:FuncId:=155
theorem cDr:Ent Tryz.prog bDg:=aW func155 rfl kR
theorem cDs:Tryz.prog.funcs[bDg]? =some Tryz.f155:=func155
theorem aIr (p:ProgM) (x:Sl RatM) {q:PrQ} {B:Nat} (h:PrV p q B) (n:Int) (hn:((x.l.length:Nat):Int)=n):Ctr Tryz.prog bDg [] [.a p.C,.c (fY x),.c (iC n)] [] (λ_:Unit=>⟨.c (iC 0),[],True⟩):=by
 refine aX gT cDr cDs rfl rfl rfl bL aS (aA gT mxd ⟨[],aIq p h,rfl,rfl,rfl,λ_ _=>⟨λhh=>absurd rfl hh,λ_=>aA gT mxd ⟨λhh=>absurd hn hh,λ_=>aA gT mxd ⟨(),trivial,aM rfl rfl trivial⟩⟩⟩⟩)
def fJ (P:Nat->Prop) [DecidablePred P]:Nat->List Int
 |0=>[]
 |k+1=>if P k then fJ P k++[(k:Int)] else fJ P k
theorem qZ {P:Nat->Prop} [DecidablePred P]:∀k,(fJ P k).length<=k
 |0=>aJ _
 |k+1=>by
  have:=qZ (P:=P) k
  unfold fJ
  split
  ·rw[aH];show _+1<=_;omega
  omega
theorem aDv {P:Nat->Prop} [DecidablePred P]:∀{k},fJ P k=[]↔∀i,i<k->¬P i
 |0=>⟨λ_ i hi=>absurd hi (aD _),λ_=>rfl⟩
 |k+1=>by
  have ih:=aDv (P:=P) (k:=k)
  unfold fJ
  split
  ·next h=>exact⟨λhh=>by simp at hh,λhh=>absurd h (hh k (bE k))⟩
  next h=>exact ih.trans ⟨λhh i hi=>(cX (dJ hi)).elim (hh i) λe=>e▸h,λhh i hi=>hh i (eA hi)⟩
theorem wH {P:Nat->Prop} [DecidablePred P] {k:Nat} (h:P k):fJ P (k+1)=fJ P k++[(k:Int)]:=if_pos h
theorem sJ {P:Nat->Prop} [DecidablePred P] {k:Nat} (h:¬P k):fJ P (k+1)=fJ P k:=if_neg h
theorem aFk {P:Nat->Prop} [DecidablePred P] {k:Nat} (h:P k):(fJ P k).length+1=(fJ P (k+1)).length:=by rw[wH h,aH];rfl
theorem aLq {P:Nat->Prop} [DecidablePred P] {k:Nat} (h:P k):(fJ P k).map iC++[iC (k:Nat)]=(fJ P (k+1)).map iC:=by rw[wH h,cH];rfl
abbrev vCo (p:ProgM) (q:PrQ) (qs:List Rat) (j:Nat):Prop:=bUe (p.c.l.getD j default) (q.l j) (q.u j) (lQ qs j)
abbrev vRo (p:ProgM) (q:PrQ) (qs:List Rat) (i:Nat):Prop:=Brk (p.r.l.getD i default).s (dtl (q.M i) (lQ qs)) (q.b i)
structure PrX (p:ProgM) (q:PrQ) (x:Sl RatM) (qs:List Rat) (B Bx:Nat):Prop where
 v:PrV p q B
 x:Rl x.l qs
 l:qs.length=p.c.l.length
 q:rbL qs Bx
 b:(p.c.l.length+1)*(B+Bx+1)<4398046511104
theorem PrX.row {p:ProgM} {q:PrQ} {x:Sl RatM} {qs:List Rat} {B Bx i:Nat} (h:PrX p q x qs B Bx) (hi:i<p.r.l.length):RwX (p.r.l.getD i default) x (q.b i) (q.M i) qs B Bx:=⟨h.v.rd.r i hi,h.x,h.q,by rw[h.l];exact(h.v.v i hi).2,h.v.e i hi,by
 have h1:=h.v.len hi
 have h2:((q.M i).length+1)*(B+Bx+1)<=(p.c.l.length+1)*(B+Bx+1):=aQ _ oM
 have:=h.b
 omega⟩
theorem PrX.le {p:ProgM} {q:PrQ} {x:Sl RatM} {qs:List Rat} {B Bx:Nat} (h:PrX p q x qs B Bx):Bx<=4398046511104:=by
 have:=h.b
 rw[dG] at this
 omega
open Classical in
noncomputable abbrev vG1 (p:ProgM) (q:PrQ) (x:Sl RatM) (qs:List Rat) (k:Nat):List (Nat×DV):=[(24,.c (iC k)),(4,.c (.s 1 (fJ (vCo p q qs) k).length)),(5,.c (.v (.slice none 0 0))),(2,.c (.p 0 0)),(1,.c (fY x)),(22,.c (wG p.c)),(23,.c (iC (p.c.l.length:Nat)))]
open Classical in
noncomputable abbrev vB1 (p:ProgM) (q:PrQ) (qs:List Rat) (k:Nat):BL:=[(42,0,p.C),(3,1,(fJ (vCo p q qs) k).map iC)]
theorem aPm {p:ProgM} {q:PrQ} {qs:List Rat} {k:Nat}:scB 2 (vB1 p q qs k):=aB rfl (aB (bT (cJ _)) aY)
theorem zI {L:List Int} {i:Nat} {c:CV} (h:c∈L.map iC):mJ i c=false:=fC (cJ L c h)
open Classical in
noncomputable abbrev vG2 (p:ProgM) (q:PrQ) (x:Sl RatM) (qs:List Rat) (k:Nat):List (Nat×DV):=[(43,.c (iC k)),(5,.c (.s 2 (fJ (vRo p q qs) k).length)),(4,.c (.s 1 (fJ (vCo p q qs) p.c.l.length).length)),(1,.c (fY x)),(41,.c (aEn p.r)),(42,.c (iC (p.r.l.length:Nat)))]
open Classical in
noncomputable abbrev vB2 (p:ProgM) (q:PrQ) (qs:List Rat) (k:Nat):BL:=[(42,0,p.C),(3,1,(fJ (vCo p q qs) p.c.l.length).map iC),(3,1,(fJ (vRo p q qs) k).map iC)]
theorem aPn {p:ProgM} {q:PrQ} {qs:List Rat} {k:Nat}:scB 3 (vB2 p q qs k):=aB rfl (aB (bT (cJ _)) (aB (bT (cJ _)) aY))
abbrev bUh:FuncId:=154
theorem cJq:Ent Tryz.prog bUh:=aW func154 rfl kR
theorem cJr:Tryz.prog.funcs[bUh]? =some Tryz.f154:=func154
open Classical in
theorem bUi (p:ProgM) (x:Sl RatM) {q:PrQ} {qs:List Rat} {B Bx:Nat} (h:PrX p q x qs B Bx):Ctr Tryz.prog bUh [] [.a p.C,.c (fY x)] [] (λg:Sl Int×Sl Int=>⟨.t [.c (cM g.1),.c (cM g.2),.c (iC 0)],[],g.1.l=fJ (vCo p q qs) p.c.l.length/\g.2.l=fJ (vRo p q qs) p.r.l.length⟩):=by
 have hxl:x.l.length=p.c.l.length:=h.x.ln.trans h.l
 have hc:=h.v.c
 have hr:=h.v.r
 refine aX gT cJq cJr rfl rfl rfl bL aS (aA gT mxd ⟨[],aIr p x h.v _ (congrArg Int.ofNat hxl),rfl,rfl,rfl,λ_ _=>⟨λhh=>absurd rfl hh,λ_=>aA gT mxd ?_⟩⟩)
 show Sd _ _ _ _ _ _
 refine aZc tSd 4 3 1 rfl bL rfl ?_
 refine cO (λ_=>true) (vG1 p q x qs) (vB1 p q qs) (λ_=>[]) (λk=>k<=p.c.l.length) (λk=>p.c.l.length-k) λhM=>⟨bS hM (chg:=vG1 p q x qs) (bls:=vB1 p q qs) (fls:=λ_=>[]) 0 (aC _) rfl ⟨rfl,rfl⟩ trivial ⟨rfl,rfl,rfl,rfl,rfl,rfl,rfl⟩ bL aPm rfl,λk hk=>aA gT mxd ⟨λh3=>aA gT mxd ?_,λh3=>aA gT mxd ?_⟩⟩
 ·replace hk:k<=p.c.l.length:=hk
  replace h3:(k:Int)<(p.c.l.length:Nat):=h3
  have hkn:k<p.c.l.length:=by omega
  have hkx:k<x.l.length:=by omega
  have hsl:=qZ (P:=vCo p q qs) k
  refine⟨k,⟨rfl,hkn⟩,.seq (sq 5 (List.range 6)),by kernel_rfl,k,⟨rfl,hkx⟩,[],bUf (p.c.l.getD k default) (x.l.getD k default) (h.v.rd.c k hkn) h.v.hB ((h.x.rq h.q (k:=k) (by rw[h.l];exact hkn)).le h.le),rfl,rfl,rfl,λ_ _=>⟨λh4=>aA gT mxd ?_,λh4=>aA gT mxd ?_⟩⟩
  ·exact⟨⟨rfl,by show(fJ (vCo p q qs) k).length*1=((fJ (vCo p q qs) k).map iC).length;rw[aU,bU],by show _+1<=maxLen;simp only[maxLen];omega,by show(_+1)*8<=_;omega,λc hc=>(aV.1 hc).elim zI λhc=>by rw[aI.1 hc];rfl⟩,(λc hc=>by rw[aI.1 hc];rfl),(k+1:Nat),wi,bS hM (chg:=vG1 p q x qs) (bls:=vB1 p q qs) (fls:=λ_=>[]) (k+1) ⟨hkn,show p.c.l.length-(k+1)<p.c.l.length-k by omega⟩ rfl ⟨rfl,congrArg (λl:List CV=>((3,1,l):TypeId×Nat×List CV)) (aLq h4)⟩ trivial ⟨rfl,aFk h4,rfl,rfl,rfl,rfl,rfl⟩ bL aPm rfl⟩
  exact⟨(k+1:Nat),wi,bS hM (chg:=vG1 p q x qs) (bls:=vB1 p q qs) (fls:=λ_=>[]) (k+1) ⟨hkn,show p.c.l.length-(k+1)<p.c.l.length-k by omega⟩ rfl ⟨rfl,congrArg (λl:List Int=>((3,1,l.map iC):TypeId×Nat×List CV)) (sJ h4).symm⟩ trivial ⟨rfl,congrArg List.length (sJ h4).symm,rfl,rfl,rfl,rfl,rfl⟩ bL aPm rfl⟩
 replace hk:k<=p.c.l.length:=hk
 replace h3:¬(k:Int)<(p.c.l.length:Nat):=h3
 obtain rfl:k=p.c.l.length:=by omega
 refine aA gT mxd ?_
 show Sd _ _ _ _ _ _
 refine aZc tSd 5 3 1 rfl bL rfl ?_
 refine cO (λ_=>true) (vG2 p q x qs) (vB2 p q qs) (λ_=>[]) (λk=>k<=p.r.l.length) (λk=>p.r.l.length-k) λhM=>⟨bS hM (chg:=vG2 p q x qs) (bls:=vB2 p q qs) (fls:=λ_=>[]) 0 (aC _) rfl ⟨rfl,rfl,rfl⟩ trivial ⟨rfl,rfl,rfl,rfl,rfl,rfl⟩ bL aPn rfl,λk hk=>aA gT mxd ⟨λh3=>aA gT mxd ?_,λh3=>aA gT mxd ?_⟩⟩
 ·replace hk:k<=p.r.l.length:=hk
  replace h3:(k:Int)<(p.r.l.length:Nat):=h3
  have hkn:k<p.r.l.length:=by omega
  have hsl:=qZ (P:=vRo p q qs) k
  refine⟨k,⟨rfl,hkn⟩,[],bUg (p.r.l.getD k default) x (h.row hkn) h.v.hB,rfl,rfl,rfl,λ_ _=>⟨λh4=>aA gT mxd ?_,λh4=>aA gT mxd ?_⟩⟩
  ·exact⟨⟨rfl,by show(fJ (vRo p q qs) k).length*1=((fJ (vRo p q qs) k).map iC).length;rw[aU,bU],by show _+1<=maxLen;simp only[maxLen];omega,by show(_+1)*8<=_;omega,λc hc=>(aV.1 hc).elim zI λhc=>by rw[aI.1 hc];rfl⟩,(λc hc=>zI hc),(λc hc=>by rw[aI.1 hc];rfl),(k+1:Nat),wi,bS hM (chg:=vG2 p q x qs) (bls:=vB2 p q qs) (fls:=λ_=>[]) (k+1) ⟨hkn,show p.r.l.length-(k+1)<p.r.l.length-k by omega⟩ rfl ⟨rfl,rfl,congrArg (λl:List CV=>((3,1,l):TypeId×Nat×List CV)) (aLq h4)⟩ trivial ⟨rfl,aFk h4,rfl,rfl,rfl,rfl⟩ bL aPn rfl⟩
  exact⟨(k+1:Nat),wi,bS hM (chg:=vG2 p q x qs) (bls:=vB2 p q qs) (fls:=λ_=>[]) (k+1) ⟨hkn,show p.r.l.length-(k+1)<p.r.l.length-k by omega⟩ rfl ⟨rfl,rfl,congrArg (λl:List Int=>((3,1,l.map iC):TypeId×Nat×List CV)) (sJ h4).symm⟩ trivial ⟨rfl,congrArg List.length (sJ h4).symm,rfl,rfl,rfl,rfl⟩ bL aPn rfl⟩
 replace hk:k<=p.r.l.length:=hk
 replace h3:¬(k:Int)<(p.r.l.length:Nat):=h3
 obtain rfl:k=p.r.l.length:=by omega
 show Sd _ _ _ _ _ _
 refine yR 4 1 (λj=>[iC ((fJ (vCo p q qs) p.c.l.length).getD j 0)]) rfl rfl (λj hj=>qT j hj) (by rw[aU,bU]) bL (cJ _) bL λA2 c2 _ _=>⟨λc hc=>zI hc,?_⟩
 show Sd _ _ _ _ _ _
 refine yR 5 2 (λj=>[iC ((fJ (vRo p q qs) p.r.l.length).getD j 0)]) rfl rfl (λj hj=>qT j hj) (by rw[aU,bU]) bL (cJ _) bL λA3 c3 _ _=>⟨(λc hc=>by cases hc),aA gT mxd ?_⟩
 exact⟨(⟨A2,c2,fJ (vCo p q qs) p.c.l.length⟩,⟨A3,c3,fJ (vRo p q qs) p.r.l.length⟩),⟨rfl,rfl⟩,aM ⟨rfl,rfl,rfl⟩ rfl trivial⟩
abbrev bUj:FuncId:=93
theorem cJs:Ent Tryz.prog bUj:=aW func93 rfl kR
theorem cJt:Tryz.prog.funcs[bUj]? =some Tryz.f93:=func93
def Fsb (p:ProgM) (q:PrQ) (qs:List Rat):Prop:=(∀j,j<p.c.l.length->¬vCo p q qs j)/\∀i,i<p.r.l.length->¬vRo p q qs i
open Classical in
theorem bMl (p:ProgM) (x:Sl RatM) {q:PrQ} {qs:List Rat} {B Bx:Nat} (h:PrX p q x qs B Bx):Ctr Tryz.prog bUj [] [.a p.C,.c (fY x)] [] (λ_:Unit=>⟨pC (Fsb p q qs),[],True⟩):=by
 refine aX gT cJs cJt rfl rfl rfl bL aS (aA gT mxd ⟨[],bUi p x h,rfl,rfl,rfl,λ⟨g1,g2⟩ ⟨hg1,hg2⟩=>⟨(),trivial,aM ?_ rfl trivial⟩⟩)
 replace hg1:g1.l=fJ (vCo p q qs) p.c.l.length:=hg1
 replace hg2:g2.l=fJ (vRo p q qs) p.r.l.length:=hg2
 show((0:Int)=0/\((g1.l.length:Nat):Int)=0)/\((g2.l.length:Nat):Int)=0↔Fsb p q qs
 rw[hg1,hg2]
 unfold Fsb
 rw[<-aDv,<-aDv,<-kQ,<-kQ]
 omega
open Classical in
open Classical in
open Classical in
open Classical in
structure PrY (p:ProgM) (q:PrQ) (y:Sl RatM) (ps:List Rat) (B By:Nat):Prop where
 v:PrV p q B
 y:Rl y.l ps
 l:ps.length=p.r.l.length
 q:rbL ps By
 hB:By<=4398046511104
def Sgb (s:Int) (v:Rat):Prop:=(s=-1/\0<sgn v.num)\/(s=1/\sgn v.num<0)
def Sgd (p:ProgM) (ps:List Rat):Prop:=∀i,i<p.r.l.length->¬Sgb (p.r.l.getD i default).s (lQ ps i)
abbrev bUk (p:ProgM) (y:Sl RatM) (k:Nat):List (Nat×DV):=[(18,.c (iC k)),(1,.c (fY y)),(16,.c (aEn p.r)),(17,.c (iC (p.r.l.length:Nat)))]
abbrev bUl:FuncId:=94
theorem cJu:Ent Tryz.prog bUl:=aW func94 rfl kR
theorem cJv:Tryz.prog.funcs[bUl]? =some Tryz.f94:=func94
theorem bMm (p:ProgM) (y:Sl RatM) {q:PrQ} {ps:List Rat} {B By:Nat} (h:PrY p q y ps B By):Ctr Tryz.prog bUl [] [.a p.C,.c (fY y)] [] (λ_:Unit=>⟨pC (Sgd p ps),[],True⟩):=by
 have hyl:y.l.length=p.r.l.length:=h.y.ln.trans h.l
 have hr:=h.v.r
 have hBy:=h.hB
 refine aX gT cJu cJv rfl rfl rfl bL aS (aA gT mxd ⟨[],aIr p y h.v _ (congrArg Int.ofNat hyl),rfl,rfl,rfl,λ_ _=>⟨λhh=>absurd rfl hh,λ_=>aA gT mxd ?_⟩⟩)
 show Sd _ _ _ _ _ _
 refine cO (λ_=>true) (bUk p y) (λ_=>prB p) (λ_=>[]) (λk=>k<=p.r.l.length/\∀i,i<k->¬Sgb (p.r.l.getD i default).s (lQ ps i)) (λk=>p.r.l.length-k) λhM=>⟨bS hM (chg:=bUk p y) (bls:=λ_=>prB p) (fls:=λ_=>[]) 0 ⟨aC _,λi hi=>absurd hi (aD _)⟩ rfl rfl trivial ⟨rfl,rfl,rfl,rfl⟩ bL aAf rfl,λk ⟨hk,hv⟩=>aA gT mxd ⟨λh3=>aA gT mxd ?_,λh3=>aA gT mxd ?_⟩⟩
 ·replace h3:(k:Int)<(p.r.l.length:Nat):=h3
  have hkn:k<p.r.l.length:=by omega
  have hky:k<y.l.length:=by omega
  refine⟨k,⟨rfl,hkn⟩,k,⟨rfl,hky⟩,[],jF (y.l.getD k default) ((h.y.rq h.q (k:=k) (by rw[h.l];exact hkn)).le),rfl,rfl,rfl,λ_ _=>⟨λh4=>aA gT mxd ?_,λh4=>aA gT mxd ?_⟩⟩
  ·exact⟨(),trivial,aM (ff λhh=>hh k hkn h4) rfl trivial⟩
  refine⟨(k+1:Nat),wi,bS hM (chg:=bUk p y) (bls:=λ_=>prB p) (fls:=λ_=>[]) (k+1) ⟨⟨hkn,λi hi=>?_⟩,show p.r.l.length-(k+1)<p.r.l.length-k by omega⟩ rfl rfl trivial ⟨rfl,rfl,rfl,rfl⟩ bL aAf rfl⟩
  rcases cX (dJ hi) with h5|rfl
  ·exact hv i h5
  exact h4
 replace h3:¬(k:Int)<(p.r.l.length:Nat):=h3
 exact aA gT mxd ⟨(),trivial,aM (tt λi hi=>hv i oM) rfl trivial⟩
def gN (q:PrQ) (ps:List Rat):Nat->Nat->Rat
 |0,j=>q.k j
 |i+1,j=>gN q ps i j-lQ ps i*Vm.get (q.M i) (j:Nat)
def aBb (q:PrQ) (ps:List Rat) (i t j:Nat):Rat:=gN q ps i j-lQ ps i*Vm.get ((q.M i).take t) (j:Nat)
theorem aUx {q:PrQ} {ps:List Rat} {i j:Nat}:aBb q ps i 0 j=gN q ps i j:=by
 unfold aBb
 rw[wS,show Vm.get ([]:List En) (j:Nat)=0 from rfl,bZ];grind
theorem bDh {q:PrQ} {ps:List Rat} {i j:Nat}:aBb q ps i (q.M i).length j=gN q ps (i+1) j:=by
 unfold aBb;rw[cZ];rfl
theorem aUy {q:PrQ} {ps:List Rat} {i t j m:Nat} (ht:t<(q.M i).length) (hm:((q.M i).getD t default).1=(m:Nat)):aBb q ps i (t+1) j=if j=m then aBb q ps i t m-lQ ps i*((q.M i).getD t default).2 else aBb q ps i t j:=by
 unfold aBb
 rw[dU,aE ht]
 show _-_*Vm.get ((q.M i).take t++[(q.M i)[t]]) _=_
 rw[gd ht] at hm ⊢
 rw[Vm.get_append]
 by_cases e:j=m
 ·subst e
  rw[if_pos rfl,<-hm,show Vm.get [(q.M i)[t]] ((q.M i)[t]).1=((q.M i)[t]).2 from Vm.get_head (eW _ _)]
  grind
 rw[if_neg e,show Vm.get [(q.M i)[t]] (j:Nat)=0 from Vm.get_none λe' he'=>by rw[aI.1 he',hm];omega,bM]
structure PrZ (p:ProgM) (q:PrQ) (y:Sl RatM) (ps:List Rat) (B By:Nat):Prop where
 y:PrY p q y ps B By
 k:∀j,j<p.c.l.length->rb (q.k j) B
 b:B+(p.r.l.length+1)*(By+B+1)<=4398046511104
theorem PrZ.rd {p:ProgM} {q:PrQ} {y:Sl RatM} {ps:List Rat} {B By:Nat} (h:PrZ p q y ps B By) {j:Nat} (hj:j<p.c.l.length):∀i,i<=p.r.l.length->rb (gN q ps i j) (B+i*(By+B+1))
 |0,_=>(h.k j hj).le oM
 |i+1,hi=>by
  have h1:=h.rd hj i oM
  have h2:=qW (i:=(j:Nat)) (h.y.v.v i oM).2.1 (h.y.v.e i oM) h.y.v.h1
  exact(qH h1 (fI (h.y.q _ (gD0 (by rw[h.y.l];omega))) h2)).le (by rw[dG];omega)
theorem PrZ.re {p:ProgM} {q:PrQ} {y:Sl RatM} {ps:List Rat} {B By i t j:Nat} (h:PrZ p q y ps B By) (hi:i<p.r.l.length) (hj:j<p.c.l.length):rb (aBb q ps i t j) 4398046511104:=by
 have h1:=h.rd hj i oM
 have hv:=h.y.v.v i hi
 have h2:=qW (es:=(q.M i).take t) (i:=(j:Nat)) (hv.2.1.sublist (jR _ _)) (λe he=>h.y.v.e i hi e (dA he)) h.y.v.h1
 have h3:=h.b
 have h4:i*(By+B+1)<=p.r.l.length*(By+B+1):=aQ _ oM
 exact(qH h1 (fI (h.y.q _ (gD0 (by rw[h.y.l];omega))) h2)).le (by rw[dG] at h3;omega)
abbrev rB (p:ProgM) (Z:Nat->RatM):BL:=[(42,0,p.C),(62,3,rtC p.c.l.length Z)]
theorem aDw {p:ProgM} {Z:Nat->RatM}:scB 2 (rB p Z):=aB rfl (aB (bT eD) aY)
abbrev rG1 (p:ProgM) (y:Sl RatM) (k:Nat):List (Nat×DV):=[(30,.c (iC k)),(7,.c (.s 1 p.c.l.length)),(2,.c (.p 0 0)),(1,.c (fY y)),(28,.c (wG p.c)),(29,.c (iC (p.c.l.length:Nat)))]
abbrev rG2 (p:ProgM) (y:Sl RatM) (k:Nat):List (Nat×DV):=[(45,.c (iC k)),(7,.c (.s 1 p.c.l.length)),(1,.c (fY y)),(43,.c (aEn p.r)),(44,.c (iC (p.r.l.length:Nat)))]
abbrev rG3 (p:ProgM) (y:Sl RatM) (i t:Nat):List (Nat×DV):=(59,.c (iC t))::(10,.c (iC i))::(57,.c (cF (p.r.l.getD i default).e))::(58,.c (iC ((p.r.l.getD i default).e.l.length:Nat)))::rG2 p y i
theorem aIs {A:Option Addr} {c n:Nat} {Z:Nat->RatM}:CV.r A n c 3 (λj=>((qX Z n).getD j default).C)=fY ⟨A,c,qX Z n⟩:=by
 unfold fY Sl.R;rw[zC]
abbrev bUm:FuncId:=95
theorem cJw:Ent Tryz.prog bUm:=aW func95 rfl kR
theorem cJx:Tryz.prog.funcs[bUm]? =some Tryz.f95:=func95
theorem bMn (p:ProgM) (y:Sl RatM) {q:PrQ} {ps:List Rat} {B By:Nat} (h:PrZ p q y ps B By):Ctr Tryz.prog bUm [] [.a p.C,.c (fY y)] [] (λg:Sl RatM=>⟨.t [.c (fY g),.c (iC 0)],[],g.l.length=p.c.l.length/\∀j,j<p.c.l.length->Cr (g.l.getD j default) (gN q ps p.r.l.length j)⟩):=by
 have hyl:y.l.length=p.r.l.length:=h.y.y.ln.trans h.y.l
 have hc:=h.y.v.c
 have hr:=h.y.v.r
 have hBB:=h.y.v.hB
 refine aX gT cJw cJx rfl rfl rfl bL aS (aA gT mxd ⟨[],aIr p y h.y.v _ (congrArg Int.ofNat hyl),rfl,rfl,rfl,λ_ _=>⟨λhh=>absurd rfl hh,λ_=>aA gT mxd ⟨p.c.l.length,⟨rfl,rfl,by show 56*_<=_;omega,by simp only[maxLen];omega⟩,?_⟩⟩⟩)
 show Sd _ _ _ _ _ _
 refine gK tSd 1 (rtC p.c.l.length λ_=>default) rfl lT.1 lT.2 ?_
 refine cO (λ_=>true) (λg:Nat×(Nat->RatM)=>rG1 p y g.1) (λg=>rB p g.2) (λ_=>[]) (λg=>g.1<=p.c.l.length/\∀j,j<g.1->Cr (g.2 j) (q.k j)) (λg=>p.c.l.length-g.1) λhM=>⟨bS hM (chg:=λg:Nat×(Nat->RatM)=>rG1 p y g.1) (bls:=λg=>rB p g.2) (fls:=λ_=>[]) (0,λ_=>default) ⟨aC _,λj hj=>absurd hj (aD _)⟩ rfl ⟨rfl,rfl⟩ trivial ⟨rfl,rfl,rfl,rfl,rfl,rfl⟩ bL aDw rfl,λ⟨k,Z⟩ ⟨hk,hZ⟩=>aA gT mxd ⟨λh3=>aA gT mxd ?_,λh3=>aA gT mxd ?_⟩⟩
 all_goals
  replace hk:k<=p.c.l.length:=hk
  replace hZ:∀j,j<k->Cr (Z j) (q.k j):=hZ
 ·replace h3:(k:Int)<(p.c.l.length:Nat):=h3
  have hkn:k<p.c.l.length:=by omega
  refine⟨k,⟨rfl,hkn⟩,[],nJ (p.c.l.getD k default).k ((h.y.v.rd.c k hkn).k.le),rfl,rfl,rfl,λg hg=>⟨k,⟨rfl,hkn,fD hkn⟩,_,iA hkn,(k+1:Nat),wi,bS hM (chg:=λg:Nat×(Nat->RatM)=>rG1 p y g.1) (bls:=λg=>rB p g.2) (fls:=λ_=>[]) (k+1,upd Z k g) ⟨⟨hkn,λj hj=>?_⟩,show p.c.l.length-(k+1)<p.c.l.length-k by omega⟩ rfl ⟨rfl,rfl⟩ trivial ⟨rfl,rfl,rfl,rfl,rfl,rfl⟩ bL aDw rfl⟩⟩
  show Cr (upd Z k g j) _
  by_cases e:j=k
  ·subst e;rw[bN];exact hg
  rw[bD e];exact hZ j (by have:j<k+1:=hj;omega)
 replace h3:¬(k:Int)<(p.c.l.length:Nat):=h3
 obtain rfl:k=p.c.l.length:=by omega
 refine aA gT mxd ?_
 show Sd _ _ _ _ _ _
 refine cO (λ_=>true) (λg:Nat×(Nat->RatM)=>rG2 p y g.1) (λg=>rB p g.2) (λ_=>[]) (λg=>g.1<=p.r.l.length/\∀j,j<p.c.l.length->Cr (g.2 j) (gN q ps g.1 j)) (λg=>p.r.l.length-g.1) λhM=>⟨bS hM (chg:=λg:Nat×(Nat->RatM)=>rG2 p y g.1) (bls:=λg=>rB p g.2) (fls:=λ_=>[]) (0,Z) ⟨aC _,hZ⟩ rfl ⟨rfl,rfl⟩ trivial ⟨rfl,rfl,rfl,rfl,rfl⟩ bL aDw rfl,λ⟨i,Z⟩ ⟨hi,hZ⟩=>aA gT mxd ⟨λh3=>aA gT mxd ?_,λh3=>aA gT mxd ?_⟩⟩
 all_goals
  replace hi:i<=p.r.l.length:=hi
  replace hZ:∀j,j<p.c.l.length->Cr (Z j) (gN q ps i j):=hZ
 ·replace h3:(i:Int)<(p.r.l.length:Nat):=h3
  have hir:i<p.r.l.length:=by omega
  have hiy:i<y.l.length:=by omega
  have hb:=h.b
  have hYq:=(h.y.y.rq h.y.q (k:=i) (by rw[h.y.l];exact hir)).le h.y.hB
  refine⟨i,⟨rfl,hir⟩,i,⟨rfl,hiy⟩,[],jF (y.l.getD i default) hYq,rfl,rfl,rfl,λ_ _=>⟨λh4=>aA gT mxd ?_,λh4=>aA gT mxd ?_⟩⟩
  ·replace h4:sgn (lQ ps i).num=0:=h4
   have h0:lQ ps i=0:=dW.1 (gW.1 h4)
   refine⟨(i+1:Nat),wi,bS hM (chg:=λg:Nat×(Nat->RatM)=>rG2 p y g.1) (bls:=λg=>rB p g.2) (fls:=λ_=>[]) (i+1,Z) ⟨⟨hir,λj hj=>?_⟩,show p.r.l.length-(i+1)<p.r.l.length-i by omega⟩ rfl ⟨rfl,rfl⟩ trivial ⟨rfl,rfl,rfl,rfl,rfl⟩ bL aDw rfl⟩
   show Cr (Z j) (gN q ps i j-lQ ps i*Vm.get (q.M i) (j:Nat))
   rw[h0,cY,show gN q ps i j-0=gN q ps i j by grind]
   exact hZ j hj
  have hrow:=h.y.v.rd.r i hir
  have hvr:=h.y.v.v i hir
  have hel:=hrow.e.ln
  have hlen:=h.y.v.len hir
  refine aA gT mxd ?_
  show Sd _ _ _ _ _ _
  refine cO (λ_=>true) (λg:Nat×(Nat->RatM)=>rG3 p y i g.1) (λg=>rB p g.2) (λ_=>[]) (λg=>g.1<=(q.M i).length/\∀j,j<p.c.l.length->Cr (g.2 j) (aBb q ps i g.1 j)) (λg=>(q.M i).length-g.1) λhM2=>⟨bS hM2 (chg:=λg:Nat×(Nat->RatM)=>rG3 p y i g.1) (bls:=λg=>rB p g.2) (fls:=λ_=>[]) (0,Z) ⟨aC _,λj hj=>by rw[aUx];exact hZ j hj⟩ rfl ⟨rfl,rfl⟩ trivial ⟨rfl,rfl,rfl,rfl,rfl,rfl,rfl,rfl,rfl⟩ bL aDw rfl,λ⟨t,Z⟩ ⟨ht,hZ⟩=>aA gT mxd ⟨λh5=>aA gT mxd ?_,λh5=>aA gT mxd ?_⟩⟩
  all_goals
   replace ht:t<=(q.M i).length:=ht
   replace hZ:∀j,j<p.c.l.length->Cr (Z j) (aBb q ps i t j):=hZ
  ·replace h5:(t:Int)<((p.r.l.getD i default).e.l.length:Nat):=h5
   have htl:t<(q.M i).length:=by omega
   have hte:t<(p.r.l.getD i default).e.l.length:=by omega
   have he:=hrow.e.e t htl
   have hv:=hvr.2.2 _ (fX htl)
   obtain⟨m,hm⟩:∃m:Nat,((q.M i).getD t default).1=(m:Nat):=⟨((q.M i).getD t default).1.toNat,by omega⟩
   have hmc:m<p.c.l.length:=by omega
   have hix:((p.r.l.getD i default).e.l.getD t default).ix=(m:Nat):=he.1.trans hm
   have hYr:rb (lQ ps i) By:=h.y.q _ (gD0 (by rw[h.y.l];exact hir))
   have hEr:=h.y.v.e i hir _ (fX htl)
   have hnr:(By+B+1)<=(p.r.l.length+1)*(By+B+1):=Nat.le_mul_of_pos_left _ (Nat.succ_pos _)
   refine⟨t,⟨rfl,hte⟩,.seq (sq 17 (List.range 18)),by kernel_rfl,m,⟨hix,hmc,fD hmc⟩,_,kT hmc,i,⟨rfl,hiy⟩,[],pQ (y.l.getD i default) ((p.r.l.getD i default).e.l.getD t default).v hYq (he.2.le),rfl,rfl,rfl,λg hg=>⟨[],aIa (Z m) g ((hZ m hmc).rq (h.re hir hmc)) (Cr.rq hg ((fI hYr hEr).le oM)),rfl,rfl,rfl,λd hd=>⟨m,⟨hix,hmc,fD hmc⟩,_,iA hmc,(t+1:Nat),wi,bS hM2 (chg:=λg:Nat×(Nat->RatM)=>rG3 p y i g.1) (bls:=λg=>rB p g.2) (fls:=λ_=>[]) (t+1,upd Z m d) ⟨⟨htl,λj hj=>?_⟩,show(q.M i).length-(t+1)<(q.M i).length-t by omega⟩ rfl ⟨rfl,rfl⟩ trivial ⟨rfl,rfl,rfl,rfl,rfl,rfl,rfl,rfl,rfl⟩ bL aDw rfl⟩⟩⟩
   show Cr (upd Z m d j) (aBb q ps i (t+1) j)
   rw[aUy htl hm]
   by_cases e:j=m
   ·subst e;rw[bN,if_pos rfl];exact hd
   rw[bD e,if_neg e];exact hZ j hj
  replace h5:¬(t:Int)<((p.r.l.getD i default).e.l.length:Nat):=h5
  obtain rfl:t=(q.M i).length:=by omega
  refine⟨(i+1:Nat),wi,bS hM (chg:=λg:Nat×(Nat->RatM)=>rG2 p y g.1) (bls:=λg=>rB p g.2) (fls:=λ_=>[]) (i+1,Z) ⟨⟨hir,λj hj=>?_⟩,show p.r.l.length-(i+1)<p.r.l.length-i by omega⟩ rfl ⟨rfl,rfl⟩ trivial ⟨rfl,rfl,rfl,rfl,rfl⟩ bL aDw rfl⟩
  show Cr (Z j) (gN q ps (i+1) j)
  rw[<-bDh];exact hZ j hj
 replace h3:¬(i:Int)<(p.r.l.length:Nat):=h3
 obtain rfl:i=p.r.l.length:=by omega
 show Sd _ _ _ _ _ _
 refine yR 7 1 (λj=>((qX Z p.c.l.length).getD j default).C) rfl rfl (λj hj=>aBl j hj) (by rw[oW (P:=λj=>(Z j).C) (e:=3) λ_ _=>rfl]) bL eD bL λA2 c2 _ _=>aA gT mxd ⟨⟨A2,c2,qX Z p.c.l.length⟩,⟨zC,λj hj=>?_⟩,aM ⟨aIs,rfl⟩ rfl trivial⟩
 show Cr ((qX Z p.c.l.length).getD j default) _
 rw[aDl hj];exact hZ j hj
theorem jP {f:Nat->Rat} {q:Rat} {n:Nat}:cA (λj=>q*f j) n=q*cA f n:=by
 have:=jO (f:=λ_=>(0:Rat)) (g:=f) (q:=q) (n:=n)
 rw[fP λ_ _=>rfl,fM] at this
 rw[<-this]
 exact bP λj _=>by grind
theorem rA {f g:Nat->Rat} {n:Nat}:cA (λj=>f j+g j) n=cA f n+cA g n:=by
 have:=jO (f:=f) (g:=g) (q:=1) (n:=n)
 rw[jW] at this
 rw[<-this]
 exact bP λj _=>by grind
theorem qQ {f:Nat->Nat->Rat} {m:Nat}:∀{n:Nat},cA (λi=>cA (f i) m) n=cA (λj=>cA (λi=>f i j) n) m
 |0=>(fP λ_ _=>rfl).symm
 |n+1=>by
  show cA (λi=>cA (f i) m) n+cA (f n) m=cA (λj=>cA (λi=>f i j) n+f n j) m
  rw[qQ,rA]
theorem aAh {f:Nat->Rat} {m:Nat}:∀{n:Nat},m<=n->(∀j,m<=j->j<n->f j=0)->cA f n=cA f m
 |0,h,_=>by rw[Nat.le_zero.1 h]
 |n+1,h,h0=>by
  by_cases e:m=n+1
  ·rw[e]
  show cA f n+f n=_
  rw[aAh oM λj h1 h2=>h0 j h1 oM,h0 n oM (bE n),bM]
theorem aLr {f:Nat->Rat}:∀(n:Nat),cA f n=dtl ((List.range n).map λi:Nat=>((i:Int),(1:Rat))) f
 |0=>rfl
 |n+1=>by
  rw[lN,cH,aBq,<-aLr n]
  show _+_=_+((1:Rat)*f (Int.toNat (n:Nat))+0)
  rw[cD,jW,bM]
theorem aUz {f:Nat->Rat} {n:Nat} {r:Nat->Nat} (h:∀j,j<n->r j<n) (hi:∀i j,i<n->j<n->r i=r j->i=j):cA (λk=>f (r k)) n=cA f n:=by
 have h1:dtl ((List.range n).map λk:Nat=>(((r k:Nat):Int),(1:Rat))) f=cA (λk=>f (r k)) n:=by
  clear h hi
  induction n with
  |zero=>rfl
  |succ n ih=>
   rw[lN,cH,aBq,ih]
   show _+((1:Rat)*f (Int.toNat (r n:Nat))+0)=_+_
   rw[cD,jW,bM]
 rw[<-h1,aLr]
 refine aLl ((List.perm_ext_iff_of_nodup ?_ ?_).2 λe=>?_)
 ·rw[cI,fN]
  refine(cI.1 kS).imp_of_mem λ{a b} ha hb hab he=>hab (hi a b (cQ.1 ha) (cQ.1 hb) (by injection he with he;exact iU he))
 ·rw[cI,fN]
  exact(cI.1 kS).imp λhab he=>hab (by injection he with he;exact iU he)
 rw[cB,cB]
 constructor
 ·rintro⟨k,hk,rfl⟩;exact⟨r k,cQ.2 (h k (cQ.1 hk)),rfl⟩
 rintro⟨i,hk,rfl⟩
 obtain⟨j,hj,rfl⟩:=oD h hi i (cQ.1 hk)
 exact⟨j,cQ.2 hj,rfl⟩
theorem wI (a:Rat):a-0=a:=by grind
def fwT (us:Nat->List En) (p:Nat->Rat) (c:Nat->Rat):Nat->Nat->Rat
 |0=>c
 |i+1=>λj=>if j=i then fwT us p c i i/p i else fwT us p c i j-Vm.get (us i) (j:Nat)*(fwT us p c i i/p i)
def bkT (lo:Nat->List En) (n:Nat) (y:Nat->Rat):Nat->Nat->Rat
 |0=>y
 |k+1=>λj=>bkT lo n y k j-Vm.get (lo (n-1-k)) (j:Nat)*bkT lo n y k (n-1-k)
section
variable {n:Nat} {Lw Up lo us:Nat->List En} {p c y:Nat->Rat} (hP:LuP n Lw Up lo us p)
include hP
theorem bUn {i j:Nat} (hi:i<n) (hj:j<=i):Vm.get (us i) (j:Nat)=0:=get_none λe he h=>by have:=((hP.us i hi).2.1 e he).1;omega
theorem cJy {i j:Nat} (hi:i<n) (hj:i<=j):Vm.get (lo i) (j:Nat)=0:=get_none λe he h=>by have:=((hP.lo i hi).2.2 e he).2.1;omega
theorem bDi {i j:Nat} (hi:i<n):Vm.get (Up i) (j:Nat)=if j=i then p i else Vm.get (us i) (j:Nat):=by
 rw[(hP.us i hi).1,tS]
 by_cases e:j=i
 ·subst e;rw[if_pos rfl,if_pos rfl,bUn hP hi (aJ _),bM]
 rw[if_neg e,if_neg (by show ¬(i:Int)=(j:Nat);omega),fM]
theorem cDt {i j:Nat} (hi:i<n):Vm.get (Lw i) (j:Nat)=Vm.get (lo i) (j:Nat)+if j=i then 1 else 0:=by
 rw[(hP.lo i hi).1,get_append,tS]
 show _+((if (i:Int)=(j:Nat) then (1:Rat) else 0)+0)=_
 by_cases e:j=i
 ·subst e;rw[if_pos rfl,if_pos rfl,bM]
 rw[if_neg e,if_neg oM,bM]
theorem aPo {j:Nat}:∀{k:Nat},j<k->k<=n->fwT us p c k j=fwT us p c j j/p j
 |0,h,_=>absurd h (aD _)
 |k+1,h,hk=>by
  by_cases e:j=k
  ·subst e;exact if_pos rfl
  show(if j=k then _ else _)=_
  rw[if_neg e,bUn hP oM oM,cY,wI,aPo oM oM]
theorem aSp {j:Nat} (hj:j<n):∀{k:Nat},k<=j->fwT us p c k j+cA (λi=>fwT us p c n i*Vm.get (Up i) (j:Nat)) k=c j
 |0,_=>by show c j+(0:Rat)=_;rw[bM]
 |k+1,hk=>by
  rw[<-aSp hj (k:=k) oM]
  show(if j=k then _ else _)+(cA _ k+_*_)=_
  rw[if_neg oM,aPo hP (j:=k) oM (aJ n),bDi hP oM,if_neg oM]
  grind
theorem bJs {j:Nat} (hj:j<n):cA (λi=>fwT us p c n i*Vm.get (Up i) (j:Nat)) n=c j:=by
 have h1:=aSp hP (c:=c) hj (aJ j)
 rw[aAh (m:=j+1) oM λi h1 h2=>by rw[bDi hP h2,if_neg oM,bUn hP h2 oM,bZ]]
 show cA _ j+_*_=_
 rw[bDi hP hj,if_pos rfl,aPo hP hj (aJ n),<-h1,jT,tE,kY _ (hP.p j hj)]
 grind
theorem aPp {j k:Nat} (hj:j<n):∀{d:Nat},n-1-k<=j->k+d<=n->bkT lo n y (k+d) j=bkT lo n y k j
 |0,_,_=>rfl
 |d+1,h,hk=>by
  show bkT lo n y (k+d) j-Vm.get (lo (n-1-(k+d))) (j:Nat)*bkT lo n y (k+d) (n-1-(k+d))=_
  rw[cJy hP oM oM,cY,wI,aPp hj h oM]
theorem aSq {j:Nat}:∀{k:Nat},k<=n->bkT lo n y k j+cA (λi=>if n-k<=i then bkT lo n y n i*Vm.get (lo i) (j:Nat) else 0) n=y j
 |0,_=>by rw[fP λi hi=>if_neg oM,bM];rfl
 |k+1,hk=>by
  rw[<-aSq (k:=k) oM]
  have e1:cA (λi=>if n-(k+1)<=i then bkT lo n y n i*Vm.get (lo i) (j:Nat) else 0) n=cA (λi=>(if n-k<=i then bkT lo n y n i*Vm.get (lo i) (j:Nat) else 0)+(if i=n-1-k then bkT lo n y n i*Vm.get (lo i) (j:Nat) else 0)) n:=bP λi hi=>by
   by_cases e2:n-k<=i
   ·rw[if_pos e2,if_pos oM,if_neg oM,bM]
   rw[if_neg e2]
   by_cases e3:i=n-1-k
   ·rw[if_pos e3,if_pos oM,fM]
   rw[if_neg e3,if_neg oM,bM]
  have e2:bkT lo n y n (n-1-k)=bkT lo n y k (n-1-k):=by
   have:=aPp hP (y:=y) (j:=n-1-k) (k:=k) oM (d:=n-k) (aJ _) oM
   rwa [show k+(n-k)=n by omega] at this
  rw[e1,rA,kG (f:=λi=>if i=n-1-k then bkT lo n y n i*Vm.get (lo i) (j:Nat) else 0) (m:=n-1-k) oM λi hi=>if_neg hi,if_pos rfl,e2]
  show bkT lo n y k j-_*_+_=_
  grind
theorem bJt {j:Nat} (hj:j<n):cA (λi=>bkT lo n y n i*Vm.get (Lw i) (j:Nat)) n=y j:=by
 rw[<-aSq hP (y:=y) (j:=j) (aJ n)]
 have e1:cA (λi=>bkT lo n y n i*Vm.get (Lw i) (j:Nat)) n=cA (λi=>(if n-n<=i then bkT lo n y n i*Vm.get (lo i) (j:Nat) else 0)+(if i=j then bkT lo n y n i else 0)) n:=bP λi hi=>by
  rw[cDt hP hi,show(if n-n<=i then bkT lo n y n i*Vm.get (lo i) (j:Nat) else 0)=bkT lo n y n i*Vm.get (lo i) (j:Nat) from if_pos oM]
  by_cases e:i=j
  ·subst e;rw[if_pos rfl,if_pos rfl];grind
  rw[if_neg e,if_neg (fV e)];grind
 rw[e1,rA,kG (f:=λi=>if i=j then bkT lo n y n i else 0) hj λi hi=>if_neg hi,if_pos rfl]
 grind
end
def TEq (a:Nat->Nat->Rat) (n:Nat) (c y:Nat->Rat):Prop:=∀j,j<n->cA (λr=>y r*a r j) n=c j
theorem aLs {n j:Nat} {es:List En} (hj:j<n):dtn n es (λi=>if i=j then 1 else 0)=Vm.get es (j:Nat):=by
 show cA (λi=>Vm.get es (i:Nat)*(if i=j then 1 else 0)) n=_
 rw[kG (m:=j) hj λi hi=>by rw[if_neg hi,bZ],if_pos rfl,nV]
theorem LuOk.solT {M:Nat->List En} {n:Nat} {rw cl:Nat->Nat} {Lw Up lo us:Nat->List En} {p:Nat->Rat} (h:LuOk M n rw cl Lw Up) (hP:LuP n Lw Up lo us p) {c xv:Nat->Rat} (hx:∀i,i<n->xv (rw i)=bkT lo n (fwT us p (λj=>c (cl j)) n) n i):TEq (enM M) n c xv:=λq hq=>by
 obtain⟨j,hj,rfl⟩:=oD h.clt h.cinj q hq
 have e1:∀k,k<n->Vm.get (M (rw k)) (cl j:Nat)=cA (λi=>Vm.get (Lw k) (i:Nat)*Vm.get (Up i) (j:Nat)) n:=λk hk=>by
  have:=h.eq k hk λi=>if i=cl j then 1 else 0
  rw[aLs hq,sI λe he=>?_] at this
  ·rw[this]
   refine bP λi hi=>?_
   rw[<-aLs (es:=Up i) hj]
   exact congrArg (Vm.get (Lw k) (i:Nat)*·) (bP λt ht=>by
    show _*(if cl t=cl j then (1:Rat) else 0)=_*(if t=j then (1:Rat) else 0)
    by_cases e:t=j
    ·subst e;rw[if_pos rfl,if_pos rfl]
    rw[if_neg e,if_neg λe2=>e (h.cinj t j ht hj e2)])
  rw[(hP.lo k hk).1] at he
  rcases aV.1 he with he|he
  ·have:=(hP.lo k hk).2.2 e he;omega
  rw[aI.1 he];exact⟨by show(0:Int)<=(k:Nat);omega,by show(k:Int)<_;omega⟩
 rw[<-aUz (f:=λr=>xv r*enM M r (cl j)) h.rlt h.rinj]
 have e2:cA (λk=>xv (rw k)*enM M (rw k) (cl j)) n=cA (λk=>cA (λi=>bkT lo n (fwT us p (λj=>c (cl j)) n) n k*Vm.get (Lw k) (i:Nat)*Vm.get (Up i) (j:Nat)) n) n:=bP λk hk=>by
  rw[hx k hk,show enM M (rw k) (cl j)=_ from e1 k hk,<-jP]
  exact bP λi _=>by grind
 have e3:cA (λi=>cA (λk=>bkT lo n (fwT us p (λj=>c (cl j)) n) n k*Vm.get (Lw k) (i:Nat)*Vm.get (Up i) (j:Nat)) n) n=cA (λi=>fwT us p (λj=>c (cl j)) n i*Vm.get (Up i) (j:Nat)) n:=bP λi hi=>by
  rw[<-bJt hP (y:=fwT us p (λj=>c (cl j)) n) hi,Rat.mul_comm,<-jP]
  exact bP λk _=>by grind
 rw[e2,qQ,e3,bJs hP hj]
theorem aBt {g:Nat->Rat} {b:Nat} (h0:1<=b):∀{m:Nat},(∀j,j<m->rb (g j) b)->rb (cA g m) (1+m*(b+1))
 |0,_=>by rw[mT];exact⟨by show len 0<=1;decide,by show len 1<=1;decide⟩
 |m+1,h=>by
  have:=uL (aBt h0 (m:=m) λj hj=>h j oM) (h m oM)
  exact this.le (by rw[dG];omega)
abbrev obj (q:PrQ) (qs:List Rat) (k:Nat):Rat:=cA (λj=>q.k j*lQ qs j) k
abbrev obB (p:ProgM) (s:RatM):BL:=[(42,0,p.C),(62,0,vG),(62,0,s.C)]
theorem bDj {p:ProgM} {s:RatM}:scB 3 (obB p s):=aB rfl (aB rfl (aB rfl aY))
def sqX (l:List Nat) (n:Nat):List (Nat×Bool):=(List.range n).map λi=>(i,l.contains i)
theorem PrX.ob {p:ProgM} {q:PrQ} {x:Sl RatM} {qs:List Rat} {B Bx:Nat} (h:PrX p q x qs B Bx) (hk:∀j,j<p.c.l.length->rb (q.k j) B) {k:Nat} (hkc:k<=p.c.l.length):rb (obj q qs k) 4398046511104:=by
 have h1:=h.v.h1
 have h2:=aBt (b:=B+Bx) oM (m:=k) λj hj=>fI (hk j oM) (h.q _ (gD0 (k:=j) (by rw[h.l];omega)))
 have h3:=h.b
 have h4:k*(B+Bx+1)<=p.c.l.length*(B+Bx+1):=aQ _ hkc
 exact h2.le (by rw[dG] at h3;omega)
abbrev bUo (p:ProgM) (x:Sl RatM) (k:Nat):List (Nat×DV):=[(24,.c (iC k)),(7,.c (.p 2 0)),(4,.c (.p 1 0)),(1,.c (fY x)),(22,.c (wG p.c)),(23,.c (iC (p.c.l.length:Nat)))]
abbrev bUp:FuncId:=99
theorem cJz:Ent Tryz.prog bUp:=aW func99 rfl kR
theorem cKa:Tryz.prog.funcs[bUp]? =some Tryz.f99:=func99
theorem cDu (p:ProgM) (x:Sl RatM) {q:PrQ} {qs:List Rat} {B Bx:Nat} (h:PrX p q x qs B Bx) (hk:∀j,j<p.c.l.length->rb (q.k j) B):Ctr Tryz.prog bUp [] [.a p.C,.c (fY x)] [] (λg:RatM=>⟨.t [.a g.C,.c (iC 0)],[],Cr g (obj q qs p.c.l.length)⟩):=by
 have hxl:x.l.length=p.c.l.length:=h.x.ln.trans h.l
 have hc:=h.v.c
 have hBB:=h.v.hB
 have hbb:=h.b
 rw[dG] at hbb
 refine aX gT cJz cKa rfl rfl rfl bL aS (aA gT mxd ⟨[],aIr p x h.v _ (congrArg Int.ofNat hxl),rfl,rfl,rfl,λ_ _=>⟨λhh=>absurd rfl hh,λ_=>aA gT mxd ⟨[],sD (z:=0) dC,rfl,rfl,rfl,λz hz=>?_⟩⟩⟩)
 show Sd _ _ _ _ _ _
 refine cO (λ_=>true) (λg:Nat×RatM=>bUo p x g.1) (λg=>obB p g.2) (λ_=>[]) (λg=>g.1<=p.c.l.length/\Cr g.2 (obj q qs g.1)) (λg=>p.c.l.length-g.1) λhM=>⟨bS hM (chg:=λg:Nat×RatM=>bUo p x g.1) (bls:=λg=>obB p g.2) (fls:=λ_=>[]) (0,z) ⟨aC _,hz⟩ rfl ⟨rfl,rfl,rfl⟩ trivial ⟨rfl,rfl,rfl,rfl,rfl,rfl⟩ bL bDj rfl,λ⟨k,s⟩ ⟨hkc,hs⟩=>aA gT mxd ⟨λh3=>aA gT mxd ?_,λh3=>aA gT mxd ?_⟩⟩
 all_goals
  replace hkc:k<=p.c.l.length:=hkc
  replace hs:Cr s (obj q qs k):=hs
 ·replace h3:(k:Int)<(p.c.l.length:Nat):=h3
  have hkn:k<p.c.l.length:=by omega
  have hkx:k<x.l.length:=by omega
  have hX:=(h.x.rq h.q (k:=k) (by rw[h.l];exact hkn)).le h.le
  have hxr:=h.q _ (gD0 (k:=k) (by rw[h.l];exact hkn))
  refine⟨k,⟨rfl,hkn⟩,.seq (sqX [8,9] 10),by kernel_rfl,k,⟨rfl,hkx⟩,[],pQ (p.c.l.getD k default).k (x.l.getD k default) ((h.v.rd.c k hkn).k.le) hX,rfl,rfl,rfl,λm hm=>⟨[],wA s m (hs.rq (h.ob hk hkc)) (Cr.rq hm ((fI (hk k hkn) hxr).le oM)),rfl,rfl,rfl,λg hg=>⟨(k+1:Nat),wi,bS hM (chg:=λg:Nat×RatM=>bUo p x g.1) (bls:=λg=>obB p g.2) (fls:=λ_=>[]) (k+1,g) ⟨⟨hkn,hg⟩,show p.c.l.length-(k+1)<p.c.l.length-k by omega⟩ rfl ⟨rfl,rfl,rfl⟩ trivial ⟨rfl,rfl,rfl,rfl,rfl,rfl⟩ bL bDj rfl⟩⟩⟩
 replace h3:¬(k:Int)<(p.c.l.length:Nat):=h3
 obtain rfl:k=p.c.l.length:=by omega
 exact aA gT mxd ⟨s,hs,aM ⟨rfl,rfl⟩ rfl trivial⟩
abbrev bUq:FuncId:=90
theorem cKb:Ent Tryz.prog bUq:=aW func90 rfl kR
theorem cKc:Tryz.prog.funcs[bUq]? =some Tryz.f90:=func90
theorem cDv (d:Sl Int) (p:Nat) (hd:d.l.length<=9223372036854775807) (hp:p<=d.l.length):Ctr Tryz.prog bUq [true] [.c (.p 0 0)] (tpB d p) (λg:RatM×Rat×Nat=>⟨.a g.1.C,tpB d g.2.2,((Cr g.1 g.2.1/\g.2.1≠0)/\rb g.2.1 1)/\g.2.2<=d.l.length⟩):=by
 have last:∀n s:Int,n≠0->-6<=n->n<=6->0<=s->s<3->Rat.divInt n (1+s)≠0/\rb (Rat.divInt n (1+s)) 1:=λn s h1 h2 h3 h4 h5=>⟨λh=>h1 (by
  have h6:=rI n (1+s)
  rw[h,show(1+s).sign=1 from oK oM,sO] at h6
  have h7:n=n/((1+s).gcd n:Int)*((1+s).gcd n:Int):=(Int.ediv_mul_cancel (Int.gcd_dvd_right ..)).symm
  rw[h7,<-h6];exact Int.zero_mul _),aLh oM oM⟩
 refine aX gT cKb cKc rfl rfl rfl bL (eI rfl) (aA gT mxd ⟨[0],mO d p 12 hd hp dC dC,rfl,rfl,rfl,λr hr=>⟨r.1-6,wi (h:=⟨rfl,by have:=hr.1;omega,by have:=hr.1;omega⟩),⟨λh1=>aA gT mxd ⟨r.1-6+1,wi (h:=⟨rfl,by have:=hr.1;omega,by have:=hr.1;omega⟩),?_⟩,λh1=>aA gT mxd ?_⟩⟩⟩)
 ·replace h1:0<=r.1-6:=h1
  refine⟨[0],mO d r.2 3 hd hr.2 dC dC,rfl,rfl,rfl,λs hs=>⟨1+s.1,wi (h:=⟨rfl,by have:=hs.1;omega,by have:=hs.1;omega⟩),[],bBm (by have:=hr.1;omega) (by have:=hs.1;omega),rfl,rfl,rfl,λg hg=>⟨(g,Rat.divInt (r.1-6+1) (1+s.1),s.2),⟨⟨⟨hg,?_⟩,?_⟩,hs.2⟩,fB rfl rfl bL (aB rfl aY) rfl (eI rfl)⟩⟩⟩
  ·exact(last _ _ oM oM (by have:=hr.1;omega) hs.1.1 hs.1.2).1
  exact(last _ _ oM oM (by have:=hr.1;omega) hs.1.1 hs.1.2).2
 replace h1:¬0<=r.1-6:=h1
 refine⟨[0],mO d r.2 3 hd hr.2 dC dC,rfl,rfl,rfl,λs hs=>⟨1+s.1,wi (h:=⟨rfl,by have:=hs.1;omega,by have:=hs.1;omega⟩),[],bBm (by have:=hr.1;omega) (by have:=hs.1;omega),rfl,rfl,rfl,λg hg=>⟨(g,Rat.divInt (r.1-6) (1+s.1),s.2),⟨⟨⟨hg,?_⟩,?_⟩,hs.2⟩,fB rfl rfl bL (aB rfl aY) rfl (eI rfl)⟩⟩⟩
 ·exact(last _ _ oM (by have:=hr.1;omega) oM hs.1.1 hs.1.2).1
 exact(last _ _ oM (by have:=hr.1;omega) oM hs.1.1 hs.1.2).2
theorem cDw (b:Bool):LeC (.v (.bool b)) (.b (b=true) inferInstance):=λρ n w x h=>by
 rw[h.inv_v]
 have h1:Rc (Zf ρ n w) w (.b (b=true) inferInstance) (.bool (decide (b=true))):=Rc.b _ _
 have h2:decide (b=true)=b:=by cases b<;>rfl
 rw[h2] at h1
 exact h1
abbrev LeL (l l':List CV):Prop:=∀(k:Nat) (c c':CV),l[k]? =some c->l'[k]? =some c'->LeC c c'
theorem LeL.refl (l:List CV):LeL l l:=λk c c' h1 h2=>by rw[h1] at h2;injection h2 with h2;subst h2;exact eX _
theorem LeL.cons {c c':CV} {l l':List CV} (h:LeC c c') (hl:LeL l l'):LeL (c::l) (c'::l')
 |0,a,a',h1,h2=>by injection h1 with h1;injection h2 with h2;subst h1 h2;exact h
 |k+1,a,a',h1,h2=>hl k a a' h1 h2
theorem aSr {P:Program} {nb N:Nat} {cd:Code} {K:Kt} {s:SS} (i:Nat) {T es:Nat} {l:List CV} (l':List CV) (hb:s.bl[i]? =some (T,es,l)) (hl:l'.length=l.length) (hc:LeL l l') (h:mE s.bl i (T,es,l') λbl'=>Sd P nb N cd K ⟨s.sl,s.gl,bl',s.fl⟩):Sd P nb N cd K s:=gK tSd i l' hb hl hc h
def bV:Bool->CV
 |true=> .v (.bool true)
 |false=> .b (false=true) inferInstance
theorem bMo (b:Bool):LeC (bV b) (.b (b=true) inferInstance):=by
 cases b with
 |true=>exact cDw true
 |false=>exact eX _
abbrev bDk (k:RatM) (b:Bool) (l:RatM) (c:Bool) (u:RatM):ColM:=⟨k,b=true,inferInstance,l,c=true,inferInstance,u⟩
abbrev bDl (k:RatM) (b:Bool) (l:RatM) (c:Bool) (u:RatM):List CV:=[.b k.n.p k.n.d,dY k.n.m,dY k.d,bV b,.b l.n.p l.n.d,dY l.n.m,dY l.d,bV c,.b u.n.p u.n.d,dY u.n.m,dY u.d]
abbrev cKd:List CV:=[.b (false=true) inferInstance,.v (.slice none 0 0),.v (.slice none 0 0),.b (false=true) inferInstance,.b (false=true) inferInstance,.v (.slice none 0 0),.v (.slice none 0 0),.b (false=true) inferInstance,.b (false=true) inferInstance,.v (.slice none 0 0),.v (.slice none 0 0)]
theorem bJu {k:RatM} {b:Bool} {l:RatM} {c:Bool} {u:RatM}:LeL (bDl k b l c u) (bDk k b l c u).C:=.cons (eX _) (.cons (eX _) (.cons (eX _) (.cons (bMo b) (.cons (eX _) (.cons (eX _) (.cons (eX _) (.cons (bMo c) (LeL.refl _))))))))
abbrev tcB (d:Sl Int) (q:Nat) (l:List CV):BL:=[(98,0,[cM d,iC q]),(106,0,cKd),(106,0,l)]
theorem bJv {g:RatM}:LeL ([.b g.n.p g.n.d,dY g.n.m,dY g.d,.b (false=true) inferInstance,.b (false=true) inferInstance,.v (.slice none 0 0),.v (.slice none 0 0),.b (false=true) inferInstance,.b (false=true) inferInstance,.v (.slice none 0 0),.v (.slice none 0 0)]) (bDl g false default false default):=.cons (eX _) (.cons (eX _) (.cons (eX _) (.cons (eX _) (.cons (eX _) (.cons pH (.cons pH (.cons (eX _) (.cons (eX _) (.cons pH (.cons pH (LeL.refl _)))))))))))
theorem bDm {n:Int} (h0:0<=n) (h:n<=1000):rb (n:Rat) 1:=⟨by rw[Rat.num_intCast];exact aG (fQ (show n.natAbs<=1000 by omega)) dC,by rw[Rat.den_intCast];decide⟩
theorem CtrF.ld {P:Program} {q:FuncId} {cl:List Bool} {al:List DV} {bl:BL} {fl:List Fam} {σ τ:Type} {R:σ->OutF} {R':τ->OutF} (h:CtrF P q cl al bl fl R) (hp:∀g,(R g).C->∃g',(R' g').C/\(∀ρ n w v,Hd ρ n w (R g).d v->Hd ρ n w (R' g').d v)/\(R' g').bl=(R g).bl/\(R' g').fl=(R g).fl):CtrF P q cl al bl fl R':=
 ⟨h.ent,h.clb,λρ w vals hv hD hF=>(h.run ρ w vals hv hD hF).mono λe w' ⟨v,he,g,ρ',hC,hDr,hdv,hclr,hFr⟩=>by
  obtain⟨g',h1,h2,h3,h4⟩:=hp g hC
  exact⟨v,he,g',ρ',h1,by rw[h3];exact hDr,by rw[h3];exact h2 _ _ _ _ hdv,by rw[h3];exact hclr,by rw[h4];exact hFr⟩⟩
theorem LeL.hd {l l':List CV} (h:LeL l l') (hl:l'.length=l.length) {ρ:Pl} {n:Nat} {w:World} {v:Value} (hv:Hd ρ n w (.a l) v):Hd ρ n w (.a l') v:=by
 cases hv with
 |a hv=>exact .a (hv.le hl h)
structure ColV where
 k:RatM
 pl:Bool
 l:RatM
 pu:Bool
 u:RatM
 kq:Rat
 lq:Rat
 uq:Rat
 p:Nat
abbrev ColV.W (g:ColV):List CV:=bDl g.k g.pl g.l g.pu g.u
abbrev ColV.M (g:ColV):ColM:=bDk g.k g.pl g.l g.pu g.u
structure ColVR (d:Sl Int) (g:ColV):Prop where
 r:ColR g.M g.kq g.lq g.uq 3
 x:¬Crs g.M g.lq g.uq
 k:rb g.kq 3
 l:rb g.lq 3
 u:rb g.uq 3
 p:g.p<=d.l.length
 kc:Cr g.k g.kq
abbrev aSs:FuncId:=123
theorem cDx:Ent Tryz.prog aSs:=aW func123 rfl kR
theorem cDy:Tryz.prog.funcs[aSs]? =some Tryz.f123:=func123
theorem bUr (d:Sl Int) (p:Nat) (hd:d.l.length<=9223372036854775807) (hp:p<=d.l.length):Ctr Tryz.prog aSs [true] [.c (.p 0 0)] (tpB d p) (λg:ColV=>⟨.a g.W,tpB d g.p,ColVR d g⟩):=by
 have z1:rb (0:Rat) 1:=⟨by decide,by decide⟩
 have z3:rb (0:Rat) 3:=z1.le dC
 refine aX gT cDx cDy rfl rfl rfl bL (eI rfl) (Sd.sq (aA gT mxd (Sd.sq (aA gT mxd ⟨[0],aOt d p hd hp,rfl,rfl,rfl,λg1 ⟨⟨hg,hgb⟩,hp1⟩=>aSr 2 (bDl g1.1 false default false default) rfl rfl bJv (aA gT mxd ⟨[0],mO d g1.2.2 6 hd hp1 dC dC,rfl,rfl,rfl,λk ⟨hk,hp2⟩=>?_⟩)⟩))))
 have fin:∀(l:RatM) (lq:Rat) (u:RatM) (uq:Rat) (b c:Bool) (q:Nat),Rq l lq 3->Rq u uq 3->rb lq 3->rb uq 3->(c=true->lq<=uq)->q<=d.l.length->ColVR d ⟨g1.1,b,l,c,u,g1.2.1,lq,uq,q⟩:=λl lq u uq b c q hl hu bl bu hlu hq=>
  ⟨⟨Cr.rq hg (hgb.le dC),hl,hu⟩,λ⟨⟨_,hc⟩,hlt⟩=>absurd hlt (by have:=hlu hc;grind),hgb.le dC,bl,bu,hq,hg⟩
 refine vjn (λ_=>true) (λ_:Bool×RatM×Rat×Nat=>[(4,.c (iC k.1)),(0,.c (.p 0 0)),(2,.c (.p 1 0)),(3,.c (.p 2 0))]) (λx=>tcB d x.2.2.2 (bDl g1.1 x.1 x.2.1 false default)) (λx=>Rq x.2.1 x.2.2.1 1/\rb x.2.2.1 1/\x.2.2.2<=d.l.length) ?_
 refine⟨⟨λh1=>aA gT mxd ⟨λh2=>aA gT mxd ⟨[0],aOt d k.2 hd hp2,rfl,rfl,rfl,λg2 ⟨⟨hg2,hb2⟩,hp3⟩=>⟨(true,g2.1,g2.2.1,g2.2.2),⟨Cr.rq hg2 hb2,hb2,hp3⟩,rfl,rfl,rfl,rfl,rfl,rfl⟩⟩,λh2=>aA gT mxd ⟨(true,default,0,k.2),⟨uJ,z1,hp2⟩,rfl,rfl,rfl,rfl,rfl,rfl⟩⟩,λh1=>aA gT mxd ⟨(false,default,0,k.2),⟨uJ,z1,hp2⟩,rfl,rfl,rfl,rfl,rfl,rfl⟩⟩,λ⟨b,l,lq,q⟩ ⟨hl,bl,hq⟩=>?_⟩
 have hb3:∀r:Int,0<=r/\r<5->rb (lq+(r:Rat)) 3:=λr hr=>(uL bl (bDm hr.1 oM)).le dC
 have hf3:∀(r:Int) (u:RatM) (b:Bool) (q:Nat),0<=r/\r<5->Cr u (lq+(r:Rat))->q<=d.l.length->ColVR d ⟨g1.1,b,l,true,u,g1.2.1,lq,lq+(r:Rat),q⟩:=λr u b q hr hu hq=>fin _ _ _ _ _ _ _ (hl.le dC) (Cr.rq hu (hb3 r hr)) (bl.le dC) (hb3 r hr) (λ_=>by
  have:(0:Rat)<=(r:Rat):=by exact_mod_cast hr.1
  grind) hq
 cases b
 all_goals
  exact⟨λh3=>aA gT mxd ⟨.treeX [] [2000,1,2002,2006] (trS [3,4,5,1007,2008,1009]),by kernel_rfl,[0],mO d q 5 hd hq dC dC,rfl,rfl,rfl,λr ⟨hr,hp3⟩=>⟨rfl,[],uI (z:=r.1) oM,rfl,rfl,rfl,λf hf=>⟨rfl,[],bRi l f (hl.le dC) (Cr.rq hf ((bDm hr.1 oM).le dC)),rfl,rfl,rfl,λu hu=>⟨rfl,⟨g1.1,_,l,true,u,g1.2.1,lq,lq+(r.1:Rat),r.2⟩,hf3 r.1 u _ r.2 hr hu hp3,fB rfl rfl bL (aB rfl aY) rfl (eI rfl)⟩⟩⟩⟩,λh3=>aA gT mxd ⟨⟨g1.1,_,l,false,default,g1.2.1,lq,0,q⟩,fin _ _ _ _ _ _ _ (hl.le dC) uJ (bl.le dC) z3 (λh=>by cases h) hq,fB rfl rfl bL (aB rfl aY) rfl (eI rfl)⟩⟩
theorem bUs (d:Sl Int) (p:Nat) (hd:d.l.length<=9223372036854775807) (hp:p<=d.l.length):Ctr Tryz.prog aSs [true] [.c (.p 0 0)] (tpB d p) (λg:ColV=>⟨.a g.M.C,tpB d g.p,ColVR d g⟩):=CtrF.ld (bUr d p hd hp) λg hg=>⟨g,hg,λ_ _ _ _ h=>LeL.hd bJu rfl h,rfl,rfl⟩
theorem xW {P:Program} {nb N:Nat} {cd:Code} {K:Kt} {s:SS} (i k T es:Nat) {T0 e0:Nat} {l:List CV} (hb:s.bl[i]? =some (T0,e0,l)) (hk:l[k]? =some (.v (.slice none 0 0))) (hes:0<es) (hgl:s.gl=[]) (h:mE s.bl i (T0,e0,l.set k (.s (cnt s.bl 0) 0)) λb1=>qA b1 (T,es,[]) λbl'=>Sd P nb N cd K ⟨s.sl,[],bl',s.fl⟩):Sd P nb N cd K s:=bYv tSd i k T es hb hk hes hgl h
theorem VOk.le {es:List En} {a b:Int} (h:VOk es a) (hab:a<=b):VOk es b:=⟨h.1,λe he=>⟨(h.2 e he).1,Int.lt_of_lt_of_le (h.2 e he).2.1 hab,(h.2 e he).2.2⟩⟩
theorem VOk.snoc {es:List En} {k:Nat} {q:Rat} (h:VOk es (k:Nat)) (hq:q≠0):VOk (es++[((k:Int),q)]) ((k+1:Nat):Int):=⟨eM.2 ⟨h.1,eW _ _,λe he x hx=>by rw[aI.1 hx];exact(h.2 e he).2.1⟩,λe he=>by
 rcases aV.1 he with he|he
 ·have:=h.2 e he
  exact⟨this.1,by omega,this.2.2⟩
 rw[aI.1 he];exact⟨by show(0:Int)<=(k:Nat);omega,by show(k:Int)<_;omega,hq⟩⟩
structure RwS (r:RowM) (b:Rat) (es:List En) (n:Nat):Prop where
 rd:RowR r b es 1
 s:Sns r.s
 v:VOk es (n:Nat)
 bc:Cr r.b b
 b:rb b 1
 e:rbE es 1
 ln:es.length<=n
abbrev cKe:List CV:=[iC 0,.b (false=true) inferInstance,.v (.slice none 0 0),.v (.slice none 0 0),.v (.slice none 0 0)]
abbrev bDn (d:Sl Int) (q:Nat) (s:Int) (b:RatM) (L:List EntM):BL:=[(98,0,[cM d,iC q]),(67,0,cKe),(67,0,[iC s,.b b.n.p b.n.d,dY b.n.m,dY b.d,.s 3 L.length]),(82,4,ecs L)]
theorem aIt {d:Sl Int} {q:Nat} {s:Int} {b:RatM} {L:List EntM}:scB 4 (bDn d q s b L):=aB rfl (aB rfl (aB rfl (aB (bT (hJ L)) aY)))
abbrev bJw (n k:Nat):List (Nat×DV):=[(6,.c (iC k)),(0,.c (.p 0 0)),(1,.c (iC n)),(4,.c (.p 1 0)),(5,.c (.p 2 0))]
theorem cDz {T:Nat} {A:Option Nat} {a:Nat} {L:List EntM}:FrC ⟨T,4,1,λ_=>A,λ_=>a,λ_=>ecs L⟩ (.h A L.length a) (cF ⟨A.map λb=>⟨b,0,none⟩,a,L⟩):=⟨0,L.length,_,bL,rfl,rfl,(gZ _).symm,λk hk=>uK L k hk⟩
abbrev bDo:FuncId:=36
theorem cEa:Ent Tryz.prog bDo:=aW func36 rfl kR
theorem cEb:Tryz.prog.funcs[bDo]? =some Tryz.f36:=func36
theorem bUt (d:Sl Int) (p n:Nat) (hd:d.l.length<=9223372036854775807) (hp:p<=d.l.length) (hn:n<=1000):Ctr Tryz.prog bDo [true] [.c (.p 0 0),.c (iC n)] (tpB d p) (λg:RowM×(Rat×List En)×Nat=>⟨.a g.1.C,tpB d g.2.2,RwS g.1 g.2.1.1 g.2.1.2 n/\g.2.2<=d.l.length⟩):=by
 refine aX gT cEa cEb rfl rfl rfl bL (eI rfl) (Sd.sq (aA gT mxd (Sd.sq (aA gT mxd ⟨[0],mO d p 3 hd hp dC dC,rfl,rfl,rfl,λs ⟨hs,hp1⟩=>⟨s.1-1,wi (h:=⟨rfl,by omega,by omega⟩),[0],aOt d s.2 hd hp1,rfl,rfl,rfl,λg1 ⟨⟨hg,hgb⟩,hp2⟩=>xW 2 4 82 4 rfl rfl bL rfl (aA gT mxd ?_)⟩⟩))))
 refine cO (λ_=>true) (λg:Nat×List EntM×List En×Nat=>bJw n g.1) (λg=>bDn d g.2.2.2 (s.1-1) g1.1 g.2.1) (λ_=>[]) (λg=>(g.1<=n/\Ek g.2.1 g.2.2.1)/\(VOk g.2.2.1 (g.1:Nat)/\rbE g.2.2.1 1/\g.2.2.1.length<=g.1)/\g.2.2.2<=d.l.length) (λg=>n-g.1) λhM=>⟨bS hM (chg:=λg:Nat×List EntM×List En×Nat=>bJw n g.1) (bls:=λg=>bDn d g.2.2.2 (s.1-1) g1.1 g.2.1) (fls:=λ_=>[]) (0,[],[],g1.2.2) ⟨⟨aC _,⟨rfl,λk hk=>absurd hk (aD _)⟩⟩,⟨⟨List.Pairwise.nil,λe he=>(by cases he)⟩,λe he=>(by cases he),aJ _⟩,hp2⟩ rfl ⟨rfl,rfl,rfl,rfl⟩ trivial ⟨rfl,rfl,rfl,rfl,rfl⟩ bL aIt rfl,λ⟨k,L,es,q⟩ ⟨⟨hk,hL⟩,⟨hv,hb,hl⟩,hq⟩=>aA gT mxd ⟨λh1=>aA gT mxd ?_,λh1=>aA gT mxd ?_⟩⟩
 all_goals
  replace hk:k<=n:=hk
  replace hL:Ek L es:=hL
  replace hv:VOk es (k:Nat):=hv
  replace hb:rbE es 1:=hb
  replace hl:es.length<=k:=hl
  replace hq:q<=d.l.length:=hq
  have hLl:=hL.ln
 ·have hkn:k<n:=by replace h1:(k:Int)<(n:Nat):=h1;omega
  refine⟨[0],mO d q 3 hd hq dC dC,rfl,rfl,rfl,λr ⟨hr,hr2⟩=>⟨λh2=>aA gT mxd ⟨.treeX [] [2000,1,2002,2003] (trS [4,2005,6,1007,2008,1009]),by kernel_rfl,[0],cDv d r.2 hd hr2,rfl,rfl,rfl,λg2 ⟨⟨⟨hg2,hz2⟩,hb2⟩,hp3⟩=>⟨rfl,rfl,⟨rfl,(by rw[gZ]),by show L.length+1<=maxLen;simp only[maxLen];omega,by show(L.length+1)*64<=_;omega,λc hc=>(aV.1 hc).elim (λh=>fC (hJ L c h)) (pI ⟨k,g2.1⟩ c)⟩,pI ⟨k,g2.1⟩,(k+1:Nat),wi,bS hM (chg:=λg:Nat×List EntM×List En×Nat=>bJw n g.1) (bls:=λg=>bDn d g.2.2.2 (s.1-1) g1.1 g.2.1) (fls:=λ_=>[]) (k+1,L++[⟨k,g2.1⟩],es++[((k:Int),g2.2.1)],g2.2.2) ⟨⟨⟨hkn,zB hL hg2⟩,⟨hv.snoc hz2,?_,by show(es++[_]).length<=k+1;simp;omega⟩,hp3⟩,show n-(k+1)<n-k by omega⟩ rfl ⟨rfl,rfl,?_,?_⟩ trivial ⟨rfl,rfl,rfl,rfl,rfl⟩ bL aIt rfl⟩⟩,λh2=>aA gT mxd ⟨(k+1:Nat),wi,bS hM (chg:=λg:Nat×List EntM×List En×Nat=>bJw n g.1) (bls:=λg=>bDn d g.2.2.2 (s.1-1) g1.1 g.2.1) (fls:=λ_=>[]) (k+1,L,es,r.2) ⟨⟨⟨hkn,hL⟩,⟨hv.le oM,hb,Nat.le_succ_of_le hl⟩,hr2⟩,show n-(k+1)<n-k by omega⟩ rfl ⟨rfl,rfl,rfl,rfl⟩ trivial ⟨rfl,rfl,rfl,rfl,rfl⟩ bL aIt rfl⟩⟩⟩
  ·intro e he
   rcases aV.1 he with he|he
   ·exact hb e he
   rw[aI.1 he];exact hb2
  ·show(_,_,[_,_,_,_,CV.s 3 (L.length+1)])=(_,_,[_,_,_,_,CV.s 3 (L++[_]).length])
   rw[aH];rfl
  show(_,_,_)=(_,_,_)
  rw[<-tP];rfl
 have hkn:k=n:=by replace h1:¬(k:Int)<(n:Nat):=h1;omega
 subst hkn
 show Sd _ _ _ _ _ _
 refine mU tSd 3 rfl bL (hJ L) bL rfl λA a=>lI tSd 2 0 [iC (s.1-1),.b g1.1.n.p g1.1.n.d,dY g1.1.n.m,dY g1.1.d,cF ⟨A.map λb=>⟨b,0,none⟩,a,L⟩] rfl rfl rfl rfl (sC (k0:=4) rfl cDz) ?_
 exact aA gT mxd ⟨(⟨s.1-1,g1.1,⟨A.map λb=>⟨b,0,none⟩,a,L⟩⟩,(g1.2.1,es),q),⟨⟨⟨Cr.rq hg hgb,hL.ev hb⟩,by unfold Sns;show s.1-1=-1\/s.1-1=0\/s.1-1=1;omega,hv,hg,hgb,hb,hl⟩,hq⟩,fB rfl rfl bL (aB rfl aY) rfl (eI rfl)⟩
theorem sK {l:List CV} (h:l.all fO=true):∀x∈l,fO x=true:=aR.1 h
theorem rC (c:ColM):∀x∈c.C,fO x=true:=sK rfl
theorem qR (r:RowM):∀x∈r.C,fO x=true:=sK rfl
structure ClS (c:ColM) (k l u:Rat):Prop where
 r:ColR c k l u 3
 x:¬Crs c l u
 kc:Cr c.k k
 k:rb k 3
 l:rb l 3
 u:rb u 3
def bDp (C:List ColM):Prop:=∀c∈C,∃k l u,ClS c k l u
def bJx (R:List RowM) (n:Nat):Prop:=∀r∈R,∃b es,RwS r b es n
abbrev aPq (d:Sl Int) (q:Nat) (C:List ColM) (R:List RowM):BL:=[(98,0,[cM d,iC q]),(42,0,[.v (.slice none 0 0),.v (.slice none 0 0)]),(42,0,[.s 3 C.length,.s 4 R.length]),(106,11,fl ColM.C default C),(67,5,fl RowM.C default R)]
theorem aBu {d:Sl Int} {q:Nat} {C:List ColM} {R:List RowM}:scB 5 (aPq d q C R):=aB rfl (aB rfl (aB rfl (aB (bT (zE rC)) (aB (bT (zE qR)) aY))))
abbrev bUu (b:Nat) (k:Int):List (Nat×DV):=[(8,.c (iC k)),(0,.c (.p 0 0)),(2,.c (iC b)),(6,.c (.p 1 0)),(7,.c (.p 2 0))]
abbrev bUv (k:Int):List (Nat×DV):=[(9,.c (iC k)),(0,.c (.p 0 0)),(6,.c (.p 1 0)),(7,.c (.p 2 0))]
theorem bJy {α:Type} {f:α->List CV} {dd:α} {e T:Nat} {A:Option Nat} {a:Nat} {L:List α} (he:∀x,(f x).length=e) (h0:0<e):FrC ⟨T,e,1,λ_=>A,λ_=>a,λ_=>fl f dd L⟩ (.h A L.length a) ((⟨A.map λb=>⟨b,0,none⟩,a,L⟩:Sl α).R e f dd):=⟨0,L.length,_,bL,rfl,rfl,(aIi he).symm,λk hk=>cBr he k hk⟩
abbrev bDq:FuncId:=51
theorem cEc:Ent Tryz.prog bDq:=aW func51 rfl kR
theorem cEd:Tryz.prog.funcs[bDq]? =some Tryz.f51:=func51
theorem bUw (d:Sl Int) (p a b:Nat) (hd:d.l.length<=9223372036854775807) (hp:p<=d.l.length) (ha:0<a) (ha2:a<=1000) (hb:b<=1000):Ctr Tryz.prog bDq [true] [.c (.p 0 0),.c (iC a),.c (iC b)] (tpB d p) (λg:ProgM×Nat=>⟨.a g.1.C,tpB d g.2,((1<=g.1.c.l.length/\g.1.c.l.length<=a/\g.1.r.l.length<=b)/\bDp g.1.c.l/\bJx g.1.r.l g.1.c.l.length)/\g.2<=d.l.length⟩):=by
 refine aX gT cEc cEd rfl rfl rfl bL (eI rfl) (Sd.sq (aA gT mxd (Sd.sq (aA gT mxd (xW 2 0 106 11 rfl rfl bL rfl (xW 2 1 67 5 rfl rfl bL rfl (aA gT mxd ⟨[0],mO d p a hd hp oM oM,rfl,rfl,rfl,λs ⟨hs,hp1⟩=>⟨1+s.1,wi (h:=⟨rfl,by omega,by omega⟩),?_⟩⟩)))))))
 refine cO (λ_=>true) (λg:List ColM×Nat=>bUu b (1+s.1-(g.1.length:Nat))) (λg=>aPq d g.2 g.1 []) (λ_=>[]) (λg=>((g.1.length:Nat)<=1+s.1/\bDp g.1)/\g.2<=d.l.length) (λg=>(1+s.1-(g.1.length:Nat)).toNat) λhM=>⟨bS hM (chg:=λg:List ColM×Nat=>bUu b (1+s.1-(g.1.length:Nat))) (bls:=λg=>aPq d g.2 g.1 []) (fls:=λ_=>[]) ([],s.2) ⟨⟨by show(0:Int)<=1+s.1;omega,λc hc=>(by cases hc)⟩,hp1⟩ rfl ⟨rfl,rfl,rfl,rfl,rfl⟩ trivial ⟨?_,rfl,rfl,rfl,rfl⟩ bL aBu rfl,λ⟨C,q⟩ ⟨⟨hk,hC⟩,hq⟩=>aA gT mxd ⟨λh1=>aA gT mxd ?_,λh1=>aA gT mxd ?_⟩⟩
 ·show(1+s.1:Int)=1+s.1-((0:Nat):Int);omega
 all_goals
  replace hk:((C.length:Nat):Int)<=1+s.1:=hk
  replace hC:bDp C:=hC
  replace hq:q<=d.l.length:=hq
 ·replace h1:(0:Int)<1+s.1-(C.length:Nat):=h1
  refine⟨.treeX [] [2000,1,2002] (trS [3,4,1005,2006,1007]),by kernel_rfl,[0],bUs d q hd hq,rfl,rfl,rfl,λg hg=>⟨rfl,rfl,⟨rfl,(aIi (f:=ColM.C) (d:=default) (L:=C) (e:=11) λ_=>rfl).symm,by show C.length+1<=maxLen;simp only[maxLen];omega,by show(C.length+1)*184<=_;omega,λc hc=>(aV.1 hc).elim (λh=>fC (zE rC c h)) λh=>fC (rC g.M c h)⟩,λc hc=>fC (zE qR c hc),λc hc=>fC (rC g.M c hc),1+s.1-(C.length:Nat)-1,wi (h:=⟨rfl,by omega,by omega⟩),bS hM (chg:=λg:List ColM×Nat=>bUu b (1+s.1-(g.1.length:Nat))) (bls:=λg=>aPq d g.2 g.1 []) (fls:=λ_=>[]) (C++[g.M],g.p) ⟨⟨⟨?_,?_⟩,hg.p⟩,?_⟩ rfl ⟨rfl,rfl,?_,?_,rfl⟩ trivial ⟨?_,rfl,rfl,rfl,rfl⟩ bL aBu rfl⟩⟩
  ·show(((C++[g.M]).length:Nat):Int)<=_
   simp;omega
  ·intro c hc
   rcases aV.1 hc with hc|hc
   ·exact hC c hc
   rw[aI.1 hc];exact⟨_,_,_,hg.r,hg.x,hg.kc,hg.k,hg.l,hg.u⟩
  ·show(1+s.1-(((C++[g.M]).length:Nat):Int)).toNat<(1+s.1-((C.length:Nat):Int)).toNat
   simp;omega
  ·show(_,_,[CV.s 3 (C.length+1),_])=(_,_,[CV.s 3 (C++[_]).length,_])
   rw[aH];rfl
  ·show(_,_,_)=(_,_,_)
   rw[<-aSb];rfl
  show 1+s.1-((C.length:Nat):Int)-1=1+s.1-(((C++[g.M]).length:Nat):Int)
  simp;omega
 replace h1:¬(0:Int)<1+s.1-(C.length:Nat):=h1
 have hCl:((C.length:Nat):Int)=1+s.1:=by omega
 refine aA gT mxd ⟨(b:Int)+1,wi (h:=⟨rfl,by omega,by omega⟩),[0],mO d q ((b:Int)+1) hd hq oM oM,rfl,rfl,rfl,λt ⟨ht,hq1⟩=>?_⟩
 refine cO (λ_=>true) (λg:List RowM×Nat=>bUv (t.1-(g.1.length:Nat))) (λg=>aPq d g.2 C g.1) (λ_=>[]) (λg=>((g.1.length:Nat)<=t.1/\bJx g.1 C.length)/\g.2<=d.l.length) (λg=>(t.1-(g.1.length:Nat)).toNat) λhM=>⟨bS hM (chg:=λg:List RowM×Nat=>bUv (t.1-(g.1.length:Nat))) (bls:=λg=>aPq d g.2 C g.1) (fls:=λ_=>[]) ([],t.2) ⟨⟨by show(0:Int)<=t.1;omega,λc hc=>(by cases hc)⟩,hq1⟩ rfl ⟨rfl,rfl,rfl,rfl,rfl⟩ trivial ⟨?_,rfl,rfl,rfl⟩ bL aBu rfl,λ⟨R,q⟩ ⟨⟨hk,hR⟩,hq⟩=>aA gT mxd ⟨λh1=>aA gT mxd ?_,λh1=>aA gT mxd ?_⟩⟩
 ·show t.1=t.1-((0:Nat):Int);omega
 all_goals
  replace hk:((R.length:Nat):Int)<=t.1:=hk
  replace hR:bJx R C.length:=hR
  replace hq:q<=d.l.length:=hq
 ·replace h1:(0:Int)<t.1-(R.length:Nat):=h1
  refine⟨.treeX [] [2000,1,2002,2003,4,2005] (trS [6,7,1008,2009,1010]),by kernel_rfl,[0],bUt d q C.length hd hq oM,rfl,rfl,rfl,λg ⟨hg,hq2⟩=>⟨rfl,rfl,⟨rfl,(aIi (f:=RowM.C) (d:=default) (L:=R) (e:=5) λ_=>rfl).symm,by show R.length+1<=maxLen;simp only[maxLen];omega,by show(R.length+1)*88<=_;omega,λc hc=>(aV.1 hc).elim (λh=>fC (zE qR c h)) λh=>fC (qR g.1 c h)⟩,λc hc=>fC (zE rC c hc),λc hc=>fC (qR g.1 c hc),t.1-(R.length:Nat)-1,wi (h:=⟨rfl,by omega,by omega⟩),bS hM (chg:=λg:List RowM×Nat=>bUv (t.1-(g.1.length:Nat))) (bls:=λg=>aPq d g.2 C g.1) (fls:=λ_=>[]) (R++[g.1],g.2.2) ⟨⟨⟨?_,?_⟩,hq2⟩,?_⟩ rfl ⟨rfl,rfl,?_,rfl,?_⟩ trivial ⟨?_,rfl,rfl,rfl⟩ bL aBu rfl⟩⟩
  ·show(((R++[g.1]).length:Nat):Int)<=_
   simp;omega
  ·intro c hc
   rcases aV.1 hc with hc|hc
   ·exact hR c hc
   rw[aI.1 hc];exact⟨_,_,hg⟩
  ·show(t.1-(((R++[g.1]).length:Nat):Int)).toNat<(t.1-((R.length:Nat):Int)).toNat
   simp;omega
  ·show(_,_,[_,CV.s 4 (R.length+1)])=(_,_,[_,CV.s 4 (R++[_]).length])
   rw[aH];rfl
  ·show(_,_,_)=(_,_,_)
   rw[<-aSb];rfl
  show t.1-((R.length:Nat):Int)-1=t.1-(((R++[g.1]).length:Nat):Int)
  simp;omega
 show Sd _ _ _ _ _ _
 refine mU tSd 4 rfl bL (zE qR) bL rfl λA a1=>⟨_,sG oC (zE rC),lI tSd 2 0 [.s 3 C.length,aEn ⟨A.map λb=>⟨b,0,none⟩,a1,R⟩] rfl rfl rfl rfl (sC (k0:=1) rfl (bJy (λ_=>rfl) bL)) ?_⟩
 refine mU tSd 3 rfl bL (zE rC) bL rfl λA2 a2=>⟨_,rfl,lI tSd 2 1 [wG ⟨A2.map λb=>⟨b,0,none⟩,a2,C⟩,aEn ⟨A.map λb=>⟨b,0,none⟩,a1,R⟩] rfl rfl rfl rfl (sC (k0:=0) rfl (bJy (λ_=>rfl) bL)) ?_⟩
 exact aA gT mxd ⟨(⟨⟨A2.map λb=>⟨b,0,none⟩,a2,C⟩,⟨A.map λb=>⟨b,0,none⟩,a1,R⟩⟩,q),⟨⟨⟨by show 1<=C.length;omega,by show C.length<=a;omega,by show R.length<=b;omega⟩,hC,hR⟩,hq⟩,fB rfl rfl bL (aB rfl aY) rfl (eI rfl)⟩
abbrev bDr:FuncId:=15
theorem cEe:Ent Tryz.prog bDr:=aW func15 rfl kR
theorem cEf:Tryz.prog.funcs[bDr]? =some Tryz.f15:=func15
theorem bUx (d:Sl Int) (hd:d.l.length<=9223372036854775807):Ctr Tryz.prog bDr [] [.c (cM d)] [] (λg:ProgM=>⟨.a g.C,[],((1<=g.c.l.length/\g.c.l.length<=4/\g.r.l.length<=4)/\bDp g.c.l/\bJx g.r.l g.c.l.length)⟩):=
 aX gT cEe cEf rfl rfl rfl bL aS (aA gT mxd ⟨[],aOr d,rfl,rfl,rfl,λ_ _=>⟨[1],bUw d 0 4 4 hd (aC _) dC dC dC,rfl,rfl,rfl,λg hg=>⟨g.1,hg.1,aM rfl rfl trivial⟩⟩⟩)
structure BasM where
 c:Sl Int
 r:Sl Int
def BasM.C (b:BasM):List CV:=[cM b.c,cM b.r]
abbrev aPr (d:Sl Int) (p:ProgM) (q:Nat) (C R:List Int):BL:=[(98,0,[cM d,iC q]),(42,0,p.C),(45,0,[.v (.slice none 0 0),.v (.slice none 0 0)]),(45,0,[.s 4 C.length,.s 5 R.length]),(3,1,C.map iC),(3,1,R.map iC)]
theorem aBv {d:Sl Int} {p:ProgM} {q:Nat} {C R:List Int}:scB 6 (aPr d p q C R):=aB rfl (aB rfl (aB rfl (aB rfl (aB (bT (cJ _)) (aB (bT (cJ _)) aY)))))
abbrev bUy (k:Nat):List (Nat×DV):=[(6,.c (iC k)),(0,.c (.p 0 0)),(3,.c (.p 1 0)),(4,.c (.p 2 0)),(5,.c (.p 3 0))]
abbrev bUz (k:Nat):List (Nat×DV):=[(7,.c (iC k)),(0,.c (.p 0 0)),(3,.c (.p 1 0)),(4,.c (.p 2 0)),(5,.c (.p 3 0))]
theorem aLt {T:Nat} {A:Option Nat} {a:Nat} {L:List Int}:FrC ⟨T,1,1,λ_=>A,λ_=>a,λ_=>L.map iC⟩ (.h A L.length a) (cM ⟨A.map λb=>⟨b,0,none⟩,a,L⟩):=⟨0,L.length,_,bL,rfl,rfl,by rw[aU,bU],λk hk=>qT k hk⟩
abbrev bDs:FuncId:=17
theorem cEg:Ent Tryz.prog bDs:=aW func17 rfl kR
theorem cEh:Tryz.prog.funcs[bDs]? =some Tryz.f17:=func17
theorem aPs (d:Sl Int) (p:ProgM) (q0:Nat) (hd:d.l.length<=9223372036854775807) (hp:q0<=d.l.length) (h1:p.c.l.length<=1000) (h2:p.r.l.length<=1000):Ctr Tryz.prog bDs [true] [.c (.p 0 0),.a p.C] (tpB d q0) (λg:BasM×Nat=>⟨.a g.1.C,tpB d g.2,(g.1.c.l.length=p.c.l.length/\g.1.r.l.length=p.r.l.length)/\g.2<=d.l.length⟩):=by
 refine aX gT cEg cEh rfl rfl rfl bL (eI rfl) (Sd.sq (aA gT mxd (Sd.sq (aA gT mxd (xW 3 0 3 1 rfl rfl bL rfl (xW 3 1 3 1 rfl rfl bL rfl (aA gT mxd ?_)))))))
 refine cO (λ_=>true) (λg:List Int×Nat=>bUy g.1.length) (λg=>aPr d p g.2 g.1 []) (λ_=>[]) (λg=>g.1.length<=p.c.l.length/\g.2<=d.l.length) (λg=>p.c.l.length-g.1.length) λhM=>⟨bS hM (chg:=λg:List Int×Nat=>bUy g.1.length) (bls:=λg=>aPr d p g.2 g.1 []) (fls:=λ_=>[]) ([],q0) ⟨aC _,hp⟩ rfl ⟨rfl,rfl,rfl,rfl,rfl,rfl⟩ trivial ⟨rfl,rfl,rfl,rfl,rfl⟩ bL aBv rfl,λ⟨C,q⟩ ⟨hk,hq⟩=>aA gT mxd ⟨λh1=>aA gT mxd ?_,λh1=>aA gT mxd ?_⟩⟩
 all_goals
  replace hk:C.length<=p.c.l.length:=hk
  replace hq:q<=d.l.length:=hq
 ·replace h1:(C.length:Int)<(p.c.l.length:Nat):=h1
  refine⟨.treeX [] [2000,1,2002] (trS [3,4,1005,2006,1007]),by kernel_rfl,[0],mO d q 5 hd hq dC dC,rfl,rfl,rfl,λg ⟨hg,hq2⟩=>⟨rfl,rfl,apI (x:=C) oM,(λc hc=>by cases hc),(λc hc=>by rw[aI.1 hc];rfl),(C.length+1:Nat),wi,bS hM (chg:=λg:List Int×Nat=>bUy g.1.length) (bls:=λg=>aPr d p g.2 g.1 []) (fls:=λ_=>[]) (C++[g.1],g.2) ⟨⟨?_,hq2⟩,?_⟩ rfl ⟨rfl,rfl,rfl,?_,?_,rfl⟩ trivial ⟨?_,rfl,rfl,rfl,rfl⟩ bL aBv rfl⟩⟩
  ·show(C++[g.1]).length<=_;simp;omega
  ·show p.c.l.length-(C++[g.1]).length<p.c.l.length-C.length;simp;omega
  ·show(_,_,[CV.s 4 (C.length+1),_])=(_,_,[CV.s 4 (C++[_]).length,_])
   rw[aH];rfl
  ·show(_,_,_)=(_,_,_)
   rw[cH];rfl
  show((C.length+1:Nat):Int)=((C++[g.1]).length:Nat);simp
 replace h1:¬(C.length:Int)<(p.c.l.length:Nat):=h1
 refine aA gT mxd ?_
 refine cO (λ_=>true) (λg:List Int×Nat=>bUz g.1.length) (λg=>aPr d p g.2 C g.1) (λ_=>[]) (λg=>g.1.length<=p.r.l.length/\g.2<=d.l.length) (λg=>p.r.l.length-g.1.length) λhM=>⟨bS hM (chg:=λg:List Int×Nat=>bUz g.1.length) (bls:=λg=>aPr d p g.2 C g.1) (fls:=λ_=>[]) ([],q) ⟨aC _,hq⟩ rfl ⟨rfl,rfl,rfl,rfl,rfl,rfl⟩ trivial ⟨rfl,rfl,rfl,rfl,rfl⟩ bL aBv rfl,λ⟨R,q⟩ ⟨hk,hq⟩=>aA gT mxd ⟨λh1=>aA gT mxd ?_,λh1=>aA gT mxd ?_⟩⟩
 all_goals
  replace hk:R.length<=p.r.l.length:=hk
  replace hq:q<=d.l.length:=hq
 ·replace h1:(R.length:Int)<(p.r.l.length:Nat):=h1
  refine⟨.treeX [] [2000,1,2002] (trS [3,4,1005,2006,1007]),by kernel_rfl,[0],mO d q 4 hd hq dC dC,rfl,rfl,rfl,λg ⟨hg,hq2⟩=>⟨rfl,rfl,apI (x:=R) oM,(λc hc=>fC (cJ _ c hc)),(λc hc=>by rw[aI.1 hc];rfl),(R.length+1:Nat),wi,bS hM (chg:=λg:List Int×Nat=>bUz g.1.length) (bls:=λg=>aPr d p g.2 C g.1) (fls:=λ_=>[]) (R++[g.1],g.2) ⟨⟨?_,hq2⟩,?_⟩ rfl ⟨rfl,rfl,rfl,?_,rfl,?_⟩ trivial ⟨?_,rfl,rfl,rfl,rfl⟩ bL aBv rfl⟩⟩
  ·show(R++[g.1]).length<=_;simp;omega
  ·show p.r.l.length-(R++[g.1]).length<p.r.l.length-R.length;simp;omega
  ·show(_,_,[_,CV.s 5 (R.length+1)])=(_,_,[_,CV.s 5 (R++[_]).length])
   rw[aH];rfl
  ·show(_,_,_)=(_,_,_)
   rw[cH];rfl
  show((R.length+1:Nat):Int)=((R++[g.1]).length:Nat);simp
 replace h1:¬(R.length:Int)<(p.r.l.length:Nat):=h1
 show Sd _ _ _ _ _ _
 refine mU tSd 5 rfl bL (cJ _) bL rfl λA a1=>⟨_,sG oC (cJ _),lI tSd 3 0 [.s 4 C.length,cM ⟨A.map λb=>⟨b,0,none⟩,a1,R⟩] rfl rfl rfl rfl (sC (k0:=1) rfl aLt) ?_⟩
 refine mU tSd 4 rfl bL (cJ _) bL rfl λA2 a2=>⟨_,rfl,lI tSd 3 1 [cM ⟨A2.map λb=>⟨b,0,none⟩,a2,C⟩,cM ⟨A.map λb=>⟨b,0,none⟩,a1,R⟩] rfl rfl rfl rfl (sC (k0:=0) rfl aLt) ?_⟩
 exact aA gT mxd ⟨(⟨⟨A2.map λb=>⟨b,0,none⟩,a2,C⟩,⟨A.map λb=>⟨b,0,none⟩,a1,R⟩⟩,q),⟨⟨by show C.length=_;omega,by show R.length=_;omega⟩,hq⟩,fB rfl rfl bL (aB rfl aY) rfl (eI rfl)⟩
def kvL (x:Nat->Nat) (V:Nat->CV):Nat->List CV
 |0=>[]
 |k+1=>kvL x V k++[iC (x k:Nat),V k]
section kv
variable {x:Nat->Nat} {V:Nat->CV}
theorem aIu:∀k,(kvL x V k).length=2*k
 |0=>rfl
 |k+1=>by
  have:=aIu k
  show(kvL x V k++_).length=_
  rw[aH,this];rfl
theorem aDx:∀{k i:Nat},i<k->(kvL x V k)[2*i]? =some (iC (x i:Nat))/\(kvL x V k)[2*i+1]? =some (V i)
 |0,i,h=>absurd h (aD _)
 |k+1,i,h=>by
  have hl:=aIu (x:=x) (V:=V) k
  show(kvL x V k++_)[2*i]? =_/\(kvL x V k++_)[2*i+1]? =_
  by_cases e:i<k
  ·rw[bJ oM,bJ oM];exact aDx e
  obtain rfl:i=k:=by omega
  rw[cC oM,cC oM,hl,kU,iK]
  exact⟨rfl,rfl⟩
theorem aAi {k i:Nat} {z:Int} {c:CV} (h1:(kvL x V k)[2*i]? =some (.v (.int .i64 z))) (h2:(kvL x V k)[2*i+1]? =some c):i<k/\z=(x i:Nat)/\c=V i:=by
 have hi:i<k:=by have:=dX h2;rw[aIu] at this;omega
 obtain⟨h3,h4⟩:=aDx (x:=x) (V:=V) hi
 rw[h3] at h1
 rw[h4] at h2
 injection h1 with h1
 injection h1 with h1
 injection h1 with _ h1
 injection h2 with h2
 exact⟨hi,h1.symm,h2.symm⟩
end kv
open Classical in
noncomputable def aEo (κ:Nat->Nat) (n:Nat) (z:Int):Option Nat:=if h:∃k,k<n/\((κ k:Nat):Int)=z then some h.choose else none
noncomputable def iV (κ:Nat->Nat) (n:Nat) (es:List En):List En:=es.filterMap λe=>(aEo κ n e.1).map λk=>((k:Int),e.2)
section cof
variable {κ:Nat->Nat} {n:Nat}
theorem aAj {z:Int} {k:Nat} (h:aEo κ n z=some k):k<n/\((κ k:Nat):Int)=z:=by
 unfold aEo at h
 split at h
 ·next hh=>injection h with h;rw[<-h];exact hh.choose_spec
 cases h
theorem aSt (hm:∀k l,k<l->l<n->κ k<κ l) {k:Nat} (hk:k<n):aEo κ n ((κ k:Nat):Int)=some k:=by
 unfold aEo
 have hh:∃l,l<n/\((κ l:Nat):Int)=((κ k:Nat):Int):=⟨k,hk,rfl⟩
 rw[dif_pos hh]
 have h1:=hh.choose_spec
 refine congrArg some ?_
 rcases eP hh.choose k with h|h|h
 ·have:=hm _ _ h hk;omega
 ·exact h
 have:=hm _ _ h h1.1;omega
theorem aVa {z:Int} (h:∀k,k<n->((κ k:Nat):Int)≠z):aEo κ n z=none:=by
 unfold aEo
 rw[dif_neg λ⟨k,hk,hh⟩=>h k hk hh]
theorem aDy {es:List En} {e:En} (h:e∈iV κ n es):∃e'∈es,∃k,k<n/\((κ k:Nat):Int)=e'.1/\e=((k:Int),e'.2):=by
 unfold iV at h
 obtain⟨e',h1,h2⟩:=List.mem_filterMap.1 h
 cases hp:aEo κ n e'.1 with
 |none=>rw[hp] at h2;cases h2
 |some k=>
  rw[hp] at h2
  injection h2 with h2
  obtain⟨h3,h4⟩:=aAj hp
  exact⟨e',h1,k,h3,h4,h2.symm⟩
theorem aLu (hm:∀k l,k<l->l<n->κ k<κ l) {es:List En} (ha:Asc es):Asc (iV κ n es):=by
 unfold iV Asc
 refine List.pairwise_filterMap.2 (List.Pairwise.imp (λ{a b} hab x hx y hy=>?_) ha)
 cases hp:aEo κ n a.1 with
 |none=>rw[hp] at hx;cases hx
 |some k=>
  cases hp2:aEo κ n b.1 with
  |none=>rw[hp2] at hy;cases hy
  |some l=>
   rw[hp] at hx
   rw[hp2] at hy
   injection hx with hx
   injection hy with hy
   obtain⟨h1,h2⟩:=aAj hp
   obtain⟨h3,h4⟩:=aAj hp2
   rw[<-hx,<-hy]
   show(k:Int)<(l:Nat)
   rcases eP k l with h|h|h
   ·omega
   ·rw[h] at h2;omega
   have:=hm _ _ h h1;omega
theorem xG (hm:∀k l,k<l->l<n->κ k<κ l) {es:List En} {c:Int} (h:VOk es c):VOk (iV κ n es) (n:Nat):=⟨aLu hm h.1,λe he=>by
 obtain⟨e',h1,k,h2,h3,rfl⟩:=aDy he
 exact⟨by show(0:Int)<=(k:Nat);omega,by show(k:Int)<(n:Nat);omega,(h.2 e' h1).2.2⟩⟩
theorem rD (hm:∀k l,k<l->l<n->κ k<κ l) {es:List En} (ha:Asc es) {k:Nat} (hk:k<n):Vm.get (iV κ n es) (k:Nat)=Vm.get es (κ k:Nat):=by
 by_cases h:∃e∈es,e.1=((κ k:Nat):Int)
 ·obtain⟨e,h1,h2⟩:=h
  have h3:((k:Int),e.2)∈iV κ n es:=List.mem_filterMap.2 ⟨e,h1,by rw[h2,aSt hm hk];rfl⟩
  have h4:=sF (aLu hm ha) h3
  rw[show Vm.get (iV κ n es) (k:Nat)=_ from h4,<-h2,sF ha h1]
 rw[Vm.get_none (a:=es) λe he h2=>h ⟨e,he,h2⟩]
 refine Vm.get_none λe he h2=>h ?_
 obtain⟨e',h1,l,h3,h4,rfl⟩:=aDy he
 have:l=k:=by have:(l:Int)=(k:Nat):=h2;omega
 exact⟨e',h1,by rw[<-h4,this]⟩
theorem aIv {es:List En} {B:Nat} (h:rbE es B):rbE (iV κ n es) B:=λe he=>by
 obtain⟨e',h1,k,_,_,rfl⟩:=aDy he
 exact h e' h1
theorem aFl {es:List En} {t:Nat} (ht:t<es.length) (h:∀k,k<n->((κ k:Nat):Int)≠(es.getD t default).1):iV κ n (es.take (t+1))=iV κ n (es.take t):=by
 rw[aAd ht]
 unfold iV
 rw[List.filterMap_append,List.filterMap_cons,aVa h]
 simp
theorem aFm (hm:∀k l,k<l->l<n->κ k<κ l) {es:List En} {t k:Nat} (ht:t<es.length) (hk:k<n) (h:(es.getD t default).1=((κ k:Nat):Int)):iV κ n (es.take (t+1))=iV κ n (es.take t)++[((k:Int),(es.getD t default).2)]:=by
 rw[aAd ht]
 unfold iV
 rw[List.filterMap_append,List.filterMap_cons,h,aSt hm hk]
 rfl
end cof
abbrev mpF (b:Nat) (G:Nat->List CV):Fam:=⟨1000002,1,1,λ_=>some b,λ_=>0,G⟩
structure CofA (p:ProgM) (rs cs:Sl Int) (ρ κ:Nat->Nat):Prop where
 r:∀k,k<rs.l.length->rs.l.getD k 0=(ρ k:Nat)/\ρ k<p.r.l.length
 c:∀k,k<cs.l.length->cs.l.getD k 0=(κ k:Nat)/\κ k<p.c.l.length
 m:∀k l,k<l->l<cs.l.length->κ k<κ l
 rl:rs.l.length<=4096
 cl:cs.l.length<=4096
abbrev bVa (p:ProgM):BL:=[(42,0,p.C),(24,0,[iC 0,iC 0,.v (.slice none 0 0)])]
abbrev cfB (p:ProgM) (a b:Nat) (H:List CV):BL:=[(42,0,p.C),(24,0,[iC 0,iC 0,.v (.slice none 0 0)]),(65,1,H),(24,0,[iC a,iC b,.s 2 a])]
theorem aDz {p:ProgM} {a b:Nat} {P:Nat->CV} (h:∀j,j<a->fO (P j)=true):scB 4 (cfB p a b (eJ a P)):=aB rfl (aB rfl (aB (aR.2 λc hc=>sV (aZ h c hc)) (aB rfl aY)))
abbrev bVb (rs cs:Sl Int) (b k:Nat):List (Nat×DV):=[(20,.c (iC k)),(7,.c (.v (.map (some b)))),(18,.c (cM cs)),(19,.c (iC (cs.l.length:Nat))),(3,.c (.p 0 0)),(6,.c (.p 1 0)),(1,.c (cM rs)),(2,.c (cM cs))]
abbrev bJz (rs:Sl Int) (b k:Nat):List (Nat×DV):=[(39,.c (iC k)),(7,.c (.v (.map (some b)))),(37,.c (cM rs)),(38,.c (iC (rs.l.length:Nat))),(3,.c (.p 0 0)),(6,.c (.p 1 0)),(10,.c (.p 3 0))]
abbrev bKa (p:ProgM) (rs:Sl Int) (b k i t:Nat):List (Nat×DV):=(51,.c (iC t))::(11,.c (iC k))::(49,.c (cF (p.r.l.getD i default).e))::(50,.c (iC ((p.r.l.getD i default).e.l.length:Nat)))::bJz rs b k
theorem bKb {ys:List EntM} {rs:List En} {B:Nat} {e:EntM} {r:En} (h:Ev ys rs B) (h1:e.ix=r.1) (h2:Rq e.v r.2 B):Ev (ys++[e]) (rs++[r]) B:=⟨by simp[h.ln],λk hk=>by
 rw[aH,cU] at hk
 have hl:=h.ln
 rcases dS k rs.length with h3|h3
 ·have e1:(ys++[e]).getD k default=ys.getD k default:=by simp[bJ (show k<ys.length by omega)]
  have e2:(rs++[r]).getD k default=rs.getD k default:=by simp[bJ h3]
  rw[e1,e2];exact h.e k h3
 obtain rfl:k=rs.length:=by omega
 have e1:(ys++[e]).getD rs.length default=e:=by rw[<-hl];simp
 have e2:(rs++[r]).getD rs.length default=r:=by simp
 rw[e1,e2];exact⟨h1,h2⟩⟩
def cEi:Ord:=.treeX [] [2000,1,2002,2003,4,2005,2006,1007,2008,2009,10,2011] (trS [12,13,2014,1015])
abbrev bVc:FuncId:=56
theorem cKf:Ent Tryz.prog bVc:=aW func56 rfl kR
theorem cKg:Tryz.prog.funcs[bVc]? =some Tryz.f56:=func56
theorem bMp (p:ProgM) (rs cs:Sl Int) {q:PrQ} {B:Nat} {ρ κ:Nat->Nat} (h:PrV p q B) (hA:CofA p rs cs ρ κ):Ctr Tryz.prog bVc [] [.a p.C,.c (cM rs),.c (cM cs)] [] (λg:MatM=>⟨.a g.C,[],Mr g (λk=>iV κ cs.l.length (q.M (ρ k))) rs.l.length cs.l.length B⟩):=by
 have hrl:=hA.rl
 have hcl:=hA.cl
 refine aX gT cKf cKg rfl rfl rfl bL aS (aA gT mxd λb=>?_)
 refine cO (λ_=>true) (λg:Nat×(Nat->List CV)=>bVb rs cs b g.1) (λ_=>bVa p) (λg=>[mpF b g.2]) (λg=>g.1<=cs.l.length/\g.2 0=kvL κ (λk=>iC (k:Nat)) g.1) (λg=>cs.l.length-g.1) λhM=>⟨bS hM (chg:=λg:Nat×(Nat->List CV)=>bVb rs cs b g.1) (bls:=λ_=>bVa p) (fls:=λg=>[mpF b g.2]) (0,λ_=>[]) ⟨aC _,rfl⟩ rfl ⟨rfl,rfl⟩ ⟨rfl,trivial⟩ ⟨rfl,rfl,rfl,rfl,rfl,rfl,rfl,rfl⟩ bL (aB rfl (aB rfl aY)) rfl,λ⟨k,G⟩ ⟨hk,hG⟩=>aA gT mxd ⟨λh1=>aA gT mxd ?_,λh1=>aA gT mxd ?_⟩⟩
 all_goals
  replace hk:k<=cs.l.length:=hk
  replace hG:G 0=kvL κ (λk=>iC (k:Nat)) k:=hG
 ·replace h1:(k:Int)<(cs.l.length:Nat):=h1
  have hkn:k<cs.l.length:=by omega
  refine⟨k,⟨rfl,hkn⟩,0,0,κ k,⟨Nat.one_pos,rfl,(hA.c k hkn).1,λi c' h2 h3=>?_⟩,(k+1:Nat),wi,bS hM (chg:=λg:Nat×(Nat->List CV)=>bVb rs cs b g.1) (bls:=λ_=>bVa p) (fls:=λg=>[mpF b g.2]) (k+1,upd G 0 (G 0++[iC (κ k:Nat),iC (k:Nat)])) ⟨⟨hkn,?_⟩,show cs.l.length-(k+1)<cs.l.length-k by omega⟩ rfl ⟨rfl,rfl⟩ ⟨rfl,trivial⟩ ⟨rfl,rfl,rfl,rfl,rfl,rfl,rfl,rfl⟩ bL (aB rfl (aB rfl aY)) rfl⟩
  ·rw[show(mpF b G).get 0=kvL κ (λk=>iC (k:Nat)) k from hG] at h2 h3
   obtain⟨h4,h5,_⟩:=aAi h2 h3
   have:=hA.m i k h4 hkn
   omega
  show upd G 0 _ 0=_
  rw[bN,hG];rfl
 replace h1:¬(k:Int)<(cs.l.length:Nat):=h1
 obtain rfl:k=cs.l.length:=by omega
 refine aA gT mxd ⟨rs.l.length,⟨rfl,rfl,by show 24*_<=_;omega,by simp only[maxLen];omega⟩,?_⟩
 show Sd _ _ _ _ _ _
 refine bHe tSd 82 4 rs.l.length bL (gK tSd (l:=List.replicate rs.l.length (.v (.slice none 0 0))) 2 (eJ rs.l.length (hdP (λ_=>none) (λ_=>0) λ_=>[])) rfl (by rw[eC,dE]) (λk c c' h1 h2=>?_) ?_)
 ·have hk:k<rs.l.length:=by have:=dX h1;simpa using this
  have h3:=eZ (P:=hdP (λ_=>none) (λ_=>0) λ_=>[]) hk
  rw[bU,h2] at h3
  injection h3 with h3
  rw[h3,(gD.1 (aP h1)).2]
  exact LeC.nilh
 refine cO (λ_=>true) (λg:Nat×(Nat->Option Nat)×(Nat->Nat)×(Nat->List EntM)=>bJz rs b g.1) (λg=>cfB p rs.l.length cs.l.length (eJ rs.l.length (hdP g.2.1 g.2.2.1 g.2.2.2))) (λg=>[mpF b G,trF rs.l.length g.2.1 g.2.2.1 g.2.2.2]) (λg=>g.1<=rs.l.length/\(∀k,k<g.1->Ev (g.2.2.2 k) (iV κ cs.l.length (q.M (ρ k))) B)/\∀k,g.1<=k->g.2.2.2 k=[]) (λg=>rs.l.length-g.1) λhM=>⟨bS hM (chg:=λg:Nat×(Nat->Option Nat)×(Nat->Nat)×(Nat->List EntM)=>bJz rs b g.1) (bls:=λg=>cfB p rs.l.length cs.l.length (eJ rs.l.length (hdP g.2.1 g.2.2.1 g.2.2.2))) (fls:=λg=>[mpF b G,trF rs.l.length g.2.1 g.2.2.1 g.2.2.2]) (0,λ_=>none,λ_=>0,λ_=>[]) ⟨aC _,λk hk=>absurd hk (aD _),λ_ _=>rfl⟩ rfl ⟨rfl,rfl,rfl,rfl⟩ ⟨rfl,rfl,trivial⟩ ⟨rfl,rfl,rfl,rfl,rfl,rfl,rfl⟩ bL (aDz λ_ _=>rfl) rfl,λ⟨i,A,cap,S⟩ ⟨hi,hS,hS0⟩=>aA gT mxd ⟨λh2=>aA gT mxd ?_,λh2=>aA gT mxd ?_⟩⟩
 all_goals
  replace hi:i<=rs.l.length:=hi
  replace hS:∀k,k<i->Ev (S k) (iV κ cs.l.length (q.M (ρ k))) B:=hS
  replace hS0:∀k,i<=k->S k=[]:=hS0
 ·replace h2:(i:Int)<(rs.l.length:Nat):=h2
  have hia:i<rs.l.length:=by omega
  obtain⟨r1,r2⟩:=hA.r i hia
  have hrow:=h.rd.r _ r2
  have hv:=h.v _ r2
  have hlen:=h.len r2
  have hpc:=h.c
  have hle:=hrow.e.ln
  refine⟨i,⟨rfl,hia⟩,ρ i,⟨r1,r2⟩,?_⟩
  show Sd _ _ _ _ _ _
  refine cO (λ_=>true) (λg:Nat×(Nat->Option Nat)×(Nat->Nat)×(Nat->List EntM)=>bKa p rs b i (ρ i) g.1) (λg=>cfB p rs.l.length cs.l.length (eJ rs.l.length (hdP g.2.1 g.2.2.1 g.2.2.2))) (λg=>[mpF b G,trF rs.l.length g.2.1 g.2.2.1 g.2.2.2]) (λg=>g.1<=(q.M (ρ i)).length/\(∀k,k<i->Ev (g.2.2.2 k) (iV κ cs.l.length (q.M (ρ k))) B)/\Ev (g.2.2.2 i) (iV κ cs.l.length ((q.M (ρ i)).take g.1)) B/\∀k,i<k->g.2.2.2 k=[]) (λg=>(q.M (ρ i)).length-g.1) λhM2=>⟨bS hM2 (chg:=λg:Nat×(Nat->Option Nat)×(Nat->Nat)×(Nat->List EntM)=>bKa p rs b i (ρ i) g.1) (bls:=λg=>cfB p rs.l.length cs.l.length (eJ rs.l.length (hdP g.2.1 g.2.2.1 g.2.2.2))) (fls:=λg=>[mpF b G,trF rs.l.length g.2.1 g.2.2.1 g.2.2.2]) (0,A,cap,S) ⟨aC _,hS,by show Ev (S i) _ B;rw[hS0 i (aJ i)];exact⟨rfl,λk hk=>absurd hk (aD _)⟩,λk hk=>hS0 k (fG hk)⟩ rfl ⟨rfl,rfl,rfl,rfl⟩ ⟨rfl,rfl,trivial⟩ ⟨rfl,rfl,rfl,rfl,rfl,rfl,rfl,rfl,rfl,rfl,rfl⟩ bL (aDz λ_ _=>rfl) rfl,λ⟨t,A,cap,S⟩ ⟨ht,hS,hSi,hS0⟩=>aA gT mxd ⟨λh3=>aA gT mxd ?_,λh3=>aA gT mxd ?_⟩⟩
  all_goals
   replace ht:t<=(q.M (ρ i)).length:=ht
   replace hS:∀k,k<i->Ev (S k) (iV κ cs.l.length (q.M (ρ k))) B:=hS
   replace hSi:Ev (S i) (iV κ cs.l.length ((q.M (ρ i)).take t)) B:=hSi
   replace hS0:∀k,i<k->S k=[]:=hS0
  ·replace h3:(t:Int)<((p.r.l.getD (ρ i) default).e.l.length:Nat):=h3
   have htl:t<(q.M (ρ i)).length:=by omega
   have hte:t<(p.r.l.getD (ρ i) default).e.l.length:=by omega
   have he:=hrow.e.e t htl
   refine⟨t,⟨rfl,hte⟩,0,0,⟨Nat.one_pos,rfl⟩,λj c' h4 h5=>?_,λh4=>?_⟩
   ·rw[show(mpF b G).get 0=kvL κ (λk=>iC (k:Nat)) cs.l.length from hG] at h4 h5
    obtain⟨hj,hz,hc'⟩:=aAi h4 h5
    subst hc'
    have hcf:=aFm hA.m htl hj (he.1.symm.trans hz)
    have hci2:(eJ rs.l.length (hdP A cap S))[i*1]? =some (.h (A i) (S i).length (cap i)):=eZ hia
    have hSl:=hSi.ln
    have hcl2:(iV κ cs.l.length ((q.M (ρ i)).take t)).length<=t:=aG (tF _ _) (by rw[bA];omega)
    have hcx:∀c'∈(⟨j,((p.r.l.getD (ρ i) default).e.l.getD t default).v⟩:EntM).C,fO c'=true:=λc' hc'=>by
     rcases bR.1 hc' with rfl|hc'
     ·rfl
     exact oB _ c' hc'
    refine⟨cEi,by kernel_rfl,i,⟨rfl,hia,dD hia⟩,_,_,⟨hci2,rfl⟩,ck rfl (ck rfl (ck rfl (ck (congrArg sU hci2) (ck rfl (ck rfl rfl))))),1,i,⟨rfl,hia,rfl,rfl,(gZ _).symm,by show(S i).length+1<=maxLen;simp only[maxLen];omega,by show((S i).length+1)*64<=_;omega,hcx⟩,λA' c'=>⟨ck rfl (ck rfl (ck rfl (ck (congrArg sU hci2) (ck rfl (ck rfl rfl))))),i,⟨rfl,hia,dD hia⟩,_,aAc (e:=⟨j,((p.r.l.getD (ρ i) default).e.l.getD t default).v⟩) hia,?_⟩⟩
    refine⟨(t+1:Nat),wi,bS hM2 (chg:=λg:Nat×(Nat->Option Nat)×(Nat->Nat)×(Nat->List EntM)=>bKa p rs b i (ρ i) g.1) (bls:=λg=>cfB p rs.l.length cs.l.length (eJ rs.l.length (hdP g.2.1 g.2.2.1 g.2.2.2))) (fls:=λg=>[mpF b G,trF rs.l.length g.2.1 g.2.2.1 g.2.2.2]) (t+1,upd A i A',upd cap i c',upd S i (S i++[(⟨(j:Nat),((p.r.l.getD (ρ i) default).e.l.getD t default).v⟩:EntM)])) ⟨⟨htl,λk hk=>?_,?_,λk hk=>?_⟩,show(q.M (ρ i)).length-(t+1)<(q.M (ρ i)).length-t by omega⟩ rfl ⟨rfl,rfl,rfl,rfl⟩ ⟨rfl,aBm (T:=82) (n:=rs.l.length) (A:=upd A i A') (cap:=upd cap i c') (G:=S) (j:=i) (e:=⟨j,((p.r.l.getD (ρ i) default).e.l.getD t default).v⟩),trivial⟩ ⟨rfl,rfl,rfl,rfl,rfl,rfl,rfl,rfl,rfl,rfl,rfl⟩ bL (aDz λ_ _=>rfl) rfl⟩
    ·show Ev (upd S i _ k) _ B
     rw[bD oM];exact hS k hk
    ·show Ev (upd S i _ i) (iV κ cs.l.length ((q.M (ρ i)).take (t+1))) B
     rw[bN,hcf];exact bKb hSi rfl he.2
    show upd S i _ k=[]
    rw[bD oM];exact hS0 k hk
   have hno:∀k,k<cs.l.length->((κ k:Nat):Int)≠((q.M (ρ i)).getD t default).1:=λk hk e=>by
    rw[show(mpF b G).get 0=kvL κ (λk=>iC (k:Nat)) cs.l.length from hG] at h4
    have h5:=aDx (x:=κ) (V:=λk=>iC (k:Nat)) hk
    exact h4 k _ (h5.1.trans (congrArg (λz=>some (iC z)) (e.trans he.1.symm))) h5.2
   refine⟨(t+1:Nat),wi,bS hM2 (chg:=λg:Nat×(Nat->Option Nat)×(Nat->Nat)×(Nat->List EntM)=>bKa p rs b i (ρ i) g.1) (bls:=λg=>cfB p rs.l.length cs.l.length (eJ rs.l.length (hdP g.2.1 g.2.2.1 g.2.2.2))) (fls:=λg=>[mpF b G,trF rs.l.length g.2.1 g.2.2.1 g.2.2.2]) (t+1,A,cap,S) ⟨⟨htl,hS,?_,hS0⟩,show(q.M (ρ i)).length-(t+1)<(q.M (ρ i)).length-t by omega⟩ rfl ⟨rfl,rfl,rfl,rfl⟩ ⟨rfl,rfl,trivial⟩ ⟨rfl,rfl,rfl,rfl,rfl,rfl,rfl,rfl,rfl,rfl,rfl⟩ bL (aDz λ_ _=>rfl) rfl⟩
   show Ev (S i) (iV κ cs.l.length ((q.M (ρ i)).take (t+1))) B
   rw[aFl htl hno];exact hSi
  replace h3:¬(t:Int)<((p.r.l.getD (ρ i) default).e.l.length:Nat):=h3
  obtain rfl:t=(q.M (ρ i)).length:=by omega
  rw[cZ] at hSi
  exact⟨(i+1:Nat),wi,bS hM (chg:=λg:Nat×(Nat->Option Nat)×(Nat->Nat)×(Nat->List EntM)=>bJz rs b g.1) (bls:=λg=>cfB p rs.l.length cs.l.length (eJ rs.l.length (hdP g.2.1 g.2.2.1 g.2.2.2))) (fls:=λg=>[mpF b G,trF rs.l.length g.2.1 g.2.2.1 g.2.2.2]) (i+1,A,cap,S) ⟨⟨hia,λk hk=>(cX (dJ hk)).elim (hS k) λe=>e▸hSi,hS0⟩,show rs.l.length-(i+1)<rs.l.length-i by omega⟩ rfl ⟨rfl,rfl,rfl,rfl⟩ ⟨rfl,rfl,trivial⟩ ⟨rfl,rfl,rfl,rfl,rfl,rfl,rfl⟩ bL (aDz λ_ _=>rfl) rfl⟩
 replace h2:¬(i:Int)<(rs.l.length:Nat):=h2
 obtain rfl:i=rs.l.length:=by omega
 have hlen:∀k,k<rs.l.length->(iV κ cs.l.length (q.M (ρ k))).length<=cs.l.length:=λk hk=>jY (xG hA.m (h.v _ (hA.r k hk).2).2)
 show Sd _ _ _ _ _ _
 refine lI tSd 2 1 (eJ rs.l.length λj=>cF (hdS A cap S j)) rfl rfl rfl (by rw[eC,eC]) (aOq bLy) ?_
 refine mU tSd 2 rfl bL (aZ λ_ _=>rfl) bL rfl λA2 c2=>?_
 refine lI tSd 3 2 [iC rs.l.length,iC cs.l.length,mV ⟨A2.map λb=>⟨b,0,none⟩,c2,lJ (hdS A cap S) rs.l.length⟩] rfl rfl rfl rfl (wB (k0:=2) rfl xF) (aA gT mxd ⟨⟨rs.l.length,cs.l.length,⟨A2.map λb=>⟨b,0,none⟩,c2,lJ (hdS A cap S) rs.l.length⟩⟩,⟨rfl,rfl,nU,λj hj=>?_,λj hj=>⟨xG hA.m (h.v _ (hA.r j hj).2).2,hlen j hj⟩⟩,aM rfl rfl trivial⟩)
 show Ev ((lJ (hdS A cap S) rs.l.length).getD j cP).l _ B
 rw[qY hj]
 exact hS j hj
inductive KpS where
 |z
 |o (b:BasM)
 |i (x:Sl Int)
 |t (x:Sl Int)
def KpS.B:KpS->BL
 |.z=>[]
 |.o b=>[(45,0,[cM b.c,cM b.r])]
 |.i x=>[(38,0,[cM x])]
 |.t x=>[(101,0,[.f 129 [] [(1,0)]]),(38,0,[cM x])]
def KpS.V:KpS->FuncId->DV
 |.z,q=> .c (.f q [] [])
 |.o _,q=> .c (.f q [] [(0,0)])
 |.i _,q=> .c (.f q [] [(0,0)])
 |.t _,q=> .c (.f q [] [(0,0)])
def KpS.A:KpS->List DV
 |.z=>[]
 |.o _=>[.c (.p 0 0)]
 |.i _=>[.c (.p 0 0)]
 |.t _=>[.c (.p 0 0)]
def KpS.m:KpS->List Nat
 |.z=>[]
 |.o _=>[0]
 |.i _=>[0]
 |.t _=>[0,1]
def KpS.cl:KpS->List Bool
 |.z=>[]
 |.o _=>[true]
 |.i _=>[true]
 |.t _=>[false,true]
def cKh (own:Bool) (y:KpS) (L:List Int) (g:Sl Int):Out:=match own with
 |true=>⟨.c (.s y.B.length L.length),y.B++[(3,1,L.map iC)],g=g⟩
 |false=>⟨.c (cM g),y.B,g.l=L⟩
abbrev aLv:FuncId:=53
theorem cKi:Ent Tryz.prog aLv:=aW func53 rfl kR
theorem cKj:Tryz.prog.funcs[aLv]? =some Tryz.f53:=func53
theorem bMq (own:Bool) (y:KpS) (q:FuncId) (n:Nat) (P:Nat->Prop) [DecidablePred P] (hn:n<=4096) (hq:∀i,i<n->Ctr Tryz.prog q y.cl (.c (iC (i:Nat))::y.A) y.B (λ_:Unit=>⟨pC (P i),y.B,True⟩)):Ctr Tryz.prog aLv y.cl [.c (iC n),y.V q] y.B (cKh own y (fJ P n)):=by
 have sc:∀L:List Int,scB (y.B.length+1) (y.B++[(3,1,L.map iC)]):=λL=>by
  cases y with
  |z=>exact aB (bT (cJ _)) aY
  |o b=>exact aB rfl (aB (bT (cJ _)) aY)
  |i x=>exact aB rfl (aB (bT (cJ _)) aY)
  |t x=>exact aB rfl (aB rfl (aB (bT (cJ _)) aY))
 have sc0:scB y.B.length y.B:=by
  cases y with
  |z=>exact aY
  |o b=>exact aB rfl aY
  |i x=>exact aB rfl aY
  |t x=>exact aB rfl (aB rfl aY)
 have hcl:ClB y.cl y.B:=by
  cases y with
  |z=>exact λi T es l hi=>by cases hi
  |o b=>exact eI rfl
  |i x=>exact eI rfl
  |t x=>exact ClB.cons (λh=>by cases h) (eI rfl)
 have hcl2:∀L:List Int,ClB y.cl (y.B++[(3,1,L.map iC)]):=λL=>by
  cases y with
  |z=>exact λi T es l _ hc=>by cases hc
  |o b=>exact ClB.cons (λ_=>rfl) λi T es l _ hc=>by cases hc
  |i x=>exact ClB.cons (λ_=>rfl) λi T es l _ hc=>by cases hc
  |t x=>exact ClB.cons (λh=>by cases h) (ClB.cons (λ_=>rfl) λi T es l _ hc=>by cases hc)
 let w:KpS:=y
 cases y
 all_goals
  refine aX gT cKi cKj rfl rfl rfl bL hcl (aA gT mxd (bOv 5 3 1 rfl bL (aA gT mxd ?_)))
  refine cO (λ_=>true) (λk:Nat=>[(8,.c (iC k)),(5,.c (.s w.B.length (fJ P k).length)),(7,.c (iC n)),(1,w.V q)]) (λk=>w.B++[(3,1,(fJ P k).map iC)]) (λ_=>[]) (λk=>k<=n) (λk=>n-k) λhM=>⟨bS hM (chg:=λk:Nat=>[(8,.c (iC k)),(5,.c (.s w.B.length (fJ P k).length)),(7,.c (iC n)),(1,w.V q)]) (bls:=λk=>w.B++[(3,1,(fJ P k).map iC)]) (fls:=λ_=>[]) 0 (aC _) rfl ?_ trivial ⟨rfl,rfl,rfl,rfl⟩ bL (sc _) rfl,λk hk=>aA gT mxd ⟨λh1=>aA gT mxd ?_,λh1=>aA gT mxd ?_⟩⟩
  ·first|exact rfl|exact⟨rfl,rfl⟩|exact⟨rfl,rfl,rfl⟩
  ·replace h1:(k:Int)<(n:Nat):=h1
   have hkn:k<n:=by omega
   have hsl:=qZ (P:=P) k
   have yes:P k->fJ P (k+1)=fJ P k++[(k:Int)]:=wH
   first
    |refine⟨[],hq k hkn,rfl,rfl,rfl,λ_ _=>⟨λh4=>aA gT mxd ?_,λh4=>aA gT mxd ?_⟩⟩
    |refine⟨_,rfl,w.m,hq k hkn,rfl,rfl,rfl,λ_ _=>⟨λh4=>aA gT mxd ?_,λh4=>aA gT mxd ?_⟩⟩
   ·have ap:=apI (x:=fJ P k) (z:=(k:Nat)) (i:=w.B.length) oM
    refine⟨ap,(λc hc=>by rw[aI.1 hc];rfl),(k+1:Nat),wi,bS hM (chg:=λk:Nat=>[(8,.c (iC k)),(5,.c (.s w.B.length (fJ P k).length)),(7,.c (iC n)),(1,w.V q)]) (bls:=λk=>w.B++[(3,1,(fJ P k).map iC)]) (fls:=λ_=>[]) (k+1) ⟨hkn,show n-(k+1)<n-k by omega⟩ rfl ?_ trivial ⟨rfl,?_,rfl,rfl⟩ bL (sc _) rfl⟩
    ·have e:((3,1,(fJ P k).map iC++[iC (k:Nat)]):TypeId×Nat×List CV)=(3,1,(fJ P (k+1)).map iC):=by rw[yes h4,cH];rfl
     first|exact e|exact⟨rfl,e⟩|exact⟨rfl,rfl,e⟩
    show(fJ P k).length+1=(fJ P (k+1)).length
    rw[yes h4,aH];rfl
   refine⟨(k+1:Nat),wi,bS hM (chg:=λk:Nat=>[(8,.c (iC k)),(5,.c (.s w.B.length (fJ P k).length)),(7,.c (iC n)),(1,w.V q)]) (bls:=λk=>w.B++[(3,1,(fJ P k).map iC)]) (fls:=λ_=>[]) (k+1) ⟨hkn,show n-(k+1)<n-k by omega⟩ rfl ?_ trivial ⟨rfl,?_,rfl,rfl⟩ bL (sc _) rfl⟩
   ·have e:((3,1,(fJ P k).map iC):TypeId×Nat×List CV)=(3,1,(fJ P (k+1)).map iC):=by rw[sJ h4]
    first|exact e|exact⟨rfl,e⟩|exact⟨rfl,rfl,e⟩
   show(fJ P k).length=(fJ P (k+1)).length
   rw[sJ h4]
  replace h1:¬(k:Int)<(n:Nat):=h1
  obtain rfl:k=n:=by omega
  cases own
  ·refine yR 5 w.B.length (λj=>[iC ((fJ P k).getD j 0)]) rfl rfl (λj hj=>qT j hj) (by rw[aU,bU]) bL (cJ _) (aJ _) λA c _ _=>aA gT mxd ⟨⟨A,c,fJ P k⟩,rfl,fB rfl (by first|exact rfl|exact⟨rfl,rfl⟩|exact trivial) (aJ _) sc0 rfl hcl⟩
  exact aA gT mxd ⟨cP,rfl,fB rfl (by first|exact rfl|exact⟨rfl,rfl⟩|exact⟨rfl,rfl,rfl⟩) (by first|exact bL|exact aC _) (sc _) rfl (hcl2 _)⟩
theorem bMr (y:KpS) (q:FuncId) (n:Nat) (P:Nat->Prop) [DecidablePred P] (hn:n<=4096) (hq:∀i,i<n->Ctr Tryz.prog q y.cl (.c (iC (i:Nat))::y.A) y.B (λ_:Unit=>⟨pC (P i),y.B,True⟩)):Ctr Tryz.prog aLv y.cl [.c (iC n),y.V q] y.B (λ_:Unit=>⟨.c (.s y.B.length (fJ P n).length),y.B++[(3,1,(fJ P n).map iC)],True⟩):=(bMq true y q n P hn hq).re λg hg=>⟨(),trivial,rfl,rfl,rfl⟩
theorem bMs (y:KpS) (q:FuncId) (n:Nat) (P:Nat->Prop) [DecidablePred P] (hn:n<=4096) (hq:∀i,i<n->Ctr Tryz.prog q y.cl (.c (iC (i:Nat))::y.A) y.B (λ_:Unit=>⟨pC (P i),y.B,True⟩)):Ctr Tryz.prog aLv y.cl [.c (iC n),y.V q] y.B (λg:Sl Int=>⟨.c (cM g),y.B,g.l=fJ P n⟩):=(bMq false y q n P hn hq).re λg hg=>⟨g,hg,rfl,rfl,rfl⟩
/-! ### the functions -/
abbrev aSu:FuncId:=54
theorem cEj:Ent Tryz.prog aSu:=aW func54 rfl kR
theorem cEk:Tryz.prog.funcs[aSu]? =some Tryz.f54:=func54
theorem bVd (i:Int):Ctr Tryz.prog aSu [] [.c (iC i)] [] (λ_:Unit=>⟨pC True,[],True⟩):=
 aX gT cEj cEk rfl rfl rfl bL aS (aA gT mxd ⟨(),trivial,aM (tt trivial) rfl trivial⟩)
abbrev aLw:FuncId:=55
theorem cEl:Ent Tryz.prog aLw:=aW func55 rfl kR
theorem cEm:Tryz.prog.funcs[aLw]? =some Tryz.f55:=func55
theorem bVe (b:BasM) (i:Nat) (hi:i<b.c.l.length):Ctr Tryz.prog aLw [true] [.c (iC i),.c (.p 0 0)] [(45,0,[cM b.c,cM b.r])] (λ_:Unit=>⟨pC (b.c.l.getD i 0=2),[(45,0,[cM b.c,cM b.r])],True⟩):=
 aX gT cEl cEm rfl rfl rfl bL (eI rfl) (aA gT mxd ⟨i,⟨rfl,hi⟩,(),trivial,fB mS rfl bL (aB rfl aY) rfl (eI rfl)⟩)
def rE (x:Sl Int) (i:Nat):Prop:=i<x.l.length/\x.l.getD i 0=2
abbrev aFn:FuncId:=129
theorem cEn:Ent Tryz.prog aFn:=aW func129 rfl kR
theorem cEo:Tryz.prog.funcs[aFn]? =some Tryz.f129:=func129
theorem bDt (x:Sl Int) (i:Nat):Ctr Tryz.prog aFn [true] [.c (iC i),.c (.p 0 0)] [(38,0,[cM x])] (λ_:Unit=>⟨pC (rE x i),[(38,0,[cM x])],True⟩):=
 aX gT cEn cEo rfl rfl rfl bL (eI rfl) (aA gT mxd ⟨i,λh=>⟨rfl,by replace h:(i:Int)<(x.l.length:Nat):=h;omega⟩,(),trivial,fB ⟨λh=>⟨by have h1:(i:Int)<(x.l.length:Nat):=h.1;omega,h.2⟩,λh=>⟨by show(i:Int)<(x.l.length:Nat);have:=h.1;omega,h.2⟩⟩ rfl bL (aB rfl aY) rfl (eI rfl)⟩)
abbrev aLx:FuncId:=130
theorem cEp:Ent Tryz.prog aLx:=aW func130 rfl kR
theorem cEq:Tryz.prog.funcs[aLx]? =some Tryz.f130:=func130
theorem bVf (x:Sl Int) (i:Nat):Ctr Tryz.prog aLx [false,true] [.c (iC i),.c (.p 0 0)] (KpS.t x).B (λ_:Unit=>⟨pC (¬rE x i),(KpS.t x).B,True⟩):=
 aX gT cEp cEq rfl rfl rfl bL (ClB.cons (λh=>by cases h) (eI rfl)) (aA gT mxd ⟨_,rfl,[1],bDt x i,rfl,rfl,rfl,λ_ _=>⟨(),trivial,fB mS ⟨rfl,rfl⟩ bL (aB rfl (aB rfl aY)) rfl (ClB.cons (λh=>by cases h) (eI rfl))⟩⟩)
def lK (P:Nat->Prop) [DecidablePred P]:Nat->Nat
 |0=>0
 |n+1=>lK P n+if P n then 1 else 0
section cnt
variable {P Q:Nat->Prop} [DecidablePred P] [DecidablePred Q]
theorem aIw:∀n,lK P n<=n
 |0=>aJ _
 |n+1=>by
  have:=aIw n
  show lK P n+_<=_
  split<;>omega
theorem aFo (h:∀i,¬P i):∀n,lK P n=0
 |0=>rfl
 |n+1=>by
  show lK P n+_=0
  rw[aFo h n,if_neg (h n)]
theorem aLy (h:∀i,P i->Q i):∀n,lK P n<=lK Q n
 |0=>aJ _
 |n+1=>by
  have:=aLy h n
  show lK P n+_<=lK Q n+_
  by_cases hp:P n
  ·rw[if_pos hp,if_pos (h n hp)];omega
  rw[if_neg hp];omega
theorem aAk {m:Nat}:∀{n:Nat},m<=n->lK P m<=lK P n
 |0,h=>by rw[Nat.le_zero.1 h];exact aJ _
 |n+1,h=>by
  rcases cX h with h|rfl
  ·exact aG (aAk (dJ h)) (tU _ _)
  exact aJ _
theorem aIx {m n:Nat} (hm:m<n) (h:P m):lK P m<lK P n:=by
 have h1:=aAk (P:=P) (m:=m+1) (n:=n) hm
 have h2:lK P (m+1)=lK P m+1:=by show lK P m+_=_;rw[if_pos h]
 omega
end cnt
section rk
variable (s:Nat->Nat)
theorem tT (x:Nat):∀n,lK (λk=>s k<x) n+lK (λk=>s k=x) n=lK (λk=>s k<x+1) n
 |0=>rfl
 |n+1=>by
  have:=tT x n
  show(lK _ n+_)+(lK _ n+_)=lK _ n+_
  rcases eP (s n) x with h|h|h
  ·rw[if_pos h,if_neg oM,if_pos oM];omega
  ·rw[if_neg oM,if_pos h,if_pos oM];omega
  rw[if_neg oM,if_neg oM,if_neg oM];omega
def rkN (a i:Nat):Nat:=lK (λk=>s k<s i) a+lK (λk=>s k=s i) i
theorem bDu {a i:Nat} (hi:i<a):rkN s a i<a:=by
 have h1:=aIx (P:=λk=>s k=s i) hi rfl
 have h2:=tT s (s i) a
 have h3:=aIw (P:=λk=>s k<s i+1) a
 unfold rkN;omega
theorem aIy {a i j:Nat} (hj:j<a) (hi:i<a) (h:s i<s j\/(s i=s j/\i<j)):rkN s a i<rkN s a j:=by
 rcases h with h|⟨h,h2⟩
 ·have h1:=aIx (P:=λk=>s k=s i) hi rfl
  have h2:=tT s (s i) a
  have h3:=aLy (P:=λk=>s k<s i+1) (Q:=λk=>s k<s j) (λk hk=>by omega) a
  unfold rkN;omega
 have h1:=aIx (P:=λk=>s k=s i) h2 rfl
 unfold rkN
 rw[<-h];omega
theorem aSv {a i j:Nat} (hi:i<a) (hj:j<a) (h:rkN s a i=rkN s a j):i=j:=by
 rcases eP (s i) (s j) with h1|h1|h1
 ·have:=aIy s hj hi (.inl h1);omega
 ·rcases eP i j with h2|h2|h2
  ·have:=aIy s hj hi (.inr ⟨h1,h2⟩);omega
  ·exact h2
  have:=aIy s hi hj (.inr ⟨h1.symm,h2⟩);omega
 have:=aIy s hi hj (.inl h1);omega
theorem bVg (a:Nat):PmL (nL a (rkN s a)) a:=by
 have e:∀i,i<a->(nL a (rkN s a)).getD i 0=(rkN s a i:Nat):=λi hi=>by unfold nL;simp[hi]
 exact⟨by unfold nL;simp,λi hi=>⟨rkN s a i,e i hi,bDu s hi⟩,λi j hi hj h=>by
  rw[e i hi,e j hj] at h
  exact aSv s hi hj oM⟩
end rk
def f1N (s:Nat->Nat) (i:Nat):Nat->Nat
 |0=>0
 |x+1=>lK (λk=>s k=x) i
def f2N (s:Nat->Nat) (a k x:Nat):Nat:=if x<=k then lK (λl=>s l<x) a else f1N s a x
def f3N (s:Nat->Nat) (a i x:Nat):Nat:=lK (λl=>s l<x) a+lK (λl=>s l=x) i
abbrev iR (n:Nat) (f:Nat->Nat):List CV:=eJ n λj=>iC (f j:Nat)
theorem xX {n:Nat} {f:Nat->Nat}:∀c∈iR n f,fO c=true:=aZ λ_ _=>rfl
abbrev aPt (m:MatM) (b:Nat) (f:Nat->Nat):BL:=[(24,0,m.C),(3,1,iR (b+2) f)]
abbrev bKc (m:MatM) (a b:Nat) (f r:Nat->Nat):BL:=[(24,0,m.C),(3,1,iR (b+2) f),(3,1,iR a r)]
theorem aIz {m:MatM} {b:Nat} {f:Nat->Nat}:scB 2 (aPt m b f):=aB rfl (aB (bT xX) aY)
theorem bDv {m:MatM} {a b:Nat} {f r:Nat->Nat}:scB 3 (bKc m a b f r):=aB rfl (aB (bT xX) (aB (bT xX) aY))
abbrev bVh (m:MatM) (b i:Nat):List (Nat×DV):=[(21,.c (iC i)),(1,.c (.p 0 0)),(3,.c (.s 1 (b+2))),(19,.c (mV m.d)),(20,.c (iC (m.d.l.length:Nat)))]
abbrev bVi (b k:Nat):List (Nat×DV):=[(37,.c (iC k)),(1,.c (.p 0 0)),(3,.c (.s 1 (b+2))),(36,.c (iC (b+1:Nat)))]
abbrev bVj (m:MatM) (a b i:Nat):List (Nat×DV):=[(58,.c (iC i)),(1,.c (.p 0 0)),(3,.c (.s 1 (b+2))),(7,.c (.s 2 a)),(56,.c (mV m.d)),(57,.c (iC (m.d.l.length:Nat)))]
theorem aJa {n j v:Nat} {f g:Nat->Nat} (h:j<n) (hg:∀i,i<n->g i=if i=j then v else f i):lE (iR n f) (j*1) [iC (v:Nat)]=iR n g/\j*1+1<=(iR n f).length:=iF h λi hi=>by
 rw[hg i hi]
 by_cases e:i=j
 ·rw[if_pos e,if_pos e]
 rw[if_neg e,if_neg e]
theorem wiN {z:Int} {n:Nat} (h:z=(n:Nat)) (hn:n<=9223372036854775807):(n:Int)=IntKind.i64.wrap z:=by
 rw[h]
 exact wi (h:=⟨rfl,by omega,by omega⟩)
theorem ziR {n:Nat} {f:Nat->Nat} {T:Nat} (h:∀x,x<n->f x=0):((T,1,List.replicate n (iC 0)):TypeId×Nat×List CV)=(T,1,iR n f):=by
 rw[zD]
 exact congrArg (λl=>((T,1,l):TypeId×Nat×List CV)) (mK λx hx=>by rw[h x hx];rfl)
def rIN (s:Nat->Nat) (a i j:Nat):Nat:=if j<i then rkN s a j else 0
structure SpF (M:Nat->List En) (a b:Nat) (d:Sl (Sl EntM)) (rs:Nat->List En) (rk:Nat->Nat):Prop where
 ln:d.l.length=b
 row:∀j,j<b->Ek (d.l.getD j cP).l (rs j)
 ok:∀j,j<b->VOk (rs j) (a:Nat)
 lt:∀i,i<a->rk i<a
 inj:∀i j,i<a->j<a->rk i=rk j->i=j
 get:∀i j,i<a->j<b->Vm.get (rs j) (rk i:Nat)=Vm.get (M i) (j:Nat)
 rb:∀B,1<=B->rbM M a B->∀j,j<b->rbE (rs j) B
abbrev bVk (a b:Nat) (P:Sl Int) (k:Nat):List (Nat×DV):=[(87,.c (iC k)),(85,.c (.s 3 b)),(86,.c (iC b)),(7,.c (cM P)),(10,.c (.p 4 0))]
abbrev bKd (m:MatM) (a b:Nat) (f:Nat->Nat) (Y:Nat->Sl EntM):BL:=[(24,0,m.C),(3,1,iR (b+2) f),(3,1,[]),(65,1,eJ b λj=>cF (Y j)),(24,0,[iC b,iC a,.s 3 b])]
theorem bDw {m:MatM} {a b:Nat} {f:Nat->Nat} {Y:Nat->Sl EntM}:scB 5 (bKd m a b f Y):=aB rfl (aB (bT xX) (aB rfl (aB (bT (aZ λ_ _=>rfl)) (aB rfl aY))))
abbrev bVl:FuncId:=126
theorem cKk:Ent Tryz.prog bVl:=aW func126 rfl kR
theorem cKl:Tryz.prog.funcs[bVl]? =some Tryz.f126:=func126
theorem cEr (m:MatM) {M:Nat->List En} {a b B:Nat} (h:Mr m M a b B) (hb:rbM M a B) (h1:1<=B) (hB:B<=4398046511104) (ha:a<=12) (hbn:b<=4096):Ctr Tryz.prog bVl [] [.a m.C] [] (λg:Sl (Sl EntM)×(Nat->List En)×(Nat->Nat)=>⟨.c (mV g.1),[],SpF M a b g.1 g.2.1 g.2.2⟩):=by
 obtain⟨mr,mc,md⟩:=m
 obtain rfl:mr=(a:Nat):=h.r
 obtain rfl:mc=(b:Nat):=h.c
 have hl:md.l.length=a:=h.ln
 obtain⟨s,hs⟩:∃s:Nat->Nat,s=λi=>(M i).length:=⟨_,rfl⟩
 have hsz:∀i,i<a->(md.l.getD i cP).l.length=s i:=λi hi=>by rw[hs];exact(h.row i hi).ln
 have hsb:∀i,i<a->s i<=b:=λi hi=>by rw[hs];exact(h.ok i hi).2
 have hcn:∀(P:Nat->Prop) [DecidablePred P] (i:Nat),i<=a->lK P i<=12:=λP _ i hi=>aG (aIw i) oM
 refine aX gT cKk cKl rfl rfl rfl bL aS (aA gT mxd ⟨(b:Int)+2,wi (h:=⟨rfl,by show _<=(b:Int)+2;omega,by show(b:Int)+2<=_;omega⟩),b+2,⟨by show(b:Int)+2=(b+2:Nat);omega,by show(b:Int)+2=(b+2:Nat);omega,by show 8*_<=_;omega,by simp only[maxLen];omega⟩,?_⟩)
 refine cO (λ_=>true) (λi:Nat=>bVh ⟨a,b,md⟩ b i) (λi=>aPt ⟨a,b,md⟩ b (f1N s i)) (λ_=>[]) (λi=>i<=a) (λi=>a-i) λhM=>⟨bS hM (chg:=λi:Nat=>bVh ⟨a,b,md⟩ b i) (bls:=λi=>aPt ⟨a,b,md⟩ b (f1N s i)) (fls:=λ_=>[]) 0 (aC _) rfl ⟨rfl,?_⟩ trivial ⟨rfl,rfl,rfl,rfl,rfl⟩ bL aIz rfl,λi hi=>aA gT mxd ⟨λh2=>aA gT mxd ?_,λh2=>aA gT mxd ?_⟩⟩
 ·refine ziR λx hx=>?_
  cases x<;>rfl
 ·replace h2:(i:Int)<(md.l.length:Nat):=h2
  have hia:i<a:=by omega
  have hsi:=hsb i hia
  have hsz':=hsz i hia
  have ix:s i+1<b+2:=by omega
  have c1:=hcn (λk=>s k=s i) i hi
  refine⟨i,⟨rfl,show i<md.l.length by omega⟩,(s i+1:Nat),wiN (by show(((md.l.getD i cP).l.length:Nat):Int)+1=_;rw[hsz'];rfl) oM,s i+1,⟨rfl,ix,dD ix⟩,_,eZ ix,(f1N s i (s i+1)+1:Nat),wiN rfl (by show lK (λk=>s k=s i) i+1<=_;omega),s i+1,⟨rfl,ix,dD ix⟩,_,aJa (v:=f1N s i (s i+1)+1) (g:=f1N s (i+1)) ix (λx hx=>?_),(i+1:Nat),wi,bS hM (chg:=λi:Nat=>bVh ⟨a,b,md⟩ b i) (bls:=λi=>aPt ⟨a,b,md⟩ b (f1N s i)) (fls:=λ_=>[]) (i+1) ⟨hia,show a-(i+1)<a-i by omega⟩ rfl ⟨rfl,rfl⟩ trivial ⟨rfl,rfl,rfl,rfl,rfl⟩ bL aIz rfl⟩
  cases x with
  |zero=>rw[if_neg oM];rfl
  |succ x=>
   show lK (λk=>s k=x) i+(if s i=x then 1 else 0)=_
   by_cases e:s i=x
   ·rw[if_pos e,if_pos oM,e];rfl
   rw[if_neg e,if_neg oM];rfl
 replace h2:¬(i:Int)<(md.l.length:Nat):=h2
 obtain rfl:i=a:=by omega
 refine aA gT mxd ⟨(b+1:Nat),wiN rfl oM,?_⟩
 refine cO (λ_=>true) (λk:Nat=>bVi b k) (λk=>aPt ⟨i,b,md⟩ b (f2N s i k)) (λ_=>[]) (λk=>k<=b+1) (λk=>b+1-k) λhM=>⟨bS hM (chg:=λk:Nat=>bVi b k) (bls:=λk=>aPt ⟨i,b,md⟩ b (f2N s i k)) (fls:=λ_=>[]) 0 (aC _) rfl ⟨rfl,?_⟩ trivial ⟨rfl,rfl,rfl,rfl⟩ bL aIz rfl,λk hk=>aA gT mxd ⟨λh3=>aA gT mxd ?_,λh3=>aA gT mxd ?_⟩⟩
 ·refine congrArg (λl=>((3,1,l):TypeId×Nat×List CV)) (mK λx hx=>?_)
  cases x with
  |zero=>show iC (0:Nat)=iC (f2N s i 0 0:Nat);unfold f2N;rw[if_pos (aJ 0),aFo (λl=>by omega) i]
  |succ x=>show iC (_:Nat)=iC (f2N s i 0 (x+1):Nat);unfold f2N;rw[if_neg oM]
 ·replace h3:(k:Int)<(b+1:Nat):=h3
  have hkb:k<b+1:=by omega
  have ix:k+1<b+2:=by omega
  have ix0:k<b+2:=by omega
  have v0:f2N s i k k=lK (λl=>s l<k) i:=by unfold f2N;rw[if_pos (aJ k)]
  have v1:f2N s i k (k+1)=lK (λl=>s l=k) i:=by unfold f2N;rw[if_neg oM];rfl
  have v2:f2N s i k (k+1)+f2N s i k k=lK (λl=>s l<k+1) i:=by rw[v0,v1,gB];exact tT s k i
  have v3:=hcn (λl=>s l<k+1) i (aJ i)
  refine⟨.seq [(0,false),(1,false),(2,false),(3,false),(4,false),(5,false),(6,false),(7,false),(8,false),(9,false),(10,false),(11,true)],by kernel_rfl,(k+1:Nat),wiN rfl oM,k+1,⟨rfl,ix,dD ix⟩,_,eZ ix,k,⟨rfl,ix0,dD ix0⟩,_,eZ ix0,(f2N s i k (k+1)+f2N s i k k:Nat),wiN rfl oM,k+1,⟨rfl,ix,dD ix⟩,_,aJa (v:=f2N s i k (k+1)+f2N s i k k) (g:=f2N s i (k+1)) ix (λx hx=>?_),(k+1:Nat),wi,bS hM (chg:=λk:Nat=>bVi b k) (bls:=λk=>aPt ⟨i,b,md⟩ b (f2N s i k)) (fls:=λ_=>[]) (k+1) ⟨hkb,show b+1-(k+1)<b+1-k by omega⟩ rfl ⟨rfl,rfl⟩ trivial ⟨rfl,rfl,rfl,rfl⟩ bL aIz rfl⟩
  by_cases e:x=k+1
  ·rw[if_pos e,v2,e];unfold f2N;rw[if_pos (aJ _)]
  rw[if_neg e];unfold f2N
  by_cases e2:x<=k
  ·rw[if_pos e2,if_pos oM]
  rw[if_neg e2,if_neg oM]
 replace h3:¬(k:Int)<(b+1:Nat):=h3
 obtain rfl:k=b+1:=by omega
 obtain⟨a,ha'⟩:∃a,a=i:=⟨_,rfl⟩
 subst ha'
 refine aA gT mxd ⟨a,⟨rfl,rfl,by show 8*_<=_;omega,by simp only[maxLen];omega⟩,?_⟩
 refine cO (λ_=>true) (λj:Nat=>bVj ⟨a,b,md⟩ a b j) (λj=>bKc ⟨a,b,md⟩ a b (f3N s a j) (rIN s a j)) (λ_=>[]) (λj=>j<=a) (λj=>a-j) λhM=>⟨bS hM (chg:=λj:Nat=>bVj ⟨a,b,md⟩ a b j) (bls:=λj=>bKc ⟨a,b,md⟩ a b (f3N s a j) (rIN s a j)) (fls:=λ_=>[]) 0 (aC _) rfl ⟨rfl,?_,?_⟩ trivial ⟨rfl,rfl,rfl,rfl,rfl,rfl⟩ bL bDv rfl,λj hj=>aA gT mxd ⟨λh4=>aA gT mxd ?_,λh4=>aA gT mxd ?_⟩⟩
 ·refine congrArg (λl=>((3,1,l):TypeId×Nat×List CV)) (mK λx hx=>?_)
  show iC (f2N s a (b+1) x:Nat)=iC (f3N s a 0 x:Nat)
  unfold f2N f3N
  rw[if_pos oM];rfl
 ·exact ziR λx hx=>if_neg (aD _)
 ·replace h4:(j:Int)<(md.l.length:Nat):=h4
  have hja:j<a:=by omega
  have hsj:=hsb j hja
  have hsz':=hsz j hja
  have ix:s j<b+2:=by omega
  have c1:=hcn (λk=>s k<s j+1) a (aJ a)
  have c2:=tT s (s j) a
  have c3:=aAk (P:=λk=>s k=s j) (fG hja)
  have hz:((((md.l.getD j cP).l.length:Nat):Int))=(s j:Nat):=by rw[hsz']
  refine⟨j,⟨rfl,show j<md.l.length by omega⟩,s j,⟨hz,ix,dD ix⟩,_,eZ ix,j,⟨rfl,hja,dD hja⟩,_,aJa (v:=f3N s a j (s j)) (g:=rIN s a (j+1)) hja (λx hx=>?_),s j,⟨hz,ix,dD ix⟩,_,eZ ix,(f3N s a j (s j)+1:Nat),wiN rfl (by show lK _ a+lK _ j+1<=_;omega),s j,⟨hz,ix,dD ix⟩,_,aJa (v:=f3N s a j (s j)+1) (g:=f3N s a (j+1)) ix (λx hx=>?_),(j+1:Nat),wi,bS hM (chg:=λj:Nat=>bVj ⟨a,b,md⟩ a b j) (bls:=λj=>bKc ⟨a,b,md⟩ a b (f3N s a j) (rIN s a j)) (fls:=λ_=>[]) (j+1) ⟨hja,show a-(j+1)<a-j by omega⟩ rfl ⟨rfl,rfl,rfl⟩ trivial ⟨rfl,rfl,rfl,rfl,rfl,rfl⟩ bL bDv rfl⟩
  ·unfold rIN
   by_cases e:x=j
   ·rw[if_pos e,if_pos oM,e];rfl
   rw[if_neg e]
   by_cases e2:x<j
   ·rw[if_pos e2,if_pos oM]
   rw[if_neg e2,if_neg oM]
  show lK _ a+(lK (λk=>s k=x) j+if s j=x then 1 else 0)=_
  by_cases e:x=s j
  ·rw[if_pos e,if_pos e.symm,e];rfl
  rw[if_neg e,if_neg (fV e)];rfl
 replace h4:¬(j:Int)<(md.l.length:Nat):=h4
 obtain rfl:a=j:=by omega
 have hri:iR a (rIN s a a)=iR a (rkN s a):=mK λx hx=>by unfold rIN;rw[if_pos hx]
 have hPm:PmL (nL a (rIN s a a)) a:=by
  rw[show nL a (rIN s a a)=nL a (rkN s a) from eK λx hx=>by unfold rIN;rw[if_pos (cQ.1 hx)]]
  exact bVg s a
 show Sd _ _ _ _ _ _
 refine yR 7 2 (λj=>[iC ((nL a (rIN s a a)).getD j 0)]) rfl rfl (λj hj=>bCs j hj) (by rw[eC,bU]) bL xX bL λPA pc _ _=>⟨λc hc=>fC (xX c hc),aA gT mxd ⟨[],cBq _ h hB oM hbn,rfl,rfl,rfl,λT hT=>?_⟩⟩
 replace hT:∀j,j<b->Ek (T j).l (trM M a j):=hT
 obtain⟨P,hPe⟩:∃P:Sl Int,P=⟨PA,pc,nL a (rIN s a a)⟩:=⟨_,rfl⟩
 have hPs:CV.r PA a pc 1 (λj=>[iC ((nL a (rIN s a a)).getD j 0)])=cM P:=by rw[hPe];unfold cM Sl.R;rw[hPm.ln]
 have hPl:PmL P.l a:=by rw[hPe];exact hPm
 have hPat:∀i,i<a->P.l.getD i 0=(rkN s a i:Nat):=λi hi=>by rw[hPe];show(nL a (rIN s a a)).getD i 0=_;unfold nL rIN;simp[hi]
 refine cO (λ_=>true) (λg:Nat×(Nat->Sl EntM)×(Nat->List En)=>bVk a b P g.1) (λg=>bKd ⟨a,b,md⟩ a b (f3N s a a) g.2.1) (λ_=>[]) (λg=>g.1<=b/\(∀j,j<g.1->Ek (g.2.1 j).l (g.2.2 j)/\Asc (g.2.2 j)/\(g.2.2 j).Perm ((trM M a j).map (rnE P.l)))/\∀j,g.1<=j->j<b->Ek (g.2.1 j).l (trM M a j)) (λg=>b-g.1) λhM=>⟨bS hM (chg:=λg:Nat×(Nat->Sl EntM)×(Nat->List En)=>bVk a b P g.1) (bls:=λg=>bKd ⟨a,b,md⟩ a b (f3N s a a) g.2.1) (fls:=λ_=>[]) (0,T,λ_=>[]) ⟨aC _,λj hj=>absurd hj (aD _),λj _ hj=>hT j hj⟩ rfl ⟨rfl,rfl,rfl,rfl,rfl⟩ trivial ⟨rfl,rfl,rfl,hPs,rfl⟩ bL bDw rfl,λ⟨k,Y,rs⟩ ⟨hk,hd,ho⟩=>aA gT mxd ⟨λh5=>aA gT mxd ?_,λh5=>aA gT mxd ?_⟩⟩
 all_goals
  replace hk:k<=b:=hk
  replace hd:∀j,j<k->Ek (Y j).l (rs j)/\Asc (rs j)/\(rs j).Perm ((trM M a j).map (rnE P.l)):=hd
  replace ho:∀j,k<=j->j<b->Ek (Y j).l (trM M a j):=ho
 ·replace h5:(k:Int)<(b:Nat):=h5
  have hkb:k<b:=by omega
  have hv:=aDn (qs:=aEm M a k) a
  have hrt:=aIh (j:=k) h1 hb λi hi=>(h.ok i hi).1.1
  refine⟨k,⟨rfl,hkb,dD hkb⟩,_,eZ hkb,.seq [(0,false),(1,false),(2,false),(3,false),(4,false),(5,false),(6,false),(7,false),(8,false),(9,false),(10,true)],by kernel_rfl,[],bCo (Y k) P (ho k (aJ k) hkb) hrt h1 hB hv.1 ha hPl,rfl,rfl,rfl,λy ⟨r,hy⟩=>⟨k,⟨rfl,hkb,dD hkb⟩,_,iF (c:=cF y) (Q:=λj=>cF (upd Y k y j)) hkb (λj _=>?_),(k+1:Nat),wi,bS hM (chg:=λg:Nat×(Nat->Sl EntM)×(Nat->List En)=>bVk a b P g.1) (bls:=λg=>bKd ⟨a,b,md⟩ a b (f3N s a a) g.2.1) (fls:=λ_=>[]) (k+1,upd Y k y,upd rs k r) ⟨⟨hkb,λj hj=>?_,λj hj hjb=>?_⟩,show b-(k+1)<b-k by omega⟩ rfl ⟨rfl,rfl,rfl,rfl,rfl⟩ trivial ⟨rfl,rfl,rfl,rfl,rfl⟩ bL bDw rfl⟩⟩
  ·by_cases e:j=k
   ·subst e;rw[if_pos rfl,bN]
   rw[if_neg e,bD e]
  ·show Ek (upd Y k y j).l (upd rs k r j)/\Asc (upd rs k r j)/\(upd rs k r j).Perm _
   by_cases e:j=k
   ·subst e;rw[bN,bN];exact hy
   rw[bD e,bD e];exact hd j (by have:j<k+1:=hj;omega)
  show Ek (upd Y k y j).l _
  have:k+1<=j:=hj
  rw[bD oM];exact ho j oM hjb
 replace h5:¬(k:Int)<(b:Nat):=h5
 obtain rfl:k=b:=by omega
 show Sd _ _ _ _ _ _
 refine mU tSd 3 rfl bL (aZ λ_ _=>rfl) bL rfl λA2 c2=>⟨_,sG oC xX,_,rfl,?_⟩
 refine lI tSd 4 0 [iC k,iC a,mV ⟨A2.map λb=>⟨b,0,none⟩,c2,lJ Y k⟩] rfl rfl rfl rfl (wB (k0:=2) rfl xF) (aA gT mxd ⟨(⟨A2.map λb=>⟨b,0,none⟩,c2,lJ Y k⟩,rs,rkN s a),?_,aM ?_ rfl trivial⟩)
 ·have hvk:∀j,j<k->VOk (rs j) (a:Nat):=λj hj=>aPb hPl (aDn a).1 (hd j hj).2.1 (hd j hj).2.2
  refine⟨nU,λj hj=>?_,hvk,λi hi=>bDu s hi,λi j hi hj he=>aSv s hi hj he,λi j hi hj=>?_,λB' hB1 hbB j hj e he=>?_⟩
  ·show Ek ((lJ Y k).getD j cP).l _
   rw[qY hj];exact(hd j hj).1
  ·rw[Vm.get_perm (hd j hj).2.2,<-hPat i hi]
   exact(aPa (es:=trM M a j) hPl hi λe he=>⟨((aDn a).1.2 e he).1,((aDn a).1.2 e he).2.1⟩).trans (aSa hi)
  obtain⟨e',h6,rfl⟩:=cB.1 ((hd j hj).2.2.subset he)
  exact aIh hB1 hbB (λi hi=>(h.ok i hi).1.1) e' h6
 show CV.r _ _ _ _ _=_
 unfold mV Sl.R
 rw[nU]
end Go.Proofs.YtghncoghdcmdfaaGreat
