/- For every input the law UpdateEqualsFresh returns true, and what came in reads as it did. Part 4 of 7: Vyi Vyt Vyj Vyk Vyl Vym Vyn. -/
import Derived.Maps.RangeRun
import Derived.Carry
import Derived.Test.YtlhdigjbokkbiaaGreatE3
set_option maxHeartbeats 4000000
set_option linter.unusedVariables false
set_option linter.unusedSimpArgs false
namespace Go.Vy
open Go.Vg Go.RowKit
def xQ:List Bool->List Nat->BL->BL
 |_,_,[]=>[]
 |[],m,(T,es,l)::bl=>(T,es,l.map (sN m))::xQ [] m bl
 |true::cl,m,(T,es,l)::bl=>(T,es,l)::xQ cl m bl
 |false::cl,m,(T,es,l)::bl=>(T,es,l.map (sN m))::xQ cl m bl
theorem wK:∀(cl:List Bool) (m:List Nat) (bl:BL) (j:Nat) (T:TypeId) (es:Nat) (l:List CV),bl[j]? =some (T,es,l)->(xQ cl m bl)[j]? =some (T,es,aPf (cl[j]?) m l)
 |_,_,[],j,T,es,l,h=>by cases h
 |[],m,(T0,es0,l0)::bl,0,T,es,l,h=>by injection h with h;injection h with h1 h2;injection h2 with h2 h3;subst h1 h2 h3;rfl
 |[],m,(T0,es0,l0)::bl,j+1,T,es,l,h=>by
  have:=wK [] m bl j T es l (by simpa using h)
  simpa[xQ] using this
 |c::cl,m,(T0,es0,l0)::bl,0,T,es,l,h=>by
  injection h with h;injection h with h1 h2;injection h2 with h2 h3;subst h1 h2 h3
  cases c<;>rfl
 |c::cl,m,(T0,es0,l0)::bl,j+1,T,es,l,h=>by
  have:=wK cl m bl j T es l (by simpa using h)
  cases c<;>simpa[xQ] using this
theorem wL:∀(cl:List Bool) (m:List Nat) (bl:BL),(xQ cl m bl).length=bl.length
 |_,_,[]=>by simp[xQ]
 |[],m,(T,es,l)::bl=>by simp[xQ,wL [] m bl]
 |c::cl,m,(T,es,l)::bl=>by cases c<;>simp[xQ,wL cl m bl]
def aPg:List Nat->Bool
 |[]=>true
 |i::l=>(l.all λj=>!Nat.beq i j)&&aPg l
theorem aJu:∀{m:List Nat},aPg m=true->∀(j j' i:Nat),m[j]? =some i->m[j']? =some i->j=j'
 |[],_,j,j',i,h,_=>by cases h
 |a::m,hn,j,j',i,h,h'=>by
  simp only[aPg,aQ] at hn
  have hno:∀k:Nat,m[k]? =some a->False:=λk hk=>by
   have:=aZ.1 hn.1 a (aX hk)
   rw[iX] at this
   cases this
  cases j with
  |zero=>cases j' with
   |zero=>rfl
   |succ j'=>injection h with h;subst h;exact(hno j' (by simpa using h')).elim
  |succ j=>cases j' with
   |zero=>injection h' with h';subst h';exact(hno j (by simpa using h)).elim
   |succ j'=>rw[aJu hn.2 j j' i (by simpa using h) (by simpa using h')]
def bNs {α:Type}:List α->List α->(List α->Prop)->Prop
 |bl,[],k=>k bl
 |bl,x::xs,k=>uV bl x λbl'=>bNs bl' xs k
theorem aSp {α:Type}:∀{bl xs:List α} {k:List α->Prop},bNs bl xs k->k (bl++xs)
 |bl,[],k,h=>by rw[gB];exact h
 |bl,x::xs,k,h=>by
  have:=aSp (oU (show uV bl x _ from h))
  rwa [eF] at this
def aZg {α:Type}:List α->List Nat->List α->(List α->Prop)->Prop
 |bl,[],xs,k=>bNs bl xs k
 |bl,i::m,x::xs,k=>qE bl i x λbl'=>aZg bl' m xs k
 |_,_::_,[],_=>False
theorem aJv {α:Type}:∀{m:List Nat} {bl xs:List α} {k:List α->Prop},aZg bl m xs k->aPg m=true->(∀i∈m,i<bl.length)->∃bl',k bl'/\m.length<=xs.length/\bl'.length=bl.length+(xs.length-m.length)/\
 (∀(j i:Nat),m[j]? =some i->bl'[i]? =xs[j]?)/\(∀i,i<bl.length->i∉m->bl'[i]? =bl[i]?)/\∀t,bl'[bl.length+t]? =xs[m.length+t]?
 |[],bl,xs,k,h,_,_=>by
  simp only[aZg] at h
  refine⟨bl++xs,aSp h,aF _,by simp,λj i h=>?_,λi hi _=>bW hi,λt=>?_⟩
  ·cases h
  rw[cO oM]
  simp
 |i0::m,bl,[],k,h,_,_=>h.elim
 |i0::m,bl,x::xs,k,h,hn,hlt=>by
  simp only[aPg,aQ] at hn
  have hno:i0∉m:=λhm=>by
   have:=aZ.1 hn.1 i0 hm
   rw[iX] at this
   cases this
  obtain⟨bl',h1,h2,h3,h4,h5,h6⟩:=aJv (kL (show qE bl i0 x _ from h)) hn.2 (λi hi=>by rw[bT];exact hlt i (.tail _ hi))
  rw[bT] at h3 h5 h6
  refine⟨bl',h1,rS h2,by simp only[eI];omega,λj i hj=>?_,λi hi hm=>?_,λt=>?_⟩
  ·cases j with
   |zero=>
    injection hj with hj
    subst hj
    rw[h5 _ (hlt _ (.head _)) hno,oB (hlt _ (.head _))]
    rfl
   |succ j=>rw[h4 j i (by simpa using hj)];rfl
  ·rw[h5 i hi (λh=>hm (.tail _ h)),mX (λe=>hm (by subst e;exact .head _))]
  rw[h6 t]
  simp only[eI]
  rw[show m.length+1+t=(m.length+t)+1 by omega,List.getElem?_cons_succ]
def aJw:Nat->Nat->List Nat
 |_,0=>[]
 |a,n+1=>a::aJw (a+1) n
theorem aGl:∀(a n t:Nat),t<n->(aJw a n)[t]? =some (a+t)
 |a,n+1,0,_=>rfl
 |a,n+1,t+1,h=>by
  have:=aGl (a+1) n t oM
  simp only[aJw,List.getElem?_cons_succ,this]
  congr 1
  omega
def aVy (m:List Nat) (bl xs:BL):List Nat:=m++aJw (cnt bl 0) (xs.length-m.length)
def aEi (m:List Nat):CV->(CV->Prop)->Prop
 |.p j o,k=>(match m[j]? with
  |some i=>k (.p i o)
  |none=>k bad)
 |.s j n,k=>(match m[j]? with
  |some i=>k (.s i n)
  |none=>k bad)
 |.t j o n,k=>(match m[j]? with
  |some i=>k (.t i o n)
  |none=>k bad)
 |.f q fi ca,k=>(match aGj m fi,aGj m ca with
  |some a,some b=>k (.f q a b)
  |_,_=>k bad)
 |.u,k=>k .u
 |.v x,k=>k (.v x)
 |.h A n c,k=>k (.h A n c)
 |.hp b o,k=>k (.hp b o)
 |.b p h,k=>k (.b p h)
 |.r A n c e g,k=>k (.r A n c e g)
 |.q A n c e g j o,k=>k (.q A n c e g j o)
theorem aNd {m:List Nat} {c:CV} {k:CV->Prop} (h:aEi m c k):k (sN m c):=by
 cases c with
 |p j o=>
  simp only[aEi] at h
  simp only[sN]
  cases hj:m[j]? with
  |none=>simp only[hj] at h ⊢;exact h
  |some i=>simp only[hj] at h ⊢;exact h
 |s j n=>
  simp only[aEi] at h
  simp only[sN]
  cases hj:m[j]? with
  |none=>simp only[hj] at h ⊢;exact h
  |some i=>simp only[hj] at h ⊢;exact h
 |t j o n=>
  simp only[aEi] at h
  simp only[sN]
  cases hj:m[j]? with
  |none=>simp only[hj] at h ⊢;exact h
  |some i=>simp only[hj] at h ⊢;exact h
 |f q fi ca=>
  simp only[aEi] at h
  simp only[sN]
  cases hf:aGj m fi with
  |none=>simp only[hf] at h ⊢;exact h
  |some a=>cases hc:aGj m ca with
   |none=>simp only[hf,hc] at h ⊢;exact h
   |some b=>simp only[hf,hc] at h ⊢;exact h
 |_=>exact h
def aZh (m:List Nat):List CV->(List CV->Prop)->Prop
 |[],k=>k []
 |c::l,k=>aEi m c λc'=>aZh m l λr=>k (c'::r)
theorem aNe {m:List Nat}:∀{l:List CV} {k:List CV->Prop},aZh m l k->k (l.map (sN m))
 |[],k,h=>h
 |c::l,k,h=>aNe (l:=l) (aNd (show aEi m c _ from h))
def aSq (m:List Nat):DV->(DV->Prop)->Prop
 |.c c,k=>aEi m c λc'=>k (.c c')
 |.a l,k=>aZh m l λr=>k (.a r)
 |.t l,k=>k (xW m (.t l))
theorem aGm {m:List Nat} {d:DV} {k:DV->Prop} (h:aSq m d k):k (xW m d):=by
 cases d with
 |c c=>simp only[xW];exact aNd (k:=λc'=>k (.c c')) h
 |a l=>simp only[xW];exact aNe (k:=λr=>k (.a r)) h
 |t l=>exact h
def aZi (m:List Nat):List DV->(List DV->Prop)->Prop
 |[],k=>k []
 |d::l,k=>aSq m d λd'=>aZi m l λr=>k (d'::r)
theorem aNf {m:List Nat}:∀{l:List DV} {k:List DV->Prop},aZi m l k->k (xW.renT m l)
 |[],k,h=>h
 |d::l,k,h=>aNf (l:=l) (aGm (show aSq m d _ from h))
def bLe (m:List Nat):DV->(DV->Prop)->Prop
 |.t l,k=>aZi m l λr=>k (.t r)
 |d,k=>aSq m d k
theorem aZj {m:List Nat} {d:DV} {k:DV->Prop} (h:bLe m d k):k (xW m d):=by
 cases d with
 |t l=>simp only[xW];exact aNf (k:=λr=>k (.t r)) h
 |c c=>exact aGm (d:=.c c) h
 |a l=>exact aGm (d:=.a l) h
def bm:List Nat->List Nat
 |[]=>[]
 |i::l=>bif Nat.ble 1000 i then bm l else i::bm l
def fm:List Nat->List Nat
 |[]=>[]
 |i::l=>bif Nat.ble 1000 i then (i-1000)::fm l else fm l
inductive callK (P:Program) (only:Bool) (s:SS) (q:Nat) (al:List DV) (k:SS->DV->Prop):Prop
 |mk (m:List Nat) {cl:List Bool} {al0:List DV} {bl0:BL} {fl0:List Fam} {σ:Type} {R:σ->OutF} (hc:CtrF P q cl al0 bl0 fl0 R) (h1:al=al0.map (bNr (bm m))) (h2:((bm m).map (λi=>s.bl[i]?),(fm m).map (λi=>s.fl[i]?))=((xQ cl (bm m) bl0).map some,fl0.map some)) (h3:(aPg (bm m)&&(aPg (fm m)&&(!only||m.isEmpty)))=true)
  (h4:∀g,(R g).C->match s with
   |⟨sl,gl,bl,fl⟩=>aZg bl (bm m) (xQ cl (aVy (bm m) bl (R g).bl) (R g).bl) λbl'=>aZg fl (fm m) (R g).fl λfl'=>bLe (aVy (bm m) bl (R g).bl) (R g).d λd'=>k ⟨sl,gl,bl',fl'⟩ d')
section
variable {P:Program} {only:Bool} {w0 w:World} {nb q:Nat} {s:SS} {ρ ρ0:Pl} {f:Nat->Value} {al:List DV} {k:SS->DV->Prop} {vals:List Value}
theorem bHu (h:callK P only s q al k) (hD:Dn ρ0 w0 nb s ρ f w) (hv:HL ρ s.bl.length w al vals):
 Ent P q/\Calls P q vals.toArray w λe w'=>∃v,e= .returned v/\∃s' d ρ',k s' d/\Dn ρ0 w0 nb s' ρ' f w'/\Hd ρ' s'.bl.length w' d v/\(only=true->Ext w w'):=by
 obtain @⟨m0,cl,al0,bl0,fl0,σ,R,hc,rfl,hget2,hmb,hk⟩:=h
 simp only[aQ,kY,dL] at hmb
 obtain⟨hnod,hnodf,honly⟩:=hmb
 obtain⟨sl,gl,bl,fl⟩:=s
 simp only at hget2 hk
 injection hget2 with hget hgetf
 have honly':only=true->bm m0=[]/\fm m0=[]:=λho=>by
  rcases honly with h|h
  ·rw[ho] at h;cases h
  have:m0=[]:=by simpa using h
  subst this
  exact⟨rfl,rfl⟩
 generalize bm m0=m at hnod hget hk honly' hv
 generalize fm m0=mf at hnodf hgetf hk honly'
 refine⟨hc.ent,?_⟩
 have hFl:ρ.F=fl:=hD.l
 have hmfl:mf.length=fl0.length:=by
  have:=congrArg List.length hgetf
  simpa using this
 have hmf:∀(j i:Nat),mf[j]? =some i->fl[i]? =fl0[j]?:=λj i hj=>by
  have h1:(mf.map (λi=>fl[i]?))[j]? =some (fl[i]?):=by rw[fQ,hj];rfl
  rw[hgetf,fQ] at h1
  have hlt:j<fl0.length:=by rw[<-hmfl];exact eP hj
  rw[aK hlt] at h1 ⊢
  injection h1 with h1
  exact h1.symm
 have hmfj:∀j,j<fl0.length->∃i,mf[j]? =some i:=λj hj=>⟨_,aK (by rw[hmfl];exact hj)⟩
 have hfin:∀F∈fl0,F∈fl:=λF hF=>by
  obtain⟨j,hj⟩:=dD hF
  obtain⟨i,hi⟩:=hmfj j (eP hj)
  exact aX ((hmf j i hi).trans hj)
 have hinc:∀b,InL fl0 b->InL fl b:=λb ⟨F,hF,h⟩=>⟨F,hfin F hF,h⟩
 have hml:m.length=bl0.length:=by
  have:=congrArg List.length hget
  simpa[wL] using this
 have hm:∀(j i:Nat),m[j]? =some i->∃T es l,bl0[j]? =some (T,es,l)/\bl[i]? =some (T,es,aPf (cl[j]?) m l):=λj i hj=>by
  have hlt:j<bl0.length:=by rw[<-hml];exact eP hj
  refine⟨(bl0[j]).1,(bl0[j]).2.1,(bl0[j]).2.2,aK hlt,?_⟩
  have h1:(m.map (λi=>bl[i]?))[j]? =some (bl[i]?):=by rw[fQ,hj];rfl
  rw[hget,fQ,wK cl m bl0 j _ _ _ (aK hlt)] at h1
  injection h1 with h1
  exact h1.symm
 have hmlt:∀(j i:Nat),m[j]? =some i->i<bl.length:=λj i hj=>by obtain⟨_,_,_,_,h⟩:=hm j i hj;exact eP h
 let ρc:Pl:=⟨λj=>match m[j]? with|some i=>ρ i|none=>(none,0),λb=>Zf ρ bl.length w b\/(w.heap.size<=b\/InL fl0 b),fl0⟩
 have hρc:∀(j i:Nat),m[j]? =some i->ρc j=ρ i:=λj i hj=>by
  show(match m[j]? with|some i=>ρ i|none=>(none,0))=ρ i
  rw[hj]
 have hmj:∀j,j<bl0.length->∃i,m[j]? =some i:=λj hj=>⟨_,aK (by rw[hml];exact hj)⟩
 have rn:Rn m ρ bl.length ρc bl0.length w:=⟨λj i hj _=>by rw[<-hml];exact eP hj,hρc,λb hb=>⟨hb.lt,λj hj=>by
  obtain⟨i,hi⟩:=hmj j hj
  rw[hρc j i hi]
  exact hb.no i (hmlt j i hi),.inl hb,λhf=>hb.nf (by unfold InF;rw[hFl];exact hinc b hf)⟩⟩
 have hDc:DnW ρc w bl0.length bl0 ρc w:=by
  refine⟨λj T es l hj=>?_,λj j' b hj hj' hb hb'=>?_,λi b h1 h2=>absurd h1 (Nat.not_le.2 h2),aI _,⟨rfl,rfl,rfl,aI _,λ_ _ _ _=>rfl⟩,λ_ _=>rfl,⟨rfl,λb hb=> .inr hb⟩,⟨λF hF=>?_,λj b hj hb=>?_,λf1 f2 F1 F2 j1 j2 b h1 h2 h3 h4 h5 h6=>?_⟩,λb hb=> .inr hb⟩
  ·obtain⟨i,hi⟩:=hmj j (eP hj)
   obtain⟨T',es',l',h1,h2⟩:=hm j i hi
   rw[hj] at h1
   injection h1 with h1
   injection h1 with e1 e2
   injection e2 with e2 e3
   subst e1 e2 e3
   have hq:=hD.m.ok i T es _ h2
   unfold Bq at hq ⊢
   rw[hρc j i hi]
   cases hb:(ρ i).1 with
   |none=>
    simp only[hb] at hq ⊢
    refine⟨bX ?_,hq.2⟩
    have:=congrArg List.length hq.1
    unfold aPf at this
    split at this<;>simpa using this
   |some b=>
    simp only[hb] at hq ⊢
    obtain⟨vl,junk,q1,q2,q3⟩:=hq
    refine⟨vl,junk,q1,?_,q3⟩
    unfold aPf at q2
    split at q2
    ·next hcl=>exact q2.clo (hc.clb j T es l hj hcl) rn.z
    exact q2.ren rn
  ·obtain⟨i,hi⟩:=hmj j hj
   obtain⟨i',hi'⟩:=hmj j' hj'
   rw[hρc j i hi] at hb
   rw[hρc j' i' hi'] at hb'
   have:=hD.m.inj i i' b (hmlt j i hi) (hmlt j' i' hi') hb hb'
   subst this
   exact aJu hnod j j' i hi hi'
  ·have hF':F∈ρ.F:=by rw[hFl];exact hfin F hF
   exact⟨(hD.m.fam.ok F hF').1,λj hj=>((hD.m.fam.ok F hF').2 j hj).mono (λb hb=>⟨rn.z b hb,rfl⟩) λb _=>rfl⟩
  ·obtain⟨i,hi⟩:=hmj j hj
   rw[hρc j i hi] at hb
   exact λhf=>hD.m.fam.own i b (hmlt j i hi) hb (by unfold InF;rw[hFl];exact hinc b hf)
  have h1':fl0[f1]? =some F1:=h1
  have h2':fl0[f2]? =some F2:=h2
  obtain⟨i1,hi1⟩:=hmfj f1 (eP h1')
  obtain⟨i2,hi2⟩:=hmfj f2 (eP h2')
  obtain⟨e1,e2⟩:=hD.m.fam.inj i1 i2 F1 F2 j1 j2 b (by rw[hFl];exact(hmf f1 i1 hi1).trans h1') (by rw[hFl];exact(hmf f2 i2 hi2).trans h2') h3 h4 h5 h6
  subst e1
  exact⟨aJu hnodf f1 f2 i1 hi1 hi2,e2⟩
 refine(hc.run ρc w vals (HL.ren rn hv) hDc rfl).mono λe w' ⟨v,he,g,ρ',hC,hDr,hdv,hclr,hFr⟩=>⟨v,he,?_⟩
 have hK:=hk g hC
 obtain⟨bl',hkk0,l1,l2,l3,l4,l5⟩:=aJv hK hnod (λi hi=>by obtain⟨j,hj⟩:=dD hi;exact hmlt j i hj)
 obtain⟨fl',hkk1,q1,q2,q3,q4,q5⟩:=aJv hkk0 hnodf (λi hi=>by
  obtain⟨j,hj⟩:=dD hi
  have hlt:j<fl0.length:=by rw[<-hmfl];exact eP hj
  exact eP ((hmf j i hj).trans (aK hlt)))
 have hkk:=aZj hkk1
 have hfc:∀(i:Nat) (F:Fam),fl'[i]? =some F->(fl[i]? =some F/\i∉mf/\i<fl.length)\/(∃j,(R g).fl[j]? =some F/\((mf[j]? =some i)\/(mf.length<=j/\i=fl.length+(j-mf.length)))):=λi F hi=>by
  by_cases h1:i<fl.length
  ·by_cases h2:i∈mf
   ·obtain⟨j,hj⟩:=dD h2
    exact .inr ⟨j,by rw[<-q3 j i hj];exact hi,.inl hj⟩
   rw[q4 i h1 h2] at hi
   exact .inl ⟨hi,h2,h1⟩
  obtain⟨t,rfl⟩:∃t,i=fl.length+t:=⟨i-fl.length,by omega⟩
  rw[q5 t] at hi
  exact .inr ⟨mf.length+t,hi,.inr ⟨by omega,by omega⟩⟩
 have hcb:∀b,InL (R g).fl b->w.heap.size<=b\/InL fl0 b:=λb hb=>hDr.ffr b (by unfold InF;rw[hFr];exact hb)
 have hul:∀(i j:Nat) (F:Fam) (b:Nat),fl[i]? =some F->i∉mf->j<F.N->F.A j=some b->¬InL fl0 b:=λi j F b hi hm hj hb ⟨F2,hF2,j2,hj2,hb2⟩=>by
  obtain⟨k2,hk2⟩:=dD hF2
  obtain⟨i2,hi2⟩:=hmfj k2 (eP hk2)
  obtain⟨e1,_⟩:=hD.m.fam.inj i i2 F F2 j j2 b (by rw[hFl];exact hi) (by rw[hFl];exact(hmf k2 i2 hi2).trans hk2) hj hj2 hb hb2
  subst e1
  exact hm (aX hi2)
 have hula:∀(i j:Nat) (F:Fam) (b:Nat),fl[i]? =some F->j<F.N->F.A j=some b->InF ρ b:=λi j F b hi hj hb=>by unfold InF;rw[hFl];exact⟨F,aX hi,j,hj,hb⟩
 have hin2:∀b,InL fl' b->(∃(i j:Nat) (F:Fam),fl[i]? =some F/\i∉mf/\j<F.N/\F.A j=some b)\/InL (R g).fl b:=λb ⟨F,hF,j,hj,hb⟩=>by
  obtain⟨i,hi⟩:=dD hF
  rcases hfc i F hi with ⟨h1,h2,_⟩|⟨t,h1,_⟩
  ·exact .inl ⟨i,j,F,h1,h2,hj,hb⟩
  exact .inr ⟨F,aX h1,j,hj,hb⟩
 have hin':∀b,InL fl' b->InF ρ b\/InL (R g).fl b:=λb ⟨F,hF,j,hj,hb⟩=>by
  obtain⟨i,hi⟩:=dD hF
  rcases hfc i F hi with ⟨h1,_,_⟩|⟨t,h1,_⟩
  ·exact .inl (hula i j F b h1 hj hb)
  exact .inr ⟨F,aX h1,j,hj,hb⟩
 rw[wL] at l1 l2
 have hx:(R g).bl.length=bl0.length+((R g).bl.length-m.length):=by omega
 have hpl:∀(j i:Nat),m[j]? =some i->ρ' j=ρ i:=λj i hj=>(hDr.pl j (by rw[<-hml];exact eP hj)).trans (hρc j i hj)
 have hwl:=hDr.rel.size
 let ρ2:Pl:=⟨λi=>if i<bl.length then ρ i else ρ' (m.length+(i-bl.length)),ρ.Z,fl'⟩
 have hρo:∀i,i<bl.length->ρ2 i=ρ i:=λi hi=>if_pos hi
 have hρn:∀t,ρ2 (bl.length+t)=ρ' (m.length+t):=λt=>by
  show(if bl.length+t<bl.length then _ else _)=_
  rw[if_neg oM,show bl.length+t-bl.length=t by omega]
 have hfresh:∀t b,m.length+t<(R g).bl.length->(ρ' (m.length+t)).1=some b->w.heap.size<=b:=λt b ht hb=>hDr.fr (m.length+t) b oM ht hb
 have hlen:bl'.length=bl.length+((R g).bl.length-m.length):=l2
 have kp:Kp ρ bl.length w ρ2 bl'.length w':=⟨by omega,hρo,λb hb=>⟨⟨bH hb.lt hwl,λi hi=>?_,hb.z,λhf=>?_⟩,hDr.rel.block b hb.lt (λj hj=>?_) λhf=>hb.nf (by unfold InF;rw[hFl];exact hinc b hf)⟩⟩
 ·have hz2:∀b,Zf ρ' (R g).bl.length w' b->Zf ρ2 bl'.length w' b:=λb hb=>by
   have hz:=hb.z
   rw[hDr.zz.1] at hz
   refine⟨hb.lt,λi hi he=>?_,?_,λhf=>?_⟩
   ·by_cases h1:i<bl.length
    ·rw[hρo i h1] at he
     rcases hz with hz|hz
     ·exact hz.no i h1 he
     rcases hz with hz|hz
     ·have:=hD.m.lt h1 he;omega
     exact hD.m.fam.own i b h1 he (by unfold InF;rw[hFl];exact hinc b hz)
    obtain⟨t,rfl⟩:∃t,i=bl.length+t:=⟨i-bl.length,by omega⟩
    rw[hρn t] at he
    exact hb.no _ oM he
   ·rcases hz with hz|hz
    ·exact hz.z
    rcases hz with hz|hz
    ·exact hD.m.zz.2 b (.inl (bA hD.m.rel.size hz))
    exact hD.m.zz.2 b (hD.m.ffr b (by unfold InF;rw[hFl];exact hinc b hz))
   rcases hin2 b hf with ⟨i2,j2,F2,g1,g2,g3,g4⟩|hf
   ·rcases hz with hz|hz|hz
    ·exact hz.nf (hula i2 j2 F2 b g1 g3 g4)
    ·have:=hD.m.fam.lt (hula i2 j2 F2 b g1 g3 g4);omega
    exact hul i2 j2 F2 b g1 g2 g3 g4 hz
   exact hb.nf (by unfold InF;rw[hFr];exact hf)
  have bn:Bn (aVy m bl (R g).bl) ρ2 bl'.length ρ' (R g).bl.length w':=⟨λj hj=>?_,hz2⟩
  ·have hbq:∀(j:Nat) (T:TypeId) (es:Nat) (l:List CV) (i:Nat),(R g).bl[j]? =some (T,es,l)->ρ' j=ρ2 i->Bq ρ2 bl'.length w' i T es (aPf (cl[j]?) (aVy m bl (R g).bl) l):=λj T es l i hj hp=>by
    have hq:=hDr.ok j T es l hj
    unfold Bq at hq ⊢
    rw[<-hp]
    cases hb:(ρ' j).1 with
    |none=>
     simp only[hb] at hq ⊢
     refine⟨?_,hq.2⟩
     rw[hq.1]
     unfold aPf
     split<;>rfl
    |some b=>
     simp only[hb] at hq ⊢
     obtain⟨vl,junk,q1,q2,q3⟩:=hq
     refine⟨vl,junk,q1,?_,q3⟩
     unfold aPf
     split
     ·next hcl=>exact q2.clo (hclr j T es l hj hcl) hz2
     exact q2.back bn
   refine⟨⟨sl,gl,bl',fl'⟩,_,ρ2,hkk,⟨⟨λi T es l hi=>?_,λa b bb ha hb hab hbb=>?_,λi b h1 h2 hb=>?_,?_,?_,λi hi=>?_,hD.m.zz,⟨λF hF=>?_,λi b hi hb hf=>?_,λf1 f2 F1 F2 j1 j2 b h1 h2 h3 h4 h5 h6=>?_⟩,λb hb=>?_⟩,hD.f.kp rfl rfl kp,rfl⟩,hdv.back bn,λho=>?_⟩
   ·by_cases h1:i<bl.length
    ·by_cases h2:i∈m
     ·obtain⟨j,hj⟩:=dD h2
      have:=l3 j i hj
      rw[hi] at this
      have hjl:j<(R g).bl.length:=by have:=eP hj;omega
      have hg:=aK hjl
      rw[wK cl _ (R g).bl j ((R g).bl[j]).1 ((R g).bl[j]).2.1 ((R g).bl[j]).2.2 hg] at this
      injection this with this
      injection this with e1 e2
      injection e2 with e2 e3
      subst e1 e2 e3
      exact hbq j _ _ _ i hg ((hpl j i hj).trans (hρo i h1).symm)
     rw[l4 i h1 h2] at hi
     refine(hD.m.ok i T es l hi).kp kp h1 λb hb=>hDr.rel.block b ((hD.m.ok i T es l hi).lt hb) (λj hj he=>h2 ?_) λhf=>hD.m.fam.own i b h1 hb (by unfold InF;rw[hFl];exact hinc b hf)
     obtain⟨i',hi'⟩:=hmj j hj
     rw[hpl j i' hi'] at he
     rw[hD.m.inj i i' b h1 (hmlt j i' hi') hb he]
     exact aX hi'
    obtain⟨t,rfl⟩:∃t,i=bl.length+t:=⟨i-bl.length,by omega⟩
    rw[l5 t] at hi
    have hjl:m.length+t<(R g).bl.length:=by have:=eP hi;rw[wL] at this;exact this
    have hg:=aK hjl
    rw[wK cl _ (R g).bl (m.length+t) ((R g).bl[m.length+t]).1 ((R g).bl[m.length+t]).2.1 ((R g).bl[m.length+t]).2.2 hg] at hi
    injection hi with hi
    injection hi with e1 e2
    injection e2 with e2 e3
    subst e1 e2 e3
    exact hbq (m.length+t) _ _ _ _ hg (hρn t).symm
   ·have ha':a<bl.length+((R g).bl.length-m.length):=by rw[<-hlen];exact ha
    have hb':b<bl.length+((R g).bl.length-m.length):=by rw[<-hlen];exact hb
    by_cases h1:a<bl.length<;>by_cases h2:b<bl.length
    ·rw[hρo a h1] at hab;rw[hρo b h2] at hbb;exact hD.m.inj a b bb h1 h2 hab hbb
    ·obtain⟨t,rfl⟩:∃t,b=bl.length+t:=⟨b-bl.length,by omega⟩
     rw[hρo a h1] at hab;rw[hρn t] at hbb
     have:=hD.m.lt h1 hab
     have:=hfresh t bb oM hbb
     omega
    ·obtain⟨t,rfl⟩:∃t,a=bl.length+t:=⟨a-bl.length,by omega⟩
     rw[hρo b h2] at hbb;rw[hρn t] at hab
     have:=hD.m.lt h2 hbb
     have:=hfresh t bb oM hab
     omega
    obtain⟨t,rfl⟩:∃t,a=bl.length+t:=⟨a-bl.length,by omega⟩
    obtain⟨t',rfl⟩:∃t,b=bl.length+t:=⟨b-bl.length,by omega⟩
    rw[hρn t] at hab;rw[hρn t'] at hbb
    have:=hDr.inj _ _ bb oM oM hab hbb
    omega
   ·by_cases h3:i<bl.length
    ·rw[hρo i h3] at hb;exact hD.m.fr i b h1 h3 hb
    obtain⟨t,rfl⟩:∃t,i=bl.length+t:=⟨i-bl.length,by omega⟩
    rw[hρn t] at hb
    have h2':bl.length+t<bl.length+((R g).bl.length-m.length):=by rw[<-hlen];exact h2
    have:=hfresh t b oM hb
    have:=hD.m.rel.size
    omega
   ·have:=hD.m.nbl;show nb<=bl'.length;have h0:nb<=bl.length:=this;omega
   ·have hR:=hD.m.rel
    have hnb:nb<=bl.length:=hD.m.nbl
    refine⟨hDr.rel.os.trans hR.os,hDr.rel.tape.trans hR.tape,hDr.rel.output.trans hR.output,bA hR.size hwl,λkk hkk hn hf=>?_⟩
    refine(hDr.rel.block kk (bH hkk hR.size) (λj hj he=>?_) λhf2=>?_).trans (hR.block kk hkk (λi hi=>?_) hf)
    ·obtain⟨i,hi⟩:=hmj j hj
     rw[hpl j i hi] at he
     by_cases h1:i<nb
     ·exact hn i h1 (by rw[hρo i oM];exact he)
     have:=hD.m.fr i kk oM (hmlt j i hi) he;omega
    ·rcases hD.m.ffr kk (by unfold InF;rw[hFl];exact hinc kk hf2) with h|h
     ·omega
     exact hf h
    have:=hn i hi
    rw[hρo i oM] at this
    exact this
   ·have hnb:nb<=bl.length:=hD.m.nbl
    rw[hρo i oM]
    exact hD.m.pl i hi
   ·obtain⟨i,hi⟩:=dD hF
    have hi':fl'[i]? =some F:=hi
    rcases hfc i F hi' with ⟨h1,h2,_⟩|⟨t,h1,_⟩
    ·have hF':F∈ρ.F:=by rw[hFl];exact aX h1
     refine⟨(hD.m.fam.ok F hF').1,λj hj=>((hD.m.fam.ok F hF').2 j hj).mono kp.z λb hb=>?_⟩
     refine hDr.rel.block b (hD.m.fam.lt (hula i j F b h1 hj hb)) (λj2 hj2 he=>?_) (hul i j F b h1 h2 hj hb)
     obtain⟨i',hi'⟩:=hmj j2 hj2
     rw[hpl j2 i' hi'] at he
     exact hD.m.fam.own i' b (hmlt j2 i' hi') he (hula i j F b h1 hj hb)
    have hF':F∈ρ'.F:=by rw[hFr];exact aX h1
    exact⟨(hDr.fam.ok F hF').1,λj hj=>((hDr.fam.ok F hF').2 j hj).mono (λb hb=>⟨hz2 b hb,rfl⟩) λb _=>rfl⟩
   ·have hi':i<bl.length+((R g).bl.length-m.length):=by rw[<-hlen];exact hi
    rcases hin' b hf with hf|hf
    ·by_cases h1:i<bl.length
     ·rw[hρo i h1] at hb;exact hD.m.fam.own i b h1 hb hf
     obtain⟨t,rfl⟩:∃t,i=bl.length+t:=⟨i-bl.length,by omega⟩
     rw[hρn t] at hb
     have:=hfresh t b oM hb
     have:=hD.m.fam.lt hf
     omega
    by_cases h1:i<bl.length
    ·rw[hρo i h1] at hb
     by_cases h2:i∈m
     ·obtain⟨j,hj⟩:=dD h2
      refine hDr.fam.own j b ?_ (by rw[hpl j i hj];exact hb) (by unfold InF;rw[hFr];exact hf)
      have:=eP hj;omega
     rcases hcb b hf with h|h
     ·have:=hD.m.lt h1 hb;omega
     exact hD.m.fam.own i b h1 hb (by unfold InF;rw[hFl];exact hinc b h)
    obtain⟨t,rfl⟩:∃t,i=bl.length+t:=⟨i-bl.length,by omega⟩
    rw[hρn t] at hb
    exact hDr.fam.own (m.length+t) b oM hb (by unfold InF;rw[hFr];exact hf)
   ·have h1':fl'[f1]? =some F1:=h1
    have h2':fl'[f2]? =some F2:=h2
    rcases hfc f1 F1 h1' with ⟨a1,a2,a3⟩|⟨t1,a1,a2⟩<;>rcases hfc f2 F2 h2' with ⟨c1,c2,c3⟩|⟨t2,c1,c2⟩
    ·exact hD.m.fam.inj f1 f2 F1 F2 j1 j2 b (by rw[hFl];exact a1) (by rw[hFl];exact c1) h3 h4 h5 h6
    ·rcases hcb b ⟨F2,aX c1,j2,h4,h6⟩ with h|h
     ·have:=hD.m.fam.lt (hula f1 j1 F1 b a1 h3 h5);omega
     exact absurd h (hul f1 j1 F1 b a1 a2 h3 h5)
    ·rcases hcb b ⟨F1,aX a1,j1,h3,h5⟩ with h|h
     ·have:=hD.m.fam.lt (hula f2 j2 F2 b c1 h4 h6);omega
     exact absurd h (hul f2 j2 F2 b c1 c2 h4 h6)
    obtain⟨e1,e2⟩:=hDr.fam.inj t1 t2 F1 F2 j1 j2 b (by rw[hFr];exact a1) (by rw[hFr];exact c1) h3 h4 h5 h6
    subst e1
    refine⟨?_,e2⟩
    rcases a2 with a2|⟨a2,a3⟩<;>rcases c2 with c2|⟨c2,c3⟩
    ·rw[a2] at c2;injection c2
    ·have:=eP a2;omega
    ·have:=eP c2;omega
    omega
   ·rcases hin' b hb with h|h
    ·exact hD.m.ffr b h
    rcases hcb b h with h|h
    ·exact .inl (bA hD.m.rel.size h)
    exact hD.m.ffr b (by unfold InF;rw[hFl];exact hinc b h)
   obtain⟨hm0,hf0⟩:=honly' ho
   have hb0:bl0.length=0:=by rw[<-hml,hm0];rfl
   have hb1:fl0=[]:=bX (by rw[<-hmfl,hf0];rfl)
   refine⟨hDr.rel.os,hDr.rel.tape,hDr.rel.output,hwl,λkk hkk=>hDr.rel.block kk hkk (λj hj=>by omega) λhf=>?_⟩
   have hf':InL fl0 kk:=hf
   rw[hb1] at hf'
   obtain⟨F,hF,_⟩:=hf'
   cases hF
  by_cases h1:j<m.length
  ·have hj1:=aK h1
   refine⟨m[j],by unfold aVy;rw[bW h1];exact hj1,?_,?_⟩
   ·have:=hmlt j _ hj1;omega
   rw[hpl j _ hj1,hρo _ (hmlt j _ hj1)]
  obtain⟨t,rfl⟩:∃t,j=m.length+t:=⟨j-m.length,by omega⟩
  refine⟨bl.length+t,?_,by omega,(hρn t).symm⟩
  unfold aVy
  rw[cO oM,show m.length+t-m.length=t by omega,aGl _ _ _ oM,zS]
 ·by_cases h1:i<bl.length
  ·rw[hρo i h1];exact hb.no i h1
  obtain⟨t,rfl⟩:∃t,i=bl.length+t:=⟨i-bl.length,by omega⟩
  rw[hρn t]
  intro he
  have:=hfresh t b oM he
  have:=hb.lt
  omega
 ·rcases hin' b hf with h|h
  ·exact hb.nf h
  rcases hcb b h with h|h
  ·have:=hb.lt;omega
  exact hb.nf (by unfold InF;rw[hFl];exact hinc b h)
 obtain⟨i,hi⟩:=hmj j hj
 rw[hpl j i hi]
 exact hb.no i (hmlt j i hi)
end
/-! ### what the machine does -/
section run
variable {P:Program} {w:World}
theorem aGn (D:TypeDesc) (hD:D= .int .i64) (z:Int):∀(es:List MapEntry) (i:Nat),(∀e∈es,∃n:Nat,e.key= .int .i64 n)->
 (Instr.findNow D (.int .i64 z) es i=some none/\∀e∈es,e.key≠.int .i64 z)\/∃(j:Nat) (e:MapEntry),es[j]? =some e/\e.key= .int .i64 z/\Instr.findNow D (.int .i64 z) es i=some (some (i+j,e.val))
 |[],i,_=> .inl ⟨rfl,λe he=>absurd he fA⟩
 |e::es,i,h=>by
  subst hD
  obtain⟨n,hn⟩:=h e (.head _)
  unfold Instr.findNow
  rw[hn]
  simp only[Instr.sameNow,if_true]
  by_cases hz:z=n
  ·subst hz
   simp only[BEq.rfl]
   exact .inr ⟨0,e,rfl,hn,rfl⟩
  have:(z==(n:Int))=false:=by simpa using hz
  simp only[this]
  rcases aGn (.int .i64) rfl z es (i+1) (λe he=>h e (.tail _ he)) with ⟨h1,h2⟩|⟨j,e',h1,h2,h3⟩
  ·refine .inl ⟨h1,λe' he'=>?_⟩
   rcases bJ.1 he' with rfl|he'
   ·rw[hn];intro hh;injection hh with _ hh;exact hz hh.symm
   exact h2 e' he'
  exact .inr ⟨j+1,e',h1,h2,by rw[h3,kO,jY 1 j]⟩
def yH (l:List CV) (c n:Nat):List CV×Nat:=if n∈l.map pQ then (l,c) else (l++[.h (some c) n 0],c+1)
def aEo (l:List CV) (n:Nat):List CV:=l.filter λc=>!Nat.beq (pQ c) n
abbrev aDg (w:World) (b:Nat) (o:Obj):World:={w with heap:=w.heap.setIfInBounds b o}
theorem aNg (b:Nat) (o:Obj):Exc b w (aDg w b o):=⟨rfl,rfl,rfl,by simp[aDg],λk _ hne=>by simp[aDg,rH (iQ hne)]⟩
theorem aSr {b:Nat} {o o':Obj} (h:w.heap[b]? =some o'):(aDg w b o).heap[b]? =some o:=by
 have hlt:=fW h
 simp[aDg,hlt]
theorem aIq {k:TypeId} {z:Int} (hk:P.underlying k=some (.int .i64)) (e:Bool):(Instr.checkKey e 10000 k (.int .i64 z)).run P w= .ok () w:=by
 unfold Instr.checkKey
 simp only[Sem.run_bind,run_underlying hk,Result.andThen_ok]
 rfl
theorem wM {e:MapEntry} (h:∃n:Nat,e.key= .int .i64 n) (m:Nat):pQ (yF e)=m↔e.key= .int .i64 m:=by
 obtain⟨n,hn⟩:=h
 unfold yF
 rw[hn]
 simp only[pQ,bP,Value.int.injEq,true_and]
 omega
section ml
variable {es:Array MapEntry} {clock:Nat} {l:List CV}
theorem MapL.mem (h:MapL es clock l) (n:Nat):n∈l.map pQ↔∃e∈es.toList,e.key= .int .i64 n:=by
 rw[<-h.en,nW]
 constructor
 ·intro hh
  obtain⟨e,he,h2⟩:=cP.1 hh
  exact⟨e,he,(wM (h.ky e he).1 n).1 h2⟩
 rintro⟨e,he,h2⟩
 exact cP.2 ⟨e,he,(wM (h.ky e he).1 n).2 h2⟩
theorem MapL.len (h:MapL es clock l):l.length=es.size:=by rw[<-h.en];simp
theorem MapL.nodup (h:MapL es clock l):(l.map pQ).Nodup:=by
 rw[<-h.en,nW]
 have h1:=h.nd
 have h2:=h.ky
 clear h
 revert h1 h2
 generalize es.toList=L
 intro h1 h2
 induction L with
 |nil=>exact rB
 |cons e L ih=>
  rw[eT,mN] at h1
  rw[eT,mN]
  refine⟨λhm=>?_,ih h1.2 λe he=>h2 e (.tail _ he)⟩
  obtain⟨e',he',h4⟩:=cP.1 hm
  obtain⟨n,hn⟩:=(h2 e (.head _)).1
  have h5:=(wM (h2 e' (.tail _ he')).1 n).1 (h4.trans ((wM ⟨n,hn⟩ n).2 hn))
  exact h1.1 (cP.2 ⟨e',he',h5.trans hn.symm⟩)
end ml
theorem bHv {t kt et:TypeId} {b n clock:Nat} {es:Array MapEntry} {l:List CV} (ht:P.underlying t=some (.map kt et)) (hk:P.underlying kt=some (.int .i64)) (hb:w.heap[b]? =some (.map es clock)) (hm:MapL es clock l):
 ∃es',(Instr.mapUpdate t (.map (some b)) (.int .i64 n) (.bool true)).run P w= .ok () (aDg w b (.map es' (yH l clock n).2))/\MapL es' (yH l clock n).2 (yH l clock n).1:=by
 have hky:∀e∈es.toList,∃n:Nat,e.key= .int .i64 n:=λe he=>(hm.ky e he).1
 unfold Instr.mapUpdate
 simp only[Sem.run_bind,run_underlying ht,Result.andThen_ok,MapKept.run_getObj_map hb,aIq hk,Instr.findKey,run_underlying hk]
 rcases aGn (.int .i64) rfl (n:Int) es.toList 0 hky with ⟨h1,h2⟩|⟨j,e,h1,h2,h3⟩
 ·have hno:n∉l.map pQ:=λhh=>by obtain⟨e,he,h4⟩:=(hm.mem n).1 hh;exact h2 e he h4
  rw[h1]
  have e1:yH l clock n=(l++[.h (some clock) n 0],clock+1):=if_neg hno
  rw[e1]
  refine⟨es.push {key:=.int .i64 n,val:=.bool true,born:=clock},?_,?_,?_,?_,?_⟩
  ·simp only[Sem.run_pure,Result.andThen_ok]
   exact MapKept.run_setObj_map _ hb
  ·rw[rF,dI,hm.en]
   rfl
  ·intro e he
   rw[rF] at he
   rcases bB.1 he with he|he
   ·obtain⟨a1,a2,a3⟩:=hm.ky e he;exact⟨a1,a2,by omega⟩
   rw[aT.1 he];exact⟨⟨n,rfl⟩,rfl,dK _⟩
  ·rw[rF,dI,mY]
   refine⟨hm.nd,by simp,λa ha b hb he=>?_⟩
   obtain⟨e,he1,rfl⟩:=cP.1 ha
   simp only[eT,List.map_nil,aT] at hb
   exact h2 e he1 (he.trans hb)
  rw[rF,dI,mY]
  refine⟨hm.nb,by simp,λa ha b hb he=>?_⟩
  obtain⟨e,he1,rfl⟩:=cP.1 ha
  simp only[eT,List.map_nil,aT] at hb
  have:=(hm.ky e he1).2.2
  omega
 rw[h3]
 have hin:n∈l.map pQ:=(hm.mem n).2 ⟨e,aX h1,h2⟩
 have e1:yH l clock n=(l,clock):=if_pos hin
 rw[e1]
 have hj:es[j]? =some e:=by rw[<-dO];exact h1
 have hst:(Instr.keyThatStays (((es[0+j]?).map (·.key)).getD (.int .i64 n)) (.int .i64 n)).run P w= .ok (.int .i64 n) w:=by
  rw[fK,hj]
  unfold Instr.keyThatStays
  simp only[Option.map_some,Option.getD_some,h2,Instr.sameBits,BEq.rfl,Bool.and_self,if_true]
  rfl
 have hmod:(es.modify (0+j) λe=>{e with key:=.int .i64 n,val:=.bool true})=es:=by
  rw[fK]
  refine Array.ext (by simp) λi h4 h5=>?_
  rw[Array.getElem_modify]
  split
  ·next hij=>
   subst hij
   have h6:es[j]=e:=by rw[uO h5] at hj;injection hj
   rw[h6]
   obtain⟨_,a2,_⟩:=hm.ky e (aX h1)
   cases e
   simp only at h2 a2
   subst h2 a2
   rfl
  rfl
 refine⟨es,?_,hm⟩
 simp only[Sem.run_pure,Result.andThen_ok]
 simp only[Sem.run_bind]
 rw[hst]
 simp only[Result.andThen_ok,hmod]
 exact MapKept.run_setObj_map _ hb
theorem aBw {α:Type} {f:α->Nat} {n:Nat}:∀{L:List α} {j:Nat} {a:α},(L.map f).Nodup->L[j]? =some a->f a=n->(L.filter λc=>!Nat.beq (f c) n)=L.eraseIdx j
 |[],_,_,_,h,_=>by cases h
 |b::L,0,a,hn,h,ha=>by
  injection h with h
  subst h
  rw[eT,mN] at hn
  have e1:Nat.beq (f b) n=true:=by rw[ha];exact iX n
  rw[nN,e1]
  simp only[lM,iD,if_false,List.eraseIdx_zero,List.tail_cons]
  refine nE.2 λc hc=>?_
  cases hb:Nat.beq (f c) n with
  |false=>rfl
  |true=>exact absurd (cP.2 ⟨c,hc,(aO hb).trans ha.symm⟩) hn.1
 |b::L,j+1,a,hn,h,ha=>by
  rw[eT,mN] at hn
  have h':L[j]? =some a:=h
  have e1:Nat.beq (f b) n=false:=by
   cases hb:Nat.beq (f b) n with
   |false=>rfl
   |true=>exact absurd (cP.2 ⟨a,aX h',ha.trans (aO hb).symm⟩) hn.1
  rw[nN,e1]
  simp only[Bool.not_false,if_true,List.eraseIdx_cons_succ]
  rw[aBw hn.2 h' ha]
theorem aGo {α β:Type} {f:α->β}:∀{L:List α} {j:Nat},(L.eraseIdx j).map f=(L.map f).eraseIdx j
 |[],_=>rfl
 |_::_,0=>rfl
 |b::L,j+1=>by simp only[List.eraseIdx_cons_succ,eT,aGo]
theorem bHw {t kt et ty:TypeId} {b n clock:Nat} {es:Array MapEntry} {l:List CV} (ht:P.underlying t=some (.map kt et)) (hk:P.underlying kt=some (.int .i64)) (hb:w.heap[b]? =some (.map es clock)) (hm:MapL es clock l) {ts:Array TypeId} (hts:ts[0]? =some t):
 ∃es',(Builtin.delete_ ts ty #[.map (some b),.int .i64 n]).run P w= .ok (.tuple #[]) (aDg w b (.map es' clock))/\MapL es' clock (aEo l n):=by
 have hky:∀e∈es.toList,∃n:Nat,e.key= .int .i64 n:=λe he=>(hm.ky e he).1
 unfold Builtin.delete_
 simp only[hts,show(#[Value.map (some b),.int .i64 n]:Array Value)[0]? =some (.map (some b)) from rfl,show(#[Value.map (some b),.int .i64 n]:Array Value)[1]? =some (.int .i64 n) from rfl]
 simp only[Sem.run_bind,run_underlying ht,Result.andThen_ok,MapKept.run_getObj_map hb,aIq hk,Instr.findKey,run_underlying hk]
 rcases aGn (.int .i64) rfl (n:Int) es.toList 0 hky with ⟨h1,h2⟩|⟨j,e,h1,h2,h3⟩
 ·rw[h1]
  have hno:n∉l.map pQ:=λhh=>by obtain⟨e,he,h4⟩:=(hm.mem n).1 hh;exact h2 e he h4
  have e1:aEo l n=l:=nE.2 λc hc=>by
   cases hb:Nat.beq (pQ c) n with
   |false=>rfl
   |true=>exact absurd (cP.2 ⟨c,hc,aO hb⟩) hno
  rw[e1]
  refine⟨es,?_,hm⟩
  simp only[Sem.run_pure,Result.andThen_ok]
  simp only[Sem.run_bind,MapKept.run_setObj_map _ hb,Result.andThen_ok]
  rfl
 rw[h3]
 have hjs:j<es.size:=by have:=eP h1;simpa using this
 have htl:(es.eraseIdxIfInBounds (0+j)).toList=es.toList.eraseIdx j:=by
  rw[fK,Array.toList_eraseIdxIfInBounds]
 have hsub:(es.toList.eraseIdx j).Sublist es.toList:=List.eraseIdx_sublist _ _
 refine⟨es.eraseIdxIfInBounds (0+j),?_,?_,λe he=>?_,?_,?_⟩
 ·simp only[Sem.run_pure,Result.andThen_ok]
  simp only[Sem.run_bind,MapKept.run_setObj_map _ hb,Result.andThen_ok]
  rfl
 ·rw[htl,<-hm.en,aEo,aBw (f:=pQ) (j:=j) (a:=yF e) (by rw[hm.en];exact hm.nodup) (by rw[fQ,h1];rfl) ((wM (hm.ky e (aX h1)).1 n).2 h2),aGo]
 ·rw[htl] at he;exact hm.ky e (hsub.subset he)
 ·rw[htl];exact hm.nd.sublist (hsub.map _)
 rw[htl];exact hm.nb.sublist (hsub.map _)
theorem aZk {t kt et ty:TypeId} {b clock:Nat} {es:Array MapEntry} (ht:P.underlying t=some (.map kt et)) (hb:w.heap[b]? =some (.map es clock)) {ts:Array TypeId} (hts:ts[0]? =some t):
 (Builtin.len_ ts ty #[.map (some b)]).run P w= .ok (.int .i64 es.size) w:=by
 unfold Builtin.len_
 simp only[hts,show(#[Value.map (some b)]:Array Value)[0]? =some (.map (some b)) from rfl]
 simp only[Sem.run_bind,run_underlying ht,Result.andThen_ok,MapKept.run_getObj_map hb]
 rfl
theorem yI {e:MapEntry} (h:∃n:Nat,e.key= .int .i64 n):aIo (yF e)=e.born:=by
 obtain⟨n,hn⟩:=h
 unfold yF
 rw[hn]
 rfl
theorem aNh {es:Array MapEntry} {clock:Nat} {l:List CV} (hm:MapL es clock l) (seen:Array Nat):(leftOf es seen).toList.map yF=l.filter λc=>!seen.contains (aIo c):=by
 unfold leftOf
 rw[nF,<-hm.en,List.filter_map]
 refine congrArg _ (vD λe he=>?_)
 show _=!seen.contains (aIo (yF e))
 rw[yI (hm.ky e he).1]
theorem bHx {b r clock:Nat} {ty:TypeId} {es:Array MapEntry} {l:List CV} (hb:w.heap[b]? =some (.map es clock)) (hm:MapL es clock l) {since st:Nat} {seen:Array Nat} {g:Nat->List CV} (hr:w.heap[r]? =some (.mapIter (some b) since seen st)) (hi:ItL since seen st g) (hg:g 1=l):
 (g 0=[]/\(Instr.next (.pointer (some ⟨r,0,none⟩)) false ty).run P w= .ok (.tuple #[.bool false]) w)\/
 ∃(p q:List CV) (c:CV) (v1 v2:Value) (w1:World) (seen':Array Nat),g 0=p++c::q/\(w1=w\/w1=w.drew)/\(Instr.next (.pointer (some ⟨r,0,none⟩)) false ty).run P w= .ok (.tuple #[.bool true,v1,v2]) (aDg w1 r (.mapIter (some b) since seen' clock))/\(since<=clock->ItL since seen' clock λk=>match k with|0=>p++q|1=>l|_=>[c]):=by
 have hold:∀x∈es.toList,x.born<since:=λx hx=>by
  have:=hi.lt (yF x) (by rw[hg,<-hm.en];exact cP.2 ⟨x,hx,rfl⟩)
  rwa [yI (hm.ky x hx).1] at this
 have hrest:g 0=(leftOf es seen).toList.map yF:=by rw[hi.rest,hg,aNh hm]
 rcases run_next_at (P:=P) w ty r b since st seen es clock hr hb hold hi.le with ⟨h1,h2⟩|⟨e,he,w1,hw1,h2⟩
 ·refine .inl ⟨?_,h2⟩
  rw[hrest,lD]
  exact bX (by simpa using h1)
 obtain⟨p,q,hpq⟩:=List.append_of_mem he
 have hes:e∈es.toList:=by
  unfold leftOf at he
  rw[nF] at he
  exact(qB.1 he).1
 refine .inr ⟨p.map yF,q.map yF,yF e,e.key,e.val,w1,seen.push e.born,by rw[hrest,hpq];simp,hw1,h2,λhsc=>⟨hsc,λc hc=>?_,?_,λc hc=>?_⟩⟩
 ·exact hi.lt c (by rw[hg];exact hc)
 ·show p.map yF++q.map yF=l.filter _
  rw[<-aNh hm]
  have hnb:((leftOf es seen).toList.map (·.born)).Nodup:=by
   unfold leftOf
   rw[nF]
   exact hm.nb.sublist (List.filter_sublist.map _)
  have h5:(leftOf es (seen.push e.born)).toList=(leftOf es seen).toList.filter λx=>!(x.born==e.born):=by
   unfold leftOf
   rw[nF,nF,uD]
   refine vD λx hx=>?_
   rw[Array.contains_push,Bool.not_or,Bool.and_comm]
  rw[h5,hpq,<-dI]
  refine congrArg _ ?_
  rw[hpq,dI,eT,mY] at hnb
  obtain⟨n1,n2,n3⟩:=hnb
  rw[mN] at n2
  rw[List.filter_append,nN]
  simp only[BEq.rfl,lM,iD,if_false]
  rw[nE.2 λx hx=>?_,nE.2 λx hx=>?_]
  ·have:x.born≠e.born:=λhh=>n2.1 (cP.2 ⟨x,hx,hh⟩)
   simpa using this
  have:x.born≠e.born:=n3 x.born (cP.2 ⟨x,hx,rfl⟩) e.born (.head _)
  simpa using this
 have hc':[yF e]=[c]:=hc
 injection hc' with hc'
 subst hc'
 rw[yI (hm.ky e hes).1]
 simp
theorem bHy {b r clock:Nat} {es:Array MapEntry} {l:List CV} (hb:w.heap[b]? =some (.map es clock)) (hm:MapL es clock l) {since:Nat} {seen:Array Nat} {g:Nat->List CV} (hr:w.heap[r]? =some (.mapIter (some b) since seen clock)) (hi:ItL since seen clock g) {c:CV} (hc:g 2=[c]) (hcl:c∈l):
 (Instr.entry (.pointer (some ⟨r,0,none⟩))).run P w= .ok (.tuple #[.int .i64 (pQ c),.bool true]) w:=by
 rw[<-hm.en] at hcl
 obtain⟨e,he,rfl⟩:=cP.1 hcl
 have h1:=hi.cur _ hc
 rw[yI (hm.ky e he).1] at h1
 have hsz:0<seen.size:=by
  rcases dB seen.size with h|h
  ·have:seen=#[]:=Array.eq_empty_of_size_eq_zero h
   rw[this] at h1;cases h1
  exact h
 have hpop:seen=seen.pop.push e.born:=by
  rw[Array.back?_eq_getElem?] at h1
  have h3:seen.size-1<seen.size:=by omega
  rw[uO h3] at h1
  injection h1 with h1
  exact(Array.eq_push_pop_back!_of_size_ne_zero oM).trans (by
   congr 1
   simp[Array.back!,h3,h1])
 rw[hpop] at hr
 rw[run_entry_at w r b since seen.pop es clock e hr hb he hm.nb]
 obtain⟨⟨n,hn⟩,hv,_⟩:=hm.ky e he
 have hk:pQ (yF e)=n:=(wM ⟨n,hn⟩ n).2 hn
 rw[hk,hn,hv]
end run
/-! ### what they make of a state -/
def mpT (T:TT) (t:Nat):Bool:=match T t with
 |some ti=>ti.mp
 |none=>false
def aPh (l:List CV):Nat->List CV
 |0=>l
 |1=>l
 |_=>[]
def aBx (p q l:List CV) (c:CV):Nat->List CV
 |0=>p++q
 |1=>l
 |_=>[c]
def aZl (T:TT) (pg:Option Prop) (gs:Gs) (s:SS) (t:Nat) (x:Operand) (k:DV->Prop):Prop:=bif mpT T t then (match val gs s x with
 |some (.c (.v (.map (some b))))=>∃g j:Nat,(match s.fl[g]? with
  |some F=>bif Nat.beq F.T 1000000 then ob pg (j<F.N/\F.A j=some b)/\k (.c (.v (.int .i64 (F.get j).length))) else False
  |none=>False)
 |_=>False) else False
def bNt (T:TT) (s:SS) (t:Nat) (k:SS->DV->Prop):Prop:=bif mpT T t then ∀b,uV s.fl ⟨1000000,1,1,λ_=>some b,λ_=>0,λ_=>[]⟩ λfl'=>k ⟨s.sl,s.gl,s.bl,fl'⟩ (.c (.v (.map (some b)))) else False
def aZm (T:TT) (s:SS) (t:Nat) (m x v:Operand) (k:SS->Prop):Prop:=bif mpT T t then (match val [] s m,val [] s x,val [] s v with
 |some (.c (.v (.map (some b)))),some (.c (.v (.int .i64 z))),some (.c (.v (.bool true)))=>∃g j n:Nat,(match s.fl[g]? with
  |some F=>bif Nat.beq F.T 1000000 then (j<F.N/\F.A j=some b/\z=n)/\qE s.fl g ⟨F.T,F.es,F.N,F.A,upd F.cap j (yH (F.get j) (F.cap j) n).2,upd F.get j (yH (F.get j) (F.cap j) n).1⟩ λfl'=>k ⟨s.sl,s.gl,s.bl,fl'⟩ else False
  |none=>False)
 |_,_,_=>False) else False
def aZn (T:TT) (s:SS) (t:Nat) (m x:Operand) (k:SS->Prop):Prop:=bif mpT T t then (match val [] s m,val [] s x with
 |some (.c (.v (.map (some b)))),some (.c (.v (.int .i64 z)))=>∃g j n:Nat,(match s.fl[g]? with
  |some F=>bif Nat.beq F.T 1000000 then (j<F.N/\F.A j=some b/\z=n)/\qE s.fl g ⟨F.T,F.es,F.N,F.A,F.cap,upd F.get j (aEo (F.get j) n)⟩ λfl'=>k ⟨s.sl,s.gl,s.bl,fl'⟩ else False
  |none=>False)
 |_,_=>False) else False
def aZo (T:TT) (s:SS) (t:Nat) (x:Operand) (k:SS->DV->Prop):Prop:=bif mpT T t then (match val [] s x with
 |some (.c (.v (.map (some b))))=>∃g j:Nat,(match s.fl[g]? with
  |some F=>bif Nat.beq F.T 1000000 then (j<F.N/\F.A j=some b)/\∀r,uV s.fl ⟨1000001,1,1,λ_=>some r,λ_=>0,λ_=>[.r none 0 b (F.cap j) (aPh (F.get j))]⟩ λfl'=>k ⟨s.sl,s.gl,s.bl,fl'⟩ (.c (.hp r 0)) else False
  |none=>False)
 |_=>False) else False
def aZp (s:SS) (it:Operand) (k:SS->DV->Prop):Prop:=match val [] s it with
 |some (.c (.hp r 0))=>∃(gi g j b st:Nat) (gg:Nat->List CV),(match s.fl[gi]?,s.fl[g]? with
  |some I,some F=>bif Nat.beq I.T 1000001&&Nat.beq F.T 1000000 then (0<I.N/\I.A 0=some r/\I.get 0=[.r none 0 b st gg]/\j<F.N/\F.A j=some b/\gg 1=F.get j/\st<=F.cap j)/\
   (gg 0=[]->k s (.t [.c (.v (.bool false))]))/\∀p c q,gg 0=p++c::q->qE s.fl gi ⟨I.T,I.es,I.N,I.A,I.cap,upd I.get 0 [.r none 0 b (F.cap j) (aBx p q (F.get j) c)]⟩ λfl'=>k ⟨s.sl,s.gl,s.bl,fl'⟩ (.t [.c (.v (.bool true)),.c .u,.c .u])
   else False
  |_,_=>False)
 |_=>False
def aZq (s:SS) (it:Operand) (k:SS->DV->Prop):Prop:=match val [] s it with
 |some (.c (.hp r 0))=>∃(gi g j b:Nat) (c:CV) (gg:Nat->List CV),(match s.fl[gi]?,s.fl[g]? with
  |some I,some F=>bif Nat.beq I.T 1000001&&Nat.beq F.T 1000000 then (0<I.N/\I.A 0=some r/\I.get 0=[.r none 0 b (F.cap j) gg]/\j<F.N/\F.A j=some b/\gg 2=[c]/\c∈F.get j)/\k s (.t [.c (.v (.int .i64 (pQ c))),.c (.v (.bool true))])
   else False
  |_,_=>False)
 |_=>False
section ok
variable {P:Program} {T:TT} (hT:Good P T) {w0 w:World} {nb:Nat} {s:SS} {ρ ρ0:Pl} {f:Nat->Value} {gs:Gs} {pg:Option Prop} {dst:Option Tmp} {ty:TypeId} {pos:String} {aft:Array Edge} {gd:Option (Nat×Bool)} {m x v y:Operand} {t t':TypeId} {k:SS->DV->Prop} {ks:SS->Prop} {kd:DV->Prop}
theorem aSs (hT:Good P T) (h:mpT T t=true):∃kt et,P.underlying t=some (.map kt et)/\P.underlying kt=some (.int .i64):=by
 unfold mpT at h
 cases ht:T t with
 |none=>rw[ht] at h;cases h
 |some ti=>rw[ht] at h;exact(hT t ti ht).mp h
theorem Dn.fadd (hD:Dn ρ0 w0 nb s ρ f w) {ob:Obj} {F:Fam} (hes:0<F.es) (hN:F.N=1) (hA:F.A 0=some w.heap.size) (hT0:Nat.ble F.T 999999=false) (hob:ObR F.T (F.cap 0) (F.get 0) ob):Dn ρ0 w0 nb ⟨s.sl,s.gl,s.bl,s.fl++[F]⟩ ⟨ρ.at',ρ.Z,s.fl++[F]⟩ f (w.alloc ob):=by
 have e:Ext w (w.alloc ob):=oE w ob
 have hl:=hD.l
 have hin:∀b,InL (s.fl++[F]) b->InF ρ b\/b=w.heap.size:=λb ⟨G,hG,j,hj,hb⟩=>by
  rcases bB.1 hG with hG|hG
  ·exact .inl ⟨G,by rw[hl];exact hG,j,hj,hb⟩
  rw[aT.1 hG] at hj hb
  obtain rfl:j=0:=by omega
  rw[hA] at hb
  injection hb with hb
  exact .inr hb.symm
 have hz:∀b,Zf ρ s.bl.length w b->Zf ⟨ρ.at',ρ.Z,s.fl++[F]⟩ s.bl.length (w.alloc ob) b/\(w.alloc ob).heap[b]? =w.heap[b]?:=λb hb=>⟨⟨bH hb.lt e.size,hb.no,hb.z,λhi=>by
  rcases hin b hi with h1|h1
  ·exact hb.nf h1
  have:=hb.lt;omega⟩,e.block b hb.lt⟩
 have kp:Kp ρ s.bl.length w ⟨ρ.at',ρ.Z,s.fl++[F]⟩ s.bl.length (w.alloc ob):=⟨aI _,λ_ _=>rfl,hz⟩
 have hr:=hD.m.rel.ext e
 have hsrc:∀(g:Nat) (G:Fam) (j b:Nat),(s.fl++[F])[g]? =some G->j<G.N->G.A j=some b->(ρ.F[g]? =some G)\/(g=s.fl.length/\j=0/\b=w.heap.size):=λg G j b hg hj hb=>by
  rcases tS hg with ⟨e1,rfl⟩|⟨_,e2⟩
  ·obtain rfl:j=0:=by omega
   rw[hA] at hb
   injection hb with hb
   exact .inr ⟨e1,rfl,hb.symm⟩
  exact .inl (by rw[hl];exact e2)
 refine⟨⟨λi T es l hi=>(hD.m.ok i T es l hi).kp kp (eP hi) λb hb=>e.block b ((hD.m.ok i T es l hi).lt hb),hD.m.inj,hD.m.fr,hD.m.nbl,⟨hr.os,hr.tape,hr.output,hr.size,hr.block⟩,hD.m.pl,hD.m.zz,⟨λG hG=>?_,λi b hi hb hf=>?_,λf1 f2 F1 F2 j1 j2 b h1 h2 h3 h4 h5 h6=>?_⟩,λb hb=>?_⟩,hD.f.kp rfl rfl kp,rfl⟩
 ·rcases bB.1 hG with hG|hG
  ·have hG':G∈ρ.F:=by rw[hl];exact hG
   exact⟨(hD.m.fam.ok G hG').1,λj hj=>((hD.m.fam.ok G hG').2 j hj).mono hz λb hb=>e.block b (((hD.m.fam.ok G hG').2 j hj).lt hb)⟩
  rw[aT.1 hG]
  refine⟨hes,λj hj=>?_⟩
  obtain rfl:j=0:=by omega
  unfold Mq
  simp only[hA,hT0,cond_false]
  exact⟨ob,heap_alloc_new w ob,hob⟩
 ·rcases hin b hf with h1|h1
  ·exact hD.m.fam.own i b hi hb h1
  have:=hD.m.lt hi hb;omega
 ·have low:∀(g:Nat) (G:Fam) (j b:Nat),ρ.F[g]? =some G->j<G.N->G.A j=some b->b<w.heap.size:=λg G j b hg hj hb=>hD.m.fam.lt ⟨G,aX hg,j,hj,hb⟩
  rcases hsrc f1 F1 j1 b h1 h3 h5 with a|⟨a1,a2,a3⟩<;>rcases hsrc f2 F2 j2 b h2 h4 h6 with c|⟨c1,c2,c3⟩
  ·exact hD.m.fam.inj f1 f2 F1 F2 j1 j2 b a c h3 h4 h5 h6
  ·have:=low f1 F1 j1 b a h3 h5;omega
  ·have:=low f2 F2 j2 b c h4 h6;omega
  exact⟨a1.trans c1.symm,a2.trans c2.symm⟩
 rcases hin b hb with h1|h1
 ·exact hD.m.ffr b h1
 rw[h1];exact .inl hD.m.rel.size
theorem Dn.map (hD:Dn ρ0 w0 nb s ρ f w) {g j b:Nat} {F:Fam} (hF:s.fl[g]? =some F) (ht:Nat.beq F.T 1000000=true) (hj:j<F.N) (hA:F.A j=some b):∃es,w.heap[b]? =some (.map es (F.cap j))/\MapL es (F.cap j) (F.get j):=by
 have e:=aO ht
 obtain⟨ob,h1,h2⟩:=(hD.m.fam.mem hD.l hF hj).ob hA (by rw[e];rfl)
 rw[e] at h2
 obtain⟨es,h3,h4⟩:=h2
 exact⟨es,h3▸h1,h4⟩
theorem Dn.itr (hD:Dn ρ0 w0 nb s ρ f w) {g r:Nat} {F:Fam} (hF:s.fl[g]? =some F) (ht:Nat.beq F.T 1000001=true) (hj:0<F.N) (hA:F.A 0=some r):∃m since seen st gg,F.get 0=[.r none 0 m st gg]/\w.heap[r]? =some (.mapIter (some m) since seen st)/\ItL since seen st gg:=by
 have e:=aO ht
 obtain⟨ob,h1,h2⟩:=(hD.m.fam.mem hD.l hF hj).ob hA (by rw[e];rfl)
 rw[e] at h2
 obtain⟨m,since,seen,st,gg,h3,h4,h5⟩:=h2
 exact⟨m,since,seen,st,gg,h3,h4▸h1,h5⟩
include hT in
theorem aZr (hMT:Nat.beq t MT=true) (h:aZl T pg gs s t x kd) (hD:Dn ρ0 w0 nb s ρ f w) (hp:sat f gs->aEm pg):Pu P f ⟨dst,.call ⟨.builtin .len,#[x],#[t]⟩,ty,pos,aft,gd⟩ w ρ s.bl.length gs kd:=by
 unfold aZl at h
 cases hm:mpT T t with
 |false=>rw[hm] at h;exact h.elim
 |true=>
 rw[hm] at h
 simp only[cond_true] at h
 obtain⟨kt,et,hu,hk⟩:=aSs hT hm
 split at h
 ·next b hx=>
  obtain⟨g,j,h⟩:=h
  split at h
  ·next F hF=>
   cases ht:Nat.beq F.T 1000000 with
   |false=>rw[ht] at h;exact h.elim
   |true=>
   rw[ht] at h
   simp only[cond_true] at h
   obtain⟨hob,h⟩:=h
   refine⟨_,h,λhs=>⟨_,.c (Rc.v _),λu hu'=>?_⟩⟩
   obtain⟨hj,hA⟩:=oD hob (hp hs)
   obtain⟨es,h1,h2⟩:=hD.map hF ht hj hA
   have e:Ext w u:=hu' hMT
   have hx':=(cF hD.f hs hx).inv_c.inv_v
   have h3:=aZk (P:=P) (w:=u) (ty:=ty) hu ((e.block b (fW h1)).trans h1) (ts:=#[t]) rfl
   rw[h2.len]
   simp[execOp,resolve,invoke,builtin,hx',h3]
  exact h.elim
 exact h.elim
omit hT in
theorem bHz (h:bNt T s t k) (hD:Dn ρ0 w0 nb s ρ f w):Hv true P f ⟨dst,.makeMap t none,ty,pos,aft,gd⟩ ρ0 w0 nb w k:=by
 unfold bNt at h
 cases hm:mpT T t with
 |false=>rw[hm] at h;exact h.elim
 |true=>
 rw[hm] at h
 simp only[cond_true] at h
 have hk:=oU (h w.heap.size)
 have hr:=run_makeMap (P:=P) t w
 refine⟨_,_,_,_,_,hk,?_,hD.fadd (F:=⟨1000000,1,1,λ_=>some w.heap.size,λ_=>0,λ_=>[]⟩) Nat.one_pos rfl rfl rfl ⟨#[],rfl,rfl,λe he=>absurd he fA,rB,rB⟩,.c (Rc.v _),λ_=>oE w _⟩
 simp[execOp,hr]
theorem aPi {b:Nat} {o:Obj}:Wc (some b) w (aDg w b o):=⟨rfl,rfl,rfl,(aNg b o).size,λb' hb' hne=>(aNg b o).block b' hb' λe=>hne (by rw[e])⟩
theorem Dn.mset (hD:Dn ρ0 w0 nb s ρ f w) {g j b c:Nat} {F:Fam} {l:List CV} {es':Array MapEntry} (hF:s.fl[g]? =some F) (ht:Nat.beq F.T 1000000=true) (hj:j<F.N) (hA:F.A j=some b) (hm:MapL es' c l) {o:Obj} (ho:w.heap[b]? =some o):
 Dn ρ0 w0 nb ⟨s.sl,s.gl,s.bl,s.fl.set g ⟨F.T,F.es,F.N,F.A,upd F.cap j c,upd F.get j l⟩⟩ ⟨ρ.at',ρ.Z,s.fl.set g ⟨F.T,F.es,F.N,F.A,upd F.cap j c,upd F.get j l⟩⟩ f (aDg w b (.map es' c)):=by
 have e:=aO ht
 obtain⟨k1,k2⟩:=hD.m.fset hD.l hF hj (F':=⟨F.T,F.es,F.N,F.A,upd F.cap j c,upd F.get j l⟩) rfl rfl rfl (λ_ _=>rfl) (λi hi=>cJ hi) (λi hi=>cJ hi) (w':=aDg w b (.map es' c)) (by rw[hA];exact aPi) (λb' hb'=> .inl hb') (λhz=>by
  unfold Mq
  simp only[hA,cN,e]
  exact⟨_,aSr ho,es',rfl,hm⟩)
 exact⟨k1,hD.f.kp rfl rfl k2,rfl⟩
include hT in
theorem aZs (h:aZm T s t m x v ks) (hD:Dn ρ0 w0 nb s ρ f w):Hs P f ⟨dst,.mapUpdate t m x v,ty,pos,aft,gd⟩ ρ0 w0 nb w ks:=by
 unfold aZm at h
 cases hm:mpT T t with
 |false=>rw[hm] at h;exact h.elim
 |true=>
 rw[hm] at h
 simp only[cond_true] at h
 obtain⟨kt,et,hu,hk⟩:=aSs hT hm
 split at h
 ·next b z hmv hx hv=>
  obtain⟨g,j,n,h⟩:=h
  split at h
  ·next F hF=>
   cases ht:Nat.beq F.T 1000000 with
   |false=>rw[ht] at h;exact h.elim
   |true=>
   rw[ht] at h
   simp only[cond_true] at h
   obtain⟨⟨hj,hA,hz⟩,h⟩:=h
   obtain⟨es,h1,h2⟩:=hD.map hF ht hj hA
   obtain⟨es',h3,h4⟩:=bHv (n:=n) hu hk h1 h2
   have e1:=(cF hD.f fP hmv).inv_c.inv_v
   have e2:=(cF hD.f fP hx).inv_c.inv_v
   have e3:=(cF hD.f fP hv).inv_c.inv_v
   refine⟨_,_,_,kL h,?_,hD.mset hF ht hj hA h4 h1⟩
   simp[execOp,e1,e2,e3,hz,h3]
  exact h.elim
 exact h.elim
include hT in
theorem aZt (h:aZn T s t m x ks) (hD:Dn ρ0 w0 nb s ρ f w):∃s' ρ' w' u,ks s'/\(execOp (ev f) ⟨dst,.call ⟨.builtin .delete,#[m,x],#[t,t']⟩,ty,pos,aft,gd⟩).run P w= .ok (.value u) w'/\Dn ρ0 w0 nb s' ρ' f w':=by
 unfold aZn at h
 cases hm:mpT T t with
 |false=>rw[hm] at h;exact h.elim
 |true=>
 rw[hm] at h
 simp only[cond_true] at h
 obtain⟨kt,et,hu,hk⟩:=aSs hT hm
 split at h
 ·next b z hmv hx=>
  obtain⟨g,j,n,h⟩:=h
  split at h
  ·next F hF=>
   cases ht:Nat.beq F.T 1000000 with
   |false=>rw[ht] at h;exact h.elim
   |true=>
   rw[ht] at h
   simp only[cond_true] at h
   obtain⟨⟨hj,hA,hz⟩,h⟩:=h
   obtain⟨es,h1,h2⟩:=hD.map hF ht hj hA
   obtain⟨es',h3,h4⟩:=bHw (ty:=ty) (n:=n) hu hk h1 h2 (ts:=#[t,t']) rfl
   have e1:=(cF hD.f fP hmv).inv_c.inv_v
   have e2:=(cF hD.f fP hx).inv_c.inv_v
   have h5:=hD.mset hF ht hj hA h4 h1
   have e4:(⟨F.T,F.es,F.N,F.A,upd F.cap j (F.cap j),upd F.get j (aEo (F.get j) n)⟩:Fam)=⟨F.T,F.es,F.N,F.A,F.cap,upd F.get j (aEo (F.get j) n)⟩:=by
    congr 1
    funext i
    unfold upd
    split
    ·next hi=>rw[hi]
    rfl
   rw[e4] at h5
   refine⟨_,_,_,.tuple #[],kL h,?_,h5⟩
   simp[execOp,resolve,invoke,builtin,e1,e2,hz,h3]
  exact h.elim
 exact h.elim
include hT in
theorem aZu (h:aZo T s t x k) (hD:Dn ρ0 w0 nb s ρ f w):Hv true P f ⟨dst,.range t x,ty,pos,aft,gd⟩ ρ0 w0 nb w k:=by
 unfold aZo at h
 cases hm:mpT T t with
 |false=>rw[hm] at h;exact h.elim
 |true=>
 rw[hm] at h
 simp only[cond_true] at h
 obtain⟨kt,et,hu,hk⟩:=aSs hT hm
 split at h
 ·next b hx=>
  obtain⟨g,j,h⟩:=h
  split at h
  ·next F hF=>
   cases ht:Nat.beq F.T 1000000 with
   |false=>rw[ht] at h;exact h.elim
   |true=>
   rw[ht] at h
   simp only[cond_true] at h
   obtain⟨⟨hj,hA⟩,h⟩:=h
   obtain⟨es,h1,h2⟩:=hD.map hF ht hj hA
   have hk':=oU (h w.heap.size)
   have hr:=run_range_map (P:=P) w t kt et b es (F.cap j) hu h1
   have e1:=(cF hD.f fP hx).inv_c.inv_v
   refine⟨_,_,_,_,_,hk',?_,hD.fadd (F:=⟨1000001,1,1,λ_=>some w.heap.size,λ_=>0,λ_=>[.r none 0 b (F.cap j) (aPh (F.get j))]⟩) Nat.one_pos rfl rfl rfl ⟨b,F.cap j,#[],F.cap j,aPh (F.get j),rfl,rfl,aI _,λc hc=>?_,?_,λc hc=>by cases hc⟩,.c (Rc.hp _ _),λ_=>oE w _⟩
   ·simp[execOp,e1,hr]
   ·have hc':c∈F.get j:=hc
    rw[<-h2.en] at hc'
    obtain⟨e,he,rfl⟩:=cP.1 hc'
    rw[yI (h2.ky e he).1]
    exact(h2.ky e he).2.2
   show F.get j=(F.get j).filter _
   exact(nE.2 λc _=>by simp).symm
  exact h.elim
 exact h.elim
theorem aZv (h:aZp s x k) (hD:Dn ρ0 w0 nb s ρ f w):Hv false P f ⟨dst,.next x false,ty,pos,aft,gd⟩ ρ0 w0 nb w k:=by
 unfold aZp at h
 split at h
 ·next r hx=>
  obtain⟨gi,g,j,b,st,gg,h⟩:=h
  split at h
  ·next I F hI hF=>
   cases ht:(Nat.beq I.T 1000001&&Nat.beq F.T 1000000) with
   |false=>rw[ht] at h;exact h.elim
   |true=>
   rw[ht] at h
   simp only[cond_true] at h
   simp only[aQ] at ht
   obtain⟨⟨hN,hAr,hg0,hj,hA,hgg,hst⟩,hk1,hk2⟩:=h
   obtain⟨es,h1,h2⟩:=hD.map hF ht.2 hj hA
   obtain⟨m',since,seen,st',gg',i1,i2,i3⟩:=hD.itr hI ht.1 hN hAr
   rw[hg0] at i1
   injection i1 with i1 _
   injection i1 with _ _ e1 e2 e3
   subst e1 e2 e3
   have ex:=(cF hD.f fP hx).inv_c.inv_hp
   rcases bHx (P:=P) (ty:=ty) h1 h2 i2 i3 hgg with ⟨n1,n2⟩|⟨p,q,c,v1,v2,w1,seen',n1,n2,n3,n4⟩
   ·exact⟨_,_,_,_,_,hk1 n1,by simp[execOp,ex,n2],hD,.t (vl:=[.bool false]) rfl λi d u hd hu=>(by
     match i,hd,hu with
     |0,hd,hu=>injection hd with hd;injection hu with hu;subst hd hu;exact .c (Rc.v _)),λh=>by cases h⟩
   have hk':=kL (hk2 p c q n1)
   have hi':=n4 (bA i3.le hst)
   have e:=aO ht.1
   have hw1:w1.heap=w.heap:=by rcases n2 with rfl|rfl<;>rfl
   have hwc:Wc (some r) w (aDg w1 r (.mapIter (some b) since seen' (F.cap j))):=by
    rcases n2 with rfl|rfl
    ·exact aPi
    have hd:=Ext.drew w
    have hs:=aPi (w:=w.drew) (b:=r) (o:=.mapIter (some b) since seen' (F.cap j))
    exact⟨hs.os.trans hd.os,hs.tape.trans hd.tape,hs.output.trans hd.output,bA hd.size hs.size,λb' hb' hne=>(hs.block b' (bH hb' hd.size) hne).trans (hd.block b' hb')⟩
   obtain⟨k1,k2⟩:=hD.m.fset hD.l hI hN (F':=⟨I.T,I.es,I.N,I.A,I.cap,upd I.get 0 [.r none 0 b (F.cap j) (aBx p q (F.get j) c)]⟩) rfl rfl rfl (λ_ _=>rfl) (λi hi=>rfl) (λi hi=>cJ hi) (w':=aDg w1 r (.mapIter (some b) since seen' (F.cap j))) (by rw[hAr];exact hwc) (λb' hb'=> .inl hb') (λhz=>by
    unfold Mq
    simp only[hAr,cN,e]
    refine⟨_,aSr (by rw[hw1];exact i2),b,since,seen',F.cap j,_,rfl,rfl,⟨hi'.le,hi'.lt,hi'.rest,hi'.cur⟩⟩)
   exact⟨_,_,_,_,_,hk',by simp[execOp,ex,n3],⟨k1,hD.f.kp rfl rfl k2,rfl⟩,.t (vl:=[.bool true,v1,v2]) rfl λi d u hd hu=>(by
    match i,hd,hu with
    |0,hd,hu=>injection hd with hd;injection hu with hu;subst hd hu;exact .c (Rc.v _)
    |1,hd,hu=>injection hd with hd;injection hu with hu;subst hd hu;exact .c (Rc.u _)
    |2,hd,hu=>injection hd with hd;injection hu with hu;subst hd hu;exact .c (Rc.u _)),λh=>by cases h⟩
  exact h.elim
 exact h.elim
theorem aZw (h:aZq s x k) (hD:Dn ρ0 w0 nb s ρ f w):Hv true P f ⟨dst,.entry x,ty,pos,aft,gd⟩ ρ0 w0 nb w k:=by
 unfold aZq at h
 split at h
 ·next r hx=>
  obtain⟨gi,g,j,b,c,gg,h⟩:=h
  split at h
  ·next I F hI hF=>
   cases ht:(Nat.beq I.T 1000001&&Nat.beq F.T 1000000) with
   |false=>rw[ht] at h;exact h.elim
   |true=>
   rw[ht] at h
   simp only[cond_true] at h
   simp only[aQ] at ht
   obtain⟨⟨hN,hAr,hg0,hj,hA,hgg,hcl⟩,hk⟩:=h
   obtain⟨es,h1,h2⟩:=hD.map hF ht.2 hj hA
   obtain⟨m',since,seen,st',gg',i1,i2,i3⟩:=hD.itr hI ht.1 hN hAr
   rw[hg0] at i1
   injection i1 with i1 _
   injection i1 with _ _ e1 e2 e3
   subst e1 e2 e3
   have ex:=(cF hD.f fP hx).inv_c.inv_hp
   have hr:=bHy (P:=P) h1 h2 i2 i3 hgg hcl
   exact⟨_,_,_,_,_,hk,by simp[execOp,ex,hr],hD,.t (vl:=[.int .i64 (pQ c),.bool true]) rfl λi d u hd hu=>(by
    match i,hd,hu with
    |0,hd,hu=>injection hd with hd;injection hu with hu;subst hd hu;exact .c (Rc.v _)
    |1,hd,hu=>injection hd with hd;injection hu with hu;subst hd hu;exact .c (Rc.v _)),λ_=>gE w⟩
  exact h.elim
 exact h.elim
end ok
def E1 (T:TT) (pg:Option Prop) (gs:Gs) (s:SS):Op->(DV->Prop)->Prop
 |.move x,k=>aEh gs s x k
 |.assign x,k=>aEh gs s x k
 |.pick x y z,k=>aYo gs s x y z k
 |.load t x,k=>aYj T pg gs s t x k
 |.nilCheck x,k=>bNe gs s x k
 |.binOp op t x y _,k=>bNg T t pg gs s op x y k
 |.unOp op _ x,k=>eUn pg gs s op x k
 |.convert t t' x,k=>aYk T pg gs s t t' x k
 |.fieldAddr t x i,k=>bNf T gs s t x i k
 |.field t x i,k=>aYn T gs s t x i k
 |.indexAddr t x y,k=>(match T t with
  |some ti=>bif ti.ar.isSome then aYl T pg gs s t x y k else bNh T pg gs s t x y k
  |none=>False)
 |.index t x y,k=>aYm T pg gs s t x y k
 |.slice t x lo hi mx,k=>bif mx.isNone then eSl T pg gs s t x lo hi k else False
 |.extract x i,k=>bNi gs s x i k
 |.build t ps,k=>aPc T gs s t ps.toList k
 |.makeFunc fn fi ca,k=>bNk gs s fn fi.toList ca.toList k
 |.call c,k=>(match c.callee,c.args.toList,c.argTypes.toList with
  |.builtin .len,[x],[t]=>bif Nat.beq t MT then aZl T pg gs s t x k else bNj T gs s t x k
  |.builtin .min,[x,y],[_,_]=>eMm false gs s x y k
  |.builtin .max,[x,y],[_,_]=>eMm true gs s x y k
  |_,_,_=>False)
 |_,_=>False
def aZx (s:SS):List Operand->(List DV->Prop)->Prop
 |[],k=>k []
 |x::l,k=>match val [] s x with
  |some d=>aZx s l λr=>k (d::r)
  |none=>False
def ptrs:List (Nat×Nat)->List DV->List DV
 |[],r=>r
 |(i,o)::l,r=> .c (.p i o)::ptrs l r
/-! ### an own slice that is read from now on -/
section frz
variable {ρ0 ρ:Pl} {w0 w:World} {nb:Nat} {f:Nat->Value}
theorem aGp {s:SS} (hD:Dn ρ0 w0 nb s ρ f w) (i:Nat) {n T es:Nat} {l:List CV} {x:Value} (get:Nat->List CV) (hx:Hc ρ s.bl.length w (.s i n) x) (hb:s.bl[i]? =some (T,es,l)) (hg:∀j,j<n->get j=(l.drop (j*es)).take es) (hl:n*es=l.length) (hes:0<es) (hclo:∀c∈l,iP c=true) (hnb:nb<=i) {kk:Option Addr->Nat->SS->Prop}
 (h:∀A c,n<=c->c<=maxLen->aAk i s λs'=>qE s'.bl i (T,es,[]) λbl'=>kk A c ⟨s'.sl,s'.gl,bl',s'.fl⟩):∃A c s' ρ',kk A c s'/\Dn ρ0 w0 nb s' ρ' f w/\Kx i ρ s.bl.length w ρ' w/\s'.bl.length=s.bl.length/\s'.gl=[]/\Hc ρ' s.bl.length w (.r A n c es get) x:=by
 obtain⟨hi,he⟩:=hx
 have hq:=hD.m.ok i T es l hb
 let ρ':Pl:=⟨λj=>if j=i then (none,0) else ρ j,ρ.Z,ρ.F⟩
 have hρi:ρ' i=(none,0):=if_pos rfl
 have hρj:∀j,j≠i->ρ' j=ρ j:=λj hj=>if_neg hj
 have hz:∀b,Zf ρ s.bl.length w b->Zf ρ' s.bl.length w b:=λb hb=>⟨hb.lt,λj hj=>by
  by_cases hji:j=i
  ·rw[hji,hρi];intro h;cases h
  rw[hρj j hji];exact hb.no j hj,hb.z,hb.nf⟩
 have kx:Kx i ρ s.bl.length w ρ' w:=⟨λj _ hj=>hρj j hj,λb hb=>⟨hz b hb,rfl⟩,λj b _ _ _=>rfl⟩
 have key:∃A c,n<=c/\c<=maxLen/\Rc (Zf ρ' s.bl.length w) w (.r A n c es get) x:=by
  cases hρ:(ρ i).1 with
  |none=>
   unfold Bq at hq
   simp only[hρ] at hq
   obtain⟨q1,q2,q3⟩:=hq
   subst q1
   have hn0:n=0:=by
    rcases dB n with h|h
    ·exact h
    have:=mW h hes;simp at hl;omega
   subst hn0
   rw[hρ,q2] at he
   refine⟨none,0,aI _,aF _,?_⟩
   rw[he]
   exact Rc.nil none 0 es get (aF _)
  |some b=>
   obtain⟨vl,junk,q1,q2,q3,q4⟩:=hq.at hρ
   obtain⟨q5,q6⟩:=q3 hes
   have hlv:=q2.len
   have hnc:n<=(ρ i).2:=by
    rw[aP] at q5
    exact gD (c:=es) oM hes
   rw[hρ] at he
   refine⟨some ⟨b,0,none⟩,(ρ i).2,hnc,q6,?_⟩
   rw[he]
   have hZb:Zf ρ' s.bl.length w b:=⟨fW q1,λj hj=>by
    by_cases hji:j=i
    ·rw[hji,hρi];intro h;cases h
    rw[hρj j hji];intro h;exact hji (hD.m.inj j i b hj hi h hρ),hD.m.zz.2 b (.inl (hD.m.fr i b hnb hi hρ)),hD.m.fam.own i b hi hρ⟩
   have hjn:∀j,j<n->j*es+es<=vl.length:=λj hj=>by
    have:(j+1)*es<=n*es:=bK es hj
    rw[dW,lN] at this
    omega
   refine Rc.r b 0 n (ρ i).2 es get (λj=>(vl.drop (j*es)).take es) hnc q6 hZb (λj hj k u hu=>?_) (λj hj=>?_) λj hj k c' u hc hu=>?_
   ·rw[iE] at hu
    split at hu
    ·rw[eQ] at hu
     refine⟨?_,q4 u (aX hu)⟩
     rw[fK]
     exact pS q1 hu
    cases hu
   ·rw[hg j hj]
    have:=hjn j hj
    simp only[cC,dP]
    omega
   rw[hg j hj] at hc
   obtain⟨x,h1,h2⟩:=((q2.drop (j*es)).take es).get hc
   rw[hu] at h1
   injection h1 with h1
   subst h1
   have hcl:=hclo c' (gZ (eG (aX hc)))
   have h3:Hc ρ' s.bl.length w c' u:=h2.clo hcl hz
   cases c' with
   |u=>exact h3
   |v x=>exact h3
   |h A n c=>exact h3
   |hp b o=>exact h3
   |b p q=>exact h3
   |r A m c e get=>exact h3
   |p i o=>cases hcl
   |s i m=>cases hcl
   |q A m c e get j o=>cases hcl
   |t i o m=>cases hcl
   |f k fi ca=>cases hcl
 obtain⟨A,c,hc1,hc2,hrc⟩:=key
 obtain⟨sl',bl',k1,k2,⟨T3,e3,l3,k3,k4⟩,k5⟩:=aNa (h A c hc1 hc2) hD kx hnb hi (λb hb=>by rw[hρi] at hb;cases hb) (λj b hj hji hb hb'=>by rw[hρi] at hb';cases hb') (λh=>h) rfl hD.l (hD.m.fam.kx kx rfl (λ_ _=>rfl) λb hb=>by rw[hρi] at hb;cases hb) hD.m.ffr
 have hfin:=k5 T es [] (by unfold Bq;rw[hρi];exact⟨rfl,rfl,hes⟩)
 exact⟨A,c,_,ρ',kL k1,hfin,kx,by rw[bT];exact k2,rfl,hrc⟩
def aGq (nb:Nat):List DV->List DV->SS->(List DV->SS->Prop)->Prop
 |_,[],s,k=>k [] s
 |acc,d::l,s,k=>match d with
  |.c (.s i n)=>∃z:Option (Nat->List CV),match z with
   |none=>aGq nb (.c (.s i n)::acc) l s λr s'=>k (.c (.s i n)::r) s'
   |some get=>match s.bl[i]? with
    |some (T,es,lc)=>bif acc.all (λd=>!aMx i d)&&l.all (λd=>!aMx i d) then ((nb<=i/\0<es)/\n*es=lc.length/\(∀j,j<n->get j=(lc.drop (j*es)).take es)/\∀c∈lc,iP c=true)/\
     ∀A c,n<=c->c<=maxLen->aAk i s λs1=>qE s1.bl i (T,es,[]) λbl'=>aGq nb (.c (.r A n c es get)::acc) l ⟨s1.sl,s1.gl,bl',s1.fl⟩ λr s'=>k (.c (.r A n c es get)::r) s' else False
    |none=>False
  |.c (.v (.bool b))=>aGq nb (.c (.b (b=true) inferInstance)::acc) l s λr s'=>k (.c (.b (b=true) inferInstance)::r) s'
  |d=>aGq nb (d::acc) l s λr s'=>k (d::r) s'
theorem HL.kx {i n:Nat} {ρ':Pl} (kx:Kx i ρ n w ρ' w):∀{l:List DV} {vl:List Value},HL ρ n w l vl->l.all (λd=>!aMx i d)=true->HL ρ' n w l vl
 |[],[],_,_=>trivial
 |[],_::_,h,_=>h.elim
 |_::_,[],h,_=>h.elim
 |d::l,v::vl,h,hm=>by
  simp only[List.all_cons,aQ,dL] at hm
  exact⟨h.1.kx kx hm.1,HL.kx kx h.2 hm.2⟩
theorem aEw:∀{l acc:List DV} {s:SS} {k:List DV->SS->Prop} {ρ:Pl} {vals avals:List Value},aGq nb acc l s k->Dn ρ0 w0 nb s ρ f w->HL ρ s.bl.length w l vals->HL ρ s.bl.length w acc avals->∃r s' ρ',k r s'/\Dn ρ0 w0 nb s' ρ' f w/\HL ρ' s'.bl.length w r vals/\HL ρ' s'.bl.length w acc avals
 |[],acc,s,k,ρ,[],avals,h,hD,hv,ha=>⟨[],s,ρ,h,hD,trivial,ha⟩
 |[],acc,s,k,ρ,_::_,avals,h,hD,hv,ha=>hv.elim
 |_::_,acc,s,k,ρ,[],avals,h,hD,hv,ha=>hv.elim
 |d::l,acc,s,k,ρ,v::vals,avals,h,hD,hv,ha=>by
  have plain:aGq nb (d::acc) l s (λr s'=>k (d::r) s')->∃r s' ρ',k r s'/\Dn ρ0 w0 nb s' ρ' f w/\HL ρ' s'.bl.length w r (v::vals)/\HL ρ' s'.bl.length w acc avals:=λh=>by
   obtain⟨r,s',ρ',h1,h2,h3,h4⟩:=aEw h hD hv.2 (show HL ρ s.bl.length w (d::acc) (v::avals) from ⟨hv.1,ha⟩)
   exact⟨d::r,s',ρ',h1,h2,⟨h4.1,h3⟩,h4.2⟩
  unfold aGq at h
  split at h
  ·next i n=>
   obtain⟨z,h⟩:=h
   cases z with
   |none=>exact plain h
   |some get=>
    simp only at h
    split at h
    ·next T es lc hb=>
     cases hm:(acc.all (λd=>!aMx i d)&&l.all (λd=>!aMx i d)) with
     |false=>rw[hm] at h;exact h.elim
     |true=>
      rw[hm] at h
      simp only[aQ] at hm
      obtain⟨⟨⟨hnb,hes⟩,hl,hg,hclo⟩,hk⟩:=h
      obtain⟨A,c,s',ρ',k1,k2,k3,k4,_,k5⟩:=aGp hD i get hv.1.inv_c hb hg hl hes hclo hnb (kk:=λA c s'=>aGq nb (.c (.r A n c es get)::acc) l s' λr s2=>k (.c (.r A n c es get)::r) s2) hk
      rw[<-k4] at k3 k5
      have hvl:HL ρ' s'.bl.length w l vals:=HL.kx k3 (by rw[k4];exact hv.2) hm.2
      have hac:HL ρ' s'.bl.length w acc avals:=HL.kx k3 (by rw[k4];exact ha) hm.1
      obtain⟨r,s2,ρ2,h1,h2,h3,h4⟩:=aEw k1 k2 hvl (show HL ρ' s'.bl.length w (.c (.r A n c es get)::acc) (v::avals) from ⟨.c k5,hac⟩)
      exact⟨_,s2,ρ2,h1,h2,⟨h4.1,h3⟩,h4.2⟩
    exact h.elim
  ·next b=>
   have hv1:Hd ρ s.bl.length w (.c (.b (b=true) inferInstance)) v:=by
    have e:Value.bool b= .bool (decide (b=true)):=by simp
    rw[hv.1.inv_c.inv_v,e]
    exact .c (Rc.b _ _)
   obtain⟨r,s',ρ',h1,h2,h3,h4⟩:=aEw h hD hv.2 (show HL ρ s.bl.length w (.c (.b (b=true) inferInstance)::acc) (v::avals) from ⟨hv1,ha⟩)
   exact⟨_,s',ρ',h1,h2,⟨h4.1,h3⟩,h4.2⟩
  exact plain h
end frz
def bLf (P:Program) (nb:Nat) (only:Bool) (s:SS) (x:Operand) (args:List Operand) (k:SS->DV->Prop):Prop:=match val [] s x with
 |some (.c (.f q fi ca))=>(match fi,ca with
  |[],[]=>aZx s args λal=>aGq nb [] al s λal' s'=>callK P only s' q al' k
  |_,_=>aZx s args λal=>∃al',ptrs fi (al++ptrs ca [])=al'/\aGq nb [] al' s λal' s'=>callK P only s' q al' k)
 |_=>False
def H1 (P:Program) (T:TT) (nb:Nat) (only:Bool) (s:SS):Op->(SS->DV->Prop)->Prop
 |.alloc t,k=>aOz T s t k
 |.box t x,k=>bNo s t x k
 |.buildSlice t n ps,k=>bNp T s t n ps.toList k
 |.makeSlice t x y,k=>aZb T s t x y k
 |.call c,k=>(match c.callee,c.args.toList,c.argTypes.toList with
  |.builtin .append,[x,y],[t,t']=>bif Nat.beq t t'&&!only then bNq T nb s t x y k else False
  |.value x,args,_=>bLf P nb only s x args k
  |_,_,_=>False)
 |.makeMap t none,k=>bNt T s t k
 |.range t x,k=>aZo T s t x k
 |.next x false,k=>bif only then False else aZp s x k
 |.entry x,k=>aZq s x k
 |_,_=>False
def apG (d:Nat) (gl:List (Nat×Gs×DV)):Bool:=gl.all λe=>!Nat.beq e.1 d&&e.2.1.all λp=>!Nat.beq p.1 d
def aIa (s:SS) (d:Nat) (v:DV) (K:SS->Prop):Prop:=match s with
 |⟨sl,gl,bl,fl⟩=>bif apG d gl then K ⟨(d,v)::sl,gl,bl,fl⟩ else False
def bNu (s:SS) (d:Nat) (gs:Gs) (v:DV) (K:SS->Prop):Prop:=match s with
 |⟨sl,gl,bl,fl⟩=>bif apG d gl&&gs.all (λp=>!Nat.beq p.1 d) then K ⟨(d,.c .u)::sl,(d,gs,v)::gl,bl,fl⟩ else False
def exU (P:Program) (T:TT) (nb N:Nat) (only:Bool) (o:Oper) (s:SS) (K:SS->Prop):Prop:=
 bif calm o then (match o.dst with
  |some d=>bif Nat.ble (d+1) N then E1 T none [] s o.op λv=>aIa s d v K else False
  |none=>False)
 else match o.op with
  |.store t x y=>(match o.dst with
   |none=>bif only then False else aPa T s t x y K
   |some _=>False)
  |.mapUpdate t m x v=>(match o.dst with
   |none=>bif only then False else aZm T s t m x v K
   |some _=>False)
  |.call ⟨.builtin .delete,⟨[m,x]⟩,⟨[t,_]⟩⟩=>(match o.dst with
   |none=>bif only then False else aZn T s t m x K
   |some _=>False)
  |op=>(match o.dst with
   |some d=>bif Nat.ble (d+1) N then H1 P T nb only s op λs' v=>aIa s' d v K else False
   |none=>False)
section
variable {P:Program} {T:TT} (hT:Good P T) {w0 w:World} {nb N:Nat} {s:SS} {ρ ρ0:Pl} {f:Nat->Value} {gs:Gs} {pg:Option Prop} {k:DV->Prop} {only:Bool}
theorem aGr {a b:Nat} (h:(!Nat.beq a b)=true):a≠b:=λe=>by subst e;rw[iX] at h;cases h
include hT in
theorem aZy {o:Oper} (h:E1 T pg gs s o.op k) (hD:Dn ρ0 w0 nb s ρ f w) (hp:sat f gs->aEm pg):Pu P f o w ρ s.bl.length gs k:=by
 obtain⟨dst,op,ty,pos,aft,gd⟩:=o
 simp only at h
 unfold E1 at h
 split at h
 ·exact(aMv h hD.f).1
 ·exact(aMv h hD.f).2
 ·exact aYx h hD.f
 ·exact aYr hT h hD hp
 ·exact bHj h hD.f
 ·exact bHl hT h hD.f hp
 ·exact bNl h hD.f hp
 ·exact aYs hT h hD.f hp
 ·exact bHk hT h hD.f
 ·exact aYv hT h hD.f
 ·split at h
  ·next ti _=>
   cases ha:ti.ar.isSome with
   |true=>rw[ha] at h;exact aYt hT h hD.f hp
   |false=>rw[ha] at h;exact bHm hT h hD hp
  exact h.elim
 ·exact aYu hT h hD.f hp
 ·next t x lo hi mx=>
  cases mx with
  |some m=>exact h.elim
  |none=>exact bNm hT h hD hp
 ·exact bHn h hD.f
 ·next t ps=>
  have:=aVx (P:=P) (dst:=dst) (ty:=ty) (pos:=pos) (aft:=aft) (gd:=gd) hT h hD.f
  rwa [hJ] at this
 ·next fn fi ca=>
  have:=bHp (P:=P) (dst:=dst) (ty:=ty) (pos:=pos) (aft:=aft) (gd:=gd) h hD.f
  rwa [hJ,hJ] at this
 ·next c=>
  obtain⟨callee,⟨args⟩,⟨tys⟩⟩:=c
  simp only at h
  split at h
  ·next x t=>
   cases hmt:Nat.beq t MT with
   |true=>rw[hmt] at h;exact aZr hT hmt h hD hp
   |false=>rw[hmt] at h;exact bHo hT h hD.f
  ·exact aYw (mx:=false) h hD.f
  ·exact aYw (mx:=true) h hD.f
  exact h.elim
 exact h.elim
theorem aPj {d:Nat} {gl:List (Nat×Gs×DV)} (h:apG d gl=true) {t:Nat} {g:Gs} {v:DV} (ht:aAd gl t=some (g,v)):t≠d/\∀p∈g,p.1≠d:=by
 induction gl with
 |nil=>cases ht
 |cons e gl ih=>
  obtain⟨t0,d0⟩:=e
  simp only[apG,List.all_cons,aQ] at h
  unfold aAd at ht
  cases hb:Nat.beq t0 t with
  |true=>
   rw[hb] at ht
   injection ht with ht
   have e1:=aO hb
   refine⟨by rw[<-e1];exact aGr h.1.1,λp hp=>?_⟩
   have h2:=h.1.2
   rw[ht] at h2
   exact aGr (aZ.1 h2 p hp)
  |false=>rw[hb] at ht;exact ih h.2 ht
theorem aPk {d:Nat} {g:Gs} {x:Value} (h:∀p∈g,p.1≠d):sat (st f d x) g↔sat f g:=by
 constructor
 ·intro hs p hp;have:=hs p hp;rwa [qO _ _ _ _ (h p hp)] at this
 intro hs p hp;rw[qO _ _ _ _ (h p hp)];exact hs p hp
theorem Dn.put {d:Nat} {v:DV} {x:Value} {K:SS->Prop} (h:aIa s d v K) (hD:Dn ρ0 w0 nb s ρ f w) (hx:Hd ρ s.bl.length w v x):∃s',K s'/\Dn ρ0 w0 nb s' ρ (st f d x) w:=by
 obtain⟨sl,gl,bl,fl⟩:=s
 unfold aIa at h
 simp only at h
 cases hb:apG d gl with
 |false=>rw[hb] at h;exact h.elim
 |true=>
  rw[hb] at h
  refine⟨_,h,hD.m,⟨λt d' ht=>?_,λt g d' ht=>?_⟩,hD.l⟩
  ·simp only[iM] at ht
   cases he:Nat.beq d t with
   |true=>
    rw[he] at ht
    injection ht with ht
    subst ht
    have:=aO he
    subst this
    rw[aEs]
    exact hx
   |false=>
    rw[he] at ht
    rw[qO _ _ _ _ (iQ (pD he))]
    exact hD.f.sl t d' ht
  obtain⟨h1,h2⟩:=aPj hb ht
  rw[aPk h2,qO _ _ _ _ h1]
  exact hD.f.gl t g d' ht
theorem Dn.putg {d:Nat} {v:DV} {x:Value} {K:SS->Prop} (h:bNu s d gs v K) (hD:Dn ρ0 w0 nb s ρ f w) (hx:sat f gs->Hd ρ s.bl.length w v x) (hu:¬sat f gs->x=undef):∃s',K s'/\Dn ρ0 w0 nb s' ρ (st f d x) w:=by
 obtain⟨sl,gl,bl,fl⟩:=s
 unfold bNu at h
 simp only at h
 cases hb:(apG d gl&&gs.all λp=>!Nat.beq p.1 d) with
 |false=>rw[hb] at h;exact h.elim
 |true=>
  rw[hb] at h
  simp only[aQ] at hb
  have hgs:∀p∈gs,p.1≠d:=λp hp=>aGr (aZ.1 hb.2 p hp)
  refine⟨_,h,hD.m,⟨λt d' ht=>?_,λt g d' ht=>?_⟩,hD.l⟩
  ·simp only[iM] at ht
   cases he:Nat.beq d t with
   |true=>rw[he] at ht;injection ht with ht;subst ht;exact .c (Rc.u _)
   |false=>
    rw[he] at ht
    rw[qO _ _ _ _ (iQ (pD he))]
    exact hD.f.sl t d' ht
  simp only[aAd] at ht
  cases he:Nat.beq d t with
  |true=>
   rw[he] at ht
   injection ht with ht
   injection ht with e1 e2
   subst e1 e2
   have:=aO he
   subst this
   rw[aPk hgs,aEs]
   exact⟨hx,hu⟩
  |false=>
   rw[he] at ht
   obtain⟨h1,h2⟩:=aPj hb.1 ht
   rw[aPk h2,qO _ _ _ _ h1]
   exact hD.f.gl t g d' ht
inductive Stp (P:Program) (N:Nat) (f:Nat->Value) (o:Oper) (w:World) (C:(Nat->Value)->World->Prop):Prop
 |val {v:Value} {w':World} {d:Nat} (hd:o.dst=some d) (hn:d<N) (hr:(execOp (ev f) o).run P w= .ok (.value v) w') (h:C (st f d v) w')
 |skip {w':World} (hd:o.dst=none) (hr:∃r,(execOp (ev f) o).run P w= .ok r w'/\(r= .skip\/∃v,r= .value v)) (h:C f w')
 |call {q:FuncId} {args:Array Value} {d:Nat} {Post:Value->World->Prop} (hd:o.dst=some d) (hn:d<N) (hr:(execOp (ev f) o).run P w= .ok (.enter q args) w)
  (hc:Calls P q args w λe w'=>∃v,e= .returned v/\Post v w') (h:∀v w',Post v w'->C (st f d v) w')
theorem aSt {l:List Operand} {kk:List DV->Prop} (h:aZx s l kk) (hF:Fr s ρ w f):∃al,kk al/\HL ρ s.bl.length w al (l.map (ev f)):=by
 induction l generalizing kk with
 |nil=>exact⟨[],h,trivial⟩
 |cons x l ih=>
  unfold aZx at h
  split at h
  ·next d hx=>
   obtain⟨al,h1,h2⟩:=ih h
   exact⟨_,h1,cF hF fP hx,h2⟩
  exact h.elim
theorem HL.ptrs {n:Nat}:∀{l:List (Nat×Nat)} {r:List DV} {vr:List Value},(∀p∈l,p.1<n/\(ρ p.1).1≠none)->HL ρ n w r vr->HL ρ n w (Go.Vy.ptrs l r) (l.map (ptr ρ)++vr)
 |[],r,vr,_,h=>h
 |(i,o)::l,r,vr,hl,h=>by
  refine⟨?_,HL.ptrs (λp hp=>hl p (.tail _ hp)) h⟩
  obtain⟨h1,h2⟩:=hl _ (.head _)
  cases hb:(ρ i).1 with
  |none=>exact absurd hb h2
  |some b=>exact .c ⟨h1,b,hb,by simp[ptr,hb]⟩
theorem HL.append {n:Nat}:∀{l l2:List DV} {m m2:List Value},HL ρ n w l m->HL ρ n w l2 m2->HL ρ n w (l++l2) (m++m2)
 |[],l2,[],m2,_,h=>h
 |[],_,_::_,_,h,_=>h.elim
 |_::_,_,[],_,h,_=>h.elim
 |d::l,l2,x::m,m2,h,h2=>⟨h.1,HL.append h.2 h2⟩
include hT in
theorem bNv {o:Oper} {K:SS->Prop} (h:exU P T nb N only o s K) (hD:Dn ρ0 w0 nb s ρ f w):Stp P N f o w λf' w'=>∃s' ρ',K s'/\Dn ρ0 w0 nb s' ρ' f' w'/\(only=true->Ext w w'):=by
 have hv:∀{ex:Bool} {d:Nat},o.dst=some d->d<N->(only=true->ex=true)->Hv ex P f o ρ0 w0 nb w (λs' v=>aIa s' d v K)->Stp P N f o w λf' w'=>∃s' ρ',K s'/\Dn ρ0 w0 nb s' ρ' f' w'/\(only=true->Ext w w'):=λ{ex d} hd hn hex hh=>by
  obtain⟨s',dv,ρ',v,w',h1,h2,h3,h4,h5⟩:=hh
  obtain⟨s2,h6,h7⟩:=h3.put h1 h4
  exact .val hd hn h2 ⟨s2,ρ',h6,h7,λho=>h5 (hex ho)⟩
 obtain⟨dst,op,ty,pos,aft,gd⟩:=o
 unfold exU at h
 cases hc:calm ⟨dst,op,ty,pos,aft,gd⟩ with
 |true=>
  rw[hc] at h
  simp only[cond_true] at h
  cases dst with
  |none=>exact h.elim
  |some d=>
   simp only at h
   cases hn:Nat.ble (d+1) N with
   |false=>rw[hn] at h;exact h.elim
   |true=>
    rw[hn] at h
    simp only[cond_true] at h
    obtain⟨dv,h1,h2⟩:=aZy (P:=P) (o:=⟨some d,op,ty,pos,aft,gd⟩) (pg:=none) hT h hD (λ_=>trivial)
    obtain⟨v,h3,h4⟩:=h2 fP
    obtain⟨s',h5,h6⟩:=hD.put h1 h3
    exact .val rfl (bN hn) (h4 w λ_=>gE w) ⟨s',ρ,h5,h6,λ_=>gE w⟩
 |false=>
  rw[hc] at h
  simp only[cond_false] at h
  split at h
  ·cases dst with
   |none=>
    cases honly:only with
    |true=>rw[honly] at h;exact h.elim
    |false=>
     rw[honly] at h
     obtain⟨s',ρ',w',h1,h2,h3⟩:=aVw hT h hD
     exact .skip rfl ⟨_,h2,.inl rfl⟩ ⟨s',ρ',h1,h3,λh=>by cases h⟩
   |some d=>exact h.elim
  ·cases dst with
   |none=>
    cases honly:only with
    |true=>rw[honly] at h;exact h.elim
    |false=>
     rw[honly] at h
     obtain⟨s',ρ',w',h1,h2,h3⟩:=aZs hT h hD
     exact .skip rfl ⟨_,h2,.inl rfl⟩ ⟨s',ρ',h1,h3,λh=>by cases h⟩
   |some d=>exact h.elim
  ·cases dst with
   |none=>
    cases honly:only with
    |true=>rw[honly] at h;exact h.elim
    |false=>
     rw[honly] at h
     obtain⟨s',ρ',w',u,h1,h2,h3⟩:=aZt hT h hD
     exact .skip rfl ⟨_,h2,.inr ⟨u,rfl⟩⟩ ⟨s',ρ',h1,h3,λh=>by cases h⟩
   |some d=>exact h.elim
  cases dst with
  |none=>exact h.elim
  |some d=>
   have hd:(some d:Option Tmp)=some d:=rfl
   simp only at h
   cases hn:Nat.ble (d+1) N with
   |false=>rw[hn] at h;exact h.elim
   |true=>
    rw[hn] at h
    have hn':=bN hn
    simp only[cond_true] at h
    unfold H1 at h
    split at h
    ·exact hv hd hn' (λ_=>rfl) (aVv hT h hD)
    ·exact hv hd hn' (λ_=>rfl) (bHq h hD)
    ·next t n ps _ _=>
     have:=bHr (P:=P) (dst:=some d) (ty:=ty) (pos:=pos) (aft:=aft) (gd:=gd) hT h hD
     rw[hJ] at this
     exact hv hd hn' (λ_=>rfl) this
    ·exact hv hd hn' (λ_=>rfl) (aZd hT h hD)
    ·next c _ _ _=>
     obtain⟨callee,⟨args⟩,⟨tys⟩⟩:=c
     simp only at h
     split at h
     ·next x y t t' _ _ _=>
      cases hb:(Nat.beq t t'&&!only) with
      |false=>rw[hb] at h;exact h.elim
      |true=>
       rw[hb] at h
       simp only[aQ,dL] at hb
       have:=aO hb.1
       subst this
       exact hv (ex:=false) hd hn' (λho=>by rw[hb.2] at ho;cases ho) (bHt hT h hD)
     ·next x _ _ _=>
      unfold bLf at h
      split at h
      ·next q fi ca hx=>
       obtain⟨h1,h2⟩:=(cF hD.f fP hx).inv_c
       have key:∀al,aGq nb [] al s (λal' s'=>callK P only s' q al' (λs' v=>aIa s' d v K))->HL ρ s.bl.length w al (fi.map (ptr ρ)++(args.map (ev f)++ca.map (ptr ρ)))->Stp P N f ⟨some d,.call ⟨.value x,args.toArray,tys.toArray⟩,ty,pos,aft,gd⟩ w λf' w'=>∃s' ρ',K s'/\Dn ρ0 w0 nb s' ρ' f' w'/\(only=true->Ext w w'):=λal hk hal=>by
        obtain⟨al2,s2,ρ2,hk2,hD2,hal2,_⟩:=aEw hk hD hal (show HL ρ s.bl.length w [] [] from trivial)
        obtain⟨hent,hcalls⟩:=bHu hk2 hD2 hal2
        refine .call hd hn' (q:=q) (args:=(fi.map (ptr ρ)++(args.map (ev f)++ca.map (ptr ρ))).toArray) ?_ hcalls λv w' hp=>?_
        ·unfold Ent at hent
         simp[execOp,resolve,h2,Deferred.ofValue,invoke,hent]
        obtain⟨s',dv,ρ',k1,k2,k3,k4⟩:=hp
        obtain⟨s2,k5,k6⟩:=k2.put k1 k3
        exact⟨s2,ρ',k5,k6,k4⟩
       split at h
       ·obtain⟨al,a1,a2⟩:=aSt h hD.f
        exact key al a1 (by simpa using a2)
       obtain⟨al,⟨al',rfl,a1⟩,a2⟩:=aSt h hD.f
       have hca:HL ρ s.bl.length w (Go.Vy.ptrs ca []) (ca.map (ptr ρ)++[]):=HL.ptrs (λp hp=>h1 p (eJ _ hp)) (show HL ρ s.bl.length w [] [] from trivial)
       rw[gB] at hca
       exact key _ a1 (HL.ptrs (λp hp=>h1 p (dS _ hp)) (a2.append hca))
      exact h.elim
     exact h.elim
    ·exact hv hd hn' (λ_=>rfl) (bHz h hD)
    ·exact hv hd hn' (λ_=>rfl) (aZu hT h hD)
    ·cases honly:only with
     |true=>rw[honly] at h;exact h.elim
     |false=>
      subst honly
      exact hv (ex:=false) hd hn' (λho=>by cases ho) (aZv h hD)
    ·exact hv hd hn' (λ_=>rfl) (aZw h hD)
    exact h.elim
end
def gOf (s:SS) (t:Nat):Option (Gs×DV):=match aAd s.gl t with
 |some e=>some e
 |none=>match iM s.sl t with
  |some d=>some ([],d)
  |none=>none
def go1 (s:SS) (t:Nat) (want:Bool) (k:Prop->Prop):Prop:=match gOf s t with
 |some (_,.c (.b p _))=>bif want then k p else k (¬p)
 |some (_,.c (.v (.bool b)))=>k (b=want)
 |_=>False
def gpK (s:SS):Gs->(Prop->Prop)->Prop
 |[],k=>k True
 |(t,want)::r,k=>go1 s t want λp=>match r with
  |[]=>k p
  |_=>gpK s r λq=>k (p/\q)
def aAl (N:Nat) (o:Oper) (s:SS) (K:SS->Prop):Prop:=match o.dst with
 |some d=>bif Nat.ble (d+1) N then aIa s d (.t []) K else False
 |none=>bif calm o then False else K s
def aGs (t:Nat) (b:Bool):List (Nat×Gs×DV)->List (Nat×DV)->List (Nat×Gs×DV)->(List (Nat×DV)->List (Nat×Gs×DV)->Prop)->Prop
 |[],sl,g2,k=>k sl g2
 |(d,gs,v)::r,sl,g2,k=>bif apG d r then (match gs with
  |[(t',b')]=>bif Nat.beq t' t then (bif b'==b then aGs t b r ((d,v)::sl) g2 k else aGs t b r ((d,.t [])::sl) g2 k) else aGs t b r sl g2 k
  |[p,(t',b')]=>bif Nat.beq t' t then (bif b'==b then aGs t b r sl ((d,[p],v)::g2) k else aGs t b r ((d,.t [])::sl) g2 k) else aGs t b r sl g2 k
  |_=>aGs t b r sl g2 k) else False
def aPl (t:Nat) (b:Bool) (s:SS) (k:SS->Prop):Prop:=match s with
 |⟨sl,gl,bl,fl⟩=>aGs t b gl ((t,.c (.v (.bool b)))::sl) [] λsl' gl'=>k ⟨sl',gl',bl,fl⟩
def V1t (P:Program) (T:TT) (nb N:Nat) (only:Bool) (o:Oper) (t:Nat) (want:Bool) (s:SS) (K:SS->Prop):Prop:=match gOf s t with
 |some ([],.c (.b p _))=>(p->aPl t true s λs'=>bif want then exU P T nb N only o s' K else aAl N o s' K)/\(¬p->aPl t false s λs'=>bif want then aAl N o s' K else exU P T nb N only o s' K)
 |_=>False
def V1 (P:Program) (T:TT) (nb N:Nat) (l0:List Oper) (only:Bool) (o:Oper) (s:SS) (K:SS->Prop):Prop:=match o.guard with
 |none=>exU P T nb N only o s K
 |some (j,want)=>match l0[j]? with
  |none=>False
  |some oj=>match oj.dst with
   |none=>False
   |some t=>match gOf s t with
    |some (gs,.c (.v (.bool b)))=>bif gs.isEmpty then (bif b==want then exU P T nb N only o s K else aAl N o s K) else False
    |some (gs,.t [])=>bif gs.isEmpty then aAl N o s K else False
    |some (gs,.c (.b p _))=>bif calm o then (match o.dst with
     |some d=>bif Nat.ble (d+1) N then gpK s ((t,want)::gs) λq=>E1 T (some q) ((t,want)::gs) s o.op λv=>bNu s d ((t,want)::gs) v K else False
     |none=>False)
     else match gs with
      |[]=>(p->aPl t true s λs'=>bif want then exU P T nb N only o s' K else aAl N o s' K)/\(¬p->aPl t false s λs'=>bif want then aAl N o s' K else exU P T nb N only o s' K)
      |[(t1,w1)]=>(match gOf s t1 with
       |some ([],.c (.b p1 _))=>(p1->aPl t1 true s λs'=>bif w1 then V1t P T nb N only o t want s' K else aAl N o s' K)/\(¬p1->aPl t1 false s λs'=>bif w1 then aAl N o s' K else V1t P T nb N only o t want s' K)
       |_=>False)
      |_=>False
    |_=>False
def VL (P:Program) (T:TT) (nb N:Nat) (l0:List Oper):List Oper->(SS->Prop)->SS->Prop
 |[],K,s=>(match s with
  |⟨sl,_,bl,fl⟩=>K ⟨sl,[],bl,fl⟩)
 |o::l,K,s=>V1 P T nb N l0 false o s λs'=>VL P T nb N l0 l K s'
def VD (P:Program) (T:TT) (nb N:Nat) (l0:List Oper):List (Nat×Bool)->(SS->Prop)->SS->Prop
 |[],K,s=>(match s with
  |⟨sl,_,bl,fl⟩=>K ⟨sl,[],bl,fl⟩)
 |(i,last)::l,K,s=>match l0[i]? with
  |some o=>V1 P T nb N l0 (!last) o s λs'=>VD P T nb N l0 l K s'
  |none=>False
def aGt (ops:Array Oper) (r:List (Nat×Bool)):Bool:=r.all λe=>match ops[e.1]? with
 |some o=>bif calm o then !tT o else e.2
 |none=>false
def aBy (ops:Array Oper):Array Bool->List (Nat×Bool)->Bool
 |listed,[]=>(Region.ready .any ops listed).isEmpty
 |listed,(i,last)::r=>(match ops[i]? with
  |some o=>bif calm o then nH ops listed i else ((Region.ready .any ops listed==[i])&&(!last||(aFo ops i&&aGt ops r)))
  |none=>false)&&aBy ops (listed.setIfInBounds i true) r
section
variable {P:Program} {T:TT} (hT:Good P T) {w0 w:World} {nb N:Nat} {s:SS} {ρ ρ0:Pl} {f:Nat->Value} {only:Bool} {ops:Array Oper} {o:Oper} {K:SS->Prop}
def Wt (N:Nat) (ops:Array Oper) (f:Nat->Value) (o:Oper) (b:Bool):Prop:=∀dl a,Fm dl N f a->Region.wanted o (yielded ops a.tmps)=b
abbrev Cn (ρ0:Pl) (w0:World) (nb:Nat) (only:Bool) (w:World) (K:SS->Prop) (f':Nat->Value) (w':World):Prop:=∃s' ρ',K s'/\Dn ρ0 w0 nb s' ρ' f' w'/\(only=true->Ext w w')
inductive Res (P:Program) (N:Nat) (ops:Array Oper) (f:Nat->Value) (o:Oper) (w:World) (C:(Nat->Value)->World->Prop):Prop
 |done (hc:calm o=false) (hw:Wt N ops f o true) (h:Stp P N f o w C)
 |no (hw:Wt N ops f o false) (d:Nat) (hd:o.dst=some d) (hn:d<N) (h:C (st f d undef) w)
 |no0 (hc:calm o=false) (hw:Wt N ops f o false) (hd:o.dst=none) (h:C f w)
 |calm (hc:calm o=true) (hw:Wt N ops f o true) (d:Nat) (v:Value) (hd:o.dst=some d) (hn:d<N) (hr:∀u,(tT o=true->Ext w u)->(execOp (ev f) o).run P u= .ok (.value v) u) (h:C (st f d v) w)
theorem aAs {t:Nat} {gs:Gs} {d:DV} (h:gOf s t=some (gs,d)) (hF:Fr s ρ w f):(sat f gs->Hd ρ s.bl.length w d (f t))/\(¬sat f gs->f t=undef):=by
 unfold gOf at h
 split at h
 ·next e he=>injection h with h;subst h;exact hF.gl t gs d he
 split at h
 ·next d' hd=>injection h with h;injection h with h1 h2;subst h1 h2;exact⟨λ_=>hF.sl t _ hd,λhn=>absurd fP hn⟩
 cases h
theorem aNi {b:Bool}:(undef:Value)≠.bool b:=λh=>by cases h
theorem bNw {t:Nat} {want:Bool} {k:Prop->Prop} (h:go1 s t want k) (hF:Fr s ρ w f):∃q,k q/\(f t= .bool want->q):=by
 unfold go1 at h
 split at h
 ·next gs p hp he=>
  have hh:=aAs he hF
  have key:f t= .bool want->decide p=want:=λhf=>by
   by_cases hs:sat f gs
   ·have:=(hh.1 hs).inv_c.inv_b
    rw[hf] at this
    injection this with this
    exact this.symm
   rw[hh.2 hs] at hf;exact absurd hf aNi
  cases want with
  |true=>exact⟨p,h,λhf=>of_decide_eq_true (key hf)⟩
  |false=>exact⟨¬p,h,λhf=>of_decide_eq_false (key hf)⟩
 ·next gs b he=>
  have hh:=aAs he hF
  refine⟨_,h,λhf=>?_⟩
  by_cases hs:sat f gs
  ·have:=(hh.1 hs).inv_c.inv_v
   rw[hf] at this
   injection this with this
   exact this.symm
  rw[hh.2 hs] at hf;exact absurd hf aNi
 exact h.elim
theorem aZz:∀{gs:Gs} {k:Prop->Prop},gpK s gs k->Fr s ρ w f->∃q,k q/\(sat f gs->q)
 |[],k,h,_=>⟨True,h,λ_=>trivial⟩
 |(t,want)::r,k,h,hF=>by
  obtain⟨q,h1,h2⟩:=bNw (show go1 s t want _ from h) hF
  have hr:sat f ((t,want)::r)->sat f r:=λhs p hp=>hs p (.tail _ hp)
  split at h1
  ·exact⟨q,h1,λhs=>h2 (hs _ (.head _))⟩
  obtain⟨q2,h3,h4⟩:=aZz h1 hF
  exact⟨_,h3,λhs=>⟨h2 (hs _ (.head _)),h4 (hr hs)⟩⟩
theorem bIa (hg:o.guard=none):Wt N ops f o true:=λa _=>by simp[Region.wanted,hg]
theorem aBz {j t:Nat} {want b:Bool} (hg:o.guard=some (j,want)) (hj:(ops[j]?).bind (·.dst)=some t) (hf:f t= .bool b):Wt N ops f o (b==want):=λdl a ha=>tO ha hg hj hf
theorem bAa {j t:Nat} {want:Bool} (hg:o.guard=some (j,want)) (hj:(ops[j]?).bind (·.dst)=some t) (hf:f t=undef):Wt N ops f o false:=λdl a ha=>aDx ha hg hj (.inr hf)
theorem bAb {ρ:Pl} {n:Nat} {w:World} {x:Value} (h:x=undef):Hd ρ n w (.t []) x:=by subst h;exact .t (l:=[]) (vl:=[]) rfl λi d u h=>by cases h
theorem uX {t:Nat} {b:Bool} (hf:f t= .bool b) {n:Nat}:∀{gl:List (Nat×Gs×DV)} {sl:List (Nat×DV)} {g2:List (Nat×Gs×DV)} {k:List (Nat×DV)->List (Nat×Gs×DV)->Prop},aGs t b gl sl g2 k->(∀t d,iM sl t=some d->Hd ρ n w d (f t))->(∀t gs d,aAd gl t=some (gs,d)->(sat f gs->Hd ρ n w d (f t))/\(¬sat f gs->f t=undef))->(∀t gs d,aAd g2 t=some (gs,d)->(sat f gs->Hd ρ n w d (f t))/\(¬sat f gs->f t=undef))->
 ∃sl' gl',k sl' gl'/\(∀t d,iM sl' t=some d->Hd ρ n w d (f t))/\∀t gs d,aAd gl' t=some (gs,d)->(sat f gs->Hd ρ n w d (f t))/\(¬sat f gs->f t=undef)
 |[],sl,g2,k,h,hs,_,hg2=>⟨sl,g2,h,hs,hg2⟩
 |(d,gs,v)::r,sl,g2,k,h,hs,hg,hg2=>by
  have hrest:apG d r=true->∀t gs d',aAd r t=some (gs,d')->(sat f gs->Hd ρ n w d' (f t))/\(¬sat f gs->f t=undef):=λhb t2 gs d' h2=>by
   have hne:=(aPj hb h2).1
   refine hg t2 gs d' ?_
   unfold aAd
   cases hb2:Nat.beq d t2 with
   |true=>exact absurd (aO hb2).symm hne
   |false=>exact h2
  have hhd:aAd ((d,gs,v)::r) d=some (gs,v):=by unfold aAd;rw[iX];rfl
  have put:∀{x:DV},Hd ρ n w x (f d)->∀t d',iM ((d,x)::sl) t=some d'->Hd ρ n w d' (f t):=λ{x} hx t2 d' h2=>by
   unfold iM at h2
   cases hb2:Nat.beq d t2 with
   |true=>
    rw[hb2] at h2
    injection h2 with h2
    subst h2
    have:=aO hb2
    subst this
    exact hx
   |false=>rw[hb2] at h2;exact hs t2 d' h2
  simp only[aGs] at h
  cases hap:apG d r with
  |false=>rw[hap] at h;exact h.elim
  |true=>
  rw[hap] at h
  simp only[cond_true] at h
  split at h
  ·next t' b'=>
   cases hb:Nat.beq t' t with
   |false=>rw[hb] at h;exact uX hf h hs (hrest hap) hg2
   |true=>
    rw[hb] at h
    have e1:=aO hb
    subst e1
    simp only[cond_true] at h
    cases hbb:(b'==b) with
    |false=>
     rw[hbb] at h
     refine uX hf h (put (bAb ((hg d _ v hhd).2 λhs=>?_))) (hrest hap) hg2
     have:=hs _ (.head _)
     rw[hf] at this
     injection this with this
     rw[this] at hbb
     simp at hbb
    |true=>
     rw[hbb] at h
     have e2:=eq_of_beq hbb
     subst e2
     exact uX hf h (put ((hg d _ v hhd).1 λp hp=>by rw[aT.1 hp];exact hf)) (hrest hap) hg2
  ·next p t' b'=>
   cases hb:Nat.beq t' t with
   |false=>rw[hb] at h;exact uX hf h hs (hrest hap) hg2
   |true=>
    rw[hb] at h
    have e1:=aO hb
    subst e1
    simp only[cond_true] at h
    cases hbb:(b'==b) with
    |false=>
     rw[hbb] at h
     refine uX hf h (put (bAb ((hg d _ v hhd).2 λhs=>?_))) (hrest hap) hg2
     have:=hs (t',b') (.tail _ (.head _))
     rw[hf] at this
     injection this with this
     rw[this] at hbb
     simp at hbb
    |true=>
     rw[hbb] at h
     have e2:=eq_of_beq hbb
     subst e2
     have hiff:sat f [p]↔sat f [p,(t',b')]:=⟨λhs q hq=>by
      rcases bJ.1 hq with rfl|hq
      ·exact hs _ (.head _)
      rw[aT.1 hq];exact hf,λhs q hq=>by rw[aT.1 hq];exact hs _ (.head _)⟩
     refine uX hf h hs (hrest hap) λt2 gs d' h2=>?_
     unfold aAd at h2
     cases hb2:Nat.beq d t2 with
     |true=>
      rw[hb2] at h2
      injection h2 with h2
      injection h2 with h3 h4
      subst h3 h4
      have:=aO hb2
      subst this
      obtain⟨a1,a2⟩:=hg d _ v hhd
      exact⟨λhs=>a1 (hiff.1 hs),λhs=>a2 λh=>hs (hiff.2 h)⟩
     |false=>rw[hb2] at h2;exact hg2 t2 gs d' h2
  exact uX hf h hs (hrest hap) hg2
theorem Dn.lit {t:Nat} {b:Bool} {k:SS->Prop} (h:aPl t b s k) (hD:Dn ρ0 w0 nb s ρ f w) (hf:f t= .bool b):∃s',k s'/\Dn ρ0 w0 nb s' ρ f w:=by
 obtain⟨sl,gl,bl,fl⟩:=s
 obtain⟨sl',gl',h1,h2,h3⟩:=uX (ρ:=ρ) (w:=w) (n:=bl.length) hf (show aGs t b gl _ _ _ from h) (λt' d ht=>by
  simp only[iM] at ht
  cases he:Nat.beq t t' with
  |true=>
   rw[he] at ht
   injection ht with ht
   subst ht
   have:=aO he
   subst this
   rw[hf]
   exact .c (Rc.v _)
  |false=>rw[he] at ht;exact hD.f.sl t' d ht) (λt gs d ht=>hD.f.gl t gs d ht) (λt gs d ht=>by cases ht)
 exact⟨_,h1,hD.m,⟨h2,h3⟩,hD.l⟩
theorem sG (h:aAl N o s K) (hw:Wt N ops f o false) (hD:Dn ρ0 w0 nb s ρ f w):Res P N ops f o w (Cn ρ0 w0 nb only w K):=by
 unfold aAl at h
 split at h
 ·next d hd=>
  cases hn:Nat.ble (d+1) N with
  |false=>rw[hn] at h;exact h.elim
  |true=>
   rw[hn] at h
   obtain⟨s',h1,h2⟩:=hD.put (x:=undef) h (bAb rfl)
   exact .no hw d hd (bN hn) ⟨s',ρ,h1,h2,λ_=>gE w⟩
 next hd=>
 cases hc:calm o with
 |true=>rw[hc] at h;exact h.elim
 |false=>rw[hc] at h;exact .no0 hc hw hd ⟨s,ρ,h,hD,λ_=>gE w⟩
include hT in
theorem zU (h:exU P T nb N only o s K) (hw:Wt N ops f o true) (hD:Dn ρ0 w0 nb s ρ f w):Res P N ops f o w (Cn ρ0 w0 nb only w K):=by
 cases hc:calm o with
 |false=>exact .done hc hw (bNv hT h hD)
 |true=>
  unfold exU at h
  rw[hc] at h
  simp only[cond_true] at h
  split at h
  ·next d hd=>
   cases hn:Nat.ble (d+1) N with
   |false=>rw[hn] at h;exact h.elim
   |true=>
    rw[hn] at h
    simp only[cond_true] at h
    obtain⟨dv,h1,h2⟩:=aZy (P:=P) (o:=o) (pg:=none) hT h hD (λ_=>trivial)
    obtain⟨v,h3,h4⟩:=h2 fP
    obtain⟨s',h5,h6⟩:=hD.put h1 h3
    exact .calm hc hw d v hd (bN hn) h4 ⟨s',ρ,h5,h6,λ_=>gE w⟩
  exact h.elim
include hT in
theorem bAc {j t:Nat} {want:Bool} (hg:o.guard=some (j,want)) (hj:(ops[j]?).bind (·.dst)=some t) (hc:calm o=false) (h:V1t P T nb N only o t want s K) (hD:Dn ρ0 w0 nb s ρ f w):Res P N ops f o w (Cn ρ0 w0 nb only w K):=by
 unfold V1t at h
 split at h
 ·next p hp hgo=>
  have hf:f t= .bool (decide p):=((aAs hgo hD.f).1 fP).inv_c.inv_b
  have hw:=aBz (N:=N) hg hj hf
  by_cases hpp:p
  ·rw[decide_eq_true hpp] at hf hw
   obtain⟨s',h',hD'⟩:=hD.lit (h.1 hpp) hf
   cases want with
   |true=>exact zU hT h' hw hD'
   |false=>exact sG h' hw hD'
  rw[decide_eq_false hpp] at hf hw
  obtain⟨s',h',hD'⟩:=hD.lit (h.2 hpp) hf
  cases want with
  |true=>exact sG h' hw hD'
  |false=>exact zU hT h' hw hD'
 exact h.elim
include hT in
theorem uY (h:V1 P T nb N ops.toList only o s K) (hD:Dn ρ0 w0 nb s ρ f w):Res P N ops f o w (Cn ρ0 w0 nb only w K):=by
 unfold V1 at h
 split at h
 ·next hg=>exact zU hT h (bIa hg) hD
 next j want hg=>
 split at h
 ·exact h.elim
 next oj hoj=>
 split at h
 ·exact h.elim
 next t ht=>
 have hj:(ops[j]?).bind (·.dst)=some t:=by
  rw[<-dO,hoj]
  exact ht
 split at h
 ·next gs b hgo=>
  cases hge:gs.isEmpty with
  |false=>rw[hge] at h;exact h.elim
  |true=>
   rw[hge] at h
   simp only[cond_true] at h
   have hgs:gs=[]:=by simpa using hge
   subst hgs
   have hf:f t= .bool b:=((aAs hgo hD.f).1 fP).inv_c.inv_v
   have hw:=aBz (N:=N) hg hj hf
   cases hbw:(b==want) with
   |true=>
    rw[hbw] at h hw
    exact zU hT h hw hD
   |false=>
    rw[hbw] at h hw
    exact sG h hw hD
 ·next gs hgo=>
  cases hge:gs.isEmpty with
  |false=>rw[hge] at h;exact h.elim
  |true=>
   rw[hge] at h
   simp only[cond_true] at h
   have hgs:gs=[]:=by simpa using hge
   subst hgs
   have hf:f t=undef:=by
    have:=(aAs hgo hD.f).1 fP
    generalize f t=x at this
    cases this with
    |t h _=>rw[bX h.symm];rfl
   exact sG h (bAa hg hj hf) hD
 ·next gs p hp hgo=>
  have hgk:=aAs hgo hD.f
  cases hc:calm o with
  |true=>
   rw[hc] at h
   simp only[cond_true] at h
   split at h
   ·next d hd=>
    cases hn:Nat.ble (d+1) N with
    |false=>rw[hn] at h;exact h.elim
    |true=>
     rw[hn] at h
     simp only[cond_true] at h
     obtain⟨q,h1,hq⟩:=aZz h hD.f
     obtain⟨dv,h2,h3⟩:=aZy (P:=P) (o:=o) (pg:=some q) hT h1 hD hq
     have hn':=bN hn
     by_cases hs:sat f ((t,want)::gs)
     ·obtain⟨v,h4,h5⟩:=h3 hs
      obtain⟨s',h6,h7⟩:=hD.putg h2 (λ_=>h4) (λhn=>absurd hs hn)
      have hw:=aBz (N:=N) hg hj (hs _ (.head _))
      rw[show(want==want)=true by cases want<;>rfl] at hw
      exact .calm hc hw d v hd hn' h5 ⟨s',ρ,h6,h7,λ_=>gE w⟩
     obtain⟨s',h6,h7⟩:=hD.putg (x:=undef) h2 (λh=>absurd h hs) (λ_=>rfl)
     have hw:Wt N ops f o false:=by
      by_cases hs0:sat f gs
      ·have hf:f t= .bool (decide p):=(hgk.1 hs0).inv_c.inv_b
       have hw:=aBz (N:=N) hg hj hf
       have:(decide p==want)=false:=by
        cases hdw:(decide p==want) with
        |false=>rfl
        |true=>
         have:=eq_of_beq hdw
         rw[this] at hf
         exact absurd (yG hf hs0) hs
       rw[this] at hw
       exact hw
      exact bAa hg hj (hgk.2 hs0)
     exact .no hw d hd hn' ⟨s',ρ,h6,h7,λ_=>gE w⟩
   exact h.elim
  |false=>
   rw[hc] at h
   simp only[cond_false] at h
   split at h
   ·have hf:f t= .bool (decide p):=(hgk.1 fP).inv_c.inv_b
    have hw:=aBz (N:=N) hg hj hf
    by_cases hpp:p
    ·rw[decide_eq_true hpp] at hf hw
     obtain⟨s',h',hD'⟩:=hD.lit (h.1 hpp) hf
     cases want with
     |true=>exact zU hT h' hw hD'
     |false=>exact sG h' hw hD'
    rw[decide_eq_false hpp] at hf hw
    obtain⟨s',h',hD'⟩:=hD.lit (h.2 hpp) hf
    cases want with
    |true=>exact sG h' hw hD'
    |false=>exact zU hT h' hw hD'
   ·next t1 w1=>
    split at h
    ·next p1 hp1 hgo1=>
     have hf1:f t1= .bool (decide p1):=((aAs hgo1 hD.f).1 fP).inv_c.inv_b
     have out:∀b,f t1= .bool b->b≠w1->Wt N ops f o false:=λb hf hne=>by
      refine bAa hg hj (hgk.2 λhs=>hne ?_)
      have:=hs _ (.head _)
      rw[hf] at this
      injection this
     by_cases hpp:p1
     ·rw[decide_eq_true hpp] at hf1
      obtain⟨s',h',hD'⟩:=hD.lit (h.1 hpp) hf1
      cases w1 with
      |true=>exact bAc hT hg hj hc h' hD'
      |false=>exact sG h' (out _ hf1 dC) hD'
     rw[decide_eq_false hpp] at hf1
     obtain⟨s',h',hD'⟩:=hD.lit (h.2 hpp) hf1
     cases w1 with
     |true=>exact sG h' (out _ hf1 dC) hD'
     |false=>exact bAc hT hg hj hc h' hD'
    exact h.elim
   exact h.elim
 exact h.elim
theorem RL.stp {rest:List Oper} {Q:Po} (hw:Wt N ops f o true) (h:Stp P N f o w λf' w'=>RL P N ops rest Q f' w'):RL P N ops (o::rest) Q f w:=λdl a ha=>
 wpList_step λK hK=>by
  rw[hw dl a ha]
  simp only[if_true]
  unfold Oper.wp
  cases h with
  |val hd hn hr h=>rw[ha.eval,hr];exact hK _ _ (h _ _ (by rw[hd];exact ha.put hn _))
  |skip hd hr h=>obtain⟨r,hr,hrr⟩:=hr;rw[ha.eval,hr];rcases hrr with rfl|⟨v,rfl⟩<;>exact hK _ _ (h _ _ (by rw[hd];exact ha))
  |call hd hn hr hc h=>
   rw[ha.eval,hr]
   refine hc.mono λe w1 ⟨u,he,hp⟩=>?_
   subst he
   exact hK _ _ (h u w1 hp _ _ (by rw[hd];exact ha.put hn u))
theorem RL.not {rest:List Oper} {Q:Po} {d:Nat} (hw:Wt N ops f o false) (hd:o.dst=some d) (hn:d<N) (h:RL P N ops rest Q (st f d undef) w):RL P N ops (o::rest) Q f w:=λdl a ha=>
 wpList_step λK hK=>by
  rw[hw dl a ha]
  simp only[iD,if_false]
  exact hK _ _ (h _ _ (by rw[hd];exact ha.put hn undef))
theorem RL.not0 {rest:List Oper} {Q:Po} (hw:Wt N ops f o false) (hd:o.dst=none) (h:RL P N ops rest Q f w):RL P N ops (o::rest) Q f w:=λdl a ha=>
 wpList_step λK hK=>by
  rw[hw dl a ha]
  simp only[iD,if_false]
  exact hK _ _ (h _ _ (by rw[hd];exact ha))
include hT in
theorem yJ {Q:Po} (hQ:∀s ρ f w,K s->Dn ρ0 w0 nb s ρ f w->Q.nrm f w):∀{l:List Oper} {s:SS} {ρ:Pl} {f:Nat->Value} {w:World},VL P T nb N ops.toList l K s->Dn ρ0 w0 nb s ρ f w->RL P N ops l Q f w
 |[],s,ρ,f,w,h,hD=>by
  obtain⟨sl,gl,bl,fl⟩:=s
  refine aE (hQ _ ρ f w h ⟨hD.m,⟨hD.f.sl,λt gs d ht=>?_⟩,hD.l⟩)
  cases ht
 |o::l,s,ρ,f,w,h,hD=>by
  cases uY hT (show V1 P T nb N ops.toList false o s _ from h) hD with
  |done hc hw hs=>
   refine RL.stp hw ?_
   cases hs with
   |val hd hn hr h=>obtain⟨s',ρ',h1,h2,_⟩:=h;exact .val hd hn hr (yJ hQ h1 h2)
   |skip hd hr h=>obtain⟨s',ρ',h1,h2,_⟩:=h;exact .skip hd hr (yJ hQ h1 h2)
   |call hd hn hr hc h=>exact .call hd hn hr hc λv w' hp=>by obtain⟨s',ρ',h1,h2,_⟩:=h v w' hp;exact yJ hQ h1 h2
  |no hw d hd hn h=>obtain⟨s',ρ',h1,h2,_⟩:=h;exact RL.not hw hd hn (yJ hQ h1 h2)
  |no0 hc hw hd h=>obtain⟨s',ρ',h1,h2,_⟩:=h;exact RL.not0 hw hd (yJ hQ h1 h2)
  |calm hc hw d v hd hn hr h=>obtain⟨s',ρ',h1,h2,_⟩:=h;exact RL.stp hw (.val hd hn (hr w λ_=>gE w) (yJ hQ h1 h2))
/-! ### whatever order -/
abbrev Sx (w:World):World->Prop:=λu=>Below w.heap.size w u
theorem RA.stp {Q:Po} {S:World->Prop} {fuel i:Nat} {listed:Array Bool} (hi:ops[i]? =some o) (hr:Region.ready .any ops listed=[i]) (hw:Wt N ops f o true)
 (h:Stp P N f o w λf' w'=>Oks ops S i w w'/\RA P N ops Q S fuel (listed.setIfInBounds i true) f' w'):RA P N ops Q S (fuel+1) listed f w:=λdl a ha=>by
 refine⟨λh0=>(by rw[hr] at h0;cases h0),λj hj=>?_⟩
 rw[hr] at hj
 have:=aT.1 hj
 subst this
 unfold wpOp
 simp only[hi,hw dl a ha,if_true]
 refine .inl ?_
 unfold Oper.wp
 cases h with
 |val hd hn hr h=>rw[ha.eval,hr];exact⟨h.1,h.2 _ _ (by rw[hd];exact ha.put hn _)⟩
 |skip hd hr h=>obtain⟨r,hr,hrr⟩:=hr;rw[ha.eval,hr];rcases hrr with rfl|⟨v,rfl⟩<;>exact⟨h.1,h.2 _ _ (by rw[hd];exact ha)⟩
 |call hd hn hr hc h=>
  rw[ha.eval,hr]
  refine hc.mono λe w1 ⟨u,he,hp⟩=>?_
  subst he
  obtain⟨h1,h2⟩:=h u w1 hp
  exact⟨h1,h2 _ _ (by rw[hd];exact ha.put hn u)⟩
theorem RA.nots {Q:Po} {S:World->Prop} {fuel i:Nat} {listed:Array Bool} {f':Nat->Value} (hi:ops[i]? =some o) (hr:Region.ready .any ops listed=[i]) (hw:Wt N ops f o false) (hf:(∃d,o.dst=some d/\d<N/\f'=st f d undef)\/(o.dst=none/\f'=f)) (hS:Oks ops S i w w)
 (h:RA P N ops Q S fuel (listed.setIfInBounds i true) f' w):RA P N ops Q S (fuel+1) listed f w:=λdl a ha=>by
 refine⟨λh0=>(by rw[hr] at h0;cases h0),λj hj=>?_⟩
 rw[hr] at hj
 have:=aT.1 hj
 subst this
 unfold wpOp
 simp only[hi,hw dl a ha,iD,if_false]
 refine⟨hS,h _ _ ?_⟩
 rcases hf with ⟨d,hd,hn,rfl⟩|⟨hd,rfl⟩
 ·rw[hd];exact ha.put hn undef
 rw[hd];exact ha
def Sn (ops:Array Oper) (order:List (Nat×Bool)) (w:World) (S:World->Prop):Prop:=(∀u,Ext w u↔S u)\/aGt ops order=true
include hT in
theorem aIr {Q:Po} (hQ:∀s ρ f w,K s->Dn ρ0 w0 nb s ρ f w->Q.nrm f w):∀{order:List (Nat×Bool)} {listed:Array Bool} {fuel:Nat} {s:SS} {ρ:Pl} {f:Nat->Value} {w:World} {S:World->Prop},VD P T nb N ops.toList order K s->aBy ops listed order=true->order.length<=fuel->Sn ops order w S->Dn ρ0 w0 nb s ρ f w->RA P N ops Q S fuel listed f w
 |[],listed,fuel,s,ρ,f,w,S,h,hs,_,_,hD=>by
  obtain⟨sl,gl,bl,fl⟩:=s
  refine RA.done (by simpa[aBy] using hs) (hQ _ ρ f w h ⟨hD.m,⟨hD.f.sl,λt gs d ht=>?_⟩,hD.l⟩)
  cases ht
 |(i,last)::order,listed,0,s,ρ,f,w,S,h,hs,hl,_,hD=>by simp at hl
 |(i,last)::order,listed,fuel+1,s,ρ,f,w,S,h,hs,hl,hSn,hD=>by
  have hl':order.length<=fuel:=by simpa using hl
  simp only[aBy,aQ] at hs
  unfold VD at h
  split at h
  ·next o ho=>
   have hi:ops[i]? =some o:=by rw[<-dO];exact ho
   obtain⟨hs1,hs2⟩:=hs
   rw[hi] at hs1
   simp only at hs1
   have same:Sn ops order w S:=by
    rcases hSn with h|h
    ·exact .inl h
    simp only[aGt,List.all_cons,aQ] at h;exact .inr h.2
   have htl:aGt ops ((i,last)::order)=true->(calm o=false->last=true)/\(calm o=true->tT o=false):=λht=>by
    simp only[aGt,List.all_cons,aQ,hi] at ht
    have h1:=ht.1
    constructor
    ·intro hc;rw[hc] at h1;exact h1
    intro hc;rw[hc] at h1;simpa using h1
   cases uY hT h hD with
   |done hc hw hst=>
    rw[hc] at hs1
    simp only[cond_false,aQ,kY,dL,beq_iff_eq] at hs1
    have cont:∀{f':Nat->Value} {w':World},Cn ρ0 w0 nb (!last) w (λs'=>VD P T nb N ops.toList order K s') f' w'->Oks ops S i w w'/\RA P N ops Q S fuel (listed.setIfInBounds i true) f' w':=λ{f' w'} hh=>by
     obtain⟨s',ρ',h1,h2,h3⟩:=hh
     cases hlast:last with
     |false=>
      have he:Ext w w':=h3 (by rw[hlast];rfl)
      rcases hSn with h|h
      ·refine⟨.inr (.inr ((h w').1 he)),?_⟩
       exact RA.more (S':=Sx w') (λu hu=>(h u).1 (aB he hu)) (aIr hQ h1 hs2 hl' (.inl λu=>qD) h2)
      have:=(htl h).1 hc;rw[hlast] at this;cases this
     |true=>
      rcases hs1.2 with h|h
      ·rw[hlast] at h;cases h
      exact⟨.inr (.inl h.1),aIr hQ h1 hs2 hl' (.inr h.2) h2⟩
    refine RA.stp hi hs1.1 hw ?_
    cases hst with
    |val hd hn hr h=>exact .val hd hn hr (cont h)
    |skip hd hr h=>exact .skip hd hr (cont h)
    |call hd hn hr hc h=>exact .call hd hn hr hc λv w' hp=>cont (h v w' hp)
   |no hw d hd hn h=>
    obtain⟨s',ρ',h1,h2,_⟩:=h
    have hr:=aIr hQ h1 hs2 hl' same h2
    cases hc:calm o with
    |true=>
     rw[hc] at hs1
     exact RA.take0 (S0:=λ_=>True) i hi hs1 (.inl λ_=>trivial) trivial hd hn (λdl a ha=> .inr ⟨hw dl a ha,rfl⟩) hr
    |false=>
     rw[hc] at hs1
     simp only[cond_false,aQ,kY,dL,beq_iff_eq] at hs1
     refine RA.nots hi hs1.1 hw (.inl ⟨d,hd,hn,rfl⟩) ?_ hr
     rcases hSn with h|h
     ·exact .inr (.inr ((h w).1 (gE w)))
     rcases hs1.2 with h'|h'
     ·have:=(htl h).1 hc;rw[this] at h';cases h'
     exact .inr (.inl h'.1)
   |no0 hc hw hd h=>
    obtain⟨s',ρ',h1,h2,_⟩:=h
    rw[hc] at hs1
    simp only[cond_false,aQ,kY,dL,beq_iff_eq] at hs1
    refine RA.nots hi hs1.1 hw (.inr ⟨hd,rfl⟩) ?_ (aIr hQ h1 hs2 hl' same h2)
    rcases hSn with h|h
    ·exact .inr (.inr ((h w).1 (gE w)))
    rcases hs1.2 with h'|h'
    ·have:=(htl h).1 hc;rw[this] at h';cases h'
    exact .inr (.inl h'.1)
   |calm hc hw d v hd hn hr h=>
    obtain⟨s',ρ',h1,h2,_⟩:=h
    rw[hc] at hs1
    have hh:=aIr hQ h1 hs2 hl' same h2
    cases hrd:tT o with
    |true=>
     rcases hSn with h|h
     ·exact RA.take0 (S0:=Sx w) i hi hs1 (.inr ⟨hrd,λu hu=>(h u).2 hu⟩) (gE w) hd hn (λdl a ha=> .inl ⟨hw dl a ha,λu hu=>by rw[ha.eval];exact hr u λ_=>hu⟩) hh
     have:=(htl h).2 hc;rw[hrd] at this;cases this
    |false=>exact RA.take0 (S0:=λ_=>True) i hi hs1 (.inl λ_=>trivial) trivial hd hn (λdl a ha=> .inl ⟨hw dl a ha,λu _=>by rw[ha.eval];exact hr u λh=>by rw[hrd] at h;cases h⟩) hh
  exact h.elim
end
/-! ### every order that there is -/
def Gt (nb:Nat) (s:SS) {σ:Type} (S:σ->SS) (C:σ->Prop):Prop:=∀ρ0 w0 ρ f w,Dn ρ0 w0 nb s ρ f w->∃g ρ',C g/\Dn ρ0 w0 nb (S g) ρ' f w
inductive Tr where
 |nil
 |alt (i:Nat) (t r:Tr)
inductive Ord where
 |seq (l:List (Nat×Bool))
 |tree (pre:List Nat) (t:Tr)
 |join (pre:List Nat) (t:Tr)
 |joinR (pre:List Nat) (t:Tr)
 |treeH (pre:List Nat) (t:Tr)
 |joinX (pre rs:List Nat) (t:Tr)
 |treeX (pre rs:List Nat) (t:Tr)
def VT (P:Program) (T:TT) (nb N:Nat) (l0:List Oper):Tr->Bool->(SS->Prop)->SS->Prop
 |.nil,b,K,s=>bif b then (match s with
  |⟨sl,_,bl,fl⟩=>K ⟨sl,[],bl,fl⟩) else True
 |.alt i t r,_,K,s=>match r with
  |.nil=>(match l0[i]? with
   |some o=>V1 P T nb N l0 false o s λs'=>VT P T nb N l0 t true K s'
   |none=>False)
  |.alt i' t' r'=>(match l0[i]? with
   |some o=>V1 P T nb N l0 false o s λs'=>VT P T nb N l0 t true K s'
   |none=>False)/\VT P T nb N l0 (.alt i' t' r') false K s
def Tr.heads:Tr->List Nat
 |.nil=>[]
 |.alt i _ r=>i::r.heads
def Tr.depth:Tr->Nat
 |.nil=>0
 |.alt _ t r=>max (t.depth+1) r.depth
def aVz (ops:Array Oper):Tr->Bool->Array Bool->Bool
 |.nil,b,listed=>!b||(Region.ready .any ops listed).isEmpty
 |.alt i t r,b,listed=>(!b||Region.ready .any ops listed==i::r.heads)&&(aVz ops t true (listed.setIfInBounds i true)&&aVz ops r false listed)
def VH (P:Program) (T:TT) (nb N:Nat) (l0:List Oper) (t:Tr):List Nat->(SS->Prop)->SS->Prop
 |[],K,s=>VT P T nb N l0 t true K s
 |i::l,K,s=>match l0[i]? with
  |some o=>V1 P T nb N l0 true o s λs'=>VH P T nb N l0 t l K s'
  |none=>False
def aNj (ops:Array Oper) (t:Tr):List Nat->Array Bool->Bool
 |[],listed=>aVz ops t true listed
 |i::l,listed=>(match ops[i]? with
  |some o=>calm o&&(!tT o&&nH ops listed i)
  |none=>false)&&aNj ops t l (listed.setIfInBounds i true)
def ixT (i:Nat):Nat:=bif Nat.ble 2000 i then i-2000 else bif Nat.ble 1000 i then i-1000 else i
def VTR (P:Program) (T:TT) (nb N:Nat) (l0:List Oper):Tr->Bool->(SS->Prop)->SS->Prop
 |.nil,b,K,s=>bif b then (match s with
  |⟨sl,_,bl,fl⟩=>K ⟨sl,[],bl,fl⟩) else True
 |.alt i t r,_,K,s=>match r with
  |.nil=>(match l0[ixT i]? with
   |some o=>V1 P T nb N l0 (!Nat.ble 1000 i) o s λs'=>VTR P T nb N l0 t true K s'
   |none=>False)
  |.alt i' t' r'=>(match l0[ixT i]? with
   |some o=>V1 P T nb N l0 (!Nat.ble 1000 i) o s λs'=>VTR P T nb N l0 t true K s'
   |none=>False)/\VTR P T nb N l0 (.alt i' t' r') false K s
def mL:Tr->List Nat
 |.nil=>[]
 |.alt i _ r=>bif Nat.ble 2000 i then [] else ixT i::mL r
def tC (ops:Array Oper):Tr->Bool
 |.nil=>true
 |.alt i t r=>(match ops[ixT i]? with
  |some o=>calm o||Nat.ble 1000 i
  |none=>false)&&(tC ops t&&tC ops r)
def Tr.isNil:Tr->Bool
 |.nil=>true
 |.alt _ _ _=>false
def bAd (ops:Array Oper) (i:Nat) (listed:Array Bool):Bool:=match ops[ixT i]? with
 |some o=>calm o&&(!tT o&&nH ops listed (ixT i))
 |none=>false
def wN (ops:Array Oper):Tr->Bool->Array Bool->Bool
 |.nil,b,listed=>!b||(Region.ready .any ops listed).isEmpty
 |.alt i t r,b,listed=>bif Nat.ble 2000 i then b&&(r.isNil&&(bAd ops i listed&&wN ops t true (listed.setIfInBounds (ixT i) true))) else (!b||Region.ready .any ops listed==ixT i::mL r)&&((!Nat.ble 1000 i||(aFo ops (ixT i)&&tC ops t))&&(wN ops t true (listed.setIfInBounds (ixT i) true)&&wN ops r false listed))
def VHR (P:Program) (T:TT) (nb N:Nat) (l0:List Oper) (t:Tr):List Nat->(SS->Prop)->SS->Prop
 |[],K,s=>VTR P T nb N l0 t true K s
 |i::l,K,s=>match l0[i]? with
  |some o=>V1 P T nb N l0 true o s λs'=>VHR P T nb N l0 t l K s'
  |none=>False
def aJx (ops:Array Oper) (t:Tr):List Nat->Array Bool->Bool
 |[],listed=>wN ops t true listed
 |i::l,listed=>(match ops[i]? with
  |some o=>calm o&&nH ops listed i
  |none=>false)&&aJx ops t l (listed.setIfInBounds i true)
def VTH (P:Program) (T:TT) (nb N:Nat) (l0:List Oper):Tr->Bool->(SS->Prop)->SS->Prop
 |.nil,b,K,s=>bif b then (match s with
  |⟨sl,_,bl,fl⟩=>K ⟨sl,[],bl,fl⟩) else True
 |.alt i t r,_,K,s=>match r with
  |.nil=>(match l0[ixT i]? with
   |some o=>V1 P T nb N l0 false o s λs'=>VTH P T nb N l0 t true K s'
   |none=>False)
  |.alt i' t' r'=>(match l0[ixT i]? with
   |some o=>V1 P T nb N l0 false o s λs'=>VTH P T nb N l0 t true K s'
   |none=>False)/\VTH P T nb N l0 (.alt i' t' r') false K s
def aEj (ops:Array Oper):Tr->Bool->Array Bool->Bool
 |.nil,b,listed=>!b||(Region.ready .any ops listed).isEmpty
 |.alt i t r,b,listed=>bif Nat.ble 2000 i then b&&(r.isNil&&(bAd ops i listed&&aEj ops t true (listed.setIfInBounds (ixT i) true))) else (!b||Region.ready .any ops listed==ixT i::mL r)&&(aEj ops t true (listed.setIfInBounds (ixT i) true)&&aEj ops r false listed)
def VHH (P:Program) (T:TT) (nb N:Nat) (l0:List Oper) (t:Tr):List Nat->(SS->Prop)->SS->Prop
 |[],K,s=>VTH P T nb N l0 t true K s
 |i::l,K,s=>match l0[i]? with
  |some o=>V1 P T nb N l0 true o s λs'=>VHH P T nb N l0 t l K s'
  |none=>False
def aJy (ops:Array Oper) (t:Tr):List Nat->Array Bool->Bool
 |[],listed=>aEj ops t true listed
 |i::l,listed=>(match ops[i]? with
  |some o=>calm o&&(!tT o&&nH ops listed i)
  |none=>false)&&aJy ops t l (listed.setIfInBounds i true)
def aWa:CV->Option Value
 |.v x=>some x
 |.h A n c=>some (.slice (A.map λb=>⟨b,0,none⟩) n c)
 |.hp b o=>some (.pointer (some ⟨b,o,none⟩))
 |.b p h=>some (.bool (@decide p h))
 |.r A n c _ _=>some (.slice A n c)
 |_=>none
def rdC (s:SS) (tp off:Nat):Option CV:=match iM s.sl tp with
 |some (.c (.p j o))=>(match s.bl[j]? with
  |some b=>b.2.2[o+off]?
  |none=>none)
 |some (.c (.q _ _ _ _ get j o))=>(get j)[o+off]?
 |_=>none
abbrev Acc:=List (Nat×Nat×(Value ⊕ Nat))
inductive Key where
 |val (v:Value)
 |own (i n:Nat)
 |ptr (i o:Nat)
 |bad (k:Nat)
def qF:Option CV->Key
 |some c=>(match aWa c with
  |some v=> .val v
  |none=> .bad 0)
 |none=> .bad 0
def bNx:Option CV->Key
 |some (.s i n)=> .own i n
 |some (.p i o)=> .ptr i o
 |_=> .bad 0
def bNy:Option DV->Key
 |some (.c (.s i n))=> .own i n
 |some (.c (.p i o))=> .ptr i o
 |_=> .bad 1
def aWb (s:SS):Acc->List Key
 |[]=>[]
 |(tp,off,.inl _)::r=>qF (rdC s tp off)::aWb s r
 |(tp,off,.inr _)::r=>bNx (rdC s tp off)::aWb s r
def aIs (s:SS):Acc->List Key
 |[]=>[]
 |(_,_,.inl v)::r=> .val v::aIs s r
 |(_,_,.inr t)::r=>bNy (iM s.sl t)::aIs s r
def bNz (acc:Acc) (s:SS) (k:Prop):Prop:=aWb s acc=aIs s acc/\k
def bAe (d:Nat) (acc:Acc):Bool:=acc.all λe=>!Nat.beq e.1 d&&(match e.2.2 with
 |.inl _=>true
 |.inr t=>!Nat.beq t d)
def yK (o:Oper) (acc:Acc):Bool:=match o.dst with
 |none=>true
 |some d=>bAe d acc
def rdS (s:SS) (tp:Nat):Option CV:=match rdC s tp 0 with
 |some (.s i n)=>some (.s i n)
 |some (.p i o)=>some (.p i o)
 |_=>none
def bIb:CV->Bool
 |.s _ _=>true
 |.p _ _=>true
 |_=>false
def aJz (s:SS) (tp:Nat):Nat->Nat->(List CV->List Value->Prop)->Prop
 |0,_,K=>K [] []
 |n+1,k,K=>match rdC s tp k with
  |some c=>(match aWa c with
   |some v=>aJz s tp n (k+1) λcs vs=>K (c::cs) (v::vs)
   |none=>False)
  |none=>False
def bOa (s:SS) (tp:Nat):Nat->Nat->(List CV->List Value->Prop)->Prop
 |0,_,K=>K [] []
 |n+1,k,K=>∃c v,(rdC s tp k=some c/\aWa c=some v)/\bOa s tp n (k+1) λcs vs=>K (c::cs) (v::vs)
theorem aSu {s:SS} {tp:Nat}:∀{n k:Nat} {K:List CV->List Value->Prop},bOa s tp n k K->aJz s tp n k K
 |0,_,_,h=>h
 |n+1,k,K,⟨c,v,⟨h1,h2⟩,h⟩=>by
  unfold aJz
  rw[h1]
  simp only[h2]
  exact aSu h
def bIc (i:Nat) (s:SS) (tp n k:Nat) (K:List CV->List Value->Prop):Prop:=bif Nat.ble 1000 i then bOa s tp n k K else aJz s tp n k K
theorem aSv {i:Nat} {s:SS} {tp n k:Nat} {K:List CV->List Value->Prop} (h:bIc i s tp n k K):aJz s tp n k K:=by
 unfold bIc at h
 cases hb:Nat.ble 1000 i with
 |true=>rw[hb] at h;exact aSu h
 |false=>rw[hb] at h;exact h
def mkE (tp:Nat):Nat->List Value->Acc->Acc
 |_,[],acc=>acc
 |k,v::r,acc=>(tp,k,.inl v)::mkE tp (k+1) r acc
def V1X (P:Program) (T:TT) (nb N:Nat) (l0:List Oper) (acc:Acc) (i:Nat) (s:SS) (K:SS->Prop):Prop:=match l0[ixT i]? with
 |some o=>bif yK o acc then V1 P T nb N l0 false o s λs'=>bif Nat.ble 1000 i then K s' else bNz acc s' (K s') else False
 |none=>False
def VTX (P:Program) (T:TT) (nb N:Nat) (l0:List Oper) (acc:Acc):Tr->Bool->(SS->Prop)->SS->Prop
 |.nil,b,K,s=>bif b then (match s with
  |⟨sl,_,bl,fl⟩=>K ⟨sl,[],bl,fl⟩) else True
 |.alt i t r,_,K,s=>match r with
  |.nil=>V1X P T nb N l0 acc i s λs'=>VTX P T nb N l0 acc t true K s'
  |.alt i' t' r'=>(V1X P T nb N l0 acc i s λs'=>VTX P T nb N l0 acc t true K s')/\VTX P T nb N l0 acc (.alt i' t' r') false K s
def VRX (P:Program) (T:TT) (nb N:Nat) (l0:List Oper) (t:Tr):List Nat->Acc->(SS->Prop)->SS->Prop
 |[],acc,K,s=>VTX P T nb N l0 acc t true K s
 |i::l,acc,K,s=>bif Nat.ble 2000 i then (match l0[ixT i]? with
   |some o=>bif calm o&&(!tT o&&yK o acc) then V1 P T nb N l0 true o s λs'=>VRX P T nb N l0 t l acc K s' else False
   |none=>False) else match l0[ixT i]? with
  |some ⟨some d,.load ty (.tmp tp),_,_,_,none⟩=>(match T ty with
   |some ti=>bif Nat.ble 1 ti.size&&(Nat.ble (d+1) N&&((!Nat.beq tp d)&&bAe d acc)) then (bif ti.agg then bIc i s tp ti.size 0 λcs vs=>aIa s d (.a cs) λs'=>VRX P T nb N l0 t l (mkE tp 0 vs acc) K s'
    else match (bif Nat.ble 1000 i then none else rdS s tp) with
     |some cv=>aIa s d (.c cv) λs'=>VRX P T nb N l0 t l ((tp,0,.inr d)::acc) K s'
     |none=>bIc i s tp 1 0 λcs vs=>match cs with
      |[c]=>aIa s d (.c c) λs'=>VRX P T nb N l0 t l (mkE tp 0 vs acc) K s'
      |_=>False) else False
   |none=>False)
  |_=>False
def VHX (P:Program) (T:TT) (nb N:Nat) (l0:List Oper) (rs:List Nat) (t:Tr):List Nat->(SS->Prop)->SS->Prop
 |[],K,s=>VRX P T nb N l0 t rs [] K s
 |i::l,K,s=>match l0[i]? with
  |some o=>V1 P T nb N l0 true o s λs'=>VHX P T nb N l0 rs t l K s'
  |none=>False
def aSw (ops:Array Oper) (t:Tr):List Nat->Array Bool->Bool
 |[],listed=>wN ops t true listed
 |i::l,listed=>nH ops listed (ixT i)&&aSw ops t l (listed.setIfInBounds (ixT i) true)
def aGu (ops:Array Oper) (rs:List Nat) (t:Tr):List Nat->Array Bool->Bool
 |[],listed=>aSw ops t rs listed
 |i::l,listed=>(match ops[i]? with
  |some o=>calm o&&(!tT o&&nH ops listed i)
  |none=>false)&&aGu ops rs t l (listed.setIfInBounds i true)
def VR (P:Program) (T:TT) (nb N:Nat) (l0:List Oper):Ord->(SS->Prop)->SS->Prop
 |.seq l,K,s=>VD P T nb N l0 l K s
 |.tree pre t,K,s=>VH P T nb N l0 t pre K s
 |.join pre t,K,s=>∃(σ:Type) (S:σ->SS) (C:σ->Prop),VH P T nb N l0 t pre (λs'=>Gt nb s' S C) s/\∀g,C g->K (S g)
 |.joinR pre t,K,s=>∃(σ:Type) (S:σ->SS) (C:σ->Prop),VHR P T nb N l0 t pre (λs'=>Gt nb s' S C) s/\∀g,C g->K (S g)
 |.treeH pre t,K,s=>VHH P T nb N l0 t pre K s
 |.joinX pre rs t,K,s=>∃(σ:Type) (S:σ->SS) (C:σ->Prop),VHX P T nb N l0 rs t pre (λs'=>Gt nb s' S C) s/\∀g,C g->K (S g)
 |.treeX pre rs t,K,s=>VHX P T nb N l0 rs t pre K s
def aNk (ops:Array Oper):Ord->Bool
 |.seq l=>aBy ops (Array.replicate ops.size false) l&&Nat.ble l.length ops.size
 |.tree pre t=>aNj ops t pre (Array.replicate ops.size false)&&Nat.ble (pre.length+t.depth) ops.size
 |.join pre t=>aNj ops t pre (Array.replicate ops.size false)&&Nat.ble (pre.length+t.depth) ops.size
 |.joinR pre t=>aJx ops t pre (Array.replicate ops.size false)&&Nat.ble (pre.length+t.depth) ops.size
 |.treeH pre t=>aJy ops t pre (Array.replicate ops.size false)&&Nat.ble (pre.length+t.depth) ops.size
 |.treeX pre rs t=>aGu ops rs t pre (Array.replicate ops.size false)&&Nat.ble (pre.length+(rs.length+t.depth)) ops.size
 |.joinX pre rs t=>aGu ops rs t pre (Array.replicate ops.size false)&&Nat.ble (pre.length+(rs.length+t.depth)) ops.size
section
variable {P:Program} {T:TT} {nb N:Nat} {ops:Array Oper} {ρ0:Pl} {w0:World} {K:SS->Prop} (hT:Good P T)
abbrev Tru:World->Prop:=λ_=>True
theorem aEx {o:Oper} {Q:Po} {fuel i:Nat} {listed:Array Bool} {f:Nat->Value} {w:World} (hi:ops[i]? =some o) (hw:Wt N ops f o true)
 (h:Stp P N f o w λf' w'=>RA P N ops Q Tru fuel (listed.setIfInBounds i true) f' w'):∀dl a,Fm dl N f a->wpOp P ops (up dl N Q) i (λa' w'=>Oks ops Tru i w w'/\kF P ops (up dl N Q) Tru fuel (listed.setIfInBounds i true) a' w') a w:=λdl a ha=>by
 unfold wpOp
 simp only[hi,hw dl a ha,if_true]
 refine .inl ?_
 unfold Oper.wp
 cases h with
 |val hd hn hr h=>rw[ha.eval,hr];exact⟨.inr (.inr trivial),h _ _ (by rw[hd];exact ha.put hn _)⟩
 |skip hd hr h=>obtain⟨r,hr,hrr⟩:=hr;rw[ha.eval,hr];rcases hrr with rfl|⟨v,rfl⟩<;>exact⟨.inr (.inr trivial),h _ _ (by rw[hd];exact ha)⟩
 |call hd hn hr hc h=>
  rw[ha.eval,hr]
  refine hc.mono λe w1 ⟨u,he,hp⟩=>?_
  subst he
  exact⟨.inr (.inr trivial),h u w1 hp _ _ (by rw[hd];exact ha.put hn u)⟩
theorem aKa {o:Oper} {Q:Po} {fuel i:Nat} {listed:Array Bool} {f f':Nat->Value} {w:World} (hi:ops[i]? =some o) (hw:Wt N ops f o false) (hf:(∃d,o.dst=some d/\d<N/\f'=st f d undef)\/(o.dst=none/\f'=f))
 (h:RA P N ops Q Tru fuel (listed.setIfInBounds i true) f' w):∀dl a,Fm dl N f a->wpOp P ops (up dl N Q) i (λa' w'=>Oks ops Tru i w w'/\kF P ops (up dl N Q) Tru fuel (listed.setIfInBounds i true) a' w') a w:=λdl a ha=>by
 unfold wpOp
 simp only[hi,hw dl a ha,iD,if_false]
 refine⟨.inr (.inr trivial),h _ _ ?_⟩
 rcases hf with ⟨d,hd,hn,rfl⟩|⟨hd,rfl⟩
 ·rw[hd];exact ha.put hn undef
 rw[hd];exact ha
include hT in
theorem bAf {Q:Po} (hQ:∀s ρ f w,K s->Dn ρ0 w0 nb s ρ f w->Q.nrm f w):∀{t:Tr} {b:Bool} {listed:Array Bool} {fuel:Nat} {s:SS} {ρ:Pl} {f:Nat->Value} {w:World},VT P T nb N ops.toList t b K s->aVz ops t b listed=true->t.depth<=fuel->Dn ρ0 w0 nb s ρ f w->
 (b=true->RA P N ops Q Tru fuel listed f w)/\∀i∈t.heads,∀fu,fuel=fu+1->∀dl a,Fm dl N f a->wpOp P ops (up dl N Q) i (λa' w'=>Oks ops Tru i w w'/\kF P ops (up dl N Q) Tru fu (listed.setIfInBounds i true) a' w') a w
 |.nil,b,listed,fuel,s,ρ,f,w,h,hs,_,hD=>by
  refine⟨λhb=>?_,λi hi=>by cases hi⟩
  subst hb
  obtain⟨sl,gl,bl,fl⟩:=s
  refine RA.done (by simpa[aVz] using hs) (hQ _ ρ f w h ⟨hD.m,⟨hD.f.sl,λt gs d ht=>?_⟩,hD.l⟩)
  cases ht
 |.alt i t r,b,listed,fuel,s,ρ,f,w,h,hs,hl,hD=>by
  simp only[aVz,aQ] at hs
  obtain⟨hs1,hs2,hs3⟩:=hs
  simp only[Tr.depth] at hl
  obtain⟨fu,rfl⟩:∃fu,fuel=fu+1:=⟨fuel-1,by omega⟩
  have key:∀{o:Oper},ops[i]? =some o->V1 P T nb N ops.toList false o s (λs'=>VT P T nb N ops.toList t true K s')->∀dl a,Fm dl N f a->wpOp P ops (up dl N Q) i (λa' w'=>Oks ops Tru i w w'/\kF P ops (up dl N Q) Tru fu (listed.setIfInBounds i true) a' w') a w:=λ{o} hi hv=>by
   have go:∀{f':Nat->Value} {w':World},Cn ρ0 w0 nb false w (λs'=>VT P T nb N ops.toList t true K s') f' w'->RA P N ops Q Tru fu (listed.setIfInBounds i true) f' w':=λ{f' w'} hh=>by
    obtain⟨s',ρ',h1,h2,_⟩:=hh
    exact(bAf hQ h1 hs2 oM h2).1 rfl
   cases uY hT hv hD with
   |done hc hw hst=>
    refine aEx hi hw ?_
    cases hst with
    |val hd hn hr h=>exact .val hd hn hr (go h)
    |skip hd hr h=>exact .skip hd hr (go h)
    |call hd hn hr hc h=>exact .call hd hn hr hc λv w' hp=>go (h v w' hp)
   |no hw d hd hn h=>exact aKa hi hw (.inl ⟨d,hd,hn,rfl⟩) (go h)
   |no0 hc hw hd h=>exact aKa hi hw (.inr ⟨hd,rfl⟩) (go h)
   |calm hc hw d v hd hn hr h=>exact aEx hi hw (.val hd hn (hr w λ_=>gE w) (go h))
  have all:∀j∈(Tr.alt i t r).heads,∀dl a,Fm dl N f a->wpOp P ops (up dl N Q) j (λa' w'=>Oks ops Tru j w w'/\kF P ops (up dl N Q) Tru fu (listed.setIfInBounds j true) a' w') a w:=λj hj=>by
   have one:(match ops.toList[i]? with
    |some o=>V1 P T nb N ops.toList false o s λs'=>VT P T nb N ops.toList t true K s'
    |none=>False)->∀dl a,Fm dl N f a->wpOp P ops (up dl N Q) i (λa' w'=>Oks ops Tru i w w'/\kF P ops (up dl N Q) Tru fu (listed.setIfInBounds i true) a' w') a w:=λhm=>by
    split at hm
    ·next o ho=>exact key (by rw[<-dO];exact ho) hm
    exact hm.elim
   rcases bJ.1 hj with rfl|hj
   ·cases r with
    |nil=>exact one h
    |alt i' t' r'=>exact one h.1
   cases r with
   |nil=>cases hj
   |alt i' t' r'=>exact(bAf hQ h.2 hs3 oM hD).2 j hj fu rfl
  refine⟨λhb dl a ha=>?_,λj hj fu' hfu dl a ha=>(xM hfu)▸all j hj dl a ha⟩
  subst hb
  have hr:Region.ready .any ops listed=i::r.heads:=by simpa using hs1
  refine⟨λh0=>(by rw[hr] at h0;cases h0),λj hj=>?_⟩
  rw[hr] at hj
  exact all j hj dl a ha
include hT in
theorem aSx {Q:Po} (hQ:∀s ρ f w,K s->Dn ρ0 w0 nb s ρ f w->Q.nrm f w) {t:Tr}:∀{pre:List Nat} {listed:Array Bool} {fuel:Nat} {s:SS} {ρ:Pl} {f:Nat->Value} {w:World},VH P T nb N ops.toList t pre K s->aNj ops t pre listed=true->pre.length+t.depth<=fuel->Dn ρ0 w0 nb s ρ f w->RA P N ops Q Tru fuel listed f w
 |[],listed,fuel,s,ρ,f,w,h,hs,hl,hD=>(bAf hT hQ h hs (by simpa using hl) hD).1 rfl
 |i::pre,listed,0,s,ρ,f,w,h,hs,hl,hD=>by simp at hl
 |i::pre,listed,fuel+1,s,ρ,f,w,h,hs,hl,hD=>by
  simp only[aNj,aQ] at hs
  obtain⟨hs1,hs2⟩:=hs
  unfold VH at h
  split at h
  ·next o ho=>
   have hi:ops[i]? =some o:=by rw[<-dO];exact ho
   rw[hi] at hs1
   simp only[aQ,dL] at hs1
   obtain⟨hc,hrd,htk⟩:=hs1
   have hl':pre.length+t.depth<=fuel:=by simp only[eI] at hl;omega
   cases uY hT h hD with
   |done hc' hw hst=>rw[hc] at hc';cases hc'
   |no hw d hd hn h=>
    obtain⟨s',ρ',h1,h2,_⟩:=h
    exact RA.take0 (S0:=λ_=>True) i hi htk (.inl λ_=>trivial) trivial hd hn (λdl a ha=> .inr ⟨hw dl a ha,rfl⟩) (aSx hQ h1 hs2 hl' h2)
   |no0 hc' hw hd h=>rw[hc] at hc';cases hc'
   |calm hc' hw d v hd hn hr h=>
    obtain⟨s',ρ',h1,h2,_⟩:=h
    exact RA.take0 (S0:=λ_=>True) i hi htk (.inl λ_=>trivial) trivial hd hn (λdl a ha=> .inl ⟨hw dl a ha,λu _=>by rw[ha.eval];exact hr u λh=>by rw[hrd] at h;cases h⟩) (aSx hQ h1 hs2 hl' h2)
  exact h.elim
include hT in
theorem aGv {Q:Po} (hQ:∀s ρ f w,K s->Dn ρ0 w0 nb s ρ f w->Q.nrm f w):∀{t:Tr} {b:Bool} {listed:Array Bool} {fuel:Nat} {s:SS} {ρ:Pl} {f:Nat->Value} {w:World},VTH P T nb N ops.toList t b K s->aEj ops t b listed=true->t.depth<=fuel->Dn ρ0 w0 nb s ρ f w->
 (b=true->RA P N ops Q Tru fuel listed f w)/\∀i∈mL t,∀fu,fuel=fu+1->∀dl a,Fm dl N f a->wpOp P ops (up dl N Q) i (λa' w'=>Oks ops Tru i w w'/\kF P ops (up dl N Q) Tru fu (listed.setIfInBounds i true) a' w') a w
 |.nil,b,listed,fuel,s,ρ,f,w,h,hs,_,hD=>by
  refine⟨λhb=>?_,λi hi=>by cases hi⟩
  subst hb
  obtain⟨sl,gl,bl,fl⟩:=s
  refine RA.done (by simpa[aEj] using hs) (hQ _ ρ f w h ⟨hD.m,⟨hD.f.sl,λt gs d ht=>?_⟩,hD.l⟩)
  cases ht
 |.alt i t r,b,listed,fuel,s,ρ,f,w,h,hs,hl,hD=>by
  simp only[Tr.depth] at hl
  obtain⟨fu,rfl⟩:∃fu,fuel=fu+1:=⟨fuel-1,by omega⟩
  cases h2k:Nat.ble 2000 i with
  |true=>
   simp only[aEj,h2k,cond_true,aQ] at hs
   obtain⟨_,hr,hk,hs2⟩:=hs
   refine⟨λ_=>?_,λj hj=>by simp[mL,h2k] at hj⟩
   cases r with
   |alt _ _ _=>cases hr
   |nil=>
   have h0:(match ops.toList[ixT i]? with
    |some o=>V1 P T nb N ops.toList false o s λs'=>VTH P T nb N ops.toList t true K s'
    |none=>False):=h
   unfold bAd at hk
   split at h0
   ·next o ho=>
    have hi:ops[ixT i]? =some o:=by rw[<-dO];exact ho
    rw[hi] at hk
    simp only[aQ,dL] at hk
    obtain⟨hc,hrd,htk⟩:=hk
    cases uY hT h0 hD with
    |done hc' hw hst=>rw[hc] at hc';cases hc'
    |no hw d hd hn h=>
     obtain⟨s',ρ',h1,h2,_⟩:=h
     exact RA.take0 (S0:=λ_=>True) (ixT i) hi htk (.inl λ_=>trivial) trivial hd hn (λdl a ha=> .inr ⟨hw dl a ha,rfl⟩) ((aGv hQ h1 hs2 oM h2).1 rfl)
    |no0 hc' hw hd h=>rw[hc] at hc';cases hc'
    |calm hc' hw d v hd hn hr h=>
     obtain⟨s',ρ',h1,h2,_⟩:=h
     exact RA.take0 (S0:=λ_=>True) (ixT i) hi htk (.inl λ_=>trivial) trivial hd hn (λdl a ha=> .inl ⟨hw dl a ha,λu _=>by rw[ha.eval];exact hr u λh=>by rw[hrd] at h;cases h⟩) ((aGv hQ h1 hs2 oM h2).1 rfl)
   exact h0.elim
  |false=>
  simp only[aEj,h2k,cond_false,aQ] at hs
  obtain⟨hs1,hs2,hs3⟩:=hs
  have key:∀{o:Oper},ops[ixT i]? =some o->V1 P T nb N ops.toList false o s (λs'=>VTH P T nb N ops.toList t true K s')->∀dl a,Fm dl N f a->wpOp P ops (up dl N Q) (ixT i) (λa' w'=>Oks ops Tru (ixT i) w w'/\kF P ops (up dl N Q) Tru fu (listed.setIfInBounds (ixT i) true) a' w') a w:=λ{o} hi hv=>by
   have go:∀{f':Nat->Value} {w':World},Cn ρ0 w0 nb false w (λs'=>VTH P T nb N ops.toList t true K s') f' w'->RA P N ops Q Tru fu (listed.setIfInBounds (ixT i) true) f' w':=λ{f' w'} hh=>by
    obtain⟨s',ρ',h1,h2,_⟩:=hh
    exact(aGv hQ h1 hs2 oM h2).1 rfl
   cases uY hT hv hD with
   |done hc hw hst=>
    refine aEx hi hw ?_
    cases hst with
    |val hd hn hr h=>exact .val hd hn hr (go h)
    |skip hd hr h=>exact .skip hd hr (go h)
    |call hd hn hr hc h=>exact .call hd hn hr hc λv w' hp=>go (h v w' hp)
   |no hw d hd hn h=>exact aKa hi hw (.inl ⟨d,hd,hn,rfl⟩) (go h)
   |no0 hc hw hd h=>exact aKa hi hw (.inr ⟨hd,rfl⟩) (go h)
   |calm hc hw d v hd hn hr h=>exact aEx hi hw (.val hd hn (hr w λ_=>gE w) (go h))
  have hh0:mL (.alt i t r)=ixT i::mL r:=by simp[mL,h2k]
  have all:∀j∈mL (.alt i t r),∀dl a,Fm dl N f a->wpOp P ops (up dl N Q) j (λa' w'=>Oks ops Tru j w w'/\kF P ops (up dl N Q) Tru fu (listed.setIfInBounds j true) a' w') a w:=λj hj=>by
   have one:(match ops.toList[ixT i]? with
    |some o=>V1 P T nb N ops.toList false o s λs'=>VTH P T nb N ops.toList t true K s'
    |none=>False)->∀dl a,Fm dl N f a->wpOp P ops (up dl N Q) (ixT i) (λa' w'=>Oks ops Tru (ixT i) w w'/\kF P ops (up dl N Q) Tru fu (listed.setIfInBounds (ixT i) true) a' w') a w:=λhm=>by
    split at hm
    ·next o ho=>exact key (by rw[<-dO];exact ho) hm
    exact hm.elim
   rw[hh0] at hj
   rcases bJ.1 hj with rfl|hj
   ·cases r with
    |nil=>exact one h
    |alt i' t' r'=>exact one h.1
   cases r with
   |nil=>cases hj
   |alt i' t' r'=>exact(aGv hQ h.2 hs3 oM hD).2 j hj fu rfl
  refine⟨λhb dl a ha=>?_,λj hj fu' hfu dl a ha=>(xM hfu)▸all j hj dl a ha⟩
  subst hb
  have hr:Region.ready .any ops listed=ixT i::mL r:=by simpa using hs1
  refine⟨λh0=>(by rw[hr] at h0;cases h0),λj hj=>?_⟩
  rw[hr,<-hh0] at hj
  exact all j hj dl a ha
include hT in
theorem aPm {Q:Po} (hQ:∀s ρ f w,K s->Dn ρ0 w0 nb s ρ f w->Q.nrm f w) {t:Tr}:∀{pre:List Nat} {listed:Array Bool} {fuel:Nat} {s:SS} {ρ:Pl} {f:Nat->Value} {w:World},VHH P T nb N ops.toList t pre K s->aJy ops t pre listed=true->pre.length+t.depth<=fuel->Dn ρ0 w0 nb s ρ f w->RA P N ops Q Tru fuel listed f w
 |[],listed,fuel,s,ρ,f,w,h,hs,hl,hD=>(aGv hT hQ h hs (by simpa using hl) hD).1 rfl
 |i::pre,listed,0,s,ρ,f,w,h,hs,hl,hD=>by simp at hl
 |i::pre,listed,fuel+1,s,ρ,f,w,h,hs,hl,hD=>by
  simp only[aJy,aQ] at hs
  obtain⟨hs1,hs2⟩:=hs
  unfold VHH at h
  split at h
  ·next o ho=>
   have hi:ops[i]? =some o:=by rw[<-dO];exact ho
   rw[hi] at hs1
   simp only[aQ,dL] at hs1
   obtain⟨hc,hrd,htk⟩:=hs1
   have hl':pre.length+t.depth<=fuel:=by simp only[eI] at hl;omega
   cases uY hT h hD with
   |done hc' hw hst=>rw[hc] at hc';cases hc'
   |no hw d hd hn h=>
    obtain⟨s',ρ',h1,h2,_⟩:=h
    exact RA.take0 (S0:=λ_=>True) i hi htk (.inl λ_=>trivial) trivial hd hn (λdl a ha=> .inr ⟨hw dl a ha,rfl⟩) (aPm hQ h1 hs2 hl' h2)
   |no0 hc' hw hd h=>rw[hc] at hc';cases hc'
   |calm hc' hw d v hd hn hr h=>
    obtain⟨s',ρ',h1,h2,_⟩:=h
    exact RA.take0 (S0:=λ_=>True) i hi htk (.inl λ_=>trivial) trivial hd hn (λdl a ha=> .inl ⟨hw dl a ha,λu _=>by rw[ha.eval];exact hr u λh=>by rw[hrd] at h;cases h⟩) (aPm hQ h1 hs2 hl' h2)
  exact h.elim
theorem aSy {o:Oper} {Q:Po} {S:World->Prop} {fuel i:Nat} {listed:Array Bool} {f:Nat->Value} {w:World} (hi:ops[i]? =some o) (hw:Wt N ops f o true)
 (h:Stp P N f o w λf' w'=>Oks ops S i w w'/\RA P N ops Q S fuel (listed.setIfInBounds i true) f' w'):∀dl a,Fm dl N f a->wpOp P ops (up dl N Q) i (λa' w'=>Oks ops S i w w'/\kF P ops (up dl N Q) S fuel (listed.setIfInBounds i true) a' w') a w:=λdl a ha=>by
 unfold wpOp
 simp only[hi,hw dl a ha,if_true]
 refine .inl ?_
 unfold Oper.wp
 cases h with
 |val hd hn hr h=>rw[ha.eval,hr];exact⟨h.1,h.2 _ _ (by rw[hd];exact ha.put hn _)⟩
 |skip hd hr h=>obtain⟨r,hr,hrr⟩:=hr;rw[ha.eval,hr];rcases hrr with rfl|⟨v,rfl⟩<;>exact⟨h.1,h.2 _ _ (by rw[hd];exact ha)⟩
 |call hd hn hr hc h=>
  rw[ha.eval,hr]
  refine hc.mono λe w1 ⟨u,he,hp⟩=>?_
  subst he
  obtain⟨h1,h2⟩:=h u w1 hp
  exact⟨h1,h2 _ _ (by rw[hd];exact ha.put hn u)⟩
theorem bAg {o:Oper} {Q:Po} {S:World->Prop} {fuel i:Nat} {listed:Array Bool} {f f':Nat->Value} {w:World} (hi:ops[i]? =some o) (hw:Wt N ops f o false) (hf:(∃d,o.dst=some d/\d<N/\f'=st f d undef)\/(o.dst=none/\f'=f)) (hS:Oks ops S i w w)
 (h:RA P N ops Q S fuel (listed.setIfInBounds i true) f' w):∀dl a,Fm dl N f a->wpOp P ops (up dl N Q) i (λa' w'=>Oks ops S i w w'/\kF P ops (up dl N Q) S fuel (listed.setIfInBounds i true) a' w') a w:=λdl a ha=>by
 unfold wpOp
 simp only[hi,hw dl a ha,iD,if_false]
 refine⟨hS,h _ _ ?_⟩
 rcases hf with ⟨d,hd,hn,rfl⟩|⟨hd,rfl⟩
 ·rw[hd];exact ha.put hn undef
 rw[hd];exact ha
include hT in
theorem xD {Q:Po} (hQ:∀s ρ f w,K s->Dn ρ0 w0 nb s ρ f w->Q.nrm f w):∀{t:Tr} {b:Bool} {listed:Array Bool} {fuel:Nat} {s:SS} {ρ:Pl} {f:Nat->Value} {w:World} {S:World->Prop},VTR P T nb N ops.toList t b K s->wN ops t b listed=true->t.depth<=fuel->((∀u,Ext w u↔S u)\/tC ops t=true)->Dn ρ0 w0 nb s ρ f w->
 (b=true->RA P N ops Q S fuel listed f w)/\∀i∈mL t,∀fu,fuel=fu+1->∀dl a,Fm dl N f a->wpOp P ops (up dl N Q) i (λa' w'=>Oks ops S i w w'/\kF P ops (up dl N Q) S fu (listed.setIfInBounds i true) a' w') a w
 |.nil,b,listed,fuel,s,ρ,f,w,S,h,hs,_,_,hD=>by
  refine⟨λhb=>?_,λi hi=>by cases hi⟩
  subst hb
  obtain⟨sl,gl,bl,fl⟩:=s
  refine RA.done (by simpa[wN] using hs) (hQ _ ρ f w h ⟨hD.m,⟨hD.f.sl,λt gs d ht=>?_⟩,hD.l⟩)
  cases ht
 |.alt i t r,b,listed,fuel,s,ρ,f,w,S,h,hs,hl,hSn,hD=>by
  simp only[Tr.depth] at hl
  obtain⟨fu,rfl⟩:∃fu,fuel=fu+1:=⟨fuel-1,by omega⟩
  cases h2k:Nat.ble 2000 i with
  |true=>
   simp only[wN,h2k,cond_true,aQ] at hs
   obtain⟨_,hr,hk,hs2⟩:=hs
   refine⟨λ_=>?_,λj hj=>by simp[mL,h2k] at hj⟩
   cases r with
   |alt _ _ _=>cases hr
   |nil=>
   have h0:(match ops.toList[ixT i]? with
    |some o=>V1 P T nb N ops.toList (!Nat.ble 1000 i) o s λs'=>VTR P T nb N ops.toList t true K s'
    |none=>False):=h
   unfold bAd at hk
   split at h0
   ·next o ho=>
    have hi:ops[ixT i]? =some o:=by rw[<-dO];exact ho
    rw[hi] at hk
    simp only[aQ,dL] at hk
    obtain⟨hc,hrd,htk⟩:=hk
    have hSt:(∀u,Ext w u↔S u)\/tC ops t=true:=by
     rcases hSn with h|h
     ·exact .inl h
     simp only[tC,aQ] at h;exact .inr h.2.1
    cases uY hT h0 hD with
    |done hc' hw hst=>rw[hc] at hc';cases hc'
    |no hw d hd hn h=>
     obtain⟨s',ρ',h1,h2,_⟩:=h
     exact RA.take0 (S0:=λ_=>True) (ixT i) hi htk (.inl λ_=>trivial) trivial hd hn (λdl a ha=> .inr ⟨hw dl a ha,rfl⟩) ((xD hQ h1 hs2 oM hSt h2).1 rfl)
    |no0 hc' hw hd h=>rw[hc] at hc';cases hc'
    |calm hc' hw d v hd hn hr h=>
     obtain⟨s',ρ',h1,h2,_⟩:=h
     exact RA.take0 (S0:=λ_=>True) (ixT i) hi htk (.inl λ_=>trivial) trivial hd hn (λdl a ha=> .inl ⟨hw dl a ha,λu _=>by rw[ha.eval];exact hr u λh=>by rw[hrd] at h;cases h⟩) ((xD hQ h1 hs2 oM hSt h2).1 rfl)
   exact h0.elim
  |false=>
  simp only[wN,h2k,cond_false,aQ] at hs
  obtain⟨hs1,hs0,hs2,hs3⟩:=hs
  have hSt:(∀u,Ext w u↔S u)\/tC ops t=true:=by
   rcases hSn with h|h
   ·exact .inl h
   simp only[tC,aQ] at h;exact .inr h.2.1
  have hSr:(∀u,Ext w u↔S u)\/tC ops r=true:=by
   rcases hSn with h|h
   ·exact .inl h
   simp only[tC,aQ] at h;exact .inr h.2.2
  have key:∀{o:Oper},ops[ixT i]? =some o->V1 P T nb N ops.toList (!Nat.ble 1000 i) o s (λs'=>VTR P T nb N ops.toList t true K s')->∀dl a,Fm dl N f a->wpOp P ops (up dl N Q) (ixT i) (λa' w'=>Oks ops S (ixT i) w w'/\kF P ops (up dl N Q) S fu (listed.setIfInBounds (ixT i) true) a' w') a w:=λ{o} hi hv=>by
   have hfl:calm o=false->((∀u,Ext w u↔S u)/\Nat.ble 1000 i=false)\/Nat.ble 1000 i=true:=λhc=>by
    cases hb:Nat.ble 1000 i with
    |true=>exact .inr rfl
    |false=>
     rcases hSn with h|h
     ·exact .inl ⟨h,rfl⟩
     simp only[tC,aQ,hi,hb,hc] at h;cases h.1
   have calmgo:calm o=true->∀{f':Nat->Value} {w':World},w'=w->Cn ρ0 w0 nb (!Nat.ble 1000 i) w (λs'=>VTR P T nb N ops.toList t true K s') f' w'->Oks ops S (ixT i) w w'/\RA P N ops Q S fu (listed.setIfInBounds (ixT i) true) f' w':=λhc {f' w'} he hh=>by
    subst he
    obtain⟨s',ρ',h1,h2,_⟩:=hh
    exact⟨.inl ⟨by unfold aCx;rw[hi];exact hc,rfl⟩,(xD hQ h1 hs2 oM hSt h2).1 rfl⟩
   have go:calm o=false->∀{f':Nat->Value} {w':World},Cn ρ0 w0 nb (!Nat.ble 1000 i) w (λs'=>VTR P T nb N ops.toList t true K s') f' w'->Oks ops S (ixT i) w w'/\RA P N ops Q S fu (listed.setIfInBounds (ixT i) true) f' w':=λhc {f' w'} hh=>by
    obtain⟨s',ρ',h1,h2,h3⟩:=hh
    rcases hfl hc with ⟨hE,hb⟩|hb
    ·have he:Ext w w':=h3 (by rw[hb];rfl)
     exact⟨.inr (.inr ((hE w').1 he)),RA.more (S':=Sx w') (λu hu=>(hE u).1 (aB he hu)) ((xD hQ h1 hs2 oM (.inl λu=>qD) h2).1 rfl)⟩
    rw[hb] at hs0
    simp only[lM,rZ,aQ] at hs0
    exact⟨.inr (.inl hs0.1),(xD hQ h1 hs2 oM (.inr hs0.2) h2).1 rfl⟩
   have okw:calm o=false->Oks ops S (ixT i) w w:=λhc=>by
    rcases hfl hc with ⟨hE,hb⟩|hb
    ·exact .inr (.inr ((hE w).1 (gE w)))
    rw[hb] at hs0
    simp only[lM,rZ,aQ] at hs0
    exact .inr (.inl hs0.1)
   cases uY hT hv hD with
   |done hc hw hst=>
    refine aSy hi hw ?_
    cases hst with
    |val hd hn hr h=>exact .val hd hn hr (go hc h)
    |skip hd hr h=>exact .skip hd hr (go hc h)
    |call hd hn hr hcc h=>exact .call hd hn hr hcc λv w' hp=>go hc (h v w' hp)
   |no hw d hd hn h=>
    cases hc:calm o with
    |true=>exact bAg hi hw (.inl ⟨d,hd,hn,rfl⟩) (calmgo hc rfl h).1 (calmgo hc rfl h).2
    |false=>
     obtain⟨s',ρ',h1,h2,_⟩:=h
     exact bAg hi hw (.inl ⟨d,hd,hn,rfl⟩) (okw hc) ((xD hQ h1 hs2 oM hSt h2).1 rfl)
   |no0 hc hw hd h=>
    obtain⟨s',ρ',h1,h2,_⟩:=h
    exact bAg hi hw (.inr ⟨hd,rfl⟩) (okw hc) ((xD hQ h1 hs2 oM hSt h2).1 rfl)
   |calm hc hw d v hd hn hr h=>exact aSy hi hw (.val hd hn (hr w λ_=>gE w) (calmgo hc rfl h))
  have one:(match ops.toList[ixT i]? with
   |some o=>V1 P T nb N ops.toList (!Nat.ble 1000 i) o s λs'=>VTR P T nb N ops.toList t true K s'
   |none=>False)->∀dl a,Fm dl N f a->wpOp P ops (up dl N Q) (ixT i) (λa' w'=>Oks ops S (ixT i) w w'/\kF P ops (up dl N Q) S fu (listed.setIfInBounds (ixT i) true) a' w') a w:=λhm=>by
   split at hm
   ·next o ho=>exact key (by rw[<-dO];exact ho) hm
   exact hm.elim
  have all:∀j∈mL (Tr.alt i t r),∀dl a,Fm dl N f a->wpOp P ops (up dl N Q) j (λa' w'=>Oks ops S j w w'/\kF P ops (up dl N Q) S fu (listed.setIfInBounds j true) a' w') a w:=λj hj=>by
   simp only[mL,h2k,cond_false] at hj
   rcases bJ.1 hj with rfl|hj
   ·cases r with
    |nil=>exact one h
    |alt i' t' r'=>exact one h.1
   cases r with
   |nil=>cases hj
   |alt i' t' r'=>exact(xD hQ h.2 hs3 oM hSr hD).2 j hj fu rfl
  refine⟨λhb dl a ha=>?_,λj hj fu' hfu dl a ha=>(xM hfu)▸all j hj dl a ha⟩
  subst hb
  have hr:Region.ready .any ops listed=ixT i::mL r:=by simpa using hs1
  refine⟨λh0=>(by rw[hr] at h0;cases h0),λj hj=>?_⟩
  rw[hr] at hj
  refine all j ?_ dl a ha
  simp only[mL,h2k,cond_false]
  exact hj
include hT in
theorem aPn {Q:Po} (hQ:∀s ρ f w,K s->Dn ρ0 w0 nb s ρ f w->Q.nrm f w) {t:Tr}:∀{pre:List Nat} {listed:Array Bool} {fuel:Nat} {s:SS} {ρ:Pl} {f:Nat->Value} {w:World},VHR P T nb N ops.toList t pre K s->aJx ops t pre listed=true->pre.length+t.depth<=fuel->Dn ρ0 w0 nb s ρ f w->RA P N ops Q (Sx w) fuel listed f w
 |[],listed,fuel,s,ρ,f,w,h,hs,hl,hD=>(xD hT hQ h hs (by simpa using hl) (.inl λu=>qD) hD).1 rfl
 |i::pre,listed,0,s,ρ,f,w,h,hs,hl,hD=>by simp at hl
 |i::pre,listed,fuel+1,s,ρ,f,w,h,hs,hl,hD=>by
  simp only[aJx,aQ] at hs
  obtain⟨hs1,hs2⟩:=hs
  unfold VHR at h
  split at h
  ·next o ho=>
   have hi:ops[i]? =some o:=by rw[<-dO];exact ho
   rw[hi] at hs1
   simp only[aQ] at hs1
   obtain⟨hc,htk⟩:=hs1
   have hl':pre.length+t.depth<=fuel:=by simp only[eI] at hl;omega
   cases uY hT h hD with
   |done hc' hw hst=>rw[hc] at hc';cases hc'
   |no hw d hd hn h=>
    obtain⟨s',ρ',h1,h2,_⟩:=h
    exact RA.take0 (S0:=λ_=>True) i hi htk (.inl λ_=>trivial) trivial hd hn (λdl a ha=> .inr ⟨hw dl a ha,rfl⟩) (aPn hQ h1 hs2 hl' h2)
   |no0 hc' hw hd h=>rw[hc] at hc';cases hc'
   |calm hc' hw d v hd hn hr h=>
    obtain⟨s',ρ',h1,h2,_⟩:=h
    have hh:=aPn hQ h1 hs2 hl' h2
    cases hrd:tT o with
    |true=>exact RA.take0 (S0:=Sx w) i hi htk (.inr ⟨hrd,λu hu=>hu⟩) (gE w) hd hn (λdl a ha=> .inl ⟨hw dl a ha,λu hu=>by rw[ha.eval];exact hr u λ_=>hu⟩) hh
    |false=>exact RA.take0 (S0:=λ_=>True) i hi htk (.inl λ_=>trivial) trivial hd hn (λdl a ha=> .inl ⟨hw dl a ha,λu _=>by rw[ha.eval];exact hr u λh=>by rw[hrd] at h;cases h⟩) hh
  exact h.elim
theorem aSz {ρ:Pl} {n:Nat} {w:World} {c:CV} {x v:Value} (h:Hc ρ n w c x) (hd:aWa c=some v):x=v:=by
 cases c with
 |v y=>injection hd with hd;subst hd;exact Hc.inv_v h
 |h A n c=>injection hd with hd;subst hd;cases (show Rc _ _ _ _ from h);rfl
 |hp b o=>injection hd with hd;subst hd;exact Hc.inv_hp h
 |b p hp=>injection hd with hd;subst hd;exact Hc.inv_b h
 |r A n c e get=>injection hd with hd;subst hd;cases (show Rc _ _ _ _ from h)<;>rfl
 |u=>cases hd
 |p i o=>cases hd
 |s i n=>cases hd
 |q A n c e get j o=>cases hd
 |t i o m=>cases hd
 |f k fi ca=>cases hd
def Lnk (f:Nat->Value):Acc->List (Addr×Value)->Prop
 |[],[]=>True
 |e::r,e'::r'=>(∃b o,f e.1= .pointer (some ⟨b,o,none⟩)/\e'.1=⟨b,o+e.2.1,none⟩/\e'.2=(match e.2.2 with
  |.inl v=>v
  |.inr t=>f t))/\Lnk f r r'
 |_,_=>False
abbrev Sr (av:List (Addr×Value)):World->Prop:=λu=>∀e∈av,u.cell? e.1=some e.2
theorem aDh {s:SS} {ρ:Pl} {f:Nat->Value} {w:World} {tp off:Nat} {c:CV} {v:Value} (hD:Dn ρ0 w0 nb s ρ f w) (hc:rdC s tp off=some c) (hv:aWa c=some v):∃b o,f tp= .pointer (some ⟨b,o,none⟩)/\w.cell? ⟨b,o+off,none⟩=some v/\Hc ρ s.bl.length w c v:=by
 unfold rdC at hc
 split at hc
 ·next j o hp=>
  split at hc
  ·next b hb=>
   obtain⟨T',e,l⟩:=b
   obtain⟨_,b,hρ,he⟩:=(hD.f.sl _ _ hp).inv_c
   obtain⟨vl,junk,hh,hl,_⟩:=(hD.m.ok j T' e l hb).at hρ
   obtain⟨x,hx,hcx⟩:=hl.get hc
   have:=aSz hcx hv
   subst this
   exact⟨_,_,he,pS hh hx,hcx⟩
  cases hc
 ·next A n c' e get j o hp=>
  obtain⟨hr,hj,b,o',hA,he⟩:=(hD.f.sl _ _ hp).inv_c
  obtain⟨b2,o2,hA2,hZ,vl,hcell,hlen,hel⟩:=hr.elem hj
  rw[hA] at hA2
  injection hA2 with hA2
  injection hA2 with e1 e2
  subst e1 e2
  have ho:o+off<vl.length:=by rw[hlen];exact eP hc
  have hx:vl[o+off]? =some vl[o+off]:=aK ho
  have hcx:Hc ρ s.bl.length w c vl[o+off]:=Hc.of_rc (hel _ c _ hc hx)
  have:=aSz hcx hv
  rw[this] at hcx hx
  exact⟨_,_,he,by rw[kO];exact(hcell _ _ hx).1,hcx⟩
 cases hc
theorem aGw {s:SS} {ρ:Pl} {f:Nat->Value} {w:World} {tp off:Nat} {cv:CV} (hcv:bIb cv=true) (hD:Dn ρ0 w0 nb s ρ f w) (hc:rdC s tp off=some cv):∃b o x,f tp= .pointer (some ⟨b,o,none⟩)/\w.cell? ⟨b,o+off,none⟩=some x/\Hc ρ s.bl.length w cv x:=by
 unfold rdC at hc
 split at hc
 ·next j o hp=>
  split at hc
  ·next b hb=>
   obtain⟨T',e,l⟩:=b
   obtain⟨_,b,hρ,he⟩:=(hD.f.sl _ _ hp).inv_c
   obtain⟨vl,junk,hh,hl,_⟩:=(hD.m.ok j T' e l hb).at hρ
   obtain⟨x,hx,hcx⟩:=hl.get hc
   exact⟨_,_,_,he,pS hh hx,hcx⟩
  cases hc
 ·next A m c' e get j o hp=>
  obtain⟨hr,hj,b,o',hA,he⟩:=(hD.f.sl _ _ hp).inv_c
  obtain⟨b2,o2,hA2,hZ,vl,hcell,hlen,hel⟩:=hr.elem hj
  have ho:o+off<vl.length:=by rw[hlen];exact eP hc
  have:=hel _ _ _ hc (aK ho)
  cases cv with
  |s _ _=>cases this
  |p _ _=>cases this
  |_=>cases hcv
 cases hc
theorem bId {ρ:Pl} {n:Nat} {w:World} {cv:CV} {x y:Value} (hcv:bIb cv=true) (hx:Hc ρ n w cv x) (hy:Hc ρ n w cv y):x=y:=by
 cases cv with
 |s i m=>exact hx.2.trans hy.2.symm
 |p i o=>
  obtain⟨_,b,h1,h2⟩:=hx
  obtain⟨_,b',h3,h4⟩:=hy
  rw[h1] at h3
  injection h3 with h3
  rw[h2,h4,h3]
 |_=>cases hcv
theorem bAh {o:Option CV} {v:Value} (h:qF o= .val v):∃c,o=some c/\aWa c=some v:=by
 unfold qF at h
 split at h
 ·next c=>
  split at h
  ·next v' hv=>injection h with h;subst h;exact⟨c,rfl,hv⟩
  cases h
 cases h
theorem bAi {o:Option CV} {d:Option DV} (h:bNx o=bNy d):∃cv,bIb cv=true/\o=some cv/\d=some (.c cv):=by
 unfold bNx bNy at h
 split at h<;>split at h
 ·injection h with h1 h2;subst h1 h2;exact⟨_,rfl,rfl,rfl⟩
 ·cases h
 ·cases h
 ·cases h
 ·injection h with h1 h2;subst h1 h2;exact⟨_,rfl,rfl,rfl⟩
 ·cases h
 ·cases h
 ·cases h
 injection h with h;cases h
theorem aNl {s:SS} {tp:Nat} {cv:CV} (h:rdS s tp=some cv):bIb cv=true/\rdC s tp 0=some cv:=by
 unfold rdS at h
 split at h
 ·next i' n' he=>injection h with h;subst h;exact⟨rfl,he⟩
 ·next i' n' he=>injection h with h;subst h;exact⟨rfl,he⟩
 cases h
theorem bIe {s:SS} {ρ:Pl} {f:Nat->Value} {w:World} {k:Prop} {acc:Acc} {av:List (Addr×Value)} (h:bNz acc s k) (hD:Dn ρ0 w0 nb s ρ f w) (hl:Lnk f acc av):k/\Sr av w:=by
 refine⟨h.2,?_⟩
 have key:∀{acc:Acc} {av:List (Addr×Value)},aWb s acc=aIs s acc->Lnk f acc av->Sr av w:=λ{acc}=>by
  induction acc with
  |nil=>intro av _ hl;cases av with
   |nil=>exact λe he=>by cases he
   |cons _ _=>exact hl.elim
  |cons e acc ih=>intro av h hl;cases av with
   |nil=>exact hl.elim
   |cons a av=>
    obtain⟨tp,off,v⟩:=e
    obtain⟨⟨b,o,h1,h2,h3⟩,h4⟩:=hl
    cases v with
    |inl v=>
     simp only[aWb,aIs] at h
     injection h with h5 h6
     have hS:=ih h6 h4
     intro e he
     rcases bJ.1 he with rfl|he
     ·obtain⟨c,hc,hv⟩:=bAh h5
      obtain⟨b',o',k1,k2,_⟩:=aDh hD hc hv
      simp only at h1 h2 h3
      rw[h1] at k1
      injection k1 with k1
      injection k1 with k1
      injection k1 with k3 k4
      subst k3 k4
      rw[h2,h3]
      exact k2
     exact hS e he
    |inr t=>
     simp only[aWb,aIs] at h
     injection h with h5 h6
     have hS:=ih h6 h4
     intro e he
     rcases bJ.1 he with rfl|he
     ·obtain⟨cv,hcv,hc,hv⟩:=bAi h5
      obtain⟨b',o',x,k1,k2,k5⟩:=aGw hcv hD hc
      have k6:=(hD.f.sl t _ hv).inv_c
      simp only at h1 h2 h3
      rw[h1] at k1
      injection k1 with k1
      injection k1 with k1
      injection k1 with k3 k4
      subst k3 k4
      rw[h2,h3,bId hcv k6 k5]
      exact k2
     exact hS e he
 exact key h.1 hl
theorem Lnk.st {f:Nat->Value} {d:Nat} {v:Value}:∀{acc:Acc} {av:List (Addr×Value)},bAe d acc=true->Lnk f acc av->Lnk (st f d v) acc av
 |[],[],_,_=>trivial
 |[],_::_,_,hl=>hl.elim
 |_::_,[],_,hl=>hl.elim
 |(tp,off,v')::acc,(a,v2)::av,h,hl=>by
  unfold bAe at h
  simp only[List.all_cons,aQ,dL] at h
  obtain⟨⟨b,o,h1,h2,h4⟩,h3⟩:=hl
  refine⟨⟨b,o,?_,h2,?_⟩,Lnk.st h.2 h3⟩
  ·simp only at h1 ⊢
   unfold Go.Vg.st
   rw[h.1.1]
   exact h1
  cases v' with
  |inl v'=>exact h4
  |inr t=>
   have h5:Nat.beq t d=false:=by have h6:(!Nat.beq t d)=true:=h.1.2;simpa using h6
   simp only at h4 ⊢
   unfold Go.Vg.st
   rw[h5]
   exact h4
theorem aKb {s:SS} {ρ:Pl} {f:Nat->Value} {w:World} {tp b o:Nat} (hD:Dn ρ0 w0 nb s ρ f w) (hf:f tp= .pointer (some ⟨b,o,none⟩)):∀{n k:Nat} {K:List CV->List Value->Prop},aJz s tp n k K->∃cs vs,K cs vs/\cs.length=n/\Hl ρ s.bl.length w cs vs/\∀i v,vs[i]? =some v->w.cell? ⟨b,o+(k+i),none⟩=some v
 |0,k,K,h=>⟨[],[],h,rfl,trivial,λi v hi=>by cases hi⟩
 |n+1,k,K,h=>by
  unfold aJz at h
  split at h
  ·next c hc=>
   split at h
   ·next v hv=>
    obtain⟨b',o',k1,k2,k3⟩:=aDh hD hc hv
    rw[hf] at k1
    injection k1 with k1
    injection k1 with k1
    injection k1 with k4 k5
    subst k4 k5
    obtain⟨cs,vs,h1,h2,h3,h4⟩:=aKb hD hf h
    refine⟨c::cs,v::vs,h1,by simp[h2],⟨k3,h3⟩,λi u hi=>?_⟩
    cases i with
    |zero=>injection hi with hi;subst hi;exact k2
    |succ i=>
     have:=h4 i u (by simpa using hi)
     rw[show k+(i+1)=k+1+i by omega]
     exact this
   exact h.elim
  exact h.elim
theorem aNm {s:SS} {ρ:Pl} {f:Nat->Value} {w:World} {tp n k:Nat} {K:List CV->List Value->Prop} (hD:Dn ρ0 w0 nb s ρ f w) (h:aJz s tp (n+1) k K):∃b o,f tp= .pointer (some ⟨b,o,none⟩):=by
 unfold aJz at h
 split at h
 ·next c hc=>
  split at h
  ·next v hv=>
   obtain⟨b,o,k1,_⟩:=aDh hD hc hv
   exact⟨b,o,k1⟩
  exact h.elim
 exact h.elim
def mkA (b o:Nat):Nat->List Value->List (Addr×Value)->List (Addr×Value)
 |_,[],av=>av
 |k,v::r,av=>(⟨b,o+k,none⟩,v)::mkA b o (k+1) r av
theorem Lnk.mk {f:Nat->Value} {tp b o:Nat} {acc:Acc} {av:List (Addr×Value)} (hf:f tp= .pointer (some ⟨b,o,none⟩)) (h:Lnk f acc av):∀{vs:List Value} {k:Nat},Lnk f (mkE tp k vs acc) (mkA b o k vs av)
 |[],_=>h
 |v::vs,k=>⟨⟨b,o,hf,rfl,rfl⟩,Lnk.mk hf h⟩
theorem Sr.mk {b o:Nat} {av:List (Addr×Value)} {w:World} (h:Sr av w):∀{vs:List Value} {k:Nat},(∀i v,vs[i]? =some v->w.cell? ⟨b,o+(k+i),none⟩=some v)->Sr (mkA b o k vs av) w
 |[],_,_=>h
 |v::vs,k,hc=>λe he=>by
  rcases bJ.1 he with rfl|he
  ·exact hc 0 v rfl
  exact Sr.mk h (λi u hi=>by have:=hc (i+1) u (by simpa using hi);rwa [show k+(i+1)=k+1+i by omega] at this) e he
theorem Sr.of_mk {b o:Nat} {av:List (Addr×Value)} {w:World}:∀{vs:List Value} {k:Nat},Sr (mkA b o k vs av) w->Sr av w/\∀i v,vs[i]? =some v->w.cell? ⟨b,o+(k+i),none⟩=some v
 |[],_,h=>⟨h,λi v hi=>by cases hi⟩
 |v::vs,k,h=>by
  obtain⟨h1,h2⟩:=Sr.of_mk (vs:=vs) (k:=k+1) λe he=>h e (.tail _ he)
  refine⟨h1,λi u hi=>?_⟩
  cases i with
  |zero=>injection hi with hi;subst hi;exact h _ (.head _)
  |succ i=>
   have:=h2 i u (by simpa using hi)
   rwa [show k+(i+1)=k+1+i by omega]
include hT in
theorem aDi {Q:Po} (hQ:∀s ρ f w,K s->Dn ρ0 w0 nb s ρ f w->Q.nrm f w) {acc:Acc} {av:List (Addr×Value)}:∀{t:Tr} {b:Bool} {listed:Array Bool} {fuel:Nat} {s:SS} {ρ:Pl} {f:Nat->Value} {w:World},VTX P T nb N ops.toList acc t b K s->wN ops t b listed=true->t.depth<=fuel->Lnk f acc av->(Sr av w\/tC ops t=true)->Dn ρ0 w0 nb s ρ f w->
 (b=true->RA P N ops Q (Sr av) fuel listed f w)/\∀i∈mL t,∀fu,fuel=fu+1->∀dl a,Fm dl N f a->wpOp P ops (up dl N Q) i (λa' w'=>Oks ops (Sr av) i w w'/\kF P ops (up dl N Q) (Sr av) fu (listed.setIfInBounds i true) a' w') a w
 |.nil,b,listed,fuel,s,ρ,f,w,h,hs,_,_,_,hD=>by
  refine⟨λhb=>?_,λi hi=>by cases hi⟩
  subst hb
  obtain⟨sl,gl,bl,fl⟩:=s
  refine RA.done (by simpa[wN] using hs) (hQ _ ρ f w h ⟨hD.m,⟨hD.f.sl,λt gs d ht=>?_⟩,hD.l⟩)
  cases ht
 |.alt i t r,b,listed,fuel,s,ρ,f,w,h,hs,hl,hL,hSn,hD=>by
  simp only[Tr.depth] at hl
  obtain⟨fu,rfl⟩:∃fu,fuel=fu+1:=⟨fuel-1,by omega⟩
  have hSt:Sr av w\/tC ops t=true:=by
   rcases hSn with h|h
   ·exact .inl h
   simp only[tC,aQ] at h;exact .inr h.2.1
  have hSr:Sr av w\/tC ops r=true:=by
   rcases hSn with h|h
   ·exact .inl h
   simp only[tC,aQ] at h;exact .inr h.2.2
  have hst:∀{o:Oper},yK o acc=true->∀{d:Nat} {v:Value},o.dst=some d->Lnk (Go.Vg.st f d v) acc av:=λ{o} hf {d v} hd=>by
   unfold yK at hf
   rw[hd] at hf
   exact hL.st hf
  cases h2k:Nat.ble 2000 i with
  |true=>
   simp only[wN,h2k,cond_true,aQ] at hs
   obtain⟨_,hr,hk,hs2⟩:=hs
   refine⟨λ_=>?_,λj hj=>by simp[mL,h2k] at hj⟩
   have h1k:Nat.ble 1000 i=true:=by rw[Nat.ble_eq] at h2k ⊢;omega
   cases r with
   |alt _ _ _=>cases hr
   |nil=>
   have h0:V1X P T nb N ops.toList acc i s (λs'=>VTX P T nb N ops.toList acc t true K s'):=h
   unfold V1X at h0
   rw[h1k] at h0
   simp only[cond_true] at h0
   unfold bAd at hk
   split at h0
   ·next o ho=>
    have hi:ops[ixT i]? =some o:=by rw[<-dO];exact ho
    rw[hi] at hk
    simp only[aQ,dL] at hk
    obtain⟨hc,hrd,htk⟩:=hk
    cases hfr:yK o acc with
    |false=>rw[hfr] at h0;exact h0.elim
    |true=>
    rw[hfr] at h0
    simp only[cond_true] at h0
    cases uY hT h0 hD with
    |done hc' hw hst=>rw[hc] at hc';cases hc'
    |no hw d hd hn h=>
     obtain⟨s',ρ',h1,h2,_⟩:=h
     exact RA.take0 (S0:=λ_=>True) (ixT i) hi htk (.inl λ_=>trivial) trivial hd hn (λdl a ha=> .inr ⟨hw dl a ha,rfl⟩) ((aDi hQ h1 hs2 oM (hst hfr hd) hSt h2).1 rfl)
    |no0 hc' hw hd h=>rw[hc] at hc';cases hc'
    |calm hc' hw d v hd hn hr h=>
     obtain⟨s',ρ',h1,h2,_⟩:=h
     exact RA.take0 (S0:=λ_=>True) (ixT i) hi htk (.inl λ_=>trivial) trivial hd hn (λdl a ha=> .inl ⟨hw dl a ha,λu _=>by rw[ha.eval];exact hr u λh=>by rw[hrd] at h;cases h⟩) ((aDi hQ h1 hs2 oM (hst hfr hd) hSt h2).1 rfl)
   exact h0.elim
  |false=>
  simp only[wN,h2k,cond_false,aQ] at hs
  obtain⟨hs1,hs0,hs2,hs3⟩:=hs
  have one:V1X P T nb N ops.toList acc i s (λs'=>VTX P T nb N ops.toList acc t true K s')->∀dl a,Fm dl N f a->wpOp P ops (up dl N Q) (ixT i) (λa' w'=>Oks ops (Sr av) (ixT i) w w'/\kF P ops (up dl N Q) (Sr av) fu (listed.setIfInBounds (ixT i) true) a' w') a w:=λhm=>by
   unfold V1X at hm
   split at hm
   ·next o ho=>
    have hi:ops[ixT i]? =some o:=by rw[<-dO];exact ho
    cases hfr:yK o acc with
    |false=>rw[hfr] at hm;exact hm.elim
    |true=>
    rw[hfr] at hm
    simp only[cond_true] at hm
    have go:∀{f':Nat->Value} {w':World},Lnk f' acc av->(w'=w/\calm o=true\/w'=w/\calm o=false\/calm o=false)->Cn ρ0 w0 nb false w (λs'=>bif Nat.ble 1000 i then VTX P T nb N ops.toList acc t true K s' else bNz acc s' (VTX P T nb N ops.toList acc t true K s')) f' w'->Oks ops (Sr av) (ixT i) w w'/\RA P N ops Q (Sr av) fu (listed.setIfInBounds (ixT i) true) f' w':=λ{f' w'} hL' hcw hh=>by
     obtain⟨s',ρ',h1,h2,_⟩:=hh
     cases hb:Nat.ble 1000 i with
     |false=>
      rw[hb] at h1
      obtain⟨h3,h4⟩:=bIe (av:=av) h1 h2 hL'
      exact⟨.inr (.inr h4),(aDi hQ h3 hs2 oM hL' (.inl h4) h2).1 rfl⟩
     |true=>
      rw[hb] at h1 hs0
      simp only[lM,rZ,aQ] at hs0
      exact⟨.inr (.inl hs0.1),(aDi hQ h1 hs2 oM hL' (.inr hs0.2) h2).1 rfl⟩
    cases uY hT hm hD with
    |done hc hw hst'=>
     refine aSy hi hw ?_
     cases hst' with
     |val hd hn hr h=>exact .val hd hn hr (go (hst hfr hd) (.inr (.inr hc)) h)
     |skip hd hr h=>exact .skip hd hr (go hL (.inr (.inr hc)) h)
     |call hd hn hr hcc h=>exact .call hd hn hr hcc λv w' hp=>go (hst hfr hd) (.inr (.inr hc)) (h v w' hp)
    |no hw d hd hn h=>
     have:=go (hst hfr hd) (by cases calm o<;>simp) h
     exact bAg hi hw (.inl ⟨d,hd,hn,rfl⟩) this.1 this.2
    |no0 hc hw hd h=>
     have:=go hL (.inr (.inr hc)) h
     exact bAg hi hw (.inr ⟨hd,rfl⟩) this.1 this.2
    |calm hc hw d v hd hn hr h=>exact aSy hi hw (.val hd hn (hr w λ_=>gE w) (go (hst hfr hd) (.inl ⟨rfl,hc⟩) h))
   exact hm.elim
  have all:∀j∈mL (Tr.alt i t r),∀dl a,Fm dl N f a->wpOp P ops (up dl N Q) j (λa' w'=>Oks ops (Sr av) j w w'/\kF P ops (up dl N Q) (Sr av) fu (listed.setIfInBounds j true) a' w') a w:=λj hj=>by
   simp only[mL,h2k,cond_false] at hj
   rcases bJ.1 hj with rfl|hj
   ·cases r with
    |nil=>exact one h
    |alt i' t' r'=>exact one h.1
   cases r with
   |nil=>cases hj
   |alt i' t' r'=>exact(aDi hQ h.2 hs3 oM hL hSr hD).2 j hj fu rfl
  refine⟨λhb dl a ha=>?_,λj hj fu' hfu dl a ha=>(xM hfu)▸all j hj dl a ha⟩
  subst hb
  have hr:Region.ready .any ops listed=ixT i::mL r:=by simpa using hs1
  refine⟨λh0=>(by rw[hr] at h0;cases h0),λj hj=>?_⟩
  rw[hr] at hj
  refine all j ?_ dl a ha
  simp only[mL,h2k,cond_false]
  exact hj
include hT in
theorem aDj {Q:Po} (hQ:∀s ρ f w,K s->Dn ρ0 w0 nb s ρ f w->Q.nrm f w) {t:Tr}:∀{rs:List Nat} {acc:Acc} {av:List (Addr×Value)} {listed:Array Bool} {fuel:Nat} {s:SS} {ρ:Pl} {f:Nat->Value} {w:World},VRX P T nb N ops.toList t rs acc K s->aSw ops t rs listed=true->rs.length+t.depth<=fuel->Lnk f acc av->Sr av w->Dn ρ0 w0 nb s ρ f w->∃S:World->Prop,(∀u,S u->Sr av u)/\RA P N ops Q S fuel listed f w
 |[],acc,av,listed,fuel,s,ρ,f,w,h,hs,hl,hL,hS,hD=>⟨Sr av,λ_ h=>h,(aDi hT hQ h hs (by simpa using hl) hL (.inl hS) hD).1 rfl⟩
 |i::rs,acc,av,listed,0,s,ρ,f,w,h,hs,hl,hL,hS,hD=>by simp at hl
 |i::rs,acc,av,listed,fuel+1,s,ρ,f,w,h,hs,hl,hL,hS,hD=>by
  simp only[aSw,aQ] at hs
  obtain⟨htk,hs2⟩:=hs
  have hl':rs.length+t.depth<=fuel:=by simp only[eI] at hl;omega
  unfold VRX at h
  cases h2k:Nat.ble 2000 i with
  |true=>
   rw[h2k] at h
   simp only[cond_true] at h
   split at h
   ·next o ho=>
    have hi:ops[ixT i]? =some o:=by rw[<-dO];exact ho
    cases hq:(calm o&&(!tT o&&yK o acc)) with
    |false=>rw[hq] at h;exact h.elim
    |true=>
     rw[hq] at h
     simp only[cond_true] at h
     simp only[aQ,dL] at hq
     obtain⟨hc,hrd,hfr⟩:=hq
     have hst:∀{d:Nat} {v:Value},o.dst=some d->Lnk (Go.Vg.st f d v) acc av:=λ{d v} hd=>by
      unfold yK at hfr
      rw[hd] at hfr
      exact hL.st hfr
     cases uY hT h hD with
     |done hc' hw hst=>rw[hc] at hc';cases hc'
     |no hw d hd hn h=>
      obtain⟨s',ρ',h1,h2,_⟩:=h
      obtain⟨S,k1,k2⟩:=aDj hQ h1 hs2 hl' (hst hd) hS h2
      exact⟨S,k1,RA.take0 (S0:=λ_=>True) (ixT i) hi htk (.inl λ_=>trivial) trivial hd hn (λdl a ha=> .inr ⟨hw dl a ha,rfl⟩) k2⟩
     |no0 hc' hw hd h=>rw[hc] at hc';cases hc'
     |calm hc' hw d v hd hn hr h=>
      obtain⟨s',ρ',h1,h2,_⟩:=h
      obtain⟨S,k1,k2⟩:=aDj hQ h1 hs2 hl' (hst hd) hS h2
      exact⟨S,k1,RA.take0 (S0:=λ_=>True) (ixT i) hi htk (.inl λ_=>trivial) trivial hd hn (λdl a ha=> .inl ⟨hw dl a ha,λu _=>by rw[ha.eval];exact hr u λh=>by rw[hrd] at h;cases h⟩) k2⟩
   exact h.elim
  |false=>
  rw[h2k] at h
  simp only[cond_false] at h
  split at h
  ·next d ty tp rty pos aft ho=>
   have hi:ops[ixT i]? =_:=(dO (xs:=ops) (i:=ixT i)).symm.trans ho
   split at h
   ·next ti hty=>
    cases hq:(Nat.ble 1 ti.size&&(Nat.ble (d+1) N&&((!Nat.beq tp d)&&bAe d acc))) with
    |false=>rw[hq] at h;exact h.elim
    |true=>
     rw[hq] at h
     simp only[cond_true] at h
     simp only[aQ,dL] at hq
     obtain⟨hsz,hdn,hne,hall⟩:=hq
     have hall':=hall
     have G:=hT ty ti hty
     obtain⟨dd,hun⟩:=G.un
     have hsz':=bN hsz
     have stp:∀{x:Value} {b o:Nat},f tp= .pointer (some ⟨b,o,none⟩)->(Go.Vg.st f d x) tp= .pointer (some ⟨b,o,none⟩):=λ{x b o} h1=>by
      unfold Go.Vg.st
      rw[hne]
      exact h1
     cases hag:ti.agg with
     |true=>
      rw[hag] at h
      simp only[cond_true] at h
      obtain⟨m,hm⟩:∃m,ti.size=m+1:=⟨ti.size-1,by omega⟩
      rw[hm] at h
      replace h:=aSv h
      obtain⟨b,o,hf⟩:=aNm hD h
      obtain⟨cs,vs,h1,h2,h3,h4⟩:=aKb hD hf h
      have hvl:vs.length=ti.size:=by rw[hm,<-h2];exact h3.len.symm
      obtain⟨s',h5,h6⟩:=hD.put h1 (.a h3)
      obtain⟨S,k1,k2⟩:=aDj hQ h5 hs2 hl' (Lnk.mk (stp hf) (hL.st hall')) (Sr.mk hS h4) h6
      refine⟨S,λu hu=>(Sr.of_mk (k1 u hu)).1,?_⟩
      refine RA.take0 (S0:=Sr (mkA b o 0 vs av)) (ixT i) hi htk (.inr ⟨rfl,k1⟩) (Sr.mk hS h4) rfl (bN hdn) (λ_ act ha=> .inl ⟨by simp[Region.wanted],λu hu=>?_⟩) k2
      rw[ha.eval]
      obtain⟨zz,hty2,_⟩:=G.ty
      refine fT hun (G.ag.trans hag) (by rw[hvl];exact hty2) hf λq y hq=>?_
      have:=(Sr.of_mk hu).2 q y hq
      rwa [fK] at this
     |false=>
      rw[hag] at h
      simp only[cond_false] at h
      split at h
      ·next cv hjn=>
       replace hjn:rdS s tp=some cv:=by
        cases h1k:Nat.ble 1000 i with
        |true=>rw[h1k] at hjn;cases hjn
        |false=>rw[h1k] at hjn;exact hjn
       obtain⟨b,o,x,hf,hx,hcx⟩:=aGw (aNl hjn).1 hD (aNl hjn).2
       obtain⟨s',h5,h6⟩:=hD.put h (.c hcx)
       have hL2:Lnk (Go.Vg.st f d x) ((tp,0,.inr d)::acc) ((⟨b,o+0,none⟩,x)::av):=⟨⟨b,o,stp hf,rfl,by simp[Go.Vg.st,iX]⟩,hL.st hall'⟩
       have hS2:Sr ((⟨b,o+0,none⟩,x)::av) w:=λe he=>by
        rcases bJ.1 he with rfl|he
        ·exact hx
        exact hS e he
       obtain⟨S,k1,k2⟩:=aDj hQ h5 hs2 hl' hL2 hS2 h6
       refine⟨S,λu hu e he=>k1 u hu e (.tail _ he),?_⟩
       refine RA.take0 (S0:=Sr ((⟨b,o+0,none⟩,x)::av)) (ixT i) hi htk (.inr ⟨rfl,k1⟩) hS2 rfl (bN hdn) (λ_ act ha=> .inl ⟨by simp[Region.wanted],λu hu=>?_⟩) k2
       rw[ha.eval]
       exact dJ hun (G.ag.trans hag) hf (hu _ (.head _))
      replace h:=aSv h
      obtain⟨b,o,hf⟩:=aNm hD h
      obtain⟨cs,vs,h1,h2,h3,h4⟩:=aKb hD hf h
      split at h1
      ·next c=>
       obtain⟨v,rfl⟩:∃v,vs=[v]:=by
        have:vs.length=1:=by rw[<-h3.len];rfl
        match vs,this with
        |[v],_=>exact⟨v,rfl⟩
       obtain⟨s',h5,h6⟩:=hD.put h1 (.c h3.1)
       obtain⟨S,k1,k2⟩:=aDj hQ h5 hs2 hl' (Lnk.mk (stp hf) (hL.st hall')) (Sr.mk hS h4) h6
       refine⟨S,λu hu=>(Sr.of_mk (k1 u hu)).1,?_⟩
       refine RA.take0 (S0:=Sr (mkA b o 0 [v] av)) (ixT i) hi htk (.inr ⟨rfl,k1⟩) (Sr.mk hS h4) rfl (bN hdn) (λ_ act ha=> .inl ⟨by simp[Region.wanted],λu hu=>?_⟩) k2
       rw[ha.eval]
       exact dJ hun (G.ag.trans hag) hf ((Sr.of_mk hu).2 0 v rfl)
      exact h1.elim
   exact h.elim
  exact h.elim
include hT in
theorem aKc {Q:Po} (hQ:∀s ρ f w,K s->Dn ρ0 w0 nb s ρ f w->Q.nrm f w) {t:Tr} {rs:List Nat}:∀{pre:List Nat} {listed:Array Bool} {fuel:Nat} {s:SS} {ρ:Pl} {f:Nat->Value} {w:World},VHX P T nb N ops.toList rs t pre K s->aGu ops rs t pre listed=true->pre.length+(rs.length+t.depth)<=fuel->Dn ρ0 w0 nb s ρ f w->∃S,RA P N ops Q S fuel listed f w
 |[],listed,fuel,s,ρ,f,w,h,hs,hl,hD=>by
  obtain⟨S,_,h⟩:=aDj hT hQ (acc:=[]) (av:=[]) h hs (by simpa using hl) trivial (λe he=>by cases he) hD
  exact⟨S,h⟩
 |i::pre,listed,0,s,ρ,f,w,h,hs,hl,hD=>by simp at hl
 |i::pre,listed,fuel+1,s,ρ,f,w,h,hs,hl,hD=>by
  simp only[aGu,aQ] at hs
  obtain⟨hs1,hs2⟩:=hs
  unfold VHX at h
  split at h
  ·next o ho=>
   have hi:ops[i]? =some o:=by rw[<-dO];exact ho
   rw[hi] at hs1
   simp only[aQ,dL] at hs1
   obtain⟨hc,hrd,htk⟩:=hs1
   have hl':pre.length+(rs.length+t.depth)<=fuel:=by simp only[eI] at hl;omega
   cases uY hT h hD with
   |done hc' hw hst=>rw[hc] at hc';cases hc'
   |no hw d hd hn h=>
    obtain⟨s',ρ',h1,h2,_⟩:=h
    obtain⟨S,hh⟩:=aKc hQ h1 hs2 hl' h2
    exact⟨S,RA.take0 (S0:=λ_=>True) i hi htk (.inl λ_=>trivial) trivial hd hn (λdl a ha=> .inr ⟨hw dl a ha,rfl⟩) hh⟩
   |no0 hc' hw hd h=>rw[hc] at hc';cases hc'
   |calm hc' hw d v hd hn hr h=>
    obtain⟨s',ρ',h1,h2,_⟩:=h
    obtain⟨S,hh⟩:=aKc hQ h1 hs2 hl' h2
    exact⟨S,RA.take0 (S0:=λ_=>True) i hi htk (.inl λ_=>trivial) trivial hd hn (λdl a ha=> .inl ⟨hw dl a ha,λu _=>by rw[ha.eval];exact hr u λh=>by rw[hrd] at h;cases h⟩) hh⟩
  exact h.elim
end
structure Kt where
 nrm:SS->Prop
 ext:Nat->SS->Prop
 ret:SS->Prop
structure Lk (ρ0:Pl) (w0:World) (nb:Nat) (K:Kt) (Q:Po):Prop where
 nrm:∀s ρ f w,K.nrm s->Dn ρ0 w0 nb s ρ f w->Q.nrm f w
 ext:∀i s ρ f w,K.ext i s->Dn ρ0 w0 nb s ρ f w->Q.ext i f w
 ret:∀s ρ f w,K.ret s->Dn ρ0 w0 nb s ρ f w->Q.ret f w
def Sd (P:Program) (nb N:Nat) (c:Code) (K:Kt) (s:SS):Prop:=∀ρ0 w0 ρ f w Q,Lk ρ0 w0 nb K Q->Dn ρ0 w0 nb s ρ f w->WP P N c Q f w
def bAj:Code->Bool
 |.seq _ b=>bAj b
 |.block _ (.loop _)=>true
 |_=>false
def VC (P:Program) (T:TT) (nb N:Nat):Code->Kt->SS->Prop
 |.skip,K,s=>K.nrm s
 |.region _ ops d,K,s=>bif ndA ops.toList then (bif d then ∃order:Ord,aNk ops order=true/\VR P T nb N ops.toList order K.nrm s else VL P T nb N ops.toList ops.toList K.nrm s) else False
 |.seq a b,K,s=>bif bAj a then VC P T nb N a ⟨λs'=>Sd P nb N b K s',K.ext,K.ret⟩ s else VC P T nb N a ⟨λs'=>VC P T nb N b K s',K.ext,K.ret⟩ s
 |.cond c a b,K,s=>(match val [] s c with
  |some (.c (.v (.bool t)))=>bif t then VC P T nb N a K s else VC P T nb N b K s
  |some (.c (.b p _))=>(p->Sd P nb N a K s)/\(¬p->Sd P nb N b K s)
  |_=>False)
 |.block id c,K,s=>VC P T nb N c ⟨K.nrm,λj s'=>bif Nat.beq j id then K.nrm s' else K.ext j s',K.ret⟩ s
 |.loop c,K,s=>Sd P nb N (.loop c) K s
 |.exit i,K,s=>K.ext i s
 |.ret,K,s=>K.ret s
 |_,_,_=>False
section
variable {P:Program} {T:TT} {nb N:Nat} {s:SS} {K K':Kt} {c a b:Code}
theorem aC (hT:Good P T) (hm:P.follows .mixedOrders=true):∀{c:Code} {K:Kt} {s:SS},VC P T nb N c K s->Sd P nb N c K s
 |.skip,K,s,h=>λρ0 w0 ρ f w Q hL hD=>fL (hL.nrm s ρ f w h hD)
 |.region id ops d,K,s,h=>λρ0 w0 ρ f w Q hL hD=>by
  unfold VC at h
  cases hnd:ndA ops.toList with
  |false=>rw[hnd] at h;exact h.elim
  |true=>
  rw[hnd] at h
  simp only[cond_true] at h
  cases d with
  |false=>
   simp only[cond_false] at h
   have:=cV (P:=P) (n:=N) (Q:=Q) (f:=f) (w:=w) (id:=id) (l:=ops.toList) (by
    rw[hJ]
    exact yJ hT hL.nrm h hD) hnd
   rwa [hJ] at this
  |true=>
   simp only[cond_true] at h
   obtain⟨order,h1,h2⟩:=h
   cases order with
   |seq l=>
    simp only[aNk,aQ] at h1
    refine oQ hm (hd:=hnd) λw1 hw1=>?_
    exact aIr hT hL.nrm h2 h1.1 (bN h1.2) (.inl λu=>qD) (hD.ext hw1)
   |tree pre t=>
    simp only[aNk,aQ] at h1
    exact aAo _ hm (aSx hT hL.nrm h2 h1.1 (bN h1.2) (hD.ext (Below.drew (Below.refl _ _)))) hnd
   |treeH pre t=>
    simp only[aNk,aQ] at h1
    exact aAo _ hm (aPm hT hL.nrm h2 h1.1 (bN h1.2) (hD.ext (Below.drew (Below.refl _ _)))) hnd
   |join pre t=>
    simp only[aNk,aQ] at h1
    obtain⟨σ,S,C,h3,h4⟩:=h2
    refine aAo _ hm (aSx hT (λs' ρ' f' w' hg hD'=>?_) h3 h1.1 (bN h1.2) (hD.ext (Below.drew (Below.refl _ _)))) hnd
    obtain⟨g,ρ2,hC,hD2⟩:=hg _ _ _ _ _ hD'
    exact hL.nrm _ ρ2 f' w' (h4 g hC) hD2
   |joinR pre t=>
    simp only[aNk,aQ] at h1
    obtain⟨σ,S,C,h3,h4⟩:=h2
    refine oQ hm (hd:=hnd) λw1 hw1=>?_
    refine aPn hT (λs' ρ' f' w' hg hD'=>?_) h3 h1.1 (bN h1.2) (hD.ext hw1)
    obtain⟨g,ρ2,hC,hD2⟩:=hg _ _ _ _ _ hD'
    exact hL.nrm _ ρ2 f' w' (h4 g hC) hD2
   |treeX pre rs t=>
    simp only[aNk,aQ] at h1
    obtain⟨S',hh⟩:=aKc hT (Q:=Q) hL.nrm h2 h1.1 (bN h1.2) (hD.ext (Below.drew (Below.refl _ _)))
    exact aAo S' hm hh hnd
   |joinX pre rs t=>
    simp only[aNk,aQ] at h1
    obtain⟨σ,S,C,h3,h4⟩:=h2
    obtain⟨S',hh⟩:=aKc hT (Q:=Q) (λs' ρ' f' w' hg hD'=>by
     obtain⟨g,ρ2,hC,hD2⟩:=hg _ _ _ _ _ hD'
     exact hL.nrm _ ρ2 f' w' (h4 g hC) hD2) h3 h1.1 (bN h1.2) (hD.ext (Below.drew (Below.refl _ _)))
    exact aAo S' hm hh hnd
 |.seq a b,K,s,h=>λρ0 w0 ρ f w Q hL hD=>by
  simp only[VC] at h
  cases he:bAj a with
  |true=>rw[he] at h;exact dV (aC hT hm (c:=a) h ρ0 w0 ρ f w _ ⟨λs' ρ' f' w' h' hD'=>h' ρ0 w0 ρ' f' w' Q hL hD',hL.ext,hL.ret⟩ hD)
  |false=>rw[he] at h;exact dV (aC hT hm (c:=a) h ρ0 w0 ρ f w _ ⟨λs' ρ' f' w' h' hD'=>aC hT hm (c:=b) h' ρ0 w0 ρ' f' w' Q hL hD',hL.ext,hL.ret⟩ hD)
 |.cond c a b,K,s,h=>λρ0 w0 ρ f w Q hL hD=>by
  simp only[VC] at h
  split at h
  ·next t hc=>
   have he:=(cF hD.f fP hc).inv_c.inv_v
   cases t with
   |true=>exact wV he (aC hT hm (c:=a) h ρ0 w0 ρ f w Q hL hD)
   |false=>exact tE he (aC hT hm (c:=b) h ρ0 w0 ρ f w Q hL hD)
  ·next p hp hc=>
   have he:=(cF hD.f fP hc).inv_c.inv_b
   exact uQ he (λht=>h.1 (of_decide_eq_true ht) ρ0 w0 ρ f w Q hL hD) (λht=>h.2 (of_decide_eq_false ht) ρ0 w0 ρ f w Q hL hD)
  exact h.elim
 |.block id c,K,s,h=>λρ0 w0 ρ f w Q hL hD=>gC (aC hT hm (c:=c) h ρ0 w0 ρ f w _ ⟨hL.nrm,λi s' ρ' f' w' h' hD'=>by
  cases hb:Nat.beq i id with
  |true=>simp only[hb,cond_true] at h' ⊢;exact hL.nrm s' ρ' f' w' h' hD'
  |false=>simp only[hb,cond_false] at h' ⊢;exact hL.ext i s' ρ' f' w' h' hD',hL.ret⟩ hD)
 |.loop c,K,s,h=>h
 |.exit i,K,s,h=>λρ0 w0 ρ f w Q hL hD=>nG (hL.ext i s ρ f w h hD)
 |.ret,K,s,h=>λρ0 w0 ρ f w Q hL hD=>gH (hL.ret s ρ f w h hD)
 |.rangeFunc _ _ _ _,K,s,h=>h.elim
 |.scope _,K,s,h=>h.elim
 |.label _,K,s,h=>h.elim
 |.goto _,K,s,h=>h.elim
 |.refuse _,K,s,h=>h.elim
/-! ### joints and loops -/
def Sub (s s':SS):Prop:=∀ρ0 w0 nb ρ f w,Dn ρ0 w0 nb s ρ f w->Dn ρ0 w0 nb s' ρ f w
abbrev To {σ:Type} (I:σ->SS) (C:σ->Prop) (s:SS):Prop:=∃g,C g/\Sub s (I g)
theorem Sd.to {σ:Type} {I:σ->SS} {C:σ->Prop} (h:Sd P nb N c ⟨To I C,K.ext,K.ret⟩ s) (hk:∀g,C g->K.nrm (I g)):Sd P nb N c K s:=λρ0 w0 ρ f w Q hL hD=>
 h ρ0 w0 ρ f w Q ⟨λs' ρ' f' w' ⟨g,hc,hs⟩ hD'=>hL.nrm _ ρ' f' w' (hk g hc) (hs _ _ _ _ _ _ hD'),hL.ext,hL.ret⟩ hD
theorem Sd.loop {σ:Type} (I:σ->SS) (C:σ->Prop) (μ:σ->Nat) (g0:σ) (h0:C g0) (hs:Sub s (I g0)) (hr:∀g,C g->Sd P nb N c ⟨λs'=>∃g',(C g'/\μ g'<μ g)/\Sub s' (I g'),K.ext,K.ret⟩ (I g)):Sd P nb N (.loop c) K s:=λρ0 w0 ρ f w Q hL hD=>
 oP (σ:=σ) (λg f w=>C g/\∃ρ,Dn ρ0 w0 nb (I g) ρ f w) μ g0 ⟨h0,ρ,hs _ _ _ _ _ _ hD⟩ λg f w ⟨hc,ρ,hD⟩=>
  hr g hc ρ0 w0 ρ f w _ ⟨λs' ρ' f' w' ⟨g',⟨hc',hlt⟩,hs'⟩ hD'=>⟨g',⟨hc',ρ',hs' _ _ _ _ _ _ hD'⟩,hlt⟩,hL.ext,hL.ret⟩ hD
/-! ### the end of a function -/
def bIf (T:TT) (s:SS):ResultVar->(DV->Prop)->Prop
 |.tmp t,k=>(match iM s.sl t with
  |some d=>k d
  |none=>False)
 |.cell a t,k=>match T t,iM s.sl a with
  |some ti,some (.c (.p j o))=>(match s.bl[j]? with
   |some b=>ldK ti o b.2.2 k
   |none=>False)
  |_,_=>False
def bOb (T:TT) (s:SS):List ResultVar->(List DV->Prop)->Prop
 |[],k=>k []
 |r::l,k=>bIf T s r λd=>bOb T s l λds=>k (d::ds)
def bTz:List DV->DV
 |[d]=>d
 |l=> .t l
def bIg (cl:List Bool) (nb:Nat) (s:SS) (d:DV) (o:OutF):Prop:=∀ρ0 w0 ρ w v,DnW ρ0 w0 nb s.bl ρ w->ρ.F=s.fl->Hd ρ s.bl.length w d v->∃ρ',DnW ρ0 w0 nb o.bl ρ' w/\Hd ρ' o.bl.length w o.d v/\ClB cl o.bl/\ρ'.F=o.fl
abbrev Fin (cl:List Bool) (nb:Nat) (s:SS) (d:DV) (o:Out):Prop:=bIg cl nb s d o.F
def aPo (T:TT) (cl:List Bool) (nb:Nat) (rs:List ResultVar) {σ:Type} (R:σ->OutF) (s:SS):Prop:=bOb T s rs λds=>∃g,(R g).C/\bIg cl nb s (bTz ds) (R g)
theorem bIh (hT:Good P T) {ρ0 ρ:Pl} {w0 w:World} {f:Nat->Value} {r:ResultVar} {k:DV->Prop} (h:bIf T s r k) (hD:Dn ρ0 w0 nb s ρ f w):∃d v,k d/\Hd ρ s.bl.length w d v/\bMf P f w r v:=by
 unfold bIf at h
 split at h
 ·next t=>
  split at h
  ·next d hd=>exact⟨d,_,h,hD.f.sl _ d hd,rfl⟩
  exact h.elim
 next t=>
 split at h
 ·next ti j o ht ha=>
  split at h
  ·next bb hb=>
   obtain⟨T',e,l⟩:=bb
   obtain⟨d,hk,hd⟩:=aSm h
   obtain⟨hj,b,hρ,he⟩:=(hD.f.sl _ _ ha).inv_c
   obtain⟨vl,junk,hh,hl,_⟩:=(hD.m.ok j T' e l hb).at hρ
   obtain⟨v,hv,hcase⟩:=hd ρ s.bl.length w vl hl
   have G:=hT t ti ht
   refine⟨d,v,hk,hv,b,o,?_⟩
   rcases hcase with ⟨hag,rfl,hlen⟩|⟨hag,hv'⟩
   ·refine⟨(vl.drop o).take ti.size,he,G.un,λi u hi=>?_,.inl ⟨G.ag.trans hag,?_,rfl⟩⟩
    ·rw[iE] at hi
     split at hi
     ·rw[eQ] at hi;exact pS hh hi
     cases hi
    obtain⟨zz,hty,_⟩:=G.ty
    exact⟨ti.by',zz,by rw[hlen];exact hty⟩
   refine⟨[v],he,G.un,λi u hi=>?_,.inr ⟨G.ag.trans hag,rfl⟩⟩
   cases i with
   |zero=>injection hi with hi;subst hi;exact pS hh hv'
   |succ i=>cases hi
  exact h.elim
 exact h.elim
theorem aKd (hT:Good P T) {ρ0 ρ:Pl} {w0 w:World} {f:Nat->Value} (hD:Dn ρ0 w0 nb s ρ f w):∀{rs:List ResultVar} {k:List DV->Prop},bOb T s rs k->∃ds vs,k ds/\HL ρ s.bl.length w ds vs/\aJf P f w rs vs
 |[],k,h=>⟨[],[],h,trivial,trivial⟩
 |r::rs,k,h=>by
  obtain⟨d,v,h1,h2,h3⟩:=bIh hT (show bIf T s r _ from h) hD
  obtain⟨ds,vs,h4,h5,h6⟩:=aKd hT hD h1
  exact⟨d::ds,v::vs,h4,⟨h2,h5⟩,h3,h6⟩
theorem HL.len {ρ:Pl} {n:Nat} {w:World}:∀{l:List DV} {m:List Value},HL ρ n w l m->l.length=m.length
 |[],[],_=>rfl
 |[],_::_,h=>h.elim
 |_::_,[],h=>h.elim
 |_::_,_::_,h=>by simp[HL.len h.2]
theorem HL.get {ρ:Pl} {n:Nat} {w:World}:∀{l:List DV} {m:List Value} {i:Nat} {d:DV} {u:Value},HL ρ n w l m->l[i]? =some d->m[i]? =some u->Hd ρ n w d u
 |[],_,i,d,u,_,h,_=>by cases h
 |_::_,[],i,d,u,h,_,_=>h.elim
 |a::l,x::m,0,d,u,h,h1,h2=>by injection h1 with h1;injection h2 with h2;subst h1 h2;exact h.1
 |a::l,x::m,i+1,d,u,h,h1,h2=>HL.get h.2 (by simpa using h1) (by simpa using h2)
theorem bAk {ρ:Pl} {n:Nat} {w:World} {ds:List DV} {vs:List Value} (h:HL ρ n w ds vs):Hd ρ n w (bTz ds) (aFs vs):=by
 have gen:Hd ρ n w (.t ds) (.tuple vs.toArray):=.t h.len λi d u h1 h2=>h.get h1 h2
 match ds,vs,h with
 |[],[],_=>exact gen
 |[d],[v],h=>exact h.1
 |a::b::ds,x::y::vs,_=>exact gen
 |[],_::_,h=>exact h.elim
 |_::_,[],h=>exact h.elim
 |[_],_::_::_,h=>exact h.2.elim
 |_::_::_,[_],h=>exact h.2.elim
def aPp:Nat->List DV->List (Nat×DV)
 |_,[]=>[]
 |i,d::l=>(i,d)::aPp (i+1) l
theorem aKe {ρ:Pl} {n:Nat} {w:World}:∀{al:List DV} {vals:List Value} {i t:Nat} {d:DV},HL ρ n w al vals->iM (aPp i al) t=some d->∃j u,t=i+j/\vals[j]? =some u/\Hd ρ n w d u
 |[],_,i,t,d,_,h=>by cases h
 |_::_,[],i,t,d,h,_=>h.elim
 |a::al,x::vals,i,t,d,h,ht=>by
  simp only[aPp,iM] at ht
  cases hb:Nat.beq i t with
  |true=>
   rw[hb] at ht
   injection ht with ht
   subst ht
   exact⟨0,x,(aO hb).symm,rfl,h.1⟩
  |false=>
   rw[hb] at ht
   obtain⟨j,u,h1,h2,h3⟩:=aKe h.2 ht
   exact⟨j+1,u,by omega,by simpa using h2,h3⟩
theorem kM (hT:Good P T) {q:FuncId} {cl:List Bool} {al:List DV} {bl:BL} {fl:List Fam} {σ:Type} {R:σ->OutF} {fn:Func} {rs:List ResultVar} (he:Ent P q) (hf:P.funcs[q]? =some fn) (hb:fn.body=some c) (hn:fn.ntmps=N) (hr:fn.results=rs.toArray) (hsz:al.length<=N) (hcl:ClB cl bl)
 (h:Sd P bl.length N c ⟨aPo T cl bl.length rs R,λ_ _=>False,aPo T cl bl.length rs R⟩ ⟨aPp 0 al,[],bl,fl⟩):CtrF P q cl al bl fl R:=by
 refine⟨he,hcl,λρ w vals hv hD hFl=>?_⟩
 have fin:∀s' ρ' f' w',aPo T cl bl.length rs R s'->Dn ρ w bl.length s' ρ' f' w'->∃vs,aJf P f' w' rs vs/\∃g ρ',(R g).C/\DnW ρ w bl.length (R g).bl ρ' w'/\Hd ρ' (R g).bl.length w' (R g).d (aFs vs)/\ClB cl (R g).bl/\ρ'.F=(R g).fl:=λs' ρ' f' w' hret hD'=>by
  obtain⟨ds,vs,⟨g,hC,hF⟩,h2,h3⟩:=aKd hT hD' hret
  obtain⟨ρ2,k1,k2,k3,k4⟩:=hF _ _ _ _ _ hD'.m hD'.l (bAk h2)
  exact⟨vs,h3,g,ρ2,hC,k1,k2,k3,k4⟩
 refine eE (n:=N) (rs:=rs) hf hb hn hr (by simp only[rD];rw[<-hv.len];exact hsz) (h ρ w ρ _ w _ ⟨fin,λ_ _ _ _ _ h _=>h.elim,fin⟩ ⟨hD,⟨λt d ht=>?_,λt gs d ht=>by cases ht⟩,hFl⟩)
 obtain⟨j,u,h1,h2,h3⟩:=aKe hv ht
 rw[fK] at h1
 subst h1
 have:vals.toArray.getD t undef=u:=by simp[Array.getD,eP h2,(pN.1 h2).2]
 show Hd ρ bl.length w d (vals.toArray.getD t undef)
 rw[this]
 exact h3
theorem cY (hT:Good P T) {q:FuncId} {cl:List Bool} {al:List DV} {bl:BL} {σ:Type} {R:σ->Out} {fn:Func} {rs:List ResultVar} (he:Ent P q) (hf:P.funcs[q]? =some fn) (hb:fn.body=some c) (hn:fn.ntmps=N) (hr:fn.results=rs.toArray) (hsz:al.length<=N) (hcl:ClB cl bl)
 (h:Sd P bl.length N c ⟨aPo T cl bl.length rs λg=>(R g).F,λ_ _=>False,aPo T cl bl.length rs λg=>(R g).F⟩ ⟨aPp 0 al,[],bl,[]⟩):Ctr P q cl al bl R:=kM hT he hf hb hn hr hsz hcl h
end
/-! ### the table -/
inductive Shp where
 |slice (e:Nat)
 |bool
 |str
 |int (k:IntKind)
 |struct (l:List (Nat×Nat))
 |array (n e:Nat)
 |other
def shp:TypeDesc->Shp
 |.slice e=> .slice e
 |.bool=> .bool
 |.string=> .str
 |.int k=> .int k
 |.struct F=> .struct (F.toList.map λf=>(f.offset,f.type))
 |.array n e=> .array n e
 |_=> .other
def aKf (ti:TI):Shp:=match ti.ar with
 |some (n,e,_)=> .array n e
 |none=>match ti.el with
 |some e=> .slice e
 |none=>bif ti.bo then .bool else bif ti.str then .str else match ti.ik with
  |some k=> .int k
  |none=>match ti.fs with
   |[]=> .other
   |l=> .struct (l.map λf=>(f.off,f.ty))
def zv (ti:TI):Value:=bif ti.agg then .agg ti.zero.toArray else ti.zero.headD undef
def bAl (P:Program) (t:Nat):Option (Option Value×Nat×Nat)×Option Shp×Bool:=((P.info? t).map λi=>(i.zero,i.size,i.bytes),(P.underlying t).map shp,wW P t)
def bAm (ti:TI):Option (Option Value×Nat×Nat)×Option Shp×Bool:=(some (some (zv ti),ti.size,ti.by'),some (aKf ti),ti.agg)
def bOc:Option TypeDesc->Bool
 |some (.pointer _)=>true
 |_=>false
theorem bIi {o:Option TypeDesc} (h:bOc o=true):∃e,o=some (.pointer e):=by
 unfold bOc at h
 split at h
 ·exact⟨_,rfl⟩
 cases h
def look:List (Nat×TI)->TT
 |[],_=>none
 |(k,i)::l,t=>bif Nat.beq k t then some i else look l t
def chk (tab:List (Nat×TI)) (e:Nat×TI):Bool:=
 Nat.beq e.2.zero.length e.2.size&&((match e.2.ar with
  |some (_,el,es)=>e.2.el.isNone&&(!e.2.bo&&(!e.2.str&&(e.2.ik.isNone&&(e.2.fs.isEmpty&&match look tab el with
   |some tf=>Nat.beq tf.size es
   |none=>false))))
  |none=>true)&&(e.2.zero.all Value.oneCell'&&((e.2.agg||Nat.beq e.2.size 1)&&((e.2.el.isNone||(!e.2.bo&&(!e.2.str&&(e.2.ik.isNone&&e.2.fs.isEmpty))))&&((!e.2.bo||(!e.2.str&&(e.2.ik.isNone&&e.2.fs.isEmpty)))&&((!e.2.str||(e.2.ik.isNone&&e.2.fs.isEmpty))&&((e.2.ik.isNone||e.2.fs.isEmpty)&&e.2.fs.all λfi=>match look tab fi.ty with
  |some tf=>Nat.beq tf.size fi.size&&(tf.agg==fi.agg)
  |none=>false)))))))
section tab
variable {P:Program} {tab:List (Nat×TI)}
theorem aCa {l:List (Nat×TI)} {t:Nat} {i:TI} (h:look l t=some i):(t,i)∈l:=by
 induction l with
 |nil=>cases h
 |cons e l ih=>
  obtain⟨k,e⟩:=e
  unfold look at h
  cases hb:Nat.beq k t with
  |true=>
   rw[hb] at h
   injection h with h
   have:=aO hb
   subst this h
   exact .head _
  |false=>rw[hb] at h;exact .tail _ (ih h)
theorem aWc {d:TypeDesc} {e:Nat} (h:shp d= .slice e):d= .slice e:=by
 cases d<;>simp[shp] at h
 subst h;rfl
theorem bAn {d:TypeDesc} (h:shp d= .bool):d= .bool:=by
 cases d<;>simp[shp] at h
 rfl
theorem bIj {d:TypeDesc} (h:shp d= .str):d= .string:=by
 cases d<;>simp[shp] at h
 rfl
theorem bIk {d:TypeDesc} {k:IntKind} (h:shp d= .int k):d= .int k:=by
 cases d<;>simp[shp] at h
 subst h;rfl
theorem aWd {d:TypeDesc} {n e:Nat} (h:shp d= .array n e):d= .array n e:=by
 cases d<;>simp[shp] at h
 obtain⟨rfl,rfl⟩:=h;rfl
theorem aPq {d:TypeDesc} {l:List (Nat×Nat)} (h:shp d= .struct l):∃F,d= .struct F/\F.toList.map (λf=>(f.offset,f.type))=l:=by
 cases d<;>simp[shp] at h
 exact⟨_,rfl,h⟩
theorem bIl (h:tab.map (λe=>bAl P e.1)=tab.map (λe=>bAm e.2)) (hb:tab.all (chk tab)=true) (hq:∀e∈tab,∀vs,ckF e.2.ck vs=true->CkP P e.1 vs) (hmp:∀e∈tab,e.2.mp=true->∃k e',P.underlying e.1=some (.map k e')/\P.underlying k=some (.int .i64)) (hpt:tab.all (λe=>!e.2.pt||bOc (P.underlying e.1))=true):Good P (look tab):=λt ti ht=>by
 have row:∀{t:Nat} {ti:TI},look tab t=some ti->bAl P t=bAm ti/\chk tab (t,ti)=true:=λ{t ti} ht=>by
  have hm:=aCa ht
  refine⟨?_,aZ.1 hb _ hm⟩
  obtain⟨i,hi⟩:=dD hm
  have h1:=congrArg (λl=>l[i]?) h
  simp only[fQ,hi,Option.map_some] at h1
  injection h1
 obtain⟨hr,hc⟩:=row ht
 have hty:∀{t:Nat} {ti:TI},bAl P t=bAm ti->TyI P t ti.size ti.by' (zv ti)/\(∃d,P.underlying t=some d/\shp d=aKf ti)/\wW P t=ti.agg:=λ{t ti} hr=>by
  unfold bAl bAm at hr
  injection hr with h1 h2
  injection h2 with h2 h3
  refine⟨TyI.of h1,?_,h3⟩
  cases hd:P.underlying t with
  |none=>rw[hd] at h2;cases h2
  |some d=>rw[hd] at h2;injection h2 with h2;exact⟨d,rfl,h2⟩
 obtain⟨k1,⟨d,k2,k3⟩,k4⟩:=hty hr
 simp only[chk,aQ,kY,dL] at hc
 obtain⟨c1,c0,c2,c3,c4,c5,c6,c7,c8⟩:=hc
 have hna:(ti.el.isSome=true\/ti.bo=true\/ti.str=true\/ti.ik.isSome=true\/ti.fs.isEmpty=false)->ti.ar=none:=λhh=>by
  cases har:ti.ar with
  |none=>rfl
  |some q=>
   obtain⟨n,e,es⟩:=q
   rw[har] at c0
   simp only[aQ,dL] at c0
   obtain⟨d1,d2,d3,d4,d5,_⟩:=c0
   rcases hh with h|h|h|h|h
   ·rw[uP.1 d1] at h;cases h
   ·rw[d2] at h;cases h
   ·rw[d3] at h;cases h
   ·rw[uP.1 d4] at h;cases h
   rw[d5] at h;cases h
 have c1':=aO c1
 refine⟨⟨d,k2⟩,k4,⟨zv ti,k1,?_⟩,c1',c2,λe he=>?_,λn e es har=>?_,λhbo=>?_,λhs=>?_,λk hk=>?_,?_,hq _ (aCa ht),hmp _ (aCa ht),λhp=>bIi (by have:=aZ.1 hpt _ (aCa ht);rw[hp] at this;exact this)⟩
 ·unfold zv
  cases ha:ti.agg with
  |true=>rfl
  |false=>
   rw[ha] at c3
   have hl:ti.zero.length=1:=by
    rcases c3 with h|h
    ·cases h
    rw[c1',aO h]
   match hz:ti.zero,hl with
   |[z],_=>
    rw[hz] at c2
    simp only[List.all_cons,List.all_nil,Bool.and_true] at c2
    exact aBq c2
 ·rw[k2];congr 1;apply aWc;rw[k3];simp[aKf,he,hna (.inl (by rw[he];rfl))]
 ·refine⟨by rw[k2];congr 1;apply aWd;rw[k3];simp[aKf,har],?_⟩
  rw[har] at c0
  simp only[aQ] at c0
  have h6:=c0.2.2.2.2.2
  split at h6
  ·next tf htf=>
   have:=aO h6
   exact⟨tf.by',zv tf,by rw[<-this];exact(hty (row htf).1).1⟩
  cases h6
 ·have hel:ti.el=none:=by
   rcases c4 with h|h
   ·simpa using h
   rw[h.1] at hbo;cases hbo
  rw[k2];congr 1;apply bAn;rw[k3];simp[aKf,hel,hbo,hna (.inr (.inl hbo))]
 ·have hel:ti.el=none:=by
   rcases c4 with h|h
   ·simpa using h
   rw[h.2.1] at hs;cases hs
  have hbo:ti.bo=false:=by
   rcases c5 with h|h
   ·exact h
   rw[h.1] at hs;cases hs
  rw[k2];congr 1;apply bIj;rw[k3];simp[aKf,hel,hbo,hs,hna (.inr (.inr (.inl hs)))]
 ·have hel:ti.el=none:=by
   rcases c4 with h|h
   ·simpa using h
   have:=h.2.2.1;rw[hk] at this;cases this
  have hbo:ti.bo=false:=by
   rcases c5 with h|h
   ·exact h
   have:=h.2.1;rw[hk] at this;cases this
  have hs:ti.str=false:=by
   rcases c6 with h|h
   ·exact h
   have:=h.1;rw[hk] at this;cases this
  rw[k2];congr 1;apply bIk;rw[k3];simp[aKf,hel,hbo,hs,hk,hna (.inr (.inr (.inr (.inl (by rw[hk];rfl)))))]
 cases hf:ti.fs with
 |nil=>exact .inl rfl
 |cons f0 fr=>
  right
  have hne:ti.fs.isEmpty=false:=by rw[hf];rfl
  have hel:ti.el=none:=by
   rcases c4 with h|h
   ·simpa using h
   have:=h.2.2.2;rw[hne] at this;cases this
  have hbo:ti.bo=false:=by
   rcases c5 with h|h
   ·exact h
   have:=h.2.2;rw[hne] at this;cases this
  have hs:ti.str=false:=by
   rcases c6 with h|h
   ·exact h
   have:=h.2;rw[hne] at this;cases this
  have hk:ti.ik=none:=by
   rcases c7 with h|h
   ·simpa using h
   rw[hne] at h;cases h
  have hsh:aKf ti= .struct (ti.fs.map λf=>(f.off,f.ty)):=by simp[aKf,hel,hbo,hs,hk,hf,hna (.inr (.inr (.inr (.inr hne))))]
  obtain⟨F,hF,hmap⟩:=aPq (k3.trans hsh)
  subst hF
  rw[<-hf]
  have hlen:F.toList.length=ti.fs.length:=by simpa using congrArg List.length hmap
  refine⟨F,k2,by rw[<-hlen];simp,λk fi hk=>?_⟩
  have h1:=congrArg (λl=>l[k]?) hmap
  simp only[fQ,hk,Option.map_some] at h1
  have hkl:k<F.toList.length:=by rw[hlen];exact eP hk
  have h2:=aK hkl
  rw[h2] at h1
  injection h1 with h1
  injection h1 with e1 e2
  refine⟨F.toList[k],by rw[<-dO];exact h2,e1,e2,?_⟩
  have hfc:=aZ.1 c8 fi (aX hk)
  split at hfc
  ·next tf htf=>
   simp only[aQ,beq_iff_eq] at hfc
   obtain⟨m1,⟨d',m2,_⟩,m4⟩:=hty (row htf).1
   have:=aO hfc.1
   exact⟨by rw[m4,hfc.2],⟨d',m2⟩,tf.by',zv tf,by rw[<-this];exact m1⟩
  cases hfc
end tab
/-! ### what changes -/
def EqV:CV->CV->Prop
 |.v (.int k a),.v (.int k' b)=>bif decide (k=k') then a=b else False
 |.b p _,.b q _=>(p↔q)
 |.v (.bool b),.b q _=>(b=true↔q)
 |.s i n,.s j m=>bif Nat.beq i j then n=m else False
 |.v (.slice none 0 0),.r A n c _ _=>A=none/\n=0/\c=0
 |.v (.slice none 0 0),.h A n c=>A=none/\n=0/\c=0
 |_,.u=>True
 |x,y=>x=y
def EqE:DV->DV->Prop
 |.c x,.c y=>EqV x y
 |_,.c .u=>True
 |x,y=>x=y
def EqT:List DV->List DV->Prop
 |[a],[b]=>EqE a b
 |a::l,b::m=>EqE a b/\EqT l m
 |l,m=>l=m
def EqD:DV->DV->Prop
 |.t l,.t m=>EqT l m
 |x,y=>EqE x y
theorem EqV.refl (c:CV):EqV c c:=by
 cases c with
 |v x=>cases x<;>first|rfl|(simp[EqV])
 |b p h=>exact qD
 |s i n=>simp[EqV,iX]
 |u=>trivial
 |_=>rfl
theorem EqE.refl (d:DV):EqE d d:=by
 cases d with
 |c c=>exact EqV.refl c
 |a l=>rfl
 |t l=>rfl
theorem EqT.refl:∀l:List DV,EqT l l
 |[]=>rfl
 |[a]=>EqE.refl a
 |a::b::l=>⟨EqE.refl a,EqT.refl (b::l)⟩
theorem EqD.refl (d:DV):EqD d d:=by
 cases d with
 |c c=>exact EqV.refl c
 |a l=>rfl
 |t l=>exact EqT.refl l
theorem EqV.hc {ρ:Pl} {n:Nat} {w:World} {x y:CV} {v:Value} (h:EqV x y) (hx:Hc ρ n w x v):Hc ρ n w y v:=by
 unfold EqV at h
 split at h
 ·next k a k' b=>
  cases hk:decide (k=k') with
  |false=>rw[hk] at h;exact h.elim
  |true=>rw[hk] at h;have:=of_decide_eq_true hk;simp only[cond_true] at h;subst this h;exact hx
 ·next p hp q hq=>
  have:=hx.inv_b
  subst this
  rw[decide_eq_decide.2 h]
  exact Rc.b _ _
 ·next b q hq=>
  have:=hx.inv_v
  subst this
  rw[show b=decide q by rw[sW,h];simp]
  exact Rc.b _ _
 ·next i n' j m=>
  cases hk:Nat.beq i j with
  |false=>rw[hk] at h;exact h.elim
  |true=>rw[hk] at h;have:=aO hk;simp only[cond_true] at h;subst this h;exact hx
 ·obtain⟨rfl,rfl,rfl⟩:=h
  rw[hx.inv_v]
  exact Rc.nil _ _ _ _ (aF _)
 ·obtain⟨rfl,rfl,rfl⟩:=h
  rw[hx.inv_v]
  exact Rc.h none 0 0
 ·exact Rc.u _
 rw[<-h];exact hx
theorem EqE.hd {ρ:Pl} {n:Nat} {w:World} {x y:DV} {v:Value} (h:EqE x y) (hx:Hd ρ n w x v):Hd ρ n w y v:=by
 unfold EqE at h
 split at h
 ·exact .c (h.hc hx.inv_c)
 ·exact .c (Rc.u _)
 rw[<-h];exact hx
theorem EqT.get:∀{l m:List DV},EqT l m->m.length=l.length/\∀(i:Nat) (d':DV),m[i]? =some d'->∃d,l[i]? =some d/\EqE d d':=λ{l m} h=>by
 induction l generalizing m with
 |nil=>cases m with
  |nil=>exact⟨rfl,λi d' h=>by cases h⟩
  |cons b m=>cases (show([]:List DV)=b::m from h)
 |cons a l ih=>
  cases m with
  |nil=>cases l with
   |nil=>cases (show [a]=[] from h)
   |cons a' l=>cases (show a::a'::l=[] from h)
  |cons b m=>
   have key:EqE a b/\EqT l m:=by
    cases l with
    |nil=>cases m with
     |nil=>exact⟨h,rfl⟩
     |cons b' m=>exact h
    |cons a' l=>cases m with
     |nil=>exact h
     |cons b' m=>exact h
   obtain⟨h1,h2⟩:=ih key.2
   refine⟨by simp[h1],λi d' hi=>?_⟩
   cases i with
   |zero=>injection hi with hi;subst hi;exact⟨a,rfl,key.1⟩
   |succ i=>exact h2 i d' hi
theorem EqD.hd {ρ:Pl} {n:Nat} {w:World} {x y:DV} {v:Value} (h:EqD x y) (hx:Hd ρ n w x v):Hd ρ n w y v:=by
 unfold EqD at h
 split at h
 ·next l m=>
  cases hx with
  |t h0 hh=>
   obtain⟨h1,h2⟩:=h.get
   refine .t (h1.trans h0) λi d u hi hu=>?_
   obtain⟨d0,h3,h4⟩:=h2 i d hi
   exact h4.hd (hh i d0 u h3 hu)
 exact h.hd hx
section mt
variable {P:Program} {T:TT} {nb N:Nat} {s:SS} {K:Kt} {c a b:Code}
def AllC (sl:List (Nat×DV)):List (Nat×DV)->Prop
 |[]=>True
 |[(t,d)]=>(match iM sl t with
  |some d0=>EqD d0 d
  |none=>False)
 |(t,d)::l=>(match iM sl t with
  |some d0=>EqD d0 d
  |none=>False)/\AllC sl l
theorem AllC.get {sl:List (Nat×DV)}:∀{l:List (Nat×DV)},AllC sl l->∀{t:Nat} {d:DV},iM l t=some d->∃d0,iM sl t=some d0/\EqD d0 d
 |[],_,t,d,h=>by cases h
 |(t0,d0)::l,ha,t,d,h=>by
  have h1:(match iM sl t0 with|some d=>EqD d d0|none=>False)/\AllC sl l:=by
   cases l with
   |nil=>exact⟨ha,trivial⟩
   |cons e l=>exact ha
  simp only[iM] at h
  cases hb:Nat.beq t0 t with
  |true=>
   rw[hb] at h
   injection h with h
   subst h
   have:=aO hb
   subst this
   have h2:=h1.1
   split at h2
   ·next d' hd'=>exact⟨d',hd',h2⟩
   exact h2.elim
  |false=>rw[hb] at h;exact AllC.get h1.2 h
def yL (M:Nat->Bool):List (Nat×DV)->(List (Nat×DV)->Prop)->Prop
 |[],k=>k []
 |(t,d)::l,k=>bif M t then yL M l k else yL M l λr=>k ((t,d)::r)
theorem tX {M:Nat->Bool}:∀{l:List (Nat×DV)} {k:List (Nat×DV)->Prop},yL M l k->∃b,k b/\∀t d,iM b t=some d->iM l t=some d/\M t=false
 |[],k,h=>⟨[],h,λt d h=>by cases h⟩
 |(t0,d0)::l,k,h=>by
  unfold yL at h
  cases hm:M t0 with
  |true=>
   rw[hm] at h
   obtain⟨b,h1,h2⟩:=tX (show yL M l k from h)
   refine⟨b,h1,λt d ht=>?_⟩
   obtain⟨h3,h4⟩:=h2 t d ht
   refine⟨?_,h4⟩
   unfold iM
   cases hb:Nat.beq t0 t with
   |true=>rw[aO hb,h4] at hm;cases hm
   |false=>exact h3
  |false=>
   rw[hm] at h
   obtain⟨b,h1,h2⟩:=tX (show yL M l _ from h)
   refine⟨_,h1,λt d ht=>?_⟩
   unfold iM at ht ⊢
   cases hb:Nat.beq t0 t with
   |true=>rw[hb] at ht;exact⟨ht,by rw[<-aO hb];exact hm⟩
   |false=>rw[hb] at ht;exact h2 t d ht
def yM (M:Nat->Bool) (base:List (Nat×DV)) (fl fl':List Fam):List (Nat×DV)->Prop
 |[]=>([],fl')=(base,fl)
 |(t,d)::l=>bif M t then yM M base fl fl' l else ((t,d)::l,fl')=(base,fl)
theorem sH {M:Nat->Bool} {base:List (Nat×DV)} {fl fl':List Fam}:∀{l:List (Nat×DV)},yM M base fl fl' l->(∀t,M t=false->iM l t=iM base t)/\fl'=fl
 |[],h=>by injection (show([],fl')=(base,fl) from h) with h1 h2;exact⟨λt _=>by rw[h1],h2⟩
 |(t0,d0)::l,h=>by
  unfold yM at h
  cases hm:M t0 with
  |true=>
   rw[hm] at h
   obtain⟨h1,h2⟩:=sH (show yM M base fl fl' l from h)
   refine⟨λt ht=>?_,h2⟩
   show(bif Nat.beq t0 t then some d0 else iM l t)=iM base t
   cases hb:Nat.beq t0 t with
   |true=>rw[aO hb,ht] at hm;cases hm
   |false=>exact h1 t ht
  |false=>
   rw[hm] at h
   simp only[cond_false] at h
   injection h with h1 h2
   exact⟨λt _=>by rw[h1],h2⟩
def Mt (M:Nat->Bool) (base:List (Nat×DV)) (fl:List Fam) (s:SS) (chg:List (Nat×DV)) (bl:BL):Prop:=yM M base fl s.fl s.sl/\s.bl=bl/\AllC s.sl chg
theorem sI {l m:List (Nat×DV)} {t:Nat} {d:DV} (h:iM (l++m) t=some d):iM l t=some d\/(iM l t=none/\iM m t=some d):=by
 induction l with
 |nil=>exact .inr ⟨rfl,h⟩
 |cons e l ih=>
  obtain⟨t0,d0⟩:=e
  simp only[List.cons_append,iM] at h ⊢
  cases hb:Nat.beq t0 t with
  |true=>rw[hb] at h;exact .inl h
  |false=>rw[hb] at h;exact ih h
theorem bAo {s s':SS} (hb:s.bl=s'.bl) (hl:s.fl=s'.fl) (hg:s'.gl=[]) (h:∀t d,iM s'.sl t=some d->∃d0,iM s.sl t=some d0/\EqD d0 d):Sub s s':=λρ0 w0 nb ρ f w hD=>by
 refine⟨by rw[<-hb];exact hD.m,⟨λt d ht=>?_,λt gs d ht=>?_⟩,hD.l.trans hl⟩
 ·obtain⟨d0,h1,h2⟩:=h t d ht
  rw[<-hb]
  exact h2.hd (hD.f.sl t d0 h1)
 rw[hg] at ht;cases ht
theorem Mt.sub {M:Nat->Bool} {base chg:List (Nat×DV)} {bl:BL} {fl:List Fam} (h:Mt M base fl s chg bl) (hM:∀t d,iM base t=some d->M t=false):Sub s ⟨chg++base,[],bl,fl⟩:=
 bAo h.2.1 (sH h.1).2 rfl λt d ht=>by
  rcases sI ht with h1|⟨h1,h2⟩
  ·exact h.2.2.get h1
  exact⟨d,by rw[(sH h.1).1 t (hM t d h2)];exact h2,.refl d⟩
theorem yN (M:Nat->Bool) {σ:Type} (chg:σ->List (Nat×DV)) (bls:σ->BL) (C:σ->Prop) (μ:σ->Nat) (g0:σ)
 (h:yL M s.sl λbase=>(C g0/\s.bl=bls g0/\AllC s.sl (chg g0))/\∀g,C g->Sd P nb N c ⟨λs'=>∃g',(C g'/\μ g'<μ g)/\Mt M base s.fl s' (chg g') (bls g'),K.ext,K.ret⟩ ⟨chg g++base,[],bls g,s.fl⟩):Sd P nb N (.loop c) K s:=by
 obtain⟨base,⟨⟨h0,hb,ha⟩,hr⟩,hk⟩:=tX h
 refine Sd.loop (λg=>⟨chg g++base,[],bls g,s.fl⟩) C μ g0 h0 (bAo hb rfl rfl λt d ht=>?_) λg hg=>?_
 ·rcases sI ht with h1|⟨h1,h2⟩
  ·exact ha.get h1
  exact⟨d,(hk t d h2).1,.refl d⟩
 intro ρ0 w0 ρ f w Q hL hD
 exact hr g hg ρ0 w0 ρ f w Q ⟨λs' ρ' f' w' ⟨g',hc,hm⟩ hD'=>hL.nrm s' ρ' f' w' ⟨g',hc,hm.sub λt d ht=>(hk t d ht).2⟩ hD',hL.ext,hL.ret⟩ hD
theorem vjn (M:Nat->Bool) {σ:Type} (chg:σ->List (Nat×DV)) (bls:σ->BL) (C:σ->Prop) {p:Prop}
 (h:yL M s.sl λbase=>((p->Sd P nb N a ⟨λs'=>∃g,C g/\Mt M base s.fl s' (chg g) (bls g),K.ext,K.ret⟩ s)/\(¬p->Sd P nb N b ⟨λs'=>∃g,C g/\Mt M base s.fl s' (chg g) (bls g),K.ext,K.ret⟩ s))/\∀g,C g->K.nrm ⟨chg g++base,[],bls g,s.fl⟩):(p->Sd P nb N a K s)/\(¬p->Sd P nb N b K s):=by
 obtain⟨base,⟨⟨h1,h2⟩,h3⟩,hk⟩:=tX h
 have w:∀{c:Code},Sd P nb N c ⟨λs'=>∃g,C g/\Mt M base s.fl s' (chg g) (bls g),K.ext,K.ret⟩ s->Sd P nb N c ⟨To (λg=>⟨chg g++base,[],bls g,s.fl⟩) C,K.ext,K.ret⟩ s:=λ{c} h ρ0 w0 ρ f w Q hL hD=>
  h ρ0 w0 ρ f w Q ⟨λs' ρ' f' w' ⟨g',hc,hm⟩ hD'=>hL.nrm s' ρ' f' w' ⟨g',hc,hm.sub λt d ht=>(hk t d ht).2⟩ hD',hL.ext,hL.ret⟩ hD
 exact⟨λh=>(w (h1 h)).to h3,λh=>(w (h2 h)).to h3⟩
end mt
/-! ### what goes out -/
def scC (nb:Nat):CV->Bool
 |.p i _=>Nat.ble (i+1) nb
 |.s i _=>Nat.ble (i+1) nb
 |.t i _ _=>Nat.ble (i+1) nb
 |.f _ fi ca=>(fi++ca).all λp=>Nat.ble (p.1+1) nb
 |_=>true
def scD (nb:Nat):DV->Bool
 |.c c=>scC nb c
 |.a l=>l.all (scC nb)
 |.t l=>l.all λd=>match d with
  |.c c=>scC nb c
  |.a l=>l.all (scC nb)
  |.t _=>false
section fin
variable {ρ:Pl} {n nb:Nat} {w:World}
theorem Zf.less {b:Nat} (h:Zf ρ n w b) (hn:nb<=n):Zf ρ nb w b:=⟨h.lt,λi hi=>h.no i oM,h.z,h.nf⟩
theorem Hc.less {c:CV} {x:Value} (h:Hc ρ n w c x) (hs:scC nb c=true) (hn:nb<=n):Hc ρ nb w c x:=by
 cases c with
 |p i o=>obtain⟨_,h2⟩:=h;exact⟨bN hs,h2⟩
 |s i m=>obtain⟨_,h2⟩:=h;exact⟨bN hs,h2⟩
 |t i o m=>obtain⟨_,h2⟩:=h;exact⟨bN hs,h2⟩
 |q A m c esz get j o=>obtain⟨h1,h2⟩:=h;exact⟨h1.mono λb hb=>⟨hb.less hn,rfl⟩,h2⟩
 |f k fi ca=>obtain⟨h1,h2⟩:=h;exact⟨λp hp=>⟨bN (aZ.1 hs p hp),(h1 p hp).2⟩,h2⟩
 |u=>exact Rc.mono h λb hb=>⟨hb.less hn,rfl⟩
 |v x=>exact Rc.mono h λb hb=>⟨hb.less hn,rfl⟩
 |h A n c=>exact Rc.mono h λb hb=>⟨hb.less hn,rfl⟩
 |hp b o=>exact Rc.mono h λb hb=>⟨hb.less hn,rfl⟩
 |b p q=>exact Rc.mono h λb hb=>⟨hb.less hn,rfl⟩
 |r A m c esz get=>exact Rc.mono h λb hb=>⟨hb.less hn,rfl⟩
theorem Hl.less {l:List CV} {vl:List Value} (h:Hl ρ n w l vl) (hs:∀c∈l,scC nb c=true) (hn:nb<=n):Hl ρ nb w l vl:=by
 induction l generalizing vl with
 |nil=>cases vl with
  |nil=>trivial
  |cons x vl=>exact h
 |cons c l ih=>cases vl with
  |nil=>exact h
  |cons x vl=>exact⟨h.1.less (hs c (.head _)) hn,ih h.2 λc hc=>hs c (.tail _ hc)⟩
theorem Hd.less {d:DV} {x:Value} (h:Hd ρ n w d x) (hs:scD nb d=true) (hn:nb<=n):Hd ρ nb w d x:=by
 cases h with
 |c h=>exact .c (h.less hs hn)
 |a h=>exact .a (h.less (λc hc=>aZ.1 hs c hc) hn)
 |t h hh=>
  refine .t h λi d u h1 h2=>?_
  have h3:=aZ.1 hs d (aX h1)
  have h4:=hh i d u h1 h2
  cases h4 with
  |c h=>exact .c (h.less h3 hn)
  |a h=>exact .a (h.less (λc hc=>aZ.1 h3 c hc) hn)
  |t _ _=>cases h3
def bOd (cl:List Bool) (nb:Nat):Nat->BL->BL->Prop
 |0,_,[]=>True
 |n+1,(T,es,l)::bl,(T',es',l')::bl'=>(T=T'/\es=es'/\l=l'/\bif cl.headD false then l'.all iP=true else l'.all (scC nb)=true)/\bOd cl.tail nb n bl bl'
 |_,_,_=>False
theorem sO {c:CV} (h:iP c=true):scC nb c=true:=by
 cases c<;>first|rfl|cases h
theorem aTa:∀{cl:List Bool} {k:Nat} {bl bl':BL},bOd cl nb k bl bl'->bl'.length=k/\(∀(i:Nat) (T:TypeId) (es:Nat) (l:List CV),bl'[i]? =some (T,es,l)->bl[i]? =some (T,es,l)/\(∀c∈l,scC nb c=true)/\(cl[i]? =some true->∀c∈l,iP c=true))
 |cl,0,bl,[],_=>⟨rfl,λi T es l h=>by cases h⟩
 |cl,0,[],_::_,h=>h.elim
 |cl,0,_::_,_::_,h=>h.elim
 |cl,k+1,[],bl',h=>by cases bl'<;>exact h.elim
 |cl,k+1,(T0,e0,l0)::bl,[],h=>h.elim
 |cl,k+1,(T0,e0,l0)::bl,(T1,e1,l1)::bl',h=>by
  obtain⟨⟨rfl,rfl,rfl,h1⟩,h2⟩:=h
  obtain⟨k1,k2⟩:=aTa h2
  refine⟨by simp[k1],λi T es l hi=>?_⟩
  cases i with
  |zero=>
   injection hi with hi
   injection hi with e1 e2
   injection e2 with e2 e3
   subst e1 e2 e3
   refine⟨rfl,?_⟩
   cases cl with
   |nil=>exact⟨λc hc=>aZ.1 h1 c hc,λh=>by cases h⟩
   |cons b cl=>
    cases b with
    |true=>exact⟨λc hc=>sO (aZ.1 h1 c hc),λ_ c hc=>aZ.1 h1 c hc⟩
    |false=>exact⟨λc hc=>aZ.1 h1 c hc,λh=>by cases h⟩
  |succ i=>
   obtain⟨a1,a2,a3⟩:=k2 i T es l (by simpa using hi)
   refine⟨by simpa using a1,a2,λh=>a3 ?_⟩
   cases cl with
   |nil=>cases h
   |cons b cl=>simpa using h
theorem nofam {ρ:Pl}:∀b,Zf ρ n w b->Zf (⟨ρ.at',ρ.Z,[]⟩:Pl) n w b/\w.heap[b]? =w.heap[b]?:=λb h=>⟨⟨h.lt,h.no,h.z,λ⟨F,hF,_⟩=>by cases hF⟩,rfl⟩
theorem Kp.nofam {ρ:Pl}:Kp ρ n w ⟨ρ.at',ρ.Z,[]⟩ n w:=⟨aI _,λ_ _=>rfl,Go.Vy.nofam⟩
theorem DnW.nofam {ρ0 ρ:Pl} {w0:World} {bl:BL} (h:DnW ρ0 w0 nb bl ρ w):DnW ρ0 w0 nb bl ⟨ρ.at',ρ.Z,[]⟩ w:=
 ⟨λi T es l hi=>(h.ok i T es l hi).kp Kp.nofam (eP hi) λ_ _=>rfl,h.inj,h.fr,h.nbl,⟨h.rel.os,h.rel.tape,h.rel.output,h.rel.size,h.rel.block⟩,h.pl,h.zz,⟨λF hF=>(by cases hF),λi b _ _ ⟨F,hF,_⟩=>(by cases hF),λf f' F F' j j' b hf=>(by cases hf)⟩,λb ⟨F,hF,_⟩=>(by cases hF)⟩
theorem cM {cl:List Bool} {s:SS} {d:DV} {o:Out} (hd:EqD d o.d) (hs:scD nb o.d=true) (hb:bOd cl nb nb s.bl o.bl):Fin cl nb s d o:=λρ0 w0 ρ w v hD0 _ hv0=>by
 obtain⟨k1,k2⟩:=aTa hb
 have k3:o.F.bl.length=nb:=k1
 have hD:=hD0.nofam
 have hv:=hv0.kp Kp.nofam
 refine⟨⟨ρ.at',ρ.Z,[]⟩,⟨λi T es l hi=>?_,λi j b hi hj=>hD.inj i j b ?_ ?_,λi b h1 h2=>?_,?_,hD.rel,hD.pl,hD.zz,⟨λF hF=>(by cases hF),λi b _ _ ⟨F,hF,_⟩=>(by cases hF),λf f' F F' j j' b hf=>(by cases hf)⟩,λb ⟨F,hF,_⟩=>(by cases hF)⟩,?_,λi T es l hi hc=>(k2 i T es l hi).2.2 hc,rfl⟩
 ·obtain⟨a1,a2,_⟩:=k2 i T es l hi
  have hq:=hD.ok i T es l a1
  rw[k1]
  unfold Bq at hq ⊢
  cases hb:(ρ i).1 with
  |none=>simp only[hb] at hq ⊢;exact hq
  |some b=>
   simp only[hb] at hq ⊢
   obtain⟨vl,junk,q1,q2,q3⟩:=hq
   exact⟨vl,junk,q1,q2.less a2 hD.nbl,q3⟩
 ·have:=hD.nbl;omega
 ·have:=hD.nbl;omega
 ·omega
 ·omega
 rw[k1];exact(hd.hd hv).less hs hD.nbl
end fin
theorem oM {p:Prop} (h:p:=by omega):p:=h
theorem bL {a b:Nat} (h:Nat.ble a b=true:=by rfl):a<=b:=bN h
theorem wi {a z:Int} (h:(a=z/\-9223372036854775808<=z/\z<=9223372036854775807):=by (first|omega|(simp only[maxLen] at*;omega))):a=IntKind.i64.wrap z:=by rw[jS h.2];exact h.1
def rn:List (Nat×Nat)->Nat->Bool
 |[],_=>false
 |(a,b)::l,t=>(Nat.ble a t&&Nat.ble t b)||rn l t
theorem ClB.one {T es:Nat} {l:List CV} (h:l.all iP=true):ClB [true] [(T,es,l)]:=λi T' es' l' hi _ c hc=>by
 cases i with
 |zero=>injection hi with hi;injection hi with _ hi;injection hi with _ hi;subst hi;exact aZ.1 h c hc
 |succ i=>cases hi
theorem ClB.nil:ClB [] []:=λi T' es' l' hi _ c hc=>by cases hi
theorem ClB.cons {b:Bool} {cl:List Bool} {T es:Nat} {l:List CV} {bl:BL} (h:b=true->l.all iP=true) (hb:ClB cl bl):ClB (b::cl) ((T,es,l)::bl):=λi T' es' l' hi hc c hcc=>by
 cases i with
 |zero=>injection hi with hi;injection hi with _ hi;injection hi with _ hi;injection hc with hc;subst hi hc;exact aZ.1 (h rfl) c hcc
 |succ i=>exact hb i T' es' l' (by simpa using hi) (by simpa using hc) c hcc
theorem HL.cons {ρ:Pl} {n:Nat} {w:World} {d d':DV} {l l':List DV} (hd:∀v,Hd ρ n w d' v->Hd ρ n w d v) (hl:∀vl,HL ρ n w l' vl->HL ρ n w l vl):∀vl,HL ρ n w (d'::l') vl->HL ρ n w (d::l) vl
 |[],h=>h
 |v::vl,h=>⟨hd v h.1,hl vl h.2⟩
section
variable {P:Program} {nb N:Nat} {cd:Code} {K:Kt} {s:SS}
theorem aWe (t:Nat) {A:Option Addr} {n c e:Nat} {get:Nat->List CV} (ht:iM s.sl t=some (.c (.r A n c e get))) (h:n<=maxLen->Sd P nb N cd K s):Sd P nb N cd K s:=λρ0 w0 ρ f w Q hL hD=>by
 have:=(hD.f.sl t _ ht).inv_c.inv_r.2
 refine h ?_ ρ0 w0 ρ f w Q hL hD
 cases this with
 |nil=>exact aF _
 |r b o n c e get V hc hm=>omega
theorem aKg (t:Nat) (T es:Nat) (ht:iM s.sl t=some (.c (.v (.slice none 0 0)))) (hes:0<es) (h:uV s.bl (T,es,[]) λbl'=>Sd P nb N cd K ⟨(t,.c (.s (cnt s.bl 0) 0))::s.sl,s.gl,bl',s.fl⟩):Sd P nb N cd K s:=λρ0 w0 ρ f w Q hL hD=>by
 have h':=oU h
 rw[zS] at h'
 have hp:∀b,((none,0):Option Nat×Nat).1=some b->w.heap.size<=b:=λb hb=>by cases hb
 have kp:Kp ρ s.bl.length w (xU ρ s.bl.length (none,0)) (s.bl.length+1) w:=Kp.new hp (gE w)
 have hn:(s.bl++[(T,es,[])]).length=s.bl.length+1:=by simp
 refine h' ρ0 w0 (xU ρ s.bl.length (none,0)) f w Q hL ⟨hD.m.new hp (gE w) ?_,⟨λt' d ht'=>?_,λt' gs d ht'=>?_⟩,hD.l⟩
 ·unfold Bq
  rw[mA]
  exact⟨rfl,rfl,hes⟩
 ·show Hd _ (s.bl++[(T,es,[])]).length w d (f t')
  rw[hn]
  simp only[iM] at ht'
  cases hb:Nat.beq t t' with
  |true=>
   rw[hb] at ht'
   injection ht' with ht'
   subst ht'
   have:=aO hb
   subst this
   have he:=(hD.f.sl t _ ht).inv_c.inv_v
   refine .c ⟨dK _,?_⟩
   rw[mA,he]
   rfl
  |false=>rw[hb] at ht';exact(hD.f.sl t' d ht').kp kp
 show(_->Hd _ (s.bl++[(T,es,[])]).length w d (f t'))/\_
 rw[hn]
 exact⟨λhs=>((hD.f.gl t' gs d ht').1 hs).kp kp,(hD.f.gl t' gs d ht').2⟩
/-! ### a loop whose rounds have blocks of their own -/
def aNn:BL->BL->Prop
 |_,[]=>True
 |x::l,[y]=>x=y
 |x::l,y::m=>x=y/\aNn l m
 |[],_::_=>False
theorem xE:∀{bl bl':BL},aNn bl bl'->∃r,bl=bl'++r
 |bl,[],_=>⟨bl,rfl⟩
 |[],[_],h=>h.elim
 |[],_::_::_,h=>h.elim
 |x::l,[y],h=>⟨l,by rw[show x=y from h];rfl⟩
 |x::l,y::z::m,h=>by
  obtain⟨h1,h2⟩:=h
  obtain⟨r,hr⟩:=xE h2
  exact⟨r,by rw[h1,hr];rfl⟩
def scB (n:Nat) (bl:BL):Prop:=∀(i:Nat) (T:TypeId) (es:Nat) (l:List CV),bl[i]? =some (T,es,l)->∀c∈l,scC n c=true
theorem scB.nil {n:Nat}:scB n []:=λi T es l h=>by cases h
theorem scB.cons {n T es:Nat} {l:List CV} {bl:BL} (h:l.all (scC n)=true) (hb:scB n bl):scB n ((T,es,l)::bl):=λi T' es' l' hi c hc=>by
 cases i with
 |zero=>injection hi with hi;injection hi with _ hi;injection hi with _ hi;subst hi;exact aZ.1 h c hc
 |succ i=>exact hb i T' es' l' (by simpa using hi) c hc
theorem DnW.drop {ρ0 ρ:Pl} {w0 w:World} {bl r:BL} (hD:DnW ρ0 w0 nb (bl++r) ρ w) (hs:scB bl.length bl) (hnb:nb<=bl.length):DnW ρ0 w0 nb bl ρ w:=by
 have hn:bl.length<=(bl++r).length:=by simp
 refine⟨λi T es l hi=>?_,λi j b hi hj=>hD.inj i j b oM oM,λi b h1 h2=>hD.fr i b h1 oM,hnb,hD.rel,hD.pl,hD.zz,hD.fam.mono rfl (λb hb=>⟨hb.less hn,rfl⟩) (λ_ _=>rfl) λi b hi hb=>hD.fam.own i b oM hb,hD.ffr⟩
 have hq:=hD.ok i T es l (by rw[bW (eP hi)];exact hi)
 unfold Bq at hq ⊢
 cases hb:(ρ i).1 with
 |none=>simp only[hb] at hq ⊢;exact hq
 |some b=>
  simp only[hb] at hq ⊢
  obtain⟨vl,junk,q1,q2,q3⟩:=hq
  exact⟨vl,junk,q1,q2.less (hs i T es l hi) hn,q3⟩
def MtD (M:Nat->Bool) (base:List (Nat×DV)) (fl:List Fam) (s:SS) (chg:List (Nat×DV)) (bl:BL):Prop:=yM M base fl s.fl s.sl/\aNn s.bl bl/\AllC s.sl chg
theorem yO {n:Nat} {l:List (Nat×DV)} (h:l.all (λe=>scD n e.2)=true) {t:Nat} {d:DV} (ht:iM l t=some d):scD n d=true:=by
 induction l with
 |nil=>cases ht
 |cons e l ih=>
  obtain⟨t0,d0⟩:=e
  simp only[List.all_cons,aQ] at h
  unfold iM at ht
  cases hb:Nat.beq t0 t with
  |true=>rw[hb] at ht;injection ht with ht;subst ht;exact h.1
  |false=>rw[hb] at ht;exact ih h.2 ht
theorem aCb {s s':SS} {r:BL} (hb:s.bl=s'.bl++r) (hl:s.fl=s'.fl) (hg:s'.gl=[]) (hsc:scB s'.bl.length s'.bl) (h:∀t d,iM s'.sl t=some d->(∃d0,iM s.sl t=some d0/\EqD d0 d)/\scD s'.bl.length d=true):∀ρ0 w0 nb ρ f w,nb<=s'.bl.length->Dn ρ0 w0 nb s ρ f w->Dn ρ0 w0 nb s' ρ f w:=λρ0 w0 nb ρ f w hnb hD=>by
 have hm:=hD.m
 rw[hb] at hm
 refine⟨hm.drop hsc hnb,⟨λt d ht=>?_,λt gs d ht=>?_⟩,hD.l.trans hl⟩
 ·obtain⟨⟨d0,h1,h2⟩,h3⟩:=h t d ht
  have:=h2.hd (hD.f.sl t d0 h1)
  rw[hb] at this
  exact this.less h3 (by simp)
 rw[hg] at ht;cases ht
theorem bOe {c:Code} (M:Nat->Bool) {σ:Type} (n0:Nat) (chg:σ->List (Nat×DV)) (bls:σ->BL) (C:σ->Prop) (μ:σ->Nat) (g0:σ) (hn:∀g,(bls g).length=n0) (hnb:nb<=n0) (hsc:∀g,scB n0 (bls g)) (hcg:∀g,(chg g).all (λe=>scD n0 e.2)=true)
 (h:yL M s.sl λbase=>(base.all (λe=>scD n0 e.2)=true/\C g0/\aNn s.bl (bls g0)/\AllC s.sl (chg g0))/\∀g,C g->Sd P nb N c ⟨λs'=>∃g',(C g'/\μ g'<μ g)/\MtD M base s.fl s' (chg g') (bls g'),K.ext,K.ret⟩ ⟨chg g++base,[],bls g,s.fl⟩):Sd P nb N (.loop c) K s:=by
 obtain⟨base,⟨⟨hbs,h0,hb,ha⟩,hr⟩,hk⟩:=tX h
 have hall:∀g t d,iM (chg g++base) t=some d->scD n0 d=true:=λg t d ht=>by
  rcases sI ht with h1|⟨_,h2⟩
  ·exact yO (hcg g) h1
  exact yO hbs h2
 intro ρ0 w0 ρ f w Q hL hD
 refine oP (σ:=σ) (λg f w=>C g/\∃ρ,Dn ρ0 w0 nb ⟨chg g++base,[],bls g,s.fl⟩ ρ f w) μ g0 ⟨h0,ρ,?_⟩ λg f w ⟨hc,ρ,hD⟩=>?_
 ·obtain⟨r,hr'⟩:=xE hb
  refine aCb (s:=s) (s':=⟨chg g0++base,[],bls g0,s.fl⟩) (r:=r) hr' rfl rfl (by rw[hn];exact hsc g0) (λt d ht=>⟨?_,by rw[hn];exact hall g0 t d ht⟩) ρ0 w0 nb ρ f w (by rw[hn];exact hnb) hD
  rcases sI ht with h1|⟨h1,h2⟩
  ·exact ha.get h1
  exact⟨d,(hk t d h2).1,.refl d⟩
 refine hr g hc ρ0 w0 ρ f w _ ⟨λs' ρ' f' w' ⟨g',⟨hc',hlt⟩,hm⟩ hD'=>⟨g',⟨hc',ρ',?_⟩,hlt⟩,hL.ext,hL.ret⟩ hD
 obtain⟨r,hr'⟩:=xE hm.2.1
 refine aCb (s:=s') (s':=⟨chg g'++base,[],bls g',s.fl⟩) (r:=r) hr' (sH hm.1).2 rfl (by rw[hn];exact hsc g') (λt d ht=>⟨?_,by rw[hn];exact hall g' t d ht⟩) ρ0 w0 nb ρ' f' w' (by rw[hn];exact hnb) hD'
 rcases sI ht with h1|⟨h1,h2⟩
 ·exact hm.2.2.get h1
 exact⟨d,by rw[(sH hm.1).1 t (hk t d h2).2];exact h2,.refl d⟩
end
end Go.Vy
abbrev cD := @Go.Vy.ClB.nil
abbrev bM := @Go.Vy.scB.nil
abbrev aD := @Go.Vy.scB.cons
