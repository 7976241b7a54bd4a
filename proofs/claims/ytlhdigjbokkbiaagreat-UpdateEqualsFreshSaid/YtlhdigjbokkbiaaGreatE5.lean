/- For every input the law UpdateEqualsFresh returns true, and what came in reads as it did. Part 5 of 7: Vyo Vyp Tb Vyq Vyr Vys Vyu Vyv Ua Da Db Dc Dd De Df Dg Ub Uc Ud Ue Uf Ug Uh. -/
import Derived.Laws.StructEq
import Derived.ChangeKeysEq
import Derived.KernelRfl
import Derived.Test.YtlhdigjbokkbiaaGreatRows
import Derived.RangeFuncSeq
import Derived.RangeFuncLeaves
import Derived.Test.YtlhdigjbokkbiaaGreatE4
set_option maxHeartbeats 4000000
set_option linter.unusedVariables false
set_option linter.unusedSimpArgs false
namespace Go.Vy
open Go.Vg Go.RowKit
def Tgt (nb:Nat) (X:SS->Prop):Prop:=∀(s:SS) (σ:Type) (S:σ->SS) (C:σ->Prop),Gt nb s S C->(∀g,C g->X (S g))->X s
section gt
variable {P:Program} {nb N:Nat} {cd c:Code} {K:Kt} {s:SS} {X:SS->Prop}
theorem tSd:Tgt nb (Sd P nb N cd K):=λs σ S C h hk ρ0 w0 ρ f w Q hL hD=>by
 obtain⟨g,ρ',hC,hD'⟩:=h ρ0 w0 ρ f w hD
 exact hk g hC ρ0 w0 ρ' f w Q hL hD'
theorem tGt {σ:Type} {S:σ->SS} {C:σ->Prop}:Tgt nb λs=>Gt nb s S C:=λs σ S C h hk ρ0 w0 ρ f w hD=>by
 obtain⟨g,ρ',hC,hD'⟩:=h ρ0 w0 ρ f w hD
 exact hk g hC ρ0 w0 ρ' f w hD'
theorem Tgt.one (hX:Tgt nb X) {s':SS} (h:∀ρ0 w0 ρ f w,Dn ρ0 w0 nb s ρ f w->∃ρ',Dn ρ0 w0 nb s' ρ' f w) (hk:X s'):X s:=
 hX s Unit (λ_=>s') (λ_=>True) (λρ0 w0 ρ f w hD=>by obtain⟨ρ',h'⟩:=h ρ0 w0 ρ f w hD;exact⟨(),ρ',trivial,h'⟩) λ_ _=>hk
theorem aKh (hX:Tgt nb X) (t i:Nat) {n T es:Nat} {l:List CV} (get:Nat->List CV) (ht:iM s.sl t=some (.c (.s i n))) (hb:s.bl[i]? =some (T,es,l)) (hg:∀j,j<n->get j=(l.drop (j*es)).take es) (hl:n*es=l.length) (hes:0<es) (hclo:∀c∈l,iP c=true) (hnb:nb<=i)
 (h:∀A c,n<=c->c<=maxLen->aAk i s λs'=>qE s'.bl i (T,es,[]) λbl'=>X ⟨(t,.c (.r A n c es get))::s'.sl,[],bl',s'.fl⟩):X s:=by
 refine hX s SS (λg=>g) X (λρ0 w0 ρ f w hD=>?_) λg hg=>hg
 obtain⟨A,c,s',ρ',k1,k2,_,k4,k5,k6⟩:=aGp hD i get (hD.f.sl t _ ht).inv_c hb hg hl hes hclo hnb (kk:=λA c s'=>X ⟨(t,.c (.r A n c es get))::s'.sl,[],s'.bl,s'.fl⟩) h
 refine⟨_,ρ',k1,k2.m,⟨λt' d ht'=>?_,λt' gs d ht'=>by cases ht'⟩,k2.l⟩
 simp only[iM] at ht'
 cases hb':Nat.beq t t' with
 |true=>
  rw[hb'] at ht'
  injection ht' with ht'
  subst ht'
  have:=aO hb'
  subst this
  rw[<-k4] at k6
  exact .c k6
 |false=>rw[hb'] at ht';exact k2.f.sl t' d ht'
theorem Hl.setv {ρ:Pl} {n:Nat} {w:World} {l:List CV} {vl:List Value} (h:Hl ρ n w l vl) {k:Nat} {c:CV} (hc:∀x,vl[k]? =some x->Hc ρ n w c x):Hl ρ n w (l.set k c) vl:=by
 refine Hl.of_get (by rw[bT,h.len]) λi c' u hc' hu=>?_
 rcases oT hc' with ⟨rfl,rfl,_⟩|⟨_,h2⟩
 ·exact hc u hu
 obtain⟨x,h3,h4⟩:=h.get h2
 rw[hu] at h3
 injection h3 with h3
 subst h3
 exact h4
theorem bLg (hX:Tgt nb X) (t k i:Nat) {n T es:Nat} {l:List CV} {r:List CV} (get:Nat->List CV) (ht:iM s.sl t=some (.a r)) (hk:r[k]? =some (.s i n)) (ho:((r.set k .u).all λc=>!nA i c)=true) (hb:s.bl[i]? =some (T,es,l)) (hg:∀j,j<n->get j=(l.drop (j*es)).take es) (hl:n*es=l.length) (hes:0<es) (hclo:∀c∈l,iP c=true) (hnb:nb<=i)
 (h:∀A c,n<=c->c<=maxLen->aAk i s λs'=>qE s'.bl i (T,es,[]) λbl'=>X ⟨(t,.a (r.set k (.r A n c es get)))::s'.sl,[],bl',s'.fl⟩):X s:=by
 refine hX s SS (λg=>g) X (λρ0 w0 ρ f w hD=>?_) λg hg=>hg
 obtain⟨vl,hvl,hrl⟩:=(hD.f.sl t _ ht).inv_a
 obtain⟨x,hx,hcx⟩:=hrl.get hk
 obtain⟨A,c,s',ρ',k1,k2,k3,k4,k5,k6⟩:=aGp hD i get hcx hb hg hl hes hclo hnb (kk:=λA c s'=>X ⟨(t,.a (r.set k (.r A n c es get)))::s'.sl,[],s'.bl,s'.fl⟩) h
 refine⟨_,ρ',k1,k2.m,⟨λt' d ht'=>?_,λt' gs d ht'=>by cases ht'⟩,k2.l⟩
 simp only[iM] at ht'
 cases hb':Nat.beq t t' with
 |true=>
  rw[hb'] at ht'
  injection ht' with ht'
  subst ht'
  have:=aO hb'
  subst this
  rw[<-k4] at k6
  rw[hvl]
  refine .a ?_
  have h1:Hl ρ' s'.bl.length w (r.set k .u) vl:=by
   rw[k4]
   refine Hl.kx (ρ:=ρ) (w:=w) (hrl.setv λx _=>Rc.u x) k3 λc hc=>?_
   have:=aZ.1 ho c hc
   simpa using this
  have h2:=h1.setv (k:=k) (c:=.r A n c es get) λy hy=>by
   rw[hx] at hy
   injection hy with hy
   subst hy
   exact k6
  rwa [List.set_set] at h2
 |false=>rw[hb'] at ht';exact k2.f.sl t' d ht'
theorem aKi (t i:Nat) {n T es:Nat} {l:List CV} (get:Nat->List CV) (ht:iM s.sl t=some (.c (.s i n))) (hb:s.bl[i]? =some (T,es,l)) (hg:∀j,j<n->get j=(l.drop (j*es)).take es) (hl:n*es=l.length) (hes:0<es) (hclo:∀c∈l,iP c=true) (hnb:nb<=i)
 (h:∀A c,n<=c->c<=maxLen->aAk i s λs'=>qE s'.bl i (T,es,[]) λbl'=>Sd P nb N cd K ⟨(t,.c (.r A n c es get))::s'.sl,[],bl',s'.fl⟩):Sd P nb N cd K s:=aKh tSd t i get ht hb hg hl hes hclo hnb h
/-! ### families said otherwise -/
def Inj (fl:List Fam):Prop:=∀(f f':Nat) (F F':Fam) (j j' b:Nat),fl[f]? =some F->fl[f']? =some F'->j<F.N->j'<F'.N->F.A j=some b->F'.A j'=some b->f=f'/\j=j'
structure Fsub (fl fl':List Fam):Prop where
 sub:∀(f':Nat) (F':Fam),fl'[f']? =some F'->0<F'.es/\∀j',j'<F'.N->(F'.A j'=none/\F'.get j'=[]/\F'.cap j'=0)\/∃(f:Nat) (F:Fam) (j:Nat),fl[f]? =some F/\j<F.N/\F.A j=F'.A j'/\F.cap j=F'.cap j'/\F.get j=F'.get j'/\F.T=F'.T/\F.es=F'.es
 inj:Inj fl->Inj fl'
theorem Dn.fsub {ρ0 ρ:Pl} {w0 w:World} {f:Nat->Value} (hD:Dn ρ0 w0 nb s ρ f w) {fl':List Fam} (hs:Fsub s.fl fl'):∃ρ',Dn ρ0 w0 nb ⟨s.sl,s.gl,s.bl,fl'⟩ ρ' f w:=by
 have hl:=hD.l
 have hin:∀b,InL fl' b->InF ρ b:=λb ⟨F',hF',j',hj',hb⟩=>by
  obtain⟨f',hf'⟩:=dD hF'
  rcases (hs.sub f' F' hf').2 j' hj' with ⟨h1,_⟩|⟨f0,F,j,h1,h2,h3,_⟩
  ·rw[h1] at hb;cases hb
  exact⟨F,by rw[hl];exact aX h1,j,h2,by rw[h3];exact hb⟩
 have hz:∀b,Zf ρ s.bl.length w b->Zf ⟨ρ.at',ρ.Z,fl'⟩ s.bl.length w b/\w.heap[b]? =w.heap[b]?:=λb hb=>⟨⟨hb.lt,hb.no,hb.z,λhi=>hb.nf (hin b hi)⟩,rfl⟩
 have kp:Kp ρ s.bl.length w ⟨ρ.at',ρ.Z,fl'⟩ s.bl.length w:=⟨aI _,λ_ _=>rfl,hz⟩
 refine⟨⟨ρ.at',ρ.Z,fl'⟩,⟨λi T es l hi=>(hD.m.ok i T es l hi).kp kp (eP hi) λ_ _=>rfl,hD.m.inj,hD.m.fr,hD.m.nbl,⟨hD.m.rel.os,hD.m.rel.tape,hD.m.rel.output,hD.m.rel.size,hD.m.rel.block⟩,hD.m.pl,hD.m.zz,⟨λF hF=>?_,λi b hi hb hf=>hD.m.fam.own i b hi hb (hin b hf),?_⟩,λb hb=>hD.m.ffr b (hin b hb)⟩,hD.f.kp rfl rfl kp,rfl⟩
 ·obtain⟨f',hf'⟩:=dD hF
  refine⟨(hs.sub f' F hf').1,λj' hj'=>?_⟩
  rcases (hs.sub f' F hf').2 j' hj' with ⟨h1,h2,h3⟩|⟨f0,F0,j,h1,h2,h3,h4,h5,h6,h7⟩
  ·unfold Mq
   simp only[h1]
   exact⟨h2,h3⟩
  have:=(hD.m.fam.mem hl h1 h2).mono hz λ_ _=>rfl
  unfold Mq at this ⊢
  rw[h3,h4,h5,h6,h7] at this
  exact this
 exact hs.inj (by have:=hD.m.fam.inj;rw[hl] at this;exact this)
theorem Tgt.fsub (hX:Tgt nb X) {fl':List Fam} (hs:Fsub s.fl fl') (hk:X ⟨s.sl,s.gl,s.bl,fl'⟩):X s:=hX.one (λ_ _ _ _ _ hD=>hD.fsub hs) hk
def aAt (F:Fam):Fam:=⟨F.T,F.es,0,F.A,F.cap,F.get⟩
theorem aGx {ρ0 ρ:Pl} {w0 w:World} {f:Nat->Value} (hD:Dn ρ0 w0 nb s ρ f w) {g:Nat} {F:Fam} (h:s.fl[g]? =some F):0<F.es:=(hD.m.fam.ok F (by rw[hD.l];exact aX h)).1
theorem bAp (hX:Tgt nb X) (T es N:Nat) (hes:0<es) (h:uV s.fl ⟨T,es,N,λ_=>none,λ_=>0,λ_=>[]⟩ λfl'=>X ⟨s.sl,s.gl,s.bl,fl'⟩):X s:=by
 refine hX s Unit (λ_=>⟨s.sl,s.gl,s.bl,s.fl++[⟨T,es,N,λ_=>none,λ_=>0,λ_=>[]⟩]⟩) (λ_=>True) (λρ0 w0 ρ f w hD=>?_) λ_ _=>oU h
 have hs:Fsub s.fl (s.fl++[⟨T,es,N,λ_=>none,λ_=>0,λ_=>[]⟩]):=⟨λf' F' hf'=>?_,λhi f1 f2 F1 F2 j1 j2 b h1 h2 h3 h4 h5 h6=>?_⟩
 ·obtain⟨ρ',h'⟩:=hD.fsub hs
  exact⟨(),ρ',trivial,h'⟩
 ·rcases tS hf' with ⟨_,rfl⟩|⟨_,h2⟩
  ·exact⟨hes,λj' _=> .inl ⟨rfl,rfl,rfl⟩⟩
  exact⟨aGx hD h2,λj' hj'=> .inr ⟨f',F',j',h2,hj',rfl,rfl,rfl,rfl,rfl⟩⟩
 rcases tS h1 with ⟨_,rfl⟩|⟨_,h1'⟩
 ·cases h5
 rcases tS h2 with ⟨_,rfl⟩|⟨_,h2'⟩
 ·cases h6
 exact hi f1 f2 F1 F2 j1 j2 b h1' h2' h3 h4 h5 h6
theorem bUa (hX:Tgt nb X) (f g j:Nat) {F G:Fam} (hf:s.fl[f]? =some F) (hg:s.fl[g]? =some G) (hne:Nat.beq f g=false) (hj:j<F.N) (hA:F.A j=none) (hG:0<G.N) (hT:G.T=F.T) (hes:G.es=F.es)
 (h:qE s.fl f ⟨F.T,F.es,F.N,upd F.A j (G.A 0),upd F.cap j (G.cap 0),upd F.get j (G.get 0)⟩ λfl1=>qE fl1 g (aAt G) λfl2=>X ⟨s.sl,s.gl,s.bl,fl2⟩):X s:=by
 have hne':f≠g:=λe=>by subst e;rw[iX] at hne;cases hne
 have hk:=kL (kL h)
 have hfl:f<s.fl.length:=eP hf
 have hgl:g<s.fl.length:=eP hg
 have hat:∀(x:Nat) (Y:Fam),((s.fl.set f ⟨F.T,F.es,F.N,upd F.A j (G.A 0),upd F.cap j (G.cap 0),upd F.get j (G.get 0)⟩).set g (aAt G))[x]? =some Y->(x=g/\Y=aAt G)\/(x=f/\Y=⟨F.T,F.es,F.N,upd F.A j (G.A 0),upd F.cap j (G.cap 0),upd F.get j (G.get 0)⟩)\/(x≠g/\x≠f/\s.fl[x]? =some Y):=λx Y hx=>by
  rcases tH hx (by rw[bT];exact hgl) with h1|⟨h1,h2⟩
  ·exact .inl h1
  rcases tH h2 hfl with h3|⟨h3,h4⟩
  ·exact .inr (.inl h3)
  exact .inr (.inr ⟨h1,h3,h4⟩)
 refine hX s Unit (λ_=>⟨s.sl,s.gl,s.bl,_⟩) (λ_=>True) (λρ0 w0 ρ f0 w hD=>?_) λ_ _=>hk
 have hs:Fsub s.fl ((s.fl.set f ⟨F.T,F.es,F.N,upd F.A j (G.A 0),upd F.cap j (G.cap 0),upd F.get j (G.get 0)⟩).set g (aAt G)):=⟨λf' F' hf'=>?_,λhi f1 f2 F1 F2 j1 j2 b h1 h2 h3 h4 h5 h6=>?_⟩
 ·obtain⟨ρ',h'⟩:=hD.fsub hs
  exact⟨(),ρ',trivial,h'⟩
 ·rcases hat f' F' hf' with ⟨_,rfl⟩|⟨_,rfl⟩|⟨_,_,h3⟩
  ·exact⟨show 0<G.es from aGx hD hg,λj' hj'=>absurd hj' (aV _)⟩
  ·refine⟨show 0<F.es from aGx hD hf,λj' hj'=> .inr ?_⟩
   by_cases e:j'=j
   ·subst e;exact⟨g,G,0,hg,hG,cN.symm,cN.symm,cN.symm,hT,hes⟩
   exact⟨f,F,j',hf,hj',(cJ e).symm,(cJ e).symm,(cJ e).symm,rfl,rfl⟩
  exact⟨aGx hD h3,λj' hj'=> .inr ⟨f',F',j',h3,hj',rfl,rfl,rfl,rfl,rfl⟩⟩
 have src:∀(x:Nat) (Y:Fam) (y:Nat),((s.fl.set f ⟨F.T,F.es,F.N,upd F.A j (G.A 0),upd F.cap j (G.cap 0),upd F.get j (G.get 0)⟩).set g (aAt G))[x]? =some Y->y<Y.N->Y.A y=some b->(x=f/\y=j/\G.A 0=some b)\/(x≠g/\∃Y0:Fam,s.fl[x]? =some Y0/\y<Y0.N/\Y0.A y=some b):=λx Y y hx hy hb=>by
  rcases hat x Y hx with ⟨_,rfl⟩|⟨rfl,rfl⟩|⟨a1,_,a3⟩
  ·exact absurd hy (aV _)
  ·by_cases e:y=j
   ·subst e
    have hb':G.A 0=some b:=by rw[<-hb];exact cN.symm
    exact .inl ⟨rfl,rfl,hb'⟩
   have hb':F.A y=some b:=by rw[<-hb];exact(cJ e).symm
   exact .inr ⟨hne',F,hf,hy,hb'⟩
  exact .inr ⟨a1,Y,a3,hy,hb⟩
 rcases src f1 F1 j1 h1 h3 h5 with ⟨a1,a2,a3⟩|⟨a0,Y1,a1,a2,a3⟩<;>rcases src f2 F2 j2 h2 h4 h6 with ⟨c1,c2,c3⟩|⟨c0,Y2,c1,c2,c3⟩
 ·exact⟨a1.trans c1.symm,a2.trans c2.symm⟩
 ·exact absurd (hi f2 g Y2 G j2 0 b c1 hg c2 hG c3 a3).1 c0
 ·exact absurd (hi f1 g Y1 G j1 0 b a1 hg a2 hG a3 c3).1 a0
 exact hi f1 f2 Y1 Y2 j1 j2 b a1 c1 a2 c2 a3 c3
theorem bUb (hX:Tgt nb X) (f:Nat) {F:Fam} (hf:s.fl[f]? =some F) (h:(∀j,j<F.N->F.get j≠[]->∃b,F.A j=some b)->X s):X s:=by
 refine hX s Unit (λ_=>s) (λ_=>∀j,j<F.N->F.get j≠[]->∃b,F.A j=some b) (λρ0 w0 ρ f0 w hD=>⟨(),ρ,λj hj hne=>?_,hD⟩) λ_=>h
 have hm:=hD.m.fam.mem hD.l hf hj
 unfold Mq at hm
 cases hA:F.A j with
 |none=>simp only[hA] at hm;exact absurd hm.1 hne
 |some b=>exact⟨b,rfl⟩
/-! ### cells said otherwise -/
def LeC (c c':CV):Prop:=∀ρ n w x,Hc ρ n w c x->Hc ρ n w c' x
theorem LeC.refl (c:CV):LeC c c:=λ_ _ _ _ h=>h
theorem LeC.nilh:LeC (.v (.slice none 0 0)) (.h none 0 0):=λρ n w x h=>by rw[h.inv_v];exact Rc.h none 0 0
theorem Hl.le {ρ:Pl} {n:Nat} {w:World} {l l':List CV} {vl:List Value} (h:Hl ρ n w l vl) (hl:l'.length=l.length) (hc:∀(k:Nat) (c c':CV),l[k]? =some c->l'[k]? =some c'->LeC c c'):Hl ρ n w l' vl:=by
 refine Hl.of_get (by rw[hl,h.len]) λi c' u hc' hu=>?_
 have hlt:i<l.length:=by rw[<-hl];exact eP hc'
 obtain⟨x,h1,h2⟩:=h.get (aK hlt)
 rw[hu] at h1
 injection h1 with h1
 subst h1
 exact hc i _ c' (aK hlt) hc' _ _ _ _ h2
theorem mM (hX:Tgt nb X) (i:Nat) {T es:Nat} {l:List CV} (l':List CV) (hb:s.bl[i]? =some (T,es,l)) (hl:l'.length=l.length) (hc:∀(k:Nat) (c c':CV),l[k]? =some c->l'[k]? =some c'->LeC c c') (h:qE s.bl i (T,es,l') λbl'=>X ⟨s.sl,s.gl,bl',s.fl⟩):X s:=by
 refine hX.one (s':=⟨s.sl,s.gl,s.bl.set i (T,es,l'),s.fl⟩) (λρ0 w0 ρ f w hD=>⟨ρ,⟨λj T2 e2 l2 hj=>?_,?_,?_,?_,hD.m.rel,hD.m.pl,hD.m.zz,?_,hD.m.ffr⟩,?_,hD.l⟩) (kL h)
 ·rw[bT]
  rcases oT hj with ⟨rfl,h2,_⟩|⟨_,h2⟩
  ·injection h2 with h2 h3
   injection h3 with h3 h4
   subst h2 h3 h4
   have hq:=hD.m.ok j _ _ l hb
   unfold Bq at hq ⊢
   cases hρ:(ρ j).1 with
   |none=>
    simp only[hρ] at hq ⊢
    exact⟨bX (by rw[hl,hq.1];rfl),hq.2⟩
   |some b=>
    simp only[hρ] at hq ⊢
    obtain⟨vl,junk,q1,q2,q3⟩:=hq
    exact⟨vl,junk,q1,q2.le hl hc,q3⟩
  exact hD.m.ok j T2 e2 l2 h2
 ·simpa using hD.m.inj
 ·simpa using hD.m.fr
 ·simpa using hD.m.nbl
 ·simp only[bT];exact hD.m.fam
 exact hD.f.kp rfl rfl (by simp only[bT];exact Kp.refl)
/-! ### an own slice becomes a family of one -/
def tD (i:Nat) (A:Option Nat) (a:Nat):CV->CV
 |.s j n=>bif Nat.beq j i then .h A n a else .s j n
 |.p j o=>bif Nat.beq j i then .u else .p j o
 |.t j o n=>bif Nat.beq j i then .u else .t j o n
 |.f q fi ca=>bif (fi++ca).any (λp=>Nat.beq p.1 i) then .u else .f q fi ca
 |c=>c
def bUc (φ:CV->CV):DV->DV
 |.c c=> .c (φ c)
 |.a l=> .a (l.map φ)
 |.t l=> .t (l.map λd=>match d with
  |.c c=> .c (φ c)
  |.a l=> .a (l.map φ)
  |.t _=> .c .u)
def aWf (φ:CV->CV):List (Nat×DV)->(List (Nat×DV)->Prop)->Prop
 |[],k=>k []
 |(t,d)::l,k=>aWf φ l λr=>k ((t,bUc φ d)::r)
def aIb (φ:CV->CV) (i:Nat):Nat->BL->(BL->Prop)->Prop
 |_,[],k=>k []
 |j,(T,es,l)::r,k=>bif Nat.beq j i then aIb φ i (j+1) r λr'=>k ((T,es,[])::r') else
  bif Nat.beq es 0 then aIb φ i (j+1) r λr'=>k ((T,es,l.map φ)::r') else ∃l',l.map φ=l'/\aIb φ i (j+1) r λr'=>k ((T,es,l')::r')
section map
variable {ρ ρ':Pl} {n:Nat} {w:World} {φ:CV->CV} (hφ:∀c x,Hc ρ n w c x->Hc ρ' n w (φ c) x)
include hφ
theorem Hl.mapc {l:List CV} {vl:List Value} (h:Hl ρ n w l vl):Hl ρ' n w (l.map φ) vl:=by
 induction l generalizing vl with
 |nil=>cases vl with
  |nil=>trivial
  |cons x vl=>exact h
 |cons c l ih=>cases vl with
  |nil=>exact h
  |cons x vl=>exact⟨hφ c x h.1,ih h.2⟩
theorem Hd.mapc {d:DV} {x:Value} (h:Hd ρ n w d x):Hd ρ' n w (bUc φ d) x:=by
 cases h with
 |c h=>exact .c (hφ _ _ h)
 |a h=>exact .a (h.mapc hφ)
 |t h hh=>
  refine .t (by simpa using h) λi d u h1 h2=>?_
  rw[fQ] at h1
  obtain⟨d0,h3,h4⟩:=Option.map_eq_some_iff.1 h1
  subst h4
  cases hh i d0 u h3 h2 with
  |c h=>exact .c (hφ _ _ h)
  |a h=>exact .a (h.mapc hφ)
  |t _ _=>exact .c (Rc.u _)
theorem aKj:∀{sl:List (Nat×DV)} {k:List (Nat×DV)->Prop},aWf φ sl k->∃sl',k sl'/\∀t d',iM sl' t=some d'->∃d,iM sl t=some d/\∀x,Hd ρ n w d x->Hd ρ' n w d' x
 |[],k,h=>⟨[],h,λt d' h=>by cases h⟩
 |(t0,d0)::l,k,h=>by
  obtain⟨sl',h1,h2⟩:=aKj (show aWf φ l _ from h)
  refine⟨_,h1,λt d' ht=>?_⟩
  unfold iM at ht ⊢
  cases hb:Nat.beq t0 t with
  |true=>simp only[hb,cond_true] at ht ⊢;injection ht with ht;subst ht;exact⟨d0,rfl,λx hx=>hx.mapc hφ⟩
  |false=>simp only[hb,cond_false] at ht ⊢;exact h2 t d' ht
theorem aCc {i:Nat}:∀{bl:BL} {j:Nat} {k:BL->Prop},aIb φ i j bl k->∃bl',k bl'/\bl'.length=bl.length/\∀(m:Nat) (T:TypeId) (es:Nat) (l':List CV),bl'[m]? =some (T,es,l')->∃l,bl[m]? =some (T,es,l)/\(j+m=i->l'=[])/\(j+m≠i->l'.length=l.length/\∀vl,Hl ρ n w l vl->Hl ρ' n w l' vl)
 |[],j,k,h=>⟨[],h,rfl,λm T es l' h=>by cases h⟩
 |(T0,es0,l0)::r,j,k,h=>by
  have step:∀l0' r',(∀(m:Nat) (T:TypeId) (es:Nat) (l':List CV),r'[m]? =some (T,es,l')->∃l,r[m]? =some (T,es,l)/\(j+1+m=i->l'=[])/\(j+1+m≠i->l'.length=l.length/\∀vl,Hl ρ n w l vl->Hl ρ' n w l' vl))->
   (j=i->l0'=[])->(j≠i->l0'.length=l0.length/\∀vl,Hl ρ n w l0 vl->Hl ρ' n w l0' vl)->
   ∀(m:Nat) (T:TypeId) (es:Nat) (l':List CV),((T0,es0,l0')::r')[m]? =some (T,es,l')->∃l,((T0,es0,l0)::r)[m]? =some (T,es,l)/\(j+m=i->l'=[])/\(j+m≠i->l'.length=l.length/\∀vl,Hl ρ n w l vl->Hl ρ' n w l' vl):=by
   intro l0' r' hr h1 h2 m T es l' hm
   cases m with
   |zero=>
    injection hm with hm
    injection hm with e1 e2
    injection e2 with e2 e3
    subst e1 e2 e3
    exact⟨l0,rfl,by simpa using h1,by simpa using h2⟩
   |succ m=>
    obtain⟨l,a1,a2,a3⟩:=hr m T es l' hm
    exact⟨l,a1,λhe=>a2 oM,λhe=>a3 oM⟩
  unfold aIb at h
  cases hb:Nat.beq j i with
  |true=>
   have e:=aO hb
   rw[hb] at h
   obtain⟨r',h1,h2,h3⟩:=aCc (show aIb φ i (j+1) r _ from h)
   exact⟨_,h1,by simp[h2],step [] r' h3 (λ_=>rfl) (λhne=>absurd e hne)⟩
  |false=>
   have hne:=pD hb
   rw[hb] at h
   simp only[cond_false] at h
   cases hz:Nat.beq es0 0 with
   |true=>
    rw[hz] at h
    obtain⟨r',h1,h2,h3⟩:=aCc (show aIb φ i (j+1) r _ from h)
    exact⟨_,h1,by simp[h2],step _ r' h3 (λhe=>absurd he hne) λ_=>⟨by simp,λvl hl=>hl.mapc hφ⟩⟩
   |false=>
    rw[hz] at h
    obtain⟨l',h0,h⟩:=h
    subst h0
    obtain⟨r',h1,h2,h3⟩:=aCc h
    exact⟨_,h1,by simp[h2],step _ r' h3 (λhe=>absurd he hne) λ_=>⟨by simp,λvl hl=>hl.mapc hφ⟩⟩
end map
theorem Hc.sink {ρ ρ':Pl} {n i:Nat} {w:World} (k:Kx i ρ n w ρ' w) {A:Option Nat} {a:Nat} (hp:ρ i=(A,a)) (c:CV) (x:Value) (h:Hc ρ n w c x):Hc ρ' n w (tD i A a c) x:=by
 cases hm:nA i c with
 |false=>
  have e:tD i A a c=c:=by
   cases c with
   |s j m=>simp only[nA] at hm;simp only[tD,hm,cond_false]
   |p j o=>simp only[nA] at hm;simp only[tD,hm,cond_false]
   |t j o m=>simp only[nA] at hm;simp only[tD,hm,cond_false]
   |f q fi ca=>simp only[nA] at hm;simp only[tD,hm,cond_false]
   |_=>rfl
  rw[e]
  exact h.kx k hm
 |true=>
  cases c with
  |s j m=>
   simp only[nA] at hm
   simp only[tD,hm,cond_true]
   have:=aO hm
   subst this
   obtain⟨_,h2⟩:=h
   rw[h2,hp]
   exact Rc.h A m a
  |p j o=>simp only[nA] at hm;simp only[tD,hm,cond_true];exact Rc.u x
  |t j o m=>simp only[nA] at hm;simp only[tD,hm,cond_true];exact Rc.u x
  |f q fi ca=>simp only[nA] at hm;simp only[tD,hm,cond_true];exact Rc.u x
  |u=>cases hm
  |v y=>cases hm
  |h A n c=>cases hm
  |hp b o=>cases hm
  |b p q=>cases hm
  |r A m c e get=>cases hm
  |q A m c e get j o=>cases hm
theorem aIt {ρ:Pl} {n:Nat} {w:World} {c:CV} {x:Value} (h:Hc ρ n w c x) (hc:iP c=true):Rc (Zf ρ n w) w c x:=by
 cases c with
 |u=>exact h
 |v y=>exact h
 |h A n c=>exact h
 |hp b o=>exact h
 |b p q=>exact h
 |r A m c e get=>exact h
 |p i o=>cases hc
 |s i m=>cases hc
 |q A m c e get j o=>cases hc
 |t i o m=>cases hc
 |f k fi ca=>cases hc
theorem aCd (hX:Tgt nb X) (i:Nat) {T es:Nat} {l:List CV} (hb:s.bl[i]? =some (T,es,l)) (hes:0<es) (hclo:∀c∈l,iP c=true) (hnb:nb<=i) (hgl:s.gl=[])
 (h:∀A a,aWf (tD i A a) s.sl λsl'=>aIb (tD i A a) i 0 s.bl λbl'=>uV s.fl ⟨T,es,1,λ_=>A,λ_=>a,λ_=>l⟩ λfl'=>X ⟨sl',[],bl',fl'⟩) (hft:Nat.ble T 999999=true:=by rfl):X s:=by
 refine hX s (Option Nat×Nat×List (Nat×DV)×BL) (λg=>⟨g.2.2.1,[],g.2.2.2,s.fl++[⟨T,es,1,λ_=>g.1,λ_=>g.2.1,λ_=>l⟩]⟩) (λg=>X ⟨g.2.2.1,[],g.2.2.2,s.fl++[⟨T,es,1,λ_=>g.1,λ_=>g.2.1,λ_=>l⟩]⟩) (λρ0 w0 ρ f w hD=>?_) λg hg=>hg
 have hi:i<s.bl.length:=eP hb
 have hq:=hD.m.ok i T es l hb
 let Fn:Fam:=⟨T,es,1,λ_=>(ρ i).1,λ_=>(ρ i).2,λ_=>l⟩
 let ρ':Pl:=⟨λj=>if j=i then (none,0) else ρ j,ρ.Z,s.fl++[Fn]⟩
 have hρi:ρ' i=(none,0):=if_pos rfl
 have hρj:∀j,j≠i->ρ' j=ρ j:=λj hj=>if_neg hj
 have hin:∀b,InF ρ' b->InF ρ b\/(ρ i).1=some b:=λb ⟨F,hF,j,hj,hA⟩=>by
  rcases bB.1 hF with hF|hF
  ·exact .inl ⟨F,by rw[hD.l];exact hF,j,hj,hA⟩
  rw[aT.1 hF] at hA;exact .inr hA
 have kx:Kx i ρ s.bl.length w ρ' w:=⟨λj _ hj=>hρj j hj,λb hbz=>⟨⟨hbz.lt,λj hj=>?_,hbz.z,λhf=>?_⟩,rfl⟩,λ_ _ _ _ _=>rfl⟩
 ·obtain⟨sl',k1,k2⟩:=aKj (ρ:=ρ) (ρ':=ρ') (n:=s.bl.length) (w:=w) (Hc.sink kx rfl) (h (ρ i).1 (ρ i).2)
  obtain⟨bl',k3,k4,k5⟩:=aCc (ρ:=ρ) (ρ':=ρ') (n:=s.bl.length) (w:=w) (Hc.sink kx rfl) k1
  have kX:=oU k3
  have hmq:Mq (Zf ρ' s.bl.length w) w Fn 0:=by
   unfold Mq
   unfold Bq at hq
   cases hρ:(ρ i).1 with
   |none=>
    simp only[hρ] at hq
    simp only[Fn,hρ]
    exact⟨hq.1,hq.2.1⟩
   |some b=>
    simp only[hρ] at hq
    simp only[Fn,hρ,hft,cond_true]
    obtain⟨vl,junk,q1,q2,q3,q4⟩:=hq
    refine⟨vl,junk,q1,q2.len.symm,λk c x hc hx=>?_,(q3 hes).1,(q3 hes).2,q4⟩
    obtain⟨y,a1,a2⟩:=q2.get hc
    rw[hx] at a1
    injection a1 with a1
    subst a1
    exact(aIt a2 (hclo c (aX hc))).mono kx.z
  have hfam:FamOk ρ' s.bl.length w:=by
   refine⟨λF hF=>?_,λj b hj hb' hf=>?_,λf1 f2 F1 F2 j1 j2 b h1 h2 h3 h4 h5 h6=>?_⟩
   ·rcases bB.1 hF with hF|hF
    ·have hF':F∈ρ.F:=by rw[hD.l];exact hF
     exact⟨(hD.m.fam.ok F hF').1,λj hj=>((hD.m.fam.ok F hF').2 j hj).mono kx.z λ_ _=>rfl⟩
    rw[aT.1 hF]
    refine⟨hes,λj hj=>?_⟩
    obtain rfl:j=0:=by have:j<1:=hj;omega
    exact hmq
   ·by_cases hji:j=i
    ·subst hji;rw[hρi] at hb';cases hb'
    rw[hρj j hji] at hb'
    rcases hin b hf with h1|h1
    ·exact hD.m.fam.own j b hj hb' h1
    exact hji (hD.m.inj j i b hj hi hb' h1)
   have src:∀(x:Nat) (Y:Fam) (y:Nat),(s.fl++[Fn])[x]? =some Y->y<Y.N->Y.A y=some b->(x=s.fl.length/\y=0/\(ρ i).1=some b)\/(ρ.F[x]? =some Y):=λx Y y hx hy hbb=>by
    rcases tS hx with ⟨e1,rfl⟩|⟨_,e2⟩
    ·exact .inl ⟨e1,by have:y<1:=hy;omega,hbb⟩
    exact .inr (by rw[hD.l];exact e2)
   rcases src f1 F1 j1 h1 h3 h5 with ⟨a1,a2,a3⟩|a1<;>rcases src f2 F2 j2 h2 h4 h6 with ⟨c1,c2,c3⟩|c1
   ·exact⟨a1.trans c1.symm,a2.trans c2.symm⟩
   ·exact absurd ⟨F2,aX c1,j2,h4,h6⟩ (hD.m.fam.own i b hi a3)
   ·exact absurd ⟨F1,aX a1,j1,h3,h5⟩ (hD.m.fam.own i b hi c3)
   exact hD.m.fam.inj f1 f2 F1 F2 j1 j2 b a1 c1 h3 h4 h5 h6
  refine⟨((ρ i).1,(ρ i).2,sl',bl'),ρ',kX,⟨λj T2 e2 l2 hj=>?_,λa b bb ha hbl hab hbb=>?_,λj b h1 h2 hbj=>?_,?_,⟨hD.m.rel.os,hD.m.rel.tape,hD.m.rel.output,hD.m.rel.size,λk hk hn hf=>hD.m.rel.block k hk (λj hj=>?_) hf⟩,λj hj=>?_,hD.m.zz,?_,λb hb'=>?_⟩,⟨λt d' ht=>?_,λt gs d ht=>by cases ht⟩,rfl⟩
  ·show Bq ρ' bl'.length w j T2 e2 l2
   rw[k4]
   obtain⟨l0,a1,a2,a3⟩:=k5 j T2 e2 l2 hj
   by_cases hji:j=i
   ·subst hji
    rw[hb] at a1
    injection a1 with a1
    injection a1 with e1 e2'
    injection e2' with e2' e3
    subst e1 e2' e3
    unfold Bq
    rw[hρi]
    exact⟨a2 oM,rfl,hes⟩
   obtain⟨a4,a5⟩:=a3 oM
   have hq0:=hD.m.ok j T2 e2 l0 a1
   unfold Bq at hq0 ⊢
   rw[hρj j hji]
   cases hρ:(ρ j).1 with
   |none=>
    simp only[hρ] at hq0 ⊢
    exact⟨bX (by rw[a4,hq0.1];rfl),hq0.2⟩
   |some b=>
    simp only[hρ] at hq0 ⊢
    obtain⟨vl,junk,q1,q2,q3⟩:=hq0
    exact⟨vl,junk,q1,a5 vl q2,q3⟩
  ·have ha':a<s.bl.length:=by rw[<-k4];exact ha
   have hbl':b<s.bl.length:=by rw[<-k4];exact hbl
   by_cases e1:a=i
   ·subst e1;rw[hρi] at hab;cases hab
   by_cases e2:b=i
   ·subst e2;rw[hρi] at hbb;cases hbb
   rw[hρj a e1] at hab;rw[hρj b e2] at hbb;exact hD.m.inj a b bb ha' hbl' hab hbb
  ·have h2':j<s.bl.length:=by rw[<-k4];exact h2
   by_cases e1:j=i
   ·subst e1;rw[hρi] at hbj;cases hbj
   rw[hρj j e1] at hbj;exact hD.m.fr j b h1 h2' hbj
  ·show nb<=bl'.length
   rw[k4];exact hD.m.nbl
  ·have:=hn j hj
   rw[hρj j oM] at this
   exact this
  ·rw[hρj j oM];exact hD.m.pl j hj
  ·show FamOk ρ' bl'.length w
   rw[k4];exact hfam
  ·rcases hin b hb' with h1|h1
   ·exact hD.m.ffr b h1
   exact .inl (hD.m.fr i b hnb hi h1)
  obtain⟨d,a1,a2⟩:=k2 t d' ht
  show Hd ρ' bl'.length w d' (f t)
  rw[k4]
  exact a2 _ (hD.f.sl t d a1)
 ·by_cases hji:j=i
  ·subst hji;rw[hρi];intro h;cases h
  rw[hρj j hji];exact hbz.no j hj
 rcases hin b hf with h1|h1
 ·exact hbz.nf h1
 exact hbz.no i hi h1
/-! ### two own blocks change their numbers -/
def swN (i j k:Nat):Nat:=bif Nat.beq k i then j else bif Nat.beq k j then i else k
theorem aNo {i j:Nat}:swN i j i=j:=by simp[swN,iX]
theorem aNp {i j:Nat}:swN i j j=i:=by
 unfold swN
 cases h:Nat.beq j i with
 |true=>exact aO h
 |false=>simp[iX]
theorem aGy {i j k:Nat} (h1:k≠i) (h2:k≠j):swN i j k=k:=by
 unfold swN
 cases h:Nat.beq k i with
 |true=>exact absurd (aO h) h1
 |false=>cases h':Nat.beq k j with
  |true=>exact absurd (aO h') h2
  |false=>rfl
theorem aPr {i j:Nat} (k:Nat):swN i j (swN i j k)=k:=by
 by_cases h1:k=i
 ·rw[h1,aNo,aNp]
 by_cases h2:k=j
 ·rw[h2,aNp,aNo]
 rw[aGy h1 h2,aGy h1 h2]
theorem xF {i j k n:Nat} (hi:i<n) (hj:j<n) (hk:k<n):swN i j k<n:=by
 by_cases h1:k=i
 ·rw[h1,aNo];exact hj
 by_cases h2:k=j
 ·rw[h2,aNp];exact hi
 rw[aGy h1 h2];exact hk
def swC (i j:Nat):CV->CV
 |.p k o=> .p (swN i j k) o
 |.s k n=> .s (swN i j k) n
 |.t k o n=> .t (swN i j k) o n
 |.f q fi ca=> .f q (fi.map λp=>(swN i j p.1,p.2)) (ca.map λp=>(swN i j p.1,p.2))
 |c=>c
theorem Hc.sw {ρ ρ':Pl} {n i j:Nat} {w:World} (hi:i<n) (hj:j<n) (hp:∀k,ρ' k=ρ (swN i j k)) (hz:∀b,Zf ρ n w b->Zf ρ' n w b) (c:CV) (x:Value) (h:Hc ρ n w c x):Hc ρ' n w (swC i j c) x:=by
 have hps:∀k,ρ' (swN i j k)=ρ k:=λk=>by rw[hp,aPr]
 cases c with
 |p k o=>obtain⟨h1,b,h2,h3⟩:=h;exact⟨xF hi hj h1,b,by rw[hps];exact h2,h3⟩
 |s k m=>obtain⟨h1,h2⟩:=h;exact⟨xF hi hj h1,by rw[hps];exact h2⟩
 |t k o m=>obtain⟨h1,h2⟩:=h;exact⟨xF hi hj h1,by rw[hps];exact h2⟩
 |q A m c e get k o=>obtain⟨h1,h2⟩:=h;exact⟨h1.mono λb hb=>⟨hz b hb,rfl⟩,h2⟩
 |f q fi ca=>
  obtain⟨h1,h2⟩:=h
  have hm:∀l:List (Nat×Nat),(l.map λp=>(swN i j p.1,p.2)).map (ptr ρ')=l.map (ptr ρ):=λl=>by
   rw[nW]
   refine fV λp _=>?_
   show ptr ρ' (swN i j p.1,p.2)=ptr ρ p
   unfold ptr
   rw[hps]
  refine⟨λp hp2=>?_,h2.trans (by rw[hm,hm])⟩
  rw[<-dI] at hp2
  obtain⟨p0,hp0,rfl⟩:=cP.1 hp2
  obtain⟨a1,a2⟩:=h1 p0 hp0
  exact⟨xF hi hj a1,by rw[hps];exact a2⟩
 |u=>exact Rc.mono h λb hb=>⟨hz b hb,rfl⟩
 |v y=>exact Rc.mono h λb hb=>⟨hz b hb,rfl⟩
 |h A m c=>exact Rc.mono h λb hb=>⟨hz b hb,rfl⟩
 |hp b o=>exact Rc.mono h λb hb=>⟨hz b hb,rfl⟩
 |b p q=>exact Rc.mono h λb hb=>⟨hz b hb,rfl⟩
 |r A m c e get=>exact Rc.mono h λb hb=>⟨hz b hb,rfl⟩
theorem aGz (hX:Tgt nb X) (i j:Nat) {bi bj:TypeId×Nat×List CV} (hbi:s.bl[i]? =some bi) (hbj:s.bl[j]? =some bj) (hni:nb<=i) (hnj:nb<=j) (hgl:s.gl=[])
 (h:aWf (swC i j) s.sl λsl'=>qE s.bl i bj λbl1=>qE bl1 j bi λbl2=>aIb (swC i j) 1000000 0 bl2 λbl'=>bl'.length<=1000000/\X ⟨sl',[],bl',s.fl⟩):X s:=by
 have hi:i<s.bl.length:=eP hbi
 have hj:j<s.bl.length:=eP hbj
 refine hX s SS (λg=>g) X (λρ0 w0 ρ f w hD=>?_) λg hg=>hg
 let ρ':Pl:=⟨λk=>ρ (swN i j k),ρ.Z,ρ.F⟩
 have hp:∀k,ρ' k=ρ (swN i j k):=λ_=>rfl
 have hz:∀b,Zf ρ s.bl.length w b->Zf ρ' s.bl.length w b:=λb hb=>⟨hb.lt,λk hk=>hb.no _ (xF hi hj hk),hb.z,hb.nf⟩
 obtain⟨sl',k1,k2⟩:=aKj (ρ:=ρ) (ρ':=ρ') (n:=s.bl.length) (w:=w) (Hc.sw hi hj hp hz) h
 obtain⟨bl',⟨kle,kX⟩,k4,k5⟩:=aCc (ρ:=ρ) (ρ':=ρ') (n:=s.bl.length) (w:=w) (Hc.sw hi hj hp hz) (kL (kL k1))
 rw[bT,bT] at k4
 have hold:∀(m:Nat) (x:TypeId×Nat×List CV),((s.bl.set i bj).set j bi)[m]? =some x->s.bl[swN i j m]? =some x:=λm x hm=>by
  rcases oT hm with ⟨rfl,rfl,_⟩|⟨h1,h2⟩
  ·rw[aNp];exact hbi
  rcases oT h2 with ⟨rfl,rfl,_⟩|⟨h3,h4⟩
  ·rw[aNo];exact hbj
  rw[aGy h3 h1];exact h4
 refine⟨_,ρ',kX,⟨λm T es l hm=>?_,λa b bb ha hb hab hbb=>?_,λm b h1 h2 hb=>?_,?_,⟨hD.m.rel.os,hD.m.rel.tape,hD.m.rel.output,hD.m.rel.size,λk hk hn hf=>hD.m.rel.block k hk (λm hm=>?_) hf⟩,λm hm=>?_,hD.m.zz,?_,hD.m.ffr⟩,⟨λt d' ht=>?_,λt gs d ht=>by cases ht⟩,hD.l⟩
 ·show Bq ρ' bl'.length w m T es l
  have hml:m<bl'.length:=eP hm
  rw[k4]
  obtain⟨l0,a1,_,a3⟩:=k5 m T es l hm
  obtain⟨a4,a5⟩:=a3 oM
  have hq:=hD.m.ok _ T es l0 (hold m _ a1)
  unfold Bq at hq ⊢
  rw[hp]
  cases hρ:(ρ (swN i j m)).1 with
  |none=>
   simp only[hρ] at hq ⊢
   exact⟨bX (by rw[a4,hq.1];rfl),hq.2⟩
  |some b=>
   simp only[hρ] at hq ⊢
   obtain⟨vl,junk,q1,q2,q3⟩:=hq
   exact⟨vl,junk,q1,a5 vl q2,q3⟩
 ·have ha':a<s.bl.length:=by rw[<-k4];exact ha
  have hb':b<s.bl.length:=by rw[<-k4];exact hb
  have:=hD.m.inj _ _ bb (xF hi hj ha') (xF hi hj hb') hab hbb
  rw[<-aPr (i:=i) (j:=j) a,this,aPr]
 ·have h2':m<s.bl.length:=by rw[<-k4];exact h2
  refine hD.m.fr (swN i j m) b ?_ (xF hi hj h2') hb
  by_cases e1:m=i
  ·rw[e1,aNo];exact hnj
  by_cases e2:m=j
  ·rw[e2,aNp];exact hni
  rw[aGy e1 e2];exact h1
 ·show nb<=bl'.length
  rw[k4];exact hD.m.nbl
 ·have:=hn m hm
  rw[hp,aGy oM oM] at this
  exact this
 ·rw[hp,aGy oM oM];exact hD.m.pl m hm
 ·show FamOk ρ' bl'.length w
  rw[k4]
  exact hD.m.fam.mono rfl (λb hb=>⟨hz b hb,rfl⟩) (λ_ _=>rfl) λm b hm hb=>hD.m.fam.own _ b (xF hi hj hm) hb
 obtain⟨d,a1,a2⟩:=k2 t d' ht
 show Hd ρ' bl'.length w d' (f t)
 rw[k4]
 exact a2 _ (hD.f.sl t d a1)
/-! ### a family is let go: what names it is read from now on -/
def FrC (F:Fam) (c c':CV):Prop:=∃q n g,q<F.N/\c= .h (F.A q) n (F.cap q)/\c'= .r ((F.A q).map λb=>⟨b,0,none⟩) n (F.cap q) F.es g/\n*F.es=(F.get q).length/\∀k,k<n->g k=((F.get q).drop (k*F.es)).take F.es
theorem xR (hX:Tgt nb X) (i f:Nat) {T es:Nat} {l:List CV} {F:Fam} (l':List CV) (hb:s.bl[i]? =some (T,es,l)) (hf:s.fl[f]? =some F) (hgl:s.gl=[]) (hl:l'.length=l.length) (hc:∀(k:Nat) (c c':CV),l[k]? =some c->l'[k]? =some c'->c=c'\/FrC F c c')
 (h:qE s.bl i (T,es,l') λbl'=>qE s.fl f (aAt F) λfl'=>X ⟨s.sl,[],bl',fl'⟩) (hft:Nat.ble F.T 999999=true:=by rfl):X s:=by
 have hfl:f<s.fl.length:=eP hf
 refine hX.one (s':=⟨s.sl,[],s.bl.set i (T,es,l'),s.fl.set f (aAt F)⟩) (λρ0 w0 ρ f0 w hD=>?_) (kL (kL h))
 have hes:=aGx hD hf
 have hin:∀b,InL (s.fl.set f (aAt F)) b->InF ρ b/\∀q,q<F.N->F.A q≠some b:=λb ⟨G,hG,j,hj,hA⟩=>by
  obtain⟨g,hg⟩:=dD hG
  rcases tH hg hfl with ⟨_,rfl⟩|⟨hne,h2⟩
  ·exact absurd hj (aV _)
  exact⟨⟨G,by rw[hD.l];exact aX h2,j,hj,hA⟩,λq hq he=>hne (hD.m.fam.inj g f G F j q b (by rw[hD.l];exact h2) (by rw[hD.l];exact hf) hj hq hA he).1⟩
 have hz:∀b,Zf ρ s.bl.length w b->Zf ⟨ρ.at',ρ.Z,s.fl.set f (aAt F)⟩ s.bl.length w b/\w.heap[b]? =w.heap[b]?:=λb hb=>⟨⟨hb.lt,hb.no,hb.z,λhi=>hb.nf (hin b hi).1⟩,rfl⟩
 have kp:Kp ρ s.bl.length w ⟨ρ.at',ρ.Z,s.fl.set f (aAt F)⟩ s.bl.length w:=⟨aI _,λ_ _=>rfl,hz⟩
 have hrd:∀c c' x,FrC F c c'->Hc ρ s.bl.length w c x->Hc ⟨ρ.at',ρ.Z,s.fl.set f (aAt F)⟩ s.bl.length w c' x:=λc c' x ⟨q,n,g,hq,e1,e2,e3,e4⟩ hx=>by
  subst e1 e2
  rw[hx.inv_h]
  have hm:=hD.m.fam.mem hD.l hf hq
  unfold Mq at hm
  cases hA:F.A q with
  |none=>
   simp only[hA] at hm
   have hn:n=0:=by
    rcases dB n with h|h
    ·exact h
    rw[hm.1] at e3;have:=mW h hes;simp at e3;omega
   subst hn
   rw[hm.2]
   exact Rc.nil none 0 F.es g (aF _)
  |some b=>
   simp only[hA,hft,cond_true] at hm
   obtain⟨vl,junk,q1,q2,q3,q4,q5,q6⟩:=hm
   have hbin:InF ρ b:=⟨F,by rw[hD.l];exact aX hf,q,hq,hA⟩
   have hZb:Zf ⟨ρ.at',ρ.Z,s.fl.set f (aAt F)⟩ s.bl.length w b:=⟨fW q1,λj hj he=>hD.m.fam.own j b hj he hbin,by
    have:=hD.m.zz.2 b (hD.m.ffr b hbin)
    exact this,λhi=>(hin b hi).2 q hq hA⟩
   have hnc:n<=F.cap q:=by
    rw[aP] at q4
    exact gD (c:=F.es) oM hes
   have hjn:∀j,j<n->j*F.es+F.es<=vl.length:=λj hj=>by
    have:(j+1)*F.es<=n*F.es:=bK F.es hj
    rw[dW,lN] at this
    omega
   refine Rc.r b 0 n (F.cap q) F.es g (λj=>(vl.drop (j*F.es)).take F.es) hnc q5 hZb (λj hj k u hu=>?_) (λj hj=>?_) λj hj k c' u hc hu=>?_
   ·rw[iE] at hu
    split at hu
    ·rw[eQ] at hu
     refine⟨?_,q6 u (aX hu)⟩
     rw[fK]
     exact pS q1 hu
    cases hu
   ·rw[e4 j hj]
    have:=hjn j hj
    simp only[cC,dP]
    omega
   rw[e4 j hj] at hc
   rw[iE] at hc hu
   split at hc
   ·next hlt=>
    rw[if_pos hlt] at hu
    rw[eQ] at hc hu
    exact(q3 _ c' u hc hu).mono hz
   cases hc
 refine⟨⟨ρ.at',ρ.Z,s.fl.set f (aAt F)⟩,⟨λj T2 e2 l2 hj=>?_,?_,?_,?_,⟨hD.m.rel.os,hD.m.rel.tape,hD.m.rel.output,hD.m.rel.size,hD.m.rel.block⟩,hD.m.pl,hD.m.zz,⟨λG hG=>?_,λj b hj hbj hf2=>?_,λf1 f2 F1 F2 j1 j2 b h1 h2 h3 h4 h5 h6=>?_⟩,λb hbb=>hD.m.ffr b (hin b hbb).1⟩,⟨λt d ht=>?_,λt gs d ht=>by cases ht⟩,rfl⟩
 ·rw[bT]
  rcases oT hj with ⟨rfl,h2,_⟩|⟨_,h2⟩
  ·injection h2 with h2 h3
   injection h3 with h3 h4
   subst h2 h3 h4
   have hq:=hD.m.ok j _ _ l hb
   unfold Bq at hq ⊢
   show match (ρ j).1 with|none=>_|some b=>_
   cases hρ:(ρ j).1 with
   |none=>
    simp only[hρ] at hq ⊢
    exact⟨bX (by rw[hl,hq.1];rfl),hq.2⟩
   |some b=>
    simp only[hρ] at hq ⊢
    obtain⟨vl,junk,q1,q2,q3⟩:=hq
    refine⟨vl,junk,q1,Hl.of_get (by rw[hl,q2.len]) λk c' u hc' hu=>?_,q3⟩
    have hlt:k<l.length:=by rw[<-hl];exact eP hc'
    obtain⟨x,h1,h2⟩:=q2.get (aK hlt)
    rw[hu] at h1
    injection h1 with h1
    subst h1
    rcases hc k _ c' (aK hlt) hc' with e|e
    ·rw[<-e];exact h2.kp kp
    exact hrd _ _ _ e h2
  exact(hD.m.ok j T2 e2 l2 h2).kp kp (eP h2) λ_ _=>rfl
 ·simpa using hD.m.inj
 ·simpa using hD.m.fr
 ·simpa using hD.m.nbl
 ·obtain⟨g,hg⟩:=dD hG
  rcases tH hg hfl with ⟨_,rfl⟩|⟨_,h2⟩
  ·exact⟨hes,λj hj=>absurd hj (aV _)⟩
  have hG':G∈ρ.F:=by rw[hD.l];exact aX h2
  simp only[bT]
  exact⟨(hD.m.fam.ok G hG').1,λj hj=>((hD.m.fam.ok G hG').2 j hj).mono hz λ_ _=>rfl⟩
 ·simp only[bT] at hj
  exact hD.m.fam.own j b hj hbj (hin b hf2).1
 ·rcases tH (show(s.fl.set f (aAt F))[f1]? =_ from h1) hfl with ⟨_,rfl⟩|⟨_,h1'⟩
  ·exact absurd h3 (aV _)
  rcases tH (show(s.fl.set f (aAt F))[f2]? =_ from h2) hfl with ⟨_,rfl⟩|⟨_,h2'⟩
  ·exact absurd h4 (aV _)
  exact hD.m.fam.inj f1 f2 F1 F2 j1 j2 b (by rw[hD.l];exact h1') (by rw[hD.l];exact h2') h3 h4 h5 h6
 show Hd _ (s.bl.set i (T,es,l')).length w d (f0 t)
 rw[bT]
 exact(hD.f.sl t d ht).kp kp
/-! ### the end of a ghost way: what is kept, what changed -/
def bIm:List Fam->List Fam->Prop
 |_,[]=>True
 |x::l,y::m=>x=y/\bIm l m
 |[],_::_=>False
theorem aTb:∀{l m:List Fam},bIm l m->∃r,l=m++r
 |l,[],_=>⟨l,rfl⟩
 |[],_::_,h=>h.elim
 |x::l,y::m,h=>by
  obtain⟨h1,h2⟩:=h
  obtain⟨r,hr⟩:=aTb h2
  exact⟨r,by rw[h1,hr];rfl⟩
theorem Fsub.pre {fl r:List Fam} (hes:∀F∈fl,0<F.es):Fsub (fl++r) fl:=by
 have hg:∀(x:Nat) (Y:Fam),fl[x]? =some Y->(fl++r)[x]? =some Y:=λx Y h=>by rw[bW (eP h)];exact h
 exact⟨λf' F' hf'=>⟨hes F' (aX hf'),λj' hj'=> .inr ⟨f',F',j',hg f' F' hf',hj',rfl,rfl,rfl,rfl,rfl⟩⟩,λhi f1 f2 F1 F2 j1 j2 b h1 h2=>hi f1 f2 F1 F2 j1 j2 b (hg f1 F1 h1) (hg f2 F2 h2)⟩
theorem dG {M:Nat->Bool} {base:List (Nat×DV)} (hM:∀t d,iM base t=some d->M t=false) {σ:Type} {chg:σ->List (Nat×DV)} {bls:σ->BL} {fls:σ->List Fam} {C:σ->Prop} (g:σ) (hC:C g)
 (hmt:yM M base [] [] s.sl) (hbl:aNn s.bl (bls g)) (hfl:bIm s.fl (fls g)) (hall:AllC s.sl (chg g)) (hnb:nb<=(bls g).length) (hsc:scB (bls g).length (bls g)) (hsd:(chg g++base).all (λe=>scD (bls g).length e.2)=true):
 Gt nb s (λg=>⟨chg g++base,[],bls g,fls g⟩) C:=λρ0 w0 ρ f w hD=>by
 obtain⟨r,hr⟩:=xE hbl
 obtain⟨rf,hrf⟩:=aTb hfl
 have h1:=aCb (s:=s) (s':=⟨chg g++base,[],bls g,s.fl⟩) (r:=r) hr rfl rfl hsc (λt d ht=>⟨?_,yO hsd ht⟩) ρ0 w0 nb ρ f w hnb hD
 ·have hp:Fsub s.fl (fls g):=by
   have hes:∀F∈fls g,0<F.es:=λF hF=>(hD.m.fam.ok F (by rw[hD.l,hrf];exact dS _ hF)).1
   have:=Fsub.pre (r:=rf) hes
   rw[<-hrf] at this
   exact this
  obtain⟨ρ',h2⟩:=h1.fsub (s:=⟨chg g++base,[],bls g,s.fl⟩) hp
  exact⟨g,ρ',hC,h2⟩
 rcases sI ht with h1|⟨h1,h2⟩
 ·exact hall.get h1
 exact⟨d,by rw[(sH hmt).1 t (hM t d h2)];exact h2,.refl d⟩
theorem eW (M:Nat->Bool) {σ:Type} (chg:σ->List (Nat×DV)) (bls:σ->BL) (fls:σ->List Fam) (C:σ->Prop) (μ:σ->Nat)
 (h:yL M s.sl λbase=>(∀t d,iM base t=some d->M t=false)->Gt nb s (λg=>⟨chg g++base,[],bls g,fls g⟩) C/\∀g,C g->Sd P nb N c ⟨λs'=>Gt nb s' (λg'=>⟨chg g'++base,[],bls g',fls g'⟩) (λg'=>C g'/\μ g'<μ g),K.ext,K.ret⟩ ⟨chg g++base,[],bls g,fls g⟩):Sd P nb N (.loop c) K s:=by
 obtain⟨base,h1,hk⟩:=tX h
 obtain⟨h0,hr⟩:=h1 λt d ht=>(hk t d ht).2
 intro ρ0 w0 ρ f w Q hL hD
 obtain⟨g0,ρ1,hC0,hD1⟩:=h0 ρ0 w0 ρ f w hD
 refine oP (σ:=σ) (λg f w=>C g/\∃ρ,Dn ρ0 w0 nb ⟨chg g++base,[],bls g,fls g⟩ ρ f w) μ g0 ⟨hC0,ρ1,hD1⟩ λg f w ⟨hc,ρ,hD⟩=>?_
 refine hr g hc ρ0 w0 ρ f w _ ⟨λs' ρ' f' w' hg hD'=>?_,hL.ext,hL.ret⟩ hD
 obtain⟨g',ρ2,⟨hc',hlt⟩,hD2⟩:=hg ρ0 w0 ρ' f' w' hD'
 exact⟨g',⟨hc',ρ2,hD2⟩,hlt⟩
end gt
/-! ### a contract said otherwise -/
theorem CtrF.gt {P:Program} {q:FuncId} {cl:List Bool} {al:List DV} {bl:BL} {fl:List Fam} {σ τ:Type} {R:σ->OutF} {R':τ->OutF} (h:CtrF P q cl al bl fl R)
 (hp:∀g,(R g).C->ClB cl (R g).bl->Gt bl.length ⟨[(0,(R g).d)],[],(R g).bl,(R g).fl⟩ (λg'=>⟨[(0,(R' g').d)]++[],[],(R' g').bl,(R' g').fl⟩) λg'=>(R' g').C/\ClB cl (R' g').bl):CtrF P q cl al bl fl R':=
 ⟨h.ent,h.clb,λρ w vals hv hD hF=>(h.run ρ w vals hv hD hF).mono λe w' ⟨v,he,g,ρ',hC,hDr,hdv,hclr,hFr⟩=>by
  have hq:Dn ρ w bl.length ⟨[(0,(R g).d)],[],(R g).bl,(R g).fl⟩ ρ' (λ_=>v) w':=⟨hDr,⟨λt d ht=>?_,λt gs d ht=>by cases ht⟩,hFr⟩
  ·obtain⟨g',ρ2,⟨h1,h2⟩,h3⟩:=hp g hC hclr ρ w ρ' (λ_=>v) w' hq
   exact⟨v,he,g',ρ2,h1,h3.m,h3.f.sl 0 _ rfl,h2,h3.l⟩
  simp only[iM] at ht
  cases hb:Nat.beq 0 t with
  |true=>rw[hb] at ht;injection ht with ht;subst ht;exact hdv
  |false=>rw[hb] at ht;cases ht⟩
theorem CtrF.frz {P:Program} {q:FuncId} {al:List DV} {σ:Type} {n T es:σ->Nat} {l:σ->List CV} {C:σ->Prop} (h:Ctr P q [] al [] (λg:σ=>⟨.c (.s 0 (n g)),[(T g,es g,l g)],C g⟩)) (get:σ->Nat->List CV) (hp:∀g,C g->(∀j,j<n g->get g j=((l g).drop (j*es g)).take (es g))/\n g*es g=(l g).length/\0<es g/\∀c∈l g,iP c=true):
 Ctr P q [] al [] (λg:σ×Option Addr×Nat=>⟨.c (.r g.2.1 (n g.1) g.2.2 (es g.1) (get g.1)),[],C g.1⟩):=by
 refine CtrF.gt h λg hC _=>?_
 obtain⟨h1,h2,h3,h4⟩:=hp g hC
 refine aKh tGt 0 0 (get g) rfl rfl h1 h2 h3 h4 (aI _) λA c _ _=>?_
 exact dG (M:=λ_=>true) (base:=[]) (chg:=λg':σ×Option Addr×Nat=>[(0,.c (.r g'.2.1 (n g'.1) g'.2.2 (es g'.1) (get g'.1)))]) (bls:=λ_=>[]) (fls:=λ_=>[]) (λt d ht=>by cases ht) (g,A,c) ⟨hC,λi T es l hi=>by cases hi⟩ rfl trivial trivial rfl (aI _) (λi T es l hi=>by cases hi) rfl
theorem jO {nb:Nat} {cl:List Bool} {s:SS} {d:DV} {o:Out} (hd:EqD d o.d) (hb:aNn s.bl o.bl) (hnb:nb<=o.bl.length) (hsc:scB o.bl.length o.bl) (hsd:scD o.bl.length o.d=true) (hcl:ClB cl o.bl):Fin cl nb s d o:=λρ0 w0 ρ w v hD0 _ hv0=>by
 have hD:=hD0.nofam
 have hv:=hd.hd (hv0.kp Kp.nofam)
 obtain⟨r,hr⟩:=xE hb
 rw[hr] at hD hv
 exact⟨_,hD.drop hsc hnb,hv.less hsd (by simp),hcl,rfl⟩
theorem aAu {bl:BL}:ClB [] bl:=λi T es l _ hc=>by cases hc
theorem CtrF.re {P:Program} {q:FuncId} {cl:List Bool} {al:List DV} {bl:BL} {fl:List Fam} {σ τ:Type} {R:σ->OutF} {R':τ->OutF} (h:CtrF P q cl al bl fl R) (hp:∀g,(R g).C->∃g',(R' g').C/\(R' g').d=(R g).d/\(R' g').bl=(R g).bl/\(R' g').fl=(R g).fl):CtrF P q cl al bl fl R':=
 ⟨h.ent,h.clb,λρ w vals hv hD hF=>(h.run ρ w vals hv hD hF).mono λe w' ⟨v,he,g,ρ',hC,hDr,hdv,hclr,hFr⟩=>by
  obtain⟨g',h1,h2,h3,h4⟩:=hp g hC
  exact⟨v,he,g',ρ',h1,by rw[h3];exact hDr,by rw[h2,h3];exact hdv,by rw[h3];exact hclr,by rw[h4];exact hFr⟩⟩
theorem cAs {P:Program} {nb N:Nat} {a b:Code} {K:Kt} {s:SS} (M:Nat->Bool) {σ:Type} (n0:Nat) (chg:σ->List (Nat×DV)) (bls:σ->BL) (C:σ->Prop) {p:Prop} (hn:∀g,(bls g).length=n0) (hnb:nb<=n0) (hsc:∀g,scB n0 (bls g)) (hcg:∀g,(chg g).all (λe=>scD n0 e.2)=true)
 (h:yL M s.sl λbase=>base.all (λe=>scD n0 e.2)=true/\((p->Sd P nb N a ⟨λs'=>∃g,C g/\MtD M base s.fl s' (chg g) (bls g),K.ext,K.ret⟩ s)/\(¬p->Sd P nb N b ⟨λs'=>∃g,C g/\MtD M base s.fl s' (chg g) (bls g),K.ext,K.ret⟩ s))/\∀g,C g->K.nrm ⟨chg g++base,[],bls g,s.fl⟩):(p->Sd P nb N a K s)/\(¬p->Sd P nb N b K s):=by
 obtain⟨base,⟨hbs,⟨h1,h2⟩,h3⟩,hk⟩:=tX h
 have w:∀{c:Code},Sd P nb N c ⟨λs'=>∃g,C g/\MtD M base s.fl s' (chg g) (bls g),K.ext,K.ret⟩ s->Sd P nb N c K s:=λ{c} h ρ0 w0 ρ f w Q hL hD=>by
  refine h ρ0 w0 ρ f w Q ⟨λs' ρ' f' w' ⟨g',hc,hm⟩ hD'=>?_,hL.ext,hL.ret⟩ hD
  obtain⟨r,hr'⟩:=xE hm.2.1
  refine hL.nrm _ ρ' f' w' (h3 g' hc) (aCb (s:=s') (s':=⟨chg g'++base,[],bls g',s.fl⟩) (r:=r) hr' (sH hm.1).2 rfl (by rw[hn];exact hsc g') (λt d ht=>⟨?_,?_⟩) ρ0 w0 nb ρ' f' w' (by rw[hn];exact hnb) hD')
  ·rcases sI ht with h1|⟨h1,h2⟩
   ·exact hm.2.2.get h1
   exact⟨d,by rw[(sH hm.1).1 t (hk t d h2).2];exact h2,.refl d⟩
  rw[hn]
  rcases sI ht with h1|⟨_,h2⟩
  ·exact yO (hcg g') h1
  exact yO hbs h2
 exact⟨λh=>w (h1 h),λh=>w (h2 h)⟩
def tr2 (i:Nat) (t:Tr) (j:Nat) (u:Tr):Tr:=.alt i t (.alt j u .nil)
def trS:List Nat->Tr
 |[]=> .nil
 |i::l=> .alt i (trS l) .nil
inductive SelfF (P:Program) (d:Nat) (xs:Array Value):List (TypeId×Nat)->Prop
 |nil:SelfF P d xs []
 |cons {t:TypeId} {o:Nat} {fs:List (TypeId×Nat)} {a:Value} (h1:∀w,(part t xs o).run P w= .ok a w) (h2:∀w,(Op.equalIn d t a a).run P w= .ok true w) (h:SelfF P d xs fs):SelfF P d xs ((t,o)::fs)
theorem SelfF.run {P:Program} {d:Nat} {xs:Array Value} (w:World):∀{fs:List Field},SelfF P d xs (fs.map λf=>(f.type,f.offset))->(Op.eqFields d xs xs fs).run P w= .ok true w
 |[],_=>by simp[Op.eqFields]
 |f::fs,h=>by
  cases h with
  |cons h1 h2 h3=>
   have ih:=SelfF.run w h3
   unfold Op.eqFields
   split
   ·simp[h1,h2,ih]
   exact ih
theorem cAt {vs:List Value} (h:ckF 0 vs=true):False:=by
 unfold ckF at h
 split at h<;>first|(cases h;done)|contradiction
end Go.Vy
namespace Go.Proofs.YtlhdigjbokkbiaaGreat
open Go.Vg Go.Vy _root_.Go.Proofs.Tryz
def tab:List (Nat×TI):=[
 (1,{size:=1,by':=8,zero:=[.nilFunc]}),
 (2,{size:=1,by':=8,zero:=[.int .i64 0],ik:=some .i64}),
 (3,{size:=1,by':=8,zero:=[.int .i64 0],ik:=some .i64}),
 (4,{size:=1,by':=1,zero:=[.bool false],bo:=true}),
 (5,{size:=1,by':=1,zero:=[.int .u8 0],ik:=some .u8}),
 (9,{size:=1,by':=16,zero:=[.string ⟨#[]⟩],str:=true}),
 (12,{size:=1,by':=8,zero:=[.int .u64 0],ik:=some .u64}),
 (13,{size:=2,by':=24,zero:=[.string ⟨#[]⟩,.int .u64 0],agg:=true,fs:=[⟨0,9,1,false⟩,⟨1,12,1,false⟩]}),
 (21,{size:=1,by':=4,zero:=[.int .i32 0],ik:=some .i32}),
 (22,{size:=1,by':=24,zero:=[.slice none 0 0],el:=some 54}),
 (23,{size:=3,by':=40,zero:=[.int .i64 0,.int .i64 0,.slice none 0 0],agg:=true,fs:=[⟨0,3,1,false⟩,⟨1,3,1,false⟩,⟨2,22,1,false⟩]}),
 (24,{size:=3,by':=40,zero:=[.int .i64 0,.int .i64 0,.slice none 0 0],agg:=true,fs:=[⟨0,3,1,false⟩,⟨1,3,1,false⟩,⟨2,22,1,false⟩]}),
 (25,{size:=1,by':=8,zero:=[.nilFunc]}),
 (26,{size:=1,by':=8,zero:=[.pointer none],pt:=true}),
 (27,{size:=1,by':=8,zero:=[.int .i64 0],ik:=some .i64}),
 (29,{size:=1,by':=8,zero:=[.nilFunc]}),
 (30,{size:=4,by':=48,zero:=[.int .i64 0,.int .i64 0,.slice none 0 0,.int .i64 0],agg:=true,fs:=[⟨0,24,3,true⟩,⟨3,3,1,false⟩]}),
 (31,{size:=4,by':=48,zero:=[.int .i64 0,.int .i64 0,.slice none 0 0,.int .i64 0],agg:=true,fs:=[⟨0,24,3,true⟩,⟨3,3,1,false⟩]}),
 (33,{size:=1,by':=8,zero:=[.nilFunc]}),
 (34,{size:=1,by':=8,zero:=[.nilFunc]}),
 (35,{size:=1,by':=8,zero:=[.nilFunc]}),
 (36,{size:=1,by':=8,zero:=[.nilFunc]}),
 (37,{size:=1,by':=8,zero:=[.nilFunc]}),
 (38,{size:=1,by':=24,zero:=[.slice none 0 0],el:=some 3}),
 (39,{size:=1,by':=8,zero:=[.nilFunc]}),
 (40,{size:=1,by':=8,zero:=[.nilFunc]}),
 (41,{size:=1,by':=24,zero:=[.slice none 0 0],el:=some 51}),
 (42,{size:=1,by':=8,zero:=[.pointer none],pt:=true}),
 (43,{size:=1,by':=8,zero:=[.nilFunc]}),
 (44,{size:=1,by':=8,zero:=[.nilFunc]}),
 (46,{size:=1,by':=8,zero:=[.nilFunc]}),
 (47,{size:=1,by':=24,zero:=[.slice none 0 0],el:=some 131}),
 (48,{size:=2,by':=32,zero:=[.bool false,.slice none 0 0],agg:=true,fs:=[⟨0,4,1,false⟩,⟨1,47,1,false⟩]}),
 (49,{size:=2,by':=32,zero:=[.bool false,.slice none 0 0],agg:=true,fs:=[⟨0,4,1,false⟩,⟨1,47,1,false⟩]}),
 (50,{size:=3,by':=56,zero:=[.bool false,.slice none 0 0,.slice none 0 0],agg:=true,fs:=[⟨0,49,2,true⟩,⟨2,47,1,false⟩]}),
 (51,{size:=3,by':=56,zero:=[.bool false,.slice none 0 0,.slice none 0 0],agg:=true,fs:=[⟨0,49,2,true⟩,⟨2,47,1,false⟩]}),
 (52,{size:=1,by':=8,zero:=[.nilFunc]}),
 (53,{size:=1,by':=8,zero:=[.nilFunc]}),
 (54,{size:=1,by':=24,zero:=[.slice none 0 0],el:=some 65}),
 (55,{size:=1,by':=8,zero:=[.nilFunc]}),
 (56,{size:=1,by':=8,zero:=[.nilFunc]}),
 (57,{size:=1,by':=8,zero:=[.nilFunc]}),
 (58,{size:=1,by':=8,zero:=[.nilFunc]}),
 (59,{size:=1,by':=8,zero:=[.nilFunc]}),
 (60,{size:=1,by':=8,zero:=[.nilFunc]}),
 (61,{size:=1,by':=8,zero:=[.nilFunc]}),
 (62,{size:=1,by':=8,zero:=[.nilFunc]}),
 (63,{size:=1,by':=8,zero:=[.nilFunc]}),
 (64,{size:=4,by':=64,zero:=[.int .i64 0,.bool false,.slice none 0 0,.slice none 0 0],agg:=true,fs:=[⟨0,3,1,false⟩,⟨1,51,3,true⟩]}),
 (65,{size:=4,by':=64,zero:=[.int .i64 0,.bool false,.slice none 0 0,.slice none 0 0],agg:=true,fs:=[⟨0,3,1,false⟩,⟨1,51,3,true⟩]}),
 (66,{size:=8,by':=128,zero:=[.slice none 0 0,.slice none 0 0,.int .i64 0,.int .i64 0,.slice none 0 0,.int .i64 0,.int .i64 0,.slice none 0 0],agg:=true,fs:=[⟨0,38,1,false⟩,⟨1,38,1,false⟩,⟨2,24,3,true⟩,⟨5,24,3,true⟩]}),
 (67,{size:=8,by':=128,zero:=[.slice none 0 0,.slice none 0 0,.int .i64 0,.int .i64 0,.slice none 0 0,.int .i64 0,.int .i64 0,.slice none 0 0],agg:=true,fs:=[⟨0,38,1,false⟩,⟨1,38,1,false⟩,⟨2,24,3,true⟩,⟨5,24,3,true⟩]}),
 (69,{size:=1,by':=8,zero:=[.nilFunc]}),
 (71,{size:=1,by':=8,zero:=[.nilFunc]}),
 (72,{size:=1,by':=24,zero:=[.slice none 0 0],el:=some 91}),
 (73,{size:=10,by':=176,zero:=[.slice none 0 0,.slice none 0 0,.slice none 0 0,.int .i64 0,.int .i64 0,.slice none 0 0,.int .i64 0,.int .i64 0,.slice none 0 0,.slice none 0 0],agg:=true,fs:=[⟨0,22,1,false⟩,⟨1,67,8,true⟩,⟨9,72,1,false⟩]}),
 (74,{size:=10,by':=176,zero:=[.slice none 0 0,.slice none 0 0,.slice none 0 0,.int .i64 0,.int .i64 0,.slice none 0 0,.int .i64 0,.int .i64 0,.slice none 0 0,.slice none 0 0],agg:=true,fs:=[⟨0,22,1,false⟩,⟨1,67,8,true⟩,⟨9,72,1,false⟩]}),
 (75,{size:=1,by':=8,zero:=[.nilFunc]}),
 (76,{size:=1,by':=8,zero:=[.nilFunc]}),
 (77,{size:=1,by':=8,zero:=[.nilFunc]}),
 (78,{size:=1,by':=24,zero:=[.slice none 0 0],el:=some 41}),
 (79,{size:=1,by':=8,zero:=[.nilFunc]}),
 (80,{size:=1,by':=8,zero:=[.nilFunc]}),
 (81,{size:=1,by':=8,zero:=[.nilFunc]}),
 (82,{size:=1,by':=8,zero:=[.int .u64 0],ik:=some .u64}),
 (83,{size:=2,by':=32,zero:=[.slice none 0 0,.int .i64 0],agg:=true,fs:=[⟨0,38,1,false⟩,⟨1,3,1,false⟩]}),
 (84,{size:=2,by':=32,zero:=[.slice none 0 0,.int .i64 0],agg:=true,fs:=[⟨0,38,1,false⟩,⟨1,3,1,false⟩]}),
 (85,{size:=1,by':=8,zero:=[.nilFunc]}),
 (86,{size:=1,by':=8,zero:=[.nilFunc]}),
 (87,{size:=1,by':=8,zero:=[.nilFunc]}),
 (88,{size:=1,by':=8,zero:=[.nilFunc]}),
 (89,{size:=1,by':=8,zero:=[.nilFunc]}),
 (90,{size:=5,by':=88,zero:=[.int .i64 0,.bool false,.slice none 0 0,.slice none 0 0,.slice none 0 0],agg:=true,fs:=[⟨0,3,1,false⟩,⟨1,51,3,true⟩,⟨4,54,1,false⟩]}),
 (91,{size:=5,by':=88,zero:=[.int .i64 0,.bool false,.slice none 0 0,.slice none 0 0,.slice none 0 0],agg:=true,fs:=[⟨0,3,1,false⟩,⟨1,51,3,true⟩,⟨4,54,1,false⟩]}),
 (92,{size:=1,by':=8,zero:=[.nilFunc]}),
 (94,{size:=1,by':=8,zero:=[.nilFunc]}),
 (95,{size:=1,by':=8,zero:=[.nilFunc]}),
 (96,{size:=1,by':=8,zero:=[.nilFunc]}),
 (98,{size:=1,by':=8,zero:=[.nilFunc]}),
 (99,{size:=1,by':=8,zero:=[.nilFunc]}),
 (100,{size:=1,by':=8,zero:=[.nilFunc]}),
 (101,{size:=1,by':=8,zero:=[.nilFunc]}),
 (102,{size:=1,by':=8,zero:=[.nilFunc]}),
 (103,{size:=1,by':=8,zero:=[.nilFunc]}),
 (104,{size:=1,by':=8,zero:=[.nilFunc]}),
 (105,{size:=1,by':=8,zero:=[.pointer none],pt:=true}),
 (106,{size:=1,by':=8,zero:=[.nilFunc]}),
 (108,{size:=1,by':=8,zero:=[.nilFunc]}),
 (109,{size:=1,by':=8,zero:=[.nilFunc]}),
 (110,{size:=1,by':=24,zero:=[.slice none 0 0],el:=some 143}),
 (111,{size:=4,by':=96,zero:=[.slice none 0 0,.slice none 0 0,.slice none 0 0,.slice none 0 0],agg:=true,fs:=[⟨0,22,1,false⟩,⟨1,22,1,false⟩,⟨2,110,1,false⟩,⟨3,38,1,false⟩]}),
 (112,{size:=4,by':=96,zero:=[.slice none 0 0,.slice none 0 0,.slice none 0 0,.slice none 0 0],agg:=true,fs:=[⟨0,22,1,false⟩,⟨1,22,1,false⟩,⟨2,110,1,false⟩,⟨3,38,1,false⟩]}),
 (114,{size:=1,by':=8,zero:=[.nilFunc]}),
 (115,{size:=1,by':=8,zero:=[.nilFunc]}),
 (116,{size:=1,by':=8,zero:=[.nilFunc]}),
 (117,{size:=1,by':=8,zero:=[.nilFunc]}),
 (118,{size:=1,by':=8,zero:=[.nilFunc]}),
 (119,{size:=1,by':=8,zero:=[.nilFunc]}),
 (120,{size:=1,by':=8,zero:=[.nilFunc]}),
 (121,{size:=1,by':=8,zero:=[.nilFunc]}),
 (122,{size:=1,by':=8,zero:=[.nilFunc]}),
 (124,{size:=1,by':=8,zero:=[.nilFunc]}),
 (125,{size:=1,by':=8,zero:=[.nilFunc]}),
 (127,{size:=1,by':=8,zero:=[.nilFunc]}),
 (128,{size:=1,by':=8,zero:=[.nilFunc]}),
 (129,{size:=1,by':=8,zero:=[.nilFunc]}),
 (130,{size:=1,by':=8,zero:=[.nilFunc]}),
 (131,{size:=1,by':=4,zero:=[.int .u32 0],ik:=some .u32}),
 (132,{size:=1,by':=8,zero:=[.nilFunc]}),
 (133,{size:=1,by':=8,zero:=[.nilFunc]}),
 (134,{size:=1,by':=8,zero:=[.nilFunc]}),
 (135,{size:=1,by':=8,zero:=[.nilFunc]}),
 (136,{size:=1,by':=8,zero:=[.nilFunc]}),
 (137,{size:=1,by':=8,zero:=[.nilFunc]}),
 (139,{size:=1,by':=8,zero:=[.nilFunc]}),
 (140,{size:=1,by':=8,zero:=[.nilFunc]}),
 (141,{size:=1,by':=8,zero:=[.nilFunc]}),
 (142,{size:=1,by':=8,zero:=[.nilFunc]}),
 (143,{size:=1,by':=8,zero:=[.map none],mp:=true}),
 (144,{size:=1,by':=8,zero:=[.nilFunc]}),
 (145,{size:=1,by':=8,zero:=[.nilFunc]}),
 (146,{size:=1,by':=8,zero:=[.nilFunc]}),
 (147,{size:=1,by':=8,zero:=[.nilFunc]}),
 (148,{size:=1,by':=8,zero:=[.nilFunc]}),
 (149,{size:=1,by':=8,zero:=[.nilFunc]}),
 (151,{size:=1,by':=8,zero:=[.nilFunc]}),
 (153,{size:=1,by':=8,zero:=[.nilFunc]}),
 (154,{size:=1,by':=8,zero:=[.nilFunc]}),
 (155,{size:=1,by':=8,zero:=[.nilFunc]}),
 (157,{size:=1,by':=8,zero:=[.nilFunc]}),
 (158,{size:=1,by':=8,zero:=[.nilFunc]}),
 (160,{size:=1,by':=8,zero:=[.nilFunc]}),
 (161,{size:=1,by':=8,zero:=[.int .u64 0],ik:=some .u64}),
 (162,{size:=1,by':=24,zero:=[.slice none 0 0],el:=some 4}),
 (163,{size:=1,by':=8,zero:=[.nilFunc]}),
 (164,{size:=1,by':=8,zero:=[.nilFunc]}),
 (166,{size:=1,by':=8,zero:=[.nilFunc]}),
 (167,{size:=1,by':=8,zero:=[.nilFunc]}),
 (168,{size:=1,by':=8,zero:=[.nilFunc]}),
 (169,{size:=1,by':=8,zero:=[.nilFunc]}),
 (170,{size:=5,by':=40,zero:=[.int .u64 0,.int .u64 0,.int .u64 0,.int .u64 0,.bool false],agg:=true,fs:=[⟨0,82,1,false⟩,⟨1,82,1,false⟩,⟨2,82,1,false⟩,⟨3,82,1,false⟩,⟨4,4,1,false⟩]}),
 (171,{size:=5,by':=40,zero:=[.int .u64 0,.int .u64 0,.int .u64 0,.int .u64 0,.bool false],agg:=true,fs:=[⟨0,82,1,false⟩,⟨1,82,1,false⟩,⟨2,82,1,false⟩,⟨3,82,1,false⟩,⟨4,4,1,false⟩]}),
 (172,{size:=1,by':=8,zero:=[.nilFunc]}),
 (173,{size:=1,by':=8,zero:=[.nilFunc]}),
 (175,{size:=1,by':=8,zero:=[.nilFunc]}),
 (176,{size:=1,by':=8,zero:=[.nilFunc]}),
 (177,{size:=1,by':=8,zero:=[.nilFunc]}),
 (178,{size:=1,by':=8,zero:=[.nilFunc]}),
 (179,{size:=1,by':=8,zero:=[.nilFunc]}),
 (180,{size:=1,by':=8,zero:=[.nilFunc]}),
 (181,{size:=1,by':=8,zero:=[.int .i64 0],ik:=some .i64}),
 (183,{size:=1,by':=8,zero:=[.nilFunc]}),
 (184,{size:=1,by':=8,zero:=[.nilFunc]}),
 (185,{size:=1,by':=8,zero:=[.nilFunc]}),
 (187,{size:=1,by':=8,zero:=[.nilFunc]}),
 (188,{size:=1,by':=8,zero:=[.nilFunc]}),
 (189,{size:=1,by':=8,zero:=[.nilFunc]}),
 (190,{size:=1,by':=8,zero:=[.nilFunc]}),
 (191,{size:=1,by':=8,zero:=[.nilFunc]}),
 (192,{size:=1,by':=8,zero:=[.nilFunc]}),
 (193,{size:=1,by':=8,zero:=[.nilFunc]}),
 (194,{size:=1,by':=8,zero:=[.nilFunc]}),
 (195,{size:=1,by':=8,zero:=[.nilFunc]}),
 (196,{size:=1,by':=8,zero:=[.int .u64 0],ik:=some .u64}),
 (197,{size:=1,by':=8,zero:=[.nilFunc]}),
 (198,{size:=1,by':=8,zero:=[.nilFunc]}),
 (199,{size:=1,by':=8,zero:=[.nilFunc]}),
 (200,{size:=1,by':=8,zero:=[.pointer none],pt:=true}),
 (201,{size:=1,by':=8,zero:=[.nilFunc]}),
 (202,{size:=1,by':=8,zero:=[.nilFunc]}),
 (203,{size:=1,by':=8,zero:=[.nilFunc]}),
 (204,{size:=1,by':=8,zero:=[.pointer none],pt:=true}),
 (206,{size:=1,by':=8,zero:=[.nilFunc]}),
 (207,{size:=1,by':=8,zero:=[.nilFunc]}),
 (216,{size:=1,by':=8,zero:=[.pointer none],pt:=true})]
theorem cAu:tab.map (λe=>bAl Tryz.prog e.1)=tab.map (λe=>bAm e.2):=by kernel_rfl
theorem cAv:tab.all (chk tab)=true:=by kernel_rfl
theorem cAw:tab.all (λe=>Nat.beq e.2.ck 0)=true:=by kernel_rfl
theorem cAx:∀e∈tab,∀vs,ckF e.2.ck vs=true->CkP Tryz.prog e.1 vs:=λe he vs h=>by rw[aO (aZ.1 cAw e he)] at h;exact(cAt h).elim
theorem cAy:∀e∈tab,e.2.mp=true->∃k e',Tryz.prog.underlying e.1=some (.map k e')/\Tryz.prog.underlying k=some (.int .i64):=λe he h=>by have:=aZ.1 (show tab.all (λe=>!e.2.mp||Nat.beq e.1 143)=true by kernel_rfl) e he;rw[h] at this;simp only[lM,rZ] at this;rw[aO this];exact⟨3,4,by kernel_rfl,by kernel_rfl⟩
theorem gT:Go.Vy.Good Tryz.prog (Go.Vy.look tab):=bIl cAu cAv cAx cAy kR
theorem mxd:Tryz.prog.follows .mixedOrders=true:=by kernel_rfl
end Go.Proofs.YtlhdigjbokkbiaaGreat
namespace Go.Vy
open Go.Vg Go.RowKit
section
variable {nb:Nat} {X:SS->Prop} {s:SS}
theorem bUd (hX:Tgt nb X) (t:Nat) (T es:Nat) (ht:iM s.sl t=some (.c (.v (.slice none 0 0)))) (hes:0<es) (hgl:s.gl=[]) (h:uV s.bl (T,es,[]) λbl'=>X ⟨(t,.c (.s (cnt s.bl 0) 0))::s.sl,[],bl',s.fl⟩):X s:=by
 have h':=oU h
 rw[zS] at h'
 refine hX.one (λρ0 w0 ρ f w hD=>?_) h'
 have hp:∀b,((none,0):Option Nat×Nat).1=some b->w.heap.size<=b:=λb hb=>by cases hb
 have kp:Kp ρ s.bl.length w (xU ρ s.bl.length (none,0)) (s.bl.length+1) w:=Kp.new hp (gE w)
 have hn:(s.bl++[(T,es,[])]).length=s.bl.length+1:=by simp
 refine⟨xU ρ s.bl.length (none,0),⟨hD.m.new hp (gE w) ?_,⟨λt' d ht'=>?_,λt' gs d ht'=>by cases ht'⟩,hD.l⟩⟩
 ·unfold Bq
  rw[mA]
  exact⟨rfl,rfl,hes⟩
 show Hd _ (s.bl++[(T,es,[])]).length w d (f t')
 rw[hn]
 simp only[iM] at ht'
 cases hb:Nat.beq t t' with
 |true=>
  rw[hb] at ht'
  injection ht' with ht'
  subst ht'
  have:=aO hb
  subst this
  have he:=(hD.f.sl t _ ht).inv_c.inv_v
  refine .c ⟨dK _,?_⟩
  rw[mA,he]
  rfl
 |false=>rw[hb] at ht';exact(hD.f.sl t' d ht').kp kp
theorem iY {cl:List Bool} {d:DV} {o:OutF} (hd:EqD d o.d) (hb:aNn s.bl o.bl) (hf:bIm s.fl o.fl) (hnb:nb<=o.bl.length) (hsc:scB o.bl.length o.bl) (hsd:scD o.bl.length o.d=true) (hcl:ClB cl o.bl):bIg cl nb s d o:=λρ0 w0 ρ w v hD0 hF0 hv0=>by
 have hs0:∀t d',iM [(0,d)] t=some d'->Hd ρ s.bl.length w d' v:=λt d' ht=>by
  simp only[iM] at ht
  cases hb:Nat.beq 0 t with
  |true=>rw[hb] at ht;injection ht with ht;subst ht;exact hv0
  |false=>rw[hb] at ht;cases ht
 have hq:Dn ρ0 w0 nb ⟨[(0,d)],[],s.bl,s.fl⟩ ρ (λ_=>v) w:=⟨hD0,⟨hs0,λt gs d ht=>by cases ht⟩,hF0⟩
 obtain⟨_,ρ',_,h⟩:=dG (s:=⟨[(0,d)],[],s.bl,s.fl⟩) (M:=λ_=>true) (base:=[]) (chg:=λ_:Unit=>[(0,o.d)]) (bls:=λ_=>o.bl) (fls:=λ_=>o.fl) (C:=λ_=>True) (λt d ht=>by cases ht) () trivial (show([],[])=([],[]) from rfl) hb hf (show AllC [(0,d)] [(0,o.d)] from hd) hnb hsc (by simpa using hsd) _ _ _ _ _ hq
 exact⟨ρ',h.m,h.f.sl 0 _ rfl,hcl,h.l⟩
end
section
variable {nb:Nat} {X:SS->Prop} {s:SS}
theorem bLh (hX:Tgt nb X) (i k T es:Nat) {T0 e0:Nat} {l:List CV} (hb:s.bl[i]? =some (T0,e0,l)) (hk:l[k]? =some (.v (.slice none 0 0))) (hes:0<es) (hgl:s.gl=[]) (h:qE s.bl i (T0,e0,l.set k (.s (cnt s.bl 0) 0)) λb1=>uV b1 (T,es,[]) λbl'=>X ⟨s.sl,[],bl',s.fl⟩):X s:=by
 have h':=oU (kL h)
 rw[zS] at h'
 have hi:=eP hb
 refine hX.one (λρ0 w0 ρ f w hD=>?_) h'
 have hp:∀b,((none,0):Option Nat×Nat).1=some b->w.heap.size<=b:=λb hb=>by cases hb
 have kp:Kp ρ s.bl.length w (xU ρ s.bl.length (none,0)) (s.bl.length+1) w:=Kp.new hp (gE w)
 have hn:(s.bl.set i (T0,e0,l.set k (.s s.bl.length 0))++[(T,es,([]:List CV))]).length=s.bl.length+1:=by simp
 have hn0:(s.bl++[(T,es,([]:List CV))]).length=s.bl.length+1:=by simp
 have h1:DnW ρ0 w0 nb (s.bl++[(T,es,[])]) (xU ρ s.bl.length (none,0)) w:=hD.m.new hp (gE w) (by unfold Bq;rw[mA];exact⟨rfl,rfl,hes⟩)
 refine⟨xU ρ s.bl.length (none,0),⟨⟨λj T2 e2 l2 hj=>?_,?_,?_,?_,h1.rel,h1.pl,h1.zz,?_,h1.ffr⟩,⟨λt' d ht'=>?_,λt' gs d ht'=>by cases ht'⟩,hD.l⟩⟩
 ·rw[hn]
  have e:s.bl.set i (T0,e0,l.set k (.s s.bl.length 0))++[(T,es,([]:List CV))]=(s.bl++[(T,es,[])]).set i (T0,e0,l.set k (.s s.bl.length 0)):=by rw[List.set_append_left _ _ hi]
  replace hj:(s.bl.set i (T0,e0,l.set k (.s s.bl.length 0))++[(T,es,([]:List CV))])[j]? =_:=hj
  rw[e] at hj
  have hb0:(s.bl++[(T,es,([]:List CV))])[i]? =some (T0,e0,l):=by rw[bW hi];exact hb
  rcases oT hj with ⟨rfl,h2,_⟩|⟨_,h2⟩
  ·injection h2 with h2 h3
   injection h3 with h3 h4
   subst h2 h3 h4
   have hq:=h1.ok j _ _ l hb0
   rw[hn0] at hq
   unfold Bq at hq ⊢
   cases hρ:(xU ρ s.bl.length (none,0) j).1 with
   |none=>
    simp only[hρ] at hq ⊢
    rw[hq.1] at hk
    cases hk
   |some b=>
    simp only[hρ] at hq ⊢
    obtain⟨vl,junk,q1,q2,q3⟩:=hq
    refine⟨vl,junk,q1,Hl.of_get (by rw[bT];exact q2.len.symm) λq c y hc hy=>?_,q3⟩
    rcases oT hc with ⟨rfl,rfl,_⟩|⟨_,h5⟩
    ·obtain⟨y',h6,h7⟩:=q2.get hk
     rw[hy] at h6
     injection h6 with h6
     subst h6
     have he:=h7.inv_v
     refine⟨dK _,?_⟩
     rw[mA,he]
     rfl
    obtain⟨y',h6,h7⟩:=q2.get h5
    rw[hy] at h6
    injection h6 with h6
    subst h6
    exact h7
  have:=h1.ok j _ _ _ h2
  rw[hn0] at this
  exact this
 ·have:=h1.inj
  rw[hn0] at this
  simpa only[hn] using this
 ·have:=h1.fr
  rw[hn0] at this
  simpa only[hn] using this
 ·have:=h1.nbl
  rw[hn0] at this
  simpa only[hn] using this
 ·have:=h1.fam
  rw[hn0] at this
  simpa only[hn] using this
 show Hd _ (s.bl.set i (T0,e0,l.set k (.s s.bl.length 0))++[(T,es,([]:List CV))]).length w d (f t')
 rw[hn]
 exact(hD.f.sl t' d ht').kp kp
end
theorem FamOk.nil {at':Nat->Option Nat×Nat} {Z:Nat->Prop} {n:Nat} {w:World}:FamOk ⟨at',Z,[]⟩ n w:=
 {ok:=λF hF=>nomatch hF
  own:=λi b _ _ hf=>by
   obtain⟨F,hF,_⟩:=hf
   cases hF
  inj:=λf f' F F' j j' b h1=>nomatch h1}
section
variable {ρ0 ρ ρ':Pl} {w0 w w':World} {nb n:Nat} {bl:BL} {s:SS} {f:Nat->Value}
theorem DnW.slf (h:DnW ρ0 w0 nb bl ρ w) (hn:bl.length=n) (k:Kp ρ n w ρ' n w') (hs:∀i b,i<n->(ρ i).1=some b->w'.heap[b]? =w.heap[b]?) (hF:ρ'.F=ρ.F) (hf:∀b,InF ρ b->w'.heap[b]? =w.heap[b]?) (hz:∀b,w'.heap.size<=b\/InF ρ' b->ρ'.Z b):DnW ρ' w' n bl ρ' w':=by
 subst hn
 exact⟨λi T e l hi=>(h.ok i T e l hi).kp k (eP hi) λb hb=>hs i b (eP hi) hb,λi j b hi hj hib hjb=>h.inj i j b hi hj (by rw[<-k.pl i hi];exact hib) (by rw[<-k.pl j hj];exact hjb),λi b hi hi2 _=>absurd hi2 oM,aI _,
  ⟨rfl,rfl,rfl,aI _,λ_ _ _ _=>rfl⟩,λ_ _=>rfl,⟨rfl,hz⟩,h.fam.mono hF k.z hf λi b hi hb=>h.fam.own i b hi (by rw[<-k.pl i hi];exact hb),λb hb=> .inr hb⟩
theorem aKk {l:Nat} (o:Obj) (hz:¬ρ.Z l):Kp ρ n w ρ n (w.putObj l o):=
 ⟨aI _,λ_ _=>rfl,λb hb=>⟨⟨by rw[World.putObj_size];exact hb.lt,hb.no,hb.z,hb.nf⟩,World.putObj_heap_other λe=>hz (e▸hb.z)⟩⟩
theorem Dn.putO {l:Nat} (o:Obj) (h:Dn ρ0 w0 nb s ρ f w) (hz:¬ρ.Z l) (hno:∀i,i<s.bl.length->(ρ i).1≠some l) (hl:l<w0.heap.size) (hnf:¬InF ρ l):Dn ρ0 (w0.putObj l o) nb s ρ f (w.putObj l o):=by
 have hl2:l<w.heap.size:=bH hl h.m.rel.size
 refine⟨⟨λi T e c hi=>(h.m.ok i T e c hi).kp (aKk o hz) (eP hi) λb hb=>World.putObj_heap_other λe=>hno i (eP hi) (e▸hb),h.m.inj,λi b h1 h2 h3=>by rw[World.putObj_size];exact h.m.fr i b h1 h2 h3,h.m.nbl,⟨h.m.rel.os,h.m.rel.tape,h.m.rel.output,by rw[World.putObj_size,World.putObj_size];exact h.m.rel.size,λk hk hn hf=>?_⟩,h.m.pl,⟨h.m.zz.1,λb hb=>h.m.zz.2 b (by rw[World.putObj_size] at hb;exact hb)⟩,h.m.fam.mono rfl (aKk o hz).z (λb hb=>World.putObj_heap_other λe=>hnf (e▸hb)) h.m.fam.own,λb hb=>by rw[World.putObj_size];exact h.m.ffr b hb⟩,h.f.kp rfl rfl (aKk o hz),h.l⟩
 by_cases e:k=l
 ·subst e
  rw[World.putObj_heap_same hl2,World.putObj_heap_same hl]
 rw[World.putObj_heap_other e,World.putObj_heap_other e]
 exact h.m.rel.block k (by rw[World.putObj_size] at hk;exact hk) hn hf
structure Mid (w:World) (n:Nat) (ρ:Pl) (W:World):Prop where
 os:W.os=w.os
 tape:W.tape=w.tape
 output:W.output=w.output
 size:w.heap.size+2<=W.heap.size
 block:∀k,k<w.heap.size->(∀i,i<n->(ρ i).1≠some k)->¬InF ρ k->W.heap[k]? =w.heap[k]?
theorem Mid.step {W W':World} {bl':BL} {ρe ρ2:Pl} (h:Mid w n ρ W) (hD:DnW ρe W n bl' ρ2 W') (hp:∀i,i<n->ρe i=ρ i) (hF:ρe.F=ρ.F):Mid w n ρ W':=
 ⟨hD.rel.os.trans h.os,hD.rel.tape.trans h.tape,hD.rel.output.trans h.output,bA h.size hD.rel.size,λk hk hn hf=>(hD.rel.block k (by have:=h.size;omega) (λi hi=>by rw[hD.pl i hi,hp i hi];exact hn i hi) (by unfold InF;rw[hF];exact hf)).trans (h.block k hk hn hf)⟩
theorem Mid.put {W:World} {l:Nat} (o:Obj) (h:Mid w n ρ W) (hl:w.heap.size<=l):Mid w n ρ (W.putObj l o):=
 ⟨h.os,h.tape,h.output,by rw[World.putObj_size];exact h.size,λk hk hn hf=>(World.putObj_heap_other oM).trans (h.block k hk hn hf)⟩
theorem DnW.back {W Wz:World} {bl':BL} {ρe ρx:Pl} (hD:DnW ρ0 w0 nb bl ρ w) (hn:bl.length=n) (hm:Mid w n ρ W) (h:DnW ρe W n bl' ρx Wz) (hp:∀i,i<n->ρe i=ρ i) (hZ:∀b,ρe.Z b->ρ.Z b) (hFe:ρe.F=ρ.F):DnW ρ0 w0 nb bl' ⟨ρx.at',ρ.Z,ρx.F⟩ Wz:=by
 subst hn
 have hpx:∀i,i<bl.length->ρx i=ρ i:=λi hi=>(h.pl i hi).trans (hp i hi)
 have hm2:=hm.step h hp hFe
 have k:Kp ρx bl'.length Wz ⟨ρx.at',ρ.Z,ρx.F⟩ bl'.length Wz:=⟨aI _,λ_ _=>rfl,λb hb=>⟨⟨hb.lt,hb.no,hZ b (by rw[<-h.zz.1];exact hb.z),hb.nf⟩,rfl⟩⟩
 have hff:∀b,InF ρ b->w0.heap.size<=b\/InF ρ0 b:=hD.ffr
 refine⟨λi T e l hi=>(h.ok i T e l hi).kp k (eP hi) λ_ _=>rfl,h.inj,λi b h1 h2 h3=>?_,bA hD.nbl h.nbl,⟨hm2.os.trans hD.rel.os,hm2.tape.trans hD.rel.tape,hm2.output.trans hD.rel.output,bA hD.rel.size (by have:=hm2.size;omega),λk hk hn hf=>?_⟩,λi hi=>(hpx i (bH hi hD.nbl)).trans (hD.pl i hi),⟨hD.zz.1,hD.zz.2⟩,h.fam.mono rfl k.z (λ_ _=>rfl) h.fam.own,λb hb=>?_⟩
 ·by_cases hi:i<bl.length
  ·exact hD.fr i b h1 hi (by rw[<-hpx i hi];exact h3)
  have:=h.fr i b oM h2 h3
  have:=hm.size
  have:=hD.rel.size
  omega
 ·have hk2:=bH hk hD.rel.size
  have hno:∀i,i<bl.length->(ρ i).1≠some k:=λi hi he=>by
   by_cases h1:i<nb
   ·exact hn i h1 (show(ρx i).1=some k by rw[hpx i hi];exact he)
   have:=hD.fr i k oM hi he
   omega
  have hnf:¬InF ρ k:=λhh=>(hff k hh).elim (λh=>by omega) hf
  exact(hm2.block k hk2 hno hnf).trans (hD.rel.block k hk (λi hi=>hno i (bH hi hD.nbl)) hf)
 rcases h.ffr b hb with h1|h1
 ·have:=hm.size
  have:=hD.rel.size
  exact .inl oM
 exact hff b (by unfold InF at h1 ⊢;rwa [hFe] at h1)
theorem Fr.nil {fl:List Fam}:Fr ⟨[],[],bl,fl⟩ ρ w f:=⟨λt d ht=>(by cases ht),λt gs d ht=>by cases ht⟩
theorem Fr.cons {t:Nat} {d:DV} {sl:List (Nat×DV)} {fl:List Fam} (h:Hd ρ bl.length w d (f t)) (hF:Fr ⟨sl,[],bl,fl⟩ ρ w f):Fr ⟨(t,d)::sl,[],bl,fl⟩ ρ w f:=⟨λt' d' ht=>by
 simp only[iM] at ht
 cases hb:Nat.beq t t' with
 |true=>rw[hb] at ht;injection ht with ht;subst ht;rw[<-aO hb];exact h
 |false=>rw[hb] at ht;exact hF.sl t' d' ht,λt gs d ht=>by cases ht⟩
end
/-! ### a function with such a loop -/
abbrev mkD (d:Nat):Deferred:={target:=.collected d,args:=#[]}
def upM (N:Nat) (R:(Nat->Value)->World->Prop):Exit->Act->World->Prop
 |.ret,a,w=>∃f,(Fm [] N f a/\R f w)\/∃d,Fm [mkD d] N f a/\w.heap[d]? =some (.deferred (some []))/\R f (w.putObj d (.deferred none))
 |_,_,_=>False
section
variable {P:Program} {T:TT} {nb N:Nat} {x y z:Code} {KR:SS->Prop} {s:SS}
abbrev RD (ρ0:Pl) (w0:World) (nb:Nat) (KR:SS->Prop) (f:Nat->Value) (w:World):Prop:=∃s ρ,KR s/\Dn ρ0 w0 nb s ρ f w
def Sd0 (P:Program) (nb N:Nat) (c:Code) (KR:SS->Prop) (s:SS):Prop:=∀ρ0 w0 ρ f w a,Dn ρ0 w0 nb s ρ f w->Fm [] N f a->c.wpIn (fen none) 0 P (upM N (RD ρ0 w0 nb KR)) a w
def Sd1 (P:Program) (nb N:Nat) (z y:Code) (KR:SS->Prop) (s:SS):Prop:=∀ρ0 w0 ρ f w a,Dn ρ0 w0 nb s ρ f w->Fm [] N f a->z.wpIn (fen none) 0 P (Exit.then (y.wpIn (fen none) 0 P (upM N (RD ρ0 w0 nb KR))) (upM N (RD ρ0 w0 nb KR))) a w
theorem aNq {X:SS->Prop} (h:Sd P nb N x ⟨X,λ_ _=>False,KR⟩ s) {ρ0 ρ:Pl} {w0 w:World} {f:Nat->Value} {a:Act} (hD:Dn ρ0 w0 nb s ρ f w) {dl:List Deferred} (ha:Fm dl N f a) {ro:Option Nat}:x.wpIn (fen ro) 0 P (up dl N ⟨RD ρ0 w0 nb X,λ_ _ _=>False,RD ρ0 w0 nb KR⟩) a w:=
 h ρ0 w0 ρ f w ⟨RD ρ0 w0 nb X,λ_ _ _=>False,RD ρ0 w0 nb KR⟩ ⟨λs ρ f w hk hD=>⟨s,ρ,hk,hD⟩,λ_ _ _ _ _ hk _=>hk,λs ρ f w hk hD=>⟨s,ρ,hk,hD⟩⟩ hD ro dl a ha
theorem Sd0.seq (h:Sd P nb N x ⟨Sd0 P nb N y KR,λ_ _=>False,KR⟩ s):Sd0 P nb N (.seq x y) KR s:=λρ0 w0 ρ f w a hD ha=>
 wpIn_seq (wpIn_mono (aNq h hD ha) λe a w hq=>by
  cases e with
  |normal=>obtain⟨f,hf,s,ρ,hk,hD⟩:=hq;exact hk _ _ _ _ _ _ hD hf
  |ret=>obtain⟨f,hf,hr⟩:=hq;exact⟨f,.inl ⟨hf,hr⟩⟩
  |exit i=>obtain⟨f,hf,hr⟩:=hq;exact hr.elim
  |goto l=>exact hq.elim
  |panic c=>exact hq.elim
  |outgrown=>exact hq.elim)
theorem Sd0.seq1 (h:Sd P nb N x ⟨Sd1 P nb N z y KR,λ_ _=>False,KR⟩ s):Sd0 P nb N (.seq (.seq x z) y) KR s:=λρ0 w0 ρ f w a hD ha=>
 wpIn_seq (wpIn_seq (wpIn_mono (aNq h hD ha) λe a w hq=>by
  cases e with
  |normal=>obtain⟨f,hf,s,ρ,hk,hD⟩:=hq;exact hk _ _ _ _ _ _ hD hf
  |ret=>obtain⟨f,hf,hr⟩:=hq;exact⟨f,.inl ⟨hf,hr⟩⟩
  |exit i=>obtain⟨f,hf,hr⟩:=hq;exact hr.elim
  |goto l=>exact hq.elim
  |panic c=>exact hq.elim
  |outgrown=>exact hq.elim))
def ItC (P:Program) (gf:FuncId) (cap:List (Nat×Nat)) (n:Nat) (X:BL->Prop) (fl:List Fam) (m:Nat) (enc:Nat->Value):Prop:=
 ∀(ρ:Pl) (l:Nat) (J:BL->Nat->World->Prop),ρ.F=fl->(∀bl j W,J bl j W->X bl/\bl.length=n/\DnW ρ W n bl ρ W)->(∀bl j W W' r ρ2,J bl j W->DnW ρ W n (bl++r) ρ2 W'->ρ2.F=fl->J bl j W')->
  (∀bl j W,j<m->J bl j W->YieldAt (fen none) 0 P l #[enc j] W λe W'=>e= .returned (.bool true)/\∃bl',J bl' (j+1) W')->
  ∀bl W,J bl 0 W->CallsIn (fen none) 0 P gf (#[.func (.yield l) #[] #[]]++(cap.map (ptr ρ)).toArray) W λe W'=>(∃v,e= .returned v)/\∃bl',J bl' m W'
theorem bAq {g:Operand} {p id:Nat} {asg bd:Code} {gf:FuncId} {cap:List (Nat×Nat)} {n:Nat} {σ:Type} (bls:σ->BL) (C:σ->Nat->Prop) (m:Nat) (X:BL->Prop) (enc:Nat->Value) (sc:Nat->List CV) (g0:σ)
 (hgl:s.gl=[]) (hg:val [] s g=some (.c (.f gf [] cap))) (hE:Ent P gf) (hit:ItC P gf cap n X s.fl m enc) (hb0:s.bl=bls g0) (hn:∀g,(bls g).length=n) (hX:∀g,X (bls g)) (h0:C g0 0)
 (henc:∀ρ W bl j,X bl->bl.length=n->ρ.F=s.fl->DnW ρ W n bl ρ W->j<m->Hd ρ n W (.a (sc j)) (enc j)) (hp:p<N)
 (hbody:∀g j,C g j->j<m->Sd P n N asg ⟨λs1=>s1.fl=s.fl/\Sd P n N bd ⟨λs2=>∃g',C g' (j+1)/\aNn s2.bl (bls g')/\s2.fl=s.fl,λ_ _=>False,λ_=>False⟩ s1,λ_ _=>False,λ_=>False⟩ ⟨(p,.a (sc j))::s.sl,[],bls g,s.fl⟩)
 (hsc:∀g,scB n (bls g)) (hy:∀g,C g m->Sd P n N y ⟨λ_=>False,λ_ _=>False,λs'=>s'.fl=s.fl/\KR s'⟩ ⟨s.sl,[],bls g,s.fl⟩):Sd1 P nb N (.block id (.rangeFunc g #[p] asg bd)) y KR s:=λρ0 w0 ρ f w a hD ha=>by
 have hbn:s.bl.length=n:=by rw[hb0];exact hn g0
 have hF:ρ.F=s.fl:=hD.l
 have inF:∀b,InF ρ b->b<w.heap.size/\ρ.Z b:=λb hb=>⟨hD.m.fam.lt hb,hD.m.zz.2 b (hD.m.ffr b hb)⟩
 obtain⟨-,hgv⟩:=(cF hD.f fP hg).inv_c
 rw[<-ha.eval] at hgv
 refine wpIn_block (wpIn_rangeFunc ?_)
 intro fn hfn
 obtain⟨rec,hrec⟩:∃rec:LoopState->Option Code->Loop,rec=λst pe=>{state:=st,pending:=pe,fn,tmps:=a.tmps,params:=#[p],assign:=asg,body:=bd,defers:=w.heap.size}:=⟨_,rfl⟩
 obtain⟨W1,hW1⟩:∃W1,(w.alloc (.deferred (some []))).alloc (.loop (rec .ready none))=W1:=⟨_,rfl⟩
 have hL1:W1.heap[w.heap.size+1]? =some (.loop (rec .ready none)):=by
  rw[<-hW1];have:=World.alloc_heap_new (w.alloc (.deferred (some []))) (.loop (rec .ready none));rwa [World.size_alloc] at this
 have hK1:W1.heap[w.heap.size]? =some (.deferred (some [])):=by
  rw[<-hW1];exact(Below.heap_alloc _ _ _ (by simp)).trans (World.alloc_heap_new w _)
 have hE1:Ext w W1:=by rw[<-hW1];exact(oE w _).trans (oE _ _)
 have hs1:W1.heap.size=w.heap.size+2:=by rw[<-hW1];simp
 let ρe:Pl:=⟨ρ.at',λb=>(ρ.Z b/\b<w.heap.size)\/w.heap.size+2<=b,ρ.F⟩
 have hze:∀b,w.heap.size+2<=b\/InF ρe b->ρe.Z b:=λb hb=>hb.elim .inr λh=> .inl ⟨(inF b h).2,(inF b h).1⟩
 have zl:¬ρe.Z (w.heap.size+1):=λh=>h.elim (λh=>by have:=h.2;omega) λh=>by omega
 have zd:¬ρe.Z w.heap.size:=λh=>h.elim (λh=>by have:=h.2;omega) λh=>by omega
 have hZ:∀b,ρe.Z b->ρ.Z b:=λb hb=>hb.elim (λh=>h.1) λh=>by
  rw[hD.m.zz.1,<-hD.m.zz.1]
  exact hD.m.zz.2 b (.inl (bA hD.m.rel.size oM))
 have own:∀i b,i<n->(ρ i).1=some b->b<w.heap.size:=λi b hi hb=>hD.m.lt (by rw[hbn];exact hi) hb
 have kpm:∀W,Mid w n ρ W->Kp ρ n w ρe n W:=λW hm=>⟨aI _,λ_ _=>rfl,λb hb=>⟨⟨by have:=hb.lt;have:=hm.size;omega,hb.no,.inl ⟨hb.z,hb.lt⟩,hb.nf⟩,hm.block b hb.lt hb.no hb.nf⟩⟩
 have hM1:Mid w n ρ W1:=⟨hE1.os,hE1.tape,hE1.output,by omega,λk hk _ _=>hE1.block k hk⟩
 let J:BL->Nat->World->Prop:=λbl j W=>(∃g,bl=bls g/\C g j/\DnW ρe W n (bls g) ρe W)/\Mid w n ρ W/\W.heap[w.heap.size+1]? =some (.loop (rec .ready none))/\W.heap[w.heap.size]? =some (.deferred (some []))
 have hJ1:J (bls g0) 0 W1:=⟨⟨g0,rfl,h0,by
  have:=hD.m.slf hbn (kpm W1 hM1) (λi b hi hb=>hE1.block b (own i b hi hb)) rfl (λb hb=>hE1.block b (inF b hb).1) λb hb=>hze b (hb.imp oM λh=>h)
  rwa [hb0] at this⟩,hM1,hL1,hK1⟩
 have hJe:∀bl j W W' r ρ2,J bl j W->DnW ρe W n (bl++r) ρ2 W'->ρ2.F=s.fl->J bl j W':=λbl j W W' r ρ2 ⟨⟨g,hb,hc,hd⟩,hm,hl,hk⟩ h hF2=>by
  subst hb
  have hd2:=h.drop (by rw[hn g];exact hsc g) (by rw[hn g];exact aI _)
  have hm2:=hm.step h (λ_ _=>rfl) rfl
  have kk:∀q,w.heap.size<=q->q<W.heap.size->W'.heap[q]? =W.heap[q]?:=λq h1 h2=>h.rel.block q h2 (λi hi he=>by
   rw[h.pl i hi] at he
   have:=own i q hi he
   omega) λhf=>by have:=(inF q hf).1;omega
  have e2:ρe.F=ρ2.F:=hF.trans hF2.symm
  refine⟨⟨g,rfl,hc,hd2.slf (hn g) ⟨aI _,λi hi=>(h.pl i hi).symm,λb hb=>⟨⟨hb.lt,λi hi=>by rw[<-h.pl i hi];exact hb.no i hi,by rw[<-h.zz.1];exact hb.z,by unfold InF;rw[e2];exact hb.nf⟩,rfl⟩⟩ (λ_ _ _ _=>rfl) e2 (λ_ _=>rfl) λb hb=>hze b (hb.imp (by have:=hm2.size;omega) λh=>h)⟩,hm2,(kk _ oM (fW hl)).trans hl,(kk _ (aI _) (fW hk)).trans hk⟩
 refine⟨w.heap.size+1,[mkD w.heap.size],W1,{target:=.fn (.func gf) (cap.map (ptr ρ)).toArray,args:=#[.func (.yield (w.heap.size+1)) #[] #[]]},W1,gf,#[.func (.yield (w.heap.size+1)) #[] #[]]++(cap.map (ptr ρ)).toArray,W1,?_,?_,?_,?_,(λh=>by cases h),?_⟩
 ·rw[<-hW1,hrec];exact run_enterLoop_outer _ _ _ _ _
 ·simp only[resolve,hgv]
  simp[go_sem]
 ·intro f' _;trivial
 ·have:=hE (#[.func (.yield (w.heap.size+1)) #[] #[]]++(cap.map (ptr ρ)).toArray) W1
  simpa[invoke,go_sem] using this
 refine(hit ρe (w.heap.size+1) J hF (λbl j W ⟨⟨g,hb,_,hd⟩,_⟩=>hb▸⟨hX g,hn g,hd⟩) hJe ?_ _ W1 hJ1).mono ?_
 ·rintro bl j W hj ⟨⟨g,rfl,hc,hd⟩,hm,hl,hk⟩
  have hlt:w.heap.size+1<W.heap.size:=fW hl
  have hy:=run_yield (P:=P) (args:=#[enc j]) hl (by rw[hrec];rfl)
  rw[hrec] at hy
  refine⟨fn,_,asg,bd,hy,roundIn_of_wpIn hfn ?_⟩
  have hfr:Fr ⟨(p,.a (sc j))::s.sl,[],bls g,s.fl⟩ ρe W (st f p (enc j)):=⟨λt d ht=>by
   show Hd ρe (bls g).length W d _
   rw[hn g]
   simp only[iM] at ht
   cases hpt:Nat.beq p t with
   |true=>
    rw[hpt] at ht
    injection ht with ht
    subst ht
    have:=aO hpt
    subst this
    rw[aEs]
    exact henc ρe W (bls g) j (hX g) (hn g) hF hd hj
   |false=>
    rw[hpt] at ht
    rw[qO _ _ _ _ (iQ (pD hpt))]
    have:=hD.f.sl t d ht
    rw[hbn] at this
    exact this.kp (kpm W hm),λt gs d ht=>by cases ht⟩
  have hD1:Dn ρe W n ⟨(p,.a (sc j))::s.sl,[],bls g,s.fl⟩ ρe (st f p (enc j)) W:=⟨hd,hfr,hF⟩
  have hfm:Fm [] N (st f p (enc j)) {tmps:=(#[p].zip #[enc j]).foldl (λt (p,v)=>t.setIfInBounds p v) a.tmps,defers:=[]}:=by
   have:=(show Fm [] N f {tmps:=a.tmps,defers:=[]} from ⟨rfl,ha.2⟩).put hp (enc j)
   simpa[Act.put] using this
  refine wpIn_mono (aNq (ro:=some (w.heap.size+1)) (hbody g j hc hj) hD1 hfm) ?_
  rintro e a1 Wa hq
  cases e with
  |normal=>
   obtain⟨f1,hf1,s1,ρ1,⟨hF1,hk1⟩,hD2⟩:=hq
   have keep:∀{s2:SS} {ρ2:Pl} {B W2:World},DnW ρe B n s2.bl ρ2 W2->W.heap.size<=B.heap.size->(∀q,w.heap.size<=q->q<W.heap.size->∀i,i<s2.bl.length->(ρ2 i).1≠some q)/\∀q,w.heap.size<=q->q<W.heap.size->W2.heap[q]? =B.heap[q]?:=λ{s2 ρ2 B W2} h hB=>by
    have hno:∀q,w.heap.size<=q->q<W.heap.size->∀i,i<s2.bl.length->(ρ2 i).1≠some q:=λq h1 h2 i hi he=>by
     by_cases hin:i<n
     ·rw[h.pl i hin] at he
      have:=own i q hin he
      omega
     have:=h.fr i q oM hi he
     omega
    exact⟨hno,λq h1 h2=>h.rel.block q oM (λi hi=>hno q h1 h2 i (bH hi h.nbl)) λhf=>by have:=(inF q hf).1;omega⟩
   obtain⟨no1,ke1⟩:=keep hD2.m (aI _)
   have hla:=(ke1 _ oM hlt).trans hl
   have hka:=(ke1 _ (aI _) (fW hk)).trans hk
   have hz1:ρ1.Z=ρe.Z:=hD2.m.zz.1
   have hD3:=hD2.putO (.loop {rec .ready none with state:=.busy}) (by rw[hz1];exact zl) (no1 _ oM hlt) hlt (λhf=>by
    have hf2:InF ρ (w.heap.size+1):=by unfold InF at hf ⊢;rwa [hD2.l,hF1,<-hF] at hf
    have:=(inF _ hf2).1
    omega)
   refine⟨_,run_beginRound hla (by rw[hrec]),?_⟩
   refine wpIn_mono (aNq (ro:=some (w.heap.size+1)) hk1 hD3 hf1) ?_
   rintro e a2 Wb hq
   cases e with
   |normal=>
    obtain⟨f2,hf2,s2,ρ2,⟨g',hc',hpre,hfl2⟩,hD4⟩:=hq
    obtain⟨no2,ke2⟩:=keep hD4.m (by rw[World.putObj_size];exact aI _)
    have hlb:=(ke2 _ oM hlt).trans (World.putObj_heap_same hlt)
    have hkb:=(ke2 _ (aI _) (fW hk)).trans ((World.putObj_heap_other oM).trans hk)
    have hend:(Instr.endRound (w.heap.size+1) none).run P Wb= .ok (.bool true) (Wb.putObj (w.heap.size+1) (.loop (rec .ready none))):=by
     have:=run_endRound (P:=P) none hlb
     rw[hrec] at this ⊢
     exact this
    obtain⟨r,hr⟩:=xE hpre
    have hF2:ρe.F=ρ2.F:=hF.trans (hD4.l.trans hfl2).symm
    have hd5:DnW ρe (W.putObj (w.heap.size+1) (.loop {rec .ready none with state:=.busy})) n (bls g') ρ2 Wb:=(show DnW _ _ n (bls g'++r) ρ2 Wb from hr▸hD4.m).drop (by rw[hn g'];exact hsc g') (by rw[hn g'];exact aI _)
    have hltb:w.heap.size+1<Wb.heap.size:=fW hlb
    have hkp:Kp ρ2 n Wb ρe n (Wb.putObj (w.heap.size+1) (.loop (rec .ready none))):=⟨aI _,λi hi=>(hd5.pl i hi).symm,λb hb=>by
     have hz:=hb.z
     rw[hd5.zz.1] at hz
     exact⟨⟨by rw[World.putObj_size];exact hb.lt,λi hi=>by rw[<-hd5.pl i hi];exact hb.no i hi,hz,by unfold InF;rw[hF2];exact hb.nf⟩,World.putObj_heap_other λe=>zl (e▸hz)⟩⟩
    refine⟨_,_,hend,rfl,bls g',⟨g',rfl,hc',hd5.slf (hn g') hkp (λi b hi hb=>World.putObj_heap_other λe=>?_) hF2 (λb hb=>World.putObj_heap_other λe=>?_) λb hb=>hze b (hb.imp (λh=>by rw[World.putObj_size] at h;omega) λh=>h)⟩,?_,?_,?_⟩
    ·rw[hd5.pl i hi] at hb
     have:=own i b hi hb
     omega
    ·have hf2:InF ρ b:=by unfold InF at hb ⊢;rwa [<-hF2] at hb
     have:=(inF b hf2).1
     omega
    ·exact(((hm.put _ oM).step hD4.m (λ_ _=>rfl) rfl).put _ oM)
    ·exact World.putObj_heap_same hltb
    exact(World.putObj_heap_other oM).trans hkb
   |exit i=>obtain⟨f,hf,hr⟩:=hq;exact hr.elim
   |ret=>obtain⟨f,hf,s,ρ,hk,hD⟩:=hq;exact hk.elim
   |goto l=>exact hq.elim
   |panic c=>exact hq.elim
   |outgrown=>exact hq.elim
  |exit i=>obtain⟨f,hf,hr⟩:=hq;exact hr.elim
  |ret=>obtain⟨f,hf,s,ρ,hk,hD⟩:=hq;exact hk.elim
  |goto l=>exact hq.elim
  |panic c=>exact hq.elim
  |outgrown=>exact hq.elim
 rintro e W2 ⟨⟨v,rfl⟩,_,⟨g,rfl,hc,hd⟩,hm,hl,hk⟩
 have hlt:w.heap.size+1<W2.heap.size:=fW hl
 have hend:=run_endLoop (P:=P) hl (by rw[hrec];simp)
 rw[hrec] at hend
 refine⟨none,_,hend,?_⟩
 obtain⟨W3,hW3⟩:∃W3,W2.putObj (w.heap.size+1) (.loop {(rec .ready none) with state:=.exhausted})=W3:=⟨_,rfl⟩
 have hs3:W3.heap.size=W2.heap.size:=by rw[<-hW3,World.putObj_size]
 have hk3:W3.heap[w.heap.size]? =some (.deferred (some [])):=by rw[<-hW3];exact(World.putObj_heap_other oM).trans hk
 have hm3:Mid w n ρ W3:=by rw[<-hW3];exact hm.put _ oM
 have hd3:DnW ρe W3 n (bls g) ρe W3:=by
  rw[<-hW3]
  exact hd.slf (hn g) (aKk _ zl) (λi b hi hb=>World.putObj_heap_other (by have:=own i b hi hb;omega)) rfl (λb hb=>World.putObj_heap_other (by have:=(inF b hb).1;omega)) λb hb=>hze b (hb.imp (λh=>by rw[World.putObj_size] at h;have:=hm.size;omega) λh=>h)
 have hD3:Dn ρe W3 n ⟨s.sl,[],bls g,s.fl⟩ ρe f W3:=⟨hd3,⟨λt d ht=>by
  show Hd ρe (bls g).length W3 d _
  rw[hn g]
  have:=hD.f.sl t d ht
  rw[hbn] at this
  exact this.kp (kpm W3 hm3),λt gs d ht=>by cases ht⟩,hF⟩
 have hfm:Fm ([mkD w.heap.size]++a.defers) N f {a with defers:=[mkD w.heap.size]++a.defers}:=⟨rfl,ha.2⟩
 rw[hrec] at hW3
 show y.wpIn (fen none) 0 P (upM N (RD ρ0 w0 nb KR)) {a with defers:=[mkD w.heap.size]++a.defers} _
 rw[hW3]
 refine wpIn_mono (aNq (hy g hc) hD3 hfm) ?_
 rintro e a3 W4 hq
 cases e with
 |normal=>obtain⟨f,hf,s,ρ,hk,hD⟩:=hq;exact hk.elim
 |ret=>
  obtain⟨f3,hf3,s3,ρ3,⟨hF3,hk4⟩,hD4⟩:=hq
  rw[ha.1] at hf3
  have hno:∀i,i<s3.bl.length->(ρ3 i).1≠some w.heap.size:=λi hi he=>by
   by_cases hin:i<n
   ·rw[hD4.m.pl i hin] at he
    have:=own i _ hin he
    omega
   have:=hD4.m.fr i _ oM hi he
   have:=hm3.size
   omega
  have hk5:W4.heap[w.heap.size]? =some (.deferred (some [])):=(hD4.m.rel.block _ (fW hk3) (λi hi=>hno i (bH hi hD4.m.nbl)) λhf=>by have:=(inF _ hf).1;omega).trans hk3
  have hD5:=hD4.putO (.deferred none) (by rw[hD4.m.zz.1];exact zd) hno (fW hk3) λhf=>by
   have hf2:InF ρ w.heap.size:=by unfold InF at hf ⊢;rwa [hD4.l,hF3,<-hF] at hf
   have:=(inF _ hf2).1
   omega
  have hD6:=hD.m.back hbn (hm3.put (.deferred none) (aI _)) hD5.m (λ_ _=>rfl) hZ rfl
  refine⟨f3,.inr ⟨_,hf3,hk5,s3,_,hk4,hD6,hD5.f.kp rfl rfl ⟨aI _,λ_ _=>rfl,λb hb=>⟨⟨hb.lt,hb.no,hZ b (by rw[<-hD4.m.zz.1];exact hb.z),hb.nf⟩,rfl⟩⟩,hD4.l⟩⟩
 |exit i=>obtain⟨f,hf,hr⟩:=hq;exact hr.elim
 |goto l=>exact hq.elim
 |panic c=>exact hq.elim
 |outgrown=>exact hq.elim
theorem Sd.wp {K:Kt} (h:Sd P nb N x K s) {ρ0 ρ:Pl} {w0 w:World} {f:Nat->Value} (hD:Dn ρ0 w0 nb s ρ f w):WP P N x ⟨RD ρ0 w0 nb K.nrm,λi=>RD ρ0 w0 nb (K.ext i),RD ρ0 w0 nb K.ret⟩ f w:=
 h ρ0 w0 ρ f w ⟨RD ρ0 w0 nb K.nrm,λi=>RD ρ0 w0 nb (K.ext i),RD ρ0 w0 nb K.ret⟩ ⟨λs ρ f w hk hD=>⟨s,ρ,hk,hD⟩,λ_ s ρ f w hk hD=>⟨s,ρ,hk,hD⟩,λs ρ f w hk hD=>⟨s,ρ,hk,hD⟩⟩ hD
theorem AllC.hd {chg:List (Nat×DV)} (h:AllC s.sl chg) {ρ0 ρ:Pl} {w0 w:World} {f:Nat->Value} (hD:Dn ρ0 w0 nb s ρ f w) {t:Nat} {d:DV} (ht:iM chg t=some d):Hd ρ s.bl.length w d (f t):=by
 obtain⟨d0,h1,h2⟩:=h.get ht
 exact h2.hd (hD.f.sl t d0 h1)
theorem aTc (hT:Good P T) {q:FuncId} {cl:List Bool} {al:List DV} {bl:BL} {fl:List Fam} {c:Code} {σ:Type} {R:σ->OutF} {fn:Func} {rs:List ResultVar} (he:Ent P q) (hf:P.funcs[q]? =some fn) (hb:fn.body=some c) (hn:fn.ntmps=N) (hr:fn.results=rs.toArray) (hsz:al.length<=N) (hcl:ClB cl bl)
 (h:Sd0 P bl.length N c (aPo T cl bl.length rs R) ⟨aPp 0 al,[],bl,fl⟩):CtrF P q cl al bl fl R:=by
 refine⟨he,hcl,λρ w vals hv hD hFl=>?_⟩
 have hD0:Dn ρ w bl.length ⟨aPp 0 al,[],bl,fl⟩ ρ (λi=>vals.toArray.getD i undef) w:=⟨hD,⟨λt d ht=>by
  obtain⟨j,u,h1,h2,h3⟩:=aKe hv ht
  rw[fK] at h1
  subst h1
  have:vals.toArray.getD t undef=u:=by simp[Array.getD,eP h2,(pN.1 h2).2]
  show Hd ρ bl.length w d (vals.toArray.getD t undef)
  rw[this]
  exact h3,λt gs d ht=>by cases ht⟩,hFl⟩
 have ha0:Fm [] N (λi=>vals.toArray.getD i undef) {tmps:=vals.toArray++Array.replicate (fn.ntmps-vals.toArray.size) undef,defers:=[]}:=by
  have hsz':vals.toArray.size<=N:=by simp only[rD];rw[<-hv.len];exact hsz
  generalize vals.toArray=args at hsz' ⊢
  refine⟨rfl,by simp[hn];omega,λi=>?_⟩
  by_cases h1:i<args.size
  ·simp[Array.getD,h1,uK,bH h1 (wS _ _)]
  by_cases h2:i<N
  ·have h3:i<args.size+(fn.ntmps-args.size):=by omega
   simp only[Array.getD,rA,oZ,h3,h1,dite_true,dite_false]
   simp[Array.getElem_append,h1]
  have h3:¬i<args.size+(fn.ntmps-args.size):=by omega
  simp only[Array.getD,rA,oZ,h3,h1,dite_false]
 have fin:∀(a:Act) (f:Nat->Value) (w':World) (dl:List Deferred),Fm dl N f a->RD ρ w bl.length (aPo T cl bl.length rs R) f w'->∃v,(results fn a.tmps).run P w'= .ok v w'/\∃v',Ending.returned v= .returned v'/\∃g ρ',(R g).C/\DnW ρ w bl.length (R g).bl ρ' w'/\Hd ρ' (R g).bl.length w' (R g).d v'/\ClB cl (R g).bl/\ρ'.F=(R g).fl:=λa f w' dl ha ⟨s',ρ',hret,hD'⟩=>by
  obtain⟨ds,vs,⟨g,hC,hF⟩,h2,h3⟩:=aKd hT hD' hret
  obtain⟨ρ2,k1,k2,k3,k4⟩:=hF _ _ _ _ _ hD'.m hD'.l (bAk h2)
  refine⟨aFs vs,?_,_,rfl,g,ρ2,hC,k1,k2,k3,k4⟩
  have h1:=aFt ha h3
  have e:results fn a.tmps=(do let vs <-fn.results.mapM (rdv a.tmps);pure (if h:vs.size=1 then vs[0] else .tuple vs)):=rfl
  rw[e,hr,vC]
  simp only[Sem.run_bind,Sem.run_map,h1,Result.andThen_ok,Sem.run_pure]
  congr 1
  match vs with
  |[]=>rfl
  |[v]=>rfl
  |v::u::vs=>simp[aFs]
 refine callsIn_wide.1 (callsIn_of_wp_marks (F:=Fence.wide) (n:=0) hf hb trivial (wpIn_mono (h ρ w ρ _ w _ hD0 ha0) λe a w' hq=>?_))
 cases e with
 |ret=>
  obtain⟨f,⟨hfm,hh⟩|⟨d,hfm,hk,hh⟩⟩:=hq
  ·show LeavesInM _ _ _ _ _ _ a.defers _ _
   rw[hfm.1]
   exact fin a f w' _ hfm hh
  show LeavesInM _ _ _ _ _ _ a.defers _ _
  rw[hfm.1]
  exact⟨by simp,.inl ⟨d,_,rfl,run_takeDeferred hk,fin a f _ _ hfm hh⟩⟩
 |normal=>exact hq.elim
 |exit i=>exact hq.elim
 |goto l=>exact hq.elim
 |panic c=>exact hq.elim
 |outgrown=>exact hq.elim
end
/-! ### a region that calls yield -/
section
variable {P:Program} {n:Nat} {Q:Po} {f:Nat->Value} {w:World} {ops:Array Oper}
theorem bUe {dl:List Deferred} {ro:Option Nat} {Q2:Po} {o:Oper} {a:Act} {w:World} {K:Act->World->Prop} (hd:ndO o=true) (h:o.wp P a w K (up dl n Q)):o.wpIn (fen ro) 0 P a w K (up dl n Q2):=by
 refine⟨aAn,?_⟩
 rw[Oper.semAt_plain (fen ro) a.eval o (aIz hd)]
 unfold Oper.wp at h
 generalize (execOp a.eval o).run P w=r at h
 cases r with
 |ok x w'=>
  cases x with
  |value v=>exact h
  |skip=>exact h
  |defer d=>exact h
  |enter f args=>
   refine⟨λhh=>(by cases hh),?_⟩
   have h2:CallsIn Fence.wide 0 P f args w' _:=callsIn_wide.2 h
   exact CallsIn.mono (F:=fen ro) (n:=0) h2 λe w'' hh=>by
    cases e with
    |returned v=>exact hh
    |panicked c=>exact hh
    |outgrown=>exact(aCw hh).elim
  |row r args=>
   exact⟨λhh=>(by cases hh),λc cs _=>by
    obtain⟨v,w',r,s⟩:=(show Rows P _ _ _ _ from h) c cs
    exact⟨v,w',r,stepsIn_wide.2 s⟩⟩
  |_=>exact h.elim
 |halt x w'=>cases x<;>first|exact h|exact h.elim
def RLI (ro:Option Nat) (P:Program) (n:Nat) (ops:Array Oper) (l:List Oper) (Q:Po) (f:Nat->Value) (w:World):Prop:=∀dl a,Fm dl n f a->wpListIn (fen ro) 0 P ops (up dl n Q) l a w
theorem aKl {dl:List Deferred} {ro:Option Nat} {suf:List Oper}:∀{l:List Oper} {a:Act} {w:World},ndA l=true->wpList P ops (up dl n ⟨λf w=>RLI ro P n ops suf Q f w,Q.ext,Q.ret⟩) l a w->wpListIn (fen ro) 0 P ops (up dl n Q) (l++suf) a w
 |[],a,w,_,h=>by obtain⟨f,hf,hh⟩:=h;exact hh dl a hf
 |o::l,a,w,hd,h=>by
  simp only[ndA,List.all_cons,aQ] at hd
  unfold wpList at h
  show wpListIn _ _ _ _ _ (o::(l++suf)) _ _
  unfold wpListIn
  split
  ·next hw=>
   rw[if_pos hw] at h
   rcases h with h|h
   ·exact bUe hd.1 (Oper.wp_mono (λa w hh=>aKl hd.2 hh) h)
   exact absurd h.2 aCw
  next hw=>
  rw[if_neg hw] at h
  exact⟨aAn,aKl hd.2 h⟩
theorem bLi {id:Nat} (pre suf:List Oper) {l:List Oper} (hl:l=pre++suf) (hd:ndA pre=true) (h:∀ro,RL P n l.toArray pre ⟨λf w=>RLI ro P n l.toArray suf Q f w,Q.ext,Q.ret⟩ f w):WP P n (.region id l.toArray false) Q f w:=λro dl a ha=>wpIn_region_lit (by
 have:=aKl hd (h ro dl a ha)
 rw[<-hl] at this
 exact this)
theorem RLI.nil {ro:Option Nat} (h:Q.nrm f w):RLI ro P n ops [] Q f w:=λ_ _ ha=>wpListIn_nil ⟨f,ha,h⟩
theorem RLI.val {ro:Option Nat} {o:Oper} {rest:List Oper} {d:Nat} {v:Value} {w':World} (hg:o.guard=none) (hnd:ndO o=true) (hd:o.dst=some d) (hn:d<n) (hr:(execOp (ev f) o).run P w= .ok (.value v) w') (h:RLI ro P n ops rest Q (st f d v) w'):RLI ro P n ops (o::rest) Q f w:=λdl a ha=>by
 unfold wpListIn
 have hw:Region.wanted o (yielded ops a.tmps)=true:=by simp[Region.wanted,hg]
 rw[if_pos hw]
 refine⟨aAn,?_⟩
 rw[Oper.semAt_plain (fen ro) a.eval o (aIz hnd),ha.eval,hr]
 exact h dl _ (by rw[hd];exact ha.put hn v)
theorem RLI.yield {ro:Option Nat} {o:Oper} {rest:List Oper} {d l:Nat} {args:Array Value} {R:Ending->World->Prop} (hg:o.guard=none) (hnd:ndO o=true) (hd:o.dst=some d) (hn:d<n) (hr:(execOp (ev f) o).run P w=(Instr.yield l args).run P w) (hY:YieldAt (fen none) 0 P l args w R) (h:∀e w',R e w'->∃u,e= .returned u/\RLI ro P n ops rest Q (st f d u) w'):RLI ro P n ops (o::rest) Q f w:=λdl a ha=>by
 obtain⟨fn,tmps,asg,bd,hy,hR⟩:=hY
 unfold wpListIn
 have hw:Region.wanted o (yielded ops a.tmps)=true:=by simp[Region.wanted,hg]
 rw[if_pos hw]
 refine⟨aAn,?_⟩
 rw[Oper.semAt_plain (fen ro) a.eval o (aIz hnd),ha.eval,hr,hy]
 exact⟨λhh=>(by cases hh),RoundIn.mono (F:=fen ro) hR λe w' hr=>by
  obtain⟨u,rfl,hh⟩:=h e w' hr
  exact hh dl _ (by rw[hd];exact ha.put hn u)⟩
theorem aTd {x y:Operand} {dst:Option Tmp} {ty:TypeId} {pos:String} {aft:Array Edge} {g:Option (Nat×Bool)} {l:Nat} {tys:Array TypeId} (hx:ev f x= .func (.yield l) #[] #[]):(execOp (ev f) ⟨dst,.call ⟨.value x,#[y],tys⟩,ty,pos,aft,g⟩).run P w=(Instr.yield l #[ev f y]).run P w:=by
 simp[execOp,resolve,hx,Deferred.ofValue,invoke]
end
theorem CtrF.lo {P:Program} {q:FuncId} {cl:List Bool} {al:List DV} {bl:BL} {fl:List Fam} {σ τ:Type} {R:σ->OutF} {R':τ->OutF} (h:CtrF P q cl al bl fl R) (hp:∀g,(R g).C->∃g',(R' g').C/\(∀ρ n w v,Hd ρ n w (R g).d v->Hd ρ n w (R' g').d v)/\(R' g').bl=(R g).bl/\(R' g').fl=(R g).fl):CtrF P q cl al bl fl R':=
 ⟨h.ent,h.clb,λρ w vals hv hD hF=>(h.run ρ w vals hv hD hF).mono λe w' ⟨v,he,g,ρ',hC,hDr,hdv,hclr,hFr⟩=>by
  obtain⟨g',h1,h2,h3,h4⟩:=hp g hC
  exact⟨v,he,g',ρ',h1,by rw[h3];exact hDr,by rw[h3];exact h2 _ _ _ _ hdv,by rw[h3];exact hclr,by rw[h4];exact hFr⟩⟩
theorem Hd.tt {ρ:Pl} {n:Nat} {w:World} {p:Prop} {hp:Decidable p} {v:Value} (h:Hd ρ n w (.c (.b p hp)) v) (ht:p):Hd ρ n w (.c (.v (.bool true))) v:=by
 rw[h.inv_c.inv_b,decide_eq_true ht];exact .c (Rc.v _)
/-! ### a place within a region -/
section
variable {P:Program} {T:TT} {nb N n:Nat} {Q:Po} {f:Nat->Value} {w:World} {ops:Array Oper} {s:SS} {K:SS->Prop}
theorem cAz {dl:List Deferred} {Q2:Po} {o:Oper} {a:Act} {w:World} {K:Act->World->Prop} (h:o.wp P a w K (up dl n Q)):o.wp P a w K (up dl n Q2):=by
 unfold Oper.wp at h ⊢
 generalize (execOp a.eval o).run P w=r at h ⊢
 cases r with
 |ok x w'=>
  cases x with
  |enter f args=>
   refine Calls.mono h λe w'' hh=>?_
   cases e with
   |returned v=>exact hh
   |panicked c=>exact hh.elim
   |outgrown=>exact(aCw hh).elim
  |_=>exact h
 |halt x w'=>cases x<;>first|exact h|exact h.elim
theorem aHa {dl:List Deferred} {suf:List Oper}:∀{l:List Oper} {a:Act} {w:World},wpList P ops (up dl n ⟨λf w=>RL P n ops suf Q f w,Q.ext,Q.ret⟩) l a w->wpList P ops (up dl n Q) (l++suf) a w
 |[],a,w,h=>by obtain⟨f,hf,hh⟩:=h;exact hh dl a hf
 |o::l,a,w,h=>by
  unfold wpList at h
  show wpList _ _ _ (o::(l++suf)) _ _
  unfold wpList
  split
  ·next hw=>
   rw[if_pos hw] at h
   rcases h with h|h
   ·exact .inl (cAz (Oper.wp_mono (λa w hh=>aHa hh) h))
   exact absurd h.2 aCw
  next hw=>
  rw[if_neg hw] at h
  exact aHa h
def Sdl (P:Program) (nb N:Nat) (ops:Array Oper) (suf:List Oper) (K:SS->Prop) (s:SS):Prop:=∀ρ0 w0 ρ f w (Q:Po),(∀s ρ f w,K s->Dn ρ0 w0 nb s ρ f w->Q.nrm f w)->Dn ρ0 w0 nb s ρ f w->RL P N ops suf Q f w
theorem bUf {suf:List Oper}:Tgt nb (Sdl P nb N ops suf K):=λs σ S C h hk ρ0 w0 ρ f w Q hQ hD=>by
 obtain⟨g,ρ',hC,hD'⟩:=h ρ0 w0 ρ f w hD
 exact hk g hC ρ0 w0 ρ' f w Q hQ hD'
theorem Sdl.go (hT:Good P T) {l suf:List Oper} (h:VL P T nb N l suf K s):Sdl P nb N l.toArray suf K s:=λρ0 w0 ρ f w Q hQ hD=>yJ (ops:=l.toArray) hT hQ h hD
theorem Sd.rg (hT:Good P T) {id:Nat} (pre suf:List Oper) {l:List Oper} {K:Kt} (hl:l=pre++suf) (hd:ndA l=true) (h:VL P T nb N l pre (Sdl P nb N l.toArray suf K.nrm) s):Sd P nb N (.region id l.toArray false) K s:=λρ0 w0 ρ f w Q hL hD=>cV (λdl a ha=>by
 have h1:RL P N l.toArray pre ⟨λf w=>RL P N l.toArray suf Q f w,Q.ext,Q.ret⟩ f w:=yJ (ops:=l.toArray) hT (Q:=⟨λf w=>RL P N l.toArray suf Q f w,Q.ext,Q.ret⟩) (λs ρ f w hk hD=>hk ρ0 w0 ρ f w Q hL.nrm hD) h hD
 have:=aHa (h1 dl a ha)
 rw[<-hl] at this
 exact this) hd
end
/-! ### cells that tell their value -/
def exC:CV->Bool
 |.v _=>true
 |.b _ _=>true
 |.r _ _ _ _ _=>true
 |_=>false
def aHb:CV->Value
 |.v x=>x
 |.b p h=> .bool (@decide p h)
 |.r A n c _ _=> .slice A n c
 |_=>undef
theorem Hc.ex {ρ:Pl} {n:Nat} {w:World} {c:CV} {x:Value} (h:Hc ρ n w c x) (hc:exC c=true):x=aHb c:=by
 cases c with
 |v y=>cases h;rfl
 |b p q=>cases h;rfl
 |r A n c e g=>cases h<;>rfl
 |_=>cases hc
theorem Hl.ex {ρ:Pl} {n:Nat} {w:World}:∀{l:List CV} {vl:List Value},Hl ρ n w l vl->l.all exC=true->vl=l.map aHb
 |[],[],_,_=>rfl
 |[],_::_,h,_=>h.elim
 |_::_,[],h,_=>h.elim
 |c::l,v::vl,h,hc=>by
  simp only[List.all_cons,aQ] at hc
  rw[eT,h.1.ex hc.1,Hl.ex h.2 hc.2]
theorem Hl.of_rc {ρ:Pl} {n:Nat} {w:World}:∀{l:List CV} {vl:List Value},vl.length=l.length->(∀(k:Nat) (c:CV) (x:Value),l[k]? =some c->vl[k]? =some x->Rc (Zf ρ n w) w c x)->Hl ρ n w l vl
 |[],[],_,_=>trivial
 |[],_::_,h,_=>by simp at h
 |_::_,[],h,_=>by simp at h
 |c::l,v::vl,h,hc=>by
  refine⟨?_,Hl.of_rc (by simpa using h) λk c x h1 h2=>hc (k+1) c x (by simpa using h1) (by simpa using h2)⟩
  have:=hc 0 c v rfl rfl
  cases this with
  |u x=>exact Rc.u _
  |v x=>exact Rc.v _
  |h A n c=>exact Rc.h _ _ _
  |hp b o=>exact Rc.hp _ _
  |b p h=>exact Rc.b _ _
  |nil A c e g hm=>exact Rc.nil _ _ _ _ hm
  |r b o n c e g V h1 h2 h3 h4 h5 h6=>exact Rc.r b o n c e g V h1 h2 h3 h4 h5 h6
theorem aTe {ρ0 ρ:Pl} {n i k j:Nat} {w w0:World} {bl:BL} {F:Fam} {sc:List CV} (hf:ρ.F[i]? =some F) (hk:k<F.N) (hT:Nat.ble F.T 999999=true) (hn:bl.length=n) (hD:DnW ρ0 w0 n bl ρ w) (he:((F.get k).drop (j*F.es)).take F.es=sc) (hne:sc≠[]) (hx:sc.all exC=true):Hd ρ n w (.a sc) (.agg (sc.map aHb).toArray):=by
 subst hn
 have hq:=hD.fam.mem rfl hf hk
 cases hρ:F.A k with
 |none=>
  unfold Mq at hq
  simp only[hρ] at hq
  rw[hq.1] at he
  exact absurd (by simpa using he.symm) hne
 |some b=>
  obtain⟨vl,junk,q1,q2,q3,_⟩:=hq.at hρ hT
  have h0:Hl ρ bl.length w (F.get k) vl:=Hl.of_rc q2 q3
  have h1:=(h0.drop (j*F.es)).take F.es
  rw[he] at h1
  have h2:=h1.ex hx
  rw[<-h2]
  exact .a h1
section
variable {P:Program} {T:TT} {w0 w:World} {nb N:Nat} {s:SS} {ρ ρ0:Pl} {f:Nat->Value} {dst:Option Tmp} {ty:TypeId} {pos:String} {aft:Array Edge} {gd:Option (Nat×Bool)} {x y:Operand} {t t' e:TypeId}
theorem bIn {size bytes n b cap:Nat} {zz v2:Value} {cs news:List Value} {T0:TypeId} {D:Nat->TypeId->Prop} (hu:P.underlying t=some (.slice e)) (ht:TyI P e size bytes zz) (hx:ev f x= .slice (some ⟨b,0,none⟩) n cap) (hy:ev f y=v2)
 (hb:w.heap[b]? =some (.cells cs.toArray T0 (0,0))) (hs:Sc D w size v2 n news) (h1:∀u∈news,u.oneCell'=true) (hfit:news.length<=cs.length):
 ∃w',(execOp (ev f) ⟨dst,.call ⟨.builtin .copy,#[x,y],#[t,t']⟩,ty,pos,aft,gd⟩).run P w= .ok (.value (.int .i64 n)) w'/\w'.heap[b]? =some (.cells (spl cs 0 news).toArray T0 (0,0))/\Exc b w w':=by
 obtain⟨i,hi,hzi,hsi,hbi⟩:=ht.ex
 subst hsi
 obtain⟨A,c,rfl,hmc,hcm,hl,hA⟩:=hs
 have hst:=run_storeCells_at P b 0 T0 news 0 cs.toArray w hb (by simpa using hfit) h1
 simp only[jG] at hst
 have hst':(storeCells ⟨b,0,none⟩ news 0).run P w= .ok () (w.setRow b (spl cs 0 news).toArray):=by simpa[spl] using hst
 have key:(Builtin.copy_ #[t,t'] ty #[.slice (some ⟨b,0,none⟩) n cap,.slice A n c]).run P w= .ok (.int .i64 n) (w.setRow b (spl cs 0 news).toArray):=by
  cases A with
  |none=>
   have hn:news=[]:=by
    rcases hA with h|⟨_,_,h,_⟩
    ·exact h
    cases h
   subst hn
   simp[Builtin.copy_,run_underlying hu,sizeOf,typeInfo,hi,Builtin.lenOf,Builtin.firstCells,goInt,hst']
  |some ad=>
   have hfc:=run_firstCells_some (P:=P) w i.size n ad n c news hl (λj u hj=>by
    rcases hA with h|⟨b',o',h,hrd⟩
    ·subst h;cases hj
    injection h with h
    subst h
    rw[iA];exact hrd.cell hj)
   simp[Builtin.copy_,run_underlying hu,sizeOf,typeInfo,hi,Builtin.lenOf,hfc,goInt,hst']
 exact⟨_,by simp[execOp,resolve,invoke,builtin,hx,hy,key],setRow_heap w b cs.toArray _ T0 (0,0) hb,wX _ _ _⟩
theorem Sdl.copy (hT:Good P T) {d i n c e' m:Nat} {A:Option Addr} {ti te:TI} {l:List CV} {ops:Array Oper} {K:SS->Prop} {get:Nat->List CV} (hx:val [] s x=some (.c (.s i n))) (hy:val [] s y=some (.c (.r A m c e' get))) (hb:s.bl[i]? =some (e,te.size,l)) (ht:T t=some ti) (he:ti.el=some e) (hte:T e=some te) (hsz:0<te.size) (he':e'=te.size) (hm:m=n) (h1:0<n) (hl:n*te.size=l.length) (hg:∀j,j<n->(get j).length=te.size) (hgl:s.gl=[]) (hd:d<N)
 (h:qE s.bl i (e,te.size,flatR n get) λbl'=>K ⟨(d,.c (.v (.int .i64 n)))::s.sl,[],bl',s.fl⟩):Sdl P nb N ops [⟨some d,.call ⟨.builtin .copy,#[x,y],#[t,t']⟩,ty,pos,aft,none⟩] K s:=λρ0 w0 ρ f w Q hQ hD=>by
 subst hm he'
 have G:=hT e te hte
 obtain⟨zz,hty,hz⟩:=G.ty
 have hu:=(hT t ti ht).el e he
 obtain⟨hi,hex⟩:=(cF hD.f fP hx).inv_c
 have hq:=hD.m.ok i _ _ l hb
 have hpos:=mW h1 hsz
 cases hρ:(ρ i).1 with
 |none=>
  unfold Bq at hq
  simp only[hρ] at hq
  rw[hq.1] at hl
  exact absurd hl (by simp;omega)
 |some b=>
  rw[hρ] at hex
  obtain⟨vl,junk,q1,q2,q3,q4⟩:=hq.at hρ
  obtain⟨q5,q6⟩:=q3 hsz
  have hsc0:=wJ (te:=te) (s:=s) (dy:=.c (.r A m c te.size get)) (kk:=λm' news' c'=>m'=m/\news'=flatR m get/\c'=(∀j,j<m->(get j).length=te.size)) (by
   unfold aBv
   simp only[iX,cond_true]
   exact⟨trivial,trivial,trivial⟩) hD.m (cF hD.f fP hy) hsz
  obtain⟨m1,n1,p1,⟨e1,e2,e3⟩,hnews⟩:=hsc0
  rw[e1,e2,e3] at hnews
  obtain⟨vals,hsc,hln,hon⟩:=hnews hg
  have hvl:vals.length=m*te.size:=by
   obtain⟨_,_,_,_,_,h9,_⟩:=hsc
   exact h9
  have hll:=q2.len
  obtain⟨w',hr,hn,hex'⟩:=bIn (P:=P) (dst:=some d) (ty:=ty) (pos:=pos) (aft:=aft) (gd:=none) (t':=t') hu hty hex rfl q1 hsc hon (by rw[aP];omega)
  have kp:Kp ρ s.bl.length w ρ s.bl.length w':=Kp.exc hi hρ hex'
  have es:spl (vl++junk) 0 vals=vals++junk:=by
   unfold spl
   rw[zF,kC,fK,List.drop_left' oM]
  rw[es] at hn
  obtain⟨sl,gl,bl,fl⟩:=s
  replace hgl:gl=[]:=hgl
  subst hgl
  have hD':Dn ρ0 w0 nb ⟨sl,[],bl.set i (e,te.size,flatR m get),fl⟩ ρ f w':=⟨hD.m.exc hb hρ hex' (Bq.of_some hρ ⟨vals,junk,hn,hln.kp kp,λh0=>⟨q5.trans (by rw[aP,aP];omega),q6⟩,hon⟩),hD.f.kp rfl rfl (by simp only[bT];exact kp),hD.l⟩
  obtain⟨s'',hk,hD''⟩:=Dn.put (d:=d) (v:=.c (.v (.int .i64 m))) (x:=.int .i64 m) (K:=K) (s:=⟨sl,[],bl.set i (e,te.size,flatR m get),fl⟩) (kL h) hD' (.c (Rc.v _))
  exact RL.val rfl rfl hd hr (aE (hQ _ _ _ _ hk hD''))
end
end Go.Vy
namespace Go.Proofs.YtlhdigjbokkbiaaGreat
open Go.Vg Go.Vy _root_.Go.Proofs.Tryz
def iC (z:Int):CV:=.v (.int .i64 z)
structure Sl (α:Type) where
 A:Option Addr
 c:Nat
 l:List α
def Sl.R {α:Type} (s:Sl α) (n:Nat) (f:α->List CV) (d:α):CV:=.r s.A s.l.length s.c n λj=>f (s.l.getD j d)
def kI (s:Sl Int):CV:=s.R 1 (λz=>[iC z]) 0
def fF {α:Type}:Sl α:=⟨none,0,[]⟩
theorem bAr {α:Type} {P:α->Prop} {l:List α} {i:Nat} {d:α} (h:i<l.length):(∀z∈l.take (i+1),P z)↔(∀z∈l.take i,P z)/\P (l.getD i d):=by
 rw[eH,aK h]
 simp only[bB,Option.mem_toList,Option.mem_def,Option.some.injEq,List.getD,aK h,Option.getD_some]
 constructor
 ·intro hh;exact⟨λz hz=>hh z (.inl hz),hh _ (.inr rfl)⟩
 rintro⟨h1,h2⟩ z (hz|rfl)
 ·exact h1 z hz
 exact h2
theorem gd {α:Type} {l:List α} {i:Nat} {d:α} (h:i<l.length):l.getD i d=l[i]:=by simp[List.getD,h]
theorem gP (x:List Int):∀c∈x.map iC,iP c=true:=λc hc=>by
 obtain⟨z,_,rfl⟩:=cP.1 hc
 rfl
theorem bIo {z:Int} {i:Nat}:∀c∈[iC z],nA i c=false:=λc hc=>by rw[aT.1 hc];rfl
theorem bAs {x:List Int} (j:Nat) (h:j<x.length):[iC (x.getD j 0)]=((x.map iC).drop (j*1)).take 1:=by
 have hd:(x.map iC).drop j=iC x[j]::(x.drop (j+1)).map iC:=by rw[<-sA,fR h,eT]
 rw[dF,hd,gd h]
 rfl
theorem map_take {α β:Type} {f:α->β} {l:List α} {i:Nat} {d:α} (h:i<l.length):(l.take (i+1)).map f=(l.take i).map f++[f (l.getD i d)]:=by
 rw[eH,aK h,gd h,dI]
 rfl
noncomputable def pC (p:Prop):DV:=.c (.b p (Classical.propDecidable p))
end Go.Proofs.YtlhdigjbokkbiaaGreat
namespace Go.Proofs.YtlhdigjbokkbiaaGreat
open Go.Vg Go.Vm _root_.Go.Proofs.Tryz
open Go.Vy hiding val
def uC (z:Nat):CV:=.v (.int .u32 z)
def wC (z:Nat):CV:=.v (.int .u64 z)
def oV (s:Sl Nat):CV:=s.R 1 (λz=>[uC z]) default
abbrev aWg (n:Nat):Sl Nat->Out:=λg=>⟨.c (oV g),[],g.l=aJ n⟩
theorem cu32 (x:Nat):((x%4294967296:Nat):Int)=IntKind.u32.wrap (x:Int):=by rw[IntKind.wrap_u32];omega
theorem wu {a z:Int} (h:(a=z/\0<=z/\z<=18446744073709551615):=by (first|omega|(simp only[maxLen] at*;omega))):a=IntKind.u64.wrap z:=by rw[iV h.2];exact h.1
theorem shr32 (x:Nat):((x/4294967296:Nat):Int)=(x:Int).fdiv (2^(min (32:Int).toNat IntKind.u64.bits)):=by
 rw[iS _ dC]
 show _=(x:Int)/4294967296
 omega
theorem shl32 {x:Nat} (h:x<4294967296):((x*4294967296:Nat):Int)=IntKind.u64.wrap ((x:Int)*2^(min (32:Int).toNat IntKind.u64.bits)):=by
 rw[show(2:Int)^(min (32:Int).toNat IntKind.u64.bits)=4294967296 from rfl,iV oM];omega
theorem p32:(0:Int)<=32:=by decide
theorem pY (l:List Nat):∀c∈l.map uC,iP c=true:=λc hc=>by
 obtain⟨z,_,rfl⟩:=cP.1 hc
 rfl
theorem aKm {i:Nat} (l:List Nat):∀c∈l.map uC,nA i c=false:=λc hc=>by
 obtain⟨z,_,rfl⟩:=cP.1 hc
 rfl
theorem tI {x:List Nat} (j:Nat) (h:j<x.length):[uC (x.getD j default)]=((x.map uC).drop (j*1)).take 1:=by
 have hd:(x.map uC).drop j=uC x[j]::(x.drop (j+1)).map uC:=by rw[<-sA,fR h,eT]
 rw[dF,hd,gd h]
 rfl
theorem aHc {x:List Nat}:∀{n:Nat},n<=x.length->flatR n (λj=>[uC (x.getD j default)])=(x.take n).map uC
 |0,_=>by simp[flatR]
 |n+1,h=>by
  rw[jT,aHc oM,map_take (d:=default) oM]
abbrev aTf:FuncId:=135
theorem bUg:Ent Tryz.prog aTf:=bI func135 rfl kR
theorem bUh:Tryz.prog.funcs[aTf]? =some Tryz.f135:=func135
theorem bOf (x:Sl Nat) (hx:Lm x.l) (hn:x.l.length<=17592186044416):Ctr Tryz.prog aTf [] [.c (oV x)] [] (λ_:Unit=>⟨.c (.s 0 (aJ (val x.l)).length),[(131,1,(aJ (val x.l)).map uC)],True⟩):=by
 refine cY gT bUg bUh rfl rfl rfl bL cD (aC gT mxd ?_)
 refine yN (rn [(3,3),(6,17)]) (λn:Nat=>[(3,.c (iC n))]) (λ_=>[]) (λn=>n<=x.l.length/\val (x.l.take n)=val x.l) (λn=>n) x.l.length ?_
 refine⟨⟨⟨aI _,by rw[bU (aI _)]⟩,rfl,rfl⟩,λn hi=>aC gT mxd ⟨(n:Int)-1,λh=>wi,n-1,λh=>⟨oM,oM⟩,⟨λh1=>aC gT mxd ?_,λh1=>aC gT mxd (aC gT mxd ?_)⟩⟩⟩
 ·exact⟨(n:Int)-1,wi,n-1,⟨⟨oM,aIi hi.1 oM hi.2 oM⟩,oM⟩,rfl,rfl,show _=_ by omega⟩
 have hz:n=0\/x.l.getD (n-1) default≠0:=by
  rcases dB n with h|h
  ·exact .inl h
  exact .inr λh2=>h1 ⟨by omega,by rw[h2];rfl⟩
 have ht:=aDc hx hi.1 hi.2 hz
 refine⟨n,⟨rfl,hi.1⟩,⟨λj hj=>rfl,rfl,by simp only[maxLen];omega,show(0+n)*4<=_ by omega,λc hc=>?_⟩,(),trivial,jO ?_ ?_ (aF _) ?_ rfl aAu⟩
 ·replace hc:c∈flatR n λj=>[uC (x.l.getD j default)]:=hc
  rw[aHc hi.1] at hc
  exact aKm _ c hc
 ·show _=_
  rw[<-ht,cC];omega
 ·show(131,1,flatR n λj=>[uC (x.l.getD j default)])=(131,1,_)
  rw[aHc hi.1,ht]
 exact aD (aZ.2 λc hc=>sO (pY _ c hc)) bM
theorem pO (x:Sl Nat) (hx:Lm x.l) (hn:x.l.length<=17592186044416):Ctr Tryz.prog aTf [] [.c (oV x)] [] (aWg (val x.l)):=
 ((bOf x hx hn).frz (λ_ j=>[uC ((aJ (val x.l)).getD j default)]) λ_ _=>⟨λj hj=>tI j hj,by simp,gR,pY _⟩).re λg _=>⟨⟨g.2.1,g.2.2,aJ (val x.l)⟩,rfl,rfl,rfl,rfl⟩
def bAt:Nat->Nat->List (Nat×Bool)
 |_,0=>[]
 |a,n+1=>(a,false)::bAt (a+1) n
theorem ff {p:Prop} (h:¬p):(false=true↔p):=⟨λh=>(by cases h),λhp=>absurd hp h⟩
theorem tt {p:Prop} (h:p):(true=true↔p):=⟨λ_=>h,λ_=>rfl⟩
abbrev aPs:FuncId:=94
theorem bOg:Ent Tryz.prog aPs:=bI func94 rfl kR
theorem bOh:Tryz.prog.funcs[aPs]? =some Tryz.f94:=func94
theorem aKn (x y:Sl Nat):Ctr Tryz.prog aPs [] [.c (oV x),.c (oV y)] [] (λ_:Unit=>⟨pC (x.l=y.l),[],True⟩):=by
 refine cY gT bOg bOh rfl rfl rfl bL cD (aWe 0 rfl λhn=>aC gT mxd ⟨λh=>aC gT mxd ?_,λh=>aC gT mxd ?_⟩)
 ·exact⟨(),trivial,cM (ff λe=>h (by rw[e])) rfl trivial⟩
 refine yN (rn [(5,5),(11,25)]) (λk:Nat=>[(5,.c (iC k))]) (λ_=>[]) (λk=>k<=x.l.length/\∀j,j<k->x.l.getD j default=y.l.getD j default) (x.l.length-·) 0 ?_
 refine⟨⟨⟨aF _,λj hj=>absurd hj (aV _)⟩,rfl,rfl⟩,λk hi=>aC gT mxd ⟨λh1=>aC gT mxd ⟨.seq (bAt 0 9),by kernel_rfl,k,⟨rfl,oM⟩,k,⟨rfl,oM⟩,⟨λh2=>aC gT mxd ?_,λh2=>aC gT mxd ?_⟩⟩,λh1=>aC gT mxd (aC gT mxd ?_)⟩⟩
 ·exact⟨(),trivial,cM (ff λe=>h2 (by rw[e])) rfl trivial⟩
 ·refine⟨(k+1:Nat),wi,k+1,⟨⟨oM,λj hj=>?_⟩,oM⟩,rfl,rfl,rfl⟩
  rcases Nat.lt_or_eq_of_le (Nat.le_of_lt_succ hj) with h3|rfl
  ·exact hi.2 j h3
  have:=jZ.1 h2;omega
 refine⟨(),trivial,cM (tt (aWy (by have:=jZ.1 h;omega) λj hj=>hi.2 j oM)) rfl trivial⟩
abbrev bAu:FuncId:=103
theorem bUi:Ent Tryz.prog bAu:=bI func103 rfl kR
theorem bUj:Tryz.prog.funcs[bAu]? =some Tryz.f103:=func103
theorem aKo {n:Nat} (hn:n<18446744073709551616):Ctr Tryz.prog bAu [] [.c (wC n)] [] (aWg n):=by
 refine cY gT bUi bUj rfl rfl rfl bL cD (aC gT mxd ?_)
 have hv:val [n%4294967296,n/4294967296%4294967296]=n:=by rw[cW (show n/4294967296<4294967296 by omega),aRx]
 refine⟨_,cu32 n,p32,_,shr32 n,_,cu32 _,some (λj=>[uC ([n%4294967296,n/4294967296%4294967296].getD j default)]),⟨⟨aI _,by decide⟩,rfl,λj hj=>?_,λc hc=>?_⟩,λA c _ _=>?_⟩
 ·exact tI (x:=[n%4294967296,n/4294967296%4294967296]) j hj
 ·exact pY [n%4294967296,n/4294967296%4294967296] c hc
 refine⟨[],pO ⟨A,c,[n%4294967296,n/4294967296%4294967296]⟩ (Lm.two hn) (by simp),rfl,rfl,rfl,λg hg=>⟨g,?_,cM rfl rfl trivial⟩⟩
 show g.l=aJ n
 rw[<-hv]
 exact hg
theorem or32 {x y:Nat} (hx:x<4294967296) (hy:y<4294967296):((x*4294967296+y:Nat):Int)=IntKind.u64.wrap ((BitVec.ofInt IntKind.u64.bits ((x*4294967296:Nat):Int)|||BitVec.ofInt IntKind.u64.bits (y:Int)).toNat:Int):=by
 show _=IntKind.u64.wrap ((BitVec.ofInt 64 ((x*4294967296:Nat):Int)|||BitVec.ofInt 64 (y:Int)).toNat:Int)
 rw[gK,gK,sT,iF,iF,cW oM,cW oM]
 have h:=iO (i:=32) (b:=y) oM x
 rw[bO (2^32) x] at h
 rw[show x*4294967296=x*2^32 from rfl,<-h,iV oM]
theorem dg {X:List Nat} {n:Nat} (h:X=aJ n):Lm X/\val X=n:=by subst h;exact⟨cT n,cX n⟩
abbrev bAv:FuncId:=154
theorem bUk:Ent Tryz.prog bAv:=bI func154 rfl kR
theorem bUl:Tryz.prog.funcs[bAv]? =some Tryz.f154:=func154
theorem bAw (x:Sl Nat) (hx:Lm x.l) (hn:x.l.length<=17592186044416):Ctr Tryz.prog bAv [] [.c (oV x)] [] (λ_:Unit=>⟨.t [.c (wC (if val x.l<18446744073709551616 then val x.l else 0)),pC (val x.l<18446744073709551616)],[],True⟩):=by
 refine cY gT bUk bUl rfl rfl rfl bL cD (aC gT mxd ⟨[],pO x hx hn,rfl,rfl,rfl,λX hX=>?_⟩)
 replace hX:X.l=aJ (val x.l):=hX
 obtain⟨lX,vX⟩:=dg hX
 have h64:=rW (n:=val x.l)
 rw[<-gU,<-hX] at h64
 refine⟨λh=>aC gT mxd ⟨(),trivial,cM ⟨?_,ff oM⟩ rfl trivial⟩,λh=>aC gT mxd ⟨(X.l.length:Int)-1,wi,?_⟩⟩
 ·rw[if_neg oM];rfl
 refine yN (rn [(4,5),(14,25)]) (λn:Nat=>[(5,.c (iC ((n:Int)-1))),(4,.c (wC (val (X.l.drop n))))]) (λ_=>[]) (λn=>n<=X.l.length) (λn=>n) X.l.length ?_
 refine⟨⟨aI _,rfl,rfl,?_⟩,λn hi=>aC gT mxd ⟨λh1=>aC gT mxd ?_,λh1=>aC gT mxd (aC gT mxd ?_)⟩⟩
 ·show(0:Int)=_
  rw[cB (aI _)];rfl
 ·have hdl:val (X.l.drop n)<4294967296:=by
   have h1:=mJ (lX.drop n)
   have h2:4294967296^(X.l.drop n).length<=4294967296^1:=fN dC (by rw[dP];omega)
   omega
  have hd:=lX.at (k:=n-1) oM
  refine⟨p32,_,shl32 hdl,n-1,⟨oM,oM⟩,_,wu (a:=(X.l.getD (n-1) default:Nat)),_,or32 hdl hd,(n:Int)-1-1,wi,n-1,⟨oM,oM⟩,rfl,rfl,?_,?_⟩
  ·show(n:Int)-1-1=_
   omega
  show(_:Int)=(_:Int)
  rw[vP oM hi]
  omega
 have h0:n=0:=by omega
 subst h0
 refine⟨(),trivial,cM ⟨?_,tt oM⟩ rfl trivial⟩
 show(_:Int)=(_:Int)
 rw[if_pos oM,mF,vX]
def cmpI (a b:Int):Int:=if a<b then-1 else if b<a then 1 else 0
abbrev bOi:FuncId:=142
theorem cBa:Ent Tryz.prog bOi:=bI func142 rfl kR
theorem cBb:Tryz.prog.funcs[bOi]? =some Tryz.f142:=func142
theorem bUm (x y:Sl Nat) (hx:Lm x.l) (hy:Lm y.l) (hn:x.l.length<=17592186044416) (hm:y.l.length<=17592186044416):Ctr Tryz.prog bOi [] [.c (oV x),.c (oV y)] [] (λ_:Unit=>⟨.c (iC (cmpI (val x.l) (val y.l))),[],True⟩):=by
 refine cY gT cBa cBb rfl rfl rfl bL cD (aC gT mxd ⟨[],pO x hx hn,rfl,rfl,rfl,λX hX=>⟨[],pO y hy hm,rfl,rfl,rfl,λY hY=>?_⟩⟩)
 replace hX:X.l=aJ (val x.l):=hX
 replace hY:Y.l=aJ (val y.l):=hY
 obtain⟨lX,vX⟩:=dg hX
 obtain⟨lY,vY⟩:=dg hY
 have hlx:=lS hx
 have hly:=lS hy
 rw[<-gU,<-hX] at hlx
 rw[<-gU,<-hY] at hly
 refine⟨λh=>aC gT mxd ⟨λh1=>aC gT mxd ?_,λh1=>aC gT mxd ?_⟩,λh=>aC gT mxd ⟨(X.l.length:Int)-1,wi,?_⟩⟩
 ·have hlt:val x.l<val y.l:=tQ (by rw[<-gU,<-gU,<-hX,<-hY];omega)
  exact⟨(),trivial,cM (show(-1:Int)=_ by unfold cmpI;rw[if_pos oM]) rfl trivial⟩
 ·have hlt:val y.l<val x.l:=tQ (by rw[<-gU,<-gU,<-hX,<-hY];omega)
  exact⟨(),trivial,cM (show(1:Int)=_ by unfold cmpI;rw[if_neg oM,if_pos oM]) rfl trivial⟩
 have hl:X.l.length=Y.l.length:=by have:=jZ.1 h;omega
 refine yN (rn [(5,5),(23,44)]) (λn:Nat=>[(5,.c (iC ((n:Int)-1)))]) (λ_=>[]) (λn=>n<=X.l.length/\X.l.drop n=Y.l.drop n) (λn=>n) X.l.length ?_
 refine⟨⟨⟨aI _,by rw[cB (aI _),cB oM]⟩,rfl,rfl⟩,λn hi=>aC gT mxd ⟨λh1=>aC gT mxd ⟨.seq (bAt 0 9),by kernel_rfl,n-1,⟨oM,oM⟩,n-1,⟨oM,oM⟩,⟨λh2=>aC gT mxd ?_,λh2=>aC gT mxd ⟨.seq (bAt 0 9),by kernel_rfl,n-1,⟨oM,oM⟩,n-1,⟨oM,oM⟩,⟨λh3=>aC gT mxd ?_,λh3=>aC gT mxd ?_⟩⟩⟩⟩,λh1=>aC gT mxd (aC gT mxd ?_)⟩⟩
 ·have hlt:val x.l<val y.l:=by
   have h:=aDd (a:=X.l) (b:=Y.l) (m:=n-1) lX oM oM (by rw[show n-1+1=n by omega];exact hi.2) oM
   rw[vX,vY] at h;exact h
  exact⟨(),trivial,cM (show(-1:Int)=_ by unfold cmpI;rw[if_pos oM]) rfl trivial⟩
 ·have hlt:val y.l<val x.l:=by
   have h:=aDd (a:=Y.l) (b:=X.l) (m:=n-1) lY oM oM (by rw[show n-1+1=n by omega];exact hi.2.symm) oM
   rw[vY,vX] at h;exact h
  exact⟨(),trivial,cM (show(1:Int)=_ by unfold cmpI;rw[if_neg oM,if_pos oM]) rfl trivial⟩
 ·exact⟨(n:Int)-1-1,wi,n-1,⟨⟨oM,aIj oM hi.1 oM hi.2 oM⟩,oM⟩,rfl,rfl,show(n:Int)-1-1=_ by omega⟩
 have h0:n=0:=by omega
 subst h0
 have h:=hi.2
 rw[mF,mF] at h
 have h:=congrArg val h
 rw[vX,vY] at h
 exact⟨(),trivial,cM (show(0:Int)=_ by unfold cmpI;rw[if_neg oM,if_neg oM]) rfl trivial⟩
theorem aCe {x:List Nat} {i:Nat} {z:Nat} (h:i<x.length):oG (x.map uC) (i*1) [uC z]=(x.set i z).map uC:=by
 unfold oG
 rw[dF,<-List.map_take,<-sA,jR,if_pos h,dI,eT]
 rfl
theorem aTg {x:List Nat} {i:Nat} (h:i<x.length):(x.map uC)[i*1]? =some (uC (x.getD i default)):=by
 rw[dF,fQ,aK h,gd h]
 rfl
theorem aEy (m:Nat):List.replicate m (.v (.int .u32 0))=(List.replicate m 0).map uC:=by simp[uC]
theorem w0 {x:Nat} (h:x<=18446744073709551615):(x:Int)=IntKind.u64.wrap (x:Int):=(iV oM).symm
theorem wa {x y:Nat} (h:x+y<=18446744073709551615):((x+y:Nat):Int)=IntKind.u64.wrap ((x:Int)+(y:Int)):=(iV oM).symm.trans (by rw[sU])
abbrev bOj:FuncId:=116
theorem cBc:Ent Tryz.prog bOj:=bI func116 rfl kR
theorem cBd:Tryz.prog.funcs[bOj]? =some Tryz.f116:=func116
theorem bAx (x y:Sl Nat) (hx:Lm x.l) (hy:Lm y.l) (hn:x.l.length<=1099511627776) (hm:y.l.length<=1099511627776):Ctr Tryz.prog bOj [] [.c (oV x),.c (oV y)] [] (aWg (val x.l+val y.l)):=by
 refine cY gT cBc cBd rfl rfl rfl bL cD (aC gT mxd ?_)
 obtain⟨m,hmm⟩:∃m:Nat,m=max x.l.length y.l.length+1:=⟨_,rfl⟩
 refine⟨(m:Int),wi (z:=max (x.l.length:Int) (y.l.length:Int)+1) (h:=⟨by omega,by omega,by omega⟩),m,⟨rfl,rfl,show 4*m<=_ by omega,by simp only[maxLen];omega⟩,?_⟩
 refine yN (rn [(6,7),(15,49)]) (λg:Nat×Nat×List Nat=>[(7,.c (iC g.1)),(6,.c (wC g.2.1))]) (λg=>[(131,1,(nC g.2.2 m).map uC)]) (λg=>g.1<=m/\g.2.2.length=g.1/\Lm g.2.2/\g.2.1<=1/\val g.2.2+4294967296^g.1*g.2.1=val (x.l.take g.1)+val (y.l.take g.1)) (λg=>m-g.1) (0,0,[]) ?_
 refine⟨⟨⟨aF _,rfl,Lm.nil,aF _,rfl⟩,?_,rfl,rfl⟩,λ⟨k,c,P⟩ ⟨hk,hP,hLm,hc,hv⟩=>aC gT mxd ⟨λh1=>aC gT mxd ?_,λh1=>aC gT mxd (aC gT mxd ?_)⟩⟩
 ·show [(_,_,_)]=[(_,_,_)]
  rw[tR]
  exact congrArg (λl=>[(131,1,l)]) (aEy m)
 ·simp only at hk hP hLm hc hv h1
  have hkm:k<m:=by omega
  have dx:=vO hx k
  have dy:=vO hy k
  refine vjn (rn [(6,7),(15,49)]) (λg:Nat=>[(7,.c (iC k)),(6,.c (wC g))]) (λ_=>[(131,1,(nC P m).map uC)]) (λg=>g=c+dig x.l k) ?_
  refine⟨⟨λh2=>aC gT mxd ⟨k,⟨rfl,oM⟩,_,w0 (x:=x.l.getD k default) (by have:=hx.at (k:=k) oM;omega),_,wa (by have:=hx.at (k:=k) oM;omega),_,rfl,rfl,rfl,rfl,?_⟩,λh2=>aC gT mxd ⟨_,rfl,rfl,rfl,rfl,?_⟩⟩,?_⟩
  ·show(_:Int)=(_:Int)
   rw[qQ oM]
  ·show(_:Int)=(_:Int)
   rw[wE oM];rfl
  rintro _ rfl
  refine vjn (rn [(6,7),(15,49)]) (λg:Nat=>[(7,.c (iC k)),(6,.c (wC g))]) (λ_=>[(131,1,(nC P m).map uC)]) (λg=>g=c+dig x.l k+dig y.l k) ?_
  refine⟨⟨λh2=>aC gT mxd ⟨k,⟨rfl,oM⟩,_,w0 (x:=y.l.getD k default) (by have:=hy.at (k:=k) oM;omega),_,wa (by have:=hy.at (k:=k) oM;omega),_,rfl,rfl,rfl,rfl,?_⟩,λh2=>aC gT mxd ⟨_,rfl,rfl,rfl,rfl,?_⟩⟩,?_⟩
  ·show(_:Int)=(_:Int)
   rw[qQ (xs:=y.l) oM]
  ·show(_:Int)=(_:Int)
   rw[wE (xs:=y.l) oM];rfl
  rintro _ rfl
  have hfl:k<(nC P m).length:=by rw[aBg oM];exact hkm
  refine⟨_,cu32 _,k,⟨rfl,hkm,show k*1<_ by rw[bV];omega⟩,_,⟨aCe hfl,show k*1+1<=_ by rw[bV];omega⟩,p32,_,shr32 _,(k+1:Nat),wi,(k+1,(c+dig x.l k+dig y.l k)/4294967296,P++[(c+dig x.l k+dig y.l k)%4294967296]),⟨⟨oM,?_,hLm.snoc (dM _ dC),?_,?_⟩,?_⟩,rfl,?_,rfl,rfl⟩
  ·simp[hP]
  ·show _/_<=_
   omega
  ·show val (P++_)+_=val (x.l.take (k+1))+val (y.l.take (k+1))
   rw[qP,qP];exact aMd hP hv
  ·show m-(k+1)<m-k
   omega
  show [(_,_,_)]=[(_,_,_)]
  rw[qJ hP hkm]
 simp only at hk hP hLm hc hv h1
 obtain rfl:m=P.length:=by omega
 have hf:nC P P.length=P:=rN rfl
 have hfin:=bGq hx hy rfl hmm (by rw[hP];exact hv)
 refine⟨some (λj=>[uC (P.getD j default)]),⟨⟨aF _,gR⟩,?_,λj hj=>?_,?_⟩,λA cc _ _=>⟨[],pO ⟨A,cc,P⟩ hLm (by show P.length<=_;omega),rfl,rfl,rfl,λg hg=>⟨g,?_,cM rfl rfl trivial⟩⟩⟩
 ·show P.length*1=_
  rw[hf];simp
 ·show _=List.take 1 (List.drop (j*1) ((nC P P.length).map uC))
  rw[hf];exact tI j hj
 ·rw[hf];exact pY P
 show g.l=_
 rw[<-hfin];exact hg
theorem cmpI_neg {a b:Int}:cmpI a b<0↔a<b:=by unfold cmpI;constructor<;>intro h<;>(repeat split at*)<;>omega
abbrev bOk:FuncId:=117
theorem cBe:Ent Tryz.prog bOk:=bI func117 rfl kR
theorem cBf:Tryz.prog.funcs[bOk]? =some Tryz.f117:=func117
theorem bAy (x y:Sl Nat) (hx:Lm x.l) (hy:Lm y.l) (hn:x.l.length<=1099511627776) (hm:y.l.length<=1099511627776):Ctr Tryz.prog bOk [] [.c (oV x),.c (oV y)] [] (λg:Sl Nat=>⟨.t [.c (oV g),pC (val y.l<=val x.l)],[],g.l=aJ (val x.l-val y.l)⟩):=by
 refine cY gT cBe cBf rfl rfl rfl bL cD (aC gT mxd ⟨[],bUm x y hx hy oM oM,rfl,rfl,rfl,λ_ _=>⟨λh=>aC gT mxd ?_,λh=>aC gT mxd ?_⟩⟩)
 ·have h:=cmpI_neg.1 h
  refine⟨⟨none,0,[]⟩,?_,cM ⟨⟨rfl,rfl,rfl⟩,ff oM⟩ rfl trivial⟩
  show []=aJ _
  rw[show val x.l-val y.l=0 by omega];rfl
 have hxy:val y.l<=val x.l:=by
  rcases eY (val x.l) (val y.l) with h'|h'
  ·exact absurd (cmpI_neg.2 oM) h
  exact h'
 refine⟨[],pO x hx oM,rfl,rfl,rfl,λX hX=>⟨[],pO y hy oM,rfl,rfl,rfl,λY hY=>?_⟩⟩
 replace hX:X.l=aJ (val x.l):=hX
 replace hY:Y.l=aJ (val y.l):=hY
 obtain⟨lX,vX⟩:=dg hX
 obtain⟨lY,vY⟩:=dg hY
 have hlen:Y.l.length<=X.l.length:=by rw[hX,hY];exact gO hxy
 have hXn:X.l.length<=x.l.length:=by rw[hX];exact lS hx
 refine⟨X.l.length,⟨rfl,rfl,show 4*X.l.length<=_ by omega,by simp only[maxLen];omega⟩,?_⟩
 refine yN (rn [(7,10),(22,56)]) (λg:Nat×Nat×List Nat=>[(8,.c (iC g.1)),(7,.c (wC g.2.1))]) (λg=>[(131,1,(nC g.2.2 X.l.length).map uC)]) (λg=>g.1<=X.l.length/\g.2.2.length=g.1/\Lm g.2.2/\g.2.1<=1/\val g.2.2+val (Y.l.take g.1)=val (X.l.take g.1)+4294967296^g.1*g.2.1) (λg=>X.l.length-g.1) (0,0,[]) ?_
 refine⟨⟨⟨aF _,rfl,Lm.nil,aF _,rfl⟩,?_,rfl,rfl⟩,λ⟨k,c,P⟩ ⟨hk,hP,hLm,hc,hv⟩=>aC gT mxd ⟨λh1=>aC gT mxd ?_,λh1=>aC gT mxd (aC gT mxd ?_)⟩⟩
 ·show [(_,_,_)]=[(_,_,_)]
  rw[tR]
  exact congrArg (λl=>[(131,1,l)]) (aEy _)
 ·simp only at hk hP hLm hc hv h1
  have hkm:k<X.l.length:=by omega
  have dx:=lX.at hkm
  have dy:=vO lY k
  refine vjn (rn [(7,10),(22,56)]) (λg:Nat=>[(8,.c (iC k)),(7,.c (wC c)),(9,.c (wC g))]) (λ_=>[(131,1,(nC P X.l.length).map uC)]) (λg=>g=c+dig Y.l k) ?_
  refine⟨⟨λh2=>aC gT mxd ⟨k,⟨rfl,oM⟩,_,w0 (x:=Y.l.getD k default) (by have:=lY.at (k:=k) oM;omega),_,wa (by have:=lY.at (k:=k) oM;omega),_,rfl,rfl,rfl,rfl,rfl,?_⟩,λh2=>aC gT mxd ⟨_,rfl,rfl,rfl,rfl,rfl,?_⟩⟩,?_⟩
  ·show(_:Int)=(_:Int)
   rw[qQ (xs:=Y.l) oM]
  ·show(_:Int)=(_:Int)
   rw[wE (xs:=Y.l) oM];rfl
  rintro _ rfl
  have hfl:k<(nC P X.l.length).length:=by rw[aBg oM];exact hkm
  obtain⟨b,hb⟩:∃b:Nat,b=if X.l.getD k default<c+dig Y.l k then 1 else 0:=⟨_,rfl⟩
  refine⟨k,⟨rfl,hkm⟩,_,w0 (x:=X.l.getD k default) oM,?_⟩
  refine vjn (rn [(7,10),(22,56)]) (λ_:Unit=>[(8,.c (iC k)),(7,.c (wC b)),(9,.c (wC (c+dig Y.l k))),(10,.c (wC (X.l.getD k default+4294967296*b)))]) (λ_=>[(131,1,(nC P X.l.length).map uC)]) (λ_=>True) ?_
  refine⟨⟨λh2=>aC gT mxd ⟨_,wa (x:=X.l.getD k default) (y:=4294967296) oM,(),trivial,rfl,rfl,rfl,?_,rfl,?_⟩,λh2=>aC gT mxd ⟨(),trivial,rfl,rfl,rfl,?_,rfl,?_⟩⟩,?_⟩
  ·show(1:Int)=(b:Int)
   rw[hb,if_pos oM];rfl
  ·show(_:Int)=(_:Int)
   rw[hb,if_pos oM]
  ·show(0:Int)=(b:Int)
   rw[hb,if_neg oM];rfl
  ·show(_:Int)=(_:Int)
   rw[hb,if_neg oM,nV,jG]
  intro _ _
  have hb1:(X.l.getD k default<c+dig Y.l k/\b=1)\/(¬X.l.getD k default<c+dig Y.l k/\b=0):=by
   by_cases h:X.l.getD k default<c+dig Y.l k
   ·exact .inl ⟨h,by rw[hb,if_pos h]⟩
   exact .inr ⟨h,by rw[hb,if_neg h]⟩
  have hs:=aMe (x:=X.l.getD k default) (y:=dig Y.l k) hP hv dx dy hc
  have hm:(X.l.getD k default+4294967296*b-(c+dig Y.l k))%4294967296=(X.l.getD k default+4294967296-(c+dig Y.l k))%4294967296:=by omega
  have hbi:(if X.l.getD k default<c+dig Y.l k then 1 else 0)=b:=hb.symm
  rw[<-hm,hbi] at hs
  rw[<-eM hkm,<-qP] at hs
  refine⟨((X.l.getD k default+4294967296*b-(c+dig Y.l k):Nat):Int),wu (h:=⟨by omega,by omega,by omega⟩),_,cu32 _,k,⟨rfl,hkm,show k*1<_ by rw[bV];omega⟩,_,⟨aCe hfl,show k*1+1<=_ by rw[bV];omega⟩,(k+1:Nat),wi,(k+1,b,P++[(X.l.getD k default+4294967296*b-(c+dig Y.l k))%4294967296]),⟨⟨oM,?_,hLm.snoc (dM _ dC),?_,?_⟩,?_⟩,rfl,?_,rfl,rfl⟩
  ·simp[hP]
  ·show b<=1
   omega
  ·exact hs
  ·show _-(k+1)<_-k
   omega
  show [(_,_,_)]=[(_,_,_)]
  rw[qJ hP hkm]
 simp only at hk hP hLm hc hv h1
 obtain rfl:k=X.l.length:=by omega
 have hf:nC P X.l.length=P:=rN hP
 have hfin:=aRy (k:=X.l.length) hLm hP (aI _) hlen oM hv
 refine⟨some (λj=>[uC (P.getD j default)]),⟨⟨aF _,gR⟩,?_,λj hj=>?_,?_⟩,λA cc _ _=>⟨[],pO ⟨A,cc,P⟩ hLm (by show P.length<=_;omega),?_,rfl,rfl,λg hg=>⟨g,?_,cM ⟨rfl,tt hxy⟩ rfl trivial⟩⟩⟩
 ·show X.l.length*1=_
  rw[hf];simp[hP]
 ·show _=List.take 1 (List.drop (j*1) ((nC P X.l.length).map uC))
  rw[hf];exact tI j (by rw[hP];exact hj)
 ·rw[hf];exact pY P
 ·show [DV.c (.r A X.l.length cc 1 _)]=[DV.c (.r A P.length cc 1 _)]
  rw[hP]
 show g.l=_
 rw[<-vX,<-vY,<-hfin];exact hg
theorem wm {x y:Nat} (h:x*y<=18446744073709551615):((x*y:Nat):Int)=IntKind.u64.wrap ((x:Int)*(y:Int)):=(iV (z:=((x*y:Nat):Int)) oM).symm.trans (by rw[dH])
abbrev bOl:FuncId:=118
theorem cBg:Ent Tryz.prog bOl:=bI func118 rfl kR
theorem cBh:Tryz.prog.funcs[bOl]? =some Tryz.f118:=func118
theorem bUn (x y:Sl Nat) (hx:Lm x.l) (hy:Lm y.l) (hn:x.l.length<=1099511627776) (hm:y.l.length<=1099511627776):Ctr Tryz.prog bOl [] [.c (oV x),.c (oV y)] [] (aWg (val x.l*val y.l)):=by
 refine cY gT cBg cBh rfl rfl rfl bL cD (aC gT mxd ?_)
 obtain⟨m,hmm⟩:∃m:Nat,m=x.l.length+y.l.length:=⟨_,rfl⟩
 refine⟨(m:Int),wi (z:=(x.l.length:Int)+(y.l.length:Int)) (h:=⟨by omega,by omega,by omega⟩),m,⟨rfl,rfl,show 4*m<=_ by omega,by simp only[maxLen];omega⟩,?_⟩
 refine yN (rn [(6,8),(15,64)]) (λg:Nat×List Nat=>[(6,.c (iC g.1))]) (λg=>[(131,1,g.2.map uC)]) (λg=>g.1<=x.l.length/\g.2.length=m/\Lm g.2/\val (g.2.take (g.1+y.l.length))=val (x.l.take g.1)*val y.l/\∀j,g.1+y.l.length<=j->j<g.2.length->g.2.getD j default=0) (λg=>x.l.length-g.1) (0,List.replicate m 0) ?_
 refine⟨⟨⟨aF _,by simp,Lm.zeros m,?_,λj _ hj=>?_⟩,?_,rfl⟩,λ⟨i,O⟩ ⟨hi,hO,hLm,hv,hz⟩=>aC gT mxd ⟨λh1=>aC gT mxd ?_,λh1=>aC gT mxd (aC gT mxd ?_)⟩⟩
 ·show val ((List.replicate m 0).take _)=_
  rw[List.take_replicate,aDb]
  simp[val]
 ·rw[eK] at hj
  rw[gd (by simpa using hj)]
  simp
 ·exact congrArg (λl=>[(131,1,l)]) (aEy m)
 ·simp only at hi hO hLm hv hz h1
  have him:i<x.l.length:=by omega
  have dx:=hx.at him
  refine yN (rn [(7,8),(21,56)]) (λg:Nat×Nat×List Nat=>[(8,.c (iC g.1)),(7,.c (wC g.2.1))]) (λg=>[(131,1,(qS O g.2.2 i).map uC)]) (λg=>g.1<=y.l.length/\g.2.2.length=g.1/\Lm g.2.2/\g.2.1<4294967296/\val g.2.2+4294967296^g.1*g.2.1=val ((O.drop i).take g.1)+x.l.getD i default*val (y.l.take g.1)) (λg=>y.l.length-g.1) (0,0,[]) ?_
  refine⟨⟨⟨aF _,rfl,Lm.nil,by decide,by simp[val]⟩,?_,rfl,rfl⟩,λ⟨k,c,Q⟩ ⟨hk,hQ,hQm,hc,hw⟩=>aC gT mxd ⟨λh2=>aC gT mxd ?_,λh2=>aC gT mxd (aC gT mxd ?_)⟩⟩
  ·show [(_,_,_)]=[(_,_,_)]
   rw[aMf]
  ·simp only at hk hQ hQm hc hw h2
   have hkm:k<y.l.length:=by omega
   have dy:=hy.at hkm
   have hik:i+k<O.length:=by omega
   have hrl:(qS O Q i).length=O.length:=sD oM
   have ho:O.getD (i+k) default<4294967296:=hLm.at hik
   have hg:(qS O Q i).getD (i+k) default=O.getD (i+k) default:=aRz hQ hik
   have hlm:=yA dx dy
   obtain⟨p,hp⟩:∃p,p=x.l.getD i default*y.l.getD k default:=⟨_,rfl⟩
   rw[<-hp] at hlm
   have hpos:i+k<(qS O Q i).length:=by rw[hrl];exact hik
   refine⟨.seq (bAt 0 22),by kernel_rfl,((i+k:Nat):Int),wi,i+k,⟨rfl,by omega,show(i+k)*1<_ by rw[bV,hrl];omega⟩,_,aTg hpos,_,w0 (x:=(qS O Q i).getD (i+k) default) oM,i,⟨rfl,him⟩,_,w0 (x:=x.l.getD i default) oM,k,⟨rfl,hkm⟩,_,w0 (x:=y.l.getD k default) oM,_,wm oM,_,wa oM,_,wa oM,((i+k:Nat):Int),wi,_,cu32 _,i+k,⟨rfl,by omega,show(i+k)*1<_ by rw[bV,hrl];omega⟩,_,⟨aCe hpos,show(i+k)*1+1<=_ by rw[bV,hrl];omega⟩,p32,_,shr32 _,(k+1:Nat),wi,(k+1,(c+(O.getD (i+k) default+x.l.getD i default*y.l.getD k default))/4294967296,Q++[(c+(O.getD (i+k) default+x.l.getD i default*y.l.getD k default))%4294967296]),⟨⟨oM,?_,hQm.snoc (dM _ dC),?_,aBi hQ hkm hik hw⟩,?_⟩,rfl,?_,rfl,?_⟩
   ·simp[hQ]
   ·show _/_<_
    omega
   ·show y.l.length-(k+1)<y.l.length-k
    omega
   ·show [(_,_,_)]=[(_,_,_)]
    rw[hg,aBh hQ hik]
   show(_:Int)=(_:Int)
   rw[hg]
  simp only at hk hQ hQm hc hw h2
  obtain rfl:k=y.l.length:=by omega
  have hpos:i+y.l.length<(qS O Q i).length:=by rw[sD oM];omega
  have hQ':(Q++[c]).length=y.l.length+1:=by simp[hQ]
  refine⟨((i+y.l.length:Nat):Int),wi,_,cu32 c,i+y.l.length,⟨rfl,by omega,show(i+y.l.length)*1<((qS O Q i).map uC).length by rw[bV];omega⟩,_,⟨aCe hpos,show(i+y.l.length)*1+1<=((qS O Q i).map uC).length by rw[bV];omega⟩,(i+1:Nat),wi,(i+1,qS O (Q++[c]) i),⟨⟨oM,?_,aSa hLm (hQm.snoc hc),?_,?_⟩,?_⟩,rfl,?_,rfl⟩
  ·show(qS O (Q++[c]) i).length=m
   rw[sD oM];exact hO
  ·rw[lF (aI _)] at hw
   exact aSb (n:=0) him hQ oM hv hw
  ·exact aFu hQ' oM hz
  ·show x.l.length-(i+1)<x.l.length-i
   omega
  show [(_,_,_)]=[(_,_,_)]
  rw[aBh hQ oM,cW hc]
 simp only at hi hO hLm hv hz h1
 obtain rfl:i=x.l.length:=by omega
 rw[lF oM,lF (aI _)] at hv
 refine⟨some (λj=>[uC (O.getD j default)]),⟨⟨aF _,gR⟩,?_,λj hj=>tI j (by rw[hO];exact hj),pY O⟩,λA cc _ _=>⟨[],pO ⟨A,cc,O⟩ hLm (by show O.length<=_;omega),?_,rfl,rfl,λg hg=>⟨g,?_,cM rfl rfl trivial⟩⟩⟩
 ·show m*1=_
  simp[hO]
 ·show [DV.c (.r A m cc 1 _)]=[DV.c (.r A O.length cc 1 _)]
  rw[hO]
 show g.l=_
 rw[<-hv];exact hg
theorem bAz {x s:Nat} (hs:s<32):((x/2^s:Nat):Int)=(x:Int).fdiv (2^(min (s:Int).toNat IntKind.u32.bits)):=by
 rw[bP,show min s IntKind.u32.bits=s from fI (gQ hs),iS _ (tM (Int.pow_pos dC))]
 simp
theorem cBi (x:Nat):((x/2:Nat):Int)=(x:Int).fdiv (2^(min (1:Int).toNat IntKind.u32.bits)):=by
 have:=bAz (x:=x) (s:=1) dC
 simpa using this
theorem p1:(0:Int)<=1:=by decide
theorem cBj {s:Nat} (hs:s<32):((2^s:Nat):Int)=IntKind.u32.wrap ((1:Int)*2^(min (s:Int).toNat IntKind.u32.bits)):=by
 rw[bP,show min s IntKind.u32.bits=s from fI (gQ hs),zE]
 have h:2^s<2^32:=sL dC hs
 rw[show((2:Int)^s)=((2^s:Nat):Int) by simp]
 generalize 2^s=p at*
 rw[aOk oM]
theorem orN {a b:Nat} (ha:a<4294967296) (hb:b<4294967296):((a|||b:Nat):Int)=IntKind.u32.wrap ((BitVec.ofInt IntKind.u32.bits (a:Int)|||BitVec.ofInt IntKind.u32.bits (b:Int)).toNat:Int):=by
 show _=IntKind.u32.wrap ((BitVec.ofInt 32 (a:Int)|||BitVec.ofInt 32 (b:Int)).toNat:Int)
 rw[gK,gK,sT,iF,iF,cW oM,cW oM]
 have:=Nat.or_lt_two_pow (n:=32) ha hb
 rw[aOk oM]
theorem cBk {a:Nat} (ha:a<4294967296):((a%2:Nat):Int)=IntKind.u32.wrap ((BitVec.ofInt IntKind.u32.bits (a:Int)&&&BitVec.ofInt IntKind.u32.bits (1:Int)).toNat:Int):=by
 symm
 show IntKind.u32.wrap ((BitVec.ofInt 32 (a:Int)&&&BitVec.ofInt 32 ((1:Nat):Int)).toNat:Int)=_
 rw[gK,gK,BitVec.toNat_and,iF,iF,cW oM,cW oM,Nat.and_one_is_mod,aOk oM]
theorem quo32 {i:Nat} (h:i<=4611686018427387904):((i/32:Nat):Int)=IntKind.i64.wrap ((i:Int).tdiv 32):=by
 rw[mD oM,jS oM];omega
theorem rem32 (i:Nat):(i:Int).tmod 32=((i%32:Nat):Int):=by
 rw[mE oM];omega
theorem quoN {a b:Nat} (h:a<18446744073709551616):((a/b:Nat):Int)=IntKind.u64.wrap ((a:Int).tdiv (b:Int)):=by
 rw[mD oM,<-rP]
 have:=iT a b
 generalize a/b=q at*
 exact(iV oM).symm
theorem n32:(32:Int)≠0:=by decide
abbrev bBa:FuncId:=155
theorem bUo:Ent Tryz.prog bBa:=bI func155 rfl kR
theorem bUp:Tryz.prog.funcs[bBa]? =some Tryz.f155:=func155
theorem bOm (x:Sl Nat) (hx:Lm x.l) (hn:x.l.length<=1099511627776):Ctr Tryz.prog bBa [] [.c (oV x)] [] (λt:Nat=>⟨.c (iC t),[],val x.l<2^t/\t<=32*x.l.length⟩):=by
 refine cY gT bUo bUp rfl rfl rfl bL cD (aC gT mxd ⟨[],pO x hx oM,rfl,rfl,rfl,λX hX=>?_⟩)
 replace hX:X.l=aJ (val x.l):=hX
 obtain⟨lX,vX⟩:=dg hX
 have hXn:X.l.length<=x.l.length:=by rw[hX];exact lS hx
 refine⟨λh=>aC gT mxd ⟨0,⟨?_,aF _⟩,cM rfl rfl trivial⟩,λh=>aC gT mxd ?_⟩
 ·have h0:val x.l=0:=kZ.1 (by unfold len;rw[<-hX];omega)
  rw[h0];decide
 have h0:0<X.l.length:=by omega
 have htop:=lX.at (k:=X.l.length-1) oM
 refine⟨(X.l.length:Int)-1,wi,(32*(X.l.length-1):Nat),wi,(X.l.length:Int)-1,wi,X.l.length-1,⟨oM,oM⟩,?_⟩
 refine yN (rn [(3,4),(20,25)]) (λs:Nat=>[(3,.c (iC (32*(X.l.length-1)+s:Nat))),(4,.c (uC (X.l.getD (X.l.length-1) default/2^s)))]) (λ_=>[]) (·<=32) (32-·) 0 ?_
 refine⟨⟨aF _,rfl,rfl,?_⟩,λs hs=>aC gT mxd ⟨λh1=>aC gT mxd ?_,λh1=>aC gT mxd (aC gT mxd ?_)⟩⟩
 ·show(_:Int)=(_:Int)
  rw[tL,zL]
 ·have hs32:s<32:=by
   rcases eY s 32 with h|h
   ·exact h
   exfalso
   rw[show s=32 by omega,jM (show X.l.getD (X.l.length-1) default<2^32 from htop)] at h1
   exact absurd h1 dC
  refine⟨(32*(X.l.length-1)+(s+1):Nat),wi,p1,_,cBi _,s+1,⟨hs32,by omega⟩,rfl,rfl,rfl,?_⟩
  show(_:Int)=(_:Int)
  rw[eZ,<-jX]
 have hz:X.l.getD (X.l.length-1) default/2^s=0:=by
  rcases dB (X.l.getD (X.l.length-1) default/2^s) with h|h
  ·exact h
  exact absurd (Int.natCast_pos.2 h) h1
 have hb:=aXa lX h0 hz
 rw[vX] at hb
 exact⟨_,⟨hb,by omega⟩,cM rfl rfl trivial⟩
abbrev bOn:FuncId:=156
theorem cBl:Ent Tryz.prog bOn:=bI func156 rfl kR
theorem cBm:Tryz.prog.funcs[bOn]? =some Tryz.f156:=func156
theorem bUq (x:Sl Nat) (hx:Lm x.l) {i:Nat} {z:Int} (hz:z=i) (hi:i<=70368744177664):Ctr Tryz.prog bOn [] [.c (oV x),.c (iC z)] [] (λ_:Unit=>⟨.c (uC (val x.l/2^i%2)),[],True⟩):=by
 subst hz
 refine cY gT cBl cBm rfl rfl rfl bL cD (aC gT mxd ⟨n32,_,quo32 oM,⟨λh=>aC gT mxd ?_,λh=>aC gT mxd ?_⟩⟩)
 ·refine⟨(),trivial,cM ?_ rfl trivial⟩
  show(0:Int)=(_:Int)
  rw[<-aJg hx,wE oM,Nat.zero_div];rfl
 have hxi:=hx.at (k:=i/32) oM
 refine⟨n32,_,quo32 oM,i/32,⟨rfl,oM⟩,n32,((i%32:Nat):Int),wu (h:=⟨(rem32 i).symm,by rw[rem32];omega,by rw[rem32];omega⟩),show(0:Int)<=((i%32:Nat):Int) by omega,_,bAz oM,_,cBk (gM (iT _ _) hxi),(),trivial,cM ?_ rfl trivial⟩
 show(_:Int)=(_:Int)
 rw[<-aJg hx,qQ oM]
abbrev aKp:FuncId:=132
theorem bIp:Ent Tryz.prog aKp:=bI func132 rfl kR
theorem bIq:Tryz.prog.funcs[aKp]? =some Tryz.f132:=func132
theorem aNr (x y:Sl Nat) (hx:Lm x.l) (hy:Lm y.l) (hn:x.l.length<=549755813888) (hm:y.l.length<=549755813888):Ctr Tryz.prog aKp [] [.c (oV x),.c (oV y)] [] (λg:Sl Nat×Sl Nat=>⟨.t [.c (oV g.1),.c (oV g.2),pC (val y.l≠0)],[],g.1.l=aJ (val x.l/val y.l)/\g.2.l=aJ (vS (val x.l) (val y.l))⟩):=by
 refine cY gT bIp bIq rfl rfl rfl bL cD (aC gT mxd ⟨[],pO y hy oM,rfl,rfl,rfl,λY hY=>?_⟩)
 replace hY:Y.l=aJ (val y.l):=hY
 obtain⟨lY,vY⟩:=dg hY
 have hYn:Y.l.length<=y.l.length:=by rw[hY];exact lS hy
 refine⟨λh=>aC gT mxd ?_,λh=>aC gT mxd ?_⟩
 ·have hy0:val y.l=0:=kZ.1 (by unfold len;rw[<-hY];omega)
  refine⟨(fF,fF),⟨?_,?_⟩,cM ⟨⟨rfl,rfl,rfl⟩,⟨rfl,rfl,rfl⟩,ff (λh=>h hy0)⟩ rfl trivial⟩
  ·show []=aJ _
   rw[hy0,Nat.div_zero];rfl
  show []=aJ _
  rw[hy0];rfl
 have hy0:val y.l≠0:=λh0=>by have:=kZ.2 h0;unfold len at this;rw[<-hY] at this;omega
 have hmz:vS (val x.l) (val y.l)=val x.l%val y.l:=if_neg hy0
 refine⟨[],bAw x hx oM,rfl,rfl,rfl,λ_ _=>⟨[],bAw Y lY oM,rfl,rfl,rfl,λ_ _=>⟨λh64=>aC gT mxd ?_,λh64=>aC gT mxd ?_⟩⟩⟩
 ·have hd:=iT (val x.l) (val y.l)
  have hd2:=aBd (val x.l) (val y.l)
  have e1:(if val x.l<18446744073709551616 then val x.l else 0)=val x.l:=if_pos h64.1
  have e2:(if val Y.l<18446744073709551616 then val Y.l else 0)=val y.l:=by rw[if_pos h64.2,vY]
  rw[e1,e2]
  have hnz:((val y.l:Nat):Int)≠0:=by omega
  refine⟨.seq [(0,false),(1,false),(2,false),(4,false),(5,false),(6,false),(3,false),(7,false),(8,false),(9,false),(10,false)],by kernel_rfl,hnz,_,quoN h64.1,hnz,[],aKo oM,rfl,rfl,rfl,λg1 h1=>⟨[],aKo (n:=val x.l%val y.l) oM,rfl,rfl,rfl,λg2 h2=>⟨(g1,g2),⟨h1,by rw[hmz];exact h2⟩,cM ⟨rfl,rfl,tt hy0⟩ rfl trivial⟩⟩⟩
 refine⟨x.l.length,⟨rfl,rfl,show 4*x.l.length<=_ by omega,by simp only[maxLen];omega⟩,[],bOm x hx oM,rfl,rfl,rfl,λt ⟨ht,htl⟩=>⟨(t:Int)-1,wi,?_⟩⟩
 refine bOe (rn [(5,5),(11,13),(47,79)]) 1 (λg:Nat×Nat×Nat×List Nat×Sl Nat=>[(11,.c (iC ((g.1:Int)-1))),(5,.c (oV g.2.2.2.2))]) (λg=>[(131,1,g.2.2.2.1.map uC)]) (λg=>g.1<=t/\val x.l/2^g.1=g.2.1*val y.l+g.2.2.1/\g.2.2.1<val y.l/\g.2.2.2.1.length=x.l.length/\Lm g.2.2.2.1/\val g.2.2.2.1=g.2.1*2^g.1/\g.2.2.2.2.l=aJ g.2.2.1) (λg=>g.1) (t,0,0,List.replicate x.l.length 0,fF) (λ_=>rfl) bL (λ_=>aD (aZ.2 λc hc=>sO (pY _ c hc)) bM) (λ_=>rfl) ?_
 refine⟨⟨rfl,⟨aI _,?_,?_,by simp,Lm.zeros _,?_,rfl⟩,?_,rfl,rfl,rfl,rfl⟩,λ⟨j,Qn,r,O,R⟩ ⟨hj,hdiv,hr,hOl,hOm,hOv,hR⟩=>aC gT mxd ⟨λh1=>aC gT mxd ?_,λh1=>aC gT mxd (aC gT mxd ?_)⟩⟩
 ·show val x.l/2^t=_
  rw[jM ht];simp
 ·show 0<val y.l
  omega
 ·show val (List.replicate _ 0)=0*_
  rw[aDb,lH]
 ·show(_,_,_)=(_,_,_)
  exact congrArg (λl=>(131,1,l)) (aEy _)
 ·simp only at hj hdiv hr hOl hOm hOv hR h1
  obtain⟨i,rfl⟩:∃i,j=i+1:=⟨j-1,by omega⟩
  obtain⟨lR,vR⟩:=dg hR
  have hz:((i+1:Nat):Int)-1=i:=by omega
  have hlr:R.l.length<=Y.l.length:=by rw[hR,hY];exact gO oM
  have hb1:val x.l/2^i%2<2:=dM _ dC
  have hlr2:=zO r r
  simp only[<-gU] at hlr2
  rw[<-hR] at hlr2
  have hnx:=aXc (i:=i) hdiv
  refine⟨[],bAx R R lR lR oM oM,rfl,rfl,rfl,λR2 hR2=>⟨[],bUq x hx hz oM,rfl,rfl,rfl,λ_ _=>?_⟩⟩
  replace hR2:R2.l=aJ (val R.l+val R.l):=hR2
  rw[vR] at hR2
  obtain⟨lR2,vR2⟩:=dg hR2
  rw[<-hR2] at hlr2
  refine cAs (rn [(5,5),(11,13),(47,79)]) 1 (λR3:Sl Nat=>[(11,.c (iC (((i+1:Nat):Int)-1))),(5,.c (oV R3))]) (λ_=>[(131,1,O.map uC)]) (λR3=>R3.l=aJ (r+r+val x.l/2^i%2)) (λ_=>rfl) bL (λ_=>aD (aZ.2 λc hc=>sO (pY _ c hc)) bM) (λ_=>rfl) ?_
  refine⟨rfl,⟨λh2=>aC gT mxd ⟨some (λj=>[uC ([1].getD j default)]),⟨⟨aF _,gR⟩,rfl,λj hj=>tI (x:=[1]) j hj,pY [1]⟩,λA c _ _=>⟨aKm O,[],bAx R2 ⟨A,c,[1]⟩ lR2 (λz hz=>by rw[aT.1 hz];decide) oM (by show 1<=_;omega),rfl,rfl,rfl,λR3 hR3=>⟨R3,?_,rfl,rfl,rfl,rfl⟩⟩⟩,λh2=>aC gT mxd ⟨R2,?_,rfl,rfl,rfl,rfl⟩⟩,λR3 hR3=>?_⟩
  ·replace hR3:R3.l=aJ (val R2.l+val [1]):=hR3
   rw[hR3,vR2]
   congr 1
   show r+r+1=_
   omega
  ·rw[hR2]
   congr 1
   omega
  obtain⟨lR3,vR3⟩:=dg hR3
  have hlr3:R3.l.length<=Y.l.length+1:=by
   have h1:=gO (m:=r+r+val x.l/2^i%2) (n:=val y.l+val y.l) oM
   have h2:=zO (val y.l) (val y.l)
   simp only[<-gU] at h1 h2
   rw[<-hY] at h2
   rw[hR3]
   omega
  refine⟨[],bAy R3 Y lR3 lY oM oM,rfl,rfl,rfl,λD hD=>⟨λh3=>aC gT mxd ?_,λh3=>aC gT mxd ?_⟩⟩
  ·replace hD:D.l=aJ (val R3.l-val Y.l):=hD
   have hsb:=bMh (i:=i) hOm oM (by rw[hOv];exact Nat.mul_mod_left _ _)
   have hi32:i/32<O.length:=by omega
   refine⟨n32,((i/32:Nat):Int),(show((i/32:Nat):Int)=IntKind.i64.wrap ((((i+1:Nat):Int)-1).tdiv 32) by rw[hz];exact quo32 oM),i/32,⟨rfl,by omega,show i/32*1<(O.map uC).length by rw[bV];omega⟩,_,aTg hi32,n32,((i%32:Nat):Int),wu (h:=⟨by rw[hz,rem32],by rw[hz,rem32];omega,by rw[hz,rem32];omega⟩),show(0:Int)<=((i%32:Nat):Int) by omega,_,cBj oM,_,orN (hOm.at hi32) (show 2^(i%32)<2^32 from sL dC oM),i/32,⟨rfl,by omega,show i/32*1<(O.map uC).length by rw[bV];omega⟩,_,⟨aCe hi32,show i/32*1+1<=(O.map uC).length by rw[bV];omega⟩,(i:Int)-1,wi,(i,2*Qn+1,r+r+val x.l/2^i%2-val y.l,O.set (i/32) (O.getD (i/32) default+2^(i%32)),D),⟨⟨show i<=t by omega,?_,show r+r+val x.l/2^i%2-val y.l<val y.l by omega,?_,hOm.set hsb.2.1,?_,?_⟩,dK i⟩,rfl,?_,rfl,rfl⟩
   ·show val x.l/2^i=(2*Qn+1)*val y.l+(r+r+val x.l/2^i%2-val y.l)
    rw[hnx,dW,lN];omega
   ·simp[hOl]
   ·show val (O.set _ _)=(2*Qn+1)*2^i
    rw[hsb.2.2,hOv,aMg,dW,lN]
   ·show D.l=aJ _
    rw[hD,vR3,vY]
   show(_,_,_)=(_,_,_)
   rw[hsb.1]
  refine⟨(i:Int)-1,wi,(i,2*Qn,r+r+val x.l/2^i%2,O,R3),⟨⟨show i<=t by omega,hnx,show r+r+val x.l/2^i%2<val y.l by omega,hOl,hOm,?_,hR3⟩,dK i⟩,rfl,rfl,rfl,rfl⟩
  show val O=2*Qn*2^i
  rw[hOv,aMg]
 simp only at hj hdiv hr hOl hOm hOv hR h1
 obtain rfl:j=0:=by omega
 rw[tL,zL] at hdiv
 rw[tL,dF] at hOv
 obtain⟨f1,f2⟩:=aJh hdiv hr
 obtain⟨lR,vR⟩:=dg hR
 have hlr:R.l.length<=Y.l.length:=by rw[hR,hY];exact gO oM
 refine⟨some (λj=>[uC (O.getD j default)]),⟨⟨aF _,gR⟩,?_,λj hj=>tI j (by rw[hOl];exact hj),pY O⟩,λA cc _ _=>⟨[],pO ⟨A,cc,O⟩ hOm (by show O.length<=_;omega),?_,rfl,rfl,λg hg=>⟨[],pO R lR oM,rfl,rfl,rfl,λg2 hg2=>⟨(g,g2),⟨?_,?_⟩,cM ⟨rfl,rfl,tt hy0⟩ rfl trivial⟩⟩⟩⟩
 ·show x.l.length*1=_
  simp[hOl]
 ·show [DV.c (.r A x.l.length cc 1 _)]=[DV.c (.r A O.length cc 1 _)]
  rw[hOl]
 ·show g.l=_
  rw[<-f1,<-hOv];exact hg
 show g2.l=_
 rw[hmz,<-f2,<-vR];exact hg2
abbrev bOo:FuncId:=131
theorem cBn:Ent Tryz.prog bOo:=bI func131 rfl kR
theorem cBo:Tryz.prog.funcs[bOo]? =some Tryz.f131:=func131
theorem bUr (x y:Sl Nat) (hx:Lm x.l) (hy:Lm y.l) (hn:x.l.length<=549755813888) (hm:y.l.length<=549755813888):Ctr Tryz.prog bOo [] [.c (oV x),.c (oV y)] [] (aWg (Nat.gcd (val x.l) (val y.l))):=by
 refine cY gT cBn cBo rfl rfl rfl bL cD (aC gT mxd ⟨[],pO x hx oM,rfl,rfl,rfl,λX hX=>⟨[],pO y hy oM,rfl,rfl,rfl,λY hY=>?_⟩⟩)
 have hXn:(aJ (val x.l)).length<=x.l.length:=lS hx
 have hYn:(aJ (val y.l)).length<=y.l.length:=lS hy
 refine yN (rn [(0,1),(5,7),(12,23)]) (λg:Nat×Nat×Sl Nat×Sl Nat=>[(0,.c (oV g.2.2.1)),(1,.c (oV g.2.2.2))]) (λ_=>[]) (λg=>g.2.2.1.l=aJ g.1/\g.2.2.2.l=aJ g.2.1/\Nat.gcd g.1 g.2.1=Nat.gcd (val x.l) (val y.l)/\(aJ g.1).length<=549755813888/\(aJ g.2.1).length<=549755813888) (λg=>g.2.1) (val x.l,val y.l,X,Y) ?_
 refine⟨⟨⟨hX,hY,rfl,bA hXn hn,bA hYn hm⟩,rfl,rfl,rfl⟩,λ⟨a,b,A,B⟩ ⟨hA,hB,hg,hla,hlb⟩=>aC gT mxd ⟨λh1=>aC gT mxd ?_,λh1=>aC gT mxd (aC gT mxd ?_)⟩⟩
 ·simp only at hA hB hg hla hlb h1
  obtain⟨lA,vA⟩:=dg hA
  obtain⟨lB,vB⟩:=dg hB
  have hb0:b≠0:=λh0=>by rw[h0] at hB;rw[hB] at h1;exact absurd h1 dC
  refine⟨[],aNr A B lA lB (by rw[hA];omega) (by rw[hB];omega),rfl,rfl,rfl,λ⟨Q,R⟩ ⟨_,hR⟩=>⟨(b,a%b,B,R),⟨⟨hB,?_,?_,hlb,?_⟩,dM _ oM⟩,rfl,rfl,rfl,rfl⟩⟩
  ·show R.l=_
   replace hR:R.l=aJ (vS (val A.l) (val B.l)):=hR
   rw[hR,vA,vB,vS,if_neg hb0]
  ·show Nat.gcd b (a%b)=_
   rw[<-hg,kQ a b,zK b a,kQ]
  have:=gO (gQ (dM a (show 0<b by omega)))
  simp only[<-gU] at this
  exact bA this hlb
 simp only at hA hB hg hla hlb h1
 have hb0:b=0:=kZ.1 (by unfold len;rw[<-hB];omega)
 refine⟨A,?_,cM rfl rfl trivial⟩
 show A.l=_
 rw[hA,<-hg,hb0,qG]
structure IntM where
 p:Prop
 d:Decidable p
 m:Sl Nat
def IntM.C (i:IntM):List CV:=[.b i.p i.d,oV i.m]
open Classical in
noncomputable def sg (p:Prop) (n:Nat):Int:=if p then-(n:Int) else n
structure In (i:IntM) (v:Int) (B:Nat):Prop where
 lm:Lm i.m.l
 ln:i.m.l.length<=B
 v:sg i.p (val i.m.l)=v
def Ci (i:IntM) (v:Int):Prop:=(i.p↔v<0)/\i.m.l=aJ v.natAbs
abbrev aEp (v:Int):IntM->Out:=λg=>⟨.a g.C,[],Ci g v⟩
theorem sg_t {p:Prop} {n:Nat} (h:p):sg p n=-(n:Int):=if_pos h
theorem sg_f {p:Prop} {n:Nat} (h:¬p):sg p n=n:=if_neg h
theorem sg_abs {p:Prop} {n:Nat}:(sg p n).natAbs=n:=by
 by_cases h:p
 ·rw[sg_t h];omega
 rw[sg_f h];omega
theorem aKq {p:Prop} {n:Nat}:sg p n<0↔p/\0<n:=by
 by_cases h:p
 ·rw[sg_t h];exact⟨λ_=>⟨h,by omega⟩,λh=>by omega⟩
 rw[sg_f h];exact⟨λh=>by omega,λh2=>absurd h2.1 h⟩
theorem Ci.in {i:IntM} {v:Int} {B:Nat} (h:Ci i v) (hb:len v.natAbs<=B):In i v B:=by
 obtain⟨lX,vX⟩:=dg h.2
 refine⟨lX,by rw[h.2];exact hb,?_⟩
 rw[vX]
 by_cases hp:i.p
 ·rw[sg_t hp];have:=h.1.1 hp;omega
 rw[sg_f hp];have:¬v<0:=λhv=>hp (h.1.2 hv);omega
theorem In.abs {i:IntM} {v:Int} {B:Nat} (h:In i v B):val i.m.l=v.natAbs:=by rw[<-h.v,sg_abs]
theorem In.len {i:IntM} {v:Int} {B:Nat} (h:In i v B):len v.natAbs<=B:=by rw[<-h.abs];exact bA (lS h.lm) h.ln
theorem In.le {i:IntM} {v:Int} {B B':Nat} (h:In i v B) (hb:B<=B':=by omega):In i v B':=⟨h.lm,bA h.ln hb,h.v⟩
theorem aTh {n:Nat}:0<len n↔0<n:=by have:=kZ (n:=n);omega
abbrev aPt:FuncId:=102
theorem bOp:Ent Tryz.prog aPt:=bI func102 rfl kR
theorem bOq:Tryz.prog.funcs[aPt]? =some Tryz.f102:=func102
theorem pZ (p:Prop) {hp:Decidable p} (m:Sl Nat) (hm:Lm m.l) (hn:m.l.length<=17592186044416):Ctr Tryz.prog aPt [] [.c (.b p hp),.c (oV m)] [] (aEp (sg p (val m.l))):=by
 refine cY gT bOp bOq rfl rfl rfl bL cD (aC gT mxd ⟨[],pO m hm hn,rfl,rfl,rfl,λX hX=>?_⟩)
 replace hX:X.l=aJ (val m.l):=hX
 refine⟨⟨p/\(0:Int)<(X.l.length:Nat),inferInstance,X⟩,⟨?_,?_⟩,cM rfl rfl trivial⟩
 ·show(p/\(0:Int)<(X.l.length:Nat))↔_
  rw[aKq,hX,gU]
  have:=aTh (n:=val m.l)
  constructor
  ·rintro⟨h1,h2⟩;exact⟨h1,this.1 oM⟩
  rintro⟨h1,h2⟩;exact⟨h1,by have:=this.2 h2;omega⟩
 show X.l=_
 rw[sg_abs];exact hX
abbrev aPu:FuncId:=98
theorem bOr:Ent Tryz.prog aPu:=bI func98 rfl kR
theorem bOs:Tryz.prog.funcs[aPu]? =some Tryz.f98:=func98
theorem aKr (i:IntM) {v:Int} (h:In i v 17592186044416):Ctr Tryz.prog aPu [] [.a i.C] [] (aEp v):=by
 refine cY gT bOr bOs rfl rfl rfl bL cD (aC gT mxd ⟨[],pZ i.p i.m h.lm h.ln,rfl,rfl,rfl,λg hg=>⟨g,?_,cM rfl rfl trivial⟩⟩)
 rw[<-h.v];exact hg
abbrev bBb:FuncId:=101
theorem bUs:Ent Tryz.prog bBb:=bI func101 rfl kR
theorem bUt:Tryz.prog.funcs[bBb]? =some Tryz.f101:=func101
theorem aHd (i:IntM) {v:Int} (h:In i v 17592186044416):Ctr Tryz.prog bBb [] [.a i.C] [] (aEp (-v)):=by
 refine cY gT bUs bUt rfl rfl rfl bL cD (aC gT mxd ⟨[],pZ (¬i.p) i.m h.lm h.ln,rfl,rfl,rfl,λg hg=>⟨g,?_,cM rfl rfl trivial⟩⟩)
 have e:sg (¬i.p) (val i.m.l)=-v:=by
  rw[<-h.v]
  by_cases hp:i.p
  ·rw[sg_t hp,sg_f (λh=>h hp)];omega
  rw[sg_f hp,sg_t hp]
 rw[<-e];exact hg
abbrev bBc:FuncId:=133
theorem bUu:Ent Tryz.prog bBc:=bI func133 rfl kR
theorem bUv:Tryz.prog.funcs[bBc]? =some Tryz.f133:=func133
theorem bOt (i:IntM) {v:Int} (h:In i v 17592186044416):Ctr Tryz.prog bBc [] [.a i.C] [] (aEp v.natAbs):=by
 refine cY gT bUu bUv rfl rfl rfl bL cD (aC gT mxd ⟨[],pZ (false=true) i.m h.lm h.ln,rfl,rfl,rfl,λg hg=>⟨g,?_,cM rfl rfl trivial⟩⟩)
 rw[<-h.abs,<-sg_f (p:=false=true) dC];exact hg
theorem sg_add {p q:Prop} {m n:Nat} (h:p↔q):sg p m+sg q n=sg p (m+n):=by
 by_cases hp:p
 ·rw[sg_t hp,sg_t (h.1 hp),sg_t hp];omega
 rw[sg_f hp,sg_f (λhq=>hp (h.2 hq)),sg_f hp];omega
theorem bBd {p q:Prop} {m n:Nat} (h:¬(p↔q)) (hmn:n<=m):sg p m+sg q n=sg p (m-n):=by
 by_cases hp:p
 ·rw[sg_t hp,sg_f (λhq=>h ⟨λ_=>hq,λ_=>hp⟩),sg_t hp];omega
 have hq:q:=fS λhq=>h ⟨λh=>absurd h hp,λh=>absurd h hq⟩
 rw[sg_f hp,sg_t hq,sg_f hp];omega
theorem sg_mul {p q:Prop} {m n:Nat}:sg p m*sg q n=sg (¬(p↔q)) (m*n):=by
 by_cases hp:p<;>by_cases hq:q
 ·rw[sg_t hp,sg_t hq,sg_f (λh=>h ⟨λ_=>hq,λ_=>hp⟩),Int.neg_mul_neg,dH]
 ·rw[sg_t hp,sg_f hq,sg_t (λh=>hq (h.1 hp)),vF,dH]
 ·rw[sg_f hp,sg_t hq,sg_t (λh=>hp (h.2 hq)),vG,dH]
 rw[sg_f hp,sg_f hq,sg_f (λh=>h ⟨λh=>absurd h hp,λh=>absurd h hq⟩),dH]
theorem dgl {X:Sl Nat} {n B:Nat} (h:X.l=aJ n) (hb:len n<=B):X.l.length<=B:=by rw[h];exact hb
theorem aTi (m n:Nat):len (m-n)<=len m:=gO (Nat.sub_le m n)
abbrev aPv:FuncId:=59
theorem bOu:Ent Tryz.prog aPv:=bI func59 rfl kR
theorem bOv:Tryz.prog.funcs[aPv]? =some Tryz.f59:=func59
theorem zV {z:Int} (hz:-9223372036854775808<=z/\z<=9223372036854775807):Ctr Tryz.prog aPv [] [.c (iC z)] [] (aEp z):=by
 refine cY gT bOu bOv rfl rfl rfl bL cD (aC gT mxd ⟨λh=>aC gT mxd ?_,λh=>aC gT mxd ?_⟩)
 ·have hl:=rW (n:=z.natAbs)
  refine⟨z+1,wi,0-(z+1),wi,((-(z+1)).toNat:Nat),wu,(z.natAbs:Nat),wu,[],aKo (n:=z.natAbs) oM,rfl,rfl,rfl,λg hg=>?_⟩
  replace hg:g.l=aJ z.natAbs:=hg
  obtain⟨lg,vg⟩:=dg hg
  refine⟨[],pZ (true=true) g lg (dgl hg oM),rfl,rfl,rfl,λi hi=>⟨i,?_,cM rfl rfl trivial⟩⟩
  have e:sg (true=true) (val g.l)=z:=by rw[sg_t rfl,vg];omega
  rw[<-e];exact hi
 have hl:=rW (n:=z.natAbs)
 refine⟨(z.natAbs:Nat),wu,[],aKo (n:=z.natAbs) oM,rfl,rfl,rfl,λg hg=>?_⟩
 replace hg:g.l=aJ z.natAbs:=hg
 obtain⟨lg,vg⟩:=dg hg
 refine⟨[],pZ (false=true) g lg (dgl hg oM),rfl,rfl,rfl,λi hi=>⟨i,?_,cM rfl rfl trivial⟩⟩
 have e:sg (false=true) (val g.l)=z:=by rw[sg_f dC,vg];omega
 rw[<-e];exact hi
def sgn (z:Int):Int:=if z<0 then-1 else if z=0 then 0 else 1
abbrev aPw:FuncId:=97
theorem bOw:Ent Tryz.prog aPw:=bI func97 rfl kR
theorem bOx:Tryz.prog.funcs[aPw]? =some Tryz.f97:=func97
theorem aTj (i:IntM) {v:Int} (h:In i v 17592186044416):Ctr Tryz.prog aPw [] [.a i.C] [] (λ_:Unit=>⟨.c (iC (sgn v)),[],True⟩):=by
 refine cY gT bOw bOx rfl rfl rfl bL cD (aC gT mxd ⟨[],aKr i h,rfl,rfl,rfl,λg hg=>⟨λh1=>aC gT mxd ?_,λh1=>aC gT mxd ⟨λh2=>aC gT mxd ?_,λh2=>aC gT mxd ?_⟩⟩⟩)
 all_goals replace hg:Ci g v:=hg
 ·exact⟨(),trivial,cM (show(-1:Int)=_ by unfold sgn;rw[if_pos (hg.1.1 h1)]) rfl trivial⟩
 all_goals
  have h3:¬v<0:=λh=>h1 (hg.1.2 h)
  have h4:=kZ (n:=v.natAbs)
  rw[hg.2,gU] at h2
 ·exact⟨(),trivial,cM (show(0:Int)=_ by unfold sgn;rw[if_neg h3,if_pos oM]) rfl trivial⟩
 exact⟨(),trivial,cM (show(1:Int)=_ by unfold sgn;rw[if_neg h3,if_neg oM]) rfl trivial⟩
abbrev bBe:FuncId:=71
theorem bUw:Ent Tryz.prog bBe:=bI func71 rfl kR
theorem bUx:Tryz.prog.funcs[bBe]? =some Tryz.f71:=func71
theorem aKs (i j:IntM) {a b:Int} (hi:In i a 1099511627776) (hj:In j b 1099511627776):Ctr Tryz.prog bBe [] [.a i.C,.a j.C] [] (aEp (a+b)):=by
 have hli:=hi.ln
 have hlj:=hj.ln
 have hla:len (val i.m.l)<=1099511627776:=by rw[hi.abs];exact hi.len
 have hlb:len (val j.m.l)<=1099511627776:=by rw[hj.abs];exact hj.len
 refine cY gT bUw bUx rfl rfl rfl bL cD (aC gT mxd ⟨λh=>aC gT mxd ?_,λh=>aC gT mxd ?_⟩)
 ·refine⟨.seq [(0,false),(1,false),(2,false),(3,false),(4,false),(5,false),(6,false),(7,false),(8,true)],by kernel_rfl,[],bAx i.m j.m hi.lm hj.lm hli hlj,rfl,rfl,rfl,λg hg=>?_⟩
  replace hg:g.l=aJ (val i.m.l+val j.m.l):=hg
  obtain⟨lg,vg⟩:=dg hg
  have:=zO (val i.m.l) (val j.m.l)
  refine⟨[],pZ i.p g lg (dgl hg oM),rfl,rfl,rfl,λr hr=>⟨r,?_,cM rfl rfl trivial⟩⟩
  rw[<-hi.v,<-hj.v,sg_add h,<-vg];exact hr
 refine⟨[],bAy i.m j.m hi.lm hj.lm hli hlj,rfl,rfl,rfl,λg hg=>⟨λh1=>aC gT mxd ?_,λh1=>aC gT mxd ?_⟩⟩
 ·replace hg:g.l=aJ (val i.m.l-val j.m.l):=hg
  obtain⟨lg,vg⟩:=dg hg
  have:=aTi (val i.m.l) (val j.m.l)
  refine⟨[],pZ i.p g lg (dgl hg oM),rfl,rfl,rfl,λr hr=>⟨r,?_,cM rfl rfl trivial⟩⟩
  rw[<-hi.v,<-hj.v,bBd h h1,<-vg];exact hr
 refine⟨[],bAy j.m i.m hj.lm hi.lm hlj hli,rfl,rfl,rfl,λg hg=>?_⟩
 replace hg:g.l=aJ (val j.m.l-val i.m.l):=hg
 obtain⟨lg,vg⟩:=dg hg
 have:=aTi (val j.m.l) (val i.m.l)
 refine⟨[],pZ j.p g lg (dgl hg oM),rfl,rfl,rfl,λr hr=>⟨r,?_,cM rfl rfl trivial⟩⟩
 rw[<-hi.v,<-hj.v,Int.add_comm,bBd (λh'=>h h'.symm) oM,<-vg];exact hr
abbrev bBf:FuncId:=134
theorem bUy:Ent Tryz.prog bBf:=bI func134 rfl kR
theorem bUz:Tryz.prog.funcs[bBf]? =some Tryz.f134:=func134
theorem bOy (i j:IntM) {a b:Int} (hi:In i a 1099511627776) (hj:In j b 1099511627776):Ctr Tryz.prog bBf [] [.a i.C,.a j.C] [] (aEp (a-b)):=by
 refine cY gT bUy bUz rfl rfl rfl bL cD (aC gT mxd ⟨.seq [(0,false),(1,false),(2,false),(3,false),(4,true)],by kernel_rfl,[],aHd j hj.le,rfl,rfl,rfl,λg hg=>?_⟩)
 replace hg:Ci g (-b):=hg
 have hlb:=hj.len
 refine⟨[],aKs i g hi (hg.in (by rw[zD];exact hlb)),rfl,rfl,rfl,λr hr=>⟨r,?_,cM rfl rfl trivial⟩⟩
 rw[Int.sub_eq_add_neg];exact hr
abbrev bBg:FuncId:=72
theorem bVa:Ent Tryz.prog bBg:=bI func72 rfl kR
theorem bVb:Tryz.prog.funcs[bBg]? =some Tryz.f72:=func72
theorem aHe (i j:IntM) {a b:Int} (hi:In i a 1099511627776) (hj:In j b 1099511627776):Ctr Tryz.prog bBg [] [.a i.C,.a j.C] [] (aEp (a*b)):=by
 have hli:=hi.ln
 have hlj:=hj.ln
 have hla:len (val i.m.l)<=1099511627776:=by rw[hi.abs];exact hi.len
 have hlb:len (val j.m.l)<=1099511627776:=by rw[hj.abs];exact hj.len
 refine cY gT bVa bVb rfl rfl rfl bL cD (aC gT mxd ⟨.seq [(0,false),(1,false),(2,false),(3,false),(4,false),(5,false),(6,false),(7,false),(8,false),(9,false),(10,false),(11,true)],by kernel_rfl,[],bUn i.m j.m hi.lm hj.lm hli hlj,rfl,rfl,rfl,λg hg=>?_⟩)
 replace hg:g.l=aJ (val i.m.l*val j.m.l):=hg
 obtain⟨lg,vg⟩:=dg hg
 have:=zP (val i.m.l) (val j.m.l)
 refine⟨[],pZ (¬(i.p↔j.p)) g lg (dgl hg oM),rfl,rfl,rfl,λr hr=>⟨r,?_,cM rfl rfl trivial⟩⟩
 rw[<-hi.v,<-hj.v,sg_mul,<-vg];exact hr
abbrev bBh:FuncId:=99
theorem bVc:Ent Tryz.prog bBh:=bI func99 rfl kR
theorem bVd:Tryz.prog.funcs[bBh]? =some Tryz.f99:=func99
theorem bBi (i j:IntM) {a b:Int} (hi:In i a 549755813888) (hj:In j b 549755813888):Ctr Tryz.prog bBh [] [.a i.C,.a j.C] [] (aEp (Int.gcd a b)):=by
 refine cY gT bVc bVd rfl rfl rfl bL cD (aC gT mxd ⟨[],bUr i.m j.m hi.lm hj.lm hi.ln hj.ln,rfl,rfl,rfl,λg hg=>?_⟩)
 replace hg:g.l=aJ (Nat.gcd (val i.m.l) (val j.m.l)):=hg
 obtain⟨lg,vg⟩:=dg hg
 have hlg:len (Nat.gcd (val i.m.l) (val j.m.l))<=549755813888:=by
  rcases dB (val i.m.l) with h0|h0
  ·rw[h0,vH,hj.abs];exact hj.len
  exact bA (gO (vZ h0 (kG _ _))) (by rw[hi.abs];exact hi.len)
 refine⟨[],pZ (false=true) g lg (dgl hg oM),rfl,rfl,rfl,λr hr=>⟨r,?_,cM rfl rfl trivial⟩⟩
 have e:sg (false=true) (val g.l)=(Int.gcd a b:Int):=by rw[sg_f dC,vg,hi.abs,hj.abs];rfl
 rw[<-e];exact hr
theorem bOz {m n:Nat} (hn:n≠0):(m:Int)/(n:Int)=(m/n:Nat)/\(m:Int)%(n:Int)=(m%n:Nat):=⟨by rw[rP],by rw[Int.natCast_emod]⟩
theorem bBj {m n:Nat} (hn:n≠0):(-(m:Int))/(n:Int)=(if m%n=0 then-((m/n:Nat):Int) else-((m/n:Nat):Int)-1)/\(-(m:Int))%(n:Int)=if m%n=0 then 0 else (n:Int)-(m%n:Nat):=by
 have h1:=iI m n
 have h2:=dM m (Nat.pos_of_ne_zero hn)
 have h3:(n:Int)*((m/n:Nat):Int)+((m%n:Nat):Int)=m:=by rw[<-dH,<-sU,h1]
 refine(Int.ediv_emod_unique oM).2 ?_
 split
 ·next h=>rw[h] at h3;rw[vG];omega
 next h=>rw[Int.mul_sub,vG,zG];omega
theorem bIr {p q:Prop} {m n:Nat} (hn:n≠0) (h:¬(p/\0<m%n)):sg p m/sg q n=sg (¬(p↔q)) (m/n)/\sg p m%sg q n=sg p (m%n):=by
 obtain⟨a1,a2⟩:=bOz (m:=m) hn
 obtain⟨b1,b2⟩:=bBj (m:=m) hn
 by_cases hp:p<;>by_cases hq:q
 ·have hz:m%n=0:=by have:¬0<m%n:=λh0=>h ⟨hp,h0⟩
                    omega
  rw[if_pos hz] at b1 b2
  rw[sg_t hp,sg_t hq,sg_f (λh=>h ⟨λ_=>hq,λ_=>hp⟩),sg_t hp,Int.ediv_neg,Int.emod_neg,b1,b2,hz]
  omega
 ·have hz:m%n=0:=by have:¬0<m%n:=λh0=>h ⟨hp,h0⟩
                    omega
  rw[if_pos hz] at b1 b2
  rw[sg_t hp,sg_f hq,sg_t (λh=>hq (h.1 hp)),sg_t hp,b1,b2,hz]
  omega
 ·rw[sg_f hp,sg_t hq,sg_t (λh=>hp (h.2 hq)),sg_f hp,Int.ediv_neg,Int.emod_neg,a1,a2]
  exact⟨rfl,rfl⟩
 rw[sg_f hp,sg_f hq,sg_f (λh=>h ⟨λh=>absurd h hp,λh=>absurd h hq⟩),sg_f hp,a1,a2]
 exact⟨rfl,rfl⟩
theorem bIs {p q:Prop} {m n:Nat} (hn:n≠0) (hp:p) (h:0<m%n):sg p m/sg q n=sg (¬(p↔q)) (m/n)+sg (¬q) 1/\sg p m%sg q n=sg p (m%n)+n:=by
 obtain⟨b1,b2⟩:=bBj (m:=m) hn
 rw[if_neg oM] at b1 b2
 by_cases hq:q
 ·rw[sg_t hp,sg_t hq,sg_f (λh=>h ⟨λ_=>hq,λ_=>hp⟩),sg_t hp,sg_f (λh=>h hq),Int.ediv_neg,Int.emod_neg,b1,b2]
  omega
 rw[sg_t hp,sg_f hq,sg_t (λh=>hq (h.1 hp)),sg_t hp,sg_t hq,b1,b2]
 omega
theorem bPa {p:Prop} (h:p):(p/\p)/\p:=⟨⟨h,h⟩,h⟩
def oDM:Ord:=.tree [] (tr2 0 (tr2 1 (trS [2,3,4]) 2 (trS [1,3,4])) 1 (trS [0,2,3,4]))
abbrev bPb:FuncId:=100
theorem cBp:Ent Tryz.prog bPb:=bI func100 rfl kR
theorem cBq:Tryz.prog.funcs[bPb]? =some Tryz.f100:=func100
theorem zW (i j:IntM) {a b:Int} (hi:In i a 549755813888) (hj:In j b 549755813888) (hb:b≠0):Ctr Tryz.prog bPb [] [.a i.C,.a j.C] [] (λg:IntM×IntM=>⟨.t [.a g.1.C,.a g.2.C,pC True],[],Ci g.1 (a/b)/\Ci g.2 (a%b)⟩):=by
 have hla:len (val i.m.l)<=549755813888:=by rw[hi.abs];exact hi.len
 have hlb:len (val j.m.l)<=549755813888:=by rw[hj.abs];exact hj.len
 have hb0:val j.m.l≠0:=by rw[hj.abs];omega
 refine cY gT cBp cBq rfl rfl rfl bL cD (aC gT mxd ⟨[],aNr i.m j.m hi.lm hj.lm hi.ln hj.ln,rfl,rfl,rfl,λ⟨Q,R⟩ ⟨hQ,hR⟩=>⟨λh=>absurd hb0 h,λh=>aC gT mxd ?_⟩⟩)
 replace hQ:Q.l=aJ (val i.m.l/val j.m.l):=hQ
 replace hR:R.l=aJ (vS (val i.m.l) (val j.m.l)):=hR
 rw[vS,if_neg hb0] at hR
 obtain⟨lQ,vQ⟩:=dg hQ
 obtain⟨lR,vR⟩:=dg hR
 have hlq:=gO (iT (val i.m.l) (val j.m.l))
 have hlr:=gO (aBd (val i.m.l) (val j.m.l))
 have hlr2:=gO (gQ (dM (val i.m.l) (Nat.pos_of_ne_zero hb0)))
 refine⟨.seq [(0,false),(1,false),(2,false),(3,false),(4,false),(5,false),(7,false),(8,false),(9,false),(6,false),(10,false),(11,true),(12,true)],by kernel_rfl,[],pZ (¬(i.p↔j.p)) Q lQ (dgl hQ oM),rfl,rfl,rfl,λq hq=>⟨[],pZ i.p R lR (dgl hR oM),rfl,rfl,rfl,λr hr=>⟨λh1=>aC gT mxd ?_,λh1=>aC gT mxd ?_⟩⟩⟩
 all_goals
  replace hq:Ci q (sg (¬(i.p↔j.p)) (val Q.l)):=hq
  replace hr:Ci r (sg i.p (val R.l)):=hr
  rw[vQ] at hq
  rw[vR] at hr
 ·have hn:=hr.1.1 h1
  rw[aKq] at hn
  obtain⟨e1,e2⟩:=bIs (q:=j.p) hb0 hn.1 hn.2
  rw[hi.v,hj.v] at e1 e2
  have hab:(b.natAbs:Int)=(val j.m.l:Nat):=by rw[hj.abs]
  refine⟨.seq [(0,false),(1,false),(2,false),(3,false),(4,true)],by kernel_rfl,[],bOt j hj.le,rfl,rfl,rfl,λab hab2=>⟨[],aKs r ab (hr.in (by rw[sg_abs];omega)) (Ci.in hab2 (by rw[eD,<-hj.abs];omega)),rfl,rfl,rfl,λr2 hr2=>?_⟩⟩
  replace hr2:Ci r2 (sg i.p (val i.m.l%val j.m.l)+b.natAbs):=hr2
  rw[hab,<-e2] at hr2
  have hq1:In q _ 1099511627776:=hq.in (by rw[sg_abs];omega)
  have l1:len (1:Int).natAbs<=1099511627776:=by decide
  refine⟨λh2=>aC gT mxd ?_,λh2=>aC gT mxd ?_⟩
  ·refine⟨.seq [(0,false),(1,false),(2,false),(3,true)],by kernel_rfl,[],zV (z:=1) dC,rfl,rfl,rfl,λone h1=>⟨[],aKs q one hq1 (Ci.in h1 l1),rfl,rfl,rfl,λq2 hq2=>⟨oDM,by kernel_rfl,bPa ⟨(q2,r2),⟨?_,hr2⟩,cM ⟨rfl,rfl,tt trivial⟩ rfl trivial⟩⟩⟩⟩
   rw[sg_f (p:=¬j.p) (n:=1) (λh=>h h2)] at e1
   show Ci q2 _
   rw[e1];exact hq2
  refine⟨.seq [(0,false),(1,false),(2,false),(3,true)],by kernel_rfl,[],zV (z:=1) dC,rfl,rfl,rfl,λone h1=>⟨[],bOy q one hq1 (Ci.in h1 l1),rfl,rfl,rfl,λq2 hq2=>⟨oDM,by kernel_rfl,bPa ⟨(q2,r2),⟨?_,hr2⟩,cM ⟨rfl,rfl,tt trivial⟩ rfl trivial⟩⟩⟩⟩
  rw[sg_t (p:=¬j.p) (n:=1) h2] at e1
  show Ci q2 _
  rw[e1];exact hq2
 have hn:¬(i.p/\0<val i.m.l%val j.m.l):=λh=>h1 (hr.1.2 (aKq.2 h))
 obtain⟨e1,e2⟩:=bIr (q:=j.p) hb0 hn
 rw[hi.v,hj.v] at e1 e2
 refine⟨oDM,by kernel_rfl,bPa ⟨(q,r),⟨?_,?_⟩,cM ⟨rfl,rfl,tt trivial⟩ rfl trivial⟩⟩
 ·show Ci q _
  rw[e1];exact hq
 show Ci r _
 rw[e2];exact hr
end Go.Proofs.YtlhdigjbokkbiaaGreat
namespace Go.Proofs.YtlhdigjbokkbiaaGreat
open Go.Vg _root_.Go.Proofs.Tryz
open Go.Vm hiding sg sg_t sg_f sg_abs sg_add sg_mul dQ cK dR gF
open Go.Vy hiding val
structure RatM where
 n:IntM
 d:Sl Nat
def RatM.C (r:RatM):List CV:=[.b r.n.p r.n.d,oV r.n.m,oV r.d]
structure Rq (r:RatM) (q:Rat) (B:Nat):Prop where
 n:In r.n (sg r.n.p (val r.n.m.l)) B
 ld:Lm r.d.l
 bd:r.d.l.length<=B
 v:Rat.divInt (sg r.n.p (val r.n.m.l)) (val r.d.l)=q
def Cr (r:RatM) (q:Rat):Prop:=Ci r.n q.num/\r.d.l=aJ q.den
abbrev uI (q:Rat):RatM->Out:=λg=>⟨.a g.C,[],Cr g q⟩
def rb (q:Rat) (B:Nat):Prop:=len q.num.natAbs<=B/\len q.den<=B
theorem Rq.rb {r:RatM} {q:Rat} {B:Nat} (h:Rq r q B) (hB:1<=B:=by decide):rb q B:=by
 have h1:=wY (a:=sg r.n.p (val r.n.m.l)) (b:=(val r.d.l:Nat))
 have h2:=wZ (a:=sg r.n.p (val r.n.m.l)) (b:=(val r.d.l:Nat))
 rw[h.v] at h1 h2
 rw[eD] at h2
 have h3:=h.n.len
 have h4:=bA (lS h.ld) h.bd
 refine⟨bA h1 h3,bA h2 ?_⟩
 simp only[gU]
 omega
theorem Cr.rq {r:RatM} {q:Rat} {B:Nat} (h:Cr r q) (hb:Go.Proofs.YtlhdigjbokkbiaaGreat.rb q B):Rq r q B:=by
 obtain⟨ld,vd⟩:=dg h.2
 have h1:=h.1.in hb.1
 refine⟨⟨h1.lm,h1.ln,rfl⟩,ld,by rw[h.2];exact hb.2,?_⟩
 rw[h1.v,vd,mC]
theorem Rq.le {r:RatM} {q:Rat} {B B':Nat} (h:Rq r q B) (hb:B<=B':=by omega):Rq r q B':=⟨h.n.le hb,h.ld,bA h.bd hb,h.v⟩
theorem rb.le {q:Rat} {B B':Nat} (h:rb q B) (hb:B<=B':=by omega):rb q B':=⟨bA h.1 hb,bA h.2 hb⟩
abbrev aTk:FuncId:=46
theorem bVe:Ent Tryz.prog aTk:=bI func46 rfl kR
theorem bVf:Tryz.prog.funcs[aTk]? =some Tryz.f46:=func46
theorem aAv:Ctr Tryz.prog aTk [] [] [] (uI 0):=by
 have h0:Ctr Tryz.prog aTk [] [] [] (λ_:Unit=>⟨.a [.b (false=true) inferInstance,.s 1 0,.s 2 1],[(51,0,[.b (false=true) inferInstance,.s 1 0,.s 2 1]),(131,1,[]),(131,1,[uC 1])],True⟩):=by
  refine cY gT bVe bVf rfl rfl rfl bL cD (aC gT mxd ?_)
  exact⟨(),trivial,jO rfl ⟨rfl,rfl,rfl⟩ (aF _) (aD rfl (aD rfl (aD rfl bM))) rfl aAu⟩
 refine(CtrF.gt h0 λ_ _ _=>?_)
 refine bLg tGt 0 1 1 (λj=>[uC (([]:List Nat).getD j default)]) rfl rfl rfl rfl (λj hj=>absurd hj (aV _)) rfl gR (λc hc=>by cases hc) (aF _) λA c _ _=>⟨aKm [1],?_⟩
 refine bLg tGt 0 2 2 (λj=>[uC ([1].getD j default)]) rfl rfl rfl rfl (λj hj=>tI (x:=[1]) j hj) rfl gR (pY [1]) (aF _) λA2 c2 _ _=>⟨λc hc=>(by cases hc),?_⟩
 exact dG (M:=λ_=>true) (base:=[]) (chg:=λg:RatM=>[(0,.a g.C)]) (bls:=λ_=>[]) (fls:=λ_=>[]) (λt d ht=>by cases ht) ⟨⟨false=true,inferInstance,⟨A,c,[]⟩⟩,⟨A2,c2,[1]⟩⟩ ⟨⟨⟨⟨λh=>(by cases h),λh=>absurd (show(0:Int)<0 from h) dC⟩,rfl⟩,rfl⟩,aAu⟩ rfl trivial trivial rfl (aI _) (λi T es l hi=>by cases hi) rfl
theorem jF {z:Int}:sgn z=0↔z=0:=by unfold sgn;constructor<;>intro h<;>(repeat split at*)<;>omega
theorem bBk {n:Nat} (h:aJ n=[1]):n=1:=by have:=congrArg Vm.val h;rw[cX] at this;exact this
theorem aTl {a b:Int} {B:Nat} (ha:len a.natAbs<=B) (hb:len b.natAbs<=B):len (Int.gcd a b:Int).natAbs<=B:=by
 rw[eD]
 rcases dB a.natAbs with h0|h0
 ·rw[Int.gcd,h0,vH];exact hb
 exact bA (gO (vZ h0 (kG _ _))) ha
theorem aEz {a b:Int} {B:Nat} (ha:len a.natAbs<=B):len (a/b).natAbs<=B:=bA (gO (uL a b)) ha
abbrev aPx:FuncId:=58
theorem bPc:Ent Tryz.prog aPx:=bI func58 rfl kR
theorem bPd:Tryz.prog.funcs[aPx]? =some Tryz.f58:=func58
theorem aCf (i j:IntM) {a b:Int} (hi:In i a 549755813888) (hj:In j b 549755813888):Ctr Tryz.prog aPx [] [.a i.C,.a j.C] [] (uI (Rat.divInt a b)):=by
 have hla:=hi.len
 have hlb:=hj.len
 refine cY gT bPc bPd rfl rfl rfl bL cD (aC gT mxd ⟨[],aTj j hj.le,rfl,rfl,rfl,λ_ _=>⟨λh=>aC gT mxd ?_,λh=>aC gT mxd ?_⟩⟩)
 ·have hb:=jF.1 h
  refine⟨[],aAv,rfl,rfl,rfl,λg hg=>⟨g,?_,cM rfl rfl trivial⟩⟩
  rw[hb,Rat.divInt_zero];exact hg
 have hb:b≠0:=λe=>h (jF.2 e)
 have hml:=aMh (zx:=a) hb
 have hg0:((Int.gcd a b:Nat):Int)≠0:=by have:=sS a hb;omega
 refine⟨[],aKr j hj.le,rfl,rfl,rfl,λg hg=>?_⟩
 replace hg:Ci g b:=hg
 refine⟨λhn=>?_,λhn=>?_⟩
 ·refine⟨some (λj=>[uC ([1].getD j default)]),⟨⟨aF _,gR⟩,rfl,λj hj=>tI (x:=[1]) j hj,pY [1]⟩,λA c _ _=>⟨[],aKn g.m ⟨A,c,[1]⟩,rfl,rfl,rfl,λ_ _=>⟨λh1=>aC gT mxd ?_,λh1=>aC gT mxd ?_⟩⟩⟩
  ·have hb1:b=1:=by
    have e1:g.m.l=[1]:=h1
    have e2:aJ b.natAbs=[1]:=hg.2▸e1
    have e3:=bBk e2
    have e4:¬b<0:=λh=>hn (hg.1.2 h)
    omega
   refine⟨.seq [(0,false),(2,false),(3,false),(1,false),(4,false),(5,true)],by kernel_rfl,[],aKr i hi.le,rfl,rfl,rfl,λx hx=>⟨⟨x,g.m⟩,?_,cM rfl rfl trivial⟩⟩
   rw[hb1]
   refine⟨?_,?_⟩
   ·show Ci x _
    rw[(xA a).1];exact hx
   show g.m.l=_
   rw[(xA a).2];exact h1
  refine⟨[],bBi i j hi hj,rfl,rfl,rfl,λx hx=>?_⟩
  have hx1:=Ci.in (B:=549755813888) hx (aTl hla hlb)
  refine⟨[],zW i x hi hx1 hg0,rfl,rfl,rfl,λ⟨q1,r1⟩ ⟨hq1,_⟩=>⟨[],zW j x hj hx1 hg0,rfl,rfl,rfl,λ⟨q2,r2⟩ ⟨hq2,_⟩=>⟨λh2=>aC gT mxd ?_,λh2=>aC gT mxd ?_⟩⟩⟩
  ·obtain⟨m1,m2⟩:=hml.1 (hq2.1.1 h2)
   refine⟨.seq [(0,false),(2,false),(1,false),(3,false),(4,true),(5,true)],by kernel_rfl,[],aHd q1 (v:=a/(Int.gcd a b:Int)) (Ci.in hq1 (bA (aEz hla) dC)),rfl,rfl,rfl,λn1 hn1=>⟨[],aHd q2 (v:=b/(Int.gcd a b:Int)) (Ci.in hq2 (bA (aEz hlb) dC)),rfl,rfl,rfl,λd1 hd1=>⟨⟨n1,d1.m⟩,⟨?_,?_⟩,cM rfl rfl trivial⟩⟩⟩
   ·show Ci n1 _
    rw[m1];exact hn1
   show d1.m.l=_
   rw[m2];exact hd1.2
  obtain⟨m1,m2⟩:=hml.2 λh=>h2 (hq2.1.2 h)
  refine⟨⟨q1,q2.m⟩,⟨?_,?_⟩,cM rfl rfl trivial⟩
  ·show Ci q1 _
   rw[m1];exact hq1
  show q2.m.l=_
  rw[m2];exact hq2.2
 refine⟨[],bBi i j hi hj,rfl,rfl,rfl,λx hx=>?_⟩
 have hx1:=Ci.in (B:=549755813888) hx (aTl hla hlb)
 refine⟨[],zW i x hi hx1 hg0,rfl,rfl,rfl,λ⟨q1,r1⟩ ⟨hq1,_⟩=>⟨[],zW j x hj hx1 hg0,rfl,rfl,rfl,λ⟨q2,r2⟩ ⟨hq2,_⟩=>⟨λh2=>aC gT mxd ?_,λh2=>aC gT mxd ?_⟩⟩⟩
 ·obtain⟨m1,m2⟩:=hml.1 (hq2.1.1 h2)
  refine⟨.seq [(0,false),(2,false),(1,false),(3,false),(4,true),(5,true)],by kernel_rfl,[],aHd q1 (v:=a/(Int.gcd a b:Int)) (Ci.in hq1 (bA (aEz hla) dC)),rfl,rfl,rfl,λn1 hn1=>⟨[],aHd q2 (v:=b/(Int.gcd a b:Int)) (Ci.in hq2 (bA (aEz hlb) dC)),rfl,rfl,rfl,λd1 hd1=>⟨⟨n1,d1.m⟩,⟨?_,?_⟩,cM rfl rfl trivial⟩⟩⟩
  ·show Ci n1 _
   rw[m1];exact hn1
  show d1.m.l=_
  rw[m2];exact hd1.2
 obtain⟨m1,m2⟩:=hml.2 λh=>h2 (hq2.1.2 h)
 refine⟨⟨q1,q2.m⟩,⟨?_,?_⟩,cM rfl rfl trivial⟩
 ·show Ci q1 _
  rw[m1];exact hq1
 show q2.m.l=_
 rw[m2];exact hq2.2
def sq (n:Nat) (l:List Nat):List (Nat×Bool):=l.map λi=>(i,i==n)
theorem In.den {X:Sl Nat} {B:Nat} (hl:Lm X.l) (hb:X.l.length<=B):In ⟨false=true,inferInstance,X⟩ (val X.l) B:=⟨hl,hb,sg_f (p:=false=true) (λh=>by cases h)⟩
theorem Ci.den {X:Sl Nat} {n:Nat} (h:X.l=aJ n):Ci ⟨false=true,inferInstance,X⟩ (n:Int):=⟨⟨λh=>(by cases h),λh=>by omega⟩,by rw[eD];exact h⟩
abbrev aPy:FuncId:=70
theorem bPe:Ent Tryz.prog aPy:=bI func70 rfl kR
theorem bPf:Tryz.prog.funcs[aPy]? =some Tryz.f70:=func70
theorem kN (r:RatM) {q:Rat} (h:Rq r q 549755813888):Ctr Tryz.prog aPy [] [.a r.C] [] (uI q):=by
 refine cY gT bPe bPf rfl rfl rfl bL cD (aC gT mxd ⟨[],aCf r.n ⟨false=true,inferInstance,r.d⟩ h.n (In.den h.ld h.bd),rfl,rfl,rfl,λg hg=>⟨g,?_,cM rfl rfl trivial⟩⟩)
 rw[<-h.v];exact hg
abbrev bBl:FuncId:=73
theorem bVg:Ent Tryz.prog bBl:=bI func73 rfl kR
theorem bVh:Tryz.prog.funcs[bBl]? =some Tryz.f73:=func73
theorem aDk (r:RatM) {q:Rat} (h:Rq r q 549755813888):Ctr Tryz.prog bBl [] [.a r.C] [] (aEp (q.den:Int)):=by
 refine cY gT bVg bVh rfl rfl rfl bL cD (aC gT mxd ⟨[],kN r h,rfl,rfl,rfl,λg hg=>⟨⟨false=true,inferInstance,g.d⟩,Ci.den hg.2,cM rfl rfl trivial⟩⟩)
abbrev aPz:FuncId:=28
theorem bPg:Ent Tryz.prog aPz:=bI func28 rfl kR
theorem bPh:Tryz.prog.funcs[aPz]? =some Tryz.f28:=func28
theorem qV {z:Int} (hz:-9223372036854775808<=z/\z<=9223372036854775807):Ctr Tryz.prog aPz [] [.c (iC z)] [] (uI (z:Rat)):=by
 have hl:=rW (n:=z.natAbs)
 refine cY gT bPg bPh rfl rfl rfl bL cD (aC gT mxd ⟨[],zV hz,rfl,rfl,rfl,λg hg=>⟨[],zV (z:=1) dC,rfl,rfl,rfl,λo ho=>⟨[],aCf g o (Ci.in hg oM) (Ci.in ho dC),rfl,rfl,rfl,λr hr=>⟨r,?_,cM rfl rfl trivial⟩⟩⟩⟩)
 rw[<-bGt];exact hr
abbrev aQa:FuncId:=92
theorem bPi:Ent Tryz.prog aQa:=bI func92 rfl kR
theorem bPj:Tryz.prog.funcs[aQa]? =some Tryz.f92:=func92
theorem aTm (r:RatM) {q:Rat} (h:Rq r q 549755813888):Ctr Tryz.prog aQa [] [.a r.C] [] (λ_:Unit=>⟨.c (iC (sgn q.num)),[],True⟩):=by
 refine cY gT bPi bPj rfl rfl rfl bL cD (aC gT mxd ⟨[],kN r h,rfl,rfl,rfl,λg hg=>⟨[],aTj g.n (Ci.in hg.1 (h.rb.le).1),rfl,rfl,rfl,λ_ _=>⟨(),trivial,cM rfl rfl trivial⟩⟩⟩)
theorem aKt {q:Rat} {B:Nat} (h:rb q B):rb (-q) B:=by
 unfold rb at h ⊢
 rw[show(-q).num=-q.num from rfl,show(-q).den=q.den from rfl,zD];exact h
theorem aCg {a b:Int} {B:Nat} (ha:len a.natAbs<=B) (hb:len b.natAbs<=B):len (a*b).natAbs<=B+B:=by
 rw[pA]
 have:=zP a.natAbs b.natAbs
 omega
theorem bIt {a b:Int} {B:Nat} (ha:len a.natAbs<=B) (hb:len b.natAbs<=B):len (a+b).natAbs<=B+1:=by
 have h1:=gO (Int.natAbs_add_le a b)
 have h2:=zO a.natAbs b.natAbs
 omega
def oA:Ord:=.joinR [0,2] (.alt 1 (.alt 3 (.alt 4 (trS [5,1006,1007]) (trS [5,4,1006,1007])) (.alt 4 (.alt 3 (trS [5,1006,1007]) (trS [5,3,1006,1007])) (.alt 5 (.alt 3 (trS [4,1006,1007]) (trS [4,3,1006,1007])) .nil))) (.alt 4 (.alt 1 (.alt 3 (trS [5,1006,1007]) (trS [5,3,1006,1007])) (trS [5,1,3,1006,1007])) (.alt 5 (.alt 1 (.alt 3 (trS [4,1006,1007]) (trS [4,3,1006,1007])) (trS [4,1,3,1006,1007])) .nil)))
def aDl (r s:RatM) (g:RatM×RatM):List (Nat×DV):=[(5,.c (.p 3 0)),(6,.c (.p 4 0)),(2,.c (.p 0 0)),(3,.c (.p 1 0)),(4,.c (.p 2 0))]
def yP:List CV:=[.b (false=true) inferInstance,.v (.slice none 0 0),.v (.slice none 0 0)]
def aAw (r s:RatM) (g:RatM×RatM):BL:=[(51,0,r.C),(51,0,s.C),(51,0,yP),(51,0,g.1.C),(51,0,g.2.C)]
theorem gsw {nb:Nat} {s:SS} {σ:Type} {S:σ->SS} {C:σ->Prop} (i j:Nat) {bi bj:TypeId×Nat×List CV} (hbi:s.bl[i]? =some bi) (hbj:s.bl[j]? =some bj) (hni:nb<=i) (hnj:nb<=j) (hgl:s.gl=[])
 (h:aWf (swC i j) s.sl λsl'=>qE s.bl i bj λbl1=>qE bl1 j bi λbl2=>aIb (swC i j) 1000000 0 bl2 λbl'=>bl'.length<=1000000/\Gt nb ⟨sl',[],bl',s.fl⟩ S C):Gt nb s S C:=aGz (X:=λt=>Gt nb t S C) tGt i j hbi hbj hni hnj hgl h
theorem g0:∀t d,iM [] t=some d->(λ_:Nat=>true) t=false:=λt d h=>by cases h
theorem scA {r s:RatM} {g:RatM×RatM}:scB (aAw r s g).length (aAw r s g):=aD rfl (aD rfl (aD rfl (aD rfl (aD rfl bM))))
abbrev bBm:FuncId:=36
theorem bVi:Ent Tryz.prog bBm:=bI func36 rfl kR
theorem bVj:Tryz.prog.funcs[bBm]? =some Tryz.f36:=func36
theorem aKu (r s:RatM) {a b:Rat} (hr:Rq r a 137438953472) (hs:Rq s b 137438953472):Ctr Tryz.prog bBm [] [.a r.C,.a s.C] [] (uI (a+b)):=by
 have ha:=hr.rb
 have hb:=hs.rb
 have m1:=aCg ha.1 (b:=(b.den:Int)) hb.2
 have m2:=aCg hb.1 (b:=(a.den:Int)) ha.2
 have m3:=aCg (a:=(a.den:Int)) (b:=(b.den:Int)) ha.2 hb.2
 have m4:=bIt m1 m2
 refine cY gT bVi bVj rfl rfl rfl bL cD (aC gT mxd ⟨oA,by kernel_rfl,RatM×RatM,λg=>⟨aDl r s g++[],[],aAw r s g,[]⟩,λg=>Cr g.1 a/\Cr g.2 b,⟨⟨[],kN r hr.le,rfl,rfl,rfl,λx hx=>⟨⟨[],kN s hs.le,rfl,rfl,rfl,λy hy=>⟨dG g0 (chg:=aDl r s) (bls:=aAw r s) (fls:=λ_=>[]) (x,y) ⟨hx,hy⟩ rfl ⟨rfl,rfl,rfl,rfl,rfl⟩ trivial ⟨rfl,rfl,rfl,rfl,rfl⟩ bL scA rfl,gsw 3 4 rfl rfl bL bL rfl ⟨bL,dG g0 (chg:=aDl r s) (bls:=aAw r s) (fls:=λ_=>[]) (x,y) ⟨hx,hy⟩ rfl ⟨rfl,rfl,rfl,rfl,rfl⟩ trivial ⟨rfl,rfl,rfl,rfl,rfl⟩ bL scA rfl⟩⟩⟩,⟨⟨[],kN s hs.le,rfl,rfl,rfl,λy hy=>dG g0 (chg:=aDl r s) (bls:=aAw r s) (fls:=λ_=>[]) (x,y) ⟨hx,hy⟩ rfl ⟨rfl,rfl,rfl,rfl,rfl⟩ trivial ⟨rfl,rfl,rfl,rfl,rfl⟩ bL scA rfl⟩,⟨[],kN s hs.le,rfl,rfl,rfl,λy hy=>dG g0 (chg:=aDl r s) (bls:=aAw r s) (fls:=λ_=>[]) (x,y) ⟨hx,hy⟩ rfl ⟨rfl,rfl,rfl,rfl,rfl⟩ trivial ⟨rfl,rfl,rfl,rfl,rfl⟩ bL scA rfl⟩⟩,⟨⟨[],kN s hs.le,rfl,rfl,rfl,λy hy=>gsw 3 4 rfl rfl bL bL rfl ⟨bL,dG g0 (chg:=aDl r s) (bls:=aAw r s) (fls:=λ_=>[]) (x,y) ⟨hx,hy⟩ rfl ⟨rfl,rfl,rfl,rfl,rfl⟩ trivial ⟨rfl,rfl,rfl,rfl,rfl⟩ bL scA rfl⟩⟩,⟨[],kN s hs.le,rfl,rfl,rfl,λy hy=>gsw 3 4 rfl rfl bL bL rfl ⟨bL,dG g0 (chg:=aDl r s) (bls:=aAw r s) (fls:=λ_=>[]) (x,y) ⟨hx,hy⟩ rfl ⟨rfl,rfl,rfl,rfl,rfl⟩ trivial ⟨rfl,rfl,rfl,rfl,rfl⟩ bL scA rfl⟩⟩⟩⟩⟩,⟨⟨[],kN r hr.le,rfl,rfl,rfl,λx hx=>⟨⟨[],kN s hs.le,rfl,rfl,rfl,λy hy=>dG g0 (chg:=aDl r s) (bls:=aAw r s) (fls:=λ_=>[]) (x,y) ⟨hx,hy⟩ rfl ⟨rfl,rfl,rfl,rfl,rfl⟩ trivial ⟨rfl,rfl,rfl,rfl,rfl⟩ bL scA rfl⟩,⟨[],kN s hs.le,rfl,rfl,rfl,λy hy=>dG g0 (chg:=aDl r s) (bls:=aAw r s) (fls:=λ_=>[]) (x,y) ⟨hx,hy⟩ rfl ⟨rfl,rfl,rfl,rfl,rfl⟩ trivial ⟨rfl,rfl,rfl,rfl,rfl⟩ bL scA rfl⟩⟩⟩,⟨[],kN r hr.le,rfl,rfl,rfl,λx hx=>⟨[],kN s hs.le,rfl,rfl,rfl,λy hy=>dG g0 (chg:=aDl r s) (bls:=aAw r s) (fls:=λ_=>[]) (x,y) ⟨hx,hy⟩ rfl ⟨rfl,rfl,rfl,rfl,rfl⟩ trivial ⟨rfl,rfl,rfl,rfl,rfl⟩ bL scA rfl⟩⟩⟩,⟨⟨[],kN r hr.le,rfl,rfl,rfl,λx hx=>⟨⟨[],kN s hs.le,rfl,rfl,rfl,λy hy=>gsw 3 4 rfl rfl bL bL rfl ⟨bL,dG g0 (chg:=aDl r s) (bls:=aAw r s) (fls:=λ_=>[]) (x,y) ⟨hx,hy⟩ rfl ⟨rfl,rfl,rfl,rfl,rfl⟩ trivial ⟨rfl,rfl,rfl,rfl,rfl⟩ bL scA rfl⟩⟩,⟨[],kN s hs.le,rfl,rfl,rfl,λy hy=>gsw 3 4 rfl rfl bL bL rfl ⟨bL,dG g0 (chg:=aDl r s) (bls:=aAw r s) (fls:=λ_=>[]) (x,y) ⟨hx,hy⟩ rfl ⟨rfl,rfl,rfl,rfl,rfl⟩ trivial ⟨rfl,rfl,rfl,rfl,rfl⟩ bL scA rfl⟩⟩⟩⟩,⟨[],kN r hr.le,rfl,rfl,rfl,λx hx=>⟨[],kN s hs.le,rfl,rfl,rfl,λy hy=>gsw 3 4 rfl rfl bL bL rfl ⟨bL,dG g0 (chg:=aDl r s) (bls:=aAw r s) (fls:=λ_=>[]) (x,y) ⟨hx,hy⟩ rfl ⟨rfl,rfl,rfl,rfl,rfl⟩ trivial ⟨rfl,rfl,rfl,rfl,rfl⟩ bL scA rfl⟩⟩⟩⟩⟩,λ⟨x,y⟩ ⟨hx,hy⟩=>?_⟩)
 refine⟨.seq [(0,false),(1,false),(2,false),(5,false),(6,false),(7,false),(11,false),(13,false),(3,false),(4,false),(8,false),(9,false),(10,false),(12,false),(14,false),(15,false),(16,false),(17,true)],by kernel_rfl,[],aDk s hs.le,rfl,rfl,rfl,λd1 h1=>⟨[],aHe x.n d1 (a:=a.num) (Ci.in hx.1 (ha.le).1) (Ci.in h1 (hb.le).2),rfl,rfl,rfl,λp1 h2=>⟨[],aDk r hr.le,rfl,rfl,rfl,λd2 h3=>⟨[],aHe y.n d2 (a:=b.num) (Ci.in hy.1 (hb.le).1) (Ci.in h3 (ha.le).2),rfl,rfl,rfl,λp2 h4=>?_⟩⟩⟩⟩
 refine⟨[],aKs p1 p2 (Ci.in h2 oM) (Ci.in h4 oM),rfl,rfl,rfl,λs1 h5=>⟨[],aDk r hr.le,rfl,rfl,rfl,λd3 h6=>⟨[],aDk s hs.le,rfl,rfl,rfl,λd4 h7=>⟨[],aHe d3 d4 (Ci.in h6 (ha.le).2) (Ci.in h7 (hb.le).2),rfl,rfl,rfl,λp3 h8=>⟨[],aCf s1 p3 (Ci.in h5 oM) (Ci.in h8 oM),rfl,rfl,rfl,λg hg=>⟨g,?_,cM rfl rfl trivial⟩⟩⟩⟩⟩⟩
 rw[<-aMi];exact hg
theorem bVk {Z:Nat->Prop} {w:World} {A:Option Addr} {n c esz:Nat} {get:Nat->List CV} {v:Value} (h:Rc Z w (.r A n c esz get) v) (hv:v= .slice A n c) (hnc:n<=c) (vals:Nat->List Value) (hg:∀j,j<n->get j=(vals j).map CV.v) (hl:∀j,j<n->(vals j).length=esz):Sc (λ_ _=>True) w esz v n ((List.range n).map vals).flatten:=by
 have fl:∀m,m<=n->(((List.range m).map vals).flatten).length=m*esz:=λm=>by
  induction m with
  |zero=>intro _;simp
  |succ m ih=>intro hm;rw[kD,dI,lC,aP,ih oM,eN];simp[hl m oM]
 cases h with
 |nil A c esz get hm=>exact⟨A,c,hv,aF _,hm,by simp,.inl rfl⟩
 |r b o n c esz get V hc hm hZ hcell hlen hel=>
  have hV:∀j,j<n->V j=vals j:=λj hj=>by
   refine List.ext_getElem? λi=>?_
   have h1:(V j).length=(vals j).length:=by rw[hlen j hj,hg j hj,bV]
   by_cases hi:i<(vals j).length
   ·have h2:(V j)[i]? =some (V j)[i]:=aK oM
    have h3:(get j)[i]? =some (CV.v (vals j)[i]):=by rw[hg j hj,fQ,aK hi];rfl
    have h4:=hel j hj i _ _ h3 h2
    rw[h2,aK hi]
    generalize (vals j)[i]=y at h4 ⊢
    cases h4
    rfl
   rw[rJ oM,rJ oM]
  refine⟨some ⟨b,o,none⟩,c,hv,hc,hm,fl n (aI _),.inr ⟨b,o,rfl,uW λi u hi=>?_⟩⟩
  obtain⟨_,f2⟩:=aJs (Z:=λ_=>True) (get:=get) (o:=o) (V:=vals) n (λj hj i u hu=>hcell j hj i u (by rw[hV j hj];exact hu)) (λj hj=>hl j hj)
  exact(f2 i u hi).1
theorem bVl {Z:Nat->Prop} {w:World} {A:Option Addr} {n c esz:Nat} {get:Nat->List CV} {v:Value} (h:Rc Z w (.r A n c esz get) v):n<=c:=by
 cases h with
 |nil=>exact aF _
 |r b o n c esz get V hc=>exact hc
theorem aQb {ρ:Pl} {n:Nat} {w:World} {x:Sl Nat} {v:Value} (h:Hc ρ n w (oV x) v):Sg (gN .u32) (λ_ _=>True) w v x.l:=by
 obtain⟨e1,hr⟩:=h.inv_r
 have hsc:=bVk (e1▸hr) e1 (bVl hr) (λj=>[gN .u32 (x.l.getD j default)]) (λj hj=>rfl) (λj hj=>rfl)
 have hfl:((List.range x.l.length).map (λj=>[gN .u32 (x.l.getD j default)])).flatten=x.l.map (gN .u32):=by
  rw[<-List.flatMap_def,<-List.map_eq_flatMap]
  refine nK (by simp) λi h1 h2=>?_
  simp at h1
  simp[h1]
 rw[hfl] at hsc
 exact hsc
theorem aQc {Z:Nat->Prop} {D:Nat->TypeId->Prop} {w:World} {v:Value} {xs:List Nat} (h:Sg (gN .u32) D w v xs) (hz:∀b T,D b T->b<w.heap.size->Z b):∃A c,Rc Z w (oV ⟨A,c,xs⟩) v:=by
 obtain⟨A,c,rfl,h1,h2,h3,h4⟩:=h
 refine⟨A,c,?_⟩
 by_cases hx:xs=[]
 ·subst hx
  exact Rc.nil A c 1 _ h2
 rcases h4 with h4|⟨b,o,rfl,hr⟩
 ·exact absurd (lD.1 h4) hx
 have hlt:Z b:=by
  rcases hr with h|⟨cs,T,fz,hh,hd,_⟩
  ·exact absurd (lD.1 h) hx
  exact hz b T hd (fW hh)
 refine Rc.r b o xs.length c 1 _ (λj=>[gN .u32 (xs.getD j default)]) h1 h2 hlt (λj hj i u hu=>?_) (λj hj=>rfl) (λj hj i c' u hc hu=>?_)
 ·match i,hu with
  |0,hu=>
   injection hu with hu
   subst hu
   refine⟨?_,rfl⟩
   have:=hr.cell (j:=j) (u:=gN .u32 (xs.getD j default)) (by simp[hj])
   simpa using this
 match i,hc,hu with
 |0,hc,hu=>
  injection hc with hc
  injection hu with hu
  subst hc hu
  exact Rc.v _
theorem aQd {ρ:Pl} {w w':World} (hD:DnW ρ w 0 [] ρ w) (hF:ρ.F=[]) (b:Nat) (hb:w.heap.size<=b) (hlt:b<w'.heap.size):Zf ρ 0 w' b:=⟨hlt,λi hi=>absurd hi (aV _),hD.zz.2 b (.inl hb),λ⟨F,hf,_⟩=>by rw[hF] at hf;cases hf⟩
theorem yQ {ρ:Pl} {n:Nat} {w:World} {r:RatM} {v:Value} (h:Hd ρ n w (.a r.C) v):∃vn vd,v= .agg #[.bool (@decide r.n.p r.n.d),vn,vd]/\Sg (gN .u32) (λ_ _=>True) w vn r.n.m.l/\Sg (gN .u32) (λ_ _=>True) w vd r.d.l:=by
 obtain⟨vl,rfl,hl⟩:=h.inv_a
 match vl,hl with
 |[v0,v1,v2],⟨h0,h1,h2,_⟩=>exact⟨v1,v2,by rw[h0.inv_b],aQb h1,aQb h2⟩
theorem aEk {r:RatM} {q:Rat} {B:Nat} (h:Rq r q B):jH (@decide r.n.p r.n.d) (val r.n.m.l) (val r.d.l)=q:=by
 rw[<-h.v]
 unfold jH
 congr 1
 by_cases hp:r.n.p
 ·rw[sg_t hp];simp[Vm.sg,hp]
 rw[sg_f hp];simp[Vm.sg,hp]
theorem aCh {ρ:Pl} {w w':World} {v:Value} {z:Rat} {p q:Prop} (hD:DnW ρ w 0 [] ρ w) (hF:ρ.F=[]) (he:Ext w w') (h:∃vn vd,v= .agg #[.bool (decide (z.num<0)),vn,vd]/\Sg (gN .u32) (λb T=>w.heap.size<=b/\T=131) w' vn (aJ z.num.natAbs)/\Sg (gN .u32) (λb T=>w.heap.size<=b/\T=131) w' vd (aJ z.den)/\p/\q):
 ∃g ρ',(uI z g).F.C/\DnW ρ w 0 (uI z g).F.bl ρ' w'/\Hd ρ' 0 w' (uI z g).F.d v/\ClB [] (uI z g).F.bl/\ρ'.F=(uI z g).F.fl:=by
 obtain⟨vn,vd,rfl,h1,h2,_⟩:=h
 obtain⟨A,c,r1⟩:=aQc (Z:=Zf ρ 0 w') h1 λb _ hb hlt=>aQd hD hF b hb.1 hlt
 obtain⟨A2,c2,r2⟩:=aQc (Z:=Zf ρ 0 w') h2 λb _ hb hlt=>aQd hD hF b hb.1 hlt
 exact⟨⟨⟨z.num<0,inferInstance,⟨A,c,_⟩⟩,⟨A2,c2,_⟩⟩,ρ,⟨⟨qD,rfl⟩,rfl⟩,hD.ext he,.a (vl:=[.bool (decide (z.num<0)),vn,vd]) ⟨Rc.b _ _,Hc.of_rc r1,Hc.of_rc r2,trivial⟩,cD,hF⟩
abbrev bBn:FuncId:=67
theorem bPk:Ent Tryz.prog bBn:=bI func67 rfl kR
abbrev bLj:FuncId:=80
theorem bVm:Ent Tryz.prog bLj:=bI func80 rfl kR
abbrev bBo:FuncId:=44
theorem bVn:Ent Tryz.prog bBo:=bI func44 rfl kR
abbrev bBp:FuncId:=41
theorem bPl:Ent Tryz.prog bBp:=bI func41 rfl kR
abbrev bBq:FuncId:=64
theorem bPm:Ent Tryz.prog bBq:=bI func64 rfl kR
abbrev bLk:FuncId:=145
theorem bVo:Ent Tryz.prog bLk:=bI func145 rfl kR
abbrev aQe:FuncId:=137
theorem bPn:Ent Tryz.prog aQe:=bI func137 rfl kR
theorem bPo:Tryz.prog.funcs[aQe]? =some Tryz.f137:=func137
theorem xG (r:RatM) {q:Rat} (h:Rq r q 17179869184):Ctr Tryz.prog bBn [] [.a r.C] [] (uI q):=by
 refine⟨bPk,cD,λρ w vals hv hD hF=>?_⟩
 match vals,hv with
 |[v1],⟨h1,_⟩=>
  obtain⟨vn,vd,rfl,s1,s2⟩:=yQ h1
  exact(W.q_norm s1 h.n.lm h.n.ln s2 h.ld h.bd (aEk h)).mono λe w' ⟨v,he,hp,hx⟩=>⟨v,he,aCh hD hF hx hp⟩
theorem aQf (r s:RatM) {a b:Rat} (hr:Rq r a 17179869184) (hs:Rq s b 17179869184):Ctr Tryz.prog bLj [] [.a r.C,.a s.C] [] (uI (a+b)):=by
 refine⟨bVm,cD,λρ w vals hv hD hF=>?_⟩
 match vals,hv with
 |[v1,v2],⟨h1,h2,_⟩=>
  obtain⟨vn,vd,rfl,s1,s2⟩:=yQ h1
  obtain⟨un,ud,rfl,t1,t2⟩:=yQ h2
  exact(W.q_add s1 hr.n.lm hr.n.ln s2 hr.ld hr.bd (aEk hr) t1 hs.n.lm hs.n.ln t2 hs.ld hs.bd (aEk hs)).mono λe w' ⟨v,he,hp,hx⟩=>⟨v,he,aCh hD hF hx hp⟩
theorem aAx (r s:RatM) {a b:Rat} (hr:Rq r a 17179869184) (hs:Rq s b 17179869184):Ctr Tryz.prog bBo [] [.a r.C,.a s.C] [] (uI (a*b)):=by
 refine⟨bVn,cD,λρ w vals hv hD hF=>?_⟩
 match vals,hv with
 |[v1,v2],⟨h1,h2,_⟩=>
  obtain⟨vn,vd,rfl,s1,s2⟩:=yQ h1
  obtain⟨un,ud,rfl,t1,t2⟩:=yQ h2
  exact(W.q_mul s1 hr.n.lm hr.n.ln s2 hr.ld hr.bd (aEk hr) t1 hs.n.lm hs.n.ln t2 hs.ld hs.bd (aEk hs)).mono λe w' ⟨v,he,hp,hx⟩=>⟨v,he,aCh hD hF hx hp⟩
theorem aFa {z:Int} (hz:-9223372036854775808<=z/\z<=9223372036854775807):Ctr Tryz.prog bBq [] [.c (iC z)] [] (uI (z:Rat)):=by
 refine⟨bPm,cD,λρ w vals hv hD hF=>?_⟩
 match vals,hv with
 |[v1],⟨h1,_⟩=>
  have e1:=h1.inv_c.inv_v
  subst e1
  exact(W.q_from hz).mono λe w' ⟨v,he,hp,hx⟩=>⟨v,he,aCh hD hF hx hp⟩
theorem aHf {ρ:Pl} {w w':World} {v:Value} {z:Int} (hD:DnW ρ w 0 [] ρ w) (hF:ρ.F=[]) (he:Ext w w') (h:v= .int .i64 z):
 ∃(g:Unit) (ρ':Pl),((λ_:Unit=>(⟨.c (iC z),[],True⟩:Out)) g).F.C/\DnW ρ w 0 ((λ_:Unit=>(⟨.c (iC z),[],True⟩:Out)) g).F.bl ρ' w'/\Hd ρ' 0 w' ((λ_:Unit=>(⟨.c (iC z),[],True⟩:Out)) g).F.d v/\ClB [] ((λ_:Unit=>(⟨.c (iC z),[],True⟩:Out)) g).F.bl/\ρ'.F=((λ_:Unit=>(⟨.c (iC z),[],True⟩:Out)) g).F.fl:=by
 subst h
 exact⟨(),ρ,trivial,hD.ext he,.c (Rc.v _),cD,hF⟩
theorem bBr (z:Int):Int.sign z=sgn z:=by
 unfold sgn
 rcases gW z 0 with h|h|h
 ·rw[if_pos h,fO h]
 ·subst h;rfl
 rw[if_neg oM,if_neg oM,gJ h]
theorem qA (r:RatM) {q:Rat} (h:Rq r q 17179869184):Ctr Tryz.prog bBp [] [.a r.C] [] (λ_:Unit=>⟨.c (iC (sgn q.num)),[],True⟩):=by
 refine⟨bPl,cD,λρ w vals hv hD hF=>?_⟩
 match vals,hv with
 |[v1],⟨h1,_⟩=>
  obtain⟨vn,vd,rfl,s1,s2⟩:=yQ h1
  exact(W.q_sign s1 h.n.lm h.n.ln s2 h.ld h.bd (aEk h)).mono λe w' ⟨v,he,hp,hx⟩=>⟨v,he,aHf hD hF hx (by rw[hp,bBr])⟩
abbrev bBs:FuncId:=125
theorem bPp:Ent Tryz.prog bBs:=bI func125 rfl kR
theorem bIu (x:Sl Nat) (hx:Lm x.l) (hn:x.l.length<=17592186044416):Ctr Tryz.prog bBs [] [.c (oV x)] [] (aWg (val x.l)):=by
 refine⟨bPp,cD,λρ w vals hv hD hF=>?_⟩
 match vals,hv with
 |[v1],⟨h1,_⟩=>
  refine(W.n_trim (aQb h1.inv_c) hx hn).mono λe w' ⟨v,he,hp,hx⟩=>⟨v,he,?_⟩
  obtain⟨A,c,r1⟩:=aQc (Z:=Zf ρ 0 w') hp λb _ hb hlt=>aQd hD hF b hb.1 hlt
  exact⟨⟨A,c,_⟩,ρ,rfl,hD.ext hx,.c (Hc.of_rc r1),cD,hF⟩
abbrev aHg:FuncId:=128
theorem bBt:Ent Tryz.prog aHg:=bI func128 rfl kR
theorem bBu:Tryz.prog.funcs[aHg]? =some Tryz.f128:=func128
theorem aWh (p:Prop) {hp:Decidable p} (m:Sl Nat) {n:Nat} (hm:m.l=aJ n):Ctr Tryz.prog aHg [] [.c (.b p hp),.c (oV m)] [] (aEp (sg p n)):=by
 refine cY gT bBt bBu rfl rfl rfl bL cD (aC gT mxd ⟨⟨p/\(0:Int)<(m.l.length:Nat),inferInstance,m⟩,⟨?_,?_⟩,cM rfl rfl trivial⟩)
 ·show p/\(0:Int)<(m.l.length:Nat)↔_
  rw[aKq,hm]
  have:=aTh (n:=n)
  unfold len at this
  constructor
  ·rintro⟨h1,h2⟩;exact⟨h1,this.1 oM⟩
  rintro⟨h1,h2⟩;exact⟨h1,by have:=this.2 h2;omega⟩
 rw[sg_abs];exact hm
theorem bBv {p:Prop} {n:Nat}:sg (¬p) n=-sg p n:=by
 by_cases hp:p
 ·rw[sg_t hp,sg_f (λh=>h hp)];omega
 rw[sg_f hp,sg_t hp]
theorem bIv (i:IntM) {v:Int} (h:In i v 17179869184):Ctr Tryz.prog aQe [] [.a i.C] [] (aEp (-v)):=by
 refine cY gT bPn bPo rfl rfl rfl bL cD (aC gT mxd ⟨.seq [(0,false),(3,false),(1,false),(2,false),(4,false),(5,false),(6,false),(7,true)],by kernel_rfl,[],bIu i.m h.lm (bA h.ln dC),rfl,rfl,rfl,λm hm=>⟨[],aWh (¬i.p) m hm,rfl,rfl,rfl,λg hg=>⟨g,?_,cM rfl rfl trivial⟩⟩⟩)
 rw[<-h.v,<-bBv];exact hg
abbrev bBw:FuncId:=110
theorem bVp:Ent Tryz.prog bBw:=bI func110 rfl kR
theorem bVq:Tryz.prog.funcs[bBw]? =some Tryz.f110:=func110
theorem bPq (r:RatM) {q:Rat} (h:Rq r q 17179869184):Ctr Tryz.prog bBw [] [.a r.C] [] (uI (-q)):=by
 refine cY gT bVp bVq rfl rfl rfl bL cD (aC gT mxd ⟨[],xG r h,rfl,rfl,rfl,λg hg=>⟨[],bIv g.n (v:=q.num) (Ci.in hg.1 h.rb.1),rfl,rfl,rfl,λn hn=>⟨⟨n,g.d⟩,⟨?_,hg.2⟩,cM rfl rfl trivial⟩⟩⟩)
 exact hn
theorem bBx {p:Prop} {m d:Nat}:Rat.divInt (sg p d) (m:Nat)=(Rat.divInt (sg p m) (d:Nat))⁻¹:=by
 rw[Rat.inv_divInt]
 by_cases hp:p
 ·rw[sg_t hp,sg_t hp,Rat.divInt_neg']
 rw[sg_f hp,sg_f hp]
def RatM.flip (r:RatM):RatM:=⟨⟨r.n.p,r.n.d,r.d⟩,r.n.m⟩
theorem Rq.flip {r:RatM} {q:Rat} {B:Nat} (h:Rq r q B):Rq r.flip q⁻¹ B:=⟨⟨h.ld,h.bd,rfl⟩,h.n.lm,h.n.ln,by rw[<-h.v];exact bBx⟩
abbrev bBz:FuncId:=107
theorem bVr:Ent Tryz.prog bBz:=bI func107 rfl kR
theorem bVs:Tryz.prog.funcs[bBz]? =some Tryz.f107:=func107
theorem bPr (r:RatM) {q:Rat} {B:Nat} (h:Rq r q 17179869184) (hB:rb q B) (hq:q≠0):Ctr Tryz.prog bBz [] [.a r.C] [] (λg:RatM=>⟨.t [.a g.C,pC True],[],Rq g q⁻¹ B⟩):=by
 refine cY gT bVr bVs rfl rfl rfl bL cD (aC gT mxd ⟨[],qA r h,rfl,rfl,rfl,λ_ _=>⟨λh=>absurd (dU.1 (jF.1 h)) hq,λ_=>aC gT mxd ⟨[],xG r h,rfl,rfl,rfl,λg hg=>⟨g.flip,(Cr.rq hg hB).flip,cM ⟨rfl,tt trivial⟩ rfl trivial⟩⟩⟩⟩)
abbrev bCa:FuncId:=42
theorem bVt:Ent Tryz.prog bCa:=bI func42 rfl kR
theorem bVu:Tryz.prog.funcs[bCa]? =some Tryz.f42:=func42
theorem aKv (r s:RatM) {a b:Rat} (hr:Rq r a 17179869184) (hs:Rq s b 17179869184) (hb:b≠0):Ctr Tryz.prog bCa [] [.a r.C,.a s.C] [] (λg:RatM=>⟨.t [.a g.C,pC True],[],Cr g (a/b)⟩):=by
 refine cY gT bVt bVu rfl rfl rfl bL cD (aC gT mxd ⟨[],qA s hs,rfl,rfl,rfl,λ_ _=>⟨λh=>absurd (dU.1 (jF.1 h)) hb,λ_=>aC gT mxd ⟨[],aAx r s.flip hr hs.flip,rfl,rfl,rfl,λg hg=>⟨g,?_,cM ⟨rfl,tt trivial⟩ rfl trivial⟩⟩⟩⟩)
 rw[jN];exact hg
theorem Rq.neg {r:RatM} {q:Rat} {B:Nat} (h:Rq r q B):Rq ⟨⟨¬r.n.p,@instDecidableNot _ r.n.d,r.n.m⟩,r.d⟩ (-q) B:=⟨⟨h.n.lm,h.n.ln,rfl⟩,h.ld,h.bd,by
 rw[<-h.v]
 show Rat.divInt (sg (¬r.n.p) _) _=_
 rw[bBv,Rat.neg_divInt]⟩
abbrev bCb:FuncId:=43
theorem bVv:Ent Tryz.prog bCb:=bI func43 rfl kR
theorem bVw:Tryz.prog.funcs[bCb]? =some Tryz.f43:=func43
theorem aKw (r s:RatM) {a b:Rat} (hr:Rq r a 17179869184) (hs:Rq s b 17179869184):Ctr Tryz.prog bCb [] [.a r.C,.a s.C] [] (uI (a-b)):=by
 refine cY gT bVv bVw rfl rfl rfl bL cD (aC gT mxd ⟨[],aQf r ⟨⟨¬s.n.p,@instDecidableNot _ s.n.d,s.n.m⟩,s.d⟩ hr hs.neg,rfl,rfl,rfl,λg hg=>⟨g,?_,cM rfl rfl trivial⟩⟩)
 rw[oC];exact hg
abbrev aKx:FuncId:=76
theorem bCc:Ent Tryz.prog aKx:=bI func76 rfl kR
theorem bCd:Tryz.prog.funcs[aKx]? =some Tryz.f76:=func76
theorem aTn (r f s:RatM) {a q b:Rat} {B:Nat} (hr:Rq r a 17179869184) (hf:Rq f q 17179869184) (hs:Rq s b 17179869184) (hqb:rb (q*b) 17179869184) (hB:rb (a-q*b) B) (hra:Rq r a B):Ctr Tryz.prog aKx [] [.a r.C,.a f.C,.a s.C] [] (λg:RatM=>⟨.a g.C,[],Rq g (a-q*b) B⟩):=by
 refine cY gT bCc bCd rfl rfl rfl bL cD (aC gT mxd ⟨[],qA s hs,rfl,rfl,rfl,λ_ _=>⟨λh=>aC gT mxd ⟨r,?_,cM rfl rfl trivial⟩,λh=>aC gT mxd ?_⟩⟩)
 ·rw[dU.1 (jF.1 h),iH,oC,Rat.neg_zero,cE];exact hra
 exact⟨.seq [(0,false),(1,false),(2,false),(3,false),(4,false),(5,true)],by kernel_rfl,[],aAx f s hf hs,rfl,rfl,rfl,λm hm=>⟨[],aKw r m hr (Cr.rq hm hqb),rfl,rfl,rfl,λg hg=>⟨g,Cr.rq hg hB,cM rfl rfl trivial⟩⟩⟩
instance:Inhabited IntM:=⟨⟨false=true,inferInstance,fF⟩⟩
instance:Inhabited RatM:=⟨⟨default,fF⟩⟩
structure EntM where
 ix:Int
 v:RatM
instance:Inhabited EntM:=⟨⟨0,default⟩⟩
def EntM.C (e:EntM):List CV:=iC e.ix::e.v.C
def cR (x:Sl EntM):CV:=x.R 4 EntM.C default
structure Ev (x:List EntM) (es:List En) (B:Nat):Prop where
 ln:x.length=es.length
 e:∀k,k<es.length->(x.getD k default).ix=(es.getD k default).1/\Rq (x.getD k default).v (es.getD k default).2 B
structure Ek (x:List EntM) (es:List En):Prop where
 ln:x.length=es.length
 e:∀k,k<es.length->(x.getD k default).ix=(es.getD k default).1/\Cr (x.getD k default).v (es.getD k default).2
def rbE (es:List En) (B:Nat):Prop:=∀e∈es,rb e.2 B
theorem jQ {α:Type} [Inhabited α] {l:List α} {k:Nat} (h:k<l.length):l.getD k default∈l:=by rw[gd h];exact nR h
theorem Ek.ev {x:List EntM} {es:List En} {B:Nat} (h:Ek x es) (hb:rbE es B):Ev x es B:=⟨h.ln,λk hk=>⟨(h.e k hk).1,(h.e k hk).2.rq (hb _ (jQ hk))⟩⟩
theorem bPs {es:List En} {k:Nat} (hk:k+1<es.length) (h:(es.getD (k+1) default).1<=(es.getD k default).1):¬Asc es:=λha=>by
 have h2:=iZ.1 ha k (k+1) oM hk oM
 rw[gd hk,gd oM] at h
 exact absurd h (Int.not_le.2 h2)
theorem bVx {es:List En} {k:Nat} (hk:k+1<es.length) (h:(es.getD k default).1<(es.getD (k+1) default).1) (ha:Asc (es.take (k+1))):Asc (es.take (k+1+1)):=by
 have h1:es.take (k+1+1)=es.take (k+1)++[es.getD (k+1) default]:=by rw[eH,aK hk,gd hk];rfl
 have h0:es.take (k+1)=es.take k++[es.getD k default]:=by rw[eH,aK (show k<es.length by omega),gd (show k<es.length by omega)];rfl
 rw[h1]
 refine hH.2 ⟨ha,gG _ _,λa h2 b h3=>?_⟩
 rw[aT.1 h3]
 rw[h0] at h2 ha
 rcases bB.1 h2 with h2|h2
 ·exact kS ((hH.1 ha).2.2 a h2 _ (.head _)) h
 rw[aT.1 h2];exact h
abbrev bCe:FuncId:=87
theorem bVy:Ent Tryz.prog bCe:=bI func87 rfl kR
theorem bVz:Tryz.prog.funcs[bCe]? =some Tryz.f87:=func87
theorem bCf (x:Sl EntM) {es:List En} {B:Nat} (h:Ev x.l es B):Ctr Tryz.prog bCe [] [.c (cR x)] [] (λ_:Unit=>⟨pC (Asc es),[],True⟩):=by
 have hl:=h.ln
 refine cY gT bVy bVz rfl rfl rfl bL cD (aWe 0 rfl λhn=>aC gT mxd ?_)
 refine yN (rn [(2,21)]) (λi:Nat=>[(3,.c (iC (i+1:Nat)))]) (λ_=>[]) (λi=>Asc (es.take (i+1))/\(i<es.length\/i=0)) (es.length-·) 0 ?_
 refine⟨⟨⟨?_,.inr rfl⟩,rfl,rfl⟩,λi hi=>aC gT mxd ⟨λh1=>aC gT mxd ?_,λh1=>aC gT mxd ?_⟩⟩
 ·cases es with
  |nil=>exact List.Pairwise.nil
  |cons e es=>exact gG _ _
 ·replace h1:((i+1:Nat):Int)<(x.l.length:Nat):=h1
  have hk:i+1<es.length:=by omega
  have e1:=(h.e i oM).1
  have e2:=(h.e (i+1) hk).1
  refine⟨.seq (sq 99 (List.range 12)),by kernel_rfl,(i:Int),wi,i,⟨rfl,oM⟩,i+1,⟨rfl,oM⟩,⟨λhe=>aC gT mxd ?_,λhe=>aC gT mxd ?_⟩⟩
  ·replace he:(x.l.getD (i+1) default).ix<=(x.l.getD i default).ix:=he
   exact⟨(),trivial,cM ⟨(nomatch ·),λha=>absurd ha (bPs hk oM)⟩ rfl trivial⟩
  replace he:¬(x.l.getD (i+1) default).ix<=(x.l.getD i default).ix:=he
  exact⟨(i+1+1:Nat),wi,i+1,⟨⟨bVx hk oM hi.1,.inl hk⟩,oM⟩,rfl,rfl,rfl⟩
 replace h1:¬((i+1:Nat):Int)<(x.l.length:Nat):=h1
 refine aC gT mxd ⟨(),trivial,cM ⟨λ_=>?_,λ_=>rfl⟩ rfl trivial⟩
 have:=hi.1
 rwa [bU oM] at this
abbrev bCg:FuncId:=89
theorem bWa:Ent Tryz.prog bCg:=bI func89 rfl kR
theorem bWb:Tryz.prog.funcs[bCg]? =some Tryz.f89:=func89
theorem aKy (x:Sl EntM) {es:List En} {B:Nat} (h:Ev x.l es B) (ha:Asc es):Ctr Tryz.prog bCg [] [.c (cR x)] [] (λ_:Unit=>⟨.c (cR x),[],True⟩):=by
 refine cY gT bWa bWb rfl rfl rfl bL cD (aC gT mxd ⟨[],bCf x h,rfl,rfl,rfl,λ_ _=>⟨λ_=>aC gT mxd ⟨(),trivial,cM rfl rfl trivial⟩,λh2=>absurd ha h2⟩⟩)
abbrev bCh:FuncId:=108
theorem bWc:Ent Tryz.prog bCh:=bI func108 rfl kR
theorem bWd:Tryz.prog.funcs[bCh]? =some Tryz.f108:=func108
theorem oH {es:List En} {i:Int} {B:Nat} (ha:Asc es) (hb:rbE es B) (h1:1<=B):rb (Vm.get es i) B:=by
 induction es with
 |nil=>exact⟨by show len 0<=B;rw[show len 0=0 by decide];omega,by show len 1<=B;rw[show len 1=1 by decide];omega⟩
 |cons e es ih=>
  by_cases he:e.1=i
  ·subst he;rw[lZ ha];exact hb e (.head _)
  rw[lK he];exact ih ha.tail λe he=>hb e (.tail _ he)
theorem aNs {es:List En} {i:Int} {k:Nat} (hk:k<es.length):Vm.get (es.take (k+1)) i=Vm.get (es.take k) i+(if (es.getD k default).1=i then (es.getD k default).2 else 0):=by
 rw[eH,aK hk,gd hk,mZ]
 congr 1
 show _+0=_
 rw[cE]
theorem bCi (x:Sl EntM) (i:Int) {es:List En} {B:Nat} (h:Ev x.l es B) (hb:rbE es B) (ha:Asc es) (h1:1<=B) (hB:B<=17179869184):Ctr Tryz.prog bCh [] [.c (cR x),.c (iC i)] [] (uI (Vm.get es i)):=by
 have hl:=h.ln
 have hgb:∀k,rb (Vm.get (es.take k) i) 17179869184:=λk=>(oH (ha.sublist (kV _ _)) (λe he=>hb e (eG he)) h1).le
 refine cY gT bWc bWd rfl rfl rfl bL cD (aWe 0 rfl λhn=>aC gT mxd ⟨[],aFa (z:=0) dC,rfl,rfl,rfl,λz hz=>?_⟩)
 replace hn:x.l.length<=9223372036854775807:=hn
 refine eW (rn [(6,7),(11,24)]) (λg:Nat×RatM=>[(11,.c (iC g.1))]) (λg=>[(51,0,yP),(51,0,g.2.C)]) (λ_=>[]) (λg=>g.1<=es.length/\Cr g.2 (Vm.get (es.take g.1) i)) (λg=>es.length-g.1) λhM=>⟨dG hM (0,z) ⟨aF _,hz⟩ rfl ⟨rfl,rfl⟩ trivial rfl bL (aD rfl (aD rfl bM)) rfl,λ⟨k,g⟩ ⟨hk,hg⟩=>aC gT mxd ⟨λh2=>aC gT mxd ?_,λh2=>aC gT mxd (aC gT mxd ?_)⟩⟩
 all_goals
  replace hk:k<=es.length:=hk
  replace hg:Cr g (Vm.get (es.take k) i):=hg
 ·replace h2:(k:Int)<(x.l.length:Nat):=h2
  have hkl:k<es.length:=by omega
  have e1:=(h.e k hkl).1
  refine⟨k,⟨rfl,by omega⟩,⟨λh3=>aC gT mxd ?_,λh3=>aC gT mxd ?_⟩⟩
  ·replace h3:(x.l.getD k default).ix=i:=h3
   refine⟨[],aQf g (x.l.getD k default).v (hg.rq (hgb k)) ((h.e k hkl).2.le hB),rfl,rfl,rfl,λs hs=>⟨(k:Int)+1,wi,dG hM (k+1,s) ⟨⟨hkl,?_⟩,show es.length-(k+1)<es.length-k by omega⟩ rfl ⟨rfl,rfl⟩ trivial rfl bL (aD rfl (aD rfl bM)) rfl⟩⟩
   show Cr s _
   rw[aNs hkl,if_pos oM];exact hs
  replace h3:¬(x.l.getD k default).ix=i:=h3
  refine⟨(k:Int)+1,wi,dG hM (k+1,g) ⟨⟨hkl,?_⟩,show es.length-(k+1)<es.length-k by omega⟩ rfl ⟨rfl,rfl⟩ trivial rfl bL (aD rfl (aD rfl bM)) rfl⟩
  show Cr g _
  rw[aNs hkl,if_neg oM,cE];exact hg
 replace h2:¬(k:Int)<(x.l.length:Nat):=h2
 refine⟨g,?_,cM rfl rfl trivial⟩
 show Cr g _
 rw[bU oM] at hg
 exact hg
def VOk (es:List En) (n:Int):Prop:=Asc es/\∀e∈es,0<=e.1/\e.1<n/\e.2≠0
abbrev bCj:FuncId:=48
theorem bWe:Ent Tryz.prog bCj:=bI func48 rfl kR
theorem bWf:Tryz.prog.funcs[bCj]? =some Tryz.f48:=func48
theorem aNt (x:Sl EntM) (n:Int) {es:List En} {B:Nat} (h:Ev x.l es B) (hB:B<=17179869184):Ctr Tryz.prog bCj [] [.c (cR x),.c (iC n)] [] (λ_:Unit=>⟨pC (VOk es n),[],True⟩):=by
 have hl:=h.ln
 refine cY gT bWe bWf rfl rfl rfl bL cD (aWe 0 rfl λhn=>aC gT mxd ⟨[],bCf x h,rfl,rfl,rfl,λ_ _=>⟨λh1=>aC gT mxd ?_,λh1=>aC gT mxd ?_⟩⟩)
 ·exact⟨(),trivial,cM ⟨(nomatch ·),λh2=>absurd h2.1 h1⟩ rfl trivial⟩
 replace h1:Asc es:=vM.1 h1
 replace hn:x.l.length<=9223372036854775807:=hn
 refine eW (rn [(6,6),(12,31)]) (λk:Nat=>[(12,.c (iC k))]) (λ_=>[]) (λ_=>[]) (λk=>k<=es.length/\∀e∈es.take k,0<=e.1/\e.1<n/\e.2≠0) (λk=>es.length-k) λhM=>⟨dG hM 0 ⟨aF _,by simp⟩ rfl trivial trivial rfl bL bM rfl,λk ⟨hk,hg⟩=>aC gT mxd ⟨λh2=>aC gT mxd ?_,λh2=>aC gT mxd (aC gT mxd ?_)⟩⟩
 ·replace h2:(k:Int)<(x.l.length:Nat):=h2
  have hkl:k<es.length:=by omega
  obtain⟨e1,e2⟩:=h.e k hkl
  have bad:¬(0<=(es.getD k default).1/\(es.getD k default).1<n/\(es.getD k default).2≠0)->¬VOk es n:=λhh hv=>hh (hv.2 _ (jQ hkl))
  refine⟨k,⟨rfl,by omega⟩,⟨λh3=>?_,λh3=>?_⟩⟩
  ·replace h3:(x.l.getD k default).ix<0\/n<=(x.l.getD k default).ix:=h3
   exact⟨(),trivial,cM ⟨(nomatch ·),λhv=>absurd hv (bad oM)⟩ rfl trivial⟩
  replace h3:¬((x.l.getD k default).ix<0\/n<=(x.l.getD k default).ix):=h3
  refine⟨[],qA (x.l.getD k default).v (e2.le hB),rfl,rfl,rfl,λ_ _=>⟨λh4=>aC gT mxd ?_,λh4=>aC gT mxd ?_⟩⟩
  ·exact⟨(),trivial,cM ⟨(nomatch ·),λhv=>absurd hv (bad λhh=>hh.2.2 (dU.1 (jF.1 h4)))⟩ rfl trivial⟩
  refine⟨(k:Int)+1,wi,dG hM (k+1) ⟨⟨hkl,(bAr (d:=default) hkl).2 ⟨hg,by omega,by omega,λh5=>h4 (jF.2 (dU.2 h5))⟩⟩,show es.length-(k+1)<es.length-k by omega⟩ rfl trivial trivial rfl bL bM rfl⟩
 replace h2:¬(k:Int)<(x.l.length:Nat):=h2
 rw[bU oM] at hg
 exact⟨(),trivial,cM ⟨λ_=>⟨h1,hg⟩,λ_=>rfl⟩ rfl trivial⟩
abbrev bPt:FuncId:=90
theorem cBr:Ent Tryz.prog bPt:=bI func90 rfl kR
theorem cBs:Tryz.prog.funcs[bPt]? =some Tryz.f90:=func90
theorem bLl (x y:RatM) {a:Rat} (hx:Rq x a 17179869184):Ctr Tryz.prog bPt [] [.a x.C,.a y.C] [] (uI a):=by
 refine cY gT cBr cBs rfl rfl rfl bL cD (aC gT mxd ⟨[],xG x hx,rfl,rfl,rfl,λg hg=>⟨g,hg,cM rfl rfl trivial⟩⟩)
abbrev bPu:FuncId:=136
theorem cBt:Ent Tryz.prog bPu:=bI func136 rfl kR
theorem cBu:Tryz.prog.funcs[bPu]? =some Tryz.f136:=func136
theorem bWg (f x y:RatM) {q a b:Rat} (hf:Rq f q 17179869184) (hx:Rq x a 17179869184) (hy:Rq y b 17179869184) (hb:rb (q*b) 17179869184):Ctr Tryz.prog bPu [true] [.a x.C,.a y.C,.c (.p 0 0)] [(51,0,f.C)] (λg:RatM=>⟨.a g.C,[(51,0,f.C)],Cr g (a+q*b)⟩):=by
 refine cY gT cBt cBu rfl rfl rfl bL (ClB.one rfl) (aC gT mxd ⟨[],qA y hy,rfl,rfl,rfl,λ_ _=>⟨λh=>aC gT mxd ?_,λh=>aC gT mxd ?_⟩⟩)
 ·refine⟨[],xG x hx,rfl,rfl,rfl,λg hg=>⟨g,?_,cM rfl rfl ⟨⟨rfl,rfl,rfl,rfl⟩,trivial⟩⟩⟩
  show Cr g _
  rw[dU.1 (jF.1 h),iH,cE];exact hg
 exact⟨.seq [(0,false),(1,false),(2,false),(3,false),(4,false),(5,true)],by kernel_rfl,[],aAx f y hf hy,rfl,rfl,rfl,λm hm=>⟨[],aQf x m hx (Cr.rq hm hb),rfl,rfl,rfl,λg hg=>⟨g,hg,cM rfl rfl ⟨⟨rfl,rfl,rfl,rfl⟩,trivial⟩⟩⟩⟩
theorem Sd.sq {P:Program} {nb N:Nat} {a b:Code} {K:Kt} {s:SS} (h:Sd P nb N a ⟨λs'=>Sd P nb N b K s',K.ext,K.ret⟩ s):Sd P nb N (.seq a b) K s:=λρ0 w0 ρ f w Q hL hD=>
 dV (h ρ0 w0 ρ f w _ ⟨λs' ρ' f' w' h' hD'=>h' ρ0 w0 ρ' f' w' Q hL hD',hL.ext,hL.ret⟩ hD)
theorem Sd.cut {P:Program} {nb N:Nat} {a b:Code} {K:Kt} {s:SS} {σ:Type} (S:σ->SS) (C:σ->Prop) (h:Sd P nb N a ⟨λs'=>Gt nb s' S C,K.ext,K.ret⟩ s) (hk:∀g,C g->Sd P nb N b K (S g)):Sd P nb N (.seq a b) K s:=λρ0 w0 ρ f w Q hL hD=>
 dV (h ρ0 w0 ρ f w _ ⟨λs' ρ' f' w' hg hD'=>by
  obtain⟨g,ρ2,hC,hD2⟩:=hg ρ0 w0 ρ' f' w' hD'
  exact hk g hC ρ0 w0 ρ2 f' w' Q hL hD2,hL.ext,hL.ret⟩ hD)
theorem Sd.blk {P:Program} {nb N id:Nat} {c:Code} {K:Kt} {s:SS} (h:Sd P nb N c ⟨K.nrm,λj s'=>bif Nat.beq j id then K.nrm s' else K.ext j s',K.ret⟩ s):Sd P nb N (.block id c) K s:=λρ0 w0 ρ f w Q hL hD=>
 gC (h ρ0 w0 ρ f w _ ⟨hL.nrm,λj s' ρ' f' w' h' hD'=>by
  have h2:(bif Nat.beq j id then K.nrm s' else K.ext j s'):=h'
  show match Nat.beq j id with|true=>Q.nrm f' w'|false=>Q.ext j f' w'
  cases hj:Nat.beq j id with
  |true=>rw[hj] at h2;exact hL.nrm s' ρ' f' w' h2 hD'
  |false=>rw[hj] at h2;exact hL.ext j s' ρ' f' w' h2 hD',hL.ret⟩ hD)
theorem gY (r:RatM):∀c∈r.C,iP c=true:=λc h2=>by
 simp only[RatM.C,bJ,fA,or_false] at h2
 rcases h2 with rfl|rfl|rfl<;>rfl
def ecs (ys:List EntM):List CV:=(ys.map EntM.C).flatten
theorem jP:∀ys:List EntM,(ecs ys).length=ys.length*4
 |[]=>rfl
 |e::ys=>by
  show(e.C++ecs ys).length=_
  rw[aP,jP ys,eI]
  show 4+_=_
  omega
theorem jU (ys:List EntM):∀c∈ecs ys,iP c=true:=λc hc=>by
 obtain⟨l,h1,h2⟩:=rQ.1 hc
 obtain⟨e,_,rfl⟩:=cP.1 h1
 rcases bJ.1 h2 with rfl|h2
 ·rfl
 exact gY _ c h2
theorem sJ (ys:List EntM) (e:EntM):ecs ys++e.C=ecs (ys++[e]):=by unfold ecs;simp
theorem jV {i:Nat} {c:CV} (h:iP c=true):nA i c=false:=by cases c<;>first|rfl|cases h
theorem nI {n:Nat} (ys:List EntM):(ecs ys).all (scC n)=true:=aZ.2 λc hc=>sO (jU ys c hc)
theorem tJ (x:List EntM) (i:Nat) (A:Option Addr) (c:Nat):CV.r A ((x.drop i).length-1) c 4 (λj=>((x.drop i).getD (j+1) default).C)=cR ⟨A,c,x.drop (i+1)⟩:=by
 unfold cR Sl.R
 congr 1
 ·simp only[dP];omega
 funext j
 rw[bF,bF,eQ,eQ,show i+(j+1)=i+1+j by omega]
theorem aCi {α:Type} [Inhabited α] {l:List α} {i:Nat} (h:i<l.length):l.drop i=l.getD i default::l.drop (i+1):=by rw[fR h,gd h]
theorem qW {x:List EntM} {i:Nat}:(x.drop i).getD 0 default=x.getD i default:=by
 rw[bF,bF,eQ,jG]
theorem aTo {B:Nat}:Rq default 0 B:=⟨⟨Lm.nil,aF _,rfl⟩,Lm.nil,aF _,rfl⟩
theorem aTp {B:Nat} (h:1<=B):rb 0 B:=⟨by show len 0<=B;rw[show len 0=0 by decide];omega,by show len 1<=B;rw[show len 1=1 by decide];omega⟩
structure MgR (op:Rat->Rat->Rat) (es fs rs:List En):Prop where
 a:Asc rs
 z:aGf rs
 g:∀i,Vm.get rs i=op (Vm.get es i) (Vm.get fs i)
def aNu (es fs:List En) (B i j:Nat) (i' j':Nat) (ix:Int) (u v:RatM):Prop:=∃a b,Stp (es.drop i) (fs.drop j) ix a b (es.drop i') (fs.drop j')/\Rq u a B/\Rq v b B/\rb a B/\rb b B/\i'<=es.length/\j'<=fs.length/\i+j<i'+j'
section seen
variable {x y:List EntM} {es fs:List En} {B i j:Nat} (hx:Ev x es B) (hy:Ev y fs B) (bx:rbE es B) (bY:rbE fs B) (h1:1<=B) (hi:i<=es.length) (hj:j<=fs.length)
include hx bx h1 hj in
theorem bCk (h:i<es.length) (h2:j=fs.length\/(j<fs.length/\(es.getD i default).1<(fs.getD j default).1)):aNu es fs B i j (i+1) j ((x.drop i).getD 0 default).ix ((x.drop i).getD 0 default).v default:=by
 rw[qW,(hx.e i h).1]
 refine⟨_,0,?_,(hx.e i h).2,aTo,bx _ (jQ h),aTp h1,h,hj,by omega⟩
 rw[aCi h]
 rcases h2 with rfl|⟨h2,h3⟩
 ·rw[nS];exact .l _ _
 rw[aCi h2];exact .lt _ _ _ _ h3
include hx hy bx bY in
theorem bCl (h:i<es.length) (h2:j<fs.length) (h3:(es.getD i default).1=(fs.getD j default).1):aNu es fs B i j (i+1) (j+1) ((x.drop i).getD 0 default).ix ((x.drop i).getD 0 default).v ((y.drop j).getD 0 default).v:=by
 rw[qW,qW,(hx.e i h).1]
 refine⟨_,_,?_,(hx.e i h).2,(hy.e j h2).2,bx _ (jQ h),bY _ (jQ h2),h,h2,by omega⟩
 rw[aCi h,aCi h2];exact .eq _ _ _ _ h3
include hy bY h1 hi in
theorem bCm (h2:j<fs.length) (h:i=es.length\/(i<es.length/\(fs.getD j default).1<(es.getD i default).1)):aNu es fs B i j i (j+1) ((y.drop j).getD 0 default).ix default ((y.drop j).getD 0 default).v:=by
 rw[qW,(hy.e j h2).1]
 refine⟨0,_,?_,aTo,(hy.e j h2).2,aTp h1,bY _ (jQ h2),hi,h2,by omega⟩
 rw[aCi h2]
 rcases h with rfl|⟨h,h3⟩
 ·rw[nS];exact .r _ _
 rw[aCi h];exact .gt _ _ _ _ h3
end seen
theorem aIu {get:Nat->List CV} {e:Nat}:LeC (.v (.slice none 0 0)) (.r none 0 0 e get):=λρ n w x h=>by rw[h.inv_v];exact Rc.nil none 0 e get (aF _)
theorem aNv:∀(k:Nat) (c c':CV),yP[k]? =some c->(default:RatM).C[k]? =some c'->LeC c c'
 |0,c,c',h1,h2=>by injection h1 with h1;injection h2 with h2;subst h1 h2;exact LeC.refl _
 |1,c,c',h1,h2=>by injection h1 with h1;injection h2 with h2;subst h1 h2;exact aIu
 |2,c,c',h1,h2=>by injection h1 with h1;injection h2 with h2;subst h1 h2;exact aIu
 |_+3,c,c',h1,h2=>by cases h1
theorem zX {ys:List EntM} {rs:List En} {ix:Int} {g:RatM} {q:Rat} (h:Ek ys rs) (hg:Cr g q):Ek (ys++[⟨ix,g⟩]) (rs++[(ix,q)]):=⟨by simp[h.ln],λk hk=>by
 rw[aP,cU] at hk
 have hl:=h.ln
 rcases eY k rs.length with h1|h1
 ·have e1:(ys++[(⟨ix,g⟩:EntM)]).getD k default=ys.getD k default:=by simp[bW (show k<ys.length by omega)]
  have e2:(rs++[(ix,q)]).getD k default=rs.getD k default:=by simp[bW h1]
  rw[e1,e2];exact h.e k h1
 obtain rfl:k=rs.length:=by omega
 have e1:(ys++[(⟨ix,g⟩:EntM)]).getD rs.length default=⟨ix,g⟩:=by rw[<-hl];simp
 have e2:(rs++[(ix,q)]).getD rs.length default=(ix,q):=by simp
 rw[e1,e2];exact⟨rfl,hg⟩⟩
theorem tY:∀(ys:List EntM) (j:Nat),j<ys.length->(ys.getD j default).C=((ecs ys).drop (j*4)).take 4
 |[],j,h=>absurd h (aV _)
 |e::ys,0,h=>rfl
 |e::ys,j+1,h=>by
  have h1:=tY ys j (by simpa using h)
  show(ys.getD j default).C=((e.C++ecs ys).drop ((j+1)*4)).take 4
  have e4:e.C.length=4:=rfl
  rw[h1,eN,jY (j*4) 4,wU,e4,nM,cB (show e.C.length<=4+j*4 by rw[e4];omega),kC]
theorem pT {i:Nat} (e:EntM):∀c∈e.C,nA i c=false:=λc hc=>jV (by
 rcases bJ.1 hc with rfl|hc
 ·rfl
 exact gY _ c hc)
theorem aDm {T e:Nat} {l:List CV} {r:BL} (h:∀c∈l,iP c=true):ClB [true] ((T,e,l)::r):=λi T' es' l' hi hc=>by
 cases i with
 |zero=>injection hi with hi;injection hi with _ hi;injection hi with _ hi;subst hi;exact h
 |succ i=>cases hc
abbrev aWi:FuncId:=88
theorem bWh:Ent Tryz.prog aWi:=bI func88 rfl kR
theorem bWi:Tryz.prog.funcs[aWi]? =some Tryz.f88:=func88
theorem bCn (x y:Sl EntM) {es fs:List En} {B:Nat} {q:FuncId} {op:Rat->Rat->Rat} (hx:Ev x.l es B) (hy:Ev y.l fs B) (bx:rbE es B) (bY:rbE fs B) (h1:1<=B) (ax:Asc es) (ay:Asc fs) (nx:es.length<=4096) (ny:fs.length<=4096) (h0:op 0 0=0)
 (hrb:∀a b,rb a B->rb b B->rb (op a b) 17179869184)
 (hop:∀(u v:RatM) {a b:Rat},Rq u a B->Rq v b B->rb a B->rb b B->Ctr Tryz.prog q [] [.a u.C,.a v.C] [] (λg:RatM=>⟨.a g.C,[],Cr g (op a b)⟩)):
 Ctr Tryz.prog aWi [] [.c (cR x),.c (cR y),.c (.f q [] [])] [] (λys:List EntM=>⟨.c (.s 0 ys.length),[(65,4,ecs ys)],∃rs,Ek ys rs/\MgR op es fs rs⟩):=by
 have lx:=hx.ln
 have ly:=hy.ln
 refine cY gT bWh bWi rfl rfl rfl bL cD (aC gT mxd ⟨max (x.l.length) (y.l.length),⟨rfl,by show max (x.l.length:Int) (y.l.length:Int)=_;omega,by show 64*_<=_;omega,by simp only[maxLen];omega⟩,?_⟩)
 refine eW (λt=>!Nat.beq t 2) (λg:Nat×Nat×Option Addr×Nat×Option Addr×Nat×List EntM=>[(7,.c (.s 0 g.2.2.2.2.2.2.length)),(0,.c (cR ⟨g.2.2.1,g.2.2.2.1,x.l.drop g.1⟩)),(1,.c (cR ⟨g.2.2.2.2.1,g.2.2.2.2.2.1,y.l.drop g.2.1⟩))]) (λg=>[(65,4,ecs g.2.2.2.2.2.2)]) (λ_=>[]) (λg=>g.1<=es.length/\g.2.1<=fs.length/\g.2.2.2.2.2.2.length<=g.1+g.2.1/\∃rs ps,Mg op es fs (es.drop g.1) (fs.drop g.2.1) rs ps/\Ek g.2.2.2.2.2.2 rs) (λg=>es.length+fs.length-(g.1+g.2.1)) λhM=>⟨dG hM (0,0,x.A,x.c,y.A,y.c,[]) ⟨aF _,aF _,aF _,[],[],Mg.start ax ay,rfl,λk hk=>absurd hk (aV _)⟩ rfl rfl trivial ⟨rfl,rfl,rfl⟩ bL (aD (nI _) bM) rfl,λ⟨i,j,A1,c1,A2,c2,ys⟩ ⟨hi,hj,hys,rs,ps,hmg,hek⟩=>Sd.sq (aC gT mxd ⟨λh2=>aC gT mxd (Sd.blk (Sd.sq (aC gT mxd (Sd.sq (aC gT mxd ?_))))),λh2=>aC gT mxd ?_⟩)⟩
 all_goals
  replace hi:i<=es.length:=hi
  replace hj:j<=fs.length:=hj
  replace hys:ys.length<=i+j:=hys
  replace hmg:Mg op es fs (es.drop i) (fs.drop j) rs ps:=hmg
  replace hek:Ek ys rs:=hek
  have la:(x.l.drop i).length=es.length-i:=by rw[dP,lx]
  have lb:(y.l.drop j).length=fs.length-j:=by rw[dP,ly]
 ·replace h2:(0:Int)<((x.l.drop i).length:Nat)\/(0:Int)<((y.l.drop j).length:Nat):=h2
  show Sd _ _ _ _ _ _
  refine mM tSd (l:=yP) 1 (default:RatM).C rfl rfl aNv (mM tSd (l:=yP) 2 (default:RatM).C rfl rfl aNv ?_)
  refine Sd.cut (σ:=Nat×Nat×Option Addr×Nat×Option Addr×Nat×Int×RatM×RatM) (λg=>⟨[(7,.c (.s 0 ys.length)),(0,.c (cR ⟨g.2.2.1,g.2.2.2.1,x.l.drop g.1⟩)),(1,.c (cR ⟨g.2.2.2.2.1,g.2.2.2.2.2.1,y.l.drop g.2.1⟩)),(8,.c (iC g.2.2.2.2.2.2.1)),(9,.c (.p 1 0)),(10,.c (.p 2 0))]++[(2,.c (.f q [] []))],[],[(65,4,ecs ys),(51,0,g.2.2.2.2.2.2.2.1.C),(51,0,g.2.2.2.2.2.2.2.2.C)],[]⟩) (λg=>aNu es fs B i j g.1 g.2.1 g.2.2.2.2.2.2.1 g.2.2.2.2.2.2.2.1 g.2.2.2.2.2.2.2.2) (aC gT mxd ?_) λ⟨i',j',A3,c3,A4,c4,ix,u,v⟩ hs=>aC gT mxd ?_
  ·refine⟨.seq (sq 99 (List.range 19)),by kernel_rfl,0,λhq=>⟨rfl,?_⟩,0,λhq=>⟨rfl,?_⟩,⟨λhc=>aC gT mxd ?_,λhc=>aC gT mxd ?_⟩⟩
   ·replace hq:((0:Int)<((x.l.drop i).length:Nat))/\¬(((y.l.drop j).length:Nat):Int)=0:=hq
    show 0<(x.l.drop i).length
    omega
   ·replace hq:((0:Int)<((x.l.drop i).length:Nat))/\¬(((y.l.drop j).length:Nat):Int)=0:=hq
    show 0<(y.l.drop j).length
    omega
   ·replace hc:(((y.l.drop j).length:Nat):Int)=0\/((0:Int)<((x.l.drop i).length:Nat))/\((x.l.drop i).getD 0 default).ix<=((y.l.drop j).getD 0 default).ix:=hc
    have hil:i<es.length:=by omega
    have l1:0<(x.l.drop i).length:=by omega
    refine⟨.seq (sq 9 (List.range 10)),by kernel_rfl,0,⟨rfl,l1⟩,0,⟨rfl,l1⟩,1,⟨rfl,l1⟩,0,λhq=>⟨rfl,?_⟩,⟨λhd=>aC gT mxd ?_,λhd=>aC gT mxd ?_⟩⟩
    ·replace hq:(0:Int)<((y.l.drop j).length:Nat):=hq
     show 0<(y.l.drop j).length
     omega
    ·replace hd:(0:Int)<((y.l.drop j).length:Nat)/\((y.l.drop j).getD 0 default).ix=((x.l.drop i).getD 0 default).ix:=hd
     have hs:=bCl hx hy bx bY (i:=i) (j:=j) hil oM (by rw[qW,qW,(hx.e i hil).1,(hy.e j oM).1] at hd;exact hd.2.symm)
     have l2:0<(y.l.drop j).length:=by omega
     exact⟨0,⟨rfl,l2⟩,1,⟨rfl,l2⟩,dG hM (chg:=λg:Nat×Nat×Option Addr×Nat×Option Addr×Nat×Int×RatM×RatM=>[(7,.c (.s 0 ys.length)),(0,.c (cR ⟨g.2.2.1,g.2.2.2.1,x.l.drop g.1⟩)),(1,.c (cR ⟨g.2.2.2.2.1,g.2.2.2.2.2.1,y.l.drop g.2.1⟩)),(8,.c (iC g.2.2.2.2.2.2.1)),(9,.c (.p 1 0)),(10,.c (.p 2 0))]) (bls:=λg:Nat×Nat×Option Addr×Nat×Option Addr×Nat×Int×RatM×RatM=>[(65,4,ecs ys),(51,0,g.2.2.2.2.2.2.2.1.C),(51,0,g.2.2.2.2.2.2.2.2.C)]) (fls:=λ_=>[]) (i+1,j+1,slA A1 c1 1 4,c1-1,slA A2 c2 1 4,c2-1,((x.l.drop i).getD 0 default).ix,((x.l.drop i).getD 0 default).v,((y.l.drop j).getD 0 default).v) hs rfl ⟨rfl,rfl,rfl⟩ trivial ⟨rfl,tJ x.l i _ _,tJ y.l j _ _,rfl,rfl,rfl⟩ bL (aD (nI _) (aD rfl (aD rfl bM))) rfl⟩
    replace hd:¬((0:Int)<((y.l.drop j).length:Nat)/\((y.l.drop j).getD 0 default).ix=((x.l.drop i).getD 0 default).ix):=hd
    have hs:=bCk hx bx h1 hj (i:=i) (fs:=fs) hil (by
     rcases eY j fs.length with h|h
     ·rw[qW,qW,(hx.e i hil).1,(hy.e j h).1] at hd hc
      exact .inr ⟨h,by omega⟩
     exact .inl oM)
    exact dG hM (chg:=λg:Nat×Nat×Option Addr×Nat×Option Addr×Nat×Int×RatM×RatM=>[(7,.c (.s 0 ys.length)),(0,.c (cR ⟨g.2.2.1,g.2.2.2.1,x.l.drop g.1⟩)),(1,.c (cR ⟨g.2.2.2.2.1,g.2.2.2.2.2.1,y.l.drop g.2.1⟩)),(8,.c (iC g.2.2.2.2.2.2.1)),(9,.c (.p 1 0)),(10,.c (.p 2 0))]) (bls:=λg:Nat×Nat×Option Addr×Nat×Option Addr×Nat×Int×RatM×RatM=>[(65,4,ecs ys),(51,0,g.2.2.2.2.2.2.2.1.C),(51,0,g.2.2.2.2.2.2.2.2.C)]) (fls:=λ_=>[]) (i+1,j,slA A1 c1 1 4,c1-1,A2,c2,((x.l.drop i).getD 0 default).ix,((x.l.drop i).getD 0 default).v,default) hs rfl ⟨rfl,rfl,rfl⟩ trivial ⟨rfl,tJ x.l i _ _,rfl,rfl,rfl,rfl⟩ bL (aD (nI _) (aD rfl (aD rfl bM))) rfl
   replace hc:¬((((y.l.drop j).length:Nat):Int)=0\/((0:Int)<((x.l.drop i).length:Nat))/\((x.l.drop i).getD 0 default).ix<=((y.l.drop j).getD 0 default).ix):=hc
   have hjl:j<fs.length:=by omega
   have hs:=bCm hy bY h1 hi (j:=j) (es:=es) hjl (by
    rcases eY i es.length with h|h
    ·rw[qW,qW,(hx.e i h).1,(hy.e j hjl).1] at hc
     exact .inr ⟨h,by omega⟩
    exact .inl oM)
   have l2:0<(y.l.drop j).length:=by omega
   exact⟨.seq (sq 9 (List.range 10)),by kernel_rfl,0,⟨rfl,l2⟩,0,⟨rfl,l2⟩,1,⟨rfl,l2⟩,dG hM (chg:=λg:Nat×Nat×Option Addr×Nat×Option Addr×Nat×Int×RatM×RatM=>[(7,.c (.s 0 ys.length)),(0,.c (cR ⟨g.2.2.1,g.2.2.2.1,x.l.drop g.1⟩)),(1,.c (cR ⟨g.2.2.2.2.1,g.2.2.2.2.2.1,y.l.drop g.2.1⟩)),(8,.c (iC g.2.2.2.2.2.2.1)),(9,.c (.p 1 0)),(10,.c (.p 2 0))]) (bls:=λg:Nat×Nat×Option Addr×Nat×Option Addr×Nat×Int×RatM×RatM=>[(65,4,ecs ys),(51,0,g.2.2.2.2.2.2.2.1.C),(51,0,g.2.2.2.2.2.2.2.2.C)]) (fls:=λ_=>[]) (i,j+1,A1,c1,slA A2 c2 1 4,c2-1,((y.l.drop j).getD 0 default).ix,default,((y.l.drop j).getD 0 default).v) hs rfl ⟨rfl,rfl,rfl⟩ trivial ⟨rfl,rfl,tJ y.l j _ _,rfl,rfl,rfl⟩ bL (aD (nI _) (aD rfl (aD rfl bM))) rfl⟩
  obtain⟨a,b,hst,qu,qv,ra,rb',hi',hj',hlt⟩:=hs
  replace hst:Stp (es.drop i) (fs.drop j) ix a b (es.drop i') (fs.drop j'):=hst
  replace qu:Rq u a B:=qu
  replace qv:Rq v b B:=qv
  replace hi':i'<=es.length:=hi'
  replace hj':j'<=fs.length:=hj'
  replace hlt:i+j<i'+j':=hlt
  obtain⟨m1,m2⟩:=hmg.step hst
  refine⟨[],hop u v qu qv ra rb',rfl,rfl,rfl,λg hg=>⟨[],qA g (hg.rq (hrb a b ra rb')),rfl,rfl,rfl,λ_ _=>⟨λhz=>aC gT mxd ?_,λhz=>aC gT mxd ?_⟩⟩⟩
  ·replace hz:¬sgn (op a b).num=0:=hz
   have hne:op a b≠0:=λh=>hz (jF.2 (dU.2 h))
   refine⟨⟨rfl,by show ys.length*4=(ecs ys).length;rw[jP],by show ys.length+1<=maxLen;simp only[maxLen];omega,by show(ys.length+1)*64<=_;omega,λc hc=>?_⟩,pT ⟨ix,g⟩,dG hM (chg:=λg:Nat×Nat×Option Addr×Nat×Option Addr×Nat×List EntM=>[(7,.c (.s 0 g.2.2.2.2.2.2.length)),(0,.c (cR ⟨g.2.2.1,g.2.2.2.1,x.l.drop g.1⟩)),(1,.c (cR ⟨g.2.2.2.2.1,g.2.2.2.2.2.1,y.l.drop g.2.1⟩))]) (bls:=λg:Nat×Nat×Option Addr×Nat×Option Addr×Nat×List EntM=>[(65,4,ecs g.2.2.2.2.2.2)]) (fls:=λ_=>[]) (i',j',A3,c3,A4,c4,ys++[⟨ix,g⟩]) ⟨⟨hi',hj',?_,_,_,m2 hne,zX hek hg⟩,?_⟩ rfl (by show(65,4,ecs ys++(⟨ix,g⟩:EntM).C)=_;rw[sJ]) trivial ⟨?_,rfl,rfl⟩ bL (aD (nI _) bM) rfl⟩
   ·rcases bB.1 hc with hc|hc
    ·exact jV (jU ys c hc)
    exact pT ⟨ix,g⟩ c hc
   ·show(ys++[(⟨ix,g⟩:EntM)]).length<=i'+j'
    rw[aP,cU];omega
   ·show es.length+fs.length-(i'+j')<es.length+fs.length-(i+j)
    omega
   show ys.length+1=(ys++[(⟨ix,g⟩:EntM)]).length
   rw[aP,cU]
  replace hz:¬¬sgn (op a b).num=0:=hz
  have h0':op a b=0:=dU.1 (jF.1 (jZ.1 hz))
  refine dG hM (chg:=λg:Nat×Nat×Option Addr×Nat×Option Addr×Nat×List EntM=>[(7,.c (.s 0 g.2.2.2.2.2.2.length)),(0,.c (cR ⟨g.2.2.1,g.2.2.2.1,x.l.drop g.1⟩)),(1,.c (cR ⟨g.2.2.2.2.1,g.2.2.2.2.2.1,y.l.drop g.2.1⟩))]) (bls:=λg:Nat×Nat×Option Addr×Nat×Option Addr×Nat×List EntM=>[(65,4,ecs g.2.2.2.2.2.2)]) (fls:=λ_=>[]) (i',j',A3,c3,A4,c4,ys) ⟨⟨hi',hj',show ys.length<=i'+j' by omega,_,_,m1 h0',hek⟩,?_⟩ rfl rfl trivial ⟨rfl,rfl,rfl⟩ bL (aD (nI _) bM) rfl
  show es.length+fs.length-(i'+j')<es.length+fs.length-(i+j)
  omega
 replace h2:¬((0:Int)<((x.l.drop i).length:Nat)\/(0:Int)<((y.l.drop j).length:Nat)):=h2
 obtain rfl:i=es.length:=by omega
 obtain rfl:j=fs.length:=by omega
 rw[nS,nS] at hmg
 obtain⟨f1,f2,f3⟩:=hmg.fin h0
 exact aC gT mxd ⟨ys,⟨rs,hek,f1,f2,f3⟩,jO rfl rfl bL (aD (nI _) bM) rfl aAu⟩
theorem bPv (x y:Sl EntM) {es fs:List En} {B:Nat} {q:FuncId} {op:Rat->Rat->Rat} (hx:Ev x.l es B) (hy:Ev y.l fs B) (bx:rbE es B) (bY:rbE fs B) (h1:1<=B) (ax:Asc es) (ay:Asc fs) (nx:es.length<=4096) (ny:fs.length<=4096) (h0:op 0 0=0)
 (hrb:∀a b,rb a B->rb b B->rb (op a b) 17179869184)
 (hop:∀(u v:RatM) {a b:Rat},Rq u a B->Rq v b B->rb a B->rb b B->Ctr Tryz.prog q [] [.a u.C,.a v.C] [] (λg:RatM=>⟨.a g.C,[],Cr g (op a b)⟩)):
 Ctr Tryz.prog aWi [] [.c (cR x),.c (cR y),.c (.f q [] [])] [] (λg:Sl EntM=>⟨.c (cR g),[],∃rs,Ek g.l rs/\MgR op es fs rs⟩):=
 CtrF.gt (bCn x y hx hy bx bY h1 ax ay nx ny h0 hrb hop) λys hys _=>aKh tGt 0 0 (λj=>(ys.getD j default).C) rfl rfl (tY ys) (jP ys).symm bL (jU ys) bL λA c _ _=>dG (M:=λ_=>true) (base:=[]) (chg:=λg:Sl EntM=>[(0,.c (cR g))]) (bls:=λ_=>[]) (fls:=λ_=>[]) (λt d ht=>by cases ht) ⟨A,c,ys⟩ ⟨hys,aAu⟩ rfl trivial trivial rfl bL bM rfl
theorem bPw (x y:Sl EntM) (f:RatM) {es fs:List En} {B:Nat} {q:FuncId} {op:Rat->Rat->Rat} (hx:Ev x.l es B) (hy:Ev y.l fs B) (bx:rbE es B) (bY:rbE fs B) (h1:1<=B) (ax:Asc es) (ay:Asc fs) (nx:es.length<=4096) (ny:fs.length<=4096) (h0:op 0 0=0)
 (hrb:∀a b,rb a B->rb b B->rb (op a b) 17179869184)
 (hop:∀(u v:RatM) {a b:Rat},Rq u a B->Rq v b B->rb a B->rb b B->Ctr Tryz.prog q [true] [.a u.C,.a v.C,.c (.p 0 0)] [(51,0,f.C)] (λg:RatM=>⟨.a g.C,[(51,0,f.C)],Cr g (op a b)⟩)):
 Ctr Tryz.prog aWi [true] [.c (cR x),.c (cR y),.c (.f q [] [(0,0)])] [(51,0,f.C)] (λys:List EntM=>⟨.c (.s 1 ys.length),(51,0,f.C)::[(65,4,ecs ys)],∃rs,Ek ys rs/\MgR op es fs rs⟩):=by
 have lx:=hx.ln
 have ly:=hy.ln
 refine cY gT bWh bWi rfl rfl rfl bL (ClB.one rfl) (aC gT mxd ⟨max (x.l.length) (y.l.length),⟨rfl,by show max (x.l.length:Int) (y.l.length:Int)=_;omega,by show 64*_<=_;omega,by simp only[maxLen];omega⟩,?_⟩)
 refine eW (λt=>!Nat.beq t 2) (λg:Nat×Nat×Option Addr×Nat×Option Addr×Nat×List EntM=>[(7,.c (.s 1 g.2.2.2.2.2.2.length)),(0,.c (cR ⟨g.2.2.1,g.2.2.2.1,x.l.drop g.1⟩)),(1,.c (cR ⟨g.2.2.2.2.1,g.2.2.2.2.2.1,y.l.drop g.2.1⟩))]) (λg=>(51,0,f.C)::[(65,4,ecs g.2.2.2.2.2.2)]) (λ_=>[]) (λg=>g.1<=es.length/\g.2.1<=fs.length/\g.2.2.2.2.2.2.length<=g.1+g.2.1/\∃rs ps,Mg op es fs (es.drop g.1) (fs.drop g.2.1) rs ps/\Ek g.2.2.2.2.2.2 rs) (λg=>es.length+fs.length-(g.1+g.2.1)) λhM=>⟨dG hM (0,0,x.A,x.c,y.A,y.c,[]) ⟨aF _,aF _,aF _,[],[],Mg.start ax ay,rfl,λk hk=>absurd hk (aV _)⟩ rfl ⟨rfl,rfl⟩ trivial ⟨rfl,rfl,rfl⟩ bL (aD rfl (aD (nI _) bM)) rfl,λ⟨i,j,A1,c1,A2,c2,ys⟩ ⟨hi,hj,hys,rs,ps,hmg,hek⟩=>Sd.sq (aC gT mxd ⟨λh2=>aC gT mxd (Sd.blk (Sd.sq (aC gT mxd (Sd.sq (aC gT mxd ?_))))),λh2=>aC gT mxd ?_⟩)⟩
 all_goals
  replace hi:i<=es.length:=hi
  replace hj:j<=fs.length:=hj
  replace hys:ys.length<=i+j:=hys
  replace hmg:Mg op es fs (es.drop i) (fs.drop j) rs ps:=hmg
  replace hek:Ek ys rs:=hek
  have la:(x.l.drop i).length=es.length-i:=by rw[dP,lx]
  have lb:(y.l.drop j).length=fs.length-j:=by rw[dP,ly]
 ·replace h2:(0:Int)<((x.l.drop i).length:Nat)\/(0:Int)<((y.l.drop j).length:Nat):=h2
  show Sd _ _ _ _ _ _
  refine mM tSd (l:=yP) 2 (default:RatM).C rfl rfl aNv (mM tSd (l:=yP) 3 (default:RatM).C rfl rfl aNv ?_)
  refine Sd.cut (σ:=Nat×Nat×Option Addr×Nat×Option Addr×Nat×Int×RatM×RatM) (λg=>⟨[(7,.c (.s 1 ys.length)),(0,.c (cR ⟨g.2.2.1,g.2.2.2.1,x.l.drop g.1⟩)),(1,.c (cR ⟨g.2.2.2.2.1,g.2.2.2.2.2.1,y.l.drop g.2.1⟩)),(8,.c (iC g.2.2.2.2.2.2.1)),(9,.c (.p 2 0)),(10,.c (.p 3 0))]++[(2,.c (.f q [] [(0,0)]))],[],(51,0,f.C)::[(65,4,ecs ys),(51,0,g.2.2.2.2.2.2.2.1.C),(51,0,g.2.2.2.2.2.2.2.2.C)],[]⟩) (λg=>aNu es fs B i j g.1 g.2.1 g.2.2.2.2.2.2.1 g.2.2.2.2.2.2.2.1 g.2.2.2.2.2.2.2.2) (aC gT mxd ?_) λ⟨i',j',A3,c3,A4,c4,ix,u,v⟩ hs=>aC gT mxd ?_
  ·refine⟨.seq (sq 99 (List.range 19)),by kernel_rfl,0,λhq=>⟨rfl,?_⟩,0,λhq=>⟨rfl,?_⟩,⟨λhc=>aC gT mxd ?_,λhc=>aC gT mxd ?_⟩⟩
   ·replace hq:((0:Int)<((x.l.drop i).length:Nat))/\¬(((y.l.drop j).length:Nat):Int)=0:=hq
    show 0<(x.l.drop i).length
    omega
   ·replace hq:((0:Int)<((x.l.drop i).length:Nat))/\¬(((y.l.drop j).length:Nat):Int)=0:=hq
    show 0<(y.l.drop j).length
    omega
   ·replace hc:(((y.l.drop j).length:Nat):Int)=0\/((0:Int)<((x.l.drop i).length:Nat))/\((x.l.drop i).getD 0 default).ix<=((y.l.drop j).getD 0 default).ix:=hc
    have hil:i<es.length:=by omega
    have l1:0<(x.l.drop i).length:=by omega
    refine⟨.seq (sq 9 (List.range 10)),by kernel_rfl,0,⟨rfl,l1⟩,0,⟨rfl,l1⟩,1,⟨rfl,l1⟩,0,λhq=>⟨rfl,?_⟩,⟨λhd=>aC gT mxd ?_,λhd=>aC gT mxd ?_⟩⟩
    ·replace hq:(0:Int)<((y.l.drop j).length:Nat):=hq
     show 0<(y.l.drop j).length
     omega
    ·replace hd:(0:Int)<((y.l.drop j).length:Nat)/\((y.l.drop j).getD 0 default).ix=((x.l.drop i).getD 0 default).ix:=hd
     have hs:=bCl hx hy bx bY (i:=i) (j:=j) hil oM (by rw[qW,qW,(hx.e i hil).1,(hy.e j oM).1] at hd;exact hd.2.symm)
     have l2:0<(y.l.drop j).length:=by omega
     exact⟨0,⟨rfl,l2⟩,1,⟨rfl,l2⟩,dG hM (chg:=λg:Nat×Nat×Option Addr×Nat×Option Addr×Nat×Int×RatM×RatM=>[(7,.c (.s 1 ys.length)),(0,.c (cR ⟨g.2.2.1,g.2.2.2.1,x.l.drop g.1⟩)),(1,.c (cR ⟨g.2.2.2.2.1,g.2.2.2.2.2.1,y.l.drop g.2.1⟩)),(8,.c (iC g.2.2.2.2.2.2.1)),(9,.c (.p 2 0)),(10,.c (.p 3 0))]) (bls:=λg:Nat×Nat×Option Addr×Nat×Option Addr×Nat×Int×RatM×RatM=>(51,0,f.C)::[(65,4,ecs ys),(51,0,g.2.2.2.2.2.2.2.1.C),(51,0,g.2.2.2.2.2.2.2.2.C)]) (fls:=λ_=>[]) (i+1,j+1,slA A1 c1 1 4,c1-1,slA A2 c2 1 4,c2-1,((x.l.drop i).getD 0 default).ix,((x.l.drop i).getD 0 default).v,((y.l.drop j).getD 0 default).v) hs rfl ⟨rfl,rfl,rfl,rfl⟩ trivial ⟨rfl,tJ x.l i _ _,tJ y.l j _ _,rfl,rfl,rfl⟩ bL (aD rfl (aD (nI _) (aD rfl (aD rfl bM)))) rfl⟩
    replace hd:¬((0:Int)<((y.l.drop j).length:Nat)/\((y.l.drop j).getD 0 default).ix=((x.l.drop i).getD 0 default).ix):=hd
    have hs:=bCk hx bx h1 hj (i:=i) (fs:=fs) hil (by
     rcases eY j fs.length with h|h
     ·rw[qW,qW,(hx.e i hil).1,(hy.e j h).1] at hd hc
      exact .inr ⟨h,by omega⟩
     exact .inl oM)
    exact dG hM (chg:=λg:Nat×Nat×Option Addr×Nat×Option Addr×Nat×Int×RatM×RatM=>[(7,.c (.s 1 ys.length)),(0,.c (cR ⟨g.2.2.1,g.2.2.2.1,x.l.drop g.1⟩)),(1,.c (cR ⟨g.2.2.2.2.1,g.2.2.2.2.2.1,y.l.drop g.2.1⟩)),(8,.c (iC g.2.2.2.2.2.2.1)),(9,.c (.p 2 0)),(10,.c (.p 3 0))]) (bls:=λg:Nat×Nat×Option Addr×Nat×Option Addr×Nat×Int×RatM×RatM=>(51,0,f.C)::[(65,4,ecs ys),(51,0,g.2.2.2.2.2.2.2.1.C),(51,0,g.2.2.2.2.2.2.2.2.C)]) (fls:=λ_=>[]) (i+1,j,slA A1 c1 1 4,c1-1,A2,c2,((x.l.drop i).getD 0 default).ix,((x.l.drop i).getD 0 default).v,default) hs rfl ⟨rfl,rfl,rfl,rfl⟩ trivial ⟨rfl,tJ x.l i _ _,rfl,rfl,rfl,rfl⟩ bL (aD rfl (aD (nI _) (aD rfl (aD rfl bM)))) rfl
   replace hc:¬((((y.l.drop j).length:Nat):Int)=0\/((0:Int)<((x.l.drop i).length:Nat))/\((x.l.drop i).getD 0 default).ix<=((y.l.drop j).getD 0 default).ix):=hc
   have hjl:j<fs.length:=by omega
   have hs:=bCm hy bY h1 hi (j:=j) (es:=es) hjl (by
    rcases eY i es.length with h|h
    ·rw[qW,qW,(hx.e i h).1,(hy.e j hjl).1] at hc
     exact .inr ⟨h,by omega⟩
    exact .inl oM)
   have l2:0<(y.l.drop j).length:=by omega
   exact⟨.seq (sq 9 (List.range 10)),by kernel_rfl,0,⟨rfl,l2⟩,0,⟨rfl,l2⟩,1,⟨rfl,l2⟩,dG hM (chg:=λg:Nat×Nat×Option Addr×Nat×Option Addr×Nat×Int×RatM×RatM=>[(7,.c (.s 1 ys.length)),(0,.c (cR ⟨g.2.2.1,g.2.2.2.1,x.l.drop g.1⟩)),(1,.c (cR ⟨g.2.2.2.2.1,g.2.2.2.2.2.1,y.l.drop g.2.1⟩)),(8,.c (iC g.2.2.2.2.2.2.1)),(9,.c (.p 2 0)),(10,.c (.p 3 0))]) (bls:=λg:Nat×Nat×Option Addr×Nat×Option Addr×Nat×Int×RatM×RatM=>(51,0,f.C)::[(65,4,ecs ys),(51,0,g.2.2.2.2.2.2.2.1.C),(51,0,g.2.2.2.2.2.2.2.2.C)]) (fls:=λ_=>[]) (i,j+1,A1,c1,slA A2 c2 1 4,c2-1,((y.l.drop j).getD 0 default).ix,default,((y.l.drop j).getD 0 default).v) hs rfl ⟨rfl,rfl,rfl,rfl⟩ trivial ⟨rfl,rfl,tJ y.l j _ _,rfl,rfl,rfl⟩ bL (aD rfl (aD (nI _) (aD rfl (aD rfl bM)))) rfl⟩
  obtain⟨a,b,hst,qu,qv,ra,rb',hi',hj',hlt⟩:=hs
  replace hst:Stp (es.drop i) (fs.drop j) ix a b (es.drop i') (fs.drop j'):=hst
  replace qu:Rq u a B:=qu
  replace qv:Rq v b B:=qv
  replace hi':i'<=es.length:=hi'
  replace hj':j'<=fs.length:=hj'
  replace hlt:i+j<i'+j':=hlt
  obtain⟨m1,m2⟩:=hmg.step hst
  refine⟨_,rfl,[0],hop u v qu qv ra rb',rfl,rfl,rfl,λg hg=>⟨[],qA g (hg.rq (hrb a b ra rb')),rfl,rfl,rfl,λ_ _=>⟨λhz=>aC gT mxd ?_,λhz=>aC gT mxd ?_⟩⟩⟩
  ·replace hz:¬sgn (op a b).num=0:=hz
   have hne:op a b≠0:=λh=>hz (jF.2 (dU.2 h))
   refine⟨⟨rfl,by show ys.length*4=(ecs ys).length;rw[jP],by show ys.length+1<=maxLen;simp only[maxLen];omega,by show(ys.length+1)*64<=_;omega,λc hc=>?_⟩,pT ⟨ix,g⟩,dG hM (chg:=λg:Nat×Nat×Option Addr×Nat×Option Addr×Nat×List EntM=>[(7,.c (.s 1 g.2.2.2.2.2.2.length)),(0,.c (cR ⟨g.2.2.1,g.2.2.2.1,x.l.drop g.1⟩)),(1,.c (cR ⟨g.2.2.2.2.1,g.2.2.2.2.2.1,y.l.drop g.2.1⟩))]) (bls:=λg:Nat×Nat×Option Addr×Nat×Option Addr×Nat×List EntM=>(51,0,f.C)::[(65,4,ecs g.2.2.2.2.2.2)]) (fls:=λ_=>[]) (i',j',A3,c3,A4,c4,ys++[⟨ix,g⟩]) ⟨⟨hi',hj',?_,_,_,m2 hne,zX hek hg⟩,?_⟩ rfl ⟨rfl,by show(65,4,ecs ys++(⟨ix,g⟩:EntM).C)=_;rw[sJ]⟩ trivial ⟨?_,rfl,rfl⟩ bL (aD rfl (aD (nI _) bM)) rfl⟩
   ·rcases bB.1 hc with hc|hc
    ·exact jV (jU ys c hc)
    exact pT ⟨ix,g⟩ c hc
   ·show(ys++[(⟨ix,g⟩:EntM)]).length<=i'+j'
    rw[aP,cU];omega
   ·show es.length+fs.length-(i'+j')<es.length+fs.length-(i+j)
    omega
   show ys.length+1=(ys++[(⟨ix,g⟩:EntM)]).length
   rw[aP,cU]
  replace hz:¬¬sgn (op a b).num=0:=hz
  have h0':op a b=0:=dU.1 (jF.1 (jZ.1 hz))
  refine dG hM (chg:=λg:Nat×Nat×Option Addr×Nat×Option Addr×Nat×List EntM=>[(7,.c (.s 1 g.2.2.2.2.2.2.length)),(0,.c (cR ⟨g.2.2.1,g.2.2.2.1,x.l.drop g.1⟩)),(1,.c (cR ⟨g.2.2.2.2.1,g.2.2.2.2.2.1,y.l.drop g.2.1⟩))]) (bls:=λg:Nat×Nat×Option Addr×Nat×Option Addr×Nat×List EntM=>(51,0,f.C)::[(65,4,ecs g.2.2.2.2.2.2)]) (fls:=λ_=>[]) (i',j',A3,c3,A4,c4,ys) ⟨⟨hi',hj',show ys.length<=i'+j' by omega,_,_,m1 h0',hek⟩,?_⟩ rfl ⟨rfl,rfl⟩ trivial ⟨rfl,rfl,rfl⟩ bL (aD rfl (aD (nI _) bM)) rfl
  show es.length+fs.length-(i'+j')<es.length+fs.length-(i+j)
  omega
 replace h2:¬((0:Int)<((x.l.drop i).length:Nat)\/(0:Int)<((y.l.drop j).length:Nat)):=h2
 obtain rfl:i=es.length:=by omega
 obtain rfl:j=fs.length:=by omega
 rw[nS,nS] at hmg
 obtain⟨f1,f2,f3⟩:=hmg.fin h0
 exact aC gT mxd ⟨ys,⟨rs,hek,f1,f2,f3⟩,jO rfl ⟨rfl,rfl⟩ bL (aD rfl (aD (nI _) bM)) rfl (aDm (gY f))⟩
theorem bPx (x y:Sl EntM) (f:RatM) {es fs:List En} {B:Nat} {q:FuncId} {op:Rat->Rat->Rat} (hx:Ev x.l es B) (hy:Ev y.l fs B) (bx:rbE es B) (bY:rbE fs B) (h1:1<=B) (ax:Asc es) (ay:Asc fs) (nx:es.length<=4096) (ny:fs.length<=4096) (h0:op 0 0=0)
 (hrb:∀a b,rb a B->rb b B->rb (op a b) 17179869184)
 (hop:∀(u v:RatM) {a b:Rat},Rq u a B->Rq v b B->rb a B->rb b B->Ctr Tryz.prog q [true] [.a u.C,.a v.C,.c (.p 0 0)] [(51,0,f.C)] (λg:RatM=>⟨.a g.C,[(51,0,f.C)],Cr g (op a b)⟩)):
 Ctr Tryz.prog aWi [true] [.c (cR x),.c (cR y),.c (.f q [] [(0,0)])] [(51,0,f.C)] (λg:Sl EntM=>⟨.c (cR g),[(51,0,f.C)],∃rs,Ek g.l rs/\MgR op es fs rs⟩):=
 CtrF.gt (bPw x y f hx hy bx bY h1 ax ay nx ny h0 hrb hop) λys hys _=>aKh tGt 0 1 (λj=>(ys.getD j default).C) rfl rfl (tY ys) (jP ys).symm bL (jU ys) bL λA c _ _=>dG (M:=λ_=>true) (base:=[]) (chg:=λg:Sl EntM=>[(0,.c (cR g))]) (bls:=λ_=>[(51,0,f.C)]) (fls:=λ_=>[]) (λt d ht=>by cases ht) ⟨A,c,ys⟩ ⟨hys,aDm (gY f)⟩ rfl rfl trivial rfl bL (aD rfl bM) rfl
theorem kU {a b:Rat} {B B':Nat} (ha:rb a B) (hb:rb b B'):rb (a*b) (B+B'):=by
 have h:=aGe a b
 simp only[gU] at h
 obtain⟨a1,a2⟩:=ha
 obtain⟨b1,b2⟩:=hb
 exact⟨by omega,by omega⟩
theorem aCj {a b:Rat} {B B':Nat} (ha:rb a B) (hb:rb b B'):rb (a+b) (B+B'+1):=by
 have h:=wI a b
 simp only[gU] at h
 obtain⟨a1,a2⟩:=ha
 obtain⟨b1,b2⟩:=hb
 exact⟨by omega,by omega⟩
theorem xH {a b:Rat} {B B':Nat} (ha:rb a B) (hb:rb b B'):rb (a-b) (B+B'+1):=by
 rw[oC];exact aCj ha (aKt hb)
theorem _root_.Go.Vy.CtrF.args {P:Program} {q:FuncId} {cl:List Bool} {al al':List DV} {bl:BL} {fl:List Fam} {σ:Type} {R:σ->OutF} (h:CtrF P q cl al bl fl R) (hal:∀ρ n w vals,HL ρ n w al' vals->HL ρ n w al vals):CtrF P q cl al' bl fl R:=
 ⟨h.ent,h.clb,λρ w vals hv hD hF=>h.run ρ w vals (hal _ _ _ _ hv) hD hF⟩
theorem _root_.Go.Vy.CtrF.post {P:Program} {q:FuncId} {cl:List Bool} {al:List DV} {bl:BL} {fl:List Fam} {σ τ:Type} {R:σ->OutF} {R':τ->OutF} (h:CtrF P q cl al bl fl R) (φ:σ->τ) (hp:∀g,(R g).C->(R' (φ g)).C) (hd:∀g,(R' (φ g)).d=(R g).d/\(R' (φ g)).bl=(R g).bl/\(R' (φ g)).fl=(R g).fl):CtrF P q cl al bl fl R':=
 ⟨h.ent,h.clb,λρ w vals hv hD hF=>(h.run ρ w vals hv hD hF).mono λe w' ⟨v,he,g,ρ',c1,c2,c3,c4,c5⟩=>by
  obtain⟨d1,d2,d3⟩:=hd g
  exact⟨v,he,φ g,ρ',hp g c1,by rw[d2];exact c2,by rw[d1,d2];exact c3,by rw[d2];exact c4,by rw[d3];exact c5⟩⟩
abbrev aQg:FuncId:=51
theorem bPy:Ent Tryz.prog aQg:=bI func51 rfl kR
theorem bPz:Tryz.prog.funcs[aQg]? =some Tryz.f51:=func51
theorem aKz (x:Sl EntM) {es:List En} {B:Nat} (h:Ev x.l es B) (hb:rbE es B) (h1:1<=B) (hB:B<=17179869184) (ha:Asc es) (hz:aGf es) (hn:es.length<=4096):Ctr Tryz.prog aQg [] [.c (cR x)] [] (λg:Sl EntM=>⟨.c (cR g),[],Ek g.l es⟩):=by
 have hm:=(bPv x fF (es:=es) (fs:=[]) (op:=λa _=>a) (q:=90) h ⟨rfl,λk hk=>absurd hk (aV _)⟩ hb (λe he=>absurd he fA) h1 ha List.Pairwise.nil hn (aF _) rfl (λa b h _=>h.le hB) (λu v {a b} hu _ _ _=>bLl u v (hu.le hB))).args (al':=[.c (cR x),.c (.v (.slice none 0 0)),.c (.f 90 [] [])]) λρ n w vals hv=>(by
  match vals,hv with
  |[v0,v1,v2],⟨h0,h1,h2,h3⟩=>exact⟨h0,.c (aIu ρ n w v1 h1.inv_c),h2,h3⟩)
 refine cY gT bPy bPz rfl rfl rfl bL cD (aC gT mxd ⟨[],aKy x h ha,rfl,rfl,rfl,λ_ _=>⟨[],hm,rfl,rfl,rfl,λg ⟨rs,h2,h3⟩=>⟨g,?_,cM rfl rfl trivial⟩⟩⟩)
 have e:rs=es:=aDe rs es h3.a ha h3.z hz h3.g
 rw[<-e];exact h2
abbrev bCo:FuncId:=109
theorem bWj:Ent Tryz.prog bCo:=bI func109 rfl kR
theorem bWk:Tryz.prog.funcs[bCo]? =some Tryz.f109:=func109
theorem bQa (x y:Sl EntM) (f:RatM) {es fs:List En} {q:Rat} {B Q:Nat} (hx:Ev x.l es B) (hy:Ev y.l fs B) (bx:rbE es B) (bY:rbE fs B) (h1:1<=B) (hf:Rq f q Q) (hq:rb q Q) (hB:B+(Q+B)+1<=17179869184) (ax:Asc es) (ay:Asc fs) (nx:es.length<=4096) (ny:fs.length<=4096):
 Ctr Tryz.prog bCo [] [.c (cR x),.a f.C,.c (cR y)] [] (λg:Sl EntM=>⟨.c (cR g),[],∃rs,Ek g.l rs/\MgR (λa b=>a+q*b) es fs rs⟩):=by
 refine cY gT bWj bWk rfl rfl rfl bL cD (aC gT mxd ⟨[],aKy x hx ax,rfl,rfl,rfl,λ_ _=>⟨[],aKy y hy ay,rfl,rfl,rfl,λ_ _=>⟨[0],bPx x y f (op:=λa b=>a+q*b) hx hy bx bY h1 ax ay nx ny (by show(0:Rat)+q*0=0;rw[iH,cE]) (λa b ha hb=>(aCj ha (kU hq hb)).le) (λu v {a b} hu hv _ rb'=>bWg f u v (hf.le) (hu.le) (hv.le) ((kU hq rb').le)),rfl,rfl,rfl,λg hg=>⟨g,hg,cM rfl rfl trivial⟩⟩⟩⟩)
def gA (x:Sl RatM):CV:=x.R 3 RatM.C default
structure Rl (x:List RatM) (qs:List Rat):Prop where
 ln:x.length=qs.length
 e:∀k,k<qs.length->Cr (x.getD k default) (qs.getD k 0)
def rbL (qs:List Rat) (B:Nat):Prop:=∀q∈qs,rb q B
theorem gD0 {qs:List Rat} {k:Nat} (h:k<qs.length):qs.getD k 0∈qs:=by rw[gd h];exact nR h
theorem Rl.rq {x:List RatM} {qs:List Rat} {B k:Nat} (h:Rl x qs) (hb:rbL qs B) (hk:k<qs.length):Rq (x.getD k default) (qs.getD k 0) B:=(h.e k hk).rq (hb _ (gD0 hk))
def fdF (qs:List Rat):Nat->List En
 |0=>[]
 |k+1=>if qs.getD k 0=0 then fdF qs k else fdF qs k++[((k:Int),qs.getD k 0)]
theorem aHh {qs:List Rat}:∀{k:Nat},∀e∈fdF qs k,∃i:Nat,i<k/\e=((i:Int),qs.getD i 0)/\e.2≠0
 |0,e,h=>absurd h fA
 |k+1,e,h=>by
  unfold fdF at h
  split at h
  ·obtain⟨i,h1,h2⟩:=aHh e h;exact⟨i,by omega,h2⟩
  next hq=>
  rcases bB.1 h with h|h
  ·obtain⟨i,h1,h2⟩:=aHh e h;exact⟨i,by omega,h2⟩
  rw[aT.1 h];exact⟨k,by omega,rfl,hq⟩
theorem aFb {qs:List Rat}:∀k,(fdF qs k).length<=k
 |0=>aI _
 |k+1=>by
  have:=aFb (qs:=qs) k
  unfold fdF
  split
  ·omega
  rw[aP,cU];omega
theorem xI {qs:List Rat}:∀k,Asc (fdF qs k)
 |0=>List.Pairwise.nil
 |k+1=>by
  unfold fdF
  split
  ·exact xI k
  refine hH.2 ⟨xI k,gG _ _,λa ha b hb=>?_⟩
  rw[aT.1 hb]
  obtain⟨i,h1,rfl,_⟩:=aHh a ha
  show(i:Int)<(k:Int)
  omega
theorem aFc {qs:List Rat}:∀(k:Nat) (i:Int),Vm.get (fdF qs k) i=if 0<=i/\i<k then qs.getD i.toNat 0 else 0
 |0,i=>by rw[if_neg oM];rfl
 |k+1,i=>by
  have ih:=aFc (qs:=qs) k i
  unfold fdF
  split
  ·next hq=>
   rw[ih]
   by_cases hi:i=(k:Int)
   ·subst hi;rw[if_neg oM,if_pos oM,bP,hq]
   by_cases h2:0<=i/\i<(k:Int)
   ·rw[if_pos h2,if_pos oM]
   rw[if_neg h2,if_neg oM]
  next hq=>
  rw[mZ,ih]
  show _+((if (k:Int)=i then qs.getD k 0 else 0)+0)=_
  rw[cE]
  by_cases hi:(k:Int)=i
  ·subst hi;rw[if_neg oM,if_pos rfl,if_pos oM,bP,fY]
  rw[if_neg hi,cE]
  by_cases h2:0<=i/\i<(k:Int)
  ·rw[if_pos h2,if_pos oM]
  rw[if_neg h2,if_neg oM]
abbrev bCp:FuncId:=50
theorem cBv:Ent Tryz.prog bCp:=bI func50 rfl kR
theorem cBw:Tryz.prog.funcs[bCp]? =some Tryz.f50:=func50
theorem bWl (x:Sl RatM) {qs:List Rat} {B:Nat} (h:Rl x.l qs) (hb:rbL qs B) (hB:B<=17179869184) (hn:qs.length<=4096):Ctr Tryz.prog bCp [] [.c (gA x)] [] (λys:List EntM=>⟨.c (.s 0 ys.length),[(65,4,ecs ys)],Ek ys (fdF qs qs.length)⟩):=by
 have hl:=h.ln
 refine cY gT cBv cBw rfl rfl rfl bL cD (aC gT mxd (aKg 3 65 4 rfl bL ?_))
 refine eW (λ_=>true) (λg:Nat×List EntM=>[(8,.c (iC g.1)),(3,.c (.s 0 g.2.length)),(7,.c (iC (x.l.length:Nat))),(6,.c (gA x))]) (λg=>[(65,4,ecs g.2)]) (λ_=>[]) (λg=>g.1<=qs.length/\Ek g.2 (fdF qs g.1)) (λg=>qs.length-g.1) λhM=>⟨dG hM (chg:=λg:Nat×List EntM=>[(8,.c (iC g.1)),(3,.c (.s 0 g.2.length)),(7,.c (iC (x.l.length:Nat))),(6,.c (gA x))]) (bls:=λg:Nat×List EntM=>[(65,4,ecs g.2)]) (fls:=λ_=>[]) (0,[]) ⟨aF _,rfl,λk hk=>absurd hk (aV _)⟩ rfl rfl trivial ⟨rfl,rfl,rfl,rfl⟩ bL (aD rfl bM) rfl,λ⟨k,ys⟩ ⟨hk,hy⟩=>aC gT mxd ⟨λh2=>aC gT mxd ?_,λh2=>aC gT mxd ?_⟩⟩
 all_goals
  replace hk:k<=qs.length:=hk
  replace hy:Ek ys (fdF qs k):=hy
 ·replace h2:(k:Int)<(x.l.length:Nat):=h2
  have hkl:k<qs.length:=by omega
  have hyl:ys.length<=k:=by rw[hy.ln];exact aFb k
  have hq:=h.rq hb hkl
  refine⟨k,⟨rfl,by omega⟩,[],qA (x.l.getD k default) (hq.le hB),rfl,rfl,rfl,λ_ _=>⟨λhz=>aC gT mxd ?_,λhz=>aC gT mxd ?_⟩⟩
  ·replace hz:¬sgn (qs.getD k 0).num=0:=hz
   have hne:¬qs.getD k 0=0:=λh=>hz (jF.2 (dU.2 h))
   refine⟨[],xG (x.l.getD k default) (hq.le hB),rfl,rfl,rfl,λg hg=>⟨⟨rfl,by show ys.length*4=(ecs ys).length;rw[jP],by show ys.length+1<=maxLen;simp only[maxLen];omega,by show(ys.length+1)*64<=_;omega,λc hc=>?_⟩,pT ⟨k,g⟩,(k+1:Nat),wi,dG hM (chg:=λg:Nat×List EntM=>[(8,.c (iC g.1)),(3,.c (.s 0 g.2.length)),(7,.c (iC (x.l.length:Nat))),(6,.c (gA x))]) (bls:=λg:Nat×List EntM=>[(65,4,ecs g.2)]) (fls:=λ_=>[]) (k+1,ys++[⟨k,g⟩]) ⟨⟨hkl,?_⟩,show qs.length-(k+1)<qs.length-k by omega⟩ rfl (by show(65,4,ecs ys++(⟨k,g⟩:EntM).C)=_;rw[sJ]) trivial ⟨rfl,?_,rfl,rfl⟩ bL (aD (nI _) bM) rfl⟩⟩
   ·rcases bB.1 hc with hc|hc
    ·exact jV (jU ys c hc)
    exact pT ⟨k,g⟩ c hc
   ·show Ek _ (fdF qs (k+1))
    unfold fdF
    rw[if_neg hne];exact zX hy hg
   show ys.length+1=(ys++[(⟨k,g⟩:EntM)]).length
   rw[aP,cU]
  replace hz:¬¬sgn (qs.getD k 0).num=0:=hz
  have h0:qs.getD k 0=0:=dU.1 (jF.1 (jZ.1 hz))
  refine⟨(k+1:Nat),wi,dG hM (chg:=λg:Nat×List EntM=>[(8,.c (iC g.1)),(3,.c (.s 0 g.2.length)),(7,.c (iC (x.l.length:Nat))),(6,.c (gA x))]) (bls:=λg:Nat×List EntM=>[(65,4,ecs g.2)]) (fls:=λ_=>[]) (k+1,ys) ⟨⟨hkl,?_⟩,show qs.length-(k+1)<qs.length-k by omega⟩ rfl rfl trivial ⟨rfl,rfl,rfl,rfl⟩ bL (aD (nI _) bM) rfl⟩
  show Ek _ (fdF qs (k+1))
  unfold fdF
  rw[if_pos h0];exact hy
 replace h2:¬(k:Int)<(x.l.length:Nat):=h2
 obtain rfl:k=qs.length:=by omega
 exact aC gT mxd ⟨ys,hy,jO rfl rfl bL (aD (nI _) bM) rfl aAu⟩
theorem bWm (x:Sl RatM) {qs:List Rat} {B:Nat} (h:Rl x.l qs) (hb:rbL qs B) (hB:B<=17179869184) (hn:qs.length<=4096):Ctr Tryz.prog bCp [] [.c (gA x)] [] (λg:Sl EntM=>⟨.c (cR g),[],Ek g.l (fdF qs qs.length)⟩):=
 CtrF.gt (bWl x h hb hB hn) λys hys _=>aKh tGt 0 0 (λj=>(ys.getD j default).C) rfl rfl (tY ys) (jP ys).symm bL (jU ys) bL λA c _ _=>dG (M:=λ_=>true) (base:=[]) (chg:=λg:Sl EntM=>[(0,.c (cR g))]) (bls:=λ_=>[]) (fls:=λ_=>[]) (λt d ht=>by cases ht) ⟨A,c,ys⟩ ⟨hys,aAu⟩ rfl trivial trivial rfl bL bM rfl
end Go.Proofs.YtlhdigjbokkbiaaGreat
