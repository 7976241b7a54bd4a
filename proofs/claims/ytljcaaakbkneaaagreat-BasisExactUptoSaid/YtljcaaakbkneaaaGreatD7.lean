/- BasisExact, second form: for arguments of bulk at most 1048576 the law returns true and what came in reads as it did. Part 7 of 7: Qr Yg Yh Yi Yj Qs Ya Yc Yd Ye Vyz Yk Yl Ym Yn Yo Zc Zb. -/
import Derived.Test.YtljcaaakbkneaaaGreatRows
import Derived.JoinedCond
import Derived.KernelRfl
import Derived.WalkKit
import Derived.ProofKit
import Derived.OpenShut
import Derived.ShutString
import Derived.ChangeOld
import Derived.Below
import Derived.Deep.SlicePairs
import Derived.Test.YtljcaaakbkneaaaGreatD6
set_option maxHeartbeats 4000000
set_option linter.unusedVariables false
set_option linter.unusedSimpArgs false
namespace Go.Proofs.YtljcaaakbkneaaaGreat
open Go.Vg _root_.Go.Proofs.Tryz
open Go.Vm
open Go.Vy hiding val
set_option maxRecDepth 20000
theorem Free.sep {Q:Nat->Nat->Rat} {r n:Nat} (h:Free Q r (n+1)):∃x:Nat->Rat,(∀k,k<n->bN (λi=>Q i k*x i) r=0)/\bN (λi=>Q i n*x i) r=1:=by
 have hK:=(eN (P:=λi=>¬Dep (λb i=>Q i b) (n+1) r i) r).1
 obtain⟨K,hK⟩:∃K,Enm (λi=>¬Dep (λb i=>Q i b) (n+1) r i) r (gS (λi=>¬Dep (λb i=>Q i b) (n+1) r i) r).length K:=⟨_,hK⟩
 obtain⟨ht,hf⟩:=hK.square (B:=λb i=>Q i b) h
 rw[ht] at hf hK
 have hT:=hf.tr
 obtain⟨z,⟨a,ha,hza⟩,h3⟩:=aLx (λb k=>if k<n+1 then Q (K k) b else if b=n then 1 else 0) (aS (n+1))
 have h4:∀b,b<n+1->bN (λk=>Q (K k) b*z k) (n+1)+(if b=n then 1 else 0)*z (n+1)=0:=λb hb=>by
  have h5:=h3 b hb
  replace h5:bN (λk=>(if k<n+1 then Q (K k) b else if b=n then 1 else 0)*z k) (n+1)+(if n+1<n+1 then Q (K (n+1)) b else if b=n then 1 else 0)*z (n+1)=0:=h5
  rw[U2 (gC _)] at h5
  refine Eq.trans ?_ h5
  congr 1
  exact aZ λk hk=>by rw[U3 hk]
 have hz:z (n+1)≠0:=λh0=>by
  have h6:=hT z λb hb=>by
   have:=h4 b hb
   rw[h0,bU,bK] at this
   exact this
  rcases bR (cB ha) with h7|h7
  ·exact hza (h6 a h7)
  rw[h7] at hza;exact hza h0
 have hs:∀b,bN (λi=>Q i b*spr (n+1) K (λl=>(-(z (n+1))⁻¹)*z l) i) r=(-(z (n+1))⁻¹)*bN (λk=>Q (K k) b*z k) (n+1):=λb=>by
  rw[zM hK.lt,<-iH]
  exact aZ λk _=>by grind
 refine⟨spr (n+1) K λl=>(-(z (n+1))⁻¹)*z l,λk hk=>?_,?_⟩
 ·have:=h4 k oM
  rw[U2 oM,dL,bK] at this
  rw[hs,this,bU]
 have:=h4 n oM
 rw[U3 U,iY] at this
 have h8:=fM _ hz
 rw[hs]
 grind
theorem Dep.cut {Q:Nat->Nat->Rat} {r c c' j:Nat} (h1:j<c) (h2:j<c'):Dep Q r c j->Dep Q r c' j:=λ⟨y,e1,e2,e3⟩=>⟨y,e1,e2,λi hi=>by
 have e4:=e3 i hi
 rw[vK (m:=j+1) oM λl hl _=>by rw[e2 l oM,bU]] at e4
 rw[vK (m:=j+1) oM λl hl _=>by rw[e2 l oM,bU]]
 exact e4⟩
theorem Dep.cut' {Q:Nat->Nat->Rat} {r c c' j:Nat} (h1:j<c) (h2:j<c'):Dep Q r c j↔Dep Q r c' j:=⟨Dep.cut h1 h2,Dep.cut h2 h1⟩
theorem bGe {Q:Nat->Nat->Rat} {r N m:Nat} {x:Nat->Rat} (hm:m<N) (h0:∀l,l<m->bN (λi=>Q i l*x i) r=0) (h1:bN (λi=>Q i m*x i) r≠0):¬Dep Q r N m:=λ⟨y,y1,y2,y3⟩=>by
 have e1:bN (λl=>y l*bN (λb=>Q b l*x b) r) N=0:=by
  have e2:bN (λl=>y l*bN (λb=>Q b l*x b) r) N=bN (λl=>bN (λb=>y l*(Q b l*x b)) r) N:=aZ λl _=>iH.symm
  rw[e2,qI]
  refine fF λb hb=>?_
  have e3:bN (λl=>y l*(Q b l*x b)) N=x b*bN (λl=>Q b l*y l) N:=by
   rw[<-iH];exact aZ λl _=>by grind
  rw[e3,y3 b hb,bU]
 have e4:bN (λl=>y l*bN (λb=>Q b l*x b) r) N=bN (λl=>if l=m then bN (λb=>Q b m*x b) r else 0) N:=aZ λl hl=>by
  rcases eF l m with h4|h4|h4
  ·rw[h0 l h4,U2 oM,bU]
  ·rw[U3 h4,h4,y1,iY]
  rw[y2 l h4,U2 oM,dL]
 rw[e4,iZ (m:=m) hm λj hj=>U2 hj,U3 U] at e1
 exact h1 e1
theorem Enm.cong {P P':Nat->Prop} {n m:Nat} {e:Nat->Nat} (h:Enm P n m e) (hp:∀j,j<n->(P j↔P' j)):Enm P' n m e:=⟨h.lt,h.mono,λk hk=>(hp _ (h.lt k hk)).1 (h.mem k hk),λj hj hj'=>h.all j hj ((hp j hj).2 hj')⟩
theorem Enm.snoc {P:Nat->Prop} {n m:Nat} {e:Nat->Nat} (h:Enm P n m e) (hp:P n):Enm P (n+1) (m+1) λk=>if k<m then e k else n:=by
 refine⟨λk hk=>?_,λk l hkl hl=>?_,λk hk=>?_,λj hj hj'=>?_⟩
 ·show(if k<m then e k else n)<_
  split
  ·next h1=>have:=h.lt k h1;omega
  omega
 ·show(if k<m then e k else n)<(if l<m then e l else n)
  rw[U3 oM]
  split
  ·next h1=>exact h.mono k l hkl h1
  exact h.lt k oM
 ·show P (if k<m then e k else n)
  split
  ·next h1=>exact h.mem k h1
  exact hp
 rcases bR (cB hj) with h1|h1
 ·obtain⟨k,hk,he⟩:=h.all j h1 hj'
  exact⟨k,Uc,by show(if k<m then e k else n)=j;rw[U3 hk];exact he⟩
 exact⟨m,Uc,by show(if m<m then e m else n)=j;rw[U2 (gC m),h1]⟩
theorem Enm.span' {Q:Nat->Nat->Rat} {r N m t:Nat} {e:Nat->Nat} (h:Enm (λj=>¬Dep Q r N j) m t e) (hm:m<=N) {x:Nat->Rat} (hx:∀k,k<t->bN (λi=>Q i (e k)*x i) r=0):∀l,l<m->bN (λi=>Q i l*x i) r=0:=
 Enm.span (B:=Q) (m:=r) (R:=m) (t:=t) (K:=e) (h.cong λj hj=>not_congr (Dep.cut' oM hj)) hx
theorem aIt {Q:Nat->Nat->Rat} {r N m t:Nat} {e:Nat->Nat} (h:Enm (λj=>¬Dep Q r N j) m t e) (hm:m<N):Free (λi k=>Q i (if k<t then e k else m)) r (t+1)↔¬Dep Q r N m:=by
 constructor
 ·intro hf
  obtain⟨x,h1,h2⟩:=hf.sep
  refine bGe (x:=x) hm (h.span' oM λk hk=>?_) ?_
  ·have:=h1 k hk
   rw[U3 hk] at this
   exact this
  rw[U2 (gC t)] at h2
  rw[h2];decide
 intro hd
 have h2:=(h.snoc (n:=m) hd).cong (P':=λj=>¬Dep Q r (m+1) j) λj hj=>not_congr (Dep.cut' oM hj)
 exact h2.free
theorem bUr {Q:Nat->Nat->Rat} {r N m:Nat} (hm:m<N) (hd:¬Dep Q r N m):∃x:Nat->Rat,(∀l,l<m->bN (λi=>Q i l*x i) r=0)/\bN (λi=>Q i m*x i) r=1:=by
 obtain⟨e,he⟩:∃e,Enm (λj=>¬Dep Q r N j) m (gS (λj=>¬Dep Q r N j) m).length e:=⟨_,(eN m).1⟩
 obtain⟨x,h1,h2⟩:=((aIt he hm).2 hd).sep
 refine⟨x,he.span' oM λk hk=>?_,?_⟩
 ·have:=h1 k hk
  rw[U3 hk] at this
  exact this
 rw[U2 (gC _)] at h2
 exact h2
noncomputable def cdK (p:ProgM) (b:BasM) (k:Nat):Nat:=if k<(wnL p b).length then atN (wnL p b) k else p.c.l.length+atN (lfO b.r p.r.l.length) (k-(wnL p b).length)
noncomputable abbrev cdN (p:ProgM) (b:BasM):Nat:=(wnL p b).length+p.r.l.length
noncomputable abbrev cdQ (p:ProgM) (q:PrQ) (b:BasM) (i k:Nat):Rat:=vcN p q (cdK p b k) i
noncomputable abbrev cdP (p:ProgM) (q:PrQ) (b:BasM) (m:Nat):Prop:=¬Dep (cdQ p q b) p.r.l.length (cdN p b) m
open Classical in
structure GrR (p:ProgM) (q:PrQ) (b g:BasM):Prop where
 cl:g.c.l.length=p.c.l.length
 rl:g.r.l.length=p.r.l.length
 c:∀j,j<p.c.l.length->g.c.l.getD j 0=if ∃m,m<cdN p b/\cdP p q b m/\cdK p b m=j then 2 else stC (p.c.l.getD j U6) b.c.l j
 r:∀i,i<p.r.l.length->g.r.l.getD i 0=if ∃m,m<cdN p b/\cdP p q b m/\cdK p b m=p.c.l.length+i then 2 else dfR (p.r.l.getD i U6).s
section gr
variable {p:ProgM} {q:PrQ} {b g:BasM}
theorem aPm {k:Nat} (hk:k<(wnL p b).length):cdK p b k=atN (wnL p b) k/\cdK p b k<p.c.l.length:=by
 have h1:cdK p b k=atN (wnL p b) k:=U3 hk
 have:=(aAo hk).2.1
 exact⟨h1,by rw[h1];omega⟩
theorem aPn {i:Nat}:cdK p b ((wnL p b).length+i)=p.c.l.length+atN (lfO b.r p.r.l.length) i:=by
 unfold cdK
 rw[U2 oM,fP]
theorem aIu {i:Nat} (hi:i<p.r.l.length):atN (orL p b) (p.r.l.length-1-i)=atN (lfO b.r p.r.l.length) i:=by
 have hl:=wS (st:=b.r) (n:=p.r.l.length)
 have:=bLm (L:=lfO b.r p.r.l.length) (M:=[]) (k:=p.r.l.length-1-i) oM
 rw[dW,hl,show p.r.l.length-1-(p.r.l.length-1-i)=i by omega] at this
 exact this
theorem bOq {i:Nat} (hi:i<p.r.l.length):atN (lfO b.r p.r.l.length) i<p.r.l.length:=by
 rw[<-aIu hi]
 exact(aAn (by rw[tY];omega)).2
theorem aMl {k l:Nat} (hk:k<p.r.l.length) (hl:l<p.r.l.length) (h:atN (orL p b) k=atN (orL p b) l):k=l:=by
 refine aN λhn=>?_
 have h1:p.r.l.length<=p.r.l.length-1:=aDg (n:=p.r.l.length) (m:=p.r.l.length-1) (e:=λi=>i) (f:=λj=>atN (orL p b) (skp l j)) (λi j _ _ e=>e) λi hi=>by
  obtain⟨m,hm,e⟩:=aMh (p:=p) (b:=b) hi
  rw[tY] at hm
  have key:∀m,m<p.r.l.length->m≠l->atN (orL p b) m=i->∃j,j<p.r.l.length-1/\atN (orL p b) (skp l j)=i:=λm hm hml e=>by
   by_cases h5:m<l
   ·exact⟨m,Uc,by unfold skp;rw[U3 h5];exact e⟩
   exact⟨m-1,Uc,by unfold skp;rw[U2 oM,show m-1+1=m by omega];exact e⟩
  by_cases e2:m=l
  ·exact key k hk hn (by rw[h,<-e2];exact e)
  exact key m hm e2 e
 omega
theorem bUs {i l:Nat} (hi:i<p.r.l.length) (hl:l<p.r.l.length):cdQ p q b i ((wnL p b).length+l)=if i=atN (lfO b.r p.r.l.length) l then 1 else 0:=by
 show vcN p q (cdK p b _) i=_
 rw[aPn]
 unfold vcN
 rw[U2 oM]
 by_cases e:i=atN (lfO b.r p.r.l.length) l
 ·rw[U3 e,U3 oM]
 rw[U2 e,U2 oM]
theorem aEv {l:Nat} (hl:l<p.r.l.length) (x:Nat->Rat):bN (λi=>cdQ p q b i ((wnL p b).length+l)*x i) p.r.l.length=x (atN (lfO b.r p.r.l.length) l):=by
 rw[aZ (g:=λi=>x i*if i=atN (lfO b.r p.r.l.length) l then 1 else 0) λi hi=>by rw[bUs hi hl];grind]
 exact aIm (bOq hl)
theorem aMm {i k:Nat} (hk:k<(wnL p b).length):cdQ p q b i k=wnQ p q b i k:=by
 obtain⟨h1,h2⟩:=aPm (p:=p) (b:=b) hk
 show vcN p q (cdK p b k) i=_
 unfold vcN
 rw[U3 h2,h1]
theorem bGf {k:Nat} (hk:k<(wnL p b).length):cdP p q b k↔¬Dep (wnQ p q b) p.r.l.length (wnL p b).length k:=by
 refine not_congr ((Dep.cut' (by show k<cdN p b;unfold cdN;omega) hk).trans ⟨Dep.cg λi l _ hl=>aMm hl,Dep.cg λi l _ hl=>(aMm hl).symm⟩)
theorem bUt {i:Nat} (hi:i<p.r.l.length):cdP p q b ((wnL p b).length+i)↔Dep (ltQ p q b) (gZ p q b).length (orL p b).length (p.r.l.length-1-i):=by
 have hsum:∀(f:Nat->Rat),bN (λk=>f (atN (orL p b) k)) p.r.l.length=bN f p.r.l.length:=λf=>aIl (λj hj=>(aAn (by rw[tY];exact hj)).2) λk l hk hl=>aMl hk hl
 rw[tY]
 constructor
 ·intro hd
  obtain⟨x,h1,h2⟩:=bUr (by show _<cdN p b;unfold cdN;omega) hd
  rw[aEv hi] at h2
  refine⟨λk=>if k<p.r.l.length then x (atN (orL p b) k) else 0,?_,λk hk=>?_,λl hl=>?_⟩
  ·show(if _<_ then _ else _)=_
   rw[U3 oM,aIu hi];exact h2
  ·show(if _<_ then _ else _)=_
   split
   ·next h3=>
    have h4:=h1 ((wnL p b).length+(p.r.l.length-1-k)) oM
    rw[aEv oM,<-aIu oM,show p.r.l.length-1-(p.r.l.length-1-k)=k by omega] at h4
    exact h4
   rfl
  have h3:=(aBz hl).2
  have h4:=h1 (atN (gZ p q b) l) oM
  have h5:=hsum λi=>cdQ p q b i (atN (gZ p q b) l)*x i
  rw[h4] at h5
  refine Eq.trans (aZ λk hk=>?_) h5
  show wnQ p q b (atN (orL p b) k) (atN (gZ p q b) l)*(if k<p.r.l.length then x (atN (orL p b) k) else 0)=cdQ p q b (atN (orL p b) k) (atN (gZ p q b) l)*x (atN (orL p b) k)
  rw[U3 hk,aMm h3]
 rintro⟨z,z1,z2,z3⟩
 have hsp:∀k,k<p.r.l.length->spr p.r.l.length (atN (orL p b)) z (atN (orL p b) k)=z k:=λk hk=>aGz hk λl hl e=>aMl hl hk e
 have hsp2:∀k,k<p.r.l.length->spr p.r.l.length (atN (orL p b)) z (atN (lfO b.r p.r.l.length) k)=z (p.r.l.length-1-k):=λk hk=>by rw[<-aIu hk];exact hsp _ oM
 have hv:∀l,l<(wnL p b).length->bN (λi=>wnQ p q b i l*spr p.r.l.length (atN (orL p b)) z i) p.r.l.length=0:=(zN (p:=p) (q:=q) (b:=b)).span' (aH _) λk hk=>by
  rw[zM λj hj=>(aAn (by rw[tY];exact hj)).2]
  exact z3 k hk
 refine bGe (x:=spr p.r.l.length (atN (orL p b)) z) (by show _<cdN p b;unfold cdN;omega) (λl hl=>?_) ?_
 ·by_cases hlw:l<(wnL p b).length
  ·rw[<-hv l hlw]
   exact aZ λi _=>by rw[aMm hlw]
  obtain⟨l',rfl⟩:∃l',l=(wnL p b).length+l':=⟨l-(wnL p b).length,Uc⟩
  rw[aEv oM,hsp2 _ oM]
  exact z2 _ oM
 rw[aEv hi,hsp2 i hi,z1];decide
theorem GrR.rp (h:GrR p q b g):RpR p q b g:=by
 classical
 have hcol:∀j,j<p.c.l.length->((∃m,m<cdN p b/\cdP p q b m/\cdK p b m=j)↔∃k,k<(gZ p q b).length/\atN (wnL p b) (atN (gZ p q b) k)=j):=λj hj=>by
  constructor
  ·rintro⟨m,h1,h2,h3⟩
   by_cases hm:m<(wnL p b).length
   ·obtain⟨k,hk,e⟩:=(zN (p:=p) (q:=q) (b:=b)).all m hm ((bGf hm).1 h2)
    exact⟨k,hk,by rw[e,<-(aPm hm).1];exact h3⟩
   obtain⟨l',rfl⟩:∃l',m=(wnL p b).length+l':=⟨m-(wnL p b).length,Uc⟩
   rw[aPn] at h3
   omega
  rintro⟨k,hk,e⟩
  have h1:=(aBz hk).2
  exact⟨atN (gZ p q b) k,by show _<_+_;omega,(bGf h1).2 ((zN (p:=p) (q:=q) (b:=b)).mem k hk),by rw[(aPm h1).1];exact e⟩
 have hrow:∀i,i<p.r.l.length->((∃m,m<cdN p b/\cdP p q b m/\cdK p b m=p.c.l.length+i)↔∀k,k<(ltL p q b).length->atN (ltL p q b) k≠i):=λi hi=>by
  obtain⟨a,ha,hae⟩:=aMh (p:=p) (b:=b) hi
  have ha':a<p.r.l.length:=by rw[tY] at ha;exact ha
  have hal:atN (lfO b.r p.r.l.length) (p.r.l.length-1-a)=i:=by
   rw[<-aIu oM,show p.r.l.length-1-(p.r.l.length-1-a)=a by omega];exact hae
  have hra:=bUt (p:=p) (q:=q) (b:=b) (i:=p.r.l.length-1-a) oM
  rw[show p.r.l.length-1-(p.r.l.length-1-a)=a by omega] at hra
  constructor
  ·rintro⟨m,h1,h2,h3⟩ k hk e
   have hmw:¬m<(wnL p b).length:=λhm=>by
    have:=(aPm (p:=p) (b:=b) hm).2
    omega
   obtain⟨l',rfl⟩:∃l',m=(wnL p b).length+l':=⟨m-(wnL p b).length,Uc⟩
   rw[aPn] at h3
   have hl':l'<p.r.l.length:=by replace h1:_<_+_:=h1;omega
   have e1:l'=p.r.l.length-1-a:=by
    have:=aMl (p:=p) (b:=b) (k:=p.r.l.length-1-l') (l:=a) oM ha' (by rw[aIu hl',hae];omega)
    omega
   rw[e1] at h2
   have hd:=hra.1 h2
   rw[bFv hk] at e
   have hk2:k<(ltI p q b).length:=by rw[<-lt_len];exact hk
   have h5:=aMi.lt k hk2
   rw[tY] at h5
   have e2:=aMl (p:=p) (b:=b) h5 ha' (e.trans hae.symm)
   have h6:=aMi.mem k hk2
   rw[e2] at h6
   exact h6 hd
  intro hn
  refine⟨(wnL p b).length+(p.r.l.length-1-a),by show _<_+_;omega,hra.2 (aN λhd=>?_),by rw[aPn,hal]⟩
  obtain⟨k,hk,e⟩:=(aMi (p:=p) (q:=q) (b:=b)).all a ha hd
  have hk2:k<(ltL p q b).length:=by rw[lt_len];exact hk
  exact hn k hk2 (by rw[bFv hk2,e];exact hae)
 refine⟨h.cl,h.rl,λk hk=>?_,λj hj hn=>?_,λk hk=>?_,λi hi hn=>?_⟩
 ·have h1:=bOp hk
  rw[h.c _ h1.1]
  exact U3 ((hcol _ h1.1).2 ⟨k,hk,U⟩)
 ·rw[h.c j hj]
  exact U2 λhh=>by
   obtain⟨k,hk,e⟩:=(hcol j hj).1 hh
   exact hn k hk e
 ·have h1:=(aSc hk).2
  rw[h.r _ h1]
  exact U2 λhh=>(hrow _ h1).1 hh k hk U
 rw[h.r i hi]
 exact U3 ((hrow i hi).2 hn)
end gr
theorem Free.sol {A:Nat->Nat->Rat} {n:Nat} (h:Free A n n) (b:Nat->Rat):∃y:Nat->Rat,∀i,i<n->bN (λj=>A i j*y j) n=b i:=by
 obtain⟨z,⟨a,ha,hza⟩,h3⟩:=aLx (λi k=>if k<n then A i k else b i) (aS n)
 have h4:∀i,i<n->bN (λk=>A i k*z k) n+b i*z n=0:=λi hi=>by
  have h5:=h3 i hi
  replace h5:bN (λk=>(if k<n then A i k else b i)*z k) n+(if n<n then A i n else b i)*z n=0:=h5
  rw[U2 (gC n),aZ (g:=λk=>A i k*z k) λk hk=>by rw[U3 hk]] at h5
  exact h5
 have hz:z n≠0:=λh0=>by
  have h6:=h z λi hi=>by
   have:=h4 i hi
   rw[h0,bU,bK] at this
   exact this
  rcases bR (cB ha) with h7|h7
  ·exact hza (h6 a h7)
  rw[h7] at hza;exact hza h0
 refine⟨λk=>(-(z n)⁻¹)*z k,λi hi=>?_⟩
 have h8:=fM _ hz
 have h9:=h4 i hi
 rw[show bN (λj=>A i j*((-(z n)⁻¹)*z j)) n=(-(z n)⁻¹)*bN (λj=>A i j*z j) n from by
  rw[<-iH];exact aZ λj _=>by grind]
 grind
theorem bLr {n t:Nat} {Q E A:Nat->Nat->Rat} {b:Nat->Rat} {pv:Nat->Nat} (h:Ech Q E n (n+1) (n+1) t pv) (hQ:∀i j,i<n->j<n->Q i j=A i j) (hb:∀i,i<n->Q i n=b i) (hF:Free A n n):t=n/\(∀i,i<n->pv i=i)/\(∀i j,i<n->j<i->E i j=0)/\∀x:Nat->Rat,(∀i,i<n->bN (λj=>A i j*x j) n=b i)->∀i,i<n->bN (λj=>E i j*x j) n=E i n:=by
 have hex:∀j,j<n->∃k,k<t/\pv k=j:=λj hj=>aN λhno=>by
  have hd:¬¬Dep Q n (n+1) j:=λhd=>by
   obtain⟨k,hk,e⟩:=h.enm.all j oM hd
   exact hno ⟨k,hk,e⟩
  have h1:=Dep.cg (Q':=A) (λi k hi hk=>hQ i k hi hk) (Dep.cut (c':=n) oM hj (cR.1 hd))
  exact hF.no hj h1
 have ht:t=n:=by
  have h1:=h.tr
  have h2:n<=t:=aDg (n:=n) (m:=t) (e:=λi=>i) (f:=pv) (λi j _ _ e=>e) hex
  omega
 have hge:∀k,k<t->k<=pv k:=λk=>by
  induction k with
  |zero=>exact λ_=>aB _
  |succ k ih=>
   intro hk
   have h1:=ih oM
   have h2:=h.mono k (k+1) (aS k) hk
   omega
 have hpv:∀k,k<n->pv k=k:=λk=>by
  induction k using Nat.strongRecOn with
  |ind k ih=>
   intro hk
   obtain⟨k',hk',e⟩:=hex k hk
   rcases eF k' k with h1|h1|h1
   ·have:=ih k' h1 oM;omega
   ·rw[h1] at e;exact e
   have h2:=h.mono k k' h1 hk'
   have h3:=hge k oM
   omega
 refine⟨ht,hpv,λi j hi hj=>h.z j i oM hi λk hk hkj=>by
  have:=hge k hk
  omega,λx hx i hi=>?_⟩
 have h1:=(h.nul λj=>if j<n then x j else-1).2 (λi hi=>by
  show bN (λj=>Q i j*(if j<n then x j else-1)) n+Q i n*(if n<n then x n else-1)=0
  rw[U2 (gC n),aZ (g:=λj=>A i j*x j) λj hj=>by rw[U3 hj,hQ i j hi hj],hx i hi,hb i hi]
  grind) i hi
 replace h1:bN (λj=>E i j*(if j<n then x j else-1)) n+E i n*(if n<n then x n else-1)=0:=h1
 rw[U2 (gC n),aZ (g:=λj=>E i j*x j) λj hj=>by rw[U3 hj]] at h1
 grind
def psN (E:Nat->Nat->Rat) (y:Nat->Rat) (n i t:Nat):Rat:=E i n-bN (λj=>if i<j then E i j*y j else 0) t
theorem aXq {E:Nat->Nat->Rat} {y:Nat->Rat} {n i:Nat}:psN E y n i (i+1)=E i n:=by
 unfold psN
 rw[fF λj hj=>U2 oM]
 grind
theorem bGg {E:Nat->Nat->Rat} {y:Nat->Rat} {n i t:Nat} (h:i<t):psN E y n i (t+1)=psN E y n i t-E i t*y t:=by
 unfold psN
 show E i n-(bN _ t+(if i<t then E i t*y t else 0))=_
 rw[U3 h];grind
theorem bLs {E:Nat->Nat->Rat} {y:Nat->Rat} {n i:Nat} (hi:i<n) (hz:∀j,j<i->E i j=0) (h:bN (λj=>E i j*y j) n=E i n):psN E y n i n=E i i*y i:=by
 unfold psN
 rw[<-h,show bN (λj=>E i j*y j) n=bN (λj=>(if i<j then E i j*y j else 0)+(if j=i then E i i*y i else 0)) n from aZ λj hj=>by
  rcases eF j i with h1|h1|h1
  ·rw[hz j h1,U2 oM,U2 oM];grind
  ·rw[h1,U2 (gC i),U3 U];grind
  rw[U3 h1,U2 oM];grind,qZ,iZ (f:=λj=>if j=i then E i i*y i else 0) hi λj hj=>U2 hj,U3 U]
 grind
theorem bUu {E:Nat->Nat->Rat} {y:Nat->Rat} {n i G X:Nat} (hi:i<n) (hE:∀i j,i<n->j<n+1->rb (E i j) G) (hy:∀j,j<n->rb (y j) X) (h1:1<=G) {t:Nat} (ht:t<=n):rb (psN E y n i t) (G+n*(G+X+1)+2):=by
 have h2:=aBw (g:=λj=>if i<j then E i j*y j else 0) (b:=G+X) oM (m:=t) λj hj=>by
  show rb (if i<j then E i j*y j else 0) (G+X)
  split
  ·exact fW (hE i j hi oM) (hy j oM)
  exact wJ oM
 have h3:t*(G+X+1)<=n*(G+X+1):=aT _ ht
 exact(pJ (hE i n hi (aS n)) h2).le oM
abbrev cAa (m:MatM) (n:Nat) (A:Nat->Option Nat) (cap:Nat->Nat) (R:Nat->List RatM):BL:=[(78,0,m.C),(78,0,m.C),(42,1,eA n (hdR A cap R))]
theorem aVr {m:MatM} {n:Nat} {A:Nat->Option Nat} {cap:Nat->Nat} {R:Nat->List RatM}:scB 3 (cAa m n A cap R):=aA U (aA U (aA (bG (bD λ_ _=>U)) aU))
abbrev cDq (b:Sl RatM) (n i:Nat):List (Nat×DV):=[(8,.c (iC i)),(2,.c (.p 0 0)),(6,.c (iC n)),(7,.c (.s 2 n)),(1,.c (dS b))]
structure XsG where
 i:Nat
 A:Nat->Option Nat
 c:Nat->Nat
 R:Nat->List RatM
def xsQ (M:Nat->List En) (bv:Nat->Rat) (n i:Nat):List Rat:=dnL (M i) n++[bv i]
theorem cAb {n i:Nat} {A:Nat->Option Nat} {cap:Nat->Nat} {R:Nat->List RatM} {A':Option Nat} {c':Nat} {g:RatM}:(eA n λj=>if j=i then CV.h A' ((R i).length+1) c' else hdR A cap R j)=eA n (hdR (upd A i A') (upd cap i c') (upd R i (R i++[g]))):=gM λj _=>by
 by_cases h:j=i
 ·subst h;simp only[if_true,hdR,bF,aD];rfl
 simp only[U2 h,hdR,aY h]
theorem bUv {T n i:Nat} {A:Nat->Option Nat} {cap:Nat->Nat} {R:Nat->List RatM} {A':Option Nat} {c':Nat} {g:RatM}:(⟨T,3,n,upd A i A',upd cap i c',upd (λj=>fl RatM.C U6 (R j)) i (fl RatM.C U6 (R i)++g.C)⟩:Fam)=⟨T,3,n,upd A i A',upd cap i c',λj=>fl RatM.C U6 (upd R i (R i++[g]) j)⟩:=by
 congr 1
 funext j
 by_cases h:j=i
 ·subst h;rw[bF,bF,aLb]
 rw[aY h,aY h]
abbrev bUw (m:MatM) (n:Nat) (Z:Nat->RatM):BL:=[(78,0,m.C),(78,0,m.C),(42,1,[]),(53,3,rtC n Z)]
theorem aVs {m:MatM} {n:Nat} {Z:Nat->RatM}:scB 4 (bUw m n Z):=aA U (aA U (aA U (aA (bG cD) aU)))
abbrev cAc (d:Sl (Sl RatM)) (n:Nat) (z:Int):List (Nat×DV):=[(13,.c (iC z)),(6,.c (iC n)),(9,.c (yC d)),(12,.c (.s 3 n))]
abbrev cAd (m:MatM) (n:Nat) (Z:Nat->RatM) (s:RatM):BL:=[(78,0,m.C),(78,0,m.C),(42,1,[]),(53,3,rtC n Z),(53,0,s.C)]
theorem aVt {m:MatM} {n:Nat} {Z:Nat->RatM} {s:RatM}:scB 5 (cAd m n Z s):=aA U (aA U (aA U (aA (bG cD) (aA U aU))))
abbrev cDr (d:Sl (Sl RatM)) (n i t:Nat):List (Nat×DV):=[(15,.c (iC t)),(14,.c (.p 4 0)),(13,.c (iC i)),(6,.c (iC n)),(9,.c (yC d)),(12,.c (.s 3 n))]
theorem bGh (m:MatM) (b:Sl RatM) {M:Nat->List En} {n B X:Nat} {bv:Nat->Rat} (h:Mr m M n n B) (hb:rbM M n B) (h1:1<=B) (hn:n<=12) (hbl:b.l.length=n) (hbv:∀k,k<n->Rq (b.l.getD k U6) (bv k) B/\rb (bv k) B) (hF:Free (enM M) n n) (hX:∀x:Nat->Rat,(∀i,i<n->bN (λj=>enM M i j*x j) n=bv i)->∀j,j<n->rb (x j) X) (hB:bd B (n-1)+n*(bd B (n-1)+X+1)+2<=4398046511104):Ctr pgQ 76 [] [.a m.C,.c (dS b)] [] (λg:Sl RatM×(Nat->Rat)=>⟨.t [.c (dS g.1),.c (.v (.bool true))],[],(g.1.l.length=n/\∀j,j<n->Cr (g.1.l.getD j U6) (g.2 j))/\∀i,i<n->bN (λj=>enM M i j*g.2 j) n=bv i⟩):=by
 obtain⟨mr,mc,md⟩:=m
 obtain rfl:mr=(n:Nat):=h.r
 obtain rfl:mc=(n:Nat):=h.c
 have hBB:B<=4398046511104:=by have:B<=bd B (n-1):=mV (aB _);omega
 refine cw func76 (⟨[],bNl _ h hb h1 hBB oM oM,U,U,U,λ⟨A0,cap0,R0⟩ hR0=>?_⟩)
 replace hR0:∀i,i<n->Rl (R0 i) (dnL (M i) n):=hR0
 show Sd _ _ _ _ _ _
 refine bX (λ_=>true) (λg:XsG=>cDq b n g.i) (λg=>cAa ⟨n,n,md⟩ n g.A g.c g.R) (λg=>[elF n g.A g.c g.R]) (λg=>g.i<=n/\(∀j,j<g.i->Rl (g.R j) (xsQ M bv n j))/\∀j,g.i<=j->j<n->Rl (g.R j) (dnL (M j) n)) (λg=>n-g.i) λhM=>⟨hM ⟨0,A0,cap0,R0⟩ ⟨aB _,λj hj=>U4 hj (aF _),λj _ hj=>hR0 j hj⟩ U ⟨U,U,U⟩ ⟨U,tV⟩ rS bL aVr U,λ⟨i,A,cap,R⟩ ⟨hi,hR,hR'⟩=>vk ⟨λh2=>vk ?_,λh2=>vk ?_⟩⟩
 all_goals
  replace hi:i<=n:=hi
  replace hR:∀j,j<i->Rl (R j) (xsQ M bv n j):=hR
  replace hR':∀j,i<=j->j<n->Rl (R j) (dnL (M j) n):=hR'
 ·replace h2:(i:Int)<(n:Nat):=h2
  have hin:i<n:=Uc
  have hrl:=hR' i (aH _) hin
  have hln:(R i).length=n:=hrl.ln.trans sA
  refine⟨.seq (sqX [12,14] 15),U0,i,⟨U,hin,cS hin⟩,_,eD hin,i,⟨U,Uc⟩,[],gE (b.l.getD i U6) ((hbv i hin).1.le),U,U,U,λg hg=>⟨0,i,⟨U,hin,U,U,?_,?_,?_,?_⟩,λA' c'=>⟨i,⟨U,hin,cS hin⟩,_,gX (c:=.h A' ((R i).length+1) c') (Q:=λj=>if j=i then .h A' ((R i).length+1) c' else hdR A cap R j) hin (λj _=>U),(i+1:Nat),wi,?_⟩⟩⟩
  ·exact(aAi (f:=RatM.C) (d:=U6) (L:=R i) (e:=3) λ_=>U).symm
  ·show(R i).length+1<=maxLen;simp only[maxLen];omega
  ·show((R i).length+1)*56<=_;omega
  ·exact gF g
  refine hM ⟨i+1,upd A i A',upd cap i c',upd R i (R i++[g])⟩ ⟨⟨hin,λj hj=>?_,λj hj hjn=>?_⟩,show n-(i+1)<n-i by omega⟩ U ⟨U,U,?_⟩ ⟨?_,tV⟩ rS bL aVr U
  ·show Rl (upd R i (R i++[g]) j) (xsQ M bv n j)
   replace hj:j<i+1:=hj
   by_cases e:j=i
   ·subst e;rw[bF];exact bJt hrl hg
   rw[aY e];exact hR j oM
  ·show Rl (upd R i (R i++[g]) j) _
   replace hj:i+1<=j:=hj
   rw[aY oM];exact hR' j oM hjn
  ·exact U5 (λl:List CV=>((42,1,l):TypeId×Nat×List CV)) cAb
  exact bUv
 replace h2:¬(i:Int)<(n:Nat):=h2
 obtain rfl:i=n:=Uc
 have lR:∀j,j<i->(R j).length=i+1:=λj hj=>by
  have:=(hR j hj).ln
  rw[this]
  unfold xsQ
  rw[aD,sA];rfl
 have hfr:∀j,j<i->FrC (elF i A cap R) (hdR A cap R j) (dS (rwS A cap R j)):=λj hj=>bDf j hj
 show Sd _ _ _ _ _ _
 refine jQ tSd 2 0 (eA i λj=>dS (rwS A cap R j)) U U U (by rw[dD,dD]) (aCt hfr) ?_
 refine aOe tSd 7 2 (λj=>[dS ((sQ (rwS A cap R) i).getD j cG)]) U U aLd (by rw[dD,bE]) bL (bD λ_ _=>U) bL λA2 c2 _ _=>?_
 show Sd _ _ _ _ _ _
 rw[aLe]
 have rr:Rr (⟨A2,c2,sQ (rwS A cap R) i⟩:Sl (Sl RatM)) (xsQ M bv i) i (i+1):=⟨zK,λj hj=>by
  rw[yD hj]
  exact⟨hR j hj,by unfold xsQ;rw[aD,sA];rfl⟩⟩
 have hq:∀j,j<i->rbL (xsQ M bv i j) B:=λj hj q hq=>by
  rcases aO.1 hq with hq|hq
  ·unfold dnL at hq
   obtain⟨k,hk,rfl⟩:=bZ.1 hq
   exact mK (h.ok j hj).1.1 (hb j hj) h1
  rw[aE.1 hq];exact(hbv j hj).2
 refine vk ⟨((i+1:Nat):Int),wi (h:=⟨Uc,Uc,Uc⟩),[],bNr _ rr hq h1 oM oM oM,U,U,U,λg hg=>?_⟩
 have haug:=bLr hg.o (A:=enM M) (b:=bv) (λr j hr hj=>?_) (λr hr=>?_) hF
 ·obtain⟨ht,hpv,hz,hlaw⟩:=haug
  obtain⟨y,hy⟩:=hF.sol bv
  have hyX:=hX y hy
  have hE:=hlaw y hy
  have hgb:∀r j,r<i->j<i+1->rb (g.E r j) (bd B (i-1)):=λr j hr hj=>(hg.b r j hr hj).le (mV oM)
  obtain⟨G,hG⟩:∃G,G=bd B (i-1):=⟨_,U⟩
  rw[<-hG] at hB hgb
  have hEb:=hgb
  have hps:∀r,r<i->∀t,t<=i->rb (psN g.E y i r t) (G+i*(G+X+1)+2):=λr hr t ht=>bUu hr hEb hyX (by rw[hG];exact wQ h1 _) ht
  have hpl:g.p.l.length=i:=by rw[hg.p,ht];unfold nL;rw[aK,fJ]
  have hpa:∀k,k<i->g.p.l.getD k 0=(k:Nat):=λk hk=>by
   rw[hg.p,ht]
   have:=yF (f:=g.pv) hk
   rw[this,hpv k hk]
  refine⟨((i:Int)-1),λ_=>wi (h:=⟨U,Uc,Uc⟩),i-1,λh3=>⟨?_,?_⟩,((i:Int)-1),λ_=>wi (h:=⟨U,Uc,Uc⟩),λh3=>?_,λh3=>vk ?_⟩
  ·have h4:(0:Int)<(i:Nat):=h3.1
   show(i:Int)-1=((i-1:Nat):Int)
   omega
  ·have h4:(0:Int)<(i:Nat):=h3.1
   show i-1<g.p.l.length
   omega
  ·replace h3:(g.p.l.length:Int)<(i:Nat)\/((0:Int)<(i:Nat)/\g.p.l.getD (i-1) 0≠(i:Int)-1):=h3
   rcases h3 with h3|⟨h3,h4⟩
   ·omega
   rw[hpa (i-1) oM] at h4
   omega
  refine⟨i,⟨U,U,by show 56*i<=_;omega,by simp only[maxLen];omega⟩,((i:Int)-1),wi (h:=⟨U,Uc,Uc⟩),?_⟩
  show Sd _ _ _ _ _ _
  refine gJ tSd 3 (rtC i λ_=>U6) U jI.1 jI.2 ?_
  refine bX (λ_=>true) (λg':Nat×(Nat->RatM)=>cAc g.d i ((i:Int)-1-(g'.1:Nat))) (λg'=>bUw ⟨i,i,md⟩ i g'.2) (λ_=>[]) (λg'=>g'.1<=i/\∀j,i-g'.1<=j->j<i->Cr (g'.2 j) (y j)) (λg'=>i-g'.1) λhM2=>⟨hM2 (0,λ_=>U6) ⟨aB _,λj hj hji=>Uc⟩ U ⟨U,U,?_,U⟩ U1 ⟨?_,U,U,U⟩ bL aVs U,λ⟨k,Z⟩ ⟨hk,hZ⟩=>vk ⟨λh4=>vk ?_,λh4=>vk ?_⟩⟩
  ·rfl
  ·show(i:Int)-1=(i:Int)-1-((0:Nat):Int);omega
  all_goals
   replace hk:k<=i:=hk
   replace hZ:∀j,i-k<=j->j<i->Cr (Z j) (y j):=hZ
  ·replace h4:(0:Int)<=(i:Int)-1-(k:Nat):=h4
   obtain⟨r,hr⟩:∃r:Nat,(i:Int)-1-(k:Nat)=(r:Nat):=⟨i-1-k,Uc⟩
   have hri:r<i:=Uc
   have hgd:=hg.d
   have hgl:=hg.l r hri
   have hGX:1*(G+X+1)<=i*(G+X+1):=aT _ oM
   refine⟨r,⟨hr,show r<g.d.l.length by omega⟩,i,⟨U,show i<(g.d.l.getD r cG).l.length by omega⟩,((r+1:Nat):Int),wi (h:=⟨by rw[hr];omega,Uc,Uc⟩),?_⟩
   show Sd _ _ _ _ _ _
   refine bX (λ_=>true) (λg':Nat×RatM=>cDr g.d i r g'.1) (λg'=>cAd ⟨i,i,md⟩ i Z g'.2) (λ_=>[]) (λg'=>(r+1<=g'.1/\g'.1<=i)/\Cr g'.2 (psN g.E y i r g'.1)) (λg'=>i-g'.1) λhM3=>⟨hM3 (r+1,(g.d.l.getD r cG).l.getD i U6) ⟨⟨aH _,Uc⟩,by rw[aXq];exact hg.e r i hri oM⟩ U rS trivial ⟨U,U,hr,U,U,U⟩ bL aVt U,λ⟨t,s⟩ ⟨⟨ht1,ht2⟩,hs⟩=>vk ⟨λh5=>vk ?_,λh5=>vk ?_⟩⟩
   all_goals
    replace ht1:r+1<=t:=ht1
    replace ht2:t<=i:=ht2
    replace hs:Cr s (psN g.E y i r t):=hs
   ·replace h5:(t:Int)<(i:Nat):=h5
    have hti:t<i:=Uc
    have hEr:=hEb r t hri oM
    have hyt:=hyX t hti
    exact⟨.seq (sqX [13,14] 15),U0,r,⟨U,show r<g.d.l.length by omega⟩,t,⟨U,show t<(g.d.l.getD r cG).l.length by omega⟩,t,⟨U,hti,eO hti⟩,_,kM hti,[],aGt ((g.d.l.getD r cG).l.getD t U6) (Z t) (Cr.rq (hg.e r t hri oM) (hEr.le oM)) (Cr.rq (hZ t oM hti) (hyt.le oM)),U,U,U,λm hm=>⟨[],aGi s m (Cr.rq hs ((hps r hri t ht2).le oM)) (Cr.rq hm ((fW hEr hyt).le oM)),U,U,U,λd hd=>⟨(t+1:Nat),wi,hM3 (t+1,d) ⟨⟨⟨Uc,Uc⟩,by
     show Cr d (psN g.E y i r (t+1))
     rw[bGg oM];exact hd⟩,show i-(t+1)<i-t by omega⟩ U rS trivial rS bL aVt U⟩⟩⟩
   replace h5:¬(t:Int)<(i:Nat):=h5
   obtain rfl:t=i:=Uc
   have hnz:g.E r r≠0:=by
    have:=hg.o.piv r (by rw[ht];exact hri)
    rwa [hpv r hri] at this
   have hpe:=bLs hri (λj hj=>hz r j hri hj) (hE r hri)
   have hEr:=hEb r r hri oM
   refine vk ⟨.seq (sqX [10,12] 13),U0,r,⟨U,show r<g.d.l.length by omega⟩,r,⟨U,show r<(g.d.l.getD r cG).l.length by omega⟩,[],aKl s ((g.d.l.getD r cG).l.getD r U6) (Cr.rq hs ((hps r hri t (aH _)).le oM)) (Cr.rq (hg.e r r hri oM) (hEr.le oM)) hnz,U,U,U,λd hd=>⟨r,⟨U,hri,eO hri⟩,_,fQ hri,((r:Int)-1),wi (h:=⟨U,Uc,Uc⟩),iP (M:=λ_=>true) (base:=[]) (λt d ht=>by cases ht) (chg:=λg':Nat×(Nat->RatM)=>cAc g.d t ((t:Int)-1-(g'.1:Nat))) (bls:=λg'=>bUw ⟨t,t,md⟩ t g'.2) (fls:=λ_=>[]) (k+1,upd Z r d) ⟨⟨by show k+1<=t;omega,λj hj hjt=>?_⟩,show t-(k+1)<t-k by omega⟩ U rS trivial ⟨?_,U,U,U⟩ bL aVs U⟩⟩
   ·show Cr (upd Z r d j) (y j)
    replace hj:t-(k+1)<=j:=hj
    by_cases e:j=r
    ·subst e
     rw[bF]
     rw[hpe] at hd
     have h8:=fM _ hnz
     rw[show y j=g.E j j*y j/g.E j j from by rw[iJ];grind]
     exact hd
    rw[aY e];exact hZ j oM hjt
   show(r:Int)-1=(t:Int)-1-((k+1:Nat):Int)
   omega
  replace h4:¬(0:Int)<=(i:Int)-1-(k:Nat):=h4
  obtain rfl:k=i:=Uc
  show Sd _ _ _ _ _ _
  refine nS 12 3 (λj=>((fZ Z k).getD j U6).C) U U (λj hj=>nZ j hj) (by rw[jE (P:=λj=>(Z j).C) (e:=3) λ_ _=>U]) bL cD bL λA3 c3 _ _=>⟨λc hc=>(by cases hc),?_⟩
  show Sd _ _ _ _ _ _
  refine vk ⟨(⟨A3,c3,fZ Z k⟩,y),⟨⟨jS,λj hj=>?_⟩,hy⟩,aI ⟨qH,U⟩ U tV⟩
  show Cr ((fZ Z k).getD j U6) (y j)
  rw[nC hj];exact hZ j oM hj
 ·show(dnL (M r) i++[bv r]).getD j 0=Vm.get (M r) (j:Nat)
  rw[aC,aV (by rw[sA];exact hj),<-aC]
  exact aRe hj
 show(dnL (M r) i++[bv r]).getD i 0=bv r
 rw[aC,bH (by rw[sA];exact aH _),sA,gH];rfl
abbrev aoB (r:RowM) (n:Nat) (X:Nat->RatM) (s:RatM):BL:=[(53,3,rtC n X),(59,0,r.C),(53,0,vG),(53,0,s.C)]
theorem bGi {r:RowM} {n:Nat} {X:Nat->RatM} {s:RatM}:scB 4 (aoB r n X s):=aA (bG cD) (aA U (aA U (aA U aU)))
abbrev aoG (n i:Nat):List (Nat×DV):=[(6,.c (iC i)),(2,.c (.p 1 0)),(5,.c (.p 3 0)),(4,.c (.p 2 0)),(1,.c (.s 0 n))]
theorem cAe (r:RowM) (n:Nat) (X:Nat->RatM) {b:Rat} {es:List En} {qs:List Rat} {B Bx:Nat} (h:RwX r ⟨none,0,fZ X n⟩ b es qs B Bx):Ctr pgQ 75 [true] [.a r.C,.c (.s 0 n)] [(53,3,rtC n X)] (λg:RatM=>⟨.a g.C,[(53,3,rtC n X)],Cr g (dtl es (lQ qs))⟩):=by
 have hl:=h.r.e.ln
 have hx:n=qs.length:=by
  have:=h.x.ln
  rw[show((⟨none,0,fZ X n⟩:Sl RatM).l).length=n from jS] at this
  exact this
 have hh:=h.h
 have hBB:B+Bx+1<=4398046511104:=by rw[dH] at hh;omega
 have hnl:es.length<=4398046511104:=by
  have:=eJ (es.length+1) (show 0<B+Bx+1 by omega)
  omega
 refine gA gT (eo func75) func75 U U U bL (aAg cD) (vk ⟨[],xZ,U,U,U,λz hz=>?_⟩)
 show Sd _ _ _ _ _ _
 refine bX (λ_=>true) (λg:Nat×RatM=>aoG n g.1) (λg=>aoB r n X g.2) (λ_=>[]) (λg=>g.1<=es.length/\Cr g.2 (dtl (es.take g.1) (lQ qs))) (λg=>es.length-g.1) λhM=>⟨hM (0,z) ⟨aB _,hz⟩ U rS trivial rS bL bGi U,λ⟨i,s⟩ ⟨hi,hs⟩=>vk ⟨λh3=>vk ?_,λh3=>vk ?_⟩⟩
 all_goals
  replace hi:i<=es.length:=hi
  replace hs:Cr s (dtl (es.take i) (lQ qs)):=hs
 ·replace h3:(i:Int)<(r.e.l.length:Nat):=h3
  have hil:i<es.length:=Uc
  have hir:i<r.e.l.length:=Uc
  obtain⟨j,e1,e2,e3,e4,e5,e6,e7⟩:=h.at hil
  have hjn:j<n:=Uc
  replace e4:Cr (X j) (lQ qs j):=by
   have:(⟨none,0,fZ X n⟩:Sl RatM).l.getD j U6=X j:=nC hjn
   rwa [this] at e4
  have hsb:=h.sum hi
  have hle:i*(B+Bx+1)<=(es.length+1)*(B+Bx+1):=aT _ oM
  have hdn:=aBv (x:=lQ qs) hil
  rw[e7] at hdn
  refine⟨.seq (sqX [17,18] 19),U0,i,⟨U,hir⟩,i,⟨U,hir⟩,j,⟨e1,hjn,eO hjn⟩,_,kM hjn,[],aGt (r.e.l.getD i U6).v (X j) (e3.le oM) (e4.rq (e5.le oM)),U,U,U,λm hm=>⟨[],aGh s m (hs.rq (hsb.le oM)) (Cr.rq hm ((fW e6 e5).le oM)),U,U,U,λg hg=>?_⟩⟩
  exact⟨(i+1:Nat),wi,hM (i+1,g) ⟨⟨hil,by rw[hdn];exact hg⟩,show es.length-(i+1)<es.length-i by omega⟩ U rS trivial rS bL bGi U⟩
 replace h3:¬(i:Int)<(r.e.l.length:Nat):=h3
 obtain rfl:i=es.length:=Uc
 rw[cQ] at hs
 exact vk ⟨s,hs,fH U U bL (aA (bG cD) aU) U (aAg cD)⟩
theorem bGj {P P':Prop} [Decidable P] [Decidable P'] (h:P↔P'):LeC (.b P inferInstance) (.b P' inferInstance):=λD n w x hx=>by
 cases hx
 rw[show decide P=decide P' from decide_eq_decide.2 h]
 exact Rc.b _ _
theorem aMn {l:List Int} {j:Nat}:stN l j=2↔l.getD j 0=2:=by
 unfold stN
 by_cases h:j<l.length
 ·rw[U3 h]
 rw[U2 h,aC,qF oM]
 exact⟨λh=>Uc,λh=>by change (0:Int)=2 at h;omega⟩
theorem bGk {P:Nat->Prop} {n m:Nat} (h:∀j,P j->j<m):gS P n=gS P (min n m):=by
 by_cases hn:n<=m
 ·rw[eZ hn]
 rw[Nat.min_eq_right oM]
 have:∀k,gS P (m+k)=gS P m:=λk=>by
  induction k with
  |zero=>rfl
  |succ k ih=>rw[show m+(k+1)=(m+k)+1 by omega,jO λhh=>by have:=h _ hh;omega,ih]
 have h2:=this (n-m)
 rw[show m+(n-m)=n by omega] at h2
 exact h2
noncomputable def cdA (p:ProgM) (b:BasM):Nat->List Int
 |0=>gS (λj=>stN b.c.l j=2) p.c.l.length
 |t+1=>cdA p b t++(gS (λi=>stN b.r.l i=2↔t=0) p.r.l.length).map λz=>(p.c.l.length:Int)+z
noncomputable def cdI (p:ProgM) (b:BasM) (t i:Nat):List Int:=cdA p b t++(gS (λi=>stN b.r.l i=2↔t=0) i).map λz=>(p.c.l.length:Int)+z
theorem aVu (p:ProgM) (b:BasM) (t:Nat):cdI p b t p.r.l.length=cdA p b (t+1):=rfl
theorem aPo {p:ProgM} {b:BasM} {t:Nat}:cdI p b t 0=cdA p b t:=by
 unfold cdI
 exact dW _
theorem bLt {p:ProgM} {b:BasM} {t i:Nat} (h:stN b.r.l i=2↔t=0):cdI p b t (i+1)=cdI p b t i++[(p.c.l.length:Int)+(i:Nat)]:=by
 unfold cdI
 rw[gY (P:=λi=>stN b.r.l i=2↔t=0) h,bA,cW];rfl
theorem bUx {p:ProgM} {b:BasM} {t i:Nat} (h:¬(stN b.r.l i=2↔t=0)):cdI p b t (i+1)=cdI p b t i:=by
 unfold cdI
 rw[jO (P:=λi=>stN b.r.l i=2↔t=0) h]
theorem aMo {p:ProgM} {b:BasM} {i:Nat}:∀t,(cdI p b t i).length<=p.c.l.length+t*p.r.l.length+i
 |0=>by
  unfold cdI cdA
  rw[aD,aK]
  have h1:=fA (P:=λj=>stN b.c.l j=2) (k:=p.c.l.length)
  have h2:=fA (P:=λi=>stN b.r.l i=2↔0=0) (k:=i)
  omega
 |t+1=>by
  unfold cdI
  rw[aD,aK]
  have h1:=aMo (p:=p) (b:=b) (i:=p.r.l.length) t
  rw[aVu] at h1
  have h2:=fA (P:=λi=>stN b.r.l i=2↔t+1=0) (k:=i)
  rw[dE,iX]
  omega
noncomputable abbrev bsL (p:ProgM) (b:BasM) (j:Nat):List Int:=(List.range j).map λj=>stC (p.c.l.getD j U6) b.c.l j
theorem cAf {p:ProgM} {b:BasM} {j:Nat} {v:Int} (hv:v=stC (p.c.l.getD j U6) b.c.l j):bsL p b j++[v]=bsL p b (j+1):=by
 unfold bsL
 rw[gR,bA,hv];rfl
abbrev drL (p:ProgM) (j:Nat):List Int:=(List.range j).map λj=>dfR (p.r.l.getD j U6).s
theorem bOr {p:ProgM} {j:Nat}:drL p j++[dfR (p.r.l.getD j U6).s]=drL p (j+1):=by
 unfold drL
 rw[gR,bA];rfl
theorem aDl (L:List Int):flatR L.length (λj=>[iC (L.getD j 0)])=L.map iC:=by
 have h:∀n,n<=L.length->flatR n (λj=>[iC (L.getD j 0)])=(L.take n).map iC:=λn=>by
  induction n with
  |zero=>exact λ_=>U
  |succ n ih=>
   intro hn
   rw[gL,ih oM,dF,bA]
   congr 1
   rw[aC,aG oM]
   rfl
 rw[h _ (aH _),cQ]
theorem aVv {P Q:Prop} [Decidable P] [Decidable Q] (h:P↔Q) (a b:Int):(if P then a else b)=if Q then a else b:=by
 by_cases hp:P
 ·rw[U3 hp,U3 (h.1 hp)]
 rw[U2 hp,U2 λhq=>hp (h.2 hq)]
section cd
variable {p:ProgM} {q:PrQ} {b:BasM}
theorem bGl:cdA p b 2=wnL p b++(lfO b.r p.r.l.length).map λz=>(p.c.l.length:Int)+z:=by
 have e0:gS (λj=>stN b.c.l j=2) p.c.l.length=wnL p b:=by
  rw[show gS (λj=>stN b.c.l j=2) p.c.l.length=gS (λj=>b.c.l.getD j 0=2) p.c.l.length from sV _ λj _=>aMn]
  refine bGk λj hj=>aN λhn=>?_
  rw[aC,qF oM] at hj
  change (0:Int)=2 at hj
  omega
 have hbr:∀i,stN b.r.l i=2↔rA b.r i:=λi=>by
  rw[aMn]
  refine⟨λhi=>⟨aN λhn=>?_,hi⟩,λhi=>hi.2⟩
  rw[aC,qF oM] at hi
  change (0:Int)=2 at hi
  omega
 have e1:gS (λi=>stN b.r.l i=2↔0=0) p.r.l.length=gS (rA b.r) p.r.l.length:=sV _ λi _=>by rw[hbr];simp
 have e2:gS (λi=>stN b.r.l i=2↔1=0) p.r.l.length=gS (λi=>¬rA b.r i) p.r.l.length:=sV _ λi _=>by rw[hbr];simp
 show(gS _ _++List.map _ (gS (λi=>stN b.r.l i=2↔0=0) _))++List.map _ (gS (λi=>stN b.r.l i=2↔1=0) _)=_
 rw[e0,e1,e2]
 unfold lfO
 rw[bA,cW]
theorem aMp:(cdA p b 2).length=cdN p b:=by
 rw[bGl,aD,aK,wS]
theorem bUy {m:Nat} (hm:m<cdN p b):(cdA p b 2).getD m 0=(cdK p b m:Nat):=by
 rw[bGl]
 unfold cdK
 by_cases h:m<(wnL p b).length
 ·rw[U3 h,aC,aV h,<-aC]
  exact(aAo h).1
 have hi:m-(wnL p b).length<(lfO b.r p.r.l.length).length:=by rw[wS];unfold cdN at hm;omega
 have h2:=(bUg (n:=p.r.l.length) (λz hz=>aVo hz) hi).1
 rw[U2 h,aC,bH oM,dQ]
 rw[aC] at h2
 cases e:(lfO b.r p.r.l.length)[m-(wnL p b).length]? with
 |none=>rw[tM] at e;omega
 |some z=>
  rw[e] at h2
  change z=_ at h2
  show(p.c.l.length:Int)+z=_
  rw[h2];omega
theorem aSf {m:Nat} (hm:m<cdN p b):cdK p b m<p.c.l.length+p.r.l.length:=by
 by_cases h:m<(wnL p b).length
 ·have:=(aPm h).2;omega
 obtain⟨i,rfl⟩:∃i,m=(wnL p b).length+i:=⟨m-(wnL p b).length,Uc⟩
 rw[aPn]
 have:=bOq (p:=p) (b:=b) (i:=i) (by unfold cdN at hm;omega)
 omega
open Classical in
noncomputable def gcN (p:ProgM) (q:PrQ) (b:BasM) (m j:Nat):Int:=if ∃m',m'<m/\cdP p q b m'/\cdK p b m'=j then 2 else stC (p.c.l.getD j U6) b.c.l j
open Classical in
noncomputable def grN (p:ProgM) (q:PrQ) (b:BasM) (m i:Nat):Int:=if ∃m',m'<m/\cdP p q b m'/\cdK p b m'=p.c.l.length+i then 2 else dfR (p.r.l.getD i U6).s
theorem bOs {m k:Nat} (h:¬(cdP p q b m/\cdK p b m=k)):(∃m',m'<m+1/\cdP p q b m'/\cdK p b m'=k)↔∃m',m'<m/\cdP p q b m'/\cdK p b m'=k:=by
 constructor
 ·rintro⟨m',h1,h2,h3⟩
  refine⟨m',?_,h2,h3⟩
  rcases bR (cB h1) with h4|h4
  ·exact h4
  rw[h4] at h2 h3;exact U4 ⟨h2,h3⟩ h
 rintro⟨m',h1,h2⟩
 exact⟨m',Uc,h2⟩
theorem aSg {m j:Nat} (h:¬(cdP p q b m/\cdK p b m=j)):gcN p q b (m+1) j=gcN p q b m j:=by
 unfold gcN
 classical exact aVv (bOs h) _ _
theorem aSh {m i:Nat} (h:¬(cdP p q b m/\cdK p b m=p.c.l.length+i)):grN p q b (m+1) i=grN p q b m i:=by
 unfold grN
 classical exact aVv (bOs h) _ _
theorem bLu {m j:Nat} (h:cdP p q b m):(if j=cdK p b m then 2 else gcN p q b m j)=gcN p q b (m+1) j:=by
 by_cases e:j=cdK p b m
 ·rw[U3 e]
  exact(U3 ⟨m,aS m,h,e.symm⟩).symm
 rw[U2 e,aSg λhh=>e hh.2.symm]
theorem bLv {m i i0:Nat} (h:cdP p q b m) (hk:cdK p b m=p.c.l.length+i0):(if i=i0 then 2 else grN p q b m i)=grN p q b (m+1) i:=by
 by_cases e:i=i0
 ·rw[U3 e]
  exact(U3 ⟨m,aS m,h,by rw[hk,e]⟩).symm
 rw[U2 e,aSh λhh=>e oM]
noncomputable def chN (p:ProgM) (q:PrQ) (b:BasM) (m:Nat):List Int:=(mI (cdQ p q b) p.r.l.length (cdN p b) m).map λz=>((cdK p b z.toNat:Nat):Int)
theorem bLw {m:Nat} (h:cdP p q b m):chN p q b (m+1)=chN p q b m++[((cdK p b m:Nat):Int)]:=by
 unfold chN
 rw[aPe h,bA];rfl
theorem bUz {m:Nat} (h:¬cdP p q b m):chN p q b (m+1)=chN p q b m:=by
 unfold chN
 rw[aUx (cR.1 h)]
theorem bLx {m:Nat}:(chN p q b m).length<=m:=by
 unfold chN
 rw[aK];exact aHa
theorem aHd {m:Nat}:(chN p q b m).length=(mI (cdQ p q b) p.r.l.length (cdN p b) m).length:=by
 unfold chN
 rw[aK]
theorem bVa {m k:Nat} {L:List Int} (hm:m<cdN p b) (hr:p.r.l.length<=20) (hc:p.c.l.length<=20) (hL:L=chN p q b m) (hk:k<(L++[((cdK p b m:Nat):Int)]).length):(L++[((cdK p b m:Nat):Int)]).getD k 0=(cdK p b (if k<(mI (cdQ p q b) p.r.l.length (cdN p b) m).length then atN (mI (cdQ p q b) p.r.l.length (cdN p b) m) k else m):Nat)/\cdK p b (if k<(mI (cdQ p q b) p.r.l.length (cdN p b) m).length then atN (mI (cdQ p q b) p.r.l.length (cdN p b) m) k else m)<=16384:=by
 have he:=(eN (P:=λj=>¬Dep (cdQ p q b) p.r.l.length (cdN p b) j) m).1
 subst hL
 by_cases h1:k<(mI (cdQ p q b) p.r.l.length (cdN p b) m).length
 ·rw[U3 h1]
  have h2:=aSf (p:=p) (b:=b) (m:=atN (mI (cdQ p q b) p.r.l.length (cdN p b) m) k) (by have h5:atN (mI (cdQ p q b) p.r.l.length (cdN p b) m) k<m:=he.lt k h1;omega)
  refine⟨?_,Uc⟩
  rw[aC,aV (by rw[aHd];exact h1)]
  unfold chN atN
  simp[aC,h1]
 rw[U2 h1]
 have h2:=aSf hm
 refine⟨?_,Uc⟩
 rw[aD,aHd] at hk
 replace hk:k<_+1:=hk
 obtain rfl:k=(chN p q b m).length:=by rw[aHd];omega
 rw[aC,bH (aH _),gH]
 rfl
end cd
abbrev rrO:List CV:=[.v (.slice none 0 0),.v (.slice none 0 0)]
abbrev bVb (p:ProgM) (b:BasM) (W:List Int):BL:=[(25,0,p.C),(28,0,b.C),(28,0,rrO),(3,1,W.map iC)]
theorem aMq {p:ProgM} {b:BasM} {W:List Int}:scB 4 (bVb p b W):=aA U (aA U (aA U (aA (bG (aW _)) aU)))
abbrev bGm (p:ProgM):List (Nat×DV):=[(2,.c (.p 0 0)),(3,.c (.p 1 0)),(4,.c (.p 2 0)),(5,.c (iC (p.c.l.length:Nat)))]
abbrev cDs (p:ProgM) (n j:Nat):List (Nat×DV):=(7,.c (iC j))::(6,.c (.s 3 n))::bGm p
abbrev rrZ:List CV:=eA 2 λj=> .b (j=0) inferInstance
abbrev bGn (p:ProgM) (b:BasM) (W:List Int):BL:=bVb p b W++[(4,1,rrZ)]
theorem aCa {p:ProgM} {b:BasM} {W:List Int}:scB 5 (bGn p b W):=aA U (aA U (aA U (aA (bG (aW _)) (aA U aU))))
abbrev cAg (p:ProgM) (n t:Nat):List (Nat×DV):=(38,.c (iC t))::(36,.c (.s 4 2))::(37,.c (iC 2))::(6,.c (.s 3 n))::bGm p
abbrev cDt (p:ProgM) (n t i:Nat):List (Nat×DV):=(10,.c (iC i))::(9,.c (.b (t=0) inferInstance))::cAg p n t
abbrev aXr (p:ProgM) (b:BasM) (W C R:List Int):BL:=bGn p b W++[(28,0,[.s 6 C.length,.s 7 R.length]),(3,1,C.map iC),(3,1,R.map iC)]
theorem zO {p:ProgM} {b:BasM} {W C R:List Int}:scB 8 (aXr p b W C R):=aA U (aA U (aA U (aA (bG (aW _)) (aA U (aA U (aA (bG (aW _)) (aA (bG (aW _)) aU)))))))
abbrev bGo (p:ProgM) (b:BasM) (W:List Int) (F G:Nat->Int):BL:=bGn p b W++[(28,0,[.s 6 p.c.l.length,.s 7 p.r.l.length]),(3,1,eA p.c.l.length λj=>iC (F j)),(3,1,eA p.r.l.length λj=>iC (G j))]
theorem aEw {p:ProgM} {b:BasM} {W:List Int} {F G:Nat->Int}:scB 8 (bGo p b W F G):=aA U (aA U (aA U (aA (bG (aW _)) (aA U (aA U (aA (bG (bD λ_ _=>U)) (aA (bG (bD λ_ _=>U)) aU)))))))
theorem bLy {p:ProgM} {b:BasM} {W:List Int} {F G:Nat->Int}:bGo p b W F G=aXr p b W ((List.range p.c.l.length).map F) ((List.range p.r.l.length).map G):=by
 unfold bGo aXr
 rw[vM,vM,aK,aK,fJ,fJ]
abbrev cDu (p:ProgM) (n j:Nat):List (Nat×DV):=(12,.c (iC j))::(11,.c (.p 5 0))::(6,.c (.s 3 n))::bGm p
abbrev cDv (p:ProgM) (n j:Nat):List (Nat×DV):=(14,.c (iC j))::(11,.c (.p 5 0))::(6,.c (.s 3 n))::bGm p
abbrev cDw (p:ProgM) (n:Nat) (ch:Sl Int) (m:Nat):List (Nat×DV):=(117,.c (iC m))::(15,.c (cI ch))::(115,.c (.s 3 n))::(116,.c (iC n))::(11,.c (.p 5 0))::bGm p
theorem bGp (p:ProgM) (b:BasM) {q:PrQ} {B:Nat} (h:PrV p q B) (hr:p.r.l.length<=20) (hc:p.c.l.length<=20) (hB:bd B p.r.l.length<=4398046511104):Ctr pgQ 10 [] [.a p.C,.a b.C] [] (λg:BasM=>⟨.a g.C,[],RpR p q b g⟩):=by
 classical
 refine cw func10 ((vW 6 3 1 U bL (vk ?_)))
 refine bX (λ_=>true) (λj:Nat=>cDs p (gS (λj=>stN b.c.l j=2) j).length j) (λj=>bVb p b (gS (λj=>stN b.c.l j=2) j)) (λ_=>[]) (λj=>j<=p.c.l.length) (λj=>p.c.l.length-j) λhM=>⟨hM 0 (aB _) U rS trivial rS bL aMq U,λj hj=>vk ⟨λh1=>vk ?_,λh1=>vk ?_⟩⟩
 all_goals replace hj:j<=p.c.l.length:=hj
 ·replace h1:(j:Int)<(p.c.l.length:Nat):=h1
  refine⟨[],bGc b.c j,U,U,U,λ_ _=>⟨λh2=>vk ?_,λh2=>vk ?_⟩⟩
  ·replace h2:stN b.c.l j=2:=h2
   have hyes:=gY (P:=λj=>stN b.c.l j=2) (k:=j) h2
   refine⟨apI (x:=gS (λj=>stN b.c.l j=2) j) (by have:=fA (P:=λj=>stN b.c.l j=2) (k:=j);omega),(λc hc=>by rw[aE.1 hc];rfl),(j+1:Nat),wi,hM (j+1) ⟨by show j+1<=_;omega,show p.c.l.length-(j+1)<p.c.l.length-j by omega⟩ U ⟨U,U,U,?_⟩ U1 ⟨U,?_,U,U,U,U⟩ bL aMq U⟩
   ·show(_,_,(gS (λj=>stN b.c.l j=2) j).map iC++[iC (j:Nat)])=(_,_,(gS (λj=>stN b.c.l j=2) (j+1)).map iC)
    rw[hyes,bA];rfl
   show(gS (λj=>stN b.c.l j=2) j).length+1=(gS (λj=>stN b.c.l j=2) (j+1)).length
   rw[hyes,aD];rfl
  replace h2:¬stN b.c.l j=2:=h2
  have hno:=jO (P:=λj=>stN b.c.l j=2) (k:=j) h2
  refine⟨(j+1:Nat),wi,hM (j+1) ⟨by show j+1<=_;omega,show p.c.l.length-(j+1)<p.c.l.length-j by omega⟩ U ⟨U,U,U,?_⟩ U1 ⟨U,?_,U,U,U,U⟩ bL aMq U⟩
  ·show(_,_,(gS (λj=>stN b.c.l j=2) j).map iC)=(_,_,(gS (λj=>stN b.c.l j=2) (j+1)).map iC)
   rw[hno]
  show(gS (λj=>stN b.c.l j=2) j).length=(gS (λj=>stN b.c.l j=2) (j+1)).length
  rw[hno]
 replace h1:¬(j:Int)<(p.c.l.length:Nat):=h1
 obtain rfl:j=p.c.l.length:=Uc
 refine vk ?_
 show Sd _ _ _ _ _ _
 refine gJ tSd 4 rrZ U U (λk c c' h1 h2=>?_) ?_
 ·match k,h1,h2 with
  |0,h1,h2=>
   obtain rfl:=oV h1
   obtain rfl:=oV (show some (CV.b ((0:Nat)=0) inferInstance)=some c' from h2)
   exact bGj (P:=true=true) (P':=(0:Nat)=0) (by simp)
  |1,h1,h2=>
   obtain rfl:=oV h1
   obtain rfl:=oV (show some (CV.b ((1:Nat)=0) inferInstance)=some c' from h2)
   exact bGj (P:=false=true) (P':=(1:Nat)=0) (by simp)
  |k+2,h1,h2=>cases h1
 refine bX (λ_=>true) (λt:Nat=>cAg p (cdA p b t).length t) (λt=>bGn p b (cdA p b t)) (λ_=>[]) (λt=>t<=2) (λt=>2-t) λhM=>⟨hM 0 (aB _) U rS trivial rS bL aCa U,λt ht=>vk ⟨λh2=>vk ?_,λh2=>vk ?_⟩⟩
 all_goals replace ht:t<=2:=ht
 ·replace h2:(t:Int)<2:=h2
  have ht2:t<2:=Uc
  refine⟨t,⟨U,ht2,cS ht2⟩,_,eD ht2,?_⟩
  refine bX (λ_=>true) (λi:Nat=>cDt p (cdI p b t i).length t i) (λi=>bGn p b (cdI p b t i)) (λ_=>[]) (λi=>i<=p.r.l.length) (λi=>p.r.l.length-i) λhM2=>⟨hM2 0 (aB _) U ⟨U,U,U,?_,U⟩ U1 ⟨U,iO,U,U,U,?_,U,U,U,U⟩ bL aCa U,λi hi=>vk ⟨λh3=>vk ?_,λh3=>vk ?_⟩⟩
  ·show((3,1,(cdA p b t).map iC):TypeId×Nat×List CV)=(3,1,(cdI p b t 0).map iC)
   rw[aPo]
  ·show(cdA p b t).length=(cdI p b t 0).length
   rw[aPo]
  all_goals replace hi:i<=p.r.l.length:=hi
  ·replace h3:(i:Int)<(p.r.l.length:Nat):=h3
   have hlen:=aMo (p:=p) (b:=b) (i:=i) t
   have hlen2:t*p.r.l.length<=1*p.r.l.length:=aT _ oM
   refine⟨[],bGc b.r i,U,U,U,λ_ _=>⟨λh4=>vk ?_,λh4=>vk ?_⟩⟩
   ·replace h4:stN b.r.l i=2↔t=0:=h4
    have hyes:=bLt (p:=p) h4
    refine⟨(p.c.l.length:Int)+(i:Nat),wi (h:=⟨U,Uc,Uc⟩),apI (x:=cdI p b t i) oM,(λc hc=>bJ (lE (l:=rrZ) U c hc)),(λc hc=>by rw[aE.1 hc];rfl),(i+1:Nat),wi,hM2 (i+1) ⟨by show i+1<=_;omega,show p.r.l.length-(i+1)<p.r.l.length-i by omega⟩ U ⟨U,U,U,?_,U⟩ U1 ⟨U,iO,U,U,U,?_,U,U,U,U⟩ bL aCa U⟩
    ·show(_,_,(cdI p b t i).map iC++[iC _])=(_,_,(cdI p b t (i+1)).map iC)
     rw[hyes,bA];rfl
    show(cdI p b t i).length+1=(cdI p b t (i+1)).length
    rw[hyes,aD];rfl
   replace h4:¬(stN b.r.l i=2↔t=0):=h4
   have hno:=bUx (p:=p) h4
   refine⟨(i+1:Nat),wi,hM2 (i+1) ⟨by show i+1<=_;omega,show p.r.l.length-(i+1)<p.r.l.length-i by omega⟩ U ⟨U,U,U,?_,U⟩ U1 ⟨U,iO,U,U,U,?_,U,U,U,U⟩ bL aCa U⟩
   ·show(_,_,(cdI p b t i).map iC)=(_,_,(cdI p b t (i+1)).map iC)
    rw[hno]
   show(cdI p b t i).length=(cdI p b t (i+1)).length
   rw[hno]
  replace h3:¬(i:Int)<(p.r.l.length:Nat):=h3
  obtain rfl:i=p.r.l.length:=Uc
  exact⟨(t+1:Nat),wi,hM (t+1) ⟨by show t+1<=2;omega,show 2-(t+1)<2-t by omega⟩ U rS trivial rS bL aCa U⟩
 replace h2:¬(t:Int)<2:=h2
 obtain rfl:t=2:=Uc
 have hNl:(cdA p b 2).length<=60:=by
  have:=aMo (p:=p) (b:=b) (i:=p.r.l.length) 1
  rw[aVu] at this
  replace this:(cdA p b 2).length<=_:=this
  omega
 obtain⟨CD,hCD⟩:∃CD,CD=cdA p b 2:=⟨_,U⟩
 rw[<-hCD] at hNl ⊢
 refine vk ?_
 show Sd _ _ _ _ _ _
 refine sS 5 0 3 1 U U bL U ?_
 show Sd _ _ _ _ _ _
 refine sS 5 1 3 1 U U bL U ?_
 show Sd _ _ _ _ _ _
 refine bX (λ_=>true) (λj:Nat=>cDu p CD.length j) (λj=>aXr p b CD (bsL p b j) []) (λ_=>[]) (λj=>j<=p.c.l.length) (λj=>p.c.l.length-j) λhM=>⟨hM 0 (aB _) U rS trivial rS bL zO U,λj hj=>vk ⟨λh1=>vk ?_,λh1=>vk ?_⟩⟩
 all_goals replace hj:j<=p.c.l.length:=hj
 ·replace h1:(j:Int)<(p.c.l.length:Nat):=h1
  have hjn:j<p.c.l.length:=Uc
  have hbl:(bsL p b j).length=j:=by simp
  have hbb:∀{v:Int},v=stC (p.c.l.getD j U6) b.c.l j->((3,1,(bsL p b j).map iC++[iC v]):TypeId×Nat×List CV)=(3,1,(bsL p b (j+1)).map iC):=λhv=>by rw[<-cAf hv,bA];rfl
  have hbs:((28,0,[.s 6 ((bsL p b j).length+1),.s 7 0]):TypeId×Nat×List CV)=(28,0,[.s 6 (bsL p b (j+1)).length,.s 7 0]):=by rw[hbl];simp
  refine⟨[],bGc b.c j,U,U,U,λ_ _=>⟨j,λg2=>⟨U,hjn⟩,λg2=>?_,λg2=>?_⟩⟩
  ·replace g2:stN b.c.l j=2:=g2
   have hv:dfC (p.c.l.getD j U6)=stC (p.c.l.getD j U6) b.c.l j:=(U2 λhh=>hh.1.2 (aMn.1 g2)).symm
   exact⟨j,⟨U,hjn⟩,[],bEn (p.c.l.getD j U6),U,U,U,λ_ _=>⟨apI (x:=bsL p b j) oM,(λc hc=>bJ (aW _ c hc)),(λc hc=>bJ (lE (l:=rrZ) U c hc)),(λc hc=>by cases hc),(λc hc=>by rw[aE.1 hc];rfl),(j+1:Nat),wi,hM (j+1) ⟨hjn,show p.c.l.length-(j+1)<p.c.l.length-j by omega⟩ U ⟨U,U,U,U,U,hbs,hbb hv,U⟩ U1 rS bL zO U⟩⟩
  replace g2:¬stN b.c.l j=2:=g2
  refine⟨[],bNt (p.c.l.getD j U6) (stN b.c.l j),U,U,U,λ_ _=>⟨λh4=>vk ?_,λh4=>vk ?_⟩⟩
  ·replace h4:¬Pmt (p.c.l.getD j U6) (stN b.c.l j):=h4
   have hv:dfC (p.c.l.getD j U6)=stC (p.c.l.getD j U6) b.c.l j:=(U2 λhh=>h4 (by rw[show stN b.c.l j=b.c.l.getD j 0 from U3 hh.1.1];exact hh.2)).symm
   exact⟨j,⟨U,hjn⟩,[],bEn (p.c.l.getD j U6),U,U,U,λ_ _=>⟨apI (x:=bsL p b j) oM,(λc hc=>bJ (aW _ c hc)),(λc hc=>bJ (lE (l:=rrZ) U c hc)),(λc hc=>by cases hc),(λc hc=>by rw[aE.1 hc];rfl),(j+1:Nat),wi,hM (j+1) ⟨hjn,show p.c.l.length-(j+1)<p.c.l.length-j by omega⟩ U ⟨U,U,U,U,U,hbs,hbb hv,U⟩ U1 rS bL zO U⟩⟩
  replace h4:¬¬Pmt (p.c.l.getD j U6) (stN b.c.l j):=h4
  have hjb:j<b.c.l.length:=aN λhh=>by
   have h5:=cR.1 h4
   rw[show stN b.c.l j=-1 from U2 hh] at h5
   rcases h5 with h5|⟨h5,_⟩|⟨h5,_⟩|⟨h5,_⟩<;>exact U4 h5 dC
  have hst:stN b.c.l j=b.c.l.getD j 0:=U3 hjb
  have hv:stN b.c.l j=stC (p.c.l.getD j U6) b.c.l j:=by
   rw[hst] at g2 h4 ⊢
   exact(U3 ⟨⟨hjb,g2⟩,cR.1 h4⟩).symm
  exact⟨apI (x:=bsL p b j) oM,(λc hc=>bJ (aW _ c hc)),(λc hc=>bJ (lE (l:=rrZ) U c hc)),(λc hc=>by cases hc),(λc hc=>by rw[aE.1 hc];rfl),(j+1:Nat),wi,hM (j+1) ⟨hjn,show p.c.l.length-(j+1)<p.c.l.length-j by omega⟩ U ⟨U,U,U,U,U,hbs,hbb hv,U⟩ U1 rS bL zO U⟩
 replace h1:¬(j:Int)<(p.c.l.length:Nat):=h1
 obtain rfl:j=p.c.l.length:=Uc
 have hbl:(bsL p b p.c.l.length).length=p.c.l.length:=by simp
 refine vk ?_
 show Sd _ _ _ _ _ _
 refine bX (λ_=>true) (λi:Nat=>cDv p CD.length i) (λi=>aXr p b CD (bsL p b p.c.l.length) (drL p i)) (λ_=>[]) (λi=>i<=p.r.l.length) (λi=>p.r.l.length-i) λhM=>⟨hM 0 (aB _) U rS trivial rS bL zO U,λi hi=>vk ⟨λh1=>vk ?_,λh1=>vk ?_⟩⟩
 all_goals replace hi:i<=p.r.l.length:=hi
 ·replace h1:(i:Int)<(p.r.l.length:Nat):=h1
  have hin:i<p.r.l.length:=Uc
  have hdl:(drL p i).length=i:=by simp
  refine⟨.seq [(0,false),(1,false),(2,false),(3,false),(4,false),(5,false),(6,false),(7,false),(8,false),(9,true),(10,false),(11,true)],U0,i,⟨U,hin⟩,[],bNv (p.r.l.getD i U6),U,U,U,λ_ _=>⟨apI (x:=drL p i) oM,(λc hc=>bJ (aW _ c hc)),(λc hc=>bJ (lE (l:=rrZ) U c hc)),(λc hc=>bJ (aW _ c hc)),(λc hc=>by rw[aE.1 hc];rfl),(i+1:Nat),wi,hM (i+1) ⟨hin,show p.r.l.length-(i+1)<p.r.l.length-i by omega⟩ U ⟨U,U,U,U,U,?_,U,?_⟩ U1 rS bL zO U⟩⟩
  ·show((28,0,[CV.s 6 _,.s 7 ((drL p i).length+1)]):TypeId×Nat×List CV)=(28,0,[CV.s 6 _,.s 7 (drL p (i+1)).length])
   rw[<-bOr,aD];rfl
  show((3,1,(drL p i).map iC++[iC _]):TypeId×Nat×List CV)=(3,1,(drL p (i+1)).map iC)
  rw[<-bOr,bA];rfl
 replace h1:¬(i:Int)<(p.r.l.length:Nat):=h1
 obtain rfl:i=p.r.l.length:=Uc
 have hdl:(drL p p.r.l.length).length=p.r.l.length:=by simp
 refine vk ?_
 show Sd _ _ _ _ _ _
 refine vW 15 3 1 U bL ?_
 show Sd _ _ _ _ _ _
 refine nS 15 8 (λj=>[iC (([]:List Int).getD j 0)]) U U (λj hj=>U4 hj (aF _)) U bL (λc hc=>by cases hc) bL λA0 c0 _ _=>⟨(λc hc=>bJ (aW _ c hc)),(λc hc=>bJ (lE (l:=rrZ) U c hc)),(λc hc=>bJ (aW _ c hc)),(λc hc=>bJ (aW _ c hc)),?_⟩
 show Sd _ _ _ _ _ _
 refine bX (λ_=>true) (λg:Nat×Sl Int=>cDw p CD.length g.2 g.1) (λg=>bGo p b CD (gcN p q b g.1) (grN p q b g.1)) (λ_=>[]) (λg=>g.1<=CD.length/\g.2.l=chN p q b g.1) (λg=>CD.length-g.1) λhM=>⟨hM (0,⟨A0,c0,[]⟩) ⟨aB _,U⟩ U ⟨U,U,U,U,U,?_,?_,?_⟩ U1 rS bL aEw U,λ⟨m,ch⟩ ⟨hm,hch⟩=>?_⟩
 ·show((28,0,[CV.s 6 _,.s 7 _]):TypeId×Nat×List CV)=_
  rw[hbl,hdl]
 ·show((3,1,(bsL p b p.c.l.length).map iC):TypeId×Nat×List CV)=_
  rw[show(eA p.c.l.length λj=>iC (gcN p q b 0 j))=(bsL p b p.c.l.length).map iC from vM.trans (U5 (List.map iC) (dR λj _=>U2 λ⟨m',hm',_⟩=>U4 hm' (aF _)))]
 ·show((3,1,(drL p p.r.l.length).map iC):TypeId×Nat×List CV)=_
  rw[show(eA p.r.l.length λj=>iC (grN p q b 0 j))=(drL p p.r.l.length).map iC from vM.trans (U5 (List.map iC) (dR λj _=>U2 λ⟨m',hm',_⟩=>U4 hm' (aF _)))]
 replace hm:m<=CD.length:=hm
 replace hch:ch.l=chN p q b m:=hch
 show Sd _ _ _ _ _ _
 refine Sd.sq (vk (Sd.sq (vk ⟨λh1=>vk ?_,λh1=>vk ?_⟩)))
 ·replace h1:(m:Int)<(CD.length:Nat):=h1
  have hmn:m<CD.length:=Uc
  have hCdl:cdN p b<=p.c.l.length+p.r.l.length:=by
   unfold cdN
   have:(wnL p b).length<=p.c.l.length:=aJ fA (xG _ _)
   omega
  have hmN:m<cdN p b:=by rw[<-aMp,<-hCD];exact hmn
  have hk:=bUy hmN
  rw[<-hCD] at hk
  show Sd _ _ _ _ _ _
  have hcl:ch.l.length<=60:=by rw[hch];have:=bLx (p:=p) (q:=q) (b:=b) (m:=m);omega
  refine Sd.sq (Sd.blk (Sd.sq (vk ⟨m,⟨U,Uc,by rw[aK];show m*1<_;omega⟩,iC (cdK p b m:Nat),?_,Sd.sq (vk ⟨⟨λj _=>U,U,?_,?_,?_⟩,?_⟩)⟩)))
  ·show(CD.map iC)[m*1]? =_
   rw[bE,dQ,<-hk,aC,aG hmn]
   rfl
  ·show 0+ch.l.length<=maxLen;simp only[maxLen];omega
  ·show(0+ch.l.length)*8<=_;omega
  ·exact λc hc=>bJ (aW ch.l c (by rw[<-aDl];exact hc))
  have m3:∀i,∀c∈CD.map iC,kS i c=false:=λi c hc=>bJ (aW _ c hc)
  have m4:∀i,∀c∈rrZ,kS i c=false:=λi c hc=>bJ (lE (l:=rrZ) U c hc)
  have m6:∀i (n:Nat) (F:Nat->Int),∀c∈(eA n λj=>iC (F j)),kS i c=false:=λi n F c hc=>bJ (bD (λ_ _=>U) c hc)
  have hfl:[]++flatR ch.l.length (λj=>[iC (ch.l.getD j 0)])=ch.l.map iC:=aDl ch.l
  refine⟨m3 _,m4 _,m6 _ _ _,m6 _ _ _,⟨U,?_,?_,?_,?_⟩,m3 _,m4 _,m6 _ _ _,m6 _ _ _,(λc hc=>by rw[aE.1 hc];rfl),?_⟩
  ·show(0+ch.l.length)*1=([]++flatR ch.l.length (λj=>[iC (ch.l.getD j 0)])).length
   rw[hfl,aK];omega
  ·show 0+ch.l.length+1<=maxLen;simp only[maxLen];omega
  ·show(0+ch.l.length+1)*8<=_;omega
  ·exact λc hc=>(aO.1 hc).elim (λh=>bJ (aW ch.l c (by rw[<-aDl];exact h))) λh=>by rw[aE.1 h];rfl
  have hnl:0+ch.l.length+1=(ch.l++[((cdK p b m:Nat):Int)]).length:=by rw[aD];show _=_+1;omega
  have hcell:([]++flatR ch.l.length (λj=>[iC (ch.l.getD j 0)]))++[iC (cdK p b m:Nat)]=(ch.l++[((cdK p b m:Nat):Int)]).map iC:=by rw[hfl,bA];rfl
  show Sd _ _ _ _ _ _
  refine nS 18 8 (λj=>[iC ((ch.l++[((cdK p b m:Nat):Int)]).getD j 0)]) U U (λj hj=>?_) ?_ bL (λc hc=>?_) bL λA c _ _=>⟨m3 _,m4 _,m6 _ _ _,m6 _ _ _,(λc hc=>by rw[aE.1 hc];rfl),?_⟩
  ·show _=List.take 1 (List.drop (j*1) (([]++flatR ch.l.length (λj=>[iC (ch.l.getD j 0)]))++[iC (cdK p b m:Nat)]))
   rw[hcell]
   exact mS j (by rw[<-hnl];exact hj)
  ·show(0+ch.l.length+1)*1=(([]++flatR ch.l.length (λj=>[iC (ch.l.getD j 0)]))++[iC (cdK p b m:Nat)]).length
   rw[hcell,aK,<-hnl,bE]
  ·exact aW _ c (by rw[<-hcell];exact hc)
  have hEq:CV.r A (0+ch.l.length+1) c 1 (λj=>[iC ((ch.l++[((cdK p b m:Nat):Int)]).getD j 0)])=cI ⟨A,c,ch.l++[((cdK p b m:Nat):Int)]⟩:=by rw[hnl];rfl
  have hcall:Ctr pgQ 36 [] [.a p.C,.c (.r A (0+ch.l.length+1) c 1 λj=>[iC ((ch.l++[((cdK p b m:Nat):Int)]).getD j 0)])] [] (λ_:Unit=>⟨pC (cdP p q b m),[],True⟩):=by
   have hr2:=bGd p ⟨A,c,ch.l++[((cdK p b m:Nat):Int)]⟩ (κ:=λk=>cdK p b (if k<(mI (cdQ p q b) p.r.l.length (cdN p b) m).length then atN (mI (cdQ p q b) p.r.l.length (cdN p b) m) k else m)) h (by rw[<-hnl];omega) (λk hk2=>?_) ?_
   ·rw[hnl,show cdP p q b m=Free (λi k=>cdQ p q b i (if k<(mI (cdQ p q b) p.r.l.length (cdN p b) m).length then atN (mI (cdQ p q b) p.r.l.length (cdN p b) m) k else m)) p.r.l.length (ch.l++[((cdK p b m:Nat):Int)]).length from by
     rw[aD,hch,aHd]
     exact propext (aIt (eN m).1 hmN).symm]
    exact hr2
   ·exact bVa hmN hr hc hch hk2
   refine aJ (mV ?_) hB
   have h4:(mI (cdQ p q b) p.r.l.length (cdN p b) m).length<=p.r.l.length:=(Enm.free ((eN m).1.cong λj hj=>not_congr (Dep.cut' oM hj))).le
   rw[<-aHd,<-hch] at h4
   rw[<-hnl];omega
  show Sd _ _ _ _ _ _
  refine vk ⟨[],hcall,U,U,U,λ_ _=>⟨λh2=>vk ?_,λh2=>vk ?_⟩⟩
  ·replace h2:cdP p q b m:=h2
   have hcy:=(bLw h2)
   refine⟨λh3=>vk ?_,λh3=>vk ?_⟩
   ·replace h3:((cdK p b m:Nat):Int)<(p.c.l.length:Nat):=h3
    have hlt:cdK p b m<p.c.l.length:=Uc
    refine⟨cdK p b m,⟨U,hlt,cS hlt⟩,_,aDk hlt,vk ⟨(m+1:Nat),wi,hM (m+1,⟨A,c,ch.l++[((cdK p b m:Nat):Int)]⟩) ⟨⟨hmn,by show ch.l++_=chN p q b (m+1);rw[hcy,hch]⟩,show CD.length-(m+1)<CD.length-m by omega⟩ U ⟨U,U,U,U,U,U,?_,?_⟩ U1 ⟨U,?_,U,U,U,U,U,U,U⟩ bL aEw U⟩⟩
    ·exact U5 (λl=>((3,1,l):TypeId×Nat×List CV)) (gM λj _=>by rw[bLu h2])
    ·exact U5 (λl=>((3,1,l):TypeId×Nat×List CV)) (gM λj _=>by rw[aSh λhh=>Uc])
    exact hEq
   replace h3:¬((cdK p b m:Nat):Int)<(p.c.l.length:Nat):=h3
   obtain⟨i0,hi0⟩:∃i0,cdK p b m=p.c.l.length+i0:=⟨cdK p b m-p.c.l.length,Uc⟩
   have hlt:i0<p.r.l.length:=by have:=aSf hmN;omega
   refine⟨(i0:Int),wi (h:=⟨by rw[hi0];omega,Uc,Uc⟩),i0,⟨U,hlt,cS hlt⟩,_,aDk hlt,vk ⟨(m+1:Nat),wi,hM (m+1,⟨A,c,ch.l++[((cdK p b m:Nat):Int)]⟩) ⟨⟨hmn,by show ch.l++_=chN p q b (m+1);rw[hcy,hch]⟩,show CD.length-(m+1)<CD.length-m by omega⟩ U ⟨U,U,U,U,U,U,?_,?_⟩ U1 ⟨U,?_,U,U,U,U,U,U,U⟩ bL aEw U⟩⟩
   ·exact U5 (λl=>((3,1,l):TypeId×Nat×List CV)) (gM λj hj=>by rw[aSg λhh=>Uc])
   ·exact U5 (λl=>((3,1,l):TypeId×Nat×List CV)) (gM λj _=>by rw[bLv h2 hi0])
   exact hEq
  replace h2:¬cdP p q b m:=h2
  have hcn:=(bUz h2)
  refine vk ⟨(m+1:Nat),wi,hM (m+1,ch) ⟨⟨hmn,by show ch.l=chN p q b (m+1);rw[hcn,hch]⟩,show CD.length-(m+1)<CD.length-m by omega⟩ U ⟨U,U,U,U,U,U,?_,?_⟩ U1 rS bL aEw U⟩
  ·exact U5 (λl=>((3,1,l):TypeId×Nat×List CV)) (gM λj hj=>by rw[aSg λhh=>h2 hh.1])
  exact U5 (λl=>((3,1,l):TypeId×Nat×List CV)) (gM λj hj=>by rw[aSh λhh=>h2 hh.1])
 replace h1:¬(m:Int)<(CD.length:Nat):=h1
 obtain rfl:m=CD.length:=Uc
 show Sd _ _ _ _ _ _
 rw[show bGo p b CD (gcN p q b (CD.length,ch).fst) (grN p q b (CD.length,ch).fst)=aXr p b CD ((List.range p.c.l.length).map (gcN p q b CD.length)) ((List.range p.r.l.length).map (grN p q b CD.length)) from bLy]
 obtain⟨CL,hCL⟩:∃CL,CL=(List.range p.c.l.length).map (gcN p q b CD.length):=⟨_,U⟩
 obtain⟨RL,hRL⟩:∃RL,RL=(List.range p.r.l.length).map (grN p q b CD.length):=⟨_,U⟩
 rw[<-hCL,<-hRL]
 refine kT tSd 7 U bL (aW _) bL U λA a1=>⟨_,lM kE (aW _),_,lM kE (lE (l:=rrZ) U),_,lM kE (aW _),jQ tSd 5 0 [.s 6 CL.length,cI ⟨A.map λb=>⟨b,0,none⟩,a1,RL⟩] U U U U (qD (k0:=1) U aEa) ?_⟩
 refine kT tSd 6 U bL (aW _) bL U λA2 a2=>⟨_,lM kE (aW _),_,lM kE (lE (l:=rrZ) U),_,U,jQ tSd 5 1 [cI ⟨A2.map λb=>⟨b,0,none⟩,a2,CL⟩,cI ⟨A.map λb=>⟨b,0,none⟩,a1,RL⟩] U U U U (qD (k0:=0) U aEa) ?_⟩
 refine vk ⟨⟨⟨A2.map λb=>⟨b,0,none⟩,a2,CL⟩,⟨A.map λb=>⟨b,0,none⟩,a1,RL⟩⟩,GrR.rp ⟨by show CL.length=_;rw[hCL];simp,by show RL.length=_;rw[hRL];simp,λj hj=>?_,λi hi=>?_⟩,aI U U tV⟩
 ·show CL.getD j 0=_
  rw[hCL,aAp hj,hCD,aMp];rfl
 show RL.getD i 0=_
 rw[hRL,aAp hi,hCD,aMp];rfl
noncomputable def bkL (p:ProgM) (b:BasM) (i:Nat):List Int:=gS (λj=>b.c.l.getD j 0=2) b.c.l.length++(gS (λi=>b.r.l.getD i 0=2) i).map λz=>(p.c.l.length:Int)+z
theorem aPp {p:ProgM} {b:BasM}:bkL p b 0=gS (λj=>b.c.l.getD j 0=2) b.c.l.length:=dW _
theorem bLz {p:ProgM} {b:BasM} {i:Nat} (h:b.r.l.getD i 0=2):bkL p b (i+1)=bkL p b i++[(p.c.l.length:Int)+(i:Nat)]:=by
 unfold bkL
 rw[gY (P:=λi=>b.r.l.getD i 0=2) h,bA,cW];rfl
theorem bVc {p:ProgM} {b:BasM} {i:Nat} (h:¬b.r.l.getD i 0=2):bkL p b (i+1)=bkL p b i:=by
 unfold bkL
 rw[jO (P:=λi=>b.r.l.getD i 0=2) h]
theorem bMa {p:ProgM} {b:BasM} {i:Nat}:(bkL p b i).length<=b.c.l.length+i:=by
 unfold bkL
 rw[aD,aK]
 have h1:=fA (P:=λj=>b.c.l.getD j 0=2) (k:=b.c.l.length)
 have h2:=fA (P:=λi=>b.r.l.getD i 0=2) (k:=i)
 omega
abbrev bkB (p:ProgM) (b:BasM) (W:List Int):BL:=[(25,0,p.C),(28,0,b.C),(3,1,W.map iC)]
theorem aDm {p:ProgM} {b:BasM} {W:List Int}:scB 3 (bkB p b W):=aA U (aA U (aA (bG (aW _)) aU))
abbrev cDx (n j:Nat):List (Nat×DV):=[(6,.c (iC j)),(5,.c (.s 2 n)),(2,.c (.p 0 0)),(3,.c (.p 1 0))]
abbrev cDy (n j:Nat):List (Nat×DV):=[(7,.c (iC j)),(5,.c (.s 2 n)),(2,.c (.p 0 0)),(3,.c (.p 1 0))]
noncomputable abbrev bkS (b:BasM) (j:Nat):List Int:=gS (λj=>b.c.l.getD j 0=2) j
theorem cAh (p:ProgM) (b:BasM) (hc:p.c.l.length<=4096) (h1:b.c.l.length<=4096) (h2:b.r.l.length<=4096):Ctr pgQ 63 [] [.a p.C,.a b.C] [] (λg:Sl Int=>⟨.c (cI g),[],g.l=bkL p b b.r.l.length⟩):=by
 refine cw func63 ((vW 5 3 1 U bL (vk ?_)))
 refine bX (λ_=>true) (λj:Nat=>cDx (bkS b j).length j) (λj=>bkB p b (bkS b j)) (λ_=>[]) (λj=>j<=b.c.l.length) (λj=>b.c.l.length-j) λhM=>⟨hM 0 (aB _) U ⟨U,U,U⟩ U1 rS bL aDm U,λj hj=>vk ⟨λh3=>vk ?_,λh3=>vk ?_⟩⟩
 all_goals replace hj:j<=b.c.l.length:=hj
 ·replace h3:(j:Int)<(b.c.l.length:Nat):=h3
  refine⟨j,⟨U,Uc⟩,λh4=>vk ?_,λh4=>vk ?_⟩
  ·replace h4:b.c.l.getD j 0=2:=h4
   have hyes:=gY (P:=λj=>b.c.l.getD j 0=2) (k:=j) h4
   refine⟨apI (x:=bkS b j) (by have:(bkS b j).length<=j:=fA;omega),(λc hc=>by rw[aE.1 hc];rfl),(j+1:Nat),wi,hM (j+1) ⟨by show j+1<=_;omega,show b.c.l.length-(j+1)<b.c.l.length-j by omega⟩ U ⟨U,U,?_⟩ U1 ⟨U,?_,U,U⟩ bL aDm U⟩
   ·show(_,_,(bkS b j).map iC++[iC (j:Nat)])=(_,_,(bkS b (j+1)).map iC)
    rw[show bkS b (j+1)=_ from hyes,bA];rfl
   show(bkS b j).length+1=(bkS b (j+1)).length
   rw[show bkS b (j+1)=_ from hyes,aD];rfl
  replace h4:¬b.c.l.getD j 0=2:=h4
  have hno:=jO (P:=λj=>b.c.l.getD j 0=2) (k:=j) h4
  refine⟨(j+1:Nat),wi,hM (j+1) ⟨by show j+1<=_;omega,show b.c.l.length-(j+1)<b.c.l.length-j by omega⟩ U ⟨U,U,?_⟩ U1 ⟨U,?_,U,U⟩ bL aDm U⟩
  ·show(_,_,(bkS b j).map iC)=(_,_,(bkS b (j+1)).map iC)
   rw[show bkS b (j+1)=_ from hno]
  show(bkS b j).length=(bkS b (j+1)).length
  rw[show bkS b (j+1)=_ from hno]
 replace h3:¬(j:Int)<(b.c.l.length:Nat):=h3
 obtain rfl:j=b.c.l.length:=Uc
 refine vk ?_
 show Sd _ _ _ _ _ _
 refine bX (λ_=>true) (λj:Nat=>cDy (bkL p b j).length j) (λj=>bkB p b (bkL p b j)) (λ_=>[]) (λj=>j<=b.r.l.length) (λj=>b.r.l.length-j) λhM=>⟨hM 0 (aB _) U ⟨U,U,?_⟩ U1 ⟨U,?_,U,U⟩ bL aDm U,λj hj=>vk ⟨λh3=>vk ?_,λh3=>vk ?_⟩⟩
 ·show(_,_,(bkS b _).map iC)=(_,_,(bkL p b 0).map iC)
  rw[aPp]
 ·show(bkS b _).length=(bkL p b 0).length
  rw[aPp]
 all_goals replace hj:j<=b.r.l.length:=hj
 ·replace h3:(j:Int)<(b.r.l.length:Nat):=h3
  have hlen:=bMa (p:=p) (b:=b) (i:=j)
  refine⟨j,⟨U,Uc⟩,λh4=>vk ?_,λh4=>vk ?_⟩
  ·replace h4:b.r.l.getD j 0=2:=h4
   have hyes:=bLz (p:=p) h4
   refine⟨(p.c.l.length:Int)+(j:Nat),wi (h:=⟨U,Uc,Uc⟩),apI (x:=bkL p b j) oM,(λc hc=>by rw[aE.1 hc];rfl),(j+1:Nat),wi,hM (j+1) ⟨by show j+1<=_;omega,show b.r.l.length-(j+1)<b.r.l.length-j by omega⟩ U ⟨U,U,?_⟩ U1 ⟨U,?_,U,U⟩ bL aDm U⟩
   ·show(_,_,(bkL p b j).map iC++[iC _])=(_,_,(bkL p b (j+1)).map iC)
    rw[hyes,bA];rfl
   show(bkL p b j).length+1=(bkL p b (j+1)).length
   rw[hyes,aD];rfl
  replace h4:¬b.r.l.getD j 0=2:=h4
  have hno:=bVc (p:=p) h4
  refine⟨(j+1:Nat),wi,hM (j+1) ⟨by show j+1<=_;omega,show b.r.l.length-(j+1)<b.r.l.length-j by omega⟩ U ⟨U,U,?_⟩ U1 ⟨U,?_,U,U⟩ bL aDm U⟩
  ·show(_,_,(bkL p b j).map iC)=(_,_,(bkL p b (j+1)).map iC)
   rw[hno]
  show(bkL p b j).length=(bkL p b (j+1)).length
  rw[hno]
 replace h3:¬(j:Int)<(b.r.l.length:Nat):=h3
 obtain rfl:j=b.r.l.length:=Uc
 show Sd _ _ _ _ _ _
 refine nS 5 2 (λj=>[iC ((bkL p b b.r.l.length).getD j 0)]) U U (λj hj=>mS j hj) (by rw[aK,bE]) bL (aW _) bL λA c _ _=>vk ⟨⟨A,c,bkL p b b.r.l.length⟩,U,aI U U tV⟩
theorem aPq {f:Nat->Rat} {m:Nat}:∀{s:Nat},bN f (m+s)=bN f m+bN (λl=>f (m+l)) s
 |0=>by show bN f m=_+0;rw[bK]
 |s+1=>by
  show bN f (m+s)+f (m+s)=bN f m+(bN (λl=>f (m+l)) s+f (m+s))
  rw[aPq];grind
noncomputable abbrev bbL (b:BasM) (n:Nat):List Int:=gS (λi=>b.r.l.getD i 0=2) n
noncomputable def bkK (p:ProgM) (b:BasM) (k:Nat):Nat:=if k<(bcL b p.c.l.length).length then atN (bcL b p.c.l.length) k else p.c.l.length+atN (bbL b p.r.l.length) (k-(bcL b p.c.l.length).length)
section vl
variable {p:ProgM} {q:PrQ} {b:BasM} {B:Nat}
theorem bOt (h:BasOk p b):bkL p b b.r.l.length=bcL b p.c.l.length++(bbL b p.r.l.length).map λz=>(p.c.l.length:Int)+z:=by
 unfold bkL
 rw[h.c,h.r]
theorem bGq (h:BasOk p b):(bkL p b b.r.l.length).length=(bcL b p.c.l.length).length+(bbL b p.r.l.length).length:=by
 rw[bOt h,aD,aK]
theorem bVd:(bbL b p.r.l.length).length+(brL b p.r.l.length).length=p.r.l.length:=aBy (P:=λi=>b.r.l.getD i 0=2) _
theorem bVe:Enm (λi=>b.r.l.getD i 0=2) p.r.l.length (bbL b p.r.l.length).length (atN (bbL b p.r.l.length)):=(eN _).1
theorem cAi (h:BasOk p b) {k:Nat} (hk:k<(bkL p b b.r.l.length).length):(bkL p b b.r.l.length).getD k 0=(bkK p b k:Nat)/\bkK p b k<p.c.l.length+p.r.l.length:=by
 have hl:=bGq h
 rw[bOt h]
 unfold bkK
 by_cases h1:k<(bcL b p.c.l.length).length
 ·have e:=eN (P:=λj=>b.c.l.getD j 0=2) p.c.l.length
  rw[U3 h1,aC,aV h1,<-aC]
  have h4:atN (bcL b p.c.l.length) k<p.c.l.length:=e.1.lt k h1
  exact⟨e.2 k h1,Uc⟩
 have hi:k-(bcL b p.c.l.length).length<(bbL b p.r.l.length).length:=Uc
 have e:=eN (P:=λi=>b.r.l.getD i 0=2) p.r.l.length
 have h2:(bbL b p.r.l.length).getD (k-(bcL b p.c.l.length).length) 0=(atN (bbL b p.r.l.length) (k-(bcL b p.c.l.length).length):Nat):=e.2 _ hi
 have h3:atN (bbL b p.r.l.length) (k-(bcL b p.c.l.length).length)<p.r.l.length:=e.1.lt _ hi
 rw[U2 h1,aC,bH oM,dQ]
 rw[aC] at h2
 refine⟨?_,Uc⟩
 cases e3:(bbL b p.r.l.length)[k-(bcL b p.c.l.length).length]? with
 |none=>rw[tM] at e3;omega
 |some z=>
  rw[e3] at h2
  change z=_ at h2
  show(p.c.l.length:Int)+z=_
  rw[h2];omega
theorem bGr (z:Nat->Rat) {i:Nat} (hi:i<p.r.l.length):bN (λk=>vcN p q (bkK p b k) i*z k) ((bcL b p.c.l.length).length+(bbL b p.r.l.length).length)=bN (λl=>Vm.get (q.M i) (atN (bcL b p.c.l.length) l:Nat)*z l) (bcL b p.c.l.length).length+bN (λl=>if atN (bbL b p.r.l.length) l=i then z ((bcL b p.c.l.length).length+l) else 0) (bbL b p.r.l.length).length:=by
 rw[aPq]
 congr 1
 ·exact aZ λl hl=>by
   have h1:bkK p b l=atN (bcL b p.c.l.length) l:=U3 hl
   have h2:bkK p b l<p.c.l.length:=by rw[h1];exact(eN (P:=λj=>b.c.l.getD j 0=2) p.c.l.length).1.lt l hl
   unfold vcN
   rw[U3 h2,h1]
 exact aZ λl hl=>by
  have h1:bkK p b ((bcL b p.c.l.length).length+l)=p.c.l.length+atN (bbL b p.r.l.length) l:=by
   unfold bkK
   rw[U2 oM,fP]
  show vcN p q (bkK p b _) i*_=_
  rw[h1]
  unfold vcN
  rw[U2 oM]
  by_cases e:atN (bbL b p.r.l.length) l=i
  ·rw[U3 oM,U3 e,iY]
  rw[U2 oM,U2 e,dL]
theorem aVw (hp:PrV p q B) {k l:Nat} (hk:k<(brL b p.r.l.length).length) (hl:l<(bcL b p.c.l.length).length):Vm.get (zS p q b k) (l:Nat)=Vm.get (q.M (atN (brL b p.r.l.length) k)) (atN (bcL b p.c.l.length) l:Nat):=
 pO (λk l hkl hl=>(eN (P:=λj=>b.c.l.getD j 0=2) p.c.l.length).1.mono k l hkl hl) (hp.v _ ((eN (P:=λi=>b.r.l.getD i 0≠2) p.r.l.length).1.lt k hk)).2.1 hl
theorem aVx (hp:PrV p q B) (hn:(bcL b p.c.l.length).length=(brL b p.r.l.length).length):Free (λi k=>vcN p q (bkK p b k) i) p.r.l.length ((bcL b p.c.l.length).length+(bbL b p.r.l.length).length)↔¬Ker (zS p q b) (brL b p.r.l.length).length:=by
 have er:=(eN (P:=λi=>b.r.l.getD i 0≠2) p.r.l.length).1
 have eb:=bVe (p:=p) (b:=b)
 constructor
 ·rintro hf ⟨x,⟨j,hj,hxj⟩,hk⟩
  have h1:=hf (λk=>if k<(bcL b p.c.l.length).length then x k else-bN (λl=>Vm.get (q.M (atN (bbL b p.r.l.length) (k-(bcL b p.c.l.length).length))) (atN (bcL b p.c.l.length) l:Nat)*x l) (bcL b p.c.l.length).length) (λi hi=>?_) j oM
  ·rw[U3 oM] at h1
   exact hxj h1
  refine(bGr _ hi).trans ?_
  have e1:bN (λl=>Vm.get (q.M i) (atN (bcL b p.c.l.length) l:Nat)*(if l<(bcL b p.c.l.length).length then x l else-bN (λl'=>Vm.get (q.M (atN (bbL b p.r.l.length) (l-(bcL b p.c.l.length).length))) (atN (bcL b p.c.l.length) l':Nat)*x l') (bcL b p.c.l.length).length)) (bcL b p.c.l.length).length=bN (λl=>Vm.get (q.M i) (atN (bcL b p.c.l.length) l:Nat)*x l) (bcL b p.c.l.length).length:=aZ λl hl=>by rw[U3 hl]
  rw[e1]
  by_cases hb:b.r.l.getD i 0=2
  ·obtain⟨l0,hl0,e0⟩:=eb.all i hi hb
   have e2:∀(S:Rat) (f:Nat->Rat),(∀l,l<(bbL b p.r.l.length).length->l≠l0->f l=0)->f l0=S->bN f (bbL b p.r.l.length).length=S:=λS f h6 h7=>by
    rw[aZ (g:=λl=>if l=l0 then S else 0) λl hl=>by
     by_cases e:l=l0
     ·rw[e,U3 U,h7]
     rw[U2 e,h6 l hl e],iZ (m:=l0) hl0 λj hj=>U2 hj,U3 U]
   rw[e2 (-bN (λl=>Vm.get (q.M i) (atN (bcL b p.c.l.length) l:Nat)*x l) (bcL b p.c.l.length).length) _ (λl hl hne=>U2 λe3=>hne (eb.inj hl hl0 (e3.trans e0.symm))) (by rw[U3 e0,U2 oM,fP,e0])]
   grind
  obtain⟨k,hk2,e0⟩:=er.all i hi hb
  rw[fF λl hl=>U2 λe=>hb (by rw[<-e];exact eb.mem l hl),bK]
  have h2:=hk k hk2
  unfold dtn at h2
  rw[<-h2,hn]
  exact aZ λl hl=>by rw[aVw hp hk2 oM,e0]
 intro hk z hz
 have hz':∀i,i<p.r.l.length->bN (λl=>Vm.get (q.M i) (atN (bcL b p.c.l.length) l:Nat)*z l) (bcL b p.c.l.length).length+bN (λl=>if atN (bbL b p.r.l.length) l=i then z ((bcL b p.c.l.length).length+l) else 0) (bbL b p.r.l.length).length=0:=λi hi=>(bGr z hi).symm.trans (hz i hi)
 have h1:∀l,l<(bcL b p.c.l.length).length->z l=0:=λl hl=>aN λhzl=>hk ⟨z,⟨l,Uc,hzl⟩,λk hk2=>by
  have h2:=hz' _ (er.lt k hk2)
  rw[fF λl hl=>U2 λe=>er.mem k hk2 (by rw[<-e];exact eb.mem l hl),bK] at h2
  rw[<-h2,hn]
  unfold dtn
  exact aZ λl hl=>by rw[aVw hp hk2 oM]⟩
 intro k hk2
 by_cases hkm:k<(bcL b p.c.l.length).length
 ·exact h1 k hkm
 obtain⟨l,rfl⟩:∃l,k=(bcL b p.c.l.length).length+l:=⟨k-(bcL b p.c.l.length).length,Uc⟩
 have hl:l<(bbL b p.r.l.length).length:=Uc
 have h2:=hz' _ (eb.lt l hl)
 rw[fF (n:=(bcL b p.c.l.length).length) λl hl=>by rw[h1 l hl,bU],fY] at h2
 rw[aZ (g:=λl'=>if l'=l then z ((bcL b p.c.l.length).length+l) else 0) λl' hl'=>by
  by_cases e:l'=l
  ·rw[e,U3 U,U3 U]
  rw[U2 e,U2 λe2=>e (eb.inj hl' hl e2)],iZ (m:=l) hl λj hj=>U2 hj,U3 U] at h2
 exact h2
theorem bMb (hp:PrV p q B) (hok:BasOk p b):((bkL p b b.r.l.length).length=p.r.l.length/\Free (λi k=>vcN p q (bkK p b k) i) p.r.l.length (bkL p b b.r.l.length).length)↔BVal p q b:=by
 have hl:=bGq hok
 have hb:=bVd (p:=p) (b:=b)
 rw[hl]
 constructor
 ·rintro⟨h1,h2⟩
  have hn:(bcL b p.c.l.length).length=(brL b p.r.l.length).length:=Uc
  exact⟨hok,hn,(aVx hp hn).1 h2⟩
 intro h
 have hn:=h.n
 exact⟨Uc,(aVx hp hn).2 h.k⟩
end vl
abbrev vaB (p:ProgM) (b:BasM):BL:=[(25,0,p.C),(28,0,b.C)]
theorem aHe {p:ProgM} {b:BasM}:scB 2 (vaB p b):=aA U (aA U aU)
abbrev cDz (j:Nat):List (Nat×DV):=[(5,.c (iC j)),(2,.c (.p 0 0)),(3,.c (.p 1 0))]
abbrev cEa (j:Nat):List (Nat×DV):=[(6,.c (iC j)),(2,.c (.p 0 0)),(3,.c (.p 1 0))]
theorem cAj (p:ProgM) (b:BasM) {q:PrQ} {B:Nat} (h:PrV p q B) (hr:p.r.l.length<=12) (hc:p.c.l.length<=100) (hB:bd B (p.r.l.length-1)<=4398046511104):Ctr pgQ 23 [] [.a p.C,.a b.C] [] (λ_:Unit=>⟨pC (BVal p q b),[],True⟩):=by
 refine cw func23 (⟨[],bEr p h,U,U,U,λ_ _=>⟨λh2=>vk ?_,λh2=>vk ?_⟩⟩)
 ·replace h2:((0:Int)≠0\/(b.c.l.length:Int)≠(p.c.l.length:Nat))\/(b.r.l.length:Int)≠(p.r.l.length:Nat):=h2
  exact⟨(),tV,aI (ff λhv=>by
   have h3:=hv.ok.c
   have h4:=hv.ok.r
   omega) U tV⟩
 replace h2:¬(((0:Int)≠0\/(b.c.l.length:Int)≠(p.c.l.length:Nat))\/(b.r.l.length:Int)≠(p.r.l.length:Nat)):=h2
 have hbc:b.c.l.length=p.c.l.length:=Uc
 have hbr:b.r.l.length=p.r.l.length:=Uc
 show Sd _ _ _ _ _ _
 refine bX (λ_=>true) (λj:Nat=>cDz j) (λ_=>vaB p b) (λ_=>[]) (λj=>j<=b.c.l.length/\∀j',j'<j->Pmt (p.c.l.getD j' U6) (b.c.l.getD j' 0)) (λj=>b.c.l.length-j) λhM=>⟨hM 0 ⟨aB _,λj hj=>U4 hj (aF _)⟩ U ⟨U,U⟩ U1 ⟨U,U,U⟩ bL aHe U,λj ⟨hj,hpm⟩=>vk ⟨λh3=>vk ?_,λh3=>vk ?_⟩⟩
 all_goals
  replace hj:j<=b.c.l.length:=hj
  replace hpm:∀j',j'<j->Pmt (p.c.l.getD j' U6) (b.c.l.getD j' 0):=hpm
 ·replace h3:(j:Int)<(b.c.l.length:Nat):=h3
  have hjb:j<b.c.l.length:=Uc
  refine⟨.seq (sqX [10] 12),U0,j,⟨U,Uc⟩,j,⟨U,hjb⟩,[],bNt (p.c.l.getD j U6) (b.c.l.getD j 0),U,U,U,λ_ _=>⟨λh4=>vk ?_,λh4=>vk ?_⟩⟩
  ·replace h4:¬Pmt (p.c.l.getD j U6) (b.c.l.getD j 0):=h4
   exact⟨(),tV,aI (ff λhv=>h4 (hv.ok.pc j oM)) U tV⟩
  replace h4:¬¬Pmt (p.c.l.getD j U6) (b.c.l.getD j 0):=h4
  refine⟨(j+1:Nat),wi,hM (j+1) ⟨⟨hjb,λj' hj'=>?_⟩,show b.c.l.length-(j+1)<b.c.l.length-j by omega⟩ U ⟨U,U⟩ U1 ⟨U,U,U⟩ bL aHe U⟩
  rcases bR (cB hj') with h5|h5
  ·exact hpm j' h5
  rw[h5];exact cR.1 h4
 replace h3:¬(j:Int)<(b.c.l.length:Nat):=h3
 obtain rfl:j=b.c.l.length:=Uc
 refine vk ?_
 show Sd _ _ _ _ _ _
 refine bX (λ_=>true) (λi:Nat=>cEa i) (λ_=>vaB p b) (λ_=>[]) (λi=>i<=b.r.l.length/\∀i',i'<i->b.r.l.getD i' 0=2\/b.r.l.getD i' 0=dfR (p.r.l.getD i' U6).s) (λi=>b.r.l.length-i) λhM=>⟨hM 0 ⟨aB _,λj hj=>U4 hj (aF _)⟩ U ⟨U,U⟩ U1 ⟨U,U,U⟩ bL aHe U,λi ⟨hi,hro⟩=>vk ⟨λh3=>vk ?_,λh3=>vk ?_⟩⟩
 all_goals
  replace hi:i<=b.r.l.length:=hi
  replace hro:∀i',i'<i->b.r.l.getD i' 0=2\/b.r.l.getD i' 0=dfR (p.r.l.getD i' U6).s:=hro
 ·replace h3:(i:Int)<(b.r.l.length:Nat):=h3
  have hib:i<b.r.l.length:=Uc
  have hok:(b.r.l.getD i 0=2\/b.r.l.getD i 0=dfR (p.r.l.getD i U6).s)->∀i',i'<i+1->b.r.l.getD i' 0=2\/b.r.l.getD i' 0=dfR (p.r.l.getD i' U6).s:=λh6 i' hi'=>by
   rcases bR (cB hi') with h5|h5
   ·exact hro i' h5
   rw[h5];exact h6
  refine⟨.seq (sqX [] 20),U0,i,⟨U,hib⟩,i,λ_=>⟨U,hib⟩,i,λ_=>⟨U,Uc⟩,λg=>⟨[],bNv (p.r.l.getD i U6),U,U,U,λ_ _=>⟨λh4=>vk ?_,λh4=>vk ?_⟩⟩,λg=>?_⟩
  ·replace h4:b.r.l.getD i 0≠dfR (p.r.l.getD i U6).s:=h4
   exact⟨(),tV,aI (ff λhv=>(hv.ok.pr i oM).elim g h4) U tV⟩
  ·replace h4:¬b.r.l.getD i 0≠dfR (p.r.l.getD i U6).s:=h4
   exact⟨(i+1:Nat),wi,hM (i+1) ⟨⟨hib,hok oM⟩,show b.r.l.length-(i+1)<b.r.l.length-i by omega⟩ U ⟨U,U⟩ U1 ⟨U,U,U⟩ bL aHe U⟩
  replace g:¬b.r.l.getD i 0≠2:=g
  exact⟨(i+1:Nat),wi,hM (i+1) ⟨⟨hib,hok oM⟩,show b.r.l.length-(i+1)<b.r.l.length-i by omega⟩ U ⟨U,U⟩ U1 ⟨U,U,U⟩ bL aHe U⟩
 replace h3:¬(i:Int)<(b.r.l.length:Nat):=h3
 obtain rfl:i=b.r.l.length:=Uc
 have hok:BasOk p b:=⟨hbc,hbr,λj hj=>hpm j oM,λi hi=>hro i oM⟩
 have hvr:=bMb h hok
 refine vk ⟨[],cAh p b oM oM oM,U,U,U,λl hl=>?_⟩
 replace hl:l.l=bkL p b b.r.l.length:=hl
 refine⟨λg=>?_,λg=>?_⟩
 ·replace g:(l.l.length:Int)=(p.r.l.length:Nat):=g
  have hll:l.l.length=p.r.l.length:=Uc
  have hid:=bGd p l (κ:=bkK p b) h oM (λk hk=>by
   rw[hl] at hk ⊢
   have:=cAi hok hk
   exact⟨this.1,Uc⟩) (by rw[hll];exact hB)
  refine⟨[],hid,U,U,U,λ_ _=>⟨(),tV,aI ?_ rfl tV⟩⟩
  show Free (λi k=>vcN p q (bkK p b k) i) p.r.l.length l.l.length↔BVal p q b
  rw[hl]
  exact⟨λhf=>hvr.1 ⟨by rw[<-hl];exact hll,hf⟩,λhv=>(hvr.2 hv).2⟩
 replace g:¬(l.l.length:Int)=(p.r.l.length:Nat):=g
 exact⟨(),tV,aI (ff λhv=>g (by rw[hl,(hvr.2 hv).1])) U tV⟩
noncomputable abbrev dcL (p:ProgM) (j:Nat):List Int:=(List.range j).map λj=>dfC (p.c.l.getD j U6)
theorem bOu {p:ProgM} {j:Nat}:dcL p j++[dfC (p.c.l.getD j U6)]=dcL p (j+1):=by
 unfold dcL
 rw[gR,bA];rfl
def SlR (p:ProgM) (g:BasM):Prop:=g.c.l=dcL p p.c.l.length/\g.r.l=List.replicate p.r.l.length 2
abbrev slB (p:ProgM) (C R:List Int):BL:=[(25,0,p.C),(28,0,rrO),(28,0,[.s 3 C.length,.s 4 R.length]),(3,1,C.map iC),(3,1,R.map iC)]
theorem aMr {p:ProgM} {C R:List Int}:scB 5 (slB p C R):=aA U (aA U (aA U (aA (bG (aW _)) (aA (bG (aW _)) aU))))
abbrev cEb (j:Nat):List (Nat×DV):=[(4,.c (iC j)),(1,.c (.p 0 0)),(2,.c (.p 1 0)),(3,.c (.p 2 0))]
abbrev cEc (j:Nat):List (Nat×DV):=[(5,.c (iC j)),(1,.c (.p 0 0)),(2,.c (.p 1 0)),(3,.c (.p 2 0))]
theorem bOv (p:ProgM) (hr:p.r.l.length<=4096) (hc:p.c.l.length<=4096):Ctr pgQ 29 [] [.a p.C] [] (λg:BasM=>⟨.a g.C,[],SlR p g⟩):=by
 refine cw func29 (?_)
 show Sd _ _ _ _ _ _
 refine sS 2 0 3 1 U U bL U ?_
 show Sd _ _ _ _ _ _
 refine sS 2 1 3 1 U U bL U ?_
 show Sd _ _ _ _ _ _
 refine bX (λ_=>true) (λj:Nat=>cEb j) (λj=>slB p (dcL p j) []) (λ_=>[]) (λj=>j<=p.c.l.length) (λj=>p.c.l.length-j) λhM=>⟨hM 0 (aB _) U rS trivial rS bL aMr U,λj hj=>vk ⟨λh1=>vk ?_,λh1=>vk ?_⟩⟩
 all_goals replace hj:j<=p.c.l.length:=hj
 ·replace h1:(j:Int)<(p.c.l.length:Nat):=h1
  have hjn:j<p.c.l.length:=Uc
  have hbl:(dcL p j).length=j:=by simp
  refine⟨.seq (sqX [9,11] 12),U0,j,⟨U,hjn⟩,[],bEn (p.c.l.getD j U6),U,U,U,λ_ _=>⟨apI (x:=dcL p j) oM,(λc hc=>by cases hc),(λc hc=>by rw[aE.1 hc];rfl),(j+1:Nat),wi,hM (j+1) ⟨hjn,show p.c.l.length-(j+1)<p.c.l.length-j by omega⟩ U ⟨U,U,?_,?_,U⟩ U1 rS bL aMr U⟩⟩
  ·show((28,0,[CV.s 3 ((dcL p j).length+1),.s 4 0]):TypeId×Nat×List CV)=(28,0,[CV.s 3 (dcL p (j+1)).length,.s 4 0])
   rw[<-bOu,aD];rfl
  show((3,1,(dcL p j).map iC++[iC _]):TypeId×Nat×List CV)=(3,1,(dcL p (j+1)).map iC)
  rw[<-bOu,bA];rfl
 replace h1:¬(j:Int)<(p.c.l.length:Nat):=h1
 obtain rfl:j=p.c.l.length:=Uc
 refine vk ?_
 show Sd _ _ _ _ _ _
 refine bX (λ_=>true) (λi:Nat=>cEc i) (λi=>slB p (dcL p p.c.l.length) (List.replicate i 2)) (λ_=>[]) (λi=>i<=p.r.l.length) (λi=>p.r.l.length-i) λhM=>⟨hM 0 (aB _) U rS trivial rS bL aMr U,λi hi=>vk ⟨λh1=>vk ?_,λh1=>vk ?_⟩⟩
 all_goals replace hi:i<=p.r.l.length:=hi
 ·replace h1:(i:Int)<(p.r.l.length:Nat):=h1
  have hrl:(List.replicate i (2:Int)).length=i:=cU
  refine⟨apI (x:=List.replicate i 2) oM,(λc hc=>bJ (aW _ c hc)),(λc hc=>by rw[aE.1 hc];rfl),(i+1:Nat),wi,hM (i+1) ⟨by show i+1<=_;omega,show p.r.l.length-(i+1)<p.r.l.length-i by omega⟩ U ⟨U,U,?_,U,?_⟩ U1 rS bL aMr U⟩
  ·show((28,0,[CV.s 3 _,.s 4 ((List.replicate i (2:Int)).length+1)]):TypeId×Nat×List CV)=(28,0,[CV.s 3 _,.s 4 (List.replicate (i+1) (2:Int)).length])
   rw[cU,cU]
  show((3,1,(List.replicate i (2:Int)).map iC++[iC 2]):TypeId×Nat×List CV)=(3,1,(List.replicate (i+1) (2:Int)).map iC)
  rw[nU,bA];rfl
 replace h1:¬(i:Int)<(p.r.l.length:Nat):=h1
 obtain rfl:i=p.r.l.length:=Uc
 show Sd _ _ _ _ _ _
 refine kT tSd 4 U bL (aW _) bL U λA a1=>⟨_,lM kE (aW _),jQ tSd 2 0 [.s 3 (dcL p p.c.l.length).length,cI ⟨A.map λb=>⟨b,0,none⟩,a1,List.replicate p.r.l.length 2⟩] U U U U (qD (k0:=1) U aEa) ?_⟩
 refine kT tSd 3 U bL (aW _) bL U λA2 a2=>⟨_,U,jQ tSd 2 1 [cI ⟨A2.map λb=>⟨b,0,none⟩,a2,dcL p p.c.l.length⟩,cI ⟨A.map λb=>⟨b,0,none⟩,a1,List.replicate p.r.l.length 2⟩] U U U U (qD (k0:=0) U aEa) ?_⟩
 exact vk ⟨⟨⟨A2.map λb=>⟨b,0,none⟩,a2,dcL p p.c.l.length⟩,⟨A.map λb=>⟨b,0,none⟩,a1,List.replicate p.r.l.length 2⟩⟩,⟨U,U⟩,aI U U tV⟩
theorem RpR.slack {p:ProgM} {q:PrQ} {g:BasM} (h:RpR p q ⟨cG,cG⟩ g):SlR p g:=by
 have hw:(wnL p ⟨cG,cG⟩).length=0:=by
  have:=fA (P:=λj=>([]:List Int).getD j 0=2) (k:=min p.c.l.length 0)
  rw[Nat.min_zero] at this
  show(gS (λj=>([]:List Int).getD j 0=2) (min p.c.l.length 0)).length=0
  rw[Nat.min_zero]
  omega
 have hc:(gZ p q ⟨cG,cG⟩).length=0:=by
  have:(gZ p q ⟨cG,cG⟩).length<=(wnL p ⟨cG,cG⟩).length:=fA
  omega
 have hl:(ltL p q ⟨cG,cG⟩).length=0:=by rw[bFw.1,hc]
 refine⟨yL (by rw[h.cl];simp) λj hj=>?_,yL (by rw[h.rl];simp) λi hi=>?_⟩
 ·have hj':j<p.c.l.length:=by simpa using hj
  rw[h.c0 j hj' λk hk=>Uc,aAp hj']
  exact U2 λhh=>U4 hh.1.1 (aF _)
 have hi':i<p.r.l.length:=by simpa using hi
 rw[h.r2 i hi' λk hk=>Uc,aC,List.getElem?_replicate,U3 hi'];rfl
end Go.Proofs.YtljcaaakbkneaaaGreat
namespace Go.Vy
open Go.Vg Go.RowKit
theorem yM {P:Program} {nb N:Nat} {c:Code} {K:Kt} {s:SS} {σ:Type} (chg:σ->List (Nat×DV)) (bls:σ->BL) (fls:σ->List Fam) (C:σ->Prop) (μ:σ->Nat) (hnb:∀g,nb<=(bls g).length) (hsc:∀g,scB (bls g).length (bls g)) (hsd:∀g,(chg g).all (λe=>scD (bls g).length e.2)=true)
 (h:(∀{s':SS} {C':σ->Prop} (g:σ),C' g->aHk s'.bl (bls g)->aQy s'.fl (fls g)->AllC s'.sl (chg g)->Gt nb s' (λg=>⟨chg g,[],bls g,fls g⟩) C')->Gt nb s (λg=>⟨chg g,[],bls g,fls g⟩) C/\∀g,C g->Sd P nb N c ⟨λs'=>Gt nb s' (λg'=>⟨chg g',[],bls g',fls g'⟩) (λg'=>C g'/\μ g'<μ g),K.ext,K.ret⟩ ⟨chg g,[],bls g,fls g⟩):Sd P nb N (.loop c) K s:=by
 have key:∀{s':SS} {C':σ->Prop} (g:σ),C' g->aHk s'.bl (bls g)->aQy s'.fl (fls g)->AllC s'.sl (chg g)->Gt nb s' (λg=>⟨chg g,[],bls g,fls g⟩) C':=λ{s' C'} g hC hbl hfl hall ρ0 w0 D f w hD=>by
  obtain⟨r,hr⟩:=vZ hbl
  obtain⟨rf,hrf⟩:=aJz hfl
  have h1:=xW (s:=s') (s':=⟨chg g,[],bls g,s'.fl⟩) (r:=r) hr U U (hsc g) (λt d ht=>⟨hall.get ht,vE (hsd g) ht⟩) ρ0 w0 nb D f w (hnb g) hD
  have hes:∀F∈fls g,0<F.es:=λF hF=>(hD.m.fam.ok F (by rw[hD.l,hrf];exact cX _ hF)).1
  have hp:Fsub s'.fl (fls g):=by
   have:=Fsub.pre (r:=rf) hes
   rw[<-hrf] at this
   exact this
  obtain⟨ρ',h2⟩:=h1.fsub (s:=⟨chg g,[],bls g,s'.fl⟩) hp
  exact⟨g,ρ',hC,h2⟩
 obtain⟨h0,hr⟩:=h key
 intro ρ0 w0 D f w Q hL hD
 obtain⟨g0,ρ1,hC0,hD1⟩:=h0 ρ0 w0 D f w hD
 refine aMu (σ:=σ) (λg f w=>C g/\∃D,Dn ρ0 w0 nb ⟨chg g,[],bls g,fls g⟩ D f w) μ g0 ⟨hC0,ρ1,hD1⟩ λg f w ⟨hc,D,hD⟩=>?_
 refine hr g hc ρ0 w0 D f w _ ⟨λs' ρ' f' w' hg hD'=>?_,hL.ext,hL.ret⟩ hD
 obtain⟨g',ρ2,⟨hc',hlt⟩,hD2⟩:=hg ρ0 w0 ρ' f' w' hD'
 exact⟨g',⟨hc',ρ2,hD2⟩,hlt⟩
end Go.Vy
namespace Go.Proofs.YtljcaaakbkneaaaGreat
open Go.Vg _root_.Go.Proofs.Tryz
open Go.Vm
open Go.Vy hiding val
set_option maxRecDepth 20000
theorem aCb {L:List Int} {k:Nat} (hk:k<L.length) {v:Int} (hv:L.getD k 0=v):(L.map iC)[k*1]? =some (iC v):=by
 rw[bE,dQ,<-hv,aC,aG hk];rfl
theorem aCc {L:List Int} {k:Nat} (hk:k<L.length):k*1<(L.map iC).length:=by rw[aK];omega
noncomputable abbrev rkS (b:BasM) (i:Nat):List Int:=gS (λi=>b.r.l.getD i 0≠2) i
abbrev bMc (p:ProgM) (b:BasM) (X:Nat->RatM) (F T:List Int):BL:=[(25,0,p.C),(28,0,b.C),(53,3,rtC p.c.l.length X),(3,1,F.map iC),(3,1,T.map iC)]
theorem tZ {p:ProgM} {b:BasM} {X:Nat->RatM} {F T:List Int}:scB 5 (bMc p b X F T):=aA U (aA U (aA (bG cD) (aA (bG (aW _)) (aA (bG (aW _)) aU))))
abbrev cEd (p:ProgM) (f j:Nat):List (Nat×DV):=[(8,.c (iC j)),(5,.c (.s 2 p.c.l.length)),(6,.c (.s 3 f)),(7,.c (.s 4 0)),(2,.c (.p 0 0)),(3,.c (.p 1 0))]
abbrev cEe (p:ProgM) (f t i:Nat):List (Nat×DV):=[(9,.c (iC i)),(5,.c (.s 2 p.c.l.length)),(6,.c (.s 3 f)),(7,.c (.s 4 t)),(2,.c (.p 0 0)),(3,.c (.p 1 0))]
abbrev bVf (p:ProgM) (b:BasM) (X:Nat->RatM) (F T:List Int) (L:List (Sl RatM)) (k:Nat) (W:Nat->RatM):BL:=bMc p b X F T++[(42,1,wT L),(53,3,rtC k W)]
theorem aVy {p:ProgM} {b:BasM} {X:Nat->RatM} {F T:List Int} {L:List (Sl RatM)} {k:Nat} {W:Nat->RatM}:scB 7 (bVf p b X F T L k W):=aA U (aA U (aA (bG cD) (aA (bG (aW _)) (aA (bG (aW _)) (aA (bG jJ) (aA (bG cD) aU))))))
abbrev cAk (p:ProgM) (f t l k:Nat):List (Nat×DV):=[(88,.c (iC k)),(86,.c (.s 4 t)),(87,.c (iC t)),(5,.c (.s 2 p.c.l.length)),(6,.c (.s 3 f)),(10,.c (.s 5 l)),(11,.c (.s 6 k)),(2,.c (.p 0 0)),(3,.c (.p 1 0))]
theorem aCd {n:Nat} {V:Nat->RatM} {g:RatM}:rtC n V++g.C=rtC (n+1) (upd V n g):=by
 show _=flatR (n+1) λj=>(upd V n g j).C
 rw[gL,bF]
 exact U5 (·++g.C) (mZ λj hj=>by rw[aY oM])
theorem apR {n:Nat} {V:Nat->RatM} {g:RatM} {i:Nat} (h:n<=1000000):1*3=g.C.length/\n*3=(rtC n V).length/\n+1<=maxLen/\(n+1)*56<=140737488355328/\∀c∈rtC n V++g.C,kS i c=false:=⟨U,(jE (P:=λj=>(V j).C) (e:=3) λ_ _=>U).symm,by simp only[maxLen];omega,Uc,λc hc=>(aO.1 hc).elim (λh=>bJ (cD c h)) λh=>bJ (gF g c h)⟩
abbrev cAl (p:ProgM) (b:BasM) (X:Nat->RatM) (F T:List Int) (L:List (Sl RatM)) (W:Nat->RatM) (t:Nat) (V:Nat->RatM):BL:=bVf p b X F T L L.length W++[(53,3,rtC t V)]
theorem bMd {p:ProgM} {b:BasM} {X:Nat->RatM} {F T:List Int} {L:List (Sl RatM)} {W:Nat->RatM} {t:Nat} {V:Nat->RatM}:scB 8 (cAl p b X F T L W t V):=aA U (aA U (aA (bG cD) (aA (bG (aW _)) (aA (bG (aW _)) (aA (bG jJ) (aA (bG cD) (aA (bG cD) aU)))))))
abbrev cEf (p:ProgM) (f t l k i u:Nat):List (Nat×DV):=(94,.c (iC u))::(92,.c (.s 3 f))::(93,.c (iC f))::(14,.c (.s 7 u))::(13,.c (iC i))::cAk p f t l k
abbrev cAm (p:ProgM) (b:BasM) (X:Nat->RatM) (F:List Int):BL:=[(25,0,p.C),(28,0,b.C),(53,3,rtC p.c.l.length X),(3,1,F.map iC)]
theorem bMe {p:ProgM} {b:BasM} {X:Nat->RatM} {F:List Int}:scB 4 (cAm p b X F):=aA U (aA U (aA (bG cD) (aA (bG (aW _)) aU)))
abbrev cEg (p:ProgM) (S:Sl RatM) (f k:Nat):List (Nat×DV):=[(19,.c (iC k)),(17,.c (dS S)),(6,.c (.s 3 f)),(5,.c (.s 2 p.c.l.length))]
theorem cAn (p:ProgM) (b:BasM) {q:PrQ} {B X:Nat} (h:PrV p q B) (hb:BVal p q b) (hrl:p.r.l.length<=12) (hcl:p.c.l.length<=100) (hX:∀x:Nat->Rat,(∀k,k<(brL b p.r.l.length).length->bN (λl=>crA p q b k l*x l) (brL b p.r.l.length).length=crB p q b k)->∀l,l<(brL b p.r.l.length).length->rb (x l) X) (hB:bd (2+B+p.c.l.length*(B+B+1)) ((brL b p.r.l.length).length-1)+(brL b p.r.l.length).length*(bd (2+B+p.c.l.length*(B+B+1)) ((brL b p.r.l.length).length-1)+X+1)+2<=4398046511104):Ctr pgQ 30 [] [.a p.C,.a b.C] [] (λg:Sl RatM×List Rat=>⟨.c (dS g.1),[],Rl g.1.l g.2/\PtR p q b (B+X) g.2⟩):=by
 obtain⟨Br,hBr⟩:∃Br,Br=2+B+p.c.l.length*(B+B+1):=⟨_,U⟩
 rw[<-hBr] at hB
 have hBB:=h.hB
 have h1:=h.h1
 have hbc:=hb.ok.c
 have hbr:=hb.ok.r
 have hn:=hb.n
 obtain⟨e1,e2⟩:=sU b p.c.l.length
 obtain⟨f1,f2⟩:=rI b p.r.l.length
 have hml:(brL b p.r.l.length).length<=p.r.l.length:=fA
 have hdb:∀i,i<p.r.l.length->rb (dtl (q.M i) (lQ ((List.range p.c.l.length).map (x0N q b)))) Br:=λi hi=>by
  have hv:=h.v i hi
  have h2:=aDa (x:=lQ ((List.range p.c.l.length).map (x0N q b))) (es:=q.M i) (λe he=>h.e i hi e he) λe he=>by
   have h6:=hv.2.2 e he
   have h7:e.1.toNat<p.c.l.length:=Uc
   have h8:=aPf (b:=b) h h7
   unfold lQ
   simpa[h7] using h8
  have h3:(q.M i).length*(B+B+1)<=p.c.l.length*(B+B+1):=aT _ (h.len hi)
  exact h2.le oM
 have hBrB:Br<=4398046511104:=by
  have:Br<=bd Br ((brL b p.r.l.length).length-1):=mV (aB _)
  omega
 have hrw:0<(brL b p.r.l.length).length->∀i,i<p.r.l.length->∀X0:Nat->RatM,(∀j,j<p.c.l.length->Cr (X0 j) (x0N q b j))->RwX (p.r.l.getD i U6) ⟨none,0,fZ X0 p.c.l.length⟩ (q.b i) (q.M i) ((List.range p.c.l.length).map (x0N q b)) B B:=λhm i hi X0 hX0=>by
  have hv:=h.v i hi
  have hl:=h.len hi
  refine⟨h.rd.r i hi,⟨by rw[jS];simp,λk hk=>?_⟩,λx hx=>?_,by simpa using hv.2,h.e i hi,?_⟩
  ·have hk':k<p.c.l.length:=by simpa using hk
   show Cr ((fZ X0 p.c.l.length).getD k U6) _
   rw[nC hk']
   simpa[hk'] using hX0 k hk'
  ·obtain⟨k,hk,rfl⟩:=bZ.1 hx
   exact aPf (b:=b) h (cJ.1 hk)
  rw[dH]
  have h5:(q.M i).length*(B+B+1)<=p.c.l.length*(B+B+1):=aT _ hl
  have h6:Br<=bd Br ((brL b p.r.l.length).length-1):=mV (aB _)
  have h7:1*(bd Br ((brL b p.r.l.length).length-1)+X+1)<=(brL b p.r.l.length).length*(bd Br ((brL b p.r.l.length).length-1)+X+1):=aT _ hm
  omega
 refine cw func30 (⟨p.c.l.length,⟨U,U,by show 56*_<=_;omega,by simp only[maxLen];omega⟩,?_⟩)
 show Sd _ _ _ _ _ _
 refine gJ tSd 2 (rtC p.c.l.length λ_=>U6) U jI.1 jI.2 ?_
 show Sd _ _ _ _ _ _
 refine vW 6 3 1 U bL ?_
 show Sd _ _ _ _ _ _
 refine vW 7 3 1 U bL ?_
 show Sd _ _ _ _ _ _
 refine bX (λ_=>true) (λg:Nat×(Nat->RatM)=>cEd p (bkS b g.1).length g.1) (λg=>bMc p b g.2 (bkS b g.1) []) (λ_=>[]) (λg=>g.1<=p.c.l.length/\∀j,j<g.1->Cr (g.2 j) (x0N q b j)) (λg=>p.c.l.length-g.1) λhM=>⟨hM (0,λ_=>U6) ⟨aB _,λj hj=>U4 hj (aF _)⟩ U rS trivial rS bL tZ U,λ⟨j,X0⟩ ⟨hj,hX0⟩=>vk ⟨λh2=>vk ?_,λh2=>vk ?_⟩⟩
 all_goals
  replace hj:j<=p.c.l.length:=hj
  replace hX0:∀j',j'<j->Cr (X0 j') (x0N q b j'):=hX0
 ·replace h2:(j:Int)<(p.c.l.length:Nat):=h2
  have hjn:j<p.c.l.length:=Uc
  have hcol:=h.rd.c j hjn
  have hbs:(bkS b j).length<=j:=fA
  have fin:∀g:RatM,Cr g (x0N q b j)->∀j',j'<j+1->Cr (upd X0 j g j') (x0N q b j'):=λg hg j' hj'=>by
   by_cases e:j'=j
   ·subst e;rw[bF];exact hg
   rw[aY e];exact hX0 j' oM
  have fin2:∀z g:RatM,Cr g (x0N q b j)->∀j',j'<j+1->Cr (upd (upd X0 j z) j g j') (x0N q b j'):=λz g hg j' hj'=>by
   by_cases e:j'=j
   ·subst e;rw[bF];exact hg
   rw[aY e,aY e];exact hX0 j' oM
  have hno:b.c.l.getD j 0≠2->bkS b (j+1)=bkS b j:=λh6=>jO h6
  have hyes:b.c.l.getD j 0=2->bkS b (j+1)=bkS b j++[(j:Int)]:=λh6=>gY (P:=λj=>b.c.l.getD j 0=2) h6
  have bno:b.c.l.getD j 0≠2->((3,1,(bkS b j).map iC):TypeId×Nat×List CV)=(3,1,(bkS b (j+1)).map iC):=λh6=>by rw[hno h6]
  have sno:b.c.l.getD j 0≠2->(bkS b j).length=(bkS b (j+1)).length:=λh6=>by rw[hno h6]
  refine⟨[],xZ,U,U,U,λz hz=>⟨j,⟨U,hjn,eO hjn⟩,_,fQ hjn,j,⟨U,Uc⟩,λh3=>vk ?_,λh3=>vk ?_⟩⟩
  ·replace h3:b.c.l.getD j 0=0:=h3
   have h6:b.c.l.getD j 0≠2:=Uc
   have e:x0N q b j=q.l j:=U3 h3
   exact⟨j,⟨U,hjn⟩,[],gE (p.c.l.getD j U6).l (hcol.l.le),U,U,U,λg hg=>⟨j,⟨U,hjn,eO hjn⟩,_,fQ hjn,(j+1:Nat),wi,hM (j+1,upd (upd X0 j z) j g) ⟨⟨hjn,fin2 z g (by rw[e];exact hg)⟩,show p.c.l.length-(j+1)<p.c.l.length-j by omega⟩ U ⟨U,U,U,bno h6,U⟩ U1 ⟨U,U,sno h6,U,U,U⟩ bL tZ U⟩⟩
  replace h3:¬b.c.l.getD j 0=0:=h3
  refine⟨λh4=>vk ?_,λh4=>vk ⟨λh5=>vk ?_,λh5=>vk ?_⟩⟩
  ·replace h4:b.c.l.getD j 0=1:=h4
   have h6:b.c.l.getD j 0≠2:=Uc
   have e:x0N q b j=q.u j:=(U2 h3).trans (U3 h4)
   exact⟨j,⟨U,hjn⟩,[],gE (p.c.l.getD j U6).u (hcol.u.le),U,U,U,λg hg=>⟨j,⟨U,hjn,eO hjn⟩,_,fQ hjn,(j+1:Nat),wi,hM (j+1,upd (upd X0 j z) j g) ⟨⟨hjn,fin2 z g (by rw[e];exact hg)⟩,show p.c.l.length-(j+1)<p.c.l.length-j by omega⟩ U ⟨U,U,U,bno h6,U⟩ U1 ⟨U,U,sno h6,U,U,U⟩ bL tZ U⟩⟩
  ·replace h4:¬b.c.l.getD j 0=1:=h4
   replace h5:b.c.l.getD j 0=2:=h5
   have e:x0N q b j=0:=(U2 h3).trans (U2 h4)
   refine⟨apI (x:=bkS b j) oM,(λc hc=>bJ (cD c hc)),(λc hc=>by cases hc),(λc hc=>by rw[aE.1 hc];rfl),(j+1:Nat),wi,hM (j+1,upd X0 j z) ⟨⟨hjn,fin z (by rw[e];exact hz)⟩,show p.c.l.length-(j+1)<p.c.l.length-j by omega⟩ U ⟨U,U,U,?_,U⟩ U1 ⟨U,U,?_,U,U,U⟩ bL tZ U⟩
   ·show((3,1,(bkS b j).map iC++[iC (j:Nat)]):TypeId×Nat×List CV)=(3,1,(bkS b (j+1)).map iC)
    rw[hyes h5,bA];rfl
   show(bkS b j).length+1=(bkS b (j+1)).length
   rw[hyes h5,aD];rfl
  replace h4:¬b.c.l.getD j 0=1:=h4
  replace h5:¬b.c.l.getD j 0=2:=h5
  have e:x0N q b j=0:=(U2 h3).trans (U2 h4)
  exact⟨(j+1:Nat),wi,hM (j+1,upd X0 j z) ⟨⟨hjn,fin z (by rw[e];exact hz)⟩,show p.c.l.length-(j+1)<p.c.l.length-j by omega⟩ U ⟨U,U,U,bno h5,U⟩ U1 ⟨U,U,sno h5,U,U,U⟩ bL tZ U⟩
 replace h2:¬(j:Int)<(p.c.l.length:Nat):=h2
 obtain rfl:j=p.c.l.length:=Uc
 obtain⟨F,hF⟩:∃F,F=bcL b p.c.l.length:=⟨_,U⟩
 have hFl:F.length<=100:=by rw[hF];exact aJ fA hcl
 rw[show bkS b p.c.l.length=F from hF.symm]
 refine vk ?_
 show Sd _ _ _ _ _ _
 refine bX (λ_=>true) (λi:Nat=>cEe p F.length (rkS b i).length i) (λi=>bMc p b X0 F (rkS b i)) (λ_=>[]) (λi=>i<=p.r.l.length) (λi=>p.r.l.length-i) λhM=>⟨hM 0 (aB _) U rS trivial rS bL tZ U,λi hi=>vk ⟨λh2=>vk ?_,λh2=>vk ?_⟩⟩
 all_goals replace hi:i<=p.r.l.length:=hi
 ·replace h2:(i:Int)<(p.r.l.length:Nat):=h2
  have hir:i<p.r.l.length:=Uc
  have hrs:(rkS b i).length<=i:=fA
  refine⟨i,⟨U,Uc⟩,λh3=>vk ?_,λh3=>vk ?_⟩
  ·replace h3:b.r.l.getD i 0≠2:=h3
   have hyes:rkS b (i+1)=rkS b i++[(i:Int)]:=gY (P:=λi=>b.r.l.getD i 0≠2) h3
   refine⟨apI (x:=rkS b i) oM,(λc hc=>bJ (cD c hc)),(λc hc=>bJ (aW _ c hc)),(λc hc=>by rw[aE.1 hc];rfl),(i+1:Nat),wi,hM (i+1) ⟨hir,show p.r.l.length-(i+1)<p.r.l.length-i by omega⟩ U ⟨U,U,U,U,?_⟩ U1 ⟨U,U,U,?_,U,U⟩ bL tZ U⟩
   ·show((3,1,(rkS b i).map iC++[iC (i:Nat)]):TypeId×Nat×List CV)=(3,1,(rkS b (i+1)).map iC)
    rw[hyes,bA];rfl
   show(rkS b i).length+1=(rkS b (i+1)).length
   rw[hyes,aD];rfl
  replace h3:¬b.r.l.getD i 0≠2:=h3
  have hno:rkS b (i+1)=rkS b i:=jO h3
  have bno:((3,1,(rkS b i).map iC):TypeId×Nat×List CV)=(3,1,(rkS b (i+1)).map iC):=by rw[hno]
  have sno:(rkS b i).length=(rkS b (i+1)).length:=by rw[hno]
  exact⟨(i+1:Nat),wi,hM (i+1) ⟨hir,show p.r.l.length-(i+1)<p.r.l.length-i by omega⟩ U ⟨U,U,U,U,bno⟩ U1 ⟨U,U,U,sno,U,U⟩ bL tZ U⟩
 replace h2:¬(i:Int)<(p.r.l.length:Nat):=h2
 obtain rfl:i=p.r.l.length:=Uc
 obtain⟨T,hT⟩:∃T,T=brL b p.r.l.length:=⟨_,U⟩
 have hTl:T.length<=12:=by rw[hT];omega
 have hTF:F.length=T.length:=by rw[hF,hT];exact hn
 have hTa:∀k,k<T.length->T.getD k 0=(atN (brL b p.r.l.length) k:Nat)/\atN (brL b p.r.l.length) k<p.r.l.length:=λk hk=>by rw[hT] at hk ⊢;exact⟨f2 k hk,f1.lt k hk⟩
 have hFa:∀l,l<F.length->F.getD l 0=(atN (bcL b p.c.l.length) l:Nat)/\atN (bcL b p.c.l.length) l<p.c.l.length:=λl hl=>by rw[hF] at hl ⊢;exact⟨e2 l hl,e1.lt l hl⟩
 rw[show rkS b p.r.l.length=T from hT.symm]
 refine vk ?_
 show Sd _ _ _ _ _ _
 refine vW 10 42 1 U bL ?_
 show Sd _ _ _ _ _ _
 refine vW 11 53 3 U bL ?_
 show Sd _ _ _ _ _ _
 refine bX (λ_=>true) (λg:List (Sl RatM)×(Nat->RatM)=>cAk p F.length T.length g.1.length g.1.length) (λg=>bVf p b X0 F T g.1 g.1.length g.2) (λ_=>[]) (λg=>g.1.length<=T.length/\(∀k,k<g.1.length->Rl (g.1.getD k cG).l ((List.range F.length).map (crA p q b k)))/\∀k,k<g.1.length->Cr (g.2 k) (crB p q b k)) (λg=>T.length-g.1.length) λhM=>⟨hM ([],λ_=>U6) ⟨aB _,λk hk=>U4 hk (aF _),λk hk=>U4 hk (aF _)⟩ U rS trivial rS bL aVy U,λ⟨L,W⟩ ⟨hL,hLr,hW⟩=>?_⟩
 replace hL:L.length<=T.length:=hL
 replace hLr:∀k,k<L.length->Rl (L.getD k cG).l ((List.range F.length).map (crA p q b k)):=hLr
 replace hW:∀k,k<L.length->Cr (W k) (crB p q b k):=hW
 show Sd _ _ _ _ _ _
 refine Sd.sq (vk (Sd.sq (vk ⟨λh2=>vk ?_,λh2=>vk ?_⟩)))
 ·replace h2:(L.length:Int)<(T.length:Nat):=h2
  have hkn:L.length<T.length:=Uc
  obtain⟨c1,c2⟩:=hTa _ hkn
  show Sd _ _ _ _ _ _
  refine Sd.sq (Sd.blk (Sd.sq (vk ⟨L.length,⟨U,hkn,aCc hkn⟩,_,aCb hkn c1,?_⟩)))
  show Sd _ _ _ _ _ _
  refine Sd.sq (vk ?_)
  show Sd _ _ _ _ _ _
  refine vW 14 53 3 U bL ?_
  show Sd _ _ _ _ _ _
  refine Sd.sq (Sd.sq (vk ?_))
  show Sd _ _ _ _ _ _
  refine Sd.blk ?_
  refine yM (λg:Nat×(Nat->RatM)=>cEf p F.length T.length L.length L.length (atN (brL b p.r.l.length) L.length) g.1) (λg=>cAl p b X0 F T L W g.1 g.2) (λ_=>[]) (λg=>g.1<=F.length/\∀l,l<g.1->Cr (g.2 l) (crA p q b L.length l)) (λg=>F.length-g.1) (λ_=>bL) (λ_=>bMd) (λ_=>U) λfin=>⟨fin (0,λ_=>U6) ⟨aB _,λl hl=>U4 hl (aF _)⟩ rS trivial rS,λ⟨t,V⟩ ⟨ht,hV⟩=>vk ⟨λh3=>vk ?_,λh3=>vk ?_⟩⟩
  all_goals
   replace ht:t<=F.length:=ht
   replace hV:∀l,l<t->Cr (V l) (crA p q b L.length l):=hV
  ·replace h3:(t:Int)<(F.length:Nat):=h3
   have htn:t<F.length:=Uc
   obtain⟨d1,d2⟩:=hFa _ htn
   have hrow:=h.rd.r _ c2
   have hv:=h.v _ c2
   have hge:=aGm (p.r.l.getD (atN (brL b p.r.l.length) L.length) U6).e (atN (bcL b p.c.l.length) t:Nat) hrow.e hv.2.1 (h.e _ c2) h1 hBB (by have:=h.len c2;omega)
   refine⟨t,⟨U,htn,aCc htn⟩,_,aCb htn d1,_,⟨U,c2⟩,[],hge,U,U,U,λg hg=>⟨apR oM,(λc hc=>bJ (cD c hc)),(λc hc=>bJ (aW _ c hc)),(λc hc=>bJ (aW _ c hc)),(λc hc=>bJ (jJ c hc)),(λc hc=>bJ (cD c hc)),(λc hc=>bJ (gF _ c hc)),(t+1:Nat),wi,fin (t+1,upd V t g) ⟨⟨htn,λl hl=>?_⟩,show F.length-(t+1)<F.length-t by omega⟩ ⟨U,U,U,U,U,U,U,?_⟩ U1 rS⟩⟩
   ·show Cr (upd V t g l) _
    replace hl:l<t+1:=hl
    by_cases e:l=t
    ·subst e;rw[bF];exact hg
    rw[aY e];exact hV l oM
   show((53,3,rtC t V++g.C):TypeId×Nat×List CV)=(53,3,rtC (t+1) (upd V t g))
   rw[aCd]
  replace h3:¬(t:Int)<(F.length:Nat):=h3
  obtain rfl:t=F.length:=Uc
  show Sd _ _ _ _ _ _
  refine nS 14 7 (λj=>((fZ V F.length).getD j U6).C) U U (λj hj=>nZ j hj) (by rw[jE (P:=λj=>(V j).C) (e:=3) λ_ _=>U]) bL cD bL λA3 c3 _ _=>⟨λc hc=>bJ (cD c hc),λc hc=>bJ (aW _ c hc),λc hc=>bJ (aW _ c hc),λc hc=>bJ (jJ c hc),λc hc=>bJ (cD c hc),?_⟩
  show Sd _ _ _ _ _ _
  have hac:=cAe (p.r.l.getD (atN (brL b p.r.l.length) L.length) U6) p.c.l.length X0 (hrw (by rw[<-hT];omega) _ c2 X0 hX0)
  refine vk ⟨⟨U,by rw[aK,bE],by show L.length+1<=maxLen;simp only[maxLen];omega,by show(L.length+1)*24<=_;omega,λc hc=>(aO.1 hc).elim (λh=>bJ (jJ c h)) λh=>by rw[aE.1 h];rfl⟩,(λc hc=>bJ (cD c hc)),(λc hc=>bJ (aW _ c hc)),(λc hc=>bJ (aW _ c hc)),(λc hc=>bJ (cD c hc)),(λc hc=>by cases hc),(λc hc=>by rw[aE.1 hc];rfl),.treeX [] [2000,2001,2,2003,2004,2005,6,2007,8,2009,2010,11,2012] (trS [13,14,15,1016,2017]),U0,_,⟨U,c2⟩,_,⟨U,c2⟩,none,[2],hac,U,U,U,λm hm=>⟨U,[],aGi (p.r.l.getD (atN (brL b p.r.l.length) L.length) U6).b m ((h.rd.r _ c2).b.le hBB) (Cr.rq hm ((hdb _ c2).le hBrB)),U,U,U,λg hg=>⟨U,U,apR oM,(λc hc=>bJ (cD c hc)),(λc hc=>bJ (aW _ c hc)),(λc hc=>bJ (aW _ c hc)),(λc hc=>(aO.1 hc).elim (λh=>bJ (jJ c h)) λh=>by rw[aE.1 h];rfl),(λc hc=>by cases hc),(λc hc=>by rw[aE.1 hc];rfl),(λc hc=>bJ (gF _ c hc)),?_⟩⟩⟩
  show Sd _ _ _ _ _ _
  refine vk ⟨(L.length+1:Nat),wi,hM (L++[⟨A3,c3,fZ V F.length⟩],upd W L.length g) ⟨⟨?_,λk hk=>?_,λk hk=>?_⟩,?_⟩ U ⟨U,U,U,U,U,?_,?_⟩ U1 ⟨?_,U,U,U,U,?_,?_,U,U⟩ bL aVy U⟩
  ·show(L++[_]).length<=T.length
   rw[aD];exact hkn
  ·show Rl ((L++[(⟨A3,c3,fZ V F.length⟩:Sl RatM)]).getD k cG).l ((List.range F.length).map (crA p q b k))
   replace hk:k<(L++[(⟨A3,c3,fZ V F.length⟩:Sl RatM)]).length:=hk
   rw[aD] at hk
   replace hk:k<L.length+1:=hk
   by_cases e:k=L.length
   ·subst e
    rw[aC,bH (aH _),gH]
    show Rl (fZ V F.length) _
    refine⟨by rw[jS];simp,λl hl=>?_⟩
    have hl':l<F.length:=by simpa using hl
    rw[nC hl']
    simpa[hl'] using hV l hl'
   rw[aC,aV oM,<-aC]
   exact hLr k oM
  ·show Cr (upd W L.length g k) _
   replace hk:k<(L++[(⟨A3,c3,fZ V F.length⟩:Sl RatM)]).length:=hk
   rw[aD] at hk
   replace hk:k<L.length+1:=hk
   by_cases e:k=L.length
   ·subst e
    rw[bF]
    have e2:dtl (q.M (atN (brL b p.r.l.length) L.length)) (lQ ((List.range p.c.l.length).map (x0N q b)))=dtl (q.M (atN (brL b p.r.l.length) L.length)) (x0N q b):=nA λe he=>by
     have h6:=(h.v _ c2).2.2 e he
     have h7:e.1.toNat<p.c.l.length:=Uc
     unfold lQ
     simp[h7]
    rw[e2] at hg
    show Cr g (q.b _-dtl ((q.M _).take _) (x0N q b))
    rw[cQ];exact hg
   rw[aY e];exact hW k oM
  ·show T.length-(L++[_]).length<T.length-L.length
   rw[aD];show _-(_+1)<_;omega
  ·show((42,1,wT L++[CV.r A3 F.length c3 3 λj=>((fZ V F.length).getD j U6).C]):TypeId×Nat×List CV)=(42,1,wT (L++[⟨A3,c3,fZ V F.length⟩]))
   unfold wT
   rw[bA,qH];rfl
  ·show((53,3,rtC L.length W++g.C):TypeId×Nat×List CV)=(53,3,rtC (L++[_]).length (upd W L.length g))
   rw[aCd,aD];rfl
  ·show((L.length+1:Nat):Int)=(((L++[_]).length:Nat):Int)
   rw[aD];rfl
  ·show L.length+1=(L++[_]).length
   rw[aD];rfl
  show L.length+1=(L++[_]).length
  rw[aD];rfl
 replace h2:¬(L.length:Int)<(T.length:Nat):=h2
 have hLT:L.length=T.length:=Uc
 have hTm:T.length=(brL b p.r.l.length).length:=by rw[hT]
 show Sd _ _ _ _ _ _
 refine nS 10 5 (λj=>[dS (L.getD j cG)]) U U (λj hj=>?_) (by rw[aK,bE]) bL jJ bL λA5 c5 _ _=>⟨λc hc=>bJ (cD c hc),λc hc=>bJ (aW _ c hc),λc hc=>bJ (aW _ c hc),λc hc=>bJ (cD c hc),?_⟩
 ·show [dS (L.getD j cG)]=((wT L).drop (j*1)).take 1
  have hj':j<(wT L).length:=by rw[aK];exact hj
  rw[bE,dK hj']
  simp[aC,hj]
 show Sd _ _ _ _ _ _
 refine nS 11 6 (λj=>((fZ W L.length).getD j U6).C) U U (λj hj=>nZ j hj) (by rw[jE (P:=λj=>(W j).C) (e:=3) λ_ _=>U]) bL cD bL λA6 c6 _ _=>⟨λc hc=>bJ (cD c hc),λc hc=>bJ (aW _ c hc),λc hc=>bJ (aW _ c hc),λc hc=>(dI hc).elim,?_⟩
 show Sd _ _ _ _ _ _
 obtain⟨m,hm⟩:∃m,m=(brL b p.r.l.length).length:=⟨_,U⟩
 rw[<-hm] at hTm hX hB hn
 have hFm:F.length=m:=by rw[hF,hn]
 have hLm:L.length=m:=Uc
 have hcl':∀k,((List.range F.length).map (crA p q b k)).length=m:=λk=>by simp[hFm]
 have rr:Rr (⟨A5,c5,L⟩:Sl (Sl RatM)) (λk=>(List.range F.length).map (crA p q b k)) m m:=⟨hLm,λk hk=>⟨hLr k oM,hcl' k⟩⟩
 have hcA:∀k l,k<m->l<m->rb (crA p q b k l) B:=λk l hk hl=>by
  have r2:=f1.lt k (by rw[<-hm];exact hk)
  exact mK (h.v _ r2).2.1 (h.e _ r2) h1
 have hcB:∀k,k<m->rb (crB p q b k) Br:=λk hk=>by
  rw[hBr];exact aPg (b:=b) h (f1.lt k (by rw[<-hm];exact hk)) (aH _)
 have hrb:∀k,k<m->rbL ((List.range F.length).map (crA p q b k)) B:=λk hk x hx=>by
  obtain⟨l,hl,rfl⟩:=bZ.1 hx
  exact hcA k l hk (by have:=cJ.1 hl;omega)
 have hfb:rbM (λk=>fdF ((List.range F.length).map (crA p q b k)) m) m B:=λk hk=>aKz λl hl=>hrb k hk _ (gD0 (by rw[hcl'];exact hl))
 have hB1:B<=Br:=Uc
 have hfb':rbM (λk=>fdF ((List.range F.length).map (crA p q b k)) m) m Br:=λk hk e he=>(hfb k hk e he).le hB1
 have heA:∀k l,l<m->enM (λk=>fdF ((List.range F.length).map (crA p q b k)) m) k l=crA p q b k l:=λk l hl=>by
  show Vm.get (fdF _ _) (l:Nat)=_
  rw[aBr,U3 ⟨Uc,Uc⟩]
  have:l<F.length:=Uc
  simp[aC,this]
 have hfr:=aEt h hb
 rw[<-hm] at hfr
 have hsum:∀(x:Nat->Rat) k,bN (λl=>enM (λk=>fdF ((List.range F.length).map (crA p q b k)) m) k l*x l) m=bN (λl=>crA p q b k l*x l) m:=λx k=>aZ λl hl=>by rw[heA k l hl]
 have hfr':Free (enM (λk=>fdF ((List.range F.length).map (crA p q b k)) m)) m m:=λx hx=>hfr x λi hi=>by rw[<-hsum];exact hx i hi
 have hTb:T.length=m:=Uc
 rw[show(CV.r A6 L.length c6 3 λj=>((fZ W L.length).getD j U6).C)=dS ⟨A6,c6,fZ W L.length⟩ from qH]
 have hmk:=bDe _ rr hrb h1 hBB oM oM
 rw[show(iC (m:Nat):CV)=iC (F.length:Nat) by rw[hFm]] at hmk
 refine vk ⟨[],hmk,U,U,U,λmm hmm=>⟨[],bGh mm ⟨A6,c6,fZ W L.length⟩ (bv:=crB p q b) (hmm.mr hfb') hfb' oM oM (by rw[jS];exact hLm) (λk hk=>?_) hfr' (λx hx=>hX x λk hk=>by rw[<-hsum];exact hx k hk) hB,U,U,U,λ⟨S,y⟩ ⟨⟨hSl,hS⟩,hy⟩=>?_⟩⟩
 ·show Rq ((fZ W L.length).getD k U6) _ _/\_
  rw[nC oM]
  exact⟨Cr.rq (hW k oM) (hcB k hk),hcB k hk⟩
 replace hSl:S.l.length=m:=hSl
 replace hS:∀j,j<m->Cr (S.l.getD j U6) (y j):=hS
 replace hy:∀i,i<m->bN (λl=>enM (λk=>fdF ((List.range F.length).map (crA p q b k)) m) i l*y l) m=crB p q b i:=hy
 have hy':∀k,k<m->bN (λl=>crA p q b k l*y l) m=crB p q b k:=λk hk=>by rw[<-hsum];exact hy k hk
 have hkinj:∀l l',l<F.length->l'<F.length->atN (bcL b p.c.l.length) l=atN (bcL b p.c.l.length) l'->l=l':=λl l' hl hl' he=>e1.inj (by rw[<-hF];exact hl) (by rw[<-hF];exact hl') he
 show Sd _ _ _ _ _ _
 refine yM (λg:Nat×(Nat->RatM)=>cEg p S F.length g.1) (λg=>cAm p b g.2 F) (λ_=>[]) (λg=>g.1<=F.length/\(∀l,l<g.1->Cr (g.2 (atN (bcL b p.c.l.length) l)) (y l))/\∀j,j<p.c.l.length->(∀l,l<g.1->atN (bcL b p.c.l.length) l≠j)->Cr (g.2 j) (x0N q b j)) (λg=>F.length-g.1) (λ_=>bL) (λ_=>bMe) (λ_=>U) λfin=>⟨fin (0,X0) ⟨aB _,λl hl=>U4 hl (aF _),λj hj _=>hX0 j hj⟩ rS trivial rS,λ⟨k,X'⟩ ⟨hk,hb1,hb2⟩=>vk ⟨λh6=>vk ?_,λh6=>vk ?_⟩⟩
 all_goals
  replace hk:k<=F.length:=hk
  replace hb1:∀l,l<k->Cr (X' (atN (bcL b p.c.l.length) l)) (y l):=hb1
  replace hb2:∀j,j<p.c.l.length->(∀l,l<k->atN (bcL b p.c.l.length) l≠j)->Cr (X' j) (x0N q b j):=hb2
 ·replace h6:(k:Int)<(F.length:Nat):=h6
  have hkn:k<F.length:=Uc
  obtain⟨c1,c2⟩:=hFa k hkn
  refine⟨.seq (sqX [10] 11),U0,k,⟨U,hkn,aCc hkn⟩,_,aCb hkn c1,k,⟨U,by rw[hSl];omega⟩,_,⟨U,c2,eO c2⟩,_,fQ c2,(k+1:Nat),wi,fin (k+1,upd X' (atN (bcL b p.c.l.length) k) (S.l.getD k U6)) ⟨⟨hkn,λl hl=>?_,λj hj hno=>?_⟩,show F.length-(k+1)<F.length-k by omega⟩ rS trivial rS⟩
  ·show Cr (upd X' _ _ (atN (bcL b p.c.l.length) l)) (y l)
   by_cases e:l=k
   ·rw[e,bF];exact hS k oM
   have hl':l<k+1:=hl
   rw[aY λhe=>e (hkinj l k oM hkn he)];exact hb1 l oM
  show Cr (upd X' _ _ j) _
  rw[aY λhe=>hno k (aS k) he.symm];exact hb2 j hj λl hl=>hno l (dY hl)
 replace h6:¬(k:Int)<(F.length:Nat):=h6
 obtain rfl:k=F.length:=Uc
 have hpt:=bOh (w:=y) h hb (by rw[<-hm];exact hy') (by rw[<-hm];exact hX y hy')
 have hcr:∀j,j<p.c.l.length->Cr (X' j) (lQ (ptL p q b y) j):=λj hj=>by
  by_cases hs:b.c.l.getD j 0=2
  ·obtain⟨l,hl,rfl⟩:=e1.all j hj hs
   rw[bFk hl];exact hb1 l (by rw[hF];exact hl)
  rw[aVa hj hs]
  exact hb2 j hj λl hl he=>hs (by rw[<-he];exact e1.mem l (by rw[<-hF];exact hl))
 refine nS 5 2 (λj=>((fZ X' p.c.l.length).getD j U6).C) U U (λj hj=>nZ j hj) (by rw[jE (P:=λj=>(X' j).C) (e:=3) λ_ _=>U]) bL cD bL λA2 c2 _ _=>⟨λc hc=>bJ (aW _ c hc),vk ⟨(⟨A2,c2,fZ X' p.c.l.length⟩,ptL p q b y),⟨⟨?_,λj hj=>?_⟩,hpt⟩,aI qH U tV⟩⟩
 ·show(fZ X' p.c.l.length).length=_
  rw[jS,hpt.ln]
 have hj':j<p.c.l.length:=by rw[hpt.ln] at hj;exact hj
 show Cr ((fZ X' p.c.l.length).getD j U6) (lQ (ptL p q b y) j)
 rw[nC hj'];exact hcr j hj'
theorem aPr {L:List Int} {z:Int} {k:Nat} (hk:k<L.length):atN (L++[z]) k=atN L k:=by
 unfold atN
 rw[aC,aV hk,<-aC]
theorem aPs {L:List Int} {z:Nat}:atN (L++[(z:Int)]) L.length=z:=by
 unfold atN
 rw[aC,bH (aH _),gH];rfl
abbrev bMf (p:ProgM) (b:BasM) (X:Nat->RatM) (T:List Int):BL:=[(25,0,p.C),(28,0,b.C),(53,3,rtC p.r.l.length X),(3,1,T.map iC)]
theorem aVz {p:ProgM} {b:BasM} {X:Nat->RatM} {T:List Int}:scB 4 (bMf p b X T):=aA U (aA U (aA (bG cD) (aA (bG (aW _)) aU)))
abbrev cEh (p:ProgM) (t i:Nat):List (Nat×DV):=[(7,.c (iC i)),(5,.c (.s 2 p.r.l.length)),(6,.c (.s 3 t)),(2,.c (.p 0 0)),(3,.c (.p 1 0))]
abbrev bVg (p:ProgM) (b:BasM) (X:Nat->RatM) (T:List Int) (L:List (Sl RatM)) (k:Nat) (W:Nat->RatM):BL:=bMf p b X T++[(42,1,wT L),(53,3,rtC k W)]
theorem bMg {p:ProgM} {b:BasM} {X:Nat->RatM} {T:List Int} {L:List (Sl RatM)} {k:Nat} {W:Nat->RatM}:scB 6 (bVg p b X T L k W):=aA U (aA U (aA (bG cD) (aA (bG (aW _)) (aA (bG jJ) (aA (bG cD) aU)))))
abbrev cAo (p:ProgM) (t l j:Nat):List (Nat×DV):=[(10,.c (iC j)),(5,.c (.s 2 p.r.l.length)),(6,.c (.s 3 t)),(8,.c (.s 4 l)),(9,.c (.s 5 l)),(2,.c (.p 0 0)),(3,.c (.p 1 0))]
abbrev cAp (p:ProgM) (b:BasM) (X:Nat->RatM) (T:List Int) (L:List (Sl RatM)) (W:Nat->RatM) (t:Nat) (V:Nat->RatM):BL:=bVg p b X T L L.length W++[(53,3,rtC t V)]
theorem bMh {p:ProgM} {b:BasM} {X:Nat->RatM} {T:List Int} {L:List (Sl RatM)} {W:Nat->RatM} {t:Nat} {V:Nat->RatM}:scB 7 (cAp p b X T L W t V):=aA U (aA U (aA (bG cD) (aA (bG (aW _)) (aA (bG jJ) (aA (bG cD) (aA (bG cD) aU))))))
abbrev cEi (p:ProgM) (t l j u:Nat):List (Nat×DV):=(56,.c (iC u))::(54,.c (.s 3 t))::(55,.c (iC t))::(11,.c (.s 6 u))::cAo p t l j
abbrev cEj (p:ProgM) (S:Sl RatM) (t k:Nat):List (Nat×DV):=[(16,.c (iC k)),(14,.c (dS S)),(6,.c (.s 3 t)),(5,.c (.s 2 p.r.l.length))]
theorem cAq (p:ProgM) (b:BasM) {q:PrQ} {B X:Nat} (h:PrV p q B) (hb:BVal p q b) (hk:∀j,j<p.c.l.length->rb (q.k j) B) (hrl:p.r.l.length<=12) (hcl:p.c.l.length<=100) (hX:∀x:Nat->Rat,(∀k,k<(brL b p.r.l.length).length->bN (λi=>crA p q b i k*x i) (brL b p.r.l.length).length=q.k (atN (bcL b p.c.l.length) k))->∀l,l<(brL b p.r.l.length).length->rb (x l) X) (hB:bd B ((brL b p.r.l.length).length-1)+(brL b p.r.l.length).length*(bd B ((brL b p.r.l.length).length-1)+X+1)+2<=4398046511104):Ctr pgQ 31 [] [.a p.C,.a b.C] [] (λg:Sl RatM×List Rat=>⟨.c (dS g.1),[],Rl g.1.l g.2/\MuR p q b (1+X) g.2⟩):=by
 have hBB:=h.hB
 have h1:=h.h1
 have hbc:=hb.ok.c
 have hbr:=hb.ok.r
 have hn:=hb.n
 obtain⟨e1,e2⟩:=sU b p.c.l.length
 obtain⟨f1,f2⟩:=rI b p.r.l.length
 have hml:(brL b p.r.l.length).length<=p.r.l.length:=fA
 refine cw func31 (⟨p.r.l.length,⟨U,U,by show 56*_<=_;omega,by simp only[maxLen];omega⟩,?_⟩)
 show Sd _ _ _ _ _ _
 refine gJ tSd 2 (rtC p.r.l.length λ_=>U6) U jI.1 jI.2 ?_
 show Sd _ _ _ _ _ _
 refine vW 6 3 1 U bL ?_
 show Sd _ _ _ _ _ _
 refine yM (λg:Nat×(Nat->RatM)=>cEh p (rkS b g.1).length g.1) (λg=>bMf p b g.2 (rkS b g.1)) (λ_=>[]) (λg=>g.1<=p.r.l.length/\∀i,i<g.1->Cr (g.2 i) 0) (λg=>p.r.l.length-g.1) (λ_=>bL) (λ_=>aVz) (λ_=>U) λfin=>⟨fin (0,λ_=>U6) ⟨aB _,λj hj=>U4 hj (aF _)⟩ rS trivial rS,λ⟨i,X0⟩ ⟨hi,hX0⟩=>vk ⟨λh2=>vk ?_,λh2=>vk ?_⟩⟩
 all_goals
  replace hi:i<=p.r.l.length:=hi
  replace hX0:∀i',i'<i->Cr (X0 i') 0:=hX0
 ·replace h2:(i:Int)<(p.r.l.length:Nat):=h2
  have hir:i<p.r.l.length:=Uc
  have hrs:(rkS b i).length<=i:=fA
  refine⟨[],xZ,U,U,U,λz hz=>?_⟩
  have hfn:∀i',i'<i+1->Cr (upd X0 i z i') 0:=λi' hi'=>by
   by_cases e:i'=i
   ·rw[e,bF];exact hz
   rw[aY e];exact hX0 i' oM
  refine⟨i,⟨U,hir,eO hir⟩,_,fQ hir,i,⟨U,Uc⟩,λh3=>vk ?_,λh3=>vk ?_⟩
  ·replace h3:b.r.l.getD i 0≠2:=h3
   have hyes:rkS b (i+1)=rkS b i++[(i:Int)]:=gY (P:=λi=>b.r.l.getD i 0≠2) h3
   refine⟨apI (x:=rkS b i) oM,(λc hc=>bJ (cD c hc)),(λc hc=>by rw[aE.1 hc];rfl),(i+1:Nat),wi,fin (i+1,upd X0 i z) ⟨⟨hir,hfn⟩,show p.r.l.length-(i+1)<p.r.l.length-i by omega⟩ ⟨U,U,U,?_⟩ U1 ⟨U,U,?_,U,U⟩⟩
   ·show((3,1,(rkS b i).map iC++[iC (i:Nat)]):TypeId×Nat×List CV)=(3,1,(rkS b (i+1)).map iC)
    rw[hyes,bA];rfl
   show(rkS b i).length+1=(rkS b (i+1)).length
   rw[hyes,aD];rfl
  replace h3:¬b.r.l.getD i 0≠2:=h3
  have hno:rkS b (i+1)=rkS b i:=jO h3
  have bno:((3,1,(rkS b i).map iC):TypeId×Nat×List CV)=(3,1,(rkS b (i+1)).map iC):=by rw[hno]
  have sno:(rkS b i).length=(rkS b (i+1)).length:=by rw[hno]
  exact⟨(i+1:Nat),wi,fin (i+1,upd X0 i z) ⟨⟨hir,hfn⟩,show p.r.l.length-(i+1)<p.r.l.length-i by omega⟩ ⟨U,U,U,bno⟩ U1 ⟨U,U,sno,U,U⟩⟩
 replace h2:¬(i:Int)<(p.r.l.length:Nat):=h2
 obtain rfl:i=p.r.l.length:=Uc
 obtain⟨T,hT⟩:∃T,T=brL b p.r.l.length:=⟨_,U⟩
 have hTl:T.length<=12:=by rw[hT];omega
 have hTa:∀k,k<T.length->T.getD k 0=(atN (brL b p.r.l.length) k:Nat)/\atN (brL b p.r.l.length) k<p.r.l.length:=λk hk=>by rw[hT] at hk ⊢;exact⟨f2 k hk,f1.lt k hk⟩
 rw[show rkS b p.r.l.length=T from hT.symm]
 refine vk ?_
 show Sd _ _ _ _ _ _
 refine vW 8 42 1 U bL ?_
 show Sd _ _ _ _ _ _
 refine vW 9 53 3 U bL ?_
 show Sd _ _ _ _ _ _
 refine yM (λg:Nat×List (Sl RatM)×(Nat->RatM)=>cAo p T.length g.2.1.length g.1) (λg=>bVg p b X0 T g.2.1 g.2.1.length g.2.2) (λ_=>[]) (λg=>g.1<=p.c.l.length/\g.2.1.length=(bkS b g.1).length/\(∀k,k<g.2.1.length->Rl (g.2.1.getD k cG).l ((List.range T.length).map λi=>Vm.get (q.M (atN (brL b p.r.l.length) i)) (atN (bkS b g.1) k:Nat)))/\∀k,k<g.2.1.length->Cr (g.2.2 k) (q.k (atN (bkS b g.1) k))) (λg=>p.c.l.length-g.1) (λ_=>bL) (λ_=>bMg) (λ_=>U) λfin=>⟨fin (0,[],λ_=>U6) ⟨aB _,U,λk hk=>U4 hk (aF _),λk hk=>U4 hk (aF _)⟩ rS trivial rS,λ⟨j,L,W⟩ ⟨hj,hL,hLr,hW⟩=>?_⟩
 replace hj:j<=p.c.l.length:=hj
 replace hL:L.length=(bkS b j).length:=hL
 replace hLr:∀k,k<L.length->Rl (L.getD k cG).l ((List.range T.length).map λi=>Vm.get (q.M (atN (brL b p.r.l.length) i)) (atN (bkS b j) k:Nat)):=hLr
 replace hW:∀k,k<L.length->Cr (W k) (q.k (atN (bkS b j) k)):=hW
 have hbs:(bkS b j).length<=j:=fA
 show Sd _ _ _ _ _ _
 refine Sd.sq (vk ?_)
 refine⟨λh2=>vk ?_,λh2=>vk ?_⟩
 ·replace h2:(j:Int)<(p.c.l.length:Nat):=h2
  have hjn:j<p.c.l.length:=Uc
  show Sd _ _ _ _ _ _
  refine Sd.sq (Sd.blk (Sd.sq (vk ?_)))
  refine⟨j,⟨U,Uc⟩,λh3=>vk ?_,λh3=>vk ?_⟩
  ·replace h3:b.c.l.getD j 0≠2:=h3
   have hno:bkS b (j+1)=bkS b j:=jO (P:=λj=>b.c.l.getD j 0=2) h3
   show Sd _ _ _ _ _ _
   exact vk ⟨(j+1:Nat),wi,fin (j+1,L,W) ⟨⟨hjn,by rw[hno];exact hL,by rw[hno];exact hLr,by rw[hno];exact hW⟩,show p.c.l.length-(j+1)<p.c.l.length-j by omega⟩ rS trivial rS⟩
  replace h3:¬b.c.l.getD j 0≠2:=h3
  have hyes:bkS b (j+1)=bkS b j++[(j:Int)]:=gY (P:=λj=>b.c.l.getD j 0=2) (cR.1 h3)
  show Sd _ _ _ _ _ _
  refine Sd.sq (vk ?_)
  show Sd _ _ _ _ _ _
  refine vW 11 53 3 U bL ?_
  show Sd _ _ _ _ _ _
  refine Sd.sq (Sd.sq (vk ?_))
  show Sd _ _ _ _ _ _
  refine Sd.blk ?_
  refine yM (λg:Nat×(Nat->RatM)=>cEi p T.length L.length j g.1) (λg=>cAp p b X0 T L W g.1 g.2) (λ_=>[]) (λg=>g.1<=T.length/\∀i,i<g.1->Cr (g.2 i) (Vm.get (q.M (atN (brL b p.r.l.length) i)) (j:Nat))) (λg=>T.length-g.1) (λ_=>bL) (λ_=>bMh) (λ_=>U) λfin2=>⟨fin2 (0,λ_=>U6) ⟨aB _,λl hl=>U4 hl (aF _)⟩ rS trivial rS,λ⟨t,V⟩ ⟨ht,hV⟩=>vk ⟨λh3=>vk ?_,λh3=>vk ?_⟩⟩
  all_goals
   replace ht:t<=T.length:=ht
   replace hV:∀i,i<t->Cr (V i) (Vm.get (q.M (atN (brL b p.r.l.length) i)) (j:Nat)):=hV
  ·replace h3:(t:Int)<(T.length:Nat):=h3
   have htn:t<T.length:=Uc
   obtain⟨d1,d2⟩:=hTa _ htn
   have hrow:=h.rd.r _ d2
   have hv:=h.v _ d2
   have hge:=aGm (p.r.l.getD (atN (brL b p.r.l.length) t) U6).e (j:Nat) hrow.e hv.2.1 (h.e _ d2) h1 hBB (by have:=h.len d2;omega)
   refine⟨t,⟨U,htn,aCc htn⟩,_,aCb htn d1,_,⟨U,d2⟩,[],hge,U,U,U,λg hg=>⟨apR oM,(λc hc=>bJ (cD c hc)),(λc hc=>bJ (aW _ c hc)),(λc hc=>bJ (jJ c hc)),(λc hc=>bJ (cD c hc)),(λc hc=>bJ (gF _ c hc)),(t+1:Nat),wi,fin2 (t+1,upd V t g) ⟨⟨htn,λl hl=>?_⟩,show T.length-(t+1)<T.length-t by omega⟩ ⟨U,U,U,U,U,U,?_⟩ U1 rS⟩⟩
   ·show Cr (upd V t g l) _
    replace hl:l<t+1:=hl
    by_cases e:l=t
    ·subst e;rw[bF];exact hg
    rw[aY e];exact hV l oM
   show((53,3,rtC t V++g.C):TypeId×Nat×List CV)=(53,3,rtC (t+1) (upd V t g))
   rw[aCd]
  replace h3:¬(t:Int)<(T.length:Nat):=h3
  obtain rfl:t=T.length:=Uc
  show Sd _ _ _ _ _ _
  refine nS 11 6 (λj=>((fZ V T.length).getD j U6).C) U U (λj hj=>nZ j hj) (by rw[jE (P:=λj=>(V j).C) (e:=3) λ_ _=>U]) bL cD bL λA3 c3 _ _=>⟨λc hc=>bJ (cD c hc),λc hc=>bJ (aW _ c hc),λc hc=>bJ (jJ c hc),λc hc=>bJ (cD c hc),?_⟩
  show Sd _ _ _ _ _ _
  refine vk ⟨⟨U,by rw[aK,bE],by show L.length+1<=maxLen;simp only[maxLen];omega,by show(L.length+1)*24<=_;omega,λc hc=>(aO.1 hc).elim (λh=>bJ (jJ c h)) λh=>by rw[aE.1 h];rfl⟩,(λc hc=>bJ (cD c hc)),(λc hc=>bJ (aW _ c hc)),(λc hc=>bJ (cD c hc)),(λc hc=>(dI hc).elim),(λc hc=>by rw[aE.1 hc];rfl),j,⟨U,hjn⟩,[],gE (p.c.l.getD j U6).k ((h.rd.c j hjn).k.le),U,U,U,λg hg=>⟨apR oM,(λc hc=>bJ (cD c hc)),(λc hc=>bJ (aW _ c hc)),(λc hc=>(aO.1 hc).elim (λh=>bJ (jJ c h)) λh=>by rw[aE.1 h];rfl),(λc hc=>(dI hc).elim),(λc hc=>by rw[aE.1 hc];rfl),(λc hc=>bJ (gF _ c hc)),?_⟩⟩
  show Sd _ _ _ _ _ _
  refine vk ⟨(j+1:Nat),wi,fin (j+1,L++[⟨A3,c3,fZ V T.length⟩],upd W L.length g) ⟨⟨hjn,?_,λk hk=>?_,λk hk=>?_⟩,show p.c.l.length-(j+1)<p.c.l.length-j by omega⟩ ⟨U,U,U,U,?_,?_⟩ U1 ⟨U,U,U,?_,?_,U,U⟩⟩
  ·show(L++[_]).length=(bkS b (j+1)).length
   rw[hyes,aD,aD,hL];rfl
  ·show Rl ((L++[(⟨A3,c3,fZ V T.length⟩:Sl RatM)]).getD k cG).l ((List.range T.length).map λi=>Vm.get (q.M (atN (brL b p.r.l.length) i)) (atN (bkS b (j+1)) k:Nat))
   replace hk:k<(L++[(⟨A3,c3,fZ V T.length⟩:Sl RatM)]).length:=hk
   rw[aD] at hk
   replace hk:k<L.length+1:=hk
   rw[hyes]
   by_cases e:k=L.length
   ·rw[e,hL,aPs,<-hL,aC,bH (aH _),gH]
    show Rl (fZ V T.length) _
    refine⟨by rw[jS];simp,λl hl=>?_⟩
    have hl':l<T.length:=by simpa using hl
    rw[nC hl']
    simpa[hl'] using hV l hl'
   rw[aPr oM,aC,aV oM,<-aC]
   exact hLr k oM
  ·show Cr (upd W L.length g k) (q.k (atN (bkS b (j+1)) k))
   replace hk:k<(L++[(⟨A3,c3,fZ V T.length⟩:Sl RatM)]).length:=hk
   rw[aD] at hk
   replace hk:k<L.length+1:=hk
   rw[hyes]
   by_cases e:k=L.length
   ·rw[e,bF,hL,aPs];exact hg
   rw[aY e,aPr oM];exact hW k oM
  ·show((42,1,wT L++[CV.r A3 T.length c3 3 λj=>((fZ V T.length).getD j U6).C]):TypeId×Nat×List CV)=(42,1,wT (L++[⟨A3,c3,fZ V T.length⟩]))
   unfold wT
   rw[bA,qH];rfl
  ·show((53,3,rtC L.length W++g.C):TypeId×Nat×List CV)=(53,3,rtC (L++[_]).length (upd W L.length g))
   rw[aCd,aD];rfl
  ·show L.length+1=(L++[_]).length
   rw[aD];rfl
  show L.length+1=(L++[_]).length
  rw[aD];rfl
 replace h2:¬(j:Int)<(p.c.l.length:Nat):=h2
 obtain rfl:j=p.c.l.length:=Uc
 show Sd _ _ _ _ _ _
 refine nS 8 4 (λj=>[dS (L.getD j cG)]) U U (λj hj=>?_) (by rw[aK,bE]) bL jJ bL λA5 c5 _ _=>⟨λc hc=>bJ (cD c hc),λc hc=>bJ (aW _ c hc),λc hc=>bJ (cD c hc),?_⟩
 ·show [dS (L.getD j cG)]=((wT L).drop (j*1)).take 1
  have hj':j<(wT L).length:=by rw[aK];exact hj
  rw[bE,dK hj']
  simp[aC,hj]
 show Sd _ _ _ _ _ _
 refine nS 9 5 (λj=>((fZ W L.length).getD j U6).C) U U (λj hj=>nZ j hj) (by rw[jE (P:=λj=>(W j).C) (e:=3) λ_ _=>U]) bL cD bL λA6 c6 _ _=>⟨λc hc=>bJ (cD c hc),λc hc=>bJ (aW _ c hc),λc hc=>(dI hc).elim,?_⟩
 show Sd _ _ _ _ _ _
 obtain⟨m,hm⟩:∃m,m=(brL b p.r.l.length).length:=⟨_,U⟩
 have hTm:T.length=m:=by rw[hT,hm]
 rw[<-hm] at hX hB hn
 replace hL:L.length=(bcL b p.c.l.length).length:=hL
 have hLm:L.length=m:=Uc
 replace hLr:∀k,k<m->Rl (L.getD k cG).l ((List.range T.length).map λi=>crA p q b i k):=λk hk=>hLr k oM
 replace hW:∀k,k<m->Cr (W k) (q.k (atN (bcL b p.c.l.length) k)):=λk hk=>hW k oM
 have hcl':∀k,((List.range T.length).map λi=>crA p q b i k).length=m:=λk=>by simp[hTm]
 have rr:Rr (⟨A5,c5,L⟩:Sl (Sl RatM)) (λk=>(List.range T.length).map λi=>crA p q b i k) m m:=⟨hLm,λk hk=>⟨hLr k hk,hcl' k⟩⟩
 have hcA:∀k l,k<m->rb (crA p q b k l) B:=λk l hk=>by
  have r2:=f1.lt k (by rw[<-hm];exact hk)
  exact mK (h.v _ r2).2.1 (h.e _ r2) h1
 have hkB:∀k,k<m->rb (q.k (atN (bcL b p.c.l.length) k)) B:=λk hk'=>hk _ (e1.lt k oM)
 have hrb:∀k,k<m->rbL ((List.range T.length).map λi=>crA p q b i k) B:=λk hk x hx=>by
  obtain⟨l,hl,rfl⟩:=bZ.1 hx
  exact hcA l k (by have:=cJ.1 hl;omega)
 have hfb:rbM (λk=>fdF ((List.range T.length).map λi=>crA p q b i k) m) m B:=λk hk=>aKz λl hl=>hrb k hk _ (gD0 (by rw[hcl'];exact hl))
 have heA:∀k l,l<m->enM (λk=>fdF ((List.range T.length).map λi=>crA p q b i k) m) k l=crA p q b l k:=λk l hl=>by
  show Vm.get (fdF _ _) (l:Nat)=_
  rw[aBr,U3 ⟨Uc,Uc⟩]
  have:l<T.length:=Uc
  simp[aC,this]
 have hfr:=(aEt h hb).tr
 rw[<-hm] at hfr
 have hsum:∀(x:Nat->Rat) k,bN (λl=>enM (λk=>fdF ((List.range T.length).map λi=>crA p q b i k) m) k l*x l) m=bN (λl=>crA p q b l k*x l) m:=λx k=>aZ λl hl=>by rw[heA k l hl]
 have hfr':Free (enM (λk=>fdF ((List.range T.length).map λi=>crA p q b i k) m)) m m:=λx hx=>hfr x λi hi=>by rw[<-hx i hi];exact(hsum x i).symm
 rw[show(CV.r A6 L.length c6 3 λj=>((fZ W L.length).getD j U6).C)=dS ⟨A6,c6,fZ W L.length⟩ from qH]
 have hmk:=bDe _ rr hrb h1 hBB oM oM
 rw[show(iC (m:Nat):CV)=iC (T.length:Nat) by rw[hTm]] at hmk
 refine vk ⟨[],hmk,U,U,U,λmm hmm=>⟨[],bGh mm ⟨A6,c6,fZ W L.length⟩ (bv:=λk=>q.k (atN (bcL b p.c.l.length) k)) (hmm.mr hfb) hfb h1 oM (by rw[jS];exact hLm) (λk hk=>?_) hfr' (λx hx=>hX x λk hk=>by rw[<-hsum];exact hx k hk) hB,U,U,U,λ⟨S,y⟩ ⟨⟨hSl,hS⟩,hy⟩=>?_⟩⟩
 ·show Rq ((fZ W L.length).getD k U6) _ _/\_
  rw[nC oM]
  exact⟨Cr.rq (hW k hk) (hkB k hk),hkB k hk⟩
 replace hSl:S.l.length=m:=hSl
 replace hS:∀j,j<m->Cr (S.l.getD j U6) (y j):=hS
 replace hy:∀i,i<m->bN (λl=>enM (λk=>fdF ((List.range T.length).map λi=>crA p q b i k) m) i l*y l) m=q.k (atN (bcL b p.c.l.length) i):=hy
 have hy':∀k,k<m->bN (λl=>crA p q b l k*y l) m=q.k (atN (bcL b p.c.l.length) k):=λk hk=>by rw[<-hsum];exact hy k hk
 have hkinj:∀l l',l<T.length->l'<T.length->atN (brL b p.r.l.length) l=atN (brL b p.r.l.length) l'->l=l':=λl l' hl hl' he=>f1.inj (by rw[<-hT];exact hl) (by rw[<-hT];exact hl') he
 show Sd _ _ _ _ _ _
 refine yM (λg:Nat×(Nat->RatM)=>cEj p S T.length g.1) (λg=>bMf p b g.2 T) (λ_=>[]) (λg=>g.1<=T.length/\(∀l,l<g.1->Cr (g.2 (atN (brL b p.r.l.length) l)) (y l))/\∀i,i<p.r.l.length->(∀l,l<g.1->atN (brL b p.r.l.length) l≠i)->Cr (g.2 i) 0) (λg=>T.length-g.1) (λ_=>bL) (λ_=>aVz) (λ_=>U) λfin=>⟨fin (0,X0) ⟨aB _,λl hl=>U4 hl (aF _),λj hj _=>hX0 j hj⟩ rS trivial rS,λ⟨k,X'⟩ ⟨hk,hb1,hb2⟩=>vk ⟨λh6=>vk ?_,λh6=>vk ?_⟩⟩
 all_goals
  replace hk:k<=T.length:=hk
  replace hb1:∀l,l<k->Cr (X' (atN (brL b p.r.l.length) l)) (y l):=hb1
  replace hb2:∀j,j<p.r.l.length->(∀l,l<k->atN (brL b p.r.l.length) l≠j)->Cr (X' j) 0:=hb2
 ·replace h6:(k:Int)<(T.length:Nat):=h6
  have hkn:k<T.length:=Uc
  obtain⟨c1,c2⟩:=hTa k hkn
  refine⟨.seq (sqX [10] 11),U0,k,⟨U,hkn,aCc hkn⟩,_,aCb hkn c1,k,⟨U,by rw[hSl];omega⟩,_,⟨U,c2,eO c2⟩,_,fQ c2,(k+1:Nat),wi,fin (k+1,upd X' (atN (brL b p.r.l.length) k) (S.l.getD k U6)) ⟨⟨hkn,λl hl=>?_,λj hj hno=>?_⟩,show T.length-(k+1)<T.length-k by omega⟩ rS trivial rS⟩
  ·show Cr (upd X' _ _ (atN (brL b p.r.l.length) l)) (y l)
   by_cases e:l=k
   ·rw[e,bF];exact hS k oM
   have hl':l<k+1:=hl
   rw[aY λhe=>e (hkinj l k oM hkn he)];exact hb1 l oM
  show Cr (upd X' _ _ j) _
  rw[aY λhe=>hno k (aS k) he.symm];exact hb2 j hj λl hl=>hno l (dY hl)
 replace h6:¬(k:Int)<(T.length:Nat):=h6
 obtain rfl:k=T.length:=Uc
 have hmu:=bOi (p:=p) (q:=q) (b:=b) (w:=y) hb.n (by rw[<-hm];exact hy') (by rw[<-hm];exact hX y hy')
 have hcr:∀i,i<p.r.l.length->Cr (X' i) (lQ (muL p b y) i):=λi hi=>by
  by_cases hs:b.r.l.getD i 0=2
  ·rw[aVj hi hs]
   exact hb2 i hi λl hl he=>(f1.mem l (by rw[<-hT];exact hl)) (by rw[show atN (brL b p.r.l.length) l=i from he];exact hs)
  obtain⟨l,hl,rfl⟩:=f1.all i hi hs
  rw[bFo hl];exact hb1 l (by rw[hT];exact hl)
 refine nS 5 2 (λj=>((fZ X' p.r.l.length).getD j U6).C) U U (λj hj=>nZ j hj) (by rw[jE (P:=λj=>(X' j).C) (e:=3) λ_ _=>U]) bL cD bL λA2 c2 _ _=>⟨λc hc=>bJ (aW _ c hc),vk ⟨(⟨A2,c2,fZ X' p.r.l.length⟩,muL p b y),⟨⟨?_,λj hj=>?_⟩,hmu⟩,aI qH U tV⟩⟩
 ·show(fZ X' p.r.l.length).length=_
  rw[jS,hmu.ln]
 have hj':j<p.r.l.length:=by rw[hmu.ln] at hj;exact hj
 show Cr ((fZ X' p.r.l.length).getD j U6) (lQ (muL p b y) j)
 rw[nC hj'];exact hcr j hj'
theorem PrE.uniq {p:ProgM} {q:PrQ} {e e':Int} (h:PrE p q e) (h':PrE p q e'):e=e':=by
 by_cases h1:16384<p.c.l.length\/16384<p.r.l.length
 ·rw[h.big h1,h'.big h1]
 by_cases h2:∃j,j<p.c.l.length/\Crs (p.c.l.getD j U6) (q.l j) (q.u j)
 ·rw[h.crs h1 h2,h'.crs h1 h2]
 have h3:∀j,j<p.c.l.length->¬Crs (p.c.l.getD j U6) (q.l j) (q.u j):=λj hj hh=>h2 ⟨j,hj,hh⟩
 by_cases h4:∃i,i<p.r.l.length/\¬PrM p q i
 ·rw[h.bad h1 h3 h4,h'.bad h1 h3 h4]
 have h5:∀i,i<p.r.l.length->PrM p q i:=λi hi=>aN λhh=>h4 ⟨i,hi,hh⟩
 rw[h.ok h1 h3 h5,h'.ok h1 h3 h5]
structure AgP (p:ProgM) (q:PrQ) (B:Nat) (E:Int):Prop where
 rd:PrR p q B
 h1:1<=B
 bB:B<=1048576
 rl:p.r.l.length<=8
 cl:p.c.l.length<=8
 ln:∀i,i<p.r.l.length->(q.M i).length<=16
 e:PrE p q E
 g:E=0->PrG p q B
section ag
variable {p:ProgM} {q:PrQ} {B:Nat} {E:Int} (h:AgP p q B E)
include h
theorem aSi:Ctr pgQ 42 [] [.a p.C] [] (λ_:Unit=>⟨.c (iC E),[],True⟩):=(bEq p h.rd (by have:=h.bB;omega) (by have:=h.cl;omega) (by have:=h.rl;omega)).re λe he=>⟨(),tV,by rw[h.e.uniq he],U,U⟩
theorem bOw:Ctr pgQ 24 [] [.a p.C] [] (λ_:Unit=>⟨.c (iC E),[],True⟩):=(bNw p h.rd (by have:=h.bB;omega) (by have:=h.cl;omega) (by have:=h.rl;omega) λi hi=>by have:=h.ln i hi;omega).re λe he=>⟨(),tV,by rw[h.e.uniq he],U,U⟩
abbrev AgV (p:ProgM) (q:PrQ) (E:Int) (b:BasM):Prop:=E=0/\BVal p q b
open Classical in
noncomputable def agW (p:ProgM) (q:PrQ) (E:Int) (b:BasM):Int:=if E=0/\¬BVal p q b then 1 else E
theorem bGs (b:BasM):Ctr pgQ 23 [] [.a p.C,.a b.C] [] (λ_:Unit=>⟨pC (AgV p q E b),[],True⟩):=by
 by_cases hE:E=0
 ·have hg:=h.g hE
  exact CtrF.re (cAj p b hg.v (by have:=hg.rl;omega) (by have:=hg.cl;omega) (hg.f (by have:=hg.rl;omega))) λ_ _=>⟨(),tV,by rw[show(AgV p q E b)=BVal p q b from propext ⟨λhh=>hh.2,λhh=>⟨hE,hh⟩⟩],U,U⟩
 refine cw func23 (⟨[],bOw h,U,U,U,λ_ _=>⟨λ_=>vk ⟨(),tV,aI (ff λhh=>hE hh.1) U tV⟩,λhh=>U4 (.inl (.inl hE)) hh⟩⟩)
theorem bOx (b:BasM):Ctr pgQ 16 [] [.a p.C,.a b.C] [] (λ_:Unit=>⟨pC (AgV p q E b),[],True⟩):=by
 by_cases hE:E=0
 ·have hg:=h.g hE
  exact CtrF.re (bOg p b hg.v (by have:=hg.rl;omega) (hg.f (by have:=hg.rl;omega))) λ_ _=>⟨(),tV,by rw[show(AgV p q E b)=BVal p q b from propext ⟨λhh=>hh.2,λhh=>⟨hE,hh⟩⟩],U,U⟩
 refine cw func16 (⟨[],aSi h,U,U,U,λ_ _=>⟨λ_=>vk ⟨(),tV,aI (ff λhh=>hE hh.1) U tV⟩,λhh=>U4 hE hh⟩⟩)
theorem bOy (b:BasM) (hV:¬AgV p q E b):Ctr pgQ 40 [] [.a p.C,.a b.C] [] (λ_:Unit=>⟨.t [.a bLa,.c (iC (agW p q E b))],[],True⟩):=by
 by_cases hE:E=0
 ·have hg:=h.g hE
  have hb:¬BVal p q b:=λhh=>hV ⟨hE,hh⟩
  refine CtrF.re (bFi p b hg.v (by have:=hg.rl;omega) (hg.f (by have:=hg.rl;omega))) λg hg=>?_
  cases g with
  |none=>exact⟨(),tV,by rw[show agW p q E b=1 from U3 ⟨hE,hb⟩],U,U⟩
  |some g=>exact U4 (show CorI _ _ _ _ _ _ _ _ _ from hg).v hb
 rw[show agW p q E b=E from U2 λhh=>hE hh.1]
 refine cw func40 (⟨[],aSi h,U,U,U,λ_ _=>⟨λ_=>vk ⟨(),tV,aI ⟨U,U⟩ U tV⟩,λhh=>U4 hE hh⟩⟩)
theorem bOz {b:BasM} (hV:AgV p q E b):agW p q E b=0:=by
 have _:=h
 unfold agW
 rw[U2 λhh=>hh.2 hV.2];exact hV.1
theorem aWa {b:BasM} (hV:¬AgV p q E b):agW p q E b≠0:=by
 have _:=h
 unfold agW
 by_cases hE:E=0
 ·rw[U3 ⟨hE,λhh=>hV ⟨hE,hh⟩⟩];decide
 rw[U2 λhh=>hE hh.1];exact hE
theorem bGt (b:BasM):Ctr pgQ 14 [] [.a p.C,.a b.C] [] (λg:Sl RatM×List Rat=>⟨.t [.c (dS g.1),.c (iC (agW p q E b))],[],(AgV p q E b->PtL p q b g.1 g.2)/\(¬AgV p q E b->g.1.l=[])⟩):=by
 by_cases hV:AgV p q E b
 ·exact CtrF.re (bFp p b (h.g hV.1) hV.2) λg hg=>⟨g,⟨λ_=>hg,λhh=>U4 hV hh⟩,by rw[bOz h hV],U,U⟩
 refine cw func14 (⟨[],bOy h b hV,U,U,U,λ_ _=>⟨λ_=>vk ⟨(cG,[]),⟨λhh=>U4 hh hV,λ_=>U⟩,aI ⟨⟨U,U,U⟩,U⟩ U tV⟩,λhh=>U4 (aWa h hV) hh⟩⟩)
theorem bGu (b:BasM):Ctr pgQ 25 [] [.a p.C,.a b.C] [] (λg:Sl RatM×List Rat=>⟨.t [.c (dS g.1),.c (iC (agW p q E b))],[],(AgV p q E b->MuL p q b g.1 g.2)/\(¬AgV p q E b->g.1.l=[])⟩):=by
 by_cases hV:AgV p q E b
 ·exact CtrF.re (bOl p b (h.g hV.1) hV.2) λg hg=>⟨g,⟨λ_=>hg,λhh=>U4 hV hh⟩,by rw[bOz h hV],U,U⟩
 refine cw func25 (⟨[],bOy h b hV,U,U,U,λ_ _=>⟨λ_=>vk ⟨(cG,[]),⟨λhh=>U4 hh hV,λ_=>U⟩,aI ⟨⟨U,U,U⟩,U⟩ U tV⟩,λhh=>U4 (aWa h hV) hh⟩⟩)
end ag
section ag2
variable {p:ProgM} {q:PrQ} {B:Nat} {b:BasM} (h:PrG p q B) (hb:BVal p q b)
include h hb
theorem bPa:Ctr pgQ 30 [] [.a p.C,.a b.C] [] (λg:Sl RatM×List Rat=>⟨.c (dS g.1),[],PtL p q b g.1 g.2⟩):=CtrF.re (cAn p b h.v hb (by have:=h.rl;omega) (by have:=h.cl;omega) (h.ptx hb) (by
 have h1:bd (2+B+p.c.l.length*(B+B+1)) ((brL b p.r.l.length).length-1)<=bd 17825802 7:=aJ (aEu h.br _) (mV (by have:=h.m (b:=b);omega))
 have h2:(brL b p.r.l.length).length*(bd (2+B+p.c.l.length*(B+B+1)) ((brL b p.r.l.length).length-1)+2852128386+1)<=8*(bd 17825802 7+2852128386+1):=gB h.m oM
 exact aJ oM (show bd 17825802 7+8*(bd 17825802 7+2852128386+1)+2<=4398046511104 by decide+kernel))) λg hg=>⟨g,⟨hg.1,hg.2.ln,hg.2.x0,hg.2.ti,λr hr=>(hg.2.rb r hr).le (by have:=h.bB;omega)⟩,U,U,U⟩
theorem bPb:Ctr pgQ 31 [] [.a p.C,.a b.C] [] (λg:Sl RatM×List Rat=>⟨.c (dS g.1),[],MuL p q b g.1 g.2⟩):=CtrF.re (cAq p b h.v hb h.k (by have:=h.rl;omega) (by have:=h.cl;omega) (h.mux hb) (by
 have h1:bd B ((brL b p.r.l.length).length-1)<=bd 1048576 7:=h.fm
 have h2:(brL b p.r.l.length).length*(bd B ((brL b p.r.l.length).length-1)+2852128386+1)<=8*(bd 1048576 7+2852128386+1):=gB h.m oM
 exact aJ oM (show bd 1048576 7+8*(bd 1048576 7+2852128386+1)+2<=4398046511104 by decide+kernel))) λg hg=>⟨g,⟨hg.1,hg.2.ln,hg.2.y0,hg.2.d,λr hr=>(hg.2.rb r hr).le dC⟩,U,U,U⟩
end ag2
def Pri (p:ProgM) (q:PrQ) (E:Int) (b:BasM):Prop:=AgV p q E b/\∃qs,PtR p q b 2900000000 qs/\Fsb p q qs
theorem aWb {p:ProgM} {q:PrQ} {B:Nat} {E:Int} {b:BasM} (h:PrG p q B) (hV:AgV p q E b) {qs:List Rat} (hx:PtR p q b 2900000000 qs):Fsb p q qs↔Pri p q E b:=⟨λhh=>⟨hV,qs,hx,hh⟩,λ⟨_,qs',hx',hh⟩=>by rw[PtR.uniq hV.2 h.v hx hx'];exact hh⟩
section ag3
variable {p:ProgM} {q:PrQ} {B:Nat} {E:Int} (h:AgP p q B E)
include h
theorem bPc (b:BasM):Ctr pgQ 21 [] [.a p.C,.a b.C] [] (λ_:Unit=>⟨pC (Pri p q E b),[],True⟩):=by
 by_cases hV:AgV p q E b
 ·exact CtrF.re (bOm p b (h.g hV.1) hV.2) λg hg=>⟨(),tV,by show pC (Pri p q E b)=pC (Fsb p q g.2);rw[show Fsb p q g.2=Pri p q E b from propext (aWb (h.g hV.1) hV (show PtL p q b g.1 g.2 from hg).2)],U,U⟩
 exact cw func21 (⟨[],bGt h b,U,U,U,λg hg=>⟨λhh=>U4 hh (aWa h hV),λ_=>⟨(),tV,aI (ff λhh=>hV hh.1) U tV⟩⟩⟩)
theorem bPd (b:BasM):Ctr pgQ 27 [] [.a p.C,.a b.C] [] (λ_:Unit=>⟨pC (Pri p q E b),[],True⟩):=by
 refine cw func27 (⟨.seq (sqX [8] 11),U0,[],bGs h b,U,U,U,λ_ _=>⟨λhV=>?_,λhV=>?_⟩⟩)
 ·replace hV:AgV p q E b:=hV
  have hg':=h.g hV.1
  exact⟨[],bPa hg' hV.2,U,U,U,λg hg=>⟨[],bYn p g.1 (hg'.px hg),U,U,U,λ_ _=>⟨(),tV,aI (aWb hg' hV (show PtL p q b g.1 g.2 from hg).2) U tV⟩⟩⟩
 exact⟨(),tV,aI (ff λhh=>hV hh.1) U tV⟩
end ag3
def Dua (p:ProgM) (q:PrQ) (E:Int) (b:BasM):Prop:=AgV p q E b/\∃ps,MuR p q b 2900000000 ps/\Sgd p ps/\DuR p q b ps p.c.l.length
theorem aEx {p:ProgM} {q:PrQ} {B:Nat} {E:Int} {b:BasM} (h:PrG p q B) (hV:AgV p q E b) {ps:List Rat} (hx:MuR p q b 2900000000 ps):(Sgd p ps/\DuR p q b ps p.c.l.length)↔Dua p q E b:=⟨λhh=>⟨hV,ps,hx,hh⟩,λ⟨_,ps',hx',hh⟩=>by rw[MuR.uniq hV.2 h.v hx hx'];exact hh⟩
section ag4
variable {p:ProgM} {q:PrQ} {B:Nat} {E:Int} (h:AgP p q B E)
include h
theorem bPe (b:BasM):Ctr pgQ 22 [] [.a p.C,.a b.C] [] (λ_:Unit=>⟨pC (Dua p q E b),[],True⟩):=by
 by_cases hV:AgV p q E b
 ·exact CtrF.re (bOn p b (h.g hV.1) hV.2) λg hg=>⟨(),tV,by show pC (Dua p q E b)=pC (Sgd p g.2/\DuR p q b g.2 p.c.l.length);rw[show(Sgd p g.2/\DuR p q b g.2 p.c.l.length)=Dua p q E b from propext (aEx (h.g hV.1) hV (show MuL p q b g.1 g.2 from hg).2)],U,U⟩
 exact cw func22 (⟨[],bGu h b,U,U,U,λg hg=>⟨λ_=>⟨(),tV,aI (ff λhh=>hV hh.1) U tV⟩,λhh=>U4 (aWa h hV) hh⟩⟩)
end ag4
abbrev rdB (p:ProgM) (b:BasM):BL:=[(25,0,p.C),(28,0,b.C)]
theorem bGv {p:ProgM} {b:BasM}:scB 2 (rdB p b):=aA U (aA U aU)
theorem aWc {p:ProgM} {b:BasM} {c:ColM}:scB 3 (rdB p b++[(67,0,c.C)]):=aA U (aA U (aA U aU))
abbrev rdG (d:Sl RatM) (k:Nat):List (Nat×DV):=[(7,.c (iC k)),(2,.c (.p 0 0)),(3,.c (.p 1 0)),(6,.c (dS d))]
def cAr:Ord:=.joinX [] [2000,1,2002,2003,4,2005,2006,2007,8] (.alt 9 (trS [10,11,2012]) (.alt 10 (trS [9,11,2012]) .nil))
section ag5
variable {p:ProgM} {q:PrQ} {B:Nat} {E:Int} (h:AgP p q B E)
include h
theorem bPf (b:BasM):Ctr pgQ 28 [] [.a p.C,.a b.C] [] (λ_:Unit=>⟨pC (Dua p q E b),[],True⟩):=by
 refine cw func28 (⟨[],bGs h b,U,U,U,λ_ _=>⟨λhV=>vk ?_,λhV=>vk ?_⟩⟩)
 ·replace hV:¬AgV p q E b:=hV
  exact⟨(),tV,aI (ff λhh=>hV hh.1) U tV⟩
 replace hV:AgV p q E b:=cR.1 hV
 have hG:=h.g hV.1
 refine⟨[],bPb hG hV.2,U,U,U,λg hg=>⟨[],bYp p g.1 (hG.py hg),U,U,U,λ_ _=>⟨λh2=>vk ?_,λh2=>vk ⟨[],bYr p g.1 (hG.pz hg),U,U,U,λd ⟨hd1,hd2⟩=>?_⟩⟩⟩⟩
 ·replace h2:¬Sgd p g.2:=h2
  exact⟨(),tV,aI (ff λhh=>h2 ((aEx hG hV (show MuL p q b g.1 g.2 from hg).2).2 hh).1) U tV⟩
 replace h2:Sgd p g.2:=cR.1 h2
 replace hd1:d.l.length=p.c.l.length:=hd1
 replace hd2:∀j,j<p.c.l.length->Cr (d.l.getD j U6) (kF q g.2 p.r.l.length j):=hd2
 have hbc:=hV.2.ok.c
 have hpc:=hG.cl
 show Sd _ _ _ _ _ _
 refine yM (λk:Nat=>rdG d k) (λ_=>rdB p b) (λ_=>[]) (λk=>k<=p.c.l.length/\DuR p q b g.2 k) (λk=>p.c.l.length-k) (λ_=>bL) (λ_=>bGv) (λ_=>U) λfin=>⟨fin 0 ⟨aB _,λj hj=>U4 hj (aF _)⟩ ⟨U,U⟩ U1 rS,λk ⟨hk,hD⟩=>vk ⟨λh3=>vk ?_,λh3=>vk ?_⟩⟩
 ·replace h3:(k:Int)<(d.l.length:Nat):=h3
  have hkn:k<p.c.l.length:=Uc
  have hcol:=h.rd.c k hkn
  have nxt:(¬(b.c.l.getD k 0=2\/Fxd (p.c.l.getD k U6) (q.l k) (q.u k))->¬Dbr (b.c.l.getD k 0) (kF q g.2 p.r.l.length k))->DuR p q b g.2 (k+1):=λhh j hj=>by
   rcases bR (cB hj) with e|e
   ·exact hD j e
   subst e;exact hh
  have hz:=(hG.pz hg).rd hkn p.r.l.length (aH _)
  have hzb:=(hG.pz hg).b
  have hzq:Rq (d.l.getD k U6) (kF q g.2 p.r.l.length k) 4398046511104:=Cr.rq (hd2 k hkn) (hz.le (by rw[dH] at hzb;omega))
  refine⟨cAr,U0,Unit,λ_=>⟨[(9,.c (iC (sgn (kF q g.2 p.r.l.length k).num))),(8,.c (.p 2 0)),(7,.c (iC k)),(2,.c (.p 0 0)),(3,.c (.p 1 0)),(6,.c (dS d))]++[],[],rdB p b++[(67,0,(p.c.l.getD k U6).C)],[]⟩,λ_=>True,⟨k,⟨U,hkn⟩,k,⟨U,Uc⟩,?_⟩,λ_ _=>?_⟩
  ·have hsg:=tT (d.l.getD k U6) (hzq.le dC)
   exact⟨⟨[],hsg,U,U,U,λ_ _=>⟨U,U,U,iP g0 (chg:=λ_:Unit=>[(9,.c (iC (sgn (kF q g.2 p.r.l.length k).num))),(8,.c (.p 2 0)),(7,.c (iC k)),(2,.c (.p 0 0)),(3,.c (.p 1 0)),(6,.c (dS d))]) (bls:=λ_=>rdB p b++[(67,0,(p.c.l.getD k U6).C)]) (fls:=λ_=>[]) () trivial U ⟨U,U,U⟩ U1 rS bL aWc U⟩⟩,⟨U,[],hsg,U,U,U,λ_ _=>⟨U,U,iP g0 (chg:=λ_:Unit=>[(9,.c (iC (sgn (kF q g.2 p.r.l.length k).num))),(8,.c (.p 2 0)),(7,.c (iC k)),(2,.c (.p 0 0)),(3,.c (.p 1 0)),(6,.c (dS d))]) (bls:=λ_=>rdB p b++[(67,0,(p.c.l.getD k U6).C)]) (fls:=λ_=>[]) () trivial U ⟨U,U,U⟩ U1 rS bL aWc U⟩⟩⟩
  have hst:=hV.2.ok.pc k hkn
  have no:∀{P:Prop},(P↔Fxd (p.c.l.getD k U6) (q.l k) (q.u k))->¬(b.c.l.getD k 0=2\/P)->Dbr (b.c.l.getD k 0) (kF q g.2 p.r.l.length k)->¬Dua p q E b:=λhP h1 h2 hh=>((aEx hG hV (show MuL p q b g.1 g.2 from hg).2).2 hh).2 k hkn (by rw[<-hP];exact h1) h2
  have on:∀{P:Prop},(P↔Fxd (p.c.l.getD k U6) (q.l k) (q.u k))->((b.c.l.getD k 0=2\/P)\/¬Dbr (b.c.l.getD k 0) (kF q g.2 p.r.l.length k))->DuR p q b g.2 (k+1)/\p.c.l.length-(k+1)<p.c.l.length-k:=λhP h1=>⟨nxt λhh=>h1.elim (λh2=>U4 (by rw[<-hP];exact h2) hh) id,Uc⟩
  obtain⟨st,hst'⟩:∃st,st=b.c.l.getD k 0:=⟨_,U⟩
  obtain⟨sg,hsg'⟩:∃sg,sg=sgn (kF q g.2 p.r.l.length k).num:=⟨_,U⟩
  have hst3:st=2\/st=0\/st=1\/st=3:=by rw[hst'];exact hst.imp id λh=>h.imp And.left λh=>h.imp And.left And.left
  have d1:b.c.l.getD k 0=0/\sgn (kF q g.2 p.r.l.length k).num<0->Dbr (b.c.l.getD k 0) (kF q g.2 p.r.l.length k):=λhh=> .inl ⟨hh.2,by rw[hh.1];decide⟩
  have d2:b.c.l.getD k 0=1/\0<sgn (kF q g.2 p.r.l.length k).num->Dbr (b.c.l.getD k 0) (kF q g.2 p.r.l.length k):=λhh=> .inr ⟨hh.2,by rw[hh.1];decide⟩
  have d3:b.c.l.getD k 0=3/\sgn (kF q g.2 p.r.l.length k).num≠0->Dbr (b.c.l.getD k 0) (kF q g.2 p.r.l.length k):=λhh=>by unfold Dbr;rw[hh.1];have:=hh.2;omega
  have d4:∀(_:¬(b.c.l.getD k 0=0/\sgn (kF q g.2 p.r.l.length k).num<0)) (_:¬(b.c.l.getD k 0=1/\0<sgn (kF q g.2 p.r.l.length k).num)) (_:¬(b.c.l.getD k 0=3/\sgn (kF q g.2 p.r.l.length k).num≠0)),b.c.l.getD k 0≠2->¬Dbr (b.c.l.getD k 0) (kF q g.2 p.r.l.length k):=λa1 a2 a3 a4=>by unfold Dbr;rw[<-hst',<-hsg'] at*;omega
  refine⟨λh4=>⟨[],aCr (p.c.l.getD k U6).l (p.c.l.getD k U6).u (hcol.l.le) (hcol.u.le),U,U,U,λ_ _=>?_⟩,λh4=>?_⟩
  ·have hP:sgn (q.l k-q.u k).num=0↔Fxd (p.c.l.getD k U6) (q.l k) (q.u k):=⟨λhh=>⟨h4,by have:=cY.1 (fT.1 hh);grind⟩,λhh=>by rw[hh.2,show q.u k-q.u k=0 by grind];rfl⟩
   refine⟨k,⟨U,Uc⟩,λh5=>vk ⟨(k+1:Nat),wi,fin (k+1) ⟨⟨hkn,(on hP (.inl h5)).1⟩,(on hP (.inl h5)).2⟩ ⟨U,U⟩ U1 rS⟩,λh5=>vk ⟨k,⟨U,Uc⟩,λh6=>vk ⟨λ_=>vk ⟨(),tV,aI (ff (no hP h5 ?_)) U tV⟩,λhh=>U4 h6 hh⟩,λh6=>vk ⟨k,⟨U,Uc⟩,λh7=>vk ⟨λ_=>vk ⟨(),tV,aI (ff (no hP h5 ?_)) U tV⟩,λhh=>U4 h7 hh⟩,λh7=>vk ⟨k,⟨U,Uc⟩,λh8=>vk ⟨(),tV,aI (ff (no hP h5 ?_)) U tV⟩,λh8=>vk ⟨(k+1:Nat),wi,fin (k+1) ⟨⟨hkn,(on hP (.inr ?_)).1⟩,(on hP (.inr ?_)).2⟩ ⟨U,U⟩ U1 rS⟩⟩⟩⟩⟩
   ·exact d1 h6
   ·exact d2 h7
   ·exact d3 h8
   ·exact d4 h6 h7 h8 λhh=>h5 (.inl hh)
   exact d4 h6 h7 h8 λhh=>h5 (.inl hh)
  have hP:False↔Fxd (p.c.l.getD k U6) (q.l k) (q.u k):=⟨False.elim,λhh=>h4 hh.1⟩
  refine⟨k,⟨U,Uc⟩,λh5=>vk ⟨(k+1:Nat),wi,fin (k+1) ⟨⟨hkn,(on hP (.inl (.inl h5))).1⟩,(on hP (.inl (.inl h5))).2⟩ ⟨U,U⟩ U1 rS⟩,λh5=>vk ⟨k,⟨U,Uc⟩,λh6=>vk ⟨λ_=>vk ⟨(),tV,aI (ff (no hP (λhh=>hh.elim h5 id) (d1 h6))) U tV⟩,λhh=>U4 h6 hh⟩,λh6=>vk ⟨k,⟨U,Uc⟩,λh7=>vk ⟨λ_=>vk ⟨(),tV,aI (ff (no hP (λhh=>hh.elim h5 id) (d2 h7))) U tV⟩,λhh=>U4 h7 hh⟩,λh7=>vk ⟨k,⟨U,Uc⟩,λh8=>vk ⟨(),tV,aI (ff (no hP (λhh=>hh.elim h5 id) (d3 h8))) U tV⟩,λh8=>vk ⟨(k+1:Nat),wi,fin (k+1) ⟨⟨hkn,(on hP (.inr (d4 h6 h7 h8 h5))).1⟩,(on hP (.inr (d4 h6 h7 h8 h5))).2⟩ ⟨U,U⟩ U1 rS⟩⟩⟩⟩⟩
 replace h3:¬(k:Int)<(d.l.length:Nat):=h3
 obtain rfl:k=p.c.l.length:=Uc
 exact vk ⟨(),tV,aI (tt ((aEx hG hV (show MuL p q b g.1 g.2 from hg).2).1 ⟨h2,hD⟩)) U tV⟩
end ag5
def sqP (l f:List Nat):List (Nat×Bool):=l.map λi=>(i,f.contains i)
theorem RpR.uniq {p:ProgM} {q:PrQ} {b g g':BasM} (h:RpR p q b g) (h':RpR p q b g'):g.c.l=g'.c.l/\g.r.l=g'.r.l:=by
 refine⟨yL (by rw[h.cl,h'.cl]) λj hj=>?_,yL (by rw[h.rl,h'.rl]) λi hi=>?_⟩
 ·rw[h'.cl] at hj
  by_cases hex:∃k,k<(gZ p q b).length/\atN (wnL p b) (atN (gZ p q b) k)=j
  ·obtain⟨k,hk,rfl⟩:=hex
   rw[h.c2 k hk,h'.c2 k hk]
  have hno:∀k,k<(gZ p q b).length->atN (wnL p b) (atN (gZ p q b) k)≠j:=λk hk e=>hex ⟨k,hk,e⟩
  rw[h.c0 j hj hno,h'.c0 j hj hno]
 rw[h'.rl] at hi
 by_cases hex:∃k,k<(ltL p q b).length/\atN (ltL p q b) k=i
 ·obtain⟨k,hk,rfl⟩:=hex
  rw[h.r0 k hk,h'.r0 k hk]
 have hno:∀k,k<(ltL p q b).length->atN (ltL p q b) k≠i:=λk hk e=>hex ⟨k,hk,e⟩
 rw[h.r2 i hi hno,h'.r2 i hi hno]
theorem aWd (x y:Sl RatM) {qs:List Rat} (hx:Rl x.l qs) (hy:Rl y.l qs) (hb:rbL qs 2900000000) (hn:qs.length<=8):Ctr pgQ 17 [] [.c (dS x),.c (dS y)] [] (λ_:Unit=>⟨pC True,[],True⟩):=aUe x y hx hy (λr hr=>(hb r hr).le dC) oM
abbrev cEk:Ord:=.seq (sqP [0,1,3,2,4,5,6] [4])
abbrev cAs:Ord:=.seq (sqP [0,1,3,2,4,5,6,7,8,9,10,11,12,13,14,15,16,17,18,19,20,21,22,23,24,25,26,27,29,30,28,31,32,33,34,35,36,38,39,37,40,41,42] [40])
abbrev bPg:Ord:=.seq (sqX [13] 17)
theorem aMs {p:ProgM} {s:BasM} (h:SlR p s) (hc:p.c.l.length<=8) (hr:p.r.l.length<=8):s.c.l.length<=4096/\s.r.l.length<=4096:=by
 rw[h.1,h.2]
 unfold dcL
 simp
 omega
section ag
variable {p:ProgM} {q:PrQ} {B:Nat} {E:Int} (h:AgP p q B E)
include h
theorem bGw (b:BasM):Ctr pgQ 15 [] [.a p.C,.a b.C] [] (λg:BasM=>⟨.t [.a g.C,.c (iC E)],[],E=0->RpR p q b g⟩):=by
 by_cases hE:E=0
 ·have hg:=h.g hE
  have hcl:=hg.cl
  have hrl:=hg.rl
  rw[hE]
  exact CtrF.re (bOo p b hg.v oM oM (hg.f hrl)) λg hg=>⟨g,λ_=>hg,U,U,U⟩
 have h0:Ctr pgQ 15 [] [.a p.C,.a b.C] [] (λ_:Unit=>⟨.t [.a rrO,.c (iC E)],[],True⟩):=cw func15 (⟨[],aSi h,U,U,U,λ_ _=>⟨λ_=>vk ⟨(),tV,aI ⟨U,U⟩ U tV⟩,λhh=>U4 hE hh⟩⟩)
 refine CtrF.ld h0 λ_ _=>⟨⟨cG,cG⟩,λhh=>U4 hh hE,λD n w v hv=>?_,U,U⟩
 show Hd D n w (.t [.a (⟨cG,cG⟩:BasM).C,.c (iC E)]) v
 replace hv:Hd D n w (.t [.a rrO,.c (iC E)]) v:=hv
 cases hv with
 |t hl hh=>
  refine .t hl λi d u h1 h2=>?_
  match i,h1 with
  |0,h1=>
   obtain rfl:=oV h1
   exact LeL.hd aSe U (hh 0 _ u U h2)
  |1,h1=>exact hh 1 d u h1 h2
  |i+2,h1=>cases h1
theorem bPh:Ctr pgQ 26 [] [.a p.C] [] (λg:BasM=>⟨.t [.a g.C,.c (iC E)],[],E=0->SlR p g⟩):=by
 have hz:Ctr pgQ 15 [] [.a p.C,.a rrO] [] (λg:BasM=>⟨.t [.a g.C,.c (iC E)],[],E=0->RpR p q ⟨cG,cG⟩ g⟩):=CtrF.arg (al:=[.a p.C,.a (⟨cG,cG⟩:BasM).C]) (bGw h ⟨cG,cG⟩) λD n w vals hv=>by
  match vals,hv with
  |[x,y],⟨hx,hy,_⟩=>exact⟨hx,LeL.hd aSe U hy,tV⟩
 exact cw func26 (⟨[],hz,U,U,U,λg hg=>⟨g,λhE=>RpR.slack (hg hE),aI ⟨U,U⟩ U tV⟩⟩)
theorem aPt (b:BasM):Ctr pgQ 9 [] [.a p.C,.a b.C] [] (λ_:Unit=>⟨pC True,[],True⟩):=by
 refine cw func9 (⟨cEk,U0,[],bGs h b,U,U,U,λ_ _=>⟨[],bOw h,U,U,U,λ_ _=>⟨λh1=>vk ?_,λh1=>vk ?_⟩⟩⟩)
 ·replace h1:E=0/\¬AgV p q E b:=h1
  have hW:agW p q E b=1:=U3 ⟨h1.1,λhh=>h1.2 ⟨h1.1,hh⟩⟩
  have n9:¬((((¬(AgV p q E b↔AgV p q E b)\/agW p q E b≠1)\/agW p q E b≠1)\/E≠E)\/E≠E):=λhh=>hh.elim (λhh=>hh.elim (λhh=>hh.elim (λhh=>hh.elim (λh=>h iO) λh=>h hW) λh=>h hW) λh=>h U) λh=>h U
  refine⟨[],bGt h b,U,U,U,λ⟨x,qs⟩ hx=>⟨[],bGu h b,U,U,U,λ⟨y,ps⟩ hy=>⟨[],bGw h b,U,U,U,λr hr=>⟨[],bPh h,U,U,U,λs hs=>⟨cAs,U0,[],bOx h b,U,U,U,λ_ _=>⟨λh2=>U4 h2 n9,λ_=>⟨[],bPc h b,U,U,U,λ_ _=>⟨[],bPd h b,U,U,U,λ_ _=>⟨λh2=>U4 iO h2,λ_=>⟨[],bPe h b,U,U,U,λ_ _=>⟨[],bPf h b,U,U,U,λ_ _=>⟨λh2=>U4 iO h2,λ_=>vk ?_⟩⟩⟩⟩⟩⟩⟩⟩⟩⟩⟩⟩
  have hg:=h.g h1.1
  have hcl:=hg.cl
  have hrl:=hg.rl
  refine⟨bPg,U0,⟨λhE=>⟨[],bGp p b hg.v oM oM (hg.f hrl),U,U,U,λr' hr'=>⟨[],aPk r r' (by rw[(hr hE).cl];omega) (by rw[(hr hE).rl];omega),U,U,U,λ_ _=>⟨λh3=>U4 ((hr hE).uniq hr') h3,λh3=>⟨[],bOv p oM oM,U,U,U,λs' hs'=>⟨[],aPk s s' (aMs (hs hE) hcl hrl).1 (aMs (hs hE) hcl hrl).2,U,U,U,λ_ _=>⟨λh4=>U4 ⟨(hs hE).1.trans (show SlR p s' from hs').1.symm,(hs hE).2.trans (show SlR p s' from hs').2.symm⟩ h4,λh4=>vk ⟨λh5=>?_,λh5=>?_⟩⟩⟩⟩⟩⟩⟩,λhE=>U4 h1.1 hE⟩⟩
  ·exact⟨(),tV,aI (tt tV) U tV⟩
  exact U4 ⟨⟨h1.2,by show(x.l.length:Int)=0;rw[show x.l=[] from hx.2 h1.2];rfl⟩,by show(y.l.length:Int)=0;rw[show y.l=[] from hy.2 h1.2];rfl⟩ h5
 replace h1:¬(E=0/\¬AgV p q E b):=h1
 have hW:agW p q E b=E:=U2 λhh=>h1 ⟨hh.1,λhv=>hh.2 hv.2⟩
 have n9:¬((((¬(AgV p q E b↔AgV p q E b)\/agW p q E b≠E)\/agW p q E b≠E)\/E≠E)\/E≠E):=λhh=>hh.elim (λhh=>hh.elim (λhh=>hh.elim (λhh=>hh.elim (λh=>h iO) λh=>h hW) λh=>h hW) λh=>h U) λh=>h U
 refine⟨[],bGt h b,U,U,U,λ⟨x,qs⟩ hx=>⟨[],bGu h b,U,U,U,λ⟨y,ps⟩ hy=>⟨[],bGw h b,U,U,U,λr hr=>⟨[],bPh h,U,U,U,λs hs=>⟨cAs,U0,[],bOx h b,U,U,U,λ_ _=>⟨λh2=>U4 h2 n9,λ_=>⟨[],bPc h b,U,U,U,λ_ _=>⟨[],bPd h b,U,U,U,λ_ _=>⟨λh2=>U4 iO h2,λ_=>⟨[],bPe h b,U,U,U,λ_ _=>⟨[],bPf h b,U,U,U,λ_ _=>⟨λh2=>U4 iO h2,λ_=>vk ?_⟩⟩⟩⟩⟩⟩⟩⟩⟩⟩⟩⟩
 refine⟨bPg,U0,⟨λhE=>?_,λhE=>?_⟩⟩
 ·have hV:AgV p q E b:=aN λhh=>h1 ⟨hE,hh⟩
  have hg:=h.g hE
  have hcl:=hg.cl
  have hrl:=hg.rl
  have hX:PtL p q b x qs:=hx.1 hV
  have hY:MuL p q b y ps:=hy.1 hV
  refine⟨[],bGp p b hg.v oM oM (hg.f hrl),U,U,U,λr' hr'=>⟨[],aPk r r' (by rw[(hr hE).cl];omega) (by rw[(hr hE).rl];omega),U,U,U,λ_ _=>⟨λh3=>U4 ((hr hE).uniq hr') h3,λh3=>⟨[],bOv p oM oM,U,U,U,λs' hs'=>⟨[],aPk s s' (aMs (hs hE) hcl hrl).1 (aMs (hs hE) hcl hrl).2,U,U,U,λ_ _=>⟨λh4=>U4 ⟨(hs hE).1.trans (show SlR p s' from hs').1.symm,(hs hE).2.trans (show SlR p s' from hs').2.symm⟩ h4,λh4=>vk ?_⟩⟩⟩⟩⟩⟩
  refine⟨λh5=>U4 hV h5.1.1,λh5=>⟨λ_=>⟨[],bPa hg hV.2,U,U,U,λ⟨x',qs'⟩ hx'=>?_⟩,λhh=>U4 hV hh⟩⟩
  have eX:qs'=qs:=PtR.uniq hV.2 hg.v (show PtL p q b x' qs' from hx').2 hX.2
  refine⟨[],aWd x x' hX.1 (by rw[<-eX];exact(show PtL p q b x' qs' from hx').1) hX.2.rb (by rw[hX.2.ln];exact hcl),U,U,U,λ_ _=>⟨λh6=>⟨[],bPb hg hV.2,U,U,U,λ⟨y',ps'⟩ hy'=>?_⟩,λh6=>?_⟩⟩
  ·have eY:ps'=ps:=MuR.uniq hV.2 hg.v (show MuL p q b y' ps' from hy').2 hY.2
   refine⟨[],aWd y y' hY.1 (by rw[<-eY];exact(show MuL p q b y' ps' from hy').1) hY.2.rb (by rw[hY.2.ln];exact hrl),U,U,U,λ_ _=>⟨(),tV,aI iO U tV⟩⟩
  exact U4 trivial h6
 have hV:¬AgV p q E b:=λhh=>hE hh.1
 refine⟨λh5=>⟨(),tV,aI (tt tV) U tV⟩,λh5=>?_⟩
 exact U4 ⟨⟨hV,by show(x.l.length:Int)=0;rw[show x.l=[] from hx.2 hV];rfl⟩,by show(y.l.length:Int)=0;rw[show y.l=[] from hy.2 hV];rfl⟩ h5
end ag
structure SmA (p:ProgM) (b:BasM):Prop where
 cl:p.c.l.length<=8
 rl:p.r.l.length<=8
 e:∀i,i<p.r.l.length->(p.r.l.getD i U6).e.l.length<=16
abbrev laG (i:Nat):List (Nat×DV):=[(5,.c (iC i)),(2,.c (.p 0 0)),(3,.c (.p 1 0))]
theorem cAt (p:ProgM) (b:BasM):Ctr pgQ 8 [] [.a p.C,.a b.C] [] (λg:Prop=>⟨pC g,[],g->SmA p b⟩):=by
 refine cw func8 (⟨λh1=>vk ?_,λh1=>vk ?_⟩)
 ·exact⟨False,False.elim,aI (ff id) U tV⟩
 replace h1:¬(((8<(p.c.l.length:Int)\/8<(p.r.l.length:Int))\/16<(b.c.l.length:Int))\/16<(b.r.l.length:Int)):=h1
 have hcl:p.c.l.length<=8:=Uc
 have hrl:p.r.l.length<=8:=Uc
 show Sd _ _ _ _ _ _
 refine yM (λi:Nat=>laG i) (λ_=>rdB p b) (λ_=>[]) (λi=>i<=p.r.l.length/\∀k,k<i->(p.r.l.getD k U6).e.l.length<=16) (λi=>p.r.l.length-i) (λ_=>bL) (λ_=>bGv) (λ_=>U) λfin=>⟨fin 0 ⟨aB _,λj hj=>U4 hj (aF _)⟩ ⟨U,U⟩ U1 ⟨U,U,U⟩,λi ⟨hi,hE⟩=>vk ⟨λh2=>vk ?_,λh2=>vk ?_⟩⟩
 all_goals
  replace hi:i<=p.r.l.length:=hi
  replace hE:∀k,k<i->(p.r.l.getD k U6).e.l.length<=16:=hE
 ·replace h2:(i:Int)<(p.r.l.length:Nat):=h2
  have hir:i<p.r.l.length:=Uc
  refine⟨i,⟨U,hir⟩,λh3=>vk ⟨False,False.elim,aI (ff id) U tV⟩,λh3=>vk ⟨(i+1:Nat),wi,fin (i+1) ⟨⟨hir,λk hk=>?_⟩,show p.r.l.length-(i+1)<p.r.l.length-i by omega⟩ ⟨U,U⟩ U1 ⟨U,U,U⟩⟩⟩
  replace h3:¬(16:Int)<((p.r.l.getD i U6).e.l.length:Nat):=h3
  rcases bR (cB hk) with e|e
  ·exact hE k e
  subst e;omega
 replace h2:¬(i:Int)<(p.r.l.length:Nat):=h2
 obtain rfl:i=p.r.l.length:=Uc
 exact vk ⟨True,λ_=>⟨hcl,hrl,hE⟩,aI (tt tV) U tV⟩
theorem SmP.ag {p:ProgM} {q:PrQ} (hq:PrG p q 3) (h:SmP p):AgP p q 3 0:=⟨hq.v.rd,by decide,by decide,hq.rl,hq.cl,λi hi=>by have:=hq.v.len hi;have:=h.n;omega,⟨λhh=>by have:=h.n;omega,λ_ ⟨j,hj,hc⟩=>U4 hc (hq.v.x j hj),λ_ _ ⟨i,hi,hc⟩=>U4 (hq.v.v i hi) hc,λ_ _ _=>U⟩,λ_=>hq⟩
abbrev lxB (p:ProgM) (b:BasM) (g:ProgM) (c:BasM):BL:=[(25,0,p.C),(28,0,b.C),(25,0,g.C),(28,0,c.C)]
theorem aMt {p:ProgM} {b:BasM} {g:ProgM} {c:BasM}:scB 4 (lxB p b g c):=aA U (aA U (aA U (aA U aU)))
abbrev lxS:List (Nat×DV):=[(4,.c (.p 0 0)),(5,.c (.p 1 0)),(9,.c (.p 2 0)),(10,.c (.p 3 0))]
theorem cAu (p:ProgM) (b:BasM) (d e:Sl Int) (h:SmA p b->∃q B E,AgP p q B E):Ctr pgQ 3 [] [.a p.C,.a b.C,.c (cI d),.c (cI e)] [] (λ_:Unit=>⟨pC True,[],True⟩):=by
 refine gA gT (eo func3) func3 U U U bL ClB.nil (aXc 2 U λhd=>aXc 3 U λhe=>vk ?_)
 replace hd:d.l.length<=9223372036854775807:=hd
 replace he:e.l.length<=9223372036854775807:=he
 refine⟨[],bTo d hd,U,U,U,λg hp=>?_⟩
 have hS:SmP g:=⟨⟨hp.1.2.1,hp.1.2.2⟩,hp.2.1,hp.2.2⟩
 obtain⟨q,hq⟩:=hS.prg
 have hA:=hS.ag hq
 have hpc:=hS.n.1
 have hpr:=hS.n.2
 refine⟨cDo,U0,BasM,λc=>⟨lxS++[],[],lxB p b g c,[]⟩,λ_=>True,?_,λc _=>?_⟩
 ·exact⟨⟨[],aRf e,U,U,U,λ_ _=>⟨U,⟨[3],aRz e g 0 he (aB _) oM oM,U,U,U,λc hc=>⟨U,U,gsw 3 4 U U bL bL U ⟨bL,iP g0 (chg:=λ_:BasM=>lxS) (bls:=λc=>lxB p b g c) (fls:=λ_=>[]) c.1 trivial U rS trivial rS bL aMt U⟩⟩⟩,⟨U,[3],aRz e g 0 he (aB _) oM oM,U,U,U,λc hc=>⟨U,gsw 3 4 U U bL bL U ⟨bL,iP g0 (chg:=λ_:BasM=>lxS) (bls:=λc=>lxB p b g c) (fls:=λ_=>[]) c.1 trivial U rS trivial rS bL aMt U⟩⟩⟩⟩⟩,⟨U,[],aRf e,U,U,U,λ_ _=>⟨U,[4],aRz e g 0 he (aB _) oM oM,U,U,U,λc hc=>⟨U,iP g0 (chg:=λ_:BasM=>lxS) (bls:=λc=>lxB p b g c) (fls:=λ_=>[]) c.1 trivial U rS trivial rS bL aMt U⟩⟩⟩⟩
 have c5:=bGp g c hq.v oM oM (hq.f oM)
 refine⟨.seq (sqX [22] 25),U0,[],bLq,U,U,U,λ_ _=>⟨[],cAt p b,U,U,U,λs hs=>⟨λh1=>?_,λh1=>?_⟩⟩⟩
 ·exact⟨[],aPt hA c,U,U,U,λ_ _=>⟨λ_=>⟨[],c5,U,U,U,λr hr=>⟨[],aPt hA r,U,U,U,λ_ _=>⟨(),tV,aI iO U tV⟩⟩⟩,λhh=>U4 trivial hh⟩⟩
 replace h1:¬¬s:=h1
 obtain⟨q',B,E,hA'⟩:=h (hs (cR.1 h1))
 exact⟨[],aPt hA' b,U,U,U,λ_ _=>⟨λ_=>⟨[],aPt hA c,U,U,U,λ_ _=>⟨λ_=>⟨[],c5,U,U,U,λr hr=>⟨[],aPt hA r,U,U,U,λ_ _=>⟨(),tV,aI iO U tV⟩⟩⟩,λhh=>U4 trivial hh⟩⟩,λhh=>U4 trivial hh⟩⟩
end Go.Proofs.YtljcaaakbkneaaaGreat
namespace Go.Proofs.YtljcaaakbkneaaaGreat
namespace basisExactShut
set_option maxRecDepth 100000
theorem c1:(Rows.basisExactUptoRow.inPlace==Tryz.prog.inPlace 3)=true:=by kernel_rfl
theorem c2:(Rows.basisExactUptoRow.unfollowed==Tryz.prog.unfollowed 3)=true:=by kernel_rfl
theorem c3:(Rows.basisExactUptoRow.recurses==Tryz.prog.recurses 3)=true:=by kernel_rfl
theorem c4:(Rows.basisExactUptoRow.named==Tryz.prog.varsNamed 3)=true:=by kernel_rfl
theorem c5:(Rows.basisExactUptoRow.lifted==Tryz.prog.liftsFinal)=true:=by kernel_rfl
theorem c6:Tryz.prog.mayEnter=true:=by kernel_rfl
theorem c7:laidOutB Tryz.prog=true:=by kernel_rfl
theorem closed:joinedFacts Tryz.prog 3 Tryz.f3 (Rows.OpenSpec.upto Rows.basisExactSpec).bare Rows.basisExactUptoRow=true:=by
 unfold joinedFacts
 rw[c1,c2,c3,c4,c5,c6,c7]
 kernel_rfl
end basisExactShut
end Go.Proofs.YtljcaaakbkneaaaGreat
namespace Go.Proofs.YtljcaaakbkneaaaGreat
open Go.Vg Go.RowKit _root_.Go.Proofs.Tryz
open Go.Vm
open Go.Vy hiding val
open Go.ChangeShapes Go.WideShapes
namespace bulks
theorem bVh {H:Type} (d:DataW H):1<=Rows.uptoBulk d:=by
 cases d with
 |lit l=>cases l<;>simp[Rows.uptoBulk]
 |nil=>simp[Rows.uptoBulk]
 |ptr d=>simp[Rows.uptoBulk]
 |slice elems spare=>simp[Rows.uptoBulk]
 |agg parts=>simp[Rows.uptoBulk]
 |iface t d=>simp[Rows.uptoBulk]
 |map entries=>simp[Rows.uptoBulk]
 |held h=>simp[Rows.uptoBulk]
theorem part_le {H:Type} {d:DataW H} {l:List (DataW H)} (h:d∈l):Rows.uptoBulk d<=Rows.uptoBulkAll l:=by
 induction l with
 |nil=>cases h
 |cons x r ih=>
  simp only[Rows.uptoBulkAll]
  cases bW.1 h with
  |inl e=>subst e;omega
  |inr e=>have:=ih e;omega
theorem length_le {H:Type} (l:List (DataW H)):l.length<=Rows.uptoBulkAll l:=by
 induction l with
 |nil=>simp[Rows.uptoBulkAll]
 |cons x r ih=>have:=bVh x;simp only[Rows.uptoBulkAll,eG];omega
end bulks
def ρA:Pl:=⟨λ_=>(none,0),λ_=>True,[]⟩
section
variable {H:Type} {enc:TypeId×Value->H} {w:World} {base:Nat} {spare:Nat->Bool} {held:Bool}
theorem zA {b:Nat} (h:b<w.heap.size):Zf ρA 0 w b:=⟨h,λi hi=>U4 hi (aF _),tV,λ⟨F,hF,_⟩=>by cases hF⟩
def Opn (H:Type) (enc:TypeId×Value->H) (w:World) (base:Nat) (spare:Nat->Bool) (held:Bool) (T:TypeId) {I:Type} (C:I->List CV) (B:Nat->I->Prop):Prop:=
 ∀fuel cs x,DataW.trod enc Tryz.prog w base spare held fuel T cs=some x->∃a:I,(Hl ρA 0 w (C a) cs/\∀u∈cs,u.oneCell'=true)/\B (Rows.uptoBulk x.1) a
theorem zP:Opn H enc w base spare held 3 (λz:Int=>[iC z]) λ_ _=>True:=λfuel cs x h=>by
 obtain⟨n,rfl,_,_⟩:=DataW.trod_int underlying3 h
 exact⟨n,⟨⟨Rc.v _,tV⟩,λu hu=>by rw[aE.1 hu];rfl⟩,tV⟩
theorem aHf:Opn H enc w base spare held 4 (λb:Bool=>[.b (b=true) inferInstance]) λ_ _=>True:=λfuel cs x h=>by
 obtain⟨b,rfl,_⟩:=DataW.trod_bool underlying4 h
 have h1:Rc (Zf ρA 0 w) w (.b (b=true) inferInstance) (.bool (decide (b=true))):=Rc.b _ _
 have h2:decide (b=true)=b:=by cases b<;>rfl
 rw[h2] at h1
 exact⟨b,⟨⟨h1,tV⟩,λu hu=>by rw[aE.1 hu];rfl⟩,tV⟩
theorem bPi {I:Type} {f:Nat->I} {n j:Nat} {d:I} (h:j<n):((List.range n).map f).getD j d=f j:=by simp[List.getD,h]
theorem yN {T E e:Nat} {I:Type} {C:I->List CV} {B:Nat->I->Prop} (hT:Tryz.prog.underlying T=some (.slice E)) (hE:Tryz.prog.cellsOf E=e) (he:0<e) (hC:∀a,(C a).length=e) (hcl:∀a,∀c∈C a,fS c=true) (d:I) (hO:Opn H enc w base spare held E C B) (hB:∀m n a,m<=n->B m a->B n a):
 Opn H enc w base spare held T (λs:Sl I=>[s.R e C d]) λn s=>s.l.length<=n/\∀x∈s.l,B n x:=λfuel cs x h=>by
 rcases Go.Deep.open_slice hT h with ⟨rfl,rfl⟩|⟨a,len,cap,m,n,U7,Pl,rfl,hb,hl,hm,hmm,rfl,hx⟩
 ·exact⟨cG,⟨⟨Rc.nil _ _ _ _ (aB _),tV⟩,λu hu=>by rw[aE.1 hu];rfl⟩,aB _,λ_ h=>nomatch h⟩
 rw[hE] at hx
 have hlm:len<=m:=by rw[hmm];split<;>omega
 have each:∀i,i<len->∃q:I×List Value,w.cells? base (a.add (i*e)) e=some q.2/\(Hl ρA 0 w (C q.1) q.2/\∀u∈q.2,u.oneCell'=true)/\B (Rows.uptoBulk (U7 i)) q.1:=λi hi=>by
  obtain⟨cs',h1,h2⟩:=hx i Uc
  obtain⟨y,h3,h4⟩:=hO _ _ _ h2
  exact⟨(y,cs'),h1,h3,h4⟩
 have hlb:len<=Rows.uptoBulkAll ((List.range len).map U7):=by
  have:=bulks.length_le ((List.range len).map U7)
  rwa [aK,fJ] at this
 by_cases h0:len=0
 ·subst h0
  exact⟨⟨some a,cap,[]⟩,⟨⟨Rc.nil _ _ _ _ hm,tV⟩,λu hu=>by rw[aE.1 hu];rfl⟩,aB _,λ_ h=>nomatch h⟩
 haveI:Inhabited (I×List Value):=⟨(d,[])⟩
 obtain⟨q,hq⟩:=Go.Deep.choose_lt each
 have cell:∀i,i<len->∀j (u:Value),((q i).2)[j]? =some u->w.cell? (a.add (i*e+j))=some u:=λi hi j u hu=>by
  obtain⟨_,h2,h3⟩:=World.cells?_some (hq i hi).1
  have h4:=h3 j (by rw[<-h2];exact eH hu)
  rw[Go.Deep.add_add,hu] at h4
  exact h4
 have l0:0<((q 0).2).length:=by rw[<-(hq 0 Uc).2.1.1.len,hC];exact he
 have c0:=cell 0 Uc 0 _ (aG l0)
 obtain⟨b,o,spot⟩:=a
 have hspot:spot=none:=by simpa[Addr.add] using World.cell?_spot c0
 subst hspot
 have hlt:b<w.heap.size:=by
  rw[gD] at c0
  unfold World.cell? at c0
  cases hh:w.heap[b]? with
  |none=>rw[show((⟨b,o+(0*e+0),none⟩:Addr).block)=b from U,hh] at c0;cases c0
  |some ob=>exact(kG.1 hh).1
 refine⟨⟨some ⟨b,o,none⟩,cap,(List.range len).map λi=>(q i).1⟩,⟨⟨?_,tV⟩,λu hu=>by rw[aE.1 hu];rfl⟩,?_,λx hx=>?_⟩
 ·show Rc (Zf ρA 0 w) w (.r (some ⟨b,o,none⟩) ((List.range len).map λi=>(q i).1).length cap e λj=>C (((List.range len).map λi=>(q i).1).getD j d)) (.slice (some ⟨b,o,none⟩) len cap)
  rw[aK,fJ]
  refine Rc.r b o len cap e _ (λi=>(q i).2) hl hm (zA hlt) (λj hj i u hu=>⟨?_,(hq j hj).2.1.2 u (aR hu)⟩) (λj hj=>?_) λj hj i c u h1 h2=>?_
  ·have:=cell j hj i u hu
   rw[gD] at this
   rw[jF]
   exact this
  ·rw[bPi hj]
   exact(hq j hj).2.1.1.len.symm
  rw[bPi hj] at h1
  obtain⟨y,h3,h4⟩:=(hq j hj).2.1.1.get h1
  rw[h2] at h3
  injection h3 with h3
  subst h3
  exact aIf h4 (hcl _ c (aR h1))
 ·show((List.range len).map λi=>(q i).1).length<=_
  rw[aK,fJ]
  simp only[Rows.uptoBulk]
  omega
 obtain⟨i,hi,rfl⟩:=bZ.1 hx
 rw[cJ] at hi
 have h5:=bulks.part_le (d:=U7 i) (l:=(List.range len).map U7) (bZ.2 ⟨i,cJ.2 hi,U⟩)
 exact hB _ _ _ (by simp only[Rows.uptoBulk];omega) (hq i hi).2.2
theorem fld {fs:Array Field} {cs:List Value} {xs:List (DataW H×List MemPlace)} {n:Nat} (hf:∀(i:Nat) (f:Field),fs[i]? =some f->DataW.trod enc Tryz.prog w base spare held n f.type ((cs.drop f.offset).take (Tryz.prog.cellsOf f.type))=xs[i]?) (hx:xs.length=fs.size) (i:Nat) {f:Field} (hi:fs[i]? =some f) (t o k:Nat) (hk:Tryz.prog.cellsOf t=k) (ht:f.type=t:=by rfl) (ho:f.offset=o:=by rfl) {I:Type} {C:I->List CV} {B:Nat->I->Prop} (hO:Opn H enc w base spare held t C B) (hB:∀m n a,m<=n->B m a->B n a):
 ∃a:I,(Hl ρA 0 w (C a) ((cs.drop o).take k)/\∀u∈(cs.drop o).take k,u.oneCell'=true)/\B (Rows.uptoBulk (.agg (xs.map (·.1)))-1) a:=by
 have h:=hf i f hi
 rw[ht,ho,hk] at h
 have hlt:i<xs.length:=by rw[hx];exact(kG.1 hi).1
 rw[aG hlt] at h
 obtain⟨a,h1,h2⟩:=hO _ _ _ h
 have h3:=bulks.part_le (d:=xs[i].1) (l:=xs.map (·.1)) (bZ.2 ⟨xs[i],kB hlt,U⟩)
 exact⟨a,h1,hB _ _ a (by simp only[Rows.uptoBulk];omega) h2⟩
theorem hlS {l r:List CV} {cs:List Value} {o k:Nat} (h1:Hl ρA 0 w l ((cs.drop o).take k)/\∀u∈(cs.drop o).take k,u.oneCell'=true) (h2:Hl ρA 0 w r (cs.drop (o+k))/\∀u∈cs.drop (o+k),u.oneCell'=true):Hl ρA 0 w (l++r) (cs.drop o)/\∀u∈cs.drop o,u.oneCell'=true:=by
 have e:(cs.drop o).take k++cs.drop (o+k)=cs.drop o:=by rw[<-sY,dT]
 rw[<-e]
 refine⟨h1.1.append h2.1,λu hu=>?_⟩
 rcases aO.1 hu with hu|hu
 ·exact h1.2 u hu
 exact h2.2 u hu
theorem hl0 {cs:List Value} {o:Nat} (h:cs.length=o):Hl ρA 0 w [] (cs.drop o)/\∀u∈cs.drop o,u.oneCell'=true:=by
 rw[List.drop_eq_nil_of_le Uc]
 exact⟨U1,λ_ h=>nomatch h⟩
theorem bMi:Opn H enc w base spare held 98 (λn:Nat=>[uC n]) λ_ n=>n<4294967296:=λfuel cs x h=>by
 obtain⟨z,rfl,_,hwf⟩:=DataW.trod_int underlying98 h
 have hr:0<=z/\z<4294967296:=by simp[Lit.wf,IntKind.min,IntKind.max,IntKind.signed,IntKind.bits] at hwf;omega
 obtain⟨n,rfl⟩:∃n:Nat,z=(n:Int):=⟨z.toNat,Uc⟩
 exact⟨n,⟨⟨Rc.v _,tV⟩,λu hu=>by rw[aE.1 hu];rfl⟩,by show n<_;omega⟩
def LmB (n:Nat) (s:Sl Nat):Prop:=Lm s.l/\s.l.length<=n
theorem LmB.mono (m n:Nat) (s:Sl Nat) (h:m<=n) (hs:LmB m s):LmB n s:=⟨hs.1,aJ hs.2 h⟩
theorem aWe:Opn H enc w base spare held 49 (λs:Sl Nat=>[eI s]) LmB:=λfuel cs x h=>by
 obtain⟨s,h1,h2,h3⟩:=yN (e:=1) (C:=λn:Nat=>[uC n]) underlying49 (U0) bL (λ_=>U) (λ_=>aOy U) U6 bMi (λ_ _ _ _ h=>h) fuel cs x h
 exact⟨s,h1,h3,h2⟩
theorem bGx:Opn H enc w base spare held 51 IntM.C λn i=>LmB n i.m:=λfuel cs x h=>by
 obtain⟨xs,n,_,rfl,hl,hxl,hf⟩:=DataW.trod_struct underlying51 h
 obtain⟨a0,h0,b0⟩:=fld hf hxl 0 U 4 0 1 (U0) (hO:=aHf) (hB:=(λ_ _ _ _ _=>tV))
 obtain⟨a1,h1,b1⟩:=fld hf hxl 1 U 49 1 1 (U0) (hO:=aWe) (hB:=LmB.mono)
 have hl2:cs.length=2:=hl.trans (U0)
 exact⟨⟨a0=true,inferInstance,a1⟩,hlS h0 (hlS h1 (hl0 hl2)),b1.mono _ _ _ (mN _ _)⟩
def RtB (n:Nat) (r:RatM):Prop:=LmB (n-1) r.n.m/\LmB (n-1) r.d
theorem RtB.mono (m n:Nat) (r:RatM) (h:m<=n) (hr:RtB m r):RtB n r:=⟨hr.1.mono _ _ _ (Nat.sub_le_sub_right h 1),hr.2.mono _ _ _ (Nat.sub_le_sub_right h 1)⟩
theorem aCe:Opn H enc w base spare held 53 RatM.C RtB:=λfuel cs x h=>by
 obtain⟨xs,n,_,rfl,hl,hxl,hf⟩:=DataW.trod_struct underlying53 h
 obtain⟨a0,h0,b0⟩:=fld hf hxl 0 U 51 0 2 (U0) (hO:=bGx) (hB:=λm n a h hs=>LmB.mono m n a.m h hs)
 obtain⟨a1,h1,b1⟩:=fld hf hxl 1 U 49 2 1 (U0) (hO:=aWe) (hB:=LmB.mono)
 have hl2:cs.length=3:=hl.trans (U0)
 exact⟨⟨a0,a1⟩,hlS h0 (hlS h1 (hl0 hl2)),b0,b1⟩
theorem bMj:Opn H enc w base spare held 75 EntM.C λn e=>RtB n e.v:=λfuel cs x h=>by
 obtain⟨xs,n,_,rfl,hl,hxl,hf⟩:=DataW.trod_struct underlying75 h
 obtain⟨a0,h0,b0⟩:=fld hf hxl 0 U 3 0 1 (U0) (hO:=zP) (hB:=(λ_ _ _ _ _=>tV))
 obtain⟨a1,h1,b1⟩:=fld hf hxl 1 U 53 1 3 (U0) (hO:=aCe) (hB:=RtB.mono)
 have hl2:cs.length=4:=hl.trans (U0)
 exact⟨⟨a0,a1⟩,hlS h0 (hlS h1 (hl0 hl2)),b1.mono _ _ _ (mN _ _)⟩
def RwB (n:Nat) (s:Sl EntM):Prop:=s.l.length<=n/\∀e∈s.l,RtB n e.v
theorem RwB.mono (m n:Nat) (s:Sl EntM) (h:m<=n) (hs:RwB m s):RwB n s:=⟨aJ hs.1 h,λe he=>(hs.2 e he).mono _ _ _ h⟩
theorem bGy (e:EntM):∀c∈e.C,fS c=true:=λc hc=>by
 rcases bW.1 hc with rfl|hc
 ·rfl
 exact gF _ c hc
theorem bMk:Opn H enc w base spare held 57 (λs:Sl EntM=>[cF s]) RwB:=
 yN (e:=4) (C:=EntM.C) underlying57 (U0) bL (λ_=>U) bGy U6 bMj λm n a h hs=>RtB.mono m n a.v h hs
def CoB (n:Nat) (c:ColM):Prop:=RtB n c.k/\RtB n c.l/\RtB n c.u
theorem CoB.mono (m n:Nat) (c:ColM) (h:m<=n) (hc:CoB m c):CoB n c:=⟨hc.1.mono _ _ _ h,hc.2.1.mono _ _ _ h,hc.2.2.mono _ _ _ h⟩
theorem bMl:Opn H enc w base spare held 67 ColM.C CoB:=λfuel cs x h=>by
 obtain⟨xs,n,_,rfl,hl,hxl,hf⟩:=DataW.trod_struct underlying67 h
 obtain⟨a0,h0,b0⟩:=fld hf hxl 0 U 53 0 3 (U0) (hO:=aCe) (hB:=RtB.mono)
 obtain⟨a1,h1,b1⟩:=fld hf hxl 1 U 4 3 1 (U0) (hO:=aHf) (hB:=(λ_ _ _ _ _=>tV))
 obtain⟨a2,h2,b2⟩:=fld hf hxl 2 U 53 4 3 (U0) (hO:=aCe) (hB:=RtB.mono)
 obtain⟨a3,h3,b3⟩:=fld hf hxl 3 U 4 7 1 (U0) (hO:=aHf) (hB:=(λ_ _ _ _ _=>tV))
 obtain⟨a4,h4,b4⟩:=fld hf hxl 4 U 53 8 3 (U0) (hO:=aCe) (hB:=RtB.mono)
 have hl2:cs.length=11:=hl.trans (U0)
 exact⟨⟨a0,a1=true,inferInstance,a2,a3=true,inferInstance,a4⟩,hlS h0 (hlS h1 (hlS h2 (hlS h3 (hlS h4 (hl0 hl2))))),b0.mono _ _ _ (mN _ _),b2.mono _ _ _ (mN _ _),b4.mono _ _ _ (mN _ _)⟩
def RoB (n:Nat) (r:RowM):Prop:=RtB n r.b/\RwB n r.e
theorem RoB.mono (m n:Nat) (r:RowM) (h:m<=n) (hr:RoB m r):RoB n r:=⟨hr.1.mono _ _ _ h,hr.2.mono _ _ _ h⟩
theorem bGz:Opn H enc w base spare held 59 RowM.C RoB:=λfuel cs x h=>by
 obtain⟨xs,n,_,rfl,hl,hxl,hf⟩:=DataW.trod_struct underlying59 h
 obtain⟨a0,h0,b0⟩:=fld hf hxl 0 U 3 0 1 (U0) (hO:=zP) (hB:=(λ_ _ _ _ _=>tV))
 obtain⟨a1,h1,b1⟩:=fld hf hxl 1 U 53 1 3 (U0) (hO:=aCe) (hB:=RtB.mono)
 obtain⟨a2,h2,b2⟩:=fld hf hxl 2 U 57 4 1 (U0) (hO:=bMk) (hB:=RwB.mono)
 have hl2:cs.length=5:=hl.trans (U0)
 exact⟨⟨a0,a1,a2⟩,hlS h0 (hlS h1 (hlS h2 (hl0 hl2))),b1.mono _ _ _ (mN _ _),b2.mono _ _ _ (mN _ _)⟩
def PgB (n:Nat) (p:ProgM):Prop:=(∀c∈p.c.l,CoB n c)/\∀r∈p.r.l,RoB n r
theorem bHa:Opn H enc w base spare held 25 ProgM.C PgB:=λfuel cs x h=>by
 obtain⟨xs,n,_,rfl,hl,hxl,hf⟩:=DataW.trod_struct underlying25 h
 obtain⟨a0,h0,b0⟩:=fld hf hxl 0 U 22 0 1 (U0) (hO:=yN (e:=11) (C:=ColM.C) underlying22 (U0) bL (λ_=>U) (λ_=>aOy U) U6 bMl CoB.mono) (hB:=λm n a h hs=>⟨aJ hs.1 h,λs hs'=>(hs.2 s hs').mono _ _ _ h⟩)
 obtain⟨a1,h1,b1⟩:=fld hf hxl 1 U 23 1 1 (U0) (hO:=yN (e:=5) (C:=RowM.C) underlying23 (U0) bL (λ_=>U) (λ_=>aOy U) U6 bGz RoB.mono) (hB:=λm n a h hs=>⟨aJ hs.1 h,λs hs'=>(hs.2 s hs').mono _ _ _ h⟩)
 have hl2:cs.length=2:=hl.trans (U0)
 exact⟨⟨a0,a1⟩,hlS h0 (hlS h1 (hl0 hl2)),λs hs=>(b0.2 s hs).mono _ _ _ (mN _ _),λs hs=>(b1.2 s hs).mono _ _ _ (mN _ _)⟩
theorem bMm:Opn H enc w base spare held 28 BasM.C λ_ _=>True:=λfuel cs x h=>by
 obtain⟨xs,n,_,rfl,hl,hxl,hf⟩:=DataW.trod_struct underlying28 h
 obtain⟨a0,h0,b0⟩:=fld hf hxl 0 U 26 0 1 (U0) (hO:=yN (e:=1) (C:=λz:Int=>[iC z]) underlying26 (U0) bL (λ_=>U) (λ_=>aOy U) 0 zP (λ_ _ _ _ _=>tV)) (hB:=λm n a h hs=>⟨aJ hs.1 h,hs.2⟩)
 obtain⟨a1,h1,b1⟩:=fld hf hxl 1 U 26 1 1 (U0) (hO:=yN (e:=1) (C:=λz:Int=>[iC z]) underlying26 (U0) bL (λ_=>U) (λ_=>aOy U) 0 zP (λ_ _ _ _ _=>tV)) (hB:=λm n a h hs=>⟨aJ hs.1 h,hs.2⟩)
 have hl2:cs.length=2:=hl.trans (U0)
 exact⟨⟨a0,a1⟩,hlS h0 (hlS h1 (hl0 hl2)),tV⟩
end
noncomputable def aDu (s:Sl EntM):List En:=s.l.map λe=>(e.ix,Rat.divInt (sg e.v.n.p (val e.v.n.m.l)) (val e.v.d.l))
theorem bHb {s:Sl EntM} {n:Nat} (h:RwB n s):Ev s.l (aDu s) (n-1):=⟨by unfold aDu;rw[aK],λk hk=>by
 have hk':k<s.l.length:=by unfold aDu at hk;rw[aK] at hk;exact hk
 have hb:=h.2 _ (fN hk')
 have e1:(aDu s).getD k U6=((s.l.getD k U6).ix,Rat.divInt (sg (s.l.getD k U6).v.n.p (val (s.l.getD k U6).v.n.m.l)) (val (s.l.getD k U6).v.d.l)):=by
  unfold aDu
  simp[List.getD,hk']
 rw[e1]
 exact⟨U,⟨⟨hb.1.1,hb.1.2,U⟩,hb.2.1,hb.2.2,U⟩⟩⟩
theorem Ev.rbE {x:List EntM} {es:List En} {B:Nat} (h:Ev x es B) (h1:1<=B):rbE es B:=λe he=>by
 obtain⟨k,hk,rfl⟩:=rT he
 have:=(h.e k hk).2.rb h1
 rw[gd hk] at this
 exact this
noncomputable def aPu (r:RatM):Rat:=Rat.divInt (sg r.n.p (val r.n.m.l)) (val r.d.l)
theorem aCf {r:RatM} (h:RtB 1048576 r):Rq r (aPu r) 1048576:=⟨⟨h.1.1,aJ h.1.2 (by decide),U⟩,h.2.1,aJ h.2.2 (by decide),U⟩
noncomputable def xC (p:ProgM):PrQ:=⟨λj=>aPu (p.c.l.getD j U6).k,λj=>aPu (p.c.l.getD j U6).l,λj=>aPu (p.c.l.getD j U6).u,λi=>aPu (p.r.l.getD i U6).b,λi=>aDu (p.r.l.getD i U6).e⟩
theorem bMn (p:ProgM) (b:BasM) (hB:PgB 1048576 p) (hs:SmA p b):∃q B E,AgP p q B E:=by
 have hcl:=hs.cl
 have hrl:=hs.rl
 have hco:∀j,j<p.c.l.length->ColR (p.c.l.getD j U6) ((xC p).k j) ((xC p).l j) ((xC p).u j) 1048576:=λj hj=>by
  have h1:=hB.1 _ (fN hj)
  exact⟨aCf h1.1,aCf h1.2.1,aCf h1.2.2⟩
 have hro:∀i,i<p.r.l.length->RowR (p.r.l.getD i U6) ((xC p).b i) ((xC p).M i) 1048576:=λi hi=>by
  have h1:=hB.2 _ (fN hi)
  exact⟨aCf h1.1,(bHb h1.2).le (by decide)⟩
 have hE:∃E,PrE p (xC p) E:=by
  have h0:¬(16384<p.c.l.length\/16384<p.r.l.length):=Uc
  by_cases h2:∃j,j<p.c.l.length/\Crs (p.c.l.getD j U6) ((xC p).l j) ((xC p).u j)
  ·exact⟨3,λhh=>U4 hh h0,λ_ _=>U,λ_ hh=>U4 h2 λ⟨j,hj,hc⟩=>hh j hj hc,λ_ hh=>U4 h2 λ⟨j,hj,hc⟩=>hh j hj hc⟩
  by_cases h4:∃i,i<p.r.l.length/\¬PrM p (xC p) i
  ·exact⟨1,λhh=>U4 hh h0,λ_ hh=>U4 hh h2,λ_ _ _=>U,λ_ _ hh=>U4 h4 λ⟨i,hi,hc⟩=>hc (hh i hi)⟩
  exact⟨0,λhh=>U4 hh h0,λ_ hh=>U4 hh h2,λ_ _ hh=>U4 hh h4,λ_ _ _=>U⟩
 obtain⟨E,hE⟩:=hE
 refine⟨xC p,1048576,E,⟨hco,hro⟩,by decide,aH _,hrl,hcl,λi hi=>?_,hE,λh0=>⟨⟨⟨hco,hro⟩,by decide,by decide,Uc,Uc,λj hj hc=>?_,λi hi=>?_,λi hi=>(hro i hi).e.rbE (by decide)⟩,λj hj=>(hco j hj).k.rb (by decide),hrl,hcl,aH _⟩⟩
 ·have:=hs.e i hi
  show(aDu _).length<=16
  unfold aDu
  rw[aK];exact this
 ·have:=hE.crs Uc ⟨j,hj,hc⟩
  omega
 refine aN λhh=>?_
 have hx:∀j,j<p.c.l.length->¬Crs (p.c.l.getD j U6) ((xC p).l j) ((xC p).u j):=λj hj hc=>by
  have:=hE.crs Uc ⟨j,hj,hc⟩
  omega
 have:=hE.bad Uc hx ⟨i,hi,hh⟩
 omega
namespace basisExactDone
open Go.ChangeShapes Go.WideShapes Go.ChangeAt
theorem own:ownKnob Tryz.prog.godebug=none:=by kernel_rfl
theorem aEy:laidOutB Tryz.prog=true:=by kernel_rfl
set_option maxRecDepth 100000 in
theorem aPv (H:Type) (enc:TypeId×Value->H) (W:World) (base:Nat) (args:Array Value) (ds gs:List (DataW H)) (before:List MemPlace)
 (hval0:∀(j:Nat) t v,Tryz.f3.params[j]? =some t->args[j]? =some v->Value.okWide Tryz.prog W .any base t v)
 (hW:DataW.Whole enc Tryz.prog Tryz.f3.params.toList Rows.basisExactSpec.vars false W args.toList ds gs before) (hk:Rows.uptoSmall H (ds++gs)=true):
 Calls Tryz.prog 3 args W λe W'=>∃v,e= .returned v/\Rows.basisExactSpec.post enc Tryz.prog Tryz.f3 false true false false W args v W':=by
 have hval:∀(j:Nat) t v,Tryz.f3.params[j]? =some t->args[j]? =some v->Value.okWide Tryz.prog W .any base t v:=hval0
 have hW':=hW
 obtain⟨p,q,hA0,hV,rfl,hfz,hnd⟩:=hW
 have hA:DataW.TrodAll enc Tryz.prog W 0 (λ_=>true) true Tryz.f3.params.toList args.toList ds p:=hA0
 rw[Tryz.params3] at hA hval
 obtain⟨v0,vs0,d0,ds0,p0,q0,hargs,rfl,rfl,h0,r0⟩:=trodAll_cons hA
 obtain⟨v1,vs1,d1,ds1,p1,q1,rfl,rfl,rfl,h1,r1⟩:=trodAll_cons r0
 obtain⟨v2,vs2,d2,ds2,p2,q2,rfl,rfl,rfl,h2,r2⟩:=trodAll_cons r1
 obtain⟨v3,vs3,d3,ds3,p3,q3,rfl,rfl,rfl,h3,r3⟩:=trodAll_cons r2
 obtain⟨rfl,rfl,rfl⟩:=trodAll_nil r3
 obtain rfl:args=#[v0,v1,v2,v3]:=by cases args;simp_all
 obtain⟨rfl,rfl⟩:=trodVars_none hV
 have hbk:Rows.uptoBulkAll [d0,d1,d2,d3]<=1048576:=by
  simp only[dW] at hk
  exact of_decide_eq_true hk
 simp only[Rows.uptoBulkAll] at hbk
 obtain⟨cs0,rfl,hcs0⟩:=okWide_struct underlying25 (hval 0 25 v0 U U)
 have k0:=h0
 have lt0:∀x∈p0,x.block<W.heap.size:=by obtain⟨m,hm⟩:=k0;exact DataW.trod_lt m _ _ _ hm
 obtain⟨D0,hD0,hB0⟩:∃U7:ProgM,Hd ρA 0 W (.a U7.C) (.agg cs0)/\PgB 1048576 U7:=by
  obtain⟨fuel,hf⟩:=h0
  obtain⟨U7,⟨hl,_⟩,b⟩:=bHa _ _ _ hf
  have hn:Rows.uptoBulk d0<=1048576:=Uc
  refine⟨U7,?_,λs hs=>(b.1 s hs).mono _ _ _ hn,λs hs=>(b.2 s hs).mono _ _ _ hn⟩
  obtain⟨l0⟩:=cs0
  exact .a hl
 obtain⟨cs1,rfl,hcs1⟩:=okWide_struct underlying28 (hval 1 28 v1 U U)
 have k1:=h1
 have lt1:∀x∈p1,x.block<W.heap.size:=by obtain⟨m,hm⟩:=k1;exact DataW.trod_lt m _ _ _ hm
 obtain⟨D1,hD1⟩:∃U7:BasM,Hd ρA 0 W (.a U7.C) (.agg cs1):=by
  obtain⟨fuel,hf⟩:=h1
  obtain⟨U7,⟨hl,_⟩,_⟩:=bMm _ _ _ hf
  refine⟨U7,?_⟩
  obtain⟨l0⟩:=cs1
  exact .a hl
 obtain⟨a2,len2,cap2,rfl⟩:=okWide_slice underlying26 (hval 2 26 v2 U U)
 have k2:=h2
 have lt2:∀x∈p2,x.block<W.heap.size:=by obtain⟨m,hm⟩:=k2;exact DataW.trod_lt m _ _ _ hm
 obtain⟨D2,hD2⟩:∃U7:Sl Int,Hd ρA 0 W (.c (cI U7)) (.slice a2 len2 cap2):=by
  obtain⟨fuel,hf⟩:=h2
  obtain⟨U7,⟨hl,_⟩,_⟩:=yN (e:=1) (C:=λz:Int=>[iC z]) underlying26 (U0) bL (λ_=>U) (λ_=>aOy U) 0 zP (λ_ _ _ _ _=>tV) _ _ _ hf
  exact⟨U7,.c hl.1⟩
 obtain⟨a3,len3,cap3,rfl⟩:=okWide_slice underlying26 (hval 3 26 v3 U U)
 have k3:=h3
 have lt3:∀x∈p3,x.block<W.heap.size:=by obtain⟨m,hm⟩:=k3;exact DataW.trod_lt m _ _ _ hm
 obtain⟨D3,hD3⟩:∃U7:Sl Int,Hd ρA 0 W (.c (cI U7)) (.slice a3 len3 cap3):=by
  obtain⟨fuel,hf⟩:=h3
  obtain⟨U7,⟨hl,_⟩,_⟩:=yN (e:=1) (C:=λz:Int=>[iC z]) underlying26 (U0) bL (λ_=>U) (λ_=>aOy U) 0 zP (λ_ _ _ _ _=>tV) _ _ _ hf
  exact⟨U7,.c hl.1⟩
 clear hA0 hval0
 refine((cAu D0 D1 D2 D3 (bMn D0 D1 hB0)).run ρA W [.agg cs0,.agg cs1,.slice a2 len2 cap2,.slice a3 len3 cap3] ⟨hD0,hD1,hD2,hD3,tV⟩ ⟨λi T es l hi=>(by cases hi),λi j b hi=>U4 hi (aF _),λi b _ hi=>U4 hi (aF _),aH _,⟨U,U,U,aH _,λ_ _ _ _=>U⟩,λi hi=>U,⟨U,λ_ _=>tV⟩,FamOk.nil,λb hb=> .inr hb⟩ U).mono λe W' ⟨v,he,g,ρ',_,hDr,hdv,_,_⟩=>?_
 have hr:=hDr.rel
 have bel:Below W.heap.size W W':=⟨hr.os,hr.tape,hr.output,hr.size,λk hk=>hr.block k hk (λi hi=>U4 hi (aF _)) λ⟨F,hF,_⟩=>by cases hF⟩
 have hv:v= .bool true:=by
  have h5:=hdv.inv_c.inv_b
  rw[h5]
  simp
 subst he hv
 exact⟨_,U,_,_,_,[],_,[],hW',trodAll_mk1 (shut_bool underlying4 _),(trodAll_cons_mk (Below.trod aEy (U0) (of_decide_eq_true (U0)) k0 bel lt0) (trodAll_cons_mk (Below.trod aEy (U0) (of_decide_eq_true (U0)) k1 bel lt1) (trodAll_cons_mk (Below.trod aEy (U0) (of_decide_eq_true (U0)) k2 bel lt2) (trodAll_cons_mk (Below.trod aEy (U0) (of_decide_eq_true (U0)) k3 bel lt3) trodAll_mk0)))),U,bel.frame _,λh=>by cases h⟩
set_option maxRecDepth 100000 in
theorem lifted (os:Os) (started:os.Started) (H:Type) (enc:TypeId×Value->H) (F:Stop.Interp):
 ReturnsInHanded {} Tryz.checked os 3 .any ((Rows.OpenSpec.upto Rows.basisExactSpec).pre6 enc Tryz.prog Tryz.f3 Rows.basisExactUptoRow.domain false) (((Rows.OpenSpec.upto Rows.basisExactSpec).at F).post enc Tryz.prog Tryz.f3 false true false false):=by
 refine returnsInHanded_of_cond (C:=Tryz.checked) (s:=Rows.OpenSpec.upto Rows.basisExactSpec) (k:=Rows.uptoSmall) U own started (U0) func3
  (OpenSpec.witness (enc:=enc) (C:=Tryz.checked) (s:=Rows.OpenSpec.upto Rows.basisExactSpec) (k:=Rows.uptoSmall) U false ⟨#[],#[.agg #[.slice none 0 0,.slice none 0 0],.agg #[.slice none 0 0,.slice none 0 0],.slice none 0 0,.slice none 0 0],[]⟩ 8 (U0) (U0) (U0)
   (x:=([.agg [.nil,.nil],.agg [.nil,.nil],.nil,.nil],[],[])) (U0) U (U0)) ?_
 intro W base args ds gs before hval hW _ hk _
 exact aPv H enc W base args ds gs before hval hW hk
theorem proved:Rows.BasisExactUptoSaid:=
 OpenClaim.holds_of_cond 3 Tryz.f3 U U U U U U U rS U U U U U (U0) func3 basisExactShut.closed
  (of_decide_eq_true (U0)) (by unfold Func.isWrapper;first|(rw[U3 (by decide+kernel)];kernel_rfl)|(rw[U2 (by decide+kernel)];exact⟨U,U⟩))
  (λos started H enc _ F=>lifted os started H enc F)
#print axioms proved
end basisExactDone
end Go.Proofs.YtljcaaakbkneaaaGreat
