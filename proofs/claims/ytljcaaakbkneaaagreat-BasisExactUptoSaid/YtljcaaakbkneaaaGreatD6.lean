/- BasisExact, second form: for arguments of bulk at most 1048576 the law returns true and what came in reads as it did. Part 6 of 7: Bc Bd Bn Be Bf Bg Bh Bi Bj Yb Sz Ys Bk Bl Bm Bo Bp Bq Br Bs Bt Bu Bv Bw Bx By Bz Qn Qp Qq. -/
import Derived.Test.YtljcaaakbkneaaaGreatD5
set_option maxHeartbeats 4000000
set_option linter.unusedVariables false
set_option linter.unusedSimpArgs false
namespace Go.Proofs.YtljcaaakbkneaaaGreat
open Go.Vg _root_.Go.Proofs.Tryz
open Go.Vm
open Go.Vy hiding val
set_option maxRecDepth 20000
def mW (P:Nat->Prop) [DecidablePred P]:Nat->Nat
 |0=>0
 |n+1=>mW P n+if P n then 1 else 0
section cnt
variable {P Q:Nat->Prop} [DecidablePred P] [DecidablePred Q]
theorem aLs:∀n,mW P n<=n
 |0=>aH _
 |n+1=>by
  have:=aLs n
  show mW P n+_<=_
  split<;>omega
theorem aIp (h:∀i,¬P i):∀n,mW P n=0
 |0=>rfl
 |n+1=>by
  show mW P n+_=0
  rw[aIp h n,U2 (h n)]
theorem aPd (h:∀i,P i->Q i):∀n,mW P n<=mW Q n
 |0=>aH _
 |n+1=>by
  have:=aPd h n
  show mW P n+_<=mW Q n+_
  by_cases hp:P n
  ·rw[U3 hp,U3 (h n hp)];omega
  rw[U2 hp];omega
theorem aDf {m:Nat}:∀{n:Nat},m<=n->mW P m<=mW P n
 |0,h=>by rw[Nat.le_zero.1 h];exact aH _
 |n+1,h=>by
  rcases bR h with h|rfl
  ·exact aJ (aDf (cB h)) (Nat.le_add_right _ _)
  exact aH _
theorem aLt {m n:Nat} (hm:m<n) (h:P m):mW P m<mW P n:=by
 have h1:=aDf (P:=P) (m:=m+1) (n:=n) hm
 have h2:mW P (m+1)=mW P m+1:=by show mW P m+_=_;rw[U3 h]
 omega
end cnt
section rk
variable (s:Nat->Nat)
theorem vL (x:Nat):∀n,mW (λk=>s k<x) n+mW (λk=>s k=x) n=mW (λk=>s k<x+1) n
 |0=>rfl
 |n+1=>by
  have:=vL x n
  show(mW _ n+_)+(mW _ n+_)=mW _ n+_
  rcases eF (s n) x with h|h|h
  ·rw[U3 h,U2 oM,U3 oM];omega
  ·rw[U2 oM,U3 h,U3 oM];omega
  rw[U2 oM,U2 oM,U2 oM];omega
def rkN (a i:Nat):Nat:=mW (λk=>s k<s i) a+mW (λk=>s k=s i) i
theorem bFa {a i:Nat} (hi:i<a):rkN s a i<a:=by
 have h1:=aLt (P:=λk=>s k=s i) hi U
 have h2:=vL s (s i) a
 have h3:=aLs (P:=λk=>s k<s i+1) a
 unfold rkN;omega
theorem aLu {a i j:Nat} (hj:j<a) (hi:i<a) (h:s i<s j\/(s i=s j/\i<j)):rkN s a i<rkN s a j:=by
 rcases h with h|⟨h,h2⟩
 ·have h1:=aLt (P:=λk=>s k=s i) hi U
  have h2:=vL s (s i) a
  have h3:=aPd (P:=λk=>s k<s i+1) (Q:=λk=>s k<s j) (λk hk=>by omega) a
  unfold rkN;omega
 have h1:=aLt (P:=λk=>s k=s i) h2 U
 unfold rkN
 rw[<-h];omega
theorem aUv {a i j:Nat} (hi:i<a) (hj:j<a) (h:rkN s a i=rkN s a j):i=j:=by
 rcases eF (s i) (s j) with h1|h1|h1
 ·have:=aLu s hj hi (.inl h1);omega
 ·rcases eF i j with h2|h2|h2
  ·have:=aLu s hj hi (.inr ⟨h1,h2⟩);omega
  ·exact h2
  have:=aLu s hi hj (.inr ⟨h1.symm,h2⟩);omega
 have:=aLu s hi hj (.inl h1);omega
theorem bTt (a:Nat):PmL (nL a (rkN s a)) a:=by
 have e:∀i,i<a->(nL a (rkN s a)).getD i 0=(rkN s a i:Nat):=λi hi=>by unfold nL;simp[hi]
 exact⟨by unfold nL;simp,λi hi=>⟨rkN s a i,e i hi,bFa s hi⟩,λi j hi hj h=>by
  rw[e i hi,e j hj] at h
  exact aUv s hi hj oM⟩
end rk
def f1N (s:Nat->Nat) (i:Nat):Nat->Nat
 |0=>0
 |x+1=>mW (λk=>s k=x) i
def f2N (s:Nat->Nat) (a k x:Nat):Nat:=if x<=k then mW (λl=>s l<x) a else f1N s a x
def f3N (s:Nat->Nat) (a i x:Nat):Nat:=mW (λl=>s l<x) a+mW (λl=>s l=x) i
abbrev iR (n:Nat) (f:Nat->Nat):List CV:=eA n λj=>iC (f j:Nat)
theorem aAm {n:Nat} {f:Nat->Nat}:∀c∈iR n f,fS c=true:=bD λ_ _=>U
abbrev bTu (m:MatM) (b:Nat) (f:Nat->Nat):BL:=[(78,0,m.C),(3,1,iR (b+2) f)]
abbrev bYz (m:MatM) (a b:Nat) (f r:Nat->Nat):BL:=[(78,0,m.C),(3,1,iR (b+2) f),(3,1,iR a r)]
theorem aLv {m:MatM} {b:Nat} {f:Nat->Nat}:scB 2 (bTu m b f):=aA U (aA (bG aAm) aU)
theorem bFb {m:MatM} {a b:Nat} {f r:Nat->Nat}:scB 3 (bYz m a b f r):=aA U (aA (bG aAm) (aA (bG aAm) aU))
abbrev cCt (m:MatM) (b i:Nat):List (Nat×DV):=[(21,.c (iC i)),(1,.c (.p 0 0)),(3,.c (.s 1 (b+2))),(19,.c (mU m.d)),(20,.c (iC (m.d.l.length:Nat)))]
abbrev cCu (b k:Nat):List (Nat×DV):=[(37,.c (iC k)),(1,.c (.p 0 0)),(3,.c (.s 1 (b+2))),(36,.c (iC (b+1:Nat)))]
abbrev cCv (m:MatM) (a b i:Nat):List (Nat×DV):=[(58,.c (iC i)),(1,.c (.p 0 0)),(3,.c (.s 1 (b+2))),(7,.c (.s 2 a)),(56,.c (mU m.d)),(57,.c (iC (m.d.l.length:Nat)))]
theorem aLw {n j v:Nat} {f g:Nat->Nat} (h:j<n) (hg:∀i,i<n->g i=if i=j then v else f i):mJ (iR n f) (j*1) [iC (v:Nat)]=iR n g/\j*1+1<=(iR n f).length:=gX h λi hi=>by
 rw[hg i hi]
 by_cases e:i=j
 ·rw[U3 e,U3 e]
 rw[U2 e,U2 e]
theorem wiN {z:Int} {n:Nat} (h:z=(n:Nat)) (hn:n<=9223372036854775807):(n:Int)=IntKind.i64.wrap z:=by
 rw[h]
 exact wi (h:=⟨U,Uc,Uc⟩)
theorem ziR {n:Nat} {f:Nat->Nat} {T:Nat} (h:∀x,x<n->f x=0):((T,1,List.replicate n (iC 0)):TypeId×Nat×List CV)=(T,1,iR n f):=by
 rw[aBs]
 exact U5 (λl=>((T,1,l):TypeId×Nat×List CV)) (gM λx hx=>by rw[h x hx];rfl)
def rIN (s:Nat->Nat) (a i j:Nat):Nat:=if j<i then rkN s a j else 0
structure SpF (M:Nat->List En) (a b:Nat) (d:Sl (Sl EntM)) (rs:Nat->List En) (rk:Nat->Nat):Prop where
 ln:d.l.length=b
 row:∀j,j<b->Ek (d.l.getD j cG).l (rs j)
 ok:∀j,j<b->VOk (rs j) (a:Nat)
 lt:∀i,i<a->rk i<a
 inj:∀i j,i<a->j<a->rk i=rk j->i=j
 get:∀i j,i<a->j<b->Vm.get (rs j) (rk i:Nat)=Vm.get (M i) (j:Nat)
 rb:∀B,1<=B->rbM M a B->∀j,j<b->rbE (rs j) B
abbrev cCw (a b:Nat) (P:Sl Int) (k:Nat):List (Nat×DV):=[(87,.c (iC k)),(85,.c (.s 3 b)),(86,.c (iC b)),(7,.c (cI P)),(10,.c (.p 4 0))]
abbrev bZa (m:MatM) (a b:Nat) (f:Nat->Nat) (Y:Nat->Sl EntM):BL:=[(78,0,m.C),(3,1,iR (b+2) f),(3,1,[]),(57,1,eA b λj=>cF (Y j)),(78,0,[iC b,iC a,.s 3 b])]
theorem bFc {m:MatM} {a b:Nat} {f:Nat->Nat} {Y:Nat->Sl EntM}:scB 5 (bZa m a b f Y):=aA U (aA (bG aAm) (aA U (aA (bG (bD λ_ _=>U)) (aA U aU))))
theorem bZb (m:MatM) {M:Nat->List En} {a b B:Nat} (h:Mr m M a b B) (hb:rbM M a B) (h1:1<=B) (hB:B<=4398046511104) (ha:a<=12) (hbn:b<=4096):Ctr pgQ 92 [] [.a m.C] [] (λg:Sl (Sl EntM)×(Nat->List En)×(Nat->Nat)=>⟨.c (mU g.1),[],SpF M a b g.1 g.2.1 g.2.2⟩):=by
 obtain⟨mr,mc,md⟩:=m
 obtain rfl:mr=(a:Nat):=h.r
 obtain rfl:mc=(b:Nat):=h.c
 have hl:md.l.length=a:=h.ln
 obtain⟨s,hs⟩:∃s:Nat->Nat,s=λi=>(M i).length:=⟨_,U⟩
 have hsz:∀i,i<a->(md.l.getD i cG).l.length=s i:=λi hi=>by rw[hs];exact(h.row i hi).ln
 have hsb:∀i,i<a->s i<=b:=λi hi=>by rw[hs];exact(h.ok i hi).2
 have hcn:∀(P:Nat->Prop) [DecidablePred P] (i:Nat),i<=a->mW P i<=12:=λP _ i hi=>aJ (aLs i) oM
 refine cw func92 (⟨(b:Int)+2,wi (h:=⟨U,by show _<=(b:Int)+2;omega,by show(b:Int)+2<=_;omega⟩),b+2,⟨by show(b:Int)+2=(b+2:Nat);omega,by show(b:Int)+2=(b+2:Nat);omega,by show 8*_<=_;omega,by simp only[maxLen];omega⟩,?_⟩)
 refine bX (λ_=>true) (λi:Nat=>cCt ⟨a,b,md⟩ b i) (λi=>bTu ⟨a,b,md⟩ b (f1N s i)) (λ_=>[]) (λi=>i<=a) (λi=>a-i) λhM=>⟨hM 0 (aB _) U ⟨U,?_⟩ U1 rS bL aLv U,λi hi=>vk ⟨λh2=>vk ?_,λh2=>vk ?_⟩⟩
 ·refine ziR λx hx=>?_
  cases x<;>rfl
 ·replace h2:(i:Int)<(md.l.length:Nat):=h2
  have hia:i<a:=Uc
  have hsi:=hsb i hia
  have hsz':=hsz i hia
  have ix:s i+1<b+2:=Uc
  have c1:=hcn (λk=>s k=s i) i hi
  refine⟨i,⟨U,show i<md.l.length by omega⟩,(s i+1:Nat),wiN (by show(((md.l.getD i cG).l.length:Nat):Int)+1=_;rw[hsz'];rfl) oM,s i+1,⟨U,ix,cS ix⟩,_,eD ix,(f1N s i (s i+1)+1:Nat),wiN U (by show mW (λk=>s k=s i) i+1<=_;omega),s i+1,⟨U,ix,cS ix⟩,_,aLw (v:=f1N s i (s i+1)+1) (g:=f1N s (i+1)) ix (λx hx=>?_),(i+1:Nat),wi,hM (i+1) ⟨hia,show a-(i+1)<a-i by omega⟩ U ⟨U,U⟩ U1 rS bL aLv U⟩
  cases x with
  |zero=>rw[U2 oM];rfl
  |succ x=>
   show mW (λk=>s k=x) i+(if s i=x then 1 else 0)=_
   by_cases e:s i=x
   ·rw[U3 e,U3 oM,e];rfl
   rw[U2 e,U2 oM];rfl
 replace h2:¬(i:Int)<(md.l.length:Nat):=h2
 obtain rfl:i=a:=Uc
 refine vk ⟨(b+1:Nat),wiN U oM,?_⟩
 refine bX (λ_=>true) (λk:Nat=>cCu b k) (λk=>bTu ⟨i,b,md⟩ b (f2N s i k)) (λ_=>[]) (λk=>k<=b+1) (λk=>b+1-k) λhM=>⟨hM 0 (aB _) U ⟨U,?_⟩ U1 rS bL aLv U,λk hk=>vk ⟨λh3=>vk ?_,λh3=>vk ?_⟩⟩
 ·refine U5 (λl=>((3,1,l):TypeId×Nat×List CV)) (gM λx hx=>?_)
  cases x with
  |zero=>show iC (0:Nat)=iC (f2N s i 0 0:Nat);unfold f2N;rw[U3 (aH 0),aIp (λl=>by omega) i]
  |succ x=>show iC (_:Nat)=iC (f2N s i 0 (x+1):Nat);unfold f2N;rw[U2 oM]
 ·replace h3:(k:Int)<(b+1:Nat):=h3
  have hkb:k<b+1:=Uc
  have ix:k+1<b+2:=Uc
  have ix0:k<b+2:=Uc
  have v0:f2N s i k k=mW (λl=>s l<k) i:=by unfold f2N;rw[U3 (aH k)]
  have v1:f2N s i k (k+1)=mW (λl=>s l=k) i:=by unfold f2N;rw[U2 oM];rfl
  have v2:f2N s i k (k+1)+f2N s i k k=mW (λl=>s l<k+1) i:=by rw[v0,v1,iD];exact vL s k i
  have v3:=hcn (λl=>s l<k+1) i (aH i)
  refine⟨.seq [(0,false),(1,false),(2,false),(3,false),(4,false),(5,false),(6,false),(7,false),(8,false),(9,false),(10,false),(11,true)],U0,(k+1:Nat),wiN U oM,k+1,⟨U,ix,cS ix⟩,_,eD ix,k,⟨U,ix0,cS ix0⟩,_,eD ix0,(f2N s i k (k+1)+f2N s i k k:Nat),wiN U oM,k+1,⟨U,ix,cS ix⟩,_,aLw (v:=f2N s i k (k+1)+f2N s i k k) (g:=f2N s i (k+1)) ix (λx hx=>?_),(k+1:Nat),wi,hM (k+1) ⟨hkb,show b+1-(k+1)<b+1-k by omega⟩ U ⟨U,U⟩ U1 rS bL aLv U⟩
  by_cases e:x=k+1
  ·rw[U3 e,v2,e];unfold f2N;rw[U3 (aH _)]
  rw[U2 e];unfold f2N
  by_cases e2:x<=k
  ·rw[U3 e2,U3 oM]
  rw[U2 e2,U2 oM]
 replace h3:¬(k:Int)<(b+1:Nat):=h3
 obtain rfl:k=b+1:=Uc
 obtain⟨a,ha'⟩:∃a,a=i:=⟨_,U⟩
 subst ha'
 refine vk ⟨a,⟨U,U,by show 8*_<=_;omega,by simp only[maxLen];omega⟩,?_⟩
 refine bX (λ_=>true) (λj:Nat=>cCv ⟨a,b,md⟩ a b j) (λj=>bYz ⟨a,b,md⟩ a b (f3N s a j) (rIN s a j)) (λ_=>[]) (λj=>j<=a) (λj=>a-j) λhM=>⟨hM 0 (aB _) U ⟨U,?_,?_⟩ U1 rS bL bFb U,λj hj=>vk ⟨λh4=>vk ?_,λh4=>vk ?_⟩⟩
 ·refine U5 (λl=>((3,1,l):TypeId×Nat×List CV)) (gM λx hx=>?_)
  show iC (f2N s a (b+1) x:Nat)=iC (f3N s a 0 x:Nat)
  unfold f2N f3N
  rw[U3 oM];rfl
 ·exact ziR λx hx=>U2 (aF _)
 ·replace h4:(j:Int)<(md.l.length:Nat):=h4
  have hja:j<a:=Uc
  have hsj:=hsb j hja
  have hsz':=hsz j hja
  have ix:s j<b+2:=Uc
  have c1:=hcn (λk=>s k<s j+1) a (aH a)
  have c2:=vL s (s j) a
  have c3:=aDf (P:=λk=>s k=s j) (eT hja)
  have hz:((((md.l.getD j cG).l.length:Nat):Int))=(s j:Nat):=by rw[hsz']
  refine⟨j,⟨U,show j<md.l.length by omega⟩,s j,⟨hz,ix,cS ix⟩,_,eD ix,j,⟨U,hja,cS hja⟩,_,aLw (v:=f3N s a j (s j)) (g:=rIN s a (j+1)) hja (λx hx=>?_),s j,⟨hz,ix,cS ix⟩,_,eD ix,(f3N s a j (s j)+1:Nat),wiN U (by show mW _ a+mW _ j+1<=_;omega),s j,⟨hz,ix,cS ix⟩,_,aLw (v:=f3N s a j (s j)+1) (g:=f3N s a (j+1)) ix (λx hx=>?_),(j+1:Nat),wi,hM (j+1) ⟨hja,show a-(j+1)<a-j by omega⟩ U ⟨U,U,U⟩ U1 rS bL bFb U⟩
  ·unfold rIN
   by_cases e:x=j
   ·rw[U3 e,U3 oM,e];rfl
   rw[U2 e]
   by_cases e2:x<j
   ·rw[U3 e2,U3 oM]
   rw[U2 e2,U2 oM]
  show mW _ a+(mW (λk=>s k=x) j+if s j=x then 1 else 0)=_
  by_cases e:x=s j
  ·rw[U3 e,U3 e.symm,e];rfl
  rw[U2 e,U2 (gU e)];rfl
 replace h4:¬(j:Int)<(md.l.length:Nat):=h4
 obtain rfl:a=j:=Uc
 have hri:iR a (rIN s a a)=iR a (rkN s a):=gM λx hx=>by unfold rIN;rw[U3 hx]
 have hPm:PmL (nL a (rIN s a a)) a:=by
  rw[show nL a (rIN s a a)=nL a (rkN s a) from dR λx hx=>by unfold rIN;rw[U3 (cJ.1 hx)]]
  exact bTt s a
 show Sd _ _ _ _ _ _
 refine nS 7 2 (λj=>[iC ((nL a (rIN s a a)).getD j 0)]) U U (λj hj=>aUq j hj) (by rw[dD,bE]) bL aAm bL λPA pc _ _=>⟨λc hc=>bJ (aAm c hc),vk ⟨[],bXb _ h hB oM hbn,U,U,U,λT hT=>?_⟩⟩
 replace hT:∀j,j<b->Ek (T j).l (trM M a j):=hT
 obtain⟨P,hPe⟩:∃P:Sl Int,P=⟨PA,pc,nL a (rIN s a a)⟩:=⟨_,U⟩
 have hPs:CV.r PA a pc 1 (λj=>[iC ((nL a (rIN s a a)).getD j 0)])=cI P:=by rw[hPe];unfold cI Sl.R;rw[hPm.ln]
 have hPl:PmL P.l a:=by rw[hPe];exact hPm
 have hPat:∀i,i<a->P.l.getD i 0=(rkN s a i:Nat):=λi hi=>by rw[hPe];show(nL a (rIN s a a)).getD i 0=_;unfold nL rIN;simp[hi]
 refine bX (λ_=>true) (λg:Nat×(Nat->Sl EntM)×(Nat->List En)=>cCw a b P g.1) (λg=>bZa ⟨a,b,md⟩ a b (f3N s a a) g.2.1) (λ_=>[]) (λg=>g.1<=b/\(∀j,j<g.1->Ek (g.2.1 j).l (g.2.2 j)/\Asc (g.2.2 j)/\(g.2.2 j).Perm ((trM M a j).map (rnE P.l)))/\∀j,g.1<=j->j<b->Ek (g.2.1 j).l (trM M a j)) (λg=>b-g.1) λhM=>⟨hM (0,T,λ_=>[]) ⟨aB _,λj hj=>U4 hj (aF _),λj _ hj=>hT j hj⟩ U rS trivial ⟨U,U,U,hPs,U⟩ bL bFc U,λ⟨k,Y,rs⟩ ⟨hk,hd,ho⟩=>vk ⟨λh5=>vk ?_,λh5=>vk ?_⟩⟩
 all_goals
  replace hk:k<=b:=hk
  replace hd:∀j,j<k->Ek (Y j).l (rs j)/\Asc (rs j)/\(rs j).Perm ((trM M a j).map (rnE P.l)):=hd
  replace ho:∀j,k<=j->j<b->Ek (Y j).l (trM M a j):=ho
 ·replace h5:(k:Int)<(b:Nat):=h5
  have hkb:k<b:=Uc
  have hv:=aCv (qs:=aHn M a k) a
  have hrt:=aLa (j:=k) h1 hb λi hi=>(h.ok i hi).1.1
  refine⟨k,⟨U,hkb,cS hkb⟩,_,eD hkb,.seq [(0,false),(1,false),(2,false),(3,false),(4,false),(5,false),(6,false),(7,false),(8,false),(9,false),(10,true)],U0,[],bEa (Y k) P (ho k (aH k) hkb) hrt h1 hB hv.1 ha hPl,U,U,U,λy ⟨r,hy⟩=>⟨k,⟨U,hkb,cS hkb⟩,_,gX (c:=cF y) (Q:=λj=>cF (upd Y k y j)) hkb (λj _=>?_),(k+1:Nat),wi,hM (k+1,upd Y k y,upd rs k r) ⟨⟨hkb,λj hj=>?_,λj hj hjb=>?_⟩,show b-(k+1)<b-k by omega⟩ U rS trivial rS bL bFc U⟩⟩
  ·by_cases e:j=k
   ·subst e;rw[U3 U,bF]
   rw[U2 e,aY e]
  ·show Ek (upd Y k y j).l (upd rs k r j)/\Asc (upd rs k r j)/\(upd rs k r j).Perm _
   by_cases e:j=k
   ·subst e;rw[bF,bF];exact hy
   rw[aY e,aY e];exact hd j (by have:j<k+1:=hj;omega)
  show Ek (upd Y k y j).l _
  have:k+1<=j:=hj
  rw[aY oM];exact ho j oM hjb
 replace h5:¬(k:Int)<(b:Nat):=h5
 obtain rfl:k=b:=Uc
 show Sd _ _ _ _ _ _
 refine kT tSd 3 U bL (bD λ_ _=>U) bL U λA2 c2=>⟨_,lM kE aAm,_,U,?_⟩
 refine jQ tSd 4 0 [iC k,iC a,mU ⟨A2.map λb=>⟨b,0,none⟩,c2,lK Y k⟩] U U U U (wM (k0:=2) U wN) (vk ⟨(⟨A2.map λb=>⟨b,0,none⟩,c2,lK Y k⟩,rs,rkN s a),?_,aI ?_ rfl tV⟩)
 ·have hvk:∀j,j<k->VOk (rs j) (a:Nat):=λj hj=>aRr hPl (aCv a).1 (hd j hj).2.1 (hd j hj).2.2
  refine⟨oB,λj hj=>?_,hvk,λi hi=>bFa s hi,λi j hi hj he=>aUv s hi hj he,λi j hi hj=>?_,λB' hB1 hbB j hj e he=>?_⟩
  ·show Ek ((lK Y k).getD j cG).l _
   rw[qX hj];exact(hd j hj).1
  ·rw[Vm.get_perm (hd j hj).2.2,<-hPat i hi]
   exact(aRq (es:=trM M a j) hPl hi λe he=>⟨((aCv a).1.2 e he).1,((aCv a).1.2 e he).2.1⟩).trans (aUd hi)
  obtain⟨e',h6,rfl⟩:=bZ.1 ((hd j hj).2.2.subset he)
  exact aLa hB1 hbB (λi hi=>(h.ok i hi).1.1) e' h6
 show CV.r _ _ _ _ _=_
 unfold mU Sl.R
 rw[oB]
structure EcS (a t B:Nat) (ws:Nat->Sl EntM) (es:Nat->List En) (x:Nat->Nat):Prop where
 row:∀i,i<t->Ek (ws i).l (es i)
 ok:∀i,i<t->VOk (es i) (a:Nat)
 rb:∀i,i<t->rbE (es i) (bd B (x i))
 ne:∀i,i<t->0<(es i).length
 ld:∀i,i<t->((es i).getD 0 U6).1=(x i:Nat)
theorem aGy {es:List En} {n:Int} (h:VOk es n) (hl:0<es.length):Vm.get es (es.getD 0 U6).1=(es.getD 0 U6).2/\(es.getD 0 U6).2≠0/\(0<=(es.getD 0 U6).1/\(es.getD 0 U6).1<n)/\∀z,z<(es.getD 0 U6).1->Vm.get es z=0:=by
 have hm:=fN hl
 refine⟨rZ h.1 hm,(h.2 _ hm).2.2,⟨(h.2 _ hm).1,(h.2 _ hm).2.1⟩,λz hz=>Vm.get_none λe he h2=>?_⟩
 cases es with
 |nil=>cases he
 |cons e0 es=>
  have h0:((e0::es).getD 0 U6)=e0:=rfl
  rw[h0] at hz
  rcases bW.1 he with rfl|h3
  ·omega
  have:=(tC.1 h.1).1 e h3;omega
theorem bFd {r w rs:List En} {n:Int} (hr:VOk r n) (hrl:0<r.length) (hw:VOk w n) (hwl:0<w.length) (hx:(w.getD 0 U6).1=(r.getD 0 U6).1) (hm:MgR (λa b=>a+ -((r.getD 0 U6).2/(w.getD 0 U6).2)*b) r w rs):VOk rs n/\∀e∈rs,(r.getD 0 U6).1<e.1:=by
 have hv:=aRp hm hr hw
 refine⟨hv,λe he=>aN λhn=>?_⟩
 have h1:=rZ hv.1 he
 have h2:=(hv.2 e he).2.2
 obtain⟨r1,r2,_,r4⟩:=aGy hr hrl
 obtain⟨w1,w2,_,w4⟩:=aGy hw hwl
 have hg:=hm.g e.1
 rw[h1] at hg
 refine h2 (hg.trans ?_)
 show Vm.get r e.1+ -((r.getD 0 U6).2/(w.getD 0 U6).2)*Vm.get w e.1=0
 rcases Int.lt_or_eq_of_le (qJ.1 hn) with h3|h3
 ·rw[r4 _ h3,w4 _ (by rw[hx];exact h3),bU,bK]
 rw[h3,r1,<-hx,w1]
 have:-((r.getD 0 U6).2/(w.getD 0 U6).2)*(w.getD 0 U6).2=-((r.getD 0 U6).2/(w.getD 0 U6).2*(w.getD 0 U6).2):=by grind
 rw[this,tH w2];grind
theorem bFe {q:Rat} {B:Nat} (h1:1<=B) (h:rb q B):rb q⁻¹ B:=by
 have e1:=zZ (a:=(q.den:Int)) (b:=q.num)
 have e2:=aAa (a:=(q.den:Int)) (b:=q.num)
 rw[<-Rat.inv_def] at e1 e2
 simp only[fD,dX] at e1 e2
 exact⟨aJ e1 h.2,by have:=h.1;omega⟩
structure RdG where
 v:Sl EntM
 r:List En
 c:Nat
 cf:Nat->Rat
structure RdI (a t B:Nat) (es:Nat->List En) (v0:List En) (g:RdG):Prop where
 v:Ek g.v.l g.r
 ok:VOk g.r (a:Nat)
 c:g.c<=a
 lo:∀e∈g.r,(g.c:Int)<=e.1
 rb:rbE g.r (bd B g.c)
 sum:∀z,Vm.get g.r z=Vm.get v0 z+bN (λk=>Vm.get (es k) z*g.cf k) t
def cCx:Ord:=.joinX [] [2000,2001,2002,3,2004,2005,2006,7] (.alt 8 (trS [2009,2010,2011,12,1013,2014]) (.alt 12 (trS [8,2009,2010,2011,1013,2014]) .nil))
abbrev rdS (b:Nat) (v:Sl EntM):List (Nat×DV):=[(1,.c (cF v)),(0,.c (.v (.map (some b))))]
theorem bZc (b:Nat) (G:Nat->List CV) (v:Sl EntM) {a t B:Nat} {ws:Nat->Sl EntM} {es:Nat->List En} {x:Nat->Nat} {v0:List En} (hG:G 0=kvL x (λi=>cF (ws i)) t) (h:EcS a t B ws es x) (hv:Ek v.l v0) (hv0:VOk v0 (a:Nat)) (hb:rbE v0 B) (h1:1<=B) (hB:bd B a<=4398046511104) (ha:a<=4096):CtrF pgQ 93 [] [.c (.v (.map (some b))),.c (cF v)] [] [mpF b G] (λg:RdG=>⟨.c (cF g.v),[],[mpF b G],RdI a t B es v0 g/\(g.r=[]\/∀i,i<t->((x i:Nat):Int)≠(g.r.getD 0 U6).1)⟩):=by
 have hB0:B<=4398046511104:=aJ (mV (aB a)) hB
 refine oP gT (eo func93) func93 U U U bL ClB.nil (vk ?_)
 refine bX (λ_=>true) (λg:RdG=>rdS b g.v) (λ_=>[]) (λ_=>[mpF b G]) (λg=>RdI a t B es v0 g) (λg=>a+1-g.c) λhM=>⟨hM ⟨v,v0,0,λ_=>0⟩ ⟨hv,hv0,aB _,λe he=>(hv0.2 e he).1,hb,λz=>?_⟩ U trivial ⟨U,tV⟩ ⟨U,U⟩ bL aU U,λg hI=>vk ⟨λh2=>vk ?_,λh2=>vk ?_⟩⟩
 ·rw[fF λk _=>bU _,bK]
 ·replace h2:(0:Int)<(g.v.l.length:Nat):=h2
  have hln:=hI.v.ln
  have hrl:0<g.r.length:=Uc
  obtain⟨r1,r2,r3,r4⟩:=aGy hI.ok hrl
  have hi0:=(hI.v.e 0 hrl)
  refine⟨0,⟨U,Uc⟩,0,0,⟨Nat.one_pos,U⟩,λi c' h4 h5=>?_,λh4=>?_⟩
  ·rw[show(mpF b G).get 0=kvL x (λi=>cF (ws i)) t from hG] at h4 h5
   obtain⟨hit,hz,hc'⟩:=aDd h4 h5
   subst hc'
   have hw:=h.row i hit
   have hwo:=h.ok i hit
   have hwl:=h.ne i hit
   have hwn:=hw.ln
   obtain⟨w1,w2,w3,w4⟩:=aGy hwo hwl
   have hj0:=hw.e 0 hwl
   have hlx:((es i).getD 0 U6).1=(g.r.getD 0 U6).1:=by rw[h.ld i hit,<-hz];exact hi0.1
   have hxl:(x i:Int)=(g.r.getD 0 U6).1:=by rw[<-h.ld i hit];exact hlx
   have hcx:g.c<=x i:=by have:=hI.lo _ (fN hrl);omega
   have hca:x i<a:=Uc
   have hbc:bd B (x i+1)<=4398046511104:=aJ (mV hca) hB
   have hbs:bd B (x i+1)=4*bd B (x i)+1:=rfl
   have hb1:=wQ h1 (x i)
   have h1':1<=bd B (x i):=hb1
   have hvR:rbE g.r (bd B (x i)):=λe he=>(hI.rb e he).le (mV hcx)
   have rv:=hvR _ (fN hrl)
   have hwR:=h.rb i hit
   have rw':=hwR _ (fN hwl)
   have rf:rb ((g.r.getD 0 U6).2/((es i).getD 0 U6).2) (bd B (x i)+bd B (x i)):=by rw[iJ];exact fW rv (bFe h1' rw')
   have hwE:Ev (ws i).l (es i) (bd B (x i)):=hw.ev hwR
   have hvE:=hI.v.ev hvR
   have hlr:=kY hI.ok
   have hlw:=kY hwo
   have hdv:=aRd (g.v.l.getD 0 U6).v ((ws i).l.getD 0 U6).v (Cr.rq hi0.2 (rv.le oM)) (Cr.rq hj0.2 (rw'.le oM)) w2
   refine⟨cCx,U0,RatM,λf=>⟨[(5,.c (cF (ws i))),(7,.c (.p 0 0)),(1,.c (cF g.v)),(0,.c (.v (.map (some b))))]++[],[],[(53,0,f.C)],[mpF b G]⟩,λf=>Cr f ((g.r.getD 0 U6).2/((es i).getD 0 U6).2),⟨0,⟨U,Uc⟩,0,⟨U,Uc⟩,?_⟩,λf hf=>?_⟩
   ·exact⟨⟨[],hdv,U,U,U,λf hf=>⟨U,U,iP (M:=λ_=>true) (base:=[]) (λt d ht=>by cases ht) (chg:=λ_:RatM=>[(5,.c (cF (ws i))),(7,.c (.p 0 0)),(1,.c (cF g.v)),(0,.c (.v (.map (some b))))]) (bls:=λf=>[(53,0,f.C)]) (fls:=λ_=>[mpF b G]) f hf U U ⟨U,tV⟩ rS bL (aA U aU) U⟩⟩,U,[],hdv,U,U,U,λf hf=>⟨U,iP (M:=λ_=>true) (base:=[]) (λt d ht=>by cases ht) (chg:=λ_:RatM=>[(5,.c (cF (ws i))),(7,.c (.p 0 0)),(1,.c (cF g.v)),(0,.c (.v (.map (some b))))]) (bls:=λf=>[(53,0,f.C)]) (fls:=λ_=>[mpF b G]) f hf U U ⟨U,tV⟩ rS bL (aA U aU) U⟩⟩
   replace hf:Cr f ((g.r.getD 0 U6).2/((es i).getD 0 U6).2):=hf
   refine⟨[],bCc f (Cr.rq hf (rf.le oM)),U,U,U,λn hn=>⟨[],bCk g.v (ws i) n hvE hwE hvR hwR hb1 (Cr.rq hn (uL rf)) (uL rf) oM hI.ok.1 hwo.1 oM oM,U,U,U,λy ⟨rs,hy,hm⟩=>hM ⟨y,rs,x i+1,upd g.cf i (g.cf i+ -((g.r.getD 0 U6).2/((es i).getD 0 U6).2))⟩ ⟨?_,show a+1-(x i+1)<a+1-g.c by omega⟩ U trivial ⟨U,tV⟩ ⟨U,U⟩ bL aU U⟩⟩
   obtain⟨s1,s2⟩:=bFd hI.ok hrl hwo hwl hlx hm
   refine⟨hy,s1,hca,λe he=>?_,λe he=>?_,λz=>?_⟩
   ·have:=s2 e he
    show((x i+1:Nat):Int)<=e.1
    omega
   ·exact(bNm hm hI.ok.1 hwo.1 hb1 hvR hwR (uL rf) e he).le (by show _<=bd B (x i+1);omega)
   rw[hm.g z,hI.sum z,aGs hit]
   grind
  rw[show(mpF b G).get 0=kvL x (λi=>cF (ws i)) t from hG] at h4
  refine vk ⟨g,⟨hI,.inr λi hi e=>?_⟩,kU U trivial ⟨U,tV⟩ bL aU U ClB.nil⟩
  have h5:=aGv (x:=x) (V:=λi=>cF (ws i)) hi
  exact h4 i _ (h5.1.trans (U5 (λz=>some (iC z)) (e.trans hi0.1.symm))) h5.2
 replace h2:¬(0:Int)<(g.v.l.length:Nat):=h2
 have hln:=hI.v.ln
 have hr0:g.r=[]:=bQ oM
 exact vk ⟨g,⟨hI,.inl hr0⟩,kU U trivial ⟨U,tV⟩ bL aU U ClB.nil⟩
theorem bTv (Q:Nat->Nat->Rat) (r c:Nat):∃E t pv,Ech Q E r c c t pv:=by
 have h:∀C,C<=c->∃E t pv,Ech Q E r c C t pv:=λC=>by
  induction C with
  |zero=>exact λ_=>⟨Q,0,λ_=>0,Ech.start _⟩
  |succ C ih=>
   intro hC
   obtain⟨E,t,pv,h⟩:=ih oM
   by_cases hk:∃k,t<=k/\k<r/\E k C≠0
   ·obtain⟨k,h1,h2,h3⟩:=hk
    exact⟨_,_,_,h.step h1 h2 h3⟩
   exact⟨E,t,pv,h.skip λi h1 h2=>aN λh3=>hk ⟨i,h1,h2,h3⟩⟩
 exact h c (aH c)
theorem aLx (Q:Nat->Nat->Rat) {r c:Nat} (h:r<c):∃x:Nat->Rat,(∃i,i<c/\x i≠0)/\Nul Q r c x:=by
 obtain⟨E,t,pv,he⟩:=bTv Q r c
 have:=he.tr
 exact aN λhn=>U4 (he.full.2 hn) oM
def Free (Q:Nat->Nat->Rat) (r c:Nat):Prop:=∀x,Nul Q r c x->∀i,i<c->x i=0
theorem Free.le {Q:Nat->Nat->Rat} {r c:Nat} (h:Free Q r c):c<=r:=aN λhn=>by
 obtain⟨x,⟨i,hi,hx⟩,h3⟩:=aLx Q (r:=r) (c:=c) oM
 exact hx (h x h3 i hi)
def Dep (Q:Nat->Nat->Rat) (r c j:Nat):Prop:=∃x:Nat->Rat,x j=1/\(∀i,j<i->x i=0)/\Nul Q r c x
structure Enm (P:Nat->Prop) (n m:Nat) (e:Nat->Nat):Prop where
 lt:∀k,k<m->e k<n
 mono:∀k l,k<l->l<m->e k<e l
 mem:∀k,k<m->P (e k)
 all:∀j,j<n->P j->∃k,k<m/\e k=j
theorem Enm.inj {P:Nat->Prop} {n m:Nat} {e:Nat->Nat} (h:Enm P n m e) {k l:Nat} (hk:k<m) (hl:l<m) (he:e k=e l):k=l:=by
 rcases eF k l with h1|h1|h1
 ·have:=h.mono k l h1 hl;omega
 ·exact h1
 have:=h.mono l k h1 hk;omega
def spr (m:Nat) (e:Nat->Nat) (y:Nat->Rat) (j:Nat):Rat:=bN (λl=>if e l=j then y l else 0) m
theorem zM {m c:Nat} {e:Nat->Nat} {y f:Nat->Rat} (he:∀k,k<m->e k<c):bN (λj=>f j*spr m e y j) c=bN (λl=>f (e l)*y l) m:=by
 have h1:bN (λj=>f j*spr m e y j) c=bN (λj=>bN (λl=>f j*(if e l=j then y l else 0)) m) c:=aZ λj _=>iH.symm
 rw[h1,qI]
 refine aZ λl hl=>?_
 rw[iZ (m:=e l) (he l hl) λj hj=>by rw[U2 (gU hj),bU],U3 U]
theorem aGz {m:Nat} {e:Nat->Nat} {y:Nat->Rat} {k:Nat} (hk:k<m) (hi:∀l,l<m->e l=e k->l=k):spr m e y (e k)=y k:=by
 unfold spr
 have h1:bN (λl=>if e l=e k then y l else 0) m=bN (λl=>if l=k then y l else 0) m:=aZ λl hl=>by
  by_cases h:e l=e k
  ·rw[U3 h,U3 (hi l hl h)]
  rw[U2 h,U2 λhh=>h (by rw[hh])]
 rw[h1,iZ (m:=k) hk λj hj=>U2 hj,U3 U]
theorem aLy {m:Nat} {e:Nat->Nat} {y:Nat->Rat} {j:Nat} (h:∀l,l<m->e l=j->y l=0):spr m e y j=0:=fF λl hl=>by
 by_cases h1:e l=j
 ·rw[U3 h1];exact h l hl h1
 rw[U2 h1]
theorem aUw {y:Nat->Rat}:∀{m:Nat},(∃k,k<m/\y k≠0)->∃k,k<m/\y k≠0/\∀l,k<l->l<m->y l=0
 |0,⟨k,hk,_⟩=>U4 hk (aF _)
 |m+1,⟨k,hk,hy⟩=>by
  by_cases h:y m=0
  ·have hkm:k<m:=by
    rcases bR (cB hk) with h1|h1
    ·exact h1
    rw[h1] at hy;exact U4 h hy
   obtain⟨k',h1,h2,h3⟩:=aUw ⟨k,hkm,hy⟩
   refine⟨k',Uc,h2,λl hl hlm=>?_⟩
   rcases bR (cB hlm) with h4|h4
   ·exact h3 l hl h4
   rw[h4];exact h
  exact⟨m,aS m,h,λl hl hlm=>Uc⟩
theorem bTw {Q:Nat->Nat->Rat} {r c m k:Nat} {e:Nat->Nat} {y:Nat->Rat} (he:∀k,k<m->e k<c) (hk:k<m) (hy:y k≠0) (hl:∀l,l<m->l≠k->y l≠0->e l<e k) (hi:∀l,l<m->e l=e k->l=k) (h:Nul (λi l=>Q i (e l)) r m y):Dep Q r c (e k):=by
 refine⟨spr m e λl=>(y k)⁻¹*y l,?_,λj hj=>aLy λl hlm hle=>?_,λi hir=>?_⟩
 ·rw[aGz hk hi];exact fM _ hy
 ·by_cases h0:y l=0
  ·rw[h0,bU]
  by_cases h1:l=k
  ·subst h1;omega
  have:=hl l hlm h1 h0;omega
 rw[zM he]
 have h1:bN (λl=>Q i (e l)*((y k)⁻¹*y l)) m=(y k)⁻¹*bN (λl=>Q i (e l)*y l) m:=by
  rw[<-iH];exact aZ λl _=>by grind
 rw[h1,h i hir,bU]
theorem Enm.free {Q:Nat->Nat->Rat} {r c m:Nat} {e:Nat->Nat} (h:Enm (λj=>¬Dep Q r c j) c m e):Free (λi k=>Q i (e k)) r m:=λy hy=>aN λhn=>by
 have hex:∃k,k<m/\y k≠0:=aN λh1=>hn λk hk=>aN λh2=>h1 ⟨k,hk,h2⟩
 obtain⟨k,h1,h2,h3⟩:=aUw hex
 refine h.mem k h1 (bTw h.lt h1 h2 (λl hl hlk hyl=>?_) (λl hl he=>h.inj hl h1 he) hy)
 rcases eF l k with h4|h4|h4
 ·exact h.mono l k h4 h1
 ·exact U4 h4 hlk
 exact U4 (h3 l h4 hl) hyl
theorem Enm.span {B:Nat->Nat->Rat} {m R t:Nat} {K:Nat->Nat} (h:Enm (λi=>¬Dep B m R i) R t K) {x:Nat->Rat} (hx:∀k,k<t->bN (λb=>B b (K k)*x b) m=0):∀i,i<R->bN (λb=>B b i*x b) m=0:=λi=>by
 induction i using Nat.strongRecOn with
 |ind i ih=>
  intro hi
  by_cases hd:Dep B m R i
  ·obtain⟨y,h1,h2,h3⟩:=hd
   have e1:bN (λl=>y l*bN (λb=>B b l*x b) m) R=0:=by
    have e2:bN (λl=>y l*bN (λb=>B b l*x b) m) R=bN (λl=>bN (λb=>y l*(B b l*x b)) m) R:=aZ λl _=>iH.symm
    rw[e2,qI]
    refine fF λb hb=>?_
    have e3:bN (λl=>y l*(B b l*x b)) R=x b*bN (λl=>B b l*y l) R:=by
     rw[<-iH];exact aZ λl _=>by grind
    rw[e3,h3 b hb,bU]
   have e4:bN (λl=>y l*bN (λb=>B b l*x b) m) R=bN (λl=>if l=i then bN (λb=>B b l*x b) m else 0) R:=aZ λl hl=>by
    rcases eF l i with h4|h4|h4
    ·rw[ih l h4 hl,U2 oM,bU]
    ·rw[U3 h4,h4,h1,iY]
    rw[h2 l h4,U2 oM,dL]
   rw[e4,iZ (m:=i) hi λj hj=>U2 hj,U3 U] at e1
   exact e1
  obtain⟨k,hk,rfl⟩:=h.all i hi hd
  exact hx k hk
theorem Enm.square {B:Nat->Nat->Rat} {m R t:Nat} {K:Nat->Nat} (h:Enm (λi=>¬Dep B m R i) R t K) (hf:Free (λi b=>B b i) R m):t=m/\Free (λk b=>B b (K k)) t m:=by
 have h1:Free (λk b=>B b (K k)) t m:=λx hx=>hf x λi hi=>h.span hx i hi
 have h2:=h1.le
 have h3:=h.free.le
 exact⟨Uc,h1⟩
theorem Free.tr {S:Nat->Nat->Rat} {n:Nat} (h:Free S n n):Free (λi j=>S j i) n n:=λy hy k hk=>aN λhyk=>by
 obtain⟨n,rfl⟩:∃n',n=n'+1:=⟨n-1,Uc⟩
 obtain⟨x,⟨i,hi,hxi⟩,h3⟩:=aLx (λi=>S (skp k i)) (aS n)
 have hall:Nul S (n+1) (n+1) x:=by
  have e1:bN (λl=>y l*bN (λj=>S l j*x j) (n+1)) (n+1)=0:=by
   have e2:bN (λl=>y l*bN (λj=>S l j*x j) (n+1)) (n+1)=bN (λl=>bN (λj=>y l*(S l j*x j)) (n+1)) (n+1):=aZ λl _=>iH.symm
   rw[e2,qI]
   refine fF λj hj=>?_
   have e3:bN (λl=>y l*(S l j*x j)) (n+1)=x j*bN (λl=>S l j*y l) (n+1):=by
    rw[<-iH];exact aZ λl _=>by grind
   rw[e3,hy j hj,bU]
  rw[yH hk] at e1
  rw[fF (n:=n) λl hl=>by rw[h3 l hl,bU],bK] at e1
  have e5:bN (λj=>S k j*x j) (n+1)=0:=by
   rcases oU.1 e1 with h4|h4
   ·exact U4 h4 hyk
   exact h4
  intro l hl
  by_cases hlk:l=k
  ·rw[hlk];exact e5
  have:∃l',l'<n/\skp k l'=l:=by
   unfold skp
   by_cases h5:l<k
   ·exact⟨l,Uc,by split<;>omega⟩
   exact⟨l-1,Uc,by split<;>omega⟩
  obtain⟨l',h5,rfl⟩:=this
  exact h3 l' h5
 exact hxi (h x hall i hi)
theorem aXo {Q:Nat->Nat->Rat} {r m:Nat} {R0:Nat->Nat} (hR:∀k,k<m->R0 k<r) (h:Free (λk b=>Q (R0 k) b) m m):Free Q r m:=λx hx=>h x λk hk=>hx _ (hR k hk)
theorem Free.no {Q:Nat->Nat->Rat} {r m j:Nat} (h:Free Q r m) (hj:j<m):¬Dep Q r m j:=λ⟨x,h1,_,h3⟩=>by
 have:=h x h3 j hj
 rw[h1] at this
 exact U4 this dC
theorem aDg {n m:Nat} {e f:Nat->Nat} (hi:∀i j,i<n->j<n->e i=e j->i=j) (hs:∀i,i<n->∃k,k<m/\f k=e i):n<=m:=by
 have hF:Free (λk i=>if f k=e i then (1:Rat) else 0) m n:=λx hx i hin=>by
  obtain⟨k,hk,hfk⟩:=hs i hin
  have h1:bN (λj=>(if f k=e j then (1:Rat) else 0)*x j) n=0:=hx k hk
  rw[aZ (g:=λj=>if j=i then x i else 0) λj hj=>by
   by_cases e1:j=i
   ·rw[U3 e1,e1,U3 hfk,iY]
   rw[U2 e1,U2 λh2=>e1 (hi j i hj hin (by rw[<-h2,hfk])),dL]] at h1
  rw[iZ (m:=i) hin λj hj=>U2 hj,U3 U] at h1
  exact h1
 exact hF.le
structure IdS (Q:Nat->Nat->Rat) (a b j t:Nat) (W:Nat->Nat->Rat) (x:Nat->Nat):Prop where
 lt:∀i,i<t->x i<a
 nz:∀i,i<t->W i (x i)≠0
 z:∀i,i<t->∀z,z<x i->W i z=0
 inj:∀i k,i<t->k<t->x i=x k->i=k
 A:∀i,i<t->∃y:Nat->Rat,(∀l,j<=l->y l=0)/\∀z,z<a->W i z=bN (λl=>Q z l*y l) b
 B:∀l,l<j->∃c:Nat->Rat,∀z,z<a->Q z l=bN (λi=>W i z*c i) t
theorem IdS.start {Q:Nat->Nat->Rat} {a b:Nat} {W:Nat->Nat->Rat} {x:Nat->Nat}:IdS Q a b 0 0 W x:=⟨λ_ h=>U4 h (aF _),λ_ h=>U4 h (aF _),λ_ h=>U4 h (aF _),λ_ _ h=>U4 h (aF _),λ_ h=>U4 h (aF _),λ_ h=>U4 h (aF _)⟩
section ids
variable {Q:Nat->Nat->Rat} {a b j t:Nat} {W:Nat->Nat->Rat} {x:Nat->Nat} (h:IdS Q a b j t W x)
include h in
theorem IdS.comb (c:Nat->Rat):∃y:Nat->Rat,(∀l,j<=l->y l=0)/\∀z,z<a->bN (λi=>W i z*c i) t=bN (λl=>Q z l*y l) b:=by
 have key:∀s,s<=t->∃y:Nat->Rat,(∀l,j<=l->y l=0)/\∀z,z<a->bN (λi=>W i z*c i) s=bN (λl=>Q z l*y l) b:=λs=>by
  induction s with
  |zero=>exact λ_=>⟨λ_=>0,λ_ _=>U,λz _=>(fF λl _=>bU _).symm⟩
  |succ s ih=>
   intro hs
   obtain⟨y,h1,h2⟩:=ih oM
   obtain⟨y',h3,h4⟩:=h.A s oM
   refine⟨λl=>y l+c s*y' l,λl hl=>by show y l+c s*y' l=0;rw[h1 l hl,h3 l hl,bU,bK],λz hz=>?_⟩
   show bN (λi=>W i z*c i) s+W s z*c s=_
   rw[h2 z hz,h4 z hz]
   have e:bN (λl=>Q z l*(y l+c s*y' l)) b=bN (λl=>Q z l*y l+c s*(Q z l*y' l)) b:=aZ λl _=>by grind
   rw[e,kZ];grind
 exact key t (aH t)
include h in
theorem IdS.lead {r:Nat->Rat} {c:Nat->Rat} {z0:Nat} (hr:∀z,z<a->r z=bN (λi=>W i z*c i) t) (h0:z0<a) (hn:r z0≠0) (hz:∀z,z<z0->r z=0):∃i,i<t/\x i=z0:=by
 have hex:∃i,i<t/\c i≠0:=aN λhno=>hn (by
  rw[hr z0 h0]
  refine fF λi hi=>?_
  rw[aN λhc=>hno ⟨i,hi,hc⟩,bU])
 have hmin:∀n,(∃i,i<t/\c i≠0/\x i<n)->∃i,i<t/\c i≠0/\∀k,k<t->c k≠0->x i<=x k:=λn=>by
  induction n with
  |zero=>exact λ⟨i,_,_,h3⟩=>U4 h3 (aF _)
  |succ n ih=>
   rintro⟨i,h1,h2,h3⟩
   by_cases e:∃k,k<t/\c k≠0/\x k<n
   ·exact ih e
   exact⟨i,h1,h2,λk hk hck=>aN λhlt=>e ⟨k,hk,hck,Uc⟩⟩
 obtain⟨i,hi,hci,hm⟩:=hmin a (by obtain⟨i,h1,h2⟩:=hex;exact⟨i,h1,h2,h.lt i h1⟩)
 have hxi:=h.lt i hi
 have e1:r (x i)=W i (x i)*c i:=by
  rw[hr _ hxi]
  have e:bN (λk=>W k (x i)*c k) t=bN (λk=>if k=i then W i (x i)*c i else 0) t:=aZ λk hk=>by
   by_cases e1:k=i
   ·rw[U3 e1,e1]
   rw[U2 e1]
   by_cases e2:c k=0
   ·rw[e2,bU]
   have h5:=hm k hk e2
   have h6:x i≠x k:=λe3=>e1 (h.inj i k hi hk e3).symm
   rw[h.z k hk (x i) oM,dL]
  rw[e,iZ (m:=i) hi λk hk=>U2 hk,U3 U]
 have e2:r (x i)≠0:=by
  rw[e1]
  intro h5
  rcases oU.1 h5 with h6|h6
  ·exact h.nz i hi h6
  exact hci h6
 have e3:∀z,z<x i->r z=0:=λz hzx=>by
  rw[hr z oM]
  refine fF λk hk=>?_
  by_cases e4:c k=0
  ·rw[e4,bU]
  have:=hm k hk e4
  rw[h.z k hk z oM,dL]
 refine⟨i,hi,?_⟩
 rcases eF (x i) z0 with h5|h5|h5
 ·exact U4 (hz _ h5) e2
 ·exact h5
 exact U4 (e3 _ h5) hn
include h in
theorem IdS.no {r:Nat->Rat} {c:Nat->Rat} (hj:j<b) (hr:∀z,z<a->r z=Q z j+bN (λi=>W i z*c i) t) (h0:∀z,z<a->r z=0):Dep Q a b j/\IdS Q a b (j+1) t W x:=by
 obtain⟨y,h1,h2⟩:=h.comb c
 constructor
 ·refine⟨λl=>y l+(if l=j then 1 else 0),by show y j+_=1;rw[h1 j (aH j),U3 U];grind,λl hl=>by show y l+_=0;rw[h1 l (eT hl),U2 oM];grind,λz hz=>?_⟩
  have e:bN (λl=>Q z l*(y l+(if l=j then 1 else 0))) b=bN (λl=>Q z l*y l+1*(Q z l*(if l=j then 1 else 0))) b:=aZ λl _=>by grind
  rw[e,kZ,<-h2 z hz,iZ (m:=j) hj λl hl=>by rw[U2 hl,bU],U3 U]
  have:=hr z hz
  rw[h0 z hz] at this
  grind
 refine⟨h.lt,h.nz,h.z,h.inj,λi hi=>?_,λl hl=>?_⟩
 ·obtain⟨y,h3,h4⟩:=h.A i hi
  exact⟨y,λl hl=>h3 l oM,h4⟩
 by_cases e:l=j
 ·subst e
  refine⟨λi=>-c i,λz hz=>?_⟩
  have e2:bN (λi=>W i z* -c i) t=-1*bN (λi=>W i z*c i) t:=by rw[<-iH];exact aZ λi _=>by grind
  have:=hr z hz
  rw[h0 z hz] at this
  rw[e2];grind
 exact h.B l oM
include h in
theorem IdS.yes {r:Nat->Rat} {c:Nat->Rat} {z0:Nat} (hj:j<b) (hr:∀z,z<a->r z=Q z j+bN (λi=>W i z*c i) t) (h0:z0<a) (hn:r z0≠0) (hz:∀z,z<z0->r z=0) (hx:∀i,i<t->x i≠z0):¬Dep Q a b j/\IdS Q a b (j+1) (t+1) (upd W t r) (upd x t z0):=by
 have sw:∀(f:Nat->Rat) (z:Nat),bN (λi=>upd W t r i z*f i) (t+1)=bN (λi=>W i z*f i) t+r z*f t:=λf z=>by
  show bN _ t+upd W t r t z*f t=_
  rw[bF,aZ (g:=λi=>W i z*f i) λi hi=>by rw[aY oM]]
 constructor
 ·rintro⟨y,h1,h2,h3⟩
  have key:∀s,s<=j->∃d:Nat->Rat,∀z,z<a->bN (λl=>Q z l*y l) s=bN (λi=>W i z*d i) t:=λs=>by
   induction s with
   |zero=>exact λ_=>⟨λ_=>0,λz _=>(fF λi _=>bU _).symm⟩
   |succ s ih=>
    intro hs
    obtain⟨d,h4⟩:=ih oM
    obtain⟨d',h5⟩:=h.B s oM
    refine⟨λi=>d i+y s*d' i,λz hz=>?_⟩
    show bN (λl=>Q z l*y l) s+Q z s*y s=_
    have e:bN (λi=>W i z*(d i+y s*d' i)) t=bN (λi=>W i z*d i+y s*(W i z*d' i)) t:=aZ λi _=>by grind
    rw[e,kZ,h4 z hz,h5 z hz];grind
  obtain⟨d,hd⟩:=key j (aH j)
  obtain⟨i,hi,he⟩:=h.lead (r:=r) (c:=λi=>c i-d i) (z0:=z0) (λz hza=>by
   have e1:bN (λl=>Q z l*y l) (j+1)=0:=by
    rw[<-h3 z hza]
    exact(vK hj λl hl _=>by rw[h2 l oM,bU]).symm
   replace e1:bN (λl=>Q z l*y l) j+Q z j*y j=0:=e1
   rw[h1,hd z hza] at e1
   have e2:bN (λi=>W i z*(c i-d i)) t=bN (λi=>W i z*c i+ -1*(W i z*d i)) t:=aZ λi _=>by grind
   rw[e2,kZ,hr z hza];grind) h0 hn hz
  exact hx i hi he
 refine⟨λi hi=>?_,λi hi=>?_,λi hi z hzi=>?_,λi k hi hk he=>?_,λi hi=>?_,λl hl=>?_⟩
 ·by_cases e:i=t
  ·subst e;rw[bF];exact h0
  rw[aY e];exact h.lt i oM
 ·by_cases e:i=t
  ·subst e;rw[bF,bF];exact hn
  rw[aY e,aY e];exact h.nz i oM
 ·by_cases e:i=t
  ·subst e;rw[bF];rw[bF] at hzi;exact hz z hzi
  rw[aY e];rw[aY e] at hzi;exact h.z i oM z hzi
 ·by_cases e:i=t
  ·by_cases e2:k=t
   ·rw[e,e2]
   rw[e,bF,aY e2] at he;exact U4 he.symm (hx k oM)
  by_cases e2:k=t
  ·rw[e2,bF,aY e] at he;exact U4 he (hx i oM)
  rw[aY e,aY e2] at he;exact h.inj i k oM oM he
 ·by_cases e:i=t
  ·subst e
   obtain⟨y,h1,h2⟩:=h.comb c
   refine⟨λl=>y l+(if l=j then 1 else 0),λl hl=>by show y l+_=0;rw[h1 l oM,U2 oM];grind,λz hz=>?_⟩
   rw[bF]
   have e:bN (λl=>Q z l*(y l+(if l=j then 1 else 0))) b=bN (λl=>Q z l*y l+1*(Q z l*(if l=j then 1 else 0))) b:=aZ λl _=>by grind
   rw[e,kZ,<-h2 z hz,iZ (m:=j) hj λl hl=>by rw[U2 hl,bU],U3 U,hr z hz]
   grind
  rw[aY e]
  obtain⟨y,h3,h4⟩:=h.A i oM
  exact⟨y,λl hl=>h3 l oM,h4⟩
 by_cases e:l=j
 ·subst e
  refine⟨λi=>if i=t then 1 else-c i,λz hz=>?_⟩
  rw[sw,U3 U]
  have e2:bN (λi=>W i z*(if i=t then 1 else-c i)) t=-1*bN (λi=>W i z*c i) t:=by rw[<-iH];exact aZ λi hi=>by rw[U2 oM];grind
  rw[e2,hr z hz];grind
 obtain⟨d,hd⟩:=h.B l oM
 refine⟨λi=>if i=t then 0 else d i,λz hz=>?_⟩
 rw[sw,U3 U,bU,bK,hd z hz]
 exact aZ λi hi=>by rw[U2 oM]
end ids
theorem bFf {Q Q':Nat->Nat->Rat} {a b j:Nat} {rk:Nat->Nat} (hl:∀i,i<a->rk i<a) (hi:∀i k,i<a->k<a->rk i=rk k->i=k) (hq:∀i l,i<a->l<b->Q' (rk i) l=Q i l):Dep Q' a b j↔Dep Q a b j:=by
 have hn:∀x,Nul Q' a b x↔Nul Q a b x:=λx=>⟨λh i hia=>by
  rw[<-h (rk i) (hl i hia)]
  exact aZ λl hlb=>by rw[hq i l hia hlb],λh z hz=>by
  obtain⟨i,hia,rfl⟩:=pL hl hi z hz
  rw[<-h i hia]
  exact aZ λl hlb=>by rw[hq i l hia hlb]⟩
 exact⟨λ⟨x,h1,h2,h3⟩=>⟨x,h1,h2,(hn x).1 h3⟩,λ⟨x,h1,h2,h3⟩=>⟨x,h1,h2,(hn x).2 h3⟩⟩
theorem aDh {x x':Nat->Nat} {V V':Nat->CV}:∀{k:Nat},(∀i,i<k->x i=x' i/\V i=V' i)->kvL x V k=kvL x' V' k
 |0,_=>rfl
 |k+1,h=>by
  show kvL x V k++_=kvL x' V' k++_
  rw[aDh λi hi=>h i (dY hi),(h k (aS k)).1,(h k (aS k)).2]
noncomputable def gS (P:Nat->Prop) (k:Nat):List Int:=@fI P (λ_=>Classical.propDecidable _) k
theorem gY {P:Nat->Prop} {k:Nat} (h:P k):gS P (k+1)=gS P k++[(k:Int)]:=@yJ P (λ_=>Classical.propDecidable _) k h
theorem jO {P:Nat->Prop} {k:Nat} (h:¬P k):gS P (k+1)=gS P k:=@kJ P (λ_=>Classical.propDecidable _) k h
theorem fA {P:Nat->Prop} {k:Nat}:(gS P k).length<=k:=@pN P (λ_=>Classical.propDecidable _) k
theorem tX {P:Nat->Prop} [DecidablePred P]:∀k,fI P k=gS P k
 |0=>rfl
 |k+1=>by
  by_cases h:P k
  ·rw[yJ h,gY h,tX k]
  rw[kJ h,jO h,tX k]
noncomputable abbrev mI (Q:Nat->Nat->Rat) (a b k:Nat):List Int:=gS (λj=>¬Dep Q a b j) k
theorem aPe {Q:Nat->Nat->Rat} {a b k:Nat} (h:¬Dep Q a b k):mI Q a b (k+1)=mI Q a b k++[(k:Int)]:=gY h
theorem aUx {Q:Nat->Nat->Rat} {a b k:Nat} (h:Dep Q a b k):mI Q a b (k+1)=mI Q a b k:=jO λhh=>hh h
theorem aHa {Q:Nat->Nat->Rat} {a b k:Nat}:(mI Q a b k).length<=k:=fA
structure InG where
 j:Nat
 t:Nat
 G:Nat->List CV
 ws:Nat->Sl EntM
 es:Nat->List En
 x:Nat->Nat
structure InI (Q:Nat->Nat->Rat) (a b B:Nat) (g:InG):Prop where
 j:g.j<=b
 G:g.G 0=kvL g.x (λi=>cF (g.ws i)) g.t
 e:EcS a g.t B g.ws g.es g.x
 s:IdS Q a b g.j g.t (λi z=>Vm.get (g.es i) (z:Nat)) g.x
abbrev idB (m:MatM) (L:List Int):BL:=[(78,0,m.C),(3,1,L.map iC)]
theorem aSa {m:MatM} {L:List Int}:scB 2 (idB m L):=aA U (aA (bG (aW _)) aU)
abbrev inS (d:Sl (Sl EntM)) (mb b j:Nat) (L:List Int):List (Nat×DV):=[(16,.c (iC j)),(14,.c (mU d)),(15,.c (iC b)),(4,.c (.v (.map (some mb)))),(5,.c (.s 1 L.length))]
theorem bFg (m:MatM) {M:Nat->List En} {a b B:Nat} (h:Mr m M a b B) (hb:rbM M a B) (h1:1<=B) (hB:bd B a<=4398046511104) (ha:a<=12) (hbn:b<=4096):Ctr pgQ 47 [] [.a m.C] [] (λg:Sl Int=>⟨.t [.c (cI g),.c (iC 0)],[],g.l=mI (mQ M) a b b⟩):=by
 have hB0:B<=4398046511104:=aJ (mV (aB a)) hB
 refine cw func47 (⟨[],aGk _ h hB0 oM hbn,U,U,U,λ_ _=>⟨λh2=>U4 trivial h2,λ_=>vk λmb=>⟨[],bZb m h hb h1 hB0 ha hbn,U,U,U,λ⟨d,rs,rk⟩ hS=>?_⟩⟩⟩)
 replace hS:SpF M a b d rs rk:=hS
 obtain⟨Q,hQ⟩:∃Q:Nat->Nat->Rat,Q=λz j=>Vm.get (rs j) (z:Nat):=⟨_,U⟩
 have hdp:∀j,Dep Q a b j↔Dep (mQ M) a b j:=λj=>bFf hS.lt hS.inj λi l hi hl=>by rw[hQ];exact hS.get i l hi hl
 have hrb:=hS.rb B h1 hb
 refine vW 5 3 1 U bL ?_
 refine bX (λ_=>true) (λg:InG=>inS d mb b g.j (mI (mQ M) a b g.j)) (λg=>idB m (mI (mQ M) a b g.j)) (λg=>[mpF mb g.G]) (λg=>InI Q a b B g) (λg=>b-g.j) λhM=>⟨hM ⟨0,0,λ_=>[],λ_=>cG,λ_=>[],λ_=>0⟩ ⟨aB _,U,⟨λ_ h=>U4 h (aF _),λ_ h=>U4 h (aF _),λ_ h=>U4 h (aF _),λ_ h=>U4 h (aF _),λ_ h=>U4 h (aF _)⟩,IdS.start⟩ U ⟨U,U⟩ ⟨U,tV⟩ ⟨U,U,?_,U,U⟩ bL aSa U,λg hI=>vk ⟨λh2=>vk ?_,λh2=>vk ?_⟩⟩
 ·show((d.l.length:Nat):Int)=(b:Nat);rw[hS.ln]
 ·replace h2:(g.j:Int)<(b:Nat):=h2
  have hjb:g.j<b:=Uc
  have hdl:=hS.ln
  have hll:=aHa (Q:=mQ M) (a:=a) (b:=b) (k:=g.j)
  have hv:=hS.ok g.j hjb
  refine⟨g.j,⟨U,Uc⟩,[1000],bZc mb g.G (d.l.getD g.j cG) hI.G hI.e (hS.row g.j hjb) hv (hrb g.j hjb) h1 hB oM,U,U,U,λy hy=>?_⟩
  obtain⟨hy1,hy2⟩:=hy
  replace hy1:RdI a g.t B g.es (rs g.j) y:=hy1
  replace hy2:y.r=[]\/∀i,i<g.t->((g.x i:Nat):Int)≠(y.r.getD 0 U6).1:=hy2
  have hyl:=hy1.v.ln
  have hsum:∀z,z<a->Vm.get y.r (z:Nat)=Q z g.j+bN (λi=>Vm.get (g.es i) (z:Nat)*y.cf i) g.t:=λz _=>by rw[hQ];exact hy1.sum _
  have hS0:IdS Q a b g.j g.t (λi z=>Vm.get (g.es i) (z:Nat)) g.x:=hI.s
  refine⟨λh3=>vk ?_,λh3=>vk ?_⟩
  ·replace h3:(0:Int)<(y.v.l.length:Nat):=h3
   have hrl:0<y.r.length:=Uc
   obtain⟨r1,r2,r3,r4⟩:=aGy hy1.ok hrl
   obtain⟨z0,hz0⟩:∃z0:Nat,(y.r.getD 0 U6).1=(z0:Nat):=⟨(y.r.getD 0 U6).1.toNat,Uc⟩
   have hx:∀i,i<g.t->g.x i≠z0:=λi hi e=>by
    rcases hy2 with h4|h4
    ·rw[h4] at hrl;exact U4 hrl (gC 0)
    exact h4 i hi (by rw[hz0,e])
   have he0:=(hy1.v.e 0 hrl)
   obtain⟨n1,n2⟩:=hS0.yes (r:=λz=>Vm.get y.r (z:Nat)) (c:=y.cf) (z0:=z0) hjb hsum oM (by show Vm.get y.r (z0:Nat)≠0;rw[<-hz0,r1];exact r2) (λz hz=>r4 _ oM) hx
   have n1':¬Dep (mQ M) a b g.j:=λh=>n1 ((hdp g.j).2 h)
   have hyes:=aPe n1'
   refine⟨0,⟨U,Uc⟩,0,0,z0,⟨Nat.one_pos,U,he0.1.trans hz0,λi c' h4 h5=>?_⟩,apI (x:=mI (mQ M) a b g.j) oM,(λc hc=>by rw[aE.1 hc];rfl),(g.j+1:Nat),wi,hM ⟨g.j+1,g.t+1,upd g.G 0 (g.G 0++[iC (z0:Nat),cF y.v]),upd g.ws g.t y.v,upd g.es g.t y.r,upd g.x g.t z0⟩ ⟨⟨hjb,?_,⟨λi hi=>?_,λi hi=>?_,λi hi=>?_,λi hi=>?_,λi hi=>?_⟩,?_⟩,show b-(g.j+1)<b-g.j by omega⟩ U ⟨U,?_⟩ ⟨U,tV⟩ ⟨U,U,U,U,?_⟩ bL aSa U⟩
   ·rw[show(mpF mb g.G).get 0=kvL g.x (λi=>cF (g.ws i)) g.t from hI.G] at h4 h5
    obtain⟨h6,h7,_⟩:=aDd h4 h5
    exact hx i h6 oM
   ·refine(bF:upd g.G 0 _ 0=_).trans ?_
    have e1:kvL g.x (λi=>cF (g.ws i)) g.t=kvL (upd g.x g.t z0) (λi=>cF (upd g.ws g.t y.v i)) g.t:=aDh λi hi=>⟨(aY oM).symm,by rw[aY oM]⟩
    have e2:upd g.x g.t z0 g.t=z0:=bF
    have e3:upd g.ws g.t y.v g.t=y.v:=bF
    show g.G 0++_=kvL (upd g.x g.t z0) (λi=>cF (upd g.ws g.t y.v i)) g.t++[iC (upd g.x g.t z0 g.t:Nat),cF (upd g.ws g.t y.v g.t)]
    rw[e2,e3,<-e1,hI.G]
   ·by_cases e:i=g.t
    ·subst e;show Ek (upd g.ws g.t y.v g.t).l (upd g.es g.t y.r g.t);rw[bF,bF];exact hy1.v
    show Ek (upd g.ws g.t y.v i).l (upd g.es g.t y.r i);rw[aY e,aY e];exact hI.e.row i (by have:i<g.t+1:=hi;omega)
   ·by_cases e:i=g.t
    ·subst e;show VOk (upd g.es g.t y.r g.t) _;rw[bF];exact hy1.ok
    show VOk (upd g.es g.t y.r i) _;rw[aY e];exact hI.e.ok i (by have:i<g.t+1:=hi;omega)
   ·by_cases e:i=g.t
    ·subst e
     have hz:=hy1.lo _ (fN hrl)
     show rbE (upd g.es g.t y.r g.t) (bd B (upd g.x g.t z0 g.t));rw[bF,bF];exact λe he=>(hy1.rb e he).le (mV oM)
    show rbE (upd g.es g.t y.r i) (bd B (upd g.x g.t z0 i));rw[aY e,aY e];exact hI.e.rb i (by have:i<g.t+1:=hi;omega)
   ·by_cases e:i=g.t
    ·subst e;show 0<(upd g.es g.t y.r g.t).length;rw[bF];exact hrl
    show 0<(upd g.es g.t y.r i).length;rw[aY e];exact hI.e.ne i (by have:i<g.t+1:=hi;omega)
   ·by_cases e:i=g.t
    ·subst e;show((upd g.es g.t y.r g.t).getD 0 U6).1=(upd g.x g.t z0 g.t:Nat);rw[bF,bF];exact hz0
    show((upd g.es g.t y.r i).getD 0 U6).1=(upd g.x g.t z0 i:Nat);rw[aY e,aY e];exact hI.e.ld i (by have:i<g.t+1:=hi;omega)
   ·show IdS Q a b (g.j+1) (g.t+1) (λi z=>Vm.get (upd g.es g.t y.r i) (z:Nat)) (upd g.x g.t z0)
    have e:(λ(i z:Nat)=>Vm.get (upd g.es g.t y.r i) (z:Nat))=upd (λ(i z:Nat)=>Vm.get (g.es i) (z:Nat)) g.t λz=>Vm.get y.r (z:Nat):=funext λi=>by
     by_cases e:i=g.t
     ·subst e;rw[bF];funext z;rw[bF]
     rw[aY e];funext z;rw[aY e]
    rw[e];exact n2
   ·show(_,_,(mI (mQ M) a b g.j).map iC++[iC (g.j:Nat)])=(_,_,(mI (mQ M) a b (g.j+1)).map iC)
    rw[hyes,bA];rfl
   show(mI (mQ M) a b g.j).length+1=(mI (mQ M) a b (g.j+1)).length
   rw[hyes,aD];rfl
  replace h3:¬(0:Int)<(y.v.l.length:Nat):=h3
  have hr0:y.r=[]:=bQ oM
  obtain⟨n1,n2⟩:=hS0.no (r:=λz=>Vm.get y.r (z:Nat)) (c:=y.cf) hjb hsum (λz _=>by show Vm.get y.r _=0;rw[hr0];rfl)
  have n1':Dep (mQ M) a b g.j:=(hdp g.j).1 n1
  have hno:=aUx n1'
  refine⟨(g.j+1:Nat),wi,hM ⟨g.j+1,g.t,g.G,g.ws,g.es,g.x⟩ ⟨⟨hjb,hI.G,hI.e,n2⟩,show b-(g.j+1)<b-g.j by omega⟩ U ⟨U,?_⟩ ⟨U,tV⟩ ⟨U,U,U,U,?_⟩ bL aSa U⟩
  ·show(_,_,(mI (mQ M) a b g.j).map iC)=(_,_,(mI (mQ M) a b (g.j+1)).map iC)
   rw[hno]
  show(mI (mQ M) a b g.j).length=(mI (mQ M) a b (g.j+1)).length
  rw[hno]
 replace h2:¬(g.j:Int)<(b:Nat):=h2
 have hgj:g.j=b:=by have:=hI.j;omega
 show Sd _ _ _ _ _ _
 refine nS 5 1 (λj=>[iC ((mI (mQ M) a b g.j).getD j 0)]) U U (λj hj=>mS j hj) (by rw[aK,bE]) bL (aW _) bL λA c _ _=>vk ⟨⟨A,c,mI (mQ M) a b g.j⟩,by show mI (mQ M) a b g.j=_;rw[hgj],aI ⟨U,U⟩ U tV⟩
theorem bZd {p:Prop} {hp:Decidable p} (h:¬p) {D:Pl} {n:Nat} {w:World} {v:Value} (hv:Hd D n w (.c (.b p hp)) v):Hd D n w (.c (.v (.bool false))) v:=by
 have:=hv.inv_c.inv_b
 rw[this,decide_eq_false h];exact .c (Rc.v _)
theorem aIq {p:Prop} {hp:Decidable p} (h:p) {D:Pl} {n:Nat} {w:World} {v:Value} (hv:Hd D n w (.c (.b p hp)) v):Hd D n w (.c (.v (.bool true))) v:=by
 have:=hv.inv_c.inv_b
 rw[this,decide_eq_true h];exact .c (Rc.v _)
abbrev nB (n:Int):BL:=[(3,0,[iC n])]
theorem aIr {n:Int}:scB 1 (nB n):=aA U aU
theorem bTx (n i:Int) (h:0<=i/\i<n):Ctr pgQ 143 [true] [.c (iC i),.c (.p 0 0)] (nB n) (λ_:Unit=>⟨pC False,nB n,True⟩):=
 gA gT (eo func143) func143 U U U bL (eW U) (vk ⟨(),tV,fH ⟨λhh=>Or.elim hh (λhh=>U4 hh (qJ.2 h.1)) λhh=>U4 hh (aAq.2 h.2),False.elim⟩ U bL aIr U (eW U)⟩)
theorem bOc (n:Int):Ctr pgQ 142 [] [.c (iC n)] [] (λ_:Unit=>⟨.c (.f 143 [] [(0,0)]),nB n,True⟩):=
 cw func142 (⟨(),tV,fH U U (aB _) aIr U aDy⟩)
theorem bZe (x:Sl Int) (n:Int) (hl:x.l.length<=4096) (h:∀k,k<x.l.length->0<=x.l.getD k 0/\x.l.getD k 0<n):Ctr pgQ 187 [true] [.c (cI x),.c (.f 143 [] [(0,0)])] (nB n) (λ_:Unit=>⟨.c (iC (-1)),nB n,True⟩):=by
 refine gA gT (eo func187) func187 U U U bL (eW U) (vk ?_)
 refine bX (λ_=>true) (λk:Nat=>[(8,.c (iC k)),(0,.c (cI x)),(1,.c (.f 143 [] [(0,0)])),(7,.c (iC (x.l.length:Nat)))]) (λ_=>nB n) (λ_=>[]) (λk=>k<=x.l.length) (λk=>x.l.length-k) λhM=>⟨hM 0 (aB _) U U trivial rS bL aIr U,λk hk=>vk ⟨λh2=>vk ?_,λh2=>vk ?_⟩⟩
 ·replace h2:(k:Int)<(x.l.length:Nat):=h2
  have hkn:k<x.l.length:=Uc
  exact⟨k,⟨U,hkn⟩,_,U,[0],bTx n _ (h k hkn),U,U,U,λ_ _=>⟨λhh=>hh.elim,λ_=>vk ⟨(k+1:Nat),wi,hM (k+1) ⟨hkn,show x.l.length-(k+1)<x.l.length-k by omega⟩ U U trivial rS bL aIr U⟩⟩⟩
 exact vk ⟨(),tV,fH U U bL aIr U (eW U)⟩
theorem bOd (x:Sl Int) (n:Int) (hl:x.l.length<=4096) (h:∀k,k<x.l.length->0<=x.l.getD k 0/\x.l.getD k 0<n):Ctr pgQ 144 [true] [.c (cI x),.c (.f 143 [] [(0,0)])] (nB n) (λ_:Unit=>⟨.c (.v (.bool false)),nB n,True⟩):=by
 have h1:Ctr pgQ 144 [true] [.c (cI x),.c (.f 143 [] [(0,0)])] (nB n) (λ_:Unit=>⟨pC False,nB n,True⟩):=
  gA gT (eo func144) func144 U U U bL (eW U) (vk ⟨[0],bZe x n hl h,U,U,U,λ_ _=>⟨(),tV,fH ⟨λhh=>U4 hh (show ¬((0:Int)<=-1) by decide),False.elim⟩ U bL aIr U (eW U)⟩⟩)
 exact CtrF.ld h1 λg hg=>⟨(),tV,λ_ _ _ _ hv=>bZd (λhh=>hh) hv,U,U⟩
theorem bOe (z:Int) (h:0<=z/\z<=16384):Ctr pgQ 138 [] [.c (iC z)] [] (λ_:Unit=>⟨.c (.v (.bool true)),[],True⟩):=CtrF.ld (bCo z) λg hg=>⟨(),tV,λ_ _ _ _ hv=>aIq h hv,U,U⟩
theorem bZf (e f:EntM):Ctr pgQ 147 [] [.a e.C,.a f.C] [] (λ_:Unit=>⟨.c (iC (cmE e.ix f.ix)),[],True⟩):=
 cw func147 (⟨[],bDs e.ix f.ix,U,U,U,λ_ _=>⟨(),tV,aI U U tV⟩⟩)
structure SelA (a b:Nat) (rs cs:Sl Int) (D κ:Nat->Nat):Prop where
 r:∀k,k<rs.l.length->rs.l.getD k 0=(D k:Nat)/\D k<a
 c:∀k,k<cs.l.length->cs.l.getD k 0=(κ k:Nat)/\κ k<b
 m:∀k l,k<l->l<cs.l.length->κ k<κ l
 rl:rs.l.length<=4096
 cl:cs.l.length<=12
abbrev bZg (m:MatM):BL:=[(78,0,m.C),(78,0,[iC 0,iC 0,.v (.slice none 0 0)])]
theorem aUy {m:MatM}:scB 2 (bZg m):=aA U (aA U aU)
abbrev cCy (rs cs:Sl Int) (mb k:Nat):List (Nat×DV):=[(53,.c (iC k)),(9,.c (.v (.map (some mb)))),(51,.c (cI cs)),(52,.c (iC (cs.l.length:Nat))),(3,.c (.p 0 0)),(6,.c (.p 1 0)),(1,.c (cI rs)),(2,.c (cI cs))]
abbrev bZh (rs:Sl Int) (mb k:Nat):List (Nat×DV):=[(74,.c (iC k)),(72,.c (cI rs)),(73,.c (iC (rs.l.length:Nat))),(9,.c (.v (.map (some mb)))),(3,.c (.p 0 0)),(6,.c (.p 1 0)),(12,.c (.p 4 0))]
abbrev bTy (m:MatM) (u n:Nat) (Y:Nat->Sl EntM):BL:=[(78,0,m.C),(78,0,[iC 0,iC 0,.v (.slice none 0 0)]),(78,0,[iC u,iC n,.s 3 u]),(57,1,eA u λj=>cF (Y j)),(78,0,[iC u,iC n,.s 3 u])]
theorem aUz {m:MatM} {u n:Nat} {Y:Nat->Sl EntM}:scB 5 (bTy m u n Y):=aA U (aA U (aA U (aA (bG (bD λ_ _=>U)) (aA U aU))))
abbrev bFh (x:Sl EntM) (rs:Sl Int) (mb k t l:Nat):List (Nat×DV):=(85,.c (iC t))::(83,.c (cF x))::(84,.c (iC (x.l.length:Nat)))::(15,.c (.s 5 l))::(13,.c (iC k))::bZh rs mb k
abbrev aXp (m:MatM) (u n:Nat) (Y:Nat->Sl EntM) (L:List EntM):BL:=bTy m u n Y++[(75,4,ecs L)]
theorem aEr {m:MatM} {u n:Nat} {Y:Nat->Sl EntM} {L:List EntM}:scB 6 (aXp m u n Y L):=aA U (aA U (aA U (aA (bG (bD λ_ _=>U)) (aA U (aA (bG (iB L)) aU)))))
abbrev bZi (x:Sl EntM) (rs:Sl Int) (mb k t l:Nat) (d:CV) (v z:Nat):List (Nat×DV):=(94,.c (iC z))::(92,.c d)::(93,.c (iC v))::(17,.c (.p 6 0))::bFh x rs mb k t l
abbrev bTz (m:MatM) (u n:Nat) (Y:Nat->Sl EntM) (L:List EntM) (e:EntM):BL:=aXp m u n Y L++[(75,0,e.C)]
theorem aLz {m:MatM} {u n:Nat} {Y:Nat->Sl EntM} {L:List EntM} {e:EntM}:scB 7 (bTz m u n Y L e):=aA U (aA U (aA U (aA (bG (bD λ_ _=>U)) (aA U (aA (bG (iB L)) (aA U aU))))))
theorem bZj (n:Nat):PmL (nL n λi=>i) n:=by
 have e:∀i,i<n->(nL n λi=>i).getD i 0=(i:Nat):=λi hi=>by unfold nL;simp[hi]
 exact⟨by unfold nL;simp,λi hi=>⟨i,e i hi,hi⟩,λi j hi hj h=>by rw[e i hi,e j hj] at h;omega⟩
theorem bKz {zs ys:List EntM} {es:List En} {n:Nat} (hz:zs.Perm ys) (hs:SrE zs ys.length) (hy:Ek ys es) (ho:VOk es (n:Nat)):Ek zs es:=by
 obtain⟨rs,r1,r2⟩:=aUo hz hy
 have e:es.map (rnE (nL n λi=>i))=es:=by
  refine(dR λe he=>?_).trans (yZ es)
  have h1:=ho.2 e he
  have h2:(nL n λi=>i).getD e.1.toNat 0=(e.1.toNat:Nat):=by unfold nL;simp[show e.1.toNat<n by omega]
  show((nL n λi=>i).getD e.1.toNat 0,e.2)=e
  rw[h2,show((e.1.toNat:Nat):Int)=e.1 by omega]
 have h1:Asc rs:=bDz r1 (by rw[hz.length_eq];exact hs) (by rw[e];exact r2) ho (bZj n)
 rw[<-Vm.canon_ext rs es h1 ho.1 (λe he=>(ho.2 e (r2.subset he)).2.2) (λe he=>(ho.2 e he).2.2) λi=>Vm.get_perm r2 i]
 exact r1
theorem bUa (m:MatM) (rs cs:Sl Int) {M:Nat->List En} {a b B:Nat} {D κ:Nat->Nat} (h:Mr m M a b B) (hb:rbM M a B) (h1:1<=B) (hB:B<=4398046511104) (ha:a<=4096) (hbn:b<=4096) (hA:SelA a b rs cs D κ):Ctr pgQ 94 [] [.a m.C,.c (cI rs),.c (cI cs)] [] (λg:MatM=>⟨.t [.a g.C,.c (iC 0)],[],Mk g (λk=>jT κ cs.l.length (M (D k))) rs.l.length cs.l.length⟩):=by
 obtain⟨mr,mc,md⟩:=m
 obtain rfl:mr=(a:Nat):=h.r
 obtain rfl:mc=(b:Nat):=h.c
 have hrl:=hA.rl
 have hcl:=hA.cl
 refine cw func94 (⟨[],aGk _ h hB ha hbn,U,U,U,λ_ _=>⟨λh2=>U4 trivial h2,λ_=>vk ⟨[],bOc (a:Nat),U,U,U,λ_ _=>⟨[2],bOd rs (a:Nat) oM (λk hk=>by have:=hA.r k hk;omega),U,U,U,λ_ _=>⟨[],bOc (b:Nat),U,U,U,λ_ _=>⟨[3],bOd cs (b:Nat) oM (λk hk=>by have:=hA.c k hk;omega),U,U,U,λ_ _=>⟨[],bOe (rs.l.length:Nat) oM,U,U,U,λ_ _=>⟨[],bOe (cs.l.length:Nat) oM,U,U,U,λ_ _ mb=>?_⟩⟩⟩⟩⟩⟩⟩⟩)
 refine bX (λ_=>true) (λg:Nat×(Nat->List CV)×(Nat->Sl Int)=>cCy rs cs mb g.1) (λ_=>bZg ⟨a,b,md⟩) (λg=>[mpF mb g.2.1]) (λg=>g.1<=cs.l.length/\g.2.1 0=kvL κ (λi=>cI (g.2.2 i)) g.1/\∀i,i<g.1->(g.2.2 i).l=[(i:Int)]) (λg=>cs.l.length-g.1) λhM=>⟨hM (0,λ_=>[],λ_=>cG) ⟨aB _,U,λi hi=>U4 hi (aF _)⟩ U ⟨U,U⟩ ⟨U,tV⟩ rS bL aUy U,λ⟨k,G,pl⟩ ⟨hk,hG,hpl⟩=>Sd.sq (vk (Sd.sq (vk ⟨λh2=>vk ?_,λh2=>vk ?_⟩)))⟩
 all_goals
  replace hk:k<=cs.l.length:=hk
  replace hG:G 0=kvL κ (λi=>cI (pl i)) k:=hG
  replace hpl:∀i,i<k->(pl i).l=[(i:Int)]:=hpl
 ·replace h2:(k:Int)<(cs.l.length:Nat):=h2
  have hkn:k<cs.l.length:=Uc
  refine Sd.sq (Sd.blk (Sd.sq (vk ⟨k,⟨U,hkn⟩,?_⟩)))
  refine Sd.rg gT (l:=[_,_,_,_,_,_,_,_,_]) [_,_,_,_,_,_,_,_] [_] U U ?_
  have hno:∀(i:Nat) (c':CV),((mpF mb G).get 0)[2*i]? =some (.v (.int .i64 (κ k:Nat)))->((mpF mb G).get 0)[2*i+1]? =some c'->False:=λi c' h4 h5=>by
   rw[show(mpF mb G).get 0=kvL κ (λi=>cI (pl i)) k from hG] at h4 h5
   obtain⟨h6,h7,_⟩:=aDd h4 h5
   have:=hA.m i k h6 hkn
   omega
  refine⟨0,0,⟨Nat.one_pos,U⟩,λi c' h4 h5=>U4 (hno i c' (by rw[<-(hA.c k hkn).1];exact h4) h5) (λhh=>hh),λ_=>⟨⟨U,by simp only[maxLen];omega,by show 1*8<=_;omega⟩,?_⟩⟩
  show Sdl _ _ _ _ _ _ _
  refine aOe bRa 65 3 (λj=>[iC (([(k:Int)]:List Int).getD j 0)]) U U (λj hj=>?_) U bL (λc hc=>by rw[aE.1 hc];rfl) bL λA c _ _=>⟨cm (aOy U),?_⟩
  ·obtain rfl:j=0:=Uc
   rfl
  refine Sdl.go (l:=[_,_,_,_,_,_,_,_,_]) gT ?_
  refine⟨0,0,κ k,⟨Nat.one_pos,U,(hA.c k hkn).1,hno⟩,vk ⟨(k+1:Nat),wi,hM (k+1,upd G 0 (G 0++[iC (κ k:Nat),cI ⟨A,c,[(k:Int)]⟩]),upd pl k ⟨A,c,[(k:Int)]⟩) ⟨⟨hkn,?_,λi hi=>?_⟩,show cs.l.length-(k+1)<cs.l.length-k by omega⟩ U ⟨U,U⟩ ⟨U,tV⟩ rS bL aUy U⟩⟩
  ·refine(bF:upd G 0 _ 0=_).trans ?_
   have e1:kvL κ (λi=>cI (pl i)) k=kvL κ (λi=>cI (upd pl k ⟨A,c,[(k:Int)]⟩ i)) k:=aDh λi hi=>⟨U,by rw[aY oM]⟩
   have e2:upd pl k ⟨A,c,[(k:Int)]⟩ k=⟨A,c,[(k:Int)]⟩:=bF
   show G 0++_=kvL κ (λi=>cI (upd pl k ⟨A,c,[(k:Int)]⟩ i)) k++[iC (κ k:Nat),cI (upd pl k ⟨A,c,[(k:Int)]⟩ k)]
   rw[e2,<-e1,hG]
  show(upd pl k _ i).l=_
  by_cases e:i=k
  ·subst e;rw[bF]
  rw[aY e];exact hpl i (by have:i<k+1:=hi;omega)
 replace h2:¬(k:Int)<(cs.l.length:Nat):=h2
 obtain rfl:k=cs.l.length:=Uc
 obtain⟨n,hn⟩:∃n,n=cs.l.length:=⟨_,U⟩
 obtain⟨u,hu⟩:∃u,u=rs.l.length:=⟨_,U⟩
 refine vk ⟨[],bNg rs.l.length cs.l.length hrl,U,U,U,λ_ _=>?_⟩
 show Sd _ _ _ _ _ _
 refine gJ tSd 3 (eA rs.l.length λ_=>cF cG) U (by rw[dD,cU]) (uM λ_ _=>qW) ?_
 refine bX (λ_=>true) (λg:Nat×(Nat->Sl EntM)=>bZh rs mb g.1) (λg=>bTy ⟨a,b,md⟩ rs.l.length cs.l.length g.2) (λ_=>[mpF mb G]) (λg=>g.1<=rs.l.length/\∀j,j<g.1->Ek (g.2 j).l (jT κ cs.l.length (M (D j)))) (λg=>rs.l.length-g.1) λhM=>⟨hM (0,λ_=>cG) ⟨aB _,λj hj=>U4 hj (aF _)⟩ U rS ⟨U,tV⟩ rS bL aUz U,λ⟨k,Y⟩ ⟨hk,hY⟩=>vk ⟨λh3=>vk ?_,λh3=>vk ?_⟩⟩
 all_goals
  replace hk:k<=rs.l.length:=hk
  replace hY:∀j,j<k->Ek (Y j).l (jT κ cs.l.length (M (D j))):=hY
 ·replace h3:(k:Int)<(rs.l.length:Nat):=h3
  have hkn:k<rs.l.length:=Uc
  obtain⟨r1,r2⟩:=hA.r k hkn
  have hrow:=h.row _ r2
  have hok:=h.ok _ r2
  have hbr:=hb _ r2
  have hle:(md.l.getD (D k) cG).l.length=(M (D k)).length:=hrow.ln
  have hdl:md.l.length=a:=h.ln
  refine⟨k,⟨U,hkn⟩,D k,⟨r1,by show D k<md.l.length;omega⟩,?_⟩
  show Sd _ _ _ _ _ _
  refine vW 15 75 4 U bL ?_
  refine bX (λ_=>true) (λg:Nat×List EntM=>bFh (md.l.getD (D k) cG) rs mb k g.1 g.2.length) (λg=>aXp ⟨a,b,md⟩ rs.l.length cs.l.length Y g.2) (λ_=>[mpF mb G]) (λg=>g.1<=(M (D k)).length/\Ek g.2 (jT κ cs.l.length ((M (D k)).take g.1))) (λg=>(M (D k)).length-g.1) λhM2=>⟨hM2 (0,[]) ⟨aB _,⟨U,λk hk=>U4 hk (aF _)⟩⟩ U rS ⟨U,tV⟩ rS bL aEr U,λ⟨t,L⟩ ⟨ht,hL⟩=>Sd.sq (vk (Sd.sq (vk ⟨λh4=>vk ?_,λh4=>vk ?_⟩)))⟩
  all_goals
   replace ht:t<=(M (D k)).length:=ht
   replace hL:Ek L (jT κ cs.l.length ((M (D k)).take t)):=hL
  ·replace h4:(t:Int)<((md.l.getD (D k) cG).l.length:Nat):=h4
   have htl:t<(M (D k)).length:=Uc
   have hte:t<(md.l.getD (D k) cG).l.length:=Uc
   have he:=hrow.e t htl
   have hcl2:(jT κ cs.l.length ((M (D k)).take t)).length<=t:=aJ (uR _ _) (by rw[bI];omega)
   have hLl:=hL.ln
   have hMl:=hok.2
   refine Sd.cut (σ:=List EntM) (λL'=>⟨bFh (md.l.getD (D k) cG) rs mb k t L'.length++[],[],aXp ⟨a,b,md⟩ rs.l.length cs.l.length Y L',[mpF mb G]⟩) (λL'=>Ek L' (jT κ cs.l.length ((M (D k)).take (t+1)))) ?_ λL' hL'=>?_
   ·refine vk ?_
    refine⟨t,⟨U,hte⟩,0,0,⟨Nat.one_pos,U⟩,λi c' h5 h6=>?_,λh5=>?_⟩
    ·rw[show(mpF mb G).get 0=kvL κ (λi=>cI (pl i)) cs.l.length from hG] at h5 h6
     obtain⟨hi,hz,hc'⟩:=aDd h5 h6
     subst hc'
     have hpi:=hpl i hi
     have hpn:(pl i).l.length=1:=by rw[hpi];rfl
     have hcf:=aIo hA.m htl hi (he.1.symm.trans hz)
     show Sd _ _ _ _ _ _
     refine bX (λ_=>true) (λg:Nat×List EntM=>bZi (md.l.getD (D k) cG) rs mb k t g.2.length (cI (pl i)) (pl i).l.length g.1) (λg=>bTz ⟨a,b,md⟩ rs.l.length cs.l.length Y g.2 ((md.l.getD (D k) cG).l.getD t U6)) (λ_=>[mpF mb G]) (λg=>g.1<=1/\(g.1=0->g.2=L)/\(g.1=1->Ek g.2 (jT κ cs.l.length ((M (D k)).take (t+1))))) (λg=>1-g.1) λhM3=>⟨hM3 (0,L) ⟨aB _,λ_=>U,λh=>by cases h⟩ U rS ⟨U,tV⟩ rS bL aLz U,λ⟨z,L'⟩ ⟨hz1,hz2,hz3⟩=>vk ⟨λh7=>vk ?_,λh7=>vk ?_⟩⟩
     all_goals
      replace hz1:z<=1:=hz1
      replace hz2:z=0->L'=L:=hz2
      replace hz3:z=1->Ek L' (jT κ cs.l.length ((M (D k)).take (t+1))):=hz3
     ·replace h7:(z:Int)<((pl i).l.length:Nat):=h7
      have hz0:z=0:=Uc
      have hLL:L'=L:=hz2 hz0
      have hL1:Ek L' (jT κ cs.l.length ((M (D k)).take t)):=by rw[hLL];exact hL
      have hLl1:=hL1.ln
      have hix:(pl i).l.getD z 0=(i:Nat):=by rw[hpi,hz0];rfl
      refine⟨z,⟨U,Uc⟩,[],oR ((md.l.getD (D k) cG).l.getD t U6).v (he.2.le hB),U,U,U,λg hg=>⟨⟨U,(iA _).symm,by show L'.length+1<=maxLen;simp only[maxLen];omega,by show(L'.length+1)*64<=_;omega,λc hc=>(aO.1 hc).elim (λh=>bJ (iB L' c h)) (mT ⟨(pl i).l.getD z 0,g⟩ c)⟩,(λc hc=>bJ (bD (λ_ _=>U) c hc)),mT ⟨(pl i).l.getD z 0,g⟩,(z+1:Nat),wi,hM3 (z+1,L'++[⟨(pl i).l.getD z 0,g⟩]) ⟨⟨by show z+1<=1;omega,λh=>U4 h (Nat.succ_ne_zero z),λ_=>?_⟩,show 1-(z+1)<1-z by omega⟩ U ⟨U,U,U,U,U,?_,U⟩ ⟨U,tV⟩ ⟨U,U,U,U,U,U,U,?_,U,U,U,U,U,U,U,U⟩ bL aLz U⟩⟩
      ·show Ek (L'++[⟨(pl i).l.getD z 0,g⟩]) _
       rw[hcf,hix];exact wK hL1 hg
      ·show(_,_,_)=(_,_,_)
       rw[<-qV];rfl
      show L'.length+1=(L'++[_]).length
      rw[aD];rfl
     replace h7:¬(z:Int)<((pl i).l.length:Nat):=h7
     exact(iP (M:=λ_=>true) (base:=[]) (λt d ht=>by cases ht) (chg:=λL':List EntM=>bFh (md.l.getD (D k) cG) rs mb k t L'.length) (bls:=λL'=>aXp ⟨a,b,md⟩ rs.l.length cs.l.length Y L') (fls:=λ_=>[mpF mb G]) L' (hz3 oM) U rS ⟨U,tV⟩ rS bL aEr U)
    have hno:∀j,j<cs.l.length->((κ j:Nat):Int)≠((M (D k)).getD t U6).1:=λj hj e=>by
     rw[show(mpF mb G).get 0=kvL κ (λi=>cI (pl i)) cs.l.length from hG] at h5
     have h6:=aGv (x:=κ) (V:=λi=>cI (pl i)) hj
     exact h5 j _ (h6.1.trans (U5 (λz=>some (iC z)) (e.trans he.1.symm))) h6.2
    show Sd _ _ _ _ _ _
    refine bX (λ_=>true) (λ_:Unit=>bZi (md.l.getD (D k) cG) rs mb k t L.length (.v (.slice none 0 0)) 0 0) (λ_=>bTz ⟨a,b,md⟩ rs.l.length cs.l.length Y L ((md.l.getD (D k) cG).l.getD t U6)) (λ_=>[mpF mb G]) (λ_=>True) (λ_=>0) λhM3=>⟨hM3 () trivial U rS ⟨U,tV⟩ rS bL aLz U,λ_ _=>vk ⟨λh7=>U4 h7 (show ¬((0:Nat):Int)<((0:Nat):Int) by omega),λh7=>vk ?_⟩⟩
    refine(iP (M:=λ_=>true) (base:=[]) (λt d ht=>by cases ht) (chg:=λL':List EntM=>bFh (md.l.getD (D k) cG) rs mb k t L'.length) (bls:=λL'=>aXp ⟨a,b,md⟩ rs.l.length cs.l.length Y L') (fls:=λ_=>[mpF mb G]) L ?_ rfl rS ⟨U,tV⟩ rS bL aEr U)
    show Ek L (jT κ cs.l.length ((M (D k)).take (t+1)))
    rw[aIn htl hno];exact hL
   exact vk ⟨(t+1:Nat),wi,hM2 (t+1,L') ⟨⟨htl,hL'⟩,show(M (D k)).length-(t+1)<(M (D k)).length-t by omega⟩ U rS ⟨U,tV⟩ rS bL aEr U⟩
  replace h4:¬(t:Int)<((md.l.getD (D k) cG).l.length:Nat):=h4
  obtain rfl:t=(M (D k)).length:=Uc
  rw[cQ] at hL
  have hvk:=zL hA.m hok.1
  have hvl:=kY hvk
  have hLl:=hL.ln
  have hm:=h.r
  show Sd _ _ _ _ _ _
  refine Sd.sq (vk ⟨none,[5],bNo bZf L U oM,U,U,U,λzs hz=>nS 15 5 (λj=>(zs.getD j U6).C) U U (λj hj=>?_) ?_ bL (iB zs) bL λA c _ _=>⟨λc hc=>bJ (bD (λ_ _=>U) c hc),vk ⟨k,⟨U,hkn,cS hkn⟩,_,gX (c:=.r A L.length c 4 λj=>(zs.getD j U6).C) (Q:=λj=>cF (upd Y k ⟨A,c,zs⟩ j)) hkn (λj _=>?_),(k+1:Nat),wi,hM (k+1,upd Y k ⟨A,c,zs⟩) ⟨⟨hkn,λj hj=>?_⟩,show rs.l.length-(k+1)<rs.l.length-k by omega⟩ U rS ⟨U,tV⟩ rS bL aUz U⟩⟩⟩)
  all_goals
   obtain⟨hz1,hz2⟩:=hz
   have hzl:zs.length=L.length:=hz1.length_eq
  ·exact sP zs j (by rw[hzl];exact hj)
  ·rw[iA,hzl]
  ·by_cases e:j=k
   ·subst e;rw[U3 U,bF]
    show _=CV.r A zs.length c 4 λj=>(zs.getD j U6).C
    rw[hzl]
   rw[U2 e,aY e]
  show Ek (upd Y k ⟨A,c,zs⟩ j).l _
  by_cases e:j=k
  ·subst e;rw[bF];exact bKz hz1 hz2 hL hvk
  rw[aY e];exact hY j (by have:j<k+1:=hj;omega)
 replace h3:¬(k:Int)<(rs.l.length:Nat):=h3
 obtain rfl:k=rs.l.length:=Uc
 show Sd _ _ _ _ _ _
 refine kT tSd 3 U bL (bD λ_ _=>U) bL U λA2 c2=>?_
 refine jQ tSd 4 1 [iC rs.l.length,iC cs.l.length,mU ⟨A2.map λb=>⟨b,0,none⟩,c2,lK Y rs.l.length⟩] U U U U (wM (k0:=2) U wN) (vk ⟨⟨rs.l.length,cs.l.length,⟨A2.map λb=>⟨b,0,none⟩,c2,lK Y rs.l.length⟩⟩,⟨U,U,oB,λj hj=>?_,λj hj=>?_⟩,aI ⟨U,U⟩ U tV⟩)
 ·show Ek ((lK Y rs.l.length).getD j cG).l _
  rw[qX hj];exact hY j hj
 have hvk:=zL (n:=cs.l.length) hA.m (h.ok _ (hA.r j hj).2).1
 exact⟨hvk,kY hvk⟩
structure CorM where
 c:Sl Int
 r:Sl Int
 f:LuM
def CorM.C (x:CorM):List CV:=[cI x.c,cI x.r,cI x.f.R,cI x.f.K,iC x.f.L.r,iC x.f.L.c,mU x.f.L.d,iC x.f.Ub.r,iC x.f.Ub.c,mU x.f.Ub.d]
abbrev bLa:List CV:=[.v (.slice none 0 0),.v (.slice none 0 0),.v (.slice none 0 0),.v (.slice none 0 0),iC 0,iC 0,.v (.slice none 0 0),iC 0,iC 0,.v (.slice none 0 0)]
noncomputable abbrev bcL (b:BasM) (n:Nat):List Int:=gS (λj=>b.c.l.getD j 0=2) n
noncomputable abbrev brL (b:BasM) (n:Nat):List Int:=gS (λi=>b.r.l.getD i 0≠2) n
def atN (l:List Int) (k:Nat):Nat:=(l.getD k 0).toNat
structure BasOk (p:ProgM) (b:BasM):Prop where
 c:b.c.l.length=p.c.l.length
 r:b.r.l.length=p.r.l.length
 pc:∀j,j<p.c.l.length->Pmt (p.c.l.getD j U6) (b.c.l.getD j 0)
 pr:∀i,i<p.r.l.length->b.r.l.getD i 0=2\/b.r.l.getD i 0=dfR (p.r.l.getD i U6).s
noncomputable def zS (p:ProgM) (q:PrQ) (b:BasM) (k:Nat):List En:=jT (atN (bcL b p.c.l.length)) (bcL b p.c.l.length).length (q.M (atN (brL b p.r.l.length) k))
structure BVal (p:ProgM) (q:PrQ) (b:BasM):Prop where
 ok:BasOk p b
 n:(bcL b p.c.l.length).length=(brL b p.r.l.length).length
 k:¬Ker (zS p q b) (brL b p.r.l.length).length
section sel
variable {P:Nat->Prop}
theorem pP:∀{n:Nat} {z:Int},z∈gS P n↔∃k:Nat,z=(k:Nat)/\k<n/\P k
 |0,z=>⟨λh=>(by cases h),λ⟨k,_,h,_⟩=>U4 h (aF k)⟩
 |n+1,z=>by
  by_cases hp:P n
  ·rw[gY hp,aO,pP,aE]
   constructor
   ·rintro(⟨k,h1,h2,h3⟩|h)
    ·exact⟨k,h1,Uc,h3⟩
    exact⟨n,h,Uc,hp⟩
   rintro⟨k,h1,h2,h3⟩
   rcases bR (cB h2) with h4|h4
   ·exact .inl ⟨k,h1,h4,h3⟩
   exact .inr (by rw[h1,h4])
  rw[jO hp,pP]
  constructor
  ·rintro⟨k,h1,h2,h3⟩;exact⟨k,h1,Uc,h3⟩
  rintro⟨k,h1,h2,h3⟩
  rcases bR (cB h2) with h4|h4
  ·exact⟨k,h1,h4,h3⟩
  rw[h4] at h3;exact U4 h3 hp
theorem aHb:∀n,(gS P n).Pairwise (·<·)
 |0=>List.Pairwise.nil
 |n+1=>by
  by_cases hp:P n
  ·rw[gY hp]
   refine eR.2 ⟨aHb n,eK _ _,λz hz y hy=>?_⟩
   obtain⟨k,h1,h2,_⟩:=pP.1 hz
   rw[aE.1 hy,h1];omega
  rw[jO hp];exact aHb n
theorem eN (n:Nat):Enm P n (gS P n).length (atN (gS P n))/\∀k,k<(gS P n).length->(gS P n).getD k 0=(atN (gS P n) k:Nat):=by
 have h0:∀k,k<(gS P n).length->∃m:Nat,(gS P n).getD k 0=(m:Nat)/\m<n/\P m:=λk hk=>by
  have hm:(gS P n).getD k 0∈gS P n:=by rw[aC,aG hk];exact kB hk
  exact pP.1 hm
 have h1:∀k,k<(gS P n).length->(gS P n).getD k 0=(atN (gS P n) k:Nat):=λk hk=>by
  obtain⟨m,h2,_⟩:=h0 k hk
  unfold atN;rw[h2];rfl
 refine⟨⟨λk hk=>?_,λk l hkl hl=>?_,λk hk=>?_,λj hj hp=>?_⟩,h1⟩
 ·obtain⟨m,h2,h3,_⟩:=h0 k hk
  have:=h1 k hk
  omega
 ·have h2:=gW.1 (aHb (P:=P) n) k l oM hl hkl
  have h3:=h1 k oM
  have h4:=h1 l hl
  rw[aC,aG oM] at h3
  rw[aC,aG hl] at h4
  simp only[Option.getD_some] at h3 h4
  omega
 ·obtain⟨m,h2,_,h3⟩:=h0 k hk
  have:=h1 k hk
  rw[show atN (gS P n) k=m by omega];exact h3
 obtain⟨k,hk,h2⟩:=rT (pP.2 ⟨j,U,hj,hp⟩)
 refine⟨k,hk,?_⟩
 have:=h1 k hk
 rw[aC,aG hk] at this
 simp only[Option.getD_some] at this
 omega
end sel
theorem bLb (p:ProgM) (b:BasM) (C R:Sl Int) (hC:C.l=bcL b p.c.l.length) (hR:R.l=brL b p.r.l.length) (hc:p.c.l.length<=4096) (hr:p.r.l.length<=4096):CofA p R C (atN (brL b p.r.l.length)) (atN (bcL b p.c.l.length)):=by
 obtain⟨e1,e2⟩:=eN (P:=λj=>b.c.l.getD j 0=2) p.c.l.length
 obtain⟨f1,f2⟩:=eN (P:=λi=>b.r.l.getD i 0≠2) p.r.l.length
 have l1:=fA (P:=λj=>b.c.l.getD j 0=2) (k:=p.c.l.length)
 have l2:=fA (P:=λi=>b.r.l.getD i 0≠2) (k:=p.r.l.length)
 exact⟨λk hk=>by rw[hR] at hk ⊢;exact⟨f2 k hk,f1.lt k hk⟩,λk hk=>by rw[hC] at hk ⊢;exact⟨e2 k hk,e1.lt k hk⟩,λk l hkl hl=>by rw[hC] at hl;exact e1.mono k l hkl hl,by rw[hR];exact aJ l2 hr,by rw[hC];exact aJ l1 hc⟩
abbrev ncB (p:ProgM) (b:BasM) (L R:List Int):BL:=[(25,0,p.C),(28,0,b.C),(82,0,bLa),(82,0,[.s 4 L.length,.s 5 R.length,.v (.slice none 0 0),.v (.slice none 0 0),iC 0,iC 0,.v (.slice none 0 0),iC 0,iC 0,.v (.slice none 0 0)]),(3,1,L.map iC),(3,1,R.map iC)]
theorem aDi {p:ProgM} {b:BasM} {L R:List Int}:scB 6 (ncB p b L R):=aA U (aA U (aA U (aA U (aA (bG (aW _)) (aA (bG (aW _)) aU)))))
abbrev cCz (b:BasM) (k:Nat):List (Nat×DV):=[(33,.c (iC k)),(2,.c (.p 0 0)),(3,.c (.p 1 0)),(4,.c (.p 2 0)),(6,.c (.p 3 0)),(31,.c (cI b.c)),(32,.c (iC (b.c.l.length:Nat)))]
abbrev cDa (b:BasM) (k:Nat):List (Nat×DV):=[(59,.c (iC k)),(2,.c (.p 0 0)),(3,.c (.p 1 0)),(4,.c (.p 2 0)),(6,.c (.p 3 0)),(57,.c (cI b.r)),(58,.c (iC (b.r.l.length:Nat)))]
abbrev bUb:=Option (CorM×(Nat->Nat)×(Nat->Nat)×(Nat->List En)×(Nat->List En))
structure CorI (p:ProgM) (q:PrQ) (b:BasM) (F:Nat) (x:CorM) (rw cl:Nat->Nat) (Lw Up:Nat->List En):Prop where
 v:BVal p q b
 c:x.c.l=bcL b p.c.l.length
 r:x.r.l=brL b p.r.l.length
 f:LuG x.f (zS p q b) (brL b p.r.l.length).length rw cl Lw Up F
theorem bOf (p:ProgM) (b:BasM) {q:PrQ} {B:Nat} (h:PrV p q B) (hr:p.r.l.length<=12) (hB:bd B (p.r.l.length-1)<=4398046511104):Ctr pgQ 53 [] [.a p.C,.a b.C] [] (λg:bUb=>match g with
 |none=>⟨.t [.a bLa,.c (.v (.bool false))],[],¬BVal p q b⟩
 |some (x,rw,cl,Lw,Up)=>⟨.t [.a x.C,.c (.v (.bool true))],[],CorI p q b (bd B ((brL b p.r.l.length).length-1)) x rw cl Lw Up⟩):=by
 have hpc:=h.c
 have no:¬BVal p q b->∃g:bUb,(match g with|none=>(¬BVal p q b)|some _=>False):=λhh=>⟨none,hh⟩
 refine gA gT (eo func53) func53 U U U bL ClB.nil (Sd.sq (vk (Sd.sq (vk (sS 3 0 3 1 U U bL U (sS 3 1 3 1 U U bL U (vk ⟨λh2=>vk ?_,λh2=>vk ?_⟩)))))))
 ·replace h2:((b.c.l.length:Nat):Int)≠(p.c.l.length:Nat)\/((b.r.l.length:Nat):Int)≠(p.r.l.length:Nat):=h2
  exact⟨none,λhh=>by have:=hh.ok.c;have:=hh.ok.r;omega,aI ⟨U,U⟩ U tV⟩
 replace h2:¬(((b.c.l.length:Nat):Int)≠(p.c.l.length:Nat)\/((b.r.l.length:Nat):Int)≠(p.r.l.length:Nat)):=h2
 have hbc:b.c.l.length=p.c.l.length:=Uc
 have hbr:b.r.l.length=p.r.l.length:=Uc
 show Sd _ _ _ _ _ _
 refine bX (λ_=>true) (λk:Nat=>cCz b k) (λk=>ncB p b (bcL b k) []) (λ_=>[]) (λk=>k<=p.c.l.length/\∀j,j<k->Pmt (p.c.l.getD j U6) (b.c.l.getD j 0)) (λk=>p.c.l.length-k) λhM=>⟨hM 0 ⟨aB _,λj hj=>U4 hj (aF _)⟩ U rS trivial rS bL aDi U,λk ⟨hk,hp⟩=>vk ⟨λh3=>vk ?_,λh3=>vk ?_⟩⟩
 ·replace h3:(k:Int)<(b.c.l.length:Nat):=h3
  have hkn:k<p.c.l.length:=Uc
  have hkb:k<b.c.l.length:=Uc
  have hll:(bcL b k).length<=k:=fA
  refine⟨k,⟨U,hkb⟩,k,⟨U,hkn⟩,[],bNs (p.c.l.getD k U6) (b.c.l.getD k 0),U,U,U,λ_ _=>⟨λh4=>vk ?_,λh4=>vk ⟨λh5=>vk ?_,λh5=>vk ?_⟩⟩⟩
  ·replace h4:¬Pmt (p.c.l.getD k U6) (b.c.l.getD k 0):=h4
   exact⟨none,λhh=>h4 (hh.ok.pc k hkn),aI ⟨U,U⟩ U tV⟩
  all_goals
   replace h4:Pmt (p.c.l.getD k U6) (b.c.l.getD k 0):=cR.1 h4
   have hp':∀j,j<k+1->Pmt (p.c.l.getD j U6) (b.c.l.getD j 0):=λj hj=>(bR (cB hj)).elim (hp j) λe=>e▸h4
  ·replace h5:b.c.l.getD k 0=2:=h5
   have hy:bcL b (k+1)=bcL b k++[(k:Int)]:=gY h5
   refine⟨apI (x:=bcL b k) (by show(bcL b k).length<=_;omega),(λc hc=>by cases hc),(λc hc=>by rw[aE.1 hc];rfl),(k+1:Nat),wi,hM (k+1) ⟨⟨hkn,hp'⟩,show p.c.l.length-(k+1)<p.c.l.length-k by omega⟩ U ⟨U,U,U,?_,?_,U⟩ U1 rS bL aDi U⟩
   ·show(_,_,CV.s 4 ((bcL b k).length+1)::_)=(_,_,CV.s 4 (bcL b (k+1)).length::_)
    rw[show(bcL b (k+1)).length=(bcL b k).length+1 by rw[hy];simp];rfl
   show(_,_,(bcL b k).map iC++[iC (k:Nat)])=(_,_,(bcL b (k+1)).map iC)
   rw[hy,bA];rfl
  replace h5:¬b.c.l.getD k 0=2:=h5
  have hy:bcL b (k+1)=bcL b k:=jO h5
  refine⟨(k+1:Nat),wi,hM (k+1) ⟨⟨hkn,hp'⟩,show p.c.l.length-(k+1)<p.c.l.length-k by omega⟩ U ⟨U,U,U,?_,?_,U⟩ U1 rS bL aDi U⟩
  ·show(_,_,CV.s 4 (bcL b k).length::_)=(_,_,CV.s 4 (bcL b (k+1)).length::_)
   rw[show bcL b (k+1)=bcL b k from hy]
  show(_,_,(bcL b k).map iC)=(_,_,(bcL b (k+1)).map iC)
  rw[show bcL b (k+1)=bcL b k from hy]
 replace h3:¬(k:Int)<(b.c.l.length:Nat):=h3
 obtain rfl:k=p.c.l.length:=Uc
 refine vk ?_
 show Sd _ _ _ _ _ _
 refine bX (λ_=>true) (λk:Nat=>cDa b k) (λk=>ncB p b (bcL b p.c.l.length) (brL b k)) (λ_=>[]) (λk=>k<=p.r.l.length/\∀i,i<k->b.r.l.getD i 0=2\/b.r.l.getD i 0=dfR (p.r.l.getD i U6).s) (λk=>p.r.l.length-k) λhM=>⟨hM 0 ⟨aB _,λj hj=>U4 hj (aF _)⟩ U rS trivial rS bL aDi U,λk ⟨hk,hq⟩=>vk ⟨λh3=>vk ?_,λh3=>vk ?_⟩⟩
 ·replace h3:(k:Int)<(b.r.l.length:Nat):=h3
  have hkn:k<p.r.l.length:=Uc
  have hkb:k<b.r.l.length:=Uc
  have hll:(brL b k).length<=k:=fA
  refine⟨k,⟨U,hkb⟩,⟨λh4=>vk ?_,λh4=>vk ⟨k,⟨U,hkn⟩,[],bNu (p.r.l.getD k U6),U,U,U,λ_ _=>⟨λh5=>vk ?_,λh5=>vk ?_⟩⟩⟩⟩
  ·replace h4:b.r.l.getD k 0=2:=h4
   have hy:brL b (k+1)=brL b k:=jO λhh=>hh h4
   have hq':∀i,i<k+1->b.r.l.getD i 0=2\/b.r.l.getD i 0=dfR (p.r.l.getD i U6).s:=λj hj=>(bR (cB hj)).elim (hq j) λe=>e▸.inl h4
   refine⟨(k+1:Nat),wi,hM (k+1) ⟨⟨hkn,hq'⟩,show p.r.l.length-(k+1)<p.r.l.length-k by omega⟩ U ⟨U,U,U,?_,U,?_⟩ U1 rS bL aDi U⟩
   ·show(_,_,_::CV.s 5 (brL b k).length::_)=(_,_,_::CV.s 5 (brL b (k+1)).length::_)
    rw[show brL b (k+1)=brL b k from hy]
   show(_,_,(brL b k).map iC)=(_,_,(brL b (k+1)).map iC)
   rw[show brL b (k+1)=brL b k from hy]
  ·replace h4:¬b.r.l.getD k 0=2:=h4
   replace h5:b.r.l.getD k 0≠dfR (p.r.l.getD k U6).s:=h5
   exact⟨none,λhh=>(hh.ok.pr k hkn).elim h4 h5,aI ⟨U,U⟩ U tV⟩
  replace h4:¬b.r.l.getD k 0=2:=h4
  replace h5:¬b.r.l.getD k 0≠dfR (p.r.l.getD k U6).s:=h5
  have hy:brL b (k+1)=brL b k++[(k:Int)]:=gY h4
  have hq':∀i,i<k+1->b.r.l.getD i 0=2\/b.r.l.getD i 0=dfR (p.r.l.getD i U6).s:=λj hj=>(bR (cB hj)).elim (hq j) λe=>e▸.inr (cR.1 h5)
  refine⟨apI (x:=brL b k) (by show(brL b k).length<=_;omega),(λc hc=>bJ (aW _ c hc)),(λc hc=>by rw[aE.1 hc];rfl),(k+1:Nat),wi,hM (k+1) ⟨⟨hkn,hq'⟩,show p.r.l.length-(k+1)<p.r.l.length-k by omega⟩ U ⟨U,U,U,?_,U,?_⟩ U1 rS bL aDi U⟩
  ·show(_,_,_::CV.s 5 ((brL b k).length+1)::_)=(_,_,_::CV.s 5 (brL b (k+1)).length::_)
   rw[show(brL b (k+1)).length=(brL b k).length+1 by rw[hy];simp];rfl
  show(_,_,(brL b k).map iC++[iC (k:Nat)])=(_,_,(brL b (k+1)).map iC)
  rw[hy,bA];rfl
 replace h3:¬(k:Int)<(b.r.l.length:Nat):=h3
 obtain rfl:k=p.r.l.length:=Uc
 have hok:BasOk p b:=⟨hbc,hbr,hp,hq⟩
 have hnl:(brL b p.r.l.length).length<=p.r.l.length:=fA
 show Sd _ _ _ _ _ _
 refine kT tSd 5 U bL (aW _) bL U λA a1=>⟨_,lM kE (aW _),jQ tSd 3 0 [.s 4 (bcL b p.c.l.length).length,cI ⟨A.map λb=>⟨b,0,none⟩,a1,brL b p.r.l.length⟩,.v (.slice none 0 0),.v (.slice none 0 0),iC 0,iC 0,.v (.slice none 0 0),iC 0,iC 0,.v (.slice none 0 0)] U U U U (qD (k0:=1) U aEa) ?_⟩
 refine kT tSd 4 U bL (aW _) bL U λA2 a2=>⟨_,U,jQ tSd 3 1 [cI ⟨A2.map λb=>⟨b,0,none⟩,a2,bcL b p.c.l.length⟩,cI ⟨A.map λb=>⟨b,0,none⟩,a1,brL b p.r.l.length⟩,.v (.slice none 0 0),.v (.slice none 0 0),iC 0,iC 0,.v (.slice none 0 0),iC 0,iC 0,.v (.slice none 0 0)] U U U U (qD (k0:=0) U aEa) ?_⟩
 obtain⟨C,hC⟩:∃C:Sl Int,C=⟨A2.map λb=>⟨b,0,none⟩,a2,bcL b p.c.l.length⟩:=⟨_,U⟩
 obtain⟨R,hR⟩:∃R:Sl Int,R=⟨A.map λb=>⟨b,0,none⟩,a1,brL b p.r.l.length⟩:=⟨_,U⟩
 rw[<-hC,<-hR]
 have hCl:C.l=bcL b p.c.l.length:=by rw[hC]
 have hRl:R.l=brL b p.r.l.length:=by rw[hR]
 refine vk ⟨λh4=>vk ?_,λh4=>vk ⟨[],bNy p R C h (bLb p b C R hCl hRl hpc oM),U,U,U,λm hm=>?_⟩⟩
 ·replace h4:((C.l.length:Nat):Int)≠(R.l.length:Nat):=h4
  rw[hCl,hRl] at h4
  exact⟨none,λhh=>by have:=hh.n;omega,aI ⟨U,U⟩ U tV⟩
 replace h4:¬((C.l.length:Nat):Int)≠(R.l.length:Nat):=h4
 replace hm:Mr m (λk=>jT (atN (bcL b p.c.l.length)) C.l.length (q.M (atN (brL b p.r.l.length) k))) R.l.length C.l.length B:=hm
 have hCR:C.l.length=R.l.length:=Uc
 have hn:(bcL b p.c.l.length).length=(brL b p.r.l.length).length:=by rw[<-hCl,<-hRl];exact hCR
 rw[hCR,hRl,<-hn,hn] at hm
 have hmE:Mr m (zS p q b) (brL b p.r.l.length).length (brL b p.r.l.length).length B:=by
  have e:zS p q b=λk=>jT (atN (bcL b p.c.l.length)) (brL b p.r.l.length).length (q.M (atN (brL b p.r.l.length) k)):=funext λk=>by unfold zS;rw[hn]
  rw[e];exact hm
 have hrb:rbM (zS p q b) (brL b p.r.l.length).length B:=λi hi=>aLr (h.e _ ((eN (P:=λi=>b.r.l.getD i 0≠2) p.r.l.length).1.lt i hi))
 refine⟨[],bEg m hmE hrb h.h1 (aJ (mV oM) hB) oM,U,U,U,λg hg=>?_⟩
 cases g with
 |none=>
  refine⟨λh5=>vk ?_,λh5=>U4 (show((6:Int)≠0) by decide) h5⟩
  exact⟨none,λhh=>hh.k hg,aI ⟨U,U⟩ U tV⟩
 |some g=>
  obtain⟨f,rw',cl,Lw,Up⟩:=g
  obtain⟨⟨g1,g2,g3,g4⟩,g5,g6,g7⟩:=hg
  refine⟨λh5=>U4 U h5,λh5=>vk ⟨some (⟨C,R,f⟩,rw',cl,Lw,Up),⟨⟨hok,hn,g5.nk⟩,hCl,hRl,⟨g1,g2,g3,g4,g5,g6,g7⟩⟩,aI ⟨U,U⟩ U tV⟩⟩
theorem bOg (p:ProgM) (b:BasM) {q:PrQ} {B:Nat} (h:PrV p q B) (hr:p.r.l.length<=12) (hB:bd B (p.r.l.length-1)<=4398046511104):Ctr pgQ 16 [] [.a p.C,.a b.C] [] (λ_:Unit=>⟨pC (BVal p q b),[],True⟩):=by
 refine cw func16 (⟨[],aLl p h,U,U,U,λ_ _=>⟨λhh=>U4 U hh,λ_=>vk ⟨[],bOf p b h hr hB,U,U,U,λg hg=>?_⟩⟩⟩)
 cases g with
 |none=>exact⟨(),tV,aI (ff hg) U tV⟩
 |some g=>exact⟨(),tV,aI (tt hg.v) U tV⟩
theorem bFi (p:ProgM) (b:BasM) {q:PrQ} {B:Nat} (h:PrV p q B) (hr:p.r.l.length<=12) (hB:bd B (p.r.l.length-1)<=4398046511104):Ctr pgQ 40 [] [.a p.C,.a b.C] [] (λg:bUb=>match g with
 |none=>⟨.t [.a bLa,.c (iC 1)],[],¬BVal p q b⟩
 |some (x,rw,cl,Lw,Up)=>⟨.t [.a x.C,.c (iC 0)],[],CorI p q b (bd B ((brL b p.r.l.length).length-1)) x rw cl Lw Up⟩):=by
 refine cw func40 (⟨[],aLl p h,U,U,U,λ_ _=>⟨λhh=>U4 U hh,λ_=>vk ⟨[],bOf p b h hr hB,U,U,U,λg hg=>?_⟩⟩⟩)
 cases g with
 |none=>exact⟨none,hg,aI ⟨U,U⟩ U tV⟩
 |some g=>exact⟨some g,hg,aI ⟨U,U⟩ U tV⟩
def x0N (q:PrQ) (b:BasM) (j:Nat):Rat:=if b.c.l.getD j 0=0 then q.l j else if b.c.l.getD j 0=1 then q.u j else 0
def rsN (q:PrQ) (b:BasM) (i t:Nat):Rat:=q.b i-dtl ((q.M i).take t) (x0N q b)
structure PtR (p:ProgM) (q:PrQ) (b:BasM) (Bx:Nat) (qs:List Rat):Prop where
 ln:qs.length=p.c.l.length
 x0:∀j,j<p.c.l.length->b.c.l.getD j 0≠2->lQ qs j=x0N q b j
 ti:∀i,i<p.r.l.length->b.r.l.getD i 0≠2->dtl (q.M i) (lQ qs)=q.b i
 rb:rbL qs Bx
abbrev bLc (x:CorM) (p:ProgM) (b:BasM) (X:Nat->RatM):BL:=[(82,0,x.C),(25,0,p.C),(28,0,b.C),(53,3,rtC p.c.l.length X)]
theorem aEs {x:CorM} {p:ProgM} {b:BasM} {X:Nat->RatM}:scB 4 (bLc x p b X):=aA U (aA U (aA U (aA (bG cD) aU)))
abbrev bUc (x:CorM) (p:ProgM) (b:BasM) (X Z:Nat->RatM):BL:=bLc x p b X++[(53,3,rtC x.r.l.length Z)]
theorem aBx {x:CorM} {p:ProgM} {b:BasM} {X Z:Nat->RatM}:scB 5 (bUc x p b X Z):=aA U (aA U (aA U (aA (bG cD) (aA (bG cD) aU))))
abbrev cDb (p:ProgM) (k:Nat):List (Nat×DV):=[(26,.c (iC k)),(24,.c (aBu p.c)),(25,.c (iC (p.c.l.length:Nat))),(3,.c (.p 0 0)),(4,.c (.p 1 0)),(5,.c (.p 2 0)),(7,.c (.s 3 p.c.l.length))]
abbrev bZk (x:CorM) (p:ProgM) (k:Nat):List (Nat×DV):=[(64,.c (iC k)),(62,.c (cI x.r)),(63,.c (iC (x.r.l.length:Nat))),(3,.c (.p 0 0)),(4,.c (.p 1 0)),(5,.c (.p 2 0)),(7,.c (.s 3 p.c.l.length)),(10,.c (.s 4 x.r.l.length))]
abbrev cDc (x:CorM) (p:ProgM) (k i t:Nat):List (Nat×DV):=(85,.c (iC t))::(83,.c (cF (p.r.l.getD i U6).e))::(84,.c (iC ((p.r.l.getD i U6).e.l.length:Nat)))::(11,.c (iC k))::bZk x p k
theorem sU (b:BasM) (n:Nat):Enm (λj=>b.c.l.getD j 0=2) n (bcL b n).length (atN (bcL b n))/\∀k,k<(bcL b n).length->(bcL b n).getD k 0=(atN (bcL b n) k:Nat):=eN n
theorem rI (b:BasM) (n:Nat):Enm (λi=>b.r.l.getD i 0≠2) n (brL b n).length (atN (brL b n))/\∀k,k<(brL b n).length->(brL b n).getD k 0=(atN (brL b n) k:Nat):=eN n
theorem bFj {q:PrQ} {b:BasM} {i:Nat}:rsN q b i 0=q.b i:=by
 unfold rsN;rw[yX,show dtl ([]:List En) (x0N q b)=0 from U];grind
theorem aPf {p:ProgM} {q:PrQ} {B:Nat} (h:PrV p q B) {b:BasM} {j:Nat} (hj:j<p.c.l.length):rb (x0N q b j) B:=by
 unfold x0N
 have hc:=h.rd.c j hj
 split
 ·exact hc.l.rb h.h1
 split
 ·exact hc.u.rb h.h1
 exact wJ h.h1
theorem aPg {p:ProgM} {q:PrQ} {B:Nat} (h:PrV p q B) {b:BasM} {i t:Nat} (hi:i<p.r.l.length) (ht:t<=(q.M i).length):rb (rsN q b i t) (2+B+p.c.l.length*(B+B+1)):=by
 have h1:=(h.rd.r i hi).b.rb h.h1
 have hv:=h.v i hi
 have h2:=aDa (x:=x0N q b) (es:=(q.M i).take t) (λe he=>h.e i hi e (cH he)) λe he=>aPf (b:=b) h (by have:=hv.2.2 e (cH he);omega)
 have h3:((q.M i).take t).length*(B+B+1)<=p.c.l.length*(B+B+1):=aT _ (by rw[bI];have:=h.len hi;omega)
 exact(pJ h1 h2).le oM
noncomputable abbrev crA (p:ProgM) (q:PrQ) (b:BasM) (k l:Nat):Rat:=Vm.get (q.M (atN (brL b p.r.l.length) k)) (atN (bcL b p.c.l.length) l:Nat)
noncomputable abbrev crB (p:ProgM) (q:PrQ) (b:BasM) (k:Nat):Rat:=rsN q b (atN (brL b p.r.l.length) k) (q.M (atN (brL b p.r.l.length) k)).length
noncomputable def ptL (p:ProgM) (q:PrQ) (b:BasM) (w:Nat->Rat):List Rat:=(List.range p.c.l.length).map λj=>x0N q b j+spr (bcL b p.c.l.length).length (atN (bcL b p.c.l.length)) w j
section pt
variable {p:ProgM} {q:PrQ} {b:BasM} {B X:Nat} {w:Nat->Rat}
theorem aEt (h:PrV p q B) (hb:BVal p q b):Free (crA p q b) (brL b p.r.l.length).length (brL b p.r.l.length).length:=λx hx i hi=>aN λhxi=>hb.k ⟨x,⟨i,hi,hxi⟩,λk hk=>by
 rw[<-hx k hk]
 unfold dtn
 refine aZ λl hl=>?_
 show Vm.get (jT _ _ (q.M (atN (brL b p.r.l.length) k))) (l:Nat)*x l=_
 have hn:=hb.n
 rw[pO (λk l hkl hl=>(sU b p.c.l.length).1.mono k l hkl hl) (h.v _ ((rI b p.r.l.length).1.lt k hk)).2.1 oM]⟩
theorem aMa {j:Nat} (hj:j<p.c.l.length):lQ (ptL p q b w) j=x0N q b j+spr (bcL b p.c.l.length).length (atN (bcL b p.c.l.length)) w j:=by unfold lQ ptL;simp[hj]
theorem bFk {l:Nat} (hl:l<(bcL b p.c.l.length).length):lQ (ptL p q b w) (atN (bcL b p.c.l.length) l)=w l:=by
 have e1:=(sU b p.c.l.length).1
 have hs:b.c.l.getD (atN (bcL b p.c.l.length) l) 0=2:=e1.mem l hl
 rw[aMa (e1.lt l hl),show x0N q b (atN (bcL b p.c.l.length) l)=0 from by unfold x0N;rw[hs];rfl,aGz hl λl' hl' he=>e1.inj hl' hl he,fY]
theorem aVa {j:Nat} (hj:j<p.c.l.length) (hs:b.c.l.getD j 0≠2):lQ (ptL p q b w) j=x0N q b j:=by
 have e1:=(sU b p.c.l.length).1
 rw[aMa hj,aLy λl hl he=>U4 (by rw[<-he];exact e1.mem l hl) hs,bK]
theorem bOh (h:PrV p q B) (hb:BVal p q b) (hw:∀k,k<(brL b p.r.l.length).length->bN (λl=>crA p q b k l*w l) (brL b p.r.l.length).length=crB p q b k) (hwX:∀l,l<(brL b p.r.l.length).length->rb (w l) X):PtR p q b (B+X) (ptL p q b w):=by
 have hn:=hb.n
 have e1:=(sU b p.c.l.length).1
 have f1:=(rI b p.r.l.length).1
 refine⟨by unfold ptL;simp,λj hj hs=>aVa hj hs,λi hi hs=>?_,λx hx=>?_⟩
 ·obtain⟨k,hk,hki⟩:=f1.all i hi hs
  have hv:=(h.v i hi).2
  have s1:=hw k hk
  have s3:dtl (q.M i) (lQ (ptL p q b w))=dtl (q.M i) (x0N q b)+bN (λl=>Vm.get (q.M i) (atN (bcL b p.c.l.length) l:Nat)*w l) (bcL b p.c.l.length).length:=by
   rw[tW (n:=p.c.l.length) λe he=>⟨(hv.2 e he).1,(hv.2 e he).2.1⟩,tW (n:=p.c.l.length) λe he=>⟨(hv.2 e he).1,(hv.2 e he).2.1⟩]
   unfold dtn
   rw[<-zM (c:=p.c.l.length) (f:=λj=>Vm.get (q.M i) (j:Nat)) λl hl=>e1.lt l hl,<-qZ]
   refine aZ λj hj=>?_
   rw[aMa hj];grind
  rw[show(brL b p.r.l.length).length=(bcL b p.c.l.length).length from hn.symm] at s1
  rw[s3,<-hki,s1]
  unfold crB rsN
  rw[cQ];grind
 unfold ptL at hx
 obtain⟨j,hj,rfl⟩:=bZ.1 hx
 have hj':=cJ.1 hj
 rw[<-aMa (w:=w) hj']
 by_cases hs:b.c.l.getD j 0=2
 ·obtain⟨l,hl,rfl⟩:=e1.all j hj' hs
  rw[bFk hl];exact(hwX l oM).le oM
 rw[aVa hj' hs];exact(aPf (b:=b) h hj').le oM
end pt
theorem bLd {p:ProgM} {q:PrQ} {b:BasM} {B:Nat} (h:PrV p q B) (hn:(bcL b p.c.l.length).length=(brL b p.r.l.length).length) (w:Nat->Rat) {k:Nat} (hk:k<(brL b p.r.l.length).length):dtn (brL b p.r.l.length).length (zS p q b k) w=bN (λl=>crA p q b k l*w l) (brL b p.r.l.length).length:=by
 unfold dtn
 refine aZ λl hl=>?_
 show Vm.get (jT _ _ (q.M (atN (brL b p.r.l.length) k))) (l:Nat)*w l=_
 rw[pO (λk l hkl hl=>(sU b p.c.l.length).1.mono k l hkl hl) (h.v _ ((rI b p.r.l.length).1.lt k hk)).2.1 oM]
abbrev bZl (x:CorM) (p:ProgM) (b:BasM) (X W:Nat->RatM):BL:=bLc x p b X++[(53,3,[]),(53,3,rtC x.r.l.length W)]
theorem aVb {x:CorM} {p:ProgM} {b:BasM} {X W:Nat->RatM}:scB 6 (bZl x p b X W):=aA U (aA U (aA U (aA (bG cD) (aA U (aA (bG cD) aU)))))
abbrev cDd (x:CorM) (p:ProgM) (k:Nat):List (Nat×DV):=[(124,.c (iC k)),(122,.c (cI x.c)),(123,.c (iC (x.c.l.length:Nat))),(7,.c (.s 3 p.c.l.length)),(15,.c (.s 5 x.r.l.length))]
theorem bZm (x:CorM) (p:ProgM) (b:BasM) {q:PrQ} {B Xq:Nat} {rw cl:Nat->Nat} {Lw Up:Nat->List En} (h:PrV p q B) (hI:CorI p q b (bd B ((brL b p.r.l.length).length-1)) x rw cl Lw Up) (hXb:∀x:Nat->Rat,(∀k,k<(brL b p.r.l.length).length->bN (λl=>crA p q b k l*x l) (brL b p.r.l.length).length=crB p q b k)->∀l,l<(brL b p.r.l.length).length->rb (x l) Xq) (hS:wX (bd B ((brL b p.r.l.length).length-1)) (2+B+p.c.l.length*(B+B+1)) Xq (brL b p.r.l.length).length<=4398046511104):Ctr pgQ 41 [] [.a x.C,.a p.C,.a b.C] [] (λg:Sl RatM×List Rat=>⟨.c (dS g.1),[],Rl g.1.l g.2/\PtR p q b (B+Xq) g.2⟩):=by
 obtain⟨m,hm⟩:∃m,m=(brL b p.r.l.length).length:=⟨_,U⟩
 obtain⟨F,hF⟩:∃F,F=bd B (m-1):=⟨_,U⟩
 obtain⟨Br,hBr⟩:∃Br,Br=2+B+p.c.l.length*(B+B+1):=⟨_,U⟩
 rw[<-hm,<-hF,<-hBr] at hS
 have hIf:=hI.f
 rw[<-hm,<-hF] at hIf
 have hpc:=h.c
 have hpr:=h.r
 have hBB:=h.hB
 have h1:=h.h1
 have hbok:=hI.v.ok
 have hxr:x.r.l.length=m:=by rw[hI.r,hm]
 have hxc:x.c.l.length=m:=by rw[hI.c,hI.v.n,hm]
 obtain⟨e1,e2⟩:=sU b p.c.l.length
 obtain⟨f1,f2⟩:=rI b p.r.l.length
 have hml:m<=p.r.l.length:=by rw[hm];exact fA
 have hBrS:Br<=4398046511104:=aJ (by show _<=Br+_+_+3;omega) hS
 refine cw func41 (⟨p.c.l.length,⟨U,U,by show 56*_<=_;omega,by simp only[maxLen];omega⟩,?_⟩)
 show Sd _ _ _ _ _ _
 refine gJ tSd 3 (rtC p.c.l.length λ_=>U6) U jI.1 jI.2 ?_
 refine bX (λ_=>true) (λg:Nat×(Nat->RatM)=>cDb p g.1) (λg=>bLc x p b g.2) (λ_=>[]) (λg=>g.1<=p.c.l.length/\∀j,j<g.1->Cr (g.2 j) (x0N q b j)) (λg=>p.c.l.length-g.1) λhM=>⟨hM (0,λ_=>U6) ⟨aB _,λj hj=>U4 hj (aF _)⟩ U rS trivial rS bL aEs U,λ⟨k,X⟩ ⟨hk,hX⟩=>vk ⟨λh2=>vk ?_,λh2=>vk ?_⟩⟩
 all_goals
  replace hk:k<=p.c.l.length:=hk
  replace hX:∀j,j<k->Cr (X j) (x0N q b j):=hX
 ·replace h2:(k:Int)<(p.c.l.length:Nat):=h2
  have hkn:k<p.c.l.length:=Uc
  have hbl:=hbok.c
  have hcol:=h.rd.c k hkn
  have fin:∀g:RatM,Cr g (x0N q b k)->∀j,j<k+1->Cr (upd X k g j) (x0N q b j):=λg hg j hj=>by
   by_cases e:j=k
   ·subst e;rw[bF];exact hg
   rw[aY e];exact hX j oM
  refine⟨k,⟨U,hkn⟩,k,⟨U,Uc⟩,⟨λh3=>vk ?_,λh3=>vk ⟨λh4=>vk ?_,λh4=>vk ?_⟩⟩⟩
  ·replace h3:b.c.l.getD k 0=0:=h3
   have e:x0N q b k=q.l k:=U3 h3
   exact⟨[],oR (p.c.l.getD k U6).l (hcol.l.le hBB),U,U,U,λg hg=>⟨k,⟨U,hkn,eO hkn⟩,_,fQ hkn,(k+1:Nat),wi,hM (k+1,upd X k g) ⟨⟨hkn,fin g (by rw[e];exact hg)⟩,show p.c.l.length-(k+1)<p.c.l.length-k by omega⟩ U rS trivial rS bL aEs U⟩⟩
  ·replace h3:¬b.c.l.getD k 0=0:=h3
   replace h4:b.c.l.getD k 0=1:=h4
   have e:x0N q b k=q.u k:=(U2 h3).trans (U3 h4)
   exact⟨[],oR (p.c.l.getD k U6).u (hcol.u.le hBB),U,U,U,λg hg=>⟨k,⟨U,hkn,eO hkn⟩,_,fQ hkn,(k+1:Nat),wi,hM (k+1,upd X k g) ⟨⟨hkn,fin g (by rw[e];exact hg)⟩,show p.c.l.length-(k+1)<p.c.l.length-k by omega⟩ U rS trivial rS bL aEs U⟩⟩
  replace h3:¬b.c.l.getD k 0=0:=h3
  replace h4:¬b.c.l.getD k 0=1:=h4
  have e:x0N q b k=((0:Int):Rat):=(U2 h3).trans (U2 h4)
  exact⟨[],zJ (z:=0) dC,U,U,U,λg hg=>⟨k,⟨U,hkn,eO hkn⟩,_,fQ hkn,(k+1:Nat),wi,hM (k+1,upd X k g) ⟨⟨hkn,fin g (by rw[e];exact hg)⟩,show p.c.l.length-(k+1)<p.c.l.length-k by omega⟩ U rS trivial rS bL aEs U⟩⟩
 replace h2:¬(k:Int)<(p.c.l.length:Nat):=h2
 obtain rfl:k=p.c.l.length:=Uc
 refine vk ⟨x.r.l.length,⟨U,U,by show 56*_<=_;omega,by simp only[maxLen];omega⟩,?_⟩
 show Sd _ _ _ _ _ _
 refine gJ tSd 4 (rtC x.r.l.length λ_=>U6) U jI.1 jI.2 ?_
 refine bX (λ_=>true) (λg:Nat×(Nat->RatM)=>bZk x p g.1) (λg=>bUc x p b X g.2) (λ_=>[]) (λg=>g.1<=x.r.l.length/\∀j,j<g.1->Rq (g.2 j) (crB p q b j) Br) (λg=>x.r.l.length-g.1) λhM=>⟨hM (0,λ_=>U6) ⟨aB _,λj hj=>U4 hj (aF _)⟩ U rS trivial rS bL aBx U,λ⟨k,Z⟩ ⟨hk,hZ⟩=>vk ⟨λh3=>vk ?_,λh3=>vk ?_⟩⟩
 all_goals
  replace hk:k<=x.r.l.length:=hk
  replace hZ:∀j,j<k->Rq (Z j) (crB p q b j) Br:=hZ
 ·replace h3:(k:Int)<(x.r.l.length:Nat):=h3
  have hkn:k<x.r.l.length:=Uc
  have hkm:k<(brL b p.r.l.length).length:=Uc
  have r1:x.r.l.getD k 0=(atN (brL b p.r.l.length) k:Nat):=by rw[hI.r];exact f2 k hkm
  have r2:atN (brL b p.r.l.length) k<p.r.l.length:=f1.lt k hkm
  have hrow:=h.rd.r _ r2
  have hv:=h.v _ r2
  have hle:(p.r.l.getD (atN (brL b p.r.l.length) k) U6).e.l.length=(q.M (atN (brL b p.r.l.length) k)).length:=hrow.e.ln
  have hlen:=h.len r2
  refine⟨k,⟨U,hkn⟩,atN (brL b p.r.l.length) k,⟨r1,r2⟩,k,⟨U,hkn,eO hkn⟩,_,fQ hkn,atN (brL b p.r.l.length) k,⟨r1,r2⟩,?_⟩
  show Sd _ _ _ _ _ _
  refine bX (λ_=>true) (λg:Nat×(Nat->RatM)=>cDc x p k (atN (brL b p.r.l.length) k) g.1) (λg=>bUc x p b X g.2) (λ_=>[]) (λg=>g.1<=(q.M (atN (brL b p.r.l.length) k)).length/\(∀j,j<k->Rq (g.2 j) (crB p q b j) Br)/\Rq (g.2 k) (rsN q b (atN (brL b p.r.l.length) k) g.1) Br) (λg=>(q.M (atN (brL b p.r.l.length) k)).length-g.1) λhM2=>⟨hM2 (0,upd Z k (p.r.l.getD (atN (brL b p.r.l.length) k) U6).b) ⟨aB _,λj hj=>?_,?_⟩ U rS trivial rS bL aBx U,λ⟨t,Z⟩ ⟨ht,hZ,hZk⟩=>vk ⟨λh4=>vk ?_,λh4=>vk ?_⟩⟩
  ·show Rq (upd Z k _ j) _ _
   rw[aY oM];exact hZ j hj
  ·show Rq (upd Z k _ k) _ _
   rw[bF,bFj];exact hrow.b.le oM
  all_goals
   replace ht:t<=(q.M (atN (brL b p.r.l.length) k)).length:=ht
   replace hZ:∀j,j<k->Rq (Z j) (crB p q b j) Br:=hZ
   replace hZk:Rq (Z k) (rsN q b (atN (brL b p.r.l.length) k) t) Br:=hZk
  ·replace h4:(t:Int)<((p.r.l.getD (atN (brL b p.r.l.length) k) U6).e.l.length:Nat):=h4
   have htl:t<(q.M (atN (brL b p.r.l.length) k)).length:=Uc
   have hte:t<(p.r.l.getD (atN (brL b p.r.l.length) k) U6).e.l.length:=Uc
   have he:=hrow.e.e t htl
   have hvt:=hv.2.2 _ (fN htl)
   obtain⟨e0,he0⟩:∃e0:Nat,((q.M (atN (brL b p.r.l.length) k)).getD t U6).1=(e0:Nat):=⟨((q.M (atN (brL b p.r.l.length) k)).getD t U6).1.toNat,Uc⟩
   have hec:e0<p.c.l.length:=Uc
   have hix:((p.r.l.getD (atN (brL b p.r.l.length) k) U6).e.l.getD t U6).ix=(e0:Nat):=he.1.trans he0
   have hx0:=hX e0 hec
   have rx0:=aPf (b:=b) h hec
   have re:=h.e _ r2 _ (fN htl)
   have hnx:rsN q b (atN (brL b p.r.l.length) k) (t+1)=rsN q b (atN (brL b p.r.l.length) k) t-((q.M (atN (brL b p.r.l.length) k)).getD t U6).2*x0N q b e0:=by
    unfold rsN
    rw[aBv htl,he0,cN];grind
   have hrs:=aPg (b:=b) h r2 (t:=t) oM
   rw[<-hBr] at hrs
   have hmb:B+B<=4398046511104:=by
    have:1*(B+B+1)<=p.c.l.length*(B+B+1):=aT _ oM
    omega
   refine⟨t,⟨U,hte⟩,e0,⟨hix,hec,eO hec⟩,_,kM hec,[],kV (X e0) (hx0.rq (rx0.le hBB)),U,U,U,λ_ _=>⟨λh5=>vk ?_,λh5=>vk ?_⟩⟩
   ·refine⟨.seq [(0,false),(1,false),(2,false),(3,false),(4,false),(5,false),(6,false),(7,false),(8,false),(9,false),(10,false),(11,false),(12,false),(13,false),(14,true),(15,false),(16,true)],U0,k,⟨U,hkn,eO hkn⟩,_,kM hkn,e0,⟨hix,hec,eO hec⟩,_,kM hec,[],yB ((p.r.l.getD (atN (brL b p.r.l.length) k) U6).e.l.getD t U6).v (X e0) (he.2.le hBB) (hx0.rq (rx0.le hBB)),U,U,U,λg hg=>⟨[],aKr (Z k) g (hZk.le hBrS) (Cr.rq hg ((fW re rx0).le hmb)),U,U,U,λd hd=>⟨k,⟨U,hkn,eO hkn⟩,_,fQ hkn,(t+1:Nat),wi,hM2 (t+1,upd Z k d) ⟨⟨htl,λj hj=>?_,?_⟩,show(q.M (atN (brL b p.r.l.length) k)).length-(t+1)<(q.M (atN (brL b p.r.l.length) k)).length-t by omega⟩ U rS trivial rS bL aBx U⟩⟩⟩
    ·show Rq (upd Z k d j) _ _
     rw[aY oM];exact hZ j hj
    have hrs1:=aPg (b:=b) h r2 (t:=t+1) oM
    rw[<-hBr,hnx] at hrs1
    show Rq (upd Z k d k) (rsN q b _ (t+1)) _
    rw[bF,hnx];exact Cr.rq hd hrs1
   have h0:x0N q b e0=0:=cY.1 (fT.1 (cR.1 h5))
   refine⟨(t+1:Nat),wi,hM2 (t+1,Z) ⟨⟨htl,hZ,?_⟩,show(q.M (atN (brL b p.r.l.length) k)).length-(t+1)<(q.M (atN (brL b p.r.l.length) k)).length-t by omega⟩ U rS trivial rS bL aBx U⟩
   show Rq (Z k) (rsN q b _ (t+1)) _
   rw[hnx,h0,bU,aOv];exact hZk
  replace h4:¬(t:Int)<((p.r.l.getD (atN (brL b p.r.l.length) k) U6).e.l.length:Nat):=h4
  have htt:t=(q.M (atN (brL b p.r.l.length) k)).length:=Uc
  rw[htt] at hZk
  replace hZk:Rq (Z k) (crB p q b k) Br:=hZk
  exact⟨(k+1:Nat),wi,hM (k+1,Z) ⟨⟨hkn,λj hj=>(bR (cB hj)).elim (hZ j) λe=>e▸hZk⟩,show x.r.l.length-(k+1)<x.r.l.length-k by omega⟩ U rS trivial rS bL aBx U⟩
 replace h3:¬(k:Int)<(x.r.l.length:Nat):=h3
 obtain rfl:k=x.r.l.length:=Uc
 have hIf':LuG x.f (zS p q b) x.r.l.length rw cl Lw Up F:=by rw[hxr];exact hIf
 have hF1:1<=F:=by rw[hF];exact wQ h1 _
 have hkap:∀l,l<x.c.l.length->x.c.l.getD l 0=(atN (bcL b p.c.l.length) l:Nat)/\atN (bcL b p.c.l.length) l<p.c.l.length/\b.c.l.getD (atN (bcL b p.c.l.length) l) 0=2:=λl hl=>by
  have hl':l<(bcL b p.c.l.length).length:=by rw[<-hI.c];exact hl
  exact⟨by rw[hI.c];exact e2 l hl',e1.lt l hl',e1.mem l hl'⟩
 have hkinj:∀l l',l<x.c.l.length->l'<x.c.l.length->atN (bcL b p.c.l.length) l=atN (bcL b p.c.l.length) l'->l=l':=λl l' hl hl' he=>e1.inj (by rw[<-hI.c];exact hl) (by rw[<-hI.c];exact hl') he
 show Sd _ _ _ _ _ _
 refine nS 10 4 (λj=>((fZ Z x.r.l.length).getD j U6).C) U U (λj hj=>nZ j hj) (by rw[jE (P:=λj=>(Z j).C) (e:=3) λ_ _=>U]) bL cD bL λA c _ _=>⟨λc hc=>bJ (cD c hc),?_⟩
 have hsl:∀w,Sol (zS p q b) x.r.l.length (crB p q b) w->∀k,k<(brL b p.r.l.length).length->bN (λl=>crA p q b k l*w l) (brL b p.r.l.length).length=crB p q b k:=λw hw k hk=>by
  rw[<-bLd h hI.v.n w hk,<-hm,<-hxr]
  exact(hw w).2 (λ_ _=>U) k oM
 have hct:=bEt x.f ⟨A,c,fZ Z x.r.l.length⟩ (bv:=crB p q b) (B:=Br) (Xb:=Xq) hIf' hF1 oM jS (λk hk=>⟨by show Rq ((fZ Z x.r.l.length).getD k U6) _ _;rw[nC hk];exact hZ k hk,by rw[hBr];exact aPg (b:=b) h (f1.lt k (by rw[<-hI.r];exact hk)) (aH _)⟩) (λw hw c hc=>hXb w (hsl w hw) c oM) (by rw[hxr];exact hS)
 rw[show dS ⟨A,c,fZ Z x.r.l.length⟩=CV.r A x.r.l.length c 3 (λj=>((fZ Z x.r.l.length).getD j U6).C) from qH.symm] at hct
 refine vk ⟨[],hct,U,U,U,λ⟨W,w⟩ ⟨hSol,hW⟩=>?_⟩
 have hw1:=hsl w hSol
 have hpt:=bOh h hI.v hw1 (hXb w hw1)
 replace hW:∀c,c<x.r.l.length->Cr (W c) (w c)/\rb (w c) Xq:=hW
 show Sd _ _ _ _ _ _
 refine bX (λ_=>true) (λg:Nat×(Nat->RatM)=>cDd x p g.1) (λg=>bZl x p b g.2 W) (λ_=>[]) (λg=>g.1<=x.c.l.length/\(∀l,l<g.1->Cr (g.2 (atN (bcL b p.c.l.length) l)) (w l))/\∀j,j<p.c.l.length->(∀l,l<g.1->atN (bcL b p.c.l.length) l≠j)->Cr (g.2 j) (x0N q b j)) (λg=>x.c.l.length-g.1) λhM3=>⟨hM3 (0,X) ⟨aB _,λl hl=>U4 hl (aF _),λj hj _=>hX j hj⟩ U rS trivial rS bL aVb U,λ⟨k,X'⟩ ⟨hk,hb1,hb2⟩=>vk ⟨λh6=>vk ?_,λh6=>vk ?_⟩⟩
 all_goals
  replace hk:k<=x.c.l.length:=hk
  replace hb1:∀l,l<k->Cr (X' (atN (bcL b p.c.l.length) l)) (w l):=hb1
  replace hb2:∀j,j<p.c.l.length->(∀l,l<k->atN (bcL b p.c.l.length) l≠j)->Cr (X' j) (x0N q b j):=hb2
 ·replace h6:(k:Int)<(x.c.l.length:Nat):=h6
  have hkn:k<x.c.l.length:=Uc
  have hkr:k<x.r.l.length:=Uc
  obtain⟨c1,c2,c3⟩:=hkap k hkn
  refine⟨k,⟨U,hkn⟩,k,⟨U,hkr,eO hkr⟩,_,kM hkr,atN (bcL b p.c.l.length) k,⟨c1,c2,eO c2⟩,_,fQ c2,(k+1:Nat),wi,hM3 (k+1,upd X' (atN (bcL b p.c.l.length) k) (W k)) ⟨⟨hkn,λl hl=>?_,λj hj hno=>?_⟩,show x.c.l.length-(k+1)<x.c.l.length-k by omega⟩ U rS trivial rS bL aVb U⟩
  ·show Cr (upd X' _ _ (atN (bcL b p.c.l.length) l)) (w l)
   by_cases e:l=k
   ·rw[e,bF];exact(hW k hkr).1
   have hl':l<k+1:=hl
   rw[aY λhe=>e (hkinj l k oM hkn he)];exact hb1 l oM
  show Cr (upd X' _ _ j) _
  rw[aY λhe=>hno k (aS k) he.symm];exact hb2 j hj λl hl=>hno l (dY hl)
 replace h6:¬(k:Int)<(x.c.l.length:Nat):=h6
 obtain rfl:k=x.c.l.length:=Uc
 have hcr:∀j,j<p.c.l.length->Cr (X' j) (lQ (ptL p q b w) j):=λj hj=>by
  by_cases hs:b.c.l.getD j 0=2
  ·obtain⟨l,hl,rfl⟩:=e1.all j hj hs
   rw[bFk hl];exact hb1 l (by rw[hI.c];exact hl)
  rw[aVa hj hs];exact hb2 j hj λl hl he=>hs (by rw[<-he];exact(hkap l hl).2.2)
 refine nS 7 3 (λj=>((fZ X' p.c.l.length).getD j U6).C) U U (λj hj=>nZ j hj) (by rw[jE (P:=λj=>(X' j).C) (e:=3) λ_ _=>U]) bL cD bL λA2 c2 _ _=>⟨(λc hc=>by cases hc),λc hc=>bJ (cD c hc),vk ⟨(⟨A2,c2,fZ X' p.c.l.length⟩,ptL p q b w),⟨⟨?_,λj hj=>?_⟩,hpt⟩,aI qH U tV⟩⟩
 ·show(fZ X' p.c.l.length).length=_
  rw[jS,hpt.ln]
 have hj':j<p.c.l.length:=by rw[hpt.ln] at hj;exact hj
 show Cr ((fZ X' p.c.l.length).getD j U6) (lQ (ptL p q b w) j)
 rw[nC hj'];exact hcr j hj'
def cdR (u:Nat->Nat) (R:Nat):Nat->Nat
 |0=>0
 |k+1=>cdR u R k*R+u k
theorem bFl {u:Nat->Nat} {R:Nat}:∀{k:Nat},(∀i,i<k->u i<R)->cdR u R k<R^k
 |0,_=>Nat.one_pos
 |k+1,h=>by
  have h1:=bFl (k:=k) λi hi=>h i oM
  have h2:=h k (aS k)
  have h3:(cdR u R k+1)*R<=R^k*R:=aT R h1
  rw[dE,iX] at h3
  rw[dJ]
  show cdR u R k*R+u k<R^k*R
  omega
theorem aVc {u u':Nat->Nat} {R:Nat}:∀{k:Nat},(∀i,i<k->u i<R)->(∀i,i<k->u' i<R)->cdR u R k=cdR u' R k->∀i,i<k->u i=u' i
 |0,_,_,_,i,hi=>U4 hi (aF i)
 |k+1,h,h',he,i,hi=>by
  replace he:cdR u R k*R+u k=cdR u' R k*R+u' k:=he
  have h1:=h k (aS k)
  have h2:=h' k (aS k)
  have e1:=U5 (·%R) he
  have e2:=U5 (·/R) he
  simp only[Nat.mul_add_mod_self_right] at e1
  rw[cM h1,cM h2] at e1
  rw[e1] at he
  have e3:cdR u R k=cdR u' R k:=Nat.eq_of_mul_eq_mul_right oM (Nat.add_right_cancel he)
  rcases bR (cB hi) with h3|h3
  ·exact aVc (λi hi=>h i oM) (λi hi=>h' i oM) e3 i h3
  rw[h3];exact e1
def dgZ (R t j:Nat):Nat:=t/R^j%R
theorem aVd {R:Nat} (hR:0<R):∀{k t t':Nat},t<R^k->t'<R^k->(∀j,j<k->dgZ R t j=dgZ R t' j)->t=t'
 |0,t,t',h,h',_=>by rw[mM] at h h';omega
 |k+1,t,t',h,h',he=>by
  have h0:=he 0 (jU k)
  unfold dgZ at h0
  rw[mM,uG,uG] at h0
  have h1:t/R=t'/R:=aVd hR (k:=k) (by rw[fO hR,<-dJ];exact h) (by rw[fO hR,<-dJ];exact h') λj hj=>by
   have h2:=he (j+1) oM
   unfold dgZ at h2 ⊢
   rw[dJ,bP] at h2
   rw[fX,fX]
   exact h2
  rw[<-fG t R,<-fG t' R,h0,h1]
def zsm (f:Nat->Int):Nat->Int
 |0=>0
 |k+1=>zsm f k+f k
theorem bFm {f:Nat->Int} {S:Nat}:∀{k:Nat},(∀j,j<k->(f j).natAbs<=S)->(zsm f k).natAbs<=k*S
 |0,_=>by show(0:Int).natAbs<=_;omega
 |k+1,h=>by
  have h1:=bFm (k:=k) λj hj=>h j oM
  have h2:=h k (aS k)
  rw[dH]
  show(zsm f k+f k).natAbs<=_
  omega
theorem aVe {f g h:Nat->Int}:∀{k:Nat},(∀j,j<k->h j=f j-g j)->zsm h k=zsm f k-zsm g k
 |0,_=>rfl
 |k+1,e=>by
  show zsm h k+h k=(zsm f k+f k)-(zsm g k+g k)
  rw[aVe (k:=k) λj hj=>e j oM,e k (aS k)]
  omega
theorem aPh {f:Nat->Int}:∀{k:Nat},((zsm f k:Int):Rat)=bN (λj=>((f j:Int):Rat)) k
 |0=>rfl
 |k+1=>by
  show((zsm f k+f k:Int):Rat)=bN _ k+_
  rw[Rat.intCast_add,aPh]
theorem bUd {n M:Nat} {N:Nat->Nat->Int} (hM:1<=M) (hN:∀i j,i<n->j<n+1->(N i j).natAbs<=M):∃w:Nat->Int,(∃j,j<n+1/\w j≠0)/\(∀j,j<n+1->(w j).natAbs<=(2*(n+1)*M)^n)/\∀i,i<n->zsm (λj=>N i j*w j) (n+1)=0:=by
 obtain⟨H,hH⟩:∃H,H=(2*(n+1)*M)^n:=⟨_,U⟩
 obtain⟨S,hS⟩:∃S,S=(n+1)*(M*H):=⟨_,U⟩
 have him:∀i t,i<n->(zsm (λj=>N i j*(dgZ (H+1) t j:Nat)) (n+1)).natAbs<=S:=λi t hi=>by
  rw[hS]
  refine bFm λj hj=>?_
  rw[jL,dX]
  have h1:dgZ (H+1) t j<H+1:=dG _ (jU H)
  exact gB (hN i j hi hj) oM
 obtain⟨u,hu⟩:∃u:Nat->Nat->Nat,u=λt i=>(zsm (λj=>N i j*(dgZ (H+1) t j:Nat)) (n+1)+(S:Int)).toNat:=⟨_,U⟩
 have hul:∀t i,i<n->u t i<2*S+1:=λt i hi=>by
  have:=him i t hi
  rw[hu]
  show(_:Int).toNat<_
  omega
 have hlt:(2*S+1)^n<(H+1)^(n+1):=by
  have h1:2*S+1<=2*(n+1)*M*(H+1):=by
   have h2:2*(n+1)*M*(H+1)=2*S+2*(n+1)*M:=by
    rw[hS,cZ,bE,<-bO (n+1) M H,<-bO 2 ((n+1)*M) H,<-bO 2 (n+1) M]
   have h3:1<=2*(n+1)*M:=jM oM hM
   omega
  have h4:(2*S+1)^n<=(2*(n+1)*M*(H+1))^n:=Nat.pow_le_pow_left h1 n
  rw[Nat.mul_pow,<-hH] at h4
  have h5:H*(H+1)^n<(H+1)*(H+1)^n:=iN (aS H) (gN (jU H))
  rw[dJ,bP ((H+1)^n)]
  omega
 have hex:∃t t',t<(H+1)^(n+1)/\t'<(H+1)^(n+1)/\t≠t'/\cdR (u t) (2*S+1) n=cdR (u t') (2*S+1) n:=aN λhno=>by
  have:=aDg (n:=(H+1)^(n+1)) (m:=(2*S+1)^n) (e:=λt=>cdR (u t) (2*S+1) n) (f:=λk=>k) (λt t' ht ht' e=>aN λhne=>hno ⟨t,t',ht,ht',hne,e⟩) λt _=>⟨cdR (u t) (2*S+1) n,bFl λi hi=>hul t i hi,U⟩
  omega
 obtain⟨t,t',ht,ht',hne,he⟩:=hex
 obtain⟨w,hw⟩:∃w:Nat->Int,∀j,w j=((dgZ (H+1) t j:Nat):Int)-(dgZ (H+1) t' j:Nat):=⟨_,λ_=>U⟩
 refine⟨w,aN λhno=>hne (aVd (jU H) ht ht' λj hj=>aN λh1=>hno ⟨j,hj,by
  have:=hw j
  show w j≠0
  change ¬dgZ (H+1) t j=dgZ (H+1) t' j at h1
  omega⟩),λj hj=>?_,λi hi=>?_⟩
 ·have h1:dgZ (H+1) t j<H+1:=dG _ (jU H)
  have h2:dgZ (H+1) t' j<H+1:=dG _ (jU H)
  have h3:=hw j
  rw[<-hH]
  omega
 have h1:=aVc (λi hi=>hul t i hi) (λi hi=>hul t' i hi) he i hi
 rw[hu] at h1
 replace h1:(zsm (λj=>N i j*(dgZ (H+1) t j:Nat)) (n+1)+(S:Int)).toNat=(zsm (λj=>N i j*(dgZ (H+1) t' j:Nat)) (n+1)+(S:Int)).toNat:=h1
 have h2:=him i t hi
 have h3:=him i t' hi
 rw[aVe (f:=λj=>N i j*(dgZ (H+1) t j:Nat)) (g:=λj=>N i j*(dgZ (H+1) t' j:Nat)) λj _=>by show N i j*w j=_;rw[hw j,yQ]]
 omega
def dpr (f:Nat->Nat):Nat->Nat
 |0=>1
 |k+1=>dpr f k*f k
theorem aVf {f:Nat->Nat} {j:Nat}:∀{k:Nat},j<k->f j∣dpr f k
 |0,h=>U4 h (aF j)
 |k+1,h=>by
  rcases bR (cB h) with h1|h1
  ·exact qN (aVf h1) (Nat.dvd_mul_right _ _)
  rw[h1];exact oD _ _
theorem aVg {f:Nat->Nat}:∀{k:Nat},(∀j,j<k->0<f j)->0<dpr f k
 |0,_=>Nat.one_pos
 |k+1,h=>jM (aVg λj hj=>h j oM) (h k (aS k))
theorem aVh {f:Nat->Nat} {B:Nat}:∀{k:Nat},(∀j,j<k->len (f j)<=B)->len (dpr f k)<=k*B+1
 |0,_=>by show len 1<=_;rw[show len 1=1 by decide];omega
 |k+1,h=>by
  have h1:=aVh (k:=k) λj hj=>h j oM
  have h2:=h k (aS k)
  have h3:=nF (dpr f k) (f k)
  rw[dH]
  show len (dpr f k*f k)<=_
  omega
theorem bLe {q:Nat->Rat} {B k:Nat} (h:∀j,j<k->rb (q j) B):∃(U7:Nat) (N:Nat->Int),0<U7/\(∀j,j<k->((N j:Int):Rat)=q j*((U7:Nat):Rat))/\∀j,j<k->len (N j).natAbs<=(k+1)*B+1:=by
 obtain⟨U7,hD⟩:∃U7,U7=dpr (λj=>(q j).den) k:=⟨_,U⟩
 have hp:0<U7:=by rw[hD];exact aVg λj _=>(q j).den_pos
 refine⟨U7,λj=>(q j).num*((U7/(q j).den:Nat):Int),hp,λj hj=>?_,λj hj=>?_⟩
 ·have h1:(q j).den*(U7/(q j).den)=U7:=Nat.mul_div_cancel' (by rw[hD];exact aVf (f:=λj=>(q j).den) hj)
  have h2:q j*(((q j).den:Nat):Rat)=(((q j).num:Int):Rat):=by
   have h3:(((q j).num:Int):Rat)/(((q j).den:Nat):Rat)=q j:=by have h7:=Rat.mkRat_eq_div (q j).num (q j).den;rw[Rat.mkRat_self] at h7;exact h7.symm
   have h4:(((q j).den:Nat):Rat)≠0:=λh5=>U4 (Rat.natCast_eq_zero_iff.1 h5) (q j).den_nz
   have h6:=fM _ h4
   rw[iJ] at h3
   grind
  obtain⟨z,hz⟩:∃z,z=U7/(q j).den:=⟨_,U⟩
  show(((q j).num*((U7/(q j).den:Nat):Int):Int):Rat)=_
  rw[<-hz] at h1 ⊢
  rw[<-h1,Rat.natCast_mul,<-qO,h2,Rat.intCast_mul]
  rfl
 have h1:U7/(q j).den<=U7:=iE _ _
 have h2:=fR h1
 have h3:len U7<=k*B+1:=by rw[hD];exact aVh λj hj=>(h j hj).2
 have h4:=(h j hj).1
 show len ((q j).num*((U7/(q j).den:Nat):Int)).natAbs<=_
 rw[jL,dX,dH]
 have h5:=nF (q j).num.natAbs (U7/(q j).den)
 omega
theorem aSb {m K:Nat} (h:len m<=K):∀n,len (m^n)<=n*K+1
 |0=>by rw[mM,show len 1=1 by decide];omega
 |n+1=>by
  have h1:=aSb h n
  have h2:=nF (m^n) m
  rw[dJ,dH]
  omega
def sgB (n B:Nat):Nat:=n*((n+2)*B+4)+1
theorem bFn {n B:Nat} {A:Nat->Nat->Rat} {b x:Nat->Rat} (hn:n<=1000) (hA:∀i j,i<n->j<n->rb (A i j) B) (hb:∀i,i<n->rb (b i) B) (hF:Free A n n) (hx:∀i,i<n->bN (λj=>A i j*x j) n=b i):∀j,j<n->rb (x j) (2*sgB n B):=by
 obtain⟨Q,hQ⟩:∃Q:Nat->Nat->Rat,Q=λi j=>if j<n then A i j else b i:=⟨_,U⟩
 have hq:∀i,i<n->∀j,j<n+1->rb (Q i j) B:=λi hi j hj=>by
  rw[hQ]
  show rb (if j<n then A i j else b i) B
  split
  ·next h=>exact hA i j hi h
  exact hb i hi
 obtain⟨U7,hD⟩:=pD (r:=λ(i:Nat) (t:Nat×(Nat->Int))=>i<n->0<t.1/\(∀j,j<n+1->((t.2 j:Int):Rat)=Q i j*((t.1:Nat):Rat))/\∀j,j<n+1->len (t.2 j).natAbs<=(n+2)*B+1) λi=>by
  by_cases hi:i<n
  ·obtain⟨d,N,h1,h2,h3⟩:=bLe (hq i hi)
   exact⟨(d,N),λ_=>⟨h1,h2,h3⟩⟩
  exact⟨(0,λ_=>0),λhh=>U4 hh hi⟩
 obtain⟨w,⟨j0,hj0,hw0⟩,hwl,hw⟩:=bUd (n:=n) (M:=4294967296^((n+2)*B+1)) (N:=λi j=>(U7 i).2 j) (gN dC) λi j hi hj=>by
  have h1:=(hD i hi).2.2 j hj
  have h2:=Go.Vm.lt_len ((U7 i).2 j).natAbs
  exact eT (bM h2 (eB dC h1))
 have hsum:∀i,i<n->bN (λj=>A i j*((w j:Int):Rat)) n+b i*((w n:Int):Rat)=0:=λi hi=>by
  have h1:=U5 (λz:Int=>(z:Rat)) (hw i hi)
  simp only[aPh] at h1
  obtain⟨h2,h3,_⟩:=hD i hi
  have h4:bN (λj=>(((U7 i).2 j*w j:Int):Rat)) (n+1)=(((U7 i).1:Nat):Rat)*bN (λj=>Q i j*((w j:Int):Rat)) (n+1):=by
   rw[<-iH]
   exact aZ λj hj=>by
    rw[Rat.intCast_mul,h3 j hj];grind
  rw[h4] at h1
  have h5:bN (λj=>Q i j*((w j:Int):Rat)) (n+1)=0:=by
   rcases oU.1 h1 with h6|h6
   ·exact U4 (Rat.natCast_eq_zero_iff.1 h6) oM
   exact h6
  replace h5:bN (λj=>Q i j*((w j:Int):Rat)) n+Q i n*((w n:Int):Rat)=0:=h5
  rw[hQ] at h5
  replace h5:bN (λj=>(if j<n then A i j else b i)*((w j:Int):Rat)) n+(if n<n then A i n else b i)*((w n:Int):Rat)=0:=h5
  rw[U2 (gC n)] at h5
  rw[aZ (g:=λj=>A i j*((w j:Int):Rat)) λj hj=>by rw[U3 hj]] at h5
  exact h5
 have hwn:w n≠0:=λh0=>by
  have h1:=hF (λj=>((w j:Int):Rat)) λi hi=>by
   have:=hsum i hi
   rw[h0,show(((0:Int):Int):Rat)=0 from U,bU,bK] at this
   exact this
  rcases bR (cB hj0) with h2|h2
  ·exact hw0 (Rat.intCast_inj.1 (h1 j0 h2))
  rw[h2] at hw0;exact hw0 h0
 have hwq:((w n:Int):Rat)≠0:=λh=>hwn (Rat.intCast_inj.1 h)
 have hxw:∀j,j<n->x j=-(((w j:Int):Rat)/((w n:Int):Rat)):=λj hj=>by
  have h1:=hF (λj=>x j+((w j:Int):Rat)/((w n:Int):Rat)) (λi hi=>by
   have h2:bN (λj=>A i j*(x j+((w j:Int):Rat)/((w n:Int):Rat))) n=bN (λj=>A i j*x j) n+((w n:Int):Rat)⁻¹*bN (λj=>A i j*((w j:Int):Rat)) n:=by
    rw[<-iH,<-qZ]
    exact aZ λj _=>by rw[iJ];grind
   have h3:=hsum i hi
   have h4:=fM _ hwq
   rw[h2,hx i hi]
   grind) j hj
  grind
 have hlen:∀j,j<n+1->len (w j).natAbs<=sgB n B:=λj hj=>by
  refine aJ (fR (hwl j hj)) (aJ (aSb (K:=(n+2)*B+4) ?_ n) (aH _))
  have h1:=nF (2*(n+1)) (4294967296^((n+2)*B+1))
  have h2:len (2*(n+1))<=1:=aJ (fR (show 2*(n+1)<=2002 by omega)) dC
  have h3:=aSb (m:=4294967296) (K:=2) dC 1
  have h4:len (4294967296^((n+2)*B+1))<=(n+2)*B+2:=nO (nV dC oM)
  omega
 have hwr:∀j,j<n+1->rb ((w j:Int):Rat) (sgB n B):=λj hj=>⟨by rw[Rat.num_intCast];exact hlen j hj,by rw[Rat.den_intCast,show len 1=1 by decide];unfold sgB;omega⟩
 intro j hj
 rw[hxw j hj,iJ]
 have h1:=fW (hwr j oM) (bFe (show 1<=sgB n B by unfold sgB;omega) (hwr n (aS n)))
 exact uL (h1.le oM)
theorem aVi {l:List En} (ha:Asc l) (t:Nat) (j:Int):Vm.get (l.take t) j=0\/Vm.get (l.take t) j=Vm.get l j:=by
 by_cases h:∃e∈l.take t,e.1=j
 ·refine .inr ?_
  obtain⟨e,he,rfl⟩:=h
  have e1:Vm.get l e.1=Vm.get (l.take t) e.1+Vm.get (l.drop t) e.1:=by rw[<-get_append,dT]
  have ha':Asc (l.take t++l.drop t):=by rw[dT];exact ha
  rw[e1,get_none (a:=l.drop t) λf hf h=>by
   have:e.1<f.1:=(eR.1 ha').2.2 e he f hf
   omega,bK]
 exact .inl (get_none λe he h2=>h ⟨e,he,h2⟩)
theorem aMb {l:List En} {t j0:Nat} (h:t<l.length) (he:(l.getD t U6).1=(j0:Nat)) (j:Nat):Vm.get (l.take (t+1)) (j:Nat)=Vm.get (l.take t) (j:Nat)+if j=j0 then (l.getD t U6).2 else 0:=by
 rw[aCy h,get_append,vI,he]
 show _+(_+(0:Rat))=_
 rw[bK]
 by_cases e:j=j0
 ·rw[U3 e,U3 oM]
 rw[U2 e,U2 oM]
section
variable {n F B:Nat} {Lw Up lo us:Nat->List En} {p c y:Nat->Rat} (hP:LuP n Lw Up lo us p) (h1:1<=F)
def zT (us:Nat->List En) (p c:Nat->Rat) (i t:Nat):Nat->Rat:=λj=>if j=i then fwT us p c i i/p i else fwT us p c i j-Vm.get ((us i).take t) (j:Nat)*(fwT us p c i i/p i)
def aMc (lo:Nat->List En) (n:Nat) (y:Nat->Rat) (k t:Nat):Nat->Rat:=λj=>bkT lo n y k j-Vm.get ((lo (n-1-k)).take t) (j:Nat)*bkT lo n y k (n-1-k)
include h1
end
theorem bLf (r f s:RatM) {a q b:Rat} (hr:Cr r a) (hra:rb a 4398046511104) (hf:Rq f q 4398046511104) (hs:Rq s b 4398046511104) (hqb:rb (q*b) 4398046511104):Ctr pgQ 135 [] [.a r.C,.a f.C,.a s.C] [] (λg:RatM=>⟨.a g.C,[],Cr g (a-q*b)⟩):=by
 refine cw func135 (⟨[],kV s hs,U,U,U,λ_ _=>⟨λh=>vk ⟨r,?_,aI U U tV⟩,λh=>vk ?_⟩⟩)
 ·rw[cY.1 (fT.1 h),bU,yK];exact hr
 exact⟨.seq [(0,false),(1,false),(2,false),(3,false),(4,false),(5,true)],U0,[],yB f s hf hs,U,U,U,λm hm=>⟨[],aKr r m (Cr.rq hr hra) (Cr.rq hm hqb),U,U,U,λg hg=>⟨g,hg,aI U U tV⟩⟩⟩
theorem bZn (f:LuM) (Z0:Nat->RatM) {M:Nat->List En} {n F:Nat} {rw cl:Nat->Nat} {Lw Up:Nat->List En} (h:LuG f M n rw cl Lw Up F) (hF:F<=4398046511104) (h1:1<=F) (hn:n<=4096):Ctr pgQ 134 [true] [.a f.C,.c (.s 0 n)] [(53,3,rtC n Z0)] (λ_:Unit=>⟨.c (iC 0),[(53,3,rtC n Z0)],True⟩):=by
 have hR:f.R.l.length=n:=by rw[h.R];simp
 have hw:Ctr pgQ 179 [] [.a f.C,.c (iC (f.R.l.length:Nat))] [] (λ_:Unit=>⟨.c (.v (.bool true)),[],True⟩):=by rw[hR];exact bXx f h hF h1 hn
 refine gA gT (eo func134) func134 U U U bL (aAg cD) (vk ?_)
 refine⟨[],hw,U,U,U,λ_ _=>⟨λh2=>?_,λ_=>vk ⟨(),tV,fH U U bL (aA (bG cD) aU) U (aAg cD)⟩⟩⟩
 replace h2:¬(n:Int)=(f.R.l.length:Nat):=h2
 omega
abbrev tB1 (f:LuM) (n:Nat) (Z0 Z:Nat->RatM):BL:=[(53,3,rtC n Z0),(80,0,f.C),(53,3,rtC n Z)]
theorem aDj {f:LuM} {n:Nat} {Z0 Z:Nat->RatM}:scB 3 (tB1 f n Z0 Z):=aA (bG cD) (aA U (aA (bG cD) aU))
abbrev tB2 (f:LuM) (n:Nat) (Z0 Z X:Nat->RatM):BL:=[(53,3,rtC n Z0),(80,0,f.C),(53,3,rtC n Z),(53,3,rtC n X)]
theorem aMd {f:LuM} {n:Nat} {Z0 Z X:Nat->RatM}:scB 4 (tB2 f n Z0 Z X):=aA (bG cD) (aA U (aA (bG cD) (aA (bG cD) aU)))
theorem cDe {T T' e e':Nat} {l l':List CV} (h:∀c∈l,fS c=true) (h':∀c∈l',fS c=true):ClB [true,true] [(T,e,l),(T',e',l')]:=ClB.cons (λ_=>aX.2 h) (ClB.cons (λ_=>aX.2 h') ClB.nil)
abbrev sG0 (n i:Nat):List (Nat×DV):=[(32,.c (iC i)),(31,.c (iC n)),(1,.c (.s 0 n)),(2,.c (.p 1 0)),(7,.c (iC n)),(8,.c (.s 2 n))]
abbrev sG1 (n i:Nat):List (Nat×DV):=[(48,.c (iC i)),(47,.c (iC n)),(2,.c (.p 1 0)),(7,.c (iC n)),(8,.c (.s 2 n))]
abbrev sG2 (n i:Nat) (A:Option Addr) (c m:Nat) (row:Sl EntM) (t:Nat):List (Nat×DV):=(75,.c (iC t))::(73,.c (.r A m c 4 λj=>(row.l.getD (j+1) U6).C))::(74,.c (iC m))::(10,.c (iC i))::sG1 n i
abbrev sG3 (n k:Nat):List (Nat×DV):=[(100,.c (iC k)),(99,.c (iC n)),(2,.c (.p 1 0)),(7,.c (iC n)),(8,.c (.s 2 n)),(14,.c (.s 3 n))]
abbrev sG4 (n k i:Nat) (A:Option Addr) (c m:Nat) (row:Sl EntM) (t:Nat):List (Nat×DV):=(119,.c (iC t))::(117,.c (.r A m c 4 λj=>(row.l.getD j U6).C))::(118,.c (iC m))::(16,.c (iC i))::sG3 n k
theorem bLg (f:LuM) (Z0:Nat->RatM) {M:Nat->List En} {n F B Xb:Nat} {rw cl:Nat->Nat} {Lw Up:Nat->List En} {bv:Nat->Rat} (h:LuG f M n rw cl Lw Up F) (h1:1<=F) (hn:n<=4096) (hbv:∀k,k<n->Rq (Z0 k) (bv k) B/\rb (bv k) B) (hX:∀y,TEq (enM M) n bv y->∀c,c<n->rb (y c) Xb) (hB:wX F B Xb n<=4398046511104):
 Ctr pgQ 114 [true,true] [.a f.C,.c (.s 0 n)] [(53,3,rtC n Z0)] (λg:(Nat->RatM)×(Nat->Rat)=>⟨.t [.c (.s 1 n),.c (iC 0)],[(53,3,rtC n Z0),(53,3,rtC n g.1)],TEq (enM M) n bv g.2/\∀r,r<n->Cr (g.1 r) (g.2 r)/\rb (g.2 r) Xb⟩):=by
 obtain⟨lo,us,p,hP⟩:=h.o.parts
 have hR:f.R.l.length=n:=by rw[h.R];simp
 have hK:f.K.l.length=n:=by rw[h.K];simp
 have hRi:((f.R.l.length:Nat):Int)=(n:Nat):=by rw[hR]
 obtain⟨c,hc⟩:∃c:Nat->Rat,c=λj=>bv (cl j):=⟨_,U⟩
 have hpb:∀i,i<n->rb (p i) F:=λi hi=>h.bu i hi ((i:Int),p i) (by rw[(hP.us i hi).1];exact .head _)
 have hua:∀i,i<n->Asc (us i)/\rbE (us i) F:=λi hi=>⟨by
  have:=(h.Ub.ok i hi).1.1
  rw[(hP.us i hi).1] at this
  exact this.tail,λe he=>h.bu i hi e (by rw[(hP.us i hi).1];exact .tail _ he)⟩
 have hla:∀i,i<n->Asc (lo i)/\rbE (lo i) F:=λi hi=>⟨(hP.lo i hi).2.1,λe he=>h.bl i hi e (by rw[(hP.lo i hi).1];exact cX _ he)⟩
 have hcb:∀j,j<n->rb (c j) B:=λj hj=>by rw[hc];exact(hbv _ (h.o.clt j hj)).2
 obtain⟨ys,hys⟩:∃ys,ys=bkT lo n (fwT us p c n) n:=⟨_,U⟩
 obtain⟨xv,hxv⟩:∃xv:Nat->Rat,∀j,j<n->xv (rw j)=ys j:=aRw h.o.rlt h.o.rinj ys
 have hT:TEq (enM M) n bv xv:=h.o.solT hP λi hi=>by rw[hxv i hi,hys,hc]
 have hyX:∀j,j<n->rb (ys j) Xb:=λj hj=>by rw[<-hxv j hj];exact hX xv hT _ (h.o.rlt j hj)
 obtain⟨Zn,hZd⟩:∃Z,Z=zX F Xb n:=⟨_,U⟩
 obtain⟨W,hWd⟩:∃W,W=wX F B Xb n:=⟨_,U⟩
 rw[<-hWd] at hB
 have hWe:W=B+(n+1)*(F+Zn+1)+Zn+3:=by rw[hWd,hZd];rfl
 have hZe:Zn=(n+1)*(F+Xb+1)+2:=by rw[hZd];rfl
 rw[dH] at hWe hZe
 have hzZ:∀j,j<n->rb (fwT us p c n j) Zn:=λj hj=>by
  rw[<-aUs hP (y:=fwT us p c n) hj,<-hys]
  exact(aBw (b:=Xb+F) oM λi hi=>fW (hyX i hi) (mK (h.L.ok i hi).1.1 (h.bl i hi) h1)).le (by
   rw[show Xb+F+1=F+Xb+1 by omega];omega)
 have hfr:∀k,k<=n->∀j,j<n->rb (fwT us p c k j) W:=λk hk j hj=>by
  by_cases e:j<k
  ·rw[aDc hP e hk,<-aDc hP (k:=n) hj (aH n)]
   exact(hzZ j hj).le oM
  have e1:=aLm hP (c:=c) hj (k:=k) oM
  rw[show fwT us p c k j=c j-bN (λi=>fwT us p c n i*Vm.get (Up i) (j:Nat)) k from by rw[<-e1];grind]
  have e2:k*(Zn+F+1)<=n*(Zn+F+1):=aT _ hk
  rw[show Zn+F+1=F+Zn+1 by omega] at e2
  exact(pJ (hcb j hj) (aBw (b:=Zn+F) oM (m:=k) λi hi=>fW (hzZ i oM) (mK (h.Ub.ok i oM).1.1 (h.bu i oM) h1))).le (by
   rw[show Zn+F+1=F+Zn+1 by omega];omega)
 have hbr:∀k,k<=n->∀j,j<n->rb (bkT lo n (fwT us p c n) k j) W:=λk hk j hj=>by
  have e1:=aLo hP (y:=fwT us p c n) (j:=j) (k:=k) hk
  rw[show bkT lo n (fwT us p c n) k j=fwT us p c n j-bN (λi=>if n-k<=i then bkT lo n (fwT us p c n) n i*Vm.get (lo i) (j:Nat) else 0) n from by rw[<-e1];grind]
  exact(pJ (hzZ j hj) (aBw (b:=Xb+F) oM (m:=n) λi hi=>by
   by_cases e2:n-k<=i
   ·rw[U3 e2,<-hys];exact fW (hyX i hi) (mK (hla i hi).1 (hla i hi).2 h1)
   ·rw[U2 e2];exact wJ oM)).le (by
   rw[show Xb+F+1=F+Xb+1 by omega];omega)
 have hWB:Zn<=W:=Uc
 have hFZ:F+Zn<=4398046511104:=Uc
 have hF:F<=4398046511104:=Uc
 refine gA gT (eo func114) func114 U U U bL (ClB.cons (λ_=>aX.2 cD) λi T es l hi=>by cases hi) (vk ⟨none,[0],bZn f Z0 h hF h1 hn,U,U,U,λ_ _=>⟨λhh=>U4 U hh,λ_=>vk ⟨n,⟨hRi,hRi,by show 56*n<=_;omega,by simp only[maxLen];omega⟩,?_⟩⟩⟩)
 show Sd _ _ _ _ _ _
 refine gJ tSd 2 (rtC n λ_=>U6) U jI.1 jI.2 ?_
 refine bX (λ_=>true) (λg:Nat×(Nat->RatM)=>sG0 n g.1) (λg=>tB1 f n Z0 g.2) (λ_=>[]) (λg=>g.1<=n/\∀j,j<g.1->Rq (g.2 j) (c j) B) (λg=>n-g.1) λhM=>⟨hM (0,λ_=>U6) ⟨aB _,λj hj=>U4 hj (aF _)⟩ U ⟨U,U,U⟩ U1 ⟨U,hRi,U,U,hRi,U⟩ bL aDj U,λ⟨i,Z⟩ ⟨hi,hZ⟩=>vk ⟨λh2=>vk ?_,λh2=>vk ?_⟩⟩
 all_goals
  replace hi:i<=n:=hi
  replace hZ:∀j,j<i->Rq (Z j) (c j) B:=hZ
 ·replace h2:(i:Int)<(n:Nat):=h2
  have hin:i<n:=Uc
  have hci:=h.o.clt i hin
  have hix:f.K.l.getD i 0=(cl i:Nat):=by rw[h.K];exact yF hin
  refine⟨i,⟨U,show i<f.K.l.length by omega⟩,cl i,⟨hix,hci,eO hci⟩,_,kM hci,i,⟨U,hin,eO hin⟩,_,fQ hin,(i+1:Nat),wi,hM (i+1,upd Z i (Z0 (cl i))) ⟨⟨hin,λj hj=>?_⟩,show n-(i+1)<n-i by omega⟩ U ⟨U,U,U⟩ U1 rS bL aDj U⟩
  replace hj:j<i+1:=hj
  show Rq (upd Z i _ j) (c j) B
  by_cases e:j=i
  ·subst e;rw[bF,hc];exact(hbv _ hci).1
  rw[aY e];exact hZ j oM
 replace h2:¬(i:Int)<(n:Nat):=h2
 obtain rfl:n=i:=Uc
 refine vk ?_
 show Sd _ _ _ _ _ _
 refine bX (λ_=>true) (λg:Nat×(Nat->RatM)=>sG1 n g.1) (λg=>tB1 f n Z0 g.2) (λ_=>[]) (λg=>g.1<=n/\∀j,j<n->Rq (g.2 j) (fwT us p c g.1 j) W/\(j<g.1->Cr (g.2 j) (fwT us p c g.1 j))) (λg=>n-g.1) λhM=>⟨hM (0,Z) ⟨aB _,λj hj=>⟨(hZ j hj).le oM,λh=>U4 h (aF _)⟩⟩ U ⟨U,U,U⟩ U1 rS bL aDj U,λ⟨i,Z⟩ ⟨hi,hZ⟩=>vk ⟨λh2=>vk ?_,λh2=>vk ?_⟩⟩
 all_goals
  replace hi:i<=n:=hi
  replace hZ:∀j,j<n->Rq (Z j) (fwT us p c i j) W/\(j<i->Cr (Z j) (fwT us p c i j)):=hZ
 ·replace h2:(i:Int)<(n:Nat):=h2
  have hin:i<n:=Uc
  have lU:=h.Ub.ln
  have eU:=h.Ub.row i hin
  obtain⟨hu,hui,hul⟩:=hP.us i hin
  have hpi:=hP.p i hin
  have ln1:(f.Ub.d.l.getD i cG).l.length=(us i).length+1:=by rw[eU.ln,hu];simp
  refine⟨i,⟨U,show i<f.Ub.d.l.length by omega⟩,?_⟩
  obtain⟨row,hrow⟩:∃row,row=f.Ub.d.l.getD i cG:=⟨_,U⟩
  have hlen:(f.Ub.d.l.getD i cG).l.length-1=(us i).length:=Uc
  have hsz:(((f.Ub.d.l.getD i cG).l.length-1:Nat):Int)=((us i).length:Nat):=by rw[hlen]
  have hsl:CV.r (slA (f.Ub.d.l.getD i cG).A (f.Ub.d.l.getD i cG).c 1 4) ((f.Ub.d.l.getD i cG).l.length-1) ((f.Ub.d.l.getD i cG).c-1) 4 (λj=>((f.Ub.d.l.getD i cG).l.getD (j+1) U6).C)= .r (slA row.A row.c 1 4) (us i).length (row.c-1) 4 λj=>(row.l.getD (j+1) U6).C:=by rw[hlen,hrow]
  rw[<-hrow] at eU
  have hfb:=hfr i oM
  have e2:=eU.e 0 (by rw[hu];simp)
  rw[show(Up i).getD 0 U6=((i:Int),p i) by rw[hu];rfl] at e2
  have hpr:Rq (row.l.getD 0 U6).v (p i) F:=Cr.rq e2.2 (hpb i hin)
  obtain⟨yi,hyi⟩:∃yi,yi=fwT us p c i i/p i:=⟨_,U⟩
  have hyb:rb yi Zn:=by rw[hyi,<-aDc hP (k:=n) hin (aH n)];exact hzZ i hin
  refine⟨.seq ((List.range 16).map λi=>(i,i==15)),U0,i,⟨U,hin,eO hin⟩,_,kM hin,0,⟨U,show 0<(f.Ub.d.l.getD i cG).l.length by omega⟩,[],aRd (Z i) ((f.Ub.d.l.getD i cG).l.getD 0 U6).v ((hZ i hin).1.le hB) (by rw[<-hrow];exact hpr.le) hpi,U,U,U,λg hg=>?_⟩
  replace hg:Cr g yi:=by rw[hyi];exact hg
  refine⟨i,⟨U,hin,eO hin⟩,_,fQ hin,1,⟨U,show 1<=(f.Ub.d.l.getD i cG).l.length by omega⟩,?_⟩
  show Sd _ _ _ _ _ _
  refine bX (λ_=>true) (λg:Nat×(Nat->RatM)=>sG2 n i (slA row.A row.c 1 4) (row.c-1) (us i).length row g.1) (λg=>tB1 f n Z0 g.2) (λ_=>[]) (λg=>g.1<=(us i).length/\∀j,j<n->Rq (g.2 j) (zT us p c i g.1 j) W/\(j<i+1->Cr (g.2 j) (zT us p c i g.1 j))) (λg=>(us i).length-g.1) λhM2=>⟨hM2 (0,upd Z i g) ⟨aB _,λj hj=>?_⟩ U ⟨U,U,U⟩ U1 ⟨U,hsl,hsz,U,U,U,U,U,U⟩ bL aDj U,λ⟨t,Z'⟩ ⟨ht,hZ'⟩=>vk ⟨λh3=>vk ?_,λh3=>vk ?_⟩⟩
  ·show Rq (upd Z i g j) (if j=i then _ else fwT us p c i j-0*_) W/\(_->Cr (upd Z i g j) (if j=i then _ else fwT us p c i j-0*_))
   by_cases e:j=i
   ·subst e;rw[bF,U3 U,<-hyi];exact⟨Cr.rq hg (hyb.le hWB),λ_=>hg⟩
   rw[aY e,U2 e,dL,yK];exact⟨(hZ j hj).1,λh=>(hZ j hj).2 oM⟩
  all_goals
   replace ht:t<=(us i).length:=ht
   replace hZ':∀j,j<n->Rq (Z' j) (zT us p c i t j) W/\(j<i+1->Cr (Z' j) (zT us p c i t j)):=hZ'
  ·replace h3:(t:Int)<((us i).length:Nat):=h3
   have htl:t<(us i).length:=Uc
   have e0:=hui _ (fN htl)
   have er:=eU.e (t+1) (by rw[hu];simp;omega)
   rw[show(Up i).getD (t+1) U6=(us i).getD t U6 by rw[hu];rfl] at er
   obtain⟨j0,hj0⟩:∃j0:Nat,((us i).getD t U6).1=(j0:Nat):=⟨((us i).getD t U6).1.toNat,Uc⟩
   have hij:i<j0:=Uc
   have hjn:j0<n:=Uc
   have hix0:(row.l.getD (t+1) U6).ix=(j0:Nat):=er.1.trans hj0
   have hev:rb ((us i).getD t U6).2 F:=(hua i hin).2 _ (fN htl)
   have hii:zT us p c i t i=yi:=by rw[hyi];exact U3 U
   have hzi:=(hZ' i hin).2 (aS i)
   rw[hii] at hzi
   have e3:zT us p c i t j0-((us i).getD t U6).2*yi=zT us p c i (t+1) j0:=by
    unfold zT
    rw[U2 oM,U2 oM,aMb htl hj0,U3 U,hyi];grind
   have hs':rb (zT us p c i (t+1) j0) W:=by
    unfold zT
    rw[U2 oM]
    rcases aVi (hua i hin).1 (t+1) j0 with h2|h2
    ·rw[h2,dL,yK];exact hfb j0 hjn
    rw[h2]
    have h3:=hfr (i+1) hin j0 hjn
    replace h3:rb (if j0=i then _ else fwT us p c i j0-Vm.get (us i) (j0:Nat)*(fwT us p c i i/p i)) W:=h3
    rwa [U2 oM] at h3
   have hk:=aKs (Z' j0) (row.l.getD (t+1) U6).v (Z' i) (B:=W) ((hZ' j0 hjn).1.le hB) ((Cr.rq er.2 hev).le hF) ((Cr.rq hzi hyb).le oM) ((fW hev hyb).le oM) (by rw[e3];exact hs') (hZ' j0 hjn).1
   rw[e3] at hk
   refine⟨t,⟨U,htl⟩,.seq ((List.range 17).map λi=>(i,i==16)),U0,j0,⟨hix0,hjn,eO hjn⟩,_,kM hjn,i,⟨U,hin,eO hin⟩,_,kM hin,[],hk,U,U,U,λg hg=>⟨j0,⟨hix0,hjn,eO hjn⟩,_,fQ hjn,(t+1:Nat),wi,hM2 (t+1,upd Z' j0 g) ⟨⟨htl,λj hj=>?_⟩,show(us i).length-(t+1)<(us i).length-t by omega⟩ U ⟨U,U,U⟩ U1 rS bL aDj U⟩⟩
   show Rq (upd Z' j0 g j) (zT us p c i (t+1) j) W/\(_->Cr (upd Z' j0 g j) (zT us p c i (t+1) j))
   by_cases e:j=j0
   ·subst e;rw[bF];exact⟨hg,λh=>Uc⟩
   rw[aY e,show zT us p c i (t+1) j=zT us p c i t j from by unfold zT;rw[aMb htl hj0,U2 e,bK]];exact hZ' j hj
  replace h3:¬(t:Int)<((us i).length:Nat):=h3
  obtain rfl:t=(us i).length:=Uc
  refine⟨(i+1:Nat),wi,hM (i+1,Z') ⟨⟨hin,λj hj=>?_⟩,show n-(i+1)<n-i by omega⟩ U ⟨U,U,U⟩ U1 rS bL aDj U⟩
  have:=hZ' j hj
  unfold zT at this
  rwa [cQ] at this
 replace h2:¬(i:Int)<(n:Nat):=h2
 obtain rfl:n=i:=Uc
 obtain⟨y,hy⟩:∃y,y=fwT us p c n:=⟨_,U⟩
 rw[<-hy] at hZ
 replace hZ:∀j,j<n->Cr (Z j) (y j):=λj hj=>(hZ j hj).2 hj
 have hbr':=hbr
 rw[<-hy] at hbr'
 refine vk ⟨n,⟨U,U,by show 56*n<=_;omega,by simp only[maxLen];omega⟩,?_⟩
 show Sd _ _ _ _ _ _
 refine gJ tSd 3 (rtC n λ_=>U6) U jI.1 jI.2 ?_
 refine bX (λ_=>true) (λg:Nat×(Nat->RatM)×(Nat->RatM)=>sG3 n g.1) (λg=>tB2 f n Z0 g.2.1 g.2.2) (λ_=>[]) (λg=>g.1<=n/\(∀j,j<n->Cr (g.2.1 j) (bkT lo n y g.1 j))/\∀j,n-g.1<=j->j<n->Cr (g.2.2 (rw j)) (bkT lo n y n j)) (λg=>n-g.1) λhM=>⟨hM (0,Z,λ_=>U6) ⟨aB _,hZ,λj h4 h5=>U4 h4 (by show ¬n-0<=j;omega)⟩ U rS trivial rS bL aMd U,λ⟨k,Z,X⟩ ⟨hk,hZ,hX'⟩=>vk ⟨λh2=>vk ?_,λh2=>vk ?_⟩⟩
 all_goals
  replace hk:k<=n:=hk
  replace hZ:∀j,j<n->Cr (Z j) (bkT lo n y k j):=hZ
  replace hX':∀j,n-k<=j->j<n->Cr (X (rw j)) (bkT lo n y n j):=hX'
 ·replace h2:(k:Int)<(n:Nat):=h2
  have hkn:k<n:=Uc
  obtain⟨i,hi⟩:∃i,i=n-1-k:=⟨_,U⟩
  have hin:i<n:=Uc
  have hri:=h.o.rlt i hin
  have hix:f.R.l.getD i 0=(rw i:Nat):=by rw[h.R];exact yF hin
  have lL:=h.L.ln
  have eL:=h.L.row i hin
  obtain⟨hl,hvl⟩:=hP.lo i hin
  have ln1:(f.L.d.l.getD i cG).l.length=(lo i).length+1:=by rw[eL.ln,hl];simp
  have a1:((n-1:Nat):Int)=IntKind.i64.wrap ((n:Nat)-1):=wi oM
  have a2:(i:Int)=IntKind.i64.wrap (((n-1:Nat):Int)-(k:Nat)):=wi oM
  have hll:=kY hvl
  refine⟨(n-1:Nat),a1,(i:Nat),a2,i,⟨U,show i<f.L.d.l.length by omega⟩,((lo i).length:Nat),wi (by show(((lo i).length:Nat):Int)=(((f.L.d.l.getD i cG).l.length:Nat):Int)-1/\_<=(((f.L.d.l.getD i cG).l.length:Nat):Int)-1/\(((f.L.d.l.getD i cG).l.length:Nat):Int)-1<=_;omega),(lo i).length,⟨U,show(lo i).length<=(f.L.d.l.getD i cG).l.length by omega⟩,?_⟩
  obtain⟨row,hrow⟩:∃row,row=f.L.d.l.getD i cG:=⟨_,U⟩
  rw[<-hrow] at eL ln1
  have hbb:=hbr' k oM
  show Sd _ _ _ _ _ _
  refine bX (λ_=>true) (λg:Nat×(Nat->RatM)=>sG4 n k i row.A row.c (lo i).length row g.1) (λg=>tB2 f n Z0 g.2 X) (λ_=>[]) (λg=>g.1<=(lo i).length/\∀j,j<n->Cr (g.2 j) (aMc lo n y k g.1 j)) (λg=>(lo i).length-g.1) λhM2=>⟨hM2 (0,Z) ⟨aB _,λj hj=>?_⟩ U rS trivial ?_ bL aMd U,λ⟨t,Z'⟩ ⟨ht,hZ'⟩=>vk ⟨λh3=>vk ?_,λh3=>vk ?_⟩⟩
  ·show Cr (Z j) (bkT lo n y k j-0*_)
   rw[dL,yK];exact hZ j hj
  ·exact⟨U,by rw[hrow];rfl,U,U,U,U,U,U,U,U⟩
  all_goals
   replace ht:t<=(lo i).length:=ht
   replace hZ':∀j,j<n->Cr (Z' j) (aMc lo n y k t j):=hZ'
  ·replace h3:(t:Int)<((lo i).length:Nat):=h3
   have htl:t<(lo i).length:=Uc
   have e0:=hvl.2 _ (fN htl)
   have er:=eL.e t (by rw[hl];simp;omega)
   rw[show(Lw i).getD t U6=(lo i).getD t U6 by rw[hl,aC,aV htl,aC]] at er
   obtain⟨j0,hj0⟩:∃j0:Nat,((lo i).getD t U6).1=(j0:Nat):=⟨((lo i).getD t U6).1.toNat,Uc⟩
   have hji:j0<i:=Uc
   have hjn:j0<n:=Uc
   have hix0:(row.l.getD t U6).ix=(j0:Nat):=er.1.trans hj0
   have hev:rb ((lo i).getD t U6).2 F:=(hla i hin).2 _ (fN htl)
   have hb0:rb (aMc lo n y k t j0) W:=by
    unfold aMc
    rcases aVi (l:=lo (n-1-k)) (by rw[<-hi];exact(hla i hin).1) t j0 with h2|h2
    ·rw[h2,dL,yK];exact hbb j0 hjn
    rw[h2];exact hbr' (k+1) hkn j0 hjn
   have hii:aMc lo n y k t i=bkT lo n y k i:=by
    unfold aMc
    rw[<-hi,get_none (a:=(lo i).take t) λe he h4=>by
     have:=(hvl.2 e (cH he)).2.1
     omega,dL,yK]
   have hzi:=hZ' i hin
   rw[hii] at hzi
   have hyi:rb (bkT lo n y k i) Xb:=by
    have e4:=aLn hP (y:=y) (j:=i) (k:=k) hin (d:=n-k) oM oM
    rw[show k+(n-k)=n by omega] at e4
    rw[<-e4,hy,<-hys];exact hyX i hin
   have hk':=bLf (Z' j0) (row.l.getD t U6).v (Z' i) (hZ' j0 hjn) (hb0.le hB) ((Cr.rq er.2 hev).le hF) ((Cr.rq hzi hyi).le oM) ((fW hev hyi).le oM)
   refine⟨t,⟨U,htl⟩,.seq ((List.range 17).map λi=>(i,i==16)),U0,j0,⟨hix0,hjn,eO hjn⟩,_,kM hjn,i,⟨U,hin,eO hin⟩,_,kM hin,[],hk',U,U,U,λg hg=>⟨j0,⟨hix0,hjn,eO hjn⟩,_,fQ hjn,(t+1:Nat),wi,hM2 (t+1,upd Z' j0 g) ⟨⟨htl,λj hj=>?_⟩,show(lo i).length-(t+1)<(lo i).length-t by omega⟩ U rS trivial rS bL aMd U⟩⟩
   show Cr (upd Z' j0 g j) (bkT lo n y k j-Vm.get ((lo (n-1-k)).take (t+1)) (j:Nat)*_)
   rw[<-hi,aMb htl hj0]
   by_cases e:j=j0
   ·subst e
    rw[bF,U3 U]
    have e3:aMc lo n y k t j-((lo i).getD t U6).2*bkT lo n y k i=bkT lo n y k j-(Vm.get ((lo i).take t) (j:Nat)+((lo i).getD t U6).2)*bkT lo n y k i:=by
     unfold aMc
     rw[<-hi];grind
    rw[<-e3];exact hg
   rw[aY e,U2 e,bK,hi];exact hZ' j hj
  replace h3:¬(t:Int)<((lo i).length:Nat):=h3
  obtain rfl:t=(lo i).length:=Uc
  have hZ1:∀j,j<n->Cr (Z' j) (bkT lo n y (k+1) j):=λj hj=>by
   have:=hZ' j hj
   unfold aMc at this
   rw[<-hi,cQ,hi] at this
   exact this
  have hst:bkT lo n y (k+1) i=bkT lo n y n i:=by
   have:=aLn hP (y:=y) (j:=i) (k:=k+1) hin (d:=n-(k+1)) oM oM
   rw[show k+1+(n-(k+1))=n by omega] at this
   exact this.symm
  refine vk ?_
  refine⟨.seq ((List.range 12).map λi=>(i,i==11)),U0,i,⟨U,show i<f.R.l.length by omega⟩,i,⟨U,hin,eO hin⟩,_,kM hin,rw i,⟨hix,hri,eO hri⟩,_,fQ hri,(k+1:Nat),wi,hM (k+1,Z',upd X (rw i) (Z' i)) ⟨⟨hkn,hZ1,λj h4 h5=>?_⟩,show n-(k+1)<n-k by omega⟩ U rS trivial rS bL aMd U⟩
  replace h4:n-(k+1)<=j:=h4
  show Cr (upd X (rw i) (Z' i) (rw j)) (bkT lo n y n j)
  by_cases e:j=i
  ·subst e;rw[bF,<-hst];exact hZ1 j hin
  have e2:rw j≠rw i:=λe2=>e (h.o.rinj j i h5 hin e2)
  rw[aY e2]
  exact hX' j oM h5
 replace h2:¬(k:Int)<(n:Nat):=h2
 obtain rfl:n=k:=Uc
 show Sd _ _ _ _ _ _
 refine aTq tSd 1 3 U U bL bL U ⟨_,swl cD,_,swl cD,_,swl cD,bL,vk ⟨(X,xv),⟨hT,λr hr=>?_⟩,fH ⟨U,U⟩ ⟨U,U⟩ bL (aA (bG cD) (aA (bG cD) aU)) U (cDe cD cD)⟩⟩
 obtain⟨j,hj,rfl⟩:=pL h.o.rlt h.o.rinj r hr
 show Cr (X (rw j)) (xv (rw j))/\rb (xv (rw j)) _
 rw[hxv j hj]
 refine⟨?_,hyX j hj⟩
 rw[hys,<-hy];exact hX' j oM hj
structure MuR (p:ProgM) (q:PrQ) (b:BasM) (By:Nat) (ps:List Rat):Prop where
 ln:ps.length=p.r.l.length
 y0:∀i,i<p.r.l.length->b.r.l.getD i 0=2->lQ ps i=0
 d:∀j,j<p.c.l.length->b.c.l.getD j 0=2->bN (λi=>lQ ps i*Vm.get (q.M i) (j:Nat)) p.r.l.length=q.k j
 rb:rbL ps By
noncomputable def muL (p:ProgM) (b:BasM) (w:Nat->Rat):List Rat:=(List.range p.r.l.length).map (spr (brL b p.r.l.length).length (atN (brL b p.r.l.length)) w)
section mu
variable {p:ProgM} {q:PrQ} {b:BasM} {B X:Nat} {w:Nat->Rat}
theorem aMe {i:Nat} (hi:i<p.r.l.length):lQ (muL p b w) i=spr (brL b p.r.l.length).length (atN (brL b p.r.l.length)) w i:=by unfold lQ muL;simp[hi]
theorem bFo {l:Nat} (hl:l<(brL b p.r.l.length).length):lQ (muL p b w) (atN (brL b p.r.l.length) l)=w l:=by
 have f1:=(rI b p.r.l.length).1
 rw[aMe (f1.lt l hl),aGz hl λl' hl' he=>f1.inj hl' hl he]
theorem aVj {i:Nat} (hi:i<p.r.l.length) (hs:b.r.l.getD i 0=2):lQ (muL p b w) i=0:=by
 have f1:=(rI b p.r.l.length).1
 rw[aMe hi]
 exact aLy λl hl he=>U4 hs (by rw[<-he];exact f1.mem l hl)
theorem bOi (hn:(bcL b p.c.l.length).length=(brL b p.r.l.length).length) (hw:∀k,k<(brL b p.r.l.length).length->bN (λi=>crA p q b i k*w i) (brL b p.r.l.length).length=q.k (atN (bcL b p.c.l.length) k)) (hwX:∀l,l<(brL b p.r.l.length).length->rb (w l) X):MuR p q b (1+X) (muL p b w):=by
 have e1:=(sU b p.c.l.length).1
 have f1:=(rI b p.r.l.length).1
 refine⟨by unfold muL;simp,λi hi hs=>aVj hi hs,λj hj hs=>?_,λx hx=>?_⟩
 ·obtain⟨k,hk,rfl⟩:=e1.all j hj hs
  rw[<-hw k oM,aZ (g:=λi=>Vm.get (q.M i) (atN (bcL b p.c.l.length) k:Nat)*spr (brL b p.r.l.length).length (atN (brL b p.r.l.length)) w i) λi hi=>by rw[aMe hi];grind]
  exact zM (c:=p.r.l.length) (f:=λi=>Vm.get (q.M i) (atN (bcL b p.c.l.length) k:Nat)) λl hl=>f1.lt l hl
 unfold muL at hx
 obtain⟨i,hi,rfl⟩:=bZ.1 hx
 have hi':=cJ.1 hi
 rw[<-aMe (w:=w) hi']
 by_cases hs:b.r.l.getD i 0=2
 ·rw[aVj hi' hs];exact wJ oM
 obtain⟨l,hl,rfl⟩:=f1.all i hi' hs
 rw[bFo hl];exact(hwX l hl).le oM
end mu
abbrev bUe (x:CorM) (p:ProgM) (X:Nat->RatM):BL:=[(82,0,x.C),(25,0,p.C),(53,3,rtC p.r.l.length X)]
theorem aVk {x:CorM} {p:ProgM} {X:Nat->RatM}:scB 3 (bUe x p X):=aA U (aA U (aA (bG cD) aU))
abbrev bUf (x:CorM) (p:ProgM) (X Z:Nat->RatM):BL:=bUe x p X++[(53,3,rtC x.c.l.length Z)]
theorem aVl {x:CorM} {p:ProgM} {X Z:Nat->RatM}:scB 4 (bUf x p X Z):=aA U (aA U (aA (bG cD) (aA (bG cD) aU)))
abbrev bZo (x:CorM) (p:ProgM) (X Z W:Nat->RatM):BL:=bUf x p X Z++[(53,3,rtC x.c.l.length W)]
theorem aVm {x:CorM} {p:ProgM} {X Z W:Nat->RatM}:scB 5 (bZo x p X Z W):=aA U (aA U (aA (bG cD) (aA (bG cD) (aA (bG cD) aU))))
abbrev cDf (p:ProgM) (k:Nat):List (Nat×DV):=[(20,.c (iC k)),(19,.c (iC (p.r.l.length:Nat))),(2,.c (.p 0 0)),(3,.c (.p 1 0)),(5,.c (.s 2 p.r.l.length))]
abbrev cDg (x:CorM) (p:ProgM) (k:Nat):List (Nat×DV):=[(35,.c (iC k)),(33,.c (cI x.c)),(34,.c (iC (x.c.l.length:Nat))),(2,.c (.p 0 0)),(3,.c (.p 1 0)),(5,.c (.s 2 p.r.l.length)),(7,.c (.s 3 x.c.l.length))]
abbrev cDh (x:CorM) (p:ProgM) (k:Nat):List (Nat×DV):=[(60,.c (iC k)),(58,.c (cI x.r)),(59,.c (iC (x.r.l.length:Nat))),(5,.c (.s 2 p.r.l.length)),(10,.c (.s 4 x.c.l.length))]
theorem bZp (x:CorM) (p:ProgM) (b:BasM) {q:PrQ} {B Xq:Nat} {rw cl:Nat->Nat} {Lw Up:Nat->List En} (h:PrV p q B) (hk:∀j,j<p.c.l.length->rb (q.k j) B) (hI:CorI p q b (bd B ((brL b p.r.l.length).length-1)) x rw cl Lw Up) (hXb:∀x:Nat->Rat,(∀k,k<(brL b p.r.l.length).length->bN (λi=>crA p q b i k*x i) (brL b p.r.l.length).length=q.k (atN (bcL b p.c.l.length) k))->∀l,l<(brL b p.r.l.length).length->rb (x l) Xq) (hS:wX (bd B ((brL b p.r.l.length).length-1)) B Xq (brL b p.r.l.length).length<=4398046511104):Ctr pgQ 66 [] [.a x.C,.a p.C] [] (λg:Sl RatM×List Rat=>⟨.c (dS g.1),[],Rl g.1.l g.2/\MuR p q b (1+Xq) g.2⟩):=by
 obtain⟨m,hm⟩:∃m,m=(brL b p.r.l.length).length:=⟨_,U⟩
 obtain⟨F,hF⟩:∃F,F=bd B (m-1):=⟨_,U⟩
 rw[<-hm,<-hF] at hS
 have hIf:=hI.f
 rw[<-hm,<-hF] at hIf
 have hpc:=h.c
 have hpr:=h.r
 have hBB:=h.hB
 have h1:=h.h1
 have hbok:=hI.v.ok
 have hxr:x.r.l.length=m:=by rw[hI.r,hm]
 have hxc:x.c.l.length=m:=by rw[hI.c,hI.v.n,hm]
 obtain⟨e1,e2⟩:=sU b p.c.l.length
 obtain⟨f1,f2⟩:=rI b p.r.l.length
 have hml:m<=p.r.l.length:=by rw[hm];exact fA
 have hkap:∀l,l<x.c.l.length->x.c.l.getD l 0=(atN (bcL b p.c.l.length) l:Nat)/\atN (bcL b p.c.l.length) l<p.c.l.length/\b.c.l.getD (atN (bcL b p.c.l.length) l) 0=2:=λl hl=>by
  have hl':l<(bcL b p.c.l.length).length:=by rw[<-hI.c];exact hl
  exact⟨by rw[hI.c];exact e2 l hl',e1.lt l hl',e1.mem l hl'⟩
 have hrho:∀l,l<x.r.l.length->x.r.l.getD l 0=(atN (brL b p.r.l.length) l:Nat)/\atN (brL b p.r.l.length) l<p.r.l.length/\b.r.l.getD (atN (brL b p.r.l.length) l) 0≠2:=λl hl=>by
  have hl':l<(brL b p.r.l.length).length:=by rw[<-hI.r];exact hl
  exact⟨by rw[hI.r];exact f2 l hl',f1.lt l hl',f1.mem l hl'⟩
 have hrinj:∀l l',l<x.r.l.length->l'<x.r.l.length->atN (brL b p.r.l.length) l=atN (brL b p.r.l.length) l'->l=l':=λl l' hl hl' he=>f1.inj (by rw[<-hI.r];exact hl) (by rw[<-hI.r];exact hl') he
 refine cw func66 (⟨p.r.l.length,⟨U,U,by show 56*_<=_;omega,by simp only[maxLen];omega⟩,?_⟩)
 show Sd _ _ _ _ _ _
 refine gJ tSd 2 (rtC p.r.l.length λ_=>U6) U jI.1 jI.2 ?_
 refine bX (λ_=>true) (λg:Nat×(Nat->RatM)=>cDf p g.1) (λg=>bUe x p g.2) (λ_=>[]) (λg=>g.1<=p.r.l.length/\∀j,j<g.1->Cr (g.2 j) 0) (λg=>p.r.l.length-g.1) λhM=>⟨hM (0,λ_=>U6) ⟨aB _,λj hj=>U4 hj (aF _)⟩ U ⟨U,U,U⟩ U1 rS bL aVk U,λ⟨k,X⟩ ⟨hk1,hX⟩=>vk ⟨λh2=>vk ?_,λh2=>vk ?_⟩⟩
 all_goals
  replace hk1:k<=p.r.l.length:=hk1
  replace hX:∀j,j<k->Cr (X j) 0:=hX
 ·replace h2:(k:Int)<(p.r.l.length:Nat):=h2
  have hkn:k<p.r.l.length:=Uc
  exact⟨[],zJ (z:=0) dC,U,U,U,λg hg=>⟨k,⟨U,hkn,eO hkn⟩,_,fQ hkn,(k+1:Nat),wi,hM (k+1,upd X k g) ⟨⟨hkn,λj hj=>by
   show Cr (upd X k g j) 0
   by_cases e:j=k
   ·rw[e,bF];exact hg
   rw[aY e];exact hX j (by have:j<k+1:=hj;omega)⟩,show p.r.l.length-(k+1)<p.r.l.length-k by omega⟩ U ⟨U,U,U⟩ U1 rS bL aVk U⟩⟩
 replace h2:¬(k:Int)<(p.r.l.length:Nat):=h2
 obtain rfl:k=p.r.l.length:=Uc
 refine vk ⟨x.c.l.length,⟨U,U,by show 56*_<=_;omega,by simp only[maxLen];omega⟩,?_⟩
 show Sd _ _ _ _ _ _
 refine gJ tSd 3 (rtC x.c.l.length λ_=>U6) U jI.1 jI.2 ?_
 refine bX (λ_=>true) (λg:Nat×(Nat->RatM)=>cDg x p g.1) (λg=>bUf x p X g.2) (λ_=>[]) (λg=>g.1<=x.c.l.length/\∀j,j<g.1->Rq (g.2 j) (q.k (atN (bcL b p.c.l.length) j)) B) (λg=>x.c.l.length-g.1) λhM=>⟨hM (0,λ_=>U6) ⟨aB _,λj hj=>U4 hj (aF _)⟩ U rS trivial rS bL aVl U,λ⟨k,Z⟩ ⟨hk1,hZ⟩=>vk ⟨λh3=>vk ?_,λh3=>vk ?_⟩⟩
 all_goals
  replace hk1:k<=x.c.l.length:=hk1
  replace hZ:∀j,j<k->Rq (Z j) (q.k (atN (bcL b p.c.l.length) j)) B:=hZ
 ·replace h3:(k:Int)<(x.c.l.length:Nat):=h3
  have hkn:k<x.c.l.length:=Uc
  obtain⟨c1,c2,c3⟩:=hkap k hkn
  refine⟨k,⟨U,hkn⟩,atN (bcL b p.c.l.length) k,⟨c1,c2⟩,k,⟨U,hkn,eO hkn⟩,_,fQ hkn,(k+1:Nat),wi,hM (k+1,upd Z k (p.c.l.getD (atN (bcL b p.c.l.length) k) U6).k) ⟨⟨hkn,λj hj=>?_⟩,show x.c.l.length-(k+1)<x.c.l.length-k by omega⟩ U rS trivial rS bL aVl U⟩
  show Rq (upd Z k _ j) _ _
  by_cases e:j=k
  ·rw[e,bF];exact(h.rd.c _ c2).k
  rw[aY e];exact hZ j (by have:j<k+1:=hj;omega)
 replace h3:¬(k:Int)<(x.c.l.length:Nat):=h3
 obtain rfl:k=x.c.l.length:=Uc
 have hIf':LuG x.f (zS p q b) x.c.l.length rw cl Lw Up F:=by rw[hxc];exact hIf
 have hF1:1<=F:=by rw[hF];exact wQ h1 _
 have hsl:∀w,TEq (enM (zS p q b)) x.c.l.length (λk=>q.k (atN (bcL b p.c.l.length) k)) w->∀k,k<(brL b p.r.l.length).length->bN (λi=>crA p q b i k*w i) (brL b p.r.l.length).length=q.k (atN (bcL b p.c.l.length) k):=λw hw k hk'=>by
  have s1:bN (λr=>w r*enM (zS p q b) r k) x.c.l.length=q.k (atN (bcL b p.c.l.length) k):=hw k oM
  rw[<-s1,hxc,<-hm]
  refine aZ λr hr=>?_
  show _=w r*Vm.get (jT _ _ (q.M (atN (brL b p.r.l.length) r))) _
  rw[pO (λk l hkl hl=>e1.mono k l hkl hl) (h.v _ (f1.lt r oM)).2.1 (by rw[hI.v.n];exact hk')];grind
 have hct:=bLg x.f Z (bv:=λk=>q.k (atN (bcL b p.c.l.length) k)) (B:=B) (Xb:=Xq) hIf' hF1 oM (λk hk'=>⟨hZ k hk',hk _ (hkap k hk').2.1⟩) (λw hw c hc=>hXb w (hsl w hw) c oM) (by rw[hxc];exact hS)
 refine vk ⟨none,[3],hct,U,U,U,λ⟨W,w⟩ ⟨hT,hW⟩=>?_⟩
 have hw1:=hsl w hT
 have hmu:=bOi (p:=p) (q:=q) (b:=b) hI.v.n hw1 (hXb w hw1)
 replace hW:∀r,r<x.c.l.length->Cr (W r) (w r)/\rb (w r) Xq:=hW
 show Sd _ _ _ _ _ _
 refine bX (λ_=>true) (λg:Nat×(Nat->RatM)=>cDh x p g.1) (λg=>bZo x p g.2 Z W) (λ_=>[]) (λg=>g.1<=x.r.l.length/\(∀l,l<g.1->Cr (g.2 (atN (brL b p.r.l.length) l)) (w l))/\∀j,j<p.r.l.length->(∀l,l<g.1->atN (brL b p.r.l.length) l≠j)->Cr (g.2 j) 0) (λg=>x.r.l.length-g.1) λhM3=>⟨hM3 (0,X) ⟨aB _,λl hl=>U4 hl (aF _),λj hj _=>hX j hj⟩ U rS trivial rS bL aVm U,λ⟨k,X'⟩ ⟨hk2,hb1,hb2⟩=>vk ⟨λh6=>vk ?_,λh6=>vk ?_⟩⟩
 all_goals
  replace hk2:k<=x.r.l.length:=hk2
  replace hb1:∀l,l<k->Cr (X' (atN (brL b p.r.l.length) l)) (w l):=hb1
  replace hb2:∀j,j<p.r.l.length->(∀l,l<k->atN (brL b p.r.l.length) l≠j)->Cr (X' j) 0:=hb2
 ·replace h6:(k:Int)<(x.r.l.length:Nat):=h6
  have hkn:k<x.r.l.length:=Uc
  have hkc:k<x.c.l.length:=Uc
  obtain⟨c1,c2,c3⟩:=hrho k hkn
  refine⟨k,⟨U,hkn⟩,k,⟨U,hkc,eO hkc⟩,_,kM hkc,atN (brL b p.r.l.length) k,⟨c1,c2,eO c2⟩,_,fQ c2,(k+1:Nat),wi,hM3 (k+1,upd X' (atN (brL b p.r.l.length) k) (W k)) ⟨⟨hkn,λl hl=>?_,λj hj hno=>?_⟩,show x.r.l.length-(k+1)<x.r.l.length-k by omega⟩ U rS trivial rS bL aVm U⟩
  ·show Cr (upd X' _ _ (atN (brL b p.r.l.length) l)) (w l)
   by_cases e:l=k
   ·rw[e,bF];exact(hW k hkc).1
   have hl':l<k+1:=hl
   rw[aY λhe=>e (hrinj l k oM hkn he)];exact hb1 l oM
  show Cr (upd X' _ _ j) _
  rw[aY λhe=>hno k (aS k) he.symm];exact hb2 j hj λl hl=>hno l (dY hl)
 replace h6:¬(k:Int)<(x.r.l.length:Nat):=h6
 obtain rfl:k=x.r.l.length:=Uc
 have hcr:∀i,i<p.r.l.length->Cr (X' i) (lQ (muL p b w) i):=λi hi=>by
  by_cases hs:b.r.l.getD i 0=2
  ·rw[aVj hi hs]
   exact hb2 i hi λl hl he=>(hrho l hl).2.2 (by rw[he];exact hs)
  obtain⟨l,hl,rfl⟩:=f1.all i hi hs
  rw[bFo hl];exact hb1 l (by rw[hI.r];exact hl)
 refine nS 5 2 (λj=>((fZ X' p.r.l.length).getD j U6).C) U U (λj hj=>nZ j hj) (by rw[jE (P:=λj=>(X' j).C) (e:=3) λ_ _=>U]) bL cD bL λA2 c2 _ _=>⟨(λc hc=>bJ (cD c hc)),(λc hc=>bJ (cD c hc)),vk ⟨(⟨A2,c2,fZ X' p.r.l.length⟩,muL p b w),⟨⟨?_,λj hj=>?_⟩,hmu⟩,aI qH U tV⟩⟩
 ·show(fZ X' p.r.l.length).length=_
  rw[jS,hmu.ln]
 have hj':j<p.r.l.length:=by rw[hmu.ln] at hj;exact hj
 show Cr ((fZ X' p.r.l.length).getD j U6) (lQ (muL p b w) j)
 rw[nC hj'];exact hcr j hj'
structure PrG (p:ProgM) (q:PrQ) (B:Nat):Prop where
 v:PrV p q B
 k:∀j,j<p.c.l.length->rb (q.k j) B
 rl:p.r.l.length<=8
 cl:p.c.l.length<=8
 bB:B<=1048576
theorem aEu {B B':Nat} (h:B<=B'):∀k,bd B k<=bd B' k
 |0=>h
 |k+1=>by
  have:=aEu h k
  show 4*bd B k+1<=4*bd B' k+1
  omega
theorem bZq {F F' X X' n n':Nat} (h1:F<=F') (h2:X<=X') (h3:n<=n'):zX F X n<=zX F' X' n':=Nat.add_le_add_right (gB oM oM) _
theorem bOj {F F' B B' X X' n n':Nat} (h1:F<=F') (h2:X<=X') (h3:n<=n') (h4:B<=B'):wX F B X n<=wX F' B' X' n':=by
 have h5:=bZq h1 h2 h3
 have h6:(n+1)*(F+zX F X n+1)<=(n'+1)*(F'+zX F' X' n'+1):=gB oM oM
 show B+_+zX F X n+3<=B'+_+zX F' X' n'+3
 omega
theorem bOk {n B B':Nat} (h:n<=8) (hB:B<=B'):2*sgB n B<=2*sgB 8 B':=by
 have h1:n*((n+2)*B+4)<=8*((8+2)*B'+4):=gB h (Nat.add_le_add_right (gB oM hB) _)
 show 2*(_+1)<=2*(_+1)
 omega
section prg
variable {p:ProgM} {q:PrQ} {b:BasM} {B:Nat} (h:PrG p q B)
include h
theorem PrG.f {k:Nat} (hk:k<=8):bd B k<=4398046511104:=aJ (aEu h.bB k) (aJ (mV hk) (by decide+kernel))
theorem PrG.br:2+B+p.c.l.length*(B+B+1)<=17825802:=by
 have h1:=h.bB
 have h2:p.c.l.length*(B+B+1)<=8*(1048576+1048576+1):=gB h.cl oM
 omega
theorem PrG.m:(brL b p.r.l.length).length<=8:=aJ fA h.rl
theorem PrG.cA {k:Nat} (hk:k<(brL b p.r.l.length).length) (l:Nat):rb (crA p q b k l) B:=by
 have r2:=(rI b p.r.l.length).1.lt k hk
 exact mK (h.v.v _ r2).2.1 (h.v.e _ r2) h.v.h1
theorem PrG.ptx (hb:BVal p q b):∀x:Nat->Rat,(∀k,k<(brL b p.r.l.length).length->bN (λl=>crA p q b k l*x l) (brL b p.r.l.length).length=crB p q b k)->∀l,l<(brL b p.r.l.length).length->rb (x l) 2852128386:=λx hx l hl=>
 (bFn (n:=(brL b p.r.l.length).length) (B:=2+B+p.c.l.length*(B+B+1)) (by have:=h.m (b:=b);omega) (λi j hi hj=>(h.cA hi j).le oM) (λi hi=>aPg (b:=b) h.v ((rI b p.r.l.length).1.lt i hi) (aH _)) (aEt h.v hb) hx l hl).le (aJ (bOk h.m h.br) (by decide+kernel))
theorem PrG.mux (hb:BVal p q b):∀x:Nat->Rat,(∀k,k<(brL b p.r.l.length).length->bN (λi=>crA p q b i k*x i) (brL b p.r.l.length).length=q.k (atN (bcL b p.c.l.length) k))->∀l,l<(brL b p.r.l.length).length->rb (x l) 2852128386:=λx hx l hl=>
 (bFn (n:=(brL b p.r.l.length).length) (B:=B) (by have:=h.m (b:=b);omega) (λi j hi hj=>h.cA hj i) (λi hi=>h.k _ ((sU b p.c.l.length).1.lt i (by rw[hb.n];exact hi))) (aEt h.v hb).tr hx l hl).le (aJ (bOk h.m (aJ h.bB dC)) (show 2*sgB 8 17825802<=2852128386 by decide+kernel))
theorem PrG.fm:bd B ((brL b p.r.l.length).length-1)<=bd 1048576 7:=aJ (aEu h.bB _) (mV (by have:=h.m (b:=b);omega))
end prg
theorem BVal.m {p:ProgM} {q:PrQ} {b:BasM} (h:BVal p q b):(brL b p.r.l.length).length<=p.c.l.length:=by rw[<-h.n];exact fA
abbrev PtL (p:ProgM) (q:PrQ) (b:BasM) (x:Sl RatM) (qs:List Rat):Prop:=Rl x.l qs/\PtR p q b 2900000000 qs
abbrev MuL (p:ProgM) (q:PrQ) (b:BasM) (y:Sl RatM) (ps:List Rat):Prop:=Rl y.l ps/\MuR p q b 2900000000 ps
theorem bFp (p:ProgM) (b:BasM) {q:PrQ} {B:Nat} (h:PrG p q B) (hb:BVal p q b):Ctr pgQ 14 [] [.a p.C,.a b.C] [] (λg:Sl RatM×List Rat=>⟨.t [.c (dS g.1),.c (iC 0)],[],PtL p q b g.1 g.2⟩):=by
 refine cw func14 (⟨[],bFi p b h.v (by have:=h.rl;omega) (h.f (by have:=h.rl;omega)),U,U,U,λg hg=>?_⟩)
 cases g with
 |none=>exact U4 hb hg
 |some g=>
  obtain⟨x,rw',cl,Lw,Up⟩:=g
  have hB:=h.bB
  exact⟨λhh=>U4 U hh,λ_=>vk ⟨[],bZm x p b h.v hg (h.ptx hb) (aJ (bOj h.fm (aH _) h.m h.br) (by decide+kernel)),U,U,U,λg hg=>⟨g,⟨hg.1,hg.2.ln,hg.2.x0,hg.2.ti,λr hr=>(hg.2.rb r hr).le oM⟩,aI ⟨U,U⟩ U tV⟩⟩⟩
theorem bOl (p:ProgM) (b:BasM) {q:PrQ} {B:Nat} (h:PrG p q B) (hb:BVal p q b):Ctr pgQ 25 [] [.a p.C,.a b.C] [] (λg:Sl RatM×List Rat=>⟨.t [.c (dS g.1),.c (iC 0)],[],MuL p q b g.1 g.2⟩):=by
 refine cw func25 (⟨[],bFi p b h.v (by have:=h.rl;omega) (h.f (by have:=h.rl;omega)),U,U,U,λg hg=>?_⟩)
 cases g with
 |none=>exact U4 hb hg
 |some g=>
  obtain⟨x,rw',cl,Lw,Up⟩:=g
  exact⟨λhh=>U4 U hh,λ_=>vk ⟨[],bZp x p b h.v h.k hg (h.mux hb) (aJ (bOj h.fm (aH _) h.m (aJ h.bB dC)) (show wX (bd 1048576 7) 17825802 2852128386 8<=_ by decide+kernel)),U,U,U,λg hg=>⟨g,⟨hg.1,hg.2.ln,hg.2.y0,hg.2.d,λr hr=>(hg.2.rb r hr).le dC⟩,aI ⟨U,U⟩ U tV⟩⟩⟩
theorem PrG.px {p:ProgM} {q:PrQ} {B:Nat} (h:PrG p q B) {b:BasM} {x:Sl RatM} {qs:List Rat} (hx:PtL p q b x qs):PrX p q x qs B 2900000000:=⟨h.v,hx.1,hx.2.ln,hx.2.rb,by
 have h1:=h.cl
 have h2:=h.bB
 have h3:(p.c.l.length+1)*(B+2900000000+1)<=101*(B+2900000000+1):=aT _ oM
 omega⟩
theorem PrG.py {p:ProgM} {q:PrQ} {B:Nat} (h:PrG p q B) {b:BasM} {y:Sl RatM} {ps:List Rat} (hy:MuL p q b y ps):PrY p q y ps B 2900000000:=⟨h.v,hy.1,hy.2.ln,hy.2.rb,by decide⟩
theorem PrG.pz {p:ProgM} {q:PrQ} {B:Nat} (h:PrG p q B) {b:BasM} {y:Sl RatM} {ps:List Rat} (hy:MuL p q b y ps):PrZ p q y ps B 2900000000:=⟨h.py hy,h.k,by
 have h1:=h.rl
 have h2:=h.bB
 have h3:(p.r.l.length+1)*(2900000000+B+1)<=13*(2900000000+B+1):=aT _ oM
 omega⟩
theorem bOm (p:ProgM) (b:BasM) {q:PrQ} {B:Nat} (h:PrG p q B) (hb:BVal p q b):Ctr pgQ 21 [] [.a p.C,.a b.C] [] (λg:Sl RatM×List Rat=>⟨pC (Fsb p q g.2),[],PtL p q b g.1 g.2⟩):=by
 refine cw func21 (⟨[],bFp p b h hb,U,U,U,λg hg=>?_⟩)
 exact⟨λ_=>⟨[],bYl p g.1 (h.px hg),U,U,U,λ_ _=>⟨g,hg,aI iO U tV⟩⟩,λhh=>U4 U hh⟩
def Dbr (s:Int) (d:Rat):Prop:=(sgn d.num<0/\s≠1)\/(0<sgn d.num/\s≠0)
def DuR (p:ProgM) (q:PrQ) (b:BasM) (ps:List Rat) (n:Nat):Prop:=∀j,j<n->¬(b.c.l.getD j 0=2\/Fxd (p.c.l.getD j U6) (q.l j) (q.u j))->¬Dbr (b.c.l.getD j 0) (kF q ps p.r.l.length j)
abbrev duB (p:ProgM) (b:BasM):BL:=[(25,0,p.C),(28,0,b.C)]
theorem aMf {p:ProgM} {b:BasM}:scB 2 (duB p b):=aA U (aA U aU)
abbrev duG (p:ProgM) (d:Sl RatM) (k:Nat):List (Nat×DV):=[(35,.c (iC k)),(33,.c (aBu p.c)),(34,.c (iC (p.c.l.length:Nat))),(2,.c (.p 0 0)),(3,.c (.p 1 0)),(7,.c (dS d))]
theorem bOn (p:ProgM) (b:BasM) {q:PrQ} {B:Nat} (h:PrG p q B) (hb:BVal p q b):Ctr pgQ 22 [] [.a p.C,.a b.C] [] (λg:Sl RatM×List Rat=>⟨pC (Sgd p g.2/\DuR p q b g.2 p.c.l.length),[],MuL p q b g.1 g.2⟩):=by
 have hpc:=h.v.c
 have hBB:=h.v.hB
 refine cw func22 (⟨[],bOl p b h hb,U,U,U,λg hg=>?_⟩)
 refine⟨λhh=>U4 U hh,λ_=>⟨[],bYo p g.1 (h.py hg),U,U,U,λ_ _=>⟨λh2=>vk ?_,λh2=>vk ⟨[],bYq p g.1 (h.pz hg),U,U,U,λd ⟨hd1,hd2⟩=>?_⟩⟩⟩⟩
 ·replace h2:¬Sgd p g.2:=h2
  exact⟨g,hg,aI (ff λhh=>h2 hh.1) U tV⟩
 replace h2:Sgd p g.2:=cR.1 h2
 replace hd1:d.l.length=p.c.l.length:=hd1
 replace hd2:∀j,j<p.c.l.length->Cr (d.l.getD j U6) (kF q g.2 p.r.l.length j):=hd2
 have hbc:=hb.ok.c
 show Sd _ _ _ _ _ _
 refine bX (λ_=>true) (λk:Nat=>duG p d k) (λ_=>duB p b) (λ_=>[]) (λk=>k<=p.c.l.length/\DuR p q b g.2 k) (λk=>p.c.l.length-k) λhM=>⟨hM 0 ⟨aB _,λj hj=>U4 hj (aF _)⟩ U ⟨U,U⟩ U1 rS bL aMf U,λk ⟨hk,hD⟩=>vk ⟨λh3=>vk ?_,λh3=>vk ?_⟩⟩
 ·replace h3:(k:Int)<(p.c.l.length:Nat):=h3
  have hkn:k<p.c.l.length:=Uc
  have hcol:=h.v.rd.c k hkn
  have nxt:(¬(b.c.l.getD k 0=2\/Fxd (p.c.l.getD k U6) (q.l k) (q.u k))->¬Dbr (b.c.l.getD k 0) (kF q g.2 p.r.l.length k))->DuR p q b g.2 (k+1):=λhh j hj=>by
   rcases bR (cB hj) with e|e
   ·exact hD j e
   subst e;exact hh
  have go:DuR p q b g.2 (k+1)->True:=λ_=>trivial
  have hz:=(h.pz hg).rd hkn p.r.l.length (aH _)
  have hzb:=(h.pz hg).b
  have hzq:Rq (d.l.getD k U6) (kF q g.2 p.r.l.length k) 4398046511104:=Cr.rq (hd2 k hkn) (hz.le (by rw[dH] at hzb;omega))
  refine⟨k,⟨U,hkn⟩,k,⟨U,Uc⟩,⟨λhq=>?_,λhq=>⟨[],bYf (p.c.l.getD k U6) hcol hBB,U,U,U,λ_ _=>⟨λh4=>vk ?_,λh4=>vk ⟨k,⟨U,Uc⟩,[],kV (d.l.getD k U6) hzq,U,U,U,λ_ _=>?_⟩⟩⟩⟩⟩
  ·refine⟨(k+1:Nat),wi,hM (k+1) ⟨⟨hkn,?_⟩,show p.c.l.length-(k+1)<p.c.l.length-k by omega⟩ U ⟨U,U⟩ U1 rS bL aMf U⟩
   exact nxt λhh=>U4 (.inl hq) hh
  ·refine⟨(k+1:Nat),wi,hM (k+1) ⟨⟨hkn,?_⟩,show p.c.l.length-(k+1)<p.c.l.length-k by omega⟩ U ⟨U,U⟩ U1 rS bL aMf U⟩
   exact nxt λhh=>U4 (.inr h4) hh
  refine⟨k,λ_=>⟨U,Uc⟩,k,λ_=>⟨U,Uc⟩,⟨λh5=>vk ?_,λh5=>vk ?_⟩⟩
  ·replace h5:Dbr (b.c.l.getD k 0) (kF q g.2 p.r.l.length k):=h5
   exact⟨g,hg,aI (ff λhh=>hh.2 k hkn (λh6=>h6.elim hq h4) h5) U tV⟩
  replace h5:¬Dbr (b.c.l.getD k 0) (kF q g.2 p.r.l.length k):=h5
  refine⟨(k+1:Nat),wi,hM (k+1) ⟨⟨hkn,?_⟩,show p.c.l.length-(k+1)<p.c.l.length-k by omega⟩ U ⟨U,U⟩ U1 rS bL aMf U⟩
  exact nxt λ_=>h5
 replace h3:¬(k:Int)<(p.c.l.length:Nat):=h3
 obtain rfl:k=p.c.l.length:=Uc
 exact vk ⟨g,hg,aI (tt ⟨h2,hD⟩) U tV⟩
theorem _root_.Go.Vy.CtrF.cl2 {P:Program} {q:FuncId} {cl cl':List Bool} {al:List DV} {bl:BL} {fl:List Fam} {σ:Type} {R:σ->OutF} (h:CtrF P q cl al bl fl R) (hb:ClB cl' bl) (hc:∀g,(R g).C->ClB cl' (R g).bl):CtrF P q cl' al bl fl R:=⟨h.ent,hb,λD w vals hv hD hF=>(h.run D w vals hv hD hF).mono λe w' ⟨v,he,g,ρ',c1,c2,c3,_,c5⟩=>⟨v,he,g,ρ',c1,c2,c3,hc g c1,c5⟩⟩
theorem aBy {P:Nat->Prop}:∀n,(gS P n).length+(gS (λi=>¬P i) n).length=n
 |0=>rfl
 |n+1=>by
  have ih:=aBy (P:=P) n
  by_cases h:P n
  ·rw[gY h,jO (P:=λi=>¬P i) (λhh=>hh h),aD];show _+1+_=_;omega
  rw[jO h,gY (P:=λi=>¬P i) h,aD];show _+(_+1)=_;omega
noncomputable def lfO (st:Sl Int) (n:Nat):List Int:=gS (rA st) n++gS (λi=>¬rA st i) n
theorem wS {st:Sl Int} {n:Nat}:(lfO st n).length=n:=by unfold lfO;rw[aD];exact aBy n
theorem aVn {n j:Nat} {P:Nat->CV} (hj:j<n):((eA n P).drop (j*1)).take 1=[P j]:=by
 have h1:=eD (P:=P) hj
 rw[bE] at h1
 rw[bE,dK (by rw[dD];exact hj)]
 rw[aG (by rw[dD];exact hj)] at h1
 injection h1 with h1
 rw[h1];rfl
theorem bFq {L:List Int} {n:Nat} (h:L.length=n):L.map iC=eA n λk=>iC (L.getD k 0):=by
 unfold eA
 refine jZ (by simp[h]) λi h1 h2=>?_
 have hi:i<L.length:=by simpa using h1
 simp[hi]
def rvI (O:List Int) (n i k:Nat):Int:=O.getD (if k<i\/n<=k+i then n-1-k else k) 0
theorem bLh {O:List Int} {n i k:Nat} (hn:O.length=n) (hi:n<=2*i+1) (hk:k<n):rvI O n i k=O.reverse.getD k 0:=by
 unfold rvI
 have e:(if k<i\/n<=k+i then n-1-k else k)=n-1-k:=by
  split
  ·rfl
  omega
 rw[e,aC,aC,List.getElem?_reverse oM,hn]
abbrev lfB (st:Sl Int) (n:Nat) (O:List Int) (i:Nat):BL:=[(26,0,[cI st]),(86,0,[.f 96 [] [(0,0)]]),(3,1,eA n λk=>iC (rvI O n i k))]
theorem bFr {st:Sl Int} {n:Nat} {O:List Int} {i:Nat}:scB 3 (lfB st n O i):=aA U (aA U (aA (bG (bD λ_ _=>U)) aU))
abbrev lfG (n i:Nat):List (Nat×DV):=[(7,.c (iC i)),(8,.c (iC ((n:Int)-1-(i:Nat)))),(6,.c (.s 2 n))]
open Classical in
theorem bLi (st:Sl Int) (n:Nat) (hn:n<=4096):Ctr pgQ 51 [] [.c (cI st),.c (iC n)] [] (λg:Sl Int=>⟨.c (cI g),[],g.l=(lfO st n).reverse⟩):=by
 have n1:Ctr pgQ 43 [true,true] [.c (iC n),.c (.f 96 [] [(0,0)])] [(26,0,[cI st])] (λ_:Unit=>⟨.c (.s 1 (fI (rA st) n).length),[(26,0,[cI st]),(3,1,(fI (rA st) n).map iC)],True⟩):=(bOa (.i st) 96 n (rA st) hn λi _=>bEz st i).cl2 (ClB.cons (λ_=>U) λi T es l hi=>by cases hi) λ_ _=>ClB.cons (λ_=>U) (eW (aX.2 (aW _)))
 have n2:Ctr pgQ 43 [false,true,true] [.c (iC n),.c (.f 97 [] [(0,0)])] (KpS.t st).B (λ_:Unit=>⟨.c (.s 2 (fI (λi=>¬rA st i) n).length),(KpS.t st).B++[(3,1,(fI (λi=>¬rA st i) n).map iC)],True⟩):=(bOa (.t st) 97 n (λi=>¬rA st i) hn λi _=>bTs st i).cl2 (ClB.cons (λh=>by cases h) (ClB.cons (λ_=>U) λi T es l hi=>by cases hi)) λ_ _=>ClB.cons (λh=>by cases h) (ClB.cons (λ_=>U) (eW (aX.2 (aW _))))
 have l1:(fI (rA st) n).length<=n:=pN n
 have l2:(fI (λi=>¬rA st i) n).length<=n:=pN n
 refine cw func51 (⟨[0],n1,U,U,U,λ_ _=>⟨[1,0],n2,U,U,U,λ_ _=>?_⟩⟩)
 have hO:(fI (rA st) n).map iC++(fI (λi=>¬rA st i) n).map iC=eA n λk=>iC (rvI (lfO st n) n 0 k):=by
  rw[<-bA,tX,tX]
  exact(bFq wS).trans (gM λk hk=>by unfold rvI;rw[U2 oM])
 have hlen:(fI (rA st) n).length+(fI (λi=>¬rA st i) n).length=n:=by rw[tX,tX];exact aBy n
 refine⟨⟨by rw[aK,bE],by rw[aK,bE],by simp only[maxLen];omega,by show(_+_)*8<=_;omega,λc hc=>(aO.1 hc).elim (λh=>bJ (aW _ c h)) λh=>bJ (aW _ c h)⟩,(λc hc=>bJ (aW _ c hc)),(n:Int)-1,wi (h:=⟨by show(n:Int)-1=(((fI (rA st) n).length+(fI (λi=>¬rA st i) n).length:Nat):Int)-1;rw[hlen],by show _<=(((fI (rA st) n).length+(fI (λi=>¬rA st i) n).length:Nat):Int)-1;omega,by show(((fI (rA st) n).length+(fI (λi=>¬rA st i) n).length:Nat):Int)-1<=_;omega⟩),?_⟩
 show Sd _ _ _ _ _ _
 refine bX (λ_=>true) (λi:Nat=>lfG n i) (λi=>lfB st n (lfO st n) i) (λ_=>[]) (λi=>i<=n) (λi=>n-i) λhM=>⟨hM 0 (aB _) U ⟨U,U,U5 (λl=>((3,1,l):TypeId×Nat×List CV)) hO⟩ U1 ⟨U,?_,hlen⟩ bL bFr U,λi hi=>vk ⟨λh2=>vk ?_,λh2=>vk ?_⟩⟩
 ·show(n:Int)-1=(n:Int)-1-((0:Nat):Int);omega
 ·replace h2:(i:Int)<(n:Int)-1-(i:Nat):=h2
  have hin:i<n:=Uc
  obtain⟨j,hj⟩:∃j,j=n-1-i:=⟨_,U⟩
  have hjn:j<n:=Uc
  have hji:((n:Int)-1-(i:Nat))=(j:Nat):=Uc
  refine⟨.seq [(0,false),(1,false),(2,false),(3,false),(4,false),(5,false),(6,false),(7,false),(8,false),(9,false),(10,false),(11,false),(12,false),(13,true),(14,false),(15,true)],U0,j,⟨hji,hjn,cS hjn⟩,_,eD hjn,i,⟨U,hin,cS hin⟩,_,eD hin,i,⟨U,hin,cS hin⟩,_,gX (Q:=λk=>if k=i then iC (rvI (lfO st n) n i j) else iC (rvI (lfO st n) n i k)) hin (λk _=>U),j,⟨hji,hjn,cS hjn⟩,_,gX (Q:=λk=>iC (rvI (lfO st n) n (i+1) k)) hjn (λk hk=>?_),(i+1:Nat),wi,(n:Int)-1-((i+1:Nat):Int),wi (h:=⟨by show(n:Int)-1-((i+1:Nat):Int)=(n:Int)-1-(i:Nat)-1;omega,by show _<=(n:Int)-1-(i:Nat)-1;omega,by show(n:Int)-1-(i:Nat)-1<=_;omega⟩),hM (i+1) ⟨hin,show n-(i+1)<n-i by omega⟩ U ⟨U,U,U⟩ U1 ⟨U,U,U⟩ bL bFr U⟩
  unfold rvI
  by_cases e1:k=j
  ·rw[U3 e1,U2 oM,U3 oM]
   exact U5 (λz=>iC ((lfO st n).getD z 0)) oM
  rw[U2 e1]
  by_cases e2:k=i
  ·rw[U3 e2,U2 oM,U3 oM]
   exact U5 (λz=>iC ((lfO st n).getD z 0)) oM
  rw[U2 e2]
  exact U5 (λz=>iC ((lfO st n).getD z 0)) (by
   by_cases e3:k<i\/n<=k+i
   ·rw[U3 e3,U3 oM]
   rw[U2 e3,U2 oM])
 replace h2:¬(i:Int)<(n:Int)-1-(i:Nat):=h2
 show Sd _ _ _ _ _ _
 refine nS 6 2 (λj=>[iC ((lfO st n).reverse.getD j 0)]) U U (λj hj=>?_) (by rw[dD,bE]) bL (bD λ_ _=>U) bL λA c _ _=>vk ⟨⟨A,c,(lfO st n).reverse⟩,U,aI ?_ rfl tV⟩
 ·rw[aVn hj,bLh wS oM hj]
 show CV.r A n c 1 _=CV.r A ((lfO st n).reverse).length c 1 _
 rw[rU,wS]
theorem sV {P Q:Nat->Prop}:∀n,(∀i,i<n->(P i↔Q i))->gS P n=gS Q n
 |0,_=>rfl
 |n+1,h=>by
  have ih:=sV n λi hi=>h i (dY hi)
  by_cases hp:P n
  ·rw[gY hp,gY ((h n (aS n)).1 hp),ih]
  rw[jO hp,jO (λhq=>hp ((h n (aS n)).2 hq)),ih]
theorem Dep.cg {Q Q':Nat->Nat->Rat} {r c j:Nat} (h:∀i k,i<r->k<c->Q i k=Q' i k):Dep Q r c j->Dep Q' r c j:=λ⟨x,h1,h2,h3⟩=>⟨x,h1,h2,λi hi=>by rw[<-h3 i hi];exact aZ λk hk=>by rw[h i k hi hk]⟩
theorem aMg {Q Q':Nat->Nat->Rat} {r c n:Nat} (h:∀i k,i<r->k<c->Q i k=Q' i k):mI Q r c n=mI Q' r c n:=sV n λi _=>⟨λh1 h2=>h1 (Dep.cg (λi k hi hk=>(h i k hi hk).symm) h2),λh1 h2=>h1 (Dep.cg h h2)⟩
noncomputable def bdL (Q:Nat->Nat->Rat) (m:Nat) (O:List Int):List Int:=(mI Q m O.length O.length).map λz=>O.getD z.toNat 0
abbrev boB (m S T:MatM) (n k:Nat) (L O:List Int):BL:=[(78,0,m.C),(78,0,S.C),(78,0,T.C),(3,1,eA n λj=>iC (if j<k then O.getD (atN L j) 0 else 0))]
theorem bFs {m S T:MatM} {n k:Nat} {L O:List Int}:scB 4 (boB m S T n k L O):=aA U (aA U (aA U (aA (bG (bD λ_ _=>U)) aU)))
abbrev boG (L O:Sl Int) (k:Nat):List (Nat×DV):=[(38,.c (iC k)),(36,.c (cI L)),(37,.c (iC (L.l.length:Nat))),(13,.c (.s 3 L.l.length)),(2,.c (cI O))]
theorem bZr (m:MatM) (ch or:Sl Int) {M:Nat->List En} {a b B:Nat} {D κ:Nat->Nat} (h:Mr m M a b B) (hb:rbM M a B) (h1:1<=B) (hB:bd B ch.l.length<=4398046511104) (ha:a<=4096) (hbn:b<=4096) (hA:SelA a b or ch D κ):Ctr pgQ 50 [] [.a m.C,.c (cI ch),.c (cI or)] [] (λg:Sl Int=>⟨.c (cI g),[],g.l=bdL (λl i=>Vm.get (M (D i)) (κ l:Nat)) ch.l.length or.l⟩):=by
 have hrl:=hA.rl
 have hcl:=hA.cl
 have hBB:B<=4398046511104:=aJ (mV (B:=B) (aB _)) hB
 have hok:∀k,k<or.l.length->VOk (M (D k)) (b:Nat):=λk hk=>(h.ok _ (hA.r k hk).2).1
 have hrS:rbM (λk=>jT κ ch.l.length (M (D k))) or.l.length B:=λk hk=>aLr (hb _ (hA.r k hk).2)
 refine cw func50 (⟨[],bUa m or ch h hb h1 hBB ha hbn hA,U,U,U,λS hS=>⟨[],bXa S (hS.mr hrS) hBB oM oM,U,U,U,λT hT=>⟨[],bFg T (hT.mr λj hj=>aLa h1 hrS λi hi=>(zL hA.m (hok i hi)).1) (λj hj=>aLa h1 hrS λi hi=>(zL hA.m (hok i hi)).1) h1 hB oM oM,U,U,U,λL hL=>?_⟩⟩⟩)
 replace hL:L.l=mI (λl i=>Vm.get (M (D i)) (κ l:Nat)) ch.l.length or.l.length or.l.length:=hL.trans (aMg λl i hl hi=>by
  show Vm.get (trM _ _ l) (i:Nat)=_
  rw[aUd hi,pO hA.m (hok i hi).1 hl])
 have hLl:L.l.length<=or.l.length:=by rw[hL];exact fA
 have hLa:∀k,k<L.l.length->L.l.getD k 0=(atN L.l k:Nat)/\atN L.l k<or.l.length:=λk hk=>by
  obtain⟨e1,e2⟩:=eN (P:=λj=>¬Dep (λl i=>Vm.get (M (D i)) (κ l:Nat)) ch.l.length or.l.length j) or.l.length
  rw[hL] at hk ⊢
  exact⟨e2 k hk,e1.lt k hk⟩
 refine⟨L.l.length,⟨U,U,by show 8*_<=_;omega,by simp only[maxLen];omega⟩,?_⟩
 refine bX (λ_=>true) (λk:Nat=>boG L or k) (λk=>boB m S T L.l.length k L.l or.l) (λ_=>[]) (λk=>k<=L.l.length) (λk=>L.l.length-k) λhM=>⟨hM 0 (aB _) U ⟨U,U,U,?_⟩ U1 rS bL bFs U,λk hk=>vk ⟨λh2=>vk ?_,λh2=>vk ?_⟩⟩
 ·show(3,1,List.replicate _ (iC 0))=_
  rw[aBs]
  exact U5 (λl=>((3,1,l):TypeId×Nat×List CV)) (gM λx _=>U)
 ·replace h2:(k:Int)<(L.l.length:Nat):=h2
  have hkn:k<L.l.length:=Uc
  obtain⟨c1,c2⟩:=hLa k hkn
  refine⟨k,⟨U,hkn⟩,atN L.l k,⟨c1,c2⟩,k,⟨U,hkn,cS hkn⟩,_,gX (Q:=λj=>iC (if j<k+1 then or.l.getD (atN L.l j) 0 else 0)) hkn (λj hj=>?_),(k+1:Nat),wi,hM (k+1) ⟨hkn,show L.l.length-(k+1)<L.l.length-k by omega⟩ U rS trivial rS bL bFs U⟩
  by_cases e:j=k
  ·rw[U3 e,U3 oM,e]
  rw[U2 e]
  by_cases e2:j<k
  ·rw[U3 e2,U3 oM]
  rw[U2 e2,U2 oM]
 replace h2:¬(k:Int)<(L.l.length:Nat):=h2
 obtain rfl:k=L.l.length:=Uc
 show Sd _ _ _ _ _ _
 refine nS 13 3 (λj=>[iC ((bdL (λl i=>Vm.get (M (D i)) (κ l:Nat)) ch.l.length or.l).getD j 0)]) U U (λj hj=>?_) (by rw[dD,bE]) bL (bD λ_ _=>U) bL λA c _ _=>vk ⟨⟨A,c,bdL (λl i=>Vm.get (M (D i)) (κ l:Nat)) ch.l.length or.l⟩,U,aI ?_ rfl tV⟩
 ·rw[aVn hj,U3 hj]
  unfold bdL
  rw[<-hL]
  simp[aC,hj,atN]
 show CV.r A L.l.length c 1 _=CV.r A (bdL _ _ _).length c 1 _
 rw[show(bdL (λl i=>Vm.get (M (D i)) (κ l:Nat)) ch.l.length or.l).length=L.l.length by unfold bdL;rw[<-hL,aK]]
theorem bUg {L:List Int} {n:Nat} (h:∀z∈L,∃k:Nat,z=(k:Nat)/\k<n) {k:Nat} (hk:k<L.length):L.getD k 0=(atN L k:Nat)/\atN L k<n:=by
 obtain⟨j,e,hj⟩:=h (L.getD k 0) (fN hk)
 unfold atN
 rw[e]
 exact⟨U,hj⟩
theorem aIs:∀n,gS (λ_=>True) n=(List.range n).map λk:Nat=>(k:Int)
 |0=>rfl
 |n+1=>by rw[gY tV,aIs n,gR,bA];rfl
noncomputable abbrev wnL (p:ProgM) (b:BasM):List Int:=gS (λj=>b.c.l.getD j 0=2) (min p.c.l.length b.c.l.length)
noncomputable abbrev wnQ (p:ProgM) (q:PrQ) (b:BasM) (i k:Nat):Rat:=Vm.get (q.M i) (atN (wnL p b) k:Nat)
noncomputable abbrev gZ (p:ProgM) (q:PrQ) (b:BasM):List Int:=mI (wnQ p q b) p.r.l.length (wnL p b).length (wnL p b).length
noncomputable abbrev orL (p:ProgM) (b:BasM):List Int:=(lfO b.r p.r.l.length).reverse
noncomputable abbrev ltL (p:ProgM) (q:PrQ) (b:BasM):List Int:=bdL (λl i=>wnQ p q b (atN (orL p b) i) (atN (gZ p q b) l)) (gZ p q b).length (orL p b)
open Classical in
noncomputable def stC (c:ColM) (l:List Int) (j:Nat):Int:=if (j<l.length/\l.getD j 0≠2)/\Pmt c (l.getD j 0) then l.getD j 0 else dfC c
structure RpR (p:ProgM) (q:PrQ) (b g:BasM):Prop where
 cl:g.c.l.length=p.c.l.length
 rl:g.r.l.length=p.r.l.length
 c2:∀k,k<(gZ p q b).length->g.c.l.getD (atN (wnL p b) (atN (gZ p q b) k)) 0=2
 c0:∀j,j<p.c.l.length->(∀k,k<(gZ p q b).length->atN (wnL p b) (atN (gZ p q b) k)≠j)->g.c.l.getD j 0=stC (p.c.l.getD j U6) b.c.l j
 r0:∀k,k<(ltL p q b).length->g.r.l.getD (atN (ltL p q b) k) 0=dfR (p.r.l.getD (atN (ltL p q b) k) U6).s
 r2:∀i,i<p.r.l.length->(∀k,k<(ltL p q b).length->atN (ltL p q b) k≠i)->g.r.l.getD i 0=2
theorem aVo {x:Sl Int} {n:Nat} {z:Int} (h:z∈lfO x n):∃k:Nat,z=(k:Nat)/\k<n:=by
 unfold lfO at h
 rcases aO.1 h with h|h
 all_goals
  obtain⟨k,h1,h2,_⟩:=pP.1 h
  exact⟨k,h1,h2⟩
theorem aAn {p:ProgM} {b:BasM} {k:Nat} (hk:k<(orL p b).length):(orL p b).getD k 0=(atN (orL p b) k:Nat)/\atN (orL p b) k<p.r.l.length:=bUg (λz hz=>aVo (List.mem_reverse.1 hz)) hk
theorem tY {p:ProgM} {b:BasM}:(orL p b).length=p.r.l.length:=by rw[rU,wS]
theorem aAo {p:ProgM} {b:BasM} {k:Nat} (hk:k<(wnL p b).length):(wnL p b).getD k 0=(atN (wnL p b) k:Nat)/\atN (wnL p b) k<min p.c.l.length b.c.l.length/\b.c.l.getD (atN (wnL p b) k) 0=2:=by
 obtain⟨e1,e2⟩:=eN (P:=λj=>b.c.l.getD j 0=2) (min p.c.l.length b.c.l.length)
 exact⟨e2 k hk,e1.lt k hk,e1.mem k hk⟩
theorem aBz {p:ProgM} {q:PrQ} {b:BasM} {k:Nat} (hk:k<(gZ p q b).length):(gZ p q b).getD k 0=(atN (gZ p q b) k:Nat)/\atN (gZ p q b) k<(wnL p b).length:=by
 obtain⟨e1,e2⟩:=eN (P:=λj=>¬Dep (wnQ p q b) p.r.l.length (wnL p b).length j) (wnL p b).length
 exact⟨e2 k hk,e1.lt k hk⟩
theorem aSc {p:ProgM} {q:PrQ} {b:BasM} {k:Nat} (hk:k<(ltL p q b).length):(ltL p q b).getD k 0=(atN (ltL p q b) k:Nat)/\atN (ltL p q b) k<p.r.l.length:=bUg (λz hz=>by
 obtain⟨y,hy,rfl⟩:=bZ.1 hz
 obtain⟨j,rfl,hj,_⟩:=pP.1 hy
 obtain⟨h1,h2⟩:=aAn (p:=p) (b:=b) (k:=j) hj
 exact⟨_,h1,h2⟩) hk
def cDi:Ord:=.joinX [] [2000,1,2002,2004,5,2006] (.alt 3 (.alt 7 (trS [2008,9,1010]) (.alt 9 (trS [7,2008,1010]) .nil)) (.alt 7 (.alt 3 (trS [2008,9,1010]) (.alt 9 (trS [3,2008,1010]) .nil)) (.alt 9 (.alt 3 (trS [7,2008,1010]) (.alt 7 (trS [3,2008,1010]) .nil)) .nil)))
abbrev aHc (p:ProgM) (b:BasM) (m:MatM) (F G:Nat->Int):BL:=[(25,0,p.C),(28,0,b.C),(28,0,[.v (.slice none 0 0),.v (.slice none 0 0)]),(78,0,m.C),(3,1,eA p.c.l.length λj=>iC (F j)),(3,1,eA p.r.l.length λj=>iC (G j)),(28,0,[.s 4 p.c.l.length,.s 5 p.r.l.length])]
theorem pQ {p:ProgM} {b:BasM} {m:MatM} {F G:Nat->Int}:scB 7 (aHc p b m F G):=aA U (aA U (aA U (aA U (aA (bG (bD λ_ _=>U)) (aA (bG (bD λ_ _=>U)) (aA U aU))))))
abbrev aPi (W ch:Sl Int):List (Nat×DV):=[(2,.c (.p 0 0)),(3,.c (.p 1 0)),(4,.c (.p 2 0)),(9,.c (.p 3 0)),(8,.c (cI W)),(10,.c (cI ch)),(12,.c (.p 6 0))]
abbrev cDj (p:ProgM) (W ch:Sl Int) (k:Nat):List (Nat×DV):=(60,.c (iC k))::(58,.c (aBu p.c))::(59,.c (iC (p.c.l.length:Nat)))::aPi W ch
noncomputable abbrev aPj (p:ProgM) (b:BasM) (k j:Nat):Int:=if j<k then stC (p.c.l.getD j U6) b.c.l j else 0
theorem bFt {p:ProgM} {b:BasM} {k:Nat} {v:Int} (hv:v=stC (p.c.l.getD k U6) b.c.l k) (j:Nat):(if j=k then v else aPj p b k j)=aPj p b (k+1) j:=by
 by_cases e:j=k
 ·rw[U3 e,e,hv];exact(U3 (aS k)).symm
 rw[U2 e]
 show(if j<k then _ else _)=if j<k+1 then _ else _
 by_cases e2:j<k
 ·rw[U3 e2,U3 oM]
 rw[U2 e2,U2 oM]
theorem bFu {p:ProgM} {b:BasM} {k n:Nat} {v:Int} (hv:v=stC (p.c.l.getD k U6) b.c.l k):((3,1,eA n λj=>iC (if j=k then v else aPj p b k j)):TypeId×Nat×List CV)=(3,1,eA n λj=>iC (aPj p b (k+1) j)):=U5 (λl=>((3,1,l):TypeId×Nat×List CV)) (gM λj _=>by rw[bFt hv])
theorem aDk {n j:Nat} {F:Nat->Int} {v:Int} (h:j<n):mJ (eA n λi=>iC (F i)) (j*1) [iC v]=(eA n λi=>iC (if i=j then v else F i))/\j*1+1<=(eA n λi=>iC (F i)).length:=gX (Q:=λi=>iC (if i=j then v else F i)) h λi _=>by
 by_cases e:i=j
 ·rw[U3 e,U3 e]
 rw[U2 e,U2 e]
abbrev cDk (W ch:Sl Int) (k:Nat):List (Nat×DV):=(105,.c (iC k))::(103,.c (cI ch))::(104,.c (iC (ch.l.length:Nat)))::aPi W ch
abbrev cDl (p:ProgM) (W ch:Sl Int) (k:Nat):List (Nat×DV):=(120,.c (iC k))::(119,.c (iC (p.r.l.length:Nat)))::aPi W ch
abbrev cDm (W ch lt:Sl Int) (k:Nat):List (Nat×DV):=(138,.c (iC k))::(136,.c (cI lt))::(137,.c (iC (lt.l.length:Nat)))::aPi W ch
theorem bUh {Q Q':Nat->Nat->Rat} {m:Nat} {O:List Int} (h:∀i k,i<m->k<O.length->Q i k=Q' i k):bdL Q m O=bdL Q' m O:=by unfold bdL;rw[aMg h]
theorem vM {n:Nat} {F:Nat->Int}:(eA n λj=>iC (F j))=((List.range n).map F).map iC:=by unfold eA;rw[lH];rfl
theorem aAp {n j:Nat} {F:Nat->Int} (hj:j<n):((List.range n).map F).getD j 0=F j:=by simp[aC,hj]
abbrev bUi (p:ProgM) (b:BasM) (m:MatM) (C R:List Int):BL:=[(25,0,p.C),(28,0,b.C),(28,0,[.v (.slice none 0 0),.v (.slice none 0 0)]),(78,0,m.C),(3,1,C.map iC),(3,1,R.map iC),(28,0,[.s 4 C.length,.s 5 R.length])]
theorem bLj {p:ProgM} {b:BasM} {m:MatM} {F G:Nat->Int}:aHc p b m F G=bUi p b m ((List.range p.c.l.length).map F) ((List.range p.r.l.length).map G):=by
 unfold aHc bUi
 rw[vM,vM,aK,aK,fJ,fJ]
theorem bOo (p:ProgM) (b:BasM) {q:PrQ} {B:Nat} (h:PrV p q B) (hr:p.r.l.length<=12) (hc:p.c.l.length<=12) (hB:bd B p.r.l.length<=4398046511104):Ctr pgQ 15 [] [.a p.C,.a b.C] [] (λg:BasM=>⟨.t [.a g.C,.c (iC 0)],[],RpR p q b g⟩):=by
 classical
 have hBB:B<=4398046511104:=h.hB
 have h1:=h.h1
 have hWl:(wnL p b).length<=p.c.l.length:=aJ fA (xG _ _)
 have hCl:(gZ p q b).length<=(wnL p b).length:=fA
 have n2:Ctr pgQ 43 [true] [.c (iC (min (p.c.l.length:Int) (b.c.l.length:Int))),(KpS.o b).V 45] (KpS.o b).B (λg:Sl Int=>⟨.c (cI g),(KpS.o b).B,g.l=fI (λj=>b.c.l.getD j 0=2) (min p.c.l.length b.c.l.length)⟩):=by
  have n:=bOb (.o b) 45 (min p.c.l.length b.c.l.length) (λj=>b.c.l.getD j 0=2) oM λi hi=>bTr b i oM
  rw[show((min p.c.l.length b.c.l.length:Nat):Int)=min (p.c.l.length:Int) (b.c.l.length:Int) by omega] at n
  exact n
 refine cw func15 (⟨[],aLl p h,U,U,U,λ_ _=>⟨λhh=>U4 U hh,λ_=>vk ⟨[],bOb .z 44 p.r.l.length (λ_=>True) oM λi _=>bTq i,U,U,U,λal hal=>⟨[1],n2,U,U,U,λW hW=>?_⟩⟩⟩⟩)
 replace hal:al.l=(List.range p.r.l.length).map λk:Nat=>(k:Int):=by rw[<-aIs,<-tX];exact hal
 replace hW:W.l=wnL p b:=(show W.l=_ from hW).trans (tX _)
 have hall:al.l.length=p.r.l.length:=by rw[hal];simp
 have hCA:CofA p al W (λk=>k) (atN (wnL p b)):=⟨λk hk=>⟨by rw[hall] at hk;rw[hal];simp[aC,hk],by show k<_;omega⟩,λk hk=>by
  rw[hW] at hk ⊢
  have:=(aAo hk).2.1
  exact⟨(aAo hk).1,Uc⟩,λk l hkl hl=>by
  rw[hW] at hl
  exact(eN (P:=λj=>b.c.l.getD j 0=2) _).1.mono k l hkl hl,Uc,by rw[hW];omega⟩
 refine⟨[],bNy p al W h hCA,U,U,U,λm hm=>?_⟩
 rw[hall,hW] at hm
 replace hm:Mr m (λk=>jT (atN (wnL p b)) (wnL p b).length (q.M k)) p.r.l.length (wnL p b).length B:=hm
 have hmb:rbM (λk=>jT (atN (wnL p b)) (wnL p b).length (q.M k)) p.r.l.length B:=λk hk=>aLr (h.e k hk)
 have hmm:∀k l,k<l->l<(wnL p b).length->atN (wnL p b) k<atN (wnL p b) l:=(eN (P:=λj=>b.c.l.getD j 0=2) _).1.mono
 have hmQ:∀i k,i<p.r.l.length->k<(wnL p b).length->mQ (λk=>jT (atN (wnL p b)) (wnL p b).length (q.M k)) i k=wnQ p q b i k:=λi k hi hk=>pO hmm (h.v i hi).2.1 hk
 have hCr:(gZ p q b).length<=p.r.l.length:=(eN (P:=λj=>¬Dep (wnQ p q b) p.r.l.length (wnL p b).length j) (wnL p b).length).1.free.le
 refine⟨[],bFg m hm hmb h1 hB hr oM,U,U,U,λch hch=>?_⟩
 replace hch:ch.l=gZ p q b:=(show ch.l=_ from hch).trans (aMg hmQ)
 refine⟨cDi,U0,Unit,λ_=>⟨aPi W ch++[],[],aHc p b m (λ_=>0) λ_=>0,[]⟩,λ_=>True,?_,λ_ _=>?_⟩
 ·have k1:p.c.l.length<=maxLen:=by simp only[maxLen];omega
  have k2:p.r.l.length<=maxLen:=by simp only[maxLen];omega
  have fin1:∀(sl:List (Nat×DV)),wZ (λ_=>true) [] [] [] sl->AllC sl (aPi W ch)->Gt 0 ⟨sl,[],[(25,0,p.C),(28,0,b.C),(28,0,[.v (.slice none 0 0),.v (.slice none 0 0)]),(78,0,m.C),(3,1,List.replicate p.c.l.length (iC 0)),(3,1,List.replicate p.r.l.length (iC 0)),(28,0,[.s 4 p.c.l.length,.s 5 p.r.l.length])],[]⟩ (σ:=Unit) (λ_=>⟨aPi W ch++[],[],aHc p b m (λ_=>0) λ_=>0,[]⟩) λ_=>True:=λsl ht ha=>by
   refine @iP 0 _ (λ_=>true) [] (λt d ht=>by cases ht) Unit (λ_=>aPi W ch) (λ_=>aHc p b m (λ_=>0) λ_=>0) (λ_=>[]) _ () trivial ht ?_ trivial ha (aB _) pQ U
   rw[aBs,aBs]
   exact rS
  have e1:∀{i j:Nat} {n:Nat},(List.replicate n (iC 0)).map (swC i j)=List.replicate n (iC 0):=rpm aP U
  refine⟨⟨p.c.l.length,⟨U,U,by show 8*_<=_;omega,k1⟩,U,⟨p.r.l.length,⟨U,U,by show 8*_<=_;omega,k2⟩,U,U,?_⟩,⟨U,p.r.l.length,⟨U,U,by show 8*_<=_;omega,k2⟩,U,?_⟩⟩,⟨p.r.l.length,⟨U,U,by show 8*_<=_;omega,k2⟩,U,⟨p.c.l.length,⟨U,U,by show 8*_<=_;omega,k1⟩,U,U,?_⟩,⟨U,p.c.l.length,⟨U,U,by show 8*_<=_;omega,k1⟩,U,?_⟩⟩,⟨U,⟨p.c.l.length,⟨U,U,by show 8*_<=_;omega,k1⟩,U,p.r.l.length,⟨U,U,by show 8*_<=_;omega,k2⟩,U,?_⟩,⟨p.r.l.length,⟨U,U,by show 8*_<=_;omega,k2⟩,U,p.c.l.length,⟨U,U,by show 8*_<=_;omega,k1⟩,U,?_⟩⟩⟩
  ·exact fin1 _ (by rfl) (by exact rS)
  ·exact gsw 5 6 U U bL bL U ⟨_,e1,_,e1,bL,fin1 _ (by rfl) (by exact rS)⟩
  ·exact gsw 4 5 U U bL bL U ⟨_,e1,_,e1,bL,fin1 _ (by rfl) (by exact rS)⟩
  ·exact gsw 4 6 U U bL bL U ⟨_,e1,_,e1,bL,gsw 5 6 U U bL bL U ⟨_,e1,_,e1,bL,fin1 _ (by rfl) (by exact rS)⟩⟩
  ·exact gsw 4 5 U U bL bL U ⟨_,e1,_,e1,bL,gsw 5 6 U U bL bL U ⟨_,e1,_,e1,bL,fin1 _ (by rfl) (by exact rS)⟩⟩
  exact gsw 4 6 U U bL bL U ⟨_,e1,_,e1,bL,fin1 _ (by rfl) (by exact rS)⟩
 refine bX (λ_=>true) (λk:Nat=>cDj p W ch k) (λk=>aHc p b m (aPj p b k) λ_=>0) (λ_=>[]) (λk=>k<=p.c.l.length) (λk=>p.c.l.length-k) λhM=>⟨hM 0 (aB _) U rS trivial rS bL pQ U,λk hk=>vk ⟨λh2=>vk ?_,λh2=>vk ?_⟩⟩
 ·replace h2:(k:Int)<(p.c.l.length:Nat):=h2
  have hkn:k<p.c.l.length:=Uc
  refine⟨k,⟨U,hkn⟩,.seq [(0,false),(1,false),(2,false),(3,false),(4,false),(5,false),(6,true)],U0,[],bYc (p.c.l.getD k U6),U,U,U,λ_ _=>⟨k,⟨U,hkn,cS hkn⟩,_,aDk hkn,.seq [(0,false),(1,false),(2,false),(3,false),(4,false),(5,false),(6,false),(7,false),(8,false),(9,false),(10,false),(11,false),(12,false),(13,false),(14,false),(15,false),(16,false),(17,false),(18,false),(19,false),(20,true),(21,false)],U0,k,λh5=>⟨U,?_⟩,k,λh13=>⟨U,?_⟩,λh1=>⟨[],bNs (p.c.l.getD k U6) (b.c.l.getD k 0),U,U,U,λ_ _=>⟨λh4=>vk ?_,λh4=>vk ?_⟩⟩,λh1=>?_⟩⟩
  ·replace h5:(k:Int)<(b.c.l.length:Nat):=h5
   omega
  ·replace h13:(k:Int)<(b.c.l.length:Nat)/\_:=h13
   omega
  ·replace h1:(k:Int)<(b.c.l.length:Nat)/\b.c.l.getD k 0≠2:=h1
   have hkb:k<b.c.l.length:=Uc
   have hv:b.c.l.getD k 0=stC (p.c.l.getD k U6) b.c.l k:=(U3 ⟨⟨hkb,h1.2⟩,h4⟩).symm
   exact⟨.seq [(0,false),(1,false),(2,false),(3,false),(4,false),(5,false),(6,false),(7,false),(8,false),(9,true)],U0,k,⟨U,hkb⟩,k,⟨U,hkn,cS hkn⟩,_,aDk hkn,(k+1:Nat),wi,hM (k+1) ⟨hkn,show p.c.l.length-(k+1)<p.c.l.length-k by omega⟩ U ⟨U,U,U,U,(U5 (λl=>((3,1,l):TypeId×Nat×List CV)) (gM λj _=>by rw[<-bFt hv];by_cases e:j=k<;>simp[e])),U,U⟩ U1 rS bL pQ U⟩
  ·have hv:dfC (p.c.l.getD k U6)=stC (p.c.l.getD k U6) b.c.l k:=(U2 λhh=>h4 hh.2).symm
   exact⟨(k+1:Nat),wi,hM (k+1) ⟨hkn,show p.c.l.length-(k+1)<p.c.l.length-k by omega⟩ U ⟨U,U,U,U,bFu hv,U,U⟩ U1 rS bL pQ U⟩
  replace h1:¬((k:Int)<(b.c.l.length:Nat)/\b.c.l.getD k 0≠2):=h1
  have hv:dfC (p.c.l.getD k U6)=stC (p.c.l.getD k U6) b.c.l k:=(U2 λhh=>h1 ⟨by have:=hh.1.1;omega,hh.1.2⟩).symm
  exact⟨(k+1:Nat),wi,hM (k+1) ⟨hkn,show p.c.l.length-(k+1)<p.c.l.length-k by omega⟩ U ⟨U,U,U,U,bFu hv,U,U⟩ U1 rS bL pQ U⟩
 replace h2:¬(k:Int)<(p.c.l.length:Nat):=h2
 obtain rfl:k=p.c.l.length:=Uc
 have hchl:ch.l.length<=12:=by rw[hch];omega
 have hCh:∀l,l<ch.l.length->ch.l.getD l 0=(atN (gZ p q b) l:Nat)/\atN (gZ p q b) l<W.l.length:=λl hl=>by rw[hch] at hl ⊢;rw[hW];exact aBz hl
 have hKp:∀l,l<ch.l.length->W.l.getD (atN (gZ p q b) l) 0=(atN (wnL p b) (atN (gZ p q b) l):Nat)/\atN (wnL p b) (atN (gZ p q b) l)<p.c.l.length:=λl hl=>by
  have h3:=(hCh l hl).2
  rw[hW] at h3 ⊢
  have:=(aAo h3).2.1
  exact⟨(aAo h3).1,Uc⟩
 refine vk ?_
 show Sd _ _ _ _ _ _
 refine bX (λ_=>true) (λg:Nat×(Nat->Int)=>cDk W ch g.1) (λg=>aHc p b m g.2 λ_=>0) (λ_=>[]) (λg=>g.1<=ch.l.length/\(∀l,l<g.1->g.2 (atN (wnL p b) (atN (gZ p q b) l))=2)/\∀j,(∀l,l<g.1->atN (wnL p b) (atN (gZ p q b) l)≠j)->g.2 j=aPj p b p.c.l.length j) (λg=>ch.l.length-g.1) λhM=>⟨hM (0,aPj p b p.c.l.length) ⟨aB _,λl hl=>U4 hl (aF _),λj _=>U⟩ U rS trivial rS bL pQ U,λ⟨k,F⟩ ⟨hk2,hF2,hF0⟩=>vk ⟨λh3=>vk ?_,λh3=>vk ?_⟩⟩
 all_goals
  replace hk2:k<=ch.l.length:=hk2
  replace hF2:∀l,l<k->F (atN (wnL p b) (atN (gZ p q b) l))=2:=hF2
  replace hF0:∀j,(∀l,l<k->atN (wnL p b) (atN (gZ p q b) l)≠j)->F j=aPj p b p.c.l.length j:=hF0
 ·replace h3:(k:Int)<(ch.l.length:Nat):=h3
  have hkn:k<ch.l.length:=Uc
  obtain⟨c1,c2⟩:=hCh k hkn
  obtain⟨c3,c4⟩:=hKp k hkn
  refine⟨k,⟨U,hkn⟩,.seq [(0,false),(1,false),(2,false),(3,false),(4,false),(5,false),(6,false),(7,true)],U0,atN (gZ p q b) k,⟨c1,c2⟩,atN (wnL p b) (atN (gZ p q b) k),⟨c3,c4,cS c4⟩,_,aDk c4,(k+1:Nat),wi,hM (k+1,λj=>if j=atN (wnL p b) (atN (gZ p q b) k) then 2 else F j) ⟨⟨hkn,λl hl=>?_,λj hno=>?_⟩,show ch.l.length-(k+1)<ch.l.length-k by omega⟩ U rS trivial rS bL pQ U⟩
  ·show(if _ then 2 else F _)=2
   by_cases e:atN (wnL p b) (atN (gZ p q b) l)=atN (wnL p b) (atN (gZ p q b) k)
   ·rw[U3 e]
   rw[U2 e]
   refine hF2 l ?_
   have hl':l<k+1:=hl
   by_cases e2:l=k
   ·exact U4 (by rw[e2]) e
   omega
  show(if _ then 2 else F j)=_
  rw[U2 λe=>hno k (aS k) e.symm]
  exact hF0 j λl hl=>hno l (dY hl)
 replace h3:¬(k:Int)<(ch.l.length:Nat):=h3
 obtain rfl:k=ch.l.length:=Uc
 refine vk ?_
 show Sd _ _ _ _ _ _
 refine bX (λ_=>true) (λk:Nat=>cDl p W ch k) (λk=>aHc p b m F λj=>if j<k then 2 else 0) (λ_=>[]) (λk=>k<=p.r.l.length) (λk=>p.r.l.length-k) λhM=>⟨hM 0 (aB _) U rS trivial rS bL pQ U,λk hk=>vk ⟨λh4=>vk ?_,λh4=>vk ?_⟩⟩
 ·replace h4:(k:Int)<(p.r.l.length:Nat):=h4
  have hkn:k<p.r.l.length:=Uc
  refine⟨k,⟨U,hkn,cS hkn⟩,_,gX (Q:=λj=>iC (if j<k+1 then 2 else 0)) hkn (λj hj=>?_),(k+1:Nat),wi,hM (k+1) ⟨hkn,show p.r.l.length-(k+1)<p.r.l.length-k by omega⟩ U rS trivial rS bL pQ U⟩
  by_cases e:j=k
  ·rw[U3 e,U3 oM];rfl
  rw[U2 e]
  show iC (if j<k then 2 else 0)=iC (if j<k+1 then 2 else 0)
  by_cases e2:j<k
  ·rw[U3 e2,U3 oM]
  rw[U2 e2,U2 oM]
 replace h4:¬(k:Int)<(p.r.l.length:Nat):=h4
 obtain rfl:k=p.r.l.length:=Uc
 refine vk ⟨.seq [(0,false),(1,false),(2,false),(3,false),(4,false),(5,false),(6,false),(10,false),(7,false),(8,true),(9,false)],U0,[],bLi b.r p.r.l.length oM,U,U,U,λor hor=>?_⟩
 replace hor:or.l=orL p b:=hor
 have hol:or.l.length=p.r.l.length:=by rw[hor];exact tY
 have hSA:SelA p.r.l.length (wnL p b).length or ch (atN (orL p b)) (atN (gZ p q b)):=⟨λk hk=>by rw[hor] at hk ⊢;exact aAn hk,λk hk=>by rw[<-hW];exact hCh k hk,λk l hkl hl=>by
  rw[hch] at hl
  exact(eN (P:=λj=>¬Dep (wnQ p q b) p.r.l.length (wnL p b).length j) _).1.mono k l hkl hl,Uc,by rw[hch];omega⟩
 refine⟨[],bZr m ch or hm hmb h1 (aJ (mV (by rw[hch];exact hCr)) hB) oM oM hSA,U,U,U,λlt hlt=>?_⟩
 replace hlt:lt.l=ltL p q b:=by
  refine(show lt.l=_ from hlt).trans ?_
  rw[hor,hch]
  exact bUh λl i hl hi=>hmQ _ _ (aAn hi).2 (aBz hl).2
 have hLt:∀l,l<lt.l.length->lt.l.getD l 0=(atN (ltL p q b) l:Nat)/\atN (ltL p q b) l<p.r.l.length:=λl hl=>by rw[hlt] at hl ⊢;exact aSc hl
 have hltl:lt.l.length<=12:=by
  rw[hlt]
  unfold ltL bdL
  rw[aK]
  have:=aHa (Q:=λl i=>wnQ p q b (atN (orL p b) i) (atN (gZ p q b) l)) (a:=(gZ p q b).length) (b:=(orL p b).length) (k:=(orL p b).length)
  rw[<-hor,hol] at this
  rw[<-hor,hol]
  omega
 refine bX (λ_=>true) (λg:Nat×(Nat->Int)=>cDm W ch lt g.1) (λg=>aHc p b m F g.2) (λ_=>[]) (λg=>g.1<=lt.l.length/\(∀l,l<g.1->g.2 (atN (ltL p q b) l)=dfR (p.r.l.getD (atN (ltL p q b) l) U6).s)/\∀i,i<p.r.l.length->(∀l,l<g.1->atN (ltL p q b) l≠i)->g.2 i=2) (λg=>lt.l.length-g.1) λhM=>⟨hM (0,λj=>if j<p.r.l.length then 2 else 0) ⟨aB _,λl hl=>U4 hl (aF _),λi hi _=>U3 hi⟩ U rS trivial rS bL pQ U,λ⟨k,G⟩ ⟨hk6,hG1,hG2⟩=>vk ⟨λh6=>vk ?_,λh6=>vk ?_⟩⟩
 all_goals
  replace hk6:k<=lt.l.length:=hk6
  replace hG1:∀l,l<k->G (atN (ltL p q b) l)=dfR (p.r.l.getD (atN (ltL p q b) l) U6).s:=hG1
  replace hG2:∀i,i<p.r.l.length->(∀l,l<k->atN (ltL p q b) l≠i)->G i=2:=hG2
 ·replace h6:(k:Int)<(lt.l.length:Nat):=h6
  have hkn:k<lt.l.length:=Uc
  obtain⟨c1,c2⟩:=hLt k hkn
  refine⟨k,⟨U,hkn⟩,.seq [(0,false),(1,false),(2,false),(3,false),(4,false),(5,false),(6,false),(7,false),(8,false),(9,false),(10,true)],U0,atN (ltL p q b) k,⟨c1,c2⟩,[],bNu (p.r.l.getD (atN (ltL p q b) k) U6),U,U,U,λ_ _=>⟨atN (ltL p q b) k,⟨c1,c2,cS c2⟩,_,aDk c2,(k+1:Nat),wi,hM (k+1,λj=>if j=atN (ltL p q b) k then dfR (p.r.l.getD (atN (ltL p q b) k) U6).s else G j) ⟨⟨hkn,λl hl=>?_,λi hi hno=>?_⟩,show lt.l.length-(k+1)<lt.l.length-k by omega⟩ U rS trivial rS bL pQ U⟩⟩
  ·show(if _ then _ else G _)=_
   by_cases e:atN (ltL p q b) l=atN (ltL p q b) k
   ·rw[U3 e,e]
   rw[U2 e]
   refine hG1 l ?_
   have hl':l<k+1:=hl
   by_cases e2:l=k
   ·exact U4 (by rw[e2]) e
   omega
  show(if _ then _ else G i)=_
  rw[U2 λe=>hno k (aS k) e.symm]
  exact hG2 i hi λl hl=>hno l (dY hl)
 replace h6:¬(k:Int)<(lt.l.length:Nat):=h6
 obtain rfl:k=lt.l.length:=Uc
 show Sd _ _ _ _ _ _
 rw[show aHc p b m F (lt.l.length,G).snd=bUi p b m ((List.range p.c.l.length).map F) ((List.range p.r.l.length).map G) from bLj]
 obtain⟨CL,hCL⟩:∃CL,CL=(List.range p.c.l.length).map F:=⟨_,U⟩
 obtain⟨RL,hRL⟩:∃RL,RL=(List.range p.r.l.length).map G:=⟨_,U⟩
 rw[<-hCL,<-hRL]
 refine kT tSd 5 U bL (aW _) bL U λA a1=>⟨_,lM kE (aW _),jQ tSd 6 0 [.s 4 CL.length,cI ⟨A.map λb=>⟨b,0,none⟩,a1,RL⟩] U U U U (qD (k0:=1) U aEa) ?_⟩
 refine kT tSd 4 U bL (aW _) bL U λA2 a2=>⟨_,U,jQ tSd 6 1 [cI ⟨A2.map λb=>⟨b,0,none⟩,a2,CL⟩,cI ⟨A.map λb=>⟨b,0,none⟩,a1,RL⟩] U U U U (qD (k0:=0) U aEa) ?_⟩
 refine vk ⟨⟨⟨A2.map λb=>⟨b,0,none⟩,a2,CL⟩,⟨A.map λb=>⟨b,0,none⟩,a1,RL⟩⟩,⟨by rw[hCL];simp,by rw[hRL];simp,λk hk=>?_,λj hj hno=>?_,λk hk=>?_,λi hi hno=>?_⟩,aI ⟨U,U⟩ U tV⟩
 ·rw[<-hch] at hk
  show CL.getD _ 0=2
  rw[hCL,aAp (hKp k hk).2];exact hF2 k hk
 ·show CL.getD j 0=_
  rw[hCL,aAp hj,hF0 j λl hl=>hno l (by rw[<-hch];exact hl)];exact U3 hj
 ·rw[<-hlt] at hk
  show RL.getD _ 0=_
  rw[hRL,aAp (hLt k hk).2];exact hG1 k hk
 show RL.getD i 0=2
 rw[hRL,aAp hi];exact hG2 i hi λl hl=>hno l (by rw[<-hlt];exact hl)
theorem Enm.uniq {P:Nat->Prop} {n m m':Nat} {e e':Nat->Nat} (h:Enm P n m e) (h':Enm P n m' e'):m=m':=by
 have h1:m<=m':=aDg (λi j hi hj=>h.inj hi hj) λi hi=>h'.all (e i) (h.lt i hi) (h.mem i hi)
 have h2:m'<=m:=aDg (λi j hi hj=>h'.inj hi hj) λi hi=>h.all (e' i) (h'.lt i hi) (h'.mem i hi)
 omega
theorem Enm.at {P:Nat->Prop} {n m m':Nat} {e e':Nat->Nat} (h:Enm P n m e) (h':Enm P n m' e'):∀k,k<m->e k=e' k:=λk=>by
 have hm:=h.uniq h'
 induction k using Nat.strongRecOn with
 |_ k ih=>
  intro hk
  obtain⟨a,ha,hae⟩:=h'.all (e k) (h.lt k hk) (h.mem k hk)
  obtain⟨c,hc,hce⟩:=h.all (e' k) (h'.lt k oM) (h'.mem k oM)
  rcases eF a k with h1|h1|h1
  ·have h2:=ih a h1 oM
   have:=h.inj (k:=a) (l:=k) oM hk oM
   omega
  ·rw[<-hae,h1]
  rcases eF c k with h3|h3|h3
  ·have h4:=ih c h3 hc
   have:=h'.inj (k:=c) (l:=k) oM oM oM
   omega
  ·rw[<-hce,h3]
  have h5:=h'.mono k a h1 ha
  have h6:=h.mono k c h3 hc
  omega
theorem Pmt.df (c:ColM):Pmt c (dfC c):=by
 unfold dfC
 by_cases h1:c.pl
 ·rw[U3 h1];exact .inr (.inl ⟨U,h1⟩)
 rw[U2 h1]
 by_cases h2:c.pu
 ·rw[U3 h2];exact .inr (.inr (.inl ⟨U,h2⟩))
 rw[U2 h2];exact .inr (.inr (.inr ⟨U,h1,h2⟩))
theorem bUj (c:ColM):dfC c≠2:=by
 unfold dfC
 split
 ·decide
 split<;>decide
theorem bUk (s:Int):dfR s≠2:=by unfold dfR;split<;>decide
theorem bUl (c:ColM) (l:List Int) (j:Nat):stC c l j≠2:=by
 unfold stC
 split
 ·next h=>exact h.1.2
 exact bUj c
theorem bUm (c:ColM) (l:List Int) (j:Nat):Pmt c (stC c l j):=by
 unfold stC
 split
 ·next h=>exact h.2
 exact Pmt.df c
theorem bLk {x:Sl Int} {n k:Nat} (hk:k<n):(k:Int)∈lfO x n:=by
 unfold lfO
 by_cases h:rA x k
 ·exact aO.2 (.inl (pP.2 ⟨k,U,hk,h⟩))
 exact aO.2 (.inr (pP.2 ⟨k,U,hk,h⟩))
theorem aMh {p:ProgM} {b:BasM} {i:Nat} (hi:i<p.r.l.length):∃k,k<(orL p b).length/\atN (orL p b) k=i:=by
 obtain⟨k,hk,h2⟩:=rT (List.mem_reverse.2 (bLk (x:=b.r) hi))
 refine⟨k,hk,?_⟩
 have:=(aAn (p:=p) (b:=b) hk).1
 rw[aC,aG hk] at this
 simp only[Option.getD_some] at this
 omega
theorem bLl {L O:List Int} {k:Nat} (hk:k<L.length):atN (L.map λz=>O.getD z.toNat 0) k=atN O (atN L k):=by
 unfold atN
 simp[aC,hk]
theorem yL {a b:List Int} (hl:a.length=b.length) (h:∀k,k<b.length->a.getD k 0=b.getD k 0):a=b:=jZ hl λk h1 h2=>by
 have:=h k h2
 rw[aC,aC,aG h1,aG h2] at this
 exact this
theorem bLm {L M:List Int} {k:Nat} (hk:k<L.length):atN (L.reverse++M) k=atN L (L.length-1-k):=by
 unfold atN
 rw[aC,aC,aV (by rw[rU];exact hk),List.getElem?_reverse hk]
section rep
variable {p:ProgM} {q:PrQ} {b g:BasM}
noncomputable abbrev kpN (p:ProgM) (q:PrQ) (b:BasM) (k:Nat):Nat:=atN (wnL p b) (atN (gZ p q b) k)
theorem zN:Enm (λj=>¬Dep (wnQ p q b) p.r.l.length (wnL p b).length j) (wnL p b).length (gZ p q b).length (atN (gZ p q b)):=(eN _).1
theorem bUn:Enm (λj=>b.c.l.getD j 0=2) (min p.c.l.length b.c.l.length) (wnL p b).length (atN (wnL p b)):=(eN _).1
noncomputable abbrev ltQ (p:ProgM) (q:PrQ) (b:BasM) (l i:Nat):Rat:=wnQ p q b (atN (orL p b) i) (atN (gZ p q b) l)
noncomputable abbrev ltI (p:ProgM) (q:PrQ) (b:BasM):List Int:=mI (ltQ p q b) (gZ p q b).length (orL p b).length (orL p b).length
theorem aMi:Enm (λi=>¬Dep (ltQ p q b) (gZ p q b).length (orL p b).length i) (orL p b).length (ltI p q b).length (atN (ltI p q b)):=(eN _).1
theorem lt_len:(ltL p q b).length=(ltI p q b).length:=aK _
theorem bFv {k:Nat} (hk:k<(ltL p q b).length):atN (ltL p q b) k=atN (orL p b) (atN (ltI p q b) k):=by
 have hk':k<(ltI p q b).length:=by rw[<-lt_len];exact hk
 exact bLl hk'
theorem bFw:(ltL p q b).length=(gZ p q b).length/\Free (λk l=>Vm.get (q.M (atN (ltL p q b) k)) (kpN p q b l:Nat)) (gZ p q b).length (gZ p q b).length:=by
 have hf:=(zN (p:=p) (q:=q) (b:=b)).free
 have hf2:Free (λi l=>ltQ p q b l i) (orL p b).length (gZ p q b).length:=λx hx=>hf x λi hi=>by
  obtain⟨k,hk,rfl⟩:=aMh (p:=p) (b:=b) hi
  exact hx k hk
 obtain⟨h1,h2⟩:=aMi.square hf2
 have h3:(ltL p q b).length=(gZ p q b).length:=lt_len.trans h1
 refine⟨h3,?_⟩
 rw[h1] at h2
 intro x hx
 refine h2 x λk hk=>?_
 rw[<-hx k hk]
 exact aZ λl _=>by
  show Vm.get (q.M (atN (orL p b) (atN (ltI p q b) k))) _*_=Vm.get (q.M (atN (ltL p q b) k)) _*_
  rw[bFv oM]
theorem RpR.col (h:RpR p q b g) {j:Nat} (hj:j<p.c.l.length):(∃k,k<(gZ p q b).length/\kpN p q b k=j/\g.c.l.getD j 0=2)\/(g.c.l.getD j 0=stC (p.c.l.getD j U6) b.c.l j):=by
 by_cases hh:∃k,k<(gZ p q b).length/\kpN p q b k=j
 ·obtain⟨k,hk,rfl⟩:=hh
  exact .inl ⟨k,hk,U,h.c2 k hk⟩
 exact .inr (h.c0 j hj λk hk e=>hh ⟨k,hk,e⟩)
theorem RpR.row (h:RpR p q b g) {i:Nat} (hi:i<p.r.l.length):(∃k,k<(ltL p q b).length/\atN (ltL p q b) k=i/\g.r.l.getD i 0=dfR (p.r.l.getD i U6).s)\/(g.r.l.getD i 0=2):=by
 by_cases hh:∃k,k<(ltL p q b).length/\atN (ltL p q b) k=i
 ·obtain⟨k,hk,rfl⟩:=hh
  exact .inl ⟨k,hk,U,h.r0 k hk⟩
 exact .inr (h.r2 i hi λk hk e=>hh ⟨k,hk,e⟩)
theorem bOp {k:Nat} (hk:k<(gZ p q b).length):kpN p q b k<p.c.l.length/\kpN p q b k<b.c.l.length/\b.c.l.getD (kpN p q b k) 0=2:=by
 have h1:=(aBz hk).2
 have h2:=(aAo h1).2
 exact⟨bM h2.1 (xG _ _),bM h2.1 (Nat.min_le_right _ _),h2.2⟩
theorem RpR.ce (h:RpR p q b g):Enm (λj=>g.c.l.getD j 0=2) p.c.l.length (gZ p q b).length (kpN p q b):=⟨λk hk=>(bOp hk).1,λk l hkl hl=>bUn.mono _ _ (zN.mono k l hkl hl) (zN.lt l hl),λk hk=>h.c2 k hk,λj hj h2=>by
 rcases h.col hj with ⟨k,hk,e,_⟩|h3
 ·exact⟨k,hk,e⟩
 exact U4 (h3.symm.trans h2) (bUl _ _ _)⟩
theorem RpR.val (h:RpR p q b g) {B:Nat} (hp:PrV p q B):BVal p q g:=by
 have ec:=(eN (P:=λj=>g.c.l.getD j 0=2) p.c.l.length).1
 have er:=(eN (P:=λi=>g.r.l.getD i 0≠2) p.r.l.length).1
 have hc:(gZ p q b).length=(bcL g p.c.l.length).length:=h.ce.uniq ec
 have hat:=h.ce.at ec
 obtain⟨hl,hF⟩:=bFw (p:=p) (q:=q) (b:=b)
 have hex:∀k,k<(ltL p q b).length->∃k',k'<(brL g p.r.l.length).length/\atN (brL g p.r.l.length) k'=atN (ltL p q b) k:=λk hk=>er.all _ (aSc hk).2 (by rw[h.r0 k hk];exact bUk _)
 have hbr:(brL g p.r.l.length).length<=(ltL p q b).length:=aDg (f:=atN (ltL p q b)) (λi j hi hj=>er.inj hi hj) λi hi=>by
  rcases h.row (er.lt i hi) with ⟨k,hk,e,_⟩|h3
  ·exact⟨k,hk,e⟩
  exact U4 h3 (er.mem i hi)
 have hF2:Free (λk l=>Vm.get (q.M (atN (brL g p.r.l.length) k)) (kpN p q b l:Nat)) (brL g p.r.l.length).length (gZ p q b).length:=λx hx=>hF x λk hk=>by
  obtain⟨k',hk',e⟩:=hex k oM
  have h3:bN (λj=>Vm.get (q.M (atN (brL g p.r.l.length) k')) (kpN p q b j:Nat)*x j) (gZ p q b).length=0:=hx k' hk'
  rw[e] at h3
  exact h3
 have hn:(gZ p q b).length=(brL g p.r.l.length).length:=by have:=hF2.le;omega
 refine⟨⟨h.cl,h.rl,λj hj=>?_,λi hi=>?_⟩,Uc,λ⟨x,⟨i,hi,hxi⟩,hk⟩=>hxi (hF2 x (λk hk'=>?_) i oM)⟩
 ·rcases h.col hj with ⟨k,hk,e,h2⟩|h3
  ·exact .inl h2
  rw[h3];exact bUm _ _ _
 ·rcases h.row hi with ⟨k,hk,e,h2⟩|h3
  ·exact .inr h2
  exact .inl h3
 rw[<-hk k hk',hn]
 unfold dtn
 refine aZ λl hl=>?_
 show Vm.get (q.M (atN (brL g p.r.l.length) k)) (kpN p q b l:Nat)*x l=Vm.get (jT _ _ (q.M (atN (brL g p.r.l.length) k))) (l:Nat)*x l
 have hl2:l<(bcL g p.c.l.length).length:=Uc
 rw[pO (λk l hkl hl=>ec.mono k l hkl hl) (hp.v _ (er.lt k hk')).2.1 hl2,hat l oM]
end rep
abbrev smB (a b:BasM):BL:=[(28,0,a.C),(28,0,b.C)]
theorem aMj {a b:BasM}:scB 2 (smB a b):=aA U (aA U aU)
abbrev smG (v k:Nat):List (Nat×DV):=[(v,.c (iC k)),(2,.c (.p 0 0)),(3,.c (.p 1 0))]
theorem aPk (a b:BasM) (h1:a.c.l.length<=4096) (h2:a.r.l.length<=4096):Ctr pgQ 20 [] [.a a.C,.a b.C] [] (λ_:Unit=>⟨pC (a.c.l=b.c.l/\a.r.l=b.r.l),[],True⟩):=by
 refine cw func20 (⟨λh3=>vk ?_,λh3=>vk ?_⟩)
 ·replace h3:((a.c.l.length:Nat):Int)≠(b.c.l.length:Nat)\/((a.r.l.length:Nat):Int)≠(b.r.l.length:Nat):=h3
  exact⟨(),tV,aI (ff λhh=>by rw[hh.1,hh.2] at h3;omega) U tV⟩
 replace h3:¬(((a.c.l.length:Nat):Int)≠(b.c.l.length:Nat)\/((a.r.l.length:Nat):Int)≠(b.r.l.length:Nat)):=h3
 have hc:a.c.l.length=b.c.l.length:=Uc
 have hr:a.r.l.length=b.r.l.length:=Uc
 refine bX (λ_=>true) (λk:Nat=>smG 5 k) (λ_=>smB a b) (λ_=>[]) (λk=>k<=b.c.l.length/\∀i,i<k->a.c.l.getD i 0=b.c.l.getD i 0) (λk=>b.c.l.length-k) λhM=>⟨hM 0 ⟨aB _,λi hi=>U4 hi (aF _)⟩ U ⟨U,U⟩ U1 ⟨U,U,U⟩ bL aMj U,λk ⟨hk,hw⟩=>vk ⟨λh4=>vk ?_,λh4=>vk ?_⟩⟩
 ·replace h4:(k:Int)<(a.c.l.length:Nat):=h4
  have hka:k<a.c.l.length:=Uc
  have hkb:k<b.c.l.length:=Uc
  refine⟨.seq [(0,false),(1,false),(2,false),(3,false),(4,false),(5,false),(6,false),(7,false),(8,false),(9,false),(10,false)],U0,k,⟨U,hka⟩,k,⟨U,hkb⟩,λh5=>vk ?_,λh5=>vk ?_⟩
  ·replace h5:a.c.l.getD k 0≠b.c.l.getD k 0:=h5
   exact⟨(),tV,aI (ff λhh=>h5 (by rw[hh.1])) U tV⟩
  replace h5:¬a.c.l.getD k 0≠b.c.l.getD k 0:=h5
  exact⟨(k+1:Nat),wi,hM (k+1) ⟨⟨hkb,λi hi=>by
   rcases bR (cB hi) with h|rfl
   ·exact hw i h
   exact cR.1 h5⟩,show b.c.l.length-(k+1)<b.c.l.length-k by omega⟩ U ⟨U,U⟩ U1 ⟨U,U,U⟩ bL aMj U⟩
 replace h4:¬(k:Int)<(a.c.l.length:Nat):=h4
 obtain rfl:k=b.c.l.length:=Uc
 have ec:a.c.l=b.c.l:=yL hc hw
 refine vk ?_
 show Sd _ _ _ _ _ _
 refine bX (λ_=>true) (λk:Nat=>smG 6 k) (λ_=>smB a b) (λ_=>[]) (λk=>k<=b.r.l.length/\∀i,i<k->a.r.l.getD i 0=b.r.l.getD i 0) (λk=>b.r.l.length-k) λhM=>⟨hM 0 ⟨aB _,λi hi=>U4 hi (aF _)⟩ U ⟨U,U⟩ U1 ⟨U,U,U⟩ bL aMj U,λk ⟨hk,hw⟩=>vk ⟨λh4=>vk ?_,λh4=>vk ?_⟩⟩
 ·replace h4:(k:Int)<(a.r.l.length:Nat):=h4
  have hka:k<a.r.l.length:=Uc
  have hkb:k<b.r.l.length:=Uc
  refine⟨.seq [(0,false),(1,false),(2,false),(3,false),(4,false),(5,false),(6,false),(7,false),(8,false),(9,false),(10,false)],U0,k,⟨U,hka⟩,k,⟨U,hkb⟩,λh5=>vk ?_,λh5=>vk ?_⟩
  ·replace h5:a.r.l.getD k 0≠b.r.l.getD k 0:=h5
   exact⟨(),tV,aI (ff λhh=>h5 (by rw[hh.2])) U tV⟩
  replace h5:¬a.r.l.getD k 0≠b.r.l.getD k 0:=h5
  exact⟨(k+1:Nat),wi,hM (k+1) ⟨⟨hkb,λi hi=>by
   rcases bR (cB hi) with h|rfl
   ·exact hw i h
   exact cR.1 h5⟩,show b.r.l.length-(k+1)<b.r.l.length-k by omega⟩ U ⟨U,U⟩ U1 ⟨U,U,U⟩ bL aMj U⟩
 replace h4:¬(k:Int)<(a.r.l.length:Nat):=h4
 obtain rfl:k=b.r.l.length:=Uc
 exact vk ⟨(),tV,aI (tt ⟨ec,yL hr hw⟩) U tV⟩
structure SmP (p:ProgM):Prop where
 n:p.c.l.length<=4/\p.r.l.length<=4
 c:bEy p.c.l
 r:∀r∈p.r.l,∃b es,RwS r b es p.c.l.length
theorem SmP.prg {p:ProgM} (h:SmP p):∃q,PrG p q 3:=by
 obtain⟨h1,h2⟩:=h.n
 obtain⟨f,hf⟩:=pD (r:=λ(j:Nat) (t:Rat×Rat×Rat)=>j<p.c.l.length->ClS (p.c.l.getD j U6) t.1 t.2.1 t.2.2) λj=>by
  by_cases hj:j<p.c.l.length
  ·obtain⟨k,l,u,hc⟩:=h.c _ (fN hj)
   exact⟨(k,l,u),λ_=>hc⟩
  exact⟨(0,0,0),λhh=>U4 hh hj⟩
 obtain⟨g,hg⟩:=pD (r:=λ(i:Nat) (t:Rat×List En)=>i<p.r.l.length->RwS (p.r.l.getD i U6) t.1 t.2 p.c.l.length) λi=>by
  by_cases hi:i<p.r.l.length
  ·obtain⟨b,es,hc⟩:=h.r _ (fN hi)
   exact⟨(b,es),λ_=>hc⟩
  exact⟨(0,[]),λhh=>U4 hh hi⟩
 exact⟨⟨λj=>(f j).1,λj=>(f j).2.1,λj=>(f j).2.2,λi=>(g i).1,λi=>(g i).2⟩,{
  v:={
   rd:=⟨λj hj=>(hf j hj).r,λi hi=>⟨(hg i hi).rd.b.le dC,(hg i hi).rd.e.le dC⟩⟩
   h1:=by decide
   hB:=by decide
   c:=Uc
   r:=Uc
   x:=λj hj=>(hf j hj).x
   v:=λi hi=>⟨(hg i hi).s,(hg i hi).v⟩
   e:=λi hi e he=>((hg i hi).e e he).le dC}
  k:=λj hj=>(hf j hj).k
  rl:=Uc
  cl:=Uc
  bB:=by decide}⟩
theorem SmP.bd {p:ProgM} (h:SmP p):bd 3 p.r.l.length<=4398046511104:=by
 exact aJ (mV h.n.2) (by decide+kernel)
structure RpS (p:ProgM) (b g:BasM):Prop where
 ex:∃q,PrG p q 3/\RpR p q b g
abbrev exC (k:RatM):ColM:=bEv k true U6 false U6
abbrev exW (k:RatM):List CV:=[.b k.n.p k.n.d,eI k.n.m,eI k.d,.b (true=true) inferInstance,.b (false=true) inferInstance,.v (.slice none 0 0),.v (.slice none 0 0),.b (false=true) inferInstance,.b (false=true) inferInstance,.v (.slice none 0 0),.v (.slice none 0 0)]
theorem LeL.app {l1 l1' l2 l2':List CV} (h1:LeL l1 l1') (hl:l1'.length=l1.length) (h2:LeL l2 l2'):LeL (l1++l2) (l1'++l2'):=by
 induction l1 generalizing l1' with
 |nil=>
  cases l1' with
  |nil=>exact h2
  |cons a t=>cases hl
 |cons a t ih=>
  cases l1' with
  |nil=>cases hl
  |cons a' t'=>exact .cons (h1 0 a a' U U) (ih (λk c c' e1 e2=>h1 (k+1) c c' e1 e2) (Nat.succ.inj hl))
theorem bFx {k:RatM}:LeL (exW k) (exC k).C:=.cons (fE _) (.cons (fE _) (.cons (fE _) (.cons (fE _) (.cons (fE _) (.cons qW (.cons qW (.cons (fE _) (.cons (fE _) (.cons qW (.cons qW (LeL.refl _)))))))))))
structure ExP (p:ProgM):Prop where
 ex:∃(k1 k2 b v1 v2:RatM) (e:Sl EntM),(Cr k1 1/\Cr k2 1/\Cr b 3/\Cr v1 1/\Cr v2 1)/\p.c.l=[exC k1,exC k2]/\p.r.l=[⟨1,b,e⟩]/\e.l=[⟨0,v1⟩,⟨1,v2⟩]
abbrev exE (v1 v2:RatM):List CV:=ecs [⟨0,v1⟩,⟨1,v2⟩]
abbrev exB (k1 k2 b v1 v2:RatM):BL:=[(25,0,[.s 1 2,.s 3 1]),(67,11,exW k1++exW k2),(75,4,exE v1 v2),(59,5,[iC 1,.b b.n.p b.n.d,eI b.n.m,eI b.d,.s 2 2])]
theorem bUo {k1 k2 b v1 v2:RatM}:scB 4 (exB k1 k2 b v1 v2):=aA U (aA U (aA U (aA U aU)))
theorem bZs:Ctr pgQ 13 [] [] [] (λg:ProgM=>⟨.a g.C,[],ExP g⟩):=by
 refine gA gT (eo func13) func13 U U U bL ClB.nil (Sd.sq (vk (Sd.sq (vk ⟨[],tS (z:=1) dC,U,U,U,λk1 h1=>⟨[],tS (z:=1) dC,U,U,U,λk2 h2=>⟨[],tS (z:=3) dC,U,U,U,λb hb=>⟨[],tS (z:=1) dC,U,U,U,λv1 hv1=>⟨[],tS (z:=1) dC,U,U,U,λv2 hv2=>?_⟩⟩⟩⟩⟩))))
 refine tSd _ Unit (λ_=>⟨[(0,.c (.p 0 0))]++[],[],exB k1 k2 b v1 v2,[]⟩) (λ_=>True) ?_ λ_ _=>?_
 ·exact iP (M:=λ_=>true) (base:=[]) (chg:=λ_:Unit=>[(0,.c (.p 0 0))]) (bls:=λ_=>exB k1 k2 b v1 v2) (fls:=λ_=>[]) (λt d ht=>by cases ht) () trivial U rS trivial U bL bUo U
 refine aUt 1 ((exC k1).C++(exC k2).C) U U (LeL.app (l1:=exW k1) (l2:=exW k2) bFx U bFx) ?_
 refine kT tSd 2 U bL (lE U) bL U λA1 a1=>⟨_,lM kE (lE U),_,U,jQ tSd 3 0 [iC 1,.b b.n.p b.n.d,eI b.n.m,eI b.d,cF ⟨A1.map λb=>⟨b,0,none⟩,a1,[⟨0,v1⟩,⟨1,v2⟩]⟩] U U U U (qD (k0:=4) U bYw) ?_⟩
 refine kT tSd 3 U bL (lE U) bL U λA2 a2=>⟨_,lM kE (lE U),_,U,jQ tSd 0 1 [.s 1 2,aLk ⟨A2.map λb=>⟨b,0,none⟩,a2,[⟨1,b,⟨A1.map λb=>⟨b,0,none⟩,a1,[⟨0,v1⟩,⟨1,v2⟩]⟩⟩]⟩] U U U U (qD (k0:=1) U (bKx (f:=RowM.C) (dd:=U6) (L:=[⟨1,b,⟨A1.map λb=>⟨b,0,none⟩,a1,[⟨0,v1⟩,⟨1,v2⟩]⟩⟩]) (λ_=>U) dC)) ?_⟩
 refine kT tSd 1 U bL (lE U) bL U λA3 a3=>⟨_,U,_,U,jQ tSd 0 2 [aBu ⟨A3.map λb=>⟨b,0,none⟩,a3,[exC k1,exC k2]⟩,aLk ⟨A2.map λb=>⟨b,0,none⟩,a2,[⟨1,b,⟨A1.map λb=>⟨b,0,none⟩,a1,[⟨0,v1⟩,⟨1,v2⟩]⟩⟩]⟩] U U U U (qD (k0:=0) U (bKx (f:=ColM.C) (dd:=U6) (L:=[exC k1,exC k2]) (λ_=>U) dC)) ?_⟩
 exact vk ⟨⟨⟨A3.map λb=>⟨b,0,none⟩,a3,[exC k1,exC k2]⟩,⟨A2.map λb=>⟨b,0,none⟩,a2,[⟨1,b,⟨A1.map λb=>⟨b,0,none⟩,a1,[⟨0,v1⟩,⟨1,v2⟩]⟩⟩]⟩⟩,⟨k1,k2,b,v1,v2,_,⟨h1,h2,hb,hv1,hv2⟩,U,U,U⟩,aI U U tV⟩
def exQ:PrQ:=⟨λ_=>1,λ_=>0,λ_=>0,λ_=>3,λ_=>[(0,1),(1,1)]⟩
theorem bFy:VOk [((0:Int),(1:Rat)),(1,1)] ((2:Nat):Int):=⟨.cons (λb hb=>by rw[aE.1 hb];decide) (.cons (λb hb=>by cases hb) .nil),λe he=>by
 rcases bW.1 he with rfl|he
 ·exact⟨by decide,by decide,by decide⟩
 rw[aE.1 he];exact⟨by decide,by decide,by decide⟩⟩
theorem ExP.cl {p:ProgM} (h:ExP p):p.c.l.length=2:=by obtain⟨k1,k2,b,v1,v2,e,_,h1,_,_⟩:=h.ex;rw[h1];rfl
theorem ExP.rl {p:ProgM} (h:ExP p):p.r.l.length=1:=by obtain⟨k1,k2,b,v1,v2,e,_,_,h1,_⟩:=h.ex;rw[h1];rfl
theorem ExP.col {p:ProgM} (h:ExP p) {j:Nat} (hj:j<p.c.l.length):∃k,Cr k 1/\p.c.l.getD j U6=exC k:=by
 obtain⟨k1,k2,b,v1,v2,e,⟨a1,a2,_⟩,h1,_,_⟩:=h.ex
 rw[h1] at hj ⊢
 match j,hj with
 |0,_=>exact⟨k1,a1,U⟩
 |1,_=>exact⟨k2,a2,U⟩
theorem ExP.row {p:ProgM} (h:ExP p) {i:Nat} (hi:i<p.r.l.length):∃b v1 v2 e,p.r.l.getD i U6=⟨1,b,e⟩/\Cr b 3/\Cr v1 1/\Cr v2 1/\e.l=[⟨0,v1⟩,⟨1,v2⟩]:=by
 obtain⟨k1,k2,b,v1,v2,e,⟨a1,a2,a3,a4,a5⟩,h1,h2,h3⟩:=h.ex
 rw[h2] at hi ⊢
 match i,hi with
 |0,_=>exact⟨b,v1,v2,e,U,a3,a4,a5,h3⟩
theorem aSd:rb 1 1:=⟨by decide,by decide⟩
theorem bZt:rb 3 1:=⟨by decide,by decide⟩
theorem cDn:rb 0 1:=⟨by decide,by decide⟩
theorem ExP.ncr {k:RatM} {l u:Rat}:¬Crs (exC k) l u:=λhh=>by have h1:(false=true):=hh.1.2;cases h1
theorem ExP.prg {p:ProgM} (h:ExP p):PrG p exQ 3:=by
 have h1:=h.cl
 have h2:=h.rl
 exact {
  v:={
   rd:=⟨λj hj=>by
    obtain⟨k,hk,e⟩:=h.col hj
    rw[e]
    exact⟨hk.rq (aSd.le dC),wI,wI⟩,λi hi=>by
    obtain⟨b,v1,v2,e,er,hb,hv1,hv2,he⟩:=h.row hi
    rw[er]
    refine⟨hb.rq (bZt.le dC),⟨by rw[he];rfl,λk hk=>?_⟩⟩
    show(e.l.getD k U6).ix=_/\Rq (e.l.getD k U6).v _ 3
    rw[he]
    match k,hk with
    |0,_=>exact⟨U,hv1.rq (aSd.le dC)⟩
    |1,_=>exact⟨U,hv2.rq (aSd.le dC)⟩⟩
   h1:=by decide
   hB:=by decide
   c:=Uc
   r:=Uc
   x:=λj hj=>by
    obtain⟨k,hk,e⟩:=h.col hj
    rw[e];exact ExP.ncr
   v:=λi hi=>by
    obtain⟨b,v1,v2,e,er,_⟩:=h.row hi
    refine⟨by rw[er];exact .inr (.inr rfl),?_⟩
    rw[h1];exact bFy
   e:=λi hi e he=>by
    rcases bW.1 he with rfl|he
    ·exact aSd.le dC
    rw[aE.1 he];exact aSd.le dC}
  k:=λj hj=>aSd.le dC
  rl:=Uc
  cl:=Uc
  bB:=by decide}
theorem ExP.bd {p:ProgM} (h:ExP p):bd 3 p.r.l.length<=4398046511104:=by rw[h.rl];decide+kernel
structure ExB (b:BasM):Prop where
 c:b.c.l=[2,0]
 r:b.r.l=[0]
theorem ExP.val {p:ProgM} {b:BasM} (h:ExP p) (hb:ExB b):BVal p exQ b:=by
 have h1:=h.cl
 have h2:=h.rl
 have e1:bcL b p.c.l.length=[0]:=by
  rw[h1]
  exact(jO (P:=λj=>b.c.l.getD j 0=2) (k:=1) (by show ¬b.c.l.getD 1 0=2;rw[hb.c];decide)).trans ((gY (P:=λj=>b.c.l.getD j 0=2) (k:=0) (by show b.c.l.getD 0 0=2;rw[hb.c];rfl)).trans rfl)
 have e2:brL b p.r.l.length=[0]:=by
  rw[h2]
  exact(gY (P:=λi=>b.r.l.getD i 0≠2) (k:=0) (by show b.r.l.getD 0 0≠2;rw[hb.r];decide)).trans rfl
 refine⟨⟨by rw[h1,hb.c];rfl,by rw[h2,hb.r];rfl,λj hj=>?_,λi hi=>?_⟩,by rw[e1,e2],?_⟩
 ·obtain⟨k,hk,e⟩:=h.col hj
  rw[e,hb.c]
  match j,(show j<2 by omega) with
  |0,_=>exact .inl rfl
  |1,_=>exact .inr (.inl ⟨U,U⟩)
 ·obtain⟨b',v1,v2,e,er,_⟩:=h.row hi
  rw[er,hb.r]
  match i,(show i<1 by omega) with
  |0,_=>exact .inr rfl
 rw[e2]
 intro ⟨x,⟨i,hi,hx⟩,hk⟩
 have h3:=hk 0 dC
 have h0:i=0:=by have:i<1:=hi;omega
 subst h0
 have hp:=h.prg.v
 have ec:=(eN (P:=λj=>b.c.l.getD j 0=2) p.c.l.length).1
 have h4:Vm.get (zS p exQ b 0) ((0:Nat):Int)=1:=by
  refine(pO (κ:=atN (bcL b p.c.l.length)) (n:=(bcL b p.c.l.length).length) (es:=[((0:Int),(1:Rat)),(1,1)]) (k:=0) (λk l hkl hl=>ec.mono k l hkl hl) bFy.1 (by rw[e1];decide)).trans ?_
  rw[e1]
  decide+kernel
 have h5:(0:Rat)+Vm.get (zS p exQ b 0) ((0:Nat):Int)*x 0=0:=h3
 rw[h4] at h5
 exact hx (by grind)
section ex
variable {p:ProgM} {b:BasM}
theorem ExP.pt (h:ExP p) (hb:ExB b) {Bx:Nat} {qs:List Rat} (hx:PtR p exQ b Bx qs):qs=[3,0]:=by
 have h1:=hx.ln
 rw[h.cl] at h1
 match qs,h1 with
 |[a,c],_=>
  have h2:c=x0N exQ b 1:=hx.x0 1 (by rw[h.cl];decide) (by rw[hb.c];decide)
  have h3:x0N exQ b 1=0:=U3 (by rw[hb.c];rfl)
  have h4:(1:Rat)*a+((1:Rat)*c+0)=3:=hx.ti 0 (by rw[h.rl];decide) (by rw[hb.r];decide)
  have h5:c=0:=h2.trans h3
  rw[h5] at h4 ⊢
  rw[show a=3 by grind]
theorem ExP.mu (h:ExP p) (hb:ExB b) {By:Nat} {ps:List Rat} (hy:MuR p exQ b By ps):ps=[1]:=by
 have h1:=hy.ln
 rw[h.rl] at h1
 match ps,h1 with
 |[a],_=>
  have h2:=hy.d 0 (by rw[h.cl];decide) (by rw[hb.c];rfl)
  rw[h.rl] at h2
  have h3:(0:Rat)+a*Vm.get [((0:Int),(1:Rat)),(1,1)] ((0:Nat):Int)=1:=h2
  rw[show Vm.get [((0:Int),(1:Rat)),(1,1)] ((0:Nat):Int)=1 by decide+kernel] at h3
  rw[show a=1 by grind]
theorem ExP.fsb (h:ExP p):Fsb p exQ [3,0]:=by
 refine⟨λj hj hh=>?_,λi hi hh=>?_⟩
 ·obtain⟨k,hk,e⟩:=h.col hj
  have hh2:bTd (p.c.l.getD j U6) 0 0 (lQ [3,0] j):=hh
  rw[e] at hh2
  rw[h.cl] at hj
  rcases hh2 with h2|h2
  ·match j,hj with
   |0,_=>exact U4 h2.2 (show ¬(3:Rat)<0 by decide+kernel)
   |1,_=>exact U4 h2.2 (show ¬(0:Rat)<0 by decide+kernel)
  have h3:(false=true):=h2.1
  cases h3
 obtain⟨b',v1,v2,e,er,_⟩:=h.row hi
 have hh2:Brk (p.r.l.getD i U6).s (dtl [((0:Int),(1:Rat)),(1,1)] (lQ [3,0])) 3:=hh
 rw[show dtl [((0:Int),(1:Rat)),(1,1)] (lQ [3,0])=3 by decide+kernel] at hh2
 rcases hh2 with h2|h2
 ·exact U4 h2.1 (show ¬(3:Rat)<3 by decide+kernel)
 exact U4 h2.1 (show ¬(3:Rat)<3 by decide+kernel)
theorem ExP.dual (h:ExP p) (hb:ExB b):Sgd p [1]/\DuR p exQ b [1] p.c.l.length:=by
 refine⟨λi hi hh=>?_,λj hj hn hh=>?_⟩
 ·obtain⟨b',v1,v2,e,er,_⟩:=h.row hi
  rw[er] at hh
  rw[h.rl] at hi
  match i,hi with
  |0,_=>
   rcases hh with h2|h2
   ·exact U4 h2.1 (show ¬(1:Int)=-1 by decide)
   exact U4 h2.2 (show ¬sgn (1:Rat).num<0 by decide+kernel)
 rw[h.cl] at hj
 match j,hj with
 |0,_=>exact hn (.inl (by rw[hb.c];rfl))
 |1,_=>
  have e:kF exQ [1] p.r.l.length 1=0:=by
   rw[h.rl]
   show(1:Rat)-1*Vm.get [((0:Int),(1:Rat)),(1,1)] ((1:Nat):Int)=0
   decide+kernel
  rw[e] at hh
  rcases hh with h2|h2
  ·exact U4 h2.1 (show ¬sgn (0:Rat).num<0 by decide+kernel)
  exact U4 h2.1 (show ¬0<sgn (0:Rat).num by decide+kernel)
theorem ExP.rep (h:ExP p) {g:BasM} (hg:RpR p exQ ⟨cG,cG⟩ g):g.c.l=[0,0]/\g.r.l=[2]:=by
 have hw:(wnL p ⟨cG,cG⟩)=[]:=by
  have:(wnL p ⟨cG,cG⟩).length<=min p.c.l.length 0:=fA
  exact iK.1 oM
 have hc:(gZ p exQ ⟨cG,cG⟩).length=0:=by
  have:(gZ p exQ ⟨cG,cG⟩).length<=(wnL p ⟨cG,cG⟩).length:=fA
  rw[hw] at this
  exact Nat.le_zero.1 this
 have hl:(ltL p exQ ⟨cG,cG⟩).length=0:=(bFw (p:=p) (q:=exQ) (b:=⟨cG,cG⟩)).1.trans hc
 have h1:=h.cl
 have h2:=h.rl
 refine⟨yL (by rw[hg.cl,h1];rfl) λj hj=>?_,yL (by rw[hg.rl,h2];rfl) λi hi=>?_⟩
 ·have hj':j<2:=hj
  rw[hg.c0 j oM λk hk=>U4 hk oM]
  obtain⟨k,hk,e⟩:=h.col (j:=j) oM
  rw[e]
  have h3:stC (exC k) (⟨cG,cG⟩:BasM).c.l j=dfC (exC k):=U2 λhh=>U4 hh.1.1 (aF _)
  have h4:dfC (exC k)=0:=U3 U
  rw[h3,h4]
  match j,hj' with
  |0,_=>rfl
  |1,_=>rfl
 have hi':i<1:=hi
 rw[hg.r2 i oM λk hk=>U4 hk oM]
 match i,hi' with
 |0,_=>rfl
end ex
theorem bFz {D:Pl} {n:Nat} {w:World} {c:CV} {x:Value} (h:Hc D n w c x) (hc:fS c=true):Rc (Zf D n w) w c x:=by
 cases c<;>first|exact h|cases hc
theorem bGa {D:Pl} {n i T e m:Nat} {w:World} {l:List CV} {Z:Nat->Prop} {get:Nat->List CV} (hq:Bq D n w i T e l) (he:0<e) (hl:m*e=l.length) (hg:∀j,j<m->get j=(l.drop (j*e)).take e) (hc:∀c∈l,fS c=true) (hZ:∀b,(D i).1=some b->Z b) (hz:∀b,Zf D n w b->Z b):
 Rc Z w (.r ((D i).1.map λb=>⟨b,0,none⟩) m (D i).2 e get) (.slice ((D i).1.map λb=>⟨b,0,none⟩) m (D i).2):=by
 unfold Bq at hq
 cases hb:(D i).1 with
 |none=>
  simp only[hb] at hq
  rw[hq.1] at hl
  have h0:m=0:=by
   rcases cL m with h|h
   ·exact h
   have:=gB h he;simp at hl;omega
  subst h0
  rw[hq.2.1]
  exact Rc.nil _ _ _ _ (aB _)
 |some b=>
  simp only[hb] at hq
  obtain⟨vl,junk,h1,h2,h3,h4⟩:=hq
  obtain⟨h5,h6⟩:=h3 he
  have hlen:=h2.len
  have hml:m*e<=(D i).2*e:=by rw[h5,aD,<-hlen];omega
  have hmc:m<=(D i).2:=eS hml he
  have hjb:∀j,j<m->j*e+e<=l.length:=λj hj=>by
   rw[<-hl]
   have:(j+1)*e<=m*e:=aT e hj
   rw[dH] at this
   exact this
  refine Rc.r b 0 m (D i).2 e get (λj=>(vl.drop (j*e)).take e) hmc h6 (hZ b hb) (λj hj q u hu=>?_) (λj hj=>?_) λj hj q c u hcq hu=>?_
  ·rw[fK] at hu
   split at hu
   ·rw[dN] at hu
    exact⟨by rw[eP];exact nR h1 hu,h4 u (aR hu)⟩
   cases hu
  ·rw[hg j hj,bI,bI,cP,cP,hlen]
  rw[hg j hj] at hcq
  rw[fK] at hcq hu
  split at hu
  ·next hqe=>
   rw[U3 hqe,dN] at hcq
   rw[dN] at hu
   obtain⟨x,h7,h8⟩:=h2.get hcq
   rw[hu] at h7
   injection h7 with h7
   subst h7
   have hcl:=hc c (aR hcq)
   have h9:Rc (Zf D n w) w c u:=bFz h8 hcl
   exact h9.mono λb hb=>⟨hz b hb,U⟩
  cases hu
abbrev smL (C R:List Int):BL:=[(3,1,C.map iC),(3,1,R.map iC)]
theorem bZu (a:BasM) (C R:List Int) (h1:a.c.l.length<=4096) (h2:a.r.l.length<=4096) (hc:a.c.l=C) (hr:a.r.l=R):Ctr pgQ 20 [true,true] [.a a.C,.a [.s 0 C.length,.s 1 R.length]] (smL C R) (λ_:Unit=>⟨.c (.v (.bool true)),smL C R,True⟩):=by
 refine Ctr.lend (τ:=BasM) (al:=λb=>[.a a.C,.a b.C]) (X:=λb=>a.c.l=b.c.l/\a.r.l=b.r.l) (R:=λ_:Unit=>⟨.c (.v (.bool true)),[],True⟩) (eo func20) (λb hb=>CtrF.ld (aPk a b h1 h2) λg hg=>⟨(),tV,λ_ _ _ _ hv=>aIq hb hv,U,U⟩) ?_ ?_ ?_
 ·intro g D n w v h ρ' n' w'
  rw[h.inv_c.inv_v]
  exact .c (Rc.v _)
 ·exact ClB.cons (λ_=>aX.2 (aW _)) (eW (aX.2 (aW _)))
 intro D w vals hD hv
 match vals,hv with
 |[x,y],⟨hx,hy,_⟩=>
  have hz:∀b,Zf D 2 w b->Zf ⟨D.at',λ_=>True,[]⟩ 0 w b:=λb hb=>⟨hb.lt,λi hi=>U4 hi (aF _),tV,λ⟨F,hF,_⟩=>by cases hF⟩
  have hZ:∀i,i<2->∀b,(D i).1=some b->Zf ⟨D.at',λ_=>True,[]⟩ 0 w b:=λi hi b hb=>⟨hD.lt (i:=i) hi hb,λi hi=>U4 hi (aF _),tV,λ⟨F,hF,_⟩=>by cases hF⟩
  refine⟨⟨⟨(D 0).1.map λb=>⟨b,0,none⟩,(D 0).2,C⟩,⟨(D 1).1.map λb=>⟨b,0,none⟩,(D 1).2,R⟩⟩,⟨hc,hr⟩,?_,?_,tV⟩
  ·cases hx with
   |a h=>
    next vl=>
    match vl,h with
    |[_,_],⟨g0,g1,_⟩=>exact .a ⟨(bFz g0 U).mono λb hb=>⟨hz b hb,U⟩,(bFz g1 U).mono λb hb=>⟨hz b hb,U⟩,tV⟩
  cases hy with
  |a h=>
   next vl=>
   match vl,h with
   |[u,v],⟨g0,g1,_⟩=>
    refine .a ⟨?_,?_,tV⟩
    ·show Rc _ w (cI _) u
     rw[g0.2]
     exact bGa (hD.ok 0 _ _ _ U) bL (by rw[aK,bE]) (λj hj=>mS j hj) (aW _) (hZ 0 bL) hz
    show Rc _ w (cI _) v
    rw[g1.2]
    exact bGa (hD.ok 1 _ _ _ U) bL (by rw[aK,bE]) (λj hj=>mS j hj) (aW _) (hZ 1 bL) hz
theorem aSe:LeL [.v (.slice none 0 0),.v (.slice none 0 0)] (⟨cG,cG⟩:BasM).C:=.cons qW (.cons qW (LeL.refl _))
theorem bLn (p:ProgM) (h:ExP p):Ctr pgQ 15 [] [.a p.C,.a [.v (.slice none 0 0),.v (.slice none 0 0)]] [] (λg:BasM=>⟨.t [.a g.C,.c (iC 0)],[],g.c.l=[0,0]/\g.r.l=[2]⟩):=
 CtrF.arg (al:=[.a p.C,.a (⟨cG,cG⟩:BasM).C]) (CtrF.re (bOo p ⟨cG,cG⟩ h.prg.v (by rw[h.rl];decide) (by rw[h.cl];decide) h.bd) λg hg=>⟨g,h.rep hg,U,U,U⟩) λD n w vals hv=>by
  match vals,hv with
  |[x,y],⟨hx,hy,_⟩=>exact⟨hx,LeL.hd aSe U hy,tV⟩
theorem bZv (p:ProgM) (b:BasM) {q:PrQ} {B:Nat} (h:PrG p q B) (hb:BVal p q b):Ctr pgQ 16 [] [.a p.C,.a b.C] [] (λ_:Unit=>⟨.c (.v (.bool true)),[],True⟩):=CtrF.ld (bOg p b h.v (by have:=h.rl;omega) (h.f (by have:=h.rl;omega))) λg hg=>⟨(),tV,λ_ _ _ _ hv=>aIq hb hv,U,U⟩
theorem bZw (p:ProgM) (b:BasM) (h:ExP p) (hb:ExB b):Ctr pgQ 21 [] [.a p.C,.a b.C] [] (λ_:Unit=>⟨.c (.v (.bool true)),[],True⟩):=CtrF.ld (bOm p b h.prg (h.val hb)) λg hg=>⟨(),tV,λ_ _ _ _ hv=>aIq (by rw[h.pt hb (show PtL p exQ b g.1 g.2 from hg).2];exact h.fsb) hv,U,U⟩
theorem bZx (p:ProgM) (b:BasM) (h:ExP p) (hb:ExB b):Ctr pgQ 22 [] [.a p.C,.a b.C] [] (λ_:Unit=>⟨.c (.v (.bool true)),[],True⟩):=CtrF.ld (bOn p b h.prg (h.val hb)) λg hg=>⟨(),tV,λ_ _ _ _ hv=>aIq (by rw[h.mu hb (show MuL p exQ b g.1 g.2 from hg).2];exact h.dual hb) hv,U,U⟩
theorem bZy (p:ProgM) (b:BasM) (h:ExP p) (hb:ExB b):Ctr pgQ 14 [] [.a p.C,.a b.C] [] (λg:Sl RatM=>⟨.t [.c (dS g),.c (iC 0)],[],Rl g.l [3,0]⟩):=CtrF.re (bFp p b h.prg (h.val hb)) λg hg=>⟨g.1,by have:=h.pt hb (show PtL p exQ b g.1 g.2 from hg).2;rw[<-this];exact(show PtL p exQ b g.1 g.2 from hg).1,U,U,U⟩
theorem bLo (x y:Sl RatM) (hx:Rl x.l [3,0]) (hy:Rl y.l [3,0]):Ctr pgQ 17 [] [.c (dS x),.c (dS y)] [] (λ_:Unit=>⟨.c (.v (.bool true)),[],True⟩):=CtrF.ld (aUe x y hx hy (λq hq=>by
 rcases bW.1 hq with rfl|hq
 ·exact bZt.le dC
 rw[aE.1 hq];exact cDn.le dC) dC) λg hg=>⟨(),tV,λ_ _ _ _ hv=>aIq trivial hv,U,U⟩
abbrev bUp (p:ProgM):BL:=[(25,0,p.C),(3,1,[iC 2,iC 0]),(3,1,[iC 0]),(28,0,[.s 1 2,.s 2 1])]
theorem bLp {p:ProgM}:scB 4 (bUp p):=aA U (aA U (aA U (aA U aU)))
theorem bLq:Ctr pgQ 7 [] [] [] (λ_:Unit=>⟨.c (.v (.bool true)),[],True⟩):=by
 refine gA gT (eo func7) func7 U U U bL ClB.nil (Sd.sq (vk (Sd.sq (vk ⟨[],bZs,U,U,U,λp hp=>?_⟩))))
 replace hp:ExP p:=hp
 refine Sd.sq (vk ?_)
 refine tSd _ Unit (λ_=>⟨[(1,.c (.p 0 0)),(2,.c (.p 3 0))]++[],[],bUp p,[]⟩) (λ_=>True) ?_ λ_ _=>?_
 ·exact iP (M:=λ_=>true) (base:=[]) (chg:=λ_:Unit=>[(1,.c (.p 0 0)),(2,.c (.p 3 0))]) (bls:=λ_=>bUp p) (fls:=λ_=>[]) (λt d ht=>by cases ht) () trivial U rS trivial ⟨U,U⟩ bL bLp U
 refine kT tSd 2 U bL (aW [0]) bL U λA a1=>⟨_,lM kE (aW [2,0]),jQ tSd 3 0 [.s 1 2,cI ⟨A.map λb=>⟨b,0,none⟩,a1,[0]⟩] U U U U (qD (k0:=1) U (aEa (L:=[0]))) ?_⟩
 refine kT tSd 1 U bL (aW [2,0]) bL U λA2 a2=>⟨_,U,jQ tSd 3 1 [cI ⟨A2.map λb=>⟨b,0,none⟩,a2,[2,0]⟩,cI ⟨A.map λb=>⟨b,0,none⟩,a1,[0]⟩] U U U U (qD (k0:=0) U (aEa (L:=[2,0]))) ?_⟩
 obtain⟨C,hC⟩:∃C:Sl Int,C=⟨A2.map λb=>⟨b,0,none⟩,a2,[2,0]⟩:=⟨_,U⟩
 obtain⟨R,hR⟩:∃R:Sl Int,R=⟨A.map λb=>⟨b,0,none⟩,a1,[0]⟩:=⟨_,U⟩
 rw[<-hC,<-hR]
 have hb:ExB ⟨C,R⟩:=⟨by rw[hC],by rw[hR]⟩
 refine vk ⟨[],bZy p ⟨C,R⟩ hp hb,U,U,U,λx hx=>⟨[],bLn p hp,U,U,U,λr hr=>⟨[],bZv p ⟨C,R⟩ hp.prg (hp.val hb),U,U,U,λ_ _=>?_⟩⟩⟩
 replace hx:Rl x.l [3,0]:=hx
 replace hr:r.c.l=[0,0]/\r.r.l=[2]:=hr
 refine⟨λh1=>⟨[],tS (z:=3) dC,U,U,U,λf hf=>⟨[],xZ,U,U,U,λz hz=>⟨some (λj=>(([f,z]:List RatM).getD j U6).C),⟨⟨bL,bL⟩,U,λj hj=>?_,lE U⟩,λA3 a3 _ _=>⟨λc hc=>(dI hc).elim,λc hc=>(dI hc).elim,[],bLo x ⟨A3,a3,[f,z]⟩ hx ⟨U,λk hk=>?_⟩,U,U,U,λ_ _=>?_⟩⟩⟩⟩,λh1=>U4 U h1⟩
 ·match j,hj with
  |0,_=>rfl
  |1,_=>rfl
 ·match k,hk with
  |0,_=>exact hf
  |1,_=>exact hz
 refine⟨λh2=>⟨[6,7],bZu r [0,0] [2] (by rw[hr.1];decide) (by rw[hr.2];decide) hr.1 hr.2,U,U,U,λ_ _=>⟨[],bZw p ⟨C,R⟩ hp hb,U,U,U,λ_ _=>⟨[],bZx p ⟨C,R⟩ hp hb,U,U,U,λ_ _=>⟨(),tV,aI U U tV⟩⟩⟩⟩,λh2=>U4 U h2⟩
def cDo:Ord:=.joinX [] [2000,2] (.alt 1 (.alt 3 (trS [4,1005]) (.alt 4 (trS [3,1005]) .nil)) (.alt 4 (trS [1,3,1005]) .nil))
structure BnH (p:ProgM) (q:PrQ) (y:Sl RatM) (ps:List Rat) (B By:Nat):Prop where
 z:PrZ p q y ps B By
 s:Sgd p ps
 c:∀j,j<p.c.l.length->(0<kF q ps p.r.l.length j->(p.c.l.getD j U6).pl)/\(kF q ps p.r.l.length j<0->(p.c.l.getD j U6).pu)
 b:2+(p.r.l.length+p.c.l.length+1)*(B+p.r.l.length*(By+B+1)+B+By+1)<=4398046511104
section un
variable {p:ProgM} {q:PrQ} {b:BasM} {B:Nat}
theorem BVal.sq (hb:BVal p q b) (hp:PrV p q B):Free (λk l=>Vm.get (q.M (atN (brL b p.r.l.length) k)) (atN (bcL b p.c.l.length) l:Nat)) (brL b p.r.l.length).length (brL b p.r.l.length).length:=λx hx i hi=>aN λhxi=>hb.k ⟨x,⟨i,hi,hxi⟩,λk hk=>by
 have ec:=(eN (P:=λj=>b.c.l.getD j 0=2) p.c.l.length).1
 have er:=(eN (P:=λi=>b.r.l.getD i 0≠2) p.r.l.length).1
 have hn:=hb.n
 rw[<-hx k hk]
 unfold dtn
 refine aZ λl hl=>?_
 show Vm.get (jT _ _ (q.M (atN (brL b p.r.l.length) k))) (l:Nat)*x l=_
 have hl2:l<(bcL b p.c.l.length).length:=Uc
 rw[pO (λk l hkl hl=>ec.mono k l hkl hl) (hp.v _ (er.lt k hk)).2.1 hl2]⟩
theorem aVp {P:Nat->Prop} {n m:Nat} {e:Nat->Nat} {f:Nat->Rat} (he:Enm P n m e) (h0:∀j,j<n->¬P j->f j=0):bN f n=bN (λl=>f (e l)) m:=by
 have h1:bN f n=bN (λj=>1*spr m e (λl=>f (e l)) j) n:=aZ λj hj=>by
  rw[iY]
  by_cases h:P j
  ·obtain⟨k,hk,rfl⟩:=he.all j hj h
   rw[aGz hk λl hl e2=>he.inj hl hk e2]
  rw[h0 j hj h,aLy λl hl e2=>U4 (he.mem l hl) (by rw[e2];exact h)]
 rw[h1,zM he.lt]
 exact aZ λl _=>by rw[iY]
theorem aPl {a c:List Rat} (hl:a.length=c.length) (h:∀k,k<c.length->lQ a k=lQ c k):a=c:=jZ hl λk h1 h2=>by
 have:=h k h2
 unfold lQ at this
 rw[aC,aC,aG h1,aG h2] at this
 exact this
theorem bGb (hp:PrV p q B) {i:Nat} (hi:i<p.r.l.length) (x:Nat->Rat):dtl (q.M i) x=bN (λj=>Vm.get (q.M i) (j:Nat)*x j) p.c.l.length:=tW λe he=>⟨((hp.v i hi).2.2 e he).1,((hp.v i hi).2.2 e he).2.1⟩
theorem PtR.uniq (hb:BVal p q b) (hp:PrV p q B) {Bx Bx':Nat} {qs qs':List Rat} (h:PtR p q b Bx qs) (h':PtR p q b Bx' qs'):qs=qs':=by
 have ec:=(eN (P:=λj=>b.c.l.getD j 0=2) p.c.l.length).1
 have er:=(eN (P:=λi=>b.r.l.getD i 0≠2) p.r.l.length).1
 have hn:=hb.n
 have hz:∀l,l<(brL b p.r.l.length).length->lQ qs (atN (bcL b p.c.l.length) l)-lQ qs' (atN (bcL b p.c.l.length) l)=0:=hb.sq hp _ λk hk=>by
  have hi:=er.lt k hk
  have e1:=h.ti _ hi (er.mem k hk)
  have e2:=h'.ti _ hi (er.mem k hk)
  rw[bGb hp hi] at e1 e2
  have e3:bN (λj=>Vm.get (q.M (atN (brL b p.r.l.length) k)) (j:Nat)*(lQ qs j-lQ qs' j)) p.c.l.length=0:=by
   have e4:bN (λj=>Vm.get (q.M (atN (brL b p.r.l.length) k)) (j:Nat)*(lQ qs j-lQ qs' j)) p.c.l.length=bN (λj=>Vm.get (q.M (atN (brL b p.r.l.length) k)) (j:Nat)*lQ qs j+ -1*(Vm.get (q.M (atN (brL b p.r.l.length) k)) (j:Nat)*lQ qs' j)) p.c.l.length:=aZ λj _=>by grind
   rw[e4,qZ,iH]
   have e5:=e1.trans e2.symm
   have e1':bN (λj=>Vm.get (q.M (atN (brL b p.r.l.length) k)) (j:Nat)*lQ qs j) p.c.l.length=bN (λj=>Vm.get (q.M (atN (brL b p.r.l.length) k)) (j:Nat)*lQ qs' j) p.c.l.length:=e5
   rw[e1'];grind
  rw[aVp (P:=λj=>b.c.l.getD j 0=2) (m:=(bcL b p.c.l.length).length) (e:=atN (bcL b p.c.l.length)) ec λj hj hs=>by rw[h.x0 j hj hs,h'.x0 j hj hs];grind,hn] at e3
  exact e3
 refine aPl (h.ln.trans h'.ln.symm) λj hj=>?_
 rw[h'.ln] at hj
 by_cases hs:b.c.l.getD j 0=2
 ·obtain⟨l,hl,rfl⟩:=ec.all j hj hs
  have:=hz l (by rw[<-hn];exact hl)
  grind
 rw[h.x0 j hj hs,h'.x0 j hj hs]
theorem MuR.uniq (hb:BVal p q b) (hp:PrV p q B) {By By':Nat} {ps ps':List Rat} (h:MuR p q b By ps) (h':MuR p q b By' ps'):ps=ps':=by
 have ec:=(eN (P:=λj=>b.c.l.getD j 0=2) p.c.l.length).1
 have er:=(eN (P:=λi=>b.r.l.getD i 0≠2) p.r.l.length).1
 have hn:=hb.n
 have hz:∀k,k<(brL b p.r.l.length).length->lQ ps (atN (brL b p.r.l.length) k)-lQ ps' (atN (brL b p.r.l.length) k)=0:=(hb.sq hp).tr _ λl hl=>by
  have hl2:l<(bcL b p.c.l.length).length:=Uc
  have e1:=h.d _ (ec.lt l hl2) (ec.mem l hl2)
  have e2:=h'.d _ (ec.lt l hl2) (ec.mem l hl2)
  have e3:bN (λi=>Vm.get (q.M i) (atN (bcL b p.c.l.length) l:Nat)*(lQ ps i-lQ ps' i)) p.r.l.length=0:=by
   have e4:bN (λi=>Vm.get (q.M i) (atN (bcL b p.c.l.length) l:Nat)*(lQ ps i-lQ ps' i)) p.r.l.length=bN (λi=>lQ ps i*Vm.get (q.M i) (atN (bcL b p.c.l.length) l:Nat)+ -1*(lQ ps' i*Vm.get (q.M i) (atN (bcL b p.c.l.length) l:Nat))) p.r.l.length:=aZ λi _=>by grind
   rw[e4,qZ,iH]
   have e1':bN (λi=>lQ ps i*Vm.get (q.M i) (atN (bcL b p.c.l.length) l:Nat)) p.r.l.length=bN (λi=>lQ ps' i*Vm.get (q.M i) (atN (bcL b p.c.l.length) l:Nat)) p.r.l.length:=e1.trans e2.symm
   rw[e1'];grind
  rw[aVp (P:=λi=>b.r.l.getD i 0≠2) (m:=(brL b p.r.l.length).length) (e:=atN (brL b p.r.l.length)) er λi hi hs=>by
   have hs2:=cR.1 hs
   rw[h.y0 i hi hs2,h'.y0 i hi hs2];grind] at e3
  exact e3
 refine aPl (h.ln.trans h'.ln.symm) λi hi=>?_
 rw[h'.ln] at hi
 by_cases hs:b.r.l.getD i 0=2
 ·rw[h.y0 i hi hs,h'.y0 i hi hs]
 obtain⟨k,hk,rfl⟩:=er.all i hi hs
 have:=hz k hk
 grind
end un
def stN (l:List Int) (i:Nat):Int:=if i<l.length then l.getD i 0 else-1
theorem bGc (x:Sl Int) (i:Nat):Ctr pgQ 32 [] [.c (cI x),.c (iC i)] [] (λ_:Unit=>⟨.c (iC (stN x.l i)),[],True⟩):=by
 refine cw func32 (⟨λh=>vk ?_,λh=>vk ?_⟩)
 ·replace h:(i:Int)<(x.l.length:Nat):=h
  have hi:i<x.l.length:=Uc
  rw[show stN x.l i=x.l.getD i 0 from U3 hi]
  exact⟨i,⟨U,hi⟩,(),tV,aI U U tV⟩
 replace h:¬(i:Int)<(x.l.length:Nat):=h
 rw[show stN x.l i=-1 from U2 oM]
 exact⟨(),tV,aI U U tV⟩
def vcN (p:ProgM) (q:PrQ) (k i:Nat):Rat:=if k<p.c.l.length then Vm.get (q.M i) (k:Nat) else if k=p.c.l.length+i then 1 else 0
abbrev vcG (p:ProgM) (k m:Nat):List (Nat×DV):=[(6,.c (iC m)),(1,.c (iC k)),(2,.c (.p 0 0)),(5,.c (.s 1 p.r.l.length))]
abbrev rvB (p:ProgM) (Z:Nat->RatM):BL:=[(25,0,p.C),(53,3,rtC p.r.l.length Z)]
theorem aMk {p:ProgM} {Z:Nat->RatM}:scB 2 (rvB p Z):=aA U (aA (bG cD) aU)
theorem bUq (p:ProgM) (k:Nat) {q:PrQ} {B:Nat} (h:PrV p q B) (hk:k<=16384):Ctr pgQ 78 [] [.a p.C,.c (iC k)] [] (λg:Sl RatM=>⟨.c (dS g),[],g.l.length=p.r.l.length/\∀i,i<p.r.l.length->Cr (g.l.getD i U6) (vcN p q k i)⟩):=by
 have hr:=h.r
 have hc:=h.c
 refine cw func78 (⟨p.r.l.length,⟨U,U,by show 56*_<=_;omega,by simp only[maxLen];omega⟩,?_⟩)
 show Sd _ _ _ _ _ _
 refine gJ tSd 1 (rtC p.r.l.length λ_=>U6) U jI.1 jI.2 ?_
 refine bX (λ_=>true) (λg:Nat×(Nat->RatM)=>vcG p k g.1) (λg=>rvB p g.2) (λ_=>[]) (λg=>g.1<=p.r.l.length/\∀i,i<g.1->Cr (g.2 i) (vcN p q k i)) (λg=>p.r.l.length-g.1) λhM=>⟨hM (0,λ_=>U6) ⟨aB _,λi hi=>U4 hi (aF _)⟩ U ⟨U,U⟩ U1 rS bL aMk U,λ⟨m,Z⟩ ⟨hm,hZ⟩=>vk ⟨λh3=>vk ?_,λh3=>vk ?_⟩⟩
 all_goals
  replace hm:m<=p.r.l.length:=hm
  replace hZ:∀i,i<m->Cr (Z i) (vcN p q k i):=hZ
 ·replace h3:(m:Int)<(p.r.l.length:Nat):=h3
  have hmn:m<p.r.l.length:=Uc
  have hset:∀(w:RatM) (Z':Nat->RatM),(∀i,i≠m->Z' i=Z i)->Z' m=w->Cr w (vcN p q k m)->∀i,i<m+1->Cr (Z' i) (vcN p q k i):=λw Z' h4 h5 h6 i hi=>by
   by_cases e:i=m
   ·rw[e,h5];exact h6
   rw[h4 i e];exact hZ i oM
  refine⟨[],xZ,U,U,U,λz hz=>⟨m,⟨U,hmn,eO hmn⟩,_,fQ hmn,λh4=>vk ?_,λh4=>vk ?_⟩⟩
  ·replace h4:(k:Int)<(p.c.l.length:Nat):=h4
   have hkc:k<p.c.l.length:=Uc
   have hvm:vcN p q k m=Vm.get (q.M m) (k:Nat):=U3 hkc
   refine⟨m,⟨U,hmn⟩,[],aGm (p.r.l.getD m U6).e (k:Nat) (h.rd.r m hmn).e (h.v m hmn).2.1 (h.e m hmn) h.h1 h.hB (by have:=h.len hmn;omega),U,U,U,λg hg=>⟨m,⟨U,hmn,eO hmn⟩,_,fQ hmn,(m+1:Nat),wi,hM (m+1,upd (upd Z m z) m g) ⟨⟨hmn,?_⟩,show p.r.l.length-(m+1)<p.r.l.length-m by omega⟩ U ⟨U,U⟩ U1 rS bL aMk U⟩⟩
   exact hset g _ (λi hi=>(aY hi).trans (aY hi)) bF (by rw[hvm];exact hg)
  replace h4:¬(k:Int)<(p.c.l.length:Nat):=h4
  have hkc:¬k<p.c.l.length:=Uc
  have hvm:vcN p q k m=if k=p.c.l.length+m then 1 else 0:=U2 hkc
  refine⟨(k:Int)-(p.c.l.length:Nat),wi (h:=⟨U,Uc,Uc⟩),λh5=>vk ?_,λh5=>vk ?_⟩
  ·replace h5:(k:Int)-(p.c.l.length:Nat)=(m:Nat):=h5
   refine⟨[],tS (z:=1) dC,U,U,U,λg hg=>⟨m,⟨U,hmn,eO hmn⟩,_,fQ hmn,(m+1:Nat),wi,hM (m+1,upd (upd Z m z) m g) ⟨⟨hmn,?_⟩,show p.r.l.length-(m+1)<p.r.l.length-m by omega⟩ U ⟨U,U⟩ U1 rS bL aMk U⟩⟩
   exact hset g _ (λi hi=>(aY hi).trans (aY hi)) bF (by rw[hvm,U3 oM];exact hg)
  replace h5:¬(k:Int)-(p.c.l.length:Nat)=(m:Nat):=h5
  refine⟨(m+1:Nat),wi,hM (m+1,upd Z m z) ⟨⟨hmn,?_⟩,show p.r.l.length-(m+1)<p.r.l.length-m by omega⟩ U ⟨U,U⟩ U1 rS bL aMk U⟩
  exact hset z _ (λi hi=>aY hi) bF (by rw[hvm,U2 oM];exact hz)
 replace h3:¬(m:Int)<(p.r.l.length:Nat):=h3
 obtain rfl:m=p.r.l.length:=Uc
 show Sd _ _ _ _ _ _
 refine nS 5 1 (λj=>((fZ Z p.r.l.length).getD j U6).C) U U (λj hj=>nZ j hj) (by rw[jE (P:=λj=>(Z j).C) (e:=3) λ_ _=>U]) bL cD bL λA c _ _=>vk ⟨⟨A,c,fZ Z p.r.l.length⟩,⟨jS,λi hi=>?_⟩,aI qH U tV⟩
 show Cr ((fZ Z p.r.l.length).getD i U6) _
 rw[nC hi];exact hZ i hi
theorem Ech.enm {Q E:Nat->Nat->Rat} {r c t:Nat} {pv:Nat->Nat} (h:Ech Q E r c c t pv):Enm (λj=>¬Dep Q r c j) c t pv:=⟨h.lt,h.mono,λk hk=>(h.ind (h.lt k hk)).1 ⟨k,hk,U⟩,λj hj hd=>(h.ind hj).2 hd⟩
theorem Ech.rows {Q E:Nat->Nat->Rat} {r c t:Nat} {pv:Nat->Nat} (h:Ech Q E r c c t pv):t=r↔Free (λj i=>Q i j) c r:=by
 constructor
 ·rintro rfl
  exact aXo (R0:=pv) (Q:=λj i=>Q i j) h.lt h.enm.free.tr
 exact λhf=>(h.enm.square hf).1
def vcL (p:ProgM) (q:PrQ) (k:Nat):List Rat:=(List.range p.r.l.length).map (vcN p q k)
abbrev wT (L:List (Sl RatM)):List CV:=L.map λr=>dS r
abbrev bZz (p:ProgM) (L:List (Sl RatM)):BL:=[(25,0,p.C),(42,1,wT L)]
theorem jJ {L:List (Sl RatM)}:∀c∈wT L,fS c=true:=λc hc=>by
 obtain⟨r,_,rfl⟩:=bZ.1 hc
 rfl
theorem aVq {p:ProgM} {L:List (Sl RatM)}:scB 2 (bZz p L):=aA U (aA (bG jJ) aU)
abbrev cDp (l:Sl Int) (k:Nat):List (Nat×DV):=[(6,.c (iC k)),(1,.c (cI l)),(2,.c (.p 0 0)),(5,.c (.s 1 k))]
theorem bGd (p:ProgM) (l:Sl Int) {q:PrQ} {B:Nat} {κ:Nat->Nat} (h:PrV p q B) (hl:l.l.length<=100) (hk:∀k,k<l.l.length->l.l.getD k 0=(κ k:Nat)/\κ k<=16384) (hB:bd B (l.l.length-1)<=4398046511104):Ctr pgQ 36 [] [.a p.C,.c (cI l)] [] (λ_:Unit=>⟨pC (Free (λi k=>vcN p q (κ k) i) p.r.l.length l.l.length),[],True⟩):=by
 have hr:=h.r
 refine cw func36 ((vW 5 42 1 U bL (vk ?_)))
 refine bX (λ_=>true) (λg:List (Sl RatM)=>cDp l g.length) (λg=>bZz p g) (λ_=>[]) (λg=>g.length<=l.l.length/\∀k,k<g.length->Rl (g.getD k cG).l (vcL p q (κ k))) (λg=>l.l.length-g.length) λhM=>⟨hM [] ⟨aB _,λk hk=>U4 hk (aF _)⟩ U ⟨U,U⟩ U1 rS bL aVq U,λL ⟨hL,hLr⟩=>vk ⟨λh3=>vk ?_,λh3=>vk ?_⟩⟩
 all_goals
  replace hL:L.length<=l.l.length:=hL
  replace hLr:∀k,k<L.length->Rl (L.getD k cG).l (vcL p q (κ k)):=hLr
 ·replace h3:(L.length:Int)<(l.l.length:Nat):=h3
  have hkl:L.length<l.l.length:=Uc
  obtain⟨c1,c2⟩:=hk _ hkl
  have hv:Ctr pgQ 78 [] [.a p.C,.c (iC (l.l.getD L.length 0))] [] (λg:Sl RatM=>⟨.c (dS g),[],g.l.length=p.r.l.length/\∀i,i<p.r.l.length->Cr (g.l.getD i U6) (vcN p q (κ L.length) i)⟩):=by
   rw[c1];exact bUq p (κ L.length) h c2
  refine⟨.treeX [] [2000,1,2002,2003,2004,5] (trS [6,7,1008,2009]),U0,L.length,⟨U,hkl⟩,[],hv,U,U,U,λg ⟨hg1,hg2⟩=>⟨U,U,⟨U,by rw[aK,bE],by show L.length+1<=maxLen;simp only[maxLen];omega,by show(L.length+1)*24<=_;omega,λc hc=>(aO.1 hc).elim (λh=>bJ (jJ c h)) λh=>by rw[aE.1 h];rfl⟩,(λc hc=>by rw[aE.1 hc];rfl),(L.length+1:Nat),wi,hM (L++[g]) ⟨⟨by rw[aD];exact hkl,λk hk2=>?_⟩,by show l.l.length-(L++[g]).length<l.l.length-L.length;rw[aD];show _-(_+1)<_;omega⟩ U ⟨U,?_⟩ U1 ⟨?_,U,U,?_⟩ bL aVq U⟩⟩
  ·rw[aD] at hk2
   replace hk2:k<L.length+1:=hk2
   by_cases e:k=L.length
   ·subst e
    rw[aC,bH (aH _),gH]
    show Rl g.l _
    refine⟨by rw[hg1];unfold vcL;simp,λi hi=>?_⟩
    have hi':i<p.r.l.length:=by unfold vcL at hi;simpa using hi
    have:=hg2 i hi'
    unfold vcL
    simpa[aC,hi'] using this
   rw[aC,aV oM,<-aC]
   exact hLr k oM
  ·show((42,1,wT L++[dS g]):TypeId×Nat×List CV)=(42,1,wT (L++[g]))
   unfold wT
   rw[bA];rfl
  ·show((L.length+1:Nat):Int)=(((L++[g]).length:Nat):Int)
   rw[aD];rfl
  show L.length+1=(L++[g]).length
  rw[aD];rfl
 replace h3:¬(L.length:Int)<(l.l.length:Nat):=h3
 have hn:L.length=l.l.length:=Uc
 have h1:=h.h1
 have hvb:∀k,k<l.l.length->rbL (vcL p q (κ k)) B:=λk hk2 x hx=>by
  obtain⟨i,hi,rfl⟩:=bZ.1 hx
  have hi':=cJ.1 hi
  unfold vcN
  split
  ·exact mK (h.v i hi').2.1 (h.e i hi') h1
  split
  ·exact aSd.le h1
  exact wJ h1
 have hfb:rbM (λi=>fdF (vcL p q (κ i)) p.r.l.length) l.l.length B:=λi hi=>aKz λj hj=>hvb i hi _ (gD0 (by unfold vcL;simpa using hj))
 show Sd _ _ _ _ _ _
 refine nS 5 1 (λj=>[dS (L.getD j cG)]) U U (λj hj=>?_) (by rw[aK,bE]) bL jJ bL λA c _ _=>vk ⟨[],bDe ⟨A,c,L⟩ (Q:=λi=>vcL p q (κ i)) (r:=l.l.length) (n:=p.r.l.length) ⟨hn,λi hi=>⟨hLr i oM,by unfold vcL;simp⟩⟩ hvb h1 h.hB oM oM,U,U,U,λm hm=>⟨[],bTc m (hm.mr hfb) hfb h1 hB oM oM,U,U,U,λt ⟨E,pv,ht⟩=>⟨(),tV,aI ?_ rfl tV⟩⟩⟩
 ·show [dS (L.getD j cG)]=((wT L).drop (j*1)).take 1
  have hj':j<(wT L).length:=by rw[aK];exact hj
  rw[bE,dK hj']
  simp[aC,hj]
 show(t:Int)=(l.l.length:Nat)↔Free (λi k=>vcN p q (κ k) i) p.r.l.length l.l.length
 have hq:∀i j,i<l.l.length->j<p.r.l.length->mQ (λi=>fdF (vcL p q (κ i)) p.r.l.length) i j=vcN p q (κ i) j:=λi j hi hj=>by
  show Vm.get (fdF _ _) (j:Nat)=_
  rw[aBr,U3 ⟨Uc,Uc⟩]
  unfold vcL
  simp[aC,hj]
 have hcg:Free (λj i=>mQ (λi=>fdF (vcL p q (κ i)) p.r.l.length) i j) p.r.l.length l.l.length↔Free (λi k=>vcN p q (κ k) i) p.r.l.length l.l.length:=by
  constructor
  ·exact λhf x hx=>hf x λi hi=>by
    rw[<-hx i hi]
    exact aZ λk hk2=>by
     show mQ _ k i*_=vcN p q (κ k) i*_
     rw[hq k i hk2 hi]
  exact λhf x hx=>hf x λi hi=>by
   rw[<-hx i hi]
   exact aZ λk hk2=>by
    show vcN p q (κ k) i*_=mQ _ k i*_
    rw[hq k i hk2 hi]
 rw[<-hcg,<-ht.rows]
 omega
end Go.Proofs.YtljcaaakbkneaaaGreat
