/- the law UpdateNew and what it stands on Part 4 of 6: Pf Dd De Pg Df Dg Ph Pi Ud Ue Uf Ug Uh Ui Uj Uk Ul Um Un Uo Up Uq Ur Us Ut Uu Uv Uw Ux Uy Uz Sa Sb. -/
import Derived.Test.YtghncoghdcmdfaaGreatH3
set_option maxHeartbeats 4000000
set_option linter.unusedVariables false
set_option linter.unusedSimpArgs false
namespace Go.Proofs.YtghncoghdcmdfaaGreat
open Go.Vg Go.Vm _root_.Go.Proofs.Tryz
open Go.Vy hiding val
set_option maxRecDepth 8000
abbrev bSm (x:Sl Nat):BL:=[(58,0,[eD x])]
abbrev aKo:FuncId:=264
theorem bKs:Ent Tryz.prog aKo:=aV func264 rfl kR
theorem bKt:Tryz.prog.funcs[aKo]? =some Tryz.f264:=func264
theorem aEu (x:Sl Nat) {i:Nat} (hx:Lm x.l) (hi:i<=9223372036854775807):Ctr Tryz.prog aKo [true] [.c (iC i),.c (.p 0 0)] (bSm x) (λ_:Unit=>⟨.c (wC (dig x.l i)),bSm x,True⟩):=by
 refine bE gT bKs bKt rfl rfl rfl bL (ClB.one rfl) (aA gT mxd ⟨λh=>aA gT mxd ?_,λh=>aA gT mxd ?_⟩)
 ·replace h:(i:Int)<(x.l.length:Nat):=h
  refine⟨i,⟨rfl,oM⟩,_,w0 (x:=x.l.getD i default) (by have:=hx.at (k:=i) oM;omega),(),trivial,aO ?_ rfl ⟨⟨rfl,rfl,rfl,rfl⟩,trivial⟩⟩
  show(_:Int)=(_:Int)
  rw[qO oM]
 replace h:¬(i:Int)<(x.l.length:Nat):=h
 refine⟨(),trivial,aO ?_ rfl ⟨⟨rfl,rfl,rfl,rfl⟩,trivial⟩⟩
 show(0:Int)=(_:Int)
 rw[vJ oM];rfl
theorem orW {c x s:Nat} (hc:c<2^s) (hb:x*2^s+c<18446744073709551616):((x*2^s+c:Nat):Int)=IntKind.u64.wrap ((BitVec.ofInt IntKind.u64.bits ((x*2^s:Nat):Int)|||BitVec.ofInt IntKind.u64.bits (c:Int)).toNat:Int):=bSf (by rw[Nat.or_comm,aSb hc,gC]) oM oM hb
abbrev aVm:FuncId:=254
theorem bSn:Ent Tryz.prog aVm:=aV func254 rfl kR
theorem bSo:Tryz.prog.funcs[aVm]? =some Tryz.f254:=func254
theorem aVn (x:Sl Nat) {n sh:Nat} (hx:Lm x.l) (hs:sh<=31) (hn3:3<=n) (hln:x.l.length<=n) (hnb:n<=35184372088832) (htop:dig x.l (n-1)*2^sh<4294967296):Ctr Tryz.prog aVm [] [.c (eD x),.c (iC n),.c (iC sh)] [] (λ_:Unit=>⟨.c (wC (val x.l/(4294967296^(n-3)*2^(32-sh)))),[],val x.l/(4294967296^(n-3)*2^(32-sh))<18446744073709551616⟩):=by
 have hd1:=rD hx (n-1)
 have hd2:=rD hx (n-2)
 have hd3:=rD hx (n-3)
 have hfit:=bBw hs htop hd2 hd3
 have hwin:=bBv hx hn3 hln hs
 refine bE gT bSn bSo rfl rfl rfl bL aT (aA gT mxd ⟨.seq [(0,false),(1,false),(2,false),(5,false),(6,false),(7,false),(10,false),(12,false),(13,false),(14,false),(16,false),(17,false),(3,true),(4,false),(8,true),(9,false),(11,false),(15,true),(18,false),(19,false),(20,false)],by kernel_rfl,(n-1:Nat),wi (h:=⟨by omega,by omega,by omega⟩),(n-2:Nat),wi (h:=⟨by omega,by omega,by omega⟩),(n-3:Nat),wi (h:=⟨by omega,by omega,by omega⟩),(32-sh:Nat),wi (h:=⟨by omega,by omega,by omega⟩),_,rfl,[0],aEu x hx oM,rfl,rfl,rfl,λ_ _=>⟨p32,_,aBb hd1,_,rfl,[0],aEu x hx oM,rfl,rfl,rfl,λ_ _=>⟨_,aKd hd1 hd2,nn,_,bSe oM hfit.2.1,_,rfl,[0],aEu x hx oM,rfl,rfl,rfl,λ_ _=>⟨nn,_,bSg oM,_,orW hfit.2.2 hfit.1,(),by rw[hwin];exact hfit.1,aO ?_ rfl trivial⟩⟩⟩⟩)
 show(_:Int)=(_:Int)
 rw[hwin]
def bZn:List CV:=[.v (.int .u64 0),.v (.int .u64 0),.v (.int .u64 0),.v (.int .u64 0),.b (false=true) inferInstance]
structure Cof where
 a0:Nat
 a1:Nat
 b0:Nat
 b1:Nat
 e:Bool
noncomputable def Cof.C (q:Cof):List CV:=[wC q.a0,wC q.a1,wC q.b0,wC q.b1,.b (q.e=true) (Classical.propDecidable _)]
structure CofOk (q:Cof) (A B:Nat):Prop where
 l0:q.a0<18446744073709551616
 l1:q.a1<18446744073709551616
 l2:q.b0<18446744073709551616
 l3:q.b1<18446744073709551616
 f:q.b0≠0->(q.e=true->q.b0*B<=q.a0*A/\q.a1*A<=q.b1*B/\Nat.gcd (q.a0*A-q.b0*B) (q.b1*B-q.a1*A)=Nat.gcd A B/\q.b1*B-q.a1*A<q.a0*A-q.b0*B/\q.a0*A-q.b0*B<=B)/\
  (q.e=false->q.a0*A<=q.b0*B/\q.b1*B<=q.a1*A/\Nat.gcd (q.b0*B-q.a0*A) (q.a1*A-q.b1*B)=Nat.gcd A B/\q.a1*A-q.b1*B<q.b0*B-q.a0*A/\q.b0*B-q.a0*A<=B)
noncomputable abbrev leG (p r u0 u1 u2 v0 v1 v2:Nat) (e:Bool):List (Nat×DV):=[(15,pC (e=true)),(14,.c (wC v2)),(13,.c (wC v1)),(12,.c (wC v0)),(11,.c (wC u2)),(10,.c (wC u1)),(9,.c (wC u0)),(8,.c (wC r)),(7,.c (wC p))]
structure LeI (A B h X Y p r u0 u1 u2 v0 v1 v2:Nat) (e:Bool):Prop where
 L:Leh A B h X Y p r u0 u1 u2 v0 v1 v2 e
 p:p<18446744073709551616
 a:u0<18446744073709551616
 b:u1<18446744073709551616
 c:u2<18446744073709551616
 d:v0<18446744073709551616
 f:v1<18446744073709551616
 g:v2<18446744073709551616
structure LeS where
 p:Nat
 r:Nat
 u0:Nat
 u1:Nat
 u2:Nat
 v0:Nat
 v1:Nat
 v2:Nat
 e:Bool
abbrev aKp:FuncId:=238
theorem bKu:Ent Tryz.prog aKp:=aV func238 rfl kR
theorem bKv:Tryz.prog.funcs[aKp]? =some Tryz.f238:=func238
theorem bDy (x y:Sl Nat) (hx:Lm x.l) (hy:Lm y.l) (hn:x.l.length<=35184372088832) (hl3:3<=x.l.length) (htz:x.l.getD (x.l.length-1) default≠0) (hyx:y.l.length<=x.l.length) (hle:val y.l<=val x.l):Ctr Tryz.prog aKp [] [.c (eD x),.c (eD y)] [] (λq:Cof=>⟨.a q.C,[],CofOk q (val x.l) (val y.l)⟩):=by
 have htl:=hx.at (k:=x.l.length-1) oM
 refine bE gT bKu bKv rfl rfl rfl bL aT (aA gT mxd ⟨(x.l.length-1:Nat),wi (h:=⟨by omega,by omega,by omega⟩),x.l.length-1,⟨rfl,by omega⟩,[],bHg htz htl,rfl,rfl,rfl,λsh ⟨hs,hz1,hz2⟩=>?_⟩)
 have htx:dig x.l (x.l.length-1)*2^sh<4294967296:=by rw[qO oM];exact hz2
 have hty:dig y.l (x.l.length-1)*2^sh<4294967296:=dY (bF _ (aSh hx hy oM (aF _) hyx hle)) htx
 obtain⟨H,hH⟩:∃z,z=4294967296^(x.l.length-3)*2^(32-sh):=⟨_,rfl⟩
 have hhp:0<H:=by rw[hH];exact jB (fR dC) (fR dC)
 have c1:=aVn x hx hs hl3 (aF _) hn htx
 have c2:=aVn y hy hs hl3 hyx hn hty
 rw[<-hH] at c1 c2
 refine⟨[],c1,rfl,rfl,rfl,λ_ hX64=>⟨[],c2,rfl,rfl,rfl,λ_ hY64=>?_⟩⟩
 replace hX64:val x.l/H<18446744073709551616:=hX64
 have z64:(0:Nat)<18446744073709551616:=by decide
 have o64:(1:Nat)<18446744073709551616:=by decide
 refine jD (rn [(7,16),(33,67)]) (λg:LeS=>leG g.p g.r g.u0 g.u1 g.u2 g.v0 g.v1 g.v2 g.e) (λ_=>[(246,0,bZn)]) (λg=>LeI (val x.l) (val y.l) H (val x.l/H) (val y.l/H) g.p g.r g.u0 g.u1 g.u2 g.v0 g.v1 g.v2 g.e) (λg=>g.r) ⟨val x.l/H,val y.l/H,0,1,0,0,0,1,false⟩ ?_
 refine⟨⟨⟨Leh.start hhp hle,hX64,z64,o64,z64,z64,z64,o64⟩,rfl,⟨λh=>(by cases h),λh=>(by cases h)⟩,rfl,rfl,rfl,rfl,rfl,rfl,rfl,rfl⟩,λ⟨p,r,u0,u1,u2,v0,v1,v2,e⟩ ⟨hL,hp,ha,hb,hc,hd,hf,hg⟩=>aA gT mxd ?_⟩
 simp only at hL hp ha hb hc hd hf hg
 have hpos:=hL.pos
 have hyx2:=hL.yx
 have hbd:1<=r->v1+v2<18446744073709551616:=λh=>by have:=(hL.bounds h).1;omega
 refine⟨(p-r:Nat),λh=>wu (z:=(p:Int)-(r:Int)) (h:=⟨by omega,by omega,by omega⟩),(v1+v2:Nat),λh=>wa (x:=v1) (y:=v2) (by have:=hbd (by replace h:(v2:Int)<=(r:Nat):=h;omega);omega),⟨λhc1=>aA gT mxd ?_,λhc1=>aA gT mxd (aA gT mxd ?_)⟩⟩
 ·obtain⟨k1,k2⟩:=hc1
  replace k1:(v2:Int)<=(r:Nat):=k1
  replace k2:((v1+v2:Nat):Int)<=((p-r:Nat):Int):=k2
  have hst:=hL.step oM oM
  have hr1:1<=r:=by omega
  have hrz:(r:Int)≠0:=by omega
  have hY:val y.l/H<=val x.l/H:=oR hle
  have hq1:=hst.2.2.1
  have hq2:=hst.2.2.2
  refine⟨hrz,(p/r:Nat),aKk (a:=p) (b:=r) hp,.seq [(0,false),(1,false),(2,false),(3,false),(4,false),(5,false)],by kernel_rfl,hrz,_,wm (x:=p/r) (y:=u2) oM,_,wa (x:=u1) (y:=p/r*u2) oM,_,wm (x:=p/r) (y:=v2) oM,_,wa (x:=v1) (y:=p/r*v2) oM,⟨r,p%r,u1,u2,u1+p/r*u2,v1,v2,v1+p/r*v2,!e⟩,⟨⟨hst.1,by show r<_;omega,hb,hc,by show _+_<_;omega,hf,hg,by show _+_<_;omega⟩,hst.2.1⟩,rfl,rfl,⟨?_,rfl,rfl,rfl,rfl,rfl,rfl,?_,rfl⟩⟩
  ·show ¬(e=true)↔(!e)=true
   cases e<;>simp
  show(_:Int).tmod (_:Int)=(_:Int)
  rfl
 exact⟨⟨u0,u1,v0,v1,e⟩,⟨ha,hb,hd,hf,λh=>hL.fin h⟩,aO rfl rfl trivial⟩
abbrev aKq:FuncId:=239
theorem bKw:Ent Tryz.prog aKq:=aV func239 rfl kR
theorem bKx:Tryz.prog.funcs[aKq]? =some Tryz.f239:=func239
theorem zJ (x y:Sl Nat) {c d:Nat} (hx:Lm x.l) (hy:Lm y.l) (hn:x.l.length<=17592186044416) (hm:y.l.length<=17592186044416) (hc:c<18446744073709551616) (hd:d<18446744073709551616):Ctr Tryz.prog aKq [] [.c (eD x),.c (wC c),.c (eD y),.c (wC d)] [] (yZ (val x.l*c-val y.l*d)):=by
 refine bE gT bKw bKx rfl rfl rfl bL aT (aA gT mxd ⟨[],lZ hc,rfl,rfl,rfl,λC hC=>?_⟩)
 replace hC:C.l=cF c:=hC
 obtain⟨lC,vC⟩:=dg hC
 have h1:=sF.1 hc
 rw[<-eM,<-hC] at h1
 refine⟨[],xB x C hx lC hn oM,rfl,rfl,rfl,λp hp=>⟨[],lZ hd,rfl,rfl,rfl,λD hD=>?_⟩⟩
 replace hD:D.l=cF d:=hD
 obtain⟨lD,vD⟩:=dg hD
 have h2:=sF.1 hd
 rw[<-eM,<-hD] at h2
 refine⟨[],xB y D hy lD hm oM,rfl,rfl,rfl,λq hq=>?_⟩
 replace hp:p.l=cF (val x.l*val C.l):=hp
 replace hq:q.l=cF (val y.l*val D.l):=hq
 obtain⟨lp,vp⟩:=dg hp
 obtain⟨lq,vq⟩:=dg hq
 have h3:=nY (val x.l) (val C.l)
 have h4:=nY (val y.l) (val D.l)
 simp only[<-eM] at h3 h4
 rw[<-hp] at h3
 rw[<-hq] at h4
 have h5:=dB hx
 have h6:=dB hy
 have h7:=dB lC
 have h8:=dB lD
 unfold len at h5 h6 h7 h8
 refine⟨[],aEq p q lp lq oM oM,rfl,rfl,rfl,λg hg=>⟨g,?_,aO rfl rfl trivial⟩⟩
 replace hg:g.l=cF (val p.l-val q.l):=hg
 show g.l=_
 rw[hg,vp,vq,vC,vD]
abbrev gcG (g:Nat×Nat×Sl Nat×Sl Nat):List (Nat×DV):=[(0,.c (eD g.2.2.1)),(1,.c (eD g.2.2.2))]
structure GcI (A B:Nat) (g:Nat×Nat×Sl Nat×Sl Nat):Prop where
 fa:g.2.2.1.l=cF g.1
 fb:g.2.2.2.l=cF g.2.1
 le:g.2.1<=g.1
 fg:Nat.gcd g.1 g.2.1=Nat.gcd A B
 ln:(cF g.1).length<=17592186044416
abbrev aVo:FuncId:=217
theorem bSp:Ent Tryz.prog aVo:=aV func217 rfl kR
theorem bSq:Tryz.prog.funcs[aVo]? =some Tryz.f217:=func217
theorem bKy (x y:Sl Nat) (hx:Lm x.l) (hy:Lm y.l) (hn:x.l.length<=17592186044416) (hm:y.l.length<=17592186044416):Ctr Tryz.prog aVo [] [.c (eD x),.c (eD y)] [] (yZ (Nat.gcd (val x.l) (val y.l))):=by
 refine bE gT bSp bSq rfl rfl rfl bL aT (aA gT mxd ⟨[],iT x hx oM,rfl,rfl,rfl,λX hX=>⟨[],iT y hy oM,rfl,rfl,rfl,λY hY=>?_⟩⟩)
 have hXn:=dB hx
 have hYn:=dB hy
 replace hX:X.l=cF (val x.l):=hX
 replace hY:Y.l=cF (val y.l):=hY
 obtain⟨lX,vX⟩:=dg hX
 obtain⟨lY,vY⟩:=dg hY
 unfold len at hXn hYn
 have hXl:X.l.length<=17592186044416:=by rw[hX];omega
 have hYl:Y.l.length<=17592186044416:=by rw[hY];omega
 refine⟨[],sN X Y lX lY oM oM,rfl,rfl,rfl,λ_ _=>?_⟩
 refine vjn (λ_=>true) gcG (λ_=>[]) (GcI (val x.l) (val y.l)) ?_
 refine⟨⟨λh=>aA gT mxd ⟨(val y.l,val x.l,Y,X),⟨hY,hX,?_,hJ _ _,by show(cF (val y.l)).length<=_;omega⟩,rfl,rfl,rfl,rfl⟩,λh=>aA gT mxd ⟨(val x.l,val y.l,X,Y),⟨hX,hY,?_,rfl,by show(cF (val x.l)).length<=_;omega⟩,rfl,rfl,rfl,rfl⟩⟩,λg0 hg0=>?_⟩
 ·have h:=oI.1 h
  rw[vX,vY] at h
  show val x.l<=val y.l
  omega
 ·show val y.l<=val x.l
  rcases dH (val x.l) (val y.l) with h'|h'
  ·exact absurd (oI.2 (by rw[vX,vY];omega)) h
  exact h'
 clear hX hY lX lY vX vY hXn hYn hXl hYl
 refine aUt (rn [(0,1),(4,10),(21,83)]) 0 gcG (λ_=>[]) (GcI (val x.l) (val y.l)) (λg=>g.2.1) g0 (λ_=>rfl) bL (λ_=>bJ) (λ_=>rfl) ?_
 refine⟨⟨rfl,hg0,trivial,rfl,rfl⟩,λ⟨a,b,A,B⟩ ⟨hA,hB,hba,hg,hla⟩=>aA gT mxd ⟨λh1=>aA gT mxd ?_,λh1=>aA gT mxd (aA gT mxd ?_)⟩⟩
 all_goals
  simp only at hA hB hba hg hla
  obtain⟨lA,vA⟩:=dg hA
  obtain⟨lB,vB⟩:=dg hB
  have hlb:=lO (n:=b)
  unfold len at hlb
  rw[<-hB] at hlb
  rw[<-hA] at hla
 ·replace h1:(0:Int)<(B.l.length:Nat):=h1
  have hb0:b≠0:=λh=>by have:=hlb.2 h;omega
  have hlen:B.l.length<=A.l.length:=by rw[hA,hB];exact fL hba
  refine⟨λh2=>aA gT mxd ?_,λh2=>aA gT mxd ?_⟩
  ·replace h2:((A.l.length:Nat):Int)<=2:=h2
   have ha64:val A.l<18446744073709551616:=aCo lA oM
   refine⟨[],wZ A lA oM,rfl,rfl,rfl,λ_ _=>⟨[],wZ B lB oM,rfl,rfl,rfl,λ_ _=>?_⟩⟩
   refine jD (rn [(5,6),(31,36)]) (λg:Nat×Nat=>[(5,.c (wC g.1)),(6,.c (wC g.2))]) (λ_=>[]) (λg=>Nat.gcd g.1 g.2=Nat.gcd (val x.l) (val y.l)/\g.1<18446744073709551616/\g.2<18446744073709551616) (λg=>g.2) (val A.l,val B.l) ?_
   refine⟨⟨⟨by rw[vA,vB];exact hg,ha64,by show val B.l<_;omega⟩,rfl,rfl,rfl⟩,λ⟨c,d⟩ ⟨hcd,hc,hd⟩=>aA gT mxd ⟨λh3=>aA gT mxd ?_,λh3=>aA gT mxd (aA gT mxd ?_)⟩⟩
   all_goals simp only at hcd hc hd
   ·replace h3:(d:Int)≠0:=h3
    have hlt:=cO c (show 0<d by omega)
    refine⟨.seq [(0,false),(1,false),(2,false),(3,false),(4,false),(5,false)],by kernel_rfl,h3,(d,c%d),⟨⟨?_,hd,by show c%d<_;omega⟩,hlt⟩,rfl,rfl,rfl,?_⟩
    ·show Nat.gcd d (c%d)=_
     rw[<-hcd,hJ,<-uP,hJ]
    show(_:Int).tmod (_:Int)=(_:Int)
    rfl
   obtain rfl:d=0:=by
    replace h3:¬(d:Int)≠0:=h3
    omega
   rw[mN] at hcd
   refine⟨[],lZ hc,rfl,rfl,rfl,λg hg=>⟨g,?_,aO rfl rfl trivial⟩⟩
   show g.l=_
   rw[<-hcd];exact hg
  replace h2:¬((A.l.length:Nat):Int)<=2:=h2
  refine⟨[],bDy A B lA lB oM oM (aVk hA oM) hlen (by rw[vA,vB];exact hba),rfl,rfl,rfl,λq hq=>?_⟩
  replace hq:CofOk q (val A.l) (val B.l):=hq
  rw[vA,vB] at hq
  refine⟨λh3=>aA gT mxd ?_,λh3=>aA gT mxd ?_⟩
  ·refine⟨[],aVl A B lA lB hla oM,rfl,rfl,rfl,λ⟨Q,R⟩ ⟨_,hR⟩=>?_⟩
   replace hR:R.l=cF (aCa (val A.l) (val B.l)):=hR
   rw[vA,vB,show aCa a b=a%b from if_neg hb0] at hR
   refine⟨(b,a%b,B,R),⟨⟨hB,hR,eJ (cO _ oM),?_,by show(cF b).length<=_;rw[<-hB];omega⟩,cO _ oM⟩,rfl,trivial,rfl,rfl⟩
   show Nat.gcd b (a%b)=_
   rw[<-hg,hJ,<-uP,hJ]
  have hf:=hq.f λh=>h3 (by show((q.b0:Nat):Int)=0;omega)
  have key:∀(m n:Nat) (G H:Sl Nat),Nat.gcd m n=Nat.gcd a b->n<m->m<=b->G.l=cF m->H.l=cF n->GcI (val x.l) (val y.l) (m,n,G,H)/\n<b:=λm n G H e1 e2 e3 e4 e5=>⟨⟨e4,e5,eJ e2,e1.trans hg,by have:=fL e3;unfold len at this;show(cF m).length<=_;rw[<-hB] at this;omega⟩,by omega⟩
  refine⟨λh4=>aA gT mxd ?_,λh4=>aA gT mxd ?_⟩
  ·obtain⟨f1,f2,f3,f4,f5⟩:=hf.1 h4
   refine⟨.seq [(0,false),(1,false),(2,false),(3,false),(4,false),(5,false),(7,false),(8,false),(9,false),(10,false),(11,false),(12,false),(6,false),(13,true),(14,false),(15,false)],by kernel_rfl,[],zJ A B lA lB hla oM hq.l0 hq.l2,rfl,rfl,rfl,λG hG=>⟨[],zJ B A lB lA oM hla hq.l3 hq.l1,rfl,rfl,rfl,λH hH=>⟨(_,_,G,H),key _ _ G H f3 f4 f5 ?_ ?_,rfl,trivial,rfl,rfl⟩⟩⟩
   ·replace hG:G.l=cF (val A.l*q.a0-val B.l*q.b0):=hG
    rw[hG,vA,vB,aY a,aY b]
   replace hH:H.l=cF (val B.l*q.b1-val A.l*q.a1):=hH
   rw[hH,vA,vB,aY a,aY b]
  obtain⟨f1,f2,f3,f4,f5⟩:=hf.2 (by replace h4:¬q.e=true:=h4;simpa using h4)
  refine⟨.seq [(0,false),(1,false),(2,false),(3,false),(4,false),(5,false),(7,false),(8,false),(9,false),(10,false),(11,false),(12,false),(6,false),(13,true),(14,false),(15,false)],by kernel_rfl,[],zJ B A lB lA oM hla hq.l2 hq.l0,rfl,rfl,rfl,λG hG=>⟨[],zJ A B lA lB hla oM hq.l1 hq.l3,rfl,rfl,rfl,λH hH=>⟨(_,_,G,H),key _ _ G H f3 f4 f5 ?_ ?_,rfl,trivial,rfl,rfl⟩⟩⟩
  ·replace hG:G.l=cF (val B.l*q.b0-val A.l*q.a0):=hG
   rw[hG,vA,vB,aY a,aY b]
  replace hH:H.l=cF (val A.l*q.a1-val B.l*q.b1):=hH
  rw[hH,vA,vB,aY a,aY b]
 replace h1:¬(0:Int)<(B.l.length:Nat):=h1
 have hb0:b=0:=hlb.1 oM
 rw[hb0,mN] at hg
 refine⟨[],xA A lA oM,rfl,rfl,rfl,λg hg'=>⟨g,?_,aO rfl rfl trivial⟩⟩
 show g.l=_
 rw[<-hg,<-vA];exact hg'
structure IntM where
 p:Prop
 d:Decidable p
 m:Sl Nat
def IntM.C (i:IntM):List CV:=[.b i.p i.d,eD i.m]
open Classical in
noncomputable def sg (p:Prop) (n:Nat):Int:=if p then-(n:Int) else n
structure In (i:IntM) (v:Int) (B:Nat):Prop where
 lm:Lm i.m.l
 ln:i.m.l.length<=B
 v:sg i.p (val i.m.l)=v
def Ci (i:IntM) (v:Int):Prop:=(i.p↔v<0)/\i.m.l=cF v.natAbs
abbrev vH (v:Int):IntM->Out:=λg=>⟨.a g.C,[],Ci g v⟩
theorem jK {p:Prop} {n:Nat} (h:p):sg p n=-(n:Int):=if_pos h
theorem jL {p:Prop} {n:Nat} (h:¬p):sg p n=n:=if_neg h
theorem aBg {p:Prop} {n:Nat}:(sg p n).natAbs=n:=by
 by_cases h:p
 ·rw[jK h];omega
 rw[jL h];omega
theorem aEv {p:Prop} {n:Nat}:sg p n<0↔p/\0<n:=by
 by_cases h:p
 ·rw[jK h];exact⟨λ_=>⟨h,by omega⟩,λh=>by omega⟩
 rw[jL h];exact⟨λh=>by omega,λh2=>absurd h2.1 h⟩
theorem Ci.in {i:IntM} {v:Int} {B:Nat} (h:Ci i v) (hb:len v.natAbs<=B):In i v B:=by
 obtain⟨lX,vX⟩:=dg h.2
 refine⟨lX,by rw[h.2];exact hb,?_⟩
 rw[vX]
 by_cases hp:i.p
 ·rw[jK hp];have:=h.1.1 hp;omega
 rw[jL hp];have:¬v<0:=λhv=>hp (h.1.2 hv);omega
theorem In.abs {i:IntM} {v:Int} {B:Nat} (h:In i v B):val i.m.l=v.natAbs:=by rw[<-h.v,aBg]
theorem In.len {i:IntM} {v:Int} {B:Nat} (h:In i v B):len v.natAbs<=B:=by rw[<-h.abs];exact aH (dB h.lm) h.ln
theorem In.le {i:IntM} {v:Int} {B B':Nat} (h:In i v B) (hb:B<=B':=by omega):In i v B':=⟨h.lm,aH h.ln hb,h.v⟩
theorem aOc {n:Nat}:0<len n↔0<n:=by have:=lO (n:=n);omega
abbrev aKr:FuncId:=139
theorem bKz:Ent Tryz.prog aKr:=aV func139 rfl kR
theorem bLa:Tryz.prog.funcs[aKr]? =some Tryz.f139:=func139
theorem mH (p:Prop) {hp:Decidable p} (m:Sl Nat) (hm:Lm m.l) (hn:m.l.length<=35184372088832):Ctr Tryz.prog aKr [] [.c (.b p hp),.c (eD m)] [] (vH (sg p (val m.l))):=by
 refine bE gT bKz bLa rfl rfl rfl bL aT (aA gT mxd ⟨[],lM m hm hn,rfl,rfl,rfl,λX hX=>?_⟩)
 replace hX:X.l=cF (val m.l):=hX
 refine⟨⟨p/\(0:Int)<(X.l.length:Nat),inferInstance,X⟩,⟨?_,?_⟩,aO rfl rfl trivial⟩
 ·show(p/\(0:Int)<(X.l.length:Nat))↔_
  rw[aEv,hX,eM]
  have:=aOc (n:=val m.l)
  constructor
  ·rintro⟨h1,h2⟩;exact⟨h1,this.1 oM⟩
  rintro⟨h1,h2⟩;exact⟨h1,by have:=this.2 h2;omega⟩
 show X.l=_
 rw[aBg];exact hX
abbrev aKs:FuncId:=134
theorem bLb:Ent Tryz.prog aKs:=aV func134 rfl kR
theorem bLc:Tryz.prog.funcs[aKs]? =some Tryz.f134:=func134
theorem aEw (i:IntM) {v:Int} (h:In i v 35184372088832):Ctr Tryz.prog aKs [] [.a i.C] [] (vH v):=by
 refine bE gT bLb bLc rfl rfl rfl bL aT (aA gT mxd ⟨[],mH i.p i.m h.lm h.ln,rfl,rfl,rfl,λg hg=>⟨g,?_,aO rfl rfl trivial⟩⟩)
 rw[<-h.v];exact hg
abbrev aVp:FuncId:=138
theorem bSr:Ent Tryz.prog aVp:=aV func138 rfl kR
theorem bSs:Tryz.prog.funcs[aVp]? =some Tryz.f138:=func138
theorem yC (i:IntM) {v:Int} (h:In i v 35184372088832):Ctr Tryz.prog aVp [] [.a i.C] [] (vH (-v)):=by
 refine bE gT bSr bSs rfl rfl rfl bL aT (aA gT mxd ⟨[],mH (¬i.p) i.m h.lm h.ln,rfl,rfl,rfl,λg hg=>⟨g,?_,aO rfl rfl trivial⟩⟩)
 have e:sg (¬i.p) (val i.m.l)=-v:=by
  rw[<-h.v]
  by_cases hp:i.p
  ·rw[jK hp,jL (λh=>h hp)];omega
  rw[jL hp,jK hp]
 rw[<-e];exact hg
abbrev aVq:FuncId:=196
theorem bSt:Ent Tryz.prog aVq:=aV func196 rfl kR
theorem bSu:Tryz.prog.funcs[aVq]? =some Tryz.f196:=func196
theorem bLd (i:IntM) {v:Int} (h:In i v 35184372088832):Ctr Tryz.prog aVq [] [.a i.C] [] (vH v.natAbs):=by
 refine bE gT bSt bSu rfl rfl rfl bL aT (aA gT mxd ⟨[],mH (false=true) i.m h.lm h.ln,rfl,rfl,rfl,λg hg=>⟨g,?_,aO rfl rfl trivial⟩⟩)
 rw[<-h.abs,<-jL (p:=false=true) dC];exact hg
theorem aVr {p q:Prop} {m n:Nat} (h:p↔q):sg p m+sg q n=sg p (m+n):=by
 by_cases hp:p
 ·rw[jK hp,jK (h.1 hp),jK hp];omega
 rw[jL hp,jL (λhq=>hp (h.2 hq)),jL hp];omega
theorem aEx {p q:Prop} {m n:Nat} (h:¬(p↔q)) (hmn:n<=m):sg p m+sg q n=sg p (m-n):=by
 by_cases hp:p
 ·rw[jK hp,jL (λhq=>h ⟨λ_=>hq,λ_=>hp⟩),jK hp];omega
 have hq:q:=bA λhq=>h ⟨λh=>absurd h hp,λh=>absurd h hq⟩
 rw[jL hp,jK hq,jL hp];omega
theorem aVs {p q:Prop} {m n:Nat}:sg p m*sg q n=sg (¬(p↔q)) (m*n):=by
 by_cases hp:p<;>by_cases hq:q
 ·rw[jK hp,jK hq,jL (λh=>h ⟨λ_=>hq,λ_=>hp⟩),Int.neg_mul_neg,fF]
 ·rw[jK hp,jL hq,jK (λh=>hq (h.1 hp)),uJ,fF]
 ·rw[jL hp,jK hq,jK (λh=>hp (h.2 hq)),uM,fF]
 rw[jL hp,jL hq,jL (λh=>h ⟨λh=>absurd h hp,λh=>absurd h hq⟩),fF]
theorem dgl {X:Sl Nat} {n B:Nat} (h:X.l=cF n) (hb:len n<=B):X.l.length<=B:=by rw[h];exact hb
theorem aOd (m n:Nat):len (m-n)<=len m:=fL (nW m n)
abbrev aKt:FuncId:=106
theorem bLe:Ent Tryz.prog aKt:=aV func106 rfl kR
theorem bLf:Tryz.prog.funcs[aKt]? =some Tryz.f106:=func106
theorem zK {z:Int} (hz:-9223372036854775808<=z/\z<=9223372036854775807):Ctr Tryz.prog aKt [] [.c (iC z)] [] (vH z):=by
 refine bE gT bLe bLf rfl rfl rfl bL aT (aA gT mxd ⟨λh=>aA gT mxd ?_,λh=>aA gT mxd ?_⟩)
 ·have hl:=sF (n:=z.natAbs)
  refine⟨z+1,wi,0-(z+1),wi,((-(z+1)).toNat:Nat),wu,(z.natAbs:Nat),wu,[],aEi (n:=z.natAbs) oM,rfl,rfl,rfl,λg hg=>?_⟩
  replace hg:g.l=cF z.natAbs:=hg
  obtain⟨lg,vg⟩:=dg hg
  refine⟨[],mH (true=true) g lg (dgl hg oM),rfl,rfl,rfl,λi hi=>⟨i,?_,aO rfl rfl trivial⟩⟩
  have e:sg (true=true) (val g.l)=z:=by rw[jK rfl,vg];omega
  rw[<-e];exact hi
 have hl:=sF (n:=z.natAbs)
 refine⟨(z.natAbs:Nat),wu,[],aEi (n:=z.natAbs) oM,rfl,rfl,rfl,λg hg=>?_⟩
 replace hg:g.l=cF z.natAbs:=hg
 obtain⟨lg,vg⟩:=dg hg
 refine⟨[],mH (false=true) g lg (dgl hg oM),rfl,rfl,rfl,λi hi=>⟨i,?_,aO rfl rfl trivial⟩⟩
 have e:sg (false=true) (val g.l)=z:=by rw[jL dC,vg];omega
 rw[<-e];exact hi
def sgn (z:Int):Int:=if z<0 then-1 else if z=0 then 0 else 1
abbrev aKu:FuncId:=133
theorem bLg:Ent Tryz.prog aKu:=aV func133 rfl kR
theorem bLh:Tryz.prog.funcs[aKu]? =some Tryz.f133:=func133
theorem aOe (i:IntM) {v:Int} (h:In i v 35184372088832):Ctr Tryz.prog aKu [] [.a i.C] [] (λ_:Unit=>⟨.c (iC (sgn v)),[],True⟩):=by
 refine bE gT bLg bLh rfl rfl rfl bL aT (aA gT mxd ⟨[],aEw i h,rfl,rfl,rfl,λg hg=>⟨λh1=>aA gT mxd ?_,λh1=>aA gT mxd ⟨λh2=>aA gT mxd ?_,λh2=>aA gT mxd ?_⟩⟩⟩)
 all_goals replace hg:Ci g v:=hg
 ·exact⟨(),trivial,aO (show(-1:Int)=_ by unfold sgn;rw[if_pos (hg.1.1 h1)]) rfl trivial⟩
 all_goals
  have h3:¬v<0:=λh=>h1 (hg.1.2 h)
  have h4:=lO (n:=v.natAbs)
  rw[hg.2,eM] at h2
 ·exact⟨(),trivial,aO (show(0:Int)=_ by unfold sgn;rw[if_neg h3,if_pos oM]) rfl trivial⟩
 exact⟨(),trivial,aO (show(1:Int)=_ by unfold sgn;rw[if_neg h3,if_neg oM]) rfl trivial⟩
abbrev aVt:FuncId:=75
theorem bSv:Ent Tryz.prog aVt:=aV func75 rfl kR
theorem bSw:Tryz.prog.funcs[aVt]? =some Tryz.f75:=func75
theorem aEy (i j:IntM) {a b:Int} (hi:In i a 17592186044416) (hj:In j b 17592186044416):Ctr Tryz.prog aVt [] [.a i.C,.a j.C] [] (vH (a+b)):=by
 have hli:=hi.ln
 have hlj:=hj.ln
 have hla:len (val i.m.l)<=17592186044416:=by rw[hi.abs];exact hi.len
 have hlb:len (val j.m.l)<=17592186044416:=by rw[hj.abs];exact hj.len
 refine bE gT bSv bSw rfl rfl rfl bL aT (aA gT mxd ⟨λh=>aA gT mxd ?_,λh=>aA gT mxd ?_⟩)
 ·refine⟨.seq [(0,false),(1,false),(2,false),(3,false),(4,false),(5,false),(6,false),(7,false),(8,true)],by kernel_rfl,[],aUy i.m j.m hi.lm hj.lm hli hlj,rfl,rfl,rfl,λg hg=>?_⟩
  replace hg:g.l=cF (val i.m.l+val j.m.l):=hg
  obtain⟨lg,vg⟩:=dg hg
  have:=wE (val i.m.l) (val j.m.l)
  refine⟨[],mH i.p g lg (dgl hg oM),rfl,rfl,rfl,λr hr=>⟨r,?_,aO rfl rfl trivial⟩⟩
  rw[<-hi.v,<-hj.v,aVr h,<-vg];exact hr
 refine⟨[],aUz i.m j.m hi.lm hj.lm hli hlj,rfl,rfl,rfl,λg hg=>⟨λh1=>aA gT mxd ?_,λh1=>aA gT mxd ?_⟩⟩
 ·replace hg:g.l=cF (val i.m.l-val j.m.l):=hg
  obtain⟨lg,vg⟩:=dg hg
  have:=aOd (val i.m.l) (val j.m.l)
  refine⟨[],mH i.p g lg (dgl hg oM),rfl,rfl,rfl,λr hr=>⟨r,?_,aO rfl rfl trivial⟩⟩
  rw[<-hi.v,<-hj.v,aEx h h1,<-vg];exact hr
 refine⟨[],aUz j.m i.m hj.lm hi.lm hlj hli,rfl,rfl,rfl,λg hg=>?_⟩
 replace hg:g.l=cF (val j.m.l-val i.m.l):=hg
 obtain⟨lg,vg⟩:=dg hg
 have:=aOd (val j.m.l) (val i.m.l)
 refine⟨[],mH j.p g lg (dgl hg oM),rfl,rfl,rfl,λr hr=>⟨r,?_,aO rfl rfl trivial⟩⟩
 rw[<-hi.v,<-hj.v,Int.add_comm,aEx (λh'=>h h'.symm) oM,<-vg];exact hr
abbrev aVu:FuncId:=197
theorem bSx:Ent Tryz.prog aVu:=aV func197 rfl kR
theorem bSy:Tryz.prog.funcs[aVu]? =some Tryz.f197:=func197
theorem bLi (i j:IntM) {a b:Int} (hi:In i a 17592186044416) (hj:In j b 17592186044416):Ctr Tryz.prog aVu [] [.a i.C,.a j.C] [] (vH (a-b)):=by
 refine bE gT bSx bSy rfl rfl rfl bL aT (aA gT mxd ⟨.seq [(0,false),(1,false),(2,false),(3,false),(4,true)],by kernel_rfl,[],yC j hj.le,rfl,rfl,rfl,λg hg=>?_⟩)
 replace hg:Ci g (-b):=hg
 have hlb:=hj.len
 refine⟨[],aEy i g hi (hg.in (by rw[qD];exact hlb)),rfl,rfl,rfl,λr hr=>⟨r,?_,aO rfl rfl trivial⟩⟩
 rw[Int.sub_eq_add_neg];exact hr
abbrev aVv:FuncId:=76
theorem bSz:Ent Tryz.prog aVv:=aV func76 rfl kR
theorem bTa:Tryz.prog.funcs[aVv]? =some Tryz.f76:=func76
theorem vT (i j:IntM) {a b:Int} (hi:In i a 17592186044416) (hj:In j b 17592186044416):Ctr Tryz.prog aVv [] [.a i.C,.a j.C] [] (vH (a*b)):=by
 have hli:=hi.ln
 have hlj:=hj.ln
 have hla:len (val i.m.l)<=17592186044416:=by rw[hi.abs];exact hi.len
 have hlb:len (val j.m.l)<=17592186044416:=by rw[hj.abs];exact hj.len
 refine bE gT bSz bTa rfl rfl rfl bL aT (aA gT mxd ⟨.seq [(0,false),(1,false),(2,false),(3,false),(4,false),(5,false),(6,false),(7,false),(8,false),(9,false),(10,false),(11,true)],by kernel_rfl,[],bRu i.m j.m hi.lm hj.lm hli hlj,rfl,rfl,rfl,λg hg=>?_⟩)
 replace hg:g.l=cF (val i.m.l*val j.m.l):=hg
 obtain⟨lg,vg⟩:=dg hg
 have:=nY (val i.m.l) (val j.m.l)
 refine⟨[],mH (¬(i.p↔j.p)) g lg (dgl hg oM),rfl,rfl,rfl,λr hr=>⟨r,?_,aO rfl rfl trivial⟩⟩
 rw[<-hi.v,<-hj.v,aVs,<-vg];exact hr
abbrev aVw:FuncId:=136
theorem bTb:Ent Tryz.prog aVw:=aV func136 rfl kR
theorem bTc:Tryz.prog.funcs[aVw]? =some Tryz.f136:=func136
theorem aVx (i j:IntM) {a b:Int} (hi:In i a 13194139533312) (hj:In j b 13194139533312):Ctr Tryz.prog aVw [] [.a i.C,.a j.C] [] (vH (Int.gcd a b)):=by
 refine bE gT bTb bTc rfl rfl rfl bL aT (aA gT mxd ⟨[],bSd i.m j.m hi.lm hj.lm hi.ln hj.ln,rfl,rfl,rfl,λg hg=>?_⟩)
 replace hg:g.l=cF (Nat.gcd (val i.m.l) (val j.m.l)):=hg
 obtain⟨lg,vg⟩:=dg hg
 have hlg:len (Nat.gcd (val i.m.l) (val j.m.l))<=13194139533312:=by
  rcases bS (val i.m.l) with h0|h0
  ·rw[h0,Nat.gcd_zero_left,hj.abs];exact hj.len
  exact aH (fL (Nat.le_of_dvd h0 (iF _ _))) (by rw[hi.abs];exact hi.len)
 refine⟨[],mH (false=true) g lg (dgl hg oM),rfl,rfl,rfl,λr hr=>⟨r,?_,aO rfl rfl trivial⟩⟩
 have e:sg (false=true) (val g.l)=(Int.gcd a b:Int):=by rw[jL dC,vg,hi.abs,hj.abs];rfl
 rw[<-e];exact hr
theorem bLj {m n:Nat} (hn:n≠0):(m:Int)/(n:Int)=(m/n:Nat)/\(m:Int)%(n:Int)=(m%n:Nat):=⟨by rw[sC],by rw[Int.natCast_emod]⟩
theorem aVy {m n:Nat} (hn:n≠0):(-(m:Int))/(n:Int)=(if m%n=0 then-((m/n:Nat):Int) else-((m/n:Nat):Int)-1)/\(-(m:Int))%(n:Int)=if m%n=0 then 0 else (n:Int)-(m%n:Nat):=by
 have h1:=eT m n
 have h2:=cO m (Nat.pos_of_ne_zero hn)
 have h3:(n:Int)*((m/n:Nat):Int)+((m%n:Nat):Int)=m:=by rw[<-fF,<-oX,h1]
 refine(Int.ediv_emod_unique oM).2 ?_
 split
 ·next h=>rw[h] at h3;rw[uM];omega
 next h=>rw[Int.mul_sub,uM,uH];omega
theorem bDz {p q:Prop} {m n:Nat} (hn:n≠0) (h:¬(p/\0<m%n)):sg p m/sg q n=sg (¬(p↔q)) (m/n)/\sg p m%sg q n=sg p (m%n):=by
 obtain⟨a1,a2⟩:=bLj (m:=m) hn
 obtain⟨b1,b2⟩:=aVy (m:=m) hn
 by_cases hp:p<;>by_cases hq:q
 ·have hz:m%n=0:=by have:¬0<m%n:=λh0=>h ⟨hp,h0⟩
                    omega
  rw[if_pos hz] at b1 b2
  rw[jK hp,jK hq,jL (λh=>h ⟨λ_=>hq,λ_=>hp⟩),jK hp,Int.ediv_neg,Int.emod_neg,b1,b2,hz]
  omega
 ·have hz:m%n=0:=by have:¬0<m%n:=λh0=>h ⟨hp,h0⟩
                    omega
  rw[if_pos hz] at b1 b2
  rw[jK hp,jL hq,jK (λh=>hq (h.1 hp)),jK hp,b1,b2,hz]
  omega
 ·rw[jL hp,jK hq,jK (λh=>hp (h.2 hq)),jL hp,Int.ediv_neg,Int.emod_neg,a1,a2]
  exact⟨rfl,rfl⟩
 rw[jL hp,jL hq,jL (λh=>h ⟨λh=>absurd h hp,λh=>absurd h hq⟩),jL hp,a1,a2]
 exact⟨rfl,rfl⟩
theorem bEa {p q:Prop} {m n:Nat} (hn:n≠0) (hp:p) (h:0<m%n):sg p m/sg q n=sg (¬(p↔q)) (m/n)+sg (¬q) 1/\sg p m%sg q n=sg p (m%n)+n:=by
 obtain⟨b1,b2⟩:=aVy (m:=m) hn
 rw[if_neg oM] at b1 b2
 by_cases hq:q
 ·rw[jK hp,jK hq,jL (λh=>h ⟨λ_=>hq,λ_=>hp⟩),jK hp,jL (λh=>h hq),Int.ediv_neg,Int.emod_neg,b1,b2]
  omega
 rw[jK hp,jL hq,jK (λh=>hq (h.1 hp)),jK hp,jK hq,b1,b2]
 omega
theorem bLk {p:Prop} (h:p):(p/\p)/\p:=⟨⟨h,h⟩,h⟩
def oDM:Ord:=.tree [] (tr2 0 (tr2 1 (trS [2,3,4]) 2 (trS [1,3,4])) 1 (trS [0,2,3,4]))
abbrev bLl:FuncId:=137
theorem bZo:Ent Tryz.prog bLl:=aV func137 rfl kR
theorem bZp:Tryz.prog.funcs[bLl]? =some Tryz.f137:=func137
theorem uY (i j:IntM) {a b:Int} (hi:In i a 13194139533312) (hj:In j b 13194139533312) (hb:b≠0):Ctr Tryz.prog bLl [] [.a i.C,.a j.C] [] (λg:IntM×IntM=>⟨.t [.a g.1.C,.a g.2.C,pC True],[],Ci g.1 (a/b)/\Ci g.2 (a%b)⟩):=by
 have hla:len (val i.m.l)<=13194139533312:=by rw[hi.abs];exact hi.len
 have hlb:len (val j.m.l)<=13194139533312:=by rw[hj.abs];exact hj.len
 have hb0:val j.m.l≠0:=by rw[hj.abs];omega
 refine bE gT bZo bZp rfl rfl rfl bL aT (aA gT mxd ⟨[],aIg i.m j.m hi.lm hj.lm hi.ln hj.ln,rfl,rfl,rfl,λ⟨Q,R⟩ ⟨hQ,hR⟩=>⟨λh=>absurd hb0 h,λh=>aA gT mxd ?_⟩⟩)
 replace hQ:Q.l=cF (val i.m.l/val j.m.l):=hQ
 replace hR:R.l=cF (aCa (val i.m.l) (val j.m.l)):=hR
 rw[aCa,if_neg hb0] at hR
 obtain⟨lQ,vQ⟩:=dg hQ
 obtain⟨lR,vR⟩:=dg hR
 have hlq:=fL (gH (val i.m.l) (val j.m.l))
 have hlr:=fL (Nat.mod_le (val i.m.l) (val j.m.l))
 have hlr2:=fL (eJ (cO (val i.m.l) (Nat.pos_of_ne_zero hb0)))
 refine⟨.seq [(0,false),(1,false),(2,false),(3,false),(4,false),(5,false),(7,false),(8,false),(9,false),(6,false),(10,false),(11,true),(12,true)],by kernel_rfl,[],mH (¬(i.p↔j.p)) Q lQ (dgl hQ oM),rfl,rfl,rfl,λq hq=>⟨[],mH i.p R lR (dgl hR oM),rfl,rfl,rfl,λr hr=>⟨λh1=>aA gT mxd ?_,λh1=>aA gT mxd ?_⟩⟩⟩
 all_goals
  replace hq:Ci q (sg (¬(i.p↔j.p)) (val Q.l)):=hq
  replace hr:Ci r (sg i.p (val R.l)):=hr
  rw[vQ] at hq
  rw[vR] at hr
 ·have hn:=hr.1.1 h1
  rw[aEv] at hn
  obtain⟨e1,e2⟩:=bEa (q:=j.p) hb0 hn.1 hn.2
  rw[hi.v,hj.v] at e1 e2
  have hab:(b.natAbs:Int)=(val j.m.l:Nat):=by rw[hj.abs]
  refine⟨.seq [(0,false),(1,false),(2,false),(3,false),(4,true)],by kernel_rfl,[],bLd j hj.le,rfl,rfl,rfl,λab hab2=>⟨[],aEy r ab (hr.in (by rw[aBg];omega)) (Ci.in hab2 (by rw[dU,<-hj.abs];omega)),rfl,rfl,rfl,λr2 hr2=>?_⟩⟩
  replace hr2:Ci r2 (sg i.p (val i.m.l%val j.m.l)+b.natAbs):=hr2
  rw[hab,<-e2] at hr2
  have hq1:In q _ 17592186044416:=hq.in (by rw[aBg];omega)
  have l1:len (1:Int).natAbs<=17592186044416:=by decide
  refine⟨λh2=>aA gT mxd ?_,λh2=>aA gT mxd ?_⟩
  ·refine⟨.seq [(0,false),(1,false),(2,false),(3,true)],by kernel_rfl,[],zK (z:=1) dC,rfl,rfl,rfl,λone h1=>⟨[],aEy q one hq1 (Ci.in h1 l1),rfl,rfl,rfl,λq2 hq2=>⟨oDM,by kernel_rfl,bLk ⟨(q2,r2),⟨?_,hr2⟩,aO ⟨rfl,rfl,tt trivial⟩ rfl trivial⟩⟩⟩⟩
   rw[jL (p:=¬j.p) (n:=1) (λh=>h h2)] at e1
   show Ci q2 _
   rw[e1];exact hq2
  refine⟨.seq [(0,false),(1,false),(2,false),(3,true)],by kernel_rfl,[],zK (z:=1) dC,rfl,rfl,rfl,λone h1=>⟨[],bLi q one hq1 (Ci.in h1 l1),rfl,rfl,rfl,λq2 hq2=>⟨oDM,by kernel_rfl,bLk ⟨(q2,r2),⟨?_,hr2⟩,aO ⟨rfl,rfl,tt trivial⟩ rfl trivial⟩⟩⟩⟩
  rw[jK (p:=¬j.p) (n:=1) h2] at e1
  show Ci q2 _
  rw[e1];exact hq2
 have hn:¬(i.p/\0<val i.m.l%val j.m.l):=λh=>h1 (hr.1.2 (aEv.2 h))
 obtain⟨e1,e2⟩:=bDz (q:=j.p) hb0 hn
 rw[hi.v,hj.v] at e1 e2
 refine⟨oDM,by kernel_rfl,bLk ⟨(q,r),⟨?_,?_⟩,aO ⟨rfl,rfl,tt trivial⟩ rfl trivial⟩⟩
 ·show Ci q _
  rw[e1];exact hq
 show Ci r _
 rw[e2];exact hr
end Go.Proofs.YtghncoghdcmdfaaGreat
namespace Go.Proofs.YtghncoghdcmdfaaGreat
open Go.Vg _root_.Go.Proofs.Tryz
open Go.Vm hiding sgn
open Go.Vy hiding val
abbrev aBh:FuncId:=210
theorem aVz:Ent Tryz.prog aBh:=aV func210 rfl kR
theorem aWa:Tryz.prog.funcs[aBh]? =some Tryz.f210:=func210
theorem mT (p:Prop) {hp:Decidable p} (m:Sl Nat) {n:Nat} (hm:m.l=cF n):Ctr Tryz.prog aBh [] [.c (.b p hp),.c (eD m)] [] (vH (sg p n)):=by
 refine bE gT aVz aWa rfl rfl rfl bL aT (aA gT mxd ⟨⟨p/\(0:Int)<(m.l.length:Nat),inferInstance,m⟩,⟨?_,?_⟩,aO rfl rfl trivial⟩)
 ·show p/\(0:Int)<(m.l.length:Nat)↔_
  rw[aEv,hm]
  have:=aOc (n:=n)
  unfold len at this
  constructor
  ·rintro⟨h1,h2⟩;exact⟨h1,this.1 oM⟩
  rintro⟨h1,h2⟩;exact⟨h1,by have:=this.2 h2;omega⟩
 rw[aBg];exact hm
theorem aWb {p:Prop} {n:Nat}:sg (¬p) n=-sg p n:=by
 by_cases hp:p
 ·rw[jK hp,jL (λh=>h hp)];omega
 rw[jL hp,jK hp]
abbrev aEz:FuncId:=215
theorem bEb:Ent Tryz.prog aEz:=aV func215 rfl kR
theorem bEc:Tryz.prog.funcs[aEz]? =some Tryz.f215:=func215
theorem aWc (i:IntM) {v:Int} (h:In i v 35184372088832):Ctr Tryz.prog aEz [] [.a i.C] [] (vH v):=by
 refine bE gT bEb bEc rfl rfl rfl bL aT (aA gT mxd ⟨.seq [(0,false),(1,false),(2,false),(3,false),(4,false),(5,true),(6,true)],by kernel_rfl,[],xA i.m h.lm h.ln,rfl,rfl,rfl,λm hm=>⟨[],mT i.p m hm,rfl,rfl,rfl,λg hg=>⟨g,?_,aO rfl rfl trivial⟩⟩⟩)
 rw[<-h.v];exact hg
abbrev aKv:FuncId:=221
theorem bLm:Ent Tryz.prog aKv:=aV func221 rfl kR
theorem bLn:Tryz.prog.funcs[aKv]? =some Tryz.f221:=func221
theorem bEd (i:IntM) {v:Int} (h:In i v 35184372088832):Ctr Tryz.prog aKv [] [.a i.C] [] (vH (-v)):=by
 refine bE gT bLm bLn rfl rfl rfl bL aT (aA gT mxd ⟨.seq [(0,false),(1,false),(2,false),(3,false),(4,false),(5,false),(6,true),(7,true)],by kernel_rfl,[],xA i.m h.lm h.ln,rfl,rfl,rfl,λm hm=>⟨[],mT (¬i.p) m hm,rfl,rfl,rfl,λg hg=>⟨g,?_,aO rfl rfl trivial⟩⟩⟩)
 rw[<-h.v,<-aWb];exact hg
theorem aOf (x:Sl Nat) (hx:Lm x.l) (hn:x.l.length<=35184372088832):Ctr Tryz.prog aEo [] [.c (eD x),.c (.v (.slice none 0 0))] [] (λ_:Unit=>⟨.c (iC (pT (val x.l) (0:Nat))),[],True⟩):=
 (sN x dK hx Lm.nil hn bL).arg λ_ _ _=>HL.cons (λ_ h=>h) (HL.cons (λv h=>Hd.nilr v h) λ_ h=>h)
theorem aWd {n:Nat}:pT (n:Int) (0:Nat)=0↔n=0:=by unfold pT;constructor<;>intro h<;>(repeat split at*)<;>omega
abbrev aFa:FuncId:=157
theorem bEe:Ent Tryz.prog aFa:=aV func157 rfl kR
theorem bEf:Tryz.prog.funcs[aFa]? =some Tryz.f157:=func157
theorem aBi (i:IntM) {v:Int} (h:In i v 35184372088832):Ctr Tryz.prog aFa [] [.a i.C] [] (λ_:Unit=>⟨.c (iC (sgn v)),[],True⟩):=by
 refine bE gT bEe bEf rfl rfl rfl bL aT (aA gT mxd ⟨[],aOf i.m h.lm h.ln,rfl,rfl,rfl,λ_ _=>⟨λh1=>aA gT mxd ?_,λh1=>aA gT mxd ⟨λh2=>aA gT mxd ?_,λh2=>aA gT mxd ?_⟩⟩⟩)
 all_goals
  have hv:=h.v
  have ha:=h.abs
  refine⟨(),trivial,aO ?_ rfl trivial⟩
 ·have:=aWd.1 h1
  show(0:Int)=_
  unfold sgn;rw[if_neg oM,if_pos oM]
 ·have h3:val i.m.l≠0:=λh=>h1 (aWd.2 h)
  rw[jK h2] at hv
  show(-1:Int)=_
  unfold sgn;rw[if_pos oM]
 have h3:val i.m.l≠0:=λh=>h1 (aWd.2 h)
 rw[jL h2] at hv
 show(1:Int)=_
 unfold sgn;rw[if_neg oM,if_neg oM]
abbrev aKw:FuncId:=206
theorem bLo:Ent Tryz.prog aKw:=aV func206 rfl kR
theorem bLp:Tryz.prog.funcs[aKw]? =some Tryz.f206:=func206
theorem aOg (i j:IntM) {a b:Int} (hi:In i a 17592186044416) (hj:In j b 17592186044416):Ctr Tryz.prog aKw [] [.a i.C,.a j.C] [] (vH (a+b)):=by
 have hli:=hi.ln
 have hlj:=hj.ln
 refine bE gT bLo bLp rfl rfl rfl bL aT (aA gT mxd ⟨λh=>aA gT mxd ?_,λh=>aA gT mxd ?_⟩)
 ·refine⟨.seq [(0,false),(1,false),(2,false),(3,false),(4,false),(5,false),(6,false),(7,true),(8,true)],by kernel_rfl,[],bDq i.m j.m hi.lm hj.lm hli hlj,rfl,rfl,rfl,λg hg=>⟨[],mT i.p g hg,rfl,rfl,rfl,λr hr=>⟨r,?_,aO rfl rfl trivial⟩⟩⟩
  rw[<-hi.v,<-hj.v,aVr h];exact hr
 refine⟨[],aEq i.m j.m hi.lm hj.lm oM oM,rfl,rfl,rfl,λg hg=>⟨λh1=>aA gT mxd ?_,λh1=>aA gT mxd ?_⟩⟩
 ·refine⟨[],mT i.p g hg,rfl,rfl,rfl,λr hr=>⟨r,?_,aO rfl rfl trivial⟩⟩
  rw[<-hi.v,<-hj.v,aEx h h1];exact hr
 refine⟨[],aEq j.m i.m hj.lm hi.lm oM oM,rfl,rfl,rfl,λg hg=>⟨[],mT j.p g hg,rfl,rfl,rfl,λr hr=>⟨r,?_,aO rfl rfl trivial⟩⟩⟩
 rw[<-hi.v,<-hj.v,Int.add_comm,aEx (λh'=>h h'.symm) oM];exact hr
abbrev aKx:FuncId:=163
theorem bLq:Ent Tryz.prog aKx:=aV func163 rfl kR
theorem bLr:Tryz.prog.funcs[aKx]? =some Tryz.f163:=func163
theorem xC (i j:IntM) {a b:Int} (hi:In i a 17592186044416) (hj:In j b 17592186044416):Ctr Tryz.prog aKx [] [.a i.C,.a j.C] [] (vH (a*b)):=by
 refine bE gT bLq bLr rfl rfl rfl bL aT (aA gT mxd ⟨.seq [(0,false),(1,false),(2,false),(3,false),(4,false),(5,false),(6,false),(7,false),(8,false),(9,false),(10,true),(11,true)],by kernel_rfl,[],xB i.m j.m hi.lm hj.lm hi.ln hj.ln,rfl,rfl,rfl,λg hg=>⟨[],mT (¬(i.p↔j.p)) g hg,rfl,rfl,rfl,λr hr=>⟨r,?_,aO rfl rfl trivial⟩⟩⟩)
 rw[<-hi.v,<-hj.v,aVs];exact hr
abbrev aFb:FuncId:=183
theorem bEg:Ent Tryz.prog aFb:=aV func183 rfl kR
theorem bEh:Tryz.prog.funcs[aFb]? =some Tryz.f183:=func183
theorem aWe {z:Int} (hz:-9223372036854775808<=z/\z<=9223372036854775807):Ctr Tryz.prog aFb [] [.c (iC z)] [] (vH z):=by
 refine bE gT bEg bEh rfl rfl rfl bL aT (aA gT mxd ⟨λh=>aA gT mxd ?_,λh=>aA gT mxd ?_⟩)
 ·refine⟨(18446744073709551616-z.natAbs:Nat),show _=_ by rw[IntKind.wrap_u64];omega,(z.natAbs:Nat),show _=_ by rw[IntKind.wrap_u64];omega,[],lZ (n:=z.natAbs) oM,rfl,rfl,rfl,λg hg=>⟨[],mT (true=true) g hg,rfl,rfl,rfl,λr hr=>⟨r,?_,aO rfl rfl trivial⟩⟩⟩
  have e:sg (true=true) z.natAbs=z:=by rw[jK rfl];omega
  rw[<-e];exact hr
 refine⟨(z.natAbs:Nat),wu,[],lZ (n:=z.natAbs) oM,rfl,rfl,rfl,λg hg=>⟨[],mT (false=true) g hg,rfl,rfl,rfl,λr hr=>⟨r,?_,aO rfl rfl trivial⟩⟩⟩
 have e:sg (false=true) z.natAbs=z:=by rw[jL dC];omega
 rw[<-e];exact hr
end Go.Proofs.YtghncoghdcmdfaaGreat
namespace Go.Proofs.YtghncoghdcmdfaaGreat
open Go.Vg _root_.Go.Proofs.Tryz
open Go.Vm
open Go.Vy hiding val
structure RatM where
 n:IntM
 d:Sl Nat
def RatM.C (r:RatM):List CV:=[.b r.n.p r.n.d,eD r.n.m,eD r.d]
structure Rq (r:RatM) (q:Rat) (B:Nat):Prop where
 n:In r.n (sg r.n.p (val r.n.m.l)) B
 ld:Lm r.d.l
 bd:r.d.l.length<=B
 v:Rat.divInt (sg r.n.p (val r.n.m.l)) (val r.d.l)=q
def Cr (r:RatM) (q:Rat):Prop:=Ci r.n q.num/\r.d.l=cF q.den
abbrev rG (q:Rat):RatM->Out:=λg=>⟨.a g.C,[],Cr g q⟩
def rb (q:Rat) (B:Nat):Prop:=len q.num.natAbs<=B/\len q.den<=B
theorem Rq.rb {r:RatM} {q:Rat} {B:Nat} (h:Rq r q B) (hB:1<=B:=by decide):rb q B:=by
 have h1:=aDj (a:=sg r.n.p (val r.n.m.l)) (b:=(val r.d.l:Nat))
 have h2:=aDk (a:=sg r.n.p (val r.n.m.l)) (b:=(val r.d.l:Nat))
 rw[h.v] at h1 h2
 rw[dU] at h2
 have h3:=h.n.len
 have h4:=aH (dB h.ld) h.bd
 refine⟨aH h1 h3,aH h2 ?_⟩
 simp only[eM]
 omega
theorem Cr.rq {r:RatM} {q:Rat} {B:Nat} (h:Cr r q) (hb:Go.Proofs.YtghncoghdcmdfaaGreat.rb q B):Rq r q B:=by
 obtain⟨ld,vd⟩:=dg h.2
 have h1:=h.1.in hb.1
 refine⟨⟨h1.lm,h1.ln,rfl⟩,ld,by rw[h.2];exact hb.2,?_⟩
 rw[h1.v,vd,gM]
theorem Rq.le {r:RatM} {q:Rat} {B B':Nat} (h:Rq r q B) (hb:B<=B':=by omega):Rq r q B':=⟨h.n.le hb,h.ld,aH h.bd hb,h.v⟩
theorem rb.le {q:Rat} {B B':Nat} (h:rb q B) (hb:B<=B':=by omega):rb q B':=⟨aH h.1 hb,aH h.2 hb⟩
abbrev aOh:FuncId:=25
theorem bTd:Ent Tryz.prog aOh:=aV func25 rfl kR
theorem bTe:Tryz.prog.funcs[aOh]? =some Tryz.f25:=func25
theorem aFc:Ctr Tryz.prog aOh [] [] [] (rG 0):=by
 have h0:Ctr Tryz.prog aOh [] [] [] (λ_:Unit=>⟨.a [.b (false=true) inferInstance,.s 1 0,.s 2 1],[(62,0,[.b (false=true) inferInstance,.s 1 0,.s 2 1]),(123,1,[]),(123,1,[uC 1])],True⟩):=by
  refine bE gT bTd bTe rfl rfl rfl bL aT (aA gT mxd ?_)
  exact⟨(),trivial,jW rfl ⟨rfl,rfl,rfl⟩ (aC _) (aB rfl (aB rfl (aB rfl bJ))) rfl wW⟩
 refine(CtrF.gt h0 λ_ _ _=>?_)
 refine bHb tGt 0 1 1 (λj=>[uC (([]:List Nat).getD j default)]) rfl rfl rfl rfl (λj hj=>absurd hj (aM _)) rfl cR (λc hc=>by cases hc) (aC _) λA c _ _=>⟨wX [1],?_⟩
 refine bHb tGt 0 2 2 (λj=>[uC ([1].getD j default)]) rfl rfl rfl rfl (λj hj=>kL (x:=[1]) j hj) rfl cR (gS [1]) (aC _) λA2 c2 _ _=>⟨λc hc=>(by cases hc),?_⟩
 exact cH (M:=λ_=>true) (base:=[]) (chg:=λg:RatM=>[(0,.a g.C)]) (bls:=λ_=>[]) (fls:=λ_=>[]) (λt d ht=>by cases ht) ⟨⟨false=true,inferInstance,⟨A,c,[]⟩⟩,⟨A2,c2,[1]⟩⟩ ⟨⟨⟨⟨λh=>(by cases h),λh=>absurd (show(0:Int)<0 from h) dC⟩,rfl⟩,rfl⟩,wW⟩ rfl trivial trivial rfl (aF _) (λi T es l hi=>by cases hi) rfl
theorem eY {z:Int}:sgn z=0↔z=0:=by unfold sgn;constructor<;>intro h<;>(repeat split at*)<;>omega
theorem aWf {n:Nat} (h:cF n=[1]):n=1:=by have:=congrArg Vm.val h;rw[wD] at this;exact this
theorem aOi {a b:Int} {B:Nat} (ha:len a.natAbs<=B) (hb:len b.natAbs<=B):len (Int.gcd a b:Int).natAbs<=B:=by
 rw[dU]
 rcases bS a.natAbs with h0|h0
 ·rw[Int.gcd,h0,Nat.gcd_zero_left];exact hb
 exact aH (fL (Nat.le_of_dvd h0 (iF _ _))) ha
theorem zL {a b:Int} {B:Nat} (ha:len a.natAbs<=B):len (a/b).natAbs<=B:=aH (fL (qJ a b)) ha
abbrev aKy:FuncId:=74
theorem bLs:Ent Tryz.prog aKy:=aV func74 rfl kR
theorem bLt:Tryz.prog.funcs[aKy]? =some Tryz.f74:=func74
theorem uZ (i j:IntM) {a b:Int} (hi:In i a 13194139533312) (hj:In j b 13194139533312):Ctr Tryz.prog aKy [] [.a i.C,.a j.C] [] (rG (Rat.divInt a b)):=by
 have hla:=hi.len
 have hlb:=hj.len
 refine bE gT bLs bLt rfl rfl rfl bL aT (aA gT mxd ⟨[],aOe j hj.le,rfl,rfl,rfl,λ_ _=>⟨λh=>aA gT mxd ?_,λh=>aA gT mxd ?_⟩⟩)
 ·have hb:=eY.1 h
  refine⟨[],aFc,rfl,rfl,rfl,λg hg=>⟨g,?_,aO rfl rfl trivial⟩⟩
  rw[hb,tG];exact hg
 have hb:b≠0:=λe=>h (eY.2 e)
 have hml:=aHa (zx:=a) hb
 have hg0:((Int.gcd a b:Nat):Int)≠0:=by have:=oZ a hb;omega
 refine⟨[],aEw j hj.le,rfl,rfl,rfl,λg hg=>?_⟩
 replace hg:Ci g b:=hg
 refine⟨λhn=>?_,λhn=>?_⟩
 ·refine⟨some (λj=>[uC ([1].getD j default)]),⟨⟨aC _,cR⟩,rfl,λj hj=>kL (x:=[1]) j hj,gS [1]⟩,λA c _ _=>⟨[],aEh g.m ⟨A,c,[1]⟩,rfl,rfl,rfl,λ_ _=>⟨λh1=>aA gT mxd ?_,λh1=>aA gT mxd ?_⟩⟩⟩
  ·have hb1:b=1:=by
    have e1:g.m.l=[1]:=h1
    have e2:cF b.natAbs=[1]:=hg.2▸e1
    have e3:=aWf e2
    have e4:¬b<0:=λh=>hn (hg.1.2 h)
    omega
   refine⟨.seq [(0,false),(2,false),(3,false),(1,false),(4,false),(5,true)],by kernel_rfl,[],aEw i hi.le,rfl,rfl,rfl,λx hx=>⟨⟨x,g.m⟩,?_,aO rfl rfl trivial⟩⟩
   rw[hb1]
   refine⟨?_,?_⟩
   ·show Ci x _
    rw[(sG a).1];exact hx
   show g.m.l=_
   rw[(sG a).2];exact h1
  refine⟨[],aVx i j hi hj,rfl,rfl,rfl,λx hx=>?_⟩
  have hx1:=Ci.in (B:=13194139533312) hx (aOi hla hlb)
  refine⟨[],uY i x hi hx1 hg0,rfl,rfl,rfl,λ⟨q1,r1⟩ ⟨hq1,_⟩=>⟨[],uY j x hj hx1 hg0,rfl,rfl,rfl,λ⟨q2,r2⟩ ⟨hq2,_⟩=>⟨λh2=>aA gT mxd ?_,λh2=>aA gT mxd ?_⟩⟩⟩
  ·obtain⟨m1,m2⟩:=hml.1 (hq2.1.1 h2)
   refine⟨.seq [(0,false),(2,false),(1,false),(3,false),(4,true),(5,true)],by kernel_rfl,[],yC q1 (v:=a/(Int.gcd a b:Int)) (Ci.in hq1 (aH (zL hla) dC)),rfl,rfl,rfl,λn1 hn1=>⟨[],yC q2 (v:=b/(Int.gcd a b:Int)) (Ci.in hq2 (aH (zL hlb) dC)),rfl,rfl,rfl,λd1 hd1=>⟨⟨n1,d1.m⟩,⟨?_,?_⟩,aO rfl rfl trivial⟩⟩⟩
   ·show Ci n1 _
    rw[m1];exact hn1
   show d1.m.l=_
   rw[m2];exact hd1.2
  obtain⟨m1,m2⟩:=hml.2 λh=>h2 (hq2.1.2 h)
  refine⟨⟨q1,q2.m⟩,⟨?_,?_⟩,aO rfl rfl trivial⟩
  ·show Ci q1 _
   rw[m1];exact hq1
  show q2.m.l=_
  rw[m2];exact hq2.2
 refine⟨[],aVx i j hi hj,rfl,rfl,rfl,λx hx=>?_⟩
 have hx1:=Ci.in (B:=13194139533312) hx (aOi hla hlb)
 refine⟨[],uY i x hi hx1 hg0,rfl,rfl,rfl,λ⟨q1,r1⟩ ⟨hq1,_⟩=>⟨[],uY j x hj hx1 hg0,rfl,rfl,rfl,λ⟨q2,r2⟩ ⟨hq2,_⟩=>⟨λh2=>aA gT mxd ?_,λh2=>aA gT mxd ?_⟩⟩⟩
 ·obtain⟨m1,m2⟩:=hml.1 (hq2.1.1 h2)
  refine⟨.seq [(0,false),(2,false),(1,false),(3,false),(4,true),(5,true)],by kernel_rfl,[],yC q1 (v:=a/(Int.gcd a b:Int)) (Ci.in hq1 (aH (zL hla) dC)),rfl,rfl,rfl,λn1 hn1=>⟨[],yC q2 (v:=b/(Int.gcd a b:Int)) (Ci.in hq2 (aH (zL hlb) dC)),rfl,rfl,rfl,λd1 hd1=>⟨⟨n1,d1.m⟩,⟨?_,?_⟩,aO rfl rfl trivial⟩⟩⟩
  ·show Ci n1 _
   rw[m1];exact hn1
  show d1.m.l=_
  rw[m2];exact hd1.2
 obtain⟨m1,m2⟩:=hml.2 λh=>h2 (hq2.1.2 h)
 refine⟨⟨q1,q2.m⟩,⟨?_,?_⟩,aO rfl rfl trivial⟩
 ·show Ci q1 _
  rw[m1];exact hq1
 show q2.m.l=_
 rw[m2];exact hq2.2
def sq (n:Nat) (l:List Nat):List (Nat×Bool):=l.map λi=>(i,i==n)
theorem In.den {X:Sl Nat} {B:Nat} (hl:Lm X.l) (hb:X.l.length<=B):In ⟨false=true,inferInstance,X⟩ (val X.l) B:=⟨hl,hb,jL (p:=false=true) (λh=>by cases h)⟩
theorem Ci.den {X:Sl Nat} {n:Nat} (h:X.l=cF n):Ci ⟨false=true,inferInstance,X⟩ (n:Int):=⟨⟨λh=>(by cases h),λh=>by omega⟩,by rw[dU];exact h⟩
abbrev aKz:FuncId:=73
theorem bLu:Ent Tryz.prog aKz:=aV func73 rfl kR
theorem bLv:Tryz.prog.funcs[aKz]? =some Tryz.f73:=func73
theorem fT (r:RatM) {q:Rat} (h:Rq r q 13194139533312):Ctr Tryz.prog aKz [] [.a r.C] [] (rG q):=by
 refine bE gT bLu bLv rfl rfl rfl bL aT (aA gT mxd ⟨[],uZ r.n ⟨false=true,inferInstance,r.d⟩ h.n (In.den h.ld h.bd),rfl,rfl,rfl,λg hg=>⟨g,?_,aO rfl rfl trivial⟩⟩)
 rw[<-h.v];exact hg
abbrev aWg:FuncId:=77
theorem bTf:Ent Tryz.prog aWg:=aV func77 rfl kR
theorem bTg:Tryz.prog.funcs[aWg]? =some Tryz.f77:=func77
theorem sQ (r:RatM) {q:Rat} (h:Rq r q 13194139533312):Ctr Tryz.prog aWg [] [.a r.C] [] (vH (q.den:Int)):=by
 refine bE gT bTf bTg rfl rfl rfl bL aT (aA gT mxd ⟨[],fT r h,rfl,rfl,rfl,λg hg=>⟨⟨false=true,inferInstance,g.d⟩,Ci.den hg.2,aO rfl rfl trivial⟩⟩)
abbrev aLa:FuncId:=43
theorem bLw:Ent Tryz.prog aLa:=aV func43 rfl kR
theorem bLx:Tryz.prog.funcs[aLa]? =some Tryz.f43:=func43
theorem pH {z:Int} (hz:-9223372036854775808<=z/\z<=9223372036854775807):Ctr Tryz.prog aLa [] [.c (iC z)] [] (rG (z:Rat)):=by
 have hl:=sF (n:=z.natAbs)
 refine bE gT bLw bLx rfl rfl rfl bL aT (aA gT mxd ⟨[],zK hz,rfl,rfl,rfl,λg hg=>⟨[],zK (z:=1) dC,rfl,rfl,rfl,λo ho=>⟨[],uZ g o (Ci.in hg oM) (Ci.in ho dC),rfl,rfl,rfl,λr hr=>⟨r,?_,aO rfl rfl trivial⟩⟩⟩⟩)
 rw[<-bBz];exact hr
abbrev aLb:FuncId:=78
theorem bLy:Ent Tryz.prog aLb:=aV func78 rfl kR
theorem bLz:Tryz.prog.funcs[aLb]? =some Tryz.f78:=func78
theorem zM (r:RatM) {q:Rat} (h:Rq r q 13194139533312):Ctr Tryz.prog aLb [] [.a r.C] [] (λ_:Unit=>⟨.c (iC (sgn q.num)),[],True⟩):=by
 refine bE gT bLy bLz rfl rfl rfl bL aT (aA gT mxd ⟨[],fT r h,rfl,rfl,rfl,λg hg=>⟨[],aOe g.n (Ci.in hg.1 (h.rb.le).1),rfl,rfl,rfl,λ_ _=>⟨(),trivial,aO rfl rfl trivial⟩⟩⟩)
theorem aBj {q:Rat} {B:Nat} (h:rb q B):rb (-q) B:=by
 unfold rb at h ⊢
 rw[show(-q).num=-q.num from rfl,show(-q).den=q.den from rfl,qD];exact h
abbrev aWh:FuncId:=143
theorem bTh:Ent Tryz.prog aWh:=aV func143 rfl kR
theorem bTi:Tryz.prog.funcs[aWh]? =some Tryz.f143:=func143
theorem bMa (r:RatM) {q:Rat} (h:Rq r q 13194139533312):Ctr Tryz.prog aWh [] [.a r.C] [] (rG (-q)):=by
 have hb:=h.rb
 refine bE gT bTh bTi rfl rfl rfl bL aT (aA gT mxd ⟨.seq [(0,false),(4,false),(1,false),(2,false),(3,false),(5,false),(6,false),(7,true)],by kernel_rfl,[],fT r h,rfl,rfl,rfl,λg hg=>⟨[],yC g.n (v:=q.num) (Ci.in hg.1 (hb.le).1),rfl,rfl,rfl,λn hn=>⟨[],sQ r h,rfl,rfl,rfl,λd hd=>⟨[],uZ n d (Ci.in hn (by rw[qD];exact hb.1)) (Ci.in hd hb.2),rfl,rfl,rfl,λx hx=>⟨x,?_,aO rfl rfl trivial⟩⟩⟩⟩⟩)
 rw[<-aSi];exact hx
theorem sR {a b:Int} {B:Nat} (ha:len a.natAbs<=B) (hb:len b.natAbs<=B):len (a*b).natAbs<=B+B:=by
 rw[jT]
 have:=nY a.natAbs b.natAbs
 omega
theorem aFd {a b:Int} {B:Nat} (ha:len a.natAbs<=B) (hb:len b.natAbs<=B):len (a+b).natAbs<=B+1:=by
 have h1:=fL (Int.natAbs_add_le a b)
 have h2:=wE a.natAbs b.natAbs
 omega
def oA:Ord:=.joinR [0,2] (.alt 1 (.alt 3 (.alt 4 (trS [5,1006,1007]) (trS [5,4,1006,1007])) (.alt 4 (.alt 3 (trS [5,1006,1007]) (trS [5,3,1006,1007])) (.alt 5 (.alt 3 (trS [4,1006,1007]) (trS [4,3,1006,1007])) .nil))) (.alt 4 (.alt 1 (.alt 3 (trS [5,1006,1007]) (trS [5,3,1006,1007])) (trS [5,1,3,1006,1007])) (.alt 5 (.alt 1 (.alt 3 (trS [4,1006,1007]) (trS [4,3,1006,1007])) (trS [4,1,3,1006,1007])) .nil)))
def yD (r s:RatM) (g:RatM×RatM):List (Nat×DV):=[(5,.c (.p 3 0)),(6,.c (.p 4 0)),(2,.c (.p 0 0)),(3,.c (.p 1 0)),(4,.c (.p 2 0))]
def sS:List CV:=[.b (false=true) inferInstance,.v (.slice none 0 0),.v (.slice none 0 0)]
def vU (r s:RatM) (g:RatM×RatM):BL:=[(62,0,r.C),(62,0,s.C),(62,0,sS),(62,0,g.1.C),(62,0,g.2.C)]
theorem gsw {nb:Nat} {s:SS} {σ:Type} {S:σ->SS} {C:σ->Prop} (i j:Nat) {bi bj:TypeId×Nat×List CV} (hbi:s.bl[i]? =some bi) (hbj:s.bl[j]? =some bj) (hni:nb<=i) (hnj:nb<=j) (hgl:s.gl=[])
 (h:aQy (swC i j) s.sl λsl'=>lK s.bl i bj λbl1=>lK bl1 j bi λbl2=>aCd (swC i j) 1000000 0 bl2 λbl'=>bl'.length<=1000000/\Gt nb ⟨sl',[],bl',s.fl⟩ S C):Gt nb s S C:=aId (X:=λt=>Gt nb t S C) tGt i j hbi hbj hni hnj hgl h
theorem g0:∀t d,eW [] t=some d->(λ_:Nat=>true) t=false:=λt d h=>by cases h
theorem scA {r s:RatM} {g:RatM×RatM}:scB (vU r s g).length (vU r s g):=aB rfl (aB rfl (aB rfl (aB rfl (aB rfl bJ))))
abbrev aWi:FuncId:=26
theorem bTj:Ent Tryz.prog aWi:=aV func26 rfl kR
theorem bTk:Tryz.prog.funcs[aWi]? =some Tryz.f26:=func26
theorem aWj (r s:RatM) {a b:Rat} (hr:Rq r a 4398046511104) (hs:Rq s b 4398046511104):Ctr Tryz.prog aWi [] [.a r.C,.a s.C] [] (rG (a+b)):=by
 have ha:=hr.rb
 have hb:=hs.rb
 have m1:=sR ha.1 (b:=(b.den:Int)) hb.2
 have m2:=sR hb.1 (b:=(a.den:Int)) ha.2
 have m3:=sR (a:=(a.den:Int)) (b:=(b.den:Int)) ha.2 hb.2
 have m4:=aFd m1 m2
 refine bE gT bTj bTk rfl rfl rfl bL aT (aA gT mxd ⟨oA,by kernel_rfl,RatM×RatM,λg=>⟨yD r s g++[],[],vU r s g,[]⟩,λg=>Cr g.1 a/\Cr g.2 b,⟨⟨[],fT r hr.le,rfl,rfl,rfl,λx hx=>⟨⟨[],fT s hs.le,rfl,rfl,rfl,λy hy=>⟨cH g0 (chg:=yD r s) (bls:=vU r s) (fls:=λ_=>[]) (x,y) ⟨hx,hy⟩ rfl ⟨rfl,rfl,rfl,rfl,rfl⟩ trivial ⟨rfl,rfl,rfl,rfl,rfl⟩ bL scA rfl,gsw 3 4 rfl rfl bL bL rfl ⟨bL,cH g0 (chg:=yD r s) (bls:=vU r s) (fls:=λ_=>[]) (x,y) ⟨hx,hy⟩ rfl ⟨rfl,rfl,rfl,rfl,rfl⟩ trivial ⟨rfl,rfl,rfl,rfl,rfl⟩ bL scA rfl⟩⟩⟩,⟨⟨[],fT s hs.le,rfl,rfl,rfl,λy hy=>cH g0 (chg:=yD r s) (bls:=vU r s) (fls:=λ_=>[]) (x,y) ⟨hx,hy⟩ rfl ⟨rfl,rfl,rfl,rfl,rfl⟩ trivial ⟨rfl,rfl,rfl,rfl,rfl⟩ bL scA rfl⟩,⟨[],fT s hs.le,rfl,rfl,rfl,λy hy=>cH g0 (chg:=yD r s) (bls:=vU r s) (fls:=λ_=>[]) (x,y) ⟨hx,hy⟩ rfl ⟨rfl,rfl,rfl,rfl,rfl⟩ trivial ⟨rfl,rfl,rfl,rfl,rfl⟩ bL scA rfl⟩⟩,⟨⟨[],fT s hs.le,rfl,rfl,rfl,λy hy=>gsw 3 4 rfl rfl bL bL rfl ⟨bL,cH g0 (chg:=yD r s) (bls:=vU r s) (fls:=λ_=>[]) (x,y) ⟨hx,hy⟩ rfl ⟨rfl,rfl,rfl,rfl,rfl⟩ trivial ⟨rfl,rfl,rfl,rfl,rfl⟩ bL scA rfl⟩⟩,⟨[],fT s hs.le,rfl,rfl,rfl,λy hy=>gsw 3 4 rfl rfl bL bL rfl ⟨bL,cH g0 (chg:=yD r s) (bls:=vU r s) (fls:=λ_=>[]) (x,y) ⟨hx,hy⟩ rfl ⟨rfl,rfl,rfl,rfl,rfl⟩ trivial ⟨rfl,rfl,rfl,rfl,rfl⟩ bL scA rfl⟩⟩⟩⟩⟩,⟨⟨[],fT r hr.le,rfl,rfl,rfl,λx hx=>⟨⟨[],fT s hs.le,rfl,rfl,rfl,λy hy=>cH g0 (chg:=yD r s) (bls:=vU r s) (fls:=λ_=>[]) (x,y) ⟨hx,hy⟩ rfl ⟨rfl,rfl,rfl,rfl,rfl⟩ trivial ⟨rfl,rfl,rfl,rfl,rfl⟩ bL scA rfl⟩,⟨[],fT s hs.le,rfl,rfl,rfl,λy hy=>cH g0 (chg:=yD r s) (bls:=vU r s) (fls:=λ_=>[]) (x,y) ⟨hx,hy⟩ rfl ⟨rfl,rfl,rfl,rfl,rfl⟩ trivial ⟨rfl,rfl,rfl,rfl,rfl⟩ bL scA rfl⟩⟩⟩,⟨[],fT r hr.le,rfl,rfl,rfl,λx hx=>⟨[],fT s hs.le,rfl,rfl,rfl,λy hy=>cH g0 (chg:=yD r s) (bls:=vU r s) (fls:=λ_=>[]) (x,y) ⟨hx,hy⟩ rfl ⟨rfl,rfl,rfl,rfl,rfl⟩ trivial ⟨rfl,rfl,rfl,rfl,rfl⟩ bL scA rfl⟩⟩⟩,⟨⟨[],fT r hr.le,rfl,rfl,rfl,λx hx=>⟨⟨[],fT s hs.le,rfl,rfl,rfl,λy hy=>gsw 3 4 rfl rfl bL bL rfl ⟨bL,cH g0 (chg:=yD r s) (bls:=vU r s) (fls:=λ_=>[]) (x,y) ⟨hx,hy⟩ rfl ⟨rfl,rfl,rfl,rfl,rfl⟩ trivial ⟨rfl,rfl,rfl,rfl,rfl⟩ bL scA rfl⟩⟩,⟨[],fT s hs.le,rfl,rfl,rfl,λy hy=>gsw 3 4 rfl rfl bL bL rfl ⟨bL,cH g0 (chg:=yD r s) (bls:=vU r s) (fls:=λ_=>[]) (x,y) ⟨hx,hy⟩ rfl ⟨rfl,rfl,rfl,rfl,rfl⟩ trivial ⟨rfl,rfl,rfl,rfl,rfl⟩ bL scA rfl⟩⟩⟩⟩,⟨[],fT r hr.le,rfl,rfl,rfl,λx hx=>⟨[],fT s hs.le,rfl,rfl,rfl,λy hy=>gsw 3 4 rfl rfl bL bL rfl ⟨bL,cH g0 (chg:=yD r s) (bls:=vU r s) (fls:=λ_=>[]) (x,y) ⟨hx,hy⟩ rfl ⟨rfl,rfl,rfl,rfl,rfl⟩ trivial ⟨rfl,rfl,rfl,rfl,rfl⟩ bL scA rfl⟩⟩⟩⟩⟩,λ⟨x,y⟩ ⟨hx,hy⟩=>?_⟩)
 refine⟨.seq [(0,false),(1,false),(2,false),(5,false),(6,false),(7,false),(11,false),(13,false),(3,false),(4,false),(8,false),(9,false),(10,false),(12,false),(14,false),(15,false),(16,false),(17,true)],by kernel_rfl,[],sQ s hs.le,rfl,rfl,rfl,λd1 h1=>⟨[],vT x.n d1 (a:=a.num) (Ci.in hx.1 (ha.le).1) (Ci.in h1 (hb.le).2),rfl,rfl,rfl,λp1 h2=>⟨[],sQ r hr.le,rfl,rfl,rfl,λd2 h3=>⟨[],vT y.n d2 (a:=b.num) (Ci.in hy.1 (hb.le).1) (Ci.in h3 (ha.le).2),rfl,rfl,rfl,λp2 h4=>?_⟩⟩⟩⟩
 refine⟨[],aEy p1 p2 (Ci.in h2 oM) (Ci.in h4 oM),rfl,rfl,rfl,λs1 h5=>⟨[],sQ r hr.le,rfl,rfl,rfl,λd3 h6=>⟨[],sQ s hs.le,rfl,rfl,rfl,λd4 h7=>⟨[],vT d3 d4 (Ci.in h6 (ha.le).2) (Ci.in h7 (hb.le).2),rfl,rfl,rfl,λp3 h8=>⟨[],uZ s1 p3 (Ci.in h5 oM) (Ci.in h8 oM),rfl,rfl,rfl,λg hg=>⟨g,?_,aO rfl rfl trivial⟩⟩⟩⟩⟩⟩
 rw[<-aHb];exact hg
abbrev aWk:FuncId:=79
theorem bTl:Ent Tryz.prog aWk:=aV func79 rfl kR
theorem bTm:Tryz.prog.funcs[aWk]? =some Tryz.f79:=func79
theorem bMb (r s:RatM) {a b:Rat} (hr:Rq r a 4398046511104) (hs:Rq s b 4398046511104):Ctr Tryz.prog aWk [] [.a r.C,.a s.C] [] (rG (a-b)):=by
 refine bE gT bTl bTm rfl rfl rfl bL aT (aA gT mxd ⟨.seq [(0,false),(1,false),(2,false),(3,false),(4,true)],by kernel_rfl,[],bMa s hs.le,rfl,rfl,rfl,λn hn=>⟨[],aWj r n hr (Cr.rq hn (aBj hs.rb)),rfl,rfl,rfl,λg hg=>⟨g,?_,aO rfl rfl trivial⟩⟩⟩)
 rw[iO];exact hg
abbrev aWl:FuncId:=229
theorem bTn:Ent Tryz.prog aWl:=aV func229 rfl kR
theorem bTo:Tryz.prog.funcs[aWl]? =some Tryz.f229:=func229
theorem bMc (r s:RatM) {a b:Rat} (hr:Rq r a 4398046511104) (hs:Rq s b 4398046511104) (hb0:b≠0):Ctr Tryz.prog aWl [] [.a r.C,.a s.C] [] (λg:RatM=>⟨.t [.a g.C,pC True],[],Cr g (a/b)⟩):=by
 have ha:=hr.rb
 have hb:=hs.rb
 have m1:=sR ha.1 (b:=(b.den:Int)) hb.2
 have m2:=sR (a:=(a.den:Int)) (b:=b.num) ha.2 hb.1
 refine bE gT bTn bTo rfl rfl rfl bL aT (aA gT mxd ⟨[],zM s hs.le,rfl,rfl,rfl,λ_ _=>⟨λh=>absurd (cK.1 (eY.1 h)) hb0,λh=>aA gT mxd ?_⟩⟩)
 refine⟨.seq [(0,false),(3,false),(6,false),(8,false),(1,false),(2,false),(4,false),(5,false),(7,false),(9,false),(10,false),(11,false),(12,false),(13,true),(14,false)],by kernel_rfl,[],fT r hr.le,rfl,rfl,rfl,λx hx=>⟨[],sQ s hs.le,rfl,rfl,rfl,λd1 h1=>⟨[],vT x.n d1 (a:=a.num) (Ci.in hx.1 (ha.le).1) (Ci.in h1 (hb.le).2),rfl,rfl,rfl,λp1 h2=>⟨[],sQ r hr.le,rfl,rfl,rfl,λd2 h3=>⟨[],fT s hs.le,rfl,rfl,rfl,λy hy=>⟨[],vT d2 y.n (b:=b.num) (Ci.in h3 (ha.le).2) (Ci.in hy.1 (hb.le).1),rfl,rfl,rfl,λp2 h4=>⟨[],uZ p1 p2 (Ci.in h2 oM) (Ci.in h4 oM),rfl,rfl,rfl,λg hg=>⟨g,?_,aO ⟨rfl,tt trivial⟩ rfl trivial⟩⟩⟩⟩⟩⟩⟩⟩
 show Cr g _
 rw[<-aHd];exact hg
abbrev aLc:FuncId:=202
theorem bMd:Ent Tryz.prog aLc:=aV func202 rfl kR
theorem bMe:Tryz.prog.funcs[aLc]? =some Tryz.f202:=func202
theorem aOj (r s:RatM) {a b:Rat} (hr:Rq r a 4398046511104) (hs:Rq s b 4398046511104) (hb0:b≠0):Ctr Tryz.prog aLc [] [.a r.C,.a s.C] [] (rG (a/b)):=
 bE gT bMd bMe rfl rfl rfl bL aT (aA gT mxd ⟨[],bMc r s hr hs hb0,rfl,rfl,rfl,λg hg=>⟨g,hg,aO rfl rfl trivial⟩⟩)
end Go.Proofs.YtghncoghdcmdfaaGreat
namespace Go.Proofs.YtghncoghdcmdfaaGreat
open Go.Vg _root_.Go.Proofs.Tryz
open Go.Vm hiding sgn
open Go.Vy hiding val
theorem bMf {nb:Nat} {X:SS->Prop} {s:SS} (hX:Tgt nb X) (t i:Nat) (ht:eW s.sl t=some (.c (.s i 1))) (hb:s.bl[i]? =some (123,1,[uC 1])) (hnb:nb<=i)
 (h:∀g:Sl Nat,g.l=[1]->tQ i s λs'=>lK s'.bl i (123,1,[]) λbl'=>X ⟨(t,.c (eD g))::s'.sl,[],bl',s'.fl⟩):X s:=
 aEf hX t i (λj=>[uC ([1].getD j default)]) ht hb (λj hj=>kL (x:=[1]) j hj) rfl cR (gS [1]) hnb λA c _ _=>h ⟨A,c,[1]⟩ rfl
theorem bHh {ρ:Pl} {n:Nat} {w:World} {e:Nat} {get:Nat->List CV} {v:Value} (h:Hc ρ n w (.v (.slice none 0 0)) v):Hc ρ n w (.r none 0 0 e get) v:=(Hd.nilr v (.c h)).inv_c
abbrev aFe:FuncId:=160
theorem bEi:Ent Tryz.prog aFe:=aV func160 rfl kR
theorem bEj:Tryz.prog.funcs[aFe]? =some Tryz.f160:=func160
theorem pU (r:RatM) {q:Rat} (h:Rq r q 17592186044416):Ctr Tryz.prog aFe [] [.a r.C] [] (λg:Int×Int×Prop=>⟨.t [.c (iC g.1),.c (iC g.2.1),pC g.2.2],[],g.2.2->(-2147483648<g.1/\g.1<2147483648)/\(0<g.2.1/\g.2.1<2147483648)/\Rat.divInt g.1 g.2.1=q⟩):=by
 have hv:=h.v
 refine bE gT bEi bEj rfl rfl rfl bL aT (aA gT mxd ⟨[],aNy r.n.m h.n.lm (aH h.n.ln dC),rfl,rfl,rfl,λ_ _=>⟨[],aNy r.d h.ld (aH h.bd dC),rfl,rfl,rfl,λ_ _=>⟨λh1=>aA gT mxd ?_,λh1=>aA gT mxd ?_⟩⟩⟩)
 ·exact⟨(0,0,False),λh=>h.elim,aO ⟨rfl,rfl,ff λh=>h⟩ rfl trivial⟩
 have k1:val r.n.m.l<18446744073709551616:=bA λh=>h1 (.inl (.inl (.inl h)))
 have k2:val r.d.l<18446744073709551616:=bA λh=>h1 (.inl (.inl (.inr h)))
 have k3:=λh=>h1 (.inl (.inr h))
 have k4:=λh=>h1 (.inr h)
 rw[if_pos k1] at k3
 rw[if_pos k2] at k4
 replace k3:¬(2147483648:Int)<=(val r.n.m.l:Nat):=k3
 replace k4:¬(2147483648:Int)<=(val r.d.l:Nat):=k4
 rw[if_pos k1,if_pos k2]
 refine⟨λh2=>aA gT mxd ?_,λh2=>aA gT mxd ⟨λh3=>aA gT mxd ?_,λh3=>aA gT mxd ?_⟩⟩
 ·refine⟨(0,1,True),λ_=>⟨⟨by decide,by decide⟩,⟨by decide,by decide⟩,?_⟩,aO ⟨rfl,rfl,tt trivial⟩ rfl trivial⟩
  replace h2:((val r.d.l:Nat):Int)=0:=h2
  rw[<-hv,h2,tG,tH]
 all_goals
  replace h2:¬((val r.d.l:Nat):Int)=0:=h2
  have b1:(0:Int)<(val r.d.l:Nat)/\((val r.d.l:Nat):Int)<2147483648:=⟨by omega,by omega⟩
  have b2:(-2147483648:Int)<(val r.n.m.l:Nat)/\((val r.n.m.l:Nat):Int)<2147483648:=⟨by omega,by omega⟩
  have b3:(-2147483648:Int)< -(val r.n.m.l:Nat)/\(-(val r.n.m.l:Nat):Int)<2147483648:=⟨by omega,by omega⟩
 ·refine⟨(val r.n.m.l:Nat),wi,-(val r.n.m.l:Nat),wi,(val r.d.l:Nat),wi,(-(val r.n.m.l:Nat),(val r.d.l:Nat),True),λ_=>⟨b3,b1,?_⟩,aO ⟨rfl,rfl,tt trivial⟩ rfl trivial⟩
  rw[jK h3] at hv;exact hv
 refine⟨(val r.n.m.l:Nat),wi,(val r.d.l:Nat),wi,((val r.n.m.l:Nat),(val r.d.l:Nat),True),λ_=>⟨b2,b1,?_⟩,aO ⟨rfl,rfl,tt trivial⟩ rfl trivial⟩
 rw[jL h3] at hv;exact hv
abbrev aLd:FuncId:=173
theorem bMg:Ent Tryz.prog aLd:=aV func173 rfl kR
theorem bMh:Tryz.prog.funcs[aLd]? =some Tryz.f173:=func173
theorem aFf {n d:Int} (hd:0<d/\d<=9223372036854775807) (hn:-9223372036854775807<=n/\n<=9223372036854775807):Ctr Tryz.prog aLd [] [.c (iC n),.c (iC d)] [] (rG (Rat.divInt n d)):=by
 have hlaw:=aDl (z:=n) (d:=d.toNat) oM
 rw[show((d.toNat:Nat):Int)=d by omega] at hlaw
 refine bE gT bMg bMh rfl rfl rfl bL aT (aA gT mxd ⟨(if n<0 then 18446744073709551616-n.natAbs else n.natAbs:Nat),?_,?_⟩)
 ·show _=_
  rw[IntKind.wrap_u64];split<;>omega
 refine vjn (λ_=>true) (λ_:Unit=>[(0,.c (iC n)),(1,.c (iC d)),(4,.c (.p 0 0)),(5,.c (wC n.natAbs))]) (λ_=>[(62,0,sS)]) (λ_=>True) ?_
 refine⟨⟨λh=>aA gT mxd ⟨(n.natAbs:Nat),?_,(),trivial,rfl,rfl,rfl,rfl,rfl,rfl⟩,λh=>aA gT mxd ⟨(),trivial,rfl,rfl,rfl,rfl,rfl,?_⟩⟩,λ_ _=>?_⟩
 ·show _=_
  rw[IntKind.wrap_u64,if_pos h];omega
 ·show(_:Int)=(_:Int)
  rw[if_neg h]
 refine⟨(d.toNat:Nat),wu,?_⟩
 refine jD (rn [(6,7),(17,22)]) (λg:Nat×Nat=>[(6,.c (wC g.1)),(7,.c (wC g.2))]) (λ_=>[(62,0,sS)]) (λg=>Nat.gcd g.1 g.2=Nat.gcd n.natAbs d.toNat/\g.1<18446744073709551616/\g.2<18446744073709551616) (λg=>g.2) (d.toNat,n.natAbs) ?_
 have l1:d.toNat<18446744073709551616:=by omega
 have l2:n.natAbs<18446744073709551616:=by omega
 refine⟨⟨⟨hJ _ _,l1,l2⟩,rfl,rfl,rfl⟩,λ⟨a,b⟩ ⟨hcd,hc,hb⟩=>aA gT mxd ⟨λh3=>aA gT mxd ?_,λh3=>aA gT mxd (aA gT mxd ?_)⟩⟩
 all_goals simp only at hcd hc hb
 ·replace h3:(b:Int)≠0:=h3
  have hlt:=cO a (show 0<b by omega)
  refine⟨.seq [(0,false),(1,false),(2,false),(3,false),(4,false),(5,false)],by kernel_rfl,h3,(b,a%b),⟨⟨?_,hb,by show a%b<_;omega⟩,hlt⟩,rfl,rfl,rfl,?_⟩
  ·show Nat.gcd b (a%b)=_
   rw[<-hcd,hJ,<-uP,hJ]
  show(_:Int).tmod (_:Int)=(_:Int)
  rfl
 obtain rfl:b=0:=by
  replace h3:¬(b:Int)≠0:=h3
  omega
 rw[mN] at hcd
 subst hcd
 have hg:((Nat.gcd n.natAbs d.toNat:Nat):Int)≠0:=by
  have:=mF n.natAbs (show 0<d.toNat by omega)
  omega
 have d1:=gH n.natAbs (Nat.gcd n.natAbs d.toNat)
 have d2:=gH d.toNat (Nat.gcd n.natAbs d.toNat)
 refine⟨.seq [(0,false),(1,false),(2,false),(3,false),(4,false),(7,false),(8,false),(9,false),(10,false),(5,true),(6,false),(11,true),(12,false),(13,true)],by kernel_rfl,hg,_,aKk l2,(d.toNat:Nat),wu,hg,_,aKk l1,[],lZ (dY d1 l2),rfl,rfl,rfl,λm hm=>⟨[],lZ (dY d2 l1),rfl,rfl,rfl,λe he=>⟨⟨⟨n<0,inferInstance,m⟩,e⟩,⟨⟨hlaw.2.2.symm,?_⟩,?_⟩,aO rfl rfl trivial⟩⟩⟩
 ·show m.l=_
  rw[hlaw.1];exact hm
 show e.l=_
 rw[hlaw.2.1];exact he
abbrev aFg:FuncId:=156
theorem bEk:Ent Tryz.prog aFg:=aV func156 rfl kR
theorem bEl:Tryz.prog.funcs[aFg]? =some Tryz.f156:=func156
theorem oJ (r:RatM) {q:Rat} {B:Nat} (h:Rq r q B) (h1:1<=B) (hB:B<=35184372088832):Ctr Tryz.prog aFg [] [.a r.C] [] (λg:RatM=>⟨.t [.a g.n.C,.c (eD g.d)],[],Rq g q B/\val g.d.l≠0⟩):=by
 refine bE gT bEk bEl rfl rfl rfl bL aT (aA gT mxd ⟨[],aOf r.d h.ld (aH h.bd hB),rfl,rfl,rfl,λ_ _=>⟨λh2=>Sd.sq (aA gT mxd ?_),λh2=>aA gT mxd ?_⟩⟩)
 ·have hz:=aWd.1 h2
  show Sd _ _ _ _ _ _
  refine bMf tSd 3 2 rfl rfl bL λd hd=>?_
  show Sd _ _ _ _ _ _
  refine iS tSd 1 [.b (false=true) inferInstance,eD dK] rfl rfl (λk c c' k1 k2=>?_) (aA gT mxd ⟨⟨⟨false=true,inferInstance,dK⟩,d⟩,⟨⟨⟨Lm.nil,aC _,rfl⟩,?_,?_,?_⟩,?_⟩,aO ⟨rfl,rfl⟩ rfl trivial⟩)
  ·match k,k1,k2 with
   |0,k1,k2=>injection k1 with k1;injection k2 with k2;rw[<-k1,<-k2];exact LeC.refl _
   |1,k1,k2=>injection k1 with k1;injection k2 with k2;rw[<-k1,<-k2];exact λρ n w x h=>bHh h
  ·show Lm d.l
   rw[hd];exact λz hz=>by rw[aI.1 hz];decide
  ·show d.l.length<=B
   rw[hd];exact h1
  ·show Rat.divInt _ (val d.l:Nat)=q
   rw[<-h.v,hz,hd]
   show Rat.divInt (sg (false=true) 0) _=_
   rw[jL dC]
   exact(tH _).trans (tG _).symm
  show val d.l≠0
  rw[hd];decide
 have hz:val r.d.l≠0:=λh=>h2 (aWd.2 h)
 exact⟨.treeX [] [2000,1,2002,3] (trS [4,2005]),by kernel_rfl,rfl,r,⟨h,hz⟩,aO ⟨rfl,rfl⟩ rfl trivial⟩
theorem bMi {c0 c1 c2:CV} {k:Nat} {c c':CV} (k1:[c0,.v (.slice none 0 0),c2][k]? =some c) (k2:[c0,eD dK,c2][k]? =some c'):LeC c c':=by
 match k,k1,k2 with
 |0,k1,k2=>injection k1 with k1;injection k2 with k2;rw[<-k1,<-k2];exact LeC.refl _
 |1,k1,k2=>injection k1 with k1;injection k2 with k2;rw[<-k1,<-k2];exact λρ n w x h=>bHh h
 |2,k1,k2=>injection k1 with k1;injection k2 with k2;rw[<-k1,<-k2];exact LeC.refl _
theorem aOk {z:Int} {d:Nat} {q:Rat} (hd:d≠0) (h:Rat.divInt z (d:Int)=q):q.num.natAbs=z.natAbs/Nat.gcd z.natAbs d/\q.den=d/Nat.gcd z.natAbs d/\(q.num<0↔z<0)/\(q.num=0↔z=0):=by
 subst h
 obtain⟨h1,h2,h3⟩:=aDl (z:=z) hd
 refine⟨h1,h2,h3,λh=>?_,λh=>by rw[h,tH];rfl⟩
 rw[h] at h1
 have hdv:Nat.gcd z.natAbs d∣z.natAbs:=iF _ _
 have h4:=Nat.div_mul_cancel hdv
 rw[<-h1] at h4
 simp at h4
 omega
abbrev aWm:FuncId:=174
theorem bTp:Ent Tryz.prog aWm:=aV func174 rfl kR
theorem bTq:Tryz.prog.funcs[aWm]? =some Tryz.f174:=func174
theorem aFh (i:IntM) (d:Sl Nat) {a:Int} (hi:In i a 17592186044416) (ld:Lm d.l) (hn:d.l.length<=17592186044416) (hd:val d.l≠0):Ctr Tryz.prog aWm [] [.a i.C,.c (eD d)] [] (rG (Rat.divInt a (val d.l:Nat))):=by
 obtain⟨q,hq⟩:∃q,q=Rat.divInt a (val d.l:Nat):=⟨_,rfl⟩
 obtain⟨e1,e2,e3,e4⟩:=aOk hd hq.symm
 rw[<-hq]
 refine bE gT bTp bTq rfl rfl rfl bL aT (aA gT mxd ⟨[],aWc i hi.le,rfl,rfl,rfl,λn hn'=>⟨[],xA d ld oM,rfl,rfl,rfl,λe he=>?_⟩⟩)
 replace hn':Ci n a:=hn'
 replace he:e.l=cF (val d.l):=he
 have hal:=hi.len
 have hel:e.l.length<=17592186044416:=by rw[he];exact aH (dB ld) hn
 have hnl:n.m.l.length<=17592186044416:=by rw[hn'.2];exact hal
 obtain⟨le,ve⟩:=dg he
 obtain⟨lm,vm⟩:=dg hn'.2
 have hz0:=lO (n:=a.natAbs)
 unfold len at hz0
 rw[<-hn'.2] at hz0
 refine⟨λh=>Sd.sq (Sd.rg gT (l:=[_,_,_]) [_] [_,_] rfl rfl ?_),λh=>aA gT mxd ?_⟩
 ·replace h:((n.m.l.length:Nat):Int)=0:=h
  have ha:a=0:=by have:=hz0.1 oM;omega
  have hq0:q=0:=cK.1 (e4.2 ha)
  show Sdl _ _ _ _ _ _ _
  refine bMf bDk 14 2 rfl rfl bL λg hg=>Sdl.go gT ?_
  show Sd _ _ _ _ _ _
  refine iS tSd 1 [.b (false=true) inferInstance,eD dK,eD g] rfl rfl (λk c c' k1 k2=>bMi (c1:=.u) k1 k2) (aA gT mxd ⟨⟨⟨false=true,inferInstance,dK⟩,g⟩,?_,aO rfl rfl trivial⟩)
  subst hq0
  exact⟨⟨⟨λh=>(by cases h),λh=>absurd (show(0:Int)<0 from h) dC⟩,rfl⟩,hg⟩
 refine⟨[],bKy n.m e lm le hnl hel,rfl,rfl,rfl,λg hg=>?_⟩
 replace hg:g.l=cF (Nat.gcd (val n.m.l) (val e.l)):=hg
 rw[vm,ve] at hg
 obtain⟨lg,vg⟩:=dg hg
 obtain⟨G,hG⟩:∃G,G=Nat.gcd a.natAbs (val d.l):=⟨_,rfl⟩
 rw[<-hG] at hg vg e1 e2
 have hGp:0<G:=by rw[hG];exact mF _ oM
 have hgl:g.l.length<=17592186044416:=by
  rw[hg]
  exact aH (fL (Nat.le_of_dvd oM (by rw[hG];exact nF _ _))) (aH (dB ld) hn)
 refine⟨0,λh=>⟨rfl,?_⟩,?_⟩
 ·replace h:¬((g.l.length:Nat):Int)≠1:=h
  omega
 refine vjn (λ_=>true) (λg:Sl Nat×Sl Nat=>[(1,.c (eD g.2)),(2,.c (.p 0 0)),(4,.c (.p 1 0))]) (λg=>[(60,0,[.b n.p n.d,eD g.1]),(62,0,sS)]) (λg=>g.1.l=cF q.num.natAbs/\g.2.l=cF q.den) ?_
 refine⟨⟨λh1=>aA gT mxd ⟨[],aVl n.m g lm lg hnl hgl,rfl,rfl,rfl,λu hu=>⟨[],aVl e g le lg hel hgl,rfl,rfl,rfl,λv hv=>⟨(u.1,v.1),⟨?_,?_⟩,rfl,rfl,rfl,rfl,rfl⟩⟩⟩,λh1=>aA gT mxd ⟨(n.m,e),?_,rfl,rfl,rfl,rfl,rfl⟩⟩,λg hg=>?_⟩
 ·show u.1.l=_
  rw[hu.1,vm,vg,e1]
 ·show v.1.l=_
  rw[hv.1,ve,vg,e2]
 ·have hg1:G=1:=by
   have hl1:g.l.length=1:=bA λh=>h1 (.inl (by show((g.l.length:Nat):Int)≠1;omega))
   obtain⟨o1,-⟩:=aOb hg hl1
   exact bA λh=>h1 (.inr (by show((g.l.getD 0 default:Nat):Int)≠1;omega))
  rw[hg1,Nat.div_one] at e1 e2
  exact⟨by rw[e1];exact hn'.2,by rw[e2];exact he⟩
 refine⟨⟨⟨n.p,n.d,g.1⟩,g.2⟩,⟨⟨?_,hg.1⟩,hg.2⟩,aO rfl rfl trivial⟩
 rw[e3];exact hn'.1
abbrev aLe:FuncId:=119
theorem bMj:Ent Tryz.prog aLe:=aV func119 rfl kR
theorem bMk:Tryz.prog.funcs[aLe]? =some Tryz.f119:=func119
theorem pI (r:RatM) {q:Rat} (h:Rq r q 4398046511104):Ctr Tryz.prog aLe [] [.a r.C] [] (rG q):=by
 refine bE gT bMj bMk rfl rfl rfl bL aT (aA gT mxd ⟨[],pU r h.le,rfl,rfl,rfl,λs hs=>⟨λh1=>aA gT mxd ?_,λh1=>aA gT mxd ?_⟩⟩)
 ·obtain⟨b1,b2,b3⟩:=hs h1
  refine⟨[],aFf (n:=s.1) (d:=s.2.1) ⟨b2.1,by omega⟩ ⟨by omega,by omega⟩,rfl,rfl,rfl,λg hg=>⟨g,?_,aO rfl rfl trivial⟩⟩
  rw[<-b3];exact hg
 refine⟨[],oJ r h bL bL,rfl,rfl,rfl,λg ⟨hg,hz⟩=>⟨[],aFh g.n g.d (hg.n.le bL) hg.ld (aH hg.bd bL) hz,rfl,rfl,rfl,λx hx=>⟨x,?_,aO rfl rfl trivial⟩⟩⟩
 rw[<-hg.v];exact hx
abbrev aLf:FuncId:=97
theorem bMl:Ent Tryz.prog aLf:=aV func97 rfl kR
theorem bMm:Tryz.prog.funcs[aLf]? =some Tryz.f97:=func97
theorem kM (r:RatM) {q:Rat} (h:Rq r q 4398046511104):Ctr Tryz.prog aLf [] [.a r.C] [] (λ_:Unit=>⟨.c (iC (sgn q.num)),[],True⟩):=by
 refine bE gT bMl bMm rfl rfl rfl bL aT (aA gT mxd ⟨[],oJ r h bL bL,rfl,rfl,rfl,λg ⟨hg,hz⟩=>⟨[],aBi g.n (hg.n.le bL),rfl,rfl,rfl,λ_ _=>⟨(),trivial,aO ?_ rfl trivial⟩⟩⟩)
 obtain⟨-,-,e3,e4⟩:=aOk hz hg.v
 show sgn _=sgn _
 unfold sgn
 simp only[e3,e4]
abbrev aLg:FuncId:=116
theorem bMn:Ent Tryz.prog aLg:=aV func116 rfl kR
theorem bMo:Tryz.prog.funcs[aLg]? =some Tryz.f116:=func116
theorem zN {z:Int} (hz:-9223372036854775808<=z/\z<=9223372036854775807):Ctr Tryz.prog aLg [] [.c (iC z)] [] (rG (z:Rat)):=by
 refine bE gT bMn bMo rfl rfl rfl bL aT (Sd.sq (aA gT mxd (Sd.sq (Sd.rg gT (l:=[_,_,_,_,_]) [_,_,_] [_,_] rfl rfl ⟨[],aWe hz,rfl,rfl,rfl,λn hn=>?_⟩))))
 show Sdl _ _ _ _ _ _ _
 refine bMf bDk 5 1 rfl rfl bL λg hg=>Sdl.go gT (aA gT mxd ⟨⟨n,g⟩,⟨?_,?_⟩,aO rfl rfl trivial⟩)
 ·exact hn
 show g.l=_
 rw[hg];rfl
theorem bTr {a b:Nat}:pT (a:Int) (b:Int)=0↔a=b:=by unfold pT;constructor<;>intro h<;>(repeat split at*)<;>omega
theorem vV {a b:Int} (ha:-2147483648<a/\a<2147483648) (hb:-2147483648<b/\b<2147483648):a*b=IntKind.i64.wrap (a*b)/\-4611686018427387904<a*b/\a*b<4611686018427387904:=by
 have:=bRf ha hb
 exact⟨wi (h:=⟨rfl,by omega,by omega⟩),this⟩
def den (X:Sl Nat):IntM:=⟨false=true,inferInstance,X⟩
theorem aFi {X:Sl Nat} {B:Nat} (hl:Lm X.l) (hb:X.l.length<=B):In (den X) (val X.l:Nat) B:=In.den hl hb
theorem tY {a b:Int} {B C:Nat} (ha:len a.natAbs<=B) (hb:len b.natAbs<=C):len (a*b).natAbs<=B+C:=by
 rw[jT]
 have:=nY a.natAbs b.natAbs
 omega
def oPA:Ord:=.joinX [] [0,2001,2002,4,2005,2006] (.alt 3 (.alt 7 (.alt 8 (trS [9,1010]) (.alt 9 (trS [8,1010]) .nil)) (.alt 9 (trS [7,8,1010]) .nil)) (.alt 9 (trS [3,7,8,1010]) .nil))
abbrev paG (x y:RatM):List (Nat×DV):=[(15,.c (.p 5 0)),(14,.c (eD y.d)),(12,.c (eD x.d)),(4,.c (.p 2 0))]
abbrev paB (r s x y:RatM) (n:IntM):BL:=[(62,0,r.C),(62,0,s.C),(62,0,sS),(60,0,x.n.C),(60,0,y.n.C),(60,0,n.C)]
theorem aFj {r s x y:RatM} {n:IntM}:scB 6 (paB r s x y n):=aB rfl (aB rfl (aB rfl (aB rfl (aB rfl (aB rfl bJ)))))
abbrev aWn:FuncId:=158
theorem bTs:Ent Tryz.prog aWn:=aV func158 rfl kR
theorem bTt:Tryz.prog.funcs[aWn]? =some Tryz.f158:=func158
theorem aLh (r s:RatM) {a b:Rat} (hr:Rq r a 4398046511104) (hs:Rq s b 4398046511104):Ctr Tryz.prog aWn [] [.a r.C,.a s.C] [] (rG (a+b)):=by
 refine bE gT bTs bTt rfl rfl rfl bL aT (aA gT mxd ⟨[],kM r hr.le,rfl,rfl,rfl,λ_ _=>⟨λh=>aA gT mxd ?_,λ_=>aA gT mxd ⟨[],kM s hs.le,rfl,rfl,rfl,λ_ _=>⟨λh=>aA gT mxd ?_,λ_=>aA gT mxd ?_⟩⟩⟩⟩)
 ·refine⟨[],pI s hs.le,rfl,rfl,rfl,λg hg=>⟨g,?_,aO rfl rfl trivial⟩⟩
  rw[cK.1 (eY.1 h),fN];exact hg
 ·refine⟨[],pI r hr.le,rfl,rfl,rfl,λg hg=>⟨g,?_,aO rfl rfl trivial⟩⟩
  rw[cK.1 (eY.1 h),cG];exact hg
 refine⟨[],pU r hr.le,rfl,rfl,rfl,λu hu=>⟨[],pU s hs.le,rfl,rfl,rfl,λv hv=>⟨λh=>aA gT mxd ?_,λ_=>aA gT mxd ?_⟩⟩⟩
 ·obtain⟨u1,u2,u3⟩:=hu h.1
  obtain⟨v1,v2,v3⟩:=hv h.2
  have m1:=vV u1 (b:=v.2.1) ⟨by omega,v2.2⟩
  have m2:=vV v1 (b:=u.2.1) ⟨by omega,u2.2⟩
  have m3:=vV (a:=u.2.1) (b:=v.2.1) ⟨by omega,u2.2⟩ ⟨by omega,v2.2⟩
  have m4:=uN u2.1 v2.1
  refine⟨_,m1.1,_,m2.1,_,wi (h:=⟨rfl,by omega,by omega⟩),_,m3.1,[],aFf ⟨m4,by omega⟩ ⟨by omega,by omega⟩,rfl,rfl,rfl,λg hg=>⟨g,?_,aO rfl rfl trivial⟩⟩
  rw[<-aAf u2.1 v2.1 u3 v3];exact hg
 refine⟨[],oJ r hr bL bL,rfl,rfl,rfl,λx ⟨hx,hxz⟩=>⟨[],oJ s hs bL bL,rfl,rfl,rfl,λy ⟨hy,hyz⟩=>?_⟩⟩
 have lx:=hx.n.len
 have ly:=hy.n.len
 have ldx:=aH (dB hx.ld) hx.bd
 have ldy:=aH (dB hy.ld) hy.bd
 refine⟨[],sN x.d y.d hx.ld hy.ld (aH hx.bd bL) (aH hy.bd bL),rfl,rfl,rfl,λ_ _=>⟨λh=>aA gT mxd ?_,λ_=>aA gT mxd ?_⟩⟩
 ·have e:=bTr.1 h
  refine⟨[],aOg x.n y.n (hx.n.le bL) (hy.n.le bL),rfl,rfl,rfl,λn hn=>?_⟩
  have l1:=aFd lx ly
  refine⟨[],aFh n x.d (Ci.in hn (aH l1 bL)) hx.ld (aH hx.bd bL) hxz,rfl,rfl,rfl,λg hg=>⟨g,?_,aO rfl rfl trivial⟩⟩
  rw[<-aQk (c:=(val x.d.l:Nat)) oM hx.v (e▸hy.v)];exact hg
 have c1:=xC x.n (den y.d) (hx.n.le bL) (aFi hy.ld (aH hy.bd bL))
 have c2:=xC y.n (den x.d) (hy.n.le bL) (aFi hx.ld (aH hx.bd bL))
 have l1:=tY lx (b:=(val y.d.l:Nat)) ldy
 have l2:=tY ly (b:=(val x.d.l:Nat)) ldx
 have l3:=aFd l1 l2
 have c3:∀p1 p2:IntM,Ci p1 _->Ci p2 _->_:=λp1 p2 h1 h2=>aOg p1 p2 (Ci.in h1 (aH l1 bL)) (Ci.in h2 (aH l2 bL))
 refine⟨oPA,by kernel_rfl,IntM,λn=>⟨paG x y++[],[],paB r s x y n,[]⟩,λn=>Ci n (sg x.n.p (val x.n.m.l)*(val y.d.l:Nat)+sg y.n.p (val y.n.m.l)*(val x.d.l:Nat)),?_,λn hn=>?_⟩
 ·exact⟨⟨[],c1,rfl,rfl,rfl,λp hp=>⟨rfl,⟨⟨[],c2,rfl,rfl,rfl,λo ho=>⟨rfl,⟨⟨[],c3 p o hp ho,rfl,rfl,rfl,λn hn=>⟨rfl,⟨rfl,cH g0 (chg:=λ_=>paG x y) (bls:=paB r s x y) (fls:=λ_=>[]) n hn rfl ⟨rfl,rfl,rfl,rfl,rfl,rfl⟩ trivial ⟨rfl,rfl,rfl,rfl⟩ bL aFj rfl⟩⟩⟩,⟨rfl,⟨[],c3 p o hp ho,rfl,rfl,rfl,λn hn=>⟨rfl,cH g0 (chg:=λ_=>paG x y) (bls:=paB r s x y) (fls:=λ_=>[]) n hn rfl ⟨rfl,rfl,rfl,rfl,rfl,rfl⟩ trivial ⟨rfl,rfl,rfl,rfl⟩ bL aFj rfl⟩⟩⟩⟩⟩⟩,⟨rfl,⟨[],c2,rfl,rfl,rfl,λo ho=>⟨rfl,⟨[],c3 p o hp ho,rfl,rfl,rfl,λn hn=>⟨rfl,cH g0 (chg:=λ_=>paG x y) (bls:=paB r s x y) (fls:=λ_=>[]) n hn rfl ⟨rfl,rfl,rfl,rfl,rfl,rfl⟩ trivial ⟨rfl,rfl,rfl,rfl⟩ bL aFj rfl⟩⟩⟩⟩⟩⟩⟩⟩,⟨rfl,⟨[],c1,rfl,rfl,rfl,λp hp=>⟨rfl,⟨[],c2,rfl,rfl,rfl,λo ho=>⟨rfl,⟨[],c3 p o hp ho,rfl,rfl,rfl,λn hn=>⟨rfl,cH g0 (chg:=λ_=>paG x y) (bls:=paB r s x y) (fls:=λ_=>[]) n hn rfl ⟨rfl,rfl,rfl,rfl,rfl,rfl⟩ trivial ⟨rfl,rfl,rfl,rfl⟩ bL aFj rfl⟩⟩⟩⟩⟩⟩⟩⟩
 have l4:=nY (val x.d.l) (val y.d.l)
 refine⟨.seq [(0,false),(1,false),(2,false),(3,false),(4,true),(5,true)],by kernel_rfl,[],xB x.d y.d hx.ld hy.ld (aH hx.bd bL) (aH hy.bd bL),rfl,rfl,rfl,λz hz=>?_⟩
 replace hz:z.l=cF (val x.d.l*val y.d.l):=hz
 obtain⟨lz,vz⟩:=dg hz
 refine⟨[],aFh n z (Ci.in hn (aH l3 bL)) lz (dgl hz oM) (by rw[vz];exact Nat.mul_ne_zero hxz hyz),rfl,rfl,rfl,λg hg=>⟨g,?_,aO rfl rfl trivial⟩⟩
 rw[<-hx.v,<-hy.v,kK _ _ oM oM,<-fF,<-vz];exact hg
abbrev aOl:FuncId:=111
theorem bTu:Ent Tryz.prog aOl:=aV func111 rfl kR
theorem bTv:Tryz.prog.funcs[aOl]? =some Tryz.f111:=func111
theorem aBk (r s:RatM) {a b:Rat} (hr:Rq r a 4398046511104) (hs:Rq s b 4398046511104):Ctr Tryz.prog aOl [] [.a r.C,.a s.C] [] (rG (a*b)):=by
 refine bE gT bTu bTv rfl rfl rfl bL aT (aA gT mxd ⟨[],pU r hr.le,rfl,rfl,rfl,λu hu=>⟨[],pU s hs.le,rfl,rfl,rfl,λv hv=>⟨λh=>aA gT mxd ?_,λ_=>aA gT mxd ?_⟩⟩⟩)
 ·obtain⟨u1,u2,u3⟩:=hu h.1
  obtain⟨v1,v2,v3⟩:=hv h.2
  have m1:=vV u1 v1
  have m3:=vV (a:=u.2.1) (b:=v.2.1) ⟨by omega,u2.2⟩ ⟨by omega,v2.2⟩
  have m4:=uN u2.1 v2.1
  refine⟨_,m1.1,_,m3.1,[],aFf ⟨m4,by omega⟩ ⟨by omega,by omega⟩,rfl,rfl,rfl,λg hg=>⟨g,?_,aO rfl rfl trivial⟩⟩
  rw[<-aAg u3 v3];exact hg
 refine⟨[],oJ r hr bL bL,rfl,rfl,rfl,λx ⟨hx,hxz⟩=>⟨[],oJ s hs bL bL,rfl,rfl,rfl,λy ⟨hy,hyz⟩=>?_⟩⟩
 have l1:=tY hx.n.len hy.n.len
 have l4:=nY (val x.d.l) (val y.d.l)
 have ldx:=aH (dB hx.ld) hx.bd
 have ldy:=aH (dB hy.ld) hy.bd
 refine⟨[],xC x.n y.n (hx.n.le bL) (hy.n.le bL),rfl,rfl,rfl,λn hn=>⟨[],xB x.d y.d hx.ld hy.ld (aH hx.bd bL) (aH hy.bd bL),rfl,rfl,rfl,λz hz=>?_⟩⟩
 replace hz:z.l=cF (val x.d.l*val y.d.l):=hz
 obtain⟨lz,vz⟩:=dg hz
 refine⟨[],aFh n z (Ci.in hn (aH l1 bL)) lz (dgl hz oM) (by rw[vz];exact Nat.mul_ne_zero hxz hyz),rfl,rfl,rfl,λg hg=>⟨g,?_,aO rfl rfl trivial⟩⟩
 rw[<-aAg hx.v hy.v,<-fF,<-vz];exact hg
abbrev aWo:FuncId:=182
theorem bTw:Ent Tryz.prog aWo:=aV func182 rfl kR
theorem bTx:Tryz.prog.funcs[aWo]? =some Tryz.f182:=func182
theorem bMp (r:RatM) {q:Rat} (h:Rq r q 4398046511104):Ctr Tryz.prog aWo [] [.a r.C] [] (rG (-q)):=by
 refine bE gT bTw bTx rfl rfl rfl bL aT (aA gT mxd ⟨[],pI r h,rfl,rfl,rfl,λg hg=>⟨[],bEd g.n (v:=q.num) (Ci.in hg.1 (aH h.rb.1 bL)),rfl,rfl,rfl,λn hn=>⟨⟨n,g.d⟩,⟨?_,hg.2⟩,aO rfl rfl trivial⟩⟩⟩)
 exact hn
theorem aWp {p:Prop} {m d:Nat}:Rat.divInt (sg p d) (m:Nat)=(Rat.divInt (sg p m) (d:Nat))⁻¹:=by
 rw[Rat.inv_divInt]
 by_cases hp:p
 ·rw[jK hp,jK hp,Rat.divInt_neg']
 rw[jL hp,jL hp]
def RatM.flip (r:RatM):RatM:=⟨⟨r.n.p,r.n.d,r.d⟩,r.n.m⟩
theorem Rq.flip {r:RatM} {q:Rat} {B:Nat} (h:Rq r q B):Rq r.flip q⁻¹ B:=⟨⟨h.ld,h.bd,rfl⟩,h.n.lm,h.n.ln,by rw[<-h.v];exact aWp⟩
abbrev aWq:FuncId:=179
theorem bTy:Ent Tryz.prog aWq:=aV func179 rfl kR
theorem bTz:Tryz.prog.funcs[aWq]? =some Tryz.f179:=func179
theorem bMq (r:RatM) {q:Rat} {B:Nat} (h:Rq r q 4398046511104) (hB:rb q B) (hq:q≠0):Ctr Tryz.prog aWq [] [.a r.C] [] (λg:RatM=>⟨.t [.a g.C,pC True],[],Rq g q⁻¹ B⟩):=by
 refine bE gT bTy bTz rfl rfl rfl bL aT (aA gT mxd ⟨[],kM r h,rfl,rfl,rfl,λ_ _=>⟨λh=>absurd (cK.1 (eY.1 h)) hq,λ_=>aA gT mxd ⟨[],pI r h,rfl,rfl,rfl,λg hg=>⟨g.flip,(Cr.rq hg hB).flip,aO ⟨rfl,tt trivial⟩ rfl trivial⟩⟩⟩⟩)
abbrev aWr:FuncId:=109
theorem bUa:Ent Tryz.prog aWr:=aV func109 rfl kR
theorem bUb:Tryz.prog.funcs[aWr]? =some Tryz.f109:=func109
theorem aWs (r s:RatM) {a b:Rat} (hr:Rq r a 4398046511104) (hs:Rq s b 4398046511104) (hb:b≠0):Ctr Tryz.prog aWr [] [.a r.C,.a s.C] [] (λg:RatM=>⟨.t [.a g.C,pC True],[],Cr g (a/b)⟩):=by
 refine bE gT bUa bUb rfl rfl rfl bL aT (aA gT mxd ⟨[],kM s hs,rfl,rfl,rfl,λ_ _=>⟨λh=>absurd (cK.1 (eY.1 h)) hb,λ_=>aA gT mxd ⟨[],aBk r s.flip hr hs.flip,rfl,rfl,rfl,λg hg=>⟨g,?_,aO ⟨rfl,tt trivial⟩ rfl trivial⟩⟩⟩⟩)
 rw[iE];exact hg
theorem Rq.neg {r:RatM} {q:Rat} {B:Nat} (h:Rq r q B):Rq ⟨⟨¬r.n.p,@instDecidableNot _ r.n.d,r.n.m⟩,r.d⟩ (-q) B:=⟨⟨h.n.lm,h.n.ln,rfl⟩,h.ld,h.bd,by
 rw[<-h.v]
 show Rat.divInt (sg (¬r.n.p) _) _=_
 rw[aWb,uO]⟩
abbrev aWt:FuncId:=110
theorem bUc:Ent Tryz.prog aWt:=aV func110 rfl kR
theorem bUd:Tryz.prog.funcs[aWt]? =some Tryz.f110:=func110
theorem aWu (r s:RatM) {a b:Rat} (hr:Rq r a 4398046511104) (hs:Rq s b 4398046511104):Ctr Tryz.prog aWt [] [.a r.C,.a s.C] [] (rG (a-b)):=by
 refine bE gT bUc bUd rfl rfl rfl bL aT (aA gT mxd ⟨[],aLh r ⟨⟨¬s.n.p,@instDecidableNot _ s.n.d,s.n.m⟩,s.d⟩ hr hs.neg,rfl,rfl,rfl,λg hg=>⟨g,?_,aO rfl rfl trivial⟩⟩)
 rw[iO];exact hg
abbrev aLi:FuncId:=171
theorem bMr:Ent Tryz.prog aLi:=aV func171 rfl kR
theorem bMs:Tryz.prog.funcs[aLi]? =some Tryz.f171:=func171
theorem aOm (r f s:RatM) {a q b:Rat} {B:Nat} (hr:Rq r a 4398046511104) (hf:Rq f q 4398046511104) (hs:Rq s b 4398046511104) (hqb:rb (q*b) 4398046511104) (hB:rb (a-q*b) B) (hra:Rq r a B):Ctr Tryz.prog aLi [] [.a r.C,.a f.C,.a s.C] [] (λg:RatM=>⟨.a g.C,[],Rq g (a-q*b) B⟩):=by
 refine bE gT bMr bMs rfl rfl rfl bL aT (aA gT mxd ⟨[],kM s hs,rfl,rfl,rfl,λ_ _=>⟨λh=>aA gT mxd ⟨r,?_,aO rfl rfl trivial⟩,λh=>aA gT mxd ?_⟩⟩)
 ·rw[cK.1 (eY.1 h),eE,iO,Rat.neg_zero,cG];exact hra
 exact⟨.seq [(0,false),(1,false),(2,false),(3,false),(4,false),(5,true)],by kernel_rfl,[],aBk f s hf hs,rfl,rfl,rfl,λm hm=>⟨[],aWu r m hr (Cr.rq hm hqb),rfl,rfl,rfl,λg hg=>⟨g,Cr.rq hg hB,aO rfl rfl trivial⟩⟩⟩
end Go.Proofs.YtghncoghdcmdfaaGreat
namespace Go.Proofs.YtghncoghdcmdfaaGreat
open Go.Vg _root_.Go.Proofs.Tryz
open Go.Vm
open Go.Vy hiding val
instance:Inhabited IntM:=⟨⟨false=true,inferInstance,dK⟩⟩
instance:Inhabited RatM:=⟨⟨default,dK⟩⟩
structure EntM where
 ix:Int
 v:RatM
instance:Inhabited EntM:=⟨⟨0,default⟩⟩
def EntM.C (e:EntM):List CV:=iC e.ix::e.v.C
def bR (x:Sl EntM):CV:=x.R 4 EntM.C default
structure Ev (x:List EntM) (es:List En) (B:Nat):Prop where
 ln:x.length=es.length
 e:∀k,k<es.length->(x.getD k default).ix=(es.getD k default).1/\Rq (x.getD k default).v (es.getD k default).2 B
structure Ek (x:List EntM) (es:List En):Prop where
 ln:x.length=es.length
 e:∀k,k<es.length->(x.getD k default).ix=(es.getD k default).1/\Cr (x.getD k default).v (es.getD k default).2
def rbE (es:List En) (B:Nat):Prop:=∀e∈es,rb e.2 B
theorem gW {α:Type} [Inhabited α] {l:List α} {k:Nat} (h:k<l.length):l.getD k default∈l:=by rw[gd h];exact iH h
theorem Ek.ev {x:List EntM} {es:List En} {B:Nat} (h:Ek x es) (hb:rbE es B):Ev x es B:=⟨h.ln,λk hk=>⟨(h.e k hk).1,(h.e k hk).2.rq (hb _ (gW hk))⟩⟩
theorem Ev.le {x:List EntM} {es:List En} {B B':Nat} (h:Ev x es B) (hb:B<=B'):Ev x es B':=⟨h.ln,λk hk=>⟨(h.e k hk).1,(h.e k hk).2.le hb⟩⟩
theorem bMt {es:List En} {k:Nat} (hk:k+1<es.length) (h:(es.getD (k+1) default).1<=(es.getD k default).1):¬Asc es:=λha=>by
 have h2:=fI.1 ha k (k+1) oM hk oM
 rw[gd hk,gd oM] at h
 exact absurd h (Int.not_le.2 h2)
theorem bHi {es:List En} {k:Nat} (hk:k+1<es.length) (h:(es.getD k default).1<(es.getD (k+1) default).1) (ha:Asc (es.take (k+1))):Asc (es.take (k+1+1)):=by
 have h1:es.take (k+1+1)=es.take (k+1)++[es.getD (k+1) default]:=by rw[cS,aE hk,gd hk];rfl
 have h0:es.take (k+1)=es.take k++[es.getD k default]:=by rw[cS,aE (show k<es.length by omega),gd (show k<es.length by omega)];rfl
 rw[h1]
 refine eP.2 ⟨ha,dT _ _,λa h2 b h3=>?_⟩
 rw[aI.1 h3]
 rw[h0] at h2 ha
 rcases aQ.1 h2 with h2|h2
 ·exact gQ ((eP.1 ha).2.2 a h2 _ (.head _)) h
 rw[aI.1 h2];exact h
abbrev aWv:FuncId:=165
theorem bUe:Ent Tryz.prog aWv:=aV func165 rfl kR
theorem bUf:Tryz.prog.funcs[aWv]? =some Tryz.f165:=func165
theorem aWw (x:Sl EntM) {es:List En} {B:Nat} (h:Ev x.l es B):Ctr Tryz.prog aWv [] [.c (bR x)] [] (λ_:Unit=>⟨pC (Asc es),[],True⟩):=by
 have hl:=h.ln
 refine bE gT bUe bUf rfl rfl rfl bL aT (bDe 0 rfl λhn=>aA gT mxd ?_)
 refine jD (rn [(2,21)]) (λi:Nat=>[(3,.c (iC (i+1:Nat)))]) (λ_=>[]) (λi=>Asc (es.take (i+1))/\(i<es.length\/i=0)) (es.length-·) 0 ?_
 refine⟨⟨⟨?_,.inr rfl⟩,rfl,rfl⟩,λi hi=>aA gT mxd ⟨λh1=>aA gT mxd ?_,λh1=>aA gT mxd ?_⟩⟩
 ·cases es with
  |nil=>exact List.Pairwise.nil
  |cons e es=>exact dT _ _
 ·replace h1:((i+1:Nat):Int)<(x.l.length:Nat):=h1
  have hk:i+1<es.length:=by omega
  have e1:=(h.e i oM).1
  have e2:=(h.e (i+1) hk).1
  refine⟨.seq (sq 99 (List.range 12)),by kernel_rfl,(i:Int),wi,i,⟨rfl,oM⟩,i+1,⟨rfl,oM⟩,⟨λhe=>aA gT mxd ?_,λhe=>aA gT mxd ?_⟩⟩
  ·replace he:(x.l.getD (i+1) default).ix<=(x.l.getD i default).ix:=he
   exact⟨(),trivial,aO ⟨(nomatch ·),λha=>absurd ha (bMt hk oM)⟩ rfl trivial⟩
  replace he:¬(x.l.getD (i+1) default).ix<=(x.l.getD i default).ix:=he
  exact⟨(i+1+1:Nat),wi,i+1,⟨⟨bHi hk oM hi.1,.inl hk⟩,oM⟩,rfl,rfl,rfl⟩
 replace h1:¬((i+1:Nat):Int)<(x.l.length:Nat):=h1
 refine aA gT mxd ⟨(),trivial,aO ⟨λ_=>?_,λ_=>rfl⟩ rfl trivial⟩
 have:=hi.1
 rwa [bM oM] at this
abbrev aWx:FuncId:=167
theorem bUg:Ent Tryz.prog aWx:=aV func167 rfl kR
theorem bUh:Tryz.prog.funcs[aWx]? =some Tryz.f167:=func167
theorem aFk (x:Sl EntM) {es:List En} {B:Nat} (h:Ev x.l es B) (ha:Asc es):Ctr Tryz.prog aWx [] [.c (bR x)] [] (λ_:Unit=>⟨.c (bR x),[],True⟩):=by
 refine bE gT bUg bUh rfl rfl rfl bL aT (aA gT mxd ⟨[],aWw x h,rfl,rfl,rfl,λ_ _=>⟨λ_=>aA gT mxd ⟨(),trivial,aO rfl rfl trivial⟩,λh2=>absurd ha h2⟩⟩)
abbrev aWy:FuncId:=180
theorem bUi:Ent Tryz.prog aWy:=aV func180 rfl kR
theorem bUj:Tryz.prog.funcs[aWy]? =some Tryz.f180:=func180
theorem nS {es:List En} {i:Int} {B:Nat} (ha:Asc es) (hb:rbE es B) (h1:1<=B):rb (Vm.get es i) B:=by
 induction es with
 |nil=>exact⟨by show len 0<=B;rw[show len 0=0 by decide];omega,by show len 1<=B;rw[show len 1=1 by decide];omega⟩
 |cons e es ih=>
  by_cases he:e.1=i
  ·subst he;rw[iJ ha];exact hb e (.head _)
  rw[iA he];exact ih ha.tail λe he=>hb e (.tail _ he)
theorem aIh {es:List En} {i:Int} {k:Nat} (hk:k<es.length):Vm.get (es.take (k+1)) i=Vm.get (es.take k) i+(if (es.getD k default).1=i then (es.getD k default).2 else 0):=by
 rw[cS,aE hk,gd hk,mL]
 congr 1
 show _+0=_
 rw[cG]
theorem aWz (x:Sl EntM) (i:Int) {es:List En} {B:Nat} (h:Ev x.l es B) (hb:rbE es B) (ha:Asc es) (h1:1<=B) (hB:B<=4398046511104):Ctr Tryz.prog aWy [] [.c (bR x),.c (iC i)] [] (rG (Vm.get es i)):=by
 have hl:=h.ln
 have hgb:∀k,rb (Vm.get (es.take k) i) 4398046511104:=λk=>(nS (ha.sublist (gV _ _)) (λe he=>hb e (cW he)) h1).le
 refine bE gT bUi bUj rfl rfl rfl bL aT (bDe 0 rfl λhn=>aA gT mxd ⟨[],zN (z:=0) dC,rfl,rfl,rfl,λz hz=>?_⟩)
 replace hn:x.l.length<=9223372036854775807:=hn
 refine dR (rn [(6,7),(11,24)]) (λg:Nat×RatM=>[(11,.c (iC g.1))]) (λg=>[(62,0,sS),(62,0,g.2.C)]) (λ_=>[]) (λg=>g.1<=es.length/\Cr g.2 (Vm.get (es.take g.1) i)) (λg=>es.length-g.1) λhM=>⟨cH hM (0,z) ⟨aC _,hz⟩ rfl ⟨rfl,rfl⟩ trivial rfl bL (aB rfl (aB rfl bJ)) rfl,λ⟨k,g⟩ ⟨hk,hg⟩=>aA gT mxd ⟨λh2=>aA gT mxd ?_,λh2=>aA gT mxd (aA gT mxd ?_)⟩⟩
 all_goals
  replace hk:k<=es.length:=hk
  replace hg:Cr g (Vm.get (es.take k) i):=hg
 ·replace h2:(k:Int)<(x.l.length:Nat):=h2
  have hkl:k<es.length:=by omega
  have e1:=(h.e k hkl).1
  refine⟨k,⟨rfl,by omega⟩,⟨λh3=>aA gT mxd ?_,λh3=>aA gT mxd ?_⟩⟩
  ·replace h3:(x.l.getD k default).ix=i:=h3
   refine⟨[],aLh g (x.l.getD k default).v (hg.rq (hgb k)) ((h.e k hkl).2.le hB),rfl,rfl,rfl,λs hs=>⟨(k:Int)+1,wi,cH hM (k+1,s) ⟨⟨hkl,?_⟩,show es.length-(k+1)<es.length-k by omega⟩ rfl ⟨rfl,rfl⟩ trivial rfl bL (aB rfl (aB rfl bJ)) rfl⟩⟩
   show Cr s _
   rw[aIh hkl,if_pos oM];exact hs
  replace h3:¬(x.l.getD k default).ix=i:=h3
  refine⟨(k:Int)+1,wi,cH hM (k+1,g) ⟨⟨hkl,?_⟩,show es.length-(k+1)<es.length-k by omega⟩ rfl ⟨rfl,rfl⟩ trivial rfl bL (aB rfl (aB rfl bJ)) rfl⟩
  show Cr g _
  rw[aIh hkl,if_neg oM,cG];exact hg
 replace h2:¬(k:Int)<(x.l.length:Nat):=h2
 refine⟨g,?_,aO rfl rfl trivial⟩
 show Cr g _
 rw[bM oM] at hg
 exact hg
def VOk (es:List En) (n:Int):Prop:=Asc es/\∀e∈es,0<=e.1/\e.1<n/\e.2≠0
abbrev aXa:FuncId:=102
theorem bUk:Ent Tryz.prog aXa:=aV func102 rfl kR
theorem bUl:Tryz.prog.funcs[aXa]? =some Tryz.f102:=func102
theorem aIi (x:Sl EntM) (n:Int) {es:List En} {B:Nat} (h:Ev x.l es B) (hB:B<=4398046511104):Ctr Tryz.prog aXa [] [.c (bR x),.c (iC n)] [] (λ_:Unit=>⟨pC (VOk es n),[],True⟩):=by
 have hl:=h.ln
 refine bE gT bUk bUl rfl rfl rfl bL aT (bDe 0 rfl λhn=>aA gT mxd ⟨[],aWw x h,rfl,rfl,rfl,λ_ _=>⟨λh1=>aA gT mxd ?_,λh1=>aA gT mxd ?_⟩⟩)
 ·exact⟨(),trivial,aO ⟨(nomatch ·),λh2=>absurd h2.1 h1⟩ rfl trivial⟩
 replace h1:Asc es:=eO.1 h1
 replace hn:x.l.length<=9223372036854775807:=hn
 refine dR (rn [(6,6),(12,31)]) (λk:Nat=>[(12,.c (iC k))]) (λ_=>[]) (λ_=>[]) (λk=>k<=es.length/\∀e∈es.take k,0<=e.1/\e.1<n/\e.2≠0) (λk=>es.length-k) λhM=>⟨cH hM 0 ⟨aC _,by simp⟩ rfl trivial trivial rfl bL bJ rfl,λk ⟨hk,hg⟩=>aA gT mxd ⟨λh2=>aA gT mxd ?_,λh2=>aA gT mxd (aA gT mxd ?_)⟩⟩
 ·replace h2:(k:Int)<(x.l.length:Nat):=h2
  have hkl:k<es.length:=by omega
  obtain⟨e1,e2⟩:=h.e k hkl
  have bad:¬(0<=(es.getD k default).1/\(es.getD k default).1<n/\(es.getD k default).2≠0)->¬VOk es n:=λhh hv=>hh (hv.2 _ (gW hkl))
  refine⟨k,⟨rfl,by omega⟩,⟨λh3=>?_,λh3=>?_⟩⟩
  ·replace h3:(x.l.getD k default).ix<0\/n<=(x.l.getD k default).ix:=h3
   exact⟨(),trivial,aO ⟨(nomatch ·),λhv=>absurd hv (bad oM)⟩ rfl trivial⟩
  replace h3:¬((x.l.getD k default).ix<0\/n<=(x.l.getD k default).ix):=h3
  refine⟨[],kM (x.l.getD k default).v (e2.le hB),rfl,rfl,rfl,λ_ _=>⟨λh4=>aA gT mxd ?_,λh4=>aA gT mxd ?_⟩⟩
  ·exact⟨(),trivial,aO ⟨(nomatch ·),λhv=>absurd hv (bad λhh=>hh.2.2 (cK.1 (eY.1 h4)))⟩ rfl trivial⟩
  refine⟨(k:Int)+1,wi,cH hM (k+1) ⟨⟨hkl,(aIe (d:=default) hkl).2 ⟨hg,by omega,by omega,λh5=>h4 (eY.2 (cK.2 h5))⟩⟩,show es.length-(k+1)<es.length-k by omega⟩ rfl trivial trivial rfl bL bJ rfl⟩
 replace h2:¬(k:Int)<(x.l.length:Nat):=h2
 rw[bM oM] at hg
 exact⟨(),trivial,aO ⟨λ_=>⟨h1,hg⟩,λ_=>rfl⟩ rfl trivial⟩
abbrev bMu:FuncId:=168
theorem bZq:Ent Tryz.prog bMu:=aV func168 rfl kR
theorem bZr:Tryz.prog.funcs[bMu]? =some Tryz.f168:=func168
theorem bHj (x y:RatM) {a:Rat} (hx:Rq x a 4398046511104):Ctr Tryz.prog bMu [] [.a x.C,.a y.C] [] (rG a):=by
 refine bE gT bZq bZr rfl rfl rfl bL aT (aA gT mxd ⟨[],pI x hx,rfl,rfl,rfl,λg hg=>⟨g,hg,aO rfl rfl trivial⟩⟩)
abbrev bMv:FuncId:=220
theorem bZs:Ent Tryz.prog bMv:=aV func220 rfl kR
theorem bZt:Tryz.prog.funcs[bMv]? =some Tryz.f220:=func220
theorem bUm (f x y:RatM) {q a b:Rat} (hf:Rq f q 4398046511104) (hx:Rq x a 4398046511104) (hy:Rq y b 4398046511104) (hb:rb (q*b) 4398046511104):Ctr Tryz.prog bMv [true] [.a x.C,.a y.C,.c (.p 0 0)] [(62,0,f.C)] (λg:RatM=>⟨.a g.C,[(62,0,f.C)],Cr g (a+q*b)⟩):=by
 refine bE gT bZs bZt rfl rfl rfl bL (ClB.one rfl) (aA gT mxd ⟨[],kM y hy,rfl,rfl,rfl,λ_ _=>⟨λh=>aA gT mxd ?_,λh=>aA gT mxd ?_⟩⟩)
 ·refine⟨[],pI x hx,rfl,rfl,rfl,λg hg=>⟨g,?_,aO rfl rfl ⟨⟨rfl,rfl,rfl,rfl⟩,trivial⟩⟩⟩
  show Cr g _
  rw[cK.1 (eY.1 h),eE,cG];exact hg
 exact⟨.seq [(0,false),(1,false),(2,false),(3,false),(4,false),(5,true)],by kernel_rfl,[],aBk f y hf hy,rfl,rfl,rfl,λm hm=>⟨[],aLh x m hx (Cr.rq hm hb),rfl,rfl,rfl,λg hg=>⟨g,hg,aO rfl rfl ⟨⟨rfl,rfl,rfl,rfl⟩,trivial⟩⟩⟩⟩
theorem Sd.sq {P:Program} {nb N:Nat} {a b:Code} {K:Kt} {s:SS} (h:Sd P nb N a ⟨λs'=>Sd P nb N b K s',K.ext,K.ret⟩ s):Sd P nb N (.seq a b) K s:=λρ0 w0 ρ f w Q hL hD=>
 aIx (h ρ0 w0 ρ f w _ ⟨λs' ρ' f' w' h' hD'=>h' ρ0 w0 ρ' f' w' Q hL hD',hL.ext,hL.ret⟩ hD)
theorem Sd.cut {P:Program} {nb N:Nat} {a b:Code} {K:Kt} {s:SS} {σ:Type} (S:σ->SS) (C:σ->Prop) (h:Sd P nb N a ⟨λs'=>Gt nb s' S C,K.ext,K.ret⟩ s) (hk:∀g,C g->Sd P nb N b K (S g)):Sd P nb N (.seq a b) K s:=λρ0 w0 ρ f w Q hL hD=>
 aIx (h ρ0 w0 ρ f w _ ⟨λs' ρ' f' w' hg hD'=>by
  obtain⟨g,ρ2,hC,hD2⟩:=hg ρ0 w0 ρ' f' w' hD'
  exact hk g hC ρ0 w0 ρ2 f' w' Q hL hD2,hL.ext,hL.ret⟩ hD)
theorem Sd.blk {P:Program} {nb N id:Nat} {c:Code} {K:Kt} {s:SS} (h:Sd P nb N c ⟨K.nrm,λj s'=>bif Nat.beq j id then K.nrm s' else K.ext j s',K.ret⟩ s):Sd P nb N (.block id c) K s:=λρ0 w0 ρ f w Q hL hD=>
 aDa (h ρ0 w0 ρ f w _ ⟨hL.nrm,λj s' ρ' f' w' h' hD'=>by
  have h2:(bif Nat.beq j id then K.nrm s' else K.ext j s'):=h'
  show match Nat.beq j id with|true=>Q.nrm f' w'|false=>Q.ext j f' w'
  cases hj:Nat.beq j id with
  |true=>rw[hj] at h2;exact hL.nrm s' ρ' f' w' h2 hD'
  |false=>rw[hj] at h2;exact hL.ext j s' ρ' f' w' h2 hD',hL.ret⟩ hD)
theorem gJ (r:RatM):∀c∈r.C,fB c=true:=λc h2=>by
 simp only[RatM.C,aW,dP,or_false] at h2
 rcases h2 with rfl|rfl|rfl<;>rfl
def ecs (ys:List EntM):List CV:=(ys.map EntM.C).flatten
theorem fU:∀ys:List EntM,(ecs ys).length=ys.length*4
 |[]=>rfl
 |e::ys=>by
  show(e.C++ecs ys).length=_
  rw[aJ,fU ys,dD]
  show 4+_=_
  omega
theorem fY (ys:List EntM):∀c∈ecs ys,fB c=true:=λc hc=>by
 obtain⟨l,h1,h2⟩:=sE.1 hc
 obtain⟨e,_,rfl⟩:=bT.1 h1
 rcases aW.1 h2 with rfl|h2
 ·rfl
 exact gJ _ c h2
theorem oK (ys:List EntM) (e:EntM):ecs ys++e.C=ecs (ys++[e]):=by unfold ecs;simp
theorem gI {i:Nat} {c:CV} (h:fB c=true):kE i c=false:=by cases c<;>first|rfl|cases h
theorem jM {n:Nat} (ys:List EntM):(ecs ys).all (scC n)=true:=aP.2 λc hc=>mZ (fY ys c hc)
theorem pJ (x:List EntM) (i:Nat) (A:Option Addr) (c:Nat):CV.r A ((x.drop i).length-1) c 4 (λj=>((x.drop i).getD (j+1) default).C)=bR ⟨A,c,x.drop (i+1)⟩:=by
 unfold bR Sl.R
 congr 1
 ·simp only[cA];omega
 funext j
 rw[aZ,aZ,dI,dI,show i+(j+1)=i+1+j by omega]
theorem xD {α:Type} [Inhabited α] {l:List α} {i:Nat} (h:i<l.length):l.drop i=l.getD i default::l.drop (i+1):=by rw[dV h,gd h]
theorem nA {x:List EntM} {i:Nat}:(x.drop i).getD 0 default=x.getD i default:=by
 rw[aZ,aZ,dI,gA]
theorem aOn {B:Nat}:Rq default 0 B:=⟨⟨Lm.nil,aC _,rfl⟩,Lm.nil,aC _,rfl⟩
theorem aOo {B:Nat} (h:1<=B):rb 0 B:=⟨by show len 0<=B;rw[show len 0=0 by decide];omega,by show len 1<=B;rw[show len 1=1 by decide];omega⟩
structure MgR (op:Rat->Rat->Rat) (es fs rs:List En):Prop where
 a:Asc rs
 z:aAh rs
 g:∀i,Vm.get rs i=op (Vm.get es i) (Vm.get fs i)
def aIj (es fs:List En) (B i j:Nat) (i' j':Nat) (ix:Int) (u v:RatM):Prop:=∃a b,Stp (es.drop i) (fs.drop j) ix a b (es.drop i') (fs.drop j')/\Rq u a B/\Rq v b B/\rb a B/\rb b B/\i'<=es.length/\j'<=fs.length/\i+j<i'+j'
section seen
variable {x y:List EntM} {es fs:List En} {B i j:Nat} (hx:Ev x es B) (hy:Ev y fs B) (bx:rbE es B) (bY:rbE fs B) (h1:1<=B) (hi:i<=es.length) (hj:j<=fs.length)
include hx bx h1 hj in
theorem aXb (h:i<es.length) (h2:j=fs.length\/(j<fs.length/\(es.getD i default).1<(fs.getD j default).1)):aIj es fs B i j (i+1) j ((x.drop i).getD 0 default).ix ((x.drop i).getD 0 default).v default:=by
 rw[nA,(hx.e i h).1]
 refine⟨_,0,?_,(hx.e i h).2,aOn,bx _ (gW h),aOo h1,h,hj,by omega⟩
 rw[xD h]
 rcases h2 with rfl|⟨h2,h3⟩
 ·rw[jV];exact .l _ _
 rw[xD h2];exact .lt _ _ _ _ h3
include hx hy bx bY in
theorem aXc (h:i<es.length) (h2:j<fs.length) (h3:(es.getD i default).1=(fs.getD j default).1):aIj es fs B i j (i+1) (j+1) ((x.drop i).getD 0 default).ix ((x.drop i).getD 0 default).v ((y.drop j).getD 0 default).v:=by
 rw[nA,nA,(hx.e i h).1]
 refine⟨_,_,?_,(hx.e i h).2,(hy.e j h2).2,bx _ (gW h),bY _ (gW h2),h,h2,by omega⟩
 rw[xD h,xD h2];exact .eq _ _ _ _ h3
include hy bY h1 hi in
theorem aXd (h2:j<fs.length) (h:i=es.length\/(i<es.length/\(fs.getD j default).1<(es.getD i default).1)):aIj es fs B i j i (j+1) ((y.drop j).getD 0 default).ix default ((y.drop j).getD 0 default).v:=by
 rw[nA,(hy.e j h2).1]
 refine⟨0,_,?_,aOn,(hy.e j h2).2,aOo h1,bY _ (gW h2),hi,h2,by omega⟩
 rw[xD h2]
 rcases h with rfl|⟨h,h3⟩
 ·rw[jV];exact .r _ _
 rw[xD h];exact .gt _ _ _ _ h3
end seen
theorem aCy {get:Nat->List CV} {e:Nat}:LeC (.v (.slice none 0 0)) (.r none 0 0 e get):=λρ n w x h=>by rw[h.inv_v];exact Rc.nil none 0 e get (aC _)
theorem aIk:∀(k:Nat) (c c':CV),sS[k]? =some c->(default:RatM).C[k]? =some c'->LeC c c'
 |0,c,c',h1,h2=>by injection h1 with h1;injection h2 with h2;subst h1 h2;exact LeC.refl _
 |1,c,c',h1,h2=>by injection h1 with h1;injection h2 with h2;subst h1 h2;exact aCy
 |2,c,c',h1,h2=>by injection h1 with h1;injection h2 with h2;subst h1 h2;exact aCy
 |_+3,c,c',h1,h2=>by cases h1
theorem vE {ys:List EntM} {rs:List En} {ix:Int} {g:RatM} {q:Rat} (h:Ek ys rs) (hg:Cr g q):Ek (ys++[⟨ix,g⟩]) (rs++[(ix,q)]):=⟨by simp[h.ln],λk hk=>by
 rw[aJ,bW] at hk
 have hl:=h.ln
 rcases dH k rs.length with h1|h1
 ·have e1:(ys++[(⟨ix,g⟩:EntM)]).getD k default=ys.getD k default:=by simp[bO (show k<ys.length by omega)]
  have e2:(rs++[(ix,q)]).getD k default=rs.getD k default:=by simp[bO h1]
  rw[e1,e2];exact h.e k h1
 obtain rfl:k=rs.length:=by omega
 have e1:(ys++[(⟨ix,g⟩:EntM)]).getD rs.length default=⟨ix,g⟩:=by rw[<-hl];simp
 have e2:(rs++[(ix,q)]).getD rs.length default=(ix,q):=by simp
 rw[e1,e2];exact⟨rfl,hg⟩⟩
theorem pV:∀(ys:List EntM) (j:Nat),j<ys.length->(ys.getD j default).C=((ecs ys).drop (j*4)).take 4
 |[],j,h=>absurd h (aM _)
 |e::ys,0,h=>rfl
 |e::ys,j+1,h=>by
  have h1:=pV ys j (by simpa using h)
  show(ys.getD j default).C=((e.C++ecs ys).drop ((j+1)*4)).take 4
  have e4:e.C.length=4:=rfl
  rw[h1,eA,gC (j*4) 4,List.drop_append,e4,jO,bQ (show e.C.length<=4+j*4 by rw[e4];omega),kG]
theorem mA {i:Nat} (e:EntM):∀c∈e.C,kE i c=false:=λc hc=>gI (by
 rcases aW.1 hc with rfl|hc
 ·rfl
 exact gJ _ c hc)
theorem aBl {T e:Nat} {l:List CV} {r:BL} (h:∀c∈l,fB c=true):ClB [true] ((T,e,l)::r):=λi T' es' l' hi hc=>by
 cases i with
 |zero=>injection hi with hi;injection hi with _ hi;injection hi with _ hi;subst hi;exact h
 |succ i=>cases hc
abbrev aRd:FuncId:=166
theorem bUn:Ent Tryz.prog aRd:=aV func166 rfl kR
theorem bUo:Tryz.prog.funcs[aRd]? =some Tryz.f166:=func166
theorem aXe (x y:Sl EntM) {es fs:List En} {B:Nat} {q:FuncId} {op:Rat->Rat->Rat} (hx:Ev x.l es B) (hy:Ev y.l fs B) (bx:rbE es B) (bY:rbE fs B) (h1:1<=B) (ax:Asc es) (ay:Asc fs) (nx:es.length<=4096) (ny:fs.length<=4096) (h0:op 0 0=0)
 (hrb:∀a b,rb a B->rb b B->rb (op a b) 4398046511104)
 (hop:∀(u v:RatM) {a b:Rat},Rq u a B->Rq v b B->rb a B->rb b B->Ctr Tryz.prog q [] [.a u.C,.a v.C] [] (λg:RatM=>⟨.a g.C,[],Cr g (op a b)⟩)):
 Ctr Tryz.prog aRd [] [.c (bR x),.c (bR y),.c (.f q [] [])] [] (λys:List EntM=>⟨.c (.s 0 ys.length),[(82,4,ecs ys)],∃rs,Ek ys rs/\MgR op es fs rs⟩):=by
 have lx:=hx.ln
 have ly:=hy.ln
 refine bE gT bUn bUo rfl rfl rfl bL aT (aA gT mxd ⟨max (x.l.length) (y.l.length),⟨rfl,by show max (x.l.length:Int) (y.l.length:Int)=_;omega,by show 64*_<=_;omega,by simp only[maxLen];omega⟩,?_⟩)
 refine dR (λt=>!Nat.beq t 2) (λg:Nat×Nat×Option Addr×Nat×Option Addr×Nat×List EntM=>[(7,.c (.s 0 g.2.2.2.2.2.2.length)),(0,.c (bR ⟨g.2.2.1,g.2.2.2.1,x.l.drop g.1⟩)),(1,.c (bR ⟨g.2.2.2.2.1,g.2.2.2.2.2.1,y.l.drop g.2.1⟩))]) (λg=>[(82,4,ecs g.2.2.2.2.2.2)]) (λ_=>[]) (λg=>g.1<=es.length/\g.2.1<=fs.length/\g.2.2.2.2.2.2.length<=g.1+g.2.1/\∃rs ps,Mg op es fs (es.drop g.1) (fs.drop g.2.1) rs ps/\Ek g.2.2.2.2.2.2 rs) (λg=>es.length+fs.length-(g.1+g.2.1)) λhM=>⟨cH hM (0,0,x.A,x.c,y.A,y.c,[]) ⟨aC _,aC _,aC _,[],[],Mg.start ax ay,rfl,λk hk=>absurd hk (aM _)⟩ rfl rfl trivial ⟨rfl,rfl,rfl⟩ bL (aB (jM _) bJ) rfl,λ⟨i,j,A1,c1,A2,c2,ys⟩ ⟨hi,hj,hys,rs,ps,hmg,hek⟩=>Sd.sq (aA gT mxd ⟨λh2=>aA gT mxd (Sd.blk (Sd.sq (aA gT mxd (Sd.sq (aA gT mxd ?_))))),λh2=>aA gT mxd ?_⟩)⟩
 all_goals
  replace hi:i<=es.length:=hi
  replace hj:j<=fs.length:=hj
  replace hys:ys.length<=i+j:=hys
  replace hmg:Mg op es fs (es.drop i) (fs.drop j) rs ps:=hmg
  replace hek:Ek ys rs:=hek
  have la:(x.l.drop i).length=es.length-i:=by rw[cA,lx]
  have lb:(y.l.drop j).length=fs.length-j:=by rw[cA,ly]
 ·replace h2:(0:Int)<((x.l.drop i).length:Nat)\/(0:Int)<((y.l.drop j).length:Nat):=h2
  show Sd _ _ _ _ _ _
  refine iS tSd (l:=sS) 1 (default:RatM).C rfl rfl aIk (iS tSd (l:=sS) 2 (default:RatM).C rfl rfl aIk ?_)
  refine Sd.cut (σ:=Nat×Nat×Option Addr×Nat×Option Addr×Nat×Int×RatM×RatM) (λg=>⟨[(7,.c (.s 0 ys.length)),(0,.c (bR ⟨g.2.2.1,g.2.2.2.1,x.l.drop g.1⟩)),(1,.c (bR ⟨g.2.2.2.2.1,g.2.2.2.2.2.1,y.l.drop g.2.1⟩)),(8,.c (iC g.2.2.2.2.2.2.1)),(9,.c (.p 1 0)),(10,.c (.p 2 0))]++[(2,.c (.f q [] []))],[],[(82,4,ecs ys),(62,0,g.2.2.2.2.2.2.2.1.C),(62,0,g.2.2.2.2.2.2.2.2.C)],[]⟩) (λg=>aIj es fs B i j g.1 g.2.1 g.2.2.2.2.2.2.1 g.2.2.2.2.2.2.2.1 g.2.2.2.2.2.2.2.2) (aA gT mxd ?_) λ⟨i',j',A3,c3,A4,c4,ix,u,v⟩ hs=>aA gT mxd ?_
  ·refine⟨.seq (sq 99 (List.range 19)),by kernel_rfl,0,λhq=>⟨rfl,?_⟩,0,λhq=>⟨rfl,?_⟩,⟨λhc=>aA gT mxd ?_,λhc=>aA gT mxd ?_⟩⟩
   ·replace hq:((0:Int)<((x.l.drop i).length:Nat))/\¬(((y.l.drop j).length:Nat):Int)=0:=hq
    show 0<(x.l.drop i).length
    omega
   ·replace hq:((0:Int)<((x.l.drop i).length:Nat))/\¬(((y.l.drop j).length:Nat):Int)=0:=hq
    show 0<(y.l.drop j).length
    omega
   ·replace hc:(((y.l.drop j).length:Nat):Int)=0\/((0:Int)<((x.l.drop i).length:Nat))/\((x.l.drop i).getD 0 default).ix<=((y.l.drop j).getD 0 default).ix:=hc
    have hil:i<es.length:=by omega
    have l1:0<(x.l.drop i).length:=by omega
    refine⟨.seq (sq 9 (List.range 10)),by kernel_rfl,0,⟨rfl,l1⟩,0,⟨rfl,l1⟩,1,⟨rfl,l1⟩,0,λhq=>⟨rfl,?_⟩,⟨λhd=>aA gT mxd ?_,λhd=>aA gT mxd ?_⟩⟩
    ·replace hq:(0:Int)<((y.l.drop j).length:Nat):=hq
     show 0<(y.l.drop j).length
     omega
    ·replace hd:(0:Int)<((y.l.drop j).length:Nat)/\((y.l.drop j).getD 0 default).ix=((x.l.drop i).getD 0 default).ix:=hd
     have hs:=aXc hx hy bx bY (i:=i) (j:=j) hil oM (by rw[nA,nA,(hx.e i hil).1,(hy.e j oM).1] at hd;exact hd.2.symm)
     have l2:0<(y.l.drop j).length:=by omega
     exact⟨0,⟨rfl,l2⟩,1,⟨rfl,l2⟩,cH hM (chg:=λg:Nat×Nat×Option Addr×Nat×Option Addr×Nat×Int×RatM×RatM=>[(7,.c (.s 0 ys.length)),(0,.c (bR ⟨g.2.2.1,g.2.2.2.1,x.l.drop g.1⟩)),(1,.c (bR ⟨g.2.2.2.2.1,g.2.2.2.2.2.1,y.l.drop g.2.1⟩)),(8,.c (iC g.2.2.2.2.2.2.1)),(9,.c (.p 1 0)),(10,.c (.p 2 0))]) (bls:=λg:Nat×Nat×Option Addr×Nat×Option Addr×Nat×Int×RatM×RatM=>[(82,4,ecs ys),(62,0,g.2.2.2.2.2.2.2.1.C),(62,0,g.2.2.2.2.2.2.2.2.C)]) (fls:=λ_=>[]) (i+1,j+1,slA A1 c1 1 4,c1-1,slA A2 c2 1 4,c2-1,((x.l.drop i).getD 0 default).ix,((x.l.drop i).getD 0 default).v,((y.l.drop j).getD 0 default).v) hs rfl ⟨rfl,rfl,rfl⟩ trivial ⟨rfl,pJ x.l i _ _,pJ y.l j _ _,rfl,rfl,rfl⟩ bL (aB (jM _) (aB rfl (aB rfl bJ))) rfl⟩
    replace hd:¬((0:Int)<((y.l.drop j).length:Nat)/\((y.l.drop j).getD 0 default).ix=((x.l.drop i).getD 0 default).ix):=hd
    have hs:=aXb hx bx h1 hj (i:=i) (fs:=fs) hil (by
     rcases dH j fs.length with h|h
     ·rw[nA,nA,(hx.e i hil).1,(hy.e j h).1] at hd hc
      exact .inr ⟨h,by omega⟩
     exact .inl oM)
    exact cH hM (chg:=λg:Nat×Nat×Option Addr×Nat×Option Addr×Nat×Int×RatM×RatM=>[(7,.c (.s 0 ys.length)),(0,.c (bR ⟨g.2.2.1,g.2.2.2.1,x.l.drop g.1⟩)),(1,.c (bR ⟨g.2.2.2.2.1,g.2.2.2.2.2.1,y.l.drop g.2.1⟩)),(8,.c (iC g.2.2.2.2.2.2.1)),(9,.c (.p 1 0)),(10,.c (.p 2 0))]) (bls:=λg:Nat×Nat×Option Addr×Nat×Option Addr×Nat×Int×RatM×RatM=>[(82,4,ecs ys),(62,0,g.2.2.2.2.2.2.2.1.C),(62,0,g.2.2.2.2.2.2.2.2.C)]) (fls:=λ_=>[]) (i+1,j,slA A1 c1 1 4,c1-1,A2,c2,((x.l.drop i).getD 0 default).ix,((x.l.drop i).getD 0 default).v,default) hs rfl ⟨rfl,rfl,rfl⟩ trivial ⟨rfl,pJ x.l i _ _,rfl,rfl,rfl,rfl⟩ bL (aB (jM _) (aB rfl (aB rfl bJ))) rfl
   replace hc:¬((((y.l.drop j).length:Nat):Int)=0\/((0:Int)<((x.l.drop i).length:Nat))/\((x.l.drop i).getD 0 default).ix<=((y.l.drop j).getD 0 default).ix):=hc
   have hjl:j<fs.length:=by omega
   have hs:=aXd hy bY h1 hi (j:=j) (es:=es) hjl (by
    rcases dH i es.length with h|h
    ·rw[nA,nA,(hx.e i h).1,(hy.e j hjl).1] at hc
     exact .inr ⟨h,by omega⟩
    exact .inl oM)
   have l2:0<(y.l.drop j).length:=by omega
   exact⟨.seq (sq 9 (List.range 10)),by kernel_rfl,0,⟨rfl,l2⟩,0,⟨rfl,l2⟩,1,⟨rfl,l2⟩,cH hM (chg:=λg:Nat×Nat×Option Addr×Nat×Option Addr×Nat×Int×RatM×RatM=>[(7,.c (.s 0 ys.length)),(0,.c (bR ⟨g.2.2.1,g.2.2.2.1,x.l.drop g.1⟩)),(1,.c (bR ⟨g.2.2.2.2.1,g.2.2.2.2.2.1,y.l.drop g.2.1⟩)),(8,.c (iC g.2.2.2.2.2.2.1)),(9,.c (.p 1 0)),(10,.c (.p 2 0))]) (bls:=λg:Nat×Nat×Option Addr×Nat×Option Addr×Nat×Int×RatM×RatM=>[(82,4,ecs ys),(62,0,g.2.2.2.2.2.2.2.1.C),(62,0,g.2.2.2.2.2.2.2.2.C)]) (fls:=λ_=>[]) (i,j+1,A1,c1,slA A2 c2 1 4,c2-1,((y.l.drop j).getD 0 default).ix,default,((y.l.drop j).getD 0 default).v) hs rfl ⟨rfl,rfl,rfl⟩ trivial ⟨rfl,rfl,pJ y.l j _ _,rfl,rfl,rfl⟩ bL (aB (jM _) (aB rfl (aB rfl bJ))) rfl⟩
  obtain⟨a,b,hst,qu,qv,ra,rb',hi',hj',hlt⟩:=hs
  replace hst:Stp (es.drop i) (fs.drop j) ix a b (es.drop i') (fs.drop j'):=hst
  replace qu:Rq u a B:=qu
  replace qv:Rq v b B:=qv
  replace hi':i'<=es.length:=hi'
  replace hj':j'<=fs.length:=hj'
  replace hlt:i+j<i'+j':=hlt
  obtain⟨m1,m2⟩:=hmg.step hst
  refine⟨[],hop u v qu qv ra rb',rfl,rfl,rfl,λg hg=>⟨[],kM g (hg.rq (hrb a b ra rb')),rfl,rfl,rfl,λ_ _=>⟨λhz=>aA gT mxd ?_,λhz=>aA gT mxd ?_⟩⟩⟩
  ·replace hz:¬sgn (op a b).num=0:=hz
   have hne:op a b≠0:=λh=>hz (eY.2 (cK.2 h))
   refine⟨⟨rfl,by show ys.length*4=(ecs ys).length;rw[fU],by show ys.length+1<=maxLen;simp only[maxLen];omega,by show(ys.length+1)*64<=_;omega,λc hc=>?_⟩,mA ⟨ix,g⟩,cH hM (chg:=λg:Nat×Nat×Option Addr×Nat×Option Addr×Nat×List EntM=>[(7,.c (.s 0 g.2.2.2.2.2.2.length)),(0,.c (bR ⟨g.2.2.1,g.2.2.2.1,x.l.drop g.1⟩)),(1,.c (bR ⟨g.2.2.2.2.1,g.2.2.2.2.2.1,y.l.drop g.2.1⟩))]) (bls:=λg:Nat×Nat×Option Addr×Nat×Option Addr×Nat×List EntM=>[(82,4,ecs g.2.2.2.2.2.2)]) (fls:=λ_=>[]) (i',j',A3,c3,A4,c4,ys++[⟨ix,g⟩]) ⟨⟨hi',hj',?_,_,_,m2 hne,vE hek hg⟩,?_⟩ rfl (by show(82,4,ecs ys++(⟨ix,g⟩:EntM).C)=_;rw[oK]) trivial ⟨?_,rfl,rfl⟩ bL (aB (jM _) bJ) rfl⟩
   ·rcases aQ.1 hc with hc|hc
    ·exact gI (fY ys c hc)
    exact mA ⟨ix,g⟩ c hc
   ·show(ys++[(⟨ix,g⟩:EntM)]).length<=i'+j'
    rw[aJ,bW];omega
   ·show es.length+fs.length-(i'+j')<es.length+fs.length-(i+j)
    omega
   show ys.length+1=(ys++[(⟨ix,g⟩:EntM)]).length
   rw[aJ,bW]
  replace hz:¬¬sgn (op a b).num=0:=hz
  have h0':op a b=0:=cK.1 (eY.1 (fJ.1 hz))
  refine cH hM (chg:=λg:Nat×Nat×Option Addr×Nat×Option Addr×Nat×List EntM=>[(7,.c (.s 0 g.2.2.2.2.2.2.length)),(0,.c (bR ⟨g.2.2.1,g.2.2.2.1,x.l.drop g.1⟩)),(1,.c (bR ⟨g.2.2.2.2.1,g.2.2.2.2.2.1,y.l.drop g.2.1⟩))]) (bls:=λg:Nat×Nat×Option Addr×Nat×Option Addr×Nat×List EntM=>[(82,4,ecs g.2.2.2.2.2.2)]) (fls:=λ_=>[]) (i',j',A3,c3,A4,c4,ys) ⟨⟨hi',hj',show ys.length<=i'+j' by omega,_,_,m1 h0',hek⟩,?_⟩ rfl rfl trivial ⟨rfl,rfl,rfl⟩ bL (aB (jM _) bJ) rfl
  show es.length+fs.length-(i'+j')<es.length+fs.length-(i+j)
  omega
 replace h2:¬((0:Int)<((x.l.drop i).length:Nat)\/(0:Int)<((y.l.drop j).length:Nat)):=h2
 obtain rfl:i=es.length:=by omega
 obtain rfl:j=fs.length:=by omega
 rw[jV,jV] at hmg
 obtain⟨f1,f2,f3⟩:=hmg.fin h0
 exact aA gT mxd ⟨ys,⟨rs,hek,f1,f2,f3⟩,jW rfl rfl bL (aB (jM _) bJ) rfl wW⟩
theorem bMw (x y:Sl EntM) {es fs:List En} {B:Nat} {q:FuncId} {op:Rat->Rat->Rat} (hx:Ev x.l es B) (hy:Ev y.l fs B) (bx:rbE es B) (bY:rbE fs B) (h1:1<=B) (ax:Asc es) (ay:Asc fs) (nx:es.length<=4096) (ny:fs.length<=4096) (h0:op 0 0=0)
 (hrb:∀a b,rb a B->rb b B->rb (op a b) 4398046511104)
 (hop:∀(u v:RatM) {a b:Rat},Rq u a B->Rq v b B->rb a B->rb b B->Ctr Tryz.prog q [] [.a u.C,.a v.C] [] (λg:RatM=>⟨.a g.C,[],Cr g (op a b)⟩)):
 Ctr Tryz.prog aRd [] [.c (bR x),.c (bR y),.c (.f q [] [])] [] (λg:Sl EntM=>⟨.c (bR g),[],∃rs,Ek g.l rs/\MgR op es fs rs⟩):=
 CtrF.gt (aXe x y hx hy bx bY h1 ax ay nx ny h0 hrb hop) λys hys _=>aEf tGt 0 0 (λj=>(ys.getD j default).C) rfl rfl (pV ys) (fU ys).symm bL (fY ys) bL λA c _ _=>cH (M:=λ_=>true) (base:=[]) (chg:=λg:Sl EntM=>[(0,.c (bR g))]) (bls:=λ_=>[]) (fls:=λ_=>[]) (λt d ht=>by cases ht) ⟨A,c,ys⟩ ⟨hys,wW⟩ rfl trivial trivial rfl bL bJ rfl
theorem bMx (x y:Sl EntM) (f:RatM) {es fs:List En} {B:Nat} {q:FuncId} {op:Rat->Rat->Rat} (hx:Ev x.l es B) (hy:Ev y.l fs B) (bx:rbE es B) (bY:rbE fs B) (h1:1<=B) (ax:Asc es) (ay:Asc fs) (nx:es.length<=4096) (ny:fs.length<=4096) (h0:op 0 0=0)
 (hrb:∀a b,rb a B->rb b B->rb (op a b) 4398046511104)
 (hop:∀(u v:RatM) {a b:Rat},Rq u a B->Rq v b B->rb a B->rb b B->Ctr Tryz.prog q [true] [.a u.C,.a v.C,.c (.p 0 0)] [(62,0,f.C)] (λg:RatM=>⟨.a g.C,[(62,0,f.C)],Cr g (op a b)⟩)):
 Ctr Tryz.prog aRd [true] [.c (bR x),.c (bR y),.c (.f q [] [(0,0)])] [(62,0,f.C)] (λys:List EntM=>⟨.c (.s 1 ys.length),(62,0,f.C)::[(82,4,ecs ys)],∃rs,Ek ys rs/\MgR op es fs rs⟩):=by
 have lx:=hx.ln
 have ly:=hy.ln
 refine bE gT bUn bUo rfl rfl rfl bL (ClB.one rfl) (aA gT mxd ⟨max (x.l.length) (y.l.length),⟨rfl,by show max (x.l.length:Int) (y.l.length:Int)=_;omega,by show 64*_<=_;omega,by simp only[maxLen];omega⟩,?_⟩)
 refine dR (λt=>!Nat.beq t 2) (λg:Nat×Nat×Option Addr×Nat×Option Addr×Nat×List EntM=>[(7,.c (.s 1 g.2.2.2.2.2.2.length)),(0,.c (bR ⟨g.2.2.1,g.2.2.2.1,x.l.drop g.1⟩)),(1,.c (bR ⟨g.2.2.2.2.1,g.2.2.2.2.2.1,y.l.drop g.2.1⟩))]) (λg=>(62,0,f.C)::[(82,4,ecs g.2.2.2.2.2.2)]) (λ_=>[]) (λg=>g.1<=es.length/\g.2.1<=fs.length/\g.2.2.2.2.2.2.length<=g.1+g.2.1/\∃rs ps,Mg op es fs (es.drop g.1) (fs.drop g.2.1) rs ps/\Ek g.2.2.2.2.2.2 rs) (λg=>es.length+fs.length-(g.1+g.2.1)) λhM=>⟨cH hM (0,0,x.A,x.c,y.A,y.c,[]) ⟨aC _,aC _,aC _,[],[],Mg.start ax ay,rfl,λk hk=>absurd hk (aM _)⟩ rfl ⟨rfl,rfl⟩ trivial ⟨rfl,rfl,rfl⟩ bL (aB rfl (aB (jM _) bJ)) rfl,λ⟨i,j,A1,c1,A2,c2,ys⟩ ⟨hi,hj,hys,rs,ps,hmg,hek⟩=>Sd.sq (aA gT mxd ⟨λh2=>aA gT mxd (Sd.blk (Sd.sq (aA gT mxd (Sd.sq (aA gT mxd ?_))))),λh2=>aA gT mxd ?_⟩)⟩
 all_goals
  replace hi:i<=es.length:=hi
  replace hj:j<=fs.length:=hj
  replace hys:ys.length<=i+j:=hys
  replace hmg:Mg op es fs (es.drop i) (fs.drop j) rs ps:=hmg
  replace hek:Ek ys rs:=hek
  have la:(x.l.drop i).length=es.length-i:=by rw[cA,lx]
  have lb:(y.l.drop j).length=fs.length-j:=by rw[cA,ly]
 ·replace h2:(0:Int)<((x.l.drop i).length:Nat)\/(0:Int)<((y.l.drop j).length:Nat):=h2
  show Sd _ _ _ _ _ _
  refine iS tSd (l:=sS) 2 (default:RatM).C rfl rfl aIk (iS tSd (l:=sS) 3 (default:RatM).C rfl rfl aIk ?_)
  refine Sd.cut (σ:=Nat×Nat×Option Addr×Nat×Option Addr×Nat×Int×RatM×RatM) (λg=>⟨[(7,.c (.s 1 ys.length)),(0,.c (bR ⟨g.2.2.1,g.2.2.2.1,x.l.drop g.1⟩)),(1,.c (bR ⟨g.2.2.2.2.1,g.2.2.2.2.2.1,y.l.drop g.2.1⟩)),(8,.c (iC g.2.2.2.2.2.2.1)),(9,.c (.p 2 0)),(10,.c (.p 3 0))]++[(2,.c (.f q [] [(0,0)]))],[],(62,0,f.C)::[(82,4,ecs ys),(62,0,g.2.2.2.2.2.2.2.1.C),(62,0,g.2.2.2.2.2.2.2.2.C)],[]⟩) (λg=>aIj es fs B i j g.1 g.2.1 g.2.2.2.2.2.2.1 g.2.2.2.2.2.2.2.1 g.2.2.2.2.2.2.2.2) (aA gT mxd ?_) λ⟨i',j',A3,c3,A4,c4,ix,u,v⟩ hs=>aA gT mxd ?_
  ·refine⟨.seq (sq 99 (List.range 19)),by kernel_rfl,0,λhq=>⟨rfl,?_⟩,0,λhq=>⟨rfl,?_⟩,⟨λhc=>aA gT mxd ?_,λhc=>aA gT mxd ?_⟩⟩
   ·replace hq:((0:Int)<((x.l.drop i).length:Nat))/\¬(((y.l.drop j).length:Nat):Int)=0:=hq
    show 0<(x.l.drop i).length
    omega
   ·replace hq:((0:Int)<((x.l.drop i).length:Nat))/\¬(((y.l.drop j).length:Nat):Int)=0:=hq
    show 0<(y.l.drop j).length
    omega
   ·replace hc:(((y.l.drop j).length:Nat):Int)=0\/((0:Int)<((x.l.drop i).length:Nat))/\((x.l.drop i).getD 0 default).ix<=((y.l.drop j).getD 0 default).ix:=hc
    have hil:i<es.length:=by omega
    have l1:0<(x.l.drop i).length:=by omega
    refine⟨.seq (sq 9 (List.range 10)),by kernel_rfl,0,⟨rfl,l1⟩,0,⟨rfl,l1⟩,1,⟨rfl,l1⟩,0,λhq=>⟨rfl,?_⟩,⟨λhd=>aA gT mxd ?_,λhd=>aA gT mxd ?_⟩⟩
    ·replace hq:(0:Int)<((y.l.drop j).length:Nat):=hq
     show 0<(y.l.drop j).length
     omega
    ·replace hd:(0:Int)<((y.l.drop j).length:Nat)/\((y.l.drop j).getD 0 default).ix=((x.l.drop i).getD 0 default).ix:=hd
     have hs:=aXc hx hy bx bY (i:=i) (j:=j) hil oM (by rw[nA,nA,(hx.e i hil).1,(hy.e j oM).1] at hd;exact hd.2.symm)
     have l2:0<(y.l.drop j).length:=by omega
     exact⟨0,⟨rfl,l2⟩,1,⟨rfl,l2⟩,cH hM (chg:=λg:Nat×Nat×Option Addr×Nat×Option Addr×Nat×Int×RatM×RatM=>[(7,.c (.s 1 ys.length)),(0,.c (bR ⟨g.2.2.1,g.2.2.2.1,x.l.drop g.1⟩)),(1,.c (bR ⟨g.2.2.2.2.1,g.2.2.2.2.2.1,y.l.drop g.2.1⟩)),(8,.c (iC g.2.2.2.2.2.2.1)),(9,.c (.p 2 0)),(10,.c (.p 3 0))]) (bls:=λg:Nat×Nat×Option Addr×Nat×Option Addr×Nat×Int×RatM×RatM=>(62,0,f.C)::[(82,4,ecs ys),(62,0,g.2.2.2.2.2.2.2.1.C),(62,0,g.2.2.2.2.2.2.2.2.C)]) (fls:=λ_=>[]) (i+1,j+1,slA A1 c1 1 4,c1-1,slA A2 c2 1 4,c2-1,((x.l.drop i).getD 0 default).ix,((x.l.drop i).getD 0 default).v,((y.l.drop j).getD 0 default).v) hs rfl ⟨rfl,rfl,rfl,rfl⟩ trivial ⟨rfl,pJ x.l i _ _,pJ y.l j _ _,rfl,rfl,rfl⟩ bL (aB rfl (aB (jM _) (aB rfl (aB rfl bJ)))) rfl⟩
    replace hd:¬((0:Int)<((y.l.drop j).length:Nat)/\((y.l.drop j).getD 0 default).ix=((x.l.drop i).getD 0 default).ix):=hd
    have hs:=aXb hx bx h1 hj (i:=i) (fs:=fs) hil (by
     rcases dH j fs.length with h|h
     ·rw[nA,nA,(hx.e i hil).1,(hy.e j h).1] at hd hc
      exact .inr ⟨h,by omega⟩
     exact .inl oM)
    exact cH hM (chg:=λg:Nat×Nat×Option Addr×Nat×Option Addr×Nat×Int×RatM×RatM=>[(7,.c (.s 1 ys.length)),(0,.c (bR ⟨g.2.2.1,g.2.2.2.1,x.l.drop g.1⟩)),(1,.c (bR ⟨g.2.2.2.2.1,g.2.2.2.2.2.1,y.l.drop g.2.1⟩)),(8,.c (iC g.2.2.2.2.2.2.1)),(9,.c (.p 2 0)),(10,.c (.p 3 0))]) (bls:=λg:Nat×Nat×Option Addr×Nat×Option Addr×Nat×Int×RatM×RatM=>(62,0,f.C)::[(82,4,ecs ys),(62,0,g.2.2.2.2.2.2.2.1.C),(62,0,g.2.2.2.2.2.2.2.2.C)]) (fls:=λ_=>[]) (i+1,j,slA A1 c1 1 4,c1-1,A2,c2,((x.l.drop i).getD 0 default).ix,((x.l.drop i).getD 0 default).v,default) hs rfl ⟨rfl,rfl,rfl,rfl⟩ trivial ⟨rfl,pJ x.l i _ _,rfl,rfl,rfl,rfl⟩ bL (aB rfl (aB (jM _) (aB rfl (aB rfl bJ)))) rfl
   replace hc:¬((((y.l.drop j).length:Nat):Int)=0\/((0:Int)<((x.l.drop i).length:Nat))/\((x.l.drop i).getD 0 default).ix<=((y.l.drop j).getD 0 default).ix):=hc
   have hjl:j<fs.length:=by omega
   have hs:=aXd hy bY h1 hi (j:=j) (es:=es) hjl (by
    rcases dH i es.length with h|h
    ·rw[nA,nA,(hx.e i h).1,(hy.e j hjl).1] at hc
     exact .inr ⟨h,by omega⟩
    exact .inl oM)
   have l2:0<(y.l.drop j).length:=by omega
   exact⟨.seq (sq 9 (List.range 10)),by kernel_rfl,0,⟨rfl,l2⟩,0,⟨rfl,l2⟩,1,⟨rfl,l2⟩,cH hM (chg:=λg:Nat×Nat×Option Addr×Nat×Option Addr×Nat×Int×RatM×RatM=>[(7,.c (.s 1 ys.length)),(0,.c (bR ⟨g.2.2.1,g.2.2.2.1,x.l.drop g.1⟩)),(1,.c (bR ⟨g.2.2.2.2.1,g.2.2.2.2.2.1,y.l.drop g.2.1⟩)),(8,.c (iC g.2.2.2.2.2.2.1)),(9,.c (.p 2 0)),(10,.c (.p 3 0))]) (bls:=λg:Nat×Nat×Option Addr×Nat×Option Addr×Nat×Int×RatM×RatM=>(62,0,f.C)::[(82,4,ecs ys),(62,0,g.2.2.2.2.2.2.2.1.C),(62,0,g.2.2.2.2.2.2.2.2.C)]) (fls:=λ_=>[]) (i,j+1,A1,c1,slA A2 c2 1 4,c2-1,((y.l.drop j).getD 0 default).ix,default,((y.l.drop j).getD 0 default).v) hs rfl ⟨rfl,rfl,rfl,rfl⟩ trivial ⟨rfl,rfl,pJ y.l j _ _,rfl,rfl,rfl⟩ bL (aB rfl (aB (jM _) (aB rfl (aB rfl bJ)))) rfl⟩
  obtain⟨a,b,hst,qu,qv,ra,rb',hi',hj',hlt⟩:=hs
  replace hst:Stp (es.drop i) (fs.drop j) ix a b (es.drop i') (fs.drop j'):=hst
  replace qu:Rq u a B:=qu
  replace qv:Rq v b B:=qv
  replace hi':i'<=es.length:=hi'
  replace hj':j'<=fs.length:=hj'
  replace hlt:i+j<i'+j':=hlt
  obtain⟨m1,m2⟩:=hmg.step hst
  refine⟨_,rfl,[0],hop u v qu qv ra rb',rfl,rfl,rfl,λg hg=>⟨[],kM g (hg.rq (hrb a b ra rb')),rfl,rfl,rfl,λ_ _=>⟨λhz=>aA gT mxd ?_,λhz=>aA gT mxd ?_⟩⟩⟩
  ·replace hz:¬sgn (op a b).num=0:=hz
   have hne:op a b≠0:=λh=>hz (eY.2 (cK.2 h))
   refine⟨⟨rfl,by show ys.length*4=(ecs ys).length;rw[fU],by show ys.length+1<=maxLen;simp only[maxLen];omega,by show(ys.length+1)*64<=_;omega,λc hc=>?_⟩,mA ⟨ix,g⟩,cH hM (chg:=λg:Nat×Nat×Option Addr×Nat×Option Addr×Nat×List EntM=>[(7,.c (.s 1 g.2.2.2.2.2.2.length)),(0,.c (bR ⟨g.2.2.1,g.2.2.2.1,x.l.drop g.1⟩)),(1,.c (bR ⟨g.2.2.2.2.1,g.2.2.2.2.2.1,y.l.drop g.2.1⟩))]) (bls:=λg:Nat×Nat×Option Addr×Nat×Option Addr×Nat×List EntM=>(62,0,f.C)::[(82,4,ecs g.2.2.2.2.2.2)]) (fls:=λ_=>[]) (i',j',A3,c3,A4,c4,ys++[⟨ix,g⟩]) ⟨⟨hi',hj',?_,_,_,m2 hne,vE hek hg⟩,?_⟩ rfl ⟨rfl,by show(82,4,ecs ys++(⟨ix,g⟩:EntM).C)=_;rw[oK]⟩ trivial ⟨?_,rfl,rfl⟩ bL (aB rfl (aB (jM _) bJ)) rfl⟩
   ·rcases aQ.1 hc with hc|hc
    ·exact gI (fY ys c hc)
    exact mA ⟨ix,g⟩ c hc
   ·show(ys++[(⟨ix,g⟩:EntM)]).length<=i'+j'
    rw[aJ,bW];omega
   ·show es.length+fs.length-(i'+j')<es.length+fs.length-(i+j)
    omega
   show ys.length+1=(ys++[(⟨ix,g⟩:EntM)]).length
   rw[aJ,bW]
  replace hz:¬¬sgn (op a b).num=0:=hz
  have h0':op a b=0:=cK.1 (eY.1 (fJ.1 hz))
  refine cH hM (chg:=λg:Nat×Nat×Option Addr×Nat×Option Addr×Nat×List EntM=>[(7,.c (.s 1 g.2.2.2.2.2.2.length)),(0,.c (bR ⟨g.2.2.1,g.2.2.2.1,x.l.drop g.1⟩)),(1,.c (bR ⟨g.2.2.2.2.1,g.2.2.2.2.2.1,y.l.drop g.2.1⟩))]) (bls:=λg:Nat×Nat×Option Addr×Nat×Option Addr×Nat×List EntM=>(62,0,f.C)::[(82,4,ecs g.2.2.2.2.2.2)]) (fls:=λ_=>[]) (i',j',A3,c3,A4,c4,ys) ⟨⟨hi',hj',show ys.length<=i'+j' by omega,_,_,m1 h0',hek⟩,?_⟩ rfl ⟨rfl,rfl⟩ trivial ⟨rfl,rfl,rfl⟩ bL (aB rfl (aB (jM _) bJ)) rfl
  show es.length+fs.length-(i'+j')<es.length+fs.length-(i+j)
  omega
 replace h2:¬((0:Int)<((x.l.drop i).length:Nat)\/(0:Int)<((y.l.drop j).length:Nat)):=h2
 obtain rfl:i=es.length:=by omega
 obtain rfl:j=fs.length:=by omega
 rw[jV,jV] at hmg
 obtain⟨f1,f2,f3⟩:=hmg.fin h0
 exact aA gT mxd ⟨ys,⟨rs,hek,f1,f2,f3⟩,jW rfl ⟨rfl,rfl⟩ bL (aB rfl (aB (jM _) bJ)) rfl (aBl (gJ f))⟩
theorem bMy (x y:Sl EntM) (f:RatM) {es fs:List En} {B:Nat} {q:FuncId} {op:Rat->Rat->Rat} (hx:Ev x.l es B) (hy:Ev y.l fs B) (bx:rbE es B) (bY:rbE fs B) (h1:1<=B) (ax:Asc es) (ay:Asc fs) (nx:es.length<=4096) (ny:fs.length<=4096) (h0:op 0 0=0)
 (hrb:∀a b,rb a B->rb b B->rb (op a b) 4398046511104)
 (hop:∀(u v:RatM) {a b:Rat},Rq u a B->Rq v b B->rb a B->rb b B->Ctr Tryz.prog q [true] [.a u.C,.a v.C,.c (.p 0 0)] [(62,0,f.C)] (λg:RatM=>⟨.a g.C,[(62,0,f.C)],Cr g (op a b)⟩)):
 Ctr Tryz.prog aRd [true] [.c (bR x),.c (bR y),.c (.f q [] [(0,0)])] [(62,0,f.C)] (λg:Sl EntM=>⟨.c (bR g),[(62,0,f.C)],∃rs,Ek g.l rs/\MgR op es fs rs⟩):=
 CtrF.gt (bMx x y f hx hy bx bY h1 ax ay nx ny h0 hrb hop) λys hys _=>aEf tGt 0 1 (λj=>(ys.getD j default).C) rfl rfl (pV ys) (fU ys).symm bL (fY ys) bL λA c _ _=>cH (M:=λ_=>true) (base:=[]) (chg:=λg:Sl EntM=>[(0,.c (bR g))]) (bls:=λ_=>[(62,0,f.C)]) (fls:=λ_=>[]) (λt d ht=>by cases ht) ⟨A,c,ys⟩ ⟨hys,aBl (gJ f)⟩ rfl rfl trivial rfl bL (aB rfl bJ) rfl
theorem kN {a b:Rat} {B B':Nat} (ha:rb a B) (hb:rb b B'):rb (a*b) (B+B'):=by
 have h:=aSl a b
 simp only[eM] at h
 obtain⟨a1,a2⟩:=ha
 obtain⟨b1,b2⟩:=hb
 exact⟨by omega,by omega⟩
theorem aFl {a b:Rat} {B B':Nat} (ha:rb a B) (hb:rb b B'):rb (a+b) (B+B'+1):=by
 have h:=aSk a b
 simp only[eM] at h
 obtain⟨a1,a2⟩:=ha
 obtain⟨b1,b2⟩:=hb
 exact⟨by omega,by omega⟩
theorem xE {a b:Rat} {B B':Nat} (ha:rb a B) (hb:rb b B'):rb (a-b) (B+B'+1):=by
 rw[iO];exact aFl ha (aBj hb)
theorem _root_.Go.Vy.CtrF.args {P:Program} {q:FuncId} {cl:List Bool} {al al':List DV} {bl:BL} {fl:List Fam} {σ:Type} {R:σ->OutF} (h:CtrF P q cl al bl fl R) (hal:∀ρ n w vals,HL ρ n w al' vals->HL ρ n w al vals):CtrF P q cl al' bl fl R:=
 ⟨h.ent,h.clb,λρ w vals hv hD hF=>h.run ρ w vals (hal _ _ _ _ hv) hD hF⟩
theorem _root_.Go.Vy.CtrF.post {P:Program} {q:FuncId} {cl:List Bool} {al:List DV} {bl:BL} {fl:List Fam} {σ τ:Type} {R:σ->OutF} {R':τ->OutF} (h:CtrF P q cl al bl fl R) (φ:σ->τ) (hp:∀g,(R g).C->(R' (φ g)).C) (hd:∀g,(R' (φ g)).d=(R g).d/\(R' (φ g)).bl=(R g).bl/\(R' (φ g)).fl=(R g).fl):CtrF P q cl al bl fl R':=
 ⟨h.ent,h.clb,λρ w vals hv hD hF=>(h.run ρ w vals hv hD hF).mono λe w' ⟨v,he,g,ρ',c1,c2,c3,c4,c5⟩=>by
  obtain⟨d1,d2,d3⟩:=hd g
  exact⟨v,he,φ g,ρ',hp g c1,by rw[d2];exact c2,by rw[d1,d2];exact c3,by rw[d2];exact c4,by rw[d3];exact c5⟩⟩
abbrev aLj:FuncId:=105
theorem bMz:Ent Tryz.prog aLj:=aV func105 rfl kR
theorem bNa:Tryz.prog.funcs[aLj]? =some Tryz.f105:=func105
theorem aFm (x:Sl EntM) {es:List En} {B:Nat} (h:Ev x.l es B) (hb:rbE es B) (h1:1<=B) (hB:B<=4398046511104) (ha:Asc es) (hz:aAh es) (hn:es.length<=4096):Ctr Tryz.prog aLj [] [.c (bR x)] [] (λg:Sl EntM=>⟨.c (bR g),[],Ek g.l es⟩):=by
 have hm:=(bMw x dK (es:=es) (fs:=[]) (op:=λa _=>a) (q:=168) h ⟨rfl,λk hk=>absurd hk (aM _)⟩ hb (λe he=>absurd he dP) h1 ha List.Pairwise.nil hn (aC _) rfl (λa b h _=>h.le hB) (λu v {a b} hu _ _ _=>bHj u v (hu.le hB))).args (al':=[.c (bR x),.c (.v (.slice none 0 0)),.c (.f 168 [] [])]) λρ n w vals hv=>(by
  match vals,hv with
  |[v0,v1,v2],⟨h0,h1,h2,h3⟩=>exact⟨h0,.c (aCy ρ n w v1 h1.inv_c),h2,h3⟩)
 refine bE gT bMz bNa rfl rfl rfl bL aT (aA gT mxd ⟨[],aFk x h ha,rfl,rfl,rfl,λ_ _=>⟨[],hm,rfl,rfl,rfl,λg ⟨rs,h2,h3⟩=>⟨g,?_,aO rfl rfl trivial⟩⟩⟩)
 have e:rs=es:=rO rs es h3.a ha h3.z hz h3.g
 rw[<-e];exact h2
abbrev aXf:FuncId:=181
theorem bUp:Ent Tryz.prog aXf:=aV func181 rfl kR
theorem bUq:Tryz.prog.funcs[aXf]? =some Tryz.f181:=func181
theorem bNb (x y:Sl EntM) (f:RatM) {es fs:List En} {q:Rat} {B Q:Nat} (hx:Ev x.l es B) (hy:Ev y.l fs B) (bx:rbE es B) (bY:rbE fs B) (h1:1<=B) (hf:Rq f q Q) (hq:rb q Q) (hB:B+(Q+B)+1<=4398046511104) (ax:Asc es) (ay:Asc fs) (nx:es.length<=4096) (ny:fs.length<=4096):
 Ctr Tryz.prog aXf [] [.c (bR x),.a f.C,.c (bR y)] [] (λg:Sl EntM=>⟨.c (bR g),[],∃rs,Ek g.l rs/\MgR (λa b=>a+q*b) es fs rs⟩):=by
 refine bE gT bUp bUq rfl rfl rfl bL aT (aA gT mxd ⟨[],aFk x hx ax,rfl,rfl,rfl,λ_ _=>⟨[],aFk y hy ay,rfl,rfl,rfl,λ_ _=>⟨[0],bMy x y f (op:=λa b=>a+q*b) hx hy bx bY h1 ax ay nx ny (by show(0:Rat)+q*0=0;rw[eE,cG]) (λa b ha hb=>(aFl ha (kN hq hb)).le) (λu v {a b} hu hv _ rb'=>bUm f u v (hf.le) (hu.le) (hv.le) ((kN hq rb').le)),rfl,rfl,rfl,λg hg=>⟨g,hg,aO rfl rfl trivial⟩⟩⟩⟩)
def fZ (x:Sl RatM):CV:=x.R 3 RatM.C default
structure Rl (x:List RatM) (qs:List Rat):Prop where
 ln:x.length=qs.length
 e:∀k,k<qs.length->Cr (x.getD k default) (qs.getD k 0)
def rbL (qs:List Rat) (B:Nat):Prop:=∀q∈qs,rb q B
theorem gD0 {qs:List Rat} {k:Nat} (h:k<qs.length):qs.getD k 0∈qs:=by rw[gd h];exact iH h
theorem Rl.rq {x:List RatM} {qs:List Rat} {B k:Nat} (h:Rl x qs) (hb:rbL qs B) (hk:k<qs.length):Rq (x.getD k default) (qs.getD k 0) B:=(h.e k hk).rq (hb _ (gD0 hk))
def fdF (qs:List Rat):Nat->List En
 |0=>[]
 |k+1=>if qs.getD k 0=0 then fdF qs k else fdF qs k++[((k:Int),qs.getD k 0)]
theorem yE {qs:List Rat}:∀{k:Nat},∀e∈fdF qs k,∃i:Nat,i<k/\e=((i:Int),qs.getD i 0)/\e.2≠0
 |0,e,h=>absurd h dP
 |k+1,e,h=>by
  unfold fdF at h
  split at h
  ·obtain⟨i,h1,h2⟩:=yE e h;exact⟨i,by omega,h2⟩
  next hq=>
  rcases aQ.1 h with h|h
  ·obtain⟨i,h1,h2⟩:=yE e h;exact⟨i,by omega,h2⟩
  rw[aI.1 h];exact⟨k,by omega,rfl,hq⟩
theorem zO {qs:List Rat}:∀k,(fdF qs k).length<=k
 |0=>aF _
 |k+1=>by
  have:=zO (qs:=qs) k
  unfold fdF
  split
  ·omega
  rw[aJ,bW];omega
theorem xF {qs:List Rat}:∀k,Asc (fdF qs k)
 |0=>List.Pairwise.nil
 |k+1=>by
  unfold fdF
  split
  ·exact xF k
  refine eP.2 ⟨xF k,dT _ _,λa ha b hb=>?_⟩
  rw[aI.1 hb]
  obtain⟨i,h1,rfl,_⟩:=yE a ha
  show(i:Int)<(k:Int)
  omega
theorem xG {qs:List Rat}:∀(k:Nat) (i:Int),Vm.get (fdF qs k) i=if 0<=i/\i<k then qs.getD i.toNat 0 else 0
 |0,i=>by rw[if_neg oM];rfl
 |k+1,i=>by
  have ih:=xG (qs:=qs) k i
  unfold fdF
  split
  ·next hq=>
   rw[ih]
   by_cases hi:i=(k:Int)
   ·subst hi;rw[if_neg oM,if_pos oM,bU,hq]
   by_cases h2:0<=i/\i<(k:Int)
   ·rw[if_pos h2,if_pos oM]
   rw[if_neg h2,if_neg oM]
  next hq=>
  rw[mL,ih]
  show _+((if (k:Int)=i then qs.getD k 0 else 0)+0)=_
  rw[cG]
  by_cases hi:(k:Int)=i
  ·subst hi;rw[if_neg oM,if_pos rfl,if_pos oM,bU,fN]
  rw[if_neg hi,cG]
  by_cases h2:0<=i/\i<(k:Int)
  ·rw[if_pos h2,if_pos oM]
  rw[if_neg h2,if_neg oM]
abbrev aXg:FuncId:=104
theorem bZu:Ent Tryz.prog aXg:=aV func104 rfl kR
theorem bZv:Tryz.prog.funcs[aXg]? =some Tryz.f104:=func104
theorem bUr (x:Sl RatM) {qs:List Rat} {B:Nat} (h:Rl x.l qs) (hb:rbL qs B) (hB:B<=4398046511104) (hn:qs.length<=4096):Ctr Tryz.prog aXg [] [.c (fZ x)] [] (λys:List EntM=>⟨.c (.s 0 ys.length),[(82,4,ecs ys)],Ek ys (fdF qs qs.length)⟩):=by
 have hl:=h.ln
 refine bE gT bZu bZv rfl rfl rfl bL aT (aA gT mxd (bDf 3 82 4 rfl bL ?_))
 refine dR (λ_=>true) (λg:Nat×List EntM=>[(8,.c (iC g.1)),(3,.c (.s 0 g.2.length)),(7,.c (iC (x.l.length:Nat))),(6,.c (fZ x))]) (λg=>[(82,4,ecs g.2)]) (λ_=>[]) (λg=>g.1<=qs.length/\Ek g.2 (fdF qs g.1)) (λg=>qs.length-g.1) λhM=>⟨cH hM (chg:=λg:Nat×List EntM=>[(8,.c (iC g.1)),(3,.c (.s 0 g.2.length)),(7,.c (iC (x.l.length:Nat))),(6,.c (fZ x))]) (bls:=λg:Nat×List EntM=>[(82,4,ecs g.2)]) (fls:=λ_=>[]) (0,[]) ⟨aC _,rfl,λk hk=>absurd hk (aM _)⟩ rfl rfl trivial ⟨rfl,rfl,rfl,rfl⟩ bL (aB rfl bJ) rfl,λ⟨k,ys⟩ ⟨hk,hy⟩=>aA gT mxd ⟨λh2=>aA gT mxd ?_,λh2=>aA gT mxd ?_⟩⟩
 all_goals
  replace hk:k<=qs.length:=hk
  replace hy:Ek ys (fdF qs k):=hy
 ·replace h2:(k:Int)<(x.l.length:Nat):=h2
  have hkl:k<qs.length:=by omega
  have hyl:ys.length<=k:=by rw[hy.ln];exact zO k
  have hq:=h.rq hb hkl
  refine⟨k,⟨rfl,by omega⟩,[],kM (x.l.getD k default) (hq.le hB),rfl,rfl,rfl,λ_ _=>⟨λhz=>aA gT mxd ?_,λhz=>aA gT mxd ?_⟩⟩
  ·replace hz:¬sgn (qs.getD k 0).num=0:=hz
   have hne:¬qs.getD k 0=0:=λh=>hz (eY.2 (cK.2 h))
   refine⟨[],pI (x.l.getD k default) (hq.le hB),rfl,rfl,rfl,λg hg=>⟨⟨rfl,by show ys.length*4=(ecs ys).length;rw[fU],by show ys.length+1<=maxLen;simp only[maxLen];omega,by show(ys.length+1)*64<=_;omega,λc hc=>?_⟩,mA ⟨k,g⟩,(k+1:Nat),wi,cH hM (chg:=λg:Nat×List EntM=>[(8,.c (iC g.1)),(3,.c (.s 0 g.2.length)),(7,.c (iC (x.l.length:Nat))),(6,.c (fZ x))]) (bls:=λg:Nat×List EntM=>[(82,4,ecs g.2)]) (fls:=λ_=>[]) (k+1,ys++[⟨k,g⟩]) ⟨⟨hkl,?_⟩,show qs.length-(k+1)<qs.length-k by omega⟩ rfl (by show(82,4,ecs ys++(⟨k,g⟩:EntM).C)=_;rw[oK]) trivial ⟨rfl,?_,rfl,rfl⟩ bL (aB (jM _) bJ) rfl⟩⟩
   ·rcases aQ.1 hc with hc|hc
    ·exact gI (fY ys c hc)
    exact mA ⟨k,g⟩ c hc
   ·show Ek _ (fdF qs (k+1))
    unfold fdF
    rw[if_neg hne];exact vE hy hg
   show ys.length+1=(ys++[(⟨k,g⟩:EntM)]).length
   rw[aJ,bW]
  replace hz:¬¬sgn (qs.getD k 0).num=0:=hz
  have h0:qs.getD k 0=0:=cK.1 (eY.1 (fJ.1 hz))
  refine⟨(k+1:Nat),wi,cH hM (chg:=λg:Nat×List EntM=>[(8,.c (iC g.1)),(3,.c (.s 0 g.2.length)),(7,.c (iC (x.l.length:Nat))),(6,.c (fZ x))]) (bls:=λg:Nat×List EntM=>[(82,4,ecs g.2)]) (fls:=λ_=>[]) (k+1,ys) ⟨⟨hkl,?_⟩,show qs.length-(k+1)<qs.length-k by omega⟩ rfl rfl trivial ⟨rfl,rfl,rfl,rfl⟩ bL (aB (jM _) bJ) rfl⟩
  show Ek _ (fdF qs (k+1))
  unfold fdF
  rw[if_pos h0];exact hy
 replace h2:¬(k:Int)<(x.l.length:Nat):=h2
 obtain rfl:k=qs.length:=by omega
 exact aA gT mxd ⟨ys,hy,jW rfl rfl bL (aB (jM _) bJ) rfl wW⟩
theorem bUs (x:Sl RatM) {qs:List Rat} {B:Nat} (h:Rl x.l qs) (hb:rbL qs B) (hB:B<=4398046511104) (hn:qs.length<=4096):Ctr Tryz.prog aXg [] [.c (fZ x)] [] (λg:Sl EntM=>⟨.c (bR g),[],Ek g.l (fdF qs qs.length)⟩):=
 CtrF.gt (bUr x h hb hB hn) λys hys _=>aEf tGt 0 0 (λj=>(ys.getD j default).C) rfl rfl (pV ys) (fU ys).symm bL (fY ys) bL λA c _ _=>cH (M:=λ_=>true) (base:=[]) (chg:=λg:Sl EntM=>[(0,.c (bR g))]) (bls:=λ_=>[]) (fls:=λ_=>[]) (λt d ht=>by cases ht) ⟨A,c,ys⟩ ⟨hys,wW⟩ rfl trivial trivial rfl bL bJ rfl
theorem qU {P:Nat->List CV} {e:Nat}:∀{n:Nat},(∀j,j<n->(P j).length=e)->(flatR n P).length=n*e
 |0,_=>by simp[flatR]
 |n+1,h=>by rw[fX,aJ,qU (λj hj=>h j oM),h n oM,cM,iD]
theorem lI {P Q:Nat->List CV}:∀{n:Nat},(∀j,j<n->P j=Q j)->flatR n P=flatR n Q
 |0,_=>rfl
 |n+1,h=>by rw[fX,fX,lI (λj hj=>h j oM),h n oM]
theorem aFn {P:Nat->List CV} {e k:Nat}:∀{n:Nat},(∀j,j<n->(P j).length=e)->k<n->((flatR n P).drop (k*e)).take e=P k
 |0,_,hk=>absurd hk (aM _)
 |n+1,h,hk=>by
  have hl:=qU (λj hj=>h j (gD hj):∀j,j<n->(P j).length=e)
  rw[fX]
  by_cases hkn:k<n
  ·have hm:k*e+e<=n*e:=by rw[<-eA];exact bF e hkn
   rw[gR oM,eB (by rw[cA];omega)]
   exact aFn (λj hj=>h j oM) hkn
  obtain rfl:k=n:=by omega
  rw[<-hl,List.drop_left,<-h k oM,cU]
theorem aFo {P:Nat->List CV} {e k:Nat} {v:List CV} (hv:v.length=e):∀{n:Nat},(∀j,j<n->(P j).length=e)->k<n->kD (flatR n P) (k*e) v=flatR n λj=>if j=k then v else P j
 |0,_,hk=>absurd hk (aM _)
 |n+1,h,hk=>by
  have hl:=qU (λj hj=>h j (gD hj):∀j,j<n->(P j).length=e)
  rw[fX,fX]
  by_cases hkn:k<n
  ·have hm:k*e+e<=n*e:=by rw[<-eA];exact bF e hkn
   rw[if_neg oM,<-aFo hv (λj hj=>h j oM) hkn]
   unfold kD
   rw[hv,eB oM,gR oM,cL,cL]
  obtain rfl:k=n:=by omega
  rw[if_pos rfl,lI (Q:=P) λj hj=>if_neg oM]
  unfold kD
  rw[hv,<-hl,List.take_left,bQ (by rw[aJ,h k oM,hl];omega),dL]
def pW (G:Nat->RatM) (k:Nat) (j:Nat):List CV:=if j<k then (G j).C else sS
theorem tZ {G:Nat->RatM} {k:Nat} (j:Nat):(pW G k j).length=3:=by unfold pW;split<;>rfl
theorem aLk {P:Nat->List CV} {n k:Nat} (h:∀j,(P j).length=3) (hk:k<n):k*3<(flatR n P).length:=by rw[qU λj _=>h j];omega
theorem bNc {P:Nat->List CV} {n k:Nat} {l:List CV} (h:∀j,(P j).length=3) (hk:k<n) (hl:P k=l):((flatR n P).drop (k*3)).take 3=l/\l.length=3:=⟨by rw[aFn (λj _=>h j) hk,hl],by rw[<-hl];exact h k⟩
theorem aFp {P Q:Nat->List CV} {n k:Nat} {l:List CV} (h:∀j,(P j).length=3) (hk:k<n) (hl:l.length=3) (hq:∀j,j<n->(if j=k then l else P j)=Q j):kD (flatR n P) (k*3) l=flatR n Q/\k*3+l.length<=(flatR n P).length:=⟨by rw[aFo hl (λj _=>h j) hk,lI hq],by rw[qU λj _=>h j,hl];omega⟩
def aBm (G:Nat->RatM) (k:Nat) (g:RatM) (j:Nat):RatM:=if j=k then g else G j
theorem aOp {G:Nat->RatM} {k:Nat} {g:RatM} (j:Nat):(if j=k then g.C else pW G k j)=pW (aBm G k g) (k+1) j:=by
 unfold pW aBm
 by_cases h:j=k
 ·rw[if_pos h,if_pos h,if_pos oM]
 rw[if_neg h,if_neg h]
 by_cases h2:j<k
 ·rw[if_pos h2,if_pos oM]
 rw[if_neg h2,if_neg oM]
theorem zP {z:List CV}:∀{n:Nat},flatR n (λ_=>z)=(List.replicate n z).flatten
 |0=>rfl
 |n+1=>by rw[fX,zP,oP,jF,List.flatten_singleton]
theorem vW {P:Nat->List CV} (h:∀j,∀c∈P j,fB c=true):∀n,∀c∈flatR n P,fB c=true
 |0,c,hc=>by cases hc
 |n+1,c,hc=>by
  rw[fX] at hc
  rcases aQ.1 hc with h1|h1
  ·exact vW h n c h1
  exact h n c h1
theorem aXh:∀c∈sS,fB c=true:=λc h2=>by
 rcases aW.1 h2 with rfl|h2
 ·rfl
 rcases aW.1 h2 with rfl|h2
 ·rfl
 rcases aW.1 h2 with rfl|h2
 ·rfl
 cases h2
theorem vF {es:List En} (ha:Asc es) {e:En} (he:e∈es):Vm.get es e.1=e.2:=by
 induction es with
 |nil=>cases he
 |cons a es ih=>
  rcases aW.1 he with rfl|he
  ·exact iJ ha
  have:=ha.head e he
  rw[iA oM];exact ih ha.tail he
def dnL (es:List En) (n:Nat):List Rat:=(List.range n).map λi=>Vm.get es (i:Nat)
theorem aFq {es:List En} {n k:Nat} (h:k<n):(dnL es n).getD k 0=Vm.get es (k:Nat):=by unfold dnL;simp[h]
theorem xH {es:List En} {n:Nat}:(dnL es n).length=n:=by unfold dnL;simp
def mC (G:Nat->RatM) (n:Nat):List RatM:=(List.range n).map G
theorem aLl {G:Nat->RatM} {n k:Nat} (h:k<n):(mC G n).getD k default=G k:=by unfold mC;simp[h]
theorem zQ {G:Nat->RatM} {n:Nat}:(mC G n).length=n:=by unfold mC;simp
theorem aIl {G:Nat->RatM} {n:Nat}:flatR n (pW G n)=flatR n λj=>(G j).C:=lI λj hj=>if_pos hj
theorem xI {G:Nat->RatM} {i n:Nat}:∀c∈flatR n (pW G i),fB c=true:=vW (λj=>by unfold pW;split;exact gJ _;exact aXh) n
theorem bEm {G:Nat->RatM} {n:Nat} (j:Nat) (h:j<n):((mC G n).getD j default).C=((flatR n λj=>(G j).C).drop (j*3)).take 3:=by rw[aLl h];exact(aFn (P:=λj=>(G j).C) (λ_ _=>rfl) h).symm
theorem bUt {G:Nat->RatM} {n c:Nat} {A:Option Addr}:CV.r A n c 3 (λj=>((mC G n).getD j default).C)=fZ ⟨A,c,mC G n⟩:=by
 unfold fZ Sl.R
 rw[zQ]
theorem aOq {G:Nat->RatM} {n:Nat} {es:List En} (hG:∀k,k<n->Cr (G k) (Vm.get es (k:Nat))):Rl (mC G n) (dnL es n):=⟨zQ.trans xH.symm,λk hk=>by
 rw[xH] at hk
 rw[aLl hk,aFq hk];exact hG k hk⟩
abbrev bNd:FuncId:=103
theorem bZw:Ent Tryz.prog bNd:=aV func103 rfl kR
theorem bZx:Tryz.prog.funcs[bNd]? =some Tryz.f103:=func103
theorem bUu (x:Sl EntM) (n:Nat) {es:List En} {B:Nat} (h:Ev x.l es B) (hb:rbE es B) (h1:1<=B) (hB:B<=4398046511104) (hv:VOk es n) (hn:n<=4096) (he:es.length<=4096):Ctr Tryz.prog bNd [] [.c (bR x),.c (iC n)] [] (λg:Sl RatM=>⟨.t [.c (fZ g),pC True],[],Rl g.l (dnL es n)⟩):=by
 have hz:aAh es:=λe he=>(hv.2 e he).2.2
 refine bE gT bZw bZx rfl rfl rfl bL aT (aA gT mxd ⟨λh2=>aA gT mxd ?_,λh2=>aA gT mxd ?_⟩)
 ·replace h2:(n:Int)<0\/(16384:Int)<(n:Nat):=h2
  exact absurd h2 oM
 refine⟨[],aFm x h hb h1 hB hv.1 hz he,rfl,rfl,rfl,λy hy=>⟨0,λhq=>⟨rfl,?_⟩,((y.l.length:Nat):Int)-1,λhq=>wi (h:=⟨rfl,?_,?_⟩),y.l.length-1,λhq=>⟨?_,?_⟩,⟨λh3=>aA gT mxd ?_,λh3=>aA gT mxd ?_⟩⟩⟩
 all_goals
  replace hy:Ek y.l es:=hy
  have ly:=hy.ln
 ·replace hq:(0:Int)<(y.l.length:Nat):=hq
  omega
 ·omega
 ·omega
 ·have h4:(0:Int)<(y.l.length:Nat):=by first|exact hq.1|exact hq.2
  omega
 ·have h4:(0:Int)<(y.l.length:Nat):=by first|exact hq.1|exact hq.2
  omega
 ·replace h3:(0:Int)<(y.l.length:Nat)/\((y.l.getD 0 default).ix<0\/(n:Int)<=(y.l.getD (y.l.length-1) default).ix):=h3
  have e0:=hv.2 _ (gW (show 0<es.length by omega))
  have e1:=hv.2 _ (gW (show y.l.length-1<es.length by omega))
  rw[(hy.e 0 oM).1,(hy.e (y.l.length-1) oM).1] at h3
  exact absurd h3 oM
 refine⟨n,⟨rfl,rfl,by show 56*_<=_;omega,by simp only[maxLen];omega⟩,?_⟩
 refine dR (λ_=>true) (λg:Nat×Nat×Option Addr×Nat×(Nat->RatM)=>[(42,.c (iC g.1)),(6,.c (bR ⟨g.2.2.1,g.2.2.2.1,y.l.drop g.2.1⟩)),(7,.c (.s 0 n)),(41,.c (iC n))]) (λg=>[(62,3,flatR n (pW g.2.2.2.2 g.1))]) (λ_=>[]) (λg=>(g.1<=n/\g.2.1<=es.length)/\(∀e∈es.take g.2.1,e.1<(g.1:Nat))/\(∀e∈es.drop g.2.1,((g.1:Nat):Int)<=e.1)/\∀k,k<g.1->Cr (g.2.2.2.2 k) (Vm.get es (k:Nat))) (λg=>n-g.1) λhM=>⟨cH hM (chg:=λg:Nat×Nat×Option Addr×Nat×(Nat->RatM)=>[(42,.c (iC g.1)),(6,.c (bR ⟨g.2.2.1,g.2.2.2.1,y.l.drop g.2.1⟩)),(7,.c (.s 0 n)),(41,.c (iC n))]) (bls:=λg:Nat×Nat×Option Addr×Nat×(Nat->RatM)=>[(62,3,flatR n (pW g.2.2.2.2 g.1))]) (fls:=λ_=>[]) (0,0,y.A,y.c,λ_=>default) ⟨⟨aC _,aC _⟩,λe he=>(by cases he),λe he=>(hv.2 e he).1,λk hk=>absurd hk (aM _)⟩ rfl ?_ trivial ⟨rfl,rfl,rfl,rfl⟩ bL (aB (aP.2 λc hc=>mZ (xI c hc)) bJ) rfl,λ⟨i,j,A,c,G⟩ ⟨⟨hi,hj⟩,ht,hd,hG⟩=>aA gT mxd ⟨λh4=>aA gT mxd ?_,λh4=>aA gT mxd ?_⟩⟩
 ·show(_,_,_)=(_,_,_)
  congr 2
  show(List.replicate n sS).flatten=_
  rw[<-zP]
  exact lI λj _=>(if_neg (aM _)).symm
 all_goals
  replace hi:i<=n:=hi
  replace hj:j<=es.length:=hj
  replace ht:∀e∈es.take j,e.1<(i:Nat):=ht
  replace hd:∀e∈es.drop j,(i:Int)<=e.1:=hd
  replace hG:∀k,k<i->Cr (G k) (Vm.get es (k:Nat)):=hG
 ·replace h4:(i:Int)<(n:Nat):=h4
  have hin:i<n:=by omega
  have lr:(y.l.drop j).length=es.length-j:=by rw[cA,ly]
  have hlen:i*3<(flatR n (pW G i)).length:=aLk (λj=>tZ j) hin
  have step:∀(g:RatM),Cr g (Vm.get es (i:Nat))->∀k,k<i+1->Cr (aBm G i g k) (Vm.get es (k:Nat)):=λg hg k hk=>by
   unfold aBm
   by_cases hki:k=i
   ·subst hki;rw[if_pos rfl];exact hg
   rw[if_neg hki];exact hG k oM
  have put:∀g:RatM,kD (flatR n (pW G i)) (i*3) g.C=flatR n (pW (aBm G i g) (i+1))/\i*3+g.C.length<=(flatR n (pW G i)).length:=λg=>aFp (λj=>tZ j) hin rfl λj _=>aOp j
  refine⟨0,λhq=>⟨rfl,?_⟩,⟨λh5=>aA gT mxd ?_,λh5=>aA gT mxd ?_⟩⟩
  ·replace hq:(0:Int)<((y.l.drop j).length:Nat):=hq
   show 0<(y.l.drop j).length
   omega
  ·replace h5:(0:Int)<((y.l.drop j).length:Nat)/\((y.l.drop j).getD 0 default).ix=(i:Nat):=h5
   have hjl:j<es.length:=by omega
   have l0:0<(y.l.drop j).length:=by omega
   have e1:=hy.e j hjl
   have e2:((y.l.drop j).getD 0 default).ix=(i:Nat):=h5.2
   rw[nA,e1.1] at e2
   have hg:Cr ((y.l.drop j).getD 0 default).v (Vm.get es (i:Nat)):=by
    rw[nA,<-e2,vF hv.1 (gW hjl)];exact e1.2
   refine⟨0,⟨rfl,l0⟩,i,⟨rfl,hin,hlen⟩,_,put _,1,⟨rfl,l0⟩,(i+1:Nat),wi,cH hM (chg:=λg:Nat×Nat×Option Addr×Nat×(Nat->RatM)=>[(42,.c (iC g.1)),(6,.c (bR ⟨g.2.2.1,g.2.2.2.1,y.l.drop g.2.1⟩)),(7,.c (.s 0 n)),(41,.c (iC n))]) (bls:=λg:Nat×Nat×Option Addr×Nat×(Nat->RatM)=>[(62,3,flatR n (pW g.2.2.2.2 g.1))]) (fls:=λ_=>[]) (i+1,j+1,slA A c 1 4,c-1,aBm G i ((y.l.drop j).getD 0 default).v) ⟨⟨⟨hin,hjl⟩,λe he=>?_,λe he=>?_,step _ hg⟩,show n-(i+1)<n-i by omega⟩ rfl rfl trivial ⟨rfl,pJ y.l j _ _,rfl,rfl⟩ bL (aB (aP.2 λc hc=>mZ (xI c hc)) bJ) rfl⟩
   ·show e.1<((i+1:Nat):Int)
    have he':e∈es.take (j+1):=he
    rw[cS,aE hjl] at he'
    rcases aQ.1 he' with h|h
    ·have:=ht e h;omega
    have h:e=es[j]:=by simpa using h
    rw[h,<-gd (d:=default) hjl];omega
   show((i+1:Nat):Int)<=e.1
   have ha:Asc (es.drop j):=hv.1.sublist (qY j es)
   rw[xD hjl] at ha
   have:=ha.head e he
   have e3:(es.getD j default).1=(i:Nat):=e2
   omega
  replace h5:¬((0:Int)<((y.l.drop j).length:Nat)/\((y.l.drop j).getD 0 default).ix=(i:Nat)):=h5
  have hgt:∀e∈es.drop j,((i+1:Nat):Int)<=e.1:=λe he=>by
   have h6:=hd e he
   rcases dH j es.length with hjl|hjl
   ·have e1:=(hy.e j hjl).1
    rw[nA,e1] at h5
    have ha:Asc (es.drop j):=hv.1.sublist (qY j es)
    rw[xD hjl] at ha he
    have h7:=hd (es.getD j default) (by rw[xD hjl];exact .head _)
    have l0:(0:Int)<((y.l.drop j).length:Nat):=by omega
    have h8:¬(es.getD j default).1=(i:Nat):=λh=>h5 ⟨l0,h⟩
    rcases aW.1 he with rfl|he
    ·omega
    have:=ha.head e he;omega
   rw[bQ hjl] at he;cases he
  have h0:Vm.get es (i:Nat)=0:=lS λe he h=>by
   rw[<-dE j es] at he
   rcases aQ.1 he with h7|h7
   ·have:=ht e h7;omega
   have:=hgt e h7;omega
  refine⟨[],zN (z:=0) dC,rfl,rfl,rfl,λg hg=>⟨i,⟨rfl,hin,hlen⟩,_,put _,(i+1:Nat),wi,cH hM (chg:=λg:Nat×Nat×Option Addr×Nat×(Nat->RatM)=>[(42,.c (iC g.1)),(6,.c (bR ⟨g.2.2.1,g.2.2.2.1,y.l.drop g.2.1⟩)),(7,.c (.s 0 n)),(41,.c (iC n))]) (bls:=λg:Nat×Nat×Option Addr×Nat×(Nat->RatM)=>[(62,3,flatR n (pW g.2.2.2.2 g.1))]) (fls:=λ_=>[]) (i+1,j,A,c,aBm G i g) ⟨⟨⟨hin,hj⟩,λe he=>?_,hgt,step _ (by rw[h0];exact hg)⟩,show n-(i+1)<n-i by omega⟩ rfl rfl trivial ⟨rfl,rfl,rfl,rfl⟩ bL (aB (aP.2 λc hc=>mZ (xI c hc)) bJ) rfl⟩⟩
  show e.1<((i+1:Nat):Int)
  have:=ht e he
  omega
 replace h4:¬(i:Int)<(n:Nat):=h4
 obtain rfl:i=n:=by omega
 refine aKa 7 0 (λj=>((mC G i).getD j default).C) rfl rfl (λj hj=>?_) ?_ bL xI (aC _) λA c _ _=>aA gT mxd ⟨⟨A,c,mC G i⟩,aOq hG,aO ⟨bUt,tt trivial⟩ rfl trivial⟩
 ·show _=((flatR i (pW G i)).drop (j*3)).take 3
  rw[aIl];exact bEm j hj
 show i*3=(flatR i (pW G i)).length
 rw[qU λj _=>tZ j]
structure MatM where
 r:Int
 c:Int
 d:Sl (Sl EntM)
def oL (d:Sl (Sl EntM)):CV:=d.R 1 (λrow=>[bR row]) dK
def MatM.C (m:MatM):List CV:=[iC m.r,iC m.c,oL m.d]
structure Mk (m:MatM) (M:Nat->List En) (a b:Nat):Prop where
 r:m.r=(a:Nat)
 c:m.c=(b:Nat)
 ln:m.d.l.length=a
 row:∀i,i<a->Ek (m.d.l.getD i dK).l (M i)
 ok:∀i,i<a->VOk (M i) (b:Nat)/\(M i).length<=b
abbrev Mx (m:MatM) (M:Nat->List En) (n:Nat):Prop:=Mk m M n n
structure Mr (m:MatM) (M:Nat->List En) (a b B:Nat):Prop where
 r:m.r=(a:Nat)
 c:m.c=(b:Nat)
 ln:m.d.l.length=a
 row:∀i,i<a->Ev (m.d.l.getD i dK).l (M i) B
 ok:∀i,i<a->VOk (M i) (b:Nat)/\(M i).length<=b
def Mg (m:MatM) (M:Nat->List En) (B:Nat):Prop:=∀i,i<m.d.l.length->Ev (m.d.l.getD i dK).l (M i) B
def MOk (m:MatM) (M:Nat->List En):Prop:=(0<=m.r/\m.r<=16384)/\(0<=m.c/\m.c<=16384)/\((m.d.l.length:Nat):Int)=m.r/\∀i,i<m.d.l.length->VOk (M i) m.c
def rbM (M:Nat->List En) (n B:Nat):Prop:=∀i,i<n->rbE (M i) B
theorem Mk.mr {m:MatM} {M:Nat->List En} {a b B:Nat} (h:Mk m M a b) (hb:rbM M a B):Mr m M a b B:=⟨h.r,h.c,h.ln,λi hi=>(h.row i hi).ev (hb i hi),h.ok⟩
theorem Mr.mg {m:MatM} {M:Nat->List En} {a b B:Nat} (h:Mr m M a b B):Mg m M B:=λi hi=>h.row i (by have:=h.ln;omega)
theorem Mr.mok {m:MatM} {M:Nat->List En} {a b B:Nat} (h:Mr m M a b B) (ha:a<=4096) (hb:b<=4096):MOk m M:=by
 have h1:=h.r
 have h2:=h.c
 have h3:=h.ln
 exact⟨⟨by omega,by omega⟩,⟨by omega,by omega⟩,by omega,λi hi=>by rw[h2];exact(h.ok i oM).1⟩
abbrev bNe:FuncId:=176
theorem bZy:Ent Tryz.prog bNe:=aV func176 rfl kR
theorem bZz:Tryz.prog.funcs[bNe]? =some Tryz.f176:=func176
theorem bHk (z:Int):Ctr Tryz.prog bNe [] [.c (iC z)] [] (λ_:Unit=>⟨pC (0<=z/\z<=16384),[],True⟩):=by
 exact bE gT bZy bZz rfl rfl rfl bL aT (aA gT mxd ⟨(),trivial,aO oC rfl trivial⟩)
abbrev aOr:FuncId:=112
theorem bUv:Ent Tryz.prog aOr:=aV func112 rfl kR
theorem bUw:Tryz.prog.funcs[aOr]? =some Tryz.f112:=func112
abbrev mvG (m:MatM) (k:Nat):List (Nat×DV):=[(26,.c (iC k)),(1,.c (.p 0 0)),(24,.c (oL m.d)),(25,.c (iC (m.d.l.length:Nat)))]
theorem aXi (m:MatM) {M:Nat->List En} {B:Nat} (h:Mg m M B) (hB:B<=4398046511104) (hn:m.d.l.length<=4611686018427387904):Ctr Tryz.prog aOr [] [.a m.C] [] (λ_:Unit=>⟨pC (MOk m M),[],True⟩):=by
 refine bE gT bUv bUw rfl rfl rfl bL aT (aA gT mxd ⟨[],bHk m.r,rfl,rfl,rfl,λ_ _=>⟨λh2=>?_,λh1=>⟨[],bHk m.c,rfl,rfl,rfl,λ_ _=>⟨λh2=>aA gT mxd ?_,λh2=>aA gT mxd ?_⟩⟩⟩⟩)
 ·exact⟨(),trivial,aO (ff λh3=>h2 h3.1) rfl trivial⟩
 ·replace h2:¬(0<=m.c/\m.c<=16384)\/((m.d.l.length:Nat):Int)≠m.r:=h2
  exact⟨(),trivial,aO (ff λh3=>h2.elim (λh4=>h4 h3.2.1) λh4=>h4 h3.2.2.1) rfl trivial⟩
 replace h2:¬(¬(0<=m.c/\m.c<=16384)\/((m.d.l.length:Nat):Int)≠m.r):=h2
 refine dR (λ_=>true) (mvG m) (λ_=>[(24,0,m.C)]) (λ_=>[]) (λk=>k<=m.d.l.length/\∀i,i<k->VOk (M i) m.c) (λk=>m.d.l.length-k) λhM=>⟨cH hM (chg:=mvG m) (bls:=λ_=>[(24,0,m.C)]) (fls:=λ_=>[]) 0 ⟨aC _,λi hi=>absurd hi (aM _)⟩ rfl rfl trivial ⟨rfl,rfl,rfl,rfl⟩ bL (aB rfl bJ) rfl,λk ⟨hk,hv⟩=>aA gT mxd ⟨λh3=>aA gT mxd ?_,λh3=>aA gT mxd ?_⟩⟩
 ·replace h3:(k:Int)<(m.d.l.length:Nat):=h3
  have hkn:k<m.d.l.length:=by omega
  refine⟨k,⟨rfl,hkn⟩,[],aIi (m.d.l.getD k dK) m.c (h k hkn) hB,rfl,rfl,rfl,λ_ _=>⟨λh4=>aA gT mxd ?_,λh4=>aA gT mxd ?_⟩⟩
  ·exact⟨(),trivial,aO (ff λh5=>h4 (h5.2.2.2 k hkn)) rfl trivial⟩
  refine⟨(k+1:Nat),wi,cH hM (chg:=mvG m) (bls:=λ_=>[(24,0,m.C)]) (fls:=λ_=>[]) (k+1) ⟨⟨hkn,λi hi=>?_⟩,show m.d.l.length-(k+1)<m.d.l.length-k by omega⟩ rfl rfl trivial ⟨rfl,rfl,rfl,rfl⟩ bL (aB rfl bJ) rfl⟩
  rcases mM (rB hi) with h5|rfl
  ·exact hv i h5
  exact eO.1 h4
 replace h3:¬(k:Int)<(m.d.l.length:Nat):=h3
 exact aA gT mxd ⟨(),trivial,aO (tt ⟨eO.1 h1,bA λh4=>h2 (.inl h4),bA λh4=>h2 (.inr h4),λi hi=>hv i oM⟩) rfl trivial⟩
theorem aLm (m:MatM) {M:Nat->List En} {a b B:Nat} (h:Mr m M a b B) (hB:B<=4398046511104) (ha:a<=4096) (hb:b<=4096):Ctr Tryz.prog aOr [] [.a m.C] [] (λ_:Unit=>⟨pC True,[],True⟩):=
 (aXi m h.mg hB (by rw[h.ln];omega)).lo λ_ _=>⟨(),trivial,λρ n w v hv=>by
  have h2:=hv.tt (h.mok ha hb)
  exact .c (by rw[h2.inv_c.inv_v,<-decide_true (h:=Classical.propDecidable True)];exact Rc.b _ _),rfl,rfl⟩
abbrev bNf:FuncId:=118
theorem cAa:Ent Tryz.prog bNf:=aV func118 rfl kR
theorem cAb:Tryz.prog.funcs[bNf]? =some Tryz.f118:=func118
theorem bHl {x:TypeId×Nat×List CV} {T e:Nat} {l:List CV} (h:∀c∈l,fB c=true):ClB [false,true] [x,(T,e,l)]:=λi T' es' l' hi hc=>by
 match i,hi,hc with
 |0,_,hc=>cases hc
 |1,hi,_=>injection hi with hi;injection hi with _ hi;injection hi with _ hi;subst hi;exact h
theorem bUx (n k:Nat) (hn:n<=4096):Ctr Tryz.prog bNf [false,true] [.c (iC n),.c (iC k)] [] (λ_:Unit=>⟨.a [iC n,iC k,.s 1 n],[(24,0,[iC n,iC k,.s 1 n]),(65,1,List.replicate n (.v (.slice none 0 0)))],True⟩):=by
 refine bE gT cAa cAb rfl rfl rfl bL (λi T es l hi=>by cases hi) (aA gT mxd ⟨n,⟨rfl,rfl,by show 24*n<=_;omega,by simp only[maxLen];omega⟩,(),trivial,jW rfl ⟨rfl,rfl⟩ bL (aB rfl (aB ?_ bJ)) rfl (bHl λc hc=>by rw[(fP.1 hc).2];rfl)⟩)
 exact aP.2 λc hc=>by rw[(fP.1 hc).2];rfl
def dX (n:Nat) (P:Nat->CV):List CV:=(List.range n).map P
theorem dF {n:Nat} {P:Nat->CV}:(dX n P).length=n:=by unfold dX;simp
theorem eH {n j:Nat} {P:Nat->CV} (h:j<n):(dX n P)[j*1]? =some (P j):=by unfold dX;simp[h]
theorem dG {n j:Nat} {P:Nat->CV} (h:j<n):j*1<(dX n P).length:=by rw[dF];omega
theorem aXj {l:List CV} {j:Nat} {c:CV} (h:j<l.length):kD l (j*1) [c]=l.set j c:=by
 unfold kD
 rw[bZ,iQ,if_pos h]
 rfl
theorem jN {n j:Nat} {P Q:Nat->CV} {c:CV} (h:j<n) (hq:∀i,i<n->(if i=j then c else P i)=Q i):kD (dX n P) (j*1) [c]=dX n Q/\j*1+1<=(dX n P).length:=by
 refine⟨?_,by rw[dF];omega⟩
 rw[aXj (by rw[dF];exact h)]
 refine rZ (by simp[dX]) λi h1 h2=>?_
 have hi:i<n:=by simpa[dX] using h2
 have:=hq i hi
 have e1:(dX n Q)[i]=Q i:=by simp[dX]
 rw[List.getElem_set,e1,<-this]
 by_cases e:j=i
 ·subst e;simp
 rw[if_neg e,if_neg (fG e)];simp[dX]
theorem aBn {n:Nat} {P Q:Nat->CV} (h:∀i,i<n->P i=Q i):dX n P=dX n Q:=dW λi hi=>h i (cV.1 hi)
theorem aR {n:Nat} {P:Nat->CV} (h:∀j,j<n->fB (P j)=true):∀c∈dX n P,fB c=true:=λc hc=>by
 obtain⟨j,hj,rfl⟩:=bT.1 hc
 exact h j (cV.1 hj)
theorem aOs {φ:CV->CV} {l:List CV} (h:∀c,fB c=true->φ c=c) (hl:∀c∈l,fB c=true):l.map φ=l:=by
 induction l with
 |nil=>rfl
 |cons c l ih=>rw[dN,ih λc hc=>hl c (.tail _ hc),h c (hl c (.head _))]
theorem aXk {i:Nat} {A:Option Nat} {a:Nat} (c:CV) (h:fB c=true):nO i A a c=c:=by cases c<;>first|rfl|cases h
theorem aFr {F:Fam} {n:Nat} {P Q:Nat->CV} (h:∀j,j<n->FrC F (P j) (Q j)) (k:Nat) (c c':CV) (h1:(dX n P)[k]? =some c) (h2:(dX n Q)[k]? =some c'):c=c'\/FrC F c c':=by
 have hk:k<n:=by have:=cZ h1;rwa [dF] at this
 have e1:=eH (P:=P) hk
 have e2:=eH (P:=Q) hk
 rw[bZ] at e1 e2
 rw[h1] at e1;rw[h2] at e2
 injection e1 with e1;injection e2 with e2
 subst e1 e2
 exact .inr (h k hk)
theorem uA {F:Fam} {l:List CV} {k0:Nat} {c0 c1:CV} (hk:l[k0]? =some c0) (hf:FrC F c0 c1):∀(k:Nat) (c c':CV),l[k]? =some c->(l.set k0 c1)[k]? =some c'->c=c'\/FrC F c c':=λk c c' h1 h2=>by
 rcases kC h2 with ⟨rfl,rfl,_⟩|⟨_,h3⟩
 ·rw[hk] at h1
  injection h1 with h1
  subst h1
  exact .inr hf
 rw[h1] at h3
 injection h3 with h3
 exact .inl h3
abbrev hdP (A:Nat->Option Nat) (cap:Nat->Nat) (G:Nat->List EntM):Nat->CV:=λj=> .h (A j) (G j).length (cap j)
theorem aBo {A:Nat->Option Nat} {cap:Nat->Nat} {G:Nat->List EntM} {n j:Nat} {A':Option Nat} {c':Nat} {e:EntM} (h:j<n):kD (dX n (hdP A cap G)) (j*1) [.h A' ((G j).length+1) c']=dX n (hdP (upd A j A') (upd cap j c') (upd G j (G j++[e])))/\j*1+1<=(dX n (hdP A cap G)).length:=jN h λi _=>by
 by_cases he:i=j
 ·subst he;simp only[hdP,bP,if_true,aJ,bW]
 simp only[hdP,bK he,if_neg he]
theorem aFs {T n j:Nat} {A:Nat->Option Nat} {cap:Nat->Nat} {G:Nat->List EntM} {e:EntM}:(⟨T,4,n,A,cap,upd (λj=>ecs (G j)) j (ecs (G j)++e.C)⟩:Fam)=⟨T,4,n,A,cap,λi=>ecs (upd G j (G j++[e]) i)⟩:=by
 congr 1
 funext i
 by_cases he:i=j
 ·subst he;rw[bP,bP,oK]
 rw[bK he,bK he]
def hdS (A:Nat->Option Nat) (cap:Nat->Nat) (G:Nat->List EntM) (j:Nat):Sl EntM:=⟨(A j).map λb=>⟨b,0,none⟩,cap j,G j⟩
theorem bUy {T n:Nat} {A:Nat->Option Nat} {cap:Nat->Nat} {G:Nat->List EntM} (j:Nat) (hj:j<n):FrC ⟨T,4,n,A,cap,λj=>ecs (G j)⟩ (hdP A cap G j) (bR (hdS A cap G j)):=⟨j,(G j).length,_,hj,rfl,rfl,(fU _).symm,λk hk=>pV (G j) k hk⟩
def jE (S:Nat->Sl EntM) (n:Nat):List (Sl EntM):=(List.range n).map S
theorem rW {S:Nat->Sl EntM} {n j:Nat} (h:j<n):(jE S n).getD j dK=S j:=by unfold jE;simp[h]
theorem nT {S:Nat->Sl EntM} {n:Nat}:(jE S n).length=n:=by unfold jE;simp
theorem xJ {T n c:Nat} {A:Option Nat} {S:Nat->Sl EntM}:FrC ⟨T,1,1,λ_=>A,λ_=>c,λ_=>dX n λj=>bR (S j)⟩ (.h A n c) (oL ⟨A.map λb=>⟨b,0,none⟩,c,jE S n⟩):=⟨0,n,_,bL,rfl,by unfold oL Sl.R;rw[nT],by rw[dF,bZ],λk hk=>by
 show [bR ((jE S n).getD k dK)]=_
 rw[rW hk]
 have h1:=eH (P:=λj=>bR (S j)) hk
 rw[bZ] at h1
 rw[bZ,dV (by rw[dF];exact hk)]
 rw[aE (by rw[dF];exact hk)] at h1
 injection h1 with h1
 rw[h1];rfl⟩
def aFt (M:Nat->List En) (n:Nat) (j:Nat):List Rat:=(List.range n).map λi=>Vm.get (M i) (j:Nat)
theorem zR {M:Nat->List En} {n i j:Nat} (h:i<n):(aFt M n j).getD i 0=Vm.get (M i) (j:Nat):=by unfold aFt;simp[h]
def trM (M:Nat->List En) (n:Nat) (j:Nat):List En:=fdF (aFt M n j) n
theorem aOt {M:Nat->List En} {n i j:Nat} (hi:i<n):Vm.get (trM M n j) (i:Nat)=Vm.get (M i) (j:Nat):=by
 unfold trM
 rw[xG,if_pos oM,bU,zR hi]
theorem aFu {qs:List Rat} (n:Nat):VOk (fdF qs n) (n:Nat)/\(fdF qs n).length<=n:=⟨⟨xF n,λe he=>by
 obtain⟨i,h1,rfl,h3⟩:=yE e he
 exact⟨by show(0:Int)<=(i:Int);omega,by show(i:Int)<(n:Nat);omega,h3⟩⟩,zO n⟩
theorem aLn {qs:List Rat} {B k:Nat} (h:∀i,i<k->rb (qs.getD i 0) B):rbE (fdF qs k) B:=λe he=>by
 obtain⟨i,h1,rfl,_⟩:=yE e he
 exact h i h1
theorem bNg {M:Nat->List En} {n B j:Nat} (h1:1<=B) (hb:rbM M n B) (ha:∀i,i<n->Asc (M i)):rbE (trM M n j) B:=aLn λi hi=>by rw[zR hi];exact nS (ha i hi) (hb i hi) h1
open Classical in
noncomputable def lvl (es:List En) (i k j:Nat):Nat:=if ∃e∈es.take k,e.1=(j:Nat) then i+1 else i
theorem aXl {es:List En} {i j:Nat}:lvl es i 0 j=i:=if_neg λ⟨e,he,_⟩=>by cases he
theorem bNh {es:List En} {i k j:Nat} (hk:k<es.length) (h:(es.getD k default).1≠(j:Nat)):lvl es i (k+1) j=lvl es i k j:=by
 unfold lvl
 have e1:es.take (k+1)=es.take k++[es.getD k default]:=by rw[cS,aE hk,gd hk];rfl
 rw[e1]
 congr 1
 refine propext ⟨λ⟨e,he,h2⟩=>?_,λ⟨e,he,h2⟩=>⟨e,cP _ he,h2⟩⟩
 rcases aQ.1 he with he|he
 ·exact⟨e,he,h2⟩
 rw[aI.1 he] at h2;exact absurd h2 h
theorem bNi {es:List En} {i k j:Nat} (ha:Asc es) (hk:k<es.length) (h:(es.getD k default).1=(j:Nat)):lvl es i k j=i/\lvl es i (k+1) j=i+1:=by
 have e1:es.take (k+1)=es.take k++[es.getD k default]:=by rw[cS,aE hk,gd hk];rfl
 refine⟨if_neg λ⟨e,he,h2⟩=>?_,if_pos ⟨es.getD k default,by rw[e1];simp,h⟩⟩
 have h3:Asc (es.take (k+1)):=ha.sublist (gV _ _)
 rw[e1] at h3
 have:=(eP.1 h3).2.2 e he _ (.head _)
 omega
theorem bEn {es:List En} {i j:Nat} {qs:List Rat} (hq:qs.getD i 0=Vm.get es (j:Nat)):fdF qs (lvl es i es.length j)=fdF qs (i+1):=by
 unfold lvl
 rw[cU]
 split
 ·rfl
 next h=>
 have:qs.getD i 0=0:=hq.trans (lS λe he h2=>h ⟨e,he,h2⟩)
 show _=if qs.getD i 0=0 then fdF qs i else _
 rw[if_pos this]
abbrev trB (m:MatM) (a b:Nat) (H:List CV):BL:=[(24,0,m.C),(24,0,[iC 0,iC 0,.v (.slice none 0 0)]),(24,0,[iC b,iC a,.s 3 b]),(65,1,H),(24,0,[iC b,iC a,.s 3 b])]
theorem aBp {m:MatM} {a b:Nat} {P:Nat->CV} (h:∀j,j<b->fB (P j)=true):scB 5 (trB m a b (dX b P)):=aB rfl (aB rfl (aB rfl (aB (aP.2 λc hc=>mZ (aR h c hc)) (aB rfl bJ))))
abbrev trF (n:Nat) (A:Nat->Option Nat) (cap:Nat->Nat) (G:Nat->List EntM):Fam:=⟨82,4,n,A,cap,λj=>ecs (G j)⟩
abbrev trO (m:MatM) (n i:Nat):List (Nat×DV):=[(21,.c (iC i)),(2,.c (.p 1 0)),(4,.c (.p 4 0)),(19,.c (oL m.d)),(20,.c (iC (m.d.l.length:Nat)))]
abbrev trI (m:MatM) (n i k:Nat):List (Nat×DV):=(28,.c (iC k))::(5,.c (iC i))::(26,.c (bR (m.d.l.getD i dK)))::(27,.c (iC ((m.d.l.getD i dK).l.length:Nat)))::trO m n i
def oTr:Ord:=.joinX [] [2000,1,2002,3,2004,5,2006,7,2008,2010,2011,12] (.alt 9 (trS [13,2014,15,16,2017,18]) (.alt 13 (.alt 2014 (.alt 9 (trS [15,16,2017,18]) (.alt 15 (trS [9,16,2017,18]) .nil)) .nil) .nil))
abbrev aXm:FuncId:=47
theorem cAc:Ent Tryz.prog aXm:=aV func47 rfl kR
theorem cAd:Tryz.prog.funcs[aXm]? =some Tryz.f47:=func47
theorem aK {i j:Nat} (c:CV) (h:fB c=true):swC i j c=c:=by cases c<;>first|rfl|cases h
theorem cI {l:List CV} {n:Nat} (h:∀c∈l,fB c=true):l.all (scC n)=true:=aP.2 λc hc=>mZ (h c hc)
def cAe (own:Bool) (M:Nat->List En) (a b:Nat) (g:MatM×(Nat->Sl EntM)):Out:=match own with
 |true=>⟨.t [.a [iC b,iC a,.s 0 b],.c (iC 0)],[(65,1,dX b λj=>bR (g.2 j))],∀j,j<b->Ek (g.2 j).l (trM M a j)⟩
 |false=>⟨.t [.a g.1.C,.c (iC 0)],[],Mk g.1 (trM M a) b a⟩
theorem aLo {i j n:Nat} {P:Nat->CV} (h:∀j,j<n->fB (P j)=true):(dX n P).map (swC i j)=dX n P:=(dW λc hc=>aK c (aR h c hc)).trans (List.map_id _)
theorem bHm (own:Bool) (m:MatM) {M:Nat->List En} {a b B:Nat} (h:Mr m M a b B) (hB:B<=4398046511104) (ha:a<=4096) (hb:b<=4096):Ctr Tryz.prog aXm [true] [.a m.C] [] (cAe own M a b):=by
 obtain⟨mr,mc,md⟩:=m
 obtain rfl:mr=(a:Nat):=h.r
 obtain rfl:mc=(b:Nat):=h.c
 have hl:md.l.length=a:=h.ln
 refine bE gT cAc cAd rfl rfl rfl bL (λi T es l hi=>by cases hi) (aA gT mxd ⟨[],aLm _ h hB ha hb,rfl,rfl,rfl,λ_ _=>⟨λh2=>absurd trivial h2,λ_=>aA gT mxd ⟨[],bUx b a hb,rfl,rfl,rfl,λ_ _=>?_⟩⟩⟩)
 show Sd _ _ _ _ _ _
 refine aQx tSd 82 4 b bL (iS tSd (l:=List.replicate b (.v (.slice none 0 0))) 3 (dX b (hdP (λ_=>none) (λ_=>0) λ_=>[])) rfl (by rw[dF,cT]) (λk c c' h1 h2=>?_) ?_)
 ·have hk:k<b:=by have:=cZ h1;simpa using this
  have h3:=eH (P:=hdP (λ_=>none) (λ_=>0) λ_=>[]) hk
  rw[bZ,h2] at h3
  injection h3 with h3
  rw[h3,(fP.1 (aN h1)).2]
  exact LeC.nilh
 refine dR (λ_=>true) (λg:Nat×(Nat->Option Nat)×(Nat->Nat)×(Nat->List EntM)=>trO ⟨a,b,md⟩ b g.1) (λg=>trB ⟨a,b,md⟩ a b (dX b (hdP g.2.1 g.2.2.1 g.2.2.2))) (λg=>[trF b g.2.1 g.2.2.1 g.2.2.2]) (λg=>g.1<=a/\∀j,j<b->Ek (g.2.2.2 j) (fdF (aFt M a j) g.1)) (λg=>a-g.1) λhM=>⟨cH hM (chg:=λg:Nat×(Nat->Option Nat)×(Nat->Nat)×(Nat->List EntM)=>trO ⟨a,b,md⟩ b g.1) (bls:=λg=>trB ⟨a,b,md⟩ a b (dX b (hdP g.2.1 g.2.2.1 g.2.2.2))) (fls:=λg=>[trF b g.2.1 g.2.2.1 g.2.2.2]) (0,λ_=>none,λ_=>0,λ_=>[]) ⟨aC _,λj _=>⟨rfl,λk hk=>absurd hk (aM _)⟩⟩ rfl ⟨rfl,rfl,rfl,rfl,rfl⟩ ⟨rfl,trivial⟩ ⟨rfl,rfl,rfl,rfl,rfl⟩ bL (aBp λ_ _=>rfl) rfl,λ⟨i,A,cap,G⟩ ⟨hi,hG⟩=>aA gT mxd ⟨λh2=>aA gT mxd ?_,λh2=>aA gT mxd ?_⟩⟩
 all_goals
  replace hi:i<=a:=hi
  replace hG:∀j,j<b->Ek (G j) (fdF (aFt M a j) i):=hG
 ·replace h2:(i:Int)<(md.l.length:Nat):=h2
  have hin:i<a:=by omega
  refine⟨i,⟨rfl,show i<md.l.length by omega⟩,?_⟩
  show Sd _ _ _ _ _ _
  have hes:=h.row i hin
  have hok:=h.ok i hin
  have hle:(md.l.getD i dK).l.length=(M i).length:=hes.ln
  refine dR (λ_=>true) (λg:Nat×(Nat->Option Nat)×(Nat->Nat)×(Nat->List EntM)=>trI ⟨a,b,md⟩ b i g.1) (λg=>trB ⟨a,b,md⟩ a b (dX b (hdP g.2.1 g.2.2.1 g.2.2.2))) (λg=>[trF b g.2.1 g.2.2.1 g.2.2.2]) (λg=>g.1<=(M i).length/\∀j,j<b->Ek (g.2.2.2 j) (fdF (aFt M a j) (lvl (M i) i g.1 j))) (λg=>(M i).length-g.1) λhM2=>⟨cH hM2 (chg:=λg:Nat×(Nat->Option Nat)×(Nat->Nat)×(Nat->List EntM)=>trI ⟨a,b,md⟩ b i g.1) (bls:=λg=>trB ⟨a,b,md⟩ a b (dX b (hdP g.2.1 g.2.2.1 g.2.2.2))) (fls:=λg=>[trF b g.2.1 g.2.2.1 g.2.2.2]) (0,A,cap,G) ⟨aC _,λj hj=>by rw[aXl];exact hG j hj⟩ rfl ⟨rfl,rfl,rfl,rfl,rfl⟩ ⟨rfl,trivial⟩ ⟨rfl,rfl,rfl,rfl,rfl,rfl,rfl,rfl,rfl⟩ bL (aBp λ_ _=>rfl) rfl,λ⟨k,A,cap,G⟩ ⟨hk,hG⟩=>aA gT mxd ⟨λh3=>aA gT mxd ?_,λh3=>aA gT mxd ?_⟩⟩
  all_goals
   replace hk:k<=(M i).length:=hk
   replace hG:∀j,j<b->Ek (G j) (fdF (aFt M a j) (lvl (M i) i k j)):=hG
  ·replace h3:(k:Int)<((md.l.getD i dK).l.length:Nat):=h3
   have hkl:k<(M i).length:=by omega
   have hm:=gW hkl
   have he:=hes.e k hkl
   have e0:=hok.1.2 _ hm
   obtain⟨j0,hj0⟩:∃j0:Nat,((M i).getD k default).1=(j0:Nat):=⟨((M i).getD k default).1.toNat,by omega⟩
   have hj:j0<b:=by omega
   have hix:((md.l.getD i dK).l.getD k default).ix=(j0:Nat):=he.1.trans hj0
   have hlv:=bNi (i:=i) hok.1.1 hkl hj0
   have lG:(G j0).length<=i:=by rw[(hG j0 hj).ln,hlv.1];exact zO i
   have fin:∀(g:RatM) (A':Option Nat) (c':Nat) (sl:List (Nat×DV)) (r:BL),vM (λ_=>true) [] [] [] sl->Cr g ((M i).getD k default).2->AllC sl (trI ⟨a,b,md⟩ b i k)->Gt 0 ⟨sl,[],trB ⟨a,b,md⟩ a b (kD (dX b (hdP A cap G)) (j0*1) [.h A' ((G j0).length+1) c'])++r,[⟨82,4,b,upd A j0 A',upd cap j0 c',upd (λj=>ecs (G j)) j0 (ecs (G j0)++(⟨i,g⟩:EntM).C)⟩]⟩ (σ:=(Nat->Option Nat)×(Nat->Nat)×RatM) (λg=>⟨trI ⟨a,b,md⟩ b i k++[],[],trB ⟨a,b,md⟩ a b (dX b (hdP g.1 g.2.1 (upd G j0 (G j0++[⟨i,g.2.2⟩])))),[trF b g.1 g.2.1 (upd G j0 (G j0++[⟨i,g.2.2⟩]))]⟩) (λg=>Cr g.2.2 ((M i).getD k default).2):=λg A' c' sl r ht hg hall=>by
    rw[(aBo hj).1,aFs]
    refine @cH _ _ _ _ hM2 _ (λ_:(Nat->Option Nat)×(Nat->Nat)×RatM=>trI ⟨a,b,md⟩ b i k) (λg=>trB ⟨a,b,md⟩ a b (dX b (hdP g.1 g.2.1 (upd G j0 (G j0++[⟨i,g.2.2⟩]))))) (λg=>[trF b g.1 g.2.1 (upd G j0 (G j0++[⟨i,g.2.2⟩]))]) _ (upd A j0 A',upd cap j0 c',g) ?_ ?_ ?_ ?_ ?_ ?_ ?_ ?_
    ·exact hg
    ·exact ht
    ·exact⟨rfl,rfl,rfl,rfl,rfl⟩
    ·exact⟨rfl,trivial⟩
    ·exact hall
    ·exact aC _
    ·exact aBp λ_ _=>rfl
    rfl
   have apd:∀(g:RatM),(G j0).length+1<=maxLen/\((G j0).length+1)*64<=140737488355328/\∀c∈(⟨i,g⟩:EntM).C,fB c=true:=λg=>⟨by simp only[maxLen];omega,by omega,λc hc=>by
    rcases aW.1 hc with rfl|hc
    ·rfl
    exact gJ _ c hc⟩
   refine⟨k,⟨rfl,show k<(md.l.getD i dK).l.length by omega⟩,oTr,by kernel_rfl,(Nat->Option Nat)×(Nat->Nat)×RatM,λg=>⟨trI ⟨a,b,md⟩ b i k++[],[],trB ⟨a,b,md⟩ a b (dX b (hdP g.1 g.2.1 (upd G j0 (G j0++[⟨i,g.2.2⟩])))),[trF b g.1 g.2.1 (upd G j0 (G j0++[⟨i,g.2.2⟩]))]⟩,λg=>Cr g.2.2 ((M i).getD k default).2,⟨j0,⟨hix,hj,dG hj⟩,⟨_,eH hj,rfl,?_⟩,?_⟩,λ_ _=>?_⟩
   ·exact⟨[],pI ((md.l.getD i dK).l.getD k default).v (he.2.le hB),rfl,rfl,rfl,λg hg=>⟨rfl,rfl,0,j0,⟨⟨rfl,hj,rfl,rfl,(fU _).symm,(apd g).1,(apd g).2.1,(apd g).2.2⟩,λA' c'=>⟨rfl,j0,⟨hix,hj,dG hj⟩,_,⟨rfl,(aBo (A':=none) (c':=0) (e:=default) hj).2⟩,rfl,fin g A' c' _ _ (by rfl) hg (by exact⟨rfl,rfl,rfl,rfl,rfl,rfl,rfl,rfl,rfl⟩)⟩⟩⟩⟩
   ·exact⟨[],pI ((md.l.getD i dK).l.getD k default).v (he.2.le hB),rfl,rfl,rfl,λg hg=>⟨rfl,⟨_,eH hj,rfl,rfl,0,j0,⟨⟨rfl,hj,rfl,rfl,(fU _).symm,(apd g).1,(apd g).2.1,(apd g).2.2⟩,λA' c'=>⟨rfl,j0,⟨hix,hj,dG hj⟩,_,⟨rfl,(aBo (A':=none) (c':=0) (e:=default) hj).2⟩,rfl,fin g A' c' _ _ (by rfl) hg (by exact⟨rfl,rfl,rfl,rfl,rfl,rfl,rfl,rfl,rfl⟩)⟩⟩⟩,rfl,_,eH hj,rfl,0,j0,⟨⟨rfl,hj,rfl,rfl,(fU _).symm,(apd g).1,(apd g).2.1,(apd g).2.2⟩,λA' c'=>⟨rfl,j0,⟨hix,hj,dG hj⟩,_,⟨rfl,(aBo (A':=none) (c':=0) (e:=default) hj).2⟩,rfl,fin g A' c' _ _ (by rfl) hg (by exact⟨rfl,rfl,rfl,rfl,rfl,rfl,rfl,rfl,rfl⟩)⟩⟩⟩⟩
   next g hg=>
   exact⟨(k+1:Nat),wi,cH hM2 (chg:=λg:Nat×(Nat->Option Nat)×(Nat->Nat)×(Nat->List EntM)=>trI ⟨a,b,md⟩ b i g.1) (bls:=λg=>trB ⟨a,b,md⟩ a b (dX b (hdP g.2.1 g.2.2.1 g.2.2.2))) (fls:=λg=>[trF b g.2.1 g.2.2.1 g.2.2.2]) (k+1,g.1,g.2.1,upd G j0 (G j0++[⟨i,g.2.2⟩])) ⟨⟨hkl,λj hjn=>by
    show Ek (upd G j0 (G j0++[⟨i,g.2.2⟩]) j) (fdF (aFt M a j) (lvl (M i) i (k+1) j))
    by_cases hjj:j=j0
    ·subst hjj
     rw[bP,hlv.2]
     have hq:Vm.get (M i) (j:Nat)=((M i).getD k default).2:=by rw[<-hj0];exact vF hok.1.1 hm
     show Ek _ (if _ then _ else _)
     rw[zR hin,hq,if_neg e0.2.2]
     have:=hG j hjn
     rw[hlv.1] at this
     exact vE this hg
    rw[bK hjj,bNh hkl (by rw[hj0];omega)];exact hG j hjn⟩,show(M i).length-(k+1)<(M i).length-k by omega⟩ rfl ⟨rfl,rfl,rfl,rfl,rfl⟩ ⟨rfl,trivial⟩ ⟨rfl,rfl,rfl,rfl,rfl,rfl,rfl,rfl,rfl⟩ bL (aBp λ_ _=>rfl) rfl⟩
  replace h3:¬(k:Int)<((md.l.getD i dK).l.length:Nat):=h3
  obtain rfl:k=(M i).length:=by omega
  exact⟨(i+1:Nat),wi,cH hM (chg:=λg:Nat×(Nat->Option Nat)×(Nat->Nat)×(Nat->List EntM)=>trO ⟨a,b,md⟩ b g.1) (bls:=λg=>trB ⟨a,b,md⟩ a b (dX b (hdP g.2.1 g.2.2.1 g.2.2.2))) (fls:=λg=>[trF b g.2.1 g.2.2.1 g.2.2.2]) (i+1,A,cap,G) ⟨⟨hin,λj hj=>by
   have:=hG j hj
   rw[bEn (zR hin)] at this
   exact this⟩,show a-(i+1)<a-i by omega⟩ rfl ⟨rfl,rfl,rfl,rfl,rfl⟩ ⟨rfl,trivial⟩ ⟨rfl,rfl,rfl,rfl,rfl⟩ bL (aBp λ_ _=>rfl) rfl⟩
 replace h2:¬(i:Int)<(md.l.length:Nat):=h2
 obtain rfl:i=a:=by omega
 show Sd _ _ _ _ _ _
 refine tE tSd 3 0 (dX b λj=>bR (hdS A cap G j)) rfl rfl rfl (by rw[dF,dF]) (aFr bUy) ?_
 have hE:∀j,j<b->Ek (hdS A cap G j).l (trM M i j):=(‹_/\_›:_/\∀j,j<b->Ek (G j) (fdF (aFt M i j) i)).2
 cases own with
 |true=>
  refine aId tSd 0 3 rfl rfl bL bL rfl ⟨_,aLo λ_ _=>rfl,bL,aA gT mxd ⟨(⟨0,0,dK⟩,hdS A cap G),hE,jW ⟨rfl,rfl⟩ rfl bL (aB (cI (aR λ_ _=>rfl)) bJ) rfl (ClB.one (aP.2 (aR λ_ _=>rfl)))⟩⟩
 |false=>
  refine vN tSd 3 rfl bL (aR λ_ _=>rfl) bL rfl λA2 c2=>?_
  refine tE tSd 4 1 [iC b,iC i,oL ⟨A2.map λb=>⟨b,0,none⟩,c2,jE (hdS A cap G) b⟩] rfl rfl rfl rfl (uA (k0:=2) rfl xJ) (aA gT mxd ⟨(⟨b,i,⟨A2.map λb=>⟨b,0,none⟩,c2,jE (hdS A cap G) b⟩⟩,λ_=>dK),⟨rfl,rfl,nT,λj hj=>?_,λj hj=>aFu i⟩,aO ⟨rfl,rfl⟩ rfl trivial⟩)
  show Ek ((jE (hdS A cap G) b).getD j dK).l _
  rw[rW hj]
  exact hE j hj
theorem aOu (m:MatM) {M:Nat->List En} {a b B:Nat} (h:Mr m M a b B) (hB:B<=4398046511104) (ha:a<=4096) (hb:b<=4096):Ctr Tryz.prog aXm [true] [.a m.C] [] (λg:MatM=>⟨.t [.a g.C,.c (iC 0)],[],Mk g (trM M a) b a⟩):=(bHm false m h hB ha hb).re λg hg=>⟨g.1,hg,rfl,rfl,rfl⟩
theorem bUz (m:MatM) {M:Nat->List En} {a b B:Nat} (h:Mr m M a b B) (hB:B<=4398046511104) (ha:a<=4096) (hb:b<=4096):Ctr Tryz.prog aXm [true] [.a m.C] [] (λg:Nat->Sl EntM=>⟨.t [.a [iC b,iC a,.s 0 b],.c (iC 0)],[(65,1,dX b λj=>bR (g j))],∀j,j<b->Ek (g j).l (trM M a j)⟩):=(bHm true m h hB ha hb).re λg hg=>⟨g.2,hg,rfl,rfl,rfl⟩
section
variable {α:Type} {f:α->List CV} {d:α} {L:List α} {e:Nat}
def fl (f:α->List CV) (d:α) (L:List α):List CV:=flatR L.length λj=>f (L.getD j d)
theorem bEo {x:α}:fl f d L++f x=fl f d (L++[x]):=by
 unfold fl
 rw[aJ,bW,fX]
 have h1:(L++[x]).getD L.length d=x:=by simp[List.getD]
 rw[h1,lI (Q:=λj=>f ((L++[x]).getD j d)) λj hj=>by simp[List.getD,bO hj]]
theorem aXn (h:∀x,∀c∈f x,fB c=true):∀c∈fl f d L,fB c=true:=vW (λ_=>h _) _
theorem aFv (h:∀x,(f x).length=e):(fl f d L).length=L.length*e:=qU λ_ _=>h _
theorem aXo (h:∀x,(f x).length=e) (j:Nat) (hj:j<L.length):f (L.getD j d)=((fl f d L).drop (j*e)).take e:=(aFn (P:=λj=>f (L.getD j d)) (λ_ _=>h _) hj).symm
end
theorem aXp {i:Nat} (g:RatM):∀c∈g.C,kE i c=false:=λc hc=>gI (gJ g c hc)
abbrev bNj:FuncId:=153
theorem cAf:Ent Tryz.prog bNj:=aV func153 rfl kR
theorem cAg:Tryz.prog.funcs[bNj]? =some Tryz.f153:=func153
theorem bVa (x y:IntM) {z:Int} (hx:Ci x z) (hy:Ci y z):Ctr Tryz.prog bNj [] [.a x.C,.a y.C] [] (λ_:Unit=>⟨pC True,[],True⟩):=by
 have hp:x.p↔y.p:=hx.1.trans hy.1.symm
 have hm:x.m.l=y.m.l:=hx.2.trans hy.2.symm
 exact bE gT cAf cAg rfl rfl rfl bL aT (aA gT mxd ⟨λ_=>⟨[],aEh x.m y.m,rfl,rfl,rfl,λ_ _=>⟨(),trivial,aO ⟨λ_=>trivial,λ_=>hm⟩ rfl trivial⟩⟩,λh=>absurd hp h⟩)
abbrev bNk:FuncId:=92
theorem cAh:Ent Tryz.prog bNk:=aV func92 rfl kR
theorem cAi:Tryz.prog.funcs[bNk]? =some Tryz.f92:=func92
theorem aXq (x y:RatM) {q:Rat} (hx:Cr x q) (hy:Cr y q):Ctr Tryz.prog bNk [] [.a x.C,.a y.C] [] (λ_:Unit=>⟨pC True,[],True⟩):=by
 have hm:x.d.l=y.d.l:=hx.2.trans hy.2.symm
 refine bE gT cAh cAi rfl rfl rfl bL aT (aA gT mxd ⟨[],bVa x.n y.n hx.1 hy.1,rfl,rfl,rfl,λ_ _=>⟨λ_=>⟨[],aEh x.d y.d,rfl,rfl,rfl,λ_ _=>⟨(),trivial,aO ⟨λ_=>trivial,λ_=>hm⟩ rfl trivial⟩⟩,λh=>absurd trivial h⟩⟩)
abbrev aXr:FuncId:=91
theorem bVb:Ent Tryz.prog aXr:=aV func91 rfl kR
theorem bVc:Tryz.prog.funcs[aXr]? =some Tryz.f91:=func91
theorem aLp (x:RatM) {q:Rat} (hx:Cr x q) (hb:rb q 13194139533312):Ctr Tryz.prog aXr [] [.a x.C] [] (λ_:Unit=>⟨pC True,[],True⟩):=by
 refine bE gT bVb bVc rfl rfl rfl bL aT (aA gT mxd ⟨.seq (sq 99 (List.range 5)),by kernel_rfl,[],fT x (hx.rq hb),rfl,rfl,rfl,λg hg=>⟨[],aXq x g hx hg,rfl,rfl,rfl,λ_ _=>⟨(),trivial,aO oC rfl trivial⟩⟩⟩)
abbrev aLq:FuncId:=37
theorem bNl:Ent Tryz.prog aLq:=aV func37 rfl kR
theorem bNm:Tryz.prog.funcs[aLq]? =some Tryz.f37:=func37
theorem bEp (x y:Sl RatM) {qs:List Rat} (hx:Rl x.l qs) (hy:Rl y.l qs) (hb:rbL qs 13194139533312) (hn:qs.length<=4096):Ctr Tryz.prog aLq [] [.c (fZ x),.c (fZ y)] [] (λ_:Unit=>⟨pC True,[],True⟩):=by
 have lx:=hx.ln
 have ly:=hy.ln
 refine bE gT bNl bNm rfl rfl rfl bL aT (aA gT mxd ⟨λh=>aA gT mxd ?_,λ_=>aA gT mxd ?_⟩)
 ·replace h:((x.l.length:Nat):Int)≠(y.l.length:Nat):=h
  omega
 refine dR (λ_=>true) (λk:Nat=>[(5,.c (iC k)),(0,.c (fZ x)),(1,.c (fZ y))]) (λ_=>[]) (λ_=>[]) (λk=>k<=qs.length) (λk=>qs.length-k) λhM=>⟨cH hM (chg:=λk:Nat=>[(5,.c (iC k)),(0,.c (fZ x)),(1,.c (fZ y))]) (bls:=λ_=>[]) (fls:=λ_=>[]) 0 (aC _) rfl trivial trivial ⟨rfl,rfl,rfl⟩ bL bJ rfl,λk hk=>aA gT mxd ⟨λh1=>aA gT mxd ?_,λh1=>aA gT mxd ?_⟩⟩
 all_goals replace hk:k<=qs.length:=hk
 ·have hkl:k<qs.length:=by replace h1:(k:Int)<(x.l.length:Nat):=h1;omega
  have kx:k<x.l.length:=by omega
  have ky:k<y.l.length:=by omega
  have no:∀{p:Prop},¬True->p:=λh=>absurd trivial h
  exact⟨.seq (sq 99 (List.range 26)),by kernel_rfl,k,⟨rfl,kx⟩,[],aLp _ (hx.e k hkl) (hb _ (gD0 hkl)),rfl,rfl,rfl,λ_ _=>⟨k,λ_=>⟨rfl,ky⟩,λh=>absurd trivial h,λ_=>⟨[],aLp _ (hy.e k hkl) (hb _ (gD0 hkl)),rfl,rfl,rfl,λ_ _=>⟨k,λ_=>⟨rfl,kx⟩,k,λ_=>⟨rfl,ky⟩,λh=>absurd trivial h,λ_=>⟨[],aXq _ _ (hx.e k hkl) (hy.e k hkl),rfl,rfl,rfl,λ_ _=>⟨λh=>absurd trivial h,λ_=>aA gT mxd ⟨(k+1:Nat),wi,cH hM (chg:=λk:Nat=>[(5,.c (iC k)),(0,.c (fZ x)),(1,.c (fZ y))]) (bls:=λ_=>[]) (fls:=λ_=>[]) (k+1) ⟨hkl,show qs.length-(k+1)<qs.length-k by omega⟩ rfl trivial trivial ⟨rfl,rfl,rfl⟩ bL bJ rfl⟩⟩⟩⟩⟩⟩⟩
 exact aA gT mxd ⟨(),trivial,aO (tt trivial) rfl trivial⟩
theorem bNn {es:List En} {k:Nat} {i:Int} (hk:k<es.length):Vm.get (es.take (k+1)) i=Vm.get (es.take k) i+(if (es.getD k default).1=i then (es.getD k default).2 else 0):=by
 have e1:es.take (k+1)=es.take k++[es.getD k default]:=by rw[cS,aE hk,gd hk];rfl
 rw[e1,mL]
 show _+(_+0)=_
 rw[cG]
theorem bNo {es:List En} {k B:Nat} (h:rbE es B):rbE (es.take k) B:=λe he=>h e (cW he)
abbrev aXs:FuncId:=149
theorem bVd:Ent Tryz.prog aXs:=aV func149 rfl kR
theorem bVe:Tryz.prog.funcs[aXs]? =some Tryz.f149:=func149
abbrev geG (x:Sl EntM) (i:Int) (k:Nat):List (Nat×DV):=[(6,.c (iC k)),(0,.c (bR x)),(1,.c (iC i)),(4,.c (.p 0 0)),(5,.c (.p 1 0))]
abbrev geB (g:RatM):BL:=[(62,0,sS),(62,0,g.C)]
theorem aLr {g:RatM}:scB 2 (geB g):=aB rfl (aB rfl bJ)
theorem aXt (x:Sl EntM) (i:Int) {es:List En} {B:Nat} (h:Ev x.l es B) (ha:Asc es) (hb:rbE es B) (h1:1<=B) (hB:B<=4398046511104) (hn:es.length<=4096):Ctr Tryz.prog aXs [] [.c (bR x),.c (iC i)] [] (rG (Vm.get es i)):=by
 have hl:=h.ln
 refine bE gT bVd bVe rfl rfl rfl bL aT (aA gT mxd ⟨[],aFc,rfl,rfl,rfl,λz hz=>?_⟩)
 refine dR (λ_=>true) (λg:Nat×RatM=>geG x i g.1) (λg=>geB g.2) (λ_=>[]) (λg=>g.1<=es.length/\Cr g.2 (Vm.get (es.take g.1) i)) (λg=>es.length-g.1) λhM=>⟨cH hM (chg:=λg:Nat×RatM=>geG x i g.1) (bls:=λg=>geB g.2) (fls:=λ_=>[]) (0,z) ⟨aC _,hz⟩ rfl ⟨rfl,rfl⟩ trivial ⟨rfl,rfl,rfl,rfl,rfl⟩ bL aLr rfl,λ⟨k,g⟩ ⟨hk,hg⟩=>aA gT mxd ⟨λh2=>aA gT mxd ?_,λh2=>aA gT mxd ?_⟩⟩
 all_goals
  replace hk:k<=es.length:=hk
  replace hg:Cr g (Vm.get (es.take k) i):=hg
 ·have hkl:k<es.length:=by replace h2:(k:Int)<(x.l.length:Nat):=h2;omega
  have kx:k<x.l.length:=by omega
  have he:=h.e k hkl
  have e1:=bNn (i:=i) hkl
  have rq:∀{r:RatM} {q:Rat},Cr r q->rb q B->Rq r q 4398046511104:=λhr hb=>(Cr.rq hr hb).le hB
  refine⟨k,⟨rfl,kx⟩,λh3=>aA gT mxd ?_,λh3=>aA gT mxd ?_⟩
  ·replace h3:(x.l.getD k default).ix=i:=h3
   rw[he.1] at h3
   rw[if_pos h3] at e1
   exact⟨.seq (sq 7 (List.range 8)),by kernel_rfl,k,⟨rfl,kx⟩,[],aWj g (x.l.getD k default).v (rq hg (nS (ha.sublist (gV k es)) (bNo hb) h1)) (he.2.le hB),rfl,rfl,rfl,λr hr=>⟨(k+1:Nat),wi,cH hM (chg:=λg:Nat×RatM=>geG x i g.1) (bls:=λg=>geB g.2) (fls:=λ_=>[]) (k+1,r) ⟨⟨hkl,by show Cr r (Vm.get (es.take (k+1)) i);rw[e1];exact hr⟩,show es.length-(k+1)<es.length-k by omega⟩ rfl ⟨rfl,rfl⟩ trivial ⟨rfl,rfl,rfl,rfl,rfl⟩ bL aLr rfl⟩⟩
  replace h3:¬(x.l.getD k default).ix=i:=h3
  rw[he.1] at h3
  rw[if_neg h3,cG] at e1
  exact⟨(k+1:Nat),wi,cH hM (chg:=λg:Nat×RatM=>geG x i g.1) (bls:=λg=>geB g.2) (fls:=λ_=>[]) (k+1,g) ⟨⟨hkl,by show Cr g (Vm.get (es.take (k+1)) i);rw[e1];exact hg⟩,show es.length-(k+1)<es.length-k by omega⟩ rfl ⟨rfl,rfl⟩ trivial ⟨rfl,rfl,rfl,rfl,rfl⟩ bL aLr rfl⟩
 replace h2:¬(k:Int)<(x.l.length:Nat):=h2
 obtain rfl:k=es.length:=by omega
 rw[cU] at hg
 exact aA gT mxd ⟨g,hg,aO rfl rfl trivial⟩
abbrev aXu:FuncId:=50
theorem bVf:Ent Tryz.prog aXu:=aV func50 rfl kR
theorem bVg:Tryz.prog.funcs[aXu]? =some Tryz.f50:=func50
abbrev idG (x y:Sl EntM) (k:Nat):List (Nat×DV):=[(5,.c (iC k)),(0,.c (bR x)),(1,.c (bR y))]
theorem bNp (x y:Sl EntM) {es:List En} (hx:Ek x.l es) (hy:Ek y.l es) (hb:rbE es 13194139533312) (hn:es.length<=4096):Ctr Tryz.prog aXu [] [.c (bR x),.c (bR y)] [] (λ_:Unit=>⟨pC True,[],True⟩):=by
 have lx:=hx.ln
 have ly:=hy.ln
 refine bE gT bVf bVg rfl rfl rfl bL aT (aA gT mxd ⟨λh=>aA gT mxd ?_,λ_=>aA gT mxd ?_⟩)
 ·replace h:((x.l.length:Nat):Int)≠(y.l.length:Nat):=h
  omega
 refine dR (λ_=>true) (idG x y) (λ_=>[]) (λ_=>[]) (λk=>k<=es.length) (λk=>es.length-k) λhM=>⟨cH hM (chg:=idG x y) (bls:=λ_=>[]) (fls:=λ_=>[]) 0 (aC _) rfl trivial trivial ⟨rfl,rfl,rfl⟩ bL bJ rfl,λk hk=>aA gT mxd ⟨λh1=>aA gT mxd ?_,λh1=>aA gT mxd ?_⟩⟩
 all_goals replace hk:k<=es.length:=hk
 ·have hkl:k<es.length:=by replace h1:(k:Int)<(x.l.length:Nat):=h1;omega
  have kx:k<x.l.length:=by omega
  have ky:k<y.l.length:=by omega
  have ex:=hx.e k hkl
  have ey:=hy.e k hkl
  exact⟨.seq (sq 99 (List.range 34)),by kernel_rfl,k,⟨rfl,kx⟩,k,⟨rfl,ky⟩,k,λ_=>⟨rfl,kx⟩,λh=>absurd (ex.1.trans ey.1.symm) h,λ_=>⟨[],aLp _ ex.2 (hb _ (gW hkl)),rfl,rfl,rfl,λ_ _=>⟨k,λ_=>⟨rfl,kx⟩,k,λ_=>⟨rfl,ky⟩,λh=>absurd trivial h,λ_=>⟨[],aXq _ _ ex.2 ey.2,rfl,rfl,rfl,λ_ _=>⟨λh=>absurd trivial h,λ_=>aA gT mxd ⟨(k+1:Nat),wi,cH hM (chg:=idG x y) (bls:=λ_=>[]) (fls:=λ_=>[]) (k+1) ⟨hkl,show es.length-(k+1)<es.length-k by omega⟩ rfl trivial trivial ⟨rfl,rfl,rfl⟩ bL bJ rfl⟩⟩⟩⟩⟩⟩
 exact aA gT mxd ⟨(),trivial,aO (tt trivial) rfl trivial⟩
theorem aXv {es:List En} (h:Asc es) {i j:Nat} (hij:i<j) (hj:j<es.length):(es.getD i default).1<(es.getD j default).1:=by
 have:=fI.1 h i j oM hj hij
 rwa [gd oM,gd hj]
abbrev aOv:FuncId:=187
theorem bVh:Ent Tryz.prog aOv:=aV func187 rfl kR
theorem bVi:Tryz.prog.funcs[aOv]? =some Tryz.f187:=func187
abbrev vaG (x:Sl EntM) (m:Int) (k:Nat):List (Nat×DV):=[(5,.c (iC k)),(0,.c (bR x)),(1,.c (iC m))]
theorem aXw (x:Sl EntM) (m:Int) {es:List En} {B:Nat} (hx:Ev x.l es B) (hB:B<=13194139533312) (hn:es.length<=4611686018427387904):Ctr Tryz.prog aOv [] [.c (bR x),.c (iC m)] [] (λ_:Unit=>⟨pC (VOk es m),[],True⟩):=by
 have lx:=hx.ln
 refine bE gT bVh bVi rfl rfl rfl bL aT (aA gT mxd ?_)
 refine dR (λ_=>true) (vaG x m) (λ_=>[]) (λ_=>[]) (λk=>k<=es.length/\VOk (es.take k) m) (λk=>es.length-k) λhM=>⟨cH hM (chg:=vaG x m) (bls:=λ_=>[]) (fls:=λ_=>[]) 0 ⟨aC _,List.Pairwise.nil,λe he=>by cases he⟩ rfl trivial trivial ⟨rfl,rfl,rfl⟩ bL bJ rfl,λk ⟨hk,hv⟩=>aA gT mxd ⟨λh1=>aA gT mxd ?_,λh1=>aA gT mxd ?_⟩⟩
 all_goals
  replace hk:k<=es.length:=hk
  replace hv:VOk (es.take k) m:=hv
 ·have hkl:k<es.length:=by replace h1:(k:Int)<(x.l.length:Nat):=h1;omega
  have kx:k<x.l.length:=by omega
  have ex:=hx.e k hkl
  have hmem:=gW hkl
  have hno:¬(0<=(es.getD k default).1/\(es.getD k default).1<m/\(es.getD k default).2≠0)->¬VOk es m:=λhh h=>hh (h.2 _ hmem)
  refine⟨.seq (sq 99 (List.range 42)),by kernel_rfl,k,⟨rfl,kx⟩,k,λ_=>⟨rfl,kx⟩,k,λ_=>⟨rfl,kx⟩,(k:Int)-1,λ_=>wi (h:=⟨rfl,by omega,by omega⟩),k-1,λhq=>⟨?_,?_⟩,k,λ_=>⟨rfl,kx⟩,λh=>?_,λh=>⟨[],zM _ (ex.2.le hB),rfl,rfl,rfl,λ_ _=>⟨λh4=>?_,λh4=>aA gT mxd ⟨(k+1:Nat),wi,cH hM (chg:=vaG x m) (bls:=λ_=>[]) (fls:=λ_=>[]) (k+1) ⟨⟨hkl,?_⟩,show es.length-(k+1)<es.length-k by omega⟩ rfl trivial trivial ⟨rfl,rfl,rfl⟩ bL bJ rfl⟩⟩⟩⟩
  ·have:=hq.1;omega
  ·omega
  ·refine⟨(),trivial,aO (ff λhV=>?_) rfl trivial⟩
   rcases h with h|⟨h,h5⟩
   ·rw[ex.1] at h
    exact hno oM hV
   have h6:=aXv hV.1 (i:=k-1) (j:=k) oM hkl
   rw[ex.1,(hx.e (k-1) oM).1] at h5
   omega
  ·exact aA gT mxd ⟨(),trivial,aO (ff (hno λhh=>hh.2.2 (cK.1 (eY.1 h4)))) rfl trivial⟩
  have e1:es.take (k+1)=es.take k++[es.getD k default]:=by rw[cS,aE hkl,gd hkl];rfl
  have h5:0<=(es.getD k default).1/\(es.getD k default).1<m/\(es.getD k default).2≠0:=by
   refine⟨?_,?_,λhz=>h4 (eY.2 (cK.2 hz))⟩
   ·exact sX.1 λhh=>h (.inl (by first|exact .inl (by show(x.l.getD k default).ix<0;omega)|(show _\/_;omega)))
   exact Int.not_le.1 λhh=>h (.inl (by first|exact .inr (by show m<=(x.l.getD k default).ix;omega)|(show _\/_;omega)))
  refine⟨?_,(aIe (d:=default) hkl).2 ⟨hv.2,h5⟩⟩
  rcases bS k with rfl|h0
  ·rw[e1];exact dT _ _
  obtain⟨j,rfl⟩:∃j,k=j+1:=⟨k-1,by omega⟩
  refine bHi hkl (Int.not_le.1 λhh=>h (.inr ⟨by show(0:Int)<((j+1:Nat):Int);omega,?_⟩)) hv.1
  show(x.l.getD (j+1) default).ix<=(x.l.getD (j+1-1) default).ix
  rw[ex.1,(hx.e (j+1-1) oM).1]
  exact hh
 replace h1:¬(k:Int)<(x.l.length:Nat):=h1
 rw[bM oM] at hv
 exact aA gT mxd ⟨(),trivial,aO (tt hv) rfl trivial⟩
theorem aXx {P:Program} {q:FuncId} {cl:List Bool} {al:List DV} {bl:BL} {p:Prop} (h:Ctr P q cl al bl (λ_:Unit=>⟨pC p,bl,True⟩)) (hp:p):Ctr P q cl al bl (λ_:Unit=>⟨pC True,bl,True⟩):=
 h.lo λ_ _=>⟨(),trivial,λρ n w v hv=>by
  have h2:=hv.tt hp
  exact .c (by rw[h2.inv_c.inv_v,<-decide_true (h:=Classical.propDecidable True)];exact Rc.b _ _),rfl,rfl⟩
theorem bNq (x:Sl EntM) (m:Int) {es:List En} {B:Nat} (hx:Ev x.l es B) (hv:VOk es m) (hB:B<=13194139533312) (hn:es.length<=4611686018427387904):Ctr Tryz.prog aOv [] [.c (bR x),.c (iC m)] [] (λ_:Unit=>⟨pC True,[],True⟩):=aXx (aXw x m hx hB hn) hv
def ixL (es:List En) (k:Nat):List Int:=(es.take k).map (·.1)
theorem zS {es:List En} {k:Nat} (h:k<=es.length):(ixL es k).length=k:=by unfold ixL;rw[aU,bD];omega
theorem aXy {es:List En} {k:Nat} (h:k<es.length):ixL es (k+1)=ixL es k++[(es.getD k default).1]:=by
 unfold ixL
 rw[cS,aE h,gd h,cJ];rfl
theorem aLs {es:List En} {j k:Nat} (hj:j<k) (h:k<=es.length):(ixL es k).getD j 0=(es.getD j default).1:=by
 unfold ixL
 simp only[List.getD,dS,fD,if_pos hj,aE (show j<es.length by omega)]
 rfl
theorem aXz {es:List En} {k:Nat} {c:CV} (h:k<es.length) (hc:c=iC (es.getD k default).1):((ixL es k).map iC++[c]).take ((0+k+1)*1)++((ixL es k).map iC).drop (k*1)=(ixL es (k+1)).map iC:=by
 have lk:((ixL es k).map iC).length=k:=by rw[aU];exact zS (eJ h)
 rw[bM (by rw[aJ,bW];omega),bQ oM,dL,aXy h,cJ,hc];rfl
abbrev aYa:FuncId:=234
theorem bVj:Ent Tryz.prog aYa:=aV func234 rfl kR
theorem bVk:Tryz.prog.funcs[aYa]? =some Tryz.f234:=func234
abbrev inB (L:List Int):BL:=[(3,1,L.map iC)]
theorem yF {L:List Int}:scB 1 (inB L):=aB (cI (eI L)) bJ
abbrev inO (d:Sl (Sl EntM)) (j n:Nat):List (Nat×DV):=[(11,.c (iC j)),(3,.c (.s 0 n)),(9,.c (oL d)),(10,.c (iC 1))]
abbrev inK (x:Sl EntM) (d:Sl (Sl EntM)) (k:Nat):List (Nat×DV):=(6,.c (iC k))::(5,.c (bR x))::inO d 0 k
abbrev inP (x:Sl EntM) (d:Sl (Sl EntM)) (k p:Nat):List (Nat×DV):=(7,.c (iC p))::inK x d k
theorem bNr (x:Sl EntM) (A:Option Addr) (c:Nat) {es:List En} {B:Nat} (h:Ev x.l es B) (ha:Asc es) (hn:es.length<=4096):Ctr Tryz.prog aYa [] [.c (oL ⟨A,c,[x]⟩)] [] (λg:Sl Int=>⟨.c (jJ g),[],g.l=ixL es es.length⟩):=by
 have hl:=h.ln
 refine bE gT bVj bVk rfl rfl rfl bL aT (aA gT mxd (bDf 3 3 1 rfl bL (aA gT mxd ?_)))
 refine dR (λ_=>true) (λg:Nat×List Int=>inO ⟨A,c,[x]⟩ g.1 g.2.length) (λg=>inB g.2) (λ_=>[]) (λg=>(g.1=0/\g.2=[])\/(g.1=1/\g.2=ixL es es.length)) (λg=>1-g.1) λhM=>⟨cH hM (chg:=λg:Nat×List Int=>inO ⟨A,c,[x]⟩ g.1 g.2.length) (bls:=λg=>inB g.2) (fls:=λ_=>[]) (0,[]) (.inl ⟨rfl,rfl⟩) rfl rfl trivial ⟨rfl,rfl,rfl,rfl⟩ bL yF rfl,λ⟨i,L⟩ hL=>aA gT mxd ⟨λh1=>aA gT mxd ?_,λh1=>aA gT mxd ?_⟩⟩
 ·replace h1:(i:Int)<1:=h1
  have hi0:i=0/\L=[]:=by rcases hL with h|h;exact h;have:=h.1;dsimp only at this;omega
  obtain⟨rfl,rfl⟩:=hi0
  refine⟨0,⟨rfl,cR⟩,?_⟩
  show Sd _ _ _ _ _ _
  refine dR (λ_=>true) (λk:Nat=>inK x ⟨A,c,[x]⟩ k) (λk=>inB (ixL es k)) (λ_=>[]) (λk=>k<=es.length) (λk=>es.length-k) λhM2=>⟨cH hM2 (chg:=λk:Nat=>inK x ⟨A,c,[x]⟩ k) (bls:=λk=>inB (ixL es k)) (fls:=λ_=>[]) 0 (aC _) rfl rfl trivial ⟨rfl,rfl,rfl,rfl,rfl,rfl⟩ bL yF rfl,λk hk=>aA gT mxd ⟨λh2=>aA gT mxd ?_,λh2=>aA gT mxd ?_⟩⟩
  all_goals replace hk:k<=es.length:=hk
  ·have hkl:k<es.length:=by replace h2:(k:Int)<(x.l.length:Nat):=h2;omega
   have kx:k<x.l.length:=by omega
   have hik:=zS (eJ hkl)
   have hx:=(h.e k hkl).1
   show Sd _ _ _ _ _ _
   refine dR (λ_=>true) (λp:Nat=>inP x ⟨A,c,[x]⟩ k p) (λ_=>inB (ixL es k)) (λ_=>[]) (λp=>p<=k) (λp=>k-p) λhM3=>⟨cH hM3 (chg:=λp:Nat=>inP x ⟨A,c,[x]⟩ k p) (bls:=λ_=>inB (ixL es k)) (fls:=λ_=>[]) 0 (aC _) rfl rfl trivial ⟨rfl,rfl,rfl,rfl,rfl,rfl,rfl⟩ bL yF rfl,λp hp=>aA gT mxd ⟨.seq (sq 99 (List.range 16)),by kernel_rfl,?_⟩⟩
   replace hp:p<=k:=hp
   have hcell:∀{q:Nat},q<k->((ixL es k).map iC)[q*1]? =some (iC (es.getD q default).1):=λ{q} hq=>by
    rw[bZ,dS,aE (show q<(ixL es k).length by omega),<-aLs hq (eJ hkl),gd (show q<(ixL es k).length by omega)];rfl
   have hlen:∀{q:Nat},q<k->q*1<((ixL es k).map iC).length:=λ{q} hq=>by rw[aU];omega
   refine⟨p,λhq=>⟨rfl,?_,?_⟩,iC (es.getD p default).1,λhq=>?_,k,λ_=>⟨rfl,kx⟩,λh3=>aA gT mxd ?_,λh3=>aA gT mxd ?_⟩
   ·replace hq:(p:Int)<(k:Nat):=hq
    omega
   ·exact hlen (by replace hq:(p:Int)<(k:Nat):=hq;omega)
   ·exact hcell (by replace hq:(p:Int)<(k:Nat):=hq;omega)
   ·replace h3:(p:Int)<(k:Nat)/\(es.getD p default).1<(x.l.getD k default).ix:=h3
    have hpk:p<k:=by omega
    exact⟨(p+1:Nat),wi,cH hM3 (chg:=λp:Nat=>inP x ⟨A,c,[x]⟩ k p) (bls:=λ_=>inB (ixL es k)) (fls:=λ_=>[]) (p+1) ⟨hpk,show k-(p+1)<k-p by omega⟩ rfl rfl trivial ⟨rfl,rfl,rfl,rfl,rfl,rfl,rfl⟩ bL yF rfl⟩
   replace h3:¬((p:Int)<(k:Nat)/\(es.getD p default).1<(x.l.getD k default).ix):=h3
   have hpk:k=p:=bA λhne=>h3 ⟨by omega,by rw[hx];exact aXv ha oM hkl⟩
   subst hpk
   have no:∀{p:Prop},(k:Int)<(k:Nat)->p:=λh=>absurd h oM
   refine aA gT mxd ⟨.seq (sq 99 (List.range 16)),by kernel_rfl,k,λhq=>no hq,iC 0,λhq=>no hq,k,λ_=>⟨rfl,kx⟩,λh4=>no h4.1,λh4=>aA gT mxd ?_⟩
   have lk:((ixL es k).map iC).length=k:=by rw[aU];exact hik
   have mn:∀{i:Nat},∀c∈(ixL es k).map iC,kE i c=false:=λc hc=>gI (eI _ c hc)
   have mn2:∀{i:Nat},∀c∈(ixL es k).map iC++[iC (x.l.getD k default).ix],kE i c=false:=λc hc=>(aQ.1 hc).elim (mn c) (bDh c)
   have mn3:∀{i m m':Nat},∀c∈((ixL es k).map iC++[iC (x.l.getD k default).ix]).take m++((ixL es k).map iC).drop m',kE i c=false:=λc hc=>(aQ.1 hc).elim (λh=>mn2 c (cW h)) λh=>mn c (eQ h)
   refine⟨k,⟨rfl,by show k*1<=((ixL es k).map iC).length;omega⟩,⟨⟨by show k*1=((ixL es k).map iC).length;omega,rfl,by simp only[maxLen];omega,by show(0+k)*8<=_;omega,mn⟩,mn,?_⟩⟩
   refine⟨k,⟨rfl,kx⟩,⟨⟨rfl,by show(0+k)*1=((ixL es k).map iC).length;omega,by simp only[maxLen];omega,by show(0+k+1)*8<=_;omega,mn2⟩,mn,bDh,?_⟩⟩
   refine⟨k,⟨rfl,aF _,by show k*1<=((ixL es k).map iC).length;omega⟩,⟨⟨by show k*1+(k-k)*1=((ixL es k).map iC).length;omega,by show(0+k+1)*1<=((ixL es k).map iC++[iC (x.l.getD k default).ix]).length;rw[aJ,bW];omega,by simp only[maxLen];omega,by show(0+k+1+(k-k))*8<=_;omega,mn3⟩,mn,bDh,?_⟩⟩
   have cl:∀c∈(ixL es k).map iC++[iC (x.l.getD k default).ix],fB c=true:=λc hc=>(aQ.1 hc).elim (eI _ c) λh=>by rw[aI.1 h];rfl
   have cl3:∀{m m':Nat},∀c∈((ixL es k).map iC++[iC (x.l.getD k default).ix]).take m++((ixL es k).map iC).drop m',fB c=true:=λc hc=>(aQ.1 hc).elim (λh=>cl c (cW h)) λh=>eI _ c (eQ h)
   refine⟨(k+1:Nat),wi,gsw 0 1 rfl rfl bL bL rfl ⟨_,aOs aK cl3,_,aOs aK (eI _),_,rfl,bL,cH hM2 (chg:=λk:Nat=>inK x ⟨A,c,[x]⟩ k) (bls:=λk=>inB (ixL es k)) (fls:=λ_=>[]) (k+1) ⟨hkl,show es.length-(k+1)<es.length-k by omega⟩ rfl ?_ trivial ⟨rfl,rfl,rfl,?_,rfl,rfl⟩ bL yF rfl⟩⟩
   ·exact congrArg (λl:List CV=>((3,1,l):TypeId×Nat×List CV)) (aXz hkl (congrArg iC hx))
   show 0+k+1+(k-k)=k+1
   omega
  replace h2:¬(k:Int)<(x.l.length:Nat):=h2
  obtain rfl:k=es.length:=by omega
  exact⟨((0+1:Nat):Int),wi,cH hM (chg:=λg:Nat×List Int=>inO ⟨A,c,[x]⟩ g.1 g.2.length) (bls:=λg=>inB g.2) (fls:=λ_=>[]) (1,ixL es es.length) ⟨.inr ⟨rfl,rfl⟩,cR⟩ rfl rfl trivial ⟨rfl,by show es.length=(ixL es es.length).length;exact(zS (aF _)).symm,rfl,rfl⟩ bL yF rfl⟩
 have hL1:L=ixL es es.length:=by
  rcases hL with h|h
  ·exact absurd (show(i:Int)<1 by have:i=0:=h.1;omega) h1
  exact h.2
 exact aKa 3 0 (λj=>[iC (L.getD j 0)]) rfl rfl (λj hj=>aUu j hj) (by show L.length*1=(L.map iC).length;rw[aU,bZ]) bL (eI L) bL λA c _ _=>aA gT mxd ⟨(⟨A,c,L⟩:Sl Int),hL1,aO rfl rfl trivial⟩
def nzL (es:List En):Nat->List En
 |0=>[]
 |k+1=>if (es.getD k default).2=0 then nzL es k else nzL es k++[es.getD k default]
theorem aOw {es:List En}:∀k,(nzL es k).length<=k
 |0=>aF _
 |k+1=>by
  unfold nzL
  have:=aOw (es:=es) k
  split
  ·omega
  rw[aJ,bW];omega
theorem aOx {es:List En} (h:aAh es):∀k,k<=es.length->nzL es k=es.take k
 |0,_=>rfl
 |k+1,hk=>by
  unfold nzL
  rw[if_neg (h _ (gW hk)),aOx h k oM,cS,aE hk,gd hk];rfl
theorem bNs {es:List En} (h:aAh es):nzL es es.length=es:=by rw[aOx h _ (aF _),cU]
theorem bNt {x:Sl EntM}:∀j,j<1->[bR (([x]:List (Sl EntM)).getD j dK)]=([bR x].drop (j*1)).take 1
 |0,_=>rfl
 |_+1,h=>absurd h oM
abbrev aYb:FuncId:=211
theorem bVl:Ent Tryz.prog aYb:=aV func211 rfl kR
theorem bVm:Tryz.prog.funcs[aYb]? =some Tryz.f211:=func211
abbrev nrG (x:Sl EntM) (g:Sl Int) (m k n:Nat):List (Nat×DV):=[(11,.c (iC k)),(3,.c (.s 1 n)),(0,.c (bR x)),(9,.c (jJ g)),(10,.c (iC m))]
abbrev nrB (ys:List EntM):BL:=[(65,1,[]),(82,4,ecs ys)]
theorem aLt {ys:List EntM}:scB 2 (nrB ys):=aB rfl (aB (jM _) bJ)
theorem aYc (x:Sl EntM) {es:List En} {B:Nat} (h:Ev x.l es B) (ha:Asc es) (hb:rbE es B) (h1:1<=B) (hB:B<=4398046511104) (hn:es.length<=4096):Ctr Tryz.prog aYb [] [.c (bR x)] [] (λg:Sl EntM=>⟨.c (bR g),[],Ek g.l (nzL es es.length)⟩):=by
 have hl:=h.ln
 refine bE gT bVl bVm rfl rfl rfl bL aT (aA gT mxd ⟨some (λj=>[bR (([x]:List (Sl EntM)).getD j dK)]),⟨⟨aF _,cR⟩,rfl,bNt,λc hc=>by rw[aI.1 hc];rfl⟩,λA c _ _=>⟨[],bNr x A c h ha hn,rfl,rfl,rfl,λg hg=>bDf 3 82 4 rfl bL ?_⟩⟩)
 replace hg:g.l=ixL es es.length:=hg
 have lg:g.l.length=es.length:=by rw[hg];exact zS (aF _)
 refine dR (λ_=>true) (λu:Nat×List EntM=>nrG x g g.l.length u.1 u.2.length) (λu=>nrB u.2) (λ_=>[]) (λu=>u.1<=es.length/\Ek u.2 (nzL es u.1)) (λu=>es.length-u.1) λhM=>⟨cH hM (chg:=λu:Nat×List EntM=>nrG x g g.l.length u.1 u.2.length) (bls:=λu=>nrB u.2) (fls:=λ_=>[]) (0,[]) ⟨aC _,rfl,λk hk=>absurd hk (aM _)⟩ rfl ⟨rfl,rfl⟩ trivial ⟨rfl,rfl,rfl,rfl,rfl⟩ bL aLt rfl,λ⟨k,ys⟩ ⟨hk,hy⟩=>aA gT mxd ⟨λh2=>aA gT mxd ?_,λh2=>aA gT mxd ?_⟩⟩
 all_goals
  replace hk:k<=es.length:=hk
  replace hy:Ek ys (nzL es k):=hy
  have ly:ys.length<=k:=by rw[hy.ln];exact aOw k
 ·have hkl:k<es.length:=by replace h2:(k:Int)<(g.l.length:Nat):=h2;omega
  have hv:Vm.get es (g.l.getD k 0)=(es.getD k default).2:=by rw[hg,aLs hkl (aF _)];exact vF ha (gW hkl)
  have hbk:=hb _ (gW hkl)
  refine⟨k,⟨rfl,show k<g.l.length by omega⟩,[],aXt x (g.l.getD k 0) h ha hb h1 hB hn,rfl,rfl,rfl,λr hr=>?_⟩
  replace hr:Cr r (Vm.get es (g.l.getD k 0)):=hr
  rw[hv] at hr
  refine⟨[],zM r ((hr.rq hbk).le oM),rfl,rfl,rfl,λ_ _=>⟨λh3=>aA gT mxd ?_,λh3=>aA gT mxd ?_⟩⟩
  ·replace h3:¬sgn (es.getD k default).2.num=0:=h3
   have h4:¬(es.getD k default).2=0:=λe=>h3 (eY.2 (cK.2 e))
   refine⟨⟨rfl,by show ys.length*4=(ecs ys).length;rw[fU],by show ys.length+1<=maxLen;simp only[maxLen];omega,by show(ys.length+1)*64<=_;omega,λc hc=>?_⟩,λc hc=>(by cases hc),mA ⟨g.l.getD k 0,r⟩,(k+1:Nat),wi,cH hM (chg:=λu:Nat×List EntM=>nrG x g g.l.length u.1 u.2.length) (bls:=λu=>nrB u.2) (fls:=λ_=>[]) (k+1,ys++[⟨g.l.getD k 0,r⟩]) ⟨⟨hkl,?_⟩,show es.length-(k+1)<es.length-k by omega⟩ rfl ⟨rfl,by show(82,4,ecs ys++(⟨g.l.getD k 0,r⟩:EntM).C)=_;rw[oK]⟩ trivial ⟨rfl,?_,rfl,rfl,rfl⟩ bL aLt rfl⟩
   ·exact(aQ.1 hc).elim (λh=>gI (fY ys c h)) (mA ⟨g.l.getD k 0,r⟩ c)
   ·show Ek _ (if _ then _ else _)
    rw[if_neg h4]
    have:=vE (ix:=(es.getD k default).1) hy hr
    rwa [show g.l.getD k 0=(es.getD k default).1 by rw[hg];exact aLs hkl (aF _)]
   show ys.length+1=(ys++[(⟨g.l.getD k 0,r⟩:EntM)]).length
   simp
  replace h3:¬¬sgn (es.getD k default).2.num=0:=h3
  have h4:(es.getD k default).2=0:=cK.1 (eY.1 (fJ.1 h3))
  exact⟨(k+1:Nat),wi,cH hM (chg:=λu:Nat×List EntM=>nrG x g g.l.length u.1 u.2.length) (bls:=λu=>nrB u.2) (fls:=λ_=>[]) (k+1,ys) ⟨⟨hkl,by show Ek ys (if _ then _ else _);rw[if_pos h4];exact hy⟩,show es.length-(k+1)<es.length-k by omega⟩ rfl ⟨rfl,rfl⟩ trivial ⟨rfl,rfl,rfl,rfl,rfl⟩ bL aLt rfl⟩
 replace h2:¬(k:Int)<(g.l.length:Nat):=h2
 obtain rfl:k=es.length:=by omega
 exact aKa 3 1 (λj=>(ys.getD j default).C) rfl rfl (λj hj=>pV ys j hj) (fU ys).symm bL (fY ys) bL λA c _ _=>⟨λc hc=>(by cases hc),aA gT mxd ⟨(⟨A,c,ys⟩:Sl EntM),hy,aO rfl rfl trivial⟩⟩
def fuL (qs:List Rat) (k:Nat):List En:=(List.range k).map λi:Nat=>((i:Int),qs.getD i 0)
theorem aFw {qs:List Rat} {k:Nat}:(fuL qs k).length=k:=by unfold fuL;simp
theorem aIm {qs:List Rat} {k:Nat}:fuL qs (k+1)=fuL qs k++[((k:Int),qs.getD k 0)]:=by unfold fuL;rw[mK,cJ];rfl
theorem bNu {qs:List Rat} {i k:Nat} (h:i<k):(fuL qs k).getD i default=((i:Int),qs.getD i 0):=by unfold fuL;simp[h]
theorem aOy {qs:List Rat}:∀k,Asc (fuL qs k)
 |0=> .nil
 |k+1=>by
  rw[aIm]
  refine eP.2 ⟨aOy k,dT _ _,λa ha b hb=>?_⟩
  rw[aI.1 hb]
  obtain⟨i,hi,rfl⟩:=bT.1 ha
  have:=cV.1 hi
  show(i:Int)<(k:Int)
  omega
theorem aYd {qs:List Rat} {n:Nat}:∀k,k<=n->nzL (fuL qs n) k=fdF qs k
 |0,_=>rfl
 |k+1,h=>by
  unfold nzL fdF
  rw[bNu h,aYd k oM]
theorem aYe {qs:List Rat} {k B:Nat} (h:rbL qs B) (hk:k<=qs.length):rbE (fuL qs k) B:=λe he=>by
 obtain⟨i,hi,rfl⟩:=bT.1 he
 exact h _ (gD0 (by have:=cV.1 hi;omega))
abbrev bNv:FuncId:=164
theorem cAj:Ent Tryz.prog bNv:=aV func164 rfl kR
theorem cAk:Tryz.prog.funcs[bNv]? =some Tryz.f164:=func164
abbrev fdG (x:Sl RatM) (k n:Nat):List (Nat×DV):=[(4,.c (iC k)),(3,.c (.s 0 n)),(0,.c (fZ x))]
abbrev fdB (ys:List EntM):BL:=[(82,4,ecs ys)]
theorem aYf {ys:List EntM}:scB 1 (fdB ys):=aB (jM _) bJ
theorem bVn (x:Sl RatM) {qs:List Rat} {B:Nat} (h:Rl x.l qs) (hb:rbL qs B) (h1:1<=B) (hB:B<=4398046511104) (hn:qs.length<=4096):Ctr Tryz.prog bNv [] [.c (fZ x)] [] (λg:Sl EntM=>⟨.c (bR g),[],Ek g.l (fdF qs qs.length)⟩):=by
 have hl:=h.ln
 refine bE gT cAj cAk rfl rfl rfl bL aT (aA gT mxd (bDf 3 82 4 rfl bL ?_))
 refine dR (λ_=>true) (λu:Nat×List EntM=>fdG x u.1 u.2.length) (λu=>fdB u.2) (λ_=>[]) (λu=>u.1<=qs.length/\Ek u.2 (fuL qs u.1)) (λu=>qs.length-u.1) λhM=>⟨cH hM (chg:=λu:Nat×List EntM=>fdG x u.1 u.2.length) (bls:=λu=>fdB u.2) (fls:=λ_=>[]) (0,[]) ⟨aC _,rfl,λk hk=>absurd hk (aM _)⟩ rfl rfl trivial ⟨rfl,rfl,rfl⟩ bL aYf rfl,λ⟨k,ys⟩ ⟨hk,hy⟩=>aA gT mxd ⟨λh2=>aA gT mxd ?_,λh2=>aA gT mxd ?_⟩⟩
 all_goals
  replace hk:k<=qs.length:=hk
  replace hy:Ek ys (fuL qs k):=hy
  have ly:ys.length=k:=hy.ln.trans aFw
 ·have hkl:k<qs.length:=by replace h2:(k:Int)<(x.l.length:Nat):=h2;omega
  refine⟨k,⟨rfl,show k<x.l.length by omega⟩,⟨rfl,by show ys.length*4=(ecs ys).length;rw[fU],by show ys.length+1<=maxLen;simp only[maxLen];omega,by show(ys.length+1)*64<=_;omega,λc hc=>?_⟩,mA ⟨k,x.l.getD k default⟩,(k+1:Nat),wi,cH hM (chg:=λu:Nat×List EntM=>fdG x u.1 u.2.length) (bls:=λu=>fdB u.2) (fls:=λ_=>[]) (k+1,ys++[⟨k,x.l.getD k default⟩]) ⟨⟨hkl,?_⟩,show qs.length-(k+1)<qs.length-k by omega⟩ rfl (by show(82,4,ecs ys++(⟨k,x.l.getD k default⟩:EntM).C)=_;rw[oK]) trivial ⟨rfl,?_,rfl⟩ bL aYf rfl⟩
  ·exact(aQ.1 hc).elim (λh=>gI (fY ys c h)) (mA ⟨k,x.l.getD k default⟩ c)
  ·show Ek _ (fuL qs (k+1))
   rw[aIm]
   exact vE hy (h.e k hkl)
  show ys.length+1=(ys++[(⟨k,x.l.getD k default⟩:EntM)]).length
  simp
 replace h2:¬(k:Int)<(x.l.length:Nat):=h2
 obtain rfl:k=qs.length:=by omega
 refine aA gT mxd ⟨some (λj=>(ys.getD j default).C),⟨⟨aC _,by decide⟩,(fU ys).symm,λj hj=>pV ys j hj,fY ys⟩,λA c _ _=>⟨[],aYc ⟨A,c,ys⟩ (hy.ev (aYe hb (aF _))) (aOy _) (aYe hb (aF _)) h1 hB (by rw[aFw];exact hn),rfl,rfl,rfl,λg hg=>⟨g,?_,aO rfl rfl trivial⟩⟩⟩
 replace hg:Ek g.l (nzL (fuL qs qs.length) (fuL qs qs.length).length):=hg
 rw[aFw,aYd _ (aF _)] at hg
 exact hg
abbrev bNw:FuncId:=189
theorem cAl:Ent Tryz.prog bNw:=aV func189 rfl kR
theorem cAm:Tryz.prog.funcs[bNw]? =some Tryz.f189:=func189
abbrev dnG (x:Sl EntM) (n k:Nat):List (Nat×DV):=[(7,.c (iC k)),(0,.c (bR x)),(1,.c (iC n)),(6,.c (.s 0 n))]
abbrev dnB (G:Nat->RatM) (n k:Nat):BL:=[(62,3,flatR n (pW G k))]
theorem aYg {G:Nat->RatM} {n k:Nat}:scB 1 (dnB G n k):=aB (aP.2 λc hc=>mZ (xI c hc)) bJ
theorem bVo (x:Sl EntM) (n:Nat) {es:List En} {B:Nat} (h:Ev x.l es B) (hb:rbE es B) (h1:1<=B) (hB:B<=4398046511104) (hv:VOk es n) (hn:n<=4096) (he:es.length<=4096):Ctr Tryz.prog bNw [true] [.c (bR x),.c (iC n)] [] (λG:Nat->RatM=>⟨.t [.c (.s 0 n),pC True],[(62,3,flatR n λj=>(G j).C)],∀k,k<n->Cr (G k) (Vm.get es (k:Nat))⟩):=by
 have hz:aAh es:=λe he=>(hv.2 e he).2.2
 have hl:=h.ln
 refine bE gT cAl cAm rfl rfl rfl bL (λi T es l hi=>by cases hi) (aA gT mxd ⟨λh2=>?_,λ_=>⟨[],aYc x h hv.1 hb h1 hB he,rfl,rfl,rfl,λy hy=>?_⟩⟩)
 ·replace h2:(n:Int)<0\/(16384:Int)<(n:Nat):=h2
  omega
 replace hy:Ek y.l (nzL es es.length):=hy
 rw[bNs hz] at hy
 have tk:∀k,Asc (es.take k):=λk=>hv.1.sublist (gV k es)
 refine⟨[],bNq y n (hy.ev hb) hv oM oM,rfl,rfl,rfl,λ_ _=>⟨λh2=>absurd trivial h2,λ_=>aA gT mxd ⟨n,⟨rfl,rfl,by show 56*_<=_;omega,by simp only[maxLen];omega⟩,?_⟩⟩⟩
 refine dR (λ_=>true) (λg:Nat×(Nat->RatM)=>dnG x n g.1) (λg=>dnB g.2 n g.1) (λ_=>[]) (λg=>g.1<=n/\∀k,k<g.1->Cr (g.2 k) (Vm.get es (k:Nat))) (λg=>n-g.1) λhM=>⟨cH hM (chg:=λg:Nat×(Nat->RatM)=>dnG x n g.1) (bls:=λg=>dnB g.2 n g.1) (fls:=λ_=>[]) (0,λ_=>default) ⟨aC _,λk hk=>absurd hk (aM _)⟩ rfl ?_ trivial ⟨rfl,rfl,rfl,rfl⟩ bL aYg rfl,λ⟨i,G⟩ ⟨hi,hG⟩=>aA gT mxd ⟨λh4=>aA gT mxd ?_,λh4=>aA gT mxd ?_⟩⟩
 ·show(_,_,_)=(_,_,_)
  congr 2
  show(List.replicate n sS).flatten=_
  rw[<-zP]
  exact lI λj _=>(if_neg (aM _)).symm
 all_goals
  replace hi:i<=n:=hi
  replace hG:∀k,k<i->Cr (G k) (Vm.get es (k:Nat)):=hG
 ·have hin:i<n:=by replace h4:(i:Int)<(n:Nat):=h4;omega
  have hlen:i*3<(flatR n (pW G i)).length:=aLk (λj=>tZ j) hin
  have put:∀g:RatM,kD (flatR n (pW G i)) (i*3) g.C=flatR n (pW (aBm G i g) (i+1))/\i*3+g.C.length<=(flatR n (pW G i)).length:=λg=>aFp (λj=>tZ j) hin rfl λj _=>aOp j
  exact⟨[],aXt x i h hv.1 hb h1 hB he,rfl,rfl,rfl,λg hg=>⟨i,⟨rfl,hin,hlen⟩,_,put _,(i+1:Nat),wi,cH hM (chg:=λg:Nat×(Nat->RatM)=>dnG x n g.1) (bls:=λg=>dnB g.2 n g.1) (fls:=λ_=>[]) (i+1,aBm G i g) ⟨⟨hin,λk hk=>by
   show Cr (aBm G i g k) _
   unfold aBm
   by_cases hki:k=i
   ·subst hki;rw[if_pos rfl];exact hg
   rw[if_neg hki];exact hG k (by have:k<i+1:=hk;omega)⟩,show n-(i+1)<n-i by omega⟩ rfl rfl trivial ⟨rfl,rfl,rfl,rfl⟩ bL aYg rfl⟩⟩
 replace h4:¬(i:Int)<(n:Nat):=h4
 obtain rfl:i=n:=by omega
 exact aA gT mxd ⟨G,hG,jW ⟨rfl,tt trivial⟩ (congrArg (λl:List CV=>((62,3,l):TypeId×Nat×List CV)) aIl) bL (aB (cI (vW (λj=>gJ (G j)) _)) bJ) rfl (ClB.one (aP.2 (vW (λj=>gJ (G j)) _)))⟩
abbrev mB (m:MatM):BL:=[(24,0,m.C)]
theorem bHn {m:MatM}:scB 1 (mB m):=aB rfl bJ
abbrev aOz:FuncId:=120
theorem bVp:Ent Tryz.prog aOz:=aV func120 rfl kR
theorem bVq:Tryz.prog.funcs[aOz]? =some Tryz.f120:=func120
abbrev xvG (k:Nat):List (Nat×DV):=[(3,.c (iC k)),(1,.c (.p 0 0))]
set_option maxRecDepth 8000 in
theorem aYh (m:MatM) {M:Nat->List En} {B:Nat} (h:Mg m M B) (hB:B<=13194139533312) (hn:m.d.l.length<=4611686018427387904) (hr:∀i,i<m.d.l.length->(M i).length<=4611686018427387904):Ctr Tryz.prog aOz [] [.a m.C] [] (λ_:Unit=>⟨pC (MOk m M),[],True⟩):=by
 refine bE gT bVp bVq rfl rfl rfl bL aT (aA gT mxd ⟨λh2=>?_,λh2=>aA gT mxd ?_⟩)
 ·replace h2:(((m.r<0\/16384<m.r)\/m.c<0)\/16384<m.c)\/((m.d.l.length:Nat):Int)≠m.r:=h2
  exact aA gT mxd ⟨(),trivial,aO (ff λ⟨h3,h4,h5,_⟩=>by omega) rfl trivial⟩
 replace h2:¬((((m.r<0\/16384<m.r)\/m.c<0)\/16384<m.c)\/((m.d.l.length:Nat):Int)≠m.r):=h2
 have hl:m.r=(m.d.l.length:Nat):=by omega
 refine dR (λ_=>true) xvG (λ_=>mB m) (λ_=>[]) (λk=>k<=m.d.l.length/\∀i,i<k->VOk (M i) m.c) (λk=>m.d.l.length-k) λhM=>⟨cH hM (chg:=xvG) (bls:=λ_=>mB m) (fls:=λ_=>[]) 0 ⟨aC _,λi hi=>absurd hi (aM _)⟩ rfl rfl trivial ⟨rfl,rfl⟩ bL bHn rfl,λk ⟨hk,hv⟩=>aA gT mxd ⟨λh1=>aA gT mxd ?_,λh1=>aA gT mxd (aA gT mxd ?_)⟩⟩
 all_goals
  replace hk:k<=m.d.l.length:=hk
  replace hv:∀i,i<k->VOk (M i) m.c:=hv
 rotate_left
 ·replace h1:¬(k:Int)<m.r:=h1
  exact⟨(),trivial,aO (tt ⟨⟨by omega,by omega⟩,⟨by omega,by omega⟩,hl.symm,λi hi=>hv i oM⟩) rfl trivial⟩
 have hkn:k<m.d.l.length:=by replace h1:(k:Int)<m.r:=h1;omega
 have hrow:=h k hkn
 refine⟨.seq (sq 99 (List.range 9)),by kernel_rfl,k,⟨rfl,hkn⟩,[],aXw (m.d.l.getD k dK) m.c hrow hB (hr k hkn),rfl,rfl,rfl,λ_ _=>⟨λh=>aA gT mxd ?_,λh=>aA gT mxd ⟨(k+1:Nat),wi,cH hM (chg:=xvG) (bls:=λ_=>mB m) (fls:=λ_=>[]) (k+1) ⟨⟨hkn,λi hi=>?_⟩,show m.d.l.length-(k+1)<m.d.l.length-k by omega⟩ rfl rfl trivial ⟨rfl,rfl⟩ bL bHn rfl⟩⟩⟩
 ·exact⟨(),trivial,aO (ff λh5=>h (h5.2.2.2 k hkn)) rfl trivial⟩
 rcases mM (rB hi) with h5|rfl
 ·exact hv i h5
 exact eO.1 h
theorem bNx (m:MatM) {M:Nat->List En} {a b B:Nat} (h:Mr m M a b B) (hB:B<=13194139533312) (ha:a<=4096) (hb:b<=4096):Ctr Tryz.prog aOz [] [.a m.C] [] (λ_:Unit=>⟨pC True,[],True⟩):=
 aXx (aYh m h.mg hB (by rw[h.ln];omega) λi hi=>by have:=(h.ok i (by have:=h.ln;omega)).2;omega) (h.mok ha hb)
abbrev aYi:FuncId:=12
theorem bVr:Ent Tryz.prog aYi:=aV func12 rfl kR
theorem bVs:Tryz.prog.funcs[aYi]? =some Tryz.f12:=func12
abbrev xiG (k:Nat):List (Nat×DV):=[(5,.c (iC k)),(2,.c (.p 0 0)),(3,.c (.p 1 0))]
abbrev xiB (m m':MatM):BL:=[(24,0,m.C),(24,0,m'.C)]
theorem aYj {m m':MatM}:scB 2 (xiB m m'):=aB rfl (aB rfl bJ)
set_option maxRecDepth 8000 in
theorem bNy (m m':MatM) {M:Nat->List En} {n c:Nat} (h:Mk m M n c) (h':Mk m' M n c) (hb:rbM M n 13194139533312) (hn:n<=4096) (hcn:c<=4096):Ctr Tryz.prog aYi [] [.a m.C,.a m'.C] [] (λ_:Unit=>⟨pC True,[],True⟩):=by
 have hr:=h.r
 have hc:=h.c
 have hl:=h.ln
 have hr':=h'.r
 have hc':=h'.c
 have hl':=h'.ln
 refine bE gT bVr bVs rfl rfl rfl bL aT (aA gT mxd ⟨λh2=>?_,λ_=>aA gT mxd ?_⟩)
 ·replace h2:(m.r≠m'.r\/m.c≠m'.c)\/((m.d.l.length:Nat):Int)≠(m'.d.l.length:Nat):=h2
  omega
 refine dR (λ_=>true) xiG (λ_=>xiB m m') (λ_=>[]) (λk=>k<=n) (λk=>n-k) λhM=>⟨cH hM (chg:=xiG) (bls:=λ_=>xiB m m') (fls:=λ_=>[]) 0 (aC _) rfl ⟨rfl,rfl⟩ trivial ⟨rfl,rfl,rfl⟩ bL aYj rfl,λk hk=>aA gT mxd ⟨λh1=>aA gT mxd ?_,λh1=>aA gT mxd (aA gT mxd ?_)⟩⟩
 rotate_left
 ·exact⟨(),trivial,aO (tt trivial) rfl trivial⟩
 replace hk:k<=n:=hk
 have hkn:k<n:=by replace h1:(k:Int)<(m.d.l.length:Nat):=h1;omega
 exact⟨.seq (sq 99 (List.range 12)),by kernel_rfl,k,⟨rfl,show k<m.d.l.length by omega⟩,k,⟨rfl,show k<m'.d.l.length by omega⟩,[],bNp (m.d.l.getD k dK) (m'.d.l.getD k dK) (h.row k hkn) (h'.row k hkn) (hb k hkn) (by have:=(h.ok k hkn).2;omega),rfl,rfl,rfl,λ_ _=>⟨λh=>absurd trivial h,λ_=>aA gT mxd ⟨(k+1:Nat),wi,cH hM (chg:=xiG) (bls:=λ_=>xiB m m') (fls:=λ_=>[]) (k+1) ⟨hkn,show n-(k+1)<n-k by omega⟩ rfl ⟨rfl,rfl⟩ trivial ⟨rfl,rfl,rfl⟩ bL aYj rfl⟩⟩⟩
def xK (d:Sl (Sl RatM)):CV:=d.R 1 (λrow=>[fZ row]) dK
structure Rr (d:Sl (Sl RatM)) (Q:Nat->List Rat) (r n:Nat):Prop where
 ln:d.l.length=r
 row:∀i,i<r->Rl (d.l.getD i dK).l (Q i)/\(Q i).length=n
theorem yG {n:Nat} {P:Nat->CV}:dX (n+1) P=dX n P++[P n]:=by unfold dX;rw[mK,cJ];rfl
abbrev bNz:FuncId:=101
theorem cAn:Ent Tryz.prog bNz:=aV func101 rfl kR
theorem cAo:Tryz.prog.funcs[bNz]? =some Tryz.f101:=func101
abbrev mkG (d:Sl (Sl RatM)) (n k:Nat):List (Nat×DV):=[(6,.c (iC k)),(0,.c (xK d)),(5,.c (.p 1 0)),(4,.c (.p 0 0))]
abbrev mkB (r n k:Nat) (S:Nat->Sl EntM):BL:=[(24,0,[iC 0,iC 0,.v (.slice none 0 0)]),(24,0,[iC r,iC n,.s 2 k]),(65,1,dX k λj=>bR (S j))]
theorem aYk {r n k:Nat} {S:Nat->Sl EntM}:scB 3 (mkB r n k S):=aB rfl (aB rfl (aB (cI (aR λ_ _=>rfl)) bJ))
def oMk:Ord:=.treeX [] [2000,1,2002,2003,2004,5] (trS [6,7,1008,2009,1010])
theorem bHo (d:Sl (Sl RatM)) {Q:Nat->List Rat} {r n B:Nat} (h:Rr d Q r n) (hb:∀i,i<r->rbL (Q i) B) (h1:1<=B) (hB:B<=4398046511104) (hr:r<=4096) (hn:n<=4096):Ctr Tryz.prog bNz [] [.c (xK d),.c (iC n)] [] (λg:MatM=>⟨.a g.C,[],Mk g (λi=>fdF (Q i) n) r n⟩):=by
 have hl:=h.ln
 obtain⟨dA,dc,dl⟩:=d
 replace hl:dl.length=r:=hl
 subst hl
 refine bE gT cAn cAo rfl rfl rfl bL aT (aA gT mxd ?_)
 show Sd _ _ _ _ _ _
 refine bHc tSd 1 2 65 1 rfl rfl bL rfl ?_
 refine dR (λ_=>true) (λu:Nat×(Nat->Sl EntM)=>mkG ⟨dA,dc,dl⟩ n u.1) (λu=>mkB dl.length n u.1 u.2) (λ_=>[]) (λu=>u.1<=dl.length/\∀j,j<u.1->Ek (u.2 j).l (fdF (Q j) n)) (λu=>dl.length-u.1) λhM=>⟨cH hM (chg:=λu:Nat×(Nat->Sl EntM)=>mkG ⟨dA,dc,dl⟩ n u.1) (bls:=λu=>mkB dl.length n u.1 u.2) (fls:=λ_=>[]) (0,λ_=>dK) ⟨aC _,λj hj=>absurd hj (aM _)⟩ rfl ⟨rfl,rfl,rfl⟩ trivial ⟨rfl,rfl,rfl,rfl⟩ bL aYk rfl,λ⟨k,S⟩ ⟨hk,hS⟩=>aA gT mxd ⟨λh2=>aA gT mxd ?_,λh2=>?_⟩⟩
 all_goals
  replace hk:k<=dl.length:=hk
  replace hS:∀j,j<k->Ek (S j).l (fdF (Q j) n):=hS
 ·have hkn:k<dl.length:=by replace h2:(k:Int)<(dl.length:Nat):=h2;omega
  refine⟨oMk,by kernel_rfl,k,⟨rfl,hkn⟩,[],bVn (dl.getD k dK) (h.row k hkn).1 (hb k hkn) h1 hB (by rw[(h.row k hkn).2];exact hn),rfl,rfl,rfl,λg hg=>⟨rfl,rfl,?_⟩⟩
  replace hg:Ek g.l (fdF (Q k) (Q k).length):=hg
  rw[(h.row k hkn).2] at hg
  have mg:∀{i:Nat},∀c∈[bR g],kE i c=false:=λc hc=>by rw[aI.1 hc];rfl
  have hc2:dX k (λj=>bR (S j))++[bR g]=dX (k+1) λj=>bR (upd S k g j):=by
   rw[yG,aBn (Q:=λj=>bR (upd S k g j)) λj hj=>by rw[bK oM]]
   simp only[bP]
  exact⟨⟨rfl,by show k*1=(dX k λj=>bR (S j)).length;rw[dF,bZ],by show k+1<=maxLen;simp only[maxLen];omega,by show(k+1)*24<=_;omega,λc hc=>(aQ.1 hc).elim (λh=>gI (aR (λ_ _=>rfl) c h)) (mg c)⟩,mg,(k+1:Nat),wi,cH hM (chg:=λu:Nat×(Nat->Sl EntM)=>mkG ⟨dA,dc,dl⟩ n u.1) (bls:=λu=>mkB dl.length n u.1 u.2) (fls:=λ_=>[]) (k+1,upd S k g) ⟨⟨hkn,λj hj=>by
   show Ek (upd S k g j).l _
   by_cases hjk:j=k
   ·subst hjk;rw[bP];exact hg
   rw[bK hjk];exact hS j (by have:j<k+1:=hj;omega)⟩,show dl.length-(k+1)<dl.length-k by omega⟩ rfl ⟨rfl,rfl,congrArg (λl:List CV=>((65,1,l):TypeId×Nat×List CV)) hc2⟩ trivial ⟨rfl,rfl,rfl,rfl⟩ bL aYk rfl⟩
 replace h2:¬(k:Int)<(dl.length:Nat):=h2
 obtain rfl:k=dl.length:=by omega
 refine aA gT mxd ?_
 show Sd _ _ _ _ _ _
 refine vN tSd 2 rfl bL (aR λ_ _=>rfl) bL rfl λA2 c2=>?_
 refine tE tSd 1 0 [iC dl.length,iC n,oL ⟨A2.map λb=>⟨b,0,none⟩,c2,jE S dl.length⟩] rfl rfl rfl rfl (uA (k0:=2) rfl xJ) (aA gT mxd ⟨⟨dl.length,n,⟨A2.map λb=>⟨b,0,none⟩,c2,jE S dl.length⟩⟩,⟨rfl,rfl,nT,λj hj=>?_,λj hj=>aFu _⟩,aO rfl rfl trivial⟩)
 show Ek ((jE S dl.length).getD j dK).l _
 rw[rW hj]
 exact hS j hj
abbrev hdR (A:Nat->Option Nat) (cap:Nat->Nat) (R:Nat->List RatM):Nat->CV:=λj=> .h (A j) (R j).length (cap j)
abbrev elF (n:Nat) (A:Nat->Option Nat) (cap:Nat->Nat) (R:Nat->List RatM):Fam:=⟨62,3,n,A,cap,λj=>fl RatM.C default (R j)⟩
abbrev elB (m:MatM) (n:Nat) (H:List CV):BL:=[(24,0,m.C),(55,1,H)]
theorem aLu {m:MatM} {n:Nat} {P:Nat->CV} (h:∀j,j<n->fB (P j)=true):scB 2 (elB m n (dX n P)):=aB rfl (aB (cI (aR h)) bJ)
theorem bEq {G:Nat->RatM} {n:Nat}:flatR n (λj=>(G j).C)=fl RatM.C default (mC G n):=by
 unfold fl
 rw[zQ]
 exact lI λj hj=>by rw[aLl hj]
theorem bOa {G:Nat->RatM} {n:Nat} {es:List En} (h:∀k,k<n->Cr (G k) (Vm.get es (k:Nat))):Rl (mC G n) (dnL es n):=aOq h
theorem bEr {A:Nat->Option Nat} {cap:Nat->Nat} {R:Nat->List RatM} {G:Nat->RatM} {n b k:Nat} {Aa:Option Nat} {aa:Nat}:(dX n λj=>if j=k then .s 2 b else hdR A cap R j).map (nO 2 Aa aa)=dX n (hdR (upd A k Aa) (upd cap k aa) (upd R k (mC G b))):=by
 unfold dX
 rw[kB]
 refine dW λj _=>?_
 show nO 2 Aa aa (if j=k then .s 2 b else hdR A cap R j)=_
 by_cases h:j=k
 ·subst h;simp only[if_true,hdR,bP,zQ];rfl
 simp only[if_neg h,hdR,bK h];rfl
theorem bOb {T n k:Nat} {A:Nat->Option Nat} {cap:Nat->Nat} {R:Nat->List RatM} {G:Nat->RatM} {b:Nat}:(⟨T,3,n,A,cap,upd (λj=>fl RatM.C default (R j)) k (flatR b λj=>(G j).C)⟩:Fam)=⟨T,3,n,A,cap,λi=>fl RatM.C default (upd R k (mC G b) i)⟩:=by
 congr 1
 funext i
 by_cases h:i=k
 ·subst h;rw[bP,bP,bEq]
 rw[bK h,bK h]
abbrev bEs:FuncId:=122
theorem cAp:Ent Tryz.prog bEs:=aV func122 rfl kR
theorem cAq:Tryz.prog.funcs[bEs]? =some Tryz.f122:=func122
abbrev elG (n k:Nat):List (Nat×DV):=[(4,.c (iC k)),(1,.c (.p 0 0)),(3,.c (.s 1 n))]
def oEl:Ord:=.treeX [] [2000,2001,2002,3,2004,2005,6,2007,8] (trS [9,2010,2011,2012,2013,1014])
theorem bVt (m:MatM) {M:Nat->List En} {a b B:Nat} (h:Mr m M a b B) (hb:rbM M a B) (h1:1<=B) (hB:B<=4398046511104) (ha:a<=4096) (hbn:b<=4096):CtrF Tryz.prog bEs [false,true] [.a m.C] [] [] (λg:(Nat->Option Nat)×(Nat->Nat)×(Nat->List RatM)=>⟨.c (.s 1 a),elB m a (dX a (hdR g.1 g.2.1 g.2.2)),[elF a g.1 g.2.1 g.2.2],∀i,i<a->Rl (g.2.2 i) (dnL (M i) b)⟩):=by
 obtain⟨mr,mc,md⟩:=m
 obtain rfl:mr=(a:Nat):=h.r
 obtain rfl:mc=(b:Nat):=h.c
 have hl:md.l.length=a:=h.ln
 refine gN gT cAp cAq rfl rfl rfl bL (λi T es l hi=>by cases hi) (aA gT mxd ⟨a,⟨rfl,rfl,by show 24*a<=_;omega,by simp only[maxLen];omega⟩,?_⟩)
 show Sd _ _ _ _ _ _
 refine aQx tSd 62 3 a bL (iS tSd (l:=List.replicate a (.v (.slice none 0 0))) 1 (dX a (hdR (λ_=>none) (λ_=>0) λ_=>[])) rfl (by rw[dF,cT]) (λk c c' h1 h2=>?_) ?_)
 ·have hk:k<a:=by have:=cZ h1;simpa using this
  have h3:=eH (P:=hdR (λ_=>none) (λ_=>0) λ_=>[]) hk
  rw[bZ,h2] at h3
  injection h3 with h3
  rw[h3,(fP.1 (aN h1)).2]
  exact LeC.nilh
 refine dR (λ_=>true) (λg:Nat×(Nat->Option Nat)×(Nat->Nat)×(Nat->List RatM)=>elG a g.1) (λg=>elB ⟨a,b,md⟩ a (dX a (hdR g.2.1 g.2.2.1 g.2.2.2))) (λg=>[elF a g.2.1 g.2.2.1 g.2.2.2]) (λg=>g.1<=a/\(∀j,j<g.1->Rl (g.2.2.2 j) (dnL (M j) b))/\∀j,g.1<=j->g.2.1 j=none) (λg=>a-g.1) λhM=>⟨cH hM (chg:=λg:Nat×(Nat->Option Nat)×(Nat->Nat)×(Nat->List RatM)=>elG a g.1) (bls:=λg=>elB ⟨a,b,md⟩ a (dX a (hdR g.2.1 g.2.2.1 g.2.2.2))) (fls:=λg=>[elF a g.2.1 g.2.2.1 g.2.2.2]) (0,λ_=>none,λ_=>0,λ_=>[]) ⟨aC _,λj hj=>absurd hj (aM _),λ_ _=>rfl⟩ rfl ⟨rfl,rfl⟩ ⟨rfl,trivial⟩ ⟨rfl,rfl,rfl⟩ bL (aLu λ_ _=>rfl) rfl,λ⟨k,A,cap,R⟩ ⟨hk,hR,hA⟩=>aA gT mxd ⟨λh2=>aA gT mxd ?_,λh2=>?_⟩⟩
 all_goals
  replace hk:k<=a:=hk
  replace hR:∀j,j<k->Rl (R j) (dnL (M j) b):=hR
  replace hA:∀j,k<=j->A j=none:=hA
 ·have hkn:k<a:=by replace h2:(k:Int)<(a:Nat):=h2;omega
  have hok:=h.ok k hkn
  refine⟨oEl,by kernel_rfl,k,⟨rfl,show k<md.l.length by omega⟩,[],bVo (md.l.getD k dK) b (h.row k hkn) (hb k hkn) h1 hB hok.1 hbn (by have:=hok.2;omega),rfl,rfl,rfl,λG hG=>⟨rfl,k,⟨rfl,hkn,dG hkn⟩,_,jN (c:=.s 2 b) (Q:=λj=>if j=k then .s 2 b else hdR A cap R j) hkn λj _=>rfl,(k+1:Nat),wi,vN tGt 2 rfl bL (vW (λj=>gJ (G j)) b) bL rfl λAa aa=>⟨_,bEr (G:=G),bJl tGt 0 1 k rfl rfl rfl hkn (hA k (aF _)) bL rfl rfl (cH hM (chg:=λg:Nat×(Nat->Option Nat)×(Nat->Nat)×(Nat->List RatM)=>elG a g.1) (bls:=λg=>elB ⟨a,b,md⟩ a (dX a (hdR g.2.1 g.2.2.1 g.2.2.2))) (fls:=λg=>[elF a g.2.1 g.2.2.1 g.2.2.2]) (k+1,upd A k Aa,upd cap k aa,upd R k (mC G b)) ⟨⟨hkn,λj hj=>?_,λj hj=>?_⟩,show a-(k+1)<a-k by omega⟩ rfl ⟨rfl,rfl⟩ ⟨bOb,trivial⟩ ⟨rfl,rfl,rfl⟩ bL (aLu λ_ _=>rfl) rfl)⟩⟩⟩
  ·show Rl (upd R k (mC G b) j) _
   by_cases hjk:j=k
   ·subst hjk;rw[bP];exact bOa hG
   rw[bK hjk];exact hR j (by have:j<k+1:=hj;omega)
  have hj':k+1<=j:=hj
  exact(bK oM).trans (hA j oM)
 replace h2:¬(k:Int)<(a:Nat):=h2
 obtain rfl:k=a:=by omega
 refine aA gT mxd ?_
 exact aA gT mxd ⟨(A,cap,R),hR,fC rfl ⟨rfl,rfl⟩ ⟨rfl,trivial⟩ bL (aLu λ_ _=>rfl) rfl (bHl (aR λ_ _=>rfl))⟩
def rwS (A:Nat->Option Nat) (cap:Nat->Nat) (R:Nat->List RatM) (j:Nat):Sl RatM:=⟨(A j).map λb=>⟨b,0,none⟩,cap j,R j⟩
theorem bHp {n:Nat} {A:Nat->Option Nat} {cap:Nat->Nat} {R:Nat->List RatM} (j:Nat) (hj:j<n):FrC (elF n A cap R) (hdR A cap R j) (fZ (rwS A cap R j)):=⟨j,(R j).length,_,hj,rfl,rfl,(aFv (f:=RatM.C) (d:=default) (L:=R j) (e:=3) λ_=>rfl).symm,λk hk=>aXo (f:=RatM.C) (d:=default) (L:=R j) (e:=3) (λ_=>rfl) k hk⟩
def rX {α:Type} (S:Nat->α) (n:Nat):List α:=(List.range n).map S
theorem xL {α:Type} {S:Nat->α} {n j:Nat} {d:α} (h:j<n):(rX S n).getD j d=S j:=by unfold rX;simp[h]
theorem yH {α:Type} {S:Nat->α} {n:Nat}:(rX S n).length=n:=by unfold rX;simp
theorem aPa {n:Nat} {S:Nat->Sl RatM} (j:Nat) (hj:j<n):[fZ ((rX S n).getD j dK)]=((dX n λj=>fZ (S j)).drop (j*1)).take 1:=by
 rw[xL hj]
 have h1:=eH (P:=λj=>fZ (S j)) hj
 rw[bZ] at h1 ⊢
 rw[dV (by rw[dF];exact hj)]
 rw[aE (by rw[dF];exact hj)] at h1
 injection h1 with h1
 rw[h1];rfl
theorem aPb {A:Option Addr} {c n:Nat} {S:Nat->Sl RatM}:CV.r A n c 1 (λj=>[fZ ((rX S n).getD j dK)])=xK ⟨A,c,rX S n⟩:=by
 unfold xK Sl.R
 rw[yH]
theorem aYl (m:MatM) {M:Nat->List En} {n b B:Nat} (h:Mr m M n b B) (hb:rbM M n B) (h1:1<=B) (hB:B<=4398046511104) (hn:n<=4096) (hbn:b<=4096):Ctr Tryz.prog bEs [false,true] [.a m.C] [] (λg:Sl (Sl RatM)=>⟨.c (xK g),[],Rr g (λi=>dnL (M i) b) n b⟩):=by
 refine CtrF.gt (bVt m h hb h1 hB hn hbn) λ⟨A,cap,R⟩ hC _=>?_
 refine tE tGt 1 0 (dX n λj=>fZ (rwS A cap R j)) rfl rfl rfl (by rw[dF,dF]) (aFr bHp) ?_
 refine aEf tGt 0 1 (λj=>[fZ ((rX (rwS A cap R) n).getD j dK)]) rfl rfl aPa (by rw[dF,bZ]) bL (aR λ_ _=>rfl) bL λA2 c2 _ _=>?_
 refine cH (M:=λ_=>true) (base:=[]) (chg:=λg':Sl (Sl RatM)=>[(0,.c (xK g'))]) (bls:=λ_=>[]) (fls:=λ_=>[]) (λt d ht=>by cases ht) (⟨A2,c2,rX (rwS A cap R) n⟩:Sl (Sl RatM)) ⟨⟨yH,λi hi=>?_⟩,λi T es l h=>by cases h⟩ rfl trivial trivial ?_ (aF _) (λi T es l hi=>by cases hi) rfl
 ·rw[xL hi]
  exact⟨hC i hi,xH⟩
 exact aPb
theorem bVu {es:List En} {n:Nat} (h:VOk es n):fdF (dnL es n) n=es:=rO _ _ (xF n) h.1 (λe he=>by
 obtain⟨i,_,rfl,h3⟩:=yE e he
 exact h3) (λe he=>(h.2 e he).2.2) λi=>by
 rw[xG]
 by_cases hi:0<=i/\i<n
 ·rw[if_pos hi,aFq (show i.toNat<n by omega),Int.toNat_of_nonneg hi.1]
 rw[if_neg hi]
 exact(lS λe he h2=>hi (by have:=h.2 e he;omega)).symm
theorem Mk.congr {m:MatM} {M M':Nat->List En} {n b:Nat} (h:Mk m M n b) (he:∀i,i<n->M i=M' i):Mk m M' n b:=⟨h.r,h.c,h.ln,λi hi=>by rw[<-he i hi];exact h.row i hi,λi hi=>by rw[<-he i hi];exact h.ok i hi⟩
abbrev bOc:FuncId:=49
theorem cAr:Ent Tryz.prog bOc:=aV func49 rfl kR
theorem cAs:Tryz.prog.funcs[bOc]? =some Tryz.f49:=func49
def oCn:Ord:=.treeX [] [0,2002,3] (trS [1,4,1005])
theorem bVv (m:MatM) {M:Nat->List En} {n b B:Nat} (h:Mr m M n b B) (hb:rbM M n B) (h1:1<=B) (hB:B<=4398046511104) (hn:n<=4096) (hbn:b<=4096):Ctr Tryz.prog bOc [] [.a m.C] [] (λg:MatM=>⟨.a g.C,[],Mk g M n b⟩):=by
 have h':=h
 obtain⟨mr,mc,md⟩:=m
 obtain rfl:mr=(n:Nat):=h.r
 obtain rfl:mc=(b:Nat):=h.c
 have dn:∀i,i<n->rbL (dnL (M i) b) B:=λi hi q hq=>by
  obtain⟨j,_,rfl⟩:=bT.1 hq
  exact nS (h.ok i hi).1.1 (hb i hi) h1
 exact bE gT cAr cAs rfl rfl rfl bL aT (aA gT mxd ⟨oCn,by kernel_rfl,[],aYl _ h' hb h1 hB hn hbn,rfl,rfl,rfl,λd hd=>⟨rfl,[],bHo d hd dn h1 hB hn hbn,rfl,rfl,rfl,λg hg=>⟨rfl,g,Mk.congr hg λi hi=>bVu (h.ok i hi).1,aO rfl rfl trivial⟩⟩⟩)
theorem aPc {α:Type} {f:α->List CV} {d:α} {L:List α} {e k:Nat} {x:α} (h:∀x,(f x).length=e) (hk:k<L.length):kD (fl f d L) (k*e) (f x)=fl f d (L.set k x)/\k*e+(f x).length<=(fl f d L).length:=by
 refine⟨?_,by rw[aFv h,h,<-eA];exact bF _ hk⟩
 unfold fl
 rw[aFo (h x) (λ_ _=>h _) hk,bI]
 refine lI λj hj=>?_
 by_cases e:j=k
 ·subst e;simp[hk]
 rw[if_neg e];simp[List.getD,jA (fG e)]
set_option maxRecDepth 20000
structure El where
 R:Nat->Sl EntM
 LA:Nat->Option Nat
 Lc:Nat->Nat
 L:Nat->List EntM
 CA:Nat->Option Nat
 Cc:Nat->Nat
 I:Nat->List CV
abbrev mpC (CA:Nat->Option Nat):Nat->CV:=λj=> .v (.map (CA j))
abbrev iY (l:List CV):List Nat:=l.map lT
abbrev elE (i1 i2 i3 i4 n a:Nat):TypeId×Nat×List CV:=(162,0,[.s i1 n,.s i2 n,.s i3 n,.s i4 a])
abbrev elR (n:Nat) (x:El):TypeId×Nat×List CV:=(65,1,dX n λj=>bR (x.R j))
abbrev elL (n:Nat) (x:El):TypeId×Nat×List CV:=(65,1,dX n (hdP x.LA x.Lc x.L))
abbrev elC (n:Nat) (x:El):TypeId×Nat×List CV:=(210,1,dX n (mpC x.CA))
abbrev elA (A:List Int):TypeId×Nat×List CV:=(3,1,A.map iC)
abbrev LF (n:Nat) (x:El):Fam:=⟨82,4,n,x.LA,x.Lc,λj=>ecs (x.L j)⟩
abbrev CF (n:Nat) (x:El):Fam:=⟨1000000,1,n,x.CA,x.Cc,x.I⟩
structure ElOk (x:El) (n:Nat) (es lw:Nat->List En) (used:Nat->Prop):Prop where
 row:∀i,i<n->Ek (x.R i).l (es i)
 ok:∀i,i<n->VOk (es i) (n:Nat)/\(es i).length<=n
 low:∀i,i<n->Ek (x.L i) (lw i)
 ca:∀j,j<n->∃b,x.CA j=some b
 nd:∀j,j<n->(iY (x.I j)).Nodup
 mem:∀j,j<n->∀i,i∈iY (x.I j)↔(i<n/\¬used i)/\Vm.get (es i) (j:Nat)≠0
theorem rpm {φ:CV->CV} {n:Nat} {c:CV} (h:∀c,fB c=true->φ c=c) (hc:fB c=true):(List.replicate n c).map φ=List.replicate n c:=by rw[List.map_replicate,h c hc]
theorem oV {n:Nat} {c:CV} (hc:fB c=true):∀x∈List.replicate n c,fB x=true:=λx hx=>by rw[(fP.1 hx).2];exact hc
theorem aPd {l:List CV} {c n i:Nat}:i∈iY (tS l c n).1↔i=n\/i∈iY l:=by
 unfold tS
 split
 ·next h=>exact⟨.inr,λh'=>h'.elim (λe=>e▸h) id⟩
 unfold iY
 rw[cJ,aQ]
 show i∈_\/i∈[n]↔_
 rw[aI]
 exact Or.comm
theorem aYm {l:List CV} {c n:Nat} (h:(iY l).Nodup):(iY (tS l c n).1).Nodup:=by
 unfold tS
 split
 ·exact h
 next hn=>
 unfold iY
 rw[cJ,jC]
 refine⟨h,by simp,λa ha b hb he=>?_⟩
 have hb':b=n:=aI.1 (show b∈[n] from hb)
 exact hn (by rw[<-hb',<-he];exact ha)
theorem aIn {l:List CV} {n:Nat}:iY (yY l n)=(iY l).filter λi=>!Nat.beq i n:=by
 unfold iY yY
 rw[List.filter_map]
 rfl
theorem bEt {l:List CV} {n i:Nat}:i∈iY (yY l n)↔i∈iY l/\i≠n:=by
 rw[aIn,mI]
 refine and_congr_right λ_=>?_
 cases h:Nat.beq i n with
 |true=>have:=aD h;simp[this]
 |false=>have:=lH h;simp[this]
theorem bOd {l:List CV} {n:Nat} (h:(iY l).Nodup):(iY (yY l n)).Nodup:=by
 rw[aIn];exact h.filter _
def aL (n j:Nat):List Int:=(List.range n).map λi=>if i<j then (i:Int) else 0
theorem aBq {n j:Nat}:(aL n j).map iC=dX n λi=>iC (if i<j then (i:Int) else 0):=by unfold aL dX;rw[kB];rfl
theorem bVw {n j k:Nat} (h:j<n):j*1<((aL n k).map iC).length:=by rw[aBq];exact dG h
theorem bOe {n j:Nat} (h:j<n):kD ((aL n j).map iC) (j*1) [iC (j:Int)]=(aL n (j+1)).map iC/\j*1+1<=((aL n j).map iC).length:=by
 rw[aBq,aBq]
 exact jN h λi _=>by
  by_cases e:i=j
  ·subst e;rw[if_pos rfl,if_pos (bN _)]
  rw[if_neg e]
  by_cases e2:i<j
  ·rw[if_pos e2,if_pos oM]
  rw[if_neg e2,if_neg oM]
theorem aYn {n:Nat}:aL n n=(List.range n).map λi:Nat=>(i:Int):=dW λi hi=>if_pos (cV.1 hi)
theorem sT {n:Nat} {c:CV} {P:Nat->CV} (h:∀j,j<n->LeC c (P j)) (k:Nat) (c1 c2:CV) (h1:(List.replicate n c)[k]? =some c1) (h2:(dX n P)[k]? =some c2):LeC c1 c2:=by
 have hk:k<n:=by have:=cZ h1;simpa using this
 have h3:=eH (P:=P) hk
 rw[bZ,h2] at h3
 injection h3 with h3
 rw[h3,(fP.1 (aN h1)).2]
 exact h k hk
abbrev stX (R:Nat->Sl EntM) (CA:Nat->Option Nat) (Cc:Nat->Nat) (I:Nat->List CV):El:=⟨R,λ_=>none,λ_=>0,λ_=>[],CA,Cc,I⟩
abbrev stB (m:MatM) (n:Nat) (x:El) (A:List Int):BL:=[(24,0,m.C),elR n x,elL n x,elC n x,elA A,elE 1 2 3 4 n n]
theorem vZ {m:MatM} {n:Nat} {x:El} {A:List Int}:scB 6 (stB m n x A):=aB rfl (aB (cI (aR λ_ _=>rfl)) (aB (cI (aR λ_ _=>rfl)) (aB (cI (aR λ_ _=>rfl)) (aB (cI (eI _)) (aB rfl bJ)))))
theorem eZ {c:Bool} {cl:List Bool} {T:TypeId} {es:Nat} {l:List CV} {bl:BL} (h:c=true->∀x∈l,fB x=true) (hr:ClB cl bl):ClB (c::cl) ((T,es,l)::bl):=λi T' es' l' hi hc=>by
 cases i with
 |zero=>
  injection hi with hi
  injection hi with _ hi
  injection hi with _ hi
  subst hi
  injection hc with hc
  exact h hc
 |succ i=>exact hr i T' es' l' hi hc
theorem bEu {m:MatM}:∀c∈m.C,fB c=true:=λc hc=>by
 rcases aW.1 hc with rfl|hc
 ·rfl
 rcases aW.1 hc with rfl|hc
 ·rfl
 rw[aI.1 hc];rfl
theorem bOf {m:MatM} {n:Nat} {x:El} {A:List Int}:ClB [true,true,true,true,true,false] (stB m n x A):=eZ (λ_=>bEu) (eZ (λ_=>aR λ_ _=>rfl) (eZ (λ_=>aR λ_ _=>rfl) (eZ (λ_=>aR λ_ _=>rfl) (eZ (λ_=>eI _) (eZ (λh=>by cases h) wW)))))
theorem aYo {α:Type} {f:Nat->α} {j:Nat} {x:α} (h:f j=x):upd f j x=f:=funext λi=>by
 by_cases e:i=j
 ·subst e;rw[bP,h]
 rw[bK e]
def KI (M:Nat->List En) (n i k:Nat) (I:Nat->List CV):Prop:=∀j,j<n->(iY (I j)).Nodup/\∀r,r∈iY (I j)↔(r<i/\Vm.get (M r) (j:Nat)≠0)\/(r=i/\∃e∈(M i).take k,e.1=(j:Nat))
theorem rH {es:List En} {n:Int} (h:VOk es n) (j:Int):Vm.get es j≠0↔∃e∈es,e.1=j:=by
 constructor
 ·intro hne
  refine bA λhh=>hne (lS λe he h2=>hh ⟨e,he,h2⟩)
 rintro⟨e,he,rfl⟩
 rw[vF h.1 he]
 exact(h.2 e he).2.2
theorem KI.next {M:Nat->List En} {n i k j0:Nat} {I:Nat->List CV} {c:Nat} (h:KI M n i k I) (hk:k<(M i).length) (hj:((M i).getD k default).1=(j0:Nat)):KI M n i (k+1) (upd I j0 (tS (I j0) c i).1):=λj hjn=>by
 have e1:(M i).take (k+1)=(M i).take k++[(M i).getD k default]:=by rw[cS,aE hk,gd hk];rfl
 obtain⟨h1,h2⟩:=h j hjn
 rw[e1]
 by_cases e:j=j0
 ·subst e
  rw[bP]
  refine⟨aYm h1,λr=>?_⟩
  rw[aPd,h2 r]
  constructor
  ·rintro(rfl|h3|⟨h3,e,he,h4⟩)
   ·exact .inr ⟨rfl,_,cX _ (.head _),hj⟩
   ·exact .inl h3
   exact .inr ⟨h3,e,cP _ he,h4⟩
  rintro(h3|⟨h3,_⟩)
  ·exact .inr (.inl h3)
  exact .inl h3
 rw[bK e]
 refine⟨h1,λr=>?_⟩
 rw[h2 r]
 refine or_congr_right (and_congr_right λ_=>⟨λ⟨e',he,h4⟩=>⟨e',cP _ he,h4⟩,λ⟨e',he,h4⟩=>?_⟩)
 rcases aQ.1 he with he|he
 ·exact⟨e',he,h4⟩
 rw[aI.1 he,hj] at h4;exact absurd (kI h4).symm e
theorem KI.row {M:Nat->List En} {n i:Nat} {I:Nat->List CV} (h:KI M n i (M i).length I) (hv:VOk (M i) (n:Nat)):KI M n (i+1) 0 I:=λj hj=>by
 obtain⟨h1,h2⟩:=h j hj
 refine⟨h1,λr=>?_⟩
 rw[h2 r,cU]
 constructor
 ·rintro(⟨h3,h4⟩|⟨rfl,h4⟩)
  ·exact .inl ⟨by omega,h4⟩
  exact .inl ⟨by omega,(rH hv _).2 h4⟩
 rintro(⟨h3,h4⟩|⟨_,e,he,_⟩)
 ·by_cases e:r=i
  ·subst e;exact .inr ⟨rfl,(rH hv _).1 h4⟩
  exact .inl ⟨by omega,h4⟩
 cases he
abbrev st1 (n j:Nat):List (Nat×DV):=[(25,.c (iC j)),(3,.c (.p 5 0)),(1,.c (.p 0 0)),(24,.c (iC n))]
abbrev st2 (m:MatM) (i:Nat):List (Nat×DV):=[(46,.c (iC i)),(3,.c (.p 5 0)),(1,.c (.p 0 0)),(44,.c (oL m.d)),(45,.c (iC (m.d.l.length:Nat)))]
abbrev st3 (m:MatM) (i k:Nat):List (Nat×DV):=(61,.c (iC k))::(5,.c (iC i))::(59,.c (bR (m.d.l.getD i dK)))::(60,.c (iC ((m.d.l.getD i dK).l.length:Nat)))::st2 m i
def bVx:Ord:=.treeX [] [2000,2001,2002,3,2004,2005] (trS [6,2007,1008])
def bVy:Ord:=.treeX [] [2000,2001,2002,3,2004,5,2006,1007,2008] (trS [1009])
abbrev aFx:FuncId:=113
theorem bEv:Ent Tryz.prog aFx:=aV func113 rfl kR
theorem bEw:Tryz.prog.funcs[aFx]? =some Tryz.f113:=func113
def oSt:Ord:=.joinX [] [2000,1,2003,4,2006,7,2009,10] (.alt 2 (.alt 5 (.alt 8 (.alt 11 (trS [2012,1013,2014]) .nil) (.alt 11 (.alt 8 (trS [2012,1013,2014]) .nil) .nil)) (.alt 8 (.alt 5 (.alt 11 (trS [2012,1013,2014]) .nil) (.alt 11 (.alt 5 (trS [2012,1013,2014]) .nil) .nil)) (.alt 11 (.alt 5 (.alt 8 (trS [2012,1013,2014]) .nil) (.alt 8 (.alt 5 (trS [2012,1013,2014]) .nil) .nil)) .nil))) (.alt 5 (.alt 2 (.alt 8 (.alt 11 (trS [2012,1013,2014]) .nil) (.alt 11 (.alt 8 (trS [2012,1013,2014]) .nil) .nil)) (.alt 8 (.alt 2 (.alt 11 (trS [2012,1013,2014]) .nil) (.alt 11 (.alt 2 (trS [2012,1013,2014]) .nil) .nil)) (.alt 11 (.alt 2 (.alt 8 (trS [2012,1013,2014]) .nil) (.alt 8 (.alt 2 (trS [2012,1013,2014]) .nil) .nil)) .nil))) (.alt 8 (.alt 2 (.alt 5 (.alt 11 (trS [2012,1013,2014]) .nil) (.alt 11 (.alt 5 (trS [2012,1013,2014]) .nil) .nil)) (.alt 5 (.alt 2 (.alt 11 (trS [2012,1013,2014]) .nil) (.alt 11 (.alt 2 (trS [2012,1013,2014]) .nil) .nil)) (.alt 11 (.alt 2 (.alt 5 (trS [2012,1013,2014]) .nil) (.alt 5 (.alt 2 (trS [2012,1013,2014]) .nil) .nil)) .nil))) (.alt 11 (.alt 2 (.alt 5 (.alt 8 (trS [2012,1013,2014]) .nil) (.alt 8 (.alt 5 (trS [2012,1013,2014]) .nil) .nil)) (.alt 5 (.alt 2 (.alt 8 (trS [2012,1013,2014]) .nil) (.alt 8 (.alt 2 (trS [2012,1013,2014]) .nil) .nil)) (.alt 8 (.alt 2 (.alt 5 (trS [2012,1013,2014]) .nil) (.alt 5 (.alt 2 (trS [2012,1013,2014]) .nil) .nil)) .nil))) .nil))))
theorem bEx (m:MatM) {M:Nat->List En} {n B:Nat} (h:Mr m M n n B) (hb:rbM M n B) (h1:1<=B) (hB:B<=4398046511104) (hn:n<=4096):CtrF Tryz.prog aFx [true,true,true,true,true,false] [.a m.C] [] [] (λx:El=>⟨.c (.p 5 0),[(24,0,m.C),elR n x,elL n x,elC n x,elA (aL n n),elE 1 2 3 4 n n],[LF n x,CF n x],ElOk x n M (λ_=>[]) (λ_=>False)⟩):=by
 obtain⟨mr,mc,md⟩:=m
 obtain rfl:mr=(n:Nat):=h.r
 obtain rfl:mc=(n:Nat):=h.c
 have hl:md.l.length=n:=h.ln
 have mk1:n<=maxLen:=by simp only[maxLen];omega
 have nilc:fB (.v (.slice none 0 0))=true:=rfl
 refine gN gT bEv bEw rfl rfl rfl bL (λi T es l hi=>by cases hi) (aA gT mxd ?_)
 have fin1:∀(sl:List (Nat×DV)),vM (λ_=>true) [] [] [] sl->AllC sl [(3,.c (.p 5 0)),(1,.c (.p 0 0))]->Gt 0 ⟨sl,[],[(24,0,(⟨n,n,md⟩:MatM).C),(65,1,List.replicate n (.v (.slice none 0 0))),(65,1,List.replicate n (.v (.slice none 0 0))),(210,1,List.replicate n (.v (.map none))),(3,1,List.replicate n (iC 0)),elE 1 2 3 4 n n],[]⟩ (σ:=Unit) (λ_=>⟨[(3,.c (.p 5 0)),(1,.c (.p 0 0))]++[],[],[(24,0,(⟨n,n,md⟩:MatM).C),(65,1,List.replicate n (.v (.slice none 0 0))),(65,1,List.replicate n (.v (.slice none 0 0))),(210,1,List.replicate n (.v (.map none))),(3,1,List.replicate n (iC 0)),elE 1 2 3 4 n n],[]⟩) (λ_=>True):=λsl ht ha=>by
  refine @cH 0 _ (λ_=>true) [] (λt d ht=>by cases ht) Unit (λ_=>[(3,.c (.p 5 0)),(1,.c (.p 0 0))]) (λ_=>[(24,0,(⟨n,n,md⟩:MatM).C),(65,1,List.replicate n (.v (.slice none 0 0))),(65,1,List.replicate n (.v (.slice none 0 0))),(210,1,List.replicate n (.v (.map none))),(3,1,List.replicate n (iC 0)),elE 1 2 3 4 n n]) (λ_=>[]) _ () trivial ht ?_ trivial ha (aC _) ?_ rfl
  ·exact⟨rfl,rfl,rfl,rfl,rfl,rfl⟩
  exact aB rfl (aB (cI (oV rfl)) (aB (cI (oV rfl)) (aB (cI (oV rfl)) (aB (cI (oV rfl)) (aB rfl bJ)))))
 refine⟨oSt,by kernel_rfl,Unit,λ_=>⟨[(3,.c (.p 5 0)),(1,.c (.p 0 0))]++[],[],[(24,0,(⟨n,n,md⟩:MatM).C),(65,1,List.replicate n (.v (.slice none 0 0))),(65,1,List.replicate n (.v (.slice none 0 0))),(210,1,List.replicate n (.v (.map none))),(3,1,List.replicate n (iC 0)),elE 1 2 3 4 n n],[]⟩,λ_=>True,?_,λ_ _=>?_⟩
 ·exact⟨⟨n,⟨rfl,rfl,by show 24*n<=_;omega,mk1⟩,rfl,⟨⟨n,⟨rfl,rfl,by show 24*n<=_;omega,mk1⟩,rfl,⟨⟨n,⟨rfl,rfl,by show 8*n<=_;omega,mk1⟩,rfl,⟨n,⟨rfl,rfl,by show 8*n<=_;omega,mk1⟩,rfl,fin1 _ (by rfl) (by exact⟨rfl,rfl⟩)⟩⟩,⟨n,⟨rfl,rfl,by show 8*n<=_;omega,mk1⟩,rfl,⟨n,⟨rfl,rfl,by show 8*n<=_;omega,mk1⟩,rfl,gsw 3 4 rfl rfl bL bL rfl ⟨_,rpm aK rfl,_,rpm aK rfl,_,rpm aK rfl,_,rpm aK rfl,bL,fin1 _ (by rfl) (by exact⟨rfl,rfl⟩)⟩⟩⟩⟩⟩,⟨n,⟨rfl,rfl,by show 8*n<=_;omega,mk1⟩,rfl,⟨⟨n,⟨rfl,rfl,by show 24*n<=_;omega,mk1⟩,rfl,⟨n,⟨rfl,rfl,by show 8*n<=_;omega,mk1⟩,rfl,gsw 2 3 rfl rfl bL bL rfl ⟨_,rpm aK rfl,_,rpm aK rfl,_,rpm aK rfl,_,rpm aK rfl,bL,fin1 _ (by rfl) (by exact⟨rfl,rfl⟩)⟩⟩⟩,⟨n,⟨rfl,rfl,by show 8*n<=_;omega,mk1⟩,rfl,⟨n,⟨rfl,rfl,by show 24*n<=_;omega,mk1⟩,rfl,gsw 2 4 rfl rfl bL bL rfl ⟨_,rpm aK rfl,_,rpm aK rfl,_,rpm aK rfl,_,rpm aK rfl,bL,gsw 3 4 rfl rfl bL bL rfl ⟨_,rpm aK rfl,_,rpm aK rfl,_,rpm aK rfl,_,rpm aK rfl,bL,fin1 _ (by rfl) (by exact⟨rfl,rfl⟩)⟩⟩⟩⟩⟩⟩,⟨n,⟨rfl,rfl,by show 8*n<=_;omega,mk1⟩,rfl,⟨⟨n,⟨rfl,rfl,by show 24*n<=_;omega,mk1⟩,rfl,⟨n,⟨rfl,rfl,by show 8*n<=_;omega,mk1⟩,rfl,gsw 2 3 rfl rfl bL bL rfl ⟨_,rpm aK rfl,_,rpm aK rfl,_,rpm aK rfl,_,rpm aK rfl,bL,gsw 3 4 rfl rfl bL bL rfl ⟨_,rpm aK rfl,_,rpm aK rfl,_,rpm aK rfl,_,rpm aK rfl,bL,fin1 _ (by rfl) (by exact⟨rfl,rfl⟩)⟩⟩⟩⟩,⟨n,⟨rfl,rfl,by show 8*n<=_;omega,mk1⟩,rfl,⟨n,⟨rfl,rfl,by show 24*n<=_;omega,mk1⟩,rfl,gsw 2 4 rfl rfl bL bL rfl ⟨_,rpm aK rfl,_,rpm aK rfl,_,rpm aK rfl,_,rpm aK rfl,bL,fin1 _ (by rfl) (by exact⟨rfl,rfl⟩)⟩⟩⟩⟩⟩⟩⟩,⟨n,⟨rfl,rfl,by show 24*n<=_;omega,mk1⟩,rfl,⟨⟨n,⟨rfl,rfl,by show 24*n<=_;omega,mk1⟩,rfl,⟨⟨n,⟨rfl,rfl,by show 8*n<=_;omega,mk1⟩,rfl,⟨n,⟨rfl,rfl,by show 8*n<=_;omega,mk1⟩,rfl,gsw 1 2 rfl rfl bL bL rfl ⟨_,rpm aK rfl,_,rpm aK rfl,_,rpm aK rfl,_,rpm aK rfl,bL,fin1 _ (by rfl) (by exact⟨rfl,rfl⟩)⟩⟩⟩,⟨n,⟨rfl,rfl,by show 8*n<=_;omega,mk1⟩,rfl,⟨n,⟨rfl,rfl,by show 8*n<=_;omega,mk1⟩,rfl,gsw 1 2 rfl rfl bL bL rfl ⟨_,rpm aK rfl,_,rpm aK rfl,_,rpm aK rfl,_,rpm aK rfl,bL,gsw 3 4 rfl rfl bL bL rfl ⟨_,rpm aK rfl,_,rpm aK rfl,_,rpm aK rfl,_,rpm aK rfl,bL,fin1 _ (by rfl) (by exact⟨rfl,rfl⟩)⟩⟩⟩⟩⟩⟩,⟨n,⟨rfl,rfl,by show 8*n<=_;omega,mk1⟩,rfl,⟨⟨n,⟨rfl,rfl,by show 24*n<=_;omega,mk1⟩,rfl,⟨n,⟨rfl,rfl,by show 8*n<=_;omega,mk1⟩,rfl,gsw 1 3 rfl rfl bL bL rfl ⟨_,rpm aK rfl,_,rpm aK rfl,_,rpm aK rfl,_,rpm aK rfl,bL,gsw 2 3 rfl rfl bL bL rfl ⟨_,rpm aK rfl,_,rpm aK rfl,_,rpm aK rfl,_,rpm aK rfl,bL,fin1 _ (by rfl) (by exact⟨rfl,rfl⟩)⟩⟩⟩⟩,⟨n,⟨rfl,rfl,by show 8*n<=_;omega,mk1⟩,rfl,⟨n,⟨rfl,rfl,by show 24*n<=_;omega,mk1⟩,rfl,gsw 1 4 rfl rfl bL bL rfl ⟨_,rpm aK rfl,_,rpm aK rfl,_,rpm aK rfl,_,rpm aK rfl,bL,gsw 2 4 rfl rfl bL bL rfl ⟨_,rpm aK rfl,_,rpm aK rfl,_,rpm aK rfl,_,rpm aK rfl,bL,gsw 3 4 rfl rfl bL bL rfl ⟨_,rpm aK rfl,_,rpm aK rfl,_,rpm aK rfl,_,rpm aK rfl,bL,fin1 _ (by rfl) (by exact⟨rfl,rfl⟩)⟩⟩⟩⟩⟩⟩⟩,⟨n,⟨rfl,rfl,by show 8*n<=_;omega,mk1⟩,rfl,⟨⟨n,⟨rfl,rfl,by show 24*n<=_;omega,mk1⟩,rfl,⟨n,⟨rfl,rfl,by show 8*n<=_;omega,mk1⟩,rfl,gsw 1 3 rfl rfl bL bL rfl ⟨_,rpm aK rfl,_,rpm aK rfl,_,rpm aK rfl,_,rpm aK rfl,bL,gsw 2 3 rfl rfl bL bL rfl ⟨_,rpm aK rfl,_,rpm aK rfl,_,rpm aK rfl,_,rpm aK rfl,bL,gsw 3 4 rfl rfl bL bL rfl ⟨_,rpm aK rfl,_,rpm aK rfl,_,rpm aK rfl,_,rpm aK rfl,bL,fin1 _ (by rfl) (by exact⟨rfl,rfl⟩)⟩⟩⟩⟩⟩,⟨n,⟨rfl,rfl,by show 8*n<=_;omega,mk1⟩,rfl,⟨n,⟨rfl,rfl,by show 24*n<=_;omega,mk1⟩,rfl,gsw 1 4 rfl rfl bL bL rfl ⟨_,rpm aK rfl,_,rpm aK rfl,_,rpm aK rfl,_,rpm aK rfl,bL,gsw 2 4 rfl rfl bL bL rfl ⟨_,rpm aK rfl,_,rpm aK rfl,_,rpm aK rfl,_,rpm aK rfl,bL,fin1 _ (by rfl) (by exact⟨rfl,rfl⟩)⟩⟩⟩⟩⟩⟩⟩⟩,⟨n,⟨rfl,rfl,by show 8*n<=_;omega,mk1⟩,rfl,⟨⟨n,⟨rfl,rfl,by show 24*n<=_;omega,mk1⟩,rfl,⟨⟨n,⟨rfl,rfl,by show 24*n<=_;omega,mk1⟩,rfl,⟨n,⟨rfl,rfl,by show 8*n<=_;omega,mk1⟩,rfl,gsw 1 2 rfl rfl bL bL rfl ⟨_,rpm aK rfl,_,rpm aK rfl,_,rpm aK rfl,_,rpm aK rfl,bL,gsw 2 3 rfl rfl bL bL rfl ⟨_,rpm aK rfl,_,rpm aK rfl,_,rpm aK rfl,_,rpm aK rfl,bL,fin1 _ (by rfl) (by exact⟨rfl,rfl⟩)⟩⟩⟩⟩,⟨n,⟨rfl,rfl,by show 8*n<=_;omega,mk1⟩,rfl,⟨n,⟨rfl,rfl,by show 24*n<=_;omega,mk1⟩,rfl,gsw 1 2 rfl rfl bL bL rfl ⟨_,rpm aK rfl,_,rpm aK rfl,_,rpm aK rfl,_,rpm aK rfl,bL,gsw 2 4 rfl rfl bL bL rfl ⟨_,rpm aK rfl,_,rpm aK rfl,_,rpm aK rfl,_,rpm aK rfl,bL,gsw 3 4 rfl rfl bL bL rfl ⟨_,rpm aK rfl,_,rpm aK rfl,_,rpm aK rfl,_,rpm aK rfl,bL,fin1 _ (by rfl) (by exact⟨rfl,rfl⟩)⟩⟩⟩⟩⟩⟩⟩,⟨n,⟨rfl,rfl,by show 24*n<=_;omega,mk1⟩,rfl,⟨⟨n,⟨rfl,rfl,by show 24*n<=_;omega,mk1⟩,rfl,⟨n,⟨rfl,rfl,by show 8*n<=_;omega,mk1⟩,rfl,gsw 1 3 rfl rfl bL bL rfl ⟨_,rpm aK rfl,_,rpm aK rfl,_,rpm aK rfl,_,rpm aK rfl,bL,fin1 _ (by rfl) (by exact⟨rfl,rfl⟩)⟩⟩⟩,⟨n,⟨rfl,rfl,by show 8*n<=_;omega,mk1⟩,rfl,⟨n,⟨rfl,rfl,by show 24*n<=_;omega,mk1⟩,rfl,gsw 1 4 rfl rfl bL bL rfl ⟨_,rpm aK rfl,_,rpm aK rfl,_,rpm aK rfl,_,rpm aK rfl,bL,gsw 3 4 rfl rfl bL bL rfl ⟨_,rpm aK rfl,_,rpm aK rfl,_,rpm aK rfl,_,rpm aK rfl,bL,fin1 _ (by rfl) (by exact⟨rfl,rfl⟩)⟩⟩⟩⟩⟩⟩,⟨n,⟨rfl,rfl,by show 8*n<=_;omega,mk1⟩,rfl,⟨⟨n,⟨rfl,rfl,by show 24*n<=_;omega,mk1⟩,rfl,⟨n,⟨rfl,rfl,by show 24*n<=_;omega,mk1⟩,rfl,gsw 1 3 rfl rfl bL bL rfl ⟨_,rpm aK rfl,_,rpm aK rfl,_,rpm aK rfl,_,rpm aK rfl,bL,gsw 2 4 rfl rfl bL bL rfl ⟨_,rpm aK rfl,_,rpm aK rfl,_,rpm aK rfl,_,rpm aK rfl,bL,fin1 _ (by rfl) (by exact⟨rfl,rfl⟩)⟩⟩⟩⟩,⟨n,⟨rfl,rfl,by show 24*n<=_;omega,mk1⟩,rfl,⟨n,⟨rfl,rfl,by show 24*n<=_;omega,mk1⟩,rfl,gsw 1 4 rfl rfl bL bL rfl ⟨_,rpm aK rfl,_,rpm aK rfl,_,rpm aK rfl,_,rpm aK rfl,bL,gsw 2 3 rfl rfl bL bL rfl ⟨_,rpm aK rfl,_,rpm aK rfl,_,rpm aK rfl,_,rpm aK rfl,bL,gsw 3 4 rfl rfl bL bL rfl ⟨_,rpm aK rfl,_,rpm aK rfl,_,rpm aK rfl,_,rpm aK rfl,bL,fin1 _ (by rfl) (by exact⟨rfl,rfl⟩)⟩⟩⟩⟩⟩⟩⟩⟩⟩,⟨n,⟨rfl,rfl,by show 8*n<=_;omega,mk1⟩,rfl,⟨⟨n,⟨rfl,rfl,by show 24*n<=_;omega,mk1⟩,rfl,⟨⟨n,⟨rfl,rfl,by show 24*n<=_;omega,mk1⟩,rfl,⟨n,⟨rfl,rfl,by show 8*n<=_;omega,mk1⟩,rfl,gsw 1 2 rfl rfl bL bL rfl ⟨_,rpm aK rfl,_,rpm aK rfl,_,rpm aK rfl,_,rpm aK rfl,bL,gsw 2 3 rfl rfl bL bL rfl ⟨_,rpm aK rfl,_,rpm aK rfl,_,rpm aK rfl,_,rpm aK rfl,bL,gsw 3 4 rfl rfl bL bL rfl ⟨_,rpm aK rfl,_,rpm aK rfl,_,rpm aK rfl,_,rpm aK rfl,bL,fin1 _ (by rfl) (by exact⟨rfl,rfl⟩)⟩⟩⟩⟩⟩,⟨n,⟨rfl,rfl,by show 8*n<=_;omega,mk1⟩,rfl,⟨n,⟨rfl,rfl,by show 24*n<=_;omega,mk1⟩,rfl,gsw 1 2 rfl rfl bL bL rfl ⟨_,rpm aK rfl,_,rpm aK rfl,_,rpm aK rfl,_,rpm aK rfl,bL,gsw 2 4 rfl rfl bL bL rfl ⟨_,rpm aK rfl,_,rpm aK rfl,_,rpm aK rfl,_,rpm aK rfl,bL,fin1 _ (by rfl) (by exact⟨rfl,rfl⟩)⟩⟩⟩⟩⟩⟩,⟨n,⟨rfl,rfl,by show 24*n<=_;omega,mk1⟩,rfl,⟨⟨n,⟨rfl,rfl,by show 24*n<=_;omega,mk1⟩,rfl,⟨n,⟨rfl,rfl,by show 8*n<=_;omega,mk1⟩,rfl,gsw 1 3 rfl rfl bL bL rfl ⟨_,rpm aK rfl,_,rpm aK rfl,_,rpm aK rfl,_,rpm aK rfl,bL,gsw 3 4 rfl rfl bL bL rfl ⟨_,rpm aK rfl,_,rpm aK rfl,_,rpm aK rfl,_,rpm aK rfl,bL,fin1 _ (by rfl) (by exact⟨rfl,rfl⟩)⟩⟩⟩⟩,⟨n,⟨rfl,rfl,by show 8*n<=_;omega,mk1⟩,rfl,⟨n,⟨rfl,rfl,by show 24*n<=_;omega,mk1⟩,rfl,gsw 1 4 rfl rfl bL bL rfl ⟨_,rpm aK rfl,_,rpm aK rfl,_,rpm aK rfl,_,rpm aK rfl,bL,fin1 _ (by rfl) (by exact⟨rfl,rfl⟩)⟩⟩⟩⟩⟩,⟨n,⟨rfl,rfl,by show 8*n<=_;omega,mk1⟩,rfl,⟨⟨n,⟨rfl,rfl,by show 24*n<=_;omega,mk1⟩,rfl,⟨n,⟨rfl,rfl,by show 24*n<=_;omega,mk1⟩,rfl,gsw 1 3 rfl rfl bL bL rfl ⟨_,rpm aK rfl,_,rpm aK rfl,_,rpm aK rfl,_,rpm aK rfl,bL,gsw 2 4 rfl rfl bL bL rfl ⟨_,rpm aK rfl,_,rpm aK rfl,_,rpm aK rfl,_,rpm aK rfl,bL,gsw 3 4 rfl rfl bL bL rfl ⟨_,rpm aK rfl,_,rpm aK rfl,_,rpm aK rfl,_,rpm aK rfl,bL,fin1 _ (by rfl) (by exact⟨rfl,rfl⟩)⟩⟩⟩⟩⟩,⟨n,⟨rfl,rfl,by show 24*n<=_;omega,mk1⟩,rfl,⟨n,⟨rfl,rfl,by show 24*n<=_;omega,mk1⟩,rfl,gsw 1 4 rfl rfl bL bL rfl ⟨_,rpm aK rfl,_,rpm aK rfl,_,rpm aK rfl,_,rpm aK rfl,bL,gsw 2 3 rfl rfl bL bL rfl ⟨_,rpm aK rfl,_,rpm aK rfl,_,rpm aK rfl,_,rpm aK rfl,bL,fin1 _ (by rfl) (by exact⟨rfl,rfl⟩)⟩⟩⟩⟩⟩⟩⟩⟩⟩
 show Sd _ _ _ _ _ _
 refine iS tSd 1 (dX n λ_=>bR dK) rfl (by rw[dF,cT]) (sT λ_ _=>aCy) ?_
 refine iS tSd 2 (dX n (hdP (λ_=>none) (λ_=>0) λ_=>[])) rfl (by rw[dF,cT]) (sT λ_ _=>LeC.nilh) ?_
 refine iS tSd 3 (dX n (mpC λ_=>none)) rfl (by rw[dF,cT]) (sT λ_ _=>LeC.refl _) ?_
 refine iS tSd 4 ((aL n 0).map iC) rfl (by rw[aBq,dF,cT]) (by rw[aBq];exact sT λ_ _=>LeC.refl _) ?_
 refine aQx tSd 82 4 n bL (aQx tSd 1000000 1 n bL ?_)
 refine dR (λ_=>true) (λg:Nat×(Nat->Option Nat)=>st1 n g.1) (λg=>stB ⟨n,n,md⟩ n (stX (λ_=>dK) g.2 (λ_=>0) λ_=>[]) (aL n g.1)) (λg=>[LF n (stX (λ_=>dK) g.2 (λ_=>0) λ_=>[]),CF n (stX (λ_=>dK) g.2 (λ_=>0) λ_=>[])]) (λg=>g.1<=n/\(∀i,i<g.1->∃b,g.2 i=some b)/\∀i,g.1<=i->g.2 i=none) (λg=>n-g.1) λhM=>⟨cH hM (chg:=λg:Nat×(Nat->Option Nat)=>st1 n g.1) (bls:=λg=>stB ⟨n,n,md⟩ n (stX (λ_=>dK) g.2 (λ_=>0) λ_=>[]) (aL n g.1)) (fls:=λg=>[LF n (stX (λ_=>dK) g.2 (λ_=>0) λ_=>[]),CF n (stX (λ_=>dK) g.2 (λ_=>0) λ_=>[])]) (0,λ_=>none) ⟨aC _,λi hi=>absurd hi (aM _),λ_ _=>rfl⟩ rfl ⟨rfl,rfl,rfl,rfl,rfl,rfl⟩ ⟨rfl,rfl,trivial⟩ ⟨rfl,rfl,rfl,rfl⟩ bL vZ rfl,λ⟨j,CA⟩ ⟨hj,hA,hN⟩=>aA gT mxd ⟨λh2=>aA gT mxd ?_,λh2=>aA gT mxd ?_⟩⟩
 all_goals
  replace hj:j<=n:=hj
  replace hA:∀i,i<j->∃b,CA i=some b:=hA
  replace hN:∀i,j<=i->CA i=none:=hN
 ·have hjn:j<n:=by replace h2:(j:Int)<(n:Nat):=h2;omega
  refine λb=>⟨j,⟨rfl,hjn,dG hjn⟩,_,jN (c:=.v (.map (some b))) (Q:=mpC (upd CA j (some b))) hjn λi _=>?_,?_⟩
  ·by_cases e:i=j
   ·subst e;rw[if_pos rfl];show _=CV.v (.map _);rw[bP]
   rw[if_neg e];show _=CV.v (.map _);rw[bK e]
  refine⟨j,⟨rfl,hjn,bVw hjn⟩,_,bOe hjn,(j+1:Nat),wi,bJl tGt 1 2 j rfl rfl rfl hjn (hN j (aF _)) bL rfl rfl (cH hM (chg:=λg:Nat×(Nat->Option Nat)=>st1 n g.1) (bls:=λg=>stB ⟨n,n,md⟩ n (stX (λ_=>dK) g.2 (λ_=>0) λ_=>[]) (aL n g.1)) (fls:=λg=>[LF n (stX (λ_=>dK) g.2 (λ_=>0) λ_=>[]),CF n (stX (λ_=>dK) g.2 (λ_=>0) λ_=>[])]) (j+1,upd CA j (some b)) ⟨⟨hjn,λi hi=>?_,λi hi=>?_⟩,show n-(j+1)<n-j by omega⟩ rfl ⟨rfl,rfl,rfl,rfl,rfl,rfl⟩ ⟨rfl,?_,trivial⟩ ⟨rfl,rfl,rfl,rfl⟩ bL vZ rfl)⟩
  ·show ∃b',upd CA j (some b) i=some b'
   by_cases e:i=j
   ·subst e;exact⟨b,bP⟩
   rw[bK e];exact hA i (by have:i<j+1:=hi;omega)
  ·show upd CA j (some b) i=none
   have hi':j+1<=i:=hi
   rw[bK oM];exact hN i oM
  show(⟨1000000,1,n,upd CA j (some b),upd (λ_=>0) j 0,upd (λ_=>[]) j []⟩:Fam)=_
  rw[aYo (f:=λ_=>(0:Nat)) rfl,aYo (f:=λ_=>([]:List CV)) rfl]
 replace h2:¬(j:Int)<(n:Nat):=h2
 obtain rfl:j=n:=by omega
 refine aA gT mxd ?_
 show Sd _ _ _ _ _ _
 refine dR (λ_=>true) (λg:Nat×(Nat->Sl EntM)×(Nat->Nat)×(Nat->List CV)=>st2 ⟨j,j,md⟩ g.1) (λg=>stB ⟨j,j,md⟩ j (stX g.2.1 CA g.2.2.1 g.2.2.2) (aL j j)) (λg=>[LF j (stX g.2.1 CA g.2.2.1 g.2.2.2),CF j (stX g.2.1 CA g.2.2.1 g.2.2.2)]) (λg=>g.1<=j/\(∀i,i<g.1->Ek (g.2.1 i).l (M i))/\KI M j g.1 0 g.2.2.2) (λg=>j-g.1) λhM2=>⟨cH hM2 (chg:=λg:Nat×(Nat->Sl EntM)×(Nat->Nat)×(Nat->List CV)=>st2 ⟨j,j,md⟩ g.1) (bls:=λg=>stB ⟨j,j,md⟩ j (stX g.2.1 CA g.2.2.1 g.2.2.2) (aL j j)) (fls:=λg=>[LF j (stX g.2.1 CA g.2.2.1 g.2.2.2),CF j (stX g.2.1 CA g.2.2.1 g.2.2.2)]) (0,λ_=>dK,λ_=>0,λ_=>[]) ⟨aC _,λi hi=>absurd hi (aM _),λi hi=>⟨qF,λr=>⟨λhr=>absurd hr dP,λhr=>by
  rcases hr with ⟨hr,_⟩|⟨_,e,he,_⟩
  ·exact absurd hr (aM _)
  cases he⟩⟩⟩ rfl ⟨rfl,rfl,rfl,rfl,rfl,rfl⟩ ⟨rfl,rfl,trivial⟩ ⟨rfl,rfl,rfl,rfl,rfl⟩ bL vZ rfl,λ⟨i,R,Cc,I⟩ ⟨hi,hR,hI⟩=>aA gT mxd ⟨λh3=>aA gT mxd ?_,λh3=>aA gT mxd ?_⟩⟩
 all_goals
  replace hi:i<=j:=hi
  replace hR:∀k,k<i->Ek (R k).l (M k):=hR
  replace hI:KI M j i 0 I:=hI
 ·replace h3:(i:Int)<(md.l.length:Nat):=h3
  have hin:i<j:=by omega
  have hes:=h.row i hin
  have hok:=h.ok i hin
  have hle:(md.l.getD i dK).l.length=(M i).length:=hes.ln
  refine⟨i,⟨rfl,show i<md.l.length by omega⟩,bVx,by kernel_rfl,[],aFm (md.l.getD i dK) hes (hb i hin) h1 hB hok.1.1 (λe he=>(hok.1.2 e he).2.2) oM,rfl,rfl,rfl,λg hg=>⟨rfl,i,⟨rfl,hin,dG hin⟩,_,jN (c:=bR g) (Q:=λk=>bR (upd R i g k)) hin (λk _=>?_),?_⟩⟩
  ·by_cases e:k=i
   ·subst e;rw[if_pos rfl,bP]
   rw[if_neg e,bK e]
  show Sd _ _ _ _ _ _
  refine dR (λ_=>true) (λg':Nat×(Nat->Nat)×(Nat->List CV)=>st3 ⟨j,j,md⟩ i g'.1) (λg'=>stB ⟨j,j,md⟩ j (stX (upd R i g) CA g'.2.1 g'.2.2) (aL j j)) (λg'=>[LF j (stX (upd R i g) CA g'.2.1 g'.2.2),CF j (stX (upd R i g) CA g'.2.1 g'.2.2)]) (λg'=>g'.1<=(M i).length/\KI M j i g'.1 g'.2.2) (λg'=>(M i).length-g'.1) λhM3=>⟨cH hM3 (chg:=λg':Nat×(Nat->Nat)×(Nat->List CV)=>st3 ⟨j,j,md⟩ i g'.1) (bls:=λg'=>stB ⟨j,j,md⟩ j (stX (upd R i g) CA g'.2.1 g'.2.2) (aL j j)) (fls:=λg'=>[LF j (stX (upd R i g) CA g'.2.1 g'.2.2),CF j (stX (upd R i g) CA g'.2.1 g'.2.2)]) (0,Cc,I) ⟨aC _,hI⟩ rfl ⟨rfl,rfl,rfl,rfl,rfl,rfl⟩ ⟨rfl,rfl,trivial⟩ ⟨rfl,rfl,rfl,rfl,rfl,rfl,rfl,rfl,rfl⟩ bL vZ rfl,λ⟨k,Cc,I⟩ ⟨hk,hI⟩=>aA gT mxd ⟨λh4=>aA gT mxd ?_,λh4=>aA gT mxd ?_⟩⟩
  all_goals
   replace hk:k<=(M i).length:=hk
   replace hI:KI M j i k I:=hI
  ·replace h4:(k:Int)<((md.l.getD i dK).l.length:Nat):=h4
   have hkl:k<(M i).length:=by omega
   have he:=hes.e k hkl
   have e0:=hok.1.2 _ (gW hkl)
   obtain⟨j0,hj0⟩:∃j0:Nat,((M i).getD k default).1=(j0:Nat):=⟨((M i).getD k default).1.toNat,by omega⟩
   have hjn:j0<j:=by omega
   have hix:((md.l.getD i dK).l.getD k default).ix=(j0:Nat):=he.1.trans hj0
   obtain⟨b,hbj⟩:=hA j0 hjn
   have hcell:(dX j (mpC CA))[j0*1]? =some (.v (.map (some b))):=by rw[eH hjn];exact congrArg (λo=>some (CV.v (.map o))) hbj
   refine⟨k,⟨rfl,show k<(md.l.getD i dK).l.length by omega⟩,bVy,by kernel_rfl,j0,⟨hix,hjn,dG hjn⟩,_,_,⟨hcell,rfl⟩,1,j0,i,⟨hjn,hbj,rfl⟩,(k+1:Nat),wi,?_⟩
   exact cH hM3 (chg:=λg':Nat×(Nat->Nat)×(Nat->List CV)=>st3 ⟨j,j,md⟩ i g'.1) (bls:=λg'=>stB ⟨j,j,md⟩ j (stX (upd R i g) CA g'.2.1 g'.2.2) (aL j j)) (fls:=λg'=>[LF j (stX (upd R i g) CA g'.2.1 g'.2.2),CF j (stX (upd R i g) CA g'.2.1 g'.2.2)]) (k+1,upd Cc j0 (tS (I j0) (Cc j0) i).2,upd I j0 (tS (I j0) (Cc j0) i).1) ⟨⟨hkl,hI.next hkl hj0⟩,show(M i).length-(k+1)<(M i).length-k by omega⟩ rfl ⟨rfl,rfl,rfl,rfl,rfl,rfl⟩ ⟨rfl,rfl,trivial⟩ ⟨rfl,rfl,rfl,rfl,rfl,rfl,rfl,rfl,rfl⟩ bL vZ rfl
  replace h4:¬(k:Int)<((md.l.getD i dK).l.length:Nat):=h4
  obtain rfl:k=(M i).length:=by omega
  refine⟨(i+1:Nat),wi,cH hM2 (chg:=λg:Nat×(Nat->Sl EntM)×(Nat->Nat)×(Nat->List CV)=>st2 ⟨j,j,md⟩ g.1) (bls:=λg=>stB ⟨j,j,md⟩ j (stX g.2.1 CA g.2.2.1 g.2.2.2) (aL j j)) (fls:=λg=>[LF j (stX g.2.1 CA g.2.2.1 g.2.2.2),CF j (stX g.2.1 CA g.2.2.1 g.2.2.2)]) (i+1,upd R i g,Cc,I) ⟨⟨hin,λk' hk'=>?_,hI.row hok.1⟩,show j-(i+1)<j-i by omega⟩ rfl ⟨rfl,rfl,rfl,rfl,rfl,rfl⟩ ⟨rfl,rfl,trivial⟩ ⟨rfl,rfl,rfl,rfl,rfl⟩ bL vZ rfl⟩
  show Ek (upd R i g k').l (M k')
  by_cases e:k'=i
  ·subst e;rw[bP];exact hg
  rw[bK e];exact hR k' (by have:k'<i+1:=hk';omega)
 replace h3:¬(i:Int)<(md.l.length:Nat):=h3
 obtain rfl:i=j:=by omega
 refine aA gT mxd ?_
 exact⟨stX R CA Cc I,⟨hR,h.ok,λ_ _=>⟨rfl,λk hk=>absurd hk (aM _)⟩,hA,λc hc=>(hI c hc).1,λc hc r=>by
  rw[(hI c hc).2 r]
  refine⟨λhr=>?_,λ⟨⟨a,_⟩,b⟩=> .inl ⟨a,b⟩⟩
  rcases hr with ⟨a,b⟩|⟨_,e,he,_⟩
  ·exact⟨⟨a,id⟩,b⟩
  cases he⟩,fC rfl ⟨rfl,rfl,rfl,rfl,rfl,rfl⟩ ⟨rfl,rfl,trivial⟩ bL vZ rfl bOf⟩
end Go.Proofs.YtghncoghdcmdfaaGreat
