/- gridmarketlaw13.BasisOptimal: the basic solution and the basic multipliers of a primal and dual feasible basis prove each other optimal Part 4 of 6: Dd De Pg Df Dg Ph Pi Ud Ue Uf Ug Uh Ui Uj Uk Ul Um Un Uo Up Uq Ur Us Ut Uu Uv Uw Ux Uy Uz Sa Sb Sc Sd Sx Se Pj Sf. -/
import Derived.Shelf.Small.Bits
import Derived.Test.YtghncoghdcmdfaaGreatC3
set_option maxHeartbeats 4000000
set_option linter.unusedVariables false
set_option linter.unusedSimpArgs false
namespace Go.Proofs.YtghncoghdcmdfaaGreat
open Go.Vg Go.Vm _root_.Go.Proofs.Tryz
open Go.Vy hiding val
structure IntM where
 p:Prop
 d:Decidable p
 m:Sl Nat
def IntM.C (i:IntM):List CV:=[.b i.p i.d,dY i.m]
open Classical in
noncomputable def sg (p:Prop) (n:Nat):Int:=if p then-(n:Int) else n
structure In (i:IntM) (v:Int) (B:Nat):Prop where
 lm:Lm i.m.l
 ln:i.m.l.length<=B
 v:sg i.p (val i.m.l)=v
def Ci (i:IntM) (v:Int):Prop:=(i.p↔v<0)/\i.m.l=cW v.natAbs
abbrev xI (v:Int):IntM->Out:=λg=>⟨.a g.C,[],Ci g v⟩
theorem kE {p:Prop} {n:Nat} (h:p):sg p n=-(n:Int):=if_pos h
theorem kF {p:Prop} {n:Nat} (h:¬p):sg p n=n:=if_neg h
theorem aDg {p:Prop} {n:Nat}:(sg p n).natAbs=n:=by
 by_cases h:p
 ·rw[kE h];omega
 rw[kF h];omega
theorem aHk {p:Prop} {n:Nat}:sg p n<0↔p/\0<n:=by
 by_cases h:p
 ·rw[kE h];exact⟨λ_=>⟨h,by omega⟩,λh=>by omega⟩
 rw[kF h];exact⟨λh=>by omega,λh2=>absurd h2.1 h⟩
theorem Ci.in {i:IntM} {v:Int} {B:Nat} (h:Ci i v) (hb:len v.natAbs<=B):In i v B:=by
 obtain⟨lX,vX⟩:=dg h.2
 refine⟨lX,by rw[h.2];exact hb,?_⟩
 rw[vX]
 by_cases hp:i.p
 ·rw[kE hp];have:=h.1.1 hp;omega
 rw[kF hp];have:¬v<0:=λhv=>hp (h.1.2 hv);omega
theorem In.abs {i:IntM} {v:Int} {B:Nat} (h:In i v B):val i.m.l=v.natAbs:=by rw[<-h.v,aDg]
theorem In.len {i:IntM} {v:Int} {B:Nat} (h:In i v B):len v.natAbs<=B:=by rw[<-h.abs];exact aG (dN h.lm) h.ln
theorem In.le {i:IntM} {v:Int} {B B':Nat} (h:In i v B) (hb:B<=B':=by omega):In i v B':=⟨h.lm,aG h.ln hb,h.v⟩
theorem aRo {n:Nat}:0<len n↔0<n:=by have:=mZ (n:=n);omega
abbrev aNy:FuncId:=139
theorem bQj:Ent Tryz.prog aNy:=aW func139 rfl kR
theorem bQk:Tryz.prog.funcs[aNy]? =some Tryz.f139:=func139
theorem nI (p:Prop) {hp:Decidable p} (m:Sl Nat) (hm:Lm m.l) (hn:m.l.length<=35184372088832):Ctr Tryz.prog aNy [] [.c (.b p hp),.c (dY m)] [] (xI (sg p (val m.l))):=by
 refine aX gT bQj bQk rfl rfl rfl bL aS (aA gT mxd ⟨[],mX m hm hn,rfl,rfl,rfl,λX hX=>?_⟩)
 replace hX:X.l=cW (val m.l):=hX
 refine⟨⟨p/\(0:Int)<(X.l.length:Nat),inferInstance,X⟩,⟨?_,?_⟩,aM rfl rfl trivial⟩
 ·show(p/\(0:Int)<(X.l.length:Nat))↔_
  rw[aHk,hX,eY]
  have:=aRo (n:=val m.l)
  constructor
  ·rintro⟨h1,h2⟩;exact⟨h1,this.1 oM⟩
  rintro⟨h1,h2⟩;exact⟨h1,by have:=this.2 h2;omega⟩
 show X.l=_
 rw[aDg];exact hX
abbrev aNz:FuncId:=134
theorem bQl:Ent Tryz.prog aNz:=aW func134 rfl kR
theorem bQm:Tryz.prog.funcs[aNz]? =some Tryz.f134:=func134
theorem aHl (i:IntM) {v:Int} (h:In i v 35184372088832):Ctr Tryz.prog aNz [] [.a i.C] [] (xI v):=by
 refine aX gT bQl bQm rfl rfl rfl bL aS (aA gT mxd ⟨[],nI i.p i.m h.lm h.ln,rfl,rfl,rfl,λg hg=>⟨g,?_,aM rfl rfl trivial⟩⟩)
 rw[<-h.v];exact hg
abbrev aZr:FuncId:=138
theorem bZr:Ent Tryz.prog aZr:=aW func138 rfl kR
theorem bZs:Tryz.prog.funcs[aZr]? =some Tryz.f138:=func138
theorem aDh (i:IntM) {v:Int} (h:In i v 35184372088832):Ctr Tryz.prog aZr [] [.a i.C] [] (xI (-v)):=by
 refine aX gT bZr bZs rfl rfl rfl bL aS (aA gT mxd ⟨[],nI (¬i.p) i.m h.lm h.ln,rfl,rfl,rfl,λg hg=>⟨g,?_,aM rfl rfl trivial⟩⟩)
 have e:sg (¬i.p) (val i.m.l)=-v:=by
  rw[<-h.v]
  by_cases hp:i.p
  ·rw[kE hp,kF (λh=>h hp)];omega
  rw[kF hp,kE hp]
 rw[<-e];exact hg
abbrev aZs:FuncId:=196
theorem bZt:Ent Tryz.prog aZs:=aW func196 rfl kR
theorem bZu:Tryz.prog.funcs[aZs]? =some Tryz.f196:=func196
theorem bQn (i:IntM) {v:Int} (h:In i v 35184372088832):Ctr Tryz.prog aZs [] [.a i.C] [] (xI v.natAbs):=by
 refine aX gT bZt bZu rfl rfl rfl bL aS (aA gT mxd ⟨[],nI (false=true) i.m h.lm h.ln,rfl,rfl,rfl,λg hg=>⟨g,?_,aM rfl rfl trivial⟩⟩)
 rw[<-h.abs,<-kF (p:=false=true) dC];exact hg
theorem aZt {p q:Prop} {m n:Nat} (h:p↔q):sg p m+sg q n=sg p (m+n):=by
 by_cases hp:p
 ·rw[kE hp,kE (h.1 hp),kE hp];omega
 rw[kF hp,kF (λhq=>hp (h.2 hq)),kF hp];omega
theorem aHm {p q:Prop} {m n:Nat} (h:¬(p↔q)) (hmn:n<=m):sg p m+sg q n=sg p (m-n):=by
 by_cases hp:p
 ·rw[kE hp,kF (λhq=>h ⟨λ_=>hq,λ_=>hp⟩),kE hp];omega
 have hq:q:=aT λhq=>h ⟨λh=>absurd h hp,λh=>absurd h hq⟩
 rw[kF hp,kE hq,kF hp];omega
theorem aZu {p q:Prop} {m n:Nat}:sg p m*sg q n=sg (¬(p↔q)) (m*n):=by
 by_cases hp:p<;>by_cases hq:q
 ·rw[kE hp,kE hq,kF (λh=>h ⟨λ_=>hq,λ_=>hp⟩),Int.neg_mul_neg,fU]
 ·rw[kE hp,kF hq,kE (λh=>hq (h.1 hp)),wN,fU]
 ·rw[kF hp,kE hq,kE (λh=>hp (h.2 hq)),wQ,fU]
 rw[kF hp,kF hq,kF (λh=>h ⟨λh=>absurd h hp,λh=>absurd h hq⟩),fU]
theorem dgl {X:Sl Nat} {n B:Nat} (h:X.l=cW n) (hb:len n<=B):X.l.length<=B:=by rw[h];exact hb
theorem aRp (m n:Nat):len (m-n)<=len m:=fQ (Nat.sub_le m n)
abbrev aOa:FuncId:=106
theorem bQo:Ent Tryz.prog aOa:=aW func106 rfl kR
theorem bQp:Tryz.prog.funcs[aOa]? =some Tryz.f106:=func106
theorem xD {z:Int} (hz:-9223372036854775808<=z/\z<=9223372036854775807):Ctr Tryz.prog aOa [] [.c (iC z)] [] (xI z):=by
 refine aX gT bQo bQp rfl rfl rfl bL aS (aA gT mxd ⟨λh=>aA gT mxd ?_,λh=>aA gT mxd ?_⟩)
 ·have hl:=qE (n:=z.natAbs)
  refine⟨z+1,wi,0-(z+1),wi,((-(z+1)).toNat:Nat),wu,(z.natAbs:Nat),wu,[],aGz (n:=z.natAbs) oM,rfl,rfl,rfl,λg hg=>?_⟩
  replace hg:g.l=cW z.natAbs:=hg
  obtain⟨lg,vg⟩:=dg hg
  refine⟨[],nI (true=true) g lg (dgl hg oM),rfl,rfl,rfl,λi hi=>⟨i,?_,aM rfl rfl trivial⟩⟩
  have e:sg (true=true) (val g.l)=z:=by rw[kE rfl,vg];omega
  rw[<-e];exact hi
 have hl:=qE (n:=z.natAbs)
 refine⟨(z.natAbs:Nat),wu,[],aGz (n:=z.natAbs) oM,rfl,rfl,rfl,λg hg=>?_⟩
 replace hg:g.l=cW z.natAbs:=hg
 obtain⟨lg,vg⟩:=dg hg
 refine⟨[],nI (false=true) g lg (dgl hg oM),rfl,rfl,rfl,λi hi=>⟨i,?_,aM rfl rfl trivial⟩⟩
 have e:sg (false=true) (val g.l)=z:=by rw[kF dC,vg];omega
 rw[<-e];exact hi
def sgn (z:Int):Int:=if z<0 then-1 else if z=0 then 0 else 1
abbrev aOb:FuncId:=133
theorem bQq:Ent Tryz.prog aOb:=aW func133 rfl kR
theorem bQr:Tryz.prog.funcs[aOb]? =some Tryz.f133:=func133
theorem bHt (i:IntM) {v:Int} (h:In i v 35184372088832):Ctr Tryz.prog aOb [] [.a i.C] [] (λ_:Unit=>⟨.c (iC (sgn v)),[],True⟩):=by
 refine aX gT bQq bQr rfl rfl rfl bL aS (aA gT mxd ⟨[],aHl i h,rfl,rfl,rfl,λg hg=>⟨λh1=>aA gT mxd ?_,λh1=>aA gT mxd ⟨λh2=>aA gT mxd ?_,λh2=>aA gT mxd ?_⟩⟩⟩)
 all_goals replace hg:Ci g v:=hg
 ·exact⟨(),trivial,aM (show(-1:Int)=_ by unfold sgn;rw[if_pos (hg.1.1 h1)]) rfl trivial⟩
 all_goals
  have h3:¬v<0:=λh=>h1 (hg.1.2 h)
  have h4:=mZ (n:=v.natAbs)
  rw[hg.2,eY] at h2
 ·exact⟨(),trivial,aM (show(0:Int)=_ by unfold sgn;rw[if_neg h3,if_pos oM]) rfl trivial⟩
 exact⟨(),trivial,aM (show(1:Int)=_ by unfold sgn;rw[if_neg h3,if_neg oM]) rfl trivial⟩
abbrev aZv:FuncId:=75
theorem bZv:Ent Tryz.prog aZv:=aW func75 rfl kR
theorem bZw:Tryz.prog.funcs[aZv]? =some Tryz.f75:=func75
theorem aHn (i j:IntM) {a b:Int} (hi:In i a 17592186044416) (hj:In j b 17592186044416):Ctr Tryz.prog aZv [] [.a i.C,.a j.C] [] (xI (a+b)):=by
 have hli:=hi.ln
 have hlj:=hj.ln
 have hla:len (val i.m.l)<=17592186044416:=by rw[hi.abs];exact hi.len
 have hlb:len (val j.m.l)<=17592186044416:=by rw[hj.abs];exact hj.len
 refine aX gT bZv bZw rfl rfl rfl bL aS (aA gT mxd ⟨λh=>aA gT mxd ?_,λh=>aA gT mxd ?_⟩)
 ·refine⟨.seq [(0,false),(1,false),(2,false),(3,false),(4,false),(5,false),(6,false),(7,false),(8,true)],by kernel_rfl,[],aZa i.m j.m hi.lm hj.lm hli hlj,rfl,rfl,rfl,λg hg=>?_⟩
  replace hg:g.l=cW (val i.m.l+val j.m.l):=hg
  obtain⟨lg,vg⟩:=dg hg
  have:=yA (val i.m.l) (val j.m.l)
  refine⟨[],nI i.p g lg (dgl hg oM),rfl,rfl,rfl,λr hr=>⟨r,?_,aM rfl rfl trivial⟩⟩
  rw[<-hi.v,<-hj.v,aZt h,<-vg];exact hr
 refine⟨[],aZb i.m j.m hi.lm hj.lm hli hlj,rfl,rfl,rfl,λg hg=>⟨λh1=>aA gT mxd ?_,λh1=>aA gT mxd ?_⟩⟩
 ·replace hg:g.l=cW (val i.m.l-val j.m.l):=hg
  obtain⟨lg,vg⟩:=dg hg
  have:=aRp (val i.m.l) (val j.m.l)
  refine⟨[],nI i.p g lg (dgl hg oM),rfl,rfl,rfl,λr hr=>⟨r,?_,aM rfl rfl trivial⟩⟩
  rw[<-hi.v,<-hj.v,aHm h h1,<-vg];exact hr
 refine⟨[],aZb j.m i.m hj.lm hi.lm hlj hli,rfl,rfl,rfl,λg hg=>?_⟩
 replace hg:g.l=cW (val j.m.l-val i.m.l):=hg
 obtain⟨lg,vg⟩:=dg hg
 have:=aRp (val j.m.l) (val i.m.l)
 refine⟨[],nI j.p g lg (dgl hg oM),rfl,rfl,rfl,λr hr=>⟨r,?_,aM rfl rfl trivial⟩⟩
 rw[<-hi.v,<-hj.v,Int.add_comm,aHm (λh'=>h h'.symm) oM,<-vg];exact hr
abbrev aZw:FuncId:=197
theorem bZx:Ent Tryz.prog aZw:=aW func197 rfl kR
theorem bZy:Tryz.prog.funcs[aZw]? =some Tryz.f197:=func197
theorem bQs (i j:IntM) {a b:Int} (hi:In i a 17592186044416) (hj:In j b 17592186044416):Ctr Tryz.prog aZw [] [.a i.C,.a j.C] [] (xI (a-b)):=by
 refine aX gT bZx bZy rfl rfl rfl bL aS (aA gT mxd ⟨.seq [(0,false),(1,false),(2,false),(3,false),(4,true)],by kernel_rfl,[],aDh j hj.le,rfl,rfl,rfl,λg hg=>?_⟩)
 replace hg:Ci g (-b):=hg
 have hlb:=hj.len
 refine⟨[],aHn i g hi (hg.in (by rw[wP];exact hlb)),rfl,rfl,rfl,λr hr=>⟨r,?_,aM rfl rfl trivial⟩⟩
 rw[Int.sub_eq_add_neg];exact hr
abbrev aZx:FuncId:=76
theorem bZz:Ent Tryz.prog aZx:=aW func76 rfl kR
theorem cAa:Tryz.prog.funcs[aZx]? =some Tryz.f76:=func76
theorem aOc (i j:IntM) {a b:Int} (hi:In i a 17592186044416) (hj:In j b 17592186044416):Ctr Tryz.prog aZx [] [.a i.C,.a j.C] [] (xI (a*b)):=by
 have hli:=hi.ln
 have hlj:=hj.ln
 have hla:len (val i.m.l)<=17592186044416:=by rw[hi.abs];exact hi.len
 have hlb:len (val j.m.l)<=17592186044416:=by rw[hj.abs];exact hj.len
 refine aX gT bZz cAa rfl rfl rfl bL aS (aA gT mxd ⟨.seq [(0,false),(1,false),(2,false),(3,false),(4,false),(5,false),(6,false),(7,false),(8,false),(9,false),(10,false),(11,true)],by kernel_rfl,[],bYu i.m j.m hi.lm hj.lm hli hlj,rfl,rfl,rfl,λg hg=>?_⟩)
 replace hg:g.l=cW (val i.m.l*val j.m.l):=hg
 obtain⟨lg,vg⟩:=dg hg
 have:=oV (val i.m.l) (val j.m.l)
 refine⟨[],nI (¬(i.p↔j.p)) g lg (dgl hg oM),rfl,rfl,rfl,λr hr=>⟨r,?_,aM rfl rfl trivial⟩⟩
 rw[<-hi.v,<-hj.v,aZu,<-vg];exact hr
abbrev aZy:FuncId:=136
theorem cAb:Ent Tryz.prog aZy:=aW func136 rfl kR
theorem cAc:Tryz.prog.funcs[aZy]? =some Tryz.f136:=func136
theorem aZz (i j:IntM) {a b:Int} (hi:In i a 13194139533312) (hj:In j b 13194139533312):Ctr Tryz.prog aZy [] [.a i.C,.a j.C] [] (xI (Int.gcd a b)):=by
 refine aX gT cAb cAc rfl rfl rfl bL aS (aA gT mxd ⟨[],bZd i.m j.m hi.lm hj.lm hi.ln hj.ln,rfl,rfl,rfl,λg hg=>?_⟩)
 replace hg:g.l=cW (Nat.gcd (val i.m.l) (val j.m.l)):=hg
 obtain⟨lg,vg⟩:=dg hg
 have hlg:len (Nat.gcd (val i.m.l) (val j.m.l))<=13194139533312:=by
  rcases bX (val i.m.l) with h0|h0
  ·rw[h0,Nat.gcd_zero_left,hj.abs];exact hj.len
  exact aG (fQ (Nat.le_of_dvd h0 (iX _ _))) (by rw[hi.abs];exact hi.len)
 refine⟨[],nI (false=true) g lg (dgl hg oM),rfl,rfl,rfl,λr hr=>⟨r,?_,aM rfl rfl trivial⟩⟩
 have e:sg (false=true) (val g.l)=(Int.gcd a b:Int):=by rw[kF dC,vg,hi.abs,hj.abs];rfl
 rw[<-e];exact hr
theorem bQt {m n:Nat} (hn:n≠0):(m:Int)/(n:Int)=(m/n:Nat)/\(m:Int)%(n:Int)=(m%n:Nat):=⟨by rw[tW],by rw[Int.natCast_emod]⟩
theorem bAa {m n:Nat} (hn:n≠0):(-(m:Int))/(n:Int)=(if m%n=0 then-((m/n:Nat):Int) else-((m/n:Nat):Int)-1)/\(-(m:Int))%(n:Int)=if m%n=0 then 0 else (n:Int)-(m%n:Nat):=by
 have h1:=fH m n
 have h2:=dI m (Nat.pos_of_ne_zero hn)
 have h3:(n:Int)*((m/n:Nat):Int)+((m%n:Nat):Int)=m:=by rw[<-fU,<-pV,h1]
 refine(Int.ediv_emod_unique oM).2 ?_
 split
 ·next h=>rw[h] at h3;rw[wQ];omega
 next h=>rw[Int.mul_sub,wQ,wM];omega
theorem bHu {p q:Prop} {m n:Nat} (hn:n≠0) (h:¬(p/\0<m%n)):sg p m/sg q n=sg (¬(p↔q)) (m/n)/\sg p m%sg q n=sg p (m%n):=by
 obtain⟨a1,a2⟩:=bQt (m:=m) hn
 obtain⟨b1,b2⟩:=bAa (m:=m) hn
 by_cases hp:p<;>by_cases hq:q
 ·have hz:m%n=0:=by have:¬0<m%n:=λh0=>h ⟨hp,h0⟩
                    omega
  rw[if_pos hz] at b1 b2
  rw[kE hp,kE hq,kF (λh=>h ⟨λ_=>hq,λ_=>hp⟩),kE hp,Int.ediv_neg,Int.emod_neg,b1,b2,hz]
  omega
 ·have hz:m%n=0:=by have:¬0<m%n:=λh0=>h ⟨hp,h0⟩
                    omega
  rw[if_pos hz] at b1 b2
  rw[kE hp,kF hq,kE (λh=>hq (h.1 hp)),kE hp,b1,b2,hz]
  omega
 ·rw[kF hp,kE hq,kE (λh=>hp (h.2 hq)),kF hp,Int.ediv_neg,Int.emod_neg,a1,a2]
  exact⟨rfl,rfl⟩
 rw[kF hp,kF hq,kF (λh=>h ⟨λh=>absurd h hp,λh=>absurd h hq⟩),kF hp,a1,a2]
 exact⟨rfl,rfl⟩
theorem bHv {p q:Prop} {m n:Nat} (hn:n≠0) (hp:p) (h:0<m%n):sg p m/sg q n=sg (¬(p↔q)) (m/n)+sg (¬q) 1/\sg p m%sg q n=sg p (m%n)+n:=by
 obtain⟨b1,b2⟩:=bAa (m:=m) hn
 rw[if_neg oM] at b1 b2
 by_cases hq:q
 ·rw[kE hp,kE hq,kF (λh=>h ⟨λ_=>hq,λ_=>hp⟩),kE hp,kF (λh=>h hq),Int.ediv_neg,Int.emod_neg,b1,b2]
  omega
 rw[kE hp,kF hq,kE (λh=>hq (h.1 hp)),kE hp,kE hq,b1,b2]
 omega
theorem bQu {p:Prop} (h:p):(p/\p)/\p:=⟨⟨h,h⟩,h⟩
def oDM:Ord:=.tree [] (tr2 0 (tr2 1 (trS [2,3,4]) 2 (trS [1,3,4])) 1 (trS [0,2,3,4]))
abbrev bQv:FuncId:=137
theorem cHj:Ent Tryz.prog bQv:=aW func137 rfl kR
theorem cHk:Tryz.prog.funcs[bQv]? =some Tryz.f137:=func137
theorem xE (i j:IntM) {a b:Int} (hi:In i a 13194139533312) (hj:In j b 13194139533312) (hb:b≠0):Ctr Tryz.prog bQv [] [.a i.C,.a j.C] [] (λg:IntM×IntM=>⟨.t [.a g.1.C,.a g.2.C,pC True],[],Ci g.1 (a/b)/\Ci g.2 (a%b)⟩):=by
 have hla:len (val i.m.l)<=13194139533312:=by rw[hi.abs];exact hi.len
 have hlb:len (val j.m.l)<=13194139533312:=by rw[hj.abs];exact hj.len
 have hb0:val j.m.l≠0:=by rw[hj.abs];omega
 refine aX gT cHj cHk rfl rfl rfl bL aS (aA gT mxd ⟨[],aLc i.m j.m hi.lm hj.lm hi.ln hj.ln,rfl,rfl,rfl,λ⟨Q,R⟩ ⟨hQ,hR⟩=>⟨λh=>absurd hb0 h,λh=>aA gT mxd ?_⟩⟩)
 replace hQ:Q.l=cW (val i.m.l/val j.m.l):=hQ
 replace hR:R.l=cW (aEh (val i.m.l) (val j.m.l)):=hR
 rw[aEh,if_neg hb0] at hR
 obtain⟨lQ,vQ⟩:=dg hQ
 obtain⟨lR,vR⟩:=dg hR
 have hlq:=fQ (gU (val i.m.l) (val j.m.l))
 have hlr:=fQ (Nat.mod_le (val i.m.l) (val j.m.l))
 have hlr2:=fQ (fG (dI (val i.m.l) (Nat.pos_of_ne_zero hb0)))
 refine⟨.seq [(0,false),(1,false),(2,false),(3,false),(4,false),(5,false),(7,false),(8,false),(9,false),(6,false),(10,false),(11,true),(12,true)],by kernel_rfl,[],nI (¬(i.p↔j.p)) Q lQ (dgl hQ oM),rfl,rfl,rfl,λq hq=>⟨[],nI i.p R lR (dgl hR oM),rfl,rfl,rfl,λr hr=>⟨λh1=>aA gT mxd ?_,λh1=>aA gT mxd ?_⟩⟩⟩
 all_goals
  replace hq:Ci q (sg (¬(i.p↔j.p)) (val Q.l)):=hq
  replace hr:Ci r (sg i.p (val R.l)):=hr
  rw[vQ] at hq
  rw[vR] at hr
 ·have hn:=hr.1.1 h1
  rw[aHk] at hn
  obtain⟨e1,e2⟩:=bHv (q:=j.p) hb0 hn.1 hn.2
  rw[hi.v,hj.v] at e1 e2
  have hab:(b.natAbs:Int)=(val j.m.l:Nat):=by rw[hj.abs]
  refine⟨.seq [(0,false),(1,false),(2,false),(3,false),(4,true)],by kernel_rfl,[],bQn j hj.le,rfl,rfl,rfl,λab hab2=>⟨[],aHn r ab (hr.in (by rw[aDg];omega)) (Ci.in hab2 (by rw[eB,<-hj.abs];omega)),rfl,rfl,rfl,λr2 hr2=>?_⟩⟩
  replace hr2:Ci r2 (sg i.p (val i.m.l%val j.m.l)+b.natAbs):=hr2
  rw[hab,<-e2] at hr2
  have hq1:In q _ 17592186044416:=hq.in (by rw[aDg];omega)
  have l1:len (1:Int).natAbs<=17592186044416:=by decide
  refine⟨λh2=>aA gT mxd ?_,λh2=>aA gT mxd ?_⟩
  ·refine⟨.seq [(0,false),(1,false),(2,false),(3,true)],by kernel_rfl,[],xD (z:=1) dC,rfl,rfl,rfl,λone h1=>⟨[],aHn q one hq1 (Ci.in h1 l1),rfl,rfl,rfl,λq2 hq2=>⟨oDM,by kernel_rfl,bQu ⟨(q2,r2),⟨?_,hr2⟩,aM ⟨rfl,rfl,tt trivial⟩ rfl trivial⟩⟩⟩⟩
   rw[kF (p:=¬j.p) (n:=1) (λh=>h h2)] at e1
   show Ci q2 _
   rw[e1];exact hq2
  refine⟨.seq [(0,false),(1,false),(2,false),(3,true)],by kernel_rfl,[],xD (z:=1) dC,rfl,rfl,rfl,λone h1=>⟨[],bQs q one hq1 (Ci.in h1 l1),rfl,rfl,rfl,λq2 hq2=>⟨oDM,by kernel_rfl,bQu ⟨(q2,r2),⟨?_,hr2⟩,aM ⟨rfl,rfl,tt trivial⟩ rfl trivial⟩⟩⟩⟩
  rw[kE (p:=¬j.p) (n:=1) h2] at e1
  show Ci q2 _
  rw[e1];exact hq2
 have hn:¬(i.p/\0<val i.m.l%val j.m.l):=λh=>h1 (hr.1.2 (aHk.2 h))
 obtain⟨e1,e2⟩:=bHu (q:=j.p) hb0 hn
 rw[hi.v,hj.v] at e1 e2
 refine⟨oDM,by kernel_rfl,bQu ⟨(q,r),⟨?_,?_⟩,aM ⟨rfl,rfl,tt trivial⟩ rfl trivial⟩⟩
 ·show Ci q _
  rw[e1];exact hq
 show Ci r _
 rw[e2];exact hr
end Go.Proofs.YtghncoghdcmdfaaGreat
namespace Go.Proofs.YtghncoghdcmdfaaGreat
open Go.Vg _root_.Go.Proofs.Tryz
open Go.Vm hiding sgn
open Go.Vy hiding val
abbrev aDi:FuncId:=210
theorem bAb:Ent Tryz.prog aDi:=aW func210 rfl kR
theorem bAc:Tryz.prog.funcs[aDi]? =some Tryz.f210:=func210
theorem nT (p:Prop) {hp:Decidable p} (m:Sl Nat) {n:Nat} (hm:m.l=cW n):Ctr Tryz.prog aDi [] [.c (.b p hp),.c (dY m)] [] (xI (sg p n)):=by
 refine aX gT bAb bAc rfl rfl rfl bL aS (aA gT mxd ⟨⟨p/\(0:Int)<(m.l.length:Nat),inferInstance,m⟩,⟨?_,?_⟩,aM rfl rfl trivial⟩)
 ·show p/\(0:Int)<(m.l.length:Nat)↔_
  rw[aHk,hm]
  have:=aRo (n:=n)
  unfold len at this
  constructor
  ·rintro⟨h1,h2⟩;exact⟨h1,this.1 oM⟩
  rintro⟨h1,h2⟩;exact⟨h1,by have:=this.2 h2;omega⟩
 rw[aDg];exact hm
theorem bAd {p:Prop} {n:Nat}:sg (¬p) n=-sg p n:=by
 by_cases hp:p
 ·rw[kE hp,kF (λh=>h hp)];omega
 rw[kF hp,kE hp]
abbrev aHo:FuncId:=215
theorem bHw:Ent Tryz.prog aHo:=aW func215 rfl kR
theorem bHx:Tryz.prog.funcs[aHo]? =some Tryz.f215:=func215
theorem bAe (i:IntM) {v:Int} (h:In i v 35184372088832):Ctr Tryz.prog aHo [] [.a i.C] [] (xI v):=by
 refine aX gT bHw bHx rfl rfl rfl bL aS (aA gT mxd ⟨.seq [(0,false),(1,false),(2,false),(3,false),(4,false),(5,true),(6,true)],by kernel_rfl,[],yW i.m h.lm h.ln,rfl,rfl,rfl,λm hm=>⟨[],nT i.p m hm,rfl,rfl,rfl,λg hg=>⟨g,?_,aM rfl rfl trivial⟩⟩⟩)
 rw[<-h.v];exact hg
abbrev aOd:FuncId:=221
theorem bQw:Ent Tryz.prog aOd:=aW func221 rfl kR
theorem bQx:Tryz.prog.funcs[aOd]? =some Tryz.f221:=func221
theorem bHy (i:IntM) {v:Int} (h:In i v 35184372088832):Ctr Tryz.prog aOd [] [.a i.C] [] (xI (-v)):=by
 refine aX gT bQw bQx rfl rfl rfl bL aS (aA gT mxd ⟨.seq [(0,false),(1,false),(2,false),(3,false),(4,false),(5,false),(6,true),(7,true)],by kernel_rfl,[],yW i.m h.lm h.ln,rfl,rfl,rfl,λm hm=>⟨[],nT (¬i.p) m hm,rfl,rfl,rfl,λg hg=>⟨g,?_,aM rfl rfl trivial⟩⟩⟩)
 rw[<-h.v,<-bAd];exact hg
theorem aRq (x:Sl Nat) (hx:Lm x.l) (hn:x.l.length<=35184372088832):Ctr Tryz.prog aHd [] [.c (dY x),.c (.v (.slice none 0 0))] [] (λ_:Unit=>⟨.c (iC (qU (val x.l) (0:Nat))),[],True⟩):=
 (uF x cP hx Lm.nil hn bL).arg λ_ _ _=>HL.cons (λ_ h=>h) (HL.cons (λv h=>Hd.nilr v h) λ_ h=>h)
theorem bAf {n:Nat}:qU (n:Int) (0:Nat)=0↔n=0:=by unfold qU;constructor<;>intro h<;>(repeat split at*)<;>omega
abbrev aHp:FuncId:=157
theorem bHz:Ent Tryz.prog aHp:=aW func157 rfl kR
theorem bIa:Tryz.prog.funcs[aHp]? =some Tryz.f157:=func157
theorem aDj (i:IntM) {v:Int} (h:In i v 35184372088832):Ctr Tryz.prog aHp [] [.a i.C] [] (λ_:Unit=>⟨.c (iC (sgn v)),[],True⟩):=by
 refine aX gT bHz bIa rfl rfl rfl bL aS (aA gT mxd ⟨[],aRq i.m h.lm h.ln,rfl,rfl,rfl,λ_ _=>⟨λh1=>aA gT mxd ?_,λh1=>aA gT mxd ⟨λh2=>aA gT mxd ?_,λh2=>aA gT mxd ?_⟩⟩⟩)
 all_goals
  have hv:=h.v
  have ha:=h.abs
  refine⟨(),trivial,aM ?_ rfl trivial⟩
 ·have:=bAf.1 h1
  show(0:Int)=_
  unfold sgn;rw[if_neg oM,if_pos oM]
 ·have h3:val i.m.l≠0:=λh=>h1 (bAf.2 h)
  rw[kE h2] at hv
  show(-1:Int)=_
  unfold sgn;rw[if_pos oM]
 have h3:val i.m.l≠0:=λh=>h1 (bAf.2 h)
 rw[kF h2] at hv
 show(1:Int)=_
 unfold sgn;rw[if_neg oM,if_neg oM]
abbrev aOe:FuncId:=206
theorem bQy:Ent Tryz.prog aOe:=aW func206 rfl kR
theorem bQz:Tryz.prog.funcs[aOe]? =some Tryz.f206:=func206
theorem aRr (i j:IntM) {a b:Int} (hi:In i a 17592186044416) (hj:In j b 17592186044416):Ctr Tryz.prog aOe [] [.a i.C,.a j.C] [] (xI (a+b)):=by
 have hli:=hi.ln
 have hlj:=hj.ln
 refine aX gT bQy bQz rfl rfl rfl bL aS (aA gT mxd ⟨λh=>aA gT mxd ?_,λh=>aA gT mxd ?_⟩)
 ·refine⟨.seq [(0,false),(1,false),(2,false),(3,false),(4,false),(5,false),(6,false),(7,true),(8,true)],by kernel_rfl,[],bHk i.m j.m hi.lm hj.lm hli hlj,rfl,rfl,rfl,λg hg=>⟨[],nT i.p g hg,rfl,rfl,rfl,λr hr=>⟨r,?_,aM rfl rfl trivial⟩⟩⟩
  rw[<-hi.v,<-hj.v,aZt h];exact hr
 refine⟨[],aHf i.m j.m hi.lm hj.lm oM oM,rfl,rfl,rfl,λg hg=>⟨λh1=>aA gT mxd ?_,λh1=>aA gT mxd ?_⟩⟩
 ·refine⟨[],nT i.p g hg,rfl,rfl,rfl,λr hr=>⟨r,?_,aM rfl rfl trivial⟩⟩
  rw[<-hi.v,<-hj.v,aHm h h1];exact hr
 refine⟨[],aHf j.m i.m hj.lm hi.lm oM oM,rfl,rfl,rfl,λg hg=>⟨[],nT j.p g hg,rfl,rfl,rfl,λr hr=>⟨r,?_,aM rfl rfl trivial⟩⟩⟩
 rw[<-hi.v,<-hj.v,Int.add_comm,aHm (λh'=>h h'.symm) oM];exact hr
abbrev aOf:FuncId:=163
theorem bRa:Ent Tryz.prog aOf:=aW func163 rfl kR
theorem bRb:Tryz.prog.funcs[aOf]? =some Tryz.f163:=func163
theorem yY (i j:IntM) {a b:Int} (hi:In i a 17592186044416) (hj:In j b 17592186044416):Ctr Tryz.prog aOf [] [.a i.C,.a j.C] [] (xI (a*b)):=by
 refine aX gT bRa bRb rfl rfl rfl bL aS (aA gT mxd ⟨.seq [(0,false),(1,false),(2,false),(3,false),(4,false),(5,false),(6,false),(7,false),(8,false),(9,false),(10,true),(11,true)],by kernel_rfl,[],yX i.m j.m hi.lm hj.lm hi.ln hj.ln,rfl,rfl,rfl,λg hg=>⟨[],nT (¬(i.p↔j.p)) g hg,rfl,rfl,rfl,λr hr=>⟨r,?_,aM rfl rfl trivial⟩⟩⟩)
 rw[<-hi.v,<-hj.v,aZu];exact hr
abbrev aHq:FuncId:=183
theorem bIb:Ent Tryz.prog aHq:=aW func183 rfl kR
theorem bIc:Tryz.prog.funcs[aHq]? =some Tryz.f183:=func183
theorem bAg {z:Int} (hz:-9223372036854775808<=z/\z<=9223372036854775807):Ctr Tryz.prog aHq [] [.c (iC z)] [] (xI z):=by
 refine aX gT bIb bIc rfl rfl rfl bL aS (aA gT mxd ⟨λh=>aA gT mxd ?_,λh=>aA gT mxd ?_⟩)
 ·refine⟨(18446744073709551616-z.natAbs:Nat),show _=_ by rw[IntKind.wrap_u64];omega,(z.natAbs:Nat),show _=_ by rw[IntKind.wrap_u64];omega,[],nC (n:=z.natAbs) oM,rfl,rfl,rfl,λg hg=>⟨[],nT (true=true) g hg,rfl,rfl,rfl,λr hr=>⟨r,?_,aM rfl rfl trivial⟩⟩⟩
  have e:sg (true=true) z.natAbs=z:=by rw[kE rfl];omega
  rw[<-e];exact hr
 refine⟨(z.natAbs:Nat),wu,[],nC (n:=z.natAbs) oM,rfl,rfl,rfl,λg hg=>⟨[],nT (false=true) g hg,rfl,rfl,rfl,λr hr=>⟨r,?_,aM rfl rfl trivial⟩⟩⟩
 have e:sg (false=true) z.natAbs=z:=by rw[kF dC];omega
 rw[<-e];exact hr
end Go.Proofs.YtghncoghdcmdfaaGreat
namespace Go.Proofs.YtghncoghdcmdfaaGreat
open Go.Vg _root_.Go.Proofs.Tryz
open Go.Vm
open Go.Vy hiding val
structure RatM where
 n:IntM
 d:Sl Nat
def RatM.C (r:RatM):List CV:=[.b r.n.p r.n.d,dY r.n.m,dY r.d]
structure Rq (r:RatM) (q:Rat) (B:Nat):Prop where
 n:In r.n (sg r.n.p (val r.n.m.l)) B
 ld:Lm r.d.l
 bd:r.d.l.length<=B
 v:Rat.divInt (sg r.n.p (val r.n.m.l)) (val r.d.l)=q
def Cr (r:RatM) (q:Rat):Prop:=Ci r.n q.num/\r.d.l=cW q.den
abbrev vF (q:Rat):RatM->Out:=λg=>⟨.a g.C,[],Cr g q⟩
def rb (q:Rat) (B:Nat):Prop:=len q.num.natAbs<=B/\len q.den<=B
theorem Rq.rb {r:RatM} {q:Rat} {B:Nat} (h:Rq r q B) (hB:1<=B:=by decide):rb q B:=by
 have h1:=zQ (a:=sg r.n.p (val r.n.m.l)) (b:=(val r.d.l:Nat))
 have h2:=zR (a:=sg r.n.p (val r.n.m.l)) (b:=(val r.d.l:Nat))
 rw[h.v] at h1 h2
 rw[eB] at h2
 have h3:=h.n.len
 have h4:=aG (dN h.ld) h.bd
 refine⟨aG h1 h3,aG h2 ?_⟩
 simp only[eY]
 omega
theorem Cr.rq {r:RatM} {q:Rat} {B:Nat} (h:Cr r q) (hb:Go.Proofs.YtghncoghdcmdfaaGreat.rb q B):Rq r q B:=by
 obtain⟨ld,vd⟩:=dg h.2
 have h1:=h.1.in hb.1
 refine⟨⟨h1.lm,h1.ln,rfl⟩,ld,by rw[h.2];exact hb.2,?_⟩
 rw[h1.v,vd,jC]
theorem Rq.le {r:RatM} {q:Rat} {B B':Nat} (h:Rq r q B) (hb:B<=B':=by omega):Rq r q B':=⟨h.n.le hb,h.ld,aG h.bd hb,h.v⟩
theorem rb.le {q:Rat} {B B':Nat} (h:rb q B) (hb:B<=B':=by omega):rb q B':=⟨aG h.1 hb,aG h.2 hb⟩
abbrev aRs:FuncId:=25
theorem cAd:Ent Tryz.prog aRs:=aW func25 rfl kR
theorem cAe:Tryz.prog.funcs[aRs]? =some Tryz.f25:=func25
theorem bAh:Ctr Tryz.prog aRs [] [] [] (vF 0):=by
 have h0:Ctr Tryz.prog aRs [] [] [] (λ_:Unit=>⟨.a [.b (false=true) inferInstance,.s 1 0,.s 2 1],[(62,0,[.b (false=true) inferInstance,.s 1 0,.s 2 1]),(123,1,[]),(123,1,[uC 1])],True⟩):=by
  refine aX gT cAd cAe rfl rfl rfl bL aS (aA gT mxd ?_)
  exact⟨(),trivial,fB rfl ⟨rfl,rfl,rfl⟩ (aC _) (aB rfl (aB rfl (aB rfl aY))) rfl aAy⟩
 refine(CtrF.gt h0 λ_ _ _=>?_)
 refine bLq tGt 0 1 1 (λj=>[uC (([]:List Nat).getD j default)]) rfl rfl rfl rfl (λj hj=>absurd hj (aD _)) rfl dQ (λc hc=>by cases hc) (aC _) λA c _ _=>⟨yT [1],?_⟩
 refine bLq tGt 0 2 2 (λj=>[uC ([1].getD j default)]) rfl rfl rfl rfl (λj hj=>mA (x:=[1]) j hj) rfl dQ (iI [1]) (aC _) λA2 c2 _ _=>⟨λc hc=>(by cases hc),?_⟩
 exact bS (M:=λ_=>true) (base:=[]) (chg:=λg:RatM=>[(0,.a g.C)]) (bls:=λ_=>[]) (fls:=λ_=>[]) (λt d ht=>by cases ht) ⟨⟨false=true,inferInstance,⟨A,c,[]⟩⟩,⟨A2,c2,[1]⟩⟩ ⟨⟨⟨⟨λh=>(by cases h),λh=>absurd (show(0:Int)<0 from h) dC⟩,rfl⟩,rfl⟩,aAy⟩ rfl trivial trivial rfl (aJ _) (λi T es l hi=>by cases hi) rfl
theorem gW {z:Int}:sgn z=0↔z=0:=by unfold sgn;constructor<;>intro h<;>(repeat split at*)<;>omega
theorem bAi {n:Nat} (h:cW n=[1]):n=1:=by have:=congrArg Vm.val h;rw[xZ] at this;exact this
theorem aRt {a b:Int} {B:Nat} (ha:len a.natAbs<=B) (hb:len b.natAbs<=B):len (Int.gcd a b:Int).natAbs<=B:=by
 rw[eB]
 rcases bX a.natAbs with h0|h0
 ·rw[Int.gcd,h0,Nat.gcd_zero_left];exact hb
 exact aG (fQ (Nat.le_of_dvd h0 (iX _ _))) ha
theorem aBj {a b:Int} {B:Nat} (ha:len a.natAbs<=B):len (a/b).natAbs<=B:=aG (fQ (rQ a b)) ha
abbrev aOg:FuncId:=74
theorem bRc:Ent Tryz.prog aOg:=aW func74 rfl kR
theorem bRd:Tryz.prog.funcs[aOg]? =some Tryz.f74:=func74
theorem aBk (i j:IntM) {a b:Int} (hi:In i a 13194139533312) (hj:In j b 13194139533312):Ctr Tryz.prog aOg [] [.a i.C,.a j.C] [] (vF (Rat.divInt a b)):=by
 have hla:=hi.len
 have hlb:=hj.len
 refine aX gT bRc bRd rfl rfl rfl bL aS (aA gT mxd ⟨[],bHt j hj.le,rfl,rfl,rfl,λ_ _=>⟨λh=>aA gT mxd ?_,λh=>aA gT mxd ?_⟩⟩)
 ·have hb:=gW.1 h
  refine⟨[],bAh,rfl,rfl,rfl,λg hg=>⟨g,?_,aM rfl rfl trivial⟩⟩
  rw[hb,uW];exact hg
 have hb:b≠0:=λe=>h (gW.2 e)
 have hml:=aKb (zx:=a) hb
 have hg0:((Int.gcd a b:Nat):Int)≠0:=by have:=pX a hb;omega
 refine⟨[],aHl j hj.le,rfl,rfl,rfl,λg hg=>?_⟩
 replace hg:Ci g b:=hg
 refine⟨λhn=>?_,λhn=>?_⟩
 ·refine⟨some (λj=>[uC ([1].getD j default)]),⟨⟨aC _,dQ⟩,rfl,λj hj=>mA (x:=[1]) j hj,iI [1]⟩,λA c _ _=>⟨[],aGy g.m ⟨A,c,[1]⟩,rfl,rfl,rfl,λ_ _=>⟨λh1=>aA gT mxd ?_,λh1=>aA gT mxd ?_⟩⟩⟩
  ·have hb1:b=1:=by
    have e1:g.m.l=[1]:=h1
    have e2:cW b.natAbs=[1]:=hg.2▸e1
    have e3:=bAi e2
    have e4:¬b<0:=λh=>hn (hg.1.2 h)
    omega
   refine⟨.seq [(0,false),(2,false),(3,false),(1,false),(4,false),(5,true)],by kernel_rfl,[],aHl i hi.le,rfl,rfl,rfl,λx hx=>⟨⟨x,g.m⟩,?_,aM rfl rfl trivial⟩⟩
   rw[hb1]
   refine⟨?_,?_⟩
   ·show Ci x _
    rw[(tZ a).1];exact hx
   show g.m.l=_
   rw[(tZ a).2];exact h1
  refine⟨[],aZz i j hi hj,rfl,rfl,rfl,λx hx=>?_⟩
  have hx1:=Ci.in (B:=13194139533312) hx (aRt hla hlb)
  refine⟨[],xE i x hi hx1 hg0,rfl,rfl,rfl,λ⟨q1,r1⟩ ⟨hq1,_⟩=>⟨[],xE j x hj hx1 hg0,rfl,rfl,rfl,λ⟨q2,r2⟩ ⟨hq2,_⟩=>⟨λh2=>aA gT mxd ?_,λh2=>aA gT mxd ?_⟩⟩⟩
  ·obtain⟨m1,m2⟩:=hml.1 (hq2.1.1 h2)
   refine⟨.seq [(0,false),(2,false),(1,false),(3,false),(4,true),(5,true)],by kernel_rfl,[],aDh q1 (v:=a/(Int.gcd a b:Int)) (Ci.in hq1 (aG (aBj hla) dC)),rfl,rfl,rfl,λn1 hn1=>⟨[],aDh q2 (v:=b/(Int.gcd a b:Int)) (Ci.in hq2 (aG (aBj hlb) dC)),rfl,rfl,rfl,λd1 hd1=>⟨⟨n1,d1.m⟩,⟨?_,?_⟩,aM rfl rfl trivial⟩⟩⟩
   ·show Ci n1 _
    rw[m1];exact hn1
   show d1.m.l=_
   rw[m2];exact hd1.2
  obtain⟨m1,m2⟩:=hml.2 λh=>h2 (hq2.1.2 h)
  refine⟨⟨q1,q2.m⟩,⟨?_,?_⟩,aM rfl rfl trivial⟩
  ·show Ci q1 _
   rw[m1];exact hq1
  show q2.m.l=_
  rw[m2];exact hq2.2
 refine⟨[],aZz i j hi hj,rfl,rfl,rfl,λx hx=>?_⟩
 have hx1:=Ci.in (B:=13194139533312) hx (aRt hla hlb)
 refine⟨[],xE i x hi hx1 hg0,rfl,rfl,rfl,λ⟨q1,r1⟩ ⟨hq1,_⟩=>⟨[],xE j x hj hx1 hg0,rfl,rfl,rfl,λ⟨q2,r2⟩ ⟨hq2,_⟩=>⟨λh2=>aA gT mxd ?_,λh2=>aA gT mxd ?_⟩⟩⟩
 ·obtain⟨m1,m2⟩:=hml.1 (hq2.1.1 h2)
  refine⟨.seq [(0,false),(2,false),(1,false),(3,false),(4,true),(5,true)],by kernel_rfl,[],aDh q1 (v:=a/(Int.gcd a b:Int)) (Ci.in hq1 (aG (aBj hla) dC)),rfl,rfl,rfl,λn1 hn1=>⟨[],aDh q2 (v:=b/(Int.gcd a b:Int)) (Ci.in hq2 (aG (aBj hlb) dC)),rfl,rfl,rfl,λd1 hd1=>⟨⟨n1,d1.m⟩,⟨?_,?_⟩,aM rfl rfl trivial⟩⟩⟩
  ·show Ci n1 _
   rw[m1];exact hn1
  show d1.m.l=_
  rw[m2];exact hd1.2
 obtain⟨m1,m2⟩:=hml.2 λh=>h2 (hq2.1.2 h)
 refine⟨⟨q1,q2.m⟩,⟨?_,?_⟩,aM rfl rfl trivial⟩
 ·show Ci q1 _
  rw[m1];exact hq1
 show q2.m.l=_
 rw[m2];exact hq2.2
def sq (n:Nat) (l:List Nat):List (Nat×Bool):=l.map λi=>(i,i==n)
theorem In.den {X:Sl Nat} {B:Nat} (hl:Lm X.l) (hb:X.l.length<=B):In ⟨false=true,inferInstance,X⟩ (val X.l) B:=⟨hl,hb,kF (p:=false=true) (λh=>by cases h)⟩
theorem Ci.den {X:Sl Nat} {n:Nat} (h:X.l=cW n):Ci ⟨false=true,inferInstance,X⟩ (n:Int):=⟨⟨λh=>(by cases h),λh=>by omega⟩,by rw[eB];exact h⟩
abbrev aOh:FuncId:=73
theorem bRe:Ent Tryz.prog aOh:=aW func73 rfl kR
theorem bRf:Tryz.prog.funcs[aOh]? =some Tryz.f73:=func73
theorem jE (r:RatM) {q:Rat} (h:Rq r q 13194139533312):Ctr Tryz.prog aOh [] [.a r.C] [] (vF q):=by
 refine aX gT bRe bRf rfl rfl rfl bL aS (aA gT mxd ⟨[],aBk r.n ⟨false=true,inferInstance,r.d⟩ h.n (In.den h.ld h.bd),rfl,rfl,rfl,λg hg=>⟨g,?_,aM rfl rfl trivial⟩⟩)
 rw[<-h.v];exact hg
abbrev bAj:FuncId:=77
theorem cAf:Ent Tryz.prog bAj:=aW func77 rfl kR
theorem cAg:Tryz.prog.funcs[bAj]? =some Tryz.f77:=func77
theorem aHr (r:RatM) {q:Rat} (h:Rq r q 13194139533312):Ctr Tryz.prog bAj [] [.a r.C] [] (xI (q.den:Int)):=by
 refine aX gT cAf cAg rfl rfl rfl bL aS (aA gT mxd ⟨[],jE r h,rfl,rfl,rfl,λg hg=>⟨⟨false=true,inferInstance,g.d⟩,Ci.den hg.2,aM rfl rfl trivial⟩⟩)
abbrev aOi:FuncId:=43
theorem bRg:Ent Tryz.prog aOi:=aW func43 rfl kR
theorem bRh:Tryz.prog.funcs[aOi]? =some Tryz.f43:=func43
theorem uI {z:Int} (hz:-9223372036854775808<=z/\z<=9223372036854775807):Ctr Tryz.prog aOi [] [.c (iC z)] [] (vF (z:Rat)):=by
 have hl:=qE (n:=z.natAbs)
 refine aX gT bRg bRh rfl rfl rfl bL aS (aA gT mxd ⟨[],xD hz,rfl,rfl,rfl,λg hg=>⟨[],xD (z:=1) dC,rfl,rfl,rfl,λo ho=>⟨[],aBk g o (Ci.in hg oM) (Ci.in ho dC),rfl,rfl,rfl,λr hr=>⟨r,?_,aM rfl rfl trivial⟩⟩⟩⟩)
 rw[<-bFz];exact hr
theorem xR {q:Rat} {B:Nat} (h:rb q B):rb (-q) B:=by
 unfold rb at h ⊢
 rw[show(-q).num=-q.num from rfl,show(-q).den=q.den from rfl,wP];exact h
theorem aHs {a b:Int} {B:Nat} (ha:len a.natAbs<=B) (hb:len b.natAbs<=B):len (a*b).natAbs<=B+B:=by
 rw[kM]
 have:=oV a.natAbs b.natAbs
 omega
theorem aHt {a b:Int} {B:Nat} (ha:len a.natAbs<=B) (hb:len b.natAbs<=B):len (a+b).natAbs<=B+1:=by
 have h1:=fQ (Int.natAbs_add_le a b)
 have h2:=yA a.natAbs b.natAbs
 omega
def oA:Ord:=.joinR [0,2] (.alt 1 (.alt 3 (.alt 4 (trS [5,1006,1007]) (trS [5,4,1006,1007])) (.alt 4 (.alt 3 (trS [5,1006,1007]) (trS [5,3,1006,1007])) (.alt 5 (.alt 3 (trS [4,1006,1007]) (trS [4,3,1006,1007])) .nil))) (.alt 4 (.alt 1 (.alt 3 (trS [5,1006,1007]) (trS [5,3,1006,1007])) (trS [5,1,3,1006,1007])) (.alt 5 (.alt 1 (.alt 3 (trS [4,1006,1007]) (trS [4,3,1006,1007])) (trS [4,1,3,1006,1007])) .nil)))
def aAa (r s:RatM) (g:RatM×RatM):List (Nat×DV):=[(5,.c (.p 3 0)),(6,.c (.p 4 0)),(2,.c (.p 0 0)),(3,.c (.p 1 0)),(4,.c (.p 2 0))]
def vG:List CV:=[.b (false=true) inferInstance,.v (.slice none 0 0),.v (.slice none 0 0)]
def xS (r s:RatM) (g:RatM×RatM):BL:=[(62,0,r.C),(62,0,s.C),(62,0,vG),(62,0,g.1.C),(62,0,g.2.C)]
theorem gsw {nb:Nat} {s:SS} {σ:Type} {S:σ->SS} {C:σ->Prop} (i j:Nat) {bi bj:TypeId×Nat×List CV} (hbi:s.bl[i]? =some bi) (hbj:s.bl[j]? =some bj) (hni:nb<=i) (hnj:nb<=j) (hgl:s.gl=[])
 (h:aUo (swC i j) s.sl λsl'=>mE s.bl i bj λbl1=>mE bl1 j bi λbl2=>aEk (swC i j) 1000000 0 bl2 λbl'=>bl'.length<=1000000/\Gt nb ⟨sl',[],bl',s.fl⟩ S C):Gt nb s S C:=aRg (X:=λt=>Gt nb t S C) tGt i j hbi hbj hni hnj hgl h
theorem g0:∀t d,fR [] t=some d->(λ_:Nat=>true) t=false:=λt d h=>by cases h
theorem scA {r s:RatM} {g:RatM×RatM}:scB (xS r s g).length (xS r s g):=aB rfl (aB rfl (aB rfl (aB rfl (aB rfl aY))))
abbrev bAk:FuncId:=26
theorem cAh:Ent Tryz.prog bAk:=aW func26 rfl kR
theorem cAi:Tryz.prog.funcs[bAk]? =some Tryz.f26:=func26
theorem bRi (r s:RatM) {a b:Rat} (hr:Rq r a 4398046511104) (hs:Rq s b 4398046511104):Ctr Tryz.prog bAk [] [.a r.C,.a s.C] [] (vF (a+b)):=by
 have ha:=hr.rb
 have hb:=hs.rb
 have m1:=aHs ha.1 (b:=(b.den:Int)) hb.2
 have m2:=aHs hb.1 (b:=(a.den:Int)) ha.2
 have m3:=aHs (a:=(a.den:Int)) (b:=(b.den:Int)) ha.2 hb.2
 have m4:=aHt m1 m2
 refine aX gT cAh cAi rfl rfl rfl bL aS (aA gT mxd ⟨oA,by kernel_rfl,RatM×RatM,λg=>⟨aAa r s g++[],[],xS r s g,[]⟩,λg=>Cr g.1 a/\Cr g.2 b,⟨⟨[],jE r hr.le,rfl,rfl,rfl,λx hx=>⟨⟨[],jE s hs.le,rfl,rfl,rfl,λy hy=>⟨bS g0 (chg:=aAa r s) (bls:=xS r s) (fls:=λ_=>[]) (x,y) ⟨hx,hy⟩ rfl ⟨rfl,rfl,rfl,rfl,rfl⟩ trivial ⟨rfl,rfl,rfl,rfl,rfl⟩ bL scA rfl,gsw 3 4 rfl rfl bL bL rfl ⟨bL,bS g0 (chg:=aAa r s) (bls:=xS r s) (fls:=λ_=>[]) (x,y) ⟨hx,hy⟩ rfl ⟨rfl,rfl,rfl,rfl,rfl⟩ trivial ⟨rfl,rfl,rfl,rfl,rfl⟩ bL scA rfl⟩⟩⟩,⟨⟨[],jE s hs.le,rfl,rfl,rfl,λy hy=>bS g0 (chg:=aAa r s) (bls:=xS r s) (fls:=λ_=>[]) (x,y) ⟨hx,hy⟩ rfl ⟨rfl,rfl,rfl,rfl,rfl⟩ trivial ⟨rfl,rfl,rfl,rfl,rfl⟩ bL scA rfl⟩,⟨[],jE s hs.le,rfl,rfl,rfl,λy hy=>bS g0 (chg:=aAa r s) (bls:=xS r s) (fls:=λ_=>[]) (x,y) ⟨hx,hy⟩ rfl ⟨rfl,rfl,rfl,rfl,rfl⟩ trivial ⟨rfl,rfl,rfl,rfl,rfl⟩ bL scA rfl⟩⟩,⟨⟨[],jE s hs.le,rfl,rfl,rfl,λy hy=>gsw 3 4 rfl rfl bL bL rfl ⟨bL,bS g0 (chg:=aAa r s) (bls:=xS r s) (fls:=λ_=>[]) (x,y) ⟨hx,hy⟩ rfl ⟨rfl,rfl,rfl,rfl,rfl⟩ trivial ⟨rfl,rfl,rfl,rfl,rfl⟩ bL scA rfl⟩⟩,⟨[],jE s hs.le,rfl,rfl,rfl,λy hy=>gsw 3 4 rfl rfl bL bL rfl ⟨bL,bS g0 (chg:=aAa r s) (bls:=xS r s) (fls:=λ_=>[]) (x,y) ⟨hx,hy⟩ rfl ⟨rfl,rfl,rfl,rfl,rfl⟩ trivial ⟨rfl,rfl,rfl,rfl,rfl⟩ bL scA rfl⟩⟩⟩⟩⟩,⟨⟨[],jE r hr.le,rfl,rfl,rfl,λx hx=>⟨⟨[],jE s hs.le,rfl,rfl,rfl,λy hy=>bS g0 (chg:=aAa r s) (bls:=xS r s) (fls:=λ_=>[]) (x,y) ⟨hx,hy⟩ rfl ⟨rfl,rfl,rfl,rfl,rfl⟩ trivial ⟨rfl,rfl,rfl,rfl,rfl⟩ bL scA rfl⟩,⟨[],jE s hs.le,rfl,rfl,rfl,λy hy=>bS g0 (chg:=aAa r s) (bls:=xS r s) (fls:=λ_=>[]) (x,y) ⟨hx,hy⟩ rfl ⟨rfl,rfl,rfl,rfl,rfl⟩ trivial ⟨rfl,rfl,rfl,rfl,rfl⟩ bL scA rfl⟩⟩⟩,⟨[],jE r hr.le,rfl,rfl,rfl,λx hx=>⟨[],jE s hs.le,rfl,rfl,rfl,λy hy=>bS g0 (chg:=aAa r s) (bls:=xS r s) (fls:=λ_=>[]) (x,y) ⟨hx,hy⟩ rfl ⟨rfl,rfl,rfl,rfl,rfl⟩ trivial ⟨rfl,rfl,rfl,rfl,rfl⟩ bL scA rfl⟩⟩⟩,⟨⟨[],jE r hr.le,rfl,rfl,rfl,λx hx=>⟨⟨[],jE s hs.le,rfl,rfl,rfl,λy hy=>gsw 3 4 rfl rfl bL bL rfl ⟨bL,bS g0 (chg:=aAa r s) (bls:=xS r s) (fls:=λ_=>[]) (x,y) ⟨hx,hy⟩ rfl ⟨rfl,rfl,rfl,rfl,rfl⟩ trivial ⟨rfl,rfl,rfl,rfl,rfl⟩ bL scA rfl⟩⟩,⟨[],jE s hs.le,rfl,rfl,rfl,λy hy=>gsw 3 4 rfl rfl bL bL rfl ⟨bL,bS g0 (chg:=aAa r s) (bls:=xS r s) (fls:=λ_=>[]) (x,y) ⟨hx,hy⟩ rfl ⟨rfl,rfl,rfl,rfl,rfl⟩ trivial ⟨rfl,rfl,rfl,rfl,rfl⟩ bL scA rfl⟩⟩⟩⟩,⟨[],jE r hr.le,rfl,rfl,rfl,λx hx=>⟨[],jE s hs.le,rfl,rfl,rfl,λy hy=>gsw 3 4 rfl rfl bL bL rfl ⟨bL,bS g0 (chg:=aAa r s) (bls:=xS r s) (fls:=λ_=>[]) (x,y) ⟨hx,hy⟩ rfl ⟨rfl,rfl,rfl,rfl,rfl⟩ trivial ⟨rfl,rfl,rfl,rfl,rfl⟩ bL scA rfl⟩⟩⟩⟩⟩,λ⟨x,y⟩ ⟨hx,hy⟩=>?_⟩)
 refine⟨.seq [(0,false),(1,false),(2,false),(5,false),(6,false),(7,false),(11,false),(13,false),(3,false),(4,false),(8,false),(9,false),(10,false),(12,false),(14,false),(15,false),(16,false),(17,true)],by kernel_rfl,[],aHr s hs.le,rfl,rfl,rfl,λd1 h1=>⟨[],aOc x.n d1 (a:=a.num) (Ci.in hx.1 (ha.le).1) (Ci.in h1 (hb.le).2),rfl,rfl,rfl,λp1 h2=>⟨[],aHr r hr.le,rfl,rfl,rfl,λd2 h3=>⟨[],aOc y.n d2 (a:=b.num) (Ci.in hy.1 (hb.le).1) (Ci.in h3 (ha.le).2),rfl,rfl,rfl,λp2 h4=>?_⟩⟩⟩⟩
 refine⟨[],aHn p1 p2 (Ci.in h2 oM) (Ci.in h4 oM),rfl,rfl,rfl,λs1 h5=>⟨[],aHr r hr.le,rfl,rfl,rfl,λd3 h6=>⟨[],aHr s hs.le,rfl,rfl,rfl,λd4 h7=>⟨[],aOc d3 d4 (Ci.in h6 (ha.le).2) (Ci.in h7 (hb.le).2),rfl,rfl,rfl,λp3 h8=>⟨[],aBk s1 p3 (Ci.in h5 oM) (Ci.in h8 oM),rfl,rfl,rfl,λg hg=>⟨g,?_,aM rfl rfl trivial⟩⟩⟩⟩⟩⟩
 rw[<-aKc];exact hg
end Go.Proofs.YtghncoghdcmdfaaGreat
namespace Go.Proofs.YtghncoghdcmdfaaGreat
open Go.Vg _root_.Go.Proofs.Tryz
open Go.Vm hiding sgn
open Go.Vy hiding val
theorem bRj {nb:Nat} {X:SS->Prop} {s:SS} (hX:Tgt nb X) (t i:Nat) (ht:fR s.sl t=some (.c (.s i 1))) (hb:s.bl[i]? =some (123,1,[uC 1])) (hnb:nb<=i)
 (h:∀g:Sl Nat,g.l=[1]->vL i s λs'=>mE s'.bl i (123,1,[]) λbl'=>X ⟨(t,.c (dY g))::s'.sl,[],bl',s'.fl⟩):X s:=
 aUn hX t i (λj=>[uC ([1].getD j default)]) ht hb (λj hj=>mA (x:=[1]) j hj) rfl dQ (iI [1]) hnb λA c _ _=>h ⟨A,c,[1]⟩ rfl
theorem bLv {ρ:Pl} {n:Nat} {w:World} {e:Nat} {get:Nat->List CV} {v:Value} (h:Hc ρ n w (.v (.slice none 0 0)) v):Hc ρ n w (.r none 0 0 e get) v:=(Hd.nilr v (.c h)).inv_c
abbrev aHu:FuncId:=160
theorem bId:Ent Tryz.prog aHu:=aW func160 rfl kR
theorem bIe:Tryz.prog.funcs[aHu]? =some Tryz.f160:=func160
theorem qV (r:RatM) {q:Rat} (h:Rq r q 17592186044416):Ctr Tryz.prog aHu [] [.a r.C] [] (λg:Int×Int×Prop=>⟨.t [.c (iC g.1),.c (iC g.2.1),pC g.2.2],[],g.2.2->(-2147483648<g.1/\g.1<2147483648)/\(0<g.2.1/\g.2.1<2147483648)/\Rat.divInt g.1 g.2.1=q⟩):=by
 have hv:=h.v
 refine aX gT bId bIe rfl rfl rfl bL aS (aA gT mxd ⟨[],aRk r.n.m h.n.lm (aG h.n.ln dC),rfl,rfl,rfl,λ_ _=>⟨[],aRk r.d h.ld (aG h.bd dC),rfl,rfl,rfl,λ_ _=>⟨λh1=>aA gT mxd ?_,λh1=>aA gT mxd ?_⟩⟩⟩)
 ·exact⟨(0,0,False),λh=>h.elim,aM ⟨rfl,rfl,ff λh=>h⟩ rfl trivial⟩
 have k1:val r.n.m.l<18446744073709551616:=aT λh=>h1 (.inl (.inl (.inl h)))
 have k2:val r.d.l<18446744073709551616:=aT λh=>h1 (.inl (.inl (.inr h)))
 have k3:=λh=>h1 (.inl (.inr h))
 have k4:=λh=>h1 (.inr h)
 rw[if_pos k1] at k3
 rw[if_pos k2] at k4
 replace k3:¬(2147483648:Int)<=(val r.n.m.l:Nat):=k3
 replace k4:¬(2147483648:Int)<=(val r.d.l:Nat):=k4
 rw[if_pos k1,if_pos k2]
 refine⟨λh2=>aA gT mxd ?_,λh2=>aA gT mxd ⟨λh3=>aA gT mxd ?_,λh3=>aA gT mxd ?_⟩⟩
 ·refine⟨(0,1,True),λ_=>⟨⟨by decide,by decide⟩,⟨by decide,by decide⟩,?_⟩,aM ⟨rfl,rfl,tt trivial⟩ rfl trivial⟩
  replace h2:((val r.d.l:Nat):Int)=0:=h2
  rw[<-hv,h2,uW,uX]
 all_goals
  replace h2:¬((val r.d.l:Nat):Int)=0:=h2
  have b1:(0:Int)<(val r.d.l:Nat)/\((val r.d.l:Nat):Int)<2147483648:=⟨by omega,by omega⟩
  have b2:(-2147483648:Int)<(val r.n.m.l:Nat)/\((val r.n.m.l:Nat):Int)<2147483648:=⟨by omega,by omega⟩
  have b3:(-2147483648:Int)< -(val r.n.m.l:Nat)/\(-(val r.n.m.l:Nat):Int)<2147483648:=⟨by omega,by omega⟩
 ·refine⟨(val r.n.m.l:Nat),wi,-(val r.n.m.l:Nat),wi,(val r.d.l:Nat),wi,(-(val r.n.m.l:Nat),(val r.d.l:Nat),True),λ_=>⟨b3,b1,?_⟩,aM ⟨rfl,rfl,tt trivial⟩ rfl trivial⟩
  rw[kE h3] at hv;exact hv
 refine⟨(val r.n.m.l:Nat),wi,(val r.d.l:Nat),wi,((val r.n.m.l:Nat),(val r.d.l:Nat),True),λ_=>⟨b2,b1,?_⟩,aM ⟨rfl,rfl,tt trivial⟩ rfl trivial⟩
 rw[kF h3] at hv;exact hv
abbrev aOj:FuncId:=173
theorem bRk:Ent Tryz.prog aOj:=aW func173 rfl kR
theorem bRl:Tryz.prog.funcs[aOj]? =some Tryz.f173:=func173
theorem aHv {n d:Int} (hd:0<d/\d<=9223372036854775807) (hn:-9223372036854775807<=n/\n<=9223372036854775807):Ctr Tryz.prog aOj [] [.c (iC n),.c (iC d)] [] (vF (Rat.divInt n d)):=by
 have hlaw:=aGc (z:=n) (d:=d.toNat) oM
 rw[show((d.toNat:Nat):Int)=d by omega] at hlaw
 refine aX gT bRk bRl rfl rfl rfl bL aS (aA gT mxd ⟨(if n<0 then 18446744073709551616-n.natAbs else n.natAbs:Nat),?_,?_⟩)
 ·show _=_
  rw[IntKind.wrap_u64];split<;>omega
 refine vjn (λ_=>true) (λ_:Unit=>[(0,.c (iC n)),(1,.c (iC d)),(4,.c (.p 0 0)),(5,.c (wC n.natAbs))]) (λ_=>[(62,0,vG)]) (λ_=>True) ?_
 refine⟨⟨λh=>aA gT mxd ⟨(n.natAbs:Nat),?_,(),trivial,rfl,rfl,rfl,rfl,rfl,rfl⟩,λh=>aA gT mxd ⟨(),trivial,rfl,rfl,rfl,rfl,rfl,?_⟩⟩,λ_ _=>?_⟩
 ·show _=_
  rw[IntKind.wrap_u64,if_pos h];omega
 ·show(_:Int)=(_:Int)
  rw[if_neg h]
 refine⟨(d.toNat:Nat),wu,?_⟩
 refine jX (rn [(6,7),(17,22)]) (λg:Nat×Nat=>[(6,.c (wC g.1)),(7,.c (wC g.2))]) (λ_=>[(62,0,vG)]) (λg=>Nat.gcd g.1 g.2=Nat.gcd n.natAbs d.toNat/\g.1<18446744073709551616/\g.2<18446744073709551616) (λg=>g.2) (d.toNat,n.natAbs) ?_
 have l1:d.toNat<18446744073709551616:=by omega
 have l2:n.natAbs<18446744073709551616:=by omega
 refine⟨⟨⟨iQ _ _,l1,l2⟩,rfl,rfl,rfl⟩,λ⟨a,b⟩ ⟨hcd,hc,hb⟩=>aA gT mxd ⟨λh3=>aA gT mxd ?_,λh3=>aA gT mxd (aA gT mxd ?_)⟩⟩
 all_goals simp only at hcd hc hb
 ·replace h3:(b:Int)≠0:=h3
  have hlt:=dI a (show 0<b by omega)
  refine⟨.seq [(0,false),(1,false),(2,false),(3,false),(4,false),(5,false)],by kernel_rfl,h3,(b,a%b),⟨⟨?_,hb,by show a%b<_;omega⟩,hlt⟩,rfl,rfl,rfl,?_⟩
  ·show Nat.gcd b (a%b)=_
   rw[<-hcd,iQ,<-wT,iQ]
  show(_:Int).tmod (_:Int)=(_:Int)
  rfl
 obtain rfl:b=0:=by
  replace h3:¬(b:Int)≠0:=h3
  omega
 rw[nN] at hcd
 subst hcd
 have hg:((Nat.gcd n.natAbs d.toNat:Nat):Int)≠0:=by
  have:=nH n.natAbs (show 0<d.toNat by omega)
  omega
 have d1:=gU n.natAbs (Nat.gcd n.natAbs d.toNat)
 have d2:=gU d.toNat (Nat.gcd n.natAbs d.toNat)
 refine⟨.seq [(0,false),(1,false),(2,false),(3,false),(4,false),(7,false),(8,false),(9,false),(10,false),(5,true),(6,false),(11,true),(12,false),(13,true)],by kernel_rfl,hg,_,aNr l2,(d.toNat:Nat),wu,hg,_,aNr l1,[],nC (eR d1 l2),rfl,rfl,rfl,λm hm=>⟨[],nC (eR d2 l1),rfl,rfl,rfl,λe he=>⟨⟨⟨n<0,inferInstance,m⟩,e⟩,⟨⟨hlaw.2.2.symm,?_⟩,?_⟩,aM rfl rfl trivial⟩⟩⟩
 ·show m.l=_
  rw[hlaw.1];exact hm
 show e.l=_
 rw[hlaw.2.1];exact he
abbrev aHw:FuncId:=156
theorem bIf:Ent Tryz.prog aHw:=aW func156 rfl kR
theorem bIg:Tryz.prog.funcs[aHw]? =some Tryz.f156:=func156
theorem pG (r:RatM) {q:Rat} {B:Nat} (h:Rq r q B) (h1:1<=B) (hB:B<=35184372088832):Ctr Tryz.prog aHw [] [.a r.C] [] (λg:RatM=>⟨.t [.a g.n.C,.c (dY g.d)],[],Rq g q B/\val g.d.l≠0⟩):=by
 refine aX gT bIf bIg rfl rfl rfl bL aS (aA gT mxd ⟨[],aRq r.d h.ld (aG h.bd hB),rfl,rfl,rfl,λ_ _=>⟨λh2=>Sd.sq (aA gT mxd ?_),λh2=>aA gT mxd ?_⟩⟩)
 ·have hz:=bAf.1 h2
  show Sd _ _ _ _ _ _
  refine bRj tSd 3 2 rfl rfl bL λd hd=>?_
  show Sd _ _ _ _ _ _
  refine gK tSd 1 [.b (false=true) inferInstance,dY cP] rfl rfl (λk c c' k1 k2=>?_) (aA gT mxd ⟨⟨⟨false=true,inferInstance,cP⟩,d⟩,⟨⟨⟨Lm.nil,aC _,rfl⟩,?_,?_,?_⟩,?_⟩,aM ⟨rfl,rfl⟩ rfl trivial⟩)
  ·match k,k1,k2 with
   |0,k1,k2=>injection k1 with k1;injection k2 with k2;rw[<-k1,<-k2];exact eX _
   |1,k1,k2=>injection k1 with k1;injection k2 with k2;rw[<-k1,<-k2];exact λρ n w x h=>bLv h
  ·show Lm d.l
   rw[hd];exact λz hz=>by rw[aI.1 hz];decide
  ·show d.l.length<=B
   rw[hd];exact h1
  ·show Rat.divInt _ (val d.l:Nat)=q
   rw[<-h.v,hz,hd]
   show Rat.divInt (sg (false=true) 0) _=_
   rw[kF dC]
   exact(uX _).trans (uW _).symm
  show val d.l≠0
  rw[hd];decide
 have hz:val r.d.l≠0:=λh=>h2 (bAf.2 h)
 exact⟨.treeX [] [2000,1,2002,3] (trS [4,2005]),by kernel_rfl,rfl,r,⟨h,hz⟩,aM ⟨rfl,rfl⟩ rfl trivial⟩
theorem bRm {c0 c1 c2:CV} {k:Nat} {c c':CV} (k1:[c0,.v (.slice none 0 0),c2][k]? =some c) (k2:[c0,dY cP,c2][k]? =some c'):LeC c c':=by
 match k,k1,k2 with
 |0,k1,k2=>injection k1 with k1;injection k2 with k2;rw[<-k1,<-k2];exact eX _
 |1,k1,k2=>injection k1 with k1;injection k2 with k2;rw[<-k1,<-k2];exact λρ n w x h=>bLv h
 |2,k1,k2=>injection k1 with k1;injection k2 with k2;rw[<-k1,<-k2];exact eX _
theorem aRu {z:Int} {d:Nat} {q:Rat} (hd:d≠0) (h:Rat.divInt z (d:Int)=q):q.num.natAbs=z.natAbs/Nat.gcd z.natAbs d/\q.den=d/Nat.gcd z.natAbs d/\(q.num<0↔z<0)/\(q.num=0↔z=0):=by
 subst h
 obtain⟨h1,h2,h3⟩:=aGc (z:=z) hd
 refine⟨h1,h2,h3,λh=>?_,λh=>by rw[h,uX];rfl⟩
 rw[h] at h1
 have hdv:Nat.gcd z.natAbs d∣z.natAbs:=iX _ _
 have h4:=Nat.div_mul_cancel hdv
 rw[<-h1] at h4
 simp at h4
 omega
abbrev bAl:FuncId:=174
theorem cAj:Ent Tryz.prog bAl:=aW func174 rfl kR
theorem cAk:Tryz.prog.funcs[bAl]? =some Tryz.f174:=func174
theorem aHx (i:IntM) (d:Sl Nat) {a:Int} (hi:In i a 17592186044416) (ld:Lm d.l) (hn:d.l.length<=17592186044416) (hd:val d.l≠0):Ctr Tryz.prog bAl [] [.a i.C,.c (dY d)] [] (vF (Rat.divInt a (val d.l:Nat))):=by
 obtain⟨q,hq⟩:∃q,q=Rat.divInt a (val d.l:Nat):=⟨_,rfl⟩
 obtain⟨e1,e2,e3,e4⟩:=aRu hd hq.symm
 rw[<-hq]
 refine aX gT cAj cAk rfl rfl rfl bL aS (aA gT mxd ⟨[],bAe i hi.le,rfl,rfl,rfl,λn hn'=>⟨[],yW d ld oM,rfl,rfl,rfl,λe he=>?_⟩⟩)
 replace hn':Ci n a:=hn'
 replace he:e.l=cW (val d.l):=he
 have hal:=hi.len
 have hel:e.l.length<=17592186044416:=by rw[he];exact aG (dN ld) hn
 have hnl:n.m.l.length<=17592186044416:=by rw[hn'.2];exact hal
 obtain⟨le,ve⟩:=dg he
 obtain⟨lm,vm⟩:=dg hn'.2
 have hz0:=mZ (n:=a.natAbs)
 unfold len at hz0
 rw[<-hn'.2] at hz0
 refine⟨λh=>Sd.sq (Sd.rg gT (l:=[_,_,_]) [_] [_,_] rfl rfl ?_),λh=>aA gT mxd ?_⟩
 ·replace h:((n.m.l.length:Nat):Int)=0:=h
  have ha:a=0:=by have:=hz0.1 oM;omega
  have hq0:q=0:=dW.1 (e4.2 ha)
  show Sdl _ _ _ _ _ _ _
  refine bRj bPd 14 2 rfl rfl bL λg hg=>Sdl.go gT ?_
  show Sd _ _ _ _ _ _
  refine gK tSd 1 [.b (false=true) inferInstance,dY cP,dY g] rfl rfl (λk c c' k1 k2=>bRm (c1:=.u) k1 k2) (aA gT mxd ⟨⟨⟨false=true,inferInstance,cP⟩,g⟩,?_,aM rfl rfl trivial⟩)
  subst hq0
  exact⟨⟨⟨λh=>(by cases h),λh=>absurd (show(0:Int)<0 from h) dC⟩,rfl⟩,hg⟩
 refine⟨[],bQi n.m e lm le hnl hel,rfl,rfl,rfl,λg hg=>?_⟩
 replace hg:g.l=cW (Nat.gcd (val n.m.l) (val e.l)):=hg
 rw[vm,ve] at hg
 obtain⟨lg,vg⟩:=dg hg
 obtain⟨G,hG⟩:∃G,G=Nat.gcd a.natAbs (val d.l):=⟨_,rfl⟩
 rw[<-hG] at hg vg e1 e2
 have hGp:0<G:=by rw[hG];exact nH _ oM
 have hgl:g.l.length<=17592186044416:=by
  rw[hg]
  exact aG (fQ (Nat.le_of_dvd oM (by rw[hG];exact oJ _ _))) (aG (dN ld) hn)
 refine⟨0,λh=>⟨rfl,?_⟩,?_⟩
 ·replace h:¬((g.l.length:Nat):Int)≠1:=h
  omega
 refine vjn (λ_=>true) (λg:Sl Nat×Sl Nat=>[(1,.c (dY g.2)),(2,.c (.p 0 0)),(4,.c (.p 1 0))]) (λg=>[(60,0,[.b n.p n.d,dY g.1]),(62,0,vG)]) (λg=>g.1.l=cW q.num.natAbs/\g.2.l=cW q.den) ?_
 refine⟨⟨λh1=>aA gT mxd ⟨[],aZn n.m g lm lg hnl hgl,rfl,rfl,rfl,λu hu=>⟨[],aZn e g le lg hel hgl,rfl,rfl,rfl,λv hv=>⟨(u.1,v.1),⟨?_,?_⟩,rfl,rfl,rfl,rfl,rfl⟩⟩⟩,λh1=>aA gT mxd ⟨(n.m,e),?_,rfl,rfl,rfl,rfl,rfl⟩⟩,λg hg=>?_⟩
 ·show u.1.l=_
  rw[hu.1,vm,vg,e1]
 ·show v.1.l=_
  rw[hv.1,ve,vg,e2]
 ·have hg1:G=1:=by
   have hl1:g.l.length=1:=aT λh=>h1 (.inl (by show((g.l.length:Nat):Int)≠1;omega))
   obtain⟨o1,-⟩:=aRn hg hl1
   exact aT λh=>h1 (.inr (by show((g.l.getD 0 default:Nat):Int)≠1;omega))
  rw[hg1,Nat.div_one] at e1 e2
  exact⟨by rw[e1];exact hn'.2,by rw[e2];exact he⟩
 refine⟨⟨⟨n.p,n.d,g.1⟩,g.2⟩,⟨⟨?_,hg.1⟩,hg.2⟩,aM rfl rfl trivial⟩
 rw[e3];exact hn'.1
abbrev aOk:FuncId:=119
theorem bRn:Ent Tryz.prog aOk:=aW func119 rfl kR
theorem bRo:Tryz.prog.funcs[aOk]? =some Tryz.f119:=func119
theorem nJ (r:RatM) {q:Rat} (h:Rq r q 4398046511104):Ctr Tryz.prog aOk [] [.a r.C] [] (vF q):=by
 refine aX gT bRn bRo rfl rfl rfl bL aS (aA gT mxd ⟨[],qV r h.le,rfl,rfl,rfl,λs hs=>⟨λh1=>aA gT mxd ?_,λh1=>aA gT mxd ?_⟩⟩)
 ·obtain⟨b1,b2,b3⟩:=hs h1
  refine⟨[],aHv (n:=s.1) (d:=s.2.1) ⟨b2.1,by omega⟩ ⟨by omega,by omega⟩,rfl,rfl,rfl,λg hg=>⟨g,?_,aM rfl rfl trivial⟩⟩
  rw[<-b3];exact hg
 refine⟨[],pG r h bL bL,rfl,rfl,rfl,λg ⟨hg,hz⟩=>⟨[],aHx g.n g.d (hg.n.le bL) hg.ld (aG hg.bd bL) hz,rfl,rfl,rfl,λx hx=>⟨x,?_,aM rfl rfl trivial⟩⟩⟩
 rw[<-hg.v];exact hx
abbrev aOl:FuncId:=97
theorem bRp:Ent Tryz.prog aOl:=aW func97 rfl kR
theorem bRq:Tryz.prog.funcs[aOl]? =some Tryz.f97:=func97
theorem jF (r:RatM) {q:Rat} (h:Rq r q 4398046511104):Ctr Tryz.prog aOl [] [.a r.C] [] (λ_:Unit=>⟨.c (iC (sgn q.num)),[],True⟩):=by
 refine aX gT bRp bRq rfl rfl rfl bL aS (aA gT mxd ⟨[],pG r h bL bL,rfl,rfl,rfl,λg ⟨hg,hz⟩=>⟨[],aDj g.n (hg.n.le bL),rfl,rfl,rfl,λ_ _=>⟨(),trivial,aM ?_ rfl trivial⟩⟩⟩)
 obtain⟨-,-,e3,e4⟩:=aRu hz hg.v
 show sgn _=sgn _
 unfold sgn
 simp only[e3,e4]
abbrev aOm:FuncId:=116
theorem bRr:Ent Tryz.prog aOm:=aW func116 rfl kR
theorem bRs:Tryz.prog.funcs[aOm]? =some Tryz.f116:=func116
theorem sD {z:Int} (hz:-9223372036854775808<=z/\z<=9223372036854775807):Ctr Tryz.prog aOm [] [.c (iC z)] [] (vF (z:Rat)):=by
 refine aX gT bRr bRs rfl rfl rfl bL aS (Sd.sq (aA gT mxd (Sd.sq (Sd.rg gT (l:=[_,_,_,_,_]) [_,_,_] [_,_] rfl rfl ⟨[],bAg hz,rfl,rfl,rfl,λn hn=>?_⟩))))
 show Sdl _ _ _ _ _ _ _
 refine bRj bPd 5 1 rfl rfl bL λg hg=>Sdl.go gT (aA gT mxd ⟨⟨n,g⟩,⟨?_,?_⟩,aM rfl rfl trivial⟩)
 ·exact hn
 show g.l=_
 rw[hg];rfl
theorem cAl {a b:Nat}:qU (a:Int) (b:Int)=0↔a=b:=by unfold qU;constructor<;>intro h<;>(repeat split at*)<;>omega
theorem xT {a b:Int} (ha:-2147483648<a/\a<2147483648) (hb:-2147483648<b/\b<2147483648):a*b=IntKind.i64.wrap (a*b)/\-4611686018427387904<a*b/\a*b<4611686018427387904:=by
 have:=bYf ha hb
 exact⟨wi (h:=⟨rfl,by omega,by omega⟩),this⟩
def den (X:Sl Nat):IntM:=⟨false=true,inferInstance,X⟩
theorem aHy {X:Sl Nat} {B:Nat} (hl:Lm X.l) (hb:X.l.length<=B):In (den X) (val X.l:Nat) B:=In.den hl hb
theorem vZ {a b:Int} {B C:Nat} (ha:len a.natAbs<=B) (hb:len b.natAbs<=C):len (a*b).natAbs<=B+C:=by
 rw[kM]
 have:=oV a.natAbs b.natAbs
 omega
def oPA:Ord:=.joinX [] [0,2001,2002,4,2005,2006] (.alt 3 (.alt 7 (.alt 8 (trS [9,1010]) (.alt 9 (trS [8,1010]) .nil)) (.alt 9 (trS [7,8,1010]) .nil)) (.alt 9 (trS [3,7,8,1010]) .nil))
abbrev paG (x y:RatM):List (Nat×DV):=[(15,.c (.p 5 0)),(14,.c (dY y.d)),(12,.c (dY x.d)),(4,.c (.p 2 0))]
abbrev paB (r s x y:RatM) (n:IntM):BL:=[(62,0,r.C),(62,0,s.C),(62,0,vG),(60,0,x.n.C),(60,0,y.n.C),(60,0,n.C)]
theorem aHz {r s x y:RatM} {n:IntM}:scB 6 (paB r s x y n):=aB rfl (aB rfl (aB rfl (aB rfl (aB rfl (aB rfl aY)))))
abbrev bAm:FuncId:=158
theorem cAm:Ent Tryz.prog bAm:=aW func158 rfl kR
theorem cAn:Tryz.prog.funcs[bAm]? =some Tryz.f158:=func158
theorem wA (r s:RatM) {a b:Rat} (hr:Rq r a 4398046511104) (hs:Rq s b 4398046511104):Ctr Tryz.prog bAm [] [.a r.C,.a s.C] [] (vF (a+b)):=by
 refine aX gT cAm cAn rfl rfl rfl bL aS (aA gT mxd ⟨[],jF r hr.le,rfl,rfl,rfl,λ_ _=>⟨λh=>aA gT mxd ?_,λ_=>aA gT mxd ⟨[],jF s hs.le,rfl,rfl,rfl,λ_ _=>⟨λh=>aA gT mxd ?_,λ_=>aA gT mxd ?_⟩⟩⟩⟩)
 ·refine⟨[],nJ s hs.le,rfl,rfl,rfl,λg hg=>⟨g,?_,aM rfl rfl trivial⟩⟩
  rw[dW.1 (gW.1 h),fM];exact hg
 ·refine⟨[],nJ r hr.le,rfl,rfl,rfl,λg hg=>⟨g,?_,aM rfl rfl trivial⟩⟩
  rw[dW.1 (gW.1 h),bM];exact hg
 refine⟨[],qV r hr.le,rfl,rfl,rfl,λu hu=>⟨[],qV s hs.le,rfl,rfl,rfl,λv hv=>⟨λh=>aA gT mxd ?_,λ_=>aA gT mxd ?_⟩⟩⟩
 ·obtain⟨u1,u2,u3⟩:=hu h.1
  obtain⟨v1,v2,v3⟩:=hv h.2
  have m1:=xT u1 (b:=v.2.1) ⟨by omega,v2.2⟩
  have m2:=xT v1 (b:=u.2.1) ⟨by omega,u2.2⟩
  have m3:=xT (a:=u.2.1) (b:=v.2.1) ⟨by omega,u2.2⟩ ⟨by omega,v2.2⟩
  have m4:=wR u2.1 v2.1
  refine⟨_,m1.1,_,m2.1,_,wi (h:=⟨rfl,by omega,by omega⟩),_,m3.1,[],aHv ⟨m4,by omega⟩ ⟨by omega,by omega⟩,rfl,rfl,rfl,λg hg=>⟨g,?_,aM rfl rfl trivial⟩⟩
  rw[<-aCg u2.1 v2.1 u3 v3];exact hg
 refine⟨[],pG r hr bL bL,rfl,rfl,rfl,λx ⟨hx,hxz⟩=>⟨[],pG s hs bL bL,rfl,rfl,rfl,λy ⟨hy,hyz⟩=>?_⟩⟩
 have lx:=hx.n.len
 have ly:=hy.n.len
 have ldx:=aG (dN hx.ld) hx.bd
 have ldy:=aG (dN hy.ld) hy.bd
 refine⟨[],uF x.d y.d hx.ld hy.ld (aG hx.bd bL) (aG hy.bd bL),rfl,rfl,rfl,λ_ _=>⟨λh=>aA gT mxd ?_,λ_=>aA gT mxd ?_⟩⟩
 ·have e:=cAl.1 h
  refine⟨[],aRr x.n y.n (hx.n.le bL) (hy.n.le bL),rfl,rfl,rfl,λn hn=>?_⟩
  have l1:=aHt lx ly
  refine⟨[],aHx n x.d (Ci.in hn (aG l1 bL)) hx.ld (aG hx.bd bL) hxz,rfl,rfl,rfl,λg hg=>⟨g,?_,aM rfl rfl trivial⟩⟩
  rw[<-aTz (c:=(val x.d.l:Nat)) oM hx.v (e▸hy.v)];exact hg
 have c1:=yY x.n (den y.d) (hx.n.le bL) (aHy hy.ld (aG hy.bd bL))
 have c2:=yY y.n (den x.d) (hy.n.le bL) (aHy hx.ld (aG hx.bd bL))
 have l1:=vZ lx (b:=(val y.d.l:Nat)) ldy
 have l2:=vZ ly (b:=(val x.d.l:Nat)) ldx
 have l3:=aHt l1 l2
 have c3:∀p1 p2:IntM,Ci p1 _->Ci p2 _->_:=λp1 p2 h1 h2=>aRr p1 p2 (Ci.in h1 (aG l1 bL)) (Ci.in h2 (aG l2 bL))
 refine⟨oPA,by kernel_rfl,IntM,λn=>⟨paG x y++[],[],paB r s x y n,[]⟩,λn=>Ci n (sg x.n.p (val x.n.m.l)*(val y.d.l:Nat)+sg y.n.p (val y.n.m.l)*(val x.d.l:Nat)),?_,λn hn=>?_⟩
 ·exact⟨⟨[],c1,rfl,rfl,rfl,λp hp=>⟨rfl,⟨⟨[],c2,rfl,rfl,rfl,λo ho=>⟨rfl,⟨⟨[],c3 p o hp ho,rfl,rfl,rfl,λn hn=>⟨rfl,⟨rfl,bS g0 (chg:=λ_=>paG x y) (bls:=paB r s x y) (fls:=λ_=>[]) n hn rfl ⟨rfl,rfl,rfl,rfl,rfl,rfl⟩ trivial ⟨rfl,rfl,rfl,rfl⟩ bL aHz rfl⟩⟩⟩,⟨rfl,⟨[],c3 p o hp ho,rfl,rfl,rfl,λn hn=>⟨rfl,bS g0 (chg:=λ_=>paG x y) (bls:=paB r s x y) (fls:=λ_=>[]) n hn rfl ⟨rfl,rfl,rfl,rfl,rfl,rfl⟩ trivial ⟨rfl,rfl,rfl,rfl⟩ bL aHz rfl⟩⟩⟩⟩⟩⟩,⟨rfl,⟨[],c2,rfl,rfl,rfl,λo ho=>⟨rfl,⟨[],c3 p o hp ho,rfl,rfl,rfl,λn hn=>⟨rfl,bS g0 (chg:=λ_=>paG x y) (bls:=paB r s x y) (fls:=λ_=>[]) n hn rfl ⟨rfl,rfl,rfl,rfl,rfl,rfl⟩ trivial ⟨rfl,rfl,rfl,rfl⟩ bL aHz rfl⟩⟩⟩⟩⟩⟩⟩⟩,⟨rfl,⟨[],c1,rfl,rfl,rfl,λp hp=>⟨rfl,⟨[],c2,rfl,rfl,rfl,λo ho=>⟨rfl,⟨[],c3 p o hp ho,rfl,rfl,rfl,λn hn=>⟨rfl,bS g0 (chg:=λ_=>paG x y) (bls:=paB r s x y) (fls:=λ_=>[]) n hn rfl ⟨rfl,rfl,rfl,rfl,rfl,rfl⟩ trivial ⟨rfl,rfl,rfl,rfl⟩ bL aHz rfl⟩⟩⟩⟩⟩⟩⟩⟩
 have l4:=oV (val x.d.l) (val y.d.l)
 refine⟨.seq [(0,false),(1,false),(2,false),(3,false),(4,true),(5,true)],by kernel_rfl,[],yX x.d y.d hx.ld hy.ld (aG hx.bd bL) (aG hy.bd bL),rfl,rfl,rfl,λz hz=>?_⟩
 replace hz:z.l=cW (val x.d.l*val y.d.l):=hz
 obtain⟨lz,vz⟩:=dg hz
 refine⟨[],aHx n z (Ci.in hn (aG l3 bL)) lz (dgl hz oM) (by rw[vz];exact Nat.mul_ne_zero hxz hyz),rfl,rfl,rfl,λg hg=>⟨g,?_,aM rfl rfl trivial⟩⟩
 rw[<-hx.v,<-hy.v,lZ _ _ oM oM,<-fU,<-vz];exact hg
abbrev aRv:FuncId:=111
theorem cAo:Ent Tryz.prog aRv:=aW func111 rfl kR
theorem cAp:Tryz.prog.funcs[aRv]? =some Tryz.f111:=func111
theorem pQ (r s:RatM) {a b:Rat} (hr:Rq r a 4398046511104) (hs:Rq s b 4398046511104):Ctr Tryz.prog aRv [] [.a r.C,.a s.C] [] (vF (a*b)):=by
 refine aX gT cAo cAp rfl rfl rfl bL aS (aA gT mxd ⟨[],qV r hr.le,rfl,rfl,rfl,λu hu=>⟨[],qV s hs.le,rfl,rfl,rfl,λv hv=>⟨λh=>aA gT mxd ?_,λ_=>aA gT mxd ?_⟩⟩⟩)
 ·obtain⟨u1,u2,u3⟩:=hu h.1
  obtain⟨v1,v2,v3⟩:=hv h.2
  have m1:=xT u1 v1
  have m3:=xT (a:=u.2.1) (b:=v.2.1) ⟨by omega,u2.2⟩ ⟨by omega,v2.2⟩
  have m4:=wR u2.1 v2.1
  refine⟨_,m1.1,_,m3.1,[],aHv ⟨m4,by omega⟩ ⟨by omega,by omega⟩,rfl,rfl,rfl,λg hg=>⟨g,?_,aM rfl rfl trivial⟩⟩
  rw[<-aCh u3 v3];exact hg
 refine⟨[],pG r hr bL bL,rfl,rfl,rfl,λx ⟨hx,hxz⟩=>⟨[],pG s hs bL bL,rfl,rfl,rfl,λy ⟨hy,hyz⟩=>?_⟩⟩
 have l1:=vZ hx.n.len hy.n.len
 have l4:=oV (val x.d.l) (val y.d.l)
 have ldx:=aG (dN hx.ld) hx.bd
 have ldy:=aG (dN hy.ld) hy.bd
 refine⟨[],yY x.n y.n (hx.n.le bL) (hy.n.le bL),rfl,rfl,rfl,λn hn=>⟨[],yX x.d y.d hx.ld hy.ld (aG hx.bd bL) (aG hy.bd bL),rfl,rfl,rfl,λz hz=>?_⟩⟩
 replace hz:z.l=cW (val x.d.l*val y.d.l):=hz
 obtain⟨lz,vz⟩:=dg hz
 refine⟨[],aHx n z (Ci.in hn (aG l1 bL)) lz (dgl hz oM) (by rw[vz];exact Nat.mul_ne_zero hxz hyz),rfl,rfl,rfl,λg hg=>⟨g,?_,aM rfl rfl trivial⟩⟩
 rw[<-aCh hx.v hy.v,<-fU,<-vz];exact hg
abbrev bAn:FuncId:=182
theorem cAq:Ent Tryz.prog bAn:=aW func182 rfl kR
theorem cAr:Tryz.prog.funcs[bAn]? =some Tryz.f182:=func182
theorem bAo (r:RatM) {q:Rat} (h:Rq r q 4398046511104):Ctr Tryz.prog bAn [] [.a r.C] [] (vF (-q)):=by
 refine aX gT cAq cAr rfl rfl rfl bL aS (aA gT mxd ⟨[],nJ r h,rfl,rfl,rfl,λg hg=>⟨[],bHy g.n (v:=q.num) (Ci.in hg.1 (aG h.rb.1 bL)),rfl,rfl,rfl,λn hn=>⟨⟨n,g.d⟩,⟨?_,hg.2⟩,aM rfl rfl trivial⟩⟩⟩)
 exact hn
theorem bAp {p:Prop} {m d:Nat}:Rat.divInt (sg p d) (m:Nat)=(Rat.divInt (sg p m) (d:Nat))⁻¹:=by
 rw[Rat.inv_divInt]
 by_cases hp:p
 ·rw[kE hp,kE hp,Rat.divInt_neg']
 rw[kF hp,kF hp]
def RatM.flip (r:RatM):RatM:=⟨⟨r.n.p,r.n.d,r.d⟩,r.n.m⟩
theorem Rq.flip {r:RatM} {q:Rat} {B:Nat} (h:Rq r q B):Rq r.flip q⁻¹ B:=⟨⟨h.ld,h.bd,rfl⟩,h.n.lm,h.n.ln,by rw[<-h.v];exact bAp⟩
abbrev bAq:FuncId:=179
theorem cAs:Ent Tryz.prog bAq:=aW func179 rfl kR
theorem cAt:Tryz.prog.funcs[bAq]? =some Tryz.f179:=func179
theorem bRt (r:RatM) {q:Rat} {B:Nat} (h:Rq r q 4398046511104) (hB:rb q B) (hq:q≠0):Ctr Tryz.prog bAq [] [.a r.C] [] (λg:RatM=>⟨.t [.a g.C,pC True],[],Rq g q⁻¹ B⟩):=by
 refine aX gT cAs cAt rfl rfl rfl bL aS (aA gT mxd ⟨[],jF r h,rfl,rfl,rfl,λ_ _=>⟨λh=>absurd (dW.1 (gW.1 h)) hq,λ_=>aA gT mxd ⟨[],nJ r h,rfl,rfl,rfl,λg hg=>⟨g.flip,(Cr.rq hg hB).flip,aM ⟨rfl,tt trivial⟩ rfl trivial⟩⟩⟩⟩)
abbrev bAr:FuncId:=109
theorem cAu:Ent Tryz.prog bAr:=aW func109 rfl kR
theorem cAv:Tryz.prog.funcs[bAr]? =some Tryz.f109:=func109
theorem aOn (r s:RatM) {a b:Rat} (hr:Rq r a 4398046511104) (hs:Rq s b 4398046511104) (hb:b≠0):Ctr Tryz.prog bAr [] [.a r.C,.a s.C] [] (λg:RatM=>⟨.t [.a g.C,pC True],[],Cr g (a/b)⟩):=by
 refine aX gT cAu cAv rfl rfl rfl bL aS (aA gT mxd ⟨[],jF s hs,rfl,rfl,rfl,λ_ _=>⟨λh=>absurd (dW.1 (gW.1 h)) hb,λ_=>aA gT mxd ⟨[],pQ r s.flip hr hs.flip,rfl,rfl,rfl,λg hg=>⟨g,?_,aM ⟨rfl,tt trivial⟩ rfl trivial⟩⟩⟩⟩)
 rw[jT];exact hg
theorem Rq.neg {r:RatM} {q:Rat} {B:Nat} (h:Rq r q B):Rq ⟨⟨¬r.n.p,@instDecidableNot _ r.n.d,r.n.m⟩,r.d⟩ (-q) B:=⟨⟨h.n.lm,h.n.ln,rfl⟩,h.ld,h.bd,by
 rw[<-h.v]
 show Rat.divInt (sg (¬r.n.p) _) _=_
 rw[bAd,Rat.neg_divInt]⟩
abbrev bAs:FuncId:=110
theorem cAw:Ent Tryz.prog bAs:=aW func110 rfl kR
theorem cAx:Tryz.prog.funcs[bAs]? =some Tryz.f110:=func110
theorem aIa (r s:RatM) {a b:Rat} (hr:Rq r a 4398046511104) (hs:Rq s b 4398046511104):Ctr Tryz.prog bAs [] [.a r.C,.a s.C] [] (vF (a-b)):=by
 refine aX gT cAw cAx rfl rfl rfl bL aS (aA gT mxd ⟨[],wA r ⟨⟨¬s.n.p,@instDecidableNot _ s.n.d,s.n.m⟩,s.d⟩ hr hs.neg,rfl,rfl,rfl,λg hg=>⟨g,?_,aM rfl rfl trivial⟩⟩)
 rw[kW];exact hg
abbrev aIb:FuncId:=171
theorem bAt:Ent Tryz.prog aIb:=aW func171 rfl kR
theorem bAu:Tryz.prog.funcs[aIb]? =some Tryz.f171:=func171
theorem aRw (r f s:RatM) {a q b:Rat} {B:Nat} (hr:Rq r a 4398046511104) (hf:Rq f q 4398046511104) (hs:Rq s b 4398046511104) (hqb:rb (q*b) 4398046511104) (hB:rb (a-q*b) B) (hra:Rq r a B):Ctr Tryz.prog aIb [] [.a r.C,.a f.C,.a s.C] [] (λg:RatM=>⟨.a g.C,[],Rq g (a-q*b) B⟩):=by
 refine aX gT bAt bAu rfl rfl rfl bL aS (aA gT mxd ⟨[],jF s hs,rfl,rfl,rfl,λ_ _=>⟨λh=>aA gT mxd ⟨r,?_,aM rfl rfl trivial⟩,λh=>aA gT mxd ?_⟩⟩)
 ·rw[dW.1 (gW.1 h),bZ,kW,Rat.neg_zero,bM];exact hra
 exact⟨.seq [(0,false),(1,false),(2,false),(3,false),(4,false),(5,true)],by kernel_rfl,[],pQ f s hf hs,rfl,rfl,rfl,λm hm=>⟨[],aIa r m hr (Cr.rq hm hqb),rfl,rfl,rfl,λg hg=>⟨g,Cr.rq hg hB,aM rfl rfl trivial⟩⟩⟩
end Go.Proofs.YtghncoghdcmdfaaGreat
namespace Go.Proofs.YtghncoghdcmdfaaGreat
open Go.Vg _root_.Go.Proofs.Tryz
open Go.Vm
open Go.Vy hiding val
instance:Inhabited IntM:=⟨⟨false=true,inferInstance,cP⟩⟩
instance:Inhabited RatM:=⟨⟨default,cP⟩⟩
structure EntM where
 ix:Int
 v:RatM
instance:Inhabited EntM:=⟨⟨0,default⟩⟩
def EntM.C (e:EntM):List CV:=iC e.ix::e.v.C
def cF (x:Sl EntM):CV:=x.R 4 EntM.C default
structure Ev (x:List EntM) (es:List En) (B:Nat):Prop where
 ln:x.length=es.length
 e:∀k,k<es.length->(x.getD k default).ix=(es.getD k default).1/\Rq (x.getD k default).v (es.getD k default).2 B
structure Ek (x:List EntM) (es:List En):Prop where
 ln:x.length=es.length
 e:∀k,k<es.length->(x.getD k default).ix=(es.getD k default).1/\Cr (x.getD k default).v (es.getD k default).2
def rbE (es:List En) (B:Nat):Prop:=∀e∈es,rb e.2 B
theorem fX {α:Type} [Inhabited α] {l:List α} {k:Nat} (h:k<l.length):l.getD k default∈l:=by rw[gd h];exact kO h
theorem Ek.ev {x:List EntM} {es:List En} {B:Nat} (h:Ek x es) (hb:rbE es B):Ev x es B:=⟨h.ln,λk hk=>⟨(h.e k hk).1,(h.e k hk).2.rq (hb _ (fX hk))⟩⟩
theorem Ev.le {x:List EntM} {es:List En} {B B':Nat} (h:Ev x es B) (hb:B<=B'):Ev x es B':=⟨h.ln,λk hk=>⟨(h.e k hk).1,(h.e k hk).2.le hb⟩⟩
theorem bRu {es:List En} {k:Nat} (hk:k+1<es.length) (h:(es.getD (k+1) default).1<=(es.getD k default).1):¬Asc es:=λha=>by
 have h2:=gV.1 ha k (k+1) oM hk oM
 rw[gd hk,gd oM] at h
 exact absurd h (Int.not_le.2 h2)
theorem cAy {es:List En} {k:Nat} (hk:k+1<es.length) (h:(es.getD k default).1<(es.getD (k+1) default).1) (ha:Asc (es.take (k+1))):Asc (es.take (k+1+1)):=by
 have h1:es.take (k+1+1)=es.take (k+1)++[es.getD (k+1) default]:=by rw[dU,aE hk,gd hk];rfl
 have h0:es.take (k+1)=es.take k++[es.getD k default]:=by rw[dU,aE (show k<es.length by omega),gd (show k<es.length by omega)];rfl
 rw[h1]
 refine eM.2 ⟨ha,eW _ _,λa h2 b h3=>?_⟩
 rw[aI.1 h3]
 rw[h0] at h2 ha
 rcases aV.1 h2 with h2|h2
 ·exact iE ((eM.1 ha).2.2 a h2 _ (.head _)) h
 rw[aI.1 h2];exact h
abbrev bAv:FuncId:=165
theorem cAz:Ent Tryz.prog bAv:=aW func165 rfl kR
theorem cBa:Tryz.prog.funcs[bAv]? =some Tryz.f165:=func165
theorem bAw (x:Sl EntM) {es:List En} {B:Nat} (h:Ev x.l es B):Ctr Tryz.prog bAv [] [.c (cF x)] [] (λ_:Unit=>⟨pC (Asc es),[],True⟩):=by
 have hl:=h.ln
 refine aX gT cAz cBa rfl rfl rfl bL aS (aUm 0 rfl λhn=>aA gT mxd ?_)
 refine jX (rn [(2,21)]) (λi:Nat=>[(3,.c (iC (i+1:Nat)))]) (λ_=>[]) (λi=>Asc (es.take (i+1))/\(i<es.length\/i=0)) (es.length-·) 0 ?_
 refine⟨⟨⟨?_,.inr rfl⟩,rfl,rfl⟩,λi hi=>aA gT mxd ⟨λh1=>aA gT mxd ?_,λh1=>aA gT mxd ?_⟩⟩
 ·cases es with
  |nil=>exact List.Pairwise.nil
  |cons e es=>exact eW _ _
 ·replace h1:((i+1:Nat):Int)<(x.l.length:Nat):=h1
  have hk:i+1<es.length:=by omega
  have e1:=(h.e i oM).1
  have e2:=(h.e (i+1) hk).1
  refine⟨.seq (sq 99 (List.range 12)),by kernel_rfl,(i:Int),wi,i,⟨rfl,oM⟩,i+1,⟨rfl,oM⟩,⟨λhe=>aA gT mxd ?_,λhe=>aA gT mxd ?_⟩⟩
  ·replace he:(x.l.getD (i+1) default).ix<=(x.l.getD i default).ix:=he
   exact⟨(),trivial,aM ⟨(nomatch ·),λha=>absurd ha (bRu hk oM)⟩ rfl trivial⟩
  replace he:¬(x.l.getD (i+1) default).ix<=(x.l.getD i default).ix:=he
  exact⟨(i+1+1:Nat),wi,i+1,⟨⟨cAy hk oM hi.1,.inl hk⟩,oM⟩,rfl,rfl,rfl⟩
 replace h1:¬((i+1:Nat):Int)<(x.l.length:Nat):=h1
 refine aA gT mxd ⟨(),trivial,aM ⟨λ_=>?_,λ_=>rfl⟩ rfl trivial⟩
 have:=hi.1
 rwa [bW oM] at this
abbrev bAx:FuncId:=167
theorem cBb:Ent Tryz.prog bAx:=aW func167 rfl kR
theorem cBc:Tryz.prog.funcs[bAx]? =some Tryz.f167:=func167
theorem aIc (x:Sl EntM) {es:List En} {B:Nat} (h:Ev x.l es B) (ha:Asc es):Ctr Tryz.prog bAx [] [.c (cF x)] [] (λ_:Unit=>⟨.c (cF x),[],True⟩):=by
 refine aX gT cBb cBc rfl rfl rfl bL aS (aA gT mxd ⟨[],bAw x h,rfl,rfl,rfl,λ_ _=>⟨λ_=>aA gT mxd ⟨(),trivial,aM rfl rfl trivial⟩,λh2=>absurd ha h2⟩⟩)
abbrev bAy:FuncId:=180
theorem cBd:Ent Tryz.prog bAy:=aW func180 rfl kR
theorem cBe:Tryz.prog.funcs[bAy]? =some Tryz.f180:=func180
theorem qW {es:List En} {i:Int} {B:Nat} (ha:Asc es) (hb:rbE es B) (h1:1<=B):rb (Vm.get es i) B:=by
 induction es with
 |nil=>exact⟨by show len 0<=B;rw[show len 0=0 by decide];omega,by show len 1<=B;rw[show len 1=1 by decide];omega⟩
 |cons e es ih=>
  by_cases he:e.1=i
  ·subst he;rw[get_head ha];exact hb e (.head _)
  rw[iS he];exact ih ha.tail λe he=>hb e (.tail _ he)
theorem aLd {es:List En} {i:Int} {k:Nat} (hk:k<es.length):Vm.get (es.take (k+1)) i=Vm.get (es.take k) i+(if (es.getD k default).1=i then (es.getD k default).2 else 0):=by
 rw[dU,aE hk,gd hk,get_append]
 congr 1
 show _+0=_
 rw[bM]
theorem bAz (x:Sl EntM) (i:Int) {es:List En} {B:Nat} (h:Ev x.l es B) (hb:rbE es B) (ha:Asc es) (h1:1<=B) (hB:B<=4398046511104):Ctr Tryz.prog bAy [] [.c (cF x),.c (iC i)] [] (vF (Vm.get es i)):=by
 have hl:=h.ln
 have hgb:∀k,rb (Vm.get (es.take k) i) 4398046511104:=λk=>(qW (ha.sublist (jR _ _)) (λe he=>hb e (dA he)) h1).le
 refine aX gT cBd cBe rfl rfl rfl bL aS (aUm 0 rfl λhn=>aA gT mxd ⟨[],sD (z:=0) dC,rfl,rfl,rfl,λz hz=>?_⟩)
 replace hn:x.l.length<=9223372036854775807:=hn
 refine cO (rn [(6,7),(11,24)]) (λg:Nat×RatM=>[(11,.c (iC g.1))]) (λg=>[(62,0,vG),(62,0,g.2.C)]) (λ_=>[]) (λg=>g.1<=es.length/\Cr g.2 (Vm.get (es.take g.1) i)) (λg=>es.length-g.1) λhM=>⟨bS hM (0,z) ⟨aC _,hz⟩ rfl ⟨rfl,rfl⟩ trivial rfl bL (aB rfl (aB rfl aY)) rfl,λ⟨k,g⟩ ⟨hk,hg⟩=>aA gT mxd ⟨λh2=>aA gT mxd ?_,λh2=>aA gT mxd (aA gT mxd ?_)⟩⟩
 all_goals
  replace hk:k<=es.length:=hk
  replace hg:Cr g (Vm.get (es.take k) i):=hg
 ·replace h2:(k:Int)<(x.l.length:Nat):=h2
  have hkl:k<es.length:=by omega
  have e1:=(h.e k hkl).1
  refine⟨k,⟨rfl,by omega⟩,⟨λh3=>aA gT mxd ?_,λh3=>aA gT mxd ?_⟩⟩
  ·replace h3:(x.l.getD k default).ix=i:=h3
   refine⟨[],wA g (x.l.getD k default).v (hg.rq (hgb k)) ((h.e k hkl).2.le hB),rfl,rfl,rfl,λs hs=>⟨(k:Int)+1,wi,bS hM (k+1,s) ⟨⟨hkl,?_⟩,show es.length-(k+1)<es.length-k by omega⟩ rfl ⟨rfl,rfl⟩ trivial rfl bL (aB rfl (aB rfl aY)) rfl⟩⟩
   show Cr s _
   rw[aLd hkl,if_pos oM];exact hs
  replace h3:¬(x.l.getD k default).ix=i:=h3
  refine⟨(k:Int)+1,wi,bS hM (k+1,g) ⟨⟨hkl,?_⟩,show es.length-(k+1)<es.length-k by omega⟩ rfl ⟨rfl,rfl⟩ trivial rfl bL (aB rfl (aB rfl aY)) rfl⟩
  show Cr g _
  rw[aLd hkl,if_neg oM,bM];exact hg
 replace h2:¬(k:Int)<(x.l.length:Nat):=h2
 refine⟨g,?_,aM rfl rfl trivial⟩
 show Cr g _
 rw[bW oM] at hg
 exact hg
def VOk (es:List En) (n:Int):Prop:=Asc es/\∀e∈es,0<=e.1/\e.1<n/\e.2≠0
abbrev bBa:FuncId:=102
theorem cBf:Ent Tryz.prog bBa:=aW func102 rfl kR
theorem cBg:Tryz.prog.funcs[bBa]? =some Tryz.f102:=func102
theorem aLe (x:Sl EntM) (n:Int) {es:List En} {B:Nat} (h:Ev x.l es B) (hB:B<=4398046511104):Ctr Tryz.prog bBa [] [.c (cF x),.c (iC n)] [] (λ_:Unit=>⟨pC (VOk es n),[],True⟩):=by
 have hl:=h.ln
 refine aX gT cBf cBg rfl rfl rfl bL aS (aUm 0 rfl λhn=>aA gT mxd ⟨[],bAw x h,rfl,rfl,rfl,λ_ _=>⟨λh1=>aA gT mxd ?_,λh1=>aA gT mxd ?_⟩⟩)
 ·exact⟨(),trivial,aM ⟨(nomatch ·),λh2=>absurd h2.1 h1⟩ rfl trivial⟩
 replace h1:Asc es:=dZ.1 h1
 replace hn:x.l.length<=9223372036854775807:=hn
 refine cO (rn [(6,6),(12,31)]) (λk:Nat=>[(12,.c (iC k))]) (λ_=>[]) (λ_=>[]) (λk=>k<=es.length/\∀e∈es.take k,0<=e.1/\e.1<n/\e.2≠0) (λk=>es.length-k) λhM=>⟨bS hM 0 ⟨aC _,by simp⟩ rfl trivial trivial rfl bL aY rfl,λk ⟨hk,hg⟩=>aA gT mxd ⟨λh2=>aA gT mxd ?_,λh2=>aA gT mxd (aA gT mxd ?_)⟩⟩
 ·replace h2:(k:Int)<(x.l.length:Nat):=h2
  have hkl:k<es.length:=by omega
  obtain⟨e1,e2⟩:=h.e k hkl
  have bad:¬(0<=(es.getD k default).1/\(es.getD k default).1<n/\(es.getD k default).2≠0)->¬VOk es n:=λhh hv=>hh (hv.2 _ (fX hkl))
  refine⟨k,⟨rfl,by omega⟩,⟨λh3=>?_,λh3=>?_⟩⟩
  ·replace h3:(x.l.getD k default).ix<0\/n<=(x.l.getD k default).ix:=h3
   exact⟨(),trivial,aM ⟨(nomatch ·),λhv=>absurd hv (bad oM)⟩ rfl trivial⟩
  replace h3:¬((x.l.getD k default).ix<0\/n<=(x.l.getD k default).ix):=h3
  refine⟨[],jF (x.l.getD k default).v (e2.le hB),rfl,rfl,rfl,λ_ _=>⟨λh4=>aA gT mxd ?_,λh4=>aA gT mxd ?_⟩⟩
  ·exact⟨(),trivial,aM ⟨(nomatch ·),λhv=>absurd hv (bad λhh=>hh.2.2 (dW.1 (gW.1 h4)))⟩ rfl trivial⟩
  refine⟨(k:Int)+1,wi,bS hM (k+1) ⟨⟨hkl,(aYv (d:=default) hkl).2 ⟨hg,by omega,by omega,λh5=>h4 (gW.2 (dW.2 h5))⟩⟩,show es.length-(k+1)<es.length-k by omega⟩ rfl trivial trivial rfl bL aY rfl⟩
 replace h2:¬(k:Int)<(x.l.length:Nat):=h2
 rw[bW oM] at hg
 exact⟨(),trivial,aM ⟨λ_=>⟨h1,hg⟩,λ_=>rfl⟩ rfl trivial⟩
abbrev bRv:FuncId:=168
theorem cHl:Ent Tryz.prog bRv:=aW func168 rfl kR
theorem cHm:Tryz.prog.funcs[bRv]? =some Tryz.f168:=func168
theorem bLw (x y:RatM) {a:Rat} (hx:Rq x a 4398046511104):Ctr Tryz.prog bRv [] [.a x.C,.a y.C] [] (vF a):=by
 refine aX gT cHl cHm rfl rfl rfl bL aS (aA gT mxd ⟨[],nJ x hx,rfl,rfl,rfl,λg hg=>⟨g,hg,aM rfl rfl trivial⟩⟩)
abbrev bRw:FuncId:=220
theorem cHn:Ent Tryz.prog bRw:=aW func220 rfl kR
theorem cHo:Tryz.prog.funcs[bRw]? =some Tryz.f220:=func220
theorem cBh (f x y:RatM) {q a b:Rat} (hf:Rq f q 4398046511104) (hx:Rq x a 4398046511104) (hy:Rq y b 4398046511104) (hb:rb (q*b) 4398046511104):Ctr Tryz.prog bRw [true] [.a x.C,.a y.C,.c (.p 0 0)] [(62,0,f.C)] (λg:RatM=>⟨.a g.C,[(62,0,f.C)],Cr g (a+q*b)⟩):=by
 refine aX gT cHn cHo rfl rfl rfl bL (eI rfl) (aA gT mxd ⟨[],jF y hy,rfl,rfl,rfl,λ_ _=>⟨λh=>aA gT mxd ?_,λh=>aA gT mxd ?_⟩⟩)
 ·refine⟨[],nJ x hx,rfl,rfl,rfl,λg hg=>⟨g,?_,aM rfl rfl ⟨⟨rfl,rfl,rfl,rfl⟩,trivial⟩⟩⟩
  show Cr g _
  rw[dW.1 (gW.1 h),bZ,bM];exact hg
 exact⟨.seq [(0,false),(1,false),(2,false),(3,false),(4,false),(5,true)],by kernel_rfl,[],pQ f y hf hy,rfl,rfl,rfl,λm hm=>⟨[],wA x m hx (Cr.rq hm hb),rfl,rfl,rfl,λg hg=>⟨g,hg,aM rfl rfl ⟨⟨rfl,rfl,rfl,rfl⟩,trivial⟩⟩⟩⟩
theorem Sd.sq {P:Program} {nb N:Nat} {a b:Code} {K:Kt} {s:SS} (h:Sd P nb N a ⟨λs'=>Sd P nb N b K s',K.ext,K.ret⟩ s):Sd P nb N (.seq a b) K s:=λρ0 w0 ρ f w Q hL hD=>
 aVe (h ρ0 w0 ρ f w _ ⟨λs' ρ' f' w' h' hD'=>h' ρ0 w0 ρ' f' w' Q hL hD',hL.ext,hL.ret⟩ hD)
theorem Sd.cut {P:Program} {nb N:Nat} {a b:Code} {K:Kt} {s:SS} {σ:Type} (S:σ->SS) (C:σ->Prop) (h:Sd P nb N a ⟨λs'=>Gt nb s' S C,K.ext,K.ret⟩ s) (hk:∀g,C g->Sd P nb N b K (S g)):Sd P nb N (.seq a b) K s:=λρ0 w0 ρ f w Q hL hD=>
 aVe (h ρ0 w0 ρ f w _ ⟨λs' ρ' f' w' hg hD'=>by
  obtain⟨g,ρ2,hC,hD2⟩:=hg ρ0 w0 ρ' f' w' hD'
  exact hk g hC ρ0 w0 ρ2 f' w' Q hL hD2,hL.ext,hL.ret⟩ hD)
theorem Sd.blk {P:Program} {nb N id:Nat} {c:Code} {K:Kt} {s:SS} (h:Sd P nb N c ⟨K.nrm,λj s'=>bif Nat.beq j id then K.nrm s' else K.ext j s',K.ret⟩ s):Sd P nb N (.block id c) K s:=λρ0 w0 ρ f w Q hL hD=>
 aVg (h ρ0 w0 ρ f w _ ⟨hL.nrm,λj s' ρ' f' w' h' hD'=>by
  have h2:(bif Nat.beq j id then K.nrm s' else K.ext j s'):=h'
  show match Nat.beq j id with|true=>Q.nrm f' w'|false=>Q.ext j f' w'
  cases hj:Nat.beq j id with
  |true=>rw[hj] at h2;exact hL.nrm s' ρ' f' w' h2 hD'
  |false=>rw[hj] at h2;exact hL.ext j s' ρ' f' w' h2 hD',hL.ret⟩ hD)
theorem oB (r:RatM):∀c∈r.C,fO c=true:=λc h2=>by
 simp only[RatM.C,bR,dO,or_false] at h2
 rcases h2 with rfl|rfl|rfl<;>rfl
def ecs (ys:List EntM):List CV:=(ys.map EntM.C).flatten
theorem gZ:∀ys:List EntM,(ecs ys).length=ys.length*4
 |[]=>rfl
 |e::ys=>by
  show(e.C++ecs ys).length=_
  rw[aH,gZ ys,dK]
  show 4+_=_
  omega
theorem hJ (ys:List EntM):∀c∈ecs ys,fO c=true:=λc hc=>by
 obtain⟨l,h1,h2⟩:=tY.1 hc
 obtain⟨e,_,rfl⟩:=cB.1 h1
 rcases bR.1 h2 with rfl|h2
 ·rfl
 exact oB _ c h2
theorem tP (ys:List EntM) (e:EntM):ecs ys++e.C=ecs (ys++[e]):=by unfold ecs;simp
theorem fC {i:Nat} {c:CV} (h:fO c=true):mJ i c=false:=by cases c<;>first|rfl|cases h
theorem nM {n:Nat} (ys:List EntM):(ecs ys).all (scC n)=true:=aR.2 λc hc=>sV (hJ ys c hc)
theorem sE (x:List EntM) (i:Nat) (A:Option Addr) (c:Nat):CV.r A ((x.drop i).length-1) c 4 (λj=>((x.drop i).getD (j+1) default).C)=cF ⟨A,c,x.drop (i+1)⟩:=by
 unfold cF Sl.R
 congr 1
 ·simp only[cG];omega
 funext j
 rw[aO,aO,dH,dH,show i+(j+1)=i+1+j by omega]
theorem aFi {α:Type} [Inhabited α] {l:List α} {i:Nat} (h:i<l.length):l.drop i=l.getD i default::l.drop (i+1):=by rw[eH h,gd h]
theorem qC {x:List EntM} {i:Nat}:(x.drop i).getD 0 default=x.getD i default:=by
 rw[aO,aO,dH,gO]
theorem uJ {B:Nat}:Rq default 0 B:=⟨⟨Lm.nil,aC _,rfl⟩,Lm.nil,aC _,rfl⟩
theorem yZ {B:Nat} (h:1<=B):rb 0 B:=⟨by show len 0<=B;rw[show len 0=0 by decide];omega,by show len 1<=B;rw[show len 1=1 by decide];omega⟩
structure MgR (op:Rat->Rat->Rat) (es fs rs:List En):Prop where
 a:Asc rs
 z:aMr rs
 g:∀i,Vm.get rs i=op (Vm.get es i) (Vm.get fs i)
def aLf (es fs:List En) (B i j:Nat) (i' j':Nat) (ix:Int) (u v:RatM):Prop:=∃a b,Stp (es.drop i) (fs.drop j) ix a b (es.drop i') (fs.drop j')/\Rq u a B/\Rq v b B/\rb a B/\rb b B/\i'<=es.length/\j'<=fs.length/\i+j<i'+j'
section seen
variable {x y:List EntM} {es fs:List En} {B i j:Nat} (hx:Ev x es B) (hy:Ev y fs B) (bx:rbE es B) (bY:rbE fs B) (h1:1<=B) (hi:i<=es.length) (hj:j<=fs.length)
include hx bx h1 hj in
theorem bBb (h:i<es.length) (h2:j=fs.length\/(j<fs.length/\(es.getD i default).1<(fs.getD j default).1)):aLf es fs B i j (i+1) j ((x.drop i).getD 0 default).ix ((x.drop i).getD 0 default).v default:=by
 rw[qC,(hx.e i h).1]
 refine⟨_,0,?_,(hx.e i h).2,uJ,bx _ (fX h),yZ h1,h,hj,by omega⟩
 rw[aFi h]
 rcases h2 with rfl|⟨h2,h3⟩
 ·rw[kP];exact .l _ _
 rw[aFi h2];exact .lt _ _ _ _ h3
include hx hy bx bY in
theorem bBc (h:i<es.length) (h2:j<fs.length) (h3:(es.getD i default).1=(fs.getD j default).1):aLf es fs B i j (i+1) (j+1) ((x.drop i).getD 0 default).ix ((x.drop i).getD 0 default).v ((y.drop j).getD 0 default).v:=by
 rw[qC,qC,(hx.e i h).1]
 refine⟨_,_,?_,(hx.e i h).2,(hy.e j h2).2,bx _ (fX h),bY _ (fX h2),h,h2,by omega⟩
 rw[aFi h,aFi h2];exact .eq _ _ _ _ h3
include hy bY h1 hi in
theorem bBd (h2:j<fs.length) (h:i=es.length\/(i<es.length/\(fs.getD j default).1<(es.getD i default).1)):aLf es fs B i j i (j+1) ((y.drop j).getD 0 default).ix default ((y.drop j).getD 0 default).v:=by
 rw[qC,(hy.e j h2).1]
 refine⟨0,_,?_,uJ,(hy.e j h2).2,yZ h1,bY _ (fX h2),hi,h2,by omega⟩
 rw[aFi h2]
 rcases h with rfl|⟨h,h3⟩
 ·rw[kP];exact .r _ _
 rw[aFi h];exact .gt _ _ _ _ h3
end seen
theorem pH {get:Nat->List CV} {e:Nat}:LeC (.v (.slice none 0 0)) (.r none 0 0 e get):=λρ n w x h=>by rw[h.inv_v];exact Rc.nil none 0 e get (aC _)
theorem aLg:∀(k:Nat) (c c':CV),vG[k]? =some c->(default:RatM).C[k]? =some c'->LeC c c'
 |0,c,c',h1,h2=>by injection h1 with h1;injection h2 with h2;subst h1 h2;exact eX _
 |1,c,c',h1,h2=>by injection h1 with h1;injection h2 with h2;subst h1 h2;exact pH
 |2,c,c',h1,h2=>by injection h1 with h1;injection h2 with h2;subst h1 h2;exact pH
 |_+3,c,c',h1,h2=>by cases h1
theorem zB {ys:List EntM} {rs:List En} {ix:Int} {g:RatM} {q:Rat} (h:Ek ys rs) (hg:Cr g q):Ek (ys++[⟨ix,g⟩]) (rs++[(ix,q)]):=⟨by simp[h.ln],λk hk=>by
 rw[aH,cU] at hk
 have hl:=h.ln
 rcases dS k rs.length with h1|h1
 ·have e1:(ys++[(⟨ix,g⟩:EntM)]).getD k default=ys.getD k default:=by simp[bJ (show k<ys.length by omega)]
  have e2:(rs++[(ix,q)]).getD k default=rs.getD k default:=by simp[bJ h1]
  rw[e1,e2];exact h.e k h1
 obtain rfl:k=rs.length:=by omega
 have e1:(ys++[(⟨ix,g⟩:EntM)]).getD rs.length default=⟨ix,g⟩:=by rw[<-hl];simp
 have e2:(rs++[(ix,q)]).getD rs.length default=(ix,q):=by simp
 rw[e1,e2];exact⟨rfl,hg⟩⟩
theorem uK:∀(ys:List EntM) (j:Nat),j<ys.length->(ys.getD j default).C=((ecs ys).drop (j*4)).take 4
 |[],j,h=>absurd h (aD _)
 |e::ys,0,h=>rfl
 |e::ys,j+1,h=>by
  have h1:=uK ys j (by simpa using h)
  show(ys.getD j default).C=((e.C++ecs ys).drop ((j+1)*4)).take 4
  have e4:e.C.length=4:=rfl
  rw[h1,dG,gB (j*4) 4,List.drop_append,e4,iK,cE (show e.C.length<=4+j*4 by rw[e4];omega),lM]
theorem pI {i:Nat} (e:EntM):∀c∈e.C,mJ i c=false:=λc hc=>fC (by
 rcases bR.1 hc with rfl|hc
 ·rfl
 exact oB _ c hc)
theorem aAb {T e:Nat} {l:List CV} {r:BL} (h:∀c∈l,fO c=true):ClB [true] ((T,e,l)::r):=λi T' es' l' hi hc=>by
 cases i with
 |zero=>injection hi with hi;injection hi with _ hi;injection hi with _ hi;subst hi;exact h
 |succ i=>cases hc
abbrev aUt:FuncId:=166
theorem cBi:Ent Tryz.prog aUt:=aW func166 rfl kR
theorem cBj:Tryz.prog.funcs[aUt]? =some Tryz.f166:=func166
theorem bBe (x y:Sl EntM) {es fs:List En} {B:Nat} {q:FuncId} {op:Rat->Rat->Rat} (hx:Ev x.l es B) (hy:Ev y.l fs B) (bx:rbE es B) (bY:rbE fs B) (h1:1<=B) (ax:Asc es) (ay:Asc fs) (nx:es.length<=4096) (ny:fs.length<=4096) (h0:op 0 0=0)
 (hrb:∀a b,rb a B->rb b B->rb (op a b) 4398046511104)
 (hop:∀(u v:RatM) {a b:Rat},Rq u a B->Rq v b B->rb a B->rb b B->Ctr Tryz.prog q [] [.a u.C,.a v.C] [] (λg:RatM=>⟨.a g.C,[],Cr g (op a b)⟩)):
 Ctr Tryz.prog aUt [] [.c (cF x),.c (cF y),.c (.f q [] [])] [] (λys:List EntM=>⟨.c (.s 0 ys.length),[(82,4,ecs ys)],∃rs,Ek ys rs/\MgR op es fs rs⟩):=by
 have lx:=hx.ln
 have ly:=hy.ln
 refine aX gT cBi cBj rfl rfl rfl bL aS (aA gT mxd ⟨max (x.l.length) (y.l.length),⟨rfl,by show max (x.l.length:Int) (y.l.length:Int)=_;omega,by show 64*_<=_;omega,by simp only[maxLen];omega⟩,?_⟩)
 refine cO (λt=>!Nat.beq t 2) (λg:Nat×Nat×Option Addr×Nat×Option Addr×Nat×List EntM=>[(7,.c (.s 0 g.2.2.2.2.2.2.length)),(0,.c (cF ⟨g.2.2.1,g.2.2.2.1,x.l.drop g.1⟩)),(1,.c (cF ⟨g.2.2.2.2.1,g.2.2.2.2.2.1,y.l.drop g.2.1⟩))]) (λg=>[(82,4,ecs g.2.2.2.2.2.2)]) (λ_=>[]) (λg=>g.1<=es.length/\g.2.1<=fs.length/\g.2.2.2.2.2.2.length<=g.1+g.2.1/\∃rs ps,Mg op es fs (es.drop g.1) (fs.drop g.2.1) rs ps/\Ek g.2.2.2.2.2.2 rs) (λg=>es.length+fs.length-(g.1+g.2.1)) λhM=>⟨bS hM (0,0,x.A,x.c,y.A,y.c,[]) ⟨aC _,aC _,aC _,[],[],Mg.start ax ay,rfl,λk hk=>absurd hk (aD _)⟩ rfl rfl trivial ⟨rfl,rfl,rfl⟩ bL (aB (nM _) aY) rfl,λ⟨i,j,A1,c1,A2,c2,ys⟩ ⟨hi,hj,hys,rs,ps,hmg,hek⟩=>Sd.sq (aA gT mxd ⟨λh2=>aA gT mxd (Sd.blk (Sd.sq (aA gT mxd (Sd.sq (aA gT mxd ?_))))),λh2=>aA gT mxd ?_⟩)⟩
 all_goals
  replace hi:i<=es.length:=hi
  replace hj:j<=fs.length:=hj
  replace hys:ys.length<=i+j:=hys
  replace hmg:Mg op es fs (es.drop i) (fs.drop j) rs ps:=hmg
  replace hek:Ek ys rs:=hek
  have la:(x.l.drop i).length=es.length-i:=by rw[cG,lx]
  have lb:(y.l.drop j).length=fs.length-j:=by rw[cG,ly]
 ·replace h2:(0:Int)<((x.l.drop i).length:Nat)\/(0:Int)<((y.l.drop j).length:Nat):=h2
  show Sd _ _ _ _ _ _
  refine gK tSd (l:=vG) 1 (default:RatM).C rfl rfl aLg (gK tSd (l:=vG) 2 (default:RatM).C rfl rfl aLg ?_)
  refine Sd.cut (σ:=Nat×Nat×Option Addr×Nat×Option Addr×Nat×Int×RatM×RatM) (λg=>⟨[(7,.c (.s 0 ys.length)),(0,.c (cF ⟨g.2.2.1,g.2.2.2.1,x.l.drop g.1⟩)),(1,.c (cF ⟨g.2.2.2.2.1,g.2.2.2.2.2.1,y.l.drop g.2.1⟩)),(8,.c (iC g.2.2.2.2.2.2.1)),(9,.c (.p 1 0)),(10,.c (.p 2 0))]++[(2,.c (.f q [] []))],[],[(82,4,ecs ys),(62,0,g.2.2.2.2.2.2.2.1.C),(62,0,g.2.2.2.2.2.2.2.2.C)],[]⟩) (λg=>aLf es fs B i j g.1 g.2.1 g.2.2.2.2.2.2.1 g.2.2.2.2.2.2.2.1 g.2.2.2.2.2.2.2.2) (aA gT mxd ?_) λ⟨i',j',A3,c3,A4,c4,ix,u,v⟩ hs=>aA gT mxd ?_
  ·refine⟨.seq (sq 99 (List.range 19)),by kernel_rfl,0,λhq=>⟨rfl,?_⟩,0,λhq=>⟨rfl,?_⟩,⟨λhc=>aA gT mxd ?_,λhc=>aA gT mxd ?_⟩⟩
   ·replace hq:((0:Int)<((x.l.drop i).length:Nat))/\¬(((y.l.drop j).length:Nat):Int)=0:=hq
    show 0<(x.l.drop i).length
    omega
   ·replace hq:((0:Int)<((x.l.drop i).length:Nat))/\¬(((y.l.drop j).length:Nat):Int)=0:=hq
    show 0<(y.l.drop j).length
    omega
   ·replace hc:(((y.l.drop j).length:Nat):Int)=0\/((0:Int)<((x.l.drop i).length:Nat))/\((x.l.drop i).getD 0 default).ix<=((y.l.drop j).getD 0 default).ix:=hc
    have hil:i<es.length:=by omega
    have l1:0<(x.l.drop i).length:=by omega
    refine⟨.seq (sq 9 (List.range 10)),by kernel_rfl,0,⟨rfl,l1⟩,0,⟨rfl,l1⟩,1,⟨rfl,l1⟩,0,λhq=>⟨rfl,?_⟩,⟨λhd=>aA gT mxd ?_,λhd=>aA gT mxd ?_⟩⟩
    ·replace hq:(0:Int)<((y.l.drop j).length:Nat):=hq
     show 0<(y.l.drop j).length
     omega
    ·replace hd:(0:Int)<((y.l.drop j).length:Nat)/\((y.l.drop j).getD 0 default).ix=((x.l.drop i).getD 0 default).ix:=hd
     have hs:=bBc hx hy bx bY (i:=i) (j:=j) hil oM (by rw[qC,qC,(hx.e i hil).1,(hy.e j oM).1] at hd;exact hd.2.symm)
     have l2:0<(y.l.drop j).length:=by omega
     exact⟨0,⟨rfl,l2⟩,1,⟨rfl,l2⟩,bS hM (chg:=λg:Nat×Nat×Option Addr×Nat×Option Addr×Nat×Int×RatM×RatM=>[(7,.c (.s 0 ys.length)),(0,.c (cF ⟨g.2.2.1,g.2.2.2.1,x.l.drop g.1⟩)),(1,.c (cF ⟨g.2.2.2.2.1,g.2.2.2.2.2.1,y.l.drop g.2.1⟩)),(8,.c (iC g.2.2.2.2.2.2.1)),(9,.c (.p 1 0)),(10,.c (.p 2 0))]) (bls:=λg:Nat×Nat×Option Addr×Nat×Option Addr×Nat×Int×RatM×RatM=>[(82,4,ecs ys),(62,0,g.2.2.2.2.2.2.2.1.C),(62,0,g.2.2.2.2.2.2.2.2.C)]) (fls:=λ_=>[]) (i+1,j+1,slA A1 c1 1 4,c1-1,slA A2 c2 1 4,c2-1,((x.l.drop i).getD 0 default).ix,((x.l.drop i).getD 0 default).v,((y.l.drop j).getD 0 default).v) hs rfl ⟨rfl,rfl,rfl⟩ trivial ⟨rfl,sE x.l i _ _,sE y.l j _ _,rfl,rfl,rfl⟩ bL (aB (nM _) (aB rfl (aB rfl aY))) rfl⟩
    replace hd:¬((0:Int)<((y.l.drop j).length:Nat)/\((y.l.drop j).getD 0 default).ix=((x.l.drop i).getD 0 default).ix):=hd
    have hs:=bBb hx bx h1 hj (i:=i) (fs:=fs) hil (by
     rcases dS j fs.length with h|h
     ·rw[qC,qC,(hx.e i hil).1,(hy.e j h).1] at hd hc
      exact .inr ⟨h,by omega⟩
     exact .inl oM)
    exact bS hM (chg:=λg:Nat×Nat×Option Addr×Nat×Option Addr×Nat×Int×RatM×RatM=>[(7,.c (.s 0 ys.length)),(0,.c (cF ⟨g.2.2.1,g.2.2.2.1,x.l.drop g.1⟩)),(1,.c (cF ⟨g.2.2.2.2.1,g.2.2.2.2.2.1,y.l.drop g.2.1⟩)),(8,.c (iC g.2.2.2.2.2.2.1)),(9,.c (.p 1 0)),(10,.c (.p 2 0))]) (bls:=λg:Nat×Nat×Option Addr×Nat×Option Addr×Nat×Int×RatM×RatM=>[(82,4,ecs ys),(62,0,g.2.2.2.2.2.2.2.1.C),(62,0,g.2.2.2.2.2.2.2.2.C)]) (fls:=λ_=>[]) (i+1,j,slA A1 c1 1 4,c1-1,A2,c2,((x.l.drop i).getD 0 default).ix,((x.l.drop i).getD 0 default).v,default) hs rfl ⟨rfl,rfl,rfl⟩ trivial ⟨rfl,sE x.l i _ _,rfl,rfl,rfl,rfl⟩ bL (aB (nM _) (aB rfl (aB rfl aY))) rfl
   replace hc:¬((((y.l.drop j).length:Nat):Int)=0\/((0:Int)<((x.l.drop i).length:Nat))/\((x.l.drop i).getD 0 default).ix<=((y.l.drop j).getD 0 default).ix):=hc
   have hjl:j<fs.length:=by omega
   have hs:=bBd hy bY h1 hi (j:=j) (es:=es) hjl (by
    rcases dS i es.length with h|h
    ·rw[qC,qC,(hx.e i h).1,(hy.e j hjl).1] at hc
     exact .inr ⟨h,by omega⟩
    exact .inl oM)
   have l2:0<(y.l.drop j).length:=by omega
   exact⟨.seq (sq 9 (List.range 10)),by kernel_rfl,0,⟨rfl,l2⟩,0,⟨rfl,l2⟩,1,⟨rfl,l2⟩,bS hM (chg:=λg:Nat×Nat×Option Addr×Nat×Option Addr×Nat×Int×RatM×RatM=>[(7,.c (.s 0 ys.length)),(0,.c (cF ⟨g.2.2.1,g.2.2.2.1,x.l.drop g.1⟩)),(1,.c (cF ⟨g.2.2.2.2.1,g.2.2.2.2.2.1,y.l.drop g.2.1⟩)),(8,.c (iC g.2.2.2.2.2.2.1)),(9,.c (.p 1 0)),(10,.c (.p 2 0))]) (bls:=λg:Nat×Nat×Option Addr×Nat×Option Addr×Nat×Int×RatM×RatM=>[(82,4,ecs ys),(62,0,g.2.2.2.2.2.2.2.1.C),(62,0,g.2.2.2.2.2.2.2.2.C)]) (fls:=λ_=>[]) (i,j+1,A1,c1,slA A2 c2 1 4,c2-1,((y.l.drop j).getD 0 default).ix,default,((y.l.drop j).getD 0 default).v) hs rfl ⟨rfl,rfl,rfl⟩ trivial ⟨rfl,rfl,sE y.l j _ _,rfl,rfl,rfl⟩ bL (aB (nM _) (aB rfl (aB rfl aY))) rfl⟩
  obtain⟨a,b,hst,qu,qv,ra,rb',hi',hj',hlt⟩:=hs
  replace hst:Stp (es.drop i) (fs.drop j) ix a b (es.drop i') (fs.drop j'):=hst
  replace qu:Rq u a B:=qu
  replace qv:Rq v b B:=qv
  replace hi':i'<=es.length:=hi'
  replace hj':j'<=fs.length:=hj'
  replace hlt:i+j<i'+j':=hlt
  obtain⟨m1,m2⟩:=hmg.step hst
  refine⟨[],hop u v qu qv ra rb',rfl,rfl,rfl,λg hg=>⟨[],jF g (hg.rq (hrb a b ra rb')),rfl,rfl,rfl,λ_ _=>⟨λhz=>aA gT mxd ?_,λhz=>aA gT mxd ?_⟩⟩⟩
  ·replace hz:¬sgn (op a b).num=0:=hz
   have hne:op a b≠0:=λh=>hz (gW.2 (dW.2 h))
   refine⟨⟨rfl,by show ys.length*4=(ecs ys).length;rw[gZ],by show ys.length+1<=maxLen;simp only[maxLen];omega,by show(ys.length+1)*64<=_;omega,λc hc=>?_⟩,pI ⟨ix,g⟩,bS hM (chg:=λg:Nat×Nat×Option Addr×Nat×Option Addr×Nat×List EntM=>[(7,.c (.s 0 g.2.2.2.2.2.2.length)),(0,.c (cF ⟨g.2.2.1,g.2.2.2.1,x.l.drop g.1⟩)),(1,.c (cF ⟨g.2.2.2.2.1,g.2.2.2.2.2.1,y.l.drop g.2.1⟩))]) (bls:=λg:Nat×Nat×Option Addr×Nat×Option Addr×Nat×List EntM=>[(82,4,ecs g.2.2.2.2.2.2)]) (fls:=λ_=>[]) (i',j',A3,c3,A4,c4,ys++[⟨ix,g⟩]) ⟨⟨hi',hj',?_,_,_,m2 hne,zB hek hg⟩,?_⟩ rfl (by show(82,4,ecs ys++(⟨ix,g⟩:EntM).C)=_;rw[tP]) trivial ⟨?_,rfl,rfl⟩ bL (aB (nM _) aY) rfl⟩
   ·rcases aV.1 hc with hc|hc
    ·exact fC (hJ ys c hc)
    exact pI ⟨ix,g⟩ c hc
   ·show(ys++[(⟨ix,g⟩:EntM)]).length<=i'+j'
    rw[aH,cU];omega
   ·show es.length+fs.length-(i'+j')<es.length+fs.length-(i+j)
    omega
   show ys.length+1=(ys++[(⟨ix,g⟩:EntM)]).length
   rw[aH,cU]
  replace hz:¬¬sgn (op a b).num=0:=hz
  have h0':op a b=0:=dW.1 (gW.1 (iL.1 hz))
  refine bS hM (chg:=λg:Nat×Nat×Option Addr×Nat×Option Addr×Nat×List EntM=>[(7,.c (.s 0 g.2.2.2.2.2.2.length)),(0,.c (cF ⟨g.2.2.1,g.2.2.2.1,x.l.drop g.1⟩)),(1,.c (cF ⟨g.2.2.2.2.1,g.2.2.2.2.2.1,y.l.drop g.2.1⟩))]) (bls:=λg:Nat×Nat×Option Addr×Nat×Option Addr×Nat×List EntM=>[(82,4,ecs g.2.2.2.2.2.2)]) (fls:=λ_=>[]) (i',j',A3,c3,A4,c4,ys) ⟨⟨hi',hj',show ys.length<=i'+j' by omega,_,_,m1 h0',hek⟩,?_⟩ rfl rfl trivial ⟨rfl,rfl,rfl⟩ bL (aB (nM _) aY) rfl
  show es.length+fs.length-(i'+j')<es.length+fs.length-(i+j)
  omega
 replace h2:¬((0:Int)<((x.l.drop i).length:Nat)\/(0:Int)<((y.l.drop j).length:Nat)):=h2
 obtain rfl:i=es.length:=by omega
 obtain rfl:j=fs.length:=by omega
 rw[kP,kP] at hmg
 obtain⟨f1,f2,f3⟩:=hmg.fin h0
 exact aA gT mxd ⟨ys,⟨rs,hek,f1,f2,f3⟩,fB rfl rfl bL (aB (nM _) aY) rfl aAy⟩
theorem bRx (x y:Sl EntM) {es fs:List En} {B:Nat} {q:FuncId} {op:Rat->Rat->Rat} (hx:Ev x.l es B) (hy:Ev y.l fs B) (bx:rbE es B) (bY:rbE fs B) (h1:1<=B) (ax:Asc es) (ay:Asc fs) (nx:es.length<=4096) (ny:fs.length<=4096) (h0:op 0 0=0)
 (hrb:∀a b,rb a B->rb b B->rb (op a b) 4398046511104)
 (hop:∀(u v:RatM) {a b:Rat},Rq u a B->Rq v b B->rb a B->rb b B->Ctr Tryz.prog q [] [.a u.C,.a v.C] [] (λg:RatM=>⟨.a g.C,[],Cr g (op a b)⟩)):
 Ctr Tryz.prog aUt [] [.c (cF x),.c (cF y),.c (.f q [] [])] [] (λg:Sl EntM=>⟨.c (cF g),[],∃rs,Ek g.l rs/\MgR op es fs rs⟩):=
 CtrF.gt (bBe x y hx hy bx bY h1 ax ay nx ny h0 hrb hop) λys hys _=>aUn tGt 0 0 (λj=>(ys.getD j default).C) rfl rfl (uK ys) (gZ ys).symm bL (hJ ys) bL λA c _ _=>bS (M:=λ_=>true) (base:=[]) (chg:=λg:Sl EntM=>[(0,.c (cF g))]) (bls:=λ_=>[]) (fls:=λ_=>[]) (λt d ht=>by cases ht) ⟨A,c,ys⟩ ⟨hys,aAy⟩ rfl trivial trivial rfl bL aY rfl
theorem bRy (x y:Sl EntM) (f:RatM) {es fs:List En} {B:Nat} {q:FuncId} {op:Rat->Rat->Rat} (hx:Ev x.l es B) (hy:Ev y.l fs B) (bx:rbE es B) (bY:rbE fs B) (h1:1<=B) (ax:Asc es) (ay:Asc fs) (nx:es.length<=4096) (ny:fs.length<=4096) (h0:op 0 0=0)
 (hrb:∀a b,rb a B->rb b B->rb (op a b) 4398046511104)
 (hop:∀(u v:RatM) {a b:Rat},Rq u a B->Rq v b B->rb a B->rb b B->Ctr Tryz.prog q [true] [.a u.C,.a v.C,.c (.p 0 0)] [(62,0,f.C)] (λg:RatM=>⟨.a g.C,[(62,0,f.C)],Cr g (op a b)⟩)):
 Ctr Tryz.prog aUt [true] [.c (cF x),.c (cF y),.c (.f q [] [(0,0)])] [(62,0,f.C)] (λys:List EntM=>⟨.c (.s 1 ys.length),(62,0,f.C)::[(82,4,ecs ys)],∃rs,Ek ys rs/\MgR op es fs rs⟩):=by
 have lx:=hx.ln
 have ly:=hy.ln
 refine aX gT cBi cBj rfl rfl rfl bL (eI rfl) (aA gT mxd ⟨max (x.l.length) (y.l.length),⟨rfl,by show max (x.l.length:Int) (y.l.length:Int)=_;omega,by show 64*_<=_;omega,by simp only[maxLen];omega⟩,?_⟩)
 refine cO (λt=>!Nat.beq t 2) (λg:Nat×Nat×Option Addr×Nat×Option Addr×Nat×List EntM=>[(7,.c (.s 1 g.2.2.2.2.2.2.length)),(0,.c (cF ⟨g.2.2.1,g.2.2.2.1,x.l.drop g.1⟩)),(1,.c (cF ⟨g.2.2.2.2.1,g.2.2.2.2.2.1,y.l.drop g.2.1⟩))]) (λg=>(62,0,f.C)::[(82,4,ecs g.2.2.2.2.2.2)]) (λ_=>[]) (λg=>g.1<=es.length/\g.2.1<=fs.length/\g.2.2.2.2.2.2.length<=g.1+g.2.1/\∃rs ps,Mg op es fs (es.drop g.1) (fs.drop g.2.1) rs ps/\Ek g.2.2.2.2.2.2 rs) (λg=>es.length+fs.length-(g.1+g.2.1)) λhM=>⟨bS hM (0,0,x.A,x.c,y.A,y.c,[]) ⟨aC _,aC _,aC _,[],[],Mg.start ax ay,rfl,λk hk=>absurd hk (aD _)⟩ rfl ⟨rfl,rfl⟩ trivial ⟨rfl,rfl,rfl⟩ bL (aB rfl (aB (nM _) aY)) rfl,λ⟨i,j,A1,c1,A2,c2,ys⟩ ⟨hi,hj,hys,rs,ps,hmg,hek⟩=>Sd.sq (aA gT mxd ⟨λh2=>aA gT mxd (Sd.blk (Sd.sq (aA gT mxd (Sd.sq (aA gT mxd ?_))))),λh2=>aA gT mxd ?_⟩)⟩
 all_goals
  replace hi:i<=es.length:=hi
  replace hj:j<=fs.length:=hj
  replace hys:ys.length<=i+j:=hys
  replace hmg:Mg op es fs (es.drop i) (fs.drop j) rs ps:=hmg
  replace hek:Ek ys rs:=hek
  have la:(x.l.drop i).length=es.length-i:=by rw[cG,lx]
  have lb:(y.l.drop j).length=fs.length-j:=by rw[cG,ly]
 ·replace h2:(0:Int)<((x.l.drop i).length:Nat)\/(0:Int)<((y.l.drop j).length:Nat):=h2
  show Sd _ _ _ _ _ _
  refine gK tSd (l:=vG) 2 (default:RatM).C rfl rfl aLg (gK tSd (l:=vG) 3 (default:RatM).C rfl rfl aLg ?_)
  refine Sd.cut (σ:=Nat×Nat×Option Addr×Nat×Option Addr×Nat×Int×RatM×RatM) (λg=>⟨[(7,.c (.s 1 ys.length)),(0,.c (cF ⟨g.2.2.1,g.2.2.2.1,x.l.drop g.1⟩)),(1,.c (cF ⟨g.2.2.2.2.1,g.2.2.2.2.2.1,y.l.drop g.2.1⟩)),(8,.c (iC g.2.2.2.2.2.2.1)),(9,.c (.p 2 0)),(10,.c (.p 3 0))]++[(2,.c (.f q [] [(0,0)]))],[],(62,0,f.C)::[(82,4,ecs ys),(62,0,g.2.2.2.2.2.2.2.1.C),(62,0,g.2.2.2.2.2.2.2.2.C)],[]⟩) (λg=>aLf es fs B i j g.1 g.2.1 g.2.2.2.2.2.2.1 g.2.2.2.2.2.2.2.1 g.2.2.2.2.2.2.2.2) (aA gT mxd ?_) λ⟨i',j',A3,c3,A4,c4,ix,u,v⟩ hs=>aA gT mxd ?_
  ·refine⟨.seq (sq 99 (List.range 19)),by kernel_rfl,0,λhq=>⟨rfl,?_⟩,0,λhq=>⟨rfl,?_⟩,⟨λhc=>aA gT mxd ?_,λhc=>aA gT mxd ?_⟩⟩
   ·replace hq:((0:Int)<((x.l.drop i).length:Nat))/\¬(((y.l.drop j).length:Nat):Int)=0:=hq
    show 0<(x.l.drop i).length
    omega
   ·replace hq:((0:Int)<((x.l.drop i).length:Nat))/\¬(((y.l.drop j).length:Nat):Int)=0:=hq
    show 0<(y.l.drop j).length
    omega
   ·replace hc:(((y.l.drop j).length:Nat):Int)=0\/((0:Int)<((x.l.drop i).length:Nat))/\((x.l.drop i).getD 0 default).ix<=((y.l.drop j).getD 0 default).ix:=hc
    have hil:i<es.length:=by omega
    have l1:0<(x.l.drop i).length:=by omega
    refine⟨.seq (sq 9 (List.range 10)),by kernel_rfl,0,⟨rfl,l1⟩,0,⟨rfl,l1⟩,1,⟨rfl,l1⟩,0,λhq=>⟨rfl,?_⟩,⟨λhd=>aA gT mxd ?_,λhd=>aA gT mxd ?_⟩⟩
    ·replace hq:(0:Int)<((y.l.drop j).length:Nat):=hq
     show 0<(y.l.drop j).length
     omega
    ·replace hd:(0:Int)<((y.l.drop j).length:Nat)/\((y.l.drop j).getD 0 default).ix=((x.l.drop i).getD 0 default).ix:=hd
     have hs:=bBc hx hy bx bY (i:=i) (j:=j) hil oM (by rw[qC,qC,(hx.e i hil).1,(hy.e j oM).1] at hd;exact hd.2.symm)
     have l2:0<(y.l.drop j).length:=by omega
     exact⟨0,⟨rfl,l2⟩,1,⟨rfl,l2⟩,bS hM (chg:=λg:Nat×Nat×Option Addr×Nat×Option Addr×Nat×Int×RatM×RatM=>[(7,.c (.s 1 ys.length)),(0,.c (cF ⟨g.2.2.1,g.2.2.2.1,x.l.drop g.1⟩)),(1,.c (cF ⟨g.2.2.2.2.1,g.2.2.2.2.2.1,y.l.drop g.2.1⟩)),(8,.c (iC g.2.2.2.2.2.2.1)),(9,.c (.p 2 0)),(10,.c (.p 3 0))]) (bls:=λg:Nat×Nat×Option Addr×Nat×Option Addr×Nat×Int×RatM×RatM=>(62,0,f.C)::[(82,4,ecs ys),(62,0,g.2.2.2.2.2.2.2.1.C),(62,0,g.2.2.2.2.2.2.2.2.C)]) (fls:=λ_=>[]) (i+1,j+1,slA A1 c1 1 4,c1-1,slA A2 c2 1 4,c2-1,((x.l.drop i).getD 0 default).ix,((x.l.drop i).getD 0 default).v,((y.l.drop j).getD 0 default).v) hs rfl ⟨rfl,rfl,rfl,rfl⟩ trivial ⟨rfl,sE x.l i _ _,sE y.l j _ _,rfl,rfl,rfl⟩ bL (aB rfl (aB (nM _) (aB rfl (aB rfl aY)))) rfl⟩
    replace hd:¬((0:Int)<((y.l.drop j).length:Nat)/\((y.l.drop j).getD 0 default).ix=((x.l.drop i).getD 0 default).ix):=hd
    have hs:=bBb hx bx h1 hj (i:=i) (fs:=fs) hil (by
     rcases dS j fs.length with h|h
     ·rw[qC,qC,(hx.e i hil).1,(hy.e j h).1] at hd hc
      exact .inr ⟨h,by omega⟩
     exact .inl oM)
    exact bS hM (chg:=λg:Nat×Nat×Option Addr×Nat×Option Addr×Nat×Int×RatM×RatM=>[(7,.c (.s 1 ys.length)),(0,.c (cF ⟨g.2.2.1,g.2.2.2.1,x.l.drop g.1⟩)),(1,.c (cF ⟨g.2.2.2.2.1,g.2.2.2.2.2.1,y.l.drop g.2.1⟩)),(8,.c (iC g.2.2.2.2.2.2.1)),(9,.c (.p 2 0)),(10,.c (.p 3 0))]) (bls:=λg:Nat×Nat×Option Addr×Nat×Option Addr×Nat×Int×RatM×RatM=>(62,0,f.C)::[(82,4,ecs ys),(62,0,g.2.2.2.2.2.2.2.1.C),(62,0,g.2.2.2.2.2.2.2.2.C)]) (fls:=λ_=>[]) (i+1,j,slA A1 c1 1 4,c1-1,A2,c2,((x.l.drop i).getD 0 default).ix,((x.l.drop i).getD 0 default).v,default) hs rfl ⟨rfl,rfl,rfl,rfl⟩ trivial ⟨rfl,sE x.l i _ _,rfl,rfl,rfl,rfl⟩ bL (aB rfl (aB (nM _) (aB rfl (aB rfl aY)))) rfl
   replace hc:¬((((y.l.drop j).length:Nat):Int)=0\/((0:Int)<((x.l.drop i).length:Nat))/\((x.l.drop i).getD 0 default).ix<=((y.l.drop j).getD 0 default).ix):=hc
   have hjl:j<fs.length:=by omega
   have hs:=bBd hy bY h1 hi (j:=j) (es:=es) hjl (by
    rcases dS i es.length with h|h
    ·rw[qC,qC,(hx.e i h).1,(hy.e j hjl).1] at hc
     exact .inr ⟨h,by omega⟩
    exact .inl oM)
   have l2:0<(y.l.drop j).length:=by omega
   exact⟨.seq (sq 9 (List.range 10)),by kernel_rfl,0,⟨rfl,l2⟩,0,⟨rfl,l2⟩,1,⟨rfl,l2⟩,bS hM (chg:=λg:Nat×Nat×Option Addr×Nat×Option Addr×Nat×Int×RatM×RatM=>[(7,.c (.s 1 ys.length)),(0,.c (cF ⟨g.2.2.1,g.2.2.2.1,x.l.drop g.1⟩)),(1,.c (cF ⟨g.2.2.2.2.1,g.2.2.2.2.2.1,y.l.drop g.2.1⟩)),(8,.c (iC g.2.2.2.2.2.2.1)),(9,.c (.p 2 0)),(10,.c (.p 3 0))]) (bls:=λg:Nat×Nat×Option Addr×Nat×Option Addr×Nat×Int×RatM×RatM=>(62,0,f.C)::[(82,4,ecs ys),(62,0,g.2.2.2.2.2.2.2.1.C),(62,0,g.2.2.2.2.2.2.2.2.C)]) (fls:=λ_=>[]) (i,j+1,A1,c1,slA A2 c2 1 4,c2-1,((y.l.drop j).getD 0 default).ix,default,((y.l.drop j).getD 0 default).v) hs rfl ⟨rfl,rfl,rfl,rfl⟩ trivial ⟨rfl,rfl,sE y.l j _ _,rfl,rfl,rfl⟩ bL (aB rfl (aB (nM _) (aB rfl (aB rfl aY)))) rfl⟩
  obtain⟨a,b,hst,qu,qv,ra,rb',hi',hj',hlt⟩:=hs
  replace hst:Stp (es.drop i) (fs.drop j) ix a b (es.drop i') (fs.drop j'):=hst
  replace qu:Rq u a B:=qu
  replace qv:Rq v b B:=qv
  replace hi':i'<=es.length:=hi'
  replace hj':j'<=fs.length:=hj'
  replace hlt:i+j<i'+j':=hlt
  obtain⟨m1,m2⟩:=hmg.step hst
  refine⟨_,rfl,[0],hop u v qu qv ra rb',rfl,rfl,rfl,λg hg=>⟨[],jF g (hg.rq (hrb a b ra rb')),rfl,rfl,rfl,λ_ _=>⟨λhz=>aA gT mxd ?_,λhz=>aA gT mxd ?_⟩⟩⟩
  ·replace hz:¬sgn (op a b).num=0:=hz
   have hne:op a b≠0:=λh=>hz (gW.2 (dW.2 h))
   refine⟨⟨rfl,by show ys.length*4=(ecs ys).length;rw[gZ],by show ys.length+1<=maxLen;simp only[maxLen];omega,by show(ys.length+1)*64<=_;omega,λc hc=>?_⟩,pI ⟨ix,g⟩,bS hM (chg:=λg:Nat×Nat×Option Addr×Nat×Option Addr×Nat×List EntM=>[(7,.c (.s 1 g.2.2.2.2.2.2.length)),(0,.c (cF ⟨g.2.2.1,g.2.2.2.1,x.l.drop g.1⟩)),(1,.c (cF ⟨g.2.2.2.2.1,g.2.2.2.2.2.1,y.l.drop g.2.1⟩))]) (bls:=λg:Nat×Nat×Option Addr×Nat×Option Addr×Nat×List EntM=>(62,0,f.C)::[(82,4,ecs g.2.2.2.2.2.2)]) (fls:=λ_=>[]) (i',j',A3,c3,A4,c4,ys++[⟨ix,g⟩]) ⟨⟨hi',hj',?_,_,_,m2 hne,zB hek hg⟩,?_⟩ rfl ⟨rfl,by show(82,4,ecs ys++(⟨ix,g⟩:EntM).C)=_;rw[tP]⟩ trivial ⟨?_,rfl,rfl⟩ bL (aB rfl (aB (nM _) aY)) rfl⟩
   ·rcases aV.1 hc with hc|hc
    ·exact fC (hJ ys c hc)
    exact pI ⟨ix,g⟩ c hc
   ·show(ys++[(⟨ix,g⟩:EntM)]).length<=i'+j'
    rw[aH,cU];omega
   ·show es.length+fs.length-(i'+j')<es.length+fs.length-(i+j)
    omega
   show ys.length+1=(ys++[(⟨ix,g⟩:EntM)]).length
   rw[aH,cU]
  replace hz:¬¬sgn (op a b).num=0:=hz
  have h0':op a b=0:=dW.1 (gW.1 (iL.1 hz))
  refine bS hM (chg:=λg:Nat×Nat×Option Addr×Nat×Option Addr×Nat×List EntM=>[(7,.c (.s 1 g.2.2.2.2.2.2.length)),(0,.c (cF ⟨g.2.2.1,g.2.2.2.1,x.l.drop g.1⟩)),(1,.c (cF ⟨g.2.2.2.2.1,g.2.2.2.2.2.1,y.l.drop g.2.1⟩))]) (bls:=λg:Nat×Nat×Option Addr×Nat×Option Addr×Nat×List EntM=>(62,0,f.C)::[(82,4,ecs g.2.2.2.2.2.2)]) (fls:=λ_=>[]) (i',j',A3,c3,A4,c4,ys) ⟨⟨hi',hj',show ys.length<=i'+j' by omega,_,_,m1 h0',hek⟩,?_⟩ rfl ⟨rfl,rfl⟩ trivial ⟨rfl,rfl,rfl⟩ bL (aB rfl (aB (nM _) aY)) rfl
  show es.length+fs.length-(i'+j')<es.length+fs.length-(i+j)
  omega
 replace h2:¬((0:Int)<((x.l.drop i).length:Nat)\/(0:Int)<((y.l.drop j).length:Nat)):=h2
 obtain rfl:i=es.length:=by omega
 obtain rfl:j=fs.length:=by omega
 rw[kP,kP] at hmg
 obtain⟨f1,f2,f3⟩:=hmg.fin h0
 exact aA gT mxd ⟨ys,⟨rs,hek,f1,f2,f3⟩,fB rfl ⟨rfl,rfl⟩ bL (aB rfl (aB (nM _) aY)) rfl (aAb (oB f))⟩
theorem bRz (x y:Sl EntM) (f:RatM) {es fs:List En} {B:Nat} {q:FuncId} {op:Rat->Rat->Rat} (hx:Ev x.l es B) (hy:Ev y.l fs B) (bx:rbE es B) (bY:rbE fs B) (h1:1<=B) (ax:Asc es) (ay:Asc fs) (nx:es.length<=4096) (ny:fs.length<=4096) (h0:op 0 0=0)
 (hrb:∀a b,rb a B->rb b B->rb (op a b) 4398046511104)
 (hop:∀(u v:RatM) {a b:Rat},Rq u a B->Rq v b B->rb a B->rb b B->Ctr Tryz.prog q [true] [.a u.C,.a v.C,.c (.p 0 0)] [(62,0,f.C)] (λg:RatM=>⟨.a g.C,[(62,0,f.C)],Cr g (op a b)⟩)):
 Ctr Tryz.prog aUt [true] [.c (cF x),.c (cF y),.c (.f q [] [(0,0)])] [(62,0,f.C)] (λg:Sl EntM=>⟨.c (cF g),[(62,0,f.C)],∃rs,Ek g.l rs/\MgR op es fs rs⟩):=
 CtrF.gt (bRy x y f hx hy bx bY h1 ax ay nx ny h0 hrb hop) λys hys _=>aUn tGt 0 1 (λj=>(ys.getD j default).C) rfl rfl (uK ys) (gZ ys).symm bL (hJ ys) bL λA c _ _=>bS (M:=λ_=>true) (base:=[]) (chg:=λg:Sl EntM=>[(0,.c (cF g))]) (bls:=λ_=>[(62,0,f.C)]) (fls:=λ_=>[]) (λt d ht=>by cases ht) ⟨A,c,ys⟩ ⟨hys,aAb (oB f)⟩ rfl rfl trivial rfl bL (aB rfl aY) rfl
theorem fI {a b:Rat} {B B':Nat} (ha:rb a B) (hb:rb b B'):rb (a*b) (B+B'):=by
 have h:=aWj a b
 simp only[eY] at h
 obtain⟨a1,a2⟩:=ha
 obtain⟨b1,b2⟩:=hb
 exact⟨by omega,by omega⟩
theorem uL {a b:Rat} {B B':Nat} (ha:rb a B) (hb:rb b B'):rb (a+b) (B+B'+1):=by
 have h:=aWi a b
 simp only[eY] at h
 obtain⟨a1,a2⟩:=ha
 obtain⟨b1,b2⟩:=hb
 exact⟨by omega,by omega⟩
theorem qH {a b:Rat} {B B':Nat} (ha:rb a B) (hb:rb b B'):rb (a-b) (B+B'+1):=by
 rw[kW];exact uL ha (xR hb)
theorem _root_.Go.Vy.CtrF.args {P:Program} {q:FuncId} {cl:List Bool} {al al':List DV} {bl:BL} {fl:List Fam} {σ:Type} {R:σ->OutF} (h:CtrF P q cl al bl fl R) (hal:∀ρ n w vals,HL ρ n w al' vals->HL ρ n w al vals):CtrF P q cl al' bl fl R:=
 ⟨h.ent,h.clb,λρ w vals hv hD hF=>h.run ρ w vals (hal _ _ _ _ hv) hD hF⟩
theorem _root_.Go.Vy.CtrF.post {P:Program} {q:FuncId} {cl:List Bool} {al:List DV} {bl:BL} {fl:List Fam} {σ τ:Type} {R:σ->OutF} {R':τ->OutF} (h:CtrF P q cl al bl fl R) (φ:σ->τ) (hp:∀g,(R g).C->(R' (φ g)).C) (hd:∀g,(R' (φ g)).d=(R g).d/\(R' (φ g)).bl=(R g).bl/\(R' (φ g)).fl=(R g).fl):CtrF P q cl al bl fl R':=
 ⟨h.ent,h.clb,λρ w vals hv hD hF=>(h.run ρ w vals hv hD hF).mono λe w' ⟨v,he,g,ρ',c1,c2,c3,c4,c5⟩=>by
  obtain⟨d1,d2,d3⟩:=hd g
  exact⟨v,he,φ g,ρ',hp g c1,by rw[d2];exact c2,by rw[d1,d2];exact c3,by rw[d2];exact c4,by rw[d3];exact c5⟩⟩
abbrev aOo:FuncId:=105
theorem bSa:Ent Tryz.prog aOo:=aW func105 rfl kR
theorem bSb:Tryz.prog.funcs[aOo]? =some Tryz.f105:=func105
theorem bIh (x:Sl EntM) {es:List En} {B:Nat} (h:Ev x.l es B) (hb:rbE es B) (h1:1<=B) (hB:B<=4398046511104) (ha:Asc es) (hz:aMr es) (hn:es.length<=4096):Ctr Tryz.prog aOo [] [.c (cF x)] [] (λg:Sl EntM=>⟨.c (cF g),[],Ek g.l es⟩):=by
 have hm:=(bRx x cP (es:=es) (fs:=[]) (op:=λa _=>a) (q:=168) h ⟨rfl,λk hk=>absurd hk (aD _)⟩ hb (λe he=>absurd he dO) h1 ha List.Pairwise.nil hn (aC _) rfl (λa b h _=>h.le hB) (λu v {a b} hu _ _ _=>bLw u v (hu.le hB))).args (al':=[.c (cF x),.c (.v (.slice none 0 0)),.c (.f 168 [] [])]) λρ n w vals hv=>(by
  match vals,hv with
  |[v0,v1,v2],⟨h0,h1,h2,h3⟩=>exact⟨h0,.c (pH ρ n w v1 h1.inv_c),h2,h3⟩)
 refine aX gT bSa bSb rfl rfl rfl bL aS (aA gT mxd ⟨[],aIc x h ha,rfl,rfl,rfl,λ_ _=>⟨[],hm,rfl,rfl,rfl,λg ⟨rs,h2,h3⟩=>⟨g,?_,aM rfl rfl trivial⟩⟩⟩)
 have e:rs=es:=canon_ext rs es h3.a ha h3.z hz h3.g
 rw[<-e];exact h2
abbrev bBf:FuncId:=181
theorem cBk:Ent Tryz.prog bBf:=aW func181 rfl kR
theorem cBl:Tryz.prog.funcs[bBf]? =some Tryz.f181:=func181
theorem bBg (x y:Sl EntM) (f:RatM) {es fs:List En} {q:Rat} {B Q:Nat} (hx:Ev x.l es B) (hy:Ev y.l fs B) (bx:rbE es B) (bY:rbE fs B) (h1:1<=B) (hf:Rq f q Q) (hq:rb q Q) (hB:B+(Q+B)+1<=4398046511104) (ax:Asc es) (ay:Asc fs) (nx:es.length<=4096) (ny:fs.length<=4096):
 Ctr Tryz.prog bBf [] [.c (cF x),.a f.C,.c (cF y)] [] (λg:Sl EntM=>⟨.c (cF g),[],∃rs,Ek g.l rs/\MgR (λa b=>a+q*b) es fs rs⟩):=by
 refine aX gT cBk cBl rfl rfl rfl bL aS (aA gT mxd ⟨[],aIc x hx ax,rfl,rfl,rfl,λ_ _=>⟨[],aIc y hy ay,rfl,rfl,rfl,λ_ _=>⟨[0],bRz x y f (op:=λa b=>a+q*b) hx hy bx bY h1 ax ay nx ny (by show(0:Rat)+q*0=0;rw[bZ,bM]) (λa b ha hb=>(uL ha (fI hq hb)).le) (λu v {a b} hu hv _ rb'=>cBh f u v (hf.le) (hu.le) (hv.le) ((fI hq rb').le)),rfl,rfl,rfl,λg hg=>⟨g,hg,aM rfl rfl trivial⟩⟩⟩⟩)
def fY (x:Sl RatM):CV:=x.R 3 RatM.C default
structure Rl (x:List RatM) (qs:List Rat):Prop where
 ln:x.length=qs.length
 e:∀k,k<qs.length->Cr (x.getD k default) (qs.getD k 0)
def rbL (qs:List Rat) (B:Nat):Prop:=∀q∈qs,rb q B
theorem gD0 {qs:List Rat} {k:Nat} (h:k<qs.length):qs.getD k 0∈qs:=by rw[gd h];exact kO h
theorem Rl.rq {x:List RatM} {qs:List Rat} {B k:Nat} (h:Rl x qs) (hb:rbL qs B) (hk:k<qs.length):Rq (x.getD k default) (qs.getD k 0) B:=(h.e k hk).rq (hb _ (gD0 hk))
def fdF (qs:List Rat):Nat->List En
 |0=>[]
 |k+1=>if qs.getD k 0=0 then fdF qs k else fdF qs k++[((k:Int),qs.getD k 0)]
theorem aDk {qs:List Rat}:∀{k:Nat},∀e∈fdF qs k,∃i:Nat,i<k/\e=((i:Int),qs.getD i 0)/\e.2≠0
 |0,e,h=>absurd h dO
 |k+1,e,h=>by
  unfold fdF at h
  split at h
  ·obtain⟨i,h1,h2⟩:=aDk e h;exact⟨i,by omega,h2⟩
  next hq=>
  rcases aV.1 h with h|h
  ·obtain⟨i,h1,h2⟩:=aDk e h;exact⟨i,by omega,h2⟩
  rw[aI.1 h];exact⟨k,by omega,rfl,hq⟩
theorem aId {qs:List Rat}:∀k,(fdF qs k).length<=k
 |0=>aJ _
 |k+1=>by
  have:=aId (qs:=qs) k
  unfold fdF
  split
  ·omega
  rw[aH,cU];omega
theorem aIe {qs:List Rat}:∀k,Asc (fdF qs k)
 |0=>List.Pairwise.nil
 |k+1=>by
  unfold fdF
  split
  ·exact aIe k
  refine eM.2 ⟨aIe k,eW _ _,λa ha b hb=>?_⟩
  rw[aI.1 hb]
  obtain⟨i,h1,rfl,_⟩:=aDk a ha
  show(i:Int)<(k:Int)
  omega
theorem aRx {qs:List Rat}:∀(k:Nat) (i:Int),Vm.get (fdF qs k) i=if 0<=i/\i<k then qs.getD i.toNat 0 else 0
 |0,i=>by rw[if_neg oM];rfl
 |k+1,i=>by
  have ih:=aRx (qs:=qs) k i
  unfold fdF
  split
  ·next hq=>
   rw[ih]
   by_cases hi:i=(k:Int)
   ·subst hi;rw[if_neg oM,if_pos oM,cD,hq]
   by_cases h2:0<=i/\i<(k:Int)
   ·rw[if_pos h2,if_pos oM]
   rw[if_neg h2,if_neg oM]
  next hq=>
  rw[get_append,ih]
  show _+((if (k:Int)=i then qs.getD k 0 else 0)+0)=_
  rw[bM]
  by_cases hi:(k:Int)=i
  ·subst hi;rw[if_neg oM,if_pos rfl,if_pos oM,cD,fM]
  rw[if_neg hi,bM]
  by_cases h2:0<=i/\i<(k:Int)
  ·rw[if_pos h2,if_pos oM]
  rw[if_neg h2,if_neg oM]
theorem oW {P:Nat->List CV} {e:Nat}:∀{n:Nat},(∀j,j<n->(P j).length=e)->(flatR n P).length=n*e
 |0,_=>by simp[flatR]
 |n+1,h=>by rw[gM,aH,oW (λj hj=>h j oM),h n oM,cR,gS]
theorem tQ {P Q:Nat->List CV}:∀{n:Nat},(∀j,j<n->P j=Q j)->flatR n P=flatR n Q
 |0,_=>rfl
 |n+1,h=>by rw[gM,gM,tQ (λj hj=>h j oM),h n oM]
theorem aIf {P:Nat->List CV} {e k:Nat}:∀{n:Nat},(∀j,j<n->(P j).length=e)->k<n->((flatR n P).drop (k*e)).take e=P k
 |0,_,hk=>absurd hk (aD _)
 |n+1,h,hk=>by
  have hl:=oW (λj hj=>h j (eA hj):∀j,j<n->(P j).length=e)
  rw[gM]
  by_cases hkn:k<n
  ·have hm:k*e+e<=n*e:=by rw[<-dG];exact aQ e hkn
   rw[iH oM,eS (by rw[cG];omega)]
   exact aIf (λj hj=>h j oM) hkn
  obtain rfl:k=n:=by omega
  rw[<-hl,List.drop_left,<-h k oM,cZ]
theorem aIg {P:Nat->List CV} {e k:Nat} {v:List CV} (hv:v.length=e):∀{n:Nat},(∀j,j<n->(P j).length=e)->k<n->lE (flatR n P) (k*e) v=flatR n λj=>if j=k then v else P j
 |0,_,hk=>absurd hk (aD _)
 |n+1,h,hk=>by
  have hl:=oW (λj hj=>h j (eA hj):∀j,j<n->(P j).length=e)
  rw[gM,gM]
  by_cases hkn:k<n
  ·have hm:k*e+e<=n*e:=by rw[<-dG];exact aQ e hkn
   rw[if_neg oM,<-aIg hv (λj hj=>h j oM) hkn]
   unfold lE
   rw[hv,eS oM,iH oM,dF,dF]
  obtain rfl:k=n:=by omega
  rw[if_pos rfl,tQ (Q:=P) λj hj=>if_neg oM]
  unfold lE
  rw[hv,<-hl,List.take_left,cE (by rw[aH,h k oM,hl];omega),eN]
theorem bSc {P:Nat->List CV} {n k:Nat} (h:∀j,(P j).length=3) (hk:k<n):k*3<(flatR n P).length:=by rw[oW λj _=>h j];omega
theorem bSd {P:Nat->List CV} {n k:Nat} {l:List CV} (h:∀j,(P j).length=3) (hk:k<n) (hl:P k=l):((flatR n P).drop (k*3)).take 3=l/\l.length=3:=⟨by rw[aIf (λj _=>h j) hk,hl],by rw[<-hl];exact h k⟩
theorem bIi {P Q:Nat->List CV} {n k:Nat} {l:List CV} (h:∀j,(P j).length=3) (hk:k<n) (hl:l.length=3) (hq:∀j,j<n->(if j=k then l else P j)=Q j):lE (flatR n P) (k*3) l=flatR n Q/\k*3+l.length<=(flatR n P).length:=⟨by rw[aIg hl (λj _=>h j) hk,tQ hq],by rw[oW λj _=>h j,hl];omega⟩
theorem aRy {z:List CV}:∀{n:Nat},flatR n (λ_=>z)=(List.replicate n z).flatten
 |0=>rfl
 |n+1=>by rw[gM,aRy,pL,jZ,List.flatten_singleton]
theorem aOp {P:Nat->List CV} (h:∀j,∀c∈P j,fO c=true):∀n,∀c∈flatR n P,fO c=true
 |0,c,hc=>by cases hc
 |n+1,c,hc=>by
  rw[gM] at hc
  rcases aV.1 hc with h1|h1
  ·exact aOp h n c h1
  exact h n c h1
theorem sF {es:List En} (ha:Asc es) {e:En} (he:e∈es):Vm.get es e.1=e.2:=by
 induction es with
 |nil=>cases he
 |cons a es ih=>
  rcases bR.1 he with rfl|he
  ·exact get_head ha
  have:=ha.head e he
  rw[iS oM];exact ih ha.tail he
def qX (G:Nat->RatM) (n:Nat):List RatM:=(List.range n).map G
theorem aDl {G:Nat->RatM} {n k:Nat} (h:k<n):(qX G n).getD k default=G k:=by unfold qX;simp[h]
theorem zC {G:Nat->RatM} {n:Nat}:(qX G n).length=n:=by unfold qX;simp
theorem aBl {G:Nat->RatM} {n:Nat} (j:Nat) (h:j<n):((qX G n).getD j default).C=((flatR n λj=>(G j).C).drop (j*3)).take 3:=by rw[aDl h];exact(aIf (P:=λj=>(G j).C) (λ_ _=>rfl) h).symm
structure MatM where
 r:Int
 c:Int
 d:Sl (Sl EntM)
def mV (d:Sl (Sl EntM)):CV:=d.R 1 (λrow=>[cF row]) cP
def MatM.C (m:MatM):List CV:=[iC m.r,iC m.c,mV m.d]
structure Mk (m:MatM) (M:Nat->List En) (a b:Nat):Prop where
 r:m.r=(a:Nat)
 c:m.c=(b:Nat)
 ln:m.d.l.length=a
 row:∀i,i<a->Ek (m.d.l.getD i cP).l (M i)
 ok:∀i,i<a->VOk (M i) (b:Nat)/\(M i).length<=b
abbrev Mx (m:MatM) (M:Nat->List En) (n:Nat):Prop:=Mk m M n n
structure Mr (m:MatM) (M:Nat->List En) (a b B:Nat):Prop where
 r:m.r=(a:Nat)
 c:m.c=(b:Nat)
 ln:m.d.l.length=a
 row:∀i,i<a->Ev (m.d.l.getD i cP).l (M i) B
 ok:∀i,i<a->VOk (M i) (b:Nat)/\(M i).length<=b
def Mg (m:MatM) (M:Nat->List En) (B:Nat):Prop:=∀i,i<m.d.l.length->Ev (m.d.l.getD i cP).l (M i) B
def MOk (m:MatM) (M:Nat->List En):Prop:=(0<=m.r/\m.r<=16384)/\(0<=m.c/\m.c<=16384)/\((m.d.l.length:Nat):Int)=m.r/\∀i,i<m.d.l.length->VOk (M i) m.c
def rbM (M:Nat->List En) (n B:Nat):Prop:=∀i,i<n->rbE (M i) B
theorem Mk.mr {m:MatM} {M:Nat->List En} {a b B:Nat} (h:Mk m M a b) (hb:rbM M a B):Mr m M a b B:=⟨h.r,h.c,h.ln,λi hi=>(h.row i hi).ev (hb i hi),h.ok⟩
theorem Mr.mg {m:MatM} {M:Nat->List En} {a b B:Nat} (h:Mr m M a b B):Mg m M B:=λi hi=>h.row i (by have:=h.ln;omega)
theorem Mr.mok {m:MatM} {M:Nat->List En} {a b B:Nat} (h:Mr m M a b B) (ha:a<=4096) (hb:b<=4096):MOk m M:=by
 have h1:=h.r
 have h2:=h.c
 have h3:=h.ln
 exact⟨⟨by omega,by omega⟩,⟨by omega,by omega⟩,by omega,λi hi=>by rw[h2];exact(h.ok i oM).1⟩
abbrev bIj:FuncId:=176
theorem cHp:Ent Tryz.prog bIj:=aW func176 rfl kR
theorem cHq:Tryz.prog.funcs[bIj]? =some Tryz.f176:=func176
theorem bBh (z:Int):Ctr Tryz.prog bIj [] [.c (iC z)] [] (λ_:Unit=>⟨pC (0<=z/\z<=16384),[],True⟩):=by
 exact aX gT cHp cHq rfl rfl rfl bL aS (aA gT mxd ⟨(),trivial,aM mS rfl trivial⟩)
abbrev aRz:FuncId:=112
theorem cBm:Ent Tryz.prog aRz:=aW func112 rfl kR
theorem cBn:Tryz.prog.funcs[aRz]? =some Tryz.f112:=func112
abbrev mvG (m:MatM) (k:Nat):List (Nat×DV):=[(26,.c (iC k)),(1,.c (.p 0 0)),(24,.c (mV m.d)),(25,.c (iC (m.d.l.length:Nat)))]
theorem bSe (m:MatM) {M:Nat->List En} {B:Nat} (h:Mg m M B) (hB:B<=4398046511104) (hn:m.d.l.length<=4611686018427387904):Ctr Tryz.prog aRz [] [.a m.C] [] (λ_:Unit=>⟨pC (MOk m M),[],True⟩):=by
 refine aX gT cBm cBn rfl rfl rfl bL aS (aA gT mxd ⟨[],bBh m.r,rfl,rfl,rfl,λ_ _=>⟨λh2=>?_,λh1=>⟨[],bBh m.c,rfl,rfl,rfl,λ_ _=>⟨λh2=>aA gT mxd ?_,λh2=>aA gT mxd ?_⟩⟩⟩⟩)
 ·exact⟨(),trivial,aM (ff λh3=>h2 h3.1) rfl trivial⟩
 ·replace h2:¬(0<=m.c/\m.c<=16384)\/((m.d.l.length:Nat):Int)≠m.r:=h2
  exact⟨(),trivial,aM (ff λh3=>h2.elim (λh4=>h4 h3.2.1) λh4=>h4 h3.2.2.1) rfl trivial⟩
 replace h2:¬(¬(0<=m.c/\m.c<=16384)\/((m.d.l.length:Nat):Int)≠m.r):=h2
 refine cO (λ_=>true) (mvG m) (λ_=>[(24,0,m.C)]) (λ_=>[]) (λk=>k<=m.d.l.length/\∀i,i<k->VOk (M i) m.c) (λk=>m.d.l.length-k) λhM=>⟨bS hM (chg:=mvG m) (bls:=λ_=>[(24,0,m.C)]) (fls:=λ_=>[]) 0 ⟨aC _,λi hi=>absurd hi (aD _)⟩ rfl rfl trivial ⟨rfl,rfl,rfl,rfl⟩ bL (aB rfl aY) rfl,λk ⟨hk,hv⟩=>aA gT mxd ⟨λh3=>aA gT mxd ?_,λh3=>aA gT mxd ?_⟩⟩
 ·replace h3:(k:Int)<(m.d.l.length:Nat):=h3
  have hkn:k<m.d.l.length:=by omega
  refine⟨k,⟨rfl,hkn⟩,[],aLe (m.d.l.getD k cP) m.c (h k hkn) hB,rfl,rfl,rfl,λ_ _=>⟨λh4=>aA gT mxd ?_,λh4=>aA gT mxd ?_⟩⟩
  ·exact⟨(),trivial,aM (ff λh5=>h4 (h5.2.2.2 k hkn)) rfl trivial⟩
  refine⟨(k+1:Nat),wi,bS hM (chg:=mvG m) (bls:=λ_=>[(24,0,m.C)]) (fls:=λ_=>[]) (k+1) ⟨⟨hkn,λi hi=>?_⟩,show m.d.l.length-(k+1)<m.d.l.length-k by omega⟩ rfl rfl trivial ⟨rfl,rfl,rfl,rfl⟩ bL (aB rfl aY) rfl⟩
  rcases cX (dJ hi) with h5|rfl
  ·exact hv i h5
  exact dZ.1 h4
 replace h3:¬(k:Int)<(m.d.l.length:Nat):=h3
 exact aA gT mxd ⟨(),trivial,aM (tt ⟨dZ.1 h1,aT λh4=>h2 (.inl h4),aT λh4=>h2 (.inr h4),λi hi=>hv i oM⟩) rfl trivial⟩
theorem aDm (m:MatM) {M:Nat->List En} {a b B:Nat} (h:Mr m M a b B) (hB:B<=4398046511104) (ha:a<=4096) (hb:b<=4096):Ctr Tryz.prog aRz [] [.a m.C] [] (λ_:Unit=>⟨pC True,[],True⟩):=
 (bSe m h.mg hB (by rw[h.ln];omega)).lo λ_ _=>⟨(),trivial,λρ n w v hv=>by
  have h2:=hv.tt (h.mok ha hb)
  exact .c (by rw[h2.inv_c.inv_v,<-decide_true (h:=Classical.propDecidable True)];exact Rc.b _ _),rfl,rfl⟩
abbrev bSf:FuncId:=118
theorem cHr:Ent Tryz.prog bSf:=aW func118 rfl kR
theorem cHs:Tryz.prog.funcs[bSf]? =some Tryz.f118:=func118
theorem cBo {x:TypeId×Nat×List CV} {T e:Nat} {l:List CV} (h:∀c∈l,fO c=true):ClB [false,true] [x,(T,e,l)]:=λi T' es' l' hi hc=>by
 match i,hi,hc with
 |0,_,hc=>cases hc
 |1,hi,_=>injection hi with hi;injection hi with _ hi;injection hi with _ hi;subst hi;exact h
theorem bLx (n k:Nat) (hn:n<=4096):Ctr Tryz.prog bSf [false,true] [.c (iC n),.c (iC k)] [] (λ_:Unit=>⟨.a [iC n,iC k,.s 1 n],[(24,0,[iC n,iC k,.s 1 n]),(65,1,List.replicate n (.v (.slice none 0 0)))],True⟩):=by
 refine aX gT cHr cHs rfl rfl rfl bL (λi T es l hi=>by cases hi) (aA gT mxd ⟨n,⟨rfl,rfl,by show 24*n<=_;omega,by simp only[maxLen];omega⟩,(),trivial,fB rfl ⟨rfl,rfl⟩ bL (aB rfl (aB ?_ aY)) rfl (cBo λc hc=>by rw[(gD.1 hc).2];rfl)⟩)
 exact aR.2 λc hc=>by rw[(gD.1 hc).2];rfl
def eJ (n:Nat) (P:Nat->CV):List CV:=(List.range n).map P
theorem eC {n:Nat} {P:Nat->CV}:(eJ n P).length=n:=by unfold eJ;simp
theorem eZ {n j:Nat} {P:Nat->CV} (h:j<n):(eJ n P)[j*1]? =some (P j):=by unfold eJ;simp[h]
theorem dD {n j:Nat} {P:Nat->CV} (h:j<n):j*1<(eJ n P).length:=by rw[eC];omega
theorem bBi {l:List CV} {j:Nat} {c:CV} (h:j<l.length):lE l (j*1) [c]=l.set j c:=by
 unfold lE
 rw[bU,jG,if_pos h]
 rfl
theorem iF {n j:Nat} {P Q:Nat->CV} {c:CV} (h:j<n) (hq:∀i,i<n->(if i=j then c else P i)=Q i):lE (eJ n P) (j*1) [c]=eJ n Q/\j*1+1<=(eJ n P).length:=by
 refine⟨?_,by rw[eC];omega⟩
 rw[bBi (by rw[eC];exact h)]
 refine iW (by simp[eJ]) λi h1 h2=>?_
 have hi:i<n:=by simpa[eJ] using h2
 have:=hq i hi
 have e1:(eJ n Q)[i]=Q i:=by simp[eJ]
 rw[List.getElem_set,e1,<-this]
 by_cases e:j=i
 ·subst e;simp
 rw[if_neg e,if_neg (fV e)];simp[eJ]
theorem mK {n:Nat} {P Q:Nat->CV} (h:∀i,i<n->P i=Q i):eJ n P=eJ n Q:=eK λi hi=>h i (cQ.1 hi)
theorem zD {n:Nat} {c:CV}:List.replicate n c=eJ n λ_=>c:=by
 unfold eJ
 refine iW (by simp) λi h1 h2=>by simp
theorem aZ {n:Nat} {P:Nat->CV} (h:∀j,j<n->fO (P j)=true):∀c∈eJ n P,fO c=true:=λc hc=>by
 obtain⟨j,hj,rfl⟩:=cB.1 hc
 exact h j (cQ.1 hj)
theorem sG {φ:CV->CV} {l:List CV} (h:∀c,fO c=true->φ c=c) (hl:∀c∈l,fO c=true):l.map φ=l:=by
 induction l with
 |nil=>rfl
 |cons c l ih=>rw[eE,ih λc hc=>hl c (.tail _ hc),h c (hl c (.head _))]
theorem oC {i:Nat} {A:Option Nat} {a:Nat} (c:CV) (h:fO c=true):sA i A a c=c:=by cases c<;>first|rfl|cases h
theorem aOq {F:Fam} {n:Nat} {P Q:Nat->CV} (h:∀j,j<n->FrC F (P j) (Q j)) (k:Nat) (c c':CV) (h1:(eJ n P)[k]? =some c) (h2:(eJ n Q)[k]? =some c'):c=c'\/FrC F c c':=by
 have hk:k<n:=by have:=dX h1;rwa [eC] at this
 have e1:=eZ (P:=P) hk
 have e2:=eZ (P:=Q) hk
 rw[bU] at e1 e2
 rw[h1] at e1;rw[h2] at e2
 injection e1 with e1;injection e2 with e2
 subst e1 e2
 exact .inr (h k hk)
theorem wB {F:Fam} {l:List CV} {k0:Nat} {c0 c1:CV} (hk:l[k0]? =some c0) (hf:FrC F c0 c1):∀(k:Nat) (c c':CV),l[k]? =some c->(l.set k0 c1)[k]? =some c'->c=c'\/FrC F c c':=λk c c' h1 h2=>by
 rcases kC h2 with ⟨rfl,rfl,_⟩|⟨_,h3⟩
 ·rw[hk] at h1
  injection h1 with h1
  subst h1
  exact .inr hf
 rw[h1] at h3
 injection h3 with h3
 exact .inl h3
abbrev hdP (A:Nat->Option Nat) (cap:Nat->Nat) (G:Nat->List EntM):Nat->CV:=λj=> .h (A j) (G j).length (cap j)
theorem aAc {A:Nat->Option Nat} {cap:Nat->Nat} {G:Nat->List EntM} {n j:Nat} {A':Option Nat} {c':Nat} {e:EntM} (h:j<n):lE (eJ n (hdP A cap G)) (j*1) [.h A' ((G j).length+1) c']=eJ n (hdP (upd A j A') (upd cap j c') (upd G j (G j++[e])))/\j*1+1<=(eJ n (hdP A cap G)).length:=iF h λi _=>by
 by_cases he:i=j
 ·subst he;simp only[hdP,bN,if_true,aH,cU]
 simp only[hdP,bD he,if_neg he]
theorem aBm {T n j:Nat} {A:Nat->Option Nat} {cap:Nat->Nat} {G:Nat->List EntM} {e:EntM}:(⟨T,4,n,A,cap,upd (λj=>ecs (G j)) j (ecs (G j)++e.C)⟩:Fam)=⟨T,4,n,A,cap,λi=>ecs (upd G j (G j++[e]) i)⟩:=by
 congr 1
 funext i
 by_cases he:i=j
 ·subst he;rw[bN,bN,tP]
 rw[bD he,bD he]
def hdS (A:Nat->Option Nat) (cap:Nat->Nat) (G:Nat->List EntM) (j:Nat):Sl EntM:=⟨(A j).map λb=>⟨b,0,none⟩,cap j,G j⟩
theorem bLy {T n:Nat} {A:Nat->Option Nat} {cap:Nat->Nat} {G:Nat->List EntM} (j:Nat) (hj:j<n):FrC ⟨T,4,n,A,cap,λj=>ecs (G j)⟩ (hdP A cap G j) (cF (hdS A cap G j)):=⟨j,(G j).length,_,hj,rfl,rfl,(gZ _).symm,λk hk=>uK (G j) k hk⟩
def lJ (S:Nat->Sl EntM) (n:Nat):List (Sl EntM):=(List.range n).map S
theorem qY {S:Nat->Sl EntM} {n j:Nat} (h:j<n):(lJ S n).getD j cP=S j:=by unfold lJ;simp[h]
theorem nU {S:Nat->Sl EntM} {n:Nat}:(lJ S n).length=n:=by unfold lJ;simp
theorem xF {T n c:Nat} {A:Option Nat} {S:Nat->Sl EntM}:FrC ⟨T,1,1,λ_=>A,λ_=>c,λ_=>eJ n λj=>cF (S j)⟩ (.h A n c) (mV ⟨A.map λb=>⟨b,0,none⟩,c,lJ S n⟩):=⟨0,n,_,bL,rfl,by unfold mV Sl.R;rw[nU],by rw[eC,bU],λk hk=>by
 show [cF ((lJ S n).getD k cP)]=_
 rw[qY hk]
 have h1:=eZ (P:=λj=>cF (S j)) hk
 rw[bU] at h1
 rw[bU,eH (by rw[eC];exact hk)]
 rw[aE (by rw[eC];exact hk)] at h1
 injection h1 with h1
 rw[h1];rfl⟩
def aEm (M:Nat->List En) (n:Nat) (j:Nat):List Rat:=(List.range n).map λi=>Vm.get (M i) (j:Nat)
theorem aBn {M:Nat->List En} {n i j:Nat} (h:i<n):(aEm M n j).getD i 0=Vm.get (M i) (j:Nat):=by unfold aEm;simp[h]
def trM (M:Nat->List En) (n:Nat) (j:Nat):List En:=fdF (aEm M n j) n
theorem aSa {M:Nat->List En} {n i j:Nat} (hi:i<n):Vm.get (trM M n j) (i:Nat)=Vm.get (M i) (j:Nat):=by
 unfold trM
 rw[aRx,if_pos oM,cD,aBn hi]
theorem aDn {qs:List Rat} (n:Nat):VOk (fdF qs n) (n:Nat)/\(fdF qs n).length<=n:=⟨⟨aIe n,λe he=>by
 obtain⟨i,h1,rfl,h3⟩:=aDk e he
 exact⟨by show(0:Int)<=(i:Int);omega,by show(i:Int)<(n:Nat);omega,h3⟩⟩,aId n⟩
theorem bSg {qs:List Rat} {B k:Nat} (h:∀i,i<k->rb (qs.getD i 0) B):rbE (fdF qs k) B:=λe he=>by
 obtain⟨i,h1,rfl,_⟩:=aDk e he
 exact h i h1
theorem aIh {M:Nat->List En} {n B j:Nat} (h1:1<=B) (hb:rbM M n B) (ha:∀i,i<n->Asc (M i)):rbE (trM M n j) B:=bSg λi hi=>by rw[aBn hi];exact qW (ha i hi) (hb i hi) h1
open Classical in
noncomputable def lvl (es:List En) (i k j:Nat):Nat:=if ∃e∈es.take k,e.1=(j:Nat) then i+1 else i
theorem bBj {es:List En} {i j:Nat}:lvl es i 0 j=i:=if_neg λ⟨e,he,_⟩=>by cases he
theorem bSh {es:List En} {i k j:Nat} (hk:k<es.length) (h:(es.getD k default).1≠(j:Nat)):lvl es i (k+1) j=lvl es i k j:=by
 unfold lvl
 have e1:es.take (k+1)=es.take k++[es.getD k default]:=by rw[dU,aE hk,gd hk];rfl
 rw[e1]
 congr 1
 refine propext ⟨λ⟨e,he,h2⟩=>?_,λ⟨e,he,h2⟩=>⟨e,dB _ he,h2⟩⟩
 rcases aV.1 he with he|he
 ·exact⟨e,he,h2⟩
 rw[aI.1 he] at h2;exact absurd h2 h
theorem bSi {es:List En} {i k j:Nat} (ha:Asc es) (hk:k<es.length) (h:(es.getD k default).1=(j:Nat)):lvl es i k j=i/\lvl es i (k+1) j=i+1:=by
 have e1:es.take (k+1)=es.take k++[es.getD k default]:=by rw[dU,aE hk,gd hk];rfl
 refine⟨if_neg λ⟨e,he,h2⟩=>?_,if_pos ⟨es.getD k default,by rw[e1];simp,h⟩⟩
 have h3:Asc (es.take (k+1)):=ha.sublist (jR _ _)
 rw[e1] at h3
 have:=(eM.1 h3).2.2 e he _ (.head _)
 omega
theorem bIk {es:List En} {i j:Nat} {qs:List Rat} (hq:qs.getD i 0=Vm.get es (j:Nat)):fdF qs (lvl es i es.length j)=fdF qs (i+1):=by
 unfold lvl
 rw[cZ]
 split
 ·rfl
 next h=>
 have:qs.getD i 0=0:=hq.trans (get_none λe he h2=>h ⟨e,he,h2⟩)
 show _=if qs.getD i 0=0 then fdF qs i else _
 rw[if_pos this]
abbrev trB (m:MatM) (a b:Nat) (H:List CV):BL:=[(24,0,m.C),(24,0,[iC 0,iC 0,.v (.slice none 0 0)]),(24,0,[iC b,iC a,.s 3 b]),(65,1,H),(24,0,[iC b,iC a,.s 3 b])]
theorem aDo {m:MatM} {a b:Nat} {P:Nat->CV} (h:∀j,j<b->fO (P j)=true):scB 5 (trB m a b (eJ b P)):=aB rfl (aB rfl (aB rfl (aB (aR.2 λc hc=>sV (aZ h c hc)) (aB rfl aY))))
abbrev trF (n:Nat) (A:Nat->Option Nat) (cap:Nat->Nat) (G:Nat->List EntM):Fam:=⟨82,4,n,A,cap,λj=>ecs (G j)⟩
abbrev trO (m:MatM) (n i:Nat):List (Nat×DV):=[(21,.c (iC i)),(2,.c (.p 1 0)),(4,.c (.p 4 0)),(19,.c (mV m.d)),(20,.c (iC (m.d.l.length:Nat)))]
abbrev trI (m:MatM) (n i k:Nat):List (Nat×DV):=(28,.c (iC k))::(5,.c (iC i))::(26,.c (cF (m.d.l.getD i cP)))::(27,.c (iC ((m.d.l.getD i cP).l.length:Nat)))::trO m n i
def oTr:Ord:=.joinX [] [2000,1,2002,3,2004,5,2006,7,2008,2010,2011,12] (.alt 9 (trS [13,2014,15,16,2017,18]) (.alt 13 (.alt 2014 (.alt 9 (trS [15,16,2017,18]) (.alt 15 (trS [9,16,2017,18]) .nil)) .nil) .nil))
abbrev bBk:FuncId:=47
theorem cHt:Ent Tryz.prog bBk:=aW func47 rfl kR
theorem cHu:Tryz.prog.funcs[bBk]? =some Tryz.f47:=func47
theorem aN {i j:Nat} (c:CV) (h:fO c=true):swC i j c=c:=by cases c<;>first|rfl|cases h
theorem bT {l:List CV} {n:Nat} (h:∀c∈l,fO c=true):l.all (scC n)=true:=aR.2 λc hc=>sV (h c hc)
def cHv (own:Bool) (M:Nat->List En) (a b:Nat) (g:MatM×(Nat->Sl EntM)):Out:=match own with
 |true=>⟨.t [.a [iC b,iC a,.s 0 b],.c (iC 0)],[(65,1,eJ b λj=>cF (g.2 j))],∀j,j<b->Ek (g.2 j).l (trM M a j)⟩
 |false=>⟨.t [.a g.1.C,.c (iC 0)],[],Mk g.1 (trM M a) b a⟩
theorem bSj {i j n:Nat} {P:Nat->CV} (h:∀j,j<n->fO (P j)=true):(eJ n P).map (swC i j)=eJ n P:=(eK λc hc=>aN c (aZ h c hc)).trans (wU _)
theorem bLz (own:Bool) (m:MatM) {M:Nat->List En} {a b B:Nat} (h:Mr m M a b B) (hB:B<=4398046511104) (ha:a<=4096) (hb:b<=4096):Ctr Tryz.prog bBk [true] [.a m.C] [] (cHv own M a b):=by
 obtain⟨mr,mc,md⟩:=m
 obtain rfl:mr=(a:Nat):=h.r
 obtain rfl:mc=(b:Nat):=h.c
 have hl:md.l.length=a:=h.ln
 refine aX gT cHt cHu rfl rfl rfl bL (λi T es l hi=>by cases hi) (aA gT mxd ⟨[],aDm _ h hB ha hb,rfl,rfl,rfl,λ_ _=>⟨λh2=>absurd trivial h2,λ_=>aA gT mxd ⟨[],bLx b a hb,rfl,rfl,rfl,λ_ _=>?_⟩⟩⟩)
 show Sd _ _ _ _ _ _
 refine bHe tSd 82 4 b bL (gK tSd (l:=List.replicate b (.v (.slice none 0 0))) 3 (eJ b (hdP (λ_=>none) (λ_=>0) λ_=>[])) rfl (by rw[eC,dE]) (λk c c' h1 h2=>?_) ?_)
 ·have hk:k<b:=by have:=dX h1;simpa using this
  have h3:=eZ (P:=hdP (λ_=>none) (λ_=>0) λ_=>[]) hk
  rw[bU,h2] at h3
  injection h3 with h3
  rw[h3,(gD.1 (aP h1)).2]
  exact LeC.nilh
 refine cO (λ_=>true) (λg:Nat×(Nat->Option Nat)×(Nat->Nat)×(Nat->List EntM)=>trO ⟨a,b,md⟩ b g.1) (λg=>trB ⟨a,b,md⟩ a b (eJ b (hdP g.2.1 g.2.2.1 g.2.2.2))) (λg=>[trF b g.2.1 g.2.2.1 g.2.2.2]) (λg=>g.1<=a/\∀j,j<b->Ek (g.2.2.2 j) (fdF (aEm M a j) g.1)) (λg=>a-g.1) λhM=>⟨bS hM (chg:=λg:Nat×(Nat->Option Nat)×(Nat->Nat)×(Nat->List EntM)=>trO ⟨a,b,md⟩ b g.1) (bls:=λg=>trB ⟨a,b,md⟩ a b (eJ b (hdP g.2.1 g.2.2.1 g.2.2.2))) (fls:=λg=>[trF b g.2.1 g.2.2.1 g.2.2.2]) (0,λ_=>none,λ_=>0,λ_=>[]) ⟨aC _,λj _=>⟨rfl,λk hk=>absurd hk (aD _)⟩⟩ rfl ⟨rfl,rfl,rfl,rfl,rfl⟩ ⟨rfl,trivial⟩ ⟨rfl,rfl,rfl,rfl,rfl⟩ bL (aDo λ_ _=>rfl) rfl,λ⟨i,A,cap,G⟩ ⟨hi,hG⟩=>aA gT mxd ⟨λh2=>aA gT mxd ?_,λh2=>aA gT mxd ?_⟩⟩
 all_goals
  replace hi:i<=a:=hi
  replace hG:∀j,j<b->Ek (G j) (fdF (aEm M a j) i):=hG
 ·replace h2:(i:Int)<(md.l.length:Nat):=h2
  have hin:i<a:=by omega
  refine⟨i,⟨rfl,show i<md.l.length by omega⟩,?_⟩
  show Sd _ _ _ _ _ _
  have hes:=h.row i hin
  have hok:=h.ok i hin
  have hle:(md.l.getD i cP).l.length=(M i).length:=hes.ln
  refine cO (λ_=>true) (λg:Nat×(Nat->Option Nat)×(Nat->Nat)×(Nat->List EntM)=>trI ⟨a,b,md⟩ b i g.1) (λg=>trB ⟨a,b,md⟩ a b (eJ b (hdP g.2.1 g.2.2.1 g.2.2.2))) (λg=>[trF b g.2.1 g.2.2.1 g.2.2.2]) (λg=>g.1<=(M i).length/\∀j,j<b->Ek (g.2.2.2 j) (fdF (aEm M a j) (lvl (M i) i g.1 j))) (λg=>(M i).length-g.1) λhM2=>⟨bS hM2 (chg:=λg:Nat×(Nat->Option Nat)×(Nat->Nat)×(Nat->List EntM)=>trI ⟨a,b,md⟩ b i g.1) (bls:=λg=>trB ⟨a,b,md⟩ a b (eJ b (hdP g.2.1 g.2.2.1 g.2.2.2))) (fls:=λg=>[trF b g.2.1 g.2.2.1 g.2.2.2]) (0,A,cap,G) ⟨aC _,λj hj=>by rw[bBj];exact hG j hj⟩ rfl ⟨rfl,rfl,rfl,rfl,rfl⟩ ⟨rfl,trivial⟩ ⟨rfl,rfl,rfl,rfl,rfl,rfl,rfl,rfl,rfl⟩ bL (aDo λ_ _=>rfl) rfl,λ⟨k,A,cap,G⟩ ⟨hk,hG⟩=>aA gT mxd ⟨λh3=>aA gT mxd ?_,λh3=>aA gT mxd ?_⟩⟩
  all_goals
   replace hk:k<=(M i).length:=hk
   replace hG:∀j,j<b->Ek (G j) (fdF (aEm M a j) (lvl (M i) i k j)):=hG
  ·replace h3:(k:Int)<((md.l.getD i cP).l.length:Nat):=h3
   have hkl:k<(M i).length:=by omega
   have hm:=fX hkl
   have he:=hes.e k hkl
   have e0:=hok.1.2 _ hm
   obtain⟨j0,hj0⟩:∃j0:Nat,((M i).getD k default).1=(j0:Nat):=⟨((M i).getD k default).1.toNat,by omega⟩
   have hj:j0<b:=by omega
   have hix:((md.l.getD i cP).l.getD k default).ix=(j0:Nat):=he.1.trans hj0
   have hlv:=bSi (i:=i) hok.1.1 hkl hj0
   have lG:(G j0).length<=i:=by rw[(hG j0 hj).ln,hlv.1];exact aId i
   have fin:∀(g:RatM) (A':Option Nat) (c':Nat) (sl:List (Nat×DV)) (r:BL),vT (λ_=>true) [] [] [] sl->Cr g ((M i).getD k default).2->AllC sl (trI ⟨a,b,md⟩ b i k)->Gt 0 ⟨sl,[],trB ⟨a,b,md⟩ a b (lE (eJ b (hdP A cap G)) (j0*1) [.h A' ((G j0).length+1) c'])++r,[⟨82,4,b,upd A j0 A',upd cap j0 c',upd (λj=>ecs (G j)) j0 (ecs (G j0)++(⟨i,g⟩:EntM).C)⟩]⟩ (σ:=(Nat->Option Nat)×(Nat->Nat)×RatM) (λg=>⟨trI ⟨a,b,md⟩ b i k++[],[],trB ⟨a,b,md⟩ a b (eJ b (hdP g.1 g.2.1 (upd G j0 (G j0++[⟨i,g.2.2⟩])))),[trF b g.1 g.2.1 (upd G j0 (G j0++[⟨i,g.2.2⟩]))]⟩) (λg=>Cr g.2.2 ((M i).getD k default).2):=λg A' c' sl r ht hg hall=>by
    rw[(aAc hj).1,aBm]
    refine @bS _ _ _ _ hM2 _ (λ_:(Nat->Option Nat)×(Nat->Nat)×RatM=>trI ⟨a,b,md⟩ b i k) (λg=>trB ⟨a,b,md⟩ a b (eJ b (hdP g.1 g.2.1 (upd G j0 (G j0++[⟨i,g.2.2⟩]))))) (λg=>[trF b g.1 g.2.1 (upd G j0 (G j0++[⟨i,g.2.2⟩]))]) _ (upd A j0 A',upd cap j0 c',g) ?_ ?_ ?_ ?_ ?_ ?_ ?_ ?_
    ·exact hg
    ·exact ht
    ·exact⟨rfl,rfl,rfl,rfl,rfl⟩
    ·exact⟨rfl,trivial⟩
    ·exact hall
    ·exact aC _
    ·exact aDo λ_ _=>rfl
    rfl
   have apd:∀(g:RatM),(G j0).length+1<=maxLen/\((G j0).length+1)*64<=140737488355328/\∀c∈(⟨i,g⟩:EntM).C,fO c=true:=λg=>⟨by simp only[maxLen];omega,by omega,λc hc=>by
    rcases bR.1 hc with rfl|hc
    ·rfl
    exact oB _ c hc⟩
   refine⟨k,⟨rfl,show k<(md.l.getD i cP).l.length by omega⟩,oTr,by kernel_rfl,(Nat->Option Nat)×(Nat->Nat)×RatM,λg=>⟨trI ⟨a,b,md⟩ b i k++[],[],trB ⟨a,b,md⟩ a b (eJ b (hdP g.1 g.2.1 (upd G j0 (G j0++[⟨i,g.2.2⟩])))),[trF b g.1 g.2.1 (upd G j0 (G j0++[⟨i,g.2.2⟩]))]⟩,λg=>Cr g.2.2 ((M i).getD k default).2,⟨j0,⟨hix,hj,dD hj⟩,⟨_,eZ hj,rfl,?_⟩,?_⟩,λ_ _=>?_⟩
   ·exact⟨[],nJ ((md.l.getD i cP).l.getD k default).v (he.2.le hB),rfl,rfl,rfl,λg hg=>⟨rfl,rfl,0,j0,⟨⟨rfl,hj,rfl,rfl,(gZ _).symm,(apd g).1,(apd g).2.1,(apd g).2.2⟩,λA' c'=>⟨rfl,j0,⟨hix,hj,dD hj⟩,_,⟨rfl,(aAc (A':=none) (c':=0) (e:=default) hj).2⟩,rfl,fin g A' c' _ _ (by rfl) hg (by exact⟨rfl,rfl,rfl,rfl,rfl,rfl,rfl,rfl,rfl⟩)⟩⟩⟩⟩
   ·exact⟨[],nJ ((md.l.getD i cP).l.getD k default).v (he.2.le hB),rfl,rfl,rfl,λg hg=>⟨rfl,⟨_,eZ hj,rfl,rfl,0,j0,⟨⟨rfl,hj,rfl,rfl,(gZ _).symm,(apd g).1,(apd g).2.1,(apd g).2.2⟩,λA' c'=>⟨rfl,j0,⟨hix,hj,dD hj⟩,_,⟨rfl,(aAc (A':=none) (c':=0) (e:=default) hj).2⟩,rfl,fin g A' c' _ _ (by rfl) hg (by exact⟨rfl,rfl,rfl,rfl,rfl,rfl,rfl,rfl,rfl⟩)⟩⟩⟩,rfl,_,eZ hj,rfl,0,j0,⟨⟨rfl,hj,rfl,rfl,(gZ _).symm,(apd g).1,(apd g).2.1,(apd g).2.2⟩,λA' c'=>⟨rfl,j0,⟨hix,hj,dD hj⟩,_,⟨rfl,(aAc (A':=none) (c':=0) (e:=default) hj).2⟩,rfl,fin g A' c' _ _ (by rfl) hg (by exact⟨rfl,rfl,rfl,rfl,rfl,rfl,rfl,rfl,rfl⟩)⟩⟩⟩⟩
   next g hg=>
   exact⟨(k+1:Nat),wi,bS hM2 (chg:=λg:Nat×(Nat->Option Nat)×(Nat->Nat)×(Nat->List EntM)=>trI ⟨a,b,md⟩ b i g.1) (bls:=λg=>trB ⟨a,b,md⟩ a b (eJ b (hdP g.2.1 g.2.2.1 g.2.2.2))) (fls:=λg=>[trF b g.2.1 g.2.2.1 g.2.2.2]) (k+1,g.1,g.2.1,upd G j0 (G j0++[⟨i,g.2.2⟩])) ⟨⟨hkl,λj hjn=>by
    show Ek (upd G j0 (G j0++[⟨i,g.2.2⟩]) j) (fdF (aEm M a j) (lvl (M i) i (k+1) j))
    by_cases hjj:j=j0
    ·subst hjj
     rw[bN,hlv.2]
     have hq:Vm.get (M i) (j:Nat)=((M i).getD k default).2:=by rw[<-hj0];exact sF hok.1.1 hm
     show Ek _ (if _ then _ else _)
     rw[aBn hin,hq,if_neg e0.2.2]
     have:=hG j hjn
     rw[hlv.1] at this
     exact zB this hg
    rw[bD hjj,bSh hkl (by rw[hj0];omega)];exact hG j hjn⟩,show(M i).length-(k+1)<(M i).length-k by omega⟩ rfl ⟨rfl,rfl,rfl,rfl,rfl⟩ ⟨rfl,trivial⟩ ⟨rfl,rfl,rfl,rfl,rfl,rfl,rfl,rfl,rfl⟩ bL (aDo λ_ _=>rfl) rfl⟩
  replace h3:¬(k:Int)<((md.l.getD i cP).l.length:Nat):=h3
  obtain rfl:k=(M i).length:=by omega
  exact⟨(i+1:Nat),wi,bS hM (chg:=λg:Nat×(Nat->Option Nat)×(Nat->Nat)×(Nat->List EntM)=>trO ⟨a,b,md⟩ b g.1) (bls:=λg=>trB ⟨a,b,md⟩ a b (eJ b (hdP g.2.1 g.2.2.1 g.2.2.2))) (fls:=λg=>[trF b g.2.1 g.2.2.1 g.2.2.2]) (i+1,A,cap,G) ⟨⟨hin,λj hj=>by
   have:=hG j hj
   rw[bIk (aBn hin)] at this
   exact this⟩,show a-(i+1)<a-i by omega⟩ rfl ⟨rfl,rfl,rfl,rfl,rfl⟩ ⟨rfl,trivial⟩ ⟨rfl,rfl,rfl,rfl,rfl⟩ bL (aDo λ_ _=>rfl) rfl⟩
 replace h2:¬(i:Int)<(md.l.length:Nat):=h2
 obtain rfl:i=a:=by omega
 show Sd _ _ _ _ _ _
 refine lI tSd 3 0 (eJ b λj=>cF (hdS A cap G j)) rfl rfl rfl (by rw[eC,eC]) (aOq bLy) ?_
 have hE:∀j,j<b->Ek (hdS A cap G j).l (trM M i j):=(‹_/\_›:_/\∀j,j<b->Ek (G j) (fdF (aEm M i j) i)).2
 cases own with
 |true=>
  refine aRg tSd 0 3 rfl rfl bL bL rfl ⟨_,bSj λ_ _=>rfl,bL,aA gT mxd ⟨(⟨0,0,cP⟩,hdS A cap G),hE,fB ⟨rfl,rfl⟩ rfl bL (aB (bT (aZ λ_ _=>rfl)) aY) rfl (eI (aR.2 (aZ λ_ _=>rfl)))⟩⟩
 |false=>
  refine mU tSd 3 rfl bL (aZ λ_ _=>rfl) bL rfl λA2 c2=>?_
  refine lI tSd 4 1 [iC b,iC i,mV ⟨A2.map λb=>⟨b,0,none⟩,c2,lJ (hdS A cap G) b⟩] rfl rfl rfl rfl (wB (k0:=2) rfl xF) (aA gT mxd ⟨(⟨b,i,⟨A2.map λb=>⟨b,0,none⟩,c2,lJ (hdS A cap G) b⟩⟩,λ_=>cP),⟨rfl,rfl,nU,λj hj=>?_,λj hj=>aDn i⟩,aM ⟨rfl,rfl⟩ rfl trivial⟩)
  show Ek ((lJ (hdS A cap G) b).getD j cP).l _
  rw[qY hj]
  exact hE j hj
theorem cBp (m:MatM) {M:Nat->List En} {a b B:Nat} (h:Mr m M a b B) (hB:B<=4398046511104) (ha:a<=4096) (hb:b<=4096):Ctr Tryz.prog bBk [true] [.a m.C] [] (λg:MatM=>⟨.t [.a g.C,.c (iC 0)],[],Mk g (trM M a) b a⟩):=(bLz false m h hB ha hb).re λg hg=>⟨g.1,hg,rfl,rfl,rfl⟩
theorem cBq (m:MatM) {M:Nat->List En} {a b B:Nat} (h:Mr m M a b B) (hB:B<=4398046511104) (ha:a<=4096) (hb:b<=4096):Ctr Tryz.prog bBk [true] [.a m.C] [] (λg:Nat->Sl EntM=>⟨.t [.a [iC b,iC a,.s 0 b],.c (iC 0)],[(65,1,eJ b λj=>cF (g j))],∀j,j<b->Ek (g j).l (trM M a j)⟩):=(bLz true m h hB ha hb).re λg hg=>⟨g.2,hg,rfl,rfl,rfl⟩
section
variable {α:Type} {f:α->List CV} {d:α} {L:List α} {e:Nat}
def fl (f:α->List CV) (d:α) (L:List α):List CV:=flatR L.length λj=>f (L.getD j d)
theorem aSb {x:α}:fl f d L++f x=fl f d (L++[x]):=by
 unfold fl
 rw[aH,cU,gM]
 have h1:(L++[x]).getD L.length d=x:=by simp[List.getD]
 rw[h1,tQ (Q:=λj=>f ((L++[x]).getD j d)) λj hj=>by simp[List.getD,bJ hj]]
theorem zE (h:∀x,∀c∈f x,fO c=true):∀c∈fl f d L,fO c=true:=aOp (λ_=>h _) _
theorem aIi (h:∀x,(f x).length=e):(fl f d L).length=L.length*e:=oW λ_ _=>h _
theorem cBr (h:∀x,(f x).length=e) (j:Nat) (hj:j<L.length):f (L.getD j d)=((fl f d L).drop (j*e)).take e:=(aIf (P:=λj=>f (L.getD j d)) (λ_ _=>h _) hj).symm
end
abbrev bSk:FuncId:=88
theorem cHw:Ent Tryz.prog bSk:=aW func88 rfl kR
theorem cHx:Tryz.prog.funcs[bSk]? =some Tryz.f88:=func88
theorem cBs (a n:Int) (hn:0<n) (hn2:n<=1000000):Ctr Tryz.prog bSk [] [.c (iC a),.c (iC n)] [] (λr:Int=>⟨.c (iC r),[],0<=r/\r<n⟩):=by
 have hu:0<=a%18446744073709551616:=Int.emod_nonneg _ dC
 have e:(a%18446744073709551616).tmod n=a%18446744073709551616%n:=rN hu
 have h1:=Int.emod_nonneg (a%18446744073709551616) (show n≠0 by omega)
 have h2:=Int.emod_lt_of_pos (a%18446744073709551616) hn
 refine aX gT cHw cHx rfl rfl rfl bL aS (aA gT mxd ⟨a%18446744073709551616,?_,n,?_,(show n≠0 by omega),a%18446744073709551616%n,?_,a%18446744073709551616%n,⟨h1,h2⟩,aM rfl rfl trivial⟩)
 ·rfl
 ·show n=n%18446744073709551616
  omega
 rw[e]
 refine wi (z:=a%18446744073709551616%n) (h:=⟨rfl,by omega,by omega⟩)
abbrev tpB (d:Sl Int) (p:Nat):BL:=[(98,0,[cM d,iC p])]
abbrev bBl:FuncId:=16
theorem cBt:Ent Tryz.prog bBl:=aW func16 rfl kR
theorem cBu:Tryz.prog.funcs[bBl]? =some Tryz.f16:=func16
theorem aOr (d:Sl Int):Ctr Tryz.prog bBl [] [.c (cM d)] [] (λ_:Unit=>⟨.c (.p 0 0),tpB d 0,True⟩):=
 aX gT cBt cBu rfl rfl rfl bL aS (aA gT mxd ⟨(),trivial,fB rfl rfl (aC _) (aB rfl aY) rfl aAy⟩)
abbrev aOs:FuncId:=35
theorem bSl:Ent Tryz.prog aOs:=aW func35 rfl kR
theorem bSm:Tryz.prog.funcs[aOs]? =some Tryz.f35:=func35
theorem mO (d:Sl Int) (p:Nat) (n:Int) (hd:d.l.length<=9223372036854775807) (hp:p<=d.l.length) (hn:0<n) (hn2:n<=1000000):Ctr Tryz.prog aOs [true] [.c (.p 0 0),.c (iC n)] (tpB d p) (λg:Int×Nat=>⟨.c (iC g.1),tpB d g.2,(0<=g.1/\g.1<n)/\g.2<=d.l.length⟩):=by
 refine aX gT bSl bSm rfl rfl rfl bL (eI rfl) (aA gT mxd ⟨.seq (sq 99 (List.range 10)),by kernel_rfl,⟨λh=>aA gT mxd ⟨(0,p),⟨⟨Int.le_refl 0,hn⟩,hp⟩,fB rfl rfl bL (aB rfl aY) rfl (eI rfl)⟩,λh=>aA gT mxd ?_⟩⟩)
 have hpl:p<d.l.length:=by replace h:¬(p:Int)≥(d.l.length:Nat):=h;omega
 exact⟨(p+1:Nat),wi,.seq (sq 99 (List.range 14)),by kernel_rfl,p,wi,p,⟨rfl,hpl⟩,[],cBs _ n hn hn2,rfl,rfl,rfl,λr hr=>⟨(r,p+1),⟨hr,hpl⟩,fB rfl rfl bL (aB rfl aY) rfl (eI rfl)⟩⟩
theorem aLh {a b:Int} (ha:a.natAbs<=1000) (hb:b.natAbs<=1000):rb (Rat.divInt a b) 1:=by
 have h1:=zQ (a:=a) (b:=b)
 have h2:=zR (a:=a) (b:=b)
 have h3:∀{z:Int},z.natAbs<=1000->len z.natAbs<=1:=λ{z} hz=>aG (fQ hz) dC
 simp only[eY] at h1 h2
 exact⟨by have:=h3 ha;omega,by have:=h3 hb;omega⟩
abbrev bSn:FuncId:=152
theorem cHy:Ent Tryz.prog bSn:=aW func152 rfl kR
theorem cHz:Tryz.prog.funcs[bSn]? =some Tryz.f152:=func152
theorem bBm {a b:Int} (ha:a.natAbs<=1000) (hb:b.natAbs<=1000):Ctr Tryz.prog bSn [] [.c (iC a),.c (iC b)] [] (vF (Rat.divInt a b)):=by
 have hl:=qE (n:=a.natAbs)
 refine aX gT cHy cHz rfl rfl rfl bL aS (aA gT mxd ⟨[],xD oM,rfl,rfl,rfl,λg hg=>⟨[],xD oM,rfl,rfl,rfl,λo ho=>⟨[],aBk g o (Ci.in hg oM) (Ci.in ho (by have:=qE (n:=b.natAbs);omega)),rfl,rfl,rfl,λr hr=>⟨r,hr,aM rfl rfl trivial⟩⟩⟩⟩)
abbrev bBn:FuncId:=89
theorem cBv:Ent Tryz.prog bBn:=aW func89 rfl kR
theorem cBw:Tryz.prog.funcs[bBn]? =some Tryz.f89:=func89
theorem aOt (d:Sl Int) (p:Nat) (hd:d.l.length<=9223372036854775807) (hp:p<=d.l.length):Ctr Tryz.prog bBn [true] [.c (.p 0 0)] (tpB d p) (λg:RatM×Rat×Nat=>⟨.a g.1.C,tpB d g.2.2,(Cr g.1 g.2.1/\rb g.2.1 1)/\g.2.2<=d.l.length⟩):=by
 refine aX gT cBv cBw rfl rfl rfl bL (eI rfl) (aA gT mxd ⟨[0],mO d p 13 hd hp dC dC,rfl,rfl,rfl,λr hr=>⟨r.1-6,wi (h:=⟨rfl,by have:=hr.1;omega,by have:=hr.1;omega⟩),[0],mO d r.2 4 hd hr.2 dC dC,rfl,rfl,rfl,λs hs=>⟨1+s.1,wi (h:=⟨rfl,by have:=hs.1;omega,by have:=hs.1;omega⟩),[],bBm (by have:=hr.1;omega) (by have:=hs.1;omega),rfl,rfl,rfl,λg hg=>⟨(g,Rat.divInt (r.1-6) (1+s.1),s.2),⟨⟨hg,aLh (by have:=hr.1;omega) (by have:=hs.1;omega)⟩,hs.2⟩,fB rfl rfl bL (aB rfl aY) rfl (eI rfl)⟩⟩⟩⟩)
abbrev bSo:FuncId:=153
theorem cIa:Ent Tryz.prog bSo:=aW func153 rfl kR
theorem cIb:Tryz.prog.funcs[bSo]? =some Tryz.f153:=func153
theorem cBx (x y:IntM) {z:Int} (hx:Ci x z) (hy:Ci y z):Ctr Tryz.prog bSo [] [.a x.C,.a y.C] [] (λ_:Unit=>⟨pC True,[],True⟩):=by
 have hp:x.p↔y.p:=hx.1.trans hy.1.symm
 have hm:x.m.l=y.m.l:=hx.2.trans hy.2.symm
 exact aX gT cIa cIb rfl rfl rfl bL aS (aA gT mxd ⟨λ_=>⟨[],aGy x.m y.m,rfl,rfl,rfl,λ_ _=>⟨(),trivial,aM ⟨λ_=>trivial,λ_=>hm⟩ rfl trivial⟩⟩,λh=>absurd hp h⟩)
abbrev bSp:FuncId:=92
theorem cIc:Ent Tryz.prog bSp:=aW func92 rfl kR
theorem cId:Tryz.prog.funcs[bSp]? =some Tryz.f92:=func92
theorem bMa (x y:RatM) {q:Rat} (hx:Cr x q) (hy:Cr y q):Ctr Tryz.prog bSp [] [.a x.C,.a y.C] [] (λ_:Unit=>⟨pC True,[],True⟩):=by
 have hm:x.d.l=y.d.l:=hx.2.trans hy.2.symm
 refine aX gT cIc cId rfl rfl rfl bL aS (aA gT mxd ⟨[],cBx x.n y.n hx.1 hy.1,rfl,rfl,rfl,λ_ _=>⟨λ_=>⟨[],aGy x.d y.d,rfl,rfl,rfl,λ_ _=>⟨(),trivial,aM ⟨λ_=>trivial,λ_=>hm⟩ rfl trivial⟩⟩,λh=>absurd trivial h⟩⟩)
abbrev bBo:FuncId:=91
theorem cBy:Ent Tryz.prog bBo:=aW func91 rfl kR
theorem cBz:Tryz.prog.funcs[bBo]? =some Tryz.f91:=func91
theorem bBp (x:RatM) {q:Rat} (hx:Cr x q) (hb:rb q 13194139533312):Ctr Tryz.prog bBo [] [.a x.C] [] (λ_:Unit=>⟨pC True,[],True⟩):=by
 refine aX gT cBy cBz rfl rfl rfl bL aS (aA gT mxd ⟨.seq (sq 99 (List.range 5)),by kernel_rfl,[],jE x (hx.rq hb),rfl,rfl,rfl,λg hg=>⟨[],bMa x g hx hg,rfl,rfl,rfl,λ_ _=>⟨(),trivial,aM mS rfl trivial⟩⟩⟩)
abbrev aIj:FuncId:=37
theorem bSq:Ent Tryz.prog aIj:=aW func37 rfl kR
theorem bSr:Tryz.prog.funcs[aIj]? =some Tryz.f37:=func37
theorem bIl (x y:Sl RatM) {qs:List Rat} (hx:Rl x.l qs) (hy:Rl y.l qs) (hb:rbL qs 13194139533312) (hn:qs.length<=4096):Ctr Tryz.prog aIj [] [.c (fY x),.c (fY y)] [] (λ_:Unit=>⟨pC True,[],True⟩):=by
 have lx:=hx.ln
 have ly:=hy.ln
 refine aX gT bSq bSr rfl rfl rfl bL aS (aA gT mxd ⟨λh=>aA gT mxd ?_,λ_=>aA gT mxd ?_⟩)
 ·replace h:((x.l.length:Nat):Int)≠(y.l.length:Nat):=h
  omega
 refine cO (λ_=>true) (λk:Nat=>[(5,.c (iC k)),(0,.c (fY x)),(1,.c (fY y))]) (λ_=>[]) (λ_=>[]) (λk=>k<=qs.length) (λk=>qs.length-k) λhM=>⟨bS hM (chg:=λk:Nat=>[(5,.c (iC k)),(0,.c (fY x)),(1,.c (fY y))]) (bls:=λ_=>[]) (fls:=λ_=>[]) 0 (aC _) rfl trivial trivial ⟨rfl,rfl,rfl⟩ bL aY rfl,λk hk=>aA gT mxd ⟨λh1=>aA gT mxd ?_,λh1=>aA gT mxd ?_⟩⟩
 all_goals replace hk:k<=qs.length:=hk
 ·have hkl:k<qs.length:=by replace h1:(k:Int)<(x.l.length:Nat):=h1;omega
  have kx:k<x.l.length:=by omega
  have ky:k<y.l.length:=by omega
  have no:∀{p:Prop},¬True->p:=λh=>absurd trivial h
  exact⟨.seq (sq 99 (List.range 26)),by kernel_rfl,k,⟨rfl,kx⟩,[],bBp _ (hx.e k hkl) (hb _ (gD0 hkl)),rfl,rfl,rfl,λ_ _=>⟨k,λ_=>⟨rfl,ky⟩,λh=>absurd trivial h,λ_=>⟨[],bBp _ (hy.e k hkl) (hb _ (gD0 hkl)),rfl,rfl,rfl,λ_ _=>⟨k,λ_=>⟨rfl,kx⟩,k,λ_=>⟨rfl,ky⟩,λh=>absurd trivial h,λ_=>⟨[],bMa _ _ (hx.e k hkl) (hy.e k hkl),rfl,rfl,rfl,λ_ _=>⟨λh=>absurd trivial h,λ_=>aA gT mxd ⟨(k+1:Nat),wi,bS hM (chg:=λk:Nat=>[(5,.c (iC k)),(0,.c (fY x)),(1,.c (fY y))]) (bls:=λ_=>[]) (fls:=λ_=>[]) (k+1) ⟨hkl,show qs.length-(k+1)<qs.length-k by omega⟩ rfl trivial trivial ⟨rfl,rfl,rfl⟩ bL aY rfl⟩⟩⟩⟩⟩⟩⟩
 exact aA gT mxd ⟨(),trivial,aM (tt trivial) rfl trivial⟩
structure Rr (d:Sl (Sl RatM)) (Q:Nat->List Rat) (r n:Nat):Prop where
 ln:d.l.length=r
 row:∀i,i<r->Rl (d.l.getD i cP).l (Q i)/\(Q i).length=n
theorem Mk.congr {m:MatM} {M M':Nat->List En} {n b:Nat} (h:Mk m M n b) (he:∀i,i<n->M i=M' i):Mk m M' n b:=⟨h.r,h.c,h.ln,λi hi=>by rw[<-he i hi];exact h.row i hi,λi hi=>by rw[<-he i hi];exact h.ok i hi⟩
theorem cCa:rb (0:Rat) 1:=⟨by decide,by decide⟩
theorem bIm {α:Type} {f:α->List CV} {d:α} {L:List α} {e k:Nat} {x:α} (h:∀x,(f x).length=e) (hk:k<L.length):lE (fl f d L) (k*e) (f x)=fl f d (L.set k x)/\k*e+(f x).length<=(fl f d L).length:=by
 refine⟨?_,by rw[aIi h,h,<-dG];exact aQ _ hk⟩
 unfold fl
 rw[aIg (h x) (λ_ _=>h _) hk,bQ]
 refine tQ λj hj=>?_
 by_cases e:j=k
 ·subst e;simp[hk]
 rw[if_neg e];simp[List.getD,mM (fV e)]
set_option maxRecDepth 20000
structure El where
 R:Nat->Sl EntM
 LA:Nat->Option Nat
 Lc:Nat->Nat
 L:Nat->List EntM
 CA:Nat->Option Nat
 Cc:Nat->Nat
 I:Nat->List CV
abbrev mpC (CA:Nat->Option Nat):Nat->CV:=λj=> .v (.map (CA j))
abbrev jN (l:List CV):List Nat:=l.map nA
abbrev elE (i1 i2 i3 i4 n a:Nat):TypeId×Nat×List CV:=(162,0,[.s i1 n,.s i2 n,.s i3 n,.s i4 a])
abbrev elR (n:Nat) (x:El):TypeId×Nat×List CV:=(65,1,eJ n λj=>cF (x.R j))
abbrev elL (n:Nat) (x:El):TypeId×Nat×List CV:=(65,1,eJ n (hdP x.LA x.Lc x.L))
abbrev elC (n:Nat) (x:El):TypeId×Nat×List CV:=(210,1,eJ n (mpC x.CA))
abbrev elA (A:List Int):TypeId×Nat×List CV:=(3,1,A.map iC)
abbrev LF (n:Nat) (x:El):Fam:=⟨82,4,n,x.LA,x.Lc,λj=>ecs (x.L j)⟩
abbrev CF (n:Nat) (x:El):Fam:=⟨1000000,1,n,x.CA,x.Cc,x.I⟩
structure ElOk (x:El) (n:Nat) (es lw:Nat->List En) (used:Nat->Prop):Prop where
 row:∀i,i<n->Ek (x.R i).l (es i)
 ok:∀i,i<n->VOk (es i) (n:Nat)/\(es i).length<=n
 low:∀i,i<n->Ek (x.L i) (lw i)
 ca:∀j,j<n->∃b,x.CA j=some b
 nd:∀j,j<n->(jN (x.I j)).Nodup
 mem:∀j,j<n->∀i,i∈jN (x.I j)↔(i<n/\¬used i)/\Vm.get (es i) (j:Nat)≠0
theorem rpm {φ:CV->CV} {n:Nat} {c:CV} (h:∀c,fO c=true->φ c=c) (hc:fO c=true):(List.replicate n c).map φ=List.replicate n c:=by rw[List.map_replicate,h c hc]
theorem pS {n:Nat} {c:CV} (hc:fO c=true):∀x∈List.replicate n c,fO x=true:=λx hx=>by rw[(gD.1 hx).2];exact hc
theorem aSc {l:List CV} {c n i:Nat}:i∈jN (vN l c n).1↔i=n\/i∈jN l:=by
 unfold vN
 split
 ·next h=>exact⟨.inr,λh'=>h'.elim (λe=>e▸h) id⟩
 unfold jN
 rw[cH,aV]
 show i∈_\/i∈[n]↔_
 rw[aI]
 exact Or.comm
theorem bBq {l:List CV} {c n:Nat} (h:(jN l).Nodup):(jN (vN l c n).1).Nodup:=by
 unfold vN
 split
 ·exact h
 next hn=>
 unfold jN
 rw[cH,jV]
 refine⟨h,by simp,λa ha b hb he=>?_⟩
 have hb':b=n:=aI.1 (show b∈[n] from hb)
 exact hn (by rw[<-hb',<-he];exact ha)
theorem aLi {l:List CV} {n:Nat}:jN (aAx l n)=(jN l).filter λi=>!Nat.beq i n:=by
 unfold jN aAx
 rw[List.filter_map]
 rfl
theorem bIn {l:List CV} {n i:Nat}:i∈jN (aAx l n)↔i∈jN l/\i≠n:=by
 rw[aLi,pU]
 refine and_congr_right λ_=>?_
 cases h:Nat.beq i n with
 |true=>have:=aF h;simp[this]
 |false=>have:=nS h;simp[this]
theorem bSs {l:List CV} {n:Nat} (h:(jN l).Nodup):(jN (aAx l n)).Nodup:=by
 rw[aLi];exact h.filter _
def aL (n j:Nat):List Int:=(List.range n).map λi=>if i<j then (i:Int) else 0
theorem aDp {n j:Nat}:(aL n j).map iC=eJ n λi=>iC (if i<j then (i:Int) else 0):=by unfold aL eJ;rw[mR];rfl
theorem cCb {n j k:Nat} (h:j<n):j*1<((aL n k).map iC).length:=by rw[aDp];exact dD h
theorem bSt {n j:Nat} (h:j<n):lE ((aL n j).map iC) (j*1) [iC (j:Int)]=(aL n (j+1)).map iC/\j*1+1<=((aL n j).map iC).length:=by
 rw[aDp,aDp]
 exact iF h λi _=>by
  by_cases e:i=j
  ·subst e;rw[if_pos rfl,if_pos (bE _)]
  rw[if_neg e]
  by_cases e2:i<j
  ·rw[if_pos e2,if_pos oM]
  rw[if_neg e2,if_neg oM]
theorem bBr {n:Nat}:aL n n=(List.range n).map λi:Nat=>(i:Int):=eK λi hi=>if_pos (cQ.1 hi)
theorem sX {n:Nat} {c:CV} {P:Nat->CV} (h:∀j,j<n->LeC c (P j)) (k:Nat) (c1 c2:CV) (h1:(List.replicate n c)[k]? =some c1) (h2:(eJ n P)[k]? =some c2):LeC c1 c2:=by
 have hk:k<n:=by have:=dX h1;simpa using this
 have h3:=eZ (P:=P) hk
 rw[bU,h2] at h3
 injection h3 with h3
 rw[h3,(gD.1 (aP h1)).2]
 exact h k hk
abbrev stX (R:Nat->Sl EntM) (CA:Nat->Option Nat) (Cc:Nat->Nat) (I:Nat->List CV):El:=⟨R,λ_=>none,λ_=>0,λ_=>[],CA,Cc,I⟩
abbrev stB (m:MatM) (n:Nat) (x:El) (A:List Int):BL:=[(24,0,m.C),elR n x,elL n x,elC n x,elA A,elE 1 2 3 4 n n]
theorem xU {m:MatM} {n:Nat} {x:El} {A:List Int}:scB 6 (stB m n x A):=aB rfl (aB (bT (aZ λ_ _=>rfl)) (aB (bT (aZ λ_ _=>rfl)) (aB (bT (aZ λ_ _=>rfl)) (aB (bT (cJ _)) (aB rfl aY)))))
theorem fL {c:Bool} {cl:List Bool} {T:TypeId} {es:Nat} {l:List CV} {bl:BL} (h:c=true->∀x∈l,fO x=true) (hr:ClB cl bl):ClB (c::cl) ((T,es,l)::bl):=λi T' es' l' hi hc=>by
 cases i with
 |zero=>
  injection hi with hi
  injection hi with _ hi
  injection hi with _ hi
  subst hi
  injection hc with hc
  exact h hc
 |succ i=>exact hr i T' es' l' hi hc
theorem bIo {m:MatM}:∀c∈m.C,fO c=true:=λc hc=>by
 rcases bR.1 hc with rfl|hc
 ·rfl
 rcases bR.1 hc with rfl|hc
 ·rfl
 rw[aI.1 hc];rfl
theorem bSu {m:MatM} {n:Nat} {x:El} {A:List Int}:ClB [true,true,true,true,true,false] (stB m n x A):=fL (λ_=>bIo) (fL (λ_=>aZ λ_ _=>rfl) (fL (λ_=>aZ λ_ _=>rfl) (fL (λ_=>aZ λ_ _=>rfl) (fL (λ_=>cJ _) (fL (λh=>by cases h) aAy)))))
theorem bBs {α:Type} {f:Nat->α} {j:Nat} {x:α} (h:f j=x):upd f j x=f:=funext λi=>by
 by_cases e:i=j
 ·subst e;rw[bN,h]
 rw[bD e]
def KI (M:Nat->List En) (n i k:Nat) (I:Nat->List CV):Prop:=∀j,j<n->(jN (I j)).Nodup/\∀r,r∈jN (I j)↔(r<i/\Vm.get (M r) (j:Nat)≠0)\/(r=i/\∃e∈(M i).take k,e.1=(j:Nat))
theorem sY {es:List En} {n:Int} (h:VOk es n) (j:Int):Vm.get es j≠0↔∃e∈es,e.1=j:=by
 constructor
 ·intro hne
  refine aT λhh=>hne (get_none λe he h2=>hh ⟨e,he,h2⟩)
 rintro⟨e,he,rfl⟩
 rw[sF h.1 he]
 exact(h.2 e he).2.2
theorem KI.next {M:Nat->List En} {n i k j0:Nat} {I:Nat->List CV} {c:Nat} (h:KI M n i k I) (hk:k<(M i).length) (hj:((M i).getD k default).1=(j0:Nat)):KI M n i (k+1) (upd I j0 (vN (I j0) c i).1):=λj hjn=>by
 have e1:(M i).take (k+1)=(M i).take k++[(M i).getD k default]:=by rw[dU,aE hk,gd hk];rfl
 obtain⟨h1,h2⟩:=h j hjn
 rw[e1]
 by_cases e:j=j0
 ·subst e
  rw[bN]
  refine⟨bBq h1,λr=>?_⟩
  rw[aSc,h2 r]
  constructor
  ·rintro(rfl|h3|⟨h3,e,he,h4⟩)
   ·exact .inr ⟨rfl,_,dL _ (.head _),hj⟩
   ·exact .inl h3
   exact .inr ⟨h3,e,dB _ he,h4⟩
  rintro(h3|⟨h3,_⟩)
  ·exact .inr (.inl h3)
  exact .inl h3
 rw[bD e]
 refine⟨h1,λr=>?_⟩
 rw[h2 r]
 refine or_congr_right (and_congr_right λ_=>⟨λ⟨e',he,h4⟩=>⟨e',dB _ he,h4⟩,λ⟨e',he,h4⟩=>?_⟩)
 rcases aV.1 he with he|he
 ·exact⟨e',he,h4⟩
 rw[aI.1 he,hj] at h4;exact absurd (iU h4).symm e
theorem KI.row {M:Nat->List En} {n i:Nat} {I:Nat->List CV} (h:KI M n i (M i).length I) (hv:VOk (M i) (n:Nat)):KI M n (i+1) 0 I:=λj hj=>by
 obtain⟨h1,h2⟩:=h j hj
 refine⟨h1,λr=>?_⟩
 rw[h2 r,cZ]
 constructor
 ·rintro(⟨h3,h4⟩|⟨rfl,h4⟩)
  ·exact .inl ⟨by omega,h4⟩
  exact .inl ⟨by omega,(sY hv _).2 h4⟩
 rintro(⟨h3,h4⟩|⟨_,e,he,_⟩)
 ·by_cases e:r=i
  ·subst e;exact .inr ⟨rfl,(sY hv _).1 h4⟩
  exact .inl ⟨by omega,h4⟩
 cases he
abbrev st1 (n j:Nat):List (Nat×DV):=[(25,.c (iC j)),(3,.c (.p 5 0)),(1,.c (.p 0 0)),(24,.c (iC n))]
abbrev st2 (m:MatM) (i:Nat):List (Nat×DV):=[(46,.c (iC i)),(3,.c (.p 5 0)),(1,.c (.p 0 0)),(44,.c (mV m.d)),(45,.c (iC (m.d.l.length:Nat)))]
abbrev st3 (m:MatM) (i k:Nat):List (Nat×DV):=(61,.c (iC k))::(5,.c (iC i))::(59,.c (cF (m.d.l.getD i cP)))::(60,.c (iC ((m.d.l.getD i cP).l.length:Nat)))::st2 m i
def cCc:Ord:=.treeX [] [2000,2001,2002,3,2004,2005] (trS [6,2007,1008])
def cCd:Ord:=.treeX [] [2000,2001,2002,3,2004,5,2006,1007,2008] (trS [1009])
abbrev aIk:FuncId:=113
theorem bIp:Ent Tryz.prog aIk:=aW func113 rfl kR
theorem bIq:Tryz.prog.funcs[aIk]? =some Tryz.f113:=func113
def oSt:Ord:=.joinX [] [2000,1,2003,4,2006,7,2009,10] (.alt 2 (.alt 5 (.alt 8 (.alt 11 (trS [2012,1013,2014]) .nil) (.alt 11 (.alt 8 (trS [2012,1013,2014]) .nil) .nil)) (.alt 8 (.alt 5 (.alt 11 (trS [2012,1013,2014]) .nil) (.alt 11 (.alt 5 (trS [2012,1013,2014]) .nil) .nil)) (.alt 11 (.alt 5 (.alt 8 (trS [2012,1013,2014]) .nil) (.alt 8 (.alt 5 (trS [2012,1013,2014]) .nil) .nil)) .nil))) (.alt 5 (.alt 2 (.alt 8 (.alt 11 (trS [2012,1013,2014]) .nil) (.alt 11 (.alt 8 (trS [2012,1013,2014]) .nil) .nil)) (.alt 8 (.alt 2 (.alt 11 (trS [2012,1013,2014]) .nil) (.alt 11 (.alt 2 (trS [2012,1013,2014]) .nil) .nil)) (.alt 11 (.alt 2 (.alt 8 (trS [2012,1013,2014]) .nil) (.alt 8 (.alt 2 (trS [2012,1013,2014]) .nil) .nil)) .nil))) (.alt 8 (.alt 2 (.alt 5 (.alt 11 (trS [2012,1013,2014]) .nil) (.alt 11 (.alt 5 (trS [2012,1013,2014]) .nil) .nil)) (.alt 5 (.alt 2 (.alt 11 (trS [2012,1013,2014]) .nil) (.alt 11 (.alt 2 (trS [2012,1013,2014]) .nil) .nil)) (.alt 11 (.alt 2 (.alt 5 (trS [2012,1013,2014]) .nil) (.alt 5 (.alt 2 (trS [2012,1013,2014]) .nil) .nil)) .nil))) (.alt 11 (.alt 2 (.alt 5 (.alt 8 (trS [2012,1013,2014]) .nil) (.alt 8 (.alt 5 (trS [2012,1013,2014]) .nil) .nil)) (.alt 5 (.alt 2 (.alt 8 (trS [2012,1013,2014]) .nil) (.alt 8 (.alt 2 (trS [2012,1013,2014]) .nil) .nil)) (.alt 8 (.alt 2 (.alt 5 (trS [2012,1013,2014]) .nil) (.alt 5 (.alt 2 (trS [2012,1013,2014]) .nil) .nil)) .nil))) .nil))))
theorem bIr (m:MatM) {M:Nat->List En} {n B:Nat} (h:Mr m M n n B) (hb:rbM M n B) (h1:1<=B) (hB:B<=4398046511104) (hn:n<=4096):CtrF Tryz.prog aIk [true,true,true,true,true,false] [.a m.C] [] [] (λx:El=>⟨.c (.p 5 0),[(24,0,m.C),elR n x,elL n x,elC n x,elA (aL n n),elE 1 2 3 4 n n],[LF n x,CF n x],ElOk x n M (λ_=>[]) (λ_=>False)⟩):=by
 obtain⟨mr,mc,md⟩:=m
 obtain rfl:mr=(n:Nat):=h.r
 obtain rfl:mc=(n:Nat):=h.c
 have hl:md.l.length=n:=h.ln
 have mk1:n<=maxLen:=by simp only[maxLen];omega
 have nilc:fO (.v (.slice none 0 0))=true:=rfl
 refine nZ gT bIp bIq rfl rfl rfl bL (λi T es l hi=>by cases hi) (aA gT mxd ?_)
 have fin1:∀(sl:List (Nat×DV)),vT (λ_=>true) [] [] [] sl->AllC sl [(3,.c (.p 5 0)),(1,.c (.p 0 0))]->Gt 0 ⟨sl,[],[(24,0,(⟨n,n,md⟩:MatM).C),(65,1,List.replicate n (.v (.slice none 0 0))),(65,1,List.replicate n (.v (.slice none 0 0))),(210,1,List.replicate n (.v (.map none))),(3,1,List.replicate n (iC 0)),elE 1 2 3 4 n n],[]⟩ (σ:=Unit) (λ_=>⟨[(3,.c (.p 5 0)),(1,.c (.p 0 0))]++[],[],[(24,0,(⟨n,n,md⟩:MatM).C),(65,1,List.replicate n (.v (.slice none 0 0))),(65,1,List.replicate n (.v (.slice none 0 0))),(210,1,List.replicate n (.v (.map none))),(3,1,List.replicate n (iC 0)),elE 1 2 3 4 n n],[]⟩) (λ_=>True):=λsl ht ha=>by
  refine @bS 0 _ (λ_=>true) [] (λt d ht=>by cases ht) Unit (λ_=>[(3,.c (.p 5 0)),(1,.c (.p 0 0))]) (λ_=>[(24,0,(⟨n,n,md⟩:MatM).C),(65,1,List.replicate n (.v (.slice none 0 0))),(65,1,List.replicate n (.v (.slice none 0 0))),(210,1,List.replicate n (.v (.map none))),(3,1,List.replicate n (iC 0)),elE 1 2 3 4 n n]) (λ_=>[]) _ () trivial ht ?_ trivial ha (aC _) ?_ rfl
  ·exact⟨rfl,rfl,rfl,rfl,rfl,rfl⟩
  exact aB rfl (aB (bT (pS rfl)) (aB (bT (pS rfl)) (aB (bT (pS rfl)) (aB (bT (pS rfl)) (aB rfl aY)))))
 refine⟨oSt,by kernel_rfl,Unit,λ_=>⟨[(3,.c (.p 5 0)),(1,.c (.p 0 0))]++[],[],[(24,0,(⟨n,n,md⟩:MatM).C),(65,1,List.replicate n (.v (.slice none 0 0))),(65,1,List.replicate n (.v (.slice none 0 0))),(210,1,List.replicate n (.v (.map none))),(3,1,List.replicate n (iC 0)),elE 1 2 3 4 n n],[]⟩,λ_=>True,?_,λ_ _=>?_⟩
 ·exact⟨⟨n,⟨rfl,rfl,by show 24*n<=_;omega,mk1⟩,rfl,⟨⟨n,⟨rfl,rfl,by show 24*n<=_;omega,mk1⟩,rfl,⟨⟨n,⟨rfl,rfl,by show 8*n<=_;omega,mk1⟩,rfl,⟨n,⟨rfl,rfl,by show 8*n<=_;omega,mk1⟩,rfl,fin1 _ (by rfl) (by exact⟨rfl,rfl⟩)⟩⟩,⟨n,⟨rfl,rfl,by show 8*n<=_;omega,mk1⟩,rfl,⟨n,⟨rfl,rfl,by show 8*n<=_;omega,mk1⟩,rfl,gsw 3 4 rfl rfl bL bL rfl ⟨_,rpm aN rfl,_,rpm aN rfl,_,rpm aN rfl,_,rpm aN rfl,bL,fin1 _ (by rfl) (by exact⟨rfl,rfl⟩)⟩⟩⟩⟩⟩,⟨n,⟨rfl,rfl,by show 8*n<=_;omega,mk1⟩,rfl,⟨⟨n,⟨rfl,rfl,by show 24*n<=_;omega,mk1⟩,rfl,⟨n,⟨rfl,rfl,by show 8*n<=_;omega,mk1⟩,rfl,gsw 2 3 rfl rfl bL bL rfl ⟨_,rpm aN rfl,_,rpm aN rfl,_,rpm aN rfl,_,rpm aN rfl,bL,fin1 _ (by rfl) (by exact⟨rfl,rfl⟩)⟩⟩⟩,⟨n,⟨rfl,rfl,by show 8*n<=_;omega,mk1⟩,rfl,⟨n,⟨rfl,rfl,by show 24*n<=_;omega,mk1⟩,rfl,gsw 2 4 rfl rfl bL bL rfl ⟨_,rpm aN rfl,_,rpm aN rfl,_,rpm aN rfl,_,rpm aN rfl,bL,gsw 3 4 rfl rfl bL bL rfl ⟨_,rpm aN rfl,_,rpm aN rfl,_,rpm aN rfl,_,rpm aN rfl,bL,fin1 _ (by rfl) (by exact⟨rfl,rfl⟩)⟩⟩⟩⟩⟩⟩,⟨n,⟨rfl,rfl,by show 8*n<=_;omega,mk1⟩,rfl,⟨⟨n,⟨rfl,rfl,by show 24*n<=_;omega,mk1⟩,rfl,⟨n,⟨rfl,rfl,by show 8*n<=_;omega,mk1⟩,rfl,gsw 2 3 rfl rfl bL bL rfl ⟨_,rpm aN rfl,_,rpm aN rfl,_,rpm aN rfl,_,rpm aN rfl,bL,gsw 3 4 rfl rfl bL bL rfl ⟨_,rpm aN rfl,_,rpm aN rfl,_,rpm aN rfl,_,rpm aN rfl,bL,fin1 _ (by rfl) (by exact⟨rfl,rfl⟩)⟩⟩⟩⟩,⟨n,⟨rfl,rfl,by show 8*n<=_;omega,mk1⟩,rfl,⟨n,⟨rfl,rfl,by show 24*n<=_;omega,mk1⟩,rfl,gsw 2 4 rfl rfl bL bL rfl ⟨_,rpm aN rfl,_,rpm aN rfl,_,rpm aN rfl,_,rpm aN rfl,bL,fin1 _ (by rfl) (by exact⟨rfl,rfl⟩)⟩⟩⟩⟩⟩⟩⟩,⟨n,⟨rfl,rfl,by show 24*n<=_;omega,mk1⟩,rfl,⟨⟨n,⟨rfl,rfl,by show 24*n<=_;omega,mk1⟩,rfl,⟨⟨n,⟨rfl,rfl,by show 8*n<=_;omega,mk1⟩,rfl,⟨n,⟨rfl,rfl,by show 8*n<=_;omega,mk1⟩,rfl,gsw 1 2 rfl rfl bL bL rfl ⟨_,rpm aN rfl,_,rpm aN rfl,_,rpm aN rfl,_,rpm aN rfl,bL,fin1 _ (by rfl) (by exact⟨rfl,rfl⟩)⟩⟩⟩,⟨n,⟨rfl,rfl,by show 8*n<=_;omega,mk1⟩,rfl,⟨n,⟨rfl,rfl,by show 8*n<=_;omega,mk1⟩,rfl,gsw 1 2 rfl rfl bL bL rfl ⟨_,rpm aN rfl,_,rpm aN rfl,_,rpm aN rfl,_,rpm aN rfl,bL,gsw 3 4 rfl rfl bL bL rfl ⟨_,rpm aN rfl,_,rpm aN rfl,_,rpm aN rfl,_,rpm aN rfl,bL,fin1 _ (by rfl) (by exact⟨rfl,rfl⟩)⟩⟩⟩⟩⟩⟩,⟨n,⟨rfl,rfl,by show 8*n<=_;omega,mk1⟩,rfl,⟨⟨n,⟨rfl,rfl,by show 24*n<=_;omega,mk1⟩,rfl,⟨n,⟨rfl,rfl,by show 8*n<=_;omega,mk1⟩,rfl,gsw 1 3 rfl rfl bL bL rfl ⟨_,rpm aN rfl,_,rpm aN rfl,_,rpm aN rfl,_,rpm aN rfl,bL,gsw 2 3 rfl rfl bL bL rfl ⟨_,rpm aN rfl,_,rpm aN rfl,_,rpm aN rfl,_,rpm aN rfl,bL,fin1 _ (by rfl) (by exact⟨rfl,rfl⟩)⟩⟩⟩⟩,⟨n,⟨rfl,rfl,by show 8*n<=_;omega,mk1⟩,rfl,⟨n,⟨rfl,rfl,by show 24*n<=_;omega,mk1⟩,rfl,gsw 1 4 rfl rfl bL bL rfl ⟨_,rpm aN rfl,_,rpm aN rfl,_,rpm aN rfl,_,rpm aN rfl,bL,gsw 2 4 rfl rfl bL bL rfl ⟨_,rpm aN rfl,_,rpm aN rfl,_,rpm aN rfl,_,rpm aN rfl,bL,gsw 3 4 rfl rfl bL bL rfl ⟨_,rpm aN rfl,_,rpm aN rfl,_,rpm aN rfl,_,rpm aN rfl,bL,fin1 _ (by rfl) (by exact⟨rfl,rfl⟩)⟩⟩⟩⟩⟩⟩⟩,⟨n,⟨rfl,rfl,by show 8*n<=_;omega,mk1⟩,rfl,⟨⟨n,⟨rfl,rfl,by show 24*n<=_;omega,mk1⟩,rfl,⟨n,⟨rfl,rfl,by show 8*n<=_;omega,mk1⟩,rfl,gsw 1 3 rfl rfl bL bL rfl ⟨_,rpm aN rfl,_,rpm aN rfl,_,rpm aN rfl,_,rpm aN rfl,bL,gsw 2 3 rfl rfl bL bL rfl ⟨_,rpm aN rfl,_,rpm aN rfl,_,rpm aN rfl,_,rpm aN rfl,bL,gsw 3 4 rfl rfl bL bL rfl ⟨_,rpm aN rfl,_,rpm aN rfl,_,rpm aN rfl,_,rpm aN rfl,bL,fin1 _ (by rfl) (by exact⟨rfl,rfl⟩)⟩⟩⟩⟩⟩,⟨n,⟨rfl,rfl,by show 8*n<=_;omega,mk1⟩,rfl,⟨n,⟨rfl,rfl,by show 24*n<=_;omega,mk1⟩,rfl,gsw 1 4 rfl rfl bL bL rfl ⟨_,rpm aN rfl,_,rpm aN rfl,_,rpm aN rfl,_,rpm aN rfl,bL,gsw 2 4 rfl rfl bL bL rfl ⟨_,rpm aN rfl,_,rpm aN rfl,_,rpm aN rfl,_,rpm aN rfl,bL,fin1 _ (by rfl) (by exact⟨rfl,rfl⟩)⟩⟩⟩⟩⟩⟩⟩⟩,⟨n,⟨rfl,rfl,by show 8*n<=_;omega,mk1⟩,rfl,⟨⟨n,⟨rfl,rfl,by show 24*n<=_;omega,mk1⟩,rfl,⟨⟨n,⟨rfl,rfl,by show 24*n<=_;omega,mk1⟩,rfl,⟨n,⟨rfl,rfl,by show 8*n<=_;omega,mk1⟩,rfl,gsw 1 2 rfl rfl bL bL rfl ⟨_,rpm aN rfl,_,rpm aN rfl,_,rpm aN rfl,_,rpm aN rfl,bL,gsw 2 3 rfl rfl bL bL rfl ⟨_,rpm aN rfl,_,rpm aN rfl,_,rpm aN rfl,_,rpm aN rfl,bL,fin1 _ (by rfl) (by exact⟨rfl,rfl⟩)⟩⟩⟩⟩,⟨n,⟨rfl,rfl,by show 8*n<=_;omega,mk1⟩,rfl,⟨n,⟨rfl,rfl,by show 24*n<=_;omega,mk1⟩,rfl,gsw 1 2 rfl rfl bL bL rfl ⟨_,rpm aN rfl,_,rpm aN rfl,_,rpm aN rfl,_,rpm aN rfl,bL,gsw 2 4 rfl rfl bL bL rfl ⟨_,rpm aN rfl,_,rpm aN rfl,_,rpm aN rfl,_,rpm aN rfl,bL,gsw 3 4 rfl rfl bL bL rfl ⟨_,rpm aN rfl,_,rpm aN rfl,_,rpm aN rfl,_,rpm aN rfl,bL,fin1 _ (by rfl) (by exact⟨rfl,rfl⟩)⟩⟩⟩⟩⟩⟩⟩,⟨n,⟨rfl,rfl,by show 24*n<=_;omega,mk1⟩,rfl,⟨⟨n,⟨rfl,rfl,by show 24*n<=_;omega,mk1⟩,rfl,⟨n,⟨rfl,rfl,by show 8*n<=_;omega,mk1⟩,rfl,gsw 1 3 rfl rfl bL bL rfl ⟨_,rpm aN rfl,_,rpm aN rfl,_,rpm aN rfl,_,rpm aN rfl,bL,fin1 _ (by rfl) (by exact⟨rfl,rfl⟩)⟩⟩⟩,⟨n,⟨rfl,rfl,by show 8*n<=_;omega,mk1⟩,rfl,⟨n,⟨rfl,rfl,by show 24*n<=_;omega,mk1⟩,rfl,gsw 1 4 rfl rfl bL bL rfl ⟨_,rpm aN rfl,_,rpm aN rfl,_,rpm aN rfl,_,rpm aN rfl,bL,gsw 3 4 rfl rfl bL bL rfl ⟨_,rpm aN rfl,_,rpm aN rfl,_,rpm aN rfl,_,rpm aN rfl,bL,fin1 _ (by rfl) (by exact⟨rfl,rfl⟩)⟩⟩⟩⟩⟩⟩,⟨n,⟨rfl,rfl,by show 8*n<=_;omega,mk1⟩,rfl,⟨⟨n,⟨rfl,rfl,by show 24*n<=_;omega,mk1⟩,rfl,⟨n,⟨rfl,rfl,by show 24*n<=_;omega,mk1⟩,rfl,gsw 1 3 rfl rfl bL bL rfl ⟨_,rpm aN rfl,_,rpm aN rfl,_,rpm aN rfl,_,rpm aN rfl,bL,gsw 2 4 rfl rfl bL bL rfl ⟨_,rpm aN rfl,_,rpm aN rfl,_,rpm aN rfl,_,rpm aN rfl,bL,fin1 _ (by rfl) (by exact⟨rfl,rfl⟩)⟩⟩⟩⟩,⟨n,⟨rfl,rfl,by show 24*n<=_;omega,mk1⟩,rfl,⟨n,⟨rfl,rfl,by show 24*n<=_;omega,mk1⟩,rfl,gsw 1 4 rfl rfl bL bL rfl ⟨_,rpm aN rfl,_,rpm aN rfl,_,rpm aN rfl,_,rpm aN rfl,bL,gsw 2 3 rfl rfl bL bL rfl ⟨_,rpm aN rfl,_,rpm aN rfl,_,rpm aN rfl,_,rpm aN rfl,bL,gsw 3 4 rfl rfl bL bL rfl ⟨_,rpm aN rfl,_,rpm aN rfl,_,rpm aN rfl,_,rpm aN rfl,bL,fin1 _ (by rfl) (by exact⟨rfl,rfl⟩)⟩⟩⟩⟩⟩⟩⟩⟩⟩,⟨n,⟨rfl,rfl,by show 8*n<=_;omega,mk1⟩,rfl,⟨⟨n,⟨rfl,rfl,by show 24*n<=_;omega,mk1⟩,rfl,⟨⟨n,⟨rfl,rfl,by show 24*n<=_;omega,mk1⟩,rfl,⟨n,⟨rfl,rfl,by show 8*n<=_;omega,mk1⟩,rfl,gsw 1 2 rfl rfl bL bL rfl ⟨_,rpm aN rfl,_,rpm aN rfl,_,rpm aN rfl,_,rpm aN rfl,bL,gsw 2 3 rfl rfl bL bL rfl ⟨_,rpm aN rfl,_,rpm aN rfl,_,rpm aN rfl,_,rpm aN rfl,bL,gsw 3 4 rfl rfl bL bL rfl ⟨_,rpm aN rfl,_,rpm aN rfl,_,rpm aN rfl,_,rpm aN rfl,bL,fin1 _ (by rfl) (by exact⟨rfl,rfl⟩)⟩⟩⟩⟩⟩,⟨n,⟨rfl,rfl,by show 8*n<=_;omega,mk1⟩,rfl,⟨n,⟨rfl,rfl,by show 24*n<=_;omega,mk1⟩,rfl,gsw 1 2 rfl rfl bL bL rfl ⟨_,rpm aN rfl,_,rpm aN rfl,_,rpm aN rfl,_,rpm aN rfl,bL,gsw 2 4 rfl rfl bL bL rfl ⟨_,rpm aN rfl,_,rpm aN rfl,_,rpm aN rfl,_,rpm aN rfl,bL,fin1 _ (by rfl) (by exact⟨rfl,rfl⟩)⟩⟩⟩⟩⟩⟩,⟨n,⟨rfl,rfl,by show 24*n<=_;omega,mk1⟩,rfl,⟨⟨n,⟨rfl,rfl,by show 24*n<=_;omega,mk1⟩,rfl,⟨n,⟨rfl,rfl,by show 8*n<=_;omega,mk1⟩,rfl,gsw 1 3 rfl rfl bL bL rfl ⟨_,rpm aN rfl,_,rpm aN rfl,_,rpm aN rfl,_,rpm aN rfl,bL,gsw 3 4 rfl rfl bL bL rfl ⟨_,rpm aN rfl,_,rpm aN rfl,_,rpm aN rfl,_,rpm aN rfl,bL,fin1 _ (by rfl) (by exact⟨rfl,rfl⟩)⟩⟩⟩⟩,⟨n,⟨rfl,rfl,by show 8*n<=_;omega,mk1⟩,rfl,⟨n,⟨rfl,rfl,by show 24*n<=_;omega,mk1⟩,rfl,gsw 1 4 rfl rfl bL bL rfl ⟨_,rpm aN rfl,_,rpm aN rfl,_,rpm aN rfl,_,rpm aN rfl,bL,fin1 _ (by rfl) (by exact⟨rfl,rfl⟩)⟩⟩⟩⟩⟩,⟨n,⟨rfl,rfl,by show 8*n<=_;omega,mk1⟩,rfl,⟨⟨n,⟨rfl,rfl,by show 24*n<=_;omega,mk1⟩,rfl,⟨n,⟨rfl,rfl,by show 24*n<=_;omega,mk1⟩,rfl,gsw 1 3 rfl rfl bL bL rfl ⟨_,rpm aN rfl,_,rpm aN rfl,_,rpm aN rfl,_,rpm aN rfl,bL,gsw 2 4 rfl rfl bL bL rfl ⟨_,rpm aN rfl,_,rpm aN rfl,_,rpm aN rfl,_,rpm aN rfl,bL,gsw 3 4 rfl rfl bL bL rfl ⟨_,rpm aN rfl,_,rpm aN rfl,_,rpm aN rfl,_,rpm aN rfl,bL,fin1 _ (by rfl) (by exact⟨rfl,rfl⟩)⟩⟩⟩⟩⟩,⟨n,⟨rfl,rfl,by show 24*n<=_;omega,mk1⟩,rfl,⟨n,⟨rfl,rfl,by show 24*n<=_;omega,mk1⟩,rfl,gsw 1 4 rfl rfl bL bL rfl ⟨_,rpm aN rfl,_,rpm aN rfl,_,rpm aN rfl,_,rpm aN rfl,bL,gsw 2 3 rfl rfl bL bL rfl ⟨_,rpm aN rfl,_,rpm aN rfl,_,rpm aN rfl,_,rpm aN rfl,bL,fin1 _ (by rfl) (by exact⟨rfl,rfl⟩)⟩⟩⟩⟩⟩⟩⟩⟩⟩
 show Sd _ _ _ _ _ _
 refine gK tSd 1 (eJ n λ_=>cF cP) rfl (by rw[eC,dE]) (sX λ_ _=>pH) ?_
 refine gK tSd 2 (eJ n (hdP (λ_=>none) (λ_=>0) λ_=>[])) rfl (by rw[eC,dE]) (sX λ_ _=>LeC.nilh) ?_
 refine gK tSd 3 (eJ n (mpC λ_=>none)) rfl (by rw[eC,dE]) (sX λ_ _=>eX _) ?_
 refine gK tSd 4 ((aL n 0).map iC) rfl (by rw[aDp,eC,dE]) (by rw[aDp];exact sX λ_ _=>eX _) ?_
 refine bHe tSd 82 4 n bL (bHe tSd 1000000 1 n bL ?_)
 refine cO (λ_=>true) (λg:Nat×(Nat->Option Nat)=>st1 n g.1) (λg=>stB ⟨n,n,md⟩ n (stX (λ_=>cP) g.2 (λ_=>0) λ_=>[]) (aL n g.1)) (λg=>[LF n (stX (λ_=>cP) g.2 (λ_=>0) λ_=>[]),CF n (stX (λ_=>cP) g.2 (λ_=>0) λ_=>[])]) (λg=>g.1<=n/\(∀i,i<g.1->∃b,g.2 i=some b)/\∀i,g.1<=i->g.2 i=none) (λg=>n-g.1) λhM=>⟨bS hM (chg:=λg:Nat×(Nat->Option Nat)=>st1 n g.1) (bls:=λg=>stB ⟨n,n,md⟩ n (stX (λ_=>cP) g.2 (λ_=>0) λ_=>[]) (aL n g.1)) (fls:=λg=>[LF n (stX (λ_=>cP) g.2 (λ_=>0) λ_=>[]),CF n (stX (λ_=>cP) g.2 (λ_=>0) λ_=>[])]) (0,λ_=>none) ⟨aC _,λi hi=>absurd hi (aD _),λ_ _=>rfl⟩ rfl ⟨rfl,rfl,rfl,rfl,rfl,rfl⟩ ⟨rfl,rfl,trivial⟩ ⟨rfl,rfl,rfl,rfl⟩ bL xU rfl,λ⟨j,CA⟩ ⟨hj,hA,hN⟩=>aA gT mxd ⟨λh2=>aA gT mxd ?_,λh2=>aA gT mxd ?_⟩⟩
 all_goals
  replace hj:j<=n:=hj
  replace hA:∀i,i<j->∃b,CA i=some b:=hA
  replace hN:∀i,j<=i->CA i=none:=hN
 ·have hjn:j<n:=by replace h2:(j:Int)<(n:Nat):=h2;omega
  refine λb=>⟨j,⟨rfl,hjn,dD hjn⟩,_,iF (c:=.v (.map (some b))) (Q:=mpC (upd CA j (some b))) hjn λi _=>?_,?_⟩
  ·by_cases e:i=j
   ·subst e;rw[if_pos rfl];show _=CV.v (.map _);rw[bN]
   rw[if_neg e];show _=CV.v (.map _);rw[bD e]
  refine⟨j,⟨rfl,hjn,cCb hjn⟩,_,bSt hjn,(j+1:Nat),wi,cGe tGt 1 2 j rfl rfl rfl hjn (hN j (aJ _)) bL rfl rfl (bS hM (chg:=λg:Nat×(Nat->Option Nat)=>st1 n g.1) (bls:=λg=>stB ⟨n,n,md⟩ n (stX (λ_=>cP) g.2 (λ_=>0) λ_=>[]) (aL n g.1)) (fls:=λg=>[LF n (stX (λ_=>cP) g.2 (λ_=>0) λ_=>[]),CF n (stX (λ_=>cP) g.2 (λ_=>0) λ_=>[])]) (j+1,upd CA j (some b)) ⟨⟨hjn,λi hi=>?_,λi hi=>?_⟩,show n-(j+1)<n-j by omega⟩ rfl ⟨rfl,rfl,rfl,rfl,rfl,rfl⟩ ⟨rfl,?_,trivial⟩ ⟨rfl,rfl,rfl,rfl⟩ bL xU rfl)⟩
  ·show ∃b',upd CA j (some b) i=some b'
   by_cases e:i=j
   ·subst e;exact⟨b,bN⟩
   rw[bD e];exact hA i (by have:i<j+1:=hi;omega)
  ·show upd CA j (some b) i=none
   have hi':j+1<=i:=hi
   rw[bD oM];exact hN i oM
  show(⟨1000000,1,n,upd CA j (some b),upd (λ_=>0) j 0,upd (λ_=>[]) j []⟩:Fam)=_
  rw[bBs (f:=λ_=>(0:Nat)) rfl,bBs (f:=λ_=>([]:List CV)) rfl]
 replace h2:¬(j:Int)<(n:Nat):=h2
 obtain rfl:j=n:=by omega
 refine aA gT mxd ?_
 show Sd _ _ _ _ _ _
 refine cO (λ_=>true) (λg:Nat×(Nat->Sl EntM)×(Nat->Nat)×(Nat->List CV)=>st2 ⟨j,j,md⟩ g.1) (λg=>stB ⟨j,j,md⟩ j (stX g.2.1 CA g.2.2.1 g.2.2.2) (aL j j)) (λg=>[LF j (stX g.2.1 CA g.2.2.1 g.2.2.2),CF j (stX g.2.1 CA g.2.2.1 g.2.2.2)]) (λg=>g.1<=j/\(∀i,i<g.1->Ek (g.2.1 i).l (M i))/\KI M j g.1 0 g.2.2.2) (λg=>j-g.1) λhM2=>⟨bS hM2 (chg:=λg:Nat×(Nat->Sl EntM)×(Nat->Nat)×(Nat->List CV)=>st2 ⟨j,j,md⟩ g.1) (bls:=λg=>stB ⟨j,j,md⟩ j (stX g.2.1 CA g.2.2.1 g.2.2.2) (aL j j)) (fls:=λg=>[LF j (stX g.2.1 CA g.2.2.1 g.2.2.2),CF j (stX g.2.1 CA g.2.2.1 g.2.2.2)]) (0,λ_=>cP,λ_=>0,λ_=>[]) ⟨aC _,λi hi=>absurd hi (aD _),λi hi=>⟨rL,λr=>⟨λhr=>absurd hr dO,λhr=>by
  rcases hr with ⟨hr,_⟩|⟨_,e,he,_⟩
  ·exact absurd hr (aD _)
  cases he⟩⟩⟩ rfl ⟨rfl,rfl,rfl,rfl,rfl,rfl⟩ ⟨rfl,rfl,trivial⟩ ⟨rfl,rfl,rfl,rfl,rfl⟩ bL xU rfl,λ⟨i,R,Cc,I⟩ ⟨hi,hR,hI⟩=>aA gT mxd ⟨λh3=>aA gT mxd ?_,λh3=>aA gT mxd ?_⟩⟩
 all_goals
  replace hi:i<=j:=hi
  replace hR:∀k,k<i->Ek (R k).l (M k):=hR
  replace hI:KI M j i 0 I:=hI
 ·replace h3:(i:Int)<(md.l.length:Nat):=h3
  have hin:i<j:=by omega
  have hes:=h.row i hin
  have hok:=h.ok i hin
  have hle:(md.l.getD i cP).l.length=(M i).length:=hes.ln
  refine⟨i,⟨rfl,show i<md.l.length by omega⟩,cCc,by kernel_rfl,[],bIh (md.l.getD i cP) hes (hb i hin) h1 hB hok.1.1 (λe he=>(hok.1.2 e he).2.2) oM,rfl,rfl,rfl,λg hg=>⟨rfl,i,⟨rfl,hin,dD hin⟩,_,iF (c:=cF g) (Q:=λk=>cF (upd R i g k)) hin (λk _=>?_),?_⟩⟩
  ·by_cases e:k=i
   ·subst e;rw[if_pos rfl,bN]
   rw[if_neg e,bD e]
  show Sd _ _ _ _ _ _
  refine cO (λ_=>true) (λg':Nat×(Nat->Nat)×(Nat->List CV)=>st3 ⟨j,j,md⟩ i g'.1) (λg'=>stB ⟨j,j,md⟩ j (stX (upd R i g) CA g'.2.1 g'.2.2) (aL j j)) (λg'=>[LF j (stX (upd R i g) CA g'.2.1 g'.2.2),CF j (stX (upd R i g) CA g'.2.1 g'.2.2)]) (λg'=>g'.1<=(M i).length/\KI M j i g'.1 g'.2.2) (λg'=>(M i).length-g'.1) λhM3=>⟨bS hM3 (chg:=λg':Nat×(Nat->Nat)×(Nat->List CV)=>st3 ⟨j,j,md⟩ i g'.1) (bls:=λg'=>stB ⟨j,j,md⟩ j (stX (upd R i g) CA g'.2.1 g'.2.2) (aL j j)) (fls:=λg'=>[LF j (stX (upd R i g) CA g'.2.1 g'.2.2),CF j (stX (upd R i g) CA g'.2.1 g'.2.2)]) (0,Cc,I) ⟨aC _,hI⟩ rfl ⟨rfl,rfl,rfl,rfl,rfl,rfl⟩ ⟨rfl,rfl,trivial⟩ ⟨rfl,rfl,rfl,rfl,rfl,rfl,rfl,rfl,rfl⟩ bL xU rfl,λ⟨k,Cc,I⟩ ⟨hk,hI⟩=>aA gT mxd ⟨λh4=>aA gT mxd ?_,λh4=>aA gT mxd ?_⟩⟩
  all_goals
   replace hk:k<=(M i).length:=hk
   replace hI:KI M j i k I:=hI
  ·replace h4:(k:Int)<((md.l.getD i cP).l.length:Nat):=h4
   have hkl:k<(M i).length:=by omega
   have he:=hes.e k hkl
   have e0:=hok.1.2 _ (fX hkl)
   obtain⟨j0,hj0⟩:∃j0:Nat,((M i).getD k default).1=(j0:Nat):=⟨((M i).getD k default).1.toNat,by omega⟩
   have hjn:j0<j:=by omega
   have hix:((md.l.getD i cP).l.getD k default).ix=(j0:Nat):=he.1.trans hj0
   obtain⟨b,hbj⟩:=hA j0 hjn
   have hcell:(eJ j (mpC CA))[j0*1]? =some (.v (.map (some b))):=by rw[eZ hjn];exact congrArg (λo=>some (CV.v (.map o))) hbj
   refine⟨k,⟨rfl,show k<(md.l.getD i cP).l.length by omega⟩,cCd,by kernel_rfl,j0,⟨hix,hjn,dD hjn⟩,_,_,⟨hcell,rfl⟩,1,j0,i,⟨hjn,hbj,rfl⟩,(k+1:Nat),wi,?_⟩
   exact bS hM3 (chg:=λg':Nat×(Nat->Nat)×(Nat->List CV)=>st3 ⟨j,j,md⟩ i g'.1) (bls:=λg'=>stB ⟨j,j,md⟩ j (stX (upd R i g) CA g'.2.1 g'.2.2) (aL j j)) (fls:=λg'=>[LF j (stX (upd R i g) CA g'.2.1 g'.2.2),CF j (stX (upd R i g) CA g'.2.1 g'.2.2)]) (k+1,upd Cc j0 (vN (I j0) (Cc j0) i).2,upd I j0 (vN (I j0) (Cc j0) i).1) ⟨⟨hkl,hI.next hkl hj0⟩,show(M i).length-(k+1)<(M i).length-k by omega⟩ rfl ⟨rfl,rfl,rfl,rfl,rfl,rfl⟩ ⟨rfl,rfl,trivial⟩ ⟨rfl,rfl,rfl,rfl,rfl,rfl,rfl,rfl,rfl⟩ bL xU rfl
  replace h4:¬(k:Int)<((md.l.getD i cP).l.length:Nat):=h4
  obtain rfl:k=(M i).length:=by omega
  refine⟨(i+1:Nat),wi,bS hM2 (chg:=λg:Nat×(Nat->Sl EntM)×(Nat->Nat)×(Nat->List CV)=>st2 ⟨j,j,md⟩ g.1) (bls:=λg=>stB ⟨j,j,md⟩ j (stX g.2.1 CA g.2.2.1 g.2.2.2) (aL j j)) (fls:=λg=>[LF j (stX g.2.1 CA g.2.2.1 g.2.2.2),CF j (stX g.2.1 CA g.2.2.1 g.2.2.2)]) (i+1,upd R i g,Cc,I) ⟨⟨hin,λk' hk'=>?_,hI.row hok.1⟩,show j-(i+1)<j-i by omega⟩ rfl ⟨rfl,rfl,rfl,rfl,rfl,rfl⟩ ⟨rfl,rfl,trivial⟩ ⟨rfl,rfl,rfl,rfl,rfl⟩ bL xU rfl⟩
  show Ek (upd R i g k').l (M k')
  by_cases e:k'=i
  ·subst e;rw[bN];exact hg
  rw[bD e];exact hR k' (by have:k'<i+1:=hk';omega)
 replace h3:¬(i:Int)<(md.l.length:Nat):=h3
 obtain rfl:i=j:=by omega
 refine aA gT mxd ?_
 exact⟨stX R CA Cc I,⟨hR,h.ok,λ_ _=>⟨rfl,λk hk=>absurd hk (aD _)⟩,hA,λc hc=>(hI c hc).1,λc hc r=>by
  rw[(hI c hc).2 r]
  refine⟨λhr=>?_,λ⟨⟨a,_⟩,b⟩=> .inl ⟨a,b⟩⟩
  rcases hr with ⟨a,b⟩|⟨_,e,he,_⟩
  ·exact⟨⟨a,id⟩,b⟩
  cases he⟩,kD rfl ⟨rfl,rfl,rfl,rfl,rfl,rfl⟩ ⟨rfl,rfl,trivial⟩ bL xU rfl bSu⟩
theorem cCe {P:Program} {nb N:Nat} {c:Code} {K:Kt} {s:SS} (id:Nat) {σ:Type} (S:σ->SS) (C:σ->Prop) (h:Sd P nb N c ⟨K.nrm,λj s'=>bif Nat.beq j id then Gt nb s' S C else K.ext j s',K.ret⟩ s) (hr:∀g,C g->K.ext id (S g)):Sd P nb N c K s:=λρ0 w0 ρ f w Q hL hD=>by
 refine h ρ0 w0 ρ f w Q ⟨hL.nrm,λj s' ρ' f' w' hh hD'=>?_,hL.ret⟩ hD
 cases hb:Nat.beq j id with
 |false=>simp only[hb,cond_false] at hh;exact hL.ext j s' ρ' f' w' hh hD'
 |true=>
  simp only[hb,cond_true] at hh
  obtain⟨g,ρ2,h1,h2⟩:=hh ρ0 w0 ρ' f' w' hD'
  have e:=aF hb
  subst e
  exact hL.ext j _ ρ2 f' w' (hr g h1) h2
theorem bBt {A:List Int} {k:Nat} (h:k<A.length):(A.map iC)[k*1]? =some (iC (A.getD k 0)):=by rw[bU,eQ,aE h,gd h];rfl
theorem bBu {A:List Int} {k:Nat} (h:k<A.length):k*1<(A.map iC).length:=by simpa using h
theorem zF {n c b:Nat} {CA:Nat->Option Nat} (hc:c<n) (hb:CA c=some b):(eJ n (mpC CA))[c*1]? =some (.v (.map (some b))):=by rw[eZ hc];exact congrArg (λo=>some (CV.v (.map o))) hb
abbrev cnB (n a:Nat) (x:El) (A:List Int):BL:=[(155,0,[.p 1 0]),elE 2 3 4 5 n a,elR n x,elL n x,elC n x,elA A]
theorem bSv {n a:Nat} {x:El} {A:List Int}:scB 6 (cnB n a x A):=aB rfl (aB rfl (aB (bT (aZ λ_ _=>rfl)) (aB (bT (aZ λ_ _=>rfl)) (aB (bT (aZ λ_ _=>rfl)) (aB (bT (cJ _)) aY)))))
abbrev cnL:List Bool:=[false,false,true,true,true,true]
theorem bBv {n a:Nat} {x:El} {A:List Int}:ClB cnL (cnB n a x A):=fL (λh=>by cases h) (fL (λh=>by cases h) (fL (λ_=>aZ λ_ _=>rfl) (fL (λ_=>aZ λ_ _=>rfl) (fL (λ_=>aZ λ_ _=>rfl) (fL (λ_=>cJ _) aAy)))))
abbrev aBo:FuncId:=177
theorem bIs:Ent Tryz.prog aBo:=aW func177 rfl kR
theorem bIt:Tryz.prog.funcs[aBo]? =some Tryz.f177:=func177
theorem aBp (x:El) {n c b k:Nat} {A:List Int} (hk:k<A.length) (hA:A.getD k 0=(c:Nat)) (hc:c<n) (hb:x.CA c=some b):CtrF Tryz.prog aBo cnL [.c (iC k),.c (.p 0 0)] (cnB n A.length x A) [CF n x] (λ_:Unit=>⟨.c (iC (x.I c).length),cnB n A.length x A,[CF n x],True⟩):=by
 refine nZ gT bIs bIt rfl rfl rfl bL bBv (aA gT mxd ?_)
 refine⟨.seq (sq 99 (List.range 15)),by kernel_rfl,k,⟨rfl,hk,bBu hk⟩,_,bBt hk,c,⟨hA,hc,dD hc⟩,_,zF hc hb,0,c,⟨hc,hb⟩,(),trivial,kD rfl ⟨rfl,rfl,rfl,rfl,rfl,rfl⟩ ⟨rfl,trivial⟩ bL bSv rfl bBv⟩
abbrev chB (n a:Nat) (x:El) (A:List Int):BL:=[elE 1 2 3 4 n a,elR n x,elL n x,elC n x,elA A]
abbrev aBa (n a:Nat) (x:El) (A:List Int):BL:=[elE 1 2 3 4 n a,elR n x,elL n x,elC n x,elA A,(155,0,[.p 0 0])]
abbrev chL:List Bool:=[false,true,true,true,true]
theorem aDq {n a:Nat} {x:El} {A:List Int}:ClB chL (chB n a x A):=fL (λh=>by cases h) (fL (λ_=>aZ λ_ _=>rfl) (fL (λ_=>aZ λ_ _=>rfl) (fL (λ_=>aZ λ_ _=>rfl) (fL (λ_=>cJ _) aAy))))
theorem aOu {n a:Nat} {x:El} {A:List Int}:scB 5 (chB n a x A):=aB rfl (aB (bT (aZ λ_ _=>rfl)) (aB (bT (aZ λ_ _=>rfl)) (aB (bT (aZ λ_ _=>rfl)) (aB (bT (cJ _)) aY))))
theorem uM {n a:Nat} {x:El} {A:List Int}:scB 6 (aBa n a x A):=aB rfl (aB (bT (aZ λ_ _=>rfl)) (aB (bT (aZ λ_ _=>rfl)) (aB (bT (aZ λ_ _=>rfl)) (aB (bT (cJ _)) (aB rfl aY)))))
abbrev zG:FuncId:=114
theorem bBw:Ent Tryz.prog zG:=aW func114 rfl kR
theorem bBx:Tryz.prog.funcs[zG]? =some Tryz.f114:=func114
abbrev aOv (best:Nat):List (Nat×DV):=[(5,.c (iC best)),(6,.c (.f aBo [] [(5,0)])),(1,.c (.p 5 0))]
abbrev bIu (r0:Nat) (c:Nat) (ro:Int):List (Nat×DV):=[(2,.c (iC ro)),(66,.c (.hp r0 0)),(1,.c (.p 5 0)),(3,.c (iC c))]
abbrev itF (r0:Nat) (G:Nat->List CV):Fam:=⟨1000001,1,1,λ_=>some r0,λ_=>0,G⟩
def cCf:Ord:=.treeX [] [0,1,2002,2003,4,2005,2006,7,2008,2009,10,2011,2012,2013] (trS [14,2015,2016,1017])
theorem bSw {A:List Int} {p:Nat} (h:p<A.length):(A.map iC).take (p*1)++(A.map iC).drop ((p+1)*1)=(A.eraseIdx p).map iC:=by
 rw[bU,bU,oQ,cH,tA,oY]
def chR (n:Nat) (x:El) (A:List Int):Option (Nat×Nat×Nat)->OutF
 |none=>⟨.t [.c (iC 0),.c (iC 0),.c (.v (.bool false))],chB n A.length x A,[CF n x],∃c:Nat,c<n/\(c:Int)∈A/\x.I c=[]⟩
 |some (r,c,p)=>⟨.t [.c (iC r),.c (iC c),.c (.v (.bool true))],chB n (A.length-1) x (A.eraseIdx p),[CF n x],(p<A.length/\A.getD p 0=(c:Nat))/\c<n/\r∈jN (x.I c)⟩
theorem bBz (x:El) {n:Nat} {A:List Int} {es lw:Nat->List En} {used:Nat->Prop} (h:ElOk x n es lw used) (h0:0<A.length) (hl:A.length<=4096) (hA:∀a∈A,0<=a/\a<(n:Nat)):CtrF Tryz.prog zG chL [.c (.p 0 0)] (chB n A.length x A) [CF n x] (chR n x A):=by
 have hin:∀k,k<A.length->∃c,A.getD k 0=(c:Nat)/\c<n/\∃b,x.CA c=some b:=λk hk=>by
  have hm:A.getD k 0∈A:=by rw[gd hk];exact kO hk
  have h2:=hA _ hm
  obtain⟨c,hc⟩:∃c:Nat,A.getD k 0=(c:Nat):=⟨(A.getD k 0).toNat,by omega⟩
  have hcn:c<n:=by omega
  exact⟨c,hc,hcn,h.ca c hcn⟩
 refine nZ gT bBw bBx rfl rfl rfl bL aDq (aA gT mxd ?_)
 show Sd _ _ _ _ _ _
 refine cCe 0 (σ:=Nat) (λbest=>⟨aOv best++[],[],aBa n A.length x A,[CF n x]⟩) (λbest=>best<A.length) ?_ (λbest hb=>?_)
 ·refine cO (λ_=>true) (λg:Nat×Nat=>(15,.c (iC g.1))::(14,.c (iC (A.length:Nat)))::aOv g.2) (λ_=>aBa n A.length x A) (λ_=>[CF n x]) (λg=>g.1<=A.length/\g.2<A.length) (λg=>A.length-g.1) λhM=>⟨bS hM (chg:=λg:Nat×Nat=>(15,.c (iC g.1))::(14,.c (iC (A.length:Nat)))::aOv g.2) (bls:=λ_=>aBa n A.length x A) (fls:=λ_=>[CF n x]) (0,0) ⟨aC _,h0⟩ rfl ⟨rfl,rfl,rfl,rfl,rfl,rfl⟩ ⟨rfl,trivial⟩ ⟨rfl,rfl,rfl,rfl,rfl⟩ bL uM rfl,λ⟨k,best⟩ ⟨hk,hb⟩=>aA gT mxd ⟨λh2=>aA gT mxd ?_,λh2=>aA gT mxd ?_⟩⟩
  all_goals
   replace hk:k<=A.length:=hk
   replace hb:best<A.length:=hb
  ·have hkl:k<A.length:=by replace h2:(k:Int)<(A.length:Nat):=h2;omega
   obtain⟨c,c1,c2,b,c3⟩:=hin k hkl
   obtain⟨d,d1,d2,e,d3⟩:=hin best hb
   refine⟨_,rfl,[5,0,1,2,3,4,1000],aBp x hkl c1 c2 c3,rfl,rfl,rfl,λ_ _=>⟨_,rfl,[5,0,1,2,3,4,1000],aBp x hb d1 d2 d3,rfl,rfl,rfl,λ_ _=>?_⟩⟩
   refine vjn (λ_=>true) (λb':Nat=>(15,.c (iC k))::(14,.c (iC (A.length:Nat)))::aOv b') (λ_=>aBa n A.length x A) (λb'=>b'<A.length) ?_
   refine⟨⟨λh3=>aA gT mxd ⟨k,hkl,rfl,rfl,rfl,rfl,rfl,rfl,rfl⟩,λh3=>aA gT mxd ⟨best,hb,rfl,rfl,rfl,rfl,rfl,rfl,rfl⟩⟩,λb' hb'=>?_⟩
   obtain⟨f,f1,f2,g,f3⟩:=hin b' hb'
   refine⟨_,rfl,[5,0,1,2,3,4,1000],aBp x hb' f1 f2 f3,rfl,rfl,rfl,λ_ _=>⟨λh4=>aA gT mxd ?_,λh4=>aA gT mxd ⟨(k+1:Nat),wi,?_⟩⟩⟩
   ·show Gt _ _ _ _
    exact bS (M:=λ_=>true) (base:=[]) (λt d ht=>by cases ht) (chg:=aOv) (bls:=λ_=>aBa n A.length x A) (fls:=λ_=>[CF n x]) b' hb' rfl ⟨rfl,rfl,rfl,rfl,rfl,rfl⟩ ⟨rfl,trivial⟩ ⟨rfl,rfl,rfl⟩ bL uM rfl
   exact bS hM (chg:=λg:Nat×Nat=>(15,.c (iC g.1))::(14,.c (iC (A.length:Nat)))::aOv g.2) (bls:=λ_=>aBa n A.length x A) (fls:=λ_=>[CF n x]) (k+1,b') ⟨⟨hkl,hb'⟩,show A.length-(k+1)<A.length-k by omega⟩ rfl ⟨rfl,rfl,rfl,rfl,rfl,rfl⟩ ⟨rfl,trivial⟩ ⟨rfl,rfl,rfl,rfl,rfl⟩ bL uM rfl
  show Gt _ _ _ _
  exact bS (M:=λ_=>true) (base:=[]) (λt d ht=>by cases ht) (chg:=aOv) (bls:=λ_=>aBa n A.length x A) (fls:=λ_=>[CF n x]) best hb rfl ⟨rfl,rfl,rfl,rfl,rfl,rfl⟩ ⟨rfl,trivial⟩ ⟨rfl,rfl,rfl⟩ bL uM rfl
 replace hb:best<A.length:=hb
 obtain⟨c,c1,c2,b,c3⟩:=hin best hb
 refine aA gT mxd ⟨_,rfl,[5,0,1,2,3,4,1000],aBp x hb c1 c2 c3,rfl,rfl,rfl,λ_ _=>⟨λh5=>aA gT mxd ⟨none,⟨c,c2,by rw[<-c1,gd hb];exact kO hb,kQ.1 (by replace h5:((x.I c).length:Int)=0:=h5;omega)⟩,kD ⟨rfl,rfl,rfl⟩ ⟨rfl,rfl,rfl,rfl,rfl⟩ ⟨rfl,trivial⟩ bL aOu rfl aDq⟩,λh5=>aA gT mxd ?_⟩⟩
 replace h5:¬((x.I c).length:Int)=0:=h5
 have w1:best*1<=(A.map iC).length:=by rw[aU];omega
 have w2:A.length*1<=(A.map iC).length:=by rw[aU];omega
 have w3:(best+1)*1+(A.length-(best+1))*1=(A.map iC).length:=by rw[aU];omega
 have w4:best*1+(A.length-(best+1))*1<=(A.map iC).length:=by rw[aU];omega
 have w5:0<(A.map iC).length:=by rw[aU];omega
 refine⟨best,⟨rfl,hb,bBu hb⟩,_,(bBt hb).trans (congrArg (λz=>some (iC z)) c1),?_⟩
 refine⟨cCf,by kernel_rfl,best,⟨rfl,w1⟩,(best+1:Nat),wi,best+1,⟨rfl,hb,w2⟩,?_⟩
 refine⟨⟨w3,w4,w5⟩,rfl,?_⟩
 refine⟨c,⟨rfl,c2,dD c2⟩,_,zF c2 c3,0,c,⟨c2,c3⟩,λr0=>?_⟩
 show Sd _ _ _ _ _ _
 have hne:x.I c≠[]:=λhe=>h5 (by rw[he];rfl)
 have ha1:best+(A.length-(best+1))=A.length-1:=by omega
 have kin:∀k∈x.I c,nA k<n:=λk hk=>((h.mem c c2 (nA k)).1 (cB.2 ⟨k,hk,rfl⟩)).1.1
 refine cO (λ_=>true) (λg:Int×(Nat->List CV)×Nat×(Nat->List CV)=>bIu r0 c g.1) (λ_=>aBa n (A.length-1) x (A.eraseIdx best)) (λg=>[CF n x,itF r0 g.2.2.2]) (λg=>(g.2.1 1=x.I c/\g.2.2.1<=x.Cc c/\g.2.2.2 0=[.r none 0 b g.2.2.1 g.2.1]/\∀k∈g.2.1 0,k∈x.I c)/\(0<=g.1->∃r:Nat,g.1=(r:Nat)/\r∈jN (x.I c))/\(0<=g.1\/g.2.1 0=x.I c)) (λg=>(g.2.1 0).length) λhM2=>⟨bS hM2 (chg:=λg:Int×(Nat->List CV)×Nat×(Nat->List CV)=>bIu r0 c g.1) (bls:=λ_=>aBa n (A.length-1) x (A.eraseIdx best)) (fls:=λg=>[CF n x,itF r0 g.2.2.2]) (-1,aNc (x.I c),x.Cc c,λ_=>[.r none 0 b (x.Cc c) (aNc (x.I c))]) ⟨⟨rfl,aJ _,rfl,λk hk=>hk⟩,λhh=>absurd (show(0:Int)<=-1 from hh) dC,.inr rfl⟩ rfl ⟨congrArg (λk=>elE 1 2 3 4 n k) ha1,rfl,rfl,rfl,congrArg (λl:List CV=>((3,1,l):TypeId×Nat×List CV)) (bSw hb),rfl⟩ ⟨rfl,rfl,trivial⟩ ⟨rfl,rfl,rfl,rfl⟩ bL uM rfl,λ⟨ro,gg,st,G⟩ ⟨⟨i1,i2,iG,i3⟩,hro,hex⟩=>aA gT mxd ⟨1,0,c,b,st,gg,⟨bL,rfl,iG,c2,c3,i1,i2⟩,λh6=>?_,λp k q h6=>?_⟩⟩
 all_goals
  replace i1:gg 1=x.I c:=i1
  replace i2:st<=x.Cc c:=i2
  replace iG:G 0=[.r none 0 b st gg]:=iG
  replace i3:∀k∈gg 0,k∈x.I c:=i3
  replace hro:0<=ro->∃r:Nat,ro=(r:Nat)/\r∈jN (x.I c):=hro
  replace hex:0<=ro\/gg 0=x.I c:=hex
 ·have h7:0<=ro:=hex.resolve_right λhe=>hne (he.symm.trans h6)
  obtain⟨r,rfl,hr⟩:=hro h7
  exact aA gT mxd ⟨some (r,c,best),⟨⟨hb,c1⟩,c2,hr⟩,kD ⟨rfl,rfl,rfl⟩ ⟨rfl,rfl,rfl,rfl,rfl⟩ ⟨rfl,trivial⟩ bL aOu rfl aDq⟩
 have hk:k∈x.I c:=i3 k (by rw[h6];exact dL _ (.head _))
 have hkn:=kin k hk
 have hmea:(p++q).length<(gg 0).length:=by rw[h6];simp
 have hsub:∀k'∈p++q,k'∈x.I c:=λk' hk'=>i3 k' (by
  rw[h6]
  rcases aV.1 hk' with hh|hh
  ·exact dB _ hh
  exact dL _ (.tail _ hh))
 have hrr:¬ro<0->ro=(ro.toNat:Nat)/\ro.toNat<n:=λhn=>by
  obtain⟨r,rfl,hr⟩:=hro oM
  refine⟨rfl,?_⟩
  obtain⟨k',hk',rfl⟩:=cB.1 hr
  exact kin k' hk'
 have hG':upd G 0 [CV.r none 0 b (x.Cc c) (yN p q (x.I c) k)] 0=[CV.r none 0 b (x.Cc c) (yN p q (x.I c) k)]:=bN
 refine⟨1,0,c,b,k,yN p q (x.I c) k,⟨bL,rfl,hG',c2,c3,rfl,hk⟩,?_⟩
 refine⟨.seq (sq 99 (List.range 45)),by kernel_rfl,nA k,λ_=>⟨rfl,hkn,dD hkn⟩,_,λ_=>eZ hkn,ro.toNat,λhq=>⟨(hrr hq).1,(hrr hq).2,dD (hrr hq).2⟩,cF (x.R ro.toNat),λhq=>eZ (hrr hq).2,nA k,λ_=>⟨rfl,hkn,dD hkn⟩,_,λ_=>eZ hkn,ro.toNat,λhq=>⟨(hrr λhn=>hq (.inl hn)).1,(hrr λhn=>hq (.inl hn)).2,dD (hrr λhn=>hq (.inl hn)).2⟩,cF (x.R ro.toNat),λhq=>eZ (hrr λhn=>hq (.inl hn)).2,?_⟩
 refine⟨λh8=>aA gT mxd ?_,λh8=>aA gT mxd ?_⟩
 ·exact bS hM2 (chg:=λg:Int×(Nat->List CV)×Nat×(Nat->List CV)=>bIu r0 c g.1) (bls:=λ_=>aBa n (A.length-1) x (A.eraseIdx best)) (fls:=λg=>[CF n x,itF r0 g.2.2.2]) ((nA k:Nat),yN p q (x.I c) k,x.Cc c,upd G 0 [.r none 0 b (x.Cc c) (yN p q (x.I c) k)]) ⟨⟨⟨rfl,aJ _,hG',hsub⟩,λ_=>⟨nA k,rfl,cB.2 ⟨k,hk,rfl⟩⟩,.inl (Int.natCast_nonneg _)⟩,hmea⟩ rfl ⟨rfl,rfl,rfl,rfl,rfl,rfl⟩ ⟨rfl,rfl,trivial⟩ ⟨rfl,rfl,rfl,rfl⟩ bL uM rfl
 have h9:0<=ro:=rF.1 λhn=>h8 (.inl (.inl hn))
 exact bS hM2 (chg:=λg:Int×(Nat->List CV)×Nat×(Nat->List CV)=>bIu r0 c g.1) (bls:=λ_=>aBa n (A.length-1) x (A.eraseIdx best)) (fls:=λg=>[CF n x,itF r0 g.2.2.2]) (ro,yN p q (x.I c) k,x.Cc c,upd G 0 [.r none 0 b (x.Cc c) (yN p q (x.I c) k)]) ⟨⟨⟨rfl,aJ _,hG',hsub⟩,hro,.inl h9⟩,hmea⟩ rfl ⟨rfl,rfl,rfl,rfl,rfl,rfl⟩ ⟨rfl,rfl,trivial⟩ ⟨rfl,rfl,rfl,rfl⟩ bL uM rfl
abbrev El.maps (x:El) (I:Nat->List CV):El:=⟨x.R,x.LA,x.Lc,x.L,x.CA,x.Cc,I⟩
def DI (ps:List En) (n i k:Nat) (I0 I:Nat->List CV):Prop:=∀j,j<n->((jN (I0 j)).Nodup->(jN (I j)).Nodup)/\∀r,r∈jN (I j)↔r∈jN (I0 j)/\¬(r=i/\∃e∈ps.take k,e.1=(j:Nat))
theorem aAd {α:Type} [Inhabited α] {l:List α} {k:Nat} (h:k<l.length):l.take (k+1)=l.take k++[l.getD k default]:=by rw[dU,aE h,gd h];rfl
theorem bIv {ps:List En} {k:Nat} {j j0:Nat} (hk:k<ps.length) (hj:(ps.getD k default).1=(j0:Nat)):(∃e∈ps.take (k+1),e.1=(j:Nat))↔(∃e∈ps.take k,e.1=(j:Nat))\/j=j0:=by
 rw[aAd hk]
 constructor
 ·rintro⟨e,he,h⟩
  rcases aV.1 he with he|he
  ·exact .inl ⟨e,he,h⟩
  rw[aI.1 he,hj] at h;exact .inr (iU h).symm
 rintro(⟨e,he,h⟩|rfl)
 ·exact⟨e,dB _ he,h⟩
 exact⟨_,dL _ (.head _),hj⟩
theorem DI.start {ps:List En} {n i:Nat} {I:Nat->List CV}:DI ps n i 0 I I:=λj _=>⟨id,λr=>⟨λh=>⟨h,λ⟨_,e,he,_⟩=>by cases he⟩,λh=>h.1⟩⟩
theorem DI.next {ps:List En} {n i k j0:Nat} {I0 I:Nat->List CV} (h:DI ps n i k I0 I) (hk:k<ps.length) (hj:(ps.getD k default).1=(j0:Nat)):DI ps n i (k+1) I0 (upd I j0 (aAx (I j0) i)):=λj hjn=>by
 obtain⟨h1,h2⟩:=h j hjn
 by_cases e:j=j0
 ·subst e
  rw[bN]
  refine⟨λhn=>bSs (h1 hn),λr=>?_⟩
  rw[bIn,h2 r,bIv hk hj]
  constructor
  ·rintro⟨⟨h3,h4⟩,h5⟩;exact⟨h3,λ⟨h6,_⟩=>h5 h6⟩
  rintro⟨h3,h4⟩;exact⟨⟨h3,λ⟨h5,h6⟩=>h4 ⟨h5,.inl h6⟩⟩,λh5=>h4 ⟨h5,.inr rfl⟩⟩
 rw[bD e]
 refine⟨h1,λr=>?_⟩
 rw[h2 r,bIv hk hj]
 exact and_congr_right λ_=>not_congr (and_congr_right λ_=>⟨.inl,λh=>h.elim id λh=>absurd h e⟩)
abbrev lvB (n a:Nat) (x:El) (A:List Int) (pv:Sl EntM):BL:=[(65,0,[cF pv]),(155,0,[.p 2 0]),elE 3 4 5 6 n a,elR n x,elL n x,elC n x,elA A]
theorem aOw {n a:Nat} {x:El} {A:List Int} {pv:Sl EntM}:scB 7 (lvB n a x A pv):=aB rfl (aB rfl (aB rfl (aB (bT (aZ λ_ _=>rfl)) (aB (bT (aZ λ_ _=>rfl)) (aB (bT (aZ λ_ _=>rfl)) (aB (bT (cJ _)) aY))))))
abbrev lvL:List Bool:=[true,false,false,true,true,true,true]
theorem bCa {n a:Nat} {x:El} {A:List Int} {pv:Sl EntM}:ClB lvL (lvB n a x A pv):=fL (λ_ c hc=>by rw[aI.1 hc];rfl) (fL (λh=>by cases h) (fL (λh=>by cases h) (fL (λ_=>aZ λ_ _=>rfl) (fL (λ_=>aZ λ_ _=>rfl) (fL (λ_=>aZ λ_ _=>rfl) (fL (λ_=>cJ _) aAy))))))
abbrev zH:FuncId:=178
theorem bIw:Ent Tryz.prog zH:=aW func178 rfl kR
theorem bIx:Tryz.prog.funcs[zH]? =some Tryz.f178:=func178
abbrev lvG (pv:Sl EntM) (i k:Nat):List (Nat×DV):=[(8,.c (iC k)),(6,.c (cF pv)),(7,.c (iC (pv.l.length:Nat))),(0,.c (iC i)),(2,.c (.p 1 0))]
def oLv:Ord:=.treeX [] [0,2001,2002,3,2004,5,2006,1007,2008] (trS [1009])
theorem aSd (x:El) (pv:Sl EntM) {ps:List En} {n i:Nat} {A:List Int} (hp:Ek pv.l ps) (hv:VOk ps (n:Nat)) (hl:ps.length<=n) (hn:n<=4096) (ca:∀j,j<n->∃b,x.CA j=some b):CtrF Tryz.prog zH lvL [.c (iC i),.c (.p 0 0),.c (.p 1 0)] (lvB n A.length x A pv) [CF n x] (λI:Nat->List CV=>⟨.t [],lvB n A.length x A pv,[CF n (x.maps I)],DI ps n i ps.length x.I I⟩):=by
 have hln:=hp.ln
 refine nZ gT bIw bIx rfl rfl rfl bL bCa (aA gT mxd ?_)
 show Sd _ _ _ _ _ _
 refine cO (λ_=>true) (λg:Nat×(Nat->List CV)=>lvG pv i g.1) (λ_=>lvB n A.length x A pv) (λg=>[CF n (x.maps g.2)]) (λg=>g.1<=ps.length/\DI ps n i g.1 x.I g.2) (λg=>ps.length-g.1) λhM=>⟨bS hM (chg:=λg:Nat×(Nat->List CV)=>lvG pv i g.1) (bls:=λ_=>lvB n A.length x A pv) (fls:=λg=>[CF n (x.maps g.2)]) (0,x.I) ⟨aC _,DI.start⟩ rfl ⟨rfl,rfl,rfl,rfl,rfl,rfl,rfl⟩ ⟨rfl,trivial⟩ ⟨rfl,rfl,rfl,rfl,rfl⟩ bL aOw rfl,λ⟨k,I⟩ ⟨hk,hI⟩=>aA gT mxd ⟨λh2=>aA gT mxd ?_,λh2=>aA gT mxd ?_⟩⟩
 all_goals
  replace hk:k<=ps.length:=hk
  replace hI:DI ps n i k x.I I:=hI
 ·have hkl:k<ps.length:=by replace h2:(k:Int)<(pv.l.length:Nat):=h2;omega
  have he:=hp.e k hkl
  have e0:=hv.2 _ (fX hkl)
  obtain⟨j0,hj0⟩:∃j0:Nat,(ps.getD k default).1=(j0:Nat):=⟨(ps.getD k default).1.toNat,by omega⟩
  have hjn:j0<n:=by omega
  have hix:(pv.l.getD k default).ix=(j0:Nat):=he.1.trans hj0
  obtain⟨b,hb⟩:=ca j0 hjn
  refine⟨k,⟨rfl,show k<pv.l.length by omega⟩,oLv,by kernel_rfl,j0,⟨hix,hjn,dD hjn⟩,_,_,⟨zF hjn hb,rfl⟩,0,j0,i,⟨hjn,hb,rfl⟩,(k+1:Nat),wi,?_⟩
  exact bS hM (chg:=λg:Nat×(Nat->List CV)=>lvG pv i g.1) (bls:=λ_=>lvB n A.length x A pv) (fls:=λg=>[CF n (x.maps g.2)]) (k+1,upd I j0 (aAx (I j0) i)) ⟨⟨hkl,hI.next hkl hj0⟩,show ps.length-(k+1)<ps.length-k by omega⟩ rfl ⟨rfl,rfl,rfl,rfl,rfl,rfl,rfl⟩ ⟨rfl,trivial⟩ ⟨rfl,rfl,rfl,rfl,rfl⟩ bL aOw rfl
 obtain rfl:k=ps.length:=by replace h2:¬(k:Int)<(pv.l.length:Nat):=h2;omega
 exact⟨I,hI,kD rfl ⟨rfl,rfl,rfl,rfl,rfl,rfl,rfl⟩ ⟨rfl,trivial⟩ bL aOw rfl bCa⟩
def fac (es:Nat->List En) (r c i:Nat):Rat:=Vm.get (es i) (c:Nat)*(Vm.get (es r) (c:Nat))⁻¹
structure StR (r c kk:Nat) (es lw es' lw':Nat->List En) (P:Nat->Prop):Prop where
 yes:∀i,P i->(∀j:Int,Vm.get (es' i) j=Vm.get (es i) j+(-(fac es r c i))*Vm.get (es r) j)/\lw' i=lw i++[((kk:Int),fac es r c i)]
 no:∀i,¬P i->es' i=es i/\lw' i=lw i
theorem pJ:∀{n:Nat} {l:List Nat},l.Nodup->(∀i∈l,i<n)->l.length<=n
 |0,[],_,_=>aJ _
 |0,i::l,_,h=>absurd (h i (.head _)) (aD _)
 |n+1,l,hd,h=>by
  by_cases hn:n∈l
  ·have h1:=pJ (n:=n) (hd.erase n) λi hi=>by
    have h2:=(hd.mem_erase_iff).1 hi
    have:=h i h2.2
    have:=h2.1
    omega
   rw[List.length_erase_of_mem hn] at h1
   omega
  have:=pJ (n:=n) hd λi hi=>by
   have:=h i hi
   have:i≠n:=λe=>hn (e▸hi)
   omega
  omega
theorem jY {es:List En} {n:Nat} (h:VOk es (n:Nat)):es.length<=n:=by
 have h1:(es.map λe=>e.1.toNat).Nodup:=by
  rw[cI,fN]
  exact h.1.imp_of_mem λ{a b} ha hb hab he=>by
   have:=h.2 a ha
   have:=h.2 b hb
   have:a.1<b.1:=hab
   omega
 have:=pJ (n:=n) h1 λi hi=>by
  obtain⟨e,he,rfl⟩:=cB.1 hi
  have:=h.2 e he
  omega
 rwa [aU] at this
theorem aOx {es fs rs:List En} {q:Rat} {n:Int} (h:MgR (λa b=>a+q*b) es fs rs) (he:VOk es n) (hf:VOk fs n):VOk rs n:=⟨h.a,λe hm=>by
 have hz:e.2≠0:=h.z e hm
 have hg:=h.g e.1
 rw[sF h.a hm] at hg
 by_cases h1:Vm.get es e.1=0
 ·have h2:Vm.get fs e.1≠0:=λh2=>hz (by rw[hg];show Vm.get es e.1+q*Vm.get fs e.1=0;rw[h1,h2,bZ,bM])
  obtain⟨e',he',h3⟩:=(sY hf _).1 h2
  have:=hf.2 e' he'
  rw[h3] at this
  exact⟨this.1,this.2.1,hz⟩
 obtain⟨e',he',h3⟩:=(sY he _).1 h1
 have:=he.2 e' he'
 rw[h3] at this
 exact⟨this.1,this.2.1,hz⟩⟩
theorem bMb {es fs rs:List En} {q:Rat} {B Q:Nat} (h:MgR (λa b=>a+q*b) es fs rs) (he:Asc es) (hf:Asc fs) (h1:1<=B) (be:rbE es B) (bf:rbE fs B) (hq:rb q Q):rbE rs (B+(Q+B)+1):=λe hm=>by
 have hg:=h.g e.1
 rw[sF h.a hm] at hg
 rw[hg]
 exact uL (qW he be h1) (fI hq (qW hf bf h1))
def AI (rs:List En) (n i k:Nat) (I0 I:Nat->List CV):Prop:=∀j,j<n->((jN (I0 j)).Nodup->(jN (I j)).Nodup)/\∀r,r∈jN (I j)↔r∈jN (I0 j)\/(r=i/\∃e∈rs.take k,e.1=(j:Nat))
theorem AI.start {rs:List En} {n i:Nat} {I:Nat->List CV}:AI rs n i 0 I I:=λj _=>⟨id,λr=>⟨.inl,λh=>h.elim id λ⟨_,e,he,_⟩=>by cases he⟩⟩
theorem AI.next {rs:List En} {n i k j0 c:Nat} {I0 I:Nat->List CV} (h:AI rs n i k I0 I) (hk:k<rs.length) (hj:(rs.getD k default).1=(j0:Nat)):AI rs n i (k+1) I0 (upd I j0 (vN (I j0) c i).1):=λj hjn=>by
 obtain⟨h1,h2⟩:=h j hjn
 by_cases e:j=j0
 ·subst e
  rw[bN]
  refine⟨λhn=>bBq (h1 hn),λr=>?_⟩
  rw[aSc,h2 r,bIv hk hj]
  constructor
  ·rintro(h3|h3|⟨h3,h4⟩)
   ·exact .inr ⟨h3,.inr rfl⟩
   ·exact .inl h3
   exact .inr ⟨h3,.inl h4⟩
  rintro(h3|⟨h3,_⟩)
  ·exact .inr (.inl h3)
  exact .inl h3
 rw[bD e]
 refine⟨h1,λr=>?_⟩
 rw[h2 r,bIv hk hj]
 exact or_congr_right (and_congr_right λ_=>⟨.inl,λh=>h.elim id λh=>absurd h e⟩)
theorem bCb {G:List EntM} {lw:List En} {e:EntM} {z:En} (h:Ek G lw) (h1:e.ix=z.1) (h2:Cr e.v z.2):Ek (G++[e]) (lw++[z]):=⟨by rw[aH,aH,h.ln];rfl,λk hk=>by
 rw[aH,cU] at hk
 by_cases e1:k<lw.length
 ·have e2:k<G.length:=by rw[h.ln];exact e1
  rw[List.getD,List.getD,bJ e2,bJ e1]
  exact h.e k e1
 obtain rfl:k=lw.length:=by omega
 have e2:¬lw.length<G.length:=by rw[h.ln];omega
 rw[List.getD,List.getD,cC oM,cC (aJ _),h.ln]
 simp only[kU,List.getElem?_cons_zero,Option.getD_some]
 exact⟨h1,h2⟩⟩
theorem bCc {x:El} {n r c kk i:Nat} {es' lw':Nat->List En} {used:Nat->Prop} {rs:List En} {q:Rat} {g:Sl EntM} {LA':Option Nat} {Lc':Nat} {e:EntM} {z:En} {Cc':Nat->Nat} {I1 I2:Nat->List CV}
 (h:ElOk x n es' lw' used) (hr:r<n) (hin:i<n) (hui:¬used i) (hg:Ek g.l rs) (hm:MgR (λa b=>a+q*b) (es' i) (es' r) rs) (h1:e.ix=z.1) (h2:Cr e.v z.2)
 (hD:DI (es' r) n i (es' r).length x.I I1) (hA:AI rs n i rs.length I1 I2):
 ElOk ⟨upd x.R i g,upd x.LA i LA',upd x.Lc i Lc',upd x.L i (x.L i++[e]),x.CA,Cc',I2⟩ n (upd es' i rs) (upd lw' i (lw' i++[z])) used:=by
 have hv:=aOx hm (h.ok i hin).1 (h.ok r hr).1
 refine⟨λk hk=>?_,λk hk=>?_,λk hk=>?_,h.ca,λj hj=>(hA j hj).1 ((hD j hj).1 (h.nd j hj)),λj hj k=>?_⟩
 ·show Ek (upd x.R i g k).l (upd es' i rs k)
  by_cases e:k=i
  ·subst e;rw[bN,bN];exact hg
  rw[bD e,bD e];exact h.row k hk
 ·by_cases e:k=i
  ·subst e;rw[bN];exact⟨hv,jY hv⟩
  rw[bD e];exact h.ok k hk
 ·show Ek (upd x.L i (x.L i++[e]) k) (upd lw' i (lw' i++[z]) k)
  by_cases e:k=i
  ·subst e;rw[bN,bN];exact bCb (h.low k hk) h1 h2
  rw[bD e,bD e];exact h.low k hk
 show k∈jN (I2 j)↔_
 rw[(hA j hj).2 k,(hD j hj).2 k,h.mem j hj k,cZ,cZ]
 by_cases e:k=i
 ·subst e
  rw[bN]
  have hgj:Vm.get rs (j:Nat)=Vm.get (es' k) (j:Nat)+q*Vm.get (es' r) (j:Nat):=hm.g _
  constructor
  ·rintro(⟨⟨h3,h4⟩,h5⟩|⟨_,h5⟩)
   ·have h6:Vm.get (es' r) (j:Nat)=0:=aT λh6=>h5 ⟨rfl,(sY (h.ok r hr).1 _).1 h6⟩
    rw[h6,bZ,bM] at hgj
    exact⟨h3,by rw[hgj];exact h4⟩
   exact⟨⟨hin,hui⟩,(sY hv _).2 h5⟩
  rintro⟨_,h4⟩
  exact .inr ⟨rfl,(sY hv _).1 h4⟩
 rw[bD e]
 constructor
 ·rintro(⟨h3,_⟩|⟨h3,_⟩)
  ·exact h3
  exact absurd h3 e
 intro h3;exact .inl ⟨h3,λ⟨h4,_⟩=>e h4⟩
theorem StR.next {r c kk k:Nat} {es lw es' lw':Nat->List En} {O:List Nat} {rs:List En} (h:StR r c kk es lw es' lw' (·∈O.take k)) (hk:k<O.length) (hO:O.Nodup) (hm:MgR (λa b=>a+(-(fac es r c (O.getD k 0)))*b) (es (O.getD k 0)) (es r) rs):es' (O.getD k 0)=es (O.getD k 0)/\lw' (O.getD k 0)=lw (O.getD k 0)/\StR r c kk es lw (upd es' (O.getD k 0) rs) (upd lw' (O.getD k 0) (lw (O.getD k 0)++[((kk:Int),fac es r c (O.getD k 0))])) (·∈O.take (k+1)):=by
 have ht:O.take (k+1)=O.take k++[O.getD k 0]:=by rw[dU,aE hk,gd hk];rfl
 have hno:O.getD k 0∉O.take k:=λhh=>by
  have h1:(O.take k++[O.getD k 0]).Nodup:=by rw[<-ht];exact hO.sublist (jR _ _)
  exact(jV.1 h1).2.2 _ hh _ (.head _) rfl
 obtain⟨a1,a2⟩:=h.no _ hno
 refine⟨a1,a2,λi hi=>?_,λi hi=>?_⟩
 ·by_cases e:i=O.getD k 0
  ·subst e;rw[bN,bN];exact⟨hm.g,rfl⟩
  rw[bD e,bD e]
  replace hi:i∈O.take (k+1):=hi
  rw[ht] at hi
  exact h.yes i ((aV.1 hi).resolve_right λhh=>e (aI.1 hh))
 have e:i≠O.getD k 0:=λe=>hi (by show i∈O.take (k+1);rw[ht,e];simp)
 rw[bD e,bD e]
 exact h.no i λhh=>hi (by show i∈O.take (k+1);rw[ht];exact dB _ hh)
def aDr (O:List Nat):List Int:=O.map λi:Nat=>(i:Int)
theorem bIy {O:List Nat} {k:Nat} (h:k<O.length):((aDr O).map iC)[k*1]? =some (iC (O.getD k 0:Nat)):=by
 unfold aDr
 rw[bU,mR,eQ,aE h,gd h];rfl
theorem aLj {O:List Nat}:(aDr O).length=O.length:=by unfold aDr;simp
theorem aFj {O:List Nat} {i:Nat}:(aDr O).map iC++[iC (i:Nat)]=(aDr (O++[i])).map iC:=by unfold aDr;simp
theorem aUu {O:List Nat} {p q:List CV} {k:CV} {l:List Nat} (h:(O++jN (p++k::q)).Perm l):((O++[nA k])++jN (p++q)).Perm l:=by
 refine List.Perm.trans ?_ h
 unfold jN
 rw[dF,cH,cH,eE]
 have h2:(nA k::(List.map nA p++List.map nA q)).Perm (List.map nA p++nA k::List.map nA q):=List.perm_middle.symm
 exact List.Perm.append_left _ h2
abbrev seB (n a:Nat) (x:El) (A:List Int) (pv:Sl EntM) (inv:RatM) (O:List Nat):BL:=[elE 1 2 3 4 n a,elR n x,elL n x,elC n x,elA A,(155,0,[.p 0 0]),(65,0,[cF pv]),(62,0,inv.C),(3,1,(aDr O).map iC)]
theorem aAe {n a:Nat} {x:El} {A:List Int} {pv:Sl EntM} {inv:RatM} {O:List Nat}:scB 9 (seB n a x A pv inv O):=aB rfl (aB (bT (aZ λ_ _=>rfl)) (aB (bT (aZ λ_ _=>rfl)) (aB (bT (aZ λ_ _=>rfl)) (aB (bT (cJ _)) (aB rfl (aB rfl (aB rfl (aB (bT (cJ _)) aY))))))))
theorem aDs {n a:Nat} {x:El} {A:List Int} {pv:Sl EntM} {inv:RatM} {O:List Nat} (f:RatM):scB 10 (seB n a x A pv inv O++[(62,0,f.C)]):=aB rfl (aB (bT (aZ λ_ _=>rfl)) (aB (bT (aZ λ_ _=>rfl)) (aB (bT (aZ λ_ _=>rfl)) (aB (bT (cJ _)) (aB rfl (aB rfl (aB rfl (aB (bT (cJ _)) (aB rfl aY)))))))))
abbrev seG (c kk:Nat) (r0:Nat) (l:Nat):List (Nat×DV):=[(12,.c (.s 8 l)),(44,.c (.hp r0 0)),(9,.c (.f zH [] [(6,0),(5,0)])),(4,.c (.p 5 0)),(10,.c (.p 7 0)),(8,.c (.p 6 0)),(1,.c (iC kk)),(3,.c (iC c))]
theorem ck {α:Type} {a b:α} {l m:List α} (h:a=b) (h':l=m):a::l=b::m:=by rw[h,h']
theorem ElOk.leave {x:El} {n r c:Nat} {es lw:Nat->List En} {used:Nat->Prop} {I:Nat->List CV} (h:ElOk x n es lw used) (hr:r<n) (hI:DI (es r) n r (es r).length x.I I):ElOk (x.maps I) n es lw (λi=>used i\/i=r):=
 ⟨h.row,h.ok,h.low,h.ca,λj hj=>(hI j hj).1 (h.nd j hj),λj hj i=>by
  show i∈jN (I j)↔_
  rw[(hI j hj).2 i,h.mem j hj i,cZ]
  constructor
  ·rintro⟨⟨⟨a1,a2⟩,a3⟩,a4⟩
   exact⟨⟨a1,λa=>a.elim a2 λe=>a4 ⟨e,(sY (h.ok r hr).1 _).1 (e▸a3)⟩⟩,a3⟩
  rintro⟨⟨a1,a2⟩,a3⟩
  exact⟨⟨⟨a1,λa=>a2 (.inl a)⟩,a3⟩,λ⟨e,_⟩=>a2 (.inr e)⟩⟩
def cCg:Ord:=.joinX [] [0,2001,2002,3,2004,2005,1006,2007,9] (.alt 8 (.alt 10 (trS [11,1012]) (.alt 11 (trS [10,1012]) .nil)) (.alt 11 (trS [8,10,1012]) .nil))
def cCh:Ord:=.treeX [] [0,2001,2002,3,2004,5,2006,2007,8,2009,2010,1011,2012,13,2014] (trS [15,16,2017,1018])
def cCi:Ord:=.treeX [] [0,2001,2002,3,2004,5,2006,2007,8,2009,2010,1011,12,14] (trS [13,15,2016,1017])
abbrev bCd (c kk l k:Nat):List (Nat×DV):=[(55,.c (iC k)),(53,.c (.s 8 l)),(54,.c (iC l)),(9,.c (.f zH [] [(6,0),(5,0)])),(4,.c (.p 5 0)),(10,.c (.p 7 0)),(8,.c (.p 6 0)),(1,.c (iC kk)),(3,.c (iC c))]
abbrev bIz (c kk l k i:Nat):List (Nat×DV):=(16,.c (.p 9 0))::(15,.c (iC i))::bCd c kk l k
abbrev bSx (c kk l k i:Nat) (g:Sl EntM) (k2:Nat):List (Nat×DV):=(116,.c (iC k2))::(114,.c (cF g))::(115,.c (iC (g.l.length:Nat)))::(15,.c (iC i))::bCd c kk l k
abbrev seY (y:El) (i kk:Nat) (g:Sl EntM) (A':Option Nat) (c':Nat) (f:RatM) (Cc:Nat->Nat) (I:Nat->List CV):El:=⟨upd y.R i g,upd y.LA i A',upd y.Lc i c',upd y.L i (y.L i++[⟨kk,f⟩]),y.CA,Cc,I⟩
abbrev aOy:FuncId:=115
theorem bSy:Ent Tryz.prog aOy:=aW func115 rfl kR
theorem bSz:Tryz.prog.funcs[aOy]? =some Tryz.f115:=func115
theorem bTa (x:El) {n B r c kk:Nat} {A:List Int} {es lw:Nat->List En} {used:Nat->Prop} (h:ElOk x n es lw used) (hn:n<=4096) (hr:r<n) (hu:¬used r) (hc:c<n) (hp:Vm.get (es r) (c:Nat)≠0) (hb:rbM es n B) (hbl:rbM lw n B) (h1:1<=B) (hB:B<=4398046511104) (hBo:∀i,i<n->¬used i->i≠r->4*B+1<=4398046511104) (hkk:kk<=4096) (hlw:∀i,i<n->(lw i).length<=4096):
 CtrF Tryz.prog aOy chL [.c (.p 0 0),.c (iC kk),.c (iC r),.c (iC c)] (chB n A.length x A) [LF n x,CF n x] (λg:El×(Nat->List En)×(Nat->List En)=>⟨.t [],chB n A.length g.1 A,[LF n g.1,CF n g.1],(ElOk g.1 n g.2.1 g.2.2 (λi=>used i\/i=r)/\StR r c kk es lw g.2.1 g.2.2 λi=>(i<n/\¬used i/\i≠r)/\Vm.get (es i) (c:Nat)≠0)/\rbM g.2.1 n (4*B+1)/\rbM g.2.2 n (4*B+1)⟩):=by
 have hrk:=h.row r hr
 have hro:=h.ok r hr
 have hev:=hrk.ev (hb r hr)
 obtain⟨b,hbc⟩:=h.ca c hc
 refine nZ gT bSy bSz rfl rfl rfl bL aDq (aA gT mxd ?_)
 refine⟨r,⟨rfl,hr,dD hr⟩,_,eZ hr,_,rfl,[6,5,0,1,2,3,4,1001],aSd x (x.R r) (A:=A) (i:=r) hrk hro.1 hro.2 hn h.ca,rfl,rfl,rfl,λI hI=>?_⟩
 replace hI:DI (es r) n r (es r).length x.I I:=hI
 refine⟨[],bAz (x.R r) (c:Nat) hev (hb r hr) hro.1.1 h1 oM,rfl,rfl,rfl,λpg hpg=>⟨[],bRt pg ((Cr.rq hpg (qW hro.1.1 (hb r hr) h1)).le) (qW hro.1.1 (hb r hr) h1) hp,rfl,rfl,rfl,λinv hinv=>?_⟩⟩
 replace hinv:Rq inv (Vm.get (es r) (c:Nat))⁻¹ B:=hinv
 refine⟨c,⟨rfl,hc,dD hc⟩,_,zF hc hbc,1,c,⟨hc,hbc⟩,λr0=>?_⟩
 show Sd _ _ _ _ _ _
 refine aZc tSd 12 3 1 rfl bL rfl ?_
 have cl1:∀{i:Nat},∀c∈(elR n x).2.2,mJ i c=false:=λc hc=>fC (aZ (λ_ _=>rfl) c hc)
 have cl2:∀{i:Nat},∀c∈(elL n x).2.2,mJ i c=false:=λc hc=>fC (aZ (λ_ _=>rfl) c hc)
 have cl3:∀{i:Nat},∀c∈(elC n x).2.2,mJ i c=false:=λc hc=>fC (aZ (λ_ _=>rfl) c hc)
 have cl4:∀{i:Nat},∀c∈A.map iC,mJ i c=false:=λc hc=>fC (cJ A c hc)
 have hkI:∀i,i∈jN (I c)↔(i<n/\¬used i/\i≠r)/\Vm.get (es i) (c:Nat)≠0:=λi=>by
  rw[(hI c hc).2 i,h.mem c hc i,cZ]
  constructor
  ·rintro⟨⟨⟨a1,a2⟩,a3⟩,a4⟩
   exact⟨⟨a1,a2,λe=>a4 ⟨e,(sY hro.1 _).1 hp⟩⟩,a3⟩
  rintro⟨⟨a1,a2,a4⟩,a3⟩
  exact⟨⟨⟨a1,a2⟩,a3⟩,λ⟨e,_⟩=>a4 e⟩
 have hkd:(jN (I c)).Nodup:=(hI c hc).1 (h.nd c hc)
 have hkl:(jN (I c)).length<=n:=pJ hkd λi hi=>((hkI i).1 hi).1.1
 refine cO (λ_=>true) (λg:List Nat×(Nat->List CV)×Nat×(Nat->List CV)=>seG c kk r0 g.1.length) (λg=>seB n A.length x A (x.R r) inv g.1) (λg=>[LF n x,CF n (x.maps I),itF r0 g.2.2.2]) (λg=>(g.2.1 1=I c/\g.2.2.1<=x.Cc c/\g.2.2.2 0=[.r none 0 b g.2.2.1 g.2.1])/\(g.1++jN (g.2.1 0)).Perm (jN (I c))/\∀k∈g.2.1 0,k∈I c) (λg=>(g.2.1 0).length) λhM=>⟨bS hM (chg:=λg:List Nat×(Nat->List CV)×Nat×(Nat->List CV)=>seG c kk r0 g.1.length) (bls:=λg=>seB n A.length x A (x.R r) inv g.1) (fls:=λg=>[LF n x,CF n (x.maps I),itF r0 g.2.2.2]) ([],aNc (I c),x.Cc c,λ_=>[.r none 0 b (x.Cc c) (aNc (I c))]) ⟨⟨rfl,aJ _,rfl⟩,wV _,λk hk=>hk⟩ rfl ⟨rfl,rfl,rfl,rfl,rfl,rfl,rfl,rfl,rfl⟩ ⟨rfl,rfl,rfl,trivial⟩ ⟨rfl,rfl,rfl,rfl,rfl,rfl,rfl,rfl⟩ bL aAe rfl,λ⟨O,gg,st,G⟩ ⟨⟨i1,i2,iG⟩,hO,hg0⟩=>aA gT mxd ⟨2,1,c,b,st,gg,⟨bL,rfl,iG,hc,hbc,i1,i2⟩,λh6=>?_,λp k q h6=>?_⟩⟩
 all_goals
  replace i1:gg 1=I c:=i1
  replace i2:st<=x.Cc c:=i2
  replace iG:G 0=[.r none 0 b st gg]:=iG
  replace hO:(O++jN (gg 0)).Perm (jN (I c)):=hO
  replace hg0:∀k∈gg 0,k∈I c:=hg0
  have hOl:O.length+(gg 0).length<=n:=by
   have:=hO.length_eq
   rw[aH,aU] at this
   omega
 ·have hOk:O.Perm (jN (I c)):=by
   have h7:=hO
   rw[h6] at h7
   simpa[jN] using h7
  have hOm:∀i,i∈O↔(i<n/\¬used i/\i≠r)/\Vm.get (es i) (c:Nat)≠0:=λi=>hOk.mem_iff.trans (hkI i)
  have hOd:O.Nodup:=hOk.nodup_iff.2 hkd
  have hE0:=h.leave (c:=c) hr hI
  refine aA gT mxd ?_
  show Sd _ _ _ _ _ _
  refine cO (λ_=>true) (λg:Nat×El×(Nat->List En)×(Nat->List En)=>bCd c kk O.length g.1) (λg=>seB n A.length g.2.1 A (x.R r) inv O) (λg=>[LF n g.2.1,CF n g.2.1]) (λg=>g.1<=O.length/\ElOk g.2.1 n g.2.2.1 g.2.2.2 (λi=>used i\/i=r)/\StR r c kk es lw g.2.2.1 g.2.2.2 (·∈O.take g.1)/\rbM g.2.2.1 n (4*B+1)/\rbM g.2.2.2 n (4*B+1)) (λg=>O.length-g.1) λhM=>⟨bS hM (chg:=λg:Nat×El×(Nat->List En)×(Nat->List En)=>bCd c kk O.length g.1) (bls:=λg=>seB n A.length g.2.1 A (x.R r) inv O) (fls:=λg=>[LF n g.2.1,CF n g.2.1]) (0,x.maps I,es,lw) ⟨aC _,hE0,⟨λi hi=>absurd hi dO,λi _=>⟨rfl,rfl⟩⟩,λi hi e he=>(hb i hi e he).le,λi hi e he=>(hbl i hi e he).le⟩ rfl ⟨rfl,rfl,rfl,rfl,rfl,rfl,rfl,rfl,rfl⟩ ⟨rfl,rfl,trivial⟩ ⟨rfl,rfl,rfl,rfl,rfl,rfl,rfl,rfl,rfl⟩ bL aAe rfl,λ⟨k,y,es',lw'⟩ ⟨hk,hE,hS,hb',hbl'⟩=>aA gT mxd ⟨λh7=>aA gT mxd ?_,λh7=>aA gT mxd ?_⟩⟩
  all_goals
   replace hk:k<=O.length:=hk
   replace hE:ElOk y n es' lw' (λi=>used i\/i=r):=hE
   replace hS:StR r c kk es lw es' lw' (·∈O.take k):=hS
   replace hb':rbM es' n (4*B+1):=hb'
   replace hbl':rbM lw' n (4*B+1):=hbl'
  ·replace h7:(k:Int)<(O.length:Nat):=h7
   have hkl:k<O.length:=by omega
   obtain⟨i,hi⟩:∃i,i=O.getD k 0:=⟨_,rfl⟩
   have hiO:i∈O:=by rw[hi,gd hkl];exact kO hkl
   obtain⟨⟨hin,hui,hir⟩,hgi⟩:=(hOm i).1 hiO
   have hB4:=hBo i hin hui hir
   have hrO:r∉O.take k:=λhh=>((hOm r).1 (dA hh)).1.2.2 rfl
   obtain⟨er,-⟩:=hS.no r hrO
   have hni:i∉O.take k:=λhh=>by
    have h1:(O.take k++[O.getD k 0]).Nodup:=by
     have ht:O.take (k+1)=O.take k++[O.getD k 0]:=by rw[dU,aE hkl,gd hkl];rfl
     rw[<-ht];exact hOd.sublist (jR _ _)
    exact(jV.1 h1).2.2 _ hh _ (by rw[hi];exact .head _) rfl
   obtain⟨ei,el⟩:=hS.no i hni
   have hrow:=hE.row i hin
   rw[ei] at hrow
   have hoi:=h.ok i hin
   have hlo:=hE.low i hin
   rw[el] at hlo
   have hli:=hlw i hin
   have hll:(y.L i).length=(lw i).length:=hlo.ln
   have hci:(eJ n λj=>cF (y.R j))[i*1]? =some (cF (y.R i)):=eZ hin
   have hci2:(eJ n (hdP y.LA y.Lc y.L))[i*1]? =some (.h (y.LA i) (y.L i).length (y.Lc i)):=eZ hin
   have rg:=qW hoi.1.1 (hb i hin) h1 (i:=(c:Nat))
   have rv:rb (Vm.get (es r) (c:Nat))⁻¹ B:=hinv.rb h1
   have rf:rb (fac es r c i) (B+B):=fI rg rv
   have cg:=bAz (y.R i) (c:Nat) (hrow.ev (hb i hin)) (hb i hin) hoi.1.1 h1 oM
   have ix1:k*1<((aDr O).map iC).length:=by rw[aU,aLj];omega
   refine⟨k,⟨rfl,hkl,ix1⟩,_,(bIy hkl).trans (by rw[<-hi]),?_⟩
   refine⟨cCg,by kernel_rfl,RatM,λf=>⟨bIz c kk O.length k i++[],[],seB n A.length y A (x.R r) inv O++[(62,0,f.C)],[LF n y,CF n y]⟩,λf=>Cr f (fac es r c i),⟨i,⟨rfl,hin,dD hin⟩,_,_,⟨hci,rfl⟩,?_⟩,λf hf=>?_⟩
   ·have cm:∀g:RatM,Cr g (Vm.get (es i) (c:Nat))->Ctr Tryz.prog aRv [] [.a g.C,.a inv.C] [] (vF (fac es r c i)):=λg hg=>pQ g inv ((Cr.rq hg rg).le) hinv.le
    exact⟨⟨[],cg,rfl,rfl,rfl,λg hg=>⟨ck rfl (ck rfl (ck rfl (ck (congrArg sU hci) (ck rfl (ck rfl rfl))))),⟨[],cm g hg,rfl,rfl,rfl,λf hf=>⟨ck rfl (ck rfl (ck rfl (ck (congrArg sU hci) (ck rfl (ck rfl rfl))))),ck rfl (ck rfl (ck rfl (ck (congrArg sU hci) (ck rfl (ck rfl rfl))))),bS hM (chg:=λ_:RatM=>bIz c kk O.length k i) (bls:=λf=>seB n A.length y A (x.R r) inv O++[(62,0,f.C)]) (fls:=λ_=>[LF n y,CF n y]) f hf rfl ⟨rfl,rfl,rfl,rfl,rfl,rfl,rfl,rfl,rfl,rfl⟩ ⟨rfl,rfl,trivial⟩ ⟨rfl,rfl,rfl,rfl,rfl,rfl,rfl,rfl,rfl,rfl,rfl⟩ bL (aDs f) rfl⟩⟩,ck rfl (ck rfl (ck rfl (ck (congrArg sU hci) (ck rfl (ck rfl rfl))))),[],cm g hg,rfl,rfl,rfl,λf hf=>⟨ck rfl (ck rfl (ck rfl (ck (congrArg sU hci) (ck rfl (ck rfl rfl))))),bS hM (chg:=λ_:RatM=>bIz c kk O.length k i) (bls:=λf=>seB n A.length y A (x.R r) inv O++[(62,0,f.C)]) (fls:=λ_=>[LF n y,CF n y]) f hf rfl ⟨rfl,rfl,rfl,rfl,rfl,rfl,rfl,rfl,rfl,rfl⟩ ⟨rfl,rfl,trivial⟩ ⟨rfl,rfl,rfl,rfl,rfl,rfl,rfl,rfl,rfl,rfl,rfl⟩ bL (aDs f) rfl⟩⟩⟩,ck rfl (ck rfl (ck rfl (ck (congrArg sU hci) (ck rfl (ck rfl rfl))))),[],cg,rfl,rfl,rfl,λg hg=>⟨ck rfl (ck rfl (ck rfl (ck (congrArg sU hci) (ck rfl (ck rfl rfl))))),[],cm g hg,rfl,rfl,rfl,λf hf=>⟨ck rfl (ck rfl (ck rfl (ck (congrArg sU hci) (ck rfl (ck rfl rfl))))),bS hM (chg:=λ_:RatM=>bIz c kk O.length k i) (bls:=λf=>seB n A.length y A (x.R r) inv O++[(62,0,f.C)]) (fls:=λ_=>[LF n y,CF n y]) f hf rfl ⟨rfl,rfl,rfl,rfl,rfl,rfl,rfl,rfl,rfl,rfl⟩ ⟨rfl,rfl,trivial⟩ ⟨rfl,rfl,rfl,rfl,rfl,rfl,rfl,rfl,rfl,rfl,rfl⟩ bL (aDs f) rfl⟩⟩⟩
   replace hf:Cr f (fac es r c i):=hf
   have hcl:∀c'∈(⟨kk,f⟩:EntM).C,fO c'=true:=λc' hc'=>by
    rcases bR.1 hc' with rfl|hc'
    ·rfl
    exact oB _ c' hc'
   refine⟨cCh,by kernel_rfl,i,⟨rfl,hin,dD hin⟩,_,_,⟨hci2,rfl⟩,ck rfl (ck rfl (ck rfl (ck (congrArg sU hci2) (ck rfl (ck rfl (ck rfl (ck rfl rfl))))))),0,i,⟨rfl,hin,rfl,rfl,(gZ _).symm,by show(y.L i).length+1<=maxLen;simp only[maxLen];omega,by show((y.L i).length+1)*64<=_;omega,hcl⟩,λA' c'=>⟨ck rfl (ck rfl (ck rfl (ck (congrArg sU hci2) (ck rfl (ck rfl (ck rfl (ck rfl rfl))))))),i,⟨rfl,hin,dD hin⟩,_,aAc (e:=⟨kk,f⟩) hin,?_⟩⟩
   refine⟨cCi,by kernel_rfl,i,⟨rfl,hin,dD hin⟩,_,_,⟨hci,rfl⟩,[],bAo f ((Cr.rq hf rf).le),rfl,rfl,rfl,λq hq=>⟨ck rfl (ck rfl (ck rfl (ck rfl (ck (congrArg sU hci) (ck rfl (ck rfl (ck rfl (ck rfl rfl)))))))),[],bBg (y.R i) (x.R r) q (hrow.ev (hb i hin)) hev (hb i hin) (hb r hr) h1 (Cr.rq hq (xR rf)) (xR rf) oM hoi.1.1 hro.1.1 (by have:=hoi.2;omega) (by have:=hro.2;omega),rfl,rfl,rfl,λg hg=>⟨ck rfl (ck rfl (ck rfl (ck rfl (ck (congrArg sU hci) (ck rfl (ck rfl (ck rfl (ck rfl rfl)))))))),i,⟨rfl,hin,dD hin⟩,_,iF (c:=cF g) (Q:=λk=>cF (upd y.R i g k)) hin (λj _=>?_),?_⟩⟩⟩
   ·by_cases e:j=i
    ·subst e;rw[if_pos rfl,bN]
    rw[if_neg e,bD e]
   obtain⟨rs,hgr,hm⟩:=hg
   have hv:=aOx hm hoi.1 hro.1
   have hvl:=jY hv
   have hgl:=hgr.ln
   have hci3:(eJ n λj=>cF (upd y.R i g j))[i*1]? =some (cF g):=(eZ hin).trans (congrArg (λz=>some (cF z)) bN)
   refine⟨_,rfl,[6,5,0,1,2,3,4,1001],aSd (seY y i kk g A' c' f y.Cc y.I) (x.R r) (A:=A) (i:=i) hrk hro.1 hro.2 hn hE.ca,rfl,rfl,rfl,λI2 hI2=>?_⟩
   replace hI2:DI (es r) n i (es r).length y.I I2:=hI2
   refine⟨i,⟨rfl,hin,dD hin⟩,_,hci3,?_⟩
   show Sd _ _ _ _ _ _
   refine cO (λ_=>true) (λu:Nat×(Nat->Nat)×(Nat->List CV)=>bSx c kk O.length k i g u.1) (λu=>seB n A.length (seY y i kk g A' c' f u.2.1 u.2.2) A (x.R r) inv O) (λu=>[LF n (seY y i kk g A' c' f u.2.1 u.2.2),CF n (seY y i kk g A' c' f u.2.1 u.2.2)]) (λu=>u.1<=rs.length/\AI rs n i u.1 I2 u.2.2) (λu=>rs.length-u.1) λhM2=>⟨bS hM2 (chg:=λu:Nat×(Nat->Nat)×(Nat->List CV)=>bSx c kk O.length k i g u.1) (bls:=λu=>seB n A.length (seY y i kk g A' c' f u.2.1 u.2.2) A (x.R r) inv O) (fls:=λu=>[LF n (seY y i kk g A' c' f u.2.1 u.2.2),CF n (seY y i kk g A' c' f u.2.1 u.2.2)]) (0,y.Cc,I2) ⟨aC _,AI.start⟩ rfl ⟨rfl,rfl,rfl,rfl,rfl,rfl,rfl,rfl,rfl⟩ ⟨aBm (T:=82) (n:=n) (A:=upd y.LA i A') (cap:=upd y.Lc i c') (G:=y.L) (j:=i) (e:=⟨kk,f⟩),rfl,trivial⟩ ⟨rfl,rfl,rfl,rfl,rfl,rfl,rfl,rfl,rfl,rfl,rfl,rfl,rfl⟩ bL aAe rfl,λ⟨k2,Cc,I3⟩ ⟨hk2,hA⟩=>aA gT mxd ⟨λh8=>aA gT mxd ?_,λh8=>aA gT mxd ?_⟩⟩
   all_goals
    replace hk2:k2<=rs.length:=hk2
    replace hA:AI rs n i k2 I2 I3:=hA
   ·have hk2l:k2<rs.length:=by replace h8:(k2:Int)<(g.l.length:Nat):=h8;omega
    have he:=hgr.e k2 hk2l
    have e0:=hv.2 _ (fX hk2l)
    obtain⟨j0,hj0⟩:∃j0:Nat,(rs.getD k2 default).1=(j0:Nat):=⟨(rs.getD k2 default).1.toNat,by omega⟩
    have hjn:j0<n:=by omega
    have hix:(g.l.getD k2 default).ix=(j0:Nat):=he.1.trans hj0
    obtain⟨bb,hbj⟩:=hE.ca j0 hjn
    refine⟨k2,⟨rfl,show k2<g.l.length by omega⟩,oLv,by kernel_rfl,j0,⟨hix,hjn,dD hjn⟩,_,_,⟨zF hjn hbj,rfl⟩,1,j0,i,⟨hjn,hbj,rfl⟩,(k2+1:Nat),wi,?_⟩
    exact bS hM2 (chg:=λu:Nat×(Nat->Nat)×(Nat->List CV)=>bSx c kk O.length k i g u.1) (bls:=λu=>seB n A.length (seY y i kk g A' c' f u.2.1 u.2.2) A (x.R r) inv O) (fls:=λu=>[LF n (seY y i kk g A' c' f u.2.1 u.2.2),CF n (seY y i kk g A' c' f u.2.1 u.2.2)]) (k2+1,upd Cc j0 (vN (I3 j0) (Cc j0) i).2,upd I3 j0 (vN (I3 j0) (Cc j0) i).1) ⟨⟨hk2l,hA.next hk2l hj0⟩,show rs.length-(k2+1)<rs.length-k2 by omega⟩ rfl ⟨rfl,rfl,rfl,rfl,rfl,rfl,rfl,rfl,rfl⟩ ⟨rfl,rfl,trivial⟩ ⟨rfl,rfl,rfl,rfl,rfl,rfl,rfl,rfl,rfl,rfl,rfl,rfl,rfl⟩ bL aAe rfl
   obtain rfl:k2=rs.length:=by replace h8:¬(k2:Int)<(g.l.length:Nat):=h8;omega
   have hSn:=hS.next hkl hOd (rs:=rs) (by rw[<-hi];exact hm)
   rw[<-hi] at hSn
   obtain⟨-,-,hS2⟩:=hSn
   have hE2:=bCc (c:=c) (kk:=kk) (LA':=A') (Lc':=c') (Cc':=Cc) (e:=⟨kk,f⟩) (z:=((kk:Int),fac es r c i)) hE hr hin (λhh=>hh.elim hui hir) hgr (by rw[ei,er];exact hm) rfl hf (by rw[er];exact hI2) hA
   rw[el] at hE2
   have hbr:=bMb hm hoi.1.1 hro.1.1 h1 (hb i hin) (hb r hr) (xR rf)
   refine⟨(k+1:Nat),wi,bS hM (chg:=λg:Nat×El×(Nat->List En)×(Nat->List En)=>bCd c kk O.length g.1) (bls:=λg=>seB n A.length g.2.1 A (x.R r) inv O) (fls:=λg=>[LF n g.2.1,CF n g.2.1]) (k+1,seY y i kk g A' c' f Cc I3,upd es' i rs,upd lw' i (lw i++[((kk:Int),fac es r c i)])) ⟨⟨hkl,hE2,hS2,λj hj=>?_,λj hj=>?_⟩,show O.length-(k+1)<O.length-k by omega⟩ rfl ⟨rfl,rfl,rfl,rfl,rfl,rfl,rfl,rfl,rfl⟩ ⟨rfl,rfl,trivial⟩ ⟨rfl,rfl,rfl,rfl,rfl,rfl,rfl,rfl,rfl⟩ bL aAe rfl⟩
   ·show rbE (upd es' i rs j) _
    by_cases e:j=i
    ·subst e;rw[bN];exact λe' he'=>(hbr e' he').le
    rw[bD e];exact hb' j hj
   show rbE (upd lw' i _ j) _
   by_cases e:j=i
   ·subst e
    rw[bN]
    intro e' he'
    rcases aV.1 he' with he'|he'
    ·exact(hbl j hin e' he').le
    rw[aI.1 he'];exact rf.le
   rw[bD e];exact hbl' j hj
  replace h7:¬(k:Int)<(O.length:Nat):=h7
  obtain rfl:k=O.length:=by omega
  rw[cZ] at hS
  exact⟨(y,es',lw'),⟨⟨hE,λi hi=>hS.yes i ((hOm i).2 hi),λi hi=>hS.no i λhh=>hi ((hOm i).1 hh)⟩,hb',hbl'⟩,kD rfl ⟨rfl,rfl,rfl,rfl,rfl⟩ ⟨rfl,rfl,trivial⟩ bL aOu rfl aDq⟩
 have hG':upd G 0 [CV.r none 0 b (x.Cc c) (yN p q (I c) k)] 0=[CV.r none 0 b (x.Cc c) (yN p q (I c) k)]:=bN
 have hk:k∈I c:=hg0 k (by rw[h6];exact dL _ (.head _))
 have hmea:(p++q).length<(gg 0).length:=by rw[h6];simp
 refine⟨2,1,c,b,k,yN p q (I c) k,⟨bL,rfl,hG',hc,hbc,rfl,hk⟩,?_⟩
 have m8:∀{i:Nat},∀c∈(aDr O).map iC++[iC (nA k:Nat)],mJ i c=false:=λc hc=>by rw[aFj] at hc;exact fC (cJ _ c hc)
 have l8:O.length*1=((aDr O).map iC).length:=by rw[aU,aLj];omega
 refine⟨⟨rfl,l8,by show O.length+1<=maxLen;simp only[maxLen];omega,by show(O.length+1)*8<=_;omega,m8⟩,cl1,cl2,cl3,cl4,cGm,?_⟩
 exact bS hM (chg:=λg:List Nat×(Nat->List CV)×Nat×(Nat->List CV)=>seG c kk r0 g.1.length) (bls:=λg=>seB n A.length x A (x.R r) inv g.1) (fls:=λg=>[LF n x,CF n (x.maps I),itF r0 g.2.2.2]) (O++[nA k],yN p q (I c) k,x.Cc c,upd G 0 [.r none 0 b (x.Cc c) (yN p q (I c) k)]) ⟨⟨⟨rfl,aJ _,hG'⟩,aUu (h6▸hO),λk' hk'=>hg0 k' (by
  rw[h6]
  rcases aV.1 hk' with hh|hh
  ·exact dB _ hh
  exact dL _ (.tail _ hh))⟩,hmea⟩ rfl ⟨rfl,rfl,rfl,rfl,rfl,rfl,rfl,rfl,congrArg (λl:List CV=>((3,1,l):TypeId×Nat×List CV)) aFj⟩ ⟨rfl,rfl,rfl,trivial⟩ ⟨by show O.length+1=(O++[nA k]).length;simp,rfl,rfl,rfl,rfl,rfl,rfl,rfl⟩ bL aAe rfl
end Go.Proofs.YtghncoghdcmdfaaGreat
namespace Go.Proofs.YtghncoghdcmdfaaGreat
open Go.Vg _root_.Go.Proofs.Tryz
open Go.Vm hiding sgn
open Go.Vy hiding val
set_option maxRecDepth 8000
def cmE (x y:Int):Int:=if x<y then-1 else if y<x then 1 else 0
theorem bCe {x y:Int}:cmE x y<0↔x<y:=by unfold cmE;split<;>(try split)<;>omega
abbrev bTb:FuncId:=207
theorem cIe:Ent Tryz.prog bTb:=aW func207 rfl kR
theorem cIf:Tryz.prog.funcs[bTb]? =some Tryz.f207:=func207
theorem bMc (x:Int):Ctr Tryz.prog bTb [] [.c (iC x)] [] (λ_:Unit=>⟨pC False,[],True⟩):=by
 refine aX gT cIe cIf rfl rfl rfl bL aS (aA gT mxd ⟨(),trivial,aM (show(x≠x↔False) from ⟨λh=>h rfl,λh=>h.elim⟩) rfl trivial⟩)
abbrev bTc:FuncId:=159
theorem cIg:Ent Tryz.prog bTc:=aW func159 rfl kR
theorem cIh:Tryz.prog.funcs[bTc]? =some Tryz.f159:=func159
theorem bCf (x y:Int):Ctr Tryz.prog bTc [] [.c (iC x),.c (iC y)] [] (λ_:Unit=>⟨.c (iC (cmE x y)),[],True⟩):=by
 refine aX gT cIg cIh rfl rfl rfl bL aS (aA gT mxd ⟨[],bMc x,rfl,rfl,rfl,λ_ _=>⟨[],bMc y,rfl,rfl,rfl,λ_ _=>⟨λh=>absurd h id,λ_=>aA gT mxd ⟨λh=>absurd h id,λ_=>aA gT mxd ⟨λh1=>aA gT mxd ?_,λh1=>aA gT mxd ⟨λh2=>aA gT mxd ?_,λh2=>aA gT mxd ?_⟩⟩⟩⟩⟩⟩)
 ·replace h1:x<y:=h1
  exact⟨(),trivial,aM (show-1=cmE x y by unfold cmE;rw[if_pos h1]) rfl trivial⟩
 ·replace h1:¬x<y:=h1
  replace h2:y<x:=h2
  exact⟨(),trivial,aM (show 1=cmE x y by unfold cmE;rw[if_neg h1,if_pos h2]) rfl trivial⟩
 replace h1:¬x<y:=h1
 replace h2:¬y<x:=h2
 exact⟨(),trivial,aM (show 0=cmE x y by unfold cmE;rw[if_neg h1,if_neg h2]) rfl trivial⟩
abbrev bTd:FuncId:=209
theorem cIi:Ent Tryz.prog bTd:=aW func209 rfl kR
theorem cIj:Tryz.prog.funcs[bTd]? =some Tryz.f209:=func209
theorem bCg (x:Int):Ctr Tryz.prog bTd [] [.c (iC x)] [] (λ_:Unit=>⟨pC False,[],True⟩):=by
 refine aX gT cIi cIj rfl rfl rfl bL aS (aA gT mxd ⟨(),trivial,aM (show(x≠x↔False) from ⟨λh=>h rfl,λh=>h.elim⟩) rfl trivial⟩)
abbrev bTe:FuncId:=161
theorem cIk:Ent Tryz.prog bTe:=aW func161 rfl kR
theorem cIl:Tryz.prog.funcs[bTe]? =some Tryz.f161:=func161
theorem cCj (x y:Int):Ctr Tryz.prog bTe [] [.c (iC x),.c (iC y)] [] (λ_:Unit=>⟨.c (iC (cmE x y)),[],True⟩):=by
 refine aX gT cIk cIl rfl rfl rfl bL aS (aA gT mxd ⟨[],bCg x,rfl,rfl,rfl,λ_ _=>⟨[],bCg y,rfl,rfl,rfl,λ_ _=>⟨λh=>absurd h id,λ_=>aA gT mxd ⟨λh=>absurd h id,λ_=>aA gT mxd ⟨λh1=>aA gT mxd ?_,λh1=>aA gT mxd ⟨λh2=>aA gT mxd ?_,λh2=>aA gT mxd ?_⟩⟩⟩⟩⟩⟩)
 ·replace h1:x<y:=h1
  exact⟨(),trivial,aM (show-1=cmE x y by unfold cmE;rw[if_pos h1]) rfl trivial⟩
 ·replace h1:¬x<y:=h1
  replace h2:y<x:=h2
  exact⟨(),trivial,aM (show 1=cmE x y by unfold cmE;rw[if_neg h1,if_pos h2]) rfl trivial⟩
 replace h1:¬x<y:=h1
 replace h2:¬y<x:=h2
 exact⟨(),trivial,aM (show 0=cmE x y by unfold cmE;rw[if_neg h1,if_neg h2]) rfl trivial⟩
abbrev aOz:FuncId:=162
theorem bTf:Ent Tryz.prog aOz:=aW func162 rfl kR
theorem bTg:Tryz.prog.funcs[aOz]? =some Tryz.f162:=func162
theorem bJa (i j:IntM) {a b:Int} (hi:In i a 35184372088832) (hj:In j b 35184372088832):Ctr Tryz.prog aOz [] [.a i.C,.a j.C] [] (λ_:Unit=>⟨.c (iC (cmE a b)),[],True⟩):=by
 have ha:=hi.abs
 have hb:=hj.abs
 refine aX gT bTf bTg rfl rfl rfl bL aS (aA gT mxd ⟨.seq [(0,false),(2,false),(1,false),(3,true),(4,false),(5,false)],by kernel_rfl,[],aDj i hi,rfl,rfl,rfl,λ_ _=>⟨[],aDj j hj,rfl,rfl,rfl,λ_ _=>⟨λh=>aA gT mxd ?_,λh=>aA gT mxd ⟨λh2=>aA gT mxd ?_,λh2=>aA gT mxd ⟨λh3=>aA gT mxd ?_,λh3=>aA gT mxd ?_⟩⟩⟩⟩⟩)
 ·replace h:sgn a<sgn b:=h
  refine⟨(),trivial,aM ?_ rfl trivial⟩
  show(-1:Int)=cmE a b
  unfold sgn at h;unfold cmE
  (repeat split at*)<;>omega
 all_goals replace h:¬sgn a<sgn b:=h
 ·replace h2:sgn b<sgn a:=h2
  refine⟨(),trivial,aM ?_ rfl trivial⟩
  show(1:Int)=cmE a b
  unfold sgn at h h2;unfold cmE
  (repeat split at*)<;>omega
 all_goals replace h2:¬sgn b<sgn a:=h2
 ·replace h3:sgn a<0:=h3
  refine⟨[],uF j.m i.m hj.lm hi.lm hj.ln hi.ln,rfl,rfl,rfl,λ_ _=>⟨(),trivial,aM ?_ rfl trivial⟩⟩
  show qU (val j.m.l) (val i.m.l)=cmE a b
  rw[ha,hb]
  unfold sgn at h h2 h3;unfold cmE qU
  (repeat split at*)<;>omega
 replace h3:¬sgn a<0:=h3
 refine⟨[],uF i.m j.m hi.lm hj.lm hi.ln hj.ln,rfl,rfl,rfl,λ_ _=>⟨(),trivial,aM ?_ rfl trivial⟩⟩
 show qU (val i.m.l) (val j.m.l)=cmE a b
 rw[ha,hb]
 unfold sgn at h h2 h3;unfold cmE qU
 (repeat split at*)<;>omega
def cmQ (a b:Rat):Int:=if a<b then-1 else if b<a then 1 else 0
theorem aSe (q:Rat):sgn q.num=cmQ q 0:=by
 have h1:q<0↔q.num<0:=by
  have:=Rat.num_nonneg (q:=q)
  grind
 have h2:q.num=0↔q=0:=dW
 unfold sgn cmQ
 (repeat split)<;>grind
theorem bJb {a b:Rat} (h:sgn a.num≠sgn b.num):cmE (sgn a.num) (sgn b.num)=cmQ a b:=by
 rw[aSe,aSe] at*
 unfold cmE
 unfold cmQ at*
 (repeat split at*)<;>grind
theorem bCh {a b c d:Int} {p q:Rat} (hc:0<c) (hd:0<d) (h1:Rat.divInt a c=p) (h2:Rat.divInt b d=q):cmE (a*d) (b*c)=cmQ p q:=by
 have e1:=aQl hc hd h1 h2
 have e2:=aQl hd hc h2 h1
 unfold cmE cmQ
 simp only[e1,e2]
abbrev aSf:FuncId:=100
theorem cCk:Ent Tryz.prog aSf:=aW func100 rfl kR
theorem cCl:Tryz.prog.funcs[aSf]? =some Tryz.f100:=func100
theorem sH (r s:RatM) {a b:Rat} (hr:Rq r a 4398046511104) (hs:Rq s b 4398046511104):Ctr Tryz.prog aSf [] [.a r.C,.a s.C] [] (λ_:Unit=>⟨.c (iC (cmQ a b)),[],True⟩):=by
 refine aX gT cCk cCl rfl rfl rfl bL aS (aA gT mxd ⟨.seq [(0,false),(2,false),(1,false),(3,true),(4,false),(5,false)],by kernel_rfl,[],jF r hr.le,rfl,rfl,rfl,λ_ _=>⟨[],jF s hs.le,rfl,rfl,rfl,λ_ _=>⟨λh=>aA gT mxd ?_,λh=>aA gT mxd ?_⟩⟩⟩)
 ·exact⟨[],bCf _ _,rfl,rfl,rfl,λ_ _=>⟨(),trivial,aM (bJb h) rfl trivial⟩⟩
 refine⟨[],qV r hr.le,rfl,rfl,rfl,λu hu=>⟨[],qV s hs.le,rfl,rfl,rfl,λv hv=>⟨λh=>aA gT mxd ?_,λ_=>aA gT mxd ?_⟩⟩⟩
 ·obtain⟨u1,u2,u3⟩:=hu h.1
  obtain⟨v1,v2,v3⟩:=hv h.2
  have m1:=xT u1 (b:=v.2.1) ⟨by omega,v2.2⟩
  have m2:=xT v1 (b:=u.2.1) ⟨by omega,u2.2⟩
  exact⟨_,m1.1,_,m2.1,[],cCj _ _,rfl,rfl,rfl,λ_ _=>⟨(),trivial,aM (bCh u2.1 v2.1 u3 v3) rfl trivial⟩⟩
 refine⟨[],pG r hr bL bL,rfl,rfl,rfl,λx ⟨hx,hxz⟩=>⟨[],pG s hs bL bL,rfl,rfl,rfl,λy ⟨hy,hyz⟩=>?_⟩⟩
 have ldx:=aG (dN hx.ld) hx.bd
 have ldy:=aG (dN hy.ld) hy.bd
 have l1:=vZ hx.n.len (b:=(val y.d.l:Nat)) ldy
 have l2:=vZ hy.n.len (b:=(val x.d.l:Nat)) ldx
 refine⟨.seq [(0,false),(1,false),(2,false),(4,false),(5,false),(6,false),(3,false),(7,true),(8,true),(9,false)],by kernel_rfl,[],yY x.n (den y.d) (hx.n.le bL) (aHy hy.ld (aG hy.bd bL)),rfl,rfl,rfl,λp hp=>⟨[],yY y.n (den x.d) (hy.n.le bL) (aHy hx.ld (aG hx.bd bL)),rfl,rfl,rfl,λq hq=>⟨[],bJa p q (Ci.in hp (aG l1 bL)) (Ci.in hq (aG l2 bL)),rfl,rfl,rfl,λ_ _=>⟨(),trivial,aM (bCh oM oM hx.v hy.v) rfl trivial⟩⟩⟩⟩
theorem bTh (r s:RatM) {a:Rat} (hr:Rq r a 4398046511104) (hs:Rq s a 4398046511104):Ctr Tryz.prog aSf [] [.a r.C,.a s.C] [] (λ_:Unit=>⟨.c (iC 0),[],True⟩):=by
 have h:=sH r s hr hs
 rw[show cmQ a a=0 by unfold cmQ;rw[if_neg tD,if_neg tD]] at h
 exact h
end Go.Proofs.YtghncoghdcmdfaaGreat
namespace Go.Proofs.YtghncoghdcmdfaaGreat
open Go.Vg _root_.Go.Proofs.Tryz
open Go.Vm
open Go.Vy hiding val
set_option maxRecDepth 20000
section bits
open Go.RowKit Go.Shelf
def cIm:Ren:=⟨λn=>if n=125 then 223 else if n=128 then 250 else if n=129 then 251 else 0,λn=>if n=3 then 3 else if n=4 then 4 else if n=5 then 5 else if n=9 then 9 else if n=46 then 223 else if n=51 then 123 else if n=53 then 190 else 0,λx=>x⟩
theorem bJc:Lays.n125 Tryz.prog cIm:=by
 constructor<;>first|kernel_rfl|(intro w;kernel_rfl)
end bits
theorem bCi (ys:List EntM):ecs ys=fl EntM.C default ys:=by
 have h:∀n,n<=ys.length->ecs (ys.take n)=flatR n λj=>(ys.getD j default).C:=λn=>by
  induction n with
  |zero=>intro _;rfl
  |succ n ih=>
   intro h
   rw[gM,<-ih oM,dU,aE h,gd h]
   exact(tP _ _).symm
 have h2:=h ys.length (aJ _)
 rw[cZ] at h2
 exact h2
theorem aSg {ys:List EntM} {k:Nat} {e:EntM} (h:k<ys.length):lE (ecs ys) (k*4) e.C=ecs (ys.set k e)/\k*4+e.C.length<=(ecs ys).length:=by
 rw[bCi,bCi]
 exact bIm (f:=EntM.C) (e:=4) (λ_=>rfl) h
theorem aDt {ys:List EntM} {k:Nat} (h:k<ys.length):((ecs ys).drop (k*4)).take 4=(ys.getD k default).C/\(ys.getD k default).C.length=4:=⟨(uK ys k h).symm,rfl⟩
theorem wD {ys:List EntM} {k:Nat} (h:k<ys.length):k*4<(ecs ys).length:=by rw[gZ];omega
def SrE (ys:List EntM) (m:Nat):Prop:=∀a b,a<b->b<m->(ys.getD a default).ix<=(ys.getD b default).ix
def SwE (ys:List EntM) (j:Nat):List EntM:=(ys.set j (ys.getD (j-1) default)).set (j-1) (ys.getD j default)
theorem aSh {ys:List EntM} {j k:Nat} (h:j<ys.length):(SwE ys j).getD k default=if k=j-1 then ys.getD j default else if k=j then ys.getD (j-1) default else ys.getD k default:=by
 unfold SwE
 simp only[aO,List.getElem?_set,bQ]
 by_cases h1:k=j-1
 ·subst h1;rw[if_pos rfl,if_pos rfl,if_pos oM];rfl
 rw[if_neg h1,if_neg (fV h1)]
 by_cases h2:k=j
 ·subst h2;rw[if_pos rfl,if_pos rfl,if_pos h];rfl
 rw[if_neg h2,if_neg (fV h2)]
theorem bTi {ys:List EntM} {j:Nat}:(SwE ys j).length=ys.length:=by unfold SwE;rw[bQ,bQ]
theorem bJd {ys:List EntM} {j:Nat} (h:j<ys.length):(SwE ys j).Perm ys:=by
 unfold SwE
 have h1:j-1<ys.length:=by omega
 rw[gd h,gd h1]
 exact List.set_set_perm h h1
def SnE (ys:List EntM) (i j:Nat):Prop:=(∀a b,a<b->b<=i->a≠j->b≠j->(ys.getD a default).ix<=(ys.getD b default).ix)/\∀b,j<b->b<=i->(ys.getD j default).ix<(ys.getD b default).ix
theorem SnE.start {ys:List EntM} {i:Nat} (h:SrE ys i):SnE ys i i:=⟨λa b h1 h2 _ h4=>h a b h1 oM,λb h1 h2=>by omega⟩
theorem SnE.stop {ys:List EntM} {i j:Nat} (h:SnE ys i j) (he:¬(0<j/\(ys.getD j default).ix<(ys.getD (j-1) default).ix)):SrE ys (i+1):=λa b h1 h2=>by
 by_cases ha:a=j
 ·subst ha;exact uO (h.2 b h1 oM)
 by_cases hb:b=j
 ·subst hb
  have h3:(ys.getD (b-1) default).ix<=(ys.getD b default).ix:=rF.1 λhh=>he ⟨by omega,hh⟩
  by_cases h4:a=b-1
  ·subst h4;exact h3
  exact Int.le_trans (h.1 a (b-1) oM oM ha oM) h3
 exact h.1 a b h1 oM ha hb
theorem SnE.next {ys:List EntM} {i j:Nat} (h:SnE ys i j) (hi:i<ys.length) (hj:j<=i) (h0:0<j) (he:(ys.getD j default).ix<(ys.getD (j-1) default).ix):SnE (SwE ys j) i (j-1):=by
 have hjl:j<ys.length:=by omega
 refine⟨λa b h1 h2 h3 h4=>?_,λb h1 h2=>?_⟩
 ·rw[aSh hjl,aSh hjl,if_neg h3,if_neg h4]
  by_cases ha:a=j
  ·rw[if_pos ha,if_neg oM]
   exact h.1 (j-1) b oM h2 oM oM
  rw[if_neg ha]
  by_cases hb:b=j
  ·rw[if_pos hb];exact h.1 a (j-1) oM oM ha oM
  rw[if_neg hb];exact h.1 a b h1 h2 ha hb
 rw[aSh hjl,aSh hjl,if_pos rfl,if_neg oM]
 by_cases hb:b=j
 ·rw[if_pos hb];exact he
 rw[if_neg hb];exact h.2 b oM h2
abbrev bMd:FuncId:=223
theorem cCm:Ent Tryz.prog bMd:=aW func223 rfl kR
theorem cCn {x:Int} (h0:0<=x) (h1:x<=18446744073709551615):Ctr Tryz.prog bMd [] [.c (.v (.int .u64 x))] [] (λ_:Unit=>⟨.c (iC (Go.Lib.bitLen x.toNat:Nat)),[],True⟩):=by
 refine⟨cCm,aS,λρ w vals hv hD hF=>?_⟩
 match vals,hv with
 |[v1],⟨h2,_⟩=>
  have e1:=h2.inv_c.inv_v
  subst e1
  exact(Go.Proofs.Any.bits_Len bJc x w h0 h1).mono λe w' ⟨he,hw⟩=>⟨_,he,aZl hD hF (hw▸Ext.refl w) rfl⟩
abbrev fBy:FuncId:=186
theorem eBy:Ent Tryz.prog fBy:=aW func186 rfl kR
theorem bBy:Tryz.prog.funcs[fBy]? =some Tryz.f186:=func186
theorem cIn (e f:EntM):Ctr Tryz.prog fBy [] [.a e.C,.a f.C] [] (λ_:Unit=>⟨.c (iC (cmE e.ix f.ix)),[],True⟩):=by
 refine aX gT eBy bBy rfl rfl rfl bL aS (aA gT mxd ⟨[],bCf e.ix f.ix,rfl,rfl,rfl,λ_ _=>⟨(),trivial,aM rfl rfl trivial⟩⟩)
abbrev isG (q:FuncId) (n i:Nat):List (Nat×DV):=[(8,.c (iC i)),(0,.c (.s 0 n)),(1,.c (iC (0:Nat))),(2,.c (iC n)),(3,.c (.f q [] []))]
abbrev isB (ys:List EntM):BL:=[(82,4,ecs ys)]
theorem pT {ys:List EntM}:scB 1 (isB ys):=aB (nM _) aY
abbrev bTj:FuncId:=242
theorem cIo:Ent Tryz.prog bTj:=aW func242 rfl kR
theorem cIp:Tryz.prog.funcs[bTj]? =some Tryz.f242:=func242
theorem cCo {q:FuncId} (hcq:∀e f:EntM,Ctr Tryz.prog q [] [.a e.C,.a f.C] [] (λ_:Unit=>⟨.c (iC (cmE e.ix f.ix)),[],True⟩)) (ys:List EntM) (hn:ys.length<=4096):CtrF Tryz.prog bTj [true] [.c (.s 0 ys.length),.c (iC (0:Nat)),.c (iC (ys.length:Nat)),.c (.f q [] [])] (isB ys) [] (λzs:List EntM=>⟨.t [],isB zs,[],zs.Perm ys/\SrE zs ys.length⟩):=by
 refine nZ gT cIo cIp rfl rfl rfl bL (aAb (hJ ys)) (aA gT mxd ⟨(1:Nat),by rfl,?_⟩)
 show Sd _ _ _ _ _ _
 refine cO (λ_=>true) (λg:Nat×List EntM=>isG q ys.length g.1) (λg=>isB g.2) (λ_=>[]) (λg=>(g.1<=ys.length\/g.1=1)/\g.2.length=ys.length/\g.2.Perm ys/\SrE g.2 g.1) (λg=>ys.length+1-g.1) λhM=>⟨bS hM (chg:=λg:Nat×List EntM=>isG q ys.length g.1) (bls:=λg=>isB g.2) (fls:=λ_=>[]) (1,ys) ⟨.inr rfl,rfl,wV _,λa b h1 h2=>by have h3:b<1:=h2;omega⟩ rfl rfl trivial ⟨rfl,rfl,rfl,rfl,rfl⟩ bL pT rfl,λ⟨i,xs⟩ ⟨hi,hl,hp,hs⟩=>aA gT mxd ⟨λh2=>aA gT mxd ?_,λh2=>aA gT mxd ?_⟩⟩
 all_goals
  replace hi:i<=ys.length\/i=1:=hi
  replace hl:xs.length=ys.length:=hl
  replace hp:xs.Perm ys:=hp
  replace hs:SrE xs i:=hs
 ·replace h2:(i:Int)<(ys.length:Nat):=h2
  have hin:i<ys.length:=by omega
  show Sd _ _ _ _ _ _
  refine cO (λ_=>true) (λg:Nat×List EntM=>(9,.c (iC g.1))::isG q ys.length i) (λg=>isB g.2) (λ_=>[]) (λg=>g.1<=i/\g.2.length=ys.length/\g.2.Perm ys/\SnE g.2 i g.1) (λg=>g.1) λhM2=>⟨bS hM2 (chg:=λg:Nat×List EntM=>(9,.c (iC g.1))::isG q ys.length i) (bls:=λg=>isB g.2) (fls:=λ_=>[]) (i,xs) ⟨aJ _,hl,hp,SnE.start hs⟩ rfl rfl trivial ⟨rfl,rfl,rfl,rfl,rfl,rfl⟩ bL pT rfl,λ⟨j,zs⟩ ⟨hj,hzl,hzp,hz⟩=>aA gT mxd ?_⟩
  replace hj:j<=i:=hj
  replace hzl:zs.length=ys.length:=hzl
  replace hzp:zs.Perm ys:=hzp
  replace hz:SnE zs i j:=hz
  have hjl:j<zs.length:=by omega
  have hjl1:j-1<zs.length:=by omega
  refine⟨.seq (sq 14 (List.range 17)),by kernel_rfl,?_⟩
  have hjy:j<ys.length:=by omega
  have hj1:0<j->((j-1:Nat):Int)=(j:Int)-1:=λhq=>by omega
  refine⟨j,λhq=>⟨rfl,hjy,wD hjl⟩,(zs.getD j default).C,λhq=>aDt hjl,(j-1:Nat),λhq=>?_,j-1,λhq=>⟨rfl,by omega,wD hjl1⟩,(zs.getD (j-1) default).C,λhq=>aDt hjl1,λhq=>⟨[],hcq (zs.getD j default) (zs.getD (j-1) default),rfl,rfl,rfl,λ_ _=>⟨λh3=>aA gT mxd ?_,λh3=>aA gT mxd ?_⟩⟩,λhq=>?_⟩
  ·replace hq:((0:Nat):Int)<(j:Nat):=hq
   exact wi (by show((j-1:Nat):Int)=(j:Int)-1/\-9223372036854775808<=(j:Int)-1/\(j:Int)-1<=9223372036854775807;omega)
  ·replace hq:((0:Nat):Int)<(j:Nat):=hq
   have h0:0<j:=by omega
   have hlt:=bCe.1 h3
   have hjs:j-1<(zs.set j (zs.getD (j-1) default)).length:=by rw[bQ];omega
   refine⟨.seq ((List.range 18).map λi=>(i,i==15||i==17)),by kernel_rfl,(j-1:Nat),?_,(j-1:Nat),?_,j-1,⟨rfl,by omega,wD hjl1⟩,_,aDt hjl1,j,⟨rfl,hjy,wD hjl⟩,_,aDt hjl,j,⟨rfl,hjy,wD hjl⟩,_,aSg hjl,j-1,⟨rfl,by omega,wD hjs⟩,_,aSg hjs,(j-1:Nat),?_,?_⟩
   ·exact wi (by show((j-1:Nat):Int)=(j:Int)-1/\-9223372036854775808<=(j:Int)-1/\(j:Int)-1<=9223372036854775807;omega)
   ·exact wi (by show((j-1:Nat):Int)=(j:Int)-1/\-9223372036854775808<=(j:Int)-1/\(j:Int)-1<=9223372036854775807;omega)
   ·exact wi (by show((j-1:Nat):Int)=(j:Int)-1/\-9223372036854775808<=(j:Int)-1/\(j:Int)-1<=9223372036854775807;omega)
   exact bS hM2 (chg:=λg:Nat×List EntM=>(9,.c (iC g.1))::isG q ys.length i) (bls:=λg=>isB g.2) (fls:=λ_=>[]) (j-1,SwE zs j) ⟨⟨show j-1<=i by omega,bTi.trans hzl,(bJd hjl).trans hzp,hz.next oM hj h0 hlt⟩,show j-1<j by omega⟩ rfl rfl trivial ⟨rfl,rfl,rfl,rfl,rfl,rfl⟩ bL pT rfl
  ·replace hq:((0:Nat):Int)<(j:Nat):=hq
   refine⟨(i+1:Nat),wi,bS hM (chg:=λg:Nat×List EntM=>isG q ys.length g.1) (bls:=λg=>isB g.2) (fls:=λ_=>[]) (i+1,zs) ⟨⟨.inl hin,hzl,hzp,hz.stop ?_⟩,show ys.length+1-(i+1)<ys.length+1-i by omega⟩ rfl rfl trivial ⟨rfl,rfl,rfl,rfl,rfl⟩ bL pT rfl⟩
   exact λhh=>h3 (bCe.2 hh.2)
  replace hq:¬((0:Nat):Int)<(j:Nat):=hq
  refine⟨(i+1:Nat),wi,bS hM (chg:=λg:Nat×List EntM=>isG q ys.length g.1) (bls:=λg=>isB g.2) (fls:=λ_=>[]) (i+1,zs) ⟨⟨.inl hin,hzl,hzp,hz.stop ?_⟩,show ys.length+1-(i+1)<ys.length+1-i by omega⟩ rfl rfl trivial ⟨rfl,rfl,rfl,rfl,rfl⟩ bL pT rfl⟩
  exact λhh=>hq oM
 replace h2:¬(i:Int)<(ys.length:Nat):=h2
 exact⟨xs,⟨hp,λa b h3 h4=>hs a b h3 oM⟩,kD rfl rfl trivial bL pT rfl (aAb (hJ xs))⟩
abbrev pqG (q:FuncId) (n:Nat):List (Nat×DV):=[(0,.c (.s 0 n)),(1,.c (iC (0:Nat))),(2,.c (iC n)),(4,.c (.f q [] []))]
abbrev bTk:FuncId:=222
theorem cIq:Ent Tryz.prog bTk:=aW func222 rfl kR
theorem cIr:Tryz.prog.funcs[bTk]? =some Tryz.f222:=func222
theorem cCp {q:FuncId} (hcq:∀e f:EntM,Ctr Tryz.prog q [] [.a e.C,.a f.C] [] (λ_:Unit=>⟨.c (iC (cmE e.ix f.ix)),[],True⟩)) (ys:List EntM) (m:Nat) (hn:ys.length<=12):CtrF Tryz.prog bTk [true] [.c (.s 0 ys.length),.c (iC (0:Nat)),.c (iC (ys.length:Nat)),.c (iC m),.c (.f q [] [])] (isB ys) [] (λzs:List EntM=>⟨.t [],isB zs,[],zs.Perm ys/\SrE zs ys.length⟩):=by
 refine nZ gT cIq cIr rfl rfl rfl bL (aAb (hJ ys)) (aA gT mxd ?_)
 show Sd _ _ _ _ _ _
 refine cO (λ_=>true) (λ_:Unit=>pqG q ys.length) (λ_=>isB ys) (λ_=>[]) (λ_=>True) (λ_=>0) λhM=>⟨bS hM (chg:=λ_:Unit=>pqG q ys.length) (bls:=λ_=>isB ys) (fls:=λ_=>[]) () trivial rfl rfl trivial ⟨rfl,rfl,rfl,rfl⟩ bL pT rfl,λ_ _=>aA gT mxd ⟨(ys.length:Nat),?_,⟨λh2=>aA gT mxd ?_,λh2=>aA gT mxd ?_⟩⟩⟩
 ·exact wi (by show((ys.length:Nat):Int)=(ys.length:Nat)-((0:Nat):Int)/\-9223372036854775808<=((ys.length:Nat):Int)-((0:Nat):Int)/\((ys.length:Nat):Int)-((0:Nat):Int)<=9223372036854775807;omega)
 ·exact⟨none,[0],cCo hcq ys oM,rfl,rfl,rfl,λzs hz=>⟨zs,hz,kD rfl rfl trivial bL pT rfl (aAb (hJ zs))⟩⟩
 replace h2:¬((ys.length:Nat):Int)<=12:=h2
 omega
abbrev bJe:FuncId:=185
theorem cIs:Ent Tryz.prog bJe:=aW func185 rfl kR
theorem cIt:Tryz.prog.funcs[bJe]? =some Tryz.f185:=func185
theorem bMe {q:FuncId} (hcq:∀e f:EntM,Ctr Tryz.prog q [] [.a e.C,.a f.C] [] (λ_:Unit=>⟨.c (iC (cmE e.ix f.ix)),[],True⟩)) (ys:List EntM) {m:Nat} (hm:ys.length=m) (hn:m<=12):CtrF Tryz.prog bJe [true] [.c (.s 0 m),.c (.f q [] [])] (isB ys) [] (λzs:List EntM=>⟨.t [],isB zs,[],zs.Perm ys/\SrE zs m⟩):=by
 obtain rfl:=hm
 have hw:IntKind.u64.wrap ((ys.length:Nat):Int)=(ys.length:Nat):=aCd oM
 refine nZ gT cIs cIt rfl rfl rfl bL (aAb (hJ ys)) (aA gT mxd ⟨((ys.length:Nat):Int),hw.symm,[],cCn (x:=(ys.length:Nat)) oM oM,rfl,rfl,rfl,λ_ _=>⟨none,[0],cCp hcq ys _ hn,rfl,rfl,rfl,λzs hz=>⟨zs,hz,kD rfl rfl trivial bL pT rfl (aAb (hJ zs))⟩⟩⟩)
theorem cCq (ys:List EntM) {m:Nat} (hm:ys.length=m) (hn:m<=12):CtrF Tryz.prog bJe [true] [.c (.s 0 m),.c (.f fBy [] [])] (isB ys) [] (λzs:List EntM=>⟨.t [],isB zs,[],zs.Perm ys/\SrE zs m⟩):=bMe cIn ys hm hn
end Go.Proofs.YtghncoghdcmdfaaGreat
