/- THE STATEMENT BasisExtends of the program's law 13 is proved: for every input the law returns true; it has no conditions. Part 4 of 7: De Pg Df Dg Ph Pi Ud Ue Uf Ug Uh Ui Uj Uk Ul Um Un Uo Up Uq Ur Us Ut Uu Uv Uw Ux Uy Uz Sa Sb Sc Sd Sx. -/
import Derived.Test.YtghncoghdcmdfaaGreatG3
set_option maxHeartbeats 4000000
set_option linter.unusedVariables false
set_option linter.unusedSimpArgs false
namespace Go.Proofs.YtghncoghdcmdfaaGreat
open Go.Vg Go.Vm _root_.Go.Proofs.Tryz
open Go.Vy hiding val
theorem bDb {p q:Prop} {m n:Nat} (h:p↔q):sg p m+sg q n=sg p (m+n):=by
 by_cases hp:p
 ·rw[lI hp,lI (h.1 hp),lI hp];omega
 rw[lJ hp,lJ (λhq=>hp (h.2 hq)),lJ hp];omega
theorem aJf {p q:Prop} {m n:Nat} (h:¬(p↔q)) (hmn:n<=m):sg p m+sg q n=sg p (m-n):=by
 by_cases hp:p
 ·rw[lI hp,lJ (λhq=>h ⟨λ_=>hq,λ_=>hp⟩),lI hp];omega
 have hq:q:=aT λhq=>h ⟨λh=>absurd h hp,λh=>absurd h hq⟩
 rw[lJ hp,lI hq,lJ hp];omega
theorem bDc {p q:Prop} {m n:Nat}:sg p m*sg q n=sg (¬(p↔q)) (m*n):=by
 by_cases hp:p<;>by_cases hq:q
 ·rw[lI hp,lI hq,lJ (λh=>h ⟨λ_=>hq,λ_=>hp⟩),Int.neg_mul_neg,gD]
 ·rw[lI hp,lJ hq,lI (λh=>hq (h.1 hp)),xP,gD]
 ·rw[lJ hp,lI hq,lI (λh=>hp (h.2 hq)),xR,gD]
 rw[lJ hp,lJ hq,lJ (λh=>h ⟨λh=>absurd h hp,λh=>absurd h hq⟩),gD]
theorem dgl {X:Sl Nat} {n B:Nat} (h:X.l=dE n) (hb:len n<=B):X.l.length<=B:=by rw[h];exact hb
theorem aUh (m n:Nat):len (m-n)<=len m:=fY (Nat.sub_le m n)
abbrev aQi:FuncId:=106
theorem bWd:Ent Tryz.prog aQi:=aU func106 rfl kR
theorem bWe:Tryz.prog.funcs[aQi]? =some Tryz.f106:=func106
theorem yE {z:Int} (hz:-9223372036854775808<=z/\z<=9223372036854775807):Ctr Tryz.prog aQi [] [.c (iC z)] [] (yM z):=by
 refine aW gT bWd bWe rfl rfl rfl bL aS (aA gT mxd ⟨λh=>aA gT mxd ?_,λh=>aA gT mxd ?_⟩)
 ·have hl:=rD (n:=z.natAbs)
  refine⟨z+1,wi,0-(z+1),wi,((-(z+1)).toNat:Nat),wu,(z.natAbs:Nat),wu,[],aIs (n:=z.natAbs) oM,rfl,rfl,rfl,λg hg=>?_⟩
  replace hg:g.l=dE z.natAbs:=hg
  obtain⟨lg,vg⟩:=dg hg
  refine⟨[],nY (true=true) g lg (dgl hg oM),rfl,rfl,rfl,λi hi=>⟨i,?_,aM rfl rfl trivial⟩⟩
  have e:sg (true=true) (val g.l)=z:=by rw[lI rfl,vg];omega
  rw[<-e];exact hi
 have hl:=rD (n:=z.natAbs)
 refine⟨(z.natAbs:Nat),wu,[],aIs (n:=z.natAbs) oM,rfl,rfl,rfl,λg hg=>?_⟩
 replace hg:g.l=dE z.natAbs:=hg
 obtain⟨lg,vg⟩:=dg hg
 refine⟨[],nY (false=true) g lg (dgl hg oM),rfl,rfl,rfl,λi hi=>⟨i,?_,aM rfl rfl trivial⟩⟩
 have e:sg (false=true) (val g.l)=z:=by rw[lJ dC,vg];omega
 rw[<-e];exact hi
def sgn (z:Int):Int:=if z<0 then-1 else if z=0 then 0 else 1
abbrev aQj:FuncId:=133
theorem bWf:Ent Tryz.prog aQj:=aU func133 rfl kR
theorem bWg:Tryz.prog.funcs[aQj]? =some Tryz.f133:=func133
theorem aUi (i:IntM) {v:Int} (h:In i v 35184372088832):Ctr Tryz.prog aQj [] [.a i.C] [] (λ_:Unit=>⟨.c (iC (sgn v)),[],True⟩):=by
 refine aW gT bWf bWg rfl rfl rfl bL aS (aA gT mxd ⟨[],aJe i h,rfl,rfl,rfl,λg hg=>⟨λh1=>aA gT mxd ?_,λh1=>aA gT mxd ⟨λh2=>aA gT mxd ?_,λh2=>aA gT mxd ?_⟩⟩⟩)
 all_goals replace hg:Ci g v:=hg
 ·exact⟨(),trivial,aM (show(-1:Int)=_ by unfold sgn;rw[if_pos (hg.1.1 h1)]) rfl trivial⟩
 all_goals
  have h3:¬v<0:=λh=>h1 (hg.1.2 h)
  have h4:=nQ (n:=v.natAbs)
  rw[hg.2,fD] at h2
 ·exact⟨(),trivial,aM (show(0:Int)=_ by unfold sgn;rw[if_neg h3,if_pos oM]) rfl trivial⟩
 exact⟨(),trivial,aM (show(1:Int)=_ by unfold sgn;rw[if_neg h3,if_neg oM]) rfl trivial⟩
abbrev bDd:FuncId:=75
theorem cGr:Ent Tryz.prog bDd:=aU func75 rfl kR
theorem cGs:Tryz.prog.funcs[bDd]? =some Tryz.f75:=func75
theorem aJg (i j:IntM) {a b:Int} (hi:In i a 17592186044416) (hj:In j b 17592186044416):Ctr Tryz.prog bDd [] [.a i.C,.a j.C] [] (yM (a+b)):=by
 have hli:=hi.ln
 have hlj:=hj.ln
 have hla:len (val i.m.l)<=17592186044416:=by rw[hi.abs];exact hi.len
 have hlb:len (val j.m.l)<=17592186044416:=by rw[hj.abs];exact hj.len
 refine aW gT cGr cGs rfl rfl rfl bL aS (aA gT mxd ⟨λh=>aA gT mxd ?_,λh=>aA gT mxd ?_⟩)
 ·refine⟨.seq [(0,false),(1,false),(2,false),(3,false),(4,false),(5,false),(6,false),(7,false),(8,true)],by kernel_rfl,[],bCk i.m j.m hi.lm hj.lm hli hlj,rfl,rfl,rfl,λg hg=>?_⟩
  replace hg:g.l=dE (val i.m.l+val j.m.l):=hg
  obtain⟨lg,vg⟩:=dg hg
  have:=zM (val i.m.l) (val j.m.l)
  refine⟨[],nY i.p g lg (dgl hg oM),rfl,rfl,rfl,λr hr=>⟨r,?_,aM rfl rfl trivial⟩⟩
  rw[<-hi.v,<-hj.v,bDb h,<-vg];exact hr
 refine⟨[],bCl i.m j.m hi.lm hj.lm hli hlj,rfl,rfl,rfl,λg hg=>⟨λh1=>aA gT mxd ?_,λh1=>aA gT mxd ?_⟩⟩
 ·replace hg:g.l=dE (val i.m.l-val j.m.l):=hg
  obtain⟨lg,vg⟩:=dg hg
  have:=aUh (val i.m.l) (val j.m.l)
  refine⟨[],nY i.p g lg (dgl hg oM),rfl,rfl,rfl,λr hr=>⟨r,?_,aM rfl rfl trivial⟩⟩
  rw[<-hi.v,<-hj.v,aJf h h1,<-vg];exact hr
 refine⟨[],bCl j.m i.m hj.lm hi.lm hlj hli,rfl,rfl,rfl,λg hg=>?_⟩
 replace hg:g.l=dE (val j.m.l-val i.m.l):=hg
 obtain⟨lg,vg⟩:=dg hg
 have:=aUh (val j.m.l) (val i.m.l)
 refine⟨[],nY j.p g lg (dgl hg oM),rfl,rfl,rfl,λr hr=>⟨r,?_,aM rfl rfl trivial⟩⟩
 rw[<-hi.v,<-hj.v,Int.add_comm,aJf (λh'=>h h'.symm) oM,<-vg];exact hr
abbrev bDe:FuncId:=197
theorem cGt:Ent Tryz.prog bDe:=aU func197 rfl kR
theorem cGu:Tryz.prog.funcs[bDe]? =some Tryz.f197:=func197
theorem bWh (i j:IntM) {a b:Int} (hi:In i a 17592186044416) (hj:In j b 17592186044416):Ctr Tryz.prog bDe [] [.a i.C,.a j.C] [] (yM (a-b)):=by
 refine aW gT cGt cGu rfl rfl rfl bL aS (aA gT mxd ⟨.seq [(0,false),(1,false),(2,false),(3,false),(4,true)],by kernel_rfl,[],aBl j hj.le,rfl,rfl,rfl,λg hg=>?_⟩)
 replace hg:Ci g (-b):=hg
 have hlb:=hj.len
 refine⟨[],aJg i g hi (hg.in (by rw[sK];exact hlb)),rfl,rfl,rfl,λr hr=>⟨r,?_,aM rfl rfl trivial⟩⟩
 rw[Int.sub_eq_add_neg];exact hr
abbrev bDf:FuncId:=76
theorem cGv:Ent Tryz.prog bDf:=aU func76 rfl kR
theorem cGw:Tryz.prog.funcs[bDf]? =some Tryz.f76:=func76
theorem yV (i j:IntM) {a b:Int} (hi:In i a 17592186044416) (hj:In j b 17592186044416):Ctr Tryz.prog bDf [] [.a i.C,.a j.C] [] (yM (a*b)):=by
 have hli:=hi.ln
 have hlj:=hj.ln
 have hla:len (val i.m.l)<=17592186044416:=by rw[hi.abs];exact hi.len
 have hlb:len (val j.m.l)<=17592186044416:=by rw[hj.abs];exact hj.len
 refine aW gT cGv cGw rfl rfl rfl bL aS (aA gT mxd ⟨.seq [(0,false),(1,false),(2,false),(3,false),(4,false),(5,false),(6,false),(7,false),(8,false),(9,false),(10,false),(11,true)],by kernel_rfl,[],cFt i.m j.m hi.lm hj.lm hli hlj,rfl,rfl,rfl,λg hg=>?_⟩)
 replace hg:g.l=dE (val i.m.l*val j.m.l):=hg
 obtain⟨lg,vg⟩:=dg hg
 have:=pU (val i.m.l) (val j.m.l)
 refine⟨[],nY (¬(i.p↔j.p)) g lg (dgl hg oM),rfl,rfl,rfl,λr hr=>⟨r,?_,aM rfl rfl trivial⟩⟩
 rw[<-hi.v,<-hj.v,bDc,<-vg];exact hr
abbrev bDg:FuncId:=136
theorem cGx:Ent Tryz.prog bDg:=aU func136 rfl kR
theorem cGy:Tryz.prog.funcs[bDg]? =some Tryz.f136:=func136
theorem bDh (i j:IntM) {a b:Int} (hi:In i a 13194139533312) (hj:In j b 13194139533312):Ctr Tryz.prog bDg [] [.a i.C,.a j.C] [] (yM (Int.gcd a b)):=by
 refine aW gT cGx cGy rfl rfl rfl bL aS (aA gT mxd ⟨[],cFz i.m j.m hi.lm hj.lm hi.ln hj.ln,rfl,rfl,rfl,λg hg=>?_⟩)
 replace hg:g.l=dE (Nat.gcd (val i.m.l) (val j.m.l)):=hg
 obtain⟨lg,vg⟩:=dg hg
 have hlg:len (Nat.gcd (val i.m.l) (val j.m.l))<=13194139533312:=by
  rcases cE (val i.m.l) with h0|h0
  ·rw[h0,Nat.gcd_zero_left,hj.abs];exact hj.len
  exact aJ (fY (Nat.le_of_dvd h0 (jJ _ _))) (by rw[hi.abs];exact hi.len)
 refine⟨[],nY (false=true) g lg (dgl hg oM),rfl,rfl,rfl,λr hr=>⟨r,?_,aM rfl rfl trivial⟩⟩
 have e:sg (false=true) (val g.l)=(Int.gcd a b:Int):=by rw[lJ dC,vg,hi.abs,hj.abs];rfl
 rw[<-e];exact hr
theorem bWi {m n:Nat} (hn:n≠0):(m:Int)/(n:Int)=(m/n:Nat)/\(m:Int)%(n:Int)=(m%n:Nat):=⟨by rw[uP],by rw[Int.natCast_emod]⟩
theorem bDi {m n:Nat} (hn:n≠0):(-(m:Int))/(n:Int)=(if m%n=0 then-((m/n:Nat):Int) else-((m/n:Nat):Int)-1)/\(-(m:Int))%(n:Int)=if m%n=0 then 0 else (n:Int)-(m%n:Nat):=by
 have h1:=fP m n
 have h2:=dM m (Nat.pos_of_ne_zero hn)
 have h3:(n:Int)*((m/n:Nat):Int)+((m%n:Nat):Int)=m:=by rw[<-gD,<-qR,h1]
 refine(Int.ediv_emod_unique oM).2 ?_
 split
 ·next h=>rw[h] at h3;rw[xR];omega
 next h=>rw[Int.mul_sub,xR,xO];omega
theorem bMj {p q:Prop} {m n:Nat} (hn:n≠0) (h:¬(p/\0<m%n)):sg p m/sg q n=sg (¬(p↔q)) (m/n)/\sg p m%sg q n=sg p (m%n):=by
 obtain⟨a1,a2⟩:=bWi (m:=m) hn
 obtain⟨b1,b2⟩:=bDi (m:=m) hn
 by_cases hp:p<;>by_cases hq:q
 ·have hz:m%n=0:=by have:¬0<m%n:=λh0=>h ⟨hp,h0⟩
                    omega
  rw[if_pos hz] at b1 b2
  rw[lI hp,lI hq,lJ (λh=>h ⟨λ_=>hq,λ_=>hp⟩),lI hp,Int.ediv_neg,Int.emod_neg,b1,b2,hz]
  omega
 ·have hz:m%n=0:=by have:¬0<m%n:=λh0=>h ⟨hp,h0⟩
                    omega
  rw[if_pos hz] at b1 b2
  rw[lI hp,lJ hq,lI (λh=>hq (h.1 hp)),lI hp,b1,b2,hz]
  omega
 ·rw[lJ hp,lI hq,lI (λh=>hp (h.2 hq)),lJ hp,Int.ediv_neg,Int.emod_neg,a1,a2]
  exact⟨rfl,rfl⟩
 rw[lJ hp,lJ hq,lJ (λh=>h ⟨λh=>absurd h hp,λh=>absurd h hq⟩),lJ hp,a1,a2]
 exact⟨rfl,rfl⟩
theorem bMk {p q:Prop} {m n:Nat} (hn:n≠0) (hp:p) (h:0<m%n):sg p m/sg q n=sg (¬(p↔q)) (m/n)+sg (¬q) 1/\sg p m%sg q n=sg p (m%n)+n:=by
 obtain⟨b1,b2⟩:=bDi (m:=m) hn
 rw[if_neg oM] at b1 b2
 by_cases hq:q
 ·rw[lI hp,lI hq,lJ (λh=>h ⟨λ_=>hq,λ_=>hp⟩),lI hp,lJ (λh=>h hq),Int.ediv_neg,Int.emod_neg,b1,b2]
  omega
 rw[lI hp,lJ hq,lI (λh=>hq (h.1 hp)),lI hp,lI hq,b1,b2]
 omega
theorem bWj {p:Prop} (h:p):(([]:List Key)=[]/\(([]:List Key)=[]/\([]:List Key)=[]/\([]:List Key)=[]/\([]:List Key)=[]/\p)/\([]:List Key)=[]/\([]:List Key)=[]/\([]:List Key)=[]/\([]:List Key)=[]/\p)/\([]:List Key)=[]/\([]:List Key)=[]/\([]:List Key)=[]/\([]:List Key)=[]/\([]:List Key)=[]/\p:=⟨⟨rfl,⟨rfl,rfl,rfl,rfl,h⟩,rfl,rfl,rfl,rfl,h⟩,rfl,rfl,rfl,rfl,rfl,h⟩
def oDM:Ord:=.treeX [] [] (tr2 0 (tr2 1 (trS [2,3,4]) 2 (trS [1,3,4])) 1 (trS [0,2,3,4]))
abbrev bWk:FuncId:=137
theorem cPq:Ent Tryz.prog bWk:=aU func137 rfl kR
theorem cPr:Tryz.prog.funcs[bWk]? =some Tryz.f137:=func137
theorem yF (i j:IntM) {a b:Int} (hi:In i a 13194139533312) (hj:In j b 13194139533312) (hb:b≠0):Ctr Tryz.prog bWk [] [.a i.C,.a j.C] [] (λg:IntM×IntM=>⟨.t [.a g.1.C,.a g.2.C,pC True],[],Ci g.1 (a/b)/\Ci g.2 (a%b)⟩):=by
 have hla:len (val i.m.l)<=13194139533312:=by rw[hi.abs];exact hi.len
 have hlb:len (val j.m.l)<=13194139533312:=by rw[hj.abs];exact hj.len
 have hb0:val j.m.l≠0:=by rw[hj.abs];omega
 refine aW gT cPq cPr rfl rfl rfl bL aS (aA gT mxd ⟨[],aNg i.m j.m hi.lm hj.lm hi.ln hj.ln,rfl,rfl,rfl,λ⟨Q,R⟩ ⟨hQ,hR⟩=>⟨λh=>absurd hb0 h,λh=>aA gT mxd ?_⟩⟩)
 replace hQ:Q.l=dE (val i.m.l/val j.m.l):=hQ
 replace hR:R.l=dE (aFx (val i.m.l) (val j.m.l)):=hR
 rw[aFx,if_neg hb0] at hR
 obtain⟨lQ,vQ⟩:=dg hQ
 obtain⟨lR,vR⟩:=dg hR
 have hlq:=fY (iL (val i.m.l) (val j.m.l))
 have hlr:=fY (Nat.mod_le (val i.m.l) (val j.m.l))
 have hlr2:=fY (eX (dM (val i.m.l) (Nat.pos_of_ne_zero hb0)))
 refine⟨.seq [(0,false),(1,false),(2,false),(3,false),(4,false),(5,false),(7,false),(8,false),(9,false),(6,false),(10,false),(11,true),(12,true)],by kernel_rfl,[],nY (¬(i.p↔j.p)) Q lQ (dgl hQ oM),rfl,rfl,rfl,λq hq=>⟨[],nY i.p R lR (dgl hR oM),rfl,rfl,rfl,λr hr=>⟨λh1=>aA gT mxd ?_,λh1=>aA gT mxd ?_⟩⟩⟩
 all_goals
  replace hq:Ci q (sg (¬(i.p↔j.p)) (val Q.l)):=hq
  replace hr:Ci r (sg i.p (val R.l)):=hr
  rw[vQ] at hq
  rw[vR] at hr
 ·have hn:=hr.1.1 h1
  rw[aJd] at hn
  obtain⟨e1,e2⟩:=bMk (q:=j.p) hb0 hn.1 hn.2
  rw[hi.v,hj.v] at e1 e2
  have hab:(b.natAbs:Int)=(val j.m.l:Nat):=by rw[hj.abs]
  refine⟨.seq [(0,false),(1,false),(2,false),(3,false),(4,true)],by kernel_rfl,[],bWc j hj.le,rfl,rfl,rfl,λab hab2=>⟨[],aJg r ab (hr.in (by rw[aEt];omega)) (Ci.in hab2 (by rw[eP,<-hj.abs];omega)),rfl,rfl,rfl,λr2 hr2=>?_⟩⟩
  replace hr2:Ci r2 (sg i.p (val i.m.l%val j.m.l)+b.natAbs):=hr2
  rw[hab,<-e2] at hr2
  have hq1:In q _ 17592186044416:=hq.in (by rw[aEt];omega)
  have l1:len (1:Int).natAbs<=17592186044416:=by decide
  refine⟨λh2=>aA gT mxd ?_,λh2=>aA gT mxd ?_⟩
  ·refine⟨.seq [(0,false),(1,false),(2,false),(3,true)],by kernel_rfl,[],yE (z:=1) dC,rfl,rfl,rfl,λone h1=>⟨[],aJg q one hq1 (Ci.in h1 l1),rfl,rfl,rfl,λq2 hq2=>⟨oDM,by kernel_rfl,bWj ⟨(q2,r2),⟨?_,hr2⟩,aM ⟨rfl,rfl,tt trivial⟩ rfl trivial⟩⟩⟩⟩
   rw[lJ (p:=¬j.p) (n:=1) (λh=>h h2)] at e1
   show Ci q2 _
   rw[e1];exact hq2
  refine⟨.seq [(0,false),(1,false),(2,false),(3,true)],by kernel_rfl,[],yE (z:=1) dC,rfl,rfl,rfl,λone h1=>⟨[],bWh q one hq1 (Ci.in h1 l1),rfl,rfl,rfl,λq2 hq2=>⟨oDM,by kernel_rfl,bWj ⟨(q2,r2),⟨?_,hr2⟩,aM ⟨rfl,rfl,tt trivial⟩ rfl trivial⟩⟩⟩⟩
  rw[lI (p:=¬j.p) (n:=1) h2] at e1
  show Ci q2 _
  rw[e1];exact hq2
 have hn:¬(i.p/\0<val i.m.l%val j.m.l):=λh=>h1 (hr.1.2 (aJd.2 h))
 obtain⟨e1,e2⟩:=bMj (q:=j.p) hb0 hn
 rw[hi.v,hj.v] at e1 e2
 refine⟨oDM,by kernel_rfl,bWj ⟨(q,r),⟨?_,?_⟩,aM ⟨rfl,rfl,tt trivial⟩ rfl trivial⟩⟩
 ·show Ci q _
  rw[e1];exact hq
 show Ci r _
 rw[e2];exact hr
end Go.Proofs.YtghncoghdcmdfaaGreat
namespace Go.Proofs.YtghncoghdcmdfaaGreat
open Go.Vg _root_.Go.Proofs.Tryz
open Go.Vm hiding sgn
open Go.Vy hiding val
abbrev aEu:FuncId:=210
theorem bDj:Ent Tryz.prog aEu:=aU func210 rfl kR
theorem bDk:Tryz.prog.funcs[aEu]? =some Tryz.f210:=func210
theorem oK (p:Prop) {hp:Decidable p} (m:Sl Nat) {n:Nat} (hm:m.l=dE n):Ctr Tryz.prog aEu [] [.c (.b p hp),.c (eK m)] [] (yM (sg p n)):=by
 refine aW gT bDj bDk rfl rfl rfl bL aS (aA gT mxd ⟨⟨p/\(0:Int)<(m.l.length:Nat),inferInstance,m⟩,⟨?_,?_⟩,aM rfl rfl trivial⟩)
 ·show p/\(0:Int)<(m.l.length:Nat)↔_
  rw[aJd,hm]
  have:=aUg (n:=n)
  unfold len at this
  constructor
  ·rintro⟨h1,h2⟩;exact⟨h1,this.1 oM⟩
  rintro⟨h1,h2⟩;exact⟨h1,by have:=this.2 h2;omega⟩
 rw[aEt];exact hm
theorem bDl {p:Prop} {n:Nat}:sg (¬p) n=-sg p n:=by
 by_cases hp:p
 ·rw[lI hp,lJ (λh=>h hp)];omega
 rw[lJ hp,lI hp]
abbrev aJh:FuncId:=215
theorem bMl:Ent Tryz.prog aJh:=aU func215 rfl kR
theorem bMm:Tryz.prog.funcs[aJh]? =some Tryz.f215:=func215
theorem bDm (i:IntM) {v:Int} (h:In i v 35184372088832):Ctr Tryz.prog aJh [] [.a i.C] [] (yM v):=by
 refine aW gT bMl bMm rfl rfl rfl bL aS (aA gT mxd ⟨.seq [(0,false),(1,false),(2,false),(3,false),(4,false),(5,true),(6,true)],by kernel_rfl,[],aAi i.m h.lm h.ln,rfl,rfl,rfl,λm hm=>⟨[],oK i.p m hm,rfl,rfl,rfl,λg hg=>⟨g,?_,aM rfl rfl trivial⟩⟩⟩)
 rw[<-h.v];exact hg
abbrev aQk:FuncId:=221
theorem bWl:Ent Tryz.prog aQk:=aU func221 rfl kR
theorem bWm:Tryz.prog.funcs[aQk]? =some Tryz.f221:=func221
theorem bMn (i:IntM) {v:Int} (h:In i v 35184372088832):Ctr Tryz.prog aQk [] [.a i.C] [] (yM (-v)):=by
 refine aW gT bWl bWm rfl rfl rfl bL aS (aA gT mxd ⟨.seq [(0,false),(1,false),(2,false),(3,false),(4,false),(5,false),(6,true),(7,true)],by kernel_rfl,[],aAi i.m h.lm h.ln,rfl,rfl,rfl,λm hm=>⟨[],oK (¬i.p) m hm,rfl,rfl,rfl,λg hg=>⟨g,?_,aM rfl rfl trivial⟩⟩⟩)
 rw[<-h.v,<-bDl];exact hg
theorem aUj (x:Sl Nat) (hx:Lm x.l) (hn:x.l.length<=35184372088832):Ctr Tryz.prog aIw [] [.c (eK x),.c (.v (.slice none 0 0))] [] (λ_:Unit=>⟨.c (iC (rU (val x.l) (0:Nat))),[],True⟩):=
 (uY x cP hx Lm.nil hn bL).arg λ_ _ _=>HL.cons (λ_ h=>h) (HL.cons (λv h=>Hd.nilr v h) λ_ h=>h)
theorem bDn {n:Nat}:rU (n:Int) (0:Nat)=0↔n=0:=by unfold rU;constructor<;>intro h<;>(repeat split at*)<;>omega
abbrev aJi:FuncId:=157
theorem bMo:Ent Tryz.prog aJi:=aU func157 rfl kR
theorem bMp:Tryz.prog.funcs[aJi]? =some Tryz.f157:=func157
theorem aEv (i:IntM) {v:Int} (h:In i v 35184372088832):Ctr Tryz.prog aJi [] [.a i.C] [] (λ_:Unit=>⟨.c (iC (sgn v)),[],True⟩):=by
 refine aW gT bMo bMp rfl rfl rfl bL aS (aA gT mxd ⟨[],aUj i.m h.lm h.ln,rfl,rfl,rfl,λ_ _=>⟨λh1=>aA gT mxd ?_,λh1=>aA gT mxd ⟨λh2=>aA gT mxd ?_,λh2=>aA gT mxd ?_⟩⟩⟩)
 all_goals
  have hv:=h.v
  have ha:=h.abs
  refine⟨(),trivial,aM ?_ rfl trivial⟩
 ·have:=bDn.1 h1
  show(0:Int)=_
  unfold sgn;rw[if_neg oM,if_pos oM]
 ·have h3:val i.m.l≠0:=λh=>h1 (bDn.2 h)
  rw[lI h2] at hv
  show(-1:Int)=_
  unfold sgn;rw[if_pos oM]
 have h3:val i.m.l≠0:=λh=>h1 (bDn.2 h)
 rw[lJ h2] at hv
 show(1:Int)=_
 unfold sgn;rw[if_neg oM,if_neg oM]
abbrev aQl:FuncId:=206
theorem bWn:Ent Tryz.prog aQl:=aU func206 rfl kR
theorem bWo:Tryz.prog.funcs[aQl]? =some Tryz.f206:=func206
theorem aUk (i j:IntM) {a b:Int} (hi:In i a 17592186044416) (hj:In j b 17592186044416):Ctr Tryz.prog aQl [] [.a i.C,.a j.C] [] (yM (a+b)):=by
 have hli:=hi.ln
 have hlj:=hj.ln
 refine aW gT bWn bWo rfl rfl rfl bL aS (aA gT mxd ⟨λh=>aA gT mxd ?_,λh=>aA gT mxd ?_⟩)
 ·refine⟨.seq [(0,false),(1,false),(2,false),(3,false),(4,false),(5,false),(6,false),(7,true),(8,true)],by kernel_rfl,[],bMa i.m j.m hi.lm hj.lm hli hlj,rfl,rfl,rfl,λg hg=>⟨[],oK i.p g hg,rfl,rfl,rfl,λr hr=>⟨r,?_,aM rfl rfl trivial⟩⟩⟩
  rw[<-hi.v,<-hj.v,bDb h];exact hr
 refine⟨[],aIy i.m j.m hi.lm hj.lm oM oM,rfl,rfl,rfl,λg hg=>⟨λh1=>aA gT mxd ?_,λh1=>aA gT mxd ?_⟩⟩
 ·refine⟨[],oK i.p g hg,rfl,rfl,rfl,λr hr=>⟨r,?_,aM rfl rfl trivial⟩⟩
  rw[<-hi.v,<-hj.v,aJf h h1];exact hr
 refine⟨[],aIy j.m i.m hj.lm hi.lm oM oM,rfl,rfl,rfl,λg hg=>⟨[],oK j.p g hg,rfl,rfl,rfl,λr hr=>⟨r,?_,aM rfl rfl trivial⟩⟩⟩
 rw[<-hi.v,<-hj.v,Int.add_comm,aJf (λh'=>h h'.symm) oM];exact hr
abbrev aQm:FuncId:=163
theorem bWp:Ent Tryz.prog aQm:=aU func163 rfl kR
theorem bWq:Tryz.prog.funcs[aQm]? =some Tryz.f163:=func163
theorem aAk (i j:IntM) {a b:Int} (hi:In i a 17592186044416) (hj:In j b 17592186044416):Ctr Tryz.prog aQm [] [.a i.C,.a j.C] [] (yM (a*b)):=by
 refine aW gT bWp bWq rfl rfl rfl bL aS (aA gT mxd ⟨.seq [(0,false),(1,false),(2,false),(3,false),(4,false),(5,false),(6,false),(7,false),(8,false),(9,false),(10,true),(11,true)],by kernel_rfl,[],aAj i.m j.m hi.lm hj.lm hi.ln hj.ln,rfl,rfl,rfl,λg hg=>⟨[],oK (¬(i.p↔j.p)) g hg,rfl,rfl,rfl,λr hr=>⟨r,?_,aM rfl rfl trivial⟩⟩⟩)
 rw[<-hi.v,<-hj.v,bDc];exact hr
abbrev aJj:FuncId:=183
theorem bMq:Ent Tryz.prog aJj:=aU func183 rfl kR
theorem bMr:Tryz.prog.funcs[aJj]? =some Tryz.f183:=func183
theorem bDo {z:Int} (hz:-9223372036854775808<=z/\z<=9223372036854775807):Ctr Tryz.prog aJj [] [.c (iC z)] [] (yM z):=by
 refine aW gT bMq bMr rfl rfl rfl bL aS (aA gT mxd ⟨λh=>aA gT mxd ?_,λh=>aA gT mxd ?_⟩)
 ·refine⟨(18446744073709551616-z.natAbs:Nat),show _=_ by rw[IntKind.wrap_u64];omega,(z.natAbs:Nat),show _=_ by rw[IntKind.wrap_u64];omega,[],nT (n:=z.natAbs) oM,rfl,rfl,rfl,λg hg=>⟨[],oK (true=true) g hg,rfl,rfl,rfl,λr hr=>⟨r,?_,aM rfl rfl trivial⟩⟩⟩
  have e:sg (true=true) z.natAbs=z:=by rw[lI rfl];omega
  rw[<-e];exact hr
 refine⟨(z.natAbs:Nat),wu,[],nT (n:=z.natAbs) oM,rfl,rfl,rfl,λg hg=>⟨[],oK (false=true) g hg,rfl,rfl,rfl,λr hr=>⟨r,?_,aM rfl rfl trivial⟩⟩⟩
 have e:sg (false=true) z.natAbs=z:=by rw[lJ dC];omega
 rw[<-e];exact hr
end Go.Proofs.YtghncoghdcmdfaaGreat
namespace Go.Proofs.YtghncoghdcmdfaaGreat
open Go.Vg _root_.Go.Proofs.Tryz
open Go.Vm
open Go.Vy hiding val
structure RatM where
 n:IntM
 d:Sl Nat
def RatM.C (r:RatM):List CV:=[.b r.n.p r.n.d,eK r.n.m,eK r.d]
structure Rq (r:RatM) (q:Rat) (B:Nat):Prop where
 n:In r.n (sg r.n.p (val r.n.m.l)) B
 ld:Lm r.d.l
 bd:r.d.l.length<=B
 v:Rat.divInt (sg r.n.p (val r.n.m.l)) (val r.d.l)=q
def Cr (r:RatM) (q:Rat):Prop:=Ci r.n q.num/\r.d.l=dE q.den
abbrev rV (q:Rat):RatM->Out:=λg=>⟨.a g.C,[],Cr g q⟩
def rb (q:Rat) (B:Nat):Prop:=len q.num.natAbs<=B/\len q.den<=B
theorem Rq.rb {r:RatM} {q:Rat} {B:Nat} (h:Rq r q B) (hB:1<=B:=by decide):rb q B:=by
 have h1:=aBc (a:=sg r.n.p (val r.n.m.l)) (b:=(val r.d.l:Nat))
 have h2:=aBd (a:=sg r.n.p (val r.n.m.l)) (b:=(val r.d.l:Nat))
 rw[h.v] at h1 h2
 rw[eP] at h2
 have h3:=h.n.len
 have h4:=aJ (dY h.ld) h.bd
 refine⟨aJ h1 h3,aJ h2 ?_⟩
 simp only[fD]
 omega
theorem Cr.rq {r:RatM} {q:Rat} {B:Nat} (h:Cr r q) (hb:Go.Proofs.YtghncoghdcmdfaaGreat.rb q B):Rq r q B:=by
 obtain⟨ld,vd⟩:=dg h.2
 have h1:=h.1.in hb.1
 refine⟨⟨h1.lm,h1.ln,rfl⟩,ld,by rw[h.2];exact hb.2,?_⟩
 rw[h1.v,vd,iP]
theorem Rq.le {r:RatM} {q:Rat} {B B':Nat} (h:Rq r q B) (hb:B<=B':=by omega):Rq r q B':=⟨h.n.le hb,h.ld,aJ h.bd hb,h.v⟩
theorem rb.le {q:Rat} {B B':Nat} (h:rb q B) (hb:B<=B':=by omega):rb q B':=⟨aJ h.1 hb,aJ h.2 hb⟩
abbrev aUl:FuncId:=25
theorem cGz:Ent Tryz.prog aUl:=aU func25 rfl kR
theorem cHa:Tryz.prog.funcs[aUl]? =some Tryz.f25:=func25
theorem aJk:Ctr Tryz.prog aUl [] [] [] (rV 0):=by
 have h0:Ctr Tryz.prog aUl [] [] [] (λ_:Unit=>⟨.a [.b (false=true) inferInstance,.s 1 0,.s 2 1],[(62,0,[.b (false=true) inferInstance,.s 1 0,.s 2 1]),(123,1,[]),(123,1,[uC 1])],True⟩):=by
  refine aW gT cGz cHa rfl rfl rfl bL aS (aA gT mxd ?_)
  exact⟨(),trivial,fH rfl ⟨rfl,rfl,rfl⟩ (aC _) (aB rfl (aB rfl (aB rfl aY))) rfl aCl⟩
 refine(CtrF.gt h0 λ_ _ _=>?_)
 refine bQw tGt 0 1 1 (λj=>[uC (([]:List Nat).getD j default)]) rfl rfl rfl rfl (λj hj=>absurd hj (aF _)) rfl dN (λc hc=>by cases hc) (aC _) λA c _ _=>⟨aAf [1],?_⟩
 refine bQw tGt 0 2 2 (λj=>[uC ([1].getD j default)]) rfl rfl rfl rfl (λj hj=>mS (x:=[1]) j hj) rfl dN (iV [1]) (aC _) λA2 c2 _ _=>⟨λc hc=>(by cases hc),?_⟩
 exact bH (M:=λ_=>true) (base:=[]) (chg:=λg:RatM=>[(0,.a g.C)]) (bls:=λ_=>[]) (fls:=λ_=>[]) (λt d ht=>by cases ht) ⟨⟨false=true,inferInstance,⟨A,c,[]⟩⟩,⟨A2,c2,[1]⟩⟩ ⟨⟨⟨⟨λh=>(by cases h),λh=>absurd (show(0:Int)<0 from h) dC⟩,rfl⟩,rfl⟩,aCl⟩ rfl trivial trivial rfl (aI _) (λi T es l hi=>by cases hi) rfl
theorem fS {z:Int}:sgn z=0↔z=0:=by unfold sgn;constructor<;>intro h<;>(repeat split at*)<;>omega
theorem bDp {n:Nat} (h:dE n=[1]):n=1:=by have:=congrArg Vm.val h;rw[zL] at this;exact this
theorem aUm {a b:Int} {B:Nat} (ha:len a.natAbs<=B) (hb:len b.natAbs<=B):len (Int.gcd a b:Int).natAbs<=B:=by
 rw[eP]
 rcases cE a.natAbs with h0|h0
 ·rw[Int.gcd,h0,Nat.gcd_zero_left];exact hb
 exact aJ (fY (Nat.le_of_dvd h0 (jJ _ _))) ha
theorem aCy {a b:Int} {B:Nat} (ha:len a.natAbs<=B):len (a/b).natAbs<=B:=aJ (fY (sT a b)) ha
abbrev aQn:FuncId:=74
theorem bWr:Ent Tryz.prog aQn:=aU func74 rfl kR
theorem bWs:Tryz.prog.funcs[aQn]? =some Tryz.f74:=func74
theorem vF (i j:IntM) {a b:Int} (hi:In i a 13194139533312) (hj:In j b 13194139533312):Ctr Tryz.prog aQn [] [.a i.C,.a j.C] [] (rV (Rat.divInt a b)):=by
 have hla:=hi.len
 have hlb:=hj.len
 refine aW gT bWr bWs rfl rfl rfl bL aS (aA gT mxd ⟨[],aUi j hj.le,rfl,rfl,rfl,λ_ _=>⟨λh=>aA gT mxd ?_,λh=>aA gT mxd ?_⟩⟩)
 ·have hb:=fS.1 h
  refine⟨[],aJk,rfl,rfl,rfl,λg hg=>⟨g,?_,aM rfl rfl trivial⟩⟩
  rw[hb,wF];exact hg
 have hb:b≠0:=λe=>h (fS.2 e)
 have hml:=aMc (zx:=a) hb
 have hg0:((Int.gcd a b:Nat):Int)≠0:=by have:=qT a hb;omega
 refine⟨[],aJe j hj.le,rfl,rfl,rfl,λg hg=>?_⟩
 replace hg:Ci g b:=hg
 refine⟨λhn=>?_,λhn=>?_⟩
 ·refine⟨some (λj=>[uC ([1].getD j default)]),⟨⟨aC _,dN⟩,rfl,λj hj=>mS (x:=[1]) j hj,iV [1]⟩,λA c _ _=>⟨[],aIr g.m ⟨A,c,[1]⟩,rfl,rfl,rfl,λ_ _=>⟨λh1=>aA gT mxd ?_,λh1=>aA gT mxd ?_⟩⟩⟩
  ·have hb1:b=1:=by
    have e1:g.m.l=[1]:=h1
    have e2:dE b.natAbs=[1]:=hg.2▸e1
    have e3:=bDp e2
    have e4:¬b<0:=λh=>hn (hg.1.2 h)
    omega
   refine⟨.seq [(0,false),(2,false),(3,false),(1,false),(4,false),(5,true)],by kernel_rfl,[],aJe i hi.le,rfl,rfl,rfl,λx hx=>⟨⟨x,g.m⟩,?_,aM rfl rfl trivial⟩⟩
   rw[hb1]
   refine⟨?_,?_⟩
   ·show Ci x _
    rw[(uT a).1];exact hx
   show g.m.l=_
   rw[(uT a).2];exact h1
  refine⟨[],bDh i j hi hj,rfl,rfl,rfl,λx hx=>?_⟩
  have hx1:=Ci.in (B:=13194139533312) hx (aUm hla hlb)
  refine⟨[],yF i x hi hx1 hg0,rfl,rfl,rfl,λ⟨q1,r1⟩ ⟨hq1,_⟩=>⟨[],yF j x hj hx1 hg0,rfl,rfl,rfl,λ⟨q2,r2⟩ ⟨hq2,_⟩=>⟨λh2=>aA gT mxd ?_,λh2=>aA gT mxd ?_⟩⟩⟩
  ·obtain⟨m1,m2⟩:=hml.1 (hq2.1.1 h2)
   refine⟨.seq [(0,false),(2,false),(1,false),(3,false),(4,true),(5,true)],by kernel_rfl,[],aBl q1 (v:=a/(Int.gcd a b:Int)) (Ci.in hq1 (aJ (aCy hla) dC)),rfl,rfl,rfl,λn1 hn1=>⟨[],aBl q2 (v:=b/(Int.gcd a b:Int)) (Ci.in hq2 (aJ (aCy hlb) dC)),rfl,rfl,rfl,λd1 hd1=>⟨⟨n1,d1.m⟩,⟨?_,?_⟩,aM rfl rfl trivial⟩⟩⟩
   ·show Ci n1 _
    rw[m1];exact hn1
   show d1.m.l=_
   rw[m2];exact hd1.2
  obtain⟨m1,m2⟩:=hml.2 λh=>h2 (hq2.1.2 h)
  refine⟨⟨q1,q2.m⟩,⟨?_,?_⟩,aM rfl rfl trivial⟩
  ·show Ci q1 _
   rw[m1];exact hq1
  show q2.m.l=_
  rw[m2];exact hq2.2
 refine⟨[],bDh i j hi hj,rfl,rfl,rfl,λx hx=>?_⟩
 have hx1:=Ci.in (B:=13194139533312) hx (aUm hla hlb)
 refine⟨[],yF i x hi hx1 hg0,rfl,rfl,rfl,λ⟨q1,r1⟩ ⟨hq1,_⟩=>⟨[],yF j x hj hx1 hg0,rfl,rfl,rfl,λ⟨q2,r2⟩ ⟨hq2,_⟩=>⟨λh2=>aA gT mxd ?_,λh2=>aA gT mxd ?_⟩⟩⟩
 ·obtain⟨m1,m2⟩:=hml.1 (hq2.1.1 h2)
  refine⟨.seq [(0,false),(2,false),(1,false),(3,false),(4,true),(5,true)],by kernel_rfl,[],aBl q1 (v:=a/(Int.gcd a b:Int)) (Ci.in hq1 (aJ (aCy hla) dC)),rfl,rfl,rfl,λn1 hn1=>⟨[],aBl q2 (v:=b/(Int.gcd a b:Int)) (Ci.in hq2 (aJ (aCy hlb) dC)),rfl,rfl,rfl,λd1 hd1=>⟨⟨n1,d1.m⟩,⟨?_,?_⟩,aM rfl rfl trivial⟩⟩⟩
  ·show Ci n1 _
   rw[m1];exact hn1
  show d1.m.l=_
  rw[m2];exact hd1.2
 obtain⟨m1,m2⟩:=hml.2 λh=>h2 (hq2.1.2 h)
 refine⟨⟨q1,q2.m⟩,⟨?_,?_⟩,aM rfl rfl trivial⟩
 ·show Ci q1 _
  rw[m1];exact hq1
 show q2.m.l=_
 rw[m2];exact hq2.2
def sq (n:Nat) (l:List Nat):List (Nat×Bool):=l.map λi=>(i,i==n)
theorem In.den {X:Sl Nat} {B:Nat} (hl:Lm X.l) (hb:X.l.length<=B):In ⟨false=true,inferInstance,X⟩ (val X.l) B:=⟨hl,hb,lJ (p:=false=true) (λh=>by cases h)⟩
theorem Ci.den {X:Sl Nat} {n:Nat} (h:X.l=dE n):Ci ⟨false=true,inferInstance,X⟩ (n:Int):=⟨⟨λh=>(by cases h),λh=>by omega⟩,by rw[eP];exact h⟩
abbrev aQo:FuncId:=73
theorem bWt:Ent Tryz.prog aQo:=aU func73 rfl kR
theorem bWu:Tryz.prog.funcs[aQo]? =some Tryz.f73:=func73
theorem gX (r:RatM) {q:Rat} (h:Rq r q 13194139533312):Ctr Tryz.prog aQo [] [.a r.C] [] (rV q):=by
 refine aW gT bWt bWu rfl rfl rfl bL aS (aA gT mxd ⟨[],vF r.n ⟨false=true,inferInstance,r.d⟩ h.n (In.den h.ld h.bd),rfl,rfl,rfl,λg hg=>⟨g,?_,aM rfl rfl trivial⟩⟩)
 rw[<-h.v];exact hg
abbrev bDq:FuncId:=77
theorem cHb:Ent Tryz.prog bDq:=aU func77 rfl kR
theorem cHc:Tryz.prog.funcs[bDq]? =some Tryz.f77:=func77
theorem vG (r:RatM) {q:Rat} (h:Rq r q 13194139533312):Ctr Tryz.prog bDq [] [.a r.C] [] (yM (q.den:Int)):=by
 refine aW gT cHb cHc rfl rfl rfl bL aS (aA gT mxd ⟨[],gX r h,rfl,rfl,rfl,λg hg=>⟨⟨false=true,inferInstance,g.d⟩,Ci.den hg.2,aM rfl rfl trivial⟩⟩)
abbrev aQp:FuncId:=43
theorem bWv:Ent Tryz.prog aQp:=aU func43 rfl kR
theorem bWw:Tryz.prog.funcs[aQp]? =some Tryz.f43:=func43
theorem tC {z:Int} (hz:-9223372036854775808<=z/\z<=9223372036854775807):Ctr Tryz.prog aQp [] [.c (iC z)] [] (rV (z:Rat)):=by
 have hl:=rD (n:=z.natAbs)
 refine aW gT bWv bWw rfl rfl rfl bL aS (aA gT mxd ⟨[],yE hz,rfl,rfl,rfl,λg hg=>⟨[],yE (z:=1) dC,rfl,rfl,rfl,λo ho=>⟨[],vF g o (Ci.in hg oM) (Ci.in ho dC),rfl,rfl,rfl,λr hr=>⟨r,?_,aM rfl rfl trivial⟩⟩⟩⟩)
 rw[<-bKp];exact hr
abbrev aQq:FuncId:=78
theorem bWx:Ent Tryz.prog aQq:=aU func78 rfl kR
theorem bWy:Tryz.prog.funcs[aQq]? =some Tryz.f78:=func78
theorem aCz (r:RatM) {q:Rat} (h:Rq r q 13194139533312):Ctr Tryz.prog aQq [] [.a r.C] [] (λ_:Unit=>⟨.c (iC (sgn q.num)),[],True⟩):=by
 refine aW gT bWx bWy rfl rfl rfl bL aS (aA gT mxd ⟨[],gX r h,rfl,rfl,rfl,λg hg=>⟨[],aUi g.n (Ci.in hg.1 (h.rb.le).1),rfl,rfl,rfl,λ_ _=>⟨(),trivial,aM rfl rfl trivial⟩⟩⟩)
theorem xA {q:Rat} {B:Nat} (h:rb q B):rb (-q) B:=by
 unfold rb at h ⊢
 rw[show(-q).num=-q.num from rfl,show(-q).den=q.den from rfl,sK];exact h
abbrev bDr:FuncId:=143
theorem cHd:Ent Tryz.prog bDr:=aU func143 rfl kR
theorem cHe:Tryz.prog.funcs[bDr]? =some Tryz.f143:=func143
theorem bWz (r:RatM) {q:Rat} (h:Rq r q 13194139533312):Ctr Tryz.prog bDr [] [.a r.C] [] (rV (-q)):=by
 have hb:=h.rb
 refine aW gT cHd cHe rfl rfl rfl bL aS (aA gT mxd ⟨.seq [(0,false),(4,false),(1,false),(2,false),(3,false),(5,false),(6,false),(7,true)],by kernel_rfl,[],gX r h,rfl,rfl,rfl,λg hg=>⟨[],aBl g.n (v:=q.num) (Ci.in hg.1 (hb.le).1),rfl,rfl,rfl,λn hn=>⟨[],vG r h,rfl,rfl,rfl,λd hd=>⟨[],vF n d (Ci.in hn (by rw[sK];exact hb.1)) (Ci.in hd hb.2),rfl,rfl,rfl,λx hx=>⟨x,?_,aM rfl rfl trivial⟩⟩⟩⟩⟩)
 rw[<-aZq];exact hx
theorem vH {a b:Int} {B:Nat} (ha:len a.natAbs<=B) (hb:len b.natAbs<=B):len (a*b).natAbs<=B+B:=by
 rw[lT]
 have:=pU a.natAbs b.natAbs
 omega
theorem aJl {a b:Int} {B:Nat} (ha:len a.natAbs<=B) (hb:len b.natAbs<=B):len (a+b).natAbs<=B+1:=by
 have h1:=fY (Int.natAbs_add_le a b)
 have h2:=zM a.natAbs b.natAbs
 omega
def oA:Ord:=.joinX [] [0,2] (.alt 1 (.alt 3 (.alt 4 (trS [5,1006,1007]) (trS [5,4,1006,1007])) (.alt 4 (.alt 3 (trS [5,1006,1007]) (trS [5,3,1006,1007])) (.alt 5 (.alt 3 (trS [4,1006,1007]) (trS [4,3,1006,1007])) .nil))) (.alt 4 (.alt 1 (.alt 3 (trS [5,1006,1007]) (trS [5,3,1006,1007])) (trS [5,1,3,1006,1007])) (.alt 5 (.alt 1 (.alt 3 (trS [4,1006,1007]) (trS [4,3,1006,1007])) (trS [4,1,3,1006,1007])) .nil)))
def aBm (r s:RatM) (g:RatM×RatM):List (Nat×DV):=[(5,.c (.p 3 0)),(6,.c (.p 4 0)),(2,.c (.p 0 0)),(3,.c (.p 1 0)),(4,.c (.p 2 0))]
def vI:List CV:=[.b (false=true) inferInstance,.v (.slice none 0 0),.v (.slice none 0 0)]
def yW (r s:RatM) (g:RatM×RatM):BL:=[(62,0,r.C),(62,0,s.C),(62,0,vI),(62,0,g.1.C),(62,0,g.2.C)]
theorem gsw {nb:Nat} {s:SS} {σ:Type} {S:σ->SS} {C:σ->Prop} (i j:Nat) {bi bj:TypeId×Nat×List CV} (hbi:s.bl[i]? =some bi) (hbj:s.bl[j]? =some bj) (hni:nb<=i) (hnj:nb<=j) (hgl:s.gl=[])
 (h:aXt (swC i j) s.sl λsl'=>mO s.bl i bj λbl1=>mO bl1 j bi λbl2=>aGb (swC i j) 1000000 0 bl2 λbl'=>bl'.length<=1000000/\Gt nb ⟨sl',[],bl',s.fl⟩ S C):Gt nb s S C:=aTy (X:=λt=>Gt nb t S C) tGt i j hbi hbj hni hnj hgl h
theorem g0:∀t d,fZ [] t=some d->(λ_:Nat=>true) t=false:=λt d h=>by cases h
theorem scA {r s:RatM} {g:RatM×RatM}:scB (yW r s g).length (yW r s g):=aB rfl (aB rfl (aB rfl (aB rfl (aB rfl aY))))
abbrev bDs:FuncId:=26
theorem cHf:Ent Tryz.prog bDs:=aU func26 rfl kR
theorem cHg:Tryz.prog.funcs[bDs]? =some Tryz.f26:=func26
theorem aQr (r s:RatM) {a b:Rat} (hr:Rq r a 4398046511104) (hs:Rq s b 4398046511104):Ctr Tryz.prog bDs [] [.a r.C,.a s.C] [] (rV (a+b)):=by
 have ha:=hr.rb
 have hb:=hs.rb
 have m1:=vH ha.1 (b:=(b.den:Int)) hb.2
 have m2:=vH hb.1 (b:=(a.den:Int)) ha.2
 have m3:=vH (a:=(a.den:Int)) (b:=(b.den:Int)) ha.2 hb.2
 have m4:=aJl m1 m2
 refine aW gT cHf cHg rfl rfl rfl bL aS (aA gT mxd ⟨oA,by kernel_rfl,RatM×RatM,λg=>⟨aBm r s g++[],[],yW r s g,[]⟩,λg=>Cr g.1 a/\Cr g.2 b,⟨⟨[],gX r hr.le,rfl,rfl,rfl,λx hx=>⟨rfl,⟨⟨[],gX s hs.le,rfl,rfl,rfl,λy hy=>⟨rfl,⟨⟨rfl,⟨rfl,bH g0 (chg:=aBm r s) (bls:=yW r s) (fls:=λ_=>[]) (x,y) ⟨hx,hy⟩ rfl ⟨rfl,rfl,rfl,rfl,rfl⟩ trivial ⟨rfl,rfl,rfl,rfl,rfl⟩ bL scA rfl⟩⟩,⟨rfl,⟨rfl,gsw 3 4 rfl rfl bL bL rfl ⟨bL,bH g0 (chg:=aBm r s) (bls:=yW r s) (fls:=λ_=>[]) (x,y) ⟨hx,hy⟩ rfl ⟨rfl,rfl,rfl,rfl,rfl⟩ trivial ⟨rfl,rfl,rfl,rfl,rfl⟩ bL scA rfl⟩⟩⟩⟩⟩⟩,⟨⟨rfl,⟨⟨[],gX s hs.le,rfl,rfl,rfl,λy hy=>⟨rfl,⟨rfl,bH g0 (chg:=aBm r s) (bls:=yW r s) (fls:=λ_=>[]) (x,y) ⟨hx,hy⟩ rfl ⟨rfl,rfl,rfl,rfl,rfl⟩ trivial ⟨rfl,rfl,rfl,rfl,rfl⟩ bL scA rfl⟩⟩⟩,⟨rfl,⟨[],gX s hs.le,rfl,rfl,rfl,λy hy=>⟨rfl,bH g0 (chg:=aBm r s) (bls:=yW r s) (fls:=λ_=>[]) (x,y) ⟨hx,hy⟩ rfl ⟨rfl,rfl,rfl,rfl,rfl⟩ trivial ⟨rfl,rfl,rfl,rfl,rfl⟩ bL scA rfl⟩⟩⟩⟩⟩,⟨rfl,⟨⟨[],gX s hs.le,rfl,rfl,rfl,λy hy=>⟨rfl,⟨rfl,gsw 3 4 rfl rfl bL bL rfl ⟨bL,bH g0 (chg:=aBm r s) (bls:=yW r s) (fls:=λ_=>[]) (x,y) ⟨hx,hy⟩ rfl ⟨rfl,rfl,rfl,rfl,rfl⟩ trivial ⟨rfl,rfl,rfl,rfl,rfl⟩ bL scA rfl⟩⟩⟩⟩,⟨rfl,⟨[],gX s hs.le,rfl,rfl,rfl,λy hy=>⟨rfl,gsw 3 4 rfl rfl bL bL rfl ⟨bL,bH g0 (chg:=aBm r s) (bls:=yW r s) (fls:=λ_=>[]) (x,y) ⟨hx,hy⟩ rfl ⟨rfl,rfl,rfl,rfl,rfl⟩ trivial ⟨rfl,rfl,rfl,rfl,rfl⟩ bL scA rfl⟩⟩⟩⟩⟩⟩⟩⟩⟩⟩,⟨⟨rfl,⟨⟨[],gX r hr.le,rfl,rfl,rfl,λx hx=>⟨rfl,⟨⟨[],gX s hs.le,rfl,rfl,rfl,λy hy=>⟨rfl,⟨rfl,bH g0 (chg:=aBm r s) (bls:=yW r s) (fls:=λ_=>[]) (x,y) ⟨hx,hy⟩ rfl ⟨rfl,rfl,rfl,rfl,rfl⟩ trivial ⟨rfl,rfl,rfl,rfl,rfl⟩ bL scA rfl⟩⟩⟩,⟨rfl,⟨[],gX s hs.le,rfl,rfl,rfl,λy hy=>⟨rfl,bH g0 (chg:=aBm r s) (bls:=yW r s) (fls:=λ_=>[]) (x,y) ⟨hx,hy⟩ rfl ⟨rfl,rfl,rfl,rfl,rfl⟩ trivial ⟨rfl,rfl,rfl,rfl,rfl⟩ bL scA rfl⟩⟩⟩⟩⟩⟩,⟨rfl,⟨[],gX r hr.le,rfl,rfl,rfl,λx hx=>⟨rfl,⟨[],gX s hs.le,rfl,rfl,rfl,λy hy=>⟨rfl,bH g0 (chg:=aBm r s) (bls:=yW r s) (fls:=λ_=>[]) (x,y) ⟨hx,hy⟩ rfl ⟨rfl,rfl,rfl,rfl,rfl⟩ trivial ⟨rfl,rfl,rfl,rfl,rfl⟩ bL scA rfl⟩⟩⟩⟩⟩⟩⟩,⟨rfl,⟨⟨[],gX r hr.le,rfl,rfl,rfl,λx hx=>⟨rfl,⟨⟨[],gX s hs.le,rfl,rfl,rfl,λy hy=>⟨rfl,⟨rfl,gsw 3 4 rfl rfl bL bL rfl ⟨bL,bH g0 (chg:=aBm r s) (bls:=yW r s) (fls:=λ_=>[]) (x,y) ⟨hx,hy⟩ rfl ⟨rfl,rfl,rfl,rfl,rfl⟩ trivial ⟨rfl,rfl,rfl,rfl,rfl⟩ bL scA rfl⟩⟩⟩⟩,⟨rfl,⟨[],gX s hs.le,rfl,rfl,rfl,λy hy=>⟨rfl,gsw 3 4 rfl rfl bL bL rfl ⟨bL,bH g0 (chg:=aBm r s) (bls:=yW r s) (fls:=λ_=>[]) (x,y) ⟨hx,hy⟩ rfl ⟨rfl,rfl,rfl,rfl,rfl⟩ trivial ⟨rfl,rfl,rfl,rfl,rfl⟩ bL scA rfl⟩⟩⟩⟩⟩⟩⟩,⟨rfl,⟨[],gX r hr.le,rfl,rfl,rfl,λx hx=>⟨rfl,⟨[],gX s hs.le,rfl,rfl,rfl,λy hy=>⟨rfl,gsw 3 4 rfl rfl bL bL rfl ⟨bL,bH g0 (chg:=aBm r s) (bls:=yW r s) (fls:=λ_=>[]) (x,y) ⟨hx,hy⟩ rfl ⟨rfl,rfl,rfl,rfl,rfl⟩ trivial ⟨rfl,rfl,rfl,rfl,rfl⟩ bL scA rfl⟩⟩⟩⟩⟩⟩⟩⟩⟩⟩,λ⟨x,y⟩ ⟨hx,hy⟩=>?_⟩)
 refine⟨.seq [(0,false),(1,false),(2,false),(5,false),(6,false),(7,false),(11,false),(13,false),(3,false),(4,false),(8,false),(9,false),(10,false),(12,false),(14,false),(15,false),(16,false),(17,true)],by kernel_rfl,[],vG s hs.le,rfl,rfl,rfl,λd1 h1=>⟨[],yV x.n d1 (a:=a.num) (Ci.in hx.1 (ha.le).1) (Ci.in h1 (hb.le).2),rfl,rfl,rfl,λp1 h2=>⟨[],vG r hr.le,rfl,rfl,rfl,λd2 h3=>⟨[],yV y.n d2 (a:=b.num) (Ci.in hy.1 (hb.le).1) (Ci.in h3 (ha.le).2),rfl,rfl,rfl,λp2 h4=>?_⟩⟩⟩⟩
 refine⟨[],aJg p1 p2 (Ci.in h2 oM) (Ci.in h4 oM),rfl,rfl,rfl,λs1 h5=>⟨[],vG r hr.le,rfl,rfl,rfl,λd3 h6=>⟨[],vG s hs.le,rfl,rfl,rfl,λd4 h7=>⟨[],yV d3 d4 (Ci.in h6 (ha.le).2) (Ci.in h7 (hb.le).2),rfl,rfl,rfl,λp3 h8=>⟨[],vF s1 p3 (Ci.in h5 oM) (Ci.in h8 oM),rfl,rfl,rfl,λg hg=>⟨g,?_,aM rfl rfl trivial⟩⟩⟩⟩⟩⟩
 rw[<-aMd];exact hg
abbrev bDt:FuncId:=79
theorem cHh:Ent Tryz.prog bDt:=aU func79 rfl kR
theorem cHi:Tryz.prog.funcs[bDt]? =some Tryz.f79:=func79
theorem bXa (r s:RatM) {a b:Rat} (hr:Rq r a 4398046511104) (hs:Rq s b 4398046511104):Ctr Tryz.prog bDt [] [.a r.C,.a s.C] [] (rV (a-b)):=by
 refine aW gT cHh cHi rfl rfl rfl bL aS (aA gT mxd ⟨.seq [(0,false),(1,false),(2,false),(3,false),(4,true)],by kernel_rfl,[],bWz s hs.le,rfl,rfl,rfl,λn hn=>⟨[],aQr r n hr (Cr.rq hn (xA hs.rb)),rfl,rfl,rfl,λg hg=>⟨g,?_,aM rfl rfl trivial⟩⟩⟩)
 rw[jT];exact hg
abbrev bDu:FuncId:=229
theorem cHj:Ent Tryz.prog bDu:=aU func229 rfl kR
theorem cHk:Tryz.prog.funcs[bDu]? =some Tryz.f229:=func229
theorem bXb (r s:RatM) {a b:Rat} (hr:Rq r a 4398046511104) (hs:Rq s b 4398046511104) (hb0:b≠0):Ctr Tryz.prog bDu [] [.a r.C,.a s.C] [] (λg:RatM=>⟨.t [.a g.C,pC True],[],Cr g (a/b)⟩):=by
 have ha:=hr.rb
 have hb:=hs.rb
 have m1:=vH ha.1 (b:=(b.den:Int)) hb.2
 have m2:=vH (a:=(a.den:Int)) (b:=b.num) ha.2 hb.1
 refine aW gT cHj cHk rfl rfl rfl bL aS (aA gT mxd ⟨[],aCz s hs.le,rfl,rfl,rfl,λ_ _=>⟨λh=>absurd (dH.1 (fS.1 h)) hb0,λh=>aA gT mxd ?_⟩⟩)
 refine⟨.seq [(0,false),(3,false),(6,false),(8,false),(1,false),(2,false),(4,false),(5,false),(7,false),(9,false),(10,false),(11,false),(12,false),(13,true),(14,false)],by kernel_rfl,[],gX r hr.le,rfl,rfl,rfl,λx hx=>⟨[],vG s hs.le,rfl,rfl,rfl,λd1 h1=>⟨[],yV x.n d1 (a:=a.num) (Ci.in hx.1 (ha.le).1) (Ci.in h1 (hb.le).2),rfl,rfl,rfl,λp1 h2=>⟨[],vG r hr.le,rfl,rfl,rfl,λd2 h3=>⟨[],gX s hs.le,rfl,rfl,rfl,λy hy=>⟨[],yV d2 y.n (b:=b.num) (Ci.in h3 (ha.le).2) (Ci.in hy.1 (hb.le).1),rfl,rfl,rfl,λp2 h4=>⟨[],vF p1 p2 (Ci.in h2 oM) (Ci.in h4 oM),rfl,rfl,rfl,λg hg=>⟨g,?_,aM ⟨rfl,tt trivial⟩ rfl trivial⟩⟩⟩⟩⟩⟩⟩⟩
 show Cr g _
 rw[<-aMf];exact hg
abbrev aQs:FuncId:=202
theorem bXc:Ent Tryz.prog aQs:=aU func202 rfl kR
theorem bXd:Tryz.prog.funcs[aQs]? =some Tryz.f202:=func202
theorem aUn (r s:RatM) {a b:Rat} (hr:Rq r a 4398046511104) (hs:Rq s b 4398046511104) (hb0:b≠0):Ctr Tryz.prog aQs [] [.a r.C,.a s.C] [] (rV (a/b)):=
 aW gT bXc bXd rfl rfl rfl bL aS (aA gT mxd ⟨[],bXb r s hr hs hb0,rfl,rfl,rfl,λg hg=>⟨g,hg,aM rfl rfl trivial⟩⟩)
end Go.Proofs.YtghncoghdcmdfaaGreat
namespace Go.Proofs.YtghncoghdcmdfaaGreat
open Go.Vg _root_.Go.Proofs.Tryz
open Go.Vm hiding sgn
open Go.Vy hiding val
theorem bXe {nb:Nat} {X:SS->Prop} {s:SS} (hX:Tgt nb X) (t i:Nat) (ht:fZ s.sl t=some (.c (.s i 1))) (hb:s.bl[i]? =some (123,1,[uC 1])) (hnb:nb<=i)
 (h:∀g:Sl Nat,g.l=[1]->wR i s λs'=>mO s'.bl i (123,1,[]) λbl'=>X ⟨(t,.c (eK g))::s'.sl,[],bl',s'.fl⟩):X s:=
 aPq hX t i (λj=>[uC ([1].getD j default)]) ht hb (λj hj=>mS (x:=[1]) j hj) rfl dN (iV [1]) hnb λA c _ _=>h ⟨A,c,[1]⟩ rfl
theorem bRc {ρ:Pl} {n:Nat} {w:World} {e:Nat} {get:Nat->List CV} {v:Value} (h:Hc ρ n w (.v (.slice none 0 0)) v):Hc ρ n w (.r none 0 0 e get) v:=(Hd.nilr v (.c h)).inv_c
abbrev aJm:FuncId:=160
theorem bMs:Ent Tryz.prog aJm:=aU func160 rfl kR
theorem bMt:Tryz.prog.funcs[aJm]? =some Tryz.f160:=func160
theorem rW (r:RatM) {q:Rat} (h:Rq r q 17592186044416):Ctr Tryz.prog aJm [] [.a r.C] [] (λg:Int×Int×Prop=>⟨.t [.c (iC g.1),.c (iC g.2.1),pC g.2.2],[],g.2.2->(-2147483648<g.1/\g.1<2147483648)/\(0<g.2.1/\g.2.1<2147483648)/\Rat.divInt g.1 g.2.1=q⟩):=by
 have hv:=h.v
 refine aW gT bMs bMt rfl rfl rfl bL aS (aA gT mxd ⟨[],aUc r.n.m h.n.lm (aJ h.n.ln dC),rfl,rfl,rfl,λ_ _=>⟨[],aUc r.d h.ld (aJ h.bd dC),rfl,rfl,rfl,λ_ _=>⟨λh1=>aA gT mxd ?_,λh1=>aA gT mxd ?_⟩⟩⟩)
 ·exact⟨(0,0,False),λh=>h.elim,aM ⟨rfl,rfl,ff λh=>h⟩ rfl trivial⟩
 have k1:val r.n.m.l<18446744073709551616:=aT λh=>h1 (.inl (.inl (.inl h)))
 have k2:val r.d.l<18446744073709551616:=aT λh=>h1 (.inl (.inl (.inr h)))
 have k3:=λh=>h1 (.inl (.inr h))
 have k4:=λh=>h1 (.inr h)
 rw[if_pos k1] at k3
 rw[if_pos k2] at k4
 replace k3:¬(2147483648:Int)<=(val r.n.m.l:Nat):=k3
 replace k4:¬(2147483648:Int)<=(val r.d.l:Nat):=k4
 rw[if_pos k1,if_pos k2]
 refine⟨λh2=>aA gT mxd ?_,λh2=>aA gT mxd ⟨λh3=>aA gT mxd ?_,λh3=>aA gT mxd ?_⟩⟩
 ·refine⟨(0,1,True),λ_=>⟨⟨by decide,by decide⟩,⟨by decide,by decide⟩,?_⟩,aM ⟨rfl,rfl,tt trivial⟩ rfl trivial⟩
  replace h2:((val r.d.l:Nat):Int)=0:=h2
  rw[<-hv,h2,wF,wG]
 all_goals
  replace h2:¬((val r.d.l:Nat):Int)=0:=h2
  have b1:(0:Int)<(val r.d.l:Nat)/\((val r.d.l:Nat):Int)<2147483648:=⟨by omega,by omega⟩
  have b2:(-2147483648:Int)<(val r.n.m.l:Nat)/\((val r.n.m.l:Nat):Int)<2147483648:=⟨by omega,by omega⟩
  have b3:(-2147483648:Int)< -(val r.n.m.l:Nat)/\(-(val r.n.m.l:Nat):Int)<2147483648:=⟨by omega,by omega⟩
 ·refine⟨(val r.n.m.l:Nat),wi,-(val r.n.m.l:Nat),wi,(val r.d.l:Nat),wi,(-(val r.n.m.l:Nat),(val r.d.l:Nat),True),λ_=>⟨b3,b1,?_⟩,aM ⟨rfl,rfl,tt trivial⟩ rfl trivial⟩
  rw[lI h3] at hv;exact hv
 refine⟨(val r.n.m.l:Nat),wi,(val r.d.l:Nat),wi,((val r.n.m.l:Nat),(val r.d.l:Nat),True),λ_=>⟨b2,b1,?_⟩,aM ⟨rfl,rfl,tt trivial⟩ rfl trivial⟩
 rw[lJ h3] at hv;exact hv
abbrev aQt:FuncId:=173
theorem bXf:Ent Tryz.prog aQt:=aU func173 rfl kR
theorem bXg:Tryz.prog.funcs[aQt]? =some Tryz.f173:=func173
theorem aJn {n d:Int} (hd:0<d/\d<=9223372036854775807) (hn:-9223372036854775807<=n/\n<=9223372036854775807):Ctr Tryz.prog aQt [] [.c (iC n),.c (iC d)] [] (rV (Rat.divInt n d)):=by
 have hlaw:=aHw (z:=n) (d:=d.toNat) oM
 rw[show((d.toNat:Nat):Int)=d by omega] at hlaw
 refine aW gT bXf bXg rfl rfl rfl bL aS (aA gT mxd ⟨(if n<0 then 18446744073709551616-n.natAbs else n.natAbs:Nat),?_,?_⟩)
 ·show _=_
  rw[IntKind.wrap_u64];split<;>omega
 refine vjn (λ_=>true) (λ_:Unit=>[(0,.c (iC n)),(1,.c (iC d)),(4,.c (.p 0 0)),(5,.c (wC n.natAbs))]) (λ_=>[(62,0,vI)]) (λ_=>True) ?_
 refine⟨⟨λh=>aA gT mxd ⟨(n.natAbs:Nat),?_,(),trivial,rfl,rfl,rfl,rfl,rfl,rfl⟩,λh=>aA gT mxd ⟨(),trivial,rfl,rfl,rfl,rfl,rfl,?_⟩⟩,λ_ _=>?_⟩
 ·show _=_
  rw[IntKind.wrap_u64,if_pos h];omega
 ·show(_:Int)=(_:Int)
  rw[if_neg h]
 refine⟨(d.toNat:Nat),wu,?_⟩
 refine kQ (rn [(6,7),(17,22)]) (λg:Nat×Nat=>[(6,.c (wC g.1)),(7,.c (wC g.2))]) (λ_=>[(62,0,vI)]) (λg=>Nat.gcd g.1 g.2=Nat.gcd n.natAbs d.toNat/\g.1<18446744073709551616/\g.2<18446744073709551616) (λg=>g.2) (d.toNat,n.natAbs) ?_
 have l1:d.toNat<18446744073709551616:=by omega
 have l2:n.natAbs<18446744073709551616:=by omega
 refine⟨⟨⟨jC _ _,l1,l2⟩,rfl,rfl,rfl⟩,λ⟨a,b⟩ ⟨hcd,hc,hb⟩=>aA gT mxd ⟨λh3=>aA gT mxd ?_,λh3=>aA gT mxd (aA gT mxd ?_)⟩⟩
 all_goals simp only at hcd hc hb
 ·replace h3:(b:Int)≠0:=h3
  have hlt:=dM a (show 0<b by omega)
  refine⟨.seq [(0,false),(1,false),(2,false),(3,false),(4,false),(5,false)],by kernel_rfl,h3,(b,a%b),⟨⟨?_,hb,by show a%b<_;omega⟩,hlt⟩,rfl,rfl,rfl,?_⟩
  ·show Nat.gcd b (a%b)=_
   rw[<-hcd,jC,<-xU,jC]
  show(_:Int).tmod (_:Int)=(_:Int)
  rfl
 obtain rfl:b=0:=by
  replace h3:¬(b:Int)≠0:=h3
  omega
 rw[oE] at hcd
 subst hcd
 have hg:((Nat.gcd n.natAbs d.toNat:Nat):Int)≠0:=by
  have:=nV n.natAbs (show 0<d.toNat by omega)
  omega
 have d1:=iL n.natAbs (Nat.gcd n.natAbs d.toNat)
 have d2:=iL d.toNat (Nat.gcd n.natAbs d.toNat)
 refine⟨.seq [(0,false),(1,false),(2,false),(3,false),(4,false),(7,false),(8,false),(9,false),(10,false),(5,true),(6,false),(11,true),(12,false),(13,true)],by kernel_rfl,hg,_,aPz l2,(d.toNat:Nat),wu,hg,_,aPz l1,[],nT (eZ d1 l2),rfl,rfl,rfl,λm hm=>⟨[],nT (eZ d2 l1),rfl,rfl,rfl,λe he=>⟨⟨⟨n<0,inferInstance,m⟩,e⟩,⟨⟨hlaw.2.2.symm,?_⟩,?_⟩,aM rfl rfl trivial⟩⟩⟩
 ·show m.l=_
  rw[hlaw.1];exact hm
 show e.l=_
 rw[hlaw.2.1];exact he
abbrev aJo:FuncId:=156
theorem bMu:Ent Tryz.prog aJo:=aU func156 rfl kR
theorem bMv:Tryz.prog.funcs[aJo]? =some Tryz.f156:=func156
theorem qE (r:RatM) {q:Rat} {B:Nat} (h:Rq r q B) (h1:1<=B) (hB:B<=35184372088832):Ctr Tryz.prog aJo [] [.a r.C] [] (λg:RatM=>⟨.t [.a g.n.C,.c (eK g.d)],[],Rq g q B/\val g.d.l≠0⟩):=by
 refine aW gT bMu bMv rfl rfl rfl bL aS (aA gT mxd ⟨[],aUj r.d h.ld (aJ h.bd hB),rfl,rfl,rfl,λ_ _=>⟨λh2=>Sd.sq (aA gT mxd ?_),λh2=>aA gT mxd ?_⟩⟩)
 ·have hz:=bDn.1 h2
  show Sd _ _ _ _ _ _
  refine bXe tSd 3 2 rfl rfl bL λd hd=>?_
  show Sd _ _ _ _ _ _
  refine gH tSd 1 [.b (false=true) inferInstance,eK cP] rfl rfl (λk c c' k1 k2=>?_) (aA gT mxd ⟨⟨⟨false=true,inferInstance,cP⟩,d⟩,⟨⟨⟨Lm.nil,aC _,rfl⟩,?_,?_,?_⟩,?_⟩,aM ⟨rfl,rfl⟩ rfl trivial⟩)
  ·match k,k1,k2 with
   |0,k1,k2=>injection k1 with k1;injection k2 with k2;rw[<-k1,<-k2];exact fC _
   |1,k1,k2=>injection k1 with k1;injection k2 with k2;rw[<-k1,<-k2];exact λρ n w x h=>bRc h
  ·show Lm d.l
   rw[hd];exact λz hz=>by rw[aH.1 hz];decide
  ·show d.l.length<=B
   rw[hd];exact h1
  ·show Rat.divInt _ (val d.l:Nat)=q
   rw[<-h.v,hz,hd]
   show Rat.divInt (sg (false=true) 0) _=_
   rw[lJ dC]
   exact(wG _).trans (wF _).symm
  show val d.l≠0
  rw[hd];decide
 have hz:val r.d.l≠0:=λh=>h2 (bDn.2 h)
 exact⟨.treeX [] [2000,1,2002,3] (trS [4,2005]),by kernel_rfl,rfl,r,⟨h,hz⟩,aM ⟨rfl,rfl⟩ rfl trivial⟩
theorem bXh {c0 c1 c2:CV} {k:Nat} {c c':CV} (k1:[c0,.v (.slice none 0 0),c2][k]? =some c) (k2:[c0,eK cP,c2][k]? =some c'):LeC c c':=by
 match k,k1,k2 with
 |0,k1,k2=>injection k1 with k1;injection k2 with k2;rw[<-k1,<-k2];exact fC _
 |1,k1,k2=>injection k1 with k1;injection k2 with k2;rw[<-k1,<-k2];exact λρ n w x h=>bRc h
 |2,k1,k2=>injection k1 with k1;injection k2 with k2;rw[<-k1,<-k2];exact fC _
theorem aUo {z:Int} {d:Nat} {q:Rat} (hd:d≠0) (h:Rat.divInt z (d:Int)=q):q.num.natAbs=z.natAbs/Nat.gcd z.natAbs d/\q.den=d/Nat.gcd z.natAbs d/\(q.num<0↔z<0)/\(q.num=0↔z=0):=by
 subst h
 obtain⟨h1,h2,h3⟩:=aHw (z:=z) hd
 refine⟨h1,h2,h3,λh=>?_,λh=>by rw[h,wG];rfl⟩
 rw[h] at h1
 have hdv:Nat.gcd z.natAbs d∣z.natAbs:=jJ _ _
 have h4:=Nat.div_mul_cancel hdv
 rw[<-h1] at h4
 simp at h4
 omega
abbrev bDv:FuncId:=174
theorem cHl:Ent Tryz.prog bDv:=aU func174 rfl kR
theorem cHm:Tryz.prog.funcs[bDv]? =some Tryz.f174:=func174
theorem aJp (i:IntM) (d:Sl Nat) {a:Int} (hi:In i a 17592186044416) (ld:Lm d.l) (hn:d.l.length<=17592186044416) (hd:val d.l≠0):Ctr Tryz.prog bDv [] [.a i.C,.c (eK d)] [] (rV (Rat.divInt a (val d.l:Nat))):=by
 obtain⟨q,hq⟩:∃q,q=Rat.divInt a (val d.l:Nat):=⟨_,rfl⟩
 obtain⟨e1,e2,e3,e4⟩:=aUo hd hq.symm
 rw[<-hq]
 refine aW gT cHl cHm rfl rfl rfl bL aS (aA gT mxd ⟨[],bDm i hi.le,rfl,rfl,rfl,λn hn'=>⟨[],aAi d ld oM,rfl,rfl,rfl,λe he=>?_⟩⟩)
 replace hn':Ci n a:=hn'
 replace he:e.l=dE (val d.l):=he
 have hal:=hi.len
 have hel:e.l.length<=17592186044416:=by rw[he];exact aJ (dY ld) hn
 have hnl:n.m.l.length<=17592186044416:=by rw[hn'.2];exact hal
 obtain⟨le,ve⟩:=dg he
 obtain⟨lm,vm⟩:=dg hn'.2
 have hz0:=nQ (n:=a.natAbs)
 unfold len at hz0
 rw[<-hn'.2] at hz0
 refine⟨λh=>Sd.sq (Sd.rg gT (l:=[_,_,_]) [_] [_,_] rfl rfl ?_),λh=>aA gT mxd ?_⟩
 ·replace h:((n.m.l.length:Nat):Int)=0:=h
  have ha:a=0:=by have:=hz0.1 oM;omega
  have hq0:q=0:=dH.1 (e4.2 ha)
  show Sdl _ _ _ _ _ _ _
  refine bXe bUl 14 2 rfl rfl bL λg hg=>Sdl.go gT ?_
  show Sd _ _ _ _ _ _
  refine gH tSd 1 [.b (false=true) inferInstance,eK cP,eK g] rfl rfl (λk c c' k1 k2=>bXh (c1:=.u) k1 k2) (aA gT mxd ⟨⟨⟨false=true,inferInstance,cP⟩,g⟩,?_,aM rfl rfl trivial⟩)
  subst hq0
  exact⟨⟨⟨λh=>(by cases h),λh=>absurd (show(0:Int)<0 from h) dC⟩,rfl⟩,hg⟩
 refine⟨[],bVx n.m e lm le hnl hel,rfl,rfl,rfl,λg hg=>?_⟩
 replace hg:g.l=dE (Nat.gcd (val n.m.l) (val e.l)):=hg
 rw[vm,ve] at hg
 obtain⟨lg,vg⟩:=dg hg
 obtain⟨G,hG⟩:∃G,G=Nat.gcd a.natAbs (val d.l):=⟨_,rfl⟩
 rw[<-hG] at hg vg e1 e2
 have hGp:0<G:=by rw[hG];exact nV _ oM
 have hgl:g.l.length<=17592186044416:=by
  rw[hg]
  exact aJ (fY (Nat.le_of_dvd oM (by rw[hG];exact pB _ _))) (aJ (dY ld) hn)
 refine⟨0,λh=>⟨rfl,?_⟩,?_⟩
 ·replace h:¬((g.l.length:Nat):Int)≠1:=h
  omega
 refine vjn (λ_=>true) (λg:Sl Nat×Sl Nat=>[(1,.c (eK g.2)),(2,.c (.p 0 0)),(4,.c (.p 1 0))]) (λg=>[(60,0,[.b n.p n.d,eK g.1]),(62,0,vI)]) (λg=>g.1.l=dE q.num.natAbs/\g.2.l=dE q.den) ?_
 refine⟨⟨λh1=>aA gT mxd ⟨[],bCv n.m g lm lg hnl hgl,rfl,rfl,rfl,λu hu=>⟨[],bCv e g le lg hel hgl,rfl,rfl,rfl,λv hv=>⟨(u.1,v.1),⟨?_,?_⟩,rfl,rfl,rfl,rfl,rfl⟩⟩⟩,λh1=>aA gT mxd ⟨(n.m,e),?_,rfl,rfl,rfl,rfl,rfl⟩⟩,λg hg=>?_⟩
 ·show u.1.l=_
  rw[hu.1,vm,vg,e1]
 ·show v.1.l=_
  rw[hv.1,ve,vg,e2]
 ·have hg1:G=1:=by
   have hl1:g.l.length=1:=aT λh=>h1 (.inl (by show((g.l.length:Nat):Int)≠1;omega))
   obtain⟨o1,-⟩:=aUf hg hl1
   exact aT λh=>h1 (.inr (by show((g.l.getD 0 default:Nat):Int)≠1;omega))
  rw[hg1,Nat.div_one] at e1 e2
  exact⟨by rw[e1];exact hn'.2,by rw[e2];exact he⟩
 refine⟨⟨⟨n.p,n.d,g.1⟩,g.2⟩,⟨⟨?_,hg.1⟩,hg.2⟩,aM rfl rfl trivial⟩
 rw[e3];exact hn'.1
abbrev aQu:FuncId:=119
theorem bXi:Ent Tryz.prog aQu:=aU func119 rfl kR
theorem bXj:Tryz.prog.funcs[aQu]? =some Tryz.f119:=func119
theorem nZ (r:RatM) {q:Rat} (h:Rq r q 4398046511104):Ctr Tryz.prog aQu [] [.a r.C] [] (rV q):=by
 refine aW gT bXi bXj rfl rfl rfl bL aS (aA gT mxd ⟨[],rW r h.le,rfl,rfl,rfl,λs hs=>⟨λh1=>aA gT mxd ?_,λh1=>aA gT mxd ?_⟩⟩)
 ·obtain⟨b1,b2,b3⟩:=hs h1
  refine⟨[],aJn (n:=s.1) (d:=s.2.1) ⟨b2.1,by omega⟩ ⟨by omega,by omega⟩,rfl,rfl,rfl,λg hg=>⟨g,?_,aM rfl rfl trivial⟩⟩
  rw[<-b3];exact hg
 refine⟨[],qE r h bL bL,rfl,rfl,rfl,λg ⟨hg,hz⟩=>⟨[],aJp g.n g.d (hg.n.le bL) hg.ld (aJ hg.bd bL) hz,rfl,rfl,rfl,λx hx=>⟨x,?_,aM rfl rfl trivial⟩⟩⟩
 rw[<-hg.v];exact hx
abbrev aQv:FuncId:=97
theorem bXk:Ent Tryz.prog aQv:=aU func97 rfl kR
theorem bXl:Tryz.prog.funcs[aQv]? =some Tryz.f97:=func97
theorem kH (r:RatM) {q:Rat} (h:Rq r q 4398046511104):Ctr Tryz.prog aQv [] [.a r.C] [] (λ_:Unit=>⟨.c (iC (sgn q.num)),[],True⟩):=by
 refine aW gT bXk bXl rfl rfl rfl bL aS (aA gT mxd ⟨[],qE r h bL bL,rfl,rfl,rfl,λg ⟨hg,hz⟩=>⟨[],aEv g.n (hg.n.le bL),rfl,rfl,rfl,λ_ _=>⟨(),trivial,aM ?_ rfl trivial⟩⟩⟩)
 obtain⟨-,-,e3,e4⟩:=aUo hz hg.v
 show sgn _=sgn _
 unfold sgn
 simp only[e3,e4]
abbrev aQw:FuncId:=116
theorem bXm:Ent Tryz.prog aQw:=aU func116 rfl kR
theorem bXn:Tryz.prog.funcs[aQw]? =some Tryz.f116:=func116
theorem yG {z:Int} (hz:-9223372036854775808<=z/\z<=9223372036854775807):Ctr Tryz.prog aQw [] [.c (iC z)] [] (rV (z:Rat)):=by
 refine aW gT bXm bXn rfl rfl rfl bL aS (Sd.sq (aA gT mxd (Sd.sq (Sd.rg gT (l:=[_,_,_,_,_]) [_,_,_] [_,_] rfl rfl ⟨[],bDo hz,rfl,rfl,rfl,λn hn=>?_⟩))))
 show Sdl _ _ _ _ _ _ _
 refine bXe bUl 5 1 rfl rfl bL λg hg=>Sdl.go gT (aA gT mxd ⟨⟨n,g⟩,⟨?_,?_⟩,aM rfl rfl trivial⟩)
 ·exact hn
 show g.l=_
 rw[hg];rfl
theorem cHn {a b:Nat}:rU (a:Int) (b:Int)=0↔a=b:=by unfold rU;constructor<;>intro h<;>(repeat split at*)<;>omega
theorem yX {a b:Int} (ha:-2147483648<a/\a<2147483648) (hb:-2147483648<b/\b<2147483648):a*b=IntKind.i64.wrap (a*b)/\-4611686018427387904<a*b/\a*b<4611686018427387904:=by
 have:=cFc ha hb
 exact⟨wi (h:=⟨rfl,by omega,by omega⟩),this⟩
def den (X:Sl Nat):IntM:=⟨false=true,inferInstance,X⟩
theorem aJq {X:Sl Nat} {B:Nat} (hl:Lm X.l) (hb:X.l.length<=B):In (den X) (val X.l:Nat) B:=In.den hl hb
theorem xB {a b:Int} {B C:Nat} (ha:len a.natAbs<=B) (hb:len b.natAbs<=C):len (a*b).natAbs<=B+C:=by
 rw[lT]
 have:=pU a.natAbs b.natAbs
 omega
def oPA:Ord:=.joinX [] [0,2001,2002,4,2005,2006] (.alt 3 (.alt 7 (.alt 8 (trS [9,1010]) (.alt 9 (trS [8,1010]) .nil)) (.alt 9 (trS [7,8,1010]) .nil)) (.alt 9 (trS [3,7,8,1010]) .nil))
abbrev paG (x y:RatM):List (Nat×DV):=[(15,.c (.p 5 0)),(14,.c (eK y.d)),(12,.c (eK x.d)),(4,.c (.p 2 0))]
abbrev paB (r s x y:RatM) (n:IntM):BL:=[(62,0,r.C),(62,0,s.C),(62,0,vI),(60,0,x.n.C),(60,0,y.n.C),(60,0,n.C)]
theorem aJr {r s x y:RatM} {n:IntM}:scB 6 (paB r s x y n):=aB rfl (aB rfl (aB rfl (aB rfl (aB rfl (aB rfl aY)))))
abbrev bDw:FuncId:=158
theorem cHo:Ent Tryz.prog bDw:=aU func158 rfl kR
theorem cHp:Tryz.prog.funcs[bDw]? =some Tryz.f158:=func158
theorem aJs (r s:RatM) {a b:Rat} (hr:Rq r a 4398046511104) (hs:Rq s b 4398046511104):Ctr Tryz.prog bDw [] [.a r.C,.a s.C] [] (rV (a+b)):=by
 refine aW gT cHo cHp rfl rfl rfl bL aS (aA gT mxd ⟨[],kH r hr.le,rfl,rfl,rfl,λ_ _=>⟨λh=>aA gT mxd ?_,λ_=>aA gT mxd ⟨[],kH s hs.le,rfl,rfl,rfl,λ_ _=>⟨λh=>aA gT mxd ?_,λ_=>aA gT mxd ?_⟩⟩⟩⟩)
 ·refine⟨[],nZ s hs.le,rfl,rfl,rfl,λg hg=>⟨g,?_,aM rfl rfl trivial⟩⟩
  rw[dH.1 (fS.1 h),fU];exact hg
 ·refine⟨[],nZ r hr.le,rfl,rfl,rfl,λg hg=>⟨g,?_,aM rfl rfl trivial⟩⟩
  rw[dH.1 (fS.1 h),bP];exact hg
 refine⟨[],rW r hr.le,rfl,rfl,rfl,λu hu=>⟨[],rW s hs.le,rfl,rfl,rfl,λv hv=>⟨λh=>aA gT mxd ?_,λ_=>aA gT mxd ?_⟩⟩⟩
 ·obtain⟨u1,u2,u3⟩:=hu h.1
  obtain⟨v1,v2,v3⟩:=hv h.2
  have m1:=yX u1 (b:=v.2.1) ⟨by omega,v2.2⟩
  have m2:=yX v1 (b:=u.2.1) ⟨by omega,u2.2⟩
  have m3:=yX (a:=u.2.1) (b:=v.2.1) ⟨by omega,u2.2⟩ ⟨by omega,v2.2⟩
  have m4:=xS u2.1 v2.1
  refine⟨_,m1.1,_,m2.1,_,wi (h:=⟨rfl,by omega,by omega⟩),_,m3.1,[],aJn ⟨m4,by omega⟩ ⟨by omega,by omega⟩,rfl,rfl,rfl,λg hg=>⟨g,?_,aM rfl rfl trivial⟩⟩
  rw[<-aDu u2.1 v2.1 u3 v3];exact hg
 refine⟨[],qE r hr bL bL,rfl,rfl,rfl,λx ⟨hx,hxz⟩=>⟨[],qE s hs bL bL,rfl,rfl,rfl,λy ⟨hy,hyz⟩=>?_⟩⟩
 have lx:=hx.n.len
 have ly:=hy.n.len
 have ldx:=aJ (dY hx.ld) hx.bd
 have ldy:=aJ (dY hy.ld) hy.bd
 refine⟨[],uY x.d y.d hx.ld hy.ld (aJ hx.bd bL) (aJ hy.bd bL),rfl,rfl,rfl,λ_ _=>⟨λh=>aA gT mxd ?_,λ_=>aA gT mxd ?_⟩⟩
 ·have e:=cHn.1 h
  refine⟨[],aUk x.n y.n (hx.n.le bL) (hy.n.le bL),rfl,rfl,rfl,λn hn=>?_⟩
  have l1:=aJl lx ly
  refine⟨[],aJp n x.d (Ci.in hn (aJ l1 bL)) hx.ld (aJ hx.bd bL) hxz,rfl,rfl,rfl,λg hg=>⟨g,?_,aM rfl rfl trivial⟩⟩
  rw[<-aXg (c:=(val x.d.l:Nat)) oM hx.v (e▸hy.v)];exact hg
 have c1:=aAk x.n (den y.d) (hx.n.le bL) (aJq hy.ld (aJ hy.bd bL))
 have c2:=aAk y.n (den x.d) (hy.n.le bL) (aJq hx.ld (aJ hx.bd bL))
 have l1:=xB lx (b:=(val y.d.l:Nat)) ldy
 have l2:=xB ly (b:=(val x.d.l:Nat)) ldx
 have l3:=aJl l1 l2
 have c3:∀p1 p2:IntM,Ci p1 _->Ci p2 _->_:=λp1 p2 h1 h2=>aUk p1 p2 (Ci.in h1 (aJ l1 bL)) (Ci.in h2 (aJ l2 bL))
 refine⟨oPA,by kernel_rfl,IntM,λn=>⟨paG x y++[],[],paB r s x y n,[]⟩,λn=>Ci n (sg x.n.p (val x.n.m.l)*(val y.d.l:Nat)+sg y.n.p (val y.n.m.l)*(val x.d.l:Nat)),?_,λn hn=>?_⟩
 ·exact⟨⟨[],c1,rfl,rfl,rfl,λp hp=>⟨rfl,⟨⟨[],c2,rfl,rfl,rfl,λo ho=>⟨rfl,⟨⟨[],c3 p o hp ho,rfl,rfl,rfl,λn hn=>⟨rfl,⟨rfl,bH g0 (chg:=λ_=>paG x y) (bls:=paB r s x y) (fls:=λ_=>[]) n hn rfl ⟨rfl,rfl,rfl,rfl,rfl,rfl⟩ trivial ⟨rfl,rfl,rfl,rfl⟩ bL aJr rfl⟩⟩⟩,⟨rfl,⟨[],c3 p o hp ho,rfl,rfl,rfl,λn hn=>⟨rfl,bH g0 (chg:=λ_=>paG x y) (bls:=paB r s x y) (fls:=λ_=>[]) n hn rfl ⟨rfl,rfl,rfl,rfl,rfl,rfl⟩ trivial ⟨rfl,rfl,rfl,rfl⟩ bL aJr rfl⟩⟩⟩⟩⟩⟩,⟨rfl,⟨[],c2,rfl,rfl,rfl,λo ho=>⟨rfl,⟨[],c3 p o hp ho,rfl,rfl,rfl,λn hn=>⟨rfl,bH g0 (chg:=λ_=>paG x y) (bls:=paB r s x y) (fls:=λ_=>[]) n hn rfl ⟨rfl,rfl,rfl,rfl,rfl,rfl⟩ trivial ⟨rfl,rfl,rfl,rfl⟩ bL aJr rfl⟩⟩⟩⟩⟩⟩⟩⟩,⟨rfl,⟨[],c1,rfl,rfl,rfl,λp hp=>⟨rfl,⟨[],c2,rfl,rfl,rfl,λo ho=>⟨rfl,⟨[],c3 p o hp ho,rfl,rfl,rfl,λn hn=>⟨rfl,bH g0 (chg:=λ_=>paG x y) (bls:=paB r s x y) (fls:=λ_=>[]) n hn rfl ⟨rfl,rfl,rfl,rfl,rfl,rfl⟩ trivial ⟨rfl,rfl,rfl,rfl⟩ bL aJr rfl⟩⟩⟩⟩⟩⟩⟩⟩
 have l4:=pU (val x.d.l) (val y.d.l)
 refine⟨.seq [(0,false),(1,false),(2,false),(3,false),(4,true),(5,true)],by kernel_rfl,[],aAj x.d y.d hx.ld hy.ld (aJ hx.bd bL) (aJ hy.bd bL),rfl,rfl,rfl,λz hz=>?_⟩
 replace hz:z.l=dE (val x.d.l*val y.d.l):=hz
 obtain⟨lz,vz⟩:=dg hz
 refine⟨[],aJp n z (Ci.in hn (aJ l3 bL)) lz (dgl hz oM) (by rw[vz];exact Nat.mul_ne_zero hxz hyz),rfl,rfl,rfl,λg hg=>⟨g,?_,aM rfl rfl trivial⟩⟩
 rw[<-hx.v,<-hy.v,mR _ _ oM oM,<-gD,<-vz];exact hg
abbrev aUp:FuncId:=111
theorem cHq:Ent Tryz.prog aUp:=aU func111 rfl kR
theorem cHr:Tryz.prog.funcs[aUp]? =some Tryz.f111:=func111
theorem xC (r s:RatM) {a b:Rat} (hr:Rq r a 4398046511104) (hs:Rq s b 4398046511104):Ctr Tryz.prog aUp [] [.a r.C,.a s.C] [] (rV (a*b)):=by
 refine aW gT cHq cHr rfl rfl rfl bL aS (aA gT mxd ⟨[],rW r hr.le,rfl,rfl,rfl,λu hu=>⟨[],rW s hs.le,rfl,rfl,rfl,λv hv=>⟨λh=>aA gT mxd ?_,λ_=>aA gT mxd ?_⟩⟩⟩)
 ·obtain⟨u1,u2,u3⟩:=hu h.1
  obtain⟨v1,v2,v3⟩:=hv h.2
  have m1:=yX u1 v1
  have m3:=yX (a:=u.2.1) (b:=v.2.1) ⟨by omega,u2.2⟩ ⟨by omega,v2.2⟩
  have m4:=xS u2.1 v2.1
  refine⟨_,m1.1,_,m3.1,[],aJn ⟨m4,by omega⟩ ⟨by omega,by omega⟩,rfl,rfl,rfl,λg hg=>⟨g,?_,aM rfl rfl trivial⟩⟩
  rw[<-aDv u3 v3];exact hg
 refine⟨[],qE r hr bL bL,rfl,rfl,rfl,λx ⟨hx,hxz⟩=>⟨[],qE s hs bL bL,rfl,rfl,rfl,λy ⟨hy,hyz⟩=>?_⟩⟩
 have l1:=xB hx.n.len hy.n.len
 have l4:=pU (val x.d.l) (val y.d.l)
 have ldx:=aJ (dY hx.ld) hx.bd
 have ldy:=aJ (dY hy.ld) hy.bd
 refine⟨[],aAk x.n y.n (hx.n.le bL) (hy.n.le bL),rfl,rfl,rfl,λn hn=>⟨[],aAj x.d y.d hx.ld hy.ld (aJ hx.bd bL) (aJ hy.bd bL),rfl,rfl,rfl,λz hz=>?_⟩⟩
 replace hz:z.l=dE (val x.d.l*val y.d.l):=hz
 obtain⟨lz,vz⟩:=dg hz
 refine⟨[],aJp n z (Ci.in hn (aJ l1 bL)) lz (dgl hz oM) (by rw[vz];exact Nat.mul_ne_zero hxz hyz),rfl,rfl,rfl,λg hg=>⟨g,?_,aM rfl rfl trivial⟩⟩
 rw[<-aDv hx.v hy.v,<-gD,<-vz];exact hg
abbrev bDx:FuncId:=182
theorem cHs:Ent Tryz.prog bDx:=aU func182 rfl kR
theorem cHt:Tryz.prog.funcs[bDx]? =some Tryz.f182:=func182
theorem bDy (r:RatM) {q:Rat} (h:Rq r q 4398046511104):Ctr Tryz.prog bDx [] [.a r.C] [] (rV (-q)):=by
 refine aW gT cHs cHt rfl rfl rfl bL aS (aA gT mxd ⟨[],nZ r h,rfl,rfl,rfl,λg hg=>⟨[],bMn g.n (v:=q.num) (Ci.in hg.1 (aJ h.rb.1 bL)),rfl,rfl,rfl,λn hn=>⟨⟨n,g.d⟩,⟨?_,hg.2⟩,aM rfl rfl trivial⟩⟩⟩)
 exact hn
theorem bDz {p:Prop} {m d:Nat}:Rat.divInt (sg p d) (m:Nat)=(Rat.divInt (sg p m) (d:Nat))⁻¹:=by
 rw[Rat.inv_divInt]
 by_cases hp:p
 ·rw[lI hp,lI hp,Rat.divInt_neg']
 rw[lJ hp,lJ hp]
def RatM.flip (r:RatM):RatM:=⟨⟨r.n.p,r.n.d,r.d⟩,r.n.m⟩
theorem Rq.flip {r:RatM} {q:Rat} {B:Nat} (h:Rq r q B):Rq r.flip q⁻¹ B:=⟨⟨h.ld,h.bd,rfl⟩,h.n.lm,h.n.ln,by rw[<-h.v];exact bDz⟩
abbrev bEa:FuncId:=179
theorem cHu:Ent Tryz.prog bEa:=aU func179 rfl kR
theorem cHv:Tryz.prog.funcs[bEa]? =some Tryz.f179:=func179
theorem bXo (r:RatM) {q:Rat} {B:Nat} (h:Rq r q 4398046511104) (hB:rb q B) (hq:q≠0):Ctr Tryz.prog bEa [] [.a r.C] [] (λg:RatM=>⟨.t [.a g.C,pC True],[],Rq g q⁻¹ B⟩):=by
 refine aW gT cHu cHv rfl rfl rfl bL aS (aA gT mxd ⟨[],kH r h,rfl,rfl,rfl,λ_ _=>⟨λh=>absurd (dH.1 (fS.1 h)) hq,λ_=>aA gT mxd ⟨[],nZ r h,rfl,rfl,rfl,λg hg=>⟨g.flip,(Cr.rq hg hB).flip,aM ⟨rfl,tt trivial⟩ rfl trivial⟩⟩⟩⟩)
abbrev bEb:FuncId:=109
theorem cHw:Ent Tryz.prog bEb:=aU func109 rfl kR
theorem cHx:Tryz.prog.funcs[bEb]? =some Tryz.f109:=func109
theorem aQx (r s:RatM) {a b:Rat} (hr:Rq r a 4398046511104) (hs:Rq s b 4398046511104) (hb:b≠0):Ctr Tryz.prog bEb [] [.a r.C,.a s.C] [] (λg:RatM=>⟨.t [.a g.C,pC True],[],Cr g (a/b)⟩):=by
 refine aW gT cHw cHx rfl rfl rfl bL aS (aA gT mxd ⟨[],kH s hs,rfl,rfl,rfl,λ_ _=>⟨λh=>absurd (dH.1 (fS.1 h)) hb,λ_=>aA gT mxd ⟨[],xC r s.flip hr hs.flip,rfl,rfl,rfl,λg hg=>⟨g,?_,aM ⟨rfl,tt trivial⟩ rfl trivial⟩⟩⟩⟩)
 rw[kN];exact hg
theorem Rq.neg {r:RatM} {q:Rat} {B:Nat} (h:Rq r q B):Rq ⟨⟨¬r.n.p,@instDecidableNot _ r.n.d,r.n.m⟩,r.d⟩ (-q) B:=⟨⟨h.n.lm,h.n.ln,rfl⟩,h.ld,h.bd,by
 rw[<-h.v]
 show Rat.divInt (sg (¬r.n.p) _) _=_
 rw[bDl,xT]⟩
abbrev bEc:FuncId:=110
theorem cHy:Ent Tryz.prog bEc:=aU func110 rfl kR
theorem cHz:Tryz.prog.funcs[bEc]? =some Tryz.f110:=func110
theorem aJt (r s:RatM) {a b:Rat} (hr:Rq r a 4398046511104) (hs:Rq s b 4398046511104):Ctr Tryz.prog bEc [] [.a r.C,.a s.C] [] (rV (a-b)):=by
 refine aW gT cHy cHz rfl rfl rfl bL aS (aA gT mxd ⟨[],aJs r ⟨⟨¬s.n.p,@instDecidableNot _ s.n.d,s.n.m⟩,s.d⟩ hr hs.neg,rfl,rfl,rfl,λg hg=>⟨g,?_,aM rfl rfl trivial⟩⟩)
 rw[jT];exact hg
abbrev aJu:FuncId:=171
theorem bEd:Ent Tryz.prog aJu:=aU func171 rfl kR
theorem bEe:Tryz.prog.funcs[aJu]? =some Tryz.f171:=func171
theorem aUq (r f s:RatM) {a q b:Rat} {B:Nat} (hr:Rq r a 4398046511104) (hf:Rq f q 4398046511104) (hs:Rq s b 4398046511104) (hqb:rb (q*b) 4398046511104) (hB:rb (a-q*b) B) (hra:Rq r a B):Ctr Tryz.prog aJu [] [.a r.C,.a f.C,.a s.C] [] (λg:RatM=>⟨.a g.C,[],Rq g (a-q*b) B⟩):=by
 refine aW gT bEd bEe rfl rfl rfl bL aS (aA gT mxd ⟨[],kH s hs,rfl,rfl,rfl,λ_ _=>⟨λh=>aA gT mxd ⟨r,?_,aM rfl rfl trivial⟩,λh=>aA gT mxd ?_⟩⟩)
 ·rw[dH.1 (fS.1 h),cA,jT,Rat.neg_zero,bP];exact hra
 exact⟨.seq [(0,false),(1,false),(2,false),(3,false),(4,false),(5,true)],by kernel_rfl,[],xC f s hf hs,rfl,rfl,rfl,λm hm=>⟨[],aJt r m hr (Cr.rq hm hqb),rfl,rfl,rfl,λg hg=>⟨g,Cr.rq hg hB,aM rfl rfl trivial⟩⟩⟩
end Go.Proofs.YtghncoghdcmdfaaGreat
namespace Go.Proofs.YtghncoghdcmdfaaGreat
open Go.Vg _root_.Go.Proofs.Tryz
open Go.Vm
open Go.Vy hiding val
instance:Inhabited IntM:=⟨⟨false=true,inferInstance,cP⟩⟩
instance:Inhabited RatM:=⟨⟨default,cP⟩⟩
structure EntM where
 ix:Int
 v:RatM
instance:Inhabited EntM:=⟨⟨0,default⟩⟩
def EntM.C (e:EntM):List CV:=iC e.ix::e.v.C
def cF (x:Sl EntM):CV:=x.R 4 EntM.C default
structure Ev (x:List EntM) (es:List En) (B:Nat):Prop where
 ln:x.length=es.length
 e:∀k,k<es.length->(x.getD k default).ix=(es.getD k default).1/\Rq (x.getD k default).v (es.getD k default).2 B
structure Ek (x:List EntM) (es:List En):Prop where
 ln:x.length=es.length
 e:∀k,k<es.length->(x.getD k default).ix=(es.getD k default).1/\Cr (x.getD k default).v (es.getD k default).2
def rbE (es:List En) (B:Nat):Prop:=∀e∈es,rb e.2 B
theorem fO {α:Type} [Inhabited α] {l:List α} {k:Nat} (h:k<l.length):l.getD k default∈l:=by rw[gd h];exact jK h
theorem Ek.ev {x:List EntM} {es:List En} {B:Nat} (h:Ek x es) (hb:rbE es B):Ev x es B:=⟨h.ln,λk hk=>⟨(h.e k hk).1,(h.e k hk).2.rq (hb _ (fO hk))⟩⟩
theorem Ev.le {x:List EntM} {es:List En} {B B':Nat} (h:Ev x es B) (hb:B<=B'):Ev x es B':=⟨h.ln,λk hk=>⟨(h.e k hk).1,(h.e k hk).2.le hb⟩⟩
theorem bXp {es:List En} {k:Nat} (hk:k+1<es.length) (h:(es.getD (k+1) default).1<=(es.getD k default).1):¬Asc es:=λha=>by
 have h2:=gG.1 ha k (k+1) oM hk oM
 rw[gd hk,gd oM] at h
 exact absurd h (zJ.2 h2)
theorem bRd {es:List En} {k:Nat} (hk:k+1<es.length) (h:(es.getD k default).1<(es.getD (k+1) default).1) (ha:Asc (es.take (k+1))):Asc (es.take (k+1+1)):=by
 have h1:es.take (k+1+1)=es.take (k+1)++[es.getD (k+1) default]:=by rw[dF,aG hk,gd hk];rfl
 have h0:es.take (k+1)=es.take k++[es.getD k default]:=by rw[dF,aG (show k<es.length by omega),gd (show k<es.length by omega)];rfl
 rw[h1]
 refine eR.2 ⟨ha,eJ _ _,λa h2 b h3=>?_⟩
 rw[aH.1 h3]
 rw[h0] at h2 ha
 rcases aQ.1 h2 with h2|h2
 ·exact iS ((eR.1 ha).2.2 a h2 _ (.head _)) h
 rw[aH.1 h2];exact h
abbrev bEf:FuncId:=165
theorem cIa:Ent Tryz.prog bEf:=aU func165 rfl kR
theorem cIb:Tryz.prog.funcs[bEf]? =some Tryz.f165:=func165
theorem bEg (x:Sl EntM) {es:List En} {B:Nat} (h:Ev x.l es B):Ctr Tryz.prog bEf [] [.c (cF x)] [] (λ_:Unit=>⟨pC (Asc es),[],True⟩):=by
 have hl:=h.ln
 refine aW gT cIa cIb rfl rfl rfl bL aS (aPo 0 rfl λhn=>aA gT mxd ?_)
 refine kQ (rn [(2,21)]) (λi:Nat=>[(3,.c (iC (i+1:Nat)))]) (λ_=>[]) (λi=>Asc (es.take (i+1))/\(i<es.length\/i=0)) (es.length-·) 0 ?_
 refine⟨⟨⟨?_,.inr rfl⟩,rfl,rfl⟩,λi hi=>aA gT mxd ⟨λh1=>aA gT mxd ?_,λh1=>aA gT mxd ?_⟩⟩
 ·cases es with
  |nil=>exact List.Pairwise.nil
  |cons e es=>exact eJ _ _
 ·replace h1:((i+1:Nat):Int)<(x.l.length:Nat):=h1
  have hk:i+1<es.length:=by omega
  have e1:=(h.e i oM).1
  have e2:=(h.e (i+1) hk).1
  refine⟨.seq (sq 99 (List.range 12)),by kernel_rfl,(i:Int),wi,i,⟨rfl,oM⟩,i+1,⟨rfl,oM⟩,⟨λhe=>aA gT mxd ?_,λhe=>aA gT mxd ?_⟩⟩
  ·replace he:(x.l.getD (i+1) default).ix<=(x.l.getD i default).ix:=he
   exact⟨(),trivial,aM ⟨(nomatch ·),λha=>absurd ha (bXp hk oM)⟩ rfl trivial⟩
  replace he:¬(x.l.getD (i+1) default).ix<=(x.l.getD i default).ix:=he
  exact⟨(i+1+1:Nat),wi,i+1,⟨⟨bRd hk oM hi.1,.inl hk⟩,oM⟩,rfl,rfl,rfl⟩
 replace h1:¬((i+1:Nat):Int)<(x.l.length:Nat):=h1
 refine aA gT mxd ⟨(),trivial,aM ⟨λ_=>?_,λ_=>rfl⟩ rfl trivial⟩
 have:=hi.1
 rwa [cB oM] at this
abbrev bEh:FuncId:=167
theorem cIc:Ent Tryz.prog bEh:=aU func167 rfl kR
theorem cId:Tryz.prog.funcs[bEh]? =some Tryz.f167:=func167
theorem aJv (x:Sl EntM) {es:List En} {B:Nat} (h:Ev x.l es B) (ha:Asc es):Ctr Tryz.prog bEh [] [.c (cF x)] [] (λ_:Unit=>⟨.c (cF x),[],True⟩):=by
 refine aW gT cIc cId rfl rfl rfl bL aS (aA gT mxd ⟨[],bEg x h,rfl,rfl,rfl,λ_ _=>⟨λ_=>aA gT mxd ⟨(),trivial,aM rfl rfl trivial⟩,λh2=>absurd ha h2⟩⟩)
abbrev bEi:FuncId:=180
theorem cIe:Ent Tryz.prog bEi:=aU func180 rfl kR
theorem cIf:Tryz.prog.funcs[bEi]? =some Tryz.f180:=func180
theorem oU {es:List En} {i:Int} {B:Nat} (ha:Asc es) (hb:rbE es B) (h1:1<=B):rb (Vm.get es i) B:=by
 induction es with
 |nil=>exact⟨by show len 0<=B;rw[show len 0=0 by decide];omega,by show len 1<=B;rw[show len 1=1 by decide];omega⟩
 |cons e es ih=>
  by_cases he:e.1=i
  ·subst he;rw[get_head ha];exact hb e (.head _)
  rw[jD he];exact ih ha.tail λe he=>hb e (.tail _ he)
theorem aNh {es:List En} {i:Int} {k:Nat} (hk:k<es.length):Vm.get (es.take (k+1)) i=Vm.get (es.take k) i+(if (es.getD k default).1=i then (es.getD k default).2 else 0):=by
 rw[dF,aG hk,gd hk,get_append]
 congr 1
 show _+0=_
 rw[bP]
theorem bEj (x:Sl EntM) (i:Int) {es:List En} {B:Nat} (h:Ev x.l es B) (hb:rbE es B) (ha:Asc es) (h1:1<=B) (hB:B<=4398046511104):Ctr Tryz.prog bEi [] [.c (cF x),.c (iC i)] [] (rV (Vm.get es i)):=by
 have hl:=h.ln
 have hgb:∀k,rb (Vm.get (es.take k) i) 4398046511104:=λk=>(oU (ha.sublist (iE _ _)) (λe he=>hb e (cV he)) h1).le
 refine aW gT cIe cIf rfl rfl rfl bL aS (aPo 0 rfl λhn=>aA gT mxd ⟨[],yG (z:=0) dC,rfl,rfl,rfl,λz hz=>?_⟩)
 replace hn:x.l.length<=9223372036854775807:=hn
 refine cG (rn [(6,7),(11,24)]) (λg:Nat×RatM=>[(11,.c (iC g.1))]) (λg=>[(62,0,vI),(62,0,g.2.C)]) (λ_=>[]) (λg=>g.1<=es.length/\Cr g.2 (Vm.get (es.take g.1) i)) (λg=>es.length-g.1) λhM=>⟨bH hM (0,z) ⟨aC _,hz⟩ rfl ⟨rfl,rfl⟩ trivial rfl bL (aB rfl (aB rfl aY)) rfl,λ⟨k,g⟩ ⟨hk,hg⟩=>aA gT mxd ⟨λh2=>aA gT mxd ?_,λh2=>aA gT mxd (aA gT mxd ?_)⟩⟩
 all_goals
  replace hk:k<=es.length:=hk
  replace hg:Cr g (Vm.get (es.take k) i):=hg
 ·replace h2:(k:Int)<(x.l.length:Nat):=h2
  have hkl:k<es.length:=by omega
  have e1:=(h.e k hkl).1
  refine⟨k,⟨rfl,by omega⟩,⟨λh3=>aA gT mxd ?_,λh3=>aA gT mxd ?_⟩⟩
  ·replace h3:(x.l.getD k default).ix=i:=h3
   refine⟨[],aJs g (x.l.getD k default).v (hg.rq (hgb k)) ((h.e k hkl).2.le hB),rfl,rfl,rfl,λs hs=>⟨(k:Int)+1,wi,bH hM (k+1,s) ⟨⟨hkl,?_⟩,show es.length-(k+1)<es.length-k by omega⟩ rfl ⟨rfl,rfl⟩ trivial rfl bL (aB rfl (aB rfl aY)) rfl⟩⟩
   show Cr s _
   rw[aNh hkl,if_pos oM];exact hs
  replace h3:¬(x.l.getD k default).ix=i:=h3
  refine⟨(k:Int)+1,wi,bH hM (k+1,g) ⟨⟨hkl,?_⟩,show es.length-(k+1)<es.length-k by omega⟩ rfl ⟨rfl,rfl⟩ trivial rfl bL (aB rfl (aB rfl aY)) rfl⟩
  show Cr g _
  rw[aNh hkl,if_neg oM,bP];exact hg
 replace h2:¬(k:Int)<(x.l.length:Nat):=h2
 refine⟨g,?_,aM rfl rfl trivial⟩
 show Cr g _
 rw[cB oM] at hg
 exact hg
def VOk (es:List En) (n:Int):Prop:=Asc es/\∀e∈es,0<=e.1/\e.1<n/\e.2≠0
abbrev bEk:FuncId:=102
theorem cIg:Ent Tryz.prog bEk:=aU func102 rfl kR
theorem cIh:Tryz.prog.funcs[bEk]? =some Tryz.f102:=func102
theorem aNi (x:Sl EntM) (n:Int) {es:List En} {B:Nat} (h:Ev x.l es B) (hB:B<=4398046511104):Ctr Tryz.prog bEk [] [.c (cF x),.c (iC n)] [] (λ_:Unit=>⟨pC (VOk es n),[],True⟩):=by
 have hl:=h.ln
 refine aW gT cIg cIh rfl rfl rfl bL aS (aPo 0 rfl λhn=>aA gT mxd ⟨[],bEg x h,rfl,rfl,rfl,λ_ _=>⟨λh1=>aA gT mxd ?_,λh1=>aA gT mxd ?_⟩⟩)
 ·exact⟨(),trivial,aM ⟨(nomatch ·),λh2=>absurd h2.1 h1⟩ rfl trivial⟩
 replace h1:Asc es:=eE.1 h1
 replace hn:x.l.length<=9223372036854775807:=hn
 refine cG (rn [(6,6),(12,31)]) (λk:Nat=>[(12,.c (iC k))]) (λ_=>[]) (λ_=>[]) (λk=>k<=es.length/\∀e∈es.take k,0<=e.1/\e.1<n/\e.2≠0) (λk=>es.length-k) λhM=>⟨bH hM 0 ⟨aC _,by simp⟩ rfl trivial trivial rfl bL aY rfl,λk ⟨hk,hg⟩=>aA gT mxd ⟨λh2=>aA gT mxd ?_,λh2=>aA gT mxd (aA gT mxd ?_)⟩⟩
 ·replace h2:(k:Int)<(x.l.length:Nat):=h2
  have hkl:k<es.length:=by omega
  obtain⟨e1,e2⟩:=h.e k hkl
  have bad:¬(0<=(es.getD k default).1/\(es.getD k default).1<n/\(es.getD k default).2≠0)->¬VOk es n:=λhh hv=>hh (hv.2 _ (fO hkl))
  refine⟨k,⟨rfl,by omega⟩,⟨λh3=>?_,λh3=>?_⟩⟩
  ·replace h3:(x.l.getD k default).ix<0\/n<=(x.l.getD k default).ix:=h3
   exact⟨(),trivial,aM ⟨(nomatch ·),λhv=>absurd hv (bad oM)⟩ rfl trivial⟩
  replace h3:¬((x.l.getD k default).ix<0\/n<=(x.l.getD k default).ix):=h3
  refine⟨[],kH (x.l.getD k default).v (e2.le hB),rfl,rfl,rfl,λ_ _=>⟨λh4=>aA gT mxd ?_,λh4=>aA gT mxd ?_⟩⟩
  ·exact⟨(),trivial,aM ⟨(nomatch ·),λhv=>absurd hv (bad λhh=>hh.2.2 (dH.1 (fS.1 h4)))⟩ rfl trivial⟩
  refine⟨(k:Int)+1,wi,bH hM (k+1) ⟨⟨hkl,(aNf (d:=default) hkl).2 ⟨hg,by omega,by omega,λh5=>h4 (fS.2 (dH.2 h5))⟩⟩,show es.length-(k+1)<es.length-k by omega⟩ rfl trivial trivial rfl bL aY rfl⟩
 replace h2:¬(k:Int)<(x.l.length:Nat):=h2
 rw[cB oM] at hg
 exact⟨(),trivial,aM ⟨λ_=>⟨h1,hg⟩,λ_=>rfl⟩ rfl trivial⟩
abbrev bXq:FuncId:=168
theorem cPs:Ent Tryz.prog bXq:=aU func168 rfl kR
theorem cPt:Tryz.prog.funcs[bXq]? =some Tryz.f168:=func168
theorem bRe (x y:RatM) {a:Rat} (hx:Rq x a 4398046511104):Ctr Tryz.prog bXq [] [.a x.C,.a y.C] [] (rV a):=by
 refine aW gT cPs cPt rfl rfl rfl bL aS (aA gT mxd ⟨[],nZ x hx,rfl,rfl,rfl,λg hg=>⟨g,hg,aM rfl rfl trivial⟩⟩)
abbrev bXr:FuncId:=220
theorem cPu:Ent Tryz.prog bXr:=aU func220 rfl kR
theorem cPv:Tryz.prog.funcs[bXr]? =some Tryz.f220:=func220
theorem cIi (f x y:RatM) {q a b:Rat} (hf:Rq f q 4398046511104) (hx:Rq x a 4398046511104) (hy:Rq y b 4398046511104) (hb:rb (q*b) 4398046511104):Ctr Tryz.prog bXr [true] [.a x.C,.a y.C,.c (.p 0 0)] [(62,0,f.C)] (λg:RatM=>⟨.a g.C,[(62,0,f.C)],Cr g (a+q*b)⟩):=by
 refine aW gT cPu cPv rfl rfl rfl bL (eW rfl) (aA gT mxd ⟨[],kH y hy,rfl,rfl,rfl,λ_ _=>⟨λh=>aA gT mxd ?_,λh=>aA gT mxd ?_⟩⟩)
 ·refine⟨[],nZ x hx,rfl,rfl,rfl,λg hg=>⟨g,?_,aM rfl rfl ⟨⟨rfl,rfl,rfl,rfl⟩,trivial⟩⟩⟩
  show Cr g _
  rw[dH.1 (fS.1 h),cA,bP];exact hg
 exact⟨.seq [(0,false),(1,false),(2,false),(3,false),(4,false),(5,true)],by kernel_rfl,[],xC f y hf hy,rfl,rfl,rfl,λm hm=>⟨[],aJs x m hx (Cr.rq hm hb),rfl,rfl,rfl,λg hg=>⟨g,hg,aM rfl rfl ⟨⟨rfl,rfl,rfl,rfl⟩,trivial⟩⟩⟩⟩
theorem Sd.sq {P:Program} {nb N:Nat} {a b:Code} {K:Kt} {s:SS} (h:Sd P nb N a ⟨λs'=>Sd P nb N b K s',K.ext,K.ret⟩ s):Sd P nb N (.seq a b) K s:=λρ0 w0 ρ f w Q hL hD=>
 aYp (h ρ0 w0 ρ f w _ ⟨λs' ρ' f' w' h' hD'=>h' ρ0 w0 ρ' f' w' Q hL hD',hL.ext,hL.ret⟩ hD)
theorem Sd.cut {P:Program} {nb N:Nat} {a b:Code} {K:Kt} {s:SS} {σ:Type} (S:σ->SS) (C:σ->Prop) (h:Sd P nb N a ⟨λs'=>Gt nb s' S C,K.ext,K.ret⟩ s) (hk:∀g,C g->Sd P nb N b K (S g)):Sd P nb N (.seq a b) K s:=λρ0 w0 ρ f w Q hL hD=>
 aYp (h ρ0 w0 ρ f w _ ⟨λs' ρ' f' w' hg hD'=>by
  obtain⟨g,ρ2,hC,hD2⟩:=hg ρ0 w0 ρ' f' w' hD'
  exact hk g hC ρ0 w0 ρ2 f' w' Q hL hD2,hL.ext,hL.ret⟩ hD)
theorem Sd.blk {P:Program} {nb N id:Nat} {c:Code} {K:Kt} {s:SS} (h:Sd P nb N c ⟨K.nrm,λj s'=>bif Nat.beq j id then K.nrm s' else K.ext j s',K.ret⟩ s):Sd P nb N (.block id c) K s:=λρ0 w0 ρ f w Q hL hD=>
 aYr (h ρ0 w0 ρ f w _ ⟨hL.nrm,λj s' ρ' f' w' h' hD'=>by
  have h2:(bif Nat.beq j id then K.nrm s' else K.ext j s'):=h'
  show match Nat.beq j id with|true=>Q.nrm f' w'|false=>Q.ext j f' w'
  cases hj:Nat.beq j id with
  |true=>rw[hj] at h2;exact hL.nrm s' ρ' f' w' h2 hD'
  |false=>rw[hj] at h2;exact hL.ext j s' ρ' f' w' h2 hD',hL.ret⟩ hD)
theorem iY (r:RatM):∀c∈r.C,fK c=true:=λc h2=>by
 simp only[RatM.C,bZ,dZ,or_false] at h2
 rcases h2 with rfl|rfl|rfl<;>rfl
def ecs (ys:List EntM):List CV:=(ys.map EntM.C).flatten
theorem gM:∀ys:List EntM,(ecs ys).length=ys.length*4
 |[]=>rfl
 |e::ys=>by
  show(e.C++ecs ys).length=_
  rw[aE,gM ys,eF]
  show 4+_=_
  omega
theorem gN (ys:List EntM):∀c∈ecs ys,fK c=true:=λc hc=>by
 obtain⟨l,h1,h2⟩:=uR.1 hc
 obtain⟨e,_,rfl⟩:=cC.1 h1
 rcases bZ.1 h2 with rfl|h2
 ·rfl
 exact iY _ c h2
theorem qF (ys:List EntM) (e:EntM):ecs ys++e.C=ecs (ys++[e]):=by unfold ecs;simp
theorem cY {i:Nat} {c:CV} (h:fK c=true):kU i c=false:=by cases c<;>first|rfl|cases h
theorem nD {n:Nat} (ys:List EntM):(ecs ys).all (scC n)=true:=aV.2 λc hc=>rS (gN ys c hc)
theorem tD (x:List EntM) (i:Nat) (A:Option Addr) (c:Nat):CV.r A ((x.drop i).length-1) c 4 (λj=>((x.drop i).getD (j+1) default).C)=cF ⟨A,c,x.drop (i+1)⟩:=by
 unfold cF Sl.R
 congr 1
 ·simp only[cK];omega
 funext j
 rw[aD,aD,dL,dL,show i+(j+1)=i+1+j by omega]
theorem aHa {α:Type} [Inhabited α] {l:List α} {i:Nat} (h:i<l.length):l.drop i=l.getD i default::l.drop (i+1):=by rw[dX h,gd h]
theorem qY {x:List EntM} {i:Nat}:(x.drop i).getD 0 default=x.getD i default:=by
 rw[aD,aD,dL,gO]
theorem vJ {B:Nat}:Rq default 0 B:=⟨⟨Lm.nil,aC _,rfl⟩,Lm.nil,aC _,rfl⟩
theorem aAl {B:Nat} (h:1<=B):rb 0 B:=⟨by show len 0<=B;rw[show len 0=0 by decide];omega,by show len 1<=B;rw[show len 1=1 by decide];omega⟩
structure MgR (op:Rat->Rat->Rat) (es fs rs:List En):Prop where
 a:Asc rs
 z:aFz rs
 g:∀i,Vm.get rs i=op (Vm.get es i) (Vm.get fs i)
def aNj (es fs:List En) (B i j:Nat) (i' j':Nat) (ix:Int) (u v:RatM):Prop:=∃a b,Stp (es.drop i) (fs.drop j) ix a b (es.drop i') (fs.drop j')/\Rq u a B/\Rq v b B/\rb a B/\rb b B/\i'<=es.length/\j'<=fs.length/\i+j<i'+j'
section seen
variable {x y:List EntM} {es fs:List En} {B i j:Nat} (hx:Ev x es B) (hy:Ev y fs B) (bx:rbE es B) (bY:rbE fs B) (h1:1<=B) (hi:i<=es.length) (hj:j<=fs.length)
include hx bx h1 hj in
theorem bEl (h:i<es.length) (h2:j=fs.length\/(j<fs.length/\(es.getD i default).1<(fs.getD j default).1)):aNj es fs B i j (i+1) j ((x.drop i).getD 0 default).ix ((x.drop i).getD 0 default).v default:=by
 rw[qY,(hx.e i h).1]
 refine⟨_,0,?_,(hx.e i h).2,vJ,bx _ (fO h),aAl h1,h,hj,by omega⟩
 rw[aHa h]
 rcases h2 with rfl|⟨h2,h3⟩
 ·rw[lZ];exact .l _ _
 rw[aHa h2];exact .lt _ _ _ _ h3
include hx hy bx bY in
theorem bEm (h:i<es.length) (h2:j<fs.length) (h3:(es.getD i default).1=(fs.getD j default).1):aNj es fs B i j (i+1) (j+1) ((x.drop i).getD 0 default).ix ((x.drop i).getD 0 default).v ((y.drop j).getD 0 default).v:=by
 rw[qY,qY,(hx.e i h).1]
 refine⟨_,_,?_,(hx.e i h).2,(hy.e j h2).2,bx _ (fO h),bY _ (fO h2),h,h2,by omega⟩
 rw[aHa h,aHa h2];exact .eq _ _ _ _ h3
include hy bY h1 hi in
theorem bEn (h2:j<fs.length) (h:i=es.length\/(i<es.length/\(fs.getD j default).1<(es.getD i default).1)):aNj es fs B i j i (j+1) ((y.drop j).getD 0 default).ix default ((y.drop j).getD 0 default).v:=by
 rw[qY,(hy.e j h2).1]
 refine⟨0,_,?_,vJ,(hy.e j h2).2,aAl h1,bY _ (fO h2),hi,h2,by omega⟩
 rw[aHa h2]
 rcases h with rfl|⟨h,h3⟩
 ·rw[lZ];exact .r _ _
 rw[aHa h];exact .gt _ _ _ _ h3
end seen
theorem qG {get:Nat->List CV} {e:Nat}:LeC (.v (.slice none 0 0)) (.r none 0 0 e get):=λρ n w x h=>by rw[h.inv_v];exact Rc.nil none 0 e get (aC _)
theorem aNk:∀(k:Nat) (c c':CV),vI[k]? =some c->(default:RatM).C[k]? =some c'->LeC c c'
 |0,c,c',h1,h2=>by injection h1 with h1;injection h2 with h2;subst h1 h2;exact fC _
 |1,c,c',h1,h2=>by injection h1 with h1;injection h2 with h2;subst h1 h2;exact qG
 |2,c,c',h1,h2=>by injection h1 with h1;injection h2 with h2;subst h1 h2;exact qG
 |_+3,c,c',h1,h2=>by cases h1
theorem vK {ys:List EntM} {rs:List En} {ix:Int} {g:RatM} {q:Rat} (h:Ek ys rs) (hg:Cr g q):Ek (ys++[⟨ix,g⟩]) (rs++[(ix,q)]):=⟨by simp[h.ln],λk hk=>by
 rw[aE,cR] at hk
 have hl:=h.ln
 rcases eC k rs.length with h1|h1
 ·have e1:(ys++[(⟨ix,g⟩:EntM)]).getD k default=ys.getD k default:=by simp[bA (show k<ys.length by omega)]
  have e2:(rs++[(ix,q)]).getD k default=rs.getD k default:=by simp[bA h1]
  rw[e1,e2];exact h.e k h1
 obtain rfl:k=rs.length:=by omega
 have e1:(ys++[(⟨ix,g⟩:EntM)]).getD rs.length default=⟨ix,g⟩:=by rw[<-hl];simp
 have e2:(rs++[(ix,q)]).getD rs.length default=(ix,q):=by simp
 rw[e1,e2];exact⟨rfl,hg⟩⟩
theorem rX:∀(ys:List EntM) (j:Nat),j<ys.length->(ys.getD j default).C=((ecs ys).drop (j*4)).take 4
 |[],j,h=>absurd h (aF _)
 |e::ys,0,h=>rfl
 |e::ys,j+1,h=>by
  have h1:=rX ys j (by simpa using h)
  show(ys.getD j default).C=((e.C++ecs ys).drop ((j+1)*4)).take 4
  have e4:e.C.length=4:=rfl
  rw[h1,dU,gP (j*4) 4,List.drop_append,e4,fX,cH (show e.C.length<=4+j*4 by rw[e4];omega),kB]
theorem mK {i:Nat} (e:EntM):∀c∈e.C,kU i c=false:=λc hc=>cY (by
 rcases bZ.1 hc with rfl|hc
 ·rfl
 exact iY _ c hc)
theorem aBn {T e:Nat} {l:List CV} {r:BL} (h:∀c∈l,fK c=true):ClB [true] ((T,e,l)::r):=λi T' es' l' hi hc=>by
 cases i with
 |zero=>injection hi with hi;injection hi with _ hi;injection hi with _ hi;subst hi;exact h
 |succ i=>cases hc
abbrev aXy:FuncId:=166
theorem cIj:Ent Tryz.prog aXy:=aU func166 rfl kR
theorem cIk:Tryz.prog.funcs[aXy]? =some Tryz.f166:=func166
theorem bEo (x y:Sl EntM) {es fs:List En} {B:Nat} {q:FuncId} {op:Rat->Rat->Rat} (hx:Ev x.l es B) (hy:Ev y.l fs B) (bx:rbE es B) (bY:rbE fs B) (h1:1<=B) (ax:Asc es) (ay:Asc fs) (nx:es.length<=4096) (ny:fs.length<=4096) (h0:op 0 0=0)
 (hrb:∀a b,rb a B->rb b B->rb (op a b) 4398046511104)
 (hop:∀(u v:RatM) {a b:Rat},Rq u a B->Rq v b B->rb a B->rb b B->Ctr Tryz.prog q [] [.a u.C,.a v.C] [] (λg:RatM=>⟨.a g.C,[],Cr g (op a b)⟩)):
 Ctr Tryz.prog aXy [] [.c (cF x),.c (cF y),.c (.f q [] [])] [] (λys:List EntM=>⟨.c (.s 0 ys.length),[(82,4,ecs ys)],∃rs,Ek ys rs/\MgR op es fs rs⟩):=by
 have lx:=hx.ln
 have ly:=hy.ln
 refine aW gT cIj cIk rfl rfl rfl bL aS (aA gT mxd ⟨max (x.l.length) (y.l.length),⟨rfl,by show max (x.l.length:Int) (y.l.length:Int)=_;omega,by show 64*_<=_;omega,by simp only[maxLen];omega⟩,?_⟩)
 refine cG (λt=>!Nat.beq t 2) (λg:Nat×Nat×Option Addr×Nat×Option Addr×Nat×List EntM=>[(7,.c (.s 0 g.2.2.2.2.2.2.length)),(0,.c (cF ⟨g.2.2.1,g.2.2.2.1,x.l.drop g.1⟩)),(1,.c (cF ⟨g.2.2.2.2.1,g.2.2.2.2.2.1,y.l.drop g.2.1⟩))]) (λg=>[(82,4,ecs g.2.2.2.2.2.2)]) (λ_=>[]) (λg=>g.1<=es.length/\g.2.1<=fs.length/\g.2.2.2.2.2.2.length<=g.1+g.2.1/\∃rs ps,Mg op es fs (es.drop g.1) (fs.drop g.2.1) rs ps/\Ek g.2.2.2.2.2.2 rs) (λg=>es.length+fs.length-(g.1+g.2.1)) λhM=>⟨bH hM (0,0,x.A,x.c,y.A,y.c,[]) ⟨aC _,aC _,aC _,[],[],Mg.start ax ay,rfl,λk hk=>absurd hk (aF _)⟩ rfl rfl trivial ⟨rfl,rfl,rfl⟩ bL (aB (nD _) aY) rfl,λ⟨i,j,A1,c1,A2,c2,ys⟩ ⟨hi,hj,hys,rs,ps,hmg,hek⟩=>Sd.sq (aA gT mxd ⟨λh2=>aA gT mxd (Sd.blk (Sd.sq (aA gT mxd (Sd.sq (aA gT mxd ?_))))),λh2=>aA gT mxd ?_⟩)⟩
 all_goals
  replace hi:i<=es.length:=hi
  replace hj:j<=fs.length:=hj
  replace hys:ys.length<=i+j:=hys
  replace hmg:Mg op es fs (es.drop i) (fs.drop j) rs ps:=hmg
  replace hek:Ek ys rs:=hek
  have la:(x.l.drop i).length=es.length-i:=by rw[cK,lx]
  have lb:(y.l.drop j).length=fs.length-j:=by rw[cK,ly]
 ·replace h2:(0:Int)<((x.l.drop i).length:Nat)\/(0:Int)<((y.l.drop j).length:Nat):=h2
  show Sd _ _ _ _ _ _
  refine gH tSd (l:=vI) 1 (default:RatM).C rfl rfl aNk (gH tSd (l:=vI) 2 (default:RatM).C rfl rfl aNk ?_)
  refine Sd.cut (σ:=Nat×Nat×Option Addr×Nat×Option Addr×Nat×Int×RatM×RatM) (λg=>⟨[(7,.c (.s 0 ys.length)),(0,.c (cF ⟨g.2.2.1,g.2.2.2.1,x.l.drop g.1⟩)),(1,.c (cF ⟨g.2.2.2.2.1,g.2.2.2.2.2.1,y.l.drop g.2.1⟩)),(8,.c (iC g.2.2.2.2.2.2.1)),(9,.c (.p 1 0)),(10,.c (.p 2 0))]++[(2,.c (.f q [] []))],[],[(82,4,ecs ys),(62,0,g.2.2.2.2.2.2.2.1.C),(62,0,g.2.2.2.2.2.2.2.2.C)],[]⟩) (λg=>aNj es fs B i j g.1 g.2.1 g.2.2.2.2.2.2.1 g.2.2.2.2.2.2.2.1 g.2.2.2.2.2.2.2.2) (aA gT mxd ?_) λ⟨i',j',A3,c3,A4,c4,ix,u,v⟩ hs=>aA gT mxd ?_
  ·refine⟨.seq (sq 99 (List.range 19)),by kernel_rfl,0,λhq=>⟨rfl,?_⟩,0,λhq=>⟨rfl,?_⟩,⟨λhc=>aA gT mxd ?_,λhc=>aA gT mxd ?_⟩⟩
   ·replace hq:((0:Int)<((x.l.drop i).length:Nat))/\¬(((y.l.drop j).length:Nat):Int)=0:=hq
    show 0<(x.l.drop i).length
    omega
   ·replace hq:((0:Int)<((x.l.drop i).length:Nat))/\¬(((y.l.drop j).length:Nat):Int)=0:=hq
    show 0<(y.l.drop j).length
    omega
   ·replace hc:(((y.l.drop j).length:Nat):Int)=0\/((0:Int)<((x.l.drop i).length:Nat))/\((x.l.drop i).getD 0 default).ix<=((y.l.drop j).getD 0 default).ix:=hc
    have hil:i<es.length:=by omega
    have l1:0<(x.l.drop i).length:=by omega
    refine⟨.seq (sq 9 (List.range 10)),by kernel_rfl,0,⟨rfl,l1⟩,0,⟨rfl,l1⟩,1,⟨rfl,l1⟩,0,λhq=>⟨rfl,?_⟩,⟨λhd=>aA gT mxd ?_,λhd=>aA gT mxd ?_⟩⟩
    ·replace hq:(0:Int)<((y.l.drop j).length:Nat):=hq
     show 0<(y.l.drop j).length
     omega
    ·replace hd:(0:Int)<((y.l.drop j).length:Nat)/\((y.l.drop j).getD 0 default).ix=((x.l.drop i).getD 0 default).ix:=hd
     have hs:=bEm hx hy bx bY (i:=i) (j:=j) hil oM (by rw[qY,qY,(hx.e i hil).1,(hy.e j oM).1] at hd;exact hd.2.symm)
     have l2:0<(y.l.drop j).length:=by omega
     exact⟨0,⟨rfl,l2⟩,1,⟨rfl,l2⟩,bH hM (chg:=λg:Nat×Nat×Option Addr×Nat×Option Addr×Nat×Int×RatM×RatM=>[(7,.c (.s 0 ys.length)),(0,.c (cF ⟨g.2.2.1,g.2.2.2.1,x.l.drop g.1⟩)),(1,.c (cF ⟨g.2.2.2.2.1,g.2.2.2.2.2.1,y.l.drop g.2.1⟩)),(8,.c (iC g.2.2.2.2.2.2.1)),(9,.c (.p 1 0)),(10,.c (.p 2 0))]) (bls:=λg:Nat×Nat×Option Addr×Nat×Option Addr×Nat×Int×RatM×RatM=>[(82,4,ecs ys),(62,0,g.2.2.2.2.2.2.2.1.C),(62,0,g.2.2.2.2.2.2.2.2.C)]) (fls:=λ_=>[]) (i+1,j+1,slA A1 c1 1 4,c1-1,slA A2 c2 1 4,c2-1,((x.l.drop i).getD 0 default).ix,((x.l.drop i).getD 0 default).v,((y.l.drop j).getD 0 default).v) hs rfl ⟨rfl,rfl,rfl⟩ trivial ⟨rfl,tD x.l i _ _,tD y.l j _ _,rfl,rfl,rfl⟩ bL (aB (nD _) (aB rfl (aB rfl aY))) rfl⟩
    replace hd:¬((0:Int)<((y.l.drop j).length:Nat)/\((y.l.drop j).getD 0 default).ix=((x.l.drop i).getD 0 default).ix):=hd
    have hs:=bEl hx bx h1 hj (i:=i) (fs:=fs) hil (by
     rcases eC j fs.length with h|h
     ·rw[qY,qY,(hx.e i hil).1,(hy.e j h).1] at hd hc
      exact .inr ⟨h,by omega⟩
     exact .inl oM)
    exact bH hM (chg:=λg:Nat×Nat×Option Addr×Nat×Option Addr×Nat×Int×RatM×RatM=>[(7,.c (.s 0 ys.length)),(0,.c (cF ⟨g.2.2.1,g.2.2.2.1,x.l.drop g.1⟩)),(1,.c (cF ⟨g.2.2.2.2.1,g.2.2.2.2.2.1,y.l.drop g.2.1⟩)),(8,.c (iC g.2.2.2.2.2.2.1)),(9,.c (.p 1 0)),(10,.c (.p 2 0))]) (bls:=λg:Nat×Nat×Option Addr×Nat×Option Addr×Nat×Int×RatM×RatM=>[(82,4,ecs ys),(62,0,g.2.2.2.2.2.2.2.1.C),(62,0,g.2.2.2.2.2.2.2.2.C)]) (fls:=λ_=>[]) (i+1,j,slA A1 c1 1 4,c1-1,A2,c2,((x.l.drop i).getD 0 default).ix,((x.l.drop i).getD 0 default).v,default) hs rfl ⟨rfl,rfl,rfl⟩ trivial ⟨rfl,tD x.l i _ _,rfl,rfl,rfl,rfl⟩ bL (aB (nD _) (aB rfl (aB rfl aY))) rfl
   replace hc:¬((((y.l.drop j).length:Nat):Int)=0\/((0:Int)<((x.l.drop i).length:Nat))/\((x.l.drop i).getD 0 default).ix<=((y.l.drop j).getD 0 default).ix):=hc
   have hjl:j<fs.length:=by omega
   have hs:=bEn hy bY h1 hi (j:=j) (es:=es) hjl (by
    rcases eC i es.length with h|h
    ·rw[qY,qY,(hx.e i h).1,(hy.e j hjl).1] at hc
     exact .inr ⟨h,by omega⟩
    exact .inl oM)
   have l2:0<(y.l.drop j).length:=by omega
   exact⟨.seq (sq 9 (List.range 10)),by kernel_rfl,0,⟨rfl,l2⟩,0,⟨rfl,l2⟩,1,⟨rfl,l2⟩,bH hM (chg:=λg:Nat×Nat×Option Addr×Nat×Option Addr×Nat×Int×RatM×RatM=>[(7,.c (.s 0 ys.length)),(0,.c (cF ⟨g.2.2.1,g.2.2.2.1,x.l.drop g.1⟩)),(1,.c (cF ⟨g.2.2.2.2.1,g.2.2.2.2.2.1,y.l.drop g.2.1⟩)),(8,.c (iC g.2.2.2.2.2.2.1)),(9,.c (.p 1 0)),(10,.c (.p 2 0))]) (bls:=λg:Nat×Nat×Option Addr×Nat×Option Addr×Nat×Int×RatM×RatM=>[(82,4,ecs ys),(62,0,g.2.2.2.2.2.2.2.1.C),(62,0,g.2.2.2.2.2.2.2.2.C)]) (fls:=λ_=>[]) (i,j+1,A1,c1,slA A2 c2 1 4,c2-1,((y.l.drop j).getD 0 default).ix,default,((y.l.drop j).getD 0 default).v) hs rfl ⟨rfl,rfl,rfl⟩ trivial ⟨rfl,rfl,tD y.l j _ _,rfl,rfl,rfl⟩ bL (aB (nD _) (aB rfl (aB rfl aY))) rfl⟩
  obtain⟨a,b,hst,qu,qv,ra,rb',hi',hj',hlt⟩:=hs
  replace hst:Stp (es.drop i) (fs.drop j) ix a b (es.drop i') (fs.drop j'):=hst
  replace qu:Rq u a B:=qu
  replace qv:Rq v b B:=qv
  replace hi':i'<=es.length:=hi'
  replace hj':j'<=fs.length:=hj'
  replace hlt:i+j<i'+j':=hlt
  obtain⟨m1,m2⟩:=hmg.step hst
  refine⟨[],hop u v qu qv ra rb',rfl,rfl,rfl,λg hg=>⟨[],kH g (hg.rq (hrb a b ra rb')),rfl,rfl,rfl,λ_ _=>⟨λhz=>aA gT mxd ?_,λhz=>aA gT mxd ?_⟩⟩⟩
  ·replace hz:¬sgn (op a b).num=0:=hz
   have hne:op a b≠0:=λh=>hz (fS.2 (dH.2 h))
   refine⟨⟨rfl,by show ys.length*4=(ecs ys).length;rw[gM],by show ys.length+1<=maxLen;simp only[maxLen];omega,by show(ys.length+1)*64<=_;omega,λc hc=>?_⟩,mK ⟨ix,g⟩,bH hM (chg:=λg:Nat×Nat×Option Addr×Nat×Option Addr×Nat×List EntM=>[(7,.c (.s 0 g.2.2.2.2.2.2.length)),(0,.c (cF ⟨g.2.2.1,g.2.2.2.1,x.l.drop g.1⟩)),(1,.c (cF ⟨g.2.2.2.2.1,g.2.2.2.2.2.1,y.l.drop g.2.1⟩))]) (bls:=λg:Nat×Nat×Option Addr×Nat×Option Addr×Nat×List EntM=>[(82,4,ecs g.2.2.2.2.2.2)]) (fls:=λ_=>[]) (i',j',A3,c3,A4,c4,ys++[⟨ix,g⟩]) ⟨⟨hi',hj',?_,_,_,m2 hne,vK hek hg⟩,?_⟩ rfl (by show(82,4,ecs ys++(⟨ix,g⟩:EntM).C)=_;rw[qF]) trivial ⟨?_,rfl,rfl⟩ bL (aB (nD _) aY) rfl⟩
   ·rcases aQ.1 hc with hc|hc
    ·exact cY (gN ys c hc)
    exact mK ⟨ix,g⟩ c hc
   ·show(ys++[(⟨ix,g⟩:EntM)]).length<=i'+j'
    rw[aE,cR];omega
   ·show es.length+fs.length-(i'+j')<es.length+fs.length-(i+j)
    omega
   show ys.length+1=(ys++[(⟨ix,g⟩:EntM)]).length
   rw[aE,cR]
  replace hz:¬¬sgn (op a b).num=0:=hz
  have h0':op a b=0:=dH.1 (fS.1 (iH.1 hz))
  refine bH hM (chg:=λg:Nat×Nat×Option Addr×Nat×Option Addr×Nat×List EntM=>[(7,.c (.s 0 g.2.2.2.2.2.2.length)),(0,.c (cF ⟨g.2.2.1,g.2.2.2.1,x.l.drop g.1⟩)),(1,.c (cF ⟨g.2.2.2.2.1,g.2.2.2.2.2.1,y.l.drop g.2.1⟩))]) (bls:=λg:Nat×Nat×Option Addr×Nat×Option Addr×Nat×List EntM=>[(82,4,ecs g.2.2.2.2.2.2)]) (fls:=λ_=>[]) (i',j',A3,c3,A4,c4,ys) ⟨⟨hi',hj',show ys.length<=i'+j' by omega,_,_,m1 h0',hek⟩,?_⟩ rfl rfl trivial ⟨rfl,rfl,rfl⟩ bL (aB (nD _) aY) rfl
  show es.length+fs.length-(i'+j')<es.length+fs.length-(i+j)
  omega
 replace h2:¬((0:Int)<((x.l.drop i).length:Nat)\/(0:Int)<((y.l.drop j).length:Nat)):=h2
 obtain rfl:i=es.length:=by omega
 obtain rfl:j=fs.length:=by omega
 rw[lZ,lZ] at hmg
 obtain⟨f1,f2,f3⟩:=hmg.fin h0
 exact aA gT mxd ⟨ys,⟨rs,hek,f1,f2,f3⟩,fH rfl rfl bL (aB (nD _) aY) rfl aCl⟩
theorem bXs (x y:Sl EntM) {es fs:List En} {B:Nat} {q:FuncId} {op:Rat->Rat->Rat} (hx:Ev x.l es B) (hy:Ev y.l fs B) (bx:rbE es B) (bY:rbE fs B) (h1:1<=B) (ax:Asc es) (ay:Asc fs) (nx:es.length<=4096) (ny:fs.length<=4096) (h0:op 0 0=0)
 (hrb:∀a b,rb a B->rb b B->rb (op a b) 4398046511104)
 (hop:∀(u v:RatM) {a b:Rat},Rq u a B->Rq v b B->rb a B->rb b B->Ctr Tryz.prog q [] [.a u.C,.a v.C] [] (λg:RatM=>⟨.a g.C,[],Cr g (op a b)⟩)):
 Ctr Tryz.prog aXy [] [.c (cF x),.c (cF y),.c (.f q [] [])] [] (λg:Sl EntM=>⟨.c (cF g),[],∃rs,Ek g.l rs/\MgR op es fs rs⟩):=
 CtrF.gt (bEo x y hx hy bx bY h1 ax ay nx ny h0 hrb hop) λys hys _=>aPq tGt 0 0 (λj=>(ys.getD j default).C) rfl rfl (rX ys) (gM ys).symm bL (gN ys) bL λA c _ _=>bH (M:=λ_=>true) (base:=[]) (chg:=λg:Sl EntM=>[(0,.c (cF g))]) (bls:=λ_=>[]) (fls:=λ_=>[]) (λt d ht=>by cases ht) ⟨A,c,ys⟩ ⟨hys,aCl⟩ rfl trivial trivial rfl bL aY rfl
theorem bXt (x y:Sl EntM) (f:RatM) {es fs:List En} {B:Nat} {q:FuncId} {op:Rat->Rat->Rat} (hx:Ev x.l es B) (hy:Ev y.l fs B) (bx:rbE es B) (bY:rbE fs B) (h1:1<=B) (ax:Asc es) (ay:Asc fs) (nx:es.length<=4096) (ny:fs.length<=4096) (h0:op 0 0=0)
 (hrb:∀a b,rb a B->rb b B->rb (op a b) 4398046511104)
 (hop:∀(u v:RatM) {a b:Rat},Rq u a B->Rq v b B->rb a B->rb b B->Ctr Tryz.prog q [true] [.a u.C,.a v.C,.c (.p 0 0)] [(62,0,f.C)] (λg:RatM=>⟨.a g.C,[(62,0,f.C)],Cr g (op a b)⟩)):
 Ctr Tryz.prog aXy [true] [.c (cF x),.c (cF y),.c (.f q [] [(0,0)])] [(62,0,f.C)] (λys:List EntM=>⟨.c (.s 1 ys.length),(62,0,f.C)::[(82,4,ecs ys)],∃rs,Ek ys rs/\MgR op es fs rs⟩):=by
 have lx:=hx.ln
 have ly:=hy.ln
 refine aW gT cIj cIk rfl rfl rfl bL (eW rfl) (aA gT mxd ⟨max (x.l.length) (y.l.length),⟨rfl,by show max (x.l.length:Int) (y.l.length:Int)=_;omega,by show 64*_<=_;omega,by simp only[maxLen];omega⟩,?_⟩)
 refine cG (λt=>!Nat.beq t 2) (λg:Nat×Nat×Option Addr×Nat×Option Addr×Nat×List EntM=>[(7,.c (.s 1 g.2.2.2.2.2.2.length)),(0,.c (cF ⟨g.2.2.1,g.2.2.2.1,x.l.drop g.1⟩)),(1,.c (cF ⟨g.2.2.2.2.1,g.2.2.2.2.2.1,y.l.drop g.2.1⟩))]) (λg=>(62,0,f.C)::[(82,4,ecs g.2.2.2.2.2.2)]) (λ_=>[]) (λg=>g.1<=es.length/\g.2.1<=fs.length/\g.2.2.2.2.2.2.length<=g.1+g.2.1/\∃rs ps,Mg op es fs (es.drop g.1) (fs.drop g.2.1) rs ps/\Ek g.2.2.2.2.2.2 rs) (λg=>es.length+fs.length-(g.1+g.2.1)) λhM=>⟨bH hM (0,0,x.A,x.c,y.A,y.c,[]) ⟨aC _,aC _,aC _,[],[],Mg.start ax ay,rfl,λk hk=>absurd hk (aF _)⟩ rfl ⟨rfl,rfl⟩ trivial ⟨rfl,rfl,rfl⟩ bL (aB rfl (aB (nD _) aY)) rfl,λ⟨i,j,A1,c1,A2,c2,ys⟩ ⟨hi,hj,hys,rs,ps,hmg,hek⟩=>Sd.sq (aA gT mxd ⟨λh2=>aA gT mxd (Sd.blk (Sd.sq (aA gT mxd (Sd.sq (aA gT mxd ?_))))),λh2=>aA gT mxd ?_⟩)⟩
 all_goals
  replace hi:i<=es.length:=hi
  replace hj:j<=fs.length:=hj
  replace hys:ys.length<=i+j:=hys
  replace hmg:Mg op es fs (es.drop i) (fs.drop j) rs ps:=hmg
  replace hek:Ek ys rs:=hek
  have la:(x.l.drop i).length=es.length-i:=by rw[cK,lx]
  have lb:(y.l.drop j).length=fs.length-j:=by rw[cK,ly]
 ·replace h2:(0:Int)<((x.l.drop i).length:Nat)\/(0:Int)<((y.l.drop j).length:Nat):=h2
  show Sd _ _ _ _ _ _
  refine gH tSd (l:=vI) 2 (default:RatM).C rfl rfl aNk (gH tSd (l:=vI) 3 (default:RatM).C rfl rfl aNk ?_)
  refine Sd.cut (σ:=Nat×Nat×Option Addr×Nat×Option Addr×Nat×Int×RatM×RatM) (λg=>⟨[(7,.c (.s 1 ys.length)),(0,.c (cF ⟨g.2.2.1,g.2.2.2.1,x.l.drop g.1⟩)),(1,.c (cF ⟨g.2.2.2.2.1,g.2.2.2.2.2.1,y.l.drop g.2.1⟩)),(8,.c (iC g.2.2.2.2.2.2.1)),(9,.c (.p 2 0)),(10,.c (.p 3 0))]++[(2,.c (.f q [] [(0,0)]))],[],(62,0,f.C)::[(82,4,ecs ys),(62,0,g.2.2.2.2.2.2.2.1.C),(62,0,g.2.2.2.2.2.2.2.2.C)],[]⟩) (λg=>aNj es fs B i j g.1 g.2.1 g.2.2.2.2.2.2.1 g.2.2.2.2.2.2.2.1 g.2.2.2.2.2.2.2.2) (aA gT mxd ?_) λ⟨i',j',A3,c3,A4,c4,ix,u,v⟩ hs=>aA gT mxd ?_
  ·refine⟨.seq (sq 99 (List.range 19)),by kernel_rfl,0,λhq=>⟨rfl,?_⟩,0,λhq=>⟨rfl,?_⟩,⟨λhc=>aA gT mxd ?_,λhc=>aA gT mxd ?_⟩⟩
   ·replace hq:((0:Int)<((x.l.drop i).length:Nat))/\¬(((y.l.drop j).length:Nat):Int)=0:=hq
    show 0<(x.l.drop i).length
    omega
   ·replace hq:((0:Int)<((x.l.drop i).length:Nat))/\¬(((y.l.drop j).length:Nat):Int)=0:=hq
    show 0<(y.l.drop j).length
    omega
   ·replace hc:(((y.l.drop j).length:Nat):Int)=0\/((0:Int)<((x.l.drop i).length:Nat))/\((x.l.drop i).getD 0 default).ix<=((y.l.drop j).getD 0 default).ix:=hc
    have hil:i<es.length:=by omega
    have l1:0<(x.l.drop i).length:=by omega
    refine⟨.seq (sq 9 (List.range 10)),by kernel_rfl,0,⟨rfl,l1⟩,0,⟨rfl,l1⟩,1,⟨rfl,l1⟩,0,λhq=>⟨rfl,?_⟩,⟨λhd=>aA gT mxd ?_,λhd=>aA gT mxd ?_⟩⟩
    ·replace hq:(0:Int)<((y.l.drop j).length:Nat):=hq
     show 0<(y.l.drop j).length
     omega
    ·replace hd:(0:Int)<((y.l.drop j).length:Nat)/\((y.l.drop j).getD 0 default).ix=((x.l.drop i).getD 0 default).ix:=hd
     have hs:=bEm hx hy bx bY (i:=i) (j:=j) hil oM (by rw[qY,qY,(hx.e i hil).1,(hy.e j oM).1] at hd;exact hd.2.symm)
     have l2:0<(y.l.drop j).length:=by omega
     exact⟨0,⟨rfl,l2⟩,1,⟨rfl,l2⟩,bH hM (chg:=λg:Nat×Nat×Option Addr×Nat×Option Addr×Nat×Int×RatM×RatM=>[(7,.c (.s 1 ys.length)),(0,.c (cF ⟨g.2.2.1,g.2.2.2.1,x.l.drop g.1⟩)),(1,.c (cF ⟨g.2.2.2.2.1,g.2.2.2.2.2.1,y.l.drop g.2.1⟩)),(8,.c (iC g.2.2.2.2.2.2.1)),(9,.c (.p 2 0)),(10,.c (.p 3 0))]) (bls:=λg:Nat×Nat×Option Addr×Nat×Option Addr×Nat×Int×RatM×RatM=>(62,0,f.C)::[(82,4,ecs ys),(62,0,g.2.2.2.2.2.2.2.1.C),(62,0,g.2.2.2.2.2.2.2.2.C)]) (fls:=λ_=>[]) (i+1,j+1,slA A1 c1 1 4,c1-1,slA A2 c2 1 4,c2-1,((x.l.drop i).getD 0 default).ix,((x.l.drop i).getD 0 default).v,((y.l.drop j).getD 0 default).v) hs rfl ⟨rfl,rfl,rfl,rfl⟩ trivial ⟨rfl,tD x.l i _ _,tD y.l j _ _,rfl,rfl,rfl⟩ bL (aB rfl (aB (nD _) (aB rfl (aB rfl aY)))) rfl⟩
    replace hd:¬((0:Int)<((y.l.drop j).length:Nat)/\((y.l.drop j).getD 0 default).ix=((x.l.drop i).getD 0 default).ix):=hd
    have hs:=bEl hx bx h1 hj (i:=i) (fs:=fs) hil (by
     rcases eC j fs.length with h|h
     ·rw[qY,qY,(hx.e i hil).1,(hy.e j h).1] at hd hc
      exact .inr ⟨h,by omega⟩
     exact .inl oM)
    exact bH hM (chg:=λg:Nat×Nat×Option Addr×Nat×Option Addr×Nat×Int×RatM×RatM=>[(7,.c (.s 1 ys.length)),(0,.c (cF ⟨g.2.2.1,g.2.2.2.1,x.l.drop g.1⟩)),(1,.c (cF ⟨g.2.2.2.2.1,g.2.2.2.2.2.1,y.l.drop g.2.1⟩)),(8,.c (iC g.2.2.2.2.2.2.1)),(9,.c (.p 2 0)),(10,.c (.p 3 0))]) (bls:=λg:Nat×Nat×Option Addr×Nat×Option Addr×Nat×Int×RatM×RatM=>(62,0,f.C)::[(82,4,ecs ys),(62,0,g.2.2.2.2.2.2.2.1.C),(62,0,g.2.2.2.2.2.2.2.2.C)]) (fls:=λ_=>[]) (i+1,j,slA A1 c1 1 4,c1-1,A2,c2,((x.l.drop i).getD 0 default).ix,((x.l.drop i).getD 0 default).v,default) hs rfl ⟨rfl,rfl,rfl,rfl⟩ trivial ⟨rfl,tD x.l i _ _,rfl,rfl,rfl,rfl⟩ bL (aB rfl (aB (nD _) (aB rfl (aB rfl aY)))) rfl
   replace hc:¬((((y.l.drop j).length:Nat):Int)=0\/((0:Int)<((x.l.drop i).length:Nat))/\((x.l.drop i).getD 0 default).ix<=((y.l.drop j).getD 0 default).ix):=hc
   have hjl:j<fs.length:=by omega
   have hs:=bEn hy bY h1 hi (j:=j) (es:=es) hjl (by
    rcases eC i es.length with h|h
    ·rw[qY,qY,(hx.e i h).1,(hy.e j hjl).1] at hc
     exact .inr ⟨h,by omega⟩
    exact .inl oM)
   have l2:0<(y.l.drop j).length:=by omega
   exact⟨.seq (sq 9 (List.range 10)),by kernel_rfl,0,⟨rfl,l2⟩,0,⟨rfl,l2⟩,1,⟨rfl,l2⟩,bH hM (chg:=λg:Nat×Nat×Option Addr×Nat×Option Addr×Nat×Int×RatM×RatM=>[(7,.c (.s 1 ys.length)),(0,.c (cF ⟨g.2.2.1,g.2.2.2.1,x.l.drop g.1⟩)),(1,.c (cF ⟨g.2.2.2.2.1,g.2.2.2.2.2.1,y.l.drop g.2.1⟩)),(8,.c (iC g.2.2.2.2.2.2.1)),(9,.c (.p 2 0)),(10,.c (.p 3 0))]) (bls:=λg:Nat×Nat×Option Addr×Nat×Option Addr×Nat×Int×RatM×RatM=>(62,0,f.C)::[(82,4,ecs ys),(62,0,g.2.2.2.2.2.2.2.1.C),(62,0,g.2.2.2.2.2.2.2.2.C)]) (fls:=λ_=>[]) (i,j+1,A1,c1,slA A2 c2 1 4,c2-1,((y.l.drop j).getD 0 default).ix,default,((y.l.drop j).getD 0 default).v) hs rfl ⟨rfl,rfl,rfl,rfl⟩ trivial ⟨rfl,rfl,tD y.l j _ _,rfl,rfl,rfl⟩ bL (aB rfl (aB (nD _) (aB rfl (aB rfl aY)))) rfl⟩
  obtain⟨a,b,hst,qu,qv,ra,rb',hi',hj',hlt⟩:=hs
  replace hst:Stp (es.drop i) (fs.drop j) ix a b (es.drop i') (fs.drop j'):=hst
  replace qu:Rq u a B:=qu
  replace qv:Rq v b B:=qv
  replace hi':i'<=es.length:=hi'
  replace hj':j'<=fs.length:=hj'
  replace hlt:i+j<i'+j':=hlt
  obtain⟨m1,m2⟩:=hmg.step hst
  refine⟨_,rfl,[0],hop u v qu qv ra rb',rfl,rfl,rfl,λg hg=>⟨[],kH g (hg.rq (hrb a b ra rb')),rfl,rfl,rfl,λ_ _=>⟨λhz=>aA gT mxd ?_,λhz=>aA gT mxd ?_⟩⟩⟩
  ·replace hz:¬sgn (op a b).num=0:=hz
   have hne:op a b≠0:=λh=>hz (fS.2 (dH.2 h))
   refine⟨⟨rfl,by show ys.length*4=(ecs ys).length;rw[gM],by show ys.length+1<=maxLen;simp only[maxLen];omega,by show(ys.length+1)*64<=_;omega,λc hc=>?_⟩,mK ⟨ix,g⟩,bH hM (chg:=λg:Nat×Nat×Option Addr×Nat×Option Addr×Nat×List EntM=>[(7,.c (.s 1 g.2.2.2.2.2.2.length)),(0,.c (cF ⟨g.2.2.1,g.2.2.2.1,x.l.drop g.1⟩)),(1,.c (cF ⟨g.2.2.2.2.1,g.2.2.2.2.2.1,y.l.drop g.2.1⟩))]) (bls:=λg:Nat×Nat×Option Addr×Nat×Option Addr×Nat×List EntM=>(62,0,f.C)::[(82,4,ecs g.2.2.2.2.2.2)]) (fls:=λ_=>[]) (i',j',A3,c3,A4,c4,ys++[⟨ix,g⟩]) ⟨⟨hi',hj',?_,_,_,m2 hne,vK hek hg⟩,?_⟩ rfl ⟨rfl,by show(82,4,ecs ys++(⟨ix,g⟩:EntM).C)=_;rw[qF]⟩ trivial ⟨?_,rfl,rfl⟩ bL (aB rfl (aB (nD _) aY)) rfl⟩
   ·rcases aQ.1 hc with hc|hc
    ·exact cY (gN ys c hc)
    exact mK ⟨ix,g⟩ c hc
   ·show(ys++[(⟨ix,g⟩:EntM)]).length<=i'+j'
    rw[aE,cR];omega
   ·show es.length+fs.length-(i'+j')<es.length+fs.length-(i+j)
    omega
   show ys.length+1=(ys++[(⟨ix,g⟩:EntM)]).length
   rw[aE,cR]
  replace hz:¬¬sgn (op a b).num=0:=hz
  have h0':op a b=0:=dH.1 (fS.1 (iH.1 hz))
  refine bH hM (chg:=λg:Nat×Nat×Option Addr×Nat×Option Addr×Nat×List EntM=>[(7,.c (.s 1 g.2.2.2.2.2.2.length)),(0,.c (cF ⟨g.2.2.1,g.2.2.2.1,x.l.drop g.1⟩)),(1,.c (cF ⟨g.2.2.2.2.1,g.2.2.2.2.2.1,y.l.drop g.2.1⟩))]) (bls:=λg:Nat×Nat×Option Addr×Nat×Option Addr×Nat×List EntM=>(62,0,f.C)::[(82,4,ecs g.2.2.2.2.2.2)]) (fls:=λ_=>[]) (i',j',A3,c3,A4,c4,ys) ⟨⟨hi',hj',show ys.length<=i'+j' by omega,_,_,m1 h0',hek⟩,?_⟩ rfl ⟨rfl,rfl⟩ trivial ⟨rfl,rfl,rfl⟩ bL (aB rfl (aB (nD _) aY)) rfl
  show es.length+fs.length-(i'+j')<es.length+fs.length-(i+j)
  omega
 replace h2:¬((0:Int)<((x.l.drop i).length:Nat)\/(0:Int)<((y.l.drop j).length:Nat)):=h2
 obtain rfl:i=es.length:=by omega
 obtain rfl:j=fs.length:=by omega
 rw[lZ,lZ] at hmg
 obtain⟨f1,f2,f3⟩:=hmg.fin h0
 exact aA gT mxd ⟨ys,⟨rs,hek,f1,f2,f3⟩,fH rfl ⟨rfl,rfl⟩ bL (aB rfl (aB (nD _) aY)) rfl (aBn (iY f))⟩
theorem bXu (x y:Sl EntM) (f:RatM) {es fs:List En} {B:Nat} {q:FuncId} {op:Rat->Rat->Rat} (hx:Ev x.l es B) (hy:Ev y.l fs B) (bx:rbE es B) (bY:rbE fs B) (h1:1<=B) (ax:Asc es) (ay:Asc fs) (nx:es.length<=4096) (ny:fs.length<=4096) (h0:op 0 0=0)
 (hrb:∀a b,rb a B->rb b B->rb (op a b) 4398046511104)
 (hop:∀(u v:RatM) {a b:Rat},Rq u a B->Rq v b B->rb a B->rb b B->Ctr Tryz.prog q [true] [.a u.C,.a v.C,.c (.p 0 0)] [(62,0,f.C)] (λg:RatM=>⟨.a g.C,[(62,0,f.C)],Cr g (op a b)⟩)):
 Ctr Tryz.prog aXy [true] [.c (cF x),.c (cF y),.c (.f q [] [(0,0)])] [(62,0,f.C)] (λg:Sl EntM=>⟨.c (cF g),[(62,0,f.C)],∃rs,Ek g.l rs/\MgR op es fs rs⟩):=
 CtrF.gt (bXt x y f hx hy bx bY h1 ax ay nx ny h0 hrb hop) λys hys _=>aPq tGt 0 1 (λj=>(ys.getD j default).C) rfl rfl (rX ys) (gM ys).symm bL (gN ys) bL λA c _ _=>bH (M:=λ_=>true) (base:=[]) (chg:=λg:Sl EntM=>[(0,.c (cF g))]) (bls:=λ_=>[(62,0,f.C)]) (fls:=λ_=>[]) (λt d ht=>by cases ht) ⟨A,c,ys⟩ ⟨hys,aBn (iY f)⟩ rfl rfl trivial rfl bL (aB rfl aY) rfl
theorem gY {a b:Rat} {B B':Nat} (ha:rb a B) (hb:rb b B'):rb (a*b) (B+B'):=by
 have h:=aZt a b
 simp only[fD] at h
 obtain⟨a1,a2⟩:=ha
 obtain⟨b1,b2⟩:=hb
 exact⟨by omega,by omega⟩
theorem aAm {a b:Rat} {B B':Nat} (ha:rb a B) (hb:rb b B'):rb (a+b) (B+B'+1):=by
 have h:=aZs a b
 simp only[fD] at h
 obtain⟨a1,a2⟩:=ha
 obtain⟨b1,b2⟩:=hb
 exact⟨by omega,by omega⟩
theorem pV {a b:Rat} {B B':Nat} (ha:rb a B) (hb:rb b B'):rb (a-b) (B+B'+1):=by
 rw[jT];exact aAm ha (xA hb)
theorem _root_.Go.Vy.CtrF.args {P:Program} {q:FuncId} {cl:List Bool} {al al':List DV} {bl:BL} {fl:List Fam} {σ:Type} {R:σ->OutF} (h:CtrF P q cl al bl fl R) (hal:∀ρ n w vals,HL ρ n w al' vals->HL ρ n w al vals):CtrF P q cl al' bl fl R:=
 ⟨h.ent,h.clb,λρ w vals hv hD hF=>h.run ρ w vals (hal _ _ _ _ hv) hD hF⟩
theorem _root_.Go.Vy.CtrF.post {P:Program} {q:FuncId} {cl:List Bool} {al:List DV} {bl:BL} {fl:List Fam} {σ τ:Type} {R:σ->OutF} {R':τ->OutF} (h:CtrF P q cl al bl fl R) (φ:σ->τ) (hp:∀g,(R g).C->(R' (φ g)).C) (hd:∀g,(R' (φ g)).d=(R g).d/\(R' (φ g)).bl=(R g).bl/\(R' (φ g)).fl=(R g).fl):CtrF P q cl al bl fl R':=
 ⟨h.ent,h.clb,λρ w vals hv hD hF=>(h.run ρ w vals hv hD hF).mono λe w' ⟨v,he,g,ρ',c1,c2,c3,c4,c5⟩=>by
  obtain⟨d1,d2,d3⟩:=hd g
  exact⟨v,he,φ g,ρ',hp g c1,by rw[d2];exact c2,by rw[d1,d2];exact c3,by rw[d2];exact c4,by rw[d3];exact c5⟩⟩
abbrev aQy:FuncId:=105
theorem bXv:Ent Tryz.prog aQy:=aU func105 rfl kR
theorem bXw:Tryz.prog.funcs[aQy]? =some Tryz.f105:=func105
theorem bMw (x:Sl EntM) {es:List En} {B:Nat} (h:Ev x.l es B) (hb:rbE es B) (h1:1<=B) (hB:B<=4398046511104) (ha:Asc es) (hz:aFz es) (hn:es.length<=4096):Ctr Tryz.prog aQy [] [.c (cF x)] [] (λg:Sl EntM=>⟨.c (cF g),[],Ek g.l es⟩):=by
 have hm:=(bXs x cP (es:=es) (fs:=[]) (op:=λa _=>a) (q:=168) h ⟨rfl,λk hk=>absurd hk (aF _)⟩ hb (λe he=>absurd he dZ) h1 ha List.Pairwise.nil hn (aC _) rfl (λa b h _=>h.le hB) (λu v {a b} hu _ _ _=>bRe u v (hu.le hB))).args (al':=[.c (cF x),.c (.v (.slice none 0 0)),.c (.f 168 [] [])]) λρ n w vals hv=>(by
  match vals,hv with
  |[v0,v1,v2],⟨h0,h1,h2,h3⟩=>exact⟨h0,.c (qG ρ n w v1 h1.inv_c),h2,h3⟩)
 refine aW gT bXv bXw rfl rfl rfl bL aS (aA gT mxd ⟨[],aJv x h ha,rfl,rfl,rfl,λ_ _=>⟨[],hm,rfl,rfl,rfl,λg ⟨rs,h2,h3⟩=>⟨g,?_,aM rfl rfl trivial⟩⟩⟩)
 have e:rs=es:=canon_ext rs es h3.a ha h3.z hz h3.g
 rw[<-e];exact h2
abbrev bEp:FuncId:=181
theorem cIl:Ent Tryz.prog bEp:=aU func181 rfl kR
theorem cIm:Tryz.prog.funcs[bEp]? =some Tryz.f181:=func181
theorem bEq (x y:Sl EntM) (f:RatM) {es fs:List En} {q:Rat} {B Q:Nat} (hx:Ev x.l es B) (hy:Ev y.l fs B) (bx:rbE es B) (bY:rbE fs B) (h1:1<=B) (hf:Rq f q Q) (hq:rb q Q) (hB:B+(Q+B)+1<=4398046511104) (ax:Asc es) (ay:Asc fs) (nx:es.length<=4096) (ny:fs.length<=4096):
 Ctr Tryz.prog bEp [] [.c (cF x),.a f.C,.c (cF y)] [] (λg:Sl EntM=>⟨.c (cF g),[],∃rs,Ek g.l rs/\MgR (λa b=>a+q*b) es fs rs⟩):=by
 refine aW gT cIl cIm rfl rfl rfl bL aS (aA gT mxd ⟨[],aJv x hx ax,rfl,rfl,rfl,λ_ _=>⟨[],aJv y hy ay,rfl,rfl,rfl,λ_ _=>⟨[0],bXu x y f (op:=λa b=>a+q*b) hx hy bx bY h1 ax ay nx ny (by show(0:Rat)+q*0=0;rw[cA,bP]) (λa b ha hb=>(aAm ha (gY hq hb)).le) (λu v {a b} hu hv _ rb'=>cIi f u v (hf.le) (hu.le) (hv.le) ((gY hq rb').le)),rfl,rfl,rfl,λg hg=>⟨g,hg,aM rfl rfl trivial⟩⟩⟩⟩)
def fI (x:Sl RatM):CV:=x.R 3 RatM.C default
structure Rl (x:List RatM) (qs:List Rat):Prop where
 ln:x.length=qs.length
 e:∀k,k<qs.length->Cr (x.getD k default) (qs.getD k 0)
def rbL (qs:List Rat) (B:Nat):Prop:=∀q∈qs,rb q B
theorem gD0 {qs:List Rat} {k:Nat} (h:k<qs.length):qs.getD k 0∈qs:=by rw[gd h];exact jK h
theorem Rl.rq {x:List RatM} {qs:List Rat} {B k:Nat} (h:Rl x qs) (hb:rbL qs B) (hk:k<qs.length):Rq (x.getD k default) (qs.getD k 0) B:=(h.e k hk).rq (hb _ (gD0 hk))
def fdF (qs:List Rat):Nat->List En
 |0=>[]
 |k+1=>if qs.getD k 0=0 then fdF qs k else fdF qs k++[((k:Int),qs.getD k 0)]
theorem aEw {qs:List Rat}:∀{k:Nat},∀e∈fdF qs k,∃i:Nat,i<k/\e=((i:Int),qs.getD i 0)/\e.2≠0
 |0,e,h=>absurd h dZ
 |k+1,e,h=>by
  unfold fdF at h
  split at h
  ·obtain⟨i,h1,h2⟩:=aEw e h;exact⟨i,by omega,h2⟩
  next hq=>
  rcases aQ.1 h with h|h
  ·obtain⟨i,h1,h2⟩:=aEw e h;exact⟨i,by omega,h2⟩
  rw[aH.1 h];exact⟨k,by omega,rfl,hq⟩
theorem aJw {qs:List Rat}:∀k,(fdF qs k).length<=k
 |0=>aI _
 |k+1=>by
  have:=aJw (qs:=qs) k
  unfold fdF
  split
  ·omega
  rw[aE,cR];omega
theorem aJx {qs:List Rat}:∀k,Asc (fdF qs k)
 |0=>List.Pairwise.nil
 |k+1=>by
  unfold fdF
  split
  ·exact aJx k
  refine eR.2 ⟨aJx k,eJ _ _,λa ha b hb=>?_⟩
  rw[aH.1 hb]
  obtain⟨i,h1,rfl,_⟩:=aEw a ha
  show(i:Int)<(k:Int)
  omega
theorem aJy {qs:List Rat}:∀(k:Nat) (i:Int),Vm.get (fdF qs k) i=if 0<=i/\i<k then qs.getD i.toNat 0 else 0
 |0,i=>by rw[if_neg oM];rfl
 |k+1,i=>by
  have ih:=aJy (qs:=qs) k i
  unfold fdF
  split
  ·next hq=>
   rw[ih]
   by_cases hi:i=(k:Int)
   ·subst hi;rw[if_neg oM,if_pos oM,cL,hq]
   by_cases h2:0<=i/\i<(k:Int)
   ·rw[if_pos h2,if_pos oM]
   rw[if_neg h2,if_neg oM]
  next hq=>
  rw[get_append,ih]
  show _+((if (k:Int)=i then qs.getD k 0 else 0)+0)=_
  rw[bP]
  by_cases hi:(k:Int)=i
  ·subst hi;rw[if_neg oM,if_pos rfl,if_pos oM,cL,fU]
  rw[if_neg hi,bP]
  by_cases h2:0<=i/\i<(k:Int)
  ·rw[if_pos h2,if_pos oM]
  rw[if_neg h2,if_neg oM]
theorem oV {P:Nat->List CV} {e:Nat}:∀{n:Nat},(∀j,j<n->(P j).length=e)->(flatR n P).length=n*e
 |0,_=>by simp[flatR]
 |n+1,h=>by rw[gR,aE,oV (λj hj=>h j oM),h n oM,dJ,iT]
theorem oL {P Q:Nat->List CV}:∀{n:Nat},(∀j,j<n->P j=Q j)->flatR n P=flatR n Q
 |0,_=>rfl
 |n+1,h=>by rw[gR,gR,oL (λj hj=>h j oM),h n oM]
theorem aJz {P:Nat->List CV} {e k:Nat}:∀{n:Nat},(∀j,j<n->(P j).length=e)->k<n->((flatR n P).drop (k*e)).take e=P k
 |0,_,hk=>absurd hk (aF _)
 |n+1,h,hk=>by
  have hl:=oV (λj hj=>h j (eO hj):∀j,j<n->(P j).length=e)
  rw[gR]
  by_cases hkn:k<n
  ·have hm:k*e+e<=n*e:=by rw[<-dU];exact aZ e hkn
   rw[gJ oM,fA (by rw[cK];omega)]
   exact aJz (λj hj=>h j oM) hkn
  obtain rfl:k=n:=by omega
  rw[<-hl,List.drop_left,<-h k oM,cW]
theorem aKa {P:Nat->List CV} {e k:Nat} {v:List CV} (hv:v.length=e):∀{n:Nat},(∀j,j<n->(P j).length=e)->k<n->mD (flatR n P) (k*e) v=flatR n λj=>if j=k then v else P j
 |0,_,hk=>absurd hk (aF _)
 |n+1,h,hk=>by
  have hl:=oV (λj hj=>h j (eO hj):∀j,j<n->(P j).length=e)
  rw[gR,gR]
  by_cases hkn:k<n
  ·have hm:k*e+e<=n*e:=by rw[<-dU];exact aZ e hkn
   rw[if_neg oM,<-aKa hv (λj hj=>h j oM) hkn]
   unfold mD
   rw[hv,fA oM,gJ oM,cU,cU]
  obtain rfl:k=n:=by omega
  rw[if_pos rfl,oL (Q:=P) λj hj=>if_neg oM]
  unfold mD
  rw[hv,<-hl,List.take_left,cH (by rw[aE,h k oM,hl];omega),dG]
def aBo (G:Nat->RatM) (k:Nat) (j:Nat):List CV:=if j<k then (G j).C else vI
theorem aNl {G:Nat->RatM} {k:Nat} (j:Nat):(aBo G k j).length=3:=by unfold aBo;split<;>rfl
theorem bEr {P:Nat->List CV} {n k:Nat} (h:∀j,(P j).length=3) (hk:k<n):k*3<(flatR n P).length:=by rw[oV λj _=>h j];omega
theorem bXx {P:Nat->List CV} {n k:Nat} {l:List CV} (h:∀j,(P j).length=3) (hk:k<n) (hl:P k=l):((flatR n P).drop (k*3)).take 3=l/\l.length=3:=⟨by rw[aJz (λj _=>h j) hk,hl],by rw[<-hl];exact h k⟩
theorem aUr {P Q:Nat->List CV} {n k:Nat} {l:List CV} (h:∀j,(P j).length=3) (hk:k<n) (hl:l.length=3) (hq:∀j,j<n->(if j=k then l else P j)=Q j):mD (flatR n P) (k*3) l=flatR n Q/\k*3+l.length<=(flatR n P).length:=⟨by rw[aKa hl (λj _=>h j) hk,oL hq],by rw[oV λj _=>h j,hl];omega⟩
def aXz (G:Nat->RatM) (k:Nat) (g:RatM) (j:Nat):RatM:=if j=k then g else G j
theorem bMx {G:Nat->RatM} {k:Nat} {g:RatM} (j:Nat):(if j=k then g.C else aBo G k j)=aBo (aXz G k g) (k+1) j:=by
 unfold aBo aXz
 by_cases h:j=k
 ·rw[if_pos h,if_pos h,if_pos oM]
 rw[if_neg h,if_neg h]
 by_cases h2:j<k
 ·rw[if_pos h2,if_pos oM]
 rw[if_neg h2,if_neg oM]
theorem aKb {z:List CV}:∀{n:Nat},flatR n (λ_=>z)=(List.replicate n z).flatten
 |0=>rfl
 |n+1=>by rw[gR,aKb,nE,kY,List.flatten_singleton]
theorem yY {P:Nat->List CV} (h:∀j,∀c∈P j,fK c=true):∀n,∀c∈flatR n P,fK c=true
 |0,c,hc=>by cases hc
 |n+1,c,hc=>by
  rw[gR] at hc
  rcases aQ.1 hc with h1|h1
  ·exact yY h n c h1
  exact h n c h1
theorem bEs:∀c∈vI,fK c=true:=λc h2=>by
 rcases bZ.1 h2 with rfl|h2
 ·rfl
 rcases bZ.1 h2 with rfl|h2
 ·rfl
 rcases bZ.1 h2 with rfl|h2
 ·rfl
 cases h2
theorem rG {es:List En} (ha:Asc es) {e:En} (he:e∈es):Vm.get es e.1=e.2:=by
 induction es with
 |nil=>cases he
 |cons a es ih=>
  rcases bZ.1 he with rfl|he
  ·exact get_head ha
  have:=ha.head e he
  rw[jD oM];exact ih ha.tail he
def dnL (es:List En) (n:Nat):List Rat:=(List.range n).map λi=>Vm.get es (i:Nat)
theorem bEt {es:List En} {n k:Nat} (h:k<n):(dnL es n).getD k 0=Vm.get es (k:Nat):=by unfold dnL;simp[h]
theorem aKc {es:List En} {n:Nat}:(dnL es n).length=n:=by unfold dnL;simp
def nO (G:Nat->RatM) (n:Nat):List RatM:=(List.range n).map G
theorem xD {G:Nat->RatM} {n k:Nat} (h:k<n):(nO G n).getD k default=G k:=by unfold nO;simp[h]
theorem rH {G:Nat->RatM} {n:Nat}:(nO G n).length=n:=by unfold nO;simp
theorem bEu {G:Nat->RatM} {n:Nat}:flatR n (aBo G n)=flatR n λj=>(G j).C:=oL λj hj=>if_pos hj
theorem bMy {G:Nat->RatM} {i n:Nat}:∀c∈flatR n (aBo G i),fK c=true:=yY (λj=>by unfold aBo;split;exact iY _;exact bEs) n
theorem aAn {G:Nat->RatM} {n:Nat} (j:Nat) (h:j<n):((nO G n).getD j default).C=((flatR n λj=>(G j).C).drop (j*3)).take 3:=by rw[xD h];exact(aJz (P:=λj=>(G j).C) (λ_ _=>rfl) h).symm
theorem bMz {G:Nat->RatM} {n:Nat} {es:List En} (hG:∀k,k<n->Cr (G k) (Vm.get es (k:Nat))):Rl (nO G n) (dnL es n):=⟨rH.trans aKc.symm,λk hk=>by
 rw[aKc] at hk
 rw[xD hk,bEt hk];exact hG k hk⟩
structure MatM where
 r:Int
 c:Int
 d:Sl (Sl EntM)
def mL (d:Sl (Sl EntM)):CV:=d.R 1 (λrow=>[cF row]) cP
def MatM.C (m:MatM):List CV:=[iC m.r,iC m.c,mL m.d]
structure Mk (m:MatM) (M:Nat->List En) (a b:Nat):Prop where
 r:m.r=(a:Nat)
 c:m.c=(b:Nat)
 ln:m.d.l.length=a
 row:∀i,i<a->Ek (m.d.l.getD i cP).l (M i)
 ok:∀i,i<a->VOk (M i) (b:Nat)/\(M i).length<=b
abbrev Mx (m:MatM) (M:Nat->List En) (n:Nat):Prop:=Mk m M n n
structure Mr (m:MatM) (M:Nat->List En) (a b B:Nat):Prop where
 r:m.r=(a:Nat)
 c:m.c=(b:Nat)
 ln:m.d.l.length=a
 row:∀i,i<a->Ev (m.d.l.getD i cP).l (M i) B
 ok:∀i,i<a->VOk (M i) (b:Nat)/\(M i).length<=b
def Mg (m:MatM) (M:Nat->List En) (B:Nat):Prop:=∀i,i<m.d.l.length->Ev (m.d.l.getD i cP).l (M i) B
def MOk (m:MatM) (M:Nat->List En):Prop:=(0<=m.r/\m.r<=16384)/\(0<=m.c/\m.c<=16384)/\((m.d.l.length:Nat):Int)=m.r/\∀i,i<m.d.l.length->VOk (M i) m.c
def rbM (M:Nat->List En) (n B:Nat):Prop:=∀i,i<n->rbE (M i) B
theorem Mk.mr {m:MatM} {M:Nat->List En} {a b B:Nat} (h:Mk m M a b) (hb:rbM M a B):Mr m M a b B:=⟨h.r,h.c,h.ln,λi hi=>(h.row i hi).ev (hb i hi),h.ok⟩
theorem Mr.mg {m:MatM} {M:Nat->List En} {a b B:Nat} (h:Mr m M a b B):Mg m M B:=λi hi=>h.row i (by have:=h.ln;omega)
theorem Mr.mok {m:MatM} {M:Nat->List En} {a b B:Nat} (h:Mr m M a b B) (ha:a<=4096) (hb:b<=4096):MOk m M:=by
 have h1:=h.r
 have h2:=h.c
 have h3:=h.ln
 exact⟨⟨by omega,by omega⟩,⟨by omega,by omega⟩,by omega,λi hi=>by rw[h2];exact(h.ok i oM).1⟩
abbrev bNa:FuncId:=176
theorem cPw:Ent Tryz.prog bNa:=aU func176 rfl kR
theorem cPx:Tryz.prog.funcs[bNa]? =some Tryz.f176:=func176
theorem bEv (z:Int):Ctr Tryz.prog bNa [] [.c (iC z)] [] (λ_:Unit=>⟨pC (0<=z/\z<=16384),[],True⟩):=by
 exact aW gT cPw cPx rfl rfl rfl bL aS (aA gT mxd ⟨(),trivial,aM lF rfl trivial⟩)
abbrev aUs:FuncId:=112
theorem cIn:Ent Tryz.prog aUs:=aU func112 rfl kR
theorem cIo:Tryz.prog.funcs[aUs]? =some Tryz.f112:=func112
abbrev mvG (m:MatM) (k:Nat):List (Nat×DV):=[(26,.c (iC k)),(1,.c (.p 0 0)),(24,.c (mL m.d)),(25,.c (iC (m.d.l.length:Nat)))]
theorem bXy (m:MatM) {M:Nat->List En} {B:Nat} (h:Mg m M B) (hB:B<=4398046511104) (hn:m.d.l.length<=4611686018427387904):Ctr Tryz.prog aUs [] [.a m.C] [] (λ_:Unit=>⟨pC (MOk m M),[],True⟩):=by
 refine aW gT cIn cIo rfl rfl rfl bL aS (aA gT mxd ⟨[],bEv m.r,rfl,rfl,rfl,λ_ _=>⟨λh2=>?_,λh1=>⟨[],bEv m.c,rfl,rfl,rfl,λ_ _=>⟨λh2=>aA gT mxd ?_,λh2=>aA gT mxd ?_⟩⟩⟩⟩)
 ·exact⟨(),trivial,aM (ff λh3=>h2 h3.1) rfl trivial⟩
 ·replace h2:¬(0<=m.c/\m.c<=16384)\/((m.d.l.length:Nat):Int)≠m.r:=h2
  exact⟨(),trivial,aM (ff λh3=>h2.elim (λh4=>h4 h3.2.1) λh4=>h4 h3.2.2.1) rfl trivial⟩
 replace h2:¬(¬(0<=m.c/\m.c<=16384)\/((m.d.l.length:Nat):Int)≠m.r):=h2
 refine cG (λ_=>true) (mvG m) (λ_=>[(24,0,m.C)]) (λ_=>[]) (λk=>k<=m.d.l.length/\∀i,i<k->VOk (M i) m.c) (λk=>m.d.l.length-k) λhM=>⟨bH hM (chg:=mvG m) (bls:=λ_=>[(24,0,m.C)]) (fls:=λ_=>[]) 0 ⟨aC _,λi hi=>absurd hi (aF _)⟩ rfl rfl trivial ⟨rfl,rfl,rfl,rfl⟩ bL (aB rfl aY) rfl,λk ⟨hk,hv⟩=>aA gT mxd ⟨λh3=>aA gT mxd ?_,λh3=>aA gT mxd ?_⟩⟩
 ·replace h3:(k:Int)<(m.d.l.length:Nat):=h3
  have hkn:k<m.d.l.length:=by omega
  refine⟨k,⟨rfl,hkn⟩,[],aNi (m.d.l.getD k cP) m.c (h k hkn) hB,rfl,rfl,rfl,λ_ _=>⟨λh4=>aA gT mxd ?_,λh4=>aA gT mxd ?_⟩⟩
  ·exact⟨(),trivial,aM (ff λh5=>h4 (h5.2.2.2 k hkn)) rfl trivial⟩
  refine⟨(k+1:Nat),wi,bH hM (chg:=mvG m) (bls:=λ_=>[(24,0,m.C)]) (fls:=λ_=>[]) (k+1) ⟨⟨hkn,λi hi=>?_⟩,show m.d.l.length-(k+1)<m.d.l.length-k by omega⟩ rfl rfl trivial ⟨rfl,rfl,rfl,rfl⟩ bL (aB rfl aY) rfl⟩
  rcases cN (cX hi) with h5|rfl
  ·exact hv i h5
  exact eE.1 h4
 replace h3:¬(k:Int)<(m.d.l.length:Nat):=h3
 exact aA gT mxd ⟨(),trivial,aM (tt ⟨eE.1 h1,aT λh4=>h2 (.inl h4),aT λh4=>h2 (.inr h4),λi hi=>hv i oM⟩) rfl trivial⟩
theorem aEx (m:MatM) {M:Nat->List En} {a b B:Nat} (h:Mr m M a b B) (hB:B<=4398046511104) (ha:a<=4096) (hb:b<=4096):Ctr Tryz.prog aUs [] [.a m.C] [] (λ_:Unit=>⟨pC True,[],True⟩):=
 (bXy m h.mg hB (by rw[h.ln];omega)).lo λ_ _=>⟨(),trivial,λρ n w v hv=>by
  have h2:=hv.tt (h.mok ha hb)
  exact .c (by rw[h2.inv_c.inv_v,<-decide_true (h:=Classical.propDecidable True)];exact Rc.b _ _),rfl,rfl⟩
abbrev bXz:FuncId:=118
theorem cPy:Ent Tryz.prog bXz:=aU func118 rfl kR
theorem cPz:Tryz.prog.funcs[bXz]? =some Tryz.f118:=func118
theorem bRf {x:TypeId×Nat×List CV} {T e:Nat} {l:List CV} (h:∀c∈l,fK c=true):ClB [false,true] [x,(T,e,l)]:=λi T' es' l' hi hc=>by
 match i,hi,hc with
 |0,_,hc=>cases hc
 |1,hi,_=>injection hi with hi;injection hi with _ hi;injection hi with _ hi;subst hi;exact h
theorem bRg (n k:Nat) (hn:n<=4096):Ctr Tryz.prog bXz [false,true] [.c (iC n),.c (iC k)] [] (λ_:Unit=>⟨.a [iC n,iC k,.s 1 n],[(24,0,[iC n,iC k,.s 1 n]),(65,1,List.replicate n (.v (.slice none 0 0)))],True⟩):=by
 refine aW gT cPy cPz rfl rfl rfl bL (λi T es l hi=>by cases hi) (aA gT mxd ⟨n,⟨rfl,rfl,by show 24*n<=_;omega,by simp only[maxLen];omega⟩,(),trivial,fH rfl ⟨rfl,rfl⟩ bL (aB rfl (aB ?_ aY)) rfl (bRf λc hc=>by rw[(gB.1 hc).2];rfl)⟩)
 exact aV.2 λc hc=>by rw[(gB.1 hc).2];rfl
def dI (n:Nat) (P:Nat->CV):List CV:=(List.range n).map P
theorem dB {n:Nat} {P:Nat->CV}:(dI n P).length=n:=by unfold dI;simp
theorem eB {n j:Nat} {P:Nat->CV} (h:j<n):(dI n P)[j*1]? =some (P j):=by unfold dI;simp[h]
theorem cQ {n j:Nat} {P:Nat->CV} (h:j<n):j*1<(dI n P).length:=by rw[dB];omega
theorem bEw {l:List CV} {j:Nat} {c:CV} (h:j<l.length):mD l (j*1) [c]=l.set j c:=by
 unfold mD
 rw[bI,jW,if_pos h]
 rfl
theorem gU {n j:Nat} {P Q:Nat->CV} {c:CV} (h:j<n) (hq:∀i,i<n->(if i=j then c else P i)=Q i):mD (dI n P) (j*1) [c]=dI n Q/\j*1+1<=(dI n P).length:=by
 refine⟨?_,by rw[dB];omega⟩
 rw[bEw (by rw[dB];exact h)]
 refine iN (by simp[dI]) λi h1 h2=>?_
 have hi:i<n:=by simpa[dI] using h2
 have:=hq i hi
 have e1:(dI n Q)[i]=Q i:=by simp[dI]
 rw[List.getElem_set,e1,<-this]
 by_cases e:j=i
 ·subst e;simp
 rw[if_neg e,if_neg (gE e)];simp[dI]
theorem gA {n:Nat} {P Q:Nat->CV} (h:∀i,i<n->P i=Q i):dI n P=dI n Q:=dP λi hi=>h i (cM.1 hi)
theorem rY {n:Nat} {c:CV}:List.replicate n c=dI n λ_=>c:=by
 unfold dI
 refine iN (by simp) λi h1 h2=>by simp
theorem aX {n:Nat} {P:Nat->CV} (h:∀j,j<n->fK (P j)=true):∀c∈dI n P,fK c=true:=λc hc=>by
 obtain⟨j,hj,rfl⟩:=cC.1 hc
 exact h j (cM.1 hj)
theorem kV {φ:CV->CV} {l:List CV} (h:∀c,fK c=true->φ c=c) (hl:∀c∈l,fK c=true):l.map φ=l:=by
 induction l with
 |nil=>rfl
 |cons c l ih=>rw[eQ,ih λc hc=>hl c (.tail _ hc),h c (hl c (.head _))]
theorem jN {i:Nat} {A:Option Nat} {a:Nat} (c:CV) (h:fK c=true):pL i A a c=c:=by cases c<;>first|rfl|cases h
theorem aEy {F:Fam} {n:Nat} {P Q:Nat->CV} (h:∀j,j<n->FrC F (P j) (Q j)) (k:Nat) (c c':CV) (h1:(dI n P)[k]? =some c) (h2:(dI n Q)[k]? =some c'):c=c'\/FrC F c c':=by
 have hk:k<n:=by have:=eG h1;rwa [dB] at this
 have e1:=eB (P:=P) hk
 have e2:=eB (P:=Q) hk
 rw[bI] at e1 e2
 rw[h1] at e1;rw[h2] at e2
 injection e1 with e1;injection e2 with e2
 subst e1 e2
 exact .inr (h k hk)
theorem vL {F:Fam} {l:List CV} {k0:Nat} {c0 c1:CV} (hk:l[k0]? =some c0) (hf:FrC F c0 c1):∀(k:Nat) (c c':CV),l[k]? =some c->(l.set k0 c1)[k]? =some c'->c=c'\/FrC F c c':=λk c c' h1 h2=>by
 rcases lH h2 with ⟨rfl,rfl,_⟩|⟨_,h3⟩
 ·rw[hk] at h1
  injection h1 with h1
  subst h1
  exact .inr hf
 rw[h1] at h3
 injection h3 with h3
 exact .inl h3
abbrev hdP (A:Nat->Option Nat) (cap:Nat->Nat) (G:Nat->List EntM):Nat->CV:=λj=> .h (A j) (G j).length (cap j)
theorem aBp {A:Nat->Option Nat} {cap:Nat->Nat} {G:Nat->List EntM} {n j:Nat} {A':Option Nat} {c':Nat} {e:EntM} (h:j<n):mD (dI n (hdP A cap G)) (j*1) [.h A' ((G j).length+1) c']=dI n (hdP (upd A j A') (upd cap j c') (upd G j (G j++[e])))/\j*1+1<=(dI n (hdP A cap G)).length:=gU h λi _=>by
 by_cases he:i=j
 ·subst he;simp only[hdP,bJ,if_true,aE,cR]
 simp only[hdP,bD he,if_neg he]
theorem aDa {T n j:Nat} {A:Nat->Option Nat} {cap:Nat->Nat} {G:Nat->List EntM} {e:EntM}:(⟨T,4,n,A,cap,upd (λj=>ecs (G j)) j (ecs (G j)++e.C)⟩:Fam)=⟨T,4,n,A,cap,λi=>ecs (upd G j (G j++[e]) i)⟩:=by
 congr 1
 funext i
 by_cases he:i=j
 ·subst he;rw[bJ,bJ,qF]
 rw[bD he,bD he]
def hdS (A:Nat->Option Nat) (cap:Nat->Nat) (G:Nat->List EntM) (j:Nat):Sl EntM:=⟨(A j).map λb=>⟨b,0,none⟩,cap j,G j⟩
theorem bRh {T n:Nat} {A:Nat->Option Nat} {cap:Nat->Nat} {G:Nat->List EntM} (j:Nat) (hj:j<n):FrC ⟨T,4,n,A,cap,λj=>ecs (G j)⟩ (hdP A cap G j) (cF (hdS A cap G j)):=⟨j,(G j).length,_,hj,rfl,rfl,(gM _).symm,λk hk=>rX (G j) k hk⟩
def kS (S:Nat->Sl EntM) (n:Nat):List (Sl EntM):=(List.range n).map S
theorem qH {S:Nat->Sl EntM} {n j:Nat} (h:j<n):(kS S n).getD j cP=S j:=by unfold kS;simp[h]
theorem nJ {S:Nat->Sl EntM} {n:Nat}:(kS S n).length=n:=by unfold kS;simp
theorem vM {T n c:Nat} {A:Option Nat} {S:Nat->Sl EntM}:FrC ⟨T,1,1,λ_=>A,λ_=>c,λ_=>dI n λj=>cF (S j)⟩ (.h A n c) (mL ⟨A.map λb=>⟨b,0,none⟩,c,kS S n⟩):=⟨0,n,_,bL,rfl,by unfold mL Sl.R;rw[nJ],by rw[dB,bI],λk hk=>by
 show [cF ((kS S n).getD k cP)]=_
 rw[qH hk]
 have h1:=eB (P:=λj=>cF (S j)) hk
 rw[bI] at h1
 rw[bI,dX (by rw[dB];exact hk)]
 rw[aG (by rw[dB];exact hk)] at h1
 injection h1 with h1
 rw[h1];rfl⟩
def aGd (M:Nat->List En) (n:Nat) (j:Nat):List Rat:=(List.range n).map λi=>Vm.get (M i) (j:Nat)
theorem aDb {M:Nat->List En} {n i j:Nat} (h:i<n):(aGd M n j).getD i 0=Vm.get (M i) (j:Nat):=by unfold aGd;simp[h]
def trM (M:Nat->List En) (n:Nat) (j:Nat):List En:=fdF (aGd M n j) n
theorem aUt {M:Nat->List En} {n i j:Nat} (hi:i<n):Vm.get (trM M n j) (i:Nat)=Vm.get (M i) (j:Nat):=by
 unfold trM
 rw[aJy,if_pos oM,cL,aDb hi]
theorem aBq {qs:List Rat} (n:Nat):VOk (fdF qs n) (n:Nat)/\(fdF qs n).length<=n:=⟨⟨aJx n,λe he=>by
 obtain⟨i,h1,rfl,h3⟩:=aEw e he
 exact⟨by show(0:Int)<=(i:Int);omega,by show(i:Int)<(n:Nat);omega,h3⟩⟩,aJw n⟩
theorem bEx {qs:List Rat} {B k:Nat} (h:∀i,i<k->rb (qs.getD i 0) B):rbE (fdF qs k) B:=λe he=>by
 obtain⟨i,h1,rfl,_⟩:=aEw e he
 exact h i h1
theorem aKd {M:Nat->List En} {n B j:Nat} (h1:1<=B) (hb:rbM M n B) (ha:∀i,i<n->Asc (M i)):rbE (trM M n j) B:=bEx λi hi=>by rw[aDb hi];exact oU (ha i hi) (hb i hi) h1
open Classical in
noncomputable def lvl (es:List En) (i k j:Nat):Nat:=if ∃e∈es.take k,e.1=(j:Nat) then i+1 else i
theorem bEy {es:List En} {i j:Nat}:lvl es i 0 j=i:=if_neg λ⟨e,he,_⟩=>by cases he
theorem bYa {es:List En} {i k j:Nat} (hk:k<es.length) (h:(es.getD k default).1≠(j:Nat)):lvl es i (k+1) j=lvl es i k j:=by
 unfold lvl
 have e1:es.take (k+1)=es.take k++[es.getD k default]:=by rw[dF,aG hk,gd hk];rfl
 rw[e1]
 congr 1
 refine propext ⟨λ⟨e,he,h2⟩=>?_,λ⟨e,he,h2⟩=>⟨e,dK _ he,h2⟩⟩
 rcases aQ.1 he with he|he
 ·exact⟨e,he,h2⟩
 rw[aH.1 he] at h2;exact absurd h2 h
theorem bYb {es:List En} {i k j:Nat} (ha:Asc es) (hk:k<es.length) (h:(es.getD k default).1=(j:Nat)):lvl es i k j=i/\lvl es i (k+1) j=i+1:=by
 have e1:es.take (k+1)=es.take k++[es.getD k default]:=by rw[dF,aG hk,gd hk];rfl
 refine⟨if_neg λ⟨e,he,h2⟩=>?_,if_pos ⟨es.getD k default,by rw[e1];simp,h⟩⟩
 have h3:Asc (es.take (k+1)):=ha.sublist (iE _ _)
 rw[e1] at h3
 have:=(eR.1 h3).2.2 e he _ (.head _)
 omega
theorem bNb {es:List En} {i j:Nat} {qs:List Rat} (hq:qs.getD i 0=Vm.get es (j:Nat)):fdF qs (lvl es i es.length j)=fdF qs (i+1):=by
 unfold lvl
 rw[cW]
 split
 ·rfl
 next h=>
 have:qs.getD i 0=0:=hq.trans (get_none λe he h2=>h ⟨e,he,h2⟩)
 show _=if qs.getD i 0=0 then fdF qs i else _
 rw[if_pos this]
abbrev trB (m:MatM) (a b:Nat) (H:List CV):BL:=[(24,0,m.C),(24,0,[iC 0,iC 0,.v (.slice none 0 0)]),(24,0,[iC b,iC a,.s 3 b]),(65,1,H),(24,0,[iC b,iC a,.s 3 b])]
theorem aEz {m:MatM} {a b:Nat} {P:Nat->CV} (h:∀j,j<b->fK (P j)=true):scB 5 (trB m a b (dI b P)):=aB rfl (aB rfl (aB rfl (aB (aV.2 λc hc=>rS (aX h c hc)) (aB rfl aY))))
abbrev trF (n:Nat) (A:Nat->Option Nat) (cap:Nat->Nat) (G:Nat->List EntM):Fam:=⟨82,4,n,A,cap,λj=>ecs (G j)⟩
abbrev trO (m:MatM) (n i:Nat):List (Nat×DV):=[(21,.c (iC i)),(2,.c (.p 1 0)),(4,.c (.p 4 0)),(19,.c (mL m.d)),(20,.c (iC (m.d.l.length:Nat)))]
abbrev trI (m:MatM) (n i k:Nat):List (Nat×DV):=(28,.c (iC k))::(5,.c (iC i))::(26,.c (cF (m.d.l.getD i cP)))::(27,.c (iC ((m.d.l.getD i cP).l.length:Nat)))::trO m n i
def oTr:Ord:=.joinX [] [2000,1,2002,3,2004,5,2006,7,2008,2010,2011,12] (.alt 9 (trS [13,2014,15,16,2017,18]) (.alt 13 (.alt 2014 (.alt 9 (trS [15,16,2017,18]) (.alt 15 (trS [9,16,2017,18]) .nil)) .nil) .nil))
abbrev bEz:FuncId:=47
theorem cQa:Ent Tryz.prog bEz:=aU func47 rfl kR
theorem cQb:Tryz.prog.funcs[bEz]? =some Tryz.f47:=func47
theorem aO {i j:Nat} (c:CV) (h:fK c=true):swC i j c=c:=by cases c<;>first|rfl|cases h
theorem bU {l:List CV} {n:Nat} (h:∀c∈l,fK c=true):l.all (scC n)=true:=aV.2 λc hc=>rS (h c hc)
def cQc (own:Bool) (M:Nat->List En) (a b:Nat) (g:MatM×(Nat->Sl EntM)):Out:=match own with
 |true=>⟨.t [.a [iC b,iC a,.s 0 b],.c (iC 0)],[(65,1,dI b λj=>cF (g.2 j))],∀j,j<b->Ek (g.2 j).l (trM M a j)⟩
 |false=>⟨.t [.a g.1.C,.c (iC 0)],[],Mk g.1 (trM M a) b a⟩
theorem bYc {i j n:Nat} {P:Nat->CV} (h:∀j,j<n->fK (P j)=true):(dI n P).map (swC i j)=dI n P:=(dP λc hc=>aO c (aX h c hc)).trans (xV _)
theorem bRi (own:Bool) (m:MatM) {M:Nat->List En} {a b B:Nat} (h:Mr m M a b B) (hB:B<=4398046511104) (ha:a<=4096) (hb:b<=4096):Ctr Tryz.prog bEz [true] [.a m.C] [] (cQc own M a b):=by
 obtain⟨mr,mc,md⟩:=m
 obtain rfl:mr=(a:Nat):=h.r
 obtain rfl:mc=(b:Nat):=h.c
 have hl:md.l.length=a:=h.ln
 refine aW gT cQa cQb rfl rfl rfl bL (λi T es l hi=>by cases hi) (aA gT mxd ⟨[],aEx _ h hB ha hb,rfl,rfl,rfl,λ_ _=>⟨λh2=>absurd trivial h2,λ_=>aA gT mxd ⟨[],bRg b a hb,rfl,rfl,rfl,λ_ _=>?_⟩⟩⟩)
 show Sd _ _ _ _ _ _
 refine aXs tSd 82 4 b bL (gH tSd (l:=List.replicate b (.v (.slice none 0 0))) 3 (dI b (hdP (λ_=>none) (λ_=>0) λ_=>[])) rfl (by rw[dB,cJ]) (λk c c' h1 h2=>?_) ?_)
 ·have hk:k<b:=by have:=eG h1;simpa using this
  have h3:=eB (P:=hdP (λ_=>none) (λ_=>0) λ_=>[]) hk
  rw[bI,h2] at h3
  injection h3 with h3
  rw[h3,(gB.1 (aR h1)).2]
  exact LeC.nilh
 refine cG (λ_=>true) (λg:Nat×(Nat->Option Nat)×(Nat->Nat)×(Nat->List EntM)=>trO ⟨a,b,md⟩ b g.1) (λg=>trB ⟨a,b,md⟩ a b (dI b (hdP g.2.1 g.2.2.1 g.2.2.2))) (λg=>[trF b g.2.1 g.2.2.1 g.2.2.2]) (λg=>g.1<=a/\∀j,j<b->Ek (g.2.2.2 j) (fdF (aGd M a j) g.1)) (λg=>a-g.1) λhM=>⟨bH hM (chg:=λg:Nat×(Nat->Option Nat)×(Nat->Nat)×(Nat->List EntM)=>trO ⟨a,b,md⟩ b g.1) (bls:=λg=>trB ⟨a,b,md⟩ a b (dI b (hdP g.2.1 g.2.2.1 g.2.2.2))) (fls:=λg=>[trF b g.2.1 g.2.2.1 g.2.2.2]) (0,λ_=>none,λ_=>0,λ_=>[]) ⟨aC _,λj _=>⟨rfl,λk hk=>absurd hk (aF _)⟩⟩ rfl ⟨rfl,rfl,rfl,rfl,rfl⟩ ⟨rfl,trivial⟩ ⟨rfl,rfl,rfl,rfl,rfl⟩ bL (aEz λ_ _=>rfl) rfl,λ⟨i,A,cap,G⟩ ⟨hi,hG⟩=>aA gT mxd ⟨λh2=>aA gT mxd ?_,λh2=>aA gT mxd ?_⟩⟩
 all_goals
  replace hi:i<=a:=hi
  replace hG:∀j,j<b->Ek (G j) (fdF (aGd M a j) i):=hG
 ·replace h2:(i:Int)<(md.l.length:Nat):=h2
  have hin:i<a:=by omega
  refine⟨i,⟨rfl,show i<md.l.length by omega⟩,?_⟩
  show Sd _ _ _ _ _ _
  have hes:=h.row i hin
  have hok:=h.ok i hin
  have hle:(md.l.getD i cP).l.length=(M i).length:=hes.ln
  refine cG (λ_=>true) (λg:Nat×(Nat->Option Nat)×(Nat->Nat)×(Nat->List EntM)=>trI ⟨a,b,md⟩ b i g.1) (λg=>trB ⟨a,b,md⟩ a b (dI b (hdP g.2.1 g.2.2.1 g.2.2.2))) (λg=>[trF b g.2.1 g.2.2.1 g.2.2.2]) (λg=>g.1<=(M i).length/\∀j,j<b->Ek (g.2.2.2 j) (fdF (aGd M a j) (lvl (M i) i g.1 j))) (λg=>(M i).length-g.1) λhM2=>⟨bH hM2 (chg:=λg:Nat×(Nat->Option Nat)×(Nat->Nat)×(Nat->List EntM)=>trI ⟨a,b,md⟩ b i g.1) (bls:=λg=>trB ⟨a,b,md⟩ a b (dI b (hdP g.2.1 g.2.2.1 g.2.2.2))) (fls:=λg=>[trF b g.2.1 g.2.2.1 g.2.2.2]) (0,A,cap,G) ⟨aC _,λj hj=>by rw[bEy];exact hG j hj⟩ rfl ⟨rfl,rfl,rfl,rfl,rfl⟩ ⟨rfl,trivial⟩ ⟨rfl,rfl,rfl,rfl,rfl,rfl,rfl,rfl,rfl⟩ bL (aEz λ_ _=>rfl) rfl,λ⟨k,A,cap,G⟩ ⟨hk,hG⟩=>aA gT mxd ⟨λh3=>aA gT mxd ?_,λh3=>aA gT mxd ?_⟩⟩
  all_goals
   replace hk:k<=(M i).length:=hk
   replace hG:∀j,j<b->Ek (G j) (fdF (aGd M a j) (lvl (M i) i k j)):=hG
  ·replace h3:(k:Int)<((md.l.getD i cP).l.length:Nat):=h3
   have hkl:k<(M i).length:=by omega
   have hm:=fO hkl
   have he:=hes.e k hkl
   have e0:=hok.1.2 _ hm
   obtain⟨j0,hj0⟩:∃j0:Nat,((M i).getD k default).1=(j0:Nat):=⟨((M i).getD k default).1.toNat,by omega⟩
   have hj:j0<b:=by omega
   have hix:((md.l.getD i cP).l.getD k default).ix=(j0:Nat):=he.1.trans hj0
   have hlv:=bYb (i:=i) hok.1.1 hkl hj0
   have lG:(G j0).length<=i:=by rw[(hG j0 hj).ln,hlv.1];exact aJw i
   have fin:∀(g:RatM) (A':Option Nat) (c':Nat) (sl:List (Nat×DV)) (r:BL),wD (λ_=>true) [] [] [] sl->Cr g ((M i).getD k default).2->AllC sl (trI ⟨a,b,md⟩ b i k)->Gt 0 ⟨sl,[],trB ⟨a,b,md⟩ a b (mD (dI b (hdP A cap G)) (j0*1) [.h A' ((G j0).length+1) c'])++r,[⟨82,4,b,upd A j0 A',upd cap j0 c',upd (λj=>ecs (G j)) j0 (ecs (G j0)++(⟨i,g⟩:EntM).C)⟩]⟩ (σ:=(Nat->Option Nat)×(Nat->Nat)×RatM) (λg=>⟨trI ⟨a,b,md⟩ b i k++[],[],trB ⟨a,b,md⟩ a b (dI b (hdP g.1 g.2.1 (upd G j0 (G j0++[⟨i,g.2.2⟩])))),[trF b g.1 g.2.1 (upd G j0 (G j0++[⟨i,g.2.2⟩]))]⟩) (λg=>Cr g.2.2 ((M i).getD k default).2):=λg A' c' sl r ht hg hall=>by
    rw[(aBp hj).1,aDa]
    refine @bH _ _ _ _ hM2 _ (λ_:(Nat->Option Nat)×(Nat->Nat)×RatM=>trI ⟨a,b,md⟩ b i k) (λg=>trB ⟨a,b,md⟩ a b (dI b (hdP g.1 g.2.1 (upd G j0 (G j0++[⟨i,g.2.2⟩]))))) (λg=>[trF b g.1 g.2.1 (upd G j0 (G j0++[⟨i,g.2.2⟩]))]) _ (upd A j0 A',upd cap j0 c',g) ?_ ?_ ?_ ?_ ?_ ?_ ?_ ?_
    ·exact hg
    ·exact ht
    ·exact⟨rfl,rfl,rfl,rfl,rfl⟩
    ·exact⟨rfl,trivial⟩
    ·exact hall
    ·exact aC _
    ·exact aEz λ_ _=>rfl
    rfl
   have apd:∀(g:RatM),(G j0).length+1<=maxLen/\((G j0).length+1)*64<=140737488355328/\∀c∈(⟨i,g⟩:EntM).C,fK c=true:=λg=>⟨by simp only[maxLen];omega,by omega,λc hc=>by
    rcases bZ.1 hc with rfl|hc
    ·rfl
    exact iY _ c hc⟩
   refine⟨k,⟨rfl,show k<(md.l.getD i cP).l.length by omega⟩,oTr,by kernel_rfl,(Nat->Option Nat)×(Nat->Nat)×RatM,λg=>⟨trI ⟨a,b,md⟩ b i k++[],[],trB ⟨a,b,md⟩ a b (dI b (hdP g.1 g.2.1 (upd G j0 (G j0++[⟨i,g.2.2⟩])))),[trF b g.1 g.2.1 (upd G j0 (G j0++[⟨i,g.2.2⟩]))]⟩,λg=>Cr g.2.2 ((M i).getD k default).2,⟨j0,⟨hix,hj,cQ hj⟩,⟨_,eB hj,rfl,?_⟩,?_⟩,λ_ _=>?_⟩
   ·exact⟨[],nZ ((md.l.getD i cP).l.getD k default).v (he.2.le hB),rfl,rfl,rfl,λg hg=>⟨rfl,rfl,0,j0,⟨⟨rfl,hj,rfl,rfl,(gM _).symm,(apd g).1,(apd g).2.1,(apd g).2.2⟩,λA' c'=>⟨rfl,j0,⟨hix,hj,cQ hj⟩,_,⟨rfl,(aBp (A':=none) (c':=0) (e:=default) hj).2⟩,rfl,fin g A' c' _ _ (by rfl) hg (by exact⟨rfl,rfl,rfl,rfl,rfl,rfl,rfl,rfl,rfl⟩)⟩⟩⟩⟩
   ·exact⟨[],nZ ((md.l.getD i cP).l.getD k default).v (he.2.le hB),rfl,rfl,rfl,λg hg=>⟨rfl,⟨_,eB hj,rfl,rfl,0,j0,⟨⟨rfl,hj,rfl,rfl,(gM _).symm,(apd g).1,(apd g).2.1,(apd g).2.2⟩,λA' c'=>⟨rfl,j0,⟨hix,hj,cQ hj⟩,_,⟨rfl,(aBp (A':=none) (c':=0) (e:=default) hj).2⟩,rfl,fin g A' c' _ _ (by rfl) hg (by exact⟨rfl,rfl,rfl,rfl,rfl,rfl,rfl,rfl,rfl⟩)⟩⟩⟩,rfl,_,eB hj,rfl,0,j0,⟨⟨rfl,hj,rfl,rfl,(gM _).symm,(apd g).1,(apd g).2.1,(apd g).2.2⟩,λA' c'=>⟨rfl,j0,⟨hix,hj,cQ hj⟩,_,⟨rfl,(aBp (A':=none) (c':=0) (e:=default) hj).2⟩,rfl,fin g A' c' _ _ (by rfl) hg (by exact⟨rfl,rfl,rfl,rfl,rfl,rfl,rfl,rfl,rfl⟩)⟩⟩⟩⟩
   next g hg=>
   exact⟨(k+1:Nat),wi,bH hM2 (chg:=λg:Nat×(Nat->Option Nat)×(Nat->Nat)×(Nat->List EntM)=>trI ⟨a,b,md⟩ b i g.1) (bls:=λg=>trB ⟨a,b,md⟩ a b (dI b (hdP g.2.1 g.2.2.1 g.2.2.2))) (fls:=λg=>[trF b g.2.1 g.2.2.1 g.2.2.2]) (k+1,g.1,g.2.1,upd G j0 (G j0++[⟨i,g.2.2⟩])) ⟨⟨hkl,λj hjn=>by
    show Ek (upd G j0 (G j0++[⟨i,g.2.2⟩]) j) (fdF (aGd M a j) (lvl (M i) i (k+1) j))
    by_cases hjj:j=j0
    ·subst hjj
     rw[bJ,hlv.2]
     have hq:Vm.get (M i) (j:Nat)=((M i).getD k default).2:=by rw[<-hj0];exact rG hok.1.1 hm
     show Ek _ (if _ then _ else _)
     rw[aDb hin,hq,if_neg e0.2.2]
     have:=hG j hjn
     rw[hlv.1] at this
     exact vK this hg
    rw[bD hjj,bYa hkl (by rw[hj0];omega)];exact hG j hjn⟩,show(M i).length-(k+1)<(M i).length-k by omega⟩ rfl ⟨rfl,rfl,rfl,rfl,rfl⟩ ⟨rfl,trivial⟩ ⟨rfl,rfl,rfl,rfl,rfl,rfl,rfl,rfl,rfl⟩ bL (aEz λ_ _=>rfl) rfl⟩
  replace h3:¬(k:Int)<((md.l.getD i cP).l.length:Nat):=h3
  obtain rfl:k=(M i).length:=by omega
  exact⟨(i+1:Nat),wi,bH hM (chg:=λg:Nat×(Nat->Option Nat)×(Nat->Nat)×(Nat->List EntM)=>trO ⟨a,b,md⟩ b g.1) (bls:=λg=>trB ⟨a,b,md⟩ a b (dI b (hdP g.2.1 g.2.2.1 g.2.2.2))) (fls:=λg=>[trF b g.2.1 g.2.2.1 g.2.2.2]) (i+1,A,cap,G) ⟨⟨hin,λj hj=>by
   have:=hG j hj
   rw[bNb (aDb hin)] at this
   exact this⟩,show a-(i+1)<a-i by omega⟩ rfl ⟨rfl,rfl,rfl,rfl,rfl⟩ ⟨rfl,trivial⟩ ⟨rfl,rfl,rfl,rfl,rfl⟩ bL (aEz λ_ _=>rfl) rfl⟩
 replace h2:¬(i:Int)<(md.l.length:Nat):=h2
 obtain rfl:i=a:=by omega
 show Sd _ _ _ _ _ _
 refine iX tSd 3 0 (dI b λj=>cF (hdS A cap G j)) rfl rfl rfl (by rw[dB,dB]) (aEy bRh) ?_
 have hE:∀j,j<b->Ek (hdS A cap G j).l (trM M i j):=(‹_/\_›:_/\∀j,j<b->Ek (G j) (fdF (aGd M i j) i)).2
 cases own with
 |true=>
  refine aTy tSd 0 3 rfl rfl bL bL rfl ⟨_,bYc λ_ _=>rfl,bL,aA gT mxd ⟨(⟨0,0,cP⟩,hdS A cap G),hE,fH ⟨rfl,rfl⟩ rfl bL (aB (bU (aX λ_ _=>rfl)) aY) rfl (eW (aV.2 (aX λ_ _=>rfl)))⟩⟩
 |false=>
  refine jV tSd 3 rfl bL (aX λ_ _=>rfl) bL rfl λA2 c2=>?_
  refine iX tSd 4 1 [iC b,iC i,mL ⟨A2.map λb=>⟨b,0,none⟩,c2,kS (hdS A cap G) b⟩] rfl rfl rfl rfl (vL (k0:=2) rfl vM) (aA gT mxd ⟨(⟨b,i,⟨A2.map λb=>⟨b,0,none⟩,c2,kS (hdS A cap G) b⟩⟩,λ_=>cP),⟨rfl,rfl,nJ,λj hj=>?_,λj hj=>aBq i⟩,aM ⟨rfl,rfl⟩ rfl trivial⟩)
  show Ek ((kS (hdS A cap G) b).getD j cP).l _
  rw[qH hj]
  exact hE j hj
theorem cIp (m:MatM) {M:Nat->List En} {a b B:Nat} (h:Mr m M a b B) (hB:B<=4398046511104) (ha:a<=4096) (hb:b<=4096):Ctr Tryz.prog bEz [true] [.a m.C] [] (λg:MatM=>⟨.t [.a g.C,.c (iC 0)],[],Mk g (trM M a) b a⟩):=(bRi false m h hB ha hb).re λg hg=>⟨g.1,hg,rfl,rfl,rfl⟩
theorem cIq (m:MatM) {M:Nat->List En} {a b B:Nat} (h:Mr m M a b B) (hB:B<=4398046511104) (ha:a<=4096) (hb:b<=4096):Ctr Tryz.prog bEz [true] [.a m.C] [] (λg:Nat->Sl EntM=>⟨.t [.a [iC b,iC a,.s 0 b],.c (iC 0)],[(65,1,dI b λj=>cF (g j))],∀j,j<b->Ek (g j).l (trM M a j)⟩):=(bRi true m h hB ha hb).re λg hg=>⟨g.2,hg,rfl,rfl,rfl⟩
section
variable {α:Type} {f:α->List CV} {d:α} {L:List α} {e:Nat}
def fl (f:α->List CV) (d:α) (L:List α):List CV:=flatR L.length λj=>f (L.getD j d)
theorem aKe {x:α}:fl f d L++f x=fl f d (L++[x]):=by
 unfold fl
 rw[aE,cR,gR]
 have h1:(L++[x]).getD L.length d=x:=by simp[List.getD]
 rw[h1,oL (Q:=λj=>f ((L++[x]).getD j d)) λj hj=>by simp[List.getD,bA hj]]
theorem qZ (h:∀x,∀c∈f x,fK c=true):∀c∈fl f d L,fK c=true:=yY (λ_=>h _) _
theorem yZ (h:∀x,(f x).length=e):(fl f d L).length=L.length*e:=oV λ_ _=>h _
theorem bFa (h:∀x,(f x).length=e) (j:Nat) (hj:j<L.length):f (L.getD j d)=((fl f d L).drop (j*e)).take e:=(aJz (P:=λj=>f (L.getD j d)) (λ_ _=>h _) hj).symm
end
abbrev bYd:FuncId:=88
theorem cQd:Ent Tryz.prog bYd:=aU func88 rfl kR
theorem cQe:Tryz.prog.funcs[bYd]? =some Tryz.f88:=func88
theorem cIr (a n:Int) (hn:0<n) (hn2:n<=1000000):Ctr Tryz.prog bYd [] [.c (iC a),.c (iC n)] [] (λr:Int=>⟨.c (iC r),[],0<=r/\r<n⟩):=by
 have hu:0<=a%18446744073709551616:=Int.emod_nonneg _ dC
 have e:(a%18446744073709551616).tmod n=a%18446744073709551616%n:=sP hu
 have h1:=Int.emod_nonneg (a%18446744073709551616) (show n≠0 by omega)
 have h2:=Int.emod_lt_of_pos (a%18446744073709551616) hn
 refine aW gT cQd cQe rfl rfl rfl bL aS (aA gT mxd ⟨a%18446744073709551616,?_,n,?_,(show n≠0 by omega),a%18446744073709551616%n,?_,a%18446744073709551616%n,⟨h1,h2⟩,aM rfl rfl trivial⟩)
 ·rfl
 ·show n=n%18446744073709551616
  omega
 rw[e]
 refine wi (z:=a%18446744073709551616%n) (h:=⟨rfl,by omega,by omega⟩)
abbrev tpB (d:Sl Int) (p:Nat):BL:=[(98,0,[cD d,iC p])]
abbrev bFb:FuncId:=16
theorem cIs:Ent Tryz.prog bFb:=aU func16 rfl kR
theorem cIt:Tryz.prog.funcs[bFb]? =some Tryz.f16:=func16
theorem aKf (d:Sl Int):Ctr Tryz.prog bFb [] [.c (cD d)] [] (λ_:Unit=>⟨.c (.p 0 0),tpB d 0,True⟩):=
 aW gT cIs cIt rfl rfl rfl bL aS (aA gT mxd ⟨(),trivial,fH rfl rfl (aC _) (aB rfl aY) rfl aCl⟩)
abbrev aQz:FuncId:=35
theorem bYe:Ent Tryz.prog aQz:=aU func35 rfl kR
theorem bYf:Tryz.prog.funcs[aQz]? =some Tryz.f35:=func35
theorem mT (d:Sl Int) (p:Nat) (n:Int) (hd:d.l.length<=9223372036854775807) (hp:p<=d.l.length) (hn:0<n) (hn2:n<=1000000):Ctr Tryz.prog aQz [true] [.c (.p 0 0),.c (iC n)] (tpB d p) (λg:Int×Nat=>⟨.c (iC g.1),tpB d g.2,(0<=g.1/\g.1<n)/\g.2<=d.l.length⟩):=by
 refine aW gT bYe bYf rfl rfl rfl bL (eW rfl) (aA gT mxd ⟨.seq (sq 99 (List.range 10)),by kernel_rfl,⟨λh=>aA gT mxd ⟨(0,p),⟨⟨Int.le_refl 0,hn⟩,hp⟩,fH rfl rfl bL (aB rfl aY) rfl (eW rfl)⟩,λh=>aA gT mxd ?_⟩⟩)
 have hpl:p<d.l.length:=by replace h:¬(p:Int)≥(d.l.length:Nat):=h;omega
 exact⟨(p+1:Nat),wi,.seq (sq 99 (List.range 14)),by kernel_rfl,p,wi,p,⟨rfl,hpl⟩,[],cIr _ n hn hn2,rfl,rfl,rfl,λr hr=>⟨(r,p+1),⟨hr,hpl⟩,fH rfl rfl bL (aB rfl aY) rfl (eW rfl)⟩⟩
theorem aNm {a b:Int} (ha:a.natAbs<=1000) (hb:b.natAbs<=1000):rb (Rat.divInt a b) 1:=by
 have h1:=aBc (a:=a) (b:=b)
 have h2:=aBd (a:=a) (b:=b)
 have h3:∀{z:Int},z.natAbs<=1000->len z.natAbs<=1:=λ{z} hz=>aJ (fY hz) dC
 simp only[fD] at h1 h2
 exact⟨by have:=h3 ha;omega,by have:=h3 hb;omega⟩
abbrev bYg:FuncId:=152
theorem cQf:Ent Tryz.prog bYg:=aU func152 rfl kR
theorem cQg:Tryz.prog.funcs[bYg]? =some Tryz.f152:=func152
theorem bFc {a b:Int} (ha:a.natAbs<=1000) (hb:b.natAbs<=1000):Ctr Tryz.prog bYg [] [.c (iC a),.c (iC b)] [] (rV (Rat.divInt a b)):=by
 have hl:=rD (n:=a.natAbs)
 refine aW gT cQf cQg rfl rfl rfl bL aS (aA gT mxd ⟨[],yE oM,rfl,rfl,rfl,λg hg=>⟨[],yE oM,rfl,rfl,rfl,λo ho=>⟨[],vF g o (Ci.in hg oM) (Ci.in ho (by have:=rD (n:=b.natAbs);omega)),rfl,rfl,rfl,λr hr=>⟨r,hr,aM rfl rfl trivial⟩⟩⟩⟩)
abbrev bFd:FuncId:=89
theorem cIu:Ent Tryz.prog bFd:=aU func89 rfl kR
theorem cIv:Tryz.prog.funcs[bFd]? =some Tryz.f89:=func89
theorem aRa (d:Sl Int) (p:Nat) (hd:d.l.length<=9223372036854775807) (hp:p<=d.l.length):Ctr Tryz.prog bFd [true] [.c (.p 0 0)] (tpB d p) (λg:RatM×Rat×Nat=>⟨.a g.1.C,tpB d g.2.2,(Cr g.1 g.2.1/\rb g.2.1 1)/\g.2.2<=d.l.length⟩):=by
 refine aW gT cIu cIv rfl rfl rfl bL (eW rfl) (aA gT mxd ⟨[0],mT d p 13 hd hp dC dC,rfl,rfl,rfl,λr hr=>⟨r.1-6,wi (h:=⟨rfl,by have:=hr.1;omega,by have:=hr.1;omega⟩),[0],mT d r.2 4 hd hr.2 dC dC,rfl,rfl,rfl,λs hs=>⟨1+s.1,wi (h:=⟨rfl,by have:=hs.1;omega,by have:=hs.1;omega⟩),[],bFc (by have:=hr.1;omega) (by have:=hs.1;omega),rfl,rfl,rfl,λg hg=>⟨(g,Rat.divInt (r.1-6) (1+s.1),s.2),⟨⟨hg,aNm (by have:=hr.1;omega) (by have:=hs.1;omega)⟩,hs.2⟩,fH rfl rfl bL (aB rfl aY) rfl (eW rfl)⟩⟩⟩⟩)
abbrev bYh:FuncId:=153
theorem cQh:Ent Tryz.prog bYh:=aU func153 rfl kR
theorem cQi:Tryz.prog.funcs[bYh]? =some Tryz.f153:=func153
theorem cIw (x y:IntM) {z:Int} (hx:Ci x z) (hy:Ci y z):Ctr Tryz.prog bYh [] [.a x.C,.a y.C] [] (λ_:Unit=>⟨pC True,[],True⟩):=by
 have hp:x.p↔y.p:=hx.1.trans hy.1.symm
 have hm:x.m.l=y.m.l:=hx.2.trans hy.2.symm
 exact aW gT cQh cQi rfl rfl rfl bL aS (aA gT mxd ⟨λ_=>⟨[],aIr x.m y.m,rfl,rfl,rfl,λ_ _=>⟨(),trivial,aM ⟨λ_=>trivial,λ_=>hm⟩ rfl trivial⟩⟩,λh=>absurd hp h⟩)
abbrev bYi:FuncId:=92
theorem cQj:Ent Tryz.prog bYi:=aU func92 rfl kR
theorem cQk:Tryz.prog.funcs[bYi]? =some Tryz.f92:=func92
theorem bRj (x y:RatM) {q:Rat} (hx:Cr x q) (hy:Cr y q):Ctr Tryz.prog bYi [] [.a x.C,.a y.C] [] (λ_:Unit=>⟨pC True,[],True⟩):=by
 have hm:x.d.l=y.d.l:=hx.2.trans hy.2.symm
 refine aW gT cQj cQk rfl rfl rfl bL aS (aA gT mxd ⟨[],cIw x.n y.n hx.1 hy.1,rfl,rfl,rfl,λ_ _=>⟨λ_=>⟨[],aIr x.d y.d,rfl,rfl,rfl,λ_ _=>⟨(),trivial,aM ⟨λ_=>trivial,λ_=>hm⟩ rfl trivial⟩⟩,λh=>absurd trivial h⟩⟩)
abbrev bFe:FuncId:=91
theorem cIx:Ent Tryz.prog bFe:=aU func91 rfl kR
theorem cIy:Tryz.prog.funcs[bFe]? =some Tryz.f91:=func91
theorem bFf (x:RatM) {q:Rat} (hx:Cr x q) (hb:rb q 13194139533312):Ctr Tryz.prog bFe [] [.a x.C] [] (λ_:Unit=>⟨pC True,[],True⟩):=by
 refine aW gT cIx cIy rfl rfl rfl bL aS (aA gT mxd ⟨.seq (sq 99 (List.range 5)),by kernel_rfl,[],gX x (hx.rq hb),rfl,rfl,rfl,λg hg=>⟨[],bRj x g hx hg,rfl,rfl,rfl,λ_ _=>⟨(),trivial,aM lF rfl trivial⟩⟩⟩)
abbrev aKg:FuncId:=37
theorem bYj:Ent Tryz.prog aKg:=aU func37 rfl kR
theorem bYk:Tryz.prog.funcs[aKg]? =some Tryz.f37:=func37
theorem aUu (x y:Sl RatM) {qs:List Rat} (hx:Rl x.l qs) (hy:Rl y.l qs) (hb:rbL qs 13194139533312) (hn:qs.length<=4096):Ctr Tryz.prog aKg [] [.c (fI x),.c (fI y)] [] (λ_:Unit=>⟨pC True,[],True⟩):=by
 have lx:=hx.ln
 have ly:=hy.ln
 refine aW gT bYj bYk rfl rfl rfl bL aS (aA gT mxd ⟨λh=>aA gT mxd ?_,λ_=>aA gT mxd ?_⟩)
 ·replace h:((x.l.length:Nat):Int)≠(y.l.length:Nat):=h
  omega
 refine cG (λ_=>true) (λk:Nat=>[(5,.c (iC k)),(0,.c (fI x)),(1,.c (fI y))]) (λ_=>[]) (λ_=>[]) (λk=>k<=qs.length) (λk=>qs.length-k) λhM=>⟨bH hM (chg:=λk:Nat=>[(5,.c (iC k)),(0,.c (fI x)),(1,.c (fI y))]) (bls:=λ_=>[]) (fls:=λ_=>[]) 0 (aC _) rfl trivial trivial ⟨rfl,rfl,rfl⟩ bL aY rfl,λk hk=>aA gT mxd ⟨λh1=>aA gT mxd ?_,λh1=>aA gT mxd ?_⟩⟩
 all_goals replace hk:k<=qs.length:=hk
 ·have hkl:k<qs.length:=by replace h1:(k:Int)<(x.l.length:Nat):=h1;omega
  have kx:k<x.l.length:=by omega
  have ky:k<y.l.length:=by omega
  have no:∀{p:Prop},¬True->p:=λh=>absurd trivial h
  exact⟨.seq (sq 99 (List.range 26)),by kernel_rfl,k,⟨rfl,kx⟩,[],bFf _ (hx.e k hkl) (hb _ (gD0 hkl)),rfl,rfl,rfl,λ_ _=>⟨k,λ_=>⟨rfl,ky⟩,λh=>absurd trivial h,λ_=>⟨[],bFf _ (hy.e k hkl) (hb _ (gD0 hkl)),rfl,rfl,rfl,λ_ _=>⟨k,λ_=>⟨rfl,kx⟩,k,λ_=>⟨rfl,ky⟩,λh=>absurd trivial h,λ_=>⟨[],bRj _ _ (hx.e k hkl) (hy.e k hkl),rfl,rfl,rfl,λ_ _=>⟨λh=>absurd trivial h,λ_=>aA gT mxd ⟨(k+1:Nat),wi,bH hM (chg:=λk:Nat=>[(5,.c (iC k)),(0,.c (fI x)),(1,.c (fI y))]) (bls:=λ_=>[]) (fls:=λ_=>[]) (k+1) ⟨hkl,show qs.length-(k+1)<qs.length-k by omega⟩ rfl trivial trivial ⟨rfl,rfl,rfl⟩ bL aY rfl⟩⟩⟩⟩⟩⟩⟩
 exact aA gT mxd ⟨(),trivial,aM (tt trivial) rfl trivial⟩
theorem bYl {es:List En} {k:Nat} {i:Int} (hk:k<es.length):Vm.get (es.take (k+1)) i=Vm.get (es.take k) i+(if (es.getD k default).1=i then (es.getD k default).2 else 0):=by
 have e1:es.take (k+1)=es.take k++[es.getD k default]:=by rw[dF,aG hk,gd hk];rfl
 rw[e1,get_append]
 show _+(_+0)=_
 rw[bP]
theorem bYm {es:List En} {k B:Nat} (h:rbE es B):rbE (es.take k) B:=λe he=>h e (cV he)
abbrev bFg:FuncId:=149
theorem cIz:Ent Tryz.prog bFg:=aU func149 rfl kR
theorem cJa:Tryz.prog.funcs[bFg]? =some Tryz.f149:=func149
abbrev geG (x:Sl EntM) (i:Int) (k:Nat):List (Nat×DV):=[(6,.c (iC k)),(0,.c (cF x)),(1,.c (iC i)),(4,.c (.p 0 0)),(5,.c (.p 1 0))]
abbrev geB (g:RatM):BL:=[(62,0,vI),(62,0,g.C)]
theorem aRb {g:RatM}:scB 2 (geB g):=aB rfl (aB rfl aY)
theorem aRc (x:Sl EntM) (i:Int) {es:List En} {B:Nat} (h:Ev x.l es B) (ha:Asc es) (hb:rbE es B) (h1:1<=B) (hB:B<=4398046511104) (hn:es.length<=4096):Ctr Tryz.prog bFg [] [.c (cF x),.c (iC i)] [] (rV (Vm.get es i)):=by
 have hl:=h.ln
 refine aW gT cIz cJa rfl rfl rfl bL aS (aA gT mxd ⟨[],aJk,rfl,rfl,rfl,λz hz=>?_⟩)
 refine cG (λ_=>true) (λg:Nat×RatM=>geG x i g.1) (λg=>geB g.2) (λ_=>[]) (λg=>g.1<=es.length/\Cr g.2 (Vm.get (es.take g.1) i)) (λg=>es.length-g.1) λhM=>⟨bH hM (chg:=λg:Nat×RatM=>geG x i g.1) (bls:=λg=>geB g.2) (fls:=λ_=>[]) (0,z) ⟨aC _,hz⟩ rfl ⟨rfl,rfl⟩ trivial ⟨rfl,rfl,rfl,rfl,rfl⟩ bL aRb rfl,λ⟨k,g⟩ ⟨hk,hg⟩=>aA gT mxd ⟨λh2=>aA gT mxd ?_,λh2=>aA gT mxd ?_⟩⟩
 all_goals
  replace hk:k<=es.length:=hk
  replace hg:Cr g (Vm.get (es.take k) i):=hg
 ·have hkl:k<es.length:=by replace h2:(k:Int)<(x.l.length:Nat):=h2;omega
  have kx:k<x.l.length:=by omega
  have he:=h.e k hkl
  have e1:=bYl (i:=i) hkl
  have rq:∀{r:RatM} {q:Rat},Cr r q->rb q B->Rq r q 4398046511104:=λhr hb=>(Cr.rq hr hb).le hB
  refine⟨k,⟨rfl,kx⟩,λh3=>aA gT mxd ?_,λh3=>aA gT mxd ?_⟩
  ·replace h3:(x.l.getD k default).ix=i:=h3
   rw[he.1] at h3
   rw[if_pos h3] at e1
   exact⟨.seq (sq 7 (List.range 8)),by kernel_rfl,k,⟨rfl,kx⟩,[],aQr g (x.l.getD k default).v (rq hg (oU (ha.sublist (iE k es)) (bYm hb) h1)) (he.2.le hB),rfl,rfl,rfl,λr hr=>⟨(k+1:Nat),wi,bH hM (chg:=λg:Nat×RatM=>geG x i g.1) (bls:=λg=>geB g.2) (fls:=λ_=>[]) (k+1,r) ⟨⟨hkl,by show Cr r (Vm.get (es.take (k+1)) i);rw[e1];exact hr⟩,show es.length-(k+1)<es.length-k by omega⟩ rfl ⟨rfl,rfl⟩ trivial ⟨rfl,rfl,rfl,rfl,rfl⟩ bL aRb rfl⟩⟩
  replace h3:¬(x.l.getD k default).ix=i:=h3
  rw[he.1] at h3
  rw[if_neg h3,bP] at e1
  exact⟨(k+1:Nat),wi,bH hM (chg:=λg:Nat×RatM=>geG x i g.1) (bls:=λg=>geB g.2) (fls:=λ_=>[]) (k+1,g) ⟨⟨hkl,by show Cr g (Vm.get (es.take (k+1)) i);rw[e1];exact hg⟩,show es.length-(k+1)<es.length-k by omega⟩ rfl ⟨rfl,rfl⟩ trivial ⟨rfl,rfl,rfl,rfl,rfl⟩ bL aRb rfl⟩
 replace h2:¬(k:Int)<(x.l.length:Nat):=h2
 obtain rfl:k=es.length:=by omega
 rw[cW] at hg
 exact aA gT mxd ⟨g,hg,aM rfl rfl trivial⟩
theorem bFh {es:List En} (h:Asc es) {i j:Nat} (hij:i<j) (hj:j<es.length):(es.getD i default).1<(es.getD j default).1:=by
 have:=gG.1 h i j oM hj hij
 rwa [gd oM,gd hj]
abbrev aUv:FuncId:=187
theorem cJb:Ent Tryz.prog aUv:=aU func187 rfl kR
theorem cJc:Tryz.prog.funcs[aUv]? =some Tryz.f187:=func187
abbrev vaG (x:Sl EntM) (m:Int) (k:Nat):List (Nat×DV):=[(5,.c (iC k)),(0,.c (cF x)),(1,.c (iC m))]
theorem bFi (x:Sl EntM) (m:Int) {es:List En} {B:Nat} (hx:Ev x.l es B) (hB:B<=13194139533312) (hn:es.length<=4611686018427387904):Ctr Tryz.prog aUv [] [.c (cF x),.c (iC m)] [] (λ_:Unit=>⟨pC (VOk es m),[],True⟩):=by
 have lx:=hx.ln
 refine aW gT cJb cJc rfl rfl rfl bL aS (aA gT mxd ?_)
 refine cG (λ_=>true) (vaG x m) (λ_=>[]) (λ_=>[]) (λk=>k<=es.length/\VOk (es.take k) m) (λk=>es.length-k) λhM=>⟨bH hM (chg:=vaG x m) (bls:=λ_=>[]) (fls:=λ_=>[]) 0 ⟨aC _,List.Pairwise.nil,λe he=>by cases he⟩ rfl trivial trivial ⟨rfl,rfl,rfl⟩ bL aY rfl,λk ⟨hk,hv⟩=>aA gT mxd ⟨λh1=>aA gT mxd ?_,λh1=>aA gT mxd ?_⟩⟩
 all_goals
  replace hk:k<=es.length:=hk
  replace hv:VOk (es.take k) m:=hv
 ·have hkl:k<es.length:=by replace h1:(k:Int)<(x.l.length:Nat):=h1;omega
  have kx:k<x.l.length:=by omega
  have ex:=hx.e k hkl
  have hmem:=fO hkl
  have hno:¬(0<=(es.getD k default).1/\(es.getD k default).1<m/\(es.getD k default).2≠0)->¬VOk es m:=λhh h=>hh (h.2 _ hmem)
  refine⟨.seq (sq 99 (List.range 42)),by kernel_rfl,k,⟨rfl,kx⟩,k,λ_=>⟨rfl,kx⟩,k,λ_=>⟨rfl,kx⟩,(k:Int)-1,λ_=>wi (h:=⟨rfl,by omega,by omega⟩),k-1,λhq=>⟨?_,?_⟩,k,λ_=>⟨rfl,kx⟩,λh=>?_,λh=>⟨[],aCz _ (ex.2.le hB),rfl,rfl,rfl,λ_ _=>⟨λh4=>?_,λh4=>aA gT mxd ⟨(k+1:Nat),wi,bH hM (chg:=vaG x m) (bls:=λ_=>[]) (fls:=λ_=>[]) (k+1) ⟨⟨hkl,?_⟩,show es.length-(k+1)<es.length-k by omega⟩ rfl trivial trivial ⟨rfl,rfl,rfl⟩ bL aY rfl⟩⟩⟩⟩
  ·have:=hq.1;omega
  ·omega
  ·refine⟨(),trivial,aM (ff λhV=>?_) rfl trivial⟩
   rcases h with h|⟨h,h5⟩
   ·rw[ex.1] at h
    exact hno oM hV
   have h6:=bFh hV.1 (i:=k-1) (j:=k) oM hkl
   rw[ex.1,(hx.e (k-1) oM).1] at h5
   omega
  ·exact aA gT mxd ⟨(),trivial,aM (ff (hno λhh=>hh.2.2 (dH.1 (fS.1 h4)))) rfl trivial⟩
  have e1:es.take (k+1)=es.take k++[es.getD k default]:=by rw[dF,aG hkl,gd hkl];rfl
  have h5:0<=(es.getD k default).1/\(es.getD k default).1<m/\(es.getD k default).2≠0:=by
   refine⟨?_,?_,λhz=>h4 (fS.2 (dH.2 hz))⟩
   ·exact pQ.1 λhh=>h (.inl (by first|exact .inl (by show(x.l.getD k default).ix<0;omega)|(show _\/_;omega)))
   exact zJ.1 λhh=>h (.inl (by first|exact .inr (by show m<=(x.l.getD k default).ix;omega)|(show _\/_;omega)))
  refine⟨?_,(aNf (d:=default) hkl).2 ⟨hv.2,h5⟩⟩
  rcases cE k with rfl|h0
  ·rw[e1];exact eJ _ _
  obtain⟨j,rfl⟩:∃j,k=j+1:=⟨k-1,by omega⟩
  refine bRd hkl (zJ.1 λhh=>h (.inr ⟨by show(0:Int)<((j+1:Nat):Int);omega,?_⟩)) hv.1
  show(x.l.getD (j+1) default).ix<=(x.l.getD (j+1-1) default).ix
  rw[ex.1,(hx.e (j+1-1) oM).1]
  exact hh
 replace h1:¬(k:Int)<(x.l.length:Nat):=h1
 rw[cB oM] at hv
 exact aA gT mxd ⟨(),trivial,aM (tt hv) rfl trivial⟩
theorem bFj {P:Program} {q:FuncId} {cl:List Bool} {al:List DV} {bl:BL} {p:Prop} (h:Ctr P q cl al bl (λ_:Unit=>⟨pC p,bl,True⟩)) (hp:p):Ctr P q cl al bl (λ_:Unit=>⟨pC True,bl,True⟩):=
 h.lo λ_ _=>⟨(),trivial,λρ n w v hv=>by
  have h2:=hv.tt hp
  exact .c (by rw[h2.inv_c.inv_v,<-decide_true (h:=Classical.propDecidable True)];exact Rc.b _ _),rfl,rfl⟩
theorem bYn (x:Sl EntM) (m:Int) {es:List En} {B:Nat} (hx:Ev x.l es B) (hv:VOk es m) (hB:B<=13194139533312) (hn:es.length<=4611686018427387904):Ctr Tryz.prog aUv [] [.c (cF x),.c (iC m)] [] (λ_:Unit=>⟨pC True,[],True⟩):=bFj (bFi x m hx hB hn) hv
def ixL (es:List En) (k:Nat):List Int:=(es.take k).map (·.1)
theorem aDc {es:List En} {k:Nat} (h:k<=es.length):(ixL es k).length=k:=by unfold ixL;rw[aN,bE];omega
theorem bFk {es:List En} {k:Nat} (h:k<es.length):ixL es (k+1)=ixL es k++[(es.getD k default).1]:=by
 unfold ixL
 rw[dF,aG h,gd h,bG];rfl
theorem aRd {es:List En} {j k:Nat} (hj:j<k) (h:k<=es.length):(ixL es k).getD j 0=(es.getD j default).1:=by
 unfold ixL
 simp only[List.getD,dW,eY,if_pos hj,aG (show j<es.length by omega)]
 rfl
theorem bFl {es:List En} {k:Nat} {c:CV} (h:k<es.length) (hc:c=iC (es.getD k default).1):((ixL es k).map iC++[c]).take ((0+k+1)*1)++((ixL es k).map iC).drop (k*1)=(ixL es (k+1)).map iC:=by
 have lk:((ixL es k).map iC).length=k:=by rw[aN];exact aDc (eX h)
 rw[cB (by rw[aE,cR];omega),cH oM,dG,bFk h,bG,hc];rfl
abbrev bFm:FuncId:=234
theorem cJd:Ent Tryz.prog bFm:=aU func234 rfl kR
theorem cJe:Tryz.prog.funcs[bFm]? =some Tryz.f234:=func234
abbrev inB (L:List Int):BL:=[(3,1,L.map iC)]
theorem aBr {L:List Int}:scB 1 (inB L):=aB (bU (bK L)) aY
abbrev inO (d:Sl (Sl EntM)) (j n:Nat):List (Nat×DV):=[(11,.c (iC j)),(3,.c (.s 0 n)),(9,.c (mL d)),(10,.c (iC 1))]
abbrev inK (x:Sl EntM) (d:Sl (Sl EntM)) (k:Nat):List (Nat×DV):=(6,.c (iC k))::(5,.c (cF x))::inO d 0 k
abbrev inP (x:Sl EntM) (d:Sl (Sl EntM)) (k p:Nat):List (Nat×DV):=(7,.c (iC p))::inK x d k
theorem bYo (x:Sl EntM) (A:Option Addr) (c:Nat) {es:List En} {B:Nat} (h:Ev x.l es B) (ha:Asc es) (hn:es.length<=4096):Ctr Tryz.prog bFm [] [.c (mL ⟨A,c,[x]⟩)] [] (λg:Sl Int=>⟨.c (cD g),[],g.l=ixL es es.length⟩):=by
 have hl:=h.ln
 refine aW gT cJd cJe rfl rfl rfl bL aS (aA gT mxd (aIp 3 3 1 rfl bL (aA gT mxd ?_)))
 refine cG (λ_=>true) (λg:Nat×List Int=>inO ⟨A,c,[x]⟩ g.1 g.2.length) (λg=>inB g.2) (λ_=>[]) (λg=>(g.1=0/\g.2=[])\/(g.1=1/\g.2=ixL es es.length)) (λg=>1-g.1) λhM=>⟨bH hM (chg:=λg:Nat×List Int=>inO ⟨A,c,[x]⟩ g.1 g.2.length) (bls:=λg=>inB g.2) (fls:=λ_=>[]) (0,[]) (.inl ⟨rfl,rfl⟩) rfl rfl trivial ⟨rfl,rfl,rfl,rfl⟩ bL aBr rfl,λ⟨i,L⟩ hL=>aA gT mxd ⟨λh1=>aA gT mxd ?_,λh1=>aA gT mxd ?_⟩⟩
 ·replace h1:(i:Int)<1:=h1
  have hi0:i=0/\L=[]:=by rcases hL with h|h;exact h;have:=h.1;dsimp only at this;omega
  obtain⟨rfl,rfl⟩:=hi0
  refine⟨0,⟨rfl,dN⟩,?_⟩
  show Sd _ _ _ _ _ _
  refine cG (λ_=>true) (λk:Nat=>inK x ⟨A,c,[x]⟩ k) (λk=>inB (ixL es k)) (λ_=>[]) (λk=>k<=es.length) (λk=>es.length-k) λhM2=>⟨bH hM2 (chg:=λk:Nat=>inK x ⟨A,c,[x]⟩ k) (bls:=λk=>inB (ixL es k)) (fls:=λ_=>[]) 0 (aC _) rfl rfl trivial ⟨rfl,rfl,rfl,rfl,rfl,rfl⟩ bL aBr rfl,λk hk=>aA gT mxd ⟨λh2=>aA gT mxd ?_,λh2=>aA gT mxd ?_⟩⟩
  all_goals replace hk:k<=es.length:=hk
  ·have hkl:k<es.length:=by replace h2:(k:Int)<(x.l.length:Nat):=h2;omega
   have kx:k<x.l.length:=by omega
   have hik:=aDc (eX hkl)
   have hx:=(h.e k hkl).1
   show Sd _ _ _ _ _ _
   refine cG (λ_=>true) (λp:Nat=>inP x ⟨A,c,[x]⟩ k p) (λ_=>inB (ixL es k)) (λ_=>[]) (λp=>p<=k) (λp=>k-p) λhM3=>⟨bH hM3 (chg:=λp:Nat=>inP x ⟨A,c,[x]⟩ k p) (bls:=λ_=>inB (ixL es k)) (fls:=λ_=>[]) 0 (aC _) rfl rfl trivial ⟨rfl,rfl,rfl,rfl,rfl,rfl,rfl⟩ bL aBr rfl,λp hp=>aA gT mxd ⟨.seq (sq 99 (List.range 16)),by kernel_rfl,?_⟩⟩
   replace hp:p<=k:=hp
   have hcell:∀{q:Nat},q<k->((ixL es k).map iC)[q*1]? =some (iC (es.getD q default).1):=λ{q} hq=>by
    rw[bI,dW,aG (show q<(ixL es k).length by omega),<-aRd hq (eX hkl),gd (show q<(ixL es k).length by omega)];rfl
   have hlen:∀{q:Nat},q<k->q*1<((ixL es k).map iC).length:=λ{q} hq=>by rw[aN];omega
   refine⟨p,λhq=>⟨rfl,?_,?_⟩,iC (es.getD p default).1,λhq=>?_,k,λ_=>⟨rfl,kx⟩,λh3=>aA gT mxd ?_,λh3=>aA gT mxd ?_⟩
   ·replace hq:(p:Int)<(k:Nat):=hq
    omega
   ·exact hlen (by replace hq:(p:Int)<(k:Nat):=hq;omega)
   ·exact hcell (by replace hq:(p:Int)<(k:Nat):=hq;omega)
   ·replace h3:(p:Int)<(k:Nat)/\(es.getD p default).1<(x.l.getD k default).ix:=h3
    have hpk:p<k:=by omega
    exact⟨(p+1:Nat),wi,bH hM3 (chg:=λp:Nat=>inP x ⟨A,c,[x]⟩ k p) (bls:=λ_=>inB (ixL es k)) (fls:=λ_=>[]) (p+1) ⟨hpk,show k-(p+1)<k-p by omega⟩ rfl rfl trivial ⟨rfl,rfl,rfl,rfl,rfl,rfl,rfl⟩ bL aBr rfl⟩
   replace h3:¬((p:Int)<(k:Nat)/\(es.getD p default).1<(x.l.getD k default).ix):=h3
   have hpk:k=p:=aT λhne=>h3 ⟨by omega,by rw[hx];exact bFh ha oM hkl⟩
   subst hpk
   have no:∀{p:Prop},(k:Int)<(k:Nat)->p:=λh=>absurd h oM
   refine aA gT mxd ⟨.seq (sq 99 (List.range 16)),by kernel_rfl,k,λhq=>no hq,iC 0,λhq=>no hq,k,λ_=>⟨rfl,kx⟩,λh4=>no h4.1,λh4=>aA gT mxd ?_⟩
   have lk:((ixL es k).map iC).length=k:=by rw[aN];exact hik
   have mn:∀{i:Nat},∀c∈(ixL es k).map iC,kU i c=false:=λc hc=>cY (bK _ c hc)
   have mn2:∀{i:Nat},∀c∈(ixL es k).map iC++[iC (x.l.getD k default).ix],kU i c=false:=λc hc=>(aQ.1 hc).elim (mn c) (bLw c)
   have mn3:∀{i m m':Nat},∀c∈((ixL es k).map iC++[iC (x.l.getD k default).ix]).take m++((ixL es k).map iC).drop m',kU i c=false:=λc hc=>(aQ.1 hc).elim (λh=>mn2 c (cV h)) λh=>mn c (fE h)
   refine⟨k,⟨rfl,by show k*1<=((ixL es k).map iC).length;omega⟩,⟨⟨by show k*1=((ixL es k).map iC).length;omega,rfl,by simp only[maxLen];omega,by show(0+k)*8<=_;omega,mn⟩,mn,?_⟩⟩
   refine⟨k,⟨rfl,kx⟩,⟨⟨rfl,by show(0+k)*1=((ixL es k).map iC).length;omega,by simp only[maxLen];omega,by show(0+k+1)*8<=_;omega,mn2⟩,mn,bLw,?_⟩⟩
   refine⟨k,⟨rfl,aI _,by show k*1<=((ixL es k).map iC).length;omega⟩,⟨⟨by show k*1+(k-k)*1=((ixL es k).map iC).length;omega,by show(0+k+1)*1<=((ixL es k).map iC++[iC (x.l.getD k default).ix]).length;rw[aE,cR];omega,by simp only[maxLen];omega,by show(0+k+1+(k-k))*8<=_;omega,mn3⟩,mn,bLw,?_⟩⟩
   have cl:∀c∈(ixL es k).map iC++[iC (x.l.getD k default).ix],fK c=true:=λc hc=>(aQ.1 hc).elim (bK _ c) λh=>by rw[aH.1 h];rfl
   have cl3:∀{m m':Nat},∀c∈((ixL es k).map iC++[iC (x.l.getD k default).ix]).take m++((ixL es k).map iC).drop m',fK c=true:=λc hc=>(aQ.1 hc).elim (λh=>cl c (cV h)) λh=>bK _ c (fE h)
   refine⟨(k+1:Nat),wi,gsw 0 1 rfl rfl bL bL rfl ⟨_,kV aO cl3,_,kV aO (bK _),_,rfl,bL,bH hM2 (chg:=λk:Nat=>inK x ⟨A,c,[x]⟩ k) (bls:=λk=>inB (ixL es k)) (fls:=λ_=>[]) (k+1) ⟨hkl,show es.length-(k+1)<es.length-k by omega⟩ rfl ?_ trivial ⟨rfl,rfl,rfl,?_,rfl,rfl⟩ bL aBr rfl⟩⟩
   ·exact congrArg (λl:List CV=>((3,1,l):TypeId×Nat×List CV)) (bFl hkl (congrArg iC hx))
   show 0+k+1+(k-k)=k+1
   omega
  replace h2:¬(k:Int)<(x.l.length:Nat):=h2
  obtain rfl:k=es.length:=by omega
  exact⟨((0+1:Nat):Int),wi,bH hM (chg:=λg:Nat×List Int=>inO ⟨A,c,[x]⟩ g.1 g.2.length) (bls:=λg=>inB g.2) (fls:=λ_=>[]) (1,ixL es es.length) ⟨.inr ⟨rfl,rfl⟩,dN⟩ rfl rfl trivial ⟨rfl,by show es.length=(ixL es es.length).length;exact(aDc (aI _)).symm,rfl,rfl⟩ bL aBr rfl⟩
 have hL1:L=ixL es es.length:=by
  rcases hL with h|h
  ·exact absurd (show(i:Int)<1 by have:i=0:=h.1;omega) h1
  exact h.2
 exact rT 3 0 (λj=>[iC (L.getD j 0)]) rfl rfl (λj hj=>nS j hj) (by show L.length*1=(L.map iC).length;rw[aN,bI]) bL (bK L) bL λA c _ _=>aA gT mxd ⟨(⟨A,c,L⟩:Sl Int),hL1,aM rfl rfl trivial⟩
def nzL (es:List En):Nat->List En
 |0=>[]
 |k+1=>if (es.getD k default).2=0 then nzL es k else nzL es k++[es.getD k default]
theorem aUw {es:List En}:∀k,(nzL es k).length<=k
 |0=>aI _
 |k+1=>by
  unfold nzL
  have:=aUw (es:=es) k
  split
  ·omega
  rw[aE,cR];omega
theorem aUx {es:List En} (h:aFz es):∀k,k<=es.length->nzL es k=es.take k
 |0,_=>rfl
 |k+1,hk=>by
  unfold nzL
  rw[if_neg (h _ (fO hk)),aUx h k oM,dF,aG hk,gd hk];rfl
theorem bYp {es:List En} (h:aFz es):nzL es es.length=es:=by rw[aUx h _ (aI _),cW]
theorem bYq {x:Sl EntM}:∀j,j<1->[cF (([x]:List (Sl EntM)).getD j cP)]=([cF x].drop (j*1)).take 1
 |0,_=>rfl
 |_+1,h=>absurd h oM
abbrev bFn:FuncId:=211
theorem cJf:Ent Tryz.prog bFn:=aU func211 rfl kR
theorem cJg:Tryz.prog.funcs[bFn]? =some Tryz.f211:=func211
abbrev nrG (x:Sl EntM) (g:Sl Int) (m k n:Nat):List (Nat×DV):=[(11,.c (iC k)),(3,.c (.s 1 n)),(0,.c (cF x)),(9,.c (cD g)),(10,.c (iC m))]
abbrev nrB (ys:List EntM):BL:=[(65,1,[]),(82,4,ecs ys)]
theorem aRe {ys:List EntM}:scB 2 (nrB ys):=aB rfl (aB (nD _) aY)
theorem bFo (x:Sl EntM) {es:List En} {B:Nat} (h:Ev x.l es B) (ha:Asc es) (hb:rbE es B) (h1:1<=B) (hB:B<=4398046511104) (hn:es.length<=4096):Ctr Tryz.prog bFn [] [.c (cF x)] [] (λg:Sl EntM=>⟨.c (cF g),[],Ek g.l (nzL es es.length)⟩):=by
 have hl:=h.ln
 refine aW gT cJf cJg rfl rfl rfl bL aS (aA gT mxd ⟨some (λj=>[cF (([x]:List (Sl EntM)).getD j cP)]),⟨⟨aI _,dN⟩,rfl,bYq,λc hc=>by rw[aH.1 hc];rfl⟩,λA c _ _=>⟨[],bYo x A c h ha hn,rfl,rfl,rfl,λg hg=>aIp 3 82 4 rfl bL ?_⟩⟩)
 replace hg:g.l=ixL es es.length:=hg
 have lg:g.l.length=es.length:=by rw[hg];exact aDc (aI _)
 refine cG (λ_=>true) (λu:Nat×List EntM=>nrG x g g.l.length u.1 u.2.length) (λu=>nrB u.2) (λ_=>[]) (λu=>u.1<=es.length/\Ek u.2 (nzL es u.1)) (λu=>es.length-u.1) λhM=>⟨bH hM (chg:=λu:Nat×List EntM=>nrG x g g.l.length u.1 u.2.length) (bls:=λu=>nrB u.2) (fls:=λ_=>[]) (0,[]) ⟨aC _,rfl,λk hk=>absurd hk (aF _)⟩ rfl ⟨rfl,rfl⟩ trivial ⟨rfl,rfl,rfl,rfl,rfl⟩ bL aRe rfl,λ⟨k,ys⟩ ⟨hk,hy⟩=>aA gT mxd ⟨λh2=>aA gT mxd ?_,λh2=>aA gT mxd ?_⟩⟩
 all_goals
  replace hk:k<=es.length:=hk
  replace hy:Ek ys (nzL es k):=hy
  have ly:ys.length<=k:=by rw[hy.ln];exact aUw k
 ·have hkl:k<es.length:=by replace h2:(k:Int)<(g.l.length:Nat):=h2;omega
  have hv:Vm.get es (g.l.getD k 0)=(es.getD k default).2:=by rw[hg,aRd hkl (aI _)];exact rG ha (fO hkl)
  have hbk:=hb _ (fO hkl)
  refine⟨k,⟨rfl,show k<g.l.length by omega⟩,[],aRc x (g.l.getD k 0) h ha hb h1 hB hn,rfl,rfl,rfl,λr hr=>?_⟩
  replace hr:Cr r (Vm.get es (g.l.getD k 0)):=hr
  rw[hv] at hr
  refine⟨[],aCz r ((hr.rq hbk).le oM),rfl,rfl,rfl,λ_ _=>⟨λh3=>aA gT mxd ?_,λh3=>aA gT mxd ?_⟩⟩
  ·replace h3:¬sgn (es.getD k default).2.num=0:=h3
   have h4:¬(es.getD k default).2=0:=λe=>h3 (fS.2 (dH.2 e))
   refine⟨⟨rfl,by show ys.length*4=(ecs ys).length;rw[gM],by show ys.length+1<=maxLen;simp only[maxLen];omega,by show(ys.length+1)*64<=_;omega,λc hc=>?_⟩,λc hc=>(by cases hc),mK ⟨g.l.getD k 0,r⟩,(k+1:Nat),wi,bH hM (chg:=λu:Nat×List EntM=>nrG x g g.l.length u.1 u.2.length) (bls:=λu=>nrB u.2) (fls:=λ_=>[]) (k+1,ys++[⟨g.l.getD k 0,r⟩]) ⟨⟨hkl,?_⟩,show es.length-(k+1)<es.length-k by omega⟩ rfl ⟨rfl,by show(82,4,ecs ys++(⟨g.l.getD k 0,r⟩:EntM).C)=_;rw[qF]⟩ trivial ⟨rfl,?_,rfl,rfl,rfl⟩ bL aRe rfl⟩
   ·exact(aQ.1 hc).elim (λh=>cY (gN ys c h)) (mK ⟨g.l.getD k 0,r⟩ c)
   ·show Ek _ (if _ then _ else _)
    rw[if_neg h4]
    have:=vK (ix:=(es.getD k default).1) hy hr
    rwa [show g.l.getD k 0=(es.getD k default).1 by rw[hg];exact aRd hkl (aI _)]
   show ys.length+1=(ys++[(⟨g.l.getD k 0,r⟩:EntM)]).length
   simp
  replace h3:¬¬sgn (es.getD k default).2.num=0:=h3
  have h4:(es.getD k default).2=0:=dH.1 (fS.1 (iH.1 h3))
  exact⟨(k+1:Nat),wi,bH hM (chg:=λu:Nat×List EntM=>nrG x g g.l.length u.1 u.2.length) (bls:=λu=>nrB u.2) (fls:=λ_=>[]) (k+1,ys) ⟨⟨hkl,by show Ek ys (if _ then _ else _);rw[if_pos h4];exact hy⟩,show es.length-(k+1)<es.length-k by omega⟩ rfl ⟨rfl,rfl⟩ trivial ⟨rfl,rfl,rfl,rfl,rfl⟩ bL aRe rfl⟩
 replace h2:¬(k:Int)<(g.l.length:Nat):=h2
 obtain rfl:k=es.length:=by omega
 exact rT 3 1 (λj=>(ys.getD j default).C) rfl rfl (λj hj=>rX ys j hj) (gM ys).symm bL (gN ys) bL λA c _ _=>⟨λc hc=>(by cases hc),aA gT mxd ⟨(⟨A,c,ys⟩:Sl EntM),hy,aM rfl rfl trivial⟩⟩
def fuL (qs:List Rat) (k:Nat):List En:=(List.range k).map λi:Nat=>((i:Int),qs.getD i 0)
theorem aKh {qs:List Rat} {k:Nat}:(fuL qs k).length=k:=by unfold fuL;simp
theorem aNn {qs:List Rat} {k:Nat}:fuL qs (k+1)=fuL qs k++[((k:Int),qs.getD k 0)]:=by unfold fuL;rw[gQ,bG];rfl
theorem bYr {qs:List Rat} {i k:Nat} (h:i<k):(fuL qs k).getD i default=((i:Int),qs.getD i 0):=by unfold fuL;simp[h]
theorem aUy {qs:List Rat}:∀k,Asc (fuL qs k)
 |0=> .nil
 |k+1=>by
  rw[aNn]
  refine eR.2 ⟨aUy k,eJ _ _,λa ha b hb=>?_⟩
  rw[aH.1 hb]
  obtain⟨i,hi,rfl⟩:=cC.1 ha
  have:=cM.1 hi
  show(i:Int)<(k:Int)
  omega
theorem bFp {qs:List Rat} {n:Nat}:∀k,k<=n->nzL (fuL qs n) k=fdF qs k
 |0,_=>rfl
 |k+1,h=>by
  unfold nzL fdF
  rw[bYr h,bFp k oM]
theorem bFq {qs:List Rat} {k B:Nat} (h:rbL qs B) (hk:k<=qs.length):rbE (fuL qs k) B:=λe he=>by
 obtain⟨i,hi,rfl⟩:=cC.1 he
 exact h _ (gD0 (by have:=cM.1 hi;omega))
abbrev bYs:FuncId:=164
theorem cQl:Ent Tryz.prog bYs:=aU func164 rfl kR
theorem cQm:Tryz.prog.funcs[bYs]? =some Tryz.f164:=func164
abbrev fdG (x:Sl RatM) (k n:Nat):List (Nat×DV):=[(4,.c (iC k)),(3,.c (.s 0 n)),(0,.c (fI x))]
abbrev fdB (ys:List EntM):BL:=[(82,4,ecs ys)]
theorem bFr {ys:List EntM}:scB 1 (fdB ys):=aB (nD _) aY
theorem cJh (x:Sl RatM) {qs:List Rat} {B:Nat} (h:Rl x.l qs) (hb:rbL qs B) (h1:1<=B) (hB:B<=4398046511104) (hn:qs.length<=4096):Ctr Tryz.prog bYs [] [.c (fI x)] [] (λg:Sl EntM=>⟨.c (cF g),[],Ek g.l (fdF qs qs.length)⟩):=by
 have hl:=h.ln
 refine aW gT cQl cQm rfl rfl rfl bL aS (aA gT mxd (aIp 3 82 4 rfl bL ?_))
 refine cG (λ_=>true) (λu:Nat×List EntM=>fdG x u.1 u.2.length) (λu=>fdB u.2) (λ_=>[]) (λu=>u.1<=qs.length/\Ek u.2 (fuL qs u.1)) (λu=>qs.length-u.1) λhM=>⟨bH hM (chg:=λu:Nat×List EntM=>fdG x u.1 u.2.length) (bls:=λu=>fdB u.2) (fls:=λ_=>[]) (0,[]) ⟨aC _,rfl,λk hk=>absurd hk (aF _)⟩ rfl rfl trivial ⟨rfl,rfl,rfl⟩ bL bFr rfl,λ⟨k,ys⟩ ⟨hk,hy⟩=>aA gT mxd ⟨λh2=>aA gT mxd ?_,λh2=>aA gT mxd ?_⟩⟩
 all_goals
  replace hk:k<=qs.length:=hk
  replace hy:Ek ys (fuL qs k):=hy
  have ly:ys.length=k:=hy.ln.trans aKh
 ·have hkl:k<qs.length:=by replace h2:(k:Int)<(x.l.length:Nat):=h2;omega
  refine⟨k,⟨rfl,show k<x.l.length by omega⟩,⟨rfl,by show ys.length*4=(ecs ys).length;rw[gM],by show ys.length+1<=maxLen;simp only[maxLen];omega,by show(ys.length+1)*64<=_;omega,λc hc=>?_⟩,mK ⟨k,x.l.getD k default⟩,(k+1:Nat),wi,bH hM (chg:=λu:Nat×List EntM=>fdG x u.1 u.2.length) (bls:=λu=>fdB u.2) (fls:=λ_=>[]) (k+1,ys++[⟨k,x.l.getD k default⟩]) ⟨⟨hkl,?_⟩,show qs.length-(k+1)<qs.length-k by omega⟩ rfl (by show(82,4,ecs ys++(⟨k,x.l.getD k default⟩:EntM).C)=_;rw[qF]) trivial ⟨rfl,?_,rfl⟩ bL bFr rfl⟩
  ·exact(aQ.1 hc).elim (λh=>cY (gN ys c h)) (mK ⟨k,x.l.getD k default⟩ c)
  ·show Ek _ (fuL qs (k+1))
   rw[aNn]
   exact vK hy (h.e k hkl)
  show ys.length+1=(ys++[(⟨k,x.l.getD k default⟩:EntM)]).length
  simp
 replace h2:¬(k:Int)<(x.l.length:Nat):=h2
 obtain rfl:k=qs.length:=by omega
 refine aA gT mxd ⟨some (λj=>(ys.getD j default).C),⟨⟨aC _,by decide⟩,(gM ys).symm,λj hj=>rX ys j hj,gN ys⟩,λA c _ _=>⟨[],bFo ⟨A,c,ys⟩ (hy.ev (bFq hb (aI _))) (aUy _) (bFq hb (aI _)) h1 hB (by rw[aKh];exact hn),rfl,rfl,rfl,λg hg=>⟨g,?_,aM rfl rfl trivial⟩⟩⟩
 replace hg:Ek g.l (nzL (fuL qs qs.length) (fuL qs qs.length).length):=hg
 rw[aKh,bFp _ (aI _)] at hg
 exact hg
abbrev bYt:FuncId:=189
theorem cQn:Ent Tryz.prog bYt:=aU func189 rfl kR
theorem cQo:Tryz.prog.funcs[bYt]? =some Tryz.f189:=func189
abbrev dnG (x:Sl EntM) (n k:Nat):List (Nat×DV):=[(7,.c (iC k)),(0,.c (cF x)),(1,.c (iC n)),(6,.c (.s 0 n))]
abbrev dnB (G:Nat->RatM) (n k:Nat):BL:=[(62,3,flatR n (aBo G k))]
theorem bFs {G:Nat->RatM} {n k:Nat}:scB 1 (dnB G n k):=aB (aV.2 λc hc=>rS (bMy c hc)) aY
theorem cJi (x:Sl EntM) (n:Nat) {es:List En} {B:Nat} (h:Ev x.l es B) (hb:rbE es B) (h1:1<=B) (hB:B<=4398046511104) (hv:VOk es n) (hn:n<=4096) (he:es.length<=4096):Ctr Tryz.prog bYt [true] [.c (cF x),.c (iC n)] [] (λG:Nat->RatM=>⟨.t [.c (.s 0 n),pC True],[(62,3,flatR n λj=>(G j).C)],∀k,k<n->Cr (G k) (Vm.get es (k:Nat))⟩):=by
 have hz:aFz es:=λe he=>(hv.2 e he).2.2
 have hl:=h.ln
 refine aW gT cQn cQo rfl rfl rfl bL (λi T es l hi=>by cases hi) (aA gT mxd ⟨λh2=>?_,λ_=>⟨[],bFo x h hv.1 hb h1 hB he,rfl,rfl,rfl,λy hy=>?_⟩⟩)
 ·replace h2:(n:Int)<0\/(16384:Int)<(n:Nat):=h2
  omega
 replace hy:Ek y.l (nzL es es.length):=hy
 rw[bYp hz] at hy
 have tk:∀k,Asc (es.take k):=λk=>hv.1.sublist (iE k es)
 refine⟨[],bYn y n (hy.ev hb) hv oM oM,rfl,rfl,rfl,λ_ _=>⟨λh2=>absurd trivial h2,λ_=>aA gT mxd ⟨n,⟨rfl,rfl,by show 56*_<=_;omega,by simp only[maxLen];omega⟩,?_⟩⟩⟩
 refine cG (λ_=>true) (λg:Nat×(Nat->RatM)=>dnG x n g.1) (λg=>dnB g.2 n g.1) (λ_=>[]) (λg=>g.1<=n/\∀k,k<g.1->Cr (g.2 k) (Vm.get es (k:Nat))) (λg=>n-g.1) λhM=>⟨bH hM (chg:=λg:Nat×(Nat->RatM)=>dnG x n g.1) (bls:=λg=>dnB g.2 n g.1) (fls:=λ_=>[]) (0,λ_=>default) ⟨aC _,λk hk=>absurd hk (aF _)⟩ rfl ?_ trivial ⟨rfl,rfl,rfl,rfl⟩ bL bFs rfl,λ⟨i,G⟩ ⟨hi,hG⟩=>aA gT mxd ⟨λh4=>aA gT mxd ?_,λh4=>aA gT mxd ?_⟩⟩
 ·show(_,_,_)=(_,_,_)
  congr 2
  show(List.replicate n vI).flatten=_
  rw[<-aKb]
  exact oL λj _=>(if_neg (aF _)).symm
 all_goals
  replace hi:i<=n:=hi
  replace hG:∀k,k<i->Cr (G k) (Vm.get es (k:Nat)):=hG
 ·have hin:i<n:=by replace h4:(i:Int)<(n:Nat):=h4;omega
  have hlen:i*3<(flatR n (aBo G i)).length:=bEr (λj=>aNl j) hin
  have put:∀g:RatM,mD (flatR n (aBo G i)) (i*3) g.C=flatR n (aBo (aXz G i g) (i+1))/\i*3+g.C.length<=(flatR n (aBo G i)).length:=λg=>aUr (λj=>aNl j) hin rfl λj _=>bMx j
  exact⟨[],aRc x i h hv.1 hb h1 hB he,rfl,rfl,rfl,λg hg=>⟨i,⟨rfl,hin,hlen⟩,_,put _,(i+1:Nat),wi,bH hM (chg:=λg:Nat×(Nat->RatM)=>dnG x n g.1) (bls:=λg=>dnB g.2 n g.1) (fls:=λ_=>[]) (i+1,aXz G i g) ⟨⟨hin,λk hk=>by
   show Cr (aXz G i g k) _
   unfold aXz
   by_cases hki:k=i
   ·subst hki;rw[if_pos rfl];exact hg
   rw[if_neg hki];exact hG k (by have:k<i+1:=hk;omega)⟩,show n-(i+1)<n-i by omega⟩ rfl rfl trivial ⟨rfl,rfl,rfl,rfl⟩ bL bFs rfl⟩⟩
 replace h4:¬(i:Int)<(n:Nat):=h4
 obtain rfl:i=n:=by omega
 exact aA gT mxd ⟨G,hG,fH ⟨rfl,tt trivial⟩ (congrArg (λl:List CV=>((62,3,l):TypeId×Nat×List CV)) bEu) bL (aB (bU (yY (λj=>iY (G j)) _)) aY) rfl (eW (aV.2 (yY (λj=>iY (G j)) _)))⟩
abbrev mB (m:MatM):BL:=[(24,0,m.C)]
theorem bRk {m:MatM}:scB 1 (mB m):=aB rfl aY
abbrev aUz:FuncId:=120
theorem cJj:Ent Tryz.prog aUz:=aU func120 rfl kR
theorem cJk:Tryz.prog.funcs[aUz]? =some Tryz.f120:=func120
abbrev xvG (k:Nat):List (Nat×DV):=[(3,.c (iC k)),(1,.c (.p 0 0))]
set_option maxRecDepth 8000 in
theorem bYu (m:MatM) {M:Nat->List En} {B:Nat} (h:Mg m M B) (hB:B<=13194139533312) (hn:m.d.l.length<=4611686018427387904) (hr:∀i,i<m.d.l.length->(M i).length<=4611686018427387904):Ctr Tryz.prog aUz [] [.a m.C] [] (λ_:Unit=>⟨pC (MOk m M),[],True⟩):=by
 refine aW gT cJj cJk rfl rfl rfl bL aS (aA gT mxd ⟨λh2=>?_,λh2=>aA gT mxd ?_⟩)
 ·replace h2:(((m.r<0\/16384<m.r)\/m.c<0)\/16384<m.c)\/((m.d.l.length:Nat):Int)≠m.r:=h2
  exact aA gT mxd ⟨(),trivial,aM (ff λ⟨h3,h4,h5,_⟩=>by omega) rfl trivial⟩
 replace h2:¬((((m.r<0\/16384<m.r)\/m.c<0)\/16384<m.c)\/((m.d.l.length:Nat):Int)≠m.r):=h2
 have hl:m.r=(m.d.l.length:Nat):=by omega
 refine cG (λ_=>true) xvG (λ_=>mB m) (λ_=>[]) (λk=>k<=m.d.l.length/\∀i,i<k->VOk (M i) m.c) (λk=>m.d.l.length-k) λhM=>⟨bH hM (chg:=xvG) (bls:=λ_=>mB m) (fls:=λ_=>[]) 0 ⟨aC _,λi hi=>absurd hi (aF _)⟩ rfl rfl trivial ⟨rfl,rfl⟩ bL bRk rfl,λk ⟨hk,hv⟩=>aA gT mxd ⟨λh1=>aA gT mxd ?_,λh1=>aA gT mxd (aA gT mxd ?_)⟩⟩
 all_goals
  replace hk:k<=m.d.l.length:=hk
  replace hv:∀i,i<k->VOk (M i) m.c:=hv
 rotate_left
 ·replace h1:¬(k:Int)<m.r:=h1
  exact⟨(),trivial,aM (tt ⟨⟨by omega,by omega⟩,⟨by omega,by omega⟩,hl.symm,λi hi=>hv i oM⟩) rfl trivial⟩
 have hkn:k<m.d.l.length:=by replace h1:(k:Int)<m.r:=h1;omega
 have hrow:=h k hkn
 refine⟨.seq (sq 99 (List.range 9)),by kernel_rfl,k,⟨rfl,hkn⟩,[],bFi (m.d.l.getD k cP) m.c hrow hB (hr k hkn),rfl,rfl,rfl,λ_ _=>⟨λh=>aA gT mxd ?_,λh=>aA gT mxd ⟨(k+1:Nat),wi,bH hM (chg:=xvG) (bls:=λ_=>mB m) (fls:=λ_=>[]) (k+1) ⟨⟨hkn,λi hi=>?_⟩,show m.d.l.length-(k+1)<m.d.l.length-k by omega⟩ rfl rfl trivial ⟨rfl,rfl⟩ bL bRk rfl⟩⟩⟩
 ·exact⟨(),trivial,aM (ff λh5=>h (h5.2.2.2 k hkn)) rfl trivial⟩
 rcases cN (cX hi) with h5|rfl
 ·exact hv i h5
 exact eE.1 h
theorem bYv (m:MatM) {M:Nat->List En} {a b B:Nat} (h:Mr m M a b B) (hB:B<=13194139533312) (ha:a<=4096) (hb:b<=4096):Ctr Tryz.prog aUz [] [.a m.C] [] (λ_:Unit=>⟨pC True,[],True⟩):=
 bFj (bYu m h.mg hB (by rw[h.ln];omega) λi hi=>by have:=(h.ok i (by have:=h.ln;omega)).2;omega) (h.mok ha hb)
def aAo (d:Sl (Sl RatM)):CV:=d.R 1 (λrow=>[fI row]) cP
structure Rr (d:Sl (Sl RatM)) (Q:Nat->List Rat) (r n:Nat):Prop where
 ln:d.l.length=r
 row:∀i,i<r->Rl (d.l.getD i cP).l (Q i)/\(Q i).length=n
theorem aBs {n:Nat} {P:Nat->CV}:dI (n+1) P=dI n P++[P n]:=by unfold dI;rw[gQ,bG];rfl
abbrev bYw:FuncId:=101
theorem cQp:Ent Tryz.prog bYw:=aU func101 rfl kR
theorem cQq:Tryz.prog.funcs[bYw]? =some Tryz.f101:=func101
abbrev mkG (d:Sl (Sl RatM)) (n k:Nat):List (Nat×DV):=[(6,.c (iC k)),(0,.c (aAo d)),(5,.c (.p 1 0)),(4,.c (.p 0 0))]
abbrev mkB (r n k:Nat) (S:Nat->Sl EntM):BL:=[(24,0,[iC 0,iC 0,.v (.slice none 0 0)]),(24,0,[iC r,iC n,.s 2 k]),(65,1,dI k λj=>cF (S j))]
theorem bFt {r n k:Nat} {S:Nat->Sl EntM}:scB 3 (mkB r n k S):=aB rfl (aB rfl (aB (bU (aX λ_ _=>rfl)) aY))
def oMk:Ord:=.treeX [] [2000,1,2002,2003,2004,5] (trS [6,7,1008,2009,1010])
theorem cJl (d:Sl (Sl RatM)) {Q:Nat->List Rat} {r n B:Nat} (h:Rr d Q r n) (hb:∀i,i<r->rbL (Q i) B) (h1:1<=B) (hB:B<=4398046511104) (hr:r<=4096) (hn:n<=4096):Ctr Tryz.prog bYw [] [.c (aAo d),.c (iC n)] [] (λg:MatM=>⟨.a g.C,[],Mk g (λi=>fdF (Q i) n) r n⟩):=by
 have hl:=h.ln
 obtain⟨dA,dc,dl⟩:=d
 replace hl:dl.length=r:=hl
 subst hl
 refine aW gT cQp cQq rfl rfl rfl bL aS (aA gT mxd ?_)
 show Sd _ _ _ _ _ _
 refine bQx tSd 1 2 65 1 rfl rfl bL rfl ?_
 refine cG (λ_=>true) (λu:Nat×(Nat->Sl EntM)=>mkG ⟨dA,dc,dl⟩ n u.1) (λu=>mkB dl.length n u.1 u.2) (λ_=>[]) (λu=>u.1<=dl.length/\∀j,j<u.1->Ek (u.2 j).l (fdF (Q j) n)) (λu=>dl.length-u.1) λhM=>⟨bH hM (chg:=λu:Nat×(Nat->Sl EntM)=>mkG ⟨dA,dc,dl⟩ n u.1) (bls:=λu=>mkB dl.length n u.1 u.2) (fls:=λ_=>[]) (0,λ_=>cP) ⟨aC _,λj hj=>absurd hj (aF _)⟩ rfl ⟨rfl,rfl,rfl⟩ trivial ⟨rfl,rfl,rfl,rfl⟩ bL bFt rfl,λ⟨k,S⟩ ⟨hk,hS⟩=>aA gT mxd ⟨λh2=>aA gT mxd ?_,λh2=>?_⟩⟩
 all_goals
  replace hk:k<=dl.length:=hk
  replace hS:∀j,j<k->Ek (S j).l (fdF (Q j) n):=hS
 ·have hkn:k<dl.length:=by replace h2:(k:Int)<(dl.length:Nat):=h2;omega
  refine⟨oMk,by kernel_rfl,k,⟨rfl,hkn⟩,[],cJh (dl.getD k cP) (h.row k hkn).1 (hb k hkn) h1 hB (by rw[(h.row k hkn).2];exact hn),rfl,rfl,rfl,λg hg=>⟨rfl,rfl,?_⟩⟩
  replace hg:Ek g.l (fdF (Q k) (Q k).length):=hg
  rw[(h.row k hkn).2] at hg
  have mg:∀{i:Nat},∀c∈[cF g],kU i c=false:=λc hc=>by rw[aH.1 hc];rfl
  have hc2:dI k (λj=>cF (S j))++[cF g]=dI (k+1) λj=>cF (upd S k g j):=by
   rw[aBs,gA (Q:=λj=>cF (upd S k g j)) λj hj=>by rw[bD oM]]
   simp only[bJ]
  exact⟨⟨rfl,by show k*1=(dI k λj=>cF (S j)).length;rw[dB,bI],by show k+1<=maxLen;simp only[maxLen];omega,by show(k+1)*24<=_;omega,λc hc=>(aQ.1 hc).elim (λh=>cY (aX (λ_ _=>rfl) c h)) (mg c)⟩,mg,(k+1:Nat),wi,bH hM (chg:=λu:Nat×(Nat->Sl EntM)=>mkG ⟨dA,dc,dl⟩ n u.1) (bls:=λu=>mkB dl.length n u.1 u.2) (fls:=λ_=>[]) (k+1,upd S k g) ⟨⟨hkn,λj hj=>by
   show Ek (upd S k g j).l _
   by_cases hjk:j=k
   ·subst hjk;rw[bJ];exact hg
   rw[bD hjk];exact hS j (by have:j<k+1:=hj;omega)⟩,show dl.length-(k+1)<dl.length-k by omega⟩ rfl ⟨rfl,rfl,congrArg (λl:List CV=>((65,1,l):TypeId×Nat×List CV)) hc2⟩ trivial ⟨rfl,rfl,rfl,rfl⟩ bL bFt rfl⟩
 replace h2:¬(k:Int)<(dl.length:Nat):=h2
 obtain rfl:k=dl.length:=by omega
 refine aA gT mxd ?_
 show Sd _ _ _ _ _ _
 refine jV tSd 2 rfl bL (aX λ_ _=>rfl) bL rfl λA2 c2=>?_
 refine iX tSd 1 0 [iC dl.length,iC n,mL ⟨A2.map λb=>⟨b,0,none⟩,c2,kS S dl.length⟩] rfl rfl rfl rfl (vL (k0:=2) rfl vM) (aA gT mxd ⟨⟨dl.length,n,⟨A2.map λb=>⟨b,0,none⟩,c2,kS S dl.length⟩⟩,⟨rfl,rfl,nJ,λj hj=>?_,λj hj=>aBq _⟩,aM rfl rfl trivial⟩)
 show Ek ((kS S dl.length).getD j cP).l _
 rw[qH hj]
 exact hS j hj
abbrev hdR (A:Nat->Option Nat) (cap:Nat->Nat) (R:Nat->List RatM):Nat->CV:=λj=> .h (A j) (R j).length (cap j)
abbrev elF (n:Nat) (A:Nat->Option Nat) (cap:Nat->Nat) (R:Nat->List RatM):Fam:=⟨62,3,n,A,cap,λj=>fl RatM.C default (R j)⟩
abbrev elB (m:MatM) (n:Nat) (H:List CV):BL:=[(24,0,m.C),(55,1,H)]
theorem aRf {m:MatM} {n:Nat} {P:Nat->CV} (h:∀j,j<n->fK (P j)=true):scB 2 (elB m n (dI n P)):=aB rfl (aB (bU (aX h)) aY)
theorem bNc {G:Nat->RatM} {n:Nat}:flatR n (λj=>(G j).C)=fl RatM.C default (nO G n):=by
 unfold fl
 rw[rH]
 exact oL λj hj=>by rw[xD hj]
theorem bYx {G:Nat->RatM} {n:Nat} {es:List En} (h:∀k,k<n->Cr (G k) (Vm.get es (k:Nat))):Rl (nO G n) (dnL es n):=bMz h
theorem bNd {A:Nat->Option Nat} {cap:Nat->Nat} {R:Nat->List RatM} {G:Nat->RatM} {n b k:Nat} {Aa:Option Nat} {aa:Nat}:(dI n λj=>if j=k then .s 2 b else hdR A cap R j).map (pL 2 Aa aa)=dI n (hdR (upd A k Aa) (upd cap k aa) (upd R k (nO G b))):=by
 unfold dI
 rw[kO]
 refine dP λj _=>?_
 show pL 2 Aa aa (if j=k then .s 2 b else hdR A cap R j)=_
 by_cases h:j=k
 ·subst h;simp only[if_true,hdR,bJ,rH];rfl
 simp only[if_neg h,hdR,bD h];rfl
theorem bYy {T n k:Nat} {A:Nat->Option Nat} {cap:Nat->Nat} {R:Nat->List RatM} {G:Nat->RatM} {b:Nat}:(⟨T,3,n,A,cap,upd (λj=>fl RatM.C default (R j)) k (flatR b λj=>(G j).C)⟩:Fam)=⟨T,3,n,A,cap,λi=>fl RatM.C default (upd R k (nO G b) i)⟩:=by
 congr 1
 funext i
 by_cases h:i=k
 ·subst h;rw[bJ,bJ,bNc]
 rw[bD h,bD h]
abbrev bNe:FuncId:=122
theorem cQr:Ent Tryz.prog bNe:=aU func122 rfl kR
theorem cQs:Tryz.prog.funcs[bNe]? =some Tryz.f122:=func122
abbrev elG (n k:Nat):List (Nat×DV):=[(4,.c (iC k)),(1,.c (.p 0 0)),(3,.c (.s 1 n))]
def oEl:Ord:=.treeX [] [2000,2001,2002,3,2004,2005,6,2007,8] (trS [9,2010,2011,2012,2013,1014])
theorem cJm (m:MatM) {M:Nat->List En} {a b B:Nat} (h:Mr m M a b B) (hb:rbM M a B) (h1:1<=B) (hB:B<=4398046511104) (ha:a<=4096) (hbn:b<=4096):CtrF Tryz.prog bNe [false,true] [.a m.C] [] [] (λg:(Nat->Option Nat)×(Nat->Nat)×(Nat->List RatM)=>⟨.c (.s 1 a),elB m a (dI a (hdR g.1 g.2.1 g.2.2)),[elF a g.1 g.2.1 g.2.2],∀i,i<a->Rl (g.2.2 i) (dnL (M i) b)⟩):=by
 obtain⟨mr,mc,md⟩:=m
 obtain rfl:mr=(a:Nat):=h.r
 obtain rfl:mc=(b:Nat):=h.c
 have hl:md.l.length=a:=h.ln
 refine nX gT cQr cQs rfl rfl rfl bL (λi T es l hi=>by cases hi) (aA gT mxd ⟨a,⟨rfl,rfl,by show 24*a<=_;omega,by simp only[maxLen];omega⟩,?_⟩)
 show Sd _ _ _ _ _ _
 refine aXs tSd 62 3 a bL (gH tSd (l:=List.replicate a (.v (.slice none 0 0))) 1 (dI a (hdR (λ_=>none) (λ_=>0) λ_=>[])) rfl (by rw[dB,cJ]) (λk c c' h1 h2=>?_) ?_)
 ·have hk:k<a:=by have:=eG h1;simpa using this
  have h3:=eB (P:=hdR (λ_=>none) (λ_=>0) λ_=>[]) hk
  rw[bI,h2] at h3
  injection h3 with h3
  rw[h3,(gB.1 (aR h1)).2]
  exact LeC.nilh
 refine cG (λ_=>true) (λg:Nat×(Nat->Option Nat)×(Nat->Nat)×(Nat->List RatM)=>elG a g.1) (λg=>elB ⟨a,b,md⟩ a (dI a (hdR g.2.1 g.2.2.1 g.2.2.2))) (λg=>[elF a g.2.1 g.2.2.1 g.2.2.2]) (λg=>g.1<=a/\(∀j,j<g.1->Rl (g.2.2.2 j) (dnL (M j) b))/\∀j,g.1<=j->g.2.1 j=none) (λg=>a-g.1) λhM=>⟨bH hM (chg:=λg:Nat×(Nat->Option Nat)×(Nat->Nat)×(Nat->List RatM)=>elG a g.1) (bls:=λg=>elB ⟨a,b,md⟩ a (dI a (hdR g.2.1 g.2.2.1 g.2.2.2))) (fls:=λg=>[elF a g.2.1 g.2.2.1 g.2.2.2]) (0,λ_=>none,λ_=>0,λ_=>[]) ⟨aC _,λj hj=>absurd hj (aF _),λ_ _=>rfl⟩ rfl ⟨rfl,rfl⟩ ⟨rfl,trivial⟩ ⟨rfl,rfl,rfl⟩ bL (aRf λ_ _=>rfl) rfl,λ⟨k,A,cap,R⟩ ⟨hk,hR,hA⟩=>aA gT mxd ⟨λh2=>aA gT mxd ?_,λh2=>?_⟩⟩
 all_goals
  replace hk:k<=a:=hk
  replace hR:∀j,j<k->Rl (R j) (dnL (M j) b):=hR
  replace hA:∀j,k<=j->A j=none:=hA
 ·have hkn:k<a:=by replace h2:(k:Int)<(a:Nat):=h2;omega
  have hok:=h.ok k hkn
  refine⟨oEl,by kernel_rfl,k,⟨rfl,show k<md.l.length by omega⟩,[],cJi (md.l.getD k cP) b (h.row k hkn) (hb k hkn) h1 hB hok.1 hbn (by have:=hok.2;omega),rfl,rfl,rfl,λG hG=>⟨rfl,k,⟨rfl,hkn,cQ hkn⟩,_,gU (c:=.s 2 b) (Q:=λj=>if j=k then .s 2 b else hdR A cap R j) hkn λj _=>rfl,(k+1:Nat),wi,jV tGt 2 rfl bL (yY (λj=>iY (G j)) b) bL rfl λAa aa=>⟨_,bNd (G:=G),bUk tGt 0 1 k rfl rfl rfl hkn (hA k (aI _)) bL rfl rfl (bH hM (chg:=λg:Nat×(Nat->Option Nat)×(Nat->Nat)×(Nat->List RatM)=>elG a g.1) (bls:=λg=>elB ⟨a,b,md⟩ a (dI a (hdR g.2.1 g.2.2.1 g.2.2.2))) (fls:=λg=>[elF a g.2.1 g.2.2.1 g.2.2.2]) (k+1,upd A k Aa,upd cap k aa,upd R k (nO G b)) ⟨⟨hkn,λj hj=>?_,λj hj=>?_⟩,show a-(k+1)<a-k by omega⟩ rfl ⟨rfl,rfl⟩ ⟨bYy,trivial⟩ ⟨rfl,rfl,rfl⟩ bL (aRf λ_ _=>rfl) rfl)⟩⟩⟩
  ·show Rl (upd R k (nO G b) j) _
   by_cases hjk:j=k
   ·subst hjk;rw[bJ];exact bYx hG
   rw[bD hjk];exact hR j (by have:j<k+1:=hj;omega)
  have hj':k+1<=j:=hj
  exact(bD oM).trans (hA j oM)
 replace h2:¬(k:Int)<(a:Nat):=h2
 obtain rfl:k=a:=by omega
 refine aA gT mxd ?_
 exact aA gT mxd ⟨(A,cap,R),hR,kG rfl ⟨rfl,rfl⟩ ⟨rfl,trivial⟩ bL (aRf λ_ _=>rfl) rfl (bRf (aX λ_ _=>rfl))⟩
def rwS (A:Nat->Option Nat) (cap:Nat->Nat) (R:Nat->List RatM) (j:Nat):Sl RatM:=⟨(A j).map λb=>⟨b,0,none⟩,cap j,R j⟩
theorem bRl {n:Nat} {A:Nat->Option Nat} {cap:Nat->Nat} {R:Nat->List RatM} (j:Nat) (hj:j<n):FrC (elF n A cap R) (hdR A cap R j) (fI (rwS A cap R j)):=⟨j,(R j).length,_,hj,rfl,rfl,(yZ (f:=RatM.C) (d:=default) (L:=R j) (e:=3) λ_=>rfl).symm,λk hk=>bFa (f:=RatM.C) (d:=default) (L:=R j) (e:=3) (λ_=>rfl) k hk⟩
def uK {α:Type} (S:Nat->α) (n:Nat):List α:=(List.range n).map S
theorem aAp {α:Type} {S:Nat->α} {n j:Nat} {d:α} (h:j<n):(uK S n).getD j d=S j:=by unfold uK;simp[h]
theorem aBt {α:Type} {S:Nat->α} {n:Nat}:(uK S n).length=n:=by unfold uK;simp
theorem aVa {n:Nat} {S:Nat->Sl RatM} (j:Nat) (hj:j<n):[fI ((uK S n).getD j cP)]=((dI n λj=>fI (S j)).drop (j*1)).take 1:=by
 rw[aAp hj]
 have h1:=eB (P:=λj=>fI (S j)) hj
 rw[bI] at h1 ⊢
 rw[dX (by rw[dB];exact hj)]
 rw[aG (by rw[dB];exact hj)] at h1
 injection h1 with h1
 rw[h1];rfl
theorem aVb {A:Option Addr} {c n:Nat} {S:Nat->Sl RatM}:CV.r A n c 1 (λj=>[fI ((uK S n).getD j cP)])=aAo ⟨A,c,uK S n⟩:=by
 unfold aAo Sl.R
 rw[aBt]
theorem bYz (m:MatM) {M:Nat->List En} {n b B:Nat} (h:Mr m M n b B) (hb:rbM M n B) (h1:1<=B) (hB:B<=4398046511104) (hn:n<=4096) (hbn:b<=4096):Ctr Tryz.prog bNe [false,true] [.a m.C] [] (λg:Sl (Sl RatM)=>⟨.c (aAo g),[],Rr g (λi=>dnL (M i) b) n b⟩):=by
 refine CtrF.gt (cJm m h hb h1 hB hn hbn) λ⟨A,cap,R⟩ hC _=>?_
 refine iX tGt 1 0 (dI n λj=>fI (rwS A cap R j)) rfl rfl rfl (by rw[dB,dB]) (aEy bRl) ?_
 refine aPq tGt 0 1 (λj=>[fI ((uK (rwS A cap R) n).getD j cP)]) rfl rfl aVa (by rw[dB,bI]) bL (aX λ_ _=>rfl) bL λA2 c2 _ _=>?_
 refine bH (M:=λ_=>true) (base:=[]) (chg:=λg':Sl (Sl RatM)=>[(0,.c (aAo g'))]) (bls:=λ_=>[]) (fls:=λ_=>[]) (λt d ht=>by cases ht) (⟨A2,c2,uK (rwS A cap R) n⟩:Sl (Sl RatM)) ⟨⟨aBt,λi hi=>?_⟩,λi T es l h=>by cases h⟩ rfl trivial trivial ?_ (aI _) (λi T es l hi=>by cases hi) rfl
 ·rw[aAp hi]
  exact⟨hC i hi,aKc⟩
 exact aVb
theorem Mk.congr {m:MatM} {M M':Nat->List En} {n b:Nat} (h:Mk m M n b) (he:∀i,i<n->M i=M' i):Mk m M' n b:=⟨h.r,h.c,h.ln,λi hi=>by rw[<-he i hi];exact h.row i hi,λi hi=>by rw[<-he i hi];exact h.ok i hi⟩
theorem cJn:rb (0:Rat) 1:=⟨by decide,by decide⟩
theorem aVc {α:Type} {f:α->List CV} {d:α} {L:List α} {e k:Nat} {x:α} (h:∀x,(f x).length=e) (hk:k<L.length):mD (fl f d L) (k*e) (f x)=fl f d (L.set k x)/\k*e+(f x).length<=(fl f d L).length:=by
 refine⟨?_,by rw[yZ h,h,<-dU];exact aZ _ hk⟩
 unfold fl
 rw[aKa (h x) (λ_ _=>h _) hk,bW]
 refine oL λj hj=>?_
 by_cases e:j=k
 ·subst e;simp[hk]
 rw[if_neg e];simp[List.getD,nG (gE e)]
set_option maxRecDepth 20000
structure El where
 R:Nat->Sl EntM
 LA:Nat->Option Nat
 Lc:Nat->Nat
 L:Nat->List EntM
 CA:Nat->Option Nat
 Cc:Nat->Nat
 I:Nat->List CV
abbrev mpC (CA:Nat->Option Nat):Nat->CV:=λj=> .v (.map (CA j))
abbrev kI (l:List CV):List Nat:=l.map nR
abbrev elE (i1 i2 i3 i4 n a:Nat):TypeId×Nat×List CV:=(162,0,[.s i1 n,.s i2 n,.s i3 n,.s i4 a])
abbrev elR (n:Nat) (x:El):TypeId×Nat×List CV:=(65,1,dI n λj=>cF (x.R j))
abbrev elL (n:Nat) (x:El):TypeId×Nat×List CV:=(65,1,dI n (hdP x.LA x.Lc x.L))
abbrev elC (n:Nat) (x:El):TypeId×Nat×List CV:=(210,1,dI n (mpC x.CA))
abbrev elA (A:List Int):TypeId×Nat×List CV:=(3,1,A.map iC)
abbrev LF (n:Nat) (x:El):Fam:=⟨82,4,n,x.LA,x.Lc,λj=>ecs (x.L j)⟩
abbrev CF (n:Nat) (x:El):Fam:=⟨1000000,1,n,x.CA,x.Cc,x.I⟩
structure ElOk (x:El) (n:Nat) (es lw:Nat->List En) (used:Nat->Prop):Prop where
 row:∀i,i<n->Ek (x.R i).l (es i)
 ok:∀i,i<n->VOk (es i) (n:Nat)/\(es i).length<=n
 low:∀i,i<n->Ek (x.L i) (lw i)
 ca:∀j,j<n->∃b,x.CA j=some b
 nd:∀j,j<n->(kI (x.I j)).Nodup
 mem:∀j,j<n->∀i,i∈kI (x.I j)↔(i<n/\¬used i)/\Vm.get (es i) (j:Nat)≠0
theorem rpm {φ:CV->CV} {n:Nat} {c:CV} (h:∀c,fK c=true->φ c=c) (hc:fK c=true):(List.replicate n c).map φ=List.replicate n c:=by rw[List.map_replicate,h c hc]
theorem qO {n:Nat} {c:CV} (hc:fK c=true):∀x∈List.replicate n c,fK x=true:=λx hx=>by rw[(gB.1 hx).2];exact hc
theorem aVd {l:List CV} {c n i:Nat}:i∈kI (wT l c n).1↔i=n\/i∈kI l:=by
 unfold wT
 split
 ·next h=>exact⟨.inr,λh'=>h'.elim (λe=>e▸h) id⟩
 unfold kI
 rw[bG,aQ]
 show i∈_\/i∈[n]↔_
 rw[aH]
 exact Or.comm
theorem bFu {l:List CV} {c n:Nat} (h:(kI l).Nodup):(kI (wT l c n).1).Nodup:=by
 unfold wT
 split
 ·exact h
 next hn=>
 unfold kI
 rw[bG,kP]
 refine⟨h,by simp,λa ha b hb he=>?_⟩
 have hb':b=n:=aH.1 (show b∈[n] from hb)
 exact hn (by rw[<-hb',<-he];exact ha)
theorem aNo {l:List CV} {n:Nat}:kI (aCk l n)=(kI l).filter λi=>!Nat.beq i n:=by
 unfold kI aCk
 rw[List.filter_map]
 rfl
theorem bNf {l:List CV} {n i:Nat}:i∈kI (aCk l n)↔i∈kI l/\i≠n:=by
 rw[aNo,qQ]
 refine and_congr_right λ_=>?_
 cases h:Nat.beq i n with
 |true=>have:=aK h;simp[this]
 |false=>have:=oJ h;simp[this]
theorem bZa {l:List CV} {n:Nat} (h:(kI l).Nodup):(kI (aCk l n)).Nodup:=by
 rw[aNo];exact h.filter _
def aL (n j:Nat):List Int:=(List.range n).map λi=>if i<j then (i:Int) else 0
theorem aFa {n j:Nat}:(aL n j).map iC=dI n λi=>iC (if i<j then (i:Int) else 0):=by unfold aL dI;rw[kO];rfl
theorem cJo {n j k:Nat} (h:j<n):j*1<((aL n k).map iC).length:=by rw[aFa];exact cQ h
theorem bZb {n j:Nat} (h:j<n):mD ((aL n j).map iC) (j*1) [iC (j:Int)]=(aL n (j+1)).map iC/\j*1+1<=((aL n j).map iC).length:=by
 rw[aFa,aFa]
 exact gU h λi _=>by
  by_cases e:i=j
  ·subst e;rw[if_pos rfl,if_pos (bF _)]
  rw[if_neg e]
  by_cases e2:i<j
  ·rw[if_pos e2,if_pos oM]
  rw[if_neg e2,if_neg oM]
theorem bFv {n:Nat}:aL n n=(List.range n).map λi:Nat=>(i:Int):=dP λi hi=>if_pos (cM.1 hi)
theorem tR {n:Nat} {c:CV} {P:Nat->CV} (h:∀j,j<n->LeC c (P j)) (k:Nat) (c1 c2:CV) (h1:(List.replicate n c)[k]? =some c1) (h2:(dI n P)[k]? =some c2):LeC c1 c2:=by
 have hk:k<n:=by have:=eG h1;simpa using this
 have h3:=eB (P:=P) hk
 rw[bI,h2] at h3
 injection h3 with h3
 rw[h3,(gB.1 (aR h1)).2]
 exact h k hk
abbrev stX (R:Nat->Sl EntM) (CA:Nat->Option Nat) (Cc:Nat->Nat) (I:Nat->List CV):El:=⟨R,λ_=>none,λ_=>0,λ_=>[],CA,Cc,I⟩
abbrev stB (m:MatM) (n:Nat) (x:El) (A:List Int):BL:=[(24,0,m.C),elR n x,elL n x,elC n x,elA A,elE 1 2 3 4 n n]
theorem zB {m:MatM} {n:Nat} {x:El} {A:List Int}:scB 6 (stB m n x A):=aB rfl (aB (bU (aX λ_ _=>rfl)) (aB (bU (aX λ_ _=>rfl)) (aB (bU (aX λ_ _=>rfl)) (aB (bU (bK _)) (aB rfl aY)))))
theorem fT {c:Bool} {cl:List Bool} {T:TypeId} {es:Nat} {l:List CV} {bl:BL} (h:c=true->∀x∈l,fK x=true) (hr:ClB cl bl):ClB (c::cl) ((T,es,l)::bl):=λi T' es' l' hi hc=>by
 cases i with
 |zero=>
  injection hi with hi
  injection hi with _ hi
  injection hi with _ hi
  subst hi
  injection hc with hc
  exact h hc
 |succ i=>exact hr i T' es' l' hi hc
theorem bNg {m:MatM}:∀c∈m.C,fK c=true:=λc hc=>by
 rcases bZ.1 hc with rfl|hc
 ·rfl
 rcases bZ.1 hc with rfl|hc
 ·rfl
 rw[aH.1 hc];rfl
theorem bZc {m:MatM} {n:Nat} {x:El} {A:List Int}:ClB [true,true,true,true,true,false] (stB m n x A):=fT (λ_=>bNg) (fT (λ_=>aX λ_ _=>rfl) (fT (λ_=>aX λ_ _=>rfl) (fT (λ_=>aX λ_ _=>rfl) (fT (λ_=>bK _) (fT (λh=>by cases h) aCl)))))
theorem bFw {α:Type} {f:Nat->α} {j:Nat} {x:α} (h:f j=x):upd f j x=f:=funext λi=>by
 by_cases e:i=j
 ·subst e;rw[bJ,h]
 rw[bD e]
def KI (M:Nat->List En) (n i k:Nat) (I:Nat->List CV):Prop:=∀j,j<n->(kI (I j)).Nodup/\∀r,r∈kI (I j)↔(r<i/\Vm.get (M r) (j:Nat)≠0)\/(r=i/\∃e∈(M i).take k,e.1=(j:Nat))
theorem tS {es:List En} {n:Int} (h:VOk es n) (j:Int):Vm.get es j≠0↔∃e∈es,e.1=j:=by
 constructor
 ·intro hne
  refine aT λhh=>hne (get_none λe he h2=>hh ⟨e,he,h2⟩)
 rintro⟨e,he,rfl⟩
 rw[rG h.1 he]
 exact(h.2 e he).2.2
theorem KI.next {M:Nat->List En} {n i k j0:Nat} {I:Nat->List CV} {c:Nat} (h:KI M n i k I) (hk:k<(M i).length) (hj:((M i).getD k default).1=(j0:Nat)):KI M n i (k+1) (upd I j0 (wT (I j0) c i).1):=λj hjn=>by
 have e1:(M i).take (k+1)=(M i).take k++[(M i).getD k default]:=by rw[dF,aG hk,gd hk];rfl
 obtain⟨h1,h2⟩:=h j hjn
 rw[e1]
 by_cases e:j=j0
 ·subst e
  rw[bJ]
  refine⟨bFu h1,λr=>?_⟩
  rw[aVd,h2 r]
  constructor
  ·rintro(rfl|h3|⟨h3,e,he,h4⟩)
   ·exact .inr ⟨rfl,_,dS _ (.head _),hj⟩
   ·exact .inl h3
   exact .inr ⟨h3,e,dK _ he,h4⟩
  rintro(h3|⟨h3,_⟩)
  ·exact .inr (.inl h3)
  exact .inl h3
 rw[bD e]
 refine⟨h1,λr=>?_⟩
 rw[h2 r]
 refine or_congr_right (and_congr_right λ_=>⟨λ⟨e',he,h4⟩=>⟨e',dK _ he,h4⟩,λ⟨e',he,h4⟩=>?_⟩)
 rcases aQ.1 he with he|he
 ·exact⟨e',he,h4⟩
 rw[aH.1 he,hj] at h4;exact absurd (jH h4).symm e
theorem KI.row {M:Nat->List En} {n i:Nat} {I:Nat->List CV} (h:KI M n i (M i).length I) (hv:VOk (M i) (n:Nat)):KI M n (i+1) 0 I:=λj hj=>by
 obtain⟨h1,h2⟩:=h j hj
 refine⟨h1,λr=>?_⟩
 rw[h2 r,cW]
 constructor
 ·rintro(⟨h3,h4⟩|⟨rfl,h4⟩)
  ·exact .inl ⟨by omega,h4⟩
  exact .inl ⟨by omega,(tS hv _).2 h4⟩
 rintro(⟨h3,h4⟩|⟨_,e,he,_⟩)
 ·by_cases e:r=i
  ·subst e;exact .inr ⟨rfl,(tS hv _).1 h4⟩
  exact .inl ⟨by omega,h4⟩
 cases he
abbrev st1 (n j:Nat):List (Nat×DV):=[(25,.c (iC j)),(3,.c (.p 5 0)),(1,.c (.p 0 0)),(24,.c (iC n))]
abbrev st2 (m:MatM) (i:Nat):List (Nat×DV):=[(46,.c (iC i)),(3,.c (.p 5 0)),(1,.c (.p 0 0)),(44,.c (mL m.d)),(45,.c (iC (m.d.l.length:Nat)))]
abbrev st3 (m:MatM) (i k:Nat):List (Nat×DV):=(61,.c (iC k))::(5,.c (iC i))::(59,.c (cF (m.d.l.getD i cP)))::(60,.c (iC ((m.d.l.getD i cP).l.length:Nat)))::st2 m i
def cJp:Ord:=.treeX [] [2000,2001,2002,3,2004,2005] (trS [6,2007,1008])
def cJq:Ord:=.treeX [] [2000,2001,2002,3,2004,5,2006,1007,2008] (trS [1009])
abbrev aKi:FuncId:=113
theorem bNh:Ent Tryz.prog aKi:=aU func113 rfl kR
theorem bNi:Tryz.prog.funcs[aKi]? =some Tryz.f113:=func113
def oSt:Ord:=.joinX [] [2000,1,2003,4,2006,7,2009,10] (.alt 2 (.alt 5 (.alt 8 (.alt 11 (trS [2012,1013,2014]) .nil) (.alt 11 (.alt 8 (trS [2012,1013,2014]) .nil) .nil)) (.alt 8 (.alt 5 (.alt 11 (trS [2012,1013,2014]) .nil) (.alt 11 (.alt 5 (trS [2012,1013,2014]) .nil) .nil)) (.alt 11 (.alt 5 (.alt 8 (trS [2012,1013,2014]) .nil) (.alt 8 (.alt 5 (trS [2012,1013,2014]) .nil) .nil)) .nil))) (.alt 5 (.alt 2 (.alt 8 (.alt 11 (trS [2012,1013,2014]) .nil) (.alt 11 (.alt 8 (trS [2012,1013,2014]) .nil) .nil)) (.alt 8 (.alt 2 (.alt 11 (trS [2012,1013,2014]) .nil) (.alt 11 (.alt 2 (trS [2012,1013,2014]) .nil) .nil)) (.alt 11 (.alt 2 (.alt 8 (trS [2012,1013,2014]) .nil) (.alt 8 (.alt 2 (trS [2012,1013,2014]) .nil) .nil)) .nil))) (.alt 8 (.alt 2 (.alt 5 (.alt 11 (trS [2012,1013,2014]) .nil) (.alt 11 (.alt 5 (trS [2012,1013,2014]) .nil) .nil)) (.alt 5 (.alt 2 (.alt 11 (trS [2012,1013,2014]) .nil) (.alt 11 (.alt 2 (trS [2012,1013,2014]) .nil) .nil)) (.alt 11 (.alt 2 (.alt 5 (trS [2012,1013,2014]) .nil) (.alt 5 (.alt 2 (trS [2012,1013,2014]) .nil) .nil)) .nil))) (.alt 11 (.alt 2 (.alt 5 (.alt 8 (trS [2012,1013,2014]) .nil) (.alt 8 (.alt 5 (trS [2012,1013,2014]) .nil) .nil)) (.alt 5 (.alt 2 (.alt 8 (trS [2012,1013,2014]) .nil) (.alt 8 (.alt 2 (trS [2012,1013,2014]) .nil) .nil)) (.alt 8 (.alt 2 (.alt 5 (trS [2012,1013,2014]) .nil) (.alt 5 (.alt 2 (trS [2012,1013,2014]) .nil) .nil)) .nil))) .nil))))
theorem bNj (m:MatM) {M:Nat->List En} {n B:Nat} (h:Mr m M n n B) (hb:rbM M n B) (h1:1<=B) (hB:B<=4398046511104) (hn:n<=4096):CtrF Tryz.prog aKi [true,true,true,true,true,false] [.a m.C] [] [] (λx:El=>⟨.c (.p 5 0),[(24,0,m.C),elR n x,elL n x,elC n x,elA (aL n n),elE 1 2 3 4 n n],[LF n x,CF n x],ElOk x n M (λ_=>[]) (λ_=>False)⟩):=by
 obtain⟨mr,mc,md⟩:=m
 obtain rfl:mr=(n:Nat):=h.r
 obtain rfl:mc=(n:Nat):=h.c
 have hl:md.l.length=n:=h.ln
 have mk1:n<=maxLen:=by simp only[maxLen];omega
 have nilc:fK (.v (.slice none 0 0))=true:=rfl
 refine nX gT bNh bNi rfl rfl rfl bL (λi T es l hi=>by cases hi) (aA gT mxd ?_)
 have fin1:∀(sl:List (Nat×DV)),wD (λ_=>true) [] [] [] sl->AllC sl [(3,.c (.p 5 0)),(1,.c (.p 0 0))]->Gt 0 ⟨sl,[],[(24,0,(⟨n,n,md⟩:MatM).C),(65,1,List.replicate n (.v (.slice none 0 0))),(65,1,List.replicate n (.v (.slice none 0 0))),(210,1,List.replicate n (.v (.map none))),(3,1,List.replicate n (iC 0)),elE 1 2 3 4 n n],[]⟩ (σ:=Unit) (λ_=>⟨[(3,.c (.p 5 0)),(1,.c (.p 0 0))]++[],[],[(24,0,(⟨n,n,md⟩:MatM).C),(65,1,List.replicate n (.v (.slice none 0 0))),(65,1,List.replicate n (.v (.slice none 0 0))),(210,1,List.replicate n (.v (.map none))),(3,1,List.replicate n (iC 0)),elE 1 2 3 4 n n],[]⟩) (λ_=>True):=λsl ht ha=>by
  refine @bH 0 _ (λ_=>true) [] (λt d ht=>by cases ht) Unit (λ_=>[(3,.c (.p 5 0)),(1,.c (.p 0 0))]) (λ_=>[(24,0,(⟨n,n,md⟩:MatM).C),(65,1,List.replicate n (.v (.slice none 0 0))),(65,1,List.replicate n (.v (.slice none 0 0))),(210,1,List.replicate n (.v (.map none))),(3,1,List.replicate n (iC 0)),elE 1 2 3 4 n n]) (λ_=>[]) _ () trivial ht ?_ trivial ha (aC _) ?_ rfl
  ·exact⟨rfl,rfl,rfl,rfl,rfl,rfl⟩
  exact aB rfl (aB (bU (qO rfl)) (aB (bU (qO rfl)) (aB (bU (qO rfl)) (aB (bU (qO rfl)) (aB rfl aY)))))
 refine⟨oSt,by kernel_rfl,Unit,λ_=>⟨[(3,.c (.p 5 0)),(1,.c (.p 0 0))]++[],[],[(24,0,(⟨n,n,md⟩:MatM).C),(65,1,List.replicate n (.v (.slice none 0 0))),(65,1,List.replicate n (.v (.slice none 0 0))),(210,1,List.replicate n (.v (.map none))),(3,1,List.replicate n (iC 0)),elE 1 2 3 4 n n],[]⟩,λ_=>True,?_,λ_ _=>?_⟩
 ·exact⟨⟨n,⟨rfl,rfl,by show 24*n<=_;omega,mk1⟩,rfl,⟨⟨n,⟨rfl,rfl,by show 24*n<=_;omega,mk1⟩,rfl,⟨⟨n,⟨rfl,rfl,by show 8*n<=_;omega,mk1⟩,rfl,⟨n,⟨rfl,rfl,by show 8*n<=_;omega,mk1⟩,rfl,fin1 _ (by rfl) (by exact⟨rfl,rfl⟩)⟩⟩,⟨n,⟨rfl,rfl,by show 8*n<=_;omega,mk1⟩,rfl,⟨n,⟨rfl,rfl,by show 8*n<=_;omega,mk1⟩,rfl,gsw 3 4 rfl rfl bL bL rfl ⟨_,rpm aO rfl,_,rpm aO rfl,_,rpm aO rfl,_,rpm aO rfl,bL,fin1 _ (by rfl) (by exact⟨rfl,rfl⟩)⟩⟩⟩⟩⟩,⟨n,⟨rfl,rfl,by show 8*n<=_;omega,mk1⟩,rfl,⟨⟨n,⟨rfl,rfl,by show 24*n<=_;omega,mk1⟩,rfl,⟨n,⟨rfl,rfl,by show 8*n<=_;omega,mk1⟩,rfl,gsw 2 3 rfl rfl bL bL rfl ⟨_,rpm aO rfl,_,rpm aO rfl,_,rpm aO rfl,_,rpm aO rfl,bL,fin1 _ (by rfl) (by exact⟨rfl,rfl⟩)⟩⟩⟩,⟨n,⟨rfl,rfl,by show 8*n<=_;omega,mk1⟩,rfl,⟨n,⟨rfl,rfl,by show 24*n<=_;omega,mk1⟩,rfl,gsw 2 4 rfl rfl bL bL rfl ⟨_,rpm aO rfl,_,rpm aO rfl,_,rpm aO rfl,_,rpm aO rfl,bL,gsw 3 4 rfl rfl bL bL rfl ⟨_,rpm aO rfl,_,rpm aO rfl,_,rpm aO rfl,_,rpm aO rfl,bL,fin1 _ (by rfl) (by exact⟨rfl,rfl⟩)⟩⟩⟩⟩⟩⟩,⟨n,⟨rfl,rfl,by show 8*n<=_;omega,mk1⟩,rfl,⟨⟨n,⟨rfl,rfl,by show 24*n<=_;omega,mk1⟩,rfl,⟨n,⟨rfl,rfl,by show 8*n<=_;omega,mk1⟩,rfl,gsw 2 3 rfl rfl bL bL rfl ⟨_,rpm aO rfl,_,rpm aO rfl,_,rpm aO rfl,_,rpm aO rfl,bL,gsw 3 4 rfl rfl bL bL rfl ⟨_,rpm aO rfl,_,rpm aO rfl,_,rpm aO rfl,_,rpm aO rfl,bL,fin1 _ (by rfl) (by exact⟨rfl,rfl⟩)⟩⟩⟩⟩,⟨n,⟨rfl,rfl,by show 8*n<=_;omega,mk1⟩,rfl,⟨n,⟨rfl,rfl,by show 24*n<=_;omega,mk1⟩,rfl,gsw 2 4 rfl rfl bL bL rfl ⟨_,rpm aO rfl,_,rpm aO rfl,_,rpm aO rfl,_,rpm aO rfl,bL,fin1 _ (by rfl) (by exact⟨rfl,rfl⟩)⟩⟩⟩⟩⟩⟩⟩,⟨n,⟨rfl,rfl,by show 24*n<=_;omega,mk1⟩,rfl,⟨⟨n,⟨rfl,rfl,by show 24*n<=_;omega,mk1⟩,rfl,⟨⟨n,⟨rfl,rfl,by show 8*n<=_;omega,mk1⟩,rfl,⟨n,⟨rfl,rfl,by show 8*n<=_;omega,mk1⟩,rfl,gsw 1 2 rfl rfl bL bL rfl ⟨_,rpm aO rfl,_,rpm aO rfl,_,rpm aO rfl,_,rpm aO rfl,bL,fin1 _ (by rfl) (by exact⟨rfl,rfl⟩)⟩⟩⟩,⟨n,⟨rfl,rfl,by show 8*n<=_;omega,mk1⟩,rfl,⟨n,⟨rfl,rfl,by show 8*n<=_;omega,mk1⟩,rfl,gsw 1 2 rfl rfl bL bL rfl ⟨_,rpm aO rfl,_,rpm aO rfl,_,rpm aO rfl,_,rpm aO rfl,bL,gsw 3 4 rfl rfl bL bL rfl ⟨_,rpm aO rfl,_,rpm aO rfl,_,rpm aO rfl,_,rpm aO rfl,bL,fin1 _ (by rfl) (by exact⟨rfl,rfl⟩)⟩⟩⟩⟩⟩⟩,⟨n,⟨rfl,rfl,by show 8*n<=_;omega,mk1⟩,rfl,⟨⟨n,⟨rfl,rfl,by show 24*n<=_;omega,mk1⟩,rfl,⟨n,⟨rfl,rfl,by show 8*n<=_;omega,mk1⟩,rfl,gsw 1 3 rfl rfl bL bL rfl ⟨_,rpm aO rfl,_,rpm aO rfl,_,rpm aO rfl,_,rpm aO rfl,bL,gsw 2 3 rfl rfl bL bL rfl ⟨_,rpm aO rfl,_,rpm aO rfl,_,rpm aO rfl,_,rpm aO rfl,bL,fin1 _ (by rfl) (by exact⟨rfl,rfl⟩)⟩⟩⟩⟩,⟨n,⟨rfl,rfl,by show 8*n<=_;omega,mk1⟩,rfl,⟨n,⟨rfl,rfl,by show 24*n<=_;omega,mk1⟩,rfl,gsw 1 4 rfl rfl bL bL rfl ⟨_,rpm aO rfl,_,rpm aO rfl,_,rpm aO rfl,_,rpm aO rfl,bL,gsw 2 4 rfl rfl bL bL rfl ⟨_,rpm aO rfl,_,rpm aO rfl,_,rpm aO rfl,_,rpm aO rfl,bL,gsw 3 4 rfl rfl bL bL rfl ⟨_,rpm aO rfl,_,rpm aO rfl,_,rpm aO rfl,_,rpm aO rfl,bL,fin1 _ (by rfl) (by exact⟨rfl,rfl⟩)⟩⟩⟩⟩⟩⟩⟩,⟨n,⟨rfl,rfl,by show 8*n<=_;omega,mk1⟩,rfl,⟨⟨n,⟨rfl,rfl,by show 24*n<=_;omega,mk1⟩,rfl,⟨n,⟨rfl,rfl,by show 8*n<=_;omega,mk1⟩,rfl,gsw 1 3 rfl rfl bL bL rfl ⟨_,rpm aO rfl,_,rpm aO rfl,_,rpm aO rfl,_,rpm aO rfl,bL,gsw 2 3 rfl rfl bL bL rfl ⟨_,rpm aO rfl,_,rpm aO rfl,_,rpm aO rfl,_,rpm aO rfl,bL,gsw 3 4 rfl rfl bL bL rfl ⟨_,rpm aO rfl,_,rpm aO rfl,_,rpm aO rfl,_,rpm aO rfl,bL,fin1 _ (by rfl) (by exact⟨rfl,rfl⟩)⟩⟩⟩⟩⟩,⟨n,⟨rfl,rfl,by show 8*n<=_;omega,mk1⟩,rfl,⟨n,⟨rfl,rfl,by show 24*n<=_;omega,mk1⟩,rfl,gsw 1 4 rfl rfl bL bL rfl ⟨_,rpm aO rfl,_,rpm aO rfl,_,rpm aO rfl,_,rpm aO rfl,bL,gsw 2 4 rfl rfl bL bL rfl ⟨_,rpm aO rfl,_,rpm aO rfl,_,rpm aO rfl,_,rpm aO rfl,bL,fin1 _ (by rfl) (by exact⟨rfl,rfl⟩)⟩⟩⟩⟩⟩⟩⟩⟩,⟨n,⟨rfl,rfl,by show 8*n<=_;omega,mk1⟩,rfl,⟨⟨n,⟨rfl,rfl,by show 24*n<=_;omega,mk1⟩,rfl,⟨⟨n,⟨rfl,rfl,by show 24*n<=_;omega,mk1⟩,rfl,⟨n,⟨rfl,rfl,by show 8*n<=_;omega,mk1⟩,rfl,gsw 1 2 rfl rfl bL bL rfl ⟨_,rpm aO rfl,_,rpm aO rfl,_,rpm aO rfl,_,rpm aO rfl,bL,gsw 2 3 rfl rfl bL bL rfl ⟨_,rpm aO rfl,_,rpm aO rfl,_,rpm aO rfl,_,rpm aO rfl,bL,fin1 _ (by rfl) (by exact⟨rfl,rfl⟩)⟩⟩⟩⟩,⟨n,⟨rfl,rfl,by show 8*n<=_;omega,mk1⟩,rfl,⟨n,⟨rfl,rfl,by show 24*n<=_;omega,mk1⟩,rfl,gsw 1 2 rfl rfl bL bL rfl ⟨_,rpm aO rfl,_,rpm aO rfl,_,rpm aO rfl,_,rpm aO rfl,bL,gsw 2 4 rfl rfl bL bL rfl ⟨_,rpm aO rfl,_,rpm aO rfl,_,rpm aO rfl,_,rpm aO rfl,bL,gsw 3 4 rfl rfl bL bL rfl ⟨_,rpm aO rfl,_,rpm aO rfl,_,rpm aO rfl,_,rpm aO rfl,bL,fin1 _ (by rfl) (by exact⟨rfl,rfl⟩)⟩⟩⟩⟩⟩⟩⟩,⟨n,⟨rfl,rfl,by show 24*n<=_;omega,mk1⟩,rfl,⟨⟨n,⟨rfl,rfl,by show 24*n<=_;omega,mk1⟩,rfl,⟨n,⟨rfl,rfl,by show 8*n<=_;omega,mk1⟩,rfl,gsw 1 3 rfl rfl bL bL rfl ⟨_,rpm aO rfl,_,rpm aO rfl,_,rpm aO rfl,_,rpm aO rfl,bL,fin1 _ (by rfl) (by exact⟨rfl,rfl⟩)⟩⟩⟩,⟨n,⟨rfl,rfl,by show 8*n<=_;omega,mk1⟩,rfl,⟨n,⟨rfl,rfl,by show 24*n<=_;omega,mk1⟩,rfl,gsw 1 4 rfl rfl bL bL rfl ⟨_,rpm aO rfl,_,rpm aO rfl,_,rpm aO rfl,_,rpm aO rfl,bL,gsw 3 4 rfl rfl bL bL rfl ⟨_,rpm aO rfl,_,rpm aO rfl,_,rpm aO rfl,_,rpm aO rfl,bL,fin1 _ (by rfl) (by exact⟨rfl,rfl⟩)⟩⟩⟩⟩⟩⟩,⟨n,⟨rfl,rfl,by show 8*n<=_;omega,mk1⟩,rfl,⟨⟨n,⟨rfl,rfl,by show 24*n<=_;omega,mk1⟩,rfl,⟨n,⟨rfl,rfl,by show 24*n<=_;omega,mk1⟩,rfl,gsw 1 3 rfl rfl bL bL rfl ⟨_,rpm aO rfl,_,rpm aO rfl,_,rpm aO rfl,_,rpm aO rfl,bL,gsw 2 4 rfl rfl bL bL rfl ⟨_,rpm aO rfl,_,rpm aO rfl,_,rpm aO rfl,_,rpm aO rfl,bL,fin1 _ (by rfl) (by exact⟨rfl,rfl⟩)⟩⟩⟩⟩,⟨n,⟨rfl,rfl,by show 24*n<=_;omega,mk1⟩,rfl,⟨n,⟨rfl,rfl,by show 24*n<=_;omega,mk1⟩,rfl,gsw 1 4 rfl rfl bL bL rfl ⟨_,rpm aO rfl,_,rpm aO rfl,_,rpm aO rfl,_,rpm aO rfl,bL,gsw 2 3 rfl rfl bL bL rfl ⟨_,rpm aO rfl,_,rpm aO rfl,_,rpm aO rfl,_,rpm aO rfl,bL,gsw 3 4 rfl rfl bL bL rfl ⟨_,rpm aO rfl,_,rpm aO rfl,_,rpm aO rfl,_,rpm aO rfl,bL,fin1 _ (by rfl) (by exact⟨rfl,rfl⟩)⟩⟩⟩⟩⟩⟩⟩⟩⟩,⟨n,⟨rfl,rfl,by show 8*n<=_;omega,mk1⟩,rfl,⟨⟨n,⟨rfl,rfl,by show 24*n<=_;omega,mk1⟩,rfl,⟨⟨n,⟨rfl,rfl,by show 24*n<=_;omega,mk1⟩,rfl,⟨n,⟨rfl,rfl,by show 8*n<=_;omega,mk1⟩,rfl,gsw 1 2 rfl rfl bL bL rfl ⟨_,rpm aO rfl,_,rpm aO rfl,_,rpm aO rfl,_,rpm aO rfl,bL,gsw 2 3 rfl rfl bL bL rfl ⟨_,rpm aO rfl,_,rpm aO rfl,_,rpm aO rfl,_,rpm aO rfl,bL,gsw 3 4 rfl rfl bL bL rfl ⟨_,rpm aO rfl,_,rpm aO rfl,_,rpm aO rfl,_,rpm aO rfl,bL,fin1 _ (by rfl) (by exact⟨rfl,rfl⟩)⟩⟩⟩⟩⟩,⟨n,⟨rfl,rfl,by show 8*n<=_;omega,mk1⟩,rfl,⟨n,⟨rfl,rfl,by show 24*n<=_;omega,mk1⟩,rfl,gsw 1 2 rfl rfl bL bL rfl ⟨_,rpm aO rfl,_,rpm aO rfl,_,rpm aO rfl,_,rpm aO rfl,bL,gsw 2 4 rfl rfl bL bL rfl ⟨_,rpm aO rfl,_,rpm aO rfl,_,rpm aO rfl,_,rpm aO rfl,bL,fin1 _ (by rfl) (by exact⟨rfl,rfl⟩)⟩⟩⟩⟩⟩⟩,⟨n,⟨rfl,rfl,by show 24*n<=_;omega,mk1⟩,rfl,⟨⟨n,⟨rfl,rfl,by show 24*n<=_;omega,mk1⟩,rfl,⟨n,⟨rfl,rfl,by show 8*n<=_;omega,mk1⟩,rfl,gsw 1 3 rfl rfl bL bL rfl ⟨_,rpm aO rfl,_,rpm aO rfl,_,rpm aO rfl,_,rpm aO rfl,bL,gsw 3 4 rfl rfl bL bL rfl ⟨_,rpm aO rfl,_,rpm aO rfl,_,rpm aO rfl,_,rpm aO rfl,bL,fin1 _ (by rfl) (by exact⟨rfl,rfl⟩)⟩⟩⟩⟩,⟨n,⟨rfl,rfl,by show 8*n<=_;omega,mk1⟩,rfl,⟨n,⟨rfl,rfl,by show 24*n<=_;omega,mk1⟩,rfl,gsw 1 4 rfl rfl bL bL rfl ⟨_,rpm aO rfl,_,rpm aO rfl,_,rpm aO rfl,_,rpm aO rfl,bL,fin1 _ (by rfl) (by exact⟨rfl,rfl⟩)⟩⟩⟩⟩⟩,⟨n,⟨rfl,rfl,by show 8*n<=_;omega,mk1⟩,rfl,⟨⟨n,⟨rfl,rfl,by show 24*n<=_;omega,mk1⟩,rfl,⟨n,⟨rfl,rfl,by show 24*n<=_;omega,mk1⟩,rfl,gsw 1 3 rfl rfl bL bL rfl ⟨_,rpm aO rfl,_,rpm aO rfl,_,rpm aO rfl,_,rpm aO rfl,bL,gsw 2 4 rfl rfl bL bL rfl ⟨_,rpm aO rfl,_,rpm aO rfl,_,rpm aO rfl,_,rpm aO rfl,bL,gsw 3 4 rfl rfl bL bL rfl ⟨_,rpm aO rfl,_,rpm aO rfl,_,rpm aO rfl,_,rpm aO rfl,bL,fin1 _ (by rfl) (by exact⟨rfl,rfl⟩)⟩⟩⟩⟩⟩,⟨n,⟨rfl,rfl,by show 24*n<=_;omega,mk1⟩,rfl,⟨n,⟨rfl,rfl,by show 24*n<=_;omega,mk1⟩,rfl,gsw 1 4 rfl rfl bL bL rfl ⟨_,rpm aO rfl,_,rpm aO rfl,_,rpm aO rfl,_,rpm aO rfl,bL,gsw 2 3 rfl rfl bL bL rfl ⟨_,rpm aO rfl,_,rpm aO rfl,_,rpm aO rfl,_,rpm aO rfl,bL,fin1 _ (by rfl) (by exact⟨rfl,rfl⟩)⟩⟩⟩⟩⟩⟩⟩⟩⟩
 show Sd _ _ _ _ _ _
 refine gH tSd 1 (dI n λ_=>cF cP) rfl (by rw[dB,cJ]) (tR λ_ _=>qG) ?_
 refine gH tSd 2 (dI n (hdP (λ_=>none) (λ_=>0) λ_=>[])) rfl (by rw[dB,cJ]) (tR λ_ _=>LeC.nilh) ?_
 refine gH tSd 3 (dI n (mpC λ_=>none)) rfl (by rw[dB,cJ]) (tR λ_ _=>fC _) ?_
 refine gH tSd 4 ((aL n 0).map iC) rfl (by rw[aFa,dB,cJ]) (by rw[aFa];exact tR λ_ _=>fC _) ?_
 refine aXs tSd 82 4 n bL (aXs tSd 1000000 1 n bL ?_)
 refine cG (λ_=>true) (λg:Nat×(Nat->Option Nat)=>st1 n g.1) (λg=>stB ⟨n,n,md⟩ n (stX (λ_=>cP) g.2 (λ_=>0) λ_=>[]) (aL n g.1)) (λg=>[LF n (stX (λ_=>cP) g.2 (λ_=>0) λ_=>[]),CF n (stX (λ_=>cP) g.2 (λ_=>0) λ_=>[])]) (λg=>g.1<=n/\(∀i,i<g.1->∃b,g.2 i=some b)/\∀i,g.1<=i->g.2 i=none) (λg=>n-g.1) λhM=>⟨bH hM (chg:=λg:Nat×(Nat->Option Nat)=>st1 n g.1) (bls:=λg=>stB ⟨n,n,md⟩ n (stX (λ_=>cP) g.2 (λ_=>0) λ_=>[]) (aL n g.1)) (fls:=λg=>[LF n (stX (λ_=>cP) g.2 (λ_=>0) λ_=>[]),CF n (stX (λ_=>cP) g.2 (λ_=>0) λ_=>[])]) (0,λ_=>none) ⟨aC _,λi hi=>absurd hi (aF _),λ_ _=>rfl⟩ rfl ⟨rfl,rfl,rfl,rfl,rfl,rfl⟩ ⟨rfl,rfl,trivial⟩ ⟨rfl,rfl,rfl,rfl⟩ bL zB rfl,λ⟨j,CA⟩ ⟨hj,hA,hN⟩=>aA gT mxd ⟨λh2=>aA gT mxd ?_,λh2=>aA gT mxd ?_⟩⟩
 all_goals
  replace hj:j<=n:=hj
  replace hA:∀i,i<j->∃b,CA i=some b:=hA
  replace hN:∀i,j<=i->CA i=none:=hN
 ·have hjn:j<n:=by replace h2:(j:Int)<(n:Nat):=h2;omega
  refine λb=>⟨j,⟨rfl,hjn,cQ hjn⟩,_,gU (c:=.v (.map (some b))) (Q:=mpC (upd CA j (some b))) hjn λi _=>?_,?_⟩
  ·by_cases e:i=j
   ·subst e;rw[if_pos rfl];show _=CV.v (.map _);rw[bJ]
   rw[if_neg e];show _=CV.v (.map _);rw[bD e]
  refine⟨j,⟨rfl,hjn,cJo hjn⟩,_,bZb hjn,(j+1:Nat),wi,bUk tGt 1 2 j rfl rfl rfl hjn (hN j (aI _)) bL rfl rfl (bH hM (chg:=λg:Nat×(Nat->Option Nat)=>st1 n g.1) (bls:=λg=>stB ⟨n,n,md⟩ n (stX (λ_=>cP) g.2 (λ_=>0) λ_=>[]) (aL n g.1)) (fls:=λg=>[LF n (stX (λ_=>cP) g.2 (λ_=>0) λ_=>[]),CF n (stX (λ_=>cP) g.2 (λ_=>0) λ_=>[])]) (j+1,upd CA j (some b)) ⟨⟨hjn,λi hi=>?_,λi hi=>?_⟩,show n-(j+1)<n-j by omega⟩ rfl ⟨rfl,rfl,rfl,rfl,rfl,rfl⟩ ⟨rfl,?_,trivial⟩ ⟨rfl,rfl,rfl,rfl⟩ bL zB rfl)⟩
  ·show ∃b',upd CA j (some b) i=some b'
   by_cases e:i=j
   ·subst e;exact⟨b,bJ⟩
   rw[bD e];exact hA i (by have:i<j+1:=hi;omega)
  ·show upd CA j (some b) i=none
   have hi':j+1<=i:=hi
   rw[bD oM];exact hN i oM
  show(⟨1000000,1,n,upd CA j (some b),upd (λ_=>0) j 0,upd (λ_=>[]) j []⟩:Fam)=_
  rw[bFw (f:=λ_=>(0:Nat)) rfl,bFw (f:=λ_=>([]:List CV)) rfl]
 replace h2:¬(j:Int)<(n:Nat):=h2
 obtain rfl:j=n:=by omega
 refine aA gT mxd ?_
 show Sd _ _ _ _ _ _
 refine cG (λ_=>true) (λg:Nat×(Nat->Sl EntM)×(Nat->Nat)×(Nat->List CV)=>st2 ⟨j,j,md⟩ g.1) (λg=>stB ⟨j,j,md⟩ j (stX g.2.1 CA g.2.2.1 g.2.2.2) (aL j j)) (λg=>[LF j (stX g.2.1 CA g.2.2.1 g.2.2.2),CF j (stX g.2.1 CA g.2.2.1 g.2.2.2)]) (λg=>g.1<=j/\(∀i,i<g.1->Ek (g.2.1 i).l (M i))/\KI M j g.1 0 g.2.2.2) (λg=>j-g.1) λhM2=>⟨bH hM2 (chg:=λg:Nat×(Nat->Sl EntM)×(Nat->Nat)×(Nat->List CV)=>st2 ⟨j,j,md⟩ g.1) (bls:=λg=>stB ⟨j,j,md⟩ j (stX g.2.1 CA g.2.2.1 g.2.2.2) (aL j j)) (fls:=λg=>[LF j (stX g.2.1 CA g.2.2.1 g.2.2.2),CF j (stX g.2.1 CA g.2.2.1 g.2.2.2)]) (0,λ_=>cP,λ_=>0,λ_=>[]) ⟨aC _,λi hi=>absurd hi (aF _),λi hi=>⟨sM,λr=>⟨λhr=>absurd hr dZ,λhr=>by
  rcases hr with ⟨hr,_⟩|⟨_,e,he,_⟩
  ·exact absurd hr (aF _)
  cases he⟩⟩⟩ rfl ⟨rfl,rfl,rfl,rfl,rfl,rfl⟩ ⟨rfl,rfl,trivial⟩ ⟨rfl,rfl,rfl,rfl,rfl⟩ bL zB rfl,λ⟨i,R,Cc,I⟩ ⟨hi,hR,hI⟩=>aA gT mxd ⟨λh3=>aA gT mxd ?_,λh3=>aA gT mxd ?_⟩⟩
 all_goals
  replace hi:i<=j:=hi
  replace hR:∀k,k<i->Ek (R k).l (M k):=hR
  replace hI:KI M j i 0 I:=hI
 ·replace h3:(i:Int)<(md.l.length:Nat):=h3
  have hin:i<j:=by omega
  have hes:=h.row i hin
  have hok:=h.ok i hin
  have hle:(md.l.getD i cP).l.length=(M i).length:=hes.ln
  refine⟨i,⟨rfl,show i<md.l.length by omega⟩,cJp,by kernel_rfl,[],bMw (md.l.getD i cP) hes (hb i hin) h1 hB hok.1.1 (λe he=>(hok.1.2 e he).2.2) oM,rfl,rfl,rfl,λg hg=>⟨rfl,i,⟨rfl,hin,cQ hin⟩,_,gU (c:=cF g) (Q:=λk=>cF (upd R i g k)) hin (λk _=>?_),?_⟩⟩
  ·by_cases e:k=i
   ·subst e;rw[if_pos rfl,bJ]
   rw[if_neg e,bD e]
  show Sd _ _ _ _ _ _
  refine cG (λ_=>true) (λg':Nat×(Nat->Nat)×(Nat->List CV)=>st3 ⟨j,j,md⟩ i g'.1) (λg'=>stB ⟨j,j,md⟩ j (stX (upd R i g) CA g'.2.1 g'.2.2) (aL j j)) (λg'=>[LF j (stX (upd R i g) CA g'.2.1 g'.2.2),CF j (stX (upd R i g) CA g'.2.1 g'.2.2)]) (λg'=>g'.1<=(M i).length/\KI M j i g'.1 g'.2.2) (λg'=>(M i).length-g'.1) λhM3=>⟨bH hM3 (chg:=λg':Nat×(Nat->Nat)×(Nat->List CV)=>st3 ⟨j,j,md⟩ i g'.1) (bls:=λg'=>stB ⟨j,j,md⟩ j (stX (upd R i g) CA g'.2.1 g'.2.2) (aL j j)) (fls:=λg'=>[LF j (stX (upd R i g) CA g'.2.1 g'.2.2),CF j (stX (upd R i g) CA g'.2.1 g'.2.2)]) (0,Cc,I) ⟨aC _,hI⟩ rfl ⟨rfl,rfl,rfl,rfl,rfl,rfl⟩ ⟨rfl,rfl,trivial⟩ ⟨rfl,rfl,rfl,rfl,rfl,rfl,rfl,rfl,rfl⟩ bL zB rfl,λ⟨k,Cc,I⟩ ⟨hk,hI⟩=>aA gT mxd ⟨λh4=>aA gT mxd ?_,λh4=>aA gT mxd ?_⟩⟩
  all_goals
   replace hk:k<=(M i).length:=hk
   replace hI:KI M j i k I:=hI
  ·replace h4:(k:Int)<((md.l.getD i cP).l.length:Nat):=h4
   have hkl:k<(M i).length:=by omega
   have he:=hes.e k hkl
   have e0:=hok.1.2 _ (fO hkl)
   obtain⟨j0,hj0⟩:∃j0:Nat,((M i).getD k default).1=(j0:Nat):=⟨((M i).getD k default).1.toNat,by omega⟩
   have hjn:j0<j:=by omega
   have hix:((md.l.getD i cP).l.getD k default).ix=(j0:Nat):=he.1.trans hj0
   obtain⟨b,hbj⟩:=hA j0 hjn
   have hcell:(dI j (mpC CA))[j0*1]? =some (.v (.map (some b))):=by rw[eB hjn];exact congrArg (λo=>some (CV.v (.map o))) hbj
   refine⟨k,⟨rfl,show k<(md.l.getD i cP).l.length by omega⟩,cJq,by kernel_rfl,j0,⟨hix,hjn,cQ hjn⟩,_,_,⟨hcell,rfl⟩,1,j0,i,⟨hjn,hbj,rfl⟩,(k+1:Nat),wi,?_⟩
   exact bH hM3 (chg:=λg':Nat×(Nat->Nat)×(Nat->List CV)=>st3 ⟨j,j,md⟩ i g'.1) (bls:=λg'=>stB ⟨j,j,md⟩ j (stX (upd R i g) CA g'.2.1 g'.2.2) (aL j j)) (fls:=λg'=>[LF j (stX (upd R i g) CA g'.2.1 g'.2.2),CF j (stX (upd R i g) CA g'.2.1 g'.2.2)]) (k+1,upd Cc j0 (wT (I j0) (Cc j0) i).2,upd I j0 (wT (I j0) (Cc j0) i).1) ⟨⟨hkl,hI.next hkl hj0⟩,show(M i).length-(k+1)<(M i).length-k by omega⟩ rfl ⟨rfl,rfl,rfl,rfl,rfl,rfl⟩ ⟨rfl,rfl,trivial⟩ ⟨rfl,rfl,rfl,rfl,rfl,rfl,rfl,rfl,rfl⟩ bL zB rfl
  replace h4:¬(k:Int)<((md.l.getD i cP).l.length:Nat):=h4
  obtain rfl:k=(M i).length:=by omega
  refine⟨(i+1:Nat),wi,bH hM2 (chg:=λg:Nat×(Nat->Sl EntM)×(Nat->Nat)×(Nat->List CV)=>st2 ⟨j,j,md⟩ g.1) (bls:=λg=>stB ⟨j,j,md⟩ j (stX g.2.1 CA g.2.2.1 g.2.2.2) (aL j j)) (fls:=λg=>[LF j (stX g.2.1 CA g.2.2.1 g.2.2.2),CF j (stX g.2.1 CA g.2.2.1 g.2.2.2)]) (i+1,upd R i g,Cc,I) ⟨⟨hin,λk' hk'=>?_,hI.row hok.1⟩,show j-(i+1)<j-i by omega⟩ rfl ⟨rfl,rfl,rfl,rfl,rfl,rfl⟩ ⟨rfl,rfl,trivial⟩ ⟨rfl,rfl,rfl,rfl,rfl⟩ bL zB rfl⟩
  show Ek (upd R i g k').l (M k')
  by_cases e:k'=i
  ·subst e;rw[bJ];exact hg
  rw[bD e];exact hR k' (by have:k'<i+1:=hk';omega)
 replace h3:¬(i:Int)<(md.l.length:Nat):=h3
 obtain rfl:i=j:=by omega
 refine aA gT mxd ?_
 exact⟨stX R CA Cc I,⟨hR,h.ok,λ_ _=>⟨rfl,λk hk=>absurd hk (aF _)⟩,hA,λc hc=>(hI c hc).1,λc hc r=>by
  rw[(hI c hc).2 r]
  refine⟨λhr=>?_,λ⟨⟨a,_⟩,b⟩=> .inl ⟨a,b⟩⟩
  rcases hr with ⟨a,b⟩|⟨_,e,he,_⟩
  ·exact⟨⟨a,id⟩,b⟩
  cases he⟩,kG rfl ⟨rfl,rfl,rfl,rfl,rfl,rfl⟩ ⟨rfl,rfl,trivial⟩ bL zB rfl bZc⟩
theorem cJr {P:Program} {nb N:Nat} {c:Code} {K:Kt} {s:SS} (id:Nat) {σ:Type} (S:σ->SS) (C:σ->Prop) (h:Sd P nb N c ⟨K.nrm,λj s'=>bif Nat.beq j id then Gt nb s' S C else K.ext j s',K.ret⟩ s) (hr:∀g,C g->K.ext id (S g)):Sd P nb N c K s:=λρ0 w0 ρ f w Q hL hD=>by
 refine h ρ0 w0 ρ f w Q ⟨hL.nrm,λj s' ρ' f' w' hh hD'=>?_,hL.ret⟩ hD
 cases hb:Nat.beq j id with
 |false=>simp only[hb,cond_false] at hh;exact hL.ext j s' ρ' f' w' hh hD'
 |true=>
  simp only[hb,cond_true] at hh
  obtain⟨g,ρ2,h1,h2⟩:=hh ρ0 w0 ρ' f' w' hD'
  have e:=aK hb
  subst e
  exact hL.ext j _ ρ2 f' w' (hr g h1) h2
theorem bFx {A:List Int} {k:Nat} (h:k<A.length):(A.map iC)[k*1]? =some (iC (A.getD k 0)):=by rw[bI,dW,aG h,gd h];rfl
theorem bFy {A:List Int} {k:Nat} (h:k<A.length):k*1<(A.map iC).length:=by simpa using h
theorem aAq {n c b:Nat} {CA:Nat->Option Nat} (hc:c<n) (hb:CA c=some b):(dI n (mpC CA))[c*1]? =some (.v (.map (some b))):=by rw[eB hc];exact congrArg (λo=>some (CV.v (.map o))) hb
abbrev cnB (n a:Nat) (x:El) (A:List Int):BL:=[(155,0,[.p 1 0]),elE 2 3 4 5 n a,elR n x,elL n x,elC n x,elA A]
theorem bZd {n a:Nat} {x:El} {A:List Int}:scB 6 (cnB n a x A):=aB rfl (aB rfl (aB (bU (aX λ_ _=>rfl)) (aB (bU (aX λ_ _=>rfl)) (aB (bU (aX λ_ _=>rfl)) (aB (bU (bK _)) aY)))))
abbrev cnL:List Bool:=[false,false,true,true,true,true]
theorem bFz {n a:Nat} {x:El} {A:List Int}:ClB cnL (cnB n a x A):=fT (λh=>by cases h) (fT (λh=>by cases h) (fT (λ_=>aX λ_ _=>rfl) (fT (λ_=>aX λ_ _=>rfl) (fT (λ_=>aX λ_ _=>rfl) (fT (λ_=>bK _) aCl)))))
abbrev aDd:FuncId:=177
theorem bNk:Ent Tryz.prog aDd:=aU func177 rfl kR
theorem bNl:Tryz.prog.funcs[aDd]? =some Tryz.f177:=func177
theorem aDe (x:El) {n c b k:Nat} {A:List Int} (hk:k<A.length) (hA:A.getD k 0=(c:Nat)) (hc:c<n) (hb:x.CA c=some b):CtrF Tryz.prog aDd cnL [.c (iC k),.c (.p 0 0)] (cnB n A.length x A) [CF n x] (λ_:Unit=>⟨.c (iC (x.I c).length),cnB n A.length x A,[CF n x],True⟩):=by
 refine nX gT bNk bNl rfl rfl rfl bL bFz (aA gT mxd ?_)
 refine⟨.seq (sq 99 (List.range 15)),by kernel_rfl,k,⟨rfl,hk,bFy hk⟩,_,bFx hk,c,⟨hA,hc,cQ hc⟩,_,aAq hc hb,0,c,⟨hc,hb⟩,(),trivial,kG rfl ⟨rfl,rfl,rfl,rfl,rfl,rfl⟩ ⟨rfl,trivial⟩ bL bZd rfl bFz⟩
abbrev chB (n a:Nat) (x:El) (A:List Int):BL:=[elE 1 2 3 4 n a,elR n x,elL n x,elC n x,elA A]
abbrev aCn (n a:Nat) (x:El) (A:List Int):BL:=[elE 1 2 3 4 n a,elR n x,elL n x,elC n x,elA A,(155,0,[.p 0 0])]
abbrev chL:List Bool:=[false,true,true,true,true]
theorem aFb {n a:Nat} {x:El} {A:List Int}:ClB chL (chB n a x A):=fT (λh=>by cases h) (fT (λ_=>aX λ_ _=>rfl) (fT (λ_=>aX λ_ _=>rfl) (fT (λ_=>aX λ_ _=>rfl) (fT (λ_=>bK _) aCl))))
theorem aRg {n a:Nat} {x:El} {A:List Int}:scB 5 (chB n a x A):=aB rfl (aB (bU (aX λ_ _=>rfl)) (aB (bU (aX λ_ _=>rfl)) (aB (bU (aX λ_ _=>rfl)) (aB (bU (bK _)) aY))))
theorem vN {n a:Nat} {x:El} {A:List Int}:scB 6 (aCn n a x A):=aB rfl (aB (bU (aX λ_ _=>rfl)) (aB (bU (aX λ_ _=>rfl)) (aB (bU (aX λ_ _=>rfl)) (aB (bU (bK _)) (aB rfl aY)))))
abbrev aAr:FuncId:=114
theorem bGa:Ent Tryz.prog aAr:=aU func114 rfl kR
theorem bGb:Tryz.prog.funcs[aAr]? =some Tryz.f114:=func114
abbrev aRh (best:Nat):List (Nat×DV):=[(5,.c (iC best)),(6,.c (.f aDd [] [(5,0)])),(1,.c (.p 5 0))]
abbrev bNm (r0:Nat) (c:Nat) (ro:Int):List (Nat×DV):=[(2,.c (iC ro)),(66,.c (.hp r0 0)),(1,.c (.p 5 0)),(3,.c (iC c))]
abbrev itF (r0:Nat) (G:Nat->List CV):Fam:=⟨1000001,1,1,λ_=>some r0,λ_=>0,G⟩
def cJs:Ord:=.treeX [] [0,1,2002,2003,4,2005,2006,7,2008,2009,10,2011,2012,2013] (trS [14,2015,2016,1017])
theorem bZe {A:List Int} {p:Nat} (h:p<A.length):(A.map iC).take (p*1)++(A.map iC).drop ((p+1)*1)=(A.eraseIdx p).map iC:=by
 rw[bI,bI,pJ,bG,tX,pX]
def chR (n:Nat) (x:El) (A:List Int):Option (Nat×Nat×Nat)->OutF
 |none=>⟨.t [.c (iC 0),.c (iC 0),.c (.v (.bool false))],chB n A.length x A,[CF n x],∃c:Nat,c<n/\(c:Int)∈A/\x.I c=[]⟩
 |some (r,c,p)=>⟨.t [.c (iC r),.c (iC c),.c (.v (.bool true))],chB n (A.length-1) x (A.eraseIdx p),[CF n x],(p<A.length/\A.getD p 0=(c:Nat))/\c<n/\r∈kI (x.I c)⟩
theorem bGc (x:El) {n:Nat} {A:List Int} {es lw:Nat->List En} {used:Nat->Prop} (h:ElOk x n es lw used) (h0:0<A.length) (hl:A.length<=4096) (hA:∀a∈A,0<=a/\a<(n:Nat)):CtrF Tryz.prog aAr chL [.c (.p 0 0)] (chB n A.length x A) [CF n x] (chR n x A):=by
 have hin:∀k,k<A.length->∃c,A.getD k 0=(c:Nat)/\c<n/\∃b,x.CA c=some b:=λk hk=>by
  have hm:A.getD k 0∈A:=by rw[gd hk];exact jK hk
  have h2:=hA _ hm
  obtain⟨c,hc⟩:∃c:Nat,A.getD k 0=(c:Nat):=⟨(A.getD k 0).toNat,by omega⟩
  have hcn:c<n:=by omega
  exact⟨c,hc,hcn,h.ca c hcn⟩
 refine nX gT bGa bGb rfl rfl rfl bL aFb (aA gT mxd ?_)
 show Sd _ _ _ _ _ _
 refine cJr 0 (σ:=Nat) (λbest=>⟨aRh best++[],[],aCn n A.length x A,[CF n x]⟩) (λbest=>best<A.length) ?_ (λbest hb=>?_)
 ·refine cG (λ_=>true) (λg:Nat×Nat=>(15,.c (iC g.1))::(14,.c (iC (A.length:Nat)))::aRh g.2) (λ_=>aCn n A.length x A) (λ_=>[CF n x]) (λg=>g.1<=A.length/\g.2<A.length) (λg=>A.length-g.1) λhM=>⟨bH hM (chg:=λg:Nat×Nat=>(15,.c (iC g.1))::(14,.c (iC (A.length:Nat)))::aRh g.2) (bls:=λ_=>aCn n A.length x A) (fls:=λ_=>[CF n x]) (0,0) ⟨aC _,h0⟩ rfl ⟨rfl,rfl,rfl,rfl,rfl,rfl⟩ ⟨rfl,trivial⟩ ⟨rfl,rfl,rfl,rfl,rfl⟩ bL vN rfl,λ⟨k,best⟩ ⟨hk,hb⟩=>aA gT mxd ⟨λh2=>aA gT mxd ?_,λh2=>aA gT mxd ?_⟩⟩
  all_goals
   replace hk:k<=A.length:=hk
   replace hb:best<A.length:=hb
  ·have hkl:k<A.length:=by replace h2:(k:Int)<(A.length:Nat):=h2;omega
   obtain⟨c,c1,c2,b,c3⟩:=hin k hkl
   obtain⟨d,d1,d2,e,d3⟩:=hin best hb
   refine⟨_,rfl,[5,0,1,2,3,4,1000],aDe x hkl c1 c2 c3,rfl,rfl,rfl,λ_ _=>⟨_,rfl,[5,0,1,2,3,4,1000],aDe x hb d1 d2 d3,rfl,rfl,rfl,λ_ _=>?_⟩⟩
   refine vjn (λ_=>true) (λb':Nat=>(15,.c (iC k))::(14,.c (iC (A.length:Nat)))::aRh b') (λ_=>aCn n A.length x A) (λb'=>b'<A.length) ?_
   refine⟨⟨λh3=>aA gT mxd ⟨k,hkl,rfl,rfl,rfl,rfl,rfl,rfl,rfl⟩,λh3=>aA gT mxd ⟨best,hb,rfl,rfl,rfl,rfl,rfl,rfl,rfl⟩⟩,λb' hb'=>?_⟩
   obtain⟨f,f1,f2,g,f3⟩:=hin b' hb'
   refine⟨_,rfl,[5,0,1,2,3,4,1000],aDe x hb' f1 f2 f3,rfl,rfl,rfl,λ_ _=>⟨λh4=>aA gT mxd ?_,λh4=>aA gT mxd ⟨(k+1:Nat),wi,?_⟩⟩⟩
   ·show Gt _ _ _ _
    exact bH (M:=λ_=>true) (base:=[]) (λt d ht=>by cases ht) (chg:=aRh) (bls:=λ_=>aCn n A.length x A) (fls:=λ_=>[CF n x]) b' hb' rfl ⟨rfl,rfl,rfl,rfl,rfl,rfl⟩ ⟨rfl,trivial⟩ ⟨rfl,rfl,rfl⟩ bL vN rfl
   exact bH hM (chg:=λg:Nat×Nat=>(15,.c (iC g.1))::(14,.c (iC (A.length:Nat)))::aRh g.2) (bls:=λ_=>aCn n A.length x A) (fls:=λ_=>[CF n x]) (k+1,b') ⟨⟨hkl,hb'⟩,show A.length-(k+1)<A.length-k by omega⟩ rfl ⟨rfl,rfl,rfl,rfl,rfl,rfl⟩ ⟨rfl,trivial⟩ ⟨rfl,rfl,rfl,rfl,rfl⟩ bL vN rfl
  show Gt _ _ _ _
  exact bH (M:=λ_=>true) (base:=[]) (λt d ht=>by cases ht) (chg:=aRh) (bls:=λ_=>aCn n A.length x A) (fls:=λ_=>[CF n x]) best hb rfl ⟨rfl,rfl,rfl,rfl,rfl,rfl⟩ ⟨rfl,trivial⟩ ⟨rfl,rfl,rfl⟩ bL vN rfl
 replace hb:best<A.length:=hb
 obtain⟨c,c1,c2,b,c3⟩:=hin best hb
 refine aA gT mxd ⟨_,rfl,[5,0,1,2,3,4,1000],aDe x hb c1 c2 c3,rfl,rfl,rfl,λ_ _=>⟨λh5=>aA gT mxd ⟨none,⟨c,c2,by rw[<-c1,gd hb];exact jK hb,mA.1 (by replace h5:((x.I c).length:Int)=0:=h5;omega)⟩,kG ⟨rfl,rfl,rfl⟩ ⟨rfl,rfl,rfl,rfl,rfl⟩ ⟨rfl,trivial⟩ bL aRg rfl aFb⟩,λh5=>aA gT mxd ?_⟩⟩
 replace h5:¬((x.I c).length:Int)=0:=h5
 have w1:best*1<=(A.map iC).length:=by rw[aN];omega
 have w2:A.length*1<=(A.map iC).length:=by rw[aN];omega
 have w3:(best+1)*1+(A.length-(best+1))*1=(A.map iC).length:=by rw[aN];omega
 have w4:best*1+(A.length-(best+1))*1<=(A.map iC).length:=by rw[aN];omega
 have w5:0<(A.map iC).length:=by rw[aN];omega
 refine⟨best,⟨rfl,hb,bFy hb⟩,_,(bFx hb).trans (congrArg (λz=>some (iC z)) c1),?_⟩
 refine⟨cJs,by kernel_rfl,best,⟨rfl,w1⟩,(best+1:Nat),wi,best+1,⟨rfl,hb,w2⟩,?_⟩
 refine⟨⟨w3,w4,w5⟩,rfl,?_⟩
 refine⟨c,⟨rfl,c2,cQ c2⟩,_,aAq c2 c3,0,c,⟨c2,c3⟩,λr0=>?_⟩
 show Sd _ _ _ _ _ _
 have hne:x.I c≠[]:=λhe=>h5 (by rw[he];rfl)
 have ha1:best+(A.length-(best+1))=A.length-1:=by omega
 have kin:∀k∈x.I c,nR k<n:=λk hk=>((h.mem c c2 (nR k)).1 (cC.2 ⟨k,hk,rfl⟩)).1.1
 refine cG (λ_=>true) (λg:Int×(Nat->List CV)×Nat×(Nat->List CV)=>bNm r0 c g.1) (λ_=>aCn n (A.length-1) x (A.eraseIdx best)) (λg=>[CF n x,itF r0 g.2.2.2]) (λg=>(g.2.1 1=x.I c/\g.2.2.1<=x.Cc c/\g.2.2.2 0=[.r none 0 b g.2.2.1 g.2.1]/\∀k∈g.2.1 0,k∈x.I c)/\(0<=g.1->∃r:Nat,g.1=(r:Nat)/\r∈kI (x.I c))/\(0<=g.1\/g.2.1 0=x.I c)) (λg=>(g.2.1 0).length) λhM2=>⟨bH hM2 (chg:=λg:Int×(Nat->List CV)×Nat×(Nat->List CV)=>bNm r0 c g.1) (bls:=λ_=>aCn n (A.length-1) x (A.eraseIdx best)) (fls:=λg=>[CF n x,itF r0 g.2.2.2]) (-1,aPj (x.I c),x.Cc c,λ_=>[.r none 0 b (x.Cc c) (aPj (x.I c))]) ⟨⟨rfl,aI _,rfl,λk hk=>hk⟩,λhh=>absurd (show(0:Int)<=-1 from hh) dC,.inr rfl⟩ rfl ⟨congrArg (λk=>elE 1 2 3 4 n k) ha1,rfl,rfl,rfl,congrArg (λl:List CV=>((3,1,l):TypeId×Nat×List CV)) (bZe hb),rfl⟩ ⟨rfl,rfl,trivial⟩ ⟨rfl,rfl,rfl,rfl⟩ bL vN rfl,λ⟨ro,gg,st,G⟩ ⟨⟨i1,i2,iG,i3⟩,hro,hex⟩=>aA gT mxd ⟨1,0,c,b,st,gg,⟨bL,rfl,iG,c2,c3,i1,i2⟩,λh6=>?_,λp k q h6=>?_⟩⟩
 all_goals
  replace i1:gg 1=x.I c:=i1
  replace i2:st<=x.Cc c:=i2
  replace iG:G 0=[.r none 0 b st gg]:=iG
  replace i3:∀k∈gg 0,k∈x.I c:=i3
  replace hro:0<=ro->∃r:Nat,ro=(r:Nat)/\r∈kI (x.I c):=hro
  replace hex:0<=ro\/gg 0=x.I c:=hex
 ·have h7:0<=ro:=hex.resolve_right λhe=>hne (he.symm.trans h6)
  obtain⟨r,rfl,hr⟩:=hro h7
  exact aA gT mxd ⟨some (r,c,best),⟨⟨hb,c1⟩,c2,hr⟩,kG ⟨rfl,rfl,rfl⟩ ⟨rfl,rfl,rfl,rfl,rfl⟩ ⟨rfl,trivial⟩ bL aRg rfl aFb⟩
 have hk:k∈x.I c:=i3 k (by rw[h6];exact dS _ (.head _))
 have hkn:=kin k hk
 have hmea:(p++q).length<(gg 0).length:=by rw[h6];simp
 have hsub:∀k'∈p++q,k'∈x.I c:=λk' hk'=>i3 k' (by
  rw[h6]
  rcases aQ.1 hk' with hh|hh
  ·exact dK _ hh
  exact dS _ (.tail _ hh))
 have hrr:¬ro<0->ro=(ro.toNat:Nat)/\ro.toNat<n:=λhn=>by
  obtain⟨r,rfl,hr⟩:=hro oM
  refine⟨rfl,?_⟩
  obtain⟨k',hk',rfl⟩:=cC.1 hr
  exact kin k' hk'
 have hG':upd G 0 [CV.r none 0 b (x.Cc c) (zZ p q (x.I c) k)] 0=[CV.r none 0 b (x.Cc c) (zZ p q (x.I c) k)]:=bJ
 refine⟨1,0,c,b,k,zZ p q (x.I c) k,⟨bL,rfl,hG',c2,c3,rfl,hk⟩,?_⟩
 refine⟨.seq (sq 99 (List.range 45)),by kernel_rfl,nR k,λ_=>⟨rfl,hkn,cQ hkn⟩,_,λ_=>eB hkn,ro.toNat,λhq=>⟨(hrr hq).1,(hrr hq).2,cQ (hrr hq).2⟩,cF (x.R ro.toNat),λhq=>eB (hrr hq).2,nR k,λ_=>⟨rfl,hkn,cQ hkn⟩,_,λ_=>eB hkn,ro.toNat,λhq=>⟨(hrr λhn=>hq (.inl hn)).1,(hrr λhn=>hq (.inl hn)).2,cQ (hrr λhn=>hq (.inl hn)).2⟩,cF (x.R ro.toNat),λhq=>eB (hrr λhn=>hq (.inl hn)).2,?_⟩
 refine⟨λh8=>aA gT mxd ?_,λh8=>aA gT mxd ?_⟩
 ·exact bH hM2 (chg:=λg:Int×(Nat->List CV)×Nat×(Nat->List CV)=>bNm r0 c g.1) (bls:=λ_=>aCn n (A.length-1) x (A.eraseIdx best)) (fls:=λg=>[CF n x,itF r0 g.2.2.2]) ((nR k:Nat),zZ p q (x.I c) k,x.Cc c,upd G 0 [.r none 0 b (x.Cc c) (zZ p q (x.I c) k)]) ⟨⟨⟨rfl,aI _,hG',hsub⟩,λ_=>⟨nR k,rfl,cC.2 ⟨k,hk,rfl⟩⟩,.inl (Int.natCast_nonneg _)⟩,hmea⟩ rfl ⟨rfl,rfl,rfl,rfl,rfl,rfl⟩ ⟨rfl,rfl,trivial⟩ ⟨rfl,rfl,rfl,rfl⟩ bL vN rfl
 have h9:0<=ro:=pQ.1 λhn=>h8 (.inl (.inl hn))
 exact bH hM2 (chg:=λg:Int×(Nat->List CV)×Nat×(Nat->List CV)=>bNm r0 c g.1) (bls:=λ_=>aCn n (A.length-1) x (A.eraseIdx best)) (fls:=λg=>[CF n x,itF r0 g.2.2.2]) (ro,zZ p q (x.I c) k,x.Cc c,upd G 0 [.r none 0 b (x.Cc c) (zZ p q (x.I c) k)]) ⟨⟨⟨rfl,aI _,hG',hsub⟩,hro,.inl h9⟩,hmea⟩ rfl ⟨rfl,rfl,rfl,rfl,rfl,rfl⟩ ⟨rfl,rfl,trivial⟩ ⟨rfl,rfl,rfl,rfl⟩ bL vN rfl
abbrev El.maps (x:El) (I:Nat->List CV):El:=⟨x.R,x.LA,x.Lc,x.L,x.CA,x.Cc,I⟩
def DI (ps:List En) (n i k:Nat) (I0 I:Nat->List CV):Prop:=∀j,j<n->((kI (I0 j)).Nodup->(kI (I j)).Nodup)/\∀r,r∈kI (I j)↔r∈kI (I0 j)/\¬(r=i/\∃e∈ps.take k,e.1=(j:Nat))
theorem aBu {α:Type} [Inhabited α] {l:List α} {k:Nat} (h:k<l.length):l.take (k+1)=l.take k++[l.getD k default]:=by rw[dF,aG h,gd h];rfl
theorem bNn {ps:List En} {k:Nat} {j j0:Nat} (hk:k<ps.length) (hj:(ps.getD k default).1=(j0:Nat)):(∃e∈ps.take (k+1),e.1=(j:Nat))↔(∃e∈ps.take k,e.1=(j:Nat))\/j=j0:=by
 rw[aBu hk]
 constructor
 ·rintro⟨e,he,h⟩
  rcases aQ.1 he with he|he
  ·exact .inl ⟨e,he,h⟩
  rw[aH.1 he,hj] at h;exact .inr (jH h).symm
 rintro(⟨e,he,h⟩|rfl)
 ·exact⟨e,dK _ he,h⟩
 exact⟨_,dS _ (.head _),hj⟩
theorem DI.start {ps:List En} {n i:Nat} {I:Nat->List CV}:DI ps n i 0 I I:=λj _=>⟨id,λr=>⟨λh=>⟨h,λ⟨_,e,he,_⟩=>by cases he⟩,λh=>h.1⟩⟩
theorem DI.next {ps:List En} {n i k j0:Nat} {I0 I:Nat->List CV} (h:DI ps n i k I0 I) (hk:k<ps.length) (hj:(ps.getD k default).1=(j0:Nat)):DI ps n i (k+1) I0 (upd I j0 (aCk (I j0) i)):=λj hjn=>by
 obtain⟨h1,h2⟩:=h j hjn
 by_cases e:j=j0
 ·subst e
  rw[bJ]
  refine⟨λhn=>bZa (h1 hn),λr=>?_⟩
  rw[bNf,h2 r,bNn hk hj]
  constructor
  ·rintro⟨⟨h3,h4⟩,h5⟩;exact⟨h3,λ⟨h6,_⟩=>h5 h6⟩
  rintro⟨h3,h4⟩;exact⟨⟨h3,λ⟨h5,h6⟩=>h4 ⟨h5,.inl h6⟩⟩,λh5=>h4 ⟨h5,.inr rfl⟩⟩
 rw[bD e]
 refine⟨h1,λr=>?_⟩
 rw[h2 r,bNn hk hj]
 exact and_congr_right λ_=>not_congr (and_congr_right λ_=>⟨.inl,λh=>h.elim id λh=>absurd h e⟩)
abbrev lvB (n a:Nat) (x:El) (A:List Int) (pv:Sl EntM):BL:=[(65,0,[cF pv]),(155,0,[.p 2 0]),elE 3 4 5 6 n a,elR n x,elL n x,elC n x,elA A]
theorem aRi {n a:Nat} {x:El} {A:List Int} {pv:Sl EntM}:scB 7 (lvB n a x A pv):=aB rfl (aB rfl (aB rfl (aB (bU (aX λ_ _=>rfl)) (aB (bU (aX λ_ _=>rfl)) (aB (bU (aX λ_ _=>rfl)) (aB (bU (bK _)) aY))))))
abbrev lvL:List Bool:=[true,false,false,true,true,true,true]
theorem bGd {n a:Nat} {x:El} {A:List Int} {pv:Sl EntM}:ClB lvL (lvB n a x A pv):=fT (λ_ c hc=>by rw[aH.1 hc];rfl) (fT (λh=>by cases h) (fT (λh=>by cases h) (fT (λ_=>aX λ_ _=>rfl) (fT (λ_=>aX λ_ _=>rfl) (fT (λ_=>aX λ_ _=>rfl) (fT (λ_=>bK _) aCl))))))
abbrev aAs:FuncId:=178
theorem bNo:Ent Tryz.prog aAs:=aU func178 rfl kR
theorem bNp:Tryz.prog.funcs[aAs]? =some Tryz.f178:=func178
abbrev lvG (pv:Sl EntM) (i k:Nat):List (Nat×DV):=[(8,.c (iC k)),(6,.c (cF pv)),(7,.c (iC (pv.l.length:Nat))),(0,.c (iC i)),(2,.c (.p 1 0))]
def oLv:Ord:=.treeX [] [0,2001,2002,3,2004,5,2006,1007,2008] (trS [1009])
theorem aVe (x:El) (pv:Sl EntM) {ps:List En} {n i:Nat} {A:List Int} (hp:Ek pv.l ps) (hv:VOk ps (n:Nat)) (hl:ps.length<=n) (hn:n<=4096) (ca:∀j,j<n->∃b,x.CA j=some b):CtrF Tryz.prog aAs lvL [.c (iC i),.c (.p 0 0),.c (.p 1 0)] (lvB n A.length x A pv) [CF n x] (λI:Nat->List CV=>⟨.t [],lvB n A.length x A pv,[CF n (x.maps I)],DI ps n i ps.length x.I I⟩):=by
 have hln:=hp.ln
 refine nX gT bNo bNp rfl rfl rfl bL bGd (aA gT mxd ?_)
 show Sd _ _ _ _ _ _
 refine cG (λ_=>true) (λg:Nat×(Nat->List CV)=>lvG pv i g.1) (λ_=>lvB n A.length x A pv) (λg=>[CF n (x.maps g.2)]) (λg=>g.1<=ps.length/\DI ps n i g.1 x.I g.2) (λg=>ps.length-g.1) λhM=>⟨bH hM (chg:=λg:Nat×(Nat->List CV)=>lvG pv i g.1) (bls:=λ_=>lvB n A.length x A pv) (fls:=λg=>[CF n (x.maps g.2)]) (0,x.I) ⟨aC _,DI.start⟩ rfl ⟨rfl,rfl,rfl,rfl,rfl,rfl,rfl⟩ ⟨rfl,trivial⟩ ⟨rfl,rfl,rfl,rfl,rfl⟩ bL aRi rfl,λ⟨k,I⟩ ⟨hk,hI⟩=>aA gT mxd ⟨λh2=>aA gT mxd ?_,λh2=>aA gT mxd ?_⟩⟩
 all_goals
  replace hk:k<=ps.length:=hk
  replace hI:DI ps n i k x.I I:=hI
 ·have hkl:k<ps.length:=by replace h2:(k:Int)<(pv.l.length:Nat):=h2;omega
  have he:=hp.e k hkl
  have e0:=hv.2 _ (fO hkl)
  obtain⟨j0,hj0⟩:∃j0:Nat,(ps.getD k default).1=(j0:Nat):=⟨(ps.getD k default).1.toNat,by omega⟩
  have hjn:j0<n:=by omega
  have hix:(pv.l.getD k default).ix=(j0:Nat):=he.1.trans hj0
  obtain⟨b,hb⟩:=ca j0 hjn
  refine⟨k,⟨rfl,show k<pv.l.length by omega⟩,oLv,by kernel_rfl,j0,⟨hix,hjn,cQ hjn⟩,_,_,⟨aAq hjn hb,rfl⟩,0,j0,i,⟨hjn,hb,rfl⟩,(k+1:Nat),wi,?_⟩
  exact bH hM (chg:=λg:Nat×(Nat->List CV)=>lvG pv i g.1) (bls:=λ_=>lvB n A.length x A pv) (fls:=λg=>[CF n (x.maps g.2)]) (k+1,upd I j0 (aCk (I j0) i)) ⟨⟨hkl,hI.next hkl hj0⟩,show ps.length-(k+1)<ps.length-k by omega⟩ rfl ⟨rfl,rfl,rfl,rfl,rfl,rfl,rfl⟩ ⟨rfl,trivial⟩ ⟨rfl,rfl,rfl,rfl,rfl⟩ bL aRi rfl
 obtain rfl:k=ps.length:=by replace h2:¬(k:Int)<(pv.l.length:Nat):=h2;omega
 exact⟨I,hI,kG rfl ⟨rfl,rfl,rfl,rfl,rfl,rfl,rfl⟩ ⟨rfl,trivial⟩ bL aRi rfl bGd⟩
def fac (es:Nat->List En) (r c i:Nat):Rat:=Vm.get (es i) (c:Nat)*(Vm.get (es r) (c:Nat))⁻¹
structure StR (r c kk:Nat) (es lw es' lw':Nat->List En) (P:Nat->Prop):Prop where
 yes:∀i,P i->(∀j:Int,Vm.get (es' i) j=Vm.get (es i) j+(-(fac es r c i))*Vm.get (es r) j)/\lw' i=lw i++[((kk:Int),fac es r c i)]
 no:∀i,¬P i->es' i=es i/\lw' i=lw i
theorem qI:∀{n:Nat} {l:List Nat},l.Nodup->(∀i∈l,i<n)->l.length<=n
 |0,[],_,_=>aI _
 |0,i::l,_,h=>absurd (h i (.head _)) (aF _)
 |n+1,l,hd,h=>by
  by_cases hn:n∈l
  ·have h1:=qI (n:=n) (hd.erase n) λi hi=>by
    have h2:=(hd.mem_erase_iff).1 hi
    have:=h i h2.2
    have:=h2.1
    omega
   rw[List.length_erase_of_mem hn] at h1
   omega
  have:=qI (n:=n) hd λi hi=>by
   have:=h i hi
   have:i≠n:=λe=>hn (e▸hi)
   omega
  omega
theorem kW {es:List En} {n:Nat} (h:VOk es (n:Nat)):es.length<=n:=by
 have h1:(es.map λe=>e.1.toNat).Nodup:=by
  rw[cO,fW]
  exact h.1.imp_of_mem λ{a b} ha hb hab he=>by
   have:=h.2 a ha
   have:=h.2 b hb
   have:a.1<b.1:=hab
   omega
 have:=qI (n:=n) h1 λi hi=>by
  obtain⟨e,he,rfl⟩:=cC.1 hi
  have:=h.2 e he
  omega
 rwa [aN] at this
theorem aRj {es fs rs:List En} {q:Rat} {n:Int} (h:MgR (λa b=>a+q*b) es fs rs) (he:VOk es n) (hf:VOk fs n):VOk rs n:=⟨h.a,λe hm=>by
 have hz:e.2≠0:=h.z e hm
 have hg:=h.g e.1
 rw[rG h.a hm] at hg
 by_cases h1:Vm.get es e.1=0
 ·have h2:Vm.get fs e.1≠0:=λh2=>hz (by rw[hg];show Vm.get es e.1+q*Vm.get fs e.1=0;rw[h1,h2,cA,bP])
  obtain⟨e',he',h3⟩:=(tS hf _).1 h2
  have:=hf.2 e' he'
  rw[h3] at this
  exact⟨this.1,this.2.1,hz⟩
 obtain⟨e',he',h3⟩:=(tS he _).1 h1
 have:=he.2 e' he'
 rw[h3] at this
 exact⟨this.1,this.2.1,hz⟩⟩
theorem bRm {es fs rs:List En} {q:Rat} {B Q:Nat} (h:MgR (λa b=>a+q*b) es fs rs) (he:Asc es) (hf:Asc fs) (h1:1<=B) (be:rbE es B) (bf:rbE fs B) (hq:rb q Q):rbE rs (B+(Q+B)+1):=λe hm=>by
 have hg:=h.g e.1
 rw[rG h.a hm] at hg
 rw[hg]
 exact aAm (oU he be h1) (gY hq (oU hf bf h1))
def AI (rs:List En) (n i k:Nat) (I0 I:Nat->List CV):Prop:=∀j,j<n->((kI (I0 j)).Nodup->(kI (I j)).Nodup)/\∀r,r∈kI (I j)↔r∈kI (I0 j)\/(r=i/\∃e∈rs.take k,e.1=(j:Nat))
theorem AI.start {rs:List En} {n i:Nat} {I:Nat->List CV}:AI rs n i 0 I I:=λj _=>⟨id,λr=>⟨.inl,λh=>h.elim id λ⟨_,e,he,_⟩=>by cases he⟩⟩
theorem AI.next {rs:List En} {n i k j0 c:Nat} {I0 I:Nat->List CV} (h:AI rs n i k I0 I) (hk:k<rs.length) (hj:(rs.getD k default).1=(j0:Nat)):AI rs n i (k+1) I0 (upd I j0 (wT (I j0) c i).1):=λj hjn=>by
 obtain⟨h1,h2⟩:=h j hjn
 by_cases e:j=j0
 ·subst e
  rw[bJ]
  refine⟨λhn=>bFu (h1 hn),λr=>?_⟩
  rw[aVd,h2 r,bNn hk hj]
  constructor
  ·rintro(h3|h3|⟨h3,h4⟩)
   ·exact .inr ⟨h3,.inr rfl⟩
   ·exact .inl h3
   exact .inr ⟨h3,.inl h4⟩
  rintro(h3|⟨h3,_⟩)
  ·exact .inr (.inl h3)
  exact .inl h3
 rw[bD e]
 refine⟨h1,λr=>?_⟩
 rw[h2 r,bNn hk hj]
 exact or_congr_right (and_congr_right λ_=>⟨.inl,λh=>h.elim id λh=>absurd h e⟩)
theorem bGe {G:List EntM} {lw:List En} {e:EntM} {z:En} (h:Ek G lw) (h1:e.ix=z.1) (h2:Cr e.v z.2):Ek (G++[e]) (lw++[z]):=⟨by rw[aE,aE,h.ln];rfl,λk hk=>by
 rw[aE,cR] at hk
 by_cases e1:k<lw.length
 ·have e2:k<G.length:=by rw[h.ln];exact e1
  rw[List.getD,List.getD,bA e2,bA e1]
  exact h.e k e1
 obtain rfl:k=lw.length:=by omega
 have e2:¬lw.length<G.length:=by rw[h.ln];omega
 rw[List.getD,List.getD,bR oM,bR (aI _),h.ln]
 simp only[jA,List.getElem?_cons_zero,Option.getD_some]
 exact⟨h1,h2⟩⟩
theorem bGf {x:El} {n r c kk i:Nat} {es' lw':Nat->List En} {used:Nat->Prop} {rs:List En} {q:Rat} {g:Sl EntM} {LA':Option Nat} {Lc':Nat} {e:EntM} {z:En} {Cc':Nat->Nat} {I1 I2:Nat->List CV}
 (h:ElOk x n es' lw' used) (hr:r<n) (hin:i<n) (hui:¬used i) (hg:Ek g.l rs) (hm:MgR (λa b=>a+q*b) (es' i) (es' r) rs) (h1:e.ix=z.1) (h2:Cr e.v z.2)
 (hD:DI (es' r) n i (es' r).length x.I I1) (hA:AI rs n i rs.length I1 I2):
 ElOk ⟨upd x.R i g,upd x.LA i LA',upd x.Lc i Lc',upd x.L i (x.L i++[e]),x.CA,Cc',I2⟩ n (upd es' i rs) (upd lw' i (lw' i++[z])) used:=by
 have hv:=aRj hm (h.ok i hin).1 (h.ok r hr).1
 refine⟨λk hk=>?_,λk hk=>?_,λk hk=>?_,h.ca,λj hj=>(hA j hj).1 ((hD j hj).1 (h.nd j hj)),λj hj k=>?_⟩
 ·show Ek (upd x.R i g k).l (upd es' i rs k)
  by_cases e:k=i
  ·subst e;rw[bJ,bJ];exact hg
  rw[bD e,bD e];exact h.row k hk
 ·by_cases e:k=i
  ·subst e;rw[bJ];exact⟨hv,kW hv⟩
  rw[bD e];exact h.ok k hk
 ·show Ek (upd x.L i (x.L i++[e]) k) (upd lw' i (lw' i++[z]) k)
  by_cases e:k=i
  ·subst e;rw[bJ,bJ];exact bGe (h.low k hk) h1 h2
  rw[bD e,bD e];exact h.low k hk
 show k∈kI (I2 j)↔_
 rw[(hA j hj).2 k,(hD j hj).2 k,h.mem j hj k,cW,cW]
 by_cases e:k=i
 ·subst e
  rw[bJ]
  have hgj:Vm.get rs (j:Nat)=Vm.get (es' k) (j:Nat)+q*Vm.get (es' r) (j:Nat):=hm.g _
  constructor
  ·rintro(⟨⟨h3,h4⟩,h5⟩|⟨_,h5⟩)
   ·have h6:Vm.get (es' r) (j:Nat)=0:=aT λh6=>h5 ⟨rfl,(tS (h.ok r hr).1 _).1 h6⟩
    rw[h6,cA,bP] at hgj
    exact⟨h3,by rw[hgj];exact h4⟩
   exact⟨⟨hin,hui⟩,(tS hv _).2 h5⟩
  rintro⟨_,h4⟩
  exact .inr ⟨rfl,(tS hv _).1 h4⟩
 rw[bD e]
 constructor
 ·rintro(⟨h3,_⟩|⟨h3,_⟩)
  ·exact h3
  exact absurd h3 e
 intro h3;exact .inl ⟨h3,λ⟨h4,_⟩=>e h4⟩
theorem StR.next {r c kk k:Nat} {es lw es' lw':Nat->List En} {O:List Nat} {rs:List En} (h:StR r c kk es lw es' lw' (·∈O.take k)) (hk:k<O.length) (hO:O.Nodup) (hm:MgR (λa b=>a+(-(fac es r c (O.getD k 0)))*b) (es (O.getD k 0)) (es r) rs):es' (O.getD k 0)=es (O.getD k 0)/\lw' (O.getD k 0)=lw (O.getD k 0)/\StR r c kk es lw (upd es' (O.getD k 0) rs) (upd lw' (O.getD k 0) (lw (O.getD k 0)++[((kk:Int),fac es r c (O.getD k 0))])) (·∈O.take (k+1)):=by
 have ht:O.take (k+1)=O.take k++[O.getD k 0]:=by rw[dF,aG hk,gd hk];rfl
 have hno:O.getD k 0∉O.take k:=λhh=>by
  have h1:(O.take k++[O.getD k 0]).Nodup:=by rw[<-ht];exact hO.sublist (iE _ _)
  exact(kP.1 h1).2.2 _ hh _ (.head _) rfl
 obtain⟨a1,a2⟩:=h.no _ hno
 refine⟨a1,a2,λi hi=>?_,λi hi=>?_⟩
 ·by_cases e:i=O.getD k 0
  ·subst e;rw[bJ,bJ];exact⟨hm.g,rfl⟩
  rw[bD e,bD e]
  replace hi:i∈O.take (k+1):=hi
  rw[ht] at hi
  exact h.yes i ((aQ.1 hi).resolve_right λhh=>e (aH.1 hh))
 have e:i≠O.getD k 0:=λe=>hi (by show i∈O.take (k+1);rw[ht,e];simp)
 rw[bD e,bD e]
 exact h.no i λhh=>hi (by show i∈O.take (k+1);rw[ht];exact dK _ hh)
end Go.Proofs.YtghncoghdcmdfaaGreat
