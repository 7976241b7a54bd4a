/- THE STATEMENT BasisExtends of the program's law 13 is proved: for every input the law returns true; it has no conditions. Part 7 of 7: Bs Bt Bu Bv Bw Bx By Bz Qn Qp Qq Qr Qs Qv Qo Qt Qw Qx Ze. -/
import Derived.Test.YtghncoghdcmdfaaGreatRows
import Derived.WalkKit
import Derived.ProofKit
import Derived.OpenShut
import Derived.JoinedCond
import Derived.ShutString
import Derived.ChangeOld
import Derived.Below
import Derived.Deep.SlicePairs
import Derived.Test.YtghncoghdcmdfaaGreatG6
set_option maxHeartbeats 4000000
set_option linter.unusedVariables false
set_option linter.unusedSimpArgs false
namespace Go.Proofs.YtghncoghdcmdfaaGreat
open Go.Vg _root_.Go.Proofs.Tryz
open Go.Vm
open Go.Vy hiding val
set_option maxRecDepth 20000
theorem cNo {n m:Nat} (hn:n<=4) (hm:m<=n):yb (zb (2+3+n*(3+3+1)) (bd 3 m) m) (bd 3 m) m<=1000000000:=by
 have h1:n=0\/n=1\/n=2\/n=3\/n=4:=by omega
 have h2:m=0\/m=1\/m=2\/m=3\/m=4:=by omega
 rcases h1 with rfl|rfl|rfl|rfl|rfl<;>rcases h2 with rfl|rfl|rfl|rfl|rfl<;>decide+kernel
theorem cNp {m:Nat} (hm:m<=4):zT (zT 3 (bd 3 m) m) (bd 3 m) m<=1000000000:=by
 have h2:m=0\/m=1\/m=2\/m=3\/m=4:=by omega
 rcases h2 with rfl|rfl|rfl|rfl|rfl<;>decide+kernel
structure SmP (p:ProgM):Prop where
 n:p.c.l.length<=4/\p.r.l.length<=4
 c:bHy p.c.l
 r:∀r∈p.r.l,∃b es,RwS r b es p.c.l.length
theorem SmP.prg {p:ProgM} (h:SmP p):∃q,PrG p q 3:=by
 obtain⟨h1,h2⟩:=h.n
 obtain⟨f,hf⟩:=oN (r:=λ(j:Nat) (t:Rat×Rat×Rat)=>j<p.c.l.length->ClS (p.c.l.getD j default) t.1 t.2.1 t.2.2) λj=>by
  by_cases hj:j<p.c.l.length
  ·obtain⟨k,l,u,hc⟩:=h.c _ (fO hj)
   exact⟨(k,l,u),λ_=>hc⟩
  exact⟨(0,0,0),λhh=>absurd hh hj⟩
 obtain⟨g,hg⟩:=oN (r:=λ(i:Nat) (t:Rat×List En)=>i<p.r.l.length->RwS (p.r.l.getD i default) t.1 t.2 p.c.l.length) λi=>by
  by_cases hi:i<p.r.l.length
  ·obtain⟨b,es,hc⟩:=h.r _ (fO hi)
   exact⟨(b,es),λ_=>hc⟩
  exact⟨(0,[]),λhh=>absurd hh hi⟩
 have hlt:∀k,k<=16->bd 3 k<=4398046511104:=λk hk=>aJ (kT hk) (by decide+kernel)
 exact⟨⟨λj=>(f j).1,λj=>(f j).2.1,λj=>(f j).2.2,λi=>(g i).1,λi=>(g i).2⟩,{
  v:={
   rd:=⟨λj hj=>(hf j hj).r,λi hi=>⟨(hg i hi).rd.b.le dC,(hg i hi).rd.e.le dC⟩⟩
   h1:=by decide
   hB:=by decide
   c:=by omega
   r:=by omega
   x:=λj hj=>(hf j hj).x
   v:=λi hi=>⟨(hg i hi).s,(hg i hi).v⟩
   e:=λi hi e he=>((hg i hi).e e he).le dC}
  c:=⟨λj hj=>(hf j hj).kc,λi hi=>(hg i hi).bc⟩
  k:=λj hj=>(hf j hj).k
  rl:=by omega
  cl:=by omega
  bB:=by decide
  f:=hlt _ oM
  s:=λm hm=>cNo h1 hm
  t:=λm hm=>cNp oM}⟩
theorem SmP.bd {p:ProgM} (h:SmP p):bd 3 (p.r.l.length*p.c.l.length)<=4398046511104:=by
 have h1:p.r.l.length*p.c.l.length<=4*4:=nF h.n.2 h.n.1
 exact aJ (kT h1) (by decide+kernel)
structure RpS (p:ProgM) (b g:BasM):Prop where
 ex:∃q,PrG p q 3/\RpR p q b g
abbrev exC (k:RatM):ColM:=bHs k true default false default
abbrev exW (k:RatM):List CV:=[.b k.n.p k.n.d,eK k.n.m,eK k.d,.b (true=true) inferInstance,.b (false=true) inferInstance,.v (.slice none 0 0),.v (.slice none 0 0),.b (false=true) inferInstance,.b (false=true) inferInstance,.v (.slice none 0 0),.v (.slice none 0 0)]
theorem LeL.app {l1 l1' l2 l2':List CV} (h1:LeL l1 l1') (hl:l1'.length=l1.length) (h2:LeL l2 l2'):LeL (l1++l2) (l1'++l2'):=by
 induction l1 generalizing l1' with
 |nil=>
  cases l1' with
  |nil=>exact h2
  |cons a t=>cases hl
 |cons a t ih=>
  cases l1' with
  |nil=>cases hl
  |cons a' t'=>exact .cons (h1 0 a a' rfl rfl) (ih (λk c c' e1 e2=>h1 (k+1) c c' e1 e2) (Nat.succ.inj hl))
theorem bJe {k:RatM}:LeL (exW k) (exC k).C:=.cons (fC _) (.cons (fC _) (.cons (fC _) (.cons (fC _) (.cons (fC _) (.cons qG (.cons qG (.cons (fC _) (.cons (fC _) (.cons qG (.cons qG (LeL.refl _)))))))))))
structure ExP (p:ProgM):Prop where
 ex:∃(k1 k2 b v1 v2:RatM) (e:Sl EntM),(Cr k1 1/\Cr k2 1/\Cr b 3/\Cr v1 1/\Cr v2 1)/\p.c.l=[exC k1,exC k2]/\p.r.l=[⟨1,b,e⟩]/\e.l=[⟨0,v1⟩,⟨1,v2⟩]
abbrev cDi:FuncId:=63
theorem cUq:Ent Tryz.prog cDi:=aU func63 rfl kR
theorem cUr:Tryz.prog.funcs[cDi]? =some Tryz.f63:=func63
abbrev exE (v1 v2:RatM):List CV:=ecs [⟨0,v1⟩,⟨1,v2⟩]
abbrev exB (k1 k2 b v1 v2:RatM):BL:=[(42,0,[.s 1 2,.s 3 1]),(106,11,exW k1++exW k2),(82,4,exE v1 v2),(67,5,[iC 1,.b b.n.p b.n.d,eK b.n.m,eK b.d,.s 2 2])]
theorem cDj {k1 k2 b v1 v2:RatM}:scB 4 (exB k1 k2 b v1 v2):=aB rfl (aB rfl (aB rfl (aB rfl aY)))
theorem cNq:Ctr Tryz.prog cDi [] [] [] (λg:ProgM=>⟨.a g.C,[],ExP g⟩):=by
 refine aW gT cUq cUr rfl rfl rfl bL aS (Sd.sq (aA gT mxd (Sd.sq (aA gT mxd ⟨[],tC (z:=1) dC,rfl,rfl,rfl,λk1 h1=>⟨[],tC (z:=1) dC,rfl,rfl,rfl,λk2 h2=>⟨[],tC (z:=3) dC,rfl,rfl,rfl,λb hb=>⟨[],tC (z:=1) dC,rfl,rfl,rfl,λv1 hv1=>⟨[],tC (z:=1) dC,rfl,rfl,rfl,λv2 hv2=>?_⟩⟩⟩⟩⟩))))
 refine tSd _ Unit (λ_=>⟨[(0,.c (.p 0 0))]++[],[],exB k1 k2 b v1 v2,[]⟩) (λ_=>True) ?_ λ_ _=>?_
 ·exact bH (M:=λ_=>true) (base:=[]) (chg:=λ_:Unit=>[(0,.c (.p 0 0))]) (bls:=λ_=>exB k1 k2 b v1 v2) (fls:=λ_=>[]) (λt d ht=>by cases ht) () trivial rfl ⟨rfl,rfl,rfl,rfl⟩ trivial rfl bL cDj rfl
 refine aVs 1 ((exC k1).C++(exC k2).C) rfl rfl (LeL.app (l1:=exW k1) (l2:=exW k2) bJe rfl bJe) ?_
 refine jV tSd 2 rfl bL (kL rfl) bL rfl λA1 a1=>⟨_,kV jN (kL rfl),_,rfl,iX tSd 3 0 [iC 1,.b b.n.p b.n.d,eK b.n.m,eK b.d,cF ⟨A1.map λb=>⟨b,0,none⟩,a1,[⟨0,v1⟩,⟨1,v2⟩]⟩] rfl rfl rfl rfl (oT (k0:=4) rfl cMa) ?_⟩
 refine jV tSd 3 rfl bL (kL rfl) bL rfl λA2 a2=>⟨_,kV jN (kL rfl),_,rfl,iX tSd 0 1 [.s 1 2,aGe ⟨A2.map λb=>⟨b,0,none⟩,a2,[⟨1,b,⟨A1.map λb=>⟨b,0,none⟩,a1,[⟨0,v1⟩,⟨1,v2⟩]⟩⟩]⟩] rfl rfl rfl rfl (oT (k0:=1) rfl (bHz (f:=RowM.C) (dd:=default) (L:=[⟨1,b,⟨A1.map λb=>⟨b,0,none⟩,a1,[⟨0,v1⟩,⟨1,v2⟩]⟩⟩]) (λ_=>rfl) dC)) ?_⟩
 refine jV tSd 1 rfl bL (kL rfl) bL rfl λA3 a3=>⟨_,rfl,_,rfl,iX tSd 0 2 [rZ ⟨A3.map λb=>⟨b,0,none⟩,a3,[exC k1,exC k2]⟩,aGe ⟨A2.map λb=>⟨b,0,none⟩,a2,[⟨1,b,⟨A1.map λb=>⟨b,0,none⟩,a1,[⟨0,v1⟩,⟨1,v2⟩]⟩⟩]⟩] rfl rfl rfl rfl (oT (k0:=0) rfl (bHz (f:=ColM.C) (dd:=default) (L:=[exC k1,exC k2]) (λ_=>rfl) dC)) ?_⟩
 exact aA gT mxd ⟨⟨⟨A3.map λb=>⟨b,0,none⟩,a3,[exC k1,exC k2]⟩,⟨A2.map λb=>⟨b,0,none⟩,a2,[⟨1,b,⟨A1.map λb=>⟨b,0,none⟩,a1,[⟨0,v1⟩,⟨1,v2⟩]⟩⟩]⟩⟩,⟨k1,k2,b,v1,v2,_,⟨h1,h2,hb,hv1,hv2⟩,rfl,rfl,rfl⟩,aM rfl rfl trivial⟩
def exQ:PrQ:=⟨λ_=>1,λ_=>0,λ_=>0,λ_=>3,λ_=>[(0,1),(1,1)]⟩
theorem bJf:VOk [((0:Int),(1:Rat)),(1,1)] ((2:Nat):Int):=⟨.cons (λb hb=>by rw[aH.1 hb];decide) (.cons (λb hb=>by cases hb) .nil),λe he=>by
 rcases bZ.1 he with rfl|he
 ·exact⟨by decide,by decide,by decide⟩
 rw[aH.1 he];exact⟨by decide,by decide,by decide⟩⟩
theorem ExP.cl {p:ProgM} (h:ExP p):p.c.l.length=2:=by obtain⟨k1,k2,b,v1,v2,e,_,h1,_,_⟩:=h.ex;rw[h1];rfl
theorem ExP.rl {p:ProgM} (h:ExP p):p.r.l.length=1:=by obtain⟨k1,k2,b,v1,v2,e,_,_,h1,_⟩:=h.ex;rw[h1];rfl
theorem ExP.col {p:ProgM} (h:ExP p) {j:Nat} (hj:j<p.c.l.length):∃k,Cr k 1/\p.c.l.getD j default=exC k:=by
 obtain⟨k1,k2,b,v1,v2,e,⟨a1,a2,_⟩,h1,_,_⟩:=h.ex
 rw[h1] at hj ⊢
 match j,hj with
 |0,_=>exact⟨k1,a1,rfl⟩
 |1,_=>exact⟨k2,a2,rfl⟩
theorem ExP.row {p:ProgM} (h:ExP p) {i:Nat} (hi:i<p.r.l.length):∃b v1 v2 e,p.r.l.getD i default=⟨1,b,e⟩/\Cr b 3/\Cr v1 1/\Cr v2 1/\e.l=[⟨0,v1⟩,⟨1,v2⟩]:=by
 obtain⟨k1,k2,b,v1,v2,e,⟨a1,a2,a3,a4,a5⟩,h1,h2,h3⟩:=h.ex
 rw[h2] at hi ⊢
 match i,hi with
 |0,_=>exact⟨b,v1,v2,e,rfl,a3,a4,a5,h3⟩
theorem aSm:rb 1 1:=⟨by decide,by decide⟩
theorem cNr:rb 3 1:=⟨by decide,by decide⟩
theorem cUs:rb 0 1:=⟨by decide,by decide⟩
theorem ExP.ncr {k:RatM} {l u:Rat}:¬Crs (exC k) l u:=λhh=>by have h1:(false=true):=hh.1.2;cases h1
theorem ExP.prg {p:ProgM} (h:ExP p):PrG p exQ 3:=by
 have h1:=h.cl
 have h2:=h.rl
 have hlt:∀k,k<=16->bd 3 k<=4398046511104:=λk hk=>aJ (kT hk) (by decide+kernel)
 exact {
  v:={
   rd:=⟨λj hj=>by
    obtain⟨k,hk,e⟩:=h.col hj
    rw[e]
    exact⟨hk.rq (aSm.le dC),vJ,vJ⟩,λi hi=>by
    obtain⟨b,v1,v2,e,er,hb,hv1,hv2,he⟩:=h.row hi
    rw[er]
    refine⟨hb.rq (cNr.le dC),⟨by rw[he];rfl,λk hk=>?_⟩⟩
    show(e.l.getD k default).ix=_/\Rq (e.l.getD k default).v _ 3
    rw[he]
    match k,hk with
    |0,_=>exact⟨rfl,hv1.rq (aSm.le dC)⟩
    |1,_=>exact⟨rfl,hv2.rq (aSm.le dC)⟩⟩
   h1:=by decide
   hB:=by decide
   c:=by omega
   r:=by omega
   x:=λj hj=>by
    obtain⟨k,hk,e⟩:=h.col hj
    rw[e];exact ExP.ncr
   v:=λi hi=>by
    obtain⟨b,v1,v2,e,er,_⟩:=h.row hi
    refine⟨by rw[er];exact .inr (.inr rfl),?_⟩
    rw[h1];exact bJf
   e:=λi hi e he=>by
    rcases bZ.1 he with rfl|he
    ·exact aSm.le dC
    rw[aH.1 he];exact aSm.le dC}
  c:=⟨λj hj=>by
   obtain⟨k,hk,e⟩:=h.col hj
   rw[e];exact hk,λi hi=>by
   obtain⟨b,v1,v2,e,er,hb,_⟩:=h.row hi
   rw[er];exact hb⟩
  k:=λj hj=>aSm.le dC
  rl:=by omega
  cl:=by omega
  bB:=by decide
  f:=hlt _ oM
  s:=λm hm=>cNo oM hm
  t:=λm hm=>cNp oM}
theorem ExP.bd {p:ProgM} (h:ExP p):bd 3 (p.r.l.length*p.c.l.length)<=4398046511104:=by rw[h.cl,h.rl];decide+kernel
structure ExB (b:BasM):Prop where
 c:b.c.l=[2,0]
 r:b.r.l=[0]
theorem ExP.val {p:ProgM} {b:BasM} (h:ExP p) (hb:ExB b):BVal p exQ b:=by
 have h1:=h.cl
 have h2:=h.rl
 have e1:bcL b p.c.l.length=[0]:=by
  rw[h1]
  exact(mF (P:=λj=>b.c.l.getD j 0=2) (k:=1) (by show ¬b.c.l.getD 1 0=2;rw[hb.c];decide)).trans ((jP (P:=λj=>b.c.l.getD j 0=2) (k:=0) (by show b.c.l.getD 0 0=2;rw[hb.c];rfl)).trans rfl)
 have e2:brL b p.r.l.length=[0]:=by
  rw[h2]
  exact(jP (P:=λi=>b.r.l.getD i 0≠2) (k:=0) (by show b.r.l.getD 0 0≠2;rw[hb.r];decide)).trans rfl
 refine⟨⟨by rw[h1,hb.c];rfl,by rw[h2,hb.r];rfl,λj hj=>?_,λi hi=>?_⟩,by rw[e1,e2],?_⟩
 ·obtain⟨k,hk,e⟩:=h.col hj
  rw[e,hb.c]
  match j,(show j<2 by omega) with
  |0,_=>exact .inl rfl
  |1,_=>exact .inr (.inl ⟨rfl,rfl⟩)
 ·obtain⟨b',v1,v2,e,er,_⟩:=h.row hi
  rw[er,hb.r]
  match i,(show i<1 by omega) with
  |0,_=>exact .inr rfl
 rw[e2]
 intro ⟨x,⟨i,hi,hx⟩,hk⟩
 have h3:=hk 0 dC
 have h0:i=0:=by have:i<1:=hi;omega
 subst h0
 have hp:=h.prg.v
 have ec:=(fL (P:=λj=>b.c.l.getD j 0=2) p.c.l.length).1
 have h4:Vm.get (zE p exQ b 0) ((0:Nat):Int)=1:=by
  refine(sD (κ:=atN (bcL b p.c.l.length)) (n:=(bcL b p.c.l.length).length) (es:=[((0:Int),(1:Rat)),(1,1)]) (k:=0) (λk l hkl hl=>ec.mono k l hkl hl) bJf.1 (by rw[e1];decide)).trans ?_
  rw[e1]
  decide+kernel
 have h5:(0:Rat)+Vm.get (zE p exQ b 0) ((0:Nat):Int)*x 0=0:=h3
 rw[h4] at h5
 exact hx (by grind)
section ex
variable {p:ProgM} {b:BasM}
theorem ExP.pt (h:ExP p) (hb:ExB b) {Bx:Nat} {qs:List Rat} (hx:PtR p exQ b Bx qs):qs=[3,0]:=by
 have h1:=hx.ln
 rw[h.cl] at h1
 match qs,h1 with
 |[a,c],_=>
  have h2:c=x0N exQ b 1:=hx.x0 1 (by rw[h.cl];decide) (by rw[hb.c];decide)
  have h3:x0N exQ b 1=0:=if_pos (by rw[hb.c];rfl)
  have h4:(1:Rat)*a+((1:Rat)*c+0)=3:=hx.ti 0 (by rw[h.rl];decide) (by rw[hb.r];decide)
  have h5:c=0:=h2.trans h3
  rw[h5] at h4 ⊢
  rw[show a=3 by grind]
theorem ExP.mu (h:ExP p) (hb:ExB b) {By:Nat} {ps:List Rat} (hy:MuR p exQ b By ps):ps=[1]:=by
 have h1:=hy.ln
 rw[h.rl] at h1
 match ps,h1 with
 |[a],_=>
  have h2:=hy.d 0 (by rw[h.cl];decide) (by rw[hb.c];rfl)
  rw[h.rl] at h2
  have h3:(0:Rat)+a*Vm.get [((0:Int),(1:Rat)),(1,1)] ((0:Nat):Int)=1:=h2
  rw[show Vm.get [((0:Int),(1:Rat)),(1,1)] ((0:Nat):Int)=1 by decide+kernel] at h3
  rw[show a=1 by grind]
theorem ExP.fsb (h:ExP p):Fsb p exQ [3,0]:=by
 refine⟨λj hj hh=>?_,λi hi hh=>?_⟩
 ·obtain⟨k,hk,e⟩:=h.col hj
  have hh2:cAt (p.c.l.getD j default) 0 0 (lQ [3,0] j):=hh
  rw[e] at hh2
  rw[h.cl] at hj
  rcases hh2 with h2|h2
  ·match j,hj with
   |0,_=>exact absurd h2.2 (show ¬(3:Rat)<0 by decide+kernel)
   |1,_=>exact absurd h2.2 (show ¬(0:Rat)<0 by decide+kernel)
  have h3:(false=true):=h2.1
  cases h3
 obtain⟨b',v1,v2,e,er,_⟩:=h.row hi
 have hh2:Brk (p.r.l.getD i default).s (dtl [((0:Int),(1:Rat)),(1,1)] (lQ [3,0])) 3:=hh
 rw[show dtl [((0:Int),(1:Rat)),(1,1)] (lQ [3,0])=3 by decide+kernel] at hh2
 rcases hh2 with h2|h2
 ·exact absurd h2.1 (show ¬(3:Rat)<3 by decide+kernel)
 exact absurd h2.1 (show ¬(3:Rat)<3 by decide+kernel)
theorem ExP.dual (h:ExP p) (hb:ExB b):Sgd p [1]/\DuR p exQ b [1] p.c.l.length:=by
 refine⟨λi hi hh=>?_,λj hj hn hh=>?_⟩
 ·obtain⟨b',v1,v2,e,er,_⟩:=h.row hi
  rw[er] at hh
  rw[h.rl] at hi
  match i,hi with
  |0,_=>
   rcases hh with h2|h2
   ·exact absurd h2.1 (show ¬(1:Int)=-1 by decide)
   exact absurd h2.2 (show ¬sgn (1:Rat).num<0 by decide+kernel)
 rw[h.cl] at hj
 match j,hj with
 |0,_=>exact hn (.inl (by rw[hb.c];rfl))
 |1,_=>
  have e:tU exQ [1] p.r.l.length 1=0:=by
   rw[h.rl]
   show(1:Rat)-1*Vm.get [((0:Int),(1:Rat)),(1,1)] ((1:Nat):Int)=0
   decide+kernel
  rw[e] at hh
  rcases hh with h2|h2
  ·exact absurd h2.1 (show ¬sgn (0:Rat).num<0 by decide+kernel)
  exact absurd h2.1 (show ¬0<sgn (0:Rat).num by decide+kernel)
theorem ExP.rep (h:ExP p) {g:BasM} (hg:RpR p exQ ⟨cP,cP⟩ g):g.c.l=[0,0]/\g.r.l=[2]:=by
 have hw:(wnL p ⟨cP,cP⟩)=[]:=by
  have:(wnL p ⟨cP,cP⟩).length<=min p.c.l.length 0:=iD
  exact mA.1 oM
 have hc:(iI p exQ ⟨cP,cP⟩).length=0:=by
  have:(iI p exQ ⟨cP,cP⟩).length<=(wnL p ⟨cP,cP⟩).length:=iD
  rw[hw] at this
  exact Nat.le_zero.1 this
 have hl:(ltL p exQ ⟨cP,cP⟩).length=0:=(bSk (p:=p) (q:=exQ) (b:=⟨cP,cP⟩)).1.trans hc
 have h1:=h.cl
 have h2:=h.rl
 refine⟨aFu (by rw[hg.cl,h1];rfl) λj hj=>?_,aFu (by rw[hg.rl,h2];rfl) λi hi=>?_⟩
 ·have hj':j<2:=hj
  rw[hg.c0 j oM λk hk=>absurd hk oM]
  obtain⟨k,hk,e⟩:=h.col (j:=j) oM
  rw[e]
  have h3:stC (exC k) (⟨cP,cP⟩:BasM).c.l j=dfC (exC k):=if_neg λhh=>absurd hh.1.1 (aF _)
  have h4:dfC (exC k)=0:=if_pos rfl
  rw[h3,h4]
  match j,hj' with
  |0,_=>rfl
  |1,_=>rfl
 have hi':i<1:=hi
 rw[hg.r2 i oM λk hk=>absurd hk oM]
 match i,hi' with
 |0,_=>rfl
end ex
theorem bJg {ρ:Pl} {n:Nat} {w:World} {c:CV} {x:Value} (h:Hc ρ n w c x) (hc:fK c=true):Rc (Zf ρ n w) w c x:=by
 cases c<;>first|exact h|cases hc
theorem bJh {ρ:Pl} {n i T e m:Nat} {w:World} {l:List CV} {Z:Nat->Prop} {get:Nat->List CV} (hq:Bq ρ n w i T e l) (he:0<e) (hl:m*e=l.length) (hg:∀j,j<m->get j=(l.drop (j*e)).take e) (hc:∀c∈l,fK c=true) (hZ:∀b,(ρ i).1=some b->Z b) (hz:∀b,Zf ρ n w b->Z b):
 Rc Z w (.r ((ρ i).1.map λb=>⟨b,0,none⟩) m (ρ i).2 e get) (.slice ((ρ i).1.map λb=>⟨b,0,none⟩) m (ρ i).2):=by
 unfold Bq at hq
 cases hb:(ρ i).1 with
 |none=>
  simp only[hb] at hq
  rw[hq.1] at hl
  have h0:m=0:=by
   rcases cE m with h|h
   ·exact h
   have:=nF h he;simp at hl;omega
  subst h0
  rw[hq.2.1]
  exact Rc.nil _ _ _ _ (aC _)
 |some b=>
  simp only[hb] at hq
  obtain⟨vl,junk,h1,h2,h3,h4⟩:=hq
  obtain⟨h5,h6⟩:=h3 he
  have hlen:=h2.len
  have hml:m*e<=(ρ i).2*e:=by rw[h5,aE,<-hlen];omega
  have hmc:m<=(ρ i).2:=eS hml he
  have hjb:∀j,j<m->j*e+e<=l.length:=λj hj=>by
   rw[<-hl]
   have:(j+1)*e<=m*e:=aZ e hj
   rw[dU] at this
   exact this
  refine Rc.r b 0 m (ρ i).2 e get (λj=>(vl.drop (j*e)).take e) hmc h6 (hZ b hb) (λj hj q u hu=>?_) (λj hj=>?_) λj hj q c u hcq hu=>?_
  ·rw[eY] at hu
   split at hu
   ·rw[dL] at hu
    exact⟨by rw[eA];exact nC h1 hu,h4 u (aR hu)⟩
   cases hu
  ·rw[hg j hj,bE,bE,cK,cK,hlen]
  rw[hg j hj] at hcq
  rw[eY] at hcq hu
  split at hu
  ·next hqe=>
   rw[if_pos hqe,dL] at hcq
   rw[dL] at hu
   obtain⟨x,h7,h8⟩:=h2.get hcq
   rw[hu] at h7
   injection h7 with h7
   subst h7
   have hcl:=hc c (aR hcq)
   have h9:Rc (Zf ρ n w) w c u:=bJg h8 hcl
   exact h9.mono λb hb=>⟨hz b hb,rfl⟩
  cases hu
abbrev smL (C R:List Int):BL:=[(3,1,C.map iC),(3,1,R.map iC)]
theorem cNs (a:BasM) (C R:List Int) (h1:a.c.l.length<=4096) (h2:a.r.l.length<=4096) (hc:a.c.l=C) (hr:a.r.l=R):Ctr Tryz.prog aOk [true,true] [.a a.C,.a [.s 0 C.length,.s 1 R.length]] (smL C R) (λ_:Unit=>⟨.c (.v (.bool true)),smL C R,True⟩):=by
 refine Ctr.lend (τ:=BasM) (al:=λb=>[.a a.C,.a b.C]) (X:=λb=>a.c.l=b.c.l/\a.r.l=b.r.l) (R:=λ_:Unit=>⟨.c (.v (.bool true)),[],True⟩) bSm (λb hb=>CtrF.ld (bSn a b h1 h2) λg hg=>⟨(),trivial,λ_ _ _ _ hv=>aFq hb hv,rfl,rfl⟩) ?_ ?_ ?_
 ·intro g ρ n w v h ρ' n' w'
  rw[h.inv_c.inv_v]
  exact .c (Rc.v _)
 ·exact ClB.cons (λ_=>aV.2 (bK _)) (eW (aV.2 (bK _)))
 intro ρ w vals hD hv
 match vals,hv with
 |[x,y],⟨hx,hy,_⟩=>
  have hz:∀b,Zf ρ 2 w b->Zf ⟨ρ.at',λ_=>True,[]⟩ 0 w b:=λb hb=>⟨hb.lt,λi hi=>absurd hi (aF _),trivial,λ⟨F,hF,_⟩=>by cases hF⟩
  have hZ:∀i,i<2->∀b,(ρ i).1=some b->Zf ⟨ρ.at',λ_=>True,[]⟩ 0 w b:=λi hi b hb=>⟨hD.lt (i:=i) hi hb,λi hi=>absurd hi (aF _),trivial,λ⟨F,hF,_⟩=>by cases hF⟩
  refine⟨⟨⟨(ρ 0).1.map λb=>⟨b,0,none⟩,(ρ 0).2,C⟩,⟨(ρ 1).1.map λb=>⟨b,0,none⟩,(ρ 1).2,R⟩⟩,⟨hc,hr⟩,?_,?_,trivial⟩
  ·cases hx with
   |a h=>
    next vl=>
    match vl,h with
    |[_,_],⟨g0,g1,_⟩=>exact .a ⟨(bJg g0 rfl).mono λb hb=>⟨hz b hb,rfl⟩,(bJg g1 rfl).mono λb hb=>⟨hz b hb,rfl⟩,trivial⟩
  cases hy with
  |a h=>
   next vl=>
   match vl,h with
   |[u,v],⟨g0,g1,_⟩=>
    refine .a ⟨?_,?_,trivial⟩
    ·show Rc _ w (cD _) u
     rw[g0.2]
     exact bJh (hD.ok 0 _ _ _ rfl) bL (by rw[aN,bI]) (λj hj=>nS j hj) (bK _) (hZ 0 bL) hz
    show Rc _ w (cD _) v
    rw[g1.2]
    exact bJh (hD.ok 1 _ _ _ rfl) bL (by rw[aN,bI]) (λj hj=>nS j hj) (bK _) (hZ 1 bL) hz
theorem cDk:LeL [.v (.slice none 0 0),.v (.slice none 0 0)] (⟨cP,cP⟩:BasM).C:=.cons qG (.cons qG (LeL.refl _))
theorem bPu (p:ProgM) (h:ExP p):Ctr Tryz.prog bPq [] [.a p.C,.a [.v (.slice none 0 0),.v (.slice none 0 0)]] [] (λg:BasM=>⟨.t [.a g.C,.c (iC 0)],[],g.c.l=[0,0]/\g.r.l=[2]⟩):=
 CtrF.arg (al:=[.a p.C,.a (⟨cP,cP⟩:BasM).C]) (CtrF.re (cNm p ⟨cP,cP⟩ h.prg.v (by rw[h.rl];decide) (by rw[h.cl];decide) h.bd) λg hg=>⟨g,h.rep hg,rfl,rfl,rfl⟩) λρ n w vals hv=>by
  match vals,hv with
  |[x,y],⟨hx,hy,_⟩=>exact⟨hx,LeL.hd cDk rfl hy,trivial⟩
theorem bSo (p:ProgM) (b:BasM) {q:PrQ} {B:Nat} (h:PrG p q B) (hb:BVal p q b):Ctr Tryz.prog bPe [] [.a p.C,.a b.C] [] (λ_:Unit=>⟨.c (.v (.bool true)),[],True⟩):=CtrF.ld (cNe p b h.v h.rl h.f) λg hg=>⟨(),trivial,λ_ _ _ _ hv=>aFq hb hv,rfl,rfl⟩
theorem cNt (p:ProgM) (b:BasM) (h:ExP p) (hb:ExB b):Ctr Tryz.prog bPl [] [.a p.C,.a b.C] [] (λ_:Unit=>⟨.c (.v (.bool true)),[],True⟩):=CtrF.ld (cNj p b h.prg (h.val hb)) λg hg=>⟨(),trivial,λ_ _ _ _ hv=>aFq (by rw[h.pt hb (show PtL p exQ b g.1 g.2 from hg).2];exact h.fsb) hv,rfl,rfl⟩
theorem cNu (p:ProgM) (b:BasM) (h:ExP p) (hb:ExB b):Ctr Tryz.prog bPm [] [.a p.C,.a b.C] [] (λ_:Unit=>⟨.c (.v (.bool true)),[],True⟩):=CtrF.ld (cNk p b h.prg (h.val hb)) λg hg=>⟨(),trivial,λ_ _ _ _ hv=>aFq (by rw[h.mu hb (show MuL p exQ b g.1 g.2 from hg).2];exact h.dual hb) hv,rfl,rfl⟩
theorem cNv (p:ProgM) (b:BasM) (h:ExP p) (hb:ExB b):Ctr Tryz.prog bPk [] [.a p.C,.a b.C] [] (λg:Sl RatM=>⟨.t [.c (fI g),.c (iC 0)],[],Rl g.l [3,0]⟩):=CtrF.re (aWk p b h.prg (h.val hb)) λg hg=>⟨g.1,by have:=h.pt hb (show PtL p exQ b g.1 g.2 from hg).2;rw[<-this];exact(show PtL p exQ b g.1 g.2 from hg).1,rfl,rfl,rfl⟩
theorem bPv (x y:Sl RatM) (hx:Rl x.l [3,0]) (hy:Rl y.l [3,0]):Ctr Tryz.prog aKg [] [.c (fI x),.c (fI y)] [] (λ_:Unit=>⟨.c (.v (.bool true)),[],True⟩):=CtrF.ld (aUu x y hx hy (λq hq=>by
 rcases bZ.1 hq with rfl|hq
 ·exact cNr.le dC
 rw[aH.1 hq];exact cUs.le dC) dC) λg hg=>⟨(),trivial,λ_ _ _ _ hv=>aFq trivial hv,rfl,rfl⟩
abbrev cDl:FuncId:=19
theorem cUt:Ent Tryz.prog cDl:=aU func19 rfl kR
theorem cUu:Tryz.prog.funcs[cDl]? =some Tryz.f19:=func19
abbrev cDm (p:ProgM):BL:=[(42,0,p.C),(3,1,[iC 2,iC 0]),(3,1,[iC 0]),(45,0,[.s 1 2,.s 2 1])]
theorem bPw {p:ProgM}:scB 4 (cDm p):=aB rfl (aB rfl (aB rfl (aB rfl aY)))
theorem bPx:Ctr Tryz.prog cDl [] [] [] (λ_:Unit=>⟨.c (.v (.bool true)),[],True⟩):=by
 refine aW gT cUt cUu rfl rfl rfl bL aS (Sd.sq (aA gT mxd (Sd.sq (aA gT mxd ⟨[],cNq,rfl,rfl,rfl,λp hp=>?_⟩))))
 replace hp:ExP p:=hp
 refine Sd.sq (aA gT mxd ?_)
 refine tSd _ Unit (λ_=>⟨[(1,.c (.p 0 0)),(2,.c (.p 3 0))]++[],[],cDm p,[]⟩) (λ_=>True) ?_ λ_ _=>?_
 ·exact bH (M:=λ_=>true) (base:=[]) (chg:=λ_:Unit=>[(1,.c (.p 0 0)),(2,.c (.p 3 0))]) (bls:=λ_=>cDm p) (fls:=λ_=>[]) (λt d ht=>by cases ht) () trivial rfl ⟨rfl,rfl,rfl,rfl⟩ trivial ⟨rfl,rfl⟩ bL bPw rfl
 refine jV tSd 2 rfl bL (bK [0]) bL rfl λA a1=>⟨_,kV jN (bK [2,0]),iX tSd 3 0 [.s 1 2,cD ⟨A.map λb=>⟨b,0,none⟩,a1,[0]⟩] rfl rfl rfl rfl (oT (k0:=1) rfl (aCq (L:=[0]))) ?_⟩
 refine jV tSd 1 rfl bL (bK [2,0]) bL rfl λA2 a2=>⟨_,rfl,iX tSd 3 1 [cD ⟨A2.map λb=>⟨b,0,none⟩,a2,[2,0]⟩,cD ⟨A.map λb=>⟨b,0,none⟩,a1,[0]⟩] rfl rfl rfl rfl (oT (k0:=0) rfl (aCq (L:=[2,0]))) ?_⟩
 obtain⟨C,hC⟩:∃C:Sl Int,C=⟨A2.map λb=>⟨b,0,none⟩,a2,[2,0]⟩:=⟨_,rfl⟩
 obtain⟨R,hR⟩:∃R:Sl Int,R=⟨A.map λb=>⟨b,0,none⟩,a1,[0]⟩:=⟨_,rfl⟩
 rw[<-hC,<-hR]
 have hb:ExB ⟨C,R⟩:=⟨by rw[hC],by rw[hR]⟩
 refine aA gT mxd ⟨[],cNv p ⟨C,R⟩ hp hb,rfl,rfl,rfl,λx hx=>⟨[],bPu p hp,rfl,rfl,rfl,λr hr=>⟨[],bSo p ⟨C,R⟩ hp.prg (hp.val hb),rfl,rfl,rfl,λ_ _=>?_⟩⟩⟩
 replace hx:Rl x.l [3,0]:=hx
 replace hr:r.c.l=[0,0]/\r.r.l=[2]:=hr
 refine⟨λh1=>⟨[],tC (z:=3) dC,rfl,rfl,rfl,λf hf=>⟨[],aJk,rfl,rfl,rfl,λz hz=>⟨some (λj=>(([f,z]:List RatM).getD j default).C),⟨⟨bL,bL⟩,rfl,λj hj=>?_,kL rfl⟩,λA3 a3 _ _=>⟨λc hc=>(dZ hc).elim,λc hc=>(dZ hc).elim,[],bPv x ⟨A3,a3,[f,z]⟩ hx ⟨rfl,λk hk=>?_⟩,rfl,rfl,rfl,λ_ _=>?_⟩⟩⟩⟩,λh1=>absurd rfl h1⟩
 ·match j,hj with
  |0,_=>rfl
  |1,_=>rfl
 ·match k,hk with
  |0,_=>exact hf
  |1,_=>exact hz
 refine⟨λh2=>⟨[6,7],cNs r [0,0] [2] (by rw[hr.1];decide) (by rw[hr.2];decide) hr.1 hr.2,rfl,rfl,rfl,λ_ _=>⟨[],cNt p ⟨C,R⟩ hp hb,rfl,rfl,rfl,λ_ _=>⟨[],cNu p ⟨C,R⟩ hp hb,rfl,rfl,rfl,λ_ _=>⟨(),trivial,aM rfl rfl trivial⟩⟩⟩⟩,λh2=>absurd rfl h2⟩
theorem cNw (a b:BasM) (h1:a.c.l.length<=4096) (h2:a.r.l.length<=4096) (h:a.c.l=b.c.l/\a.r.l=b.r.l):Ctr Tryz.prog aOk [] [.a a.C,.a b.C] [] (λ_:Unit=>⟨.c (.v (.bool true)),[],True⟩):=CtrF.ld (bSn a b h1 h2) λg hg=>⟨(),trivial,λ_ _ _ _ hv=>aFq h hv,rfl,rfl⟩
abbrev lrB (p:ProgM) (b:BasM):BL:=[(42,0,p.C),(45,0,b.C)]
theorem aLh {p:ProgM} {b:BasM}:scB 2 (lrB p b):=aB rfl (aB rfl aY)
structure BnH (p:ProgM) (q:PrQ) (y:Sl RatM) (ps:List Rat) (B By:Nat):Prop where
 z:PrZ p q y ps B By
 s:Sgd p ps
 c:∀j,j<p.c.l.length->(0<tU q ps p.r.l.length j->(p.c.l.getD j default).pl)/\(tU q ps p.r.l.length j<0->(p.c.l.getD j default).pu)
 b:2+(p.r.l.length+p.c.l.length+1)*(B+p.r.l.length*(By+B+1)+B+By+1)<=4398046511104
section un
variable {p:ProgM} {q:PrQ} {b:BasM} {B:Nat}
theorem BVal.sq (hb:BVal p q b) (hp:PrV p q B):Free (λk l=>Vm.get (q.M (atN (brL b p.r.l.length) k)) (atN (bcL b p.c.l.length) l:Nat)) (brL b p.r.l.length).length (brL b p.r.l.length).length:=λx hx i hi=>aT λhxi=>hb.k ⟨x,⟨i,hi,hxi⟩,λk hk=>by
 have ec:=(fL (P:=λj=>b.c.l.getD j 0=2) p.c.l.length).1
 have er:=(fL (P:=λi=>b.r.l.getD i 0≠2) p.r.l.length).1
 have hn:=hb.n
 rw[<-hx k hk]
 unfold dtn
 refine bM λl hl=>?_
 show Vm.get (jI _ _ (q.M (atN (brL b p.r.l.length) k))) (l:Nat)*x l=_
 have hl2:l<(bcL b p.c.l.length).length:=by omega
 rw[sD (λk l hkl hl=>ec.mono k l hkl hl) (hp.v _ (er.lt k hk)).2.1 hl2]⟩
theorem bPy {P:Nat->Prop} {n m:Nat} {e:Nat->Nat} {f:Nat->Rat} (he:Enm P n m e) (h0:∀j,j<n->¬P j->f j=0):cI f n=cI (λl=>f (e l)) m:=by
 have h1:cI f n=cI (λj=>1*spr m e (λl=>f (e l)) j) n:=bM λj hj=>by
  rw[iU]
  by_cases h:P j
  ·obtain⟨k,hk,rfl⟩:=he.all j hj h
   rw[aFo hk λl hl e2=>he.inj hl hk e2]
  rw[h0 j hj h,aKx λl hl e2=>absurd (he.mem l hl) (by rw[e2];exact h)]
 rw[h1,yI he.lt]
 exact bM λl _=>by rw[iU]
theorem bJi {a c:List Rat} (hl:a.length=c.length) (h:∀k,k<c.length->lQ a k=lQ c k):a=c:=iN hl λk h1 h2=>by
 have:=h k h2
 unfold lQ at this
 rw[aD,aD,aG h1,aG h2] at this
 exact this
theorem bJj (hp:PrV p q B) {i:Nat} (hi:i<p.r.l.length) (x:Nat->Rat):dtl (q.M i) x=cI (λj=>Vm.get (q.M i) (j:Nat)*x j) p.c.l.length:=tE λe he=>⟨((hp.v i hi).2.2 e he).1,((hp.v i hi).2.2 e he).2.1⟩
theorem PtR.uniq (hb:BVal p q b) (hp:PrV p q B) {Bx Bx':Nat} {qs qs':List Rat} (h:PtR p q b Bx qs) (h':PtR p q b Bx' qs'):qs=qs':=by
 have ec:=(fL (P:=λj=>b.c.l.getD j 0=2) p.c.l.length).1
 have er:=(fL (P:=λi=>b.r.l.getD i 0≠2) p.r.l.length).1
 have hn:=hb.n
 have hz:∀l,l<(brL b p.r.l.length).length->lQ qs (atN (bcL b p.c.l.length) l)-lQ qs' (atN (bcL b p.c.l.length) l)=0:=hb.sq hp _ λk hk=>by
  have hi:=er.lt k hk
  have e1:=h.ti _ hi (er.mem k hk)
  have e2:=h'.ti _ hi (er.mem k hk)
  rw[bJj hp hi] at e1 e2
  have e3:cI (λj=>Vm.get (q.M (atN (brL b p.r.l.length) k)) (j:Nat)*(lQ qs j-lQ qs' j)) p.c.l.length=0:=by
   have e4:cI (λj=>Vm.get (q.M (atN (brL b p.r.l.length) k)) (j:Nat)*(lQ qs j-lQ qs' j)) p.c.l.length=cI (λj=>Vm.get (q.M (atN (brL b p.r.l.length) k)) (j:Nat)*lQ qs j+ -1*(Vm.get (q.M (atN (brL b p.r.l.length) k)) (j:Nat)*lQ qs' j)) p.c.l.length:=bM λj _=>by grind
   rw[e4,xJ,kK]
   have e5:=e1.trans e2.symm
   have e1':cI (λj=>Vm.get (q.M (atN (brL b p.r.l.length) k)) (j:Nat)*lQ qs j) p.c.l.length=cI (λj=>Vm.get (q.M (atN (brL b p.r.l.length) k)) (j:Nat)*lQ qs' j) p.c.l.length:=e5
   rw[e1'];grind
  rw[bPy (P:=λj=>b.c.l.getD j 0=2) (m:=(bcL b p.c.l.length).length) (e:=atN (bcL b p.c.l.length)) ec λj hj hs=>by rw[h.x0 j hj hs,h'.x0 j hj hs];grind,hn] at e3
  exact e3
 refine bJi (h.ln.trans h'.ln.symm) λj hj=>?_
 rw[h'.ln] at hj
 by_cases hs:b.c.l.getD j 0=2
 ·obtain⟨l,hl,rfl⟩:=ec.all j hj hs
  have:=hz l (by rw[<-hn];exact hl)
  grind
 rw[h.x0 j hj hs,h'.x0 j hj hs]
end un
def stN (l:List Int) (i:Nat):Int:=if i<l.length then l.getD i 0 else-1
abbrev cDn:FuncId:=65
theorem cUv:Ent Tryz.prog cDn:=aU func65 rfl kR
theorem cUw:Tryz.prog.funcs[cDn]? =some Tryz.f65:=func65
theorem bJk (x:Sl Int) (i:Nat):Ctr Tryz.prog cDn [] [.c (cD x),.c (iC i)] [] (λ_:Unit=>⟨.c (iC (stN x.l i)),[],True⟩):=by
 refine aW gT cUv cUw rfl rfl rfl bL aS (aA gT mxd ⟨λh=>aA gT mxd ?_,λh=>aA gT mxd ?_⟩)
 ·replace h:(i:Int)<(x.l.length:Nat):=h
  have hi:i<x.l.length:=by omega
  rw[show stN x.l i=x.l.getD i 0 from if_pos hi]
  exact⟨i,⟨rfl,hi⟩,(),trivial,aM rfl rfl trivial⟩
 replace h:¬(i:Int)<(x.l.length:Nat):=h
 rw[show stN x.l i=-1 from if_neg oM]
 exact⟨(),trivial,aM rfl rfl trivial⟩
def vcN (p:ProgM) (q:PrQ) (k i:Nat):Rat:=if k<p.c.l.length then Vm.get (q.M i) (k:Nat) else if k=p.c.l.length+i then 1 else 0
abbrev vcG (p:ProgM) (k m:Nat):List (Nat×DV):=[(6,.c (iC m)),(1,.c (iC k)),(2,.c (.p 0 0)),(5,.c (.s 1 p.r.l.length))]
abbrev rvB (p:ProgM) (Z:Nat->RatM):BL:=[(42,0,p.C),(62,3,rtC p.r.l.length Z)]
theorem aLi {p:ProgM} {Z:Nat->RatM}:scB 2 (rvB p Z):=aB rfl (aB (bU eM) aY)
abbrev aWn:FuncId:=131
theorem cNx:Ent Tryz.prog aWn:=aU func131 rfl kR
theorem cNy:Tryz.prog.funcs[aWn]? =some Tryz.f131:=func131
theorem cDo (p:ProgM) (k:Nat) {q:PrQ} {B:Nat} (h:PrV p q B) (hk:k<=16384):Ctr Tryz.prog aWn [] [.a p.C,.c (iC k)] [] (λg:Sl RatM=>⟨.c (fI g),[],g.l.length=p.r.l.length/\∀i,i<p.r.l.length->Cr (g.l.getD i default) (vcN p q k i)⟩):=by
 have hr:=h.r
 have hc:=h.c
 refine aW gT cNx cNy rfl rfl rfl bL aS (aA gT mxd ⟨p.r.l.length,⟨rfl,rfl,by show 56*_<=_;omega,by simp only[maxLen];omega⟩,?_⟩)
 show Sd _ _ _ _ _ _
 refine gH tSd 1 (rtC p.r.l.length λ_=>default) rfl lK.1 lK.2 ?_
 refine cG (λ_=>true) (λg:Nat×(Nat->RatM)=>vcG p k g.1) (λg=>rvB p g.2) (λ_=>[]) (λg=>g.1<=p.r.l.length/\∀i,i<g.1->Cr (g.2 i) (vcN p q k i)) (λg=>p.r.l.length-g.1) λhM=>⟨bH hM (chg:=λg:Nat×(Nat->RatM)=>vcG p k g.1) (bls:=λg=>rvB p g.2) (fls:=λ_=>[]) (0,λ_=>default) ⟨aC _,λi hi=>absurd hi (aF _)⟩ rfl ⟨rfl,rfl⟩ trivial ⟨rfl,rfl,rfl,rfl⟩ bL aLi rfl,λ⟨m,Z⟩ ⟨hm,hZ⟩=>aA gT mxd ⟨λh3=>aA gT mxd ?_,λh3=>aA gT mxd ?_⟩⟩
 all_goals
  replace hm:m<=p.r.l.length:=hm
  replace hZ:∀i,i<m->Cr (Z i) (vcN p q k i):=hZ
 ·replace h3:(m:Int)<(p.r.l.length:Nat):=h3
  have hmn:m<p.r.l.length:=by omega
  have hset:∀(w:RatM) (Z':Nat->RatM),(∀i,i≠m->Z' i=Z i)->Z' m=w->Cr w (vcN p q k m)->∀i,i<m+1->Cr (Z' i) (vcN p q k i):=λw Z' h4 h5 h6 i hi=>by
   by_cases e:i=m
   ·rw[e,h5];exact h6
   rw[h4 i e];exact hZ i oM
  refine⟨[],aJk,rfl,rfl,rfl,λz hz=>⟨m,⟨rfl,hmn,fF hmn⟩,_,gZ hmn,λh4=>aA gT mxd ?_,λh4=>aA gT mxd ?_⟩⟩
  ·replace h4:(k:Int)<(p.c.l.length:Nat):=h4
   have hkc:k<p.c.l.length:=by omega
   have hvm:vcN p q k m=Vm.get (q.M m) (k:Nat):=if_pos hkc
   refine⟨m,⟨rfl,hmn⟩,[],aRc (p.r.l.getD m default).e (k:Nat) (h.rd.r m hmn).e (h.v m hmn).2.1 (h.e m hmn) h.h1 h.hB (by have:=h.len hmn;omega),rfl,rfl,rfl,λg hg=>⟨m,⟨rfl,hmn,fF hmn⟩,_,gZ hmn,(m+1:Nat),wi,bH hM (chg:=λg:Nat×(Nat->RatM)=>vcG p k g.1) (bls:=λg=>rvB p g.2) (fls:=λ_=>[]) (m+1,upd (upd Z m z) m g) ⟨⟨hmn,?_⟩,show p.r.l.length-(m+1)<p.r.l.length-m by omega⟩ rfl ⟨rfl,rfl⟩ trivial ⟨rfl,rfl,rfl,rfl⟩ bL aLi rfl⟩⟩
   exact hset g _ (λi hi=>(bD hi).trans (bD hi)) bJ (by rw[hvm];exact hg)
  replace h4:¬(k:Int)<(p.c.l.length:Nat):=h4
  have hkc:¬k<p.c.l.length:=by omega
  have hvm:vcN p q k m=if k=p.c.l.length+m then 1 else 0:=if_neg hkc
  refine⟨(k:Int)-(p.c.l.length:Nat),wi (h:=⟨rfl,by omega,by omega⟩),λh5=>aA gT mxd ?_,λh5=>aA gT mxd ?_⟩
  ·replace h5:(k:Int)-(p.c.l.length:Nat)=(m:Nat):=h5
   refine⟨[],tC (z:=1) dC,rfl,rfl,rfl,λg hg=>⟨m,⟨rfl,hmn,fF hmn⟩,_,gZ hmn,(m+1:Nat),wi,bH hM (chg:=λg:Nat×(Nat->RatM)=>vcG p k g.1) (bls:=λg=>rvB p g.2) (fls:=λ_=>[]) (m+1,upd (upd Z m z) m g) ⟨⟨hmn,?_⟩,show p.r.l.length-(m+1)<p.r.l.length-m by omega⟩ rfl ⟨rfl,rfl⟩ trivial ⟨rfl,rfl,rfl,rfl⟩ bL aLi rfl⟩⟩
   exact hset g _ (λi hi=>(bD hi).trans (bD hi)) bJ (by rw[hvm,if_pos oM];exact hg)
  replace h5:¬(k:Int)-(p.c.l.length:Nat)=(m:Nat):=h5
  refine⟨(m+1:Nat),wi,bH hM (chg:=λg:Nat×(Nat->RatM)=>vcG p k g.1) (bls:=λg=>rvB p g.2) (fls:=λ_=>[]) (m+1,upd Z m z) ⟨⟨hmn,?_⟩,show p.r.l.length-(m+1)<p.r.l.length-m by omega⟩ rfl ⟨rfl,rfl⟩ trivial ⟨rfl,rfl,rfl,rfl⟩ bL aLi rfl⟩
  exact hset z _ (λi hi=>bD hi) bJ (by rw[hvm,if_neg oM];exact hz)
 replace h3:¬(m:Int)<(p.r.l.length:Nat):=h3
 obtain rfl:m=p.r.l.length:=by omega
 show Sd _ _ _ _ _ _
 refine rT 5 1 (λj=>((nO Z p.r.l.length).getD j default).C) rfl rfl (λj hj=>aAn j hj) (by rw[oV (P:=λj=>(Z j).C) (e:=3) λ_ _=>rfl]) bL eM bL λA c _ _=>aA gT mxd ⟨⟨A,c,nO Z p.r.l.length⟩,⟨rH,λi hi=>?_⟩,aM aFj rfl trivial⟩
 show Cr ((nO Z p.r.l.length).getD i default) _
 rw[xD hi];exact hZ i hi
theorem Ech.enm {Q E:Nat->Nat->Rat} {r c t:Nat} {pv:Nat->Nat} (h:Ech Q E r c c t pv):Enm (λj=>¬Dep Q r c j) c t pv:=⟨h.lt,h.mono,λk hk=>(h.ind (h.lt k hk)).1 ⟨k,hk,rfl⟩,λj hj hd=>(h.ind hj).2 hd⟩
theorem Ech.rows {Q E:Nat->Nat->Rat} {r c t:Nat} {pv:Nat->Nat} (h:Ech Q E r c c t pv):t=r↔Free (λj i=>Q i j) c r:=by
 constructor
 ·rintro rfl
  exact aYl (R0:=pv) (Q:=λj i=>Q i j) h.lt h.enm.free.tr
 exact λhf=>(h.enm.square hf).1
def vcL (p:ProgM) (q:PrQ) (k:Nat):List Rat:=(List.range p.r.l.length).map (vcN p q k)
abbrev aSn (L:List (Sl RatM)):List CV:=L.map λr=>fI r
abbrev bPz (p:ProgM) (L:List (Sl RatM)):BL:=[(42,0,p.C),(55,1,aSn L)]
theorem aFv {L:List (Sl RatM)}:∀c∈aSn L,fK c=true:=λc hc=>by
 obtain⟨r,_,rfl⟩:=cC.1 hc
 rfl
theorem aWo {p:ProgM} {L:List (Sl RatM)}:scB 2 (bPz p L):=aB rfl (aB (bU aFv) aY)
abbrev cDp (l:Sl Int) (k:Nat):List (Nat×DV):=[(6,.c (iC k)),(1,.c (cD l)),(2,.c (.p 0 0)),(5,.c (.s 1 k))]
abbrev aWp:FuncId:=69
theorem cNz:Ent Tryz.prog aWp:=aU func69 rfl kR
theorem cOa:Tryz.prog.funcs[aWp]? =some Tryz.f69:=func69
theorem cDq (p:ProgM) (l:Sl Int) {q:PrQ} {B:Nat} {κ:Nat->Nat} (h:PrV p q B) (hl:l.l.length<=100) (hk:∀k,k<l.l.length->l.l.getD k 0=(κ k:Nat)/\κ k<=16384) (hB:bd B (l.l.length-1)<=4398046511104):Ctr Tryz.prog aWp [] [.a p.C,.c (cD l)] [] (λ_:Unit=>⟨pC (Free (λi k=>vcN p q (κ k) i) p.r.l.length l.l.length),[],True⟩):=by
 have hr:=h.r
 refine aW gT cNz cOa rfl rfl rfl bL aS (aA gT mxd (aIp 5 55 1 rfl bL (aA gT mxd ?_)))
 refine cG (λ_=>true) (λg:List (Sl RatM)=>cDp l g.length) (λg=>bPz p g) (λ_=>[]) (λg=>g.length<=l.l.length/\∀k,k<g.length->Rl (g.getD k cP).l (vcL p q (κ k))) (λg=>l.l.length-g.length) λhM=>⟨bH hM (chg:=λg:List (Sl RatM)=>cDp l g.length) (bls:=λg=>bPz p g) (fls:=λ_=>[]) [] ⟨aC _,λk hk=>absurd hk (aF _)⟩ rfl ⟨rfl,rfl⟩ trivial ⟨rfl,rfl,rfl,rfl⟩ bL aWo rfl,λL ⟨hL,hLr⟩=>aA gT mxd ⟨λh3=>aA gT mxd ?_,λh3=>aA gT mxd ?_⟩⟩
 all_goals
  replace hL:L.length<=l.l.length:=hL
  replace hLr:∀k,k<L.length->Rl (L.getD k cP).l (vcL p q (κ k)):=hLr
 ·replace h3:(L.length:Int)<(l.l.length:Nat):=h3
  have hkl:L.length<l.l.length:=by omega
  obtain⟨c1,c2⟩:=hk _ hkl
  have hv:Ctr Tryz.prog aWn [] [.a p.C,.c (iC (l.l.getD L.length 0))] [] (λg:Sl RatM=>⟨.c (fI g),[],g.l.length=p.r.l.length/\∀i,i<p.r.l.length->Cr (g.l.getD i default) (vcN p q (κ L.length) i)⟩):=by
   rw[c1];exact cDo p (κ L.length) h c2
  refine⟨.treeX [] [2000,1,2002,2003,2004,5] (trS [6,7,1008,2009]),by kernel_rfl,L.length,⟨rfl,hkl⟩,[],hv,rfl,rfl,rfl,λg ⟨hg1,hg2⟩=>⟨rfl,rfl,⟨rfl,by rw[aN,bI],by show L.length+1<=maxLen;simp only[maxLen];omega,by show(L.length+1)*24<=_;omega,λc hc=>(aQ.1 hc).elim (λh=>cY (aFv c h)) λh=>by rw[aH.1 h];rfl⟩,(λc hc=>by rw[aH.1 hc];rfl),(L.length+1:Nat),wi,bH hM (chg:=λg:List (Sl RatM)=>cDp l g.length) (bls:=λg=>bPz p g) (fls:=λ_=>[]) (L++[g]) ⟨⟨by rw[aE];exact hkl,λk hk2=>?_⟩,by show l.l.length-(L++[g]).length<l.l.length-L.length;rw[aE];show _-(_+1)<_;omega⟩ rfl ⟨rfl,?_⟩ trivial ⟨?_,rfl,rfl,?_⟩ bL aWo rfl⟩⟩
  ·rw[aE] at hk2
   replace hk2:k<L.length+1:=hk2
   by_cases e:k=L.length
   ·subst e
    rw[aD,bR (aI _),jA]
    show Rl g.l _
    refine⟨by rw[hg1];unfold vcL;simp,λi hi=>?_⟩
    have hi':i<p.r.l.length:=by unfold vcL at hi;simpa using hi
    have:=hg2 i hi'
    unfold vcL
    simpa[aD,hi'] using this
   rw[aD,bA oM,<-aD]
   exact hLr k oM
  ·show((55,1,aSn L++[fI g]):TypeId×Nat×List CV)=(55,1,aSn (L++[g]))
   unfold aSn
   rw[bG];rfl
  ·show((L.length+1:Nat):Int)=(((L++[g]).length:Nat):Int)
   rw[aE];rfl
  show L.length+1=(L++[g]).length
  rw[aE];rfl
 replace h3:¬(L.length:Int)<(l.l.length:Nat):=h3
 have hn:L.length=l.l.length:=by omega
 have h1:=h.h1
 have hvb:∀k,k<l.l.length->rbL (vcL p q (κ k)) B:=λk hk2 x hx=>by
  obtain⟨i,hi,rfl⟩:=cC.1 hx
  have hi':=cM.1 hi
  unfold vcN
  split
  ·exact oU (h.v i hi').2.1 (h.e i hi') h1
  split
  ·exact aSm.le h1
  exact aAl h1
 have hfb:rbM (λi=>fdF (vcL p q (κ i)) p.r.l.length) l.l.length B:=λi hi=>bEx λj hj=>hvb i hi _ (gD0 (by unfold vcL;simpa using hj))
 show Sd _ _ _ _ _ _
 refine rT 5 1 (λj=>[fI (L.getD j cP)]) rfl rfl (λj hj=>?_) (by rw[aN,bI]) bL aFv bL λA c _ _=>aA gT mxd ⟨[],cJl ⟨A,c,L⟩ (Q:=λi=>vcL p q (κ i)) (r:=l.l.length) (n:=p.r.l.length) ⟨hn,λi hi=>⟨hLr i oM,by unfold vcL;simp⟩⟩ hvb h1 h.hB oM oM,rfl,rfl,rfl,λm hm=>⟨[],cAf m (hm.mr hfb) hfb h1 hB oM oM,rfl,rfl,rfl,λt ⟨E,pv,ht⟩=>⟨(),trivial,aM ?_ rfl trivial⟩⟩⟩
 ·show [fI (L.getD j cP)]=((aSn L).drop (j*1)).take 1
  have hj':j<(aSn L).length:=by rw[aN];exact hj
  rw[bI,dX hj']
  simp[aD,hj]
 show(t:Int)=(l.l.length:Nat)↔Free (λi k=>vcN p q (κ k) i) p.r.l.length l.l.length
 have hq:∀i j,i<l.l.length->j<p.r.l.length->mQ (λi=>fdF (vcL p q (κ i)) p.r.l.length) i j=vcN p q (κ i) j:=λi j hi hj=>by
  show Vm.get (fdF _ _) (j:Nat)=_
  rw[aJy,if_pos ⟨by omega,by omega⟩]
  unfold vcL
  simp[aD,hj]
 have hcg:Free (λj i=>mQ (λi=>fdF (vcL p q (κ i)) p.r.l.length) i j) p.r.l.length l.l.length↔Free (λi k=>vcN p q (κ k) i) p.r.l.length l.l.length:=by
  constructor
  ·exact λhf x hx=>hf x λi hi=>by
    rw[<-hx i hi]
    exact bM λk hk2=>by
     show mQ _ k i*_=vcN p q (κ k) i*_
     rw[hq k i hk2 hi]
  exact λhf x hx=>hf x λi hi=>by
   rw[<-hx i hi]
   exact bM λk hk2=>by
    show vcN p q (κ k) i*_=mQ _ k i*_
    rw[hq k i hk2 hi]
 rw[<-hcg,<-ht.rows]
 omega
theorem Free.sep {Q:Nat->Nat->Rat} {r n:Nat} (h:Free Q r (n+1)):∃x:Nat->Rat,(∀k,k<n->cI (λi=>Q i k*x i) r=0)/\cI (λi=>Q i n*x i) r=1:=by
 have hK:=(fL (P:=λi=>¬Dep (λb i=>Q i b) (n+1) r i) r).1
 obtain⟨K,hK⟩:∃K,Enm (λi=>¬Dep (λb i=>Q i b) (n+1) r i) r (gF (λi=>¬Dep (λb i=>Q i b) (n+1) r i) r).length K:=⟨_,hK⟩
 obtain⟨ht,hf⟩:=hK.square (B:=λb i=>Q i b) h
 rw[ht] at hf hK
 have hT:=hf.tr
 obtain⟨z,⟨a,ha,hza⟩,h3⟩:=aSh (λb k=>if k<n+1 then Q (K k) b else if b=n then 1 else 0) (bF (n+1))
 have h4:∀b,b<n+1->cI (λk=>Q (K k) b*z k) (n+1)+(if b=n then 1 else 0)*z (n+1)=0:=λb hb=>by
  have h5:=h3 b hb
  replace h5:cI (λk=>(if k<n+1 then Q (K k) b else if b=n then 1 else 0)*z k) (n+1)+(if n+1<n+1 then Q (K (n+1)) b else if b=n then 1 else 0)*z (n+1)=0:=h5
  rw[if_neg (jF _)] at h5
  refine Eq.trans ?_ h5
  congr 1
  exact bM λk hk=>by rw[if_pos hk]
 have hz:z (n+1)≠0:=λh0=>by
  have h6:=hT z λb hb=>by
   have:=h4 b hb
   rw[h0,cA,bP] at this
   exact this
  rcases cN (cX ha) with h7|h7
  ·exact hza (h6 a h7)
  rw[h7] at hza;exact hza h0
 have hs:∀b,cI (λi=>Q i b*spr (n+1) K (λl=>(-(z (n+1))⁻¹)*z l) i) r=(-(z (n+1))⁻¹)*cI (λk=>Q (K k) b*z k) (n+1):=λb=>by
  rw[yI hK.lt,<-kK]
  exact bM λk _=>by grind
 refine⟨spr (n+1) K λl=>(-(z (n+1))⁻¹)*z l,λk hk=>?_,?_⟩
 ·have:=h4 k oM
  rw[if_neg oM,dQ,bP] at this
  rw[hs,this,cA]
 have:=h4 n oM
 rw[if_pos rfl,iU] at this
 have h8:=jU _ hz
 rw[hs]
 grind
theorem Dep.cut {Q:Nat->Nat->Rat} {r c c' j:Nat} (h1:j<c) (h2:j<c'):Dep Q r c j->Dep Q r c' j:=λ⟨y,e1,e2,e3⟩=>⟨y,e1,e2,λi hi=>by
 have e4:=e3 i hi
 rw[uN (m:=j+1) oM λl hl _=>by rw[e2 l oM,cA]] at e4
 rw[uN (m:=j+1) oM λl hl _=>by rw[e2 l oM,cA]]
 exact e4⟩
theorem Dep.cut' {Q:Nat->Nat->Rat} {r c c' j:Nat} (h1:j<c) (h2:j<c'):Dep Q r c j↔Dep Q r c' j:=⟨Dep.cut h1 h2,Dep.cut h2 h1⟩
theorem bJl {Q:Nat->Nat->Rat} {r N m:Nat} {x:Nat->Rat} (hm:m<N) (h0:∀l,l<m->cI (λi=>Q i l*x i) r=0) (h1:cI (λi=>Q i m*x i) r≠0):¬Dep Q r N m:=λ⟨y,y1,y2,y3⟩=>by
 have e1:cI (λl=>y l*cI (λb=>Q b l*x b) r) N=0:=by
  have e2:cI (λl=>y l*cI (λb=>Q b l*x b) r) N=cI (λl=>cI (λb=>y l*(Q b l*x b)) r) N:=bM λl _=>kK.symm
  rw[e2,rP]
  refine fQ λb hb=>?_
  have e3:cI (λl=>y l*(Q b l*x b)) N=x b*cI (λl=>Q b l*y l) N:=by
   rw[<-kK];exact bM λl _=>by grind
  rw[e3,y3 b hb,cA]
 have e4:cI (λl=>y l*cI (λb=>Q b l*x b) r) N=cI (λl=>if l=m then cI (λb=>Q b m*x b) r else 0) N:=bM λl hl=>by
  rcases eT l m with h4|h4|h4
  ·rw[h0 l h4,if_neg oM,cA]
  ·rw[if_pos h4,h4,y1,iU]
  rw[y2 l h4,if_neg oM,dQ]
 rw[e4,jO (m:=m) hm λj hj=>if_neg hj,if_pos rfl] at e1
 exact h1 e1
theorem Enm.cong {P P':Nat->Prop} {n m:Nat} {e:Nat->Nat} (h:Enm P n m e) (hp:∀j,j<n->(P j↔P' j)):Enm P' n m e:=⟨h.lt,h.mono,λk hk=>(hp _ (h.lt k hk)).1 (h.mem k hk),λj hj hj'=>h.all j hj ((hp j hj).2 hj')⟩
theorem Enm.snoc {P:Nat->Prop} {n m:Nat} {e:Nat->Nat} (h:Enm P n m e) (hp:P n):Enm P (n+1) (m+1) λk=>if k<m then e k else n:=by
 refine⟨λk hk=>?_,λk l hkl hl=>?_,λk hk=>?_,λj hj hj'=>?_⟩
 ·show(if k<m then e k else n)<_
  split
  ·next h1=>have:=h.lt k h1;omega
  omega
 ·show(if k<m then e k else n)<(if l<m then e l else n)
  rw[if_pos oM]
  split
  ·next h1=>exact h.mono k l hkl h1
  exact h.lt k oM
 ·show P (if k<m then e k else n)
  split
  ·next h1=>exact h.mem k h1
  exact hp
 rcases cN (cX hj) with h1|h1
 ·obtain⟨k,hk,he⟩:=h.all j h1 hj'
  exact⟨k,by omega,by show(if k<m then e k else n)=j;rw[if_pos hk];exact he⟩
 exact⟨m,by omega,by show(if m<m then e m else n)=j;rw[if_neg (jF m),h1]⟩
theorem Enm.span' {Q:Nat->Nat->Rat} {r N m t:Nat} {e:Nat->Nat} (h:Enm (λj=>¬Dep Q r N j) m t e) (hm:m<=N) {x:Nat->Rat} (hx:∀k,k<t->cI (λi=>Q i (e k)*x i) r=0):∀l,l<m->cI (λi=>Q i l*x i) r=0:=
 Enm.span (B:=Q) (m:=r) (R:=m) (t:=t) (K:=e) (h.cong λj hj=>not_congr (Dep.cut' oM hj)) hx
theorem aHk {Q:Nat->Nat->Rat} {r N m t:Nat} {e:Nat->Nat} (h:Enm (λj=>¬Dep Q r N j) m t e) (hm:m<N):Free (λi k=>Q i (if k<t then e k else m)) r (t+1)↔¬Dep Q r N m:=by
 constructor
 ·intro hf
  obtain⟨x,h1,h2⟩:=hf.sep
  refine bJl (x:=x) hm (h.span' oM λk hk=>?_) ?_
  ·have:=h1 k hk
   rw[if_pos hk] at this
   exact this
  rw[if_neg (jF t)] at h2
  rw[h2];decide
 intro hd
 have h2:=(h.snoc (n:=m) hd).cong (P':=λj=>¬Dep Q r (m+1) j) λj hj=>not_congr (Dep.cut' oM hj)
 exact h2.free
theorem cDr {Q:Nat->Nat->Rat} {r N m:Nat} (hm:m<N) (hd:¬Dep Q r N m):∃x:Nat->Rat,(∀l,l<m->cI (λi=>Q i l*x i) r=0)/\cI (λi=>Q i m*x i) r=1:=by
 obtain⟨e,he⟩:∃e,Enm (λj=>¬Dep Q r N j) m (gF (λj=>¬Dep Q r N j) m).length e:=⟨_,(fL m).1⟩
 obtain⟨x,h1,h2⟩:=((aHk he hm).2 hd).sep
 refine⟨x,he.span' oM λk hk=>?_,?_⟩
 ·have:=h1 k hk
  rw[if_pos hk] at this
  exact this
 rw[if_neg (jF _)] at h2
 exact h2
noncomputable def cdK (p:ProgM) (b:BasM) (k:Nat):Nat:=if k<(wnL p b).length then atN (wnL p b) k else p.c.l.length+atN (lfO b.r p.r.l.length) (k-(wnL p b).length)
noncomputable abbrev cdN (p:ProgM) (b:BasM):Nat:=(wnL p b).length+p.r.l.length
noncomputable abbrev cdQ (p:ProgM) (q:PrQ) (b:BasM) (i k:Nat):Rat:=vcN p q (cdK p b k) i
noncomputable abbrev cdP (p:ProgM) (q:PrQ) (b:BasM) (m:Nat):Prop:=¬Dep (cdQ p q b) p.r.l.length (cdN p b) m
open Classical in
structure GrR (p:ProgM) (q:PrQ) (b g:BasM):Prop where
 cl:g.c.l.length=p.c.l.length
 rl:g.r.l.length=p.r.l.length
 c:∀j,j<p.c.l.length->g.c.l.getD j 0=if ∃m,m<cdN p b/\cdP p q b m/\cdK p b m=j then 2 else stC (p.c.l.getD j default) b.c.l j
 r:∀i,i<p.r.l.length->g.r.l.getD i 0=if ∃m,m<cdN p b/\cdP p q b m/\cdK p b m=p.c.l.length+i then 2 else dfR (p.r.l.getD i default).s
section gr
variable {p:ProgM} {q:PrQ} {b g:BasM}
theorem aOl {k:Nat} (hk:k<(wnL p b).length):cdK p b k=atN (wnL p b) k/\cdK p b k<p.c.l.length:=by
 have h1:cdK p b k=atN (wnL p b) k:=if_pos hk
 have:=(zG hk).2.1
 exact⟨h1,by rw[h1];omega⟩
theorem aOm {i:Nat}:cdK p b ((wnL p b).length+i)=p.c.l.length+atN (lfO b.r p.r.l.length) i:=by
 unfold cdK
 rw[if_neg oM,fX]
theorem aHl {i:Nat} (hi:i<p.r.l.length):atN (orL p b) (p.r.l.length-1-i)=atN (lfO b.r p.r.l.length) i:=by
 have hl:=vT (st:=b.r) (n:=p.r.l.length)
 have:=bPt (L:=lfO b.r p.r.l.length) (M:=[]) (k:=p.r.l.length-1-i) oM
 rw[dG,hl,show p.r.l.length-1-(p.r.l.length-1-i)=i by omega] at this
 exact this
theorem bSp {i:Nat} (hi:i<p.r.l.length):atN (lfO b.r p.r.l.length) i<p.r.l.length:=by
 rw[<-aHl hi]
 exact(zF (by rw[tH];omega)).2
theorem aLj {k l:Nat} (hk:k<p.r.l.length) (hl:l<p.r.l.length) (h:atN (orL p b) k=atN (orL p b) l):k=l:=by
 refine aT λhn=>?_
 have h1:p.r.l.length<=p.r.l.length-1:=aLd (n:=p.r.l.length) (m:=p.r.l.length-1) (e:=λi=>i) (f:=λj=>atN (orL p b) (skp l j)) (λi j _ _ e=>e) λi hi=>by
  obtain⟨m,hm,e⟩:=aLe (p:=p) (b:=b) hi
  rw[tH] at hm
  have key:∀m,m<p.r.l.length->m≠l->atN (orL p b) m=i->∃j,j<p.r.l.length-1/\atN (orL p b) (skp l j)=i:=λm hm hml e=>by
   by_cases h5:m<l
   ·exact⟨m,by omega,by unfold skp;rw[if_pos h5];exact e⟩
   exact⟨m-1,by omega,by unfold skp;rw[if_neg oM,show m-1+1=m by omega];exact e⟩
  by_cases e2:m=l
  ·exact key k hk hn (by rw[h,<-e2];exact e)
  exact key m hm e2 e
 omega
theorem cDs {i l:Nat} (hi:i<p.r.l.length) (hl:l<p.r.l.length):cdQ p q b i ((wnL p b).length+l)=if i=atN (lfO b.r p.r.l.length) l then 1 else 0:=by
 show vcN p q (cdK p b _) i=_
 rw[aOm]
 unfold vcN
 rw[if_neg oM]
 by_cases e:i=atN (lfO b.r p.r.l.length) l
 ·rw[if_pos e,if_pos oM]
 rw[if_neg e,if_neg oM]
theorem aDm {l:Nat} (hl:l<p.r.l.length) (x:Nat->Rat):cI (λi=>cdQ p q b i ((wnL p b).length+l)*x i) p.r.l.length=x (atN (lfO b.r p.r.l.length) l):=by
 rw[bM (g:=λi=>x i*if i=atN (lfO b.r p.r.l.length) l then 1 else 0) λi hi=>by rw[cDs hi hl];grind]
 exact aYi (bSp hl)
theorem aLk {i k:Nat} (hk:k<(wnL p b).length):cdQ p q b i k=wnQ p q b i k:=by
 obtain⟨h1,h2⟩:=aOl (p:=p) (b:=b) hk
 show vcN p q (cdK p b k) i=_
 unfold vcN
 rw[if_pos h2,h1]
theorem bJm {k:Nat} (hk:k<(wnL p b).length):cdP p q b k↔¬Dep (wnQ p q b) p.r.l.length (wnL p b).length k:=by
 refine not_congr ((Dep.cut' (by show k<cdN p b;unfold cdN;omega) hk).trans ⟨Dep.cg λi l _ hl=>aLk hl,Dep.cg λi l _ hl=>(aLk hl).symm⟩)
theorem cDt {i:Nat} (hi:i<p.r.l.length):cdP p q b ((wnL p b).length+i)↔Dep (ltQ p q b) (iI p q b).length (orL p b).length (p.r.l.length-1-i):=by
 have hsum:∀(f:Nat->Rat),cI (λk=>f (atN (orL p b) k)) p.r.l.length=cI f p.r.l.length:=λf=>aHd (λj hj=>(zF (by rw[tH];exact hj)).2) λk l hk hl=>aLj hk hl
 rw[tH]
 constructor
 ·intro hd
  obtain⟨x,h1,h2⟩:=cDr (by show _<cdN p b;unfold cdN;omega) hd
  rw[aDm hi] at h2
  refine⟨λk=>if k<p.r.l.length then x (atN (orL p b) k) else 0,?_,λk hk=>?_,λl hl=>?_⟩
  ·show(if _<_ then _ else _)=_
   rw[if_pos oM,aHl hi];exact h2
  ·show(if _<_ then _ else _)=_
   split
   ·next h3=>
    have h4:=h1 ((wnL p b).length+(p.r.l.length-1-k)) oM
    rw[aDm oM,<-aHl oM,show p.r.l.length-1-(p.r.l.length-1-k)=k by omega] at h4
    exact h4
   rfl
  have h3:=(aAw hl).2
  have h4:=h1 (atN (iI p q b) l) oM
  have h5:=hsum λi=>cdQ p q b i (atN (iI p q b) l)*x i
  rw[h4] at h5
  refine Eq.trans (bM λk hk=>?_) h5
  show wnQ p q b (atN (orL p b) k) (atN (iI p q b) l)*(if k<p.r.l.length then x (atN (orL p b) k) else 0)=cdQ p q b (atN (orL p b) k) (atN (iI p q b) l)*x (atN (orL p b) k)
  rw[if_pos hk,aLk h3]
 rintro⟨z,z1,z2,z3⟩
 have hsp:∀k,k<p.r.l.length->spr p.r.l.length (atN (orL p b)) z (atN (orL p b) k)=z k:=λk hk=>aFo hk λl hl e=>aLj hl hk e
 have hsp2:∀k,k<p.r.l.length->spr p.r.l.length (atN (orL p b)) z (atN (lfO b.r p.r.l.length) k)=z (p.r.l.length-1-k):=λk hk=>by rw[<-aHl hk];exact hsp _ oM
 have hv:∀l,l<(wnL p b).length->cI (λi=>wnQ p q b i l*spr p.r.l.length (atN (orL p b)) z i) p.r.l.length=0:=(yJ (p:=p) (q:=q) (b:=b)).span' (aI _) λk hk=>by
  rw[yI λj hj=>(zF (by rw[tH];exact hj)).2]
  exact z3 k hk
 refine bJl (x:=spr p.r.l.length (atN (orL p b)) z) (by show _<cdN p b;unfold cdN;omega) (λl hl=>?_) ?_
 ·by_cases hlw:l<(wnL p b).length
  ·rw[<-hv l hlw]
   exact bM λi _=>by rw[aLk hlw]
  obtain⟨l',rfl⟩:∃l',l=(wnL p b).length+l':=⟨l-(wnL p b).length,by omega⟩
  rw[aDm oM,hsp2 _ oM]
  exact z2 _ oM
 rw[aDm hi,hsp2 i hi,z1];decide
theorem GrR.rp (h:GrR p q b g):RpR p q b g:=by
 classical
 have hcol:∀j,j<p.c.l.length->((∃m,m<cdN p b/\cdP p q b m/\cdK p b m=j)↔∃k,k<(iI p q b).length/\atN (wnL p b) (atN (iI p q b) k)=j):=λj hj=>by
  constructor
  ·rintro⟨m,h1,h2,h3⟩
   by_cases hm:m<(wnL p b).length
   ·obtain⟨k,hk,e⟩:=(yJ (p:=p) (q:=q) (b:=b)).all m hm ((bJm hm).1 h2)
    exact⟨k,hk,by rw[e,<-(aOl hm).1];exact h3⟩
   obtain⟨l',rfl⟩:∃l',m=(wnL p b).length+l':=⟨m-(wnL p b).length,by omega⟩
   rw[aOm] at h3
   omega
  rintro⟨k,hk,e⟩
  have h1:=(aAw hk).2
  exact⟨atN (iI p q b) k,by show _<_+_;omega,(bJm h1).2 ((yJ (p:=p) (q:=q) (b:=b)).mem k hk),by rw[(aOl h1).1];exact e⟩
 have hrow:∀i,i<p.r.l.length->((∃m,m<cdN p b/\cdP p q b m/\cdK p b m=p.c.l.length+i)↔∀k,k<(ltL p q b).length->atN (ltL p q b) k≠i):=λi hi=>by
  obtain⟨a,ha,hae⟩:=aLe (p:=p) (b:=b) hi
  have ha':a<p.r.l.length:=by rw[tH] at ha;exact ha
  have hal:atN (lfO b.r p.r.l.length) (p.r.l.length-1-a)=i:=by
   rw[<-aHl oM,show p.r.l.length-1-(p.r.l.length-1-a)=a by omega];exact hae
  have hra:=cDt (p:=p) (q:=q) (b:=b) (i:=p.r.l.length-1-a) oM
  rw[show p.r.l.length-1-(p.r.l.length-1-a)=a by omega] at hra
  constructor
  ·rintro⟨m,h1,h2,h3⟩ k hk e
   have hmw:¬m<(wnL p b).length:=λhm=>by
    have:=(aOl (p:=p) (b:=b) hm).2
    omega
   obtain⟨l',rfl⟩:∃l',m=(wnL p b).length+l':=⟨m-(wnL p b).length,by omega⟩
   rw[aOm] at h3
   have hl':l'<p.r.l.length:=by replace h1:_<_+_:=h1;omega
   have e1:l'=p.r.l.length-1-a:=by
    have:=aLj (p:=p) (b:=b) (k:=p.r.l.length-1-l') (l:=a) oM ha' (by rw[aHl hl',hae];omega)
    omega
   rw[e1] at h2
   have hd:=hra.1 h2
   rw[bJd hk] at e
   have hk2:k<(ltI p q b).length:=by rw[<-lt_len];exact hk
   have h5:=aLf.lt k hk2
   rw[tH] at h5
   have e2:=aLj (p:=p) (b:=b) h5 ha' (e.trans hae.symm)
   have h6:=aLf.mem k hk2
   rw[e2] at h6
   exact h6 hd
  intro hn
  refine⟨(wnL p b).length+(p.r.l.length-1-a),by show _<_+_;omega,hra.2 (aT λhd=>?_),by rw[aOm,hal]⟩
  obtain⟨k,hk,e⟩:=(aLf (p:=p) (q:=q) (b:=b)).all a ha hd
  have hk2:k<(ltL p q b).length:=by rw[lt_len];exact hk
  exact hn k hk2 (by rw[bJd hk2,e];exact hae)
 refine⟨h.cl,h.rl,λk hk=>?_,λj hj hn=>?_,λk hk=>?_,λi hi hn=>?_⟩
 ·have h1:=bSl hk
  rw[h.c _ h1.1]
  exact if_pos ((hcol _ h1.1).2 ⟨k,hk,rfl⟩)
 ·rw[h.c j hj]
  exact if_neg λhh=>by
   obtain⟨k,hk,e⟩:=(hcol j hj).1 hh
   exact hn k hk e
 ·have h1:=(aSl hk).2
  rw[h.r _ h1]
  exact if_neg λhh=>(hrow _ h1).1 hh k hk rfl
 rw[h.r i hi]
 exact if_pos ((hrow i hi).2 hn)
end gr
theorem bJn {P P':Prop} [Decidable P] [Decidable P'] (h:P↔P'):LeC (.b P inferInstance) (.b P' inferInstance):=λρ n w x hx=>by
 cases hx
 rw[show decide P=decide P' from decide_eq_decide.2 h]
 exact Rc.b _ _
theorem aLl {l:List Int} {j:Nat}:stN l j=2↔l.getD j 0=2:=by
 unfold stN
 by_cases h:j<l.length
 ·rw[if_pos h]
 rw[if_neg h,aD,pN oM]
 exact⟨λh=>by omega,λh=>by change (0:Int)=2 at h;omega⟩
theorem bJo {P:Nat->Prop} {n m:Nat} (h:∀j,P j->j<m):gF P n=gF P (min n m):=by
 by_cases hn:n<=m
 ·rw[eH hn]
 rw[Nat.min_eq_right oM]
 have:∀k,gF P (m+k)=gF P m:=λk=>by
  induction k with
  |zero=>rfl
  |succ k ih=>rw[show m+(k+1)=(m+k)+1 by omega,mF λhh=>by have:=h _ hh;omega,ih]
 have h2:=this (n-m)
 rw[show m+(n-m)=n by omega] at h2
 exact h2
noncomputable def cdA (p:ProgM) (b:BasM):Nat->List Int
 |0=>gF (λj=>stN b.c.l j=2) p.c.l.length
 |t+1=>cdA p b t++(gF (λi=>stN b.r.l i=2↔t=0) p.r.l.length).map λz=>(p.c.l.length:Int)+z
noncomputable def cdI (p:ProgM) (b:BasM) (t i:Nat):List Int:=cdA p b t++(gF (λi=>stN b.r.l i=2↔t=0) i).map λz=>(p.c.l.length:Int)+z
theorem aWq (p:ProgM) (b:BasM) (t:Nat):cdI p b t p.r.l.length=cdA p b (t+1):=rfl
theorem aOn {p:ProgM} {b:BasM} {t:Nat}:cdI p b t 0=cdA p b t:=by
 unfold cdI
 exact dG _
theorem bQa {p:ProgM} {b:BasM} {t i:Nat} (h:stN b.r.l i=2↔t=0):cdI p b t (i+1)=cdI p b t i++[(p.c.l.length:Int)+(i:Nat)]:=by
 unfold cdI
 rw[jP (P:=λi=>stN b.r.l i=2↔t=0) h,bG,cU];rfl
theorem cDu {p:ProgM} {b:BasM} {t i:Nat} (h:¬(stN b.r.l i=2↔t=0)):cdI p b t (i+1)=cdI p b t i:=by
 unfold cdI
 rw[mF (P:=λi=>stN b.r.l i=2↔t=0) h]
theorem aLm {p:ProgM} {b:BasM} {i:Nat}:∀t,(cdI p b t i).length<=p.c.l.length+t*p.r.l.length+i
 |0=>by
  unfold cdI cdA
  rw[aE,aN]
  have h1:=iD (P:=λj=>stN b.c.l j=2) (k:=p.c.l.length)
  have h2:=iD (P:=λi=>stN b.r.l i=2↔0=0) (k:=i)
  omega
 |t+1=>by
  unfold cdI
  rw[aE,aN]
  have h1:=aLm (p:=p) (b:=b) (i:=p.r.l.length) t
  rw[aWq] at h1
  have h2:=iD (P:=λi=>stN b.r.l i=2↔t+1=0) (k:=i)
  rw[dJ,iT]
  omega
noncomputable abbrev bsL (p:ProgM) (b:BasM) (j:Nat):List Int:=(List.range j).map λj=>stC (p.c.l.getD j default) b.c.l j
theorem cOb {p:ProgM} {b:BasM} {j:Nat} {v:Int} (hv:v=stC (p.c.l.getD j default) b.c.l j):bsL p b j++[v]=bsL p b (j+1):=by
 unfold bsL
 rw[gQ,bG,hv];rfl
abbrev drL (p:ProgM) (j:Nat):List Int:=(List.range j).map λj=>dfR (p.r.l.getD j default).s
theorem bSq {p:ProgM} {j:Nat}:drL p j++[dfR (p.r.l.getD j default).s]=drL p (j+1):=by
 unfold drL
 rw[gQ,bG];rfl
theorem pP (L:List Int):flatR L.length (λj=>[iC (L.getD j 0)])=L.map iC:=by
 have h:∀n,n<=L.length->flatR n (λj=>[iC (L.getD j 0)])=(L.take n).map iC:=λn=>by
  induction n with
  |zero=>exact λ_=>rfl
  |succ n ih=>
   intro hn
   rw[gR,ih oM,dF,bG]
   congr 1
   rw[aD,aG oM]
   rfl
 rw[h _ (aI _),cW]
theorem aWr {P Q:Prop} [Decidable P] [Decidable Q] (h:P↔Q) (a b:Int):(if P then a else b)=if Q then a else b:=by
 by_cases hp:P
 ·rw[if_pos hp,if_pos (h.1 hp)]
 rw[if_neg hp,if_neg λhq=>hp (h.2 hq)]
section cd
variable {p:ProgM} {q:PrQ} {b:BasM}
theorem bJp:cdA p b 2=wnL p b++(lfO b.r p.r.l.length).map λz=>(p.c.l.length:Int)+z:=by
 have e0:gF (λj=>stN b.c.l j=2) p.c.l.length=wnL p b:=by
  rw[show gF (λj=>stN b.c.l j=2) p.c.l.length=gF (λj=>b.c.l.getD j 0=2) p.c.l.length from oD _ λj _=>aLl]
  refine bJo λj hj=>aT λhn=>?_
  rw[aD,pN oM] at hj
  change (0:Int)=2 at hj
  omega
 have hbr:∀i,stN b.r.l i=2↔qJ b.r i:=λi=>by
  rw[aLl]
  refine⟨λhi=>⟨aT λhn=>?_,hi⟩,λhi=>hi.2⟩
  rw[aD,pN oM] at hi
  change (0:Int)=2 at hi
  omega
 have e1:gF (λi=>stN b.r.l i=2↔0=0) p.r.l.length=gF (qJ b.r) p.r.l.length:=oD _ λi _=>by rw[hbr];simp
 have e2:gF (λi=>stN b.r.l i=2↔1=0) p.r.l.length=gF (λi=>¬qJ b.r i) p.r.l.length:=oD _ λi _=>by rw[hbr];simp
 show(gF _ _++List.map _ (gF (λi=>stN b.r.l i=2↔0=0) _))++List.map _ (gF (λi=>stN b.r.l i=2↔1=0) _)=_
 rw[e0,e1,e2]
 unfold lfO
 rw[bG,cU]
theorem aLn:(cdA p b 2).length=cdN p b:=by
 rw[bJp,aE,aN,vT]
theorem cDv {m:Nat} (hm:m<cdN p b):(cdA p b 2).getD m 0=(cdK p b m:Nat):=by
 rw[bJp]
 unfold cdK
 by_cases h:m<(wnL p b).length
 ·rw[if_pos h,aD,bA h,<-aD]
  exact(zG h).1
 have hi:m-(wnL p b).length<(lfO b.r p.r.l.length).length:=by rw[vT];unfold cdN at hm;omega
 have h2:=(cCx (n:=p.r.l.length) (λz hz=>aWm hz) hi).1
 rw[if_neg h,aD,bR oM,dW]
 rw[aD] at h2
 cases e:(lfO b.r p.r.l.length)[m-(wnL p b).length]? with
 |none=>rw[List.getElem?_eq_none_iff] at e;omega
 |some z=>
  rw[e] at h2
  change z=_ at h2
  show(p.c.l.length:Int)+z=_
  rw[h2];omega
theorem aSo {m:Nat} (hm:m<cdN p b):cdK p b m<p.c.l.length+p.r.l.length:=by
 by_cases h:m<(wnL p b).length
 ·have:=(aOl h).2;omega
 obtain⟨i,rfl⟩:∃i,m=(wnL p b).length+i:=⟨m-(wnL p b).length,by omega⟩
 rw[aOm]
 have:=bSp (p:=p) (b:=b) (i:=i) (by unfold cdN at hm;omega)
 omega
open Classical in
noncomputable def gcN (p:ProgM) (q:PrQ) (b:BasM) (m j:Nat):Int:=if ∃m',m'<m/\cdP p q b m'/\cdK p b m'=j then 2 else stC (p.c.l.getD j default) b.c.l j
open Classical in
noncomputable def grN (p:ProgM) (q:PrQ) (b:BasM) (m i:Nat):Int:=if ∃m',m'<m/\cdP p q b m'/\cdK p b m'=p.c.l.length+i then 2 else dfR (p.r.l.getD i default).s
theorem bSr {m k:Nat} (h:¬(cdP p q b m/\cdK p b m=k)):(∃m',m'<m+1/\cdP p q b m'/\cdK p b m'=k)↔∃m',m'<m/\cdP p q b m'/\cdK p b m'=k:=by
 constructor
 ·rintro⟨m',h1,h2,h3⟩
  refine⟨m',?_,h2,h3⟩
  rcases cN (cX h1) with h4|h4
  ·exact h4
  rw[h4] at h2 h3;exact absurd ⟨h2,h3⟩ h
 rintro⟨m',h1,h2⟩
 exact⟨m',by omega,h2⟩
theorem aSp {m j:Nat} (h:¬(cdP p q b m/\cdK p b m=j)):gcN p q b (m+1) j=gcN p q b m j:=by
 unfold gcN
 classical exact aWr (bSr h) _ _
theorem aSq {m i:Nat} (h:¬(cdP p q b m/\cdK p b m=p.c.l.length+i)):grN p q b (m+1) i=grN p q b m i:=by
 unfold grN
 classical exact aWr (bSr h) _ _
theorem bQb {m j:Nat} (h:cdP p q b m):(if j=cdK p b m then 2 else gcN p q b m j)=gcN p q b (m+1) j:=by
 by_cases e:j=cdK p b m
 ·rw[if_pos e]
  exact(if_pos ⟨m,bF m,h,e.symm⟩).symm
 rw[if_neg e,aSp λhh=>e hh.2.symm]
theorem bQc {m i i0:Nat} (h:cdP p q b m) (hk:cdK p b m=p.c.l.length+i0):(if i=i0 then 2 else grN p q b m i)=grN p q b (m+1) i:=by
 by_cases e:i=i0
 ·rw[if_pos e]
  exact(if_pos ⟨m,bF m,h,by rw[hk,e]⟩).symm
 rw[if_neg e,aSq λhh=>e oM]
noncomputable def chN (p:ProgM) (q:PrQ) (b:BasM) (m:Nat):List Int:=(jY (cdQ p q b) p.r.l.length (cdN p b) m).map λz=>((cdK p b z.toNat:Nat):Int)
theorem bQd {m:Nat} (h:cdP p q b m):chN p q b (m+1)=chN p q b m++[((cdK p b m:Nat):Int)]:=by
 unfold chN
 rw[aOf h,bG];rfl
theorem cDw {m:Nat} (h:¬cdP p q b m):chN p q b (m+1)=chN p q b m:=by
 unfold chN
 rw[aVy (eE.1 h)]
theorem aWs {m:Nat}:(chN p q b m).length<=m:=by
 unfold chN
 rw[aN];exact aFp
theorem aLo {m:Nat}:(chN p q b m).length=(jY (cdQ p q b) p.r.l.length (cdN p b) m).length:=by
 unfold chN
 rw[aN]
theorem cDx {m k:Nat} {L:List Int} (hm:m<cdN p b) (hr:p.r.l.length<=20) (hc:p.c.l.length<=20) (hL:L=chN p q b m) (hk:k<(L++[((cdK p b m:Nat):Int)]).length):(L++[((cdK p b m:Nat):Int)]).getD k 0=(cdK p b (if k<(jY (cdQ p q b) p.r.l.length (cdN p b) m).length then atN (jY (cdQ p q b) p.r.l.length (cdN p b) m) k else m):Nat)/\cdK p b (if k<(jY (cdQ p q b) p.r.l.length (cdN p b) m).length then atN (jY (cdQ p q b) p.r.l.length (cdN p b) m) k else m)<=16384:=by
 have he:=(fL (P:=λj=>¬Dep (cdQ p q b) p.r.l.length (cdN p b) j) m).1
 subst hL
 by_cases h1:k<(jY (cdQ p q b) p.r.l.length (cdN p b) m).length
 ·rw[if_pos h1]
  have h2:=aSo (p:=p) (b:=b) (m:=atN (jY (cdQ p q b) p.r.l.length (cdN p b) m) k) (by have h5:atN (jY (cdQ p q b) p.r.l.length (cdN p b) m) k<m:=he.lt k h1;omega)
  refine⟨?_,by omega⟩
  rw[aD,bA (by rw[aLo];exact h1)]
  unfold chN atN
  simp[aD,h1]
 rw[if_neg h1]
 have h2:=aSo hm
 refine⟨?_,by omega⟩
 rw[aE,aLo] at hk
 replace hk:k<_+1:=hk
 obtain rfl:k=(chN p q b m).length:=by rw[aLo];omega
 rw[aD,bR (aI _),jA]
 rfl
end cd
abbrev rrO:List CV:=[.v (.slice none 0 0),.v (.slice none 0 0)]
abbrev aYn (p:ProgM) (b:BasM) (W:List Int):BL:=[(42,0,p.C),(45,0,b.C),(45,0,rrO),(3,1,W.map iC)]
theorem aLp {p:ProgM} {b:BasM} {W:List Int}:scB 4 (aYn p b W):=aB rfl (aB rfl (aB rfl (aB (bU (bK _)) aY)))
abbrev bJq (p:ProgM):List (Nat×DV):=[(2,.c (.p 0 0)),(3,.c (.p 1 0)),(4,.c (.p 2 0)),(5,.c (iC (p.c.l.length:Nat)))]
abbrev bQe (p:ProgM) (n j:Nat):List (Nat×DV):=(7,.c (iC j))::(6,.c (.s 3 n))::bJq p
abbrev rrZ:List CV:=dI 2 λj=> .b (j=0) inferInstance
abbrev aGh (p:ProgM) (b:BasM) (W:List Int):BL:=aYn p b W++[(4,1,rrZ)]
theorem aAx {p:ProgM} {b:BasM} {W:List Int}:scB 5 (aGh p b W):=aB rfl (aB rfl (aB rfl (aB (bU (bK _)) (aB rfl aY))))
abbrev bQf (p:ProgM) (n t:Nat):List (Nat×DV):=(38,.c (iC t))::(36,.c (.s 4 2))::(37,.c (iC 2))::(6,.c (.s 3 n))::bJq p
abbrev bQg (p:ProgM) (n t i:Nat):List (Nat×DV):=(10,.c (iC i))::(9,.c (.b (t=0) inferInstance))::bQf p n t
abbrev aCs (p:ProgM) (b:BasM) (W C R:List Int):BL:=aGh p b W++[(45,0,[.s 6 C.length,.s 7 R.length]),(3,1,C.map iC),(3,1,R.map iC)]
theorem yK {p:ProgM} {b:BasM} {W C R:List Int}:scB 8 (aCs p b W C R):=aB rfl (aB rfl (aB rfl (aB (bU (bK _)) (aB rfl (aB rfl (aB (bU (bK _)) (aB (bU (bK _)) aY)))))))
abbrev aLq (p:ProgM) (b:BasM) (W:List Int) (F G:Nat->Int):BL:=aGh p b W++[(45,0,[.s 6 p.c.l.length,.s 7 p.r.l.length]),(3,1,dI p.c.l.length λj=>iC (F j)),(3,1,dI p.r.l.length λj=>iC (G j))]
theorem aDn {p:ProgM} {b:BasM} {W:List Int} {F G:Nat->Int}:scB 8 (aLq p b W F G):=aB rfl (aB rfl (aB rfl (aB (bU (bK _)) (aB rfl (aB rfl (aB (bU (aX λ_ _=>rfl)) (aB (bU (aX λ_ _=>rfl)) aY)))))))
theorem bQh {p:ProgM} {b:BasM} {W:List Int} {F G:Nat->Int}:aLq p b W F G=aCs p b W ((List.range p.c.l.length).map F) ((List.range p.r.l.length).map G):=by
 unfold aLq aCs
 rw[sE,sE,aN,aN,fJ,fJ]
abbrev bJr (p:ProgM) (n j:Nat):List (Nat×DV):=(12,.c (iC j))::(11,.c (.p 5 0))::(6,.c (.s 3 n))::bJq p
abbrev cDy (p:ProgM) (n j:Nat):List (Nat×DV):=(14,.c (iC j))::(11,.c (.p 5 0))::(6,.c (.s 3 n))::bJq p
abbrev bJs (p:ProgM) (n:Nat) (ch:Sl Int) (m:Nat):List (Nat×DV):=(117,.c (iC m))::(15,.c (cD ch))::(115,.c (.s 3 n))::(116,.c (iC n))::(11,.c (.p 5 0))::bJq p
abbrev bQi:FuncId:=22
theorem cUx:Ent Tryz.prog bQi:=aU func22 rfl kR
theorem cUy:Tryz.prog.funcs[bQi]? =some Tryz.f22:=func22
theorem cOc (p:ProgM) (b:BasM) {q:PrQ} {B:Nat} (h:PrV p q B) (hr:p.r.l.length<=20) (hc:p.c.l.length<=20) (hB:bd B (p.c.l.length+p.r.l.length)<=4398046511104):Ctr Tryz.prog bQi [] [.a p.C,.a b.C] [] (λg:BasM=>⟨.a g.C,[],RpR p q b g⟩):=by
 classical
 refine aW gT cUx cUy rfl rfl rfl bL aS (aA gT mxd (aIp 6 3 1 rfl bL (aA gT mxd ?_)))
 refine cG (λ_=>true) (λj:Nat=>bQe p (gF (λj=>stN b.c.l j=2) j).length j) (λj=>aYn p b (gF (λj=>stN b.c.l j=2) j)) (λ_=>[]) (λj=>j<=p.c.l.length) (λj=>p.c.l.length-j) λhM=>⟨bH hM (chg:=λj:Nat=>bQe p (gF (λj=>stN b.c.l j=2) j).length j) (bls:=λj=>aYn p b (gF (λj=>stN b.c.l j=2) j)) (fls:=λ_=>[]) 0 (aC _) rfl ⟨rfl,rfl,rfl,rfl⟩ trivial ⟨rfl,rfl,rfl,rfl,rfl,rfl⟩ bL aLp rfl,λj hj=>aA gT mxd ⟨λh1=>aA gT mxd ?_,λh1=>aA gT mxd ?_⟩⟩
 all_goals replace hj:j<=p.c.l.length:=hj
 ·replace h1:(j:Int)<(p.c.l.length:Nat):=h1
  refine⟨[],bJk b.c j,rfl,rfl,rfl,λ_ _=>⟨λh2=>aA gT mxd ?_,λh2=>aA gT mxd ?_⟩⟩
  ·replace h2:stN b.c.l j=2:=h2
   have hyes:=jP (P:=λj=>stN b.c.l j=2) (k:=j) h2
   refine⟨apI (x:=gF (λj=>stN b.c.l j=2) j) (by have:=iD (P:=λj=>stN b.c.l j=2) (k:=j);omega),(λc hc=>by rw[aH.1 hc];rfl),(j+1:Nat),wi,bH hM (chg:=λj:Nat=>bQe p (gF (λj=>stN b.c.l j=2) j).length j) (bls:=λj=>aYn p b (gF (λj=>stN b.c.l j=2) j)) (fls:=λ_=>[]) (j+1) ⟨by show j+1<=_;omega,show p.c.l.length-(j+1)<p.c.l.length-j by omega⟩ rfl ⟨rfl,rfl,rfl,?_⟩ trivial ⟨rfl,?_,rfl,rfl,rfl,rfl⟩ bL aLp rfl⟩
   ·show(_,_,(gF (λj=>stN b.c.l j=2) j).map iC++[iC (j:Nat)])=(_,_,(gF (λj=>stN b.c.l j=2) (j+1)).map iC)
    rw[hyes,bG];rfl
   show(gF (λj=>stN b.c.l j=2) j).length+1=(gF (λj=>stN b.c.l j=2) (j+1)).length
   rw[hyes,aE];rfl
  replace h2:¬stN b.c.l j=2:=h2
  have hno:=mF (P:=λj=>stN b.c.l j=2) (k:=j) h2
  refine⟨(j+1:Nat),wi,bH hM (chg:=λj:Nat=>bQe p (gF (λj=>stN b.c.l j=2) j).length j) (bls:=λj=>aYn p b (gF (λj=>stN b.c.l j=2) j)) (fls:=λ_=>[]) (j+1) ⟨by show j+1<=_;omega,show p.c.l.length-(j+1)<p.c.l.length-j by omega⟩ rfl ⟨rfl,rfl,rfl,?_⟩ trivial ⟨rfl,?_,rfl,rfl,rfl,rfl⟩ bL aLp rfl⟩
  ·show(_,_,(gF (λj=>stN b.c.l j=2) j).map iC)=(_,_,(gF (λj=>stN b.c.l j=2) (j+1)).map iC)
   rw[hno]
  show(gF (λj=>stN b.c.l j=2) j).length=(gF (λj=>stN b.c.l j=2) (j+1)).length
  rw[hno]
 replace h1:¬(j:Int)<(p.c.l.length:Nat):=h1
 obtain rfl:j=p.c.l.length:=by omega
 refine aA gT mxd ?_
 show Sd _ _ _ _ _ _
 refine gH tSd 4 rrZ rfl rfl (λk c c' h1 h2=>?_) ?_
 ·match k,h1,h2 with
  |0,h1,h2=>
   obtain rfl:=oC h1
   obtain rfl:=oC (show some (CV.b ((0:Nat)=0) inferInstance)=some c' from h2)
   exact bJn (P:=true=true) (P':=(0:Nat)=0) (by simp)
  |1,h1,h2=>
   obtain rfl:=oC h1
   obtain rfl:=oC (show some (CV.b ((1:Nat)=0) inferInstance)=some c' from h2)
   exact bJn (P:=false=true) (P':=(1:Nat)=0) (by simp)
  |k+2,h1,h2=>cases h1
 refine cG (λ_=>true) (λt:Nat=>bQf p (cdA p b t).length t) (λt=>aGh p b (cdA p b t)) (λ_=>[]) (λt=>t<=2) (λt=>2-t) λhM=>⟨bH hM (chg:=λt:Nat=>bQf p (cdA p b t).length t) (bls:=λt=>aGh p b (cdA p b t)) (fls:=λ_=>[]) 0 (aC _) rfl ⟨rfl,rfl,rfl,rfl,rfl⟩ trivial ⟨rfl,rfl,rfl,rfl,rfl,rfl,rfl,rfl⟩ bL aAx rfl,λt ht=>aA gT mxd ⟨λh2=>aA gT mxd ?_,λh2=>aA gT mxd ?_⟩⟩
 all_goals replace ht:t<=2:=ht
 ·replace h2:(t:Int)<2:=h2
  have ht2:t<2:=by omega
  refine⟨t,⟨rfl,ht2,cQ ht2⟩,_,eB ht2,?_⟩
  refine cG (λ_=>true) (λi:Nat=>bQg p (cdI p b t i).length t i) (λi=>aGh p b (cdI p b t i)) (λ_=>[]) (λi=>i<=p.r.l.length) (λi=>p.r.l.length-i) λhM2=>⟨bH hM2 (chg:=λi:Nat=>bQg p (cdI p b t i).length t i) (bls:=λi=>aGh p b (cdI p b t i)) (fls:=λ_=>[]) 0 (aC _) rfl ⟨rfl,rfl,rfl,?_,rfl⟩ trivial ⟨rfl,lF,rfl,rfl,rfl,?_,rfl,rfl,rfl,rfl⟩ bL aAx rfl,λi hi=>aA gT mxd ⟨λh3=>aA gT mxd ?_,λh3=>aA gT mxd ?_⟩⟩
  ·show((3,1,(cdA p b t).map iC):TypeId×Nat×List CV)=(3,1,(cdI p b t 0).map iC)
   rw[aOn]
  ·show(cdA p b t).length=(cdI p b t 0).length
   rw[aOn]
  all_goals replace hi:i<=p.r.l.length:=hi
  ·replace h3:(i:Int)<(p.r.l.length:Nat):=h3
   have hlen:=aLm (p:=p) (b:=b) (i:=i) t
   have hlen2:t*p.r.l.length<=1*p.r.l.length:=aZ _ oM
   refine⟨[],bJk b.r i,rfl,rfl,rfl,λ_ _=>⟨λh4=>aA gT mxd ?_,λh4=>aA gT mxd ?_⟩⟩
   ·replace h4:stN b.r.l i=2↔t=0:=h4
    have hyes:=bQa (p:=p) h4
    refine⟨(p.c.l.length:Int)+(i:Nat),wi (h:=⟨rfl,by omega,by omega⟩),apI (x:=cdI p b t i) oM,(λc hc=>cY (kL (l:=rrZ) rfl c hc)),(λc hc=>by rw[aH.1 hc];rfl),(i+1:Nat),wi,bH hM2 (chg:=λi:Nat=>bQg p (cdI p b t i).length t i) (bls:=λi=>aGh p b (cdI p b t i)) (fls:=λ_=>[]) (i+1) ⟨by show i+1<=_;omega,show p.r.l.length-(i+1)<p.r.l.length-i by omega⟩ rfl ⟨rfl,rfl,rfl,?_,rfl⟩ trivial ⟨rfl,lF,rfl,rfl,rfl,?_,rfl,rfl,rfl,rfl⟩ bL aAx rfl⟩
    ·show(_,_,(cdI p b t i).map iC++[iC _])=(_,_,(cdI p b t (i+1)).map iC)
     rw[hyes,bG];rfl
    show(cdI p b t i).length+1=(cdI p b t (i+1)).length
    rw[hyes,aE];rfl
   replace h4:¬(stN b.r.l i=2↔t=0):=h4
   have hno:=cDu (p:=p) h4
   refine⟨(i+1:Nat),wi,bH hM2 (chg:=λi:Nat=>bQg p (cdI p b t i).length t i) (bls:=λi=>aGh p b (cdI p b t i)) (fls:=λ_=>[]) (i+1) ⟨by show i+1<=_;omega,show p.r.l.length-(i+1)<p.r.l.length-i by omega⟩ rfl ⟨rfl,rfl,rfl,?_,rfl⟩ trivial ⟨rfl,lF,rfl,rfl,rfl,?_,rfl,rfl,rfl,rfl⟩ bL aAx rfl⟩
   ·show(_,_,(cdI p b t i).map iC)=(_,_,(cdI p b t (i+1)).map iC)
    rw[hno]
   show(cdI p b t i).length=(cdI p b t (i+1)).length
   rw[hno]
  replace h3:¬(i:Int)<(p.r.l.length:Nat):=h3
  obtain rfl:i=p.r.l.length:=by omega
  exact⟨(t+1:Nat),wi,bH hM (chg:=λt:Nat=>bQf p (cdA p b t).length t) (bls:=λt=>aGh p b (cdA p b t)) (fls:=λ_=>[]) (t+1) ⟨by show t+1<=2;omega,show 2-(t+1)<2-t by omega⟩ rfl ⟨rfl,rfl,rfl,rfl,rfl⟩ trivial ⟨rfl,rfl,rfl,rfl,rfl,rfl,rfl,rfl⟩ bL aAx rfl⟩
 replace h2:¬(t:Int)<2:=h2
 obtain rfl:t=2:=by omega
 have hNl:(cdA p b 2).length<=60:=by
  have:=aLm (p:=p) (b:=b) (i:=p.r.l.length) 1
  rw[aWq] at this
  replace this:(cdA p b 2).length<=_:=this
  omega
 obtain⟨CD,hCD⟩:∃CD,CD=cdA p b 2:=⟨_,rfl⟩
 rw[<-hCD] at hNl ⊢
 refine aA gT mxd ?_
 show Sd _ _ _ _ _ _
 refine vS 5 0 3 1 rfl rfl bL rfl ?_
 show Sd _ _ _ _ _ _
 refine vS 5 1 3 1 rfl rfl bL rfl ?_
 show Sd _ _ _ _ _ _
 refine cG (λ_=>true) (λj:Nat=>bJr p CD.length j) (λj=>aCs p b CD (bsL p b j) []) (λ_=>[]) (λj=>j<=p.c.l.length) (λj=>p.c.l.length-j) λhM=>⟨bH hM (chg:=λj:Nat=>bJr p CD.length j) (bls:=λj=>aCs p b CD (bsL p b j) []) (fls:=λ_=>[]) 0 (aC _) rfl ⟨rfl,rfl,rfl,rfl,rfl,rfl,rfl,rfl⟩ trivial ⟨rfl,rfl,rfl,rfl,rfl,rfl,rfl⟩ bL yK rfl,λj hj=>aA gT mxd ⟨λh1=>aA gT mxd ?_,λh1=>aA gT mxd ?_⟩⟩
 all_goals replace hj:j<=p.c.l.length:=hj
 ·replace h1:(j:Int)<(p.c.l.length:Nat):=h1
  have hjn:j<p.c.l.length:=by omega
  have hbl:(bsL p b j).length=j:=by simp
  have hbb:∀{v:Int},v=stC (p.c.l.getD j default) b.c.l j->((3,1,(bsL p b j).map iC++[iC v]):TypeId×Nat×List CV)=(3,1,(bsL p b (j+1)).map iC):=λhv=>by rw[<-cOb hv,bG];rfl
  have hbs:((45,0,[.s 6 ((bsL p b j).length+1),.s 7 0]):TypeId×Nat×List CV)=(45,0,[.s 6 (bsL p b (j+1)).length,.s 7 0]):=by rw[hbl];simp
  refine⟨[],bJk b.c j,rfl,rfl,rfl,λ_ _=>⟨j,λg2=>⟨rfl,hjn⟩,λg2=>?_,λg2=>?_⟩⟩
  ·replace g2:stN b.c.l j=2:=g2
   have hv:dfC (p.c.l.getD j default)=stC (p.c.l.getD j default) b.c.l j:=(if_neg λhh=>hh.1.2 (aLl.1 g2)).symm
   exact⟨j,⟨rfl,hjn⟩,[],bRw (p.c.l.getD j default),rfl,rfl,rfl,λ_ _=>⟨apI (x:=bsL p b j) oM,(λc hc=>cY (bK _ c hc)),(λc hc=>cY (kL (l:=rrZ) rfl c hc)),(λc hc=>by cases hc),(λc hc=>by rw[aH.1 hc];rfl),(j+1:Nat),wi,bH hM (chg:=λj:Nat=>bJr p CD.length j) (bls:=λj=>aCs p b CD (bsL p b j) []) (fls:=λ_=>[]) (j+1) ⟨hjn,show p.c.l.length-(j+1)<p.c.l.length-j by omega⟩ rfl ⟨rfl,rfl,rfl,rfl,rfl,hbs,hbb hv,rfl⟩ trivial ⟨rfl,rfl,rfl,rfl,rfl,rfl,rfl⟩ bL yK rfl⟩⟩
  replace g2:¬stN b.c.l j=2:=g2
  refine⟨[],cLd (p.c.l.getD j default) (stN b.c.l j),rfl,rfl,rfl,λ_ _=>⟨λh4=>aA gT mxd ?_,λh4=>aA gT mxd ?_⟩⟩
  ·replace h4:¬Pmt (p.c.l.getD j default) (stN b.c.l j):=h4
   have hv:dfC (p.c.l.getD j default)=stC (p.c.l.getD j default) b.c.l j:=(if_neg λhh=>h4 (by rw[show stN b.c.l j=b.c.l.getD j 0 from if_pos hh.1.1];exact hh.2)).symm
   exact⟨j,⟨rfl,hjn⟩,[],bRw (p.c.l.getD j default),rfl,rfl,rfl,λ_ _=>⟨apI (x:=bsL p b j) oM,(λc hc=>cY (bK _ c hc)),(λc hc=>cY (kL (l:=rrZ) rfl c hc)),(λc hc=>by cases hc),(λc hc=>by rw[aH.1 hc];rfl),(j+1:Nat),wi,bH hM (chg:=λj:Nat=>bJr p CD.length j) (bls:=λj=>aCs p b CD (bsL p b j) []) (fls:=λ_=>[]) (j+1) ⟨hjn,show p.c.l.length-(j+1)<p.c.l.length-j by omega⟩ rfl ⟨rfl,rfl,rfl,rfl,rfl,hbs,hbb hv,rfl⟩ trivial ⟨rfl,rfl,rfl,rfl,rfl,rfl,rfl⟩ bL yK rfl⟩⟩
  replace h4:¬¬Pmt (p.c.l.getD j default) (stN b.c.l j):=h4
  have hjb:j<b.c.l.length:=aT λhh=>by
   have h5:=eE.1 h4
   rw[show stN b.c.l j=-1 from if_neg hh] at h5
   rcases h5 with h5|⟨h5,_⟩|⟨h5,_⟩|⟨h5,_⟩<;>exact absurd h5 dC
  have hst:stN b.c.l j=b.c.l.getD j 0:=if_pos hjb
  have hv:stN b.c.l j=stC (p.c.l.getD j default) b.c.l j:=by
   rw[hst] at g2 h4 ⊢
   exact(if_pos ⟨⟨hjb,g2⟩,eE.1 h4⟩).symm
  exact⟨apI (x:=bsL p b j) oM,(λc hc=>cY (bK _ c hc)),(λc hc=>cY (kL (l:=rrZ) rfl c hc)),(λc hc=>by cases hc),(λc hc=>by rw[aH.1 hc];rfl),(j+1:Nat),wi,bH hM (chg:=λj:Nat=>bJr p CD.length j) (bls:=λj=>aCs p b CD (bsL p b j) []) (fls:=λ_=>[]) (j+1) ⟨hjn,show p.c.l.length-(j+1)<p.c.l.length-j by omega⟩ rfl ⟨rfl,rfl,rfl,rfl,rfl,hbs,hbb hv,rfl⟩ trivial ⟨rfl,rfl,rfl,rfl,rfl,rfl,rfl⟩ bL yK rfl⟩
 replace h1:¬(j:Int)<(p.c.l.length:Nat):=h1
 obtain rfl:j=p.c.l.length:=by omega
 have hbl:(bsL p b p.c.l.length).length=p.c.l.length:=by simp
 refine aA gT mxd ?_
 show Sd _ _ _ _ _ _
 refine cG (λ_=>true) (λi:Nat=>cDy p CD.length i) (λi=>aCs p b CD (bsL p b p.c.l.length) (drL p i)) (λ_=>[]) (λi=>i<=p.r.l.length) (λi=>p.r.l.length-i) λhM=>⟨bH hM (chg:=λi:Nat=>cDy p CD.length i) (bls:=λi=>aCs p b CD (bsL p b p.c.l.length) (drL p i)) (fls:=λ_=>[]) 0 (aC _) rfl ⟨rfl,rfl,rfl,rfl,rfl,rfl,rfl,rfl⟩ trivial ⟨rfl,rfl,rfl,rfl,rfl,rfl,rfl⟩ bL yK rfl,λi hi=>aA gT mxd ⟨λh1=>aA gT mxd ?_,λh1=>aA gT mxd ?_⟩⟩
 all_goals replace hi:i<=p.r.l.length:=hi
 ·replace h1:(i:Int)<(p.r.l.length:Nat):=h1
  have hin:i<p.r.l.length:=by omega
  have hdl:(drL p i).length=i:=by simp
  refine⟨.seq [(0,false),(1,false),(2,false),(3,false),(4,false),(5,false),(6,false),(7,false),(8,false),(9,true),(10,false),(11,true)],by kernel_rfl,i,⟨rfl,hin⟩,[],cLf (p.r.l.getD i default),rfl,rfl,rfl,λ_ _=>⟨apI (x:=drL p i) oM,(λc hc=>cY (bK _ c hc)),(λc hc=>cY (kL (l:=rrZ) rfl c hc)),(λc hc=>cY (bK _ c hc)),(λc hc=>by rw[aH.1 hc];rfl),(i+1:Nat),wi,bH hM (chg:=λi:Nat=>cDy p CD.length i) (bls:=λi=>aCs p b CD (bsL p b p.c.l.length) (drL p i)) (fls:=λ_=>[]) (i+1) ⟨hin,show p.r.l.length-(i+1)<p.r.l.length-i by omega⟩ rfl ⟨rfl,rfl,rfl,rfl,rfl,?_,rfl,?_⟩ trivial ⟨rfl,rfl,rfl,rfl,rfl,rfl,rfl⟩ bL yK rfl⟩⟩
  ·show((45,0,[CV.s 6 _,.s 7 ((drL p i).length+1)]):TypeId×Nat×List CV)=(45,0,[CV.s 6 _,.s 7 (drL p (i+1)).length])
   rw[<-bSq,aE];rfl
  show((3,1,(drL p i).map iC++[iC _]):TypeId×Nat×List CV)=(3,1,(drL p (i+1)).map iC)
  rw[<-bSq,bG];rfl
 replace h1:¬(i:Int)<(p.r.l.length:Nat):=h1
 obtain rfl:i=p.r.l.length:=by omega
 have hdl:(drL p p.r.l.length).length=p.r.l.length:=by simp
 refine aA gT mxd ?_
 show Sd _ _ _ _ _ _
 refine aIp 15 3 1 rfl bL ?_
 show Sd _ _ _ _ _ _
 refine rT 15 8 (λj=>[iC (([]:List Int).getD j 0)]) rfl rfl (λj hj=>absurd hj (aF _)) rfl bL (λc hc=>by cases hc) bL λA0 c0 _ _=>⟨(λc hc=>cY (bK _ c hc)),(λc hc=>cY (kL (l:=rrZ) rfl c hc)),(λc hc=>cY (bK _ c hc)),(λc hc=>cY (bK _ c hc)),?_⟩
 show Sd _ _ _ _ _ _
 refine cG (λ_=>true) (λg:Nat×Sl Int=>bJs p CD.length g.2 g.1) (λg=>aLq p b CD (gcN p q b g.1) (grN p q b g.1)) (λ_=>[]) (λg=>g.1<=CD.length/\g.2.l=chN p q b g.1) (λg=>CD.length-g.1) λhM=>⟨bH hM (chg:=λg:Nat×Sl Int=>bJs p CD.length g.2 g.1) (bls:=λg=>aLq p b CD (gcN p q b g.1) (grN p q b g.1)) (fls:=λ_=>[]) (0,⟨A0,c0,[]⟩) ⟨aC _,rfl⟩ rfl ⟨rfl,rfl,rfl,rfl,rfl,?_,?_,?_⟩ trivial ⟨rfl,rfl,rfl,rfl,rfl,rfl,rfl,rfl,rfl⟩ bL aDn rfl,λ⟨m,ch⟩ ⟨hm,hch⟩=>?_⟩
 ·show((45,0,[CV.s 6 _,.s 7 _]):TypeId×Nat×List CV)=_
  rw[hbl,hdl]
 ·show((3,1,(bsL p b p.c.l.length).map iC):TypeId×Nat×List CV)=_
  rw[show(dI p.c.l.length λj=>iC (gcN p q b 0 j))=(bsL p b p.c.l.length).map iC from sE.trans (congrArg (List.map iC) (dP λj _=>if_neg λ⟨m',hm',_⟩=>absurd hm' (aF _)))]
 ·show((3,1,(drL p p.r.l.length).map iC):TypeId×Nat×List CV)=_
  rw[show(dI p.r.l.length λj=>iC (grN p q b 0 j))=(drL p p.r.l.length).map iC from sE.trans (congrArg (List.map iC) (dP λj _=>if_neg λ⟨m',hm',_⟩=>absurd hm' (aF _)))]
 replace hm:m<=CD.length:=hm
 replace hch:ch.l=chN p q b m:=hch
 show Sd _ _ _ _ _ _
 refine Sd.sq (aA gT mxd (Sd.sq (aA gT mxd ⟨λh1=>aA gT mxd ?_,λh1=>aA gT mxd ?_⟩)))
 ·replace h1:(m:Int)<(CD.length:Nat):=h1
  have hmn:m<CD.length:=by omega
  have hCdl:cdN p b<=p.c.l.length+p.r.l.length:=by
   unfold cdN
   have:(wnL p b).length<=p.c.l.length:=aJ iD (wH _ _)
   omega
  have hmN:m<cdN p b:=by rw[<-aLn,<-hCD];exact hmn
  have hk:=cDv hmN
  rw[<-hCD] at hk
  show Sd _ _ _ _ _ _
  have hcl:ch.l.length<=60:=by rw[hch];have:=aWs (p:=p) (q:=q) (b:=b) (m:=m);omega
  refine Sd.sq (Sd.blk (Sd.sq (aA gT mxd ⟨m,⟨rfl,by omega,by rw[aN];show m*1<_;omega⟩,iC (cdK p b m:Nat),?_,Sd.sq (aA gT mxd ⟨⟨λj _=>rfl,rfl,?_,?_,?_⟩,?_⟩)⟩)))
  ·show(CD.map iC)[m*1]? =_
   rw[bI,dW,<-hk,aD,aG hmn]
   rfl
  ·show 0+ch.l.length<=maxLen;simp only[maxLen];omega
  ·show(0+ch.l.length)*8<=_;omega
  ·exact λc hc=>cY (bK ch.l c (by rw[<-pP];exact hc))
  have m3:∀i,∀c∈CD.map iC,kU i c=false:=λi c hc=>cY (bK _ c hc)
  have m4:∀i,∀c∈rrZ,kU i c=false:=λi c hc=>cY (kL (l:=rrZ) rfl c hc)
  have m6:∀i (n:Nat) (F:Nat->Int),∀c∈(dI n λj=>iC (F j)),kU i c=false:=λi n F c hc=>cY (aX (λ_ _=>rfl) c hc)
  have hfl:[]++flatR ch.l.length (λj=>[iC (ch.l.getD j 0)])=ch.l.map iC:=pP ch.l
  refine⟨m3 _,m4 _,m6 _ _ _,m6 _ _ _,⟨rfl,?_,?_,?_,?_⟩,m3 _,m4 _,m6 _ _ _,m6 _ _ _,(λc hc=>by rw[aH.1 hc];rfl),?_⟩
  ·show(0+ch.l.length)*1=([]++flatR ch.l.length (λj=>[iC (ch.l.getD j 0)])).length
   rw[hfl,aN];omega
  ·show 0+ch.l.length+1<=maxLen;simp only[maxLen];omega
  ·show(0+ch.l.length+1)*8<=_;omega
  ·exact λc hc=>(aQ.1 hc).elim (λh=>cY (bK ch.l c (by rw[<-pP];exact h))) λh=>by rw[aH.1 h];rfl
  have hnl:0+ch.l.length+1=(ch.l++[((cdK p b m:Nat):Int)]).length:=by rw[aE];show _=_+1;omega
  have hcell:([]++flatR ch.l.length (λj=>[iC (ch.l.getD j 0)]))++[iC (cdK p b m:Nat)]=(ch.l++[((cdK p b m:Nat):Int)]).map iC:=by rw[hfl,bG];rfl
  show Sd _ _ _ _ _ _
  refine rT 18 8 (λj=>[iC ((ch.l++[((cdK p b m:Nat):Int)]).getD j 0)]) rfl rfl (λj hj=>?_) ?_ bL (λc hc=>?_) bL λA c _ _=>⟨m3 _,m4 _,m6 _ _ _,m6 _ _ _,(λc hc=>by rw[aH.1 hc];rfl),?_⟩
  ·show _=List.take 1 (List.drop (j*1) (([]++flatR ch.l.length (λj=>[iC (ch.l.getD j 0)]))++[iC (cdK p b m:Nat)]))
   rw[hcell]
   exact nS j (by rw[<-hnl];exact hj)
  ·show(0+ch.l.length+1)*1=(([]++flatR ch.l.length (λj=>[iC (ch.l.getD j 0)]))++[iC (cdK p b m:Nat)]).length
   rw[hcell,aN,<-hnl,bI]
  ·exact bK _ c (by rw[<-hcell];exact hc)
  have hEq:CV.r A (0+ch.l.length+1) c 1 (λj=>[iC ((ch.l++[((cdK p b m:Nat):Int)]).getD j 0)])=cD ⟨A,c,ch.l++[((cdK p b m:Nat):Int)]⟩:=by rw[hnl];rfl
  have hcall:Ctr Tryz.prog aWp [] [.a p.C,.c (.r A (0+ch.l.length+1) c 1 λj=>[iC ((ch.l++[((cdK p b m:Nat):Int)]).getD j 0)])] [] (λ_:Unit=>⟨pC (cdP p q b m),[],True⟩):=by
   have hr2:=cDq p ⟨A,c,ch.l++[((cdK p b m:Nat):Int)]⟩ (κ:=λk=>cdK p b (if k<(jY (cdQ p q b) p.r.l.length (cdN p b) m).length then atN (jY (cdQ p q b) p.r.l.length (cdN p b) m) k else m)) h (by rw[<-hnl];omega) (λk hk2=>?_) ?_
   ·rw[hnl,show cdP p q b m=Free (λi k=>cdQ p q b i (if k<(jY (cdQ p q b) p.r.l.length (cdN p b) m).length then atN (jY (cdQ p q b) p.r.l.length (cdN p b) m) k else m)) p.r.l.length (ch.l++[((cdK p b m:Nat):Int)]).length from by
     rw[aE,hch,aLo]
     exact propext (aHk (fL m).1 hmN).symm]
    exact hr2
   ·exact cDx hmN hr hc hch hk2
   refine aJ (kT ?_) hB
   have h3:m<=p.c.l.length+p.r.l.length:=by
    have:=hCdl
    omega
   have h4:=aWs (p:=p) (q:=q) (b:=b) (m:=m)
   rw[<-hch] at h4
   rw[<-hnl];omega
  show Sd _ _ _ _ _ _
  refine aA gT mxd ⟨[],hcall,rfl,rfl,rfl,λ_ _=>⟨λh2=>aA gT mxd ?_,λh2=>aA gT mxd ?_⟩⟩
  ·replace h2:cdP p q b m:=h2
   have hcy:=(bQd h2)
   refine⟨λh3=>aA gT mxd ?_,λh3=>aA gT mxd ?_⟩
   ·replace h3:((cdK p b m:Nat):Int)<(p.c.l.length:Nat):=h3
    have hlt:cdK p b m<p.c.l.length:=by omega
    refine⟨cdK p b m,⟨rfl,hlt,cQ hlt⟩,_,zH hlt,aA gT mxd ⟨(m+1:Nat),wi,bH hM (chg:=λg:Nat×Sl Int=>bJs p CD.length g.2 g.1) (bls:=λg=>aLq p b CD (gcN p q b g.1) (grN p q b g.1)) (fls:=λ_=>[]) (m+1,⟨A,c,ch.l++[((cdK p b m:Nat):Int)]⟩) ⟨⟨hmn,by show ch.l++_=chN p q b (m+1);rw[hcy,hch]⟩,show CD.length-(m+1)<CD.length-m by omega⟩ rfl ⟨rfl,rfl,rfl,rfl,rfl,rfl,?_,?_⟩ trivial ⟨rfl,?_,rfl,rfl,rfl,rfl,rfl,rfl,rfl⟩ bL aDn rfl⟩⟩
    ·exact congrArg (λl=>((3,1,l):TypeId×Nat×List CV)) (gA λj _=>by rw[bQb h2])
    ·exact congrArg (λl=>((3,1,l):TypeId×Nat×List CV)) (gA λj _=>by rw[aSq λhh=>by omega])
    exact hEq
   replace h3:¬((cdK p b m:Nat):Int)<(p.c.l.length:Nat):=h3
   obtain⟨i0,hi0⟩:∃i0,cdK p b m=p.c.l.length+i0:=⟨cdK p b m-p.c.l.length,by omega⟩
   have hlt:i0<p.r.l.length:=by have:=aSo hmN;omega
   refine⟨(i0:Int),wi (h:=⟨by rw[hi0];omega,by omega,by omega⟩),i0,⟨rfl,hlt,cQ hlt⟩,_,zH hlt,aA gT mxd ⟨(m+1:Nat),wi,bH hM (chg:=λg:Nat×Sl Int=>bJs p CD.length g.2 g.1) (bls:=λg=>aLq p b CD (gcN p q b g.1) (grN p q b g.1)) (fls:=λ_=>[]) (m+1,⟨A,c,ch.l++[((cdK p b m:Nat):Int)]⟩) ⟨⟨hmn,by show ch.l++_=chN p q b (m+1);rw[hcy,hch]⟩,show CD.length-(m+1)<CD.length-m by omega⟩ rfl ⟨rfl,rfl,rfl,rfl,rfl,rfl,?_,?_⟩ trivial ⟨rfl,?_,rfl,rfl,rfl,rfl,rfl,rfl,rfl⟩ bL aDn rfl⟩⟩
   ·exact congrArg (λl=>((3,1,l):TypeId×Nat×List CV)) (gA λj hj=>by rw[aSp λhh=>by omega])
   ·exact congrArg (λl=>((3,1,l):TypeId×Nat×List CV)) (gA λj _=>by rw[bQc h2 hi0])
   exact hEq
  replace h2:¬cdP p q b m:=h2
  have hcn:=(cDw h2)
  refine aA gT mxd ⟨(m+1:Nat),wi,bH hM (chg:=λg:Nat×Sl Int=>bJs p CD.length g.2 g.1) (bls:=λg=>aLq p b CD (gcN p q b g.1) (grN p q b g.1)) (fls:=λ_=>[]) (m+1,ch) ⟨⟨hmn,by show ch.l=chN p q b (m+1);rw[hcn,hch]⟩,show CD.length-(m+1)<CD.length-m by omega⟩ rfl ⟨rfl,rfl,rfl,rfl,rfl,rfl,?_,?_⟩ trivial ⟨rfl,rfl,rfl,rfl,rfl,rfl,rfl,rfl,rfl⟩ bL aDn rfl⟩
  ·exact congrArg (λl=>((3,1,l):TypeId×Nat×List CV)) (gA λj hj=>by rw[aSp λhh=>h2 hh.1])
  exact congrArg (λl=>((3,1,l):TypeId×Nat×List CV)) (gA λj hj=>by rw[aSq λhh=>h2 hh.1])
 replace h1:¬(m:Int)<(CD.length:Nat):=h1
 obtain rfl:m=CD.length:=by omega
 show Sd _ _ _ _ _ _
 rw[show aLq p b CD (gcN p q b (CD.length,ch).fst) (grN p q b (CD.length,ch).fst)=aCs p b CD ((List.range p.c.l.length).map (gcN p q b CD.length)) ((List.range p.r.l.length).map (grN p q b CD.length)) from bQh]
 obtain⟨CL,hCL⟩:∃CL,CL=(List.range p.c.l.length).map (gcN p q b CD.length):=⟨_,rfl⟩
 obtain⟨RL,hRL⟩:∃RL,RL=(List.range p.r.l.length).map (grN p q b CD.length):=⟨_,rfl⟩
 rw[<-hCL,<-hRL]
 refine jV tSd 7 rfl bL (bK _) bL rfl λA a1=>⟨_,kV jN (bK _),_,kV jN (kL (l:=rrZ) rfl),_,kV jN (bK _),iX tSd 5 0 [.s 6 CL.length,cD ⟨A.map λb=>⟨b,0,none⟩,a1,RL⟩] rfl rfl rfl rfl (oT (k0:=1) rfl aCq) ?_⟩
 refine jV tSd 6 rfl bL (bK _) bL rfl λA2 a2=>⟨_,kV jN (bK _),_,kV jN (kL (l:=rrZ) rfl),_,rfl,iX tSd 5 1 [cD ⟨A2.map λb=>⟨b,0,none⟩,a2,CL⟩,cD ⟨A.map λb=>⟨b,0,none⟩,a1,RL⟩] rfl rfl rfl rfl (oT (k0:=0) rfl aCq) ?_⟩
 refine aA gT mxd ⟨⟨⟨A2.map λb=>⟨b,0,none⟩,a2,CL⟩,⟨A.map λb=>⟨b,0,none⟩,a1,RL⟩⟩,GrR.rp ⟨by show CL.length=_;rw[hCL];simp,by show RL.length=_;rw[hRL];simp,λj hj=>?_,λi hi=>?_⟩,aM rfl rfl trivial⟩
 ·show CL.getD j 0=_
  rw[hCL,zI hj,hCD,aLn];rfl
 show RL.getD i 0=_
 rw[hRL,zI hi,hCD,aLn];rfl
abbrev bQj:FuncId:=33
theorem cUz:Ent Tryz.prog bQj:=aU func33 rfl kR
theorem cVa:Tryz.prog.funcs[bQj]? =some Tryz.f33:=func33
theorem bSs (x:Sl Int) (n:Nat):Ctr Tryz.prog bQj [] [.c (cD x),.c (iC n)] [] (λg:Sl Int=>⟨.c (cD g),[],g.l=x.l.take n⟩):=by
 have h0:Ctr Tryz.prog bQj [] [.c (cD x),.c (iC n)] [] (λm:Nat=>⟨.c (.r x.A m x.c 1 (λj=>[iC (x.l.getD j 0)])),[],m=min n x.l.length⟩):=by
  refine aW gT cUz cVa rfl rfl rfl bL aS (aA gT mxd ⟨λh=>aA gT mxd ?_,λh=>aA gT mxd ?_⟩)
  ·replace h:(n:Int)<(x.l.length:Nat):=h
   exact⟨n,⟨rfl,by omega⟩,n,by show n=_;omega,aM rfl rfl trivial⟩
  replace h:¬(n:Int)<(x.l.length:Nat):=h
  exact⟨x.l.length,by show x.l.length=_;omega,aM rfl rfl trivial⟩
 refine CtrF.lo h0 λm hm=>⟨⟨x.A,x.c,x.l.take n⟩,rfl,λρ k w v hv=>?_,rfl,rfl⟩
 replace hm:m=min n x.l.length:=hm
 have hl:(x.l.take n).length=m:=by rw[bE,hm]
 show Hd ρ k w (.c (.r x.A (x.l.take n).length x.c 1 _)) v
 rw[hl]
 refine .c (LeC.get (λj hj=>?_) ρ k w v hv.inv_c)
 show [iC (x.l.getD j 0)]=[iC ((x.l.take n).getD j 0)]
 rw[aD,aD,eY,if_pos oM]
abbrev bJt:FuncId:=34
theorem cOd:Ent Tryz.prog bJt:=aU func34 rfl kR
theorem cOe:Tryz.prog.funcs[bJt]? =some Tryz.f34:=func34
theorem bQk (b:BasM) (n:Int) (h:n<0\/16384-(b.r.l.length:Nat)<n) (hr:b.r.l.length<=4096):Ctr Tryz.prog bJt [] [.a b.C,.c (iC n)] [] (λ_:Unit=>⟨.t [.a rrO,.c (iC 3)],[],True⟩):=by
 refine aW gT cOd cOe rfl rfl rfl bL aS (aA gT mxd ⟨(16384:Int)-(b.r.l.length:Nat),λ_=>wi (h:=⟨rfl,by omega,by omega⟩),λh2=>aA gT mxd ?_,λh2=>?_⟩)
 ·exact⟨(),trivial,aM ⟨rfl,rfl⟩ rfl trivial⟩
 replace h2:¬(n<0\/16384-(b.r.l.length:Nat)<n):=h2
 exact absurd h h2
def cVb:Ord:=.joinX [] [2000,1,2002,2004,5,2006,2007,2008] (.alt 3 (.alt 9 (trS [2010,11,1012]) (.alt 11 (trS [9,2010,1012]) .nil)) (.alt 9 (.alt 3 (trS [2010,11,1012]) (.alt 11 (trS [3,2010,1012]) .nil)) (.alt 11 (.alt 3 (trS [9,2010,1012]) (.alt 9 (trS [3,2010,1012]) .nil)) .nil)))
abbrev beB (b:BasM) (m:Nat) (C R:List CV):BL:=[(45,0,b.C),(45,0,rrO),(3,1,C),(3,1,R),(45,0,[.s 2 b.c.l.length,.s 3 m])]
abbrev beG:List (Nat×DV):=[(2,.c (.p 0 0)),(4,.c (.p 1 0)),(6,.c (.p 4 0))]
def beF (l:List Int) (m k:Nat):Int:=if k<l.length then l.getD k 0 else if k<m then 2 else 0
abbrev beI (b:BasM) (C R:List Int):BL:=[(45,0,b.C),(45,0,rrO),(3,1,C.map iC),(3,1,R.map iC),(45,0,[.s 2 C.length,.s 3 R.length])]
theorem cOf {l:List Int} {n:Nat}:l.map iC++List.drop (l.length*1) (dI (l.length+n) λ_=>iC 0)=dI (l.length+n) λi=>iC (beF l l.length i):=by
 rw[show(dI (l.length+n) λ_=>iC 0)=List.replicate (l.length+n) (iC 0) from rY.symm,bI,List.drop_replicate,fX]
 refine iN (by rw[dB];simp) λi h1 h2=>?_
 rw[dB] at h2
 have hg:=eB (P:=λi=>iC (beF l l.length i)) h2
 rw[bI,aG (by rw[dB];exact h2)] at hg
 rw[oC hg]
 unfold beF
 by_cases hi:i<l.length
 ·rw[if_pos hi,tW (by rw[aN];exact hi),pS,aD,aG hi];rfl
 rw[if_neg hi,if_neg hi,sS (by rw[aN];omega),List.getElem_replicate]
theorem cOg {l:List Int} {k i:Nat} (h:l.length<=k):(if i=k then 2 else beF l k i)=beF l (k+1) i:=by
 unfold beF
 by_cases e:i=k
 ·rw[if_pos e,if_neg oM,if_pos oM]
 rw[if_neg e]
 by_cases e1:i<l.length
 ·rw[if_pos e1,if_pos e1]
 rw[if_neg e1,if_neg e1]
 by_cases e2:i<k
 ·rw[if_pos e2,if_pos oM]
 rw[if_neg e2,if_neg oM]
theorem cOh {l:List Int} {n:Nat}:(dI (l.length+n) λi=>iC (beF l (l.length+n) i))=(l++List.replicate n 2).map iC:=by
 rw[sE]
 congr 1
 refine aFu (by simp) λk hk=>?_
 rw[aE,cJ] at hk
 rw[zI hk]
 unfold beF
 by_cases hi:k<l.length
 ·rw[if_pos hi,aD,aD,bA hi]
 rw[if_neg hi,if_pos hk,aD,bR oM,List.getElem?_replicate,if_pos oM];rfl
theorem bSt (b:BasM) (n:Nat) (hc:b.c.l.length<=4096) (h:b.r.l.length+n<=16384):Ctr Tryz.prog bJt [] [.a b.C,.c (iC n)] [] (λg:BasM=>⟨.t [.a g.C,.c (iC 0)],[],g.c.l=b.c.l/\g.r.l=b.r.l++List.replicate n 2⟩):=by
 have scE0:∀{m:Nat} {F:Nat->Int} {C:List CV},(∀c∈C,fK c=true)->scB 5 (beB b m C (dI m λk=>iC (F k))):=λhC=>aB rfl (aB rfl (aB (bU hC) (aB (bU (aX λ_ _=>rfl)) (aB rfl aY))))
 refine aW gT cOd cOe rfl rfl rfl bL aS ?_
 refine Sd.sq (aA gT mxd ?_)
 show Sd _ _ _ _ _ _
 refine Sd.sq (aA gT mxd ?_)
 refine⟨(16384:Int)-(b.r.l.length:Nat),λ_=>wi (h:=⟨rfl,by omega,by omega⟩),λh2=>?_,λh2=>aA gT mxd ?_⟩
 ·replace h2:(n:Int)<0\/16384-((b.r.l.length:Nat):Int)<(n:Nat):=h2
  omega
 show Sd _ _ _ _ _ _
 refine Sd.sq (aA gT mxd ⟨cVb,by kernel_rfl,Unit,λ_=>⟨beG++[],[],beB b (b.r.l.length+n) (dI b.c.l.length λ_=>iC 0) (dI (b.r.l.length+n) λ_=>iC 0),[]⟩,λ_=>True,?_,λ_ _=>?_⟩)
 ·have k1:b.c.l.length<=maxLen:=by simp only[maxLen];omega
  have k2:b.r.l.length+n<=maxLen:=by simp only[maxLen];omega
  have fin1:∀(sl:List (Nat×DV)),wD (λ_=>true) [] [] [] sl->AllC sl beG->Gt 0 ⟨sl,[],[(45,0,b.C),(45,0,rrO),(3,1,List.replicate b.c.l.length (iC 0)),(3,1,List.replicate (b.r.l.length+n) (iC 0)),(45,0,[.s 2 b.c.l.length,.s 3 (b.r.l.length+n)])],[]⟩ (σ:=Unit) (λ_=>⟨beG++[],[],beB b (b.r.l.length+n) (dI b.c.l.length λ_=>iC 0) (dI (b.r.l.length+n) λ_=>iC 0),[]⟩) λ_=>True:=λsl ht ha=>by
   refine @bH 0 _ (λ_=>true) [] (λt d ht=>by cases ht) Unit (λ_=>beG) (λ_=>beB b (b.r.l.length+n) (dI b.c.l.length λ_=>iC 0) (dI (b.r.l.length+n) λ_=>iC 0)) (λ_=>[]) _ () trivial ht ?_ trivial ha (aC _) (scE0 (F:=λ_=>0) (aX λ_ _=>rfl)) rfl
   rw[rY,rY]
   exact⟨rfl,rfl,rfl,rfl,rfl⟩
  have e1:∀{i j:Nat} {n:Nat},(List.replicate n (iC 0)).map (swC i j)=List.replicate n (iC 0):=rpm aO rfl
  have c1:b.c.l.length*8<=140737488355328:=by omega
  have c2:(b.r.l.length+n)*8<=140737488355328:=by omega
  refine⟨((b.r.l.length+n:Nat):Int),wi (h:=⟨by omega,by omega,by omega⟩),⟨⟨b.c.l.length,⟨rfl,rfl,by show 8*_<=_;omega,k1⟩,rfl,⟨b.r.l.length+n,⟨rfl,rfl,by show 8*_<=_;omega,k2⟩,rfl,rfl,?_⟩,⟨rfl,b.r.l.length+n,⟨rfl,rfl,by show 8*_<=_;omega,k2⟩,rfl,?_⟩⟩,⟨b.r.l.length+n,⟨rfl,rfl,by show 8*_<=_;omega,k2⟩,rfl,⟨b.c.l.length,⟨rfl,rfl,by show 8*_<=_;omega,k1⟩,rfl,rfl,?_⟩,⟨rfl,b.c.l.length,⟨rfl,rfl,by show 8*_<=_;omega,k1⟩,rfl,?_⟩⟩,⟨rfl,⟨b.c.l.length,⟨rfl,rfl,by show 8*_<=_;omega,k1⟩,rfl,b.r.l.length+n,⟨rfl,rfl,by show 8*_<=_;omega,k2⟩,rfl,?_⟩,⟨b.r.l.length+n,⟨rfl,rfl,by show 8*_<=_;omega,k2⟩,rfl,b.c.l.length,⟨rfl,rfl,by show 8*_<=_;omega,k1⟩,rfl,?_⟩⟩⟩⟩
  ·exact fin1 _ (by rfl) (by exact⟨rfl,rfl,rfl⟩)
  ·exact gsw 3 4 rfl rfl bL bL rfl ⟨_,e1,_,e1,bL,fin1 _ (by rfl) (by exact⟨rfl,rfl,rfl⟩)⟩
  ·exact gsw 2 3 rfl rfl bL bL rfl ⟨_,e1,_,e1,bL,fin1 _ (by rfl) (by exact⟨rfl,rfl,rfl⟩)⟩
  ·exact gsw 2 4 rfl rfl bL bL rfl ⟨_,e1,_,e1,bL,gsw 3 4 rfl rfl bL bL rfl ⟨_,e1,_,e1,bL,fin1 _ (by rfl) (by exact⟨rfl,rfl,rfl⟩)⟩⟩
  ·exact gsw 2 3 rfl rfl bL bL rfl ⟨_,e1,_,e1,bL,gsw 3 4 rfl rfl bL bL rfl ⟨_,e1,_,e1,bL,fin1 _ (by rfl) (by exact⟨rfl,rfl,rfl⟩)⟩⟩
  exact gsw 2 4 rfl rfl bL bL rfl ⟨_,e1,_,e1,bL,fin1 _ (by rfl) (by exact⟨rfl,rfl,rfl⟩)⟩
 show Sd _ _ _ _ _ _
 refine Sd.sq (Sd.rg gT (l:=[_,_,_,_,_]) [_,_,_,_] [_] rfl rfl ?_)
 refine Sdl.copyG gT rfl rfl rfl rfl rfl rfl bL rfl (aI _) ?_ (λj hj=>rfl) rfl bL ?_
 ·show b.c.l.length*1=(dI b.c.l.length λ_=>iC 0).length
  rw[dB];omega
 show Sdl _ _ _ _ _ _ _
 refine Sdl.nl ?_
 show Sd _ _ _ _ _ _
 refine Sd.sq (Sd.sq (Sd.rg gT (l:=[_,_,_,_,_,_]) [_,_,_,_] [_,_] rfl rfl ?_))
 refine Sdl.copyG gT rfl rfl rfl rfl rfl rfl bL rfl (nM _ _) ?_ (λj hj=>rfl) rfl bL ?_
 ·show(b.r.l.length+n)*1=(dI (b.r.l.length+n) λ_=>iC 0).length
  rw[dB];omega
 show Sdl _ _ _ _ _ _ _
 refine Sdl.go gT (l:=[_,_,_,_,_,_]) ?_
 show Sd _ _ _ _ _ _
 refine Sd.blk ?_
 refine cG (λ_=>true) (λk:Nat=>(7,.c (iC k))::beG) (λk=>beB b (b.r.l.length+n) (b.c.l.map iC) (dI (b.r.l.length+n) λi=>iC (beF b.r.l k i))) (λ_=>[]) (λk=>b.r.l.length<=k/\k<=b.r.l.length+n) (λk=>b.r.l.length+n-k) λhM=>⟨bH hM (chg:=λk:Nat=>(7,.c (iC k))::beG) (bls:=λk=>beB b (b.r.l.length+n) (b.c.l.map iC) (dI (b.r.l.length+n) λi=>iC (beF b.r.l k i))) (fls:=λ_=>[]) b.r.l.length ⟨aI _,nM _ _⟩ rfl ⟨rfl,rfl,?_,?_,rfl⟩ trivial ⟨rfl,rfl,rfl,rfl⟩ bL (scE0 (bK _)) rfl,λk ⟨hk1,hk⟩=>aA gT mxd ⟨λh3=>aA gT mxd ?_,λh3=>aA gT mxd ?_⟩⟩
 ·show((3,1,flatR b.c.l.length (λj=>[iC (b.c.l.getD j 0)])++List.drop (b.c.l.length*1) (dI b.c.l.length λ_=>iC 0)):TypeId×Nat×List CV)=(3,1,b.c.l.map iC)
  rw[cH (by rw[dB];omega),dG,pP]
 ·show((3,1,flatR b.r.l.length (λj=>[iC (b.r.l.getD j 0)])++List.drop (b.r.l.length*1) (dI (b.r.l.length+n) λ_=>iC 0)):TypeId×Nat×List CV)=(3,1,dI (b.r.l.length+n) λi=>iC (beF b.r.l b.r.l.length i))
  rw[pP,cOf]
 all_goals
  replace hk1:b.r.l.length<=k:=hk1
  replace hk:k<=b.r.l.length+n:=hk
 ·replace h3:(k:Int)<((b.r.l.length+n:Nat):Int):=h3
  have hkn:k<b.r.l.length+n:=by omega
  exact⟨k,⟨rfl,hkn,cQ hkn⟩,_,zH hkn,(k+1:Nat),wi,bH hM (chg:=λk:Nat=>(7,.c (iC k))::beG) (bls:=λk=>beB b (b.r.l.length+n) (b.c.l.map iC) (dI (b.r.l.length+n) λi=>iC (beF b.r.l k i))) (fls:=λ_=>[]) (k+1) ⟨⟨by omega,by omega⟩,show b.r.l.length+n-(k+1)<b.r.l.length+n-k by omega⟩ rfl ⟨rfl,rfl,rfl,congrArg (λl=>((3,1,l):TypeId×Nat×List CV)) (gA λi _=>by rw[cOg hk1]),rfl⟩ trivial ⟨rfl,rfl,rfl,rfl⟩ bL (scE0 (bK _)) rfl⟩
 replace h3:¬(k:Int)<((b.r.l.length+n:Nat):Int):=h3
 obtain rfl:k=b.r.l.length+n:=by omega
 show Sd _ _ _ _ _ _
 obtain⟨RL,hRL⟩:∃RL,RL=b.r.l++List.replicate n 2:=⟨_,rfl⟩
 rw[show beB b (b.r.l.length+n) (b.c.l.map iC) (dI (b.r.l.length+n) λi=>iC (beF b.r.l (b.r.l.length+n) i))=beI b b.c.l RL from by rw[cOh,hRL];unfold beB beI;rw[aE,cJ]]
 refine jV tSd 3 rfl bL (bK _) bL rfl λA a1=>⟨_,kV jN (bK _),iX tSd 4 0 [.s 2 b.c.l.length,cD ⟨A.map λb=>⟨b,0,none⟩,a1,RL⟩] rfl rfl rfl rfl (oT (k0:=1) rfl aCq) ?_⟩
 refine jV tSd 2 rfl bL (bK _) bL rfl λA2 a2=>⟨_,rfl,iX tSd 4 1 [cD ⟨A2.map λb=>⟨b,0,none⟩,a2,b.c.l⟩,cD ⟨A.map λb=>⟨b,0,none⟩,a1,RL⟩] rfl rfl rfl rfl (oT (k0:=0) rfl aCq) ?_⟩
 exact aA gT mxd ⟨⟨⟨A2.map λb=>⟨b,0,none⟩,a2,b.c.l⟩,⟨A.map λb=>⟨b,0,none⟩,a1,RL⟩⟩,⟨rfl,hRL⟩,aM ⟨rfl,rfl⟩ rfl trivial⟩
theorem aWt (p:ProgM) (b:BasM) {q:PrQ} (h:SmP p) (hq:PrG p q 3):Ctr Tryz.prog bQi [] [.a p.C,.a b.C] [] (λg:BasM=>⟨.a g.C,[],RpR p q b g⟩):=cOc p b hq.v (by have:=h.n;omega) (by have:=h.n;omega) (aJ (kT (show _<=8 by have:=h.n;omega)) (by decide+kernel))
def cVc:Ord:=.joinX [] [0,2001,3] (.alt 2 (.alt 4 (.alt 5 (trS [6,1007]) (.alt 6 (trS [5,1007]) .nil)) (.alt 6 (trS [4,5,1007]) .nil)) (.alt 6 (trS [2,4,5,1007]) .nil))
def wrQ (q:PrQ) (n:Nat) (g:Nat->Rat×List En):PrQ:=⟨q.k,q.l,q.u,λi=>if i<n then q.b i else (g (i-n)).1,λi=>if i<n then q.M i else (g (i-n)).2⟩
structure WrR (p p':ProgM) (q:PrQ) (N:List RowM) (g:Nat->Rat×List En):Prop where
 c:p'.c=p.c
 r:p'.r.l=p.r.l++N
 n:N.length<=4
 s:∀i,i<N.length->RwS (N.getD i default) (g i).1 (g i).2 p.c.l.length
section ex
variable {p p':ProgM} {q:PrQ} {N:List RowM} {g:Nat->Rat×List En}
theorem WrR.lo (h:WrR p p' q N g) {i:Nat} (hi:i<p.r.l.length):p'.r.l.getD i default=p.r.l.getD i default:=by
 rw[h.r,aD,bA hi,<-aD]
theorem WrR.hi (h:WrR p p' q N g) {i:Nat} (hi:p.r.l.length<=i):p'.r.l.getD i default=N.getD (i-p.r.l.length) default:=by
 rw[h.r,aD,bR hi,<-aD]
theorem WrR.len (h:WrR p p' q N g):p'.r.l.length=p.r.l.length+N.length:=by rw[h.r,aE]
theorem xL {i:Nat} {n:Nat} (hi:i<n):(wrQ q n g).b i=q.b i/\(wrQ q n g).M i=q.M i:=⟨if_pos hi,if_pos hi⟩
theorem bJu {i:Nat} {n:Nat} (hi:n<=i):(wrQ q n g).b i=(g (i-n)).1/\(wrQ q n g).M i=(g (i-n)).2:=⟨if_neg oM,if_neg oM⟩
theorem WrR.prg (h:WrR p p' q N g) (hq:PrG p q 3) (hS:SmP p):PrG p' (wrQ q p.r.l.length g) 3:=by
 have hl:=h.len
 have hn:=h.n
 have h1:=hS.n.1
 have h2:=hS.n.2
 have hlt:∀k,k<=16->bd 3 k<=4398046511104:=λk hk=>aJ (kT hk) (by decide+kernel)
 have hrow:∀i,i<p'.r.l.length->p.r.l.length<=i->RwS (p'.r.l.getD i default) ((wrQ q p.r.l.length g).b i) ((wrQ q p.r.l.length g).M i) p.c.l.length:=λi hi hi2=>by
  rw[h.hi hi2,(bJu hi2).1,(bJu hi2).2]
  exact h.s _ oM
 exact {
  v:={
   rd:=⟨λj hj=>by rw[h.c] at hj ⊢;exact hq.v.rd.c j hj,λi hi=>by
    by_cases h3:i<p.r.l.length
    ·rw[h.lo h3,(xL h3).1,(xL h3).2];exact hq.v.rd.r i h3
    have:=hrow i hi oM
    exact⟨this.rd.b.le dC,this.rd.e.le dC⟩⟩
   h1:=by decide
   hB:=by decide
   c:=by rw[h.c];omega
   r:=by omega
   x:=λj hj=>by rw[h.c] at hj ⊢;exact hq.v.x j hj
   v:=λi hi=>by
    show Sns _/\VOk _ _
    rw[h.c]
    by_cases h3:i<p.r.l.length
    ·rw[h.lo h3,(xL h3).2];exact hq.v.v i h3
    have:=hrow i hi oM
    exact⟨this.s,this.v⟩
   e:=λi hi=>by
    by_cases h3:i<p.r.l.length
    ·rw[(xL h3).2];exact hq.v.e i h3
    have:=hrow i hi oM
    exact λe he=>(this.e e he).le dC}
  c:=⟨λj hj=>by rw[h.c] at hj ⊢;exact hq.c.k j hj,λi hi=>by
   by_cases h3:i<p.r.l.length
   ·rw[h.lo h3,(xL h3).1];exact hq.c.b i h3
   exact(hrow i hi oM).bc⟩
  k:=λj hj=>by rw[h.c] at hj;exact hq.k j hj
  rl:=by omega
  cl:=by rw[h.c];omega
  bB:=by decide
  f:=hlt _ oM
  s:=λm hm=>by rw[h.c] at hm ⊢;exact hq.s m hm
  t:=λm hm=>by rw[h.c] at hm;exact hq.t m hm}
structure WrB (b d:BasM) (n:Nat):Prop where
 c:d.c.l=b.c.l
 r:d.r.l=b.r.l++List.replicate n 2
variable {b d:BasM}
theorem WrB.lo (h:WrB b d N.length) {i:Nat} (hi:i<b.r.l.length):d.r.l.getD i 0=b.r.l.getD i 0:=by
 rw[h.r,aD,bA hi,<-aD]
theorem WrB.hi (h:WrB b d N.length) {i:Nat} (hi:b.r.l.length<=i) (hn:i<b.r.l.length+N.length):d.r.l.getD i 0=2:=by
 rw[h.r,aD,bR hi,List.getElem?_replicate,if_pos oM];rfl
theorem WrB.br (h:WrB b d N.length):brL d (b.r.l.length+N.length)=brL b b.r.l.length:=by
 have h1:∀k,k<=N.length->brL d (b.r.l.length+k)=brL d b.r.l.length:=λk=>by
  induction k with
  |zero=>exact λ_=>rfl
  |succ k ih=>
   intro hk
   rw[<-ih oM]
   exact mF (P:=λi=>d.r.l.getD i 0≠2) (k:=b.r.l.length+k) λhh=>hh (h.hi oM oM)
 rw[h1 _ (aI _)]
 exact oD _ λi hi=>by rw[h.lo hi]
theorem WrB.bc (h:WrB b d N.length) (n:Nat):bcL d n=bcL b n:=oD _ λi hi=>by rw[h.c]
theorem WrB.val (h:WrB b d N.length) (hp:WrR p p' q N g) (hb:BVal p q b):BVal p' (wrQ q p.r.l.length g) d:=by
 have hbr:=hb.ok.r
 have hl:=hp.len
 have e1:brL d p'.r.l.length=brL b p.r.l.length:=by
  have:=h.br
  rw[hbr] at this
  rw[hl];exact this
 have e2:bcL d p'.c.l.length=bcL b p.c.l.length:=by rw[hp.c];exact h.bc _
 refine⟨⟨by rw[h.c,hp.c];exact hb.ok.c,by rw[h.r,aE,cJ,hl,hbr],λj hj=>?_,λi hi=>?_⟩,by rw[e1,e2];exact hb.n,λ⟨x,hx,hk⟩=>hb.k ⟨x,by rw[e1] at hx;exact hx,λk hk2=>?_⟩⟩
 ·rw[hp.c] at hj ⊢
  rw[h.c];exact hb.ok.pc j hj
 ·by_cases h3:i<p.r.l.length
  ·rw[hp.lo h3,h.lo oM];exact hb.ok.pr i h3
  exact .inl (h.hi oM oM)
 have h4:=hk k (by rw[e1];exact hk2)
 have h5:atN (brL b p.r.l.length) k<p.r.l.length:=(fL (P:=λi=>b.r.l.getD i 0≠2) p.r.l.length).1.lt k hk2
 unfold zE at h4 ⊢
 rw[e1,e2,(xL h5).2] at h4
 exact h4
theorem WrB.pt (h:WrB b d N.length) (hp:WrR p p' q N g) (hb:BVal p q b) {Bx:Nat} {qs:List Rat} (hx:PtR p' (wrQ q p.r.l.length g) d Bx qs):PtR p q b Bx qs:=by
 have hbr:=hb.ok.r
 have hl:=hp.len
 refine⟨by rw[hx.ln,hp.c],λj hj h2=>?_,λi hi h2=>?_,hx.rb⟩
 ·have:=hx.x0 j (by rw[hp.c];exact hj) (by rw[h.c];exact h2)
  unfold x0N at this ⊢
  rw[h.c] at this
  exact this
 have:=hx.ti i oM (by rw[h.lo oM];exact h2)
 rw[(xL hi).1,(xL hi).2] at this
 exact this
end ex
theorem Sd.mn {P:Program} {nb N:Nat} {a:Code} {K K':Kt} {s:SS} (h:Sd P nb N a ⟨K'.nrm,K.ext,K.ret⟩ s) (hk:∀s',K'.nrm s'->K.nrm s'):Sd P nb N a K s:=λρ0 w0 ρ f w Q hL hD=>h ρ0 w0 ρ f w Q ⟨λs' ρ' f' w' h' hD'=>hL.nrm s' ρ' f' w' (hk s' h') hD',hL.ext,hL.ret⟩ hD
theorem Sd.cut2 {P:Program} {nb N:Nat} {a b c:Code} {K:Kt} {s:SS} {σ:Type} (S:σ->SS) (C:σ->Prop) (h:Sd P nb N a ⟨λs'=>Sd P nb N b ⟨λs''=>Gt nb s'' S C,K.ext,K.ret⟩ s',K.ext,K.ret⟩ s) (hk:∀g,C g->Sd P nb N c K (S g)):Sd P nb N (.seq a (.seq b c)) K s:=
 Sd.sq (Sd.mn (K':=⟨λs'=>Sd P nb N b ⟨λs''=>Gt nb s'' S C,K.ext,K.ret⟩ s',K.ext,K.ret⟩) h λ_ h'=>Sd.cut S C h' hk)
abbrev lxA (d e f:Sl Int):List (Nat×DV):=[(2,.c (cD d)),(3,.c (cD e)),(4,.c (cD f))]
abbrev bQl (c x:BasM) (R:List Int):BL:=[(45,0,c.C),(45,0,x.C),(3,1,R.map iC)]
theorem aWu {c x:BasM} {R:List Int}:scB 3 (bQl c x R):=aB rfl (aB rfl (aB (bU (bK _)) aY))
abbrev cDz (d e f:Sl Int) (n m i:Nat):List (Nat×DV):=(14,.c (iC i))::(13,.c (.s 2 m))::(1,.c (iC n))::(5,.c (.p 0 0))::(11,.c (.p 1 0))::(12,.c (iC 0))::lxA d e f
abbrev bQm (f:Sl Int) (p:ProgM) (r:BasM) (q:Nat) (R:List RowM):BL:=[(42,0,p.C),(45,0,r.C),(98,0,[cD f,iC q]),(42,0,[rZ p.c,.s 4 R.length]),(67,5,fl RowM.C default R)]
theorem aWv {f:Sl Int} {p:ProgM} {r:BasM} {q:Nat} {R:List RowM}:scB 5 (bQm f p r q R):=aB rfl (aB rfl (aB rfl (aB rfl (aB (bU (qZ kA)) aY))))
abbrev cEa (z:Int) (n:Nat):List (Nat×DV):=[(20,.c (iC n)),(19,.c (iC z)),(17,.c (.p 2 0)),(15,.c (.p 0 0)),(16,.c (.p 1 0)),(18,.c (.p 3 0))]
abbrev cEb:FuncId:=7
theorem cVd:Ent Tryz.prog cEb:=aU func7 rfl kR
theorem cVe:Tryz.prog.funcs[cEb]? =some Tryz.f7:=func7
theorem cOi (b:BasM) (n:Int) (d e f:Sl Int):Ctr Tryz.prog cEb [] [.a b.C,.c (iC n),.c (cD d),.c (cD e),.c (cD f)] [] (λ_:Unit=>⟨pC True,[],True⟩):=by
 refine aW gT cVd cVe rfl rfl rfl bL aS (aPo 2 rfl λhd=>aPo 3 rfl λhe=>aPo 4 rfl λhf=>?_)
 replace hd:d.l.length<=9223372036854775807:=hd
 replace he:e.l.length<=9223372036854775807:=he
 replace hf:f.l.length<=9223372036854775807:=hf
 refine Sd.sq (aA gT mxd ?_)
 show Sd _ _ _ _ _ _
 refine Sd.sq (aA gT mxd ⟨.seq [(0,false),(1,false),(3,false),(4,false),(2,false),(5,true),(6,false),(7,true)],by kernel_rfl,[],bSs b.c 20,rfl,rfl,rfl,λc1 hc1=>⟨[],bSs b.r 20,rfl,rfl,rfl,λc2 hc2=>?_⟩⟩)
 replace hc1:c1.l.length<=20:=by rw[show c1.l=b.c.l.take 20 from hc1,bE];omega
 replace hc2:c2.l.length<=20:=by rw[show c2.l=b.r.l.take 20 from hc2,bE];omega
 show Sd _ _ _ _ _ _
 refine Sd.cut2 (σ:=Unit) (λ_=>⟨lxA d e f++[],[],[],[]⟩) (λ_=>True) ?_ λ_ _=>?_
 ·by_cases hn:n<0\/16384-(c2.l.length:Nat)<n
  ·refine aA gT mxd ⟨[],bQk ⟨c1,c2⟩ n hn (by show c2.l.length<=_;omega),rfl,rfl,rfl,λ_ _=>?_⟩
   show Sd _ _ _ _ _ _
   refine aA gT mxd ⟨(16384:Int)-(c2.l.length:Nat),λ_=>wi (h:=⟨rfl,by omega,by omega⟩),λh2=>aA gT mxd ?_,λh2=>absurd hn h2⟩
   refine⟨λh3=>?_,λh3=>aA gT mxd ?_⟩
   ·replace h3:((3:Int)≠3\/(0:Int)≠0)\/(0:Int)≠0:=h3
    omega
   exact bH g0 (chg:=λ_:Unit=>lxA d e f) (bls:=λ_=>[]) (fls:=λ_=>[]) () trivial rfl trivial trivial ⟨rfl,rfl,rfl⟩ bL aY rfl
  obtain⟨k,rfl⟩:∃k:Nat,n=k:=⟨n.toNat,by omega⟩
  replace hn:c2.l.length+k<=16384:=by omega
  refine aA gT mxd ⟨[],bSt ⟨c1,c2⟩ k (by show c1.l.length<=_;omega) hn,rfl,rfl,rfl,λx ⟨hxc,hxr⟩=>?_⟩
  replace hxc:x.c.l=c1.l:=hxc
  replace hxr:x.r.l=c2.l++List.replicate k 2:=hxr
  show Sd _ _ _ _ _ _
  refine aA gT mxd ⟨(16384:Int)-(c2.l.length:Nat),λ_=>wi (h:=⟨rfl,by omega,by omega⟩),λh2=>?_,λh2=>?_⟩
  ·replace h2:(k:Int)<0\/16384-((c2.l.length:Nat):Int)<(k:Nat):=h2
   omega
  show Sd _ _ _ _ _ _
  refine Sd.sq (aA gT mxd ?_)
  show Sd _ _ _ _ _ _
  refine aA gT mxd ⟨λh3=>?_,λh3=>aA gT mxd ?_⟩
  ·replace h3:(k:Int)<50:=h3
   show Sd _ _ _ _ _ _
   refine Sd.sq (aA gT mxd ⟨⟨λj _=>rfl,rfl,?_,?_,?_⟩,?_⟩)
   ·show 0+c2.l.length<=maxLen;simp only[maxLen];omega
   ·show(0+c2.l.length)*8<=_;omega
   ·exact λc hc=>cY (bK c2.l c (by rw[<-pP];exact hc))
   have hfl:[]++flatR c2.l.length (λj=>[iC (c2.l.getD j 0)])=c2.l.map iC:=pP c2.l
   show Sd _ _ _ _ _ _
   refine Sd.sq (Sd.sq (aA gT mxd ?_))
   show Sd _ _ _ _ _ _
   refine Sd.blk ?_
   refine cG (λ_=>true) (λi:Nat=>cDz d e f k (c2.l++List.replicate i 2).length i) (λi=>bQl ⟨c1,c2⟩ x (c2.l++List.replicate i 2)) (λ_=>[]) (λi=>i<=k) (λi=>k-i) λhM=>⟨?_,λi hi=>aA gT mxd ⟨λh4=>aA gT mxd ?_,λh4=>aA gT mxd ?_⟩⟩
   ·refine bH hM (chg:=λi:Nat=>cDz d e f k (c2.l++List.replicate i 2).length i) (bls:=λi=>bQl ⟨c1,c2⟩ x (c2.l++List.replicate i 2)) (fls:=λ_=>[]) (C:=λi:Nat=>i<=k) 0 (aC _) ?_ ?_ ?_ ?_ ?_ ?_ ?_
    ·rfl
    ·refine⟨rfl,rfl,?_⟩
     show((3,1,[]++flatR c2.l.length (λj=>[iC (c2.l.getD j 0)])):TypeId×Nat×List CV)=_
     rw[hfl]
     show _=((3,1,(c2.l++List.replicate 0 2).map iC):TypeId×Nat×List CV)
     rw[List.replicate_zero,dG]
    ·trivial
    ·refine⟨rfl,?_,rfl,rfl,rfl,rfl,rfl,rfl,rfl⟩
     show 0+c2.l.length=(c2.l++List.replicate 0 2).length
     rw[List.replicate_zero,dG,eA]
    ·exact bL
    ·exact aWu
    rfl
   all_goals replace hi:i<=k:=hi
   ·replace h4:(i:Int)<(k:Nat):=h4
    have hll:(c2.l++List.replicate i 2).length<=1000:=by rw[aE,cJ];omega
    refine⟨apI (x:=c2.l++List.replicate i 2) oM,(λc hc=>by rw[aH.1 hc];rfl),(i+1:Nat),wi,?_⟩
    refine bH hM (chg:=λi:Nat=>cDz d e f k (c2.l++List.replicate i 2).length i) (bls:=λi=>bQl ⟨c1,c2⟩ x (c2.l++List.replicate i 2)) (fls:=λ_=>[]) (C:=λi':Nat=>i'<=k/\k-i'<k-i) (i+1) ⟨by omega,by omega⟩ ?_ ?_ ?_ ?_ ?_ ?_ ?_
    ·rfl
    ·refine⟨rfl,rfl,?_⟩
     show((3,1,(c2.l++List.replicate i 2).map iC++[iC 2]):TypeId×Nat×List CV)=((3,1,(c2.l++List.replicate (i+1) 2).map iC):TypeId×Nat×List CV)
     rw[nE,<-cU,bG (l₁:=c2.l++List.replicate i 2)];rfl
    ·trivial
    ·refine⟨rfl,?_,rfl,rfl,rfl,rfl,rfl,rfl,rfl⟩
     show(c2.l++List.replicate i 2).length+1=(c2.l++List.replicate (i+1) 2).length
     simp;omega
    ·exact bL
    ·exact aWu
    rfl
   replace h4:¬(i:Int)<(k:Nat):=h4
   obtain rfl:i=k:=by omega
   show Sd _ _ _ _ _ _
   obtain⟨R,hR⟩:∃R,R=c2.l++List.replicate i 2:=⟨_,rfl⟩
   have hRl:R.length<=4096:=by rw[hR,aE,cJ];omega
   rw[<-hR]
   refine rT 13 2 (λj=>[iC (R.getD j 0)]) rfl rfl (λj hj=>nS j hj) (by rw[aN,bI]) bL (bK _) bL λA c _ _=>?_
   show Sd _ _ _ _ _ _
   refine aA gT mxd ⟨λg=>absurd rfl g,λg=>⟨[],cNw x ⟨c1,⟨A,c,R⟩⟩ (by rw[hxc];omega) (by rw[hxr,<-hR];omega) ⟨hxc,by rw[hxr,hR]⟩,rfl,rfl,rfl,λ_ _=>?_⟩⟩
   exact bH g0 (chg:=λ_:Unit=>lxA d e f) (bls:=λ_=>[]) (fls:=λ_=>[]) () trivial rfl trivial trivial ⟨rfl,rfl,rfl⟩ bL aY rfl
  exact bH g0 (chg:=λ_:Unit=>lxA d e f) (bls:=λ_=>[]) (fls:=λ_=>[]) () trivial rfl trivial trivial ⟨rfl,rfl,rfl⟩ bL aY rfl
 show Sd _ _ _ _ _ _
 refine aA gT mxd ⟨[],cBj d hd,rfl,rfl,rfl,λp hp=>?_⟩
 have hS:SmP p:=⟨⟨hp.1.2.1,hp.1.2.2⟩,hp.2.1,hp.2.2⟩
 obtain⟨q,hq⟩:=hS.prg
 have hpc:=hS.n.1
 have hpr:=hS.n.2
 refine⟨cVc,by kernel_rfl,BasM,λr=>⟨[(15,.c (.p 0 0)),(16,.c (.p 1 0)),(4,.c (cD f))]++[],[],lrB p r,[]⟩,λr=>BVal p q r,?_,λr hr=>?_⟩
 ·exact⟨⟨[],aKf e,rfl,rfl,rfl,λ_ _=>⟨rfl,⟨[1],aSf e p 0 he (aC _) oM oM,rfl,rfl,rfl,λg hg=>⟨rfl,⟨[],aWt p g.1 hS hq,rfl,rfl,rfl,λr hr=>⟨rfl,rfl,gsw 1 2 rfl rfl bL bL rfl ⟨bL,bH g0 (chg:=λ_:BasM=>[(15,.c (.p 0 0)),(16,.c (.p 1 0)),(4,.c (cD f))]) (bls:=λr=>lrB p r) (fls:=λ_=>[]) r (hr.val hq.v) rfl ⟨rfl,rfl⟩ trivial ⟨rfl,rfl,rfl⟩ bL aLh rfl⟩⟩⟩,⟨rfl,[],aWt p g.1 hS hq,rfl,rfl,rfl,λr hr=>⟨rfl,gsw 1 2 rfl rfl bL bL rfl ⟨bL,bH g0 (chg:=λ_:BasM=>[(15,.c (.p 0 0)),(16,.c (.p 1 0)),(4,.c (cD f))]) (bls:=λr=>lrB p r) (fls:=λ_=>[]) r (hr.val hq.v) rfl ⟨rfl,rfl⟩ trivial ⟨rfl,rfl,rfl⟩ bL aLh rfl⟩⟩⟩⟩⟩,⟨rfl,[1],aSf e p 0 he (aC _) oM oM,rfl,rfl,rfl,λg hg=>⟨rfl,[],aWt p g.1 hS hq,rfl,rfl,rfl,λr hr=>⟨rfl,gsw 1 2 rfl rfl bL bL rfl ⟨bL,bH g0 (chg:=λ_:BasM=>[(15,.c (.p 0 0)),(16,.c (.p 1 0)),(4,.c (cD f))]) (bls:=λr=>lrB p r) (fls:=λ_=>[]) r (hr.val hq.v) rfl ⟨rfl,rfl⟩ trivial ⟨rfl,rfl,rfl⟩ bL aLh rfl⟩⟩⟩⟩⟩⟩,⟨rfl,[],aKf e,rfl,rfl,rfl,λ_ _=>⟨rfl,[2],aSf e p 0 he (aC _) oM oM,rfl,rfl,rfl,λg hg=>⟨rfl,[],aWt p g.1 hS hq,rfl,rfl,rfl,λr hr=>⟨rfl,bH g0 (chg:=λ_:BasM=>[(15,.c (.p 0 0)),(16,.c (.p 1 0)),(4,.c (cD f))]) (bls:=λr=>lrB p r) (fls:=λ_=>[]) r (hr.val hq.v) rfl ⟨rfl,rfl⟩ trivial ⟨rfl,rfl,rfl⟩ bL aLh rfl⟩⟩⟩⟩⟩
 replace hr:BVal p q r:=hr
 refine⟨[],aKf f,rfl,rfl,rfl,λ_ _=>⟨⟨λj _=>rfl,rfl,?_,?_,?_⟩,?_⟩⟩
 ·show 0+p.r.l.length<=maxLen;simp only[maxLen];omega
 ·show(0+p.r.l.length)*88<=_;omega
 ·exact λc hc=>cY (qZ (L:=p.r.l) (d:=default) kA c hc)
 refine⟨[2],mT f 0 3 hf (aC _) dC dC,rfl,rfl,rfl,λs ⟨hs,hp1⟩=>?_⟩
 replace hs:0<=s.1/\s.1<3:=hs
 replace hp1:s.2<=f.l.length:=hp1
 show Sd _ _ _ _ _ _
 refine cG (λ_=>true) (λg:List RowM×Nat=>cEa s.1 g.1.length) (λg=>bQm f p r g.2 (p.r.l++g.1)) (λ_=>[]) (λg=>((g.1.length:Nat)<=s.1/\aYj g.1 p.c.l.length)/\g.2<=f.l.length) (λg=>(s.1-(g.1.length:Nat)).toNat) λhM=>⟨?_,λ⟨N,q0⟩ ⟨⟨hk,hN⟩,hq0⟩=>aA gT mxd ⟨λh1=>aA gT mxd ?_,λh1=>aA gT mxd ?_⟩⟩
 ·refine bH hM (chg:=λg:List RowM×Nat=>cEa s.1 g.1.length) (bls:=λg=>bQm f p r g.2 (p.r.l++g.1)) (fls:=λ_=>[]) ([],s.2) ⟨⟨hs.1,λr hr=>(by cases hr)⟩,hp1⟩ ?_ ?_ ?_ ?_ ?_ ?_ ?_
  ·rfl
  ·refine⟨rfl,rfl,rfl,?_,?_⟩
   ·show((42,0,[rZ p.c,.s 4 (0+p.r.l.length)]):TypeId×Nat×List CV)=(42,0,[rZ p.c,.s 4 (p.r.l++[]).length])
    rw[dG,eA]
   show((67,5,fl RowM.C default p.r.l):TypeId×Nat×List CV)=(67,5,fl RowM.C default (p.r.l++[]))
   rw[dG]
  ·trivial
  ·exact⟨rfl,rfl,rfl,rfl,rfl,rfl⟩
  ·exact bL
  ·exact aWv
  rfl
 all_goals
  replace hk:((N.length:Nat):Int)<=s.1:=hk
  replace hN:aYj N p.c.l.length:=hN
  replace hq0:q0<=f.l.length:=hq0
 ·replace h1:(N.length:Int)<s.1:=h1
  have hRl:(p.r.l++N).length<=10:=by rw[aE];omega
  refine⟨.treeX [] [2000,1,2002,2003,4,2005] (trS [6,7,1008,2009,1010]),by kernel_rfl,[2],bHx f q0 p.c.l.length hf hq0 oM,rfl,rfl,rfl,λg ⟨hg,hq2⟩=>⟨rfl,rfl,⟨rfl,(yZ (f:=RowM.C) (d:=default) (L:=p.r.l++N) (e:=5) λ_=>rfl).symm,by show(p.r.l++N).length+1<=maxLen;simp only[maxLen];omega,by show((p.r.l++N).length+1)*88<=_;omega,λc hc=>(aQ.1 hc).elim (λh=>cY (qZ kA c h)) λh=>cY (kA g.1 c h)⟩,(λc hc=>cY (kA g.1 c hc)),(N.length+1:Nat),wi,?_⟩⟩
  have hnl:(N++[g.1]).length=N.length+1:=by rw[aE];rfl
  refine bH hM (chg:=λg:List RowM×Nat=>cEa s.1 g.1.length) (bls:=λg=>bQm f p r g.2 (p.r.l++g.1)) (fls:=λ_=>[]) (N++[g.1],g.2.2) ⟨⟨⟨?_,λr hr=>?_⟩,hq2⟩,?_⟩ ?_ ?_ ?_ ?_ ?_ ?_ ?_
  ·show(((N++[g.1]).length:Nat):Int)<=s.1
   rw[hnl];omega
  ·rcases aQ.1 hr with hr|hr
   ·exact hN r hr
   rw[aH.1 hr];exact⟨_,_,hg⟩
  ·show(s.1-(((N++[g.1]).length:Nat):Int)).toNat<(s.1-((N.length:Nat):Int)).toNat
   rw[hnl];omega
  ·rfl
  ·refine⟨rfl,rfl,rfl,?_,?_⟩
   ·show((42,0,[rZ p.c,.s 4 ((p.r.l++N).length+1)]):TypeId×Nat×List CV)=(42,0,[rZ p.c,.s 4 (p.r.l++(N++[g.1])).length])
    rw[aE,aE,hnl,iA]
   show(_,_,_)=((67,5,fl RowM.C default (p.r.l++(N++[g.1]))):TypeId×Nat×List CV)
   rw[<-cU,<-aKe];rfl
  ·trivial
  ·refine⟨?_,rfl,rfl,rfl,rfl,rfl⟩
   show((N.length+1:Nat):Int)=(((N++[g.1]).length:Nat):Int)
   rw[hnl]
  ·exact bL
  ·exact aWv
  rfl
 replace h1:¬(N.length:Int)<s.1:=h1
 have hsN:s.1=((N.length:Nat):Int):=by omega
 have hN2:N.length<=2:=by omega
 obtain⟨w,hw⟩:=oN (r:=λ(i:Nat) (t:Rat×List En)=>i<N.length->RwS (N.getD i default) t.1 t.2 p.c.l.length) λi=>by
  by_cases hi:i<N.length
  ·obtain⟨b,es,hc⟩:=hN _ (fO hi)
   exact⟨(b,es),λ_=>hc⟩
  exact⟨(0,[]),λhh=>absurd hh hi⟩
 have hrr:=hr.ok.r
 have hrc:=hr.ok.c
 have hbx:Ctr Tryz.prog bJt [] [.a r.C,.c (iC s.1)] [] (λg:BasM=>⟨.t [.a g.C,.c (iC 0)],[],g.c.l=r.c.l/\g.r.l=r.r.l++List.replicate N.length 2⟩):=by
  rw[hsN]
  exact bSt r N.length oM oM
 show Sd _ _ _ _ _ _
 refine jV tSd 4 rfl bL (qZ kA) bL rfl λA a1=>iX tSd 3 0 [rZ p.c,aGe ⟨A.map λb=>⟨b,0,none⟩,a1,p.r.l++N⟩] rfl rfl rfl rfl (oT (k0:=1) rfl (bHz (λ_=>rfl) bL)) ?_
 obtain⟨p',hp'⟩:∃p':ProgM,p'=⟨p.c,⟨A.map λb=>⟨b,0,none⟩,a1,p.r.l++N⟩⟩:=⟨_,rfl⟩
 have hE:WrR p p' q N w:=⟨by rw[hp'],by rw[hp'],by omega,λi hi=>hw i hi⟩
 have hq':=hE.prg hq hS
 show Sd _ _ _ _ _ _
 refine aA gT mxd ⟨[],hbx,rfl,rfl,rfl,λx ⟨hxc,hxr⟩=>?_⟩
 have hX:WrB r x N.length:=⟨hxc,hxr⟩
 have hxv:=hX.val hE hr
 refine⟨[],aWk p r hq hr,rfl,rfl,rfl,λ⟨y,ys⟩ hy=>?_⟩
 have h4:=aWk p' x hq' hxv
 have h5:=bSo p' x hq' hxv
 rw[hp'] at h4 h5
 refine⟨[],h4,rfl,rfl,rfl,λ⟨z,zs⟩ hz=>?_⟩
 rw[<-hp'] at hz
 replace hy:PtL p q r y ys:=hy
 replace hz:PtL p' (wrQ q p.r.l.length w) x z zs:=hz
 have hzy:zs=ys:=(hX.pt hE hr hz.2).uniq hr hq.v hy.2
 have hsm:=aUu y z hy.1 (hzy▸hz.1) (λe he=>(hy.2.rb e he).le dC) (by rw[hy.2.ln];omega)
 have hg:((0:Int)=0/\(0:Int)=0)/\(0:Int)=0:=⟨⟨rfl,rfl⟩,rfl⟩
 refine⟨[],bPx,rfl,rfl,rfl,λ_ _=>⟨λg1=>⟨[],h5,rfl,rfl,rfl,λ_ _=>?_⟩,λg1=>absurd hg g1⟩⟩
 exact⟨[],hsm,rfl,rfl,rfl,λ_ _=>⟨(),trivial,aM lF rfl trivial⟩⟩
end Go.Proofs.YtghncoghdcmdfaaGreat
namespace Go.Proofs.YtghncoghdcmdfaaGreat
open Go.Vg Go.RowKit _root_.Go.Proofs.Tryz
open Go.Vm
open Go.Vy hiding val
open Go.ChangeShapes Go.WideShapes
namespace bulks
theorem cEc {H:Type} (d:DataW H):1<=Rows.uptoBulk d:=by
 cases d with
 |lit l=>cases l<;>simp[Rows.uptoBulk]
 |nil=>simp[Rows.uptoBulk]
 |ptr d=>simp[Rows.uptoBulk]
 |slice elems spare=>simp[Rows.uptoBulk]
 |agg parts=>simp[Rows.uptoBulk]
 |iface t d=>simp[Rows.uptoBulk]
 |map entries=>simp[Rows.uptoBulk]
 |held h=>simp[Rows.uptoBulk]
theorem part_le {H:Type} {d:DataW H} {l:List (DataW H)} (h:d∈l):Rows.uptoBulk d<=Rows.uptoBulkAll l:=by
 induction l with
 |nil=>cases h
 |cons x r ih=>
  simp only[Rows.uptoBulkAll]
  cases bZ.1 h with
  |inl e=>subst e;omega
  |inr e=>have:=ih e;omega
theorem length_le {H:Type} (l:List (DataW H)):l.length<=Rows.uptoBulkAll l:=by
 induction l with
 |nil=>simp[Rows.uptoBulkAll]
 |cons x r ih=>have:=cEc x;simp only[Rows.uptoBulkAll,eF];omega
end bulks
def ρA:Pl:=⟨λ_=>(none,0),λ_=>True,[]⟩
section
variable {H:Type} {enc:TypeId×Value->H} {w:World} {base:Nat} {spare:Nat->Bool} {held:Bool}
theorem zA {b:Nat} (h:b<w.heap.size):Zf ρA 0 w b:=⟨h,λi hi=>absurd hi (aF _),trivial,λ⟨F,hF,_⟩=>by cases hF⟩
def Opn (H:Type) (enc:TypeId×Value->H) (w:World) (base:Nat) (spare:Nat->Bool) (held:Bool) (T:TypeId) {α:Type} (C:α->List CV) (B:Nat->α->Prop):Prop:=
 ∀fuel cs x,DataW.trod enc Tryz.prog w base spare held fuel T cs=some x->∃a:α,(Hl ρA 0 w (C a) cs/\∀u∈cs,u.oneCell'=true)/\B (Rows.uptoBulk x.1) a
theorem aAy:Opn H enc w base spare held 3 (λz:Int=>[iC z]) λ_ _=>True:=λfuel cs x h=>by
 obtain⟨n,rfl,_,_⟩:=DataW.trod_int underlying3 h
 exact⟨n,⟨⟨Rc.v _,trivial⟩,λu hu=>by rw[aH.1 hu];rfl⟩,trivial⟩
theorem bSu {α:Type} {f:Nat->α} {n j:Nat} {d:α} (h:j<n):((List.range n).map f).getD j d=f j:=by simp[List.getD,h]
theorem aFw {T E e:Nat} {α:Type} {C:α->List CV} {B:Nat->α->Prop} (hT:Tryz.prog.underlying T=some (.slice E)) (hE:Tryz.prog.cellsOf E=e) (he:0<e) (hC:∀a,(C a).length=e) (hcl:∀a,∀c∈C a,fK c=true) (d:α) (hO:Opn H enc w base spare held E C B) (hB:∀m n a,m<=n->B m a->B n a):
 Opn H enc w base spare held T (λs:Sl α=>[s.R e C d]) λn s=>s.l.length<=n/\∀x∈s.l,B n x:=λfuel cs x h=>by
 rcases Go.Deep.open_slice hT h with ⟨rfl,rfl⟩|⟨a,len,cap,m,n,D,Pl,rfl,hb,hl,hm,hmm,rfl,hx⟩
 ·exact⟨cP,⟨⟨Rc.nil _ _ _ _ (aC _),trivial⟩,λu hu=>by rw[aH.1 hu];rfl⟩,aC _,λ_ h=>nomatch h⟩
 rw[hE] at hx
 have hlm:len<=m:=by rw[hmm];split<;>omega
 have each:∀i,i<len->∃q:α×List Value,w.cells? base (a.add (i*e)) e=some q.2/\(Hl ρA 0 w (C q.1) q.2/\∀u∈q.2,u.oneCell'=true)/\B (Rows.uptoBulk (D i)) q.1:=λi hi=>by
  obtain⟨cs',h1,h2⟩:=hx i (by omega)
  obtain⟨y,h3,h4⟩:=hO _ _ _ h2
  exact⟨(y,cs'),h1,h3,h4⟩
 have hlb:len<=Rows.uptoBulkAll ((List.range len).map D):=by
  have:=bulks.length_le ((List.range len).map D)
  rwa [aN,fJ] at this
 by_cases h0:len=0
 ·subst h0
  exact⟨⟨some a,cap,[]⟩,⟨⟨Rc.nil _ _ _ _ hm,trivial⟩,λu hu=>by rw[aH.1 hu];rfl⟩,aC _,λ_ h=>nomatch h⟩
 haveI:Inhabited (α×List Value):=⟨(d,[])⟩
 obtain⟨q,hq⟩:=Go.Deep.choose_lt each
 have cell:∀i,i<len->∀j (u:Value),((q i).2)[j]? =some u->w.cell? (a.add (i*e+j))=some u:=λi hi j u hu=>by
  obtain⟨_,h2,h3⟩:=World.cells?_some (hq i hi).1
  have h4:=h3 j (by rw[<-h2];exact eG hu)
  rw[Go.Deep.add_add,hu] at h4
  exact h4
 have l0:0<((q 0).2).length:=by rw[<-(hq 0 (by omega)).2.1.1.len,hC];exact he
 have c0:=cell 0 (by omega) 0 _ (aG l0)
 obtain⟨b,o,spot⟩:=a
 have hspot:spot=none:=by simpa[Addr.add] using World.cell?_spot c0
 subst hspot
 have hlt:b<w.heap.size:=by
  rw[fN] at c0
  unfold World.cell? at c0
  cases hh:w.heap[b]? with
  |none=>rw[show((⟨b,o+(0*e+0),none⟩:Addr).block)=b from rfl,hh] at c0;cases c0
  |some ob=>exact(jQ.1 hh).1
 refine⟨⟨some ⟨b,o,none⟩,cap,(List.range len).map λi=>(q i).1⟩,⟨⟨?_,trivial⟩,λu hu=>by rw[aH.1 hu];rfl⟩,?_,λx hx=>?_⟩
 ·show Rc (Zf ρA 0 w) w (.r (some ⟨b,o,none⟩) ((List.range len).map λi=>(q i).1).length cap e λj=>C (((List.range len).map λi=>(q i).1).getD j d)) (.slice (some ⟨b,o,none⟩) len cap)
  rw[aN,fJ]
  refine Rc.r b o len cap e _ (λi=>(q i).2) hl hm (zA hlt) (λj hj i u hu=>⟨?_,(hq j hj).2.1.2 u (aR hu)⟩) (λj hj=>?_) λj hj i c u h1 h2=>?_
  ·have:=cell j hj i u hu
   rw[fN] at this
   rw[iA]
   exact this
  ·rw[bSu hj]
   exact(hq j hj).2.1.1.len.symm
  rw[bSu hj] at h1
  obtain⟨y,h3,h4⟩:=(hq j hj).2.1.1.get h1
  rw[h2] at h3
  injection h3 with h3
  subst h3
  exact aGy h4 (hcl _ c (aR h1))
 ·show((List.range len).map λi=>(q i).1).length<=_
  rw[aN,fJ]
  simp only[Rows.uptoBulk]
  omega
 obtain⟨i,hi,rfl⟩:=cC.1 hx
 rw[cM] at hi
 have h5:=bulks.part_le (d:=D i) (l:=(List.range len).map D) (cC.2 ⟨i,cM.2 hi,rfl⟩)
 exact hB _ _ _ (by simp only[Rows.uptoBulk];omega) (hq i hi).2.2
theorem fld {fs:Array Field} {cs:List Value} {xs:List (DataW H×List MemPlace)} {n:Nat} (hf:∀(i:Nat) (f:Field),fs[i]? =some f->DataW.trod enc Tryz.prog w base spare held n f.type ((cs.drop f.offset).take (Tryz.prog.cellsOf f.type))=xs[i]?) (hx:xs.length=fs.size) (i:Nat) {f:Field} (hi:fs[i]? =some f) (t o k:Nat) (hk:Tryz.prog.cellsOf t=k) (ht:f.type=t:=by rfl) (ho:f.offset=o:=by rfl) {α:Type} {C:α->List CV} {B:Nat->α->Prop} (hO:Opn H enc w base spare held t C B) (hB:∀m n a,m<=n->B m a->B n a):
 ∃a:α,(Hl ρA 0 w (C a) ((cs.drop o).take k)/\∀u∈(cs.drop o).take k,u.oneCell'=true)/\B (Rows.uptoBulk (.agg (xs.map (·.1)))-1) a:=by
 have h:=hf i f hi
 rw[ht,ho,hk] at h
 have hlt:i<xs.length:=by rw[hx];exact(jQ.1 hi).1
 rw[aG hlt] at h
 obtain⟨a,h1,h2⟩:=hO _ _ _ h
 have h3:=bulks.part_le (d:=xs[i].1) (l:=xs.map (·.1)) (cC.2 ⟨xs[i],jK hlt,rfl⟩)
 exact⟨a,h1,hB _ _ a (by simp only[Rows.uptoBulk];omega) h2⟩
theorem hlS {l r:List CV} {cs:List Value} {o k:Nat} (h1:Hl ρA 0 w l ((cs.drop o).take k)/\∀u∈(cs.drop o).take k,u.oneCell'=true) (h2:Hl ρA 0 w r (cs.drop (o+k))/\∀u∈cs.drop (o+k),u.oneCell'=true):Hl ρA 0 w (l++r) (cs.drop o)/\∀u∈cs.drop o,u.oneCell'=true:=by
 have e:(cs.drop o).take k++cs.drop (o+k)=cs.drop o:=by rw[<-sH,dR]
 rw[<-e]
 refine⟨h1.1.append h2.1,λu hu=>?_⟩
 rcases aQ.1 hu with hu|hu
 ·exact h1.2 u hu
 exact h2.2 u hu
theorem hl0 {cs:List Value} {o:Nat} (h:cs.length=o):Hl ρA 0 w [] (cs.drop o)/\∀u∈cs.drop o,u.oneCell'=true:=by
 rw[List.drop_eq_nil_of_le (by omega)]
 exact⟨trivial,λ_ h=>nomatch h⟩
theorem bQn:Opn H enc w base spare held 45 BasM.C λ_ _=>True:=λfuel cs x h=>by
 obtain⟨xs,n,_,rfl,hl,hxl,hf⟩:=DataW.trod_struct underlying45 h
 obtain⟨a0,h0,b0⟩:=fld hf hxl 0 rfl 38 0 1 (by kernel_rfl) (hO:=aFw (e:=1) (C:=λz:Int=>[iC z]) underlying38 (by kernel_rfl) bL (λ_=>rfl) (λ_=>aYf rfl) 0 aAy (λ_ _ _ _ _=>trivial)) (hB:=λm n a h hs=>⟨aJ hs.1 h,hs.2⟩)
 obtain⟨a1,h1,b1⟩:=fld hf hxl 1 rfl 38 1 1 (by kernel_rfl) (hO:=aFw (e:=1) (C:=λz:Int=>[iC z]) underlying38 (by kernel_rfl) bL (λ_=>rfl) (λ_=>aYf rfl) 0 aAy (λ_ _ _ _ _=>trivial)) (hB:=λm n a h hs=>⟨aJ hs.1 h,hs.2⟩)
 have hl2:cs.length=2:=hl.trans (by kernel_rfl)
 exact⟨⟨a0,a1⟩,hlS h0 (hlS h1 (hl0 hl2)),trivial⟩
end
namespace basisExtendsDone
open Go.ChangeShapes Go.WideShapes Go.ChangeAt
theorem own:ownKnob Tryz.prog.godebug=none:=by kernel_rfl
theorem aAz:laidOutB Tryz.prog=true:=by kernel_rfl
set_option maxRecDepth 100000 in
theorem cEd (os:Os) (started:os.Started) (H:Type) (enc:TypeId×Value->H):
 ReturnsInHanded {} Tryz.checked os 7 .any (Rows.basisExtendsSpec.pre6 enc Tryz.prog Tryz.f7 Rows.basisExtendsRow.domain false) (Rows.basisExtendsSpec.post enc Tryz.prog Tryz.f7 false true false false):=by
 refine returnsInHanded_of_change (C:=Tryz.checked) own started (by kernel_rfl) func7
  (ChangeSpec.witness6 (enc:=enc) (C:=Tryz.checked) false ⟨#[],#[.agg #[.slice none 0 0,.slice none 0 0],.int .i64 0,.slice none 0 0,.slice none 0 0,.slice none 0 0],[]⟩ 8 (by kernel_rfl) (by kernel_rfl) (by kernel_rfl) (by kernel_rfl)) ?_
 intro W base args ds gs before hval0 hW hcnd _
 have hval:∀(j:Nat) t v,Tryz.f7.params[j]? =some t->args[j]? =some v->Value.okWide Tryz.prog W .any base t v:=hval0
 have hW':=hW
 obtain⟨p,q,hA0,hV,rfl,hfz,hnd⟩:=hW
 have hA:DataW.TrodAll enc Tryz.prog W 0 (λ_=>true) true Tryz.f7.params.toList args.toList ds p:=hA0
 rw[Tryz.params7] at hA hval
 obtain⟨v0,vs0,d0,ds0,p0,q0,hargs,rfl,rfl,h0,r0⟩:=trodAll_cons hA
 obtain⟨v1,vs1,d1,ds1,p1,q1,rfl,rfl,rfl,h1,r1⟩:=trodAll_cons r0
 obtain⟨v2,vs2,d2,ds2,p2,q2,rfl,rfl,rfl,h2,r2⟩:=trodAll_cons r1
 obtain⟨v3,vs3,d3,ds3,p3,q3,rfl,rfl,rfl,h3,r3⟩:=trodAll_cons r2
 obtain⟨v4,vs4,d4,ds4,p4,q4,rfl,rfl,rfl,h4,r4⟩:=trodAll_cons r3
 obtain⟨rfl,rfl,rfl⟩:=trodAll_nil r4
 obtain rfl:args=#[v0,v1,v2,v3,v4]:=by cases args;simp_all
 obtain⟨rfl,rfl⟩:=trodVars_none hV
 obtain⟨cs0,rfl,hcs0⟩:=okWide_struct underlying45 (hval 0 45 v0 rfl rfl)
 have k0:=h0
 have lt0:∀x∈p0,x.block<W.heap.size:=by obtain⟨m,hm⟩:=k0;exact DataW.trod_lt m _ _ _ hm
 obtain⟨D0,hD0⟩:∃D:BasM,Hd ρA 0 W (.a D.C) (.agg cs0):=by
  obtain⟨fuel,hf⟩:=h0
  obtain⟨D,⟨hl,_⟩,_⟩:=bQn _ _ _ hf
  refine⟨D,?_⟩
  obtain⟨l0⟩:=cs0
  exact .a hl
 obtain⟨n1,rfl⟩:=okWide_int underlying3 (hval 1 3 v1 rfl rfl)
 have k1:=h1
 have lt1:∀x∈p1,x.block<W.heap.size:=by obtain⟨m,hm⟩:=k1;exact DataW.trod_lt m _ _ _ hm
 have hD1:Hd ρA 0 W (.c (iC n1)) (.int .i64 n1):=.c (Rc.v _)
 obtain⟨a2,len2,cap2,rfl⟩:=okWide_slice underlying38 (hval 2 38 v2 rfl rfl)
 have k2:=h2
 have lt2:∀x∈p2,x.block<W.heap.size:=by obtain⟨m,hm⟩:=k2;exact DataW.trod_lt m _ _ _ hm
 obtain⟨D2,hD2⟩:∃D:Sl Int,Hd ρA 0 W (.c (cD D)) (.slice a2 len2 cap2):=by
  obtain⟨fuel,hf⟩:=h2
  obtain⟨D,⟨hl,_⟩,_⟩:=aFw (e:=1) (C:=λz:Int=>[iC z]) underlying38 (by kernel_rfl) bL (λ_=>rfl) (λ_=>aYf rfl) 0 aAy (λ_ _ _ _ _=>trivial) _ _ _ hf
  exact⟨D,.c hl.1⟩
 obtain⟨a3,len3,cap3,rfl⟩:=okWide_slice underlying38 (hval 3 38 v3 rfl rfl)
 have k3:=h3
 have lt3:∀x∈p3,x.block<W.heap.size:=by obtain⟨m,hm⟩:=k3;exact DataW.trod_lt m _ _ _ hm
 obtain⟨D3,hD3⟩:∃D:Sl Int,Hd ρA 0 W (.c (cD D)) (.slice a3 len3 cap3):=by
  obtain⟨fuel,hf⟩:=h3
  obtain⟨D,⟨hl,_⟩,_⟩:=aFw (e:=1) (C:=λz:Int=>[iC z]) underlying38 (by kernel_rfl) bL (λ_=>rfl) (λ_=>aYf rfl) 0 aAy (λ_ _ _ _ _=>trivial) _ _ _ hf
  exact⟨D,.c hl.1⟩
 obtain⟨a4,len4,cap4,rfl⟩:=okWide_slice underlying38 (hval 4 38 v4 rfl rfl)
 have k4:=h4
 have lt4:∀x∈p4,x.block<W.heap.size:=by obtain⟨m,hm⟩:=k4;exact DataW.trod_lt m _ _ _ hm
 obtain⟨D4,hD4⟩:∃D:Sl Int,Hd ρA 0 W (.c (cD D)) (.slice a4 len4 cap4):=by
  obtain⟨fuel,hf⟩:=h4
  obtain⟨D,⟨hl,_⟩,_⟩:=aFw (e:=1) (C:=λz:Int=>[iC z]) underlying38 (by kernel_rfl) bL (λ_=>rfl) (λ_=>aYf rfl) 0 aAy (λ_ _ _ _ _=>trivial) _ _ _ hf
  exact⟨D,.c hl.1⟩
 clear hA0 hval0
 refine((cOi D0 n1 D2 D3 D4).run ρA W [.agg cs0,.int .i64 n1,.slice a2 len2 cap2,.slice a3 len3 cap3,.slice a4 len4 cap4] ⟨hD0,hD1,hD2,hD3,hD4,trivial⟩ ⟨λi T es l hi=>(by cases hi),λi j b hi=>absurd hi (aF _),λi b _ hi=>absurd hi (aF _),aI _,⟨rfl,rfl,rfl,aI _,λ_ _ _ _=>rfl⟩,λi hi=>rfl,⟨rfl,λ_ _=>trivial⟩,FamOk.nil,λb hb=> .inr hb⟩ rfl).mono λe W' ⟨v,he,g,ρ',_,hDr,hdv,_,_⟩=>?_
 have hr:=hDr.rel
 have bel:Below W.heap.size W W':=⟨hr.os,hr.tape,hr.output,hr.size,λk hk=>hr.block k hk (λi hi=>absurd hi (aF _)) λ⟨F,hF,_⟩=>by cases hF⟩
 have hv:v= .bool true:=by
  have h5:=hdv.inv_c.inv_b
  rw[h5]
  simp
 subst he hv
 exact⟨_,rfl,_,_,_,[],_,[],hW',trodAll_mk1 (shut_bool underlying4 _),(trodAll_cons_mk (Below.trod aAz (by kernel_rfl) (of_decide_eq_true (by kernel_rfl)) k0 bel lt0) (trodAll_cons_mk (Below.trod aAz (by kernel_rfl) (of_decide_eq_true (by kernel_rfl)) k1 bel lt1) (trodAll_cons_mk (Below.trod aAz (by kernel_rfl) (of_decide_eq_true (by kernel_rfl)) k2 bel lt2) (trodAll_cons_mk (Below.trod aAz (by kernel_rfl) (of_decide_eq_true (by kernel_rfl)) k3 bel lt3) (trodAll_cons_mk (Below.trod aAz (by kernel_rfl) (of_decide_eq_true (by kernel_rfl)) k4 bel lt4) trodAll_mk0))))),rfl,bel.frame _,λh=>by cases h⟩
theorem cVf:Rows.basisExtendsRow.holds Tryz.pinned (OpenSpec.ofChange Rows.basisExtendsSpec):=
 OpenClaim.holds_of_wide 7 Tryz.f7 rfl rfl rfl rfl rfl rfl rfl ⟨rfl,rfl,rfl,rfl,rfl⟩ rfl rfl rfl rfl rfl (by kernel_rfl) func7 (by kernel_rfl)
  (of_decide_eq_true (by kernel_rfl)) (by unfold Func.isWrapper;first|(rw[if_pos (by decide+kernel)];kernel_rfl)|(rw[if_neg (by decide+kernel)];exact⟨rfl,rfl⟩))
  (λos started H enc _=>cEd os started H enc)
theorem proved:Rows.BasisExtendsSaid:=cVf
#print axioms proved
end basisExtendsDone
end Go.Proofs.YtghncoghdcmdfaaGreat
