/- For every input the law UpdateUndo returns true, and what came in reads as it did. Part 6 of 7: Ul Um Un Uo Up Uq Ur Us Ut Uu Vyq Vyr Uv Uw Ux Uy Uz Sa Sb Sc Sd Sx Se Sf Sg Sh Si Sj. -/
import Derived.Shelf.Small.Bits
import Derived.Test.YtlhdigjbokkbiaaGreatK5
set_option maxHeartbeats 4000000
set_option linter.unusedVariables false
set_option linter.unusedSimpArgs false
namespace Go.Proofs.YtlhdigjbokkbiaaGreat
open Go.Vg _root_.Go.Proofs.Tryz
open Go.Vm hiding sg sg_t sg_f sg_abs sg_add sg_mul bF aU bG cM
open Go.Vy hiding val
section
variable {α:Type} {f:α->List CV} {d:α} {L:List α} {e:Nat}
def fl (f:α->List CV) (d:α) (L:List α):List CV:=flatR L.length λj=>f (L.getD j d)
theorem qR {x:α}:fl f d L++f x=fl f d (L++[x]):=by
 unfold fl
 rw[List.length_append,List.length_singleton,dK]
 have h1:(L++[x]).getD L.length d=x:=by simp[List.getD]
 rw[h1,fR (Q:=λj=>f ((L++[x]).getD j d)) λj hj=>by simp[List.getD,List.getElem?_append_left hj]]
theorem nN (h:∀x,∀c∈f x,cW c=true):∀c∈fl f d L,cW c=true:=pG (λ_=>h _) _
theorem iT (h:∀x,(f x).length=e):(fl f d L).length=L.length*e:=jF λ_ _=>h _
theorem vU (h:∀x,(f x).length=e) (j:Nat) (hj:j<L.length):f (L.getD j d)=((fl f d L).drop (j*e)).take e:=(zE (P:=λj=>f (L.getD j d)) (λ_ _=>h _) hj).symm
end
abbrev bDm:FuncId:=13
theorem bOx:Ent Tryz.prog bDm:=Ent.of func13 rfl kR
theorem bOy:Tryz.prog.funcs[bDm]? =some Tryz.f13:=func13
theorem aYs (a n:Int) (hn:0<n) (hn2:n<=1000000):Ctr Tryz.prog bDm [] [.c (iC a),.c (iC n)] [] (λr:Int=>⟨.c (iC r),[],0<=r∧r<n⟩):=by
 have hu:0<=a%18446744073709551616:=Int.emod_nonneg _ dC
 have e:(a%18446744073709551616).tmod n=a%18446744073709551616%n:=Int.tmod_eq_emod_of_nonneg hu
 have h1:=Int.emod_nonneg (a%18446744073709551616) (show n≠0 by omega)
 have h2:=Int.emod_lt_of_pos (a%18446744073709551616) hn
 refine aX gT bOx bOy rfl rfl rfl bL ClB.nil (aA gT mxd ⟨a%18446744073709551616,?_,n,?_,(show n≠0 by omega),a%18446744073709551616%n,?_,a%18446744073709551616%n,⟨h1,h2⟩,aN rfl rfl trivial⟩)
 ·rfl
 ·show n=n%18446744073709551616
  omega
 rw[e]
 refine wi (z:=a%18446744073709551616%n) (h:=⟨rfl,by omega,by omega⟩)
abbrev tpB (d:Sl Int) (p:Nat):BL:=[(84,0,[dO d,iC p])]
abbrev aQl:FuncId:=14
theorem bJs:Ent Tryz.prog aQl:=Ent.of func14 rfl kR
theorem bJt:Tryz.prog.funcs[aQl]? =some Tryz.f14:=func14
theorem aEs (d:Sl Int):Ctr Tryz.prog aQl [] [.c (dO d)] [] (λ_:Unit=>⟨.c (.p 0 0),tpB d 0,True⟩):=
 aX gT bJs bJt rfl rfl rfl bL ClB.nil (aA gT mxd ⟨(),trivial,dU rfl rfl (Nat.zero_le _) (scB.cons rfl scB.nil) rfl oK⟩)
abbrev aEt:FuncId:=24
theorem bDn:Ent Tryz.prog aEt:=Ent.of func24 rfl kR
theorem bDo:Tryz.prog.funcs[aEt]? =some Tryz.f24:=func24
theorem oF (d:Sl Int) (p:Nat) (n:Int) (hd:d.l.length<=9223372036854775807) (hp:p<=d.l.length) (hn:0<n) (hn2:n<=1000000):Ctr Tryz.prog aEt [true] [.c (.p 0 0),.c (iC n)] (tpB d p) (λg:Int×Nat=>⟨.c (iC g.1),tpB d g.2,(0<=g.1∧g.1<n)∧g.2<=d.l.length⟩):=by
 refine aX gT bDn bDo rfl rfl rfl bL (ClB.one rfl) (aA gT mxd ⟨.seq (sq 99 (List.range 10)),by kernel_rfl,⟨λh=>aA gT mxd ⟨(0,p),⟨⟨Int.le_refl 0,hn⟩,hp⟩,dU rfl rfl bL (scB.cons rfl scB.nil) rfl (ClB.one rfl)⟩,λh=>aA gT mxd ?_⟩⟩)
 have hpl:p<d.l.length:=by replace h:¬(p:Int)≥(d.l.length:Nat):=h;omega
 exact⟨(p+1:Nat),wi,.seq (sq 99 (List.range 14)),by kernel_rfl,p,wi,p,⟨rfl,hpl⟩,[],aYs _ n hn hn2,rfl,rfl,rfl,λr hr=>⟨(r,p+1),⟨hr,hpl⟩,dU rfl rfl bL (scB.cons rfl scB.nil) rfl (ClB.one rfl)⟩⟩
theorem aQm {a b:Int} (ha:a.natAbs<=1000) (hb:b.natAbs<=1000):rb (Rat.divInt a b) 1:=by
 have h1:=lN (a:=a) (b:=b)
 have h2:=lO (a:=a) (b:=b)
 have h3:∀{z:Int},z.natAbs<=1000->len z.natAbs<=1:=λ{z} hz=>Nat.le_trans (cH hz) dC
 simp only[cJ] at h1 h2
 exact⟨by have:=h3 ha;omega,by have:=h3 hb;omega⟩
abbrev bDp:FuncId:=74
theorem bOz:Ent Tryz.prog bDp:=Ent.of func74 rfl kR
theorem bPa:Tryz.prog.funcs[bDp]? =some Tryz.f74:=func74
theorem bJu {a b:Int} (ha:a.natAbs<=1000) (hb:b.natAbs<=1000):Ctr Tryz.prog bDp [] [.c (iC a),.c (iC b)] [] (jU (Rat.divInt a b)):=by
 have hl:=iI (n:=a.natAbs)
 refine aX gT bOz bPa rfl rfl rfl bL ClB.nil (aA gT mxd ⟨[],oB oM,rfl,rfl,rfl,λg hg=>⟨[],oB oM,rfl,rfl,rfl,λo ho=>⟨[],tH g o (Ci.in hg oM) (Ci.in ho (by have:=iI (n:=b.natAbs);omega)),rfl,rfl,rfl,λr hr=>⟨r,hr,aN rfl rfl trivial⟩⟩⟩⟩)
abbrev aQn:FuncId:=38
theorem bJv:Ent Tryz.prog aQn:=Ent.of func38 rfl kR
theorem bJw:Tryz.prog.funcs[aQn]? =some Tryz.f38:=func38
theorem aEu (d:Sl Int) (p:Nat) (hd:d.l.length<=9223372036854775807) (hp:p<=d.l.length):Ctr Tryz.prog aQn [true] [.c (.p 0 0)] (tpB d p) (λg:RatM×Rat×Nat=>⟨.a g.1.C,tpB d g.2.2,(Cr g.1 g.2.1∧rb g.2.1 1)∧g.2.2<=d.l.length⟩):=by
 refine aX gT bJv bJw rfl rfl rfl bL (ClB.one rfl) (aA gT mxd ⟨[0],oF d p 13 hd hp dC dC,rfl,rfl,rfl,λr hr=>⟨r.1-6,wi (h:=⟨rfl,by have:=hr.1;omega,by have:=hr.1;omega⟩),[0],oF d r.2 4 hd hr.2 dC dC,rfl,rfl,rfl,λs hs=>⟨1+s.1,wi (h:=⟨rfl,by have:=hs.1;omega,by have:=hs.1;omega⟩),[],bJu (by have:=hr.1;omega) (by have:=hs.1;omega),rfl,rfl,rfl,λg hg=>⟨(g,Rat.divInt (r.1-6) (1+s.1),s.2),⟨⟨hg,aQm (by have:=hr.1;omega) (by have:=hs.1;omega)⟩,hs.2⟩,dU rfl rfl bL (scB.cons rfl scB.nil) rfl (ClB.one rfl)⟩⟩⟩⟩)
theorem oG {x:List RatM} {qs:List Rat} {g:RatM} {q:Rat} (h:Rl x qs) (hg:Cr g q):Rl (x++[g]) (qs++[q]):=⟨by simp[h.ln],λk hk=>by
 have hl:=h.ln
 rw[List.length_append,List.length_singleton] at hk
 by_cases h1:k<qs.length
 ·have:=h.e k h1
  simp only[List.getD,List.getElem?_append_left (show k<x.length by omega),List.getElem?_append_left h1]
  exact this
 obtain rfl:k=qs.length:=by omega
 simp only[List.getD,List.getElem?_append_right (show x.length<=qs.length by omega),List.getElem?_append_right (Nat.le_refl _),hl,Nat.sub_self]
 exact hg⟩
theorem nO {qs:List Rat} {q:Rat} {B:Nat} (h:rbL qs B) (hq:rb q B):rbL (qs++[q]) B:=λa ha=>by
 rcases List.mem_append.1 ha with h1|h1
 ·exact h a h1
 rw[List.mem_singleton.1 h1];exact hq
theorem fO {i:Nat} (g:RatM):∀c∈g.C,eX i c=false:=λc hc=>dN (cP g c hc)
abbrev aEv:FuncId:=15
theorem bDq:Ent Tryz.prog aEv:=Ent.of func15 rfl kR
theorem bDr:Tryz.prog.funcs[aEv]? =some Tryz.f15:=func15
abbrev rtB (d:Sl Int) (p:Nat) (L:List RatM):BL:=[(84,0,[dO d,iC p]),(51,3,fl RatM.C default L)]
theorem vV {d:Sl Int} {p:Nat} {L:List RatM}:scB 2 (rtB d p L):=scB.cons rfl (scB.cons (aZ (nN cP)) scB.nil)
abbrev rtG (m:Nat) (i:Nat) (L:List RatM):List (Nat×DV):=[(6,.c (iC i)),(5,.c (.s 1 L.length)),(0,.c (.p 0 0)),(1,.c (iC m))]
theorem aWg (d:Sl Int) (p m:Nat) (hd:d.l.length<=9223372036854775807) (hp:p<=d.l.length) (hm:m<=1000):Ctr Tryz.prog aEv [true] [.c (.p 0 0),.c (iC m)] (tpB d p) (λg:Sl RatM×List Rat×Nat=>⟨.c (cN g.1),tpB d g.2.2,(Rl g.1.l g.2.1∧g.2.1.length=m)∧rbL g.2.1 1∧g.2.2<=d.l.length⟩):=by
 refine aX gT bDq bDr rfl rfl rfl bL (ClB.one rfl) (aA gT mxd (yO 5 51 3 rfl bL ?_))
 refine bV (λ_=>true) (λg:Nat×List RatM×List Rat×Nat=>rtG m g.1 g.2.1) (λg=>rtB d g.2.2.2 g.2.1) (λ_=>[]) (λg=>(g.1<=m∧g.2.2.1.length=g.1)∧Rl g.2.1 g.2.2.1∧rbL g.2.2.1 1∧g.2.2.2<=d.l.length) (λg=>m-g.1) λhM=>⟨bA hM (chg:=λg:Nat×List RatM×List Rat×Nat=>rtG m g.1 g.2.1) (bls:=λg=>rtB d g.2.2.2 g.2.1) (fls:=λ_=>[]) (0,[],[],p) ⟨⟨Nat.zero_le _,rfl⟩,⟨rfl,λk hk=>absurd hk (Nat.not_lt_zero _)⟩,λq hq=>(by cases hq),hp⟩ rfl ⟨rfl,rfl⟩ trivial ⟨rfl,rfl,rfl,rfl⟩ bL vV rfl,λ⟨i,L,qs,q⟩ ⟨⟨hi,hn⟩,hL,hb,hq⟩=>aA gT mxd ⟨λh1=>aA gT mxd ?_,λh1=>aA gT mxd ?_⟩⟩
 all_goals
  replace hi:i<=m:=hi
  replace hn:qs.length=i:=hn
  replace hL:Rl L qs:=hL
  replace hb:rbL qs 1:=hb
  replace hq:q<=d.l.length:=hq
  have hl:=hL.ln
 ·have him:i<m:=by replace h1:(i:Int)<(m:Nat):=h1;omega
  exact⟨[0],aEu d q hd hq,rfl,rfl,rfl,λg hg=>⟨⟨rfl,(iT (f:=RatM.C) (d:=default) (L:=L) (e:=3) λ_=>rfl).symm,by show L.length+1<=maxLen;simp only[maxLen];omega,by show(L.length+1)*56<=_;omega,λc hc=>(List.mem_append.1 hc).elim (λh=>dN (nN cP c h)) (fO _ c)⟩,fO _,(i+1:Nat),wi,bA hM (chg:=λg:Nat×List RatM×List Rat×Nat=>rtG m g.1 g.2.1) (bls:=λg=>rtB d g.2.2.2 g.2.1) (fls:=λ_=>[]) (i+1,L++[g.1],qs++[g.2.1],g.2.2) ⟨⟨⟨him,by simp[hn]⟩,oG hL hg.1.1,nO hb hg.1.2,hg.2⟩,show m-(i+1)<m-i by omega⟩ rfl ⟨rfl,by show(51,3,fl RatM.C default L++g.1.C)=_;rw[qR]⟩ trivial ⟨rfl,by show L.length+1=(L++[g.1]).length;simp,rfl,rfl⟩ bL vV rfl⟩⟩
 have hii:i=m:=by replace h1:¬(i:Int)<(m:Nat):=h1;omega
 exact aDu 5 1 (λj=>(L.getD j default).C) rfl rfl (λj hj=>vU (f:=RatM.C) (d:=default) (L:=L) (e:=3) (λ_=>rfl) j hj) (iT (f:=RatM.C) (d:=default) (L:=L) (e:=3) λ_=>rfl).symm bL (nN cP) bL λA c _ _=>aA gT mxd ⟨((⟨A,c,L⟩:Sl RatM),qs,q),⟨⟨hL,hn.trans hii⟩,hb,hq⟩,dU rfl rfl bL (scB.cons rfl scB.nil) rfl (ClB.one rfl)⟩
abbrev bDs:FuncId:=93
theorem bPb:Ent Tryz.prog bDs:=Ent.of func93 rfl kR
theorem bPc:Tryz.prog.funcs[bDs]? =some Tryz.f93:=func93
theorem bJx (x y:IntM) {z:Int} (hx:Ci x z) (hy:Ci y z):Ctr Tryz.prog bDs [] [.a x.C,.a y.C] [] (λ_:Unit=>⟨pC True,[],True⟩):=by
 have hp:x.p↔y.p:=hx.1.trans hy.1.symm
 have hm:x.m.l=y.m.l:=hx.2.trans hy.2.symm
 exact aX gT bPb bPc rfl rfl rfl bL ClB.nil (aA gT mxd ⟨λ_=>⟨[],yS x.m y.m,rfl,rfl,rfl,λ_ _=>⟨(),trivial,aN ⟨λ_=>trivial,λ_=>hm⟩ rfl trivial⟩⟩,λh=>absurd hp h⟩)
abbrev bDt:FuncId:=54
theorem bPd:Ent Tryz.prog bDt:=Ent.of func54 rfl kR
theorem bPe:Tryz.prog.funcs[bDt]? =some Tryz.f54:=func54
theorem aQo (x y:RatM) {q:Rat} (hx:Cr x q) (hy:Cr y q):Ctr Tryz.prog bDt [] [.a x.C,.a y.C] [] (λ_:Unit=>⟨pC True,[],True⟩):=by
 have hm:x.d.l=y.d.l:=hx.2.trans hy.2.symm
 refine aX gT bPd bPe rfl rfl rfl bL ClB.nil (aA gT mxd ⟨[],bJx x.n y.n hx.1 hy.1,rfl,rfl,rfl,λ_ _=>⟨λ_=>⟨[],yS x.d y.d,rfl,rfl,rfl,λ_ _=>⟨(),trivial,aN ⟨λ_=>trivial,λ_=>hm⟩ rfl trivial⟩⟩,λh=>absurd trivial h⟩⟩)
abbrev aQp:FuncId:=53
theorem bJy:Ent Tryz.prog aQp:=Ent.of func53 rfl kR
theorem bJz:Tryz.prog.funcs[aQp]? =some Tryz.f53:=func53
theorem aEw (x:RatM) {q:Rat} (hx:Cr x q) (hb:rb q 549755813888):Ctr Tryz.prog aQp [] [.a x.C] [] (λ_:Unit=>⟨pC True,[],True⟩):=by
 refine aX gT bJy bJz rfl rfl rfl bL ClB.nil (aA gT mxd ⟨.seq (sq 99 (List.range 5)),by kernel_rfl,[],eE x (hx.rq hb),rfl,rfl,rfl,λg hg=>⟨[],aQo x g hx hg,rfl,rfl,rfl,λ_ _=>⟨(),trivial,aN Iff.rfl rfl trivial⟩⟩⟩)
abbrev zL:FuncId:=22
theorem bDu:Ent Tryz.prog zL:=Ent.of func22 rfl kR
theorem bDv:Tryz.prog.funcs[zL]? =some Tryz.f22:=func22
theorem aHr (x y:Sl RatM) {qs:List Rat} (hx:Rl x.l qs) (hy:Rl y.l qs) (hb:rbL qs 549755813888) (hn:qs.length<=4096):Ctr Tryz.prog zL [] [.c (cN x),.c (cN y)] [] (λ_:Unit=>⟨pC True,[],True⟩):=by
 have lx:=hx.ln
 have ly:=hy.ln
 refine aX gT bDu bDv rfl rfl rfl bL ClB.nil (aA gT mxd ⟨λh=>aA gT mxd ?_,λ_=>aA gT mxd ?_⟩)
 ·replace h:((x.l.length:Nat):Int)≠(y.l.length:Nat):=h
  omega
 refine bV (λ_=>true) (λk:Nat=>[(5,.c (iC k)),(0,.c (cN x)),(1,.c (cN y))]) (λ_=>[]) (λ_=>[]) (λk=>k<=qs.length) (λk=>qs.length-k) λhM=>⟨bA hM (chg:=λk:Nat=>[(5,.c (iC k)),(0,.c (cN x)),(1,.c (cN y))]) (bls:=λ_=>[]) (fls:=λ_=>[]) 0 (Nat.zero_le _) rfl trivial trivial ⟨rfl,rfl,rfl⟩ bL scB.nil rfl,λk hk=>aA gT mxd ⟨λh1=>aA gT mxd ?_,λh1=>aA gT mxd ?_⟩⟩
 all_goals replace hk:k<=qs.length:=hk
 ·have hkl:k<qs.length:=by replace h1:(k:Int)<(x.l.length:Nat):=h1;omega
  have kx:k<x.l.length:=by omega
  have ky:k<y.l.length:=by omega
  have no:∀{p:Prop},¬True->p:=λh=>absurd trivial h
  exact⟨.seq (sq 99 (List.range 26)),by kernel_rfl,k,⟨rfl,kx⟩,[],aEw _ (hx.e k hkl) (hb _ (gD0 hkl)),rfl,rfl,rfl,λ_ _=>⟨k,λ_=>⟨rfl,ky⟩,λh=>absurd trivial h,λ_=>⟨[],aEw _ (hy.e k hkl) (hb _ (gD0 hkl)),rfl,rfl,rfl,λ_ _=>⟨k,λ_=>⟨rfl,kx⟩,k,λ_=>⟨rfl,ky⟩,λh=>absurd trivial h,λ_=>⟨[],aQo _ _ (hx.e k hkl) (hy.e k hkl),rfl,rfl,rfl,λ_ _=>⟨λh=>absurd trivial h,λ_=>aA gT mxd ⟨(k+1:Nat),wi,bA hM (chg:=λk:Nat=>[(5,.c (iC k)),(0,.c (cN x)),(1,.c (cN y))]) (bls:=λ_=>[]) (fls:=λ_=>[]) (k+1) ⟨hkl,show qs.length-(k+1)<qs.length-k by omega⟩ rfl trivial trivial ⟨rfl,rfl,rfl⟩ bL scB.nil rfl⟩⟩⟩⟩⟩⟩⟩
 exact aA gT mxd ⟨(),trivial,aN (tt trivial) rfl trivial⟩
theorem bDw {es:List En} {k:Nat} {i:Int} (hk:k<es.length):Vm.get (es.take (k+1)) i=Vm.get (es.take k) i+(if (es.getD k default).1=i then (es.getD k default).2 else 0):=by
 have e1:es.take (k+1)=es.take k++[es.getD k default]:=by rw[List.take_add_one,List.getElem?_eq_getElem hk,gd hk];rfl
 rw[e1,gJ]
 show _+(_+0)=_
 rw[Rat.add_zero]
theorem bDx {es:List En} {k B:Nat} (h:rbE es B):rbE (es.take k) B:=λe he=>h e (List.mem_of_mem_take he)
abbrev aQq:FuncId:=47
theorem bKa:Ent Tryz.prog aQq:=Ent.of func47 rfl kR
theorem bKb:Tryz.prog.funcs[aQq]? =some Tryz.f47:=func47
abbrev geG (x:Sl EntM) (i:Int) (k:Nat):List (Nat×DV):=[(6,.c (iC k)),(0,.c (aO x)),(1,.c (iC i)),(4,.c (.p 0 0)),(5,.c (.p 1 0))]
abbrev geB (g:RatM):BL:=[(51,0,pE),(51,0,g.C)]
theorem aEx {g:RatM}:scB 2 (geB g):=scB.cons rfl (scB.cons rfl scB.nil)
theorem aEy (x:Sl EntM) (i:Int) {es:List En} {B:Nat} (h:Ek x.l es) (ha:Asc es) (hb:rbE es B) (h1:1<=B) (hB:B<=137438953472) (hn:es.length<=4096):Ctr Tryz.prog aQq [] [.c (aO x),.c (iC i)] [] (jU (Vm.get es i)):=by
 have hl:=h.ln
 refine aX gT bKa bKb rfl rfl rfl bL ClB.nil (aA gT mxd ⟨[],rM,rfl,rfl,rfl,λz hz=>?_⟩)
 refine bV (λ_=>true) (λg:Nat×RatM=>geG x i g.1) (λg=>geB g.2) (λ_=>[]) (λg=>g.1<=es.length∧Cr g.2 (Vm.get (es.take g.1) i)) (λg=>es.length-g.1) λhM=>⟨bA hM (chg:=λg:Nat×RatM=>geG x i g.1) (bls:=λg=>geB g.2) (fls:=λ_=>[]) (0,z) ⟨Nat.zero_le _,hz⟩ rfl ⟨rfl,rfl⟩ trivial ⟨rfl,rfl,rfl,rfl,rfl⟩ bL aEx rfl,λ⟨k,g⟩ ⟨hk,hg⟩=>aA gT mxd ⟨λh2=>aA gT mxd ?_,λh2=>aA gT mxd ?_⟩⟩
 all_goals
  replace hk:k<=es.length:=hk
  replace hg:Cr g (Vm.get (es.take k) i):=hg
 ·have hkl:k<es.length:=by replace h2:(k:Int)<(x.l.length:Nat):=h2;omega
  have kx:k<x.l.length:=by omega
  have he:=h.e k hkl
  have e1:=bDw (i:=i) hkl
  have rq:∀{r:RatM} {q:Rat},Cr r q->rb q B->Rq r q 137438953472:=λhr hb=>(Cr.rq hr hb).le hB
  refine⟨k,⟨rfl,kx⟩,λh3=>aA gT mxd ?_,λh3=>aA gT mxd ?_⟩
  ·replace h3:(x.l.getD k default).ix=i:=h3
   rw[he.1] at h3
   rw[if_pos h3] at e1
   exact⟨.seq (sq 7 (List.range 8)),by kernel_rfl,k,⟨rfl,kx⟩,[],aEg g (x.l.getD k default).v (rq hg (fY (ha.sublist (List.take_sublist k es)) (bDx hb) h1)) (rq he.2 (hb _ (dW hkl))),rfl,rfl,rfl,λr hr=>⟨(k+1:Nat),wi,bA hM (chg:=λg:Nat×RatM=>geG x i g.1) (bls:=λg=>geB g.2) (fls:=λ_=>[]) (k+1,r) ⟨⟨hkl,by show Cr r (Vm.get (es.take (k+1)) i);rw[e1];exact hr⟩,show es.length-(k+1)<es.length-k by omega⟩ rfl ⟨rfl,rfl⟩ trivial ⟨rfl,rfl,rfl,rfl,rfl⟩ bL aEx rfl⟩⟩
  replace h3:¬(x.l.getD k default).ix=i:=h3
  rw[he.1] at h3
  rw[if_neg h3,Rat.add_zero] at e1
  exact⟨(k+1:Nat),wi,bA hM (chg:=λg:Nat×RatM=>geG x i g.1) (bls:=λg=>geB g.2) (fls:=λ_=>[]) (k+1,g) ⟨⟨hkl,by show Cr g (Vm.get (es.take (k+1)) i);rw[e1];exact hg⟩,show es.length-(k+1)<es.length-k by omega⟩ rfl ⟨rfl,rfl⟩ trivial ⟨rfl,rfl,rfl,rfl,rfl⟩ bL aEx rfl⟩
 replace h2:¬(k:Int)<(x.l.length:Nat):=h2
 obtain rfl:k=es.length:=by omega
 rw[List.take_length] at hg
 exact aA gT mxd ⟨g,hg,aN rfl rfl trivial⟩
abbrev aQr:FuncId:=33
theorem bKc:Ent Tryz.prog aQr:=Ent.of func33 rfl kR
theorem bKd:Tryz.prog.funcs[aQr]? =some Tryz.f33:=func33
abbrev idG (x y:Sl EntM) (k:Nat):List (Nat×DV):=[(5,.c (iC k)),(0,.c (aO x)),(1,.c (aO y))]
theorem bDy (x y:Sl EntM) {es:List En} (hx:Ek x.l es) (hy:Ek y.l es) (hb:rbE es 549755813888) (hn:es.length<=4096):Ctr Tryz.prog aQr [] [.c (aO x),.c (aO y)] [] (λ_:Unit=>⟨pC True,[],True⟩):=by
 have lx:=hx.ln
 have ly:=hy.ln
 refine aX gT bKc bKd rfl rfl rfl bL ClB.nil (aA gT mxd ⟨λh=>aA gT mxd ?_,λ_=>aA gT mxd ?_⟩)
 ·replace h:((x.l.length:Nat):Int)≠(y.l.length:Nat):=h
  omega
 refine bV (λ_=>true) (idG x y) (λ_=>[]) (λ_=>[]) (λk=>k<=es.length) (λk=>es.length-k) λhM=>⟨bA hM (chg:=idG x y) (bls:=λ_=>[]) (fls:=λ_=>[]) 0 (Nat.zero_le _) rfl trivial trivial ⟨rfl,rfl,rfl⟩ bL scB.nil rfl,λk hk=>aA gT mxd ⟨λh1=>aA gT mxd ?_,λh1=>aA gT mxd ?_⟩⟩
 all_goals replace hk:k<=es.length:=hk
 ·have hkl:k<es.length:=by replace h1:(k:Int)<(x.l.length:Nat):=h1;omega
  have kx:k<x.l.length:=by omega
  have ky:k<y.l.length:=by omega
  have ex:=hx.e k hkl
  have ey:=hy.e k hkl
  exact⟨.seq (sq 99 (List.range 34)),by kernel_rfl,k,⟨rfl,kx⟩,k,⟨rfl,ky⟩,k,λ_=>⟨rfl,kx⟩,λh=>absurd (ex.1.trans ey.1.symm) h,λ_=>⟨[],aEw _ ex.2 (hb _ (dW hkl)),rfl,rfl,rfl,λ_ _=>⟨k,λ_=>⟨rfl,kx⟩,k,λ_=>⟨rfl,ky⟩,λh=>absurd trivial h,λ_=>⟨[],aQo _ _ ex.2 ey.2,rfl,rfl,rfl,λ_ _=>⟨λh=>absurd trivial h,λ_=>aA gT mxd ⟨(k+1:Nat),wi,bA hM (chg:=idG x y) (bls:=λ_=>[]) (fls:=λ_=>[]) (k+1) ⟨hkl,show es.length-(k+1)<es.length-k by omega⟩ rfl trivial trivial ⟨rfl,rfl,rfl⟩ bL scB.nil rfl⟩⟩⟩⟩⟩⟩
 exact aA gT mxd ⟨(),trivial,aN (tt trivial) rfl trivial⟩
theorem aQs {es:List En} (h:Asc es) {i j:Nat} (hij:i<j) (hj:j<es.length):(es.getD i default).1<(es.getD j default).1:=by
 have:=List.pairwise_iff_getElem.1 h i j oM hj hij
 rwa [gd oM,gd hj]
abbrev aQt:FuncId:=86
theorem bKe:Ent Tryz.prog aQt:=Ent.of func86 rfl kR
theorem bKf:Tryz.prog.funcs[aQt]? =some Tryz.f86:=func86
abbrev vaG (x:Sl EntM) (m:Int) (k:Nat):List (Nat×DV):=[(5,.c (iC k)),(0,.c (aO x)),(1,.c (iC m))]
theorem aQu (x:Sl EntM) (m:Int) {es:List En} (hx:Ek x.l es) (hv:VOk es m) (hb:rbE es 549755813888) (hn:es.length<=4096):Ctr Tryz.prog aQt [] [.c (aO x),.c (iC m)] [] (λ_:Unit=>⟨pC True,[],True⟩):=by
 have lx:=hx.ln
 refine aX gT bKe bKf rfl rfl rfl bL ClB.nil (aA gT mxd ?_)
 refine bV (λ_=>true) (vaG x m) (λ_=>[]) (λ_=>[]) (λk=>k<=es.length) (λk=>es.length-k) λhM=>⟨bA hM (chg:=vaG x m) (bls:=λ_=>[]) (fls:=λ_=>[]) 0 (Nat.zero_le _) rfl trivial trivial ⟨rfl,rfl,rfl⟩ bL scB.nil rfl,λk hk=>aA gT mxd ⟨λh1=>aA gT mxd ?_,λh1=>aA gT mxd ?_⟩⟩
 all_goals replace hk:k<=es.length:=hk
 ·have hkl:k<es.length:=by replace h1:(k:Int)<(x.l.length:Nat):=h1;omega
  have kx:k<x.l.length:=by omega
  have ex:=hx.e k hkl
  have e0:=hv.2 _ (dW hkl)
  refine⟨.seq (sq 99 (List.range 42)),by kernel_rfl,k,⟨rfl,kx⟩,k,λ_=>⟨rfl,kx⟩,k,λ_=>⟨rfl,kx⟩,(k:Int)-1,λ_=>wi (h:=⟨rfl,by omega,by omega⟩),k-1,λhq=>⟨?_,?_⟩,k,λ_=>⟨rfl,kx⟩,λh=>?_,λh=>⟨[],aHj _ (ex.2.rq (hb _ (dW hkl))),rfl,rfl,rfl,λ_ _=>⟨λh=>?_,λ_=>aA gT mxd ⟨(k+1:Nat),wi,bA hM (chg:=vaG x m) (bls:=λ_=>[]) (fls:=λ_=>[]) (k+1) ⟨hkl,show es.length-(k+1)<es.length-k by omega⟩ rfl trivial trivial ⟨rfl,rfl,rfl⟩ bL scB.nil rfl⟩⟩⟩⟩
  ·have:=hq.1;omega
  ·omega
  ·rcases h with h|⟨h,h5⟩
   ·rw[ex.1] at h;omega
   have h6:=aQs hv.1 (i:=k-1) (j:=k) oM hkl
   rw[ex.1,(hx.e (k-1) oM).1] at h5
   omega
  exact absurd (Rat.num_eq_zero.1 (dL.1 h)) e0.2.2
 exact aA gT mxd ⟨(),trivial,aN (tt trivial) rfl trivial⟩
def ixL (es:List En) (k:Nat):List Int:=(es.take k).map (·.1)
theorem tP {es:List En} {k:Nat} (h:k<=es.length):(ixL es k).length=k:=by unfold ixL;rw[List.length_map,List.length_take];omega
theorem aQv {es:List En} {k:Nat} (h:k<es.length):ixL es (k+1)=ixL es k++[(es.getD k default).1]:=by
 unfold ixL
 rw[List.take_add_one,List.getElem?_eq_getElem h,gd h,List.map_append];rfl
theorem aEz {es:List En} {j k:Nat} (hj:j<k) (h:k<=es.length):(ixL es k).getD j 0=(es.getD j default).1:=by
 unfold ixL
 simp only[List.getD,List.getElem?_map,List.getElem?_take,if_pos hj,List.getElem?_eq_getElem (show j<es.length by omega)]
 rfl
theorem aQw {es:List En} {k:Nat} {c:CV} (h:k<es.length) (hc:c=iC (es.getD k default).1):((ixL es k).map iC++[c]).take ((0+k+1)*1)++((ixL es k).map iC).drop (k*1)=(ixL es (k+1)).map iC:=by
 have lk:((ixL es k).map iC).length=k:=by rw[List.length_map];exact tP (Nat.le_of_lt h)
 rw[List.take_of_length_le (by rw[List.length_append,List.length_singleton];omega),List.drop_of_length_le oM,List.append_nil,aQv h,List.map_append,hc];rfl
abbrev aQx:FuncId:=91
theorem bKg:Ent Tryz.prog aQx:=Ent.of func91 rfl kR
theorem bKh:Tryz.prog.funcs[aQx]? =some Tryz.f91:=func91
abbrev inB (L:List Int):BL:=[(3,1,L.map iC)]
theorem rP {L:List Int}:scB 1 (inB L):=scB.cons (aZ (cI L)) scB.nil
abbrev inO (d:Sl (Sl EntM)) (j n:Nat):List (Nat×DV):=[(11,.c (iC j)),(3,.c (.s 0 n)),(9,.c (gQ d)),(10,.c (iC 1))]
abbrev inK (x:Sl EntM) (d:Sl (Sl EntM)) (k:Nat):List (Nat×DV):=(6,.c (iC k))::(5,.c (aO x))::inO d 0 k
abbrev inP (x:Sl EntM) (d:Sl (Sl EntM)) (k p:Nat):List (Nat×DV):=(7,.c (iC p))::inK x d k
theorem bDz (x:Sl EntM) (A:Option Addr) (c:Nat) {es:List En} (h:Ek x.l es) (ha:Asc es) (hn:es.length<=4096):Ctr Tryz.prog aQx [] [.c (gQ ⟨A,c,[x]⟩)] [] (λg:Sl Int=>⟨.c (dO g),[],g.l=ixL es es.length⟩):=by
 have hl:=h.ln
 refine aX gT bKg bKh rfl rfl rfl bL ClB.nil (aA gT mxd (yO 3 3 1 rfl bL (aA gT mxd ?_)))
 refine bV (λ_=>true) (λg:Nat×List Int=>inO ⟨A,c,[x]⟩ g.1 g.2.length) (λg=>inB g.2) (λ_=>[]) (λg=>(g.1=0∧g.2=[])∨(g.1=1∧g.2=ixL es es.length)) (λg=>1-g.1) λhM=>⟨bA hM (chg:=λg:Nat×List Int=>inO ⟨A,c,[x]⟩ g.1 g.2.length) (bls:=λg=>inB g.2) (fls:=λ_=>[]) (0,[]) (.inl ⟨rfl,rfl⟩) rfl rfl trivial ⟨rfl,rfl,rfl,rfl⟩ bL rP rfl,λ⟨i,L⟩ hL=>aA gT mxd ⟨λh1=>aA gT mxd ?_,λh1=>aA gT mxd ?_⟩⟩
 ·replace h1:(i:Int)<1:=h1
  have hi0:i=0∧L=[]:=by rcases hL with h|h;exact h;have:=h.1;dsimp only at this;omega
  obtain⟨rfl,rfl⟩:=hi0
  refine⟨0,⟨rfl,Nat.zero_lt_one⟩,?_⟩
  show Sd _ _ _ _ _ _
  refine bV (λ_=>true) (λk:Nat=>inK x ⟨A,c,[x]⟩ k) (λk=>inB (ixL es k)) (λ_=>[]) (λk=>k<=es.length) (λk=>es.length-k) λhM2=>⟨bA hM2 (chg:=λk:Nat=>inK x ⟨A,c,[x]⟩ k) (bls:=λk=>inB (ixL es k)) (fls:=λ_=>[]) 0 (Nat.zero_le _) rfl rfl trivial ⟨rfl,rfl,rfl,rfl,rfl,rfl⟩ bL rP rfl,λk hk=>aA gT mxd ⟨λh2=>aA gT mxd ?_,λh2=>aA gT mxd ?_⟩⟩
  all_goals replace hk:k<=es.length:=hk
  ·have hkl:k<es.length:=by replace h2:(k:Int)<(x.l.length:Nat):=h2;omega
   have kx:k<x.l.length:=by omega
   have hik:=tP (Nat.le_of_lt hkl)
   have hx:=(h.e k hkl).1
   show Sd _ _ _ _ _ _
   refine bV (λ_=>true) (λp:Nat=>inP x ⟨A,c,[x]⟩ k p) (λ_=>inB (ixL es k)) (λ_=>[]) (λp=>p<=k) (λp=>k-p) λhM3=>⟨bA hM3 (chg:=λp:Nat=>inP x ⟨A,c,[x]⟩ k p) (bls:=λ_=>inB (ixL es k)) (fls:=λ_=>[]) 0 (Nat.zero_le _) rfl rfl trivial ⟨rfl,rfl,rfl,rfl,rfl,rfl,rfl⟩ bL rP rfl,λp hp=>aA gT mxd ⟨.seq (sq 99 (List.range 16)),by kernel_rfl,?_⟩⟩
   replace hp:p<=k:=hp
   have hcell:∀{q:Nat},q<k->((ixL es k).map iC)[q*1]? =some (iC (es.getD q default).1):=λ{q} hq=>by
    rw[Nat.mul_one,List.getElem?_map,List.getElem?_eq_getElem (show q<(ixL es k).length by omega),<-aEz hq (Nat.le_of_lt hkl),gd (show q<(ixL es k).length by omega)];rfl
   have hlen:∀{q:Nat},q<k->q*1<((ixL es k).map iC).length:=λ{q} hq=>by rw[List.length_map];omega
   refine⟨p,λhq=>⟨rfl,?_,?_⟩,iC (es.getD p default).1,λhq=>?_,k,λ_=>⟨rfl,kx⟩,λh3=>aA gT mxd ?_,λh3=>aA gT mxd ?_⟩
   ·replace hq:(p:Int)<(k:Nat):=hq
    omega
   ·exact hlen (by replace hq:(p:Int)<(k:Nat):=hq;omega)
   ·exact hcell (by replace hq:(p:Int)<(k:Nat):=hq;omega)
   ·replace h3:(p:Int)<(k:Nat)∧(es.getD p default).1<(x.l.getD k default).ix:=h3
    have hpk:p<k:=by omega
    exact⟨(p+1:Nat),wi,bA hM3 (chg:=λp:Nat=>inP x ⟨A,c,[x]⟩ k p) (bls:=λ_=>inB (ixL es k)) (fls:=λ_=>[]) (p+1) ⟨hpk,show k-(p+1)<k-p by omega⟩ rfl rfl trivial ⟨rfl,rfl,rfl,rfl,rfl,rfl,rfl⟩ bL rP rfl⟩
   replace h3:¬((p:Int)<(k:Nat)∧(es.getD p default).1<(x.l.getD k default).ix):=h3
   have hpk:k=p:=Classical.byContradiction λhne=>h3 ⟨by omega,by rw[hx];exact aQs ha oM hkl⟩
   subst hpk
   have no:∀{p:Prop},(k:Int)<(k:Nat)->p:=λh=>absurd h oM
   refine aA gT mxd ⟨.seq (sq 99 (List.range 16)),by kernel_rfl,k,λhq=>no hq,iC 0,λhq=>no hq,k,λ_=>⟨rfl,kx⟩,λh4=>no h4.1,λh4=>aA gT mxd ?_⟩
   have lk:((ixL es k).map iC).length=k:=by rw[List.length_map];exact hik
   have mn:∀{i:Nat},∀c∈(ixL es k).map iC,eX i c=false:=λc hc=>dN (cI _ c hc)
   have mn2:∀{i:Nat},∀c∈(ixL es k).map iC++[iC (x.l.getD k default).ix],eX i c=false:=λc hc=>(List.mem_append.1 hc).elim (mn c) (aVw c)
   have mn3:∀{i m m':Nat},∀c∈((ixL es k).map iC++[iC (x.l.getD k default).ix]).take m++((ixL es k).map iC).drop m',eX i c=false:=λc hc=>(List.mem_append.1 hc).elim (λh=>mn2 c (List.mem_of_mem_take h)) λh=>mn c (List.mem_of_mem_drop h)
   refine⟨k,⟨rfl,by show k*1<=((ixL es k).map iC).length;omega⟩,⟨⟨by show k*1=((ixL es k).map iC).length;omega,rfl,by simp only[maxLen];omega,by show(0+k)*8<=_;omega,mn⟩,mn,?_⟩⟩
   refine⟨k,⟨rfl,kx⟩,⟨⟨rfl,by show(0+k)*1=((ixL es k).map iC).length;omega,by simp only[maxLen];omega,by show(0+k+1)*8<=_;omega,mn2⟩,mn,aVw,?_⟩⟩
   refine⟨k,⟨rfl,Nat.le_refl _,by show k*1<=((ixL es k).map iC).length;omega⟩,⟨⟨by show k*1+(k-k)*1=((ixL es k).map iC).length;omega,by show(0+k+1)*1<=((ixL es k).map iC++[iC (x.l.getD k default).ix]).length;rw[List.length_append,List.length_singleton];omega,by simp only[maxLen];omega,by show(0+k+1+(k-k))*8<=_;omega,mn3⟩,mn,aVw,?_⟩⟩
   have cl:∀c∈(ixL es k).map iC++[iC (x.l.getD k default).ix],cW c=true:=λc hc=>(List.mem_append.1 hc).elim (cI _ c) λh=>by rw[List.mem_singleton.1 h];rfl
   have cl3:∀{m m':Nat},∀c∈((ixL es k).map iC++[iC (x.l.getD k default).ix]).take m++((ixL es k).map iC).drop m',cW c=true:=λc hc=>(List.mem_append.1 hc).elim (λh=>cl c (List.mem_of_mem_take h)) λh=>cI _ c (List.mem_of_mem_drop h)
   refine⟨(k+1:Nat),wi,gsw 0 1 rfl rfl bL bL rfl ⟨_,aHp aC cl3,_,aHp aC (cI _),_,rfl,bL,bA hM2 (chg:=λk:Nat=>inK x ⟨A,c,[x]⟩ k) (bls:=λk=>inB (ixL es k)) (fls:=λ_=>[]) (k+1) ⟨hkl,show es.length-(k+1)<es.length-k by omega⟩ rfl ?_ trivial ⟨rfl,rfl,rfl,?_,rfl,rfl⟩ bL rP rfl⟩⟩
   ·exact congrArg (λl:List CV=>((3,1,l):TypeId×Nat×List CV)) (aQw hkl (congrArg iC hx))
   show 0+k+1+(k-k)=k+1
   omega
  replace h2:¬(k:Int)<(x.l.length:Nat):=h2
  obtain rfl:k=es.length:=by omega
  exact⟨((0+1:Nat):Int),wi,bA hM (chg:=λg:Nat×List Int=>inO ⟨A,c,[x]⟩ g.1 g.2.length) (bls:=λg=>inB g.2) (fls:=λ_=>[]) (1,ixL es es.length) ⟨.inr ⟨rfl,rfl⟩,Nat.zero_lt_one⟩ rfl rfl trivial ⟨rfl,by show es.length=(ixL es es.length).length;exact(tP (Nat.le_refl _)).symm,rfl,rfl⟩ bL rP rfl⟩
 have hL1:L=ixL es es.length:=by
  rcases hL with h|h
  ·exact absurd (show(i:Int)<1 by have:i=0:=h.1;omega) h1
  exact h.2
 exact aDu 3 0 (λj=>[iC (L.getD j 0)]) rfl rfl (λj hj=>aOi j hj) (by show L.length*1=(L.map iC).length;rw[List.length_map,Nat.mul_one]) bL (cI L) bL λA c _ _=>aA gT mxd ⟨(⟨A,c,L⟩:Sl Int),hL1,aN rfl rfl trivial⟩
def nzL (es:List En):Nat->List En
 |0=>[]
 |k+1=>if (es.getD k default).2=0 then nzL es k else nzL es k++[es.getD k default]
theorem aHs {es:List En}:∀k,(nzL es k).length<=k
 |0=>Nat.le_refl _
 |k+1=>by
  unfold nzL
  have:=aHs (es:=es) k
  split
  ·omega
  rw[List.length_append,List.length_singleton];omega
theorem aHt {es:List En} (h:uM es):∀k,k<=es.length->nzL es k=es.take k
 |0,_=>rfl
 |k+1,hk=>by
  unfold nzL
  rw[if_neg (h _ (dW hk)),aHt h k oM,List.take_add_one,List.getElem?_eq_getElem hk,gd hk];rfl
theorem bEa {es:List En} (h:uM es):nzL es es.length=es:=by rw[aHt h _ (Nat.le_refl _),List.take_length]
theorem bEb {x:Sl EntM}:∀j,j<1->[aO (([x]:List (Sl EntM)).getD j cD)]=([aO x].drop (j*1)).take 1
 |0,_=>rfl
 |_+1,h=>absurd h oM
abbrev aQy:FuncId:=52
theorem bKi:Ent Tryz.prog aQy:=Ent.of func52 rfl kR
theorem bKj:Tryz.prog.funcs[aQy]? =some Tryz.f52:=func52
abbrev nrG (x:Sl EntM) (g:Sl Int) (m k n:Nat):List (Nat×DV):=[(11,.c (iC k)),(3,.c (.s 1 n)),(0,.c (aO x)),(9,.c (dO g)),(10,.c (iC m))]
abbrev nrB (ys:List EntM):BL:=[(54,1,[]),(65,4,ecs ys)]
theorem aFa {ys:List EntM}:scB 2 (nrB ys):=scB.cons rfl (scB.cons (fA _) scB.nil)
theorem aQz (x:Sl EntM) {es:List En} {B:Nat} (h:Ek x.l es) (ha:Asc es) (hb:rbE es B) (h1:1<=B) (hB:B<=137438953472) (hn:es.length<=4096):Ctr Tryz.prog aQy [] [.c (aO x)] [] (λg:Sl EntM=>⟨.c (aO g),[],Ek g.l (nzL es es.length)⟩):=by
 have hl:=h.ln
 refine aX gT bKi bKj rfl rfl rfl bL ClB.nil (aA gT mxd ⟨some (λj=>[aO (([x]:List (Sl EntM)).getD j cD)]),⟨⟨Nat.le_refl _,Nat.zero_lt_one⟩,rfl,bEb,λc hc=>by rw[List.mem_singleton.1 hc];rfl⟩,λA c _ _=>⟨[],bDz x A c h ha hn,rfl,rfl,rfl,λg hg=>yO 3 65 4 rfl bL ?_⟩⟩)
 replace hg:g.l=ixL es es.length:=hg
 have lg:g.l.length=es.length:=by rw[hg];exact tP (Nat.le_refl _)
 refine bV (λ_=>true) (λu:Nat×List EntM=>nrG x g g.l.length u.1 u.2.length) (λu=>nrB u.2) (λ_=>[]) (λu=>u.1<=es.length∧Ek u.2 (nzL es u.1)) (λu=>es.length-u.1) λhM=>⟨bA hM (chg:=λu:Nat×List EntM=>nrG x g g.l.length u.1 u.2.length) (bls:=λu=>nrB u.2) (fls:=λ_=>[]) (0,[]) ⟨Nat.zero_le _,rfl,λk hk=>absurd hk (Nat.not_lt_zero _)⟩ rfl ⟨rfl,rfl⟩ trivial ⟨rfl,rfl,rfl,rfl,rfl⟩ bL aFa rfl,λ⟨k,ys⟩ ⟨hk,hy⟩=>aA gT mxd ⟨λh2=>aA gT mxd ?_,λh2=>aA gT mxd ?_⟩⟩
 all_goals
  replace hk:k<=es.length:=hk
  replace hy:Ek ys (nzL es k):=hy
  have ly:ys.length<=k:=by rw[hy.ln];exact aHs k
 ·have hkl:k<es.length:=by replace h2:(k:Int)<(g.l.length:Nat):=h2;omega
  have hv:Vm.get es (g.l.getD k 0)=(es.getD k default).2:=by rw[hg,aEz hkl (Nat.le_refl _)];exact oE ha (dW hkl)
  have hbk:=hb _ (dW hkl)
  refine⟨k,⟨rfl,show k<g.l.length by omega⟩,[],aEy x (g.l.getD k 0) h ha hb h1 hB hn,rfl,rfl,rfl,λr hr=>?_⟩
  replace hr:Cr r (Vm.get es (g.l.getD k 0)):=hr
  rw[hv] at hr
  refine⟨[],aHj r ((hr.rq hbk).le oM),rfl,rfl,rfl,λ_ _=>⟨λh3=>aA gT mxd ?_,λh3=>aA gT mxd ?_⟩⟩
  ·replace h3:¬sgn (es.getD k default).2.num=0:=h3
   have h4:¬(es.getD k default).2=0:=λe=>h3 (dL.2 (Rat.num_eq_zero.2 e))
   refine⟨⟨rfl,by show ys.length*4=(ecs ys).length;rw[dH],by show ys.length+1<=maxLen;simp only[maxLen];omega,by show(ys.length+1)*64<=_;omega,λc hc=>?_⟩,λc hc=>(by cases hc),gD ⟨g.l.getD k 0,r⟩,(k+1:Nat),wi,bA hM (chg:=λu:Nat×List EntM=>nrG x g g.l.length u.1 u.2.length) (bls:=λu=>nrB u.2) (fls:=λ_=>[]) (k+1,ys++[⟨g.l.getD k 0,r⟩]) ⟨⟨hkl,?_⟩,show es.length-(k+1)<es.length-k by omega⟩ rfl ⟨rfl,by show(65,4,ecs ys++(⟨g.l.getD k 0,r⟩:EntM).C)=_;rw[iQ]⟩ trivial ⟨rfl,?_,rfl,rfl,rfl⟩ bL aFa rfl⟩
   ·exact(List.mem_append.1 hc).elim (λh=>dN (dM ys c h)) (gD ⟨g.l.getD k 0,r⟩ c)
   ·show Ek _ (if _ then _ else _)
    rw[if_neg h4]
    have:=oD (ix:=(es.getD k default).1) hy hr
    rwa [show g.l.getD k 0=(es.getD k default).1 by rw[hg];exact aEz hkl (Nat.le_refl _)]
   show ys.length+1=(ys++[(⟨g.l.getD k 0,r⟩:EntM)]).length
   simp
  replace h3:¬¬sgn (es.getD k default).2.num=0:=h3
  have h4:(es.getD k default).2=0:=Rat.num_eq_zero.1 (dL.1 (Decidable.not_not.1 h3))
  exact⟨(k+1:Nat),wi,bA hM (chg:=λu:Nat×List EntM=>nrG x g g.l.length u.1 u.2.length) (bls:=λu=>nrB u.2) (fls:=λ_=>[]) (k+1,ys) ⟨⟨hkl,by show Ek ys (if _ then _ else _);rw[if_pos h4];exact hy⟩,show es.length-(k+1)<es.length-k by omega⟩ rfl ⟨rfl,rfl⟩ trivial ⟨rfl,rfl,rfl,rfl,rfl⟩ bL aFa rfl⟩
 replace h2:¬(k:Int)<(g.l.length:Nat):=h2
 obtain rfl:k=es.length:=by omega
 exact aDu 3 1 (λj=>(ys.getD j default).C) rfl rfl (λj hj=>jQ ys j hj) (dH ys).symm bL (dM ys) bL λA c _ _=>⟨λc hc=>(by cases hc),aA gT mxd ⟨(⟨A,c,ys⟩:Sl EntM),hy,aN rfl rfl trivial⟩⟩
def fuL (qs:List Rat) (k:Nat):List En:=(List.range k).map λi:Nat=>((i:Int),qs.getD i 0)
theorem zM {qs:List Rat} {k:Nat}:(fuL qs k).length=k:=by unfold fuL;simp
theorem aCa {qs:List Rat} {k:Nat}:fuL qs (k+1)=fuL qs k++[((k:Int),qs.getD k 0)]:=by unfold fuL;rw[List.range_succ,List.map_append];rfl
theorem bEc {qs:List Rat} {i k:Nat} (h:i<k):(fuL qs k).getD i default=((i:Int),qs.getD i 0):=by unfold fuL;simp[h]
theorem aHu {qs:List Rat}:∀k,Asc (fuL qs k)
 |0=> .nil
 |k+1=>by
  rw[aCa]
  refine List.pairwise_append.2 ⟨aHu k,List.pairwise_singleton _ _,λa ha b hb=>?_⟩
  rw[List.mem_singleton.1 hb]
  obtain⟨i,hi,rfl⟩:=List.mem_map.1 ha
  have:=List.mem_range.1 hi
  show(i:Int)<(k:Int)
  omega
theorem aRa {qs:List Rat} {n:Nat}:∀k,k<=n->nzL (fuL qs n) k=fdF qs k
 |0,_=>rfl
 |k+1,h=>by
  unfold nzL fdF
  rw[bEc h,aRa k oM]
theorem bEd {qs:List Rat} {k B:Nat} (h:rbL qs B) (hk:k<=qs.length):rbE (fuL qs k) B:=λe he=>by
 obtain⟨i,hi,rfl⟩:=List.mem_map.1 he
 exact h _ (gD0 (by have:=List.mem_range.1 hi;omega))
abbrev bEe:FuncId:=20
theorem bPf:Ent Tryz.prog bEe:=Ent.of func20 rfl kR
theorem bPg:Tryz.prog.funcs[bEe]? =some Tryz.f20:=func20
abbrev fdG (x:Sl RatM) (k n:Nat):List (Nat×DV):=[(4,.c (iC k)),(3,.c (.s 0 n)),(0,.c (cN x))]
abbrev fdB (ys:List EntM):BL:=[(65,4,ecs ys)]
theorem aRb {ys:List EntM}:scB 1 (fdB ys):=scB.cons (fA _) scB.nil
theorem aRc (x:Sl RatM) {qs:List Rat} {B:Nat} (h:Rl x.l qs) (hb:rbL qs B) (h1:1<=B) (hB:B<=137438953472) (hn:qs.length<=4096):Ctr Tryz.prog bEe [] [.c (cN x)] [] (λg:Sl EntM=>⟨.c (aO g),[],Ek g.l (fdF qs qs.length)⟩):=by
 have hl:=h.ln
 refine aX gT bPf bPg rfl rfl rfl bL ClB.nil (aA gT mxd (yO 3 65 4 rfl bL ?_))
 refine bV (λ_=>true) (λu:Nat×List EntM=>fdG x u.1 u.2.length) (λu=>fdB u.2) (λ_=>[]) (λu=>u.1<=qs.length∧Ek u.2 (fuL qs u.1)) (λu=>qs.length-u.1) λhM=>⟨bA hM (chg:=λu:Nat×List EntM=>fdG x u.1 u.2.length) (bls:=λu=>fdB u.2) (fls:=λ_=>[]) (0,[]) ⟨Nat.zero_le _,rfl,λk hk=>absurd hk (Nat.not_lt_zero _)⟩ rfl rfl trivial ⟨rfl,rfl,rfl⟩ bL aRb rfl,λ⟨k,ys⟩ ⟨hk,hy⟩=>aA gT mxd ⟨λh2=>aA gT mxd ?_,λh2=>aA gT mxd ?_⟩⟩
 all_goals
  replace hk:k<=qs.length:=hk
  replace hy:Ek ys (fuL qs k):=hy
  have ly:ys.length=k:=hy.ln.trans zM
 ·have hkl:k<qs.length:=by replace h2:(k:Int)<(x.l.length:Nat):=h2;omega
  refine⟨k,⟨rfl,show k<x.l.length by omega⟩,⟨rfl,by show ys.length*4=(ecs ys).length;rw[dH],by show ys.length+1<=maxLen;simp only[maxLen];omega,by show(ys.length+1)*64<=_;omega,λc hc=>?_⟩,gD ⟨k,x.l.getD k default⟩,(k+1:Nat),wi,bA hM (chg:=λu:Nat×List EntM=>fdG x u.1 u.2.length) (bls:=λu=>fdB u.2) (fls:=λ_=>[]) (k+1,ys++[⟨k,x.l.getD k default⟩]) ⟨⟨hkl,?_⟩,show qs.length-(k+1)<qs.length-k by omega⟩ rfl (by show(65,4,ecs ys++(⟨k,x.l.getD k default⟩:EntM).C)=_;rw[iQ]) trivial ⟨rfl,?_,rfl⟩ bL aRb rfl⟩
  ·exact(List.mem_append.1 hc).elim (λh=>dN (dM ys c h)) (gD ⟨k,x.l.getD k default⟩ c)
  ·show Ek _ (fuL qs (k+1))
   rw[aCa]
   exact oD hy (h.e k hkl)
  show ys.length+1=(ys++[(⟨k,x.l.getD k default⟩:EntM)]).length
  simp
 replace h2:¬(k:Int)<(x.l.length:Nat):=h2
 obtain rfl:k=qs.length:=by omega
 refine aA gT mxd ⟨some (λj=>(ys.getD j default).C),⟨⟨Nat.zero_le _,by decide⟩,(dH ys).symm,λj hj=>jQ ys j hj,dM ys⟩,λA c _ _=>⟨[],aQz ⟨A,c,ys⟩ hy (aHu _) (bEd hb (Nat.le_refl _)) h1 hB (by rw[zM];exact hn),rfl,rfl,rfl,λg hg=>⟨g,?_,aN rfl rfl trivial⟩⟩⟩
 replace hg:Ek g.l (nzL (fuL qs qs.length) (fuL qs qs.length).length):=hg
 rw[zM,aRa _ (Nat.le_refl _)] at hg
 exact hg
abbrev bEf:FuncId:=69
theorem bPh:Ent Tryz.prog bEf:=Ent.of func69 rfl kR
theorem bPi:Tryz.prog.funcs[bEf]? =some Tryz.f69:=func69
abbrev dnG (x:Sl EntM) (n k:Nat):List (Nat×DV):=[(7,.c (iC k)),(0,.c (aO x)),(1,.c (iC n)),(6,.c (.s 0 n))]
abbrev dnB (G:Nat->RatM) (n k:Nat):BL:=[(51,3,flatR n (jR G k))]
theorem aRd {G:Nat->RatM} {n k:Nat}:scB 1 (dnB G n k):=scB.cons (List.all_eq_true.2 λc hc=>iS (qO c hc)) scB.nil
theorem bKk (x:Sl EntM) (n:Nat) {es:List En} {B:Nat} (h:Ek x.l es) (hb:rbE es B) (h1:1<=B) (hB:B<=137438953472) (hv:VOk es n) (hn:n<=4096) (he:es.length<=4096):Ctr Tryz.prog bEf [true] [.c (aO x),.c (iC n)] [] (λG:Nat->RatM=>⟨.t [.c (.s 0 n),pC True],[(51,3,flatR n λj=>(G j).C)],∀k,k<n->Cr (G k) (Vm.get es (k:Nat))⟩):=by
 have hz:uM es:=λe he=>(hv.2 e he).2.2
 have hl:=h.ln
 refine aX gT bPh bPi rfl rfl rfl bL (λi T es l hi=>by cases hi) (aA gT mxd ⟨λh2=>?_,λ_=>⟨[],aQz x h hv.1 hb h1 hB he,rfl,rfl,rfl,λy hy=>?_⟩⟩)
 ·replace h2:(n:Int)<0∨(16384:Int)<(n:Nat):=h2
  omega
 replace hy:Ek y.l (nzL es es.length):=hy
 rw[bEa hz] at hy
 have tk:∀k,Asc (es.take k):=λk=>hv.1.sublist (List.take_sublist k es)
 refine⟨[],aQu y n hy hv (λe he=>(hb e he).le oM) he,rfl,rfl,rfl,λ_ _=>⟨λh2=>absurd trivial h2,λ_=>aA gT mxd ⟨n,⟨rfl,rfl,by show 56*_<=_;omega,by simp only[maxLen];omega⟩,?_⟩⟩⟩
 refine bV (λ_=>true) (λg:Nat×(Nat->RatM)=>dnG x n g.1) (λg=>dnB g.2 n g.1) (λ_=>[]) (λg=>g.1<=n∧∀k,k<g.1->Cr (g.2 k) (Vm.get es (k:Nat))) (λg=>n-g.1) λhM=>⟨bA hM (chg:=λg:Nat×(Nat->RatM)=>dnG x n g.1) (bls:=λg=>dnB g.2 n g.1) (fls:=λ_=>[]) (0,λ_=>default) ⟨Nat.zero_le _,λk hk=>absurd hk (Nat.not_lt_zero _)⟩ rfl ?_ trivial ⟨rfl,rfl,rfl,rfl⟩ bL aRd rfl,λ⟨i,G⟩ ⟨hi,hG⟩=>aA gT mxd ⟨λh4=>aA gT mxd ?_,λh4=>aA gT mxd ?_⟩⟩
 ·show(_,_,_)=(_,_,_)
  congr 2
  show(List.replicate n pE).flatten=_
  rw[<-tM]
  exact fR λj _=>(if_neg (Nat.not_lt_zero _)).symm
 all_goals
  replace hi:i<=n:=hi
  replace hG:∀k,k<i->Cr (G k) (Vm.get es (k:Nat)):=hG
 ·have hin:i<n:=by replace h4:(i:Int)<(n:Nat):=h4;omega
  have hlen:i*3<(flatR n (jR G i)).length:=aEo (λj=>nJ j) hin
  have put:∀g:RatM,fG (flatR n (jR G i)) (i*3) g.C=flatR n (jR (vO G i g) (i+1))∧i*3+g.C.length<=(flatR n (jR G i)).length:=λg=>zG (λj=>nJ j) hin rfl λj _=>aHn j
  exact⟨[],aEy x i h hv.1 hb h1 hB he,rfl,rfl,rfl,λg hg=>⟨i,⟨rfl,hin,hlen⟩,_,put _,(i+1:Nat),wi,bA hM (chg:=λg:Nat×(Nat->RatM)=>dnG x n g.1) (bls:=λg=>dnB g.2 n g.1) (fls:=λ_=>[]) (i+1,vO G i g) ⟨⟨hin,λk hk=>by
   show Cr (vO G i g k) _
   unfold vO
   by_cases hki:k=i
   ·subst hki;rw[if_pos rfl];exact hg
   rw[if_neg hki];exact hG k (by have:k<i+1:=hk;omega)⟩,show n-(i+1)<n-i by omega⟩ rfl rfl trivial ⟨rfl,rfl,rfl,rfl⟩ bL aRd rfl⟩⟩
 replace h4:¬(i:Int)<(n:Nat):=h4
 obtain rfl:i=n:=by omega
 exact aA gT mxd ⟨G,hG,dU ⟨rfl,tt trivial⟩ (congrArg (λl:List CV=>((51,3,l):TypeId×Nat×List CV)) aBz) bL (scB.cons (aZ (pG (λj=>cP (G j)) _)) scB.nil) rfl (ClB.one (List.all_eq_true.2 (pG (λj=>cP (G j)) _)))⟩
abbrev mB (m:MatM):BL:=[(24,0,m.C)]
theorem aYt {m:MatM}:scB 1 (mB m):=scB.cons rfl scB.nil
abbrev aRe:FuncId:=45
theorem bKl:Ent Tryz.prog aRe:=Ent.of func45 rfl kR
theorem bKm:Tryz.prog.funcs[aRe]? =some Tryz.f45:=func45
abbrev xvG (k:Nat):List (Nat×DV):=[(3,.c (iC k)),(1,.c (.p 0 0))]
set_option maxRecDepth 8000 in
theorem bEg (m:MatM) {M:Nat->List En} {n:Nat} (h:Mx m M n) (hb:rbM M n 549755813888) (hn:n<=4096):Ctr Tryz.prog aRe [] [.a m.C] [] (λ_:Unit=>⟨pC True,[],True⟩):=by
 have hr:=h.r
 have hc:=h.c
 have hl:=h.ln
 refine aX gT bKl bKm rfl rfl rfl bL ClB.nil (aA gT mxd ⟨λh2=>?_,λ_=>aA gT mxd ?_⟩)
 ·replace h2:(((m.r<0∨16384<m.r)∨m.c<0)∨16384<m.c)∨((m.d.l.length:Nat):Int)≠m.r:=h2
  omega
 refine bV (λ_=>true) xvG (λ_=>mB m) (λ_=>[]) (λk=>k<=n) (λk=>n-k) λhM=>⟨bA hM (chg:=xvG) (bls:=λ_=>mB m) (fls:=λ_=>[]) 0 (Nat.zero_le _) rfl rfl trivial ⟨rfl,rfl⟩ bL aYt rfl,λk hk=>aA gT mxd ⟨λh1=>aA gT mxd ?_,λh1=>aA gT mxd (aA gT mxd ?_)⟩⟩
 rotate_left
 ·exact⟨(),trivial,aN (tt trivial) rfl trivial⟩
 replace hk:k<=n:=hk
 have hkn:k<n:=by replace h1:(k:Int)<m.r:=h1;omega
 have hrow:Ek (m.d.l.getD k cD).l (M k):=h.row k hkn
 have hok:=h.ok k hkn
 exact⟨.seq (sq 99 (List.range 9)),by kernel_rfl,k,⟨rfl,show k<m.d.l.length by omega⟩,[],aQu (m.d.l.getD k cD) m.c hrow (by rw[hc];exact hok.1) (hb k hkn) oM,rfl,rfl,rfl,λ_ _=>⟨λh=>absurd trivial h,λ_=>aA gT mxd ⟨(k+1:Nat),wi,bA hM (chg:=xvG) (bls:=λ_=>mB m) (fls:=λ_=>[]) (k+1) ⟨hkn,show n-(k+1)<n-k by omega⟩ rfl rfl trivial ⟨rfl,rfl⟩ bL aYt rfl⟩⟩⟩
abbrev aRf:FuncId:=9
theorem bKn:Ent Tryz.prog aRf:=Ent.of func9 rfl kR
theorem bKo:Tryz.prog.funcs[aRf]? =some Tryz.f9:=func9
abbrev xiG (k:Nat):List (Nat×DV):=[(5,.c (iC k)),(2,.c (.p 0 0)),(3,.c (.p 1 0))]
abbrev xiB (m m':MatM):BL:=[(24,0,m.C),(24,0,m'.C)]
theorem aRg {m m':MatM}:scB 2 (xiB m m'):=scB.cons rfl (scB.cons rfl scB.nil)
set_option maxRecDepth 8000 in
theorem aRh (m m':MatM) {M:Nat->List En} {n:Nat} (h:Mx m M n) (h':Mx m' M n) (hb:rbM M n 549755813888) (hn:n<=4096):Ctr Tryz.prog aRf [] [.a m.C,.a m'.C] [] (λ_:Unit=>⟨pC True,[],True⟩):=by
 have hr:=h.r
 have hc:=h.c
 have hl:=h.ln
 have hr':=h'.r
 have hc':=h'.c
 have hl':=h'.ln
 refine aX gT bKn bKo rfl rfl rfl bL ClB.nil (aA gT mxd ⟨λh2=>?_,λ_=>aA gT mxd ?_⟩)
 ·replace h2:(m.r≠m'.r∨m.c≠m'.c)∨((m.d.l.length:Nat):Int)≠(m'.d.l.length:Nat):=h2
  omega
 refine bV (λ_=>true) xiG (λ_=>xiB m m') (λ_=>[]) (λk=>k<=n) (λk=>n-k) λhM=>⟨bA hM (chg:=xiG) (bls:=λ_=>xiB m m') (fls:=λ_=>[]) 0 (Nat.zero_le _) rfl ⟨rfl,rfl⟩ trivial ⟨rfl,rfl,rfl⟩ bL aRg rfl,λk hk=>aA gT mxd ⟨λh1=>aA gT mxd ?_,λh1=>aA gT mxd (aA gT mxd ?_)⟩⟩
 rotate_left
 ·exact⟨(),trivial,aN (tt trivial) rfl trivial⟩
 replace hk:k<=n:=hk
 have hkn:k<n:=by replace h1:(k:Int)<(m.d.l.length:Nat):=h1;omega
 exact⟨.seq (sq 99 (List.range 12)),by kernel_rfl,k,⟨rfl,show k<m.d.l.length by omega⟩,k,⟨rfl,show k<m'.d.l.length by omega⟩,[],bDy (m.d.l.getD k cD) (m'.d.l.getD k cD) (h.row k hkn) (h'.row k hkn) (hb k hkn) (by have:=(h.ok k hkn).2;omega),rfl,rfl,rfl,λ_ _=>⟨λh=>absurd trivial h,λ_=>aA gT mxd ⟨(k+1:Nat),wi,bA hM (chg:=xiG) (bls:=λ_=>xiB m m') (fls:=λ_=>[]) (k+1) ⟨hkn,show n-(k+1)<n-k by omega⟩ rfl ⟨rfl,rfl⟩ trivial ⟨rfl,rfl,rfl⟩ bL aRg rfl⟩⟩⟩
abbrev bEh:FuncId:=17
theorem bPj:Ent Tryz.prog bEh:=Ent.of func17 rfl kR
theorem bPk:Tryz.prog.funcs[bEh]? =some Tryz.f17:=func17
set_option maxRecDepth 8000 in
theorem bKp (m:MatM) (i j:Nat) {M:Nat->List En} {n B:Nat} (h:Mx m M n) (hb:rbM M n B) (h1:1<=B) (hB:B<=137438953472) (hn:n<=4096) (hi:i<n) (hj:j<n):Ctr Tryz.prog bEh [] [.a m.C,.c (iC i),.c (iC j)] [] (jU (Vm.get (M i) (j:Nat))):=by
 have hr:=h.r
 have hc:=h.c
 have hl:=h.ln
 refine aX gT bPj bPk rfl rfl rfl bL ClB.nil (aA gT mxd ⟨[],bEg m h (λk hk e he=>(hb k hk e he).le oM) hn,rfl,rfl,rfl,λ_ _=>⟨λh2=>aA gT mxd ?_,λ_=>aA gT mxd ⟨i,⟨rfl,show i<m.d.l.length by omega⟩,[],aEy (m.d.l.getD i cD) j (h.row i hi) (h.ok i hi).1.1 (hb i hi) h1 hB (by have:=(h.ok i hi).2;omega),rfl,rfl,rfl,λg hg=>⟨g,hg,aN rfl rfl trivial⟩⟩⟩⟩)
 replace h2:(((¬True∨(i:Int)<0)∨m.r<=(i:Int))∨(j:Int)<0)∨m.c<=(j:Int):=h2
 rcases h2 with (((h2|h2)|h2)|h2)|h2
 ·exact absurd trivial h2
 all_goals omega
end Go.Proofs.YtlhdigjbokkbiaaGreat
namespace Go.Vy
open Go.Vg Go.RowKit
section
variable {nb:Nat} {X:SS->Prop} {s:SS}
theorem bKq (hX:Tgt nb X) (t:Nat) (T es:Nat) (ht:cT s.sl t=some (.c (.v (.slice none 0 0)))) (hes:0<es) (hgl:s.gl=[]) (h:kB s.bl (T,es,[]) λbl'=>X ⟨(t,.c (.s (cnt s.bl 0) 0))::s.sl,[],bl',s.fl⟩):X s:=by
 have h':=fL h
 rw[nW] at h'
 refine hX.one (λρ0 w0 ρ f w hD=>?_) h'
 have hp:∀b,((none,0):Option Nat×Nat).1=some b->w.heap.size<=b:=λb hb=>by cases hb
 have kp:Kp ρ s.bl.length w (mM ρ s.bl.length (none,0)) (s.bl.length+1) w:=Kp.new hp (Ext.refl w)
 have hn:(s.bl++[(T,es,[])]).length=s.bl.length+1:=by simp
 refine⟨mM ρ s.bl.length (none,0),⟨hD.m.new hp (Ext.refl w) ?_,⟨λt' d ht'=>?_,λt' gs d ht'=>by cases ht'⟩,hD.l⟩⟩
 ·unfold Bq
  rw[eK]
  exact⟨rfl,rfl,hes⟩
 show Hd _ (s.bl++[(T,es,[])]).length w d (f t')
 rw[hn]
 simp only[cT] at ht'
 cases hb:Nat.beq t t' with
 |true=>
  rw[hb] at ht'
  injection ht' with ht'
  subst ht'
  have:=Nat.eq_of_beq_eq_true hb
  subst this
  have he:=(hD.f.sl t _ ht).inv_c.inv_v
  refine .c ⟨Nat.lt_succ_self _,?_⟩
  rw[eK,he]
  rfl
 |false=>rw[hb] at ht';exact(hD.f.sl t' d ht').kp kp
theorem dG {cl:List Bool} {d:DV} {o:OutF} (hd:EqD d o.d) (hb:aBq s.bl o.bl) (hf:aVv s.fl o.fl) (hnb:nb<=o.bl.length) (hsc:scB o.bl.length o.bl) (hsd:scD o.bl.length o.d=true) (hcl:ClB cl o.bl):aVp cl nb s d o:=λρ0 w0 ρ w v hD0 hF0 hv0=>by
 have hs0:∀t d',cT [(0,d)] t=some d'->Hd ρ s.bl.length w d' v:=λt d' ht=>by
  simp only[cT] at ht
  cases hb:Nat.beq 0 t with
  |true=>rw[hb] at ht;injection ht with ht;subst ht;exact hv0
  |false=>rw[hb] at ht;cases ht
 have hq:Dn ρ0 w0 nb ⟨[(0,d)],[],s.bl,s.fl⟩ ρ (λ_=>v) w:=⟨hD0,⟨hs0,λt gs d ht=>by cases ht⟩,hF0⟩
 obtain⟨_,ρ',_,h⟩:=bA (s:=⟨[(0,d)],[],s.bl,s.fl⟩) (M:=λ_=>true) (base:=[]) (chg:=λ_:Unit=>[(0,o.d)]) (bls:=λ_=>o.bl) (fls:=λ_=>o.fl) (C:=λ_=>True) (λt d ht=>by cases ht) () trivial (show([],[])=([],[]) from rfl) hb hf (show AllC [(0,d)] [(0,o.d)] from hd) hnb hsc (by simpa using hsd) _ _ _ _ _ hq
 exact⟨ρ',h.m,h.f.sl 0 _ rfl,hcl,h.l⟩
end
section
variable {nb:Nat} {X:SS->Prop} {s:SS}
theorem aYu (hX:Tgt nb X) (i k T es:Nat) {T0 e0:Nat} {l:List CV} (hb:s.bl[i]? =some (T0,e0,l)) (hk:l[k]? =some (.v (.slice none 0 0))) (hes:0<es) (hgl:s.gl=[]) (h:gR s.bl i (T0,e0,l.set k (.s (cnt s.bl 0) 0)) λb1=>kB b1 (T,es,[]) λbl'=>X ⟨s.sl,[],bl',s.fl⟩):X s:=by
 have h':=fL (dZ h)
 rw[nW] at h'
 have hi:=bK hb
 refine hX.one (λρ0 w0 ρ f w hD=>?_) h'
 have hp:∀b,((none,0):Option Nat×Nat).1=some b->w.heap.size<=b:=λb hb=>by cases hb
 have kp:Kp ρ s.bl.length w (mM ρ s.bl.length (none,0)) (s.bl.length+1) w:=Kp.new hp (Ext.refl w)
 have hn:(s.bl.set i (T0,e0,l.set k (.s s.bl.length 0))++[(T,es,([]:List CV))]).length=s.bl.length+1:=by simp
 have hn0:(s.bl++[(T,es,([]:List CV))]).length=s.bl.length+1:=by simp
 have h1:DnW ρ0 w0 nb (s.bl++[(T,es,[])]) (mM ρ s.bl.length (none,0)) w:=hD.m.new hp (Ext.refl w) (by unfold Bq;rw[eK];exact⟨rfl,rfl,hes⟩)
 refine⟨mM ρ s.bl.length (none,0),⟨⟨λj T2 e2 l2 hj=>?_,?_,?_,?_,h1.rel,h1.pl,h1.zz,?_,h1.ffr⟩,⟨λt' d ht'=>?_,λt' gs d ht'=>by cases ht'⟩,hD.l⟩⟩
 ·rw[hn]
  have e:s.bl.set i (T0,e0,l.set k (.s s.bl.length 0))++[(T,es,([]:List CV))]=(s.bl++[(T,es,[])]).set i (T0,e0,l.set k (.s s.bl.length 0)):=by rw[List.set_append_left _ _ hi]
  replace hj:(s.bl.set i (T0,e0,l.set k (.s s.bl.length 0))++[(T,es,([]:List CV))])[j]? =_:=hj
  rw[e] at hj
  have hb0:(s.bl++[(T,es,([]:List CV))])[i]? =some (T0,e0,l):=by rw[List.getElem?_append_left hi];exact hb
  rcases fK hj with ⟨rfl,h2,_⟩|⟨_,h2⟩
  ·injection h2 with h2 h3
   injection h3 with h3 h4
   subst h2 h3 h4
   have hq:=h1.ok j _ _ l hb0
   rw[hn0] at hq
   unfold Bq at hq ⊢
   cases hρ:(mM ρ s.bl.length (none,0) j).1 with
   |none=>
    simp only[hρ] at hq ⊢
    rw[hq.1] at hk
    cases hk
   |some b=>
    simp only[hρ] at hq ⊢
    obtain⟨vl,junk,q1,q2,q3⟩:=hq
    refine⟨vl,junk,q1,Hl.of_get (by rw[List.length_set];exact q2.len.symm) λq c y hc hy=>?_,q3⟩
    rcases fK hc with ⟨rfl,rfl,_⟩|⟨_,h5⟩
    ·obtain⟨y',h6,h7⟩:=q2.get hk
     rw[hy] at h6
     injection h6 with h6
     subst h6
     have he:=h7.inv_v
     refine⟨Nat.lt_succ_self _,?_⟩
     rw[eK,he]
     rfl
    obtain⟨y',h6,h7⟩:=q2.get h5
    rw[hy] at h6
    injection h6 with h6
    subst h6
    exact h7
  have:=h1.ok j _ _ _ h2
  rw[hn0] at this
  exact this
 ·have:=h1.inj
  rw[hn0] at this
  simpa only[hn] using this
 ·have:=h1.fr
  rw[hn0] at this
  simpa only[hn] using this
 ·have:=h1.nbl
  rw[hn0] at this
  simpa only[hn] using this
 ·have:=h1.fam
  rw[hn0] at this
  simpa only[hn] using this
 show Hd _ (s.bl.set i (T0,e0,l.set k (.s s.bl.length 0))++[(T,es,([]:List CV))]).length w d (f t')
 rw[hn]
 exact(hD.f.sl t' d ht').kp kp
end
end Go.Vy
namespace Go.Proofs.YtlhdigjbokkbiaaGreat
open Go.Vg _root_.Go.Proofs.Tryz
open Go.Vm hiding sg sg_t sg_f sg_abs sg_add sg_mul bF aU bG cM
open Go.Vy hiding val
def xF (d:Sl (Sl RatM)):CV:=d.R 1 (λrow=>[cN row]) cD
structure Rr (d:Sl (Sl RatM)) (Q:Nat->List Rat) (r n:Nat):Prop where
 ln:d.l.length=r
 row:∀i,i<r->Rl (d.l.getD i cD).l (Q i)∧(Q i).length=n
theorem xG {n:Nat} {P:Nat->CV}:cB (n+1) P=cB n P++[P n]:=by unfold cB;rw[List.range_succ,List.map_append];rfl
abbrev bEi:FuncId:=37
theorem bPl:Ent Tryz.prog bEi:=Ent.of func37 rfl kR
theorem bPm:Tryz.prog.funcs[bEi]? =some Tryz.f37:=func37
abbrev mkG (d:Sl (Sl RatM)) (n k:Nat):List (Nat×DV):=[(6,.c (iC k)),(0,.c (xF d)),(5,.c (.p 1 0)),(4,.c (.p 0 0))]
abbrev mkB (n k:Nat) (S:Nat->Sl EntM):BL:=[(24,0,[iC 0,iC 0,.v (.slice none 0 0)]),(24,0,[iC n,iC n,.s 2 k]),(54,1,cB k λj=>aO (S j))]
theorem aRi {n k:Nat} {S:Nat->Sl EntM}:scB 3 (mkB n k S):=scB.cons rfl (scB.cons rfl (scB.cons (aZ (aE λ_ _=>rfl)) scB.nil))
def oMk:Ord:=.treeX [] [2000,1,2002,2003,2004,5] (trS [6,7,1008,2009,1010])
theorem aHv (d:Sl (Sl RatM)) {Q:Nat->List Rat} {n B:Nat} (h:Rr d Q n n) (hb:∀i,i<n->rbL (Q i) B) (h1:1<=B) (hB:B<=137438953472) (hn:n<=4096):Ctr Tryz.prog bEi [] [.c (xF d),.c (iC n)] [] (λg:MatM=>⟨.a g.C,[],Mx g (λi=>fdF (Q i) n) n⟩):=by
 have hl:=h.ln
 obtain⟨dA,dc,dl⟩:=d
 replace hl:dl.length=n:=hl
 subst hl
 refine aX gT bPl bPm rfl rfl rfl bL ClB.nil (aA gT mxd ?_)
 show Sd _ _ _ _ _ _
 refine aYu tSd 1 2 54 1 rfl rfl bL rfl ?_
 refine bV (λ_=>true) (λu:Nat×(Nat->Sl EntM)=>mkG ⟨dA,dc,dl⟩ dl.length u.1) (λu=>mkB dl.length u.1 u.2) (λ_=>[]) (λu=>u.1<=dl.length∧∀j,j<u.1->Ek (u.2 j).l (fdF (Q j) dl.length)) (λu=>dl.length-u.1) λhM=>⟨bA hM (chg:=λu:Nat×(Nat->Sl EntM)=>mkG ⟨dA,dc,dl⟩ dl.length u.1) (bls:=λu=>mkB dl.length u.1 u.2) (fls:=λ_=>[]) (0,λ_=>cD) ⟨Nat.zero_le _,λj hj=>absurd hj (Nat.not_lt_zero _)⟩ rfl ⟨rfl,rfl,rfl⟩ trivial ⟨rfl,rfl,rfl,rfl⟩ bL aRi rfl,λ⟨k,S⟩ ⟨hk,hS⟩=>aA gT mxd ⟨λh2=>aA gT mxd ?_,λh2=>?_⟩⟩
 all_goals
  replace hk:k<=dl.length:=hk
  replace hS:∀j,j<k->Ek (S j).l (fdF (Q j) dl.length):=hS
 ·have hkn:k<dl.length:=by replace h2:(k:Int)<(dl.length:Nat):=h2;omega
  refine⟨oMk,by kernel_rfl,k,⟨rfl,hkn⟩,[],aRc (dl.getD k cD) (h.row k hkn).1 (hb k hkn) h1 hB (by rw[(h.row k hkn).2];exact hn),rfl,rfl,rfl,λg hg=>⟨rfl,rfl,?_⟩⟩
  replace hg:Ek g.l (fdF (Q k) (Q k).length):=hg
  rw[(h.row k hkn).2] at hg
  have mg:∀{i:Nat},∀c∈[aO g],eX i c=false:=λc hc=>by rw[List.mem_singleton.1 hc];rfl
  have hc2:cB k (λj=>aO (S j))++[aO g]=cB (k+1) λj=>aO (upd S k g j):=by
   rw[xG,pH (Q:=λj=>aO (upd S k g j)) λj hj=>by rw[aP oM]]
   simp only[aT]
  exact⟨⟨rfl,by show k*1=(cB k λj=>aO (S j)).length;rw[bP,Nat.mul_one],by show k+1<=maxLen;simp only[maxLen];omega,by show(k+1)*24<=_;omega,λc hc=>(List.mem_append.1 hc).elim (λh=>dN (aE (λ_ _=>rfl) c h)) (mg c)⟩,mg,(k+1:Nat),wi,bA hM (chg:=λu:Nat×(Nat->Sl EntM)=>mkG ⟨dA,dc,dl⟩ dl.length u.1) (bls:=λu=>mkB dl.length u.1 u.2) (fls:=λ_=>[]) (k+1,upd S k g) ⟨⟨hkn,λj hj=>by
   show Ek (upd S k g j).l _
   by_cases hjk:j=k
   ·subst hjk;rw[aT];exact hg
   rw[aP hjk];exact hS j (by have:j<k+1:=hj;omega)⟩,show dl.length-(k+1)<dl.length-k by omega⟩ rfl ⟨rfl,rfl,congrArg (λl:List CV=>((54,1,l):TypeId×Nat×List CV)) hc2⟩ trivial ⟨rfl,rfl,rfl,rfl⟩ bL aRi rfl⟩
 replace h2:¬(k:Int)<(dl.length:Nat):=h2
 obtain rfl:k=dl.length:=by omega
 refine aA gT mxd ?_
 show Sd _ _ _ _ _ _
 refine qJ tSd 2 rfl bL (aE λ_ _=>rfl) bL rfl λA2 c2=>?_
 refine mL tSd 1 0 [iC dl.length,iC dl.length,gQ ⟨A2.map λb=>⟨b,0,none⟩,c2,eT S dl.length⟩] rfl rfl rfl rfl (nK (k0:=2) rfl qP) (aA gT mxd ⟨⟨dl.length,dl.length,⟨A2.map λb=>⟨b,0,none⟩,c2,eT S dl.length⟩⟩,⟨rfl,rfl,iH,λj hj=>?_,λj hj=>vS _⟩,aN rfl rfl trivial⟩)
 show Ek ((eT S dl.length).getD j cD).l _
 rw[lE hj]
 exact hS j hj
abbrev hdR (A:Nat->Option Nat) (cap:Nat->Nat) (R:Nat->List RatM):Nat->CV:=λj=> .h (A j) (R j).length (cap j)
abbrev elF (n:Nat) (A:Nat->Option Nat) (cap:Nat->Nat) (R:Nat->List RatM):Fam:=⟨51,3,n,A,cap,λj=>fl RatM.C default (R j)⟩
abbrev elB (m:MatM) (n:Nat) (H:List CV):BL:=[(24,0,m.C),(41,1,H)]
theorem aFb {m:MatM} {n:Nat} {P:Nat->CV} (h:∀j,j<n->cW (P j)=true):scB 2 (elB m n (cB n P)):=scB.cons rfl (scB.cons (aZ (aE h)) scB.nil)
theorem aWh {G:Nat->RatM} {n:Nat}:flatR n (λj=>(G j).C)=fl RatM.C default (eA G n):=by
 unfold fl
 rw[tN]
 exact fR λj hj=>by rw[aEp hj]
theorem bEj {G:Nat->RatM} {n:Nat} {es:List En} (h:∀k,k<n->Cr (G k) (Vm.get es (k:Nat))):Rl (eA G n) (dnL es n):=aHo h
theorem aWi {A:Nat->Option Nat} {cap:Nat->Nat} {R:Nat->List RatM} {G:Nat->RatM} {n k:Nat} {Aa:Option Nat} {aa:Nat}:(cB n λj=>if j=k then .s 2 n else hdR A cap R j).map (iZ 2 Aa aa)=cB n (hdR (upd A k Aa) (upd cap k aa) (upd R k (eA G n))):=by
 unfold cB
 rw[List.map_map]
 refine List.map_congr_left λj _=>?_
 show iZ 2 Aa aa (if j=k then .s 2 n else hdR A cap R j)=_
 by_cases h:j=k
 ·subst h;simp only[if_true,hdR,aT,tN];rfl
 simp only[if_neg h,hdR,aP h];rfl
theorem bEk {T n k:Nat} {A:Nat->Option Nat} {cap:Nat->Nat} {R:Nat->List RatM} {G:Nat->RatM}:(⟨T,3,n,A,cap,upd (λj=>fl RatM.C default (R j)) k (flatR n λj=>(G j).C)⟩:Fam)=⟨T,3,n,A,cap,λi=>fl RatM.C default (upd R k (eA G n) i)⟩:=by
 congr 1
 funext i
 by_cases h:i=k
 ·subst h;rw[aT,aT,aWh]
 rw[aP h,aP h]
abbrev aWj:FuncId:=35
theorem bPn:Ent Tryz.prog aWj:=Ent.of func35 rfl kR
theorem bPo:Tryz.prog.funcs[aWj]? =some Tryz.f35:=func35
abbrev elG (n k:Nat):List (Nat×DV):=[(4,.c (iC k)),(1,.c (.p 0 0)),(3,.c (.s 1 n))]
def oEl:Ord:=.treeX [] [2000,2001,2002,3,2004,2005,6,2007,8] (trS [9,2010,2011,2012,2013,1014])
theorem aYv (m:MatM) {M:Nat->List En} {n B:Nat} (h:Mx m M n) (hb:rbM M n B) (h1:1<=B) (hB:B<=137438953472) (hn:n<=4096):CtrF Tryz.prog aWj [false,true] [.a m.C] [] [] (λg:(Nat->Option Nat)×(Nat->Nat)×(Nat->List RatM)=>⟨.c (.s 1 n),elB m n (cB n (hdR g.1 g.2.1 g.2.2)),[elF n g.1 g.2.1 g.2.2],∀i,i<n->Rl (g.2.2 i) (dnL (M i) n)⟩):=by
 obtain⟨mr,mc,md⟩:=m
 obtain rfl:mr=(n:Nat):=h.r
 obtain rfl:mc=(n:Nat):=h.c
 have hl:md.l.length=n:=h.ln
 refine eD gT bPn bPo rfl rfl rfl bL (λi T es l hi=>by cases hi) (aA gT mxd ⟨n,⟨rfl,rfl,by show 24*n<=_;omega,by simp only[maxLen];omega⟩,?_⟩)
 show Sd _ _ _ _ _ _
 refine aOg tSd 51 3 n bL (eZ tSd (l:=List.replicate n (.v (.slice none 0 0))) 1 (cB n (hdR (λ_=>none) (λ_=>0) λ_=>[])) rfl (by rw[bP,List.length_replicate]) (λk c c' h1 h2=>?_) ?_)
 ·have hk:k<n:=by have:=bK h1;simpa using this
  have h3:=cY (P:=hdR (λ_=>none) (λ_=>0) λ_=>[]) hk
  rw[Nat.mul_one,h2] at h3
  injection h3 with h3
  rw[h3,(List.mem_replicate.1 (List.mem_of_getElem? h1)).2]
  exact LeC.nilh
 refine bV (λ_=>true) (λg:Nat×(Nat->Option Nat)×(Nat->Nat)×(Nat->List RatM)=>elG n g.1) (λg=>elB ⟨n,n,md⟩ n (cB n (hdR g.2.1 g.2.2.1 g.2.2.2))) (λg=>[elF n g.2.1 g.2.2.1 g.2.2.2]) (λg=>g.1<=n∧(∀j,j<g.1->Rl (g.2.2.2 j) (dnL (M j) n))∧∀j,g.1<=j->g.2.1 j=none) (λg=>n-g.1) λhM=>⟨bA hM (chg:=λg:Nat×(Nat->Option Nat)×(Nat->Nat)×(Nat->List RatM)=>elG n g.1) (bls:=λg=>elB ⟨n,n,md⟩ n (cB n (hdR g.2.1 g.2.2.1 g.2.2.2))) (fls:=λg=>[elF n g.2.1 g.2.2.1 g.2.2.2]) (0,λ_=>none,λ_=>0,λ_=>[]) ⟨Nat.zero_le _,λj hj=>absurd hj (Nat.not_lt_zero _),λ_ _=>rfl⟩ rfl ⟨rfl,rfl⟩ ⟨rfl,trivial⟩ ⟨rfl,rfl,rfl⟩ bL (aFb λ_ _=>rfl) rfl,λ⟨k,A,cap,R⟩ ⟨hk,hR,hA⟩=>aA gT mxd ⟨λh2=>aA gT mxd ?_,λh2=>?_⟩⟩
 all_goals
  replace hk:k<=n:=hk
  replace hR:∀j,j<k->Rl (R j) (dnL (M j) n):=hR
  replace hA:∀j,k<=j->A j=none:=hA
 ·have hkn:k<n:=by replace h2:(k:Int)<(n:Nat):=h2;omega
  have hok:=h.ok k hkn
  refine⟨oEl,by kernel_rfl,k,⟨rfl,show k<md.l.length by omega⟩,[],bKk (md.l.getD k cD) n (h.row k hkn) (hb k hkn) h1 hB hok.1 hn (by have:=hok.2;omega),rfl,rfl,rfl,λG hG=>⟨rfl,k,⟨rfl,hkn,cA hkn⟩,_,fN (c:=.s 2 n) (Q:=λj=>if j=k then .s 2 n else hdR A cap R j) hkn λj _=>rfl,(k+1:Nat),wi,qJ tGt 2 rfl bL (pG (λj=>cP (G j)) n) bL rfl λAa aa=>⟨_,aWi (G:=G),bHb tGt 0 1 k rfl rfl rfl hkn (hA k (Nat.le_refl _)) bL rfl rfl (bA hM (chg:=λg:Nat×(Nat->Option Nat)×(Nat->Nat)×(Nat->List RatM)=>elG n g.1) (bls:=λg=>elB ⟨n,n,md⟩ n (cB n (hdR g.2.1 g.2.2.1 g.2.2.2))) (fls:=λg=>[elF n g.2.1 g.2.2.1 g.2.2.2]) (k+1,upd A k Aa,upd cap k aa,upd R k (eA G n)) ⟨⟨hkn,λj hj=>?_,λj hj=>?_⟩,show n-(k+1)<n-k by omega⟩ rfl ⟨rfl,rfl⟩ ⟨bEk,trivial⟩ ⟨rfl,rfl,rfl⟩ bL (aFb λ_ _=>rfl) rfl)⟩⟩⟩
  ·show Rl (upd R k (eA G n) j) _
   by_cases hjk:j=k
   ·subst hjk;rw[aT];exact bEj hG
   rw[aP hjk];exact hR j (by have:j<k+1:=hj;omega)
  have hj':k+1<=j:=hj
  exact(aP oM).trans (hA j oM)
 replace h2:¬(k:Int)<(n:Nat):=h2
 obtain rfl:k=n:=by omega
 refine aA gT mxd ?_
 exact aA gT mxd ⟨(A,cap,R),hR,dG rfl ⟨rfl,rfl⟩ ⟨rfl,trivial⟩ bL (aFb λ_ _=>rfl) rfl (aYq (aE λ_ _=>rfl))⟩
def rwS (A:Nat->Option Nat) (cap:Nat->Nat) (R:Nat->List RatM) (j:Nat):Sl RatM:=⟨(A j).map λb=>⟨b,0,none⟩,cap j,R j⟩
theorem aYw {n:Nat} {A:Nat->Option Nat} {cap:Nat->Nat} {R:Nat->List RatM} (j:Nat) (hj:j<n):FrC (elF n A cap R) (hdR A cap R j) (cN (rwS A cap R j)):=⟨j,(R j).length,_,hj,rfl,rfl,(iT (f:=RatM.C) (d:=default) (L:=R j) (e:=3) λ_=>rfl).symm,λk hk=>vU (f:=RatM.C) (d:=default) (L:=R j) (e:=3) (λ_=>rfl) k hk⟩
def lH {α:Type} (S:Nat->α) (n:Nat):List α:=(List.range n).map S
theorem qS {α:Type} {S:Nat->α} {n j:Nat} {d:α} (h:j<n):(lH S n).getD j d=S j:=by unfold lH;simp[h]
theorem oH {α:Type} {S:Nat->α} {n:Nat}:(lH S n).length=n:=by unfold lH;simp
theorem zN {n:Nat} {S:Nat->Sl RatM} (j:Nat) (hj:j<n):[cN ((lH S n).getD j cD)]=((cB n λj=>cN (S j)).drop (j*1)).take 1:=by
 rw[qS hj]
 have h1:=cY (P:=λj=>cN (S j)) hj
 rw[Nat.mul_one] at h1 ⊢
 rw[List.drop_eq_getElem_cons (by rw[bP];exact hj)]
 rw[List.getElem?_eq_getElem (by rw[bP];exact hj)] at h1
 injection h1 with h1
 rw[h1];rfl
theorem zO {A:Option Addr} {c n:Nat} {S:Nat->Sl RatM}:CV.r A n c 1 (λj=>[cN ((lH S n).getD j cD)])=xF ⟨A,c,lH S n⟩:=by
 unfold xF Sl.R
 rw[oH]
theorem bEl (m:MatM) {M:Nat->List En} {n B:Nat} (h:Mx m M n) (hb:rbM M n B) (h1:1<=B) (hB:B<=137438953472) (hn:n<=4096):Ctr Tryz.prog aWj [false,true] [.a m.C] [] (λg:Sl (Sl RatM)=>⟨.c (xF g),[],Rr g (λi=>dnL (M i) n) n n⟩):=by
 refine CtrF.gt (aYv m h hb h1 hB hn) λ⟨A,cap,R⟩ hC _=>?_
 refine mL tGt 1 0 (cB n λj=>cN (rwS A cap R j)) rfl rfl rfl (by rw[bP,bP]) (zI aYw) ?_
 refine yP tGt 0 1 (λj=>[cN ((lH (rwS A cap R) n).getD j cD)]) rfl rfl zN (by rw[bP,Nat.mul_one]) bL (aE λ_ _=>rfl) bL λA2 c2 _ _=>?_
 refine bA (M:=λ_=>true) (base:=[]) (chg:=λg':Sl (Sl RatM)=>[(0,.c (xF g'))]) (bls:=λ_=>[]) (fls:=λ_=>[]) (λt d ht=>by cases ht) (⟨A2,c2,lH (rwS A cap R) n⟩:Sl (Sl RatM)) ⟨⟨oH,λi hi=>?_⟩,λi T es l h=>by cases h⟩ rfl trivial trivial ?_ (Nat.le_refl _) (λi T es l hi=>by cases hi) rfl
 ·rw[qS hi]
  exact⟨hC i hi,jG⟩
 exact zO
theorem bKr {es:List En} {n:Nat} (h:VOk es n):fdF (dnL es n) n=es:=kW _ _ (kF n) h.1 (λe he=>by
 obtain⟨i,_,rfl,h3⟩:=rO e he
 exact h3) (λe he=>(h.2 e he).2.2) λi=>by
 rw[qN]
 by_cases hi:0<=i∧i<n
 ·rw[if_pos hi,zH (show i.toNat<n by omega),Int.toNat_of_nonneg hi.1]
 rw[if_neg hi]
 exact(gA λe he h2=>hi (by have:=h.2 e he;omega)).symm
theorem Mx.congr {m:MatM} {M M':Nat->List En} {n:Nat} (h:Mx m M n) (he:∀i,i<n->M i=M' i):Mx m M' n:=⟨h.r,h.c,h.ln,λi hi=>by rw[<-he i hi];exact h.row i hi,λi hi=>by rw[<-he i hi];exact h.ok i hi⟩
abbrev bEm:FuncId:=21
theorem bPp:Ent Tryz.prog bEm:=Ent.of func21 rfl kR
theorem bPq:Tryz.prog.funcs[bEm]? =some Tryz.f21:=func21
def oCn:Ord:=.treeX [] [0,2002,3] (trS [1,4,1005])
theorem aYx (m:MatM) {M:Nat->List En} {n B:Nat} (h:Mx m M n) (hb:rbM M n B) (h1:1<=B) (hB:B<=137438953472) (hn:n<=4096):Ctr Tryz.prog bEm [] [.a m.C] [] (λg:MatM=>⟨.a g.C,[],Mx g M n⟩):=by
 have h':=h
 obtain⟨mr,mc,md⟩:=m
 obtain rfl:mr=(n:Nat):=h.r
 obtain rfl:mc=(n:Nat):=h.c
 have dn:∀i,i<n->rbL (dnL (M i) n) B:=λi hi q hq=>by
  obtain⟨j,_,rfl⟩:=List.mem_map.1 hq
  exact fY (h.ok i hi).1.1 (hb i hi) h1
 exact aX gT bPp bPq rfl rfl rfl bL ClB.nil (aA gT mxd ⟨oCn,by kernel_rfl,[],bEl _ h' hb h1 hB hn,rfl,rfl,rfl,λd hd=>⟨rfl,[],aHv d hd dn h1 hB hn,rfl,rfl,rfl,λg hg=>⟨rfl,g,Mx.congr hg λi hi=>bKr (h.ok i hi).1,aN rfl rfl trivial⟩⟩⟩)
theorem aYy:rb (0:Rat) 1:=⟨by decide,by decide⟩
abbrev aRj:FuncId:=19
theorem bKs:Ent Tryz.prog aRj:=Ent.of func19 rfl kR
theorem bKt:Tryz.prog.funcs[aRj]? =some Tryz.f19:=func19
abbrev coG (n i:Nat) (L:List RatM):List (Nat×DV):=[(7,.c (iC i)),(6,.c (.s 1 L.length)),(5,.c (.p 0 0)),(1,.c (iC n))]
theorem bKu (d:Sl Int) (n:Nat) (hd:d.l.length<=9223372036854775807) (hn:n<=1000):Ctr Tryz.prog aRj [] [.c (dO d),.c (iC n)] [] (λg:Sl EntM×List Rat=>⟨.c (aO g.1),[],(Ek g.1.l (fdF g.2 n)∧g.2.length=n)∧rbL g.2 1⟩):=by
 refine aX gT bKs bKt rfl rfl rfl bL ClB.nil (aA gT mxd ⟨[],aEs d,rfl,rfl,rfl,λ_ _=>yO 6 51 3 rfl bL ?_⟩)
 refine bV (λ_=>true) (λg:Nat×List RatM×List Rat×Nat=>coG n g.1 g.2.1) (λg=>rtB d g.2.2.2 g.2.1) (λ_=>[]) (λg=>(g.1<=n∧g.2.2.1.length=g.1)∧Rl g.2.1 g.2.2.1∧rbL g.2.2.1 1∧g.2.2.2<=d.l.length) (λg=>n-g.1) λhM=>⟨bA hM (chg:=λg:Nat×List RatM×List Rat×Nat=>coG n g.1 g.2.1) (bls:=λg=>rtB d g.2.2.2 g.2.1) (fls:=λ_=>[]) (0,[],[],0) ⟨⟨Nat.zero_le _,rfl⟩,⟨rfl,λk hk=>absurd hk (Nat.not_lt_zero _)⟩,λq hq=>(by cases hq),Nat.zero_le _⟩ rfl ⟨rfl,rfl⟩ trivial ⟨rfl,rfl,rfl,rfl⟩ bL vV rfl,λ⟨i,L,qs,q⟩ ⟨⟨hi,hq0⟩,hL,hb,hq⟩=>aA gT mxd ⟨λh1=>aA gT mxd ?_,λh1=>aA gT mxd ?_⟩⟩
 all_goals
  replace hi:i<=n:=hi
  replace hq0:qs.length=i:=hq0
  replace hL:Rl L qs:=hL
  replace hb:rbL qs 1:=hb
  replace hq:q<=d.l.length:=hq
  have hl:=hL.ln
 ·have him:i<n:=by replace h1:(i:Int)<(n:Nat):=h1;omega
  have ap:∀g:RatM,1*3=g.C.length∧L.length*3=(fl RatM.C default L).length∧L.length+1<=maxLen∧(L.length+1)*56<=140737488355328∧∀c∈fl RatM.C default L++g.C,eX 1 c=false:=λg=>⟨rfl,(iT (f:=RatM.C) (d:=default) (L:=L) (e:=3) λ_=>rfl).symm,by simp only[maxLen];omega,by omega,λc hc=>(List.mem_append.1 hc).elim (λh=>dN (nN cP c h)) (fO _ c)⟩
  have sn:∀g:RatM,((51,3,fl RatM.C default L++g.C):TypeId×Nat×List CV)=(51,3,fl RatM.C default (L++[g])):=λg=>by rw[qR]
  refine⟨[],rM,rfl,rfl,rfl,λz hz=>⟨[0],oF d q 3 hd hq dC dC,rfl,rfl,rfl,λr hr=>⟨λh=>aA gT mxd ⟨[0],aEu d r.2 hd hr.2,rfl,rfl,rfl,λg hg=>⟨ap g.1,fO _,?_⟩⟩,λh=>aA gT mxd ⟨ap z,fO _,?_⟩⟩⟩⟩
  ·exact⟨(i+1:Nat),wi,bA hM (chg:=λg:Nat×List RatM×List Rat×Nat=>coG n g.1 g.2.1) (bls:=λg=>rtB d g.2.2.2 g.2.1) (fls:=λ_=>[]) (i+1,L++[g.1],qs++[g.2.1],g.2.2) ⟨⟨⟨him,by simp[hq0]⟩,oG hL hg.1.1,nO hb hg.1.2,hg.2⟩,show n-(i+1)<n-i by omega⟩ rfl ⟨rfl,sn _⟩ trivial ⟨rfl,by show L.length+1=(L++[g.1]).length;simp,rfl,rfl⟩ bL vV rfl⟩
  exact⟨(i+1:Nat),wi,bA hM (chg:=λg:Nat×List RatM×List Rat×Nat=>coG n g.1 g.2.1) (bls:=λg=>rtB d g.2.2.2 g.2.1) (fls:=λ_=>[]) (i+1,L++[z],qs++[0],r.2) ⟨⟨⟨him,by simp[hq0]⟩,oG hL hz,nO hb aYy,hr.2⟩,show n-(i+1)<n-i by omega⟩ rfl ⟨rfl,sn _⟩ trivial ⟨rfl,by show L.length+1=(L++[z]).length;simp,rfl,rfl⟩ bL vV rfl⟩
 replace h1:¬(i:Int)<(n:Nat):=h1
 obtain rfl:i=n:=by omega
 refine aA gT mxd ⟨some (λj=>(L.getD j default).C),⟨⟨Nat.zero_le _,by decide⟩,(iT (f:=RatM.C) (d:=default) (L:=L) (e:=3) λ_=>rfl).symm,λj hj=>vU (f:=RatM.C) (d:=default) (L:=L) (e:=3) (λ_=>rfl) j hj,nN cP⟩,λA c _ _=>⟨[],aRc ⟨A,c,L⟩ hL hb (Nat.le_refl 1) dC oM,rfl,rfl,rfl,λg hg=>⟨(g,qs),?_,aN rfl rfl trivial⟩⟩⟩
 replace hg:Ek g.l (fdF qs qs.length):=hg
 rw[hq0] at hg
 exact⟨⟨hg,hq0⟩,hb⟩
abbrev aRk:FuncId:=34
theorem bKv:Ent Tryz.prog aRk:=Ent.of func34 rfl kR
theorem bKw:Tryz.prog.funcs[aRk]? =some Tryz.f34:=func34
abbrev tmO (n k:Nat):List (Nat×DV):=[(8,.c (iC k)),(7,.c (.s 2 k)),(0,.c (.p 0 0)),(1,.c (iC n)),(2,.c (iC n)),(6,.c (.p 1 0))]
abbrev tmI (n k j:Nat) (L:List RatM):List (Nat×DV):=(10,.c (iC j))::(9,.c (.s 3 L.length))::tmO n k
abbrev tmB (d:Sl Int) (p k:Nat) (S:Nat->Sl RatM):BL:=[(84,0,[dO d,iC p]),(24,0,[iC 0,iC 0,.v (.slice none 0 0)]),(41,1,cB k λj=>cN (S j))]
theorem aRl {d:Sl Int} {p k:Nat} {S:Nat->Sl RatM}:scB 3 (tmB d p k S):=scB.cons rfl (scB.cons rfl (scB.cons (aZ (aE λ_ _=>rfl)) scB.nil))
abbrev tmC (d:Sl Int) (p k:Nat) (S:Nat->Sl RatM) (L:List RatM):BL:=[(84,0,[dO d,iC p]),(24,0,[iC 0,iC 0,.v (.slice none 0 0)]),(41,1,cB k λj=>cN (S j)),(51,3,fl RatM.C default L)]
theorem aFc {d:Sl Int} {p k:Nat} {S:Nat->Sl RatM} {L:List RatM}:scB 4 (tmC d p k S L):=scB.cons rfl (scB.cons rfl (scB.cons (aZ (aE λ_ _=>rfl)) (scB.cons (aZ (nN cP)) scB.nil)))
theorem bEn (d:Sl Int) (p n:Nat) (hd:d.l.length<=9223372036854775807) (hp:p<=d.l.length) (hn:n<=1000):Ctr Tryz.prog aRk [true] [.c (.p 0 0),.c (iC n),.c (iC n)] (tpB d p) (λg:MatM×(Nat->List Rat)×Nat=>⟨.a g.1.C,tpB d g.2.2,(Mx g.1 (λi=>fdF (g.2.1 i) n) n∧∀i,i<n->(g.2.1 i).length=n∧rbL (g.2.1 i) 1)∧g.2.2<=d.l.length⟩):=by
 refine aX gT bKv bKw rfl rfl rfl bL (ClB.one rfl) (aA gT mxd (yO 7 41 1 rfl bL ?_))
 refine bV (λ_=>true) (λg:Nat×(Nat->Sl RatM)×(Nat->List Rat)×Nat=>tmO n g.1) (λg=>tmB d g.2.2.2 g.1 g.2.1) (λ_=>[]) (λg=>(g.1<=n∧g.2.2.2<=d.l.length)∧∀i,i<g.1->(Rl (g.2.1 i).l (g.2.2.1 i)∧(g.2.2.1 i).length=n)∧rbL (g.2.2.1 i) 1) (λg=>n-g.1) λhM=>⟨bA hM (chg:=λg:Nat×(Nat->Sl RatM)×(Nat->List Rat)×Nat=>tmO n g.1) (bls:=λg=>tmB d g.2.2.2 g.1 g.2.1) (fls:=λ_=>[]) (0,λ_=>cD,λ_=>[],p) ⟨⟨Nat.zero_le _,hp⟩,λi hi=>absurd hi (Nat.not_lt_zero _)⟩ rfl ⟨rfl,rfl,rfl⟩ trivial ⟨rfl,rfl,rfl,rfl,rfl,rfl⟩ bL aRl rfl,λ⟨k,S,Q,p⟩ ⟨⟨hk,hp⟩,hS⟩=>aA gT mxd ⟨λh1=>aA gT mxd (yO 9 51 3 rfl bL ?_),λh1=>aA gT mxd ?_⟩⟩
 all_goals
  replace hk:k<=n:=hk
  replace hp:p<=d.l.length:=hp
  replace hS:∀i,i<k->(Rl (S i).l (Q i)∧(Q i).length=n)∧rbL (Q i) 1:=hS
 ·have hkn:k<n:=by replace h1:(k:Int)<(n:Nat):=h1;omega
  refine bV (λ_=>true) (λg:Nat×List RatM×List Rat×Nat=>tmI n k g.1 g.2.1) (λg=>tmC d g.2.2.2 k S g.2.1) (λ_=>[]) (λg=>(g.1<=n∧g.2.2.1.length=g.1)∧Rl g.2.1 g.2.2.1∧rbL g.2.2.1 1∧g.2.2.2<=d.l.length) (λg=>n-g.1) λhM2=>⟨bA hM2 (chg:=λg:Nat×List RatM×List Rat×Nat=>tmI n k g.1 g.2.1) (bls:=λg=>tmC d g.2.2.2 k S g.2.1) (fls:=λ_=>[]) (0,[],[],p) ⟨⟨Nat.zero_le _,rfl⟩,⟨rfl,λk hk=>absurd hk (Nat.not_lt_zero _)⟩,λq hq=>(by cases hq),hp⟩ rfl ⟨rfl,rfl,rfl,rfl⟩ trivial ⟨rfl,rfl,rfl,rfl,rfl,rfl,rfl,rfl⟩ bL aFc rfl,λ⟨i,L,qs,q⟩ ⟨⟨hi,hq0⟩,hL,hb,hq⟩=>aA gT mxd ⟨λh2=>aA gT mxd ?_,λh2=>?_⟩⟩
  all_goals
   replace hi:i<=n:=hi
   replace hq0:qs.length=i:=hq0
   replace hL:Rl L qs:=hL
   replace hb:rbL qs 1:=hb
   replace hq:q<=d.l.length:=hq
   have hl:=hL.ln
  ·have him:i<n:=by replace h2:(i:Int)<(n:Nat):=h2;omega
   have ap:∀g:RatM,1*3=g.C.length∧L.length*3=(fl RatM.C default L).length∧L.length+1<=maxLen∧(L.length+1)*56<=140737488355328∧∀c∈fl RatM.C default L++g.C,eX 3 c=false:=λg=>⟨rfl,(iT (f:=RatM.C) (d:=default) (L:=L) (e:=3) λ_=>rfl).symm,by simp only[maxLen];omega,by omega,λc hc=>(List.mem_append.1 hc).elim (λh=>dN (nN cP c h)) (fO _ c)⟩
   have sn:∀g:RatM,((51,3,fl RatM.C default L++g.C):TypeId×Nat×List CV)=(51,3,fl RatM.C default (L++[g])):=λg=>by rw[qR]
   have mr:∀c∈cB k (λj=>cN (S j)),eX 3 c=false:=λc hc=>dN (aE (λ_ _=>rfl) c hc)
   refine⟨[],rM,rfl,rfl,rfl,λz hz=>⟨[0],oF d q 3 hd hq dC dC,rfl,rfl,rfl,λr hr=>⟨λh=>aA gT mxd ⟨[0],aEu d r.2 hd hr.2,rfl,rfl,rfl,λg hg=>⟨ap g.1,mr,fO _,?_⟩⟩,λh=>aA gT mxd ⟨ap z,mr,fO _,?_⟩⟩⟩⟩
   ·exact⟨(i+1:Nat),wi,bA hM2 (chg:=λg:Nat×List RatM×List Rat×Nat=>tmI n k g.1 g.2.1) (bls:=λg=>tmC d g.2.2.2 k S g.2.1) (fls:=λ_=>[]) (i+1,L++[g.1],qs++[g.2.1],g.2.2) ⟨⟨⟨him,by simp[hq0]⟩,oG hL hg.1.1,nO hb hg.1.2,hg.2⟩,show n-(i+1)<n-i by omega⟩ rfl ⟨rfl,rfl,rfl,sn _⟩ trivial ⟨rfl,by show L.length+1=(L++[g.1]).length;simp,rfl,rfl,rfl,rfl,rfl,rfl⟩ bL aFc rfl⟩
   exact⟨(i+1:Nat),wi,bA hM2 (chg:=λg:Nat×List RatM×List Rat×Nat=>tmI n k g.1 g.2.1) (bls:=λg=>tmC d g.2.2.2 k S g.2.1) (fls:=λ_=>[]) (i+1,L++[z],qs++[0],r.2) ⟨⟨⟨him,by simp[hq0]⟩,oG hL hz,nO hb aYy,hr.2⟩,show n-(i+1)<n-i by omega⟩ rfl ⟨rfl,rfl,rfl,sn _⟩ trivial ⟨rfl,by show L.length+1=(L++[z]).length;simp,rfl,rfl,rfl,rfl,rfl,rfl⟩ bL aFc rfl⟩
  replace h2:¬(i:Int)<(n:Nat):=h2
  obtain rfl:i=n:=by omega
  refine aA gT mxd ?_
  show Sd _ _ _ _ _ _
  refine aDu 9 3 (λj=>(L.getD j default).C) rfl rfl (λj hj=>vU (f:=RatM.C) (d:=default) (L:=L) (e:=3) (λ_=>rfl) j hj) (iT (f:=RatM.C) (d:=default) (L:=L) (e:=3) λ_=>rfl).symm bL (nN cP) (Nat.le_add_left 1 2) λA cc _ _=>⟨λc hc=>dN (aE (λ_ _=>rfl) c hc),aA gT mxd ?_⟩
  have mg:∀{i:Nat},∀c∈[cN ⟨A,cc,L⟩],eX i c=false:=λc hc=>by rw[List.mem_singleton.1 hc];rfl
  have hc2:cB k (λj=>cN (S j))++[cN ⟨A,cc,L⟩]=cB (k+1) λj=>cN (upd S k ⟨A,cc,L⟩ j):=by
   rw[xG,pH (Q:=λj=>cN (upd S k ⟨A,cc,L⟩ j)) λj hj=>by rw[aP oM]]
   simp only[aT]
  exact⟨⟨rfl,by show k*1=(cB k λj=>cN (S j)).length;rw[bP,Nat.mul_one],by show k+1<=maxLen;simp only[maxLen];omega,by show(k+1)*24<=_;omega,λc hc=>(List.mem_append.1 hc).elim (λh=>dN (aE (λ_ _=>rfl) c h)) (mg c)⟩,λc hc=>(by cases hc),mg,(k+1:Nat),wi,bA hM (chg:=λg:Nat×(Nat->Sl RatM)×(Nat->List Rat)×Nat=>tmO i g.1) (bls:=λg=>tmB d g.2.2.2 g.1 g.2.1) (fls:=λ_=>[]) (k+1,upd S k ⟨A,cc,L⟩,upd Q k qs,q) ⟨⟨⟨hkn,hq⟩,λj hj=>by
   show(Rl (upd S k ⟨A,cc,L⟩ j).l (upd Q k qs j)∧(upd Q k qs j).length=i)∧rbL (upd Q k qs j) 1
   by_cases hjk:j=k
   ·subst hjk;rw[aT,aT];exact⟨⟨hL,hq0⟩,hb⟩
   rw[aP hjk,aP hjk];exact hS j (by have:j<k+1:=hj;omega)⟩,show i-(k+1)<i-k by omega⟩ rfl ⟨rfl,rfl,congrArg (λl:List CV=>((41,1,l):TypeId×Nat×List CV)) hc2⟩ trivial ⟨rfl,rfl,rfl,rfl,rfl,rfl⟩ bL aRl rfl⟩
 replace h1:¬(k:Int)<(n:Nat):=h1
 obtain rfl:k=n:=by omega
 refine aA gT mxd ⟨some (λj=>[cN ((lH S k).getD j cD)]),⟨⟨Nat.le_add_left 1 1,Nat.zero_lt_one⟩,by show k*1=(cB k λj=>cN (S j)).length;rw[bP,Nat.mul_one],zN,aE λ_ _=>rfl⟩,λA c _ _=>⟨[],aHv ⟨A,c,lH S k⟩ (Q:=Q) ⟨oH,λi hi=>by rw[qS hi];exact(hS i hi).1⟩ (λi hi=>(hS i hi).2) (Nat.le_refl 1) dC oM,?_,rfl,rfl,λg hg=>⟨(g,Q,p),⟨⟨hg,λi hi=>⟨(hS i hi).1.2,(hS i hi).2⟩⟩,hp⟩,dU rfl rfl bL (scB.cons rfl scB.nil) rfl (ClB.one rfl)⟩⟩⟩
 exact congrArg (λc:CV=>[DV.c c,DV.c (iC k)]) zO
def dgR (R:Nat->List RatM) (G:Nat->RatM) (k j:Nat):List RatM:=if j<k then (R j).set j (G j) else R j
theorem aWk {R:Nat->List RatM} {G:Nat->RatM} {k j:Nat}:(dgR R G k j).length=(R j).length:=by unfold dgR;split<;>simp
theorem aRm {R:Nat->List RatM} {G:Nat->RatM} {k:Nat}:dgR R G k k=R k:=if_neg (Nat.lt_irrefl _)
theorem aRn {R:Nat->List RatM} {G:Nat->RatM} {k:Nat} {g:RatM} (j:Nat):upd (λj=>fl RatM.C default (dgR R G k j)) k (fl RatM.C default ((R k).set k g)) j=fl RatM.C default (dgR R (upd G k g) (k+1) j):=by
 by_cases h:j=k
 ·subst h;rw[aT];unfold dgR;rw[if_pos (Nat.lt_succ_self _),aT]
 rw[aP h];unfold dgR;rw[aP h]
 by_cases h2:j<k
 ·rw[if_pos h2,if_pos oM]
 rw[if_neg h2,if_neg oM]
theorem aHw {α:Type} {f:α->List CV} {d:α} {L:List α} {e k:Nat} {x:α} (h:∀x,(f x).length=e) (hk:k<L.length):fG (fl f d L) (k*e) (f x)=fl f d (L.set k x)∧k*e+(f x).length<=(fl f d L).length:=by
 refine⟨?_,by rw[iT h,h,<-Nat.succ_mul];exact Nat.mul_le_mul_right _ hk⟩
 unfold fl
 rw[zF (h x) (λ_ _=>h _) hk,List.length_set]
 refine fR λj hj=>?_
 by_cases e:j=k
 ·subst e;simp[hk]
 rw[if_neg e];simp[List.getD,List.getElem?_set_ne (Ne.symm e)]
theorem ls2 {α:Type} {a b x y:α} (h:a=x) (h':b=y):[a,b]=[x,y]:=by rw[h,h']
theorem bEo:rb ((20:Int):Rat) 1:=⟨by decide,by decide⟩
def dgQ (M:Nat->List En) (n i:Nat):List Rat:=(dnL (M i) n).set i (Vm.get (M i) (i:Nat)+((20:Int):Rat))
theorem bKx {M:Nat->List En} {R:Nat->List RatM} {G:Nat->RatM} {n i:Nat} (hi:i<n) (hR:Rl (R i) (dnL (M i) n)) (hG:Cr (G i) (Vm.get (M i) (i:Nat)+((20:Int):Rat))):Rl (dgR R G n i) (dgQ M n i):=by
 unfold dgR dgQ
 rw[if_pos hi]
 refine⟨by rw[List.length_set,List.length_set];exact hR.ln,λk hk=>?_⟩
 rw[List.length_set] at hk
 by_cases e:k=i
 ·subst e
  rw[gd (by rw[List.length_set,hR.ln];exact hk),gd (by rw[List.length_set];exact hk),List.getElem_set_self,List.getElem_set_self]
  exact hG
 have:=hR.e k hk
 simp only[List.getD,List.getElem?_set_ne (Ne.symm e)]
 exact this
abbrev sqH (n:Nat) (A:Nat->Option Nat) (cap:Nat->Nat):Nat->CV:=λj=> .h (A j) n (cap j)
abbrev sqB (d:Sl Int) (p n:Nat) (m:MatM) (A:Nat->Option Nat) (cap:Nat->Nat):BL:=[(24,0,[iC 0,iC 0,.v (.slice none 0 0)]),(84,0,[dO d,iC p]),(24,0,m.C),(24,0,m.C),(41,1,cB n (sqH n A cap))]
abbrev sqG (n k:Nat):List (Nat×DV):=[(9,.c (iC k)),(8,.c (.s 4 n)),(6,.c (iC n)),(4,.c (.p 0 0)),(7,.c (.p 2 0))]
abbrev bEp:FuncId:=12
theorem bPr:Ent Tryz.prog bEp:=Ent.of func12 rfl kR
theorem bPs:Tryz.prog.funcs[bEp]? =some Tryz.f12:=func12
def oSq:Ord:=.joinX [] [2000,2001,2002,1003,2004,2005,2006,2007,1008,2009,2010] (.alt 11 (trS [12,13,2014,1015]) (.alt 12 (trS [11,13,2014,1015]) .nil))
theorem bKy (d:Sl Int) (w:Nat) (hd:d.l.length<=9223372036854775807) (hw:0<w) (hw2:w<=999):Ctr Tryz.prog bEp [] [.c (dO d),.c (iC w)] [] (λg:MatM×(Nat->List En)×Nat=>⟨.a g.1.C,[],(Mx g.1 g.2.1 g.2.2∧rbM g.2.1 g.2.2 3)∧0<g.2.2∧g.2.2<=w⟩):=by
 refine aX gT bPr bPs rfl rfl rfl bL ClB.nil (aA gT mxd ⟨[],aEs d,rfl,rfl,rfl,λ_ _=>⟨[1],oF d 0 w hd (Nat.zero_le _) oM oM,rfl,rfl,rfl,λ⟨r,q⟩ hr=>?_⟩⟩)
 have hr1:0<=r∧r<w:=hr.1
 obtain⟨n,hn⟩:∃n:Nat,(n:Int)=1+r:=⟨(1+r).toNat,by omega⟩
 refine⟨(n:Int),wi (h:=⟨hn,by omega,by omega⟩),[1],bEn d q n hd hr.2 oM,rfl,rfl,rfl,λ⟨m,Q,p⟩ hm=>⟨[1],oF d p 4 hd hm.2 dC dC,rfl,rfl,rfl,λ⟨z,p2⟩ hz=>⟨λh1=>aA gT mxd ?_,λh1=>aA gT mxd ?_⟩⟩⟩
 ·have hb0:rbM (λi=>fdF (Q i) n) n 1:=λi hi=>nM λj hj=>(hm.1.2 i hi).2 _ (gD0 (by rw[(hm.1.2 i hi).1];exact hj))
  refine⟨[],aYv m hm.1.1 hb0 (Nat.le_refl 1) dC oM,rfl,rfl,rfl,λ⟨A,cap,R⟩ hR=>?_⟩
  replace hR:∀i,i<n->Rl (R i) (dnL (fdF (Q i) n) n):=hR
  have lR:∀i,i<n->(R i).length=n:=λi hi=>(hR i hi).ln.trans jG
  show Sd _ _ _ _ _ _
  refine bHc tSd 0 rfl λhall=>?_
  have hA:∀j,j<n->∃b,A j=some b:=λj hj=>hall j hj λhe=>by
   have h2:=iT (f:=RatM.C) (d:=default) (L:=R j) (e:=3) λ_=>rfl
   rw[show fl RatM.C default (R j)=[] from he,lR j hj] at h2
   simp at h2
   omega
  refine bV (λ_=>true) (λg:Nat×(Nat->RatM)=>sqG n g.1) (λ_=>sqB d p2 n m A cap) (λg=>[elF n A cap (dgR R g.2 g.1)]) (λg=>g.1<=n∧∀j,j<g.1->Cr (g.2 j) (Vm.get (fdF (Q j) n) (j:Nat)+((20:Int):Rat))) (λg=>n-g.1) λhM=>⟨bA hM (chg:=λg:Nat×(Nat->RatM)=>sqG n g.1) (bls:=λ_=>sqB d p2 n m A cap) (fls:=λg=>[elF n A cap (dgR R g.2 g.1)]) (0,λ_=>default) ⟨Nat.zero_le _,λj hj=>absurd hj (Nat.not_lt_zero _)⟩ rfl ⟨rfl,rfl,rfl,rfl,?_⟩ ⟨?_,trivial⟩ ⟨rfl,rfl,rfl,rfl,rfl⟩ bL (scB.cons rfl (scB.cons rfl (scB.cons rfl (scB.cons rfl (scB.cons (aZ (aE λ_ _=>rfl)) scB.nil))))) rfl,λ⟨k,G⟩ ⟨hk,hG⟩=>aA gT mxd ⟨λh2=>aA gT mxd ?_,λh2=>?_⟩⟩
  ·exact congrArg (λl:List CV=>((41,1,l):TypeId×Nat×List CV)) (pH λj hj=>congrArg (λk=>CV.h (A j) k (cap j)) (lR j hj))
  ·show elF n A cap R=elF n A cap (dgR R (λ_=>default) 0)
   congr 1
  all_goals
   replace hk:k<=n:=hk
   replace hG:∀j,j<k->Cr (G j) (Vm.get (fdF (Q j) n) (j:Nat)+((20:Int):Rat)):=hG
  ·have hkn:k<n:=by replace h2:(k:Int)<(n:Nat):=h2;omega
   obtain⟨b,hb⟩:=hA k hkn
   have hlk:k<(R k).length:=by rw[lR k hkn];exact hkn
   have e0:Cr ((R k).getD k default) (Vm.get (fdF (Q k) n) (k:Nat)):=by
    have:=(hR k hkn).e k (by rw[jG];exact hkn)
    rwa [zH hkn] at this
   have r0:Rq ((R k).getD k default) (Vm.get (fdF (Q k) n) (k:Nat)) 1:=Cr.rq e0 (fY (kF n) (hb0 k hkn) (Nat.le_refl 1))
   have ldk:((fl RatM.C default (dgR R G k k)).drop (k*3)).take 3=((R k).getD k default).C∧((R k).getD k default).C.length=3:=by
    rw[aRm];exact⟨(vU (f:=RatM.C) (d:=default) (L:=R k) (e:=3) (λ_=>rfl) k hlk).symm,rfl⟩
   have st:∀g:RatM,fG (fl RatM.C default (dgR R G k k)) (k*3) g.C=fl RatM.C default ((R k).set k g)∧k*3+g.C.length<=(fl RatM.C default (dgR R G k k)).length:=λg=>by
    rw[aRm];exact aHw (f:=RatM.C) (d:=default) (L:=R k) (e:=3) (λ_=>rfl) hlk
   have fin:∀(g:RatM) (sl:List (Nat×DV)),nF (λ_=>true) [] [] [] sl->Cr g (Vm.get (fdF (Q k) n) (k:Nat)+((20:Int):Rat))->AllC sl (sqG n k)->Gt 0 ⟨sl,[],sqB d p2 n m A cap,[⟨51,3,n,A,cap,upd (λj=>fl RatM.C default (dgR R G k j)) k (fl RatM.C default ((R k).set k g))⟩]⟩ (σ:=RatM) (λg=>⟨sqG n k++[],[],sqB d p2 n m A cap,[elF n A cap (dgR R (upd G k g) (k+1))]⟩) (λg=>Cr g (Vm.get (fdF (Q k) n) (k:Nat)+((20:Int):Rat))):=λg sl ht hg hall=>by
    rw[show(upd (λj=>fl RatM.C default (dgR R G k j)) k (fl RatM.C default ((R k).set k g)))=λj=>fl RatM.C default (dgR R (upd G k g) (k+1) j) from funext aRn]
    refine @bA _ _ _ _ hM _ (λ_:RatM=>sqG n k) (λ_=>sqB d p2 n m A cap) (λg=>[elF n A cap (dgR R (upd G k g) (k+1))]) _ g ?_ ?_ ?_ ?_ ?_ ?_ ?_ ?_
    ·exact hg
    ·exact ht
    ·exact⟨rfl,rfl,rfl,rfl,rfl⟩
    ·exact⟨rfl,trivial⟩
    ·exact hall
    ·exact Nat.zero_le _
    ·exact scB.cons rfl (scB.cons rfl (scB.cons rfl (scB.cons rfl (scB.cons (aZ (aE λ_ _=>rfl)) scB.nil))))
    rfl
   have hd:(cB n (sqH n A cap))[k*1]? =some (.h (A k) n (cap k)):=cY hkn
   refine⟨oSq,by kernel_rfl,RatM,λg=>⟨sqG n k++[],[],sqB d p2 n m A cap,[elF n A cap (dgR R (upd G k g) (k+1))]⟩,λg=>Cr g (Vm.get (fdF (Q k) n) (k:Nat)+((20:Int):Rat)),⟨k,⟨rfl,hkn,cA hkn⟩,_,_,⟨hd,rfl⟩,k,⟨rfl,hkn,cA hkn⟩,_,_,⟨hd,rfl⟩,k,b,⟨rfl,hkn,hb⟩,?_,?_⟩,λ_ _=>?_⟩
   ·exact⟨0,k,⟨hkn,hb⟩,_,ldk,ls2 (congrArg gK hd) (congrArg gK hd),[],gZ (z:=20) dC,rfl,rfl,rfl,λt ht=>⟨ls2 (congrArg gK hd) (congrArg gK hd),[],aEg _ t r0.le ((Cr.rq ht bEo).le),rfl,rfl,rfl,λg hg=>⟨ls2 (congrArg gK hd) (congrArg gK hd),k,b,⟨rfl,hkn,hb⟩,0,k,_,⟨hkn,hb,st g⟩,fin g _ (by rfl) hg (by exact⟨rfl,rfl,rfl,rfl,rfl⟩)⟩⟩⟩
   ·exact⟨[],gZ (z:=20) dC,rfl,rfl,rfl,λt ht=>⟨ls2 (congrArg gK hd) (congrArg gK hd),0,k,⟨hkn,hb⟩,_,ldk,ls2 (congrArg gK hd) (congrArg gK hd),[],aEg _ t r0.le ((Cr.rq ht bEo).le),rfl,rfl,rfl,λg hg=>⟨ls2 (congrArg gK hd) (congrArg gK hd),k,b,⟨rfl,hkn,hb⟩,0,k,_,⟨hkn,hb,st g⟩,fin g _ (by rfl) hg (by exact⟨rfl,rfl,rfl,rfl,rfl⟩)⟩⟩⟩
   next g hg=>
   exact⟨(k+1:Nat),wi,bA hM (chg:=λg:Nat×(Nat->RatM)=>sqG n g.1) (bls:=λ_=>sqB d p2 n m A cap) (fls:=λg=>[elF n A cap (dgR R g.2 g.1)]) (k+1,upd G k g) ⟨⟨hkn,λj hj=>by
    show Cr (upd G k g j) _
    by_cases e:j=k
    ·subst e;rw[aT];exact hg
    rw[aP e];exact hG j (by have:j<k+1:=hj;omega)⟩,show n-(k+1)<n-k by omega⟩ rfl ⟨rfl,rfl,rfl,rfl,rfl⟩ ⟨rfl,trivial⟩ ⟨rfl,rfl,rfl,rfl,rfl⟩ bL (scB.cons rfl (scB.cons rfl (scB.cons rfl (scB.cons rfl (scB.cons (aZ (aE λ_ _=>rfl)) scB.nil))))) rfl⟩
  replace h2:¬(k:Int)<(n:Nat):=h2
  obtain rfl:k=n:=by omega
  refine aA gT mxd ?_
  show Sd _ _ _ _ _ _
  have hfr:∀j,j<k->FrC (elF k A cap (dgR R G k)) (sqH k A cap j) (cN (rwS A cap (dgR R G k) j)):=λj hj=>by
   rw[show sqH k A cap j=hdR A cap (dgR R G k) j from congrArg (λm=>CV.h (A j) m (cap j)) (by rw[aWk,lR j hj])]
   exact aYw j hj
  refine mL tSd 4 0 (cB k λj=>cN (rwS A cap (dgR R G k) j)) rfl rfl rfl (by rw[bP,bP]) (zI hfr) ?_
  refine yP tSd 8 4 (λj=>[cN ((lH (rwS A cap (dgR R G k)) k).getD j cD)]) rfl rfl zN (by rw[bP,Nat.mul_one]) bL (aE λ_ _=>rfl) bL λA2 c2 _ _=>?_
  show Sd _ _ _ _ _ _
  rw[zO]
  have rr:Rr (⟨A2,c2,lH (rwS A cap (dgR R G k)) k⟩:Sl (Sl RatM)) (dgQ (λi=>fdF (Q i) k) k) k k:=⟨oH,λi hi=>by
   rw[qS hi]
   exact⟨bKx hi (hR i hi) (hG i hi),by unfold dgQ;rw[List.length_set,jG]⟩⟩
  have hb3:∀i,i<k->rbL (dgQ (λi=>fdF (Q i) k) k i) 3:=λi hi q hq=>by
   obtain⟨j,hj,rfl⟩:=List.getElem_of_mem hq
   unfold dgQ at hj ⊢
   rw[List.length_set] at hj
   rw[List.getElem_set]
   split
   ·exact tJ (fY (kF k) (hb0 i hi) (Nat.le_refl 1)) bEo
   obtain⟨t,_,ht⟩:=List.mem_map.1 (List.getElem_mem hj)
   rw[<-ht]
   exact(fY (kF k) (hb0 i hi) (Nat.le_refl 1)).le
  refine aA gT mxd ⟨[],aHv _ rr (B:=3) ?_ dC dC oM,rfl,rfl,rfl,λg hg=>?_⟩
  ·exact hb3
  exact⟨(g,λi=>fdF (dgQ (λi=>fdF (Q i) k) k i) k,k),⟨⟨hg,λi hi=>nM λj hj=>hb3 i hi _ (gD0 (by unfold dgQ;rw[List.length_set,jG];exact hj))⟩,by show 0<k∧k<=w;omega⟩,aN rfl rfl trivial⟩
 have hb:rbM (λi=>fdF (Q i) n) n 3:=λi hi=>nM λj hj=>rb.le ((hm.1.2 i hi).2 _ (gD0 (by rw[(hm.1.2 i hi).1];exact hj))) dC
 exact⟨(m,λi=>fdF (Q i) n,n),⟨⟨hm.1.1,hb⟩,by show 0<n∧n<=w;omega⟩,aN rfl rfl trivial⟩
structure El where
 R:Nat->Sl EntM
 LA:Nat->Option Nat
 Lc:Nat->Nat
 L:Nat->List EntM
 CA:Nat->Option Nat
 Cc:Nat->Nat
 I:Nat->List CV
abbrev mpC (CA:Nat->Option Nat):Nat->CV:=λj=> .v (.map (CA j))
abbrev eW (l:List CV):List Nat:=l.map gB
abbrev elE (i1 i2 i3 i4 n a:Nat):TypeId×Nat×List CV:=(112,0,[.s i1 n,.s i2 n,.s i3 n,.s i4 a])
abbrev elR (n:Nat) (x:El):TypeId×Nat×List CV:=(54,1,cB n λj=>aO (x.R j))
abbrev elL (n:Nat) (x:El):TypeId×Nat×List CV:=(54,1,cB n (hdP x.LA x.Lc x.L))
abbrev elC (n:Nat) (x:El):TypeId×Nat×List CV:=(143,1,cB n (mpC x.CA))
abbrev elA (A:List Int):TypeId×Nat×List CV:=(3,1,A.map iC)
abbrev LF (n:Nat) (x:El):Fam:=⟨65,4,n,x.LA,x.Lc,λj=>ecs (x.L j)⟩
abbrev CF (n:Nat) (x:El):Fam:=⟨1000000,1,n,x.CA,x.Cc,x.I⟩
structure ElOk (x:El) (n:Nat) (es lw:Nat->List En) (used:Nat->Prop):Prop where
 row:∀i,i<n->Ek (x.R i).l (es i)
 ok:∀i,i<n->VOk (es i) (n:Nat)∧(es i).length<=n
 low:∀i,i<n->Ek (x.L i) (lw i)
 ca:∀j,j<n->∃b,x.CA j=some b
 nd:∀j,j<n->(eW (x.I j)).Nodup
 mem:∀j,j<n->∀i,i∈eW (x.I j)↔(i<n∧¬used i)∧Vm.get (es i) (j:Nat)≠0
theorem rpm {φ:CV->CV} {n:Nat} {c:CV} (h:∀c,cW c=true->φ c=c) (hc:cW c=true):(List.replicate n c).map φ=List.replicate n c:=by rw[List.map_replicate,h c hc]
theorem iU {n:Nat} {c:CV} (hc:cW c=true):∀x∈List.replicate n c,cW x=true:=λx hx=>by rw[(List.mem_replicate.1 hx).2];exact hc
theorem aHx {l:List CV} {c n i:Nat}:i∈eW (nB l c n).1↔i=n∨i∈eW l:=by
 unfold nB
 split
 ·next h=>exact⟨.inr,λh'=>h'.elim (λe=>e▸h) id⟩
 unfold eW
 rw[List.map_append,List.mem_append]
 show i∈_∨i∈[n]↔_
 rw[List.mem_singleton]
 exact Or.comm
theorem aRo {l:List CV} {c n:Nat} (h:(eW l).Nodup):(eW (nB l c n).1).Nodup:=by
 unfold nB
 split
 ·exact h
 next hn=>
 unfold eW
 rw[List.map_append,List.nodup_append]
 refine⟨h,by simp,λa ha b hb he=>?_⟩
 have hb':b=n:=List.mem_singleton.1 (show b∈[n] from hb)
 exact hn (by rw[<-hb',<-he];exact ha)
theorem aCb {l:List CV} {n:Nat}:eW (sU l n)=(eW l).filter λi=>!Nat.beq i n:=by
 unfold eW sU
 rw[List.filter_map]
 rfl
theorem aWl {l:List CV} {n i:Nat}:i∈eW (sU l n)↔i∈eW l∧i≠n:=by
 rw[aCb,List.mem_filter]
 refine and_congr_right λ_=>?_
 cases h:Nat.beq i n with
 |true=>have:=Nat.eq_of_beq_eq_true h;simp[this]
 |false=>have:=fQ h;simp[this]
theorem bEq {l:List CV} {n:Nat} (h:(eW l).Nodup):(eW (sU l n)).Nodup:=by
 rw[aCb];exact h.filter _
def aL (n j:Nat):List Int:=(List.range n).map λi=>if i<j then (i:Int) else 0
theorem vW {n j:Nat}:(aL n j).map iC=cB n λi=>iC (if i<j then (i:Int) else 0):=by unfold aL cB;rw[List.map_map];rfl
theorem bKz {n j k:Nat} (h:j<n):j*1<((aL n k).map iC).length:=by rw[vW];exact cA h
theorem bEr {n j:Nat} (h:j<n):fG ((aL n j).map iC) (j*1) [iC (j:Int)]=(aL n (j+1)).map iC∧j*1+1<=((aL n j).map iC).length:=by
 rw[vW,vW]
 exact fN h λi _=>by
  by_cases e:i=j
  ·subst e;rw[if_pos rfl,if_pos (Nat.lt_succ_self _)]
  rw[if_neg e]
  by_cases e2:i<j
  ·rw[if_pos e2,if_pos oM]
  rw[if_neg e2,if_neg oM]
theorem aRp {n:Nat}:aL n n=(List.range n).map λi:Nat=>(i:Int):=List.map_congr_left λi hi=>if_pos (List.mem_range.1 hi)
theorem mE {n:Nat} {c:CV} {P:Nat->CV} (h:∀j,j<n->LeC c (P j)) (k:Nat) (c1 c2:CV) (h1:(List.replicate n c)[k]? =some c1) (h2:(cB n P)[k]? =some c2):LeC c1 c2:=by
 have hk:k<n:=by have:=bK h1;simpa using this
 have h3:=cY (P:=P) hk
 rw[Nat.mul_one,h2] at h3
 injection h3 with h3
 rw[h3,(List.mem_replicate.1 (List.mem_of_getElem? h1)).2]
 exact h k hk
abbrev stX (R:Nat->Sl EntM) (CA:Nat->Option Nat) (Cc:Nat->Nat) (I:Nat->List CV):El:=⟨R,λ_=>none,λ_=>0,λ_=>[],CA,Cc,I⟩
abbrev stB (m:MatM) (n:Nat) (x:El) (A:List Int):BL:=[(24,0,m.C),elR n x,elL n x,elC n x,elA A,elE 1 2 3 4 n n]
theorem pI {m:MatM} {n:Nat} {x:El} {A:List Int}:scB 6 (stB m n x A):=scB.cons rfl (scB.cons (aZ (aE λ_ _=>rfl)) (scB.cons (aZ (aE λ_ _=>rfl)) (scB.cons (aZ (aE λ_ _=>rfl)) (scB.cons (aZ (cI _)) (scB.cons rfl scB.nil)))))
theorem cU {c:Bool} {cl:List Bool} {T:TypeId} {es:Nat} {l:List CV} {bl:BL} (h:c=true->∀x∈l,cW x=true) (hr:ClB cl bl):ClB (c::cl) ((T,es,l)::bl):=λi T' es' l' hi hc=>by
 cases i with
 |zero=>
  injection hi with hi
  injection hi with _ hi
  injection hi with _ hi
  subst hi
  injection hc with hc
  exact h hc
 |succ i=>exact hr i T' es' l' hi hc
theorem aWm {m:MatM}:∀c∈m.C,cW c=true:=λc hc=>by
 rcases List.mem_cons.1 hc with rfl|hc
 ·rfl
 rcases List.mem_cons.1 hc with rfl|hc
 ·rfl
 rw[List.mem_singleton.1 hc];rfl
theorem bEs {m:MatM} {n:Nat} {x:El} {A:List Int}:ClB [true,true,true,true,true,false] (stB m n x A):=cU (λ_=>aWm) (cU (λ_=>aE λ_ _=>rfl) (cU (λ_=>aE λ_ _=>rfl) (cU (λ_=>aE λ_ _=>rfl) (cU (λ_=>cI _) (cU (λh=>by cases h) oK)))))
theorem aRq {α:Type} {f:Nat->α} {j:Nat} {x:α} (h:f j=x):upd f j x=f:=funext λi=>by
 by_cases e:i=j
 ·subst e;rw[aT,h]
 rw[aP e]
def KI (M:Nat->List En) (n i k:Nat) (I:Nat->List CV):Prop:=∀j,j<n->(eW (I j)).Nodup∧∀r,r∈eW (I j)↔(r<i∧Vm.get (M r) (j:Nat)≠0)∨(r=i∧∃e∈(M i).take k,e.1=(j:Nat))
theorem kN {es:List En} {n:Int} (h:VOk es n) (j:Int):Vm.get es j≠0↔∃e∈es,e.1=j:=by
 constructor
 ·intro hne
  refine Classical.byContradiction λhh=>hne (gA λe he h2=>hh ⟨e,he,h2⟩)
 rintro⟨e,he,rfl⟩
 rw[oE h.1 he]
 exact(h.2 e he).2.2
theorem KI.next {M:Nat->List En} {n i k j0:Nat} {I:Nat->List CV} {c:Nat} (h:KI M n i k I) (hk:k<(M i).length) (hj:((M i).getD k default).1=(j0:Nat)):KI M n i (k+1) (upd I j0 (nB (I j0) c i).1):=λj hjn=>by
 have e1:(M i).take (k+1)=(M i).take k++[(M i).getD k default]:=by rw[List.take_add_one,List.getElem?_eq_getElem hk,gd hk];rfl
 obtain⟨h1,h2⟩:=h j hjn
 rw[e1]
 by_cases e:j=j0
 ·subst e
  rw[aT]
  refine⟨aRo h1,λr=>?_⟩
  rw[aHx,h2 r]
  constructor
  ·rintro(rfl|h3|⟨h3,e,he,h4⟩)
   ·exact .inr ⟨rfl,_,List.mem_append_right _ (.head _),hj⟩
   ·exact .inl h3
   exact .inr ⟨h3,e,List.mem_append_left _ he,h4⟩
  rintro(h3|⟨h3,_⟩)
  ·exact .inr (.inl h3)
  exact .inl h3
 rw[aP e]
 refine⟨h1,λr=>?_⟩
 rw[h2 r]
 refine or_congr_right (and_congr_right λ_=>⟨λ⟨e',he,h4⟩=>⟨e',List.mem_append_left _ he,h4⟩,λ⟨e',he,h4⟩=>?_⟩)
 rcases List.mem_append.1 he with he|he
 ·exact⟨e',he,h4⟩
 rw[List.mem_singleton.1 he,hj] at h4;exact absurd (Int.ofNat.inj h4).symm e
theorem KI.row {M:Nat->List En} {n i:Nat} {I:Nat->List CV} (h:KI M n i (M i).length I) (hv:VOk (M i) (n:Nat)):KI M n (i+1) 0 I:=λj hj=>by
 obtain⟨h1,h2⟩:=h j hj
 refine⟨h1,λr=>?_⟩
 rw[h2 r,List.take_length]
 constructor
 ·rintro(⟨h3,h4⟩|⟨rfl,h4⟩)
  ·exact .inl ⟨by omega,h4⟩
  exact .inl ⟨by omega,(kN hv _).2 h4⟩
 rintro(⟨h3,h4⟩|⟨_,e,he,_⟩)
 ·by_cases e:r=i
  ·subst e;exact .inr ⟨rfl,(kN hv _).1 h4⟩
  exact .inl ⟨by omega,h4⟩
 cases he
abbrev st1 (n j:Nat):List (Nat×DV):=[(25,.c (iC j)),(3,.c (.p 5 0)),(1,.c (.p 0 0)),(24,.c (iC n))]
abbrev st2 (m:MatM) (i:Nat):List (Nat×DV):=[(46,.c (iC i)),(3,.c (.p 5 0)),(1,.c (.p 0 0)),(44,.c (gQ m.d)),(45,.c (iC (m.d.l.length:Nat)))]
abbrev st3 (m:MatM) (i k:Nat):List (Nat×DV):=(61,.c (iC k))::(5,.c (iC i))::(59,.c (aO (m.d.l.getD i cD)))::(60,.c (iC ((m.d.l.getD i cD).l.length:Nat)))::st2 m i
def bLa:Ord:=.treeX [] [2000,2001,2002,3,2004,2005] (trS [6,2007,1008])
def bLb:Ord:=.treeX [] [2000,2001,2002,3,2004,5,2006,1007,2008] (trS [1009])
abbrev zP:FuncId:=61
theorem aWn:Ent Tryz.prog zP:=Ent.of func61 rfl kR
theorem aWo:Tryz.prog.funcs[zP]? =some Tryz.f61:=func61
def oSt:Ord:=.joinX [] [2000,1,2003,4,2006,7,2009,10] (.alt 2 (.alt 5 (.alt 8 (.alt 11 (trS [2012,1013,2014]) .nil) (.alt 11 (.alt 8 (trS [2012,1013,2014]) .nil) .nil)) (.alt 8 (.alt 5 (.alt 11 (trS [2012,1013,2014]) .nil) (.alt 11 (.alt 5 (trS [2012,1013,2014]) .nil) .nil)) (.alt 11 (.alt 5 (.alt 8 (trS [2012,1013,2014]) .nil) (.alt 8 (.alt 5 (trS [2012,1013,2014]) .nil) .nil)) .nil))) (.alt 5 (.alt 2 (.alt 8 (.alt 11 (trS [2012,1013,2014]) .nil) (.alt 11 (.alt 8 (trS [2012,1013,2014]) .nil) .nil)) (.alt 8 (.alt 2 (.alt 11 (trS [2012,1013,2014]) .nil) (.alt 11 (.alt 2 (trS [2012,1013,2014]) .nil) .nil)) (.alt 11 (.alt 2 (.alt 8 (trS [2012,1013,2014]) .nil) (.alt 8 (.alt 2 (trS [2012,1013,2014]) .nil) .nil)) .nil))) (.alt 8 (.alt 2 (.alt 5 (.alt 11 (trS [2012,1013,2014]) .nil) (.alt 11 (.alt 5 (trS [2012,1013,2014]) .nil) .nil)) (.alt 5 (.alt 2 (.alt 11 (trS [2012,1013,2014]) .nil) (.alt 11 (.alt 2 (trS [2012,1013,2014]) .nil) .nil)) (.alt 11 (.alt 2 (.alt 5 (trS [2012,1013,2014]) .nil) (.alt 5 (.alt 2 (trS [2012,1013,2014]) .nil) .nil)) .nil))) (.alt 11 (.alt 2 (.alt 5 (.alt 8 (trS [2012,1013,2014]) .nil) (.alt 8 (.alt 5 (trS [2012,1013,2014]) .nil) .nil)) (.alt 5 (.alt 2 (.alt 8 (trS [2012,1013,2014]) .nil) (.alt 8 (.alt 2 (trS [2012,1013,2014]) .nil) .nil)) (.alt 8 (.alt 2 (.alt 5 (trS [2012,1013,2014]) .nil) (.alt 5 (.alt 2 (trS [2012,1013,2014]) .nil) .nil)) .nil))) .nil))))
theorem aWp (m:MatM) {M:Nat->List En} {n B:Nat} (h:Mx m M n) (hb:rbM M n B) (h1:1<=B) (hB:B<=17179869184) (hn:n<=4096):CtrF Tryz.prog zP [true,true,true,true,true,false] [.a m.C] [] [] (λx:El=>⟨.c (.p 5 0),[(24,0,m.C),elR n x,elL n x,elC n x,elA (aL n n),elE 1 2 3 4 n n],[LF n x,CF n x],ElOk x n M (λ_=>[]) (λ_=>False)⟩):=by
 obtain⟨mr,mc,md⟩:=m
 obtain rfl:mr=(n:Nat):=h.r
 obtain rfl:mc=(n:Nat):=h.c
 have hl:md.l.length=n:=h.ln
 have mk1:n<=maxLen:=by simp only[maxLen];omega
 have nilc:cW (.v (.slice none 0 0))=true:=rfl
 refine eD gT aWn aWo rfl rfl rfl bL (λi T es l hi=>by cases hi) (aA gT mxd ?_)
 have fin1:∀(sl:List (Nat×DV)),nF (λ_=>true) [] [] [] sl->AllC sl [(3,.c (.p 5 0)),(1,.c (.p 0 0))]->Gt 0 ⟨sl,[],[(24,0,(⟨n,n,md⟩:MatM).C),(54,1,List.replicate n (.v (.slice none 0 0))),(54,1,List.replicate n (.v (.slice none 0 0))),(143,1,List.replicate n (.v (.map none))),(3,1,List.replicate n (iC 0)),elE 1 2 3 4 n n],[]⟩ (σ:=Unit) (λ_=>⟨[(3,.c (.p 5 0)),(1,.c (.p 0 0))]++[],[],[(24,0,(⟨n,n,md⟩:MatM).C),(54,1,List.replicate n (.v (.slice none 0 0))),(54,1,List.replicate n (.v (.slice none 0 0))),(143,1,List.replicate n (.v (.map none))),(3,1,List.replicate n (iC 0)),elE 1 2 3 4 n n],[]⟩) (λ_=>True):=λsl ht ha=>by
  refine @bA 0 _ (λ_=>true) [] (λt d ht=>by cases ht) Unit (λ_=>[(3,.c (.p 5 0)),(1,.c (.p 0 0))]) (λ_=>[(24,0,(⟨n,n,md⟩:MatM).C),(54,1,List.replicate n (.v (.slice none 0 0))),(54,1,List.replicate n (.v (.slice none 0 0))),(143,1,List.replicate n (.v (.map none))),(3,1,List.replicate n (iC 0)),elE 1 2 3 4 n n]) (λ_=>[]) _ () trivial ht ?_ trivial ha (Nat.zero_le _) ?_ rfl
  ·exact⟨rfl,rfl,rfl,rfl,rfl,rfl⟩
  exact scB.cons rfl (scB.cons (aZ (iU rfl)) (scB.cons (aZ (iU rfl)) (scB.cons (aZ (iU rfl)) (scB.cons (aZ (iU rfl)) (scB.cons rfl scB.nil)))))
 refine⟨oSt,by kernel_rfl,Unit,λ_=>⟨[(3,.c (.p 5 0)),(1,.c (.p 0 0))]++[],[],[(24,0,(⟨n,n,md⟩:MatM).C),(54,1,List.replicate n (.v (.slice none 0 0))),(54,1,List.replicate n (.v (.slice none 0 0))),(143,1,List.replicate n (.v (.map none))),(3,1,List.replicate n (iC 0)),elE 1 2 3 4 n n],[]⟩,λ_=>True,?_,λ_ _=>?_⟩
 ·exact⟨⟨n,⟨rfl,rfl,by show 24*n<=_;omega,mk1⟩,rfl,⟨⟨n,⟨rfl,rfl,by show 24*n<=_;omega,mk1⟩,rfl,⟨⟨n,⟨rfl,rfl,by show 8*n<=_;omega,mk1⟩,rfl,⟨n,⟨rfl,rfl,by show 8*n<=_;omega,mk1⟩,rfl,fin1 _ (by rfl) (by exact⟨rfl,rfl⟩)⟩⟩,⟨n,⟨rfl,rfl,by show 8*n<=_;omega,mk1⟩,rfl,⟨n,⟨rfl,rfl,by show 8*n<=_;omega,mk1⟩,rfl,gsw 3 4 rfl rfl bL bL rfl ⟨_,rpm aC rfl,_,rpm aC rfl,_,rpm aC rfl,_,rpm aC rfl,bL,fin1 _ (by rfl) (by exact⟨rfl,rfl⟩)⟩⟩⟩⟩⟩,⟨n,⟨rfl,rfl,by show 8*n<=_;omega,mk1⟩,rfl,⟨⟨n,⟨rfl,rfl,by show 24*n<=_;omega,mk1⟩,rfl,⟨n,⟨rfl,rfl,by show 8*n<=_;omega,mk1⟩,rfl,gsw 2 3 rfl rfl bL bL rfl ⟨_,rpm aC rfl,_,rpm aC rfl,_,rpm aC rfl,_,rpm aC rfl,bL,fin1 _ (by rfl) (by exact⟨rfl,rfl⟩)⟩⟩⟩,⟨n,⟨rfl,rfl,by show 8*n<=_;omega,mk1⟩,rfl,⟨n,⟨rfl,rfl,by show 24*n<=_;omega,mk1⟩,rfl,gsw 2 4 rfl rfl bL bL rfl ⟨_,rpm aC rfl,_,rpm aC rfl,_,rpm aC rfl,_,rpm aC rfl,bL,gsw 3 4 rfl rfl bL bL rfl ⟨_,rpm aC rfl,_,rpm aC rfl,_,rpm aC rfl,_,rpm aC rfl,bL,fin1 _ (by rfl) (by exact⟨rfl,rfl⟩)⟩⟩⟩⟩⟩⟩,⟨n,⟨rfl,rfl,by show 8*n<=_;omega,mk1⟩,rfl,⟨⟨n,⟨rfl,rfl,by show 24*n<=_;omega,mk1⟩,rfl,⟨n,⟨rfl,rfl,by show 8*n<=_;omega,mk1⟩,rfl,gsw 2 3 rfl rfl bL bL rfl ⟨_,rpm aC rfl,_,rpm aC rfl,_,rpm aC rfl,_,rpm aC rfl,bL,gsw 3 4 rfl rfl bL bL rfl ⟨_,rpm aC rfl,_,rpm aC rfl,_,rpm aC rfl,_,rpm aC rfl,bL,fin1 _ (by rfl) (by exact⟨rfl,rfl⟩)⟩⟩⟩⟩,⟨n,⟨rfl,rfl,by show 8*n<=_;omega,mk1⟩,rfl,⟨n,⟨rfl,rfl,by show 24*n<=_;omega,mk1⟩,rfl,gsw 2 4 rfl rfl bL bL rfl ⟨_,rpm aC rfl,_,rpm aC rfl,_,rpm aC rfl,_,rpm aC rfl,bL,fin1 _ (by rfl) (by exact⟨rfl,rfl⟩)⟩⟩⟩⟩⟩⟩⟩,⟨n,⟨rfl,rfl,by show 24*n<=_;omega,mk1⟩,rfl,⟨⟨n,⟨rfl,rfl,by show 24*n<=_;omega,mk1⟩,rfl,⟨⟨n,⟨rfl,rfl,by show 8*n<=_;omega,mk1⟩,rfl,⟨n,⟨rfl,rfl,by show 8*n<=_;omega,mk1⟩,rfl,gsw 1 2 rfl rfl bL bL rfl ⟨_,rpm aC rfl,_,rpm aC rfl,_,rpm aC rfl,_,rpm aC rfl,bL,fin1 _ (by rfl) (by exact⟨rfl,rfl⟩)⟩⟩⟩,⟨n,⟨rfl,rfl,by show 8*n<=_;omega,mk1⟩,rfl,⟨n,⟨rfl,rfl,by show 8*n<=_;omega,mk1⟩,rfl,gsw 1 2 rfl rfl bL bL rfl ⟨_,rpm aC rfl,_,rpm aC rfl,_,rpm aC rfl,_,rpm aC rfl,bL,gsw 3 4 rfl rfl bL bL rfl ⟨_,rpm aC rfl,_,rpm aC rfl,_,rpm aC rfl,_,rpm aC rfl,bL,fin1 _ (by rfl) (by exact⟨rfl,rfl⟩)⟩⟩⟩⟩⟩⟩,⟨n,⟨rfl,rfl,by show 8*n<=_;omega,mk1⟩,rfl,⟨⟨n,⟨rfl,rfl,by show 24*n<=_;omega,mk1⟩,rfl,⟨n,⟨rfl,rfl,by show 8*n<=_;omega,mk1⟩,rfl,gsw 1 3 rfl rfl bL bL rfl ⟨_,rpm aC rfl,_,rpm aC rfl,_,rpm aC rfl,_,rpm aC rfl,bL,gsw 2 3 rfl rfl bL bL rfl ⟨_,rpm aC rfl,_,rpm aC rfl,_,rpm aC rfl,_,rpm aC rfl,bL,fin1 _ (by rfl) (by exact⟨rfl,rfl⟩)⟩⟩⟩⟩,⟨n,⟨rfl,rfl,by show 8*n<=_;omega,mk1⟩,rfl,⟨n,⟨rfl,rfl,by show 24*n<=_;omega,mk1⟩,rfl,gsw 1 4 rfl rfl bL bL rfl ⟨_,rpm aC rfl,_,rpm aC rfl,_,rpm aC rfl,_,rpm aC rfl,bL,gsw 2 4 rfl rfl bL bL rfl ⟨_,rpm aC rfl,_,rpm aC rfl,_,rpm aC rfl,_,rpm aC rfl,bL,gsw 3 4 rfl rfl bL bL rfl ⟨_,rpm aC rfl,_,rpm aC rfl,_,rpm aC rfl,_,rpm aC rfl,bL,fin1 _ (by rfl) (by exact⟨rfl,rfl⟩)⟩⟩⟩⟩⟩⟩⟩,⟨n,⟨rfl,rfl,by show 8*n<=_;omega,mk1⟩,rfl,⟨⟨n,⟨rfl,rfl,by show 24*n<=_;omega,mk1⟩,rfl,⟨n,⟨rfl,rfl,by show 8*n<=_;omega,mk1⟩,rfl,gsw 1 3 rfl rfl bL bL rfl ⟨_,rpm aC rfl,_,rpm aC rfl,_,rpm aC rfl,_,rpm aC rfl,bL,gsw 2 3 rfl rfl bL bL rfl ⟨_,rpm aC rfl,_,rpm aC rfl,_,rpm aC rfl,_,rpm aC rfl,bL,gsw 3 4 rfl rfl bL bL rfl ⟨_,rpm aC rfl,_,rpm aC rfl,_,rpm aC rfl,_,rpm aC rfl,bL,fin1 _ (by rfl) (by exact⟨rfl,rfl⟩)⟩⟩⟩⟩⟩,⟨n,⟨rfl,rfl,by show 8*n<=_;omega,mk1⟩,rfl,⟨n,⟨rfl,rfl,by show 24*n<=_;omega,mk1⟩,rfl,gsw 1 4 rfl rfl bL bL rfl ⟨_,rpm aC rfl,_,rpm aC rfl,_,rpm aC rfl,_,rpm aC rfl,bL,gsw 2 4 rfl rfl bL bL rfl ⟨_,rpm aC rfl,_,rpm aC rfl,_,rpm aC rfl,_,rpm aC rfl,bL,fin1 _ (by rfl) (by exact⟨rfl,rfl⟩)⟩⟩⟩⟩⟩⟩⟩⟩,⟨n,⟨rfl,rfl,by show 8*n<=_;omega,mk1⟩,rfl,⟨⟨n,⟨rfl,rfl,by show 24*n<=_;omega,mk1⟩,rfl,⟨⟨n,⟨rfl,rfl,by show 24*n<=_;omega,mk1⟩,rfl,⟨n,⟨rfl,rfl,by show 8*n<=_;omega,mk1⟩,rfl,gsw 1 2 rfl rfl bL bL rfl ⟨_,rpm aC rfl,_,rpm aC rfl,_,rpm aC rfl,_,rpm aC rfl,bL,gsw 2 3 rfl rfl bL bL rfl ⟨_,rpm aC rfl,_,rpm aC rfl,_,rpm aC rfl,_,rpm aC rfl,bL,fin1 _ (by rfl) (by exact⟨rfl,rfl⟩)⟩⟩⟩⟩,⟨n,⟨rfl,rfl,by show 8*n<=_;omega,mk1⟩,rfl,⟨n,⟨rfl,rfl,by show 24*n<=_;omega,mk1⟩,rfl,gsw 1 2 rfl rfl bL bL rfl ⟨_,rpm aC rfl,_,rpm aC rfl,_,rpm aC rfl,_,rpm aC rfl,bL,gsw 2 4 rfl rfl bL bL rfl ⟨_,rpm aC rfl,_,rpm aC rfl,_,rpm aC rfl,_,rpm aC rfl,bL,gsw 3 4 rfl rfl bL bL rfl ⟨_,rpm aC rfl,_,rpm aC rfl,_,rpm aC rfl,_,rpm aC rfl,bL,fin1 _ (by rfl) (by exact⟨rfl,rfl⟩)⟩⟩⟩⟩⟩⟩⟩,⟨n,⟨rfl,rfl,by show 24*n<=_;omega,mk1⟩,rfl,⟨⟨n,⟨rfl,rfl,by show 24*n<=_;omega,mk1⟩,rfl,⟨n,⟨rfl,rfl,by show 8*n<=_;omega,mk1⟩,rfl,gsw 1 3 rfl rfl bL bL rfl ⟨_,rpm aC rfl,_,rpm aC rfl,_,rpm aC rfl,_,rpm aC rfl,bL,fin1 _ (by rfl) (by exact⟨rfl,rfl⟩)⟩⟩⟩,⟨n,⟨rfl,rfl,by show 8*n<=_;omega,mk1⟩,rfl,⟨n,⟨rfl,rfl,by show 24*n<=_;omega,mk1⟩,rfl,gsw 1 4 rfl rfl bL bL rfl ⟨_,rpm aC rfl,_,rpm aC rfl,_,rpm aC rfl,_,rpm aC rfl,bL,gsw 3 4 rfl rfl bL bL rfl ⟨_,rpm aC rfl,_,rpm aC rfl,_,rpm aC rfl,_,rpm aC rfl,bL,fin1 _ (by rfl) (by exact⟨rfl,rfl⟩)⟩⟩⟩⟩⟩⟩,⟨n,⟨rfl,rfl,by show 8*n<=_;omega,mk1⟩,rfl,⟨⟨n,⟨rfl,rfl,by show 24*n<=_;omega,mk1⟩,rfl,⟨n,⟨rfl,rfl,by show 24*n<=_;omega,mk1⟩,rfl,gsw 1 3 rfl rfl bL bL rfl ⟨_,rpm aC rfl,_,rpm aC rfl,_,rpm aC rfl,_,rpm aC rfl,bL,gsw 2 4 rfl rfl bL bL rfl ⟨_,rpm aC rfl,_,rpm aC rfl,_,rpm aC rfl,_,rpm aC rfl,bL,fin1 _ (by rfl) (by exact⟨rfl,rfl⟩)⟩⟩⟩⟩,⟨n,⟨rfl,rfl,by show 24*n<=_;omega,mk1⟩,rfl,⟨n,⟨rfl,rfl,by show 24*n<=_;omega,mk1⟩,rfl,gsw 1 4 rfl rfl bL bL rfl ⟨_,rpm aC rfl,_,rpm aC rfl,_,rpm aC rfl,_,rpm aC rfl,bL,gsw 2 3 rfl rfl bL bL rfl ⟨_,rpm aC rfl,_,rpm aC rfl,_,rpm aC rfl,_,rpm aC rfl,bL,gsw 3 4 rfl rfl bL bL rfl ⟨_,rpm aC rfl,_,rpm aC rfl,_,rpm aC rfl,_,rpm aC rfl,bL,fin1 _ (by rfl) (by exact⟨rfl,rfl⟩)⟩⟩⟩⟩⟩⟩⟩⟩⟩,⟨n,⟨rfl,rfl,by show 8*n<=_;omega,mk1⟩,rfl,⟨⟨n,⟨rfl,rfl,by show 24*n<=_;omega,mk1⟩,rfl,⟨⟨n,⟨rfl,rfl,by show 24*n<=_;omega,mk1⟩,rfl,⟨n,⟨rfl,rfl,by show 8*n<=_;omega,mk1⟩,rfl,gsw 1 2 rfl rfl bL bL rfl ⟨_,rpm aC rfl,_,rpm aC rfl,_,rpm aC rfl,_,rpm aC rfl,bL,gsw 2 3 rfl rfl bL bL rfl ⟨_,rpm aC rfl,_,rpm aC rfl,_,rpm aC rfl,_,rpm aC rfl,bL,gsw 3 4 rfl rfl bL bL rfl ⟨_,rpm aC rfl,_,rpm aC rfl,_,rpm aC rfl,_,rpm aC rfl,bL,fin1 _ (by rfl) (by exact⟨rfl,rfl⟩)⟩⟩⟩⟩⟩,⟨n,⟨rfl,rfl,by show 8*n<=_;omega,mk1⟩,rfl,⟨n,⟨rfl,rfl,by show 24*n<=_;omega,mk1⟩,rfl,gsw 1 2 rfl rfl bL bL rfl ⟨_,rpm aC rfl,_,rpm aC rfl,_,rpm aC rfl,_,rpm aC rfl,bL,gsw 2 4 rfl rfl bL bL rfl ⟨_,rpm aC rfl,_,rpm aC rfl,_,rpm aC rfl,_,rpm aC rfl,bL,fin1 _ (by rfl) (by exact⟨rfl,rfl⟩)⟩⟩⟩⟩⟩⟩,⟨n,⟨rfl,rfl,by show 24*n<=_;omega,mk1⟩,rfl,⟨⟨n,⟨rfl,rfl,by show 24*n<=_;omega,mk1⟩,rfl,⟨n,⟨rfl,rfl,by show 8*n<=_;omega,mk1⟩,rfl,gsw 1 3 rfl rfl bL bL rfl ⟨_,rpm aC rfl,_,rpm aC rfl,_,rpm aC rfl,_,rpm aC rfl,bL,gsw 3 4 rfl rfl bL bL rfl ⟨_,rpm aC rfl,_,rpm aC rfl,_,rpm aC rfl,_,rpm aC rfl,bL,fin1 _ (by rfl) (by exact⟨rfl,rfl⟩)⟩⟩⟩⟩,⟨n,⟨rfl,rfl,by show 8*n<=_;omega,mk1⟩,rfl,⟨n,⟨rfl,rfl,by show 24*n<=_;omega,mk1⟩,rfl,gsw 1 4 rfl rfl bL bL rfl ⟨_,rpm aC rfl,_,rpm aC rfl,_,rpm aC rfl,_,rpm aC rfl,bL,fin1 _ (by rfl) (by exact⟨rfl,rfl⟩)⟩⟩⟩⟩⟩,⟨n,⟨rfl,rfl,by show 8*n<=_;omega,mk1⟩,rfl,⟨⟨n,⟨rfl,rfl,by show 24*n<=_;omega,mk1⟩,rfl,⟨n,⟨rfl,rfl,by show 24*n<=_;omega,mk1⟩,rfl,gsw 1 3 rfl rfl bL bL rfl ⟨_,rpm aC rfl,_,rpm aC rfl,_,rpm aC rfl,_,rpm aC rfl,bL,gsw 2 4 rfl rfl bL bL rfl ⟨_,rpm aC rfl,_,rpm aC rfl,_,rpm aC rfl,_,rpm aC rfl,bL,gsw 3 4 rfl rfl bL bL rfl ⟨_,rpm aC rfl,_,rpm aC rfl,_,rpm aC rfl,_,rpm aC rfl,bL,fin1 _ (by rfl) (by exact⟨rfl,rfl⟩)⟩⟩⟩⟩⟩,⟨n,⟨rfl,rfl,by show 24*n<=_;omega,mk1⟩,rfl,⟨n,⟨rfl,rfl,by show 24*n<=_;omega,mk1⟩,rfl,gsw 1 4 rfl rfl bL bL rfl ⟨_,rpm aC rfl,_,rpm aC rfl,_,rpm aC rfl,_,rpm aC rfl,bL,gsw 2 3 rfl rfl bL bL rfl ⟨_,rpm aC rfl,_,rpm aC rfl,_,rpm aC rfl,_,rpm aC rfl,bL,fin1 _ (by rfl) (by exact⟨rfl,rfl⟩)⟩⟩⟩⟩⟩⟩⟩⟩⟩
 show Sd _ _ _ _ _ _
 refine eZ tSd 1 (cB n λ_=>aO cD) rfl (by rw[bP,List.length_replicate]) (mE λ_ _=>xE) ?_
 refine eZ tSd 2 (cB n (hdP (λ_=>none) (λ_=>0) λ_=>[])) rfl (by rw[bP,List.length_replicate]) (mE λ_ _=>LeC.nilh) ?_
 refine eZ tSd 3 (cB n (mpC λ_=>none)) rfl (by rw[bP,List.length_replicate]) (mE λ_ _=>LeC.refl _) ?_
 refine eZ tSd 4 ((aL n 0).map iC) rfl (by rw[vW,bP,List.length_replicate]) (by rw[vW];exact mE λ_ _=>LeC.refl _) ?_
 refine aOg tSd 65 4 n bL (aOg tSd 1000000 1 n bL ?_)
 refine bV (λ_=>true) (λg:Nat×(Nat->Option Nat)=>st1 n g.1) (λg=>stB ⟨n,n,md⟩ n (stX (λ_=>cD) g.2 (λ_=>0) λ_=>[]) (aL n g.1)) (λg=>[LF n (stX (λ_=>cD) g.2 (λ_=>0) λ_=>[]),CF n (stX (λ_=>cD) g.2 (λ_=>0) λ_=>[])]) (λg=>g.1<=n∧(∀i,i<g.1->∃b,g.2 i=some b)∧∀i,g.1<=i->g.2 i=none) (λg=>n-g.1) λhM=>⟨bA hM (chg:=λg:Nat×(Nat->Option Nat)=>st1 n g.1) (bls:=λg=>stB ⟨n,n,md⟩ n (stX (λ_=>cD) g.2 (λ_=>0) λ_=>[]) (aL n g.1)) (fls:=λg=>[LF n (stX (λ_=>cD) g.2 (λ_=>0) λ_=>[]),CF n (stX (λ_=>cD) g.2 (λ_=>0) λ_=>[])]) (0,λ_=>none) ⟨Nat.zero_le _,λi hi=>absurd hi (Nat.not_lt_zero _),λ_ _=>rfl⟩ rfl ⟨rfl,rfl,rfl,rfl,rfl,rfl⟩ ⟨rfl,rfl,trivial⟩ ⟨rfl,rfl,rfl,rfl⟩ bL pI rfl,λ⟨j,CA⟩ ⟨hj,hA,hN⟩=>aA gT mxd ⟨λh2=>aA gT mxd ?_,λh2=>aA gT mxd ?_⟩⟩
 all_goals
  replace hj:j<=n:=hj
  replace hA:∀i,i<j->∃b,CA i=some b:=hA
  replace hN:∀i,j<=i->CA i=none:=hN
 ·have hjn:j<n:=by replace h2:(j:Int)<(n:Nat):=h2;omega
  refine λb=>⟨j,⟨rfl,hjn,cA hjn⟩,_,fN (c:=.v (.map (some b))) (Q:=mpC (upd CA j (some b))) hjn λi _=>?_,?_⟩
  ·by_cases e:i=j
   ·subst e;rw[if_pos rfl];show _=CV.v (.map _);rw[aT]
   rw[if_neg e];show _=CV.v (.map _);rw[aP e]
  refine⟨j,⟨rfl,hjn,bKz hjn⟩,_,bEr hjn,(j+1:Nat),wi,bHb tGt 1 2 j rfl rfl rfl hjn (hN j (Nat.le_refl _)) bL rfl rfl (bA hM (chg:=λg:Nat×(Nat->Option Nat)=>st1 n g.1) (bls:=λg=>stB ⟨n,n,md⟩ n (stX (λ_=>cD) g.2 (λ_=>0) λ_=>[]) (aL n g.1)) (fls:=λg=>[LF n (stX (λ_=>cD) g.2 (λ_=>0) λ_=>[]),CF n (stX (λ_=>cD) g.2 (λ_=>0) λ_=>[])]) (j+1,upd CA j (some b)) ⟨⟨hjn,λi hi=>?_,λi hi=>?_⟩,show n-(j+1)<n-j by omega⟩ rfl ⟨rfl,rfl,rfl,rfl,rfl,rfl⟩ ⟨rfl,?_,trivial⟩ ⟨rfl,rfl,rfl,rfl⟩ bL pI rfl)⟩
  ·show ∃b',upd CA j (some b) i=some b'
   by_cases e:i=j
   ·subst e;exact⟨b,aT⟩
   rw[aP e];exact hA i (by have:i<j+1:=hi;omega)
  ·show upd CA j (some b) i=none
   have hi':j+1<=i:=hi
   rw[aP oM];exact hN i oM
  show(⟨1000000,1,n,upd CA j (some b),upd (λ_=>0) j 0,upd (λ_=>[]) j []⟩:Fam)=_
  rw[aRq (f:=λ_=>(0:Nat)) rfl,aRq (f:=λ_=>([]:List CV)) rfl]
 replace h2:¬(j:Int)<(n:Nat):=h2
 obtain rfl:j=n:=by omega
 refine aA gT mxd ?_
 show Sd _ _ _ _ _ _
 refine bV (λ_=>true) (λg:Nat×(Nat->Sl EntM)×(Nat->Nat)×(Nat->List CV)=>st2 ⟨j,j,md⟩ g.1) (λg=>stB ⟨j,j,md⟩ j (stX g.2.1 CA g.2.2.1 g.2.2.2) (aL j j)) (λg=>[LF j (stX g.2.1 CA g.2.2.1 g.2.2.2),CF j (stX g.2.1 CA g.2.2.1 g.2.2.2)]) (λg=>g.1<=j∧(∀i,i<g.1->Ek (g.2.1 i).l (M i))∧KI M j g.1 0 g.2.2.2) (λg=>j-g.1) λhM2=>⟨bA hM2 (chg:=λg:Nat×(Nat->Sl EntM)×(Nat->Nat)×(Nat->List CV)=>st2 ⟨j,j,md⟩ g.1) (bls:=λg=>stB ⟨j,j,md⟩ j (stX g.2.1 CA g.2.2.1 g.2.2.2) (aL j j)) (fls:=λg=>[LF j (stX g.2.1 CA g.2.2.1 g.2.2.2),CF j (stX g.2.1 CA g.2.2.1 g.2.2.2)]) (0,λ_=>cD,λ_=>0,λ_=>[]) ⟨Nat.zero_le _,λi hi=>absurd hi (Nat.not_lt_zero _),λi hi=>⟨List.nodup_nil,λr=>⟨λhr=>absurd hr List.not_mem_nil,λhr=>by
  rcases hr with ⟨hr,_⟩|⟨_,e,he,_⟩
  ·exact absurd hr (Nat.not_lt_zero _)
  cases he⟩⟩⟩ rfl ⟨rfl,rfl,rfl,rfl,rfl,rfl⟩ ⟨rfl,rfl,trivial⟩ ⟨rfl,rfl,rfl,rfl,rfl⟩ bL pI rfl,λ⟨i,R,Cc,I⟩ ⟨hi,hR,hI⟩=>aA gT mxd ⟨λh3=>aA gT mxd ?_,λh3=>aA gT mxd ?_⟩⟩
 all_goals
  replace hi:i<=j:=hi
  replace hR:∀k,k<i->Ek (R k).l (M k):=hR
  replace hI:KI M j i 0 I:=hI
 ·replace h3:(i:Int)<(md.l.length:Nat):=h3
  have hin:i<j:=by omega
  have hes:=h.row i hin
  have hok:=h.ok i hin
  have hle:(md.l.getD i cD).l.length=(M i).length:=hes.ln
  refine⟨i,⟨rfl,show i<md.l.length by omega⟩,bLa,by kernel_rfl,[],zD (md.l.getD i cD) (hes.ev (hb i hin)) (hb i hin) h1 hB hok.1.1 (λe he=>(hok.1.2 e he).2.2) oM,rfl,rfl,rfl,λg hg=>⟨rfl,i,⟨rfl,hin,cA hin⟩,_,fN (c:=aO g) (Q:=λk=>aO (upd R i g k)) hin (λk _=>?_),?_⟩⟩
  ·by_cases e:k=i
   ·subst e;rw[if_pos rfl,aT]
   rw[if_neg e,aP e]
  show Sd _ _ _ _ _ _
  refine bV (λ_=>true) (λg':Nat×(Nat->Nat)×(Nat->List CV)=>st3 ⟨j,j,md⟩ i g'.1) (λg'=>stB ⟨j,j,md⟩ j (stX (upd R i g) CA g'.2.1 g'.2.2) (aL j j)) (λg'=>[LF j (stX (upd R i g) CA g'.2.1 g'.2.2),CF j (stX (upd R i g) CA g'.2.1 g'.2.2)]) (λg'=>g'.1<=(M i).length∧KI M j i g'.1 g'.2.2) (λg'=>(M i).length-g'.1) λhM3=>⟨bA hM3 (chg:=λg':Nat×(Nat->Nat)×(Nat->List CV)=>st3 ⟨j,j,md⟩ i g'.1) (bls:=λg'=>stB ⟨j,j,md⟩ j (stX (upd R i g) CA g'.2.1 g'.2.2) (aL j j)) (fls:=λg'=>[LF j (stX (upd R i g) CA g'.2.1 g'.2.2),CF j (stX (upd R i g) CA g'.2.1 g'.2.2)]) (0,Cc,I) ⟨Nat.zero_le _,hI⟩ rfl ⟨rfl,rfl,rfl,rfl,rfl,rfl⟩ ⟨rfl,rfl,trivial⟩ ⟨rfl,rfl,rfl,rfl,rfl,rfl,rfl,rfl,rfl⟩ bL pI rfl,λ⟨k,Cc,I⟩ ⟨hk,hI⟩=>aA gT mxd ⟨λh4=>aA gT mxd ?_,λh4=>aA gT mxd ?_⟩⟩
  all_goals
   replace hk:k<=(M i).length:=hk
   replace hI:KI M j i k I:=hI
  ·replace h4:(k:Int)<((md.l.getD i cD).l.length:Nat):=h4
   have hkl:k<(M i).length:=by omega
   have he:=hes.e k hkl
   have e0:=hok.1.2 _ (dW hkl)
   obtain⟨j0,hj0⟩:∃j0:Nat,((M i).getD k default).1=(j0:Nat):=⟨((M i).getD k default).1.toNat,by omega⟩
   have hjn:j0<j:=by omega
   have hix:((md.l.getD i cD).l.getD k default).ix=(j0:Nat):=he.1.trans hj0
   obtain⟨b,hbj⟩:=hA j0 hjn
   have hcell:(cB j (mpC CA))[j0*1]? =some (.v (.map (some b))):=by rw[cY hjn];exact congrArg (λo=>some (CV.v (.map o))) hbj
   refine⟨k,⟨rfl,show k<(md.l.getD i cD).l.length by omega⟩,bLb,by kernel_rfl,j0,⟨hix,hjn,cA hjn⟩,_,_,⟨hcell,rfl⟩,1,j0,i,⟨hjn,hbj,rfl⟩,(k+1:Nat),wi,?_⟩
   exact bA hM3 (chg:=λg':Nat×(Nat->Nat)×(Nat->List CV)=>st3 ⟨j,j,md⟩ i g'.1) (bls:=λg'=>stB ⟨j,j,md⟩ j (stX (upd R i g) CA g'.2.1 g'.2.2) (aL j j)) (fls:=λg'=>[LF j (stX (upd R i g) CA g'.2.1 g'.2.2),CF j (stX (upd R i g) CA g'.2.1 g'.2.2)]) (k+1,upd Cc j0 (nB (I j0) (Cc j0) i).2,upd I j0 (nB (I j0) (Cc j0) i).1) ⟨⟨hkl,hI.next hkl hj0⟩,show(M i).length-(k+1)<(M i).length-k by omega⟩ rfl ⟨rfl,rfl,rfl,rfl,rfl,rfl⟩ ⟨rfl,rfl,trivial⟩ ⟨rfl,rfl,rfl,rfl,rfl,rfl,rfl,rfl,rfl⟩ bL pI rfl
  replace h4:¬(k:Int)<((md.l.getD i cD).l.length:Nat):=h4
  obtain rfl:k=(M i).length:=by omega
  refine⟨(i+1:Nat),wi,bA hM2 (chg:=λg:Nat×(Nat->Sl EntM)×(Nat->Nat)×(Nat->List CV)=>st2 ⟨j,j,md⟩ g.1) (bls:=λg=>stB ⟨j,j,md⟩ j (stX g.2.1 CA g.2.2.1 g.2.2.2) (aL j j)) (fls:=λg=>[LF j (stX g.2.1 CA g.2.2.1 g.2.2.2),CF j (stX g.2.1 CA g.2.2.1 g.2.2.2)]) (i+1,upd R i g,Cc,I) ⟨⟨hin,λk' hk'=>?_,hI.row hok.1⟩,show j-(i+1)<j-i by omega⟩ rfl ⟨rfl,rfl,rfl,rfl,rfl,rfl⟩ ⟨rfl,rfl,trivial⟩ ⟨rfl,rfl,rfl,rfl,rfl⟩ bL pI rfl⟩
  show Ek (upd R i g k').l (M k')
  by_cases e:k'=i
  ·subst e;rw[aT];exact hg
  rw[aP e];exact hR k' (by have:k'<i+1:=hk';omega)
 replace h3:¬(i:Int)<(md.l.length:Nat):=h3
 obtain rfl:i=j:=by omega
 refine aA gT mxd ?_
 exact⟨stX R CA Cc I,⟨hR,h.ok,λ_ _=>⟨rfl,λk hk=>absurd hk (Nat.not_lt_zero _)⟩,hA,λc hc=>(hI c hc).1,λc hc r=>by
  rw[(hI c hc).2 r]
  refine⟨λhr=>?_,λ⟨⟨a,_⟩,b⟩=> .inl ⟨a,b⟩⟩
  rcases hr with ⟨a,b⟩|⟨_,e,he,_⟩
  ·exact⟨⟨a,id⟩,b⟩
  cases he⟩,dG rfl ⟨rfl,rfl,rfl,rfl,rfl,rfl⟩ ⟨rfl,rfl,trivial⟩ bL pI rfl bEs⟩
theorem bLc {P:Program} {nb N:Nat} {c:Code} {K:Kt} {s:SS} (id:Nat) {σ:Type} (S:σ->SS) (C:σ->Prop) (h:Sd P nb N c ⟨K.nrm,λj s'=>bif Nat.beq j id then Gt nb s' S C else K.ext j s',K.ret⟩ s) (hr:∀g,C g->K.ext id (S g)):Sd P nb N c K s:=λρ0 w0 ρ f w Q hL hD=>by
 refine h ρ0 w0 ρ f w Q ⟨hL.nrm,λj s' ρ' f' w' hh hD'=>?_,hL.ret⟩ hD
 cases hb:Nat.beq j id with
 |false=>simp only[hb,cond_false] at hh;exact hL.ext j s' ρ' f' w' hh hD'
 |true=>
  simp only[hb,cond_true] at hh
  obtain⟨g,ρ2,h1,h2⟩:=hh ρ0 w0 ρ' f' w' hD'
  have e:=Nat.eq_of_beq_eq_true hb
  subst e
  exact hL.ext j _ ρ2 f' w' (hr g h1) h2
theorem aRr {A:List Int} {k:Nat} (h:k<A.length):(A.map iC)[k*1]? =some (iC (A.getD k 0)):=by rw[Nat.mul_one,List.getElem?_map,List.getElem?_eq_getElem h,gd h];rfl
theorem aRs {A:List Int} {k:Nat} (h:k<A.length):k*1<(A.map iC).length:=by simpa using h
theorem qT {n c b:Nat} {CA:Nat->Option Nat} (hc:c<n) (hb:CA c=some b):(cB n (mpC CA))[c*1]? =some (.v (.map (some b))):=by rw[cY hc];exact congrArg (λo=>some (CV.v (.map o))) hb
abbrev cnB (n a:Nat) (x:El) (A:List Int):BL:=[(105,0,[.p 1 0]),elE 2 3 4 5 n a,elR n x,elL n x,elC n x,elA A]
theorem bEt {n a:Nat} {x:El} {A:List Int}:scB 6 (cnB n a x A):=scB.cons rfl (scB.cons rfl (scB.cons (aZ (aE λ_ _=>rfl)) (scB.cons (aZ (aE λ_ _=>rfl)) (scB.cons (aZ (aE λ_ _=>rfl)) (scB.cons (aZ (cI _)) scB.nil)))))
abbrev cnL:List Bool:=[false,false,true,true,true,true]
theorem aRt {n a:Nat} {x:El} {A:List Int}:ClB cnL (cnB n a x A):=cU (λh=>by cases h) (cU (λh=>by cases h) (cU (λ_=>aE λ_ _=>rfl) (cU (λ_=>aE λ_ _=>rfl) (cU (λ_=>aE λ_ _=>rfl) (cU (λ_=>cI _) oK)))))
abbrev tQ:FuncId:=105
theorem aWq:Ent Tryz.prog tQ:=Ent.of func105 rfl kR
theorem aWr:Tryz.prog.funcs[tQ]? =some Tryz.f105:=func105
theorem tR (x:El) {n c b k:Nat} {A:List Int} (hk:k<A.length) (hA:A.getD k 0=(c:Nat)) (hc:c<n) (hb:x.CA c=some b):CtrF Tryz.prog tQ cnL [.c (iC k),.c (.p 0 0)] (cnB n A.length x A) [CF n x] (λ_:Unit=>⟨.c (iC (x.I c).length),cnB n A.length x A,[CF n x],True⟩):=by
 refine eD gT aWq aWr rfl rfl rfl bL aRt (aA gT mxd ?_)
 refine⟨.seq (sq 99 (List.range 15)),by kernel_rfl,k,⟨rfl,hk,aRs hk⟩,_,aRr hk,c,⟨hA,hc,cA hc⟩,_,qT hc hb,0,c,⟨hc,hb⟩,(),trivial,dG rfl ⟨rfl,rfl,rfl,rfl,rfl,rfl⟩ ⟨rfl,trivial⟩ bL bEt rfl aRt⟩
abbrev chB (n a:Nat) (x:El) (A:List Int):BL:=[elE 1 2 3 4 n a,elR n x,elL n x,elC n x,elA A]
abbrev sW (n a:Nat) (x:El) (A:List Int):BL:=[elE 1 2 3 4 n a,elR n x,elL n x,elC n x,elA A,(105,0,[.p 0 0])]
abbrev chL:List Bool:=[false,true,true,true,true]
theorem vZ {n a:Nat} {x:El} {A:List Int}:ClB chL (chB n a x A):=cU (λh=>by cases h) (cU (λ_=>aE λ_ _=>rfl) (cU (λ_=>aE λ_ _=>rfl) (cU (λ_=>aE λ_ _=>rfl) (cU (λ_=>cI _) oK))))
theorem aFd {n a:Nat} {x:El} {A:List Int}:scB 5 (chB n a x A):=scB.cons rfl (scB.cons (aZ (aE λ_ _=>rfl)) (scB.cons (aZ (aE λ_ _=>rfl)) (scB.cons (aZ (aE λ_ _=>rfl)) (scB.cons (aZ (cI _)) scB.nil))))
theorem mF {n a:Nat} {x:El} {A:List Int}:scB 6 (sW n a x A):=scB.cons rfl (scB.cons (aZ (aE λ_ _=>rfl)) (scB.cons (aZ (aE λ_ _=>rfl)) (scB.cons (aZ (aE λ_ _=>rfl)) (scB.cons (aZ (cI _)) (scB.cons rfl scB.nil)))))
abbrev qU:FuncId:=62
theorem aRu:Ent Tryz.prog qU:=Ent.of func62 rfl kR
theorem aRv:Tryz.prog.funcs[qU]? =some Tryz.f62:=func62
abbrev aFe (best:Nat):List (Nat×DV):=[(5,.c (iC best)),(6,.c (.f tQ [] [(5,0)])),(1,.c (.p 5 0))]
abbrev aWs (r0:Nat) (c:Nat) (ro:Int):List (Nat×DV):=[(2,.c (iC ro)),(66,.c (.hp r0 0)),(1,.c (.p 5 0)),(3,.c (iC c))]
abbrev itF (r0:Nat) (G:Nat->List CV):Fam:=⟨1000001,1,1,λ_=>some r0,λ_=>0,G⟩
def bLd:Ord:=.treeX [] [0,1,2002,2003,4,2005,2006,7,2008,2009,10,2011,2012,2013] (trS [14,2015,2016,1017])
theorem bEu {A:List Int} {p:Nat} (h:p<A.length):(A.map iC).take (p*1)++(A.map iC).drop ((p+1)*1)=(A.eraseIdx p).map iC:=by
 rw[Nat.mul_one,Nat.mul_one,List.eraseIdx_eq_take_drop_succ,List.map_append,List.map_take,List.map_drop]
def chR (n:Nat) (x:El) (A:List Int):Option (Nat×Nat×Nat)->OutF
 |none=>⟨.t [.c (iC 0),.c (iC 0),.c (.v (.bool false))],chB n A.length x A,[CF n x],∃c:Nat,c<n∧(c:Int)∈A∧x.I c=[]⟩
 |some (r,c,p)=>⟨.t [.c (iC r),.c (iC c),.c (.v (.bool true))],chB n (A.length-1) x (A.eraseIdx p),[CF n x],(p<A.length∧A.getD p 0=(c:Nat))∧c<n∧r∈eW (x.I c)⟩
theorem aRw (x:El) {n:Nat} {A:List Int} {es lw:Nat->List En} {used:Nat->Prop} (h:ElOk x n es lw used) (h0:0<A.length) (hl:A.length<=4096) (hA:∀a∈A,0<=a∧a<(n:Nat)):CtrF Tryz.prog qU chL [.c (.p 0 0)] (chB n A.length x A) [CF n x] (chR n x A):=by
 have hin:∀k,k<A.length->∃c,A.getD k 0=(c:Nat)∧c<n∧∃b,x.CA c=some b:=λk hk=>by
  have hm:A.getD k 0∈A:=by rw[gd hk];exact List.getElem_mem hk
  have h2:=hA _ hm
  obtain⟨c,hc⟩:∃c:Nat,A.getD k 0=(c:Nat):=⟨(A.getD k 0).toNat,by omega⟩
  have hcn:c<n:=by omega
  exact⟨c,hc,hcn,h.ca c hcn⟩
 refine eD gT aRu aRv rfl rfl rfl bL vZ (aA gT mxd ?_)
 show Sd _ _ _ _ _ _
 refine bLc 0 (σ:=Nat) (λbest=>⟨aFe best++[],[],sW n A.length x A,[CF n x]⟩) (λbest=>best<A.length) ?_ (λbest hb=>?_)
 ·refine bV (λ_=>true) (λg:Nat×Nat=>(15,.c (iC g.1))::(14,.c (iC (A.length:Nat)))::aFe g.2) (λ_=>sW n A.length x A) (λ_=>[CF n x]) (λg=>g.1<=A.length∧g.2<A.length) (λg=>A.length-g.1) λhM=>⟨bA hM (chg:=λg:Nat×Nat=>(15,.c (iC g.1))::(14,.c (iC (A.length:Nat)))::aFe g.2) (bls:=λ_=>sW n A.length x A) (fls:=λ_=>[CF n x]) (0,0) ⟨Nat.zero_le _,h0⟩ rfl ⟨rfl,rfl,rfl,rfl,rfl,rfl⟩ ⟨rfl,trivial⟩ ⟨rfl,rfl,rfl,rfl,rfl⟩ bL mF rfl,λ⟨k,best⟩ ⟨hk,hb⟩=>aA gT mxd ⟨λh2=>aA gT mxd ?_,λh2=>aA gT mxd ?_⟩⟩
  all_goals
   replace hk:k<=A.length:=hk
   replace hb:best<A.length:=hb
  ·have hkl:k<A.length:=by replace h2:(k:Int)<(A.length:Nat):=h2;omega
   obtain⟨c,c1,c2,b,c3⟩:=hin k hkl
   obtain⟨d,d1,d2,e,d3⟩:=hin best hb
   refine⟨_,rfl,[5,0,1,2,3,4,1000],tR x hkl c1 c2 c3,rfl,rfl,rfl,λ_ _=>⟨_,rfl,[5,0,1,2,3,4,1000],tR x hb d1 d2 d3,rfl,rfl,rfl,λ_ _=>?_⟩⟩
   refine vjn (λ_=>true) (λb':Nat=>(15,.c (iC k))::(14,.c (iC (A.length:Nat)))::aFe b') (λ_=>sW n A.length x A) (λb'=>b'<A.length) ?_
   refine⟨⟨λh3=>aA gT mxd ⟨k,hkl,rfl,rfl,rfl,rfl,rfl,rfl,rfl⟩,λh3=>aA gT mxd ⟨best,hb,rfl,rfl,rfl,rfl,rfl,rfl,rfl⟩⟩,λb' hb'=>?_⟩
   obtain⟨f,f1,f2,g,f3⟩:=hin b' hb'
   refine⟨_,rfl,[5,0,1,2,3,4,1000],tR x hb' f1 f2 f3,rfl,rfl,rfl,λ_ _=>⟨λh4=>aA gT mxd ?_,λh4=>aA gT mxd ⟨(k+1:Nat),wi,?_⟩⟩⟩
   ·show Gt _ _ _ _
    exact bA (M:=λ_=>true) (base:=[]) (λt d ht=>by cases ht) (chg:=aFe) (bls:=λ_=>sW n A.length x A) (fls:=λ_=>[CF n x]) b' hb' rfl ⟨rfl,rfl,rfl,rfl,rfl,rfl⟩ ⟨rfl,trivial⟩ ⟨rfl,rfl,rfl⟩ bL mF rfl
   exact bA hM (chg:=λg:Nat×Nat=>(15,.c (iC g.1))::(14,.c (iC (A.length:Nat)))::aFe g.2) (bls:=λ_=>sW n A.length x A) (fls:=λ_=>[CF n x]) (k+1,b') ⟨⟨hkl,hb'⟩,show A.length-(k+1)<A.length-k by omega⟩ rfl ⟨rfl,rfl,rfl,rfl,rfl,rfl⟩ ⟨rfl,trivial⟩ ⟨rfl,rfl,rfl,rfl,rfl⟩ bL mF rfl
  show Gt _ _ _ _
  exact bA (M:=λ_=>true) (base:=[]) (λt d ht=>by cases ht) (chg:=aFe) (bls:=λ_=>sW n A.length x A) (fls:=λ_=>[CF n x]) best hb rfl ⟨rfl,rfl,rfl,rfl,rfl,rfl⟩ ⟨rfl,trivial⟩ ⟨rfl,rfl,rfl⟩ bL mF rfl
 replace hb:best<A.length:=hb
 obtain⟨c,c1,c2,b,c3⟩:=hin best hb
 refine aA gT mxd ⟨_,rfl,[5,0,1,2,3,4,1000],tR x hb c1 c2 c3,rfl,rfl,rfl,λ_ _=>⟨λh5=>aA gT mxd ⟨none,⟨c,c2,by rw[<-c1,gd hb];exact List.getElem_mem hb,List.length_eq_zero_iff.1 (by replace h5:((x.I c).length:Int)=0:=h5;omega)⟩,dG ⟨rfl,rfl,rfl⟩ ⟨rfl,rfl,rfl,rfl,rfl⟩ ⟨rfl,trivial⟩ bL aFd rfl vZ⟩,λh5=>aA gT mxd ?_⟩⟩
 replace h5:¬((x.I c).length:Int)=0:=h5
 have w1:best*1<=(A.map iC).length:=by rw[List.length_map];omega
 have w2:A.length*1<=(A.map iC).length:=by rw[List.length_map];omega
 have w3:(best+1)*1+(A.length-(best+1))*1=(A.map iC).length:=by rw[List.length_map];omega
 have w4:best*1+(A.length-(best+1))*1<=(A.map iC).length:=by rw[List.length_map];omega
 have w5:0<(A.map iC).length:=by rw[List.length_map];omega
 refine⟨best,⟨rfl,hb,aRs hb⟩,_,(aRr hb).trans (congrArg (λz=>some (iC z)) c1),?_⟩
 refine⟨bLd,by kernel_rfl,best,⟨rfl,w1⟩,(best+1:Nat),wi,best+1,⟨rfl,hb,w2⟩,?_⟩
 refine⟨⟨w3,w4,w5⟩,rfl,?_⟩
 refine⟨c,⟨rfl,c2,cA c2⟩,_,qT c2 c3,0,c,⟨c2,c3⟩,λr0=>?_⟩
 show Sd _ _ _ _ _ _
 have hne:x.I c≠[]:=λhe=>h5 (by rw[he];rfl)
 have ha1:best+(A.length-(best+1))=A.length-1:=by omega
 have kin:∀k∈x.I c,gB k<n:=λk hk=>((h.mem c c2 (gB k)).1 (List.mem_map.2 ⟨k,hk,rfl⟩)).1.1
 refine bV (λ_=>true) (λg:Int×(Nat->List CV)×Nat×(Nat->List CV)=>aWs r0 c g.1) (λ_=>sW n (A.length-1) x (A.eraseIdx best)) (λg=>[CF n x,itF r0 g.2.2.2]) (λg=>(g.2.1 1=x.I c∧g.2.2.1<=x.Cc c∧g.2.2.2 0=[.r none 0 b g.2.2.1 g.2.1]∧∀k∈g.2.1 0,k∈x.I c)∧(0<=g.1->∃r:Nat,g.1=(r:Nat)∧r∈eW (x.I c))∧(0<=g.1∨g.2.1 0=x.I c)) (λg=>(g.2.1 0).length) λhM2=>⟨bA hM2 (chg:=λg:Int×(Nat->List CV)×Nat×(Nat->List CV)=>aWs r0 c g.1) (bls:=λ_=>sW n (A.length-1) x (A.eraseIdx best)) (fls:=λg=>[CF n x,itF r0 g.2.2.2]) (-1,aDk (x.I c),x.Cc c,λ_=>[.r none 0 b (x.Cc c) (aDk (x.I c))]) ⟨⟨rfl,Nat.le_refl _,rfl,λk hk=>hk⟩,λhh=>absurd (show(0:Int)<=-1 from hh) dC,.inr rfl⟩ rfl ⟨congrArg (λk=>elE 1 2 3 4 n k) ha1,rfl,rfl,rfl,congrArg (λl:List CV=>((3,1,l):TypeId×Nat×List CV)) (bEu hb),rfl⟩ ⟨rfl,rfl,trivial⟩ ⟨rfl,rfl,rfl,rfl⟩ bL mF rfl,λ⟨ro,gg,st,G⟩ ⟨⟨i1,i2,iG,i3⟩,hro,hex⟩=>aA gT mxd ⟨1,0,c,b,st,gg,⟨bL,rfl,iG,c2,c3,i1,i2⟩,λh6=>?_,λp k q h6=>?_⟩⟩
 all_goals
  replace i1:gg 1=x.I c:=i1
  replace i2:st<=x.Cc c:=i2
  replace iG:G 0=[.r none 0 b st gg]:=iG
  replace i3:∀k∈gg 0,k∈x.I c:=i3
  replace hro:0<=ro->∃r:Nat,ro=(r:Nat)∧r∈eW (x.I c):=hro
  replace hex:0<=ro∨gg 0=x.I c:=hex
 ·have h7:0<=ro:=hex.resolve_right λhe=>hne (he.symm.trans h6)
  obtain⟨r,rfl,hr⟩:=hro h7
  exact aA gT mxd ⟨some (r,c,best),⟨⟨hb,c1⟩,c2,hr⟩,dG ⟨rfl,rfl,rfl⟩ ⟨rfl,rfl,rfl,rfl,rfl⟩ ⟨rfl,trivial⟩ bL aFd rfl vZ⟩
 have hk:k∈x.I c:=i3 k (by rw[h6];exact List.mem_append_right _ (.head _))
 have hkn:=kin k hk
 have hmea:(p++q).length<(gg 0).length:=by rw[h6];simp
 have hsub:∀k'∈p++q,k'∈x.I c:=λk' hk'=>i3 k' (by
  rw[h6]
  rcases List.mem_append.1 hk' with hh|hh
  ·exact List.mem_append_left _ hh
  exact List.mem_append_right _ (.tail _ hh))
 have hrr:¬ro<0->ro=(ro.toNat:Nat)∧ro.toNat<n:=λhn=>by
  obtain⟨r,rfl,hr⟩:=hro oM
  refine⟨rfl,?_⟩
  obtain⟨k',hk',rfl⟩:=List.mem_map.1 hr
  exact kin k' hk'
 have hG':upd G 0 [CV.r none 0 b (x.Cc c) (qD p q (x.I c) k)] 0=[CV.r none 0 b (x.Cc c) (qD p q (x.I c) k)]:=aT
 refine⟨1,0,c,b,k,qD p q (x.I c) k,⟨bL,rfl,hG',c2,c3,rfl,hk⟩,?_⟩
 refine⟨.seq (sq 99 (List.range 45)),by kernel_rfl,gB k,λ_=>⟨rfl,hkn,cA hkn⟩,_,λ_=>cY hkn,ro.toNat,λhq=>⟨(hrr hq).1,(hrr hq).2,cA (hrr hq).2⟩,aO (x.R ro.toNat),λhq=>cY (hrr hq).2,gB k,λ_=>⟨rfl,hkn,cA hkn⟩,_,λ_=>cY hkn,ro.toNat,λhq=>⟨(hrr λhn=>hq (.inl hn)).1,(hrr λhn=>hq (.inl hn)).2,cA (hrr λhn=>hq (.inl hn)).2⟩,aO (x.R ro.toNat),λhq=>cY (hrr λhn=>hq (.inl hn)).2,?_⟩
 refine⟨λh8=>aA gT mxd ?_,λh8=>aA gT mxd ?_⟩
 ·exact bA hM2 (chg:=λg:Int×(Nat->List CV)×Nat×(Nat->List CV)=>aWs r0 c g.1) (bls:=λ_=>sW n (A.length-1) x (A.eraseIdx best)) (fls:=λg=>[CF n x,itF r0 g.2.2.2]) ((gB k:Nat),qD p q (x.I c) k,x.Cc c,upd G 0 [.r none 0 b (x.Cc c) (qD p q (x.I c) k)]) ⟨⟨⟨rfl,Nat.le_refl _,hG',hsub⟩,λ_=>⟨gB k,rfl,List.mem_map.2 ⟨k,hk,rfl⟩⟩,.inl (Int.natCast_nonneg _)⟩,hmea⟩ rfl ⟨rfl,rfl,rfl,rfl,rfl,rfl⟩ ⟨rfl,rfl,trivial⟩ ⟨rfl,rfl,rfl,rfl⟩ bL mF rfl
 have h9:0<=ro:=Int.not_lt.1 λhn=>h8 (.inl (.inl hn))
 exact bA hM2 (chg:=λg:Int×(Nat->List CV)×Nat×(Nat->List CV)=>aWs r0 c g.1) (bls:=λ_=>sW n (A.length-1) x (A.eraseIdx best)) (fls:=λg=>[CF n x,itF r0 g.2.2.2]) (ro,qD p q (x.I c) k,x.Cc c,upd G 0 [.r none 0 b (x.Cc c) (qD p q (x.I c) k)]) ⟨⟨⟨rfl,Nat.le_refl _,hG',hsub⟩,hro,.inl h9⟩,hmea⟩ rfl ⟨rfl,rfl,rfl,rfl,rfl,rfl⟩ ⟨rfl,rfl,trivial⟩ ⟨rfl,rfl,rfl,rfl⟩ bL mF rfl
abbrev El.maps (x:El) (I:Nat->List CV):El:=⟨x.R,x.LA,x.Lc,x.L,x.CA,x.Cc,I⟩
def DI (ps:List En) (n i k:Nat) (I0 I:Nat->List CV):Prop:=∀j,j<n->((eW (I0 j)).Nodup->(eW (I j)).Nodup)∧∀r,r∈eW (I j)↔r∈eW (I0 j)∧¬(r=i∧∃e∈ps.take k,e.1=(j:Nat))
theorem rQ {α:Type} [Inhabited α] {l:List α} {k:Nat} (h:k<l.length):l.take (k+1)=l.take k++[l.getD k default]:=by rw[List.take_add_one,List.getElem?_eq_getElem h,gd h];rfl
theorem aWt {ps:List En} {k:Nat} {j j0:Nat} (hk:k<ps.length) (hj:(ps.getD k default).1=(j0:Nat)):(∃e∈ps.take (k+1),e.1=(j:Nat))↔(∃e∈ps.take k,e.1=(j:Nat))∨j=j0:=by
 rw[rQ hk]
 constructor
 ·rintro⟨e,he,h⟩
  rcases List.mem_append.1 he with he|he
  ·exact .inl ⟨e,he,h⟩
  rw[List.mem_singleton.1 he,hj] at h;exact .inr (Int.ofNat.inj h).symm
 rintro(⟨e,he,h⟩|rfl)
 ·exact⟨e,List.mem_append_left _ he,h⟩
 exact⟨_,List.mem_append_right _ (.head _),hj⟩
theorem DI.start {ps:List En} {n i:Nat} {I:Nat->List CV}:DI ps n i 0 I I:=λj _=>⟨id,λr=>⟨λh=>⟨h,λ⟨_,e,he,_⟩=>by cases he⟩,λh=>h.1⟩⟩
theorem DI.next {ps:List En} {n i k j0:Nat} {I0 I:Nat->List CV} (h:DI ps n i k I0 I) (hk:k<ps.length) (hj:(ps.getD k default).1=(j0:Nat)):DI ps n i (k+1) I0 (upd I j0 (sU (I j0) i)):=λj hjn=>by
 obtain⟨h1,h2⟩:=h j hjn
 by_cases e:j=j0
 ·subst e
  rw[aT]
  refine⟨λhn=>bEq (h1 hn),λr=>?_⟩
  rw[aWl,h2 r,aWt hk hj]
  constructor
  ·rintro⟨⟨h3,h4⟩,h5⟩;exact⟨h3,λ⟨h6,_⟩=>h5 h6⟩
  rintro⟨h3,h4⟩;exact⟨⟨h3,λ⟨h5,h6⟩=>h4 ⟨h5,.inl h6⟩⟩,λh5=>h4 ⟨h5,.inr rfl⟩⟩
 rw[aP e]
 refine⟨h1,λr=>?_⟩
 rw[h2 r,aWt hk hj]
 exact and_congr_right λ_=>not_congr (and_congr_right λ_=>⟨.inl,λh=>h.elim id λh=>absurd h e⟩)
abbrev lvB (n a:Nat) (x:El) (A:List Int) (pv:Sl EntM):BL:=[(54,0,[aO pv]),(105,0,[.p 2 0]),elE 3 4 5 6 n a,elR n x,elL n x,elC n x,elA A]
theorem aFf {n a:Nat} {x:El} {A:List Int} {pv:Sl EntM}:scB 7 (lvB n a x A pv):=scB.cons rfl (scB.cons rfl (scB.cons rfl (scB.cons (aZ (aE λ_ _=>rfl)) (scB.cons (aZ (aE λ_ _=>rfl)) (scB.cons (aZ (aE λ_ _=>rfl)) (scB.cons (aZ (cI _)) scB.nil))))))
abbrev lvL:List Bool:=[true,false,false,true,true,true,true]
theorem aRx {n a:Nat} {x:El} {A:List Int} {pv:Sl EntM}:ClB lvL (lvB n a x A pv):=cU (λ_ c hc=>by rw[List.mem_singleton.1 hc];rfl) (cU (λh=>by cases h) (cU (λh=>by cases h) (cU (λ_=>aE λ_ _=>rfl) (cU (λ_=>aE λ_ _=>rfl) (cU (λ_=>aE λ_ _=>rfl) (cU (λ_=>cI _) oK))))))
abbrev qV:FuncId:=106
theorem aWu:Ent Tryz.prog qV:=Ent.of func106 rfl kR
theorem aWv:Tryz.prog.funcs[qV]? =some Tryz.f106:=func106
abbrev lvG (pv:Sl EntM) (i k:Nat):List (Nat×DV):=[(8,.c (iC k)),(6,.c (aO pv)),(7,.c (iC (pv.l.length:Nat))),(0,.c (iC i)),(2,.c (.p 1 0))]
def oLv:Ord:=.treeX [] [0,2001,2002,3,2004,5,2006,1007,2008] (trS [1009])
theorem aHy (x:El) (pv:Sl EntM) {ps:List En} {n i:Nat} {A:List Int} (hp:Ek pv.l ps) (hv:VOk ps (n:Nat)) (hl:ps.length<=n) (hn:n<=4096) (ca:∀j,j<n->∃b,x.CA j=some b):CtrF Tryz.prog qV lvL [.c (iC i),.c (.p 0 0),.c (.p 1 0)] (lvB n A.length x A pv) [CF n x] (λI:Nat->List CV=>⟨.t [],lvB n A.length x A pv,[CF n (x.maps I)],DI ps n i ps.length x.I I⟩):=by
 have hln:=hp.ln
 refine eD gT aWu aWv rfl rfl rfl bL aRx (aA gT mxd ?_)
 show Sd _ _ _ _ _ _
 refine bV (λ_=>true) (λg:Nat×(Nat->List CV)=>lvG pv i g.1) (λ_=>lvB n A.length x A pv) (λg=>[CF n (x.maps g.2)]) (λg=>g.1<=ps.length∧DI ps n i g.1 x.I g.2) (λg=>ps.length-g.1) λhM=>⟨bA hM (chg:=λg:Nat×(Nat->List CV)=>lvG pv i g.1) (bls:=λ_=>lvB n A.length x A pv) (fls:=λg=>[CF n (x.maps g.2)]) (0,x.I) ⟨Nat.zero_le _,DI.start⟩ rfl ⟨rfl,rfl,rfl,rfl,rfl,rfl,rfl⟩ ⟨rfl,trivial⟩ ⟨rfl,rfl,rfl,rfl,rfl⟩ bL aFf rfl,λ⟨k,I⟩ ⟨hk,hI⟩=>aA gT mxd ⟨λh2=>aA gT mxd ?_,λh2=>aA gT mxd ?_⟩⟩
 all_goals
  replace hk:k<=ps.length:=hk
  replace hI:DI ps n i k x.I I:=hI
 ·have hkl:k<ps.length:=by replace h2:(k:Int)<(pv.l.length:Nat):=h2;omega
  have he:=hp.e k hkl
  have e0:=hv.2 _ (dW hkl)
  obtain⟨j0,hj0⟩:∃j0:Nat,(ps.getD k default).1=(j0:Nat):=⟨(ps.getD k default).1.toNat,by omega⟩
  have hjn:j0<n:=by omega
  have hix:(pv.l.getD k default).ix=(j0:Nat):=he.1.trans hj0
  obtain⟨b,hb⟩:=ca j0 hjn
  refine⟨k,⟨rfl,show k<pv.l.length by omega⟩,oLv,by kernel_rfl,j0,⟨hix,hjn,cA hjn⟩,_,_,⟨qT hjn hb,rfl⟩,0,j0,i,⟨hjn,hb,rfl⟩,(k+1:Nat),wi,?_⟩
  exact bA hM (chg:=λg:Nat×(Nat->List CV)=>lvG pv i g.1) (bls:=λ_=>lvB n A.length x A pv) (fls:=λg=>[CF n (x.maps g.2)]) (k+1,upd I j0 (sU (I j0) i)) ⟨⟨hkl,hI.next hkl hj0⟩,show ps.length-(k+1)<ps.length-k by omega⟩ rfl ⟨rfl,rfl,rfl,rfl,rfl,rfl,rfl⟩ ⟨rfl,trivial⟩ ⟨rfl,rfl,rfl,rfl,rfl⟩ bL aFf rfl
 obtain rfl:k=ps.length:=by replace h2:¬(k:Int)<(pv.l.length:Nat):=h2;omega
 exact⟨I,hI,dG rfl ⟨rfl,rfl,rfl,rfl,rfl,rfl,rfl⟩ ⟨rfl,trivial⟩ bL aFf rfl aRx⟩
def fac (es:Nat->List En) (r c i:Nat):Rat:=Vm.get (es i) (c:Nat)*(Vm.get (es r) (c:Nat))⁻¹
structure StR (r c kk:Nat) (es lw es' lw':Nat->List En) (P:Nat->Prop):Prop where
 yes:∀i,P i->(∀j:Int,Vm.get (es' i) j=Vm.get (es i) j+(-(fac es r c i))*Vm.get (es r) j)∧lw' i=lw i++[((kk:Int),fac es r c i)]
 no:∀i,¬P i->es' i=es i∧lw' i=lw i
theorem lI:∀{n:Nat} {l:List Nat},l.Nodup->(∀i∈l,i<n)->l.length<=n
 |0,[],_,_=>Nat.le_refl _
 |0,i::l,_,h=>absurd (h i (.head _)) (Nat.not_lt_zero _)
 |n+1,l,hd,h=>by
  by_cases hn:n∈l
  ·have h1:=lI (n:=n) (hd.erase n) λi hi=>by
    have h2:=(hd.mem_erase_iff).1 hi
    have:=h i h2.2
    have:=h2.1
    omega
   rw[List.length_erase_of_mem hn] at h1
   omega
  have:=lI (n:=n) hd λi hi=>by
   have:=h i hi
   have:i≠n:=λe=>hn (e▸hi)
   omega
  omega
theorem fS {es:List En} {n:Nat} (h:VOk es (n:Nat)):es.length<=n:=by
 have h1:(es.map λe=>e.1.toNat).Nodup:=by
  rw[List.nodup_iff_pairwise_ne,List.pairwise_map]
  exact h.1.imp_of_mem λ{a b} ha hb hab he=>by
   have:=h.2 a ha
   have:=h.2 b hb
   have:a.1<b.1:=hab
   omega
 have:=lI (n:=n) h1 λi hi=>by
  obtain⟨e,he,rfl⟩:=List.mem_map.1 hi
  have:=h.2 e he
  omega
 rwa [List.length_map] at this
theorem aRy {es fs rs:List En} {q:Rat} {n:Int} (h:MgR (λa b=>a+q*b) es fs rs) (he:VOk es n) (hf:VOk fs n):VOk rs n:=⟨h.a,λe hm=>by
 have hz:e.2≠0:=h.z e hm
 have hg:=h.g e.1
 rw[oE h.a hm] at hg
 by_cases h1:Vm.get es e.1=0
 ·have h2:Vm.get fs e.1≠0:=λh2=>hz (by rw[hg];show Vm.get es e.1+q*Vm.get fs e.1=0;rw[h1,h2,Rat.mul_zero,Rat.add_zero])
  obtain⟨e',he',h3⟩:=(kN hf _).1 h2
  have:=hf.2 e' he'
  rw[h3] at this
  exact⟨this.1,this.2.1,hz⟩
 obtain⟨e',he',h3⟩:=(kN he _).1 h1
 have:=he.2 e' he'
 rw[h3] at this
 exact⟨this.1,this.2.1,hz⟩⟩
theorem bLe {es fs rs:List En} {q:Rat} {B Q:Nat} (h:MgR (λa b=>a+q*b) es fs rs) (he:Asc es) (hf:Asc fs) (h1:1<=B) (be:rbE es B) (bf:rbE fs B) (hq:rb q Q):rbE rs (B+(Q+B)+1):=λe hm=>by
 have hg:=h.g e.1
 rw[oE h.a hm] at hg
 rw[hg]
 exact tJ (fY he be h1) (gH hq (fY hf bf h1))
def AI (rs:List En) (n i k:Nat) (I0 I:Nat->List CV):Prop:=∀j,j<n->((eW (I0 j)).Nodup->(eW (I j)).Nodup)∧∀r,r∈eW (I j)↔r∈eW (I0 j)∨(r=i∧∃e∈rs.take k,e.1=(j:Nat))
theorem AI.start {rs:List En} {n i:Nat} {I:Nat->List CV}:AI rs n i 0 I I:=λj _=>⟨id,λr=>⟨.inl,λh=>h.elim id λ⟨_,e,he,_⟩=>by cases he⟩⟩
theorem AI.next {rs:List En} {n i k j0 c:Nat} {I0 I:Nat->List CV} (h:AI rs n i k I0 I) (hk:k<rs.length) (hj:(rs.getD k default).1=(j0:Nat)):AI rs n i (k+1) I0 (upd I j0 (nB (I j0) c i).1):=λj hjn=>by
 obtain⟨h1,h2⟩:=h j hjn
 by_cases e:j=j0
 ·subst e
  rw[aT]
  refine⟨λhn=>aRo (h1 hn),λr=>?_⟩
  rw[aHx,h2 r,aWt hk hj]
  constructor
  ·rintro(h3|h3|⟨h3,h4⟩)
   ·exact .inr ⟨h3,.inr rfl⟩
   ·exact .inl h3
   exact .inr ⟨h3,.inl h4⟩
  rintro(h3|⟨h3,_⟩)
  ·exact .inr (.inl h3)
  exact .inl h3
 rw[aP e]
 refine⟨h1,λr=>?_⟩
 rw[h2 r,aWt hk hj]
 exact or_congr_right (and_congr_right λ_=>⟨.inl,λh=>h.elim id λh=>absurd h e⟩)
theorem aFg {G:List EntM} {lw:List En} {e:EntM} {z:En} (h:Ek G lw) (h1:e.ix=z.1) (h2:Cr e.v z.2):Ek (G++[e]) (lw++[z]):=⟨by rw[List.length_append,List.length_append,h.ln];rfl,λk hk=>by
 rw[List.length_append,List.length_singleton] at hk
 by_cases e1:k<lw.length
 ·have e2:k<G.length:=by rw[h.ln];exact e1
  rw[List.getD,List.getD,List.getElem?_append_left e2,List.getElem?_append_left e1]
  exact h.e k e1
 obtain rfl:k=lw.length:=by omega
 have e2:¬lw.length<G.length:=by rw[h.ln];omega
 rw[List.getD,List.getD,List.getElem?_append_right oM,List.getElem?_append_right (Nat.le_refl _),h.ln]
 simp only[Nat.sub_self,List.getElem?_cons_zero,Option.getD_some]
 exact⟨h1,h2⟩⟩
theorem aRz {x:El} {n r c kk i:Nat} {es' lw':Nat->List En} {used:Nat->Prop} {rs:List En} {q:Rat} {g:Sl EntM} {LA':Option Nat} {Lc':Nat} {e:EntM} {z:En} {Cc':Nat->Nat} {I1 I2:Nat->List CV}
 (h:ElOk x n es' lw' used) (hr:r<n) (hin:i<n) (hui:¬used i) (hg:Ek g.l rs) (hm:MgR (λa b=>a+q*b) (es' i) (es' r) rs) (h1:e.ix=z.1) (h2:Cr e.v z.2)
 (hD:DI (es' r) n i (es' r).length x.I I1) (hA:AI rs n i rs.length I1 I2):
 ElOk ⟨upd x.R i g,upd x.LA i LA',upd x.Lc i Lc',upd x.L i (x.L i++[e]),x.CA,Cc',I2⟩ n (upd es' i rs) (upd lw' i (lw' i++[z])) used:=by
 have hv:=aRy hm (h.ok i hin).1 (h.ok r hr).1
 refine⟨λk hk=>?_,λk hk=>?_,λk hk=>?_,h.ca,λj hj=>(hA j hj).1 ((hD j hj).1 (h.nd j hj)),λj hj k=>?_⟩
 ·show Ek (upd x.R i g k).l (upd es' i rs k)
  by_cases e:k=i
  ·subst e;rw[aT,aT];exact hg
  rw[aP e,aP e];exact h.row k hk
 ·by_cases e:k=i
  ·subst e;rw[aT];exact⟨hv,fS hv⟩
  rw[aP e];exact h.ok k hk
 ·show Ek (upd x.L i (x.L i++[e]) k) (upd lw' i (lw' i++[z]) k)
  by_cases e:k=i
  ·subst e;rw[aT,aT];exact aFg (h.low k hk) h1 h2
  rw[aP e,aP e];exact h.low k hk
 show k∈eW (I2 j)↔_
 rw[(hA j hj).2 k,(hD j hj).2 k,h.mem j hj k,List.take_length,List.take_length]
 by_cases e:k=i
 ·subst e
  rw[aT]
  have hgj:Vm.get rs (j:Nat)=Vm.get (es' k) (j:Nat)+q*Vm.get (es' r) (j:Nat):=hm.g _
  constructor
  ·rintro(⟨⟨h3,h4⟩,h5⟩|⟨_,h5⟩)
   ·have h6:Vm.get (es' r) (j:Nat)=0:=Classical.byContradiction λh6=>h5 ⟨rfl,(kN (h.ok r hr).1 _).1 h6⟩
    rw[h6,Rat.mul_zero,Rat.add_zero] at hgj
    exact⟨h3,by rw[hgj];exact h4⟩
   exact⟨⟨hin,hui⟩,(kN hv _).2 h5⟩
  rintro⟨_,h4⟩
  exact .inr ⟨rfl,(kN hv _).1 h4⟩
 rw[aP e]
 constructor
 ·rintro(⟨h3,_⟩|⟨h3,_⟩)
  ·exact h3
  exact absurd h3 e
 intro h3;exact .inl ⟨h3,λ⟨h4,_⟩=>e h4⟩
theorem StR.next {r c kk k:Nat} {es lw es' lw':Nat->List En} {O:List Nat} {rs:List En} (h:StR r c kk es lw es' lw' (·∈O.take k)) (hk:k<O.length) (hO:O.Nodup) (hm:MgR (λa b=>a+(-(fac es r c (O.getD k 0)))*b) (es (O.getD k 0)) (es r) rs):es' (O.getD k 0)=es (O.getD k 0)∧lw' (O.getD k 0)=lw (O.getD k 0)∧StR r c kk es lw (upd es' (O.getD k 0) rs) (upd lw' (O.getD k 0) (lw (O.getD k 0)++[((kk:Int),fac es r c (O.getD k 0))])) (·∈O.take (k+1)):=by
 have ht:O.take (k+1)=O.take k++[O.getD k 0]:=by rw[List.take_add_one,List.getElem?_eq_getElem hk,gd hk];rfl
 have hno:O.getD k 0∉O.take k:=λhh=>by
  have h1:(O.take k++[O.getD k 0]).Nodup:=by rw[<-ht];exact hO.sublist (List.take_sublist _ _)
  exact(List.nodup_append.1 h1).2.2 _ hh _ (.head _) rfl
 obtain⟨a1,a2⟩:=h.no _ hno
 refine⟨a1,a2,λi hi=>?_,λi hi=>?_⟩
 ·by_cases e:i=O.getD k 0
  ·subst e;rw[aT,aT];exact⟨hm.g,rfl⟩
  rw[aP e,aP e]
  replace hi:i∈O.take (k+1):=hi
  rw[ht] at hi
  exact h.yes i ((List.mem_append.1 hi).resolve_right λhh=>e (List.mem_singleton.1 hh))
 have e:i≠O.getD k 0:=λe=>hi (by show i∈O.take (k+1);rw[ht,e];simp)
 rw[aP e,aP e]
 exact h.no i λhh=>hi (by show i∈O.take (k+1);rw[ht];exact List.mem_append_left _ hh)
set_option maxRecDepth 8000
def wA (O:List Nat):List Int:=O.map λi:Nat=>(i:Int)
theorem aWw {O:List Nat} {k:Nat} (h:k<O.length):((wA O).map iC)[k*1]? =some (iC (O.getD k 0:Nat)):=by
 unfold wA
 rw[Nat.mul_one,List.map_map,List.getElem?_map,List.getElem?_eq_getElem h,gd h];rfl
theorem aCc {O:List Nat}:(wA O).length=O.length:=by unfold wA;simp
theorem xH {O:List Nat} {i:Nat}:(wA O).map iC++[iC (i:Nat)]=(wA (O++[i])).map iC:=by unfold wA;simp
theorem aKa {O:List Nat} {p q:List CV} {k:CV} {l:List Nat} (h:(O++eW (p++k::q)).Perm l):((O++[gB k])++eW (p++q)).Perm l:=by
 refine List.Perm.trans ?_ h
 unfold eW
 rw[List.append_assoc,List.map_append,List.map_append,List.map_cons]
 have h2:(gB k::(List.map gB p++List.map gB q)).Perm (List.map gB p++gB k::List.map gB q):=List.perm_middle.symm
 exact List.Perm.append_left _ h2
abbrev seB (n a:Nat) (x:El) (A:List Int) (pv:Sl EntM) (inv:RatM) (O:List Nat):BL:=[elE 1 2 3 4 n a,elR n x,elL n x,elC n x,elA A,(105,0,[.p 0 0]),(54,0,[aO pv]),(51,0,inv.C),(3,1,(wA O).map iC)]
theorem rR {n a:Nat} {x:El} {A:List Int} {pv:Sl EntM} {inv:RatM} {O:List Nat}:scB 9 (seB n a x A pv inv O):=scB.cons rfl (scB.cons (aZ (aE λ_ _=>rfl)) (scB.cons (aZ (aE λ_ _=>rfl)) (scB.cons (aZ (aE λ_ _=>rfl)) (scB.cons (aZ (cI _)) (scB.cons rfl (scB.cons rfl (scB.cons rfl (scB.cons (aZ (cI _)) scB.nil))))))))
theorem wB {n a:Nat} {x:El} {A:List Int} {pv:Sl EntM} {inv:RatM} {O:List Nat} (f:RatM):scB 10 (seB n a x A pv inv O++[(51,0,f.C)]):=scB.cons rfl (scB.cons (aZ (aE λ_ _=>rfl)) (scB.cons (aZ (aE λ_ _=>rfl)) (scB.cons (aZ (aE λ_ _=>rfl)) (scB.cons (aZ (cI _)) (scB.cons rfl (scB.cons rfl (scB.cons rfl (scB.cons (aZ (cI _)) (scB.cons rfl scB.nil)))))))))
abbrev seG (c kk:Nat) (r0:Nat) (l:Nat):List (Nat×DV):=[(12,.c (.s 8 l)),(44,.c (.hp r0 0)),(9,.c (.f qV [] [(6,0),(5,0)])),(4,.c (.p 5 0)),(10,.c (.p 7 0)),(8,.c (.p 6 0)),(1,.c (iC kk)),(3,.c (iC c))]
theorem ck {α:Type} {a b:α} {l m:List α} (h:a=b) (h':l=m):a::l=b::m:=by rw[h,h']
theorem ElOk.leave {x:El} {n r c:Nat} {es lw:Nat->List En} {used:Nat->Prop} {I:Nat->List CV} (h:ElOk x n es lw used) (hr:r<n) (hI:DI (es r) n r (es r).length x.I I):ElOk (x.maps I) n es lw (λi=>used i∨i=r):=
 ⟨h.row,h.ok,h.low,h.ca,λj hj=>(hI j hj).1 (h.nd j hj),λj hj i=>by
  show i∈eW (I j)↔_
  rw[(hI j hj).2 i,h.mem j hj i,List.take_length]
  constructor
  ·rintro⟨⟨⟨a1,a2⟩,a3⟩,a4⟩
   exact⟨⟨a1,λa=>a.elim a2 λe=>a4 ⟨e,(kN (h.ok r hr).1 _).1 (e▸a3)⟩⟩,a3⟩
  rintro⟨⟨a1,a2⟩,a3⟩
  exact⟨⟨⟨a1,λa=>a2 (.inl a)⟩,a3⟩,λ⟨e,_⟩=>a2 (.inr e)⟩⟩
def bLf:Ord:=.joinX [] [0,2001,2002,3,2004,2005,1006,2007,9] (.alt 8 (.alt 10 (trS [11,1012]) (.alt 11 (trS [10,1012]) .nil)) (.alt 11 (trS [8,10,1012]) .nil))
def bLg:Ord:=.treeX [] [0,2001,2002,3,2004,5,2006,2007,8,2009,2010,1011,2012,13,2014] (trS [15,16,2017,1018])
def bLh:Ord:=.treeX [] [0,2001,2002,3,2004,5,2006,2007,8,2009,2010,1011,12,14] (trS [13,15,2016,1017])
abbrev aSa (c kk l k:Nat):List (Nat×DV):=[(55,.c (iC k)),(53,.c (.s 8 l)),(54,.c (iC l)),(9,.c (.f qV [] [(6,0),(5,0)])),(4,.c (.p 5 0)),(10,.c (.p 7 0)),(8,.c (.p 6 0)),(1,.c (iC kk)),(3,.c (iC c))]
abbrev aWx (c kk l k i:Nat):List (Nat×DV):=(16,.c (.p 9 0))::(15,.c (iC i))::aSa c kk l k
abbrev bEv (c kk l k i:Nat) (g:Sl EntM) (k2:Nat):List (Nat×DV):=(116,.c (iC k2))::(114,.c (aO g))::(115,.c (iC (g.l.length:Nat)))::(15,.c (iC i))::aSa c kk l k
abbrev seY (y:El) (i kk:Nat) (g:Sl EntM) (A':Option Nat) (c':Nat) (f:RatM) (Cc:Nat->Nat) (I:Nat->List CV):El:=⟨upd y.R i g,upd y.LA i A',upd y.Lc i c',upd y.L i (y.L i++[⟨kk,f⟩]),y.CA,Cc,I⟩
abbrev aFh:FuncId:=63
theorem bEw:Ent Tryz.prog aFh:=Ent.of func63 rfl kR
theorem bEx:Tryz.prog.funcs[aFh]? =some Tryz.f63:=func63
theorem bEy (x:El) {n B r c kk:Nat} {A:List Int} {es lw:Nat->List En} {used:Nat->Prop} (h:ElOk x n es lw used) (hn:n<=4096) (hr:r<n) (hu:¬used r) (hc:c<n) (hp:Vm.get (es r) (c:Nat)≠0) (hb:rbM es n B) (hbl:rbM lw n B) (h1:1<=B) (hB:4*B+1<=17179869184) (hkk:kk<=4096) (hlw:∀i,i<n->(lw i).length<=4096):
 CtrF Tryz.prog aFh chL [.c (.p 0 0),.c (iC kk),.c (iC r),.c (iC c)] (chB n A.length x A) [LF n x,CF n x] (λg:El×(Nat->List En)×(Nat->List En)=>⟨.t [],chB n A.length g.1 A,[LF n g.1,CF n g.1],(ElOk g.1 n g.2.1 g.2.2 (λi=>used i∨i=r)∧StR r c kk es lw g.2.1 g.2.2 λi=>(i<n∧¬used i∧i≠r)∧Vm.get (es i) (c:Nat)≠0)∧rbM g.2.1 n (4*B+1)∧rbM g.2.2 n (4*B+1)⟩):=by
 have hrk:=h.row r hr
 have hro:=h.ok r hr
 have hev:=hrk.ev (hb r hr)
 obtain⟨b,hbc⟩:=h.ca c hc
 refine eD gT bEw bEx rfl rfl rfl bL vZ (aA gT mxd ?_)
 refine⟨r,⟨rfl,hr,cA hr⟩,_,cY hr,_,rfl,[6,5,0,1,2,3,4,1001],aHy x (x.R r) (A:=A) (i:=r) hrk hro.1 hro.2 hn h.ca,rfl,rfl,rfl,λI hI=>?_⟩
 replace hI:DI (es r) n r (es r).length x.I I:=hI
 refine⟨[],aPx (x.R r) (c:Nat) hev (hb r hr) hro.1.1 h1 oM,rfl,rfl,rfl,λpg hpg=>⟨[],bCu pg ((Cr.rq hpg (fY hro.1.1 (hb r hr) h1)).le) (fY hro.1.1 (hb r hr) h1) hp,rfl,rfl,rfl,λinv hinv=>?_⟩⟩
 replace hinv:Rq inv (Vm.get (es r) (c:Nat))⁻¹ B:=hinv
 refine⟨c,⟨rfl,hc,cA hc⟩,_,qT hc hbc,1,c,⟨hc,hbc⟩,λr0=>?_⟩
 show Sd _ _ _ _ _ _
 refine bKq tSd 12 3 1 rfl bL rfl ?_
 have cl1:∀{i:Nat},∀c∈(elR n x).2.2,eX i c=false:=λc hc=>dN (aE (λ_ _=>rfl) c hc)
 have cl2:∀{i:Nat},∀c∈(elL n x).2.2,eX i c=false:=λc hc=>dN (aE (λ_ _=>rfl) c hc)
 have cl3:∀{i:Nat},∀c∈(elC n x).2.2,eX i c=false:=λc hc=>dN (aE (λ_ _=>rfl) c hc)
 have cl4:∀{i:Nat},∀c∈A.map iC,eX i c=false:=λc hc=>dN (cI A c hc)
 have hkI:∀i,i∈eW (I c)↔(i<n∧¬used i∧i≠r)∧Vm.get (es i) (c:Nat)≠0:=λi=>by
  rw[(hI c hc).2 i,h.mem c hc i,List.take_length]
  constructor
  ·rintro⟨⟨⟨a1,a2⟩,a3⟩,a4⟩
   exact⟨⟨a1,a2,λe=>a4 ⟨e,(kN hro.1 _).1 hp⟩⟩,a3⟩
  rintro⟨⟨a1,a2,a4⟩,a3⟩
  exact⟨⟨⟨a1,a2⟩,a3⟩,λ⟨e,_⟩=>a4 e⟩
 have hkd:(eW (I c)).Nodup:=(hI c hc).1 (h.nd c hc)
 have hkl:(eW (I c)).length<=n:=lI hkd λi hi=>((hkI i).1 hi).1.1
 refine bV (λ_=>true) (λg:List Nat×(Nat->List CV)×Nat×(Nat->List CV)=>seG c kk r0 g.1.length) (λg=>seB n A.length x A (x.R r) inv g.1) (λg=>[LF n x,CF n (x.maps I),itF r0 g.2.2.2]) (λg=>(g.2.1 1=I c∧g.2.2.1<=x.Cc c∧g.2.2.2 0=[.r none 0 b g.2.2.1 g.2.1])∧(g.1++eW (g.2.1 0)).Perm (eW (I c))∧∀k∈g.2.1 0,k∈I c) (λg=>(g.2.1 0).length) λhM=>⟨bA hM (chg:=λg:List Nat×(Nat->List CV)×Nat×(Nat->List CV)=>seG c kk r0 g.1.length) (bls:=λg=>seB n A.length x A (x.R r) inv g.1) (fls:=λg=>[LF n x,CF n (x.maps I),itF r0 g.2.2.2]) ([],aDk (I c),x.Cc c,λ_=>[.r none 0 b (x.Cc c) (aDk (I c))]) ⟨⟨rfl,Nat.le_refl _,rfl⟩,List.Perm.refl _,λk hk=>hk⟩ rfl ⟨rfl,rfl,rfl,rfl,rfl,rfl,rfl,rfl,rfl⟩ ⟨rfl,rfl,rfl,trivial⟩ ⟨rfl,rfl,rfl,rfl,rfl,rfl,rfl,rfl⟩ bL rR rfl,λ⟨O,gg,st,G⟩ ⟨⟨i1,i2,iG⟩,hO,hg0⟩=>aA gT mxd ⟨2,1,c,b,st,gg,⟨bL,rfl,iG,hc,hbc,i1,i2⟩,λh6=>?_,λp k q h6=>?_⟩⟩
 all_goals
  replace i1:gg 1=I c:=i1
  replace i2:st<=x.Cc c:=i2
  replace iG:G 0=[.r none 0 b st gg]:=iG
  replace hO:(O++eW (gg 0)).Perm (eW (I c)):=hO
  replace hg0:∀k∈gg 0,k∈I c:=hg0
  have hOl:O.length+(gg 0).length<=n:=by
   have:=hO.length_eq
   rw[List.length_append,List.length_map] at this
   omega
 ·have hOk:O.Perm (eW (I c)):=by
   have h7:=hO
   rw[h6] at h7
   simpa[eW] using h7
  have hOm:∀i,i∈O↔(i<n∧¬used i∧i≠r)∧Vm.get (es i) (c:Nat)≠0:=λi=>hOk.mem_iff.trans (hkI i)
  have hOd:O.Nodup:=hOk.nodup_iff.2 hkd
  have hE0:=h.leave (c:=c) hr hI
  refine aA gT mxd ?_
  show Sd _ _ _ _ _ _
  refine bV (λ_=>true) (λg:Nat×El×(Nat->List En)×(Nat->List En)=>aSa c kk O.length g.1) (λg=>seB n A.length g.2.1 A (x.R r) inv O) (λg=>[LF n g.2.1,CF n g.2.1]) (λg=>g.1<=O.length∧ElOk g.2.1 n g.2.2.1 g.2.2.2 (λi=>used i∨i=r)∧StR r c kk es lw g.2.2.1 g.2.2.2 (·∈O.take g.1)∧rbM g.2.2.1 n (4*B+1)∧rbM g.2.2.2 n (4*B+1)) (λg=>O.length-g.1) λhM=>⟨bA hM (chg:=λg:Nat×El×(Nat->List En)×(Nat->List En)=>aSa c kk O.length g.1) (bls:=λg=>seB n A.length g.2.1 A (x.R r) inv O) (fls:=λg=>[LF n g.2.1,CF n g.2.1]) (0,x.maps I,es,lw) ⟨Nat.zero_le _,hE0,⟨λi hi=>absurd hi List.not_mem_nil,λi _=>⟨rfl,rfl⟩⟩,λi hi e he=>(hb i hi e he).le,λi hi e he=>(hbl i hi e he).le⟩ rfl ⟨rfl,rfl,rfl,rfl,rfl,rfl,rfl,rfl,rfl⟩ ⟨rfl,rfl,trivial⟩ ⟨rfl,rfl,rfl,rfl,rfl,rfl,rfl,rfl,rfl⟩ bL rR rfl,λ⟨k,y,es',lw'⟩ ⟨hk,hE,hS,hb',hbl'⟩=>aA gT mxd ⟨λh7=>aA gT mxd ?_,λh7=>aA gT mxd ?_⟩⟩
  all_goals
   replace hk:k<=O.length:=hk
   replace hE:ElOk y n es' lw' (λi=>used i∨i=r):=hE
   replace hS:StR r c kk es lw es' lw' (·∈O.take k):=hS
   replace hb':rbM es' n (4*B+1):=hb'
   replace hbl':rbM lw' n (4*B+1):=hbl'
  ·replace h7:(k:Int)<(O.length:Nat):=h7
   have hkl:k<O.length:=by omega
   obtain⟨i,hi⟩:∃i,i=O.getD k 0:=⟨_,rfl⟩
   have hiO:i∈O:=by rw[hi,gd hkl];exact List.getElem_mem hkl
   obtain⟨⟨hin,hui,hir⟩,hgi⟩:=(hOm i).1 hiO
   have hrO:r∉O.take k:=λhh=>((hOm r).1 (List.mem_of_mem_take hh)).1.2.2 rfl
   obtain⟨er,-⟩:=hS.no r hrO
   have hni:i∉O.take k:=λhh=>by
    have h1:(O.take k++[O.getD k 0]).Nodup:=by
     have ht:O.take (k+1)=O.take k++[O.getD k 0]:=by rw[List.take_add_one,List.getElem?_eq_getElem hkl,gd hkl];rfl
     rw[<-ht];exact hOd.sublist (List.take_sublist _ _)
    exact(List.nodup_append.1 h1).2.2 _ hh _ (by rw[hi];exact .head _) rfl
   obtain⟨ei,el⟩:=hS.no i hni
   have hrow:=hE.row i hin
   rw[ei] at hrow
   have hoi:=h.ok i hin
   have hlo:=hE.low i hin
   rw[el] at hlo
   have hli:=hlw i hin
   have hll:(y.L i).length=(lw i).length:=hlo.ln
   have hci:(cB n λj=>aO (y.R j))[i*1]? =some (aO (y.R i)):=cY hin
   have hci2:(cB n (hdP y.LA y.Lc y.L))[i*1]? =some (.h (y.LA i) (y.L i).length (y.Lc i)):=cY hin
   have rg:=fY hoi.1.1 (hb i hin) h1 (i:=(c:Nat))
   have rv:rb (Vm.get (es r) (c:Nat))⁻¹ B:=hinv.rb h1
   have rf:rb (fac es r c i) (B+B):=gH rg rv
   have cg:=aPx (y.R i) (c:Nat) (hrow.ev (hb i hin)) (hb i hin) hoi.1.1 h1 oM
   have ix1:k*1<((wA O).map iC).length:=by rw[List.length_map,aCc];omega
   refine⟨k,⟨rfl,hkl,ix1⟩,_,(aWw hkl).trans (by rw[<-hi]),?_⟩
   refine⟨bLf,by kernel_rfl,RatM,λf=>⟨aWx c kk O.length k i++[],[],seB n A.length y A (x.R r) inv O++[(51,0,f.C)],[LF n y,CF n y]⟩,λf=>Cr f (fac es r c i),⟨i,⟨rfl,hin,cA hin⟩,_,_,⟨hci,rfl⟩,?_⟩,λf hf=>?_⟩
   ·have cm:∀g:RatM,Cr g (Vm.get (es i) (c:Nat))->Ctr Tryz.prog aPe [] [.a g.C,.a inv.C] [] (jU (fac es r c i)):=λg hg=>vK g inv ((Cr.rq hg rg).le) hinv.le
    exact⟨⟨[],cg,rfl,rfl,rfl,λg hg=>⟨ck rfl (ck rfl (ck rfl (ck (congrArg gK hci) (ck rfl (ck rfl rfl))))),⟨[],cm g hg,rfl,rfl,rfl,λf hf=>⟨ck rfl (ck rfl (ck rfl (ck (congrArg gK hci) (ck rfl (ck rfl rfl))))),ck rfl (ck rfl (ck rfl (ck (congrArg gK hci) (ck rfl (ck rfl rfl))))),bA hM (chg:=λ_:RatM=>aWx c kk O.length k i) (bls:=λf=>seB n A.length y A (x.R r) inv O++[(51,0,f.C)]) (fls:=λ_=>[LF n y,CF n y]) f hf rfl ⟨rfl,rfl,rfl,rfl,rfl,rfl,rfl,rfl,rfl,rfl⟩ ⟨rfl,rfl,trivial⟩ ⟨rfl,rfl,rfl,rfl,rfl,rfl,rfl,rfl,rfl,rfl,rfl⟩ bL (wB f) rfl⟩⟩,ck rfl (ck rfl (ck rfl (ck (congrArg gK hci) (ck rfl (ck rfl rfl))))),[],cm g hg,rfl,rfl,rfl,λf hf=>⟨ck rfl (ck rfl (ck rfl (ck (congrArg gK hci) (ck rfl (ck rfl rfl))))),bA hM (chg:=λ_:RatM=>aWx c kk O.length k i) (bls:=λf=>seB n A.length y A (x.R r) inv O++[(51,0,f.C)]) (fls:=λ_=>[LF n y,CF n y]) f hf rfl ⟨rfl,rfl,rfl,rfl,rfl,rfl,rfl,rfl,rfl,rfl⟩ ⟨rfl,rfl,trivial⟩ ⟨rfl,rfl,rfl,rfl,rfl,rfl,rfl,rfl,rfl,rfl,rfl⟩ bL (wB f) rfl⟩⟩⟩,ck rfl (ck rfl (ck rfl (ck (congrArg gK hci) (ck rfl (ck rfl rfl))))),[],cg,rfl,rfl,rfl,λg hg=>⟨ck rfl (ck rfl (ck rfl (ck (congrArg gK hci) (ck rfl (ck rfl rfl))))),[],cm g hg,rfl,rfl,rfl,λf hf=>⟨ck rfl (ck rfl (ck rfl (ck (congrArg gK hci) (ck rfl (ck rfl rfl))))),bA hM (chg:=λ_:RatM=>aWx c kk O.length k i) (bls:=λf=>seB n A.length y A (x.R r) inv O++[(51,0,f.C)]) (fls:=λ_=>[LF n y,CF n y]) f hf rfl ⟨rfl,rfl,rfl,rfl,rfl,rfl,rfl,rfl,rfl,rfl⟩ ⟨rfl,rfl,trivial⟩ ⟨rfl,rfl,rfl,rfl,rfl,rfl,rfl,rfl,rfl,rfl,rfl⟩ bL (wB f) rfl⟩⟩⟩
   replace hf:Cr f (fac es r c i):=hf
   have hcl:∀c'∈(⟨kk,f⟩:EntM).C,cW c'=true:=λc' hc'=>by
    rcases List.mem_cons.1 hc' with rfl|hc'
    ·rfl
    exact cP _ c' hc'
   refine⟨bLg,by kernel_rfl,i,⟨rfl,hin,cA hin⟩,_,_,⟨hci2,rfl⟩,ck rfl (ck rfl (ck rfl (ck (congrArg gK hci2) (ck rfl (ck rfl (ck rfl (ck rfl rfl))))))),0,i,⟨rfl,hin,rfl,rfl,(dH _).symm,by show(y.L i).length+1<=maxLen;simp only[maxLen];omega,by show((y.L i).length+1)*64<=_;omega,hcl⟩,λA' c'=>⟨ck rfl (ck rfl (ck rfl (ck (congrArg gK hci2) (ck rfl (ck rfl (ck rfl (ck rfl rfl))))))),i,⟨rfl,hin,cA hin⟩,_,vP (e:=⟨kk,f⟩) hin,?_⟩⟩
   refine⟨bLh,by kernel_rfl,i,⟨rfl,hin,cA hin⟩,_,_,⟨hci,rfl⟩,[],bCt f ((Cr.rq hf rf).le),rfl,rfl,rfl,λq hq=>⟨ck rfl (ck rfl (ck rfl (ck rfl (ck (congrArg gK hci) (ck rfl (ck rfl (ck rfl (ck rfl rfl)))))))),[],bDf (y.R i) (x.R r) q (hrow.ev (hb i hin)) hev (hb i hin) (hb r hr) h1 (Cr.rq hq (yZ rf)) (yZ rf) oM hoi.1.1 hro.1.1 (by have:=hoi.2;omega) (by have:=hro.2;omega),rfl,rfl,rfl,λg hg=>⟨ck rfl (ck rfl (ck rfl (ck rfl (ck (congrArg gK hci) (ck rfl (ck rfl (ck rfl (ck rfl rfl)))))))),i,⟨rfl,hin,cA hin⟩,_,fN (c:=aO g) (Q:=λk=>aO (upd y.R i g k)) hin (λj _=>?_),?_⟩⟩⟩
   ·by_cases e:j=i
    ·subst e;rw[if_pos rfl,aT]
    rw[if_neg e,aP e]
   obtain⟨rs,hgr,hm⟩:=hg
   have hv:=aRy hm hoi.1 hro.1
   have hvl:=fS hv
   have hgl:=hgr.ln
   have hci3:(cB n λj=>aO (upd y.R i g j))[i*1]? =some (aO g):=(cY hin).trans (congrArg (λz=>some (aO z)) aT)
   refine⟨_,rfl,[6,5,0,1,2,3,4,1001],aHy (seY y i kk g A' c' f y.Cc y.I) (x.R r) (A:=A) (i:=i) hrk hro.1 hro.2 hn hE.ca,rfl,rfl,rfl,λI2 hI2=>?_⟩
   replace hI2:DI (es r) n i (es r).length y.I I2:=hI2
   refine⟨i,⟨rfl,hin,cA hin⟩,_,hci3,?_⟩
   show Sd _ _ _ _ _ _
   refine bV (λ_=>true) (λu:Nat×(Nat->Nat)×(Nat->List CV)=>bEv c kk O.length k i g u.1) (λu=>seB n A.length (seY y i kk g A' c' f u.2.1 u.2.2) A (x.R r) inv O) (λu=>[LF n (seY y i kk g A' c' f u.2.1 u.2.2),CF n (seY y i kk g A' c' f u.2.1 u.2.2)]) (λu=>u.1<=rs.length∧AI rs n i u.1 I2 u.2.2) (λu=>rs.length-u.1) λhM2=>⟨bA hM2 (chg:=λu:Nat×(Nat->Nat)×(Nat->List CV)=>bEv c kk O.length k i g u.1) (bls:=λu=>seB n A.length (seY y i kk g A' c' f u.2.1 u.2.2) A (x.R r) inv O) (fls:=λu=>[LF n (seY y i kk g A' c' f u.2.1 u.2.2),CF n (seY y i kk g A' c' f u.2.1 u.2.2)]) (0,y.Cc,I2) ⟨Nat.zero_le _,AI.start⟩ rfl ⟨rfl,rfl,rfl,rfl,rfl,rfl,rfl,rfl,rfl⟩ ⟨zJ (T:=65) (n:=n) (A:=upd y.LA i A') (cap:=upd y.Lc i c') (G:=y.L) (j:=i) (e:=⟨kk,f⟩),rfl,trivial⟩ ⟨rfl,rfl,rfl,rfl,rfl,rfl,rfl,rfl,rfl,rfl,rfl,rfl,rfl⟩ bL rR rfl,λ⟨k2,Cc,I3⟩ ⟨hk2,hA⟩=>aA gT mxd ⟨λh8=>aA gT mxd ?_,λh8=>aA gT mxd ?_⟩⟩
   all_goals
    replace hk2:k2<=rs.length:=hk2
    replace hA:AI rs n i k2 I2 I3:=hA
   ·have hk2l:k2<rs.length:=by replace h8:(k2:Int)<(g.l.length:Nat):=h8;omega
    have he:=hgr.e k2 hk2l
    have e0:=hv.2 _ (dW hk2l)
    obtain⟨j0,hj0⟩:∃j0:Nat,(rs.getD k2 default).1=(j0:Nat):=⟨(rs.getD k2 default).1.toNat,by omega⟩
    have hjn:j0<n:=by omega
    have hix:(g.l.getD k2 default).ix=(j0:Nat):=he.1.trans hj0
    obtain⟨bb,hbj⟩:=hE.ca j0 hjn
    refine⟨k2,⟨rfl,show k2<g.l.length by omega⟩,oLv,by kernel_rfl,j0,⟨hix,hjn,cA hjn⟩,_,_,⟨qT hjn hbj,rfl⟩,1,j0,i,⟨hjn,hbj,rfl⟩,(k2+1:Nat),wi,?_⟩
    exact bA hM2 (chg:=λu:Nat×(Nat->Nat)×(Nat->List CV)=>bEv c kk O.length k i g u.1) (bls:=λu=>seB n A.length (seY y i kk g A' c' f u.2.1 u.2.2) A (x.R r) inv O) (fls:=λu=>[LF n (seY y i kk g A' c' f u.2.1 u.2.2),CF n (seY y i kk g A' c' f u.2.1 u.2.2)]) (k2+1,upd Cc j0 (nB (I3 j0) (Cc j0) i).2,upd I3 j0 (nB (I3 j0) (Cc j0) i).1) ⟨⟨hk2l,hA.next hk2l hj0⟩,show rs.length-(k2+1)<rs.length-k2 by omega⟩ rfl ⟨rfl,rfl,rfl,rfl,rfl,rfl,rfl,rfl,rfl⟩ ⟨rfl,rfl,trivial⟩ ⟨rfl,rfl,rfl,rfl,rfl,rfl,rfl,rfl,rfl,rfl,rfl,rfl,rfl⟩ bL rR rfl
   obtain rfl:k2=rs.length:=by replace h8:¬(k2:Int)<(g.l.length:Nat):=h8;omega
   have hSn:=hS.next hkl hOd (rs:=rs) (by rw[<-hi];exact hm)
   rw[<-hi] at hSn
   obtain⟨-,-,hS2⟩:=hSn
   have hE2:=aRz (c:=c) (kk:=kk) (LA':=A') (Lc':=c') (Cc':=Cc) (e:=⟨kk,f⟩) (z:=((kk:Int),fac es r c i)) hE hr hin (λhh=>hh.elim hui hir) hgr (by rw[ei,er];exact hm) rfl hf (by rw[er];exact hI2) hA
   rw[el] at hE2
   have hbr:=bLe hm hoi.1.1 hro.1.1 h1 (hb i hin) (hb r hr) (yZ rf)
   refine⟨(k+1:Nat),wi,bA hM (chg:=λg:Nat×El×(Nat->List En)×(Nat->List En)=>aSa c kk O.length g.1) (bls:=λg=>seB n A.length g.2.1 A (x.R r) inv O) (fls:=λg=>[LF n g.2.1,CF n g.2.1]) (k+1,seY y i kk g A' c' f Cc I3,upd es' i rs,upd lw' i (lw i++[((kk:Int),fac es r c i)])) ⟨⟨hkl,hE2,hS2,λj hj=>?_,λj hj=>?_⟩,show O.length-(k+1)<O.length-k by omega⟩ rfl ⟨rfl,rfl,rfl,rfl,rfl,rfl,rfl,rfl,rfl⟩ ⟨rfl,rfl,trivial⟩ ⟨rfl,rfl,rfl,rfl,rfl,rfl,rfl,rfl,rfl⟩ bL rR rfl⟩
   ·show rbE (upd es' i rs j) _
    by_cases e:j=i
    ·subst e;rw[aT];exact λe' he'=>(hbr e' he').le
    rw[aP e];exact hb' j hj
   show rbE (upd lw' i _ j) _
   by_cases e:j=i
   ·subst e
    rw[aT]
    intro e' he'
    rcases List.mem_append.1 he' with he'|he'
    ·exact(hbl j hin e' he').le
    rw[List.mem_singleton.1 he'];exact rf.le
   rw[aP e];exact hbl' j hj
  replace h7:¬(k:Int)<(O.length:Nat):=h7
  obtain rfl:k=O.length:=by omega
  rw[List.take_length] at hS
  exact⟨(y,es',lw'),⟨⟨hE,λi hi=>hS.yes i ((hOm i).2 hi),λi hi=>hS.no i λhh=>hi ((hOm i).1 hh)⟩,hb',hbl'⟩,dG rfl ⟨rfl,rfl,rfl,rfl,rfl⟩ ⟨rfl,rfl,trivial⟩ bL aFd rfl vZ⟩
 have hG':upd G 0 [CV.r none 0 b (x.Cc c) (qD p q (I c) k)] 0=[CV.r none 0 b (x.Cc c) (qD p q (I c) k)]:=aT
 have hk:k∈I c:=hg0 k (by rw[h6];exact List.mem_append_right _ (.head _))
 have hmea:(p++q).length<(gg 0).length:=by rw[h6];simp
 refine⟨2,1,c,b,k,qD p q (I c) k,⟨bL,rfl,hG',hc,hbc,rfl,hk⟩,?_⟩
 have m8:∀{i:Nat},∀c∈(wA O).map iC++[iC (gB k:Nat)],eX i c=false:=λc hc=>by rw[xH] at hc;exact dN (cI _ c hc)
 have l8:O.length*1=((wA O).map iC).length:=by rw[List.length_map,aCc];omega
 refine⟨⟨rfl,l8,by show O.length+1<=maxLen;simp only[maxLen];omega,by show(O.length+1)*8<=_;omega,m8⟩,cl1,cl2,cl3,cl4,aVw,?_⟩
 exact bA hM (chg:=λg:List Nat×(Nat->List CV)×Nat×(Nat->List CV)=>seG c kk r0 g.1.length) (bls:=λg=>seB n A.length x A (x.R r) inv g.1) (fls:=λg=>[LF n x,CF n (x.maps I),itF r0 g.2.2.2]) (O++[gB k],qD p q (I c) k,x.Cc c,upd G 0 [.r none 0 b (x.Cc c) (qD p q (I c) k)]) ⟨⟨⟨rfl,Nat.le_refl _,hG'⟩,aKa (h6▸hO),λk' hk'=>hg0 k' (by
  rw[h6]
  rcases List.mem_append.1 hk' with hh|hh
  ·exact List.mem_append_left _ hh
  exact List.mem_append_right _ (.tail _ hh))⟩,hmea⟩ rfl ⟨rfl,rfl,rfl,rfl,rfl,rfl,rfl,rfl,congrArg (λl:List CV=>((3,1,l):TypeId×Nat×List CV)) xH⟩ ⟨rfl,rfl,rfl,trivial⟩ ⟨by show O.length+1=(O++[gB k]).length;simp,rfl,rfl,rfl,rfl,rfl,rfl,rfl⟩ bL rR rfl
section bits
open Go.RowKit Go.Shelf
def bPt:Ren:=⟨λn=>if n=125 then 139 else if n=128 then 165 else if n=129 then 166 else 0,λn=>if n=3 then 3 else if n=4 then 4 else if n=5 then 5 else if n=9 then 9 else if n=46 then 161 else if n=51 then 131 else if n=53 then 82 else 0,λx=>x⟩
theorem aWy:Lays.n125 Tryz.prog bPt:=by
 constructor<;>first|kernel_rfl|(intro w;kernel_rfl)
end bits
theorem aSb (ys:List EntM):ecs ys=fl EntM.C default ys:=by
 have h:∀n,n<=ys.length->ecs (ys.take n)=flatR n λj=>(ys.getD j default).C:=λn=>by
  induction n with
  |zero=>intro _;rfl
  |succ n ih=>
   intro h
   rw[dK,<-ih oM,List.take_add_one,List.getElem?_eq_getElem h,gd h]
   exact(iQ _ _).symm
 have h2:=h ys.length (Nat.le_refl _)
 rw[List.take_length] at h2
 exact h2
theorem aHz {ys:List EntM} {k:Nat} {e:EntM} (h:k<ys.length):fG (ecs ys) (k*4) e.C=ecs (ys.set k e)∧k*4+e.C.length<=(ecs ys).length:=by
 rw[aSb,aSb]
 exact aHw (f:=EntM.C) (e:=4) (λ_=>rfl) h
theorem wD {ys:List EntM} {k:Nat} (h:k<ys.length):((ecs ys).drop (k*4)).take 4=(ys.getD k default).C∧(ys.getD k default).C.length=4:=⟨(jQ ys k h).symm,rfl⟩
theorem nP {ys:List EntM} {k:Nat} (h:k<ys.length):k*4<(ecs ys).length:=by rw[dH];omega
def SrE (ys:List EntM) (m:Nat):Prop:=∀a b,a<b->b<m->(ys.getD a default).ix<=(ys.getD b default).ix
def SwE (ys:List EntM) (j:Nat):List EntM:=(ys.set j (ys.getD (j-1) default)).set (j-1) (ys.getD j default)
theorem aIa {ys:List EntM} {j k:Nat} (h:j<ys.length):(SwE ys j).getD k default=if k=j-1 then ys.getD j default else if k=j then ys.getD (j-1) default else ys.getD k default:=by
 unfold SwE
 simp only[List.getD_eq_getElem?_getD,List.getElem?_set,List.length_set]
 by_cases h1:k=j-1
 ·subst h1;rw[if_pos rfl,if_pos rfl,if_pos oM];rfl
 rw[if_neg h1,if_neg (Ne.symm h1)]
 by_cases h2:k=j
 ·subst h2;rw[if_pos rfl,if_pos rfl,if_pos h];rfl
 rw[if_neg h2,if_neg (Ne.symm h2)]
theorem bEz {ys:List EntM} {j:Nat}:(SwE ys j).length=ys.length:=by unfold SwE;rw[List.length_set,List.length_set]
theorem aWz {ys:List EntM} {j:Nat} (h:j<ys.length):(SwE ys j).Perm ys:=by
 unfold SwE
 have h1:j-1<ys.length:=by omega
 rw[gd h,gd h1]
 exact List.set_set_perm h h1
def SnE (ys:List EntM) (i j:Nat):Prop:=(∀a b,a<b->b<=i->a≠j->b≠j->(ys.getD a default).ix<=(ys.getD b default).ix)∧∀b,j<b->b<=i->(ys.getD j default).ix<(ys.getD b default).ix
theorem SnE.start {ys:List EntM} {i:Nat} (h:SrE ys i):SnE ys i i:=⟨λa b h1 h2 _ h4=>h a b h1 oM,λb h1 h2=>by omega⟩
theorem SnE.stop {ys:List EntM} {i j:Nat} (h:SnE ys i j) (he:¬(0<j∧(ys.getD j default).ix<(ys.getD (j-1) default).ix)):SrE ys (i+1):=λa b h1 h2=>by
 by_cases ha:a=j
 ·subst ha;exact Int.le_of_lt (h.2 b h1 oM)
 by_cases hb:b=j
 ·subst hb
  have h3:(ys.getD (b-1) default).ix<=(ys.getD b default).ix:=Int.not_lt.1 λhh=>he ⟨by omega,hh⟩
  by_cases h4:a=b-1
  ·subst h4;exact h3
  exact Int.le_trans (h.1 a (b-1) oM oM ha oM) h3
 exact h.1 a b h1 oM ha hb
theorem SnE.next {ys:List EntM} {i j:Nat} (h:SnE ys i j) (hi:i<ys.length) (hj:j<=i) (h0:0<j) (he:(ys.getD j default).ix<(ys.getD (j-1) default).ix):SnE (SwE ys j) i (j-1):=by
 have hjl:j<ys.length:=by omega
 refine⟨λa b h1 h2 h3 h4=>?_,λb h1 h2=>?_⟩
 ·rw[aIa hjl,aIa hjl,if_neg h3,if_neg h4]
  by_cases ha:a=j
  ·rw[if_pos ha,if_neg oM]
   exact h.1 (j-1) b oM h2 oM oM
  rw[if_neg ha]
  by_cases hb:b=j
  ·rw[if_pos hb];exact h.1 a (j-1) oM oM ha oM
  rw[if_neg hb];exact h.1 a b h1 h2 ha hb
 rw[aIa hjl,aIa hjl,if_pos rfl,if_neg oM]
 by_cases hb:b=j
 ·rw[if_pos hb];exact he
 rw[if_neg hb];exact h.2 b oM h2
abbrev aYz:FuncId:=139
theorem bLi:Ent Tryz.prog aYz:=Ent.of func139 rfl kR
theorem bLj {x:Int} (h0:0<=x) (h1:x<=18446744073709551615):Ctr Tryz.prog aYz [] [.c (.v (.int .u64 x))] [] (λ_:Unit=>⟨.c (iC (Go.Lib.bitLen x.toNat:Nat)),[],True⟩):=by
 refine⟨bLi,ClB.nil,λρ w vals hv hD hF=>?_⟩
 match vals,hv with
 |[v1],⟨h2,_⟩=>
  have e1:=h2.inv_c.inv_v
  subst e1
  exact(Go.Proofs.Any.bits_Len aWy x w h0 h1).mono λe w' ⟨he,hw⟩=>⟨_,he,vL hD hF (hw▸Ext.refl w) rfl⟩
def cmE (x y:Int):Int:=if x<y then-1 else if y<x then 1 else 0
theorem aSc {x y:Int}:cmE x y<0↔x<y:=by unfold cmE;split<;>(try split)<;>omega
abbrev bFa:FuncId:=167
theorem bPu:Ent Tryz.prog bFa:=Ent.of func167 rfl kR
theorem bPv:Tryz.prog.funcs[bFa]? =some Tryz.f167:=func167
theorem aZa (x:Int):Ctr Tryz.prog bFa [] [.c (iC x)] [] (λ_:Unit=>⟨pC False,[],True⟩):=by
 refine aX gT bPu bPv rfl rfl rfl bL ClB.nil (aA gT mxd ⟨(),trivial,aN (show(x≠x↔False) from ⟨λh=>h rfl,λh=>h.elim⟩) rfl trivial⟩)
abbrev bFb:FuncId:=140
theorem bPw:Ent Tryz.prog bFb:=Ent.of func140 rfl kR
theorem bPx:Tryz.prog.funcs[bFb]? =some Tryz.f140:=func140
theorem bLk (x y:Int):Ctr Tryz.prog bFb [] [.c (iC x),.c (iC y)] [] (λ_:Unit=>⟨.c (iC (cmE x y)),[],True⟩):=by
 refine aX gT bPw bPx rfl rfl rfl bL ClB.nil (aA gT mxd ⟨[],aZa x,rfl,rfl,rfl,λ_ _=>⟨[],aZa y,rfl,rfl,rfl,λ_ _=>⟨λh=>absurd h id,λ_=>aA gT mxd ⟨λh=>absurd h id,λ_=>aA gT mxd ⟨λh1=>aA gT mxd ?_,λh1=>aA gT mxd ⟨λh2=>aA gT mxd ?_,λh2=>aA gT mxd ?_⟩⟩⟩⟩⟩⟩)
 ·replace h1:x<y:=h1
  exact⟨(),trivial,aN (show-1=cmE x y by unfold cmE;rw[if_pos h1]) rfl trivial⟩
 ·replace h1:¬x<y:=h1
  replace h2:y<x:=h2
  exact⟨(),trivial,aN (show 1=cmE x y by unfold cmE;rw[if_neg h1,if_pos h2]) rfl trivial⟩
 replace h1:¬x<y:=h1
 replace h2:¬y<x:=h2
 exact⟨(),trivial,aN (show 0=cmE x y by unfold cmE;rw[if_neg h1,if_neg h2]) rfl trivial⟩
abbrev fBy:FuncId:=114
theorem eBy:Ent Tryz.prog fBy:=Ent.of func114 rfl kR
theorem bBy:Tryz.prog.funcs[fBy]? =some Tryz.f114:=func114
theorem bPy (e f:EntM):Ctr Tryz.prog fBy [] [.a e.C,.a f.C] [] (λ_:Unit=>⟨.c (iC (cmE e.ix f.ix)),[],True⟩):=by
 refine aX gT eBy bBy rfl rfl rfl bL ClB.nil (aA gT mxd ⟨[],bLk e.ix f.ix,rfl,rfl,rfl,λ_ _=>⟨(),trivial,aN rfl rfl trivial⟩⟩)
abbrev isG (n i:Nat):List (Nat×DV):=[(8,.c (iC i)),(0,.c (.s 0 n)),(1,.c (iC (0:Nat))),(2,.c (iC n)),(3,.c (.f fBy [] []))]
abbrev isB (ys:List EntM):BL:=[(65,4,ecs ys)]
theorem iV {ys:List EntM}:scB 1 (isB ys):=scB.cons (fA _) scB.nil
abbrev bFc:FuncId:=157
theorem bPz:Ent Tryz.prog bFc:=Ent.of func157 rfl kR
theorem bQa:Tryz.prog.funcs[bFc]? =some Tryz.f157:=func157
theorem bLl (ys:List EntM) (hn:ys.length<=4096):CtrF Tryz.prog bFc [true] [.c (.s 0 ys.length),.c (iC (0:Nat)),.c (iC (ys.length:Nat)),.c (.f fBy [] [])] (isB ys) [] (λzs:List EntM=>⟨.t [],isB zs,[],zs.Perm ys∧SrE zs ys.length⟩):=by
 refine eD gT bPz bQa rfl rfl rfl bL (vN (dM ys)) (aA gT mxd ⟨(1:Nat),by rfl,?_⟩)
 show Sd _ _ _ _ _ _
 refine bV (λ_=>true) (λg:Nat×List EntM=>isG ys.length g.1) (λg=>isB g.2) (λ_=>[]) (λg=>(g.1<=ys.length∨g.1=1)∧g.2.length=ys.length∧g.2.Perm ys∧SrE g.2 g.1) (λg=>ys.length+1-g.1) λhM=>⟨bA hM (chg:=λg:Nat×List EntM=>isG ys.length g.1) (bls:=λg=>isB g.2) (fls:=λ_=>[]) (1,ys) ⟨.inr rfl,rfl,List.Perm.refl _,λa b h1 h2=>by have h3:b<1:=h2;omega⟩ rfl rfl trivial ⟨rfl,rfl,rfl,rfl,rfl⟩ bL iV rfl,λ⟨i,xs⟩ ⟨hi,hl,hp,hs⟩=>aA gT mxd ⟨λh2=>aA gT mxd ?_,λh2=>aA gT mxd ?_⟩⟩
 all_goals
  replace hi:i<=ys.length∨i=1:=hi
  replace hl:xs.length=ys.length:=hl
  replace hp:xs.Perm ys:=hp
  replace hs:SrE xs i:=hs
 ·replace h2:(i:Int)<(ys.length:Nat):=h2
  have hin:i<ys.length:=by omega
  show Sd _ _ _ _ _ _
  refine bV (λ_=>true) (λg:Nat×List EntM=>(9,.c (iC g.1))::isG ys.length i) (λg=>isB g.2) (λ_=>[]) (λg=>g.1<=i∧g.2.length=ys.length∧g.2.Perm ys∧SnE g.2 i g.1) (λg=>g.1) λhM2=>⟨bA hM2 (chg:=λg:Nat×List EntM=>(9,.c (iC g.1))::isG ys.length i) (bls:=λg=>isB g.2) (fls:=λ_=>[]) (i,xs) ⟨Nat.le_refl _,hl,hp,SnE.start hs⟩ rfl rfl trivial ⟨rfl,rfl,rfl,rfl,rfl,rfl⟩ bL iV rfl,λ⟨j,zs⟩ ⟨hj,hzl,hzp,hz⟩=>aA gT mxd ?_⟩
  replace hj:j<=i:=hj
  replace hzl:zs.length=ys.length:=hzl
  replace hzp:zs.Perm ys:=hzp
  replace hz:SnE zs i j:=hz
  have hjl:j<zs.length:=by omega
  have hjl1:j-1<zs.length:=by omega
  refine⟨.seq (sq 14 (List.range 17)),by kernel_rfl,?_⟩
  have hjy:j<ys.length:=by omega
  have hj1:0<j->((j-1:Nat):Int)=(j:Int)-1:=λhq=>by omega
  refine⟨j,λhq=>⟨rfl,hjy,nP hjl⟩,(zs.getD j default).C,λhq=>wD hjl,(j-1:Nat),λhq=>?_,j-1,λhq=>⟨rfl,by omega,nP hjl1⟩,(zs.getD (j-1) default).C,λhq=>wD hjl1,λhq=>⟨[],bPy (zs.getD j default) (zs.getD (j-1) default),rfl,rfl,rfl,λ_ _=>⟨λh3=>aA gT mxd ?_,λh3=>aA gT mxd ?_⟩⟩,λhq=>?_⟩
  ·replace hq:((0:Nat):Int)<(j:Nat):=hq
   exact wi (by show((j-1:Nat):Int)=(j:Int)-1∧-9223372036854775808<=(j:Int)-1∧(j:Int)-1<=9223372036854775807;omega)
  ·replace hq:((0:Nat):Int)<(j:Nat):=hq
   have h0:0<j:=by omega
   have hlt:=aSc.1 h3
   have hjs:j-1<(zs.set j (zs.getD (j-1) default)).length:=by rw[List.length_set];omega
   refine⟨.seq ((List.range 18).map λi=>(i,i==15||i==17)),by kernel_rfl,(j-1:Nat),?_,(j-1:Nat),?_,j-1,⟨rfl,by omega,nP hjl1⟩,_,wD hjl1,j,⟨rfl,hjy,nP hjl⟩,_,wD hjl,j,⟨rfl,hjy,nP hjl⟩,_,aHz hjl,j-1,⟨rfl,by omega,nP hjs⟩,_,aHz hjs,(j-1:Nat),?_,?_⟩
   ·exact wi (by show((j-1:Nat):Int)=(j:Int)-1∧-9223372036854775808<=(j:Int)-1∧(j:Int)-1<=9223372036854775807;omega)
   ·exact wi (by show((j-1:Nat):Int)=(j:Int)-1∧-9223372036854775808<=(j:Int)-1∧(j:Int)-1<=9223372036854775807;omega)
   ·exact wi (by show((j-1:Nat):Int)=(j:Int)-1∧-9223372036854775808<=(j:Int)-1∧(j:Int)-1<=9223372036854775807;omega)
   exact bA hM2 (chg:=λg:Nat×List EntM=>(9,.c (iC g.1))::isG ys.length i) (bls:=λg=>isB g.2) (fls:=λ_=>[]) (j-1,SwE zs j) ⟨⟨show j-1<=i by omega,bEz.trans hzl,(aWz hjl).trans hzp,hz.next oM hj h0 hlt⟩,show j-1<j by omega⟩ rfl rfl trivial ⟨rfl,rfl,rfl,rfl,rfl,rfl⟩ bL iV rfl
  ·replace hq:((0:Nat):Int)<(j:Nat):=hq
   refine⟨(i+1:Nat),wi,bA hM (chg:=λg:Nat×List EntM=>isG ys.length g.1) (bls:=λg=>isB g.2) (fls:=λ_=>[]) (i+1,zs) ⟨⟨.inl hin,hzl,hzp,hz.stop ?_⟩,show ys.length+1-(i+1)<ys.length+1-i by omega⟩ rfl rfl trivial ⟨rfl,rfl,rfl,rfl,rfl⟩ bL iV rfl⟩
   exact λhh=>h3 (aSc.2 hh.2)
  replace hq:¬((0:Nat):Int)<(j:Nat):=hq
  refine⟨(i+1:Nat),wi,bA hM (chg:=λg:Nat×List EntM=>isG ys.length g.1) (bls:=λg=>isB g.2) (fls:=λ_=>[]) (i+1,zs) ⟨⟨.inl hin,hzl,hzp,hz.stop ?_⟩,show ys.length+1-(i+1)<ys.length+1-i by omega⟩ rfl rfl trivial ⟨rfl,rfl,rfl,rfl,rfl⟩ bL iV rfl⟩
  exact λhh=>hq oM
 replace h2:¬(i:Int)<(ys.length:Nat):=h2
 exact⟨xs,⟨hp,λa b h3 h4=>hs a b h3 oM⟩,dG rfl rfl trivial bL iV rfl (vN (dM xs))⟩
abbrev pqG (n:Nat):List (Nat×DV):=[(0,.c (.s 0 n)),(1,.c (iC (0:Nat))),(2,.c (iC n)),(4,.c (.f fBy [] []))]
abbrev bFd:FuncId:=138
theorem bQb:Ent Tryz.prog bFd:=Ent.of func138 rfl kR
theorem bQc:Tryz.prog.funcs[bFd]? =some Tryz.f138:=func138
theorem bLm (ys:List EntM) (m:Nat) (hn:ys.length<=12):CtrF Tryz.prog bFd [true] [.c (.s 0 ys.length),.c (iC (0:Nat)),.c (iC (ys.length:Nat)),.c (iC m),.c (.f fBy [] [])] (isB ys) [] (λzs:List EntM=>⟨.t [],isB zs,[],zs.Perm ys∧SrE zs ys.length⟩):=by
 refine eD gT bQb bQc rfl rfl rfl bL (vN (dM ys)) (aA gT mxd ?_)
 show Sd _ _ _ _ _ _
 refine bV (λ_=>true) (λ_:Unit=>pqG ys.length) (λ_=>isB ys) (λ_=>[]) (λ_=>True) (λ_=>0) λhM=>⟨bA hM (chg:=λ_:Unit=>pqG ys.length) (bls:=λ_=>isB ys) (fls:=λ_=>[]) () trivial rfl rfl trivial ⟨rfl,rfl,rfl,rfl⟩ bL iV rfl,λ_ _=>aA gT mxd ⟨(ys.length:Nat),?_,⟨λh2=>aA gT mxd ?_,λh2=>aA gT mxd ?_⟩⟩⟩
 ·exact wi (by show((ys.length:Nat):Int)=(ys.length:Nat)-((0:Nat):Int)∧-9223372036854775808<=((ys.length:Nat):Int)-((0:Nat):Int)∧((ys.length:Nat):Int)-((0:Nat):Int)<=9223372036854775807;omega)
 ·exact⟨none,[0],bLl ys oM,rfl,rfl,rfl,λzs hz=>⟨zs,hz,dG rfl rfl trivial bL iV rfl (vN (dM zs))⟩⟩
 replace h2:¬((ys.length:Nat):Int)<=12:=h2
 omega
abbrev bFe:FuncId:=113
theorem bQd:Ent Tryz.prog bFe:=Ent.of func113 rfl kR
theorem bQe:Tryz.prog.funcs[bFe]? =some Tryz.f113:=func113
theorem bLn (ys:List EntM) {m:Nat} (hm:ys.length=m) (hn:m<=12):CtrF Tryz.prog bFe [true] [.c (.s 0 m),.c (.f fBy [] [])] (isB ys) [] (λzs:List EntM=>⟨.t [],isB zs,[],zs.Perm ys∧SrE zs m⟩):=by
 obtain rfl:=hm
 have hw:IntKind.u64.wrap ((ys.length:Nat):Int)=(ys.length:Nat):=cX oM
 refine eD gT bQd bQe rfl rfl rfl bL (vN (dM ys)) (aA gT mxd ⟨((ys.length:Nat):Int),hw.symm,[],bLj (x:=(ys.length:Nat)) oM oM,rfl,rfl,rfl,λ_ _=>⟨none,[0],bLm ys _ hn,rfl,rfl,rfl,λzs hz=>⟨zs,hz,dG rfl rfl trivial bL iV rfl (vN (dM zs))⟩⟩⟩)
structure PmL (p:List Int) (n:Nat):Prop where
 ln:p.length=n
 at':∀i,i<n->∃m:Nat,p.getD i 0=(m:Nat)∧m<n
 inj:∀i j,i<n->j<n->p.getD i 0=p.getD j 0->i=j
def bw (s:Nat->Bool):Nat->CV:=λj=>bif s j then .v (.bool true) else jO (.bool false)
theorem bFf {s:Nat->Bool} (n j:Nat) (_:j<n):cW (bw s j)=true:=by unfold bw;cases s j<;>rfl
theorem aSd {s:Nat->Bool} {n j:Nat} (h:j<n):fG (cB n (bw s)) (j*1) [.v (.bool true)]=cB n (bw (upd s j true))∧j*1+1<=(cB n (bw s)).length:=fN h λi _=>by
 by_cases e:i=j
 ·subst e;rw[if_pos rfl];unfold bw;rw[aT];rfl
 rw[if_neg e];unfold bw;rw[aP e]
def SnP (p:List Int) (k:Nat) (s:Nat->Bool):Prop:=∀j,s j=true->∃i,i<k∧p.getD i 0=(j:Nat)
theorem SnP.next {p:List Int} {k m:Nat} {s:Nat->Bool} (h:SnP p k s) (hm:p.getD k 0=(m:Nat)):SnP p (k+1) (upd s m true):=λj hj=>by
 by_cases e:j=m
 ·subst e;exact⟨k,Nat.lt_succ_self _,hm⟩
 rw[aP e] at hj
 obtain⟨i,h1,h2⟩:=h j hj
 exact⟨i,by omega,h2⟩
theorem SnP.not {p:List Int} {k m n:Nat} {s:Nat->Bool} (h:SnP p k s) (hp:PmL p n) (hk:k<n) (hm:p.getD k 0=(m:Nat)):s m=false:=by
 cases e:s m with
 |false=>rfl
 |true=>
  obtain⟨i,h1,h2⟩:=h m e
  have:=hp.inj i k oM hk (h2.trans hm.symm)
  omega
abbrev ipG (g:Sl Int) (n k:Nat):List (Nat×DV):=[(11,.c (iC k)),(9,.c (dO g)),(10,.c (iC n)),(0,.c (dO g)),(3,.c (.s 0 n))]
abbrev ipB (n:Nat) (s:Nat->Bool):BL:=[(4,1,cB n (bw s))]
theorem zQ {n:Nat} {s:Nat->Bool}:scB 1 (ipB n s):=scB.cons (aZ (aE (bFf n))) scB.nil
abbrev aSe:FuncId:=112
theorem bLo:Ent Tryz.prog aSe:=Ent.of func112 rfl kR
theorem bLp:Tryz.prog.funcs[aSe]? =some Tryz.f112:=func112
theorem bFg (g:Sl Int) {n:Nat} (hp:PmL g.l n) (hn:n<=4096):Ctr Tryz.prog aSe [] [.c (dO g)] [] (λ_:Unit=>⟨.c (.v (.bool true)),[],True⟩):=by
 obtain rfl:g.l.length=n:=hp.ln
 refine aX gT bLo bLp rfl rfl rfl bL ClB.nil (aA gT mxd ⟨g.l.length,⟨rfl,rfl,by show 1*g.l.length<=_;omega,by simp only[maxLen];omega⟩,?_⟩)
 show Sd _ _ _ _ _ _
 refine eZ tSd 0 (cB g.l.length (bw λ_=>false)) rfl (by rw[bP,List.length_replicate]) (mE λ_ _=>LeC.refl _) ?_
 refine bV (λ_=>true) (λu:Nat×(Nat->Bool)=>ipG g g.l.length u.1) (λu=>ipB g.l.length u.2) (λ_=>[]) (λu=>u.1<=g.l.length∧SnP g.l u.1 u.2) (λu=>g.l.length-u.1) λhM=>⟨bA hM (chg:=λu:Nat×(Nat->Bool)=>ipG g g.l.length u.1) (bls:=λu=>ipB g.l.length u.2) (fls:=λ_=>[]) (0,λ_=>false) ⟨Nat.zero_le _,λj hj=>by cases hj⟩ rfl rfl trivial ⟨rfl,rfl,rfl,rfl,rfl⟩ bL zQ rfl,λ⟨k,s⟩ ⟨hk,hs⟩=>aA gT mxd ⟨λh2=>aA gT mxd ?_,λh2=>aA gT mxd ?_⟩⟩
 all_goals
  replace hk:k<=g.l.length:=hk
  replace hs:SnP g.l k s:=hs
 ·replace h2:(k:Int)<(g.l.length:Nat):=h2
  have hkl:k<g.l.length:=by omega
  obtain⟨m,hm,hmn⟩:=hp.at' k hkl
  have hf:=hs.not hp hkl hm
  have hc:(cB g.l.length (bw s))[m*1]? =some (jO (.bool false)):=(cY hmn).trans (by unfold bw;rw[hf];rfl)
  refine⟨k,⟨rfl,hkl⟩,m,λhq=>⟨hm,hmn,cA hmn⟩,_,λhq=>hc,?_⟩
  refine⟨λh3=>?_,λh3=>aA gT mxd ⟨m,⟨hm,hmn,cA hmn⟩,_,aSd hmn,(k+1:Nat),wi,bA hM (chg:=λu:Nat×(Nat->Bool)=>ipG g g.l.length u.1) (bls:=λu=>ipB g.l.length u.2) (fls:=λ_=>[]) (k+1,upd s m true) ⟨⟨hkl,hs.next hm⟩,show g.l.length-(k+1)<g.l.length-k by omega⟩ rfl rfl trivial ⟨rfl,rfl,rfl,rfl,rfl⟩ bL zQ rfl⟩⟩
  replace h3:(g.l.getD k 0<0∨((g.l.length:Nat):Int)<=g.l.getD k 0)∨(false=true):=h3
  rcases h3 with h3|h3
  ·omega
  cases h3
 exact aA gT mxd ⟨(),trivial,aN rfl rfl trivial⟩
theorem aCd:∀(ys:List EntM) (k:Nat) (z:Int),k<ys.length->fG (ecs ys) (k*4) [iC z]=ecs (ys.set k ⟨z,(ys.getD k default).v⟩)∧k*4+1<=(ecs ys).length
 |[],k,z,h=>absurd h (Nat.not_lt_zero _)
 |e::ys,0,z,h=>⟨rfl,by rw[dH];simp;omega⟩
 |e::ys,k+1,z,h=>by
  obtain⟨h1,h2⟩:=aCd ys k z (by simpa using h)
  refine⟨?_,by rw[dH];simp at h;simp;omega⟩
  show fG (e.C++ecs ys) ((k+1)*4) [iC z]=e.C++ecs (ys.set k ⟨z,(ys.getD k default).v⟩)
  rw[<-h1]
  unfold fG
  have e4:(k+1)*4=e.C.length+k*4:=by rw[Nat.succ_mul,Nat.add_comm];rfl
  rw[e4,List.take_length_add_append,Nat.add_assoc,List.drop_length_add_append,List.append_assoc]
def reE (f:EntM->EntM) (ys:List EntM) (k:Nat):List EntM:=(ys.take k).map f++ys.drop k
theorem aIb {f:EntM->EntM} {ys:List EntM} {k:Nat} (h:k<=ys.length):(reE f ys k).length=ys.length:=by unfold reE;simp;omega
theorem aSf {f:EntM->EntM} {ys:List EntM} {k:Nat} (h:k<ys.length):(reE f ys k).getD k default=ys.getD k default:=by
 unfold reE
 rw[List.getD_eq_getElem?_getD,List.getElem?_append_right (by simp;omega),List.getElem?_drop,List.getD_eq_getElem?_getD]
 simp only[List.length_map,List.length_take]
 congr 2
 omega
theorem aXa {f:EntM->EntM} {ys:List EntM} {k:Nat} (h:k<ys.length):(reE f ys k).set k (f (ys.getD k default))=reE f ys (k+1):=by
 unfold reE
 have h1:((ys.take k).map f).length=k:=by simp;omega
 rw[List.set_append_right _ _ oM,h1,Nat.sub_self,List.drop_eq_getElem_cons h,List.set_cons_zero,List.take_add_one,List.getElem?_eq_getElem h,gd h,List.map_append,List.append_assoc]
 rfl
theorem aXb {f:EntM->EntM} {ys:List EntM}:reE f ys ys.length=ys.map f:=by unfold reE;simp
theorem aXc {ys zs:List EntM} (h:zs.Perm ys):∀{es:List En},Ek ys es->∃rs:List En,Ek zs rs∧rs.Perm es:=by
 have cons:∀{e:EntM} {ys:List EntM} {z:En} {es:List En},Ek (e::ys) (z::es)↔(e.ix=z.1∧Cr e.v z.2)∧Ek ys es:=λ{e ys z es}=>by
  constructor
  ·intro h
   refine⟨h.e 0 (by simp),by simpa using h.ln,λk hk=>h.e (k+1) (by simpa using hk)⟩
  rintro⟨h1,h2⟩
  refine⟨by simpa using h2.ln,λk hk=>?_⟩
  match k,hk with
  |0,_=>exact h1
  |k+1,hk=>exact h2.e k (by simpa using hk)
 induction h with
 |nil=>intro es h;exact⟨es,h,List.Perm.refl _⟩
 |cons e hp ih=>
  intro es h
  match es,h with
  |[],h=>have:=h.ln;simp at this
  |z::es,h=>
   obtain⟨h1,h2⟩:=cons.1 h
   obtain⟨rs,h3,h4⟩:=ih h2
   exact⟨z::rs,cons.2 ⟨h1,h3⟩,h4.cons z⟩
 |swap a b l=>
  intro es h
  match es,h with
  |[],h=>have:=h.ln;simp at this
  |[z],h=>have:=h.ln;simp at this
  |z::z'::es,h=>
   obtain⟨h1,h2⟩:=cons.1 h
   obtain⟨h3,h4⟩:=cons.1 h2
   exact⟨z'::z::es,cons.2 ⟨h3,cons.2 ⟨h1,h4⟩⟩,List.Perm.swap _ _ _⟩
 |trans _ _ ih1 ih2=>
  intro es h
  obtain⟨rs,h1,h2⟩:=ih2 h
  obtain⟨ts,h3,h4⟩:=ih1 h1
  exact⟨ts,h3,h4.trans h2⟩
def rnE (p:List Int) (e:En):En:=(p.getD e.1.toNat 0,e.2)
def rnM (p:List Int) (e:EntM):EntM:=⟨p.getD e.ix.toNat 0,e.v⟩
theorem bFh {ys:List EntM} {es:List En} {p:List Int} (h:Ek ys es):Ek (ys.map (rnM p)) (es.map (rnE p)):=⟨by rw[List.length_map,List.length_map];exact h.ln,λk hk=>by
 rw[List.length_map] at hk
 have hk':k<ys.length:=by rw[h.ln];exact hk
 have h1:=h.e k hk
 rw[gd (by rwa [List.length_map]),gd (by rwa [List.length_map]),List.getElem_map,List.getElem_map,<-gd (d:=default) hk,<-gd (d:=default) hk']
 exact⟨by show p.getD _ 0=p.getD _ 0;rw[h1.1],h1.2⟩⟩
theorem bFi {zs:List EntM} {rs es:List En} {p:List Int} {n:Nat} (hz:Ek zs rs) (hs:SrE zs zs.length) (hp:rs.Perm (es.map (rnE p))) (ho:VOk es (n:Nat)) (hP:PmL p n):Asc rs:=by
 have hnd:(rs.map λe=>e.1).Nodup:=by
  refine((hp.map λe=>e.1).nodup_iff).2 ?_
  rw[List.map_map,List.nodup_iff_pairwise_ne,List.pairwise_map]
  refine ho.1.imp_of_mem λ{a b} ha hb hab he=>?_
  have h1:=ho.2 a ha
  have h2:=ho.2 b hb
  have h3:a.1<b.1:=hab
  have:=hP.inj a.1.toNat b.1.toNat oM oM he
  omega
 refine List.pairwise_iff_getElem.2 λi j hi hj hij=>?_
 have h1:=hs i j hij (by rw[hz.ln];exact hj)
 have hi':=hz.e i hi
 have hj':=hz.e j hj
 rw[hi'.1,hj'.1,gd hi,gd hj] at h1
 have h2:rs[i].1≠rs[j].1:=λe=>by
  have:=(List.nodup_iff_pairwise_ne.1 hnd)
  rw[List.pairwise_map,List.pairwise_iff_getElem] at this
  exact this i j hi hj hij e
 show rs[i].1<rs[j].1
 omega
theorem _root_.Go.Vy.CtrF.clo {P:Program} {q:FuncId} {cl:List Bool} {al:List DV} {fl:List Fam} {σ:Type} {R:σ->OutF} (h:CtrF P q [] al [] fl R) (hc:∀g,(R g).C->ClB cl (R g).bl):CtrF P q cl al [] fl R:=⟨h.ent,λi T es l hi=>(by cases hi),λρ w vals hv hD hF=>(h.run ρ w vals hv hD hF).mono λe w' ⟨v,he,g,ρ',c1,c2,c3,_,c5⟩=>⟨v,he,g,ρ',c1,c2,c3,hc g c1,c5⟩⟩
abbrev bFj:FuncId:=51
theorem bQf:Ent Tryz.prog bFj:=Ent.of func51 rfl kR
theorem bQg:Tryz.prog.funcs[bFj]? =some Tryz.f51:=func51
theorem aXd (x:Sl EntM) {es:List En} {B:Nat} (h:Ev x.l es B) (hb:rbE es B) (h1:1<=B) (hB:B<=17179869184) (ha:Asc es) (hz:uM es) (hn:es.length<=4096):Ctr Tryz.prog bFj [true] [.c (aO x)] [] (λys:List EntM=>⟨.c (.s 0 ys.length),isB ys,Ek ys es⟩):=by
 have hm:=(aQc x cD (es:=es) (fs:=[]) (op:=λa _=>a) (q:=90) h ⟨rfl,λk hk=>absurd hk (Nat.not_lt_zero _)⟩ hb (λe he=>absurd he List.not_mem_nil) h1 ha List.Pairwise.nil hn (Nat.zero_le _) rfl (λa b h _=>h.le hB) (λu v {a b} hu _ _ _=>aYo u v (hu.le hB))).args (al':=[.c (aO x),.c (.v (.slice none 0 0)),.c (.f 90 [] [])]) λρ n w vals hv=>(by
  match vals,hv with
  |[v0,v1,v2],⟨h0,h1,h2,h3⟩=>exact⟨h0,.c (xE ρ n w v1 h1.inv_c),h2,h3⟩)
 replace hm:=hm.clo (cl:=[true]) λys _=>vN (dM ys)
 refine aX gT bQf bQg rfl rfl rfl bL (λi T es l hi=>by cases hi) (aA gT mxd ⟨[],zC x h ha,rfl,rfl,rfl,λ_ _=>⟨[],hm,rfl,rfl,rfl,λg ⟨rs,h2,h3⟩=>⟨g,?_,dU rfl rfl bL iV rfl (vN (dM g))⟩⟩⟩)
 have e:rs=es:=kW rs es h3.a ha h3.z hz h3.g
 rw[<-e];exact h2
abbrev prG (g:Sl Int) (m k:Nat):List (Nat×DV):=[(16,.c (iC k)),(14,.c (.s 0 m)),(15,.c (iC m)),(6,.c (.s 0 m)),(1,.c (dO g))]
abbrev aSg:FuncId:=65
theorem bLq:Ent Tryz.prog aSg:=Ent.of func65 rfl kR
theorem bLr:Tryz.prog.funcs[aSg]? =some Tryz.f65:=func65
theorem bFk (x:Sl EntM) (g:Sl Int) {es:List En} {B n:Nat} (h:Ek x.l es) (hb:rbE es B) (h1:1<=B) (hB:B<=17179869184) (ho:VOk es (n:Nat)) (hn:n<=12) (hg:PmL g.l n):Ctr Tryz.prog aSg [] [.c (aO x),.c (dO g)] [] (λy:Sl EntM=>⟨.t [.c (aO y),.c (.v (.bool true))],[],∃rs,Ek y.l rs∧Asc rs∧rs.Perm (es.map (rnE g.l))⟩):=by
 have hel:es.length<=n:=fS ho
 have hgl:=hg.ln
 refine aX gT bLq bLr rfl rfl rfl bL ClB.nil (aA gT mxd ⟨[],bFg g hg oM,rfl,rfl,rfl,λ_ _=>⟨[],aXd x (h.ev hb) hb h1 hB ho.1 (λe he=>(ho.2 e he).2.2) oM,rfl,rfl,rfl,λys hys=>?_⟩⟩)
 replace hys:Ek ys es:=hys
 have hyl:=hys.ln
 show Sd _ _ _ _ _ _
 refine bV (λ_=>true) (λk:Nat=>prG g ys.length k) (λk=>isB (reE (rnM g.l) ys k)) (λ_=>[]) (λk=>k<=ys.length) (λk=>ys.length-k) λhM=>⟨bA hM (chg:=λk:Nat=>prG g ys.length k) (bls:=λk=>isB (reE (rnM g.l) ys k)) (fls:=λ_=>[]) 0 (Nat.zero_le _) rfl rfl trivial ⟨rfl,rfl,rfl,rfl,rfl⟩ bL iV rfl,λk hk=>aA gT mxd ⟨λh2=>aA gT mxd ?_,λh2=>aA gT mxd ?_⟩⟩
 all_goals
  replace hk:k<=ys.length:=hk
 ·replace h2:(k:Int)<(ys.length:Nat):=h2
  have hkl:k<ys.length:=by omega
  have hr:=aIb (f:=rnM g.l) hk
  have hkr:k<(reE (rnM g.l) ys k).length:=by omega
  have he:=hys.e k oM
  have hv:=ho.2 _ (dW (l:=es) (k:=k) oM)
  obtain⟨m,hm⟩:∃m:Nat,(ys.getD k default).ix=(m:Nat):=⟨(ys.getD k default).ix.toNat,by omega⟩
  have hmn:m<n:=by omega
  refine⟨k,⟨rfl,hkl,nP hkr⟩,_,wD hkr,?_⟩
  rw[aSf hkl]
  refine⟨λh3=>?_,λh3=>aA gT mxd ?_⟩
  ·replace h3:(ys.getD k default).ix<0∨((g.l.length:Nat):Int)<=(ys.getD k default).ix:=h3
   omega
  have hst:fG (ecs (reE (rnM g.l) ys k)) (k*4) [iC (g.l.getD m 0)]=ecs (reE (rnM g.l) ys (k+1))∧k*4+1<=(ecs (reE (rnM g.l) ys k)).length:=by
   obtain⟨e1,e2⟩:=aCd (reE (rnM g.l) ys k) k (g.l.getD m 0) hkr
   refine⟨e1.trans (congrArg ecs ?_),e2⟩
   rw[<-aXa hkl,aSf hkl]
   unfold rnM
   rw[hm]
   rfl
  exact⟨m,⟨hm,by omega⟩,k,⟨rfl,hkl,nP hkr⟩,_,hst,(k+1:Nat),wi,bA hM (chg:=λk:Nat=>prG g ys.length k) (bls:=λk=>isB (reE (rnM g.l) ys k)) (fls:=λ_=>[]) (k+1) ⟨hkl,show ys.length-(k+1)<ys.length-k by omega⟩ rfl rfl trivial ⟨rfl,rfl,rfl,rfl,rfl⟩ bL iV rfl⟩
 replace h2:¬(k:Int)<(ys.length:Nat):=h2
 obtain rfl:k=ys.length:=by omega
 have hr:=aIb (f:=rnM g.l) (Nat.le_refl ys.length)
 show Sd _ _ _ _ _ _
 refine Sd.sq (aA gT mxd ⟨none,[0],bLn _ hr oM,rfl,rfl,rfl,λzs hz=>aDu 6 0 (λj=>(zs.getD j default).C) rfl rfl (λj hj=>?_) ?_ bL (dM zs) bL λA c _ _=>aA gT mxd ?_⟩)
 all_goals
  obtain⟨hz1,hz2⟩:=hz
  have hzl:zs.length=ys.length:=hz1.length_eq.trans hr
 ·exact jQ zs j oM
 ·rw[dH,hzl]
 rw[aXb] at hz1
 obtain⟨rs,r1,r2⟩:=aXc hz1 (bFh hys)
 exact⟨⟨A,c,zs⟩,⟨rs,r1,bFi r1 (hzl▸hz2) r2 ho hg,r2⟩,aN ⟨congrArg (λm=>CV.r A m c 4 λj=>(zs.getD j default).C) hzl.symm,rfl⟩ rfl trivial⟩
def dI (f:Nat->Rat):Nat->Rat
 |0=>0
 |n+1=>dI f n+f n
theorem cR {f g:Nat->Rat}:∀{n:Nat},(∀j,j<n->f j=g j)->dI f n=dI g n
 |0,_=>rfl
 |n+1,h=>by
  show dI f n+f n=dI g n+g n
  rw[cR λj hj=>h j (Nat.lt_succ_of_lt hj),h n (Nat.lt_succ_self n)]
theorem hJ {f g:Nat->Rat} {q:Rat}:∀{n:Nat},dI (λj=>f j+q*g j) n=dI f n+q*dI g n
 |0=>by show(0:Rat)=0+q*0;rw[Rat.mul_zero,Rat.add_zero]
 |n+1=>by
  show dI (λj=>f j+q*g j) n+(f n+q*g n)=dI f n+f n+q*(dI g n+g n)
  rw[hJ];grind
theorem lJ:∀{n:Nat} {f:Nat->Rat},(∀j,j<n->f j=0)->dI f n=0
 |0,_,_=>rfl
 |n+1,f,h=>by
  show dI f n+f n=0
  rw[lJ λj hj=>h j (Nat.lt_succ_of_lt hj),h n (Nat.lt_succ_self n),Rat.add_zero]
theorem qW {f:Nat->Rat} {m:Nat}:∀{n:Nat},m<n->(∀j,j≠m->f j=0)->dI f n=f m
 |0,h,_=>absurd h (Nat.not_lt_zero _)
 |n+1,h,h0=>by
  show dI f n+f n=f m
  by_cases e:m=n
  ·subst e;rw[lJ λj hj=>h0 j oM,Rat.zero_add]
  rw[qW oM h0,h0 n (Ne.symm e),Rat.add_zero]
def dtn (n:Nat) (es:List En) (x:Nat->Rat):Rat:=dI (λj=>Vm.get es (j:Nat)*x j) n
theorem aXe {n:Nat} {rs es fs:List En} {q:Rat} {x:Nat->Rat} (h:∀j:Int,Vm.get rs j=Vm.get es j+q*Vm.get fs j):dtn n rs x=dtn n es x+q*dtn n fs x:=by
 unfold dtn
 rw[<-hJ]
 exact cR λj _=>by rw[h];grind
def dtl:List En->(Nat->Rat)->Rat
 |[],_=>0
 |e::es,x=>e.2*x e.1.toNat+dtl es x
theorem aIc {x:Nat->Rat}:∀{es fs:List En},dtl (es++fs) x=dtl es x+dtl fs x
 |[],fs=>by show dtl fs x=0+dtl fs x;rw[Rat.zero_add]
 |e::es,fs=>by
  show e.2*x e.1.toNat+dtl (es++fs) x=e.2*x e.1.toNat+dtl es x+dtl fs x
  rw[aIc,Rat.add_assoc]
theorem nQ {x:Nat->Rat} {es:List En} {e:En}:dtl (es++[e]) x=dtl es x+e.2*x e.1.toNat:=by
 rw[aIc];show _+(_+(0:Rat))=_;rw[Rat.add_zero]
theorem fT {x y:Nat->Rat}:∀{es:List En},(∀e∈es,x e.1.toNat=y e.1.toNat)->dtl es x=dtl es y
 |[],_=>rfl
 |e::es,h=>by
  show e.2*x e.1.toNat+dtl es x=e.2*y e.1.toNat+dtl es y
  rw[h e (.head _),fT λe' he=>h e' (.tail _ he)]
theorem aSh {x:Nat->Rat} {es fs:List En} (h:es.Perm fs):dtl es x=dtl fs x:=by
 induction h with
 |nil=>rfl
 |cons e _ ih=>show _+_=_+_;rw[ih]
 |swap a b l=>show _+(_+_)=_+(_+_);grind
 |trans _ _ h1 h2=>exact h1.trans h2
theorem gE (e:En) (es:List En) (j:Int):Vm.get (e::es) j=(if e.1=j then e.2 else 0)+Vm.get es j:=by
 rw[show e::es=[e]++es from rfl,gJ]
 congr 1
 by_cases h:e.1=j
 ·subst h;rw[if_pos rfl,eJ (List.pairwise_singleton _ _)]
 rw[if_neg h];exact gA λe' he=>by rw[List.mem_singleton.1 he];exact h
theorem tS {n:Nat} {x:Nat->Rat}:∀{es:List En},(∀e∈es,0<=e.1∧e.1<(n:Nat))->dtl es x=dtn n es x
 |[],_=>(lJ λj _=>by show(0:Rat)*x j=0;rw[Rat.zero_mul]).symm
 |e::es,h=>by
  show e.2*x e.1.toNat+dtl es x=_
  rw[tS λe' he=>h e' (.tail _ he)]
  obtain⟨h1,h2⟩:=h e (.head _)
  have hs:e.2*x e.1.toNat=dI (λj=>(if e.1=(j:Nat) then e.2 else 0)*x j) n:=by
   rw[qW (m:=e.1.toNat) oM λj hj=>by rw[if_neg oM,Rat.zero_mul]]
   rw[if_pos oM]
  rw[hs]
  unfold dtn
  have:=hJ (f:=λj=>(if e.1=(j:Nat) then e.2 else 0)*x j) (g:=λj=>Vm.get es (j:Nat)*x j) (q:=1) (n:=n)
  rw[Rat.one_mul] at this
  rw[<-this]
  exact cR λj _=>by rw[gE];grind
theorem VOk.rg {es:List En} {n:Nat} (h:VOk es (n:Nat)):∀e∈es,0<=e.1∧e.1<(n:Nat):=λe he=>⟨(h.2 e he).1,(h.2 e he).2.1⟩
structure Elim (M:Nat->List En) (n k:Nat) (rw cl:Nat->Nat) (A:List Int) (es lw:Nat->List En):Prop where
 kn:A.length+k=n
 nd:A.Nodup
 mem:∀c:Int,c∈A↔∃j:Nat,c=(j:Nat)∧j<n∧∀i,i<k->cl i≠j
 rlt:∀j,j<k->rw j<n
 rinj:∀i j,i<k->j<k->rw i=rw j->i=j
 clt:∀j,j<k->cl j<n
 cinj:∀i j,i<k->j<k->cl i=cl j->i=j
 piv:∀j,j<k->Vm.get (es (rw j)) (cl j:Nat)≠0
 zl:∀j i,j<i->i<k->Vm.get (es (rw i)) (cl j:Nat)=0
 zu:∀j i,j<k->i<n->(∀t,t<k->rw t≠i)->Vm.get (es i) (cl j:Nat)=0
 lok:∀i,i<n->VOk (lw i) (k:Nat)
 lus:∀j,j<k->VOk (lw (rw j)) (j:Nat)
 sum:∀i,i<n->∀x,dtn n (M i) x=dtn n (es i) x+dtl (lw i) λj=>dtn n (es (rw j)) x
theorem Elim.start (M:Nat->List En) (n:Nat) (rw cl:Nat->Nat):Elim M n 0 rw cl (aL n n) M λ_=>[]:=by
 rw[aRp]
 refine⟨by simp,?_,λc=>?_,λj h=>absurd h (Nat.not_lt_zero _),λi j h=>absurd h (Nat.not_lt_zero _),λj h=>absurd h (Nat.not_lt_zero _),λi j h=>absurd h (Nat.not_lt_zero _),λj h=>absurd h (Nat.not_lt_zero _),λj i _ h=>absurd h (Nat.not_lt_zero _),λj i h=>absurd h (Nat.not_lt_zero _),λi _=>⟨List.Pairwise.nil,λe he=>by cases he⟩,λj h=>absurd h (Nat.not_lt_zero _),λi _ x=>?_⟩
 ·rw[List.nodup_iff_pairwise_ne,List.pairwise_map]
  exact(List.nodup_iff_pairwise_ne.1 List.nodup_range).imp λh e=>h (Int.ofNat.inj e)
 ·rw[List.mem_map]
  constructor
  ·rintro⟨j,hj,rfl⟩;exact⟨j,rfl,List.mem_range.1 hj,λi h=>absurd h (Nat.not_lt_zero _)⟩
  rintro⟨j,rfl,hj,_⟩;exact⟨j,List.mem_range.2 hj,rfl⟩
 show _=_+(0:Rat);rw[Rat.add_zero]
theorem aKb {A:List Int} {p:Nat} {c:Int} (hp:p<A.length) (hc:A.getD p 0=c):A=A.take p++c::A.drop (p+1)∧A.eraseIdx p=A.take p++A.drop (p+1):=by
 refine⟨?_,List.eraseIdx_eq_take_drop_succ A p⟩
 rw[<-hc,gd hp,<-List.drop_eq_getElem_cons hp,List.take_append_drop]
theorem Elim.next {M:Nat->List En} {n k r c p:Nat} {rw cl:Nat->Nat} {A:List Int} {es lw es' lw':Nat->List En} {P:Nat->Prop} (h:Elim M n k rw cl A es lw) (hr:r<n) (hu:∀t,t<k->rw t≠r) (hp:p<A.length) (hc:A.getD p 0=(c:Nat)) (hv:Vm.get (es r) (c:Nat)≠0) (hS:StR r c k es lw es' lw' P) (hP:∀i,P i↔(i<n∧¬(∃t,t<k∧rw t=i)∧i≠r)∧Vm.get (es i) (c:Nat)≠0):Elim M n (k+1) (upd rw k r) (upd cl k c) (A.eraseIdx p) es' lw':=by
 obtain⟨hA1,hA2⟩:=aKb hp hc
 have hcA:(c:Int)∈A:=by rw[hA1];exact List.mem_append_right _ (.head _)
 obtain⟨c',hcc,hcn,hcf⟩:=(h.mem _).1 hcA
 obtain rfl:c=c':=Int.ofNat.inj hcc
 have nr:¬P r:=λhh=>((hP r).1 hh).1.2.2 rfl
 have er:=(hS.no r nr).1
 have nus:∀t,t<k->¬P (rw t):=λt ht hh=>((hP _).1 hh).1.2.1 ⟨t,ht,rfl⟩
 have ur:∀t,t<k->upd rw k r t=rw t:=λt ht=>aP oM
 have uc:∀t,t<k->upd cl k c t=cl t:=λt ht=>aP oM
 have ee:∀t,t<k+1->es' (upd rw k r t)=es (upd rw k r t):=λt ht=>by
  by_cases e:t=k
  ·subst e;rw[aT];exact er
  rw[ur t oM];exact(hS.no _ (nus t oM)).1
 have zr:∀j,j<k->Vm.get (es r) (cl j:Nat)=0:=λj hj=>h.zu j r hj hr hu
 refine⟨?_,?_,λc1=>?_,λj hj=>?_,λi j hi hj he=>?_,λj hj=>?_,λi j hi hj he=>?_,λj hj=>?_,λj i hj hi=>?_,λj i hj hi hn=>?_,λi hi=>?_,λj hj=>?_,λi hi x=>?_⟩
 ·rw[List.length_eraseIdx_of_lt hp];have:=h.kn;omega
 ·exact h.nd.sublist (List.eraseIdx_sublist _ _)
 ·have hnd:=h.nd
  rw[hA1] at hnd
  have hcn':(c:Int)∉A.take p++A.drop (p+1):=λhh=>by
   have:=(List.perm_middle.nodup_iff).1 hnd
   exact(List.nodup_cons.1 this).1 hh
  have hme:c1∈A.eraseIdx p↔c1∈A∧c1≠(c:Nat):=by
   rw[hA2]
   constructor
   ·intro h1
    refine⟨?_,λe=>hcn' (e▸h1)⟩
    rw[hA1]
    rcases List.mem_append.1 h1 with h1|h1
    ·exact List.mem_append_left _ h1
    exact List.mem_append_right _ (.tail _ h1)
   rintro⟨h1,h2⟩
   rw[hA1] at h1
   rcases List.mem_append.1 h1 with h1|h1
   ·exact List.mem_append_left _ h1
   rcases List.mem_cons.1 h1 with h1|h1
   ·exact absurd h1 h2
   exact List.mem_append_right _ h1
  rw[hme,h.mem]
  constructor
  ·rintro⟨⟨j,rfl,h1,h2⟩,h3⟩
   refine⟨j,rfl,h1,λi hi=>?_⟩
   by_cases e:i=k
   ·subst e;rw[aT];exact λe=>h3 (by rw[e])
   rw[uc i oM];exact h2 i oM
  rintro⟨j,rfl,h1,h2⟩
  refine⟨⟨j,rfl,h1,λi hi=>by rw[<-uc i hi];exact h2 i oM⟩,λe=>?_⟩
  have:=h2 k oM
  rw[aT] at this
  exact this (Int.ofNat.inj e).symm
 ·by_cases e:j=k
  ·subst e;rw[aT];exact hr
  rw[ur j oM];exact h.rlt j oM
 ·by_cases e1:i=k
  ·by_cases e2:j=k
   ·omega
   subst e1;rw[aT,ur j oM] at he;exact absurd he.symm (hu j oM)
  by_cases e2:j=k
  ·subst e2;rw[aT,ur i oM] at he;exact absurd he (hu i oM)
  rw[ur i oM,ur j oM] at he;exact h.rinj i j oM oM he
 ·by_cases e:j=k
  ·subst e;rw[aT];exact hcn
  rw[uc j oM];exact h.clt j oM
 ·by_cases e1:i=k
  ·by_cases e2:j=k
   ·omega
   subst e1;rw[aT,uc j oM] at he;exact absurd he.symm (hcf j oM)
  by_cases e2:j=k
  ·subst e2;rw[aT,uc i oM] at he;exact absurd he (hcf i oM)
  rw[uc i oM,uc j oM] at he;exact h.cinj i j oM oM he
 ·rw[ee j hj]
  by_cases e:j=k
  ·subst e;rw[aT,aT];exact hv
  rw[ur j oM,uc j oM];exact h.piv j oM
 ·rw[ee i hi,uc j oM]
  by_cases e:i=k
  ·subst e;rw[aT];exact zr j oM
  rw[ur i oM];exact h.zl j i hj oM
 ·have hnu:∀t,t<k->rw t≠i:=λt ht=>by rw[<-ur t ht];exact hn t oM
  have hnr:i≠r:=λe=>by
   have:=hn k oM
   rw[aT] at this
   exact this e.symm
  by_cases e:j=k
  ·subst e
   rw[aT]
   by_cases hPi:P i
   ·rw[(hS.yes i hPi).1]
    unfold fac
    rw[Rat.neg_mul,Rat.mul_assoc,Rat.inv_mul_cancel _ hv,Rat.mul_one,<-Rat.sub_eq_add_neg,Rat.sub_self]
   rw[(hS.no i hPi).1]
   exact Classical.byContradiction λhh=>hPi ((hP i).2 ⟨⟨hi,λ⟨t,ht,e⟩=>hnu t ht e,hnr⟩,hh⟩)
  rw[uc j oM]
  have h0:=h.zu j i oM hi hnu
  by_cases hPi:P i
  ·rw[(hS.yes i hPi).1,h0,zr j oM,Rat.mul_zero,Rat.add_zero]
  rw[(hS.no i hPi).1];exact h0
 ·have h0:=h.lok i hi
  by_cases hPi:P i
  ·rw[(hS.yes i hPi).2]
   refine⟨List.pairwise_append.2 ⟨h0.1,List.pairwise_singleton _ _,λa ha b hb=>?_⟩,λe he=>?_⟩
   ·rw[List.mem_singleton.1 hb]
    exact(h0.2 a ha).2.1
   rcases List.mem_append.1 he with he|he
   ·have:=h0.2 e he;exact⟨this.1,by omega,this.2.2⟩
   rw[List.mem_singleton.1 he]
   refine⟨by show(0:Int)<=(k:Nat);omega,by show(k:Int)<((k+1:Nat):Int);omega,?_⟩
   show fac es r c i≠0
   unfold fac
   intro hh
   rcases Rat.mul_eq_zero.1 hh with hh|hh
   ·exact((hP i).1 hPi).2 hh
   have h9:=Rat.inv_mul_cancel _ hv
   rw[hh,Rat.zero_mul] at h9
   exact absurd h9 dC
  rw[(hS.no i hPi).2]
  exact⟨h0.1,λe he=>by have:=h0.2 e he;exact⟨this.1,by omega,this.2.2⟩⟩
 ·by_cases e:j=k
  ·subst e
   rw[aT,(hS.no r nr).2]
   exact h.lok r hr
  rw[ur j oM,(hS.no _ (nus j oM)).2];exact h.lus j oM
 have h0:=h.sum i hi x
 have hl:∀l:List En,VOk l (k:Nat)->dtl l (λj=>dtn n (es' (upd rw k r j)) x)=dtl l λj=>dtn n (es (rw j)) x:=λl hl=>fT λe he=>by
  have:=hl.2 e he
  have ht:e.1.toNat<k:=by omega
  show dtn n (es' (upd rw k r e.1.toNat)) x=dtn n (es (rw e.1.toNat)) x
  rw[ee _ oM,ur _ ht]
 by_cases hPi:P i
 ·rw[(hS.yes i hPi).2,nQ,hl _ (h.lok i hi),aXe (hS.yes i hPi).1,h0]
  show _=_+(_+fac es r c i*dtn n (es' (upd rw k r (k:Nat))) x)
  rw[aT,er]
  grind
 rw[(hS.no i hPi).1,(hS.no i hPi).2,hl _ (h.lok i hi),h0]
theorem aId {es:List En} {x:Nat->Rat} {j:Nat} {v:Rat}:∀{n:Nat},j<n->dtn n es (upd x j v)=dtn n es x+Vm.get es (j:Nat)*(v-x j)
 |0,h=>absurd h (Nat.not_lt_zero _)
 |n+1,h=>by
  show dtn n es (upd x j v)+Vm.get es (n:Nat)*upd x j v n=dtn n es x+Vm.get es (n:Nat)*x n+Vm.get es (j:Nat)*(v-x j)
  by_cases e:j=n
  ·subst e
   have h1:dtn j es (upd x j v)=dtn j es x:=cR λi hi=>by rw[aP oM]
   rw[aT,h1];grind
  rw[aId oM,aP (Ne.symm e)];grind
def Ker (M:Nat->List En) (n:Nat):Prop:=∃x:Nat->Rat,(∃i,i<n∧x i≠0)∧∀k,k<n->dtn n (M k) x=0
theorem aZb {x:Nat->Rat}:∀{es:List En},(∀e∈es,x e.1.toNat=0)->dtl es x=0
 |[],_=>rfl
 |e::es,h=>by
  show e.2*x e.1.toNat+dtl es x=0
  rw[h e (.head _),aZb λe' he=>h e' (.tail _ he),Rat.mul_zero,Rat.add_zero]
theorem Elim.ker {M:Nat->List En} {n k c:Nat} {rw cl:Nat->Nat} {A:List Int} {es lw:Nat->List En} (h:Elim M n k rw cl A es lw) (hcA:(c:Int)∈A) (hz:∀i,i<n->(∀t,t<k->rw t≠i)->Vm.get (es i) (c:Nat)=0):Ker M n:=by
 obtain⟨c',hc',hcn,hcf⟩:=(h.mem _).1 hcA
 obtain rfl:c=c':=Int.ofNat.inj hc'
 have key:∀m,m<=k->∃x:Nat->Rat,x c=1∧(∀j,j≠c->(∀t,k-m<=t->t<k->cl t≠j)->x j=0)∧∀t,k-m<=t->t<k->dtn n (es (rw t)) x=0:=λm=>by
  induction m with
  |zero=>exact λ_=>⟨λj=>if j=c then 1 else 0,if_pos rfl,λj hj _=>if_neg hj,λt h1 h2=>by omega⟩
  |succ m ih=>
   intro hm
   obtain⟨x,x1,x2,x3⟩:=ih oM
   obtain⟨t0,ht0⟩:∃t0,t0=k-(m+1):=⟨_,rfl⟩
   have htk:t0<k:=by omega
   have hp:=h.piv t0 htk
   have hcc:=hcf t0 htk
   have hcl:=h.clt t0 htk
   have h0:x (cl t0)=0:=x2 _ hcc λt h1 h2 e=>by
    have:=h.cinj t t0 h2 htk e
    omega
   refine⟨upd x (cl t0) (-(dtn n (es (rw t0)) x/Vm.get (es (rw t0)) (cl t0:Nat))),by rw[aP (Ne.symm hcc)];exact x1,λj hj ht=>?_,λt h1 h2=>?_⟩
   ·rw[aP (Ne.symm (ht t0 oM htk))]
    exact x2 j hj λt h1 h2=>ht t oM h2
   rw[aId hcl,h0]
   by_cases e:t=t0
   ·subst e
    rw[Rat.div_def]
    have h9:=Rat.mul_inv_cancel _ hp
    generalize Vm.get (es (rw t)) (cl t:Nat)=p at h9 hp
    generalize dtn n (es (rw t)) x=D
    have:D+p*(-(D*p⁻¹)-0)=D-D*(p*p⁻¹):=by grind
    rw[this,h9,Rat.mul_one,Rat.sub_self]
   rw[x3 t oM h2,h.zl t0 t oM h2,Rat.zero_mul,Rat.add_zero]
 obtain⟨x,x1,x2,x3⟩:=key k (Nat.le_refl _)
 rw[Nat.sub_self] at x2 x3
 have hE:∀i,i<n->dtn n (es i) x=0:=λi hi=>by
  by_cases hu:∃t,t<k∧rw t=i
  ·obtain⟨t,ht,rfl⟩:=hu
   exact x3 t (Nat.zero_le _) ht
  have hu':∀t,t<k->rw t≠i:=λt ht e=>hu ⟨t,ht,e⟩
  refine lJ λj hj=>?_
  by_cases e:j=c
  ·subst e;rw[hz i hi hu',Rat.zero_mul]
  by_cases hcl:∃t,t<k∧cl t=j
  ·obtain⟨t,ht,rfl⟩:=hcl
   rw[h.zu t i ht hi hu',Rat.zero_mul]
  rw[x2 j e λt _ ht e2=>hcl ⟨t,ht,e2⟩,Rat.mul_zero]
 refine⟨x,⟨c,hcn,by rw[x1];decide⟩,λi hi=>?_⟩
 rw[h.sum i hi x,hE i hi,aZb λe he=>?_,Rat.add_zero]
 have:=(h.lok i hi).2 e he
 exact hE _ (h.rlt _ oM)
theorem aSi {p:List Int} {n c:Nat} (hP:PmL p n) (hc:c<n):∀{es:List En},(∀e∈es,0<=e.1∧e.1<(n:Nat))->Vm.get (es.map (rnE p)) (p.getD c 0)=Vm.get es (c:Nat)
 |[],_=>rfl
 |e::es,h=>by
  rw[List.map_cons,gE,gE,aSi hP hc λe' he=>h e' (.tail _ he)]
  congr 1
  obtain⟨h1,h2⟩:=h e (.head _)
  by_cases hh:e.1=(c:Nat)
  ·rw[if_pos hh,if_pos];rfl
   show p.getD e.1.toNat 0=_
   rw[hh];rfl
  rw[if_neg hh,if_neg]
  intro h3
  have:=hP.inj e.1.toNat c oM hc h3
  omega
theorem aSj {p:List Int} {n:Nat} {cl:Nat->Nat} {x:Nat->Rat} (hcl:∀c,c<n->cl (p.getD c 0).toNat=c):∀{es:List En},(∀e∈es,0<=e.1∧e.1<(n:Nat))->dtl (es.map (rnE p)) (λi=>x (cl i))=dtl es x
 |[],_=>rfl
 |e::es,h=>by
  show e.2*x (cl (p.getD e.1.toNat 0).toNat)+dtl (es.map (rnE p)) (λi=>x (cl i))=e.2*x e.1.toNat+dtl es x
  obtain⟨h1,h2⟩:=h e (.head _)
  rw[aSj hcl λe' he=>h e' (.tail _ he),hcl e.1.toNat oM]
theorem aSk {p:List Int} {n:Nat} {es rs:List En} (hP:PmL p n) (ho:VOk es (n:Nat)) (ha:Asc rs) (hp:rs.Perm (es.map (rnE p))):VOk rs (n:Nat):=⟨ha,λe he=>by
 obtain⟨e',he',rfl⟩:=List.mem_map.1 (hp.mem_iff.1 he)
 obtain⟨h1,h2,h3⟩:=ho.2 e' he'
 obtain⟨m,hm,hmn⟩:=hP.at' e'.1.toNat oM
 show 0<=p.getD e'.1.toNat 0∧p.getD e'.1.toNat 0<(n:Nat)∧_
 rw[hm]
 exact⟨by omega,by omega,h3⟩⟩
structure LuOk (M:Nat->List En) (n:Nat) (rw cl:Nat->Nat) (Lw Up:Nat->List En):Prop where
 rlt:∀j,j<n->rw j<n
 rinj:∀i j,i<n->j<n->rw i=rw j->i=j
 clt:∀j,j<n->cl j<n
 cinj:∀i j,i<n->j<n->cl i=cl j->i=j
 low:∀k,k<n->∃l,Lw k=l++[((k:Int),1)]∧VOk l (k:Nat)
 up:∀k,k<n->∃p u,Up k=((k:Int),p)::u∧VOk (Up k) (n:Nat)
 eq:∀k,k<n->∀x,dtn n (M (rw k)) x=dtl (Lw k) λj=>dtn n (Up j) λi=>x (cl i)
theorem qX {f:Nat->Nat} {n:Nat} (h:∀j,j<n->f j<n) (hi:∀i j,i<n->j<n->f i=f j->i=j):∀c,c<n->∃j,j<n∧f j=c:=λc hc=>Classical.byContradiction λhn=>by
 have h1:(c::(List.range n).map f).Nodup:=by
  refine List.nodup_cons.2 ⟨λhh=>?_,?_⟩
  ·obtain⟨j,hj,he⟩:=List.mem_map.1 hh
   exact hn ⟨j,List.mem_range.1 hj,he⟩
  rw[List.nodup_iff_pairwise_ne,List.pairwise_map]
  exact(List.nodup_iff_pairwise_ne.1 (List.nodup_range (n:=n))).imp_of_mem λ{a b} ha hb hab he=>hab (hi a b (List.mem_range.1 ha) (List.mem_range.1 hb) he)
 have h2:=lI (n:=n) h1 λi hi=>by
  rcases List.mem_cons.1 hi with rfl|hi
  ·exact hc
  obtain⟨j,hj,rfl⟩:=List.mem_map.1 hi
  exact h j (List.mem_range.1 hj)
 simp at h2
 omega
abbrev nL (n:Nat) (f:Nat->Nat):List Int:=(List.range n).map λj=>((f j:Nat):Int)
theorem sQ {n j:Nat} {f:Nat->Nat} (h:j<n):(nL n f).getD j 0=(f j:Nat):=by unfold nL;simp[h]
theorem aSl {n:Nat} {f:Nat->Nat} (h:∀j,j<n->f j<n) (hi:∀i j,i<n->j<n->f i=f j->i=j):PmL (nL n f) n:=⟨by simp,λi hin=>⟨f i,sQ hin,h i hin⟩,λi j hin hjn he=>by rw[sQ hin,sQ hjn] at he;exact hi i j hin hjn (Int.ofNat.inj he)⟩
theorem Elim.all {M:Nat->List En} {n:Nat} {rw cl pl:Nat->Nat} {A:List Int} {es lw:Nat->List En} (h:Elim M n n rw cl A es lw) (hp:∀j,j<n->pl (cl j)=j):PmL (nL n pl) n:=by
 have hs:=qX h.clt h.cinj
 refine aSl (λc hc=>?_) λc d hc hd he=>?_
 ·obtain⟨j,hj,rfl⟩:=hs c hc;rw[hp j hj];exact hj
 obtain⟨i,hi,rfl⟩:=hs c hc
 obtain⟨j,hj,rfl⟩:=hs d hd
 rw[hp i hi,hp j hj] at he
 rw[he]
theorem Elim.lu {M:Nat->List En} {n:Nat} {rw cl pl:Nat->Nat} {A:List Int} {es lw Up:Nat->List En} (h:Elim M n n rw cl A es lw) (hp:∀j,j<n->pl (cl j)=j) (ho:∀i,i<n->VOk (es i) (n:Nat)) (hU:∀k,k<n->Asc (Up k)∧(Up k).Perm ((es (rw k)).map (rnE (nL n pl)))):LuOk M n rw cl (λk=>lw (rw k)++[((k:Int),1)]) Up:=by
 have hP:=h.all hp
 have hs:=qX h.clt h.cinj
 have hcl:∀c,c<n->cl ((nL n pl).getD c 0).toNat=c:=λc hc=>by
  obtain⟨j,hj,rfl⟩:=hs c hc
  rw[sQ hc,hp j hj];rfl
 have hV:∀k,k<n->VOk (Up k) (n:Nat):=λk hk=>aSk hP (ho _ (h.rlt k hk)) (hU k hk).1 (hU k hk).2
 have hg:∀k j,k<n->j<n->Vm.get (Up k) (j:Nat)=Vm.get (es (rw k)) (cl j:Nat):=λk j hk hj=>by
  have:=aSi hP (h.clt j hj) (ho _ (h.rlt k hk)).rg
  rw[sQ (h.clt j hj),hp j hj] at this
  rw[aLy (hU k hk).2,this]
 refine⟨h.rlt,h.rinj,h.clt,h.cinj,λk hk=>⟨lw (rw k),rfl,h.lus k hk⟩,λk hk=>?_,λk hk x=>?_⟩
 ·have h1:Vm.get (Up k) (k:Nat)≠0:=by rw[hg k k hk hk];exact h.piv k hk
  obtain⟨e,he,hek⟩:=(kN (hV k hk) _).1 h1
  cases hu:Up k with
  |nil=>rw[hu] at he;cases he
  |cons e0 u=>
   have hv:=hV k hk
   have ha:=(hU k hk).1
   rw[hu] at he ha
   have h0:=hv.2 e0 (by rw[hu];exact .head _)
   have hge:¬e0.1<(k:Nat):=λhlt=>by
    have h2:=hg k e0.1.toNat hk oM
    rw[h.zl e0.1.toNat k oM hk,show((e0.1.toNat:Nat):Int)=e0.1 by omega,hu,eJ ha] at h2
    exact h0.2.2 h2
   have hle:e0.1<=(k:Nat):=by
    rcases List.mem_cons.1 he with rfl|he
    ·omega
    have:=ha.head e he;omega
   refine⟨e0.2,u,?_,hu▸hv⟩
   rw[show(k:Int)=e0.1 by omega]
 show _=dtl (lw (rw k)++[((k:Int),1)]) _
 have hx:∀j,j<n->dtn n (es (rw j)) x=dtn n (Up j) λi=>x (cl i):=λj hj=>by
  rw[<-tS (hV j hj).rg,aSh (hU j hj).2,aSj hcl (ho _ (h.rlt j hj)).rg,tS (ho _ (h.rlt j hj)).rg]
 rw[h.sum _ (h.rlt k hk),nQ,hx k hk,Rat.add_comm]
 congr 1
 ·refine fT λe he=>hx _ ?_
  have:=(h.lus k hk).2 e he
  omega
 show _=(1:Rat)*_;rw[Rat.one_mul];rfl
def prT (q:Nat->List Nat->Tr->Tr):Nat->List Nat->Tr->Tr
 |0,_,t=>t
 |f+1,l,t=>l.foldr (λi r=> .alt i (q i (l.erase i) (prT q f (l.erase i) t)) r) .nil
def bQh:Nat->Tr->Tr
 |7,t=> .alt 2008 t .nil
 |12,t=> .alt 2013 t .nil
 |_,t=>t
def bQi (i:Nat) (l:List Nat) (t:Tr):Tr:=bQh i (bif (l.filter λj=>!Nat.beq j 15).isEmpty&&!Nat.beq i 15 then .alt 2014 t .nil else t)
theorem gs0 {nb:Nat} {s:SS} {σ:Type} {S:σ->SS} {C:σ->Prop} (t i:Nat) {n:Nat} (_:cT s.sl t=some (.c (.s i n))) (h:Gt nb s S C):Gt nb s S C:=h
def bd (B:Nat):Nat->Nat
 |0=>B
 |k+1=>4*bd B k+1
theorem aCe {B k n:Nat} (h:k<=n):bd B k<=bd B n:=by
 induction h with
 |refl=>exact Nat.le_refl _
 |step _ ih=>exact Nat.le_trans ih (by show _<=4*bd B _+1;omega)
theorem aFi {B:Nat} (h:1<=B) (k:Nat):1<=bd B k:=Nat.le_trans h (aCe (Nat.zero_le k))
theorem ElOk.cg {x:El} {n:Nat} {es lw:Nat->List En} {u v:Nat->Prop} (h:ElOk x n es lw u) (hu:∀i,u i↔v i):ElOk x n es lw v:=⟨h.row,h.ok,h.low,h.ca,h.nd,λj hj i=>by rw[h.mem j hj i,hu i]⟩
structure LuM where
 R:Sl Int
 K:Sl Int
 L:MatM
 U:MatM
abbrev LuM.C (f:LuM):List CV:=[dO f.R,dO f.K,iC f.L.r,iC f.L.c,gQ f.L.d,iC f.U.r,iC f.U.c,gQ f.U.d]
abbrev luZ:List CV:=[.v (.slice none 0 0),.v (.slice none 0 0),iC 0,iC 0,.v (.slice none 0 0),iC 0,iC 0,.v (.slice none 0 0)]
abbrev ioC (n:Nat) (f:Nat->Nat):List CV:=cB n λj=>iC (f j:Nat)
abbrev aXf (m:MatM) (n:Nat) (r:BL):BL:=[(24,0,m.C),(67,0,luZ),(3,1,List.replicate n (iC 0)),(3,1,List.replicate n (iC 0)),(54,1,List.replicate n (.v (.slice none 0 0))),(54,1,List.replicate n (.v (.slice none 0 0))),(67,0,[.s 2 n,.s 3 n,iC n,iC n,.s 4 n,iC n,iC n,.s 5 n])]++r
abbrev aXg (n:Nat):List (Nat×DV):=[(5,.c (.p 6 0)),(4,.c (iC n)),(1,.c (.p 0 0)),(2,.c (.p 1 0))]
def bQj:Ord:=.joinX [] [2000,2002,2004,2005,2006,2009,2010,2011] (prT bQi 5 [1,3,7,12,15] (trS [1016]))
structure FaI (M:Nat->List En) (B n k:Nat) (x:El) (es lw:Nat->List En) (A:List Int) (rw cl pl:Nat->Nat):Prop where
 hk:k<=n
 he:Elim M n k rw cl A es lw
 hx:ElOk x n es lw (λi=>∃t,t<k∧rw t=i)
 be:rbM es n (bd B k)
 bl:rbM lw n (bd B k)
 hp:∀j,j<k->pl (cl j)=j
structure FaG where
 k:Nat
 x:El
 es:Nat->List En
 lw:Nat->List En
 A:List Int
 rw:Nat->Nat
 cl:Nat->Nat
 pl:Nat->Nat
abbrev faB (m:MatM) (n a:Nat) (x:El) (A:List Int) (rw cl pl:Nat->Nat):BL:=[(24,0,m.C),(67,0,luZ),(3,1,ioC n rw),(3,1,ioC n cl),(54,1,List.replicate n (.v (.slice none 0 0))),(54,1,List.replicate n (.v (.slice none 0 0))),(67,0,[.s 2 n,.s 3 n,iC n,iC n,.s 4 n,iC n,iC n,.s 5 n]),(3,1,ioC n pl),(24,0,m.C),elR n x,elL n x,elC n x,elA A,elE 9 10 11 12 n a]
theorem aSm {m:MatM} {n a:Nat} {x:El} {A:List Int} {rw cl pl:Nat->Nat}:scB 14 (faB m n a x A rw cl pl):=scB.cons rfl (scB.cons rfl (scB.cons (aZ (aE λ_ _=>rfl)) (scB.cons (aZ (aE λ_ _=>rfl)) (scB.cons (aZ (iU rfl)) (scB.cons (aZ (iU rfl)) (scB.cons rfl (scB.cons (aZ (aE λ_ _=>rfl)) (scB.cons rfl (scB.cons (aZ (aE λ_ _=>rfl)) (scB.cons (aZ (aE λ_ _=>rfl)) (scB.cons (aZ (aE λ_ _=>rfl)) (scB.cons (aZ (cI _)) (scB.cons rfl scB.nil)))))))))))))
abbrev faG (n k:Nat):List (Nat×DV):=[(46,.c (iC k)),(45,.c (iC n)),(7,.c (.p 13 0)),(5,.c (.p 6 0)),(6,.c (.s 7 n)),(2,.c (.p 1 0))]
theorem aFj {n k:Nat} {c1 c2:CV} (h1:(List.replicate n (iC 0))[k]? =some c1) (h2:(ioC n λ_=>0)[k]? =some c2):LeC c1 c2:=mE (λ_ _=>LeC.refl _) k c1 c2 h1 h2
theorem aFk {n j v:Nat} {f:Nat->Nat} (h:j<n):fG (ioC n f) (j*1) [iC (v:Nat)]=ioC n (upd f j v)∧j*1+1<=(ioC n f).length:=fN h λi _=>by
 by_cases e:i=j
 ·subst e;rw[if_pos rfl,aT]
 rw[if_neg e,aP e]
def bQk (n:Nat) (x:El) (A:List Int):Option (Nat×Nat×Nat)->OutF
 |none=>⟨.t [.c (iC 0),.c (iC 0),.c (.v (.bool false))],chB n A.length x A,[CF n x],∃c:Nat,c<n∧(c:Int)∈A∧x.I c=[]⟩
 |some (r,c,p)=>⟨.t [.c (iC r),.c (iC c),.c (.v (.bool true))],chB n (A.eraseIdx p).length x (A.eraseIdx p),[CF n x],(p<A.length∧A.getD p 0=(c:Nat))∧c<n∧r∈eW (x.I c)⟩
theorem aKc (x:El) {n:Nat} {A:List Int} {es lw:Nat->List En} {used:Nat->Prop} (h:ElOk x n es lw used) (h0:0<A.length) (hl:A.length<=4096) (hA:∀a∈A,0<=a∧a<(n:Nat)):CtrF Tryz.prog qU chL [.c (.p 0 0)] (chB n A.length x A) [CF n x] (bQk n x A):=(aRw x h h0 hl hA).re λg hg=>⟨g,by
 match g,hg with
 |none,hg=>exact⟨hg,rfl,rfl,rfl⟩
 |some (r,c,p),hg=>
  refine⟨hg,rfl,?_,rfl⟩
  show chB n _ x _=chB n _ x _
  rw[List.length_eraseIdx_of_lt hg.1.1]⟩
def bLs:Ord:=.treeX [] [2000,1,2002,2003,4,2005,2006,2007,2008,2009,2010] (trS [2011,12,2013,14,2015,1016])
theorem aZc {n:Nat} {f:Nat->Nat} (j:Nat) (h:j<n):[iC ((nL n f).getD j 0)]=((ioC n f).drop (j*1)).take 1:=by
 have h1:=cY (P:=λj=>iC (f j:Nat)) h
 rw[Nat.mul_one] at h1
 rw[sQ h,Nat.mul_one,List.drop_eq_getElem_cons (by rw[bP];exact h)]
 rw[List.getElem?_eq_getElem (by rw[bP];exact h)] at h1
 injection h1 with h1
 rw[h1];rfl
theorem aIe {T n c:Nat} {A:Option Nat} {f:Nat->Nat}:FrC ⟨T,1,1,λ_=>A,λ_=>c,λ_=>ioC n f⟩ (.h A n c) (dO ⟨A.map λb=>⟨b,0,none⟩,c,nL n f⟩):=⟨0,n,λj=>[iC ((nL n f).getD j 0)],bL,rfl,by unfold dO Sl.R;rw[List.length_map,List.length_range],by rw[bP,Nat.mul_one],λk hk=>aZc k hk⟩
structure FbG where
 k:Nat
 LA:Nat->Option Nat
 Lc:Nat->Nat
 G:Nat->List EntM
 HA:Nat->Option Nat
 Hn:Nat->Nat
 Hc:Nat->Nat
 S:Nat->Sl EntM
 Up:Nat->List En
structure FbI (n:Nat) (x:El) (es lw:Nat->List En) (rw pl:Nat->Nat) (g:FbG):Prop where
 hk:g.k<=n
 hu:∀j,j<g.k->Ek (g.S j).l (g.Up j)∧Asc (g.Up j)∧(g.Up j).Perm ((es (rw j)).map (rnE (nL n pl)))
 hd:∀j,j<g.k->(g.LA (rw j)=g.HA j∧g.Lc (rw j)=g.Hc j∧(g.G (rw j)).length=g.Hn j)∧Ek (g.G (rw j)) (lw (rw j)++[((j:Int),1)])
 hr:∀i,i<n->(∀t,t<g.k->rw t≠i)->g.LA i=x.LA i∧g.Lc i=x.Lc i∧g.G i=x.L i
abbrev fbH (g:FbG):Nat->CV:=λj=> .h (g.HA j) (g.Hn j) (g.Hc j)
abbrev fbB (m:MatM) (n a:Nat) (x:El) (A:List Int) (rw cl:Nat->Nat) (g:FbG):BL:=[(24,0,m.C),(67,0,luZ),(3,1,ioC n rw),(3,1,ioC n cl),(54,1,cB n (fbH g)),(54,1,cB n λj=>aO (g.S j)),(67,0,[.s 2 n,.s 3 n,iC n,iC n,.s 4 n,iC n,iC n,.s 5 n]),(3,1,[]),(24,0,m.C),elR n x,elL n x,elC n x,elA A,elE 9 10 11 12 n a]
theorem aSn {m:MatM} {n a:Nat} {x:El} {A:List Int} {rw cl:Nat->Nat} {g:FbG}:scB 14 (fbB m n a x A rw cl g):=scB.cons rfl (scB.cons rfl (scB.cons (aZ (aE λ_ _=>rfl)) (scB.cons (aZ (aE λ_ _=>rfl)) (scB.cons (aZ (aE λ_ _=>rfl)) (scB.cons (aZ (aE λ_ _=>rfl)) (scB.cons rfl (scB.cons rfl (scB.cons rfl (scB.cons (aZ (aE λ_ _=>rfl)) (scB.cons (aZ (aE λ_ _=>rfl)) (scB.cons (aZ (aE λ_ _=>rfl)) (scB.cons (aZ (cI _)) (scB.cons rfl scB.nil)))))))))))))
abbrev fbF (n:Nat) (x:El) (g:FbG):List Fam:=[⟨65,4,n,g.LA,g.Lc,λj=>ecs (g.G j)⟩,CF n x]
abbrev fbS (n:Nat) (P:Sl Int) (k:Nat):List (Nat×DV):=[(81,.c (iC k)),(79,.c (.s 2 n)),(80,.c (iC n)),(7,.c (.p 13 0)),(5,.c (.p 6 0)),(6,.c (dO P)),(2,.c (.p 1 0))]
def bLt:Ord:=.treeX [] [2000,2001,2,2003,2004,2005,2006,7,2008,2009,1010,2011] (trS [12,2013,14,15,2016,1017])
def bLu:Ord:=.treeX [] [2000,2001,2,2003,2004,2005,2006,7,2008,2009,1010,2011] (trS [12,2013,2014,2015,2016,1017])
theorem cm {i:Nat} {l:List CV} (h:∀c∈l,cW c=true):∀c∈l,eX i c=false:=λc hc=>dN (h c hc)
theorem sk {i a:Nat} {A:Option Nat} {l:List CV} (h:∀c∈l,cW c=true):l.map (iZ i A a)=l:=(List.map_congr_left λc hc=>aQi c (h c hc)).trans (List.map_id _)
theorem aFl {B:Nat} (h:1<=B):rb 1 B:=⟨by show len 1<=B;rw[show len 1=1 by decide];omega,by show len 1<=B;rw[show len 1=1 by decide];omega⟩
theorem aSo {l:List En} {k n:Nat} (h:VOk l (k:Nat)) (hk:k<n):VOk (l++[((k:Int),1)]) (n:Nat):=⟨List.pairwise_append.2 ⟨h.1,List.pairwise_singleton _ _,λa ha b hb=>by rw[List.mem_singleton.1 hb];exact(h.2 a ha).2.1⟩,λe he=>by
 rcases List.mem_append.1 he with he|he
 ·have:=h.2 e he;exact⟨this.1,by omega,this.2.2⟩
 rw[List.mem_singleton.1 he];exact⟨by show(0:Int)<=(k:Nat);omega,by show(k:Int)<(n:Nat);omega,show(1:Rat)≠0 by decide⟩⟩
abbrev aSp:FuncId:=30
theorem bLv:Ent Tryz.prog aSp:=Ent.of func30 rfl kR
theorem bLw:Tryz.prog.funcs[aSp]? =some Tryz.f30:=func30
theorem aSq (m:MatM) {M:Nat->List En} {n B:Nat} (h:Mx m M n) (hb:rbM M n B) (h1:1<=B) (hB:bd B n<=17179869184) (hn:n<=12):Ctr Tryz.prog aSp [] [.a m.C] [] (λg:Option (LuM×(Nat->Nat)×(Nat->Nat)×(Nat->List En)×(Nat->List En))=>match g with
 |none=>⟨.t [.a luZ,.c (iC 6)],[],Ker M n⟩
 |some (f,rw,cl,Lw,Up)=>⟨.t [.a f.C,.c (iC 0)],[],(f.R.l=nL n rw∧f.K.l=nL n cl∧Mx f.L Lw n∧Mx f.U Up n)∧LuOk M n rw cl Lw Up∧rbM Lw n (bd B n)∧rbM Up n (bd B n)⟩):=by
 obtain⟨mr,mc,md⟩:=m
 obtain rfl:mr=(n:Nat):=h.r
 obtain rfl:mc=(n:Nat):=h.c
 have hBB:B<=17179869184:=Nat.le_trans (aCe (Nat.zero_le n)) hB
 have mk1:n<=maxLen:=by simp only[maxLen];omega
 have fin1:∀(sl:List (Nat×DV)),nF (λ_=>true) [] [] [] sl->AllC sl (aXg n)->Gt 0 ⟨sl,[],aXf ⟨n,n,md⟩ n [],[]⟩ (σ:=Unit) (λ_=>⟨aXg n++[],[],aXf ⟨n,n,md⟩ n [],[]⟩) (λ_=>True):=λsl ht ha=>by
  refine @bA 0 _ (λ_=>true) [] (λt d ht=>by cases ht) Unit (λ_=>aXg n) (λ_=>aXf ⟨n,n,md⟩ n []) (λ_=>[]) _ () trivial ht ?_ trivial ha (Nat.zero_le _) ?_ rfl
  ·exact⟨rfl,rfl,rfl,rfl,rfl,rfl,rfl⟩
  exact scB.cons rfl (scB.cons rfl (scB.cons (aZ (iU rfl)) (scB.cons (aZ (iU rfl)) (scB.cons (aZ (iU rfl)) (scB.cons (aZ (iU rfl)) (scB.cons rfl scB.nil))))))
 refine aX gT bLv bLw rfl rfl rfl bL ClB.nil (aA gT mxd ⟨[],aEq _ h hb hBB oM,rfl,rfl,rfl,λ_ _=>⟨λhh=>absurd trivial hh,λ_=>aA gT mxd ⟨λhh=>absurd rfl hh,λ_=>aA gT mxd ?_⟩⟩⟩)
 refine⟨bQj,by kernel_rfl,Unit,λ_=>⟨aXg n++[],[],aXf ⟨n,n,md⟩ n [],[]⟩,λ_=>True,?_,λ_ _=>?_⟩
 ·refine⟨?_,?_,?_,?_,?_⟩
  all_goals (first|refine⟨n,⟨rfl,rfl,by show 8*n<=_;omega,mk1⟩,rfl,?_⟩|refine⟨n,⟨rfl,rfl,by show 24*n<=_;omega,mk1⟩,rfl,?_⟩|refine⟨rfl,?_⟩)
  all_goals refine⟨?_,?_,?_,?_⟩
  all_goals (first|refine⟨n,⟨rfl,rfl,by show 8*n<=_;omega,mk1⟩,rfl,?_⟩|refine⟨n,⟨rfl,rfl,by show 24*n<=_;omega,mk1⟩,rfl,?_⟩|refine⟨rfl,?_⟩)
  all_goals refine⟨?_,?_,?_⟩
  all_goals (first|refine⟨n,⟨rfl,rfl,by show 8*n<=_;omega,mk1⟩,rfl,?_⟩|refine⟨n,⟨rfl,rfl,by show 24*n<=_;omega,mk1⟩,rfl,?_⟩|refine⟨rfl,?_⟩)
  all_goals refine⟨?_,?_⟩
  all_goals (first|refine⟨n,⟨rfl,rfl,by show 8*n<=_;omega,mk1⟩,rfl,?_⟩|refine⟨n,⟨rfl,rfl,by show 24*n<=_;omega,mk1⟩,rfl,?_⟩|refine⟨rfl,?_⟩)
  all_goals (first|refine⟨n,⟨rfl,rfl,by show 8*n<=_;omega,mk1⟩,rfl,?_⟩|refine⟨n,⟨rfl,rfl,by show 24*n<=_;omega,mk1⟩,rfl,?_⟩|refine⟨rfl,?_⟩)
  all_goals (first|refine gs0 27 2 rfl ?_|refine gs0 27 3 rfl (gsw 2 3 rfl rfl bL bL rfl ⟨_,rpm aC rfl,_,rpm aC rfl,_,rpm aC rfl,_,rpm aC rfl,bL,?_⟩)|refine gs0 27 4 rfl (gsw 2 4 rfl rfl bL bL rfl ⟨_,rpm aC rfl,_,rpm aC rfl,_,rpm aC rfl,_,rpm aC rfl,bL,?_⟩)|refine gs0 27 5 rfl (gsw 2 5 rfl rfl bL bL rfl ⟨_,rpm aC rfl,_,rpm aC rfl,_,rpm aC rfl,_,rpm aC rfl,bL,?_⟩)|refine gs0 27 6 rfl (gsw 2 6 rfl rfl bL bL rfl ⟨_,rpm aC rfl,_,rpm aC rfl,_,rpm aC rfl,_,rpm aC rfl,bL,?_⟩))
  all_goals (first|refine gs0 29 3 rfl ?_|refine gs0 29 4 rfl (gsw 3 4 rfl rfl bL bL rfl ⟨_,rpm aC rfl,_,rpm aC rfl,_,rpm aC rfl,_,rpm aC rfl,bL,?_⟩)|refine gs0 29 5 rfl (gsw 3 5 rfl rfl bL bL rfl ⟨_,rpm aC rfl,_,rpm aC rfl,_,rpm aC rfl,_,rpm aC rfl,bL,?_⟩)|refine gs0 29 6 rfl (gsw 3 6 rfl rfl bL bL rfl ⟨_,rpm aC rfl,_,rpm aC rfl,_,rpm aC rfl,_,rpm aC rfl,bL,?_⟩))
  all_goals (first|refine gs0 33 4 rfl ?_|refine gs0 33 5 rfl (gsw 4 5 rfl rfl bL bL rfl ⟨_,rpm aC rfl,_,rpm aC rfl,_,rpm aC rfl,_,rpm aC rfl,bL,?_⟩)|refine gs0 33 6 rfl (gsw 4 6 rfl rfl bL bL rfl ⟨_,rpm aC rfl,_,rpm aC rfl,_,rpm aC rfl,_,rpm aC rfl,bL,?_⟩))
  all_goals (first|refine gs0 38 5 rfl ?_|refine gs0 38 6 rfl (gsw 5 6 rfl rfl bL bL rfl ⟨_,rpm aC rfl,_,rpm aC rfl,_,rpm aC rfl,_,rpm aC rfl,bL,?_⟩))
  all_goals exact fin1 _ (by rfl) (by exact⟨rfl,rfl,rfl,rfl⟩)
 refine⟨n,⟨rfl,rfl,by show 8*n<=_;omega,mk1⟩,[],aWp ⟨n,n,md⟩ h hb h1 hBB oM,rfl,rfl,rfl,λx hx=>?_⟩
 replace hx:ElOk x n M (λ_=>[]) (λ_=>False):=hx
 show Sd _ _ _ _ _ _
 refine eZ tSd 2 (ioC n λ_=>0) rfl (by rw[bP,List.length_replicate]) (λ_ _ _=>aFj) ?_
 refine eZ tSd 3 (ioC n λ_=>0) rfl (by rw[bP,List.length_replicate]) (λ_ _ _=>aFj) ?_
 refine eZ tSd 7 (ioC n λ_=>0) rfl (by rw[bP,List.length_replicate]) (λ_ _ _=>aFj) ?_
 refine bV (λ_=>true) (λg:FaG=>faG n g.k) (λg=>faB ⟨n,n,md⟩ n g.A.length g.x g.A g.rw g.cl g.pl) (λg=>[LF n g.x,CF n g.x]) (λg=>FaI M B n g.k g.x g.es g.lw g.A g.rw g.cl g.pl) (λg=>n-g.k) λhM=>⟨bA hM (chg:=λg:FaG=>faG n g.k) (bls:=λg=>faB ⟨n,n,md⟩ n g.A.length g.x g.A g.rw g.cl g.pl) (fls:=λg=>[LF n g.x,CF n g.x]) ⟨0,x,M,λ_=>[],aL n n,λ_=>0,λ_=>0,λ_=>0⟩ ⟨Nat.zero_le _,Elim.start M n _ _,hx.cg λi=>⟨False.elim,λ⟨t,ht,_⟩=>absurd ht (Nat.not_lt_zero _)⟩,hb,λi _ e he=>(by cases he),λj hj=>absurd hj (Nat.not_lt_zero _)⟩ rfl ⟨rfl,rfl,rfl,rfl,rfl,rfl,rfl,rfl,rfl,rfl,rfl,rfl,rfl,?_⟩ ⟨rfl,rfl,trivial⟩ ⟨rfl,rfl,rfl,rfl,rfl,rfl⟩ bL aSm rfl,λ⟨k,x,es,lw,A,rw,cl,pl⟩ hI=>aA gT mxd ⟨λh2=>aA gT mxd ?_,λh2=>aA gT mxd ?_⟩⟩
 ·show elE 9 10 11 12 n n=elE 9 10 11 12 n (aL n n).length
  rw[aRp];simp
 ·replace h2:(k:Int)<(n:Nat):=h2
  have hkn:k<n:=by omega
  obtain⟨-,he,hx,hbe,hbl,hpp⟩:=hI
  replace he:Elim M n k rw cl A es lw:=he
  replace hx:ElOk x n es lw (λi=>∃t,t<k∧rw t=i):=hx
  replace hbe:rbM es n (bd B k):=hbe
  replace hbl:rbM lw n (bd B k):=hbl
  replace hpp:∀j,j<k->pl (cl j)=j:=hpp
  have hAl:=he.kn
  have hA:∀a∈A,0<=a∧a<(n:Nat):=λa ha=>by
   obtain⟨j,rfl,hj,_⟩:=(he.mem a).1 ha
   omega
  refine⟨[13,9,10,11,12,1001],aKc x hx oM oM hA,rfl,rfl,rfl,λg hg=>?_⟩
  match g,hg with
  |none,⟨c,hc,hcA,hI⟩=>
   have hker:Ker M n:=he.ker hcA λi hi hu=>Classical.byContradiction λhne=>by
    have:=(hx.mem c hc i).2 ⟨⟨hi,λ⟨t,ht,e⟩=>hu t ht e⟩,hne⟩
    rw[hI] at this
    cases this
   exact⟨none,hker,aN ⟨rfl,rfl⟩ rfl trivial⟩
  |some (r,c,p),⟨⟨hp,hc⟩,hcn,hrk⟩=>
   obtain⟨⟨hr,hu⟩,hpv⟩:=(hx.mem c hcn r).1 hrk
   have hbb:bd B (k+1)<=17179869184:=Nat.le_trans (aCe hkn) hB
   refine⟨bLs,by kernel_rfl,k,⟨rfl,hkn,cA hkn⟩,_,aFk hkn,rfl,k,⟨rfl,hkn,cA hkn⟩,_,aFk hkn,rfl,c,⟨rfl,hcn,cA hcn⟩,_,aFk hcn,?_⟩
   refine⟨[13,9,10,11,12,1000,1001],bEy x (A:=A.eraseIdx p) (kk:=k) hx oM hr hu hcn hpv hbe hbl (aFi h1 k) hbb oM (λi hi=>by have:=fS (he.lok i hi);omega),rfl,rfl,rfl,λ⟨x',es',lw'⟩ ⟨⟨hx',hS⟩,hbe',hbl'⟩=>?_⟩
   replace hu:∀t,t<k->rw t≠r:=λt ht e=>hu ⟨t,ht,e⟩
   have he':=he.next hr hu hp hc hpv hS λi=>Iff.rfl
   refine⟨(k+1:Nat),wi,bA hM (chg:=λg:FaG=>faG n g.k) (bls:=λg=>faB ⟨n,n,md⟩ n g.A.length g.x g.A g.rw g.cl g.pl) (fls:=λg=>[LF n g.x,CF n g.x]) ⟨k+1,x',es',lw',A.eraseIdx p,upd rw k r,upd cl k c,upd pl c k⟩ ⟨⟨hkn,he',hx'.cg λi=>⟨λhh=>?_,λ⟨t,ht,e⟩=>?_⟩,hbe',hbl',λj hj=>?_⟩,show n-(k+1)<n-k by omega⟩ rfl ⟨rfl,rfl,rfl,rfl,rfl,rfl,rfl,rfl,rfl,rfl,rfl,rfl,rfl,rfl⟩ ⟨rfl,rfl,trivial⟩ ⟨rfl,rfl,rfl,rfl,rfl,rfl⟩ bL aSm rfl⟩
   ·rcases hh with ⟨t,ht,e⟩|e
    ·exact⟨t,Nat.lt_succ_of_lt ht,(aP oM).trans e⟩
    exact⟨k,Nat.lt_succ_self k,aT.trans e.symm⟩
   ·replace ht:t<k+1:=ht
    replace e:upd rw k r t=i:=e
    by_cases e2:t=k
    ·subst e2;rw[aT] at e;exact .inr e.symm
    rw[aP e2] at e;exact .inl ⟨t,by omega,e⟩
   replace hj:j<k+1:=hj
   show upd pl c k (upd cl k c j)=j
   by_cases e2:j=k
   ·subst e2;rw[aT,aT]
   have e3:cl j≠c:=λe4=>by
    have h5:=he'.cinj j k oM oM
    rw[aP e2,aT] at h5
    exact e2 (h5 e4)
   rw[aP e2,aP e3]
   exact hpp j oM
 replace h2:¬(k:Int)<(n:Nat):=h2
 obtain⟨hk,he,hx,hbe,hbl,hpp⟩:=hI
 replace hk:k<=n:=hk
 obtain rfl:n=k:=by omega
 replace he:Elim M n n rw cl A es lw:=he
 replace hx:ElOk x n es lw (λi=>∃t,t<n∧rw t=i):=hx
 replace hbe:rbM es n (bd B n):=hbe
 replace hbl:rbM lw n (bd B n):=hbl
 replace hpp:∀j,j<n->pl (cl j)=j:=hpp
 have hP:=he.all hpp
 show Sd _ _ _ _ _ _
 refine aDu 6 7 (λj=>[iC ((nL n pl).getD j 0)]) rfl rfl (λj hj=>aZc j hj) (by rw[bP,Nat.mul_one]) bL (aE λ_ _=>rfl) bL λPA pc _ _=>⟨cm (aE λ_ _=>rfl),cm (aE λ_ _=>rfl),cm (iU rfl),cm (iU rfl),cm (aE λ_ _=>rfl),cm (aE λ_ _=>rfl),cm (aE λ_ _=>rfl),cm (cI _),aA gT mxd ?_⟩
 show Sd _ _ _ _ _ _
 refine eZ tSd 4 (cB n λ_=> .h none 0 0) rfl (by rw[bP,List.length_replicate]) (mE λ_ _=>LeC.nilh) ?_
 refine eZ tSd 5 (cB n λ_=>aO cD) rfl (by rw[bP,List.length_replicate]) (mE λ_ _=>xE) ?_
 have hPl:(nL n pl).length=n:=hP.ln
 obtain⟨P,hPe⟩:∃P:Sl Int,P=⟨PA,pc,nL n pl⟩:=⟨_,rfl⟩
 have hPs:CV.r PA n pc 1 (λj=>[iC ((nL n pl).getD j 0)])=dO P:=by rw[hPe];unfold dO Sl.R;rw[hPl]
 refine bV (λ_=>true) (λg:FbG=>fbS n P g.k) (λg=>fbB ⟨n,n,md⟩ n A.length x A rw cl g) (λg=>fbF n x g) (λg=>FbI n x es lw rw pl g) (λg=>n-g.k) λhM2=>⟨bA hM2 (chg:=λg:FbG=>fbS n P g.k) (bls:=λg=>fbB ⟨n,n,md⟩ n A.length x A rw cl g) (fls:=λg=>fbF n x g) ⟨0,x.LA,x.Lc,x.L,λ_=>none,λ_=>0,λ_=>0,λ_=>cD,λ_=>[]⟩ ⟨Nat.zero_le _,λj hj=>absurd hj (Nat.not_lt_zero _),λj hj=>absurd hj (Nat.not_lt_zero _),λi _ _=>⟨rfl,rfl,rfl⟩⟩ rfl ⟨rfl,rfl,rfl,rfl,rfl,rfl,rfl,rfl,rfl,rfl,rfl,rfl,rfl,rfl⟩ ⟨rfl,rfl,trivial⟩ ⟨rfl,rfl,rfl,rfl,rfl,hPs,rfl⟩ bL aSn rfl,λ⟨k,LA,Lc,G,HA,Hn,Hc,S,Up⟩ ⟨hk,hu,hd,hr⟩=>aA gT mxd ⟨λh3=>aA gT mxd ?_,λh3=>aA gT mxd ?_⟩⟩
 all_goals
  replace hk:k<=n:=hk
  replace hu:∀j,j<k->Ek (S j).l (Up j)∧Asc (Up j)∧(Up j).Perm ((es (rw j)).map (rnE (nL n pl))):=hu
  replace hd:∀j,j<k->(LA (rw j)=HA j∧Lc (rw j)=Hc j∧(G (rw j)).length=Hn j)∧Ek (G (rw j)) (lw (rw j)++[((j:Int),1)]):=hd
  replace hr:∀i,i<n->(∀t,t<k->rw t≠i)->LA i=x.LA i∧Lc i=x.Lc i∧G i=x.L i:=hr
 ·replace h3:(k:Int)<(n:Nat):=h3
  have hkn:k<n:=by omega
  obtain⟨i,hi⟩:∃i,i=rw k:=⟨_,rfl⟩
  have hin:i<n:=by rw[hi];exact he.rlt k hkn
  have hti:∀t,t<k->rw t≠i:=λt ht e=>by
   have:=he.rinj t k oM hkn (e.trans hi)
   omega
  obtain⟨r1,r2,r3⟩:=hr i hin hti
  have hlo:=hx.low i hin
  have hll:(x.L i).length=(lw i).length:=hlo.ln
  have hli:=fS (he.lok i hin)
  have hcell:(cB n (hdP x.LA x.Lc x.L))[i*1]? =some (.h (x.LA i) (x.L i).length (x.Lc i)):=cY hin
  have hcell2:(cB n λj=>aO (x.R j))[i*1]? =some (aO (x.R i)):=cY hin
  refine⟨k,⟨rfl,hkn,cA hkn⟩,_,(cY hkn).trans (by rw[<-hi]),?_⟩
  refine⟨bLt,by kernel_rfl,i,⟨rfl,hin,cA hin⟩,_,_,⟨hcell,rfl⟩,[],tI (z:=1) dC,rfl,rfl,rfl,λq hq=>⟨ck (congrArg gK hcell) (ck rfl (ck rfl rfl)),ck (congrArg gK hcell) (ck rfl (ck rfl rfl)),0,i,⟨rfl,hin,r1,r2,?_,?_,?_,?_⟩,λA' c'=>⟨ck (congrArg gK hcell) (ck rfl (ck rfl rfl)),k,⟨rfl,hkn,cA hkn⟩,_,fN (c:=.h A' ((x.L i).length+1) c') (Q:=λj=> .h (upd HA k A' j) (upd Hn k ((x.L i).length+1) j) (upd Hc k c' j)) hkn (λj _=>?_),?_⟩⟩⟩
  ·show(x.L i).length*4=(ecs (G i)).length
   rw[dH,r3]
  ·show(x.L i).length+1<=maxLen
   simp only[maxLen]
   omega
  ·show((x.L i).length+1)*64<=_
   omega
  ·intro c' hc'
   rcases List.mem_cons.1 hc' with rfl|hc'
   ·rfl
   exact cP _ c' hc'
  ·by_cases e:j=k
   ·subst e;rw[if_pos rfl,aT,aT,aT]
   rw[if_neg e,aP e,aP e,aP e]
  have hPP:PmL P.l n:=by rw[hPe];exact hP
  refine⟨bLu,by kernel_rfl,i,⟨rfl,hin,cA hin⟩,_,_,⟨hcell2,rfl⟩,[],bFk (x.R i) P (hx.row i hin) (hbe i hin) (aFi h1 n) hB (hx.ok i hin).1 hn hPP,rfl,rfl,rfl,λy ⟨rs,y1,y2,y3⟩=>⟨ck (congrArg gK hcell2) (ck rfl (ck rfl rfl)),k,⟨rfl,hkn,cA hkn⟩,_,fN (c:=aO y) (Q:=λj=>aO (upd S k y j)) hkn (λj _=>?_),(k+1:Nat),wi,bA hM2 (chg:=λg:FbG=>fbS n P g.k) (bls:=λg=>fbB ⟨n,n,md⟩ n A.length x A rw cl g) (fls:=λg=>fbF n x g) ⟨k+1,upd LA i A',upd Lc i c',upd G i (G i++[(⟨k,q⟩:EntM)]),upd HA k A',upd Hn k ((x.L i).length+1),upd Hc k c',upd S k y,upd Up k rs⟩ ⟨⟨hkn,λj hj=>?_,λj hj=>?_,λi' hi' ht'=>?_⟩,show n-(k+1)<n-k by omega⟩ rfl ⟨rfl,rfl,rfl,rfl,rfl,rfl,rfl,rfl,rfl,rfl,rfl,rfl,rfl,rfl⟩ ⟨zJ (T:=65) (n:=n) (A:=upd LA i A') (cap:=upd Lc i c') (G:=G) (j:=i) (e:=⟨k,q⟩),rfl,trivial⟩ ⟨rfl,rfl,rfl,rfl,rfl,rfl,rfl⟩ bL aSn rfl⟩⟩
  ·by_cases e:j=k
   ·subst e;rw[if_pos rfl,aT]
   rw[if_neg e,aP e]
  ·replace hj:j<k+1:=hj
   show Ek (upd S k y j).l (upd Up k rs j)∧Asc (upd Up k rs j)∧(upd Up k rs j).Perm _
   by_cases e:j=k
   ·subst e
    rw[aT,aT,<-hi]
    refine⟨y1,y2,?_⟩
    rw[hPe] at y3
    exact y3
   rw[aP e,aP e];exact hu j oM
  ·replace hj:j<k+1:=hj
   show(upd LA i A' (rw j)=upd HA k A' j∧upd Lc i c' (rw j)=upd Hc k c' j∧(upd G i (G i++[(⟨k,q⟩:EntM)]) (rw j)).length=upd Hn k _ j)∧Ek (upd G i (G i++[(⟨k,q⟩:EntM)]) (rw j)) _
   by_cases e:j=k
   ·subst e
    rw[<-hi]
    simp only[aT]
    rw[r3]
    exact⟨⟨trivial,trivial,by rw[List.length_append];rfl⟩,aFg hlo rfl hq⟩
   have e2:=hti j oM
   rw[aP e,aP e,aP e,aP e2,aP e2,aP e2]
   exact hd j oM
  replace ht':∀t,t<k+1->rw t≠i':=ht'
  have e2:i'≠i:=λe=>ht' k oM (by rw[e,hi])
  show upd LA i A' i'=_∧upd Lc i c' i'=_∧upd G i _ i'=_
  rw[aP e2,aP e2,aP e2]
  exact hr i' hi' λt ht=>ht' t oM
 replace h3:¬(k:Int)<(n:Nat):=h3
 obtain rfl:n=k:=by omega
 have hlu:=he.lu (Up:=Up) hpp (λi hi=>(hx.ok i hi).1) λj hj=>⟨(hu j hj).2.1,(hu j hj).2.2⟩
 obtain⟨SL,hSL⟩:∃SL:Nat->Sl EntM,SL=λj=>⟨(HA j).map λb=>⟨b,0,none⟩,Hc j,G (rw j)⟩:=⟨_,rfl⟩
 show Sd _ _ _ _ _ _
 refine mL tSd 4 0 (cB n λj=>aO (SL j)) rfl rfl rfl (by rw[bP,bP]) (zI λj hj=>?_) ?_
 ·obtain⟨⟨d1,d2,d3⟩,d4⟩:=hd j hj
  refine⟨rw j,Hn j,λk=>((G (rw j)).getD k default).C,he.rlt j hj,?_,?_,?_,λq hq=>jQ _ q oM⟩
  ·show CV.h (HA j) (Hn j) (Hc j)= .h (LA (rw j)) (Hn j) (Lc (rw j))
   rw[d1,d2]
  ·show aO (SL j)=CV.r ((LA (rw j)).map λb=>⟨b,0,none⟩) (Hn j) (Lc (rw j)) 4 _
   rw[hSL,d1,d2,<-d3];rfl
  show Hn j*4=(ecs (G (rw j))).length
  rw[dH,d3]
 refine qJ tSd 2 rfl bL (aE λ_ _=>rfl) bL rfl λA2 c2=>⟨_,sk (aE λ_ _=>rfl),_,sk (aE λ_ _=>rfl),_,sk (aE λ_ _=>rfl),_,rfl,_,sk (aE λ_ _=>rfl),_,sk (aE λ_ _=>rfl),_,sk (aE λ_ _=>rfl),_,sk (cI _),?_⟩
 refine mL tSd 6 2 [dO ⟨A2.map λb=>⟨b,0,none⟩,c2,nL n rw⟩,.s 3 n,iC n,iC n,.s 4 n,iC n,iC n,.s 5 n] rfl rfl rfl rfl (nK (k0:=0) rfl aIe) ?_
 refine qJ tSd 3 rfl bL (aE λ_ _=>rfl) bL rfl λA3 c3=>⟨_,rfl,_,sk (aE λ_ _=>rfl),_,sk (aE λ_ _=>rfl),_,rfl,_,sk (aE λ_ _=>rfl),_,sk (aE λ_ _=>rfl),_,sk (aE λ_ _=>rfl),_,sk (cI _),?_⟩
 refine mL tSd 6 3 [dO ⟨A2.map λb=>⟨b,0,none⟩,c2,nL n rw⟩,dO ⟨A3.map λb=>⟨b,0,none⟩,c3,nL n cl⟩,iC n,iC n,.s 4 n,iC n,iC n,.s 5 n] rfl rfl rfl rfl (nK (k0:=1) rfl aIe) ?_
 refine qJ tSd 4 rfl bL (aE λ_ _=>rfl) bL rfl λA4 c4=>⟨_,rfl,_,rfl,_,sk (aE λ_ _=>rfl),_,rfl,_,sk (aE λ_ _=>rfl),_,sk (aE λ_ _=>rfl),_,sk (aE λ_ _=>rfl),_,sk (cI _),?_⟩
 refine mL tSd 6 4 [dO ⟨A2.map λb=>⟨b,0,none⟩,c2,nL n rw⟩,dO ⟨A3.map λb=>⟨b,0,none⟩,c3,nL n cl⟩,iC n,iC n,gQ ⟨A4.map λb=>⟨b,0,none⟩,c4,eT SL n⟩,iC n,iC n,.s 5 n] rfl rfl rfl rfl (nK (k0:=4) rfl qP) ?_
 refine qJ tSd 5 rfl bL (aE λ_ _=>rfl) bL rfl λA5 c5=>⟨_,rfl,_,rfl,_,rfl,_,rfl,_,sk (aE λ_ _=>rfl),_,sk (aE λ_ _=>rfl),_,sk (aE λ_ _=>rfl),_,sk (cI _),?_⟩
 refine mL tSd 6 5 [dO ⟨A2.map λb=>⟨b,0,none⟩,c2,nL n rw⟩,dO ⟨A3.map λb=>⟨b,0,none⟩,c3,nL n cl⟩,iC n,iC n,gQ ⟨A4.map λb=>⟨b,0,none⟩,c4,eT SL n⟩,iC n,iC n,gQ ⟨A5.map λb=>⟨b,0,none⟩,c5,eT S n⟩] rfl rfl rfl rfl (nK (k0:=7) rfl qP) ?_
 refine aA gT mxd ⟨some (⟨⟨A2.map λb=>⟨b,0,none⟩,c2,nL n rw⟩,⟨A3.map λb=>⟨b,0,none⟩,c3,nL n cl⟩,⟨n,n,⟨A4.map λb=>⟨b,0,none⟩,c4,eT SL n⟩⟩,⟨n,n,⟨A5.map λb=>⟨b,0,none⟩,c5,eT S n⟩⟩⟩,rw,cl,λk=>lw (rw k)++[((k:Int),1)],Up),⟨⟨rfl,rfl,?_,?_⟩,hlu,?_,?_⟩,aN ⟨rfl,rfl⟩ rfl trivial⟩
 ·refine⟨rfl,rfl,iH,λj hj=>?_,λj hj=>?_⟩
  ·show Ek ((eT SL n).getD j cD).l _
   rw[lE hj,hSL];exact(hd j hj).2
  have:=aSo (he.lus j hj) hj
  exact⟨this,fS this⟩
 ·refine⟨rfl,rfl,iH,λj hj=>?_,λj hj=>?_⟩
  ·show Ek ((eT S n).getD j cD).l _
   rw[lE hj];exact(hu j hj).1
  have:=aSk hP (hx.ok _ (he.rlt j hj)).1 (hu j hj).2.1 (hu j hj).2.2
  exact⟨this,fS this⟩
 ·intro j hj e hem
  rcases List.mem_append.1 hem with hem|hem
  ·exact hbl _ (he.rlt j hj) e hem
  rw[List.mem_singleton.1 hem];exact aFl (aFi h1 n)
 intro j hj e hem
 obtain⟨e',he',rfl⟩:=List.mem_map.1 ((hu j hj).2.2.mem_iff.1 hem)
 exact hbe _ (he.rlt j hj) e' he'
theorem bFl (r s:RatM) {a:Rat} (hr:Rq r a 17179869184) (hs:Rq s a 17179869184):Ctr Tryz.prog aYn [] [.a r.C,.a s.C] [] (λ_:Unit=>⟨.c (iC 0),[],True⟩):=by
 refine⟨bIm,ClB.nil,λρ w vals hv hD hF=>?_⟩
 match vals,hv with
 |[v1,v2],⟨h1,h2,_⟩=>
  obtain⟨vn,vd,rfl,s1,s2⟩:=nI h1
  obtain⟨un,ud,rfl,t1,t2⟩:=nI h2
  exact(W.q_compare s1 hr.n.lm hr.n.ln s2 hr.ld hr.bd (sP hr) t1 hs.n.lm hs.n.ln t2 hs.ld hs.bd (sP hs)).mono λe w' ⟨v,he,hp,hx⟩=>⟨v,he,vL hD hF hx (by rw[hp];unfold W.cmpQ;rw[if_neg (by grind),if_neg (by grind)])⟩
abbrev fpG (g:Sl Int) (n k:Nat):List (Nat×DV):=[(16,.c (iC k)),(14,.c (dO g)),(15,.c (iC n)),(1,.c (iC n)),(5,.c (.s 0 n))]
abbrev aSr:FuncId:=143
theorem bLx:Ent Tryz.prog aSr:=Ent.of func143 rfl kR
theorem bLy:Tryz.prog.funcs[aSr]? =some Tryz.f143:=func143
theorem aSs (g:Sl Int) {n:Nat} (hp:PmL g.l n) (hn:n<=4096):Ctr Tryz.prog aSr [] [.c (dO g),.c (iC n)] [] (λ_:Unit=>⟨.c (.v (.bool true)),[],True⟩):=by
 obtain rfl:g.l.length=n:=hp.ln
 refine aX gT bLx bLy rfl rfl rfl bL ClB.nil (aA gT mxd ⟨λh=>absurd rfl h,λ_=>aA gT mxd ⟨g.l.length,⟨rfl,rfl,by show 1*g.l.length<=_;omega,by simp only[maxLen];omega⟩,?_⟩⟩)
 show Sd _ _ _ _ _ _
 refine eZ tSd 0 (cB g.l.length (bw λ_=>false)) rfl (by rw[bP,List.length_replicate]) (mE λ_ _=>LeC.refl _) ?_
 refine bV (λ_=>true) (λu:Nat×(Nat->Bool)=>fpG g g.l.length u.1) (λu=>ipB g.l.length u.2) (λ_=>[]) (λu=>u.1<=g.l.length∧SnP g.l u.1 u.2) (λu=>g.l.length-u.1) λhM=>⟨bA hM (chg:=λu:Nat×(Nat->Bool)=>fpG g g.l.length u.1) (bls:=λu=>ipB g.l.length u.2) (fls:=λ_=>[]) (0,λ_=>false) ⟨Nat.zero_le _,λj hj=>by cases hj⟩ rfl rfl trivial ⟨rfl,rfl,rfl,rfl,rfl⟩ bL zQ rfl,λ⟨k,s⟩ ⟨hk,hs⟩=>aA gT mxd ⟨λh2=>aA gT mxd ?_,λh2=>aA gT mxd ?_⟩⟩
 all_goals
  replace hk:k<=g.l.length:=hk
  replace hs:SnP g.l k s:=hs
 ·replace h2:(k:Int)<(g.l.length:Nat):=h2
  have hkl:k<g.l.length:=by omega
  obtain⟨m,hm,hmn⟩:=hp.at' k hkl
  have hf:=hs.not hp hkl hm
  have hc:(cB g.l.length (bw s))[m*1]? =some (jO (.bool false)):=(cY hmn).trans (by unfold bw;rw[hf];rfl)
  refine⟨k,⟨rfl,hkl⟩,m,λhq=>⟨hm,hmn,cA hmn⟩,_,λhq=>hc,?_⟩
  refine⟨λh3=>?_,λh3=>aA gT mxd ⟨m,⟨hm,hmn,cA hmn⟩,_,aSd hmn,(k+1:Nat),wi,bA hM (chg:=λu:Nat×(Nat->Bool)=>fpG g g.l.length u.1) (bls:=λu=>ipB g.l.length u.2) (fls:=λ_=>[]) (k+1,upd s m true) ⟨⟨hkl,hs.next hm⟩,show g.l.length-(k+1)<g.l.length-k by omega⟩ rfl rfl trivial ⟨rfl,rfl,rfl,rfl,rfl⟩ bL zQ rfl⟩⟩
  replace h3:(g.l.getD k 0<0∨((g.l.length:Nat):Int)<=g.l.getD k 0)∨(false=true):=h3
  rcases h3 with h3|h3
  ·omega
  cases h3
 exact aA gT mxd ⟨(),trivial,aN rfl rfl trivial⟩
structure LuG (f:LuM) (M:Nat->List En) (n:Nat) (rw cl:Nat->Nat) (Lw Up:Nat->List En) (F:Nat):Prop where
 R:f.R.l=nL n rw
 K:f.K.l=nL n cl
 L:Mx f.L Lw n
 U:Mx f.U Up n
 o:LuOk M n rw cl Lw Up
 bl:rbM Lw n F
 bu:rbM Up n F
abbrev wfB (n:Nat):BL:=[(3,0,[iC n])]
abbrev aSt:FuncId:=144
theorem bLz:Ent Tryz.prog aSt:=Ent.of func144 rfl kR
theorem bMa:Tryz.prog.funcs[aSt]? =some Tryz.f144:=func144
theorem aZd (m:MatM) {M:Nat->List En} {n B:Nat} (h:Mx m M n) (hb:rbM M n B) (hB:B<=17179869184) (hn:n<=4096):Ctr Tryz.prog aSt [true] [.a m.C,.c (.p 0 0)] (wfB n) (λ_:Unit=>⟨pC True,wfB n,True⟩):=by
 have hr:=h.r
 have hc:=h.c
 refine aX gT bLz bMa rfl rfl rfl bL (ClB.one rfl) (aA gT mxd ⟨λhq=>?_,λhq=>?_⟩)
 ·exact⟨[],aEq m h hb hB hn,rfl,rfl,rfl,λ_ _=>⟨(),trivial,dU Iff.rfl rfl bL (scB.cons rfl scB.nil) rfl (ClB.one rfl)⟩⟩
 exact absurd ⟨hr,hc⟩ hq
abbrev wfG (n k:Nat):List (Nat×DV):=[(37,.c (iC k)),(36,.c (iC n)),(2,.c (.p 0 0)),(6,.c (.p 2 0))]
abbrev aXh:FuncId:=119
theorem bQl:Ent Tryz.prog aXh:=Ent.of func119 rfl kR
theorem bQm:Tryz.prog.funcs[aXh]? =some Tryz.f119:=func119
theorem bQn (f:LuM) {M:Nat->List En} {n F:Nat} {rw cl:Nat->Nat} {Lw Up:Nat->List En} (h:LuG f M n rw cl Lw Up F) (hF:F<=17179869184) (h1:1<=F) (hn:n<=4096):Ctr Tryz.prog aXh [] [.a f.C,.c (iC n)] [] (λ_:Unit=>⟨.c (.v (.bool true)),[],True⟩):=by
 have pR:PmL f.R.l n:=by rw[h.R];exact aSl h.o.rlt h.o.rinj
 have pK:PmL f.K.l n:=by rw[h.K];exact aSl h.o.clt h.o.cinj
 refine aX gT bQl bQm rfl rfl rfl bL ClB.nil (aA gT mxd ⟨[],aSs f.R pR hn,rfl,rfl,rfl,λ_ _=>⟨[],aSs f.K pK hn,rfl,rfl,rfl,λ_ _=>?_⟩⟩)
 refine⟨_,rfl,[1],aZd f.L h.L h.bl hF hn,rfl,rfl,rfl,λ_ _=>?_⟩
 refine⟨λhq=>absurd trivial hq,λ_=>⟨_,rfl,[1],aZd f.U h.U h.bu hF hn,rfl,rfl,rfl,λ_ _=>⟨λhq=>absurd trivial hq,λ_=>aA gT mxd ⟨[],tI (z:=1) dC,rfl,rfl,rfl,λq hq=>?_⟩⟩⟩⟩
 replace hq:Cr q 1:=hq
 show Sd _ _ _ _ _ _
 refine bV (λ_=>true) (λk:Nat=>wfG n k) (λ_=>[(67,0,f.C),(3,0,[iC n]),(51,0,q.C)]) (λ_=>[]) (λk=>k<=n) (λk=>n-k) λhM=>⟨bA hM (chg:=λk:Nat=>wfG n k) (bls:=λ_=>[(67,0,f.C),(3,0,[iC n]),(51,0,q.C)]) (fls:=λ_=>[]) 0 (Nat.zero_le _) rfl ⟨rfl,rfl,rfl⟩ trivial ⟨rfl,rfl,rfl,rfl⟩ bL (scB.cons rfl (scB.cons rfl (scB.cons rfl scB.nil))) rfl,λk hk=>aA gT mxd ⟨λh2=>aA gT mxd ?_,λh2=>aA gT mxd ?_⟩⟩
 all_goals
  replace hk:k<=n:=hk
 ·replace h2:(k:Int)<(n:Nat):=h2
  have hkn:k<n:=by omega
  have lL:=h.L.ln
  have lU:=h.U.ln
  have eL:=h.L.row k hkn
  have eU:=h.U.row k hkn
  refine⟨.seq (sq 99 (List.range 14)),by kernel_rfl,k,⟨rfl,show k<f.L.d.l.length by omega⟩,k,⟨rfl,show k<f.U.d.l.length by omega⟩,?_⟩
  obtain⟨l,hl,hvl⟩:=h.o.low k hkn
  obtain⟨p,u,hu,hvu⟩:=h.o.up k hkn
  have ln1:(f.L.d.l.getD k cD).l.length=l.length+1:=by rw[eL.ln,hl];simp
  have ln2:0<(f.U.d.l.getD k cD).l.length:=by rw[eU.ln,hu];simp
  have e1:=eL.e l.length (by rw[hl];simp)
  have e2:=eU.e 0 (by rw[hu];simp)
  have hl2:(Lw k).getD l.length default=((k:Int),1):=by rw[hl];simp
  rw[hl2] at e1
  rw[hu] at e2
  have i1:((f.L.d.l.getD k cD).l.getD l.length default).ix=(k:Nat):=e1.1
  have i2:((f.U.d.l.getD k cD).l.getD 0 default).ix=(k:Nat):=e2.1
  have hll:=fS hvl
  have q1:Rq q 1 F:=hq.rq (aFl h1)
  have q2:Rq ((f.L.d.l.getD k cD).l.getD l.length default).v 1 F:=Cr.rq e1.2 (aFl h1)
  have ar:((l.length:Nat):Int)=IntKind.i64.wrap (((f.L.d.l.getD k cD).l.length:Nat)-1):=wi oM
  refine⟨.seq (sq 23 (List.range 26)),by kernel_rfl,(l.length:Nat),λ_=>ar,l.length,λ_=>⟨rfl,show l.length<(f.L.d.l.getD k cD).l.length by omega⟩,(l.length:Nat),λ_=>ar,l.length,λ_=>⟨rfl,show l.length<(f.L.d.l.getD k cD).l.length by omega⟩,?_⟩
  refine⟨λh3=>?_,λh3=>⟨[],bFl _ q (q2.le) (q1.le),rfl,rfl,rfl,λ_ _=>⟨λh4=>absurd rfl h4,λh4=>aA gT mxd ⟨0,λ_=>⟨rfl,ln2⟩,⟨λh5=>?_,λh5=>aA gT mxd ⟨(k+1:Nat),wi,bA hM (chg:=λk:Nat=>wfG n k) (bls:=λ_=>[(67,0,f.C),(3,0,[iC n]),(51,0,q.C)]) (fls:=λ_=>[]) (k+1) ⟨hkn,show n-(k+1)<n-k by omega⟩ rfl ⟨rfl,rfl,rfl⟩ trivial ⟨rfl,rfl,rfl,rfl⟩ bL (scB.cons rfl (scB.cons rfl (scB.cons rfl scB.nil))) rfl⟩⟩⟩⟩⟩⟩
  ·replace h3:(((f.L.d.l.getD k cD).l.length:Nat):Int)=0∨((f.L.d.l.getD k cD).l.getD l.length default).ix≠(k:Nat):=h3
   omega
  replace h5:(((f.U.d.l.getD k cD).l.length:Nat):Int)=0∨((f.U.d.l.getD k cD).l.getD 0 default).ix≠(k:Nat):=h5
  omega
 exact aA gT mxd ⟨(),trivial,aN rfl rfl trivial⟩
abbrev aSu:FuncId:=75
theorem bMb:Ent Tryz.prog aSu:=Ent.of func75 rfl kR
theorem bMc:Tryz.prog.funcs[aSu]? =some Tryz.f75:=func75
theorem bMd (f:LuM) (b:Sl RatM) {M:Nat->List En} {n F:Nat} {rw cl:Nat->Nat} {Lw Up:Nat->List En} (h:LuG f M n rw cl Lw Up F) (hF:F<=17179869184) (h1:1<=F) (hn:n<=4096) (hb:b.l.length=n):Ctr Tryz.prog aSu [] [.a f.C,.c (cN b)] [] (λ_:Unit=>⟨.c (iC 0),[],True⟩):=by
 have hR:f.R.l.length=n:=by rw[h.R];simp
 have hw:Ctr Tryz.prog aXh [] [.a f.C,.c (iC (f.R.l.length:Nat))] [] (λ_:Unit=>⟨.c (.v (.bool true)),[],True⟩):=by rw[hR];exact bQn f h hF h1 hn
 refine aX gT bMb bMc rfl rfl rfl bL ClB.nil (aA gT mxd ?_)
 refine⟨[],hw,rfl,rfl,rfl,λ_ _=>⟨λh2=>?_,λ_=>aA gT mxd ⟨(),trivial,aN rfl rfl trivial⟩⟩⟩
 replace h2:¬((b.l.length:Nat):Int)=(f.R.l.length:Nat):=h2
 omega
end Go.Proofs.YtlhdigjbokkbiaaGreat
