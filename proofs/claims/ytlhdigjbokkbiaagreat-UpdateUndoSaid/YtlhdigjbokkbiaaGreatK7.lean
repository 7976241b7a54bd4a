/- For every input the law UpdateUndo returns true, and what came in reads as it did. Part 7 of 7: Sk Sl Vys Vyu Sm Sn So Sp Sq Sr Ss St Su Sv Sw Zu. -/
import Derived.RangeFuncSeq
import Derived.RangeFuncLeaves
import Derived.Test.YtlhdigjbokkbiaaGreatRows
import Derived.WalkKit
import Derived.ProofKit
import Derived.OpenShut
import Derived.JoinedCond
import Derived.ShutString
import Derived.ChangeOld
import Derived.Below
import Derived.Deep.SlicePairs
import Derived.Test.YtlhdigjbokkbiaaGreatK6
set_option maxHeartbeats 4000000
set_option linter.unusedVariables false
set_option linter.unusedSimpArgs false
namespace Go.Proofs.YtlhdigjbokkbiaaGreat
open Go.Vg _root_.Go.Proofs.Tryz
open Go.Vm hiding sg sg_t sg_f sg_abs sg_add sg_mul bF aU bG cM
open Go.Vy hiding val
def fwd (lo:Nat->List En) (b:Nat->Rat):Nat->Nat->Rat
 |0=>λ_=>0
 |i+1=>upd (fwd lo b i) i (b i-dtl (lo i) (fwd lo b i))
theorem zR {lo:Nat->List En} {b:Nat->Rat}:∀{n:Nat},(∀k,k<n->VOk (lo k) (k:Nat))->∀k,k<n->fwd lo b n k=b k-dtl (lo k) (fwd lo b n)
 |0,_,k,h=>absurd h (Nat.not_lt_zero _)
 |n+1,h,k,hk=>by
  have hc:dtl (lo k) (fwd lo b (n+1))=dtl (lo k) (fwd lo b n):=fT λe he=>by
   have:=(h k hk).2 e he
   exact aP oM
  rw[hc]
  by_cases e:k=n
  ·subst e;exact aT
  show upd _ n _ k=_
  rw[aP e,zR (λk hk=>h k oM) k oM]
theorem aXi {lo:Nat->List En} {b w:Nat->Rat} {n:Nat} (h:∀k,k<n->VOk (lo k) (k:Nat)):(∀k,k<n->dtl (lo k) w+w k=b k)↔∀k,k<n->w k=fwd lo b n k:=by
 constructor
 ·intro hw k
  induction k using Nat.strongRecOn with
  |ind k ih=>
   intro hk
   rw[zR h k hk,<-fT (x:=w) λe he=>by
    have:=(h k hk).2 e he
    exact ih e.1.toNat oM oM]
   have:=hw k hk
   grind
 intro hw k hk
 rw[hw k hk,fT (y:=fwd lo b n) λe he=>by
  have:=(h k hk).2 e he
  exact hw e.1.toNat oM,zR h k hk]
 grind
def bwd (us:Nat->List En) (p:Nat->Rat) (n:Nat) (z:Nat->Rat):Nat->Nat->Rat
 |0=>z
 |k+1=>upd (bwd us p n z k) (n-1-k) ((bwd us p n z k (n-1-k)-dtl (us (n-1-k)) (bwd us p n z k))/p (n-1-k))
theorem aFm {us:Nat->List En} {p z:Nat->Rat} {n:Nat} (h:∀i,i<n->∀e∈us i,(i:Int)<e.1∧e.1<(n:Nat)):∀k,k<=n->(∀i,i<n-k->bwd us p n z k i=z i)∧∀i,n-k<=i->i<n->bwd us p n z k i=(z i-dtl (us i) (bwd us p n z k))/p i
 |0,_=>⟨λi _=>rfl,λi h1 h2=>by omega⟩
 |k+1,hk=>by
  obtain⟨h1,h2⟩:=aFm h k oM
  have hc:∀i,n-1-k<=i->i<n->dtl (us i) (bwd us p n z (k+1))=dtl (us i) (bwd us p n z k):=λi hi hin=>fT λe he=>by
   have:=h i hin e he
   exact aP oM
  refine⟨λi hi=>?_,λi hi hin=>?_⟩
  ·show upd _ _ _ i=_
   rw[aP oM];exact h1 i oM
  rw[hc i oM hin]
  show upd _ _ _ i=_
  by_cases e:i=n-1-k
  ·subst e;rw[aT,h1 _ oM]
  rw[aP e];exact h2 i oM hin
theorem aXj {us:Nat->List En} {p y z:Nat->Rat} {n:Nat} (h:∀i,i<n->∀e∈us i,(i:Int)<e.1∧e.1<(n:Nat)) (hp:∀i,i<n->p i≠0):(∀i,i<n->p i*y i+dtl (us i) y=z i)↔∀i,i<n->y i=bwd us p n z n i:=by
 have he:=λi (hi:i<n)=>(aFm (p:=p) (z:=z) h n (Nat.le_refl n)).2 i oM hi
 constructor
 ·intro hy
  have key:∀d i,i<n->n-i=d->y i=bwd us p n z n i:=λd=>by
   induction d using Nat.strongRecOn with
   |ind d ih=>
    intro i hi hd
    rw[he i hi,<-fT (x:=y) λe hm=>by
     have:=h i hi e hm
     exact ih (n-e.1.toNat) oM e.1.toNat oM rfl,<-hy i hi]
    have:=hp i hi
    rw[Rat.div_def,Rat.add_comm,Rat.sub_eq_add_neg]
    have e1:dtl (us i) y+p i*y i+ -dtl (us i) y=y i*p i:=by grind
    rw[e1,Rat.mul_assoc,Rat.mul_inv_cancel _ this,Rat.mul_one]
  exact λi hi=>key _ i hi rfl
 intro hy i hi
 rw[hy i hi,fT (y:=bwd us p n z n) λe hm=>by
  have:=h i hi e hm
  exact hy e.1.toNat oM]
 rw[he i hi,Rat.div_def]
 have:=hp i hi
 have e1:p i*((z i-dtl (us i) (bwd us p n z n))*(p i)⁻¹)=(z i-dtl (us i) (bwd us p n z n))*(p i*(p i)⁻¹):=by grind
 rw[e1,Rat.mul_inv_cancel _ this,Rat.mul_one]
 grind
def Sol (M:Nat->List En) (n:Nat) (b xv:Nat->Rat):Prop:=∀x:Nat->Rat,(∀k,k<n->dtn n (M k) x=b k)↔∀c,c<n->x c=xv c
structure LuP (n:Nat) (Lw Up lo us:Nat->List En) (p:Nat->Rat):Prop where
 lo:∀k,k<n->Lw k=lo k++[((k:Int),1)]∧VOk (lo k) (k:Nat)
 us:∀k,k<n->Up k=((k:Int),p k)::us k∧(∀e∈us k,(k:Int)<e.1∧e.1<(n:Nat))∧(us k).length<=n-1-k
 p:∀k,k<n->p k≠0
theorem LuOk.parts {M:Nat->List En} {n:Nat} {rw cl:Nat->Nat} {Lw Up:Nat->List En} (h:LuOk M n rw cl Lw Up):∃lo us p,LuP n Lw Up lo us p:=by
 refine⟨λk=>(Lw k).dropLast,λk=>(Up k).tail,λk=>((Up k).headD default).2,λk hk=>?_,λk hk=>?_,λk hk=>?_⟩
 ·obtain⟨l,h1,h2⟩:=h.low k hk
  show Lw k=(Lw k).dropLast++_∧VOk (Lw k).dropLast _
  rw[h1,List.dropLast_concat];exact⟨rfl,h2⟩
 ·obtain⟨p,u,h1,h2⟩:=h.up k hk
  show Up k=(_,((Up k).headD default).2)::(Up k).tail∧_
  rw[h1] at h2 ⊢
  have hin:∀e∈u,(k:Int)<e.1∧e.1<(n:Nat):=λe he=>⟨h2.1.head e he,(h2.2 e (.tail _ he)).2.1⟩
  refine⟨rfl,hin,?_⟩
  have h3:(u.map λe:En=>(e.1-(k:Int)-1).toNat).Nodup:=by
   rw[List.nodup_iff_pairwise_ne,List.pairwise_map]
   refine h2.1.tail.imp_of_mem λ{a b} ha hb hab he=>?_
   have:=hin a ha
   have:=hin b hb
   have:a.1<b.1:=hab
   omega
  have:=lI (n:=n-1-k) h3 λi hi=>by
   obtain⟨e,he,rfl⟩:=List.mem_map.1 hi
   have:=hin e he
   omega
  rwa [List.length_map] at this
 obtain⟨p,u,h1,h2⟩:=h.up k hk
 show((Up k).headD default).2≠0
 rw[h1] at h2 ⊢
 exact(h2.2 _ (.head _)).2.2
theorem LuOk.sol {M:Nat->List En} {n:Nat} {rw cl:Nat->Nat} {Lw Up lo us:Nat->List En} {p:Nat->Rat} (h:LuOk M n rw cl Lw Up) (hP:LuP n Lw Up lo us p) {b xv:Nat->Rat} (hx:∀i,i<n->xv (cl i)=bwd us p n (fwd lo (λi=>b (rw i)) n) n i):Sol M n b xv:=λx=>by
 have hU:∀k,k<n->dtn n (Up k) (λi=>x (cl i))=p k*x (cl k)+dtl (us k) (λi=>x (cl i)):=λk hk=>by
  obtain⟨h1,h2,_⟩:=hP.us k hk
  rw[<-tS λe he=>by
   rw[h1] at he
   rcases List.mem_cons.1 he with rfl|he
   ·exact⟨by show(0:Int)<=(k:Nat);omega,by show(k:Int)<(n:Nat);omega⟩
   have:=h2 e he;exact⟨by omega,this.2⟩,h1]
  rfl
 have hL:∀k,k<n->∀w,dtl (Lw k) w=dtl (lo k) w+w k:=λk hk w=>by
  rw[(hP.lo k hk).1,nQ]
  show _+(1:Rat)*w k=_
  rw[Rat.one_mul]
 have e1:(∀k,k<n->dtn n (M k) x=b k)↔∀k,k<n->dtl (lo k) (λj=>dtn n (Up j) λi=>x (cl i))+dtn n (Up k) (λi=>x (cl i))=b (rw k):=by
  constructor
  ·intro hh k hk
   rw[<-hL k hk,<-h.eq k hk]
   exact hh _ (h.rlt k hk)
  intro hh k hk
  obtain⟨j,hj,rfl⟩:=qX h.rlt h.rinj k hk
  rw[h.eq j hj,hL j hj]
  exact hh j hj
 have e2:=aXi (b:=λi=>b (rw i)) (w:=λj=>dtn n (Up j) λi=>x (cl i)) λk hk=>(hP.lo k hk).2
 have e3:=aXj (y:=λi=>x (cl i)) (z:=fwd lo (λi=>b (rw i)) n) (λi hi=>(hP.us i hi).2.1) hP.p
 rw[e1]
 refine e2.trans ⟨λhh=>?_,λhh k hk=>?_⟩
 ·have h4:=e3.1 λi hi=>by rw[<-hh i hi];exact(hU i hi).symm
  intro c hc
  obtain⟨j,hj,rfl⟩:=qX h.clt h.cinj c hc
  rw[hx j hj];exact h4 j hj
 have h4:=e3.2 λi hi=>(hh _ (h.clt i hi)).trans (hx i hi)
 exact(hU k hk).trans (h4 k hk)
set_option maxRecDepth 8000
def zb (B F:Nat):Nat->Nat
 |0=>B
 |i+1=>zb B F i+i*(F+zb B F i+1)
theorem aSv {B F k n:Nat} (h:k<=n):zb B F k<=zb B F n:=by
 induction h with
 |refl=>exact Nat.le_refl _
 |step _ ih=>exact Nat.le_trans ih (Nat.le_add_right _ _)
def yb (Z F:Nat):Nat->Nat
 |0=>Z
 |k+1=>yb Z F k+k*(F+yb Z F k+1)+F
theorem aSw {Z F k n:Nat} (h:k<=n):yb Z F k<=yb Z F n:=by
 induction h with
 |refl=>exact Nat.le_refl _
 |step _ ih=>exact Nat.le_trans ih (by show _<=yb Z F _+_+F;omega)
theorem sR {P Q:Nat->List CV} (h:∀j,(P j).length=(Q j).length∧∀(k:Nat) (c c':CV),(P j)[k]? =some c->(Q j)[k]? =some c'->LeC c c'):∀n,(flatR n P).length=(flatR n Q).length∧∀(k:Nat) (c c':CV),(flatR n P)[k]? =some c->(flatR n Q)[k]? =some c'->LeC c c'
 |0=>⟨rfl,λk c c' h1=>by cases h1⟩
 |n+1=>by
  obtain⟨i1,i2⟩:=sR h n
  obtain⟨j1,j2⟩:=h n
  rw[dK,dK]
  refine⟨by rw[List.length_append,List.length_append,i1,j1],λk c c' h1 h2=>?_⟩
  by_cases hk:k<(flatR n P).length
  ·rw[List.getElem?_append_left hk] at h1
   rw[List.getElem?_append_left oM] at h2
   exact i2 k c c' h1 h2
  rw[List.getElem?_append_right oM] at h1
  rw[List.getElem?_append_right oM,<-i1] at h2
  exact j2 _ c c' h1 h2
theorem zS {n:Nat}:(flatR n λ_=>(default:RatM).C).length=((List.replicate n pE).flatten).length∧∀(k:Nat) (c c':CV),((List.replicate n pE).flatten)[k]? =some c->(flatR n λ_=>(default:RatM).C)[k]? =some c'->LeC c c':=by
 obtain⟨h1,h2⟩:=sR (P:=λ_=>pE) (Q:=λ_=>(default:RatM).C) (λ_=>⟨rfl,aBy⟩) n
 rw[<-tM]
 exact⟨h1.symm,h2⟩
abbrev rtC (n:Nat) (Z:Nat->RatM):List CV:=flatR n λj=>(Z j).C
theorem fC {n k:Nat} {Z:Nat->RatM} (h:k<n):k*3<(rtC n Z).length:=aEo (λ_=>rfl) h
theorem iA {n k:Nat} {Z:Nat->RatM} (h:k<n):((rtC n Z).drop (k*3)).take 3=(Z k).C∧(Z k).C.length=3:=bDg (λ_=>rfl) h rfl
theorem mG {n k:Nat} {Z:Nat->RatM} {g:RatM} (h:k<n):fG (rtC n Z) (k*3) g.C=rtC n (upd Z k g)∧k*3+g.C.length<=(rtC n Z).length:=zG (λ_=>rfl) h rfl λj _=>by
 by_cases e:j=k
 ·subst e;rw[if_pos rfl,aT]
 rw[if_neg e,aP e]
theorem dD {n:Nat} {Z:Nat->RatM}:∀c∈rtC n Z,cW c=true:=pG (λ_=>cP _) n
abbrev aFn (f:LuM) (n:Nat) (Z:Nat->RatM):BL:=[(67,0,f.C),(51,3,rtC n Z)]
theorem tT {f:LuM} {n:Nat} {Z:Nat->RatM}:scB 2 (aFn f n Z):=scB.cons rfl (scB.cons (aZ dD) scB.nil)
abbrev aXk (b:Sl RatM) (n i:Nat):List (Nat×DV):=[(31,.c (iC i)),(30,.c (iC n)),(1,.c (cN b)),(2,.c (.p 0 0)),(7,.c (iC n)),(8,.c (.s 1 n))]
abbrev bFm (b:Sl RatM) (n i:Nat) (A:Option Addr) (c m:Nat) (row:Sl EntM) (t:Nat):List (Nat×DV):=(57,.c (iC t))::(55,.c (.r A m c 4 λj=>(row.l.getD j default).C))::(56,.c (iC m))::(9,.c (iC i))::aXk b n i
abbrev aFo (f:LuM) (n:Nat) (Z X:Nat->RatM):BL:=[(67,0,f.C),(51,3,rtC n Z),(51,3,rtC n X)]
theorem tU {f:LuM} {n:Nat} {Z X:Nat->RatM}:scB 3 (aFo f n Z X):=scB.cons rfl (scB.cons (aZ dD) (scB.cons (aZ dD) scB.nil))
abbrev aXl (n k:Nat):List (Nat×DV):=[(81,.c (iC k)),(80,.c (iC n)),(2,.c (.p 0 0)),(7,.c (iC n)),(8,.c (.s 1 n)),(13,.c (.s 2 n))]
abbrev bFn (n k i:Nat) (A:Option Addr) (c m:Nat) (row:Sl EntM) (t:Nat):List (Nat×DV):=(97,.c (iC t))::(95,.c (.r A m c 4 λj=>(row.l.getD (j+1) default).C))::(96,.c (iC m))::(15,.c (iC i))::(16,.c (aO row))::aXl n k
theorem bFo {f:Nat->Nat} {n:Nat} (_:∀j,j<n->f j<n) (hi:∀i j,i<n->j<n->f i=f j->i=j) (y:Nat->Rat):∃x:Nat->Rat,∀j,j<n->x (f j)=y j:=by
 classical
 refine⟨λc=>if h:∃j,j<n∧f j=c then y h.choose else 0,λj hj=>?_⟩
 have h:∃j',j'<n∧f j'=f j:=⟨j,hj,rfl⟩
 show(if h:∃j',j'<n∧f j'=f j then y h.choose else 0)=y j
 rw[dif_pos h]
 exact congrArg y (hi _ _ h.choose_spec.1 hj h.choose_spec.2)
theorem swl {i j:Nat} {l:List CV} (h:∀c∈l,cW c=true):l.map (swC i j)=l:=(List.map_congr_left λc hc=>aC c (h c hc)).trans (List.map_id _)
theorem wE (a:Rat):a-0=a:=by grind
abbrev zT:FuncId:=39
theorem aXm:Ent Tryz.prog zT:=Ent.of func39 rfl kR
theorem aXn:Tryz.prog.funcs[zT]? =some Tryz.f39:=func39
theorem aSx (f:LuM) (b:Sl RatM) {M:Nat->List En} {n F B:Nat} {rw cl:Nat->Nat} {Lw Up:Nat->List En} {bv:Nat->Rat} (h:LuG f M n rw cl Lw Up F) (h1:1<=F) (hn:n<=4096) (hb:b.l.length=n) (hbv:∀k,k<n->Cr (b.l.getD k default) (bv k)∧rb (bv k) B) (h1B:1<=B) (hF:F<=17179869184) (hB:yb (zb B F n) F n<=17179869184):
 Ctr Tryz.prog zT [true] [.a f.C,.c (cN b)] [] (λg:(Nat->RatM)×(Nat->Rat)=>⟨.t [.c (.s 0 n),.c (iC 0)],[(51,3,rtC n g.1)],Sol M n bv g.2∧∀c,c<n->Cr (g.1 c) (g.2 c)∧rb (g.2 c) (yb (zb B F n) F n)⟩):=by
 obtain⟨lo,us,p,hP⟩:=h.o.parts
 have hZB:zb B F n<=17179869184:=Nat.le_trans (aSw (Nat.zero_le n)) hB
 have hR:f.R.l.length=n:=by rw[h.R];simp
 have hRi:((f.R.l.length:Nat):Int)=(n:Nat):=by rw[hR]
 have hRc:iC (f.R.l.length:Nat)=iC (n:Nat):=by rw[hR]
 obtain⟨ζ,hζ⟩:∃ζ,ζ=fwd lo (λi=>bv (rw i)) n:=⟨_,rfl⟩
 have eζ:∀k,k<n->ζ k=bv (rw k)-dtl (lo k) ζ:=λk hk=>by rw[hζ];exact zR (b:=λi=>bv (rw i)) (λk hk=>(hP.lo k hk).2) k hk
 refine aX gT aXm aXn rfl rfl rfl bL (λi T es l hi=>by cases hi) (aA gT mxd ⟨[],bMd f b h hF h1 hn hb,rfl,rfl,rfl,λ_ _=>⟨λhh=>absurd rfl hh,λ_=>aA gT mxd ⟨n,⟨hRi,hRi,by show 56*n<=_;omega,by simp only[maxLen];omega⟩,?_⟩⟩⟩)
 show Sd _ _ _ _ _ _
 refine eZ tSd 1 (rtC n λ_=>default) rfl zS.1 zS.2 ?_
 refine bV (λ_=>true) (λg:Nat×(Nat->RatM)=>aXk b n g.1) (λg=>aFn f n g.2) (λ_=>[]) (λg=>g.1<=n∧∀j,j<g.1->Rq (g.2 j) (ζ j) (zb B F g.1)) (λg=>n-g.1) λhM=>⟨bA hM (chg:=λg:Nat×(Nat->RatM)=>aXk b n g.1) (bls:=λg=>aFn f n g.2) (fls:=λ_=>[]) (0,λ_=>default) ⟨Nat.zero_le _,λj hj=>absurd hj (Nat.not_lt_zero _)⟩ rfl ⟨rfl,rfl⟩ trivial ⟨rfl,hRi,rfl,rfl,hRi,rfl⟩ bL tT rfl,λ⟨i,Z⟩ ⟨hi,hZ⟩=>aA gT mxd ⟨λh2=>aA gT mxd ?_,λh2=>aA gT mxd ?_⟩⟩
 all_goals
  replace hi:i<=n:=hi
  replace hZ:∀j,j<i->Rq (Z j) (ζ j) (zb B F i):=hZ
 ·replace h2:(i:Int)<(n:Nat):=h2
  have hin:i<n:=by omega
  have hri:=h.o.rlt i hin
  have hix:f.R.l.getD i 0=(rw i:Nat):=by rw[h.R];exact sQ hin
  have lL:=h.L.ln
  have eL:=h.L.row i hin
  obtain⟨hl,hvl⟩:=hP.lo i hin
  have ln1:(f.L.d.l.getD i cD).l.length=(lo i).length+1:=by rw[eL.ln,hl];simp
  have hll:=fS hvl
  refine⟨i,⟨rfl,show i<f.R.l.length by omega⟩,rw i,⟨hix,show rw i<b.l.length by omega⟩,i,⟨rfl,hin,fC hin⟩,_,mG hin,i,⟨rfl,show i<f.L.d.l.length by omega⟩,((lo i).length:Nat),wi (by show(((lo i).length:Nat):Int)=(((f.L.d.l.getD i cD).l.length:Nat):Int)-1∧_<=(((f.L.d.l.getD i cD).l.length:Nat):Int)-1∧(((f.L.d.l.getD i cD).l.length:Nat):Int)-1<=_;omega),(lo i).length,⟨rfl,show(lo i).length<=(f.L.d.l.getD i cD).l.length by omega⟩,?_⟩
  obtain⟨row,hrow⟩:∃row,row=f.L.d.l.getD i cD:=⟨_,rfl⟩
  rw[<-hrow] at eL ln1
  show Sd _ _ _ _ _ _
  refine bV (λ_=>true) (λg:Nat×(Nat->RatM)=>bFm b n i row.A row.c (lo i).length row g.1) (λg=>aFn f n g.2) (λ_=>[]) (λg=>g.1<=(lo i).length∧(∀j,j<i->Rq (g.2 j) (ζ j) (zb B F i))∧Rq (g.2 i) (bv (rw i)-dtl ((lo i).take g.1) ζ) (B+g.1*(F+zb B F i+1))∧rb (bv (rw i)-dtl ((lo i).take g.1) ζ) (B+g.1*(F+zb B F i+1))) (λg=>(lo i).length-g.1) λhM2=>⟨bA hM2 (chg:=λg:Nat×(Nat->RatM)=>bFm b n i row.A row.c (lo i).length row g.1) (bls:=λg=>aFn f n g.2) (fls:=λ_=>[]) (0,upd Z i (b.l.getD (rw i) default)) ⟨Nat.zero_le _,λj hj=>?_,?_,?_⟩ rfl ⟨rfl,rfl⟩ trivial ?_ bL tT rfl,λ⟨t,Z'⟩ ⟨ht,hZ',hq,hqr⟩=>aA gT mxd ⟨λh3=>aA gT mxd ?_,λh3=>aA gT mxd ?_⟩⟩
  ·show Rq (upd Z i _ j) _ _
   rw[aP oM];exact hZ j hj
  ·show Rq (upd Z i _ i) (bv (rw i)-0) (B+0*(F+zb B F i+1))
   rw[aT,wE,Nat.zero_mul]
   exact Cr.rq (hbv _ hri).1 (hbv _ hri).2
  ·show rb (bv (rw i)-0) (B+0*(F+zb B F i+1))
   rw[wE,Nat.zero_mul]
   exact(hbv _ hri).2
  ·exact⟨rfl,by rw[hrow];rfl,rfl,rfl,rfl,rfl,rfl,rfl,rfl,rfl⟩
  all_goals
   replace ht:t<=(lo i).length:=ht
   replace hZ':∀j,j<i->Rq (Z' j) (ζ j) (zb B F i):=hZ'
   replace hq:Rq (Z' i) (bv (rw i)-dtl ((lo i).take t) ζ) (B+t*(F+zb B F i+1)):=hq
   replace hqr:rb (bv (rw i)-dtl ((lo i).take t) ζ) (B+t*(F+zb B F i+1)):=hqr
   have hb1:B<=zb B F i:=aSv (Nat.zero_le i)
   have hb2:zb B F (i+1)<=17179869184:=Nat.le_trans (aSv hin) hZB
   have hb3:zb B F (i+1)=zb B F i+i*(F+zb B F i+1):=rfl
  ·replace h3:(t:Int)<((lo i).length:Nat):=h3
   have htl:t<(lo i).length:=by omega
   have hb4:(t+1)*(F+zb B F i+1)<=i*(F+zb B F i+1):=Nat.mul_le_mul_right _ oM
   rw[Nat.succ_mul] at hb4
   have e0:=hvl.2 _ (dW htl)
   have er:=eL.e t (by rw[hl];simp;omega)
   rw[show(Lw i).getD t default=(lo i).getD t default by rw[hl,List.getD_eq_getElem?_getD,List.getElem?_append_left htl,List.getD_eq_getElem?_getD]] at er
   obtain⟨j0,hj0⟩:∃j0:Nat,((lo i).getD t default).1=(j0:Nat):=⟨((lo i).getD t default).1.toNat,by omega⟩
   have hji:j0<i:=by omega
   have hix0:(row.l.getD t default).ix=(j0:Nat):=er.1.trans hj0
   have hev:rb ((lo i).getD t default).2 F:=h.bl i hin _ (by rw[hl];exact List.mem_append_left _ (dW htl))
   have hz0:=hZ' j0 hji
   have hm:=gH hev (hz0.rb oM)
   have hd:bv (rw i)-dtl ((lo i).take (t+1)) ζ=bv (rw i)-dtl ((lo i).take t) ζ-((lo i).getD t default).2*ζ j0:=by
    rw[rQ htl,nQ,hj0,Int.toNat_natCast];grind
   have hs:=tK hqr hm
   rw[<-hd] at hs
   have hs':rb (bv (rw i)-dtl ((lo i).take (t+1)) ζ) (B+(t+1)*(F+zb B F i+1)):=hs.le (by rw[Nat.succ_mul];omega)
   have hk:=aHk (Z' i) (row.l.getD t default).v (Z' j0) (B:=B+(t+1)*(F+zb B F i+1)) (hq.le oM) ((Cr.rq er.2 hev).le) (hz0.le oM) (hm.le oM) (by rw[<-hd];exact hs') (hq.le (by rw[Nat.succ_mul];omega))
   rw[<-hd] at hk
   refine⟨t,⟨rfl,htl⟩,.seq ((List.range 16).map λi=>(i,i==15)),by kernel_rfl,i,⟨rfl,hin,fC hin⟩,_,iA hin,j0,⟨hix0,by omega,fC oM⟩,_,iA oM,[],hk,rfl,rfl,rfl,λg hg=>⟨i,⟨rfl,hin,fC hin⟩,_,mG hin,(t+1:Nat),wi,bA hM2 (chg:=λg:Nat×(Nat->RatM)=>bFm b n i row.A row.c (lo i).length row g.1) (bls:=λg=>aFn f n g.2) (fls:=λ_=>[]) (t+1,upd Z' i g) ⟨⟨htl,λj hj=>?_,?_,hs'⟩,show(lo i).length-(t+1)<(lo i).length-t by omega⟩ rfl ⟨rfl,rfl⟩ trivial ⟨rfl,rfl,rfl,rfl,rfl,rfl,rfl,rfl,rfl,rfl⟩ bL tT rfl⟩⟩
   ·show Rq (upd Z' i g j) _ _
    rw[aP oM];exact hZ' j hj
   show Rq (upd Z' i g i) _ _
   rw[aT];exact hg
  replace h3:¬(t:Int)<((lo i).length:Nat):=h3
  obtain rfl:t=(lo i).length:=by omega
  have hb4:(lo i).length*(F+zb B F i+1)<=i*(F+zb B F i+1):=Nat.mul_le_mul_right _ hll
  rw[List.take_length,<-eζ i hin] at hq
  refine⟨(i+1:Nat),wi,bA hM (chg:=λg:Nat×(Nat->RatM)=>aXk b n g.1) (bls:=λg=>aFn f n g.2) (fls:=λ_=>[]) (i+1,Z') ⟨⟨hin,λj hj=>?_⟩,show n-(i+1)<n-i by omega⟩ rfl ⟨rfl,rfl⟩ trivial ⟨rfl,rfl,rfl,rfl,rfl,rfl⟩ bL tT rfl⟩
  replace hj:j<i+1:=hj
  show Rq (Z' j) (ζ j) (zb B F (i+1))
  by_cases e:j=i
  ·subst e;exact hq.le oM
  exact(hZ' j oM).le oM
 replace h2:¬(i:Int)<(n:Nat):=h2
 obtain rfl:n=i:=by omega
 obtain⟨y,hy⟩:∃y,y=bwd us p n ζ n:=⟨_,rfl⟩
 have ey:∀k,k<n->y k=(ζ k-dtl (us k) y)/p k:=λk hk=>by rw[hy];exact(aFm (λi hi=>(hP.us i hi).2.1) n (Nat.le_refl n)).2 k oM hk
 obtain⟨ZB,hZe⟩:∃ZB,ZB=zb B F n:=⟨_,rfl⟩
 rw[<-hZe] at hZ hB hZB
 have hZ1:1<=ZB:=by rw[hZe];exact Nat.le_trans h1B (aSv (Nat.zero_le n))
 refine aA gT mxd ⟨n,⟨rfl,rfl,by show 56*n<=_;omega,by simp only[maxLen];omega⟩,?_⟩
 show Sd _ _ _ _ _ _
 refine eZ tSd 2 (rtC n λ_=>default) rfl zS.1 zS.2 ?_
 refine bV (λ_=>true) (λg:Nat×(Nat->RatM)×(Nat->RatM)=>aXl n g.1) (λg=>aFo f n g.2.1 g.2.2) (λ_=>[]) (λg=>g.1<=n∧(∀j,j<n-g.1->Rq (g.2.1 j) (ζ j) ZB)∧(∀j,n-g.1<=j->j<n->Rq (g.2.1 j) (y j) (yb ZB F g.1))∧∀j,n-g.1<=j->j<n->Cr (g.2.2 (cl j)) (y j)∧rb (y j) (yb ZB F g.1)) (λg=>n-g.1) λhM=>⟨bA hM (chg:=λg:Nat×(Nat->RatM)×(Nat->RatM)=>aXl n g.1) (bls:=λg=>aFo f n g.2.1 g.2.2) (fls:=λ_=>[]) (0,Z,λ_=>default) ⟨Nat.zero_le _,λj hj=>hZ j hj,λj h4 h5=>absurd h4 (by show ¬n-0<=j;omega),λj h4 h5=>absurd h4 (by show ¬n-0<=j;omega)⟩ rfl ⟨rfl,rfl,rfl⟩ trivial ⟨rfl,rfl,rfl,rfl,rfl,rfl⟩ bL tU rfl,λ⟨k,Z,X⟩ ⟨hk,hZ,hY,hX⟩=>aA gT mxd ⟨λh2=>aA gT mxd ?_,λh2=>aA gT mxd ?_⟩⟩
 all_goals
  replace hk:k<=n:=hk
  replace hZ:∀j,j<n-k->Rq (Z j) (ζ j) ZB:=hZ
  replace hY:∀j,n-k<=j->j<n->Rq (Z j) (y j) (yb ZB F k):=hY
  replace hX:∀j,n-k<=j->j<n->Cr (X (cl j)) (y j)∧rb (y j) (yb ZB F k):=hX
 ·replace h2:(k:Int)<(n:Nat):=h2
  have hkn:k<n:=by omega
  obtain⟨i,hi⟩:∃i,i=n-1-k:=⟨_,rfl⟩
  have hin:i<n:=by omega
  have hci:=h.o.clt i hin
  have hix:f.K.l.getD i 0=(cl i:Nat):=by rw[h.K];exact sQ hin
  have hK:f.K.l.length=n:=by rw[h.K];simp
  have lU:=h.U.ln
  have eU:=h.U.row i hin
  obtain⟨hu,hui,hul⟩:=hP.us i hin
  have hpi:=hP.p i hin
  have ln1:(f.U.d.l.getD i cD).l.length=(us i).length+1:=by rw[eU.ln,hu];simp
  have a1:((n-1:Nat):Int)=IntKind.i64.wrap ((n:Nat)-1):=wi oM
  have a2:(i:Int)=IntKind.i64.wrap (((n-1:Nat):Int)-(k:Nat)):=wi oM
  refine⟨(n-1:Nat),a1,(i:Nat),a2,i,⟨rfl,show i<f.U.d.l.length by omega⟩,1,⟨rfl,show 1<=(f.U.d.l.getD i cD).l.length by omega⟩,?_⟩
  obtain⟨row,hrow⟩:∃row,row=f.U.d.l.getD i cD:=⟨_,rfl⟩
  rw[<-hrow] at eU ln1
  have hlen:(f.U.d.l.getD i cD).l.length-1=(us i).length:=by rw[<-hrow];omega
  have hsz:(((f.U.d.l.getD i cD).l.length-1:Nat):Int)=((us i).length:Nat):=by rw[hlen]
  have hsl:CV.r (slA (f.U.d.l.getD i cD).A (f.U.d.l.getD i cD).c 1 4) ((f.U.d.l.getD i cD).l.length-1) ((f.U.d.l.getD i cD).c-1) 4 (λj=>((f.U.d.l.getD i cD).l.getD (j+1) default).C)= .r (slA row.A row.c 1 4) (us i).length (row.c-1) 4 λj=>(row.l.getD (j+1) default).C:=by rw[hlen,hrow]
  show Sd _ _ _ _ _ _
  refine bV (λ_=>true) (λg:Nat×(Nat->RatM)=>bFn n k i (slA row.A row.c 1 4) (row.c-1) (us i).length row g.1) (λg=>aFo f n g.2 X) (λ_=>[]) (λg=>g.1<=(us i).length∧(∀j,j<i->Rq (g.2 j) (ζ j) ZB)∧(∀j,i<j->j<n->Rq (g.2 j) (y j) (yb ZB F k))∧Rq (g.2 i) (ζ i-dtl ((us i).take g.1) y) (ZB+g.1*(F+yb ZB F k+1))∧rb (ζ i-dtl ((us i).take g.1) y) (ZB+g.1*(F+yb ZB F k+1))) (λg=>(us i).length-g.1) λhM2=>⟨bA hM2 (chg:=λg:Nat×(Nat->RatM)=>bFn n k i (slA row.A row.c 1 4) (row.c-1) (us i).length row g.1) (bls:=λg=>aFo f n g.2 X) (fls:=λ_=>[]) (0,Z) ⟨Nat.zero_le _,λj hj=>hZ j oM,λj h4 h5=>hY j oM h5,?_,?_⟩ rfl ⟨rfl,rfl,rfl⟩ trivial ?_ bL tU rfl,λ⟨t,Z'⟩ ⟨ht,hZ',hY',hq,hqr⟩=>aA gT mxd ⟨λh3=>aA gT mxd ?_,λh3=>aA gT mxd ?_⟩⟩
  ·show Rq (Z i) (ζ i-0) (ZB+0*(F+yb ZB F k+1))
   rw[wE,Nat.zero_mul]
   exact hZ i oM
  ·show rb (ζ i-0) (ZB+0*(F+yb ZB F k+1))
   rw[wE,Nat.zero_mul]
   exact(hZ i oM).rb hZ1
  ·exact⟨rfl,hsl,hsz,rfl,congrArg aO hrow.symm,rfl,rfl,rfl,rfl,rfl,rfl⟩
  all_goals
   replace ht:t<=(us i).length:=ht
   replace hZ':∀j,j<i->Rq (Z' j) (ζ j) ZB:=hZ'
   replace hY':∀j,i<j->j<n->Rq (Z' j) (y j) (yb ZB F k):=hY'
   replace hq:Rq (Z' i) (ζ i-dtl ((us i).take t) y) (ZB+t*(F+yb ZB F k+1)):=hq
   replace hqr:rb (ζ i-dtl ((us i).take t) y) (ZB+t*(F+yb ZB F k+1)):=hqr
   have hb1:ZB<=yb ZB F k:=aSw (F:=F) (Nat.zero_le k)
   have hb2:yb ZB F (k+1)<=17179869184:=Nat.le_trans (aSw hkn) hB
   have hb3:yb ZB F (k+1)=yb ZB F k+k*(F+yb ZB F k+1)+F:=rfl
  ·replace h3:(t:Int)<((us i).length:Nat):=h3
   have htl:t<(us i).length:=by omega
   have hb4:(t+1)*(F+yb ZB F k+1)<=k*(F+yb ZB F k+1):=Nat.mul_le_mul_right _ oM
   rw[Nat.succ_mul] at hb4
   have e0:=hui _ (dW htl)
   have er:=eU.e (t+1) (by rw[hu];simp;omega)
   rw[show(Up i).getD (t+1) default=(us i).getD t default by rw[hu];rfl] at er
   obtain⟨j0,hj0⟩:∃j0:Nat,((us i).getD t default).1=(j0:Nat):=⟨((us i).getD t default).1.toNat,by omega⟩
   have hij:i<j0:=by omega
   have hjn:j0<n:=by omega
   have hix0:(row.l.getD (t+1) default).ix=(j0:Nat):=er.1.trans hj0
   have hev:rb ((us i).getD t default).2 F:=h.bu i hin _ (by rw[hu];exact .tail _ (dW htl))
   have hz0:=hY' j0 hij hjn
   have hm:=gH hev (hz0.rb oM)
   have hd:ζ i-dtl ((us i).take (t+1)) y=ζ i-dtl ((us i).take t) y-((us i).getD t default).2*y j0:=by
    rw[rQ htl,nQ,hj0,Int.toNat_natCast];grind
   have hs:=tK hqr hm
   rw[<-hd] at hs
   have hs':rb (ζ i-dtl ((us i).take (t+1)) y) (ZB+(t+1)*(F+yb ZB F k+1)):=hs.le (by rw[Nat.succ_mul];omega)
   have hk':=aHk (Z' i) (row.l.getD (t+1) default).v (Z' j0) (B:=ZB+(t+1)*(F+yb ZB F k+1)) (hq.le oM) ((Cr.rq er.2 hev).le) (hz0.le oM) (hm.le oM) (by rw[<-hd];exact hs') (hq.le (by rw[Nat.succ_mul];omega))
   rw[<-hd] at hk'
   refine⟨t,⟨rfl,htl⟩,.seq ((List.range 16).map λi=>(i,i==15)),by kernel_rfl,i,⟨rfl,hin,fC hin⟩,_,iA hin,j0,⟨hix0,hjn,fC hjn⟩,_,iA hjn,[],hk',rfl,rfl,rfl,λg hg=>⟨i,⟨rfl,hin,fC hin⟩,_,mG hin,(t+1:Nat),wi,bA hM2 (chg:=λg:Nat×(Nat->RatM)=>bFn n k i (slA row.A row.c 1 4) (row.c-1) (us i).length row g.1) (bls:=λg=>aFo f n g.2 X) (fls:=λ_=>[]) (t+1,upd Z' i g) ⟨⟨htl,λj hj=>?_,λj h4 h5=>?_,?_,hs'⟩,show(us i).length-(t+1)<(us i).length-t by omega⟩ rfl ⟨rfl,rfl,rfl⟩ trivial ⟨rfl,rfl,rfl,rfl,rfl,rfl,rfl,rfl,rfl,rfl,rfl⟩ bL tU rfl⟩⟩
   ·show Rq (upd Z' i g j) _ _
    rw[aP oM];exact hZ' j hj
   ·show Rq (upd Z' i g j) _ _
    rw[aP oM];exact hY' j h4 h5
   show Rq (upd Z' i g i) _ _
   rw[aT];exact hg
  replace h3:¬(t:Int)<((us i).length:Nat):=h3
  obtain rfl:t=(us i).length:=by omega
  have hb4:(us i).length*(F+yb ZB F k+1)<=k*(F+yb ZB F k+1):=Nat.mul_le_mul_right _ oM
  rw[List.take_length] at hq hqr
  have e2:=eU.e 0 (by rw[hu];simp)
  rw[show(Up i).getD 0 default=((i:Int),p i) by rw[hu];rfl] at e2
  have hpb:rb (p i) F:=h.bu i hin ((i:Int),p i) (by rw[hu];exact .head _)
  have hpr:Rq (row.l.getD 0 default).v (p i) F:=Cr.rq e2.2 hpb
  have hpi':rb (p i)⁻¹ F:=hpr.flip.rb h1
  have hyr:rb (y i) (yb ZB F (k+1)):=by
   rw[ey i hin,Rat.div_def]
   exact(gH hqr hpi').le oM
  refine aA gT mxd ?_
  refine⟨.seq ((List.range 16).map λi=>(i,i==15)),by kernel_rfl,i,⟨rfl,hin,fC hin⟩,_,iA hin,0,⟨rfl,show 0<row.l.length by omega⟩,[],aPq (Z' i) (row.l.getD 0 default).v (hq.le oM) (hpr.le) hpi,rfl,rfl,rfl,λg hg=>?_⟩
  replace hg:Cr g (y i):=by rw[ey i hin];exact hg
  have hgq:Rq g (y i) (yb ZB F (k+1)):=hg.rq hyr
  refine⟨i,⟨rfl,hin,fC hin⟩,_,mG hin,?_⟩
  refine⟨.seq ((List.range 12).map λi=>(i,i==11)),by kernel_rfl,i,⟨rfl,show i<f.K.l.length by omega⟩,i,⟨rfl,hin,fC hin⟩,_,iA hin,cl i,⟨hix,hci,fC hci⟩,_,mG hci,(k+1:Nat),wi,bA hM (chg:=λg:Nat×(Nat->RatM)×(Nat->RatM)=>aXl n g.1) (bls:=λg=>aFo f n g.2.1 g.2.2) (fls:=λ_=>[]) (k+1,upd Z' i g,upd X (cl i) (upd Z' i g i)) ⟨⟨hkn,λj hj=>?_,λj h4 h5=>?_,λj h4 h5=>?_⟩,show n-(k+1)<n-k by omega⟩ rfl ⟨rfl,rfl,rfl⟩ trivial ⟨rfl,rfl,rfl,rfl,rfl,rfl⟩ bL tU rfl⟩
  ·replace hj:j<n-(k+1):=hj
   show Rq (upd Z' i g j) _ _
   rw[aP oM];exact hZ' j oM
  ·replace h4:n-(k+1)<=j:=h4
   show Rq (upd Z' i g j) _ (yb ZB F (k+1))
   by_cases e:j=i
   ·subst e;rw[aT];exact hgq
   rw[aP e];exact(hY' j oM h5).le oM
  replace h4:n-(k+1)<=j:=h4
  show Cr (upd X (cl i) (upd Z' i g i) (cl j)) (y j)∧rb (y j) (yb ZB F (k+1))
  by_cases e:j=i
  ·subst e;rw[aT,aT];exact⟨hg,hyr⟩
  have e2:cl j≠cl i:=λe2=>e (h.o.cinj j i h5 hin e2)
  rw[aP e2]
  have:=hX j oM h5
  exact⟨this.1,this.2.le oM⟩
 replace h2:¬(k:Int)<(n:Nat):=h2
 obtain rfl:n=k:=by omega
 obtain⟨xv,hxv⟩:∃xv:Nat->Rat,∀j,j<n->xv (cl j)=y j:=bFo h.o.clt h.o.cinj y
 show Sd _ _ _ _ _ _
 refine aBt tSd 0 2 rfl rfl bL bL rfl ⟨_,swl dD,_,swl dD,bL,aA gT mxd ⟨(X,xv),⟨h.o.sol hP λi hi=>?_,λc hc=>?_⟩,dU ⟨rfl,rfl⟩ rfl bL (scB.cons (aZ dD) scB.nil) rfl (vN dD)⟩⟩
 ·show xv (cl i)=_
  rw[hxv i hi,hy,hζ]
 obtain⟨j,hj,rfl⟩:=qX h.o.clt h.o.cinj c hc
 show Cr (X (cl j)) (xv (cl j))∧rb (xv (cl j)) _
 rw[hxv j hj,<-hZe]
 exact hX j oM hj
end Go.Proofs.YtlhdigjbokkbiaaGreat
namespace Go.Vy
open Go.Vg Go.RowKit
theorem FamOk.nil {at':Nat->Option Nat×Nat} {Z:Nat->Prop} {n:Nat} {w:World}:FamOk ⟨at',Z,[]⟩ n w:=
 {ok:=λF hF=>nomatch hF
  own:=λi b _ _ hf=>by
   obtain⟨F,hF,_⟩:=hf
   cases hF
  inj:=λf f' F F' j j' b h1=>nomatch h1}
section
variable {ρ0 ρ ρ':Pl} {w0 w w':World} {nb n:Nat} {bl:BL} {s:SS} {f:Nat->Value}
theorem DnW.slf (h:DnW ρ0 w0 nb bl ρ w) (hn:bl.length=n) (k:Kp ρ n w ρ' n w') (hs:∀i b,i<n->(ρ i).1=some b->w'.heap[b]? =w.heap[b]?) (hF:ρ'.F=ρ.F) (hf:∀b,InF ρ b->w'.heap[b]? =w.heap[b]?) (hz:∀b,w'.heap.size<=b∨InF ρ' b->ρ'.Z b):DnW ρ' w' n bl ρ' w':=by
 subst hn
 exact⟨λi T e l hi=>(h.ok i T e l hi).kp k (bK hi) λb hb=>hs i b (bK hi) hb,λi j b hi hj hib hjb=>h.inj i j b hi hj (by rw[<-k.pl i hi];exact hib) (by rw[<-k.pl j hj];exact hjb),λi b hi hi2 _=>absurd hi2 oM,Nat.le_refl _,
  ⟨rfl,rfl,rfl,Nat.le_refl _,λ_ _ _ _=>rfl⟩,λ_ _=>rfl,⟨rfl,hz⟩,h.fam.mono hF k.z hf λi b hi hb=>h.fam.own i b hi (by rw[<-k.pl i hi];exact hb),λb hb=> .inr hb⟩
theorem zU {l:Nat} (o:Obj) (hz:¬ρ.Z l):Kp ρ n w ρ n (w.putObj l o):=
 ⟨Nat.le_refl _,λ_ _=>rfl,λb hb=>⟨⟨by rw[World.putObj_size];exact hb.lt,hb.no,hb.z,hb.nf⟩,World.putObj_heap_other λe=>hz (e▸hb.z)⟩⟩
theorem Dn.putO {l:Nat} (o:Obj) (h:Dn ρ0 w0 nb s ρ f w) (hz:¬ρ.Z l) (hno:∀i,i<s.bl.length->(ρ i).1≠some l) (hl:l<w0.heap.size) (hnf:¬InF ρ l):Dn ρ0 (w0.putObj l o) nb s ρ f (w.putObj l o):=by
 have hl2:l<w.heap.size:=Nat.lt_of_lt_of_le hl h.m.rel.size
 refine⟨⟨λi T e c hi=>(h.m.ok i T e c hi).kp (zU o hz) (bK hi) λb hb=>World.putObj_heap_other λe=>hno i (bK hi) (e▸hb),h.m.inj,λi b h1 h2 h3=>by rw[World.putObj_size];exact h.m.fr i b h1 h2 h3,h.m.nbl,⟨h.m.rel.os,h.m.rel.tape,h.m.rel.output,by rw[World.putObj_size,World.putObj_size];exact h.m.rel.size,λk hk hn hf=>?_⟩,h.m.pl,⟨h.m.zz.1,λb hb=>h.m.zz.2 b (by rw[World.putObj_size] at hb;exact hb)⟩,h.m.fam.mono rfl (zU o hz).z (λb hb=>World.putObj_heap_other λe=>hnf (e▸hb)) h.m.fam.own,λb hb=>by rw[World.putObj_size];exact h.m.ffr b hb⟩,h.f.kp rfl rfl (zU o hz),h.l⟩
 by_cases e:k=l
 ·subst e
  rw[World.putObj_heap_same hl2,World.putObj_heap_same hl]
 rw[World.putObj_heap_other e,World.putObj_heap_other e]
 exact h.m.rel.block k (by rw[World.putObj_size] at hk;exact hk) hn hf
structure Mid (w:World) (n:Nat) (ρ:Pl) (W:World):Prop where
 os:W.os=w.os
 tape:W.tape=w.tape
 output:W.output=w.output
 size:w.heap.size+2<=W.heap.size
 block:∀k,k<w.heap.size->(∀i,i<n->(ρ i).1≠some k)->¬InF ρ k->W.heap[k]? =w.heap[k]?
theorem Mid.step {W W':World} {bl':BL} {ρe ρ2:Pl} (h:Mid w n ρ W) (hD:DnW ρe W n bl' ρ2 W') (hp:∀i,i<n->ρe i=ρ i) (hF:ρe.F=ρ.F):Mid w n ρ W':=
 ⟨hD.rel.os.trans h.os,hD.rel.tape.trans h.tape,hD.rel.output.trans h.output,Nat.le_trans h.size hD.rel.size,λk hk hn hf=>(hD.rel.block k (by have:=h.size;omega) (λi hi=>by rw[hD.pl i hi,hp i hi];exact hn i hi) (by unfold InF;rw[hF];exact hf)).trans (h.block k hk hn hf)⟩
theorem Mid.put {W:World} {l:Nat} (o:Obj) (h:Mid w n ρ W) (hl:w.heap.size<=l):Mid w n ρ (W.putObj l o):=
 ⟨h.os,h.tape,h.output,by rw[World.putObj_size];exact h.size,λk hk hn hf=>(World.putObj_heap_other oM).trans (h.block k hk hn hf)⟩
theorem DnW.back {W Wz:World} {bl':BL} {ρe ρx:Pl} (hD:DnW ρ0 w0 nb bl ρ w) (hn:bl.length=n) (hm:Mid w n ρ W) (h:DnW ρe W n bl' ρx Wz) (hp:∀i,i<n->ρe i=ρ i) (hZ:∀b,ρe.Z b->ρ.Z b) (hFe:ρe.F=ρ.F):DnW ρ0 w0 nb bl' ⟨ρx.at',ρ.Z,ρx.F⟩ Wz:=by
 subst hn
 have hpx:∀i,i<bl.length->ρx i=ρ i:=λi hi=>(h.pl i hi).trans (hp i hi)
 have hm2:=hm.step h hp hFe
 have k:Kp ρx bl'.length Wz ⟨ρx.at',ρ.Z,ρx.F⟩ bl'.length Wz:=⟨Nat.le_refl _,λ_ _=>rfl,λb hb=>⟨⟨hb.lt,hb.no,hZ b (by rw[<-h.zz.1];exact hb.z),hb.nf⟩,rfl⟩⟩
 have hff:∀b,InF ρ b->w0.heap.size<=b∨InF ρ0 b:=hD.ffr
 refine⟨λi T e l hi=>(h.ok i T e l hi).kp k (bK hi) λ_ _=>rfl,h.inj,λi b h1 h2 h3=>?_,Nat.le_trans hD.nbl h.nbl,⟨hm2.os.trans hD.rel.os,hm2.tape.trans hD.rel.tape,hm2.output.trans hD.rel.output,Nat.le_trans hD.rel.size (by have:=hm2.size;omega),λk hk hn hf=>?_⟩,λi hi=>(hpx i (Nat.lt_of_lt_of_le hi hD.nbl)).trans (hD.pl i hi),⟨hD.zz.1,hD.zz.2⟩,h.fam.mono rfl k.z (λ_ _=>rfl) h.fam.own,λb hb=>?_⟩
 ·by_cases hi:i<bl.length
  ·exact hD.fr i b h1 hi (by rw[<-hpx i hi];exact h3)
  have:=h.fr i b oM h2 h3
  have:=hm.size
  have:=hD.rel.size
  omega
 ·have hk2:=Nat.lt_of_lt_of_le hk hD.rel.size
  have hno:∀i,i<bl.length->(ρ i).1≠some k:=λi hi he=>by
   by_cases h1:i<nb
   ·exact hn i h1 (show(ρx i).1=some k by rw[hpx i hi];exact he)
   have:=hD.fr i k oM hi he
   omega
  have hnf:¬InF ρ k:=λhh=>(hff k hh).elim (λh=>by omega) hf
  exact(hm2.block k hk2 hno hnf).trans (hD.rel.block k hk (λi hi=>hno i (Nat.lt_of_lt_of_le hi hD.nbl)) hf)
 rcases h.ffr b hb with h1|h1
 ·have:=hm.size
  have:=hD.rel.size
  exact .inl oM
 exact hff b (by unfold InF at h1 ⊢;rwa [hFe] at h1)
theorem Fr.nil {fl:List Fam}:Fr ⟨[],[],bl,fl⟩ ρ w f:=⟨λt d ht=>(by cases ht),λt gs d ht=>by cases ht⟩
theorem Fr.cons {t:Nat} {d:DV} {sl:List (Nat×DV)} {fl:List Fam} (h:Hd ρ bl.length w d (f t)) (hF:Fr ⟨sl,[],bl,fl⟩ ρ w f):Fr ⟨(t,d)::sl,[],bl,fl⟩ ρ w f:=⟨λt' d' ht=>by
 simp only[cT] at ht
 cases hb:Nat.beq t t' with
 |true=>rw[hb] at ht;injection ht with ht;subst ht;rw[<-Nat.eq_of_beq_eq_true hb];exact h
 |false=>rw[hb] at ht;exact hF.sl t' d' ht,λt gs d ht=>by cases ht⟩
end
/-! ### a function with such a loop -/
abbrev mkD (d:Nat):Deferred:={target:=.collected d,args:=#[]}
def upM (N:Nat) (R:(Nat->Value)->World->Prop):Exit->Act->World->Prop
 |.ret,a,w=>∃f,(Fm [] N f a∧R f w)∨∃d,Fm [mkD d] N f a∧w.heap[d]? =some (.deferred (some []))∧R f (w.putObj d (.deferred none))
 |_,_,_=>False
section
variable {P:Program} {T:TT} {nb N:Nat} {x y z:Code} {KR:SS->Prop} {s:SS}
abbrev RD (ρ0:Pl) (w0:World) (nb:Nat) (KR:SS->Prop) (f:Nat->Value) (w:World):Prop:=∃s ρ,KR s∧Dn ρ0 w0 nb s ρ f w
def Sd0 (P:Program) (nb N:Nat) (c:Code) (KR:SS->Prop) (s:SS):Prop:=∀ρ0 w0 ρ f w a,Dn ρ0 w0 nb s ρ f w->Fm [] N f a->c.wpIn (fen none) 0 P (upM N (RD ρ0 w0 nb KR)) a w
def Sd1 (P:Program) (nb N:Nat) (z y:Code) (KR:SS->Prop) (s:SS):Prop:=∀ρ0 w0 ρ f w a,Dn ρ0 w0 nb s ρ f w->Fm [] N f a->z.wpIn (fen none) 0 P (Exit.then (y.wpIn (fen none) 0 P (upM N (RD ρ0 w0 nb KR))) (upM N (RD ρ0 w0 nb KR))) a w
theorem aCf {X:SS->Prop} (h:Sd P nb N x ⟨X,λ_ _=>False,KR⟩ s) {ρ0 ρ:Pl} {w0 w:World} {f:Nat->Value} {a:Act} (hD:Dn ρ0 w0 nb s ρ f w) {dl:List Deferred} (ha:Fm dl N f a) {ro:Option Nat}:x.wpIn (fen ro) 0 P (up dl N ⟨RD ρ0 w0 nb X,λ_ _ _=>False,RD ρ0 w0 nb KR⟩) a w:=
 h ρ0 w0 ρ f w ⟨RD ρ0 w0 nb X,λ_ _ _=>False,RD ρ0 w0 nb KR⟩ ⟨λs ρ f w hk hD=>⟨s,ρ,hk,hD⟩,λ_ _ _ _ _ hk _=>hk,λs ρ f w hk hD=>⟨s,ρ,hk,hD⟩⟩ hD ro dl a ha
theorem Sd0.seq (h:Sd P nb N x ⟨Sd0 P nb N y KR,λ_ _=>False,KR⟩ s):Sd0 P nb N (.seq x y) KR s:=λρ0 w0 ρ f w a hD ha=>
 wpIn_seq (wpIn_mono (aCf h hD ha) λe a w hq=>by
  cases e with
  |normal=>obtain⟨f,hf,s,ρ,hk,hD⟩:=hq;exact hk _ _ _ _ _ _ hD hf
  |ret=>obtain⟨f,hf,hr⟩:=hq;exact⟨f,.inl ⟨hf,hr⟩⟩
  |exit i=>obtain⟨f,hf,hr⟩:=hq;exact hr.elim
  |goto l=>exact hq.elim
  |panic c=>exact hq.elim
  |outgrown=>exact hq.elim)
theorem Sd0.seq1 (h:Sd P nb N x ⟨Sd1 P nb N z y KR,λ_ _=>False,KR⟩ s):Sd0 P nb N (.seq (.seq x z) y) KR s:=λρ0 w0 ρ f w a hD ha=>
 wpIn_seq (wpIn_seq (wpIn_mono (aCf h hD ha) λe a w hq=>by
  cases e with
  |normal=>obtain⟨f,hf,s,ρ,hk,hD⟩:=hq;exact hk _ _ _ _ _ _ hD hf
  |ret=>obtain⟨f,hf,hr⟩:=hq;exact⟨f,.inl ⟨hf,hr⟩⟩
  |exit i=>obtain⟨f,hf,hr⟩:=hq;exact hr.elim
  |goto l=>exact hq.elim
  |panic c=>exact hq.elim
  |outgrown=>exact hq.elim))
def ItC (P:Program) (gf:FuncId) (cap:List (Nat×Nat)) (n:Nat) (X:BL->Prop) (fl:List Fam) (m:Nat) (enc:Nat->Value):Prop:=
 ∀(ρ:Pl) (l:Nat) (J:BL->Nat->World->Prop),ρ.F=fl->(∀bl j W,J bl j W->X bl∧bl.length=n∧DnW ρ W n bl ρ W)->(∀bl j W W' r ρ2,J bl j W->DnW ρ W n (bl++r) ρ2 W'->ρ2.F=fl->J bl j W')->
  (∀bl j W,j<m->J bl j W->YieldAt (fen none) 0 P l #[enc j] W λe W'=>e= .returned (.bool true)∧∃bl',J bl' (j+1) W')->
  ∀bl W,J bl 0 W->CallsIn (fen none) 0 P gf (#[.func (.yield l) #[] #[]]++(cap.map (ptr ρ)).toArray) W λe W'=>(∃v,e= .returned v)∧∃bl',J bl' m W'
theorem bFp {g:Operand} {p id:Nat} {asg bd:Code} {gf:FuncId} {cap:List (Nat×Nat)} {n:Nat} {σ:Type} (bls:σ->BL) (C:σ->Nat->Prop) (m:Nat) (X:BL->Prop) (enc:Nat->Value) (sc:Nat->List CV) (g0:σ)
 (hgl:s.gl=[]) (hg:val [] s g=some (.c (.f gf [] cap))) (hE:Ent P gf) (hit:ItC P gf cap n X s.fl m enc) (hb0:s.bl=bls g0) (hn:∀g,(bls g).length=n) (hX:∀g,X (bls g)) (h0:C g0 0)
 (henc:∀ρ W bl j,X bl->bl.length=n->ρ.F=s.fl->DnW ρ W n bl ρ W->j<m->Hd ρ n W (.a (sc j)) (enc j)) (hp:p<N)
 (hbody:∀g j,C g j->j<m->Sd P n N asg ⟨λs1=>s1.fl=s.fl∧Sd P n N bd ⟨λs2=>∃g',C g' (j+1)∧aBq s2.bl (bls g')∧s2.fl=s.fl,λ_ _=>False,λ_=>False⟩ s1,λ_ _=>False,λ_=>False⟩ ⟨(p,.a (sc j))::s.sl,[],bls g,s.fl⟩)
 (hsc:∀g,scB n (bls g)) (hy:∀g,C g m->Sd P n N y ⟨λ_=>False,λ_ _=>False,λs'=>s'.fl=s.fl∧KR s'⟩ ⟨s.sl,[],bls g,s.fl⟩):Sd1 P nb N (.block id (.rangeFunc g #[p] asg bd)) y KR s:=λρ0 w0 ρ f w a hD ha=>by
 have hbn:s.bl.length=n:=by rw[hb0];exact hn g0
 have hF:ρ.F=s.fl:=hD.l
 have inF:∀b,InF ρ b->b<w.heap.size∧ρ.Z b:=λb hb=>⟨hD.m.fam.lt hb,hD.m.zz.2 b (hD.m.ffr b hb)⟩
 obtain⟨-,hgv⟩:=(aK hD.f bZ hg).inv_c
 rw[<-ha.eval] at hgv
 refine wpIn_block (wpIn_rangeFunc ?_)
 intro fn hfn
 obtain⟨rec,hrec⟩:∃rec:LoopState->Option Code->Loop,rec=λst pe=>{state:=st,pending:=pe,fn,tmps:=a.tmps,params:=#[p],assign:=asg,body:=bd,defers:=w.heap.size}:=⟨_,rfl⟩
 obtain⟨W1,hW1⟩:∃W1,(w.alloc (.deferred (some []))).alloc (.loop (rec .ready none))=W1:=⟨_,rfl⟩
 have hL1:W1.heap[w.heap.size+1]? =some (.loop (rec .ready none)):=by
  rw[<-hW1];have:=World.alloc_heap_new (w.alloc (.deferred (some []))) (.loop (rec .ready none));rwa [World.size_alloc] at this
 have hK1:W1.heap[w.heap.size]? =some (.deferred (some [])):=by
  rw[<-hW1];exact(Below.heap_alloc _ _ _ (by simp)).trans (World.alloc_heap_new w _)
 have hE1:Ext w W1:=by rw[<-hW1];exact(fE w _).trans (fE _ _)
 have hs1:W1.heap.size=w.heap.size+2:=by rw[<-hW1];simp
 let ρe:Pl:=⟨ρ.at',λb=>(ρ.Z b∧b<w.heap.size)∨w.heap.size+2<=b,ρ.F⟩
 have hze:∀b,w.heap.size+2<=b∨InF ρe b->ρe.Z b:=λb hb=>hb.elim .inr λh=> .inl ⟨(inF b h).2,(inF b h).1⟩
 have zl:¬ρe.Z (w.heap.size+1):=λh=>h.elim (λh=>by have:=h.2;omega) λh=>by omega
 have zd:¬ρe.Z w.heap.size:=λh=>h.elim (λh=>by have:=h.2;omega) λh=>by omega
 have hZ:∀b,ρe.Z b->ρ.Z b:=λb hb=>hb.elim (λh=>h.1) λh=>by
  rw[hD.m.zz.1,<-hD.m.zz.1]
  exact hD.m.zz.2 b (.inl (Nat.le_trans hD.m.rel.size oM))
 have own:∀i b,i<n->(ρ i).1=some b->b<w.heap.size:=λi b hi hb=>hD.m.lt (by rw[hbn];exact hi) hb
 have kpm:∀W,Mid w n ρ W->Kp ρ n w ρe n W:=λW hm=>⟨Nat.le_refl _,λ_ _=>rfl,λb hb=>⟨⟨by have:=hb.lt;have:=hm.size;omega,hb.no,.inl ⟨hb.z,hb.lt⟩,hb.nf⟩,hm.block b hb.lt hb.no hb.nf⟩⟩
 have hM1:Mid w n ρ W1:=⟨hE1.os,hE1.tape,hE1.output,by omega,λk hk _ _=>hE1.block k hk⟩
 let J:BL->Nat->World->Prop:=λbl j W=>(∃g,bl=bls g∧C g j∧DnW ρe W n (bls g) ρe W)∧Mid w n ρ W∧W.heap[w.heap.size+1]? =some (.loop (rec .ready none))∧W.heap[w.heap.size]? =some (.deferred (some []))
 have hJ1:J (bls g0) 0 W1:=⟨⟨g0,rfl,h0,by
  have:=hD.m.slf hbn (kpm W1 hM1) (λi b hi hb=>hE1.block b (own i b hi hb)) rfl (λb hb=>hE1.block b (inF b hb).1) λb hb=>hze b (hb.imp oM λh=>h)
  rwa [hb0] at this⟩,hM1,hL1,hK1⟩
 have hJe:∀bl j W W' r ρ2,J bl j W->DnW ρe W n (bl++r) ρ2 W'->ρ2.F=s.fl->J bl j W':=λbl j W W' r ρ2 ⟨⟨g,hb,hc,hd⟩,hm,hl,hk⟩ h hF2=>by
  subst hb
  have hd2:=h.drop (by rw[hn g];exact hsc g) (by rw[hn g];exact Nat.le_refl _)
  have hm2:=hm.step h (λ_ _=>rfl) rfl
  have kk:∀q,w.heap.size<=q->q<W.heap.size->W'.heap[q]? =W.heap[q]?:=λq h1 h2=>h.rel.block q h2 (λi hi he=>by
   rw[h.pl i hi] at he
   have:=own i q hi he
   omega) λhf=>by have:=(inF q hf).1;omega
  have e2:ρe.F=ρ2.F:=hF.trans hF2.symm
  refine⟨⟨g,rfl,hc,hd2.slf (hn g) ⟨Nat.le_refl _,λi hi=>(h.pl i hi).symm,λb hb=>⟨⟨hb.lt,λi hi=>by rw[<-h.pl i hi];exact hb.no i hi,by rw[<-h.zz.1];exact hb.z,by unfold InF;rw[e2];exact hb.nf⟩,rfl⟩⟩ (λ_ _ _ _=>rfl) e2 (λ_ _=>rfl) λb hb=>hze b (hb.imp (by have:=hm2.size;omega) λh=>h)⟩,hm2,(kk _ oM (cC hl)).trans hl,(kk _ (Nat.le_refl _) (cC hk)).trans hk⟩
 refine⟨w.heap.size+1,[mkD w.heap.size],W1,{target:=.fn (.func gf) (cap.map (ptr ρ)).toArray,args:=#[.func (.yield (w.heap.size+1)) #[] #[]]},W1,gf,#[.func (.yield (w.heap.size+1)) #[] #[]]++(cap.map (ptr ρ)).toArray,W1,?_,?_,?_,?_,(λh=>by cases h),?_⟩
 ·rw[<-hW1,hrec];exact run_enterLoop_outer _ _ _ _ _
 ·simp only[resolve,hgv]
  simp[go_sem]
 ·intro f' _;trivial
 ·have:=hE (#[.func (.yield (w.heap.size+1)) #[] #[]]++(cap.map (ptr ρ)).toArray) W1
  simpa[invoke,go_sem] using this
 refine(hit ρe (w.heap.size+1) J hF (λbl j W ⟨⟨g,hb,_,hd⟩,_⟩=>hb▸⟨hX g,hn g,hd⟩) hJe ?_ _ W1 hJ1).mono ?_
 ·rintro bl j W hj ⟨⟨g,rfl,hc,hd⟩,hm,hl,hk⟩
  have hlt:w.heap.size+1<W.heap.size:=cC hl
  have hy:=run_yield (P:=P) (args:=#[enc j]) hl (by rw[hrec];rfl)
  rw[hrec] at hy
  refine⟨fn,_,asg,bd,hy,roundIn_of_wpIn hfn ?_⟩
  have hfr:Fr ⟨(p,.a (sc j))::s.sl,[],bls g,s.fl⟩ ρe W (st f p (enc j)):=⟨λt d ht=>by
   show Hd ρe (bls g).length W d _
   rw[hn g]
   simp only[cT] at ht
   cases hpt:Nat.beq p t with
   |true=>
    rw[hpt] at ht
    injection ht with ht
    subst ht
    have:=Nat.eq_of_beq_eq_true hpt
    subst this
    rw[sZ]
    exact henc ρe W (bls g) j (hX g) (hn g) hF hd hj
   |false=>
    rw[hpt] at ht
    rw[gS _ _ _ _ (Ne.symm (fQ hpt))]
    have:=hD.f.sl t d ht
    rw[hbn] at this
    exact this.kp (kpm W hm),λt gs d ht=>by cases ht⟩
  have hD1:Dn ρe W n ⟨(p,.a (sc j))::s.sl,[],bls g,s.fl⟩ ρe (st f p (enc j)) W:=⟨hd,hfr,hF⟩
  have hfm:Fm [] N (st f p (enc j)) {tmps:=(#[p].zip #[enc j]).foldl (λt (p,v)=>t.setIfInBounds p v) a.tmps,defers:=[]}:=by
   have:=(show Fm [] N f {tmps:=a.tmps,defers:=[]} from ⟨rfl,ha.2⟩).put hp (enc j)
   simpa[Act.put] using this
  refine wpIn_mono (aCf (ro:=some (w.heap.size+1)) (hbody g j hc hj) hD1 hfm) ?_
  rintro e a1 Wa hq
  cases e with
  |normal=>
   obtain⟨f1,hf1,s1,ρ1,⟨hF1,hk1⟩,hD2⟩:=hq
   have keep:∀{s2:SS} {ρ2:Pl} {B W2:World},DnW ρe B n s2.bl ρ2 W2->W.heap.size<=B.heap.size->(∀q,w.heap.size<=q->q<W.heap.size->∀i,i<s2.bl.length->(ρ2 i).1≠some q)∧∀q,w.heap.size<=q->q<W.heap.size->W2.heap[q]? =B.heap[q]?:=λ{s2 ρ2 B W2} h hB=>by
    have hno:∀q,w.heap.size<=q->q<W.heap.size->∀i,i<s2.bl.length->(ρ2 i).1≠some q:=λq h1 h2 i hi he=>by
     by_cases hin:i<n
     ·rw[h.pl i hin] at he
      have:=own i q hin he
      omega
     have:=h.fr i q oM hi he
     omega
    exact⟨hno,λq h1 h2=>h.rel.block q oM (λi hi=>hno q h1 h2 i (Nat.lt_of_lt_of_le hi h.nbl)) λhf=>by have:=(inF q hf).1;omega⟩
   obtain⟨no1,ke1⟩:=keep hD2.m (Nat.le_refl _)
   have hla:=(ke1 _ oM hlt).trans hl
   have hka:=(ke1 _ (Nat.le_refl _) (cC hk)).trans hk
   have hz1:ρ1.Z=ρe.Z:=hD2.m.zz.1
   have hD3:=hD2.putO (.loop {rec .ready none with state:=.busy}) (by rw[hz1];exact zl) (no1 _ oM hlt) hlt (λhf=>by
    have hf2:InF ρ (w.heap.size+1):=by unfold InF at hf ⊢;rwa [hD2.l,hF1,<-hF] at hf
    have:=(inF _ hf2).1
    omega)
   refine⟨_,run_beginRound hla (by rw[hrec]),?_⟩
   refine wpIn_mono (aCf (ro:=some (w.heap.size+1)) hk1 hD3 hf1) ?_
   rintro e a2 Wb hq
   cases e with
   |normal=>
    obtain⟨f2,hf2,s2,ρ2,⟨g',hc',hpre,hfl2⟩,hD4⟩:=hq
    obtain⟨no2,ke2⟩:=keep hD4.m (by rw[World.putObj_size];exact Nat.le_refl _)
    have hlb:=(ke2 _ oM hlt).trans (World.putObj_heap_same hlt)
    have hkb:=(ke2 _ (Nat.le_refl _) (cC hk)).trans ((World.putObj_heap_other oM).trans hk)
    have hend:(Instr.endRound (w.heap.size+1) none).run P Wb= .ok (.bool true) (Wb.putObj (w.heap.size+1) (.loop (rec .ready none))):=by
     have:=run_endRound (P:=P) none hlb
     rw[hrec] at this ⊢
     exact this
    obtain⟨r,hr⟩:=mA hpre
    have hF2:ρe.F=ρ2.F:=hF.trans (hD4.l.trans hfl2).symm
    have hd5:DnW ρe (W.putObj (w.heap.size+1) (.loop {rec .ready none with state:=.busy})) n (bls g') ρ2 Wb:=(show DnW _ _ n (bls g'++r) ρ2 Wb from hr▸hD4.m).drop (by rw[hn g'];exact hsc g') (by rw[hn g'];exact Nat.le_refl _)
    have hltb:w.heap.size+1<Wb.heap.size:=cC hlb
    have hkp:Kp ρ2 n Wb ρe n (Wb.putObj (w.heap.size+1) (.loop (rec .ready none))):=⟨Nat.le_refl _,λi hi=>(hd5.pl i hi).symm,λb hb=>by
     have hz:=hb.z
     rw[hd5.zz.1] at hz
     exact⟨⟨by rw[World.putObj_size];exact hb.lt,λi hi=>by rw[<-hd5.pl i hi];exact hb.no i hi,hz,by unfold InF;rw[hF2];exact hb.nf⟩,World.putObj_heap_other λe=>zl (e▸hz)⟩⟩
    refine⟨_,_,hend,rfl,bls g',⟨g',rfl,hc',hd5.slf (hn g') hkp (λi b hi hb=>World.putObj_heap_other λe=>?_) hF2 (λb hb=>World.putObj_heap_other λe=>?_) λb hb=>hze b (hb.imp (λh=>by rw[World.putObj_size] at h;omega) λh=>h)⟩,?_,?_,?_⟩
    ·rw[hd5.pl i hi] at hb
     have:=own i b hi hb
     omega
    ·have hf2:InF ρ b:=by unfold InF at hb ⊢;rwa [<-hF2] at hb
     have:=(inF b hf2).1
     omega
    ·exact(((hm.put _ oM).step hD4.m (λ_ _=>rfl) rfl).put _ oM)
    ·exact World.putObj_heap_same hltb
    exact(World.putObj_heap_other oM).trans hkb
   |exit i=>obtain⟨f,hf,hr⟩:=hq;exact hr.elim
   |ret=>obtain⟨f,hf,s,ρ,hk,hD⟩:=hq;exact hk.elim
   |goto l=>exact hq.elim
   |panic c=>exact hq.elim
   |outgrown=>exact hq.elim
  |exit i=>obtain⟨f,hf,hr⟩:=hq;exact hr.elim
  |ret=>obtain⟨f,hf,s,ρ,hk,hD⟩:=hq;exact hk.elim
  |goto l=>exact hq.elim
  |panic c=>exact hq.elim
  |outgrown=>exact hq.elim
 rintro e W2 ⟨⟨v,rfl⟩,_,⟨g,rfl,hc,hd⟩,hm,hl,hk⟩
 have hlt:w.heap.size+1<W2.heap.size:=cC hl
 have hend:=run_endLoop (P:=P) hl (by rw[hrec];simp)
 rw[hrec] at hend
 refine⟨none,_,hend,?_⟩
 obtain⟨W3,hW3⟩:∃W3,W2.putObj (w.heap.size+1) (.loop {(rec .ready none) with state:=.exhausted})=W3:=⟨_,rfl⟩
 have hs3:W3.heap.size=W2.heap.size:=by rw[<-hW3,World.putObj_size]
 have hk3:W3.heap[w.heap.size]? =some (.deferred (some [])):=by rw[<-hW3];exact(World.putObj_heap_other oM).trans hk
 have hm3:Mid w n ρ W3:=by rw[<-hW3];exact hm.put _ oM
 have hd3:DnW ρe W3 n (bls g) ρe W3:=by
  rw[<-hW3]
  exact hd.slf (hn g) (zU _ zl) (λi b hi hb=>World.putObj_heap_other (by have:=own i b hi hb;omega)) rfl (λb hb=>World.putObj_heap_other (by have:=(inF b hb).1;omega)) λb hb=>hze b (hb.imp (λh=>by rw[World.putObj_size] at h;have:=hm.size;omega) λh=>h)
 have hD3:Dn ρe W3 n ⟨s.sl,[],bls g,s.fl⟩ ρe f W3:=⟨hd3,⟨λt d ht=>by
  show Hd ρe (bls g).length W3 d _
  rw[hn g]
  have:=hD.f.sl t d ht
  rw[hbn] at this
  exact this.kp (kpm W3 hm3),λt gs d ht=>by cases ht⟩,hF⟩
 have hfm:Fm ([mkD w.heap.size]++a.defers) N f {a with defers:=[mkD w.heap.size]++a.defers}:=⟨rfl,ha.2⟩
 rw[hrec] at hW3
 show y.wpIn (fen none) 0 P (upM N (RD ρ0 w0 nb KR)) {a with defers:=[mkD w.heap.size]++a.defers} _
 rw[hW3]
 refine wpIn_mono (aCf (hy g hc) hD3 hfm) ?_
 rintro e a3 W4 hq
 cases e with
 |normal=>obtain⟨f,hf,s,ρ,hk,hD⟩:=hq;exact hk.elim
 |ret=>
  obtain⟨f3,hf3,s3,ρ3,⟨hF3,hk4⟩,hD4⟩:=hq
  rw[ha.1] at hf3
  have hno:∀i,i<s3.bl.length->(ρ3 i).1≠some w.heap.size:=λi hi he=>by
   by_cases hin:i<n
   ·rw[hD4.m.pl i hin] at he
    have:=own i _ hin he
    omega
   have:=hD4.m.fr i _ oM hi he
   have:=hm3.size
   omega
  have hk5:W4.heap[w.heap.size]? =some (.deferred (some [])):=(hD4.m.rel.block _ (cC hk3) (λi hi=>hno i (Nat.lt_of_lt_of_le hi hD4.m.nbl)) λhf=>by have:=(inF _ hf).1;omega).trans hk3
  have hD5:=hD4.putO (.deferred none) (by rw[hD4.m.zz.1];exact zd) hno (cC hk3) λhf=>by
   have hf2:InF ρ w.heap.size:=by unfold InF at hf ⊢;rwa [hD4.l,hF3,<-hF] at hf
   have:=(inF _ hf2).1
   omega
  have hD6:=hD.m.back hbn (hm3.put (.deferred none) (Nat.le_refl _)) hD5.m (λ_ _=>rfl) hZ rfl
  refine⟨f3,.inr ⟨_,hf3,hk5,s3,_,hk4,hD6,hD5.f.kp rfl rfl ⟨Nat.le_refl _,λ_ _=>rfl,λb hb=>⟨⟨hb.lt,hb.no,hZ b (by rw[<-hD4.m.zz.1];exact hb.z),hb.nf⟩,rfl⟩⟩,hD4.l⟩⟩
 |exit i=>obtain⟨f,hf,hr⟩:=hq;exact hr.elim
 |goto l=>exact hq.elim
 |panic c=>exact hq.elim
 |outgrown=>exact hq.elim
theorem Sd.wp {K:Kt} (h:Sd P nb N x K s) {ρ0 ρ:Pl} {w0 w:World} {f:Nat->Value} (hD:Dn ρ0 w0 nb s ρ f w):WP P N x ⟨RD ρ0 w0 nb K.nrm,λi=>RD ρ0 w0 nb (K.ext i),RD ρ0 w0 nb K.ret⟩ f w:=
 h ρ0 w0 ρ f w ⟨RD ρ0 w0 nb K.nrm,λi=>RD ρ0 w0 nb (K.ext i),RD ρ0 w0 nb K.ret⟩ ⟨λs ρ f w hk hD=>⟨s,ρ,hk,hD⟩,λ_ s ρ f w hk hD=>⟨s,ρ,hk,hD⟩,λs ρ f w hk hD=>⟨s,ρ,hk,hD⟩⟩ hD
theorem AllC.hd {chg:List (Nat×DV)} (h:AllC s.sl chg) {ρ0 ρ:Pl} {w0 w:World} {f:Nat->Value} (hD:Dn ρ0 w0 nb s ρ f w) {t:Nat} {d:DV} (ht:cT chg t=some d):Hd ρ s.bl.length w d (f t):=by
 obtain⟨d0,h1,h2⟩:=h.get ht
 exact h2.hd (hD.f.sl t d0 h1)
theorem aXo (hT:Good P T) {q:FuncId} {cl:List Bool} {al:List DV} {bl:BL} {fl:List Fam} {c:Code} {σ:Type} {R:σ->OutF} {fn:Func} {rs:List ResultVar} (he:Ent P q) (hf:P.funcs[q]? =some fn) (hb:fn.body=some c) (hn:fn.ntmps=N) (hr:fn.results=rs.toArray) (hsz:al.length<=N) (hcl:ClB cl bl)
 (h:Sd0 P bl.length N c (aDr T cl bl.length rs R) ⟨aDs 0 al,[],bl,fl⟩):CtrF P q cl al bl fl R:=by
 refine⟨he,hcl,λρ w vals hv hD hFl=>?_⟩
 have hD0:Dn ρ w bl.length ⟨aDs 0 al,[],bl,fl⟩ ρ (λi=>vals.toArray.getD i undef) w:=⟨hD,⟨λt d ht=>by
  obtain⟨j,u,h1,h2,h3⟩:=yM hv ht
  rw[Nat.zero_add] at h1
  subst h1
  have:vals.toArray.getD t undef=u:=by simp[Array.getD,bK h2,(List.getElem?_eq_some_iff.1 h2).2]
  show Hd ρ bl.length w d (vals.toArray.getD t undef)
  rw[this]
  exact h3,λt gs d ht=>by cases ht⟩,hFl⟩
 have ha0:Fm [] N (λi=>vals.toArray.getD i undef) {tmps:=vals.toArray++Array.replicate (fn.ntmps-vals.toArray.size) undef,defers:=[]}:=by
  have hsz':vals.toArray.size<=N:=by simp only[List.size_toArray];rw[<-hv.len];exact hsz
  generalize vals.toArray=args at hsz' ⊢
  refine⟨rfl,by simp[hn];omega,λi=>?_⟩
  by_cases h1:i<args.size
  ·simp[Array.getD,h1,Array.getElem_append_left,Nat.lt_of_lt_of_le h1 (Nat.le_add_right _ _)]
  by_cases h2:i<N
  ·have h3:i<args.size+(fn.ntmps-args.size):=by omega
   simp only[Array.getD,Array.size_append,Array.size_replicate,h3,h1,dite_true,dite_false]
   simp[Array.getElem_append,h1]
  have h3:¬i<args.size+(fn.ntmps-args.size):=by omega
  simp only[Array.getD,Array.size_append,Array.size_replicate,h3,h1,dite_false]
 have fin:∀(a:Act) (f:Nat->Value) (w':World) (dl:List Deferred),Fm dl N f a->RD ρ w bl.length (aDr T cl bl.length rs R) f w'->∃v,(results fn a.tmps).run P w'= .ok v w'∧∃v',Ending.returned v= .returned v'∧∃g ρ',(R g).C∧DnW ρ w bl.length (R g).bl ρ' w'∧Hd ρ' (R g).bl.length w' (R g).d v'∧ClB cl (R g).bl∧ρ'.F=(R g).fl:=λa f w' dl ha ⟨s',ρ',hret,hD'⟩=>by
  obtain⟨ds,vs,⟨g,hC,hF⟩,h2,h3⟩:=yL hT hD' hret
  obtain⟨ρ2,k1,k2,k3,k4⟩:=hF _ _ _ _ _ hD'.m hD'.l (aOb h2)
  refine⟨wI vs,?_,_,rfl,g,ρ2,hC,k1,k2,k3,k4⟩
  have h1:=tZ ha h3
  have e:results fn a.tmps=(do let vs <-fn.results.mapM (rdv a.tmps);pure (if h:vs.size=1 then vs[0] else .tuple vs)):=rfl
  rw[e,hr,List.mapM_toArray]
  simp only[Sem.run_bind,Sem.run_map,h1,Result.andThen_ok,Sem.run_pure]
  congr 1
  match vs with
  |[]=>rfl
  |[v]=>rfl
  |v::u::vs=>simp[wI]
 refine callsIn_wide.1 (callsIn_of_wp_marks (F:=Fence.wide) (n:=0) hf hb trivial (wpIn_mono (h ρ w ρ _ w _ hD0 ha0) λe a w' hq=>?_))
 cases e with
 |ret=>
  obtain⟨f,⟨hfm,hh⟩|⟨d,hfm,hk,hh⟩⟩:=hq
  ·show LeavesInM _ _ _ _ _ _ a.defers _ _
   rw[hfm.1]
   exact fin a f w' _ hfm hh
  show LeavesInM _ _ _ _ _ _ a.defers _ _
  rw[hfm.1]
  exact⟨by simp,.inl ⟨d,_,rfl,run_takeDeferred hk,fin a f _ _ hfm hh⟩⟩
 |normal=>exact hq.elim
 |exit i=>exact hq.elim
 |goto l=>exact hq.elim
 |panic c=>exact hq.elim
 |outgrown=>exact hq.elim
end
/-! ### a region that calls yield -/
section
variable {P:Program} {n:Nat} {Q:Po} {f:Nat->Value} {w:World} {ops:Array Oper}
theorem bMe {dl:List Deferred} {ro:Option Nat} {Q2:Po} {o:Oper} {a:Act} {w:World} {K:Act->World->Prop} (hd:ndO o=true) (h:o.wp P a w K (up dl n Q)):o.wpIn (fen ro) 0 P a w K (up dl n Q2):=by
 refine⟨oV,?_⟩
 rw[Oper.semAt_plain (fen ro) a.eval o (xI hd)]
 unfold Oper.wp at h
 generalize (execOp a.eval o).run P w=r at h
 cases r with
 |ok x w'=>
  cases x with
  |value v=>exact h
  |skip=>exact h
  |defer d=>exact h
  |enter f args=>
   refine⟨λhh=>(by cases hh),?_⟩
   have h2:CallsIn Fence.wide 0 P f args w' _:=callsIn_wide.2 h
   exact CallsIn.mono (F:=fen ro) (n:=0) h2 λe w'' hh=>by
    cases e with
    |returned v=>exact hh
    |panicked c=>exact hh
    |outgrown=>exact(qZ hh).elim
  |row r args=>
   exact⟨λhh=>(by cases hh),λc cs _=>by
    obtain⟨v,w',r,s⟩:=(show Rows P _ _ _ _ from h) c cs
    exact⟨v,w',r,stepsIn_wide.2 s⟩⟩
  |_=>exact h.elim
 |halt x w'=>cases x<;>first|exact h|exact h.elim
def RLI (ro:Option Nat) (P:Program) (n:Nat) (ops:Array Oper) (l:List Oper) (Q:Po) (f:Nat->Value) (w:World):Prop:=∀dl a,Fm dl n f a->wpListIn (fen ro) 0 P ops (up dl n Q) l a w
theorem zV {dl:List Deferred} {ro:Option Nat} {suf:List Oper}:∀{l:List Oper} {a:Act} {w:World},ndA l=true->wpList P ops (up dl n ⟨λf w=>RLI ro P n ops suf Q f w,Q.ext,Q.ret⟩) l a w->wpListIn (fen ro) 0 P ops (up dl n Q) (l++suf) a w
 |[],a,w,_,h=>by obtain⟨f,hf,hh⟩:=h;exact hh dl a hf
 |o::l,a,w,hd,h=>by
  simp only[ndA,List.all_cons,Bool.and_eq_true] at hd
  unfold wpList at h
  show wpListIn _ _ _ _ _ (o::(l++suf)) _ _
  unfold wpListIn
  split
  ·next hw=>
   rw[if_pos hw] at h
   rcases h with h|h
   ·exact bMe hd.1 (Oper.wp_mono (λa w hh=>zV hd.2 hh) h)
   exact absurd h.2 qZ
  next hw=>
  rw[if_neg hw] at h
  exact⟨oV,zV hd.2 h⟩
theorem bMf {id:Nat} (pre suf:List Oper) {l:List Oper} (hl:l=pre++suf) (hd:ndA pre=true) (h:∀ro,RL P n l.toArray pre ⟨λf w=>RLI ro P n l.toArray suf Q f w,Q.ext,Q.ret⟩ f w):WP P n (.region id l.toArray false) Q f w:=λro dl a ha=>wpIn_region_lit (by
 have:=zV hd (h ro dl a ha)
 rw[<-hl] at this
 exact this)
theorem RLI.nil {ro:Option Nat} (h:Q.nrm f w):RLI ro P n ops [] Q f w:=λ_ _ ha=>wpListIn_nil ⟨f,ha,h⟩
theorem RLI.val {ro:Option Nat} {o:Oper} {rest:List Oper} {d:Nat} {v:Value} {w':World} (hg:o.guard=none) (hnd:ndO o=true) (hd:o.dst=some d) (hn:d<n) (hr:(execOp (ev f) o).run P w= .ok (.value v) w') (h:RLI ro P n ops rest Q (st f d v) w'):RLI ro P n ops (o::rest) Q f w:=λdl a ha=>by
 unfold wpListIn
 have hw:Region.wanted o (yielded ops a.tmps)=true:=by simp[Region.wanted,hg]
 rw[if_pos hw]
 refine⟨oV,?_⟩
 rw[Oper.semAt_plain (fen ro) a.eval o (xI hnd),ha.eval,hr]
 exact h dl _ (by rw[hd];exact ha.put hn v)
theorem RLI.yield {ro:Option Nat} {o:Oper} {rest:List Oper} {d l:Nat} {args:Array Value} {R:Ending->World->Prop} (hg:o.guard=none) (hnd:ndO o=true) (hd:o.dst=some d) (hn:d<n) (hr:(execOp (ev f) o).run P w=(Instr.yield l args).run P w) (hY:YieldAt (fen none) 0 P l args w R) (h:∀e w',R e w'->∃u,e= .returned u∧RLI ro P n ops rest Q (st f d u) w'):RLI ro P n ops (o::rest) Q f w:=λdl a ha=>by
 obtain⟨fn,tmps,asg,bd,hy,hR⟩:=hY
 unfold wpListIn
 have hw:Region.wanted o (yielded ops a.tmps)=true:=by simp[Region.wanted,hg]
 rw[if_pos hw]
 refine⟨oV,?_⟩
 rw[Oper.semAt_plain (fen ro) a.eval o (xI hnd),ha.eval,hr,hy]
 exact⟨λhh=>(by cases hh),RoundIn.mono (F:=fen ro) hR λe w' hr=>by
  obtain⟨u,rfl,hh⟩:=h e w' hr
  exact hh dl _ (by rw[hd];exact ha.put hn u)⟩
theorem aXp {x y:Operand} {dst:Option Tmp} {ty:TypeId} {pos:String} {aft:Array Edge} {g:Option (Nat×Bool)} {l:Nat} {tys:Array TypeId} (hx:ev f x= .func (.yield l) #[] #[]):(execOp (ev f) ⟨dst,.call ⟨.value x,#[y],tys⟩,ty,pos,aft,g⟩).run P w=(Instr.yield l #[ev f y]).run P w:=by
 simp[execOp,resolve,hx,Deferred.ofValue,invoke]
end
theorem CtrF.lo {P:Program} {q:FuncId} {cl:List Bool} {al:List DV} {bl:BL} {fl:List Fam} {σ τ:Type} {R:σ->OutF} {R':τ->OutF} (h:CtrF P q cl al bl fl R) (hp:∀g,(R g).C->∃g',(R' g').C∧(∀ρ n w v,Hd ρ n w (R g).d v->Hd ρ n w (R' g').d v)∧(R' g').bl=(R g).bl∧(R' g').fl=(R g).fl):CtrF P q cl al bl fl R':=
 ⟨h.ent,h.clb,λρ w vals hv hD hF=>(h.run ρ w vals hv hD hF).mono λe w' ⟨v,he,g,ρ',hC,hDr,hdv,hclr,hFr⟩=>by
  obtain⟨g',h1,h2,h3,h4⟩:=hp g hC
  exact⟨v,he,g',ρ',h1,by rw[h3];exact hDr,by rw[h3];exact h2 _ _ _ _ hdv,by rw[h3];exact hclr,by rw[h4];exact hFr⟩⟩
theorem Hd.tt {ρ:Pl} {n:Nat} {w:World} {p:Prop} {hp:Decidable p} {v:Value} (h:Hd ρ n w (.c (.b p hp)) v) (ht:p):Hd ρ n w (.c (.v (.bool true))) v:=by
 rw[h.inv_c.inv_b,decide_eq_true ht];exact .c (Rc.v _)
/-! ### a place within a region -/
section
variable {P:Program} {T:TT} {nb N n:Nat} {Q:Po} {f:Nat->Value} {w:World} {ops:Array Oper} {s:SS} {K:SS->Prop}
theorem bQo {dl:List Deferred} {Q2:Po} {o:Oper} {a:Act} {w:World} {K:Act->World->Prop} (h:o.wp P a w K (up dl n Q)):o.wp P a w K (up dl n Q2):=by
 unfold Oper.wp at h ⊢
 generalize (execOp a.eval o).run P w=r at h ⊢
 cases r with
 |ok x w'=>
  cases x with
  |enter f args=>
   refine Calls.mono h λe w'' hh=>?_
   cases e with
   |returned v=>exact hh
   |panicked c=>exact hh.elim
   |outgrown=>exact(qZ hh).elim
  |_=>exact h
 |halt x w'=>cases x<;>first|exact h|exact h.elim
theorem wF {dl:List Deferred} {suf:List Oper}:∀{l:List Oper} {a:Act} {w:World},wpList P ops (up dl n ⟨λf w=>RL P n ops suf Q f w,Q.ext,Q.ret⟩) l a w->wpList P ops (up dl n Q) (l++suf) a w
 |[],a,w,h=>by obtain⟨f,hf,hh⟩:=h;exact hh dl a hf
 |o::l,a,w,h=>by
  unfold wpList at h
  show wpList _ _ _ (o::(l++suf)) _ _
  unfold wpList
  split
  ·next hw=>
   rw[if_pos hw] at h
   rcases h with h|h
   ·exact .inl (bQo (Oper.wp_mono (λa w hh=>wF hh) h))
   exact absurd h.2 qZ
  next hw=>
  rw[if_neg hw] at h
  exact wF h
def Sdl (P:Program) (nb N:Nat) (ops:Array Oper) (suf:List Oper) (K:SS->Prop) (s:SS):Prop:=∀ρ0 w0 ρ f w (Q:Po),(∀s ρ f w,K s->Dn ρ0 w0 nb s ρ f w->Q.nrm f w)->Dn ρ0 w0 nb s ρ f w->RL P N ops suf Q f w
theorem bMg {suf:List Oper}:Tgt nb (Sdl P nb N ops suf K):=λs σ S C h hk ρ0 w0 ρ f w Q hQ hD=>by
 obtain⟨g,ρ',hC,hD'⟩:=h ρ0 w0 ρ f w hD
 exact hk g hC ρ0 w0 ρ' f w Q hQ hD'
theorem Sdl.go (hT:Good P T) {l suf:List Oper} (h:VL P T nb N l suf K s):Sdl P nb N l.toArray suf K s:=λρ0 w0 ρ f w Q hQ hD=>oU (ops:=l.toArray) hT hQ h hD
theorem Sd.rg (hT:Good P T) {id:Nat} (pre suf:List Oper) {l:List Oper} {K:Kt} (hl:l=pre++suf) (hd:ndA l=true) (h:VL P T nb N l pre (Sdl P nb N l.toArray suf K.nrm) s):Sd P nb N (.region id l.toArray false) K s:=λρ0 w0 ρ f w Q hL hD=>aV (λdl a ha=>by
 have h1:RL P N l.toArray pre ⟨λf w=>RL P N l.toArray suf Q f w,Q.ext,Q.ret⟩ f w:=oU (ops:=l.toArray) hT (Q:=⟨λf w=>RL P N l.toArray suf Q f w,Q.ext,Q.ret⟩) (λs ρ f w hk hD=>hk ρ0 w0 ρ f w Q hL.nrm hD) h hD
 have:=wF (h1 dl a ha)
 rw[<-hl] at this
 exact this) hd
end
/-! ### cells that tell their value -/
def exC:CV->Bool
 |.v _=>true
 |.b _ _=>true
 |.r _ _ _ _ _=>true
 |_=>false
def aFp:CV->Value
 |.v x=>x
 |.b p h=> .bool (@decide p h)
 |.r A n c _ _=> .slice A n c
 |_=>undef
theorem Hc.ex {ρ:Pl} {n:Nat} {w:World} {c:CV} {x:Value} (h:Hc ρ n w c x) (hc:exC c=true):x=aFp c:=by
 cases c with
 |v y=>cases h;rfl
 |b p q=>cases h;rfl
 |r A n c e g=>cases h<;>rfl
 |_=>cases hc
theorem Hl.ex {ρ:Pl} {n:Nat} {w:World}:∀{l:List CV} {vl:List Value},Hl ρ n w l vl->l.all exC=true->vl=l.map aFp
 |[],[],_,_=>rfl
 |[],_::_,h,_=>h.elim
 |_::_,[],h,_=>h.elim
 |c::l,v::vl,h,hc=>by
  simp only[List.all_cons,Bool.and_eq_true] at hc
  rw[List.map_cons,h.1.ex hc.1,Hl.ex h.2 hc.2]
theorem Hl.of_rc {ρ:Pl} {n:Nat} {w:World}:∀{l:List CV} {vl:List Value},vl.length=l.length->(∀(k:Nat) (c:CV) (x:Value),l[k]? =some c->vl[k]? =some x->Rc (Zf ρ n w) w c x)->Hl ρ n w l vl
 |[],[],_,_=>trivial
 |[],_::_,h,_=>by simp at h
 |_::_,[],h,_=>by simp at h
 |c::l,v::vl,h,hc=>by
  refine⟨?_,Hl.of_rc (by simpa using h) λk c x h1 h2=>hc (k+1) c x (by simpa using h1) (by simpa using h2)⟩
  have:=hc 0 c v rfl rfl
  cases this with
  |u x=>exact Rc.u _
  |v x=>exact Rc.v _
  |h A n c=>exact Rc.h _ _ _
  |hp b o=>exact Rc.hp _ _
  |b p h=>exact Rc.b _ _
  |nil A c e g hm=>exact Rc.nil _ _ _ _ hm
  |r b o n c e g V h1 h2 h3 h4 h5 h6=>exact Rc.r b o n c e g V h1 h2 h3 h4 h5 h6
theorem aXq {ρ0 ρ:Pl} {n i k j:Nat} {w w0:World} {bl:BL} {F:Fam} {sc:List CV} (hf:ρ.F[i]? =some F) (hk:k<F.N) (hT:Nat.ble F.T 999999=true) (hn:bl.length=n) (hD:DnW ρ0 w0 n bl ρ w) (he:((F.get k).drop (j*F.es)).take F.es=sc) (hne:sc≠[]) (hx:sc.all exC=true):Hd ρ n w (.a sc) (.agg (sc.map aFp).toArray):=by
 subst hn
 have hq:=hD.fam.mem rfl hf hk
 cases hρ:F.A k with
 |none=>
  unfold Mq at hq
  simp only[hρ] at hq
  rw[hq.1] at he
  exact absurd (by simpa using he.symm) hne
 |some b=>
  obtain⟨vl,junk,q1,q2,q3,_⟩:=hq.at hρ hT
  have h0:Hl ρ bl.length w (F.get k) vl:=Hl.of_rc q2 q3
  have h1:=(h0.drop (j*F.es)).take F.es
  rw[he] at h1
  have h2:=h1.ex hx
  rw[<-h2]
  exact .a h1
end Go.Vy
namespace Go.Proofs.YtlhdigjbokkbiaaGreat
open Go.Vg _root_.Go.Proofs.Tryz
open Go.Vm hiding sg sg_t sg_f sg_abs sg_add sg_mul bF aU bG cM
open Go.Vy hiding val
set_option maxRecDepth 8000
structure StpM where
 k:Int
 p:RatM
 o:Sl EntM
instance:Inhabited StpM:=⟨⟨0,default,cD⟩⟩
def StpM.C (s:StpM):List CV:=iC s.k::(s.p.C++[aO s.o])
theorem aIf (s:StpM):s.C.length=5:=rfl
theorem aSy (s:StpM):s.C.all exC=true:=rfl
theorem aIg (s:StpM):∀c∈s.C,cW c=true:=λc hc=>by
 rcases List.mem_cons.1 hc with rfl|hc
 ·rfl
 rcases List.mem_append.1 hc with hc|hc
 ·exact cP _ c hc
 rw[List.mem_singleton.1 hc];rfl
abbrev wG (L:List StpM):List CV:=fl StpM.C default L
theorem aIh {L:List StpM} {j:Nat} (h:j<L.length):((wG L).drop (j*5)).take 5=(L.getD j default).C:=(vU (f:=StpM.C) (d:=default) (L:=L) (e:=5) aIf j h).symm
theorem aCg {L:List StpM}:(wG L).length=L.length*5:=iT (f:=StpM.C) (d:=default) aIf
abbrev stF (A:Option Nat) (k:Nat) (L:List StpM):Fam:=⟨91,5,1,λ_=>A,λ_=>k,λ_=>wG L⟩
abbrev fwB (hd:CV) (f:LuM) (A:Option Nat) (k:Nat) (L:List StpM) (b1 b2 b3:TypeId×Nat×List CV):BL:=[(74,0,hd::(f.C++[.h A L.length k])),b1,b2,b3,(26,0,[.p 0 0])]
def fwX (hd:CV) (f:LuM) (A:Option Nat) (k:Nat) (L:List StpM) (bl:BL):Prop:=∃b1 b2 b3,bl=fwB hd f A k L b1 b2 b3
abbrev yvV (l:Nat):Value:=.func (.yield l) #[] #[]
abbrev fwS (l:Nat) (A:Option Nat) (k m j:Nat):List (Nat×DV):=[(0,.c (.v (yvV l))),(8,.c (.h A m k)),(9,.c (iC m)),(10,.c (iC j))]
structure FwI (A:Option Nat) (k l m:Nat) (J:BL->Nat->World->Prop) (j i:Nat) (f:Nat->Value) (w:World):Prop where
 jm:j<=m
 J:∃bl,J bl j w
 f0:f 0=yvV l
 f8:f 8= .slice (A.map λb=>⟨b,0,none⟩) m k
 f9:f 9= .int .i64 m
 f10:f 10= .int .i64 i
theorem aSz {ρ0 ρ:Pl} {w0 w:World} {nb i T e:Nat} {bl:BL} {c:CV} {r:List CV} (h:DnW ρ0 w0 nb bl ρ w) (hi:bl[i]? =some (T,e,c::r)):∃b,(ρ i).1=some b:=by
 have:=h.ok i T e _ hi
 unfold Bq at this
 cases hρ:(ρ i).1 with
 |none=>simp only[hρ] at this;exact absurd this.1 (by simp)
 |some b=>exact⟨b,rfl⟩
theorem rS {s:SS} {chg:List (Nat×DV)} {ρ0 ρ:Pl} {w0 w:World} {nb t:Nat} {f:Nat->Value} {x:Value} (h:AllC s.sl chg) (hD:Dn ρ0 w0 nb s ρ f w) (ht:cT chg t=some (.c (.v x))):f t=x:=(h.hd hD ht).inv_c.inv_v
theorem aXr {s:SS} {chg:List (Nat×DV)} {ρ0 ρ:Pl} {w0 w:World} {nb t m k:Nat} {A:Option Nat} {f:Nat->Value} (h:AllC s.sl chg) (hD:Dn ρ0 w0 nb s ρ f w) (ht:cT chg t=some (.c (.h A m k))):f t= .slice (A.map λb=>⟨b,0,none⟩) m k:=by
 have:=(h.hd hD ht).inv_c
 generalize f t=x at this
 cases this;rfl
theorem fwD {ρ:Pl} {w:World} {l k m j:Nat} {A:Option Nat} {f:Nat->Value} {bl:BL} {fl:List Fam} (hD:DnW ρ w 5 bl ρ w) (hF:ρ.F=fl) (e0:f 0=yvV l) (e8:f 8= .slice (A.map λb=>⟨b,0,none⟩) m k) (e9:f 9= .int .i64 m) (e10:f 10= .int .i64 j):Dn ρ w 5 ⟨fwS l A k m j,[],bl,fl⟩ ρ f w:=⟨hD,.cons (by rw[e0];exact .c (Rc.v _)) (.cons (by rw[e8];exact .c (Rc.h _ _ _)) (.cons (by rw[e9];exact .c (Rc.v _)) (.cons (by rw[e10];exact .c (Rc.v _)) .nil))),hF⟩
abbrev aIi:FuncId:=77
theorem bMh:Ent Tryz.prog aIi:=Ent.of func77 rfl kR
theorem bMi:Tryz.prog.funcs[aIi]? =some Tryz.f77:=func77
theorem bMj (hd:CV) (F:LuM) (A:Option Nat) (k:Nat) (L:List StpM) (hm:L.length<=4096):ItC Tryz.prog aIi [(4,0)] 5 (fwX hd F A k L) [stF A k L] L.length λj=> .agg ((L.getD j default).C.map aFp).toArray:=λρ l J hF hX hS hY bl W hJ0=>by
 obtain⟨m,hmL⟩:∃m,m=L.length:=⟨_,rfl⟩
 have hfin:∀(f:Nat->Value) (w:World),(∃bl',J bl' L.length w)->∃vs,aAf Tryz.prog f w [] vs∧(λ(_:Value) (w:World)=>∃bl',J bl' L.length w) (wI vs) w:=λf w h=>⟨[],trivial,h⟩
 refine CallsIn.mono (F:=fen none) (n:=0) (callsIn_wide.2 (bH (R:=λ_ w=>∃bl',J bl' L.length w) (rs:=[]) bMi rfl rfl rfl bL ?_)) λe w' ⟨v,he,hh⟩=>⟨⟨v,he⟩,hh⟩
 obtain⟨⟨b1,b2,b3,rfl⟩,hn,hD⟩:=hX bl 0 W hJ0
 have hmk:∀{bl:BL} {j:Nat} {w:World} {s':SS} {ρ':Pl} {f':Nat->Value} {w':World} {r:BL},J bl j w->Dn ρ w 5 s' ρ' f' w'->s'.bl=bl++r->s'.fl=[stF A k L]->J bl j w':=λhj hD hb hf=>hS _ _ _ _ _ _ hj (hb▸hD.m) (hD.l.trans hf)
 refine oI (FwI A k l L.length J 0 0) ?_ ?_
 ·have hD0:Dn ρ W 5 ⟨[(0,.c (.v (yvV l))),(1,.c (.p 4 0))],[],fwB hd F A k L b1 b2 b3,[stF A k L]⟩ ρ (λi=>(#[yvV l,ptr ρ (4,0)]:Array Value).getD i undef) W:=by
   obtain⟨b,hb⟩:=aSz (i:=4) hD rfl
   exact⟨hD,.cons (.c (Rc.v _)) (.cons (.c ⟨bL,b,hb,by show ptr ρ (4,0)=_;unfold ptr;rw[hb];rfl⟩) .nil),hF⟩
  refine aAd (Sd.wp (K:=⟨λs'=>AllC s'.sl (fwS l A k L.length 0)∧s'.bl=fwB hd F A k L b1 b2 b3++[]∧s'.fl=[stF A k L],λ_ _=>False,λ_=>False⟩) (aA gT mxd ?_) hD0) (λf' w' ⟨s',ρ',⟨h1,h2,h3⟩,hD'⟩=>⟨Nat.zero_le _,⟨_,hmk hJ0 hD' h2 h3⟩,rS h1 hD' rfl,aXr h1 hD' rfl,rS h1 hD' rfl,rS h1 hD' rfl⟩) (λi f' w' ⟨s',ρ',hh,_⟩=>hh.elim) λf' w' ⟨s',ρ',hh,_⟩=>hh.elim
  exact⟨⟨rfl,rfl,rfl,rfl⟩,rfl,rfl⟩
 intro f1 w1 h1
 refine cF (fU (λj=>FwI A k l L.length J j j) (λj=>L.length-j) 0 h1 λj f2 w2 ⟨jm,⟨bl2,hJ2⟩,e0,e8,e9,e10⟩=>?_)
 obtain⟨⟨c1,c3,c4,rfl⟩,hn2,hD2⟩:=hX bl2 j w2 hJ2
 refine oI (λf w=>FwI A k l L.length J j j f w∧f 11= .bool (decide ((j:Int)<(L.length:Nat)))) ?_ ?_
 ·refine aAd (Sd.wp (K:=⟨λs'=>AllC s'.sl ((11,.c (.b ((j:Int)<(L.length:Nat)) inferInstance))::fwS l A k L.length j)∧s'.bl=fwB hd F A k L c1 c3 c4++[]∧s'.fl=[stF A k L],λ_ _=>False,λ_=>False⟩) (aA gT mxd ?_) (fwD hD2 hF e0 e8 e9 e10)) (λf' w' ⟨s',ρ',⟨h1,h2,h3⟩,hD'⟩=>⟨⟨jm,⟨_,hmk hJ2 hD' h2 h3⟩,rS h1 hD' rfl,aXr h1 hD' rfl,rS h1 hD' rfl,rS h1 hD' rfl⟩,(h1.hd hD' rfl).inv_c.inv_b⟩) (λi f' w' ⟨s',ρ',hh,_⟩=>hh.elim) λf' w' ⟨s',ρ',hh,_⟩=>hh.elim
  exact⟨⟨⟨id,id⟩,rfl,rfl,rfl,rfl⟩,rfl,rfl⟩
 intro f3 w3 ⟨hI3,h11⟩
 refine bB (kO h11 (λht=>bW ?_) λhf=>fB ?_)
 ·have hj:j<L.length:=by have:=of_decide_eq_true ht;omega
  obtain⟨-,⟨bl3,hJ3⟩,a0,a8,a9,a10⟩:=hI3
  obtain⟨⟨d1,d3,d4,rfl⟩,hn3,hD3⟩:=hX bl3 j w3 hJ3
  obtain⟨S,hSj⟩:∃S,S=L.getD j default:=⟨_,rfl⟩
  have hYj:∀W,J (fwB hd F A k L d1 d3 d4) j W->YieldAt (fen none) 0 Tryz.prog l #[.agg (S.C.map aFp).toArray] W λe W'=>e= .returned (.bool true)∧∃bl',J bl' (j+1) W':=λW h=>by
   rw[hSj];exact hY _ j W hj h
  have hat:((wG L).drop (j*5)).take 5=S.C:=by rw[hSj];exact aIh hj
  refine oI (λf w=>FwI A k l L.length J (j+1) j f w) ?_ ?_
  ·refine cF (oI (λf w=>∃ρ' s',(AllC s'.sl ((4,.c (.p 5 0))::fwS l A k L.length j)∧s'.bl=fwB hd F A k L d1 d3 d4++[(91,0,S.C)]∧s'.fl=[stF A k L])∧Dn ρ w3 5 s' ρ' f w) ?_ ?_)
   ·refine aAd (Sd.wp (K:=⟨λs'=>AllC s'.sl ((4,.c (.p 5 0))::fwS l A k L.length j)∧s'.bl=fwB hd F A k L d1 d3 d4++[(91,0,S.C)]∧s'.fl=[stF A k L],λ_ _=>False,λ_=>False⟩) (bHc tSd 0 rfl λhA=>aA gT mxd ?_) (fwD hD3 hF a0 a8 a9 a10)) (λf' w' ⟨s',ρ',h1,hD'⟩=>⟨ρ',s',h1,hD'⟩) (λi f' w' ⟨s',ρ',hh,_⟩=>hh.elim) λf' w' ⟨s',ρ',hh,_⟩=>hh.elim
    obtain⟨bb,hbb⟩:=hA 0 (Nat.lt_succ_self 0) λe=>by
     have h1:=aCg (L:=L)
     rw[show wG L=[] from e] at h1
     simp at h1;omega
    exact⟨j,bb,⟨rfl,hj,hbb⟩,0,0,⟨bL,hbb⟩,_,⟨hat,rfl⟩,⟨rfl,rfl,rfl,rfl,rfl⟩,rfl,rfl⟩
   intro f4 w4 ⟨ρ4,s4,⟨g1,g2,g3⟩,hD4⟩
   obtain⟨sl4,gl4,bl4,fl4⟩:=s4
   obtain rfl:bl4=_:=g2
   obtain rfl:fl4=_:=g3
   have hJ4:=hmk hJ3 hD4 rfl rfl
   have hD5:Dn ρ w3 5 ⟨(4,.c (.p 5 0))::fwS l A k L.length j,[],fwB hd F A k L d1 d3 d4++[(91,0,S.C)],[stF A k L]⟩ ρ4 f4 w4:=⟨hD4.m,.cons (g1.hd hD4 rfl) (.cons (g1.hd hD4 rfl) (.cons (g1.hd hD4 rfl) (.cons (g1.hd hD4 rfl) (.cons (g1.hd hD4 rfl) .nil)))),hD4.l⟩
   refine oI (λf w=>FwI A k l L.length J (j+1) j f w∧f 17= .bool false) (bMf (l:=[_,_,_,_]) [_,_] [_,_] rfl rfl λro=>oU gT (K:=λs'=>AllC s'.sl ((14,.c (.v (yvV l)))::(15,.a S.C)::fwS l A k L.length j)∧s'.bl=fwB hd F A k L d1 d3 d4++[(91,0,S.C)]∧s'.fl=[stF A k L]) (λs5 ρ5 f5 w5 ⟨k1,k2,k3⟩ hD6=>?_) ?_ hD5) ?_
   ·have hJ6:=hmk hJ3 hD6 k2 k3
    have y14:f5 14=yvV l:=rS k1 hD6 rfl
    have y15:f5 15= .agg (S.C.map aFp).toArray:=by
     have:=k1.hd hD6 (t:=15) (d:=.a S.C) rfl
     generalize f5 15=x at this
     cases this with
     |a h=>rw[h.ex (aSy S)]
    refine RLI.yield (R:=λe W'=>e= .returned (.bool true)∧∃bl',J bl' (j+1) W') rfl rfl rfl bL (aXp y14) (show YieldAt _ _ _ _ #[f5 15] _ _ from by rw[y15];exact hYj w5 hJ6) λe w' ⟨he,hb⟩=>⟨.bool true,he,RLI.val rfl rfl rfl bL (wN (p:=true) rfl) (RLI.nil (show FwI A k l L.length J (j+1) j _ _∧_=_ from ⟨⟨hj,hb,?_,?_,?_,?_⟩,rfl⟩))⟩
    ·show f5 0=_;exact rS k1 hD6 rfl
    ·show f5 8=_;exact aXr k1 hD6 rfl
    ·show f5 9=_;exact rS k1 hD6 rfl
    show f5 10=_;exact rS k1 hD6 rfl
   ·exact⟨⟨rfl,rfl,rfl,rfl,rfl,rfl⟩,rfl,rfl⟩
   intro f6 w6 ⟨hI6,h17⟩
   exact jW h17 (bW hI6)
  intro f7 w7 ⟨j7,⟨bl7,hJ7⟩,b0,b8,b9,b10⟩
  obtain⟨⟨d1,d3,d4,rfl⟩,hn7,hD7⟩:=hX bl7 _ w7 hJ7
  refine aAd (Sd.wp (K:=⟨λs'=>AllC s'.sl (fwS l A k L.length (j+1))∧s'.bl=fwB hd F A k L d1 d3 d4++[]∧s'.fl=[stF A k L],λ_ _=>False,λ_=>False⟩) (aA gT mxd ?_) (fwD hD7 hF b0 b8 b9 b10)) (λf' w' ⟨s',ρ',⟨h1,h2,h3⟩,hD'⟩=>⟨j+1,⟨j7,⟨_,hmk hJ7 hD' h2 h3⟩,rS h1 hD' rfl,aXr h1 hD' rfl,rS h1 hD' rfl,rS h1 hD' rfl⟩,by omega⟩) (λi f' w' ⟨s',ρ',hh,_⟩=>hh.elim) λf' w' ⟨s',ρ',hh,_⟩=>hh.elim
  exact⟨(j+1:Nat),wi,⟨rfl,rfl,rfl,rfl⟩,rfl,rfl⟩
 have hj:j=L.length:=by have:=of_decide_eq_false hf;have:=hI3.jm;omega
 subst hj
 exact hfin _ _ hI3.J
structure StpR where
 k:Nat
 p:Rat
 o:List En
instance:Inhabited StpR:=⟨⟨0,0,[]⟩⟩
def StpR.ap (s:StpR) (x:Nat->Rat):Nat->Rat:=λi=>if i=s.k then x s.k/s.p else x i-Vm.get s.o (i:Nat)*(x s.k/s.p)
structure StpOk (S:StpM) (s:StpR) (n F:Nat):Prop where
 k:S.k=(s.k:Nat)
 kn:s.k<n
 p:Cr S.p s.p
 pb:rb s.p F
 p0:s.p≠0
 o:Ek S.o.l s.o
 ov:VOk s.o (n:Nat)
 ok:∀e∈s.o,e.1≠(s.k:Nat)
 ob:rbE s.o F
def rT (R:List StpR) (x:Nat->Rat):Nat->Rat:=R.foldl (λx s=>s.ap x) x
theorem rW {R:List StpR} {x:Nat->Rat} {j:Nat} (h:j<R.length):rT (R.take (j+1)) x=(R.getD j default).ap (rT (R.take j) x):=by
 unfold rT
 rw[rQ h,List.foldl_append];rfl
def StpR.pt (s:StpR) (x:Nat->Rat) (t:Nat):Nat->Rat:=λi=>if i=s.k then x s.k/s.p else x i-Vm.get (s.o.take t) (i:Nat)*(x s.k/s.p)
theorem StpR.pt_all (s:StpR) (x:Nat->Rat):s.pt x s.o.length=s.ap x:=by unfold pt ap;rw[List.take_length]
theorem StpR.pt_succ {s:StpR} {x:Nat->Rat} {t i:Nat} (h:t<s.o.length) (he:(s.o.getD t default).1=(i:Nat)) (hk:i≠s.k) (j:Nat):s.pt x (t+1) j=if j=i then s.pt x t i-(s.o.getD t default).2*(x s.k/s.p) else s.pt x t j:=by
 unfold pt
 rw[rQ h,gJ,show ∀e:En,[e]=e::[] from λ_=>rfl,gE,he]
 by_cases e1:j=i
 ·subst e1
  rw[if_pos rfl,if_neg hk,if_neg hk,if_pos rfl]
  show _-(_+(_+(0:Rat)))*_=_
  grind
 rw[if_neg e1]
 by_cases e2:j=s.k
 ·rw[if_pos e2,if_pos e2]
 rw[if_neg e2,if_neg e2,if_neg oM]
 show _-(_+((0:Rat)+(0:Rat)))*_=_
 grind
theorem StpR.pt_new {s:StpR} {x:Nat->Rat} {t i n:Nat} (h:t<s.o.length) (hv:VOk s.o (n:Nat)) (he:(s.o.getD t default).1=(i:Nat)) (hk:i≠s.k):s.pt x t i=x i:=by
 unfold pt
 rw[if_neg hk,gA λe hm=>?_,Rat.zero_mul,wE]
 obtain⟨k,hk,rfl⟩:=List.mem_take_iff_getElem.1 hm
 have:=List.pairwise_iff_getElem.1 hv.1 k t oM h oM
 rw[gd h] at he
 have h2:(s.o[k]'oM).1<(s.o[t]).1:=this
 omega
theorem StpR.pt_zero {s:StpR} {x:Nat->Rat} (i:Nat) (hk:i≠s.k):s.pt x 0 i=x i:=by
 unfold pt
 rw[if_neg hk]
 show _-(0:Rat)*_=_
 rw[Rat.zero_mul,wE]
theorem StpR.ap_zero {s:StpR} {x:Nat->Rat} (h:x s.k=0) (i:Nat):s.ap x i=x i:=by
 have h0:x s.k/s.p=0:=by rw[h,Rat.div_def,Rat.zero_mul]
 unfold ap
 by_cases e:i=s.k
 ·rw[if_pos e,e,h0,h]
 rw[if_neg e,h0,Rat.mul_zero,wE]
structure IvM where
 c:Nat->Sl EntM
 f:LuM
 A:Option Nat
 k:Nat
 L:List StpM
abbrev ZT:=Option (Option Addr×Nat)
abbrev hdC (z:ZT) (n:Nat) (c:Nat->Sl EntM):CV:=match z with
 |none=> .s 1 n
 |some (A,k)=>gQ ⟨A,k,eT c n⟩
abbrev b1C (z:ZT) (n:Nat) (c:Nat->Sl EntM):List CV:=match z with
 |none=>cB n λj=>aO (c j)
 |some _=>[]
theorem zW {z:ZT} {n:Nat} {c:Nat->Sl EntM}:∀x∈b1C z n c,cW x=true:=by
 cases z with
 |none=>exact aE λ_ _=>rfl
 |some p=>exact λx hx=>by cases hx
abbrev ivB (z:ZT) (n:Nat) (v:IvM):BL:=[(74,0,hdC z n v.c::(v.f.C++[.h v.A v.L.length v.k])),(54,1,b1C z n v.c)]
abbrev ivF (v:IvM):List Fam:=[stF v.A v.k v.L]
abbrev ivL:List Bool:=[false,true]
theorem iD {z:ZT} {n:Nat} {v:IvM} {r:BL}:ClB ivL (ivB z n v++r):=ClB.cons (λh=>by cases h) (ClB.cons (λ_=>List.all_eq_true.2 zW) (λi T es l hi hc=>by cases hc))
abbrev aXs:List Bool:=[false,true,true]
theorem bFq {z:ZT} {n T e:Nat} {v:IvM} {l:List CV} (h:∀c∈l,cW c=true):ClB aXs (ivB z n v++[(T,e,l)]):=ClB.cons (λh=>by cases h) (ClB.cons (λ_=>List.all_eq_true.2 zW) (ClB.cons (λ_=>List.all_eq_true.2 h) ClB.nil))
theorem bFr {z:ZT} {n:Nat} {v:IvM}:ClB aXs (ivB z n v):=ClB.cons (λh=>by cases h) (ClB.cons (λ_=>List.all_eq_true.2 zW) λi T es l hi hc=>by cases hi)
theorem bMk {z:ZT} {n k:Nat} {c:Nat->Sl EntM} (h:2<=k):scC k (hdC z n c)=true:=by
 cases z with
 |none=>exact Nat.ble_eq_true_of_le h
 |some p=>rfl
theorem bFs (f:LuM):∀c∈f.C,cW c=true:=List.all_eq_true.1 (show f.C.all cW=true from rfl)
theorem jS {z:ZT} {n k:Nat} {v:IvM} {r:BL} (hk:2<=k) (h:scB k r):scB k (ivB z n v++r):=by
 refine scB.cons (List.all_eq_true.2 λx hx=>?_) (scB.cons (aZ zW) h)
 rcases List.mem_cons.1 hx with rfl|hx
 ·exact bMk hk
 rcases List.mem_append.1 hx with hx|hx
 ·exact iS (bFs v.f x hx)
 rw[List.mem_singleton.1 hx];rfl
abbrev aFq:FuncId:=29
theorem aTa:Ent Tryz.prog aFq:=Ent.of func29 rfl kR
theorem aTb:Tryz.prog.funcs[aFq]? =some Tryz.f29:=func29
theorem kG (z:ZT) (n:Nat) (v:IvM):CtrF Tryz.prog aFq ivL [.c (.p 0 0)] (ivB z n v) (ivF v) (λ_:Unit=>⟨.c (iC n),ivB z n v,ivF v,True⟩):=by
 cases z with
 |none=>exact eD gT aTa aTb rfl rfl rfl bL (iD (r:=[])) (aA gT mxd ⟨(),trivial,dG rfl ⟨rfl,rfl⟩ ⟨rfl,trivial⟩ bL (jS (r:=[]) bL scB.nil) rfl (iD (r:=[]))⟩)
 |some p=>exact eD gT aTa aTb rfl rfl rfl bL (iD (r:=[])) (aA gT mxd ⟨(),trivial,dG (by show EqV (.v (.int .i64 ((eT v.c n).length:Nat))) (iC n);rw[iH];exact EqV.refl _) ⟨rfl,rfl⟩ ⟨rfl,trivial⟩ bL (jS (r:=[]) bL scB.nil) rfl (iD (r:=[]))⟩)
abbrev zX:FuncId:=11
theorem aIj:Ent Tryz.prog zX:=Ent.of func11 rfl kR
theorem aIk:Tryz.prog.funcs[zX]? =some Tryz.f11:=func11
theorem aCh (z:ZT) (n:Nat) (v:IvM):CtrF Tryz.prog zX ivL [.c (.p 0 0)] (ivB z n v) (ivF v) (λ_:Unit=>⟨.c (iC v.L.length),ivB z n v,ivF v,True⟩):=by
 cases z with
 |none=>exact eD gT aIj aIk rfl rfl rfl bL (iD (r:=[])) (aA gT mxd ⟨(),trivial,dG rfl ⟨rfl,rfl⟩ ⟨rfl,trivial⟩ bL (jS (r:=[]) bL scB.nil) rfl (iD (r:=[]))⟩)
 |some p=>exact eD gT aIj aIk rfl rfl rfl bL (iD (r:=[])) (aA gT mxd ⟨(),trivial,dG rfl ⟨rfl,rfl⟩ ⟨rfl,trivial⟩ bL (jS (r:=[]) bL scB.nil) rfl (iD (r:=[]))⟩)
abbrev bFt:FuncId:=40
theorem bMl:Ent Tryz.prog bFt:=Ent.of func40 rfl kR
theorem bMm:Tryz.prog.funcs[bFt]? =some Tryz.f40:=func40
theorem bMn (z:ZT) (n:Nat) (v:IvM):CtrF Tryz.prog bFt ivL [.c (.p 0 0)] (ivB z n v) (ivF v) (λ_:Unit=>⟨.c (.f aIi [] [(2,0)]),ivB z n v++[(26,0,[.p 0 0])],ivF v,True⟩):=by
 cases z with
 |none=>exact eD gT bMl bMm rfl rfl rfl bL (iD (r:=[])) (aA gT mxd ⟨(),trivial,dG rfl ⟨rfl,rfl,rfl⟩ ⟨rfl,trivial⟩ bL (jS bL (scB.cons rfl scB.nil)) rfl iD⟩)
 |some p=>exact eD gT bMl bMm rfl rfl rfl bL (iD (r:=[])) (aA gT mxd ⟨(),trivial,dG rfl ⟨rfl,rfl,rfl⟩ ⟨rfl,trivial⟩ bL (jS bL (scB.cons rfl scB.nil)) rfl iD⟩)
abbrev svB (n:Nat) (v:IvM) (Z:Nat->RatM):BL:=[(74,0,.s 1 n::(v.f.C++[.h v.A v.L.length v.k])),(54,1,cB n λj=>aO (v.c j)),(51,3,rtC n Z),(41,0,[.s 2 n]),(26,0,[.p 0 0])]
theorem bFu {n:Nat} {v:IvM} {Z:Nat->RatM}:scB 5 (svB n v Z):=jS (z:=none) bL (scB.cons (aZ dD) (scB.cons rfl (scB.cons rfl scB.nil)))
abbrev siB (n:Nat) (v:IvM) (S:StpM) (Z:Nat->RatM):BL:=[(74,0,.s 1 n::(v.f.C++[.h v.A v.L.length v.k])),(54,1,cB n λj=>aO (v.c j)),(51,3,rtC n Z),(41,0,[.s 2 n]),(26,0,[.p 0 0]),(91,0,S.C)]
theorem aTc {n:Nat} {v:IvM} {S:StpM} {Z:Nat->RatM}:scB 6 (siB n v S Z):=jS (z:=none) bL (scB.cons (aZ dD) (scB.cons rfl (scB.cons rfl (scB.cons (aZ (aIg S)) scB.nil))))
abbrev siG (o:Sl EntM) (t:Nat):List (Nat×DV):=[(56,.c (iC t)),(55,.c (iC (o.l.length:Nat))),(54,.c (aO o)),(8,.c (.p 5 0)),(6,.c (.p 3 0))]
abbrev tV:FuncId:=16
theorem aXt:Ent Tryz.prog tV:=Ent.of func16 rfl kR
theorem aXu:Tryz.prog.funcs[tV]? =some Tryz.f16:=func16
theorem aTd (v:IvM) (b:Sl RatM) {M:Nat->List En} {n F Fs B Bs:Nat} {rw cl:Nat->Nat} {Lw Up:Nat->List En} {bv:Nat->Rat} {R:List StpR} (h:LuG v.f M n rw cl Lw Up F) (h1:1<=F) (hn:n<=4096) (hb:b.l.length=n) (hbv:∀k,k<n->Cr (b.l.getD k default) (bv k)∧rb (bv k) B) (h1B:1<=B) (hF:F<=17179869184) (hB:yb (zb B F n) F n<=17179869184)
 (hL:v.L.length=R.length) (hLn:v.L.length<=4096) (hR:∀j,j<R.length->StpOk (v.L.getD j default) (R.getD j default) n Fs) (h1s:1<=Bs) (hBs:Fs+Bs<=17179869184) (hX:∀x,Sol M n bv x->∀j,j<=R.length->∀i,i<n->rb (rT (R.take j) x i) Bs):
 CtrF Tryz.prog tV aXs [.c (.p 0 0),.c (cN b)] (ivB none n v) (ivF v) (λg:(Nat->RatM)×(Nat->Rat)=>⟨.t [.c (.s 2 n),.c (iC 0)],ivB none n v++[(51,3,rtC n g.1)],ivF v,Sol M n bv g.2∧∀i,i<n->Cr (g.1 i) (rT R g.2 i)∧rb (rT R g.2 i) Bs⟩):=by
 have hRi:((b.l.length:Nat):Int)=(n:Nat):=by rw[hb]
 refine aXo gT aXt aXu rfl rfl rfl bL bFr (Sd0.seq (aA gT mxd ?_))
 refine Sd0.seq (aA gT mxd ⟨[0,1,1000],kG none n v,rfl,rfl,rfl,λ_ _=>⟨λhh=>absurd hRi hh,λ_=>aA gT mxd ?_⟩⟩)
 refine Sd0.seq (aA gT mxd ⟨[],aSx v.f b h h1 hn hb hbv h1B hF hB,rfl,rfl,rfl,λ⟨Z0,x0⟩ ⟨hS,hZ0⟩=>?_⟩)
 refine Sd0.seq (aA gT mxd ⟨λhh=>absurd rfl hh,λ_=>aA gT mxd ?_⟩)
 refine Sd0.seq1 (aA gT mxd ⟨[0,1,1000],bMn none n v,rfl,rfl,rfl,λ_ _=>?_⟩)
 replace hZ0:∀i,i<n->Cr (Z0 i) (x0 i)∧rb (x0 i) (yb (zb B F n) F n):=hZ0
 have hXS:=hX x0 hS
 show Sd1 _ _ _ _ _ _ _
 refine bFp (svB n v) (λZ j=>∀i,i<n->Cr (Z i) (rT (R.take j) x0 i)) v.L.length (fwX (.s 1 n) v.f v.A v.k v.L) (λj=> .agg ((v.L.getD j default).C.map aFp).toArray) (λj=>(v.L.getD j default).C) Z0 rfl rfl bMh (bMj (.s 1 n) v.f v.A v.k v.L hLn) rfl (λ_=>rfl) (λZ=>⟨_,_,_,rfl⟩) (λi hi=>(hZ0 i hi).1) (λρ W bl j ⟨b1,b2,b3,hb⟩ hbn hF hD hj=>?_) bL (λZ j hZ hj=>?_) (λ_=>bFu) λZ hZ=>aA gT mxd ?_
 ·subst hb
  exact aXq (F:=stF v.A v.k v.L) (i:=0) (k:=0) (by rw[hF];rfl) (Nat.lt_succ_self 0) rfl hbn hD (aIh hj) (λe=>by cases e) (aSy _)
 ·have hjR:j<R.length:=by omega
  have ok:=hR j hjR
  have hxb:=hXS j oM
  have hxb':=hXS (j+1) oM
  rw[rW hjR] at hxb'
  have hK:∀Z':Nat->RatM,(∀i,i<n->Cr (Z' i) ((R.getD j default).ap (rT (R.take j) x0) i))->∀i,i<n->Cr (Z' i) (rT (R.take (j+1)) x0 i):=λZ' h=>by rw[rW hjR];exact h
  obtain⟨S,hSS⟩:∃S,S=v.L.getD j default:=⟨_,rfl⟩
  obtain⟨s,hs⟩:∃s,s=R.getD j default:=⟨_,rfl⟩
  obtain⟨x,hx⟩:∃x,x=rT (R.take j) x0:=⟨_,rfl⟩
  rw[<-hSS,<-hs] at ok
  rw[<-hx,<-hs] at hxb' hK
  rw[<-hx] at hxb
  replace hZ:∀i,i<n->Cr (Z i) (x i):=by rw[hx];exact hZ
  simp only[<-hSS]
  have hkn:=ok.kn
  have hxk:Rq (Z s.k) (x s.k) Bs:=(hZ _ hkn).rq (hxb _ hkn)
  refine aA gT mxd ⟨rfl,aA gT mxd ⟨s.k,⟨ok.k,hkn,fC hkn⟩,_,iA hkn,[],iJ (Z s.k) (hxk.le oM),rfl,rfl,rfl,λ_ _=>⟨λhh=>aA gT mxd ?_,λhh=>aA gT mxd ?_⟩⟩⟩
  ·have h0:x s.k=0:=Rat.num_eq_zero.1 (dL.1 hh)
   exact⟨Z,hK Z λi hi=>by rw[s.ap_zero h0];exact hZ i hi,⟨rfl,rfl,rfl,rfl,rfl⟩,rfl⟩
  have hpr:Rq S.p s.p Fs:=ok.p.rq ok.pb
  have hxa:rb (x s.k/s.p) Bs:=by
   have:=hxb' s.k hkn
   unfold StpR.ap at this
   rwa [if_pos rfl] at this
  refine⟨.seq ((List.range 16).map λi=>(i,i==15)),by kernel_rfl,s.k,⟨ok.k,hkn,fC hkn⟩,_,iA hkn,[],aPq (Z s.k) S.p (hxk.le oM) (hpr.le oM) ok.p0,rfl,rfl,rfl,λg hg=>⟨s.k,⟨ok.k,hkn,fC hkn⟩,_,mG hkn,?_⟩⟩
  replace hg:Cr g (x s.k/s.p):=hg
  have lo:=ok.o.ln
  have lv:=fS ok.ov
  show Sd _ _ _ _ _ _
  refine bV (λ_=>true) (λg:Nat×(Nat->RatM)=>siG S.o g.1) (λg=>siB n v S g.2) (λ_=>ivF v) (λg=>g.1<=s.o.length∧∀i,i<n->Cr (g.2 i) (s.pt x g.1 i)) (λg=>s.o.length-g.1) λhM=>⟨bA hM (chg:=λg:Nat×(Nat->RatM)=>siG S.o g.1) (bls:=λg=>siB n v S g.2) (fls:=λ_=>ivF v) (0,upd Z s.k g) ⟨Nat.zero_le _,λi hi=>?_⟩ rfl ⟨rfl,rfl,rfl,rfl,rfl,rfl⟩ ⟨rfl,trivial⟩ ⟨rfl,rfl,rfl,rfl,rfl⟩ bL aTc rfl,λ⟨t,Z'⟩ ⟨ht,hZ'⟩=>aA gT mxd ⟨λh3=>aA gT mxd ?_,λh3=>aA gT mxd ?_⟩⟩
  ·show Cr (upd Z s.k g i) (s.pt x 0 i)
   by_cases e:i=s.k
   ·rw[e,aT]
    unfold StpR.pt
    rw[if_pos rfl];exact hg
   rw[aP e,s.pt_zero i e];exact hZ i hi
  all_goals
   replace ht:t<=s.o.length:=ht
   replace hZ':∀i,i<n->Cr (Z' i) (s.pt x t i):=hZ'
  ·replace h3:(t:Int)<(S.o.l.length:Nat):=h3
   have htl:t<s.o.length:=by omega
   have er:=ok.o.e t htl
   have hm:=dW htl
   have ev:=ok.ov.2 _ hm
   obtain⟨i0,hi0⟩:∃i0:Nat,(s.o.getD t default).1=(i0:Nat):=⟨(s.o.getD t default).1.toNat,by omega⟩
   have hin:i0<n:=by omega
   have hik:i0≠s.k:=λe=>ok.ok _ hm (by rw[hi0,e])
   have hix:(S.o.l.getD t default).ix=(i0:Nat):=er.1.trans hi0
   have evb:=ok.ob _ hm
   have z1:=hZ' i0 hin
   rw[s.pt_new htl ok.ov hi0 hik] at z1
   have z2:Cr (Z' s.k) (x s.k/s.p):=by
    have:=hZ' s.k hkn
    unfold StpR.pt at this
    rwa [if_pos rfl] at this
   have hmb:=gH evb hxa
   refine⟨t,⟨rfl,show t<S.o.l.length by omega⟩,.seq ((List.range 19).map λi=>(i,i==18)),by kernel_rfl,i0,⟨hix,hin,fC hin⟩,_,iA hin,s.k,⟨ok.k,hkn,fC hkn⟩,_,iA hkn,[],vK (S.o.l.getD t default).v (Z' s.k) (er.2.rq (evb.le oM)) (z2.rq (hxa.le oM)),rfl,rfl,rfl,λm hmc=>⟨[],aPs (Z' i0) m (z1.rq ((hxb i0 hin).le oM)) (Cr.rq hmc (hmb.le oM)),rfl,rfl,rfl,λg2 hg2=>⟨i0,⟨hix,hin,fC hin⟩,_,mG hin,(t+1:Nat),wi,bA hM (chg:=λg:Nat×(Nat->RatM)=>siG S.o g.1) (bls:=λg=>siB n v S g.2) (fls:=λ_=>ivF v) (t+1,upd Z' i0 g2) ⟨⟨htl,λi hi=>?_⟩,show s.o.length-(t+1)<s.o.length-t by omega⟩ rfl ⟨rfl,rfl,rfl,rfl,rfl,rfl⟩ ⟨rfl,trivial⟩ ⟨rfl,rfl,rfl,rfl,rfl⟩ bL aTc rfl⟩⟩⟩
   show Cr (upd Z' i0 g2 i) (s.pt x (t+1) i)
   rw[StpR.pt_succ htl hi0 hik,s.pt_new htl ok.ov hi0 hik]
   by_cases e:i=i0
   ·rw[e,aT,if_pos rfl];exact hg2
   rw[aP e,if_neg e];exact hZ' i hi
  replace h3:¬(t:Int)<(S.o.l.length:Nat):=h3
  obtain rfl:t=s.o.length:=by omega
  rw[s.pt_all] at hZ'
  exact⟨Z',hK Z' hZ',⟨rfl,rfl,rfl,rfl,rfl⟩,rfl⟩
 replace hZ:∀i,i<n->Cr (Z i) (rT (R.take v.L.length) x0 i):=hZ
 rw[hL,List.take_length] at hZ
 refine⟨rfl,(Z,x0),⟨hS,λi hi=>⟨hZ i hi,?_⟩⟩,dG ⟨rfl,rfl⟩ ⟨rfl,rfl,rfl⟩ ⟨rfl,trivial⟩ bL (jS (z:=none) bL (scB.cons (aZ dD) scB.nil)) rfl (bFq (z:=none) dD)⟩
 have:=hXS R.length (Nat.le_refl _) i hi
 rwa [List.take_length] at this
theorem aTe {nb:Nat} {cl:List Bool} {s:SS} {d:DV} {o:OutF} (h:Gt nb ⟨[(0,d)],[],s.bl,s.fl⟩ (λ_:Unit=>⟨[(0,o.d)]++[],[],o.bl,o.fl⟩) λ_=>True) (hcl:ClB cl o.bl):aVp cl nb s d o:=λρ0 w0 ρ w v hD hF hv=>by
 obtain⟨_,ρ',_,hD'⟩:=h ρ0 w0 ρ (λ_=>v) w ⟨hD,⟨λt d' ht=>by
  simp only[cT] at ht
  cases hb:Nat.beq 0 t with
  |true=>(rw[hb] at ht;injection ht with ht;subst ht;exact hv)
  |false=>(rw[hb] at ht;cases ht),λt g d' ht=>(by cases ht)⟩,hF⟩
 exact⟨ρ',hD'.m,hD'.f.sl 0 _ rfl,hcl,hD'.l⟩
theorem bFv {l:List CV} {k0:Nat} {c0 c1:CV} (hk:l[k0]? =some c0) (h:LeC c0 c1):∀(k:Nat) (c c':CV),l[k]? =some c->(l.set k0 c1)[k]? =some c'->LeC c c':=λk c c' h1 h2=>by
 by_cases e:k=k0
 ·subst e
  rw[hk] at h1;injection h1 with h1
  rw[List.getElem?_set_self (bK hk)] at h2;injection h2 with h2
  subst h1 h2;exact h
 rw[List.getElem?_set_ne (Ne.symm e),h1] at h2
 injection h2 with h2
 subst h2;exact .refl _
theorem aTf {T es:Nat} {A A':Nat->Option Nat} {k k':Nat->Nat} {G G':Nat->List CV} {r:List Fam} (hA:A 0=A' 0) (hk:k 0=k' 0) (hG:G 0=G' 0) (hes:0<es:=by decide):Fsub (⟨T,es,1,A,k,G⟩::r) [⟨T,es,1,A',k',G'⟩]:=by
 refine⟨λf' F' h=>?_,λ_ f f' F F' j j' b h1 h2 hj hj' _ _=>?_⟩
 ·match f',h with
  |0,h=>
   injection h with h
   subst h
   refine⟨hes,λj' hj'=> .inr ⟨0,_,0,rfl,Nat.lt_succ_self 0,?_⟩⟩
   obtain rfl:j'=0:=by replace hj':j'<1:=hj';omega
   exact⟨hA,hk,hG,rfl,rfl⟩
  |f'+1,h=>cases h
 match f,f',h1,h2 with
 |0,0,h1,h2=>
  injection h1 with h1;injection h2 with h2
  subst h1 h2
  replace hj:j<1:=hj
  replace hj':j'<1:=hj'
  exact⟨rfl,by omega⟩
 |f+1,_,h1,_=>cases h1
 |0,f'+1,_,h2=>cases h2
def bQp (M:Nat->List En) (n F:Nat):Option ((Nat->Sl EntM)×LuM×(Nat->Nat)×(Nat->Nat)×(Nat->List En)×(Nat->List En))->OutF
 |none=>⟨.t [.c (.v (.pointer none)),.c (iC 6)],[],[],Ker M n⟩
 |some (c,f,rw,cl,Lw,Up)=>⟨.t [.c (.p 0 0),.c (iC 0)],ivB none n ⟨c,f,none,0,[]⟩,ivF ⟨c,f,none,0,[]⟩,LuG f M n rw cl Lw Up F∧∀j,j<n->Ek (c j).l (trM M n j)⟩
abbrev aTg:FuncId:=7
theorem bMo:Ent Tryz.prog aTg:=Ent.of func7 rfl kR
theorem bMp:Tryz.prog.funcs[aTg]? =some Tryz.f7:=func7
theorem aTh (m:MatM) {M:Nat->List En} {n B:Nat} (h:Mx m M n) (hb:rbM M n B) (h1:1<=B) (hB:bd B n<=17179869184) (hn:n<=12):CtrF Tryz.prog aTg ivL [.a m.C] [] [] (bQp M n (bd B n)):=by
 have hBB:B<=17179869184:=Nat.le_trans (aCe (Nat.zero_le n)) hB
 refine eD gT bMo bMp rfl rfl rfl bL (λi T es l hi=>by cases hi) (aA gT mxd ⟨[],aSq m h hb h1 hB hn,rfl,rfl,rfl,λg hg=>?_⟩)
 match g,hg with
 |none,hg=>exact⟨λ_=>aA gT mxd ⟨none,hg,dG ⟨rfl,rfl⟩ trivial trivial bL scB.nil rfl (λi T es l hi=>by cases hi)⟩,λhh=>absurd (show((6:Int))≠0 by decide) hh⟩
 |some (f,rw,cl,Lw,Up),⟨⟨q1,q2,q3,q4⟩,q5,q6,q7⟩=>
  refine⟨λhh=>absurd rfl hh,λ_=>aA gT mxd ⟨[],bJr m h hb hBB oM,rfl,rfl,rfl,λc hc=>⟨some (c,f,rw,cl,Lw,Up),⟨⟨q1,q2,q3,q4,q5,q6,q7⟩,hc⟩,aTe ?_ (iD (z:=none) (r:=[]))⟩⟩⟩
  show Gt _ _ _ _
  refine aOg tGt 91 5 1 bL ?_
  refine eZ tGt 4 ((.s 2 n::(f.C++[CV.v (.slice none 0 0)])).set 9 (.h none 0 0)) rfl rfl (bFv (l:=.s 2 n::(f.C++[CV.v (.slice none 0 0)])) (k0:=9) rfl .nilh) ?_
  refine aBt tGt 0 4 rfl rfl bL bL rfl ⟨_,aEr λ_ _=>rfl,bL,?_⟩
  refine aBt tGt 1 2 rfl rfl bL bL rfl ⟨_,aEr λ_ _=>rfl,bL,?_⟩
  refine Tgt.fsub tGt (fl':=ivF ⟨c,f,none,0,[]⟩) (aTf rfl rfl rfl) ?_
  exact bA (M:=λ_=>true) (base:=[]) (chg:=λ_:Unit=>[(0,.t [.c (.p 0 0),.c (iC 0)])]) (bls:=λ_=>ivB none n ⟨c,f,none,0,[]⟩) (fls:=λ_=>ivF ⟨c,f,none,0,[]⟩) (λt d ht=>by cases ht) () trivial rfl ⟨rfl,rfl⟩ ⟨rfl,trivial⟩ ⟨rfl,rfl⟩ bL (jS (z:=none) (r:=[]) bL scB.nil) rfl
def oMx:Ord:=.joinX [] [2004,2005,2006,7] (.alt 2000 (.alt 2002 (.alt 1 (.alt 3 (.alt 2008 (.alt 9 (trS [2010,2011,2012,13,1014,2015]) (.alt 13 (trS [9,2010,2011,2012,1014,2015]) .nil)) .nil) (.alt 13 (trS [3,2008,9,2010,2011,2012,1014,2015]) .nil)) (.alt 13 (trS [1,3,2008,9,2010,2011,2012,1014,2015]) .nil)) .nil) .nil)
abbrev aTi:FuncId:=10
theorem bMq:Ent Tryz.prog aTi:=Ent.of func10 rfl kR
theorem bMr:Tryz.prog.funcs[aTi]? =some Tryz.f10:=func10
theorem aTj (A:Option Addr) (k:Nat) (v:IvM) {M:Nat->List En} {n B:Nat} (h:∀j,j<n->Ek (v.c j).l (M j)) (ho:∀j,j<n->VOk (M j) (n:Nat)) (hb:rbM M n B) (hB:B<=17179869184) (hn:n<=4096):CtrF Tryz.prog aTi ivL [.c (.p 0 0)] (ivB (some (A,k)) n v) (ivF v) (λg:MatM=>⟨.a g.C,ivB (some (A,k)) n v,ivF v,Mx g (trM M n) n⟩):=by
 have hM:Mx ⟨n,n,⟨A,k,eT v.c n⟩⟩ M n:=⟨rfl,rfl,iH,λj hj=>by
  show Ek ((eT v.c n).getD j cD).l _
  rw[lE hj];exact h j hj,λj hj=>⟨ho j hj,fS (ho j hj)⟩⟩
 refine eD gT bMq bMr rfl rfl rfl bL (iD (r:=[])) (aA gT mxd ?_)
 refine⟨oMx,by kernel_rfl,MatM,λg=>⟨[(3,.c (.p 3 0)),(2,.c (.p 2 0))]++[],[],ivB (some (A,k)) n v++[(24,0,[iC 0,iC 0,.v (.slice none 0 0)]),(24,0,g.C)],ivF v⟩,λg=>Mx g (trM M n) n,⟨⟨[0,1,1000],kG (some (A,k)) n v,rfl,rfl,rfl,λ_ _=>⟨rfl,⟨⟨[0,1,1000],kG (some (A,k)) n v,rfl,rfl,rfl,λ_ _=>⟨rfl,⟨⟨[],aHq ⟨n,n,⟨A,k,eT v.c n⟩⟩ hM hb hB hn,rfl,rfl,rfl,λg hg=>⟨rfl,⟨rfl,?_⟩⟩⟩,⟨rfl,⟨[],aHq ⟨n,n,⟨A,k,eT v.c n⟩⟩ hM hb hB hn,rfl,rfl,rfl,λg hg=>⟨rfl,?_⟩⟩⟩⟩⟩⟩,⟨rfl,⟨[0,1,1000],kG (some (A,k)) n v,rfl,rfl,rfl,λ_ _=>⟨rfl,⟨[],aHq ⟨n,n,⟨A,k,eT v.c n⟩⟩ hM hb hB hn,rfl,rfl,rfl,λg hg=>⟨rfl,?_⟩⟩⟩⟩⟩⟩⟩⟩,⟨rfl,⟨[0,1,1000],kG (some (A,k)) n v,rfl,rfl,rfl,λ_ _=>⟨rfl,⟨[0,1,1000],kG (some (A,k)) n v,rfl,rfl,rfl,λ_ _=>⟨rfl,⟨[],aHq ⟨n,n,⟨A,k,eT v.c n⟩⟩ hM hb hB hn,rfl,rfl,rfl,λg hg=>⟨rfl,?_⟩⟩⟩⟩⟩⟩⟩⟩,λg hg=>?_⟩
 all_goals first|(refine aA gT mxd ?_;skip)|skip
 all_goals first|(exact⟨g,hg,dG rfl ⟨rfl,rfl⟩ ⟨rfl,trivial⟩ bL (jS (r:=[]) bL scB.nil) rfl (iD (r:=[]))⟩)|skip
 all_goals (rename_i g hg;exact bA (M:=λ_=>true) (base:=[]) (chg:=λ_:MatM=>[(3,.c (.p 3 0)),(2,.c (.p 2 0))]) (bls:=λg=>ivB (some (A,k)) n v++[(24,0,[iC 0,iC 0,.v (.slice none 0 0)]),(24,0,g.C)]) (fls:=λ_=>ivF v) (λt d ht=>by cases ht) g hg rfl ⟨rfl,rfl,rfl,rfl⟩ ⟨rfl,trivial⟩ ⟨rfl,rfl⟩ bL (jS bL (scB.cons rfl (scB.cons rfl scB.nil))) rfl)
def SolA (a:Nat->Nat->Rat) (n:Nat) (b xv:Nat->Rat):Prop:=∀x:Nat->Rat,(∀k,k<n->dI (λj=>a k j*x j) n=b k)↔∀c,c<n->x c=xv c
abbrev enM (M:Nat->List En):Nat->Nat->Rat:=λr j=>Vm.get (M r) (j:Nat)
theorem Sol.a {M:Nat->List En} {n:Nat} {b xv:Nat->Rat} (h:Sol M n b xv):SolA (enM M) n b xv:=h
theorem SolA.congr {a a':Nat->Nat->Rat} {n:Nat} {b b' xv xv':Nat->Rat} (h:SolA a n b xv) (ha:∀r j,r<n->j<n->a' r j=a r j) (hb:∀r,r<n->b' r=b r) (hx:∀c,c<n->xv' c=xv c):SolA a' n b' xv':=λx=>by
 have e1:(∀k,k<n->dI (λj=>a' k j*x j) n=b' k)↔∀k,k<n->dI (λj=>a k j*x j) n=b k:=by
  constructor<;>intro hh k hk
  ·rw[<-hb k hk,<-hh k hk];exact cR λj hj=>by rw[ha k j hk hj]
  rw[hb k hk,<-hh k hk];exact cR λj hj=>by rw[ha k j hk hj]
 rw[e1,h x]
 constructor<;>intro hh c hc
 ·rw[hx c hc];exact hh c hc
 rw[<-hx c hc];exact hh c hc
theorem SolA.eq {a:Nat->Nat->Rat} {n:Nat} {b xv:Nat->Rat} (h:SolA a n b xv):∀k,k<n->dI (λj=>a k j*xv j) n=b k:=(h xv).2 λ_ _=>rfl
theorem SolA.rep {a a':Nat->Nat->Rat} {n k:Nat} {b z w v:Nat->Rat} {s:StpR} (h:SolA a n b z) (hk:k<n) (hw:∀r,r<n->dI (λj=>a r j*w j) n=v r) (hwk:w k≠0) (ha:∀r j,r<n->j<n->a' r j=if j=k then v r else a r j) (sk:s.k=k) (sp:s.p=w k) (so:∀i,i<n->i≠k->Vm.get s.o (i:Nat)=w i):SolA a' n b (s.ap z):=λx=>by
 obtain⟨y,hy⟩:∃y:Nat->Rat,y=λi=>(if i=k then 0 else x i)+x k*w i:=⟨_,rfl⟩
 have e1:∀r,r<n->dI (λj=>a' r j*x j) n=dI (λj=>a r j*y j) n:=λr hr=>by
  have h1:dI (λj=>a r j*y j) n=dI (λj=>a r j*(if j=k then 0 else x j)) n+x k*v r:=by
   rw[<-hw r hr,<-hJ]
   exact cR λj _=>by rw[hy];grind
  have h2:dI (λj=>a' r j*x j) n=dI (λj=>a r j*(if j=k then 0 else x j)+1*(if j=k then x k*v r else 0)) n:=cR λj hj=>by
   rw[ha r j hr hj]
   by_cases e:j=k
   ·subst e;rw[if_pos rfl,if_pos rfl,if_pos rfl];grind
   rw[if_neg e,if_neg e,if_neg e];grind
  rw[h1,h2,hJ,qW (m:=k) hk λj hj=>if_neg hj,if_pos rfl,Rat.one_mul]
 have e2:(∀r,r<n->dI (λj=>a' r j*x j) n=b r)↔∀c,c<n->y c=z c:=by
  rw[<-h y]
  exact⟨λhh r hr=>by rw[<-e1 r hr];exact hh r hr,λhh r hr=>by rw[e1 r hr];exact hh r hr⟩
 rw[e2]
 have h9:=Rat.mul_inv_cancel _ hwk
 have yk:y k=x k*w k:=by rw[hy];show(if k=k then 0 else x k)+x k*w k=_;rw[if_pos rfl,Rat.zero_add]
 have yi:∀i,i≠k->y i=x i+x k*w i:=λi hi=>by rw[hy];show(if i=k then 0 else x i)+x k*w i=_;rw[if_neg hi]
 have ak:s.ap z k=z k/w k:=by unfold StpR.ap;rw[sk,sp,if_pos rfl]
 have ai:∀i,i<n->i≠k->s.ap z i=z i-w i*(z k/w k):=λi hi hn=>by unfold StpR.ap;rw[sk,sp,if_neg hn,so i hi hn]
 constructor
 ·intro hh
  have xk:x k=z k/w k:=by
   have:=hh k hk
   rw[yk] at this
   rw[<-this,Rat.div_def,Rat.mul_assoc,h9,Rat.mul_one]
  intro c hc
  by_cases e:c=k
  ·rw[e,ak];exact xk
  rw[ai c hc e,<-xk,<-hh c hc,yi c e];grind
 intro hh c hc
 have xk:=hh k hk
 rw[ak] at xk
 by_cases e:c=k
 ·rw[e,yk,xk,Rat.div_def,Rat.mul_assoc,Rat.inv_mul_cancel _ hwk,Rat.mul_one]
 rw[yi c e,hh c hc,ai c hc e,xk];grind
def skp (p r:Nat):Nat:=if r<p then r else r+1
theorem nR {p r n:Nat} (h:r<n):skp p r<n+1:=by unfold skp;split<;>omega
theorem aTk (p r:Nat):skp p r≠p:=by unfold skp;split<;>omega
theorem aTl {p c n:Nat} (h:c<n+1) (hp:p<n+1) (hc:c≠p):∃i,i<n∧skp p i=c:=by
 by_cases e:c<p
 ·exact⟨c,by omega,if_pos e⟩
 refine⟨c-1,by omega,?_⟩
 unfold skp
 rw[if_neg oM];omega
theorem qY {f:Nat->Rat} {p:Nat}:∀{n:Nat},p<n+1->dI f (n+1)=f p+dI (λi=>f (skp p i)) n
 |0,h=>by
  obtain rfl:p=0:=by omega
  show(0:Rat)+f 0=f 0+0;grind
 |n+1,h=>by
  show dI f (n+1)+f (n+1)=f p+(dI (λi=>f (skp p i)) n+f (skp p n))
  by_cases e:p=n+1
  ·subst e
   have h1:∀m,m<=n+1->dI (λi=>f (skp (n+1) i)) m=dI f m:=λm hm=>cR λj hj=>by unfold skp;rw[if_pos oM]
   have h2:skp (n+1) n=n:=by unfold skp;rw[if_pos oM]
   rw[h2,h1 n oM]
   show dI f n+f n+f (n+1)=_
   grind
  have h2:skp p n=n+1:=by unfold skp;rw[if_neg oM]
  rw[h2,qY (f:=f) (p:=p) (n:=n) oM]
  grind
theorem aCi (s:Nat):∀n,bd (4*s+1) n=bd s (n+1)
 |0=>rfl
 |n+1=>by show 4*bd (4*s+1) n+1=4*bd s (n+1)+1;rw[aCi s n]
theorem aXv {a b:Rat} {B B':Nat} (ha:rb a B) (hb:rb b B') (hB:1<=B):rb (a/b) (B+B'):=by
 have h1:=lN (a:=a.num*(b.den:Int)) (b:=(a.den:Int)*b.num)
 have h2:=lO (a:=a.num*(b.den:Int)) (b:=(a.den:Int)*b.num)
 rw[aKv] at h1 h2
 have p1:=nT a.num.natAbs (b.den:Int).natAbs
 have p2:=nT (a.den:Int).natAbs b.num.natAbs
 rw[<-Int.natAbs_mul] at p1 p2
 simp only[Int.natAbs_natCast] at p1 p2
 simp only[cJ] at h1 h2
 obtain⟨a1,a2⟩:=ha
 obtain⟨b1,b2⟩:=hb
 exact⟨by omega,by omega⟩
theorem SolA.size:∀{n s:Nat} {a:Nat->Nat->Rat} {b xv:Nat->Rat},1<=s->(∀r j,r<n->j<n->rb (a r j) s)->(∀r,r<n->rb (b r) s)->SolA a n b xv->∀i,i<n->rb (xv i) (2*bd s n)
 |0,s,a,b,xv,_,_,_,_,i,hi=>absurd hi (Nat.not_lt_zero _)
 |1,s,a,b,xv,h1,ha,hb,h,i,hi=>by
  obtain rfl:i=0:=by omega
  have he:=h.eq 0 oM
  have he':a 0 0*xv 0=b 0:=by rw[<-he];show _=(0:Rat)+_;grind
  have hne:a 0 0≠0:=λh0=>by
   have h2:=(h λc=>xv c+1).1 λk hk=>by
    obtain rfl:k=0:=by omega
    rw[<-he]
    show(0:Rat)+a 0 0*(xv 0+1)=(0:Rat)+a 0 0*xv 0
    rw[h0];grind
   have:=h2 0 oM
   have h3:(1:Rat)=0:=by grind
   exact absurd h3 dC
  have hx:xv 0=b 0/a 0 0:=by
   rw[<-he',Rat.div_def,Rat.mul_comm (a 0 0),Rat.mul_assoc,Rat.mul_inv_cancel _ hne,Rat.mul_one]
  rw[hx]
  exact(aXv (hb 0 oM) (ha 0 0 oM oM) h1).le (by show s+s<=2*(4*s+1);omega)
 |n+2,s,a,b,xv,h1,ha,hb,h,i,hi=>by
  obtain⟨j,hj,hji⟩:∃j,j<n+2∧j≠i:=by
   by_cases e:i=0
   ·exact⟨1,by omega,by omega⟩
   exact⟨0,by omega,by omega⟩
  obtain⟨p,hp,hpj⟩:∃p,p<n+2∧a p j≠0:=Classical.byContradiction λhn=>by
   have h0:∀p,p<n+2->a p j=0:=λp hp=>Classical.byContradiction λh2=>hn ⟨p,hp,h2⟩
   have h2:=(h (upd xv j (xv j+1))).1 λk hk=>by
    rw[<-h.eq k hk]
    refine cR λc hc=>?_
    by_cases e:c=j
    ·subst e;rw[h0 k hk,Rat.zero_mul,Rat.zero_mul]
    rw[aP e]
   have:=h2 j hj
   rw[aT] at this
   have h3:(1:Rat)=0:=by grind
   exact absurd h3 dC
  obtain⟨i',hi',hsi⟩:=aTl hi hj (Ne.symm hji)
  have hs:=SolA.size (n:=n+1) (s:=4*s+1) (a:=λr c=>a p j*a (skp p r) (skp j c)-a (skp p r) j*a p (skp j c)) (b:=λr=>a p j*b (skp p r)-a (skp p r) j*b p) (xv:=λc=>xv (skp j c)) oM (λr c hr hc=>?_) (λr hr=>?_) (λx=>?_) i' hi'
  ·rw[aCi,hsi] at hs
   exact hs
  ·have m1:=gH (ha p j hp hj) (ha _ _ (nR (p:=p) hr) (nR (p:=j) hc))
   have m2:=gH (ha _ j (nR (p:=p) hr) hj) (ha p _ hp (nR (p:=j) hc))
   exact(tK m1 m2).le oM
  ·have m1:=gH (ha p j hp hj) (hb _ (nR (p:=p) hr))
   have m2:=gH (ha _ j (nR (p:=p) hr) hj) (hb p hp)
   exact(tK m1 m2).le oM
  have red:∀(y:Nat->Rat) (r:Nat),dI (λc=>(a p j*a (skp p r) (skp j c)-a (skp p r) j*a p (skp j c))*y (skp j c)) (n+1)=a p j*dI (λc=>a (skp p r) c*y c) (n+2)-a (skp p r) j*dI (λc=>a p c*y c) (n+2):=λy r=>by
   rw[qY (p:=j) hj,qY (f:=λc=>a p c*y c) (p:=j) hj]
   have e1:dI (λc=>(a p j*a (skp p r) (skp j c)-a (skp p r) j*a p (skp j c))*y (skp j c)) (n+1)=dI (λc=>a p j*(a (skp p r) (skp j c)*y (skp j c))+(-a (skp p r) j)*(a p (skp j c)*y (skp j c))) (n+1):=cR λc _=>by grind
   have e2:∀(f:Nat->Rat) (q:Rat) (m:Nat),dI (λc=>q*f c) m=q*dI f m:=λf q m=>by
    have:=hJ (f:=λ_=>(0:Rat)) (g:=f) (q:=q) (n:=m)
    rw[lJ λ_ _=>rfl,Rat.zero_add] at this
    rw[<-this]
    exact cR λc _=>by grind
   rw[e1,hJ,e2]
   grind
  constructor
  ·intro hx c hc
   obtain⟨y,hy⟩:∃y:Nat->Rat,(∀c,c<n+1->y (skp j c)=x c)∧dI (λc=>a p c*y c) (n+2)=b p:=by
    obtain⟨un,hun⟩:∃un:Nat->Nat,∀c,un (skp j c)=c:=⟨λc=>if c<j then c else c-1,λc=>by
     show(if skp j c<j then skp j c else skp j c-1)=c
     by_cases e:c<j
     ·have:skp j c=c:=if_pos e
      rw[this,if_pos e]
     have:skp j c=c+1:=if_neg e
     rw[this,if_neg oM];rfl⟩
    refine⟨upd (λc=>x (un c)) j ((b p-dI (λc=>a p (skp j c)*x c) (n+1))/a p j),λc _=>by rw[aP (aTk j c),hun],?_⟩
    rw[qY (p:=j) hj,aT]
    have e1:dI (λc=>a p (skp j c)*upd (λc=>x (un c)) j ((b p-dI (λc=>a p (skp j c)*x c) (n+1))/a p j) (skp j c)) (n+1)=dI (λc=>a p (skp j c)*x c) (n+1):=cR λc _=>by rw[aP (aTk j c),hun]
    rw[e1]
    have h9:=Rat.mul_inv_cancel _ hpj
    generalize a p j=q at h9
    rw[Rat.div_def]
    have:q*((b p-dI (λc=>a p (skp j c)*x c) (n+1))*q⁻¹)=(b p-dI (λc=>a p (skp j c)*x c) (n+1))*(q*q⁻¹):=by grind
    rw[this,h9];grind
   obtain⟨y1,y2⟩:=hy
   have hyx:=(h y).1 λk hk=>by
    by_cases e:k=p
    ·rw[e];exact y2
    obtain⟨r,hr,rfl⟩:=aTl hk hp e
    have h3:=hx r hr
    rw[cR λc hc=>by rw[<-y1 c hc]] at h3
    rw[red y r,y2] at h3
    have h4:a p j*(dI (λc=>a (skp p r) c*y c) (n+2)-b (skp p r))=0:=by grind
    rcases Rat.mul_eq_zero.1 h4 with h5|h5
    ·exact absurd h5 hpj
    grind
   rw[<-y1 c hc]
   exact hyx _ (nR hc)
  intro hx r hr
  rw[cR λc hc=>by rw[hx c hc],red xv r,h.eq _ (nR hr),h.eq p hp]
abbrev sB (B n:Nat):Nat:=2*bd B n
structure IvT (n:Nat) (f:LuM) (L:List StpM) (a:Nat->Nat->Rat) (F B:Nat) (M:Nat->List En) (rw cl:Nat->Nat) (Lw Up:Nat->List En) (R:List StpR) (am:Nat->Nat->Nat->Rat):Prop where
 g:LuG f M n rw cl Lw Up F
 ln:L.length=R.length
 st:∀j,j<R.length->StpOk (L.getD j default) (R.getD j default) n (sB B n)
 a0:am 0=enM M
 ae:am R.length=a
 sm:∀j,j<=R.length->∀r c,r<n->c<n->rb (am j r c) B
 nx:∀j,j<R.length->∀b z,SolA (am j) n b z->SolA (am (j+1)) n b ((R.getD j default).ap z)
def IvOk (n:Nat) (f:LuM) (L:List StpM) (a:Nat->Nat->Rat) (F B:Nat):Prop:=∃M rw cl Lw Up R am,IvT n f L a F B M rw cl Lw Up R am
theorem IvT.sol {n:Nat} {f:LuM} {L:List StpM} {a:Nat->Nat->Rat} {F B:Nat} {M:Nat->List En} {rw cl:Nat->Nat} {Lw Up:Nat->List En} {R:List StpR} {am:Nat->Nat->Nat->Rat} (h:IvT n f L a F B M rw cl Lw Up R am) {b z:Nat->Rat} (hz:Sol M n b z):∀j,j<=R.length->SolA (am j) n b (rT (R.take j) z)
 |0,_=>by rw[h.a0];exact hz
 |j+1,hj=>by rw[rW oM];exact h.nx j oM b _ (h.sol hz j oM)
structure IvB (n F B:Nat):Prop where
 hn:n<=4096
 h1:1<=F
 hF:F<=17179869184
 b1:1<=B
 hB:yb (zb B F n) F n<=17179869184
 hS:sB B n+sB B n<=17179869184
theorem IvB.bs {n F B:Nat} (h:IvB n F B):B<=sB B n:=by
 have:B<=bd B n:=aCe (Nat.zero_le n)
 show B<=2*bd B n
 omega
theorem IvB.sB1 {n F B:Nat} (h:IvB n F B):1<=sB B n:=Nat.le_trans h.b1 h.bs
theorem zY (v:IvM) (b:Sl RatM) {n F B:Nat} {a:Nat->Nat->Rat} {bv:Nat->Rat} (h:IvOk n v.f v.L a F B) (hi:IvB n F B) (hb:b.l.length=n) (hbv:∀k,k<n->Cr (b.l.getD k default) (bv k)∧rb (bv k) B) (hLn:v.L.length<=4096):
 CtrF Tryz.prog tV aXs [.c (.p 0 0),.c (cN b)] (ivB none n v) (ivF v) (λg:(Nat->RatM)×(Nat->Rat)=>⟨.t [.c (.s 2 n),.c (iC 0)],ivB none n v++[(51,3,rtC n g.1)],ivF v,SolA a n bv g.2∧∀i,i<n->Cr (g.1 i) (g.2 i)∧rb (g.2 i) (sB B n)⟩):=by
 obtain⟨M,rw,cl,Lw,Up,R,am,hT⟩:=h
 refine(aTd v b hT.g hi.h1 hi.hn hb hbv hi.b1 hi.hF hi.hB hT.ln hLn hT.st hi.sB1 hi.hS λx hx j hj i hin=>(hT.sol hx j hj).size hi.b1 (hT.sm j hj) (λr hr=>(hbv r hr).2) i hin).re λ⟨Z,z⟩ ⟨h1,h2⟩=>⟨(Z,rT R z),⟨?_,h2⟩,rfl,rfl,rfl⟩
 have:=hT.sol h1 R.length (Nat.le_refl _)
 rwa [List.take_length,hT.ae] at this
theorem IvOk.new {n F B:Nat} {f:LuM} {M:Nat->List En} {rw cl:Nat->Nat} {Lw Up:Nat->List En} (h:LuG f M n rw cl Lw Up F) (hM:rbM M n B) (ho:∀r,r<n->Asc (M r)) (h1:1<=B):IvOk n f [] (enM M) F B:=
 ⟨M,rw,cl,Lw,Up,[],λ_=>enM M,h,rfl,λj hj=>absurd hj (Nat.not_lt_zero _),rfl,rfl,λj _ r c hr _=>fY (ho r hr) (hM r hr) h1,λj hj=>absurd hj (Nat.not_lt_zero _)⟩
theorem IvOk.snoc {n F B k:Nat} {f:LuM} {L:List StpM} {a a':Nat->Nat->Rat} {w v:Nat->Rat} {S:StpM} {s:StpR} (h:IvOk n f L a F B) (hs:StpOk S s n (sB B n)) (hk:k<n) (hw:SolA a n v w) (hwk:w k≠0) (ha:∀r j,r<n->j<n->a' r j=if j=k then v r else a r j) (sk:s.k=k) (sp:s.p=w k) (so:∀i,i<n->i≠k->Vm.get s.o (i:Nat)=w i) (hv:∀r,r<n->rb (v r) B):IvOk n f (L++[S]) a' F B:=by
 obtain⟨M,rw,cl,Lw,Up,R,am,hT⟩:=h
 have hl:=hT.ln
 have gl:∀{α:Type} [Inhabited α] (l:List α) (x:α) (j:Nat),j<l.length->(l++[x]).getD j default=l.getD j default:=λl x j hj=>by rw[List.getD_eq_getElem?_getD,List.getElem?_append_left hj,List.getD_eq_getElem?_getD]
 have ge:∀{α:Type} [Inhabited α] (l:List α) (x:α),(l++[x]).getD l.length default=x:=λl x=>by rw[List.getD_eq_getElem?_getD,List.getElem?_append_right (Nat.le_refl _),Nat.sub_self];rfl
 refine⟨M,rw,cl,Lw,Up,R++[s],upd am (R.length+1) a',hT.g,by simp[hl],λj hj=>?_,by rw[aP oM];exact hT.a0,by rw[List.length_append];exact aT,λj hj r c hr hc=>?_,λj hj b z hz=>?_⟩
 ·simp at hj
  by_cases e:j=R.length
  ·subst e;rw[ge R s,<-hl,ge L S];exact hs
  rw[gl R s j oM,gl L S j oM];exact hT.st j oM
 ·simp at hj
  by_cases e:j=R.length+1
  ·subst e
   rw[aT,ha r c hr hc]
   split
   ·exact hv r hr
   rw[<-hT.ae];exact hT.sm _ (Nat.le_refl _) r c hr hc
  rw[aP e];exact hT.sm j oM r c hr hc
 simp at hj
 by_cases e:j=R.length
 ·subst e
  rw[aT,ge R s]
  rw[aP oM,hT.ae] at hz
  exact hz.rep hk hw.eq hwk ha sk sp so
 rw[aP oM,gl R s j oM]
 rw[aP oM] at hz
 exact hT.nx j oM b z hz
def oth (fs:List En) (k t:Nat):List En:=(fs.take t).filter λe=>!decide (e.1=(k:Nat))
theorem aCj {fs:List En} {k t:Nat} (h:t<fs.length):oth fs k (t+1)=if (fs.getD t default).1=(k:Nat) then oth fs k t else oth fs k t++[fs.getD t default]:=by
 unfold oth
 rw[rQ h,List.filter_append]
 by_cases e:(fs.getD t default).1=(k:Nat)
 ·rw[if_pos e,List.filter_cons_of_neg (by rw[decide_eq_true e];decide),List.filter_nil,List.append_nil]
 rw[if_neg e,List.filter_cons_of_pos (by rw[decide_eq_false e];decide),List.filter_nil]
theorem zZ {fs:List En} {k:Nat} {t:Nat}:∀e∈oth fs k t,e∈fs∧e.1≠(k:Nat):=λe he=>by
 obtain⟨h1,h2⟩:=List.mem_filter.1 he
 exact⟨List.mem_of_mem_take h1,by simpa using h2⟩
theorem aXw {fs:List En} {k t:Nat}:(oth fs k t).length<=t:=Nat.le_trans (List.length_filter_le _ _) (List.length_take_le _ _)
theorem bFw {fs:List En} {k n:Nat} (h:VOk fs (n:Nat)):VOk (oth fs k fs.length) (n:Nat):=⟨by
 unfold oth;rw[List.take_length];exact h.1.sublist List.filter_sublist,λe he=>h.2 e (zZ e he).1⟩
theorem aXx {fs:List En} {k:Nat} {i:Int} (hi:i≠(k:Nat)):Vm.get (oth fs k fs.length) i=Vm.get fs i:=by
 unfold oth
 rw[List.take_length]
 induction fs with
 |nil=>rfl
 |cons e fs ih=>
  by_cases h:e.1=(k:Nat)
  ·rw[List.filter_cons_of_neg (by simp[h]),ih,gE,if_neg (by rw[h];exact Ne.symm hi),Rat.zero_add]
  rw[List.filter_cons_of_pos (by simp[h]),gE,gE,ih]
def jV (a:Nat->Nat->Rat) (k:Nat) (es:List En):Nat->Nat->Rat:=λr j=>if j=k then Vm.get es (r:Nat) else a r j
structure RepG where
 w:Nat->Rat
 o:Option (Sl EntM×StpM×Option Nat×Nat)
def bQq (n:Nat) (v:IvM) (k:Nat) (es:List En) (a:Nat->Nat->Rat) (F B:Nat) (g:RepG):OutF:=match g.o with
 |none=>⟨.c (iC 6),ivB none n v,ivF v,SolA a n (λr=>Vm.get es (r:Nat)) g.w∧g.w k=0⟩
 |some (y,S,A,kk)=>⟨.c (iC 0),ivB none n ⟨upd v.c k y,v.f,A,kk,v.L++[S]⟩,ivF ⟨upd v.c k y,v.f,A,kk,v.L++[S]⟩,(SolA a n (λr=>Vm.get es (r:Nat)) g.w∧g.w k≠0)∧Ek y.l es∧IvOk n v.f (v.L++[S]) (jV a k es) F B⟩
theorem bMs (A:Option Addr) (c n:Nat) (Z:Nat->RatM) {qs:List Rat} {B:Nat} (h:Rl (eA Z n) qs) (hb:rbL qs B) (hB:B<=17179869184) (hn:qs.length<=4096):Ctr Tryz.prog aQe [] [.c (.r A n c 3 λj=>((eA Z n).getD j default).C)] [] (λg:Sl EntM=>⟨.c (aO g),[],Ek g.l (fdF qs qs.length)⟩):=by
 have:=bJk ⟨A,c,eA Z n⟩ h hb hB hn
 have e:cN ⟨A,c,eA Z n⟩= .r A n c 3 λj=>((eA Z n).getD j default).C:=by
  unfold cN Sl.R
  rw[show(eA Z n).length=n by unfold eA;simp]
 rwa [e] at this
theorem aXy {T c:Nat} {A:Option Nat} {G:List EntM}:FrC ⟨T,4,1,λ_=>A,λ_=>c,λ_=>ecs G⟩ (.h A G.length c) (aO ⟨A.map λb=>⟨b,0,none⟩,c,G⟩):=⟨0,G.length,λk=>(G.getD k default).C,bL,rfl,rfl,(dH G).symm,λk hk=>jQ G k hk⟩
abbrev rpB (n:Nat) (v:IvM) (k:Nat) (q:RatM) (G:List EntM):BL:=ivB none n v++[(51,3,[]),(91,0,iC k::(q.C++[.s 4 G.length])),(65,4,ecs G)]
theorem aFr {n:Nat} {v:IvM} {k:Nat} {q:RatM} {G:List EntM}:scB 5 (rpB n v k q G):=jS (z:=none) bL (scB.cons rfl (scB.cons rfl (scB.cons (aZ (dM G)) scB.nil)))
abbrev rpG (k:Nat) (x ys:Sl EntM) (t:Nat):List (Nat×DV):=[(58,.c (iC t)),(57,.c (iC (ys.l.length:Nat))),(56,.c (aO ys)),(0,.c (.p 0 0)),(1,.c (iC k)),(2,.c (aO x)),(12,.c (.p 3 0))]
abbrev aIl:FuncId:=18
theorem bMt:Ent Tryz.prog aIl:=Ent.of func18 rfl kR
theorem bMu:Tryz.prog.funcs[aIl]? =some Tryz.f18:=func18
theorem bFx (v:IvM) (k:Nat) (x:Sl EntM) {es:List En} {n F B:Nat} {a:Nat->Nat->Rat} (h:IvOk n v.f v.L a F B) (hi:IvB n F B) (hk:k<n) (hx:Ek x.l es) (hv:VOk es (n:Nat)) (hb:rbE es B) (hLn:v.L.length<=4000):CtrF Tryz.prog aIl ivL [.c (.p 0 0),.c (iC k),.c (aO x)] (ivB none n v) (ivF v) (bQq n v k es a F B):=by
 have hle:=fS hv
 have hn:=hi.hn
 have hBB:B<=17179869184:=by have:=hi.bs;have:=hi.hS;omega
 have hev:Ev x.l es B:=hx.ev hb
 refine eD gT bMt bMu rfl rfl rfl bL (iD (z:=none) (r:=[])) (aA gT mxd ⟨[0,1,1000],kG none n v,rfl,rfl,rfl,λ_ _=>⟨λhh=>?_,λ_=>aA gT mxd ?_⟩⟩)
 ·replace hh:(k:Int)<0∨(n:Int)<=(k:Nat):=hh
  omega
 refine⟨[],aBw x n hev hBB,rfl,rfl,rfl,λ_ _=>⟨λhh=>absurd hv hh,λ_=>aA gT mxd ?_⟩⟩
 refine⟨[],bJm x n hev hb hi.b1 hBB hv hn oM,rfl,rfl,rfl,λgd hgd=>?_⟩
 replace hgd:Rl gd.l (dnL es n):=hgd
 have hgl:gd.l.length=n:=hgd.ln.trans jG
 refine⟨[0,1,1000],zY v gd (bv:=λr=>Vm.get es (r:Nat)) h hi hgl (λr hr=>⟨?_,fY hv.1 hb hi.b1⟩) oM,rfl,rfl,rfl,λ⟨Z,w⟩ ⟨hS,hZ⟩=>⟨λhh=>absurd rfl hh,λ_=>aA gT mxd ?_⟩⟩
 ·have:=hgd.e r (by rw[jG];exact hr)
  rw[zH hr] at this
  exact this
 replace hS:SolA a n (λr=>Vm.get es (r:Nat)) w:=hS
 replace hZ:∀i,i<n->Cr (Z i) (w i)∧rb (w i) (sB B n):=hZ
 have hsb:=hi.hS
 refine⟨k,⟨rfl,hk,fC hk⟩,_,iA hk,[],iJ (Z k) ((hZ k hk).1.rq ((hZ k hk).2.le oM)),rfl,rfl,rfl,λ_ _=>⟨λh0=>aA gT mxd ⟨⟨w,none⟩,⟨hS,Rat.num_eq_zero.1 (dL.1 h0)⟩,dG rfl ⟨rfl,rfl⟩ ⟨rfl,trivial⟩ bL (jS (z:=none) (r:=[]) bL scB.nil) rfl (iD (z:=none) (r:=[]))⟩,λh0=>aA gT mxd ?_⟩⟩
 have hw0:w k≠0:=λe=>h0 (by rw[e];rfl)
 obtain⟨qs,hqs⟩:∃qs:List Rat,qs=(List.range n).map w:=⟨_,rfl⟩
 have hql:qs.length=n:=by rw[hqs];simp
 have hqa:∀i,i<n->qs.getD i 0=w i:=λi hi=>by rw[hqs];simp[hi]
 have hZa:∀i,i<n->(eA Z n).getD i default=Z i:=λi hi=>by unfold eA;simp[hi]
 have hRl:Rl (eA Z n) qs:=⟨by rw[hql];unfold eA;simp,λi hi=>by rw[hql] at hi;rw[hqa i hi,hZa i hi];exact(hZ i hi).1⟩
 have hqb:rbL qs (sB B n):=λq hq=>by
  rw[hqs] at hq
  obtain⟨i,hi,rfl⟩:=List.mem_map.1 hq
  exact(hZ i (List.mem_range.1 hi)).2
 refine⟨k,⟨rfl,hk,fC hk⟩,_,iA hk,?_⟩
 refine⟨some (λj=>((eA Z n).getD j default).C),⟨⟨bL,bL⟩,show n*3=(rtC n Z).length from (jF (P:=λj=>(Z j).C) (e:=3) λ_ _=>rfl).symm,λj hj=>?_,dD⟩,λA0 c0 _ _=>⟨cm (aE λ_ _=>rfl),[],bMs A0 c0 n Z hRl hqb oM oM,rfl,rfl,rfl,λys hys=>?_⟩⟩
 ·show((eA Z n).getD j default).C=((rtC n Z).drop (j*3)).take 3
  rw[hZa j hj];exact(iA hj).1.symm
 replace hys:Ek ys.l (fdF qs qs.length):=hys
 rw[hql] at hys
 show Sd _ _ _ _ _ _
 refine aYu tSd 3 4 65 4 rfl rfl bL rfl ?_
 obtain⟨fs,hfs⟩:∃fs,fs=fdF qs n:=⟨_,rfl⟩
 rw[<-hfs] at hys
 have hfo:VOk fs (n:Nat):=by rw[hfs];exact(vS n).1
 have hfl:=hys.ln
 have hfn:=fS hfo
 refine bV (λ_=>true) (λg:Nat×List EntM=>rpG k x ys g.1) (λg=>rpB n v k (Z k) g.2) (λ_=>ivF v) (λg=>g.1<=fs.length∧Ek g.2 (oth fs k g.1)) (λg=>fs.length-g.1) λhM=>⟨bA hM (chg:=λg:Nat×List EntM=>rpG k x ys g.1) (bls:=λg=>rpB n v k (Z k) g.2) (fls:=λ_=>ivF v) (0,[]) ⟨Nat.zero_le _,⟨rfl,λj hj=>absurd hj (Nat.not_lt_zero _)⟩⟩ rfl ⟨rfl,rfl,rfl,rfl,rfl⟩ ⟨rfl,trivial⟩ ⟨rfl,rfl,rfl,rfl,rfl,rfl,rfl⟩ bL aFr rfl,λ⟨t,G⟩ ⟨ht,hG⟩=>aA gT mxd ⟨λh3=>aA gT mxd ?_,λh3=>aA gT mxd ?_⟩⟩
 all_goals
  replace ht:t<=fs.length:=ht
  replace hG:Ek G (oth fs k t):=hG
 ·replace h3:(t:Int)<(ys.l.length:Nat):=h3
  have htl:t<fs.length:=by omega
  have er:=hys.e t htl
  have hGl:=hG.ln
  have hol:=aXw (fs:=fs) (k:=k) (t:=t)
  refine⟨t,⟨rfl,show t<ys.l.length by omega⟩,?_⟩
  refine⟨λh4=>aA gT mxd ?_,λh4=>aA gT mxd ?_⟩
  ·replace h4:(ys.l.getD t default).ix≠(k:Nat):=h4
   have hEm:∀c∈(ys.l.getD t default).C,eX 4 c=false:=λc h=>by
    rcases List.mem_cons.1 h with rfl|h
    ·rfl
    exact fO _ c h
   refine⟨⟨rfl,(dH G).symm,?_,?_,λc hc=>(List.mem_append.1 hc).elim (λh=>dN (dM G c h)) λh=>hEm c h⟩,?_⟩
   ·show G.length+1<=maxLen
    simp only[maxLen];omega
   ·show(G.length+1)*64<=_
    omega
   refine⟨cm (aE λ_ _=>rfl),λ_ h=>(by cases h),λc h=>hEm c h,(t+1:Nat),wi,bA hM (chg:=λg:Nat×List EntM=>rpG k x ys g.1) (bls:=λg=>rpB n v k (Z k) g.2) (fls:=λ_=>ivF v) (t+1,G++[ys.l.getD t default]) ⟨⟨htl,?_⟩,show fs.length-(t+1)<fs.length-t by omega⟩ rfl ⟨rfl,rfl,rfl,?_,?_⟩ ⟨rfl,trivial⟩ ⟨rfl,rfl,rfl,rfl,rfl,rfl,rfl⟩ bL aFr rfl⟩
   ·show Ek _ (oth fs k (t+1))
    rw[aCj htl,if_neg (by rw[<-er.1];exact h4)]
    exact aFg hG er.1 er.2
   ·show((91,0,iC k::((Z k).C++[.s 4 (G.length+1)])):TypeId×Nat×List CV)=(91,0,iC k::((Z k).C++[.s 4 (G++[_]).length]))
    rw[List.length_append];rfl
   exact congrArg (λl:List CV=>((65,4,l):TypeId×Nat×List CV)) (iQ G _)
  replace h4:¬((ys.l.getD t default).ix≠(k:Nat)):=h4
  refine⟨(t+1:Nat),wi,bA hM (chg:=λg:Nat×List EntM=>rpG k x ys g.1) (bls:=λg=>rpB n v k (Z k) g.2) (fls:=λ_=>ivF v) (t+1,G) ⟨⟨htl,?_⟩,show fs.length-(t+1)<fs.length-t by omega⟩ rfl ⟨rfl,rfl,rfl,rfl,rfl⟩ ⟨rfl,trivial⟩ ⟨rfl,rfl,rfl,rfl,rfl,rfl,rfl⟩ bL aFr rfl⟩
  show Ek G (oth fs k (t+1))
  rw[aCj htl,if_pos (by rw[<-er.1];exact Classical.not_not.1 h4)];exact hG
 replace h3:¬(t:Int)<(ys.l.length:Nat):=h3
 obtain rfl:t=fs.length:=by omega
 show Sd _ _ _ _ _ _
 refine qJ tSd 4 rfl bL (dM G) bL rfl λA2 c2=>⟨_,sk (aE λ_ _=>rfl),_,rfl,?_⟩
 obtain⟨S,hS2⟩:∃S:StpM,S=⟨k,Z k,⟨A2.map λb=>⟨b,0,none⟩,c2,G⟩⟩:=⟨_,rfl⟩
 refine mL tSd 3 1 (iC k::((Z k).C++[aO ⟨A2.map λb=>⟨b,0,none⟩,c2,G⟩])) rfl rfl rfl rfl (nK (k0:=4) rfl aXy) (aA gT mxd ?_)
 refine⟨.seq ((List.range 9).map λi=>(i,i==8)),by kernel_rfl,[],zD x hev hb hi.b1 hBB hv.1 (λe he=>(hv.2 e he).2.2) oM,rfl,rfl,rfl,λy hy=>⟨k,⟨rfl,hk,cA hk⟩,_,fN (c:=aO y) (Q:=λj=>aO (upd v.c k y j)) hk (λj _=>?_),?_⟩⟩
 ·by_cases e:j=k
  ·subst e;rw[if_pos rfl,aT]
  rw[if_neg e,aP e]
 have hst:∀c∈S.C,cW c=true:=aIg S
 rw[hS2] at hst
 refine⟨.seq ((List.range 11).map λi=>(i,Nat.ble 7 i)),by kernel_rfl,0,0,⟨rfl,Nat.lt_succ_self 0,rfl,rfl,aCg.symm,?_,?_,hst⟩,λA3 c3=>?_⟩
 ·show v.L.length+1<=maxLen
  simp only[maxLen];omega
 ·show(v.L.length+1)*88<=_
  omega
 refine⟨⟨w,some (y,S,A3,c3)⟩,⟨⟨hS,hw0⟩,hy,?_⟩,aTe ?_ iD⟩
 ·refine h.snoc (s:=⟨k,w k,oth fs k fs.length⟩) (v:=λr=>Vm.get es (r:Nat)) ⟨by rw[hS2],hk,by rw[hS2];exact(hZ k hk).1,(hZ k hk).2,hw0,by rw[hS2];exact hG,bFw hfo,λe he=>(zZ e he).2,λe he=>?_⟩ hk hS hw0 (λr j _ _=>rfl) rfl rfl (λi hin hik=>?_) λr hr=>fY hv.1 hb hi.b1
  ·have:=(zZ e he).1
   rw[hfs] at this
   exact nM (λi hin=>by rw[hqa i hin];exact(hZ i hin).2) e this
  show Vm.get (oth fs k fs.length) (i:Nat)=w i
  rw[aXx oM,hfs,qN,if_pos ⟨by omega,by omega⟩,Int.toNat_natCast,hqa i hin]
 show Gt _ _ _ _
 refine Tgt.fsub tGt (fl':=ivF ⟨upd v.c k y,v.f,A3,c3,v.L++[S]⟩) (aTf (aT) (aT) ?_ (Nat.zero_lt_succ 4)) ?_
 ·refine aT.trans ?_
  show wG v.L++_=wG (v.L++[S])
  rw[hS2];exact qR (f:=StpM.C) (d:=default) (L:=v.L) (x:=⟨k,Z k,⟨A2.map λb=>⟨b,0,none⟩,c2,G⟩⟩)
 refine bA (M:=λ_=>true) (base:=[]) (chg:=λ_:Unit=>[(0,.c (iC 0))]) (bls:=λ_=>ivB none n ⟨upd v.c k y,v.f,A3,c3,v.L++[S]⟩) (fls:=λ_=>ivF ⟨upd v.c k y,v.f,A3,c3,v.L++[S]⟩) (λt d ht=>by cases ht) () trivial rfl ⟨?_,rfl⟩ ⟨rfl,trivial⟩ rfl bL (jS (z:=none) (r:=[]) bL scB.nil) rfl
 show((74,0,.s 1 n::(v.f.C++[CV.h A3 (v.L.length+1) c3])):TypeId×Nat×List CV)=(74,0,.s 1 n::(v.f.C++[CV.h A3 (v.L++[S]).length c3]))
 rw[List.length_append];rfl
structure RepOk (n k:Nat) (v:IvM) (es:List En) (a:Nat->Nat->Rat) (F B:Nat) (e:Int) (v':IvM) (w:Nat->Rat):Prop where
 sol:SolA a n (λr=>Vm.get es (r:Nat)) w
 res:(e=6∧v'=v∧w k=0)∨(e=0∧w k≠0∧v'.L.length=v.L.length+1∧(∃y:Sl EntM,v'.c=upd v.c k y∧Ek y.l es)∧IvOk n v'.f v'.L (jV a k es) F B)
theorem aAa (v:IvM) (k:Nat) (x:Sl EntM) {es:List En} {n F B:Nat} {a:Nat->Nat->Rat} (h:IvOk n v.f v.L a F B) (hi:IvB n F B) (hk:k<n) (hx:Ek x.l es) (hv:VOk es (n:Nat)) (hb:rbE es B) (hLn:v.L.length<=4000):CtrF Tryz.prog aIl ivL [.c (.p 0 0),.c (iC k),.c (aO x)] (ivB none n v) (ivF v) (λg:Int×IvM×(Nat->Rat)=>⟨.c (iC g.1),ivB none n g.2.1,ivF g.2.1,RepOk n k v es a F B g.1 g.2.1 g.2.2⟩):=(bFx v k x h hi hk hx hv hb hLn).re λg hg=>by
 obtain⟨w,o⟩:=g
 match o,hg with
 |none,⟨h1,h2⟩=>exact⟨(6,v,w),⟨h1,.inl ⟨rfl,rfl,h2⟩⟩,rfl,rfl,rfl⟩
 |some (y,S,A,kk),⟨⟨h1,h2⟩,h3,h4⟩=>exact⟨(0,⟨upd v.c k y,v.f,A,kk,v.L++[S]⟩,w),⟨h1,.inr ⟨rfl,h2,by simp,⟨y,rfl,h3⟩,h4⟩⟩,rfl,rfl,rfl⟩
def idQ (i:Nat):List Rat:=if i=0 then [1,0] else [0,1]
abbrev idM (i:Nat):List En:=fdF (idQ i) 2
theorem rl2 {p q:RatM} {a b:Rat} (hp:Cr p a) (hq:Cr q b):Rl [p,q] [a,b]:=⟨rfl,λk hk=>by
 match k,hk with
 |0,_=>exact hp
 |1,_=>exact hq⟩
theorem bMv:rb 0 1:=⟨by show len 0<=1;decide,by show len 1<=1;decide⟩
theorem aXz:rb 1 1:=⟨by show len 1<=1;decide,by show len 1<=1;decide⟩
theorem wH {l:List CV} (h:l.all cW=true):∀c∈l,cW c=true:=List.all_eq_true.1 h
theorem aTm {r1 r2:Sl RatM} {A:Option Addr} {c:Nat} (h1:Rl r1.l (idQ 0)) (h2:Rl r2.l (idQ 1)):Rr ⟨A,c,[r1,r2]⟩ idQ 2 2:=⟨rfl,λi hi=>by
 match i,hi with
 |0,_=>exact⟨h1,rfl⟩
 |1,_=>exact⟨h2,rfl⟩⟩
theorem aTn (i:Nat):rbL (idQ i) 1:=λq hq=>by
 unfold idQ at hq
 split at hq
 ·rcases List.mem_cons.1 hq with rfl|hq
  ·exact aXz
  rw[List.mem_singleton.1 hq];exact bMv
 rcases List.mem_cons.1 hq with rfl|hq
 ·exact bMv
 rw[List.mem_singleton.1 hq];exact aXz
abbrev aTo:FuncId:=27
theorem bMw:Ent Tryz.prog aTo:=Ent.of func27 rfl kR
theorem bMx:Tryz.prog.funcs[aTo]? =some Tryz.f27:=func27
theorem bFy:Ctr Tryz.prog aTo [] [] [] (λg:MatM=>⟨.a g.C,[],Mx g idM 2⟩):=by
 refine aX gT bMw bMx rfl rfl rfl bL ClB.nil (Sd.sq (aA gT mxd ?_))
 refine Sd.sq (Sd.rg gT (l:=[_,_,_,_,_,_,_,_,_]) [_,_,_,_,_,_] [_,_,_] rfl rfl ?_)
 refine⟨[],gZ (z:=1) dC,rfl,rfl,rfl,λq1 h1=>⟨[],rM,rfl,rfl,rfl,λq2 h2=>⟨[],rM,rfl,rfl,rfl,λq3 h3=>⟨[],gZ (z:=1) dC,rfl,rfl,rfl,λq4 h4=>?_⟩⟩⟩⟩
 show Sdl _ _ _ _ _ _ _
 refine yP bMg 3 1 (λj=>([q1,q2].getD j default).C) rfl rfl (λj hj=>match j,hj with|0,_=>rfl|1,_=>rfl) rfl bL (wH rfl) bL λA1 c1 _ _=>⟨cm (wH rfl),?_⟩
 refine yP bMg 6 2 (λj=>([q3,q4].getD j default).C) rfl rfl (λj hj=>match j,hj with|0,_=>rfl|1,_=>rfl) rfl bL (wH rfl) bL λA2 c2 _ _=>⟨λ_ h=>(by cases h),?_⟩
 refine Sdl.go (l:=[_,_,_,_,_,_,_,_,_]) gT ?_
 refine⟨some (λj=>[cN (([⟨A1,c1,[q1,q2]⟩,⟨A2,c2,[q3,q4]⟩]:List (Sl RatM)).getD j cD)]),⟨⟨bL,bL⟩,rfl,λj hj=>match j,hj with|0,_=>rfl|1,_=>rfl,wH rfl⟩,λA3 c3 _ _=>⟨λ_ h=>(by cases h),λ_ h=>(by cases h),[],aHv ⟨A3,c3,[⟨A1,c1,[q1,q2]⟩,⟨A2,c2,[q3,q4]⟩]⟩ (aTm (rl2 h1 h2) (rl2 h3 h4)) (λi _=>aTn i) (Nat.le_refl 1) dC dC,rfl,rfl,rfl,λg hg=>aA gT mxd ⟨g,hg,aN rfl rfl trivial⟩⟩⟩
theorem bMy (f:Nat->Rat):dI f 2=f 0+f 1:=by show(0:Rat)+f 0+f 1=_;grind
theorem aAb (r j:Nat) (hj:j<2):Vm.get (idM r) (j:Nat)=(idQ r).getD j 0:=by
 rw[qN,if_pos ⟨by omega,by omega⟩,Int.toNat_natCast]
theorem aIm (r:Nat) (x:Nat->Rat):dI (λj=>enM idM r j*x j) 2=if r=0 then x 0 else x 1:=by
 rw[bMy]
 show Vm.get (idM r) (0:Nat)*x 0+Vm.get (idM r) (1:Nat)*x 1=_
 rw[aAb r 0 dC,aAb r 1 dC]
 unfold idQ
 by_cases e:r=0
 ·rw[if_pos e,if_pos e];show(1:Rat)*_+0*_=_;grind
 rw[if_neg e,if_neg e];show(0:Rat)*_+1*_=_;grind
theorem aYa:¬Ker idM 2:=λ⟨x,⟨i,hi,hx⟩,hk⟩=>hx (by
 have:=hk i hi
 have h2:=aIm i x
 rw[show dI (λj=>enM idM i j*x j) 2=0 from this] at h2
 match i,hi with
 |0,_=>exact h2.symm
 |1,_=>exact h2.symm)
theorem rX:IvB 2 (bd 1 2) 1:=⟨by decide,by decide,by decide,by decide,by decide,by decide⟩
abbrev es1:List En:=[((0:Int),2),((1:Int),1)]
abbrev es2:List En:=[((1:Int),1)]
theorem ek2 {p q:RatM} {a b:Rat} {i j:Int} (hp:Cr p a) (hq:Cr q b):Ek [⟨i,p⟩,⟨j,q⟩] [(i,a),(j,b)]:=⟨rfl,λk hk=>by
 match k,hk with
 |0,_=>exact⟨rfl,hp⟩
 |1,_=>exact⟨rfl,hq⟩⟩
theorem ek1 {p:RatM} {a:Rat} {i:Int} (hp:Cr p a):Ek [⟨i,p⟩] [(i,a)]:=⟨rfl,λk hk=>by
 match k,hk with
 |0,_=>exact⟨rfl,hp⟩⟩
theorem bFz:VOk es1 (2:Nat):=⟨by
 refine List.pairwise_cons.2 ⟨λe he=>?_,List.pairwise_singleton _ _⟩
 rw[List.mem_singleton.1 he];show(0:Int)<1;decide,λe he=>by
 rcases List.mem_cons.1 he with rfl|he
 ·exact⟨by decide,by decide,show(2:Rat)≠0 by decide⟩
 rw[List.mem_singleton.1 he];exact⟨by decide,by decide,show(1:Rat)≠0 by decide⟩⟩
theorem bGa:VOk es2 (2:Nat):=⟨List.pairwise_singleton _ _,λe he=>by rw[List.mem_singleton.1 he];exact⟨by decide,by decide,show(1:Rat)≠0 by decide⟩⟩
theorem aTp {q:Rat} (h:q=0∨q=1∨q=2∨q=4∨q=5):rb q 1:=by
 rcases h with rfl|rfl|rfl|rfl|rfl<;>exact⟨by decide,by decide⟩
theorem bGb:rbE es1 1:=λe he=>by
 rcases List.mem_cons.1 he with rfl|he
 ·exact aTp (.inr (.inr (.inl rfl)))
 rw[List.mem_singleton.1 he];exact aXz
theorem bGc:rbE es2 1:=λe he=>by rw[List.mem_singleton.1 he];exact aXz
theorem aTq (i:Nat):Vm.get es1 (i:Nat)=if i=0 then 2 else if i=1 then 1 else 0:=by
 show Vm.get (((0:Int),(2:Rat))::[((1:Int),1)]) _=_
 rw[gE,gE]
 show _+(_+(0:Rat))=_
 match i with
 |0=>show(2:Rat)+(0+0)=2;grind
 |1=>show(0:Rat)+(1+0)=1;grind
 |i+2=>rw[if_neg (by show ¬(0:Int)=_;omega),if_neg (by show ¬(1:Int)=_;omega),if_neg oM,if_neg oM];grind
theorem bGd (i:Nat):Vm.get es2 (i:Nat)=if i=1 then 1 else 0:=by
 show Vm.get (((1:Int),(1:Rat))::[]) _=_
 rw[gE]
 show _+(0:Rat)=_
 by_cases e:i=1
 ·subst e;show(1:Rat)+0=1;grind
 rw[if_neg (by show ¬(1:Int)=_;omega),if_neg e];grind
theorem bQr {v v1:IvM} {e:Int} {w:Nat->Rat} (h:RepOk 2 0 v es1 (enM idM) (bd 1 2) 1 e v1 w):e=0∧v1.L.length=v.L.length+1∧IvOk 2 v1.f v1.L (jV (enM idM) 0 es1) (bd 1 2) 1:=by
 rcases h.res with ⟨_,_,h0⟩|⟨h1,_,h2,_,h3⟩
 ·have:=h.sol.eq 0 dC
  rw[aIm,if_pos rfl,h0,aTq] at this
  exact absurd this.symm dC
 exact⟨h1,h2,h3⟩
theorem aAc (r:Nat) (hr:r<2) (x:Nat->Rat):dI (λj=>jV (enM idM) 0 es1 r j*x j) 2=if r=0 then 2*x 0 else x 0+x 1:=by
 rw[bMy]
 have h1:jV (enM idM) 0 es1 r 0=Vm.get es1 (r:Nat):=if_pos rfl
 have h2:jV (enM idM) 0 es1 r 1=Vm.get (idM r) (1:Nat):=if_neg dC
 rw[h1,h2,aTq,aAb r 1 dC]
 match r,hr with
 |0,_=>show(2:Rat)*x 0+0*x 1=2*x 0;grind
 |1,_=>show(1:Rat)*x 0+1*x 1=x 0+x 1;grind
theorem bQs {v v1:IvM} {e:Int} {w:Nat->Rat} (h:RepOk 2 0 v es2 (jV (enM idM) 0 es1) (bd 1 2) 1 e v1 w):e=6∧v1=v:=by
 have:=h.sol.eq 0 dC
 rw[aAc 0 dC,if_pos rfl,bGd] at this
 have h0:w 0=0:=by
  have h2:(2:Rat)*w 0=0:=this
  rcases Rat.mul_eq_zero.1 h2 with h3|h3
  ·exact absurd h3 dC
  exact h3
 rcases h.res with ⟨h1,h2,_⟩|⟨_,h1,_⟩
 ·exact⟨h1,h2⟩
 exact absurd h0 h1
theorem bQt {z:Nat->Rat} {Z:Nat->RatM} (h:SolA (jV (enM idM) 0 es1) 2 (λk=>if k=0 then 4 else 5) z) (hZ:∀i,i<2->Cr (Z i) (z i)):Rl (eA Z 2) [2,3]:=by
 have e0:=h.eq 0 dC
 have e1:=h.eq 1 dC
 rw[aAc 0 dC,if_pos rfl] at e0
 rw[aAc 1 dC,if_neg dC] at e1
 have z0:z 0=2:=by
  have h2:(2:Rat)*z 0=4:=e0
  have h3:(2:Rat)*(z 0-2)=0:=by grind
  rcases Rat.mul_eq_zero.1 h3 with h4|h4
  ·exact absurd h4 dC
  grind
 have z1:z 1=3:=by
  have h2:z 0+z 1=5:=e1
  rw[z0] at h2;grind
 refine⟨rfl,λk hk=>?_⟩
 match k,hk with
 |0,_=>have:=hZ 0 dC;rw[z0] at this;exact this
 |1,_=>have:=hZ 1 dC;rw[z1] at this;exact this
abbrev aIn:FuncId:=6
theorem bMz:Ent Tryz.prog aIn:=Ent.of func6 rfl kR
theorem bNa:Tryz.prog.funcs[aIn]? =some Tryz.f6:=func6
theorem bGe:Ctr Tryz.prog aIn [] [] [] (λ_:Unit=>⟨pC True,[],True⟩):=by
 refine aX gT bMz bNa rfl rfl rfl bL ClB.nil (aA gT mxd ⟨[],bFy,rfl,rfl,rfl,λm hm=>?_⟩)
 replace hm:Mx m idM 2:=hm
 have hbM:rbM idM 2 1:=λi _=>nM λj hj=>aTn i _ (by
  refine gD0 ?_
  unfold idQ;split<;>exact hj)
 refine⟨[],aTh m hm hbM (Nat.le_refl 1) dC dC,rfl,rfl,rfl,λg hg=>?_⟩
 match g,hg with
 |none,hg=>exact absurd hg aYa
 |some (c,f,rw,cl,Lw,Up),⟨hg,hc⟩=>
  replace hc:∀j,j<2->Ek (c j).l (trM idM 2 j):=hc
  have hI:IvOk 2 f [] (enM idM) (bd 1 2) 1:=IvOk.new hg hbM (λr _=>kF 2) (Nat.le_refl 1)
  refine⟨λhh=>absurd rfl hh,λ_=>aA gT mxd ?_⟩
  refine⟨[],gZ (z:=2) dC,rfl,rfl,rfl,λq1 h1=>⟨[],gZ (z:=1) dC,rfl,rfl,rfl,λq2 h2=>?_⟩⟩
  refine⟨some (λj=>(([⟨0,q1⟩,⟨1,q2⟩]:List EntM).getD j default).C),⟨⟨bL,bL⟩,rfl,λj hj=>match j,hj with|0,_=>rfl|1,_=>rfl,wH rfl⟩,λA3 c3 _ _=>⟨cm (aE λ_ _=>rfl),?_⟩⟩
  refine⟨[0,1,1000],aAa ⟨c,f,none,0,[]⟩ 0 ⟨A3,c3,[⟨0,q1⟩,⟨1,q2⟩]⟩ (es:=es1) hI rX dC (ek2 h1 h2) bFz bGb (Nat.zero_le _),rfl,rfl,rfl,λ⟨e,v1,w⟩ hr=>?_⟩
  replace hr:RepOk 2 0 ⟨c,f,none,0,[]⟩ es1 (enM idM) (bd 1 2) 1 e v1 w:=hr
  obtain⟨he,hl1,hI1⟩:=bQr hr
  refine⟨[],gZ (z:=4) dC,rfl,rfl,rfl,λq4 h4=>⟨[],gZ (z:=5) dC,rfl,rfl,rfl,λq5 h5=>?_⟩⟩
  have hl1':v1.L.length=1:=hl1
  refine⟨some (λj=>(([q4,q5]:List RatM).getD j default).C),⟨⟨bL,bL⟩,rfl,λj hj=>match j,hj with|0,_=>rfl|1,_=>rfl,wH rfl⟩,λA4 c4 _ _=>⟨cm (aE λ_ _=>rfl),λ_ h=>(by cases h),?_⟩⟩
  refine⟨[0,1,1000],zY v1 ⟨A4,c4,[q4,q5]⟩ (bv:=λk=>if k=0 then 4 else 5) hI1 rX rfl (λk hk=>?_) oM,rfl,rfl,rfl,λ⟨Z,z⟩ ⟨hz,hZ⟩=>?_⟩
  ·match k,hk with
   |0,_=>exact⟨h4,aTp dC⟩
   |1,_=>exact⟨h5,aTp dC⟩
  refine⟨[],gZ (z:=1) dC,rfl,rfl,rfl,λq6 h6=>?_⟩
  refine⟨some (λj=>(([⟨1,q6⟩]:List EntM).getD j default).C),⟨⟨bL,bL⟩,rfl,λj hj=>match j,hj with|0,_=>rfl,wH rfl⟩,λA5 c5 _ _=>⟨cm (aE λ_ _=>rfl),λ_ h=>(by cases h),λ_ h=>(by cases h),cm dD,?_⟩⟩
  refine⟨[0,1,1000],aAa v1 0 ⟨A5,c5,[⟨1,q6⟩]⟩ (es:=es2) hI1 rX dC (ek1 h6) bGa bGc oM,rfl,rfl,rfl,λ⟨e2,v2,w2⟩ hr2=>?_⟩
  replace hr2:RepOk 2 0 v1 es2 (jV (enM idM) 0 es1) (bd 1 2) 1 e2 v2 w2:=hr2
  obtain⟨he2,hv2⟩:=bQs hr2
  refine⟨λ_=>⟨[0,1,1000],kG none 2 v2,rfl,rfl,rfl,λ_ _=>⟨λ_=>⟨[0,1,1000],aCh none 2 v2,rfl,rfl,rfl,λ_ _=>⟨λ_=>⟨[],gZ (z:=2) dC,rfl,rfl,rfl,λq7 h7=>⟨[],gZ (z:=3) dC,rfl,rfl,rfl,λq8 h8=>?_⟩⟩,λh=>?_⟩⟩,λh=>?_⟩⟩,λh=>?_⟩
  ·refine⟨some (λj=>((eA Z 2).getD j default).C),⟨⟨bL,bL⟩,rfl,λj hj=>match j,hj with|0,_=>rfl|1,_=>rfl,dD⟩,λA6 c6 _ _=>⟨cm (aE λ_ _=>rfl),λ_ h=>(by cases h),λ_ h=>(by cases h),λ_ h=>(by cases h),cm (wH rfl),?_⟩⟩
   refine⟨some (λj=>(([q7,q8]:List RatM).getD j default).C),⟨⟨bL,bL⟩,rfl,λj hj=>match j,hj with|0,_=>rfl|1,_=>rfl,wH rfl⟩,λA7 c7 _ _=>⟨cm (aE λ_ _=>rfl),λ_ h=>(by cases h),λ_ h=>(by cases h),λ_ h=>(by cases h),λ_ h=>(by cases h),?_⟩⟩
   refine⟨[],aHr ⟨A6,c6,eA Z 2⟩ ⟨A7,c7,[q7,q8]⟩ (qs:=[2,3]) (bQt hz λi hi=>(hZ i hi).1) (rl2 h7 h8) (λq hq=>?_) dC,rfl,rfl,rfl,λ_ _=>⟨(),trivial,dU ?_ trivial bL scB.nil rfl oK⟩⟩
   ·rcases List.mem_cons.1 hq with rfl|hq
    ·exact⟨by decide,by decide⟩
    rw[List.mem_singleton.1 hq];exact⟨by decide,by decide⟩
   exact Iff.rfl
  ·exact absurd (show((v2.L.length:Nat):Int)=1 by rw[hv2,hl1'];rfl) h
  ·exact absurd rfl h
  exact absurd ⟨⟨he,rfl⟩,he2⟩ h
theorem aTr:Ctr Tryz.prog aIn [] [] [] (λ_:Unit=>⟨.c (.v (.bool true)),[],True⟩):=CtrF.lo bGe λ_ _=>⟨(),trivial,λρ n w v h=>h.tt trivial,rfl,rfl⟩
theorem SolA.inj {a:Nat->Nat->Rat} {n:Nat} {b x y z:Nat->Rat} (h:SolA a n b x) (he:∀r,r<n->dI (λj=>a r j*y j) n=dI (λj=>a r j*z j) n):∀c,c<n->y c=z c:=by
 have h1:=(h λc=>x c+(y c-z c)).1 λr hr=>by
  have e1:dI (λj=>a r j*(x j+(y j-z j))) n=dI (λj=>(a r j*x j+1*(a r j*y j))+(-1)*(a r j*z j)) n:=cR λj _=>by grind
  rw[e1,hJ,hJ,he r hr,h.eq r hr];grind
 intro c hc
 have:=h1 c hc
 grind
theorem bNb {n k:Nat} {v v1:IvM} {es:List En} {a:Nat->Nat->Rat} {F B:Nat} {e:Int} {w:Nat->Rat} (h:RepOk n k v es a F B e v1 w) (hI:IvOk n v.f v.L a F B):(e=6∨e=0)∧IvOk n v1.f v1.L (if e=6 then a else jV a k es) F B∧(∀j,j≠k->v1.c j=v.c j)∧v1.L.length=v.L.length+(if e=6 then 0 else 1):=by
 rcases h.res with ⟨h1,h2,_⟩|⟨h1,_,h2,⟨y,h3,_⟩,h4⟩
 ·rw[if_pos h1,if_pos h1,h2]
  exact⟨.inl h1,hI,λ_ _=>rfl,rfl⟩
 have h0:¬e=6:=by omega
 rw[if_neg h0,if_neg h0,h2]
 exact⟨.inr h1,h4,λj hj=>by rw[h3,aP hj],rfl⟩
theorem bNc {n k:Nat} {v v1 v2:IvM} {es cs:List En} {a:Nat->Nat->Rat} {F B:Nat} {e e2:Int} {w w2:Nat->Rat} (h:RepOk n k v es a F B e v1 w) (h2:RepOk n k v1 cs (if e=6 then a else jV a k es) F B e2 v2 w2) (hk:k<n) (hcs:∀r,r<n->Vm.get cs (r:Nat)=a r k):e2=0∧(∃y:Sl EntM,v2.c=upd v1.c k y∧Ek y.l cs)∧v2.L.length=v1.L.length+1∧IvOk n v2.f v2.L (jV (if e=6 then a else jV a k es) k cs) F B∧∀r j,r<n->j<n->jV (if e=6 then a else jV a k es) k cs r j=a r j:=by
 have hj:∀r j,j≠k->(if e=6 then a else jV a k es) r j=a r j:=λr j hj=>by
  split
  ·rfl
  exact if_neg hj
 have ha:∀r j,r<n->j<n->jV (if e=6 then a else jV a k es) k cs r j=a r j:=λr j hr _=>by
  show(if j=k then Vm.get cs (r:Nat) else _)=_
  by_cases e1:j=k
  ·rw[if_pos e1,hcs r hr,e1]
  rw[if_neg e1];exact hj r j e1
 rcases h2.res with ⟨_,_,h0⟩|⟨h3,_,h4,h5,h6⟩
 ·exfalso
  have:=h.sol.inj (y:=w2) (z:=λj=>if j=k then 1 else 0) (λr hr=>by
   have e1:=h2.sol.eq r hr
   have e2:dI (λj=>(if e=6 then a else jV a k es) r j*w2 j) n=dI (λj=>a r j*w2 j) n:=cR λj _=>by
    by_cases e3:j=k
    ·rw[e3,h0,Rat.mul_zero,Rat.mul_zero]
    rw[hj r j e3]
   rw[<-e2,e1,hcs r hr,qW (m:=k) hk λj hj=>by rw[if_neg hj,Rat.mul_zero],if_pos rfl,Rat.mul_one]) k hk
  rw[h0,if_pos rfl] at this
  exact absurd this dC
 exact⟨h3,h5,h4,h6,ha⟩
theorem Mx.cong {g:MatM} {M M':Nat->List En} {n:Nat} (h:Mx g M n) (he:∀i,i<n->M i=M' i):Mx g M' n:=⟨h.r,h.c,h.ln,λi hi=>by rw[<-he i hi];exact h.row i hi,λi hi=>by rw[<-he i hi];exact h.ok i hi⟩
theorem aIo {es:List En} {n:Nat} (h:VOk es (n:Nat)) {i:Int} (hi:¬(0<=i∧i<n)):Vm.get es i=0:=gA λe he h2=>hi (by have:=h.2 e he;omega)
theorem rY {M:Nat->List En} {n:Nat} (j:Nat):VOk (trM M n j) (n:Nat):=(vS n).1
theorem aYb {M:Nat->List En} {n i:Nat} (h:VOk (M i) (n:Nat)) (hi:i<n):trM (trM M n) n i=M i:=by
 refine kW _ _ (rY i).1 h.1 (λe he=>((rY i).2 e he).2.2) (λe he=>(h.2 e he).2.2) λz=>?_
 by_cases hz:0<=z∧z<n
 ·obtain⟨j,rfl⟩:∃j:Nat,z=(j:Nat):=⟨z.toNat,by omega⟩
  rw[zK oM,zK hi]
 rw[aIo (rY i) hz,aIo h hz]
theorem aTs {n:Nat} (h0:0<n) (h:n<=5):IvB n (bd 3 n) 3∧bd 3 n<=17179869184:=by
 match n,h0,h with
 |1,_,_=>exact⟨⟨by decide,by decide,by decide,by decide,by decide,by decide⟩,by decide⟩
 |2,_,_=>exact⟨⟨by decide,by decide,by decide,by decide,by decide,by decide⟩,by decide⟩
 |3,_,_=>exact⟨⟨by decide,by decide,by decide,by decide,by decide,by decide⟩,by decide⟩
 |4,_,_=>exact⟨⟨by decide,by decide,by decide,by decide,by decide,by decide⟩,by decide⟩
 |5,_,_=>exact⟨⟨by decide,by decide,by decide,by decide,by decide,by decide⟩,by decide⟩
abbrev aFs:FuncId:=4
theorem bGf:Ent Tryz.prog aFs:=Ent.of func4 rfl kR
theorem bGg:Tryz.prog.funcs[aFs]? =some Tryz.f4:=func4
abbrev udB (co:Sl Int) (n:Nat) (mc:Int) (md:Sl (Sl EntM)) (c:Nat->Sl EntM) (f:LuM) (q:Nat) (Z1:Nat->RatM) (L:List RatM):BL:=[(24,0,(MatM.mk (n:Nat) mc md).C),(74,0,.s 2 n::(f.C++[.h none 0 0])),(54,1,cB n λj=>aO (c j)),(84,0,[dO co,iC q]),(51,3,rtC n Z1),(51,3,fl RatM.C default L)]
theorem aTt {co:Sl Int} {n:Nat} {mc:Int} {md:Sl (Sl EntM)} {c:Nat->Sl EntM} {f:LuM} {q:Nat} {Z1:Nat->RatM} {L:List RatM}:scB 6 (udB co n mc md c f q Z1 L):=scB.cons rfl (scB.cons rfl (scB.cons (aZ (aE λ_ _=>rfl)) (scB.cons rfl (scB.cons (aZ dD) (scB.cons (aZ (nN cP)) scB.nil)))))
abbrev udG (co:Sl Int) (n k:Nat) (b:Sl RatM) (i:Nat) (L:List RatM):List (Nat×DV):=[(14,.c (iC i)),(13,.c (.s 5 L.length)),(7,.c (.p 0 0)),(8,.c (.p 1 0)),(10,.c (cN b)),(11,.c (.s 4 n)),(1,.c (dO co)),(2,.c (iC k))]
abbrev bQu (co:Sl Int) (n:Nat) (mc:Int) (md:Sl (Sl EntM)) (A:Option Addr) (kk:Nat) (v:IvM) (q:Nat) (Z1 Z2:Nat->RatM):BL:=[(24,0,(MatM.mk (n:Nat) mc md).C),(74,0,gQ ⟨A,kk,eT v.c n⟩::(v.f.C++[.h v.A v.L.length v.k])),(54,1,[]),(84,0,[dO co,iC q]),(51,3,rtC n Z1),(51,3,[]),(51,3,rtC n Z2)]
def oUn:Tr:=.alt 0 (.alt 2001 (.alt 2002 (.alt 2003 (.alt 2004 (.alt 2005 (.alt 2006 (.alt 2008 (.alt 7 (.alt 2009 (.alt 2010 (.alt 2011 (.alt 2012 (.alt 13 (trS [14,15,16,2017,2018,2019,2020,21,2022,2023]) (.alt 14 (trS [13,15,16,2017,2018,2019,2020,21,2022,2023]) .nil)) .nil) .nil) .nil) .nil) .nil) .nil) .nil) .nil) .nil) .nil) .nil) .nil) .nil
theorem aIp {A A':Option Addr} {c c' n:Nat} {Z Z':Nat->RatM} {z z':Nat->Rat} {B:Nat} (h:∀i,i<n->Cr (Z i) (z i)∧rb (z i) B) (h':∀i,i<n->Cr (Z' i) (z' i)) (he:∀i,i<n->z i=z' i) (hB:B<=549755813888) (hn:n<=4096):Ctr Tryz.prog zL [] [.c (.r A n c 3 λj=>((eA Z n).getD j default).C),.c (.r A' n c' 3 λj=>((eA Z' n).getD j default).C)] [] (λ_:Unit=>⟨pC True,[],True⟩):=by
 obtain⟨qs,hqs⟩:∃qs:List Rat,qs=(List.range n).map z:=⟨_,rfl⟩
 have hql:qs.length=n:=by rw[hqs];simp
 have hqa:∀i,i<n->qs.getD i 0=z i:=λi hi=>by rw[hqs];simp[hi]
 have hR:∀(Z:Nat->RatM),(∀i,i<n->Cr (Z i) (z i))->Rl (eA Z n) qs:=λZ h=>⟨by rw[hql];unfold eA;simp,λi hi=>by
  rw[hql] at hi
  rw[hqa i hi,show(eA Z n).getD i default=Z i by unfold eA;simp[hi]]
  exact h i hi⟩
 have:=aHr ⟨A,c,eA Z n⟩ ⟨A',c',eA Z' n⟩ (hR Z λi hi=>(h i hi).1) (hR Z' λi hi=>by rw[he i hi];exact h' i hi) (λq hq=>by
  rw[hqs] at hq
  obtain⟨i,hi,rfl⟩:=List.mem_map.1 hq
  exact(h i (List.mem_range.1 hi)).2.le hB) oM
 have e:∀(A:Option Addr) c (Z:Nat->RatM),cN ⟨A,c,eA Z n⟩= .r A n c 3 λj=>((eA Z n).getD j default).C:=λA c Z=>by
  unfold cN Sl.R
  rw[show(eA Z n).length=n by unfold eA;simp]
 rwa [e,e] at this
theorem bGh (ch co:Sl Int) (k0:Int):Ctr Tryz.prog aFs [] [.c (dO ch),.c (dO co),.c (iC k0)] [] (λ_:Unit=>⟨pC True,[],True⟩):=by
 refine aX gT bGf bGg rfl rfl rfl bL ClB.nil (aJv 0 rfl λhch=>aJv 1 rfl λhco=>aA gT mxd ?_)
 replace hch:ch.l.length<=9223372036854775807:=hch
 replace hco:co.l.length<=9223372036854775807:=hco
 refine⟨[],bKy ch 5 hch dC dC,rfl,rfl,rfl,λ⟨⟨mr,mc,md⟩,M,n⟩ ⟨⟨hm,hbM⟩,hn0,hn5⟩=>?_⟩
 replace hm:Mx ⟨mr,mc,md⟩ M n:=hm
 replace hbM:rbM M n 3:=hbM
 replace hn0:0<n:=hn0
 replace hn5:n<=5:=hn5
 obtain rfl:mr=(n:Nat):=hm.r
 have hI:=(aTs hn0 hn5).1
 have hbd:=(aTs hn0 hn5).2
 refine⟨[],aTh ⟨(n:Nat),mc,md⟩ hm hbM dC hbd oM,rfl,rfl,rfl,λg hg=>?_⟩
 match g,hg with
 |none,hg=>
  refine⟨λ_=>⟨[],aTr,rfl,rfl,rfl,λ_ _=>?_⟩,λh=>?_⟩
  ·exact⟨(),trivial,dU (show(true=true↔True) by decide) trivial bL scB.nil rfl oK⟩
  exact absurd (show((6:Int))≠0 by decide) h
 |some (c,f,rw,cl,Lw,Up),⟨hg,hc⟩=>
  replace hc:∀j,j<n->Ek (c j).l (trM M n j):=hc
  have hO:IvOk n f [] (enM M) (bd 3 n) 3:=IvOk.new hg hbM (λr hr=>(hm.ok r hr).1.1) dC
  refine⟨λhh=>absurd rfl hh,λ_=>aA gT mxd ?_⟩
  refine⟨[],aYs k0 (n:Nat) oM oM,rfl,rfl,rfl,λr ⟨hr0,hrn⟩=>?_⟩
  replace hr0:0<=r:=hr0
  replace hrn:r<(n:Nat):=hrn
  obtain⟨k,rfl⟩:∃k:Nat,r=(k:Nat):=⟨r.toNat,by omega⟩
  have hk:k<n:=by omega
  refine⟨.seq [(0,false),(2,false),(3,false),(1,false),(4,true),(5,false)],by kernel_rfl,[],aEs co,rfl,rfl,rfl,λ_ _=>⟨[3],aWg co 0 n hco (Nat.zero_le _) oM,rfl,rfl,rfl,λ⟨b,qs,q⟩ ⟨⟨hb,hql⟩,hqb,_⟩=>?_⟩⟩
  replace hb:Rl b.l qs:=hb
  replace hql:qs.length=n:=hql
  replace hqb:rbL qs 1:=hqb
  have hbv:∀k,k<n->Cr (b.l.getD k default) (qs.getD k 0)∧rb (qs.getD k 0) 3:=λk hk=>⟨hb.e k oM,(hqb _ (by rw[List.getD_eq_getElem?_getD,List.getElem?_eq_getElem oM];exact List.getElem_mem _)).le dC⟩
  refine⟨[1,2,1000],zY ⟨c,f,none,0,[]⟩ b (bv:=λk=>qs.getD k 0) hO hI (hb.ln.trans hql) hbv (Nat.zero_le _),rfl,rfl,rfl,λ⟨Z1,z1⟩ ⟨hS1,hZ1⟩=>?_⟩
  show Sd _ _ _ _ _ _
  refine yO 13 51 3 rfl bL ?_
  refine bV (λ_=>true) (λg:Nat×List RatM=>udG co n k b g.1 g.2) (λg=>udB co n mc md c f q Z1 g.2) (λ_=>ivF ⟨c,f,none,0,[]⟩) (λg=>g.1<=n∧Rl g.2 (lF M g.1 k)) (λg=>n-g.1) λhM=>⟨bA hM (chg:=λg:Nat×List RatM=>udG co n k b g.1 g.2) (bls:=λg=>udB co n mc md c f q Z1 g.2) (fls:=λ_=>ivF ⟨c,f,none,0,[]⟩) (0,[]) ⟨Nat.zero_le _,⟨rfl,λk hk=>absurd hk (Nat.not_lt_zero _)⟩⟩ rfl ⟨rfl,rfl,rfl,rfl,rfl,rfl⟩ ⟨rfl,trivial⟩ ⟨rfl,rfl,rfl,rfl,rfl,rfl,rfl,rfl⟩ bL aTt rfl,λ⟨i,L⟩ ⟨hi,hL⟩=>aA gT mxd ⟨λh3=>aA gT mxd ?_,λh3=>aA gT mxd ?_⟩⟩
  all_goals
   replace hi:i<=n:=hi
   replace hL:Rl L (lF M i k):=hL
   have hl:L.length=i:=hL.ln.trans qQ
  ·have hin:i<n:=by replace h3:(i:Int)<(n:Nat):=h3;omega
   have ap:∀g:RatM,1*3=g.C.length∧L.length*3=(fl RatM.C default L).length∧L.length+1<=maxLen∧(L.length+1)*56<=140737488355328∧∀c∈fl RatM.C default L++g.C,eX 5 c=false:=λg=>⟨rfl,(iT (f:=RatM.C) (d:=default) (L:=L) (e:=3) λ_=>rfl).symm,by simp only[maxLen];omega,by omega,λc hc=>(List.mem_append.1 hc).elim (λh=>dN (nN cP c h)) (fO _ c)⟩
   have sn:∀g:RatM,((51,3,fl RatM.C default L++g.C):TypeId×Nat×List CV)=(51,3,fl RatM.C default (L++[g])):=λg=>by rw[qR]
   refine⟨[],bKp ⟨(n:Nat),mc,md⟩ i k hm hbM dC dC oM hin hk,rfl,rfl,rfl,λg hg=>⟨ap g,cm (aE λ_ _=>rfl),cm dD,fO _,(i+1:Nat),wi,bA hM (chg:=λg:Nat×List RatM=>udG co n k b g.1 g.2) (bls:=λg=>udB co n mc md c f q Z1 g.2) (fls:=λ_=>ivF ⟨c,f,none,0,[]⟩) (i+1,L++[g]) ⟨⟨hin,?_⟩,show n-(i+1)<n-i by omega⟩ rfl ⟨rfl,rfl,rfl,rfl,rfl,sn _⟩ ⟨rfl,trivial⟩ ⟨rfl,by show L.length+1=(L++[g]).length;simp,rfl,rfl,rfl,rfl,rfl,rfl⟩ bL aTt rfl⟩⟩
   show Rl (L++[g]) (lF M (i+1) k)
   rw[show lF M (i+1) k=lF M i k++[Vm.get (M i) (k:Nat)] by simp[lF,List.range_succ]]
   exact oG hL hg
  obtain rfl:n=i:=by replace h3:¬(i:Int)<(n:Nat):=h3;omega
  refine Sd.sq (aA gT mxd ?_)
  refine⟨[],bKu co n hco oM,rfl,rfl,rfl,λ⟨x,cq⟩ ⟨⟨hx,hcl⟩,hcb⟩=>?_⟩
  replace hx:Ek x.l (fdF cq n):=hx
  replace hcl:cq.length=n:=hcl
  replace hcb:rbL cq 1:=hcb
  refine⟨[1,2,1000],aAa ⟨c,f,none,0,[]⟩ k x hO hI hk hx (vS n).1 (nM λj hj=>(hcb _ (gD0 oM)).le dC) (Nat.zero_le _),rfl,rfl,rfl,λ⟨e,v1,w1⟩ hr1=>?_⟩
  replace hr1:RepOk n k ⟨c,f,none,0,[]⟩ (fdF cq n) (enM M) (bd 3 n) 3 e v1 w1:=hr1
  obtain⟨he1,hO1,hc1,hL1⟩:=bNb hr1 hO
  have hr1e:(e=6∨e=0):=he1
  replace hL1:v1.L.length=0+(if e=6 then 0 else 1):=hL1
  have hL1':v1.L.length<=1:=by rw[hL1];split<;>omega
  show Sd _ _ _ _ _ _
  refine Sd.sq (aA gT mxd ?_)
  refine⟨some (λj=>(L.getD j default).C),⟨⟨bL,bL⟩,(iT (f:=RatM.C) (d:=default) (L:=L) (e:=3) λ_=>rfl).symm,λj hj=>vU (f:=RatM.C) (d:=default) (L:=L) (e:=3) (λ_=>rfl) j hj,nN cP⟩,λA2 c2 _ _=>⟨cm (aE λ_ _=>rfl),cm dD,?_⟩⟩
  have hob:rbL (lF M n k) 3:=λq hq=>by
   obtain⟨i,hi,rfl⟩:=List.mem_map.1 hq
   exact fY (hm.ok i (List.mem_range.1 hi)).1.1 (hbM i (List.mem_range.1 hi)) dC
  refine⟨[],aRc ⟨A2,c2,L⟩ hL hob dC dC (by rw[qQ];omega),rfl,rfl,rfl,λy hy=>?_⟩
  replace hy:Ek y.l (fdF (lF M n k) (lF M n k).length):=hy
  rw[qQ] at hy
  have hyb:rbE (trM M n k) 3:=nM λj hj=>hob _ (gD0 (by rw[qQ];exact hj))
  refine⟨[1,2,1000],aAa v1 k y (es:=trM M n k) hO1 hI hk hy (rY k) hyb oM,rfl,rfl,rfl,λ⟨e2,v2,w2⟩ hr2=>?_⟩
  replace hr2:RepOk n k v1 (trM M n k) (if e=6 then enM M else jV (enM M) k (fdF cq n)) (bd 3 n) 3 e2 v2 w2:=hr2
  obtain⟨he2,⟨y2,hc2,hy2⟩,hL2,hO2,hA2⟩:=bNc hr1 hr2 hk λr hr=>zK hr
  have hL2':v2.L.length<=2:=by omega
  show Sd _ _ _ _ _ _
  refine Sd.sq (aA gT mxd ?_)
  refine⟨[1,2,1000],zY v2 b (bv:=λk=>qs.getD k 0) hO2 hI (hb.ln.trans hql) hbv oM,rfl,rfl,rfl,λ⟨Z2,z2⟩ ⟨hS2,hZ2⟩=>?_⟩
  replace hS2:SolA (jV (if e=6 then enM M else jV (enM M) k (fdF cq n)) k (trM M n k)) n (λk=>qs.getD k 0) z2:=hS2
  replace hZ2:∀i,i<n->Cr (Z2 i) (z2 i)∧rb (z2 i) (sB 3 n):=hZ2
  show Sd _ _ _ _ _ _
  refine qJ tSd 2 rfl bL (aE λ_ _=>rfl) bL rfl λA3 c3=>⟨_,sk dD,_,rfl,_,sk dD,?_⟩
  refine mL tSd 1 1 (gQ ⟨A3.map λb=>⟨b,0,none⟩,c3,eT v2.c n⟩::(v2.f.C++[.h v2.A v2.L.length v2.k])) rfl rfl rfl rfl (nK (k0:=0) rfl qP) (aA gT mxd ?_)
  subst he2
  refine vjn (λ_=>true) (λst:Int=>[(19,.c (iC st)),(16,.c (iC 0)),(7,.c (.p 0 0)),(8,.c (.p 1 0)),(11,.c (.s 4 n)),(17,.c (.s 6 n))]) (λ_=>bQu co n mc md (A3.map λb=>⟨b,0,none⟩) c3 v2 q Z1 Z2) (λst=>st=(v2.L.length:Nat)) ⟨⟨λh5=>aA gT mxd ⟨1,?_,rfl,rfl,rfl,rfl,rfl,rfl,rfl,rfl⟩,λh5=>aA gT mxd ⟨2,?_,rfl,rfl,rfl,rfl,rfl,rfl,rfl,rfl⟩⟩,λst hst=>?_⟩
  ·replace h5:e≠0:=h5
   have h6:e=6:=by omega
   show(1:Int)=_
   rw[hL2,hL1,if_pos h6];rfl
  ·replace h5:¬(e≠0):=h5
   have h6:¬e=6:=by omega
   show(2:Int)=_
   rw[hL2,hL1,if_neg h6];rfl
  refine⟨.treeH [] oUn,by kernel_rfl,?_⟩
  have hEk:∀j,j<n->Ek (v2.c j).l (trM M n j):=λj hj=>by
   rw[hc2]
   by_cases e1:j=k
   ·subst e1;rw[aT];exact hy2
   rw[aP e1,hc1 j e1];exact hc j hj
  have htb:rbM (trM M n) n 3:=λj hj=>nM λi hi=>by
   rw[tO hi]
   exact fY (hm.ok i hi).1.1 (hbM i hi) dC
  have hzz:∀j,j<n->z1 j=z2 j:=hS1.inj λr hr=>by
   rw[hS1.eq r hr,<-hS2.eq r hr]
   exact cR λj hj=>by rw[hA2 r j hr hj]
  have hmt:∀g:MatM,Mx g (trM (trM M n) n) n->Mx g M n:=λg hg=>hg.cong λi hi=>aYb (hm.ok i hi).1 hi
  have hsB:sB 3 n<=549755813888:=by have:=hI.hS;omega
  have hZ1':∀i,i<n->Cr (Z1 i) (z1 i)∧rb (z1 i) (sB 3 n):=hZ1
  have hbM':rbM M n 549755813888:=λi hi e he=>(hbM i hi e he).le dC
  have hrl:∀Z:Nat->RatM,n*3=(rtC n Z).length:=λZ=>(jF (P:=λj=>(Z j).C) (e:=3) λ_ _=>rfl).symm
  have hra:∀(Z:Nat->RatM) (j:Nat),j<n->((eA Z n).getD j default).C=((rtC n Z).drop (j*3)).take 3:=λZ j hj=>by
   rw[show(eA Z n).getD j default=Z j by unfold eA;simp[hj]]
   exact(iA hj).1.symm
  have hst':((v2.L.length:Nat):Int)=st:=hst.symm
  refine⟨[],aTr,rfl,rfl,rfl,λ_ _=>⟨λ_=>⟨[1,2,1000],aCh (some (A3.map λb=>⟨b,0,none⟩,c3)) n v2,rfl,rfl,rfl,λ_ _=>⟨⟨λ_=>?_,λh7=>absurd hst' h7⟩,⟨λ_=>?_,λh7=>absurd hst' h7⟩⟩⟩,λh7=>absurd rfl h7⟩⟩
  ·refine⟨[1,2,1000],aTj (A3.map λb=>⟨b,0,none⟩) c3 v2 hEk (λj _=>rY j) htb dC oM,rfl,rfl,rfl,λg1 hg1=>?_⟩
   refine⟨[],aYx ⟨(n:Nat),mc,md⟩ hm hbM dC dC oM,rfl,rfl,rfl,λg2 hg2=>⟨[],aRh g1 g2 (hmt g1 hg1) hg2 hbM' oM,rfl,rfl,rfl,λ_ _=>⟨λ_=>?_,λh9=>absurd trivial h9⟩⟩⟩
   refine⟨some (λj=>((eA Z1 n).getD j default).C),⟨⟨bL,bL⟩,hrl Z1,hra Z1,dD⟩,λA6 c6 _ _=>⟨λ_ h=>(by cases h),λ_ h=>(by cases h),cm dD,?_⟩⟩
   refine⟨some (λj=>((eA Z2 n).getD j default).C),⟨⟨bL,bL⟩,hrl Z2,hra Z2,dD⟩,λA7 c7 _ _=>⟨λ_ h=>(by cases h),λ_ h=>(by cases h),λ_ h=>(by cases h),?_⟩⟩
   refine⟨[],aIp hZ1' (λi hi=>(hZ2 i hi).1) hzz hsB oM,rfl,rfl,rfl,λ_ _=>⟨(),trivial,dU ?_ trivial bL scB.nil rfl oK⟩⟩
   exact Iff.rfl
  refine⟨[1,2,1000],aTj (A3.map λb=>⟨b,0,none⟩) c3 v2 hEk (λj _=>rY j) htb dC oM,rfl,rfl,rfl,λg1 hg1=>?_⟩
  refine⟨[],aYx ⟨(n:Nat),mc,md⟩ hm hbM dC dC oM,rfl,rfl,rfl,λg2 hg2=>⟨[],aRh g1 g2 (hmt g1 hg1) hg2 hbM' oM,rfl,rfl,rfl,λ_ _=>⟨λ_=>?_,λh9=>absurd trivial h9⟩⟩⟩
  refine⟨some (λj=>((eA Z1 n).getD j default).C),⟨⟨bL,bL⟩,hrl Z1,hra Z1,dD⟩,λA6 c6 _ _=>⟨λ_ h=>(by cases h),λ_ h=>(by cases h),cm dD,?_⟩⟩
  refine⟨some (λj=>((eA Z2 n).getD j default).C),⟨⟨bL,bL⟩,hrl Z2,hra Z2,dD⟩,λA7 c7 _ _=>⟨λ_ h=>(by cases h),λ_ h=>(by cases h),λ_ h=>(by cases h),?_⟩⟩
  refine⟨[],aIp hZ1' (λi hi=>(hZ2 i hi).1) hzz hsB oM,rfl,rfl,rfl,λ_ _=>⟨(),trivial,dU ?_ trivial bL scB.nil rfl oK⟩⟩
  exact Iff.rfl
end Go.Proofs.YtlhdigjbokkbiaaGreat
namespace Go.Proofs.YtlhdigjbokkbiaaGreat
open Go.Vg Go.RowKit _root_.Go.Proofs.Tryz
open Go.Vm hiding sg sg_t sg_f sg_abs sg_add sg_mul bF aU bG cM
open Go.Vy hiding val
open Go.ChangeShapes Go.WideShapes
namespace bulks
theorem bGi {H:Type} (d:DataW H):1<=Rows.uptoBulk d:=by
 cases d with
 |lit l=>cases l<;>simp[Rows.uptoBulk]
 |nil=>simp[Rows.uptoBulk]
 |ptr d=>simp[Rows.uptoBulk]
 |slice elems spare=>simp[Rows.uptoBulk]
 |agg parts=>simp[Rows.uptoBulk]
 |iface t d=>simp[Rows.uptoBulk]
 |map entries=>simp[Rows.uptoBulk]
 |held h=>simp[Rows.uptoBulk]
theorem part_le {H:Type} {d:DataW H} {l:List (DataW H)} (h:d∈l):Rows.uptoBulk d<=Rows.uptoBulkAll l:=by
 induction l with
 |nil=>cases h
 |cons x r ih=>
  simp only[Rows.uptoBulkAll]
  cases List.mem_cons.1 h with
  |inl e=>subst e;omega
  |inr e=>have:=ih e;omega
theorem length_le {H:Type} (l:List (DataW H)):l.length<=Rows.uptoBulkAll l:=by
 induction l with
 |nil=>simp[Rows.uptoBulkAll]
 |cons x r ih=>have:=bGi x;simp only[Rows.uptoBulkAll,List.length_cons];omega
end bulks
def ρA:Pl:=⟨λ_=>(none,0),λ_=>True,[]⟩
section
variable {H:Type} {enc:TypeId×Value->H} {w:World} {base:Nat} {spare:Nat->Bool} {held:Bool}
theorem zA {b:Nat} (h:b<w.heap.size):Zf ρA 0 w b:=⟨h,λi hi=>absurd hi (Nat.not_lt_zero _),trivial,λ⟨F,hF,_⟩=>by cases hF⟩
def Opn (H:Type) (enc:TypeId×Value->H) (w:World) (base:Nat) (spare:Nat->Bool) (held:Bool) (T:TypeId) {α:Type} (C:α->List CV) (B:Nat->α->Prop):Prop:=
 ∀fuel cs x,DataW.trod enc Tryz.prog w base spare held fuel T cs=some x->∃a:α,(Hl ρA 0 w (C a) cs∧∀u∈cs,u.oneCell'=true)∧B (Rows.uptoBulk x.1) a
theorem aIq:Opn H enc w base spare held 3 (λz:Int=>[iC z]) λ_ _=>True:=λfuel cs x h=>by
 obtain⟨n,rfl,_,_⟩:=DataW.trod_int underlying3 h
 exact⟨n,⟨⟨Rc.v _,trivial⟩,λu hu=>by rw[List.mem_singleton.1 hu];rfl⟩,trivial⟩
theorem aZe {α:Type} {f:Nat->α} {n j:Nat} {d:α} (h:j<n):((List.range n).map f).getD j d=f j:=by simp[List.getD,h]
theorem aTu {T E e:Nat} {α:Type} {C:α->List CV} {B:Nat->α->Prop} (hT:Tryz.prog.underlying T=some (.slice E)) (hE:Tryz.prog.cellsOf E=e) (he:0<e) (hC:∀a,(C a).length=e) (hcl:∀a,∀c∈C a,cW c=true) (d:α) (hO:Opn H enc w base spare held E C B) (hB:∀m n a,m<=n->B m a->B n a):
 Opn H enc w base spare held T (λs:Sl α=>[s.R e C d]) λn s=>s.l.length<=n∧∀x∈s.l,B n x:=λfuel cs x h=>by
 rcases Go.Deep.open_slice hT h with ⟨rfl,rfl⟩|⟨a,len,cap,m,n,D,Pl,rfl,hb,hl,hm,hmm,rfl,hx⟩
 ·exact⟨cD,⟨⟨Rc.nil _ _ _ _ (Nat.zero_le _),trivial⟩,λu hu=>by rw[List.mem_singleton.1 hu];rfl⟩,Nat.zero_le _,λ_ h=>nomatch h⟩
 rw[hE] at hx
 have hlm:len<=m:=by rw[hmm];split<;>omega
 have each:∀i,i<len->∃q:α×List Value,w.cells? base (a.add (i*e)) e=some q.2∧(Hl ρA 0 w (C q.1) q.2∧∀u∈q.2,u.oneCell'=true)∧B (Rows.uptoBulk (D i)) q.1:=λi hi=>by
  obtain⟨cs',h1,h2⟩:=hx i (by omega)
  obtain⟨y,h3,h4⟩:=hO _ _ _ h2
  exact⟨(y,cs'),h1,h3,h4⟩
 have hlb:len<=Rows.uptoBulkAll ((List.range len).map D):=by
  have:=bulks.length_le ((List.range len).map D)
  rwa [List.length_map,List.length_range] at this
 by_cases h0:len=0
 ·subst h0
  exact⟨⟨some a,cap,[]⟩,⟨⟨Rc.nil _ _ _ _ hm,trivial⟩,λu hu=>by rw[List.mem_singleton.1 hu];rfl⟩,Nat.zero_le _,λ_ h=>nomatch h⟩
 haveI:Inhabited (α×List Value):=⟨(d,[])⟩
 obtain⟨q,hq⟩:=Go.Deep.choose_lt each
 have cell:∀i,i<len->∀j (u:Value),((q i).2)[j]? =some u->w.cell? (a.add (i*e+j))=some u:=λi hi j u hu=>by
  obtain⟨_,h2,h3⟩:=World.cells?_some (hq i hi).1
  have h4:=h3 j (by rw[<-h2];exact bK hu)
  rw[Go.Deep.add_add,hu] at h4
  exact h4
 have l0:0<((q 0).2).length:=by rw[<-(hq 0 (by omega)).2.1.1.len,hC];exact he
 have c0:=cell 0 (by omega) 0 _ (List.getElem?_eq_getElem l0)
 obtain⟨b,o,spot⟩:=a
 have hspot:spot=none:=by simpa[Addr.add] using World.cell?_spot c0
 subst hspot
 have hlt:b<w.heap.size:=by
  rw[cS] at c0
  unfold World.cell? at c0
  cases hh:w.heap[b]? with
  |none=>rw[show((⟨b,o+(0*e+0),none⟩:Addr).block)=b from rfl,hh] at c0;cases c0
  |some ob=>exact(Array.getElem?_eq_some_iff.1 hh).1
 refine⟨⟨some ⟨b,o,none⟩,cap,(List.range len).map λi=>(q i).1⟩,⟨⟨?_,trivial⟩,λu hu=>by rw[List.mem_singleton.1 hu];rfl⟩,?_,λx hx=>?_⟩
 ·show Rc (Zf ρA 0 w) w (.r (some ⟨b,o,none⟩) ((List.range len).map λi=>(q i).1).length cap e λj=>C (((List.range len).map λi=>(q i).1).getD j d)) (.slice (some ⟨b,o,none⟩) len cap)
  rw[List.length_map,List.length_range]
  refine Rc.r b o len cap e _ (λi=>(q i).2) hl hm (zA hlt) (λj hj i u hu=>⟨?_,(hq j hj).2.1.2 u (List.mem_of_getElem? hu)⟩) (λj hj=>?_) λj hj i c u h1 h2=>?_
  ·have:=cell j hj i u hu
   rw[cS] at this
   rw[Nat.add_assoc]
   exact this
  ·rw[aZe hj]
   exact(hq j hj).2.1.1.len.symm
  rw[aZe hj] at h1
  obtain⟨y,h3,h4⟩:=(hq j hj).2.1.1.get h1
  rw[h2] at h3
  injection h3 with h3
  subst h3
  exact xD h4 (hcl _ c (List.mem_of_getElem? h1))
 ·show((List.range len).map λi=>(q i).1).length<=_
  rw[List.length_map,List.length_range]
  simp only[Rows.uptoBulk]
  omega
 obtain⟨i,hi,rfl⟩:=List.mem_map.1 hx
 rw[List.mem_range] at hi
 have h5:=bulks.part_le (d:=D i) (l:=(List.range len).map D) (List.mem_map.2 ⟨i,List.mem_range.2 hi,rfl⟩)
 exact hB _ _ _ (by simp only[Rows.uptoBulk];omega) (hq i hi).2.2
end
namespace updateUndoDone
open Go.ChangeShapes Go.WideShapes Go.ChangeAt
theorem own:ownKnob Tryz.prog.godebug=none:=by kernel_rfl
theorem aIr:laidOutB Tryz.prog=true:=by kernel_rfl
set_option maxRecDepth 100000 in
theorem bGj (os:Os) (started:os.Started) (H:Type) (enc:TypeId×Value->H):
 ReturnsInHanded {} Tryz.checked os 4 .any (Rows.updateUndoSpec.pre6 enc Tryz.prog Tryz.f4 Rows.updateUndoRow.domain false) (Rows.updateUndoSpec.post enc Tryz.prog Tryz.f4 false true false false):=by
 refine returnsInHanded_of_change (C:=Tryz.checked) own started (by kernel_rfl) func4
  (ChangeSpec.witness6 (enc:=enc) (C:=Tryz.checked) false ⟨#[],#[.slice none 0 0,.slice none 0 0,.int .i64 0],[]⟩ 8 (by kernel_rfl) (by kernel_rfl) (by kernel_rfl) (by kernel_rfl)) ?_
 intro W base args ds gs before hval0 hW hcnd _
 have hval:∀(j:Nat) t v,Tryz.f4.params[j]? =some t->args[j]? =some v->Value.okWide Tryz.prog W .any base t v:=hval0
 have hW':=hW
 obtain⟨p,q,hA0,hV,rfl,hfz,hnd⟩:=hW
 have hA:DataW.TrodAll enc Tryz.prog W 0 (λ_=>true) true Tryz.f4.params.toList args.toList ds p:=hA0
 rw[Tryz.params4] at hA hval
 obtain⟨v0,vs0,d0,ds0,p0,q0,hargs,rfl,rfl,h0,r0⟩:=trodAll_cons hA
 obtain⟨v1,vs1,d1,ds1,p1,q1,rfl,rfl,rfl,h1,r1⟩:=trodAll_cons r0
 obtain⟨v2,vs2,d2,ds2,p2,q2,rfl,rfl,rfl,h2,r2⟩:=trodAll_cons r1
 obtain⟨rfl,rfl,rfl⟩:=trodAll_nil r2
 obtain rfl:args=#[v0,v1,v2]:=by cases args;simp_all
 obtain⟨rfl,rfl⟩:=trodVars_none hV
 obtain⟨a0,len0,cap0,rfl⟩:=okWide_slice underlying38 (hval 0 38 v0 rfl rfl)
 have k0:=h0
 have lt0:∀x∈p0,x.block<W.heap.size:=by obtain⟨m,hm⟩:=k0;exact DataW.trod_lt m _ _ _ hm
 obtain⟨D0,hD0⟩:∃D:Sl Int,Hd ρA 0 W (.c (dO D)) (.slice a0 len0 cap0):=by
  obtain⟨fuel,hf⟩:=h0
  obtain⟨D,⟨hl,_⟩,_⟩:=aTu (e:=1) (C:=λz:Int=>[iC z]) underlying38 (by kernel_rfl) bL (λ_=>rfl) (λ_=>wH rfl) 0 aIq (λ_ _ _ _ _=>trivial) _ _ _ hf
  exact⟨D,.c hl.1⟩
 obtain⟨a1,len1,cap1,rfl⟩:=okWide_slice underlying38 (hval 1 38 v1 rfl rfl)
 have k1:=h1
 have lt1:∀x∈p1,x.block<W.heap.size:=by obtain⟨m,hm⟩:=k1;exact DataW.trod_lt m _ _ _ hm
 obtain⟨D1,hD1⟩:∃D:Sl Int,Hd ρA 0 W (.c (dO D)) (.slice a1 len1 cap1):=by
  obtain⟨fuel,hf⟩:=h1
  obtain⟨D,⟨hl,_⟩,_⟩:=aTu (e:=1) (C:=λz:Int=>[iC z]) underlying38 (by kernel_rfl) bL (λ_=>rfl) (λ_=>wH rfl) 0 aIq (λ_ _ _ _ _=>trivial) _ _ _ hf
  exact⟨D,.c hl.1⟩
 obtain⟨a2,rfl,rfl,rfl,w2⟩:=open_int underlying3 (hval 2 3 v2 rfl rfl) h2
 clear hA0 hval0
 refine((bGh D0 D1 a2).run ρA W [.slice a0 len0 cap0,.slice a1 len1 cap1,.int .i64 a2] ⟨hD0,hD1,.c (Rc.v _),trivial⟩ ⟨λi T es l hi=>(by cases hi),λi j b hi=>absurd hi (Nat.not_lt_zero _),λi b _ hi=>absurd hi (Nat.not_lt_zero _),Nat.le_refl _,⟨rfl,rfl,rfl,Nat.le_refl _,λ_ _ _ _=>rfl⟩,λi hi=>rfl,⟨rfl,λ_ _=>trivial⟩,FamOk.nil,λb hb=> .inr hb⟩ rfl).mono λe W' ⟨v,he,g,ρ',_,hDr,hdv,_,_⟩=>?_
 have hr:=hDr.rel
 have bel:Below W.heap.size W W':=⟨hr.os,hr.tape,hr.output,hr.size,λk hk=>hr.block k hk (λi hi=>absurd hi (Nat.not_lt_zero _)) λ⟨F,hF,_⟩=>by cases hF⟩
 have hv:v= .bool true:=by
  have h5:=hdv.inv_c.inv_b
  rw[h5]
  simp
 subst he hv
 exact⟨_,rfl,_,_,_,[],_,[],hW',trodAll_mk1 (shut_bool underlying4 _),(trodAll_cons_mk (Below.trod aIr (by kernel_rfl) (of_decide_eq_true (by kernel_rfl)) k0 bel lt0) (trodAll_cons_mk (Below.trod aIr (by kernel_rfl) (of_decide_eq_true (by kernel_rfl)) k1 bel lt1) (trodAll_cons_mk (shut_int underlying3 w2) trodAll_mk0))),rfl,bel.frame _,λh=>by cases h⟩
theorem bQv:Rows.updateUndoRow.holds Tryz.pinned (OpenSpec.ofChange Rows.updateUndoSpec):=
 OpenClaim.holds_of_wide 4 Tryz.f4 rfl rfl rfl rfl rfl rfl rfl ⟨rfl,rfl,rfl,rfl,rfl⟩ rfl rfl rfl rfl rfl (by kernel_rfl) func4 (by kernel_rfl)
  (of_decide_eq_true (by kernel_rfl)) (by unfold Func.isWrapper;first|(rw[if_pos (by decide+kernel)];kernel_rfl)|(rw[if_neg (by decide+kernel)];exact⟨rfl,rfl⟩))
  (λos started H enc _=>bGj os started H enc)
theorem proved:Rows.UpdateUndoSaid:=bQv
#print axioms proved
end updateUndoDone
end Go.Proofs.YtlhdigjbokkbiaaGreat
