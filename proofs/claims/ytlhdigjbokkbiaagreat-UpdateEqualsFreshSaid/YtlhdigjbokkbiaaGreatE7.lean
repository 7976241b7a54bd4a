/- For every input the law UpdateEqualsFresh returns true, and what came in reads as it did. Part 7 of 7: Si Sj Sk Sl Sm Sn So Ja Sp Sq Sr Sy Je Sz Jb Jc Jd Ss St Su Sv Sw Jf Jg Zv. -/
import Derived.Test.YtlhdigjbokkbiaaGreatRows
import Derived.WalkKit
import Derived.ProofKit
import Derived.OpenShut
import Derived.JoinedCond
import Derived.ShutString
import Derived.ChangeOld
import Derived.Below
import Derived.Deep.SlicePairs
import Derived.Test.YtlhdigjbokkbiaaGreatE6
set_option maxHeartbeats 4000000
set_option linter.unusedVariables false
set_option linter.unusedSimpArgs false
namespace Go.Proofs.YtlhdigjbokkbiaaGreat
open Go.Vg _root_.Go.Proofs.Tryz
open Go.Vm hiding sg sg_t sg_f sg_abs sg_add sg_mul dQ cK dR gF
open Go.Vy hiding val
set_option maxRecDepth 8000
def prT (q:Nat->List Nat->Tr->Tr):Nat->List Nat->Tr->Tr
 |0,_,t=>t
 |f+1,l,t=>l.foldr (λi r=> .alt i (q i (l.erase i) (prT q f (l.erase i) t)) r) .nil
def cDm:Nat->Tr->Tr
 |7,t=> .alt 2008 t .nil
 |12,t=> .alt 2013 t .nil
 |_,t=>t
def cDn (i:Nat) (l:List Nat) (t:Tr):Tr:=cDm i (bif (l.filter λj=>!Nat.beq j 15).isEmpty&&!Nat.beq i 15 then .alt 2014 t .nil else t)
theorem gs0 {nb:Nat} {s:SS} {σ:Type} {S:σ->SS} {C:σ->Prop} (t i:Nat) {n:Nat} (_:iM s.sl t=some (.c (.s i n))) (h:Gt nb s S C):Gt nb s S C:=h
def bd (B:Nat):Nat->Nat
 |0=>B
 |k+1=>4*bd B k+1
theorem aOc {B k n:Nat} (h:k<=n):bd B k<=bd B n:=by
 induction h with
 |refl=>exact aI _
 |step _ ih=>exact bA ih (by show _<=4*bd B _+1;omega)
theorem aQz {B:Nat} (h:1<=B) (k:Nat):1<=bd B k:=bA h (aOc (aF k))
theorem ElOk.cg {x:El} {n:Nat} {es lw:Nat->List En} {u v:Nat->Prop} (h:ElOk x n es lw u) (hu:∀i,u i↔v i):ElOk x n es lw v:=⟨h.row,h.ok,h.low,h.ca,h.nd,λj hj i=>by rw[h.mem j hj i,hu i]⟩
structure LuM where
 R:Sl Int
 K:Sl Int
 L:MatM
 U:MatM
abbrev LuM.C (f:LuM):List CV:=[kI f.R,kI f.K,iC f.L.r,iC f.L.c,qX f.L.d,iC f.U.r,iC f.U.c,qX f.U.d]
abbrev luZ:List CV:=[.v (.slice none 0 0),.v (.slice none 0 0),iC 0,iC 0,.v (.slice none 0 0),iC 0,iC 0,.v (.slice none 0 0)]
abbrev ioC (n:Nat) (f:Nat->Nat):List CV:=fX n λj=>iC (f j:Nat)
abbrev bJx (m:MatM) (n:Nat) (r:BL):BL:=[(24,0,m.C),(67,0,luZ),(3,1,List.replicate n (iC 0)),(3,1,List.replicate n (iC 0)),(54,1,List.replicate n (.v (.slice none 0 0))),(54,1,List.replicate n (.v (.slice none 0 0))),(67,0,[.s 2 n,.s 3 n,iC n,iC n,.s 4 n,iC n,iC n,.s 5 n])]++r
abbrev bJy (n:Nat):List (Nat×DV):=[(5,.c (.p 6 0)),(4,.c (iC n)),(1,.c (.p 0 0)),(2,.c (.p 1 0))]
def cDo:Ord:=.joinX [] [2000,2002,2004,2005,2006,2009,2010,2011] (prT cDn 5 [1,3,7,12,15] (trS [1016]))
structure FaI (M:Nat->List En) (B n k:Nat) (x:El) (es lw:Nat->List En) (A:List Int) (rw cl pl:Nat->Nat):Prop where
 hk:k<=n
 he:Elim M n k rw cl A es lw
 hx:ElOk x n es lw (λi=>∃t,t<k/\rw t=i)
 be:rbM es n (bd B k)
 bl:rbM lw n (bd B k)
 hp:∀j,j<k->pl (cl j)=j
structure FaG where
 k:Nat
 x:El
 es:Nat->List En
 lw:Nat->List En
 A:List Int
 rw:Nat->Nat
 cl:Nat->Nat
 pl:Nat->Nat
abbrev faB (m:MatM) (n a:Nat) (x:El) (A:List Int) (rw cl pl:Nat->Nat):BL:=[(24,0,m.C),(67,0,luZ),(3,1,ioC n rw),(3,1,ioC n cl),(54,1,List.replicate n (.v (.slice none 0 0))),(54,1,List.replicate n (.v (.slice none 0 0))),(67,0,[.s 2 n,.s 3 n,iC n,iC n,.s 4 n,iC n,iC n,.s 5 n]),(3,1,ioC n pl),(24,0,m.C),elR n x,elL n x,elC n x,elA A,elE 9 10 11 12 n a]
theorem bEu {m:MatM} {n a:Nat} {x:El} {A:List Int} {rw cl pl:Nat->Nat}:scB 14 (faB m n a x A rw cl pl):=aD rfl (aD rfl (aD (cZ (bE λ_ _=>rfl)) (aD (cZ (bE λ_ _=>rfl)) (aD (cZ (sQ rfl)) (aD (cZ (sQ rfl)) (aD rfl (aD (cZ (bE λ_ _=>rfl)) (aD rfl (aD (cZ (bE λ_ _=>rfl)) (aD (cZ (bE λ_ _=>rfl)) (aD (cZ (bE λ_ _=>rfl)) (aD (cZ (gP _)) (aD rfl bM)))))))))))))
abbrev faG (n k:Nat):List (Nat×DV):=[(46,.c (iC k)),(45,.c (iC n)),(7,.c (.p 13 0)),(5,.c (.p 6 0)),(6,.c (.s 7 n)),(2,.c (.p 1 0))]
theorem aRa {n k:Nat} {c1 c2:CV} (h1:(List.replicate n (iC 0))[k]? =some c1) (h2:(ioC n λ_=>0)[k]? =some c2):LeC c1 c2:=xJ (λ_ _=>LeC.refl _) k c1 c2 h1 h2
theorem aRb {n j v:Nat} {f:Nat->Nat} (h:j<n):oG (ioC n f) (j*1) [iC (v:Nat)]=ioC n (upd f j v)/\j*1+1<=(ioC n f).length:=oW h λi _=>by
 by_cases e:i=j
 ·subst e;rw[if_pos rfl,cN]
 rw[if_neg e,cJ e]
def cDp (n:Nat) (x:El) (A:List Int):Option (Nat×Nat×Nat)->OutF
 |none=>⟨.t [.c (iC 0),.c (iC 0),.c (.v (.bool false))],chB n A.length x A,[CF n x],∃c:Nat,c<n/\(c:Int)∈A/\x.I c=[]⟩
 |some (r,c,p)=>⟨.t [.c (iC r),.c (iC c),.c (.v (.bool true))],chB n (A.eraseIdx p).length x (A.eraseIdx p),[CF n x],(p<A.length/\A.getD p 0=(c:Nat))/\c<n/\r∈mT (x.I c)⟩
theorem aWl (x:El) {n:Nat} {A:List Int} {es lw:Nat->List En} {used:Nat->Prop} (h:ElOk x n es lw used) (h0:0<A.length) (hl:A.length<=4096) (hA:∀a∈A,0<=a/\a<(n:Nat)):CtrF Tryz.prog aCp chL [.c (.p 0 0)] (chB n A.length x A) [CF n x] (cDp n x A):=(bEf x h h0 hl hA).re λg hg=>⟨g,by
 match g,hg with
 |none,hg=>exact⟨hg,rfl,rfl,rfl⟩
 |some (r,c,p),hg=>
  refine⟨hg,rfl,?_,rfl⟩
  show chB n _ x _=chB n _ x _
  rw[uH hg.1.1]⟩
def bYo:Ord:=.treeX [] [2000,1,2002,2003,4,2005,2006,2007,2008,2009,2010] (trS [2011,12,2013,14,2015,1016])
theorem bLy {n:Nat} {f:Nat->Nat} (j:Nat) (h:j<n):[iC ((nL n f).getD j 0)]=((ioC n f).drop (j*1)).take 1:=by
 have h1:=iW (P:=λj=>iC (f j:Nat)) h
 rw[dF] at h1
 rw[aAm h,dF,fR (by rw[eX];exact h)]
 rw[aK (by rw[eX];exact h)] at h1
 injection h1 with h1
 rw[h1];rfl
theorem aUe {T n c:Nat} {A:Option Nat} {f:Nat->Nat}:FrC ⟨T,1,1,λ_=>A,λ_=>c,λ_=>ioC n f⟩ (.h A n c) (kI ⟨A.map λb=>⟨b,0,none⟩,c,nL n f⟩):=⟨0,n,λj=>[iC ((nL n f).getD j 0)],bL,rfl,by unfold kI Sl.R;rw[bV,oK],by rw[eX,dF],λk hk=>bLy k hk⟩
structure FbG where
 k:Nat
 LA:Nat->Option Nat
 Lc:Nat->Nat
 G:Nat->List EntM
 HA:Nat->Option Nat
 Hn:Nat->Nat
 Hc:Nat->Nat
 S:Nat->Sl EntM
 Up:Nat->List En
structure FbI (n:Nat) (x:El) (es lw:Nat->List En) (rw pl:Nat->Nat) (g:FbG):Prop where
 hk:g.k<=n
 hu:∀j,j<g.k->Ek (g.S j).l (g.Up j)/\Asc (g.Up j)/\(g.Up j).Perm ((es (rw j)).map (rnE (nL n pl)))
 hd:∀j,j<g.k->(g.LA (rw j)=g.HA j/\g.Lc (rw j)=g.Hc j/\(g.G (rw j)).length=g.Hn j)/\Ek (g.G (rw j)) (lw (rw j)++[((j:Int),1)])
 hr:∀i,i<n->(∀t,t<g.k->rw t≠i)->g.LA i=x.LA i/\g.Lc i=x.Lc i/\g.G i=x.L i
abbrev fbH (g:FbG):Nat->CV:=λj=> .h (g.HA j) (g.Hn j) (g.Hc j)
abbrev fbB (m:MatM) (n a:Nat) (x:El) (A:List Int) (rw cl:Nat->Nat) (g:FbG):BL:=[(24,0,m.C),(67,0,luZ),(3,1,ioC n rw),(3,1,ioC n cl),(54,1,fX n (fbH g)),(54,1,fX n λj=>cR (g.S j)),(67,0,[.s 2 n,.s 3 n,iC n,iC n,.s 4 n,iC n,iC n,.s 5 n]),(3,1,[]),(24,0,m.C),elR n x,elL n x,elC n x,elA A,elE 9 10 11 12 n a]
theorem bEv {m:MatM} {n a:Nat} {x:El} {A:List Int} {rw cl:Nat->Nat} {g:FbG}:scB 14 (fbB m n a x A rw cl g):=aD rfl (aD rfl (aD (cZ (bE λ_ _=>rfl)) (aD (cZ (bE λ_ _=>rfl)) (aD (cZ (bE λ_ _=>rfl)) (aD (cZ (bE λ_ _=>rfl)) (aD rfl (aD rfl (aD rfl (aD (cZ (bE λ_ _=>rfl)) (aD (cZ (bE λ_ _=>rfl)) (aD (cZ (bE λ_ _=>rfl)) (aD (cZ (gP _)) (aD rfl bM)))))))))))))
abbrev fbF (n:Nat) (x:El) (g:FbG):List Fam:=[⟨65,4,n,g.LA,g.Lc,λj=>ecs (g.G j)⟩,CF n x]
abbrev fbS (n:Nat) (P:Sl Int) (k:Nat):List (Nat×DV):=[(81,.c (iC k)),(79,.c (.s 2 n)),(80,.c (iC n)),(7,.c (.p 13 0)),(5,.c (.p 6 0)),(6,.c (kI P)),(2,.c (.p 1 0))]
def bYp:Ord:=.treeX [] [2000,2001,2,2003,2004,2005,2006,7,2008,2009,1010,2011] (trS [12,2013,14,15,2016,1017])
def bYq:Ord:=.treeX [] [2000,2001,2,2003,2004,2005,2006,7,2008,2009,1010,2011] (trS [12,2013,2014,2015,2016,1017])
theorem cm {i:Nat} {l:List CV} (h:∀c∈l,iP c=true):∀c∈l,nA i c=false:=λc hc=>jV (h c hc)
theorem sk {i a:Nat} {A:Option Nat} {l:List CV} (h:∀c∈l,iP c=true):l.map (tD i A a)=l:=(fV λc hc=>bCt c (h c hc)).trans (List.map_id _)
theorem aRc {B:Nat} (h:1<=B):rb 1 B:=⟨by show len 1<=B;rw[show len 1=1 by decide];omega,by show len 1<=B;rw[show len 1=1 by decide];omega⟩
theorem bEw {l:List En} {k n:Nat} (h:VOk l (k:Nat)) (hk:k<n):VOk (l++[((k:Int),1)]) (n:Nat):=⟨hH.2 ⟨h.1,gG _ _,λa ha b hb=>by rw[aT.1 hb];exact(h.2 a ha).2.1⟩,λe he=>by
 rcases bB.1 he with he|he
 ·have:=h.2 e he;exact⟨this.1,by omega,this.2.2⟩
 rw[aT.1 he];exact⟨by show(0:Int)<=(k:Nat);omega,by show(k:Int)<(n:Nat);omega,show(1:Rat)≠0 by decide⟩⟩
abbrev bEx:FuncId:=30
theorem bYr:Ent Tryz.prog bEx:=bI func30 rfl kR
theorem bYs:Tryz.prog.funcs[bEx]? =some Tryz.f30:=func30
theorem bEy (m:MatM) {M:Nat->List En} {n B:Nat} (h:Mx m M n) (hb:rbM M n B) (h1:1<=B) (hB:bd B n<=17179869184) (hn:n<=12):Ctr Tryz.prog bEx [] [.a m.C] [] (λg:Option (LuM×(Nat->Nat)×(Nat->Nat)×(Nat->List En)×(Nat->List En))=>match g with
 |none=>⟨.t [.a luZ,.c (iC 6)],[],Ker M n⟩
 |some (f,rw,cl,Lw,Up)=>⟨.t [.a f.C,.c (iC 0)],[],(f.R.l=nL n rw/\f.K.l=nL n cl/\Mx f.L Lw n/\Mx f.U Up n)/\LuOk M n rw cl Lw Up/\rbM Lw n (bd B n)/\rbM Up n (bd B n)⟩):=by
 obtain⟨mr,mc,md⟩:=m
 obtain rfl:mr=(n:Nat):=h.r
 obtain rfl:mc=(n:Nat):=h.c
 have hBB:B<=17179869184:=bA (aOc (aF n)) hB
 have mk1:n<=maxLen:=by simp only[maxLen];omega
 have fin1:∀(sl:List (Nat×DV)),yM (λ_=>true) [] [] [] sl->AllC sl (bJy n)->Gt 0 ⟨sl,[],bJx ⟨n,n,md⟩ n [],[]⟩ (σ:=Unit) (λ_=>⟨bJy n++[],[],bJx ⟨n,n,md⟩ n [],[]⟩) (λ_=>True):=λsl ht ha=>by
  refine @dG 0 _ (λ_=>true) [] (λt d ht=>by cases ht) Unit (λ_=>bJy n) (λ_=>bJx ⟨n,n,md⟩ n []) (λ_=>[]) _ () trivial ht ?_ trivial ha (aF _) ?_ rfl
  ·exact⟨rfl,rfl,rfl,rfl,rfl,rfl,rfl⟩
  exact aD rfl (aD rfl (aD (cZ (sQ rfl)) (aD (cZ (sQ rfl)) (aD (cZ (sQ rfl)) (aD (cZ (sQ rfl)) (aD rfl bM))))))
 refine cY gT bYr bYs rfl rfl rfl bL cD (aC gT mxd ⟨[],aQj _ h hb hBB oM,rfl,rfl,rfl,λ_ _=>⟨λhh=>absurd trivial hh,λ_=>aC gT mxd ⟨λhh=>absurd rfl hh,λ_=>aC gT mxd ?_⟩⟩⟩)
 refine⟨cDo,by kernel_rfl,Unit,λ_=>⟨bJy n++[],[],bJx ⟨n,n,md⟩ n [],[]⟩,λ_=>True,?_,λ_ _=>?_⟩
 ·refine⟨?_,?_,?_,?_,?_⟩
  all_goals (first|refine⟨n,⟨rfl,rfl,by show 8*n<=_;omega,mk1⟩,rfl,?_⟩|refine⟨n,⟨rfl,rfl,by show 24*n<=_;omega,mk1⟩,rfl,?_⟩|refine⟨rfl,?_⟩)
  all_goals refine⟨?_,?_,?_,?_⟩
  all_goals (first|refine⟨n,⟨rfl,rfl,by show 8*n<=_;omega,mk1⟩,rfl,?_⟩|refine⟨n,⟨rfl,rfl,by show 24*n<=_;omega,mk1⟩,rfl,?_⟩|refine⟨rfl,?_⟩)
  all_goals refine⟨?_,?_,?_⟩
  all_goals (first|refine⟨n,⟨rfl,rfl,by show 8*n<=_;omega,mk1⟩,rfl,?_⟩|refine⟨n,⟨rfl,rfl,by show 24*n<=_;omega,mk1⟩,rfl,?_⟩|refine⟨rfl,?_⟩)
  all_goals refine⟨?_,?_⟩
  all_goals (first|refine⟨n,⟨rfl,rfl,by show 8*n<=_;omega,mk1⟩,rfl,?_⟩|refine⟨n,⟨rfl,rfl,by show 24*n<=_;omega,mk1⟩,rfl,?_⟩|refine⟨rfl,?_⟩)
  all_goals (first|refine⟨n,⟨rfl,rfl,by show 8*n<=_;omega,mk1⟩,rfl,?_⟩|refine⟨n,⟨rfl,rfl,by show 24*n<=_;omega,mk1⟩,rfl,?_⟩|refine⟨rfl,?_⟩)
  all_goals (first|refine gs0 27 2 rfl ?_|refine gs0 27 3 rfl (gsw 2 3 rfl rfl bL bL rfl ⟨_,rpm aU rfl,_,rpm aU rfl,_,rpm aU rfl,_,rpm aU rfl,bL,?_⟩)|refine gs0 27 4 rfl (gsw 2 4 rfl rfl bL bL rfl ⟨_,rpm aU rfl,_,rpm aU rfl,_,rpm aU rfl,_,rpm aU rfl,bL,?_⟩)|refine gs0 27 5 rfl (gsw 2 5 rfl rfl bL bL rfl ⟨_,rpm aU rfl,_,rpm aU rfl,_,rpm aU rfl,_,rpm aU rfl,bL,?_⟩)|refine gs0 27 6 rfl (gsw 2 6 rfl rfl bL bL rfl ⟨_,rpm aU rfl,_,rpm aU rfl,_,rpm aU rfl,_,rpm aU rfl,bL,?_⟩))
  all_goals (first|refine gs0 29 3 rfl ?_|refine gs0 29 4 rfl (gsw 3 4 rfl rfl bL bL rfl ⟨_,rpm aU rfl,_,rpm aU rfl,_,rpm aU rfl,_,rpm aU rfl,bL,?_⟩)|refine gs0 29 5 rfl (gsw 3 5 rfl rfl bL bL rfl ⟨_,rpm aU rfl,_,rpm aU rfl,_,rpm aU rfl,_,rpm aU rfl,bL,?_⟩)|refine gs0 29 6 rfl (gsw 3 6 rfl rfl bL bL rfl ⟨_,rpm aU rfl,_,rpm aU rfl,_,rpm aU rfl,_,rpm aU rfl,bL,?_⟩))
  all_goals (first|refine gs0 33 4 rfl ?_|refine gs0 33 5 rfl (gsw 4 5 rfl rfl bL bL rfl ⟨_,rpm aU rfl,_,rpm aU rfl,_,rpm aU rfl,_,rpm aU rfl,bL,?_⟩)|refine gs0 33 6 rfl (gsw 4 6 rfl rfl bL bL rfl ⟨_,rpm aU rfl,_,rpm aU rfl,_,rpm aU rfl,_,rpm aU rfl,bL,?_⟩))
  all_goals (first|refine gs0 38 5 rfl ?_|refine gs0 38 6 rfl (gsw 5 6 rfl rfl bL bL rfl ⟨_,rpm aU rfl,_,rpm aU rfl,_,rpm aU rfl,_,rpm aU rfl,bL,?_⟩))
  all_goals exact fin1 _ (by rfl) (by exact⟨rfl,rfl,rfl,rfl⟩)
 refine⟨n,⟨rfl,rfl,by show 8*n<=_;omega,mk1⟩,[],bJh ⟨n,n,md⟩ h hb h1 hBB oM,rfl,rfl,rfl,λx hx=>?_⟩
 replace hx:ElOk x n M (λ_=>[]) (λ_=>False):=hx
 show Sd _ _ _ _ _ _
 refine mM tSd 2 (ioC n λ_=>0) rfl (by rw[eX,eK]) (λ_ _ _=>aRa) ?_
 refine mM tSd 3 (ioC n λ_=>0) rfl (by rw[eX,eK]) (λ_ _ _=>aRa) ?_
 refine mM tSd 7 (ioC n λ_=>0) rfl (by rw[eX,eK]) (λ_ _ _=>aRa) ?_
 refine eW (λ_=>true) (λg:FaG=>faG n g.k) (λg=>faB ⟨n,n,md⟩ n g.A.length g.x g.A g.rw g.cl g.pl) (λg=>[LF n g.x,CF n g.x]) (λg=>FaI M B n g.k g.x g.es g.lw g.A g.rw g.cl g.pl) (λg=>n-g.k) λhM=>⟨dG hM (chg:=λg:FaG=>faG n g.k) (bls:=λg=>faB ⟨n,n,md⟩ n g.A.length g.x g.A g.rw g.cl g.pl) (fls:=λg=>[LF n g.x,CF n g.x]) ⟨0,x,M,λ_=>[],aL n n,λ_=>0,λ_=>0,λ_=>0⟩ ⟨aF _,Elim.start M n _ _,hx.cg λi=>⟨False.elim,λ⟨t,ht,_⟩=>absurd ht (aV _)⟩,hb,λi _ e he=>(by cases he),λj hj=>absurd hj (aV _)⟩ rfl ⟨rfl,rfl,rfl,rfl,rfl,rfl,rfl,rfl,rfl,rfl,rfl,rfl,rfl,?_⟩ ⟨rfl,rfl,trivial⟩ ⟨rfl,rfl,rfl,rfl,rfl,rfl⟩ bL bEu rfl,λ⟨k,x,es,lw,A,rw,cl,pl⟩ hI=>aC gT mxd ⟨λh2=>aC gT mxd ?_,λh2=>aC gT mxd ?_⟩⟩
 ·show elE 9 10 11 12 n n=elE 9 10 11 12 n (aL n n).length
  rw[bDy];simp
 ·replace h2:(k:Int)<(n:Nat):=h2
  have hkn:k<n:=by omega
  obtain⟨-,he,hx,hbe,hbl,hpp⟩:=hI
  replace he:Elim M n k rw cl A es lw:=he
  replace hx:ElOk x n es lw (λi=>∃t,t<k/\rw t=i):=hx
  replace hbe:rbM es n (bd B k):=hbe
  replace hbl:rbM lw n (bd B k):=hbl
  replace hpp:∀j,j<k->pl (cl j)=j:=hpp
  have hAl:=he.kn
  have hA:∀a∈A,0<=a/\a<(n:Nat):=λa ha=>by
   obtain⟨j,rfl,hj,_⟩:=(he.mem a).1 ha
   omega
  refine⟨[13,9,10,11,12,1001],aWl x hx oM oM hA,rfl,rfl,rfl,λg hg=>?_⟩
  match g,hg with
  |none,⟨c,hc,hcA,hI⟩=>
   have hker:Ker M n:=he.ker hcA λi hi hu=>fS λhne=>by
    have:=(hx.mem c hc i).2 ⟨⟨hi,λ⟨t,ht,e⟩=>hu t ht e⟩,hne⟩
    rw[hI] at this
    cases this
   exact⟨none,hker,cM ⟨rfl,rfl⟩ rfl trivial⟩
  |some (r,c,p),⟨⟨hp,hc⟩,hcn,hrk⟩=>
   obtain⟨⟨hr,hu⟩,hpv⟩:=(hx.mem c hcn r).1 hrk
   have hbb:bd B (k+1)<=17179869184:=bA (aOc hkn) hB
   refine⟨bYo,by kernel_rfl,k,⟨rfl,hkn,fU hkn⟩,_,aRb hkn,rfl,k,⟨rfl,hkn,fU hkn⟩,_,aRb hkn,rfl,c,⟨rfl,hcn,fU hcn⟩,_,aRb hcn,?_⟩
   refine⟨[13,9,10,11,12,1000,1001],bRq x (A:=A.eraseIdx p) (kk:=k) hx oM hr hu hcn hpv hbe hbl (aQz h1 k) hbb oM (λi hi=>by have:=nU (he.lok i hi);omega),rfl,rfl,rfl,λ⟨x',es',lw'⟩ ⟨⟨hx',hS⟩,hbe',hbl'⟩=>?_⟩
   replace hu:∀t,t<k->rw t≠r:=λt ht e=>hu ⟨t,ht,e⟩
   have he':=he.next hr hu hp hc hpv hS λi=>qD
   refine⟨(k+1:Nat),wi,dG hM (chg:=λg:FaG=>faG n g.k) (bls:=λg=>faB ⟨n,n,md⟩ n g.A.length g.x g.A g.rw g.cl g.pl) (fls:=λg=>[LF n g.x,CF n g.x]) ⟨k+1,x',es',lw',A.eraseIdx p,upd rw k r,upd cl k c,upd pl c k⟩ ⟨⟨hkn,he',hx'.cg λi=>⟨λhh=>?_,λ⟨t,ht,e⟩=>?_⟩,hbe',hbl',λj hj=>?_⟩,show n-(k+1)<n-k by omega⟩ rfl ⟨rfl,rfl,rfl,rfl,rfl,rfl,rfl,rfl,rfl,rfl,rfl,rfl,rfl,rfl⟩ ⟨rfl,rfl,trivial⟩ ⟨rfl,rfl,rfl,rfl,rfl,rfl⟩ bL bEu rfl⟩
   ·rcases hh with ⟨t,ht,e⟩|e
    ·exact⟨t,oN ht,(cJ oM).trans e⟩
    exact⟨k,dK k,cN.trans e.symm⟩
   ·replace ht:t<k+1:=ht
    replace e:upd rw k r t=i:=e
    by_cases e2:t=k
    ·subst e2;rw[cN] at e;exact .inr e.symm
    rw[cJ e2] at e;exact .inl ⟨t,by omega,e⟩
   replace hj:j<k+1:=hj
   show upd pl c k (upd cl k c j)=j
   by_cases e2:j=k
   ·subst e2;rw[cN,cN]
   have e3:cl j≠c:=λe4=>by
    have h5:=he'.cinj j k oM oM
    rw[cJ e2,cN] at h5
    exact e2 (h5 e4)
   rw[cJ e2,cJ e3]
   exact hpp j oM
 replace h2:¬(k:Int)<(n:Nat):=h2
 obtain⟨hk,he,hx,hbe,hbl,hpp⟩:=hI
 replace hk:k<=n:=hk
 obtain rfl:n=k:=by omega
 replace he:Elim M n n rw cl A es lw:=he
 replace hx:ElOk x n es lw (λi=>∃t,t<n/\rw t=i):=hx
 replace hbe:rbM es n (bd B n):=hbe
 replace hbl:rbM lw n (bd B n):=hbl
 replace hpp:∀j,j<n->pl (cl j)=j:=hpp
 have hP:=he.all hpp
 show Sd _ _ _ _ _ _
 refine aKi 6 7 (λj=>[iC ((nL n pl).getD j 0)]) rfl rfl (λj hj=>bLy j hj) (by rw[eX,dF]) bL (bE λ_ _=>rfl) bL λPA pc _ _=>⟨cm (bE λ_ _=>rfl),cm (bE λ_ _=>rfl),cm (sQ rfl),cm (sQ rfl),cm (bE λ_ _=>rfl),cm (bE λ_ _=>rfl),cm (bE λ_ _=>rfl),cm (gP _),aC gT mxd ?_⟩
 show Sd _ _ _ _ _ _
 refine mM tSd 4 (fX n λ_=> .h none 0 0) rfl (by rw[eX,eK]) (xJ λ_ _=>LeC.nilh) ?_
 refine mM tSd 5 (fX n λ_=>cR fF) rfl (by rw[eX,eK]) (xJ λ_ _=>aIu) ?_
 have hPl:(nL n pl).length=n:=hP.ln
 obtain⟨P,hPe⟩:∃P:Sl Int,P=⟨PA,pc,nL n pl⟩:=⟨_,rfl⟩
 have hPs:CV.r PA n pc 1 (λj=>[iC ((nL n pl).getD j 0)])=kI P:=by rw[hPe];unfold kI Sl.R;rw[hPl]
 refine eW (λ_=>true) (λg:FbG=>fbS n P g.k) (λg=>fbB ⟨n,n,md⟩ n A.length x A rw cl g) (λg=>fbF n x g) (λg=>FbI n x es lw rw pl g) (λg=>n-g.k) λhM2=>⟨dG hM2 (chg:=λg:FbG=>fbS n P g.k) (bls:=λg=>fbB ⟨n,n,md⟩ n A.length x A rw cl g) (fls:=λg=>fbF n x g) ⟨0,x.LA,x.Lc,x.L,λ_=>none,λ_=>0,λ_=>0,λ_=>fF,λ_=>[]⟩ ⟨aF _,λj hj=>absurd hj (aV _),λj hj=>absurd hj (aV _),λi _ _=>⟨rfl,rfl,rfl⟩⟩ rfl ⟨rfl,rfl,rfl,rfl,rfl,rfl,rfl,rfl,rfl,rfl,rfl,rfl,rfl,rfl⟩ ⟨rfl,rfl,trivial⟩ ⟨rfl,rfl,rfl,rfl,rfl,hPs,rfl⟩ bL bEv rfl,λ⟨k,LA,Lc,G,HA,Hn,Hc,S,Up⟩ ⟨hk,hu,hd,hr⟩=>aC gT mxd ⟨λh3=>aC gT mxd ?_,λh3=>aC gT mxd ?_⟩⟩
 all_goals
  replace hk:k<=n:=hk
  replace hu:∀j,j<k->Ek (S j).l (Up j)/\Asc (Up j)/\(Up j).Perm ((es (rw j)).map (rnE (nL n pl))):=hu
  replace hd:∀j,j<k->(LA (rw j)=HA j/\Lc (rw j)=Hc j/\(G (rw j)).length=Hn j)/\Ek (G (rw j)) (lw (rw j)++[((j:Int),1)]):=hd
  replace hr:∀i,i<n->(∀t,t<k->rw t≠i)->LA i=x.LA i/\Lc i=x.Lc i/\G i=x.L i:=hr
 ·replace h3:(k:Int)<(n:Nat):=h3
  have hkn:k<n:=by omega
  obtain⟨i,hi⟩:∃i,i=rw k:=⟨_,rfl⟩
  have hin:i<n:=by rw[hi];exact he.rlt k hkn
  have hti:∀t,t<k->rw t≠i:=λt ht e=>by
   have:=he.rinj t k oM hkn (e.trans hi)
   omega
  obtain⟨r1,r2,r3⟩:=hr i hin hti
  have hlo:=hx.low i hin
  have hll:(x.L i).length=(lw i).length:=hlo.ln
  have hli:=nU (he.lok i hin)
  have hcell:(fX n (hdP x.LA x.Lc x.L))[i*1]? =some (.h (x.LA i) (x.L i).length (x.Lc i)):=iW hin
  have hcell2:(fX n λj=>cR (x.R j))[i*1]? =some (cR (x.R i)):=iW hin
  refine⟨k,⟨rfl,hkn,fU hkn⟩,_,(iW hkn).trans (by rw[<-hi]),?_⟩
  refine⟨bYp,by kernel_rfl,i,⟨rfl,hin,fU hin⟩,_,_,⟨hcell,rfl⟩,[],aFa (z:=1) dC,rfl,rfl,rfl,λq hq=>⟨ck (congrArg qF hcell) (ck rfl (ck rfl rfl)),ck (congrArg qF hcell) (ck rfl (ck rfl rfl)),0,i,⟨rfl,hin,r1,r2,?_,?_,?_,?_⟩,λA' c'=>⟨ck (congrArg qF hcell) (ck rfl (ck rfl rfl)),k,⟨rfl,hkn,fU hkn⟩,_,oW (c:=.h A' ((x.L i).length+1) c') (Q:=λj=> .h (upd HA k A' j) (upd Hn k ((x.L i).length+1) j) (upd Hc k c' j)) hkn (λj _=>?_),?_⟩⟩⟩
  ·show(x.L i).length*4=(ecs (G i)).length
   rw[jP,r3]
  ·show(x.L i).length+1<=maxLen
   simp only[maxLen]
   omega
  ·show((x.L i).length+1)*64<=_
   omega
  ·intro c' hc'
   rcases bJ.1 hc' with rfl|hc'
   ·rfl
   exact gY _ c' hc'
  ·by_cases e:j=k
   ·subst e;rw[if_pos rfl,cN,cN,cN]
   rw[if_neg e,cJ e,cJ e,cJ e]
  have hPP:PmL P.l n:=by rw[hPe];exact hP
  refine⟨bYq,by kernel_rfl,i,⟨rfl,hin,fU hin⟩,_,_,⟨hcell2,rfl⟩,[],bSc (x.R i) P (hx.row i hin) (hbe i hin) (aQz h1 n) hB (hx.ok i hin).1 hn hPP,rfl,rfl,rfl,λy ⟨rs,y1,y2,y3⟩=>⟨ck (congrArg qF hcell2) (ck rfl (ck rfl rfl)),k,⟨rfl,hkn,fU hkn⟩,_,oW (c:=cR y) (Q:=λj=>cR (upd S k y j)) hkn (λj _=>?_),(k+1:Nat),wi,dG hM2 (chg:=λg:FbG=>fbS n P g.k) (bls:=λg=>fbB ⟨n,n,md⟩ n A.length x A rw cl g) (fls:=λg=>fbF n x g) ⟨k+1,upd LA i A',upd Lc i c',upd G i (G i++[(⟨k,q⟩:EntM)]),upd HA k A',upd Hn k ((x.L i).length+1),upd Hc k c',upd S k y,upd Up k rs⟩ ⟨⟨hkn,λj hj=>?_,λj hj=>?_,λi' hi' ht'=>?_⟩,show n-(k+1)<n-k by omega⟩ rfl ⟨rfl,rfl,rfl,rfl,rfl,rfl,rfl,rfl,rfl,rfl,rfl,rfl,rfl,rfl⟩ ⟨aLe (T:=65) (n:=n) (A:=upd LA i A') (cap:=upd Lc i c') (G:=G) (j:=i) (e:=⟨k,q⟩),rfl,trivial⟩ ⟨rfl,rfl,rfl,rfl,rfl,rfl,rfl⟩ bL bEv rfl⟩⟩
  ·by_cases e:j=k
   ·subst e;rw[if_pos rfl,cN]
   rw[if_neg e,cJ e]
  ·replace hj:j<k+1:=hj
   show Ek (upd S k y j).l (upd Up k rs j)/\Asc (upd Up k rs j)/\(upd Up k rs j).Perm _
   by_cases e:j=k
   ·subst e
    rw[cN,cN,<-hi]
    refine⟨y1,y2,?_⟩
    rw[hPe] at y3
    exact y3
   rw[cJ e,cJ e];exact hu j oM
  ·replace hj:j<k+1:=hj
   show(upd LA i A' (rw j)=upd HA k A' j/\upd Lc i c' (rw j)=upd Hc k c' j/\(upd G i (G i++[(⟨k,q⟩:EntM)]) (rw j)).length=upd Hn k _ j)/\Ek (upd G i (G i++[(⟨k,q⟩:EntM)]) (rw j)) _
   by_cases e:j=k
   ·subst e
    rw[<-hi]
    simp only[cN]
    rw[r3]
    exact⟨⟨trivial,trivial,by rw[aP];rfl⟩,aQx hlo rfl hq⟩
   have e2:=hti j oM
   rw[cJ e,cJ e,cJ e,cJ e2,cJ e2,cJ e2]
   exact hd j oM
  replace ht':∀t,t<k+1->rw t≠i':=ht'
  have e2:i'≠i:=λe=>ht' k oM (by rw[e,hi])
  show upd LA i A' i'=_/\upd Lc i c' i'=_/\upd G i _ i'=_
  rw[cJ e2,cJ e2,cJ e2]
  exact hr i' hi' λt ht=>ht' t oM
 replace h3:¬(k:Int)<(n:Nat):=h3
 obtain rfl:n=k:=by omega
 have hlu:=he.lu (Up:=Up) hpp (λi hi=>(hx.ok i hi).1) λj hj=>⟨(hu j hj).2.1,(hu j hj).2.2⟩
 obtain⟨SL,hSL⟩:∃SL:Nat->Sl EntM,SL=λj=>⟨(HA j).map λb=>⟨b,0,none⟩,Hc j,G (rw j)⟩:=⟨_,rfl⟩
 show Sd _ _ _ _ _ _
 refine xR tSd 4 0 (fX n λj=>cR (SL j)) rfl rfl rfl (by rw[eX,eX]) (aLd λj hj=>?_) ?_
 ·obtain⟨⟨d1,d2,d3⟩,d4⟩:=hd j hj
  refine⟨rw j,Hn j,λk=>((G (rw j)).getD k default).C,he.rlt j hj,?_,?_,?_,λq hq=>tY _ q oM⟩
  ·show CV.h (HA j) (Hn j) (Hc j)= .h (LA (rw j)) (Hn j) (Lc (rw j))
   rw[d1,d2]
  ·show cR (SL j)=CV.r ((LA (rw j)).map λb=>⟨b,0,none⟩) (Hn j) (Lc (rw j)) 4 _
   rw[hSL,d1,d2,<-d3];rfl
  show Hn j*4=(ecs (G (rw j))).length
  rw[jP,d3]
 refine aCd tSd 2 rfl bL (bE λ_ _=>rfl) bL rfl λA2 c2=>⟨_,sk (bE λ_ _=>rfl),_,sk (bE λ_ _=>rfl),_,sk (bE λ_ _=>rfl),_,rfl,_,sk (bE λ_ _=>rfl),_,sk (bE λ_ _=>rfl),_,sk (bE λ_ _=>rfl),_,sk (gP _),?_⟩
 refine xR tSd 6 2 [kI ⟨A2.map λb=>⟨b,0,none⟩,c2,nL n rw⟩,.s 3 n,iC n,iC n,.s 4 n,iC n,iC n,.s 5 n] rfl rfl rfl rfl (yS (k0:=0) rfl aUe) ?_
 refine aCd tSd 3 rfl bL (bE λ_ _=>rfl) bL rfl λA3 c3=>⟨_,rfl,_,sk (bE λ_ _=>rfl),_,sk (bE λ_ _=>rfl),_,rfl,_,sk (bE λ_ _=>rfl),_,sk (bE λ_ _=>rfl),_,sk (bE λ_ _=>rfl),_,sk (gP _),?_⟩
 refine xR tSd 6 3 [kI ⟨A2.map λb=>⟨b,0,none⟩,c2,nL n rw⟩,kI ⟨A3.map λb=>⟨b,0,none⟩,c3,nL n cl⟩,iC n,iC n,.s 4 n,iC n,iC n,.s 5 n] rfl rfl rfl rfl (yS (k0:=1) rfl aUe) ?_
 refine aCd tSd 4 rfl bL (bE λ_ _=>rfl) bL rfl λA4 c4=>⟨_,rfl,_,rfl,_,sk (bE λ_ _=>rfl),_,rfl,_,sk (bE λ_ _=>rfl),_,sk (bE λ_ _=>rfl),_,sk (bE λ_ _=>rfl),_,sk (gP _),?_⟩
 refine xR tSd 6 4 [kI ⟨A2.map λb=>⟨b,0,none⟩,c2,nL n rw⟩,kI ⟨A3.map λb=>⟨b,0,none⟩,c3,nL n cl⟩,iC n,iC n,qX ⟨A4.map λb=>⟨b,0,none⟩,c4,nD SL n⟩,iC n,iC n,.s 5 n] rfl rfl rfl rfl (yS (k0:=4) rfl aCl) ?_
 refine aCd tSd 5 rfl bL (bE λ_ _=>rfl) bL rfl λA5 c5=>⟨_,rfl,_,rfl,_,rfl,_,rfl,_,sk (bE λ_ _=>rfl),_,sk (bE λ_ _=>rfl),_,sk (bE λ_ _=>rfl),_,sk (gP _),?_⟩
 refine xR tSd 6 5 [kI ⟨A2.map λb=>⟨b,0,none⟩,c2,nL n rw⟩,kI ⟨A3.map λb=>⟨b,0,none⟩,c3,nL n cl⟩,iC n,iC n,qX ⟨A4.map λb=>⟨b,0,none⟩,c4,nD SL n⟩,iC n,iC n,qX ⟨A5.map λb=>⟨b,0,none⟩,c5,nD S n⟩] rfl rfl rfl rfl (yS (k0:=7) rfl aCl) ?_
 refine aC gT mxd ⟨some (⟨⟨A2.map λb=>⟨b,0,none⟩,c2,nL n rw⟩,⟨A3.map λb=>⟨b,0,none⟩,c3,nL n cl⟩,⟨n,n,⟨A4.map λb=>⟨b,0,none⟩,c4,nD SL n⟩⟩,⟨n,n,⟨A5.map λb=>⟨b,0,none⟩,c5,nD S n⟩⟩⟩,rw,cl,λk=>lw (rw k)++[((k:Int),1)],Up),⟨⟨rfl,rfl,?_,?_⟩,hlu,?_,?_⟩,cM ⟨rfl,rfl⟩ rfl trivial⟩
 ·refine⟨rfl,rfl,rO,λj hj=>?_,λj hj=>?_⟩
  ·show Ek ((nD SL n).getD j fF).l _
   rw[wO hj,hSL];exact(hd j hj).2
  have:=bEw (he.lus j hj) hj
  exact⟨this,nU this⟩
 ·refine⟨rfl,rfl,rO,λj hj=>?_,λj hj=>?_⟩
  ·show Ek ((nD S n).getD j fF).l _
   rw[wO hj];exact(hu j hj).1
  have:=bEs hP (hx.ok _ (he.rlt j hj)).1 (hu j hj).2.1 (hu j hj).2.2
  exact⟨this,nU this⟩
 ·intro j hj e hem
  rcases bB.1 hem with hem|hem
  ·exact hbl _ (he.rlt j hj) e hem
  rw[aT.1 hem];exact aRc (aQz h1 n)
 intro j hj e hem
 obtain⟨e',he',rfl⟩:=cP.1 ((hu j hj).2.2.mem_iff.1 hem)
 exact hbe _ (he.rlt j hj) e' he'
theorem bSd (r s:RatM) {a:Rat} (hr:Rq r a 17179869184) (hs:Rq s a 17179869184):Ctr Tryz.prog bLk [] [.a r.C,.a s.C] [] (λ_:Unit=>⟨.c (iC 0),[],True⟩):=by
 refine⟨bVo,cD,λρ w vals hv hD hF=>?_⟩
 match vals,hv with
 |[v1,v2],⟨h1,h2,_⟩=>
  obtain⟨vn,vd,rfl,s1,s2⟩:=yQ h1
  obtain⟨un,ud,rfl,t1,t2⟩:=yQ h2
  exact(W.q_compare s1 hr.n.lm hr.n.ln s2 hr.ld hr.bd (aEk hr) t1 hs.n.lm hs.n.ln t2 hs.ld hs.bd (aEk hs)).mono λe w' ⟨v,he,hp,hx⟩=>⟨v,he,aHf hD hF hx (by rw[hp];unfold W.cmpQ;rw[if_neg (by grind),if_neg (by grind)])⟩
abbrev fpG (g:Sl Int) (n k:Nat):List (Nat×DV):=[(16,.c (iC k)),(14,.c (kI g)),(15,.c (iC n)),(1,.c (iC n)),(5,.c (.s 0 n))]
abbrev bEz:FuncId:=143
theorem bYt:Ent Tryz.prog bEz:=bI func143 rfl kR
theorem bYu:Tryz.prog.funcs[bEz]? =some Tryz.f143:=func143
theorem bFa (g:Sl Int) {n:Nat} (hp:PmL g.l n) (hn:n<=4096):Ctr Tryz.prog bEz [] [.c (kI g),.c (iC n)] [] (λ_:Unit=>⟨.c (.v (.bool true)),[],True⟩):=by
 obtain rfl:g.l.length=n:=hp.ln
 refine cY gT bYt bYu rfl rfl rfl bL cD (aC gT mxd ⟨λh=>absurd rfl h,λ_=>aC gT mxd ⟨g.l.length,⟨rfl,rfl,by show 1*g.l.length<=_;omega,by simp only[maxLen];omega⟩,?_⟩⟩)
 show Sd _ _ _ _ _ _
 refine mM tSd 0 (fX g.l.length (bw λ_=>false)) rfl (by rw[eX,eK]) (xJ λ_ _=>LeC.refl _) ?_
 refine eW (λ_=>true) (λu:Nat×(Nat->Bool)=>fpG g g.l.length u.1) (λu=>ipB g.l.length u.2) (λ_=>[]) (λu=>u.1<=g.l.length/\SnP g.l u.1 u.2) (λu=>g.l.length-u.1) λhM=>⟨dG hM (chg:=λu:Nat×(Nat->Bool)=>fpG g g.l.length u.1) (bls:=λu=>ipB g.l.length u.2) (fls:=λ_=>[]) (0,λ_=>false) ⟨aF _,λj hj=>by cases hj⟩ rfl rfl trivial ⟨rfl,rfl,rfl,rfl,rfl⟩ bL aLm rfl,λ⟨k,s⟩ ⟨hk,hs⟩=>aC gT mxd ⟨λh2=>aC gT mxd ?_,λh2=>aC gT mxd ?_⟩⟩
 all_goals
  replace hk:k<=g.l.length:=hk
  replace hs:SnP g.l k s:=hs
 ·replace h2:(k:Int)<(g.l.length:Nat):=h2
  have hkl:k<g.l.length:=by omega
  obtain⟨m,hm,hmn⟩:=hp.at' k hkl
  have hf:=hs.not hp hkl hm
  have hc:(fX g.l.length (bw s))[m*1]? =some (tW (.bool false)):=(iW hmn).trans (by unfold bw;rw[hf];rfl)
  refine⟨k,⟨rfl,hkl⟩,m,λhq=>⟨hm,hmn,fU hmn⟩,_,λhq=>hc,?_⟩
  refine⟨λh3=>?_,λh3=>aC gT mxd ⟨m,⟨hm,hmn,fU hmn⟩,_,bEm hmn,(k+1:Nat),wi,dG hM (chg:=λu:Nat×(Nat->Bool)=>fpG g g.l.length u.1) (bls:=λu=>ipB g.l.length u.2) (fls:=λ_=>[]) (k+1,upd s m true) ⟨⟨hkl,hs.next hm⟩,show g.l.length-(k+1)<g.l.length-k by omega⟩ rfl rfl trivial ⟨rfl,rfl,rfl,rfl,rfl⟩ bL aLm rfl⟩⟩
  replace h3:(g.l.getD k 0<0\/((g.l.length:Nat):Int)<=g.l.getD k 0)\/(false=true):=h3
  rcases h3 with h3|h3
  ·omega
  cases h3
 exact aC gT mxd ⟨(),trivial,cM rfl rfl trivial⟩
structure LuG (f:LuM) (M:Nat->List En) (n:Nat) (rw cl:Nat->Nat) (Lw Up:Nat->List En) (F:Nat):Prop where
 R:f.R.l=nL n rw
 K:f.K.l=nL n cl
 L:Mx f.L Lw n
 U:Mx f.U Up n
 o:LuOk M n rw cl Lw Up
 bl:rbM Lw n F
 bu:rbM Up n F
abbrev wfB (n:Nat):BL:=[(3,0,[iC n])]
abbrev bFb:FuncId:=144
theorem bYv:Ent Tryz.prog bFb:=bI func144 rfl kR
theorem bYw:Tryz.prog.funcs[bFb]? =some Tryz.f144:=func144
theorem bLz (m:MatM) {M:Nat->List En} {n B:Nat} (h:Mx m M n) (hb:rbM M n B) (hB:B<=17179869184) (hn:n<=4096):Ctr Tryz.prog bFb [true] [.a m.C,.c (.p 0 0)] (wfB n) (λ_:Unit=>⟨pC True,wfB n,True⟩):=by
 have hr:=h.r
 have hc:=h.c
 refine cY gT bYv bYw rfl rfl rfl bL (ClB.one rfl) (aC gT mxd ⟨λhq=>?_,λhq=>?_⟩)
 ·exact⟨[],aQj m h hb hB hn,rfl,rfl,rfl,λ_ _=>⟨(),trivial,jO qD rfl bL (aD rfl bM) rfl (ClB.one rfl)⟩⟩
 exact absurd ⟨hr,hc⟩ hq
abbrev wfG (n k:Nat):List (Nat×DV):=[(37,.c (iC k)),(36,.c (iC n)),(2,.c (.p 0 0)),(6,.c (.p 2 0))]
abbrev bFc:FuncId:=119
theorem cDq:Ent Tryz.prog bFc:=bI func119 rfl kR
theorem cDr:Tryz.prog.funcs[bFc]? =some Tryz.f119:=func119
theorem bYx (f:LuM) {M:Nat->List En} {n F:Nat} {rw cl:Nat->Nat} {Lw Up:Nat->List En} (h:LuG f M n rw cl Lw Up F) (hF:F<=17179869184) (h1:1<=F) (hn:n<=4096):Ctr Tryz.prog bFc [] [.a f.C,.c (iC n)] [] (λ_:Unit=>⟨.c (.v (.bool true)),[],True⟩):=by
 have pR:PmL f.R.l n:=by rw[h.R];exact bEt h.o.rlt h.o.rinj
 have pK:PmL f.K.l n:=by rw[h.K];exact bEt h.o.clt h.o.cinj
 refine cY gT cDq cDr rfl rfl rfl bL cD (aC gT mxd ⟨[],bFa f.R pR hn,rfl,rfl,rfl,λ_ _=>⟨[],bFa f.K pK hn,rfl,rfl,rfl,λ_ _=>?_⟩⟩)
 refine⟨_,rfl,[1],bLz f.L h.L h.bl hF hn,rfl,rfl,rfl,λ_ _=>?_⟩
 refine⟨λhq=>absurd trivial hq,λ_=>⟨_,rfl,[1],bLz f.U h.U h.bu hF hn,rfl,rfl,rfl,λ_ _=>⟨λhq=>absurd trivial hq,λ_=>aC gT mxd ⟨[],aFa (z:=1) dC,rfl,rfl,rfl,λq hq=>?_⟩⟩⟩⟩
 replace hq:Cr q 1:=hq
 show Sd _ _ _ _ _ _
 refine eW (λ_=>true) (λk:Nat=>wfG n k) (λ_=>[(67,0,f.C),(3,0,[iC n]),(51,0,q.C)]) (λ_=>[]) (λk=>k<=n) (λk=>n-k) λhM=>⟨dG hM (chg:=λk:Nat=>wfG n k) (bls:=λ_=>[(67,0,f.C),(3,0,[iC n]),(51,0,q.C)]) (fls:=λ_=>[]) 0 (aF _) rfl ⟨rfl,rfl,rfl⟩ trivial ⟨rfl,rfl,rfl,rfl⟩ bL (aD rfl (aD rfl (aD rfl bM))) rfl,λk hk=>aC gT mxd ⟨λh2=>aC gT mxd ?_,λh2=>aC gT mxd ?_⟩⟩
 all_goals
  replace hk:k<=n:=hk
 ·replace h2:(k:Int)<(n:Nat):=h2
  have hkn:k<n:=by omega
  have lL:=h.L.ln
  have lU:=h.U.ln
  have eL:=h.L.row k hkn
  have eU:=h.U.row k hkn
  refine⟨.seq (sq 99 (List.range 14)),by kernel_rfl,k,⟨rfl,show k<f.L.d.l.length by omega⟩,k,⟨rfl,show k<f.U.d.l.length by omega⟩,?_⟩
  obtain⟨l,hl,hvl⟩:=h.o.low k hkn
  obtain⟨p,u,hu,hvu⟩:=h.o.up k hkn
  have ln1:(f.L.d.l.getD k fF).l.length=l.length+1:=by rw[eL.ln,hl];simp
  have ln2:0<(f.U.d.l.getD k fF).l.length:=by rw[eU.ln,hu];simp
  have e1:=eL.e l.length (by rw[hl];simp)
  have e2:=eU.e 0 (by rw[hu];simp)
  have hl2:(Lw k).getD l.length default=((k:Int),1):=by rw[hl];simp
  rw[hl2] at e1
  rw[hu] at e2
  have i1:((f.L.d.l.getD k fF).l.getD l.length default).ix=(k:Nat):=e1.1
  have i2:((f.U.d.l.getD k fF).l.getD 0 default).ix=(k:Nat):=e2.1
  have hll:=nU hvl
  have q1:Rq q 1 F:=hq.rq (aRc h1)
  have q2:Rq ((f.L.d.l.getD k fF).l.getD l.length default).v 1 F:=Cr.rq e1.2 (aRc h1)
  have ar:((l.length:Nat):Int)=IntKind.i64.wrap (((f.L.d.l.getD k fF).l.length:Nat)-1):=wi oM
  refine⟨.seq (sq 23 (List.range 26)),by kernel_rfl,(l.length:Nat),λ_=>ar,l.length,λ_=>⟨rfl,show l.length<(f.L.d.l.getD k fF).l.length by omega⟩,(l.length:Nat),λ_=>ar,l.length,λ_=>⟨rfl,show l.length<(f.L.d.l.getD k fF).l.length by omega⟩,?_⟩
  refine⟨λh3=>?_,λh3=>⟨[],bSd _ q (q2.le) (q1.le),rfl,rfl,rfl,λ_ _=>⟨λh4=>absurd rfl h4,λh4=>aC gT mxd ⟨0,λ_=>⟨rfl,ln2⟩,⟨λh5=>?_,λh5=>aC gT mxd ⟨(k+1:Nat),wi,dG hM (chg:=λk:Nat=>wfG n k) (bls:=λ_=>[(67,0,f.C),(3,0,[iC n]),(51,0,q.C)]) (fls:=λ_=>[]) (k+1) ⟨hkn,show n-(k+1)<n-k by omega⟩ rfl ⟨rfl,rfl,rfl⟩ trivial ⟨rfl,rfl,rfl,rfl⟩ bL (aD rfl (aD rfl (aD rfl bM))) rfl⟩⟩⟩⟩⟩⟩
  ·replace h3:(((f.L.d.l.getD k fF).l.length:Nat):Int)=0\/((f.L.d.l.getD k fF).l.getD l.length default).ix≠(k:Nat):=h3
   omega
  replace h5:(((f.U.d.l.getD k fF).l.length:Nat):Int)=0\/((f.U.d.l.getD k fF).l.getD 0 default).ix≠(k:Nat):=h5
  omega
 exact aC gT mxd ⟨(),trivial,cM rfl rfl trivial⟩
abbrev aUf:FuncId:=75
theorem bMa:Ent Tryz.prog aUf:=bI func75 rfl kR
theorem bMb:Tryz.prog.funcs[aUf]? =some Tryz.f75:=func75
theorem bYy (f:LuM) (b:Sl RatM) {M:Nat->List En} {n F:Nat} {rw cl:Nat->Nat} {Lw Up:Nat->List En} (h:LuG f M n rw cl Lw Up F) (hF:F<=17179869184) (h1:1<=F) (hn:n<=4096) (hb:b.l.length=n):Ctr Tryz.prog aUf [] [.a f.C,.c (gA b)] [] (λ_:Unit=>⟨.c (iC 0),[],True⟩):=by
 have hR:f.R.l.length=n:=by rw[h.R];simp
 have hw:Ctr Tryz.prog bFc [] [.a f.C,.c (iC (f.R.l.length:Nat))] [] (λ_:Unit=>⟨.c (.v (.bool true)),[],True⟩):=by rw[hR];exact bYx f h hF h1 hn
 refine cY gT bMa bMb rfl rfl rfl bL cD (aC gT mxd ?_)
 refine⟨[],hw,rfl,rfl,rfl,λ_ _=>⟨λh2=>?_,λ_=>aC gT mxd ⟨(),trivial,cM rfl rfl trivial⟩⟩⟩
 replace h2:¬((b.l.length:Nat):Int)=(f.R.l.length:Nat):=h2
 omega
def fwd (lo:Nat->List En) (b:Nat->Rat):Nat->Nat->Rat
 |0=>λ_=>0
 |i+1=>upd (fwd lo b i) i (b i-dtl (lo i) (fwd lo b i))
theorem aLn {lo:Nat->List En} {b:Nat->Rat}:∀{n:Nat},(∀k,k<n->VOk (lo k) (k:Nat))->∀k,k<n->fwd lo b n k=b k-dtl (lo k) (fwd lo b n)
 |0,_,k,h=>absurd h (aV _)
 |n+1,h,k,hk=>by
  have hc:dtl (lo k) (fwd lo b (n+1))=dtl (lo k) (fwd lo b n):=pH λe he=>by
   have:=(h k hk).2 e he
   exact cJ oM
  rw[hc]
  by_cases e:k=n
  ·subst e;exact cN
  show upd _ n _ k=_
  rw[cJ e,aLn (λk hk=>h k oM) k oM]
theorem bJz {lo:Nat->List En} {b w:Nat->Rat} {n:Nat} (h:∀k,k<n->VOk (lo k) (k:Nat)):(∀k,k<n->dtl (lo k) w+w k=b k)↔∀k,k<n->w k=fwd lo b n k:=by
 constructor
 ·intro hw k
  induction k using Nat.strongRecOn with
  |ind k ih=>
   intro hk
   rw[aLn h k hk,<-pH (x:=w) λe he=>by
    have:=(h k hk).2 e he
    exact ih e.1.toNat oM oM]
   have:=hw k hk
   grind
 intro hw k hk
 rw[hw k hk,pH (y:=fwd lo b n) λe he=>by
  have:=(h k hk).2 e he
  exact hw e.1.toNat oM,aLn h k hk]
 grind
def bwd (us:Nat->List En) (p:Nat->Rat) (n:Nat) (z:Nat->Rat):Nat->Nat->Rat
 |0=>z
 |k+1=>upd (bwd us p n z k) (n-1-k) ((bwd us p n z k (n-1-k)-dtl (us (n-1-k)) (bwd us p n z k))/p (n-1-k))
theorem aRd {us:Nat->List En} {p z:Nat->Rat} {n:Nat} (h:∀i,i<n->∀e∈us i,(i:Int)<e.1/\e.1<(n:Nat)):∀k,k<=n->(∀i,i<n-k->bwd us p n z k i=z i)/\∀i,n-k<=i->i<n->bwd us p n z k i=(z i-dtl (us i) (bwd us p n z k))/p i
 |0,_=>⟨λi _=>rfl,λi h1 h2=>by omega⟩
 |k+1,hk=>by
  obtain⟨h1,h2⟩:=aRd h k oM
  have hc:∀i,n-1-k<=i->i<n->dtl (us i) (bwd us p n z (k+1))=dtl (us i) (bwd us p n z k):=λi hi hin=>pH λe he=>by
   have:=h i hin e he
   exact cJ oM
  refine⟨λi hi=>?_,λi hi hin=>?_⟩
  ·show upd _ _ _ i=_
   rw[cJ oM];exact h1 i oM
  rw[hc i oM hin]
  show upd _ _ _ i=_
  by_cases e:i=n-1-k
  ·subst e;rw[cN,h1 _ oM]
  rw[cJ e];exact h2 i oM hin
theorem bKa {us:Nat->List En} {p y z:Nat->Rat} {n:Nat} (h:∀i,i<n->∀e∈us i,(i:Int)<e.1/\e.1<(n:Nat)) (hp:∀i,i<n->p i≠0):(∀i,i<n->p i*y i+dtl (us i) y=z i)↔∀i,i<n->y i=bwd us p n z n i:=by
 have he:=λi (hi:i<n)=>(aRd (p:=p) (z:=z) h n (aI n)).2 i oM hi
 constructor
 ·intro hy
  have key:∀d i,i<n->n-i=d->y i=bwd us p n z n i:=λd=>by
   induction d using Nat.strongRecOn with
   |ind d ih=>
    intro i hi hd
    rw[he i hi,<-pH (x:=y) λe hm=>by
     have:=h i hi e hm
     exact ih (n-e.1.toNat) oM e.1.toNat oM rfl,<-hy i hi]
    have:=hp i hi
    rw[jN,Rat.add_comm,oC]
    have e1:dtl (us i) y+p i*y i+ -dtl (us i) y=y i*p i:=by grind
    rw[e1,pX,mH _ this,nT]
  exact λi hi=>key _ i hi rfl
 intro hy i hi
 rw[hy i hi,pH (y:=bwd us p n z n) λe hm=>by
  have:=h i hi e hm
  exact hy e.1.toNat oM]
 rw[he i hi,jN]
 have:=hp i hi
 have e1:p i*((z i-dtl (us i) (bwd us p n z n))*(p i)⁻¹)=(z i-dtl (us i) (bwd us p n z n))*(p i*(p i)⁻¹):=by grind
 rw[e1,mH _ this,nT]
 grind
def Sol (M:Nat->List En) (n:Nat) (b xv:Nat->Rat):Prop:=∀x:Nat->Rat,(∀k,k<n->dtn n (M k) x=b k)↔∀c,c<n->x c=xv c
structure LuP (n:Nat) (Lw Up lo us:Nat->List En) (p:Nat->Rat):Prop where
 lo:∀k,k<n->Lw k=lo k++[((k:Int),1)]/\VOk (lo k) (k:Nat)
 us:∀k,k<n->Up k=((k:Int),p k)::us k/\(∀e∈us k,(k:Int)<e.1/\e.1<(n:Nat))/\(us k).length<=n-1-k
 p:∀k,k<n->p k≠0
theorem LuOk.parts {M:Nat->List En} {n:Nat} {rw cl:Nat->Nat} {Lw Up:Nat->List En} (h:LuOk M n rw cl Lw Up):∃lo us p,LuP n Lw Up lo us p:=by
 refine⟨λk=>(Lw k).dropLast,λk=>(Up k).tail,λk=>((Up k).headD default).2,λk hk=>?_,λk hk=>?_,λk hk=>?_⟩
 ·obtain⟨l,h1,h2⟩:=h.low k hk
  show Lw k=(Lw k).dropLast++_/\VOk (Lw k).dropLast _
  rw[h1,List.dropLast_concat];exact⟨rfl,h2⟩
 ·obtain⟨p,u,h1,h2⟩:=h.up k hk
  show Up k=(_,((Up k).headD default).2)::(Up k).tail/\_
  rw[h1] at h2 ⊢
  have hin:∀e∈u,(k:Int)<e.1/\e.1<(n:Nat):=λe he=>⟨h2.1.head e he,(h2.2 e (.tail _ he)).2.1⟩
  refine⟨rfl,hin,?_⟩
  have h3:(u.map λe:En=>(e.1-(k:Int)-1).toNat).Nodup:=by
   rw[eB,kA]
   refine h2.1.tail.imp_of_mem λ{a b} ha hb hab he=>?_
   have:=hin a ha
   have:=hin b hb
   have:a.1<b.1:=hab
   omega
  have:=wQ (n:=n-1-k) h3 λi hi=>by
   obtain⟨e,he,rfl⟩:=cP.1 hi
   have:=hin e he
   omega
  rwa [bV] at this
 obtain⟨p,u,h1,h2⟩:=h.up k hk
 show((Up k).headD default).2≠0
 rw[h1] at h2 ⊢
 exact(h2.2 _ (.head _)).2.2
theorem LuOk.sol {M:Nat->List En} {n:Nat} {rw cl:Nat->Nat} {Lw Up lo us:Nat->List En} {p:Nat->Rat} (h:LuOk M n rw cl Lw Up) (hP:LuP n Lw Up lo us p) {b xv:Nat->Rat} (hx:∀i,i<n->xv (cl i)=bwd us p n (fwd lo (λi=>b (rw i)) n) n i):Sol M n b xv:=λx=>by
 have hU:∀k,k<n->dtn n (Up k) (λi=>x (cl i))=p k*x (cl k)+dtl (us k) (λi=>x (cl i)):=λk hk=>by
  obtain⟨h1,h2,_⟩:=hP.us k hk
  rw[<-aAb λe he=>by
   rw[h1] at he
   rcases bJ.1 he with rfl|he
   ·exact⟨by show(0:Int)<=(k:Nat);omega,by show(k:Int)<(n:Nat);omega⟩
   have:=h2 e he;exact⟨by omega,this.2⟩,h1]
  rfl
 have hL:∀k,k<n->∀w,dtl (Lw k) w=dtl (lo k) w+w k:=λk hk w=>by
  rw[(hP.lo k hk).1,wR]
  show _+(1:Rat)*w k=_
  rw[qN]
 have e1:(∀k,k<n->dtn n (M k) x=b k)↔∀k,k<n->dtl (lo k) (λj=>dtn n (Up j) λi=>x (cl i))+dtn n (Up k) (λi=>x (cl i))=b (rw k):=by
  constructor
  ·intro hh k hk
   rw[<-hL k hk,<-h.eq k hk]
   exact hh _ (h.rlt k hk)
  intro hh k hk
  obtain⟨j,hj,rfl⟩:=uZ h.rlt h.rinj k hk
  rw[h.eq j hj,hL j hj]
  exact hh j hj
 have e2:=bJz (b:=λi=>b (rw i)) (w:=λj=>dtn n (Up j) λi=>x (cl i)) λk hk=>(hP.lo k hk).2
 have e3:=bKa (y:=λi=>x (cl i)) (z:=fwd lo (λi=>b (rw i)) n) (λi hi=>(hP.us i hi).2.1) hP.p
 rw[e1]
 refine e2.trans ⟨λhh=>?_,λhh k hk=>?_⟩
 ·have h4:=e3.1 λi hi=>by rw[<-hh i hi];exact(hU i hi).symm
  intro c hc
  obtain⟨j,hj,rfl⟩:=uZ h.clt h.cinj c hc
  rw[hx j hj];exact h4 j hj
 have h4:=e3.2 λi hi=>(hh _ (h.clt i hi)).trans (hx i hi)
 exact(hU k hk).trans (h4 k hk)
def zb (B F:Nat):Nat->Nat
 |0=>B
 |i+1=>zb B F i+i*(F+zb B F i+1)
theorem bFd {B F k n:Nat} (h:k<=n):zb B F k<=zb B F n:=by
 induction h with
 |refl=>exact aI _
 |step _ ih=>exact bA ih (wS _ _)
def yb (Z F:Nat):Nat->Nat
 |0=>Z
 |k+1=>yb Z F k+k*(F+yb Z F k+1)+F
theorem bFe {Z F k n:Nat} (h:k<=n):yb Z F k<=yb Z F n:=by
 induction h with
 |refl=>exact aI _
 |step _ ih=>exact bA ih (by show _<=yb Z F _+_+F;omega)
theorem aEl {P Q:Nat->List CV} (h:∀j,(P j).length=(Q j).length/\∀(k:Nat) (c c':CV),(P j)[k]? =some c->(Q j)[k]? =some c'->LeC c c'):∀n,(flatR n P).length=(flatR n Q).length/\∀(k:Nat) (c c':CV),(flatR n P)[k]? =some c->(flatR n Q)[k]? =some c'->LeC c c'
 |0=>⟨rfl,λk c c' h1=>by cases h1⟩
 |n+1=>by
  obtain⟨i1,i2⟩:=aEl h n
  obtain⟨j1,j2⟩:=h n
  rw[jT,jT]
  refine⟨by rw[aP,aP,i1,j1],λk c c' h1 h2=>?_⟩
  by_cases hk:k<(flatR n P).length
  ·rw[bW hk] at h1
   rw[bW oM] at h2
   exact i2 k c c' h1 h2
  rw[cO oM] at h1
  rw[cO oM,<-i1] at h2
  exact j2 _ c c' h1 h2
theorem xL {n:Nat}:(flatR n λ_=>(default:RatM).C).length=((List.replicate n yP).flatten).length/\∀(k:Nat) (c c':CV),((List.replicate n yP).flatten)[k]? =some c->(flatR n λ_=>(default:RatM).C)[k]? =some c'->LeC c c':=by
 obtain⟨h1,h2⟩:=aEl (P:=λ_=>yP) (Q:=λ_=>(default:RatM).C) (λ_=>⟨rfl,aNv⟩) n
 rw[<-aFd]
 exact⟨h1.symm,h2⟩
abbrev rtC (n:Nat) (Z:Nat->RatM):List CV:=flatR n λj=>(Z j).C
theorem iR {n k:Nat} {Z:Nat->RatM} (h:k<n):k*3<(rtC n Z).length:=aQh (λ_=>rfl) h
theorem kW {n k:Nat} {Z:Nat->RatM} (h:k<n):((rtC n Z).drop (k*3)).take 3=(Z k).C/\(Z k).C.length=3:=bQb (λ_=>rfl) h rfl
theorem pI {n k:Nat} {Z:Nat->RatM} {g:RatM} (h:k<n):oG (rtC n Z) (k*3) g.C=rtC n (upd Z k g)/\k*3+g.C.length<=(rtC n Z).length:=aLc (λ_=>rfl) h rfl λj _=>by
 by_cases e:j=k
 ·subst e;rw[if_pos rfl,cN]
 rw[if_neg e,cJ e]
theorem fB {n:Nat} {Z:Nat->RatM}:∀c∈rtC n Z,iP c=true:=aAy (λ_=>gY _) n
abbrev aRe (f:LuM) (n:Nat) (Z:Nat->RatM):BL:=[(67,0,f.C),(51,3,rtC n Z)]
theorem aFl {f:LuM} {n:Nat} {Z:Nat->RatM}:scB 2 (aRe f n Z):=aD rfl (aD (cZ fB) bM)
abbrev bKb (b:Sl RatM) (n i:Nat):List (Nat×DV):=[(31,.c (iC i)),(30,.c (iC n)),(1,.c (gA b)),(2,.c (.p 0 0)),(7,.c (iC n)),(8,.c (.s 1 n))]
abbrev bSe (b:Sl RatM) (n i:Nat) (A:Option Addr) (c m:Nat) (row:Sl EntM) (t:Nat):List (Nat×DV):=(57,.c (iC t))::(55,.c (.r A m c 4 λj=>(row.l.getD j default).C))::(56,.c (iC m))::(9,.c (iC i))::bKb b n i
abbrev aRf (f:LuM) (n:Nat) (Z X:Nat->RatM):BL:=[(67,0,f.C),(51,3,rtC n Z),(51,3,rtC n X)]
theorem aFm {f:LuM} {n:Nat} {Z X:Nat->RatM}:scB 3 (aRf f n Z X):=aD rfl (aD (cZ fB) (aD (cZ fB) bM))
abbrev bKc (n k:Nat):List (Nat×DV):=[(81,.c (iC k)),(80,.c (iC n)),(2,.c (.p 0 0)),(7,.c (iC n)),(8,.c (.s 1 n)),(13,.c (.s 2 n))]
abbrev bSf (n k i:Nat) (A:Option Addr) (c m:Nat) (row:Sl EntM) (t:Nat):List (Nat×DV):=(97,.c (iC t))::(95,.c (.r A m c 4 λj=>(row.l.getD (j+1) default).C))::(96,.c (iC m))::(15,.c (iC i))::(16,.c (cR row))::bKc n k
theorem aLo {f:Nat->Nat} {n:Nat} (_:∀j,j<n->f j<n) (hi:∀i j,i<n->j<n->f i=f j->i=j) (y:Nat->Rat):∃x:Nat->Rat,∀j,j<n->x (f j)=y j:=by
 classical
 refine⟨λc=>if h:∃j,j<n/\f j=c then y h.choose else 0,λj hj=>?_⟩
 have h:∃j',j'<n/\f j'=f j:=⟨j,hj,rfl⟩
 show(if h:∃j',j'<n/\f j'=f j then y h.choose else 0)=y j
 rw[dif_pos h]
 exact congrArg y (hi _ _ h.choose_spec.1 hj h.choose_spec.2)
theorem swl {i j:Nat} {l:List CV} (h:∀c∈l,iP c=true):l.map (swC i j)=l:=(fV λc hc=>aU c (h c hc)).trans (List.map_id _)
theorem aHu (a:Rat):a-0=a:=by grind
abbrev aLp:FuncId:=39
theorem bKd:Ent Tryz.prog aLp:=bI func39 rfl kR
theorem bKe:Tryz.prog.funcs[aLp]? =some Tryz.f39:=func39
theorem bFf (f:LuM) (b:Sl RatM) {M:Nat->List En} {n F B:Nat} {rw cl:Nat->Nat} {Lw Up:Nat->List En} {bv:Nat->Rat} (h:LuG f M n rw cl Lw Up F) (h1:1<=F) (hn:n<=4096) (hb:b.l.length=n) (hbv:∀k,k<n->Cr (b.l.getD k default) (bv k)/\rb (bv k) B) (h1B:1<=B) (hF:F<=17179869184) (hB:yb (zb B F n) F n<=17179869184):
 Ctr Tryz.prog aLp [true] [.a f.C,.c (gA b)] [] (λg:(Nat->RatM)×(Nat->Rat)=>⟨.t [.c (.s 0 n),.c (iC 0)],[(51,3,rtC n g.1)],Sol M n bv g.2/\∀c,c<n->Cr (g.1 c) (g.2 c)/\rb (g.2 c) (yb (zb B F n) F n)⟩):=by
 obtain⟨lo,us,p,hP⟩:=h.o.parts
 have hZB:zb B F n<=17179869184:=bA (bFe (aF n)) hB
 have hR:f.R.l.length=n:=by rw[h.R];simp
 have hRi:((f.R.l.length:Nat):Int)=(n:Nat):=by rw[hR]
 have hRc:iC (f.R.l.length:Nat)=iC (n:Nat):=by rw[hR]
 obtain⟨ζ,hζ⟩:∃ζ,ζ=fwd lo (λi=>bv (rw i)) n:=⟨_,rfl⟩
 have eζ:∀k,k<n->ζ k=bv (rw k)-dtl (lo k) ζ:=λk hk=>by rw[hζ];exact aLn (b:=λi=>bv (rw i)) (λk hk=>(hP.lo k hk).2) k hk
 refine cY gT bKd bKe rfl rfl rfl bL (λi T es l hi=>by cases hi) (aC gT mxd ⟨[],bYy f b h hF h1 hn hb,rfl,rfl,rfl,λ_ _=>⟨λhh=>absurd rfl hh,λ_=>aC gT mxd ⟨n,⟨hRi,hRi,by show 56*n<=_;omega,by simp only[maxLen];omega⟩,?_⟩⟩⟩)
 show Sd _ _ _ _ _ _
 refine mM tSd 1 (rtC n λ_=>default) rfl xL.1 xL.2 ?_
 refine eW (λ_=>true) (λg:Nat×(Nat->RatM)=>bKb b n g.1) (λg=>aRe f n g.2) (λ_=>[]) (λg=>g.1<=n/\∀j,j<g.1->Rq (g.2 j) (ζ j) (zb B F g.1)) (λg=>n-g.1) λhM=>⟨dG hM (chg:=λg:Nat×(Nat->RatM)=>bKb b n g.1) (bls:=λg=>aRe f n g.2) (fls:=λ_=>[]) (0,λ_=>default) ⟨aF _,λj hj=>absurd hj (aV _)⟩ rfl ⟨rfl,rfl⟩ trivial ⟨rfl,hRi,rfl,rfl,hRi,rfl⟩ bL aFl rfl,λ⟨i,Z⟩ ⟨hi,hZ⟩=>aC gT mxd ⟨λh2=>aC gT mxd ?_,λh2=>aC gT mxd ?_⟩⟩
 all_goals
  replace hi:i<=n:=hi
  replace hZ:∀j,j<i->Rq (Z j) (ζ j) (zb B F i):=hZ
 ·replace h2:(i:Int)<(n:Nat):=h2
  have hin:i<n:=by omega
  have hri:=h.o.rlt i hin
  have hix:f.R.l.getD i 0=(rw i:Nat):=by rw[h.R];exact aAm hin
  have lL:=h.L.ln
  have eL:=h.L.row i hin
  obtain⟨hl,hvl⟩:=hP.lo i hin
  have ln1:(f.L.d.l.getD i fF).l.length=(lo i).length+1:=by rw[eL.ln,hl];simp
  have hll:=nU hvl
  refine⟨i,⟨rfl,show i<f.R.l.length by omega⟩,rw i,⟨hix,show rw i<b.l.length by omega⟩,i,⟨rfl,hin,iR hin⟩,_,pI hin,i,⟨rfl,show i<f.L.d.l.length by omega⟩,((lo i).length:Nat),wi (by show(((lo i).length:Nat):Int)=(((f.L.d.l.getD i fF).l.length:Nat):Int)-1/\_<=(((f.L.d.l.getD i fF).l.length:Nat):Int)-1/\(((f.L.d.l.getD i fF).l.length:Nat):Int)-1<=_;omega),(lo i).length,⟨rfl,show(lo i).length<=(f.L.d.l.getD i fF).l.length by omega⟩,?_⟩
  obtain⟨row,hrow⟩:∃row,row=f.L.d.l.getD i fF:=⟨_,rfl⟩
  rw[<-hrow] at eL ln1
  show Sd _ _ _ _ _ _
  refine eW (λ_=>true) (λg:Nat×(Nat->RatM)=>bSe b n i row.A row.c (lo i).length row g.1) (λg=>aRe f n g.2) (λ_=>[]) (λg=>g.1<=(lo i).length/\(∀j,j<i->Rq (g.2 j) (ζ j) (zb B F i))/\Rq (g.2 i) (bv (rw i)-dtl ((lo i).take g.1) ζ) (B+g.1*(F+zb B F i+1))/\rb (bv (rw i)-dtl ((lo i).take g.1) ζ) (B+g.1*(F+zb B F i+1))) (λg=>(lo i).length-g.1) λhM2=>⟨dG hM2 (chg:=λg:Nat×(Nat->RatM)=>bSe b n i row.A row.c (lo i).length row g.1) (bls:=λg=>aRe f n g.2) (fls:=λ_=>[]) (0,upd Z i (b.l.getD (rw i) default)) ⟨aF _,λj hj=>?_,?_,?_⟩ rfl ⟨rfl,rfl⟩ trivial ?_ bL aFl rfl,λ⟨t,Z'⟩ ⟨ht,hZ',hq,hqr⟩=>aC gT mxd ⟨λh3=>aC gT mxd ?_,λh3=>aC gT mxd ?_⟩⟩
  ·show Rq (upd Z i _ j) _ _
   rw[cJ oM];exact hZ j hj
  ·show Rq (upd Z i _ i) (bv (rw i)-0) (B+0*(F+zb B F i+1))
   rw[cN,aHu,lH]
   exact Cr.rq (hbv _ hri).1 (hbv _ hri).2
  ·show rb (bv (rw i)-0) (B+0*(F+zb B F i+1))
   rw[aHu,lH]
   exact(hbv _ hri).2
  ·exact⟨rfl,by rw[hrow];rfl,rfl,rfl,rfl,rfl,rfl,rfl,rfl,rfl⟩
  all_goals
   replace ht:t<=(lo i).length:=ht
   replace hZ':∀j,j<i->Rq (Z' j) (ζ j) (zb B F i):=hZ'
   replace hq:Rq (Z' i) (bv (rw i)-dtl ((lo i).take t) ζ) (B+t*(F+zb B F i+1)):=hq
   replace hqr:rb (bv (rw i)-dtl ((lo i).take t) ζ) (B+t*(F+zb B F i+1)):=hqr
   have hb1:B<=zb B F i:=bFd (aF i)
   have hb2:zb B F (i+1)<=17179869184:=bA (bFd hin) hZB
   have hb3:zb B F (i+1)=zb B F i+i*(F+zb B F i+1):=rfl
  ·replace h3:(t:Int)<((lo i).length:Nat):=h3
   have htl:t<(lo i).length:=by omega
   have hb4:(t+1)*(F+zb B F i+1)<=i*(F+zb B F i+1):=bK _ oM
   rw[eN] at hb4
   have e0:=hvl.2 _ (jQ htl)
   have er:=eL.e t (by rw[hl];simp;omega)
   rw[show(Lw i).getD t default=(lo i).getD t default by rw[hl,bF,bW htl,bF]] at er
   obtain⟨j0,hj0⟩:∃j0:Nat,((lo i).getD t default).1=(j0:Nat):=⟨((lo i).getD t default).1.toNat,by omega⟩
   have hji:j0<i:=by omega
   have hix0:(row.l.getD t default).ix=(j0:Nat):=er.1.trans hj0
   have hev:rb ((lo i).getD t default).2 F:=h.bl i hin _ (by rw[hl];exact dS _ (jQ htl))
   have hz0:=hZ' j0 hji
   have hm:=kU hev (hz0.rb oM)
   have hd:bv (rw i)-dtl ((lo i).take (t+1)) ζ=bv (rw i)-dtl ((lo i).take t) ζ-((lo i).getD t default).2*ζ j0:=by
    rw[yV htl,wR,hj0,bP];grind
   have hs:=xH hqr hm
   rw[<-hd] at hs
   have hs':rb (bv (rw i)-dtl ((lo i).take (t+1)) ζ) (B+(t+1)*(F+zb B F i+1)):=hs.le (by rw[eN];omega)
   have hk:=aTn (Z' i) (row.l.getD t default).v (Z' j0) (B:=B+(t+1)*(F+zb B F i+1)) (hq.le oM) ((Cr.rq er.2 hev).le) (hz0.le oM) (hm.le oM) (by rw[<-hd];exact hs') (hq.le (by rw[eN];omega))
   rw[<-hd] at hk
   refine⟨t,⟨rfl,htl⟩,.seq ((List.range 16).map λi=>(i,i==15)),by kernel_rfl,i,⟨rfl,hin,iR hin⟩,_,kW hin,j0,⟨hix0,by omega,iR oM⟩,_,kW oM,[],hk,rfl,rfl,rfl,λg hg=>⟨i,⟨rfl,hin,iR hin⟩,_,pI hin,(t+1:Nat),wi,dG hM2 (chg:=λg:Nat×(Nat->RatM)=>bSe b n i row.A row.c (lo i).length row g.1) (bls:=λg=>aRe f n g.2) (fls:=λ_=>[]) (t+1,upd Z' i g) ⟨⟨htl,λj hj=>?_,?_,hs'⟩,show(lo i).length-(t+1)<(lo i).length-t by omega⟩ rfl ⟨rfl,rfl⟩ trivial ⟨rfl,rfl,rfl,rfl,rfl,rfl,rfl,rfl,rfl,rfl⟩ bL aFl rfl⟩⟩
   ·show Rq (upd Z' i g j) _ _
    rw[cJ oM];exact hZ' j hj
   show Rq (upd Z' i g i) _ _
   rw[cN];exact hg
  replace h3:¬(t:Int)<((lo i).length:Nat):=h3
  obtain rfl:t=(lo i).length:=by omega
  have hb4:(lo i).length*(F+zb B F i+1)<=i*(F+zb B F i+1):=bK _ hll
  rw[dE,<-eζ i hin] at hq
  refine⟨(i+1:Nat),wi,dG hM (chg:=λg:Nat×(Nat->RatM)=>bKb b n g.1) (bls:=λg=>aRe f n g.2) (fls:=λ_=>[]) (i+1,Z') ⟨⟨hin,λj hj=>?_⟩,show n-(i+1)<n-i by omega⟩ rfl ⟨rfl,rfl⟩ trivial ⟨rfl,rfl,rfl,rfl,rfl,rfl⟩ bL aFl rfl⟩
  replace hj:j<i+1:=hj
  show Rq (Z' j) (ζ j) (zb B F (i+1))
  by_cases e:j=i
  ·subst e;exact hq.le oM
  exact(hZ' j oM).le oM
 replace h2:¬(i:Int)<(n:Nat):=h2
 obtain rfl:n=i:=by omega
 obtain⟨y,hy⟩:∃y,y=bwd us p n ζ n:=⟨_,rfl⟩
 have ey:∀k,k<n->y k=(ζ k-dtl (us k) y)/p k:=λk hk=>by rw[hy];exact(aRd (λi hi=>(hP.us i hi).2.1) n (aI n)).2 k oM hk
 obtain⟨ZB,hZe⟩:∃ZB,ZB=zb B F n:=⟨_,rfl⟩
 rw[<-hZe] at hZ hB hZB
 have hZ1:1<=ZB:=by rw[hZe];exact bA h1B (bFd (aF n))
 refine aC gT mxd ⟨n,⟨rfl,rfl,by show 56*n<=_;omega,by simp only[maxLen];omega⟩,?_⟩
 show Sd _ _ _ _ _ _
 refine mM tSd 2 (rtC n λ_=>default) rfl xL.1 xL.2 ?_
 refine eW (λ_=>true) (λg:Nat×(Nat->RatM)×(Nat->RatM)=>bKc n g.1) (λg=>aRf f n g.2.1 g.2.2) (λ_=>[]) (λg=>g.1<=n/\(∀j,j<n-g.1->Rq (g.2.1 j) (ζ j) ZB)/\(∀j,n-g.1<=j->j<n->Rq (g.2.1 j) (y j) (yb ZB F g.1))/\∀j,n-g.1<=j->j<n->Cr (g.2.2 (cl j)) (y j)/\rb (y j) (yb ZB F g.1)) (λg=>n-g.1) λhM=>⟨dG hM (chg:=λg:Nat×(Nat->RatM)×(Nat->RatM)=>bKc n g.1) (bls:=λg=>aRf f n g.2.1 g.2.2) (fls:=λ_=>[]) (0,Z,λ_=>default) ⟨aF _,λj hj=>hZ j hj,λj h4 h5=>absurd h4 (by show ¬n-0<=j;omega),λj h4 h5=>absurd h4 (by show ¬n-0<=j;omega)⟩ rfl ⟨rfl,rfl,rfl⟩ trivial ⟨rfl,rfl,rfl,rfl,rfl,rfl⟩ bL aFm rfl,λ⟨k,Z,X⟩ ⟨hk,hZ,hY,hX⟩=>aC gT mxd ⟨λh2=>aC gT mxd ?_,λh2=>aC gT mxd ?_⟩⟩
 all_goals
  replace hk:k<=n:=hk
  replace hZ:∀j,j<n-k->Rq (Z j) (ζ j) ZB:=hZ
  replace hY:∀j,n-k<=j->j<n->Rq (Z j) (y j) (yb ZB F k):=hY
  replace hX:∀j,n-k<=j->j<n->Cr (X (cl j)) (y j)/\rb (y j) (yb ZB F k):=hX
 ·replace h2:(k:Int)<(n:Nat):=h2
  have hkn:k<n:=by omega
  obtain⟨i,hi⟩:∃i,i=n-1-k:=⟨_,rfl⟩
  have hin:i<n:=by omega
  have hci:=h.o.clt i hin
  have hix:f.K.l.getD i 0=(cl i:Nat):=by rw[h.K];exact aAm hin
  have hK:f.K.l.length=n:=by rw[h.K];simp
  have lU:=h.U.ln
  have eU:=h.U.row i hin
  obtain⟨hu,hui,hul⟩:=hP.us i hin
  have hpi:=hP.p i hin
  have ln1:(f.U.d.l.getD i fF).l.length=(us i).length+1:=by rw[eU.ln,hu];simp
  have a1:((n-1:Nat):Int)=IntKind.i64.wrap ((n:Nat)-1):=wi oM
  have a2:(i:Int)=IntKind.i64.wrap (((n-1:Nat):Int)-(k:Nat)):=wi oM
  refine⟨(n-1:Nat),a1,(i:Nat),a2,i,⟨rfl,show i<f.U.d.l.length by omega⟩,1,⟨rfl,show 1<=(f.U.d.l.getD i fF).l.length by omega⟩,?_⟩
  obtain⟨row,hrow⟩:∃row,row=f.U.d.l.getD i fF:=⟨_,rfl⟩
  rw[<-hrow] at eU ln1
  have hlen:(f.U.d.l.getD i fF).l.length-1=(us i).length:=by rw[<-hrow];omega
  have hsz:(((f.U.d.l.getD i fF).l.length-1:Nat):Int)=((us i).length:Nat):=by rw[hlen]
  have hsl:CV.r (slA (f.U.d.l.getD i fF).A (f.U.d.l.getD i fF).c 1 4) ((f.U.d.l.getD i fF).l.length-1) ((f.U.d.l.getD i fF).c-1) 4 (λj=>((f.U.d.l.getD i fF).l.getD (j+1) default).C)= .r (slA row.A row.c 1 4) (us i).length (row.c-1) 4 λj=>(row.l.getD (j+1) default).C:=by rw[hlen,hrow]
  show Sd _ _ _ _ _ _
  refine eW (λ_=>true) (λg:Nat×(Nat->RatM)=>bSf n k i (slA row.A row.c 1 4) (row.c-1) (us i).length row g.1) (λg=>aRf f n g.2 X) (λ_=>[]) (λg=>g.1<=(us i).length/\(∀j,j<i->Rq (g.2 j) (ζ j) ZB)/\(∀j,i<j->j<n->Rq (g.2 j) (y j) (yb ZB F k))/\Rq (g.2 i) (ζ i-dtl ((us i).take g.1) y) (ZB+g.1*(F+yb ZB F k+1))/\rb (ζ i-dtl ((us i).take g.1) y) (ZB+g.1*(F+yb ZB F k+1))) (λg=>(us i).length-g.1) λhM2=>⟨dG hM2 (chg:=λg:Nat×(Nat->RatM)=>bSf n k i (slA row.A row.c 1 4) (row.c-1) (us i).length row g.1) (bls:=λg=>aRf f n g.2 X) (fls:=λ_=>[]) (0,Z) ⟨aF _,λj hj=>hZ j oM,λj h4 h5=>hY j oM h5,?_,?_⟩ rfl ⟨rfl,rfl,rfl⟩ trivial ?_ bL aFm rfl,λ⟨t,Z'⟩ ⟨ht,hZ',hY',hq,hqr⟩=>aC gT mxd ⟨λh3=>aC gT mxd ?_,λh3=>aC gT mxd ?_⟩⟩
  ·show Rq (Z i) (ζ i-0) (ZB+0*(F+yb ZB F k+1))
   rw[aHu,lH]
   exact hZ i oM
  ·show rb (ζ i-0) (ZB+0*(F+yb ZB F k+1))
   rw[aHu,lH]
   exact(hZ i oM).rb hZ1
  ·exact⟨rfl,hsl,hsz,rfl,congrArg cR hrow.symm,rfl,rfl,rfl,rfl,rfl,rfl⟩
  all_goals
   replace ht:t<=(us i).length:=ht
   replace hZ':∀j,j<i->Rq (Z' j) (ζ j) ZB:=hZ'
   replace hY':∀j,i<j->j<n->Rq (Z' j) (y j) (yb ZB F k):=hY'
   replace hq:Rq (Z' i) (ζ i-dtl ((us i).take t) y) (ZB+t*(F+yb ZB F k+1)):=hq
   replace hqr:rb (ζ i-dtl ((us i).take t) y) (ZB+t*(F+yb ZB F k+1)):=hqr
   have hb1:ZB<=yb ZB F k:=bFe (F:=F) (aF k)
   have hb2:yb ZB F (k+1)<=17179869184:=bA (bFe hkn) hB
   have hb3:yb ZB F (k+1)=yb ZB F k+k*(F+yb ZB F k+1)+F:=rfl
  ·replace h3:(t:Int)<((us i).length:Nat):=h3
   have htl:t<(us i).length:=by omega
   have hb4:(t+1)*(F+yb ZB F k+1)<=k*(F+yb ZB F k+1):=bK _ oM
   rw[eN] at hb4
   have e0:=hui _ (jQ htl)
   have er:=eU.e (t+1) (by rw[hu];simp;omega)
   rw[show(Up i).getD (t+1) default=(us i).getD t default by rw[hu];rfl] at er
   obtain⟨j0,hj0⟩:∃j0:Nat,((us i).getD t default).1=(j0:Nat):=⟨((us i).getD t default).1.toNat,by omega⟩
   have hij:i<j0:=by omega
   have hjn:j0<n:=by omega
   have hix0:(row.l.getD (t+1) default).ix=(j0:Nat):=er.1.trans hj0
   have hev:rb ((us i).getD t default).2 F:=h.bu i hin _ (by rw[hu];exact .tail _ (jQ htl))
   have hz0:=hY' j0 hij hjn
   have hm:=kU hev (hz0.rb oM)
   have hd:ζ i-dtl ((us i).take (t+1)) y=ζ i-dtl ((us i).take t) y-((us i).getD t default).2*y j0:=by
    rw[yV htl,wR,hj0,bP];grind
   have hs:=xH hqr hm
   rw[<-hd] at hs
   have hs':rb (ζ i-dtl ((us i).take (t+1)) y) (ZB+(t+1)*(F+yb ZB F k+1)):=hs.le (by rw[eN];omega)
   have hk':=aTn (Z' i) (row.l.getD (t+1) default).v (Z' j0) (B:=ZB+(t+1)*(F+yb ZB F k+1)) (hq.le oM) ((Cr.rq er.2 hev).le) (hz0.le oM) (hm.le oM) (by rw[<-hd];exact hs') (hq.le (by rw[eN];omega))
   rw[<-hd] at hk'
   refine⟨t,⟨rfl,htl⟩,.seq ((List.range 16).map λi=>(i,i==15)),by kernel_rfl,i,⟨rfl,hin,iR hin⟩,_,kW hin,j0,⟨hix0,hjn,iR hjn⟩,_,kW hjn,[],hk',rfl,rfl,rfl,λg hg=>⟨i,⟨rfl,hin,iR hin⟩,_,pI hin,(t+1:Nat),wi,dG hM2 (chg:=λg:Nat×(Nat->RatM)=>bSf n k i (slA row.A row.c 1 4) (row.c-1) (us i).length row g.1) (bls:=λg=>aRf f n g.2 X) (fls:=λ_=>[]) (t+1,upd Z' i g) ⟨⟨htl,λj hj=>?_,λj h4 h5=>?_,?_,hs'⟩,show(us i).length-(t+1)<(us i).length-t by omega⟩ rfl ⟨rfl,rfl,rfl⟩ trivial ⟨rfl,rfl,rfl,rfl,rfl,rfl,rfl,rfl,rfl,rfl,rfl⟩ bL aFm rfl⟩⟩
   ·show Rq (upd Z' i g j) _ _
    rw[cJ oM];exact hZ' j hj
   ·show Rq (upd Z' i g j) _ _
    rw[cJ oM];exact hY' j h4 h5
   show Rq (upd Z' i g i) _ _
   rw[cN];exact hg
  replace h3:¬(t:Int)<((us i).length:Nat):=h3
  obtain rfl:t=(us i).length:=by omega
  have hb4:(us i).length*(F+yb ZB F k+1)<=k*(F+yb ZB F k+1):=bK _ oM
  rw[dE] at hq hqr
  have e2:=eU.e 0 (by rw[hu];simp)
  rw[show(Up i).getD 0 default=((i:Int),p i) by rw[hu];rfl] at e2
  have hpb:rb (p i) F:=h.bu i hin ((i:Int),p i) (by rw[hu];exact .head _)
  have hpr:Rq (row.l.getD 0 default).v (p i) F:=Cr.rq e2.2 hpb
  have hpi':rb (p i)⁻¹ F:=hpr.flip.rb h1
  have hyr:rb (y i) (yb ZB F (k+1)):=by
   rw[ey i hin,jN]
   exact(kU hqr hpi').le oM
  refine aC gT mxd ?_
  refine⟨.seq ((List.range 16).map λi=>(i,i==15)),by kernel_rfl,i,⟨rfl,hin,iR hin⟩,_,kW hin,0,⟨rfl,show 0<row.l.length by omega⟩,[],aKv (Z' i) (row.l.getD 0 default).v (hq.le oM) (hpr.le) hpi,rfl,rfl,rfl,λg hg=>?_⟩
  replace hg:Cr g (y i):=by rw[ey i hin];exact hg
  have hgq:Rq g (y i) (yb ZB F (k+1)):=hg.rq hyr
  refine⟨i,⟨rfl,hin,iR hin⟩,_,pI hin,?_⟩
  refine⟨.seq ((List.range 12).map λi=>(i,i==11)),by kernel_rfl,i,⟨rfl,show i<f.K.l.length by omega⟩,i,⟨rfl,hin,iR hin⟩,_,kW hin,cl i,⟨hix,hci,iR hci⟩,_,pI hci,(k+1:Nat),wi,dG hM (chg:=λg:Nat×(Nat->RatM)×(Nat->RatM)=>bKc n g.1) (bls:=λg=>aRf f n g.2.1 g.2.2) (fls:=λ_=>[]) (k+1,upd Z' i g,upd X (cl i) (upd Z' i g i)) ⟨⟨hkn,λj hj=>?_,λj h4 h5=>?_,λj h4 h5=>?_⟩,show n-(k+1)<n-k by omega⟩ rfl ⟨rfl,rfl,rfl⟩ trivial ⟨rfl,rfl,rfl,rfl,rfl,rfl⟩ bL aFm rfl⟩
  ·replace hj:j<n-(k+1):=hj
   show Rq (upd Z' i g j) _ _
   rw[cJ oM];exact hZ' j oM
  ·replace h4:n-(k+1)<=j:=h4
   show Rq (upd Z' i g j) _ (yb ZB F (k+1))
   by_cases e:j=i
   ·subst e;rw[cN];exact hgq
   rw[cJ e];exact(hY' j oM h5).le oM
  replace h4:n-(k+1)<=j:=h4
  show Cr (upd X (cl i) (upd Z' i g i) (cl j)) (y j)/\rb (y j) (yb ZB F (k+1))
  by_cases e:j=i
  ·subst e;rw[cN,cN];exact⟨hg,hyr⟩
  have e2:cl j≠cl i:=λe2=>e (h.o.cinj j i h5 hin e2)
  rw[cJ e2]
  have:=hX j oM h5
  exact⟨this.1,this.2.le oM⟩
 replace h2:¬(k:Int)<(n:Nat):=h2
 obtain rfl:n=k:=by omega
 obtain⟨xv,hxv⟩:∃xv:Nat->Rat,∀j,j<n->xv (cl j)=y j:=aLo h.o.clt h.o.cinj y
 show Sd _ _ _ _ _ _
 refine aGz tSd 0 2 rfl rfl bL bL rfl ⟨_,swl fB,_,swl fB,bL,aC gT mxd ⟨(X,xv),⟨h.o.sol hP λi hi=>?_,λc hc=>?_⟩,jO ⟨rfl,rfl⟩ rfl bL (aD (cZ fB) bM) rfl (aDm fB)⟩⟩
 ·show xv (cl i)=_
  rw[hxv i hi,hy,hζ]
 obtain⟨j,hj,rfl⟩:=uZ h.o.clt h.o.cinj c hc
 show Cr (X (cl j)) (xv (cl j))/\rb (xv (cl j)) _
 rw[hxv j hj,<-hZe]
 exact hX j oM hj
structure StpM where
 k:Int
 p:RatM
 o:Sl EntM
instance:Inhabited StpM:=⟨⟨0,default,fF⟩⟩
def StpM.C (s:StpM):List CV:=iC s.k::(s.p.C++[cR s.o])
theorem aUg (s:StpM):s.C.length=5:=rfl
theorem aLq (s:StpM):s.C.all exC=true:=rfl
theorem aLr (s:StpM):∀c∈s.C,iP c=true:=λc hc=>by
 rcases bJ.1 hc with rfl|hc
 ·rfl
 rcases bB.1 hc with hc|hc
 ·exact gY _ c hc
 rw[aT.1 hc];rfl
abbrev aCr (L:List StpM):List CV:=fl StpM.C default L
theorem aFn {L:List StpM} {j:Nat} (h:j<L.length):((aCr L).drop (j*5)).take 5=(L.getD j default).C:=(aHm (f:=StpM.C) (d:=default) (L:=L) (e:=5) aUg j h).symm
theorem aHv {L:List StpM}:(aCr L).length=L.length*5:=sP (f:=StpM.C) (d:=default) aUg
abbrev stF (A:Option Nat) (k:Nat) (L:List StpM):Fam:=⟨91,5,1,λ_=>A,λ_=>k,λ_=>aCr L⟩
abbrev fwB (hd:CV) (f:LuM) (A:Option Nat) (k:Nat) (L:List StpM) (b1 b2 b3:TypeId×Nat×List CV):BL:=[(74,0,hd::(f.C++[.h A L.length k])),b1,b2,b3,(26,0,[.p 0 0])]
def fwX (hd:CV) (f:LuM) (A:Option Nat) (k:Nat) (L:List StpM) (bl:BL):Prop:=∃b1 b2 b3,bl=fwB hd f A k L b1 b2 b3
abbrev yvV (l:Nat):Value:=.func (.yield l) #[] #[]
abbrev fwS (l:Nat) (A:Option Nat) (k m j:Nat):List (Nat×DV):=[(0,.c (.v (yvV l))),(8,.c (.h A m k)),(9,.c (iC m)),(10,.c (iC j))]
structure FwI (A:Option Nat) (k l m:Nat) (J:BL->Nat->World->Prop) (j i:Nat) (f:Nat->Value) (w:World):Prop where
 jm:j<=m
 J:∃bl,J bl j w
 f0:f 0=yvV l
 f8:f 8= .slice (A.map λb=>⟨b,0,none⟩) m k
 f9:f 9= .int .i64 m
 f10:f 10= .int .i64 i
theorem aHw {ρ0 ρ:Pl} {w0 w:World} {nb i T e:Nat} {bl:BL} {c:CV} {r:List CV} (h:DnW ρ0 w0 nb bl ρ w) (hi:bl[i]? =some (T,e,c::r)):∃b,(ρ i).1=some b:=by
 have:=h.ok i T e _ hi
 unfold Bq at this
 cases hρ:(ρ i).1 with
 |none=>simp only[hρ] at this;exact absurd this.1 (by simp)
 |some b=>exact⟨b,rfl⟩
theorem uJ {s:SS} {chg:List (Nat×DV)} {ρ0 ρ:Pl} {w0 w:World} {nb t:Nat} {f:Nat->Value} {x:Value} (h:AllC s.sl chg) (hD:Dn ρ0 w0 nb s ρ f w) (ht:iM chg t=some (.c (.v x))):f t=x:=(h.hd hD ht).inv_c.inv_v
theorem bKf {s:SS} {chg:List (Nat×DV)} {ρ0 ρ:Pl} {w0 w:World} {nb t m k:Nat} {A:Option Nat} {f:Nat->Value} (h:AllC s.sl chg) (hD:Dn ρ0 w0 nb s ρ f w) (ht:iM chg t=some (.c (.h A m k))):f t= .slice (A.map λb=>⟨b,0,none⟩) m k:=by
 have:=(h.hd hD ht).inv_c
 generalize f t=x at this
 cases this;rfl
theorem fwD {ρ:Pl} {w:World} {l k m j:Nat} {A:Option Nat} {f:Nat->Value} {bl:BL} {fl:List Fam} (hD:DnW ρ w 5 bl ρ w) (hF:ρ.F=fl) (e0:f 0=yvV l) (e8:f 8= .slice (A.map λb=>⟨b,0,none⟩) m k) (e9:f 9= .int .i64 m) (e10:f 10= .int .i64 j):Dn ρ w 5 ⟨fwS l A k m j,[],bl,fl⟩ ρ f w:=⟨hD,.cons (by rw[e0];exact .c (Rc.v _)) (.cons (by rw[e8];exact .c (Rc.h _ _ _)) (.cons (by rw[e9];exact .c (Rc.v _)) (.cons (by rw[e10];exact .c (Rc.v _)) .nil))),hF⟩
abbrev aUh:FuncId:=77
theorem bYz:Ent Tryz.prog aUh:=bI func77 rfl kR
theorem bZa:Tryz.prog.funcs[aUh]? =some Tryz.f77:=func77
theorem bZb (hd:CV) (F:LuM) (A:Option Nat) (k:Nat) (L:List StpM) (hm:L.length<=4096):ItC Tryz.prog aUh [(4,0)] 5 (fwX hd F A k L) [stF A k L] L.length λj=> .agg ((L.getD j default).C.map aHb).toArray:=λρ l J hF hX hS hY bl W hJ0=>by
 obtain⟨m,hmL⟩:∃m,m=L.length:=⟨_,rfl⟩
 have hfin:∀(f:Nat->Value) (w:World),(∃bl',J bl' L.length w)->∃vs,aJf Tryz.prog f w [] vs/\(λ(_:Value) (w:World)=>∃bl',J bl' L.length w) (aFs vs) w:=λf w h=>⟨[],trivial,h⟩
 refine CallsIn.mono (F:=fen none) (n:=0) (callsIn_wide.2 (eE (R:=λ_ w=>∃bl',J bl' L.length w) (rs:=[]) bZa rfl rfl rfl bL ?_)) λe w' ⟨v,he,hh⟩=>⟨⟨v,he⟩,hh⟩
 obtain⟨⟨b1,b2,b3,rfl⟩,hn,hD⟩:=hX bl 0 W hJ0
 have hmk:∀{bl:BL} {j:Nat} {w:World} {s':SS} {ρ':Pl} {f':Nat->Value} {w':World} {r:BL},J bl j w->Dn ρ w 5 s' ρ' f' w'->s'.bl=bl++r->s'.fl=[stF A k L]->J bl j w':=λhj hD hb hf=>hS _ _ _ _ _ _ hj (hb▸hD.m) (hD.l.trans hf)
 refine vN (FwI A k l L.length J 0 0) ?_ ?_
 ·have hD0:Dn ρ W 5 ⟨[(0,.c (.v (yvV l))),(1,.c (.p 4 0))],[],fwB hd F A k L b1 b2 b3,[stF A k L]⟩ ρ (λi=>(#[yvV l,ptr ρ (4,0)]:Array Value).getD i undef) W:=by
   obtain⟨b,hb⟩:=aHw (i:=4) hD rfl
   exact⟨hD,.cons (.c (Rc.v _)) (.cons (.c ⟨bL,b,hb,by show ptr ρ (4,0)=_;unfold ptr;rw[hb];rfl⟩) .nil),hF⟩
  refine aDv (Sd.wp (K:=⟨λs'=>AllC s'.sl (fwS l A k L.length 0)/\s'.bl=fwB hd F A k L b1 b2 b3++[]/\s'.fl=[stF A k L],λ_ _=>False,λ_=>False⟩) (aC gT mxd ?_) hD0) (λf' w' ⟨s',ρ',⟨h1,h2,h3⟩,hD'⟩=>⟨aF _,⟨_,hmk hJ0 hD' h2 h3⟩,uJ h1 hD' rfl,bKf h1 hD' rfl,uJ h1 hD' rfl,uJ h1 hD' rfl⟩) (λi f' w' ⟨s',ρ',hh,_⟩=>hh.elim) λf' w' ⟨s',ρ',hh,_⟩=>hh.elim
  exact⟨⟨rfl,rfl,rfl,rfl⟩,rfl,rfl⟩
 intro f1 w1 h1
 refine gC (oP (λj=>FwI A k l L.length J j j) (λj=>L.length-j) 0 h1 λj f2 w2 ⟨jm,⟨bl2,hJ2⟩,e0,e8,e9,e10⟩=>?_)
 obtain⟨⟨c1,c3,c4,rfl⟩,hn2,hD2⟩:=hX bl2 j w2 hJ2
 refine vN (λf w=>FwI A k l L.length J j j f w/\f 11= .bool (decide ((j:Int)<(L.length:Nat)))) ?_ ?_
 ·refine aDv (Sd.wp (K:=⟨λs'=>AllC s'.sl ((11,.c (.b ((j:Int)<(L.length:Nat)) inferInstance))::fwS l A k L.length j)/\s'.bl=fwB hd F A k L c1 c3 c4++[]/\s'.fl=[stF A k L],λ_ _=>False,λ_=>False⟩) (aC gT mxd ?_) (fwD hD2 hF e0 e8 e9 e10)) (λf' w' ⟨s',ρ',⟨h1,h2,h3⟩,hD'⟩=>⟨⟨jm,⟨_,hmk hJ2 hD' h2 h3⟩,uJ h1 hD' rfl,bKf h1 hD' rfl,uJ h1 hD' rfl,uJ h1 hD' rfl⟩,(h1.hd hD' rfl).inv_c.inv_b⟩) (λi f' w' ⟨s',ρ',hh,_⟩=>hh.elim) λf' w' ⟨s',ρ',hh,_⟩=>hh.elim
  exact⟨⟨⟨id,id⟩,rfl,rfl,rfl,rfl⟩,rfl,rfl⟩
 intro f3 w3 ⟨hI3,h11⟩
 refine dV (uQ h11 (λht=>fL ?_) λhf=>nG ?_)
 ·have hj:j<L.length:=by have:=of_decide_eq_true ht;omega
  obtain⟨-,⟨bl3,hJ3⟩,a0,a8,a9,a10⟩:=hI3
  obtain⟨⟨d1,d3,d4,rfl⟩,hn3,hD3⟩:=hX bl3 j w3 hJ3
  obtain⟨S,hSj⟩:∃S,S=L.getD j default:=⟨_,rfl⟩
  have hYj:∀W,J (fwB hd F A k L d1 d3 d4) j W->YieldAt (fen none) 0 Tryz.prog l #[.agg (S.C.map aHb).toArray] W λe W'=>e= .returned (.bool true)/\∃bl',J bl' (j+1) W':=λW h=>by
   rw[hSj];exact hY _ j W hj h
  have hat:((aCr L).drop (j*5)).take 5=S.C:=by rw[hSj];exact aFn hj
  refine vN (λf w=>FwI A k l L.length J (j+1) j f w) ?_ ?_
  ·refine gC (vN (λf w=>∃ρ' s',(AllC s'.sl ((4,.c (.p 5 0))::fwS l A k L.length j)/\s'.bl=fwB hd F A k L d1 d3 d4++[(91,0,S.C)]/\s'.fl=[stF A k L])/\Dn ρ w3 5 s' ρ' f w) ?_ ?_)
   ·refine aDv (Sd.wp (K:=⟨λs'=>AllC s'.sl ((4,.c (.p 5 0))::fwS l A k L.length j)/\s'.bl=fwB hd F A k L d1 d3 d4++[(91,0,S.C)]/\s'.fl=[stF A k L],λ_ _=>False,λ_=>False⟩) (bUb tSd 0 rfl λhA=>aC gT mxd ?_) (fwD hD3 hF a0 a8 a9 a10)) (λf' w' ⟨s',ρ',h1,hD'⟩=>⟨ρ',s',h1,hD'⟩) (λi f' w' ⟨s',ρ',hh,_⟩=>hh.elim) λf' w' ⟨s',ρ',hh,_⟩=>hh.elim
    obtain⟨bb,hbb⟩:=hA 0 (dK 0) λe=>by
     have h1:=aHv (L:=L)
     rw[show aCr L=[] from e] at h1
     simp at h1;omega
    exact⟨j,bb,⟨rfl,hj,hbb⟩,0,0,⟨bL,hbb⟩,_,⟨hat,rfl⟩,⟨rfl,rfl,rfl,rfl,rfl⟩,rfl,rfl⟩
   intro f4 w4 ⟨ρ4,s4,⟨g1,g2,g3⟩,hD4⟩
   obtain⟨sl4,gl4,bl4,fl4⟩:=s4
   obtain rfl:bl4=_:=g2
   obtain rfl:fl4=_:=g3
   have hJ4:=hmk hJ3 hD4 rfl rfl
   have hD5:Dn ρ w3 5 ⟨(4,.c (.p 5 0))::fwS l A k L.length j,[],fwB hd F A k L d1 d3 d4++[(91,0,S.C)],[stF A k L]⟩ ρ4 f4 w4:=⟨hD4.m,.cons (g1.hd hD4 rfl) (.cons (g1.hd hD4 rfl) (.cons (g1.hd hD4 rfl) (.cons (g1.hd hD4 rfl) (.cons (g1.hd hD4 rfl) .nil)))),hD4.l⟩
   refine vN (λf w=>FwI A k l L.length J (j+1) j f w/\f 17= .bool false) (bLi (l:=[_,_,_,_]) [_,_] [_,_] rfl rfl λro=>yJ gT (K:=λs'=>AllC s'.sl ((14,.c (.v (yvV l)))::(15,.a S.C)::fwS l A k L.length j)/\s'.bl=fwB hd F A k L d1 d3 d4++[(91,0,S.C)]/\s'.fl=[stF A k L]) (λs5 ρ5 f5 w5 ⟨k1,k2,k3⟩ hD6=>?_) ?_ hD5) ?_
   ·have hJ6:=hmk hJ3 hD6 k2 k3
    have y14:f5 14=yvV l:=uJ k1 hD6 rfl
    have y15:f5 15= .agg (S.C.map aHb).toArray:=by
     have:=k1.hd hD6 (t:=15) (d:=.a S.C) rfl
     generalize f5 15=x at this
     cases this with
     |a h=>rw[h.ex (aLq S)]
    refine RLI.yield (R:=λe W'=>e= .returned (.bool true)/\∃bl',J bl' (j+1) W') rfl rfl rfl bL (aTd y14) (show YieldAt _ _ _ _ #[f5 15] _ _ from by rw[y15];exact hYj w5 hJ6) λe w' ⟨he,hb⟩=>⟨.bool true,he,RLI.val rfl rfl rfl bL (aFr (p:=true) rfl) (RLI.nil (show FwI A k l L.length J (j+1) j _ _/\_=_ from ⟨⟨hj,hb,?_,?_,?_,?_⟩,rfl⟩))⟩
    ·show f5 0=_;exact uJ k1 hD6 rfl
    ·show f5 8=_;exact bKf k1 hD6 rfl
    ·show f5 9=_;exact uJ k1 hD6 rfl
    show f5 10=_;exact uJ k1 hD6 rfl
   ·exact⟨⟨rfl,rfl,rfl,rfl,rfl,rfl⟩,rfl,rfl⟩
   intro f6 w6 ⟨hI6,h17⟩
   exact tE h17 (fL hI6)
  intro f7 w7 ⟨j7,⟨bl7,hJ7⟩,b0,b8,b9,b10⟩
  obtain⟨⟨d1,d3,d4,rfl⟩,hn7,hD7⟩:=hX bl7 _ w7 hJ7
  refine aDv (Sd.wp (K:=⟨λs'=>AllC s'.sl (fwS l A k L.length (j+1))/\s'.bl=fwB hd F A k L d1 d3 d4++[]/\s'.fl=[stF A k L],λ_ _=>False,λ_=>False⟩) (aC gT mxd ?_) (fwD hD7 hF b0 b8 b9 b10)) (λf' w' ⟨s',ρ',⟨h1,h2,h3⟩,hD'⟩=>⟨j+1,⟨j7,⟨_,hmk hJ7 hD' h2 h3⟩,uJ h1 hD' rfl,bKf h1 hD' rfl,uJ h1 hD' rfl,uJ h1 hD' rfl⟩,by omega⟩) (λi f' w' ⟨s',ρ',hh,_⟩=>hh.elim) λf' w' ⟨s',ρ',hh,_⟩=>hh.elim
  exact⟨(j+1:Nat),wi,⟨rfl,rfl,rfl,rfl⟩,rfl,rfl⟩
 have hj:j=L.length:=by have:=of_decide_eq_false hf;have:=hI3.jm;omega
 subst hj
 exact hfin _ _ hI3.J
structure StpR where
 k:Nat
 p:Rat
 o:List En
instance:Inhabited StpR:=⟨⟨0,0,[]⟩⟩
def StpR.ap (s:StpR) (x:Nat->Rat):Nat->Rat:=λi=>if i=s.k then x s.k/s.p else x i-Vm.get s.o (i:Nat)*(x s.k/s.p)
structure StpOk (S:StpM) (s:StpR) (n F:Nat):Prop where
 k:S.k=(s.k:Nat)
 kn:s.k<n
 p:Cr S.p s.p
 pb:rb s.p F
 p0:s.p≠0
 o:Ek S.o.l s.o
 ov:VOk s.o (n:Nat)
 ok:∀e∈s.o,e.1≠(s.k:Nat)
 ob:rbE s.o F
def aAe (R:List StpR) (x:Nat->Rat):Nat->Rat:=R.foldl (λx s=>s.ap x) x
theorem aAc {R:List StpR} {x:Nat->Rat} {j:Nat} (h:j<R.length):aAe (R.take (j+1)) x=(R.getD j default).ap (aAe (R.take j) x):=by
 unfold aAe
 rw[yV h,List.foldl_append];rfl
def StpR.pt (s:StpR) (x:Nat->Rat) (t:Nat):Nat->Rat:=λi=>if i=s.k then x s.k/s.p else x i-Vm.get (s.o.take t) (i:Nat)*(x s.k/s.p)
theorem StpR.pt_all (s:StpR) (x:Nat->Rat):s.pt x s.o.length=s.ap x:=by unfold pt ap;rw[dE]
theorem StpR.pt_succ {s:StpR} {x:Nat->Rat} {t i:Nat} (h:t<s.o.length) (he:(s.o.getD t default).1=(i:Nat)) (hk:i≠s.k) (j:Nat):s.pt x (t+1) j=if j=i then s.pt x t i-(s.o.getD t default).2*(x s.k/s.p) else s.pt x t j:=by
 unfold pt
 rw[yV h,mZ,show ∀e:En,[e]=e::[] from λ_=>rfl,nJ,he]
 by_cases e1:j=i
 ·subst e1
  rw[if_pos rfl,if_neg hk,if_neg hk,if_pos rfl]
  show _-(_+(_+(0:Rat)))*_=_
  grind
 rw[if_neg e1]
 by_cases e2:j=s.k
 ·rw[if_pos e2,if_pos e2]
 rw[if_neg e2,if_neg e2,if_neg oM]
 show _-(_+((0:Rat)+(0:Rat)))*_=_
 grind
theorem StpR.pt_new {s:StpR} {x:Nat->Rat} {t i n:Nat} (h:t<s.o.length) (hv:VOk s.o (n:Nat)) (he:(s.o.getD t default).1=(i:Nat)) (hk:i≠s.k):s.pt x t i=x i:=by
 unfold pt
 rw[if_neg hk,mS λe hm=>?_,fZ,aHu]
 obtain⟨k,hk,rfl⟩:=List.mem_take_iff_getElem.1 hm
 have:=iZ.1 hv.1 k t oM h oM
 rw[gd h] at he
 have h2:(s.o[k]'oM).1<(s.o[t]).1:=this
 omega
theorem StpR.pt_zero {s:StpR} {x:Nat->Rat} (i:Nat) (hk:i≠s.k):s.pt x 0 i=x i:=by
 unfold pt
 rw[if_neg hk]
 show _-(0:Rat)*_=_
 rw[fZ,aHu]
theorem StpR.ap_zero {s:StpR} {x:Nat->Rat} (h:x s.k=0) (i:Nat):s.ap x i=x i:=by
 have h0:x s.k/s.p=0:=by rw[h,jN,fZ]
 unfold ap
 by_cases e:i=s.k
 ·rw[if_pos e,e,h0,h]
 rw[if_neg e,h0,iH,aHu]
structure IvM where
 c:Nat->Sl EntM
 f:LuM
 A:Option Nat
 k:Nat
 L:List StpM
abbrev ZT:=Option (Option Addr×Nat)
abbrev hdC (z:ZT) (n:Nat) (c:Nat->Sl EntM):CV:=match z with
 |none=> .s 1 n
 |some (A,k)=>qX ⟨A,k,nD c n⟩
abbrev b1C (z:ZT) (n:Nat) (c:Nat->Sl EntM):List CV:=match z with
 |none=>fX n λj=>cR (c j)
 |some _=>[]
theorem aHx {z:ZT} {n:Nat} {c:Nat->Sl EntM}:∀x∈b1C z n c,iP x=true:=by
 cases z with
 |none=>exact bE λ_ _=>rfl
 |some p=>exact λx hx=>by cases hx
abbrev ivB (z:ZT) (n:Nat) (v:IvM):BL:=[(74,0,hdC z n v.c::(v.f.C++[.h v.A v.L.length v.k])),(54,1,b1C z n v.c)]
abbrev ivF (v:IvM):List Fam:=[stF v.A v.k v.L]
abbrev ivL:List Bool:=[false,true]
theorem pM {z:ZT} {n:Nat} {v:IvM} {r:BL}:ClB ivL (ivB z n v++r):=ClB.cons (λh=>by cases h) (ClB.cons (λ_=>aZ.2 aHx) (λi T es l hi hc=>by cases hc))
abbrev aRg:List Bool:=[false,true,true]
theorem bFg {z:ZT} {n T e:Nat} {v:IvM} {l:List CV} (h:∀c∈l,iP c=true):ClB aRg (ivB z n v++[(T,e,l)]):=ClB.cons (λh=>by cases h) (ClB.cons (λ_=>aZ.2 aHx) (ClB.cons (λ_=>aZ.2 h) cD))
theorem bFh {z:ZT} {n:Nat} {v:IvM}:ClB aRg (ivB z n v):=ClB.cons (λh=>by cases h) (ClB.cons (λ_=>aZ.2 aHx) λi T es l hi hc=>by cases hi)
theorem bZc {z:ZT} {n k:Nat} {c:Nat->Sl EntM} (h:2<=k):scC k (hdC z n c)=true:=by
 cases z with
 |none=>exact Nat.ble_eq_true_of_le h
 |some p=>rfl
theorem bSg (f:LuM):∀c∈f.C,iP c=true:=aZ.1 (show f.C.all iP=true from rfl)
theorem qM {z:ZT} {n k:Nat} {v:IvM} {r:BL} (hk:2<=k) (h:scB k r):scB k (ivB z n v++r):=by
 refine aD (aZ.2 λx hx=>?_) (aD (cZ aHx) h)
 rcases bJ.1 hx with rfl|hx
 ·exact bZc hk
 rcases bB.1 hx with hx|hx
 ·exact sO (bSg v.f x hx)
 rw[aT.1 hx];rfl
abbrev aRh:FuncId:=29
theorem bFi:Ent Tryz.prog aRh:=bI func29 rfl kR
theorem bFj:Tryz.prog.funcs[aRh]? =some Tryz.f29:=func29
theorem tK (z:ZT) (n:Nat) (v:IvM):CtrF Tryz.prog aRh ivL [.c (.p 0 0)] (ivB z n v) (ivF v) (λ_:Unit=>⟨.c (iC n),ivB z n v,ivF v,True⟩):=by
 cases z with
 |none=>exact kM gT bFi bFj rfl rfl rfl bL (pM (r:=[])) (aC gT mxd ⟨(),trivial,iY rfl ⟨rfl,rfl⟩ ⟨rfl,trivial⟩ bL (qM (r:=[]) bL bM) rfl (pM (r:=[]))⟩)
 |some p=>exact kM gT bFi bFj rfl rfl rfl bL (pM (r:=[])) (aC gT mxd ⟨(),trivial,iY (by show EqV (.v (.int .i64 ((nD v.c n).length:Nat))) (iC n);rw[rO];exact EqV.refl _) ⟨rfl,rfl⟩ ⟨rfl,trivial⟩ bL (qM (r:=[]) bL bM) rfl (pM (r:=[]))⟩)
abbrev aLs:FuncId:=11
theorem aUi:Ent Tryz.prog aLs:=bI func11 rfl kR
theorem aUj:Tryz.prog.funcs[aLs]? =some Tryz.f11:=func11
theorem bFk (z:ZT) (n:Nat) (v:IvM):CtrF Tryz.prog aLs ivL [.c (.p 0 0)] (ivB z n v) (ivF v) (λ_:Unit=>⟨.c (iC v.L.length),ivB z n v,ivF v,True⟩):=by
 cases z with
 |none=>exact kM gT aUi aUj rfl rfl rfl bL (pM (r:=[])) (aC gT mxd ⟨(),trivial,iY rfl ⟨rfl,rfl⟩ ⟨rfl,trivial⟩ bL (qM (r:=[]) bL bM) rfl (pM (r:=[]))⟩)
 |some p=>exact kM gT aUi aUj rfl rfl rfl bL (pM (r:=[])) (aC gT mxd ⟨(),trivial,iY rfl ⟨rfl,rfl⟩ ⟨rfl,trivial⟩ bL (qM (r:=[]) bL bM) rfl (pM (r:=[]))⟩)
abbrev bSh:FuncId:=40
theorem bZd:Ent Tryz.prog bSh:=bI func40 rfl kR
theorem bZe:Tryz.prog.funcs[bSh]? =some Tryz.f40:=func40
theorem bZf (z:ZT) (n:Nat) (v:IvM):CtrF Tryz.prog bSh ivL [.c (.p 0 0)] (ivB z n v) (ivF v) (λ_:Unit=>⟨.c (.f aUh [] [(2,0)]),ivB z n v++[(26,0,[.p 0 0])],ivF v,True⟩):=by
 cases z with
 |none=>exact kM gT bZd bZe rfl rfl rfl bL (pM (r:=[])) (aC gT mxd ⟨(),trivial,iY rfl ⟨rfl,rfl,rfl⟩ ⟨rfl,trivial⟩ bL (qM bL (aD rfl bM)) rfl pM⟩)
 |some p=>exact kM gT bZd bZe rfl rfl rfl bL (pM (r:=[])) (aC gT mxd ⟨(),trivial,iY rfl ⟨rfl,rfl,rfl⟩ ⟨rfl,trivial⟩ bL (qM bL (aD rfl bM)) rfl pM⟩)
abbrev svB (z:ZT) (n:Nat) (v:IvM) (Z:Nat->RatM):BL:=ivB z n v++[(51,3,rtC n Z),(41,0,[.s 2 n]),(26,0,[.p 0 0])]
theorem bSi {z:ZT} {n:Nat} {v:IvM} {Z:Nat->RatM}:scB 5 (svB z n v Z):=qM bL (aD (cZ fB) (aD rfl (aD rfl bM)))
abbrev siB (z:ZT) (n:Nat) (v:IvM) (S:StpM) (Z:Nat->RatM):BL:=ivB z n v++[(51,3,rtC n Z),(41,0,[.s 2 n]),(26,0,[.p 0 0]),(91,0,S.C)]
theorem bFl {z:ZT} {n:Nat} {v:IvM} {S:StpM} {Z:Nat->RatM}:scB 6 (siB z n v S Z):=qM bL (aD (cZ fB) (aD rfl (aD rfl (aD (cZ (aLr S)) bM))))
abbrev siG (o:Sl EntM) (t:Nat):List (Nat×DV):=[(56,.c (iC t)),(55,.c (iC (o.l.length:Nat))),(54,.c (cR o)),(8,.c (.p 5 0)),(6,.c (.p 3 0))]
abbrev aCs:FuncId:=16
theorem bKg:Ent Tryz.prog aCs:=bI func16 rfl kR
theorem bKh:Tryz.prog.funcs[aCs]? =some Tryz.f16:=func16
theorem bFm (z:ZT) (v:IvM) (b:Sl RatM) {M:Nat->List En} {n F Fs B Bs:Nat} {rw cl:Nat->Nat} {Lw Up:Nat->List En} {bv:Nat->Rat} {R:List StpR} (h:LuG v.f M n rw cl Lw Up F) (h1:1<=F) (hn:n<=4096) (hb:b.l.length=n) (hbv:∀k,k<n->Cr (b.l.getD k default) (bv k)/\rb (bv k) B) (h1B:1<=B) (hF:F<=17179869184) (hB:yb (zb B F n) F n<=17179869184)
 (hL:v.L.length=R.length) (hLn:v.L.length<=4096) (hR:∀j,j<R.length->StpOk (v.L.getD j default) (R.getD j default) n Fs) (h1s:1<=Bs) (hBs:Fs+Bs<=17179869184) (hX:∀x,Sol M n bv x->∀j,j<=R.length->∀i,i<n->rb (aAe (R.take j) x i) Bs):
 CtrF Tryz.prog aCs aRg [.c (.p 0 0),.c (gA b)] (ivB z n v) (ivF v) (λg:(Nat->RatM)×(Nat->Rat)=>⟨.t [.c (.s 2 n),.c (iC 0)],ivB z n v++[(51,3,rtC n g.1)],ivF v,Sol M n bv g.2/\∀i,i<n->Cr (g.1 i) (aAe R g.2 i)/\rb (aAe R g.2 i) Bs⟩):=by
 have hRi:((b.l.length:Nat):Int)=(n:Nat):=by rw[hb]
 let y:ZT:=z
 cases z
 all_goals
  refine aTc gT bKg bKh rfl rfl rfl bL (bFh (z:=y)) (Sd0.seq (aC gT mxd ?_))
  refine Sd0.seq (aC gT mxd ⟨[0,1,1000],tK y n v,rfl,rfl,rfl,λ_ _=>⟨λhh=>absurd hRi hh,λ_=>aC gT mxd ?_⟩⟩)
  refine Sd0.seq (aC gT mxd ⟨[],bFf v.f b h h1 hn hb hbv h1B hF hB,rfl,rfl,rfl,λ⟨Z0,x0⟩ ⟨hS,hZ0⟩=>?_⟩)
  refine Sd0.seq (aC gT mxd ⟨λhh=>absurd rfl hh,λ_=>aC gT mxd ?_⟩)
  refine Sd0.seq1 (aC gT mxd ⟨[0,1,1000],bZf y n v,rfl,rfl,rfl,λ_ _=>?_⟩)
  replace hZ0:∀i,i<n->Cr (Z0 i) (x0 i)/\rb (x0 i) (yb (zb B F n) F n):=hZ0
  have hXS:=hX x0 hS
  show Sd1 _ _ _ _ _ _ _
  refine bAq (svB y n v) (λZ j=>∀i,i<n->Cr (Z i) (aAe (R.take j) x0 i)) v.L.length (fwX (hdC y n v.c) v.f v.A v.k v.L) (λj=> .agg ((v.L.getD j default).C.map aHb).toArray) (λj=>(v.L.getD j default).C) Z0 rfl rfl bYz (bZb (hdC y n v.c) v.f v.A v.k v.L hLn) rfl (λ_=>rfl) (λZ=>⟨_,_,_,rfl⟩) (λi hi=>(hZ0 i hi).1) (λρ W bl j ⟨b1,b2,b3,hb⟩ hbn hF hD hj=>?_) bL (λZ j hZ hj=>?_) (λ_=>bSi) λZ hZ=>aC gT mxd ?_
  ·subst hb
   exact aTe (F:=stF v.A v.k v.L) (i:=0) (k:=0) (by rw[hF];rfl) (dK 0) rfl hbn hD (aFn hj) (λe=>by cases e) (aLq _)
  ·have hjR:j<R.length:=by omega
   have ok:=hR j hjR
   have hxb:=hXS j oM
   have hxb':=hXS (j+1) oM
   rw[aAc hjR] at hxb'
   have hK:∀Z':Nat->RatM,(∀i,i<n->Cr (Z' i) ((R.getD j default).ap (aAe (R.take j) x0) i))->∀i,i<n->Cr (Z' i) (aAe (R.take (j+1)) x0 i):=λZ' h=>by rw[aAc hjR];exact h
   obtain⟨S,hSS⟩:∃S,S=v.L.getD j default:=⟨_,rfl⟩
   obtain⟨s,hs⟩:∃s,s=R.getD j default:=⟨_,rfl⟩
   obtain⟨x,hx⟩:∃x,x=aAe (R.take j) x0:=⟨_,rfl⟩
   rw[<-hSS,<-hs] at ok
   rw[<-hx,<-hs] at hxb' hK
   rw[<-hx] at hxb
   replace hZ:∀i,i<n->Cr (Z i) (x i):=by rw[hx];exact hZ
   simp only[<-hSS]
   have hkn:=ok.kn
   have hxk:Rq (Z s.k) (x s.k) Bs:=(hZ _ hkn).rq (hxb _ hkn)
   refine aC gT mxd ⟨rfl,aC gT mxd ⟨s.k,⟨ok.k,hkn,iR hkn⟩,_,kW hkn,[],qA (Z s.k) (hxk.le oM),rfl,rfl,rfl,λ_ _=>⟨λhh=>aC gT mxd ?_,λhh=>aC gT mxd ?_⟩⟩⟩
   ·have h0:x s.k=0:=dU.1 (jF.1 hh)
    exact⟨Z,hK Z λi hi=>by rw[s.ap_zero h0];exact hZ i hi,⟨rfl,rfl,rfl,rfl,rfl⟩,rfl⟩
   have hpr:Rq S.p s.p Fs:=ok.p.rq ok.pb
   have hxa:rb (x s.k/s.p) Bs:=by
    have:=hxb' s.k hkn
    unfold StpR.ap at this
    rwa [if_pos rfl] at this
   refine⟨.seq ((List.range 16).map λi=>(i,i==15)),by kernel_rfl,s.k,⟨ok.k,hkn,iR hkn⟩,_,kW hkn,[],aKv (Z s.k) S.p (hxk.le oM) (hpr.le oM) ok.p0,rfl,rfl,rfl,λg hg=>⟨s.k,⟨ok.k,hkn,iR hkn⟩,_,pI hkn,?_⟩⟩
   replace hg:Cr g (x s.k/s.p):=hg
   have lo:=ok.o.ln
   have lv:=nU ok.ov
   show Sd _ _ _ _ _ _
   refine eW (λ_=>true) (λg:Nat×(Nat->RatM)=>siG S.o g.1) (λg=>siB y n v S g.2) (λ_=>ivF v) (λg=>g.1<=s.o.length/\∀i,i<n->Cr (g.2 i) (s.pt x g.1 i)) (λg=>s.o.length-g.1) λhM=>⟨dG hM (chg:=λg:Nat×(Nat->RatM)=>siG S.o g.1) (bls:=λg=>siB y n v S g.2) (fls:=λ_=>ivF v) (0,upd Z s.k g) ⟨aF _,λi hi=>?_⟩ rfl ⟨rfl,rfl,rfl,rfl,rfl,rfl⟩ ⟨rfl,trivial⟩ ⟨rfl,rfl,rfl,rfl,rfl⟩ bL bFl rfl,λ⟨t,Z'⟩ ⟨ht,hZ'⟩=>aC gT mxd ⟨λh3=>aC gT mxd ?_,λh3=>aC gT mxd ?_⟩⟩
   ·show Cr (upd Z s.k g i) (s.pt x 0 i)
    by_cases e:i=s.k
    ·rw[e,cN]
     unfold StpR.pt
     rw[if_pos rfl];exact hg
    rw[cJ e,s.pt_zero i e];exact hZ i hi
   all_goals
    replace ht:t<=s.o.length:=ht
    replace hZ':∀i,i<n->Cr (Z' i) (s.pt x t i):=hZ'
   ·replace h3:(t:Int)<(S.o.l.length:Nat):=h3
    have htl:t<s.o.length:=by omega
    have er:=ok.o.e t htl
    have hm:=jQ htl
    have ev:=ok.ov.2 _ hm
    obtain⟨i0,hi0⟩:∃i0:Nat,(s.o.getD t default).1=(i0:Nat):=⟨(s.o.getD t default).1.toNat,by omega⟩
    have hin:i0<n:=by omega
    have hik:i0≠s.k:=λe=>ok.ok _ hm (by rw[hi0,e])
    have hix:(S.o.l.getD t default).ix=(i0:Nat):=er.1.trans hi0
    have evb:=ok.ob _ hm
    have z1:=hZ' i0 hin
    rw[s.pt_new htl ok.ov hi0 hik] at z1
    have z2:Cr (Z' s.k) (x s.k/s.p):=by
     have:=hZ' s.k hkn
     unfold StpR.pt at this
     rwa [if_pos rfl] at this
    have hmb:=kU evb hxa
    refine⟨t,⟨rfl,show t<S.o.l.length by omega⟩,.seq ((List.range 19).map λi=>(i,i==18)),by kernel_rfl,i0,⟨hix,hin,iR hin⟩,_,kW hin,s.k,⟨ok.k,hkn,iR hkn⟩,_,kW hkn,[],aAx (S.o.l.getD t default).v (Z' s.k) (er.2.rq (evb.le oM)) (z2.rq (hxa.le oM)),rfl,rfl,rfl,λm hmc=>⟨[],aKw (Z' i0) m (z1.rq ((hxb i0 hin).le oM)) (Cr.rq hmc (hmb.le oM)),rfl,rfl,rfl,λg2 hg2=>⟨i0,⟨hix,hin,iR hin⟩,_,pI hin,(t+1:Nat),wi,dG hM (chg:=λg:Nat×(Nat->RatM)=>siG S.o g.1) (bls:=λg=>siB y n v S g.2) (fls:=λ_=>ivF v) (t+1,upd Z' i0 g2) ⟨⟨htl,λi hi=>?_⟩,show s.o.length-(t+1)<s.o.length-t by omega⟩ rfl ⟨rfl,rfl,rfl,rfl,rfl,rfl⟩ ⟨rfl,trivial⟩ ⟨rfl,rfl,rfl,rfl,rfl⟩ bL bFl rfl⟩⟩⟩
    show Cr (upd Z' i0 g2 i) (s.pt x (t+1) i)
    rw[StpR.pt_succ htl hi0 hik,s.pt_new htl ok.ov hi0 hik]
    by_cases e:i=i0
    ·rw[e,cN,if_pos rfl];exact hg2
    rw[cJ e,if_neg e];exact hZ' i hi
   replace h3:¬(t:Int)<(S.o.l.length:Nat):=h3
   obtain rfl:t=s.o.length:=by omega
   rw[s.pt_all] at hZ'
   exact⟨Z',hK Z' hZ',⟨rfl,rfl,rfl,rfl,rfl⟩,rfl⟩
  replace hZ:∀i,i<n->Cr (Z i) (aAe (R.take v.L.length) x0 i):=hZ
  rw[hL,dE] at hZ
  refine⟨rfl,(Z,x0),⟨hS,λi hi=>⟨hZ i hi,?_⟩⟩,iY ⟨rfl,rfl⟩ ⟨rfl,rfl,rfl⟩ ⟨rfl,trivial⟩ bL (qM (z:=y) bL (aD (cZ fB) bM)) rfl (bFg (z:=y) fB)⟩
  have:=hXS R.length (aI _) i hi
  rwa [dE] at this
abbrev bwG (l:Nat) (i:Int):List (Nat×DV):=[(0,.c (.v (yvV l))),(1,.c (.p 4 0)),(3,.c (iC i))]
structure BwI (ρ:Pl) (l m:Nat) (J:BL->Nat->World->Prop) (j:Nat) (i:Int) (f:Nat->Value) (w:World):Prop where
 jm:j<=m
 J:∃bl,J bl j w
 f0:f 0=yvV l
 f1:f 1=ptr ρ (4,0)
 f3:f 3= .int .i64 i
theorem bKi {s:SS} {chg:List (Nat×DV)} {ρ0 ρ:Pl} {w0 w:World} {nb t i:Nat} {f:Nat->Value} (h:AllC s.sl chg) (hD:Dn ρ0 w0 nb s ρ f w) (hi:i<nb) (ht:iM chg t=some (.c (.p i 0))):f t=ptr ρ0 (i,0):=by
 obtain⟨-,b,hb,ex⟩:=(h.hd hD ht).inv_c
 rw[ex]
 unfold ptr
 rw[<-hD.m.pl i hi,hb];rfl
theorem bwD {ρ:Pl} {w:World} {l:Nat} {i:Int} {f:Nat->Value} {bl:BL} {fl:List Fam} {T e:Nat} {c:CV} {r:List CV} (hD:DnW ρ w 5 bl ρ w) (hF:ρ.F=fl) (hn:bl.length=5) (hb:bl[4]? =some (T,e,c::r)) (e0:f 0=yvV l) (e1:f 1=ptr ρ (4,0)) (e3:f 3= .int .i64 i):Dn ρ w 5 ⟨bwG l i,[],bl,fl⟩ ρ f w:=by
 obtain⟨b,hb⟩:=aHw hD hb
 exact⟨hD,.cons (by rw[e0];exact .c (Rc.v _)) (.cons (.c ⟨by show 4<bl.length;omega,b,hb,by rw[e1];unfold ptr;rw[hb];rfl⟩) (.cons (by rw[e3];exact .c (Rc.v _)) .nil)),hF⟩
abbrev aUk:FuncId:=95
theorem bZg:Ent Tryz.prog aUk:=bI func95 rfl kR
theorem bZh:Tryz.prog.funcs[aUk]? =some Tryz.f95:=func95
theorem bZi (hd:CV) (F:LuM) (A:Option Nat) (k:Nat) (L:List StpM) (hm:L.length<=4096):ItC Tryz.prog aUk [(4,0)] 5 (fwX hd F A k L) [stF A k L] L.length λj=> .agg ((L.getD (L.length-1-j) default).C.map aHb).toArray:=λρ l J hF hX hS hY bl W hJ0=>by
 have hfin:∀(f:Nat->Value) (w:World),(∃bl',J bl' L.length w)->∃vs,aJf Tryz.prog f w [] vs/\(λ(_:Value) (w:World)=>∃bl',J bl' L.length w) (aFs vs) w:=λf w h=>⟨[],trivial,h⟩
 refine CallsIn.mono (F:=fen none) (n:=0) (callsIn_wide.2 (eE (R:=λ_ w=>∃bl',J bl' L.length w) (rs:=[]) bZh rfl rfl rfl bL ?_)) λe w' ⟨v,he,hh⟩=>⟨⟨v,he⟩,hh⟩
 obtain⟨⟨b1,b2,b3,rfl⟩,hn,hD⟩:=hX bl 0 W hJ0
 have hmk:∀{bl:BL} {j:Nat} {w:World} {s':SS} {ρ':Pl} {f':Nat->Value} {w':World} {r:BL},J bl j w->Dn ρ w 5 s' ρ' f' w'->s'.bl=bl++r->s'.fl=[stF A k L]->J bl j w':=λhj hD hb hf=>hS _ _ _ _ _ _ hj (hb▸hD.m) (hD.l.trans hf)
 refine vN (BwI ρ l L.length J 0 ((L.length:Nat)-1)) ?_ ?_
 ·have hD0:Dn ρ W 5 ⟨[(0,.c (.v (yvV l))),(1,.c (.p 4 0))],[],fwB hd F A k L b1 b2 b3,[stF A k L]⟩ ρ (λi=>(#[yvV l,ptr ρ (4,0)]:Array Value).getD i undef) W:=by
   obtain⟨b,hb⟩:=aHw (i:=4) hD rfl
   exact⟨hD,.cons (.c (Rc.v _)) (.cons (.c ⟨bL,b,hb,by show ptr ρ (4,0)=_;unfold ptr;rw[hb];rfl⟩) .nil),hF⟩
  refine aDv (Sd.wp (K:=⟨λs'=>AllC s'.sl (bwG l ((L.length:Nat)-1))/\s'.bl=fwB hd F A k L b1 b2 b3++[]/\s'.fl=[stF A k L],λ_ _=>False,λ_=>False⟩) (aC gT mxd ?_) hD0) (λf' w' ⟨s',ρ',⟨h1,h2,h3⟩,hD'⟩=>⟨aF _,⟨_,hmk hJ0 hD' h2 h3⟩,uJ h1 hD' rfl,bKi h1 hD' bL rfl,uJ h1 hD' rfl⟩) (λi f' w' ⟨s',ρ',hh,_⟩=>hh.elim) λf' w' ⟨s',ρ',hh,_⟩=>hh.elim
  exact⟨((L.length:Nat):Int)-1,wi,⟨rfl,rfl,rfl⟩,rfl,rfl⟩
 intro f1 w1 h1
 have h1':BwI ρ l L.length J 0 ((L.length:Nat)-1-(0:Nat)) f1 w1:=by rw[show((L.length:Nat):Int)-1-(0:Nat)=(L.length:Nat)-1 by omega];exact h1
 refine gC (oP (λj=>BwI ρ l L.length J j ((L.length:Nat)-1-(j:Nat))) (λj=>L.length-j) 0 h1' λj f2 w2 ⟨jm,⟨bl2,hJ2⟩,e0,e1,e3⟩=>?_)
 obtain⟨⟨c1,c3,c4,rfl⟩,hn2,hD2⟩:=hX bl2 j w2 hJ2
 refine vN (λf w=>BwI ρ l L.length J j ((L.length:Nat)-1-(j:Nat)) f w/\j<L.length) ?_ ?_
 ·refine vN (λf w=>BwI ρ l L.length J j ((L.length:Nat)-1-(j:Nat)) f w/\f 11= .bool (decide ((0:Int)<=(L.length:Nat)-1-(j:Nat)))) ?_ ?_
  ·refine aDv (Sd.wp (K:=⟨λs'=>AllC s'.sl ((11,.c (.b ((0:Int)<=(L.length:Nat)-1-(j:Nat)) inferInstance))::bwG l ((L.length:Nat)-1-(j:Nat)))/\s'.bl=fwB hd F A k L c1 c3 c4++[]/\s'.fl=[stF A k L],λ_ _=>False,λ_=>False⟩) (aC gT mxd ?_) (bwD hD2 hF rfl rfl e0 e1 e3)) (λf' w' ⟨s',ρ',⟨h1,h2,h3⟩,hD'⟩=>⟨⟨jm,⟨_,hmk hJ2 hD' h2 h3⟩,uJ h1 hD' rfl,bKi h1 hD' bL rfl,uJ h1 hD' rfl⟩,(h1.hd hD' rfl).inv_c.inv_b⟩) (λi f' w' ⟨s',ρ',hh,_⟩=>hh.elim) λf' w' ⟨s',ρ',hh,_⟩=>hh.elim
   exact⟨⟨⟨id,id⟩,rfl,rfl,rfl⟩,rfl,rfl⟩
  intro f3 w3 ⟨hI3,h11⟩
  refine uQ h11 (λht=>fL ⟨hI3,?_⟩) λhf=>nG ?_
  ·have:=of_decide_eq_true ht;omega
  have hj:j=L.length:=by have:=of_decide_eq_false hf;have:=hI3.jm;omega
  subst hj
  exact hfin _ _ hI3.J
 intro f3 w3 ⟨hI3,hj⟩
 skip
 obtain⟨-,⟨bl3,hJ3⟩,a0,a1,a3⟩:=hI3
 obtain⟨⟨d1,d3,d4,rfl⟩,hn3,hD3⟩:=hX bl3 j w3 hJ3
 obtain⟨i,hi⟩:∃i,i=L.length-1-j:=⟨_,rfl⟩
 have hil:i<L.length:=by omega
 have hii:((L.length:Nat):Int)-1-(j:Nat)=(i:Nat):=by omega
 rw[hii] at a3
 obtain⟨S,hSj⟩:∃S,S=L.getD i default:=⟨_,rfl⟩
 have hYj:∀W,J (fwB hd F A k L d1 d3 d4) j W->YieldAt (fen none) 0 Tryz.prog l #[.agg (S.C.map aHb).toArray] W λe W'=>e= .returned (.bool true)/\∃bl',J bl' (j+1) W':=λW h=>by
  rw[hSj,hi];exact hY _ j W hj h
 have hat:((aCr L).drop (i*5)).take 5=S.C:=by rw[hSj];exact aFn hil
 have hD5:=bwD hD3 hF rfl rfl a0 a1 a3
 obtain⟨bb,hbb⟩:∃bb,A=some bb:=by
  have hm:=hD3.fam.mem (f:=0) (F:=stF A k L) (j:=0) hF rfl (dK 0)
  unfold Mq at hm
  cases hA:A with
  |none=>
   exfalso
   simp only[hA] at hm
   have h1:=aHv (L:=L)
   rw[show aCr L=[] from hm.1] at h1
   simp at h1;omega
  |some b=>exact⟨b,rfl⟩
 refine vN (λf w=>BwI ρ l L.length J (j+1) (i:Nat) f w) ?_ ?_
 ·refine gC (vN (λf w=>BwI ρ l L.length J (j+1) (i:Nat) f w/\f 23= .bool false) (bLi (l:=[_,_,_,_,_,_,_,_,_,_]) [_,_,_,_,_,_,_,_] [_,_] rfl rfl λro=>yJ gT (K:=λs'=>AllC s'.sl ((14,.c (.v (yvV l)))::(21,.a S.C)::bwG l (i:Nat))/\s'.bl=fwB hd F A k L d1 d3 d4++[]/\s'.fl=[stF A k L]) (λs5 ρ5 f5 w5 ⟨k1,k2,k3⟩ hD6=>?_) ?_ hD5) ?_)
  ·have hJ6:=hmk hJ3 hD6 k2 k3
   have y14:f5 14=yvV l:=uJ k1 hD6 rfl
   have y21:f5 21= .agg (S.C.map aHb).toArray:=by
    have:=k1.hd hD6 (t:=21) (d:=.a S.C) rfl
    generalize f5 21=x at this
    cases this with
    |a h=>rw[h.ex (aLq S)]
   refine RLI.yield (R:=λe W'=>e= .returned (.bool true)/\∃bl',J bl' (j+1) W') rfl rfl rfl bL (aTd y14) (show YieldAt _ _ _ _ #[f5 21] _ _ from by rw[y21];exact hYj w5 hJ6) λe w' ⟨he,hb⟩=>⟨.bool true,he,RLI.val rfl rfl rfl bL (aFr (p:=true) rfl) (RLI.nil (show BwI ρ l L.length J (j+1) (i:Nat) _ _/\_=_ from ⟨⟨hj,hb,?_,?_,?_⟩,rfl⟩))⟩
   ·show f5 0=_;exact uJ k1 hD6 rfl
   ·show f5 1=_;exact bKi k1 hD6 bL rfl
   show f5 3=_;exact uJ k1 hD6 rfl
  ·exact⟨i,bb,⟨rfl,hil,hbb⟩,0,0,⟨bL,hbb⟩,_,⟨hat,rfl⟩,⟨rfl,rfl,rfl,rfl,rfl⟩,rfl,rfl⟩
  intro f6 w6 ⟨hI6,h23⟩
  exact tE h23 (fL hI6)
 intro f7 w7 ⟨j7,⟨bl7,hJ7⟩,b0,b1,b3⟩
 obtain⟨⟨d1,d3,d4,rfl⟩,hn7,hD7⟩:=hX bl7 _ w7 hJ7
 have hi2:((L.length:Nat):Int)-1-(j+1:Nat)=(i:Nat)-1:=by omega
 refine aDv (Sd.wp (K:=⟨λs'=>AllC s'.sl (bwG l ((i:Nat)-1))/\s'.bl=fwB hd F A k L d1 d3 d4++[]/\s'.fl=[stF A k L],λ_ _=>False,λ_=>False⟩) (aC gT mxd ?_) (bwD hD7 hF rfl rfl b0 b1 b3)) (λf' w' ⟨s',ρ',⟨h1,h2,h3⟩,hD'⟩=>⟨j+1,⟨j7,⟨_,hmk hJ7 hD' h2 h3⟩,uJ h1 hD' rfl,bKi h1 hD' bL rfl,by rw[hi2];exact uJ h1 hD' rfl⟩,by omega⟩) (λi f' w' ⟨s',ρ',hh,_⟩=>hh.elim) λf' w' ⟨s',ρ',hh,_⟩=>hh.elim
 exact⟨(i:Int)-1,wi,⟨rfl,rfl,rfl⟩,rfl,rfl⟩
theorem aRi {nb:Nat} {cl:List Bool} {s:SS} {d:DV} {o:OutF} (h:Gt nb ⟨[(0,d)],[],s.bl,s.fl⟩ (λ_:Unit=>⟨[(0,o.d)]++[],[],o.bl,o.fl⟩) λ_=>True) (hcl:ClB cl o.bl):bIg cl nb s d o:=λρ0 w0 ρ w v hD hF hv=>by
 obtain⟨_,ρ',_,hD'⟩:=h ρ0 w0 ρ (λ_=>v) w ⟨hD,⟨λt d' ht=>by
  simp only[iM] at ht
  cases hb:Nat.beq 0 t with
  |true=>(rw[hb] at ht;injection ht with ht;subst ht;exact hv)
  |false=>(rw[hb] at ht;cases ht),λt g d' ht=>(by cases ht)⟩,hF⟩
 exact⟨ρ',hD'.m,hD'.f.sl 0 _ rfl,hcl,hD'.l⟩
theorem bSj {l:List CV} {k0:Nat} {c0 c1:CV} (hk:l[k0]? =some c0) (h:LeC c0 c1):∀(k:Nat) (c c':CV),l[k]? =some c->(l.set k0 c1)[k]? =some c'->LeC c c':=λk c c' h1 h2=>by
 by_cases e:k=k0
 ·subst e
  rw[hk] at h1;injection h1 with h1
  rw[oB (eP hk)] at h2;injection h2 with h2
  subst h1 h2;exact h
 rw[mX (iQ e),h1] at h2
 injection h2 with h2
 subst h2;exact .refl _
theorem bFn {T es:Nat} {A A':Nat->Option Nat} {k k':Nat->Nat} {G G':Nat->List CV} {r:List Fam} (hA:A 0=A' 0) (hk:k 0=k' 0) (hG:G 0=G' 0) (hes:0<es:=by decide):Fsub (⟨T,es,1,A,k,G⟩::r) [⟨T,es,1,A',k',G'⟩]:=by
 refine⟨λf' F' h=>?_,λ_ f f' F F' j j' b h1 h2 hj hj' _ _=>?_⟩
 ·match f',h with
  |0,h=>
   injection h with h
   subst h
   refine⟨hes,λj' hj'=> .inr ⟨0,_,0,rfl,dK 0,?_⟩⟩
   obtain rfl:j'=0:=by replace hj':j'<1:=hj';omega
   exact⟨hA,hk,hG,rfl,rfl⟩
  |f'+1,h=>cases h
 match f,f',h1,h2 with
 |0,0,h1,h2=>
  injection h1 with h1;injection h2 with h2
  subst h1 h2
  replace hj:j<1:=hj
  replace hj':j'<1:=hj'
  exact⟨rfl,by omega⟩
 |f+1,_,h1,_=>cases h1
 |0,f'+1,_,h2=>cases h2
def cDs (M:Nat->List En) (n F:Nat):Option ((Nat->Sl EntM)×LuM×(Nat->Nat)×(Nat->Nat)×(Nat->List En)×(Nat->List En))->OutF
 |none=>⟨.t [.c (.v (.pointer none)),.c (iC 6)],[],[],Ker M n⟩
 |some (c,f,rw,cl,Lw,Up)=>⟨.t [.c (.p 0 0),.c (iC 0)],ivB none n ⟨c,f,none,0,[]⟩,ivF ⟨c,f,none,0,[]⟩,LuG f M n rw cl Lw Up F/\∀j,j<n->Ek (c j).l (trM M n j)⟩
abbrev bFo:FuncId:=7
theorem bZj:Ent Tryz.prog bFo:=bI func7 rfl kR
theorem bZk:Tryz.prog.funcs[bFo]? =some Tryz.f7:=func7
theorem aRj (m:MatM) {M:Nat->List En} {n B:Nat} (h:Mx m M n) (hb:rbM M n B) (h1:1<=B) (hB:bd B n<=17179869184) (hn:n<=12):CtrF Tryz.prog bFo ivL [.a m.C] [] [] (cDs M n (bd B n)):=by
 have hBB:B<=17179869184:=bA (aOc (aF n)) hB
 refine kM gT bZj bZk rfl rfl rfl bL (λi T es l hi=>by cases hi) (aC gT mxd ⟨[],bEy m h hb h1 hB hn,rfl,rfl,rfl,λg hg=>?_⟩)
 match g,hg with
 |none,hg=>exact⟨λ_=>aC gT mxd ⟨none,hg,iY ⟨rfl,rfl⟩ trivial trivial bL bM rfl (λi T es l hi=>by cases hi)⟩,λhh=>absurd (show((6:Int))≠0 by decide) hh⟩
 |some (f,rw,cl,Lw,Up),⟨⟨q1,q2,q3,q4⟩,q5,q6,q7⟩=>
  refine⟨λhh=>absurd rfl hh,λ_=>aC gT mxd ⟨[],bWt m h hb hBB oM,rfl,rfl,rfl,λc hc=>⟨some (c,f,rw,cl,Lw,Up),⟨⟨q1,q2,q3,q4,q5,q6,q7⟩,hc⟩,aRi ?_ (pM (z:=none) (r:=[]))⟩⟩⟩
  show Gt _ _ _ _
  refine bAp tGt 91 5 1 bL ?_
  refine mM tGt 4 ((.s 2 n::(f.C++[CV.v (.slice none 0 0)])).set 9 (.h none 0 0)) rfl rfl (bSj (l:=.s 2 n::(f.C++[CV.v (.slice none 0 0)])) (k0:=9) rfl .nilh) ?_
  refine aGz tGt 0 4 rfl rfl bL bL rfl ⟨_,aQk λ_ _=>rfl,bL,?_⟩
  refine aGz tGt 1 2 rfl rfl bL bL rfl ⟨_,aQk λ_ _=>rfl,bL,?_⟩
  refine Tgt.fsub tGt (fl':=ivF ⟨c,f,none,0,[]⟩) (bFn rfl rfl rfl) ?_
  exact dG (M:=λ_=>true) (base:=[]) (chg:=λ_:Unit=>[(0,.t [.c (.p 0 0),.c (iC 0)])]) (bls:=λ_=>ivB none n ⟨c,f,none,0,[]⟩) (fls:=λ_=>ivF ⟨c,f,none,0,[]⟩) (λt d ht=>by cases ht) () trivial rfl ⟨rfl,rfl⟩ ⟨rfl,trivial⟩ ⟨rfl,rfl⟩ bL (qM (z:=none) (r:=[]) bL bM) rfl
def oMx:Ord:=.joinX [] [2004,2005,2006,7] (.alt 2000 (.alt 2002 (.alt 1 (.alt 3 (.alt 2008 (.alt 9 (trS [2010,2011,2012,13,1014,2015]) (.alt 13 (trS [9,2010,2011,2012,1014,2015]) .nil)) .nil) (.alt 13 (trS [3,2008,9,2010,2011,2012,1014,2015]) .nil)) (.alt 13 (trS [1,3,2008,9,2010,2011,2012,1014,2015]) .nil)) .nil) .nil)
abbrev bFp:FuncId:=10
theorem bZl:Ent Tryz.prog bFp:=bI func10 rfl kR
theorem bZm:Tryz.prog.funcs[bFp]? =some Tryz.f10:=func10
theorem bFq (A:Option Addr) (k:Nat) (v:IvM) {M:Nat->List En} {n B:Nat} (h:∀j,j<n->Ek (v.c j).l (M j)) (ho:∀j,j<n->VOk (M j) (n:Nat)) (hb:rbM M n B) (hB:B<=17179869184) (hn:n<=4096):CtrF Tryz.prog bFp ivL [.c (.p 0 0)] (ivB (some (A,k)) n v) (ivF v) (λg:MatM=>⟨.a g.C,ivB (some (A,k)) n v,ivF v,Mx g (trM M n) n⟩):=by
 have hM:Mx ⟨n,n,⟨A,k,nD v.c n⟩⟩ M n:=⟨rfl,rfl,rO,λj hj=>by
  show Ek ((nD v.c n).getD j fF).l _
  rw[wO hj];exact h j hj,λj hj=>⟨ho j hj,nU (ho j hj)⟩⟩
 refine kM gT bZl bZm rfl rfl rfl bL (pM (r:=[])) (aC gT mxd ?_)
 refine⟨oMx,by kernel_rfl,MatM,λg=>⟨[(3,.c (.p 3 0)),(2,.c (.p 2 0))]++[],[],ivB (some (A,k)) n v++[(24,0,[iC 0,iC 0,.v (.slice none 0 0)]),(24,0,g.C)],ivF v⟩,λg=>Mx g (trM M n) n,⟨⟨[0,1,1000],tK (some (A,k)) n v,rfl,rfl,rfl,λ_ _=>⟨rfl,⟨⟨[0,1,1000],tK (some (A,k)) n v,rfl,rfl,rfl,λ_ _=>⟨rfl,⟨⟨[],aTt ⟨n,n,⟨A,k,nD v.c n⟩⟩ hM hb hB hn,rfl,rfl,rfl,λg hg=>⟨rfl,⟨rfl,?_⟩⟩⟩,⟨rfl,⟨[],aTt ⟨n,n,⟨A,k,nD v.c n⟩⟩ hM hb hB hn,rfl,rfl,rfl,λg hg=>⟨rfl,?_⟩⟩⟩⟩⟩⟩,⟨rfl,⟨[0,1,1000],tK (some (A,k)) n v,rfl,rfl,rfl,λ_ _=>⟨rfl,⟨[],aTt ⟨n,n,⟨A,k,nD v.c n⟩⟩ hM hb hB hn,rfl,rfl,rfl,λg hg=>⟨rfl,?_⟩⟩⟩⟩⟩⟩⟩⟩,⟨rfl,⟨[0,1,1000],tK (some (A,k)) n v,rfl,rfl,rfl,λ_ _=>⟨rfl,⟨[0,1,1000],tK (some (A,k)) n v,rfl,rfl,rfl,λ_ _=>⟨rfl,⟨[],aTt ⟨n,n,⟨A,k,nD v.c n⟩⟩ hM hb hB hn,rfl,rfl,rfl,λg hg=>⟨rfl,?_⟩⟩⟩⟩⟩⟩⟩⟩,λg hg=>?_⟩
 all_goals first|(refine aC gT mxd ?_;skip)|skip
 all_goals first|(exact⟨g,hg,iY rfl ⟨rfl,rfl⟩ ⟨rfl,trivial⟩ bL (qM (r:=[]) bL bM) rfl (pM (r:=[]))⟩)|skip
 all_goals (rename_i g hg;exact dG (M:=λ_=>true) (base:=[]) (chg:=λ_:MatM=>[(3,.c (.p 3 0)),(2,.c (.p 2 0))]) (bls:=λg=>ivB (some (A,k)) n v++[(24,0,[iC 0,iC 0,.v (.slice none 0 0)]),(24,0,g.C)]) (fls:=λ_=>ivF v) (λt d ht=>by cases ht) g hg rfl ⟨rfl,rfl,rfl,rfl⟩ ⟨rfl,trivial⟩ ⟨rfl,rfl⟩ bL (qM bL (aD rfl (aD rfl bM))) rfl)
def SolA (a:Nat->Nat->Rat) (n:Nat) (b xv:Nat->Rat):Prop:=∀x:Nat->Rat,(∀k,k<n->fD (λj=>a k j*x j) n=b k)↔∀c,c<n->x c=xv c
abbrev enM (M:Nat->List En):Nat->Nat->Rat:=λr j=>Vm.get (M r) (j:Nat)
theorem Sol.a {M:Nat->List En} {n:Nat} {b xv:Nat->Rat} (h:Sol M n b xv):SolA (enM M) n b xv:=h
theorem SolA.congr {a a':Nat->Nat->Rat} {n:Nat} {b b' xv xv':Nat->Rat} (h:SolA a n b xv) (ha:∀r j,r<n->j<n->a' r j=a r j) (hb:∀r,r<n->b' r=b r) (hx:∀c,c<n->xv' c=xv c):SolA a' n b' xv':=λx=>by
 have e1:(∀k,k<n->fD (λj=>a' k j*x j) n=b' k)↔∀k,k<n->fD (λj=>a k j*x j) n=b k:=by
  constructor<;>intro hh k hk
  ·rw[<-hb k hk,<-hh k hk];exact dT λj hj=>by rw[ha k j hk hj]
  rw[hb k hk,<-hh k hk];exact dT λj hj=>by rw[ha k j hk hj]
 rw[e1,h x]
 constructor<;>intro hh c hc
 ·rw[hx c hc];exact hh c hc
 rw[<-hx c hc];exact hh c hc
theorem SolA.eq {a:Nat->Nat->Rat} {n:Nat} {b xv:Nat->Rat} (h:SolA a n b xv):∀k,k<n->fD (λj=>a k j*xv j) n=b k:=(h xv).2 λ_ _=>rfl
theorem SolA.uniq {a:Nat->Nat->Rat} {n:Nat} {b xv yv:Nat->Rat} (h:SolA a n b xv) (h':SolA a n b yv):∀c,c<n->xv c=yv c:=(h' xv).1 h.eq
theorem SolA.rep {a a':Nat->Nat->Rat} {n k:Nat} {b z w v:Nat->Rat} {s:StpR} (h:SolA a n b z) (hk:k<n) (hw:∀r,r<n->fD (λj=>a r j*w j) n=v r) (hwk:w k≠0) (ha:∀r j,r<n->j<n->a' r j=if j=k then v r else a r j) (sk:s.k=k) (sp:s.p=w k) (so:∀i,i<n->i≠k->Vm.get s.o (i:Nat)=w i):SolA a' n b (s.ap z):=λx=>by
 obtain⟨y,hy⟩:∃y:Nat->Rat,y=λi=>(if i=k then 0 else x i)+x k*w i:=⟨_,rfl⟩
 have e1:∀r,r<n->fD (λj=>a' r j*x j) n=fD (λj=>a r j*y j) n:=λr hr=>by
  have h1:fD (λj=>a r j*y j) n=fD (λj=>a r j*(if j=k then 0 else x j)) n+x k*v r:=by
   rw[<-hw r hr,<-pU]
   exact dT λj _=>by rw[hy];grind
  have h2:fD (λj=>a' r j*x j) n=fD (λj=>a r j*(if j=k then 0 else x j)+1*(if j=k then x k*v r else 0)) n:=dT λj hj=>by
   rw[ha r j hr hj]
   by_cases e:j=k
   ·subst e;rw[if_pos rfl,if_pos rfl,if_pos rfl];grind
   rw[if_neg e,if_neg e,if_neg e];grind
  rw[h1,h2,pU,qY (m:=k) hk λj hj=>if_neg hj,if_pos rfl,qN]
 have e2:(∀r,r<n->fD (λj=>a' r j*x j) n=b r)↔∀c,c<n->y c=z c:=by
  rw[<-h y]
  exact⟨λhh r hr=>by rw[<-e1 r hr];exact hh r hr,λhh r hr=>by rw[e1 r hr];exact hh r hr⟩
 rw[e2]
 have h9:=mH _ hwk
 have yk:y k=x k*w k:=by rw[hy];show(if k=k then 0 else x k)+x k*w k=_;rw[if_pos rfl,fY]
 have yi:∀i,i≠k->y i=x i+x k*w i:=λi hi=>by rw[hy];show(if i=k then 0 else x i)+x k*w i=_;rw[if_neg hi]
 have ak:s.ap z k=z k/w k:=by unfold StpR.ap;rw[sk,sp,if_pos rfl]
 have ai:∀i,i<n->i≠k->s.ap z i=z i-w i*(z k/w k):=λi hi hn=>by unfold StpR.ap;rw[sk,sp,if_neg hn,so i hi hn]
 constructor
 ·intro hh
  have xk:x k=z k/w k:=by
   have:=hh k hk
   rw[yk] at this
   rw[<-this,jN,pX,h9,nT]
  intro c hc
  by_cases e:c=k
  ·rw[e,ak];exact xk
  rw[ai c hc e,<-xk,<-hh c hc,yi c e];grind
 intro hh c hc
 have xk:=hh k hk
 rw[ak] at xk
 by_cases e:c=k
 ·rw[e,yk,xk,jN,pX,qH _ hwk,nT]
 rw[yi c e,hh c hc,ai c hc e,xk];grind
def skp (p r:Nat):Nat:=if r<p then r else r+1
theorem yX {p r n:Nat} (h:r<n):skp p r<n+1:=by unfold skp;split<;>omega
theorem bFr (p r:Nat):skp p r≠p:=by unfold skp;split<;>omega
theorem bFs {p c n:Nat} (h:c<n+1) (hp:p<n+1) (hc:c≠p):∃i,i<n/\skp p i=c:=by
 by_cases e:c<p
 ·exact⟨c,by omega,if_pos e⟩
 refine⟨c-1,by omega,?_⟩
 unfold skp
 rw[if_neg oM];omega
theorem aCt {f:Nat->Rat} {p:Nat}:∀{n:Nat},p<n+1->fD f (n+1)=f p+fD (λi=>f (skp p i)) n
 |0,h=>by
  obtain rfl:p=0:=by omega
  show(0:Rat)+f 0=f 0+0;grind
 |n+1,h=>by
  show fD f (n+1)+f (n+1)=f p+(fD (λi=>f (skp p i)) n+f (skp p n))
  by_cases e:p=n+1
  ·subst e
   have h1:∀m,m<=n+1->fD (λi=>f (skp (n+1) i)) m=fD f m:=λm hm=>dT λj hj=>by unfold skp;rw[if_pos oM]
   have h2:skp (n+1) n=n:=by unfold skp;rw[if_pos oM]
   rw[h2,h1 n oM]
   show fD f n+f n+f (n+1)=_
   grind
  have h2:skp p n=n+1:=by unfold skp;rw[if_neg oM]
  rw[h2,aCt (f:=f) (p:=p) (n:=n) oM]
  grind
theorem aOd (s:Nat):∀n,bd (4*s+1) n=bd s (n+1)
 |0=>rfl
 |n+1=>by show 4*bd (4*s+1) n+1=4*bd s (n+1)+1;rw[aOd s n]
theorem aLt {a b:Rat} {B B':Nat} (ha:rb a B) (hb:rb b B') (hB:1<=B):rb (a/b) (B+B'):=by
 have h1:=wY (a:=a.num*(b.den:Int)) (b:=(a.den:Int)*b.num)
 have h2:=wZ (a:=a.num*(b.den:Int)) (b:=(a.den:Int)*b.num)
 rw[aXe] at h1 h2
 have p1:=zP a.num.natAbs (b.den:Int).natAbs
 have p2:=zP (a.den:Int).natAbs b.num.natAbs
 rw[<-pA] at p1 p2
 simp only[eD] at p1 p2
 simp only[gU] at h1 h2
 obtain⟨a1,a2⟩:=ha
 obtain⟨b1,b2⟩:=hb
 exact⟨by omega,by omega⟩
theorem SolA.size:∀{n s:Nat} {a:Nat->Nat->Rat} {b xv:Nat->Rat},1<=s->(∀r j,r<n->j<n->rb (a r j) s)->(∀r,r<n->rb (b r) s)->SolA a n b xv->∀i,i<n->rb (xv i) (2*bd s n)
 |0,s,a,b,xv,_,_,_,_,i,hi=>absurd hi (aV _)
 |1,s,a,b,xv,h1,ha,hb,h,i,hi=>by
  obtain rfl:i=0:=by omega
  have he:=h.eq 0 oM
  have he':a 0 0*xv 0=b 0:=by rw[<-he];show _=(0:Rat)+_;grind
  have hne:a 0 0≠0:=λh0=>by
   have h2:=(h λc=>xv c+1).1 λk hk=>by
    obtain rfl:k=0:=by omega
    rw[<-he]
    show(0:Rat)+a 0 0*(xv 0+1)=(0:Rat)+a 0 0*xv 0
    rw[h0];grind
   have:=h2 0 oM
   have h3:(1:Rat)=0:=by grind
   exact absurd h3 dC
  have hx:xv 0=b 0/a 0 0:=by
   rw[<-he',jN,tN (a 0 0),pX,mH _ hne,nT]
  rw[hx]
  exact(aLt (hb 0 oM) (ha 0 0 oM oM) h1).le (by show s+s<=2*(4*s+1);omega)
 |n+2,s,a,b,xv,h1,ha,hb,h,i,hi=>by
  obtain⟨j,hj,hji⟩:∃j,j<n+2/\j≠i:=by
   by_cases e:i=0
   ·exact⟨1,by omega,by omega⟩
   exact⟨0,by omega,by omega⟩
  obtain⟨p,hp,hpj⟩:∃p,p<n+2/\a p j≠0:=fS λhn=>by
   have h0:∀p,p<n+2->a p j=0:=λp hp=>fS λh2=>hn ⟨p,hp,h2⟩
   have h2:=(h (upd xv j (xv j+1))).1 λk hk=>by
    rw[<-h.eq k hk]
    refine dT λc hc=>?_
    by_cases e:c=j
    ·subst e;rw[h0 k hk,fZ,fZ]
    rw[cJ e]
   have:=h2 j hj
   rw[cN] at this
   have h3:(1:Rat)=0:=by grind
   exact absurd h3 dC
  obtain⟨i',hi',hsi⟩:=bFs hi hj (iQ hji)
  have hs:=SolA.size (n:=n+1) (s:=4*s+1) (a:=λr c=>a p j*a (skp p r) (skp j c)-a (skp p r) j*a p (skp j c)) (b:=λr=>a p j*b (skp p r)-a (skp p r) j*b p) (xv:=λc=>xv (skp j c)) oM (λr c hr hc=>?_) (λr hr=>?_) (λx=>?_) i' hi'
  ·rw[aOd,hsi] at hs
   exact hs
  ·have m1:=kU (ha p j hp hj) (ha _ _ (yX (p:=p) hr) (yX (p:=j) hc))
   have m2:=kU (ha _ j (yX (p:=p) hr) hj) (ha p _ hp (yX (p:=j) hc))
   exact(xH m1 m2).le oM
  ·have m1:=kU (ha p j hp hj) (hb _ (yX (p:=p) hr))
   have m2:=kU (ha _ j (yX (p:=p) hr) hj) (hb p hp)
   exact(xH m1 m2).le oM
  have red:∀(y:Nat->Rat) (r:Nat),fD (λc=>(a p j*a (skp p r) (skp j c)-a (skp p r) j*a p (skp j c))*y (skp j c)) (n+1)=a p j*fD (λc=>a (skp p r) c*y c) (n+2)-a (skp p r) j*fD (λc=>a p c*y c) (n+2):=λy r=>by
   rw[aCt (p:=j) hj,aCt (f:=λc=>a p c*y c) (p:=j) hj]
   have e1:fD (λc=>(a p j*a (skp p r) (skp j c)-a (skp p r) j*a p (skp j c))*y (skp j c)) (n+1)=fD (λc=>a p j*(a (skp p r) (skp j c)*y (skp j c))+(-a (skp p r) j)*(a p (skp j c)*y (skp j c))) (n+1):=dT λc _=>by grind
   have e2:∀(f:Nat->Rat) (q:Rat) (m:Nat),fD (λc=>q*f c) m=q*fD f m:=λf q m=>by
    have:=pU (f:=λ_=>(0:Rat)) (g:=f) (q:=q) (n:=m)
    rw[pG λ_ _=>rfl,fY] at this
    rw[<-this]
    exact dT λc _=>by grind
   rw[e1,pU,e2]
   grind
  constructor
  ·intro hx c hc
   obtain⟨y,hy⟩:∃y:Nat->Rat,(∀c,c<n+1->y (skp j c)=x c)/\fD (λc=>a p c*y c) (n+2)=b p:=by
    obtain⟨un,hun⟩:∃un:Nat->Nat,∀c,un (skp j c)=c:=⟨λc=>if c<j then c else c-1,λc=>by
     show(if skp j c<j then skp j c else skp j c-1)=c
     by_cases e:c<j
     ·have:skp j c=c:=if_pos e
      rw[this,if_pos e]
     have:skp j c=c+1:=if_neg e
     rw[this,if_neg oM];rfl⟩
    refine⟨upd (λc=>x (un c)) j ((b p-fD (λc=>a p (skp j c)*x c) (n+1))/a p j),λc _=>by rw[cJ (bFr j c),hun],?_⟩
    rw[aCt (p:=j) hj,cN]
    have e1:fD (λc=>a p (skp j c)*upd (λc=>x (un c)) j ((b p-fD (λc=>a p (skp j c)*x c) (n+1))/a p j) (skp j c)) (n+1)=fD (λc=>a p (skp j c)*x c) (n+1):=dT λc _=>by rw[cJ (bFr j c),hun]
    rw[e1]
    have h9:=mH _ hpj
    generalize a p j=q at h9
    rw[jN]
    have:q*((b p-fD (λc=>a p (skp j c)*x c) (n+1))*q⁻¹)=(b p-fD (λc=>a p (skp j c)*x c) (n+1))*(q*q⁻¹):=by grind
    rw[this,h9];grind
   obtain⟨y1,y2⟩:=hy
   have hyx:=(h y).1 λk hk=>by
    by_cases e:k=p
    ·rw[e];exact y2
    obtain⟨r,hr,rfl⟩:=bFs hk hp e
    have h3:=hx r hr
    rw[dT λc hc=>by rw[<-y1 c hc]] at h3
    rw[red y r,y2] at h3
    have h4:a p j*(fD (λc=>a (skp p r) c*y c) (n+2)-b (skp p r))=0:=by grind
    rcases sZ.1 h4 with h5|h5
    ·exact absurd h5 hpj
    grind
   rw[<-y1 c hc]
   exact hyx _ (yX hc)
  intro hx r hr
  rw[dT λc hc=>by rw[hx c hc],red xv r,h.eq _ (yX hr),h.eq p hp]
abbrev sB (B n:Nat):Nat:=2*bd B n
structure IvT (n:Nat) (f:LuM) (L:List StpM) (a:Nat->Nat->Rat) (F B:Nat) (M:Nat->List En) (rw cl:Nat->Nat) (Lw Up:Nat->List En) (R:List StpR) (am:Nat->Nat->Nat->Rat):Prop where
 g:LuG f M n rw cl Lw Up F
 ln:L.length=R.length
 st:∀j,j<R.length->StpOk (L.getD j default) (R.getD j default) n (sB B n)
 a0:am 0=enM M
 ae:am R.length=a
 sm:∀j,j<=R.length->∀r c,r<n->c<n->rb (am j r c) B
 nx:∀j,j<R.length->∀b z,SolA (am j) n b z->SolA (am (j+1)) n b ((R.getD j default).ap z)
def IvOk (n:Nat) (f:LuM) (L:List StpM) (a:Nat->Nat->Rat) (F B:Nat):Prop:=∃M rw cl Lw Up R am,IvT n f L a F B M rw cl Lw Up R am
theorem IvT.sol {n:Nat} {f:LuM} {L:List StpM} {a:Nat->Nat->Rat} {F B:Nat} {M:Nat->List En} {rw cl:Nat->Nat} {Lw Up:Nat->List En} {R:List StpR} {am:Nat->Nat->Nat->Rat} (h:IvT n f L a F B M rw cl Lw Up R am) {b z:Nat->Rat} (hz:Sol M n b z):∀j,j<=R.length->SolA (am j) n b (aAe (R.take j) z)
 |0,_=>by rw[h.a0];exact hz
 |j+1,hj=>by rw[aAc oM];exact h.nx j oM b _ (h.sol hz j oM)
structure IvB (n F B:Nat):Prop where
 hn:n<=4096
 h1:1<=F
 hF:F<=17179869184
 b1:1<=B
 hB:yb (zb B F n) F n<=17179869184
 hS:sB B n+sB B n<=17179869184
theorem IvB.bs {n F B:Nat} (h:IvB n F B):B<=sB B n:=by
 have:B<=bd B n:=aOc (aF n)
 show B<=2*bd B n
 omega
theorem IvB.sB1 {n F B:Nat} (h:IvB n F B):1<=sB B n:=bA h.b1 h.bs
theorem aRk (z:ZT) (v:IvM) (b:Sl RatM) {n F B:Nat} {a:Nat->Nat->Rat} {bv:Nat->Rat} (h:IvOk n v.f v.L a F B) (hi:IvB n F B) (hb:b.l.length=n) (hbv:∀k,k<n->Cr (b.l.getD k default) (bv k)/\rb (bv k) B) (hLn:v.L.length<=4096):
 CtrF Tryz.prog aCs aRg [.c (.p 0 0),.c (gA b)] (ivB z n v) (ivF v) (λg:(Nat->RatM)×(Nat->Rat)=>⟨.t [.c (.s 2 n),.c (iC 0)],ivB z n v++[(51,3,rtC n g.1)],ivF v,SolA a n bv g.2/\∀i,i<n->Cr (g.1 i) (g.2 i)/\rb (g.2 i) (sB B n)⟩):=by
 obtain⟨M,rw,cl,Lw,Up,R,am,hT⟩:=h
 refine(bFm z v b hT.g hi.h1 hi.hn hb hbv hi.b1 hi.hF hi.hB hT.ln hLn hT.st hi.sB1 hi.hS λx hx j hj i hin=>(hT.sol hx j hj).size hi.b1 (hT.sm j hj) (λr hr=>(hbv r hr).2) i hin).re λ⟨Z,z⟩ ⟨h1,h2⟩=>⟨(Z,aAe R z),⟨?_,h2⟩,rfl,rfl,rfl⟩
 have:=hT.sol h1 R.length (aI _)
 rwa [dE,hT.ae] at this
theorem bFt (v:IvM) (b:Sl RatM) {n F B:Nat} {a:Nat->Nat->Rat} {bv:Nat->Rat} (h:IvOk n v.f v.L a F B) (hi:IvB n F B) (hb:b.l.length=n) (hbv:∀k,k<n->Cr (b.l.getD k default) (bv k)/\rb (bv k) B) (hLn:v.L.length<=4096):
 CtrF Tryz.prog aCs aRg [.c (.p 0 0),.c (gA b)] (ivB none n v) (ivF v) (λg:(Nat->RatM)×(Nat->Rat)=>⟨.t [.c (.s 2 n),.c (iC 0)],ivB none n v++[(51,3,rtC n g.1)],ivF v,SolA a n bv g.2/\∀i,i<n->Cr (g.1 i) (g.2 i)/\rb (g.2 i) (sB B n)⟩):=aRk none v b h hi hb hbv hLn
theorem IvOk.new {n F B:Nat} {f:LuM} {M:Nat->List En} {rw cl:Nat->Nat} {Lw Up:Nat->List En} (h:LuG f M n rw cl Lw Up F) (hM:rbM M n B) (ho:∀r,r<n->Asc (M r)) (h1:1<=B):IvOk n f [] (enM M) F B:=
 ⟨M,rw,cl,Lw,Up,[],λ_=>enM M,h,rfl,λj hj=>absurd hj (aV _),rfl,rfl,λj _ r c hr _=>oH (ho r hr) (hM r hr) h1,λj hj=>absurd hj (aV _)⟩
theorem IvOk.snoc {n F B k:Nat} {f:LuM} {L:List StpM} {a a':Nat->Nat->Rat} {w v:Nat->Rat} {S:StpM} {s:StpR} (h:IvOk n f L a F B) (hs:StpOk S s n (sB B n)) (hk:k<n) (hw:SolA a n v w) (hwk:w k≠0) (ha:∀r j,r<n->j<n->a' r j=if j=k then v r else a r j) (sk:s.k=k) (sp:s.p=w k) (so:∀i,i<n->i≠k->Vm.get s.o (i:Nat)=w i) (hv:∀r,r<n->rb (v r) B):IvOk n f (L++[S]) a' F B:=by
 obtain⟨M,rw,cl,Lw,Up,R,am,hT⟩:=h
 have hl:=hT.ln
 have gl:∀{α:Type} [Inhabited α] (l:List α) (x:α) (j:Nat),j<l.length->(l++[x]).getD j default=l.getD j default:=λl x j hj=>by rw[bF,bW hj,bF]
 have ge:∀{α:Type} [Inhabited α] (l:List α) (x:α),(l++[x]).getD l.length default=x:=λl x=>by rw[bF,cO (aI _),jW];rfl
 refine⟨M,rw,cl,Lw,Up,R++[s],upd am (R.length+1) a',hT.g,by simp[hl],λj hj=>?_,by rw[cJ oM];exact hT.a0,by rw[aP];exact cN,λj hj r c hr hc=>?_,λj hj b z hz=>?_⟩
 ·simp at hj
  by_cases e:j=R.length
  ·subst e;rw[ge R s,<-hl,ge L S];exact hs
  rw[gl R s j oM,gl L S j oM];exact hT.st j oM
 ·simp at hj
  by_cases e:j=R.length+1
  ·subst e
   rw[cN,ha r c hr hc]
   split
   ·exact hv r hr
   rw[<-hT.ae];exact hT.sm _ (aI _) r c hr hc
  rw[cJ e];exact hT.sm j oM r c hr hc
 simp at hj
 by_cases e:j=R.length
 ·subst e
  rw[cN,ge R s]
  rw[cJ oM,hT.ae] at hz
  exact hz.rep hk hw.eq hwk ha sk sp so
 rw[cJ oM,gl R s j oM]
 rw[cJ oM] at hz
 exact hT.nx j oM b z hz
theorem aCu {f:Nat->Rat} {q:Rat} {n:Nat}:fD (λj=>q*f j) n=q*fD f n:=by
 have:=pU (f:=λ_=>(0:Rat)) (g:=f) (q:=q) (n:=n)
 rw[pG λ_ _=>rfl,fY] at this
 rw[<-this]
 exact dT λj _=>by grind
theorem yY {f g:Nat->Rat} {n:Nat}:fD (λj=>f j+g j) n=fD f n+fD g n:=by
 have:=pU (f:=f) (g:=g) (q:=1) (n:=n)
 rw[qN] at this
 rw[<-this]
 exact dT λj _=>by grind
theorem aDq {f:Nat->Nat->Rat} {m:Nat}:∀{n:Nat},fD (λi=>fD (f i) m) n=fD (λj=>fD (λi=>f i j) n) m
 |0=>(pG λ_ _=>rfl).symm
 |n+1=>by
  show fD (λi=>fD (f i) m) n+fD (f n) m=fD (λj=>fD (λi=>f i j) n+f n j) m
  rw[aDq,yY]
theorem aIx {f:Nat->Rat} {m:Nat}:∀{n:Nat},m<=n->(∀j,m<=j->j<n->f j=0)->fD f n=fD f m
 |0,h,_=>by rw[Nat.le_zero.1 h]
 |n+1,h,h0=>by
  by_cases e:m=n+1
  ·rw[e]
  show fD f n+f n=_
  rw[aIx oM λj h1 h2=>h0 j h1 oM,h0 n oM (dK n),cE]
theorem aOe {f:Nat->Rat}:∀(n:Nat),fD f n=dtl ((List.range n).map λi:Nat=>((i:Int),(1:Rat))) f
 |0=>rfl
 |n+1=>by
  rw[kD,dI,aFk,<-aOe n]
  show _+_=_+((1:Rat)*f (Int.toNat (n:Nat))+0)
  rw[bP,qN,cE]
theorem aWm {f:Nat->Rat} {n:Nat} {r:Nat->Nat} (h:∀j,j<n->r j<n) (hi:∀i j,i<n->j<n->r i=r j->i=j):fD (λk=>f (r k)) n=fD f n:=by
 have h1:dtl ((List.range n).map λk:Nat=>(((r k:Nat):Int),(1:Rat))) f=fD (λk=>f (r k)) n:=by
  clear h hi
  induction n with
  |zero=>rfl
  |succ n ih=>
   rw[kD,dI,aFk,ih]
   show _+((1:Rat)*f (Int.toNat (r n:Nat))+0)=_+_
   rw[bP,qN,cE]
 rw[<-h1,aOe]
 refine aOb ((List.perm_ext_iff_of_nodup ?_ ?_).2 λe=>?_)
 ·rw[eB,kA]
  refine(eB.1 rT).imp_of_mem λ{a b} ha hb hab he=>hab (hi a b (eA.1 ha) (eA.1 hb) (by injection he with he;exact lO he))
 ·rw[eB,kA]
  exact(eB.1 rT).imp λhab he=>hab (by injection he with he;exact lO he)
 rw[cP,cP]
 constructor
 ·rintro⟨k,hk,rfl⟩;exact⟨r k,eA.2 (h k (eA.1 hk)),rfl⟩
 rintro⟨i,hk,rfl⟩
 obtain⟨j,hj,rfl⟩:=uZ h hi i (eA.1 hk)
 exact⟨j,eA.2 hj,rfl⟩
theorem uA (a:Rat):a-0=a:=by grind
def fwT (us:Nat->List En) (p:Nat->Rat) (c:Nat->Rat):Nat->Nat->Rat
 |0=>c
 |i+1=>λj=>if j=i then fwT us p c i i/p i else fwT us p c i j-Vm.get (us i) (j:Nat)*(fwT us p c i i/p i)
def bkT (lo:Nat->List En) (n:Nat) (y:Nat->Rat):Nat->Nat->Rat
 |0=>y
 |k+1=>λj=>bkT lo n y k j-Vm.get (lo (n-1-k)) (j:Nat)*bkT lo n y k (n-1-k)
section
variable {n:Nat} {Lw Up lo us:Nat->List En} {p c y:Nat->Rat} (hP:LuP n Lw Up lo us p)
include hP
theorem bSk {i j:Nat} (hi:i<n) (hj:j<=i):Vm.get (us i) (j:Nat)=0:=mS λe he h=>by have:=((hP.us i hi).2.1 e he).1;omega
theorem cDt {i j:Nat} (hi:i<n) (hj:i<=j):Vm.get (lo i) (j:Nat)=0:=mS λe he h=>by have:=((hP.lo i hi).2.2 e he).2.1;omega
theorem bFu {i j:Nat} (hi:i<n):Vm.get (Up i) (j:Nat)=if j=i then p i else Vm.get (us i) (j:Nat):=by
 rw[(hP.us i hi).1,nJ]
 by_cases e:j=i
 ·subst e;rw[if_pos rfl,if_pos rfl,bSk hP hi (aI _),cE]
 rw[if_neg e,if_neg (by show ¬(i:Int)=(j:Nat);omega),fY]
theorem bZn {i j:Nat} (hi:i<n):Vm.get (Lw i) (j:Nat)=Vm.get (lo i) (j:Nat)+if j=i then 1 else 0:=by
 rw[(hP.lo i hi).1,mZ,nJ]
 show _+((if (i:Int)=(j:Nat) then (1:Rat) else 0)+0)=_
 by_cases e:j=i
 ·subst e;rw[if_pos rfl,if_pos rfl,cE]
 rw[if_neg e,if_neg oM,cE]
theorem aRl {j:Nat}:∀{k:Nat},j<k->k<=n->fwT us p c k j=fwT us p c j j/p j
 |0,h,_=>absurd h (aV _)
 |k+1,h,hk=>by
  by_cases e:j=k
  ·subst e;exact if_pos rfl
  show(if j=k then _ else _)=_
  rw[if_neg e,bSk hP oM oM,fZ,uA,aRl oM oM]
theorem aUl {j:Nat} (hj:j<n):∀{k:Nat},k<=j->fwT us p c k j+fD (λi=>fwT us p c n i*Vm.get (Up i) (j:Nat)) k=c j
 |0,_=>by show c j+(0:Rat)=_;rw[cE]
 |k+1,hk=>by
  rw[<-aUl hj (k:=k) oM]
  show(if j=k then _ else _)+(fD _ k+_*_)=_
  rw[if_neg oM,aRl hP (j:=k) oM (aI n),bFu hP oM,if_neg oM]
  grind
theorem bKj {j:Nat} (hj:j<n):fD (λi=>fwT us p c n i*Vm.get (Up i) (j:Nat)) n=c j:=by
 have h1:=aUl hP (c:=c) hj (aI j)
 rw[aIx (m:=j+1) oM λi h1 h2=>by rw[bFu hP h2,if_neg oM,bSk hP h2 oM,iH]]
 show fD _ j+_*_=_
 rw[bFu hP hj,if_pos rfl,aRl hP hj (aI n),<-h1,jN,pX,qH _ (hP.p j hj)]
 grind
theorem aRm {j k:Nat} (hj:j<n):∀{d:Nat},n-1-k<=j->k+d<=n->bkT lo n y (k+d) j=bkT lo n y k j
 |0,_,_=>rfl
 |d+1,h,hk=>by
  show bkT lo n y (k+d) j-Vm.get (lo (n-1-(k+d))) (j:Nat)*bkT lo n y (k+d) (n-1-(k+d))=_
  rw[cDt hP oM oM,fZ,uA,aRm hj h oM]
theorem aUm {j:Nat}:∀{k:Nat},k<=n->bkT lo n y k j+fD (λi=>if n-k<=i then bkT lo n y n i*Vm.get (lo i) (j:Nat) else 0) n=y j
 |0,_=>by rw[pG λi hi=>if_neg oM,cE];rfl
 |k+1,hk=>by
  rw[<-aUm (k:=k) oM]
  have e1:fD (λi=>if n-(k+1)<=i then bkT lo n y n i*Vm.get (lo i) (j:Nat) else 0) n=fD (λi=>(if n-k<=i then bkT lo n y n i*Vm.get (lo i) (j:Nat) else 0)+(if i=n-1-k then bkT lo n y n i*Vm.get (lo i) (j:Nat) else 0)) n:=dT λi hi=>by
   by_cases e2:n-k<=i
   ·rw[if_pos e2,if_pos oM,if_neg oM,cE]
   rw[if_neg e2]
   by_cases e3:i=n-1-k
   ·rw[if_pos e3,if_pos oM,fY]
   rw[if_neg e3,if_neg oM,cE]
  have e2:bkT lo n y n (n-1-k)=bkT lo n y k (n-1-k):=by
   have:=aRm hP (y:=y) (j:=n-1-k) (k:=k) oM (d:=n-k) (aI _) oM
   rwa [show k+(n-k)=n by omega] at this
  rw[e1,yY,qY (f:=λi=>if i=n-1-k then bkT lo n y n i*Vm.get (lo i) (j:Nat) else 0) (m:=n-1-k) oM λi hi=>if_neg hi,if_pos rfl,e2]
  show bkT lo n y k j-_*_+_=_
  grind
theorem bKk {j:Nat} (hj:j<n):fD (λi=>bkT lo n y n i*Vm.get (Lw i) (j:Nat)) n=y j:=by
 rw[<-aUm hP (y:=y) (j:=j) (aI n)]
 have e1:fD (λi=>bkT lo n y n i*Vm.get (Lw i) (j:Nat)) n=fD (λi=>(if n-n<=i then bkT lo n y n i*Vm.get (lo i) (j:Nat) else 0)+(if i=j then bkT lo n y n i else 0)) n:=dT λi hi=>by
  rw[bZn hP hi,show(if n-n<=i then bkT lo n y n i*Vm.get (lo i) (j:Nat) else 0)=bkT lo n y n i*Vm.get (lo i) (j:Nat) from if_pos oM]
  by_cases e:i=j
  ·subst e;rw[if_pos rfl,if_pos rfl];grind
  rw[if_neg e,if_neg (iQ e)];grind
 rw[e1,yY,qY (f:=λi=>if i=j then bkT lo n y n i else 0) hj λi hi=>if_neg hi,if_pos rfl]
 grind
end
def TEq (a:Nat->Nat->Rat) (n:Nat) (c y:Nat->Rat):Prop:=∀j,j<n->fD (λr=>y r*a r j) n=c j
theorem aOf {n j:Nat} {es:List En} (hj:j<n):dtn n es (λi=>if i=j then 1 else 0)=Vm.get es (j:Nat):=by
 show fD (λi=>Vm.get es (i:Nat)*(if i=j then 1 else 0)) n=_
 rw[qY (m:=j) hj λi hi=>by rw[if_neg hi,iH],if_pos rfl,nT]
theorem LuOk.solT {M:Nat->List En} {n:Nat} {rw cl:Nat->Nat} {Lw Up lo us:Nat->List En} {p:Nat->Rat} (h:LuOk M n rw cl Lw Up) (hP:LuP n Lw Up lo us p) {c xv:Nat->Rat} (hx:∀i,i<n->xv (rw i)=bkT lo n (fwT us p (λj=>c (cl j)) n) n i):TEq (enM M) n c xv:=λq hq=>by
 obtain⟨j,hj,rfl⟩:=uZ h.clt h.cinj q hq
 have e1:∀k,k<n->Vm.get (M (rw k)) (cl j:Nat)=fD (λi=>Vm.get (Lw k) (i:Nat)*Vm.get (Up i) (j:Nat)) n:=λk hk=>by
  have:=h.eq k hk λi=>if i=cl j then 1 else 0
  rw[aOf hq,aAb λe he=>?_] at this
  ·rw[this]
   refine dT λi hi=>?_
   rw[<-aOf (es:=Up i) hj]
   exact congrArg (Vm.get (Lw k) (i:Nat)*·) (dT λt ht=>by
    show _*(if cl t=cl j then (1:Rat) else 0)=_*(if t=j then (1:Rat) else 0)
    by_cases e:t=j
    ·subst e;rw[if_pos rfl,if_pos rfl]
    rw[if_neg e,if_neg λe2=>e (h.cinj t j ht hj e2)])
  rw[(hP.lo k hk).1] at he
  rcases bB.1 he with he|he
  ·have:=(hP.lo k hk).2.2 e he;omega
  rw[aT.1 he];exact⟨by show(0:Int)<=(k:Nat);omega,by show(k:Int)<_;omega⟩
 rw[<-aWm (f:=λr=>xv r*enM M r (cl j)) h.rlt h.rinj]
 have e2:fD (λk=>xv (rw k)*enM M (rw k) (cl j)) n=fD (λk=>fD (λi=>bkT lo n (fwT us p (λj=>c (cl j)) n) n k*Vm.get (Lw k) (i:Nat)*Vm.get (Up i) (j:Nat)) n) n:=dT λk hk=>by
  rw[hx k hk,show enM M (rw k) (cl j)=_ from e1 k hk,<-aCu]
  exact dT λi _=>by grind
 have e3:fD (λi=>fD (λk=>bkT lo n (fwT us p (λj=>c (cl j)) n) n k*Vm.get (Lw k) (i:Nat)*Vm.get (Up i) (j:Nat)) n) n=fD (λi=>fwT us p (λj=>c (cl j)) n i*Vm.get (Up i) (j:Nat)) n:=dT λi hi=>by
  rw[<-bKk hP (y:=fwT us p (λj=>c (cl j)) n) hi,tN,<-aCu]
  exact dT λk _=>by grind
 rw[e2,aDq,e3,bKj hP hj]
def NS (a:Nat->Nat->Rat) (n:Nat):Prop:=∀b,∃x,SolA a n b x
theorem LuOk.ns {M:Nat->List En} {n:Nat} {rw cl:Nat->Nat} {Lw Up:Nat->List En} (h:LuOk M n rw cl Lw Up):NS (enM M) n:=λb=>by
 obtain⟨lo,us,p,hP⟩:=h.parts
 obtain⟨xv,hx⟩:=aLo h.clt h.cinj (bwd us p n (fwd lo (λi=>b (rw i)) n) n)
 exact⟨xv,h.sol hP hx⟩
theorem TEq.dot {a:Nat->Nat->Rat} {n:Nat} {b c x y:Nat->Rat} (h:TEq a n c y) (hx:∀r,r<n->fD (λj=>a r j*x j) n=b r):fD (λr=>y r*b r) n=fD (λj=>c j*x j) n:=by
 have e1:fD (λr=>y r*b r) n=fD (λr=>fD (λj=>y r*a r j*x j) n) n:=dT λr hr=>by
  rw[<-hx r hr,<-aCu]
  exact dT λj _=>by grind
 rw[e1,aDq]
 exact dT λj hj=>by
  rw[<-h j hj,tN,<-aCu]
  exact dT λr _=>by grind
theorem aDr {f:Nat->Rat} {n k:Nat} (hk:k<n):fD (λr=>f r*(if r=k then 1 else 0)) n=f k:=by
 rw[qY (m:=k) hk λj hj=>by rw[if_neg hj,iH],if_pos rfl,nT]
theorem TEq.uniq {a:Nat->Nat->Rat} {n:Nat} {c y y':Nat->Rat} (hN:NS a n) (h:TEq a n c y) (h':TEq a n c y'):∀k,k<n->y k=y' k:=λk hk=>by
 obtain⟨x,hx⟩:=hN λr=>if r=k then 1 else 0
 have h1:=h.dot hx.eq
 have h2:=h'.dot hx.eq
 rw[aDr hk] at h1 h2
 rw[h1,h2]
theorem TEq.sol {a:Nat->Nat->Rat} {n:Nat} {c y:Nat->Rat} (hN:NS a n) (h:TEq a n c y):SolA (λi j=>a j i) n c y:=λx=>by
 constructor
 ·intro hx
  exact TEq.uniq hN (λj hj=>by rw[<-hx j hj];exact dT λr _=>tN _ _) h
 intro hx j hj
 rw[<-h j hj]
 exact dT λr hr=>by rw[hx r hr,tN]
theorem aLu {g:Nat->Rat} {b:Nat} (h0:1<=b):∀{m:Nat},(∀j,j<m->rb (g j) b)->rb (fD g m) (1+m*(b+1))
 |0,_=>by rw[lH];exact⟨by show len 0<=1;decide,by show len 1<=1;decide⟩
 |m+1,h=>by
  have:=aCj (aLu h0 (m:=m) λj hj=>h j oM) (h m oM)
  exact this.le (by rw[eN];omega)
abbrev bFv:FuncId:=96
theorem bZo:Ent Tryz.prog bFv:=bI func96 rfl kR
theorem bZp:Tryz.prog.funcs[bFv]? =some Tryz.f96:=func96
theorem bSl (r s:RatM) {a b:Rat} (hr:Rq r a 137438953472) (hs:Rq s b 137438953472):Ctr Tryz.prog bFv [] [.a r.C,.a s.C] [] (uI (a*b)):=by
 have ha:=hr.rb
 have hb:=hs.rb
 have m1:=aCg ha.1 (b:=b.num) hb.1
 have m2:=aCg (a:=(a.den:Int)) (b:=(b.den:Int)) ha.2 hb.2
 refine cY gT bZo bZp rfl rfl rfl bL cD (aC gT mxd ⟨.seq [(0,false),(3,false),(7,false),(9,false),(1,false),(2,false),(4,false),(5,false),(6,false),(8,false),(10,false),(11,false),(12,false),(13,true)],by kernel_rfl,[],kN r hr.le,rfl,rfl,rfl,λx hx=>⟨[],kN s hs.le,rfl,rfl,rfl,λy hy=>⟨[],aHe x.n y.n (a:=a.num) (b:=b.num) (Ci.in hx.1 (ha.le).1) (Ci.in hy.1 (hb.le).1),rfl,rfl,rfl,λp1 h2=>⟨[],aDk r hr.le,rfl,rfl,rfl,λd1 h3=>⟨[],aDk s hs.le,rfl,rfl,rfl,λd2 h4=>⟨[],aHe d1 d2 (Ci.in h3 (ha.le).2) (Ci.in h4 (hb.le).2),rfl,rfl,rfl,λp2 h5=>⟨[],aCf p1 p2 (Ci.in h2 oM) (Ci.in h5 oM),rfl,rfl,rfl,λg hg=>⟨g,?_,cM rfl rfl trivial⟩⟩⟩⟩⟩⟩⟩⟩)
 rw[<-aMj];exact hg
def aRn (ps qs:List Rat) (n:Nat):Rat:=fD (λj=>ps.getD j 0*qs.getD j 0) n
abbrev dtG (x y:Sl RatM) (i:Nat):List (Nat×DV):=[(7,.c (iC i)),(6,.c (.p 1 0)),(4,.c (.p 0 0)),(0,.c (gA x)),(1,.c (gA y))]
abbrev dtB (s:RatM):BL:=[(51,0,yP),(51,0,s.C)]
theorem bFw {s:RatM}:scB 2 (dtB s):=aD rfl (aD rfl bM)
theorem bKl {ps qs:List Rat} {B:Nat} (hp:rbL ps B) (hq:rbL qs B) (hn:qs.length=ps.length) (h1:1<=B):∀i,i<=ps.length->rb (aRn ps qs i) (1+i*(B+B+1)):=λi hi=>aLu (b:=B+B) oM λj hj=>kU (hp _ (gD0 oM)) (hq _ (gD0 oM))
abbrev bFx:FuncId:=57
theorem bZq:Ent Tryz.prog bFx:=bI func57 rfl kR
theorem bZr:Tryz.prog.funcs[bFx]? =some Tryz.f57:=func57
theorem bSm (x y:Sl RatM) {ps qs:List Rat} {B:Nat} (hx:Rl x.l ps) (hy:Rl y.l qs) (hp:rbL ps B) (hq:rbL qs B) (hn:qs.length=ps.length) (h1:1<=B) (hB:1+(ps.length+1)*(B+B+1)<=137438953472) (hl:ps.length<=4096):Ctr Tryz.prog bFx [] [.c (gA x),.c (gA y)] [] (λg:RatM=>⟨.t [.a g.C,.c (.v (.bool true))],[],Cr g (aRn ps qs ps.length)⟩):=by
 have lx:=hx.ln
 have ly:=hy.ln
 have hxy:((x.l.length:Nat):Int)=(y.l.length:Nat):=by omega
 have hBB:B+B+1<=137438953472:=by rw[eN] at hB;omega
 refine cY gT bZq bZr rfl rfl rfl bL cD (aC gT mxd ⟨λhh=>absurd hxy hh,λ_=>aC gT mxd ⟨[],aAv,rfl,rfl,rfl,λz hz=>?_⟩⟩)
 show Sd _ _ _ _ _ _
 refine eW (λ_=>true) (λg:Nat×RatM=>dtG x y g.1) (λg=>dtB g.2) (λ_=>[]) (λg=>g.1<=ps.length/\Cr g.2 (aRn ps qs g.1)) (λg=>ps.length-g.1) λhM=>⟨dG hM (chg:=λg:Nat×RatM=>dtG x y g.1) (bls:=λg=>dtB g.2) (fls:=λ_=>[]) (0,z) ⟨aF _,hz⟩ rfl ⟨rfl,rfl⟩ trivial ⟨rfl,rfl,rfl,rfl,rfl⟩ bL bFw rfl,λ⟨i,s⟩ ⟨hi,hs⟩=>aC gT mxd ⟨λh3=>aC gT mxd ?_,λh3=>aC gT mxd ?_⟩⟩
 all_goals
  replace hi:i<=ps.length:=hi
  replace hs:Cr s (aRn ps qs i):=hs
 ·replace h3:(i:Int)<(x.l.length:Nat):=h3
  have hil:i<ps.length:=by omega
  have e1:=hx.e i hil
  have e2:=hy.e i oM
  have b1:=hp _ (gD0 (k:=i) hil)
  have b2:=hq _ (gD0 (k:=i) oM)
  have hm:=kU b1 b2
  have hsb:=bKl hp hq hn h1 i hi
  have hle:i*(B+B+1)<=(ps.length+1)*(B+B+1):=bK _ oM
  refine⟨.seq ((List.range 12).map λi=>(i,i==11)),by kernel_rfl,i,⟨rfl,show i<x.l.length by omega⟩,i,⟨rfl,show i<y.l.length by omega⟩,[],bSl (x.l.getD i default) (y.l.getD i default) (e1.rq (b1.le oM)) (e2.rq (b2.le oM)),rfl,rfl,rfl,λm hmc=>⟨[],aKu s m (hs.rq (hsb.le oM)) (Cr.rq hmc (hm.le oM)),rfl,rfl,rfl,λg hg=>⟨(i+1:Nat),wi,dG hM (chg:=λg:Nat×RatM=>dtG x y g.1) (bls:=λg=>dtB g.2) (fls:=λ_=>[]) (i+1,g) ⟨⟨hil,hg⟩,show ps.length-(i+1)<ps.length-i by omega⟩ rfl ⟨rfl,rfl⟩ trivial ⟨rfl,rfl,rfl,rfl,rfl⟩ bL bFw rfl⟩⟩⟩
 replace h3:¬(i:Int)<(x.l.length:Nat):=h3
 obtain rfl:i=ps.length:=by omega
 exact aC gT mxd ⟨s,hs,cM ⟨rfl,rfl⟩ rfl trivial⟩
def aDs (M:Nat->List En) (qs:List Rat) (n i:Nat):List Rat:=(List.range i).map λr=>aRn (dnL (M r) n) qs n
abbrev apG (x:Sl RatM) (e:Sl (Sl RatM)) (i:Nat) (L:List RatM):List (Nat×DV):=[(8,.c (iC i)),(6,.c (.s 1 L.length)),(7,.c (aHo e)),(2,.c (.p 0 0)),(1,.c (gA x))]
abbrev apB (m:MatM) (L:List RatM):BL:=[(24,0,m.C),(51,3,fl RatM.C default L)]
theorem bFy {m:MatM} {L:List RatM}:scB 2 (apB m L):=aD rfl (aD (cZ (yT gY)) bM)
abbrev aUn:FuncId:=26
theorem bZs:Ent Tryz.prog aUn:=bI func26 rfl kR
theorem bZt:Tryz.prog.funcs[aUn]? =some Tryz.f26:=func26
theorem bSn (m:MatM) (x:Sl RatM) {M:Nat->List En} {qs:List Rat} {n B:Nat} (h:Mx m M n) (hb:rbM M n B) (h1:1<=B) (hn:n<=4096) (hx:Rl x.l qs) (hq:rbL qs B) (hqn:qs.length=n) (hB:1+(n+1)*(B+B+1)<=137438953472):Ctr Tryz.prog aUn [] [.a m.C,.c (gA x)] [] (λg:Sl RatM=>⟨.t [.c (gA g),.c (iC 0)],[],Rl g.l (aDs M qs n n)⟩):=by
 obtain⟨mr,mc,md⟩:=m
 obtain rfl:mr=(n:Nat):=h.r
 obtain rfl:mc=(n:Nat):=h.c
 have hBB:B+B+1<=137438953472:=by rw[eN] at hB;omega
 have lx:=hx.ln
 have hxn:((x.l.length:Nat):Int)=(n:Nat):=by omega
 refine cY gT bZs bZt rfl rfl rfl bL cD (aC gT mxd ⟨[],bRa ⟨(n:Nat),(n:Nat),md⟩ h (λi hi e he=>(hb i hi e he).le oM) hn,rfl,rfl,rfl,λ_ _=>⟨λhh=>absurd trivial hh,λ_=>aC gT mxd ⟨λhh=>absurd hxn hh,λ_=>aC gT mxd ?_⟩⟩⟩)
 refine⟨[],bRe ⟨(n:Nat),(n:Nat),md⟩ h hb h1 oM hn,rfl,rfl,rfl,λe he=>?_⟩
 replace he:Rr e (λi=>dnL (M i) n) n n:=he
 refine aKg 6 51 3 rfl bL ?_
 refine eW (λ_=>true) (λg:Nat×List RatM=>apG x e g.1 g.2) (λg=>apB ⟨(n:Nat),(n:Nat),md⟩ g.2) (λ_=>[]) (λg=>g.1<=n/\Rl g.2 (aDs M qs n g.1)) (λg=>n-g.1) λhM=>⟨dG hM (chg:=λg:Nat×List RatM=>apG x e g.1 g.2) (bls:=λg=>apB ⟨(n:Nat),(n:Nat),md⟩ g.2) (fls:=λ_=>[]) (0,[]) ⟨aF _,⟨rfl,λk hk=>absurd hk (aV _)⟩⟩ rfl ⟨rfl,rfl⟩ trivial ⟨rfl,rfl,rfl,rfl,rfl⟩ bL bFy rfl,λ⟨i,L⟩ ⟨hi,hL⟩=>aC gT mxd ⟨λh3=>aC gT mxd ?_,λh3=>aC gT mxd ?_⟩⟩
 all_goals
  replace hi:i<=n:=hi
  replace hL:Rl L (aDs M qs n i):=hL
  have hl:L.length=i:=hL.ln.trans (by simp[aDs])
 ·have hin:i<n:=by replace h3:(i:Int)<(n:Nat):=h3;omega
  have ap:∀g:RatM,1*3=g.C.length/\L.length*3=(fl RatM.C default L).length/\L.length+1<=maxLen/\(L.length+1)*56<=140737488355328/\∀c∈fl RatM.C default L++g.C,nA 1 c=false:=λg=>⟨rfl,(sP (f:=RatM.C) (d:=default) (L:=L) (e:=3) λ_=>rfl).symm,by simp only[maxLen];omega,by omega,λc hc=>(bB.1 hc).elim (λh=>jV (yT gY c h)) (oX _ c)⟩
  have sn:∀g:RatM,((51,3,fl RatM.C default L++g.C):TypeId×Nat×List CV)=(51,3,fl RatM.C default (L++[g])):=λg=>by rw[aCm]
  obtain⟨hr1,hr2⟩:=he.row i hin
  have hrb:rbL (dnL (M i) n) B:=λq hq=>by
   rw[List.mem_iff_getElem] at hq
   obtain⟨k,hk,rfl⟩:=hq
   have:=aHj (es:=M i) (n:=n) (k:=k) (by rw[rY] at hk;exact hk)
   rw[bF,aK hk] at this
   rw[show(dnL (M i) n)[k]=_ from this]
   exact oH (h.ok i hin).1.1 (hb i hin) h1
  have hd:=bSm (e.l.getD i fF) x hr1 hx hrb hq (by rw[hr2];exact hqn) h1 (by rw[hr2];exact hB) (by rw[hr2];exact hn)
  rw[hr2] at hd
  refine⟨i,⟨rfl,show i<e.l.length by rw[he.ln];exact hin⟩,[],hd,rfl,rfl,rfl,λg hg=>⟨ap g,oX _,(i+1:Nat),wi,dG hM (chg:=λg:Nat×List RatM=>apG x e g.1 g.2) (bls:=λg=>apB ⟨(n:Nat),(n:Nat),md⟩ g.2) (fls:=λ_=>[]) (i+1,L++[g]) ⟨⟨hin,?_⟩,show n-(i+1)<n-i by omega⟩ rfl ⟨rfl,sn _⟩ trivial ⟨rfl,by show L.length+1=(L++[g]).length;simp,rfl,rfl,rfl⟩ bL bFy rfl⟩⟩
  show Rl (L++[g]) (aDs M qs n (i+1))
  rw[show aDs M qs n (i+1)=aDs M qs n i++[aRn (dnL (M i) n) qs n] by simp[aDs,kD]]
  exact zZ hL hg
 obtain rfl:n=i:=by replace h3:¬(i:Int)<(n:Nat):=h3;omega
 show Sd _ _ _ _ _ _
 exact aKi 6 1 (λj=>(L.getD j default).C) rfl rfl (λj hj=>aHm (f:=RatM.C) (d:=default) (L:=L) (e:=3) (λ_=>rfl) j hj) (sP (f:=RatM.C) (d:=default) (L:=L) (e:=3) λ_=>rfl).symm bL (yT gY) bL λA c _ _=>aC gT mxd ⟨(⟨A,c,L⟩:Sl RatM),hL,jO ⟨rfl,rfl⟩ trivial bL bM rfl cD⟩
def zT (B F:Nat):Nat->Nat
 |0=>B
 |k+1=>2*zT B F k+2*F+1
theorem aIy {B F k n:Nat} (h:k<=n):zT B F k<=zT B F n:=by
 induction h with
 |refl=>exact aI _
 |step _ ih=>exact bA ih (by show _<=2*zT B F _+2*F+1;omega)
theorem aUo {l:List En} (ha:Asc l) (t:Nat) (j:Int):Vm.get (l.take t) j=0\/Vm.get (l.take t) j=Vm.get l j:=by
 by_cases h:∃e∈l.take t,e.1=j
 ·refine .inr ?_
  obtain⟨e,he,rfl⟩:=h
  have e1:Vm.get l e.1=Vm.get (l.take t) e.1+Vm.get (l.drop t) e.1:=by rw[<-mZ,fG]
  have ha':Asc (l.take t++l.drop t):=by rw[fG];exact ha
  rw[e1,mS (a:=l.drop t) λf hf h=>by
   have:e.1<f.1:=(hH.1 ha').2.2 e he f hf
   omega,cE]
 exact .inl (mS λe he h2=>h ⟨e,he,h2⟩)
theorem aUp {l:List En} {t j0:Nat} (h:t<l.length) (he:(l.getD t default).1=(j0:Nat)) (j:Nat):Vm.get (l.take (t+1)) (j:Nat)=Vm.get (l.take t) (j:Nat)+if j=j0 then (l.getD t default).2 else 0:=by
 rw[yV h,mZ,nJ,he]
 show _+(_+(0:Rat))=_
 rw[cE]
 by_cases e:j=j0
 ·rw[if_pos e,if_pos oM]
 rw[if_neg e,if_neg oM]
section
variable {n F B:Nat} {Lw Up lo us:Nat->List En} {p c y:Nat->Rat} (hP:LuP n Lw Up lo us p) (h1:1<=F)
def aLv (us:Nat->List En) (p c:Nat->Rat) (i t:Nat):Nat->Rat:=λj=>if j=i then fwT us p c i i/p i else fwT us p c i j-Vm.get ((us i).take t) (j:Nat)*(fwT us p c i i/p i)
def aIc (lo:Nat->List En) (n:Nat) (y:Nat->Rat) (k t:Nat):Nat->Rat:=λj=>bkT lo n y k j-Vm.get ((lo (n-1-k)).take t) (j:Nat)*bkT lo n y k (n-1-k)
include h1
theorem aUq {i t j:Nat} (hi:i<n) (hj:j<n) (hp:rb (p i) F) (ha:Asc (us i)) (hb:rbE (us i) F) (h:∀j,j<n->rb (fwT us p c i j) (zT B F i)) (hB:1<=B):rb (aLv us p c i t j) (zT B F (i+1)):=by
 have g1:1<=zT B F i:=bA hB (aIy (aF i))
 have e1:zT B F (i+1)=2*zT B F i+2*F+1:=rfl
 have hy:=aLt (h i hi) hp g1
 unfold aLv
 by_cases e:j=i
 ·rw[if_pos e];exact hy.le oM
 rw[if_neg e]
 rcases aUo ha t j with h2|h2
 ·rw[h2,fZ,uA];exact(h j hj).le oM
 rw[h2];exact(xH (h j hj) (kU (oH ha hb h1) hy)).le oM
theorem bFz (hp:∀i,i<n->rb (p i) F) (ha:∀i,i<n->Asc (us i)/\rbE (us i) F) (hc:∀j,j<n->rb (c j) B) (hB:1<=B):∀i,i<=n->∀j,j<n->rb (fwT us p c i j) (zT B F i)
 |0,_,j,hj=>hc j hj
 |i+1,hi,j,hj=>by
  have:=aUq h1 (t:=(us i).length) (show i<n by omega) hj (hp i oM) (ha i oM).1 (ha i oM).2 (bFz hp ha hc hB i oM) hB
  unfold aLv at this
  rwa [dE] at this
theorem aUr {k t j:Nat} (hk:k<n) (hj:j<n) (ha:Asc (lo (n-1-k))) (hb:rbE (lo (n-1-k)) F) (h:∀j,j<n->rb (bkT lo n y k j) (zT B F k)):rb (aIc lo n y k t j) (zT B F (k+1)):=by
 have e1:zT B F (k+1)=2*zT B F k+2*F+1:=rfl
 unfold aIc
 rcases aUo ha t j with h2|h2
 ·rw[h2,fZ,uA];exact(h j hj).le oM
 rw[h2];exact(xH (h j hj) (kU (oH ha hb h1) (h (n-1-k) oM))).le oM
theorem bGa (ha:∀i,i<n->Asc (lo i)/\rbE (lo i) F) (hc:∀j,j<n->rb (y j) B):∀k,k<=n->∀j,j<n->rb (bkT lo n y k j) (zT B F k)
 |0,_,j,hj=>hc j hj
 |k+1,hk,j,hj=>by
  have:=aUr h1 (t:=(lo (n-1-k)).length) (show k<n by omega) hj (ha _ oM).1 (ha _ oM).2 (bGa ha hc k oM)
  unfold aIc at this
  rwa [dE] at this
end
theorem aUs (r f s:RatM) {a q b:Rat} (hr:Cr r a) (hra:rb a 17179869184) (hf:Rq f q 17179869184) (hs:Rq s b 17179869184) (hqb:rb (q*b) 17179869184):Ctr Tryz.prog aKx [] [.a r.C,.a f.C,.a s.C] [] (λg:RatM=>⟨.a g.C,[],Cr g (a-q*b)⟩):=by
 refine cY gT bCc bCd rfl rfl rfl bL cD (aC gT mxd ⟨[],qA s hs,rfl,rfl,rfl,λ_ _=>⟨λh=>aC gT mxd ⟨r,?_,cM rfl rfl trivial⟩,λh=>aC gT mxd ?_⟩⟩)
 ·rw[dU.1 (jF.1 h),iH,uA];exact hr
 exact⟨.seq [(0,false),(1,false),(2,false),(3,false),(4,false),(5,true)],by kernel_rfl,[],aAx f s hf hs,rfl,rfl,rfl,λm hm=>⟨[],aKw r m (Cr.rq hr hra) (Cr.rq hm hqb),rfl,rfl,rfl,λg hg=>⟨g,hg,cM rfl rfl trivial⟩⟩⟩
theorem bZu (f:LuM) (Z0:Nat->RatM) {M:Nat->List En} {n F:Nat} {rw cl:Nat->Nat} {Lw Up:Nat->List En} (h:LuG f M n rw cl Lw Up F) (hF:F<=17179869184) (h1:1<=F) (hn:n<=4096):Ctr Tryz.prog aUf [true] [.a f.C,.c (.s 0 n)] [(51,3,rtC n Z0)] (λ_:Unit=>⟨.c (iC 0),[(51,3,rtC n Z0)],True⟩):=by
 have hR:f.R.l.length=n:=by rw[h.R];simp
 have hw:Ctr Tryz.prog bFc [] [.a f.C,.c (iC (f.R.l.length:Nat))] [] (λ_:Unit=>⟨.c (.v (.bool true)),[],True⟩):=by rw[hR];exact bYx f h hF h1 hn
 refine cY gT bMa bMb rfl rfl rfl bL (aDm fB) (aC gT mxd ?_)
 refine⟨[],hw,rfl,rfl,rfl,λ_ _=>⟨λh2=>?_,λ_=>aC gT mxd ⟨(),trivial,jO rfl rfl bL (aD (cZ fB) bM) rfl (aDm fB)⟩⟩⟩
 replace h2:¬(n:Int)=(f.R.l.length:Nat):=h2
 omega
abbrev tB1 (f:LuM) (n:Nat) (Z0 Z:Nat->RatM):BL:=[(51,3,rtC n Z0),(67,0,f.C),(51,3,rtC n Z)]
theorem aDt {f:LuM} {n:Nat} {Z0 Z:Nat->RatM}:scB 3 (tB1 f n Z0 Z):=aD (cZ fB) (aD rfl (aD (cZ fB) bM))
abbrev tB2 (f:LuM) (n:Nat) (Z0 Z X:Nat->RatM):BL:=[(51,3,rtC n Z0),(67,0,f.C),(51,3,rtC n Z),(51,3,rtC n X)]
theorem aLw {f:LuM} {n:Nat} {Z0 Z X:Nat->RatM}:scB 4 (tB2 f n Z0 Z X):=aD (cZ fB) (aD rfl (aD (cZ fB) (aD (cZ fB) bM)))
theorem cDu {T T' e e':Nat} {l l':List CV} (h:∀c∈l,iP c=true) (h':∀c∈l',iP c=true):ClB [true,true] [(T,e,l),(T',e',l')]:=ClB.cons (λ_=>aZ.2 h) (ClB.cons (λ_=>aZ.2 h') cD)
abbrev sG0 (n i:Nat):List (Nat×DV):=[(32,.c (iC i)),(31,.c (iC n)),(1,.c (.s 0 n)),(2,.c (.p 1 0)),(7,.c (iC n)),(8,.c (.s 2 n))]
abbrev sG1 (n i:Nat):List (Nat×DV):=[(48,.c (iC i)),(47,.c (iC n)),(2,.c (.p 1 0)),(7,.c (iC n)),(8,.c (.s 2 n))]
abbrev sG2 (n i:Nat) (A:Option Addr) (c m:Nat) (row:Sl EntM) (t:Nat):List (Nat×DV):=(75,.c (iC t))::(73,.c (.r A m c 4 λj=>(row.l.getD (j+1) default).C))::(74,.c (iC m))::(10,.c (iC i))::sG1 n i
abbrev sG3 (n k:Nat):List (Nat×DV):=[(100,.c (iC k)),(99,.c (iC n)),(2,.c (.p 1 0)),(7,.c (iC n)),(8,.c (.s 2 n)),(14,.c (.s 3 n))]
abbrev sG4 (n k i:Nat) (A:Option Addr) (c m:Nat) (row:Sl EntM) (t:Nat):List (Nat×DV):=(119,.c (iC t))::(117,.c (.r A m c 4 λj=>(row.l.getD j default).C))::(118,.c (iC m))::(16,.c (iC i))::sG3 n k
abbrev aRo:FuncId:=56
theorem bSo:Ent Tryz.prog aRo:=bI func56 rfl kR
theorem bSp:Tryz.prog.funcs[aRo]? =some Tryz.f56:=func56
theorem bKm (f:LuM) (Z0:Nat->RatM) {M:Nat->List En} {n F B:Nat} {rw cl:Nat->Nat} {Lw Up:Nat->List En} {bv:Nat->Rat} (h:LuG f M n rw cl Lw Up F) (h1:1<=F) (hn:n<=4096) (hbv:∀k,k<n->Cr (Z0 k) (bv k)/\rb (bv k) B) (h1B:1<=B) (hF:F<=17179869184) (hB:zT (zT B F n) F n<=17179869184):
 Ctr Tryz.prog aRo [true,true] [.a f.C,.c (.s 0 n)] [(51,3,rtC n Z0)] (λg:(Nat->RatM)×(Nat->Rat)=>⟨.t [.c (.s 1 n),.c (iC 0)],[(51,3,rtC n Z0),(51,3,rtC n g.1)],TEq (enM M) n bv g.2/\∀r,r<n->Cr (g.1 r) (g.2 r)⟩):=by
 obtain⟨lo,us,p,hP⟩:=h.o.parts
 have hR:f.R.l.length=n:=by rw[h.R];simp
 have hK:f.K.l.length=n:=by rw[h.K];simp
 have hRi:((f.R.l.length:Nat):Int)=(n:Nat):=by rw[hR]
 obtain⟨c,hc⟩:∃c:Nat->Rat,c=λj=>bv (cl j):=⟨_,rfl⟩
 have hpb:∀i,i<n->rb (p i) F:=λi hi=>h.bu i hi ((i:Int),p i) (by rw[(hP.us i hi).1];exact .head _)
 have hua:∀i,i<n->Asc (us i)/\rbE (us i) F:=λi hi=>⟨by
  have:=(h.U.ok i hi).1.1
  rw[(hP.us i hi).1] at this
  exact this.tail,λe he=>h.bu i hi e (by rw[(hP.us i hi).1];exact .tail _ he)⟩
 have hla:∀i,i<n->Asc (lo i)/\rbE (lo i) F:=λi hi=>⟨(hP.lo i hi).2.1,λe he=>h.bl i hi e (by rw[(hP.lo i hi).1];exact dS _ he)⟩
 have hcb:∀j,j<n->rb (c j) B:=λj hj=>by rw[hc];exact(hbv _ (h.o.clt j hj)).2
 have hfr:=bFz (n:=n) (p:=p) (us:=us) (c:=c) h1 hpb hua hcb h1B
 obtain⟨Y,hY⟩:∃Y,Y=zT B F n:=⟨_,rfl⟩
 have hYB:Y<=17179869184:=bA (aIy (B:=Y) (F:=F) (aF n)) (by rw[hY];exact hB)
 have h1Y:1<=Y:=by rw[hY];exact bA h1B (aIy (aF n))
 refine cY gT bSo bSp rfl rfl rfl bL (ClB.cons (λ_=>aZ.2 fB) λi T es l hi=>by cases hi) (aC gT mxd ⟨none,[0],bZu f Z0 h hF h1 hn,rfl,rfl,rfl,λ_ _=>⟨λhh=>absurd rfl hh,λ_=>aC gT mxd ⟨n,⟨hRi,hRi,by show 56*n<=_;omega,by simp only[maxLen];omega⟩,?_⟩⟩⟩)
 show Sd _ _ _ _ _ _
 refine mM tSd 2 (rtC n λ_=>default) rfl xL.1 xL.2 ?_
 refine eW (λ_=>true) (λg:Nat×(Nat->RatM)=>sG0 n g.1) (λg=>tB1 f n Z0 g.2) (λ_=>[]) (λg=>g.1<=n/\∀j,j<g.1->Cr (g.2 j) (c j)) (λg=>n-g.1) λhM=>⟨dG hM (chg:=λg:Nat×(Nat->RatM)=>sG0 n g.1) (bls:=λg=>tB1 f n Z0 g.2) (fls:=λ_=>[]) (0,λ_=>default) ⟨aF _,λj hj=>absurd hj (aV _)⟩ rfl ⟨rfl,rfl,rfl⟩ trivial ⟨rfl,hRi,rfl,rfl,hRi,rfl⟩ bL aDt rfl,λ⟨i,Z⟩ ⟨hi,hZ⟩=>aC gT mxd ⟨λh2=>aC gT mxd ?_,λh2=>aC gT mxd ?_⟩⟩
 all_goals
  replace hi:i<=n:=hi
  replace hZ:∀j,j<i->Cr (Z j) (c j):=hZ
 ·replace h2:(i:Int)<(n:Nat):=h2
  have hin:i<n:=by omega
  have hci:=h.o.clt i hin
  have hix:f.K.l.getD i 0=(cl i:Nat):=by rw[h.K];exact aAm hin
  refine⟨i,⟨rfl,show i<f.K.l.length by omega⟩,cl i,⟨hix,hci,iR hci⟩,_,kW hci,i,⟨rfl,hin,iR hin⟩,_,pI hin,(i+1:Nat),wi,dG hM (chg:=λg:Nat×(Nat->RatM)=>sG0 n g.1) (bls:=λg=>tB1 f n Z0 g.2) (fls:=λ_=>[]) (i+1,upd Z i (Z0 (cl i))) ⟨⟨hin,λj hj=>?_⟩,show n-(i+1)<n-i by omega⟩ rfl ⟨rfl,rfl,rfl⟩ trivial ⟨rfl,rfl,rfl,rfl,rfl,rfl⟩ bL aDt rfl⟩
  replace hj:j<i+1:=hj
  show Cr (upd Z i _ j) (c j)
  by_cases e:j=i
  ·subst e;rw[cN,hc];exact(hbv _ hci).1
  rw[cJ e];exact hZ j oM
 replace h2:¬(i:Int)<(n:Nat):=h2
 obtain rfl:n=i:=by omega
 refine aC gT mxd ?_
 show Sd _ _ _ _ _ _
 refine eW (λ_=>true) (λg:Nat×(Nat->RatM)=>sG1 n g.1) (λg=>tB1 f n Z0 g.2) (λ_=>[]) (λg=>g.1<=n/\∀j,j<n->Cr (g.2 j) (fwT us p c g.1 j)) (λg=>n-g.1) λhM=>⟨dG hM (chg:=λg:Nat×(Nat->RatM)=>sG1 n g.1) (bls:=λg=>tB1 f n Z0 g.2) (fls:=λ_=>[]) (0,Z) ⟨aF _,hZ⟩ rfl ⟨rfl,rfl,rfl⟩ trivial ⟨rfl,rfl,rfl,rfl,rfl⟩ bL aDt rfl,λ⟨i,Z⟩ ⟨hi,hZ⟩=>aC gT mxd ⟨λh2=>aC gT mxd ?_,λh2=>aC gT mxd ?_⟩⟩
 all_goals
  replace hi:i<=n:=hi
  replace hZ:∀j,j<n->Cr (Z j) (fwT us p c i j):=hZ
 ·replace h2:(i:Int)<(n:Nat):=h2
  have hin:i<n:=by omega
  have lU:=h.U.ln
  have eU:=h.U.row i hin
  obtain⟨hu,hui,hul⟩:=hP.us i hin
  have hpi:=hP.p i hin
  have ln1:(f.U.d.l.getD i fF).l.length=(us i).length+1:=by rw[eU.ln,hu];simp
  refine⟨i,⟨rfl,show i<f.U.d.l.length by omega⟩,?_⟩
  obtain⟨row,hrow⟩:∃row,row=f.U.d.l.getD i fF:=⟨_,rfl⟩
  have hlen:(f.U.d.l.getD i fF).l.length-1=(us i).length:=by omega
  have hsz:(((f.U.d.l.getD i fF).l.length-1:Nat):Int)=((us i).length:Nat):=by rw[hlen]
  have hsl:CV.r (slA (f.U.d.l.getD i fF).A (f.U.d.l.getD i fF).c 1 4) ((f.U.d.l.getD i fF).l.length-1) ((f.U.d.l.getD i fF).c-1) 4 (λj=>((f.U.d.l.getD i fF).l.getD (j+1) default).C)= .r (slA row.A row.c 1 4) (us i).length (row.c-1) 4 λj=>(row.l.getD (j+1) default).C:=by rw[hlen,hrow]
  rw[<-hrow] at eU
  have hfb:=hfr i oM
  have hzz:zT B F (i+1)<=Y:=by rw[hY];exact aIy hin
  have hz0:zT B F (i+1)=2*zT B F i+2*F+1:=rfl
  have e2:=eU.e 0 (by rw[hu];simp)
  rw[show(Up i).getD 0 default=((i:Int),p i) by rw[hu];rfl] at e2
  have hpr:Rq (row.l.getD 0 default).v (p i) F:=Cr.rq e2.2 (hpb i hin)
  obtain⟨yi,hyi⟩:∃yi,yi=fwT us p c i i/p i:=⟨_,rfl⟩
  have hyb:rb yi (zT B F i+F):=by rw[hyi];exact aLt (hfb i hin) (hpb i hin) (bA h1B (aIy (aF i)))
  refine⟨.seq ((List.range 16).map λi=>(i,i==15)),by kernel_rfl,i,⟨rfl,hin,iR hin⟩,_,kW hin,0,⟨rfl,show 0<(f.U.d.l.getD i fF).l.length by omega⟩,[],aKv (Z i) ((f.U.d.l.getD i fF).l.getD 0 default).v ((Cr.rq (hZ i hin) (hfb i hin)).le oM) (by rw[<-hrow];exact hpr.le) hpi,rfl,rfl,rfl,λg hg=>?_⟩
  replace hg:Cr g yi:=by rw[hyi];exact hg
  refine⟨i,⟨rfl,hin,iR hin⟩,_,pI hin,1,⟨rfl,show 1<=(f.U.d.l.getD i fF).l.length by omega⟩,?_⟩
  show Sd _ _ _ _ _ _
  refine eW (λ_=>true) (λg:Nat×(Nat->RatM)=>sG2 n i (slA row.A row.c 1 4) (row.c-1) (us i).length row g.1) (λg=>tB1 f n Z0 g.2) (λ_=>[]) (λg=>g.1<=(us i).length/\∀j,j<n->Cr (g.2 j) (aLv us p c i g.1 j)) (λg=>(us i).length-g.1) λhM2=>⟨dG hM2 (chg:=λg:Nat×(Nat->RatM)=>sG2 n i (slA row.A row.c 1 4) (row.c-1) (us i).length row g.1) (bls:=λg=>tB1 f n Z0 g.2) (fls:=λ_=>[]) (0,upd Z i g) ⟨aF _,λj hj=>?_⟩ rfl ⟨rfl,rfl,rfl⟩ trivial ⟨rfl,hsl,hsz,rfl,rfl,rfl,rfl,rfl,rfl⟩ bL aDt rfl,λ⟨t,Z'⟩ ⟨ht,hZ'⟩=>aC gT mxd ⟨λh3=>aC gT mxd ?_,λh3=>aC gT mxd ?_⟩⟩
  ·show Cr (upd Z i g j) (if j=i then _ else fwT us p c i j-0*_)
   by_cases e:j=i
   ·subst e;rw[cN,if_pos rfl,<-hyi];exact hg
   rw[cJ e,if_neg e,fZ,uA];exact hZ j hj
  all_goals
   replace ht:t<=(us i).length:=ht
   replace hZ':∀j,j<n->Cr (Z' j) (aLv us p c i t j):=hZ'
  ·replace h3:(t:Int)<((us i).length:Nat):=h3
   have htl:t<(us i).length:=by omega
   have e0:=hui _ (jQ htl)
   have er:=eU.e (t+1) (by rw[hu];simp;omega)
   rw[show(Up i).getD (t+1) default=(us i).getD t default by rw[hu];rfl] at er
   obtain⟨j0,hj0⟩:∃j0:Nat,((us i).getD t default).1=(j0:Nat):=⟨((us i).getD t default).1.toNat,by omega⟩
   have hij:i<j0:=by omega
   have hjn:j0<n:=by omega
   have hix0:(row.l.getD (t+1) default).ix=(j0:Nat):=er.1.trans hj0
   have hev:rb ((us i).getD t default).2 F:=(hua i hin).2 _ (jQ htl)
   have hb0:=aUq (B:=B) (p:=p) (c:=c) (t:=t) h1 hin hjn (hpb i hin) (hua i hin).1 (hua i hin).2 hfb h1B
   have hii:aLv us p c i t i=yi:=by rw[hyi];exact if_pos rfl
   have hzi:=hZ' i hin
   rw[hii] at hzi
   have hk:=aUs (Z' j0) (row.l.getD (t+1) default).v (Z' i) (hZ' j0 hjn) (hb0.le oM) ((Cr.rq er.2 hev).le) ((Cr.rq hzi hyb).le oM) ((kU hev hyb).le oM)
   refine⟨t,⟨rfl,htl⟩,.seq ((List.range 17).map λi=>(i,i==16)),by kernel_rfl,j0,⟨hix0,hjn,iR hjn⟩,_,kW hjn,i,⟨rfl,hin,iR hin⟩,_,kW hin,[],hk,rfl,rfl,rfl,λg hg=>⟨j0,⟨hix0,hjn,iR hjn⟩,_,pI hjn,(t+1:Nat),wi,dG hM2 (chg:=λg:Nat×(Nat->RatM)=>sG2 n i (slA row.A row.c 1 4) (row.c-1) (us i).length row g.1) (bls:=λg=>tB1 f n Z0 g.2) (fls:=λ_=>[]) (t+1,upd Z' j0 g) ⟨⟨htl,λj hj=>?_⟩,show(us i).length-(t+1)<(us i).length-t by omega⟩ rfl ⟨rfl,rfl,rfl⟩ trivial ⟨rfl,rfl,rfl,rfl,rfl,rfl,rfl,rfl,rfl⟩ bL aDt rfl⟩⟩
   show Cr (upd Z' j0 g j) (if j=i then _ else fwT us p c i j-Vm.get ((us i).take (t+1)) (j:Nat)*_)
   rw[aUp htl hj0]
   by_cases e:j=j0
   ·subst e
    rw[cN,if_neg oM,if_pos rfl]
    have e3:aLv us p c i t j-((us i).getD t default).2*yi=fwT us p c i j-(Vm.get ((us i).take t) (j:Nat)+((us i).getD t default).2)*(fwT us p c i i/p i):=by
     unfold aLv
     rw[if_neg oM,hyi];grind
    rw[<-e3];exact hg
   rw[cJ e,if_neg e,cE];exact hZ' j hj
  replace h3:¬(t:Int)<((us i).length:Nat):=h3
  obtain rfl:t=(us i).length:=by omega
  refine⟨(i+1:Nat),wi,dG hM (chg:=λg:Nat×(Nat->RatM)=>sG1 n g.1) (bls:=λg=>tB1 f n Z0 g.2) (fls:=λ_=>[]) (i+1,Z') ⟨⟨hin,λj hj=>?_⟩,show n-(i+1)<n-i by omega⟩ rfl ⟨rfl,rfl,rfl⟩ trivial ⟨rfl,rfl,rfl,rfl,rfl⟩ bL aDt rfl⟩
  have:=hZ' j hj
  unfold aLv at this
  rwa [dE] at this
 replace h2:¬(i:Int)<(n:Nat):=h2
 obtain rfl:n=i:=by omega
 obtain⟨y,hy⟩:∃y,y=fwT us p c n:=⟨_,rfl⟩
 rw[<-hy] at hZ
 have hyb:∀j,j<n->rb (y j) Y:=by rw[hy,hY];exact hfr n (aI n)
 have hbr:=bGa (n:=n) (lo:=lo) (y:=y) (B:=Y) h1 hla hyb
 refine aC gT mxd ⟨n,⟨rfl,rfl,by show 56*n<=_;omega,by simp only[maxLen];omega⟩,?_⟩
 show Sd _ _ _ _ _ _
 refine mM tSd 3 (rtC n λ_=>default) rfl xL.1 xL.2 ?_
 refine eW (λ_=>true) (λg:Nat×(Nat->RatM)×(Nat->RatM)=>sG3 n g.1) (λg=>tB2 f n Z0 g.2.1 g.2.2) (λ_=>[]) (λg=>g.1<=n/\(∀j,j<n->Cr (g.2.1 j) (bkT lo n y g.1 j))/\∀j,n-g.1<=j->j<n->Cr (g.2.2 (rw j)) (bkT lo n y n j)) (λg=>n-g.1) λhM=>⟨dG hM (chg:=λg:Nat×(Nat->RatM)×(Nat->RatM)=>sG3 n g.1) (bls:=λg=>tB2 f n Z0 g.2.1 g.2.2) (fls:=λ_=>[]) (0,Z,λ_=>default) ⟨aF _,hZ,λj h4 h5=>absurd h4 (by show ¬n-0<=j;omega)⟩ rfl ⟨rfl,rfl,rfl,rfl⟩ trivial ⟨rfl,rfl,rfl,rfl,rfl,rfl⟩ bL aLw rfl,λ⟨k,Z,X⟩ ⟨hk,hZ,hX⟩=>aC gT mxd ⟨λh2=>aC gT mxd ?_,λh2=>aC gT mxd ?_⟩⟩
 all_goals
  replace hk:k<=n:=hk
  replace hZ:∀j,j<n->Cr (Z j) (bkT lo n y k j):=hZ
  replace hX:∀j,n-k<=j->j<n->Cr (X (rw j)) (bkT lo n y n j):=hX
 ·replace h2:(k:Int)<(n:Nat):=h2
  have hkn:k<n:=by omega
  obtain⟨i,hi⟩:∃i,i=n-1-k:=⟨_,rfl⟩
  have hin:i<n:=by omega
  have hri:=h.o.rlt i hin
  have hix:f.R.l.getD i 0=(rw i:Nat):=by rw[h.R];exact aAm hin
  have lL:=h.L.ln
  have eL:=h.L.row i hin
  obtain⟨hl,hvl⟩:=hP.lo i hin
  have ln1:(f.L.d.l.getD i fF).l.length=(lo i).length+1:=by rw[eL.ln,hl];simp
  have a1:((n-1:Nat):Int)=IntKind.i64.wrap ((n:Nat)-1):=wi oM
  have a2:(i:Int)=IntKind.i64.wrap (((n-1:Nat):Int)-(k:Nat)):=wi oM
  have hll:=nU hvl
  refine⟨(n-1:Nat),a1,(i:Nat),a2,i,⟨rfl,show i<f.L.d.l.length by omega⟩,((lo i).length:Nat),wi (by show(((lo i).length:Nat):Int)=(((f.L.d.l.getD i fF).l.length:Nat):Int)-1/\_<=(((f.L.d.l.getD i fF).l.length:Nat):Int)-1/\(((f.L.d.l.getD i fF).l.length:Nat):Int)-1<=_;omega),(lo i).length,⟨rfl,show(lo i).length<=(f.L.d.l.getD i fF).l.length by omega⟩,?_⟩
  obtain⟨row,hrow⟩:∃row,row=f.L.d.l.getD i fF:=⟨_,rfl⟩
  rw[<-hrow] at eL ln1
  have hbb:=hbr k oM
  have hzz:zT Y F (k+1)<=17179869184:=bA (aIy hkn) (by rw[hY];exact hB)
  have hz0:zT Y F (k+1)=2*zT Y F k+2*F+1:=rfl
  show Sd _ _ _ _ _ _
  refine eW (λ_=>true) (λg:Nat×(Nat->RatM)=>sG4 n k i row.A row.c (lo i).length row g.1) (λg=>tB2 f n Z0 g.2 X) (λ_=>[]) (λg=>g.1<=(lo i).length/\∀j,j<n->Cr (g.2 j) (aIc lo n y k g.1 j)) (λg=>(lo i).length-g.1) λhM2=>⟨dG hM2 (chg:=λg:Nat×(Nat->RatM)=>sG4 n k i row.A row.c (lo i).length row g.1) (bls:=λg=>tB2 f n Z0 g.2 X) (fls:=λ_=>[]) (0,Z) ⟨aF _,λj hj=>?_⟩ rfl ⟨rfl,rfl,rfl,rfl⟩ trivial ?_ bL aLw rfl,λ⟨t,Z'⟩ ⟨ht,hZ'⟩=>aC gT mxd ⟨λh3=>aC gT mxd ?_,λh3=>aC gT mxd ?_⟩⟩
  ·show Cr (Z j) (bkT lo n y k j-0*_)
   rw[fZ,uA];exact hZ j hj
  ·exact⟨rfl,by rw[hrow];rfl,rfl,rfl,rfl,rfl,rfl,rfl,rfl,rfl⟩
  all_goals
   replace ht:t<=(lo i).length:=ht
   replace hZ':∀j,j<n->Cr (Z' j) (aIc lo n y k t j):=hZ'
  ·replace h3:(t:Int)<((lo i).length:Nat):=h3
   have htl:t<(lo i).length:=by omega
   have e0:=hvl.2 _ (jQ htl)
   have er:=eL.e t (by rw[hl];simp;omega)
   rw[show(Lw i).getD t default=(lo i).getD t default by rw[hl,bF,bW htl,bF]] at er
   obtain⟨j0,hj0⟩:∃j0:Nat,((lo i).getD t default).1=(j0:Nat):=⟨((lo i).getD t default).1.toNat,by omega⟩
   have hji:j0<i:=by omega
   have hjn:j0<n:=by omega
   have hix0:(row.l.getD t default).ix=(j0:Nat):=er.1.trans hj0
   have hev:rb ((lo i).getD t default).2 F:=(hla i hin).2 _ (jQ htl)
   have hb0:=aUr (B:=Y) (lo:=lo) (y:=y) (t:=t) h1 hkn hjn (by rw[<-hi];exact(hla i hin).1) (by rw[<-hi];exact(hla i hin).2) hbb
   have hii:aIc lo n y k t i=bkT lo n y k i:=by
    unfold aIc
    rw[<-hi,mS (a:=(lo i).take t) λe he h4=>by
     have:=(hvl.2 e (eG he)).2.1
     omega,fZ,uA]
   have hzi:=hZ' i hin
   rw[hii] at hzi
   have hyi:=hbb i hin
   have hk':=aUs (Z' j0) (row.l.getD t default).v (Z' i) (hZ' j0 hjn) (hb0.le oM) ((Cr.rq er.2 hev).le) ((Cr.rq hzi hyi).le oM) ((kU hev hyi).le oM)
   refine⟨t,⟨rfl,htl⟩,.seq ((List.range 17).map λi=>(i,i==16)),by kernel_rfl,j0,⟨hix0,hjn,iR hjn⟩,_,kW hjn,i,⟨rfl,hin,iR hin⟩,_,kW hin,[],hk',rfl,rfl,rfl,λg hg=>⟨j0,⟨hix0,hjn,iR hjn⟩,_,pI hjn,(t+1:Nat),wi,dG hM2 (chg:=λg:Nat×(Nat->RatM)=>sG4 n k i row.A row.c (lo i).length row g.1) (bls:=λg=>tB2 f n Z0 g.2 X) (fls:=λ_=>[]) (t+1,upd Z' j0 g) ⟨⟨htl,λj hj=>?_⟩,show(lo i).length-(t+1)<(lo i).length-t by omega⟩ rfl ⟨rfl,rfl,rfl,rfl⟩ trivial ⟨rfl,rfl,rfl,rfl,rfl,rfl,rfl,rfl,rfl,rfl⟩ bL aLw rfl⟩⟩
   show Cr (upd Z' j0 g j) (bkT lo n y k j-Vm.get ((lo (n-1-k)).take (t+1)) (j:Nat)*_)
   rw[<-hi,aUp htl hj0]
   by_cases e:j=j0
   ·subst e
    rw[cN,if_pos rfl]
    have e3:aIc lo n y k t j-((lo i).getD t default).2*bkT lo n y k i=bkT lo n y k j-(Vm.get ((lo i).take t) (j:Nat)+((lo i).getD t default).2)*bkT lo n y k i:=by
     unfold aIc
     rw[<-hi];grind
    rw[<-e3];exact hg
   rw[cJ e,if_neg e,cE,hi];exact hZ' j hj
  replace h3:¬(t:Int)<((lo i).length:Nat):=h3
  obtain rfl:t=(lo i).length:=by omega
  have hZ1:∀j,j<n->Cr (Z' j) (bkT lo n y (k+1) j):=λj hj=>by
   have:=hZ' j hj
   unfold aIc at this
   rw[<-hi,dE,hi] at this
   exact this
  have hst:bkT lo n y (k+1) i=bkT lo n y n i:=by
   have:=aRm hP (y:=y) (j:=i) (k:=k+1) hin (d:=n-(k+1)) oM oM
   rw[show k+1+(n-(k+1))=n by omega] at this
   exact this.symm
  refine aC gT mxd ?_
  refine⟨.seq ((List.range 12).map λi=>(i,i==11)),by kernel_rfl,i,⟨rfl,show i<f.R.l.length by omega⟩,i,⟨rfl,hin,iR hin⟩,_,kW hin,rw i,⟨hix,hri,iR hri⟩,_,pI hri,(k+1:Nat),wi,dG hM (chg:=λg:Nat×(Nat->RatM)×(Nat->RatM)=>sG3 n g.1) (bls:=λg=>tB2 f n Z0 g.2.1 g.2.2) (fls:=λ_=>[]) (k+1,Z',upd X (rw i) (Z' i)) ⟨⟨hkn,hZ1,λj h4 h5=>?_⟩,show n-(k+1)<n-k by omega⟩ rfl ⟨rfl,rfl,rfl,rfl⟩ trivial ⟨rfl,rfl,rfl,rfl,rfl,rfl⟩ bL aLw rfl⟩
  replace h4:n-(k+1)<=j:=h4
  show Cr (upd X (rw i) (Z' i) (rw j)) (bkT lo n y n j)
  by_cases e:j=i
  ·subst e;rw[cN,<-hst];exact hZ1 j hin
  have e2:rw j≠rw i:=λe2=>e (h.o.rinj j i h5 hin e2)
  rw[cJ e2]
  exact hX j oM h5
 replace h2:¬(k:Int)<(n:Nat):=h2
 obtain rfl:n=k:=by omega
 obtain⟨xv,hxv⟩:∃xv:Nat->Rat,∀j,j<n->xv (rw j)=bkT lo n y n j:=aLo h.o.rlt h.o.rinj _
 show Sd _ _ _ _ _ _
 refine aGz tSd 1 3 rfl rfl bL bL rfl ⟨_,swl fB,_,swl fB,_,swl fB,bL,aC gT mxd ⟨(X,xv),⟨h.o.solT hP λi hi=>?_,λr hr=>?_⟩,jO ⟨rfl,rfl⟩ ⟨rfl,rfl⟩ bL (aD (cZ fB) (aD (cZ fB) bM)) rfl (cDu fB fB)⟩⟩
 ·show xv (rw i)=_
  rw[hxv i hi,hy,hc]
 obtain⟨j,hj,rfl⟩:=uZ h.o.rlt h.o.rinj r hr
 show Cr (X (rw j)) (xv (rw j))
 rw[hxv j hj]
 exact hX j oM hj
def StpR.at' (s:StpR) (u:Nat->Rat):Nat->Rat:=λi=>if i=s.k then (u s.k-dtl s.o u)/s.p else u i
def aCv (R:List StpR) (c:Nat->Rat):Nat->Nat->Rat
 |0=>c
 |j+1=>(R.getD (R.length-1-j) default).at' (aCv R c j)
theorem bKn {n:Nat} {es:List En} {x:Nat->Rat} (h:VOk es (n:Nat)):dtl es x=fD (λi=>Vm.get es (i:Nat)*x i) n:=aAb λe he=>⟨(h.2 e he).1,(h.2 e he).2.1⟩
theorem bZv {n:Nat} {s:StpR} {u z:Nat->Rat} (hk:s.k<n) (hv:VOk s.o (n:Nat)) (ho:Vm.get s.o (s.k:Nat)=0):fD (λi=>s.at' u i*z i) n=fD (λi=>u i*s.ap z i) n:=by
 obtain⟨q,hq⟩:∃q,q=z s.k/s.p:=⟨_,rfl⟩
 have e1:fD (λi=>s.at' u i*z i) n=fD (λi=>u i*z i+(if i=s.k then (u s.k-dtl s.o u)*q-u s.k*z s.k else 0)) n:=dT λi _=>by
  unfold StpR.at'
  by_cases e:i=s.k
  ·subst e;rw[if_pos rfl,if_pos rfl,hq,jN,jN];grind
  rw[if_neg e,if_neg e,cE]
 have e2:fD (λi=>u i*s.ap z i) n=fD (λi=>(u i*z i+(if i=s.k then u s.k*q-u s.k*z s.k else 0))+(-q)*(Vm.get s.o (i:Nat)*u i)) n:=dT λi _=>by
  unfold StpR.ap
  by_cases e:i=s.k
  ·subst e;rw[if_pos rfl,if_pos rfl,ho,<-hq];grind
  rw[if_neg e,if_neg e,<-hq];grind
 rw[e1,e2,pU,<-bKn hv,yY,yY,qY (f:=λi=>if i=s.k then (u s.k-dtl s.o u)*q-u s.k*z s.k else 0) hk λi hi=>if_neg hi,qY (f:=λi=>if i=s.k then u s.k*q-u s.k*z s.k else 0) hk λi hi=>if_neg hi,if_pos rfl,if_pos rfl]
 grind
abbrev uB (B n:Nat):Nat:=1+n*(2*bd B n+B+1)
section
variable {n:Nat} {f:LuM} {L:List StpM} {a:Nat->Nat->Rat} {F B:Nat} {M:Nat->List En} {rw cl:Nat->Nat} {Lw Up:Nat->List En} {R:List StpR} {am:Nat->Nat->Nat->Rat} (hT:IvT n f L a F B M rw cl Lw Up R am)
include hT
theorem IvT.adj {c z:Nat->Rat}:∀{j:Nat},j<=R.length->fD (λi=>aCv R c j i*aAe (R.take (R.length-j)) z i) n=fD (λi=>c i*aAe R z i) n
 |0,_=>by rw[Nat.sub_zero,dE];rfl
 |j+1,hj=>by
  rw[<-IvT.adj (j:=j) oM]
  obtain⟨i,hi⟩:∃i,i=R.length-1-j:=⟨_,rfl⟩
  have hil:i<R.length:=by omega
  have ok:=hT.st i hil
  rw[show R.length-j=i+1 by omega,show R.length-(j+1)=i by omega,aAc hil]
  show fD (λt=>(R.getD (R.length-1-j) default).at' (aCv R c j) t*_) n=_
  rw[<-hi]
  exact bZv ok.kn ok.ov (mS λe he=>ok.ok e he)
theorem IvT.ns0:NS (enM M) n:=hT.g.o.ns
theorem IvT.nsj {j:Nat} (hj:j<=R.length):NS (am j) n:=λb=>by
 obtain⟨z,hz⟩:=hT.ns0 b
 exact⟨_,hT.sol hz j hj⟩
theorem IvT.teq {c y:Nat->Rat} {j:Nat} (hj:j<=R.length) (h:TEq (enM M) n (aCv R c R.length) y):TEq (am j) n (aCv R c (R.length-j)) y:=λq hq=>by
 obtain⟨b,hb⟩:∃b:Nat->Rat,b=λr=>am j r q:=⟨_,rfl⟩
 obtain⟨z,hz⟩:=hT.ns0 b
 have h1:=h.dot (x:=z) (b:=b) hz.eq
 have h2:=hT.sol hz j hj
 have h3:=(h2 λi=>if i=q then 1 else 0).1 λk hk=>by
  rw[aDr hq,hb]
 have a1:=hT.adj (c:=c) (z:=z) (j:=R.length) (aI _)
 have a2:=hT.adj (c:=c) (z:=z) (j:=R.length-j) oM
 rw[show R.length-(R.length-j)=j by omega] at a2
 have e0:aAe (R.take (R.length-R.length)) z=z:=by rw[jW,zF];rfl
 rw[e0] at a1
 have h4:fD (λr=>y r*am j r q) n=fD (λr=>y r*b r) n:=by rw[hb]
 rw[h4,h1,a1,<-a2,<-aDr (f:=aCv R c (R.length-j)) hq]
 exact dT λi hi=>by rw[h3 i hi]
theorem IvT.ub {c:Nat->Rat} (hc:∀r,r<n->rb (c r) B) (h1B:1<=B) {j:Nat} (hj:j<=R.length) {q:Nat} (hq:q<n):rb (aCv R c j q) (uB B n):=by
 obtain⟨lo,us,p,hP⟩:=hT.g.o.parts
 obtain⟨y,hy⟩:=aLo hT.g.o.rlt hT.g.o.rinj (bkT lo n (fwT us p (λj=>aCv R c R.length (cl j)) n) n)
 have h0:=hT.g.o.solT hP hy
 have h1:=hT.teq (j:=R.length) (aI _) h0
 rw[jW] at h1
 have h2:=(h1.sol (hT.nsj (aI _))).size h1B (λr j hr hj=>hT.sm R.length (aI _) j r hj hr) hc
 have h3:=hT.teq (j:=R.length-j) oM h0 q hq
 rw[show R.length-(R.length-j)=j by omega] at h3
 rw[<-h3]
 exact aLu (b:=2*bd B n+B) oM λr hr=>kU (h2 r hr) (hT.sm _ oM r q hr hq)
end
abbrev bSq:FuncId:=55
theorem bZw:Ent Tryz.prog bSq:=bI func55 rfl kR
theorem bZx:Tryz.prog.funcs[bSq]? =some Tryz.f55:=func55
theorem bZy (z:ZT) (n:Nat) (v:IvM):CtrF Tryz.prog bSq ivL [.c (.p 0 0)] (ivB z n v) (ivF v) (λ_:Unit=>⟨.c (.f aUk [] [(2,0)]),ivB z n v++[(26,0,[.p 0 0])],ivF v,True⟩):=by
 cases z with
 |none=>exact kM gT bZw bZx rfl rfl rfl bL (pM (r:=[])) (aC gT mxd ⟨(),trivial,iY rfl ⟨rfl,rfl,rfl⟩ ⟨rfl,trivial⟩ bL (qM bL (aD rfl bM)) rfl pM⟩)
 |some p=>exact kM gT bZw bZx rfl rfl rfl bL (pM (r:=[])) (aC gT mxd ⟨(),trivial,iY rfl ⟨rfl,rfl,rfl⟩ ⟨rfl,trivial⟩ bL (qM bL (aD rfl bM)) rfl pM⟩)
abbrev tvB (z:ZT) (n:Nat) (v:IvM) (Z:Nat->RatM):BL:=ivB z n v++[(51,3,rtC n Z),(41,0,[.s 2 n]),(26,0,[.p 0 0])]
theorem bSr {z:ZT} {n:Nat} {v:IvM} {Z:Nat->RatM}:scB 5 (tvB z n v Z):=qM bL (aD (cZ fB) (aD rfl (aD rfl bM)))
abbrev tiB (z:ZT) (n:Nat) (v:IvM) (S:StpM) (Z:Nat->RatM) (r:RatM):BL:=ivB z n v++[(51,3,rtC n Z),(41,0,[.s 2 n]),(26,0,[.p 0 0]),(91,0,S.C),(51,0,r.C)]
theorem aRp {z:ZT} {n:Nat} {v:IvM} {S:StpM} {Z:Nat->RatM} {r:RatM}:scB 7 (tiB z n v S Z r):=qM bL (aD (cZ fB) (aD rfl (aD rfl (aD (cZ (aLr S)) (aD (cZ (gY r)) bM)))))
abbrev tiG (o:Sl EntM) (t:Nat):List (Nat×DV):=[(33,.c (iC t)),(32,.c (iC (o.l.length:Nat))),(31,.c (cR o)),(7,.c (.p 5 0)),(8,.c (.p 6 0)),(6,.c (.p 3 0))]
abbrev aLx:FuncId:=25
theorem bSs:Ent Tryz.prog aLx:=bI func25 rfl kR
theorem bSt:Tryz.prog.funcs[aLx]? =some Tryz.f25:=func25
theorem bKo (z:ZT) (v:IvM) (b:Sl RatM) {M:Nat->List En} {n F Fs B Us:Nat} {rw cl:Nat->Nat} {Lw Up:Nat->List En} {bv:Nat->Rat} {R:List StpR} (h:LuG v.f M n rw cl Lw Up F) (h1:1<=F) (hn:n<=4096) (hn0:0<n) (hb:b.l.length=n) (hbv:∀k,k<n->Cr (b.l.getD k default) (bv k)/\rb (bv k) B) (hF:F<=17179869184) (hB:zT (zT Us F n) F n<=17179869184)
 (hL:v.L.length=R.length) (hLn:v.L.length<=4096) (hR:∀j,j<R.length->StpOk (v.L.getD j default) (R.getD j default) n Fs) (h1s:1<=Us) (hUs:Us+n*(Fs+Us+1)+Fs<=17179869184) (hX:∀j,j<=R.length->∀i,i<n->rb (aCv R bv j i) Us):
 CtrF Tryz.prog aLx aRg [.c (.p 0 0),.c (gA b)] (ivB z n v) (ivF v) (λg:(Nat->RatM)×(Nat->Rat)=>⟨.t [.c (.s 2 n),.c (iC 0)],ivB z n v++[(51,3,rtC n g.1)],ivF v,TEq (enM M) n (aCv R bv R.length) g.2/\∀i,i<n->Cr (g.1 i) (g.2 i)⟩):=by
 have hRi:((b.l.length:Nat):Int)=(n:Nat):=by rw[hb]
 have hUs2:Us<=17179869184:=by omega
 have hrl:∀Z:Nat->RatM,n*3=(rtC n Z).length:=λZ=>(rX (P:=λj=>(Z j).C) (e:=3) λ_ _=>rfl).symm
 have hra:∀(Z:Nat->RatM) (j:Nat),j<n->((jL Z n).getD j default).C=((rtC n Z).drop (j*3)).take 3:=λZ j hj=>by
  rw[show(jL Z n).getD j default=Z j by unfold jL;simp[hj]]
  exact(kW hj).1.symm
 let y:ZT:=z
 cases z
 all_goals
  refine aTc gT bSs bSt rfl rfl rfl bL (bFh (z:=y)) (Sd0.seq (aC gT mxd ?_))
  refine Sd0.seq (aC gT mxd ⟨[0,1,1000],tK y n v,rfl,rfl,rfl,λ_ _=>⟨λhh=>absurd hRi hh,λ_=>aC gT mxd ?_⟩⟩)
  refine Sd0.seq (aC gT mxd ⟨n,⟨hRi,hRi,by show 56*n<=_;omega,by simp only[maxLen];omega⟩,?_⟩)
  refine Sd0.seq (Sd.rg gT (l:=[_,_,_]) [_,_] [_] rfl rfl ?_)
  refine Sdl.copy gT rfl rfl rfl rfl rfl rfl bL rfl hb hn0 ?_ (λj hj=>rfl) rfl bL ?_
  ·show n*3=((List.replicate n yP).flatten).length
   rw[<-xL.1];exact hrl _
  show Sd0 _ _ _ _ _ _
  refine Sd0.seq1 (aC gT mxd ⟨[0,1,1000],bZy y n v,rfl,rfl,rfl,λ_ _=>?_⟩)
  show Sd1 _ _ _ _ _ _ _
  refine bAq (tvB y n v) (λZ j=>∀i,i<n->Cr (Z i) (aCv R bv j i)) v.L.length (fwX (hdC y n v.c) v.f v.A v.k v.L) (λj=> .agg ((v.L.getD (v.L.length-1-j) default).C.map aHb).toArray) (λj=>(v.L.getD (v.L.length-1-j) default).C) (λj=>b.l.getD j default) rfl rfl bZg (bZi (hdC y n v.c) v.f v.A v.k v.L hLn) rfl (λ_=>rfl) (λZ=>⟨_,_,_,rfl⟩) (λi hi=>(hbv i hi).1) (λρ W bl j ⟨b1,b2,b3,hb⟩ hbn hF hD hj=>?_) bL (λZ j hZ hj=>?_) (λ_=>bSr) λZ hZ=>aC gT mxd ?_
  ·subst hb
   exact aTe (F:=stF v.A v.k v.L) (i:=0) (k:=0) (by rw[hF];rfl) (dK 0) rfl hbn hD (aFn oM) (λe=>by cases e) (aLq _)
  ·have hjR:j<R.length:=by omega
   have ok:=hR (R.length-1-j) oM
   have hub:=hX j oM
   obtain⟨S,hSS⟩:∃S,S=v.L.getD (v.L.length-1-j) default:=⟨_,rfl⟩
   obtain⟨s,hs⟩:∃s,s=R.getD (R.length-1-j) default:=⟨_,rfl⟩
   obtain⟨u,hu⟩:∃u,u=aCv R bv j:=⟨_,rfl⟩
   have hK:∀Z':Nat->RatM,(∀i,i<n->Cr (Z' i) (s.at' u i))->∀i,i<n->Cr (Z' i) (aCv R bv (j+1) i):=λZ' h=>by
    rw[hs,hu] at h;exact h
   rw[<-hL,<-hSS,hL,<-hs] at ok
   rw[<-hu] at hub
   replace hZ:∀i,i<n->Cr (Z i) (u i):=by rw[hu];exact hZ
   simp only[<-hSS]
   have hkn:=ok.kn
   have lo:=ok.o.ln
   have lv:=nU ok.ov
   refine aC gT mxd ⟨rfl,aC gT mxd ⟨s.k,⟨ok.k,hkn,iR hkn⟩,_,kW hkn,?_⟩⟩
   show Sd _ _ _ _ _ _
   refine eW (λ_=>true) (λg:Nat×RatM=>tiG S.o g.1) (λg=>tiB y n v S Z g.2) (λ_=>ivF v) (λg=>g.1<=s.o.length/\Cr g.2 (u s.k-dtl (s.o.take g.1) u)/\rb (u s.k-dtl (s.o.take g.1) u) (Us+g.1*(Fs+Us+1))) (λg=>s.o.length-g.1) λhM=>⟨dG hM (chg:=λg:Nat×RatM=>tiG S.o g.1) (bls:=λg=>tiB y n v S Z g.2) (fls:=λ_=>ivF v) (0,Z s.k) ⟨aF _,?_,?_⟩ rfl ⟨rfl,rfl,rfl,rfl,rfl,rfl,rfl⟩ ⟨rfl,trivial⟩ ⟨rfl,rfl,rfl,rfl,rfl,rfl⟩ bL aRp rfl,λ⟨t,r⟩ ⟨ht,hr,hrb⟩=>aC gT mxd ⟨λh3=>aC gT mxd ?_,λh3=>aC gT mxd ?_⟩⟩
   ·show Cr (Z s.k) (u s.k-0)
    rw[uA];exact hZ _ hkn
   ·show rb (u s.k-0) (Us+0*_)
    rw[uA,lH];exact hub _ hkn
   all_goals
    replace ht:t<=s.o.length:=ht
    replace hr:Cr r (u s.k-dtl (s.o.take t) u):=hr
    replace hrb:rb (u s.k-dtl (s.o.take t) u) (Us+t*(Fs+Us+1)):=hrb
   ·replace h3:(t:Int)<(S.o.l.length:Nat):=h3
    have htl:t<s.o.length:=by omega
    have er:=ok.o.e t htl
    have hm:=jQ htl
    have ev:=ok.ov.2 _ hm
    obtain⟨i0,hi0⟩:∃i0:Nat,(s.o.getD t default).1=(i0:Nat):=⟨(s.o.getD t default).1.toNat,by omega⟩
    have hin:i0<n:=by omega
    have hix:(S.o.l.getD t default).ix=(i0:Nat):=er.1.trans hi0
    have evb:=ok.ob _ hm
    have hu0:=hub i0 hin
    have hmb:=kU evb hu0
    have hn1:(t+1)*(Fs+Us+1)<=n*(Fs+Us+1):=bK _ oM
    rw[eN] at hn1
    have hd:u s.k-dtl (s.o.take (t+1)) u=u s.k-dtl (s.o.take t) u-(s.o.getD t default).2*u i0:=by
     rw[yV htl,wR,hi0,bP];grind
    have hs':rb (u s.k-dtl (s.o.take (t+1)) u) (Us+(t+1)*(Fs+Us+1)):=by
     rw[hd]
     exact(xH hrb hmb).le (by rw[eN];omega)
    refine⟨t,⟨rfl,show t<S.o.l.length by omega⟩,i0,⟨hix,hin,iR hin⟩,_,kW hin,[],qA (Z i0) ((hZ i0 hin).rq (hu0.le oM)),rfl,rfl,rfl,λ_ _=>⟨λh4=>aC gT mxd ?_,λh4=>aC gT mxd ?_⟩⟩
    ·refine⟨.seq ((List.range 11).map λi=>(i,i==10)),by kernel_rfl,i0,⟨hix,hin,iR hin⟩,_,kW hin,[],aAx (S.o.l.getD t default).v (Z i0) (er.2.rq (evb.le oM)) ((hZ i0 hin).rq (hu0.le oM)),rfl,rfl,rfl,λm hmc=>⟨[],aKw r m (hr.rq (hrb.le oM)) (Cr.rq hmc (hmb.le oM)),rfl,rfl,rfl,λg hg=>⟨(t+1:Nat),wi,dG hM (chg:=λg:Nat×RatM=>tiG S.o g.1) (bls:=λg=>tiB y n v S Z g.2) (fls:=λ_=>ivF v) (t+1,g) ⟨⟨htl,by show Cr g _;rw[hd];exact hg,hs'⟩,show s.o.length-(t+1)<s.o.length-t by omega⟩ rfl ⟨rfl,rfl,rfl,rfl,rfl,rfl,rfl⟩ ⟨rfl,trivial⟩ ⟨rfl,rfl,rfl,rfl,rfl,rfl⟩ bL aRp rfl⟩⟩⟩
    have h0:u i0=0:=dU.1 (jF.1 (vM.1 h4))
    refine⟨(t+1:Nat),wi,dG hM (chg:=λg:Nat×RatM=>tiG S.o g.1) (bls:=λg=>tiB y n v S Z g.2) (fls:=λ_=>ivF v) (t+1,r) ⟨⟨htl,by show Cr r _;rw[hd,h0,iH,uA];exact hr,hs'⟩,show s.o.length-(t+1)<s.o.length-t by omega⟩ rfl ⟨rfl,rfl,rfl,rfl,rfl,rfl,rfl⟩ ⟨rfl,trivial⟩ ⟨rfl,rfl,rfl,rfl,rfl,rfl⟩ bL aRp rfl⟩
   replace h3:¬(t:Int)<(S.o.l.length:Nat):=h3
   obtain rfl:t=s.o.length:=by omega
   rw[dE] at hr hrb
   have hn1:s.o.length*(Fs+Us+1)<=n*(Fs+Us+1):=bK _ lv
   refine aC gT mxd ⟨.seq ((List.range 12).map λi=>(i,i==11)),by kernel_rfl,[],aKv r S.p (hr.rq (hrb.le oM)) (ok.p.rq (ok.pb.le oM)) ok.p0,rfl,rfl,rfl,λg hg=>⟨s.k,⟨ok.k,hkn,iR hkn⟩,_,pI hkn,upd Z s.k g,hK _ λi hi=>?_,⟨rfl,rfl,rfl,rfl,rfl⟩,rfl⟩⟩
   show Cr (upd Z s.k g i) (if i=s.k then (u s.k-dtl s.o u)/s.p else u i)
   by_cases e:i=s.k
   ·rw[e,cN,if_pos rfl];exact hg
   rw[cJ e,if_neg e];exact hZ i hi
  replace hZ:∀i,i<n->Cr (Z i) (aCv R bv v.L.length i):=hZ
  rw[hL] at hZ
  refine⟨.seq ((List.range 10).map λi=>(i,i==5)),by kernel_rfl,?_⟩
  refine⟨none,[2],bKm v.f Z h h1 hn (λk hk=>⟨hZ k hk,hX R.length (aI _) k hk⟩) h1s hF hB,rfl,rfl,rfl,λ⟨X,xv⟩ ⟨hT,hXc⟩=>?_⟩
  refine⟨rfl,(X,xv),⟨hT,hXc⟩,aRi ?_ (bFg (z:=y) fB)⟩
  show Gt _ _ _ _
  refine aGz tGt 2 5 rfl rfl bL bL rfl ⟨_,swl aHx,_,swl fB,_,swl fB,bL,?_⟩
  exact dG (M:=λ_=>true) (base:=[]) (chg:=λ_:Unit=>[(0,.t [.c (.s 2 n),.c (iC 0)])]) (bls:=λ_=>ivB y n v++[(51,3,rtC n X)]) (fls:=λ_=>ivF v) (λt d ht=>by cases ht) () trivial rfl ⟨rfl,rfl,rfl⟩ ⟨rfl,trivial⟩ ⟨rfl,rfl⟩ bL (qM bL (aD (cZ fB) bM)) rfl
theorem IvOk.ns {n F B:Nat} {f:LuM} {L:List StpM} {a:Nat->Nat->Rat} (h:IvOk n f L a F B):NS a n:=by
 obtain⟨M,rw,cl,Lw,Up,R,am,hT⟩:=h
 have:=hT.nsj (aI _)
 rwa [hT.ae] at this
structure IvT2 (n F B:Nat):Prop where
 n0:0<n
 z:zT (zT (uB B n) F n) F n<=17179869184
 u:uB B n+n*(sB B n+uB B n+1)+sB B n<=17179869184
theorem aUt (z:ZT) (v:IvM) (b:Sl RatM) {n F B:Nat} {a:Nat->Nat->Rat} {bv:Nat->Rat} (h:IvOk n v.f v.L a F B) (hi:IvB n F B) (ht:IvT2 n F B) (hb:b.l.length=n) (hbv:∀k,k<n->Cr (b.l.getD k default) (bv k)/\rb (bv k) B) (hLn:v.L.length<=4096):
 CtrF Tryz.prog aLx aRg [.c (.p 0 0),.c (gA b)] (ivB z n v) (ivF v) (λg:(Nat->RatM)×(Nat->Rat)=>⟨.t [.c (.s 2 n),.c (iC 0)],ivB z n v++[(51,3,rtC n g.1)],ivF v,TEq a n bv g.2/\∀i,i<n->Cr (g.1 i) (g.2 i)⟩):=by
 obtain⟨M,rw,cl,Lw,Up,R,am,hT⟩:=h
 refine(bKo z v b hT.g hi.h1 hi.hn ht.n0 hb hbv hi.hF ht.z hT.ln hLn hT.st (by show 1<=1+_;omega) (by have:=ht.u;omega) λj hj i hin=>hT.ub (λr hr=>(hbv r hr).2) hi.b1 hj hin).re λ⟨X,xv⟩ ⟨h1,h2⟩=>⟨(X,xv),⟨?_,h2⟩,rfl,rfl,rfl⟩
 have:=hT.teq (j:=R.length) (aI _) h1
 rw[jW,hT.ae] at this
 exact this
theorem bKp {n:Nat} (h0:0<n) (h:n<=5):IvT2 n (bd 3 n) 3:=by
 match n,h0,h with
 |1,_,_=>exact⟨by decide,by decide,by decide⟩
 |2,_,_=>exact⟨by decide,by decide,by decide⟩
 |3,_,_=>exact⟨by decide,by decide,by decide⟩
 |4,_,_=>exact⟨by decide,by decide,by decide⟩
 |5,_,_=>exact⟨by decide,by decide,by decide⟩
def oth (fs:List En) (k t:Nat):List En:=(fs.take t).filter λe=>!decide (e.1=(k:Nat))
theorem aOg {fs:List En} {k t:Nat} (h:t<fs.length):oth fs k (t+1)=if (fs.getD t default).1=(k:Nat) then oth fs k t else oth fs k t++[fs.getD t default]:=by
 unfold oth
 rw[yV h,List.filter_append]
 by_cases e:(fs.getD t default).1=(k:Nat)
 ·rw[if_pos e,List.filter_cons_of_neg (by rw[decide_eq_true e];decide),List.filter_nil,gB]
 rw[if_neg e,List.filter_cons_of_pos (by rw[decide_eq_false e];decide),List.filter_nil]
theorem aLy {fs:List En} {k:Nat} {t:Nat}:∀e∈oth fs k t,e∈fs/\e.1≠(k:Nat):=λe he=>by
 obtain⟨h1,h2⟩:=qB.1 he
 exact⟨eG h1,by simpa using h2⟩
theorem bKq {fs:List En} {k t:Nat}:(oth fs k t).length<=t:=bA (List.length_filter_le _ _) (List.length_take_le _ _)
theorem bSu {fs:List En} {k n:Nat} (h:VOk fs (n:Nat)):VOk (oth fs k fs.length) (n:Nat):=⟨by
 unfold oth;rw[dE];exact h.1.sublist List.filter_sublist,λe he=>h.2 e (aLy e he).1⟩
theorem bKr {fs:List En} {k:Nat} {i:Int} (hi:i≠(k:Nat)):Vm.get (oth fs k fs.length) i=Vm.get fs i:=by
 unfold oth
 rw[dE]
 induction fs with
 |nil=>rfl
 |cons e fs ih=>
  by_cases h:e.1=(k:Nat)
  ·rw[List.filter_cons_of_neg (by simp[h]),ih,nJ,if_neg (by rw[h];exact iQ hi),fY]
  rw[List.filter_cons_of_pos (by simp[h]),nJ,nJ,ih]
def aId (a:Nat->Nat->Rat) (k:Nat) (es:List En):Nat->Nat->Rat:=λr j=>if j=k then Vm.get es (r:Nat) else a r j
structure RepG where
 w:Nat->Rat
 o:Option (Sl EntM×StpM×Option Nat×Nat)
def cDv (n:Nat) (v:IvM) (k:Nat) (es:List En) (a:Nat->Nat->Rat) (F B:Nat) (g:RepG):OutF:=match g.o with
 |none=>⟨.c (iC 6),ivB none n v,ivF v,SolA a n (λr=>Vm.get es (r:Nat)) g.w/\g.w k=0⟩
 |some (y,S,A,kk)=>⟨.c (iC 0),ivB none n ⟨upd v.c k y,v.f,A,kk,v.L++[S]⟩,ivF ⟨upd v.c k y,v.f,A,kk,v.L++[S]⟩,(SolA a n (λr=>Vm.get es (r:Nat)) g.w/\g.w k≠0)/\Ek y.l es/\IvOk n v.f (v.L++[S]) (aId a k es) F B⟩
theorem bZz (A:Option Addr) (c n:Nat) (Z:Nat->RatM) {qs:List Rat} {B:Nat} (h:Rl (jL Z n) qs) (hb:rbL qs B) (hB:B<=17179869184) (hn:qs.length<=4096):Ctr Tryz.prog bCp [] [.c (.r A n c 3 λj=>((jL Z n).getD j default).C)] [] (λg:Sl EntM=>⟨.c (cR g),[],Ek g.l (fdF qs qs.length)⟩):=by
 have:=bWm ⟨A,c,jL Z n⟩ h hb hB hn
 have e:gA ⟨A,c,jL Z n⟩= .r A n c 3 λj=>((jL Z n).getD j default).C:=by
  unfold gA Sl.R
  rw[show(jL Z n).length=n by unfold jL;simp]
 rwa [e] at this
theorem bKs {T c:Nat} {A:Option Nat} {G:List EntM}:FrC ⟨T,4,1,λ_=>A,λ_=>c,λ_=>ecs G⟩ (.h A G.length c) (cR ⟨A.map λb=>⟨b,0,none⟩,c,G⟩):=⟨0,G.length,λk=>(G.getD k default).C,bL,rfl,rfl,(jP G).symm,λk hk=>tY G k hk⟩
abbrev rpB (n:Nat) (v:IvM) (k:Nat) (q:RatM) (G:List EntM):BL:=ivB none n v++[(51,3,[]),(91,0,iC k::(q.C++[.s 4 G.length])),(65,4,ecs G)]
theorem aRq {n:Nat} {v:IvM} {k:Nat} {q:RatM} {G:List EntM}:scB 5 (rpB n v k q G):=qM (z:=none) bL (aD rfl (aD rfl (aD (cZ (jU G)) bM)))
abbrev rpG (k:Nat) (x ys:Sl EntM) (t:Nat):List (Nat×DV):=[(58,.c (iC t)),(57,.c (iC (ys.l.length:Nat))),(56,.c (cR ys)),(0,.c (.p 0 0)),(1,.c (iC k)),(2,.c (cR x)),(12,.c (.p 3 0))]
abbrev aUu:FuncId:=18
theorem cAa:Ent Tryz.prog aUu:=bI func18 rfl kR
theorem cAb:Tryz.prog.funcs[aUu]? =some Tryz.f18:=func18
theorem bSv (v:IvM) (k:Nat) (x:Sl EntM) {es:List En} {n F B:Nat} {a:Nat->Nat->Rat} (h:IvOk n v.f v.L a F B) (hi:IvB n F B) (hk:k<n) (hx:Ek x.l es) (hv:VOk es (n:Nat)) (hb:rbE es B) (hLn:v.L.length<=4000):CtrF Tryz.prog aUu ivL [.c (.p 0 0),.c (iC k),.c (cR x)] (ivB none n v) (ivF v) (cDv n v k es a F B):=by
 have hle:=nU hv
 have hn:=hi.hn
 have hBB:B<=17179869184:=by have:=hi.bs;have:=hi.hS;omega
 have hev:Ev x.l es B:=hx.ev hb
 refine kM gT cAa cAb rfl rfl rfl bL (pM (z:=none) (r:=[])) (aC gT mxd ⟨[0,1,1000],tK none n v,rfl,rfl,rfl,λ_ _=>⟨λhh=>?_,λ_=>aC gT mxd ?_⟩⟩)
 ·replace hh:(k:Int)<0\/(n:Int)<=(k:Nat):=hh
  omega
 refine⟨[],aNt x n hev hBB,rfl,rfl,rfl,λ_ _=>⟨λhh=>absurd hv hh,λ_=>aC gT mxd ?_⟩⟩
 refine⟨[],bWo x n hev hb hi.b1 hBB hv hn oM,rfl,rfl,rfl,λgd hgd=>?_⟩
 replace hgd:Rl gd.l (dnL es n):=hgd
 have hgl:gd.l.length=n:=hgd.ln.trans rY
 refine⟨[0,1,1000],bFt v gd (bv:=λr=>Vm.get es (r:Nat)) h hi hgl (λr hr=>⟨?_,oH hv.1 hb hi.b1⟩) oM,rfl,rfl,rfl,λ⟨Z,w⟩ ⟨hS,hZ⟩=>⟨λhh=>absurd rfl hh,λ_=>aC gT mxd ?_⟩⟩
 ·have:=hgd.e r (by rw[rY];exact hr)
  rw[aHj hr] at this
  exact this
 replace hS:SolA a n (λr=>Vm.get es (r:Nat)) w:=hS
 replace hZ:∀i,i<n->Cr (Z i) (w i)/\rb (w i) (sB B n):=hZ
 have hsb:=hi.hS
 refine⟨k,⟨rfl,hk,iR hk⟩,_,kW hk,[],qA (Z k) ((hZ k hk).1.rq ((hZ k hk).2.le oM)),rfl,rfl,rfl,λ_ _=>⟨λh0=>aC gT mxd ⟨⟨w,none⟩,⟨hS,dU.1 (jF.1 h0)⟩,iY rfl ⟨rfl,rfl⟩ ⟨rfl,trivial⟩ bL (qM (z:=none) (r:=[]) bL bM) rfl (pM (z:=none) (r:=[]))⟩,λh0=>aC gT mxd ?_⟩⟩
 have hw0:w k≠0:=λe=>h0 (by rw[e];rfl)
 obtain⟨qs,hqs⟩:∃qs:List Rat,qs=(List.range n).map w:=⟨_,rfl⟩
 have hql:qs.length=n:=by rw[hqs];simp
 have hqa:∀i,i<n->qs.getD i 0=w i:=λi hi=>by rw[hqs];simp[hi]
 have hZa:∀i,i<n->(jL Z n).getD i default=Z i:=λi hi=>by unfold jL;simp[hi]
 have hRl:Rl (jL Z n) qs:=⟨by rw[hql];unfold jL;simp,λi hi=>by rw[hql] at hi;rw[hqa i hi,hZa i hi];exact(hZ i hi).1⟩
 have hqb:rbL qs (sB B n):=λq hq=>by
  rw[hqs] at hq
  obtain⟨i,hi,rfl⟩:=cP.1 hq
  exact(hZ i (eA.1 hi)).2
 refine⟨k,⟨rfl,hk,iR hk⟩,_,kW hk,?_⟩
 refine⟨some (λj=>((jL Z n).getD j default).C),⟨⟨bL,bL⟩,show n*3=(rtC n Z).length from (rX (P:=λj=>(Z j).C) (e:=3) λ_ _=>rfl).symm,λj hj=>?_,fB⟩,λA0 c0 _ _=>⟨cm (bE λ_ _=>rfl),[],bZz A0 c0 n Z hRl hqb oM oM,rfl,rfl,rfl,λys hys=>?_⟩⟩
 ·show((jL Z n).getD j default).C=((rtC n Z).drop (j*3)).take 3
  rw[hZa j hj];exact(kW hj).1.symm
 replace hys:Ek ys.l (fdF qs qs.length):=hys
 rw[hql] at hys
 show Sd _ _ _ _ _ _
 refine bLh tSd 3 4 65 4 rfl rfl bL rfl ?_
 obtain⟨fs,hfs⟩:∃fs,fs=fdF qs n:=⟨_,rfl⟩
 rw[<-hfs] at hys
 have hfo:VOk fs (n:Nat):=by rw[hfs];exact(aDn n).1
 have hfl:=hys.ln
 have hfn:=nU hfo
 refine eW (λ_=>true) (λg:Nat×List EntM=>rpG k x ys g.1) (λg=>rpB n v k (Z k) g.2) (λ_=>ivF v) (λg=>g.1<=fs.length/\Ek g.2 (oth fs k g.1)) (λg=>fs.length-g.1) λhM=>⟨dG hM (chg:=λg:Nat×List EntM=>rpG k x ys g.1) (bls:=λg=>rpB n v k (Z k) g.2) (fls:=λ_=>ivF v) (0,[]) ⟨aF _,⟨rfl,λj hj=>absurd hj (aV _)⟩⟩ rfl ⟨rfl,rfl,rfl,rfl,rfl⟩ ⟨rfl,trivial⟩ ⟨rfl,rfl,rfl,rfl,rfl,rfl,rfl⟩ bL aRq rfl,λ⟨t,G⟩ ⟨ht,hG⟩=>aC gT mxd ⟨λh3=>aC gT mxd ?_,λh3=>aC gT mxd ?_⟩⟩
 all_goals
  replace ht:t<=fs.length:=ht
  replace hG:Ek G (oth fs k t):=hG
 ·replace h3:(t:Int)<(ys.l.length:Nat):=h3
  have htl:t<fs.length:=by omega
  have er:=hys.e t htl
  have hGl:=hG.ln
  have hol:=bKq (fs:=fs) (k:=k) (t:=t)
  refine⟨t,⟨rfl,show t<ys.l.length by omega⟩,?_⟩
  refine⟨λh4=>aC gT mxd ?_,λh4=>aC gT mxd ?_⟩
  ·replace h4:(ys.l.getD t default).ix≠(k:Nat):=h4
   have hEm:∀c∈(ys.l.getD t default).C,nA 4 c=false:=λc h=>by
    rcases bJ.1 h with rfl|h
    ·rfl
    exact oX _ c h
   refine⟨⟨rfl,(jP G).symm,?_,?_,λc hc=>(bB.1 hc).elim (λh=>jV (jU G c h)) λh=>hEm c h⟩,?_⟩
   ·show G.length+1<=maxLen
    simp only[maxLen];omega
   ·show(G.length+1)*64<=_
    omega
   refine⟨cm (bE λ_ _=>rfl),λ_ h=>(by cases h),λc h=>hEm c h,(t+1:Nat),wi,dG hM (chg:=λg:Nat×List EntM=>rpG k x ys g.1) (bls:=λg=>rpB n v k (Z k) g.2) (fls:=λ_=>ivF v) (t+1,G++[ys.l.getD t default]) ⟨⟨htl,?_⟩,show fs.length-(t+1)<fs.length-t by omega⟩ rfl ⟨rfl,rfl,rfl,?_,?_⟩ ⟨rfl,trivial⟩ ⟨rfl,rfl,rfl,rfl,rfl,rfl,rfl⟩ bL aRq rfl⟩
   ·show Ek _ (oth fs k (t+1))
    rw[aOg htl,if_neg (by rw[<-er.1];exact h4)]
    exact aQx hG er.1 er.2
   ·show((91,0,iC k::((Z k).C++[.s 4 (G.length+1)])):TypeId×Nat×List CV)=(91,0,iC k::((Z k).C++[.s 4 (G++[_]).length]))
    rw[aP];rfl
   exact congrArg (λl:List CV=>((65,4,l):TypeId×Nat×List CV)) (sJ G _)
  replace h4:¬((ys.l.getD t default).ix≠(k:Nat)):=h4
  refine⟨(t+1:Nat),wi,dG hM (chg:=λg:Nat×List EntM=>rpG k x ys g.1) (bls:=λg=>rpB n v k (Z k) g.2) (fls:=λ_=>ivF v) (t+1,G) ⟨⟨htl,?_⟩,show fs.length-(t+1)<fs.length-t by omega⟩ rfl ⟨rfl,rfl,rfl,rfl,rfl⟩ ⟨rfl,trivial⟩ ⟨rfl,rfl,rfl,rfl,rfl,rfl,rfl⟩ bL aRq rfl⟩
  show Ek G (oth fs k (t+1))
  rw[aOg htl,if_pos (by rw[<-er.1];exact vM.1 h4)];exact hG
 replace h3:¬(t:Int)<(ys.l.length:Nat):=h3
 obtain rfl:t=fs.length:=by omega
 show Sd _ _ _ _ _ _
 refine aCd tSd 4 rfl bL (jU G) bL rfl λA2 c2=>⟨_,sk (bE λ_ _=>rfl),_,rfl,?_⟩
 obtain⟨S,hS2⟩:∃S:StpM,S=⟨k,Z k,⟨A2.map λb=>⟨b,0,none⟩,c2,G⟩⟩:=⟨_,rfl⟩
 refine xR tSd 3 1 (iC k::((Z k).C++[cR ⟨A2.map λb=>⟨b,0,none⟩,c2,G⟩])) rfl rfl rfl rfl (yS (k0:=4) rfl bKs) (aC gT mxd ?_)
 refine⟨.seq ((List.range 9).map λi=>(i,i==8)),by kernel_rfl,[],aKz x hev hb hi.b1 hBB hv.1 (λe he=>(hv.2 e he).2.2) oM,rfl,rfl,rfl,λy hy=>⟨k,⟨rfl,hk,fU hk⟩,_,oW (c:=cR y) (Q:=λj=>cR (upd v.c k y j)) hk (λj _=>?_),?_⟩⟩
 ·by_cases e:j=k
  ·subst e;rw[if_pos rfl,cN]
  rw[if_neg e,cJ e]
 have hst:∀c∈S.C,iP c=true:=aLr S
 rw[hS2] at hst
 refine⟨.seq ((List.range 11).map λi=>(i,Nat.ble 7 i)),by kernel_rfl,0,0,⟨rfl,dK 0,rfl,rfl,aHv.symm,?_,?_,hst⟩,λA3 c3=>?_⟩
 ·show v.L.length+1<=maxLen
  simp only[maxLen];omega
 ·show(v.L.length+1)*88<=_
  omega
 refine⟨⟨w,some (y,S,A3,c3)⟩,⟨⟨hS,hw0⟩,hy,?_⟩,aRi ?_ pM⟩
 ·refine h.snoc (s:=⟨k,w k,oth fs k fs.length⟩) (v:=λr=>Vm.get es (r:Nat)) ⟨by rw[hS2],hk,by rw[hS2];exact(hZ k hk).1,(hZ k hk).2,hw0,by rw[hS2];exact hG,bSu hfo,λe he=>(aLy e he).2,λe he=>?_⟩ hk hS hw0 (λr j _ _=>rfl) rfl rfl (λi hin hik=>?_) λr hr=>oH hv.1 hb hi.b1
  ·have:=(aLy e he).1
   rw[hfs] at this
   exact aBa (λi hin=>by rw[hqa i hin];exact(hZ i hin).2) e this
  show Vm.get (oth fs k fs.length) (i:Nat)=w i
  rw[bKr oM,hfs,aFc,if_pos ⟨by omega,by omega⟩,bP,hqa i hin]
 show Gt _ _ _ _
 refine Tgt.fsub tGt (fl':=ivF ⟨upd v.c k y,v.f,A3,c3,v.L++[S]⟩) (bFn (cN) (cN) ?_ (Nat.zero_lt_succ 4)) ?_
 ·refine cN.trans ?_
  show aCr v.L++_=aCr (v.L++[S])
  rw[hS2];exact aCm (f:=StpM.C) (d:=default) (L:=v.L) (x:=⟨k,Z k,⟨A2.map λb=>⟨b,0,none⟩,c2,G⟩⟩)
 refine dG (M:=λ_=>true) (base:=[]) (chg:=λ_:Unit=>[(0,.c (iC 0))]) (bls:=λ_=>ivB none n ⟨upd v.c k y,v.f,A3,c3,v.L++[S]⟩) (fls:=λ_=>ivF ⟨upd v.c k y,v.f,A3,c3,v.L++[S]⟩) (λt d ht=>by cases ht) () trivial rfl ⟨?_,rfl⟩ ⟨rfl,trivial⟩ rfl bL (qM (z:=none) (r:=[]) bL bM) rfl
 show((74,0,.s 1 n::(v.f.C++[CV.h A3 (v.L.length+1) c3])):TypeId×Nat×List CV)=(74,0,.s 1 n::(v.f.C++[CV.h A3 (v.L++[S]).length c3]))
 rw[aP];rfl
structure RepOk (n k:Nat) (v:IvM) (es:List En) (a:Nat->Nat->Rat) (F B:Nat) (e:Int) (v':IvM) (w:Nat->Rat):Prop where
 sol:SolA a n (λr=>Vm.get es (r:Nat)) w
 res:(e=6/\v'=v/\w k=0)\/(e=0/\w k≠0/\v'.L.length=v.L.length+1/\(∃y:Sl EntM,v'.c=upd v.c k y/\Ek y.l es)/\IvOk n v'.f v'.L (aId a k es) F B)
theorem aRr (v:IvM) (k:Nat) (x:Sl EntM) {es:List En} {n F B:Nat} {a:Nat->Nat->Rat} (h:IvOk n v.f v.L a F B) (hi:IvB n F B) (hk:k<n) (hx:Ek x.l es) (hv:VOk es (n:Nat)) (hb:rbE es B) (hLn:v.L.length<=4000):CtrF Tryz.prog aUu ivL [.c (.p 0 0),.c (iC k),.c (cR x)] (ivB none n v) (ivF v) (λg:Int×IvM×(Nat->Rat)=>⟨.c (iC g.1),ivB none n g.2.1,ivF g.2.1,RepOk n k v es a F B g.1 g.2.1 g.2.2⟩):=(bSv v k x h hi hk hx hv hb hLn).re λg hg=>by
 obtain⟨w,o⟩:=g
 match o,hg with
 |none,⟨h1,h2⟩=>exact⟨(6,v,w),⟨h1,.inl ⟨rfl,rfl,h2⟩⟩,rfl,rfl,rfl⟩
 |some (y,S,A,kk),⟨⟨h1,h2⟩,h3,h4⟩=>exact⟨(0,⟨upd v.c k y,v.f,A,kk,v.L++[S]⟩,w),⟨h1,.inr ⟨rfl,h2,by simp,⟨y,rfl,h3⟩,h4⟩⟩,rfl,rfl,rfl⟩
def idQ (i:Nat):List Rat:=if i=0 then [1,0] else [0,1]
abbrev idM (i:Nat):List En:=fdF (idQ i) 2
theorem rl2 {p q:RatM} {a b:Rat} (hp:Cr p a) (hq:Cr q b):Rl [p,q] [a,b]:=⟨rfl,λk hk=>by
 match k,hk with
 |0,_=>exact hp
 |1,_=>exact hq⟩
theorem cAc:rb 0 1:=⟨by show len 0<=1;decide,by show len 1<=1;decide⟩
theorem bKt:rb 1 1:=⟨by show len 1<=1;decide,by show len 1<=1;decide⟩
theorem aEr {l:List CV} (h:l.all iP=true):∀c∈l,iP c=true:=aZ.1 h
theorem bGb {r1 r2:Sl RatM} {A:Option Addr} {c:Nat} (h1:Rl r1.l (idQ 0)) (h2:Rl r2.l (idQ 1)):Rr ⟨A,c,[r1,r2]⟩ idQ 2 2:=⟨rfl,λi hi=>by
 match i,hi with
 |0,_=>exact⟨h1,rfl⟩
 |1,_=>exact⟨h2,rfl⟩⟩
theorem bGc (i:Nat):rbL (idQ i) 1:=λq hq=>by
 unfold idQ at hq
 split at hq
 ·rcases bJ.1 hq with rfl|hq
  ·exact bKt
  rw[aT.1 hq];exact cAc
 rcases bJ.1 hq with rfl|hq
 ·exact cAc
 rw[aT.1 hq];exact bKt
abbrev bGd:FuncId:=27
theorem cAd:Ent Tryz.prog bGd:=bI func27 rfl kR
theorem cAe:Tryz.prog.funcs[bGd]? =some Tryz.f27:=func27
theorem bSw:Ctr Tryz.prog bGd [] [] [] (λg:MatM=>⟨.a g.C,[],Mx g idM 2⟩):=by
 refine cY gT cAd cAe rfl rfl rfl bL cD (Sd.sq (aC gT mxd ?_))
 refine Sd.sq (Sd.rg gT (l:=[_,_,_,_,_,_,_,_,_]) [_,_,_,_,_,_] [_,_,_] rfl rfl ?_)
 refine⟨[],qV (z:=1) dC,rfl,rfl,rfl,λq1 h1=>⟨[],aAv,rfl,rfl,rfl,λq2 h2=>⟨[],aAv,rfl,rfl,rfl,λq3 h3=>⟨[],qV (z:=1) dC,rfl,rfl,rfl,λq4 h4=>?_⟩⟩⟩⟩
 show Sdl _ _ _ _ _ _ _
 refine aKh bUf 3 1 (λj=>([q1,q2].getD j default).C) rfl rfl (λj hj=>match j,hj with|0,_=>rfl|1,_=>rfl) rfl bL (aEr rfl) bL λA1 c1 _ _=>⟨cm (aEr rfl),?_⟩
 refine aKh bUf 6 2 (λj=>([q3,q4].getD j default).C) rfl rfl (λj hj=>match j,hj with|0,_=>rfl|1,_=>rfl) rfl bL (aEr rfl) bL λA2 c2 _ _=>⟨λ_ h=>(by cases h),?_⟩
 refine Sdl.go (l:=[_,_,_,_,_,_,_,_,_]) gT ?_
 refine⟨some (λj=>[gA (([⟨A1,c1,[q1,q2]⟩,⟨A2,c2,[q3,q4]⟩]:List (Sl RatM)).getD j fF)]),⟨⟨bL,bL⟩,rfl,λj hj=>match j,hj with|0,_=>rfl|1,_=>rfl,aEr rfl⟩,λA3 c3 _ _=>⟨λ_ h=>(by cases h),λ_ h=>(by cases h),[],bDr ⟨A3,c3,[⟨A1,c1,[q1,q2]⟩,⟨A2,c2,[q3,q4]⟩]⟩ (bGb (rl2 h1 h2) (rl2 h3 h4)) (λi _=>bGc i) (aI 1) dC dC,rfl,rfl,rfl,λg hg=>aC gT mxd ⟨g,hg,cM rfl rfl trivial⟩⟩⟩
theorem cAf (f:Nat->Rat):fD f 2=f 0+f 1:=by show(0:Rat)+f 0+f 1=_;grind
theorem aLz (r j:Nat) (hj:j<2):Vm.get (idM r) (j:Nat)=(idQ r).getD j 0:=by
 rw[aFc,if_pos ⟨by omega,by omega⟩,bP]
theorem aUv (r:Nat) (x:Nat->Rat):fD (λj=>enM idM r j*x j) 2=if r=0 then x 0 else x 1:=by
 rw[cAf]
 show Vm.get (idM r) (0:Nat)*x 0+Vm.get (idM r) (1:Nat)*x 1=_
 rw[aLz r 0 dC,aLz r 1 dC]
 unfold idQ
 by_cases e:r=0
 ·rw[if_pos e,if_pos e];show(1:Rat)*_+0*_=_;grind
 rw[if_neg e,if_neg e];show(0:Rat)*_+1*_=_;grind
theorem bKu:¬Ker idM 2:=λ⟨x,⟨i,hi,hx⟩,hk⟩=>hx (by
 have:=hk i hi
 have h2:=aUv i x
 rw[show fD (λj=>enM idM i j*x j) 2=0 from this] at h2
 match i,hi with
 |0,_=>exact h2.symm
 |1,_=>exact h2.symm)
theorem aDu:IvB 2 (bd 1 2) 1:=⟨by decide,by decide,by decide,by decide,by decide,by decide⟩
abbrev es1:List En:=[((0:Int),2),((1:Int),1)]
abbrev es2:List En:=[((1:Int),1)]
theorem ek2 {p q:RatM} {a b:Rat} {i j:Int} (hp:Cr p a) (hq:Cr q b):Ek [⟨i,p⟩,⟨j,q⟩] [(i,a),(j,b)]:=⟨rfl,λk hk=>by
 match k,hk with
 |0,_=>exact⟨rfl,hp⟩
 |1,_=>exact⟨rfl,hq⟩⟩
theorem ek1 {p:RatM} {a:Rat} {i:Int} (hp:Cr p a):Ek [⟨i,p⟩] [(i,a)]:=⟨rfl,λk hk=>by
 match k,hk with
 |0,_=>exact⟨rfl,hp⟩⟩
theorem bSx:VOk es1 (2:Nat):=⟨by
 refine uG.2 ⟨λe he=>?_,gG _ _⟩
 rw[aT.1 he];show(0:Int)<1;decide,λe he=>by
 rcases bJ.1 he with rfl|he
 ·exact⟨by decide,by decide,show(2:Rat)≠0 by decide⟩
 rw[aT.1 he];exact⟨by decide,by decide,show(1:Rat)≠0 by decide⟩⟩
theorem bSy:VOk es2 (2:Nat):=⟨gG _ _,λe he=>by rw[aT.1 he];exact⟨by decide,by decide,show(1:Rat)≠0 by decide⟩⟩
theorem bGe {q:Rat} (h:q=0\/q=1\/q=2\/q=4\/q=5):rb q 1:=by
 rcases h with rfl|rfl|rfl|rfl|rfl<;>exact⟨by decide,by decide⟩
theorem bSz:rbE es1 1:=λe he=>by
 rcases bJ.1 he with rfl|he
 ·exact bGe (.inr (.inr (.inl rfl)))
 rw[aT.1 he];exact bKt
theorem bTa:rbE es2 1:=λe he=>by rw[aT.1 he];exact bKt
theorem bGf (i:Nat):Vm.get es1 (i:Nat)=if i=0 then 2 else if i=1 then 1 else 0:=by
 show Vm.get (((0:Int),(2:Rat))::[((1:Int),1)]) _=_
 rw[nJ,nJ]
 show _+(_+(0:Rat))=_
 match i with
 |0=>show(2:Rat)+(0+0)=2;grind
 |1=>show(0:Rat)+(1+0)=1;grind
 |i+2=>rw[if_neg (by show ¬(0:Int)=_;omega),if_neg (by show ¬(1:Int)=_;omega),if_neg oM,if_neg oM];grind
theorem bTb (i:Nat):Vm.get es2 (i:Nat)=if i=1 then 1 else 0:=by
 show Vm.get (((1:Int),(1:Rat))::[]) _=_
 rw[nJ]
 show _+(0:Rat)=_
 by_cases e:i=1
 ·subst e;show(1:Rat)+0=1;grind
 rw[if_neg (by show ¬(1:Int)=_;omega),if_neg e];grind
theorem cDw {v v1:IvM} {e:Int} {w:Nat->Rat} (h:RepOk 2 0 v es1 (enM idM) (bd 1 2) 1 e v1 w):e=0/\v1.L.length=v.L.length+1/\IvOk 2 v1.f v1.L (aId (enM idM) 0 es1) (bd 1 2) 1:=by
 rcases h.res with ⟨_,_,h0⟩|⟨h1,_,h2,_,h3⟩
 ·have:=h.sol.eq 0 dC
  rw[aUv,if_pos rfl,h0,bGf] at this
  exact absurd this.symm dC
 exact⟨h1,h2,h3⟩
theorem aMa (r:Nat) (hr:r<2) (x:Nat->Rat):fD (λj=>aId (enM idM) 0 es1 r j*x j) 2=if r=0 then 2*x 0 else x 0+x 1:=by
 rw[cAf]
 have h1:aId (enM idM) 0 es1 r 0=Vm.get es1 (r:Nat):=if_pos rfl
 have h2:aId (enM idM) 0 es1 r 1=Vm.get (idM r) (1:Nat):=if_neg dC
 rw[h1,h2,bGf,aLz r 1 dC]
 match r,hr with
 |0,_=>show(2:Rat)*x 0+0*x 1=2*x 0;grind
 |1,_=>show(1:Rat)*x 0+1*x 1=x 0+x 1;grind
theorem cDx {v v1:IvM} {e:Int} {w:Nat->Rat} (h:RepOk 2 0 v es2 (aId (enM idM) 0 es1) (bd 1 2) 1 e v1 w):e=6/\v1=v:=by
 have:=h.sol.eq 0 dC
 rw[aMa 0 dC,if_pos rfl,bTb] at this
 have h0:w 0=0:=by
  have h2:(2:Rat)*w 0=0:=this
  rcases sZ.1 h2 with h3|h3
  ·exact absurd h3 dC
  exact h3
 rcases h.res with ⟨h1,h2,_⟩|⟨_,h1,_⟩
 ·exact⟨h1,h2⟩
 exact absurd h0 h1
theorem cDy {z:Nat->Rat} {Z:Nat->RatM} (h:SolA (aId (enM idM) 0 es1) 2 (λk=>if k=0 then 4 else 5) z) (hZ:∀i,i<2->Cr (Z i) (z i)):Rl (jL Z 2) [2,3]:=by
 have e0:=h.eq 0 dC
 have e1:=h.eq 1 dC
 rw[aMa 0 dC,if_pos rfl] at e0
 rw[aMa 1 dC,if_neg dC] at e1
 have z0:z 0=2:=by
  have h2:(2:Rat)*z 0=4:=e0
  have h3:(2:Rat)*(z 0-2)=0:=by grind
  rcases sZ.1 h3 with h4|h4
  ·exact absurd h4 dC
  grind
 have z1:z 1=3:=by
  have h2:z 0+z 1=5:=e1
  rw[z0] at h2;grind
 refine⟨rfl,λk hk=>?_⟩
 match k,hk with
 |0,_=>have:=hZ 0 dC;rw[z0] at this;exact this
 |1,_=>have:=hZ 1 dC;rw[z1] at this;exact this
abbrev aUw:FuncId:=6
theorem cAg:Ent Tryz.prog aUw:=bI func6 rfl kR
theorem cAh:Tryz.prog.funcs[aUw]? =some Tryz.f6:=func6
theorem bTc:Ctr Tryz.prog aUw [] [] [] (λ_:Unit=>⟨pC True,[],True⟩):=by
 refine cY gT cAg cAh rfl rfl rfl bL cD (aC gT mxd ⟨[],bSw,rfl,rfl,rfl,λm hm=>?_⟩)
 replace hm:Mx m idM 2:=hm
 have hbM:rbM idM 2 1:=λi _=>aBa λj hj=>bGc i _ (by
  refine gD0 ?_
  unfold idQ;split<;>exact hj)
 refine⟨[],aRj m hm hbM (aI 1) dC dC,rfl,rfl,rfl,λg hg=>?_⟩
 match g,hg with
 |none,hg=>exact absurd hg bKu
 |some (c,f,rw,cl,Lw,Up),⟨hg,hc⟩=>
  replace hc:∀j,j<2->Ek (c j).l (trM idM 2 j):=hc
  have hI:IvOk 2 f [] (enM idM) (bd 1 2) 1:=IvOk.new hg hbM (λr _=>xI 2) (aI 1)
  refine⟨λhh=>absurd rfl hh,λ_=>aC gT mxd ?_⟩
  refine⟨[],qV (z:=2) dC,rfl,rfl,rfl,λq1 h1=>⟨[],qV (z:=1) dC,rfl,rfl,rfl,λq2 h2=>?_⟩⟩
  refine⟨some (λj=>(([⟨0,q1⟩,⟨1,q2⟩]:List EntM).getD j default).C),⟨⟨bL,bL⟩,rfl,λj hj=>match j,hj with|0,_=>rfl|1,_=>rfl,aEr rfl⟩,λA3 c3 _ _=>⟨cm (bE λ_ _=>rfl),?_⟩⟩
  refine⟨[0,1,1000],aRr ⟨c,f,none,0,[]⟩ 0 ⟨A3,c3,[⟨0,q1⟩,⟨1,q2⟩]⟩ (es:=es1) hI aDu dC (ek2 h1 h2) bSx bSz (aF _),rfl,rfl,rfl,λ⟨e,v1,w⟩ hr=>?_⟩
  replace hr:RepOk 2 0 ⟨c,f,none,0,[]⟩ es1 (enM idM) (bd 1 2) 1 e v1 w:=hr
  obtain⟨he,hl1,hI1⟩:=cDw hr
  refine⟨[],qV (z:=4) dC,rfl,rfl,rfl,λq4 h4=>⟨[],qV (z:=5) dC,rfl,rfl,rfl,λq5 h5=>?_⟩⟩
  have hl1':v1.L.length=1:=hl1
  refine⟨some (λj=>(([q4,q5]:List RatM).getD j default).C),⟨⟨bL,bL⟩,rfl,λj hj=>match j,hj with|0,_=>rfl|1,_=>rfl,aEr rfl⟩,λA4 c4 _ _=>⟨cm (bE λ_ _=>rfl),λ_ h=>(by cases h),?_⟩⟩
  refine⟨[0,1,1000],bFt v1 ⟨A4,c4,[q4,q5]⟩ (bv:=λk=>if k=0 then 4 else 5) hI1 aDu rfl (λk hk=>?_) oM,rfl,rfl,rfl,λ⟨Z,z⟩ ⟨hz,hZ⟩=>?_⟩
  ·match k,hk with
   |0,_=>exact⟨h4,bGe dC⟩
   |1,_=>exact⟨h5,bGe dC⟩
  refine⟨[],qV (z:=1) dC,rfl,rfl,rfl,λq6 h6=>?_⟩
  refine⟨some (λj=>(([⟨1,q6⟩]:List EntM).getD j default).C),⟨⟨bL,bL⟩,rfl,λj hj=>match j,hj with|0,_=>rfl,aEr rfl⟩,λA5 c5 _ _=>⟨cm (bE λ_ _=>rfl),λ_ h=>(by cases h),λ_ h=>(by cases h),cm fB,?_⟩⟩
  refine⟨[0,1,1000],aRr v1 0 ⟨A5,c5,[⟨1,q6⟩]⟩ (es:=es2) hI1 aDu dC (ek1 h6) bSy bTa oM,rfl,rfl,rfl,λ⟨e2,v2,w2⟩ hr2=>?_⟩
  replace hr2:RepOk 2 0 v1 es2 (aId (enM idM) 0 es1) (bd 1 2) 1 e2 v2 w2:=hr2
  obtain⟨he2,hv2⟩:=cDx hr2
  refine⟨λ_=>⟨[0,1,1000],tK none 2 v2,rfl,rfl,rfl,λ_ _=>⟨λ_=>⟨[0,1,1000],bFk none 2 v2,rfl,rfl,rfl,λ_ _=>⟨λ_=>⟨[],qV (z:=2) dC,rfl,rfl,rfl,λq7 h7=>⟨[],qV (z:=3) dC,rfl,rfl,rfl,λq8 h8=>?_⟩⟩,λh=>?_⟩⟩,λh=>?_⟩⟩,λh=>?_⟩
  ·refine⟨some (λj=>((jL Z 2).getD j default).C),⟨⟨bL,bL⟩,rfl,λj hj=>match j,hj with|0,_=>rfl|1,_=>rfl,fB⟩,λA6 c6 _ _=>⟨cm (bE λ_ _=>rfl),λ_ h=>(by cases h),λ_ h=>(by cases h),λ_ h=>(by cases h),cm (aEr rfl),?_⟩⟩
   refine⟨some (λj=>(([q7,q8]:List RatM).getD j default).C),⟨⟨bL,bL⟩,rfl,λj hj=>match j,hj with|0,_=>rfl|1,_=>rfl,aEr rfl⟩,λA7 c7 _ _=>⟨cm (bE λ_ _=>rfl),λ_ h=>(by cases h),λ_ h=>(by cases h),λ_ h=>(by cases h),λ_ h=>(by cases h),?_⟩⟩
   refine⟨[],aLh ⟨A6,c6,jL Z 2⟩ ⟨A7,c7,[q7,q8]⟩ (qs:=[2,3]) (cDy hz λi hi=>(hZ i hi).1) (rl2 h7 h8) (λq hq=>?_) dC,rfl,rfl,rfl,λ_ _=>⟨(),trivial,jO ?_ trivial bL bM rfl aAu⟩⟩
   ·rcases bJ.1 hq with rfl|hq
    ·exact⟨by decide,by decide⟩
    rw[aT.1 hq];exact⟨by decide,by decide⟩
   exact qD
  ·exact absurd (show((v2.L.length:Nat):Int)=1 by rw[hv2,hl1'];rfl) h
  ·exact absurd rfl h
  exact absurd ⟨⟨he,rfl⟩,he2⟩ h
theorem bGg:Ctr Tryz.prog aUw [] [] [] (λ_:Unit=>⟨.c (.v (.bool true)),[],True⟩):=CtrF.lo bTc λ_ _=>⟨(),trivial,λρ n w v h=>h.tt trivial,rfl,rfl⟩
theorem bGh {M:Nat->List En} {n:Nat} (j:Nat):VOk (trM M n j) (n:Nat):=(aDn n).1
theorem bGi {n:Nat} (h0:0<n) (h:n<=5):IvB n (bd 3 n) 3/\bd 3 n<=17179869184:=by
 match n,h0,h with
 |1,_,_=>exact⟨⟨by decide,by decide,by decide,by decide,by decide,by decide⟩,by decide⟩
 |2,_,_=>exact⟨⟨by decide,by decide,by decide,by decide,by decide,by decide⟩,by decide⟩
 |3,_,_=>exact⟨⟨by decide,by decide,by decide,by decide,by decide,by decide⟩,by decide⟩
 |4,_,_=>exact⟨⟨by decide,by decide,by decide,by decide,by decide,by decide⟩,by decide⟩
 |5,_,_=>exact⟨⟨by decide,by decide,by decide,by decide,by decide,by decide⟩,by decide⟩
theorem aUx {A A':Option Addr} {c c' n:Nat} {Z Z':Nat->RatM} {z z':Nat->Rat} {B:Nat} (h:∀i,i<n->Cr (Z i) (z i)/\rb (z i) B) (h':∀i,i<n->Cr (Z' i) (z' i)) (he:∀i,i<n->z i=z' i) (hB:B<=549755813888) (hn:n<=4096):Ctr Tryz.prog aLg [] [.c (.r A n c 3 λj=>((jL Z n).getD j default).C),.c (.r A' n c' 3 λj=>((jL Z' n).getD j default).C)] [] (λ_:Unit=>⟨pC True,[],True⟩):=by
 obtain⟨qs,hqs⟩:∃qs:List Rat,qs=(List.range n).map z:=⟨_,rfl⟩
 have hql:qs.length=n:=by rw[hqs];simp
 have hqa:∀i,i<n->qs.getD i 0=z i:=λi hi=>by rw[hqs];simp[hi]
 have hR:∀(Z:Nat->RatM),(∀i,i<n->Cr (Z i) (z i))->Rl (jL Z n) qs:=λZ h=>⟨by rw[hql];unfold jL;simp,λi hi=>by
  rw[hql] at hi
  rw[hqa i hi,show(jL Z n).getD i default=Z i by unfold jL;simp[hi]]
  exact h i hi⟩
 have:=aLh ⟨A,c,jL Z n⟩ ⟨A',c',jL Z' n⟩ (hR Z λi hi=>(h i hi).1) (hR Z' λi hi=>by rw[he i hi];exact h' i hi) (λq hq=>by
  rw[hqs] at hq
  obtain⟨i,hi,rfl⟩:=cP.1 hq
  exact(h i (eA.1 hi)).2.le hB) oM
 have e:∀(A:Option Addr) c (Z:Nat->RatM),gA ⟨A,c,jL Z n⟩= .r A n c 3 λj=>((jL Z n).getD j default).C:=λA c Z=>by
  unfold gA Sl.R
  rw[show(jL Z n).length=n by unfold jL;simp]
 rwa [e,e] at this
abbrev aRs:FuncId:=23
theorem bTd:Ent Tryz.prog aRs:=bI func23 rfl kR
theorem bTe:Tryz.prog.funcs[aRs]? =some Tryz.f23:=func23
theorem bKv (d:Sl Int) (p:Nat):Ctr Tryz.prog aRs [true] [.c (.p 0 0)] (tpB d p) (λ_:Unit=>⟨pC ((p:Int)<(d.l.length:Nat)),tpB d p,True⟩):=
 cY gT bTd bTe rfl rfl rfl bL (ClB.one rfl) (aC gT mxd ⟨.seq ((List.range 11).map λi=>(i,false)),by kernel_rfl,(),trivial,jO qD rfl bL (aD rfl bM) rfl (ClB.one rfl)⟩)
structure EfI (n:Nat) (v:IvM) (cs:Nat->List En):Prop where
 ok:∃a,IvOk n v.f v.L a (bd 3 n) 3/\∀r j,r<n->j<n->a r j=Vm.get (cs j) (r:Nat)
 e:∀j,j<n->Ek (v.c j).l (cs j)
 v:∀j,j<n->VOk (cs j) (n:Nat)
 b:rbM cs n 3
theorem EfI.rep {n k:Nat} {v v1:IvM} {cs:Nat->List En} {es:List En} {a:Nat->Nat->Rat} {e:Int} {w:Nat->Rat} (h:EfI n v cs) (ha:∀r j,r<n->j<n->a r j=Vm.get (cs j) (r:Nat)) (hr:RepOk n k v es a (bd 3 n) 3 e v1 w) (hv:VOk es (n:Nat)) (hb:rbE es 3):∃cs',EfI n v1 cs'/\v1.L.length<=v.L.length+1:=by
 rcases hr.res with ⟨_,h2,_⟩|⟨_,_,h2,⟨y,h3,h4⟩,h5⟩
 ·exact⟨cs,h2▸h,by rw[h2];omega⟩
 refine⟨upd cs k es,⟨⟨_,h5,λr j hr hj=>?_⟩,λj hj=>?_,λj hj=>?_,λj hj=>?_⟩,by omega⟩
 ·unfold aId
  by_cases e1:j=k
  ·rw[if_pos e1,e1,cN]
  rw[if_neg e1,cJ e1];exact ha r j hr hj
 all_goals
  by_cases e1:j=k
  ·subst e1
   first|(rw[h3,cN,cN];exact h4)|(rw[cN];assumption)
  first|(rw[h3,cJ e1,cJ e1];exact h.e j hj)|(rw[cJ e1];first|exact h.v j hj|exact h.b j hj)
theorem bTf (m:MatM) {A:Option Addr} {c n B:Nat} {Z:Nat->RatM} {z:Nat->Rat} {M:Nat->List En} (h:Mx m M n) (hb:rbM M n B) (h1:1<=B) (hn:n<=4096) (hZ:∀i,i<n->Cr (Z i) (z i)/\rb (z i) B) (hB:1+(n+1)*(B+B+1)<=137438953472):Ctr Tryz.prog aUn [] [.a m.C,.c (.r A n c 3 λj=>((jL Z n).getD j default).C)] [] (λg:Sl RatM=>⟨.t [.c (gA g),.c (iC 0)],[],Rl g.l (aDs M ((List.range n).map z) n n)⟩):=by
 have hl:(jL Z n).length=n:=by unfold jL;simp
 have hq:((List.range n).map z).length=n:=by simp
 have:=bSn m ⟨A,c,jL Z n⟩ (qs:=(List.range n).map z) h hb h1 hn ⟨by rw[hq];exact hl,λi hi=>by
  rw[hq] at hi
  rw[show((List.range n).map z).getD i 0=z i by simp[hi],show(jL Z n).getD i default=Z i by unfold jL;simp[hi]]
  exact(hZ i hi).1⟩ (λq hq=>by
  obtain⟨i,hi,rfl⟩:=cP.1 hq
  exact(hZ i (eA.1 hi)).2) hq hB
 have e:gA ⟨A,c,jL Z n⟩= .r A n c 3 λj=>((jL Z n).getD j default).C:=by
  unfold gA Sl.R
  rw[hl]
 rwa [e] at this
theorem bKw {n:Nat} {cs:Nat->List En} {a:Nat->Nat->Rat} {qs:List Rat} {z:Nat->Rat} (ha:∀r j,r<n->j<n->a r j=Vm.get (cs j) (r:Nat)) (hq:qs.length=n) (h:SolA a n (λk=>qs.getD k 0) z):aDs (trM cs n) ((List.range n).map z) n n=qs:=by
 refine nK (by simp[aDs,hq]) λr h1 h2=>?_
 have hr:r<n:=by omega
 have e1:qs[r]=qs.getD r 0:=by rw[bF,aK h2];rfl
 rw[e1,<-h.eq r hr]
 have e2:(aDs (trM cs n) ((List.range n).map z) n n)[r]=aRn (dnL (trM cs n r) n) ((List.range n).map z) n:=by simp[aDs]
 rw[e2]
 refine dT λj hj=>?_
 rw[ha r j hr hj,aHj hj,aFg hj,show((List.range n).map z).getD j 0=z j by simp[hj]]
theorem bTg {n:Nat} {cs:Nat->List En} {a:Nat->Nat->Rat} (ha:∀r j,r<n->j<n->a r j=Vm.get (cs j) (r:Nat)) (hN:NS a n):¬Ker (trM cs n) n:=λ⟨x,⟨i,hi,hx⟩,hk⟩=>hx (by
 obtain⟨y,hy⟩:=hN λ_=>0
 have h1:=(hy x).1 λr hr=>by
  rw[<-hk r hr]
  exact dT λj hj=>by rw[ha r j hr hj,aFg hj]
 have h2:=(hy λ_=>0).1 λr hr=>pG λj _=>iH _
 rw[h1 i hi,<-h2 i hi])
abbrev bGj:FuncId:=5
theorem cAi:Ent Tryz.prog bGj:=bI func5 rfl kR
theorem cAj:Tryz.prog.funcs[bGj]? =some Tryz.f5:=func5
structure EfG where
 i:Nat
 v:IvM
 q:Nat
abbrev efB (co:Sl Int) (n:Nat) (mc:Int) (md:Sl (Sl EntM)) (g:EfG):BL:=[(24,0,(MatM.mk (n:Nat) mc md).C),(74,0,.s 2 n::(g.v.f.C++[.h g.v.A g.v.L.length g.v.k])),(54,1,fX n λj=>cR (g.v.c j)),(84,0,[kI co,iC g.q])]
theorem bGk {co:Sl Int} {n:Nat} {mc:Int} {md:Sl (Sl EntM)} {g:EfG}:scB 4 (efB co n mc md g):=aD rfl (aD rfl (aD (cZ (bE λ_ _=>rfl)) (aD rfl bM)))
abbrev efS (g:EfG):List (Nat×DV):=[(9,.c (iC g.i)),(5,.c (.p 0 0)),(6,.c (.p 1 0)),(8,.c (.p 3 0))]
def oEf:Ord:=.treeX [0,1,2,4,6,8,10,12,15] [16] (trS [3,5,7,9,11,13,14,1017,1018])
theorem cAk (ch co:Sl Int):Ctr Tryz.prog bGj [] [.c (kI ch),.c (kI co)] [] (λ_:Unit=>⟨pC True,[],True⟩):=by
 refine cY gT cAi cAj rfl rfl rfl bL cD (aWe 0 rfl λhch=>aWe 1 rfl λhco=>aC gT mxd ?_)
 replace hch:ch.l.length<=9223372036854775807:=hch
 replace hco:co.l.length<=9223372036854775807:=hco
 refine⟨[],bXu ch 5 hch dC dC,rfl,rfl,rfl,λ⟨⟨mr,mc,md⟩,M,n⟩ ⟨⟨hm,hbM⟩,hn0,hn5⟩=>?_⟩
 replace hm:Mx ⟨mr,mc,md⟩ M n:=hm
 replace hbM:rbM M n 3:=hbM
 replace hn0:0<n:=hn0
 replace hn5:n<=5:=hn5
 obtain rfl:mr=(n:Nat):=hm.r
 have hI:=(bGi hn0 hn5).1
 have hbd:=(bGi hn0 hn5).2
 have hI2:=bKp hn0 hn5
 refine⟨[],aRj ⟨(n:Nat),mc,md⟩ hm hbM dC hbd oM,rfl,rfl,rfl,λg hg=>?_⟩
 match g,hg with
 |none,hg=>
  refine⟨λ_=>⟨[],bGg,rfl,rfl,rfl,λ_ _=>?_⟩,λh=>?_⟩
  ·exact⟨(),trivial,jO (show(true=true↔True) by decide) trivial bL bM rfl aAu⟩
  exact absurd (show((6:Int))≠0 by decide) h
 |some (c,f,rw,cl,Lw,Up),⟨hg,hc⟩=>
  replace hc:∀j,j<n->Ek (c j).l (trM M n j):=hc
  have hE0:EfI n ⟨c,f,none,0,[]⟩ (trM M n):=⟨⟨enM M,IvOk.new hg hbM (λr hr=>(hm.ok r hr).1.1) dC,λr j hr _=>(aFg hr).symm⟩,hc,λj _=>bGh j,λj hj=>bCu dC hbM λi hi=>(hm.ok i hi).1.1⟩
  refine⟨λhh=>absurd rfl hh,λ_=>aC gT mxd ?_⟩
  refine⟨[],aQl co,rfl,rfl,rfl,λ_ _=>?_⟩
  show Sd _ _ _ _ _ _
  refine eW (λ_=>true) (λg:EfG=>efS g) (λg=>efB co n mc md g) (λg=>ivF g.v) (λg=>(g.i<=8/\g.q<=co.l.length)/\g.v.L.length<=g.i/\∃cs,EfI n g.v cs) (λg=>8-g.i) λhM=>⟨dG hM (chg:=λg:EfG=>efS g) (bls:=λg=>efB co n mc md g) (fls:=λg=>ivF g.v) ⟨0,⟨c,f,none,0,[]⟩,0⟩ ⟨⟨aF _,aF _⟩,aI _,_,hE0⟩ rfl ⟨rfl,rfl,rfl,rfl⟩ ⟨rfl,trivial⟩ ⟨rfl,rfl,rfl,rfl⟩ bL bGk rfl,λ⟨i,v,q⟩ ⟨⟨hi,hq⟩,hL,cs,hE⟩=>aC gT mxd ?_⟩
  replace hi:i<=8:=hi
  replace hq:q<=co.l.length:=hq
  replace hL:v.L.length<=i:=hL
  refine⟨λh3=>⟨[3],bKv co q,rfl,rfl,rfl,λ_ _=>⟨λh4=>aC gT mxd ?_,λh4=>aC gT mxd ?_⟩⟩,λh3=>?_⟩
  ·obtain⟨a,hO,ha⟩:=hE.ok
   refine⟨[3],pF co q (n:Nat) hco hq oM oM,rfl,rfl,rfl,λ⟨r,q0⟩ ⟨⟨hr0,hrn⟩,hq0⟩=>?_⟩
   replace hr0:0<=r:=hr0
   replace hrn:r<(n:Nat):=hrn
   replace hq0:q0<=co.l.length:=hq0
   obtain⟨k,rfl⟩:∃k:Nat,r=(k:Nat):=⟨r.toNat,by omega⟩
   have hk:k<n:=by omega
   refine⟨oEf,by kernel_rfl,[3],pF co q0 99 hco hq0 dC dC,rfl,rfl,rfl,λ⟨r1,q1⟩ ⟨_,hq1⟩=>⟨rfl,[3],pF co q1 99 hco hq1 dC dC,rfl,rfl,rfl,λ⟨r2,q2⟩ ⟨_,hq2⟩=>⟨rfl,[3],pF co q2 99 hco hq2 dC dC,rfl,rfl,rfl,λ⟨r3,q3⟩ ⟨_,hq3⟩=>⟨rfl,[3],pF co q3 99 hco hq3 dC dC,rfl,rfl,rfl,λ⟨r4,q4⟩ ⟨_,hq4⟩=>⟨rfl,[3],pF co q4 99 hco hq4 dC dC,rfl,rfl,rfl,λ⟨r5,q5⟩ ⟨_,hq5⟩=>⟨rfl,[3],pF co q5 99 hco hq5 dC dC,rfl,rfl,rfl,λ⟨r6,q6⟩ ⟨_,hq6⟩=>⟨rfl,rfl,?_⟩⟩⟩⟩⟩⟩⟩
   refine⟨some (λj=>[iC (([r1,r2,r3,r4,r5,r6]:List Int).getD j 0)]),⟨⟨bL,bL⟩,rfl,λj hj=>match j,hj with|0,_=>rfl|1,_=>rfl|2,_=>rfl|3,_=>rfl|4,_=>rfl|5,_=>rfl,aEr rfl⟩,λA4 c4 _ _=>⟨cm (bE λ_ _=>rfl),?_⟩⟩
   refine⟨[],bXq ⟨A4,c4,[r1,r2,r3,r4,r5,r6]⟩ n (show(6:Nat)<=9223372036854775807 by decide) oM,rfl,rfl,rfl,λ⟨x,cq⟩ ⟨⟨hx,hcl⟩,hcb⟩=>?_⟩
   replace hx:Ek x.l (fdF cq n):=hx
   replace hcl:cq.length=n:=hcl
   replace hcb:rbL cq 1:=hcb
   have hfb:rbE (fdF cq n) 3:=aBa λj hj=>(hcb _ (gD0 oM)).le dC
   refine⟨[1,2,1000],aRr v k x hO hI hk hx (aDn n).1 hfb oM,rfl,rfl,rfl,λ⟨e,v1,w1⟩ hr1=>?_⟩
   obtain⟨cs',hE',hL'⟩:=hE.rep ha hr1 (aDn n).1 hfb
   exact⟨(i+1:Nat),wi (by show((i+1:Nat):Int)=(i:Nat)+1/\_<=(i:Int)+1/\(i:Int)+1<=_;omega),dG hM (chg:=λg:EfG=>efS g) (bls:=λg=>efB co n mc md g) (fls:=λg=>ivF g.v) ⟨i+1,v1,q6⟩ ⟨⟨⟨by replace h3:(i:Int)<8:=h3;show i+1<=8;omega,hq6⟩,by show v1.L.length<=i+1;replace hL':v1.L.length<=v.L.length+1:=hL';omega,cs',hE'⟩,by replace h3:(i:Int)<8:=h3;show 8-(i+1)<8-i;omega⟩ rfl ⟨rfl,rfl,rfl,rfl⟩ ⟨rfl,trivial⟩ ⟨rfl,rfl,rfl,rfl⟩ bL bGk rfl⟩
  all_goals
   obtain⟨⟨a,hO,ha⟩,hEk,hV,hB⟩:=hE
   have hTB:rbM (trM cs n) n 3:=λj hj=>bCu dC hB λi hi=>(hV i hi).1
   have hrl:∀Z:Nat->RatM,n*3=(rtC n Z).length:=λZ=>(rX (P:=λj=>(Z j).C) (e:=3) λ_ _=>rfl).symm
   have hra:∀(Z:Nat->RatM) (j:Nat),j<n->((jL Z n).getD j default).C=((rtC n Z).drop (j*3)).take 3:=λZ j hj=>by
    rw[show(jL Z n).getD j default=Z j by unfold jL;simp[hj]]
    exact(kW hj).1.symm
   show Sd _ _ _ _ _ _
   refine aCd tSd 2 rfl bL (bE λ_ _=>rfl) bL rfl λA3 c3=>?_
   refine xR tSd 1 1 (qX ⟨A3.map λb=>⟨b,0,none⟩,c3,nD v.c n⟩::(v.f.C++[.h v.A v.L.length v.k])) rfl rfl rfl rfl (yS (k0:=0) rfl aCl) (Sd.sq (aC gT mxd ?_))
   refine⟨[1,2,1000],bFq (A3.map λb=>⟨b,0,none⟩) c3 v hEk hV hB dC oM,rfl,rfl,rfl,λg1 hg1=>?_⟩
   refine⟨[],aRj g1 hg1 hTB dC hbd oM,rfl,rfl,rfl,λg2 hg2=>?_⟩
   match g2,hg2 with
   |none,hg2=>exact absurd hg2 (bTg ha hO.ns)
   |some (c2,f2,rw2,cl2,Lw2,Up2),⟨hg3,hc3⟩=>
    have hO2:IvOk n f2 [] (enM (trM cs n)) (bd 3 n) 3:=IvOk.new hg3 hTB (λr hr=>(bGh r).1) dC
    show Sd _ _ _ _ _ _
    refine Sd.sq (aC gT mxd ?_)
    refine⟨[],bGg,rfl,rfl,rfl,λ_ _=>⟨λhh=>absurd rfl hh,λ_=>aC gT mxd ?_⟩⟩
    show Sd _ _ _ _ _ _
    refine Sd.sq (aC gT mxd ?_)
    refine⟨[3],bIy co q n hco hq oM,rfl,rfl,rfl,λ⟨b,qs,q'⟩ ⟨⟨hb,hql⟩,hqb,_⟩=>?_⟩
    replace hb:Rl b.l qs:=hb
    replace hql:qs.length=n:=hql
    replace hqb:rbL qs 1:=hqb
    have hbv:∀k,k<n->Cr (b.l.getD k default) (qs.getD k 0)/\rb (qs.getD k 0) 3:=λk hk=>⟨hb.e k oM,(hqb _ (gD0 oM)).le dC⟩
    show Sd _ _ _ _ _ _
    refine Sd.sq (aC gT mxd ?_)
    refine⟨[1,2,1000],aRk (some (A3.map λb=>⟨b,0,none⟩,c3)) v b (bv:=λk=>qs.getD k 0) hO hI (hb.ln.trans hql) hbv oM,rfl,rfl,rfl,λ⟨Zp,zp⟩ ⟨hSp,hZp⟩=>?_⟩
    show Sd _ _ _ _ _ _
    refine Sd.sq (aC gT mxd ?_)
    refine⟨[4,5,1002],aRk none ⟨c2,f2,none,0,[]⟩ b (bv:=λk=>qs.getD k 0) hO2 hI (hb.ln.trans hql) hbv (aF _),rfl,rfl,rfl,λ⟨Zq,zq⟩ ⟨hSq,hZq⟩=>?_⟩
    show Sd _ _ _ _ _ _
    refine Sd.sq (aC gT mxd ?_)
    refine⟨[1,2,1000],aUt (some (A3.map λb=>⟨b,0,none⟩,c3)) v b (bv:=λk=>qs.getD k 0) hO hI hI2 (hb.ln.trans hql) hbv oM,rfl,rfl,rfl,λ⟨Zr,zr⟩ ⟨hSr,hZr⟩=>?_⟩
    show Sd _ _ _ _ _ _
    refine Sd.sq (aC gT mxd ?_)
    refine⟨[4,5,1002],aUt none ⟨c2,f2,none,0,[]⟩ b (bv:=λk=>qs.getD k 0) hO2 hI hI2 (hb.ln.trans hql) hbv (aF _),rfl,rfl,rfl,λ⟨Zs,zs⟩ ⟨hSs,hZs⟩=>?_⟩
    have ha2:∀r j,r<n->j<n->enM (trM cs n) r j=a r j:=λr j hr hj=>by rw[ha r j hr hj];exact aFg hj
    have hpq:∀i,i<n->zp i=zq i:=hSp.uniq (hSq.congr (λr j hr hj=>(ha2 r j hr hj).symm) (λ_ _=>rfl) λ_ _=>rfl)
    have hsT:TEq a n (λk=>qs.getD k 0) zs:=λj hj=>by
     rw[<-hSs j hj]
     exact dT λr hr=>by rw[ha2 r j hr hj]
    have hrs:∀i,i<n->zr i=zs i:=TEq.uniq hO.ns hSr hsT
    have hrb:∀i,i<n->rb (zr i) (sB 3 n):=(TEq.sol hO.ns hSr).size dC (λr j hr hj=>by
     show rb (a j r) 3
     rw[ha j r hj hr];exact oH (hV r hr).1 (hB r hr) dC) (λr hr=>(hbv r hr).2)
    have hS3:sB 3 n<=8589934592:=by have:=hI.hS;omega
    have hB3:1+(n+1)*(sB 3 n+sB 3 n+1)<=137438953472:=by
     have h8:(n+1)*(sB 3 n+sB 3 n+1)<=6*(sB 3 n+sB 3 n+1):=bK _ oM
     have:=hI.hS
     omega
    replace hZp:∀i,i<n->Cr (Zp i) (zp i)/\rb (zp i) (sB 3 n):=hZp
    show Sd _ _ _ _ _ _
    refine aKi 14 6 (λj=>((jL Zp n).getD j default).C) rfl rfl (hra Zp) (hrl Zp) bL fB bL λA6 c6 _ _=>⟨λ_ h=>(by cases h),cm (bE λ_ _=>rfl),cm fB,cm fB,cm fB,aC gT mxd ?_⟩
    refine⟨[1,2,1000],bFq (A3.map λb=>⟨b,0,none⟩) c3 v hEk hV hB dC oM,rfl,rfl,rfl,λg3 hg3'=>?_⟩
    refine⟨[],bTf g3 hg3' (λr hr e he=>(hTB r hr e he).le (by have:=hI.bs;omega)) hI.sB1 oM hZp hB3,rfl,rfl,rfl,λu hu=>?_⟩
    refine⟨λ_=>?_,λh=>absurd ⟨rfl,rfl⟩ h⟩
    refine⟨some (λj=>((jL Zq n).getD j default).C),⟨⟨bL,bL⟩,hrl Zq,hra Zq,fB⟩,λA7 c7 _ _=>⟨λ_ h=>(by cases h),cm (bE λ_ _=>rfl),λ_ h=>(by cases h),cm fB,cm fB,?_⟩⟩
    refine⟨[],aUx hZp (λi hi=>(hZq i hi).1) hpq oM oM,rfl,rfl,rfl,λ_ _=>⟨λ_=>?_,λh=>absurd trivial h⟩⟩
    refine⟨some (λj=>((jL Zr n).getD j default).C),⟨⟨bL,bL⟩,hrl Zr,hra Zr,fB⟩,λA8 c8 _ _=>⟨λ_ h=>(by cases h),cm (bE λ_ _=>rfl),λ_ h=>(by cases h),λ_ h=>(by cases h),cm fB,?_⟩⟩
    refine⟨some (λj=>((jL Zs n).getD j default).C),⟨⟨bL,bL⟩,hrl Zs,hra Zs,fB⟩,λA9 c9 _ _=>⟨λ_ h=>(by cases h),cm (bE λ_ _=>rfl),λ_ h=>(by cases h),λ_ h=>(by cases h),λ_ h=>(by cases h),?_⟩⟩
    refine⟨[],aUx (λi hi=>⟨hZr i hi,hrb i hi⟩) (λi hi=>hZs i hi) hrs oM oM,rfl,rfl,rfl,λ_ _=>⟨λ_=>?_,λh=>absurd trivial h⟩⟩
    replace hu:Rl u.l qs:=by
     have:=hu
     rwa [bKw ha hql hSp] at this
    exact⟨[],aLh u b hu hb (λq hq=>(hqb q hq).le dC) oM,rfl,rfl,rfl,λ_ _=>⟨(),trivial,jO qD trivial bL bM rfl aAu⟩⟩
end Go.Proofs.YtlhdigjbokkbiaaGreat
namespace Go.Proofs.YtlhdigjbokkbiaaGreat
open Go.Vg Go.RowKit _root_.Go.Proofs.Tryz
open Go.Vm hiding sg sg_t sg_f sg_abs sg_add sg_mul dQ cK dR gF
open Go.Vy hiding val
open Go.ChangeShapes Go.WideShapes
namespace bulks
theorem bTh {H:Type} (d:DataW H):1<=Rows.uptoBulk d:=by
 cases d with
 |lit l=>cases l<;>simp[Rows.uptoBulk]
 |nil=>simp[Rows.uptoBulk]
 |ptr d=>simp[Rows.uptoBulk]
 |slice elems spare=>simp[Rows.uptoBulk]
 |agg parts=>simp[Rows.uptoBulk]
 |iface t d=>simp[Rows.uptoBulk]
 |map entries=>simp[Rows.uptoBulk]
 |held h=>simp[Rows.uptoBulk]
theorem part_le {H:Type} {d:DataW H} {l:List (DataW H)} (h:d∈l):Rows.uptoBulk d<=Rows.uptoBulkAll l:=by
 induction l with
 |nil=>cases h
 |cons x r ih=>
  simp only[Rows.uptoBulkAll]
  cases bJ.1 h with
  |inl e=>subst e;omega
  |inr e=>have:=ih e;omega
theorem length_le {H:Type} (l:List (DataW H)):l.length<=Rows.uptoBulkAll l:=by
 induction l with
 |nil=>simp[Rows.uptoBulkAll]
 |cons x r ih=>have:=bTh x;simp only[Rows.uptoBulkAll,eI];omega
end bulks
def ρA:Pl:=⟨λ_=>(none,0),λ_=>True,[]⟩
section
variable {H:Type} {enc:TypeId×Value->H} {w:World} {base:Nat} {spare:Nat->Bool} {held:Bool}
theorem zA {b:Nat} (h:b<w.heap.size):Zf ρA 0 w b:=⟨h,λi hi=>absurd hi (aV _),trivial,λ⟨F,hF,_⟩=>by cases hF⟩
def Opn (H:Type) (enc:TypeId×Value->H) (w:World) (base:Nat) (spare:Nat->Bool) (held:Bool) (T:TypeId) {α:Type} (C:α->List CV) (B:Nat->α->Prop):Prop:=
 ∀fuel cs x,DataW.trod enc Tryz.prog w base spare held fuel T cs=some x->∃a:α,(Hl ρA 0 w (C a) cs/\∀u∈cs,u.oneCell'=true)/\B (Rows.uptoBulk x.1) a
theorem aUy:Opn H enc w base spare held 3 (λz:Int=>[iC z]) λ_ _=>True:=λfuel cs x h=>by
 obtain⟨n,rfl,_,_⟩:=DataW.trod_int underlying3 h
 exact⟨n,⟨⟨Rc.v _,trivial⟩,λu hu=>by rw[aT.1 hu];rfl⟩,trivial⟩
theorem bMc {α:Type} {f:Nat->α} {n j:Nat} {d:α} (h:j<n):((List.range n).map f).getD j d=f j:=by simp[List.getD,h]
theorem bGl {T E e:Nat} {α:Type} {C:α->List CV} {B:Nat->α->Prop} (hT:Tryz.prog.underlying T=some (.slice E)) (hE:Tryz.prog.cellsOf E=e) (he:0<e) (hC:∀a,(C a).length=e) (hcl:∀a,∀c∈C a,iP c=true) (d:α) (hO:Opn H enc w base spare held E C B) (hB:∀m n a,m<=n->B m a->B n a):
 Opn H enc w base spare held T (λs:Sl α=>[s.R e C d]) λn s=>s.l.length<=n/\∀x∈s.l,B n x:=λfuel cs x h=>by
 rcases Go.Deep.open_slice hT h with ⟨rfl,rfl⟩|⟨a,len,cap,m,n,D,Pl,rfl,hb,hl,hm,hmm,rfl,hx⟩
 ·exact⟨fF,⟨⟨Rc.nil _ _ _ _ (aF _),trivial⟩,λu hu=>by rw[aT.1 hu];rfl⟩,aF _,λ_ h=>nomatch h⟩
 rw[hE] at hx
 have hlm:len<=m:=by rw[hmm];split<;>omega
 have each:∀i,i<len->∃q:α×List Value,w.cells? base (a.add (i*e)) e=some q.2/\(Hl ρA 0 w (C q.1) q.2/\∀u∈q.2,u.oneCell'=true)/\B (Rows.uptoBulk (D i)) q.1:=λi hi=>by
  obtain⟨cs',h1,h2⟩:=hx i (by omega)
  obtain⟨y,h3,h4⟩:=hO _ _ _ h2
  exact⟨(y,cs'),h1,h3,h4⟩
 have hlb:len<=Rows.uptoBulkAll ((List.range len).map D):=by
  have:=bulks.length_le ((List.range len).map D)
  rwa [bV,oK] at this
 by_cases h0:len=0
 ·subst h0
  exact⟨⟨some a,cap,[]⟩,⟨⟨Rc.nil _ _ _ _ hm,trivial⟩,λu hu=>by rw[aT.1 hu];rfl⟩,aF _,λ_ h=>nomatch h⟩
 haveI:Inhabited (α×List Value):=⟨(d,[])⟩
 obtain⟨q,hq⟩:=Go.Deep.choose_lt each
 have cell:∀i,i<len->∀j (u:Value),((q i).2)[j]? =some u->w.cell? (a.add (i*e+j))=some u:=λi hi j u hu=>by
  obtain⟨_,h2,h3⟩:=World.cells?_some (hq i hi).1
  have h4:=h3 j (by rw[<-h2];exact eP hu)
  rw[Go.Deep.add_add,hu] at h4
  exact h4
 have l0:0<((q 0).2).length:=by rw[<-(hq 0 (by omega)).2.1.1.len,hC];exact he
 have c0:=cell 0 (by omega) 0 _ (aK l0)
 obtain⟨b,o,spot⟩:=a
 have hspot:spot=none:=by simpa[Addr.add] using World.cell?_spot c0
 subst hspot
 have hlt:b<w.heap.size:=by
  rw[iA] at c0
  unfold World.cell? at c0
  cases hh:w.heap[b]? with
  |none=>rw[show((⟨b,o+(0*e+0),none⟩:Addr).block)=b from rfl,hh] at c0;cases c0
  |some ob=>exact(oY.1 hh).1
 refine⟨⟨some ⟨b,o,none⟩,cap,(List.range len).map λi=>(q i).1⟩,⟨⟨?_,trivial⟩,λu hu=>by rw[aT.1 hu];rfl⟩,?_,λx hx=>?_⟩
 ·show Rc (Zf ρA 0 w) w (.r (some ⟨b,o,none⟩) ((List.range len).map λi=>(q i).1).length cap e λj=>C (((List.range len).map λi=>(q i).1).getD j d)) (.slice (some ⟨b,o,none⟩) len cap)
  rw[bV,oK]
  refine Rc.r b o len cap e _ (λi=>(q i).2) hl hm (zA hlt) (λj hj i u hu=>⟨?_,(hq j hj).2.1.2 u (aX hu)⟩) (λj hj=>?_) λj hj i c u h1 h2=>?_
  ·have:=cell j hj i u hu
   rw[iA] at this
   rw[kO]
   exact this
  ·rw[bMc hj]
   exact(hq j hj).2.1.1.len.symm
  rw[bMc hj] at h1
  obtain⟨y,h3,h4⟩:=(hq j hj).2.1.1.get h1
  rw[h2] at h3
  injection h3 with h3
  subst h3
  exact aIt h4 (hcl _ c (aX h1))
 ·show((List.range len).map λi=>(q i).1).length<=_
  rw[bV,oK]
  simp only[Rows.uptoBulk]
  omega
 obtain⟨i,hi,rfl⟩:=cP.1 hx
 rw[eA] at hi
 have h5:=bulks.part_le (d:=D i) (l:=(List.range len).map D) (cP.2 ⟨i,eA.2 hi,rfl⟩)
 exact hB _ _ _ (by simp only[Rows.uptoBulk];omega) (hq i hi).2.2
end
namespace updateEqualsFreshDone
open Go.ChangeShapes Go.WideShapes Go.ChangeAt
theorem own:ownKnob Tryz.prog.godebug=none:=by kernel_rfl
theorem aUz:laidOutB Tryz.prog=true:=by kernel_rfl
set_option maxRecDepth 100000 in
theorem bTi (os:Os) (started:os.Started) (H:Type) (enc:TypeId×Value->H):
 ReturnsInHanded {} Tryz.checked os 5 .any (Rows.updateEqualsFreshSpec.pre6 enc Tryz.prog Tryz.f5 Rows.updateEqualsFreshRow.domain false) (Rows.updateEqualsFreshSpec.post enc Tryz.prog Tryz.f5 false true false false):=by
 refine returnsInHanded_of_change (C:=Tryz.checked) own started (by kernel_rfl) func5
  (ChangeSpec.witness6 (enc:=enc) (C:=Tryz.checked) false ⟨#[],#[.slice none 0 0,.slice none 0 0],[]⟩ 8 (by kernel_rfl) (by kernel_rfl) (by kernel_rfl) (by kernel_rfl)) ?_
 intro W base args ds gs before hval0 hW hcnd _
 have hval:∀(j:Nat) t v,Tryz.f5.params[j]? =some t->args[j]? =some v->Value.okWide Tryz.prog W .any base t v:=hval0
 have hW':=hW
 obtain⟨p,q,hA0,hV,rfl,hfz,hnd⟩:=hW
 have hA:DataW.TrodAll enc Tryz.prog W 0 (λ_=>true) true Tryz.f5.params.toList args.toList ds p:=hA0
 rw[Tryz.params5] at hA hval
 obtain⟨v0,vs0,d0,ds0,p0,q0,hargs,rfl,rfl,h0,r0⟩:=trodAll_cons hA
 obtain⟨v1,vs1,d1,ds1,p1,q1,rfl,rfl,rfl,h1,r1⟩:=trodAll_cons r0
 obtain⟨rfl,rfl,rfl⟩:=trodAll_nil r1
 obtain rfl:args=#[v0,v1]:=by cases args;simp_all
 obtain⟨rfl,rfl⟩:=trodVars_none hV
 obtain⟨a0,len0,cap0,rfl⟩:=okWide_slice underlying38 (hval 0 38 v0 rfl rfl)
 have k0:=h0
 have lt0:∀x∈p0,x.block<W.heap.size:=by obtain⟨m,hm⟩:=k0;exact DataW.trod_lt m _ _ _ hm
 obtain⟨D0,hD0⟩:∃D:Sl Int,Hd ρA 0 W (.c (kI D)) (.slice a0 len0 cap0):=by
  obtain⟨fuel,hf⟩:=h0
  obtain⟨D,⟨hl,_⟩,_⟩:=bGl (e:=1) (C:=λz:Int=>[iC z]) underlying38 (by kernel_rfl) bL (λ_=>rfl) (λ_=>aEr rfl) 0 aUy (λ_ _ _ _ _=>trivial) _ _ _ hf
  exact⟨D,.c hl.1⟩
 obtain⟨a1,len1,cap1,rfl⟩:=okWide_slice underlying38 (hval 1 38 v1 rfl rfl)
 have k1:=h1
 have lt1:∀x∈p1,x.block<W.heap.size:=by obtain⟨m,hm⟩:=k1;exact DataW.trod_lt m _ _ _ hm
 obtain⟨D1,hD1⟩:∃D:Sl Int,Hd ρA 0 W (.c (kI D)) (.slice a1 len1 cap1):=by
  obtain⟨fuel,hf⟩:=h1
  obtain⟨D,⟨hl,_⟩,_⟩:=bGl (e:=1) (C:=λz:Int=>[iC z]) underlying38 (by kernel_rfl) bL (λ_=>rfl) (λ_=>aEr rfl) 0 aUy (λ_ _ _ _ _=>trivial) _ _ _ hf
  exact⟨D,.c hl.1⟩
 clear hA0 hval0
 refine((cAk D0 D1).run ρA W [.slice a0 len0 cap0,.slice a1 len1 cap1] ⟨hD0,hD1,trivial⟩ ⟨λi T es l hi=>(by cases hi),λi j b hi=>absurd hi (aV _),λi b _ hi=>absurd hi (aV _),aI _,⟨rfl,rfl,rfl,aI _,λ_ _ _ _=>rfl⟩,λi hi=>rfl,⟨rfl,λ_ _=>trivial⟩,FamOk.nil,λb hb=> .inr hb⟩ rfl).mono λe W' ⟨v,he,g,ρ',_,hDr,hdv,_,_⟩=>?_
 have hr:=hDr.rel
 have bel:Below W.heap.size W W':=⟨hr.os,hr.tape,hr.output,hr.size,λk hk=>hr.block k hk (λi hi=>absurd hi (aV _)) λ⟨F,hF,_⟩=>by cases hF⟩
 have hv:v= .bool true:=by
  have h5:=hdv.inv_c.inv_b
  rw[h5]
  simp
 subst he hv
 exact⟨_,rfl,_,_,_,[],_,[],hW',trodAll_mk1 (shut_bool underlying4 _),(trodAll_cons_mk (Below.trod aUz (by kernel_rfl) (of_decide_eq_true (by kernel_rfl)) k0 bel lt0) (trodAll_cons_mk (Below.trod aUz (by kernel_rfl) (of_decide_eq_true (by kernel_rfl)) k1 bel lt1) trodAll_mk0)),rfl,bel.frame _,λh=>by cases h⟩
theorem cDz:Rows.updateEqualsFreshRow.holds Tryz.pinned (OpenSpec.ofChange Rows.updateEqualsFreshSpec):=
 OpenClaim.holds_of_wide 5 Tryz.f5 rfl rfl rfl rfl rfl rfl rfl ⟨rfl,rfl,rfl,rfl,rfl⟩ rfl rfl rfl rfl rfl (by kernel_rfl) func5 (by kernel_rfl)
  (of_decide_eq_true (by kernel_rfl)) (by unfold Func.isWrapper;first|(rw[if_pos (by decide+kernel)];kernel_rfl)|(rw[if_neg (by decide+kernel)];exact⟨rfl,rfl⟩))
  (λos started H enc _=>bTi os started H enc)
theorem proved:Rows.UpdateEqualsFreshSaid:=cDz
#print axioms proved
end updateEqualsFreshDone
end Go.Proofs.YtlhdigjbokkbiaaGreat
