/- THE STATEMENT BasisComplementary of the program's law 13 is proved: for every input the law returns true; it has no conditions. Part 7 of 7: Bq Br Bs Bt Bu Bv Bw Bx By Bz Qn Qo Qp Qq Qr Qs Qt Zt. -/
import Derived.Test.YtghncoghdcmdfaaGreatRows
import Derived.WalkKit
import Derived.ProofKit
import Derived.OpenShut
import Derived.JoinedCond
import Derived.ShutString
import Derived.ChangeOld
import Derived.Below
import Derived.Deep.SlicePairs
import Derived.Test.YtghncoghdcmdfaaGreatD6
set_option maxHeartbeats 4000000
set_option linter.unusedVariables false
set_option linter.unusedSimpArgs false
namespace Go.Proofs.YtghncoghdcmdfaaGreat
open Go.Vg _root_.Go.Proofs.Tryz
open Go.Vm
open Go.Vy hiding val
set_option maxRecDepth 20000
theorem aLj {n m:Nat} {e f:Nat->Nat} (hi:∀i j,i<n->j<n->e i=e j->i=j) (hs:∀i,i<n->∃k,k<m/\f k=e i):n<=m:=by
 have hF:Free (λk i=>if f k=e i then (1:Rat) else 0) m n:=λx hx i hin=>by
  obtain⟨k,hk,hfk⟩:=hs i hin
  have h1:cG (λj=>(if f k=e j then (1:Rat) else 0)*x j) n=0:=hx k hk
  rw[bK (g:=λj=>if j=i then x i else 0) λj hj=>by
   by_cases e1:j=i
   ·rw[if_pos e1,e1,if_pos hfk,kK]
   rw[if_neg e1,if_neg λh2=>e1 (hi j i hj hin (by rw[<-h2,hfk])),dH]] at h1
  rw[jJ (m:=i) hin λj hj=>if_neg hj,if_pos rfl] at h1
  exact h1
 exact hF.le
theorem Enm.uniq {P:Nat->Prop} {n m m':Nat} {e e':Nat->Nat} (h:Enm P n m e) (h':Enm P n m' e'):m=m':=by
 have h1:m<=m':=aLj (λi j hi hj=>h.inj hi hj) λi hi=>h'.all (e i) (h.lt i hi) (h.mem i hi)
 have h2:m'<=m:=aLj (λi j hi hj=>h'.inj hi hj) λi hi=>h.all (e' i) (h'.lt i hi) (h'.mem i hi)
 omega
theorem Enm.at {P:Nat->Prop} {n m m':Nat} {e e':Nat->Nat} (h:Enm P n m e) (h':Enm P n m' e'):∀k,k<m->e k=e' k:=λk=>by
 have hm:=h.uniq h'
 induction k using Nat.strongRecOn with
 |_ k ih=>
  intro hk
  obtain⟨a,ha,hae⟩:=h'.all (e k) (h.lt k hk) (h.mem k hk)
  obtain⟨c,hc,hce⟩:=h.all (e' k) (h'.lt k oM) (h'.mem k oM)
  rcases eS a k with h1|h1|h1
  ·have h2:=ih a h1 oM
   have:=h.inj (k:=a) (l:=k) oM hk oM
   omega
  ·rw[<-hae,h1]
  rcases eS c k with h3|h3|h3
  ·have h4:=ih c h3 hc
   have:=h'.inj (k:=c) (l:=k) oM oM oM
   omega
  ·rw[<-hce,h3]
  have h5:=h'.mono k a h1 ha
  have h6:=h.mono k c h3 hc
  omega
theorem Pmt.df (c:ColM):Pmt c (dfC c):=by
 unfold dfC
 by_cases h1:c.pl
 ·rw[if_pos h1];exact .inr (.inl ⟨rfl,h1⟩)
 rw[if_neg h1]
 by_cases h2:c.pu
 ·rw[if_pos h2];exact .inr (.inr (.inl ⟨rfl,h2⟩))
 rw[if_neg h2];exact .inr (.inr (.inr ⟨rfl,h1,h2⟩))
theorem cDm (c:ColM):dfC c≠2:=by
 unfold dfC
 split
 ·decide
 split<;>decide
theorem cDn (s:Int):dfR s≠2:=by unfold dfR;split<;>decide
theorem cDo (c:ColM) (l:List Int) (j:Nat):stC c l j≠2:=by
 unfold stC
 split
 ·next h=>exact h.1.2
 exact cDm c
theorem cDp (c:ColM) (l:List Int) (j:Nat):Pmt c (stC c l j):=by
 unfold stC
 split
 ·next h=>exact h.2
 exact Pmt.df c
theorem bQg {x:Sl Int} {n k:Nat} (hk:k<n):(k:Int)∈lfO x n:=by
 unfold lfO
 by_cases h:qF x k
 ·exact aR.2 (.inl (oR.2 ⟨k,rfl,hk,h⟩))
 exact aR.2 (.inr (oR.2 ⟨k,rfl,hk,h⟩))
theorem aLk {p:ProgM} {b:BasM} {i:Nat} (hi:i<p.r.l.length):∃k,k<(orL p b).length/\atN (orL p b) k=i:=by
 obtain⟨k,hk,h2⟩:=List.getElem_of_mem (List.mem_reverse.2 (bQg (x:=b.r) hi))
 refine⟨k,hk,?_⟩
 have:=(zG (p:=p) (b:=b) hk).1
 rw[aH,aG hk] at this
 simp only[Option.getD_some] at this
 omega
theorem bQh {L O:List Int} {k:Nat} (hk:k<L.length):atN (L.map λz=>O.getD z.toNat 0) k=atN O (atN L k):=by
 unfold atN
 simp[aH,hk]
theorem aLl {a b:List Int} (hl:a.length=b.length) (h:∀k,k<b.length->a.getD k 0=b.getD k 0):a=b:=lF hl λk h1 h2=>by
 have:=h k h2
 rw[aH,aH,aG h1,aG h2] at this
 exact this
theorem bQi {L M:List Int} {k:Nat} (hk:k<L.length):atN (L.reverse++M) k=atN L (L.length-1-k):=by
 unfold atN
 rw[aH,aH,bD (by rw[qZ];exact hk),List.getElem?_reverse hk]
section rep
variable {p:ProgM} {q:PrQ} {b g:BasM}
noncomputable abbrev kpN (p:ProgM) (q:PrQ) (b:BasM) (k:Nat):Nat:=atN (wnL p b) (atN (iH p q b) k)
theorem yJ:Enm (λj=>¬Dep (wnQ p q b) p.r.l.length (wnL p b).length j) (wnL p b).length (iH p q b).length (atN (iH p q b)):=(gJ _).1
theorem cDq:Enm (λj=>b.c.l.getD j 0=2) (min p.c.l.length b.c.l.length) (wnL p b).length (atN (wnL p b)):=(gJ _).1
noncomputable abbrev ltQ (p:ProgM) (q:PrQ) (b:BasM) (l i:Nat):Rat:=wnQ p q b (atN (orL p b) i) (atN (iH p q b) l)
noncomputable abbrev ltI (p:ProgM) (q:PrQ) (b:BasM):List Int:=jU (ltQ p q b) (iH p q b).length (orL p b).length (orL p b).length
theorem aLm:Enm (λi=>¬Dep (ltQ p q b) (iH p q b).length (orL p b).length i) (orL p b).length (ltI p q b).length (atN (ltI p q b)):=(gJ _).1
theorem lt_len:(ltL p q b).length=(ltI p q b).length:=aO _
theorem bJp {k:Nat} (hk:k<(ltL p q b).length):atN (ltL p q b) k=atN (orL p b) (atN (ltI p q b) k):=by
 have hk':k<(ltI p q b).length:=by rw[<-lt_len];exact hk
 exact bQh hk'
theorem bSv:(ltL p q b).length=(iH p q b).length/\Free (λk l=>Vm.get (q.M (atN (ltL p q b) k)) (kpN p q b l:Nat)) (iH p q b).length (iH p q b).length:=by
 have hf:=(yJ (p:=p) (q:=q) (b:=b)).free
 have hf2:Free (λi l=>ltQ p q b l i) (orL p b).length (iH p q b).length:=λx hx=>hf x λi hi=>by
  obtain⟨k,hk,rfl⟩:=aLk (p:=p) (b:=b) hi
  exact hx k hk
 obtain⟨h1,h2⟩:=aLm.square hf2
 have h3:(ltL p q b).length=(iH p q b).length:=lt_len.trans h1
 refine⟨h3,?_⟩
 rw[h1] at h2
 intro x hx
 refine h2 x λk hk=>?_
 rw[<-hx k hk]
 exact bK λl _=>by
  show Vm.get (q.M (atN (orL p b) (atN (ltI p q b) k))) _*_=Vm.get (q.M (atN (ltL p q b) k)) _*_
  rw[bJp oM]
theorem RpR.col (h:RpR p q b g) {j:Nat} (hj:j<p.c.l.length):(∃k,k<(iH p q b).length/\kpN p q b k=j/\g.c.l.getD j 0=2)\/(g.c.l.getD j 0=stC (p.c.l.getD j default) b.c.l j):=by
 by_cases hh:∃k,k<(iH p q b).length/\kpN p q b k=j
 ·obtain⟨k,hk,rfl⟩:=hh
  exact .inl ⟨k,hk,rfl,h.c2 k hk⟩
 exact .inr (h.c0 j hj λk hk e=>hh ⟨k,hk,e⟩)
theorem RpR.row (h:RpR p q b g) {i:Nat} (hi:i<p.r.l.length):(∃k,k<(ltL p q b).length/\atN (ltL p q b) k=i/\g.r.l.getD i 0=dfR (p.r.l.getD i default).s)\/(g.r.l.getD i 0=2):=by
 by_cases hh:∃k,k<(ltL p q b).length/\atN (ltL p q b) k=i
 ·obtain⟨k,hk,rfl⟩:=hh
  exact .inl ⟨k,hk,rfl,h.r0 k hk⟩
 exact .inr (h.r2 i hi λk hk e=>hh ⟨k,hk,e⟩)
theorem bSw {k:Nat} (hk:k<(iH p q b).length):kpN p q b k<p.c.l.length/\kpN p q b k<b.c.l.length/\b.c.l.getD (kpN p q b k) 0=2:=by
 have h1:=(aAx hk).2
 have h2:=(zH h1).2
 exact⟨bM h2.1 (wJ _ _),bM h2.1 (Nat.min_le_right _ _),h2.2⟩
theorem RpR.ce (h:RpR p q b g):Enm (λj=>g.c.l.getD j 0=2) p.c.l.length (iH p q b).length (kpN p q b):=⟨λk hk=>(bSw hk).1,λk l hkl hl=>cDq.mono _ _ (yJ.mono k l hkl hl) (yJ.lt l hl),λk hk=>h.c2 k hk,λj hj h2=>by
 rcases h.col hj with ⟨k,hk,e,_⟩|h3
 ·exact⟨k,hk,e⟩
 exact absurd (h3.symm.trans h2) (cDo _ _ _)⟩
theorem RpR.val (h:RpR p q b g) {B:Nat} (hp:PrV p q B):BVal p q g:=by
 have ec:=(gJ (P:=λj=>g.c.l.getD j 0=2) p.c.l.length).1
 have er:=(gJ (P:=λi=>g.r.l.getD i 0≠2) p.r.l.length).1
 have hc:(iH p q b).length=(bcL g p.c.l.length).length:=h.ce.uniq ec
 have hat:=h.ce.at ec
 obtain⟨hl,hF⟩:=bSv (p:=p) (q:=q) (b:=b)
 have hex:∀k,k<(ltL p q b).length->∃k',k'<(brL g p.r.l.length).length/\atN (brL g p.r.l.length) k'=atN (ltL p q b) k:=λk hk=>er.all _ (aSw hk).2 (by rw[h.r0 k hk];exact cDn _)
 have hbr:(brL g p.r.l.length).length<=(ltL p q b).length:=aLj (f:=atN (ltL p q b)) (λi j hi hj=>er.inj hi hj) λi hi=>by
  rcases h.row (er.lt i hi) with ⟨k,hk,e,_⟩|h3
  ·exact⟨k,hk,e⟩
  exact absurd h3 (er.mem i hi)
 have hF2:Free (λk l=>Vm.get (q.M (atN (brL g p.r.l.length) k)) (kpN p q b l:Nat)) (brL g p.r.l.length).length (iH p q b).length:=λx hx=>hF x λk hk=>by
  obtain⟨k',hk',e⟩:=hex k oM
  have h3:cG (λj=>Vm.get (q.M (atN (brL g p.r.l.length) k')) (kpN p q b j:Nat)*x j) (iH p q b).length=0:=hx k' hk'
  rw[e] at h3
  exact h3
 have hn:(iH p q b).length=(brL g p.r.l.length).length:=by have:=hF2.le;omega
 refine⟨⟨h.cl,h.rl,λj hj=>?_,λi hi=>?_⟩,by omega,λ⟨x,⟨i,hi,hxi⟩,hk⟩=>hxi (hF2 x (λk hk'=>?_) i oM)⟩
 ·rcases h.col hj with ⟨k,hk,e,h2⟩|h3
  ·exact .inl h2
  rw[h3];exact cDp _ _ _
 ·rcases h.row hi with ⟨k,hk,e,h2⟩|h3
  ·exact .inr h2
  exact .inl h3
 rw[<-hk k hk',hn]
 unfold dtn
 refine bK λl hl=>?_
 show Vm.get (q.M (atN (brL g p.r.l.length) k)) (kpN p q b l:Nat)*x l=Vm.get (jL _ _ (q.M (atN (brL g p.r.l.length) k))) (l:Nat)*x l
 have hl2:l<(bcL g p.c.l.length).length:=by omega
 rw[uI (λk l hkl hl=>ec.mono k l hkl hl) (hp.v _ (er.lt k hk')).2.1 hl2,hat l oM]
end rep
abbrev smB (a b:BasM):BL:=[(45,0,a.C),(45,0,b.C)]
theorem aLn {a b:BasM}:scB 2 (smB a b):=aB rfl (aB rfl aZ)
abbrev smG (v k:Nat):List (Nat×DV):=[(v,.c (iC k)),(2,.c (.p 0 0)),(3,.c (.p 1 0))]
abbrev aWy:FuncId:=21
theorem bSx:Ent Tryz.prog aWy:=aU func21 rfl kR
theorem cOb:Tryz.prog.funcs[aWy]? =some Tryz.f21:=func21
theorem cOc (a b:BasM) (h1:a.c.l.length<=4096) (h2:a.r.l.length<=4096):Ctr Tryz.prog aWy [] [.a a.C,.a b.C] [] (λ_:Unit=>⟨pC (a.c.l=b.c.l/\a.r.l=b.r.l),[],True⟩):=by
 refine aX gT bSx cOb rfl rfl rfl bL aS (aA gT mxd ⟨λh3=>aA gT mxd ?_,λh3=>aA gT mxd ?_⟩)
 ·replace h3:((a.c.l.length:Nat):Int)≠(b.c.l.length:Nat)\/((a.r.l.length:Nat):Int)≠(b.r.l.length:Nat):=h3
  exact⟨(),trivial,aM (ff λhh=>by rw[hh.1,hh.2] at h3;omega) rfl trivial⟩
 replace h3:¬(((a.c.l.length:Nat):Int)≠(b.c.l.length:Nat)\/((a.r.l.length:Nat):Int)≠(b.r.l.length:Nat)):=h3
 have hc:a.c.l.length=b.c.l.length:=by omega
 have hr:a.r.l.length=b.r.l.length:=by omega
 refine cE (λ_=>true) (λk:Nat=>smG 5 k) (λ_=>smB a b) (λ_=>[]) (λk=>k<=b.c.l.length/\∀i,i<k->a.c.l.getD i 0=b.c.l.getD i 0) (λk=>b.c.l.length-k) λhM=>⟨bF hM (chg:=λk:Nat=>smG 5 k) (bls:=λ_=>smB a b) (fls:=λ_=>[]) 0 ⟨aC _,λi hi=>absurd hi (aD _)⟩ rfl ⟨rfl,rfl⟩ trivial ⟨rfl,rfl,rfl⟩ bL aLn rfl,λk ⟨hk,hw⟩=>aA gT mxd ⟨λh4=>aA gT mxd ?_,λh4=>aA gT mxd ?_⟩⟩
 ·replace h4:(k:Int)<(a.c.l.length:Nat):=h4
  have hka:k<a.c.l.length:=by omega
  have hkb:k<b.c.l.length:=by omega
  refine⟨.seq [(0,false),(1,false),(2,false),(3,false),(4,false),(5,false),(6,false),(7,false),(8,false),(9,false),(10,false)],by kernel_rfl,k,⟨rfl,hka⟩,k,⟨rfl,hkb⟩,λh5=>aA gT mxd ?_,λh5=>aA gT mxd ?_⟩
  ·replace h5:a.c.l.getD k 0≠b.c.l.getD k 0:=h5
   exact⟨(),trivial,aM (ff λhh=>h5 (by rw[hh.1])) rfl trivial⟩
  replace h5:¬a.c.l.getD k 0≠b.c.l.getD k 0:=h5
  exact⟨(k+1:Nat),wi,bF hM (chg:=λk:Nat=>smG 5 k) (bls:=λ_=>smB a b) (fls:=λ_=>[]) (k+1) ⟨⟨hkb,λi hi=>by
   rcases cM (cV hi) with h|rfl
   ·exact hw i h
   exact dW.1 h5⟩,show b.c.l.length-(k+1)<b.c.l.length-k by omega⟩ rfl ⟨rfl,rfl⟩ trivial ⟨rfl,rfl,rfl⟩ bL aLn rfl⟩
 replace h4:¬(k:Int)<(a.c.l.length:Nat):=h4
 obtain rfl:k=b.c.l.length:=by omega
 have ec:a.c.l=b.c.l:=aLl hc hw
 refine aA gT mxd ?_
 show Sd _ _ _ _ _ _
 refine cE (λ_=>true) (λk:Nat=>smG 6 k) (λ_=>smB a b) (λ_=>[]) (λk=>k<=b.r.l.length/\∀i,i<k->a.r.l.getD i 0=b.r.l.getD i 0) (λk=>b.r.l.length-k) λhM=>⟨bF hM (chg:=λk:Nat=>smG 6 k) (bls:=λ_=>smB a b) (fls:=λ_=>[]) 0 ⟨aC _,λi hi=>absurd hi (aD _)⟩ rfl ⟨rfl,rfl⟩ trivial ⟨rfl,rfl,rfl⟩ bL aLn rfl,λk ⟨hk,hw⟩=>aA gT mxd ⟨λh4=>aA gT mxd ?_,λh4=>aA gT mxd ?_⟩⟩
 ·replace h4:(k:Int)<(a.r.l.length:Nat):=h4
  have hka:k<a.r.l.length:=by omega
  have hkb:k<b.r.l.length:=by omega
  refine⟨.seq [(0,false),(1,false),(2,false),(3,false),(4,false),(5,false),(6,false),(7,false),(8,false),(9,false),(10,false)],by kernel_rfl,k,⟨rfl,hka⟩,k,⟨rfl,hkb⟩,λh5=>aA gT mxd ?_,λh5=>aA gT mxd ?_⟩
  ·replace h5:a.r.l.getD k 0≠b.r.l.getD k 0:=h5
   exact⟨(),trivial,aM (ff λhh=>h5 (by rw[hh.2])) rfl trivial⟩
  replace h5:¬a.r.l.getD k 0≠b.r.l.getD k 0:=h5
  exact⟨(k+1:Nat),wi,bF hM (chg:=λk:Nat=>smG 6 k) (bls:=λ_=>smB a b) (fls:=λ_=>[]) (k+1) ⟨⟨hkb,λi hi=>by
   rcases cM (cV hi) with h|rfl
   ·exact hw i h
   exact dW.1 h5⟩,show b.r.l.length-(k+1)<b.r.l.length-k by omega⟩ rfl ⟨rfl,rfl⟩ trivial ⟨rfl,rfl,rfl⟩ bL aLn rfl⟩
 replace h4:¬(k:Int)<(a.r.l.length:Nat):=h4
 obtain rfl:k=b.r.l.length:=by omega
 exact aA gT mxd ⟨(),trivial,aM (tt ⟨ec,aLl hr hw⟩) rfl trivial⟩
theorem cOd {n m:Nat} (hn:n<=4) (hm:m<=n):yb (zb (2+3+n*(3+3+1)) (bd 3 m) m) (bd 3 m) m<=1000000000:=by
 have h1:n=0\/n=1\/n=2\/n=3\/n=4:=by omega
 have h2:m=0\/m=1\/m=2\/m=3\/m=4:=by omega
 rcases h1 with rfl|rfl|rfl|rfl|rfl<;>rcases h2 with rfl|rfl|rfl|rfl|rfl<;>decide+kernel
theorem cOe {m:Nat} (hm:m<=4):zT (zT 3 (bd 3 m) m) (bd 3 m) m<=1000000000:=by
 have h2:m=0\/m=1\/m=2\/m=3\/m=4:=by omega
 rcases h2 with rfl|rfl|rfl|rfl|rfl<;>decide+kernel
structure SmP (p:ProgM):Prop where
 n:p.c.l.length<=4/\p.r.l.length<=4
 c:bIk p.c.l
 r:∀r∈p.r.l,∃b es,RwS r b es p.c.l.length
theorem SmP.prg {p:ProgM} (h:SmP p):∃q,PrG p q 3:=by
 obtain⟨h1,h2⟩:=h.n
 obtain⟨f,hf⟩:=Classical.axiomOfChoice (r:=λ(j:Nat) (t:Rat×Rat×Rat)=>j<p.c.l.length->ClS (p.c.l.getD j default) t.1 t.2.1 t.2.2) λj=>by
  by_cases hj:j<p.c.l.length
  ·obtain⟨k,l,u,hc⟩:=h.c _ (fN hj)
   exact⟨(k,l,u),λ_=>hc⟩
  exact⟨(0,0,0),λhh=>absurd hh hj⟩
 obtain⟨g,hg⟩:=Classical.axiomOfChoice (r:=λ(i:Nat) (t:Rat×List En)=>i<p.r.l.length->RwS (p.r.l.getD i default) t.1 t.2 p.c.l.length) λi=>by
  by_cases hi:i<p.r.l.length
  ·obtain⟨b,es,hc⟩:=h.r _ (fN hi)
   exact⟨(b,es),λ_=>hc⟩
  exact⟨(0,[]),λhh=>absurd hh hi⟩
 have hlt:∀k,k<=16->bd 3 k<=4398046511104:=λk hk=>aJ (kY hk) (by decide+kernel)
 exact⟨⟨λj=>(f j).1,λj=>(f j).2.1,λj=>(f j).2.2,λi=>(g i).1,λi=>(g i).2⟩,{
  v:={
   rd:=⟨λj hj=>(hf j hj).r,λi hi=>⟨(hg i hi).rd.b.le dC,(hg i hi).rd.e.le dC⟩⟩
   h1:=by decide
   hB:=by decide
   c:=by omega
   r:=by omega
   x:=λj hj=>(hf j hj).x
   v:=λi hi=>⟨(hg i hi).s,(hg i hi).v⟩
   e:=λi hi e he=>((hg i hi).e e he).le dC}
  c:=⟨λj hj=>(hf j hj).kc,λi hi=>(hg i hi).bc⟩
  k:=λj hj=>(hf j hj).k
  rl:=by omega
  cl:=by omega
  bB:=by decide
  f:=hlt _ oM
  s:=λm hm=>cOd h1 hm
  t:=λm hm=>cOe oM}⟩
theorem SmP.bd {p:ProgM} (h:SmP p):bd 3 (p.r.l.length*p.c.l.length)<=4398046511104:=by
 have h1:p.r.l.length*p.c.l.length<=4*4:=nF h.n.2 h.n.1
 exact aJ (kY h1) (by decide+kernel)
structure RpS (p:ProgM) (b g:BasM):Prop where
 ex:∃q,PrG p q 3/\RpR p q b g
abbrev exC (k:RatM):ColM:=bIf k true default false default
abbrev exW (k:RatM):List CV:=[.b k.n.p k.n.d,eK k.n.m,eK k.d,.b (true=true) inferInstance,.b (false=true) inferInstance,.v (.slice none 0 0),.v (.slice none 0 0),.b (false=true) inferInstance,.b (false=true) inferInstance,.v (.slice none 0 0),.v (.slice none 0 0)]
theorem LeL.app {l1 l1' l2 l2':List CV} (h1:LeL l1 l1') (hl:l1'.length=l1.length) (h2:LeL l2 l2'):LeL (l1++l2) (l1'++l2'):=by
 induction l1 generalizing l1' with
 |nil=>
  cases l1' with
  |nil=>exact h2
  |cons a t=>cases hl
 |cons a t ih=>
  cases l1' with
  |nil=>cases hl
  |cons a' t'=>exact .cons (h1 0 a a' rfl rfl) (ih (λk c c' e1 e2=>h1 (k+1) c c' e1 e2) (rH hl))
theorem bJq {k:RatM}:LeL (exW k) (exC k).C:=.cons (fD _) (.cons (fD _) (.cons (fD _) (.cons (fD _) (.cons (fD _) (.cons qC (.cons qC (.cons (fD _) (.cons (fD _) (.cons qC (.cons qC (LeL.refl _)))))))))))
structure ExP (p:ProgM):Prop where
 ex:∃(k1 k2 b v1 v2:RatM) (e:Sl EntM),(Cr k1 1/\Cr k2 1/\Cr b 3/\Cr v1 1/\Cr v2 1)/\p.c.l=[exC k1,exC k2]/\p.r.l=[⟨1,b,e⟩]/\e.l=[⟨0,v1⟩,⟨1,v2⟩]
abbrev cDr:FuncId:=63
theorem cVc:Ent Tryz.prog cDr:=aU func63 rfl kR
theorem cVd:Tryz.prog.funcs[cDr]? =some Tryz.f63:=func63
abbrev exE (v1 v2:RatM):List CV:=ecs [⟨0,v1⟩,⟨1,v2⟩]
abbrev exB (k1 k2 b v1 v2:RatM):BL:=[(42,0,[.s 1 2,.s 3 1]),(106,11,exW k1++exW k2),(82,4,exE v1 v2),(67,5,[iC 1,.b b.n.p b.n.d,eK b.n.m,eK b.d,.s 2 2])]
theorem cDs {k1 k2 b v1 v2:RatM}:scB 4 (exB k1 k2 b v1 v2):=aB rfl (aB rfl (aB rfl (aB rfl aZ)))
theorem cOf:Ctr Tryz.prog cDr [] [] [] (λg:ProgM=>⟨.a g.C,[],ExP g⟩):=by
 refine aX gT cVc cVd rfl rfl rfl bL aS (Sd.sq (aA gT mxd (Sd.sq (aA gT mxd ⟨[],sU (z:=1) dC,rfl,rfl,rfl,λk1 h1=>⟨[],sU (z:=1) dC,rfl,rfl,rfl,λk2 h2=>⟨[],sU (z:=3) dC,rfl,rfl,rfl,λb hb=>⟨[],sU (z:=1) dC,rfl,rfl,rfl,λv1 hv1=>⟨[],sU (z:=1) dC,rfl,rfl,rfl,λv2 hv2=>?_⟩⟩⟩⟩⟩))))
 refine tSd _ Unit (λ_=>⟨[(0,.c (.p 0 0))]++[],[],exB k1 k2 b v1 v2,[]⟩) (λ_=>True) ?_ λ_ _=>?_
 ·exact bF (M:=λ_=>true) (base:=[]) (chg:=λ_:Unit=>[(0,.c (.p 0 0))]) (bls:=λ_=>exB k1 k2 b v1 v2) (fls:=λ_=>[]) (λt d ht=>by cases ht) () trivial rfl ⟨rfl,rfl,rfl,rfl⟩ trivial rfl bL cDs rfl
 refine aWe 1 ((exC k1).C++(exC k2).C) rfl rfl (LeL.app (l1:=exW k1) (l2:=exW k2) bJq rfl bJq) ?_
 refine kU tSd 2 rfl bL (kE rfl) bL rfl λA1 a1=>⟨_,mA kB (kE rfl),_,rfl,jQ tSd 3 0 [iC 1,.b b.n.p b.n.d,eK b.n.m,eK b.d,cC ⟨A1.map λb=>⟨b,0,none⟩,a1,[⟨0,v1⟩,⟨1,v2⟩]⟩] rfl rfl rfl rfl (qW (k0:=4) rfl cMp) ?_⟩
 refine kU tSd 3 rfl bL (kE rfl) bL rfl λA2 a2=>⟨_,mA kB (kE rfl),_,rfl,jQ tSd 0 1 [.s 1 2,aKt ⟨A2.map λb=>⟨b,0,none⟩,a2,[⟨1,b,⟨A1.map λb=>⟨b,0,none⟩,a1,[⟨0,v1⟩,⟨1,v2⟩]⟩⟩]⟩] rfl rfl rfl rfl (qW (k0:=1) rfl (bPg (f:=RowM.C) (dd:=default) (L:=[⟨1,b,⟨A1.map λb=>⟨b,0,none⟩,a1,[⟨0,v1⟩,⟨1,v2⟩]⟩⟩]) (λ_=>rfl) dC)) ?_⟩
 refine kU tSd 1 rfl bL (kE rfl) bL rfl λA3 a3=>⟨_,rfl,_,rfl,jQ tSd 0 2 [aAs ⟨A3.map λb=>⟨b,0,none⟩,a3,[exC k1,exC k2]⟩,aKt ⟨A2.map λb=>⟨b,0,none⟩,a2,[⟨1,b,⟨A1.map λb=>⟨b,0,none⟩,a1,[⟨0,v1⟩,⟨1,v2⟩]⟩⟩]⟩] rfl rfl rfl rfl (qW (k0:=0) rfl (bPg (f:=ColM.C) (dd:=default) (L:=[exC k1,exC k2]) (λ_=>rfl) dC)) ?_⟩
 exact aA gT mxd ⟨⟨⟨A3.map λb=>⟨b,0,none⟩,a3,[exC k1,exC k2]⟩,⟨A2.map λb=>⟨b,0,none⟩,a2,[⟨1,b,⟨A1.map λb=>⟨b,0,none⟩,a1,[⟨0,v1⟩,⟨1,v2⟩]⟩⟩]⟩⟩,⟨k1,k2,b,v1,v2,_,⟨h1,h2,hb,hv1,hv2⟩,rfl,rfl,rfl⟩,aM rfl rfl trivial⟩
def exQ:PrQ:=⟨λ_=>1,λ_=>0,λ_=>0,λ_=>3,λ_=>[(0,1),(1,1)]⟩
theorem bJr:VOk [((0:Int),(1:Rat)),(1,1)] ((2:Nat):Int):=⟨.cons (λb hb=>by rw[aE.1 hb];decide) (.cons (λb hb=>by cases hb) .nil),λe he=>by
 rcases bW.1 he with rfl|he
 ·exact⟨by decide,by decide,by decide⟩
 rw[aE.1 he];exact⟨by decide,by decide,by decide⟩⟩
theorem ExP.cl {p:ProgM} (h:ExP p):p.c.l.length=2:=by obtain⟨k1,k2,b,v1,v2,e,_,h1,_,_⟩:=h.ex;rw[h1];rfl
theorem ExP.rl {p:ProgM} (h:ExP p):p.r.l.length=1:=by obtain⟨k1,k2,b,v1,v2,e,_,_,h1,_⟩:=h.ex;rw[h1];rfl
theorem ExP.col {p:ProgM} (h:ExP p) {j:Nat} (hj:j<p.c.l.length):∃k,Cr k 1/\p.c.l.getD j default=exC k:=by
 obtain⟨k1,k2,b,v1,v2,e,⟨a1,a2,_⟩,h1,_,_⟩:=h.ex
 rw[h1] at hj ⊢
 match j,hj with
 |0,_=>exact⟨k1,a1,rfl⟩
 |1,_=>exact⟨k2,a2,rfl⟩
theorem ExP.row {p:ProgM} (h:ExP p) {i:Nat} (hi:i<p.r.l.length):∃b v1 v2 e,p.r.l.getD i default=⟨1,b,e⟩/\Cr b 3/\Cr v1 1/\Cr v2 1/\e.l=[⟨0,v1⟩,⟨1,v2⟩]:=by
 obtain⟨k1,k2,b,v1,v2,e,⟨a1,a2,a3,a4,a5⟩,h1,h2,h3⟩:=h.ex
 rw[h2] at hi ⊢
 match i,hi with
 |0,_=>exact⟨b,v1,v2,e,rfl,a3,a4,a5,h3⟩
theorem aSx:rb 1 1:=⟨by decide,by decide⟩
theorem cOg:rb 3 1:=⟨by decide,by decide⟩
theorem cVe:rb 0 1:=⟨by decide,by decide⟩
theorem ExP.ncr {k:RatM} {l u:Rat}:¬Crs (exC k) l u:=λhh=>by have h1:(false=true):=hh.1.2;cases h1
theorem ExP.prg {p:ProgM} (h:ExP p):PrG p exQ 3:=by
 have h1:=h.cl
 have h2:=h.rl
 have hlt:∀k,k<=16->bd 3 k<=4398046511104:=λk hk=>aJ (kY hk) (by decide+kernel)
 exact {
  v:={
   rd:=⟨λj hj=>by
    obtain⟨k,hk,e⟩:=h.col hj
    rw[e]
    exact⟨hk.rq (aSx.le dC),vG,vG⟩,λi hi=>by
    obtain⟨b,v1,v2,e,er,hb,hv1,hv2,he⟩:=h.row hi
    rw[er]
    refine⟨hb.rq (cOg.le dC),⟨by rw[he];rfl,λk hk=>?_⟩⟩
    show(e.l.getD k default).ix=_/\Rq (e.l.getD k default).v _ 3
    rw[he]
    match k,hk with
    |0,_=>exact⟨rfl,hv1.rq (aSx.le dC)⟩
    |1,_=>exact⟨rfl,hv2.rq (aSx.le dC)⟩⟩
   h1:=by decide
   hB:=by decide
   c:=by omega
   r:=by omega
   x:=λj hj=>by
    obtain⟨k,hk,e⟩:=h.col hj
    rw[e];exact ExP.ncr
   v:=λi hi=>by
    obtain⟨b,v1,v2,e,er,_⟩:=h.row hi
    refine⟨by rw[er];exact .inr (.inr rfl),?_⟩
    rw[h1];exact bJr
   e:=λi hi e he=>by
    rcases bW.1 he with rfl|he
    ·exact aSx.le dC
    rw[aE.1 he];exact aSx.le dC}
  c:=⟨λj hj=>by
   obtain⟨k,hk,e⟩:=h.col hj
   rw[e];exact hk,λi hi=>by
   obtain⟨b,v1,v2,e,er,hb,_⟩:=h.row hi
   rw[er];exact hb⟩
  k:=λj hj=>aSx.le dC
  rl:=by omega
  cl:=by omega
  bB:=by decide
  f:=hlt _ oM
  s:=λm hm=>cOd oM hm
  t:=λm hm=>cOe oM}
theorem ExP.bd {p:ProgM} (h:ExP p):bd 3 (p.r.l.length*p.c.l.length)<=4398046511104:=by rw[h.cl,h.rl];decide+kernel
structure ExB (b:BasM):Prop where
 c:b.c.l=[2,0]
 r:b.r.l=[0]
theorem ExP.val {p:ProgM} {b:BasM} (h:ExP p) (hb:ExB b):BVal p exQ b:=by
 have h1:=h.cl
 have h2:=h.rl
 have e1:bcL b p.c.l.length=[0]:=by
  rw[h1]
  exact(mR (P:=λj=>b.c.l.getD j 0=2) (k:=1) (by show ¬b.c.l.getD 1 0=2;rw[hb.c];decide)).trans ((jM (P:=λj=>b.c.l.getD j 0=2) (k:=0) (by show b.c.l.getD 0 0=2;rw[hb.c];rfl)).trans rfl)
 have e2:brL b p.r.l.length=[0]:=by
  rw[h2]
  exact(jM (P:=λi=>b.r.l.getD i 0≠2) (k:=0) (by show b.r.l.getD 0 0≠2;rw[hb.r];decide)).trans rfl
 refine⟨⟨by rw[h1,hb.c];rfl,by rw[h2,hb.r];rfl,λj hj=>?_,λi hi=>?_⟩,by rw[e1,e2],?_⟩
 ·obtain⟨k,hk,e⟩:=h.col hj
  rw[e,hb.c]
  match j,(show j<2 by omega) with
  |0,_=>exact .inl rfl
  |1,_=>exact .inr (.inl ⟨rfl,rfl⟩)
 ·obtain⟨b',v1,v2,e,er,_⟩:=h.row hi
  rw[er,hb.r]
  match i,(show i<1 by omega) with
  |0,_=>exact .inr rfl
 rw[e2]
 intro ⟨x,⟨i,hi,hx⟩,hk⟩
 have h3:=hk 0 dC
 have h0:i=0:=by have:i<1:=hi;omega
 subst h0
 have hp:=h.prg.v
 have ec:=(gJ (P:=λj=>b.c.l.getD j 0=2) p.c.l.length).1
 have h4:Vm.get (aAv p exQ b 0) ((0:Nat):Int)=1:=by
  refine(uI (κ:=atN (bcL b p.c.l.length)) (n:=(bcL b p.c.l.length).length) (es:=[((0:Int),(1:Rat)),(1,1)]) (k:=0) (λk l hkl hl=>ec.mono k l hkl hl) bJr.1 (by rw[e1];decide)).trans ?_
  rw[e1]
  decide+kernel
 have h5:(0:Rat)+Vm.get (aAv p exQ b 0) ((0:Nat):Int)*x 0=0:=h3
 rw[h4] at h5
 exact hx (by grind)
section ex
variable {p:ProgM} {b:BasM}
theorem ExP.pt (h:ExP p) (hb:ExB b) {Bx:Nat} {qs:List Rat} (hx:PtR p exQ b Bx qs):qs=[3,0]:=by
 have h1:=hx.ln
 rw[h.cl] at h1
 match qs,h1 with
 |[a,c],_=>
  have h2:c=x0N exQ b 1:=hx.x0 1 (by rw[h.cl];decide) (by rw[hb.c];decide)
  have h3:x0N exQ b 1=0:=if_pos (by rw[hb.c];rfl)
  have h4:(1:Rat)*a+((1:Rat)*c+0)=3:=hx.ti 0 (by rw[h.rl];decide) (by rw[hb.r];decide)
  have h5:c=0:=h2.trans h3
  rw[h5] at h4 ⊢
  rw[show a=3 by grind]
theorem ExP.mu (h:ExP p) (hb:ExB b) {By:Nat} {ps:List Rat} (hy:MuR p exQ b By ps):ps=[1]:=by
 have h1:=hy.ln
 rw[h.rl] at h1
 match ps,h1 with
 |[a],_=>
  have h2:=hy.d 0 (by rw[h.cl];decide) (by rw[hb.c];rfl)
  rw[h.rl] at h2
  have h3:(0:Rat)+a*Vm.get [((0:Int),(1:Rat)),(1,1)] ((0:Nat):Int)=1:=h2
  rw[show Vm.get [((0:Int),(1:Rat)),(1,1)] ((0:Nat):Int)=1 by decide+kernel] at h3
  rw[show a=1 by grind]
theorem ExP.fsb (h:ExP p):Fsb p exQ [3,0]:=by
 refine⟨λj hj hh=>?_,λi hi hh=>?_⟩
 ·obtain⟨k,hk,e⟩:=h.col hj
  have hh2:cBa (p.c.l.getD j default) 0 0 (lQ [3,0] j):=hh
  rw[e] at hh2
  rw[h.cl] at hj
  rcases hh2 with h2|h2
  ·match j,hj with
   |0,_=>exact absurd h2.2 (show ¬(3:Rat)<0 by decide+kernel)
   |1,_=>exact absurd h2.2 (show ¬(0:Rat)<0 by decide+kernel)
  have h3:(false=true):=h2.1
  cases h3
 obtain⟨b',v1,v2,e,er,_⟩:=h.row hi
 have hh2:Brk (p.r.l.getD i default).s (dtl [((0:Int),(1:Rat)),(1,1)] (lQ [3,0])) 3:=hh
 rw[show dtl [((0:Int),(1:Rat)),(1,1)] (lQ [3,0])=3 by decide+kernel] at hh2
 rcases hh2 with h2|h2
 ·exact absurd h2.1 (show ¬(3:Rat)<3 by decide+kernel)
 exact absurd h2.1 (show ¬(3:Rat)<3 by decide+kernel)
theorem ExP.dual (h:ExP p) (hb:ExB b):Sgd p [1]/\DuR p exQ b [1] p.c.l.length:=by
 refine⟨λi hi hh=>?_,λj hj hn hh=>?_⟩
 ·obtain⟨b',v1,v2,e,er,_⟩:=h.row hi
  rw[er] at hh
  rw[h.rl] at hi
  match i,hi with
  |0,_=>
   rcases hh with h2|h2
   ·exact absurd h2.1 (show ¬(1:Int)=-1 by decide)
   exact absurd h2.2 (show ¬sgn (1:Rat).num<0 by decide+kernel)
 rw[h.cl] at hj
 match j,hj with
 |0,_=>exact hn (.inl (by rw[hb.c];rfl))
 |1,_=>
  have e:mX exQ [1] p.r.l.length 1=0:=by
   rw[h.rl]
   show(1:Rat)-1*Vm.get [((0:Int),(1:Rat)),(1,1)] ((1:Nat):Int)=0
   decide+kernel
  rw[e] at hh
  rcases hh with h2|h2
  ·exact absurd h2.1 (show ¬sgn (0:Rat).num<0 by decide+kernel)
  exact absurd h2.1 (show ¬0<sgn (0:Rat).num by decide+kernel)
theorem ExP.rep (h:ExP p) {g:BasM} (hg:RpR p exQ ⟨cO,cO⟩ g):g.c.l=[0,0]/\g.r.l=[2]:=by
 have hw:(wnL p ⟨cO,cO⟩)=[]:=by
  have:(wnL p ⟨cO,cO⟩).length<=min p.c.l.length 0:=iA
  exact lT.1 oM
 have hc:(iH p exQ ⟨cO,cO⟩).length=0:=by
  have:(iH p exQ ⟨cO,cO⟩).length<=(wnL p ⟨cO,cO⟩).length:=iA
  rw[hw] at this
  exact Nat.le_zero.1 this
 have hl:(ltL p exQ ⟨cO,cO⟩).length=0:=(bSv (p:=p) (q:=exQ) (b:=⟨cO,cO⟩)).1.trans hc
 have h1:=h.cl
 have h2:=h.rl
 refine⟨aLl (by rw[hg.cl,h1];rfl) λj hj=>?_,aLl (by rw[hg.rl,h2];rfl) λi hi=>?_⟩
 ·have hj':j<2:=hj
  rw[hg.c0 j oM λk hk=>absurd hk oM]
  obtain⟨k,hk,e⟩:=h.col (j:=j) oM
  rw[e]
  have h3:stC (exC k) (⟨cO,cO⟩:BasM).c.l j=dfC (exC k):=if_neg λhh=>absurd hh.1.1 (aD _)
  have h4:dfC (exC k)=0:=if_pos rfl
  rw[h3,h4]
  match j,hj' with
  |0,_=>rfl
  |1,_=>rfl
 have hi':i<1:=hi
 rw[hg.r2 i oM λk hk=>absurd hk oM]
 match i,hi' with
 |0,_=>rfl
end ex
theorem bJs {ρ:Pl} {n:Nat} {w:World} {c:CV} {x:Value} (h:Hc ρ n w c x) (hc:fM c=true):Rc (Zf ρ n w) w c x:=by
 cases c<;>first|exact h|cases hc
theorem bJt {ρ:Pl} {n i T e m:Nat} {w:World} {l:List CV} {Z:Nat->Prop} {get:Nat->List CV} (hq:Bq ρ n w i T e l) (he:0<e) (hl:m*e=l.length) (hg:∀j,j<m->get j=(l.drop (j*e)).take e) (hc:∀c∈l,fM c=true) (hZ:∀b,(ρ i).1=some b->Z b) (hz:∀b,Zf ρ n w b->Z b):
 Rc Z w (.r ((ρ i).1.map λb=>⟨b,0,none⟩) m (ρ i).2 e get) (.slice ((ρ i).1.map λb=>⟨b,0,none⟩) m (ρ i).2):=by
 unfold Bq at hq
 cases hb:(ρ i).1 with
 |none=>
  simp only[hb] at hq
  rw[hq.1] at hl
  have h0:m=0:=by
   rcases cF m with h|h
   ·exact h
   have:=nF h he;simp at hl;omega
  subst h0
  rw[hq.2.1]
  exact Rc.nil _ _ _ _ (aC _)
 |some b=>
  simp only[hb] at hq
  obtain⟨vl,junk,h1,h2,h3,h4⟩:=hq
  obtain⟨h5,h6⟩:=h3 he
  have hlen:=h2.len
  have hml:m*e<=(ρ i).2*e:=by rw[h5,aF,<-hlen];omega
  have hmc:m<=(ρ i).2:=eR hml he
  have hjb:∀j,j<m->j*e+e<=l.length:=λj hj=>by
   rw[<-hl]
   have:(j+1)*e<=m*e:=aV e hj
   rw[dM] at this
   exact this
  refine Rc.r b 0 m (ρ i).2 e get (λj=>(vl.drop (j*e)).take e) hmc h6 (hZ b hb) (λj hj q u hu=>?_) (λj hj=>?_) λj hj q c u hcq hu=>?_
  ·rw[fF] at hu
   split at hu
   ·rw[dN] at hu
    exact⟨by rw[eO];exact nC h1 hu,h4 u (aQ hu)⟩
   cases hu
  ·rw[hg j hj,bG,bG,cK,cK,hlen]
  rw[hg j hj] at hcq
  rw[fF] at hcq hu
  split at hu
  ·next hqe=>
   rw[if_pos hqe,dN] at hcq
   rw[dN] at hu
   obtain⟨x,h7,h8⟩:=h2.get hcq
   rw[hu] at h7
   injection h7 with h7
   subst h7
   have hcl:=hc c (aQ hcq)
   have h9:Rc (Zf ρ n w) w c u:=bJs h8 hcl
   exact h9.mono λb hb=>⟨hz b hb,rfl⟩
  cases hu
abbrev smL (C R:List Int):BL:=[(3,1,C.map iC),(3,1,R.map iC)]
theorem cOh (a:BasM) (C R:List Int) (h1:a.c.l.length<=4096) (h2:a.r.l.length<=4096) (hc:a.c.l=C) (hr:a.r.l=R):Ctr Tryz.prog aWy [true,true] [.a a.C,.a [.s 0 C.length,.s 1 R.length]] (smL C R) (λ_:Unit=>⟨.c (.v (.bool true)),smL C R,True⟩):=by
 refine Ctr.lend (τ:=BasM) (al:=λb=>[.a a.C,.a b.C]) (X:=λb=>a.c.l=b.c.l/\a.r.l=b.r.l) (R:=λ_:Unit=>⟨.c (.v (.bool true)),[],True⟩) bSx (λb hb=>CtrF.ld (cOc a b h1 h2) λg hg=>⟨(),trivial,λ_ _ _ _ hv=>aHo hb hv,rfl,rfl⟩) ?_ ?_ ?_
 ·intro g ρ n w v h ρ' n' w'
  rw[h.inv_c.inv_v]
  exact .c (Rc.v _)
 ·exact ClB.cons (λ_=>aW.2 (bR _)) (eT (aW.2 (bR _)))
 intro ρ w vals hD hv
 match vals,hv with
 |[x,y],⟨hx,hy,_⟩=>
  have hz:∀b,Zf ρ 2 w b->Zf ⟨ρ.at',λ_=>True,[]⟩ 0 w b:=λb hb=>⟨hb.lt,λi hi=>absurd hi (aD _),trivial,λ⟨F,hF,_⟩=>by cases hF⟩
  have hZ:∀i,i<2->∀b,(ρ i).1=some b->Zf ⟨ρ.at',λ_=>True,[]⟩ 0 w b:=λi hi b hb=>⟨hD.lt (i:=i) hi hb,λi hi=>absurd hi (aD _),trivial,λ⟨F,hF,_⟩=>by cases hF⟩
  refine⟨⟨⟨(ρ 0).1.map λb=>⟨b,0,none⟩,(ρ 0).2,C⟩,⟨(ρ 1).1.map λb=>⟨b,0,none⟩,(ρ 1).2,R⟩⟩,⟨hc,hr⟩,?_,?_,trivial⟩
  ·cases hx with
   |a h=>
    next vl=>
    match vl,h with
    |[_,_],⟨g0,g1,_⟩=>exact .a ⟨(bJs g0 rfl).mono λb hb=>⟨hz b hb,rfl⟩,(bJs g1 rfl).mono λb hb=>⟨hz b hb,rfl⟩,trivial⟩
  cases hy with
  |a h=>
   next vl=>
   match vl,h with
   |[u,v],⟨g0,g1,_⟩=>
    refine .a ⟨?_,?_,trivial⟩
    ·show Rc _ w (cI _) u
     rw[g0.2]
     exact bJt (hD.ok 0 _ _ _ rfl) bL (by rw[aO,bN]) (λj hj=>oO j hj) (bR _) (hZ 0 bL) hz
    show Rc _ w (cI _) v
    rw[g1.2]
    exact bJt (hD.ok 1 _ _ _ rfl) bL (by rw[aO,bN]) (λj hj=>oO j hj) (bR _) (hZ 1 bL) hz
theorem cDt:LeL [.v (.slice none 0 0),.v (.slice none 0 0)] (⟨cO,cO⟩:BasM).C:=.cons qC (.cons qC (LeL.refl _))
theorem bQj (p:ProgM) (h:ExP p):Ctr Tryz.prog bQf [] [.a p.C,.a [.v (.slice none 0 0),.v (.slice none 0 0)]] [] (λg:BasM=>⟨.t [.a g.C,.c (iC 0)],[],g.c.l=[0,0]/\g.r.l=[2]⟩):=
 CtrF.arg (al:=[.a p.C,.a (⟨cO,cO⟩:BasM).C]) (CtrF.re (cOa p ⟨cO,cO⟩ h.prg.v (by rw[h.rl];decide) (by rw[h.cl];decide) h.bd) λg hg=>⟨g,h.rep hg,rfl,rfl,rfl⟩) λρ n w vals hv=>by
  match vals,hv with
  |[x,y],⟨hx,hy,_⟩=>exact⟨hx,LeL.hd cDt rfl hy,trivial⟩
theorem cOi (p:ProgM) (b:BasM) {q:PrQ} {B:Nat} (h:PrG p q B) (hb:BVal p q b):Ctr Tryz.prog bPt [] [.a p.C,.a b.C] [] (λ_:Unit=>⟨.c (.v (.bool true)),[],True⟩):=CtrF.ld (cNt p b h.v h.rl h.f) λg hg=>⟨(),trivial,λ_ _ _ _ hv=>aHo hb hv,rfl,rfl⟩
theorem cOj (p:ProgM) (b:BasM) (h:ExP p) (hb:ExB b):Ctr Tryz.prog bQa [] [.a p.C,.a b.C] [] (λ_:Unit=>⟨.c (.v (.bool true)),[],True⟩):=CtrF.ld (cNx p b h.prg (h.val hb)) λg hg=>⟨(),trivial,λ_ _ _ _ hv=>aHo (by rw[h.pt hb (show PtL p exQ b g.1 g.2 from hg).2];exact h.fsb) hv,rfl,rfl⟩
theorem cOk (p:ProgM) (b:BasM) (h:ExP p) (hb:ExB b):Ctr Tryz.prog bQb [] [.a p.C,.a b.C] [] (λ_:Unit=>⟨.c (.v (.bool true)),[],True⟩):=CtrF.ld (cNy p b h.prg (h.val hb)) λg hg=>⟨(),trivial,λ_ _ _ _ hv=>aHo (by rw[h.mu hb (show MuL p exQ b g.1 g.2 from hg).2];exact h.dual hb) hv,rfl,rfl⟩
theorem cOl (p:ProgM) (b:BasM) (h:ExP p) (hb:ExB b):Ctr Tryz.prog bPz [] [.a p.C,.a b.C] [] (λg:Sl RatM=>⟨.t [.c (eY g),.c (iC 0)],[],Rl g.l [3,0]⟩):=CtrF.re (bJi p b h.prg (h.val hb)) λg hg=>⟨g.1,by have:=h.pt hb (show PtL p exQ b g.1 g.2 from hg).2;rw[<-this];exact(show PtL p exQ b g.1 g.2 from hg).1,rfl,rfl,rfl⟩
theorem bQk (x y:Sl RatM) (hx:Rl x.l [3,0]) (hy:Rl y.l [3,0]):Ctr Tryz.prog aKl [] [.c (eY x),.c (eY y)] [] (λ_:Unit=>⟨.c (.v (.bool true)),[],True⟩):=CtrF.ld (bNm x y hx hy (λq hq=>by
 rcases bW.1 hq with rfl|hq
 ·exact cOg.le dC
 rw[aE.1 hq];exact cVe.le dC) dC) λg hg=>⟨(),trivial,λ_ _ _ _ hv=>aHo trivial hv,rfl,rfl⟩
abbrev cDu:FuncId:=19
theorem cVf:Ent Tryz.prog cDu:=aU func19 rfl kR
theorem cVg:Tryz.prog.funcs[cDu]? =some Tryz.f19:=func19
abbrev cDv (p:ProgM):BL:=[(42,0,p.C),(3,1,[iC 2,iC 0]),(3,1,[iC 0]),(45,0,[.s 1 2,.s 2 1])]
theorem bQl {p:ProgM}:scB 4 (cDv p):=aB rfl (aB rfl (aB rfl (aB rfl aZ)))
theorem bQm:Ctr Tryz.prog cDu [] [] [] (λ_:Unit=>⟨.c (.v (.bool true)),[],True⟩):=by
 refine aX gT cVf cVg rfl rfl rfl bL aS (Sd.sq (aA gT mxd (Sd.sq (aA gT mxd ⟨[],cOf,rfl,rfl,rfl,λp hp=>?_⟩))))
 replace hp:ExP p:=hp
 refine Sd.sq (aA gT mxd ?_)
 refine tSd _ Unit (λ_=>⟨[(1,.c (.p 0 0)),(2,.c (.p 3 0))]++[],[],cDv p,[]⟩) (λ_=>True) ?_ λ_ _=>?_
 ·exact bF (M:=λ_=>true) (base:=[]) (chg:=λ_:Unit=>[(1,.c (.p 0 0)),(2,.c (.p 3 0))]) (bls:=λ_=>cDv p) (fls:=λ_=>[]) (λt d ht=>by cases ht) () trivial rfl ⟨rfl,rfl,rfl,rfl⟩ trivial ⟨rfl,rfl⟩ bL bQl rfl
 refine kU tSd 2 rfl bL (bR [0]) bL rfl λA a1=>⟨_,mA kB (bR [2,0]),jQ tSd 3 0 [.s 1 2,cI ⟨A.map λb=>⟨b,0,none⟩,a1,[0]⟩] rfl rfl rfl rfl (qW (k0:=1) rfl (aGh (L:=[0]))) ?_⟩
 refine kU tSd 1 rfl bL (bR [2,0]) bL rfl λA2 a2=>⟨_,rfl,jQ tSd 3 1 [cI ⟨A2.map λb=>⟨b,0,none⟩,a2,[2,0]⟩,cI ⟨A.map λb=>⟨b,0,none⟩,a1,[0]⟩] rfl rfl rfl rfl (qW (k0:=0) rfl (aGh (L:=[2,0]))) ?_⟩
 obtain⟨C,hC⟩:∃C:Sl Int,C=⟨A2.map λb=>⟨b,0,none⟩,a2,[2,0]⟩:=⟨_,rfl⟩
 obtain⟨R,hR⟩:∃R:Sl Int,R=⟨A.map λb=>⟨b,0,none⟩,a1,[0]⟩:=⟨_,rfl⟩
 rw[<-hC,<-hR]
 have hb:ExB ⟨C,R⟩:=⟨by rw[hC],by rw[hR]⟩
 refine aA gT mxd ⟨[],cOl p ⟨C,R⟩ hp hb,rfl,rfl,rfl,λx hx=>⟨[],bQj p hp,rfl,rfl,rfl,λr hr=>⟨[],cOi p ⟨C,R⟩ hp.prg (hp.val hb),rfl,rfl,rfl,λ_ _=>?_⟩⟩⟩
 replace hx:Rl x.l [3,0]:=hx
 replace hr:r.c.l=[0,0]/\r.r.l=[2]:=hr
 refine⟨λh1=>⟨[],sU (z:=3) dC,rfl,rfl,rfl,λf hf=>⟨[],aBk,rfl,rfl,rfl,λz hz=>⟨some (λj=>(([f,z]:List RatM).getD j default).C),⟨⟨bL,bL⟩,rfl,λj hj=>?_,kE rfl⟩,λA3 a3 _ _=>⟨λc hc=>(dZ hc).elim,λc hc=>(dZ hc).elim,[],bQk x ⟨A3,a3,[f,z]⟩ hx ⟨rfl,λk hk=>?_⟩,rfl,rfl,rfl,λ_ _=>?_⟩⟩⟩⟩,λh1=>absurd rfl h1⟩
 ·match j,hj with
  |0,_=>rfl
  |1,_=>rfl
 ·match k,hk with
  |0,_=>exact hf
  |1,_=>exact hz
 refine⟨λh2=>⟨[6,7],cOh r [0,0] [2] (by rw[hr.1];decide) (by rw[hr.2];decide) hr.1 hr.2,rfl,rfl,rfl,λ_ _=>⟨[],cOj p ⟨C,R⟩ hp hb,rfl,rfl,rfl,λ_ _=>⟨[],cOk p ⟨C,R⟩ hp hb,rfl,rfl,rfl,λ_ _=>⟨(),trivial,aM rfl rfl trivial⟩⟩⟩⟩,λh2=>absurd rfl h2⟩
abbrev lrB (p:ProgM) (b:BasM):BL:=[(42,0,p.C),(45,0,b.C)]
theorem aLo {p:ProgM} {b:BasM}:scB 2 (lrB p b):=aB rfl (aB rfl aZ)
structure BnH (p:ProgM) (q:PrQ) (y:Sl RatM) (ps:List Rat) (B By:Nat):Prop where
 z:PrZ p q y ps B By
 s:Sgd p ps
 c:∀j,j<p.c.l.length->(0<mX q ps p.r.l.length j->(p.c.l.getD j default).pl)/\(mX q ps p.r.l.length j<0->(p.c.l.getD j default).pu)
 b:2+(p.r.l.length+p.c.l.length+1)*(B+p.r.l.length*(By+B+1)+B+By+1)<=4398046511104
section un
variable {p:ProgM} {q:PrQ} {b:BasM} {B:Nat}
theorem bJu (hp:PrV p q B) {i:Nat} (hi:i<p.r.l.length) (x:Nat->Rat):dtl (q.M i) x=cG (λj=>Vm.get (q.M i) (j:Nat)*x j) p.c.l.length:=sW λe he=>⟨((hp.v i hi).2.2 e he).1,((hp.v i hi).2.2 e he).2.1⟩
end un
theorem aOt {q:PrQ} {ps:List Rat} {j:Nat}:∀i,mX q ps i j=q.k j-cG (λi=>lQ ps i*Vm.get (q.M i) (j:Nat)) i
 |0=>by show q.k j=q.k j-0;grind
 |i+1=>by
  show mX q ps i j-_=q.k j-(cG _ i+_)
  rw[aOt i];grind
def stN (l:List Int) (i:Nat):Int:=if i<l.length then l.getD i 0 else-1
abbrev cDw:FuncId:=65
theorem cVh:Ent Tryz.prog cDw:=aU func65 rfl kR
theorem cVi:Tryz.prog.funcs[cDw]? =some Tryz.f65:=func65
theorem bJv (x:Sl Int) (i:Nat):Ctr Tryz.prog cDw [] [.c (cI x),.c (iC i)] [] (λ_:Unit=>⟨.c (iC (stN x.l i)),[],True⟩):=by
 refine aX gT cVh cVi rfl rfl rfl bL aS (aA gT mxd ⟨λh=>aA gT mxd ?_,λh=>aA gT mxd ?_⟩)
 ·replace h:(i:Int)<(x.l.length:Nat):=h
  have hi:i<x.l.length:=by omega
  rw[show stN x.l i=x.l.getD i 0 from if_pos hi]
  exact⟨i,⟨rfl,hi⟩,(),trivial,aM rfl rfl trivial⟩
 replace h:¬(i:Int)<(x.l.length:Nat):=h
 rw[show stN x.l i=-1 from if_neg oM]
 exact⟨(),trivial,aM rfl rfl trivial⟩
def vcN (p:ProgM) (q:PrQ) (k i:Nat):Rat:=if k<p.c.l.length then Vm.get (q.M i) (k:Nat) else if k=p.c.l.length+i then 1 else 0
abbrev vcG (p:ProgM) (k m:Nat):List (Nat×DV):=[(6,.c (iC m)),(1,.c (iC k)),(2,.c (.p 0 0)),(5,.c (.s 1 p.r.l.length))]
abbrev rvB (p:ProgM) (Z:Nat->RatM):BL:=[(42,0,p.C),(62,3,rtC p.r.l.length Z)]
theorem aLp {p:ProgM} {Z:Nat->RatM}:scB 2 (rvB p Z):=aB rfl (aB (bU eB) aZ)
abbrev aWz:FuncId:=131
theorem cOm:Ent Tryz.prog aWz:=aU func131 rfl kR
theorem cOn:Tryz.prog.funcs[aWz]? =some Tryz.f131:=func131
theorem cDx (p:ProgM) (k:Nat) {q:PrQ} {B:Nat} (h:PrV p q B) (hk:k<=16384):Ctr Tryz.prog aWz [] [.a p.C,.c (iC k)] [] (λg:Sl RatM=>⟨.c (eY g),[],g.l.length=p.r.l.length/\∀i,i<p.r.l.length->Cr (g.l.getD i default) (vcN p q k i)⟩):=by
 have hr:=h.r
 have hc:=h.c
 refine aX gT cOm cOn rfl rfl rfl bL aS (aA gT mxd ⟨p.r.l.length,⟨rfl,rfl,by show 56*_<=_;omega,by simp only[maxLen];omega⟩,?_⟩)
 show Sd _ _ _ _ _ _
 refine gG tSd 1 (rtC p.r.l.length λ_=>default) rfl kZ.1 kZ.2 ?_
 refine cE (λ_=>true) (λg:Nat×(Nat->RatM)=>vcG p k g.1) (λg=>rvB p g.2) (λ_=>[]) (λg=>g.1<=p.r.l.length/\∀i,i<g.1->Cr (g.2 i) (vcN p q k i)) (λg=>p.r.l.length-g.1) λhM=>⟨bF hM (chg:=λg:Nat×(Nat->RatM)=>vcG p k g.1) (bls:=λg=>rvB p g.2) (fls:=λ_=>[]) (0,λ_=>default) ⟨aC _,λi hi=>absurd hi (aD _)⟩ rfl ⟨rfl,rfl⟩ trivial ⟨rfl,rfl,rfl,rfl⟩ bL aLp rfl,λ⟨m,Z⟩ ⟨hm,hZ⟩=>aA gT mxd ⟨λh3=>aA gT mxd ?_,λh3=>aA gT mxd ?_⟩⟩
 all_goals
  replace hm:m<=p.r.l.length:=hm
  replace hZ:∀i,i<m->Cr (Z i) (vcN p q k i):=hZ
 ·replace h3:(m:Int)<(p.r.l.length:Nat):=h3
  have hmn:m<p.r.l.length:=by omega
  have hset:∀(w:RatM) (Z':Nat->RatM),(∀i,i≠m->Z' i=Z i)->Z' m=w->Cr w (vcN p q k m)->∀i,i<m+1->Cr (Z' i) (vcN p q k i):=λw Z' h4 h5 h6 i hi=>by
   by_cases e:i=m
   ·rw[e,h5];exact h6
   rw[h4 i e];exact hZ i oM
  refine⟨[],aBk,rfl,rfl,rfl,λz hz=>⟨m,⟨rfl,hmn,fE hmn⟩,_,gO hmn,λh4=>aA gT mxd ?_,λh4=>aA gT mxd ?_⟩⟩
  ·replace h4:(k:Int)<(p.c.l.length:Nat):=h4
   have hkc:k<p.c.l.length:=by omega
   have hvm:vcN p q k m=Vm.get (q.M m) (k:Nat):=if_pos hkc
   refine⟨m,⟨rfl,hmn⟩,[],aRl (p.r.l.getD m default).e (k:Nat) (h.rd.r m hmn).e (h.v m hmn).2.1 (h.e m hmn) h.h1 h.hB (by have:=h.len hmn;omega),rfl,rfl,rfl,λg hg=>⟨m,⟨rfl,hmn,fE hmn⟩,_,gO hmn,(m+1:Nat),wi,bF hM (chg:=λg:Nat×(Nat->RatM)=>vcG p k g.1) (bls:=λg=>rvB p g.2) (fls:=λ_=>[]) (m+1,upd (upd Z m z) m g) ⟨⟨hmn,?_⟩,show p.r.l.length-(m+1)<p.r.l.length-m by omega⟩ rfl ⟨rfl,rfl⟩ trivial ⟨rfl,rfl,rfl,rfl⟩ bL aLp rfl⟩⟩
   exact hset g _ (λi hi=>(bA hi).trans (bA hi)) bH (by rw[hvm];exact hg)
  replace h4:¬(k:Int)<(p.c.l.length:Nat):=h4
  have hkc:¬k<p.c.l.length:=by omega
  have hvm:vcN p q k m=if k=p.c.l.length+m then 1 else 0:=if_neg hkc
  refine⟨(k:Int)-(p.c.l.length:Nat),wi (h:=⟨rfl,by omega,by omega⟩),λh5=>aA gT mxd ?_,λh5=>aA gT mxd ?_⟩
  ·replace h5:(k:Int)-(p.c.l.length:Nat)=(m:Nat):=h5
   refine⟨[],sU (z:=1) dC,rfl,rfl,rfl,λg hg=>⟨m,⟨rfl,hmn,fE hmn⟩,_,gO hmn,(m+1:Nat),wi,bF hM (chg:=λg:Nat×(Nat->RatM)=>vcG p k g.1) (bls:=λg=>rvB p g.2) (fls:=λ_=>[]) (m+1,upd (upd Z m z) m g) ⟨⟨hmn,?_⟩,show p.r.l.length-(m+1)<p.r.l.length-m by omega⟩ rfl ⟨rfl,rfl⟩ trivial ⟨rfl,rfl,rfl,rfl⟩ bL aLp rfl⟩⟩
   exact hset g _ (λi hi=>(bA hi).trans (bA hi)) bH (by rw[hvm,if_pos oM];exact hg)
  replace h5:¬(k:Int)-(p.c.l.length:Nat)=(m:Nat):=h5
  refine⟨(m+1:Nat),wi,bF hM (chg:=λg:Nat×(Nat->RatM)=>vcG p k g.1) (bls:=λg=>rvB p g.2) (fls:=λ_=>[]) (m+1,upd Z m z) ⟨⟨hmn,?_⟩,show p.r.l.length-(m+1)<p.r.l.length-m by omega⟩ rfl ⟨rfl,rfl⟩ trivial ⟨rfl,rfl,rfl,rfl⟩ bL aLp rfl⟩
  exact hset z _ (λi hi=>bA hi) bH (by rw[hvm,if_neg oM];exact hz)
 replace h3:¬(m:Int)<(p.r.l.length:Nat):=h3
 obtain rfl:m=p.r.l.length:=by omega
 show Sd _ _ _ _ _ _
 refine rR 5 1 (λj=>((mW Z p.r.l.length).getD j default).C) rfl rfl (λj hj=>yH j hj) (by rw[nJ (P:=λj=>(Z j).C) (e:=3) λ_ _=>rfl]) bL eB bL λA c _ _=>aA gT mxd ⟨⟨A,c,mW Z p.r.l.length⟩,⟨pQ,λi hi=>?_⟩,aM aBy rfl trivial⟩
 show Cr ((mW Z p.r.l.length).getD i default) _
 rw[vJ hi];exact hZ i hi
theorem Ech.enm {Q E:Nat->Nat->Rat} {r c t:Nat} {pv:Nat->Nat} (h:Ech Q E r c c t pv):Enm (λj=>¬Dep Q r c j) c t pv:=⟨h.lt,h.mono,λk hk=>(h.ind (h.lt k hk)).1 ⟨k,hk,rfl⟩,λj hj hd=>(h.ind hj).2 hd⟩
theorem Ech.rows {Q E:Nat->Nat->Rat} {r c t:Nat} {pv:Nat->Nat} (h:Ech Q E r c c t pv):t=r↔Free (λj i=>Q i j) c r:=by
 constructor
 ·rintro rfl
  exact aYv (R0:=pv) (Q:=λj i=>Q i j) h.lt h.enm.free.tr
 exact λhf=>(h.enm.square hf).1
def vcL (p:ProgM) (q:PrQ) (k:Nat):List Rat:=(List.range p.r.l.length).map (vcN p q k)
abbrev aSy (L:List (Sl RatM)):List CV:=L.map λr=>eY r
abbrev bQn (p:ProgM) (L:List (Sl RatM)):BL:=[(42,0,p.C),(55,1,aSy L)]
theorem aFz {L:List (Sl RatM)}:∀c∈aSy L,fM c=true:=λc hc=>by
 obtain⟨r,_,rfl⟩:=cD.1 hc
 rfl
theorem aXa {p:ProgM} {L:List (Sl RatM)}:scB 2 (bQn p L):=aB rfl (aB (bU aFz) aZ)
abbrev cDy (l:Sl Int) (k:Nat):List (Nat×DV):=[(6,.c (iC k)),(1,.c (cI l)),(2,.c (.p 0 0)),(5,.c (.s 1 k))]
abbrev aXb:FuncId:=69
theorem cOo:Ent Tryz.prog aXb:=aU func69 rfl kR
theorem cOp:Tryz.prog.funcs[aXb]? =some Tryz.f69:=func69
theorem cDz (p:ProgM) (l:Sl Int) {q:PrQ} {B:Nat} {κ:Nat->Nat} (h:PrV p q B) (hl:l.l.length<=100) (hk:∀k,k<l.l.length->l.l.getD k 0=(κ k:Nat)/\κ k<=16384) (hB:bd B (l.l.length-1)<=4398046511104):Ctr Tryz.prog aXb [] [.a p.C,.c (cI l)] [] (λ_:Unit=>⟨pC (Free (λi k=>vcN p q (κ k) i) p.r.l.length l.l.length),[],True⟩):=by
 have hr:=h.r
 refine aX gT cOo cOp rfl rfl rfl bL aS (aA gT mxd (aIy 5 55 1 rfl bL (aA gT mxd ?_)))
 refine cE (λ_=>true) (λg:List (Sl RatM)=>cDy l g.length) (λg=>bQn p g) (λ_=>[]) (λg=>g.length<=l.l.length/\∀k,k<g.length->Rl (g.getD k cO).l (vcL p q (κ k))) (λg=>l.l.length-g.length) λhM=>⟨bF hM (chg:=λg:List (Sl RatM)=>cDy l g.length) (bls:=λg=>bQn p g) (fls:=λ_=>[]) [] ⟨aC _,λk hk=>absurd hk (aD _)⟩ rfl ⟨rfl,rfl⟩ trivial ⟨rfl,rfl,rfl,rfl⟩ bL aXa rfl,λL ⟨hL,hLr⟩=>aA gT mxd ⟨λh3=>aA gT mxd ?_,λh3=>aA gT mxd ?_⟩⟩
 all_goals
  replace hL:L.length<=l.l.length:=hL
  replace hLr:∀k,k<L.length->Rl (L.getD k cO).l (vcL p q (κ k)):=hLr
 ·replace h3:(L.length:Int)<(l.l.length:Nat):=h3
  have hkl:L.length<l.l.length:=by omega
  obtain⟨c1,c2⟩:=hk _ hkl
  have hv:Ctr Tryz.prog aWz [] [.a p.C,.c (iC (l.l.getD L.length 0))] [] (λg:Sl RatM=>⟨.c (eY g),[],g.l.length=p.r.l.length/\∀i,i<p.r.l.length->Cr (g.l.getD i default) (vcN p q (κ L.length) i)⟩):=by
   rw[c1];exact cDx p (κ L.length) h c2
  refine⟨.treeX [] [2000,1,2002,2003,2004,5] (trS [6,7,1008,2009]),by kernel_rfl,L.length,⟨rfl,hkl⟩,[],hv,rfl,rfl,rfl,λg ⟨hg1,hg2⟩=>⟨rfl,rfl,⟨rfl,by rw[aO,bN],by show L.length+1<=maxLen;simp only[maxLen];omega,by show(L.length+1)*24<=_;omega,λc hc=>(aR.1 hc).elim (λh=>dB (aFz c h)) λh=>by rw[aE.1 h];rfl⟩,(λc hc=>by rw[aE.1 hc];rfl),(L.length+1:Nat),wi,bF hM (chg:=λg:List (Sl RatM)=>cDy l g.length) (bls:=λg=>bQn p g) (fls:=λ_=>[]) (L++[g]) ⟨⟨by rw[aF];exact hkl,λk hk2=>?_⟩,by show l.l.length-(L++[g]).length<l.l.length-L.length;rw[aF];show _-(_+1)<_;omega⟩ rfl ⟨rfl,?_⟩ trivial ⟨?_,rfl,rfl,?_⟩ bL aXa rfl⟩⟩
  ·rw[aF] at hk2
   replace hk2:k<L.length+1:=hk2
   by_cases e:k=L.length
   ·subst e
    rw[aH,cA (aI _),iZ]
    show Rl g.l _
    refine⟨by rw[hg1];unfold vcL;simp,λi hi=>?_⟩
    have hi':i<p.r.l.length:=by unfold vcL at hi;simpa using hi
    have:=hg2 i hi'
    unfold vcL
    simpa[aH,hi'] using this
   rw[aH,bD oM,<-aH]
   exact hLr k oM
  ·show((55,1,aSy L++[eY g]):TypeId×Nat×List CV)=(55,1,aSy (L++[g]))
   unfold aSy
   rw[bI];rfl
  ·show((L.length+1:Nat):Int)=(((L++[g]).length:Nat):Int)
   rw[aF];rfl
  show L.length+1=(L++[g]).length
  rw[aF];rfl
 replace h3:¬(L.length:Int)<(l.l.length:Nat):=h3
 have hn:L.length=l.l.length:=by omega
 have h1:=h.h1
 have hvb:∀k,k<l.l.length->rbL (vcL p q (κ k)) B:=λk hk2 x hx=>by
  obtain⟨i,hi,rfl⟩:=cD.1 hx
  have hi':=cL.1 hi
  unfold vcN
  split
  ·exact oP (h.v i hi').2.1 (h.e i hi') h1
  split
  ·exact aSx.le h1
  exact aAk h1
 have hfb:rbM (λi=>fdF (vcL p q (κ i)) p.r.l.length) l.l.length B:=λi hi=>bFj λj hj=>hvb i hi _ (gD0 (by unfold vcL;simpa using hj))
 show Sd _ _ _ _ _ _
 refine rR 5 1 (λj=>[eY (L.getD j cO)]) rfl rfl (λj hj=>?_) (by rw[aO,bN]) bL aFz bL λA c _ _=>aA gT mxd ⟨[],cJw ⟨A,c,L⟩ (Q:=λi=>vcL p q (κ i)) (r:=l.l.length) (n:=p.r.l.length) ⟨hn,λi hi=>⟨hLr i oM,by unfold vcL;simp⟩⟩ hvb h1 h.hB oM oM,rfl,rfl,rfl,λm hm=>⟨[],cAl m (hm.mr hfb) hfb h1 hB oM oM,rfl,rfl,rfl,λt ⟨E,pv,ht⟩=>⟨(),trivial,aM ?_ rfl trivial⟩⟩⟩
 ·show [eY (L.getD j cO)]=((aSy L).drop (j*1)).take 1
  have hj':j<(aSy L).length:=by rw[aO];exact hj
  rw[bN,dX hj']
  simp[aH,hj]
 show(t:Int)=(l.l.length:Nat)↔Free (λi k=>vcN p q (κ k) i) p.r.l.length l.l.length
 have hq:∀i j,i<l.l.length->j<p.r.l.length->mQ (λi=>fdF (vcL p q (κ i)) p.r.l.length) i j=vcN p q (κ i) j:=λi j hi hj=>by
  show Vm.get (fdF _ _) (j:Nat)=_
  rw[aKf,if_pos ⟨by omega,by omega⟩]
  unfold vcL
  simp[aH,hj]
 have hcg:Free (λj i=>mQ (λi=>fdF (vcL p q (κ i)) p.r.l.length) i j) p.r.l.length l.l.length↔Free (λi k=>vcN p q (κ k) i) p.r.l.length l.l.length:=by
  constructor
  ·exact λhf x hx=>hf x λi hi=>by
    rw[<-hx i hi]
    exact bK λk hk2=>by
     show mQ _ k i*_=vcN p q (κ k) i*_
     rw[hq k i hk2 hi]
  exact λhf x hx=>hf x λi hi=>by
   rw[<-hx i hi]
   exact bK λk hk2=>by
    show vcN p q (κ k) i*_=mQ _ k i*_
    rw[hq k i hk2 hi]
 rw[<-hcg,<-ht.rows]
 omega
theorem Free.sep {Q:Nat->Nat->Rat} {r n:Nat} (h:Free Q r (n+1)):∃x:Nat->Rat,(∀k,k<n->cG (λi=>Q i k*x i) r=0)/\cG (λi=>Q i n*x i) r=1:=by
 have hK:=(gJ (P:=λi=>¬Dep (λb i=>Q i b) (n+1) r i) r).1
 obtain⟨K,hK⟩:∃K,Enm (λi=>¬Dep (λb i=>Q i b) (n+1) r i) r (gD (λi=>¬Dep (λb i=>Q i b) (n+1) r i) r).length K:=⟨_,hK⟩
 obtain⟨ht,hf⟩:=hK.square (B:=λb i=>Q i b) h
 rw[ht] at hf hK
 have hT:=hf.tr
 obtain⟨z,⟨a,ha,hza⟩,h3⟩:=aSr (λb k=>if k<n+1 then Q (K k) b else if b=n then 1 else 0) (bE (n+1))
 have h4:∀b,b<n+1->cG (λk=>Q (K k) b*z k) (n+1)+(if b=n then 1 else 0)*z (n+1)=0:=λb hb=>by
  have h5:=h3 b hb
  replace h5:cG (λk=>(if k<n+1 then Q (K k) b else if b=n then 1 else 0)*z k) (n+1)+(if n+1<n+1 then Q (K (n+1)) b else if b=n then 1 else 0)*z (n+1)=0:=h5
  rw[if_neg (jE _)] at h5
  refine Eq.trans ?_ h5
  congr 1
  exact bK λk hk=>by rw[if_pos hk]
 have hz:z (n+1)≠0:=λh0=>by
  have h6:=hT z λb hb=>by
   have:=h4 b hb
   rw[h0,bZ,bJ] at this
   exact this
  rcases cM (cV ha) with h7|h7
  ·exact hza (h6 a h7)
  rw[h7] at hza;exact hza h0
 have hs:∀b,cG (λi=>Q i b*spr (n+1) K (λl=>(-(z (n+1))⁻¹)*z l) i) r=(-(z (n+1))⁻¹)*cG (λk=>Q (K k) b*z k) (n+1):=λb=>by
  rw[aAu hK.lt,<-jK]
  exact bK λk _=>by grind
 refine⟨spr (n+1) K λl=>(-(z (n+1))⁻¹)*z l,λk hk=>?_,?_⟩
 ·have:=h4 k oM
  rw[if_neg oM,dH,bJ] at this
  rw[hs,this,bZ]
 have:=h4 n oM
 rw[if_pos rfl,kK] at this
 have h8:=jP _ hz
 rw[hs]
 grind
theorem Dep.cut {Q:Nat->Nat->Rat} {r c c' j:Nat} (h1:j<c) (h2:j<c'):Dep Q r c j->Dep Q r c' j:=λ⟨y,e1,e2,e3⟩=>⟨y,e1,e2,λi hi=>by
 have e4:=e3 i hi
 rw[uH (m:=j+1) oM λl hl _=>by rw[e2 l oM,bZ]] at e4
 rw[uH (m:=j+1) oM λl hl _=>by rw[e2 l oM,bZ]]
 exact e4⟩
theorem Dep.cut' {Q:Nat->Nat->Rat} {r c c' j:Nat} (h1:j<c) (h2:j<c'):Dep Q r c j↔Dep Q r c' j:=⟨Dep.cut h1 h2,Dep.cut h2 h1⟩
theorem bJw {Q:Nat->Nat->Rat} {r N m:Nat} {x:Nat->Rat} (hm:m<N) (h0:∀l,l<m->cG (λi=>Q i l*x i) r=0) (h1:cG (λi=>Q i m*x i) r≠0):¬Dep Q r N m:=λ⟨y,y1,y2,y3⟩=>by
 have e1:cG (λl=>y l*cG (λb=>Q b l*x b) r) N=0:=by
  have e2:cG (λl=>y l*cG (λb=>Q b l*x b) r) N=cG (λl=>cG (λb=>y l*(Q b l*x b)) r) N:=bK λl _=>jK.symm
  rw[e2,pJ]
  refine fP λb hb=>?_
  have e3:cG (λl=>y l*(Q b l*x b)) N=x b*cG (λl=>Q b l*y l) N:=by
   rw[<-jK];exact bK λl _=>by grind
  rw[e3,y3 b hb,bZ]
 have e4:cG (λl=>y l*cG (λb=>Q b l*x b) r) N=cG (λl=>if l=m then cG (λb=>Q b m*x b) r else 0) N:=bK λl hl=>by
  rcases eS l m with h4|h4|h4
  ·rw[h0 l h4,if_neg oM,bZ]
  ·rw[if_pos h4,h4,y1,kK]
  rw[y2 l h4,if_neg oM,dH]
 rw[e4,jJ (m:=m) hm λj hj=>if_neg hj,if_pos rfl] at e1
 exact h1 e1
theorem Enm.cong {P P':Nat->Prop} {n m:Nat} {e:Nat->Nat} (h:Enm P n m e) (hp:∀j,j<n->(P j↔P' j)):Enm P' n m e:=⟨h.lt,h.mono,λk hk=>(hp _ (h.lt k hk)).1 (h.mem k hk),λj hj hj'=>h.all j hj ((hp j hj).2 hj')⟩
theorem Enm.snoc {P:Nat->Prop} {n m:Nat} {e:Nat->Nat} (h:Enm P n m e) (hp:P n):Enm P (n+1) (m+1) λk=>if k<m then e k else n:=by
 refine⟨λk hk=>?_,λk l hkl hl=>?_,λk hk=>?_,λj hj hj'=>?_⟩
 ·show(if k<m then e k else n)<_
  split
  ·next h1=>have:=h.lt k h1;omega
  omega
 ·show(if k<m then e k else n)<(if l<m then e l else n)
  rw[if_pos oM]
  split
  ·next h1=>exact h.mono k l hkl h1
  exact h.lt k oM
 ·show P (if k<m then e k else n)
  split
  ·next h1=>exact h.mem k h1
  exact hp
 rcases cM (cV hj) with h1|h1
 ·obtain⟨k,hk,he⟩:=h.all j h1 hj'
  exact⟨k,by omega,by show(if k<m then e k else n)=j;rw[if_pos hk];exact he⟩
 exact⟨m,by omega,by show(if m<m then e m else n)=j;rw[if_neg (jE m),h1]⟩
theorem Enm.span' {Q:Nat->Nat->Rat} {r N m t:Nat} {e:Nat->Nat} (h:Enm (λj=>¬Dep Q r N j) m t e) (hm:m<=N) {x:Nat->Rat} (hx:∀k,k<t->cG (λi=>Q i (e k)*x i) r=0):∀l,l<m->cG (λi=>Q i l*x i) r=0:=
 Enm.span (B:=Q) (m:=r) (R:=m) (t:=t) (K:=e) (h.cong λj hj=>not_congr (Dep.cut' oM hj)) hx
theorem aHr {Q:Nat->Nat->Rat} {r N m t:Nat} {e:Nat->Nat} (h:Enm (λj=>¬Dep Q r N j) m t e) (hm:m<N):Free (λi k=>Q i (if k<t then e k else m)) r (t+1)↔¬Dep Q r N m:=by
 constructor
 ·intro hf
  obtain⟨x,h1,h2⟩:=hf.sep
  refine bJw (x:=x) hm (h.span' oM λk hk=>?_) ?_
  ·have:=h1 k hk
   rw[if_pos hk] at this
   exact this
  rw[if_neg (jE t)] at h2
  rw[h2];decide
 intro hd
 have h2:=(h.snoc (n:=m) hd).cong (P':=λj=>¬Dep Q r (m+1) j) λj hj=>not_congr (Dep.cut' oM hj)
 exact h2.free
theorem cEa {Q:Nat->Nat->Rat} {r N m:Nat} (hm:m<N) (hd:¬Dep Q r N m):∃x:Nat->Rat,(∀l,l<m->cG (λi=>Q i l*x i) r=0)/\cG (λi=>Q i m*x i) r=1:=by
 obtain⟨e,he⟩:∃e,Enm (λj=>¬Dep Q r N j) m (gD (λj=>¬Dep Q r N j) m).length e:=⟨_,(gJ m).1⟩
 obtain⟨x,h1,h2⟩:=((aHr he hm).2 hd).sep
 refine⟨x,he.span' oM λk hk=>?_,?_⟩
 ·have:=h1 k hk
  rw[if_pos hk] at this
  exact this
 rw[if_neg (jE _)] at h2
 exact h2
noncomputable def cdK (p:ProgM) (b:BasM) (k:Nat):Nat:=if k<(wnL p b).length then atN (wnL p b) k else p.c.l.length+atN (lfO b.r p.r.l.length) (k-(wnL p b).length)
noncomputable abbrev cdN (p:ProgM) (b:BasM):Nat:=(wnL p b).length+p.r.l.length
noncomputable abbrev cdQ (p:ProgM) (q:PrQ) (b:BasM) (i k:Nat):Rat:=vcN p q (cdK p b k) i
noncomputable abbrev cdP (p:ProgM) (q:PrQ) (b:BasM) (m:Nat):Prop:=¬Dep (cdQ p q b) p.r.l.length (cdN p b) m
open Classical in
structure GrR (p:ProgM) (q:PrQ) (b g:BasM):Prop where
 cl:g.c.l.length=p.c.l.length
 rl:g.r.l.length=p.r.l.length
 c:∀j,j<p.c.l.length->g.c.l.getD j 0=if ∃m,m<cdN p b/\cdP p q b m/\cdK p b m=j then 2 else stC (p.c.l.getD j default) b.c.l j
 r:∀i,i<p.r.l.length->g.r.l.getD i 0=if ∃m,m<cdN p b/\cdP p q b m/\cdK p b m=p.c.l.length+i then 2 else dfR (p.r.l.getD i default).s
section gr
variable {p:ProgM} {q:PrQ} {b g:BasM}
theorem aOu {k:Nat} (hk:k<(wnL p b).length):cdK p b k=atN (wnL p b) k/\cdK p b k<p.c.l.length:=by
 have h1:cdK p b k=atN (wnL p b) k:=if_pos hk
 have:=(zH hk).2.1
 exact⟨h1,by rw[h1];omega⟩
theorem aOv {i:Nat}:cdK p b ((wnL p b).length+i)=p.c.l.length+atN (lfO b.r p.r.l.length) i:=by
 unfold cdK
 rw[if_neg oM,gV]
theorem aHs {i:Nat} (hi:i<p.r.l.length):atN (orL p b) (p.r.l.length-1-i)=atN (lfO b.r p.r.l.length) i:=by
 have hl:=vS (st:=b.r) (n:=p.r.l.length)
 have:=bQi (L:=lfO b.r p.r.l.length) (M:=[]) (k:=p.r.l.length-1-i) oM
 rw[eH,hl,show p.r.l.length-1-(p.r.l.length-1-i)=i by omega] at this
 exact this
theorem bSy {i:Nat} (hi:i<p.r.l.length):atN (lfO b.r p.r.l.length) i<p.r.l.length:=by
 rw[<-aHs hi]
 exact(zG (by rw[sZ];omega)).2
theorem aLq {k l:Nat} (hk:k<p.r.l.length) (hl:l<p.r.l.length) (h:atN (orL p b) k=atN (orL p b) l):k=l:=by
 refine aT λhn=>?_
 have h1:p.r.l.length<=p.r.l.length-1:=aLj (n:=p.r.l.length) (m:=p.r.l.length-1) (e:=λi=>i) (f:=λj=>atN (orL p b) (skp l j)) (λi j _ _ e=>e) λi hi=>by
  obtain⟨m,hm,e⟩:=aLk (p:=p) (b:=b) hi
  rw[sZ] at hm
  have key:∀m,m<p.r.l.length->m≠l->atN (orL p b) m=i->∃j,j<p.r.l.length-1/\atN (orL p b) (skp l j)=i:=λm hm hml e=>by
   by_cases h5:m<l
   ·exact⟨m,by omega,by unfold skp;rw[if_pos h5];exact e⟩
   exact⟨m-1,by omega,by unfold skp;rw[if_neg oM,show m-1+1=m by omega];exact e⟩
  by_cases e2:m=l
  ·exact key k hk hn (by rw[h,<-e2];exact e)
  exact key m hm e2 e
 omega
theorem cEb {i l:Nat} (hi:i<p.r.l.length) (hl:l<p.r.l.length):cdQ p q b i ((wnL p b).length+l)=if i=atN (lfO b.r p.r.l.length) l then 1 else 0:=by
 show vcN p q (cdK p b _) i=_
 rw[aOv]
 unfold vcN
 rw[if_neg oM]
 by_cases e:i=atN (lfO b.r p.r.l.length) l
 ·rw[if_pos e,if_pos oM]
 rw[if_neg e,if_neg oM]
theorem aDs {l:Nat} (hl:l<p.r.l.length) (x:Nat->Rat):cG (λi=>cdQ p q b i ((wnL p b).length+l)*x i) p.r.l.length=x (atN (lfO b.r p.r.l.length) l):=by
 rw[bK (g:=λi=>x i*if i=atN (lfO b.r p.r.l.length) l then 1 else 0) λi hi=>by rw[cEb hi hl];grind]
 exact aYt (bSy hl)
theorem aLr {i k:Nat} (hk:k<(wnL p b).length):cdQ p q b i k=wnQ p q b i k:=by
 obtain⟨h1,h2⟩:=aOu (p:=p) (b:=b) hk
 show vcN p q (cdK p b k) i=_
 unfold vcN
 rw[if_pos h2,h1]
theorem bJx {k:Nat} (hk:k<(wnL p b).length):cdP p q b k↔¬Dep (wnQ p q b) p.r.l.length (wnL p b).length k:=by
 refine not_congr ((Dep.cut' (by show k<cdN p b;unfold cdN;omega) hk).trans ⟨Dep.cg λi l _ hl=>aLr hl,Dep.cg λi l _ hl=>(aLr hl).symm⟩)
theorem cEc {i:Nat} (hi:i<p.r.l.length):cdP p q b ((wnL p b).length+i)↔Dep (ltQ p q b) (iH p q b).length (orL p b).length (p.r.l.length-1-i):=by
 have hsum:∀(f:Nat->Rat),cG (λk=>f (atN (orL p b) k)) p.r.l.length=cG f p.r.l.length:=λf=>aHj (λj hj=>(zG (by rw[sZ];exact hj)).2) λk l hk hl=>aLq hk hl
 rw[sZ]
 constructor
 ·intro hd
  obtain⟨x,h1,h2⟩:=cEa (by show _<cdN p b;unfold cdN;omega) hd
  rw[aDs hi] at h2
  refine⟨λk=>if k<p.r.l.length then x (atN (orL p b) k) else 0,?_,λk hk=>?_,λl hl=>?_⟩
  ·show(if _<_ then _ else _)=_
   rw[if_pos oM,aHs hi];exact h2
  ·show(if _<_ then _ else _)=_
   split
   ·next h3=>
    have h4:=h1 ((wnL p b).length+(p.r.l.length-1-k)) oM
    rw[aDs oM,<-aHs oM,show p.r.l.length-1-(p.r.l.length-1-k)=k by omega] at h4
    exact h4
   rfl
  have h3:=(aAx hl).2
  have h4:=h1 (atN (iH p q b) l) oM
  have h5:=hsum λi=>cdQ p q b i (atN (iH p q b) l)*x i
  rw[h4] at h5
  refine Eq.trans (bK λk hk=>?_) h5
  show wnQ p q b (atN (orL p b) k) (atN (iH p q b) l)*(if k<p.r.l.length then x (atN (orL p b) k) else 0)=cdQ p q b (atN (orL p b) k) (atN (iH p q b) l)*x (atN (orL p b) k)
  rw[if_pos hk,aLr h3]
 rintro⟨z,z1,z2,z3⟩
 have hsp:∀k,k<p.r.l.length->spr p.r.l.length (atN (orL p b)) z (atN (orL p b) k)=z k:=λk hk=>aLd hk λl hl e=>aLq hl hk e
 have hsp2:∀k,k<p.r.l.length->spr p.r.l.length (atN (orL p b)) z (atN (lfO b.r p.r.l.length) k)=z (p.r.l.length-1-k):=λk hk=>by rw[<-aHs hk];exact hsp _ oM
 have hv:∀l,l<(wnL p b).length->cG (λi=>wnQ p q b i l*spr p.r.l.length (atN (orL p b)) z i) p.r.l.length=0:=(yJ (p:=p) (q:=q) (b:=b)).span' (aI _) λk hk=>by
  rw[aAu λj hj=>(zG (by rw[sZ];exact hj)).2]
  exact z3 k hk
 refine bJw (x:=spr p.r.l.length (atN (orL p b)) z) (by show _<cdN p b;unfold cdN;omega) (λl hl=>?_) ?_
 ·by_cases hlw:l<(wnL p b).length
  ·rw[<-hv l hlw]
   exact bK λi _=>by rw[aLr hlw]
  obtain⟨l',rfl⟩:∃l',l=(wnL p b).length+l':=⟨l-(wnL p b).length,by omega⟩
  rw[aDs oM,hsp2 _ oM]
  exact z2 _ oM
 rw[aDs hi,hsp2 i hi,z1];decide
theorem GrR.rp (h:GrR p q b g):RpR p q b g:=by
 classical
 have hcol:∀j,j<p.c.l.length->((∃m,m<cdN p b/\cdP p q b m/\cdK p b m=j)↔∃k,k<(iH p q b).length/\atN (wnL p b) (atN (iH p q b) k)=j):=λj hj=>by
  constructor
  ·rintro⟨m,h1,h2,h3⟩
   by_cases hm:m<(wnL p b).length
   ·obtain⟨k,hk,e⟩:=(yJ (p:=p) (q:=q) (b:=b)).all m hm ((bJx hm).1 h2)
    exact⟨k,hk,by rw[e,<-(aOu hm).1];exact h3⟩
   obtain⟨l',rfl⟩:∃l',m=(wnL p b).length+l':=⟨m-(wnL p b).length,by omega⟩
   rw[aOv] at h3
   omega
  rintro⟨k,hk,e⟩
  have h1:=(aAx hk).2
  exact⟨atN (iH p q b) k,by show _<_+_;omega,(bJx h1).2 ((yJ (p:=p) (q:=q) (b:=b)).mem k hk),by rw[(aOu h1).1];exact e⟩
 have hrow:∀i,i<p.r.l.length->((∃m,m<cdN p b/\cdP p q b m/\cdK p b m=p.c.l.length+i)↔∀k,k<(ltL p q b).length->atN (ltL p q b) k≠i):=λi hi=>by
  obtain⟨a,ha,hae⟩:=aLk (p:=p) (b:=b) hi
  have ha':a<p.r.l.length:=by rw[sZ] at ha;exact ha
  have hal:atN (lfO b.r p.r.l.length) (p.r.l.length-1-a)=i:=by
   rw[<-aHs oM,show p.r.l.length-1-(p.r.l.length-1-a)=a by omega];exact hae
  have hra:=cEc (p:=p) (q:=q) (b:=b) (i:=p.r.l.length-1-a) oM
  rw[show p.r.l.length-1-(p.r.l.length-1-a)=a by omega] at hra
  constructor
  ·rintro⟨m,h1,h2,h3⟩ k hk e
   have hmw:¬m<(wnL p b).length:=λhm=>by
    have:=(aOu (p:=p) (b:=b) hm).2
    omega
   obtain⟨l',rfl⟩:∃l',m=(wnL p b).length+l':=⟨m-(wnL p b).length,by omega⟩
   rw[aOv] at h3
   have hl':l'<p.r.l.length:=by replace h1:_<_+_:=h1;omega
   have e1:l'=p.r.l.length-1-a:=by
    have:=aLq (p:=p) (b:=b) (k:=p.r.l.length-1-l') (l:=a) oM ha' (by rw[aHs hl',hae];omega)
    omega
   rw[e1] at h2
   have hd:=hra.1 h2
   rw[bJp hk] at e
   have hk2:k<(ltI p q b).length:=by rw[<-lt_len];exact hk
   have h5:=aLm.lt k hk2
   rw[sZ] at h5
   have e2:=aLq (p:=p) (b:=b) h5 ha' (e.trans hae.symm)
   have h6:=aLm.mem k hk2
   rw[e2] at h6
   exact h6 hd
  intro hn
  refine⟨(wnL p b).length+(p.r.l.length-1-a),by show _<_+_;omega,hra.2 (aT λhd=>?_),by rw[aOv,hal]⟩
  obtain⟨k,hk,e⟩:=(aLm (p:=p) (q:=q) (b:=b)).all a ha hd
  have hk2:k<(ltL p q b).length:=by rw[lt_len];exact hk
  exact hn k hk2 (by rw[bJp hk2,e];exact hae)
 refine⟨h.cl,h.rl,λk hk=>?_,λj hj hn=>?_,λk hk=>?_,λi hi hn=>?_⟩
 ·have h1:=bSw hk
  rw[h.c _ h1.1]
  exact if_pos ((hcol _ h1.1).2 ⟨k,hk,rfl⟩)
 ·rw[h.c j hj]
  exact if_neg λhh=>by
   obtain⟨k,hk,e⟩:=(hcol j hj).1 hh
   exact hn k hk e
 ·have h1:=(aSw hk).2
  rw[h.r _ h1]
  exact if_neg λhh=>(hrow _ h1).1 hh k hk rfl
 rw[h.r i hi]
 exact if_pos ((hrow i hi).2 hn)
end gr
theorem bJy {P P':Prop} [Decidable P] [Decidable P'] (h:P↔P'):LeC (.b P inferInstance) (.b P' inferInstance):=λρ n w x hx=>by
 cases hx
 rw[show decide P=decide P' from decide_eq_decide.2 h]
 exact Rc.b _ _
theorem aLs {l:List Int} {j:Nat}:stN l j=2↔l.getD j 0=2:=by
 unfold stN
 by_cases h:j<l.length
 ·rw[if_pos h]
 rw[if_neg h,aH,pH oM]
 exact⟨λh=>by omega,λh=>by change (0:Int)=2 at h;omega⟩
theorem bJz {P:Nat->Prop} {n m:Nat} (h:∀j,P j->j<m):gD P n=gD P (min n m):=by
 by_cases hn:n<=m
 ·rw[eW hn]
 rw[Nat.min_eq_right oM]
 have:∀k,gD P (m+k)=gD P m:=λk=>by
  induction k with
  |zero=>rfl
  |succ k ih=>rw[show m+(k+1)=(m+k)+1 by omega,mR λhh=>by have:=h _ hh;omega,ih]
 have h2:=this (n-m)
 rw[show m+(n-m)=n by omega] at h2
 exact h2
noncomputable def cdA (p:ProgM) (b:BasM):Nat->List Int
 |0=>gD (λj=>stN b.c.l j=2) p.c.l.length
 |t+1=>cdA p b t++(gD (λi=>stN b.r.l i=2↔t=0) p.r.l.length).map λz=>(p.c.l.length:Int)+z
noncomputable def cdI (p:ProgM) (b:BasM) (t i:Nat):List Int:=cdA p b t++(gD (λi=>stN b.r.l i=2↔t=0) i).map λz=>(p.c.l.length:Int)+z
theorem aXc (p:ProgM) (b:BasM) (t:Nat):cdI p b t p.r.l.length=cdA p b (t+1):=rfl
theorem aOw {p:ProgM} {b:BasM} {t:Nat}:cdI p b t 0=cdA p b t:=by
 unfold cdI
 exact eH _
theorem bQo {p:ProgM} {b:BasM} {t i:Nat} (h:stN b.r.l i=2↔t=0):cdI p b t (i+1)=cdI p b t i++[(p.c.l.length:Int)+(i:Nat)]:=by
 unfold cdI
 rw[jM (P:=λi=>stN b.r.l i=2↔t=0) h,bI,cZ];rfl
theorem cEd {p:ProgM} {b:BasM} {t i:Nat} (h:¬(stN b.r.l i=2↔t=0)):cdI p b t (i+1)=cdI p b t i:=by
 unfold cdI
 rw[mR (P:=λi=>stN b.r.l i=2↔t=0) h]
theorem aLt {p:ProgM} {b:BasM} {i:Nat}:∀t,(cdI p b t i).length<=p.c.l.length+t*p.r.l.length+i
 |0=>by
  unfold cdI cdA
  rw[aF,aO]
  have h1:=iA (P:=λj=>stN b.c.l j=2) (k:=p.c.l.length)
  have h2:=iA (P:=λi=>stN b.r.l i=2↔0=0) (k:=i)
  omega
 |t+1=>by
  unfold cdI
  rw[aF,aO]
  have h1:=aLt (p:=p) (b:=b) (i:=p.r.l.length) t
  rw[aXc] at h1
  have h2:=iA (P:=λi=>stN b.r.l i=2↔t+1=0) (k:=i)
  rw[dI,iV]
  omega
noncomputable abbrev bsL (p:ProgM) (b:BasM) (j:Nat):List Int:=(List.range j).map λj=>stC (p.c.l.getD j default) b.c.l j
theorem cOq {p:ProgM} {b:BasM} {j:Nat} {v:Int} (hv:v=stC (p.c.l.getD j default) b.c.l j):bsL p b j++[v]=bsL p b (j+1):=by
 unfold bsL
 rw[gQ,bI,hv];rfl
abbrev drL (p:ProgM) (j:Nat):List Int:=(List.range j).map λj=>dfR (p.r.l.getD j default).s
theorem bSz {p:ProgM} {j:Nat}:drL p j++[dfR (p.r.l.getD j default).s]=drL p (j+1):=by
 unfold drL
 rw[gQ,bI];rfl
theorem aCh (L:List Int):flatR L.length (λj=>[iC (L.getD j 0)])=L.map iC:=by
 have h:∀n,n<=L.length->flatR n (λj=>[iC (L.getD j 0)])=(L.take n).map iC:=λn=>by
  induction n with
  |zero=>exact λ_=>rfl
  |succ n ih=>
   intro hn
   rw[gF,ih oM,List.take_add_one,bI]
   congr 1
   rw[aH,aG oM]
   rfl
 rw[h _ (aI _),cU]
theorem aXd {P Q:Prop} [Decidable P] [Decidable Q] (h:P↔Q) (a b:Int):(if P then a else b)=if Q then a else b:=by
 by_cases hp:P
 ·rw[if_pos hp,if_pos (h.1 hp)]
 rw[if_neg hp,if_neg λhq=>hp (h.2 hq)]
section cd
variable {p:ProgM} {q:PrQ} {b:BasM}
theorem bKa:cdA p b 2=wnL p b++(lfO b.r p.r.l.length).map λz=>(p.c.l.length:Int)+z:=by
 have e0:gD (λj=>stN b.c.l j=2) p.c.l.length=wnL p b:=by
  rw[show gD (λj=>stN b.c.l j=2) p.c.l.length=gD (λj=>b.c.l.getD j 0=2) p.c.l.length from rX _ λj _=>aLs]
  refine bJz λj hj=>aT λhn=>?_
  rw[aH,pH oM] at hj
  change (0:Int)=2 at hj
  omega
 have hbr:∀i,stN b.r.l i=2↔qF b.r i:=λi=>by
  rw[aLs]
  refine⟨λhi=>⟨aT λhn=>?_,hi⟩,λhi=>hi.2⟩
  rw[aH,pH oM] at hi
  change (0:Int)=2 at hi
  omega
 have e1:gD (λi=>stN b.r.l i=2↔0=0) p.r.l.length=gD (qF b.r) p.r.l.length:=rX _ λi _=>by rw[hbr];simp
 have e2:gD (λi=>stN b.r.l i=2↔1=0) p.r.l.length=gD (λi=>¬qF b.r i) p.r.l.length:=rX _ λi _=>by rw[hbr];simp
 show(gD _ _++List.map _ (gD (λi=>stN b.r.l i=2↔0=0) _))++List.map _ (gD (λi=>stN b.r.l i=2↔1=0) _)=_
 rw[e0,e1,e2]
 unfold lfO
 rw[bI,cZ]
theorem aLu:(cdA p b 2).length=cdN p b:=by
 rw[bKa,aF,aO,vS]
theorem cEe {m:Nat} (hm:m<cdN p b):(cdA p b 2).getD m 0=(cdK p b m:Nat):=by
 rw[bKa]
 unfold cdK
 by_cases h:m<(wnL p b).length
 ·rw[if_pos h,aH,bD h,<-aH]
  exact(zH h).1
 have hi:m-(wnL p b).length<(lfO b.r p.r.l.length).length:=by rw[vS];unfold cdN at hm;omega
 have h2:=(cDg (n:=p.r.l.length) (λz hz=>aWx hz) hi).1
 rw[if_neg h,aH,cA oM,dV]
 rw[aH] at h2
 cases e:(lfO b.r p.r.l.length)[m-(wnL p b).length]? with
 |none=>rw[List.getElem?_eq_none_iff] at e;omega
 |some z=>
  rw[e] at h2
  change z=_ at h2
  show(p.c.l.length:Int)+z=_
  rw[h2];omega
theorem aSz {m:Nat} (hm:m<cdN p b):cdK p b m<p.c.l.length+p.r.l.length:=by
 by_cases h:m<(wnL p b).length
 ·have:=(aOu h).2;omega
 obtain⟨i,rfl⟩:∃i,m=(wnL p b).length+i:=⟨m-(wnL p b).length,by omega⟩
 rw[aOv]
 have:=bSy (p:=p) (b:=b) (i:=i) (by unfold cdN at hm;omega)
 omega
open Classical in
noncomputable def gcN (p:ProgM) (q:PrQ) (b:BasM) (m j:Nat):Int:=if ∃m',m'<m/\cdP p q b m'/\cdK p b m'=j then 2 else stC (p.c.l.getD j default) b.c.l j
open Classical in
noncomputable def grN (p:ProgM) (q:PrQ) (b:BasM) (m i:Nat):Int:=if ∃m',m'<m/\cdP p q b m'/\cdK p b m'=p.c.l.length+i then 2 else dfR (p.r.l.getD i default).s
theorem bTa {m k:Nat} (h:¬(cdP p q b m/\cdK p b m=k)):(∃m',m'<m+1/\cdP p q b m'/\cdK p b m'=k)↔∃m',m'<m/\cdP p q b m'/\cdK p b m'=k:=by
 constructor
 ·rintro⟨m',h1,h2,h3⟩
  refine⟨m',?_,h2,h3⟩
  rcases cM (cV h1) with h4|h4
  ·exact h4
  rw[h4] at h2 h3;exact absurd ⟨h2,h3⟩ h
 rintro⟨m',h1,h2⟩
 exact⟨m',by omega,h2⟩
theorem aTa {m j:Nat} (h:¬(cdP p q b m/\cdK p b m=j)):gcN p q b (m+1) j=gcN p q b m j:=by
 unfold gcN
 classical exact aXd (bTa h) _ _
theorem aTb {m i:Nat} (h:¬(cdP p q b m/\cdK p b m=p.c.l.length+i)):grN p q b (m+1) i=grN p q b m i:=by
 unfold grN
 classical exact aXd (bTa h) _ _
theorem bQp {m j:Nat} (h:cdP p q b m):(if j=cdK p b m then 2 else gcN p q b m j)=gcN p q b (m+1) j:=by
 by_cases e:j=cdK p b m
 ·rw[if_pos e]
  exact(if_pos ⟨m,bE m,h,e.symm⟩).symm
 rw[if_neg e,aTa λhh=>e hh.2.symm]
theorem bQq {m i i0:Nat} (h:cdP p q b m) (hk:cdK p b m=p.c.l.length+i0):(if i=i0 then 2 else grN p q b m i)=grN p q b (m+1) i:=by
 by_cases e:i=i0
 ·rw[if_pos e]
  exact(if_pos ⟨m,bE m,h,by rw[hk,e]⟩).symm
 rw[if_neg e,aTb λhh=>e oM]
noncomputable def chN (p:ProgM) (q:PrQ) (b:BasM) (m:Nat):List Int:=(jU (cdQ p q b) p.r.l.length (cdN p b) m).map λz=>((cdK p b z.toNat:Nat):Int)
theorem bQr {m:Nat} (h:cdP p q b m):chN p q b (m+1)=chN p q b m++[((cdK p b m:Nat):Int)]:=by
 unfold chN
 rw[aOo h,bI];rfl
theorem cEf {m:Nat} (h:¬cdP p q b m):chN p q b (m+1)=chN p q b m:=by
 unfold chN
 rw[aWk (dW.1 h)]
theorem aXe {m:Nat}:(chN p q b m).length<=m:=by
 unfold chN
 rw[aO];exact aFv
theorem aLv {m:Nat}:(chN p q b m).length=(jU (cdQ p q b) p.r.l.length (cdN p b) m).length:=by
 unfold chN
 rw[aO]
theorem cEg {m k:Nat} {L:List Int} (hm:m<cdN p b) (hr:p.r.l.length<=20) (hc:p.c.l.length<=20) (hL:L=chN p q b m) (hk:k<(L++[((cdK p b m:Nat):Int)]).length):(L++[((cdK p b m:Nat):Int)]).getD k 0=(cdK p b (if k<(jU (cdQ p q b) p.r.l.length (cdN p b) m).length then atN (jU (cdQ p q b) p.r.l.length (cdN p b) m) k else m):Nat)/\cdK p b (if k<(jU (cdQ p q b) p.r.l.length (cdN p b) m).length then atN (jU (cdQ p q b) p.r.l.length (cdN p b) m) k else m)<=16384:=by
 have he:=(gJ (P:=λj=>¬Dep (cdQ p q b) p.r.l.length (cdN p b) j) m).1
 subst hL
 by_cases h1:k<(jU (cdQ p q b) p.r.l.length (cdN p b) m).length
 ·rw[if_pos h1]
  have h2:=aSz (p:=p) (b:=b) (m:=atN (jU (cdQ p q b) p.r.l.length (cdN p b) m) k) (by have h5:atN (jU (cdQ p q b) p.r.l.length (cdN p b) m) k<m:=he.lt k h1;omega)
  refine⟨?_,by omega⟩
  rw[aH,bD (by rw[aLv];exact h1)]
  unfold chN atN
  simp[aH,h1]
 rw[if_neg h1]
 have h2:=aSz hm
 refine⟨?_,by omega⟩
 rw[aF,aLv] at hk
 replace hk:k<_+1:=hk
 obtain rfl:k=(chN p q b m).length:=by rw[aLv];omega
 rw[aH,cA (aI _),iZ]
 rfl
end cd
abbrev rrO:List CV:=[.v (.slice none 0 0),.v (.slice none 0 0)]
abbrev aYx (p:ProgM) (b:BasM) (W:List Int):BL:=[(42,0,p.C),(45,0,b.C),(45,0,rrO),(3,1,W.map iC)]
theorem aLw {p:ProgM} {b:BasM} {W:List Int}:scB 4 (aYx p b W):=aB rfl (aB rfl (aB rfl (aB (bU (bR _)) aZ)))
abbrev bKb (p:ProgM):List (Nat×DV):=[(2,.c (.p 0 0)),(3,.c (.p 1 0)),(4,.c (.p 2 0)),(5,.c (iC (p.c.l.length:Nat)))]
abbrev bQs (p:ProgM) (n j:Nat):List (Nat×DV):=(7,.c (iC j))::(6,.c (.s 3 n))::bKb p
abbrev rrZ:List CV:=dR 2 λj=> .b (j=0) inferInstance
abbrev aGk (p:ProgM) (b:BasM) (W:List Int):BL:=aYx p b W++[(4,1,rrZ)]
theorem aAy {p:ProgM} {b:BasM} {W:List Int}:scB 5 (aGk p b W):=aB rfl (aB rfl (aB rfl (aB (bU (bR _)) (aB rfl aZ))))
abbrev bQt (p:ProgM) (n t:Nat):List (Nat×DV):=(38,.c (iC t))::(36,.c (.s 4 2))::(37,.c (iC 2))::(6,.c (.s 3 n))::bKb p
abbrev bQu (p:ProgM) (n t i:Nat):List (Nat×DV):=(10,.c (iC i))::(9,.c (.b (t=0) inferInstance))::bQt p n t
abbrev aCw (p:ProgM) (b:BasM) (W C R:List Int):BL:=aGk p b W++[(45,0,[.s 6 C.length,.s 7 R.length]),(3,1,C.map iC),(3,1,R.map iC)]
theorem yK {p:ProgM} {b:BasM} {W C R:List Int}:scB 8 (aCw p b W C R):=aB rfl (aB rfl (aB rfl (aB (bU (bR _)) (aB rfl (aB rfl (aB (bU (bR _)) (aB (bU (bR _)) aZ)))))))
abbrev aLx (p:ProgM) (b:BasM) (W:List Int) (F G:Nat->Int):BL:=aGk p b W++[(45,0,[.s 6 p.c.l.length,.s 7 p.r.l.length]),(3,1,dR p.c.l.length λj=>iC (F j)),(3,1,dR p.r.l.length λj=>iC (G j))]
theorem aDt {p:ProgM} {b:BasM} {W:List Int} {F G:Nat->Int}:scB 8 (aLx p b W F G):=aB rfl (aB rfl (aB rfl (aB (bU (bR _)) (aB rfl (aB rfl (aB (bU (aY λ_ _=>rfl)) (aB (bU (aY λ_ _=>rfl)) aZ)))))))
theorem bQv {p:ProgM} {b:BasM} {W:List Int} {F G:Nat->Int}:aLx p b W F G=aCw p b W ((List.range p.c.l.length).map F) ((List.range p.r.l.length).map G):=by
 unfold aLx aCw
 rw[uK,uK,aO,aO,fI,fI]
abbrev bKc (p:ProgM) (n j:Nat):List (Nat×DV):=(12,.c (iC j))::(11,.c (.p 5 0))::(6,.c (.s 3 n))::bKb p
abbrev cEh (p:ProgM) (n j:Nat):List (Nat×DV):=(14,.c (iC j))::(11,.c (.p 5 0))::(6,.c (.s 3 n))::bKb p
abbrev bKd (p:ProgM) (n:Nat) (ch:Sl Int) (m:Nat):List (Nat×DV):=(117,.c (iC m))::(15,.c (cI ch))::(115,.c (.s 3 n))::(116,.c (iC n))::(11,.c (.p 5 0))::bKb p
abbrev bQw:FuncId:=22
theorem cVj:Ent Tryz.prog bQw:=aU func22 rfl kR
theorem cVk:Tryz.prog.funcs[bQw]? =some Tryz.f22:=func22
theorem cOr (p:ProgM) (b:BasM) {q:PrQ} {B:Nat} (h:PrV p q B) (hr:p.r.l.length<=20) (hc:p.c.l.length<=20) (hB:bd B (p.c.l.length+p.r.l.length)<=4398046511104):Ctr Tryz.prog bQw [] [.a p.C,.a b.C] [] (λg:BasM=>⟨.a g.C,[],RpR p q b g⟩):=by
 classical
 refine aX gT cVj cVk rfl rfl rfl bL aS (aA gT mxd (aIy 6 3 1 rfl bL (aA gT mxd ?_)))
 refine cE (λ_=>true) (λj:Nat=>bQs p (gD (λj=>stN b.c.l j=2) j).length j) (λj=>aYx p b (gD (λj=>stN b.c.l j=2) j)) (λ_=>[]) (λj=>j<=p.c.l.length) (λj=>p.c.l.length-j) λhM=>⟨bF hM (chg:=λj:Nat=>bQs p (gD (λj=>stN b.c.l j=2) j).length j) (bls:=λj=>aYx p b (gD (λj=>stN b.c.l j=2) j)) (fls:=λ_=>[]) 0 (aC _) rfl ⟨rfl,rfl,rfl,rfl⟩ trivial ⟨rfl,rfl,rfl,rfl,rfl,rfl⟩ bL aLw rfl,λj hj=>aA gT mxd ⟨λh1=>aA gT mxd ?_,λh1=>aA gT mxd ?_⟩⟩
 all_goals replace hj:j<=p.c.l.length:=hj
 ·replace h1:(j:Int)<(p.c.l.length:Nat):=h1
  refine⟨[],bJv b.c j,rfl,rfl,rfl,λ_ _=>⟨λh2=>aA gT mxd ?_,λh2=>aA gT mxd ?_⟩⟩
  ·replace h2:stN b.c.l j=2:=h2
   have hyes:=jM (P:=λj=>stN b.c.l j=2) (k:=j) h2
   refine⟨apI (x:=gD (λj=>stN b.c.l j=2) j) (by have:=iA (P:=λj=>stN b.c.l j=2) (k:=j);omega),(λc hc=>by rw[aE.1 hc];rfl),(j+1:Nat),wi,bF hM (chg:=λj:Nat=>bQs p (gD (λj=>stN b.c.l j=2) j).length j) (bls:=λj=>aYx p b (gD (λj=>stN b.c.l j=2) j)) (fls:=λ_=>[]) (j+1) ⟨by show j+1<=_;omega,show p.c.l.length-(j+1)<p.c.l.length-j by omega⟩ rfl ⟨rfl,rfl,rfl,?_⟩ trivial ⟨rfl,?_,rfl,rfl,rfl,rfl⟩ bL aLw rfl⟩
   ·show(_,_,(gD (λj=>stN b.c.l j=2) j).map iC++[iC (j:Nat)])=(_,_,(gD (λj=>stN b.c.l j=2) (j+1)).map iC)
    rw[hyes,bI];rfl
   show(gD (λj=>stN b.c.l j=2) j).length+1=(gD (λj=>stN b.c.l j=2) (j+1)).length
   rw[hyes,aF];rfl
  replace h2:¬stN b.c.l j=2:=h2
  have hno:=mR (P:=λj=>stN b.c.l j=2) (k:=j) h2
  refine⟨(j+1:Nat),wi,bF hM (chg:=λj:Nat=>bQs p (gD (λj=>stN b.c.l j=2) j).length j) (bls:=λj=>aYx p b (gD (λj=>stN b.c.l j=2) j)) (fls:=λ_=>[]) (j+1) ⟨by show j+1<=_;omega,show p.c.l.length-(j+1)<p.c.l.length-j by omega⟩ rfl ⟨rfl,rfl,rfl,?_⟩ trivial ⟨rfl,?_,rfl,rfl,rfl,rfl⟩ bL aLw rfl⟩
  ·show(_,_,(gD (λj=>stN b.c.l j=2) j).map iC)=(_,_,(gD (λj=>stN b.c.l j=2) (j+1)).map iC)
   rw[hno]
  show(gD (λj=>stN b.c.l j=2) j).length=(gD (λj=>stN b.c.l j=2) (j+1)).length
  rw[hno]
 replace h1:¬(j:Int)<(p.c.l.length:Nat):=h1
 obtain rfl:j=p.c.l.length:=by omega
 refine aA gT mxd ?_
 show Sd _ _ _ _ _ _
 refine gG tSd 4 rrZ rfl rfl (λk c c' h1 h2=>?_) ?_
 ·match k,h1,h2 with
  |0,h1,h2=>
   obtain rfl:=qT h1
   obtain rfl:=qT (show some (CV.b ((0:Nat)=0) inferInstance)=some c' from h2)
   exact bJy (P:=true=true) (P':=(0:Nat)=0) (by simp)
  |1,h1,h2=>
   obtain rfl:=qT h1
   obtain rfl:=qT (show some (CV.b ((1:Nat)=0) inferInstance)=some c' from h2)
   exact bJy (P:=false=true) (P':=(1:Nat)=0) (by simp)
  |k+2,h1,h2=>cases h1
 refine cE (λ_=>true) (λt:Nat=>bQt p (cdA p b t).length t) (λt=>aGk p b (cdA p b t)) (λ_=>[]) (λt=>t<=2) (λt=>2-t) λhM=>⟨bF hM (chg:=λt:Nat=>bQt p (cdA p b t).length t) (bls:=λt=>aGk p b (cdA p b t)) (fls:=λ_=>[]) 0 (aC _) rfl ⟨rfl,rfl,rfl,rfl,rfl⟩ trivial ⟨rfl,rfl,rfl,rfl,rfl,rfl,rfl,rfl⟩ bL aAy rfl,λt ht=>aA gT mxd ⟨λh2=>aA gT mxd ?_,λh2=>aA gT mxd ?_⟩⟩
 all_goals replace ht:t<=2:=ht
 ·replace h2:(t:Int)<2:=h2
  have ht2:t<2:=by omega
  refine⟨t,⟨rfl,ht2,cS ht2⟩,_,eG ht2,?_⟩
  refine cE (λ_=>true) (λi:Nat=>bQu p (cdI p b t i).length t i) (λi=>aGk p b (cdI p b t i)) (λ_=>[]) (λi=>i<=p.r.l.length) (λi=>p.r.l.length-i) λhM2=>⟨bF hM2 (chg:=λi:Nat=>bQu p (cdI p b t i).length t i) (bls:=λi=>aGk p b (cdI p b t i)) (fls:=λ_=>[]) 0 (aC _) rfl ⟨rfl,rfl,rfl,?_,rfl⟩ trivial ⟨rfl,mD,rfl,rfl,rfl,?_,rfl,rfl,rfl,rfl⟩ bL aAy rfl,λi hi=>aA gT mxd ⟨λh3=>aA gT mxd ?_,λh3=>aA gT mxd ?_⟩⟩
  ·show((3,1,(cdA p b t).map iC):TypeId×Nat×List CV)=(3,1,(cdI p b t 0).map iC)
   rw[aOw]
  ·show(cdA p b t).length=(cdI p b t 0).length
   rw[aOw]
  all_goals replace hi:i<=p.r.l.length:=hi
  ·replace h3:(i:Int)<(p.r.l.length:Nat):=h3
   have hlen:=aLt (p:=p) (b:=b) (i:=i) t
   have hlen2:t*p.r.l.length<=1*p.r.l.length:=aV _ oM
   refine⟨[],bJv b.r i,rfl,rfl,rfl,λ_ _=>⟨λh4=>aA gT mxd ?_,λh4=>aA gT mxd ?_⟩⟩
   ·replace h4:stN b.r.l i=2↔t=0:=h4
    have hyes:=bQo (p:=p) h4
    refine⟨(p.c.l.length:Int)+(i:Nat),wi (h:=⟨rfl,by omega,by omega⟩),apI (x:=cdI p b t i) oM,(λc hc=>dB (kE (l:=rrZ) rfl c hc)),(λc hc=>by rw[aE.1 hc];rfl),(i+1:Nat),wi,bF hM2 (chg:=λi:Nat=>bQu p (cdI p b t i).length t i) (bls:=λi=>aGk p b (cdI p b t i)) (fls:=λ_=>[]) (i+1) ⟨by show i+1<=_;omega,show p.r.l.length-(i+1)<p.r.l.length-i by omega⟩ rfl ⟨rfl,rfl,rfl,?_,rfl⟩ trivial ⟨rfl,mD,rfl,rfl,rfl,?_,rfl,rfl,rfl,rfl⟩ bL aAy rfl⟩
    ·show(_,_,(cdI p b t i).map iC++[iC _])=(_,_,(cdI p b t (i+1)).map iC)
     rw[hyes,bI];rfl
    show(cdI p b t i).length+1=(cdI p b t (i+1)).length
    rw[hyes,aF];rfl
   replace h4:¬(stN b.r.l i=2↔t=0):=h4
   have hno:=cEd (p:=p) h4
   refine⟨(i+1:Nat),wi,bF hM2 (chg:=λi:Nat=>bQu p (cdI p b t i).length t i) (bls:=λi=>aGk p b (cdI p b t i)) (fls:=λ_=>[]) (i+1) ⟨by show i+1<=_;omega,show p.r.l.length-(i+1)<p.r.l.length-i by omega⟩ rfl ⟨rfl,rfl,rfl,?_,rfl⟩ trivial ⟨rfl,mD,rfl,rfl,rfl,?_,rfl,rfl,rfl,rfl⟩ bL aAy rfl⟩
   ·show(_,_,(cdI p b t i).map iC)=(_,_,(cdI p b t (i+1)).map iC)
    rw[hno]
   show(cdI p b t i).length=(cdI p b t (i+1)).length
   rw[hno]
  replace h3:¬(i:Int)<(p.r.l.length:Nat):=h3
  obtain rfl:i=p.r.l.length:=by omega
  exact⟨(t+1:Nat),wi,bF hM (chg:=λt:Nat=>bQt p (cdA p b t).length t) (bls:=λt=>aGk p b (cdA p b t)) (fls:=λ_=>[]) (t+1) ⟨by show t+1<=2;omega,show 2-(t+1)<2-t by omega⟩ rfl ⟨rfl,rfl,rfl,rfl,rfl⟩ trivial ⟨rfl,rfl,rfl,rfl,rfl,rfl,rfl,rfl⟩ bL aAy rfl⟩
 replace h2:¬(t:Int)<2:=h2
 obtain rfl:t=2:=by omega
 have hNl:(cdA p b 2).length<=60:=by
  have:=aLt (p:=p) (b:=b) (i:=p.r.l.length) 1
  rw[aXc] at this
  replace this:(cdA p b 2).length<=_:=this
  omega
 obtain⟨CD,hCD⟩:∃CD,CD=cdA p b 2:=⟨_,rfl⟩
 rw[<-hCD] at hNl ⊢
 refine aA gT mxd ?_
 show Sd _ _ _ _ _ _
 refine vP 5 0 3 1 rfl rfl bL rfl ?_
 show Sd _ _ _ _ _ _
 refine vP 5 1 3 1 rfl rfl bL rfl ?_
 show Sd _ _ _ _ _ _
 refine cE (λ_=>true) (λj:Nat=>bKc p CD.length j) (λj=>aCw p b CD (bsL p b j) []) (λ_=>[]) (λj=>j<=p.c.l.length) (λj=>p.c.l.length-j) λhM=>⟨bF hM (chg:=λj:Nat=>bKc p CD.length j) (bls:=λj=>aCw p b CD (bsL p b j) []) (fls:=λ_=>[]) 0 (aC _) rfl ⟨rfl,rfl,rfl,rfl,rfl,rfl,rfl,rfl⟩ trivial ⟨rfl,rfl,rfl,rfl,rfl,rfl,rfl⟩ bL yK rfl,λj hj=>aA gT mxd ⟨λh1=>aA gT mxd ?_,λh1=>aA gT mxd ?_⟩⟩
 all_goals replace hj:j<=p.c.l.length:=hj
 ·replace h1:(j:Int)<(p.c.l.length:Nat):=h1
  have hjn:j<p.c.l.length:=by omega
  have hbl:(bsL p b j).length=j:=by simp
  have hbb:∀{v:Int},v=stC (p.c.l.getD j default) b.c.l j->((3,1,(bsL p b j).map iC++[iC v]):TypeId×Nat×List CV)=(3,1,(bsL p b (j+1)).map iC):=λhv=>by rw[<-cOq hv,bI];rfl
  have hbs:((45,0,[.s 6 ((bsL p b j).length+1),.s 7 0]):TypeId×Nat×List CV)=(45,0,[.s 6 (bsL p b (j+1)).length,.s 7 0]):=by rw[hbl];simp
  refine⟨[],bJv b.c j,rfl,rfl,rfl,λ_ _=>⟨j,λg2=>⟨rfl,hjn⟩,λg2=>?_,λg2=>?_⟩⟩
  ·replace g2:stN b.c.l j=2:=g2
   have hv:dfC (p.c.l.getD j default)=stC (p.c.l.getD j default) b.c.l j:=(if_neg λhh=>hh.1.2 (aLs.1 g2)).symm
   exact⟨j,⟨rfl,hjn⟩,[],bSg (p.c.l.getD j default),rfl,rfl,rfl,λ_ _=>⟨apI (x:=bsL p b j) oM,(λc hc=>dB (bR _ c hc)),(λc hc=>dB (kE (l:=rrZ) rfl c hc)),(λc hc=>by cases hc),(λc hc=>by rw[aE.1 hc];rfl),(j+1:Nat),wi,bF hM (chg:=λj:Nat=>bKc p CD.length j) (bls:=λj=>aCw p b CD (bsL p b j) []) (fls:=λ_=>[]) (j+1) ⟨hjn,show p.c.l.length-(j+1)<p.c.l.length-j by omega⟩ rfl ⟨rfl,rfl,rfl,rfl,rfl,hbs,hbb hv,rfl⟩ trivial ⟨rfl,rfl,rfl,rfl,rfl,rfl,rfl⟩ bL yK rfl⟩⟩
  replace g2:¬stN b.c.l j=2:=g2
  refine⟨[],cLo (p.c.l.getD j default) (stN b.c.l j),rfl,rfl,rfl,λ_ _=>⟨λh4=>aA gT mxd ?_,λh4=>aA gT mxd ?_⟩⟩
  ·replace h4:¬Pmt (p.c.l.getD j default) (stN b.c.l j):=h4
   have hv:dfC (p.c.l.getD j default)=stC (p.c.l.getD j default) b.c.l j:=(if_neg λhh=>h4 (by rw[show stN b.c.l j=b.c.l.getD j 0 from if_pos hh.1.1];exact hh.2)).symm
   exact⟨j,⟨rfl,hjn⟩,[],bSg (p.c.l.getD j default),rfl,rfl,rfl,λ_ _=>⟨apI (x:=bsL p b j) oM,(λc hc=>dB (bR _ c hc)),(λc hc=>dB (kE (l:=rrZ) rfl c hc)),(λc hc=>by cases hc),(λc hc=>by rw[aE.1 hc];rfl),(j+1:Nat),wi,bF hM (chg:=λj:Nat=>bKc p CD.length j) (bls:=λj=>aCw p b CD (bsL p b j) []) (fls:=λ_=>[]) (j+1) ⟨hjn,show p.c.l.length-(j+1)<p.c.l.length-j by omega⟩ rfl ⟨rfl,rfl,rfl,rfl,rfl,hbs,hbb hv,rfl⟩ trivial ⟨rfl,rfl,rfl,rfl,rfl,rfl,rfl⟩ bL yK rfl⟩⟩
  replace h4:¬¬Pmt (p.c.l.getD j default) (stN b.c.l j):=h4
  have hjb:j<b.c.l.length:=aT λhh=>by
   have h5:=dW.1 h4
   rw[show stN b.c.l j=-1 from if_neg hh] at h5
   rcases h5 with h5|⟨h5,_⟩|⟨h5,_⟩|⟨h5,_⟩<;>exact absurd h5 dC
  have hst:stN b.c.l j=b.c.l.getD j 0:=if_pos hjb
  have hv:stN b.c.l j=stC (p.c.l.getD j default) b.c.l j:=by
   rw[hst] at g2 h4 ⊢
   exact(if_pos ⟨⟨hjb,g2⟩,dW.1 h4⟩).symm
  exact⟨apI (x:=bsL p b j) oM,(λc hc=>dB (bR _ c hc)),(λc hc=>dB (kE (l:=rrZ) rfl c hc)),(λc hc=>by cases hc),(λc hc=>by rw[aE.1 hc];rfl),(j+1:Nat),wi,bF hM (chg:=λj:Nat=>bKc p CD.length j) (bls:=λj=>aCw p b CD (bsL p b j) []) (fls:=λ_=>[]) (j+1) ⟨hjn,show p.c.l.length-(j+1)<p.c.l.length-j by omega⟩ rfl ⟨rfl,rfl,rfl,rfl,rfl,hbs,hbb hv,rfl⟩ trivial ⟨rfl,rfl,rfl,rfl,rfl,rfl,rfl⟩ bL yK rfl⟩
 replace h1:¬(j:Int)<(p.c.l.length:Nat):=h1
 obtain rfl:j=p.c.l.length:=by omega
 have hbl:(bsL p b p.c.l.length).length=p.c.l.length:=by simp
 refine aA gT mxd ?_
 show Sd _ _ _ _ _ _
 refine cE (λ_=>true) (λi:Nat=>cEh p CD.length i) (λi=>aCw p b CD (bsL p b p.c.l.length) (drL p i)) (λ_=>[]) (λi=>i<=p.r.l.length) (λi=>p.r.l.length-i) λhM=>⟨bF hM (chg:=λi:Nat=>cEh p CD.length i) (bls:=λi=>aCw p b CD (bsL p b p.c.l.length) (drL p i)) (fls:=λ_=>[]) 0 (aC _) rfl ⟨rfl,rfl,rfl,rfl,rfl,rfl,rfl,rfl⟩ trivial ⟨rfl,rfl,rfl,rfl,rfl,rfl,rfl⟩ bL yK rfl,λi hi=>aA gT mxd ⟨λh1=>aA gT mxd ?_,λh1=>aA gT mxd ?_⟩⟩
 all_goals replace hi:i<=p.r.l.length:=hi
 ·replace h1:(i:Int)<(p.r.l.length:Nat):=h1
  have hin:i<p.r.l.length:=by omega
  have hdl:(drL p i).length=i:=by simp
  refine⟨.seq [(0,false),(1,false),(2,false),(3,false),(4,false),(5,false),(6,false),(7,false),(8,false),(9,true),(10,false),(11,true)],by kernel_rfl,i,⟨rfl,hin⟩,[],cLq (p.r.l.getD i default),rfl,rfl,rfl,λ_ _=>⟨apI (x:=drL p i) oM,(λc hc=>dB (bR _ c hc)),(λc hc=>dB (kE (l:=rrZ) rfl c hc)),(λc hc=>dB (bR _ c hc)),(λc hc=>by rw[aE.1 hc];rfl),(i+1:Nat),wi,bF hM (chg:=λi:Nat=>cEh p CD.length i) (bls:=λi=>aCw p b CD (bsL p b p.c.l.length) (drL p i)) (fls:=λ_=>[]) (i+1) ⟨hin,show p.r.l.length-(i+1)<p.r.l.length-i by omega⟩ rfl ⟨rfl,rfl,rfl,rfl,rfl,?_,rfl,?_⟩ trivial ⟨rfl,rfl,rfl,rfl,rfl,rfl,rfl⟩ bL yK rfl⟩⟩
  ·show((45,0,[CV.s 6 _,.s 7 ((drL p i).length+1)]):TypeId×Nat×List CV)=(45,0,[CV.s 6 _,.s 7 (drL p (i+1)).length])
   rw[<-bSz,aF];rfl
  show((3,1,(drL p i).map iC++[iC _]):TypeId×Nat×List CV)=(3,1,(drL p (i+1)).map iC)
  rw[<-bSz,bI];rfl
 replace h1:¬(i:Int)<(p.r.l.length:Nat):=h1
 obtain rfl:i=p.r.l.length:=by omega
 have hdl:(drL p p.r.l.length).length=p.r.l.length:=by simp
 refine aA gT mxd ?_
 show Sd _ _ _ _ _ _
 refine aIy 15 3 1 rfl bL ?_
 show Sd _ _ _ _ _ _
 refine rR 15 8 (λj=>[iC (([]:List Int).getD j 0)]) rfl rfl (λj hj=>absurd hj (aD _)) rfl bL (λc hc=>by cases hc) bL λA0 c0 _ _=>⟨(λc hc=>dB (bR _ c hc)),(λc hc=>dB (kE (l:=rrZ) rfl c hc)),(λc hc=>dB (bR _ c hc)),(λc hc=>dB (bR _ c hc)),?_⟩
 show Sd _ _ _ _ _ _
 refine cE (λ_=>true) (λg:Nat×Sl Int=>bKd p CD.length g.2 g.1) (λg=>aLx p b CD (gcN p q b g.1) (grN p q b g.1)) (λ_=>[]) (λg=>g.1<=CD.length/\g.2.l=chN p q b g.1) (λg=>CD.length-g.1) λhM=>⟨bF hM (chg:=λg:Nat×Sl Int=>bKd p CD.length g.2 g.1) (bls:=λg=>aLx p b CD (gcN p q b g.1) (grN p q b g.1)) (fls:=λ_=>[]) (0,⟨A0,c0,[]⟩) ⟨aC _,rfl⟩ rfl ⟨rfl,rfl,rfl,rfl,rfl,?_,?_,?_⟩ trivial ⟨rfl,rfl,rfl,rfl,rfl,rfl,rfl,rfl,rfl⟩ bL aDt rfl,λ⟨m,ch⟩ ⟨hm,hch⟩=>?_⟩
 ·show((45,0,[CV.s 6 _,.s 7 _]):TypeId×Nat×List CV)=_
  rw[hbl,hdl]
 ·show((3,1,(bsL p b p.c.l.length).map iC):TypeId×Nat×List CV)=_
  rw[show(dR p.c.l.length λj=>iC (gcN p q b 0 j))=(bsL p b p.c.l.length).map iC from uK.trans (congrArg (List.map iC) (dQ λj _=>if_neg λ⟨m',hm',_⟩=>absurd hm' (aD _)))]
 ·show((3,1,(drL p p.r.l.length).map iC):TypeId×Nat×List CV)=_
  rw[show(dR p.r.l.length λj=>iC (grN p q b 0 j))=(drL p p.r.l.length).map iC from uK.trans (congrArg (List.map iC) (dQ λj _=>if_neg λ⟨m',hm',_⟩=>absurd hm' (aD _)))]
 replace hm:m<=CD.length:=hm
 replace hch:ch.l=chN p q b m:=hch
 show Sd _ _ _ _ _ _
 refine Sd.sq (aA gT mxd (Sd.sq (aA gT mxd ⟨λh1=>aA gT mxd ?_,λh1=>aA gT mxd ?_⟩)))
 ·replace h1:(m:Int)<(CD.length:Nat):=h1
  have hmn:m<CD.length:=by omega
  have hCdl:cdN p b<=p.c.l.length+p.r.l.length:=by
   unfold cdN
   have:(wnL p b).length<=p.c.l.length:=aJ iA (wJ _ _)
   omega
  have hmN:m<cdN p b:=by rw[<-aLu,<-hCD];exact hmn
  have hk:=cEe hmN
  rw[<-hCD] at hk
  show Sd _ _ _ _ _ _
  have hcl:ch.l.length<=60:=by rw[hch];have:=aXe (p:=p) (q:=q) (b:=b) (m:=m);omega
  refine Sd.sq (Sd.blk (Sd.sq (aA gT mxd ⟨m,⟨rfl,by omega,by rw[aO];show m*1<_;omega⟩,iC (cdK p b m:Nat),?_,Sd.sq (aA gT mxd ⟨⟨λj _=>rfl,rfl,?_,?_,?_⟩,?_⟩)⟩)))
  ·show(CD.map iC)[m*1]? =_
   rw[bN,dV,<-hk,aH,aG hmn]
   rfl
  ·show 0+ch.l.length<=maxLen;simp only[maxLen];omega
  ·show(0+ch.l.length)*8<=_;omega
  ·exact λc hc=>dB (bR ch.l c (by rw[<-aCh];exact hc))
  have m3:∀i,∀c∈CD.map iC,kL i c=false:=λi c hc=>dB (bR _ c hc)
  have m4:∀i,∀c∈rrZ,kL i c=false:=λi c hc=>dB (kE (l:=rrZ) rfl c hc)
  have m6:∀i (n:Nat) (F:Nat->Int),∀c∈(dR n λj=>iC (F j)),kL i c=false:=λi n F c hc=>dB (aY (λ_ _=>rfl) c hc)
  have hfl:[]++flatR ch.l.length (λj=>[iC (ch.l.getD j 0)])=ch.l.map iC:=aCh ch.l
  refine⟨m3 _,m4 _,m6 _ _ _,m6 _ _ _,⟨rfl,?_,?_,?_,?_⟩,m3 _,m4 _,m6 _ _ _,m6 _ _ _,(λc hc=>by rw[aE.1 hc];rfl),?_⟩
  ·show(0+ch.l.length)*1=([]++flatR ch.l.length (λj=>[iC (ch.l.getD j 0)])).length
   rw[hfl,aO];omega
  ·show 0+ch.l.length+1<=maxLen;simp only[maxLen];omega
  ·show(0+ch.l.length+1)*8<=_;omega
  ·exact λc hc=>(aR.1 hc).elim (λh=>dB (bR ch.l c (by rw[<-aCh];exact h))) λh=>by rw[aE.1 h];rfl
  have hnl:0+ch.l.length+1=(ch.l++[((cdK p b m:Nat):Int)]).length:=by rw[aF];show _=_+1;omega
  have hcell:([]++flatR ch.l.length (λj=>[iC (ch.l.getD j 0)]))++[iC (cdK p b m:Nat)]=(ch.l++[((cdK p b m:Nat):Int)]).map iC:=by rw[hfl,bI];rfl
  show Sd _ _ _ _ _ _
  refine rR 18 8 (λj=>[iC ((ch.l++[((cdK p b m:Nat):Int)]).getD j 0)]) rfl rfl (λj hj=>?_) ?_ bL (λc hc=>?_) bL λA c _ _=>⟨m3 _,m4 _,m6 _ _ _,m6 _ _ _,(λc hc=>by rw[aE.1 hc];rfl),?_⟩
  ·show _=List.take 1 (List.drop (j*1) (([]++flatR ch.l.length (λj=>[iC (ch.l.getD j 0)]))++[iC (cdK p b m:Nat)]))
   rw[hcell]
   exact oO j (by rw[<-hnl];exact hj)
  ·show(0+ch.l.length+1)*1=(([]++flatR ch.l.length (λj=>[iC (ch.l.getD j 0)]))++[iC (cdK p b m:Nat)]).length
   rw[hcell,aO,<-hnl,bN]
  ·exact bR _ c (by rw[<-hcell];exact hc)
  have hEq:CV.r A (0+ch.l.length+1) c 1 (λj=>[iC ((ch.l++[((cdK p b m:Nat):Int)]).getD j 0)])=cI ⟨A,c,ch.l++[((cdK p b m:Nat):Int)]⟩:=by rw[hnl];rfl
  have hcall:Ctr Tryz.prog aXb [] [.a p.C,.c (.r A (0+ch.l.length+1) c 1 λj=>[iC ((ch.l++[((cdK p b m:Nat):Int)]).getD j 0)])] [] (λ_:Unit=>⟨pC (cdP p q b m),[],True⟩):=by
   have hr2:=cDz p ⟨A,c,ch.l++[((cdK p b m:Nat):Int)]⟩ (κ:=λk=>cdK p b (if k<(jU (cdQ p q b) p.r.l.length (cdN p b) m).length then atN (jU (cdQ p q b) p.r.l.length (cdN p b) m) k else m)) h (by rw[<-hnl];omega) (λk hk2=>?_) ?_
   ·rw[hnl,show cdP p q b m=Free (λi k=>cdQ p q b i (if k<(jU (cdQ p q b) p.r.l.length (cdN p b) m).length then atN (jU (cdQ p q b) p.r.l.length (cdN p b) m) k else m)) p.r.l.length (ch.l++[((cdK p b m:Nat):Int)]).length from by
     rw[aF,hch,aLv]
     exact propext (aHr (gJ m).1 hmN).symm]
    exact hr2
   ·exact cEg hmN hr hc hch hk2
   refine aJ (kY ?_) hB
   have h3:m<=p.c.l.length+p.r.l.length:=by
    have:=hCdl
    omega
   have h4:=aXe (p:=p) (q:=q) (b:=b) (m:=m)
   rw[<-hch] at h4
   rw[<-hnl];omega
  show Sd _ _ _ _ _ _
  refine aA gT mxd ⟨[],hcall,rfl,rfl,rfl,λ_ _=>⟨λh2=>aA gT mxd ?_,λh2=>aA gT mxd ?_⟩⟩
  ·replace h2:cdP p q b m:=h2
   have hcy:=(bQr h2)
   refine⟨λh3=>aA gT mxd ?_,λh3=>aA gT mxd ?_⟩
   ·replace h3:((cdK p b m:Nat):Int)<(p.c.l.length:Nat):=h3
    have hlt:cdK p b m<p.c.l.length:=by omega
    refine⟨cdK p b m,⟨rfl,hlt,cS hlt⟩,_,aCf hlt,aA gT mxd ⟨(m+1:Nat),wi,bF hM (chg:=λg:Nat×Sl Int=>bKd p CD.length g.2 g.1) (bls:=λg=>aLx p b CD (gcN p q b g.1) (grN p q b g.1)) (fls:=λ_=>[]) (m+1,⟨A,c,ch.l++[((cdK p b m:Nat):Int)]⟩) ⟨⟨hmn,by show ch.l++_=chN p q b (m+1);rw[hcy,hch]⟩,show CD.length-(m+1)<CD.length-m by omega⟩ rfl ⟨rfl,rfl,rfl,rfl,rfl,rfl,?_,?_⟩ trivial ⟨rfl,?_,rfl,rfl,rfl,rfl,rfl,rfl,rfl⟩ bL aDt rfl⟩⟩
    ·exact congrArg (λl=>((3,1,l):TypeId×Nat×List CV)) (gH λj _=>by rw[bQp h2])
    ·exact congrArg (λl=>((3,1,l):TypeId×Nat×List CV)) (gH λj _=>by rw[aTb λhh=>by omega])
    exact hEq
   replace h3:¬((cdK p b m:Nat):Int)<(p.c.l.length:Nat):=h3
   obtain⟨i0,hi0⟩:∃i0,cdK p b m=p.c.l.length+i0:=⟨cdK p b m-p.c.l.length,by omega⟩
   have hlt:i0<p.r.l.length:=by have:=aSz hmN;omega
   refine⟨(i0:Int),wi (h:=⟨by rw[hi0];omega,by omega,by omega⟩),i0,⟨rfl,hlt,cS hlt⟩,_,aCf hlt,aA gT mxd ⟨(m+1:Nat),wi,bF hM (chg:=λg:Nat×Sl Int=>bKd p CD.length g.2 g.1) (bls:=λg=>aLx p b CD (gcN p q b g.1) (grN p q b g.1)) (fls:=λ_=>[]) (m+1,⟨A,c,ch.l++[((cdK p b m:Nat):Int)]⟩) ⟨⟨hmn,by show ch.l++_=chN p q b (m+1);rw[hcy,hch]⟩,show CD.length-(m+1)<CD.length-m by omega⟩ rfl ⟨rfl,rfl,rfl,rfl,rfl,rfl,?_,?_⟩ trivial ⟨rfl,?_,rfl,rfl,rfl,rfl,rfl,rfl,rfl⟩ bL aDt rfl⟩⟩
   ·exact congrArg (λl=>((3,1,l):TypeId×Nat×List CV)) (gH λj hj=>by rw[aTa λhh=>by omega])
   ·exact congrArg (λl=>((3,1,l):TypeId×Nat×List CV)) (gH λj _=>by rw[bQq h2 hi0])
   exact hEq
  replace h2:¬cdP p q b m:=h2
  have hcn:=(cEf h2)
  refine aA gT mxd ⟨(m+1:Nat),wi,bF hM (chg:=λg:Nat×Sl Int=>bKd p CD.length g.2 g.1) (bls:=λg=>aLx p b CD (gcN p q b g.1) (grN p q b g.1)) (fls:=λ_=>[]) (m+1,ch) ⟨⟨hmn,by show ch.l=chN p q b (m+1);rw[hcn,hch]⟩,show CD.length-(m+1)<CD.length-m by omega⟩ rfl ⟨rfl,rfl,rfl,rfl,rfl,rfl,?_,?_⟩ trivial ⟨rfl,rfl,rfl,rfl,rfl,rfl,rfl,rfl,rfl⟩ bL aDt rfl⟩
  ·exact congrArg (λl=>((3,1,l):TypeId×Nat×List CV)) (gH λj hj=>by rw[aTa λhh=>h2 hh.1])
  exact congrArg (λl=>((3,1,l):TypeId×Nat×List CV)) (gH λj hj=>by rw[aTb λhh=>h2 hh.1])
 replace h1:¬(m:Int)<(CD.length:Nat):=h1
 obtain rfl:m=CD.length:=by omega
 show Sd _ _ _ _ _ _
 rw[show aLx p b CD (gcN p q b (CD.length,ch).fst) (grN p q b (CD.length,ch).fst)=aCw p b CD ((List.range p.c.l.length).map (gcN p q b CD.length)) ((List.range p.r.l.length).map (grN p q b CD.length)) from bQv]
 obtain⟨CL,hCL⟩:∃CL,CL=(List.range p.c.l.length).map (gcN p q b CD.length):=⟨_,rfl⟩
 obtain⟨RL,hRL⟩:∃RL,RL=(List.range p.r.l.length).map (grN p q b CD.length):=⟨_,rfl⟩
 rw[<-hCL,<-hRL]
 refine kU tSd 7 rfl bL (bR _) bL rfl λA a1=>⟨_,mA kB (bR _),_,mA kB (kE (l:=rrZ) rfl),_,mA kB (bR _),jQ tSd 5 0 [.s 6 CL.length,cI ⟨A.map λb=>⟨b,0,none⟩,a1,RL⟩] rfl rfl rfl rfl (qW (k0:=1) rfl aGh) ?_⟩
 refine kU tSd 6 rfl bL (bR _) bL rfl λA2 a2=>⟨_,mA kB (bR _),_,mA kB (kE (l:=rrZ) rfl),_,rfl,jQ tSd 5 1 [cI ⟨A2.map λb=>⟨b,0,none⟩,a2,CL⟩,cI ⟨A.map λb=>⟨b,0,none⟩,a1,RL⟩] rfl rfl rfl rfl (qW (k0:=0) rfl aGh) ?_⟩
 refine aA gT mxd ⟨⟨⟨A2.map λb=>⟨b,0,none⟩,a2,CL⟩,⟨A.map λb=>⟨b,0,none⟩,a1,RL⟩⟩,GrR.rp ⟨by show CL.length=_;rw[hCL];simp,by show RL.length=_;rw[hRL];simp,λj hj=>?_,λi hi=>?_⟩,aM rfl rfl trivial⟩
 ·show CL.getD j 0=_
  rw[hCL,aCg hj,hCD,aLu];rfl
 show RL.getD i 0=_
 rw[hRL,aCg hi,hCD,aLu];rfl
abbrev syN (q:PrQ) (ps:List Rat) (k:Nat):Rat:=cG (λi=>lQ ps i*q.b i) k
abbrev sdN (p:ProgM) (q:PrQ) (ps qs:List Rat) (k:Nat):Rat:=cG (λj=>mX q ps p.r.l.length j*lQ qs j) k
theorem bQx {p:ProgM} {q:PrQ} {b:BasM} {B Bx By:Nat} {qs ps:List Rat} (hp:PrV p q B) (h:PtR p q b Bx qs) (h':MuR p q b By ps):syN q ps p.r.l.length+sdN p q ps qs p.c.l.length=obj q qs p.c.l.length:=by
 have e1:obj q qs p.c.l.length=cG (λj=>mX q ps p.r.l.length j*lQ qs j+cG (λi=>lQ qs j*(lQ ps i*Vm.get (q.M i) (j:Nat))) p.r.l.length) p.c.l.length:=bK λj hj=>by
  rw[aOt,jK]
  grind
 have e2:cG (λj=>cG (λi=>lQ qs j*(lQ ps i*Vm.get (q.M i) (j:Nat))) p.r.l.length) p.c.l.length=syN q ps p.r.l.length:=by
  rw[pJ]
  refine bK λi hi=>?_
  have e3:cG (λj=>lQ qs j*(lQ ps i*Vm.get (q.M i) (j:Nat))) p.c.l.length=lQ ps i*cG (λj=>Vm.get (q.M i) (j:Nat)*lQ qs j) p.c.l.length:=by
   rw[<-jK]
   exact bK λj _=>by grind
  show cG (λj=>lQ qs j*(lQ ps i*Vm.get (q.M i) (j:Nat))) p.c.l.length=lQ ps i*q.b i
  rw[e3]
  by_cases hs:b.r.l.getD i 0=2
  ·rw[h'.y0 i hi hs,dH,dH]
  rw[<-h.ti i hi hs,bJu hp hi]
 rw[e1,xI,e2]
 exact vV _ _
theorem aXf (p:ProgM) (b:BasM) {q:PrQ} (h:SmP p) (hq:PrG p q 3):Ctr Tryz.prog bQw [] [.a p.C,.a b.C] [] (λg:BasM=>⟨.a g.C,[],RpR p q b g⟩):=cOr p b hq.v (by have:=h.n;omega) (by have:=h.n;omega) (aJ (kY (show _<=8 by have:=h.n;omega)) (by decide+kernel))
def cVl:Ord:=.joinX [] [0,2001,3] (.alt 2 (.alt 4 (.alt 5 (trS [6,1007]) (.alt 6 (trS [5,1007]) .nil)) (.alt 6 (trS [4,5,1007]) .nil)) (.alt 6 (trS [2,4,5,1007]) .nil))
abbrev lcB (p:ProgM) (b:BasM) (s:RatM):BL:=[(42,0,p.C),(45,0,b.C),(62,0,s.C)]
theorem aLy {p:ProgM} {b:BasM} {s:RatM}:scB 3 (lcB p b s):=aB rfl (aB rfl (aB rfl aZ))
abbrev cEi (x y:Sl RatM) (i:Nat):List (Nat×DV):=[(12,.c (iC i)),(5,.c (.p 0 0)),(7,.c (eY x)),(9,.c (eY y)),(11,.c (.p 2 0))]
abbrev cEj (x d:Sl RatM) (j:Nat):List (Nat×DV):=[(14,.c (iC j)),(5,.c (.p 0 0)),(7,.c (eY x)),(13,.c (eY d)),(11,.c (.p 2 0))]
abbrev cEk:FuncId:=5
theorem cVm:Ent Tryz.prog cEk:=aU func5 rfl kR
theorem cVn:Tryz.prog.funcs[cEk]? =some Tryz.f5:=func5
theorem cOs (d e:Sl Int):Ctr Tryz.prog cEk [] [.c (cI d),.c (cI e)] [] (λ_:Unit=>⟨pC True,[],True⟩):=by
 refine aX gT cVm cVn rfl rfl rfl bL aS (aYf 0 rfl λhd=>aYf 1 rfl λhe=>aA gT mxd ?_)
 replace hd:d.l.length<=9223372036854775807:=hd
 replace he:e.l.length<=9223372036854775807:=he
 refine⟨[],cBs d hd,rfl,rfl,rfl,λp hp=>?_⟩
 have hS:SmP p:=⟨⟨hp.1.2.1,hp.1.2.2⟩,hp.2.1,hp.2.2⟩
 obtain⟨q,hq⟩:=hS.prg
 have hpc:=hS.n.1
 have hpr:=hS.n.2
 refine⟨cVl,by kernel_rfl,BasM,λr=>⟨[(5,.c (.p 0 0)),(6,.c (.p 1 0))]++[],[],lrB p r,[]⟩,λr=>BVal p q r,?_,λr hr=>?_⟩
 ·exact⟨⟨[],aRh e,rfl,rfl,rfl,λ_ _=>⟨rfl,⟨[1],aSp e p 0 he (aC _) oM oM,rfl,rfl,rfl,λg hg=>⟨rfl,⟨[],aXf p g.1 hS hq,rfl,rfl,rfl,λr hr=>⟨rfl,rfl,gsw 1 2 rfl rfl bL bL rfl ⟨bL,bF g0 (chg:=λ_:BasM=>[(5,.c (.p 0 0)),(6,.c (.p 1 0))]) (bls:=λr=>lrB p r) (fls:=λ_=>[]) r (hr.val hq.v) rfl ⟨rfl,rfl⟩ trivial ⟨rfl,rfl⟩ bL aLo rfl⟩⟩⟩,⟨rfl,[],aXf p g.1 hS hq,rfl,rfl,rfl,λr hr=>⟨rfl,gsw 1 2 rfl rfl bL bL rfl ⟨bL,bF g0 (chg:=λ_:BasM=>[(5,.c (.p 0 0)),(6,.c (.p 1 0))]) (bls:=λr=>lrB p r) (fls:=λ_=>[]) r (hr.val hq.v) rfl ⟨rfl,rfl⟩ trivial ⟨rfl,rfl⟩ bL aLo rfl⟩⟩⟩⟩⟩,⟨rfl,[1],aSp e p 0 he (aC _) oM oM,rfl,rfl,rfl,λg hg=>⟨rfl,[],aXf p g.1 hS hq,rfl,rfl,rfl,λr hr=>⟨rfl,gsw 1 2 rfl rfl bL bL rfl ⟨bL,bF g0 (chg:=λ_:BasM=>[(5,.c (.p 0 0)),(6,.c (.p 1 0))]) (bls:=λr=>lrB p r) (fls:=λ_=>[]) r (hr.val hq.v) rfl ⟨rfl,rfl⟩ trivial ⟨rfl,rfl⟩ bL aLo rfl⟩⟩⟩⟩⟩⟩,⟨rfl,[],aRh e,rfl,rfl,rfl,λ_ _=>⟨rfl,[2],aSp e p 0 he (aC _) oM oM,rfl,rfl,rfl,λg hg=>⟨rfl,[],aXf p g.1 hS hq,rfl,rfl,rfl,λr hr=>⟨rfl,bF g0 (chg:=λ_:BasM=>[(5,.c (.p 0 0)),(6,.c (.p 1 0))]) (bls:=λr=>lrB p r) (fls:=λ_=>[]) r (hr.val hq.v) rfl ⟨rfl,rfl⟩ trivial ⟨rfl,rfl⟩ bL aLo rfl⟩⟩⟩⟩⟩
 replace hr:BVal p q r:=hr
 refine⟨[],bJi p r hq hr,rfl,rfl,rfl,λ⟨x,qs⟩ hx=>⟨[],bSu p r hq hr,rfl,rfl,rfl,λ⟨y,ps⟩ hy=>⟨[],bQm,rfl,rfl,rfl,λ_ _=>?_⟩⟩⟩
 replace hx:PtL p q r x qs:=hx
 replace hy:MuL p q r y ps:=hy
 have hpx:=hq.px hx
 have hpz:=hq.pz hy
 have hxl:x.l.length=p.c.l.length:=hx.1.ln.trans hx.2.ln
 have hyl:y.l.length=p.r.l.length:=hy.1.ln.trans hy.2.ln
 refine⟨λh2=>?_,λ_=>aA gT mxd ?_⟩
 ·replace h2:(((0:Int)≠0\/(0:Int)≠0)\/(x.l.length:Int)≠(p.c.l.length:Nat))\/(y.l.length:Int)≠(p.r.l.length:Nat):=h2
  omega
 refine⟨[],aBk,rfl,rfl,rfl,λz hz=>?_⟩
 show Sd _ _ _ _ _ _
 have hqb:∀i,i<p.r.l.length->rb (lQ ps i*q.b i) (1000001000+3):=λi hi=>fS (hy.2.rb _ (gD0 (k:=i) (by rw[hy.2.ln];exact hi))) ((hq.v.rd.r i hi).b.rb hq.v.h1)
 have hsy:∀k,k<=p.r.l.length->rb (syN q ps k) 5000000000:=λk hk=>(aDn (b:=1000001000+3) oM (m:=k) λi hi=>hqb i oM).le (by
  have:k*(1000001000+3+1)<=4*(1000001000+3+1):=aV _ oM
  omega)
 have hrd:∀j,j<p.c.l.length->rb (mX q ps p.r.l.length j) 5000000000:=λj hj=>(hpz.rd hj _ (aI _)).le (by
  have:p.r.l.length*(1000001000+3+1)<=4*(1000001000+3+1):=aV _ oM
  omega)
 have hdx:∀j,j<p.c.l.length->rb (mX q ps p.r.l.length j*lQ qs j) (5000000000+1000001000):=λj hj=>fS (hrd j hj) (hx.2.rb _ (gD0 (k:=j) (by rw[hx.2.ln];exact hj)))
 have hsd:∀k,k<=p.c.l.length->rb (syN q ps p.r.l.length+sdN p q ps qs k) 100000000000:=λk hk=>(vI (hsy _ (aI _)) (aDn (b:=5000000000+1000001000) oM (m:=k) λj hj=>hdx j oM)).le (by
  have:k*(5000000000+1000001000+1)<=4*(5000000000+1000001000+1):=aV _ oM
  omega)
 refine cE (λ_=>true) (λg:Nat×RatM=>cEi x y g.1) (λg=>lcB p r g.2) (λ_=>[]) (λg=>g.1<=y.l.length/\Cr g.2 (syN q ps g.1)) (λg=>y.l.length-g.1) λhM=>⟨bF hM (chg:=λg:Nat×RatM=>cEi x y g.1) (bls:=λg=>lcB p r g.2) (fls:=λ_=>[]) (0,z) ⟨aC _,hz⟩ rfl ⟨rfl,rfl,rfl⟩ trivial ⟨rfl,rfl,rfl,rfl,rfl⟩ bL aLy rfl,λ⟨i,s⟩ ⟨hi,hs⟩=>aA gT mxd ⟨λh3=>aA gT mxd ?_,λh3=>aA gT mxd ?_⟩⟩
 all_goals
  replace hi:i<=y.l.length:=hi
  replace hs:Cr s (syN q ps i):=hs
 ·replace h3:(i:Int)<(y.l.length:Nat):=h3
  have hin:i<y.l.length:=by omega
  have hir:i<p.r.l.length:=by omega
  have hY:=(hy.1.rq hy.2.rb (k:=i) (by rw[hy.2.ln];exact hir)).le (show 1000001000<=4398046511104 by decide)
  exact⟨.seq (sqX [12,13] 14),by kernel_rfl,i,⟨rfl,hin⟩,i,⟨rfl,hir⟩,[],aFo (y.l.getD i default) (p.r.l.getD i default).b hY ((hq.v.rd.r i hir).b.le),rfl,rfl,rfl,λm hm=>⟨[],aBm s m (hs.rq ((hsy i oM).le dC)) (Cr.rq hm ((hqb i hir).le dC)),rfl,rfl,rfl,λg hg=>⟨(i+1:Nat),wi,bF hM (chg:=λg:Nat×RatM=>cEi x y g.1) (bls:=λg=>lcB p r g.2) (fls:=λ_=>[]) (i+1,g) ⟨⟨hin,hg⟩,show y.l.length-(i+1)<y.l.length-i by omega⟩ rfl ⟨rfl,rfl,rfl⟩ trivial ⟨rfl,rfl,rfl,rfl,rfl⟩ bL aLy rfl⟩⟩⟩
 replace h3:¬(i:Int)<(y.l.length:Nat):=h3
 obtain rfl:i=y.l.length:=by omega
 rw[hyl] at hs
 refine aA gT mxd ⟨[],cMi p y hpz,rfl,rfl,rfl,λd ⟨hdl,hdr⟩=>?_⟩
 refine cE (λ_=>true) (λg:Nat×RatM=>cEj x d g.1) (λg=>lcB p r g.2) (λ_=>[]) (λg=>g.1<=x.l.length/\Cr g.2 (syN q ps p.r.l.length+sdN p q ps qs g.1)) (λg=>x.l.length-g.1) λhM=>⟨bF hM (chg:=λg:Nat×RatM=>cEj x d g.1) (bls:=λg=>lcB p r g.2) (fls:=λ_=>[]) (0,s) ⟨aC _,by show Cr s (_+0);rw[bJ];exact hs⟩ rfl ⟨rfl,rfl,rfl⟩ trivial ⟨rfl,rfl,rfl,rfl,rfl⟩ bL aLy rfl,λ⟨j,s⟩ ⟨hj,hs⟩=>aA gT mxd ⟨λh3=>aA gT mxd ?_,λh3=>aA gT mxd ?_⟩⟩
 all_goals
  replace hj:j<=x.l.length:=hj
  replace hs:Cr s (syN q ps p.r.l.length+sdN p q ps qs j):=hs
 ·replace h3:(j:Int)<(x.l.length:Nat):=h3
  have hjn:j<x.l.length:=by omega
  have hjc:j<p.c.l.length:=by omega
  have hX:=(hx.1.rq hx.2.rb (k:=j) (by rw[hx.2.ln];exact hjc)).le (show 1000001000<=4398046511104 by decide)
  exact⟨.seq (sqX [10,11] 12),by kernel_rfl,j,⟨rfl,by omega⟩,j,⟨rfl,hjn⟩,[],aFo (d.l.getD j default) (x.l.getD j default) ((hdr j hjc).rq ((hrd j hjc).le dC)) hX,rfl,rfl,rfl,λm hm=>⟨[],aBm s m (hs.rq ((hsd j oM).le dC)) (Cr.rq hm ((hdx j hjc).le dC)),rfl,rfl,rfl,λg hg=>⟨(j+1:Nat),wi,bF hM (chg:=λg:Nat×RatM=>cEj x d g.1) (bls:=λg=>lcB p r g.2) (fls:=λ_=>[]) (j+1,g) ⟨⟨hjn,by
   replace hg:Cr g (syN q ps p.r.l.length+sdN p q ps qs j+mX q ps p.r.l.length j*lQ qs j):=hg
   show Cr g (syN q ps p.r.l.length+(sdN p q ps qs j+mX q ps p.r.l.length j*lQ qs j))
   rw[<-mM];exact hg⟩,show x.l.length-(j+1)<x.l.length-j by omega⟩ rfl ⟨rfl,rfl,rfl⟩ trivial ⟨rfl,rfl,rfl,rfl,rfl⟩ bL aLy rfl⟩⟩⟩
 replace h3:¬(j:Int)<(x.l.length:Nat):=h3
 obtain rfl:j=x.l.length:=by omega
 rw[hxl,bQx hq.v hx.2 hy.2] at hs
 have hob:=hpx.ob hq.k (aI _)
 refine aA gT mxd ⟨.seq (sqX [4] 7),by kernel_rfl,[],cMk p x hpx hq.k,rfl,rfl,rfl,λo ho=>⟨[],bXk s o (hs.rq hob) (Cr.rq ho hob),rfl,rfl,rfl,λ_ _=>⟨(),trivial,aM ?_ rfl trivial⟩⟩⟩
 show(sgn (obj q qs p.c.l.length-obj q qs p.c.l.length).num=0)↔True
 exact⟨λ_=>trivial,λ_=>by rw[show obj q qs p.c.l.length-obj q qs p.c.l.length=0 by grind];rfl⟩
end Go.Proofs.YtghncoghdcmdfaaGreat
namespace Go.Proofs.YtghncoghdcmdfaaGreat
open Go.Vg Go.RowKit _root_.Go.Proofs.Tryz
open Go.Vm
open Go.Vy hiding val
open Go.ChangeShapes Go.WideShapes
namespace bulks
theorem cEl {H:Type} (d:DataW H):1<=Rows.uptoBulk d:=by
 cases d with
 |lit l=>cases l<;>simp[Rows.uptoBulk]
 |nil=>simp[Rows.uptoBulk]
 |ptr d=>simp[Rows.uptoBulk]
 |slice elems spare=>simp[Rows.uptoBulk]
 |agg parts=>simp[Rows.uptoBulk]
 |iface t d=>simp[Rows.uptoBulk]
 |map entries=>simp[Rows.uptoBulk]
 |held h=>simp[Rows.uptoBulk]
theorem part_le {H:Type} {d:DataW H} {l:List (DataW H)} (h:d∈l):Rows.uptoBulk d<=Rows.uptoBulkAll l:=by
 induction l with
 |nil=>cases h
 |cons x r ih=>
  simp only[Rows.uptoBulkAll]
  cases bW.1 h with
  |inl e=>subst e;omega
  |inr e=>have:=ih e;omega
theorem length_le {H:Type} (l:List (DataW H)):l.length<=Rows.uptoBulkAll l:=by
 induction l with
 |nil=>simp[Rows.uptoBulkAll]
 |cons x r ih=>have:=cEl x;simp only[Rows.uptoBulkAll,dS];omega
end bulks
def ρA:Pl:=⟨λ_=>(none,0),λ_=>True,[]⟩
section
variable {H:Type} {enc:TypeId×Value->H} {w:World} {base:Nat} {spare:Nat->Bool} {held:Bool}
theorem zA {b:Nat} (h:b<w.heap.size):Zf ρA 0 w b:=⟨h,λi hi=>absurd hi (aD _),trivial,λ⟨F,hF,_⟩=>by cases hF⟩
def Opn (H:Type) (enc:TypeId×Value->H) (w:World) (base:Nat) (spare:Nat->Bool) (held:Bool) (T:TypeId) {α:Type} (C:α->List CV) (B:Nat->α->Prop):Prop:=
 ∀fuel cs x,DataW.trod enc Tryz.prog w base spare held fuel T cs=some x->∃a:α,(Hl ρA 0 w (C a) cs/\∀u∈cs,u.oneCell'=true)/\B (Rows.uptoBulk x.1) a
theorem aXg:Opn H enc w base spare held 3 (λz:Int=>[iC z]) λ_ _=>True:=λfuel cs x h=>by
 obtain⟨n,rfl,_,_⟩:=DataW.trod_int underlying3 h
 exact⟨n,⟨⟨Rc.v _,trivial⟩,λu hu=>by rw[aE.1 hu];rfl⟩,trivial⟩
theorem bTb {α:Type} {f:Nat->α} {n j:Nat} {d:α} (h:j<n):((List.range n).map f).getD j d=f j:=by simp[List.getD,h]
theorem bKe {T E e:Nat} {α:Type} {C:α->List CV} {B:Nat->α->Prop} (hT:Tryz.prog.underlying T=some (.slice E)) (hE:Tryz.prog.cellsOf E=e) (he:0<e) (hC:∀a,(C a).length=e) (hcl:∀a,∀c∈C a,fM c=true) (d:α) (hO:Opn H enc w base spare held E C B) (hB:∀m n a,m<=n->B m a->B n a):
 Opn H enc w base spare held T (λs:Sl α=>[s.R e C d]) λn s=>s.l.length<=n/\∀x∈s.l,B n x:=λfuel cs x h=>by
 rcases Go.Deep.open_slice hT h with ⟨rfl,rfl⟩|⟨a,len,cap,m,n,D,Pl,rfl,hb,hl,hm,hmm,rfl,hx⟩
 ·exact⟨cO,⟨⟨Rc.nil _ _ _ _ (aC _),trivial⟩,λu hu=>by rw[aE.1 hu];rfl⟩,aC _,λ_ h=>nomatch h⟩
 rw[hE] at hx
 have hlm:len<=m:=by rw[hmm];split<;>omega
 have each:∀i,i<len->∃q:α×List Value,w.cells? base (a.add (i*e)) e=some q.2/\(Hl ρA 0 w (C q.1) q.2/\∀u∈q.2,u.oneCell'=true)/\B (Rows.uptoBulk (D i)) q.1:=λi hi=>by
  obtain⟨cs',h1,h2⟩:=hx i (by omega)
  obtain⟨y,h3,h4⟩:=hO _ _ _ h2
  exact⟨(y,cs'),h1,h3,h4⟩
 have hlb:len<=Rows.uptoBulkAll ((List.range len).map D):=by
  have:=bulks.length_le ((List.range len).map D)
  rwa [aO,fI] at this
 by_cases h0:len=0
 ·subst h0
  exact⟨⟨some a,cap,[]⟩,⟨⟨Rc.nil _ _ _ _ hm,trivial⟩,λu hu=>by rw[aE.1 hu];rfl⟩,aC _,λ_ h=>nomatch h⟩
 haveI:Inhabited (α×List Value):=⟨(d,[])⟩
 obtain⟨q,hq⟩:=Go.Deep.choose_lt each
 have cell:∀i,i<len->∀j (u:Value),((q i).2)[j]? =some u->w.cell? (a.add (i*e+j))=some u:=λi hi j u hu=>by
  obtain⟨_,h2,h3⟩:=World.cells?_some (hq i hi).1
  have h4:=h3 j (by rw[<-h2];exact eF hu)
  rw[Go.Deep.add_add,hu] at h4
  exact h4
 have l0:0<((q 0).2).length:=by rw[<-(hq 0 (by omega)).2.1.1.len,hC];exact he
 have c0:=cell 0 (by omega) 0 _ (aG l0)
 obtain⟨b,o,spot⟩:=a
 have hspot:spot=none:=by simpa[Addr.add] using World.cell?_spot c0
 subst hspot
 have hlt:b<w.heap.size:=by
  rw[fR] at c0
  unfold World.cell? at c0
  cases hh:w.heap[b]? with
  |none=>rw[show((⟨b,o+(0*e+0),none⟩:Addr).block)=b from rfl,hh] at c0;cases c0
  |some ob=>exact(nE.1 hh).1
 refine⟨⟨some ⟨b,o,none⟩,cap,(List.range len).map λi=>(q i).1⟩,⟨⟨?_,trivial⟩,λu hu=>by rw[aE.1 hu];rfl⟩,?_,λx hx=>?_⟩
 ·show Rc (Zf ρA 0 w) w (.r (some ⟨b,o,none⟩) ((List.range len).map λi=>(q i).1).length cap e λj=>C (((List.range len).map λi=>(q i).1).getD j d)) (.slice (some ⟨b,o,none⟩) len cap)
  rw[aO,fI]
  refine Rc.r b o len cap e _ (λi=>(q i).2) hl hm (zA hlt) (λj hj i u hu=>⟨?_,(hq j hj).2.1.2 u (aQ hu)⟩) (λj hj=>?_) λj hj i c u h1 h2=>?_
  ·have:=cell j hj i u hu
   rw[fR] at this
   rw[iP]
   exact this
  ·rw[bTb hj]
   exact(hq j hj).2.1.1.len.symm
  rw[bTb hj] at h1
  obtain⟨y,h3,h4⟩:=(hq j hj).2.1.1.get h1
  rw[h2] at h3
  injection h3 with h3
  subst h3
  exact aHb h4 (hcl _ c (aQ h1))
 ·show((List.range len).map λi=>(q i).1).length<=_
  rw[aO,fI]
  simp only[Rows.uptoBulk]
  omega
 obtain⟨i,hi,rfl⟩:=cD.1 hx
 rw[cL] at hi
 have h5:=bulks.part_le (d:=D i) (l:=(List.range len).map D) (cD.2 ⟨i,cL.2 hi,rfl⟩)
 exact hB _ _ _ (by simp only[Rows.uptoBulk];omega) (hq i hi).2.2
end
namespace basisComplementaryDone
open Go.ChangeShapes Go.WideShapes Go.ChangeAt
theorem own:ownKnob Tryz.prog.godebug=none:=by kernel_rfl
theorem aXh:laidOutB Tryz.prog=true:=by kernel_rfl
set_option maxRecDepth 100000 in
theorem cEm (os:Os) (started:os.Started) (H:Type) (enc:TypeId×Value->H):
 ReturnsInHanded {} Tryz.checked os 5 .any (Rows.basisComplementarySpec.pre6 enc Tryz.prog Tryz.f5 Rows.basisComplementaryRow.domain false) (Rows.basisComplementarySpec.post enc Tryz.prog Tryz.f5 false true false false):=by
 refine returnsInHanded_of_change (C:=Tryz.checked) own started (by kernel_rfl) func5
  (ChangeSpec.witness6 (enc:=enc) (C:=Tryz.checked) false ⟨#[],#[.slice none 0 0,.slice none 0 0],[]⟩ 8 (by kernel_rfl) (by kernel_rfl) (by kernel_rfl) (by kernel_rfl)) ?_
 intro W base args ds gs before hval0 hW hcnd _
 have hval:∀(j:Nat) t v,Tryz.f5.params[j]? =some t->args[j]? =some v->Value.okWide Tryz.prog W .any base t v:=hval0
 have hW':=hW
 obtain⟨p,q,hA0,hV,rfl,hfz,hnd⟩:=hW
 have hA:DataW.TrodAll enc Tryz.prog W 0 (λ_=>true) true Tryz.f5.params.toList args.toList ds p:=hA0
 rw[Tryz.params5] at hA hval
 obtain⟨v0,vs0,d0,ds0,p0,q0,hargs,rfl,rfl,h0,r0⟩:=trodAll_cons hA
 obtain⟨v1,vs1,d1,ds1,p1,q1,rfl,rfl,rfl,h1,r1⟩:=trodAll_cons r0
 obtain⟨rfl,rfl,rfl⟩:=trodAll_nil r1
 obtain rfl:args=#[v0,v1]:=by cases args;simp_all
 obtain⟨rfl,rfl⟩:=trodVars_none hV
 obtain⟨a0,len0,cap0,rfl⟩:=okWide_slice underlying38 (hval 0 38 v0 rfl rfl)
 have k0:=h0
 have lt0:∀x∈p0,x.block<W.heap.size:=by obtain⟨m,hm⟩:=k0;exact DataW.trod_lt m _ _ _ hm
 obtain⟨D0,hD0⟩:∃D:Sl Int,Hd ρA 0 W (.c (cI D)) (.slice a0 len0 cap0):=by
  obtain⟨fuel,hf⟩:=h0
  obtain⟨D,⟨hl,_⟩,_⟩:=bKe (e:=1) (C:=λz:Int=>[iC z]) underlying38 (by kernel_rfl) bL (λ_=>rfl) (λ_=>cAm rfl) 0 aXg (λ_ _ _ _ _=>trivial) _ _ _ hf
  exact⟨D,.c hl.1⟩
 obtain⟨a1,len1,cap1,rfl⟩:=okWide_slice underlying38 (hval 1 38 v1 rfl rfl)
 have k1:=h1
 have lt1:∀x∈p1,x.block<W.heap.size:=by obtain⟨m,hm⟩:=k1;exact DataW.trod_lt m _ _ _ hm
 obtain⟨D1,hD1⟩:∃D:Sl Int,Hd ρA 0 W (.c (cI D)) (.slice a1 len1 cap1):=by
  obtain⟨fuel,hf⟩:=h1
  obtain⟨D,⟨hl,_⟩,_⟩:=bKe (e:=1) (C:=λz:Int=>[iC z]) underlying38 (by kernel_rfl) bL (λ_=>rfl) (λ_=>cAm rfl) 0 aXg (λ_ _ _ _ _=>trivial) _ _ _ hf
  exact⟨D,.c hl.1⟩
 clear hA0 hval0
 refine((cOs D0 D1).run ρA W [.slice a0 len0 cap0,.slice a1 len1 cap1] ⟨hD0,hD1,trivial⟩ ⟨λi T es l hi=>(by cases hi),λi j b hi=>absurd hi (aD _),λi b _ hi=>absurd hi (aD _),aI _,⟨rfl,rfl,rfl,aI _,λ_ _ _ _=>rfl⟩,λi hi=>rfl,⟨rfl,λ_ _=>trivial⟩,FamOk.nil,λb hb=> .inr hb⟩ rfl).mono λe W' ⟨v,he,g,ρ',_,hDr,hdv,_,_⟩=>?_
 have hr:=hDr.rel
 have bel:Below W.heap.size W W':=⟨hr.os,hr.tape,hr.output,hr.size,λk hk=>hr.block k hk (λi hi=>absurd hi (aD _)) λ⟨F,hF,_⟩=>by cases hF⟩
 have hv:v= .bool true:=by
  have h5:=hdv.inv_c.inv_b
  rw[h5]
  simp
 subst he hv
 exact⟨_,rfl,_,_,_,[],_,[],hW',trodAll_mk1 (shut_bool underlying4 _),(trodAll_cons_mk (Below.trod aXh (by kernel_rfl) (of_decide_eq_true (by kernel_rfl)) k0 bel lt0) (trodAll_cons_mk (Below.trod aXh (by kernel_rfl) (of_decide_eq_true (by kernel_rfl)) k1 bel lt1) trodAll_mk0)),rfl,bel.frame _,λh=>by cases h⟩
theorem cVo:Rows.basisComplementaryRow.holds Tryz.pinned (OpenSpec.ofChange Rows.basisComplementarySpec):=
 OpenClaim.holds_of_wide 5 Tryz.f5 rfl rfl rfl rfl rfl rfl rfl ⟨rfl,rfl,rfl,rfl,rfl⟩ rfl rfl rfl rfl rfl (by kernel_rfl) func5 (by kernel_rfl)
  (of_decide_eq_true (by kernel_rfl)) (by unfold Func.isWrapper;first|(rw[if_pos (by decide+kernel)];kernel_rfl)|(rw[if_neg (by decide+kernel)];exact⟨rfl,rfl⟩))
  (λos started H enc _=>cEm os started H enc)
theorem proved:Rows.BasisComplementarySaid:=cVo
#print axioms proved
end basisComplementaryDone
end Go.Proofs.YtghncoghdcmdfaaGreat
