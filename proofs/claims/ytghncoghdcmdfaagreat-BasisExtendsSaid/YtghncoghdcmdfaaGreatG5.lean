/- THE STATEMENT BasisExtends of the program's law 13 is proved: for every input the law returns true; it has no conditions. Part 5 of 7: Se Pj Sf Sg Sh Si Sj Sk Sl Sm Sn So Sp Sq Kb Rm Kc Kd Sr Ss St Su Ke Qa Qb Qc Qd Qe Qf Qg Qh Sy Qi Qj Qk. -/
import Derived.Shelf.Small.Bits
import Derived.Test.YtghncoghdcmdfaaGreatG4
set_option maxHeartbeats 4000000
set_option linter.unusedVariables false
set_option linter.unusedSimpArgs false
namespace Go.Proofs.YtghncoghdcmdfaaGreat
open Go.Vg _root_.Go.Proofs.Tryz
open Go.Vm
open Go.Vy hiding val
set_option maxRecDepth 20000
def aFc (O:List Nat):List Int:=O.map λi:Nat=>(i:Int)
theorem bNq {O:List Nat} {k:Nat} (h:k<O.length):((aFc O).map iC)[k*1]? =some (iC (O.getD k 0:Nat)):=by
 unfold aFc
 rw[bI,kO,dW,aG h,gd h];rfl
theorem aNp {O:List Nat}:(aFc O).length=O.length:=by unfold aFc;simp
theorem aHb {O:List Nat} {i:Nat}:(aFc O).map iC++[iC (i:Nat)]=(aFc (O++[i])).map iC:=by unfold aFc;simp
theorem aYa {O:List Nat} {p q:List CV} {k:CV} {l:List Nat} (h:(O++kI (p++k::q)).Perm l):((O++[nR k])++kI (p++q)).Perm l:=by
 refine List.Perm.trans ?_ h
 unfold kI
 rw[cU,bG,bG,eQ]
 have h2:(nR k::(List.map nR p++List.map nR q)).Perm (List.map nR p++nR k::List.map nR q):=List.perm_middle.symm
 exact List.Perm.append_left _ h2
abbrev seB (n a:Nat) (x:El) (A:List Int) (pv:Sl EntM) (inv:RatM) (O:List Nat):BL:=[elE 1 2 3 4 n a,elR n x,elL n x,elC n x,elA A,(155,0,[.p 0 0]),(65,0,[cF pv]),(62,0,inv.C),(3,1,(aFc O).map iC)]
theorem aBv {n a:Nat} {x:El} {A:List Int} {pv:Sl EntM} {inv:RatM} {O:List Nat}:scB 9 (seB n a x A pv inv O):=aB rfl (aB (bU (aX λ_ _=>rfl)) (aB (bU (aX λ_ _=>rfl)) (aB (bU (aX λ_ _=>rfl)) (aB (bU (bK _)) (aB rfl (aB rfl (aB rfl (aB (bU (bK _)) aY))))))))
theorem aFd {n a:Nat} {x:El} {A:List Int} {pv:Sl EntM} {inv:RatM} {O:List Nat} (f:RatM):scB 10 (seB n a x A pv inv O++[(62,0,f.C)]):=aB rfl (aB (bU (aX λ_ _=>rfl)) (aB (bU (aX λ_ _=>rfl)) (aB (bU (aX λ_ _=>rfl)) (aB (bU (bK _)) (aB rfl (aB rfl (aB rfl (aB (bU (bK _)) (aB rfl aY)))))))))
abbrev seG (c kk:Nat) (r0:Nat) (l:Nat):List (Nat×DV):=[(12,.c (.s 8 l)),(44,.c (.hp r0 0)),(9,.c (.f aAs [] [(6,0),(5,0)])),(4,.c (.p 5 0)),(10,.c (.p 7 0)),(8,.c (.p 6 0)),(1,.c (iC kk)),(3,.c (iC c))]
theorem ck {α:Type} {a b:α} {l m:List α} (h:a=b) (h':l=m):a::l=b::m:=by rw[h,h']
theorem ElOk.leave {x:El} {n r c:Nat} {es lw:Nat->List En} {used:Nat->Prop} {I:Nat->List CV} (h:ElOk x n es lw used) (hr:r<n) (hI:DI (es r) n r (es r).length x.I I):ElOk (x.maps I) n es lw (λi=>used i\/i=r):=
 ⟨h.row,h.ok,h.low,h.ca,λj hj=>(hI j hj).1 (h.nd j hj),λj hj i=>by
  show i∈kI (I j)↔_
  rw[(hI j hj).2 i,h.mem j hj i,cW]
  constructor
  ·rintro⟨⟨⟨a1,a2⟩,a3⟩,a4⟩
   exact⟨⟨a1,λa=>a.elim a2 λe=>a4 ⟨e,(tS (h.ok r hr).1 _).1 (e▸a3)⟩⟩,a3⟩
  rintro⟨⟨a1,a2⟩,a3⟩
  exact⟨⟨⟨a1,λa=>a2 (.inl a)⟩,a3⟩,λ⟨e,_⟩=>a2 (.inr e)⟩⟩
def cJt:Ord:=.joinX [] [0,2001,2002,3,2004,2005,1006,2007,9] (.alt 8 (.alt 10 (trS [11,1012]) (.alt 11 (trS [10,1012]) .nil)) (.alt 11 (trS [8,10,1012]) .nil))
def cJu:Ord:=.treeX [] [0,2001,2002,3,2004,5,2006,2007,8,2009,2010,1011,2012,13,2014] (trS [15,16,2017,1018])
def cJv:Ord:=.treeX [] [0,2001,2002,3,2004,5,2006,2007,8,2009,2010,1011,12,14] (trS [13,15,2016,1017])
abbrev bGg (c kk l k:Nat):List (Nat×DV):=[(55,.c (iC k)),(53,.c (.s 8 l)),(54,.c (iC l)),(9,.c (.f aAs [] [(6,0),(5,0)])),(4,.c (.p 5 0)),(10,.c (.p 7 0)),(8,.c (.p 6 0)),(1,.c (iC kk)),(3,.c (iC c))]
abbrev bNr (c kk l k i:Nat):List (Nat×DV):=(16,.c (.p 9 0))::(15,.c (iC i))::bGg c kk l k
abbrev bZf (c kk l k i:Nat) (g:Sl EntM) (k2:Nat):List (Nat×DV):=(116,.c (iC k2))::(114,.c (cF g))::(115,.c (iC (g.l.length:Nat)))::(15,.c (iC i))::bGg c kk l k
abbrev seY (y:El) (i kk:Nat) (g:Sl EntM) (A':Option Nat) (c':Nat) (f:RatM) (Cc:Nat->Nat) (I:Nat->List CV):El:=⟨upd y.R i g,upd y.LA i A',upd y.Lc i c',upd y.L i (y.L i++[⟨kk,f⟩]),y.CA,Cc,I⟩
abbrev aRk:FuncId:=115
theorem bZg:Ent Tryz.prog aRk:=aU func115 rfl kR
theorem bZh:Tryz.prog.funcs[aRk]? =some Tryz.f115:=func115
theorem bZi (x:El) {n B r c kk:Nat} {A:List Int} {es lw:Nat->List En} {used:Nat->Prop} (h:ElOk x n es lw used) (hn:n<=4096) (hr:r<n) (hu:¬used r) (hc:c<n) (hp:Vm.get (es r) (c:Nat)≠0) (hb:rbM es n B) (hbl:rbM lw n B) (h1:1<=B) (hB:B<=4398046511104) (hBo:∀i,i<n->¬used i->i≠r->4*B+1<=4398046511104) (hkk:kk<=4096) (hlw:∀i,i<n->(lw i).length<=4096):
 CtrF Tryz.prog aRk chL [.c (.p 0 0),.c (iC kk),.c (iC r),.c (iC c)] (chB n A.length x A) [LF n x,CF n x] (λg:El×(Nat->List En)×(Nat->List En)=>⟨.t [],chB n A.length g.1 A,[LF n g.1,CF n g.1],(ElOk g.1 n g.2.1 g.2.2 (λi=>used i\/i=r)/\StR r c kk es lw g.2.1 g.2.2 λi=>(i<n/\¬used i/\i≠r)/\Vm.get (es i) (c:Nat)≠0)/\rbM g.2.1 n (4*B+1)/\rbM g.2.2 n (4*B+1)⟩):=by
 have hrk:=h.row r hr
 have hro:=h.ok r hr
 have hev:=hrk.ev (hb r hr)
 obtain⟨b,hbc⟩:=h.ca c hc
 refine nX gT bZg bZh rfl rfl rfl bL aFb (aA gT mxd ?_)
 refine⟨r,⟨rfl,hr,cQ hr⟩,_,eB hr,_,rfl,[6,5,0,1,2,3,4,1001],aVe x (x.R r) (A:=A) (i:=r) hrk hro.1 hro.2 hn h.ca,rfl,rfl,rfl,λI hI=>?_⟩
 replace hI:DI (es r) n r (es r).length x.I I:=hI
 refine⟨[],bEj (x.R r) (c:Nat) hev (hb r hr) hro.1.1 h1 oM,rfl,rfl,rfl,λpg hpg=>⟨[],bXo pg ((Cr.rq hpg (oU hro.1.1 (hb r hr) h1)).le) (oU hro.1.1 (hb r hr) h1) hp,rfl,rfl,rfl,λinv hinv=>?_⟩⟩
 replace hinv:Rq inv (Vm.get (es r) (c:Nat))⁻¹ B:=hinv
 refine⟨c,⟨rfl,hc,cQ hc⟩,_,aAq hc hbc,1,c,⟨hc,hbc⟩,λr0=>?_⟩
 show Sd _ _ _ _ _ _
 refine aNd tSd 12 3 1 rfl bL rfl ?_
 have cl1:∀{i:Nat},∀c∈(elR n x).2.2,kU i c=false:=λc hc=>cY (aX (λ_ _=>rfl) c hc)
 have cl2:∀{i:Nat},∀c∈(elL n x).2.2,kU i c=false:=λc hc=>cY (aX (λ_ _=>rfl) c hc)
 have cl3:∀{i:Nat},∀c∈(elC n x).2.2,kU i c=false:=λc hc=>cY (aX (λ_ _=>rfl) c hc)
 have cl4:∀{i:Nat},∀c∈A.map iC,kU i c=false:=λc hc=>cY (bK A c hc)
 have hkI:∀i,i∈kI (I c)↔(i<n/\¬used i/\i≠r)/\Vm.get (es i) (c:Nat)≠0:=λi=>by
  rw[(hI c hc).2 i,h.mem c hc i,cW]
  constructor
  ·rintro⟨⟨⟨a1,a2⟩,a3⟩,a4⟩
   exact⟨⟨a1,a2,λe=>a4 ⟨e,(tS hro.1 _).1 hp⟩⟩,a3⟩
  rintro⟨⟨a1,a2,a4⟩,a3⟩
  exact⟨⟨⟨a1,a2⟩,a3⟩,λ⟨e,_⟩=>a4 e⟩
 have hkd:(kI (I c)).Nodup:=(hI c hc).1 (h.nd c hc)
 have hkl:(kI (I c)).length<=n:=qI hkd λi hi=>((hkI i).1 hi).1.1
 refine cG (λ_=>true) (λg:List Nat×(Nat->List CV)×Nat×(Nat->List CV)=>seG c kk r0 g.1.length) (λg=>seB n A.length x A (x.R r) inv g.1) (λg=>[LF n x,CF n (x.maps I),itF r0 g.2.2.2]) (λg=>(g.2.1 1=I c/\g.2.2.1<=x.Cc c/\g.2.2.2 0=[.r none 0 b g.2.2.1 g.2.1])/\(g.1++kI (g.2.1 0)).Perm (kI (I c))/\∀k∈g.2.1 0,k∈I c) (λg=>(g.2.1 0).length) λhM=>⟨bH hM (chg:=λg:List Nat×(Nat->List CV)×Nat×(Nat->List CV)=>seG c kk r0 g.1.length) (bls:=λg=>seB n A.length x A (x.R r) inv g.1) (fls:=λg=>[LF n x,CF n (x.maps I),itF r0 g.2.2.2]) ([],aPj (I c),x.Cc c,λ_=>[.r none 0 b (x.Cc c) (aPj (I c))]) ⟨⟨rfl,aI _,rfl⟩,xW _,λk hk=>hk⟩ rfl ⟨rfl,rfl,rfl,rfl,rfl,rfl,rfl,rfl,rfl⟩ ⟨rfl,rfl,rfl,trivial⟩ ⟨rfl,rfl,rfl,rfl,rfl,rfl,rfl,rfl⟩ bL aBv rfl,λ⟨O,gg,st,G⟩ ⟨⟨i1,i2,iG⟩,hO,hg0⟩=>aA gT mxd ⟨2,1,c,b,st,gg,⟨bL,rfl,iG,hc,hbc,i1,i2⟩,λh6=>?_,λp k q h6=>?_⟩⟩
 all_goals
  replace i1:gg 1=I c:=i1
  replace i2:st<=x.Cc c:=i2
  replace iG:G 0=[.r none 0 b st gg]:=iG
  replace hO:(O++kI (gg 0)).Perm (kI (I c)):=hO
  replace hg0:∀k∈gg 0,k∈I c:=hg0
  have hOl:O.length+(gg 0).length<=n:=by
   have:=hO.length_eq
   rw[aE,aN] at this
   omega
 ·have hOk:O.Perm (kI (I c)):=by
   have h7:=hO
   rw[h6] at h7
   simpa[kI] using h7
  have hOm:∀i,i∈O↔(i<n/\¬used i/\i≠r)/\Vm.get (es i) (c:Nat)≠0:=λi=>hOk.mem_iff.trans (hkI i)
  have hOd:O.Nodup:=hOk.nodup_iff.2 hkd
  have hE0:=h.leave (c:=c) hr hI
  refine aA gT mxd ?_
  show Sd _ _ _ _ _ _
  refine cG (λ_=>true) (λg:Nat×El×(Nat->List En)×(Nat->List En)=>bGg c kk O.length g.1) (λg=>seB n A.length g.2.1 A (x.R r) inv O) (λg=>[LF n g.2.1,CF n g.2.1]) (λg=>g.1<=O.length/\ElOk g.2.1 n g.2.2.1 g.2.2.2 (λi=>used i\/i=r)/\StR r c kk es lw g.2.2.1 g.2.2.2 (·∈O.take g.1)/\rbM g.2.2.1 n (4*B+1)/\rbM g.2.2.2 n (4*B+1)) (λg=>O.length-g.1) λhM=>⟨bH hM (chg:=λg:Nat×El×(Nat->List En)×(Nat->List En)=>bGg c kk O.length g.1) (bls:=λg=>seB n A.length g.2.1 A (x.R r) inv O) (fls:=λg=>[LF n g.2.1,CF n g.2.1]) (0,x.maps I,es,lw) ⟨aC _,hE0,⟨λi hi=>absurd hi dZ,λi _=>⟨rfl,rfl⟩⟩,λi hi e he=>(hb i hi e he).le,λi hi e he=>(hbl i hi e he).le⟩ rfl ⟨rfl,rfl,rfl,rfl,rfl,rfl,rfl,rfl,rfl⟩ ⟨rfl,rfl,trivial⟩ ⟨rfl,rfl,rfl,rfl,rfl,rfl,rfl,rfl,rfl⟩ bL aBv rfl,λ⟨k,y,es',lw'⟩ ⟨hk,hE,hS,hb',hbl'⟩=>aA gT mxd ⟨λh7=>aA gT mxd ?_,λh7=>aA gT mxd ?_⟩⟩
  all_goals
   replace hk:k<=O.length:=hk
   replace hE:ElOk y n es' lw' (λi=>used i\/i=r):=hE
   replace hS:StR r c kk es lw es' lw' (·∈O.take k):=hS
   replace hb':rbM es' n (4*B+1):=hb'
   replace hbl':rbM lw' n (4*B+1):=hbl'
  ·replace h7:(k:Int)<(O.length:Nat):=h7
   have hkl:k<O.length:=by omega
   obtain⟨i,hi⟩:∃i,i=O.getD k 0:=⟨_,rfl⟩
   have hiO:i∈O:=by rw[hi,gd hkl];exact jK hkl
   obtain⟨⟨hin,hui,hir⟩,hgi⟩:=(hOm i).1 hiO
   have hB4:=hBo i hin hui hir
   have hrO:r∉O.take k:=λhh=>((hOm r).1 (cV hh)).1.2.2 rfl
   obtain⟨er,-⟩:=hS.no r hrO
   have hni:i∉O.take k:=λhh=>by
    have h1:(O.take k++[O.getD k 0]).Nodup:=by
     have ht:O.take (k+1)=O.take k++[O.getD k 0]:=by rw[dF,aG hkl,gd hkl];rfl
     rw[<-ht];exact hOd.sublist (iE _ _)
    exact(kP.1 h1).2.2 _ hh _ (by rw[hi];exact .head _) rfl
   obtain⟨ei,el⟩:=hS.no i hni
   have hrow:=hE.row i hin
   rw[ei] at hrow
   have hoi:=h.ok i hin
   have hlo:=hE.low i hin
   rw[el] at hlo
   have hli:=hlw i hin
   have hll:(y.L i).length=(lw i).length:=hlo.ln
   have hci:(dI n λj=>cF (y.R j))[i*1]? =some (cF (y.R i)):=eB hin
   have hci2:(dI n (hdP y.LA y.Lc y.L))[i*1]? =some (.h (y.LA i) (y.L i).length (y.Lc i)):=eB hin
   have rg:=oU hoi.1.1 (hb i hin) h1 (i:=(c:Nat))
   have rv:rb (Vm.get (es r) (c:Nat))⁻¹ B:=hinv.rb h1
   have rf:rb (fac es r c i) (B+B):=gY rg rv
   have cg:=bEj (y.R i) (c:Nat) (hrow.ev (hb i hin)) (hb i hin) hoi.1.1 h1 oM
   have ix1:k*1<((aFc O).map iC).length:=by rw[aN,aNp];omega
   refine⟨k,⟨rfl,hkl,ix1⟩,_,(bNq hkl).trans (by rw[<-hi]),?_⟩
   refine⟨cJt,by kernel_rfl,RatM,λf=>⟨bNr c kk O.length k i++[],[],seB n A.length y A (x.R r) inv O++[(62,0,f.C)],[LF n y,CF n y]⟩,λf=>Cr f (fac es r c i),⟨i,⟨rfl,hin,cQ hin⟩,_,_,⟨hci,rfl⟩,?_⟩,λf hf=>?_⟩
   ·have cm:∀g:RatM,Cr g (Vm.get (es i) (c:Nat))->Ctr Tryz.prog aUp [] [.a g.C,.a inv.C] [] (rV (fac es r c i)):=λg hg=>xC g inv ((Cr.rq hg rg).le) hinv.le
    exact⟨⟨[],cg,rfl,rfl,rfl,λg hg=>⟨ck rfl (ck rfl (ck rfl (ck (congrArg tP hci) (ck rfl (ck rfl rfl))))),⟨[],cm g hg,rfl,rfl,rfl,λf hf=>⟨ck rfl (ck rfl (ck rfl (ck (congrArg tP hci) (ck rfl (ck rfl rfl))))),ck rfl (ck rfl (ck rfl (ck (congrArg tP hci) (ck rfl (ck rfl rfl))))),bH hM (chg:=λ_:RatM=>bNr c kk O.length k i) (bls:=λf=>seB n A.length y A (x.R r) inv O++[(62,0,f.C)]) (fls:=λ_=>[LF n y,CF n y]) f hf rfl ⟨rfl,rfl,rfl,rfl,rfl,rfl,rfl,rfl,rfl,rfl⟩ ⟨rfl,rfl,trivial⟩ ⟨rfl,rfl,rfl,rfl,rfl,rfl,rfl,rfl,rfl,rfl,rfl⟩ bL (aFd f) rfl⟩⟩,ck rfl (ck rfl (ck rfl (ck (congrArg tP hci) (ck rfl (ck rfl rfl))))),[],cm g hg,rfl,rfl,rfl,λf hf=>⟨ck rfl (ck rfl (ck rfl (ck (congrArg tP hci) (ck rfl (ck rfl rfl))))),bH hM (chg:=λ_:RatM=>bNr c kk O.length k i) (bls:=λf=>seB n A.length y A (x.R r) inv O++[(62,0,f.C)]) (fls:=λ_=>[LF n y,CF n y]) f hf rfl ⟨rfl,rfl,rfl,rfl,rfl,rfl,rfl,rfl,rfl,rfl⟩ ⟨rfl,rfl,trivial⟩ ⟨rfl,rfl,rfl,rfl,rfl,rfl,rfl,rfl,rfl,rfl,rfl⟩ bL (aFd f) rfl⟩⟩⟩,ck rfl (ck rfl (ck rfl (ck (congrArg tP hci) (ck rfl (ck rfl rfl))))),[],cg,rfl,rfl,rfl,λg hg=>⟨ck rfl (ck rfl (ck rfl (ck (congrArg tP hci) (ck rfl (ck rfl rfl))))),[],cm g hg,rfl,rfl,rfl,λf hf=>⟨ck rfl (ck rfl (ck rfl (ck (congrArg tP hci) (ck rfl (ck rfl rfl))))),bH hM (chg:=λ_:RatM=>bNr c kk O.length k i) (bls:=λf=>seB n A.length y A (x.R r) inv O++[(62,0,f.C)]) (fls:=λ_=>[LF n y,CF n y]) f hf rfl ⟨rfl,rfl,rfl,rfl,rfl,rfl,rfl,rfl,rfl,rfl⟩ ⟨rfl,rfl,trivial⟩ ⟨rfl,rfl,rfl,rfl,rfl,rfl,rfl,rfl,rfl,rfl,rfl⟩ bL (aFd f) rfl⟩⟩⟩
   replace hf:Cr f (fac es r c i):=hf
   have hcl:∀c'∈(⟨kk,f⟩:EntM).C,fK c'=true:=λc' hc'=>by
    rcases bZ.1 hc' with rfl|hc'
    ·rfl
    exact iY _ c' hc'
   refine⟨cJu,by kernel_rfl,i,⟨rfl,hin,cQ hin⟩,_,_,⟨hci2,rfl⟩,ck rfl (ck rfl (ck rfl (ck (congrArg tP hci2) (ck rfl (ck rfl (ck rfl (ck rfl rfl))))))),0,i,⟨rfl,hin,rfl,rfl,(gM _).symm,by show(y.L i).length+1<=maxLen;simp only[maxLen];omega,by show((y.L i).length+1)*64<=_;omega,hcl⟩,λA' c'=>⟨ck rfl (ck rfl (ck rfl (ck (congrArg tP hci2) (ck rfl (ck rfl (ck rfl (ck rfl rfl))))))),i,⟨rfl,hin,cQ hin⟩,_,aBp (e:=⟨kk,f⟩) hin,?_⟩⟩
   refine⟨cJv,by kernel_rfl,i,⟨rfl,hin,cQ hin⟩,_,_,⟨hci,rfl⟩,[],bDy f ((Cr.rq hf rf).le),rfl,rfl,rfl,λq hq=>⟨ck rfl (ck rfl (ck rfl (ck rfl (ck (congrArg tP hci) (ck rfl (ck rfl (ck rfl (ck rfl rfl)))))))),[],bEq (y.R i) (x.R r) q (hrow.ev (hb i hin)) hev (hb i hin) (hb r hr) h1 (Cr.rq hq (xA rf)) (xA rf) oM hoi.1.1 hro.1.1 (by have:=hoi.2;omega) (by have:=hro.2;omega),rfl,rfl,rfl,λg hg=>⟨ck rfl (ck rfl (ck rfl (ck rfl (ck (congrArg tP hci) (ck rfl (ck rfl (ck rfl (ck rfl rfl)))))))),i,⟨rfl,hin,cQ hin⟩,_,gU (c:=cF g) (Q:=λk=>cF (upd y.R i g k)) hin (λj _=>?_),?_⟩⟩⟩
   ·by_cases e:j=i
    ·subst e;rw[if_pos rfl,bJ]
    rw[if_neg e,bD e]
   obtain⟨rs,hgr,hm⟩:=hg
   have hv:=aRj hm hoi.1 hro.1
   have hvl:=kW hv
   have hgl:=hgr.ln
   have hci3:(dI n λj=>cF (upd y.R i g j))[i*1]? =some (cF g):=(eB hin).trans (congrArg (λz=>some (cF z)) bJ)
   refine⟨_,rfl,[6,5,0,1,2,3,4,1001],aVe (seY y i kk g A' c' f y.Cc y.I) (x.R r) (A:=A) (i:=i) hrk hro.1 hro.2 hn hE.ca,rfl,rfl,rfl,λI2 hI2=>?_⟩
   replace hI2:DI (es r) n i (es r).length y.I I2:=hI2
   refine⟨i,⟨rfl,hin,cQ hin⟩,_,hci3,?_⟩
   show Sd _ _ _ _ _ _
   refine cG (λ_=>true) (λu:Nat×(Nat->Nat)×(Nat->List CV)=>bZf c kk O.length k i g u.1) (λu=>seB n A.length (seY y i kk g A' c' f u.2.1 u.2.2) A (x.R r) inv O) (λu=>[LF n (seY y i kk g A' c' f u.2.1 u.2.2),CF n (seY y i kk g A' c' f u.2.1 u.2.2)]) (λu=>u.1<=rs.length/\AI rs n i u.1 I2 u.2.2) (λu=>rs.length-u.1) λhM2=>⟨bH hM2 (chg:=λu:Nat×(Nat->Nat)×(Nat->List CV)=>bZf c kk O.length k i g u.1) (bls:=λu=>seB n A.length (seY y i kk g A' c' f u.2.1 u.2.2) A (x.R r) inv O) (fls:=λu=>[LF n (seY y i kk g A' c' f u.2.1 u.2.2),CF n (seY y i kk g A' c' f u.2.1 u.2.2)]) (0,y.Cc,I2) ⟨aC _,AI.start⟩ rfl ⟨rfl,rfl,rfl,rfl,rfl,rfl,rfl,rfl,rfl⟩ ⟨aDa (T:=82) (n:=n) (A:=upd y.LA i A') (cap:=upd y.Lc i c') (G:=y.L) (j:=i) (e:=⟨kk,f⟩),rfl,trivial⟩ ⟨rfl,rfl,rfl,rfl,rfl,rfl,rfl,rfl,rfl,rfl,rfl,rfl,rfl⟩ bL aBv rfl,λ⟨k2,Cc,I3⟩ ⟨hk2,hA⟩=>aA gT mxd ⟨λh8=>aA gT mxd ?_,λh8=>aA gT mxd ?_⟩⟩
   all_goals
    replace hk2:k2<=rs.length:=hk2
    replace hA:AI rs n i k2 I2 I3:=hA
   ·have hk2l:k2<rs.length:=by replace h8:(k2:Int)<(g.l.length:Nat):=h8;omega
    have he:=hgr.e k2 hk2l
    have e0:=hv.2 _ (fO hk2l)
    obtain⟨j0,hj0⟩:∃j0:Nat,(rs.getD k2 default).1=(j0:Nat):=⟨(rs.getD k2 default).1.toNat,by omega⟩
    have hjn:j0<n:=by omega
    have hix:(g.l.getD k2 default).ix=(j0:Nat):=he.1.trans hj0
    obtain⟨bb,hbj⟩:=hE.ca j0 hjn
    refine⟨k2,⟨rfl,show k2<g.l.length by omega⟩,oLv,by kernel_rfl,j0,⟨hix,hjn,cQ hjn⟩,_,_,⟨aAq hjn hbj,rfl⟩,1,j0,i,⟨hjn,hbj,rfl⟩,(k2+1:Nat),wi,?_⟩
    exact bH hM2 (chg:=λu:Nat×(Nat->Nat)×(Nat->List CV)=>bZf c kk O.length k i g u.1) (bls:=λu=>seB n A.length (seY y i kk g A' c' f u.2.1 u.2.2) A (x.R r) inv O) (fls:=λu=>[LF n (seY y i kk g A' c' f u.2.1 u.2.2),CF n (seY y i kk g A' c' f u.2.1 u.2.2)]) (k2+1,upd Cc j0 (wT (I3 j0) (Cc j0) i).2,upd I3 j0 (wT (I3 j0) (Cc j0) i).1) ⟨⟨hk2l,hA.next hk2l hj0⟩,show rs.length-(k2+1)<rs.length-k2 by omega⟩ rfl ⟨rfl,rfl,rfl,rfl,rfl,rfl,rfl,rfl,rfl⟩ ⟨rfl,rfl,trivial⟩ ⟨rfl,rfl,rfl,rfl,rfl,rfl,rfl,rfl,rfl,rfl,rfl,rfl,rfl⟩ bL aBv rfl
   obtain rfl:k2=rs.length:=by replace h8:¬(k2:Int)<(g.l.length:Nat):=h8;omega
   have hSn:=hS.next hkl hOd (rs:=rs) (by rw[<-hi];exact hm)
   rw[<-hi] at hSn
   obtain⟨-,-,hS2⟩:=hSn
   have hE2:=bGf (c:=c) (kk:=kk) (LA':=A') (Lc':=c') (Cc':=Cc) (e:=⟨kk,f⟩) (z:=((kk:Int),fac es r c i)) hE hr hin (λhh=>hh.elim hui hir) hgr (by rw[ei,er];exact hm) rfl hf (by rw[er];exact hI2) hA
   rw[el] at hE2
   have hbr:=bRm hm hoi.1.1 hro.1.1 h1 (hb i hin) (hb r hr) (xA rf)
   refine⟨(k+1:Nat),wi,bH hM (chg:=λg:Nat×El×(Nat->List En)×(Nat->List En)=>bGg c kk O.length g.1) (bls:=λg=>seB n A.length g.2.1 A (x.R r) inv O) (fls:=λg=>[LF n g.2.1,CF n g.2.1]) (k+1,seY y i kk g A' c' f Cc I3,upd es' i rs,upd lw' i (lw i++[((kk:Int),fac es r c i)])) ⟨⟨hkl,hE2,hS2,λj hj=>?_,λj hj=>?_⟩,show O.length-(k+1)<O.length-k by omega⟩ rfl ⟨rfl,rfl,rfl,rfl,rfl,rfl,rfl,rfl,rfl⟩ ⟨rfl,rfl,trivial⟩ ⟨rfl,rfl,rfl,rfl,rfl,rfl,rfl,rfl,rfl⟩ bL aBv rfl⟩
   ·show rbE (upd es' i rs j) _
    by_cases e:j=i
    ·subst e;rw[bJ];exact λe' he'=>(hbr e' he').le
    rw[bD e];exact hb' j hj
   show rbE (upd lw' i _ j) _
   by_cases e:j=i
   ·subst e
    rw[bJ]
    intro e' he'
    rcases aQ.1 he' with he'|he'
    ·exact(hbl j hin e' he').le
    rw[aH.1 he'];exact rf.le
   rw[bD e];exact hbl' j hj
  replace h7:¬(k:Int)<(O.length:Nat):=h7
  obtain rfl:k=O.length:=by omega
  rw[cW] at hS
  exact⟨(y,es',lw'),⟨⟨hE,λi hi=>hS.yes i ((hOm i).2 hi),λi hi=>hS.no i λhh=>hi ((hOm i).1 hh)⟩,hb',hbl'⟩,kG rfl ⟨rfl,rfl,rfl,rfl,rfl⟩ ⟨rfl,rfl,trivial⟩ bL aRg rfl aFb⟩
 have hG':upd G 0 [CV.r none 0 b (x.Cc c) (zZ p q (I c) k)] 0=[CV.r none 0 b (x.Cc c) (zZ p q (I c) k)]:=bJ
 have hk:k∈I c:=hg0 k (by rw[h6];exact dS _ (.head _))
 have hmea:(p++q).length<(gg 0).length:=by rw[h6];simp
 refine⟨2,1,c,b,k,zZ p q (I c) k,⟨bL,rfl,hG',hc,hbc,rfl,hk⟩,?_⟩
 have m8:∀{i:Nat},∀c∈(aFc O).map iC++[iC (nR k:Nat)],kU i c=false:=λc hc=>by rw[aHb] at hc;exact cY (bK _ c hc)
 have l8:O.length*1=((aFc O).map iC).length:=by rw[aN,aNp];omega
 refine⟨⟨rfl,l8,by show O.length+1<=maxLen;simp only[maxLen];omega,by show(O.length+1)*8<=_;omega,m8⟩,cl1,cl2,cl3,cl4,bLw,?_⟩
 exact bH hM (chg:=λg:List Nat×(Nat->List CV)×Nat×(Nat->List CV)=>seG c kk r0 g.1.length) (bls:=λg=>seB n A.length x A (x.R r) inv g.1) (fls:=λg=>[LF n x,CF n (x.maps I),itF r0 g.2.2.2]) (O++[nR k],zZ p q (I c) k,x.Cc c,upd G 0 [.r none 0 b (x.Cc c) (zZ p q (I c) k)]) ⟨⟨⟨rfl,aI _,hG'⟩,aYa (h6▸hO),λk' hk'=>hg0 k' (by
  rw[h6]
  rcases aQ.1 hk' with hh|hh
  ·exact dK _ hh
  exact dS _ (.tail _ hh))⟩,hmea⟩ rfl ⟨rfl,rfl,rfl,rfl,rfl,rfl,rfl,rfl,congrArg (λl:List CV=>((3,1,l):TypeId×Nat×List CV)) aHb⟩ ⟨rfl,rfl,rfl,trivial⟩ ⟨by show O.length+1=(O++[nR k]).length;simp,rfl,rfl,rfl,rfl,rfl,rfl,rfl⟩ bL aBv rfl
end Go.Proofs.YtghncoghdcmdfaaGreat
namespace Go.Proofs.YtghncoghdcmdfaaGreat
open Go.Vg _root_.Go.Proofs.Tryz
open Go.Vm hiding sgn
open Go.Vy hiding val
set_option maxRecDepth 8000
def cmE (x y:Int):Int:=if x<y then-1 else if y<x then 1 else 0
theorem bGh {x y:Int}:cmE x y<0↔x<y:=by unfold cmE;split<;>(try split)<;>omega
abbrev bZj:FuncId:=207
theorem cQt:Ent Tryz.prog bZj:=aU func207 rfl kR
theorem cQu:Tryz.prog.funcs[bZj]? =some Tryz.f207:=func207
theorem bRn (x:Int):Ctr Tryz.prog bZj [] [.c (iC x)] [] (λ_:Unit=>⟨pC False,[],True⟩):=by
 refine aW gT cQt cQu rfl rfl rfl bL aS (aA gT mxd ⟨(),trivial,aM (show(x≠x↔False) from ⟨λh=>h rfl,λh=>h.elim⟩) rfl trivial⟩)
abbrev bZk:FuncId:=159
theorem cQv:Ent Tryz.prog bZk:=aU func159 rfl kR
theorem cQw:Tryz.prog.funcs[bZk]? =some Tryz.f159:=func159
theorem bGi (x y:Int):Ctr Tryz.prog bZk [] [.c (iC x),.c (iC y)] [] (λ_:Unit=>⟨.c (iC (cmE x y)),[],True⟩):=by
 refine aW gT cQv cQw rfl rfl rfl bL aS (aA gT mxd ⟨[],bRn x,rfl,rfl,rfl,λ_ _=>⟨[],bRn y,rfl,rfl,rfl,λ_ _=>⟨λh=>absurd h id,λ_=>aA gT mxd ⟨λh=>absurd h id,λ_=>aA gT mxd ⟨λh1=>aA gT mxd ?_,λh1=>aA gT mxd ⟨λh2=>aA gT mxd ?_,λh2=>aA gT mxd ?_⟩⟩⟩⟩⟩⟩)
 ·replace h1:x<y:=h1
  exact⟨(),trivial,aM (show-1=cmE x y by unfold cmE;rw[if_pos h1]) rfl trivial⟩
 ·replace h1:¬x<y:=h1
  replace h2:y<x:=h2
  exact⟨(),trivial,aM (show 1=cmE x y by unfold cmE;rw[if_neg h1,if_pos h2]) rfl trivial⟩
 replace h1:¬x<y:=h1
 replace h2:¬y<x:=h2
 exact⟨(),trivial,aM (show 0=cmE x y by unfold cmE;rw[if_neg h1,if_neg h2]) rfl trivial⟩
abbrev bZl:FuncId:=209
theorem cQx:Ent Tryz.prog bZl:=aU func209 rfl kR
theorem cQy:Tryz.prog.funcs[bZl]? =some Tryz.f209:=func209
theorem bGj (x:Int):Ctr Tryz.prog bZl [] [.c (iC x)] [] (λ_:Unit=>⟨pC False,[],True⟩):=by
 refine aW gT cQx cQy rfl rfl rfl bL aS (aA gT mxd ⟨(),trivial,aM (show(x≠x↔False) from ⟨λh=>h rfl,λh=>h.elim⟩) rfl trivial⟩)
abbrev bZm:FuncId:=161
theorem cQz:Ent Tryz.prog bZm:=aU func161 rfl kR
theorem cRa:Tryz.prog.funcs[bZm]? =some Tryz.f161:=func161
theorem cJw (x y:Int):Ctr Tryz.prog bZm [] [.c (iC x),.c (iC y)] [] (λ_:Unit=>⟨.c (iC (cmE x y)),[],True⟩):=by
 refine aW gT cQz cRa rfl rfl rfl bL aS (aA gT mxd ⟨[],bGj x,rfl,rfl,rfl,λ_ _=>⟨[],bGj y,rfl,rfl,rfl,λ_ _=>⟨λh=>absurd h id,λ_=>aA gT mxd ⟨λh=>absurd h id,λ_=>aA gT mxd ⟨λh1=>aA gT mxd ?_,λh1=>aA gT mxd ⟨λh2=>aA gT mxd ?_,λh2=>aA gT mxd ?_⟩⟩⟩⟩⟩⟩)
 ·replace h1:x<y:=h1
  exact⟨(),trivial,aM (show-1=cmE x y by unfold cmE;rw[if_pos h1]) rfl trivial⟩
 ·replace h1:¬x<y:=h1
  replace h2:y<x:=h2
  exact⟨(),trivial,aM (show 1=cmE x y by unfold cmE;rw[if_neg h1,if_pos h2]) rfl trivial⟩
 replace h1:¬x<y:=h1
 replace h2:¬y<x:=h2
 exact⟨(),trivial,aM (show 0=cmE x y by unfold cmE;rw[if_neg h1,if_neg h2]) rfl trivial⟩
abbrev aRl:FuncId:=162
theorem bZn:Ent Tryz.prog aRl:=aU func162 rfl kR
theorem bZo:Tryz.prog.funcs[aRl]? =some Tryz.f162:=func162
theorem bNs (i j:IntM) {a b:Int} (hi:In i a 35184372088832) (hj:In j b 35184372088832):Ctr Tryz.prog aRl [] [.a i.C,.a j.C] [] (λ_:Unit=>⟨.c (iC (cmE a b)),[],True⟩):=by
 have ha:=hi.abs
 have hb:=hj.abs
 refine aW gT bZn bZo rfl rfl rfl bL aS (aA gT mxd ⟨.seq [(0,false),(2,false),(1,false),(3,true),(4,false),(5,false)],by kernel_rfl,[],aEv i hi,rfl,rfl,rfl,λ_ _=>⟨[],aEv j hj,rfl,rfl,rfl,λ_ _=>⟨λh=>aA gT mxd ?_,λh=>aA gT mxd ⟨λh2=>aA gT mxd ?_,λh2=>aA gT mxd ⟨λh3=>aA gT mxd ?_,λh3=>aA gT mxd ?_⟩⟩⟩⟩⟩)
 ·replace h:sgn a<sgn b:=h
  refine⟨(),trivial,aM ?_ rfl trivial⟩
  show(-1:Int)=cmE a b
  unfold sgn at h;unfold cmE
  (repeat split at*)<;>omega
 all_goals replace h:¬sgn a<sgn b:=h
 ·replace h2:sgn b<sgn a:=h2
  refine⟨(),trivial,aM ?_ rfl trivial⟩
  show(1:Int)=cmE a b
  unfold sgn at h h2;unfold cmE
  (repeat split at*)<;>omega
 all_goals replace h2:¬sgn b<sgn a:=h2
 ·replace h3:sgn a<0:=h3
  refine⟨[],uY j.m i.m hj.lm hi.lm hj.ln hi.ln,rfl,rfl,rfl,λ_ _=>⟨(),trivial,aM ?_ rfl trivial⟩⟩
  show rU (val j.m.l) (val i.m.l)=cmE a b
  rw[ha,hb]
  unfold sgn at h h2 h3;unfold cmE rU
  (repeat split at*)<;>omega
 replace h3:¬sgn a<0:=h3
 refine⟨[],uY i.m j.m hi.lm hj.lm hi.ln hj.ln,rfl,rfl,rfl,λ_ _=>⟨(),trivial,aM ?_ rfl trivial⟩⟩
 show rU (val i.m.l) (val j.m.l)=cmE a b
 rw[ha,hb]
 unfold sgn at h h2 h3;unfold cmE rU
 (repeat split at*)<;>omega
def cmQ (a b:Rat):Int:=if a<b then-1 else if b<a then 1 else 0
theorem bRo (q:Rat):sgn q.num=cmQ q 0:=by
 have h1:q<0↔q.num<0:=by
  have:=Rat.num_nonneg (q:=q)
  grind
 have h2:q.num=0↔q=0:=dH
 unfold sgn cmQ
 (repeat split)<;>grind
theorem bNt {a b:Rat} (h:sgn a.num≠sgn b.num):cmE (sgn a.num) (sgn b.num)=cmQ a b:=by
 rw[bRo,bRo] at*
 unfold cmE
 unfold cmQ at*
 (repeat split at*)<;>grind
theorem bGk {a b c d:Int} {p q:Rat} (hc:0<c) (hd:0<d) (h1:Rat.divInt a c=p) (h2:Rat.divInt b d=q):cmE (a*d) (b*c)=cmQ p q:=by
 have e1:=aTe hc hd h1 h2
 have e2:=aTe hd hc h2 h1
 unfold cmE cmQ
 simp only[e1,e2]
abbrev aVf:FuncId:=100
theorem cJx:Ent Tryz.prog aVf:=aU func100 rfl kR
theorem cJy:Tryz.prog.funcs[aVf]? =some Tryz.f100:=func100
theorem vO (r s:RatM) {a b:Rat} (hr:Rq r a 4398046511104) (hs:Rq s b 4398046511104):Ctr Tryz.prog aVf [] [.a r.C,.a s.C] [] (λ_:Unit=>⟨.c (iC (cmQ a b)),[],True⟩):=by
 refine aW gT cJx cJy rfl rfl rfl bL aS (aA gT mxd ⟨.seq [(0,false),(2,false),(1,false),(3,true),(4,false),(5,false)],by kernel_rfl,[],kH r hr.le,rfl,rfl,rfl,λ_ _=>⟨[],kH s hs.le,rfl,rfl,rfl,λ_ _=>⟨λh=>aA gT mxd ?_,λh=>aA gT mxd ?_⟩⟩⟩)
 ·exact⟨[],bGi _ _,rfl,rfl,rfl,λ_ _=>⟨(),trivial,aM (bNt h) rfl trivial⟩⟩
 refine⟨[],rW r hr.le,rfl,rfl,rfl,λu hu=>⟨[],rW s hs.le,rfl,rfl,rfl,λv hv=>⟨λh=>aA gT mxd ?_,λ_=>aA gT mxd ?_⟩⟩⟩
 ·obtain⟨u1,u2,u3⟩:=hu h.1
  obtain⟨v1,v2,v3⟩:=hv h.2
  have m1:=yX u1 (b:=v.2.1) ⟨by omega,v2.2⟩
  have m2:=yX v1 (b:=u.2.1) ⟨by omega,u2.2⟩
  exact⟨_,m1.1,_,m2.1,[],cJw _ _,rfl,rfl,rfl,λ_ _=>⟨(),trivial,aM (bGk u2.1 v2.1 u3 v3) rfl trivial⟩⟩
 refine⟨[],qE r hr bL bL,rfl,rfl,rfl,λx ⟨hx,hxz⟩=>⟨[],qE s hs bL bL,rfl,rfl,rfl,λy ⟨hy,hyz⟩=>?_⟩⟩
 have ldx:=aJ (dY hx.ld) hx.bd
 have ldy:=aJ (dY hy.ld) hy.bd
 have l1:=xB hx.n.len (b:=(val y.d.l:Nat)) ldy
 have l2:=xB hy.n.len (b:=(val x.d.l:Nat)) ldx
 refine⟨.seq [(0,false),(1,false),(2,false),(4,false),(5,false),(6,false),(3,false),(7,true),(8,true),(9,false)],by kernel_rfl,[],aAk x.n (den y.d) (hx.n.le bL) (aJq hy.ld (aJ hy.bd bL)),rfl,rfl,rfl,λp hp=>⟨[],aAk y.n (den x.d) (hy.n.le bL) (aJq hx.ld (aJ hx.bd bL)),rfl,rfl,rfl,λq hq=>⟨[],bNs p q (Ci.in hp (aJ l1 bL)) (Ci.in hq (aJ l2 bL)),rfl,rfl,rfl,λ_ _=>⟨(),trivial,aM (bGk oM oM hx.v hy.v) rfl trivial⟩⟩⟩⟩
theorem bZp (r s:RatM) {a:Rat} (hr:Rq r a 4398046511104) (hs:Rq s a 4398046511104):Ctr Tryz.prog aVf [] [.a r.C,.a s.C] [] (λ_:Unit=>⟨.c (iC 0),[],True⟩):=by
 have h:=vO r s hr hs
 rw[show cmQ a a=0 by unfold cmQ;rw[if_neg tZ,if_neg tZ]] at h
 exact h
end Go.Proofs.YtghncoghdcmdfaaGreat
namespace Go.Proofs.YtghncoghdcmdfaaGreat
open Go.Vg _root_.Go.Proofs.Tryz
open Go.Vm
open Go.Vy hiding val
set_option maxRecDepth 20000
section bits
open Go.RowKit Go.Shelf
def cRb:Ren:=⟨λn=>if n=125 then 223 else if n=128 then 250 else if n=129 then 251 else 0,λn=>if n=3 then 3 else if n=4 then 4 else if n=5 then 5 else if n=9 then 9 else if n=46 then 223 else if n=51 then 123 else if n=53 then 190 else 0,λx=>x⟩
theorem bNu:Lays.n125 Tryz.prog cRb:=by
 constructor<;>first|kernel_rfl|(intro w;kernel_rfl)
end bits
theorem bGl (ys:List EntM):ecs ys=fl EntM.C default ys:=by
 have h:∀n,n<=ys.length->ecs (ys.take n)=flatR n λj=>(ys.getD j default).C:=λn=>by
  induction n with
  |zero=>intro _;rfl
  |succ n ih=>
   intro h
   rw[gR,<-ih oM,dF,aG h,gd h]
   exact(qF _ _).symm
 have h2:=h ys.length (aI _)
 rw[cW] at h2
 exact h2
theorem aVg {ys:List EntM} {k:Nat} {e:EntM} (h:k<ys.length):mD (ecs ys) (k*4) e.C=ecs (ys.set k e)/\k*4+e.C.length<=(ecs ys).length:=by
 rw[bGl,bGl]
 exact aVc (f:=EntM.C) (e:=4) (λ_=>rfl) h
theorem aFe {ys:List EntM} {k:Nat} (h:k<ys.length):((ecs ys).drop (k*4)).take 4=(ys.getD k default).C/\(ys.getD k default).C.length=4:=⟨(rX ys k h).symm,rfl⟩
theorem xE {ys:List EntM} {k:Nat} (h:k<ys.length):k*4<(ecs ys).length:=by rw[gM];omega
def SrE (ys:List EntM) (m:Nat):Prop:=∀a b,a<b->b<m->(ys.getD a default).ix<=(ys.getD b default).ix
def SwE (ys:List EntM) (j:Nat):List EntM:=(ys.set j (ys.getD (j-1) default)).set (j-1) (ys.getD j default)
theorem aVh {ys:List EntM} {j k:Nat} (h:j<ys.length):(SwE ys j).getD k default=if k=j-1 then ys.getD j default else if k=j then ys.getD (j-1) default else ys.getD k default:=by
 unfold SwE
 simp only[aD,List.getElem?_set,bW]
 by_cases h1:k=j-1
 ·subst h1;rw[if_pos rfl,if_pos rfl,if_pos oM];rfl
 rw[if_neg h1,if_neg (gE h1)]
 by_cases h2:k=j
 ·subst h2;rw[if_pos rfl,if_pos rfl,if_pos h];rfl
 rw[if_neg h2,if_neg (gE h2)]
theorem bZq {ys:List EntM} {j:Nat}:(SwE ys j).length=ys.length:=by unfold SwE;rw[bW,bW]
theorem bNv {ys:List EntM} {j:Nat} (h:j<ys.length):(SwE ys j).Perm ys:=by
 unfold SwE
 have h1:j-1<ys.length:=by omega
 rw[gd h,gd h1]
 exact List.set_set_perm h h1
def SnE (ys:List EntM) (i j:Nat):Prop:=(∀a b,a<b->b<=i->a≠j->b≠j->(ys.getD a default).ix<=(ys.getD b default).ix)/\∀b,j<b->b<=i->(ys.getD j default).ix<(ys.getD b default).ix
theorem SnE.start {ys:List EntM} {i:Nat} (h:SrE ys i):SnE ys i i:=⟨λa b h1 h2 _ h4=>h a b h1 oM,λb h1 h2=>by omega⟩
theorem SnE.stop {ys:List EntM} {i j:Nat} (h:SnE ys i j) (he:¬(0<j/\(ys.getD j default).ix<(ys.getD (j-1) default).ix)):SrE ys (i+1):=λa b h1 h2=>by
 by_cases ha:a=j
 ·subst ha;exact vU (h.2 b h1 oM)
 by_cases hb:b=j
 ·subst hb
  have h3:(ys.getD (b-1) default).ix<=(ys.getD b default).ix:=pQ.1 λhh=>he ⟨by omega,hh⟩
  by_cases h4:a=b-1
  ·subst h4;exact h3
  exact Int.le_trans (h.1 a (b-1) oM oM ha oM) h3
 exact h.1 a b h1 oM ha hb
theorem SnE.next {ys:List EntM} {i j:Nat} (h:SnE ys i j) (hi:i<ys.length) (hj:j<=i) (h0:0<j) (he:(ys.getD j default).ix<(ys.getD (j-1) default).ix):SnE (SwE ys j) i (j-1):=by
 have hjl:j<ys.length:=by omega
 refine⟨λa b h1 h2 h3 h4=>?_,λb h1 h2=>?_⟩
 ·rw[aVh hjl,aVh hjl,if_neg h3,if_neg h4]
  by_cases ha:a=j
  ·rw[if_pos ha,if_neg oM]
   exact h.1 (j-1) b oM h2 oM oM
  rw[if_neg ha]
  by_cases hb:b=j
  ·rw[if_pos hb];exact h.1 a (j-1) oM oM ha oM
  rw[if_neg hb];exact h.1 a b h1 h2 ha hb
 rw[aVh hjl,aVh hjl,if_pos rfl,if_neg oM]
 by_cases hb:b=j
 ·rw[if_pos hb];exact he
 rw[if_neg hb];exact h.2 b oM h2
abbrev bRp:FuncId:=223
theorem cJz:Ent Tryz.prog bRp:=aU func223 rfl kR
theorem cKa {x:Int} (h0:0<=x) (h1:x<=18446744073709551615):Ctr Tryz.prog bRp [] [.c (.v (.int .u64 x))] [] (λ_:Unit=>⟨.c (iC (Go.Lib.bitLen x.toNat:Nat)),[],True⟩):=by
 refine⟨cJz,aS,λρ w vals hv hD hF=>?_⟩
 match vals,hv with
 |[v1],⟨h2,_⟩=>
  have e1:=h2.inv_c.inv_v
  subst e1
  exact(Go.Proofs.Any.bits_Len bNu x w h0 h1).mono λe w' ⟨he,hw⟩=>⟨_,he,bCt hD hF (hw▸Ext.refl w) rfl⟩
abbrev fBy:FuncId:=186
theorem eBy:Ent Tryz.prog fBy:=aU func186 rfl kR
theorem bBy:Tryz.prog.funcs[fBy]? =some Tryz.f186:=func186
theorem cRc (e f:EntM):Ctr Tryz.prog fBy [] [.a e.C,.a f.C] [] (λ_:Unit=>⟨.c (iC (cmE e.ix f.ix)),[],True⟩):=by
 refine aW gT eBy bBy rfl rfl rfl bL aS (aA gT mxd ⟨[],bGi e.ix f.ix,rfl,rfl,rfl,λ_ _=>⟨(),trivial,aM rfl rfl trivial⟩⟩)
abbrev isG (q:FuncId) (n i:Nat):List (Nat×DV):=[(8,.c (iC i)),(0,.c (.s 0 n)),(1,.c (iC (0:Nat))),(2,.c (iC n)),(3,.c (.f q [] []))]
abbrev isB (ys:List EntM):BL:=[(82,4,ecs ys)]
theorem qP {ys:List EntM}:scB 1 (isB ys):=aB (nD _) aY
abbrev bZr:FuncId:=242
theorem cRd:Ent Tryz.prog bZr:=aU func242 rfl kR
theorem cRe:Tryz.prog.funcs[bZr]? =some Tryz.f242:=func242
theorem cKb {q:FuncId} (hcq:∀e f:EntM,Ctr Tryz.prog q [] [.a e.C,.a f.C] [] (λ_:Unit=>⟨.c (iC (cmE e.ix f.ix)),[],True⟩)) (ys:List EntM) (hn:ys.length<=4096):CtrF Tryz.prog bZr [true] [.c (.s 0 ys.length),.c (iC (0:Nat)),.c (iC (ys.length:Nat)),.c (.f q [] [])] (isB ys) [] (λzs:List EntM=>⟨.t [],isB zs,[],zs.Perm ys/\SrE zs ys.length⟩):=by
 refine nX gT cRd cRe rfl rfl rfl bL (aBn (gN ys)) (aA gT mxd ⟨(1:Nat),by rfl,?_⟩)
 show Sd _ _ _ _ _ _
 refine cG (λ_=>true) (λg:Nat×List EntM=>isG q ys.length g.1) (λg=>isB g.2) (λ_=>[]) (λg=>(g.1<=ys.length\/g.1=1)/\g.2.length=ys.length/\g.2.Perm ys/\SrE g.2 g.1) (λg=>ys.length+1-g.1) λhM=>⟨bH hM (chg:=λg:Nat×List EntM=>isG q ys.length g.1) (bls:=λg=>isB g.2) (fls:=λ_=>[]) (1,ys) ⟨.inr rfl,rfl,xW _,λa b h1 h2=>by have h3:b<1:=h2;omega⟩ rfl rfl trivial ⟨rfl,rfl,rfl,rfl,rfl⟩ bL qP rfl,λ⟨i,xs⟩ ⟨hi,hl,hp,hs⟩=>aA gT mxd ⟨λh2=>aA gT mxd ?_,λh2=>aA gT mxd ?_⟩⟩
 all_goals
  replace hi:i<=ys.length\/i=1:=hi
  replace hl:xs.length=ys.length:=hl
  replace hp:xs.Perm ys:=hp
  replace hs:SrE xs i:=hs
 ·replace h2:(i:Int)<(ys.length:Nat):=h2
  have hin:i<ys.length:=by omega
  show Sd _ _ _ _ _ _
  refine cG (λ_=>true) (λg:Nat×List EntM=>(9,.c (iC g.1))::isG q ys.length i) (λg=>isB g.2) (λ_=>[]) (λg=>g.1<=i/\g.2.length=ys.length/\g.2.Perm ys/\SnE g.2 i g.1) (λg=>g.1) λhM2=>⟨bH hM2 (chg:=λg:Nat×List EntM=>(9,.c (iC g.1))::isG q ys.length i) (bls:=λg=>isB g.2) (fls:=λ_=>[]) (i,xs) ⟨aI _,hl,hp,SnE.start hs⟩ rfl rfl trivial ⟨rfl,rfl,rfl,rfl,rfl,rfl⟩ bL qP rfl,λ⟨j,zs⟩ ⟨hj,hzl,hzp,hz⟩=>aA gT mxd ?_⟩
  replace hj:j<=i:=hj
  replace hzl:zs.length=ys.length:=hzl
  replace hzp:zs.Perm ys:=hzp
  replace hz:SnE zs i j:=hz
  have hjl:j<zs.length:=by omega
  have hjl1:j-1<zs.length:=by omega
  refine⟨.seq (sq 14 (List.range 17)),by kernel_rfl,?_⟩
  have hjy:j<ys.length:=by omega
  have hj1:0<j->((j-1:Nat):Int)=(j:Int)-1:=λhq=>by omega
  refine⟨j,λhq=>⟨rfl,hjy,xE hjl⟩,(zs.getD j default).C,λhq=>aFe hjl,(j-1:Nat),λhq=>?_,j-1,λhq=>⟨rfl,by omega,xE hjl1⟩,(zs.getD (j-1) default).C,λhq=>aFe hjl1,λhq=>⟨[],hcq (zs.getD j default) (zs.getD (j-1) default),rfl,rfl,rfl,λ_ _=>⟨λh3=>aA gT mxd ?_,λh3=>aA gT mxd ?_⟩⟩,λhq=>?_⟩
  ·replace hq:((0:Nat):Int)<(j:Nat):=hq
   exact wi (by show((j-1:Nat):Int)=(j:Int)-1/\-9223372036854775808<=(j:Int)-1/\(j:Int)-1<=9223372036854775807;omega)
  ·replace hq:((0:Nat):Int)<(j:Nat):=hq
   have h0:0<j:=by omega
   have hlt:=bGh.1 h3
   have hjs:j-1<(zs.set j (zs.getD (j-1) default)).length:=by rw[bW];omega
   refine⟨.seq ((List.range 18).map λi=>(i,i==15||i==17)),by kernel_rfl,(j-1:Nat),?_,(j-1:Nat),?_,j-1,⟨rfl,by omega,xE hjl1⟩,_,aFe hjl1,j,⟨rfl,hjy,xE hjl⟩,_,aFe hjl,j,⟨rfl,hjy,xE hjl⟩,_,aVg hjl,j-1,⟨rfl,by omega,xE hjs⟩,_,aVg hjs,(j-1:Nat),?_,?_⟩
   ·exact wi (by show((j-1:Nat):Int)=(j:Int)-1/\-9223372036854775808<=(j:Int)-1/\(j:Int)-1<=9223372036854775807;omega)
   ·exact wi (by show((j-1:Nat):Int)=(j:Int)-1/\-9223372036854775808<=(j:Int)-1/\(j:Int)-1<=9223372036854775807;omega)
   ·exact wi (by show((j-1:Nat):Int)=(j:Int)-1/\-9223372036854775808<=(j:Int)-1/\(j:Int)-1<=9223372036854775807;omega)
   exact bH hM2 (chg:=λg:Nat×List EntM=>(9,.c (iC g.1))::isG q ys.length i) (bls:=λg=>isB g.2) (fls:=λ_=>[]) (j-1,SwE zs j) ⟨⟨show j-1<=i by omega,bZq.trans hzl,(bNv hjl).trans hzp,hz.next oM hj h0 hlt⟩,show j-1<j by omega⟩ rfl rfl trivial ⟨rfl,rfl,rfl,rfl,rfl,rfl⟩ bL qP rfl
  ·replace hq:((0:Nat):Int)<(j:Nat):=hq
   refine⟨(i+1:Nat),wi,bH hM (chg:=λg:Nat×List EntM=>isG q ys.length g.1) (bls:=λg=>isB g.2) (fls:=λ_=>[]) (i+1,zs) ⟨⟨.inl hin,hzl,hzp,hz.stop ?_⟩,show ys.length+1-(i+1)<ys.length+1-i by omega⟩ rfl rfl trivial ⟨rfl,rfl,rfl,rfl,rfl⟩ bL qP rfl⟩
   exact λhh=>h3 (bGh.2 hh.2)
  replace hq:¬((0:Nat):Int)<(j:Nat):=hq
  refine⟨(i+1:Nat),wi,bH hM (chg:=λg:Nat×List EntM=>isG q ys.length g.1) (bls:=λg=>isB g.2) (fls:=λ_=>[]) (i+1,zs) ⟨⟨.inl hin,hzl,hzp,hz.stop ?_⟩,show ys.length+1-(i+1)<ys.length+1-i by omega⟩ rfl rfl trivial ⟨rfl,rfl,rfl,rfl,rfl⟩ bL qP rfl⟩
  exact λhh=>hq oM
 replace h2:¬(i:Int)<(ys.length:Nat):=h2
 exact⟨xs,⟨hp,λa b h3 h4=>hs a b h3 oM⟩,kG rfl rfl trivial bL qP rfl (aBn (gN xs))⟩
abbrev pqG (q:FuncId) (n:Nat):List (Nat×DV):=[(0,.c (.s 0 n)),(1,.c (iC (0:Nat))),(2,.c (iC n)),(4,.c (.f q [] []))]
abbrev bZs:FuncId:=222
theorem cRf:Ent Tryz.prog bZs:=aU func222 rfl kR
theorem cRg:Tryz.prog.funcs[bZs]? =some Tryz.f222:=func222
theorem cKc {q:FuncId} (hcq:∀e f:EntM,Ctr Tryz.prog q [] [.a e.C,.a f.C] [] (λ_:Unit=>⟨.c (iC (cmE e.ix f.ix)),[],True⟩)) (ys:List EntM) (m:Nat) (hn:ys.length<=12):CtrF Tryz.prog bZs [true] [.c (.s 0 ys.length),.c (iC (0:Nat)),.c (iC (ys.length:Nat)),.c (iC m),.c (.f q [] [])] (isB ys) [] (λzs:List EntM=>⟨.t [],isB zs,[],zs.Perm ys/\SrE zs ys.length⟩):=by
 refine nX gT cRf cRg rfl rfl rfl bL (aBn (gN ys)) (aA gT mxd ?_)
 show Sd _ _ _ _ _ _
 refine cG (λ_=>true) (λ_:Unit=>pqG q ys.length) (λ_=>isB ys) (λ_=>[]) (λ_=>True) (λ_=>0) λhM=>⟨bH hM (chg:=λ_:Unit=>pqG q ys.length) (bls:=λ_=>isB ys) (fls:=λ_=>[]) () trivial rfl rfl trivial ⟨rfl,rfl,rfl,rfl⟩ bL qP rfl,λ_ _=>aA gT mxd ⟨(ys.length:Nat),?_,⟨λh2=>aA gT mxd ?_,λh2=>aA gT mxd ?_⟩⟩⟩
 ·exact wi (by show((ys.length:Nat):Int)=(ys.length:Nat)-((0:Nat):Int)/\-9223372036854775808<=((ys.length:Nat):Int)-((0:Nat):Int)/\((ys.length:Nat):Int)-((0:Nat):Int)<=9223372036854775807;omega)
 ·exact⟨none,[0],cKb hcq ys oM,rfl,rfl,rfl,λzs hz=>⟨zs,hz,kG rfl rfl trivial bL qP rfl (aBn (gN zs))⟩⟩
 replace h2:¬((ys.length:Nat):Int)<=12:=h2
 omega
abbrev bNw:FuncId:=185
theorem cRh:Ent Tryz.prog bNw:=aU func185 rfl kR
theorem cRi:Tryz.prog.funcs[bNw]? =some Tryz.f185:=func185
theorem bRq {q:FuncId} (hcq:∀e f:EntM,Ctr Tryz.prog q [] [.a e.C,.a f.C] [] (λ_:Unit=>⟨.c (iC (cmE e.ix f.ix)),[],True⟩)) (ys:List EntM) {m:Nat} (hm:ys.length=m) (hn:m<=12):CtrF Tryz.prog bNw [true] [.c (.s 0 m),.c (.f q [] [])] (isB ys) [] (λzs:List EntM=>⟨.t [],isB zs,[],zs.Perm ys/\SrE zs m⟩):=by
 obtain rfl:=hm
 have hw:IntKind.u64.wrap ((ys.length:Nat):Int)=(ys.length:Nat):=aDr oM
 refine nX gT cRh cRi rfl rfl rfl bL (aBn (gN ys)) (aA gT mxd ⟨((ys.length:Nat):Int),hw.symm,[],cKa (x:=(ys.length:Nat)) oM oM,rfl,rfl,rfl,λ_ _=>⟨none,[0],cKc hcq ys _ hn,rfl,rfl,rfl,λzs hz=>⟨zs,hz,kG rfl rfl trivial bL qP rfl (aBn (gN zs))⟩⟩⟩)
theorem cKd (ys:List EntM) {m:Nat} (hm:ys.length=m) (hn:m<=12):CtrF Tryz.prog bNw [true] [.c (.s 0 m),.c (.f fBy [] [])] (isB ys) [] (λzs:List EntM=>⟨.t [],isB zs,[],zs.Perm ys/\SrE zs m⟩):=bRq cRc ys hm hn
structure PmL (p:List Int) (n:Nat):Prop where
 ln:p.length=n
 at':∀i,i<n->∃m:Nat,p.getD i 0=(m:Nat)/\m<n
 inj:∀i j,i<n->j<n->p.getD i 0=p.getD j 0->i=j
def bw (s:Nat->Bool):Nat->CV:=λj=>bif s j then .v (.bool true) else rQ (.bool false)
theorem bZt {s:Nat->Bool} (n j:Nat) (_:j<n):fK (bw s j)=true:=by unfold bw;cases s j<;>rfl
theorem bGm {s:Nat->Bool} {n j:Nat} (h:j<n):mD (dI n (bw s)) (j*1) [.v (.bool true)]=dI n (bw (upd s j true))/\j*1+1<=(dI n (bw s)).length:=gU h λi _=>by
 by_cases e:i=j
 ·subst e;rw[if_pos rfl];unfold bw;rw[bJ];rfl
 rw[if_neg e];unfold bw;rw[bD e]
def SnP (p:List Int) (k:Nat) (s:Nat->Bool):Prop:=∀j,s j=true->∃i,i<k/\p.getD i 0=(j:Nat)
theorem SnP.next {p:List Int} {k m:Nat} {s:Nat->Bool} (h:SnP p k s) (hm:p.getD k 0=(m:Nat)):SnP p (k+1) (upd s m true):=λj hj=>by
 by_cases e:j=m
 ·subst e;exact⟨k,bF _,hm⟩
 rw[bD e] at hj
 obtain⟨i,h1,h2⟩:=h j hj
 exact⟨i,by omega,h2⟩
theorem SnP.not {p:List Int} {k m n:Nat} {s:Nat->Bool} (h:SnP p k s) (hp:PmL p n) (hk:k<n) (hm:p.getD k 0=(m:Nat)):s m=false:=by
 cases e:s m with
 |false=>rfl
 |true=>
  obtain⟨i,h1,h2⟩:=h m e
  have:=hp.inj i k oM hk (h2.trans hm.symm)
  omega
abbrev ipG (g:Sl Int) (n k:Nat):List (Nat×DV):=[(11,.c (iC k)),(9,.c (cD g)),(10,.c (iC n)),(0,.c (cD g)),(3,.c (.s 0 n))]
abbrev ipB (n:Nat) (s:Nat->Bool):BL:=[(4,1,dI n (bw s))]
theorem aKj {n:Nat} {s:Nat->Bool}:scB 1 (ipB n s):=aB (bU (aX (bZt n))) aY
abbrev bGn:FuncId:=184
theorem cKe:Ent Tryz.prog bGn:=aU func184 rfl kR
theorem cKf:Tryz.prog.funcs[bGn]? =some Tryz.f184:=func184
theorem bZu (g:Sl Int) {n:Nat} (hp:PmL g.l n) (hn:n<=4096):Ctr Tryz.prog bGn [] [.c (cD g)] [] (λ_:Unit=>⟨.c (.v (.bool true)),[],True⟩):=by
 obtain rfl:g.l.length=n:=hp.ln
 refine aW gT cKe cKf rfl rfl rfl bL aS (aA gT mxd ⟨g.l.length,⟨rfl,rfl,by show 1*g.l.length<=_;omega,by simp only[maxLen];omega⟩,?_⟩)
 show Sd _ _ _ _ _ _
 refine gH tSd 0 (dI g.l.length (bw λ_=>false)) rfl (by rw[dB,cJ]) (tR λ_ _=>fC _) ?_
 refine cG (λ_=>true) (λu:Nat×(Nat->Bool)=>ipG g g.l.length u.1) (λu=>ipB g.l.length u.2) (λ_=>[]) (λu=>u.1<=g.l.length/\SnP g.l u.1 u.2) (λu=>g.l.length-u.1) λhM=>⟨bH hM (chg:=λu:Nat×(Nat->Bool)=>ipG g g.l.length u.1) (bls:=λu=>ipB g.l.length u.2) (fls:=λ_=>[]) (0,λ_=>false) ⟨aC _,λj hj=>by cases hj⟩ rfl rfl trivial ⟨rfl,rfl,rfl,rfl,rfl⟩ bL aKj rfl,λ⟨k,s⟩ ⟨hk,hs⟩=>aA gT mxd ⟨λh2=>aA gT mxd ?_,λh2=>aA gT mxd ?_⟩⟩
 all_goals
  replace hk:k<=g.l.length:=hk
  replace hs:SnP g.l k s:=hs
 ·replace h2:(k:Int)<(g.l.length:Nat):=h2
  have hkl:k<g.l.length:=by omega
  obtain⟨m,hm,hmn⟩:=hp.at' k hkl
  have hf:=hs.not hp hkl hm
  have hc:(dI g.l.length (bw s))[m*1]? =some (rQ (.bool false)):=(eB hmn).trans (by unfold bw;rw[hf];rfl)
  refine⟨k,⟨rfl,hkl⟩,m,λhq=>⟨hm,hmn,cQ hmn⟩,_,λhq=>hc,?_⟩
  refine⟨λh3=>?_,λh3=>aA gT mxd ⟨m,⟨hm,hmn,cQ hmn⟩,_,bGm hmn,(k+1:Nat),wi,bH hM (chg:=λu:Nat×(Nat->Bool)=>ipG g g.l.length u.1) (bls:=λu=>ipB g.l.length u.2) (fls:=λ_=>[]) (k+1,upd s m true) ⟨⟨hkl,hs.next hm⟩,show g.l.length-(k+1)<g.l.length-k by omega⟩ rfl rfl trivial ⟨rfl,rfl,rfl,rfl,rfl⟩ bL aKj rfl⟩⟩
  replace h3:(g.l.getD k 0<0\/((g.l.length:Nat):Int)<=g.l.getD k 0)\/(false=true):=h3
  rcases h3 with h3|h3
  ·omega
  cases h3
 exact aA gT mxd ⟨(),trivial,aM rfl rfl trivial⟩
theorem aNq:∀(ys:List EntM) (k:Nat) (z:Int),k<ys.length->mD (ecs ys) (k*4) [iC z]=ecs (ys.set k ⟨z,(ys.getD k default).v⟩)/\k*4+1<=(ecs ys).length
 |[],k,z,h=>absurd h (aF _)
 |e::ys,0,z,h=>⟨rfl,by rw[gM];simp;omega⟩
 |e::ys,k+1,z,h=>by
  obtain⟨h1,h2⟩:=aNq ys k z (by simpa using h)
  refine⟨?_,by rw[gM];simp at h;simp;omega⟩
  show mD (e.C++ecs ys) ((k+1)*4) [iC z]=e.C++ecs (ys.set k ⟨z,(ys.getD k default).v⟩)
  rw[<-h1]
  unfold mD
  have e4:(k+1)*4=e.C.length+k*4:=by rw[dU,gP];rfl
  rw[e4,List.take_length_add_append,iA,List.drop_length_add_append,cU]
def reE (f:EntM->EntM) (ys:List EntM) (k:Nat):List EntM:=(ys.take k).map f++ys.drop k
theorem aVi {f:EntM->EntM} {ys:List EntM} {k:Nat} (h:k<=ys.length):(reE f ys k).length=ys.length:=by unfold reE;simp;omega
theorem bGo {f:EntM->EntM} {ys:List EntM} {k:Nat} (h:k<ys.length):(reE f ys k).getD k default=ys.getD k default:=by
 unfold reE
 rw[aD,bR (by simp;omega),dL,aD]
 simp only[aN,bE]
 congr 2
 omega
theorem bNx {f:EntM->EntM} {ys:List EntM} {k:Nat} (h:k<ys.length):(reE f ys k).set k (f (ys.getD k default))=reE f ys (k+1):=by
 unfold reE
 have h1:((ys.take k).map f).length=k:=by simp;omega
 rw[iM _ _ oM,h1,jA,dX h,List.set_cons_zero,dF,aG h,gd h,bG,cU]
 rfl
theorem bNy {f:EntM->EntM} {ys:List EntM}:reE f ys ys.length=ys.map f:=by unfold reE;simp
theorem aVj {ys zs:List EntM} (h:zs.Perm ys):∀{es:List En},Ek ys es->∃rs:List En,Ek zs rs/\rs.Perm es:=by
 have cons:∀{e:EntM} {ys:List EntM} {z:En} {es:List En},Ek (e::ys) (z::es)↔(e.ix=z.1/\Cr e.v z.2)/\Ek ys es:=λ{e ys z es}=>by
  constructor
  ·intro h
   refine⟨h.e 0 (by simp),by simpa using h.ln,λk hk=>h.e (k+1) (by simpa using hk)⟩
  rintro⟨h1,h2⟩
  refine⟨by simpa using h2.ln,λk hk=>?_⟩
  match k,hk with
  |0,_=>exact h1
  |k+1,hk=>exact h2.e k (by simpa using hk)
 induction h with
 |nil=>intro es h;exact⟨es,h,xW _⟩
 |cons e hp ih=>
  intro es h
  match es,h with
  |[],h=>have:=h.ln;simp at this
  |z::es,h=>
   obtain⟨h1,h2⟩:=cons.1 h
   obtain⟨rs,h3,h4⟩:=ih h2
   exact⟨z::rs,cons.2 ⟨h1,h3⟩,h4.cons z⟩
 |swap a b l=>
  intro es h
  match es,h with
  |[],h=>have:=h.ln;simp at this
  |[z],h=>have:=h.ln;simp at this
  |z::z'::es,h=>
   obtain⟨h1,h2⟩:=cons.1 h
   obtain⟨h3,h4⟩:=cons.1 h2
   exact⟨z'::z::es,cons.2 ⟨h3,cons.2 ⟨h1,h4⟩⟩,List.Perm.swap _ _ _⟩
 |trans _ _ ih1 ih2=>
  intro es h
  obtain⟨rs,h1,h2⟩:=ih2 h
  obtain⟨ts,h3,h4⟩:=ih1 h1
  exact⟨ts,h3,h4.trans h2⟩
def rnE (p:List Int) (e:En):En:=(p.getD e.1.toNat 0,e.2)
def rnM (p:List Int) (e:EntM):EntM:=⟨p.getD e.ix.toNat 0,e.v⟩
theorem bZv {ys:List EntM} {es:List En} {p:List Int} (h:Ek ys es):Ek (ys.map (rnM p)) (es.map (rnE p)):=⟨by rw[aN,aN];exact h.ln,λk hk=>by
 rw[aN] at hk
 have hk':k<ys.length:=by rw[h.ln];exact hk
 have h1:=h.e k hk
 rw[gd (by rwa [aN]),gd (by rwa [aN]),pS,pS,<-gd (d:=default) hk,<-gd (d:=default) hk']
 exact⟨by show p.getD _ 0=p.getD _ 0;rw[h1.1],h1.2⟩⟩
theorem bGp {zs:List EntM} {rs es:List En} {p:List Int} {n:Nat} (hz:Ek zs rs) (hs:SrE zs zs.length) (hp:rs.Perm (es.map (rnE p))) (ho:VOk es (n:Nat)) (hP:PmL p n):Asc rs:=by
 have hnd:(rs.map λe=>e.1).Nodup:=by
  refine((hp.map λe=>e.1).nodup_iff).2 ?_
  rw[kO,cO,fW]
  refine ho.1.imp_of_mem λ{a b} ha hb hab he=>?_
  have h1:=ho.2 a ha
  have h2:=ho.2 b hb
  have h3:a.1<b.1:=hab
  have:=hP.inj a.1.toNat b.1.toNat oM oM he
  omega
 refine gG.2 λi j hi hj hij=>?_
 have h1:=hs i j hij (by rw[hz.ln];exact hj)
 have hi':=hz.e i hi
 have hj':=hz.e j hj
 rw[hi'.1,hj'.1,gd hi,gd hj] at h1
 have h2:rs[i].1≠rs[j].1:=λe=>by
  have:=(cO.1 hnd)
  rw[fW,gG] at this
  exact this i j hi hj hij e
 show rs[i].1<rs[j].1
 omega
theorem _root_.Go.Vy.CtrF.clo {P:Program} {q:FuncId} {cl:List Bool} {al:List DV} {fl:List Fam} {σ:Type} {R:σ->OutF} (h:CtrF P q [] al [] fl R) (hc:∀g,(R g).C->ClB cl (R g).bl):CtrF P q cl al [] fl R:=⟨h.ent,λi T es l hi=>(by cases hi),λρ w vals hv hD hF=>(h.run ρ w vals hv hD hF).mono λe w' ⟨v,he,g,ρ',c1,c2,c3,_,c5⟩=>⟨v,he,g,ρ',c1,c2,c3,hc g c1,c5⟩⟩
abbrev bZw:FuncId:=105
theorem cRj:Ent Tryz.prog bZw:=aU func105 rfl kR
theorem cRk:Tryz.prog.funcs[bZw]? =some Tryz.f105:=func105
theorem bNz (x:Sl EntM) {es:List En} {B:Nat} (h:Ev x.l es B) (hb:rbE es B) (h1:1<=B) (hB:B<=4398046511104) (ha:Asc es) (hz:aFz es) (hn:es.length<=4096):Ctr Tryz.prog bZw [true] [.c (cF x)] [] (λys:List EntM=>⟨.c (.s 0 ys.length),isB ys,Ek ys es⟩):=by
 have hm:=(bEo x cP (es:=es) (fs:=[]) (op:=λa _=>a) (q:=168) h ⟨rfl,λk hk=>absurd hk (aF _)⟩ hb (λe he=>absurd he dZ) h1 ha List.Pairwise.nil hn (aC _) rfl (λa b h _=>h.le hB) (λu v {a b} hu _ _ _=>bRe u v (hu.le hB))).args (al':=[.c (cF x),.c (.v (.slice none 0 0)),.c (.f 168 [] [])]) λρ n w vals hv=>(by
  match vals,hv with
  |[v0,v1,v2],⟨h0,h1,h2,h3⟩=>exact⟨h0,.c (qG ρ n w v1 h1.inv_c),h2,h3⟩)
 replace hm:=hm.clo (cl:=[true]) λys _=>aBn (gN ys)
 refine aW gT cRj cRk rfl rfl rfl bL (λi T es l hi=>by cases hi) (aA gT mxd ⟨[],aJv x h ha,rfl,rfl,rfl,λ_ _=>⟨[],hm,rfl,rfl,rfl,λg ⟨rs,h2,h3⟩=>⟨g,?_,fH rfl rfl bL qP rfl (aBn (gN g))⟩⟩⟩)
 have e:rs=es:=canon_ext rs es h3.a ha h3.z hz h3.g
 rw[<-e];exact h2
abbrev prG (g:Sl Int) (m k:Nat):List (Nat×DV):=[(16,.c (iC k)),(14,.c (.s 0 m)),(15,.c (iC m)),(6,.c (.s 0 m)),(1,.c (cD g))]
abbrev bGq:FuncId:=117
theorem cKg:Ent Tryz.prog bGq:=aU func117 rfl kR
theorem cKh:Tryz.prog.funcs[bGq]? =some Tryz.f117:=func117
theorem bGr (x:Sl EntM) (g:Sl Int) {es:List En} {B n:Nat} (h:Ek x.l es) (hb:rbE es B) (h1:1<=B) (hB:B<=4398046511104) (ho:VOk es (n:Nat)) (hn:n<=12) (hg:PmL g.l n):Ctr Tryz.prog bGq [] [.c (cF x),.c (cD g)] [] (λy:Sl EntM=>⟨.t [.c (cF y),.c (.v (.bool true))],[],∃rs,Ek y.l rs/\Asc rs/\rs.Perm (es.map (rnE g.l))⟩):=by
 have hel:es.length<=n:=kW ho
 have hgl:=hg.ln
 refine aW gT cKg cKh rfl rfl rfl bL aS (aA gT mxd ⟨[],bZu g hg oM,rfl,rfl,rfl,λ_ _=>⟨[],bNz x (h.ev hb) hb h1 hB ho.1 (λe he=>(ho.2 e he).2.2) oM,rfl,rfl,rfl,λys hys=>?_⟩⟩)
 replace hys:Ek ys es:=hys
 have hyl:=hys.ln
 show Sd _ _ _ _ _ _
 refine cG (λ_=>true) (λk:Nat=>prG g ys.length k) (λk=>isB (reE (rnM g.l) ys k)) (λ_=>[]) (λk=>k<=ys.length) (λk=>ys.length-k) λhM=>⟨bH hM (chg:=λk:Nat=>prG g ys.length k) (bls:=λk=>isB (reE (rnM g.l) ys k)) (fls:=λ_=>[]) 0 (aC _) rfl rfl trivial ⟨rfl,rfl,rfl,rfl,rfl⟩ bL qP rfl,λk hk=>aA gT mxd ⟨λh2=>aA gT mxd ?_,λh2=>aA gT mxd ?_⟩⟩
 all_goals
  replace hk:k<=ys.length:=hk
 ·replace h2:(k:Int)<(ys.length:Nat):=h2
  have hkl:k<ys.length:=by omega
  have hr:=aVi (f:=rnM g.l) hk
  have hkr:k<(reE (rnM g.l) ys k).length:=by omega
  have he:=hys.e k oM
  have hv:=ho.2 _ (fO (l:=es) (k:=k) oM)
  obtain⟨m,hm⟩:∃m:Nat,(ys.getD k default).ix=(m:Nat):=⟨(ys.getD k default).ix.toNat,by omega⟩
  have hmn:m<n:=by omega
  refine⟨k,⟨rfl,hkl,xE hkr⟩,_,aFe hkr,?_⟩
  rw[bGo hkl]
  refine⟨λh3=>?_,λh3=>aA gT mxd ?_⟩
  ·replace h3:(ys.getD k default).ix<0\/((g.l.length:Nat):Int)<=(ys.getD k default).ix:=h3
   omega
  have hst:mD (ecs (reE (rnM g.l) ys k)) (k*4) [iC (g.l.getD m 0)]=ecs (reE (rnM g.l) ys (k+1))/\k*4+1<=(ecs (reE (rnM g.l) ys k)).length:=by
   obtain⟨e1,e2⟩:=aNq (reE (rnM g.l) ys k) k (g.l.getD m 0) hkr
   refine⟨e1.trans (congrArg ecs ?_),e2⟩
   rw[<-bNx hkl,bGo hkl]
   unfold rnM
   rw[hm]
   rfl
  exact⟨m,⟨hm,by omega⟩,k,⟨rfl,hkl,xE hkr⟩,_,hst,(k+1:Nat),wi,bH hM (chg:=λk:Nat=>prG g ys.length k) (bls:=λk=>isB (reE (rnM g.l) ys k)) (fls:=λ_=>[]) (k+1) ⟨hkl,show ys.length-(k+1)<ys.length-k by omega⟩ rfl rfl trivial ⟨rfl,rfl,rfl,rfl,rfl⟩ bL qP rfl⟩
 replace h2:¬(k:Int)<(ys.length:Nat):=h2
 obtain rfl:k=ys.length:=by omega
 have hr:=aVi (f:=rnM g.l) (aI ys.length)
 show Sd _ _ _ _ _ _
 refine Sd.sq (aA gT mxd ⟨none,[0],cKd _ hr oM,rfl,rfl,rfl,λzs hz=>rT 6 0 (λj=>(zs.getD j default).C) rfl rfl (λj hj=>?_) ?_ bL (gN zs) bL λA c _ _=>aA gT mxd ?_⟩)
 all_goals
  obtain⟨hz1,hz2⟩:=hz
  have hzl:zs.length=ys.length:=hz1.length_eq.trans hr
 ·exact rX zs j oM
 ·rw[gM,hzl]
 rw[bNy] at hz1
 obtain⟨rs,r1,r2⟩:=aVj hz1 (bZv hys)
 exact⟨⟨A,c,zs⟩,⟨rs,r1,bGp r1 (hzl▸hz2) r2 ho hg,r2⟩,aM ⟨congrArg (λm=>CV.r A m c 4 λj=>(zs.getD j default).C) hzl.symm,rfl⟩ rfl trivial⟩
def cI (f:Nat->Rat):Nat->Rat
 |0=>0
 |n+1=>cI f n+f n
theorem bM {f g:Nat->Rat}:∀{n:Nat},(∀j,j<n->f j=g j)->cI f n=cI g n
 |0,_=>rfl
 |n+1,h=>by
  show cI f n+f n=cI g n+g n
  rw[bM λj hj=>h j (eO hj),h n (bF n)]
theorem kJ {f g:Nat->Rat} {q:Rat}:∀{n:Nat},cI (λj=>f j+q*g j) n=cI f n+q*cI g n
 |0=>by show(0:Rat)=0+q*0;rw[cA,bP]
 |n+1=>by
  show cI (λj=>f j+q*g j) n+(f n+q*g n)=cI f n+f n+q*(cI g n+g n)
  rw[kJ];grind
theorem fQ:∀{n:Nat} {f:Nat->Rat},(∀j,j<n->f j=0)->cI f n=0
 |0,_,_=>rfl
 |n+1,f,h=>by
  show cI f n+f n=0
  rw[fQ λj hj=>h j (eO hj),h n (bF n),bP]
theorem jO {f:Nat->Rat} {m:Nat}:∀{n:Nat},m<n->(∀j,j≠m->f j=0)->cI f n=f m
 |0,h,_=>absurd h (aF _)
 |n+1,h,h0=>by
  show cI f n+f n=f m
  by_cases e:m=n
  ·subst e;rw[fQ λj hj=>h0 j oM,fU]
  rw[jO oM h0,h0 n (gE e),bP]
def dtn (n:Nat) (es:List En) (x:Nat->Rat):Rat:=cI (λj=>Vm.get es (j:Nat)*x j) n
theorem bOa {n:Nat} {rs es fs:List En} {q:Rat} {x:Nat->Rat} (h:∀j:Int,Vm.get rs j=Vm.get es j+q*Vm.get fs j):dtn n rs x=dtn n es x+q*dtn n fs x:=by
 unfold dtn
 rw[<-kJ]
 exact bM λj _=>by rw[h];grind
def dtl:List En->(Nat->Rat)->Rat
 |[],_=>0
 |e::es,x=>e.2*x e.1.toNat+dtl es x
theorem aDf {x:Nat->Rat}:∀{es fs:List En},dtl (es++fs) x=dtl es x+dtl fs x
 |[],fs=>by show dtl fs x=0+dtl fs x;rw[fU]
 |e::es,fs=>by
  show e.2*x e.1.toNat+dtl (es++fs) x=e.2*x e.1.toNat+dtl es x+dtl fs x
  rw[aDf,nW]
theorem uL {x:Nat->Rat} {es:List En} {e:En}:dtl (es++[e]) x=dtl es x+e.2*x e.1.toNat:=by
 rw[aDf];show _+(_+(0:Rat))=_;rw[bP]
theorem nK {x y:Nat->Rat}:∀{es:List En},(∀e∈es,x e.1.toNat=y e.1.toNat)->dtl es x=dtl es y
 |[],_=>rfl
 |e::es,h=>by
  show e.2*x e.1.toNat+dtl es x=e.2*y e.1.toNat+dtl es y
  rw[h e (.head _),nK λe' he=>h e' (.tail _ he)]
theorem aNr {x:Nat->Rat} {es fs:List En} (h:es.Perm fs):dtl es x=dtl fs x:=by
 induction h with
 |nil=>rfl
 |cons e _ ih=>show _+_=_+_;rw[ih]
 |swap a b l=>show _+(_+_)=_+(_+_);grind
 |trans _ _ h1 h2=>exact h1.trans h2
theorem uM (e:En) (es:List En) (j:Int):Vm.get (e::es) j=(if e.1=j then e.2 else 0)+Vm.get es j:=by
 rw[show e::es=[e]++es from rfl,get_append]
 congr 1
 by_cases h:e.1=j
 ·subst h;rw[if_pos rfl,get_head (eJ _ _)]
 rw[if_neg h];exact get_none λe' he=>by rw[aH.1 he];exact h
theorem tE {n:Nat} {x:Nat->Rat}:∀{es:List En},(∀e∈es,0<=e.1/\e.1<(n:Nat))->dtl es x=dtn n es x
 |[],_=>(fQ λj _=>by show(0:Rat)*x j=0;rw[dQ]).symm
 |e::es,h=>by
  show e.2*x e.1.toNat+dtl es x=_
  rw[tE λe' he=>h e' (.tail _ he)]
  obtain⟨h1,h2⟩:=h e (.head _)
  have hs:e.2*x e.1.toNat=cI (λj=>(if e.1=(j:Nat) then e.2 else 0)*x j) n:=by
   rw[jO (m:=e.1.toNat) oM λj hj=>by rw[if_neg oM,dQ]]
   rw[if_pos oM]
  rw[hs]
  unfold dtn
  have:=kJ (f:=λj=>(if e.1=(j:Nat) then e.2 else 0)*x j) (g:=λj=>Vm.get es (j:Nat)*x j) (q:=1) (n:=n)
  rw[iU] at this
  rw[<-this]
  exact bM λj _=>by rw[uM];grind
theorem VOk.rg {es:List En} {n:Nat} (h:VOk es (n:Nat)):∀e∈es,0<=e.1/\e.1<(n:Nat):=λe he=>⟨(h.2 e he).1,(h.2 e he).2.1⟩
structure Elim (M:Nat->List En) (n k:Nat) (rw cl:Nat->Nat) (A:List Int) (es lw:Nat->List En):Prop where
 kn:A.length+k=n
 nd:A.Nodup
 mem:∀c:Int,c∈A↔∃j:Nat,c=(j:Nat)/\j<n/\∀i,i<k->cl i≠j
 rlt:∀j,j<k->rw j<n
 rinj:∀i j,i<k->j<k->rw i=rw j->i=j
 clt:∀j,j<k->cl j<n
 cinj:∀i j,i<k->j<k->cl i=cl j->i=j
 piv:∀j,j<k->Vm.get (es (rw j)) (cl j:Nat)≠0
 zl:∀j i,j<i->i<k->Vm.get (es (rw i)) (cl j:Nat)=0
 zu:∀j i,j<k->i<n->(∀t,t<k->rw t≠i)->Vm.get (es i) (cl j:Nat)=0
 lok:∀i,i<n->VOk (lw i) (k:Nat)
 lus:∀j,j<k->VOk (lw (rw j)) (j:Nat)
 sum:∀i,i<n->∀x,dtn n (M i) x=dtn n (es i) x+dtl (lw i) λj=>dtn n (es (rw j)) x
theorem Elim.start (M:Nat->List En) (n:Nat) (rw cl:Nat->Nat):Elim M n 0 rw cl (aL n n) M λ_=>[]:=by
 rw[bFv]
 refine⟨by simp,?_,λc=>?_,λj h=>absurd h (aF _),λi j h=>absurd h (aF _),λj h=>absurd h (aF _),λi j h=>absurd h (aF _),λj h=>absurd h (aF _),λj i _ h=>absurd h (aF _),λj i h=>absurd h (aF _),λi _=>⟨List.Pairwise.nil,λe he=>by cases he⟩,λj h=>absurd h (aF _),λi _ x=>?_⟩
 ·rw[cO,fW]
  exact(cO.1 mC).imp λh e=>h (jH e)
 ·rw[cC]
  constructor
  ·rintro⟨j,hj,rfl⟩;exact⟨j,rfl,cM.1 hj,λi h=>absurd h (aF _)⟩
  rintro⟨j,rfl,hj,_⟩;exact⟨j,cM.2 hj,rfl⟩
 show _=_+(0:Rat);rw[bP]
theorem aYb {A:List Int} {p:Nat} {c:Int} (hp:p<A.length) (hc:A.getD p 0=c):A=A.take p++c::A.drop (p+1)/\A.eraseIdx p=A.take p++A.drop (p+1):=by
 refine⟨?_,pJ A p⟩
 rw[<-hc,gd hp,<-dX hp,dR]
theorem Elim.next {M:Nat->List En} {n k r c p:Nat} {rw cl:Nat->Nat} {A:List Int} {es lw es' lw':Nat->List En} {P:Nat->Prop} (h:Elim M n k rw cl A es lw) (hr:r<n) (hu:∀t,t<k->rw t≠r) (hp:p<A.length) (hc:A.getD p 0=(c:Nat)) (hv:Vm.get (es r) (c:Nat)≠0) (hS:StR r c k es lw es' lw' P) (hP:∀i,P i↔(i<n/\¬(∃t,t<k/\rw t=i)/\i≠r)/\Vm.get (es i) (c:Nat)≠0):Elim M n (k+1) (upd rw k r) (upd cl k c) (A.eraseIdx p) es' lw':=by
 obtain⟨hA1,hA2⟩:=aYb hp hc
 have hcA:(c:Int)∈A:=by rw[hA1];exact dS _ (.head _)
 obtain⟨c',hcc,hcn,hcf⟩:=(h.mem _).1 hcA
 obtain rfl:c=c':=jH hcc
 have nr:¬P r:=λhh=>((hP r).1 hh).1.2.2 rfl
 have er:=(hS.no r nr).1
 have nus:∀t,t<k->¬P (rw t):=λt ht hh=>((hP _).1 hh).1.2.1 ⟨t,ht,rfl⟩
 have ur:∀t,t<k->upd rw k r t=rw t:=λt ht=>bD oM
 have uc:∀t,t<k->upd cl k c t=cl t:=λt ht=>bD oM
 have ee:∀t,t<k+1->es' (upd rw k r t)=es (upd rw k r t):=λt ht=>by
  by_cases e:t=k
  ·subst e;rw[bJ];exact er
  rw[ur t oM];exact(hS.no _ (nus t oM)).1
 have zr:∀j,j<k->Vm.get (es r) (cl j:Nat)=0:=λj hj=>h.zu j r hj hr hu
 refine⟨?_,?_,λc1=>?_,λj hj=>?_,λi j hi hj he=>?_,λj hj=>?_,λi j hi hj he=>?_,λj hj=>?_,λj i hj hi=>?_,λj i hj hi hn=>?_,λi hi=>?_,λj hj=>?_,λi hi x=>?_⟩
 ·rw[sQ hp];have:=h.kn;omega
 ·exact h.nd.sublist (List.eraseIdx_sublist _ _)
 ·have hnd:=h.nd
  rw[hA1] at hnd
  have hcn':(c:Int)∉A.take p++A.drop (p+1):=λhh=>by
   have:=(List.perm_middle.nodup_iff).1 hnd
   exact(kC.1 this).1 hh
  have hme:c1∈A.eraseIdx p↔c1∈A/\c1≠(c:Nat):=by
   rw[hA2]
   constructor
   ·intro h1
    refine⟨?_,λe=>hcn' (e▸h1)⟩
    rw[hA1]
    rcases aQ.1 h1 with h1|h1
    ·exact dK _ h1
    exact dS _ (.tail _ h1)
   rintro⟨h1,h2⟩
   rw[hA1] at h1
   rcases aQ.1 h1 with h1|h1
   ·exact dK _ h1
   rcases bZ.1 h1 with h1|h1
   ·exact absurd h1 h2
   exact dS _ h1
  rw[hme,h.mem]
  constructor
  ·rintro⟨⟨j,rfl,h1,h2⟩,h3⟩
   refine⟨j,rfl,h1,λi hi=>?_⟩
   by_cases e:i=k
   ·subst e;rw[bJ];exact λe=>h3 (by rw[e])
   rw[uc i oM];exact h2 i oM
  rintro⟨j,rfl,h1,h2⟩
  refine⟨⟨j,rfl,h1,λi hi=>by rw[<-uc i hi];exact h2 i oM⟩,λe=>?_⟩
  have:=h2 k oM
  rw[bJ] at this
  exact this (jH e).symm
 ·by_cases e:j=k
  ·subst e;rw[bJ];exact hr
  rw[ur j oM];exact h.rlt j oM
 ·by_cases e1:i=k
  ·by_cases e2:j=k
   ·omega
   subst e1;rw[bJ,ur j oM] at he;exact absurd he.symm (hu j oM)
  by_cases e2:j=k
  ·subst e2;rw[bJ,ur i oM] at he;exact absurd he (hu i oM)
  rw[ur i oM,ur j oM] at he;exact h.rinj i j oM oM he
 ·by_cases e:j=k
  ·subst e;rw[bJ];exact hcn
  rw[uc j oM];exact h.clt j oM
 ·by_cases e1:i=k
  ·by_cases e2:j=k
   ·omega
   subst e1;rw[bJ,uc j oM] at he;exact absurd he.symm (hcf j oM)
  by_cases e2:j=k
  ·subst e2;rw[bJ,uc i oM] at he;exact absurd he (hcf i oM)
  rw[uc i oM,uc j oM] at he;exact h.cinj i j oM oM he
 ·rw[ee j hj]
  by_cases e:j=k
  ·subst e;rw[bJ,bJ];exact hv
  rw[ur j oM,uc j oM];exact h.piv j oM
 ·rw[ee i hi,uc j oM]
  by_cases e:i=k
  ·subst e;rw[bJ];exact zr j oM
  rw[ur i oM];exact h.zl j i hj oM
 ·have hnu:∀t,t<k->rw t≠i:=λt ht=>by rw[<-ur t ht];exact hn t oM
  have hnr:i≠r:=λe=>by
   have:=hn k oM
   rw[bJ] at this
   exact this e.symm
  by_cases e:j=k
  ·subst e
   rw[bJ]
   by_cases hPi:P i
   ·rw[(hS.yes i hPi).1]
    unfold fac
    rw[Rat.neg_mul,uA,jU _ hv,nH,<-jT,Rat.sub_self]
   rw[(hS.no i hPi).1]
   exact aT λhh=>hPi ((hP i).2 ⟨⟨hi,λ⟨t,ht,e⟩=>hnu t ht e,hnr⟩,hh⟩)
  rw[uc j oM]
  have h0:=h.zu j i oM hi hnu
  by_cases hPi:P i
  ·rw[(hS.yes i hPi).1,h0,zr j oM,cA,bP]
  rw[(hS.no i hPi).1];exact h0
 ·have h0:=h.lok i hi
  by_cases hPi:P i
  ·rw[(hS.yes i hPi).2]
   refine⟨eR.2 ⟨h0.1,eJ _ _,λa ha b hb=>?_⟩,λe he=>?_⟩
   ·rw[aH.1 hb]
    exact(h0.2 a ha).2.1
   rcases aQ.1 he with he|he
   ·have:=h0.2 e he;exact⟨this.1,by omega,this.2.2⟩
   rw[aH.1 he]
   refine⟨by show(0:Int)<=(k:Nat);omega,by show(k:Int)<((k+1:Nat):Int);omega,?_⟩
   show fac es r c i≠0
   unfold fac
   intro hh
   rcases qV.1 hh with hh|hh
   ·exact((hP i).1 hPi).2 hh
   have h9:=jU _ hv
   rw[hh,dQ] at h9
   exact absurd h9 dC
  rw[(hS.no i hPi).2]
  exact⟨h0.1,λe he=>by have:=h0.2 e he;exact⟨this.1,by omega,this.2.2⟩⟩
 ·by_cases e:j=k
  ·subst e
   rw[bJ,(hS.no r nr).2]
   exact h.lok r hr
  rw[ur j oM,(hS.no _ (nus j oM)).2];exact h.lus j oM
 have h0:=h.sum i hi x
 have hl:∀l:List En,VOk l (k:Nat)->dtl l (λj=>dtn n (es' (upd rw k r j)) x)=dtl l λj=>dtn n (es (rw j)) x:=λl hl=>nK λe he=>by
  have:=hl.2 e he
  have ht:e.1.toNat<k:=by omega
  show dtn n (es' (upd rw k r e.1.toNat)) x=dtn n (es (rw e.1.toNat)) x
  rw[ee _ oM,ur _ ht]
 by_cases hPi:P i
 ·rw[(hS.yes i hPi).2,uL,hl _ (h.lok i hi),bOa (hS.yes i hPi).1,h0]
  show _=_+(_+fac es r c i*dtn n (es' (upd rw k r (k:Nat))) x)
  rw[bJ,er]
  grind
 rw[(hS.no i hPi).1,(hS.no i hPi).2,hl _ (h.lok i hi),h0]
theorem aVk {es:List En} {x:Nat->Rat} {j:Nat} {v:Rat}:∀{n:Nat},j<n->dtn n es (upd x j v)=dtn n es x+Vm.get es (j:Nat)*(v-x j)
 |0,h=>absurd h (aF _)
 |n+1,h=>by
  show dtn n es (upd x j v)+Vm.get es (n:Nat)*upd x j v n=dtn n es x+Vm.get es (n:Nat)*x n+Vm.get es (j:Nat)*(v-x j)
  by_cases e:j=n
  ·subst e
   have h1:dtn j es (upd x j v)=dtn j es x:=bM λi hi=>by rw[bD oM]
   rw[bJ,h1];grind
  rw[aVk oM,bD (gE e)];grind
def Ker (M:Nat->List En) (n:Nat):Prop:=∃x:Nat->Rat,(∃i,i<n/\x i≠0)/\∀k,k<n->dtn n (M k) x=0
theorem bRr {x:Nat->Rat}:∀{es:List En},(∀e∈es,x e.1.toNat=0)->dtl es x=0
 |[],_=>rfl
 |e::es,h=>by
  show e.2*x e.1.toNat+dtl es x=0
  rw[h e (.head _),bRr λe' he=>h e' (.tail _ he),cA,bP]
theorem Elim.ker {M:Nat->List En} {n k c:Nat} {rw cl:Nat->Nat} {A:List Int} {es lw:Nat->List En} (h:Elim M n k rw cl A es lw) (hcA:(c:Int)∈A) (hz:∀i,i<n->(∀t,t<k->rw t≠i)->Vm.get (es i) (c:Nat)=0):Ker M n:=by
 obtain⟨c',hc',hcn,hcf⟩:=(h.mem _).1 hcA
 obtain rfl:c=c':=jH hc'
 have key:∀m,m<=k->∃x:Nat->Rat,x c=1/\(∀j,j≠c->(∀t,k-m<=t->t<k->cl t≠j)->x j=0)/\∀t,k-m<=t->t<k->dtn n (es (rw t)) x=0:=λm=>by
  induction m with
  |zero=>exact λ_=>⟨λj=>if j=c then 1 else 0,if_pos rfl,λj hj _=>if_neg hj,λt h1 h2=>by omega⟩
  |succ m ih=>
   intro hm
   obtain⟨x,x1,x2,x3⟩:=ih oM
   obtain⟨t0,ht0⟩:∃t0,t0=k-(m+1):=⟨_,rfl⟩
   have htk:t0<k:=by omega
   have hp:=h.piv t0 htk
   have hcc:=hcf t0 htk
   have hcl:=h.clt t0 htk
   have h0:x (cl t0)=0:=x2 _ hcc λt h1 h2 e=>by
    have:=h.cinj t t0 h2 htk e
    omega
   refine⟨upd x (cl t0) (-(dtn n (es (rw t0)) x/Vm.get (es (rw t0)) (cl t0:Nat))),by rw[bD (gE hcc)];exact x1,λj hj ht=>?_,λt h1 h2=>?_⟩
   ·rw[bD (gE (ht t0 oM htk))]
    exact x2 j hj λt h1 h2=>ht t oM h2
   rw[aVk hcl,h0]
   by_cases e:t=t0
   ·subst e
    rw[kN]
    have h9:=mH _ hp
    generalize Vm.get (es (rw t)) (cl t:Nat)=p at h9 hp
    generalize dtn n (es (rw t)) x=D
    have:D+p*(-(D*p⁻¹)-0)=D-D*(p*p⁻¹):=by grind
    rw[this,h9,nH,Rat.sub_self]
   rw[x3 t oM h2,h.zl t0 t oM h2,dQ,bP]
 obtain⟨x,x1,x2,x3⟩:=key k (aI _)
 rw[jA] at x2 x3
 have hE:∀i,i<n->dtn n (es i) x=0:=λi hi=>by
  by_cases hu:∃t,t<k/\rw t=i
  ·obtain⟨t,ht,rfl⟩:=hu
   exact x3 t (aC _) ht
  have hu':∀t,t<k->rw t≠i:=λt ht e=>hu ⟨t,ht,e⟩
  refine fQ λj hj=>?_
  by_cases e:j=c
  ·subst e;rw[hz i hi hu',dQ]
  by_cases hcl:∃t,t<k/\cl t=j
  ·obtain⟨t,ht,rfl⟩:=hcl
   rw[h.zu t i ht hi hu',dQ]
  rw[x2 j e λt _ ht e2=>hcl ⟨t,ht,e2⟩,cA]
 refine⟨x,⟨c,hcn,by rw[x1];decide⟩,λi hi=>?_⟩
 rw[h.sum i hi x,hE i hi,bRr λe he=>?_,bP]
 have:=(h.lok i hi).2 e he
 exact hE _ (h.rlt _ oM)
theorem aRm {p:List Int} {n c:Nat} (hP:PmL p n) (hc:c<n):∀{es:List En},(∀e∈es,0<=e.1/\e.1<(n:Nat))->Vm.get (es.map (rnE p)) (p.getD c 0)=Vm.get es (c:Nat)
 |[],_=>rfl
 |e::es,h=>by
  rw[eQ,uM,uM,aRm hP hc λe' he=>h e' (.tail _ he)]
  congr 1
  obtain⟨h1,h2⟩:=h e (.head _)
  by_cases hh:e.1=(c:Nat)
  ·rw[if_pos hh,if_pos];rfl
   show p.getD e.1.toNat 0=_
   rw[hh];rfl
  rw[if_neg hh,if_neg]
  intro h3
  have:=hP.inj e.1.toNat c oM hc h3
  omega
theorem bGs {p:List Int} {n:Nat} {cl:Nat->Nat} {x:Nat->Rat} (hcl:∀c,c<n->cl (p.getD c 0).toNat=c):∀{es:List En},(∀e∈es,0<=e.1/\e.1<(n:Nat))->dtl (es.map (rnE p)) (λi=>x (cl i))=dtl es x
 |[],_=>rfl
 |e::es,h=>by
  show e.2*x (cl (p.getD e.1.toNat 0).toNat)+dtl (es.map (rnE p)) (λi=>x (cl i))=e.2*x e.1.toNat+dtl es x
  obtain⟨h1,h2⟩:=h e (.head _)
  rw[bGs hcl λe' he=>h e' (.tail _ he),hcl e.1.toNat oM]
theorem aRn {p:List Int} {n:Nat} {es rs:List En} (hP:PmL p n) (ho:VOk es (n:Nat)) (ha:Asc rs) (hp:rs.Perm (es.map (rnE p))):VOk rs (n:Nat):=⟨ha,λe he=>by
 obtain⟨e',he',rfl⟩:=cC.1 (hp.mem_iff.1 he)
 obtain⟨h1,h2,h3⟩:=ho.2 e' he'
 obtain⟨m,hm,hmn⟩:=hP.at' e'.1.toNat oM
 show 0<=p.getD e'.1.toNat 0/\p.getD e'.1.toNat 0<(n:Nat)/\_
 rw[hm]
 exact⟨by omega,by omega,h3⟩⟩
structure LuOk (M:Nat->List En) (n:Nat) (rw cl:Nat->Nat) (Lw Up:Nat->List En):Prop where
 rlt:∀j,j<n->rw j<n
 rinj:∀i j,i<n->j<n->rw i=rw j->i=j
 clt:∀j,j<n->cl j<n
 cinj:∀i j,i<n->j<n->cl i=cl j->i=j
 low:∀k,k<n->∃l,Lw k=l++[((k:Int),1)]/\VOk l (k:Nat)
 up:∀k,k<n->∃p u,Up k=((k:Int),p)::u/\VOk (Up k) (n:Nat)
 eq:∀k,k<n->∀x,dtn n (M (rw k)) x=dtl (Lw k) λj=>dtn n (Up j) λi=>x (cl i)
theorem oW {f:Nat->Nat} {n:Nat} (h:∀j,j<n->f j<n) (hi:∀i j,i<n->j<n->f i=f j->i=j):∀c,c<n->∃j,j<n/\f j=c:=λc hc=>aT λhn=>by
 have h1:(c::(List.range n).map f).Nodup:=by
  refine kC.2 ⟨λhh=>?_,?_⟩
  ·obtain⟨j,hj,he⟩:=cC.1 hh
   exact hn ⟨j,cM.1 hj,he⟩
  rw[cO,fW]
  exact(cO.1 (mC (n:=n))).imp_of_mem λ{a b} ha hb hab he=>hab (hi a b (cM.1 ha) (cM.1 hb) he)
 have h2:=qI (n:=n) h1 λi hi=>by
  rcases bZ.1 hi with rfl|hi
  ·exact hc
  obtain⟨j,hj,rfl⟩:=cC.1 hi
  exact h j (cM.1 hj)
 simp at h2
 omega
abbrev nL (n:Nat) (f:Nat->Nat):List Int:=(List.range n).map λj=>((f j:Nat):Int)
theorem yR {n j:Nat} {f:Nat->Nat} (h:j<n):(nL n f).getD j 0=(f j:Nat):=by unfold nL;simp[h]
theorem bGt {n:Nat} {f:Nat->Nat} (h:∀j,j<n->f j<n) (hi:∀i j,i<n->j<n->f i=f j->i=j):PmL (nL n f) n:=⟨by simp,λi hin=>⟨f i,yR hin,h i hin⟩,λi j hin hjn he=>by rw[yR hin,yR hjn] at he;exact hi i j hin hjn (jH he)⟩
theorem Elim.all {M:Nat->List En} {n:Nat} {rw cl pl:Nat->Nat} {A:List Int} {es lw:Nat->List En} (h:Elim M n n rw cl A es lw) (hp:∀j,j<n->pl (cl j)=j):PmL (nL n pl) n:=by
 have hs:=oW h.clt h.cinj
 refine bGt (λc hc=>?_) λc d hc hd he=>?_
 ·obtain⟨j,hj,rfl⟩:=hs c hc;rw[hp j hj];exact hj
 obtain⟨i,hi,rfl⟩:=hs c hc
 obtain⟨j,hj,rfl⟩:=hs d hd
 rw[hp i hi,hp j hj] at he
 rw[he]
theorem Elim.lu {M:Nat->List En} {n:Nat} {rw cl pl:Nat->Nat} {A:List Int} {es lw Up:Nat->List En} (h:Elim M n n rw cl A es lw) (hp:∀j,j<n->pl (cl j)=j) (ho:∀i,i<n->VOk (es i) (n:Nat)) (hU:∀k,k<n->Asc (Up k)/\(Up k).Perm ((es (rw k)).map (rnE (nL n pl)))):LuOk M n rw cl (λk=>lw (rw k)++[((k:Int),1)]) Up:=by
 have hP:=h.all hp
 have hs:=oW h.clt h.cinj
 have hcl:∀c,c<n->cl ((nL n pl).getD c 0).toNat=c:=λc hc=>by
  obtain⟨j,hj,rfl⟩:=hs c hc
  rw[yR hc,hp j hj];rfl
 have hV:∀k,k<n->VOk (Up k) (n:Nat):=λk hk=>aRn hP (ho _ (h.rlt k hk)) (hU k hk).1 (hU k hk).2
 have hg:∀k j,k<n->j<n->Vm.get (Up k) (j:Nat)=Vm.get (es (rw k)) (cl j:Nat):=λk j hk hj=>by
  have:=aRm hP (h.clt j hj) (ho _ (h.rlt k hk)).rg
  rw[yR (h.clt j hj),hp j hj] at this
  rw[get_perm (hU k hk).2,this]
 refine⟨h.rlt,h.rinj,h.clt,h.cinj,λk hk=>⟨lw (rw k),rfl,h.lus k hk⟩,λk hk=>?_,λk hk x=>?_⟩
 ·have h1:Vm.get (Up k) (k:Nat)≠0:=by rw[hg k k hk hk];exact h.piv k hk
  obtain⟨e,he,hek⟩:=(tS (hV k hk) _).1 h1
  cases hu:Up k with
  |nil=>rw[hu] at he;cases he
  |cons e0 u=>
   have hv:=hV k hk
   have ha:=(hU k hk).1
   rw[hu] at he ha
   have h0:=hv.2 e0 (by rw[hu];exact .head _)
   have hge:¬e0.1<(k:Nat):=λhlt=>by
    have h2:=hg k e0.1.toNat hk oM
    rw[h.zl e0.1.toNat k oM hk,show((e0.1.toNat:Nat):Int)=e0.1 by omega,hu,get_head ha] at h2
    exact h0.2.2 h2
   have hle:e0.1<=(k:Nat):=by
    rcases bZ.1 he with rfl|he
    ·omega
    have:=ha.head e he;omega
   refine⟨e0.2,u,?_,hu▸hv⟩
   rw[show(k:Int)=e0.1 by omega]
 show _=dtl (lw (rw k)++[((k:Int),1)]) _
 have hx:∀j,j<n->dtn n (es (rw j)) x=dtn n (Up j) λi=>x (cl i):=λj hj=>by
  rw[<-tE (hV j hj).rg,aNr (hU j hj).2,bGs hcl (ho _ (h.rlt j hj)).rg,tE (ho _ (h.rlt j hj)).rg]
 rw[h.sum _ (h.rlt k hk),uL,hx k hk,Rat.add_comm]
 congr 1
 ·refine nK λe he=>hx _ ?_
  have:=(h.lus k hk).2 e he
  omega
 show _=(1:Rat)*_;rw[iU];rfl
def prT (q:Nat->List Nat->Tr->Tr):Nat->List Nat->Tr->Tr
 |0,_,t=>t
 |f+1,l,t=>l.foldr (λi r=> .alt i (q i (l.erase i) (prT q f (l.erase i) t)) r) .nil
def cRl:Nat->Tr->Tr
 |7,t=> .alt 2008 t .nil
 |12,t=> .alt 2013 t .nil
 |_,t=>t
def cRm (i:Nat) (l:List Nat) (t:Tr):Tr:=cRl i (bif (l.filter λj=>!Nat.beq j 15).isEmpty&&!Nat.beq i 15 then .alt 2014 t .nil else t)
theorem gs0 {nb:Nat} {s:SS} {σ:Type} {S:σ->SS} {C:σ->Prop} (t i:Nat) {n:Nat} (_:fZ s.sl t=some (.c (.s i n))) (h:Gt nb s S C):Gt nb s S C:=h
def bd (B:Nat):Nat->Nat
 |0=>B
 |k+1=>4*bd B k+1
theorem kT {B k n:Nat} (h:k<=n):bd B k<=bd B n:=by
 induction h with
 |refl=>exact aI _
 |step _ ih=>exact aJ ih (by show _<=4*bd B _+1;omega)
theorem vP {B:Nat} (h:1<=B) (k:Nat):1<=bd B k:=aJ h (kT (aC k))
theorem ElOk.cg {x:El} {n:Nat} {es lw:Nat->List En} {u v:Nat->Prop} (h:ElOk x n es lw u) (hu:∀i,u i↔v i):ElOk x n es lw v:=⟨h.row,h.ok,h.low,h.ca,h.nd,λj hj i=>by rw[h.mem j hj i,hu i]⟩
structure LuM where
 R:Sl Int
 K:Sl Int
 L:MatM
 U:MatM
abbrev LuM.C (f:LuM):List CV:=[cD f.R,cD f.K,iC f.L.r,iC f.L.c,mL f.L.d,iC f.U.r,iC f.U.c,mL f.U.d]
abbrev luZ:List CV:=[.v (.slice none 0 0),.v (.slice none 0 0),iC 0,iC 0,.v (.slice none 0 0),iC 0,iC 0,.v (.slice none 0 0)]
abbrev ioC (n:Nat) (f:Nat->Nat):List CV:=dI n λj=>iC (f j:Nat)
abbrev bOb (m:MatM) (n:Nat) (r:BL):BL:=[(24,0,m.C),(85,0,luZ),(3,1,List.replicate n (iC 0)),(3,1,List.replicate n (iC 0)),(65,1,List.replicate n (.v (.slice none 0 0))),(65,1,List.replicate n (.v (.slice none 0 0))),(85,0,[.s 2 n,.s 3 n,iC n,iC n,.s 4 n,iC n,iC n,.s 5 n])]++r
abbrev bOc (n:Nat):List (Nat×DV):=[(5,.c (.p 6 0)),(4,.c (iC n)),(1,.c (.p 0 0)),(2,.c (.p 1 0))]
def cRn:Ord:=.joinX [] [2000,2002,2004,2005,2006,2009,2010,2011] (prT cRm 5 [1,3,7,12,15] (trS [1016]))
structure FaI (M:Nat->List En) (B n k:Nat) (x:El) (es lw:Nat->List En) (A:List Int) (rw cl pl:Nat->Nat):Prop where
 hk:k<=n
 he:Elim M n k rw cl A es lw
 hx:ElOk x n es lw (λi=>∃t,t<k/\rw t=i)
 be:rbM es n (bd B (min k (n-1)))
 bl:rbM lw n (bd B (min k (n-1)))
 hp:∀j,j<k->pl (cl j)=j
structure FaG where
 k:Nat
 x:El
 es:Nat->List En
 lw:Nat->List En
 A:List Int
 rw:Nat->Nat
 cl:Nat->Nat
 pl:Nat->Nat
abbrev faB (m:MatM) (n a:Nat) (x:El) (A:List Int) (rw cl pl:Nat->Nat):BL:=[(24,0,m.C),(85,0,luZ),(3,1,ioC n rw),(3,1,ioC n cl),(65,1,List.replicate n (.v (.slice none 0 0))),(65,1,List.replicate n (.v (.slice none 0 0))),(85,0,[.s 2 n,.s 3 n,iC n,iC n,.s 4 n,iC n,iC n,.s 5 n]),(3,1,ioC n pl),(24,0,m.C),elR n x,elL n x,elC n x,elA A,elE 9 10 11 12 n a]
theorem bGu {m:MatM} {n a:Nat} {x:El} {A:List Int} {rw cl pl:Nat->Nat}:scB 14 (faB m n a x A rw cl pl):=aB rfl (aB rfl (aB (bU (aX λ_ _=>rfl)) (aB (bU (aX λ_ _=>rfl)) (aB (bU (qO rfl)) (aB (bU (qO rfl)) (aB rfl (aB (bU (aX λ_ _=>rfl)) (aB rfl (aB (bU (aX λ_ _=>rfl)) (aB (bU (aX λ_ _=>rfl)) (aB (bU (aX λ_ _=>rfl)) (aB (bU (bK _)) (aB rfl aY)))))))))))))
abbrev faG (n k:Nat):List (Nat×DV):=[(46,.c (iC k)),(45,.c (iC n)),(7,.c (.p 13 0)),(5,.c (.p 6 0)),(6,.c (.s 7 n)),(2,.c (.p 1 0))]
theorem aRo {n k:Nat} {c1 c2:CV} (h1:(List.replicate n (iC 0))[k]? =some c1) (h2:(ioC n λ_=>0)[k]? =some c2):LeC c1 c2:=tR (λ_ _=>fC _) k c1 c2 h1 h2
theorem aRp {n j v:Nat} {f:Nat->Nat} (h:j<n):mD (ioC n f) (j*1) [iC (v:Nat)]=ioC n (upd f j v)/\j*1+1<=(ioC n f).length:=gU h λi _=>by
 by_cases e:i=j
 ·subst e;rw[if_pos rfl,bJ]
 rw[if_neg e,bD e]
def cRo (n:Nat) (x:El) (A:List Int):Option (Nat×Nat×Nat)->OutF
 |none=>⟨.t [.c (iC 0),.c (iC 0),.c (.v (.bool false))],chB n A.length x A,[CF n x],∃c:Nat,c<n/\(c:Int)∈A/\x.I c=[]⟩
 |some (r,c,p)=>⟨.t [.c (iC r),.c (iC c),.c (.v (.bool true))],chB n (A.eraseIdx p).length x (A.eraseIdx p),[CF n x],(p<A.length/\A.getD p 0=(c:Nat))/\c<n/\r∈kI (x.I c)⟩
theorem aYc (x:El) {n:Nat} {A:List Int} {es lw:Nat->List En} {used:Nat->Prop} (h:ElOk x n es lw used) (h0:0<A.length) (hl:A.length<=4096) (hA:∀a∈A,0<=a/\a<(n:Nat)):CtrF Tryz.prog aAr chL [.c (.p 0 0)] (chB n A.length x A) [CF n x] (cRo n x A):=(bGc x h h0 hl hA).re λg hg=>⟨g,by
 match g,hg with
 |none,hg=>exact⟨hg,rfl,rfl,rfl⟩
 |some (r,c,p),hg=>
  refine⟨hg,rfl,?_,rfl⟩
  show chB n _ x _=chB n _ x _
  rw[sQ hg.1.1]⟩
def cKi:Ord:=.treeX [] [2000,1,2002,2003,4,2005,2006,2007,2008,2009,2010] (trS [2011,12,2013,14,2015,1016])
theorem aVl {n:Nat} {f:Nat->Nat} (j:Nat) (h:j<n):[iC ((nL n f).getD j 0)]=((ioC n f).drop (j*1)).take 1:=by
 have h1:=eB (P:=λj=>iC (f j:Nat)) h
 rw[bI] at h1
 rw[yR h,bI,dX (by rw[dB];exact h)]
 rw[aG (by rw[dB];exact h)] at h1
 injection h1 with h1
 rw[h1];rfl
theorem aVm {T n c:Nat} {A:Option Nat} {f:Nat->Nat}:FrC ⟨T,1,1,λ_=>A,λ_=>c,λ_=>ioC n f⟩ (.h A n c) (cD ⟨A.map λb=>⟨b,0,none⟩,c,nL n f⟩):=⟨0,n,λj=>[iC ((nL n f).getD j 0)],bL,rfl,by unfold cD Sl.R;rw[aN,fJ],by rw[dB,bI],λk hk=>aVl k hk⟩
structure FbG where
 k:Nat
 LA:Nat->Option Nat
 Lc:Nat->Nat
 G:Nat->List EntM
 HA:Nat->Option Nat
 Hn:Nat->Nat
 Hc:Nat->Nat
 S:Nat->Sl EntM
 Up:Nat->List En
structure FbI (n:Nat) (x:El) (es lw:Nat->List En) (rw pl:Nat->Nat) (g:FbG):Prop where
 hk:g.k<=n
 hu:∀j,j<g.k->Ek (g.S j).l (g.Up j)/\Asc (g.Up j)/\(g.Up j).Perm ((es (rw j)).map (rnE (nL n pl)))
 hd:∀j,j<g.k->(g.LA (rw j)=g.HA j/\g.Lc (rw j)=g.Hc j/\(g.G (rw j)).length=g.Hn j)/\Ek (g.G (rw j)) (lw (rw j)++[((j:Int),1)])
 hr:∀i,i<n->(∀t,t<g.k->rw t≠i)->g.LA i=x.LA i/\g.Lc i=x.Lc i/\g.G i=x.L i
abbrev fbH (g:FbG):Nat->CV:=λj=> .h (g.HA j) (g.Hn j) (g.Hc j)
abbrev fbB (m:MatM) (n a:Nat) (x:El) (A:List Int) (rw cl:Nat->Nat) (g:FbG):BL:=[(24,0,m.C),(85,0,luZ),(3,1,ioC n rw),(3,1,ioC n cl),(65,1,dI n (fbH g)),(65,1,dI n λj=>cF (g.S j)),(85,0,[.s 2 n,.s 3 n,iC n,iC n,.s 4 n,iC n,iC n,.s 5 n]),(3,1,[]),(24,0,m.C),elR n x,elL n x,elC n x,elA A,elE 9 10 11 12 n a]
theorem bGv {m:MatM} {n a:Nat} {x:El} {A:List Int} {rw cl:Nat->Nat} {g:FbG}:scB 14 (fbB m n a x A rw cl g):=aB rfl (aB rfl (aB (bU (aX λ_ _=>rfl)) (aB (bU (aX λ_ _=>rfl)) (aB (bU (aX λ_ _=>rfl)) (aB (bU (aX λ_ _=>rfl)) (aB rfl (aB rfl (aB rfl (aB (bU (aX λ_ _=>rfl)) (aB (bU (aX λ_ _=>rfl)) (aB (bU (aX λ_ _=>rfl)) (aB (bU (bK _)) (aB rfl aY)))))))))))))
abbrev fbF (n:Nat) (x:El) (g:FbG):List Fam:=[⟨82,4,n,g.LA,g.Lc,λj=>ecs (g.G j)⟩,CF n x]
abbrev fbS (n:Nat) (P:Sl Int) (k:Nat):List (Nat×DV):=[(81,.c (iC k)),(79,.c (.s 2 n)),(80,.c (iC n)),(7,.c (.p 13 0)),(5,.c (.p 6 0)),(6,.c (cD P)),(2,.c (.p 1 0))]
def cKj:Ord:=.treeX [] [2000,2001,2,2003,2004,2005,2006,7,2008,2009,1010,2011] (trS [12,2013,14,15,2016,1017])
def cKk:Ord:=.treeX [] [2000,2001,2,2003,2004,2005,2006,7,2008,2009,1010,2011] (trS [12,2013,2014,2015,2016,1017])
theorem cm {i:Nat} {l:List CV} (h:∀c∈l,fK c=true):∀c∈l,kU i c=false:=λc hc=>cY (h c hc)
theorem sk {i a:Nat} {A:Option Nat} {l:List CV} (h:∀c∈l,fK c=true):l.map (pL i A a)=l:=(dP λc hc=>jN c (h c hc)).trans (xV _)
theorem aRq {B:Nat} (h:1<=B):rb 1 B:=⟨by show len 1<=B;rw[show len 1=1 by decide];omega,by show len 1<=B;rw[show len 1=1 by decide];omega⟩
theorem bGw {l:List En} {k n:Nat} (h:VOk l (k:Nat)) (hk:k<n):VOk (l++[((k:Int),1)]) (n:Nat):=⟨eR.2 ⟨h.1,eJ _ _,λa ha b hb=>by rw[aH.1 hb];exact(h.2 a ha).2.1⟩,λe he=>by
 rcases aQ.1 he with he|he
 ·have:=h.2 e he;exact⟨this.1,by omega,this.2.2⟩
 rw[aH.1 he];exact⟨by show(0:Int)<=(k:Nat);omega,by show(k:Int)<(n:Nat);omega,show(1:Rat)≠0 by decide⟩⟩
abbrev bGx:FuncId:=46
theorem cKl:Ent Tryz.prog bGx:=aU func46 rfl kR
theorem cKm:Tryz.prog.funcs[bGx]? =some Tryz.f46:=func46
theorem bGy (m:MatM) {M:Nat->List En} {n B:Nat} (h:Mr m M n n B) (hb:rbM M n B) (h1:1<=B) (hB:bd B (n-1)<=4398046511104) (hn:n<=12):Ctr Tryz.prog bGx [] [.a m.C] [] (λg:Option (LuM×(Nat->Nat)×(Nat->Nat)×(Nat->List En)×(Nat->List En))=>match g with
 |none=>⟨.t [.a luZ,.c (iC 6)],[],Ker M n⟩
 |some (f,rw,cl,Lw,Up)=>⟨.t [.a f.C,.c (iC 0)],[],(f.R.l=nL n rw/\f.K.l=nL n cl/\Mx f.L Lw n/\Mx f.U Up n)/\LuOk M n rw cl Lw Up/\rbM Lw n (bd B n)/\rbM Up n (bd B n)⟩):=by
 obtain⟨mr,mc,md⟩:=m
 obtain rfl:mr=(n:Nat):=h.r
 obtain rfl:mc=(n:Nat):=h.c
 have hBB:B<=4398046511104:=aJ (kT (aC (n-1))) hB
 have mk1:n<=maxLen:=by simp only[maxLen];omega
 have fin1:∀(sl:List (Nat×DV)),wD (λ_=>true) [] [] [] sl->AllC sl (bOc n)->Gt 0 ⟨sl,[],bOb ⟨n,n,md⟩ n [],[]⟩ (σ:=Unit) (λ_=>⟨bOc n++[],[],bOb ⟨n,n,md⟩ n [],[]⟩) (λ_=>True):=λsl ht ha=>by
  refine @bH 0 _ (λ_=>true) [] (λt d ht=>by cases ht) Unit (λ_=>bOc n) (λ_=>bOb ⟨n,n,md⟩ n []) (λ_=>[]) _ () trivial ht ?_ trivial ha (aC _) ?_ rfl
  ·exact⟨rfl,rfl,rfl,rfl,rfl,rfl,rfl⟩
  exact aB rfl (aB rfl (aB (bU (qO rfl)) (aB (bU (qO rfl)) (aB (bU (qO rfl)) (aB (bU (qO rfl)) (aB rfl aY))))))
 refine aW gT cKl cKm rfl rfl rfl bL aS (aA gT mxd ⟨[],aEx _ h hBB oM oM,rfl,rfl,rfl,λ_ _=>⟨λhh=>absurd trivial hh,λ_=>aA gT mxd ⟨λhh=>absurd rfl hh,λ_=>aA gT mxd ?_⟩⟩⟩)
 refine⟨cRn,by kernel_rfl,Unit,λ_=>⟨bOc n++[],[],bOb ⟨n,n,md⟩ n [],[]⟩,λ_=>True,?_,λ_ _=>?_⟩
 ·refine⟨?_,?_,?_,?_,?_⟩
  all_goals (first|refine⟨n,⟨rfl,rfl,by show 8*n<=_;omega,mk1⟩,rfl,?_⟩|refine⟨n,⟨rfl,rfl,by show 24*n<=_;omega,mk1⟩,rfl,?_⟩|refine⟨rfl,?_⟩)
  all_goals refine⟨?_,?_,?_,?_⟩
  all_goals (first|refine⟨n,⟨rfl,rfl,by show 8*n<=_;omega,mk1⟩,rfl,?_⟩|refine⟨n,⟨rfl,rfl,by show 24*n<=_;omega,mk1⟩,rfl,?_⟩|refine⟨rfl,?_⟩)
  all_goals refine⟨?_,?_,?_⟩
  all_goals (first|refine⟨n,⟨rfl,rfl,by show 8*n<=_;omega,mk1⟩,rfl,?_⟩|refine⟨n,⟨rfl,rfl,by show 24*n<=_;omega,mk1⟩,rfl,?_⟩|refine⟨rfl,?_⟩)
  all_goals refine⟨?_,?_⟩
  all_goals (first|refine⟨n,⟨rfl,rfl,by show 8*n<=_;omega,mk1⟩,rfl,?_⟩|refine⟨n,⟨rfl,rfl,by show 24*n<=_;omega,mk1⟩,rfl,?_⟩|refine⟨rfl,?_⟩)
  all_goals (first|refine⟨n,⟨rfl,rfl,by show 8*n<=_;omega,mk1⟩,rfl,?_⟩|refine⟨n,⟨rfl,rfl,by show 24*n<=_;omega,mk1⟩,rfl,?_⟩|refine⟨rfl,?_⟩)
  all_goals (first|refine gs0 27 2 rfl ?_|refine gs0 27 3 rfl (gsw 2 3 rfl rfl bL bL rfl ⟨_,rpm aO rfl,_,rpm aO rfl,_,rpm aO rfl,_,rpm aO rfl,bL,?_⟩)|refine gs0 27 4 rfl (gsw 2 4 rfl rfl bL bL rfl ⟨_,rpm aO rfl,_,rpm aO rfl,_,rpm aO rfl,_,rpm aO rfl,bL,?_⟩)|refine gs0 27 5 rfl (gsw 2 5 rfl rfl bL bL rfl ⟨_,rpm aO rfl,_,rpm aO rfl,_,rpm aO rfl,_,rpm aO rfl,bL,?_⟩)|refine gs0 27 6 rfl (gsw 2 6 rfl rfl bL bL rfl ⟨_,rpm aO rfl,_,rpm aO rfl,_,rpm aO rfl,_,rpm aO rfl,bL,?_⟩))
  all_goals (first|refine gs0 29 3 rfl ?_|refine gs0 29 4 rfl (gsw 3 4 rfl rfl bL bL rfl ⟨_,rpm aO rfl,_,rpm aO rfl,_,rpm aO rfl,_,rpm aO rfl,bL,?_⟩)|refine gs0 29 5 rfl (gsw 3 5 rfl rfl bL bL rfl ⟨_,rpm aO rfl,_,rpm aO rfl,_,rpm aO rfl,_,rpm aO rfl,bL,?_⟩)|refine gs0 29 6 rfl (gsw 3 6 rfl rfl bL bL rfl ⟨_,rpm aO rfl,_,rpm aO rfl,_,rpm aO rfl,_,rpm aO rfl,bL,?_⟩))
  all_goals (first|refine gs0 33 4 rfl ?_|refine gs0 33 5 rfl (gsw 4 5 rfl rfl bL bL rfl ⟨_,rpm aO rfl,_,rpm aO rfl,_,rpm aO rfl,_,rpm aO rfl,bL,?_⟩)|refine gs0 33 6 rfl (gsw 4 6 rfl rfl bL bL rfl ⟨_,rpm aO rfl,_,rpm aO rfl,_,rpm aO rfl,_,rpm aO rfl,bL,?_⟩))
  all_goals (first|refine gs0 38 5 rfl ?_|refine gs0 38 6 rfl (gsw 5 6 rfl rfl bL bL rfl ⟨_,rpm aO rfl,_,rpm aO rfl,_,rpm aO rfl,_,rpm aO rfl,bL,?_⟩))
  all_goals exact fin1 _ (by rfl) (by exact⟨rfl,rfl,rfl,rfl⟩)
 refine⟨n,⟨rfl,rfl,by show 8*n<=_;omega,mk1⟩,[],bNj ⟨n,n,md⟩ h hb h1 hBB oM,rfl,rfl,rfl,λx hx=>?_⟩
 replace hx:ElOk x n M (λ_=>[]) (λ_=>False):=hx
 show Sd _ _ _ _ _ _
 refine gH tSd 2 (ioC n λ_=>0) rfl (by rw[dB,cJ]) (λ_ _ _=>aRo) ?_
 refine gH tSd 3 (ioC n λ_=>0) rfl (by rw[dB,cJ]) (λ_ _ _=>aRo) ?_
 refine gH tSd 7 (ioC n λ_=>0) rfl (by rw[dB,cJ]) (λ_ _ _=>aRo) ?_
 refine cG (λ_=>true) (λg:FaG=>faG n g.k) (λg=>faB ⟨n,n,md⟩ n g.A.length g.x g.A g.rw g.cl g.pl) (λg=>[LF n g.x,CF n g.x]) (λg=>FaI M B n g.k g.x g.es g.lw g.A g.rw g.cl g.pl) (λg=>n-g.k) λhM=>⟨bH hM (chg:=λg:FaG=>faG n g.k) (bls:=λg=>faB ⟨n,n,md⟩ n g.A.length g.x g.A g.rw g.cl g.pl) (fls:=λg=>[LF n g.x,CF n g.x]) ⟨0,x,M,λ_=>[],aL n n,λ_=>0,λ_=>0,λ_=>0⟩ ⟨aC _,Elim.start M n _ _,hx.cg λi=>⟨False.elim,λ⟨t,ht,_⟩=>absurd ht (aF _)⟩,(by show rbM M n (bd B (min 0 (n-1)));rw[Nat.zero_min];exact hb),λi _ e he=>(by cases he),λj hj=>absurd hj (aF _)⟩ rfl ⟨rfl,rfl,rfl,rfl,rfl,rfl,rfl,rfl,rfl,rfl,rfl,rfl,rfl,?_⟩ ⟨rfl,rfl,trivial⟩ ⟨rfl,rfl,rfl,rfl,rfl,rfl⟩ bL bGu rfl,λ⟨k,x,es,lw,A,rw,cl,pl⟩ hI=>aA gT mxd ⟨λh2=>aA gT mxd ?_,λh2=>aA gT mxd ?_⟩⟩
 ·show elE 9 10 11 12 n n=elE 9 10 11 12 n (aL n n).length
  rw[bFv];simp
 ·replace h2:(k:Int)<(n:Nat):=h2
  have hkn:k<n:=by omega
  obtain⟨-,he,hx,hbe,hbl,hpp⟩:=hI
  replace he:Elim M n k rw cl A es lw:=he
  replace hx:ElOk x n es lw (λi=>∃t,t<k/\rw t=i):=hx
  replace hbe:rbM es n (bd B (min k (n-1))):=hbe
  replace hbl:rbM lw n (bd B (min k (n-1))):=hbl
  replace hpp:∀j,j<k->pl (cl j)=j:=hpp
  have hAl:=he.kn
  have hA:∀a∈A,0<=a/\a<(n:Nat):=λa ha=>by
   obtain⟨j,rfl,hj,_⟩:=(he.mem a).1 ha
   omega
  refine⟨[13,9,10,11,12,1001],aYc x hx oM oM hA,rfl,rfl,rfl,λg hg=>?_⟩
  match g,hg with
  |none,⟨c,hc,hcA,hI⟩=>
   have hker:Ker M n:=he.ker hcA λi hi hu=>aT λhne=>by
    have:=(hx.mem c hc i).2 ⟨⟨hi,λ⟨t,ht,e⟩=>hu t ht e⟩,hne⟩
    rw[hI] at this
    cases this
   exact⟨none,hker,aM ⟨rfl,rfl⟩ rfl trivial⟩
  |some (r,c,p),⟨⟨hp,hc⟩,hcn,hrk⟩=>
   obtain⟨⟨hr,hu⟩,hpv⟩:=(hx.mem c hcn r).1 hrk
   have hbm:bd B (min k (n-1))<=4398046511104:=aJ (kT oM) hB
   have hbb:∀i,i<n->¬(∃t,t<k/\rw t=i)->i≠r->k+1<n:=λi hi hui hir=>aT λhk2=>by
    obtain rfl:n=k+1:=by omega
    obtain⟨t,ht,e⟩:=oW (f:=upd rw k r) (n:=k+1) (λj hj=>by
     by_cases e:j=k
     ·subst e;rw[bJ];exact hr
     ·rw[bD e];exact he.rlt j oM) (λa b ha hb e=>by
     by_cases e1:a=k
     ·by_cases e2:b=k
      ·omega
      subst e1;rw[bJ,bD e2] at e;exact absurd ⟨b,by omega,e.symm⟩ hu
     by_cases e2:b=k
     ·subst e2;rw[bJ,bD e1] at e;exact absurd ⟨a,by omega,e⟩ hu
     rw[bD e1,bD e2] at e;exact he.rinj a b oM oM e) i hi
    by_cases e2:t=k
    ·subst e2;rw[bJ] at e;exact hir e.symm
    rw[bD e2] at e;exact hui ⟨t,by omega,e⟩
   have hbo:∀i,i<n->¬(∃t,t<k/\rw t=i)->i≠r->4*bd B (min k (n-1))+1<=4398046511104:=λi hi hui hir=>by
    have h7:=hbb i hi hui hir
    rw[eH oM]
    exact aJ (kT (k:=k+1) oM) hB
   refine⟨cKi,by kernel_rfl,k,⟨rfl,hkn,cQ hkn⟩,_,aRp hkn,rfl,k,⟨rfl,hkn,cQ hkn⟩,_,aRp hkn,rfl,c,⟨rfl,hcn,cQ hcn⟩,_,aRp hcn,?_⟩
   refine⟨[13,9,10,11,12,1000,1001],bZi x (A:=A.eraseIdx p) (kk:=k) hx oM hr hu hcn hpv hbe hbl (vP h1 _) hbm hbo oM (λi hi=>by have:=kW (he.lok i hi);omega),rfl,rfl,rfl,λ⟨x',es',lw'⟩ ⟨⟨hx',hS⟩,hbe',hbl'⟩=>?_⟩
   have hbx:rbM es' n (bd B (min (k+1) (n-1)))/\rbM lw' n (bd B (min (k+1) (n-1))):=by
    by_cases hk2:k+1<n
    ·rw[show min (k+1) (n-1)=k+1 by omega]
     rw[show min k (n-1)=k by omega] at hbe' hbl'
     exact⟨hbe',hbl'⟩
    rw[show min (k+1) (n-1)=min k (n-1) by omega]
    have h9:∀i,es' i=es i/\lw' i=lw i:=λi=>hS.no i λhh=>hk2 (hbb i hh.1.1 hh.1.2.1 hh.1.2.2)
    exact⟨λi hi=>by rw[(h9 i).1];exact hbe i hi,λi hi=>by rw[(h9 i).2];exact hbl i hi⟩
   replace hu:∀t,t<k->rw t≠r:=λt ht e=>hu ⟨t,ht,e⟩
   have he':=he.next hr hu hp hc hpv hS λi=>lF
   refine⟨(k+1:Nat),wi,bH hM (chg:=λg:FaG=>faG n g.k) (bls:=λg=>faB ⟨n,n,md⟩ n g.A.length g.x g.A g.rw g.cl g.pl) (fls:=λg=>[LF n g.x,CF n g.x]) ⟨k+1,x',es',lw',A.eraseIdx p,upd rw k r,upd cl k c,upd pl c k⟩ ⟨⟨hkn,he',hx'.cg λi=>⟨λhh=>?_,λ⟨t,ht,e⟩=>?_⟩,hbx.1,hbx.2,λj hj=>?_⟩,show n-(k+1)<n-k by omega⟩ rfl ⟨rfl,rfl,rfl,rfl,rfl,rfl,rfl,rfl,rfl,rfl,rfl,rfl,rfl,rfl⟩ ⟨rfl,rfl,trivial⟩ ⟨rfl,rfl,rfl,rfl,rfl,rfl⟩ bL bGu rfl⟩
   ·rcases hh with ⟨t,ht,e⟩|e
    ·exact⟨t,eO ht,(bD oM).trans e⟩
    exact⟨k,bF k,bJ.trans e.symm⟩
   ·replace ht:t<k+1:=ht
    replace e:upd rw k r t=i:=e
    by_cases e2:t=k
    ·subst e2;rw[bJ] at e;exact .inr e.symm
    rw[bD e2] at e;exact .inl ⟨t,by omega,e⟩
   replace hj:j<k+1:=hj
   show upd pl c k (upd cl k c j)=j
   by_cases e2:j=k
   ·subst e2;rw[bJ,bJ]
   have e3:cl j≠c:=λe4=>by
    have h5:=he'.cinj j k oM oM
    rw[bD e2,bJ] at h5
    exact e2 (h5 e4)
   rw[bD e2,bD e3]
   exact hpp j oM
 replace h2:¬(k:Int)<(n:Nat):=h2
 obtain⟨hk,he,hx,hbe,hbl,hpp⟩:=hI
 replace hk:k<=n:=hk
 obtain rfl:n=k:=by omega
 replace he:Elim M n n rw cl A es lw:=he
 replace hx:ElOk x n es lw (λi=>∃t,t<n/\rw t=i):=hx
 replace hbe:rbM es n (bd B (min n (n-1))):=hbe
 rw[show min n (n-1)=n-1 by omega] at hbe
 replace hbl:rbM lw n (bd B (min n (n-1))):=hbl
 rw[show min n (n-1)=n-1 by omega] at hbl
 replace hpp:∀j,j<n->pl (cl j)=j:=hpp
 have hP:=he.all hpp
 show Sd _ _ _ _ _ _
 refine rT 6 7 (λj=>[iC ((nL n pl).getD j 0)]) rfl rfl (λj hj=>aVl j hj) (by rw[dB,bI]) bL (aX λ_ _=>rfl) bL λPA pc _ _=>⟨cm (aX λ_ _=>rfl),cm (aX λ_ _=>rfl),cm (qO rfl),cm (qO rfl),cm (aX λ_ _=>rfl),cm (aX λ_ _=>rfl),cm (aX λ_ _=>rfl),cm (bK _),aA gT mxd ?_⟩
 show Sd _ _ _ _ _ _
 refine gH tSd 4 (dI n λ_=> .h none 0 0) rfl (by rw[dB,cJ]) (tR λ_ _=>LeC.nilh) ?_
 refine gH tSd 5 (dI n λ_=>cF cP) rfl (by rw[dB,cJ]) (tR λ_ _=>qG) ?_
 have hPl:(nL n pl).length=n:=hP.ln
 obtain⟨P,hPe⟩:∃P:Sl Int,P=⟨PA,pc,nL n pl⟩:=⟨_,rfl⟩
 have hPs:CV.r PA n pc 1 (λj=>[iC ((nL n pl).getD j 0)])=cD P:=by rw[hPe];unfold cD Sl.R;rw[hPl]
 refine cG (λ_=>true) (λg:FbG=>fbS n P g.k) (λg=>fbB ⟨n,n,md⟩ n A.length x A rw cl g) (λg=>fbF n x g) (λg=>FbI n x es lw rw pl g) (λg=>n-g.k) λhM2=>⟨bH hM2 (chg:=λg:FbG=>fbS n P g.k) (bls:=λg=>fbB ⟨n,n,md⟩ n A.length x A rw cl g) (fls:=λg=>fbF n x g) ⟨0,x.LA,x.Lc,x.L,λ_=>none,λ_=>0,λ_=>0,λ_=>cP,λ_=>[]⟩ ⟨aC _,λj hj=>absurd hj (aF _),λj hj=>absurd hj (aF _),λi _ _=>⟨rfl,rfl,rfl⟩⟩ rfl ⟨rfl,rfl,rfl,rfl,rfl,rfl,rfl,rfl,rfl,rfl,rfl,rfl,rfl,rfl⟩ ⟨rfl,rfl,trivial⟩ ⟨rfl,rfl,rfl,rfl,rfl,hPs,rfl⟩ bL bGv rfl,λ⟨k,LA,Lc,G,HA,Hn,Hc,S,Up⟩ ⟨hk,hu,hd,hr⟩=>aA gT mxd ⟨λh3=>aA gT mxd ?_,λh3=>aA gT mxd ?_⟩⟩
 all_goals
  replace hk:k<=n:=hk
  replace hu:∀j,j<k->Ek (S j).l (Up j)/\Asc (Up j)/\(Up j).Perm ((es (rw j)).map (rnE (nL n pl))):=hu
  replace hd:∀j,j<k->(LA (rw j)=HA j/\Lc (rw j)=Hc j/\(G (rw j)).length=Hn j)/\Ek (G (rw j)) (lw (rw j)++[((j:Int),1)]):=hd
  replace hr:∀i,i<n->(∀t,t<k->rw t≠i)->LA i=x.LA i/\Lc i=x.Lc i/\G i=x.L i:=hr
 ·replace h3:(k:Int)<(n:Nat):=h3
  have hkn:k<n:=by omega
  obtain⟨i,hi⟩:∃i,i=rw k:=⟨_,rfl⟩
  have hin:i<n:=by rw[hi];exact he.rlt k hkn
  have hti:∀t,t<k->rw t≠i:=λt ht e=>by
   have:=he.rinj t k oM hkn (e.trans hi)
   omega
  obtain⟨r1,r2,r3⟩:=hr i hin hti
  have hlo:=hx.low i hin
  have hll:(x.L i).length=(lw i).length:=hlo.ln
  have hli:=kW (he.lok i hin)
  have hcell:(dI n (hdP x.LA x.Lc x.L))[i*1]? =some (.h (x.LA i) (x.L i).length (x.Lc i)):=eB hin
  have hcell2:(dI n λj=>cF (x.R j))[i*1]? =some (cF (x.R i)):=eB hin
  refine⟨k,⟨rfl,hkn,cQ hkn⟩,_,(eB hkn).trans (by rw[<-hi]),?_⟩
  refine⟨cKj,by kernel_rfl,i,⟨rfl,hin,cQ hin⟩,_,_,⟨hcell,rfl⟩,[],yG (z:=1) dC,rfl,rfl,rfl,λq hq=>⟨ck (congrArg tP hcell) (ck rfl (ck rfl rfl)),ck (congrArg tP hcell) (ck rfl (ck rfl rfl)),0,i,⟨rfl,hin,r1,r2,?_,?_,?_,?_⟩,λA' c'=>⟨ck (congrArg tP hcell) (ck rfl (ck rfl rfl)),k,⟨rfl,hkn,cQ hkn⟩,_,gU (c:=.h A' ((x.L i).length+1) c') (Q:=λj=> .h (upd HA k A' j) (upd Hn k ((x.L i).length+1) j) (upd Hc k c' j)) hkn (λj _=>?_),?_⟩⟩⟩
  ·show(x.L i).length*4=(ecs (G i)).length
   rw[gM,r3]
  ·show(x.L i).length+1<=maxLen
   simp only[maxLen]
   omega
  ·show((x.L i).length+1)*64<=_
   omega
  ·intro c' hc'
   rcases bZ.1 hc' with rfl|hc'
   ·rfl
   exact iY _ c' hc'
  ·by_cases e:j=k
   ·subst e;rw[if_pos rfl,bJ,bJ,bJ]
   rw[if_neg e,bD e,bD e,bD e]
  have hPP:PmL P.l n:=by rw[hPe];exact hP
  refine⟨cKk,by kernel_rfl,i,⟨rfl,hin,cQ hin⟩,_,_,⟨hcell2,rfl⟩,[],bGr (x.R i) P (hx.row i hin) (hbe i hin) (vP h1 (n-1)) hB (hx.ok i hin).1 hn hPP,rfl,rfl,rfl,λy ⟨rs,y1,y2,y3⟩=>⟨ck (congrArg tP hcell2) (ck rfl (ck rfl rfl)),k,⟨rfl,hkn,cQ hkn⟩,_,gU (c:=cF y) (Q:=λj=>cF (upd S k y j)) hkn (λj _=>?_),(k+1:Nat),wi,bH hM2 (chg:=λg:FbG=>fbS n P g.k) (bls:=λg=>fbB ⟨n,n,md⟩ n A.length x A rw cl g) (fls:=λg=>fbF n x g) ⟨k+1,upd LA i A',upd Lc i c',upd G i (G i++[(⟨k,q⟩:EntM)]),upd HA k A',upd Hn k ((x.L i).length+1),upd Hc k c',upd S k y,upd Up k rs⟩ ⟨⟨hkn,λj hj=>?_,λj hj=>?_,λi' hi' ht'=>?_⟩,show n-(k+1)<n-k by omega⟩ rfl ⟨rfl,rfl,rfl,rfl,rfl,rfl,rfl,rfl,rfl,rfl,rfl,rfl,rfl,rfl⟩ ⟨aDa (T:=82) (n:=n) (A:=upd LA i A') (cap:=upd Lc i c') (G:=G) (j:=i) (e:=⟨k,q⟩),rfl,trivial⟩ ⟨rfl,rfl,rfl,rfl,rfl,rfl,rfl⟩ bL bGv rfl⟩⟩
  ·by_cases e:j=k
   ·subst e;rw[if_pos rfl,bJ]
   rw[if_neg e,bD e]
  ·replace hj:j<k+1:=hj
   show Ek (upd S k y j).l (upd Up k rs j)/\Asc (upd Up k rs j)/\(upd Up k rs j).Perm _
   by_cases e:j=k
   ·subst e
    rw[bJ,bJ,<-hi]
    refine⟨y1,y2,?_⟩
    rw[hPe] at y3
    exact y3
   rw[bD e,bD e];exact hu j oM
  ·replace hj:j<k+1:=hj
   show(upd LA i A' (rw j)=upd HA k A' j/\upd Lc i c' (rw j)=upd Hc k c' j/\(upd G i (G i++[(⟨k,q⟩:EntM)]) (rw j)).length=upd Hn k _ j)/\Ek (upd G i (G i++[(⟨k,q⟩:EntM)]) (rw j)) _
   by_cases e:j=k
   ·subst e
    rw[<-hi]
    simp only[bJ]
    rw[r3]
    exact⟨⟨trivial,trivial,by rw[aE];rfl⟩,bGe hlo rfl hq⟩
   have e2:=hti j oM
   rw[bD e,bD e,bD e,bD e2,bD e2,bD e2]
   exact hd j oM
  replace ht':∀t,t<k+1->rw t≠i':=ht'
  have e2:i'≠i:=λe=>ht' k oM (by rw[e,hi])
  show upd LA i A' i'=_/\upd Lc i c' i'=_/\upd G i _ i'=_
  rw[bD e2,bD e2,bD e2]
  exact hr i' hi' λt ht=>ht' t oM
 replace h3:¬(k:Int)<(n:Nat):=h3
 obtain rfl:n=k:=by omega
 have hlu:=he.lu (Up:=Up) hpp (λi hi=>(hx.ok i hi).1) λj hj=>⟨(hu j hj).2.1,(hu j hj).2.2⟩
 obtain⟨SL,hSL⟩:∃SL:Nat->Sl EntM,SL=λj=>⟨(HA j).map λb=>⟨b,0,none⟩,Hc j,G (rw j)⟩:=⟨_,rfl⟩
 show Sd _ _ _ _ _ _
 refine iX tSd 4 0 (dI n λj=>cF (SL j)) rfl rfl rfl (by rw[dB,dB]) (aEy λj hj=>?_) ?_
 ·obtain⟨⟨d1,d2,d3⟩,d4⟩:=hd j hj
  refine⟨rw j,Hn j,λk=>((G (rw j)).getD k default).C,he.rlt j hj,?_,?_,?_,λq hq=>rX _ q oM⟩
  ·show CV.h (HA j) (Hn j) (Hc j)= .h (LA (rw j)) (Hn j) (Lc (rw j))
   rw[d1,d2]
  ·show cF (SL j)=CV.r ((LA (rw j)).map λb=>⟨b,0,none⟩) (Hn j) (Lc (rw j)) 4 _
   rw[hSL,d1,d2,<-d3];rfl
  show Hn j*4=(ecs (G (rw j))).length
  rw[gM,d3]
 refine jV tSd 2 rfl bL (aX λ_ _=>rfl) bL rfl λA2 c2=>⟨_,sk (aX λ_ _=>rfl),_,sk (aX λ_ _=>rfl),_,sk (aX λ_ _=>rfl),_,rfl,_,sk (aX λ_ _=>rfl),_,sk (aX λ_ _=>rfl),_,sk (aX λ_ _=>rfl),_,sk (bK _),?_⟩
 refine iX tSd 6 2 [cD ⟨A2.map λb=>⟨b,0,none⟩,c2,nL n rw⟩,.s 3 n,iC n,iC n,.s 4 n,iC n,iC n,.s 5 n] rfl rfl rfl rfl (vL (k0:=0) rfl aVm) ?_
 refine jV tSd 3 rfl bL (aX λ_ _=>rfl) bL rfl λA3 c3=>⟨_,rfl,_,sk (aX λ_ _=>rfl),_,sk (aX λ_ _=>rfl),_,rfl,_,sk (aX λ_ _=>rfl),_,sk (aX λ_ _=>rfl),_,sk (aX λ_ _=>rfl),_,sk (bK _),?_⟩
 refine iX tSd 6 3 [cD ⟨A2.map λb=>⟨b,0,none⟩,c2,nL n rw⟩,cD ⟨A3.map λb=>⟨b,0,none⟩,c3,nL n cl⟩,iC n,iC n,.s 4 n,iC n,iC n,.s 5 n] rfl rfl rfl rfl (vL (k0:=1) rfl aVm) ?_
 refine jV tSd 4 rfl bL (aX λ_ _=>rfl) bL rfl λA4 c4=>⟨_,rfl,_,rfl,_,sk (aX λ_ _=>rfl),_,rfl,_,sk (aX λ_ _=>rfl),_,sk (aX λ_ _=>rfl),_,sk (aX λ_ _=>rfl),_,sk (bK _),?_⟩
 refine iX tSd 6 4 [cD ⟨A2.map λb=>⟨b,0,none⟩,c2,nL n rw⟩,cD ⟨A3.map λb=>⟨b,0,none⟩,c3,nL n cl⟩,iC n,iC n,mL ⟨A4.map λb=>⟨b,0,none⟩,c4,kS SL n⟩,iC n,iC n,.s 5 n] rfl rfl rfl rfl (vL (k0:=4) rfl vM) ?_
 refine jV tSd 5 rfl bL (aX λ_ _=>rfl) bL rfl λA5 c5=>⟨_,rfl,_,rfl,_,rfl,_,rfl,_,sk (aX λ_ _=>rfl),_,sk (aX λ_ _=>rfl),_,sk (aX λ_ _=>rfl),_,sk (bK _),?_⟩
 refine iX tSd 6 5 [cD ⟨A2.map λb=>⟨b,0,none⟩,c2,nL n rw⟩,cD ⟨A3.map λb=>⟨b,0,none⟩,c3,nL n cl⟩,iC n,iC n,mL ⟨A4.map λb=>⟨b,0,none⟩,c4,kS SL n⟩,iC n,iC n,mL ⟨A5.map λb=>⟨b,0,none⟩,c5,kS S n⟩] rfl rfl rfl rfl (vL (k0:=7) rfl vM) ?_
 refine aA gT mxd ⟨some (⟨⟨A2.map λb=>⟨b,0,none⟩,c2,nL n rw⟩,⟨A3.map λb=>⟨b,0,none⟩,c3,nL n cl⟩,⟨n,n,⟨A4.map λb=>⟨b,0,none⟩,c4,kS SL n⟩⟩,⟨n,n,⟨A5.map λb=>⟨b,0,none⟩,c5,kS S n⟩⟩⟩,rw,cl,λk=>lw (rw k)++[((k:Int),1)],Up),⟨⟨rfl,rfl,?_,?_⟩,hlu,?_,?_⟩,aM ⟨rfl,rfl⟩ rfl trivial⟩
 ·refine⟨rfl,rfl,nJ,λj hj=>?_,λj hj=>?_⟩
  ·show Ek ((kS SL n).getD j cP).l _
   rw[qH hj,hSL];exact(hd j hj).2
  have:=bGw (he.lus j hj) hj
  exact⟨this,kW this⟩
 ·refine⟨rfl,rfl,nJ,λj hj=>?_,λj hj=>?_⟩
  ·show Ek ((kS S n).getD j cP).l _
   rw[qH hj];exact(hu j hj).1
  have:=aRn hP (hx.ok _ (he.rlt j hj)).1 (hu j hj).2.1 (hu j hj).2.2
  exact⟨this,kW this⟩
 ·intro j hj e hem
  rcases aQ.1 hem with hem|hem
  ·exact(hbl _ (he.rlt j hj) e hem).le (kT (Nat.sub_le n 1))
  rw[aH.1 hem];exact aRq (vP h1 n)
 intro j hj e hem
 obtain⟨e',he',rfl⟩:=cC.1 ((hu j hj).2.2.mem_iff.1 hem)
 exact(hbe _ (he.rlt j hj) e' he').le (kT (Nat.sub_le n 1))
abbrev fpG (g:Sl Int) (n k:Nat):List (Nat×DV):=[(16,.c (iC k)),(14,.c (cD g)),(15,.c (iC n)),(1,.c (iC n)),(5,.c (.s 0 n))]
abbrev bGz:FuncId:=236
theorem cKn:Ent Tryz.prog bGz:=aU func236 rfl kR
theorem cKo:Tryz.prog.funcs[bGz]? =some Tryz.f236:=func236
theorem bHa (g:Sl Int) {n:Nat} (hp:PmL g.l n) (hn:n<=4096):Ctr Tryz.prog bGz [] [.c (cD g),.c (iC n)] [] (λ_:Unit=>⟨.c (.v (.bool true)),[],True⟩):=by
 obtain rfl:g.l.length=n:=hp.ln
 refine aW gT cKn cKo rfl rfl rfl bL aS (aA gT mxd ⟨λh=>absurd rfl h,λ_=>aA gT mxd ⟨g.l.length,⟨rfl,rfl,by show 1*g.l.length<=_;omega,by simp only[maxLen];omega⟩,?_⟩⟩)
 show Sd _ _ _ _ _ _
 refine gH tSd 0 (dI g.l.length (bw λ_=>false)) rfl (by rw[dB,cJ]) (tR λ_ _=>fC _) ?_
 refine cG (λ_=>true) (λu:Nat×(Nat->Bool)=>fpG g g.l.length u.1) (λu=>ipB g.l.length u.2) (λ_=>[]) (λu=>u.1<=g.l.length/\SnP g.l u.1 u.2) (λu=>g.l.length-u.1) λhM=>⟨bH hM (chg:=λu:Nat×(Nat->Bool)=>fpG g g.l.length u.1) (bls:=λu=>ipB g.l.length u.2) (fls:=λ_=>[]) (0,λ_=>false) ⟨aC _,λj hj=>by cases hj⟩ rfl rfl trivial ⟨rfl,rfl,rfl,rfl,rfl⟩ bL aKj rfl,λ⟨k,s⟩ ⟨hk,hs⟩=>aA gT mxd ⟨λh2=>aA gT mxd ?_,λh2=>aA gT mxd ?_⟩⟩
 all_goals
  replace hk:k<=g.l.length:=hk
  replace hs:SnP g.l k s:=hs
 ·replace h2:(k:Int)<(g.l.length:Nat):=h2
  have hkl:k<g.l.length:=by omega
  obtain⟨m,hm,hmn⟩:=hp.at' k hkl
  have hf:=hs.not hp hkl hm
  have hc:(dI g.l.length (bw s))[m*1]? =some (rQ (.bool false)):=(eB hmn).trans (by unfold bw;rw[hf];rfl)
  refine⟨k,⟨rfl,hkl⟩,m,λhq=>⟨hm,hmn,cQ hmn⟩,_,λhq=>hc,?_⟩
  refine⟨λh3=>?_,λh3=>aA gT mxd ⟨m,⟨hm,hmn,cQ hmn⟩,_,bGm hmn,(k+1:Nat),wi,bH hM (chg:=λu:Nat×(Nat->Bool)=>fpG g g.l.length u.1) (bls:=λu=>ipB g.l.length u.2) (fls:=λ_=>[]) (k+1,upd s m true) ⟨⟨hkl,hs.next hm⟩,show g.l.length-(k+1)<g.l.length-k by omega⟩ rfl rfl trivial ⟨rfl,rfl,rfl,rfl,rfl⟩ bL aKj rfl⟩⟩
  replace h3:(g.l.getD k 0<0\/((g.l.length:Nat):Int)<=g.l.getD k 0)\/(false=true):=h3
  rcases h3 with h3|h3
  ·omega
  cases h3
 exact aA gT mxd ⟨(),trivial,aM rfl rfl trivial⟩
structure LuG (f:LuM) (M:Nat->List En) (n:Nat) (rw cl:Nat->Nat) (Lw Up:Nat->List En) (F:Nat):Prop where
 R:f.R.l=nL n rw
 K:f.K.l=nL n cl
 L:Mx f.L Lw n
 U:Mx f.U Up n
 o:LuOk M n rw cl Lw Up
 bl:rbM Lw n F
 bu:rbM Up n F
abbrev wfB (n:Nat):BL:=[(3,0,[iC n])]
abbrev bHb:FuncId:=237
theorem cKp:Ent Tryz.prog bHb:=aU func237 rfl kR
theorem cKq:Tryz.prog.funcs[bHb]? =some Tryz.f237:=func237
theorem bRs (m:MatM) {M:Nat->List En} {n B:Nat} (h:Mx m M n) (hb:rbM M n B) (hB:B<=4398046511104) (hn:n<=4096):Ctr Tryz.prog bHb [true] [.a m.C,.c (.p 0 0)] (wfB n) (λ_:Unit=>⟨pC True,wfB n,True⟩):=by
 have hr:=h.r
 have hc:=h.c
 refine aW gT cKp cKq rfl rfl rfl bL (eW rfl) (aA gT mxd ⟨λhq=>?_,λhq=>?_⟩)
 ·exact⟨[],aEx m (h.mr hb) hB hn hn,rfl,rfl,rfl,λ_ _=>⟨(),trivial,fH lF rfl bL (aB rfl aY) rfl (eW rfl)⟩⟩
 exact absurd ⟨hr,hc⟩ hq
abbrev wfG (n k:Nat):List (Nat×DV):=[(37,.c (iC k)),(36,.c (iC n)),(2,.c (.p 0 0)),(6,.c (.p 2 0))]
abbrev bHc:FuncId:=213
theorem cRp:Ent Tryz.prog bHc:=aU func213 rfl kR
theorem cRq:Tryz.prog.funcs[bHc]? =some Tryz.f213:=func213
theorem cKr (f:LuM) {M:Nat->List En} {n F:Nat} {rw cl:Nat->Nat} {Lw Up:Nat->List En} (h:LuG f M n rw cl Lw Up F) (hF:F<=4398046511104) (h1:1<=F) (hn:n<=4096):Ctr Tryz.prog bHc [] [.a f.C,.c (iC n)] [] (λ_:Unit=>⟨.c (.v (.bool true)),[],True⟩):=by
 have pR:PmL f.R.l n:=by rw[h.R];exact bGt h.o.rlt h.o.rinj
 have pK:PmL f.K.l n:=by rw[h.K];exact bGt h.o.clt h.o.cinj
 refine aW gT cRp cRq rfl rfl rfl bL aS (aA gT mxd ⟨[],bHa f.R pR hn,rfl,rfl,rfl,λ_ _=>⟨[],bHa f.K pK hn,rfl,rfl,rfl,λ_ _=>?_⟩⟩)
 refine⟨_,rfl,[1],bRs f.L h.L h.bl hF hn,rfl,rfl,rfl,λ_ _=>?_⟩
 refine⟨λhq=>absurd trivial hq,λ_=>⟨_,rfl,[1],bRs f.U h.U h.bu hF hn,rfl,rfl,rfl,λ_ _=>⟨λhq=>absurd trivial hq,λ_=>aA gT mxd ⟨[],yG (z:=1) dC,rfl,rfl,rfl,λq hq=>?_⟩⟩⟩⟩
 replace hq:Cr q 1:=hq
 show Sd _ _ _ _ _ _
 refine cG (λ_=>true) (λk:Nat=>wfG n k) (λ_=>[(85,0,f.C),(3,0,[iC n]),(62,0,q.C)]) (λ_=>[]) (λk=>k<=n) (λk=>n-k) λhM=>⟨bH hM (chg:=λk:Nat=>wfG n k) (bls:=λ_=>[(85,0,f.C),(3,0,[iC n]),(62,0,q.C)]) (fls:=λ_=>[]) 0 (aC _) rfl ⟨rfl,rfl,rfl⟩ trivial ⟨rfl,rfl,rfl,rfl⟩ bL (aB rfl (aB rfl (aB rfl aY))) rfl,λk hk=>aA gT mxd ⟨λh2=>aA gT mxd ?_,λh2=>aA gT mxd ?_⟩⟩
 all_goals
  replace hk:k<=n:=hk
 ·replace h2:(k:Int)<(n:Nat):=h2
  have hkn:k<n:=by omega
  have lL:=h.L.ln
  have lU:=h.U.ln
  have eL:=h.L.row k hkn
  have eU:=h.U.row k hkn
  refine⟨.seq (sq 99 (List.range 14)),by kernel_rfl,k,⟨rfl,show k<f.L.d.l.length by omega⟩,k,⟨rfl,show k<f.U.d.l.length by omega⟩,?_⟩
  obtain⟨l,hl,hvl⟩:=h.o.low k hkn
  obtain⟨p,u,hu,hvu⟩:=h.o.up k hkn
  have ln1:(f.L.d.l.getD k cP).l.length=l.length+1:=by rw[eL.ln,hl];simp
  have ln2:0<(f.U.d.l.getD k cP).l.length:=by rw[eU.ln,hu];simp
  have e1:=eL.e l.length (by rw[hl];simp)
  have e2:=eU.e 0 (by rw[hu];simp)
  have hl2:(Lw k).getD l.length default=((k:Int),1):=by rw[hl];simp
  rw[hl2] at e1
  rw[hu] at e2
  have i1:((f.L.d.l.getD k cP).l.getD l.length default).ix=(k:Nat):=e1.1
  have i2:((f.U.d.l.getD k cP).l.getD 0 default).ix=(k:Nat):=e2.1
  have hll:=kW hvl
  have q1:Rq q 1 F:=hq.rq (aRq h1)
  have q2:Rq ((f.L.d.l.getD k cP).l.getD l.length default).v 1 F:=Cr.rq e1.2 (aRq h1)
  have ar:((l.length:Nat):Int)=IntKind.i64.wrap (((f.L.d.l.getD k cP).l.length:Nat)-1):=wi oM
  refine⟨.seq (sq 23 (List.range 26)),by kernel_rfl,(l.length:Nat),λ_=>ar,l.length,λ_=>⟨rfl,show l.length<(f.L.d.l.getD k cP).l.length by omega⟩,(l.length:Nat),λ_=>ar,l.length,λ_=>⟨rfl,show l.length<(f.L.d.l.getD k cP).l.length by omega⟩,?_⟩
  refine⟨λh3=>?_,λh3=>⟨[],bZp _ q (q2.le) (q1.le),rfl,rfl,rfl,λ_ _=>⟨λh4=>absurd rfl h4,λh4=>aA gT mxd ⟨0,λ_=>⟨rfl,ln2⟩,⟨λh5=>?_,λh5=>aA gT mxd ⟨(k+1:Nat),wi,bH hM (chg:=λk:Nat=>wfG n k) (bls:=λ_=>[(85,0,f.C),(3,0,[iC n]),(62,0,q.C)]) (fls:=λ_=>[]) (k+1) ⟨hkn,show n-(k+1)<n-k by omega⟩ rfl ⟨rfl,rfl,rfl⟩ trivial ⟨rfl,rfl,rfl,rfl⟩ bL (aB rfl (aB rfl (aB rfl aY))) rfl⟩⟩⟩⟩⟩⟩
  ·replace h3:(((f.L.d.l.getD k cP).l.length:Nat):Int)=0\/((f.L.d.l.getD k cP).l.getD l.length default).ix≠(k:Nat):=h3
   omega
  replace h5:(((f.U.d.l.getD k cP).l.length:Nat):Int)=0\/((f.U.d.l.getD k cP).l.getD 0 default).ix≠(k:Nat):=h5
  omega
 exact aA gT mxd ⟨(),trivial,aM rfl rfl trivial⟩
abbrev aVn:FuncId:=170
theorem bRt:Ent Tryz.prog aVn:=aU func170 rfl kR
theorem bRu:Tryz.prog.funcs[aVn]? =some Tryz.f170:=func170
theorem cKs (f:LuM) (b:Sl RatM) {M:Nat->List En} {n F:Nat} {rw cl:Nat->Nat} {Lw Up:Nat->List En} (h:LuG f M n rw cl Lw Up F) (hF:F<=4398046511104) (h1:1<=F) (hn:n<=4096) (hb:b.l.length=n):Ctr Tryz.prog aVn [] [.a f.C,.c (fI b)] [] (λ_:Unit=>⟨.c (iC 0),[],True⟩):=by
 have hR:f.R.l.length=n:=by rw[h.R];simp
 have hw:Ctr Tryz.prog bHc [] [.a f.C,.c (iC (f.R.l.length:Nat))] [] (λ_:Unit=>⟨.c (.v (.bool true)),[],True⟩):=by rw[hR];exact cKr f h hF h1 hn
 refine aW gT bRt bRu rfl rfl rfl bL aS (aA gT mxd ?_)
 refine⟨[],hw,rfl,rfl,rfl,λ_ _=>⟨λh2=>?_,λ_=>aA gT mxd ⟨(),trivial,aM rfl rfl trivial⟩⟩⟩
 replace h2:¬((b.l.length:Nat):Int)=(f.R.l.length:Nat):=h2
 omega
def fwd (lo:Nat->List En) (b:Nat->Rat):Nat->Nat->Rat
 |0=>λ_=>0
 |i+1=>upd (fwd lo b i) i (b i-dtl (lo i) (fwd lo b i))
theorem aKk {lo:Nat->List En} {b:Nat->Rat}:∀{n:Nat},(∀k,k<n->VOk (lo k) (k:Nat))->∀k,k<n->fwd lo b n k=b k-dtl (lo k) (fwd lo b n)
 |0,_,k,h=>absurd h (aF _)
 |n+1,h,k,hk=>by
  have hc:dtl (lo k) (fwd lo b (n+1))=dtl (lo k) (fwd lo b n):=nK λe he=>by
   have:=(h k hk).2 e he
   exact bD oM
  rw[hc]
  by_cases e:k=n
  ·subst e;exact bJ
  show upd _ n _ k=_
  rw[bD e,aKk (λk hk=>h k oM) k oM]
theorem bOd {lo:Nat->List En} {b w:Nat->Rat} {n:Nat} (h:∀k,k<n->VOk (lo k) (k:Nat)):(∀k,k<n->dtl (lo k) w+w k=b k)↔∀k,k<n->w k=fwd lo b n k:=by
 constructor
 ·intro hw k
  induction k using Nat.strongRecOn with
  |ind k ih=>
   intro hk
   rw[aKk h k hk,<-nK (x:=w) λe he=>by
    have:=(h k hk).2 e he
    exact ih e.1.toNat oM oM]
   have:=hw k hk
   grind
 intro hw k hk
 rw[hw k hk,nK (y:=fwd lo b n) λe he=>by
  have:=(h k hk).2 e he
  exact hw e.1.toNat oM,aKk h k hk]
 grind
def bwd (us:Nat->List En) (p:Nat->Rat) (n:Nat) (z:Nat->Rat):Nat->Nat->Rat
 |0=>z
 |k+1=>upd (bwd us p n z k) (n-1-k) ((bwd us p n z k (n-1-k)-dtl (us (n-1-k)) (bwd us p n z k))/p (n-1-k))
theorem aRr {us:Nat->List En} {p z:Nat->Rat} {n:Nat} (h:∀i,i<n->∀e∈us i,(i:Int)<e.1/\e.1<(n:Nat)):∀k,k<=n->(∀i,i<n-k->bwd us p n z k i=z i)/\∀i,n-k<=i->i<n->bwd us p n z k i=(z i-dtl (us i) (bwd us p n z k))/p i
 |0,_=>⟨λi _=>rfl,λi h1 h2=>by omega⟩
 |k+1,hk=>by
  obtain⟨h1,h2⟩:=aRr h k oM
  have hc:∀i,n-1-k<=i->i<n->dtl (us i) (bwd us p n z (k+1))=dtl (us i) (bwd us p n z k):=λi hi hin=>nK λe he=>by
   have:=h i hin e he
   exact bD oM
  refine⟨λi hi=>?_,λi hi hin=>?_⟩
  ·show upd _ _ _ i=_
   rw[bD oM];exact h1 i oM
  rw[hc i oM hin]
  show upd _ _ _ i=_
  by_cases e:i=n-1-k
  ·subst e;rw[bJ,h1 _ oM]
  rw[bD e];exact h2 i oM hin
theorem bOe {us:Nat->List En} {p y z:Nat->Rat} {n:Nat} (h:∀i,i<n->∀e∈us i,(i:Int)<e.1/\e.1<(n:Nat)) (hp:∀i,i<n->p i≠0):(∀i,i<n->p i*y i+dtl (us i) y=z i)↔∀i,i<n->y i=bwd us p n z n i:=by
 have he:=λi (hi:i<n)=>(aRr (p:=p) (z:=z) h n (aI n)).2 i oM hi
 constructor
 ·intro hy
  have key:∀d i,i<n->n-i=d->y i=bwd us p n z n i:=λd=>by
   induction d using Nat.strongRecOn with
   |ind d ih=>
    intro i hi hd
    rw[he i hi,<-nK (x:=y) λe hm=>by
     have:=h i hi e hm
     exact ih (n-e.1.toNat) oM e.1.toNat oM rfl,<-hy i hi]
    have:=hp i hi
    rw[kN,Rat.add_comm,jT]
    have e1:dtl (us i) y+p i*y i+ -dtl (us i) y=y i*p i:=by grind
    rw[e1,uA,mH _ this,nH]
  exact λi hi=>key _ i hi rfl
 intro hy i hi
 rw[hy i hi,nK (y:=bwd us p n z n) λe hm=>by
  have:=h i hi e hm
  exact hy e.1.toNat oM]
 rw[he i hi,kN]
 have:=hp i hi
 have e1:p i*((z i-dtl (us i) (bwd us p n z n))*(p i)⁻¹)=(z i-dtl (us i) (bwd us p n z n))*(p i*(p i)⁻¹):=by grind
 rw[e1,mH _ this,nH]
 grind
def Sol (M:Nat->List En) (n:Nat) (b xv:Nat->Rat):Prop:=∀x:Nat->Rat,(∀k,k<n->dtn n (M k) x=b k)↔∀c,c<n->x c=xv c
structure LuP (n:Nat) (Lw Up lo us:Nat->List En) (p:Nat->Rat):Prop where
 lo:∀k,k<n->Lw k=lo k++[((k:Int),1)]/\VOk (lo k) (k:Nat)
 us:∀k,k<n->Up k=((k:Int),p k)::us k/\(∀e∈us k,(k:Int)<e.1/\e.1<(n:Nat))/\(us k).length<=n-1-k
 p:∀k,k<n->p k≠0
theorem LuOk.parts {M:Nat->List En} {n:Nat} {rw cl:Nat->Nat} {Lw Up:Nat->List En} (h:LuOk M n rw cl Lw Up):∃lo us p,LuP n Lw Up lo us p:=by
 refine⟨λk=>(Lw k).dropLast,λk=>(Up k).tail,λk=>((Up k).headD default).2,λk hk=>?_,λk hk=>?_,λk hk=>?_⟩
 ·obtain⟨l,h1,h2⟩:=h.low k hk
  show Lw k=(Lw k).dropLast++_/\VOk (Lw k).dropLast _
  rw[h1,List.dropLast_concat];exact⟨rfl,h2⟩
 ·obtain⟨p,u,h1,h2⟩:=h.up k hk
  show Up k=(_,((Up k).headD default).2)::(Up k).tail/\_
  rw[h1] at h2 ⊢
  have hin:∀e∈u,(k:Int)<e.1/\e.1<(n:Nat):=λe he=>⟨h2.1.head e he,(h2.2 e (.tail _ he)).2.1⟩
  refine⟨rfl,hin,?_⟩
  have h3:(u.map λe:En=>(e.1-(k:Int)-1).toNat).Nodup:=by
   rw[cO,fW]
   refine h2.1.tail.imp_of_mem λ{a b} ha hb hab he=>?_
   have:=hin a ha
   have:=hin b hb
   have:a.1<b.1:=hab
   omega
  have:=qI (n:=n-1-k) h3 λi hi=>by
   obtain⟨e,he,rfl⟩:=cC.1 hi
   have:=hin e he
   omega
  rwa [aN] at this
 obtain⟨p,u,h1,h2⟩:=h.up k hk
 show((Up k).headD default).2≠0
 rw[h1] at h2 ⊢
 exact(h2.2 _ (.head _)).2.2
theorem LuOk.sol {M:Nat->List En} {n:Nat} {rw cl:Nat->Nat} {Lw Up lo us:Nat->List En} {p:Nat->Rat} (h:LuOk M n rw cl Lw Up) (hP:LuP n Lw Up lo us p) {b xv:Nat->Rat} (hx:∀i,i<n->xv (cl i)=bwd us p n (fwd lo (λi=>b (rw i)) n) n i):Sol M n b xv:=λx=>by
 have hU:∀k,k<n->dtn n (Up k) (λi=>x (cl i))=p k*x (cl k)+dtl (us k) (λi=>x (cl i)):=λk hk=>by
  obtain⟨h1,h2,_⟩:=hP.us k hk
  rw[<-tE λe he=>by
   rw[h1] at he
   rcases bZ.1 he with rfl|he
   ·exact⟨by show(0:Int)<=(k:Nat);omega,by show(k:Int)<(n:Nat);omega⟩
   have:=h2 e he;exact⟨by omega,this.2⟩,h1]
  rfl
 have hL:∀k,k<n->∀w,dtl (Lw k) w=dtl (lo k) w+w k:=λk hk w=>by
  rw[(hP.lo k hk).1,uL]
  show _+(1:Rat)*w k=_
  rw[iU]
 have e1:(∀k,k<n->dtn n (M k) x=b k)↔∀k,k<n->dtl (lo k) (λj=>dtn n (Up j) λi=>x (cl i))+dtn n (Up k) (λi=>x (cl i))=b (rw k):=by
  constructor
  ·intro hh k hk
   rw[<-hL k hk,<-h.eq k hk]
   exact hh _ (h.rlt k hk)
  intro hh k hk
  obtain⟨j,hj,rfl⟩:=oW h.rlt h.rinj k hk
  rw[h.eq j hj,hL j hj]
  exact hh j hj
 have e2:=bOd (b:=λi=>b (rw i)) (w:=λj=>dtn n (Up j) λi=>x (cl i)) λk hk=>(hP.lo k hk).2
 have e3:=bOe (y:=λi=>x (cl i)) (z:=fwd lo (λi=>b (rw i)) n) (λi hi=>(hP.us i hi).2.1) hP.p
 rw[e1]
 refine e2.trans ⟨λhh=>?_,λhh k hk=>?_⟩
 ·have h4:=e3.1 λi hi=>by rw[<-hh i hi];exact(hU i hi).symm
  intro c hc
  obtain⟨j,hj,rfl⟩:=oW h.clt h.cinj c hc
  rw[hx j hj];exact h4 j hj
 have h4:=e3.2 λi hi=>(hh _ (h.clt i hi)).trans (hx i hi)
 exact(hU k hk).trans (h4 k hk)
def zb (B F:Nat):Nat->Nat
 |0=>B
 |i+1=>zb B F i+i*(F+zb B F i+1)
theorem aVo {B F k n:Nat} (h:k<=n):zb B F k<=zb B F n:=by
 induction h with
 |refl=>exact aI _
 |step _ ih=>exact aJ ih (nM _ _)
def yb (Z F:Nat):Nat->Nat
 |0=>Z
 |k+1=>yb Z F k+k*(F+yb Z F k+1)+F
theorem aNs {Z F k n:Nat} (h:k<=n):yb Z F k<=yb Z F n:=by
 induction h with
 |refl=>exact aI _
 |step _ ih=>exact aJ ih (by show _<=yb Z F _+_+F;omega)
theorem aCh {P Q:Nat->List CV} (h:∀j,(P j).length=(Q j).length/\∀(k:Nat) (c c':CV),(P j)[k]? =some c->(Q j)[k]? =some c'->LeC c c'):∀n,(flatR n P).length=(flatR n Q).length/\∀(k:Nat) (c c':CV),(flatR n P)[k]? =some c->(flatR n Q)[k]? =some c'->LeC c c'
 |0=>⟨rfl,λk c c' h1=>by cases h1⟩
 |n+1=>by
  obtain⟨i1,i2⟩:=aCh h n
  obtain⟨j1,j2⟩:=h n
  rw[gR,gR]
  refine⟨by rw[aE,aE,i1,j1],λk c c' h1 h2=>?_⟩
  by_cases hk:k<(flatR n P).length
  ·rw[bA hk] at h1
   rw[bA oM] at h2
   exact i2 k c c' h1 h2
  rw[bR oM] at h1
  rw[bR oM,<-i1] at h2
  exact j2 _ c c' h1 h2
theorem lK {n:Nat}:(flatR n λ_=>(default:RatM).C).length=((List.replicate n vI).flatten).length/\∀(k:Nat) (c c':CV),((List.replicate n vI).flatten)[k]? =some c->(flatR n λ_=>(default:RatM).C)[k]? =some c'->LeC c c':=by
 obtain⟨h1,h2⟩:=aCh (P:=λ_=>vI) (Q:=λ_=>(default:RatM).C) (λ_=>⟨rfl,aNk⟩) n
 rw[<-aKb]
 exact⟨h1.symm,h2⟩
abbrev rtC (n:Nat) (Z:Nat->RatM):List CV:=flatR n λj=>(Z j).C
theorem fF {n k:Nat} {Z:Nat->RatM} (h:k<n):k*3<(rtC n Z).length:=bEr (λ_=>rfl) h
theorem mE {n k:Nat} {Z:Nat->RatM} (h:k<n):((rtC n Z).drop (k*3)).take 3=(Z k).C/\(Z k).C.length=3:=bXx (λ_=>rfl) h rfl
theorem gZ {n k:Nat} {Z:Nat->RatM} {g:RatM} (h:k<n):mD (rtC n Z) (k*3) g.C=rtC n (upd Z k g)/\k*3+g.C.length<=(rtC n Z).length:=aUr (λ_=>rfl) h rfl λj _=>by
 by_cases e:j=k
 ·subst e;rw[if_pos rfl,bJ]
 rw[if_neg e,bD e]
theorem eM {n:Nat} {Z:Nat->RatM}:∀c∈rtC n Z,fK c=true:=yY (λ_=>iY _) n
abbrev aRs (f:LuM) (n:Nat) (Z:Nat->RatM):BL:=[(85,0,f.C),(62,3,rtC n Z)]
theorem aDg {f:LuM} {n:Nat} {Z:Nat->RatM}:scB 2 (aRs f n Z):=aB rfl (aB (bU eM) aY)
abbrev bOf (b:Sl RatM) (n i:Nat):List (Nat×DV):=[(31,.c (iC i)),(30,.c (iC n)),(1,.c (fI b)),(2,.c (.p 0 0)),(7,.c (iC n)),(8,.c (.s 1 n))]
abbrev bZx (b:Sl RatM) (n i:Nat) (A:Option Addr) (c m:Nat) (row:Sl EntM) (t:Nat):List (Nat×DV):=(57,.c (iC t))::(55,.c (.r A m c 4 λj=>(row.l.getD j default).C))::(56,.c (iC m))::(9,.c (iC i))::bOf b n i
abbrev aRt (f:LuM) (n:Nat) (Z X:Nat->RatM):BL:=[(85,0,f.C),(62,3,rtC n Z),(62,3,rtC n X)]
theorem aDh {f:LuM} {n:Nat} {Z X:Nat->RatM}:scB 3 (aRt f n Z X):=aB rfl (aB (bU eM) (aB (bU eM) aY))
abbrev bOg (n k:Nat):List (Nat×DV):=[(81,.c (iC k)),(80,.c (iC n)),(2,.c (.p 0 0)),(7,.c (iC n)),(8,.c (.s 1 n)),(13,.c (.s 2 n))]
abbrev bZy (n k i:Nat) (A:Option Addr) (c m:Nat) (row:Sl EntM) (t:Nat):List (Nat×DV):=(97,.c (iC t))::(95,.c (.r A m c 4 λj=>(row.l.getD (j+1) default).C))::(96,.c (iC m))::(15,.c (iC i))::(16,.c (cF row))::bOg n k
theorem aRu {f:Nat->Nat} {n:Nat} (_:∀j,j<n->f j<n) (hi:∀i j,i<n->j<n->f i=f j->i=j) (y:Nat->Rat):∃x:Nat->Rat,∀j,j<n->x (f j)=y j:=by
 classical
 refine⟨λc=>if h:∃j,j<n/\f j=c then y h.choose else 0,λj hj=>?_⟩
 have h:∃j',j'<n/\f j'=f j:=⟨j,hj,rfl⟩
 show(if h:∃j',j'<n/\f j'=f j then y h.choose else 0)=y j
 rw[dif_pos h]
 exact congrArg y (hi _ _ h.choose_spec.1 hj h.choose_spec.2)
theorem swl {i j:Nat} {l:List CV} (h:∀c∈l,fK c=true):l.map (swC i j)=l:=(dP λc hc=>aO c (h c hc)).trans (xV _)
theorem aNt (a:Rat):a-0=a:=by grind
abbrev aKl:FuncId:=107
theorem bOh:Ent Tryz.prog aKl:=aU func107 rfl kR
theorem bOi:Tryz.prog.funcs[aKl]? =some Tryz.f107:=func107
theorem bHd (f:LuM) (b:Sl RatM) {M:Nat->List En} {n F B:Nat} {rw cl:Nat->Nat} {Lw Up:Nat->List En} {bv:Nat->Rat} (h:LuG f M n rw cl Lw Up F) (h1:1<=F) (hn:n<=4096) (hb:b.l.length=n) (hbv:∀k,k<n->Cr (b.l.getD k default) (bv k)/\rb (bv k) B) (h1B:1<=B) (hF:F<=4398046511104) (hB:yb (zb B F n) F n<=4398046511104):
 Ctr Tryz.prog aKl [true] [.a f.C,.c (fI b)] [] (λg:(Nat->RatM)×(Nat->Rat)=>⟨.t [.c (.s 0 n),.c (iC 0)],[(62,3,rtC n g.1)],Sol M n bv g.2/\∀c,c<n->Cr (g.1 c) (g.2 c)/\rb (g.2 c) (yb (zb B F n) F n)⟩):=by
 obtain⟨lo,us,p,hP⟩:=h.o.parts
 have hZB:zb B F n<=4398046511104:=aJ (aNs (aC n)) hB
 have hR:f.R.l.length=n:=by rw[h.R];simp
 have hRi:((f.R.l.length:Nat):Int)=(n:Nat):=by rw[hR]
 have hRc:iC (f.R.l.length:Nat)=iC (n:Nat):=by rw[hR]
 obtain⟨ζ,hζ⟩:∃ζ,ζ=fwd lo (λi=>bv (rw i)) n:=⟨_,rfl⟩
 have eζ:∀k,k<n->ζ k=bv (rw k)-dtl (lo k) ζ:=λk hk=>by rw[hζ];exact aKk (b:=λi=>bv (rw i)) (λk hk=>(hP.lo k hk).2) k hk
 refine aW gT bOh bOi rfl rfl rfl bL (λi T es l hi=>by cases hi) (aA gT mxd ⟨[],cKs f b h hF h1 hn hb,rfl,rfl,rfl,λ_ _=>⟨λhh=>absurd rfl hh,λ_=>aA gT mxd ⟨n,⟨hRi,hRi,by show 56*n<=_;omega,by simp only[maxLen];omega⟩,?_⟩⟩⟩)
 show Sd _ _ _ _ _ _
 refine gH tSd 1 (rtC n λ_=>default) rfl lK.1 lK.2 ?_
 refine cG (λ_=>true) (λg:Nat×(Nat->RatM)=>bOf b n g.1) (λg=>aRs f n g.2) (λ_=>[]) (λg=>g.1<=n/\∀j,j<g.1->Rq (g.2 j) (ζ j) (zb B F g.1)) (λg=>n-g.1) λhM=>⟨bH hM (chg:=λg:Nat×(Nat->RatM)=>bOf b n g.1) (bls:=λg=>aRs f n g.2) (fls:=λ_=>[]) (0,λ_=>default) ⟨aC _,λj hj=>absurd hj (aF _)⟩ rfl ⟨rfl,rfl⟩ trivial ⟨rfl,hRi,rfl,rfl,hRi,rfl⟩ bL aDg rfl,λ⟨i,Z⟩ ⟨hi,hZ⟩=>aA gT mxd ⟨λh2=>aA gT mxd ?_,λh2=>aA gT mxd ?_⟩⟩
 all_goals
  replace hi:i<=n:=hi
  replace hZ:∀j,j<i->Rq (Z j) (ζ j) (zb B F i):=hZ
 ·replace h2:(i:Int)<(n:Nat):=h2
  have hin:i<n:=by omega
  have hri:=h.o.rlt i hin
  have hix:f.R.l.getD i 0=(rw i:Nat):=by rw[h.R];exact yR hin
  have lL:=h.L.ln
  have eL:=h.L.row i hin
  obtain⟨hl,hvl⟩:=hP.lo i hin
  have ln1:(f.L.d.l.getD i cP).l.length=(lo i).length+1:=by rw[eL.ln,hl];simp
  have hll:=kW hvl
  refine⟨i,⟨rfl,show i<f.R.l.length by omega⟩,rw i,⟨hix,show rw i<b.l.length by omega⟩,i,⟨rfl,hin,fF hin⟩,_,gZ hin,i,⟨rfl,show i<f.L.d.l.length by omega⟩,((lo i).length:Nat),wi (by show(((lo i).length:Nat):Int)=(((f.L.d.l.getD i cP).l.length:Nat):Int)-1/\_<=(((f.L.d.l.getD i cP).l.length:Nat):Int)-1/\(((f.L.d.l.getD i cP).l.length:Nat):Int)-1<=_;omega),(lo i).length,⟨rfl,show(lo i).length<=(f.L.d.l.getD i cP).l.length by omega⟩,?_⟩
  obtain⟨row,hrow⟩:∃row,row=f.L.d.l.getD i cP:=⟨_,rfl⟩
  rw[<-hrow] at eL ln1
  show Sd _ _ _ _ _ _
  refine cG (λ_=>true) (λg:Nat×(Nat->RatM)=>bZx b n i row.A row.c (lo i).length row g.1) (λg=>aRs f n g.2) (λ_=>[]) (λg=>g.1<=(lo i).length/\(∀j,j<i->Rq (g.2 j) (ζ j) (zb B F i))/\Rq (g.2 i) (bv (rw i)-dtl ((lo i).take g.1) ζ) (B+g.1*(F+zb B F i+1))/\rb (bv (rw i)-dtl ((lo i).take g.1) ζ) (B+g.1*(F+zb B F i+1))) (λg=>(lo i).length-g.1) λhM2=>⟨bH hM2 (chg:=λg:Nat×(Nat->RatM)=>bZx b n i row.A row.c (lo i).length row g.1) (bls:=λg=>aRs f n g.2) (fls:=λ_=>[]) (0,upd Z i (b.l.getD (rw i) default)) ⟨aC _,λj hj=>?_,?_,?_⟩ rfl ⟨rfl,rfl⟩ trivial ?_ bL aDg rfl,λ⟨t,Z'⟩ ⟨ht,hZ',hq,hqr⟩=>aA gT mxd ⟨λh3=>aA gT mxd ?_,λh3=>aA gT mxd ?_⟩⟩
  ·show Rq (upd Z i _ j) _ _
   rw[bD oM];exact hZ j hj
  ·show Rq (upd Z i _ i) (bv (rw i)-0) (B+0*(F+zb B F i+1))
   rw[bJ,aNt,pH]
   exact Cr.rq (hbv _ hri).1 (hbv _ hri).2
  ·show rb (bv (rw i)-0) (B+0*(F+zb B F i+1))
   rw[aNt,pH]
   exact(hbv _ hri).2
  ·exact⟨rfl,by rw[hrow];rfl,rfl,rfl,rfl,rfl,rfl,rfl,rfl,rfl⟩
  all_goals
   replace ht:t<=(lo i).length:=ht
   replace hZ':∀j,j<i->Rq (Z' j) (ζ j) (zb B F i):=hZ'
   replace hq:Rq (Z' i) (bv (rw i)-dtl ((lo i).take t) ζ) (B+t*(F+zb B F i+1)):=hq
   replace hqr:rb (bv (rw i)-dtl ((lo i).take t) ζ) (B+t*(F+zb B F i+1)):=hqr
   have hb1:B<=zb B F i:=aVo (aC i)
   have hb2:zb B F (i+1)<=4398046511104:=aJ (aVo hin) hZB
   have hb3:zb B F (i+1)=zb B F i+i*(F+zb B F i+1):=rfl
  ·replace h3:(t:Int)<((lo i).length:Nat):=h3
   have htl:t<(lo i).length:=by omega
   have hb4:(t+1)*(F+zb B F i+1)<=i*(F+zb B F i+1):=aZ _ oM
   rw[dU] at hb4
   have e0:=hvl.2 _ (fO htl)
   have er:=eL.e t (by rw[hl];simp;omega)
   rw[show(Lw i).getD t default=(lo i).getD t default by rw[hl,aD,bA htl,aD]] at er
   obtain⟨j0,hj0⟩:∃j0:Nat,((lo i).getD t default).1=(j0:Nat):=⟨((lo i).getD t default).1.toNat,by omega⟩
   have hji:j0<i:=by omega
   have hix0:(row.l.getD t default).ix=(j0:Nat):=er.1.trans hj0
   have hev:rb ((lo i).getD t default).2 F:=h.bl i hin _ (by rw[hl];exact dK _ (fO htl))
   have hz0:=hZ' j0 hji
   have hm:=gY hev (hz0.rb oM)
   have hd:bv (rw i)-dtl ((lo i).take (t+1)) ζ=bv (rw i)-dtl ((lo i).take t) ζ-((lo i).getD t default).2*ζ j0:=by
    rw[aBu htl,uL,hj0,cL];grind
   have hs:=pV hqr hm
   rw[<-hd] at hs
   have hs':rb (bv (rw i)-dtl ((lo i).take (t+1)) ζ) (B+(t+1)*(F+zb B F i+1)):=hs.le (by rw[dU];omega)
   have hk:=aUq (Z' i) (row.l.getD t default).v (Z' j0) (B:=B+(t+1)*(F+zb B F i+1)) (hq.le oM) ((Cr.rq er.2 hev).le) (hz0.le oM) (hm.le oM) (by rw[<-hd];exact hs') (hq.le (by rw[dU];omega))
   rw[<-hd] at hk
   refine⟨t,⟨rfl,htl⟩,.seq ((List.range 16).map λi=>(i,i==15)),by kernel_rfl,i,⟨rfl,hin,fF hin⟩,_,mE hin,j0,⟨hix0,by omega,fF oM⟩,_,mE oM,[],hk,rfl,rfl,rfl,λg hg=>⟨i,⟨rfl,hin,fF hin⟩,_,gZ hin,(t+1:Nat),wi,bH hM2 (chg:=λg:Nat×(Nat->RatM)=>bZx b n i row.A row.c (lo i).length row g.1) (bls:=λg=>aRs f n g.2) (fls:=λ_=>[]) (t+1,upd Z' i g) ⟨⟨htl,λj hj=>?_,?_,hs'⟩,show(lo i).length-(t+1)<(lo i).length-t by omega⟩ rfl ⟨rfl,rfl⟩ trivial ⟨rfl,rfl,rfl,rfl,rfl,rfl,rfl,rfl,rfl,rfl⟩ bL aDg rfl⟩⟩
   ·show Rq (upd Z' i g j) _ _
    rw[bD oM];exact hZ' j hj
   show Rq (upd Z' i g i) _ _
   rw[bJ];exact hg
  replace h3:¬(t:Int)<((lo i).length:Nat):=h3
  obtain rfl:t=(lo i).length:=by omega
  have hb4:(lo i).length*(F+zb B F i+1)<=i*(F+zb B F i+1):=aZ _ hll
  rw[cW,<-eζ i hin] at hq
  refine⟨(i+1:Nat),wi,bH hM (chg:=λg:Nat×(Nat->RatM)=>bOf b n g.1) (bls:=λg=>aRs f n g.2) (fls:=λ_=>[]) (i+1,Z') ⟨⟨hin,λj hj=>?_⟩,show n-(i+1)<n-i by omega⟩ rfl ⟨rfl,rfl⟩ trivial ⟨rfl,rfl,rfl,rfl,rfl,rfl⟩ bL aDg rfl⟩
  replace hj:j<i+1:=hj
  show Rq (Z' j) (ζ j) (zb B F (i+1))
  by_cases e:j=i
  ·subst e;exact hq.le oM
  exact(hZ' j oM).le oM
 replace h2:¬(i:Int)<(n:Nat):=h2
 obtain rfl:n=i:=by omega
 obtain⟨y,hy⟩:∃y,y=bwd us p n ζ n:=⟨_,rfl⟩
 have ey:∀k,k<n->y k=(ζ k-dtl (us k) y)/p k:=λk hk=>by rw[hy];exact(aRr (λi hi=>(hP.us i hi).2.1) n (aI n)).2 k oM hk
 obtain⟨ZB,hZe⟩:∃ZB,ZB=zb B F n:=⟨_,rfl⟩
 rw[<-hZe] at hZ hB hZB
 have hZ1:1<=ZB:=by rw[hZe];exact aJ h1B (aVo (aC n))
 refine aA gT mxd ⟨n,⟨rfl,rfl,by show 56*n<=_;omega,by simp only[maxLen];omega⟩,?_⟩
 show Sd _ _ _ _ _ _
 refine gH tSd 2 (rtC n λ_=>default) rfl lK.1 lK.2 ?_
 refine cG (λ_=>true) (λg:Nat×(Nat->RatM)×(Nat->RatM)=>bOg n g.1) (λg=>aRt f n g.2.1 g.2.2) (λ_=>[]) (λg=>g.1<=n/\(∀j,j<n-g.1->Rq (g.2.1 j) (ζ j) ZB)/\(∀j,n-g.1<=j->j<n->Rq (g.2.1 j) (y j) (yb ZB F g.1))/\∀j,n-g.1<=j->j<n->Cr (g.2.2 (cl j)) (y j)/\rb (y j) (yb ZB F g.1)) (λg=>n-g.1) λhM=>⟨bH hM (chg:=λg:Nat×(Nat->RatM)×(Nat->RatM)=>bOg n g.1) (bls:=λg=>aRt f n g.2.1 g.2.2) (fls:=λ_=>[]) (0,Z,λ_=>default) ⟨aC _,λj hj=>hZ j hj,λj h4 h5=>absurd h4 (by show ¬n-0<=j;omega),λj h4 h5=>absurd h4 (by show ¬n-0<=j;omega)⟩ rfl ⟨rfl,rfl,rfl⟩ trivial ⟨rfl,rfl,rfl,rfl,rfl,rfl⟩ bL aDh rfl,λ⟨k,Z,X⟩ ⟨hk,hZ,hY,hX⟩=>aA gT mxd ⟨λh2=>aA gT mxd ?_,λh2=>aA gT mxd ?_⟩⟩
 all_goals
  replace hk:k<=n:=hk
  replace hZ:∀j,j<n-k->Rq (Z j) (ζ j) ZB:=hZ
  replace hY:∀j,n-k<=j->j<n->Rq (Z j) (y j) (yb ZB F k):=hY
  replace hX:∀j,n-k<=j->j<n->Cr (X (cl j)) (y j)/\rb (y j) (yb ZB F k):=hX
 ·replace h2:(k:Int)<(n:Nat):=h2
  have hkn:k<n:=by omega
  obtain⟨i,hi⟩:∃i,i=n-1-k:=⟨_,rfl⟩
  have hin:i<n:=by omega
  have hci:=h.o.clt i hin
  have hix:f.K.l.getD i 0=(cl i:Nat):=by rw[h.K];exact yR hin
  have hK:f.K.l.length=n:=by rw[h.K];simp
  have lU:=h.U.ln
  have eU:=h.U.row i hin
  obtain⟨hu,hui,hul⟩:=hP.us i hin
  have hpi:=hP.p i hin
  have ln1:(f.U.d.l.getD i cP).l.length=(us i).length+1:=by rw[eU.ln,hu];simp
  have a1:((n-1:Nat):Int)=IntKind.i64.wrap ((n:Nat)-1):=wi oM
  have a2:(i:Int)=IntKind.i64.wrap (((n-1:Nat):Int)-(k:Nat)):=wi oM
  refine⟨(n-1:Nat),a1,(i:Nat),a2,i,⟨rfl,show i<f.U.d.l.length by omega⟩,1,⟨rfl,show 1<=(f.U.d.l.getD i cP).l.length by omega⟩,?_⟩
  obtain⟨row,hrow⟩:∃row,row=f.U.d.l.getD i cP:=⟨_,rfl⟩
  rw[<-hrow] at eU ln1
  have hlen:(f.U.d.l.getD i cP).l.length-1=(us i).length:=by rw[<-hrow];omega
  have hsz:(((f.U.d.l.getD i cP).l.length-1:Nat):Int)=((us i).length:Nat):=by rw[hlen]
  have hsl:CV.r (slA (f.U.d.l.getD i cP).A (f.U.d.l.getD i cP).c 1 4) ((f.U.d.l.getD i cP).l.length-1) ((f.U.d.l.getD i cP).c-1) 4 (λj=>((f.U.d.l.getD i cP).l.getD (j+1) default).C)= .r (slA row.A row.c 1 4) (us i).length (row.c-1) 4 λj=>(row.l.getD (j+1) default).C:=by rw[hlen,hrow]
  show Sd _ _ _ _ _ _
  refine cG (λ_=>true) (λg:Nat×(Nat->RatM)=>bZy n k i (slA row.A row.c 1 4) (row.c-1) (us i).length row g.1) (λg=>aRt f n g.2 X) (λ_=>[]) (λg=>g.1<=(us i).length/\(∀j,j<i->Rq (g.2 j) (ζ j) ZB)/\(∀j,i<j->j<n->Rq (g.2 j) (y j) (yb ZB F k))/\Rq (g.2 i) (ζ i-dtl ((us i).take g.1) y) (ZB+g.1*(F+yb ZB F k+1))/\rb (ζ i-dtl ((us i).take g.1) y) (ZB+g.1*(F+yb ZB F k+1))) (λg=>(us i).length-g.1) λhM2=>⟨bH hM2 (chg:=λg:Nat×(Nat->RatM)=>bZy n k i (slA row.A row.c 1 4) (row.c-1) (us i).length row g.1) (bls:=λg=>aRt f n g.2 X) (fls:=λ_=>[]) (0,Z) ⟨aC _,λj hj=>hZ j oM,λj h4 h5=>hY j oM h5,?_,?_⟩ rfl ⟨rfl,rfl,rfl⟩ trivial ?_ bL aDh rfl,λ⟨t,Z'⟩ ⟨ht,hZ',hY',hq,hqr⟩=>aA gT mxd ⟨λh3=>aA gT mxd ?_,λh3=>aA gT mxd ?_⟩⟩
  ·show Rq (Z i) (ζ i-0) (ZB+0*(F+yb ZB F k+1))
   rw[aNt,pH]
   exact hZ i oM
  ·show rb (ζ i-0) (ZB+0*(F+yb ZB F k+1))
   rw[aNt,pH]
   exact(hZ i oM).rb hZ1
  ·exact⟨rfl,hsl,hsz,rfl,congrArg cF hrow.symm,rfl,rfl,rfl,rfl,rfl,rfl⟩
  all_goals
   replace ht:t<=(us i).length:=ht
   replace hZ':∀j,j<i->Rq (Z' j) (ζ j) ZB:=hZ'
   replace hY':∀j,i<j->j<n->Rq (Z' j) (y j) (yb ZB F k):=hY'
   replace hq:Rq (Z' i) (ζ i-dtl ((us i).take t) y) (ZB+t*(F+yb ZB F k+1)):=hq
   replace hqr:rb (ζ i-dtl ((us i).take t) y) (ZB+t*(F+yb ZB F k+1)):=hqr
   have hb1:ZB<=yb ZB F k:=aNs (F:=F) (aC k)
   have hb2:yb ZB F (k+1)<=4398046511104:=aJ (aNs hkn) hB
   have hb3:yb ZB F (k+1)=yb ZB F k+k*(F+yb ZB F k+1)+F:=rfl
  ·replace h3:(t:Int)<((us i).length:Nat):=h3
   have htl:t<(us i).length:=by omega
   have hb4:(t+1)*(F+yb ZB F k+1)<=k*(F+yb ZB F k+1):=aZ _ oM
   rw[dU] at hb4
   have e0:=hui _ (fO htl)
   have er:=eU.e (t+1) (by rw[hu];simp;omega)
   rw[show(Up i).getD (t+1) default=(us i).getD t default by rw[hu];rfl] at er
   obtain⟨j0,hj0⟩:∃j0:Nat,((us i).getD t default).1=(j0:Nat):=⟨((us i).getD t default).1.toNat,by omega⟩
   have hij:i<j0:=by omega
   have hjn:j0<n:=by omega
   have hix0:(row.l.getD (t+1) default).ix=(j0:Nat):=er.1.trans hj0
   have hev:rb ((us i).getD t default).2 F:=h.bu i hin _ (by rw[hu];exact .tail _ (fO htl))
   have hz0:=hY' j0 hij hjn
   have hm:=gY hev (hz0.rb oM)
   have hd:ζ i-dtl ((us i).take (t+1)) y=ζ i-dtl ((us i).take t) y-((us i).getD t default).2*y j0:=by
    rw[aBu htl,uL,hj0,cL];grind
   have hs:=pV hqr hm
   rw[<-hd] at hs
   have hs':rb (ζ i-dtl ((us i).take (t+1)) y) (ZB+(t+1)*(F+yb ZB F k+1)):=hs.le (by rw[dU];omega)
   have hk':=aUq (Z' i) (row.l.getD (t+1) default).v (Z' j0) (B:=ZB+(t+1)*(F+yb ZB F k+1)) (hq.le oM) ((Cr.rq er.2 hev).le) (hz0.le oM) (hm.le oM) (by rw[<-hd];exact hs') (hq.le (by rw[dU];omega))
   rw[<-hd] at hk'
   refine⟨t,⟨rfl,htl⟩,.seq ((List.range 16).map λi=>(i,i==15)),by kernel_rfl,i,⟨rfl,hin,fF hin⟩,_,mE hin,j0,⟨hix0,hjn,fF hjn⟩,_,mE hjn,[],hk',rfl,rfl,rfl,λg hg=>⟨i,⟨rfl,hin,fF hin⟩,_,gZ hin,(t+1:Nat),wi,bH hM2 (chg:=λg:Nat×(Nat->RatM)=>bZy n k i (slA row.A row.c 1 4) (row.c-1) (us i).length row g.1) (bls:=λg=>aRt f n g.2 X) (fls:=λ_=>[]) (t+1,upd Z' i g) ⟨⟨htl,λj hj=>?_,λj h4 h5=>?_,?_,hs'⟩,show(us i).length-(t+1)<(us i).length-t by omega⟩ rfl ⟨rfl,rfl,rfl⟩ trivial ⟨rfl,rfl,rfl,rfl,rfl,rfl,rfl,rfl,rfl,rfl,rfl⟩ bL aDh rfl⟩⟩
   ·show Rq (upd Z' i g j) _ _
    rw[bD oM];exact hZ' j hj
   ·show Rq (upd Z' i g j) _ _
    rw[bD oM];exact hY' j h4 h5
   show Rq (upd Z' i g i) _ _
   rw[bJ];exact hg
  replace h3:¬(t:Int)<((us i).length:Nat):=h3
  obtain rfl:t=(us i).length:=by omega
  have hb4:(us i).length*(F+yb ZB F k+1)<=k*(F+yb ZB F k+1):=aZ _ oM
  rw[cW] at hq hqr
  have e2:=eU.e 0 (by rw[hu];simp)
  rw[show(Up i).getD 0 default=((i:Int),p i) by rw[hu];rfl] at e2
  have hpb:rb (p i) F:=h.bu i hin ((i:Int),p i) (by rw[hu];exact .head _)
  have hpr:Rq (row.l.getD 0 default).v (p i) F:=Cr.rq e2.2 hpb
  have hpi':rb (p i)⁻¹ F:=hpr.flip.rb h1
  have hyr:rb (y i) (yb ZB F (k+1)):=by
   rw[ey i hin,kN]
   exact(gY hqr hpi').le oM
  refine aA gT mxd ?_
  refine⟨.seq ((List.range 16).map λi=>(i,i==15)),by kernel_rfl,i,⟨rfl,hin,fF hin⟩,_,mE hin,0,⟨rfl,show 0<row.l.length by omega⟩,[],aQx (Z' i) (row.l.getD 0 default).v (hq.le oM) (hpr.le) hpi,rfl,rfl,rfl,λg hg=>?_⟩
  replace hg:Cr g (y i):=by rw[ey i hin];exact hg
  have hgq:Rq g (y i) (yb ZB F (k+1)):=hg.rq hyr
  refine⟨i,⟨rfl,hin,fF hin⟩,_,gZ hin,?_⟩
  refine⟨.seq ((List.range 12).map λi=>(i,i==11)),by kernel_rfl,i,⟨rfl,show i<f.K.l.length by omega⟩,i,⟨rfl,hin,fF hin⟩,_,mE hin,cl i,⟨hix,hci,fF hci⟩,_,gZ hci,(k+1:Nat),wi,bH hM (chg:=λg:Nat×(Nat->RatM)×(Nat->RatM)=>bOg n g.1) (bls:=λg=>aRt f n g.2.1 g.2.2) (fls:=λ_=>[]) (k+1,upd Z' i g,upd X (cl i) (upd Z' i g i)) ⟨⟨hkn,λj hj=>?_,λj h4 h5=>?_,λj h4 h5=>?_⟩,show n-(k+1)<n-k by omega⟩ rfl ⟨rfl,rfl,rfl⟩ trivial ⟨rfl,rfl,rfl,rfl,rfl,rfl⟩ bL aDh rfl⟩
  ·replace hj:j<n-(k+1):=hj
   show Rq (upd Z' i g j) _ _
   rw[bD oM];exact hZ' j oM
  ·replace h4:n-(k+1)<=j:=h4
   show Rq (upd Z' i g j) _ (yb ZB F (k+1))
   by_cases e:j=i
   ·subst e;rw[bJ];exact hgq
   rw[bD e];exact(hY' j oM h5).le oM
  replace h4:n-(k+1)<=j:=h4
  show Cr (upd X (cl i) (upd Z' i g i) (cl j)) (y j)/\rb (y j) (yb ZB F (k+1))
  by_cases e:j=i
  ·subst e;rw[bJ,bJ];exact⟨hg,hyr⟩
  have e2:cl j≠cl i:=λe2=>e (h.o.cinj j i h5 hin e2)
  rw[bD e2]
  have:=hX j oM h5
  exact⟨this.1,this.2.le oM⟩
 replace h2:¬(k:Int)<(n:Nat):=h2
 obtain rfl:n=k:=by omega
 obtain⟨xv,hxv⟩:∃xv:Nat->Rat,∀j,j<n->xv (cl j)=y j:=aRu h.o.clt h.o.cinj y
 show Sd _ _ _ _ _ _
 refine aTy tSd 0 2 rfl rfl bL bL rfl ⟨_,swl eM,_,swl eM,bL,aA gT mxd ⟨(X,xv),⟨h.o.sol hP λi hi=>?_,λc hc=>?_⟩,fH ⟨rfl,rfl⟩ rfl bL (aB (bU eM) aY) rfl (aBn eM)⟩⟩
 ·show xv (cl i)=_
  rw[hxv i hi,hy,hζ]
 obtain⟨j,hj,rfl⟩:=oW h.o.clt h.o.cinj c hc
 show Cr (X (cl j)) (xv (cl j))/\rb (xv (cl j)) _
 rw[hxv j hj,<-hZe]
 exact hX j oM hj
structure StpM where
 k:Int
 p:RatM
 o:Sl EntM
instance:Inhabited StpM:=⟨⟨0,default,cP⟩⟩
def StpM.C (s:StpM):List CV:=iC s.k::(s.p.C++[cF s.o])
structure StpR where
 k:Nat
 p:Rat
 o:List En
instance:Inhabited StpR:=⟨⟨0,0,[]⟩⟩
structure StpOk (S:StpM) (s:StpR) (n F:Nat):Prop where
 k:S.k=(s.k:Nat)
 kn:s.k<n
 p:Cr S.p s.p
 pb:rb s.p F
 p0:s.p≠0
 o:Ek S.o.l s.o
 ov:VOk s.o (n:Nat)
 ok:∀e∈s.o,e.1≠(s.k:Nat)
 ob:rbE s.o F
structure IvM where
 c:Nat->Sl EntM
 f:LuM
 A:Option Nat
 k:Nat
 L:List StpM
def SolA (a:Nat->Nat->Rat) (n:Nat) (b xv:Nat->Rat):Prop:=∀x:Nat->Rat,(∀k,k<n->cI (λj=>a k j*x j) n=b k)↔∀c,c<n->x c=xv c
abbrev enM (M:Nat->List En):Nat->Nat->Rat:=λr j=>Vm.get (M r) (j:Nat)
theorem Sol.a {M:Nat->List En} {n:Nat} {b xv:Nat->Rat} (h:Sol M n b xv):SolA (enM M) n b xv:=h
theorem SolA.congr {a a':Nat->Nat->Rat} {n:Nat} {b b' xv xv':Nat->Rat} (h:SolA a n b xv) (ha:∀r j,r<n->j<n->a' r j=a r j) (hb:∀r,r<n->b' r=b r) (hx:∀c,c<n->xv' c=xv c):SolA a' n b' xv':=λx=>by
 have e1:(∀k,k<n->cI (λj=>a' k j*x j) n=b' k)↔∀k,k<n->cI (λj=>a k j*x j) n=b k:=by
  constructor<;>intro hh k hk
  ·rw[<-hb k hk,<-hh k hk];exact bM λj hj=>by rw[ha k j hk hj]
  rw[hb k hk,<-hh k hk];exact bM λj hj=>by rw[ha k j hk hj]
 rw[e1,h x]
 constructor<;>intro hh c hc
 ·rw[hx c hc];exact hh c hc
 rw[<-hx c hc];exact hh c hc
theorem SolA.eq {a:Nat->Nat->Rat} {n:Nat} {b xv:Nat->Rat} (h:SolA a n b xv):∀k,k<n->cI (λj=>a k j*xv j) n=b k:=(h xv).2 λ_ _=>rfl
def skp (p r:Nat):Nat:=if r<p then r else r+1
theorem xF {p r n:Nat} (h:r<n):skp p r<n+1:=by unfold skp;split<;>omega
theorem bHe (p r:Nat):skp p r≠p:=by unfold skp;split<;>omega
theorem bHf {p c n:Nat} (h:c<n+1) (hp:p<n+1) (hc:c≠p):∃i,i<n/\skp p i=c:=by
 by_cases e:c<p
 ·exact⟨c,by omega,if_pos e⟩
 refine⟨c-1,by omega,?_⟩
 unfold skp
 rw[if_neg oM];omega
theorem xG {f:Nat->Rat} {p:Nat}:∀{n:Nat},p<n+1->cI f (n+1)=f p+cI (λi=>f (skp p i)) n
 |0,h=>by
  obtain rfl:p=0:=by omega
  show(0:Rat)+f 0=f 0+0;grind
 |n+1,h=>by
  show cI f (n+1)+f (n+1)=f p+(cI (λi=>f (skp p i)) n+f (skp p n))
  by_cases e:p=n+1
  ·subst e
   have h1:∀m,m<=n+1->cI (λi=>f (skp (n+1) i)) m=cI f m:=λm hm=>bM λj hj=>by unfold skp;rw[if_pos oM]
   have h2:skp (n+1) n=n:=by unfold skp;rw[if_pos oM]
   rw[h2,h1 n oM]
   show cI f n+f n+f (n+1)=_
   grind
  have h2:skp p n=n+1:=by unfold skp;rw[if_neg oM]
  rw[h2,xG (f:=f) (p:=p) (n:=n) oM]
  grind
theorem aNu (s:Nat):∀n,bd (4*s+1) n=bd s (n+1)
 |0=>rfl
 |n+1=>by show 4*bd (4*s+1) n+1=4*bd s (n+1)+1;rw[aNu s n]
theorem aAt {a b:Rat} {B B':Nat} (ha:rb a B) (hb:rb b B') (hB:1<=B):rb (a/b) (B+B'):=by
 have h1:=aBc (a:=a.num*(b.den:Int)) (b:=(a.den:Int)*b.num)
 have h2:=aBd (a:=a.num*(b.den:Int)) (b:=(a.den:Int)*b.num)
 rw[aMf] at h1 h2
 have p1:=pU a.num.natAbs (b.den:Int).natAbs
 have p2:=pU (a.den:Int).natAbs b.num.natAbs
 rw[<-lT] at p1 p2
 simp only[eP] at p1 p2
 simp only[fD] at h1 h2
 obtain⟨a1,a2⟩:=ha
 obtain⟨b1,b2⟩:=hb
 exact⟨by omega,by omega⟩
theorem SolA.size:∀{n s:Nat} {a:Nat->Nat->Rat} {b xv:Nat->Rat},1<=s->(∀r j,r<n->j<n->rb (a r j) s)->(∀r,r<n->rb (b r) s)->SolA a n b xv->∀i,i<n->rb (xv i) (2*bd s n)
 |0,s,a,b,xv,_,_,_,_,i,hi=>absurd hi (aF _)
 |1,s,a,b,xv,h1,ha,hb,h,i,hi=>by
  obtain rfl:i=0:=by omega
  have he:=h.eq 0 oM
  have he':a 0 0*xv 0=b 0:=by rw[<-he];show _=(0:Rat)+_;grind
  have hne:a 0 0≠0:=λh0=>by
   have h2:=(h λc=>xv c+1).1 λk hk=>by
    obtain rfl:k=0:=by omega
    rw[<-he]
    show(0:Rat)+a 0 0*(xv 0+1)=(0:Rat)+a 0 0*xv 0
    rw[h0];grind
   have:=h2 0 oM
   have h3:(1:Rat)=0:=by grind
   exact absurd h3 dC
  have hx:xv 0=b 0/a 0 0:=by
   rw[<-he',kN,Rat.mul_comm (a 0 0),uA,mH _ hne,nH]
  rw[hx]
  exact(aAt (hb 0 oM) (ha 0 0 oM oM) h1).le (by show s+s<=2*(4*s+1);omega)
 |n+2,s,a,b,xv,h1,ha,hb,h,i,hi=>by
  obtain⟨j,hj,hji⟩:∃j,j<n+2/\j≠i:=by
   by_cases e:i=0
   ·exact⟨1,by omega,by omega⟩
   exact⟨0,by omega,by omega⟩
  obtain⟨p,hp,hpj⟩:∃p,p<n+2/\a p j≠0:=aT λhn=>by
   have h0:∀p,p<n+2->a p j=0:=λp hp=>aT λh2=>hn ⟨p,hp,h2⟩
   have h2:=(h (upd xv j (xv j+1))).1 λk hk=>by
    rw[<-h.eq k hk]
    refine bM λc hc=>?_
    by_cases e:c=j
    ·subst e;rw[h0 k hk,dQ,dQ]
    rw[bD e]
   have:=h2 j hj
   rw[bJ] at this
   have h3:(1:Rat)=0:=by grind
   exact absurd h3 dC
  obtain⟨i',hi',hsi⟩:=bHf hi hj (gE hji)
  have hs:=SolA.size (n:=n+1) (s:=4*s+1) (a:=λr c=>a p j*a (skp p r) (skp j c)-a (skp p r) j*a p (skp j c)) (b:=λr=>a p j*b (skp p r)-a (skp p r) j*b p) (xv:=λc=>xv (skp j c)) oM (λr c hr hc=>?_) (λr hr=>?_) (λx=>?_) i' hi'
  ·rw[aNu,hsi] at hs
   exact hs
  ·have m1:=gY (ha p j hp hj) (ha _ _ (xF (p:=p) hr) (xF (p:=j) hc))
   have m2:=gY (ha _ j (xF (p:=p) hr) hj) (ha p _ hp (xF (p:=j) hc))
   exact(pV m1 m2).le oM
  ·have m1:=gY (ha p j hp hj) (hb _ (xF (p:=p) hr))
   have m2:=gY (ha _ j (xF (p:=p) hr) hj) (hb p hp)
   exact(pV m1 m2).le oM
  have red:∀(y:Nat->Rat) (r:Nat),cI (λc=>(a p j*a (skp p r) (skp j c)-a (skp p r) j*a p (skp j c))*y (skp j c)) (n+1)=a p j*cI (λc=>a (skp p r) c*y c) (n+2)-a (skp p r) j*cI (λc=>a p c*y c) (n+2):=λy r=>by
   rw[xG (p:=j) hj,xG (f:=λc=>a p c*y c) (p:=j) hj]
   have e1:cI (λc=>(a p j*a (skp p r) (skp j c)-a (skp p r) j*a p (skp j c))*y (skp j c)) (n+1)=cI (λc=>a p j*(a (skp p r) (skp j c)*y (skp j c))+(-a (skp p r) j)*(a p (skp j c)*y (skp j c))) (n+1):=bM λc _=>by grind
   have e2:∀(f:Nat->Rat) (q:Rat) (m:Nat),cI (λc=>q*f c) m=q*cI f m:=λf q m=>by
    have:=kJ (f:=λ_=>(0:Rat)) (g:=f) (q:=q) (n:=m)
    rw[fQ λ_ _=>rfl,fU] at this
    rw[<-this]
    exact bM λc _=>by grind
   rw[e1,kJ,e2]
   grind
  constructor
  ·intro hx c hc
   obtain⟨y,hy⟩:∃y:Nat->Rat,(∀c,c<n+1->y (skp j c)=x c)/\cI (λc=>a p c*y c) (n+2)=b p:=by
    obtain⟨un,hun⟩:∃un:Nat->Nat,∀c,un (skp j c)=c:=⟨λc=>if c<j then c else c-1,λc=>by
     show(if skp j c<j then skp j c else skp j c-1)=c
     by_cases e:c<j
     ·have:skp j c=c:=if_pos e
      rw[this,if_pos e]
     have:skp j c=c+1:=if_neg e
     rw[this,if_neg oM];rfl⟩
    refine⟨upd (λc=>x (un c)) j ((b p-cI (λc=>a p (skp j c)*x c) (n+1))/a p j),λc _=>by rw[bD (bHe j c),hun],?_⟩
    rw[xG (p:=j) hj,bJ]
    have e1:cI (λc=>a p (skp j c)*upd (λc=>x (un c)) j ((b p-cI (λc=>a p (skp j c)*x c) (n+1))/a p j) (skp j c)) (n+1)=cI (λc=>a p (skp j c)*x c) (n+1):=bM λc _=>by rw[bD (bHe j c),hun]
    rw[e1]
    have h9:=mH _ hpj
    generalize a p j=q at h9
    rw[kN]
    have:q*((b p-cI (λc=>a p (skp j c)*x c) (n+1))*q⁻¹)=(b p-cI (λc=>a p (skp j c)*x c) (n+1))*(q*q⁻¹):=by grind
    rw[this,h9];grind
   obtain⟨y1,y2⟩:=hy
   have hyx:=(h y).1 λk hk=>by
    by_cases e:k=p
    ·rw[e];exact y2
    obtain⟨r,hr,rfl⟩:=bHf hk hp e
    have h3:=hx r hr
    rw[bM λc hc=>by rw[<-y1 c hc]] at h3
    rw[red y r,y2] at h3
    have h4:a p j*(cI (λc=>a (skp p r) c*y c) (n+2)-b (skp p r))=0:=by grind
    rcases qV.1 h4 with h5|h5
    ·exact absurd h5 hpj
    grind
   rw[<-y1 c hc]
   exact hyx _ (xF hc)
  intro hx r hr
  rw[bM λc hc=>by rw[hx c hc],red xv r,h.eq _ (xF hr),h.eq p hp]
def Nul (E:Nat->Nat->Rat) (r c:Nat) (x:Nat->Rat):Prop:=∀i,i<r->cI (λj=>E i j*x j) c=0
structure Ech (Q E:Nat->Nat->Rat) (r c C t:Nat) (pv:Nat->Nat):Prop where
 tr:t<=r
 lt:∀k,k<t->pv k<C
 mono:∀k l,k<l->l<t->pv k<pv l
 piv:∀k,k<t->E k (pv k)≠0
 z:∀j i,j<C->i<r->(∀k,k<t->pv k<=j->k<i)->E i j=0
 nul:∀x,Nul E r c x↔Nul Q r c x
theorem Ech.start {Q:Nat->Nat->Rat} {r c:Nat} (pv:Nat->Nat):Ech Q Q r c 0 0 pv:=⟨aC _,λ_ h=>absurd h (aF _),λ_ _ _ h=>absurd h (aF _),λ_ h=>absurd h (aF _),λ_ _ h=>absurd h (aF _),λ_=>lF⟩
theorem Ech.skip {Q E:Nat->Nat->Rat} {r c C t:Nat} {pv:Nat->Nat} (h:Ech Q E r c C t pv) (hz:∀i,t<=i->i<r->E i C=0):Ech Q E r c (C+1) t pv:=⟨h.tr,λk hk=>eO (h.lt k hk),h.mono,h.piv,λj i hj hi hk=>by
 by_cases e:j=C
 ·subst e
  refine hz i ?_ hi
  cases t with
  |zero=>exact aC _
  |succ t=>exact hk t (bF t) (eX (h.lt t (bF t)))
 exact h.z j i oM hi hk,h.nul⟩
theorem Ech.all {Q E:Nat->Nat->Rat} {r c C:Nat} {pv:Nat->Nat} (h:Ech Q E r c C r pv) (hC:C<=c):Ech Q E r c c r pv:=⟨h.tr,λk hk=>bN (h.lt k hk) hC,h.mono,h.piv,λj i hj hi hk=>by
 by_cases e:j<C
 ·exact h.z j i e hi hk
 exact absurd (hk i hi (aJ (eX (h.lt i hi)) oM)) (jF _),h.nul⟩
def sw2 (a b i:Nat):Nat:=if i=a then b else if i=b then a else i
theorem tT {a b i r:Nat} (ha:a<r) (hb:b<r) (hi:i<r):sw2 a b i<r:=by
 unfold sw2;split
 ·exact hb
 split
 ·exact ha
 exact hi
theorem aKm {a b i:Nat}:sw2 a b (sw2 a b i)=i:=by
 unfold sw2
 by_cases h1:i=a
 ·by_cases h2:b=a
  ·simp[h1,h2]
  simp[h1,h2]
 by_cases h2:i=b
 ·simp[h2]
 simp[h1,h2]
theorem bOj {a b i j:Nat} (h:sw2 a b i=sw2 a b j):i=j:=by rw[<-aKm (a:=a) (b:=b) (i:=i),h,aKm]
theorem bZz {E:Nat->Nat->Rat} {r c a b:Nat} {x:Nat->Rat} (ha:a<r) (hb:b<r):Nul (λi=>E (sw2 a b i)) r c x↔Nul E r c x:=⟨λh i hi=>by
 have:=h (sw2 a b i) (tT ha hb hi)
 simp only[aKm] at this
 exact this,λh i hi=>h _ (tT ha hb hi)⟩
def gsE (E:Nat->Nat->Rat) (t C R:Nat) (i j:Nat):Rat:=if t<i/\i<R then E i j-E i C/E t C*E t j else E i j
theorem cAa {E:Nat->Nat->Rat} {r c t C:Nat} {x:Nat->Rat} (ht:t<r):Nul (gsE E t C r) r c x↔Nul E r c x:=by
 have key:∀i,t<i->i<r->cI (λj=>gsE E t C r i j*x j) c=cI (λj=>E i j*x j) c+ -(E i C/E t C)*cI (λj=>E t j*x j) c:=λi h1 h2=>by
  rw[<-kJ]
  refine bM λj _=>?_
  unfold gsE
  rw[if_pos ⟨h1,h2⟩]
  grind
 have same:∀i,¬(t<i/\i<r)->cI (λj=>gsE E t C r i j*x j) c=cI (λj=>E i j*x j) c:=λi h=>bM λj _=>by unfold gsE;rw[if_neg h]
 constructor
 ·intro h i hi
  have h0:=h t ht
  rw[same t oM] at h0
  by_cases e:t<i
  ·have:=h i hi
   rw[key i e hi,h0,cA,bP] at this
   exact this
  rw[<-same i oM];exact h i hi
 intro h i hi
 by_cases e:t<i
 ·rw[key i e hi,h i hi,h t ht,cA,bP]
 rw[same i oM];exact h i hi
theorem Ech.step {Q E:Nat->Nat->Rat} {r c C t k:Nat} {pv:Nat->Nat} (h:Ech Q E r c C t pv) (hk:t<=k) (hkr:k<r) (hp:E k C≠0):Ech Q (gsE (λi=>E (sw2 k t i)) t C r) r c (C+1) (t+1) (upd pv t C):=by
 have htr:t<r:=eZ hk hkr
 have e1:∀i,i<t->sw2 k t i=i:=λi hi=>by unfold sw2;rw[if_neg oM,if_neg oM]
 have e2:sw2 k t t=k:=by unfold sw2;split<;>simp_all
 have e3:∀i,t<=i->t<=sw2 k t i:=λi hi=>by unfold sw2;split;exact aI _;split;exact hk;exact hi
 have zz:∀j i,j<C->t<=i->i<r->E i j=0:=λj i hj hi hr=>h.z j i hj hr λk' hk' _=>bN hk' hi
 refine⟨htr,λl hl=>?_,λa b hab hb=>?_,λl hl=>?_,λj i hj hi hh=>?_,λx=>(cAa htr).trans ((bZz hkr htr).trans (h.nul x))⟩
 ·by_cases e:l=t
  ·subst e;rw[bJ];exact bF C
  rw[bD e];exact eO (h.lt l oM)
 ·by_cases e:b=t
  ·subst e;rw[bJ,bD oM];exact h.lt a hab
  rw[bD e,bD oM];exact h.mono a b hab oM
 ·simp only[gsE]
  rw[if_neg oM]
  by_cases e:l=t
  ·subst e;rw[bJ,e2];exact hp
  rw[bD e,e1 l oM];exact h.piv l oM
 simp only[gsE]
 by_cases e:j=C
 ·subst e
  have:=hh t (bF t) (by rw[bJ];exact aI _)
  rw[if_pos ⟨this,hi⟩,e2]
  rw[sR hp]
  grind
 have hj':j<C:=by omega
 by_cases e4:t<=i
 ·have a1:E (sw2 k t i) j=0:=zz j _ hj' (e3 i e4) (tT hkr htr hi)
  have a2:E (sw2 k t t) j=0:=zz j _ hj' (e3 t (aI t)) (tT hkr htr htr)
  rw[a1,a2,cA]
  split
  ·grind
  rfl
 rw[if_neg oM]
 rw[e1 i oM]
 refine h.z j i hj' hi λk' hk' hle=>hh k' (eO hk') ?_
 rw[bD oM];exact hle
theorem aFf {a:Nat->Rat} {x:Nat->Rat} {p:Nat} {v:Rat}:∀{n:Nat},p<n->cI (λj=>a j*upd x p v j) n=cI (λj=>a j*x j) n+a p*(v-x p)
 |0,h=>absurd h (aF _)
 |n+1,h=>by
  by_cases e:p=n
  ·subst e
   show cI _ p+a p*upd x p v p=cI _ p+a p*x p+_
   rw[bJ,bM (g:=λj=>a j*x j) λj hj=>by rw[bD oM]]
   grind
  show cI _ n+a n*upd x p v n=cI _ n+a n*x n+_
  rw[aFf oM,bD oM]
  grind
theorem Ech.ind {Q E:Nat->Nat->Rat} {r c t:Nat} {pv:Nat->Nat} (h:Ech Q E r c c t pv) {j:Nat} (hj:j<c):(∃k,k<t/\pv k=j)↔¬∃x:Nat->Rat,x j=1/\(∀i,j<i->x i=0)/\Nul Q r c x:=by
 constructor
 ·rintro⟨k,hk,rfl⟩ ⟨x,h1,h2,h3⟩
  have h4:=(h.nul x).2 h3 k (bN hk h.tr)
  refine h.piv k hk ?_
  rw[jO (m:=pv k) hj λi hi=>?_,h1,nH] at h4
  ·exact h4
  by_cases e:pv k<i
  ·rw[h2 i e,cA]
  rw[h.z i k oM (bN hk h.tr) λl hl hle=>aT λhn=>?_,dQ]
  by_cases e2:l=k
  ·subst e2;omega
  have:=h.mono k l oM hl
  omega
 intro hno
 refine aT λhnp=>hno ?_
 have hne:∀k,k<t->pv k≠j:=λk hk e=>hnp ⟨k,hk,e⟩
 have cnt:∀m,m<=t->∃s,s<=m/\(∀k,k<m->(pv k<j↔k<s)):=λm=>by
  induction m with
  |zero=>exact λ_=>⟨0,aI _,λk hk=>absurd hk (aF _)⟩
  |succ m ih=>
   intro hm
   obtain⟨s,hs,hh⟩:=ih oM
   by_cases e:pv m<j
   ·refine⟨m+1,aI _,λk hk=>⟨λ_=>hk,λ_=>?_⟩⟩
    by_cases e2:k=m
    ·subst e2;exact e
    exact rI (h.mono k m oM oM) e
   refine⟨s,by omega,λk hk=>?_⟩
   by_cases e2:k=m
   ·subst e2;exact⟨λh=>absurd h e,λh=>by omega⟩
   exact hh k oM
 obtain⟨s,hs,hsk⟩:=cnt t (aI t)
 have zr:∀i l,s<=i->i<r->l<=j->E i l=0:=λi l hi hr hl=>h.z l i oM hr λk hk hle=>by
  have:=(hsk k hk).1 (by have:=hne k hk;omega)
  omega
 have main:∀d,d<=s->∃x:Nat->Rat,x j=1/\(∀i,j<i->x i=0)/\∀i,s-d<=i->i<r->cI (λl=>E i l*x l) c=0:=λd=>by
  induction d with
  |zero=>
   refine λ_=>⟨λi=>if i=j then 1 else 0,if_pos rfl,λi hi=>if_neg oM,λi hi hr=>fQ λl hl=>?_⟩
   by_cases e:l=j
   ·rw[zr i l oM hr oM,dQ]
   show E i l*(if l=j then 1 else 0)=0
   rw[if_neg e,cA]
  |succ d ih=>
   intro hd
   obtain⟨x,h1,h2,h3⟩:=ih oM
   obtain⟨k,hk⟩:∃k,k=s-(d+1):=⟨_,rfl⟩
   have hkt:k<t:=by omega
   have hpj:pv k<j:=(hsk k hkt).2 oM
   have hpz:=h.piv k hkt
   refine⟨upd x (pv k) (x (pv k)-cI (λl=>E k l*x l) c/E k (pv k)),(bD oM).trans h1,λi hi=>(bD oM).trans (h2 i hi),λi hi hr=>?_⟩
   rw[aFf oM]
   by_cases e:i=k
   ·subst e
    have:E i (pv i)*(x (pv i)-cI (λl=>E i l*x l) c/E i (pv i)-x (pv i))=-(cI (λl=>E i l*x l) c/E i (pv i)*E i (pv i)):=by grind
    rw[this,sR hpz]
    grind
   rw[h3 i oM hr]
   rw[h.z (pv k) i oM hr λl hl hle=>?_,dQ,bP]
   by_cases e2:l<=k
   ·omega
   have:=h.mono k l oM hl
   omega
 obtain⟨x,h1,h2,h3⟩:=main s (aI s)
 exact⟨x,h1,h2,(h.nul x).1 λi hi=>h3 i oM hi⟩
theorem Ech.full {Q E:Nat->Nat->Rat} {r n:Nat} {t:Nat} {pv:Nat->Nat} (h:Ech Q E r n n t pv):t=n↔¬∃x:Nat->Rat,(∃i,i<n/\x i≠0)/\Nul Q r n x:=by
 have inj:∀a b,a<t->b<t->pv a=pv b->a=b:=λa b ha hb e=>by
  rcases eT a b with h1|h1|h1
  ·have:=h.mono a b h1 hb;omega
  ·exact h1
  have:=h.mono b a h1 ha;omega
 constructor
 ·rintro rfl ⟨x,⟨i,hi,hx⟩,h3⟩
  obtain⟨d,hd⟩:∃d,d=t-i:=⟨_,rfl⟩
  induction d using Nat.strongRecOn generalizing i with
  |ind d ih=>
   by_cases hm:∃l,i<l/\l<t/\x l≠0
   ·obtain⟨l,h1,h2,h4⟩:=hm
    exact ih (t-l) oM l h2 h4 rfl
   obtain⟨k,hk,he⟩:=oW h.lt inj i hi
   refine(h.ind hi).1 ⟨k,hk,he⟩ ⟨λl=>if l<t then (x i)⁻¹*x l else 0,?_,λl hl=>?_,λa ha=>?_⟩
   ·show(if i<t then _ else _)=_
    rw[if_pos hi];exact jU _ hx
   ·show(if l<t then _ else _)=_
    split
    ·next hlt=>rw[aT λhn=>hm ⟨l,hl,hlt,hn⟩,cA]
    rfl
   have h5:=h3 a ha
   have h6:cI (λl=>Q a l*if l<t then (x i)⁻¹*x l else 0) t=0+(x i)⁻¹*cI (λl=>Q a l*x l) t:=by
    rw[show(0:Rat)=cI (λ_=>(0:Rat)) t from (fQ λ_ _=>rfl).symm,<-kJ]
    refine bM λl hl=>?_
    rw[if_pos hl];grind
   rw[h6,h5,cA,bP]
 intro hno
 refine aT λhne=>?_
 have hall:∀j,j<n->∃k,k<t/\pv k=j:=λj hj=>(h.ind hj).2 λ⟨x,h1,h2,h3⟩=>hno ⟨x,⟨j,hj,by rw[h1];decide⟩,h3⟩
 have htn:t<=n:=by
  have h1:((List.range t).map pv).Nodup:=by
   rw[cO,fW]
   refine(cO.1 mC).imp_of_mem λ{a b} ha hb hab he=>hab (inj a b (cM.1 ha) (cM.1 hb) he)
  have:=qI h1 (n:=n) λi hi=>by
   obtain⟨k,hk,rfl⟩:=cC.1 hi
   exact h.lt k (cM.1 hk)
  simpa using this
 have h2:((List.range n).map λj=>if hj:j<n then (hall j hj).choose else 0).Nodup:=by
  rw[cO,fW]
  refine(cO.1 mC).imp_of_mem λ{a b} ha hb hab he=>hab ?_
  have ha':=cM.1 ha
  have hb':=cM.1 hb
  rw[dif_pos ha',dif_pos hb'] at he
  rw[<-(hall a ha').choose_spec.2,<-(hall b hb').choose_spec.2,he]
 have h3:=qI h2 (n:=t) λi hi=>by
  obtain⟨j,hj,rfl⟩:=cC.1 hi
  have hj':=cM.1 hj
  rw[dif_pos hj']
  exact(hall j hj').choose_spec.1
 simp at h3
 omega
abbrev bHg:FuncId:=27
theorem cKt:Ent Tryz.prog bHg:=aU func27 rfl kR
theorem cKu:Tryz.prog.funcs[bHg]? =some Tryz.f27:=func27
theorem cAb (r s:RatM) {a b:Rat} (hr:Rq r a 4398046511104) (hs:Rq s b 4398046511104):Ctr Tryz.prog bHg [] [.a r.C,.a s.C] [] (rV (a*b)):=by
 have ha:=hr.rb
 have hb:=hs.rb
 have m1:=vH ha.1 (b:=b.num) hb.1
 have m2:=vH (a:=(a.den:Int)) (b:=(b.den:Int)) ha.2 hb.2
 refine aW gT cKt cKu rfl rfl rfl bL aS (aA gT mxd ⟨.seq [(0,false),(3,false),(7,false),(9,false),(1,false),(2,false),(4,false),(5,false),(6,false),(8,false),(10,false),(11,false),(12,false),(13,true)],by kernel_rfl,[],gX r hr.le,rfl,rfl,rfl,λx hx=>⟨[],gX s hs.le,rfl,rfl,rfl,λy hy=>⟨[],yV x.n y.n (a:=a.num) (b:=b.num) (Ci.in hx.1 (ha.le).1) (Ci.in hy.1 (hb.le).1),rfl,rfl,rfl,λp1 h2=>⟨[],vG r hr.le,rfl,rfl,rfl,λd1 h3=>⟨[],vG s hs.le,rfl,rfl,rfl,λd2 h4=>⟨[],yV d1 d2 (Ci.in h3 (ha.le).2) (Ci.in h4 (hb.le).2),rfl,rfl,rfl,λp2 h5=>⟨[],vF p1 p2 (Ci.in h2 oM) (Ci.in h5 oM),rfl,rfl,rfl,λg hg=>⟨g,?_,aM rfl rfl trivial⟩⟩⟩⟩⟩⟩⟩⟩)
 rw[<-aMe];exact hg
abbrev ecH (c:Nat) (A:Nat->Option Nat) (cap:Nat->Nat):Nat->CV:=λj=> .h (A j) c (cap j)
abbrev ec0 (d:Sl (Sl RatM)) (c i:Nat):List (Nat×DV):=[(8,.c (iC i)),(7,.c (.s 0 i)),(0,.c (aAo d)),(1,.c (iC c))]
abbrev cAc (H:List CV):BL:=[(55,1,H)]
theorem bOk {A:Nat->Option Nat} {cap:Nat->Nat} {c k m:Nat} {Aa:Option Nat} {aa:Nat} (hm:m=c):(dI k (ecH c A cap)++[CV.s 1 (0+m)]).map (pL 1 Aa aa)=dI (k+1) (ecH c (upd A k Aa) (upd cap k aa)):=by
 subst hm
 rw[aBs,bG]
 refine(congrArg (·++_) ?_).trans (congrArg (_++·) ?_)
 ·unfold dI
  rw[kO]
  refine dP λj hj=>?_
  have hj':=cM.1 hj
  show pL 1 Aa aa (ecH m A cap j)=CV.h (upd A k Aa j) m (upd cap k aa j)
  rw[bD oM,bD oM];rfl
 show [CV.h Aa (0+m) aa]=[CV.h (upd A k Aa k) m (upd cap k aa k)]
 rw[bJ,bJ,eA]
theorem bHh {T n k:Nat} {A:Nat->Option Nat} {cap:Nat->Nat} {R:Nat->List RatM} {l:List RatM}:(⟨T,3,n,A,cap,upd (λj=>fl RatM.C default (R j)) k (fl RatM.C default l)⟩:Fam)=⟨T,3,n,A,cap,λi=>fl RatM.C default (upd R k l i)⟩:=by
 congr 1
 funext i
 by_cases e:i=k
 ·subst e;rw[bJ,bJ]
 rw[bD e,bD e]
structure EcR (R:Nat->List RatM) (s:Nat->Nat) (E:Nat->Nat->Rat) (r c:Nat):Prop where
 ln:∀i,i<r->(R (s i)).length=c
 e:∀i j,i<r->j<c->Cr ((R (s i)).getD j default) (E i j)
theorem EcR.cg {R:Nat->List RatM} {s:Nat->Nat} {E E':Nat->Nat->Rat} {r c:Nat} (h:EcR R s E r c) (he:∀i j,i<r->j<c->E i j=E' i j):EcR R s E' r c:=⟨h.ln,λi j hi hj=>by rw[<-he i j hi hj];exact h.e i j hi hj⟩
theorem EcR.put {R:Nat->List RatM} {s:Nat->Nat} {E:Nat->Nat->Rat} {r c q j:Nat} {g:RatM} {v:Rat} (h:EcR R s E r c) (hs:∀i j,i<r->j<r->s i=s j->i=j) (hq:q<r) (hj:j<c) (hg:Cr g v):EcR (upd R (s q) ((R (s q)).set j g)) s (λi l=>if i=q/\l=j then v else E i l) r c:=⟨λi hi=>by
 by_cases e:i=q
 ·subst e;rw[bJ,bW];exact h.ln i hi
 ·rw[bD λe2=>e (hs i q hi hq e2)];exact h.ln i hi,λi l hi hl=>by
 have hlq:=h.ln q hq
 by_cases e:i=q
 ·subst e
  rw[bJ]
  by_cases e2:l=j
  ·subst e2
   rw[if_pos ⟨rfl,rfl⟩,gd (by rw[bW];omega),List.getElem_set_self];exact hg
  rw[if_neg (λhh=>e2 hh.2)]
  have:=h.e i l hi hl
  simp only[List.getD,nG (gE e2)]
  exact this
 rw[bD λe2=>e (hs i q hi hq e2),if_neg λhh=>e hh.1];exact h.e i l hi hl⟩
def gsP (E:Nat->Nat->Rat) (t C q j:Nat) (i l:Nat):Rat:=if i=q/\l<j then E q l-E q C/E t C*E t l else gsE E t C q i l
theorem aYd {E:Nat->Nat->Rat} {t C q:Nat} (i l:Nat):gsP E t C q 0 i l=gsE E t C q i l:=if_neg λh=>absurd h.2 (aF _)
theorem bHi {E:Nat->Nat->Rat} {t C q j:Nat} (i l:Nat):(if i=q/\l=j then E q j-E q C/E t C*E t j else gsP E t C q j i l)=gsP E t C q (j+1) i l:=by
 unfold gsP
 by_cases e:i=q/\l=j
 ·obtain⟨rfl,rfl⟩:=e
  rw[if_pos ⟨rfl,rfl⟩,if_pos ⟨rfl,bF _⟩]
 rw[if_neg e]
 by_cases e2:i=q/\l<j
 ·rw[if_pos e2,if_pos ⟨e2.1,by omega⟩]
 rw[if_neg e2,if_neg λh=>?_]
 by_cases e3:l=j
 ·exact e ⟨h.1,e3⟩
 exact e2 ⟨h.1,by omega⟩
theorem bOl {E:Nat->Nat->Rat} {t C q c:Nat} (hq:t<q) (i l:Nat) (hl:l<c):gsP E t C q c i l=gsE E t C (q+1) i l:=by
 unfold gsP gsE
 by_cases e:i=q
 ·subst e;rw[if_pos ⟨rfl,hl⟩,if_pos ⟨hq,bF _⟩]
 rw[if_neg λh=>e h.1]
 by_cases e2:t<i/\i<q
 ·rw[if_pos e2,if_pos ⟨e2.1,by omega⟩]
 rw[if_neg e2,if_neg λh=>e2 ⟨h.1,by omega⟩]
theorem aYe {E:Nat->Nat->Rat} {t C:Nat} (i j:Nat):gsE E t C (t+1) i j=E i j:=if_neg λh=>by omega
structure EcG where
 C:Nat
 t:Nat
 pv:Nat->Nat
 n:Int
 s:Nat->Nat
 R:Nat->List RatM
 E:Nat->Nat->Rat
structure EcI (Q:Nat->Nat->Rat) (r c B:Nat) (g:EcG):Prop where
 C:g.C<=c
 o:Ech Q g.E r c g.C g.t g.pv
 R:EcR g.R g.s g.E r c
 lt:∀i,i<r->g.s i<r
 inj:∀i j,i<r->j<r->g.s i=g.s j->i=j
 b:∀i j,i<r->j<c->rb (g.E i j) (bd B (min g.t (r-1)))
 n:g.n=1\/g.n=-1
abbrev ecL (r c:Nat) (A:Nat->Option Nat) (cap s:Nat->Nat):List CV:=dI r λi=>ecH c A cap (s i)
abbrev ec1 (r c:Nat) (g:EcG):List (Nat×DV):=[(12,.c (iC g.C)),(11,.c (iC g.t)),(10,.c (iC g.n)),(9,.c (.s 1 g.t)),(7,.c (.s 0 r)),(1,.c (iC c))]
abbrev aCo (r c:Nat) (A:Nat->Option Nat) (cap:Nat->Nat) (g:EcG):BL:=[(55,1,ecL r c A cap g.s),(3,1,ioC g.t g.pv)]
theorem zC {r c:Nat} {A:Nat->Option Nat} {cap:Nat->Nat} {g:EcG}:scB 2 (aCo r c A cap g):=aB (bU (aX λ_ _=>rfl)) (aB (bU (aX λ_ _=>rfl)) aY)
theorem aNv {l:List RatM} {j:Nat} (h:j<l.length):((fl RatM.C default l).drop (j*3)).take 3=(l.getD j default).C/\(l.getD j default).C.length=3:=⟨(bFa (f:=RatM.C) (d:=default) (L:=l) (e:=3) (λ_=>rfl) j h).symm,rfl⟩
abbrev aRv (r c:Nat) (A:Nat->Option Nat) (cap:Nat->Nat) (g:EcG) (f:RatM):BL:=[(55,1,ecL r c A cap g.s),(3,1,ioC g.t g.pv),(62,0,f.C)]
theorem aKn {r c:Nat} {A:Nat->Option Nat} {cap:Nat->Nat} {g:EcG} {f:RatM}:scB 3 (aRv r c A cap g f):=aB (bU (aX λ_ _=>rfl)) (aB (bU (aX λ_ _=>rfl)) (aB rfl aY))
theorem bOm {t C:Nat} {pv:Nat->Nat}:((3,1,ioC t pv++[iC (C:Nat)]):TypeId×Nat×List CV)=(3,1,ioC (t+1) (upd pv t C)):=by
 rw[show ioC (t+1) (upd pv t C)=ioC t (upd pv t C)++[iC (upd pv t C t:Nat)] from aBs,bJ,show ioC t (upd pv t C)=ioC t pv from gA λi hi=>by rw[bD oM]]
structure EcO where
 d:Sl (Sl RatM)
 p:Sl Int
 n:Int
 E:Nat->Nat->Rat
 t:Nat
 pv:Nat->Nat
structure EcP (Q:Nat->List Rat) (r c B:Nat) (g:EcO):Prop where
 o:Ech (λi j=>(Q i).getD j 0) g.E r c c g.t g.pv
 p:g.p.l=nL g.t g.pv
 d:g.d.l.length=r
 l:∀i,i<r->(g.d.l.getD i cP).l.length=c
 e:∀i j,i<r->j<c->Cr ((g.d.l.getD i cP).l.getD j default) (g.E i j)
 b:∀i j,i<r->j<c->rb (g.E i j) (bd B (min g.t (r-1)))
theorem cAd {A:Option Addr} {c t:Nat} {pv:Nat->Nat}:CV.r A t c 1 (λj=>[iC ((nL t pv).getD j 0)])=cD ⟨A,c,nL t pv⟩:=by
 unfold cD Sl.R;rw[show(nL t pv).length=t by unfold nL;rw[aN,fJ]]
def cKv:Ord:=.joinR (List.range 14) (.alt 14 (trS [15,1016]) (.alt 15 (trS [14,1016]) .nil))
abbrev bHj:FuncId:=201
theorem cKw:Ent Tryz.prog bHj:=aU func201 rfl kR
theorem cKx:Tryz.prog.funcs[bHj]? =some Tryz.f201:=func201
theorem cKy (d:Sl (Sl RatM)) {Q:Nat->List Rat} {r c B:Nat} (h:Rr d Q r c) (hb:∀i,i<r->rbL (Q i) B) (h1:1<=B) (hB:bd B (r-1)<=4398046511104) (hr:r<=4096) (hc:c<=4096):Ctr Tryz.prog bHj [] [.c (aAo d),.c (iC c)] [] (λg:EcO=>⟨.t [.c (aAo g.d),.c (cD g.p),.c (iC g.n)],[],EcP Q r c B g⟩):=by
 have hl:=h.ln
 refine aW gT cKw cKx rfl rfl rfl bL aS (aA gT mxd ?_)
 show Sd _ _ _ _ _ _
 refine aNd tSd 7 55 1 rfl bL rfl ?_
 refine aXs tSd 62 3 r bL ?_
 refine cG (λ_=>true) (λg:Nat×(Nat->Option Nat)×(Nat->Nat)×(Nat->List RatM)=>ec0 d c g.1) (λg=>cAc (dI g.1 (ecH c g.2.1 g.2.2.1))) (λg=>[elF r g.2.1 g.2.2.1 g.2.2.2]) (λg=>g.1<=r/\(∀j,j<g.1->Rl (g.2.2.2 j) (Q j))/\∀j,g.1<=j->g.2.1 j=none) (λg=>r-g.1) λhM=>⟨bH hM (chg:=λg:Nat×(Nat->Option Nat)×(Nat->Nat)×(Nat->List RatM)=>ec0 d c g.1) (bls:=λg=>cAc (dI g.1 (ecH c g.2.1 g.2.2.1))) (fls:=λg=>[elF r g.2.1 g.2.2.1 g.2.2.2]) (0,λ_=>none,λ_=>0,λ_=>[]) ⟨aC _,λj hj=>absurd hj (aF _),λ_ _=>rfl⟩ rfl rfl ⟨rfl,trivial⟩ ⟨rfl,rfl,rfl,rfl⟩ bL (aB (bU (aX λ_ _=>rfl)) aY) rfl,λ⟨k,A,cap,R⟩ ⟨hk,hR,hA⟩=>aA gT mxd ⟨λh2=>aA gT mxd ?_,λh2=>?_⟩⟩
 all_goals
  replace hk:k<=r:=hk
  replace hR:∀j,j<k->Rl (R j) (Q j):=hR
  replace hA:∀j,k<=j->A j=none:=hA
 ·replace h2:(k:Int)<(d.l.length:Nat):=h2
  have hkr:k<r:=by omega
  obtain⟨hrw,hrc⟩:=h.row k hkr
  have hln:(d.l.getD k cP).l.length=c:=hrw.ln.trans hrc
  refine⟨k,⟨rfl,show k<d.l.length by omega⟩,⟨λ_ _=>rfl,rfl,by simp only[maxLen];omega,by show(0+(d.l.getD k cP).l.length)*56<=_;omega,λc' hc'=>cY (qZ iY c' hc')⟩,λc' hc'=>cY (aX (λ_ _=>rfl) c' hc'),⟨rfl,by show k*1=(dI k _).length;rw[dB,bI],by show k+1<=maxLen;simp only[maxLen];omega,by show(k+1)*24<=_;omega,λc' hc'=>(aQ.1 hc').elim (λhc'=>cY (aX (λ_ _=>rfl) c' hc')) λhc'=>by rw[aH.1 hc'];rfl⟩,?_⟩
  refine⟨λc' hc'=>cY (qZ iY c' hc'),(λc' hc'=>by rw[aH.1 hc'];rfl),(k+1:Nat),wi,jV tGt 1 rfl bL (λc' hc'=>qZ iY c' hc') bL rfl λAa aa=>⟨_,bOk hln,_,rfl,bUk tGt 0 1 k rfl rfl rfl hkr (hA k (aI _)) bL rfl rfl (bH hM (chg:=λg:Nat×(Nat->Option Nat)×(Nat->Nat)×(Nat->List RatM)=>ec0 d c g.1) (bls:=λg=>cAc (dI g.1 (ecH c g.2.1 g.2.2.1))) (fls:=λg=>[elF r g.2.1 g.2.2.1 g.2.2.2]) (k+1,upd A k Aa,upd cap k aa,upd R k (d.l.getD k cP).l) ⟨⟨hkr,λj hj=>?_,λj hj=>?_⟩,show r-(k+1)<r-k by omega⟩ rfl rfl ⟨bHh,trivial⟩ ⟨rfl,rfl,rfl,rfl⟩ bL (aB (bU (aX λ_ _=>rfl)) aY) rfl)⟩⟩
  ·show Rl (upd R k _ j) _
   by_cases hjk:j=k
   ·subst hjk;rw[bJ];exact hrw
   rw[bD hjk];exact hR j (by have:j<k+1:=hj;omega)
  have hj':k+1<=j:=hj
  exact(bD oM).trans (hA j oM)
 replace h2:¬(k:Int)<(d.l.length:Nat):=h2
 obtain rfl:k=r:=by omega
 refine aA gT mxd (aA gT mxd ?_)
 show Sd _ _ _ _ _ _
 refine aNd tSd 9 3 1 rfl bL rfl ?_
 refine cOm tSd 0 rfl λhall=>?_
 have hA:∀j,j<k->0<c->∃b,A j=some b:=λj hj hc0=>hall j hj λhe=>by
  have h2:=yZ (f:=RatM.C) (d:=default) (L:=R j) (e:=3) λ_=>rfl
  rw[show fl RatM.C default (R j)=[] from he,(hR j hj).ln,(h.row j hj).2] at h2
  simp at h2
  omega
 refine cG (λ_=>true) (λg:EcG=>ec1 k c g) (λg=>aCo k c A cap g) (λg=>[elF k A cap g.R]) (λg=>EcI (λi j=>(Q i).getD j 0) k c B g) (λg=>c-g.C) λhM=>⟨bH hM (chg:=λg:EcG=>ec1 k c g) (bls:=λg=>aCo k c A cap g) (fls:=λg=>[elF k A cap g.R]) ⟨0,0,λ_=>0,1,λi=>i,R,λi j=>(Q i).getD j 0⟩ ⟨aC _,Ech.start _,⟨λi hi=>(hR i hi).ln.trans (h.row i hi).2,λi j hi hj=>(hR i hi).e j (by rw[(h.row i hi).2];exact hj)⟩,λ_ hi=>hi,λ_ _ _ _ e=>e,λi j hi hj=>by
  show rb _ (bd B (min 0 (k-1)))
  rw[Nat.zero_min]
  exact hb i hi _ (gD0 (by rw[(h.row i hi).2];exact hj)),.inl rfl⟩ rfl ⟨rfl,rfl⟩ ⟨rfl,trivial⟩ ⟨rfl,rfl,rfl,rfl,rfl,rfl⟩ bL zC rfl,λ⟨C,t,pv,n,s,R,E⟩ hI=>aA gT mxd ⟨λh3=>aA gT mxd ?_,λh3=>?_⟩⟩
 all_goals
  obtain⟨hC,ho,hER,hsl,hsi,hbd,hn⟩:=hI
  replace hC:C<=c:=hC
  replace ho:Ech (λi j=>(Q i).getD j 0) E k c C t pv:=ho
  replace hER:EcR R s E k c:=hER
  replace hsl:∀i,i<k->s i<k:=hsl
  replace hsi:∀i j,i<k->j<k->s i=s j->i=j:=hsi
  replace hbd:∀i j,i<k->j<c->rb (E i j) (bd B (min t (k-1))):=hbd
  replace hn:n=1\/n=-1:=hn
  replace h3:=h3
  have htk:=ho.tr
 ·replace h3:(C:Int)<(c:Nat)/\(t:Int)<(k:Nat):=h3
  have hCc:C<c:=by omega
  have htk':t<k:=by omega
  have hAs:∀i,i<k->A (s i)=some ((A (s i)).getD 0):=λi hi=>by
   obtain⟨b,hb⟩:=hA (s i) (hsl i hi) oM
   rw[hb];rfl
  have hcl:∀i,i<k->C<(R (s i)).length:=λi hi=>by rw[hER.ln i hi];exact hCc
  have hrq:∀i,i<k->Rq ((R (s i)).getD C default) (E i C) (bd B (min t (k-1))):=λi hi=>(hER.e i C hi hCc).rq (hbd i C hi hCc)
  have hbt:bd B (min t (k-1))<=4398046511104:=aJ (kT oM) hB
  refine aA gT mxd ?_
  show Sd _ _ _ _ _ _
  refine cG (λ_=>true) (λm:Nat=>(13,.c (iC m))::ec1 k c ⟨C,t,pv,n,s,R,E⟩) (λ_=>aCo k c A cap ⟨C,t,pv,n,s,R,E⟩) (λ_=>[elF k A cap R]) (λm=>(t<=m/\m<=k)/\∀i,t<=i->i<m->E i C=0) (λm=>k-m) λhM2=>⟨bH hM2 (chg:=λm:Nat=>(13,.c (iC m))::ec1 k c ⟨C,t,pv,n,s,R,E⟩) (bls:=λ_=>aCo k c A cap ⟨C,t,pv,n,s,R,E⟩) (fls:=λ_=>[elF k A cap R]) t ⟨⟨aI t,htk⟩,λi h1 h2=>absurd h2 oM⟩ rfl ⟨rfl,rfl⟩ ⟨rfl,trivial⟩ ⟨rfl,rfl,rfl,rfl,rfl,rfl,rfl⟩ bL zC rfl,λm ⟨hm,hz⟩=>aA gT mxd ?_⟩
  replace hm:t<=m/\m<=k:=hm
  replace hz:∀i,t<=i->i<m->E i C=0:=hz
  have hmk:(m:Int)<(k:Nat)->m<k:=λh=>by omega
  refine⟨m,λhq=>⟨rfl,hmk hq,cQ (hmk hq)⟩,_,λhq=>eB (hmk hq),C,(A (s m)).getD 0,λhq=>⟨rfl,hCc,hAs m (hmk hq)⟩,0,s m,λhq=>⟨hsl m (hmk hq),hAs m (hmk hq)⟩,_,λhq=>aNv (hcl m (hmk hq)),⟨λh4=>⟨[],aCz _ ((hrq m (hmk h4)).le),rfl,rfl,rfl,λ_ _=>⟨λh5=>?_,λh5=>?_⟩⟩,λh4=>?_⟩⟩
  ·have hm':=hmk h4
   replace h5:sgn (E m C).num=0:=h5
   have hE0:E m C=0:=by
    have h7:=fS.1 h5
    exact dH.1 h7
   exact aA gT mxd ⟨(m+1:Nat),wi,bH hM2 (chg:=λm:Nat=>(13,.c (iC m))::ec1 k c ⟨C,t,pv,n,s,R,E⟩) (bls:=λ_=>aCo k c A cap ⟨C,t,pv,n,s,R,E⟩) (fls:=λ_=>[elF k A cap R]) (m+1) ⟨⟨⟨by omega,hm'⟩,λi h1 h2=>by
    by_cases e:i=m
    ·subst e;exact hE0
    exact hz i h1 oM⟩,show k-(m+1)<k-m by omega⟩ rfl ⟨rfl,rfl⟩ ⟨rfl,trivial⟩ ⟨rfl,rfl,rfl,rfl,rfl,rfl,rfl⟩ bL zC rfl⟩
  ·have hm':=hmk h4
   replace h5:¬sgn (E m C).num=0:=h5
   have hE0:E m C≠0:=λe=>h5 (by rw[e];rfl)
   refine aA gT mxd (aA gT mxd ⟨λh6=>?_,λh6=>?_⟩)
   ·replace h6:(m:Int)=(k:Nat):=h6
    omega
   refine aA gT mxd ?_
   refine vjn (λ_=>true) (λg:(Nat->Nat)×Int=>ec1 k c ⟨C,t,pv,g.2,g.1,R,λi=>E (sw2 m t i)⟩) (λg=>aCo k c A cap ⟨C,t,pv,g.2,g.1,R,λi=>E (sw2 m t i)⟩) (λg=>g.1=(λi=>s (sw2 m t i))/\(g.2=1\/g.2=-1)) ?_
   refine⟨⟨λh7=>aA gT mxd ?_,λh7=>aA gT mxd ?_⟩,λ⟨s',n'⟩ hg=>?_⟩
   ·replace h7:(m:Int)≠(t:Nat):=h7
    refine⟨.seq [(0,false),(1,false),(2,false),(3,false),(4,false),(5,false),(6,false),(7,false),(8,false),(9,false),(10,false),(11,false),(12,false),(13,true),(14,false),(15,true)],by kernel_rfl,t,⟨rfl,htk',cQ htk'⟩,_,eB htk',m,⟨rfl,hm',cQ hm'⟩,_,eB hm',m,⟨rfl,hm',cQ hm'⟩,_,gU (c:=ecH c A cap (s t)) (Q:=λi=>if i=m then ecH c A cap (s t) else ecH c A cap (s i)) hm' (λ_ _=>rfl),t,⟨rfl,htk',cQ htk'⟩,_,gU (c:=ecH c A cap (s m)) (Q:=λi=>ecH c A cap (s (sw2 m t i))) htk' (λi _=>?_),-n,wi (h:=⟨by show-n=0-n;omega,by show _<=0-n;omega,by show 0-n<=_;omega⟩),(λi=>s (sw2 m t i),-n),⟨rfl,by show-n=1\/-n=-1;omega⟩,rfl,rfl,rfl,rfl,rfl,rfl,rfl,rfl⟩
    unfold sw2
    by_cases e1:i=m
    ·rw[if_neg oM,if_pos e1,if_pos e1]
    by_cases e2:i=t
    ·rw[if_pos e2,if_neg e1,if_pos e2]
    rw[if_neg e2,if_neg e1,if_neg e1,if_neg e2]
   ·replace h7:¬(m:Int)≠(t:Nat):=h7
    refine⟨(s,n),⟨funext λi=>?_,hn⟩,rfl,rfl,rfl,rfl,rfl,rfl,rfl,rfl⟩
    have e:m=t:=by omega
    show s i=s (sw2 m t i)
    unfold sw2
    by_cases e1:i=t
    ·rw[e,if_pos e1,e1]
    rw[if_neg oM,if_neg e1]
   obtain⟨hs',hn'⟩:=hg
   replace hs':s'=λi=>s (sw2 m t i):=hs'
   replace hn':n'=1\/n'=-1:=hn'
   obtain⟨E1,hE1⟩:∃E1:Nat->Nat->Rat,E1=λi=>E (sw2 m t i):=⟨_,rfl⟩
   have hsl':∀i,i<k->s' i<k:=λi hi=>by rw[hs'];exact hsl _ (tT hm' htk' hi)
   have hsi':∀i j,i<k->j<k->s' i=s' j->i=j:=λi j hi hj e=>by
    rw[hs'] at e
    exact bOj (hsi _ _ (tT hm' htk' hi) (tT hm' htk' hj) e)
   have hER1:EcR R s' E1 k c:=⟨λi hi=>by rw[hs'];exact hER.ln _ (tT hm' htk' hi),λi j hi hj=>by rw[hs',hE1];exact hER.e _ j (tT hm' htk' hi) hj⟩
   have hbd1:∀i j,i<k->j<c->rb (E1 i j) (bd B (min t (k-1))):=λi j hi hj=>by rw[hE1];exact hbd _ j (tT hm' htk' hi) hj
   have hp1:E1 t C≠0:=by
    rw[hE1]
    show E (sw2 m t t) C≠0
    rw[show sw2 m t t=m by unfold sw2;split<;>simp_all]
    exact hE0
   have hE:=ho.step hm.1 hm' hE0
   rw[<-hE1] at hE
   clear hER hbd hAs hcl hrq hz hE0 hsl hsi
   refine⟨(t+1:Nat),wi,?_⟩
   show Sd _ _ _ _ _ _
   refine cG (λ_=>true) (λg:Nat×(Nat->List RatM)=>(14,.c (iC g.1))::ec1 k c ⟨C,t,pv,n',s',g.2,E1⟩) (λg=>aCo k c A cap ⟨C,t,pv,n',s',g.2,E1⟩) (λg=>[elF k A cap g.2]) (λg=>(t+1<=g.1/\g.1<=k)/\EcR g.2 s' (gsE E1 t C g.1) k c) (λg=>k-g.1) λhM3=>⟨bH hM3 (chg:=λg:Nat×(Nat->List RatM)=>(14,.c (iC g.1))::ec1 k c ⟨C,t,pv,n',s',g.2,E1⟩) (bls:=λg=>aCo k c A cap ⟨C,t,pv,n',s',g.2,E1⟩) (fls:=λg=>[elF k A cap g.2]) (t+1,R) ⟨⟨aI _,htk'⟩,hER1.cg λi j _ _=>(aYe i j).symm⟩ rfl ⟨rfl,rfl⟩ ⟨rfl,trivial⟩ ⟨rfl,rfl,rfl,rfl,rfl,rfl,rfl⟩ bL zC rfl,λ⟨q,R'⟩ ⟨hq,hR'⟩=>aA gT mxd ⟨λh8=>aA gT mxd ?_,λh8=>?_⟩⟩
   all_goals
    replace hq:t+1<=q/\q<=k:=hq
    replace hR':EcR R' s' (gsE E1 t C q) k c:=hR'
   ·replace h8:(q:Int)<(k:Nat):=h8
    have hqk:q<k:=by omega
    have hmt:min t (k-1)=t:=by omega
    rw[hmt] at hbd1 hbt
    have hB4:4*bd B t+1<=4398046511104:=aJ (kT (k:=t+1) oM) hB
    have hAs:∀i,i<k->A (s' i)=some ((A (s' i)).getD 0):=λi hi=>by
     obtain⟨b,hb⟩:=hA (s' i) (hsl' i hi) oM
     rw[hb];rfl
    have hlq:C<(R' (s' q)).length:=by rw[hR'.ln q hqk];exact hCc
    have hlt:C<(R' (s' t)).length:=by rw[hR'.ln t htk'];exact hCc
    have gq:∀j,gsE E1 t C q q j=E1 q j:=λj=>if_neg λh=>by omega
    have gt:∀j,gsE E1 t C q t j=E1 t j:=λj=>if_neg λh=>by omega
    have rq:Rq ((R' (s' q)).getD C default) (E1 q C) (bd B t):=by
     have:=hR'.e q C hqk hCc
     rw[gq] at this
     exact this.rq (hbd1 q C hqk hCc)
    have rt:Rq ((R' (s' t)).getD C default) (E1 t C) (bd B t):=by
     have:=hR'.e t C htk' hCc
     rw[gt] at this
     exact this.rq (hbd1 t C htk' hCc)
    refine⟨cKv,by kernel_rfl,RatM,λf=>⟨((15,.c (.p 2 0))::(14,.c (iC q))::ec1 k c ⟨C,t,pv,n',s',R',E1⟩)++[],[],aRv k c A cap ⟨C,t,pv,n',s',R',E1⟩ f,[elF k A cap R']⟩,λf=>Cr f (E1 q C/E1 t C),⟨q,⟨rfl,hqk,cQ hqk⟩,_,eB hqk,C,_,⟨rfl,hCc,hAs q hqk⟩,0,s' q,⟨hsl' q hqk,hAs q hqk⟩,_,aNv hlq,t,⟨rfl,htk',cQ htk'⟩,_,eB htk',C,_,⟨rfl,hCc,hAs t htk'⟩,0,s' t,⟨hsl' t htk',hAs t htk'⟩,_,aNv hlt,?_,?_⟩,λf hf=>?_⟩
    ·exact⟨[],aUn _ _ (rq.le) (rt.le) hp1,rfl,rfl,rfl,λf hf=>bH (M:=λ_=>true) (base:=[]) (chg:=λ_:RatM=>(15,.c (.p 2 0))::(14,.c (iC q))::ec1 k c ⟨C,t,pv,n',s',R',E1⟩) (bls:=λf=>aRv k c A cap ⟨C,t,pv,n',s',R',E1⟩ f) (fls:=λ_=>[elF k A cap R']) (λt d ht=>by cases ht) f hf rfl ⟨rfl,rfl,rfl⟩ ⟨rfl,trivial⟩ ⟨rfl,rfl,rfl,rfl,rfl,rfl,rfl,rfl⟩ bL aKn rfl⟩
    ·exact⟨[],aUn _ _ (rq.le) (rt.le) hp1,rfl,rfl,rfl,λf hf=>bH (M:=λ_=>true) (base:=[]) (chg:=λ_:RatM=>(15,.c (.p 2 0))::(14,.c (iC q))::ec1 k c ⟨C,t,pv,n',s',R',E1⟩) (bls:=λf=>aRv k c A cap ⟨C,t,pv,n',s',R',E1⟩ f) (fls:=λ_=>[elF k A cap R']) (λt d ht=>by cases ht) f hf rfl ⟨rfl,rfl,rfl⟩ ⟨rfl,trivial⟩ ⟨rfl,rfl,rfl,rfl,rfl,rfl,rfl,rfl⟩ bL aKn rfl⟩
    replace hf:Cr f (E1 q C/E1 t C):=hf
    have rf:rb (E1 q C/E1 t C) (bd B t+bd B t):=aAt (hbd1 q C hqk hCc) (hbd1 t C htk' hCc) (vP h1 t)
    show Sd _ _ _ _ _ _
    refine cG (λ_=>true) (λg:Nat×(Nat->List RatM)=>(16,.c (iC g.1))::(15,.c (.p 2 0))::(14,.c (iC q))::ec1 k c ⟨C,t,pv,n',s',g.2,E1⟩) (λg=>aRv k c A cap ⟨C,t,pv,n',s',g.2,E1⟩ f) (λg=>[elF k A cap g.2]) (λg=>g.1<=c/\EcR g.2 s' (gsP E1 t C q g.1) k c) (λg=>c-g.1) λhM4=>⟨bH hM4 (chg:=λg:Nat×(Nat->List RatM)=>(16,.c (iC g.1))::(15,.c (.p 2 0))::(14,.c (iC q))::ec1 k c ⟨C,t,pv,n',s',g.2,E1⟩) (bls:=λg=>aRv k c A cap ⟨C,t,pv,n',s',g.2,E1⟩ f) (fls:=λg=>[elF k A cap g.2]) (0,R') ⟨aC _,hR'.cg λi j _ _=>(aYd i j).symm⟩ rfl ⟨rfl,rfl,rfl⟩ ⟨rfl,trivial⟩ ⟨rfl,rfl,rfl,rfl,rfl,rfl,rfl,rfl,rfl⟩ bL aKn rfl,λ⟨j,S⟩ ⟨hj,hS⟩=>aA gT mxd ⟨λh9=>aA gT mxd ?_,λh9=>?_⟩⟩
    all_goals
     replace hj:j<=c:=hj
     replace hS:EcR S s' (gsP E1 t C q j) k c:=hS
    ·replace h9:(j:Int)<(c:Nat):=h9
     have hjc:j<c:=by omega
     have ljq:j<(S (s' q)).length:=by rw[hS.ln q hqk];exact hjc
     have ljt:j<(S (s' t)).length:=by rw[hS.ln t htk'];exact hjc
     have pq:gsP E1 t C q j q j=E1 q j:=(if_neg λh=>by omega).trans (gq j)
     have pt:gsP E1 t C q j t j=E1 t j:=(if_neg λh=>by omega).trans (gt j)
     have rsq:Rq ((S (s' q)).getD j default) (E1 q j) (bd B t):=by
      have:=hS.e q j hqk hjc
      rw[pq] at this
      exact this.rq (hbd1 q j hqk hjc)
     have rst:Rq ((S (s' t)).getD j default) (E1 t j) (bd B t):=by
      have:=hS.e t j htk' hjc
      rw[pt] at this
      exact this.rq (hbd1 t j htk' hjc)
     refine⟨.seq (sq 23 (List.range 24)),by kernel_rfl,q,⟨rfl,hqk,cQ hqk⟩,_,eB hqk,q,⟨rfl,hqk,cQ hqk⟩,_,eB hqk,j,_,⟨rfl,hjc,hAs q hqk⟩,0,s' q,⟨hsl' q hqk,hAs q hqk⟩,_,aNv ljq,t,⟨rfl,htk',cQ htk'⟩,_,eB htk',j,_,⟨rfl,hjc,hAs t htk'⟩,0,s' t,⟨hsl' t htk',hAs t htk'⟩,_,aNv ljt,[],cAb f _ ((Cr.rq hf rf).le) (rst.le),rfl,rfl,rfl,λx hx=>⟨[],bXa _ x (rsq.le) ((Cr.rq hx (gY rf (hbd1 t j htk' hjc))).le),rfl,rfl,rfl,λg hg=>⟨j,_,⟨rfl,hjc,hAs q hqk⟩,0,s' q,_,⟨hsl' q hqk,hAs q hqk,aVc (f:=RatM.C) (d:=default) (L:=S (s' q)) (e:=3) (λ_=>rfl) ljq⟩,(j+1:Nat),wi,bH hM4 (chg:=λg:Nat×(Nat->List RatM)=>(16,.c (iC g.1))::(15,.c (.p 2 0))::(14,.c (iC q))::ec1 k c ⟨C,t,pv,n',s',g.2,E1⟩) (bls:=λg=>aRv k c A cap ⟨C,t,pv,n',s',g.2,E1⟩ f) (fls:=λg=>[elF k A cap g.2]) (j+1,upd S (s' q) ((S (s' q)).set j g)) ⟨⟨hjc,(hS.put hsi' hqk hjc hg).cg λi l _ _=>bHi i l⟩,show c-(j+1)<c-j by omega⟩ rfl ⟨rfl,rfl,rfl⟩ ⟨bHh,trivial⟩ ⟨rfl,rfl,rfl,rfl,rfl,rfl,rfl,rfl,rfl⟩ bL aKn rfl⟩⟩⟩
    replace h9:¬(j:Int)<(c:Nat):=h9
    obtain rfl:j=c:=by omega
    refine aA gT mxd ⟨(q+1:Nat),wi,bH hM3 (chg:=λg:Nat×(Nat->List RatM)=>(14,.c (iC g.1))::ec1 k j ⟨C,t,pv,n',s',g.2,E1⟩) (bls:=λg=>aCo k j A cap ⟨C,t,pv,n',s',g.2,E1⟩) (fls:=λg=>[elF k A cap g.2]) (q+1,S) ⟨⟨⟨by omega,hqk⟩,hS.cg λi l _ hl=>bOl oM i l hl⟩,show k-(q+1)<k-q by omega⟩ rfl ⟨rfl,rfl⟩ ⟨rfl,trivial⟩ ⟨rfl,rfl,rfl,rfl,rfl,rfl,rfl⟩ bL zC rfl⟩
   replace h8:¬(q:Int)<(k:Nat):=h8
   obtain rfl:q=k:=by omega
   have htq:t<=4096:=by omega
   refine aA gT mxd (aA gT mxd ⟨⟨rfl,by show t*1=(ioC t pv).length;rw[dB,bI],by show t+1<=maxLen;simp only[maxLen];omega,by show(t+1)*8<=_;omega,λc' hc'=>(aQ.1 hc').elim (λhc'=>cY (aX (λ_ _=>rfl) c' hc')) λhc'=>by rw[aH.1 hc'];rfl⟩,λc' hc'=>cY (aX (λ_ _=>rfl) c' hc'),(λc' hc'=>by rw[aH.1 hc'];rfl),(t+1:Nat),wi,?_⟩)
   refine⟨(C+1:Nat),wi,bH hM (chg:=λg:EcG=>ec1 q c g) (bls:=λg=>aCo q c A cap g) (fls:=λg=>[elF q A cap g.R]) ⟨C+1,t+1,upd pv t C,n',s',R',gsE E1 t C q⟩ ⟨⟨hCc,hE,hR',hsl',hsi',λi j hi hj=>?_,hn'⟩,show c-(C+1)<c-C by omega⟩ rfl ⟨rfl,bOm⟩ ⟨rfl,trivial⟩ ⟨rfl,rfl,rfl,rfl,rfl,rfl⟩ bL zC rfl⟩
   show rb (gsE E1 t C q i j) (bd B (min (t+1) (q-1)))
   unfold gsE
   split
   ·next hh=>
    have e1:min t (q-1)=t:=by omega
    have e2:min (t+1) (q-1)=t+1:=by omega
    rw[e1] at hbd1
    rw[e2]
    have:=pV (hbd1 i j hi hj) (gY (aAt (hbd1 i C hi hCc) (hbd1 t C htk' hCc) (vP h1 t)) (hbd1 t j htk' hj))
    exact this.le (by show _<=4*bd B t+1;omega)
   exact(hbd1 i j hi hj).le (kT oM)
  have hmk2:m=k:=by
   replace h4:¬(m:Int)<(k:Nat):=h4
   omega
  refine aA gT mxd ⟨λh6=>aA gT mxd ⟨(C+1:Nat),wi,bH hM (chg:=λg:EcG=>ec1 k c g) (bls:=λg=>aCo k c A cap g) (fls:=λg=>[elF k A cap g.R]) ⟨C+1,t,pv,n,s,R,E⟩ ⟨⟨hCc,ho.skip λi h1 h2=>hz i h1 oM,hER,hsl,hsi,hbd,hn⟩,show c-(C+1)<c-C by omega⟩ rfl ⟨rfl,rfl⟩ ⟨rfl,trivial⟩ ⟨rfl,rfl,rfl,rfl,rfl,rfl⟩ bL zC rfl⟩,λh6=>absurd (congrArg Int.ofNat hmk2) h6⟩
 have hoc:Ech (λi j=>(Q i).getD j 0) E k c c t pv:=by
  by_cases e:C=c
  ·rw[<-e] at ho ⊢;exact ho
  have e2:t=k:=by
   replace h3:¬((C:Int)<(c:Nat)/\(t:Int)<(k:Nat)):=h3
   omega
  subst e2
  exact ho.all hC
 refine aA gT mxd ?_
 show Sd _ _ _ _ _ _
 have hfr:∀j,j<k->FrC (elF k A cap R) (ecH c A cap (s j)) (fI (rwS A cap R (s j))):=λj hj=>by
  rw[show ecH c A cap (s j)=hdR A cap R (s j) from congrArg (λm=>CV.h (A (s j)) m (cap (s j))) (hER.ln j hj).symm]
  exact bRl (s j) (hsl j hj)
 refine iX tSd 0 0 (dI k λj=>fI (rwS A cap R (s j))) rfl rfl rfl (by rw[dB,dB]) (aEy hfr) ?_
 refine rT 7 0 (λj=>[fI ((uK (λi=>rwS A cap R (s i)) k).getD j cP)]) rfl rfl aVa (by rw[dB,bI]) bL (aX λ_ _=>rfl) bL λA2 c2 _ _=>⟨cm (aX λ_ _=>rfl),?_⟩
 show Sd _ _ _ _ _ _
 refine rT 9 1 (λj=>[iC ((nL t pv).getD j 0)]) rfl rfl (λj hj=>aVl j hj) (by rw[dB,bI]) bL (aX λ_ _=>rfl) bL λPA pc _ _=>⟨(λc' hc'=>by cases hc'),aA gT mxd ⟨⟨⟨A2,c2,uK (λi=>rwS A cap R (s i)) k⟩,⟨PA,pc,nL t pv⟩,n,E,t,pv⟩,⟨hoc,rfl,aBt,λi hi=>?_,λi j hi hj=>?_,hbd⟩,aM ⟨aVb,cAd,rfl⟩ rfl trivial⟩⟩
 ·show((uK (λi=>rwS A cap R (s i)) k).getD i cP).l.length=c
  rw[aAp hi];exact hER.ln i hi
 show Cr (((uK (λi=>rwS A cap R (s i)) k).getD i cP).l.getD j default) (E i j)
 rw[aAp hi];exact hER.e i j hi hj
abbrev mQ (M:Nat->List En) (i j:Nat):Rat:=Vm.get (M i) (j:Nat)
theorem Ech.cg {Q Q' E:Nat->Nat->Rat} {r c C t:Nat} {pv:Nat->Nat} (h:Ech Q E r c C t pv) (hq:∀i j,i<r->j<c->Q i j=Q' i j):Ech Q' E r c C t pv:=⟨h.tr,h.lt,h.mono,h.piv,h.z,λx=>(h.nul x).trans ⟨λhh i hi=>by rw[<-hh i hi];exact bM λj hj=>by rw[hq i j hi hj],λhh i hi=>by rw[<-hh i hi];exact bM λj hj=>by rw[hq i j hi hj]⟩⟩
structure InP (M:Nat->List En) (a b:Nat) (p:Sl Int):Prop where
 ex:∃(E:Nat->Nat->Rat) (t:Nat) (pv:Nat->Nat),p.l=nL t pv/\Ech (mQ M) E a b b t pv
abbrev bHk:FuncId:=188
theorem cKz:Ent Tryz.prog bHk:=aU func188 rfl kR
theorem cLa:Tryz.prog.funcs[bHk]? =some Tryz.f188:=func188
theorem cAe (m:MatM) {M:Nat->List En} {a b B:Nat} (h:Mr m M a b B) (hb:rbM M a B) (h1:1<=B) (hB:bd B (a-1)<=4398046511104) (ha:a<=4096) (hbn:b<=4096):Ctr Tryz.prog bHk [] [.a m.C] [] (λg:Sl Int=>⟨.t [.c (cD g),.c (iC 0)],[],InP M a b g⟩):=by
 have h':=h
 obtain⟨mr,mc,md⟩:=m
 obtain rfl:mr=(a:Nat):=h.r
 obtain rfl:mc=(b:Nat):=h.c
 have hBB:B<=4398046511104:=aJ (kT (aC (a-1))) hB
 have dn:∀i,i<a->rbL (dnL (M i) b) B:=λi hi q hq=>by
  obtain⟨j,_,rfl⟩:=cC.1 hq
  exact oU (h.ok i hi).1.1 (hb i hi) h1
 refine aW gT cKz cLa rfl rfl rfl bL aS (aA gT mxd ⟨[],bYv _ h' oM ha hbn,rfl,rfl,rfl,λ_ _=>⟨λhh=>absurd trivial hh,λ_=>aA gT mxd ⟨.seq [(0,false),(2,false),(3,false),(1,false),(4,true),(5,false),(6,false),(7,false),(8,false),(9,false),(10,false),(11,false)],by kernel_rfl,[],bYz _ h' hb h1 hBB ha hbn,rfl,rfl,rfl,λd hd=>⟨[],cKy d hd dn h1 hB ha hbn,rfl,rfl,rfl,λg hg=>⟨g.p,⟨g.E,g.t,g.pv,hg.p,?_⟩,aM ⟨rfl,rfl⟩ rfl trivial⟩⟩⟩⟩⟩)
 exact hg.o.cg λi j hi hj=>bEt hj
abbrev bHl:FuncId:=121
theorem cLb:Ent Tryz.prog bHl:=aU func121 rfl kR
theorem cLc:Tryz.prog.funcs[bHl]? =some Tryz.f121:=func121
theorem cAf (m:MatM) {M:Nat->List En} {a b B:Nat} (h:Mr m M a b B) (hb:rbM M a B) (h1:1<=B) (hB:bd B (a-1)<=4398046511104) (ha:a<=4096) (hbn:b<=4096):Ctr Tryz.prog bHl [] [.a m.C] [] (λg:Nat=>⟨.c (iC g),[],∃(E:Nat->Nat->Rat) (pv:Nat->Nat),Ech (mQ M) E a b b g pv⟩):=by
 refine aW gT cLb cLc rfl rfl rfl bL aS (aA gT mxd ⟨[],cAe m h hb h1 hB ha hbn,rfl,rfl,rfl,λg hg=>?_⟩)
 obtain⟨E,t,pv,hp,he⟩:=hg.ex
 obtain rfl:t=g.l.length:=by rw[hp];unfold nL;rw[aN,fJ]
 exact⟨g.l.length,⟨E,pv,he⟩,aM rfl rfl trivial⟩
structure FeR (m:MatM) (M:Nat->List En) (e:Int):Prop where
 bad:¬MOk m M->e=1
 shp:MOk m M->m.r≠m.c->e=4
 sq:∀n:Nat,MOk m M->m.r=(n:Nat)->m.c=(n:Nat)->(Ker M n->e=6)/\(¬Ker M n->e=0)
structure RepG where
 w:Nat->Rat
 o:Option (Sl EntM×StpM×Option Nat×Nat)
theorem aYf {l:List CV} (h:l.all fK=true):∀c∈l,fK c=true:=aV.1 h
theorem LuOk.nk {M:Nat->List En} {n:Nat} {rw cl:Nat->Nat} {Lw Up:Nat->List En} (h:LuOk M n rw cl Lw Up):¬Ker M n:=by
 obtain⟨lo,us,p,hP⟩:=h.parts
 obtain⟨xv,hx⟩:=aRu h.clt h.cinj (bwd us p n (fwd lo (λ_=>0) n) n)
 have hS:Sol M n (λ_=>0) xv:=h.sol (b:=λ_=>0) hP hx
 have h0:=(hS λ_=>0).1 λk _=>fQ λj _=>cA _
 rintro⟨x,⟨i,hi,hxi⟩,hz⟩
 exact hxi (((hS x).1 hz i hi).trans (h0 i hi).symm)
structure ColM where
 k:RatM
 pl:Prop
 dl:Decidable pl
 l:RatM
 pu:Prop
 du:Decidable pu
 u:RatM
instance:Inhabited ColM:=⟨⟨default,False,inferInstance,default,False,inferInstance,default⟩⟩
def ColM.C (c:ColM):List CV:=[.b c.k.n.p c.k.n.d,eK c.k.n.m,eK c.k.d,.b c.pl c.dl,.b c.l.n.p c.l.n.d,eK c.l.n.m,eK c.l.d,.b c.pu c.du,.b c.u.n.p c.u.n.d,eK c.u.n.m,eK c.u.d]
structure ColR (c:ColM) (k l u:Rat) (B:Nat):Prop where
 k:Rq c.k k B
 l:Rq c.l l B
 u:Rq c.u u B
structure RowM where
 s:Int
 b:RatM
 e:Sl EntM
instance:Inhabited RowM:=⟨⟨0,default,cP⟩⟩
def RowM.C (r:RowM):List CV:=[iC r.s,.b r.b.n.p r.b.n.d,eK r.b.n.m,eK r.b.d,cF r.e]
structure RowR (r:RowM) (b:Rat) (es:List En) (B:Nat):Prop where
 b:Rq r.b b B
 e:Ev r.e.l es B
def Pmt (c:ColM) (s:Int):Prop:=s=2\/(s=0/\c.pl)\/(s=1/\c.pu)\/(s=3/\¬c.pl/\¬c.pu)
open Classical in
noncomputable def dfC (c:ColM):Int:=if c.pl then 0 else if c.pu then 1 else 3
def dfR (s:Int):Int:=if s=-1 then 1 else 0
abbrev cAg:FuncId:=59
theorem cRr:Ent Tryz.prog cAg:=aU func59 rfl kR
theorem cRs:Tryz.prog.funcs[cAg]? =some Tryz.f59:=func59
theorem bRv (c:ColM) (s:Int):Ctr Tryz.prog cAg [] [.a c.C,.c (iC s)] [] (λ_:Unit=>⟨pC (Pmt c s),[],True⟩):=by
 refine aW gT cRr cRs rfl rfl rfl bL aS (aA gT mxd ⟨λh=>aA gT mxd ?_,λh=>aA gT mxd ⟨λh2=>aA gT mxd ?_,λh2=>aA gT mxd ⟨λh3=>aA gT mxd ?_,λh3=>aA gT mxd ⟨λh4=>aA gT mxd ?_,λh4=>aA gT mxd ?_⟩⟩⟩⟩)
 ·exact⟨(),trivial,aM (tt (.inl h)) rfl trivial⟩
 ·replace h:¬s=2:=h
  replace h2:s=0:=h2
  refine⟨(),trivial,aM ⟨λhh=> .inr (.inl ⟨h2,hh⟩),λhh=>?_⟩ rfl trivial⟩
  rcases hh with hh|hh|hh|hh
  ·omega
  ·exact hh.2
  ·omega
  omega
 ·replace h:¬s=2:=h
  replace h2:¬s=0:=h2
  replace h3:s=1:=h3
  refine⟨(),trivial,aM ⟨λhh=> .inr (.inr (.inl ⟨h3,hh⟩)),λhh=>?_⟩ rfl trivial⟩
  rcases hh with hh|hh|hh|hh
  ·omega
  ·omega
  ·exact hh.2
  omega
 ·replace h:¬s=2:=h
  replace h2:¬s=0:=h2
  replace h3:¬s=1:=h3
  replace h4:s=3:=h4
  refine⟨(),trivial,aM ⟨λhh=> .inr (.inr (.inr ⟨h4,hh⟩)),λhh=>?_⟩ rfl trivial⟩
  rcases hh with hh|hh|hh|hh
  ·omega
  ·omega
  ·omega
  exact hh.2
 replace h:¬s=2:=h
 replace h2:¬s=0:=h2
 replace h3:¬s=1:=h3
 replace h4:¬s=3:=h4
 exact⟨(),trivial,aM (ff λhh=>by rcases hh with hh|hh|hh|hh<;>omega) rfl trivial⟩
abbrev cAh:FuncId:=66
theorem cRt:Ent Tryz.prog cAh:=aU func66 rfl kR
theorem cRu:Tryz.prog.funcs[cAh]? =some Tryz.f66:=func66
theorem cLd (c:ColM) (s:Int):Ctr Tryz.prog cAh [] [.a c.C,.c (iC s)] [] (λ_:Unit=>⟨pC (Pmt c s),[],True⟩):=by
 refine aW gT cRt cRu rfl rfl rfl bL aS (aA gT mxd ⟨λh2=>aA gT mxd ?_,λh2=>aA gT mxd ⟨λh3=>aA gT mxd ?_,λh3=>aA gT mxd ⟨λh4=>aA gT mxd ?_,λh4=>aA gT mxd ?_⟩⟩⟩)
 ·replace h2:s=0:=h2
  refine⟨(),trivial,aM ⟨λhh=> .inr (.inl ⟨h2,hh⟩),λhh=>?_⟩ rfl trivial⟩
  rcases hh with hh|hh|hh|hh
  ·omega
  ·exact hh.2
  ·omega
  omega
 ·replace h2:¬s=0:=h2
  replace h3:s=1:=h3
  refine⟨(),trivial,aM ⟨λhh=> .inr (.inr (.inl ⟨h3,hh⟩)),λhh=>?_⟩ rfl trivial⟩
  rcases hh with hh|hh|hh|hh
  ·omega
  ·omega
  ·exact hh.2
  omega
 ·replace h2:¬s=0:=h2
  replace h3:¬s=1:=h3
  replace h4:s=3:=h4
  refine⟨(),trivial,aM ⟨λhh=> .inr (.inr (.inr ⟨h4,hh⟩)),λhh=>?_⟩ rfl trivial⟩
  rcases hh with hh|hh|hh|hh
  ·omega
  ·omega
  ·omega
  exact hh.2
 replace h2:¬s=0:=h2
 replace h3:¬s=1:=h3
 replace h4:¬s=3:=h4
 exact⟨(),trivial,aM ⟨λhh=> .inl hh,λhh=>by rcases hh with hh|hh|hh|hh<;>omega⟩ rfl trivial⟩
abbrev cAi:FuncId:=58
theorem cRv:Ent Tryz.prog cAi:=aU func58 rfl kR
theorem cRw:Tryz.prog.funcs[cAi]? =some Tryz.f58:=func58
theorem cLe (c:ColM):Ctr Tryz.prog cAi [] [.a c.C] [] (λ_:Unit=>⟨.c (iC (dfC c)),[],True⟩):=by
 refine aW gT cRv cRw rfl rfl rfl bL aS (aA gT mxd ⟨λh=>aA gT mxd ?_,λh=>aA gT mxd ⟨λh2=>aA gT mxd ?_,λh2=>aA gT mxd ?_⟩⟩)
 ·rw[show dfC c=0 from if_pos h]
  exact⟨(),trivial,aM rfl rfl trivial⟩
 ·rw[show dfC c=1 from (if_neg h).trans (if_pos h2)]
  exact⟨(),trivial,aM rfl rfl trivial⟩
 rw[show dfC c=3 from (if_neg h).trans (if_neg h2)]
 exact⟨(),trivial,aM rfl rfl trivial⟩
abbrev cAj:FuncId:=67
theorem cRx:Ent Tryz.prog cAj:=aU func67 rfl kR
theorem cRy:Tryz.prog.funcs[cAj]? =some Tryz.f67:=func67
theorem bRw (c:ColM):Ctr Tryz.prog cAj [] [.a c.C] [] (λ_:Unit=>⟨.c (iC (dfC c)),[],True⟩):=by
 refine aW gT cRx cRy rfl rfl rfl bL aS (aA gT mxd ⟨λh=>aA gT mxd ?_,λh=>aA gT mxd ⟨λh2=>aA gT mxd ?_,λh2=>aA gT mxd ?_⟩⟩)
 ·rw[show dfC c=0 from if_pos h]
  exact⟨(),trivial,aM rfl rfl trivial⟩
 ·rw[show dfC c=1 from (if_neg h).trans (if_pos h2)]
  exact⟨(),trivial,aM rfl rfl trivial⟩
 rw[show dfC c=3 from (if_neg h).trans (if_neg h2)]
 exact⟨(),trivial,aM rfl rfl trivial⟩
abbrev cAk:FuncId:=62
theorem cRz:Ent Tryz.prog cAk:=aU func62 rfl kR
theorem cSa:Tryz.prog.funcs[cAk]? =some Tryz.f62:=func62
theorem bRx (r:RowM):Ctr Tryz.prog cAk [] [.a r.C] [] (λ_:Unit=>⟨.c (iC (dfR r.s)),[],True⟩):=by
 refine aW gT cRz cSa rfl rfl rfl bL aS (aA gT mxd ⟨λh=>aA gT mxd ?_,λh=>aA gT mxd ?_⟩)
 ·rw[show dfR r.s=1 from if_pos h]
  exact⟨(),trivial,aM rfl rfl trivial⟩
 rw[show dfR r.s=0 from if_neg h]
 exact⟨(),trivial,aM rfl rfl trivial⟩
abbrev cAl:FuncId:=68
theorem cSb:Ent Tryz.prog cAl:=aU func68 rfl kR
theorem cSc:Tryz.prog.funcs[cAl]? =some Tryz.f68:=func68
theorem cLf (r:RowM):Ctr Tryz.prog cAl [] [.a r.C] [] (λ_:Unit=>⟨.c (iC (dfR r.s)),[],True⟩):=by
 refine aW gT cSb cSc rfl rfl rfl bL aS (aA gT mxd ⟨λh=>aA gT mxd ?_,λh=>aA gT mxd ?_⟩)
 ·rw[show dfR r.s=1 from if_pos h]
  exact⟨(),trivial,aM rfl rfl trivial⟩
 rw[show dfR r.s=0 from if_neg h]
 exact⟨(),trivial,aM rfl rfl trivial⟩
def Crs (c:ColM) (l u:Rat):Prop:=(c.pl/\c.pu)/\u<l
def Fxd (c:ColM) (l u:Rat):Prop:=(c.pl/\c.pu)/\l=u
theorem xH {a b:Rat}:0<cmQ a b↔b<a:=by
 unfold cmQ
 split
 ·next h=>exact⟨λh2=>by omega,λh2=>absurd h2 (Rat.not_lt.2 (Rat.le_of_lt h))⟩
 split
 ·next h=>exact⟨λ_=>h,λ_=>by omega⟩
 next h=>exact⟨λh2=>by omega,λh2=>absurd h2 h⟩
theorem bHm {a b:Rat}:cmQ a b=0↔a=b:=by
 unfold cmQ
 split
 ·next h=>exact⟨λh2=>by omega,λh2=>absurd (h2▸h) tZ⟩
 next h1=>
 split
 ·next h=>exact⟨λh2=>by omega,λh2=>absurd (h2▸h) tZ⟩
 next h=>exact⟨λ_=>Rat.le_antisymm (Rat.not_lt.1 h) (Rat.not_lt.1 h1),λ_=>rfl⟩
abbrev cAm:FuncId:=124
theorem cSd:Ent Tryz.prog cAm:=aU func124 rfl kR
theorem cSe:Tryz.prog.funcs[cAm]? =some Tryz.f124:=func124
theorem cLg (c:ColM) {k l u:Rat} {B:Nat} (h:ColR c k l u B) (hB:B<=4398046511104):Ctr Tryz.prog cAm [] [.a c.C] [] (λ_:Unit=>⟨pC (Crs c l u),[],True⟩):=by
 refine aW gT cSd cSe rfl rfl rfl bL aS (aA gT mxd ⟨λh1=>⟨[],vO c.l c.u (h.l.le) (h.u.le),rfl,rfl,rfl,λ_ _=>?_⟩,λh1=>?_⟩)
 ·exact⟨(),trivial,aM ⟨λhh=>⟨h1,xH.1 hh⟩,λhh=>xH.2 hh.2⟩ rfl trivial⟩
 exact⟨(),trivial,aM (ff λhh=>h1 hh.1) rfl trivial⟩
abbrev cAn:FuncId:=96
theorem cSf:Ent Tryz.prog cAn:=aU func96 rfl kR
theorem cSg:Tryz.prog.funcs[cAn]? =some Tryz.f96:=func96
theorem cLh (c:ColM) {k l u:Rat} {B:Nat} (h:ColR c k l u B) (hB:B<=4398046511104):Ctr Tryz.prog cAn [] [.a c.C] [] (λ_:Unit=>⟨pC (Fxd c l u),[],True⟩):=by
 refine aW gT cSf cSg rfl rfl rfl bL aS (aA gT mxd ⟨λh1=>⟨[],vO c.l c.u (h.l.le) (h.u.le),rfl,rfl,rfl,λ_ _=>?_⟩,λh1=>?_⟩)
 ·exact⟨(),trivial,aM ⟨λhh=>⟨h1,bHm.1 hh⟩,λhh=>bHm.2 hh.2⟩ rfl trivial⟩
 exact⟨(),trivial,aM (ff λhh=>h1 hh.1) rfl trivial⟩
def Sns (s:Int):Prop:=s=-1\/s=0\/s=1
abbrev cAo:FuncId:=125
theorem cSh:Ent Tryz.prog cAo:=aU func125 rfl kR
theorem cSi:Tryz.prog.funcs[cAo]? =some Tryz.f125:=func125
theorem cLi (s:Int):Ctr Tryz.prog cAo [] [.c (iC s)] [] (λ_:Unit=>⟨pC (Sns s),[],True⟩):=by
 refine aW gT cSh cSi rfl rfl rfl bL aS (aA gT mxd ⟨(),trivial,aM ?_ rfl trivial⟩)
 exact or_assoc
def rZ (x:Sl ColM):CV:=x.R 11 ColM.C default
def aGe (x:Sl RowM):CV:=x.R 5 RowM.C default
structure ProgM where
 c:Sl ColM
 r:Sl RowM
def ProgM.C (p:ProgM):List CV:=[rZ p.c,aGe p.r]
structure PrQ where
 k:Nat->Rat
 l:Nat->Rat
 u:Nat->Rat
 b:Nat->Rat
 M:Nat->List En
structure PrR (p:ProgM) (q:PrQ) (B:Nat):Prop where
 c:∀j,j<p.c.l.length->ColR (p.c.l.getD j default) (q.k j) (q.l j) (q.u j) B
 r:∀i,i<p.r.l.length->RowR (p.r.l.getD i default) (q.b i) (q.M i) B
abbrev PrM (p:ProgM) (q:PrQ) (i:Nat):Prop:=Sns (p.r.l.getD i default).s/\VOk (q.M i) (p.c.l.length:Nat)
structure PrE (p:ProgM) (q:PrQ) (e:Int):Prop where
 big:16384<p.c.l.length\/16384<p.r.l.length->e=8
 crs:¬(16384<p.c.l.length\/16384<p.r.l.length)->(∃j,j<p.c.l.length/\Crs (p.c.l.getD j default) (q.l j) (q.u j))->e=3
 bad:¬(16384<p.c.l.length\/16384<p.r.l.length)->(∀j,j<p.c.l.length->¬Crs (p.c.l.getD j default) (q.l j) (q.u j))->(∃i,i<p.r.l.length/\¬PrM p q i)->e=1
 ok:¬(16384<p.c.l.length\/16384<p.r.l.length)->(∀j,j<p.c.l.length->¬Crs (p.c.l.getD j default) (q.l j) (q.u j))->(∀i,i<p.r.l.length->PrM p q i)->e=0
abbrev cAp (p:ProgM) (k:Nat):List (Nat×DV):=[(20,.c (iC k)),(1,.c (.p 0 0)),(18,.c (rZ p.c)),(19,.c (iC (p.c.l.length:Nat)))]
abbrev cAq (p:ProgM) (k:Nat):List (Nat×DV):=[(30,.c (iC k)),(1,.c (.p 0 0)),(28,.c (aGe p.r)),(29,.c (iC (p.r.l.length:Nat)))]
abbrev prB (p:ProgM):BL:=[(42,0,p.C)]
theorem aBw {p:ProgM}:scB 1 (prB p):=aB rfl aY
abbrev aVp:FuncId:=52
theorem cLj:Ent Tryz.prog aVp:=aU func52 rfl kR
theorem cLk:Tryz.prog.funcs[aVp]? =some Tryz.f52:=func52
theorem cAr (p:ProgM) {q:PrQ} {B:Nat} (h:PrR p q B) (hB:B<=4398046511104) (hc:p.c.l.length<=4611686018427387904) (hr:p.r.l.length<=4611686018427387904):Ctr Tryz.prog aVp [] [.a p.C] [] (λe:Int=>⟨.c (iC e),[],PrE p q e⟩):=by
 refine aW gT cLj cLk rfl rfl rfl bL aS (aA gT mxd ⟨λh2=>aA gT mxd ?_,λh2=>aA gT mxd ?_⟩)
 ·replace h2:(16384:Int)<(p.c.l.length:Nat)\/(16384:Int)<(p.r.l.length:Nat):=h2
  have h2':16384<p.c.l.length\/16384<p.r.l.length:=by omega
  exact⟨8,⟨λ_=>rfl,λhh=>absurd h2' hh,λhh=>absurd h2' hh,λhh=>absurd h2' hh⟩,aM rfl rfl trivial⟩
 replace h2:¬((16384:Int)<(p.c.l.length:Nat)\/(16384:Int)<(p.r.l.length:Nat)):=h2
 have h2':¬(16384<p.c.l.length\/16384<p.r.l.length):=by omega
 show Sd _ _ _ _ _ _
 refine cG (λ_=>true) (cAp p) (λ_=>prB p) (λ_=>[]) (λk=>k<=p.c.l.length/\∀j,j<k->¬Crs (p.c.l.getD j default) (q.l j) (q.u j)) (λk=>p.c.l.length-k) λhM=>⟨bH hM (chg:=cAp p) (bls:=λ_=>prB p) (fls:=λ_=>[]) 0 ⟨aC _,λi hi=>absurd hi (aF _)⟩ rfl rfl trivial ⟨rfl,rfl,rfl,rfl⟩ bL aBw rfl,λk ⟨hk,hv⟩=>aA gT mxd ⟨λh3=>aA gT mxd ?_,λh3=>aA gT mxd ?_⟩⟩
 ·replace h3:(k:Int)<(p.c.l.length:Nat):=h3
  have hkn:k<p.c.l.length:=by omega
  refine⟨k,⟨rfl,hkn⟩,[],cLg (p.c.l.getD k default) (h.c k hkn) hB,rfl,rfl,rfl,λ_ _=>⟨λh4=>aA gT mxd ?_,λh4=>aA gT mxd ?_⟩⟩
  ·exact⟨3,⟨λhh=>absurd hh h2',λ_ _=>rfl,λ_ hh=>absurd h4 (hh k hkn),λ_ hh=>absurd h4 (hh k hkn)⟩,aM rfl rfl trivial⟩
  refine⟨(k+1:Nat),wi,bH hM (chg:=cAp p) (bls:=λ_=>prB p) (fls:=λ_=>[]) (k+1) ⟨⟨hkn,λi hi=>?_⟩,show p.c.l.length-(k+1)<p.c.l.length-k by omega⟩ rfl rfl trivial ⟨rfl,rfl,rfl,rfl⟩ bL aBw rfl⟩
  rcases cN (cX hi) with h5|rfl
  ·exact hv i h5
  exact h4
 replace h3:¬(k:Int)<(p.c.l.length:Nat):=h3
 obtain rfl:k=p.c.l.length:=by omega
 refine aA gT mxd ?_
 show Sd _ _ _ _ _ _
 refine cG (λ_=>true) (cAq p) (λ_=>prB p) (λ_=>[]) (λk=>k<=p.r.l.length/\∀i,i<k->PrM p q i) (λk=>p.r.l.length-k) λhM=>⟨bH hM (chg:=cAq p) (bls:=λ_=>prB p) (fls:=λ_=>[]) 0 ⟨aC _,λi hi=>absurd hi (aF _)⟩ rfl rfl trivial ⟨rfl,rfl,rfl,rfl⟩ bL aBw rfl,λk ⟨hk,hw⟩=>aA gT mxd ⟨λh3=>aA gT mxd ?_,λh3=>aA gT mxd ?_⟩⟩
 ·replace h3:(k:Int)<(p.r.l.length:Nat):=h3
  have hkn:k<p.r.l.length:=by omega
  refine⟨k,⟨rfl,hkn⟩,[],cLi (p.r.l.getD k default).s,rfl,rfl,rfl,λ_ _=>⟨λh4=>?_,λh4=>?_⟩⟩
  ·have hb:¬PrM p q k:=λhh=>h4 hh.1
   exact⟨1,⟨λhh=>absurd hh h2',λ_ ⟨j,hj,hh⟩=>absurd hh (hv j hj),λ_ _ _=>rfl,λ_ _ hh=>absurd (hh k hkn) hb⟩,aM rfl rfl trivial⟩
  refine⟨[],aNi (p.r.l.getD k default).e (p.c.l.length:Nat) ((h.r k hkn).e) hB,rfl,rfl,rfl,λ_ _=>⟨λh5=>aA gT mxd ?_,λh5=>aA gT mxd ?_⟩⟩
  ·have hb:¬PrM p q k:=λhh=>h5 hh.2
   exact⟨1,⟨λhh=>absurd hh h2',λ_ ⟨j,hj,hh⟩=>absurd hh (hv j hj),λ_ _ _=>rfl,λ_ _ hh=>absurd (hh k hkn) hb⟩,aM rfl rfl trivial⟩
  refine⟨(k+1:Nat),wi,bH hM (chg:=cAq p) (bls:=λ_=>prB p) (fls:=λ_=>[]) (k+1) ⟨⟨hkn,λi hi=>?_⟩,show p.r.l.length-(k+1)<p.r.l.length-k by omega⟩ rfl rfl trivial ⟨rfl,rfl,rfl,rfl⟩ bL aBw rfl⟩
  rcases cN (cX hi) with h6|rfl
  ·exact hw i h6
  exact⟨eE.1 h4,eE.1 h5⟩
 replace h3:¬(k:Int)<(p.r.l.length:Nat):=h3
 obtain rfl:k=p.r.l.length:=by omega
 exact aA gT mxd ⟨0,⟨λhh=>absurd hh h2',λ_ ⟨j,hj,hh⟩=>absurd hh (hv j hj),λ_ _ ⟨i,hi,hh⟩=>absurd (hw i hi) hh,λ_ _ _=>rfl⟩,aM rfl rfl trivial⟩
abbrev lQ (qs:List Rat) (j:Nat):Rat:=qs.getD j 0
theorem aRw {x:Nat->Rat} {B Bx:Nat}:∀{es:List En},rbE es B->(∀e∈es,rb (x e.1.toNat) Bx)->rb (dtl es x) (1+es.length*(B+Bx+1))
 |[],_,_=>by
  show rb 0 _
  exact cJn.le oM
 |e::es,hb,hx=>by
  have h1:=aRw (es:=es) (λe' he'=>hb e' (.tail _ he')) λe' he'=>hx e' (.tail _ he')
  have h2:=aAm (gY (hb e (.head _)) (hx e (.head _))) h1
  show rb (e.2*x e.1.toNat+dtl es x) _
  exact h2.le (by rw[eF,dU];omega)
abbrev acB (r:RowM) (s:RatM):BL:=[(67,0,r.C),(62,0,vI),(62,0,s.C)]
theorem aRx {r:RowM} {s:RatM}:scB 3 (acB r s):=aB rfl (aB rfl (aB rfl aY))
abbrev acG (r:RowM) (x:Sl RatM) (i:Nat):List (Nat×DV):=[(12,.c (iC i)),(10,.c (cF r.e)),(11,.c (iC (r.e.l.length:Nat))),(5,.c (.p 2 0)),(4,.c (.p 1 0)),(1,.c (fI x))]
structure RwX (r:RowM) (x:Sl RatM) (b:Rat) (es:List En) (qs:List Rat) (B Bx:Nat):Prop where
 r:RowR r b es B
 x:Rl x.l qs
 q:rbL qs Bx
 v:VOk es (qs.length:Nat)
 e:rbE es B
 h:1+(es.length+1)*(B+Bx+1)<=4398046511104
theorem RwX.at {r:RowM} {x:Sl RatM} {b:Rat} {es:List En} {qs:List Rat} {B Bx i:Nat} (h:RwX r x b es qs B Bx) (hi:i<es.length):∃j:Nat,(r.e.l.getD i default).ix=(j:Nat)/\j<qs.length/\Rq (r.e.l.getD i default).v (es.getD i default).2 B/\Cr (x.l.getD j default) (lQ qs j)/\rb (lQ qs j) Bx/\rb (es.getD i default).2 B/\(es.getD i default).1.toNat=j:=by
 have h1:=h.r.e.e i hi
 have h2:=h.v.2 _ (fO hi)
 refine⟨(es.getD i default).1.toNat,by rw[h1.1];omega,by omega,h1.2,h.x.e _ oM,h.q _ (gD0 oM),h.e _ (fO hi),rfl⟩
theorem RwX.sum {r:RowM} {x:Sl RatM} {b:Rat} {es:List En} {qs:List Rat} {B Bx i:Nat} (h:RwX r x b es qs B Bx) (hi:i<=es.length):rb (dtl (es.take i) (lQ qs)) (1+i*(B+Bx+1)):=by
 have:=aRw (es:=es.take i) (x:=lQ qs) (B:=B) (Bx:=Bx) (λe he=>h.e e (cV he)) λe he=>h.q _ (gD0 (by have:=h.v.2 e (cV he);omega))
 rwa [bE,eH hi] at this
theorem aNw {es:List En} {i:Nat} {x:Nat->Rat} (hi:i<es.length):dtl (es.take (i+1)) x=dtl (es.take i) x+(es.getD i default).2*x (es.getD i default).1.toNat:=by
 rw[dF,aG hi]
 show dtl (es.take i++[es[i]]) x=_
 rw[uL,gd hi]
abbrev cAs:FuncId:=230
theorem cSj:Ent Tryz.prog cAs:=aU func230 rfl kR
theorem cSk:Tryz.prog.funcs[cAs]? =some Tryz.f230:=func230
theorem cLl (r:RowM) (x:Sl RatM) {b:Rat} {es:List En} {qs:List Rat} {B Bx:Nat} (h:RwX r x b es qs B Bx):Ctr Tryz.prog cAs [] [.a r.C,.c (fI x)] [] (rV (dtl es (lQ qs))):=by
 have hl:=h.r.e.ln
 have hx:=h.x.ln
 have hh:=h.h
 have hBB:B+Bx+1<=4398046511104:=by rw[dU] at hh;omega
 have hnl:es.length<=4398046511104:=by
  have:=fB (es.length+1) (show 0<B+Bx+1 by omega)
  omega
 refine aW gT cSj cSk rfl rfl rfl bL aS (aA gT mxd ⟨[],yG (z:=0) dC,rfl,rfl,rfl,λz hz=>?_⟩)
 show Sd _ _ _ _ _ _
 refine cG (λ_=>true) (λg:Nat×RatM=>acG r x g.1) (λg=>acB r g.2) (λ_=>[]) (λg=>g.1<=es.length/\Cr g.2 (dtl (es.take g.1) (lQ qs))) (λg=>es.length-g.1) λhM=>⟨bH hM (chg:=λg:Nat×RatM=>acG r x g.1) (bls:=λg=>acB r g.2) (fls:=λ_=>[]) (0,z) ⟨aC _,hz⟩ rfl ⟨rfl,rfl,rfl⟩ trivial ⟨rfl,rfl,rfl,rfl,rfl,rfl⟩ bL aRx rfl,λ⟨i,s⟩ ⟨hi,hs⟩=>aA gT mxd ⟨λh3=>aA gT mxd ?_,λh3=>aA gT mxd ?_⟩⟩
 all_goals
  replace hi:i<=es.length:=hi
  replace hs:Cr s (dtl (es.take i) (lQ qs)):=hs
 ·replace h3:(i:Int)<(r.e.l.length:Nat):=h3
  have hil:i<es.length:=by omega
  obtain⟨j,e1,e2,e3,e4,e5,e6,e7⟩:=h.at hil
  have hsb:=h.sum hi
  have hle:i*(B+Bx+1)<=(es.length+1)*(B+Bx+1):=aZ _ oM
  have hdn:=aNw (x:=lQ qs) hil
  rw[e7] at hdn
  refine⟨i,⟨rfl,show i<r.e.l.length by omega⟩,j,⟨e1,by show j<x.l.length;omega⟩,[],kH (x.l.getD j default) (e4.rq (e5.le oM)),rfl,rfl,rfl,λ_ _=>⟨λh4=>aA gT mxd ?_,λh4=>aA gT mxd ?_⟩⟩
  ·refine⟨.seq [(0,false),(1,false),(2,false),(3,false),(4,false),(5,false),(6,false),(7,false),(8,false),(9,true),(10,true)],by kernel_rfl,j,⟨e1,by show j<x.l.length;omega⟩,[],xC (r.e.l.getD i default).v (x.l.getD j default) (e3.le oM) (e4.rq (e5.le oM)),rfl,rfl,rfl,λm hm=>⟨[],aJs s m (hs.rq (hsb.le oM)) (Cr.rq hm ((gY e6 e5).le oM)),rfl,rfl,rfl,λg hg=>?_⟩⟩
   exact⟨(i+1:Nat),wi,bH hM (chg:=λg:Nat×RatM=>acG r x g.1) (bls:=λg=>acB r g.2) (fls:=λ_=>[]) (i+1,g) ⟨⟨hil,by rw[hdn];exact hg⟩,show es.length-(i+1)<es.length-i by omega⟩ rfl ⟨rfl,rfl,rfl⟩ trivial ⟨rfl,rfl,rfl,rfl,rfl,rfl⟩ bL aRx rfl⟩
  replace h4:¬sgn (lQ qs j).num≠0:=h4
  have h0:lQ qs j=0:=dH.1 (fS.1 (eE.1 h4))
  rw[h0,cA,bP] at hdn
  exact⟨(i+1:Nat),wi,bH hM (chg:=λg:Nat×RatM=>acG r x g.1) (bls:=λg=>acB r g.2) (fls:=λ_=>[]) (i+1,s) ⟨⟨hil,by rw[hdn];exact hs⟩,show es.length-(i+1)<es.length-i by omega⟩ rfl ⟨rfl,rfl,rfl⟩ trivial ⟨rfl,rfl,rfl,rfl,rfl,rfl⟩ bL aRx rfl⟩
 replace h3:¬(i:Int)<(r.e.l.length:Nat):=h3
 obtain rfl:i=es.length:=by omega
 rw[cW] at hs
 exact aA gT mxd ⟨s,hs,aM rfl rfl trivial⟩
def cAt (c:ColM) (l u v:Rat):Prop:=(c.pl/\v<l)\/(c.pu/\u<v)
theorem aFg {a b:Rat}:cmQ a b<0↔a<b:=by
 unfold cmQ
 split
 ·next h=>exact⟨λ_=>h,λ_=>by omega⟩
 next h1=>
 split
 ·next h=>exact⟨λh2=>by omega,λh2=>absurd h2 h1⟩
 next h=>exact⟨λh2=>by omega,λh2=>absurd h2 h1⟩
abbrev bHn:FuncId:=203
theorem cLm:Ent Tryz.prog bHn:=aU func203 rfl kR
theorem cLn:Tryz.prog.funcs[bHn]? =some Tryz.f203:=func203
theorem cAu (c:ColM) (v:RatM) {k l u q:Rat} {B:Nat} (h:ColR c k l u B) (hB:B<=4398046511104) (hv:Rq v q 4398046511104):Ctr Tryz.prog bHn [] [.a c.C,.a v.C] [] (λ_:Unit=>⟨pC (cAt c l u q),[],True⟩):=by
 refine aW gT cLm cLn rfl rfl rfl bL aS (aA gT mxd ⟨λh1=>⟨[],vO v c.l hv (h.l.le),rfl,rfl,rfl,λ_ _=>⟨λh2=>?_,λh2=>⟨λh3=>⟨[],vO v c.u hv (h.u.le),rfl,rfl,rfl,λ_ _=>?_⟩,λh3=>?_⟩⟩⟩,λh1=>⟨λh3=>⟨[],vO v c.u hv (h.u.le),rfl,rfl,rfl,λ_ _=>?_⟩,λh3=>?_⟩⟩)
 ·exact⟨(),trivial,aM (tt (.inl ⟨h1,aFg.1 h2⟩)) rfl trivial⟩
 ·exact⟨(),trivial,aM ⟨λhh=> .inr ⟨h3,xH.1 hh⟩,λhh=>hh.elim (λhh=>absurd (aFg.2 hh.2) h2) λhh=>xH.2 hh.2⟩ rfl trivial⟩
 ·exact⟨(),trivial,aM (ff λhh=>hh.elim (λhh=>h2 (aFg.2 hh.2)) λhh=>h3 hh.1) rfl trivial⟩
 ·exact⟨(),trivial,aM ⟨λhh=> .inr ⟨h3,xH.1 hh⟩,λhh=>hh.elim (λhh=>absurd hh.1 h1) λhh=>xH.2 hh.2⟩ rfl trivial⟩
 exact⟨(),trivial,aM (ff λhh=>hh.elim (λhh=>h1 hh.1) λhh=>h3 hh.1) rfl trivial⟩
def Brk (s:Int) (a b:Rat):Prop:=(b<a/\s≠1)\/(a<b/\s≠-1)
abbrev bHo:FuncId:=204
theorem cLo:Ent Tryz.prog bHo:=aU func204 rfl kR
theorem cLp:Tryz.prog.funcs[bHo]? =some Tryz.f204:=func204
theorem cAv (r:RowM) (x:Sl RatM) {b:Rat} {es:List En} {qs:List Rat} {B Bx:Nat} (h:RwX r x b es qs B Bx) (hB:B<=4398046511104):Ctr Tryz.prog bHo [] [.a r.C,.c (fI x)] [] (λ_:Unit=>⟨pC (Brk r.s (dtl es (lQ qs)) b),[],True⟩):=by
 have hs:=h.sum (aI es.length)
 rw[cW] at hs
 have hh:=h.h
 have hle:es.length*(B+Bx+1)<=(es.length+1)*(B+Bx+1):=aZ _ oM
 refine aW gT cLo cLp rfl rfl rfl bL aS (aA gT mxd ⟨.seq [(0,false),(1,false),(3,false),(4,false),(2,false),(5,true),(6,false)],by kernel_rfl,[],cLl r x h,rfl,rfl,rfl,λg hg=>⟨[],vO g r.b (Cr.rq hg (hs.le oM)) (h.r.b.le),rfl,rfl,rfl,λ_ _=>?_⟩⟩)
 exact⟨(),trivial,aM ⟨λhh=>hh.elim (λhh=> .inl ⟨xH.1 hh.1,hh.2⟩) λhh=> .inr ⟨aFg.1 hh.1,hh.2⟩,λhh=>hh.elim (λhh=> .inl ⟨xH.2 hh.1,hh.2⟩) λhh=> .inr ⟨aFg.2 hh.1,hh.2⟩⟩ rfl trivial⟩
structure PrV (p:ProgM) (q:PrQ) (B:Nat):Prop where
 rd:PrR p q B
 h1:1<=B
 hB:B<=4398046511104
 c:p.c.l.length<=4096
 r:p.r.l.length<=4096
 x:∀j,j<p.c.l.length->¬Crs (p.c.l.getD j default) (q.l j) (q.u j)
 v:∀i,i<p.r.l.length->PrM p q i
 e:∀i,i<p.r.l.length->rbE (q.M i) B
theorem PrV.ok {p:ProgM} {q:PrQ} {B:Nat} {e:Int} (h:PrV p q B) (he:PrE p q e):e=0:=he.ok (by have:=h.c;have:=h.r;omega) h.x h.v
theorem PrV.len {p:ProgM} {q:PrQ} {B:Nat} (h:PrV p q B) {i:Nat} (hi:i<p.r.l.length):(q.M i).length<=p.c.l.length:=kW (h.v i hi).2
theorem aKo (p:ProgM) {q:PrQ} {B:Nat} (h:PrV p q B):Ctr Tryz.prog aVp [] [.a p.C] [] (λ_:Unit=>⟨.c (iC 0),[],True⟩):=(cAr p h.rd h.hB (by have:=h.c;omega) (by have:=h.r;omega)).re λe he=>⟨(),trivial,by rw[h.ok he],rfl,rfl⟩
abbrev bHp:FuncId:=155
theorem cLq:Ent Tryz.prog bHp:=aU func155 rfl kR
theorem cLr:Tryz.prog.funcs[bHp]? =some Tryz.f155:=func155
theorem aRy (p:ProgM) (x:Sl RatM) {q:PrQ} {B:Nat} (h:PrV p q B) (n:Int) (hn:((x.l.length:Nat):Int)=n):Ctr Tryz.prog bHp [] [.a p.C,.c (fI x),.c (iC n)] [] (λ_:Unit=>⟨.c (iC 0),[],True⟩):=by
 refine aW gT cLq cLr rfl rfl rfl bL aS (aA gT mxd ⟨[],aKo p h,rfl,rfl,rfl,λ_ _=>⟨λhh=>absurd rfl hh,λ_=>aA gT mxd ⟨λhh=>absurd hn hh,λ_=>aA gT mxd ⟨(),trivial,aM rfl rfl trivial⟩⟩⟩⟩)
def fR (P:Nat->Prop) [DecidablePred P]:Nat->List Int
 |0=>[]
 |k+1=>if P k then fR P k++[(k:Int)] else fR P k
theorem sA {P:Nat->Prop} [DecidablePred P]:∀k,(fR P k).length<=k
 |0=>aI _
 |k+1=>by
  have:=sA (P:=P) k
  unfold fR
  split
  ·rw[aE];show _+1<=_;omega
  omega
theorem aFh {P:Nat->Prop} [DecidablePred P]:∀{k},fR P k=[]↔∀i,i<k->¬P i
 |0=>⟨λ_ i hi=>absurd hi (aF _),λ_=>rfl⟩
 |k+1=>by
  have ih:=aFh (P:=P) (k:=k)
  unfold fR
  split
  ·next h=>exact⟨λhh=>by simp at hh,λhh=>absurd h (hh k (bF k))⟩
  next h=>exact ih.trans ⟨λhh i hi=>(cN (cX hi)).elim (hh i) λe=>e▸h,λhh i hi=>hh i (eO hi)⟩
theorem xI {P:Nat->Prop} [DecidablePred P] {k:Nat} (h:P k):fR P (k+1)=fR P k++[(k:Int)]:=if_pos h
theorem tF {P:Nat->Prop} [DecidablePred P] {k:Nat} (h:¬P k):fR P (k+1)=fR P k:=if_neg h
theorem aHc {P:Nat->Prop} [DecidablePred P] {k:Nat} (h:P k):(fR P k).length+1=(fR P (k+1)).length:=by rw[xI h,aE];rfl
theorem aNx {P:Nat->Prop} [DecidablePred P] {k:Nat} (h:P k):(fR P k).map iC++[iC (k:Nat)]=(fR P (k+1)).map iC:=by rw[xI h,bG];rfl
abbrev vCo (p:ProgM) (q:PrQ) (qs:List Rat) (j:Nat):Prop:=cAt (p.c.l.getD j default) (q.l j) (q.u j) (lQ qs j)
abbrev vRo (p:ProgM) (q:PrQ) (qs:List Rat) (i:Nat):Prop:=Brk (p.r.l.getD i default).s (dtl (q.M i) (lQ qs)) (q.b i)
structure PrX (p:ProgM) (q:PrQ) (x:Sl RatM) (qs:List Rat) (B Bx:Nat):Prop where
 v:PrV p q B
 x:Rl x.l qs
 l:qs.length=p.c.l.length
 q:rbL qs Bx
 b:(p.c.l.length+1)*(B+Bx+1)<4398046511104
theorem PrX.row {p:ProgM} {q:PrQ} {x:Sl RatM} {qs:List Rat} {B Bx i:Nat} (h:PrX p q x qs B Bx) (hi:i<p.r.l.length):RwX (p.r.l.getD i default) x (q.b i) (q.M i) qs B Bx:=⟨h.v.rd.r i hi,h.x,h.q,by rw[h.l];exact(h.v.v i hi).2,h.v.e i hi,by
 have h1:=h.v.len hi
 have h2:((q.M i).length+1)*(B+Bx+1)<=(p.c.l.length+1)*(B+Bx+1):=aZ _ oM
 have:=h.b
 omega⟩
theorem PrX.le {p:ProgM} {q:PrQ} {x:Sl RatM} {qs:List Rat} {B Bx:Nat} (h:PrX p q x qs B Bx):Bx<=4398046511104:=by
 have:=h.b
 rw[dU] at this
 omega
open Classical in
noncomputable abbrev vG1 (p:ProgM) (q:PrQ) (x:Sl RatM) (qs:List Rat) (k:Nat):List (Nat×DV):=[(24,.c (iC k)),(4,.c (.s 1 (fR (vCo p q qs) k).length)),(5,.c (.v (.slice none 0 0))),(2,.c (.p 0 0)),(1,.c (fI x)),(22,.c (rZ p.c)),(23,.c (iC (p.c.l.length:Nat)))]
open Classical in
noncomputable abbrev vB1 (p:ProgM) (q:PrQ) (qs:List Rat) (k:Nat):BL:=[(42,0,p.C),(3,1,(fR (vCo p q qs) k).map iC)]
theorem aRz {p:ProgM} {q:PrQ} {qs:List Rat} {k:Nat}:scB 2 (vB1 p q qs k):=aB rfl (aB (bU (bK _)) aY)
theorem aAu {L:List Int} {i:Nat} {c:CV} (h:c∈L.map iC):kU i c=false:=cY (bK L c h)
open Classical in
noncomputable abbrev vG2 (p:ProgM) (q:PrQ) (x:Sl RatM) (qs:List Rat) (k:Nat):List (Nat×DV):=[(43,.c (iC k)),(5,.c (.s 2 (fR (vRo p q qs) k).length)),(4,.c (.s 1 (fR (vCo p q qs) p.c.l.length).length)),(1,.c (fI x)),(41,.c (aGe p.r)),(42,.c (iC (p.r.l.length:Nat)))]
open Classical in
noncomputable abbrev vB2 (p:ProgM) (q:PrQ) (qs:List Rat) (k:Nat):BL:=[(42,0,p.C),(3,1,(fR (vCo p q qs) p.c.l.length).map iC),(3,1,(fR (vRo p q qs) k).map iC)]
theorem aSa {p:ProgM} {q:PrQ} {qs:List Rat} {k:Nat}:scB 3 (vB2 p q qs k):=aB rfl (aB (bU (bK _)) (aB (bU (bK _)) aY))
abbrev cAw:FuncId:=154
theorem cSl:Ent Tryz.prog cAw:=aU func154 rfl kR
theorem cSm:Tryz.prog.funcs[cAw]? =some Tryz.f154:=func154
open Classical in
theorem cAx (p:ProgM) (x:Sl RatM) {q:PrQ} {qs:List Rat} {B Bx:Nat} (h:PrX p q x qs B Bx):Ctr Tryz.prog cAw [] [.a p.C,.c (fI x)] [] (λg:Sl Int×Sl Int=>⟨.t [.c (cD g.1),.c (cD g.2),.c (iC 0)],[],g.1.l=fR (vCo p q qs) p.c.l.length/\g.2.l=fR (vRo p q qs) p.r.l.length⟩):=by
 have hxl:x.l.length=p.c.l.length:=h.x.ln.trans h.l
 have hc:=h.v.c
 have hr:=h.v.r
 refine aW gT cSl cSm rfl rfl rfl bL aS (aA gT mxd ⟨[],aRy p x h.v _ (congrArg Int.ofNat hxl),rfl,rfl,rfl,λ_ _=>⟨λhh=>absurd rfl hh,λ_=>aA gT mxd ?_⟩⟩)
 show Sd _ _ _ _ _ _
 refine aNd tSd 4 3 1 rfl bL rfl ?_
 refine cG (λ_=>true) (vG1 p q x qs) (vB1 p q qs) (λ_=>[]) (λk=>k<=p.c.l.length) (λk=>p.c.l.length-k) λhM=>⟨bH hM (chg:=vG1 p q x qs) (bls:=vB1 p q qs) (fls:=λ_=>[]) 0 (aC _) rfl ⟨rfl,rfl⟩ trivial ⟨rfl,rfl,rfl,rfl,rfl,rfl,rfl⟩ bL aRz rfl,λk hk=>aA gT mxd ⟨λh3=>aA gT mxd ?_,λh3=>aA gT mxd ?_⟩⟩
 ·replace hk:k<=p.c.l.length:=hk
  replace h3:(k:Int)<(p.c.l.length:Nat):=h3
  have hkn:k<p.c.l.length:=by omega
  have hkx:k<x.l.length:=by omega
  have hsl:=sA (P:=vCo p q qs) k
  refine⟨k,⟨rfl,hkn⟩,.seq (sq 5 (List.range 6)),by kernel_rfl,k,⟨rfl,hkx⟩,[],cAu (p.c.l.getD k default) (x.l.getD k default) (h.v.rd.c k hkn) h.v.hB ((h.x.rq h.q (k:=k) (by rw[h.l];exact hkn)).le h.le),rfl,rfl,rfl,λ_ _=>⟨λh4=>aA gT mxd ?_,λh4=>aA gT mxd ?_⟩⟩
  ·exact⟨⟨rfl,by show(fR (vCo p q qs) k).length*1=((fR (vCo p q qs) k).map iC).length;rw[aN,bI],by show _+1<=maxLen;simp only[maxLen];omega,by show(_+1)*8<=_;omega,λc hc=>(aQ.1 hc).elim aAu λhc=>by rw[aH.1 hc];rfl⟩,(λc hc=>by rw[aH.1 hc];rfl),(k+1:Nat),wi,bH hM (chg:=vG1 p q x qs) (bls:=vB1 p q qs) (fls:=λ_=>[]) (k+1) ⟨hkn,show p.c.l.length-(k+1)<p.c.l.length-k by omega⟩ rfl ⟨rfl,congrArg (λl:List CV=>((3,1,l):TypeId×Nat×List CV)) (aNx h4)⟩ trivial ⟨rfl,aHc h4,rfl,rfl,rfl,rfl,rfl⟩ bL aRz rfl⟩
  exact⟨(k+1:Nat),wi,bH hM (chg:=vG1 p q x qs) (bls:=vB1 p q qs) (fls:=λ_=>[]) (k+1) ⟨hkn,show p.c.l.length-(k+1)<p.c.l.length-k by omega⟩ rfl ⟨rfl,congrArg (λl:List Int=>((3,1,l.map iC):TypeId×Nat×List CV)) (tF h4).symm⟩ trivial ⟨rfl,congrArg List.length (tF h4).symm,rfl,rfl,rfl,rfl,rfl⟩ bL aRz rfl⟩
 replace hk:k<=p.c.l.length:=hk
 replace h3:¬(k:Int)<(p.c.l.length:Nat):=h3
 obtain rfl:k=p.c.l.length:=by omega
 refine aA gT mxd ?_
 show Sd _ _ _ _ _ _
 refine aNd tSd 5 3 1 rfl bL rfl ?_
 refine cG (λ_=>true) (vG2 p q x qs) (vB2 p q qs) (λ_=>[]) (λk=>k<=p.r.l.length) (λk=>p.r.l.length-k) λhM=>⟨bH hM (chg:=vG2 p q x qs) (bls:=vB2 p q qs) (fls:=λ_=>[]) 0 (aC _) rfl ⟨rfl,rfl,rfl⟩ trivial ⟨rfl,rfl,rfl,rfl,rfl,rfl⟩ bL aSa rfl,λk hk=>aA gT mxd ⟨λh3=>aA gT mxd ?_,λh3=>aA gT mxd ?_⟩⟩
 ·replace hk:k<=p.r.l.length:=hk
  replace h3:(k:Int)<(p.r.l.length:Nat):=h3
  have hkn:k<p.r.l.length:=by omega
  have hsl:=sA (P:=vRo p q qs) k
  refine⟨k,⟨rfl,hkn⟩,[],cAv (p.r.l.getD k default) x (h.row hkn) h.v.hB,rfl,rfl,rfl,λ_ _=>⟨λh4=>aA gT mxd ?_,λh4=>aA gT mxd ?_⟩⟩
  ·exact⟨⟨rfl,by show(fR (vRo p q qs) k).length*1=((fR (vRo p q qs) k).map iC).length;rw[aN,bI],by show _+1<=maxLen;simp only[maxLen];omega,by show(_+1)*8<=_;omega,λc hc=>(aQ.1 hc).elim aAu λhc=>by rw[aH.1 hc];rfl⟩,(λc hc=>aAu hc),(λc hc=>by rw[aH.1 hc];rfl),(k+1:Nat),wi,bH hM (chg:=vG2 p q x qs) (bls:=vB2 p q qs) (fls:=λ_=>[]) (k+1) ⟨hkn,show p.r.l.length-(k+1)<p.r.l.length-k by omega⟩ rfl ⟨rfl,rfl,congrArg (λl:List CV=>((3,1,l):TypeId×Nat×List CV)) (aNx h4)⟩ trivial ⟨rfl,aHc h4,rfl,rfl,rfl,rfl⟩ bL aSa rfl⟩
  exact⟨(k+1:Nat),wi,bH hM (chg:=vG2 p q x qs) (bls:=vB2 p q qs) (fls:=λ_=>[]) (k+1) ⟨hkn,show p.r.l.length-(k+1)<p.r.l.length-k by omega⟩ rfl ⟨rfl,rfl,congrArg (λl:List Int=>((3,1,l.map iC):TypeId×Nat×List CV)) (tF h4).symm⟩ trivial ⟨rfl,congrArg List.length (tF h4).symm,rfl,rfl,rfl,rfl⟩ bL aSa rfl⟩
 replace hk:k<=p.r.l.length:=hk
 replace h3:¬(k:Int)<(p.r.l.length:Nat):=h3
 obtain rfl:k=p.r.l.length:=by omega
 show Sd _ _ _ _ _ _
 refine rT 4 1 (λj=>[iC ((fR (vCo p q qs) p.c.l.length).getD j 0)]) rfl rfl (λj hj=>nS j hj) (by rw[aN,bI]) bL (bK _) bL λA2 c2 _ _=>⟨λc hc=>aAu hc,?_⟩
 show Sd _ _ _ _ _ _
 refine rT 5 2 (λj=>[iC ((fR (vRo p q qs) p.r.l.length).getD j 0)]) rfl rfl (λj hj=>nS j hj) (by rw[aN,bI]) bL (bK _) bL λA3 c3 _ _=>⟨(λc hc=>by cases hc),aA gT mxd ?_⟩
 exact⟨(⟨A2,c2,fR (vCo p q qs) p.c.l.length⟩,⟨A3,c3,fR (vRo p q qs) p.r.l.length⟩),⟨rfl,rfl⟩,aM ⟨rfl,rfl,rfl⟩ rfl trivial⟩
abbrev cAy:FuncId:=93
theorem cSn:Ent Tryz.prog cAy:=aU func93 rfl kR
theorem cSo:Tryz.prog.funcs[cAy]? =some Tryz.f93:=func93
def Fsb (p:ProgM) (q:PrQ) (qs:List Rat):Prop:=(∀j,j<p.c.l.length->¬vCo p q qs j)/\∀i,i<p.r.l.length->¬vRo p q qs i
open Classical in
theorem cLs (p:ProgM) (x:Sl RatM) {q:PrQ} {qs:List Rat} {B Bx:Nat} (h:PrX p q x qs B Bx):Ctr Tryz.prog cAy [] [.a p.C,.c (fI x)] [] (λ_:Unit=>⟨pC (Fsb p q qs),[],True⟩):=by
 refine aW gT cSn cSo rfl rfl rfl bL aS (aA gT mxd ⟨[],cAx p x h,rfl,rfl,rfl,λ⟨g1,g2⟩ ⟨hg1,hg2⟩=>⟨(),trivial,aM ?_ rfl trivial⟩⟩)
 replace hg1:g1.l=fR (vCo p q qs) p.c.l.length:=hg1
 replace hg2:g2.l=fR (vRo p q qs) p.r.l.length:=hg2
 show((0:Int)=0/\((g1.l.length:Nat):Int)=0)/\((g2.l.length:Nat):Int)=0↔Fsb p q qs
 rw[hg1,hg2]
 unfold Fsb
 rw[<-aFh,<-aFh,<-mA,<-mA]
 omega
open Classical in
open Classical in
open Classical in
open Classical in
structure PrY (p:ProgM) (q:PrQ) (y:Sl RatM) (ps:List Rat) (B By:Nat):Prop where
 v:PrV p q B
 y:Rl y.l ps
 l:ps.length=p.r.l.length
 q:rbL ps By
 hB:By<=4398046511104
def Sgb (s:Int) (v:Rat):Prop:=(s=-1/\0<sgn v.num)\/(s=1/\sgn v.num<0)
def Sgd (p:ProgM) (ps:List Rat):Prop:=∀i,i<p.r.l.length->¬Sgb (p.r.l.getD i default).s (lQ ps i)
abbrev cAz (p:ProgM) (y:Sl RatM) (k:Nat):List (Nat×DV):=[(18,.c (iC k)),(1,.c (fI y)),(16,.c (aGe p.r)),(17,.c (iC (p.r.l.length:Nat)))]
abbrev cBa:FuncId:=94
theorem cSp:Ent Tryz.prog cBa:=aU func94 rfl kR
theorem cSq:Tryz.prog.funcs[cBa]? =some Tryz.f94:=func94
theorem cLt (p:ProgM) (y:Sl RatM) {q:PrQ} {ps:List Rat} {B By:Nat} (h:PrY p q y ps B By):Ctr Tryz.prog cBa [] [.a p.C,.c (fI y)] [] (λ_:Unit=>⟨pC (Sgd p ps),[],True⟩):=by
 have hyl:y.l.length=p.r.l.length:=h.y.ln.trans h.l
 have hr:=h.v.r
 have hBy:=h.hB
 refine aW gT cSp cSq rfl rfl rfl bL aS (aA gT mxd ⟨[],aRy p y h.v _ (congrArg Int.ofNat hyl),rfl,rfl,rfl,λ_ _=>⟨λhh=>absurd rfl hh,λ_=>aA gT mxd ?_⟩⟩)
 show Sd _ _ _ _ _ _
 refine cG (λ_=>true) (cAz p y) (λ_=>prB p) (λ_=>[]) (λk=>k<=p.r.l.length/\∀i,i<k->¬Sgb (p.r.l.getD i default).s (lQ ps i)) (λk=>p.r.l.length-k) λhM=>⟨bH hM (chg:=cAz p y) (bls:=λ_=>prB p) (fls:=λ_=>[]) 0 ⟨aC _,λi hi=>absurd hi (aF _)⟩ rfl rfl trivial ⟨rfl,rfl,rfl,rfl⟩ bL aBw rfl,λk ⟨hk,hv⟩=>aA gT mxd ⟨λh3=>aA gT mxd ?_,λh3=>aA gT mxd ?_⟩⟩
 ·replace h3:(k:Int)<(p.r.l.length:Nat):=h3
  have hkn:k<p.r.l.length:=by omega
  have hky:k<y.l.length:=by omega
  refine⟨k,⟨rfl,hkn⟩,k,⟨rfl,hky⟩,[],kH (y.l.getD k default) ((h.y.rq h.q (k:=k) (by rw[h.l];exact hkn)).le),rfl,rfl,rfl,λ_ _=>⟨λh4=>aA gT mxd ?_,λh4=>aA gT mxd ?_⟩⟩
  ·exact⟨(),trivial,aM (ff λhh=>hh k hkn h4) rfl trivial⟩
  refine⟨(k+1:Nat),wi,bH hM (chg:=cAz p y) (bls:=λ_=>prB p) (fls:=λ_=>[]) (k+1) ⟨⟨hkn,λi hi=>?_⟩,show p.r.l.length-(k+1)<p.r.l.length-k by omega⟩ rfl rfl trivial ⟨rfl,rfl,rfl,rfl⟩ bL aBw rfl⟩
  rcases cN (cX hi) with h5|rfl
  ·exact hv i h5
  exact h4
 replace h3:¬(k:Int)<(p.r.l.length:Nat):=h3
 exact aA gT mxd ⟨(),trivial,aM (tt λi hi=>hv i oM) rfl trivial⟩
def tU (q:PrQ) (ps:List Rat):Nat->Nat->Rat
 |0,j=>q.k j
 |i+1,j=>tU q ps i j-lQ ps i*Vm.get (q.M i) (j:Nat)
def aCp (q:PrQ) (ps:List Rat) (i t j:Nat):Rat:=tU q ps i j-lQ ps i*Vm.get ((q.M i).take t) (j:Nat)
theorem aYg {q:PrQ} {ps:List Rat} {i j:Nat}:aCp q ps i 0 j=tU q ps i j:=by
 unfold aCp
 rw[sN,show Vm.get ([]:List En) (j:Nat)=0 from rfl,cA];grind
theorem bHq {q:PrQ} {ps:List Rat} {i j:Nat}:aCp q ps i (q.M i).length j=tU q ps (i+1) j:=by
 unfold aCp;rw[cW];rfl
theorem aYh {q:PrQ} {ps:List Rat} {i t j m:Nat} (ht:t<(q.M i).length) (hm:((q.M i).getD t default).1=(m:Nat)):aCp q ps i (t+1) j=if j=m then aCp q ps i t m-lQ ps i*((q.M i).getD t default).2 else aCp q ps i t j:=by
 unfold aCp
 rw[dF,aG ht]
 show _-_*Vm.get ((q.M i).take t++[(q.M i)[t]]) _=_
 rw[gd ht] at hm ⊢
 rw[Vm.get_append]
 by_cases e:j=m
 ·subst e
  rw[if_pos rfl,<-hm,show Vm.get [(q.M i)[t]] ((q.M i)[t]).1=((q.M i)[t]).2 from Vm.get_head (eJ _ _)]
  grind
 rw[if_neg e,show Vm.get [(q.M i)[t]] (j:Nat)=0 from Vm.get_none λe' he'=>by rw[aH.1 he',hm];omega,bP]
structure PrZ (p:ProgM) (q:PrQ) (y:Sl RatM) (ps:List Rat) (B By:Nat):Prop where
 y:PrY p q y ps B By
 k:∀j,j<p.c.l.length->rb (q.k j) B
 b:B+(p.r.l.length+1)*(By+B+1)<=4398046511104
theorem PrZ.rd {p:ProgM} {q:PrQ} {y:Sl RatM} {ps:List Rat} {B By:Nat} (h:PrZ p q y ps B By) {j:Nat} (hj:j<p.c.l.length):∀i,i<=p.r.l.length->rb (tU q ps i j) (B+i*(By+B+1))
 |0,_=>(h.k j hj).le oM
 |i+1,hi=>by
  have h1:=h.rd hj i oM
  have h2:=oU (i:=(j:Nat)) (h.y.v.v i oM).2.1 (h.y.v.e i oM) h.y.v.h1
  exact(pV h1 (gY (h.y.q _ (gD0 (by rw[h.y.l];omega))) h2)).le (by rw[dU];omega)
theorem PrZ.re {p:ProgM} {q:PrQ} {y:Sl RatM} {ps:List Rat} {B By i t j:Nat} (h:PrZ p q y ps B By) (hi:i<p.r.l.length) (hj:j<p.c.l.length):rb (aCp q ps i t j) 4398046511104:=by
 have h1:=h.rd hj i oM
 have hv:=h.y.v.v i hi
 have h2:=oU (es:=(q.M i).take t) (i:=(j:Nat)) (hv.2.1.sublist (iE _ _)) (λe he=>h.y.v.e i hi e (cV he)) h.y.v.h1
 have h3:=h.b
 have h4:i*(By+B+1)<=p.r.l.length*(By+B+1):=aZ _ oM
 exact(pV h1 (gY (h.y.q _ (gD0 (by rw[h.y.l];omega))) h2)).le (by rw[dU] at h3;omega)
abbrev rB (p:ProgM) (Z:Nat->RatM):BL:=[(42,0,p.C),(62,3,rtC p.c.l.length Z)]
theorem aFi {p:ProgM} {Z:Nat->RatM}:scB 2 (rB p Z):=aB rfl (aB (bU eM) aY)
abbrev rG1 (p:ProgM) (y:Sl RatM) (k:Nat):List (Nat×DV):=[(30,.c (iC k)),(7,.c (.s 1 p.c.l.length)),(2,.c (.p 0 0)),(1,.c (fI y)),(28,.c (rZ p.c)),(29,.c (iC (p.c.l.length:Nat)))]
abbrev rG2 (p:ProgM) (y:Sl RatM) (k:Nat):List (Nat×DV):=[(45,.c (iC k)),(7,.c (.s 1 p.c.l.length)),(1,.c (fI y)),(43,.c (aGe p.r)),(44,.c (iC (p.r.l.length:Nat)))]
abbrev rG3 (p:ProgM) (y:Sl RatM) (i t:Nat):List (Nat×DV):=(59,.c (iC t))::(10,.c (iC i))::(57,.c (cF (p.r.l.getD i default).e))::(58,.c (iC ((p.r.l.getD i default).e.l.length:Nat)))::rG2 p y i
theorem aFj {A:Option Addr} {c n:Nat} {Z:Nat->RatM}:CV.r A n c 3 (λj=>((nO Z n).getD j default).C)=fI ⟨A,c,nO Z n⟩:=by
 unfold fI Sl.R;rw[rH]
abbrev cBb:FuncId:=95
theorem cSr:Ent Tryz.prog cBb:=aU func95 rfl kR
theorem cSs:Tryz.prog.funcs[cBb]? =some Tryz.f95:=func95
theorem cLu (p:ProgM) (y:Sl RatM) {q:PrQ} {ps:List Rat} {B By:Nat} (h:PrZ p q y ps B By):Ctr Tryz.prog cBb [] [.a p.C,.c (fI y)] [] (λg:Sl RatM=>⟨.t [.c (fI g),.c (iC 0)],[],g.l.length=p.c.l.length/\∀j,j<p.c.l.length->Cr (g.l.getD j default) (tU q ps p.r.l.length j)⟩):=by
 have hyl:y.l.length=p.r.l.length:=h.y.y.ln.trans h.y.l
 have hc:=h.y.v.c
 have hr:=h.y.v.r
 have hBB:=h.y.v.hB
 refine aW gT cSr cSs rfl rfl rfl bL aS (aA gT mxd ⟨[],aRy p y h.y.v _ (congrArg Int.ofNat hyl),rfl,rfl,rfl,λ_ _=>⟨λhh=>absurd rfl hh,λ_=>aA gT mxd ⟨p.c.l.length,⟨rfl,rfl,by show 56*_<=_;omega,by simp only[maxLen];omega⟩,?_⟩⟩⟩)
 show Sd _ _ _ _ _ _
 refine gH tSd 1 (rtC p.c.l.length λ_=>default) rfl lK.1 lK.2 ?_
 refine cG (λ_=>true) (λg:Nat×(Nat->RatM)=>rG1 p y g.1) (λg=>rB p g.2) (λ_=>[]) (λg=>g.1<=p.c.l.length/\∀j,j<g.1->Cr (g.2 j) (q.k j)) (λg=>p.c.l.length-g.1) λhM=>⟨bH hM (chg:=λg:Nat×(Nat->RatM)=>rG1 p y g.1) (bls:=λg=>rB p g.2) (fls:=λ_=>[]) (0,λ_=>default) ⟨aC _,λj hj=>absurd hj (aF _)⟩ rfl ⟨rfl,rfl⟩ trivial ⟨rfl,rfl,rfl,rfl,rfl,rfl⟩ bL aFi rfl,λ⟨k,Z⟩ ⟨hk,hZ⟩=>aA gT mxd ⟨λh3=>aA gT mxd ?_,λh3=>aA gT mxd ?_⟩⟩
 all_goals
  replace hk:k<=p.c.l.length:=hk
  replace hZ:∀j,j<k->Cr (Z j) (q.k j):=hZ
 ·replace h3:(k:Int)<(p.c.l.length:Nat):=h3
  have hkn:k<p.c.l.length:=by omega
  refine⟨k,⟨rfl,hkn⟩,[],nZ (p.c.l.getD k default).k ((h.y.v.rd.c k hkn).k.le),rfl,rfl,rfl,λg hg=>⟨k,⟨rfl,hkn,fF hkn⟩,_,gZ hkn,(k+1:Nat),wi,bH hM (chg:=λg:Nat×(Nat->RatM)=>rG1 p y g.1) (bls:=λg=>rB p g.2) (fls:=λ_=>[]) (k+1,upd Z k g) ⟨⟨hkn,λj hj=>?_⟩,show p.c.l.length-(k+1)<p.c.l.length-k by omega⟩ rfl ⟨rfl,rfl⟩ trivial ⟨rfl,rfl,rfl,rfl,rfl,rfl⟩ bL aFi rfl⟩⟩
  show Cr (upd Z k g j) _
  by_cases e:j=k
  ·subst e;rw[bJ];exact hg
  rw[bD e];exact hZ j (by have:j<k+1:=hj;omega)
 replace h3:¬(k:Int)<(p.c.l.length:Nat):=h3
 obtain rfl:k=p.c.l.length:=by omega
 refine aA gT mxd ?_
 show Sd _ _ _ _ _ _
 refine cG (λ_=>true) (λg:Nat×(Nat->RatM)=>rG2 p y g.1) (λg=>rB p g.2) (λ_=>[]) (λg=>g.1<=p.r.l.length/\∀j,j<p.c.l.length->Cr (g.2 j) (tU q ps g.1 j)) (λg=>p.r.l.length-g.1) λhM=>⟨bH hM (chg:=λg:Nat×(Nat->RatM)=>rG2 p y g.1) (bls:=λg=>rB p g.2) (fls:=λ_=>[]) (0,Z) ⟨aC _,hZ⟩ rfl ⟨rfl,rfl⟩ trivial ⟨rfl,rfl,rfl,rfl,rfl⟩ bL aFi rfl,λ⟨i,Z⟩ ⟨hi,hZ⟩=>aA gT mxd ⟨λh3=>aA gT mxd ?_,λh3=>aA gT mxd ?_⟩⟩
 all_goals
  replace hi:i<=p.r.l.length:=hi
  replace hZ:∀j,j<p.c.l.length->Cr (Z j) (tU q ps i j):=hZ
 ·replace h3:(i:Int)<(p.r.l.length:Nat):=h3
  have hir:i<p.r.l.length:=by omega
  have hiy:i<y.l.length:=by omega
  have hb:=h.b
  have hYq:=(h.y.y.rq h.y.q (k:=i) (by rw[h.y.l];exact hir)).le h.y.hB
  refine⟨i,⟨rfl,hir⟩,i,⟨rfl,hiy⟩,[],kH (y.l.getD i default) hYq,rfl,rfl,rfl,λ_ _=>⟨λh4=>aA gT mxd ?_,λh4=>aA gT mxd ?_⟩⟩
  ·replace h4:sgn (lQ ps i).num=0:=h4
   have h0:lQ ps i=0:=dH.1 (fS.1 h4)
   refine⟨(i+1:Nat),wi,bH hM (chg:=λg:Nat×(Nat->RatM)=>rG2 p y g.1) (bls:=λg=>rB p g.2) (fls:=λ_=>[]) (i+1,Z) ⟨⟨hir,λj hj=>?_⟩,show p.r.l.length-(i+1)<p.r.l.length-i by omega⟩ rfl ⟨rfl,rfl⟩ trivial ⟨rfl,rfl,rfl,rfl,rfl⟩ bL aFi rfl⟩
   show Cr (Z j) (tU q ps i j-lQ ps i*Vm.get (q.M i) (j:Nat))
   rw[h0,dQ,show tU q ps i j-0=tU q ps i j by grind]
   exact hZ j hj
  have hrow:=h.y.v.rd.r i hir
  have hvr:=h.y.v.v i hir
  have hel:=hrow.e.ln
  have hlen:=h.y.v.len hir
  refine aA gT mxd ?_
  show Sd _ _ _ _ _ _
  refine cG (λ_=>true) (λg:Nat×(Nat->RatM)=>rG3 p y i g.1) (λg=>rB p g.2) (λ_=>[]) (λg=>g.1<=(q.M i).length/\∀j,j<p.c.l.length->Cr (g.2 j) (aCp q ps i g.1 j)) (λg=>(q.M i).length-g.1) λhM2=>⟨bH hM2 (chg:=λg:Nat×(Nat->RatM)=>rG3 p y i g.1) (bls:=λg=>rB p g.2) (fls:=λ_=>[]) (0,Z) ⟨aC _,λj hj=>by rw[aYg];exact hZ j hj⟩ rfl ⟨rfl,rfl⟩ trivial ⟨rfl,rfl,rfl,rfl,rfl,rfl,rfl,rfl,rfl⟩ bL aFi rfl,λ⟨t,Z⟩ ⟨ht,hZ⟩=>aA gT mxd ⟨λh5=>aA gT mxd ?_,λh5=>aA gT mxd ?_⟩⟩
  all_goals
   replace ht:t<=(q.M i).length:=ht
   replace hZ:∀j,j<p.c.l.length->Cr (Z j) (aCp q ps i t j):=hZ
  ·replace h5:(t:Int)<((p.r.l.getD i default).e.l.length:Nat):=h5
   have htl:t<(q.M i).length:=by omega
   have hte:t<(p.r.l.getD i default).e.l.length:=by omega
   have he:=hrow.e.e t htl
   have hv:=hvr.2.2 _ (fO htl)
   obtain⟨m,hm⟩:∃m:Nat,((q.M i).getD t default).1=(m:Nat):=⟨((q.M i).getD t default).1.toNat,by omega⟩
   have hmc:m<p.c.l.length:=by omega
   have hix:((p.r.l.getD i default).e.l.getD t default).ix=(m:Nat):=he.1.trans hm
   have hYr:rb (lQ ps i) By:=h.y.q _ (gD0 (by rw[h.y.l];exact hir))
   have hEr:=h.y.v.e i hir _ (fO htl)
   have hnr:(By+B+1)<=(p.r.l.length+1)*(By+B+1):=Nat.le_mul_of_pos_left _ (Nat.succ_pos _)
   refine⟨t,⟨rfl,hte⟩,.seq (sq 17 (List.range 18)),by kernel_rfl,m,⟨hix,hmc,fF hmc⟩,_,mE hmc,i,⟨rfl,hiy⟩,[],xC (y.l.getD i default) ((p.r.l.getD i default).e.l.getD t default).v hYq (he.2.le),rfl,rfl,rfl,λg hg=>⟨[],aJt (Z m) g ((hZ m hmc).rq (h.re hir hmc)) (Cr.rq hg ((gY hYr hEr).le oM)),rfl,rfl,rfl,λd hd=>⟨m,⟨hix,hmc,fF hmc⟩,_,gZ hmc,(t+1:Nat),wi,bH hM2 (chg:=λg:Nat×(Nat->RatM)=>rG3 p y i g.1) (bls:=λg=>rB p g.2) (fls:=λ_=>[]) (t+1,upd Z m d) ⟨⟨htl,λj hj=>?_⟩,show(q.M i).length-(t+1)<(q.M i).length-t by omega⟩ rfl ⟨rfl,rfl⟩ trivial ⟨rfl,rfl,rfl,rfl,rfl,rfl,rfl,rfl,rfl⟩ bL aFi rfl⟩⟩⟩
   show Cr (upd Z m d j) (aCp q ps i (t+1) j)
   rw[aYh htl hm]
   by_cases e:j=m
   ·subst e;rw[bJ,if_pos rfl];exact hd
   rw[bD e,if_neg e];exact hZ j hj
  replace h5:¬(t:Int)<((p.r.l.getD i default).e.l.length:Nat):=h5
  obtain rfl:t=(q.M i).length:=by omega
  refine⟨(i+1:Nat),wi,bH hM (chg:=λg:Nat×(Nat->RatM)=>rG2 p y g.1) (bls:=λg=>rB p g.2) (fls:=λ_=>[]) (i+1,Z) ⟨⟨hir,λj hj=>?_⟩,show p.r.l.length-(i+1)<p.r.l.length-i by omega⟩ rfl ⟨rfl,rfl⟩ trivial ⟨rfl,rfl,rfl,rfl,rfl⟩ bL aFi rfl⟩
  show Cr (Z j) (tU q ps (i+1) j)
  rw[<-bHq];exact hZ j hj
 replace h3:¬(i:Int)<(p.r.l.length:Nat):=h3
 obtain rfl:i=p.r.l.length:=by omega
 show Sd _ _ _ _ _ _
 refine rT 7 1 (λj=>((nO Z p.c.l.length).getD j default).C) rfl rfl (λj hj=>aAn j hj) (by rw[oV (P:=λj=>(Z j).C) (e:=3) λ_ _=>rfl]) bL eM bL λA2 c2 _ _=>aA gT mxd ⟨⟨A2,c2,nO Z p.c.l.length⟩,⟨rH,λj hj=>?_⟩,aM ⟨aFj,rfl⟩ rfl trivial⟩
 show Cr ((nO Z p.c.l.length).getD j default) _
 rw[xD hj];exact hZ j hj
theorem kK {f:Nat->Rat} {q:Rat} {n:Nat}:cI (λj=>q*f j) n=q*cI f n:=by
 have:=kJ (f:=λ_=>(0:Rat)) (g:=f) (q:=q) (n:=n)
 rw[fQ λ_ _=>rfl,fU] at this
 rw[<-this]
 exact bM λj _=>by grind
theorem xJ {f g:Nat->Rat} {n:Nat}:cI (λj=>f j+g j) n=cI f n+cI g n:=by
 have:=kJ (f:=f) (g:=g) (q:=1) (n:=n)
 rw[iU] at this
 rw[<-this]
 exact bM λj _=>by grind
theorem rP {f:Nat->Nat->Rat} {m:Nat}:∀{n:Nat},cI (λi=>cI (f i) m) n=cI (λj=>cI (λi=>f i j) n) m
 |0=>(fQ λ_ _=>rfl).symm
 |n+1=>by
  show cI (λi=>cI (f i) m) n+cI (f n) m=cI (λj=>cI (λi=>f i j) n+f n j) m
  rw[rP,xJ]
theorem uN {f:Nat->Rat} {m:Nat}:∀{n:Nat},m<=n->(∀j,m<=j->j<n->f j=0)->cI f n=cI f m
 |0,h,_=>by rw[Nat.le_zero.1 h]
 |n+1,h,h0=>by
  by_cases e:m=n+1
  ·rw[e]
  show cI f n+f n=_
  rw[uN oM λj h1 h2=>h0 j h1 oM,h0 n oM (bF n),bP]
theorem aNy {f:Nat->Rat}:∀(n:Nat),cI f n=dtl ((List.range n).map λi:Nat=>((i:Int),(1:Rat))) f
 |0=>rfl
 |n+1=>by
  rw[gQ,bG,aDf,<-aNy n]
  show _+_=_+((1:Rat)*f (Int.toNat (n:Nat))+0)
  rw[cL,iU,bP]
theorem aHd {f:Nat->Rat} {n:Nat} {r:Nat->Nat} (h:∀j,j<n->r j<n) (hi:∀i j,i<n->j<n->r i=r j->i=j):cI (λk=>f (r k)) n=cI f n:=by
 have h1:dtl ((List.range n).map λk:Nat=>(((r k:Nat):Int),(1:Rat))) f=cI (λk=>f (r k)) n:=by
  clear h hi
  induction n with
  |zero=>rfl
  |succ n ih=>
   rw[gQ,bG,aDf,ih]
   show _+((1:Rat)*f (Int.toNat (r n:Nat))+0)=_+_
   rw[cL,iU,bP]
 rw[<-h1,aNy]
 refine aNr ((List.perm_ext_iff_of_nodup ?_ ?_).2 λe=>?_)
 ·rw[cO,fW]
  refine(cO.1 mC).imp_of_mem λ{a b} ha hb hab he=>hab (hi a b (cM.1 ha) (cM.1 hb) (by injection he with he;exact jH he))
 ·rw[cO,fW]
  exact(cO.1 mC).imp λhab he=>hab (by injection he with he;exact jH he)
 rw[cC,cC]
 constructor
 ·rintro⟨k,hk,rfl⟩;exact⟨r k,cM.2 (h k (cM.1 hk)),rfl⟩
 rintro⟨i,hk,rfl⟩
 obtain⟨j,hj,rfl⟩:=oW h hi i (cM.1 hk)
 exact⟨j,cM.2 hj,rfl⟩
theorem xK (a:Rat):a-0=a:=by grind
def fwT (us:Nat->List En) (p:Nat->Rat) (c:Nat->Rat):Nat->Nat->Rat
 |0=>c
 |i+1=>λj=>if j=i then fwT us p c i i/p i else fwT us p c i j-Vm.get (us i) (j:Nat)*(fwT us p c i i/p i)
def bkT (lo:Nat->List En) (n:Nat) (y:Nat->Rat):Nat->Nat->Rat
 |0=>y
 |k+1=>λj=>bkT lo n y k j-Vm.get (lo (n-1-k)) (j:Nat)*bkT lo n y k (n-1-k)
section
variable {n:Nat} {Lw Up lo us:Nat->List En} {p c y:Nat->Rat} (hP:LuP n Lw Up lo us p)
include hP
theorem cBc {i j:Nat} (hi:i<n) (hj:j<=i):Vm.get (us i) (j:Nat)=0:=get_none λe he h=>by have:=((hP.us i hi).2.1 e he).1;omega
theorem cSt {i j:Nat} (hi:i<n) (hj:i<=j):Vm.get (lo i) (j:Nat)=0:=get_none λe he h=>by have:=((hP.lo i hi).2.2 e he).2.1;omega
theorem bHr {i j:Nat} (hi:i<n):Vm.get (Up i) (j:Nat)=if j=i then p i else Vm.get (us i) (j:Nat):=by
 rw[(hP.us i hi).1,uM]
 by_cases e:j=i
 ·subst e;rw[if_pos rfl,if_pos rfl,cBc hP hi (aI _),bP]
 rw[if_neg e,if_neg (by show ¬(i:Int)=(j:Nat);omega),fU]
theorem cLv {i j:Nat} (hi:i<n):Vm.get (Lw i) (j:Nat)=Vm.get (lo i) (j:Nat)+if j=i then 1 else 0:=by
 rw[(hP.lo i hi).1,get_append,uM]
 show _+((if (i:Int)=(j:Nat) then (1:Rat) else 0)+0)=_
 by_cases e:j=i
 ·subst e;rw[if_pos rfl,if_pos rfl,bP]
 rw[if_neg e,if_neg oM,bP]
theorem aSb {j:Nat}:∀{k:Nat},j<k->k<=n->fwT us p c k j=fwT us p c j j/p j
 |0,h,_=>absurd h (aF _)
 |k+1,h,hk=>by
  by_cases e:j=k
  ·subst e;exact if_pos rfl
  show(if j=k then _ else _)=_
  rw[if_neg e,cBc hP oM oM,dQ,xK,aSb oM oM]
theorem aVq {j:Nat} (hj:j<n):∀{k:Nat},k<=j->fwT us p c k j+cI (λi=>fwT us p c n i*Vm.get (Up i) (j:Nat)) k=c j
 |0,_=>by show c j+(0:Rat)=_;rw[bP]
 |k+1,hk=>by
  rw[<-aVq hj (k:=k) oM]
  show(if j=k then _ else _)+(cI _ k+_*_)=_
  rw[if_neg oM,aSb hP (j:=k) oM (aI n),bHr hP oM,if_neg oM]
  grind
theorem bOn {j:Nat} (hj:j<n):cI (λi=>fwT us p c n i*Vm.get (Up i) (j:Nat)) n=c j:=by
 have h1:=aVq hP (c:=c) hj (aI j)
 rw[uN (m:=j+1) oM λi h1 h2=>by rw[bHr hP h2,if_neg oM,cBc hP h2 oM,cA]]
 show cI _ j+_*_=_
 rw[bHr hP hj,if_pos rfl,aSb hP hj (aI n),<-h1,kN,uA,jU _ (hP.p j hj)]
 grind
theorem aSc {j k:Nat} (hj:j<n):∀{d:Nat},n-1-k<=j->k+d<=n->bkT lo n y (k+d) j=bkT lo n y k j
 |0,_,_=>rfl
 |d+1,h,hk=>by
  show bkT lo n y (k+d) j-Vm.get (lo (n-1-(k+d))) (j:Nat)*bkT lo n y (k+d) (n-1-(k+d))=_
  rw[cSt hP oM oM,dQ,xK,aSc hj h oM]
theorem aVr {j:Nat}:∀{k:Nat},k<=n->bkT lo n y k j+cI (λi=>if n-k<=i then bkT lo n y n i*Vm.get (lo i) (j:Nat) else 0) n=y j
 |0,_=>by rw[fQ λi hi=>if_neg oM,bP];rfl
 |k+1,hk=>by
  rw[<-aVr (k:=k) oM]
  have e1:cI (λi=>if n-(k+1)<=i then bkT lo n y n i*Vm.get (lo i) (j:Nat) else 0) n=cI (λi=>(if n-k<=i then bkT lo n y n i*Vm.get (lo i) (j:Nat) else 0)+(if i=n-1-k then bkT lo n y n i*Vm.get (lo i) (j:Nat) else 0)) n:=bM λi hi=>by
   by_cases e2:n-k<=i
   ·rw[if_pos e2,if_pos oM,if_neg oM,bP]
   rw[if_neg e2]
   by_cases e3:i=n-1-k
   ·rw[if_pos e3,if_pos oM,fU]
   rw[if_neg e3,if_neg oM,bP]
  have e2:bkT lo n y n (n-1-k)=bkT lo n y k (n-1-k):=by
   have:=aSc hP (y:=y) (j:=n-1-k) (k:=k) oM (d:=n-k) (aI _) oM
   rwa [show k+(n-k)=n by omega] at this
  rw[e1,xJ,jO (f:=λi=>if i=n-1-k then bkT lo n y n i*Vm.get (lo i) (j:Nat) else 0) (m:=n-1-k) oM λi hi=>if_neg hi,if_pos rfl,e2]
  show bkT lo n y k j-_*_+_=_
  grind
theorem bOo {j:Nat} (hj:j<n):cI (λi=>bkT lo n y n i*Vm.get (Lw i) (j:Nat)) n=y j:=by
 rw[<-aVr hP (y:=y) (j:=j) (aI n)]
 have e1:cI (λi=>bkT lo n y n i*Vm.get (Lw i) (j:Nat)) n=cI (λi=>(if n-n<=i then bkT lo n y n i*Vm.get (lo i) (j:Nat) else 0)+(if i=j then bkT lo n y n i else 0)) n:=bM λi hi=>by
  rw[cLv hP hi,show(if n-n<=i then bkT lo n y n i*Vm.get (lo i) (j:Nat) else 0)=bkT lo n y n i*Vm.get (lo i) (j:Nat) from if_pos oM]
  by_cases e:i=j
  ·subst e;rw[if_pos rfl,if_pos rfl];grind
  rw[if_neg e,if_neg (gE e)];grind
 rw[e1,xJ,jO (f:=λi=>if i=j then bkT lo n y n i else 0) hj λi hi=>if_neg hi,if_pos rfl]
 grind
end
def TEq (a:Nat->Nat->Rat) (n:Nat) (c y:Nat->Rat):Prop:=∀j,j<n->cI (λr=>y r*a r j) n=c j
theorem aNz {n j:Nat} {es:List En} (hj:j<n):dtn n es (λi=>if i=j then 1 else 0)=Vm.get es (j:Nat):=by
 show cI (λi=>Vm.get es (i:Nat)*(if i=j then 1 else 0)) n=_
 rw[jO (m:=j) hj λi hi=>by rw[if_neg hi,cA],if_pos rfl,nH]
theorem LuOk.solT {M:Nat->List En} {n:Nat} {rw cl:Nat->Nat} {Lw Up lo us:Nat->List En} {p:Nat->Rat} (h:LuOk M n rw cl Lw Up) (hP:LuP n Lw Up lo us p) {c xv:Nat->Rat} (hx:∀i,i<n->xv (rw i)=bkT lo n (fwT us p (λj=>c (cl j)) n) n i):TEq (enM M) n c xv:=λq hq=>by
 obtain⟨j,hj,rfl⟩:=oW h.clt h.cinj q hq
 have e1:∀k,k<n->Vm.get (M (rw k)) (cl j:Nat)=cI (λi=>Vm.get (Lw k) (i:Nat)*Vm.get (Up i) (j:Nat)) n:=λk hk=>by
  have:=h.eq k hk λi=>if i=cl j then 1 else 0
  rw[aNz hq,tE λe he=>?_] at this
  ·rw[this]
   refine bM λi hi=>?_
   rw[<-aNz (es:=Up i) hj]
   exact congrArg (Vm.get (Lw k) (i:Nat)*·) (bM λt ht=>by
    show _*(if cl t=cl j then (1:Rat) else 0)=_*(if t=j then (1:Rat) else 0)
    by_cases e:t=j
    ·subst e;rw[if_pos rfl,if_pos rfl]
    rw[if_neg e,if_neg λe2=>e (h.cinj t j ht hj e2)])
  rw[(hP.lo k hk).1] at he
  rcases aQ.1 he with he|he
  ·have:=(hP.lo k hk).2.2 e he;omega
  rw[aH.1 he];exact⟨by show(0:Int)<=(k:Nat);omega,by show(k:Int)<_;omega⟩
 rw[<-aHd (f:=λr=>xv r*enM M r (cl j)) h.rlt h.rinj]
 have e2:cI (λk=>xv (rw k)*enM M (rw k) (cl j)) n=cI (λk=>cI (λi=>bkT lo n (fwT us p (λj=>c (cl j)) n) n k*Vm.get (Lw k) (i:Nat)*Vm.get (Up i) (j:Nat)) n) n:=bM λk hk=>by
  rw[hx k hk,show enM M (rw k) (cl j)=_ from e1 k hk,<-kK]
  exact bM λi _=>by grind
 have e3:cI (λi=>cI (λk=>bkT lo n (fwT us p (λj=>c (cl j)) n) n k*Vm.get (Lw k) (i:Nat)*Vm.get (Up i) (j:Nat)) n) n=cI (λi=>fwT us p (λj=>c (cl j)) n i*Vm.get (Up i) (j:Nat)) n:=bM λi hi=>by
  rw[<-bOo hP (y:=fwT us p (λj=>c (cl j)) n) hi,Rat.mul_comm,<-kK]
  exact bM λk _=>by grind
 rw[e2,rP,e3,bOn hP hj]
theorem aYi {f:Nat->Rat} {n k:Nat} (hk:k<n):cI (λr=>f r*(if r=k then 1 else 0)) n=f k:=by
 rw[jO (m:=k) hk λj hj=>by rw[if_neg hj,cA],if_pos rfl,nH]
abbrev cBd:FuncId:=90
theorem cSu:Ent Tryz.prog cBd:=aU func90 rfl kR
theorem cSv:Tryz.prog.funcs[cBd]? =some Tryz.f90:=func90
theorem cLw (d:Sl Int) (p:Nat) (hd:d.l.length<=9223372036854775807) (hp:p<=d.l.length):Ctr Tryz.prog cBd [true] [.c (.p 0 0)] (tpB d p) (λg:RatM×Rat×Nat=>⟨.a g.1.C,tpB d g.2.2,((Cr g.1 g.2.1/\g.2.1≠0)/\rb g.2.1 1)/\g.2.2<=d.l.length⟩):=by
 have last:∀n s:Int,n≠0->-6<=n->n<=6->0<=s->s<3->Rat.divInt n (1+s)≠0/\rb (Rat.divInt n (1+s)) 1:=λn s h1 h2 h3 h4 h5=>⟨λh=>h1 (by
  have h6:=sI n (1+s)
  rw[h,show(1+s).sign=1 from pD oM,tK] at h6
  have h7:n=n/((1+s).gcd n:Int)*((1+s).gcd n:Int):=(Int.ediv_mul_cancel (Int.gcd_dvd_right ..)).symm
  rw[h7,<-h6];exact Int.zero_mul _),aNm oM oM⟩
 refine aW gT cSu cSv rfl rfl rfl bL (eW rfl) (aA gT mxd ⟨[0],mT d p 12 hd hp dC dC,rfl,rfl,rfl,λr hr=>⟨r.1-6,wi (h:=⟨rfl,by have:=hr.1;omega,by have:=hr.1;omega⟩),⟨λh1=>aA gT mxd ⟨r.1-6+1,wi (h:=⟨rfl,by have:=hr.1;omega,by have:=hr.1;omega⟩),?_⟩,λh1=>aA gT mxd ?_⟩⟩⟩)
 ·replace h1:0<=r.1-6:=h1
  refine⟨[0],mT d r.2 3 hd hr.2 dC dC,rfl,rfl,rfl,λs hs=>⟨1+s.1,wi (h:=⟨rfl,by have:=hs.1;omega,by have:=hs.1;omega⟩),[],bFc (by have:=hr.1;omega) (by have:=hs.1;omega),rfl,rfl,rfl,λg hg=>⟨(g,Rat.divInt (r.1-6+1) (1+s.1),s.2),⟨⟨⟨hg,?_⟩,?_⟩,hs.2⟩,fH rfl rfl bL (aB rfl aY) rfl (eW rfl)⟩⟩⟩
  ·exact(last _ _ oM oM (by have:=hr.1;omega) hs.1.1 hs.1.2).1
  exact(last _ _ oM oM (by have:=hr.1;omega) hs.1.1 hs.1.2).2
 replace h1:¬0<=r.1-6:=h1
 refine⟨[0],mT d r.2 3 hd hr.2 dC dC,rfl,rfl,rfl,λs hs=>⟨1+s.1,wi (h:=⟨rfl,by have:=hs.1;omega,by have:=hs.1;omega⟩),[],bFc (by have:=hr.1;omega) (by have:=hs.1;omega),rfl,rfl,rfl,λg hg=>⟨(g,Rat.divInt (r.1-6) (1+s.1),s.2),⟨⟨⟨hg,?_⟩,?_⟩,hs.2⟩,fH rfl rfl bL (aB rfl aY) rfl (eW rfl)⟩⟩⟩
 ·exact(last _ _ oM (by have:=hr.1;omega) oM hs.1.1 hs.1.2).1
 exact(last _ _ oM (by have:=hr.1;omega) oM hs.1.1 hs.1.2).2
theorem cLx (b:Bool):LeC (.v (.bool b)) (.b (b=true) inferInstance):=λρ n w x h=>by
 rw[h.inv_v]
 have h1:Rc (Zf ρ n w) w (.b (b=true) inferInstance) (.bool (decide (b=true))):=Rc.b _ _
 have h2:decide (b=true)=b:=by cases b<;>rfl
 rw[h2] at h1
 exact h1
abbrev LeL (l l':List CV):Prop:=∀(k:Nat) (c c':CV),l[k]? =some c->l'[k]? =some c'->LeC c c'
theorem LeL.refl (l:List CV):LeL l l:=λk c c' h1 h2=>by rw[h1] at h2;injection h2 with h2;subst h2;exact fC _
theorem LeL.cons {c c':CV} {l l':List CV} (h:LeC c c') (hl:LeL l l'):LeL (c::l) (c'::l')
 |0,a,a',h1,h2=>by injection h1 with h1;injection h2 with h2;subst h1 h2;exact h
 |k+1,a,a',h1,h2=>hl k a a' h1 h2
theorem aVs {P:Program} {nb N:Nat} {cd:Code} {K:Kt} {s:SS} (i:Nat) {T es:Nat} {l:List CV} (l':List CV) (hb:s.bl[i]? =some (T,es,l)) (hl:l'.length=l.length) (hc:LeL l l') (h:mO s.bl i (T,es,l') λbl'=>Sd P nb N cd K ⟨s.sl,s.gl,bl',s.fl⟩):Sd P nb N cd K s:=gH tSd i l' hb hl hc h
def bV:Bool->CV
 |true=> .v (.bool true)
 |false=> .b (false=true) inferInstance
theorem bRy (b:Bool):LeC (bV b) (.b (b=true) inferInstance):=by
 cases b with
 |true=>exact cLx true
 |false=>exact fC _
abbrev bHs (k:RatM) (b:Bool) (l:RatM) (c:Bool) (u:RatM):ColM:=⟨k,b=true,inferInstance,l,c=true,inferInstance,u⟩
abbrev bHt (k:RatM) (b:Bool) (l:RatM) (c:Bool) (u:RatM):List CV:=[.b k.n.p k.n.d,eK k.n.m,eK k.d,bV b,.b l.n.p l.n.d,eK l.n.m,eK l.d,bV c,.b u.n.p u.n.d,eK u.n.m,eK u.d]
abbrev cSw:List CV:=[.b (false=true) inferInstance,.v (.slice none 0 0),.v (.slice none 0 0),.b (false=true) inferInstance,.b (false=true) inferInstance,.v (.slice none 0 0),.v (.slice none 0 0),.b (false=true) inferInstance,.b (false=true) inferInstance,.v (.slice none 0 0),.v (.slice none 0 0)]
theorem bOp {k:RatM} {b:Bool} {l:RatM} {c:Bool} {u:RatM}:LeL (bHt k b l c u) (bHs k b l c u).C:=.cons (fC _) (.cons (fC _) (.cons (fC _) (.cons (bRy b) (.cons (fC _) (.cons (fC _) (.cons (fC _) (.cons (bRy c) (LeL.refl _))))))))
abbrev tcB (d:Sl Int) (q:Nat) (l:List CV):BL:=[(98,0,[cD d,iC q]),(106,0,cSw),(106,0,l)]
theorem bOq {g:RatM}:LeL ([.b g.n.p g.n.d,eK g.n.m,eK g.d,.b (false=true) inferInstance,.b (false=true) inferInstance,.v (.slice none 0 0),.v (.slice none 0 0),.b (false=true) inferInstance,.b (false=true) inferInstance,.v (.slice none 0 0),.v (.slice none 0 0)]) (bHt g false default false default):=.cons (fC _) (.cons (fC _) (.cons (fC _) (.cons (fC _) (.cons (fC _) (.cons qG (.cons qG (.cons (fC _) (.cons (fC _) (.cons qG (.cons qG (LeL.refl _)))))))))))
theorem bHu {n:Int} (h0:0<=n) (h:n<=1000):rb (n:Rat) 1:=⟨by rw[Rat.num_intCast];exact aJ (fY (show n.natAbs<=1000 by omega)) dC,by rw[Rat.den_intCast];decide⟩
theorem CtrF.ld {P:Program} {q:FuncId} {cl:List Bool} {al:List DV} {bl:BL} {fl:List Fam} {σ τ:Type} {R:σ->OutF} {R':τ->OutF} (h:CtrF P q cl al bl fl R) (hp:∀g,(R g).C->∃g',(R' g').C/\(∀ρ n w v,Hd ρ n w (R g).d v->Hd ρ n w (R' g').d v)/\(R' g').bl=(R g).bl/\(R' g').fl=(R g).fl):CtrF P q cl al bl fl R':=
 ⟨h.ent,h.clb,λρ w vals hv hD hF=>(h.run ρ w vals hv hD hF).mono λe w' ⟨v,he,g,ρ',hC,hDr,hdv,hclr,hFr⟩=>by
  obtain⟨g',h1,h2,h3,h4⟩:=hp g hC
  exact⟨v,he,g',ρ',h1,by rw[h3];exact hDr,by rw[h3];exact h2 _ _ _ _ hdv,by rw[h3];exact hclr,by rw[h4];exact hFr⟩⟩
theorem LeL.hd {l l':List CV} (h:LeL l l') (hl:l'.length=l.length) {ρ:Pl} {n:Nat} {w:World} {v:Value} (hv:Hd ρ n w (.a l) v):Hd ρ n w (.a l') v:=by
 cases hv with
 |a hv=>exact .a (hv.le hl h)
structure ColV where
 k:RatM
 pl:Bool
 l:RatM
 pu:Bool
 u:RatM
 kq:Rat
 lq:Rat
 uq:Rat
 p:Nat
abbrev ColV.W (g:ColV):List CV:=bHt g.k g.pl g.l g.pu g.u
abbrev ColV.M (g:ColV):ColM:=bHs g.k g.pl g.l g.pu g.u
structure ColVR (d:Sl Int) (g:ColV):Prop where
 r:ColR g.M g.kq g.lq g.uq 3
 x:¬Crs g.M g.lq g.uq
 k:rb g.kq 3
 l:rb g.lq 3
 u:rb g.uq 3
 p:g.p<=d.l.length
 kc:Cr g.k g.kq
abbrev aVt:FuncId:=123
theorem cLy:Ent Tryz.prog aVt:=aU func123 rfl kR
theorem cLz:Tryz.prog.funcs[aVt]? =some Tryz.f123:=func123
theorem cBe (d:Sl Int) (p:Nat) (hd:d.l.length<=9223372036854775807) (hp:p<=d.l.length):Ctr Tryz.prog aVt [true] [.c (.p 0 0)] (tpB d p) (λg:ColV=>⟨.a g.W,tpB d g.p,ColVR d g⟩):=by
 have z1:rb (0:Rat) 1:=⟨by decide,by decide⟩
 have z3:rb (0:Rat) 3:=z1.le dC
 refine aW gT cLy cLz rfl rfl rfl bL (eW rfl) (Sd.sq (aA gT mxd (Sd.sq (aA gT mxd ⟨[0],aRa d p hd hp,rfl,rfl,rfl,λg1 ⟨⟨hg,hgb⟩,hp1⟩=>aVs 2 (bHt g1.1 false default false default) rfl rfl bOq (aA gT mxd ⟨[0],mT d g1.2.2 6 hd hp1 dC dC,rfl,rfl,rfl,λk ⟨hk,hp2⟩=>?_⟩)⟩))))
 have fin:∀(l:RatM) (lq:Rat) (u:RatM) (uq:Rat) (b c:Bool) (q:Nat),Rq l lq 3->Rq u uq 3->rb lq 3->rb uq 3->(c=true->lq<=uq)->q<=d.l.length->ColVR d ⟨g1.1,b,l,c,u,g1.2.1,lq,uq,q⟩:=λl lq u uq b c q hl hu bl bu hlu hq=>
  ⟨⟨Cr.rq hg (hgb.le dC),hl,hu⟩,λ⟨⟨_,hc⟩,hlt⟩=>absurd hlt (by have:=hlu hc;grind),hgb.le dC,bl,bu,hq,hg⟩
 refine vjn (λ_=>true) (λ_:Bool×RatM×Rat×Nat=>[(4,.c (iC k.1)),(0,.c (.p 0 0)),(2,.c (.p 1 0)),(3,.c (.p 2 0))]) (λx=>tcB d x.2.2.2 (bHt g1.1 x.1 x.2.1 false default)) (λx=>Rq x.2.1 x.2.2.1 1/\rb x.2.2.1 1/\x.2.2.2<=d.l.length) ?_
 refine⟨⟨λh1=>aA gT mxd ⟨λh2=>aA gT mxd ⟨[0],aRa d k.2 hd hp2,rfl,rfl,rfl,λg2 ⟨⟨hg2,hb2⟩,hp3⟩=>⟨(true,g2.1,g2.2.1,g2.2.2),⟨Cr.rq hg2 hb2,hb2,hp3⟩,rfl,rfl,rfl,rfl,rfl,rfl⟩⟩,λh2=>aA gT mxd ⟨(true,default,0,k.2),⟨vJ,z1,hp2⟩,rfl,rfl,rfl,rfl,rfl,rfl⟩⟩,λh1=>aA gT mxd ⟨(false,default,0,k.2),⟨vJ,z1,hp2⟩,rfl,rfl,rfl,rfl,rfl,rfl⟩⟩,λ⟨b,l,lq,q⟩ ⟨hl,bl,hq⟩=>?_⟩
 have hb3:∀r:Int,0<=r/\r<5->rb (lq+(r:Rat)) 3:=λr hr=>(aAm bl (bHu hr.1 oM)).le dC
 have hf3:∀(r:Int) (u:RatM) (b:Bool) (q:Nat),0<=r/\r<5->Cr u (lq+(r:Rat))->q<=d.l.length->ColVR d ⟨g1.1,b,l,true,u,g1.2.1,lq,lq+(r:Rat),q⟩:=λr u b q hr hu hq=>fin _ _ _ _ _ _ _ (hl.le dC) (Cr.rq hu (hb3 r hr)) (bl.le dC) (hb3 r hr) (λ_=>by
  have:(0:Rat)<=(r:Rat):=by exact_mod_cast hr.1
  grind) hq
 cases b
 all_goals
  exact⟨λh3=>aA gT mxd ⟨.treeX [] [2000,1,2002,2006] (trS [3,4,5,1007,2008,1009]),by kernel_rfl,[0],mT d q 5 hd hq dC dC,rfl,rfl,rfl,λr ⟨hr,hp3⟩=>⟨rfl,[],tC (z:=r.1) oM,rfl,rfl,rfl,λf hf=>⟨rfl,[],aQr l f (hl.le dC) (Cr.rq hf ((bHu hr.1 oM).le dC)),rfl,rfl,rfl,λu hu=>⟨rfl,⟨g1.1,_,l,true,u,g1.2.1,lq,lq+(r.1:Rat),r.2⟩,hf3 r.1 u _ r.2 hr hu hp3,fH rfl rfl bL (aB rfl aY) rfl (eW rfl)⟩⟩⟩⟩,λh3=>aA gT mxd ⟨⟨g1.1,_,l,false,default,g1.2.1,lq,0,q⟩,fin _ _ _ _ _ _ _ (hl.le dC) vJ (bl.le dC) z3 (λh=>by cases h) hq,fH rfl rfl bL (aB rfl aY) rfl (eW rfl)⟩⟩
theorem cBf (d:Sl Int) (p:Nat) (hd:d.l.length<=9223372036854775807) (hp:p<=d.l.length):Ctr Tryz.prog aVt [true] [.c (.p 0 0)] (tpB d p) (λg:ColV=>⟨.a g.M.C,tpB d g.p,ColVR d g⟩):=CtrF.ld (cBe d p hd hp) λg hg=>⟨g,hg,λ_ _ _ _ h=>LeL.hd bOp rfl h,rfl,rfl⟩
end Go.Proofs.YtghncoghdcmdfaaGreat
