/- THE STATEMENT BasisExtends of the program's law 13 is proved: for every input the law returns true; it has no conditions. Part 3 of 7: Vym Vyn Vyo Vyp Tb Vyq Vyr Vys Vyu Vyv Vyw Ua Da Db Pa Pb Dc Pc Pd Pe Pf Dd. -/
import Derived.Laws.StructEq
import Derived.ChangeKeysEq
import Derived.KernelRfl
import Derived.Test.YtghncoghdcmdfaaGreatRows
import Derived.RangeFuncSeq
import Derived.RangeFuncLeaves
import Derived.Shelf.Small.Bits
import Derived.Test.YtghncoghdcmdfaaGreatG2
set_option maxHeartbeats 4000000
set_option linter.unusedVariables false
set_option linter.unusedSimpArgs false
namespace Go.Vy
open Go.Vg Go.RowKit
/-! ### the table -/
inductive Shp where
 |slice (e:Nat)
 |bool
 |str
 |int (k:IntKind)
 |struct (l:List (Nat×Nat))
 |array (n e:Nat)
 |other
def shp:TypeDesc->Shp
 |.slice e=> .slice e
 |.bool=> .bool
 |.string=> .str
 |.int k=> .int k
 |.struct F=> .struct (F.toList.map λf=>(f.offset,f.type))
 |.array n e=> .array n e
 |_=> .other
def aIo (ti:TI):Shp:=match ti.ar with
 |some (n,e,_)=> .array n e
 |none=>match ti.el with
 |some e=> .slice e
 |none=>bif ti.bo then .bool else bif ti.str then .str else match ti.ik with
  |some k=> .int k
  |none=>match ti.fs with
   |[]=> .other
   |l=> .struct (l.map λf=>(f.off,f.ty))
def zv (ti:TI):Value:=bif ti.agg then .agg ti.zero.toArray else ti.zero.headD undef
def bCa (P:Program) (t:Nat):Option (Option Value×Nat×Nat)×Option Shp×Bool:=((P.info? t).map λi=>(i.zero,i.size,i.bytes),(P.underlying t).map shp,aCi P t)
def bCb (ti:TI):Option (Option Value×Nat×Nat)×Option Shp×Bool:=(some (some (zv ti),ti.size,ti.by'),some (aIo ti),ti.agg)
def bUi:Option TypeDesc->Bool
 |some (.pointer _)=>true
 |_=>false
theorem bLr {o:Option TypeDesc} (h:bUi o=true):∃e,o=some (.pointer e):=by
 unfold bUi at h
 split at h
 ·exact⟨_,rfl⟩
 cases h
def look:List (Nat×TI)->TT
 |[],_=>none
 |(k,i)::l,t=>bif Nat.beq k t then some i else look l t
def chk (tab:List (Nat×TI)) (e:Nat×TI):Bool:=
 Nat.beq e.2.zero.length e.2.size&&((match e.2.ar with
  |some (_,el,es)=>e.2.el.isNone&&(!e.2.bo&&(!e.2.str&&(e.2.ik.isNone&&(e.2.fs.isEmpty&&match look tab el with
   |some tf=>Nat.beq tf.size es
   |none=>false))))
  |none=>true)&&(e.2.zero.all Value.oneCell'&&((e.2.agg||Nat.beq e.2.size 1)&&((e.2.el.isNone||(!e.2.bo&&(!e.2.str&&(e.2.ik.isNone&&e.2.fs.isEmpty))))&&((!e.2.bo||(!e.2.str&&(e.2.ik.isNone&&e.2.fs.isEmpty)))&&((!e.2.str||(e.2.ik.isNone&&e.2.fs.isEmpty))&&((e.2.ik.isNone||e.2.fs.isEmpty)&&e.2.fs.all λfi=>match look tab fi.ty with
  |some tf=>Nat.beq tf.size fi.size&&(tf.agg==fi.agg)
  |none=>false)))))))
section tab
variable {P:Program} {tab:List (Nat×TI)}
theorem wW {l:List (Nat×TI)} {t:Nat} {i:TI} (h:look l t=some i):(t,i)∈l:=by
 induction l with
 |nil=>cases h
 |cons e l ih=>
  obtain⟨k,e⟩:=e
  unfold look at h
  cases hb:Nat.beq k t with
  |true=>
   rw[hb] at h
   injection h with h
   have:=aK hb
   subst this h
   exact .head _
  |false=>rw[hb] at h;exact .tail _ (ih h)
theorem aXq {d:TypeDesc} {e:Nat} (h:shp d= .slice e):d= .slice e:=by
 cases d<;>simp[shp] at h
 subst h;rfl
theorem bCc {d:TypeDesc} (h:shp d= .bool):d= .bool:=by
 cases d<;>simp[shp] at h
 rfl
theorem bLs {d:TypeDesc} (h:shp d= .str):d= .string:=by
 cases d<;>simp[shp] at h
 rfl
theorem aTw {d:TypeDesc} {k:IntKind} (h:shp d= .int k):d= .int k:=by
 cases d<;>simp[shp] at h
 subst h;rfl
theorem aXr {d:TypeDesc} {n e:Nat} (h:shp d= .array n e):d= .array n e:=by
 cases d<;>simp[shp] at h
 obtain⟨rfl,rfl⟩:=h;rfl
theorem aPn {d:TypeDesc} {l:List (Nat×Nat)} (h:shp d= .struct l):∃F,d= .struct F/\F.toList.map (λf=>(f.offset,f.type))=l:=by
 cases d<;>simp[shp] at h
 exact⟨_,rfl,h⟩
def mvP (P:Program) (t:Nat):Option (Option Shp×Option (Option Value×Nat)):=match P.underlying t with
 |some (.map k e)=>some ((P.underlying k).map shp,(P.info? e).map λi=>(i.zero,i.size))
 |_=>none
def mvW (z:Value):Option (Option Shp×Option (Option Value×Nat)):=some (some (.int .i64),some (some z,1))
theorem cFi {P:Program} {t:Nat} {z:Value} (h:mvP P t=mvW z):∃k e b,P.underlying t=some (.map k e)/\P.underlying k=some (.int .i64)/\TyI P e 1 b z:=by
 unfold mvP mvW at h
 split at h
 ·next k e hu=>
  injection h with h
  injection h with h1 h2
  cases hk:P.underlying k with
  |none=>rw[hk] at h1;cases h1
  |some d=>
   rw[hk] at h1
   injection h1 with h1
   cases hi:P.info? e with
   |none=>rw[hi] at h2;cases h2
   |some i=>
    rw[hi] at h2
    injection h2 with h2
    injection h2 with h2 h3
    exact⟨k,e,i.bytes,hu,by rw[hk,aTw h1],TyI.of (by rw[hi];simp only[Option.map_some];rw[h2,h3])⟩
 cases h
theorem bLt (h:tab.map (λe=>bCa P e.1)=tab.map (λe=>bCb e.2)) (hb:tab.all (chk tab)=true) (hq:∀e∈tab,∀vs,ckF e.2.ck vs=true->CkP P e.1 vs) (hmp:∀e∈tab,e.2.mp=true->∃k e',P.underlying e.1=some (.map k e')/\P.underlying k=some (.int .i64)) (hpt:tab.all (λe=>!e.2.pt||bUi (P.underlying e.1))=true) (hmv:tab.map (λe=>bif e.2.mv.isSome then mvP P e.1 else none)=tab.map (λe=>e.2.mv.bind mvW)):Good P (look tab):=λt ti ht=>by
 have row:∀{t:Nat} {ti:TI},look tab t=some ti->bCa P t=bCb ti/\chk tab (t,ti)=true:=λ{t ti} ht=>by
  have hm:=wW ht
  refine⟨?_,aV.1 hb _ hm⟩
  obtain⟨i,hi⟩:=cT hm
  have h1:=congrArg (λl=>l[i]?) h
  simp only[dW,hi,Option.map_some] at h1
  injection h1
 obtain⟨hr,hc⟩:=row ht
 have hty:∀{t:Nat} {ti:TI},bCa P t=bCb ti->TyI P t ti.size ti.by' (zv ti)/\(∃d,P.underlying t=some d/\shp d=aIo ti)/\aCi P t=ti.agg:=λ{t ti} hr=>by
  unfold bCa bCb at hr
  injection hr with h1 h2
  injection h2 with h2 h3
  refine⟨TyI.of h1,?_,h3⟩
  cases hd:P.underlying t with
  |none=>rw[hd] at h2;cases h2
  |some d=>rw[hd] at h2;injection h2 with h2;exact⟨d,rfl,h2⟩
 obtain⟨k1,⟨d,k2,k3⟩,k4⟩:=hty hr
 simp only[chk,aP,iW,dO] at hc
 obtain⟨c1,c0,c2,c3,c4,c5,c6,c7,c8⟩:=hc
 have hna:(ti.el.isSome=true\/ti.bo=true\/ti.str=true\/ti.ik.isSome=true\/ti.fs.isEmpty=false)->ti.ar=none:=λhh=>by
  cases har:ti.ar with
  |none=>rfl
  |some q=>
   obtain⟨n,e,es⟩:=q
   rw[har] at c0
   simp only[aP,dO] at c0
   obtain⟨d1,d2,d3,d4,d5,_⟩:=c0
   rcases hh with h|h|h|h|h
   ·rw[sW.1 d1] at h;cases h
   ·rw[d2] at h;cases h
   ·rw[d3] at h;cases h
   ·rw[sW.1 d4] at h;cases h
   rw[d5] at h;cases h
 have c1':=aK c1
 refine⟨⟨d,k2⟩,k4,⟨zv ti,k1,?_⟩,c1',c2,λe he=>?_,λn e es har=>?_,λhbo=>?_,λhs=>?_,λk hk=>?_,?_,hq _ (wW ht),hmp _ (wW ht),λhp=>bLr (by have:=aV.1 hpt _ (wW ht);rw[hp] at this;exact this),λz hz=>cFi (by
  obtain⟨i,hi⟩:=cT (wW ht)
  have h1:=congrArg (λl=>l[i]?) hmv
  simp only[dW,hi,Option.map_some,hz,Option.isSome_some,cond_true,Option.bind_some] at h1
  injection h1)⟩
 ·unfold zv
  cases ha:ti.agg with
  |true=>rfl
  |false=>
   rw[ha] at c3
   have hl:ti.zero.length=1:=by
    rcases c3 with h|h
    ·cases h
    rw[c1',aK h]
   match hz:ti.zero,hl with
   |[z],_=>
    rw[hz] at c2
    simp only[List.all_cons,List.all_nil,Bool.and_true] at c2
    exact zS c2
 ·rw[k2];congr 1;apply aXq;rw[k3];simp[aIo,he,hna (.inl (by rw[he];rfl))]
 ·refine⟨by rw[k2];congr 1;apply aXr;rw[k3];simp[aIo,har],?_⟩
  rw[har] at c0
  simp only[aP] at c0
  have h6:=c0.2.2.2.2.2
  split at h6
  ·next tf htf=>
   have:=aK h6
   exact⟨tf.by',zv tf,by rw[<-this];exact(hty (row htf).1).1⟩
  cases h6
 ·have hel:ti.el=none:=by
   rcases c4 with h|h
   ·simpa using h
   rw[h.1] at hbo;cases hbo
  rw[k2];congr 1;apply bCc;rw[k3];simp[aIo,hel,hbo,hna (.inr (.inl hbo))]
 ·have hel:ti.el=none:=by
   rcases c4 with h|h
   ·simpa using h
   rw[h.2.1] at hs;cases hs
  have hbo:ti.bo=false:=by
   rcases c5 with h|h
   ·exact h
   rw[h.1] at hs;cases hs
  rw[k2];congr 1;apply bLs;rw[k3];simp[aIo,hel,hbo,hs,hna (.inr (.inr (.inl hs)))]
 ·have hel:ti.el=none:=by
   rcases c4 with h|h
   ·simpa using h
   have:=h.2.2.1;rw[hk] at this;cases this
  have hbo:ti.bo=false:=by
   rcases c5 with h|h
   ·exact h
   have:=h.2.1;rw[hk] at this;cases this
  have hs:ti.str=false:=by
   rcases c6 with h|h
   ·exact h
   have:=h.1;rw[hk] at this;cases this
  rw[k2];congr 1;apply aTw;rw[k3];simp[aIo,hel,hbo,hs,hk,hna (.inr (.inr (.inr (.inl (by rw[hk];rfl)))))]
 cases hf:ti.fs with
 |nil=>exact .inl rfl
 |cons f0 fr=>
  right
  have hne:ti.fs.isEmpty=false:=by rw[hf];rfl
  have hel:ti.el=none:=by
   rcases c4 with h|h
   ·simpa using h
   have:=h.2.2.2;rw[hne] at this;cases this
  have hbo:ti.bo=false:=by
   rcases c5 with h|h
   ·exact h
   have:=h.2.2;rw[hne] at this;cases this
  have hs:ti.str=false:=by
   rcases c6 with h|h
   ·exact h
   have:=h.2;rw[hne] at this;cases this
  have hk:ti.ik=none:=by
   rcases c7 with h|h
   ·simpa using h
   rw[hne] at h;cases h
  have hsh:aIo ti= .struct (ti.fs.map λf=>(f.off,f.ty)):=by simp[aIo,hel,hbo,hs,hk,hf,hna (.inr (.inr (.inr (.inr hne))))]
  obtain⟨F,hF,hmap⟩:=aPn (k3.trans hsh)
  subst hF
  rw[<-hf]
  have hlen:F.toList.length=ti.fs.length:=by simpa using congrArg List.length hmap
  refine⟨F,k2,by rw[<-hlen];simp,λk fi hk=>?_⟩
  have h1:=congrArg (λl=>l[k]?) hmap
  simp only[dW,hk,Option.map_some] at h1
  have hkl:k<F.toList.length:=by rw[hlen];exact eG hk
  have h2:=aG hkl
  rw[h2] at h1
  injection h1 with h1
  injection h1 with e1 e2
  refine⟨F.toList[k],by rw[<-eN];exact h2,e1,e2,?_⟩
  have hfc:=aV.1 c8 fi (aR hk)
  split at hfc
  ·next tf htf=>
   simp only[aP,beq_iff_eq] at hfc
   obtain⟨m1,⟨d',m2,_⟩,m4⟩:=hty (row htf).1
   have:=aK hfc.1
   exact⟨by rw[m4,hfc.2],⟨d',m2⟩,tf.by',zv tf,by rw[<-this];exact m1⟩
  cases hfc
end tab
/-! ### what changes -/
def EqV:CV->CV->Prop
 |.v (.int k a),.v (.int k' b)=>bif decide (k=k') then a=b else False
 |.b p _,.b q _=>(p↔q)
 |.v (.bool b),.b q _=>(b=true↔q)
 |.s i n,.s j m=>bif Nat.beq i j then n=m else False
 |.v (.slice none 0 0),.r A n c _ _=>A=none/\n=0/\c=0
 |.v (.slice none 0 0),.h A n c=>A=none/\n=0/\c=0
 |_,.u=>True
 |x,y=>x=y
def EqE:DV->DV->Prop
 |.c x,.c y=>EqV x y
 |_,.c .u=>True
 |x,y=>x=y
def EqT:List DV->List DV->Prop
 |[a],[b]=>EqE a b
 |a::l,b::m=>EqE a b/\EqT l m
 |l,m=>l=m
def EqD:DV->DV->Prop
 |.t l,.t m=>EqT l m
 |x,y=>EqE x y
theorem EqV.refl (c:CV):EqV c c:=by
 cases c with
 |v x=>cases x<;>first|rfl|(simp[EqV])
 |b p h=>exact lF
 |s i n=>simp[EqV,fV]
 |u=>trivial
 |_=>rfl
theorem EqE.refl (d:DV):EqE d d:=by
 cases d with
 |c c=>exact EqV.refl c
 |a l=>rfl
 |t l=>rfl
theorem EqT.refl:∀l:List DV,EqT l l
 |[]=>rfl
 |[a]=>EqE.refl a
 |a::b::l=>⟨EqE.refl a,EqT.refl (b::l)⟩
theorem EqD.refl (d:DV):EqD d d:=by
 cases d with
 |c c=>exact EqV.refl c
 |a l=>rfl
 |t l=>exact EqT.refl l
theorem EqV.hc {ρ:Pl} {n:Nat} {w:World} {x y:CV} {v:Value} (h:EqV x y) (hx:Hc ρ n w x v):Hc ρ n w y v:=by
 unfold EqV at h
 split at h
 ·next k a k' b=>
  cases hk:decide (k=k') with
  |false=>rw[hk] at h;exact h.elim
  |true=>rw[hk] at h;have:=of_decide_eq_true hk;simp only[cond_true] at h;subst this h;exact hx
 ·next p hp q hq=>
  have:=hx.inv_b
  subst this
  rw[decide_eq_decide.2 h]
  exact Rc.b _ _
 ·next b q hq=>
  have:=hx.inv_v
  subst this
  rw[show b=decide q by rw[qU,h];simp]
  exact Rc.b _ _
 ·next i n' j m=>
  cases hk:Nat.beq i j with
  |false=>rw[hk] at h;exact h.elim
  |true=>rw[hk] at h;have:=aK hk;simp only[cond_true] at h;subst this h;exact hx
 ·obtain⟨rfl,rfl,rfl⟩:=h
  rw[hx.inv_v]
  exact Rc.nil _ _ _ _ (aC _)
 ·obtain⟨rfl,rfl,rfl⟩:=h
  rw[hx.inv_v]
  exact Rc.h none 0 0
 ·exact Rc.u _
 rw[<-h];exact hx
theorem EqE.hd {ρ:Pl} {n:Nat} {w:World} {x y:DV} {v:Value} (h:EqE x y) (hx:Hd ρ n w x v):Hd ρ n w y v:=by
 unfold EqE at h
 split at h
 ·exact .c (h.hc hx.inv_c)
 ·exact .c (Rc.u _)
 rw[<-h];exact hx
theorem EqT.get:∀{l m:List DV},EqT l m->m.length=l.length/\∀(i:Nat) (d':DV),m[i]? =some d'->∃d,l[i]? =some d/\EqE d d':=λ{l m} h=>by
 induction l generalizing m with
 |nil=>cases m with
  |nil=>exact⟨rfl,λi d' h=>by cases h⟩
  |cons b m=>cases (show([]:List DV)=b::m from h)
 |cons a l ih=>
  cases m with
  |nil=>cases l with
   |nil=>cases (show [a]=[] from h)
   |cons a' l=>cases (show a::a'::l=[] from h)
  |cons b m=>
   have key:EqE a b/\EqT l m:=by
    cases l with
    |nil=>cases m with
     |nil=>exact⟨h,rfl⟩
     |cons b' m=>exact h
    |cons a' l=>cases m with
     |nil=>exact h
     |cons b' m=>exact h
   obtain⟨h1,h2⟩:=ih key.2
   refine⟨by simp[h1],λi d' hi=>?_⟩
   cases i with
   |zero=>injection hi with hi;subst hi;exact⟨a,rfl,key.1⟩
   |succ i=>exact h2 i d' hi
theorem EqD.hd {ρ:Pl} {n:Nat} {w:World} {x y:DV} {v:Value} (h:EqD x y) (hx:Hd ρ n w x v):Hd ρ n w y v:=by
 unfold EqD at h
 split at h
 ·next l m=>
  cases hx with
  |t h0 hh=>
   obtain⟨h1,h2⟩:=h.get
   refine .t (h1.trans h0) λi d u hi hu=>?_
   obtain⟨d0,h3,h4⟩:=h2 i d hi
   exact h4.hd (hh i d0 u h3 hu)
 exact h.hd hx
section mt
variable {P:Program} {T:TT} {nb N:Nat} {s:SS} {K:Kt} {c a b:Code}
def AllC (sl:List (Nat×DV)):List (Nat×DV)->Prop
 |[]=>True
 |[(t,d)]=>(match fZ sl t with
  |some d0=>EqD d0 d
  |none=>False)
 |(t,d)::l=>(match fZ sl t with
  |some d0=>EqD d0 d
  |none=>False)/\AllC sl l
theorem AllC.get {sl:List (Nat×DV)}:∀{l:List (Nat×DV)},AllC sl l->∀{t:Nat} {d:DV},fZ l t=some d->∃d0,fZ sl t=some d0/\EqD d0 d
 |[],_,t,d,h=>by cases h
 |(t0,d0)::l,ha,t,d,h=>by
  have h1:(match fZ sl t0 with|some d=>EqD d d0|none=>False)/\AllC sl l:=by
   cases l with
   |nil=>exact⟨ha,trivial⟩
   |cons e l=>exact ha
  simp only[fZ] at h
  cases hb:Nat.beq t0 t with
  |true=>
   rw[hb] at h
   injection h with h
   subst h
   have:=aK hb
   subst this
   have h2:=h1.1
   split at h2
   ·next d' hd'=>exact⟨d',hd',h2⟩
   exact h2.elim
  |false=>rw[hb] at h;exact AllC.get h1.2 h
def wB (M:Nat->Bool):List (Nat×DV)->(List (Nat×DV)->Prop)->Prop
 |[],k=>k []
 |(t,d)::l,k=>bif M t then wB M l k else wB M l λr=>k ((t,d)::r)
theorem qA {M:Nat->Bool}:∀{l:List (Nat×DV)} {k:List (Nat×DV)->Prop},wB M l k->∃b,k b/\∀t d,fZ b t=some d->fZ l t=some d/\M t=false
 |[],k,h=>⟨[],h,λt d h=>by cases h⟩
 |(t0,d0)::l,k,h=>by
  unfold wB at h
  cases hm:M t0 with
  |true=>
   rw[hm] at h
   obtain⟨b,h1,h2⟩:=qA (show wB M l k from h)
   refine⟨b,h1,λt d ht=>?_⟩
   obtain⟨h3,h4⟩:=h2 t d ht
   refine⟨?_,h4⟩
   unfold fZ
   cases hb:Nat.beq t0 t with
   |true=>rw[aK hb,h4] at hm;cases hm
   |false=>exact h3
  |false=>
   rw[hm] at h
   obtain⟨b,h1,h2⟩:=qA (show wB M l _ from h)
   refine⟨_,h1,λt d ht=>?_⟩
   unfold fZ at ht ⊢
   cases hb:Nat.beq t0 t with
   |true=>rw[hb] at ht;exact⟨ht,by rw[<-aK hb];exact hm⟩
   |false=>rw[hb] at ht;exact h2 t d ht
def wD (M:Nat->Bool) (base:List (Nat×DV)) (fl fl':List Fam):List (Nat×DV)->Prop
 |[]=>([],fl')=(base,fl)
 |(t,d)::l=>bif M t then wD M base fl fl' l else ((t,d)::l,fl')=(base,fl)
theorem qB {M:Nat->Bool} {base:List (Nat×DV)} {fl fl':List Fam}:∀{l:List (Nat×DV)},wD M base fl fl' l->(∀t,M t=false->fZ l t=fZ base t)/\fl'=fl
 |[],h=>by injection (show([],fl')=(base,fl) from h) with h1 h2;exact⟨λt _=>by rw[h1],h2⟩
 |(t0,d0)::l,h=>by
  unfold wD at h
  cases hm:M t0 with
  |true=>
   rw[hm] at h
   obtain⟨h1,h2⟩:=qB (show wD M base fl fl' l from h)
   refine⟨λt ht=>?_,h2⟩
   show(bif Nat.beq t0 t then some d0 else fZ l t)=fZ base t
   cases hb:Nat.beq t0 t with
   |true=>rw[aK hb,ht] at hm;cases hm
   |false=>exact h1 t ht
  |false=>
   rw[hm] at h
   simp only[cond_false] at h
   injection h with h1 h2
   exact⟨λt _=>by rw[h1],h2⟩
def Mt (M:Nat->Bool) (base:List (Nat×DV)) (fl:List Fam) (s:SS) (chg:List (Nat×DV)) (bl:BL):Prop:=wD M base fl s.fl s.sl/\s.bl=bl/\AllC s.sl chg
theorem qC {l m:List (Nat×DV)} {t:Nat} {d:DV} (h:fZ (l++m) t=some d):fZ l t=some d\/(fZ l t=none/\fZ m t=some d):=by
 induction l with
 |nil=>exact .inr ⟨rfl,h⟩
 |cons e l ih=>
  obtain⟨t0,d0⟩:=e
  simp only[List.cons_append,fZ] at h ⊢
  cases hb:Nat.beq t0 t with
  |true=>rw[hb] at h;exact .inl h
  |false=>rw[hb] at h;exact ih h
theorem bCd {s s':SS} (hb:s.bl=s'.bl) (hl:s.fl=s'.fl) (hg:s'.gl=[]) (h:∀t d,fZ s'.sl t=some d->∃d0,fZ s.sl t=some d0/\EqD d0 d):Sub s s':=λρ0 w0 nb ρ f w hD=>by
 refine⟨by rw[<-hb];exact hD.m,⟨λt d ht=>?_,λt gs d ht=>?_⟩,hD.l.trans hl⟩
 ·obtain⟨d0,h1,h2⟩:=h t d ht
  rw[<-hb]
  exact h2.hd (hD.f.sl t d0 h1)
 rw[hg] at ht;cases ht
theorem Mt.sub {M:Nat->Bool} {base chg:List (Nat×DV)} {bl:BL} {fl:List Fam} (h:Mt M base fl s chg bl) (hM:∀t d,fZ base t=some d->M t=false):Sub s ⟨chg++base,[],bl,fl⟩:=
 bCd h.2.1 (qB h.1).2 rfl λt d ht=>by
  rcases qC ht with h1|⟨h1,h2⟩
  ·exact h.2.2.get h1
  exact⟨d,by rw[(qB h.1).1 t (hM t d h2)];exact h2,.refl d⟩
theorem kQ (M:Nat->Bool) {σ:Type} (chg:σ->List (Nat×DV)) (bls:σ->BL) (C:σ->Prop) (μ:σ->Nat) (g0:σ)
 (h:wB M s.sl λbase=>(C g0/\s.bl=bls g0/\AllC s.sl (chg g0))/\∀g,C g->Sd P nb N c ⟨λs'=>∃g',(C g'/\μ g'<μ g)/\Mt M base s.fl s' (chg g') (bls g'),K.ext,K.ret⟩ ⟨chg g++base,[],bls g,s.fl⟩):Sd P nb N (.loop c) K s:=by
 obtain⟨base,⟨⟨h0,hb,ha⟩,hr⟩,hk⟩:=qA h
 refine Sd.loop (λg=>⟨chg g++base,[],bls g,s.fl⟩) C μ g0 h0 (bCd hb rfl rfl λt d ht=>?_) λg hg=>?_
 ·rcases qC ht with h1|⟨h1,h2⟩
  ·exact ha.get h1
  exact⟨d,(hk t d h2).1,.refl d⟩
 intro ρ0 w0 ρ f w Q hL hD
 exact hr g hg ρ0 w0 ρ f w Q ⟨λs' ρ' f' w' ⟨g',hc,hm⟩ hD'=>hL.nrm s' ρ' f' w' ⟨g',hc,hm.sub λt d ht=>(hk t d ht).2⟩ hD',hL.ext,hL.ret⟩ hD
theorem vjn (M:Nat->Bool) {σ:Type} (chg:σ->List (Nat×DV)) (bls:σ->BL) (C:σ->Prop) {p:Prop}
 (h:wB M s.sl λbase=>((p->Sd P nb N a ⟨λs'=>∃g,C g/\Mt M base s.fl s' (chg g) (bls g),K.ext,K.ret⟩ s)/\(¬p->Sd P nb N b ⟨λs'=>∃g,C g/\Mt M base s.fl s' (chg g) (bls g),K.ext,K.ret⟩ s))/\∀g,C g->K.nrm ⟨chg g++base,[],bls g,s.fl⟩):(p->Sd P nb N a K s)/\(¬p->Sd P nb N b K s):=by
 obtain⟨base,⟨⟨h1,h2⟩,h3⟩,hk⟩:=qA h
 have w:∀{c:Code},Sd P nb N c ⟨λs'=>∃g,C g/\Mt M base s.fl s' (chg g) (bls g),K.ext,K.ret⟩ s->Sd P nb N c ⟨To (λg=>⟨chg g++base,[],bls g,s.fl⟩) C,K.ext,K.ret⟩ s:=λ{c} h ρ0 w0 ρ f w Q hL hD=>
  h ρ0 w0 ρ f w Q ⟨λs' ρ' f' w' ⟨g',hc,hm⟩ hD'=>hL.nrm s' ρ' f' w' ⟨g',hc,hm.sub λt d ht=>(hk t d ht).2⟩ hD',hL.ext,hL.ret⟩ hD
 exact⟨λh=>(w (h1 h)).to h3,λh=>(w (h2 h)).to h3⟩
end mt
/-! ### what goes out -/
def scC (nb:Nat):CV->Bool
 |.p i _=>Nat.ble (i+1) nb
 |.s i _=>Nat.ble (i+1) nb
 |.t i _ _=>Nat.ble (i+1) nb
 |.f _ fi ca=>(fi++ca).all λp=>Nat.ble (p.1+1) nb
 |_=>true
def scD (nb:Nat):DV->Bool
 |.c c=>scC nb c
 |.a l=>l.all (scC nb)
 |.t l=>l.all λd=>match d with
  |.c c=>scC nb c
  |.a l=>l.all (scC nb)
  |.t _=>false
section fin
variable {ρ:Pl} {n nb:Nat} {w:World}
theorem Zf.less {b:Nat} (h:Zf ρ n w b) (hn:nb<=n):Zf ρ nb w b:=⟨h.lt,λi hi=>h.no i oM,h.z,h.nf⟩
theorem Hc.less {c:CV} {x:Value} (h:Hc ρ n w c x) (hs:scC nb c=true) (hn:nb<=n):Hc ρ nb w c x:=by
 cases c with
 |p i o=>obtain⟨_,h2⟩:=h;exact⟨bX hs,h2⟩
 |s i m=>obtain⟨_,h2⟩:=h;exact⟨bX hs,h2⟩
 |t i o m=>obtain⟨_,h2⟩:=h;exact⟨bX hs,h2⟩
 |q A m c esz get j o=>obtain⟨h1,h2⟩:=h;exact⟨h1.mono λb hb=>⟨hb.less hn,rfl⟩,h2⟩
 |f k fi ca=>obtain⟨h1,h2⟩:=h;exact⟨λp hp=>⟨bX (aV.1 hs p hp),(h1 p hp).2⟩,h2⟩
 |u=>exact Rc.mono h λb hb=>⟨hb.less hn,rfl⟩
 |v x=>exact Rc.mono h λb hb=>⟨hb.less hn,rfl⟩
 |h A n c=>exact Rc.mono h λb hb=>⟨hb.less hn,rfl⟩
 |hp b o=>exact Rc.mono h λb hb=>⟨hb.less hn,rfl⟩
 |b p q=>exact Rc.mono h λb hb=>⟨hb.less hn,rfl⟩
 |r A m c esz get=>exact Rc.mono h λb hb=>⟨hb.less hn,rfl⟩
theorem Hl.less {l:List CV} {vl:List Value} (h:Hl ρ n w l vl) (hs:∀c∈l,scC nb c=true) (hn:nb<=n):Hl ρ nb w l vl:=by
 induction l generalizing vl with
 |nil=>cases vl with
  |nil=>trivial
  |cons x vl=>exact h
 |cons c l ih=>cases vl with
  |nil=>exact h
  |cons x vl=>exact⟨h.1.less (hs c (.head _)) hn,ih h.2 λc hc=>hs c (.tail _ hc)⟩
theorem Hd.less {d:DV} {x:Value} (h:Hd ρ n w d x) (hs:scD nb d=true) (hn:nb<=n):Hd ρ nb w d x:=by
 cases h with
 |c h=>exact .c (h.less hs hn)
 |a h=>exact .a (h.less (λc hc=>aV.1 hs c hc) hn)
 |t h hh=>
  refine .t h λi d u h1 h2=>?_
  have h3:=aV.1 hs d (aR h1)
  have h4:=hh i d u h1 h2
  cases h4 with
  |c h=>exact .c (h.less h3 hn)
  |a h=>exact .a (h.less (λc hc=>aV.1 h3 c hc) hn)
  |t _ _=>cases h3
def bUj (cl:List Bool) (nb:Nat):Nat->BL->BL->Prop
 |0,_,[]=>True
 |n+1,(T,es,l)::bl,(T',es',l')::bl'=>(T=T'/\es=es'/\l=l'/\bif cl.headD false then l'.all fK=true else l'.all (scC nb)=true)/\bUj cl.tail nb n bl bl'
 |_,_,_=>False
theorem rS {c:CV} (h:fK c=true):scC nb c=true:=by
 cases c<;>first|rfl|cases h
theorem aTx:∀{cl:List Bool} {k:Nat} {bl bl':BL},bUj cl nb k bl bl'->bl'.length=k/\(∀(i:Nat) (T:TypeId) (es:Nat) (l:List CV),bl'[i]? =some (T,es,l)->bl[i]? =some (T,es,l)/\(∀c∈l,scC nb c=true)/\(cl[i]? =some true->∀c∈l,fK c=true))
 |cl,0,bl,[],_=>⟨rfl,λi T es l h=>by cases h⟩
 |cl,0,[],_::_,h=>h.elim
 |cl,0,_::_,_::_,h=>h.elim
 |cl,k+1,[],bl',h=>by cases bl'<;>exact h.elim
 |cl,k+1,(T0,e0,l0)::bl,[],h=>h.elim
 |cl,k+1,(T0,e0,l0)::bl,(T1,e1,l1)::bl',h=>by
  obtain⟨⟨rfl,rfl,rfl,h1⟩,h2⟩:=h
  obtain⟨k1,k2⟩:=aTx h2
  refine⟨by simp[k1],λi T es l hi=>?_⟩
  cases i with
  |zero=>
   injection hi with hi
   injection hi with e1 e2
   injection e2 with e2 e3
   subst e1 e2 e3
   refine⟨rfl,?_⟩
   cases cl with
   |nil=>exact⟨λc hc=>aV.1 h1 c hc,λh=>by cases h⟩
   |cons b cl=>
    cases b with
    |true=>exact⟨λc hc=>rS (aV.1 h1 c hc),λ_ c hc=>aV.1 h1 c hc⟩
    |false=>exact⟨λc hc=>aV.1 h1 c hc,λh=>by cases h⟩
  |succ i=>
   obtain⟨a1,a2,a3⟩:=k2 i T es l (by simpa using hi)
   refine⟨by simpa using a1,a2,λh=>a3 ?_⟩
   cases cl with
   |nil=>cases h
   |cons b cl=>simpa using h
theorem nofam {ρ:Pl}:∀b,Zf ρ n w b->Zf (⟨ρ.at',ρ.Z,[]⟩:Pl) n w b/\w.heap[b]? =w.heap[b]?:=λb h=>⟨⟨h.lt,h.no,h.z,λ⟨F,hF,_⟩=>by cases hF⟩,rfl⟩
theorem Kp.nofam {ρ:Pl}:Kp ρ n w ⟨ρ.at',ρ.Z,[]⟩ n w:=⟨aI _,λ_ _=>rfl,Go.Vy.nofam⟩
theorem DnW.nofam {ρ0 ρ:Pl} {w0:World} {bl:BL} (h:DnW ρ0 w0 nb bl ρ w):DnW ρ0 w0 nb bl ⟨ρ.at',ρ.Z,[]⟩ w:=
 ⟨λi T es l hi=>(h.ok i T es l hi).kp Kp.nofam (eG hi) λ_ _=>rfl,h.inj,h.fr,h.nbl,⟨h.rel.os,h.rel.tape,h.rel.output,h.rel.size,h.rel.block⟩,h.pl,h.zz,⟨λF hF=>(by cases hF),λi b _ _ ⟨F,hF,_⟩=>(by cases hF),λf f' F F' j j' b hf=>(by cases hf)⟩,λb ⟨F,hF,_⟩=>(by cases hF)⟩
theorem aM {cl:List Bool} {s:SS} {d:DV} {o:Out} (hd:EqD d o.d) (hs:scD nb o.d=true) (hb:bUj cl nb nb s.bl o.bl):Fin cl nb s d o:=λρ0 w0 ρ w v hD0 _ hv0=>by
 obtain⟨k1,k2⟩:=aTx hb
 have k3:o.F.bl.length=nb:=k1
 have hD:=hD0.nofam
 have hv:=hv0.kp Kp.nofam
 refine⟨⟨ρ.at',ρ.Z,[]⟩,⟨λi T es l hi=>?_,λi j b hi hj=>hD.inj i j b ?_ ?_,λi b h1 h2=>?_,?_,hD.rel,hD.pl,hD.zz,⟨λF hF=>(by cases hF),λi b _ _ ⟨F,hF,_⟩=>(by cases hF),λf f' F F' j j' b hf=>(by cases hf)⟩,λb ⟨F,hF,_⟩=>(by cases hF)⟩,?_,λi T es l hi hc=>(k2 i T es l hi).2.2 hc,rfl⟩
 ·obtain⟨a1,a2,_⟩:=k2 i T es l hi
  have hq:=hD.ok i T es l a1
  rw[k1]
  unfold Bq at hq ⊢
  cases hb:(ρ i).1 with
  |none=>simp only[hb] at hq ⊢;exact hq
  |some b=>
   simp only[hb] at hq ⊢
   obtain⟨vl,junk,q1,q2,q3⟩:=hq
   exact⟨vl,junk,q1,q2.less a2 hD.nbl,q3⟩
 ·have:=hD.nbl;omega
 ·have:=hD.nbl;omega
 ·omega
 ·omega
 rw[k1];exact(hd.hd hv).less hs hD.nbl
end fin
theorem oM {p:Prop} (h:p:=by omega):p:=h
theorem bL {a b:Nat} (h:Nat.ble a b=true:=by rfl):a<=b:=bX h
theorem wi {a z:Int} (h:(a=z/\-9223372036854775808<=z/\z<=9223372036854775807):=by (first|omega|(simp only[maxLen] at*;omega))):a=IntKind.i64.wrap z:=by rw[cEw h.2];exact h.1
def rn:List (Nat×Nat)->Nat->Bool
 |[],_=>false
 |(a,b)::l,t=>(Nat.ble a t&&Nat.ble t b)||rn l t
theorem ClB.one {T es:Nat} {l:List CV} (h:l.all fK=true):ClB [true] [(T,es,l)]:=λi T' es' l' hi _ c hc=>by
 cases i with
 |zero=>injection hi with hi;injection hi with _ hi;injection hi with _ hi;subst hi;exact aV.1 h c hc
 |succ i=>cases hi
theorem ClB.nil:ClB [] []:=λi T' es' l' hi _ c hc=>by cases hi
theorem ClB.cons {b:Bool} {cl:List Bool} {T es:Nat} {l:List CV} {bl:BL} (h:b=true->l.all fK=true) (hb:ClB cl bl):ClB (b::cl) ((T,es,l)::bl):=λi T' es' l' hi hc c hcc=>by
 cases i with
 |zero=>injection hi with hi;injection hi with _ hi;injection hi with _ hi;injection hc with hc;subst hi hc;exact aV.1 (h rfl) c hcc
 |succ i=>exact hb i T' es' l' (by simpa using hi) (by simpa using hc) c hcc
theorem Ctr.arg {P:Program} {q:FuncId} {cl:List Bool} {al al':List DV} {bl:BL} {σ:Type} {R:σ->Out} (h:Ctr P q cl al bl R) (ha:∀ρ n w vl,HL ρ n w al' vl->HL ρ n w al vl):Ctr P q cl al' bl R:=
 ⟨h.ent,h.clb,λρ w vals hv hD hF=>h.run ρ w vals (ha _ _ _ _ hv) hD hF⟩
theorem HL.cons {ρ:Pl} {n:Nat} {w:World} {d d':DV} {l l':List DV} (hd:∀v,Hd ρ n w d' v->Hd ρ n w d v) (hl:∀vl,HL ρ n w l' vl->HL ρ n w l vl):∀vl,HL ρ n w (d'::l') vl->HL ρ n w (d::l) vl
 |[],h=>h
 |v::vl,h=>⟨hd v h.1,hl vl h.2⟩
theorem Hd.nilr {ρ:Pl} {n:Nat} {w:World} {e:Nat} {get:Nat->List CV} (v:Value) (h:Hd ρ n w (.c (.v (.slice none 0 0))) v):Hd ρ n w (.c (.r none 0 0 e get)) v:=by
 rw[h.inv_c.inv_v]
 exact .c (Rc.nil _ _ _ _ (aC _))
section
variable {P:Program} {nb N:Nat} {cd:Code} {K:Kt} {s:SS}
theorem aPo (t:Nat) {A:Option Addr} {n c e:Nat} {get:Nat->List CV} (ht:fZ s.sl t=some (.c (.r A n c e get))) (h:n<=maxLen->Sd P nb N cd K s):Sd P nb N cd K s:=λρ0 w0 ρ f w Q hL hD=>by
 have:=(hD.f.sl t _ ht).inv_c.inv_r.2
 refine h ?_ ρ0 w0 ρ f w Q hL hD
 cases this with
 |nil=>exact aC _
 |r b o n c e get V hc hm=>omega
theorem aIp (t:Nat) (T es:Nat) (ht:fZ s.sl t=some (.c (.v (.slice none 0 0)))) (hes:0<es) (h:qW s.bl (T,es,[]) λbl'=>Sd P nb N cd K ⟨(t,.c (.s (cnt s.bl 0) 0))::s.sl,s.gl,bl',s.fl⟩):Sd P nb N cd K s:=λρ0 w0 ρ f w Q hL hD=>by
 have h':=mI h
 rw[xY] at h'
 have hp:∀b,((none,0):Option Nat×Nat).1=some b->w.heap.size<=b:=λb hb=>by cases hb
 have kp:Kp ρ s.bl.length w (wJ ρ s.bl.length (none,0)) (s.bl.length+1) w:=Kp.new hp (Ext.refl w)
 have hn:(s.bl++[(T,es,[])]).length=s.bl.length+1:=by simp
 refine h' ρ0 w0 (wJ ρ s.bl.length (none,0)) f w Q hL ⟨hD.m.new hp (Ext.refl w) ?_,⟨λt' d ht'=>?_,λt' gs d ht'=>?_⟩,hD.l⟩
 ·unfold Bq
  rw[jM]
  exact⟨rfl,rfl,hes⟩
 ·show Hd _ (s.bl++[(T,es,[])]).length w d (f t')
  rw[hn]
  simp only[fZ] at ht'
  cases hb:Nat.beq t t' with
  |true=>
   rw[hb] at ht'
   injection ht' with ht'
   subst ht'
   have:=aK hb
   subst this
   have he:=(hD.f.sl t _ ht).inv_c.inv_v
   refine .c ⟨bF _,?_⟩
   rw[jM,he]
   rfl
  |false=>rw[hb] at ht';exact(hD.f.sl t' d ht').kp kp
 show(_->Hd _ (s.bl++[(T,es,[])]).length w d (f t'))/\_
 rw[hn]
 exact⟨λhs=>((hD.f.gl t' gs d ht').1 hs).kp kp,(hD.f.gl t' gs d ht').2⟩
/-! ### a loop whose rounds have blocks of their own -/
def aPp:BL->BL->Prop
 |_,[]=>True
 |x::l,[y]=>x=y
 |x::l,y::m=>x=y/\aPp l m
 |[],_::_=>False
theorem yA:∀{bl bl':BL},aPp bl bl'->∃r,bl=bl'++r
 |bl,[],_=>⟨bl,rfl⟩
 |[],[_],h=>h.elim
 |[],_::_::_,h=>h.elim
 |x::l,[y],h=>⟨l,by rw[show x=y from h];rfl⟩
 |x::l,y::z::m,h=>by
  obtain⟨h1,h2⟩:=h
  obtain⟨r,hr⟩:=yA h2
  exact⟨r,by rw[h1,hr];rfl⟩
def scB (n:Nat) (bl:BL):Prop:=∀(i:Nat) (T:TypeId) (es:Nat) (l:List CV),bl[i]? =some (T,es,l)->∀c∈l,scC n c=true
theorem scB.nil {n:Nat}:scB n []:=λi T es l h=>by cases h
theorem scB.cons {n T es:Nat} {l:List CV} {bl:BL} (h:l.all (scC n)=true) (hb:scB n bl):scB n ((T,es,l)::bl):=λi T' es' l' hi c hc=>by
 cases i with
 |zero=>injection hi with hi;injection hi with _ hi;injection hi with _ hi;subst hi;exact aV.1 h c hc
 |succ i=>exact hb i T' es' l' (by simpa using hi) c hc
theorem DnW.drop {ρ0 ρ:Pl} {w0 w:World} {bl r:BL} (hD:DnW ρ0 w0 nb (bl++r) ρ w) (hs:scB bl.length bl) (hnb:nb<=bl.length):DnW ρ0 w0 nb bl ρ w:=by
 have hn:bl.length<=(bl++r).length:=by simp
 refine⟨λi T es l hi=>?_,λi j b hi hj=>hD.inj i j b oM oM,λi b h1 h2=>hD.fr i b h1 oM,hnb,hD.rel,hD.pl,hD.zz,hD.fam.mono rfl (λb hb=>⟨hb.less hn,rfl⟩) (λ_ _=>rfl) λi b hi hb=>hD.fam.own i b oM hb,hD.ffr⟩
 have hq:=hD.ok i T es l (by rw[bA (eG hi)];exact hi)
 unfold Bq at hq ⊢
 cases hb:(ρ i).1 with
 |none=>simp only[hb] at hq ⊢;exact hq
 |some b=>
  simp only[hb] at hq ⊢
  obtain⟨vl,junk,q1,q2,q3⟩:=hq
  exact⟨vl,junk,q1,q2.less (hs i T es l hi) hn,q3⟩
def MtD (M:Nat->Bool) (base:List (Nat×DV)) (fl:List Fam) (s:SS) (chg:List (Nat×DV)) (bl:BL):Prop:=wD M base fl s.fl s.sl/\aPp s.bl bl/\AllC s.sl chg
theorem wX {n:Nat} {l:List (Nat×DV)} (h:l.all (λe=>scD n e.2)=true) {t:Nat} {d:DV} (ht:fZ l t=some d):scD n d=true:=by
 induction l with
 |nil=>cases ht
 |cons e l ih=>
  obtain⟨t0,d0⟩:=e
  simp only[List.all_cons,aP] at h
  unfold fZ at ht
  cases hb:Nat.beq t0 t with
  |true=>rw[hb] at ht;injection ht with ht;subst ht;exact h.1
  |false=>rw[hb] at ht;exact ih h.2 ht
theorem aAd {s s':SS} {r:BL} (hb:s.bl=s'.bl++r) (hl:s.fl=s'.fl) (hg:s'.gl=[]) (hsc:scB s'.bl.length s'.bl) (h:∀t d,fZ s'.sl t=some d->(∃d0,fZ s.sl t=some d0/\EqD d0 d)/\scD s'.bl.length d=true):∀ρ0 w0 nb ρ f w,nb<=s'.bl.length->Dn ρ0 w0 nb s ρ f w->Dn ρ0 w0 nb s' ρ f w:=λρ0 w0 nb ρ f w hnb hD=>by
 have hm:=hD.m
 rw[hb] at hm
 refine⟨hm.drop hsc hnb,⟨λt d ht=>?_,λt gs d ht=>?_⟩,hD.l.trans hl⟩
 ·obtain⟨⟨d0,h1,h2⟩,h3⟩:=h t d ht
  have:=h2.hd (hD.f.sl t d0 h1)
  rw[hb] at this
  exact this.less h3 (by simp)
 rw[hg] at ht;cases ht
theorem bCe {c:Code} (M:Nat->Bool) {σ:Type} (n0:Nat) (chg:σ->List (Nat×DV)) (bls:σ->BL) (C:σ->Prop) (μ:σ->Nat) (g0:σ) (hn:∀g,(bls g).length=n0) (hnb:nb<=n0) (hsc:∀g,scB n0 (bls g)) (hcg:∀g,(chg g).all (λe=>scD n0 e.2)=true)
 (h:wB M s.sl λbase=>(base.all (λe=>scD n0 e.2)=true/\C g0/\aPp s.bl (bls g0)/\AllC s.sl (chg g0))/\∀g,C g->Sd P nb N c ⟨λs'=>∃g',(C g'/\μ g'<μ g)/\MtD M base s.fl s' (chg g') (bls g'),K.ext,K.ret⟩ ⟨chg g++base,[],bls g,s.fl⟩):Sd P nb N (.loop c) K s:=by
 obtain⟨base,⟨⟨hbs,h0,hb,ha⟩,hr⟩,hk⟩:=qA h
 have hall:∀g t d,fZ (chg g++base) t=some d->scD n0 d=true:=λg t d ht=>by
  rcases qC ht with h1|⟨_,h2⟩
  ·exact wX (hcg g) h1
  exact wX hbs h2
 intro ρ0 w0 ρ f w Q hL hD
 refine aYs (σ:=σ) (λg f w=>C g/\∃ρ,Dn ρ0 w0 nb ⟨chg g++base,[],bls g,s.fl⟩ ρ f w) μ g0 ⟨h0,ρ,?_⟩ λg f w ⟨hc,ρ,hD⟩=>?_
 ·obtain⟨r,hr'⟩:=yA hb
  refine aAd (s:=s) (s':=⟨chg g0++base,[],bls g0,s.fl⟩) (r:=r) hr' rfl rfl (by rw[hn];exact hsc g0) (λt d ht=>⟨?_,by rw[hn];exact hall g0 t d ht⟩) ρ0 w0 nb ρ f w (by rw[hn];exact hnb) hD
  rcases qC ht with h1|⟨h1,h2⟩
  ·exact ha.get h1
  exact⟨d,(hk t d h2).1,.refl d⟩
 refine hr g hc ρ0 w0 ρ f w _ ⟨λs' ρ' f' w' ⟨g',⟨hc',hlt⟩,hm⟩ hD'=>⟨g',⟨hc',ρ',?_⟩,hlt⟩,hL.ext,hL.ret⟩ hD
 obtain⟨r,hr'⟩:=yA hm.2.1
 refine aAd (s:=s') (s':=⟨chg g'++base,[],bls g',s.fl⟩) (r:=r) hr' (qB hm.1).2 rfl (by rw[hn];exact hsc g') (λt d ht=>⟨?_,by rw[hn];exact hall g' t d ht⟩) ρ0 w0 nb ρ' f' w' (by rw[hn];exact hnb) hD'
 rcases qC ht with h1|⟨h1,h2⟩
 ·exact hm.2.2.get h1
 exact⟨d,by rw[(qB hm.1).1 t (hk t d h2).2];exact h2,.refl d⟩
end
end Go.Vy
abbrev eW := @Go.Vy.ClB.one
abbrev aS := @Go.Vy.ClB.nil
abbrev aY := @Go.Vy.scB.nil
abbrev aB := @Go.Vy.scB.cons
namespace Go.Vy
open Go.Vg Go.RowKit
def Tgt (nb:Nat) (X:SS->Prop):Prop:=∀(s:SS) (σ:Type) (S:σ->SS) (C:σ->Prop),Gt nb s S C->(∀g,C g->X (S g))->X s
section gt
variable {P:Program} {nb N:Nat} {cd c:Code} {K:Kt} {s:SS} {X:SS->Prop}
theorem tSd:Tgt nb (Sd P nb N cd K):=λs σ S C h hk ρ0 w0 ρ f w Q hL hD=>by
 obtain⟨g,ρ',hC,hD'⟩:=h ρ0 w0 ρ f w hD
 exact hk g hC ρ0 w0 ρ' f w Q hL hD'
theorem tGt {σ:Type} {S:σ->SS} {C:σ->Prop}:Tgt nb λs=>Gt nb s S C:=λs σ S C h hk ρ0 w0 ρ f w hD=>by
 obtain⟨g,ρ',hC,hD'⟩:=h ρ0 w0 ρ f w hD
 exact hk g hC ρ0 w0 ρ' f w hD'
theorem Tgt.one (hX:Tgt nb X) {s':SS} (h:∀ρ0 w0 ρ f w,Dn ρ0 w0 nb s ρ f w->∃ρ',Dn ρ0 w0 nb s' ρ' f w) (hk:X s'):X s:=
 hX s Unit (λ_=>s') (λ_=>True) (λρ0 w0 ρ f w hD=>by obtain⟨ρ',h'⟩:=h ρ0 w0 ρ f w hD;exact⟨(),ρ',trivial,h'⟩) λ_ _=>hk
theorem aPq (hX:Tgt nb X) (t i:Nat) {n T es:Nat} {l:List CV} (get:Nat->List CV) (ht:fZ s.sl t=some (.c (.s i n))) (hb:s.bl[i]? =some (T,es,l)) (hg:∀j,j<n->get j=(l.drop (j*es)).take es) (hl:n*es=l.length) (hes:0<es) (hclo:∀c∈l,fK c=true) (hnb:nb<=i)
 (h:∀A c,n<=c->c<=maxLen->wR i s λs'=>mO s'.bl i (T,es,[]) λbl'=>X ⟨(t,.c (.r A n c es get))::s'.sl,[],bl',s'.fl⟩):X s:=by
 refine hX s SS (λg=>g) X (λρ0 w0 ρ f w hD=>?_) λg hg=>hg
 obtain⟨A,c,s',ρ',k1,k2,_,k4,k5,k6⟩:=aEf hD i get (hD.f.sl t _ ht).inv_c hb hg hl hes hclo hnb (kk:=λA c s'=>X ⟨(t,.c (.r A n c es get))::s'.sl,[],s'.bl,s'.fl⟩) h
 refine⟨_,ρ',k1,k2.m,⟨λt' d ht'=>?_,λt' gs d ht'=>by cases ht'⟩,k2.l⟩
 simp only[fZ] at ht'
 cases hb':Nat.beq t t' with
 |true=>
  rw[hb'] at ht'
  injection ht' with ht'
  subst ht'
  have:=aK hb'
  subst this
  rw[<-k4] at k6
  exact .c k6
 |false=>rw[hb'] at ht';exact k2.f.sl t' d ht'
theorem Hl.setv {ρ:Pl} {n:Nat} {w:World} {l:List CV} {vl:List Value} (h:Hl ρ n w l vl) {k:Nat} {c:CV} (hc:∀x,vl[k]? =some x->Hc ρ n w c x):Hl ρ n w (l.set k c) vl:=by
 refine Hl.of_get (by rw[bW,h.len]) λi c' u hc' hu=>?_
 rcases lH hc' with ⟨rfl,rfl,_⟩|⟨_,h2⟩
 ·exact hc u hu
 obtain⟨x,h3,h4⟩:=h.get h2
 rw[hu] at h3
 injection h3 with h3
 subst h3
 exact h4
theorem bQw (hX:Tgt nb X) (t k i:Nat) {n T es:Nat} {l:List CV} {r:List CV} (get:Nat->List CV) (ht:fZ s.sl t=some (.a r)) (hk:r[k]? =some (.s i n)) (ho:((r.set k .u).all λc=>!kU i c)=true) (hb:s.bl[i]? =some (T,es,l)) (hg:∀j,j<n->get j=(l.drop (j*es)).take es) (hl:n*es=l.length) (hes:0<es) (hclo:∀c∈l,fK c=true) (hnb:nb<=i)
 (h:∀A c,n<=c->c<=maxLen->wR i s λs'=>mO s'.bl i (T,es,[]) λbl'=>X ⟨(t,.a (r.set k (.r A n c es get)))::s'.sl,[],bl',s'.fl⟩):X s:=by
 refine hX s SS (λg=>g) X (λρ0 w0 ρ f w hD=>?_) λg hg=>hg
 obtain⟨vl,hvl,hrl⟩:=(hD.f.sl t _ ht).inv_a
 obtain⟨x,hx,hcx⟩:=hrl.get hk
 obtain⟨A,c,s',ρ',k1,k2,k3,k4,k5,k6⟩:=aEf hD i get hcx hb hg hl hes hclo hnb (kk:=λA c s'=>X ⟨(t,.a (r.set k (.r A n c es get)))::s'.sl,[],s'.bl,s'.fl⟩) h
 refine⟨_,ρ',k1,k2.m,⟨λt' d ht'=>?_,λt' gs d ht'=>by cases ht'⟩,k2.l⟩
 simp only[fZ] at ht'
 cases hb':Nat.beq t t' with
 |true=>
  rw[hb'] at ht'
  injection ht' with ht'
  subst ht'
  have:=aK hb'
  subst this
  rw[<-k4] at k6
  rw[hvl]
  refine .a ?_
  have h1:Hl ρ' s'.bl.length w (r.set k .u) vl:=by
   rw[k4]
   refine Hl.kx (ρ:=ρ) (w:=w) (hrl.setv λx _=>Rc.u x) k3 λc hc=>?_
   have:=aV.1 ho c hc
   simpa using this
  have h2:=h1.setv (k:=k) (c:=.r A n c es get) λy hy=>by
   rw[hx] at hy
   injection hy with hy
   subst hy
   exact k6
  rwa [List.set_set] at h2
 |false=>rw[hb'] at ht';exact k2.f.sl t' d ht'
theorem rT (t i:Nat) {n T es:Nat} {l:List CV} (get:Nat->List CV) (ht:fZ s.sl t=some (.c (.s i n))) (hb:s.bl[i]? =some (T,es,l)) (hg:∀j,j<n->get j=(l.drop (j*es)).take es) (hl:n*es=l.length) (hes:0<es) (hclo:∀c∈l,fK c=true) (hnb:nb<=i)
 (h:∀A c,n<=c->c<=maxLen->wR i s λs'=>mO s'.bl i (T,es,[]) λbl'=>Sd P nb N cd K ⟨(t,.c (.r A n c es get))::s'.sl,[],bl',s'.fl⟩):Sd P nb N cd K s:=aPq tSd t i get ht hb hg hl hes hclo hnb h
/-! ### families said otherwise -/
def Inj (fl:List Fam):Prop:=∀(f f':Nat) (F F':Fam) (j j' b:Nat),fl[f]? =some F->fl[f']? =some F'->j<F.N->j'<F'.N->F.A j=some b->F'.A j'=some b->f=f'/\j=j'
structure Fsub (fl fl':List Fam):Prop where
 sub:∀(f':Nat) (F':Fam),fl'[f']? =some F'->0<F'.es/\∀j',j'<F'.N->(F'.A j'=none/\F'.get j'=[]/\F'.cap j'=0)\/∃(f:Nat) (F:Fam) (j:Nat),fl[f]? =some F/\j<F.N/\F.A j=F'.A j'/\F.cap j=F'.cap j'/\F.get j=F'.get j'/\F.T=F'.T/\F.es=F'.es
 inj:Inj fl->Inj fl'
theorem Dn.fsub {ρ0 ρ:Pl} {w0 w:World} {f:Nat->Value} (hD:Dn ρ0 w0 nb s ρ f w) {fl':List Fam} (hs:Fsub s.fl fl'):∃ρ',Dn ρ0 w0 nb ⟨s.sl,s.gl,s.bl,fl'⟩ ρ' f w:=by
 have hl:=hD.l
 have hin:∀b,InL fl' b->InF ρ b:=λb ⟨F',hF',j',hj',hb⟩=>by
  obtain⟨f',hf'⟩:=cT hF'
  rcases (hs.sub f' F' hf').2 j' hj' with ⟨h1,_⟩|⟨f0,F,j,h1,h2,h3,_⟩
  ·rw[h1] at hb;cases hb
  exact⟨F,by rw[hl];exact aR h1,j,h2,by rw[h3];exact hb⟩
 have hz:∀b,Zf ρ s.bl.length w b->Zf ⟨ρ.at',ρ.Z,fl'⟩ s.bl.length w b/\w.heap[b]? =w.heap[b]?:=λb hb=>⟨⟨hb.lt,hb.no,hb.z,λhi=>hb.nf (hin b hi)⟩,rfl⟩
 have kp:Kp ρ s.bl.length w ⟨ρ.at',ρ.Z,fl'⟩ s.bl.length w:=⟨aI _,λ_ _=>rfl,hz⟩
 refine⟨⟨ρ.at',ρ.Z,fl'⟩,⟨λi T es l hi=>(hD.m.ok i T es l hi).kp kp (eG hi) λ_ _=>rfl,hD.m.inj,hD.m.fr,hD.m.nbl,⟨hD.m.rel.os,hD.m.rel.tape,hD.m.rel.output,hD.m.rel.size,hD.m.rel.block⟩,hD.m.pl,hD.m.zz,⟨λF hF=>?_,λi b hi hb hf=>hD.m.fam.own i b hi hb (hin b hf),?_⟩,λb hb=>hD.m.ffr b (hin b hb)⟩,hD.f.kp rfl rfl kp,rfl⟩
 ·obtain⟨f',hf'⟩:=cT hF
  refine⟨(hs.sub f' F hf').1,λj' hj'=>?_⟩
  rcases (hs.sub f' F hf').2 j' hj' with ⟨h1,h2,h3⟩|⟨f0,F0,j,h1,h2,h3,h4,h5,h6,h7⟩
  ·unfold Mq
   simp only[h1]
   exact⟨h2,h3⟩
  have:=(hD.m.fam.mem hl h1 h2).mono hz λ_ _=>rfl
  unfold Mq at this ⊢
  rw[h3,h4,h5,h6,h7] at this
  exact this
 exact hs.inj (by have:=hD.m.fam.inj;rw[hl] at this;exact this)
def yU (F:Fam):Fam:=⟨F.T,F.es,0,F.A,F.cap,F.get⟩
theorem aEm {ρ0 ρ:Pl} {w0 w:World} {f:Nat->Value} (hD:Dn ρ0 w0 nb s ρ f w) {g:Nat} {F:Fam} (h:s.fl[g]? =some F):0<F.es:=(hD.m.fam.ok F (by rw[hD.l];exact aR h)).1
theorem aXs (hX:Tgt nb X) (T es N:Nat) (hes:0<es) (h:qW s.fl ⟨T,es,N,λ_=>none,λ_=>0,λ_=>[]⟩ λfl'=>X ⟨s.sl,s.gl,s.bl,fl'⟩):X s:=by
 refine hX s Unit (λ_=>⟨s.sl,s.gl,s.bl,s.fl++[⟨T,es,N,λ_=>none,λ_=>0,λ_=>[]⟩]⟩) (λ_=>True) (λρ0 w0 ρ f w hD=>?_) λ_ _=>mI h
 have hs:Fsub s.fl (s.fl++[⟨T,es,N,λ_=>none,λ_=>0,λ_=>[]⟩]):=⟨λf' F' hf'=>?_,λhi f1 f2 F1 F2 j1 j2 b h1 h2 h3 h4 h5 h6=>?_⟩
 ·obtain⟨ρ',h'⟩:=hD.fsub hs
  exact⟨(),ρ',trivial,h'⟩
 ·rcases rN hf' with ⟨_,rfl⟩|⟨_,h2⟩
  ·exact⟨hes,λj' _=> .inl ⟨rfl,rfl,rfl⟩⟩
  exact⟨aEm hD h2,λj' hj'=> .inr ⟨f',F',j',h2,hj',rfl,rfl,rfl,rfl,rfl⟩⟩
 rcases rN h1 with ⟨_,rfl⟩|⟨_,h1'⟩
 ·cases h5
 rcases rN h2 with ⟨_,rfl⟩|⟨_,h2'⟩
 ·cases h6
 exact hi f1 f2 F1 F2 j1 j2 b h1' h2' h3 h4 h5 h6
theorem bUk (hX:Tgt nb X) (f g j:Nat) {F G:Fam} (hf:s.fl[f]? =some F) (hg:s.fl[g]? =some G) (hne:Nat.beq f g=false) (hj:j<F.N) (hA:F.A j=none) (hG:0<G.N) (hT:G.T=F.T) (hes:G.es=F.es)
 (h:mO s.fl f ⟨F.T,F.es,F.N,upd F.A j (G.A 0),upd F.cap j (G.cap 0),upd F.get j (G.get 0)⟩ λfl1=>mO fl1 g (yU G) λfl2=>X ⟨s.sl,s.gl,s.bl,fl2⟩):X s:=by
 have hne':f≠g:=λe=>by subst e;rw[fV] at hne;cases hne
 have hk:=gI (gI h)
 have hfl:f<s.fl.length:=eG hf
 have hgl:g<s.fl.length:=eG hg
 have hat:∀(x:Nat) (Y:Fam),((s.fl.set f ⟨F.T,F.es,F.N,upd F.A j (G.A 0),upd F.cap j (G.cap 0),upd F.get j (G.get 0)⟩).set g (yU G))[x]? =some Y->(x=g/\Y=yU G)\/(x=f/\Y=⟨F.T,F.es,F.N,upd F.A j (G.A 0),upd F.cap j (G.cap 0),upd F.get j (G.get 0)⟩)\/(x≠g/\x≠f/\s.fl[x]? =some Y):=λx Y hx=>by
  rcases rF hx (by rw[bW];exact hgl) with h1|⟨h1,h2⟩
  ·exact .inl h1
  rcases rF h2 hfl with h3|⟨h3,h4⟩
  ·exact .inr (.inl h3)
  exact .inr (.inr ⟨h1,h3,h4⟩)
 refine hX s Unit (λ_=>⟨s.sl,s.gl,s.bl,_⟩) (λ_=>True) (λρ0 w0 ρ f0 w hD=>?_) λ_ _=>hk
 have hs:Fsub s.fl ((s.fl.set f ⟨F.T,F.es,F.N,upd F.A j (G.A 0),upd F.cap j (G.cap 0),upd F.get j (G.get 0)⟩).set g (yU G)):=⟨λf' F' hf'=>?_,λhi f1 f2 F1 F2 j1 j2 b h1 h2 h3 h4 h5 h6=>?_⟩
 ·obtain⟨ρ',h'⟩:=hD.fsub hs
  exact⟨(),ρ',trivial,h'⟩
 ·rcases hat f' F' hf' with ⟨_,rfl⟩|⟨_,rfl⟩|⟨_,_,h3⟩
  ·exact⟨show 0<G.es from aEm hD hg,λj' hj'=>absurd hj' (aF _)⟩
  ·refine⟨show 0<F.es from aEm hD hf,λj' hj'=> .inr ?_⟩
   by_cases e:j'=j
   ·subst e;exact⟨g,G,0,hg,hG,bJ.symm,bJ.symm,bJ.symm,hT,hes⟩
   exact⟨f,F,j',hf,hj',(bD e).symm,(bD e).symm,(bD e).symm,rfl,rfl⟩
  exact⟨aEm hD h3,λj' hj'=> .inr ⟨f',F',j',h3,hj',rfl,rfl,rfl,rfl,rfl⟩⟩
 have src:∀(x:Nat) (Y:Fam) (y:Nat),((s.fl.set f ⟨F.T,F.es,F.N,upd F.A j (G.A 0),upd F.cap j (G.cap 0),upd F.get j (G.get 0)⟩).set g (yU G))[x]? =some Y->y<Y.N->Y.A y=some b->(x=f/\y=j/\G.A 0=some b)\/(x≠g/\∃Y0:Fam,s.fl[x]? =some Y0/\y<Y0.N/\Y0.A y=some b):=λx Y y hx hy hb=>by
  rcases hat x Y hx with ⟨_,rfl⟩|⟨rfl,rfl⟩|⟨a1,_,a3⟩
  ·exact absurd hy (aF _)
  ·by_cases e:y=j
   ·subst e
    have hb':G.A 0=some b:=by rw[<-hb];exact bJ.symm
    exact .inl ⟨rfl,rfl,hb'⟩
   have hb':F.A y=some b:=by rw[<-hb];exact(bD e).symm
   exact .inr ⟨hne',F,hf,hy,hb'⟩
  exact .inr ⟨a1,Y,a3,hy,hb⟩
 rcases src f1 F1 j1 h1 h3 h5 with ⟨a1,a2,a3⟩|⟨a0,Y1,a1,a2,a3⟩<;>rcases src f2 F2 j2 h2 h4 h6 with ⟨c1,c2,c3⟩|⟨c0,Y2,c1,c2,c3⟩
 ·exact⟨a1.trans c1.symm,a2.trans c2.symm⟩
 ·exact absurd (hi f2 g Y2 G j2 0 b c1 hg c2 hG c3 a3).1 c0
 ·exact absurd (hi f1 g Y1 G j1 0 b a1 hg a2 hG a3 c3).1 a0
 exact hi f1 f2 Y1 Y2 j1 j2 b a1 c1 a2 c2 a3 c3
theorem cOm (hX:Tgt nb X) (f:Nat) {F:Fam} (hf:s.fl[f]? =some F) (h:(∀j,j<F.N->F.get j≠[]->∃b,F.A j=some b)->X s):X s:=by
 refine hX s Unit (λ_=>s) (λ_=>∀j,j<F.N->F.get j≠[]->∃b,F.A j=some b) (λρ0 w0 ρ f0 w hD=>⟨(),ρ,λj hj hne=>?_,hD⟩) λ_=>h
 have hm:=hD.m.fam.mem hD.l hf hj
 unfold Mq at hm
 cases hA:F.A j with
 |none=>simp only[hA] at hm;exact absurd hm.1 hne
 |some b=>exact⟨b,rfl⟩
/-! ### cells said otherwise -/
def LeC (c c':CV):Prop:=∀ρ n w x,Hc ρ n w c x->Hc ρ n w c' x
theorem LeC.refl (c:CV):LeC c c:=λ_ _ _ _ h=>h
theorem LeC.nilh:LeC (.v (.slice none 0 0)) (.h none 0 0):=λρ n w x h=>by rw[h.inv_v];exact Rc.h none 0 0
theorem Hl.le {ρ:Pl} {n:Nat} {w:World} {l l':List CV} {vl:List Value} (h:Hl ρ n w l vl) (hl:l'.length=l.length) (hc:∀(k:Nat) (c c':CV),l[k]? =some c->l'[k]? =some c'->LeC c c'):Hl ρ n w l' vl:=by
 refine Hl.of_get (by rw[hl,h.len]) λi c' u hc' hu=>?_
 have hlt:i<l.length:=by rw[<-hl];exact eG hc'
 obtain⟨x,h1,h2⟩:=h.get (aG hlt)
 rw[hu] at h1
 injection h1 with h1
 subst h1
 exact hc i _ c' (aG hlt) hc' _ _ _ _ h2
theorem gH (hX:Tgt nb X) (i:Nat) {T es:Nat} {l:List CV} (l':List CV) (hb:s.bl[i]? =some (T,es,l)) (hl:l'.length=l.length) (hc:∀(k:Nat) (c c':CV),l[k]? =some c->l'[k]? =some c'->LeC c c') (h:mO s.bl i (T,es,l') λbl'=>X ⟨s.sl,s.gl,bl',s.fl⟩):X s:=by
 refine hX.one (s':=⟨s.sl,s.gl,s.bl.set i (T,es,l'),s.fl⟩) (λρ0 w0 ρ f w hD=>⟨ρ,⟨λj T2 e2 l2 hj=>?_,?_,?_,?_,hD.m.rel,hD.m.pl,hD.m.zz,?_,hD.m.ffr⟩,?_,hD.l⟩) (gI h)
 ·rw[bW]
  rcases lH hj with ⟨rfl,h2,_⟩|⟨_,h2⟩
  ·injection h2 with h2 h3
   injection h3 with h3 h4
   subst h2 h3 h4
   have hq:=hD.m.ok j _ _ l hb
   unfold Bq at hq ⊢
   cases hρ:(ρ j).1 with
   |none=>
    simp only[hρ] at hq ⊢
    exact⟨bQ (by rw[hl,hq.1];rfl),hq.2⟩
   |some b=>
    simp only[hρ] at hq ⊢
    obtain⟨vl,junk,q1,q2,q3⟩:=hq
    exact⟨vl,junk,q1,q2.le hl hc,q3⟩
  exact hD.m.ok j T2 e2 l2 h2
 ·simpa using hD.m.inj
 ·simpa using hD.m.fr
 ·simpa using hD.m.nbl
 ·simp only[bW];exact hD.m.fam
 exact hD.f.kp rfl rfl (by simp only[bW];exact Kp.refl)
/-! ### an own slice becomes a family of one -/
def pL (i:Nat) (A:Option Nat) (a:Nat):CV->CV
 |.s j n=>bif Nat.beq j i then .h A n a else .s j n
 |.p j o=>bif Nat.beq j i then .u else .p j o
 |.t j o n=>bif Nat.beq j i then .u else .t j o n
 |.f q fi ca=>bif (fi++ca).any (λp=>Nat.beq p.1 i) then .u else .f q fi ca
 |c=>c
def cFj (φ:CV->CV):DV->DV
 |.c c=> .c (φ c)
 |.a l=> .a (l.map φ)
 |.t l=> .t (l.map λd=>match d with
  |.c c=> .c (φ c)
  |.a l=> .a (l.map φ)
  |.t _=> .c .u)
def aXt (φ:CV->CV):List (Nat×DV)->(List (Nat×DV)->Prop)->Prop
 |[],k=>k []
 |(t,d)::l,k=>aXt φ l λr=>k ((t,cFj φ d)::r)
def aGb (φ:CV->CV) (i:Nat):Nat->BL->(BL->Prop)->Prop
 |_,[],k=>k []
 |j,(T,es,l)::r,k=>bif Nat.beq j i then aGb φ i (j+1) r λr'=>k ((T,es,[])::r') else
  bif Nat.beq es 0 then aGb φ i (j+1) r λr'=>k ((T,es,l.map φ)::r') else ∃l',l.map φ=l'/\aGb φ i (j+1) r λr'=>k ((T,es,l')::r')
section map
variable {ρ ρ':Pl} {n:Nat} {w:World} {φ:CV->CV} (hφ:∀c x,Hc ρ n w c x->Hc ρ' n w (φ c) x)
include hφ
theorem Hl.mapc {l:List CV} {vl:List Value} (h:Hl ρ n w l vl):Hl ρ' n w (l.map φ) vl:=by
 induction l generalizing vl with
 |nil=>cases vl with
  |nil=>trivial
  |cons x vl=>exact h
 |cons c l ih=>cases vl with
  |nil=>exact h
  |cons x vl=>exact⟨hφ c x h.1,ih h.2⟩
theorem Hd.mapc {d:DV} {x:Value} (h:Hd ρ n w d x):Hd ρ' n w (cFj φ d) x:=by
 cases h with
 |c h=>exact .c (hφ _ _ h)
 |a h=>exact .a (h.mapc hφ)
 |t h hh=>
  refine .t (by simpa using h) λi d u h1 h2=>?_
  rw[dW] at h1
  obtain⟨d0,h3,h4⟩:=Option.map_eq_some_iff.1 h1
  subst h4
  cases hh i d0 u h3 h2 with
  |c h=>exact .c (hφ _ _ h)
  |a h=>exact .a (h.mapc hφ)
  |t _ _=>exact .c (Rc.u _)
theorem aIq:∀{sl:List (Nat×DV)} {k:List (Nat×DV)->Prop},aXt φ sl k->∃sl',k sl'/\∀t d',fZ sl' t=some d'->∃d,fZ sl t=some d/\∀x,Hd ρ n w d x->Hd ρ' n w d' x
 |[],k,h=>⟨[],h,λt d' h=>by cases h⟩
 |(t0,d0)::l,k,h=>by
  obtain⟨sl',h1,h2⟩:=aIq (show aXt φ l _ from h)
  refine⟨_,h1,λt d' ht=>?_⟩
  unfold fZ at ht ⊢
  cases hb:Nat.beq t0 t with
  |true=>simp only[hb,cond_true] at ht ⊢;injection ht with ht;subst ht;exact⟨d0,rfl,λx hx=>hx.mapc hφ⟩
  |false=>simp only[hb,cond_false] at ht ⊢;exact h2 t d' ht
theorem aAe {i:Nat}:∀{bl:BL} {j:Nat} {k:BL->Prop},aGb φ i j bl k->∃bl',k bl'/\bl'.length=bl.length/\∀(m:Nat) (T:TypeId) (es:Nat) (l':List CV),bl'[m]? =some (T,es,l')->∃l,bl[m]? =some (T,es,l)/\(j+m=i->l'=[])/\(j+m≠i->l'.length=l.length/\∀vl,Hl ρ n w l vl->Hl ρ' n w l' vl)
 |[],j,k,h=>⟨[],h,rfl,λm T es l' h=>by cases h⟩
 |(T0,es0,l0)::r,j,k,h=>by
  have step:∀l0' r',(∀(m:Nat) (T:TypeId) (es:Nat) (l':List CV),r'[m]? =some (T,es,l')->∃l,r[m]? =some (T,es,l)/\(j+1+m=i->l'=[])/\(j+1+m≠i->l'.length=l.length/\∀vl,Hl ρ n w l vl->Hl ρ' n w l' vl))->
   (j=i->l0'=[])->(j≠i->l0'.length=l0.length/\∀vl,Hl ρ n w l0 vl->Hl ρ' n w l0' vl)->
   ∀(m:Nat) (T:TypeId) (es:Nat) (l':List CV),((T0,es0,l0')::r')[m]? =some (T,es,l')->∃l,((T0,es0,l0)::r)[m]? =some (T,es,l)/\(j+m=i->l'=[])/\(j+m≠i->l'.length=l.length/\∀vl,Hl ρ n w l vl->Hl ρ' n w l' vl):=by
   intro l0' r' hr h1 h2 m T es l' hm
   cases m with
   |zero=>
    injection hm with hm
    injection hm with e1 e2
    injection e2 with e2 e3
    subst e1 e2 e3
    exact⟨l0,rfl,by simpa using h1,by simpa using h2⟩
   |succ m=>
    obtain⟨l,a1,a2,a3⟩:=hr m T es l' hm
    exact⟨l,a1,λhe=>a2 oM,λhe=>a3 oM⟩
  unfold aGb at h
  cases hb:Nat.beq j i with
  |true=>
   have e:=aK hb
   rw[hb] at h
   obtain⟨r',h1,h2,h3⟩:=aAe (show aGb φ i (j+1) r _ from h)
   exact⟨_,h1,by simp[h2],step [] r' h3 (λ_=>rfl) (λhne=>absurd e hne)⟩
  |false=>
   have hne:=oJ hb
   rw[hb] at h
   simp only[cond_false] at h
   cases hz:Nat.beq es0 0 with
   |true=>
    rw[hz] at h
    obtain⟨r',h1,h2,h3⟩:=aAe (show aGb φ i (j+1) r _ from h)
    exact⟨_,h1,by simp[h2],step _ r' h3 (λhe=>absurd he hne) λ_=>⟨by simp,λvl hl=>hl.mapc hφ⟩⟩
   |false=>
    rw[hz] at h
    obtain⟨l',h0,h⟩:=h
    subst h0
    obtain⟨r',h1,h2,h3⟩:=aAe h
    exact⟨_,h1,by simp[h2],step _ r' h3 (λhe=>absurd he hne) λ_=>⟨by simp,λvl hl=>hl.mapc hφ⟩⟩
end map
theorem Hc.sink {ρ ρ':Pl} {n i:Nat} {w:World} (k:Kx i ρ n w ρ' w) {A:Option Nat} {a:Nat} (hp:ρ i=(A,a)) (c:CV) (x:Value) (h:Hc ρ n w c x):Hc ρ' n w (pL i A a c) x:=by
 cases hm:kU i c with
 |false=>
  have e:pL i A a c=c:=by
   cases c with
   |s j m=>simp only[kU] at hm;simp only[pL,hm,cond_false]
   |p j o=>simp only[kU] at hm;simp only[pL,hm,cond_false]
   |t j o m=>simp only[kU] at hm;simp only[pL,hm,cond_false]
   |f q fi ca=>simp only[kU] at hm;simp only[pL,hm,cond_false]
   |_=>rfl
  rw[e]
  exact h.kx k hm
 |true=>
  cases c with
  |s j m=>
   simp only[kU] at hm
   simp only[pL,hm,cond_true]
   have:=aK hm
   subst this
   obtain⟨_,h2⟩:=h
   rw[h2,hp]
   exact Rc.h A m a
  |p j o=>simp only[kU] at hm;simp only[pL,hm,cond_true];exact Rc.u x
  |t j o m=>simp only[kU] at hm;simp only[pL,hm,cond_true];exact Rc.u x
  |f q fi ca=>simp only[kU] at hm;simp only[pL,hm,cond_true];exact Rc.u x
  |u=>cases hm
  |v y=>cases hm
  |h A n c=>cases hm
  |hp b o=>cases hm
  |b p q=>cases hm
  |r A m c e get=>cases hm
  |q A m c e get j o=>cases hm
theorem aGy {ρ:Pl} {n:Nat} {w:World} {c:CV} {x:Value} (h:Hc ρ n w c x) (hc:fK c=true):Rc (Zf ρ n w) w c x:=by
 cases c with
 |u=>exact h
 |v y=>exact h
 |h A n c=>exact h
 |hp b o=>exact h
 |b p q=>exact h
 |r A m c e get=>exact h
 |p i o=>cases hc
 |s i m=>cases hc
 |q A m c e get j o=>cases hc
 |t i o m=>cases hc
 |f k fi ca=>cases hc
theorem jV (hX:Tgt nb X) (i:Nat) {T es:Nat} {l:List CV} (hb:s.bl[i]? =some (T,es,l)) (hes:0<es) (hclo:∀c∈l,fK c=true) (hnb:nb<=i) (hgl:s.gl=[])
 (h:∀A a,aXt (pL i A a) s.sl λsl'=>aGb (pL i A a) i 0 s.bl λbl'=>qW s.fl ⟨T,es,1,λ_=>A,λ_=>a,λ_=>l⟩ λfl'=>X ⟨sl',[],bl',fl'⟩) (hft:Nat.ble T 999999=true:=by rfl):X s:=by
 refine hX s (Option Nat×Nat×List (Nat×DV)×BL) (λg=>⟨g.2.2.1,[],g.2.2.2,s.fl++[⟨T,es,1,λ_=>g.1,λ_=>g.2.1,λ_=>l⟩]⟩) (λg=>X ⟨g.2.2.1,[],g.2.2.2,s.fl++[⟨T,es,1,λ_=>g.1,λ_=>g.2.1,λ_=>l⟩]⟩) (λρ0 w0 ρ f w hD=>?_) λg hg=>hg
 have hi:i<s.bl.length:=eG hb
 have hq:=hD.m.ok i T es l hb
 let Fn:Fam:=⟨T,es,1,λ_=>(ρ i).1,λ_=>(ρ i).2,λ_=>l⟩
 let ρ':Pl:=⟨λj=>if j=i then (none,0) else ρ j,ρ.Z,s.fl++[Fn]⟩
 have hρi:ρ' i=(none,0):=if_pos rfl
 have hρj:∀j,j≠i->ρ' j=ρ j:=λj hj=>if_neg hj
 have hin:∀b,InF ρ' b->InF ρ b\/(ρ i).1=some b:=λb ⟨F,hF,j,hj,hA⟩=>by
  rcases aQ.1 hF with hF|hF
  ·exact .inl ⟨F,by rw[hD.l];exact hF,j,hj,hA⟩
  rw[aH.1 hF] at hA;exact .inr hA
 have kx:Kx i ρ s.bl.length w ρ' w:=⟨λj _ hj=>hρj j hj,λb hbz=>⟨⟨hbz.lt,λj hj=>?_,hbz.z,λhf=>?_⟩,rfl⟩,λ_ _ _ _ _=>rfl⟩
 ·obtain⟨sl',k1,k2⟩:=aIq (ρ:=ρ) (ρ':=ρ') (n:=s.bl.length) (w:=w) (Hc.sink kx rfl) (h (ρ i).1 (ρ i).2)
  obtain⟨bl',k3,k4,k5⟩:=aAe (ρ:=ρ) (ρ':=ρ') (n:=s.bl.length) (w:=w) (Hc.sink kx rfl) k1
  have kX:=mI k3
  have hmq:Mq (Zf ρ' s.bl.length w) w Fn 0:=by
   unfold Mq
   unfold Bq at hq
   cases hρ:(ρ i).1 with
   |none=>
    simp only[hρ] at hq
    simp only[Fn,hρ]
    exact⟨hq.1,hq.2.1⟩
   |some b=>
    simp only[hρ] at hq
    simp only[Fn,hρ,hft,cond_true]
    obtain⟨vl,junk,q1,q2,q3,q4⟩:=hq
    refine⟨vl,junk,q1,q2.len.symm,λk c x hc hx=>?_,(q3 hes).1,(q3 hes).2,q4⟩
    obtain⟨y,a1,a2⟩:=q2.get hc
    rw[hx] at a1
    injection a1 with a1
    subst a1
    exact(aGy a2 (hclo c (aR hc))).mono kx.z
  have hfam:FamOk ρ' s.bl.length w:=by
   refine⟨λF hF=>?_,λj b hj hb' hf=>?_,λf1 f2 F1 F2 j1 j2 b h1 h2 h3 h4 h5 h6=>?_⟩
   ·rcases aQ.1 hF with hF|hF
    ·have hF':F∈ρ.F:=by rw[hD.l];exact hF
     exact⟨(hD.m.fam.ok F hF').1,λj hj=>((hD.m.fam.ok F hF').2 j hj).mono kx.z λ_ _=>rfl⟩
    rw[aH.1 hF]
    refine⟨hes,λj hj=>?_⟩
    obtain rfl:j=0:=by have:j<1:=hj;omega
    exact hmq
   ·by_cases hji:j=i
    ·subst hji;rw[hρi] at hb';cases hb'
    rw[hρj j hji] at hb'
    rcases hin b hf with h1|h1
    ·exact hD.m.fam.own j b hj hb' h1
    exact hji (hD.m.inj j i b hj hi hb' h1)
   have src:∀(x:Nat) (Y:Fam) (y:Nat),(s.fl++[Fn])[x]? =some Y->y<Y.N->Y.A y=some b->(x=s.fl.length/\y=0/\(ρ i).1=some b)\/(ρ.F[x]? =some Y):=λx Y y hx hy hbb=>by
    rcases rN hx with ⟨e1,rfl⟩|⟨_,e2⟩
    ·exact .inl ⟨e1,by have:y<1:=hy;omega,hbb⟩
    exact .inr (by rw[hD.l];exact e2)
   rcases src f1 F1 j1 h1 h3 h5 with ⟨a1,a2,a3⟩|a1<;>rcases src f2 F2 j2 h2 h4 h6 with ⟨c1,c2,c3⟩|c1
   ·exact⟨a1.trans c1.symm,a2.trans c2.symm⟩
   ·exact absurd ⟨F2,aR c1,j2,h4,h6⟩ (hD.m.fam.own i b hi a3)
   ·exact absurd ⟨F1,aR a1,j1,h3,h5⟩ (hD.m.fam.own i b hi c3)
   exact hD.m.fam.inj f1 f2 F1 F2 j1 j2 b a1 c1 h3 h4 h5 h6
  refine⟨((ρ i).1,(ρ i).2,sl',bl'),ρ',kX,⟨λj T2 e2 l2 hj=>?_,λa b bb ha hbl hab hbb=>?_,λj b h1 h2 hbj=>?_,?_,⟨hD.m.rel.os,hD.m.rel.tape,hD.m.rel.output,hD.m.rel.size,λk hk hn hf=>hD.m.rel.block k hk (λj hj=>?_) hf⟩,λj hj=>?_,hD.m.zz,?_,λb hb'=>?_⟩,⟨λt d' ht=>?_,λt gs d ht=>by cases ht⟩,rfl⟩
  ·show Bq ρ' bl'.length w j T2 e2 l2
   rw[k4]
   obtain⟨l0,a1,a2,a3⟩:=k5 j T2 e2 l2 hj
   by_cases hji:j=i
   ·subst hji
    rw[hb] at a1
    injection a1 with a1
    injection a1 with e1 e2'
    injection e2' with e2' e3
    subst e1 e2' e3
    unfold Bq
    rw[hρi]
    exact⟨a2 oM,rfl,hes⟩
   obtain⟨a4,a5⟩:=a3 oM
   have hq0:=hD.m.ok j T2 e2 l0 a1
   unfold Bq at hq0 ⊢
   rw[hρj j hji]
   cases hρ:(ρ j).1 with
   |none=>
    simp only[hρ] at hq0 ⊢
    exact⟨bQ (by rw[a4,hq0.1];rfl),hq0.2⟩
   |some b=>
    simp only[hρ] at hq0 ⊢
    obtain⟨vl,junk,q1,q2,q3⟩:=hq0
    exact⟨vl,junk,q1,a5 vl q2,q3⟩
  ·have ha':a<s.bl.length:=by rw[<-k4];exact ha
   have hbl':b<s.bl.length:=by rw[<-k4];exact hbl
   by_cases e1:a=i
   ·subst e1;rw[hρi] at hab;cases hab
   by_cases e2:b=i
   ·subst e2;rw[hρi] at hbb;cases hbb
   rw[hρj a e1] at hab;rw[hρj b e2] at hbb;exact hD.m.inj a b bb ha' hbl' hab hbb
  ·have h2':j<s.bl.length:=by rw[<-k4];exact h2
   by_cases e1:j=i
   ·subst e1;rw[hρi] at hbj;cases hbj
   rw[hρj j e1] at hbj;exact hD.m.fr j b h1 h2' hbj
  ·show nb<=bl'.length
   rw[k4];exact hD.m.nbl
  ·have:=hn j hj
   rw[hρj j oM] at this
   exact this
  ·rw[hρj j oM];exact hD.m.pl j hj
  ·show FamOk ρ' bl'.length w
   rw[k4];exact hfam
  ·rcases hin b hb' with h1|h1
   ·exact hD.m.ffr b h1
   exact .inl (hD.m.fr i b hnb hi h1)
  obtain⟨d,a1,a2⟩:=k2 t d' ht
  show Hd ρ' bl'.length w d' (f t)
  rw[k4]
  exact a2 _ (hD.f.sl t d a1)
 ·by_cases hji:j=i
  ·subst hji;rw[hρi];intro h;cases h
  rw[hρj j hji];exact hbz.no j hj
 rcases hin b hf with h1|h1
 ·exact hbz.nf h1
 exact hbz.no i hi h1
/-! ### two own blocks change their numbers -/
def swN (i j k:Nat):Nat:=bif Nat.beq k i then j else bif Nat.beq k j then i else k
theorem aNb {i j:Nat}:swN i j i=j:=by simp[swN,fV]
theorem aNc {i j:Nat}:swN i j j=i:=by
 unfold swN
 cases h:Nat.beq j i with
 |true=>exact aK h
 |false=>simp[fV]
theorem aEn {i j k:Nat} (h1:k≠i) (h2:k≠j):swN i j k=k:=by
 unfold swN
 cases h:Nat.beq k i with
 |true=>exact absurd (aK h) h1
 |false=>cases h':Nat.beq k j with
  |true=>exact absurd (aK h') h2
  |false=>rfl
theorem aPr {i j:Nat} (k:Nat):swN i j (swN i j k)=k:=by
 by_cases h1:k=i
 ·rw[h1,aNb,aNc]
 by_cases h2:k=j
 ·rw[h2,aNc,aNb]
 rw[aEn h1 h2,aEn h1 h2]
theorem uW {i j k n:Nat} (hi:i<n) (hj:j<n) (hk:k<n):swN i j k<n:=by
 by_cases h1:k=i
 ·rw[h1,aNb];exact hj
 by_cases h2:k=j
 ·rw[h2,aNc];exact hi
 rw[aEn h1 h2];exact hk
def swC (i j:Nat):CV->CV
 |.p k o=> .p (swN i j k) o
 |.s k n=> .s (swN i j k) n
 |.t k o n=> .t (swN i j k) o n
 |.f q fi ca=> .f q (fi.map λp=>(swN i j p.1,p.2)) (ca.map λp=>(swN i j p.1,p.2))
 |c=>c
theorem Hc.sw {ρ ρ':Pl} {n i j:Nat} {w:World} (hi:i<n) (hj:j<n) (hp:∀k,ρ' k=ρ (swN i j k)) (hz:∀b,Zf ρ n w b->Zf ρ' n w b) (c:CV) (x:Value) (h:Hc ρ n w c x):Hc ρ' n w (swC i j c) x:=by
 have hps:∀k,ρ' (swN i j k)=ρ k:=λk=>by rw[hp,aPr]
 cases c with
 |p k o=>obtain⟨h1,b,h2,h3⟩:=h;exact⟨uW hi hj h1,b,by rw[hps];exact h2,h3⟩
 |s k m=>obtain⟨h1,h2⟩:=h;exact⟨uW hi hj h1,by rw[hps];exact h2⟩
 |t k o m=>obtain⟨h1,h2⟩:=h;exact⟨uW hi hj h1,by rw[hps];exact h2⟩
 |q A m c e get k o=>obtain⟨h1,h2⟩:=h;exact⟨h1.mono λb hb=>⟨hz b hb,rfl⟩,h2⟩
 |f q fi ca=>
  obtain⟨h1,h2⟩:=h
  have hm:∀l:List (Nat×Nat),(l.map λp=>(swN i j p.1,p.2)).map (ptr ρ')=l.map (ptr ρ):=λl=>by
   rw[kO]
   refine dP λp _=>?_
   show ptr ρ' (swN i j p.1,p.2)=ptr ρ p
   unfold ptr
   rw[hps]
  refine⟨λp hp2=>?_,h2.trans (by rw[hm,hm])⟩
  rw[<-bG] at hp2
  obtain⟨p0,hp0,rfl⟩:=cC.1 hp2
  obtain⟨a1,a2⟩:=h1 p0 hp0
  exact⟨uW hi hj a1,by rw[hps];exact a2⟩
 |u=>exact Rc.mono h λb hb=>⟨hz b hb,rfl⟩
 |v y=>exact Rc.mono h λb hb=>⟨hz b hb,rfl⟩
 |h A m c=>exact Rc.mono h λb hb=>⟨hz b hb,rfl⟩
 |hp b o=>exact Rc.mono h λb hb=>⟨hz b hb,rfl⟩
 |b p q=>exact Rc.mono h λb hb=>⟨hz b hb,rfl⟩
 |r A m c e get=>exact Rc.mono h λb hb=>⟨hz b hb,rfl⟩
theorem aTy (hX:Tgt nb X) (i j:Nat) {bi bj:TypeId×Nat×List CV} (hbi:s.bl[i]? =some bi) (hbj:s.bl[j]? =some bj) (hni:nb<=i) (hnj:nb<=j) (hgl:s.gl=[])
 (h:aXt (swC i j) s.sl λsl'=>mO s.bl i bj λbl1=>mO bl1 j bi λbl2=>aGb (swC i j) 1000000 0 bl2 λbl'=>bl'.length<=1000000/\X ⟨sl',[],bl',s.fl⟩):X s:=by
 have hi:i<s.bl.length:=eG hbi
 have hj:j<s.bl.length:=eG hbj
 refine hX s SS (λg=>g) X (λρ0 w0 ρ f w hD=>?_) λg hg=>hg
 let ρ':Pl:=⟨λk=>ρ (swN i j k),ρ.Z,ρ.F⟩
 have hp:∀k,ρ' k=ρ (swN i j k):=λ_=>rfl
 have hz:∀b,Zf ρ s.bl.length w b->Zf ρ' s.bl.length w b:=λb hb=>⟨hb.lt,λk hk=>hb.no _ (uW hi hj hk),hb.z,hb.nf⟩
 obtain⟨sl',k1,k2⟩:=aIq (ρ:=ρ) (ρ':=ρ') (n:=s.bl.length) (w:=w) (Hc.sw hi hj hp hz) h
 obtain⟨bl',⟨kle,kX⟩,k4,k5⟩:=aAe (ρ:=ρ) (ρ':=ρ') (n:=s.bl.length) (w:=w) (Hc.sw hi hj hp hz) (gI (gI k1))
 rw[bW,bW] at k4
 have hold:∀(m:Nat) (x:TypeId×Nat×List CV),((s.bl.set i bj).set j bi)[m]? =some x->s.bl[swN i j m]? =some x:=λm x hm=>by
  rcases lH hm with ⟨rfl,rfl,_⟩|⟨h1,h2⟩
  ·rw[aNc];exact hbi
  rcases lH h2 with ⟨rfl,rfl,_⟩|⟨h3,h4⟩
  ·rw[aNb];exact hbj
  rw[aEn h3 h1];exact h4
 refine⟨_,ρ',kX,⟨λm T es l hm=>?_,λa b bb ha hb hab hbb=>?_,λm b h1 h2 hb=>?_,?_,⟨hD.m.rel.os,hD.m.rel.tape,hD.m.rel.output,hD.m.rel.size,λk hk hn hf=>hD.m.rel.block k hk (λm hm=>?_) hf⟩,λm hm=>?_,hD.m.zz,?_,hD.m.ffr⟩,⟨λt d' ht=>?_,λt gs d ht=>by cases ht⟩,hD.l⟩
 ·show Bq ρ' bl'.length w m T es l
  have hml:m<bl'.length:=eG hm
  rw[k4]
  obtain⟨l0,a1,_,a3⟩:=k5 m T es l hm
  obtain⟨a4,a5⟩:=a3 oM
  have hq:=hD.m.ok _ T es l0 (hold m _ a1)
  unfold Bq at hq ⊢
  rw[hp]
  cases hρ:(ρ (swN i j m)).1 with
  |none=>
   simp only[hρ] at hq ⊢
   exact⟨bQ (by rw[a4,hq.1];rfl),hq.2⟩
  |some b=>
   simp only[hρ] at hq ⊢
   obtain⟨vl,junk,q1,q2,q3⟩:=hq
   exact⟨vl,junk,q1,a5 vl q2,q3⟩
 ·have ha':a<s.bl.length:=by rw[<-k4];exact ha
  have hb':b<s.bl.length:=by rw[<-k4];exact hb
  have:=hD.m.inj _ _ bb (uW hi hj ha') (uW hi hj hb') hab hbb
  rw[<-aPr (i:=i) (j:=j) a,this,aPr]
 ·have h2':m<s.bl.length:=by rw[<-k4];exact h2
  refine hD.m.fr (swN i j m) b ?_ (uW hi hj h2') hb
  by_cases e1:m=i
  ·rw[e1,aNb];exact hnj
  by_cases e2:m=j
  ·rw[e2,aNc];exact hni
  rw[aEn e1 e2];exact h1
 ·show nb<=bl'.length
  rw[k4];exact hD.m.nbl
 ·have:=hn m hm
  rw[hp,aEn oM oM] at this
  exact this
 ·rw[hp,aEn oM oM];exact hD.m.pl m hm
 ·show FamOk ρ' bl'.length w
  rw[k4]
  exact hD.m.fam.mono rfl (λb hb=>⟨hz b hb,rfl⟩) (λ_ _=>rfl) λm b hm hb=>hD.m.fam.own _ b (uW hi hj hm) hb
 obtain⟨d,a1,a2⟩:=k2 t d' ht
 show Hd ρ' bl'.length w d' (f t)
 rw[k4]
 exact a2 _ (hD.f.sl t d a1)
/-! ### a family is let go: what names it is read from now on -/
def FrC (F:Fam) (c c':CV):Prop:=∃q n g,q<F.N/\c= .h (F.A q) n (F.cap q)/\c'= .r ((F.A q).map λb=>⟨b,0,none⟩) n (F.cap q) F.es g/\n*F.es=(F.get q).length/\∀k,k<n->g k=((F.get q).drop (k*F.es)).take F.es
theorem iX (hX:Tgt nb X) (i f:Nat) {T es:Nat} {l:List CV} {F:Fam} (l':List CV) (hb:s.bl[i]? =some (T,es,l)) (hf:s.fl[f]? =some F) (hgl:s.gl=[]) (hl:l'.length=l.length) (hc:∀(k:Nat) (c c':CV),l[k]? =some c->l'[k]? =some c'->c=c'\/FrC F c c')
 (h:mO s.bl i (T,es,l') λbl'=>mO s.fl f (yU F) λfl'=>X ⟨s.sl,[],bl',fl'⟩) (hft:Nat.ble F.T 999999=true:=by rfl):X s:=by
 have hfl:f<s.fl.length:=eG hf
 refine hX.one (s':=⟨s.sl,[],s.bl.set i (T,es,l'),s.fl.set f (yU F)⟩) (λρ0 w0 ρ f0 w hD=>?_) (gI (gI h))
 have hes:=aEm hD hf
 have hin:∀b,InL (s.fl.set f (yU F)) b->InF ρ b/\∀q,q<F.N->F.A q≠some b:=λb ⟨G,hG,j,hj,hA⟩=>by
  obtain⟨g,hg⟩:=cT hG
  rcases rF hg hfl with ⟨_,rfl⟩|⟨hne,h2⟩
  ·exact absurd hj (aF _)
  exact⟨⟨G,by rw[hD.l];exact aR h2,j,hj,hA⟩,λq hq he=>hne (hD.m.fam.inj g f G F j q b (by rw[hD.l];exact h2) (by rw[hD.l];exact hf) hj hq hA he).1⟩
 have hz:∀b,Zf ρ s.bl.length w b->Zf ⟨ρ.at',ρ.Z,s.fl.set f (yU F)⟩ s.bl.length w b/\w.heap[b]? =w.heap[b]?:=λb hb=>⟨⟨hb.lt,hb.no,hb.z,λhi=>hb.nf (hin b hi).1⟩,rfl⟩
 have kp:Kp ρ s.bl.length w ⟨ρ.at',ρ.Z,s.fl.set f (yU F)⟩ s.bl.length w:=⟨aI _,λ_ _=>rfl,hz⟩
 have hrd:∀c c' x,FrC F c c'->Hc ρ s.bl.length w c x->Hc ⟨ρ.at',ρ.Z,s.fl.set f (yU F)⟩ s.bl.length w c' x:=λc c' x ⟨q,n,g,hq,e1,e2,e3,e4⟩ hx=>by
  subst e1 e2
  rw[hx.inv_h]
  have hm:=hD.m.fam.mem hD.l hf hq
  unfold Mq at hm
  cases hA:F.A q with
  |none=>
   simp only[hA] at hm
   have hn:n=0:=by
    rcases cE n with h|h
    ·exact h
    rw[hm.1] at e3;have:=jG h hes;simp at e3;omega
   subst hn
   rw[hm.2]
   exact Rc.nil none 0 F.es g (aC _)
  |some b=>
   simp only[hA,hft,cond_true] at hm
   obtain⟨vl,junk,q1,q2,q3,q4,q5,q6⟩:=hm
   have hbin:InF ρ b:=⟨F,by rw[hD.l];exact aR hf,q,hq,hA⟩
   have hZb:Zf ⟨ρ.at',ρ.Z,s.fl.set f (yU F)⟩ s.bl.length w b:=⟨iB q1,λj hj he=>hD.m.fam.own j b hj he hbin,by
    have:=hD.m.zz.2 b (hD.m.ffr b hbin)
    exact this,λhi=>(hin b hi).2 q hq hA⟩
   have hnc:n<=F.cap q:=by
    rw[aE] at q4
    exact eS (c:=F.es) oM hes
   have hjn:∀j,j<n->j*F.es+F.es<=vl.length:=λj hj=>by
    have:(j+1)*F.es<=n*F.es:=aZ F.es hj
    rw[dJ,iT] at this
    omega
   refine Rc.r b 0 n (F.cap q) F.es g (λj=>(vl.drop (j*F.es)).take F.es) hnc q5 hZb (λj hj k u hu=>?_) (λj hj=>?_) λj hj k c' u hc hu=>?_
   ·rw[eY] at hu
    split at hu
    ·rw[dL] at hu
     refine⟨?_,q6 u (aR hu)⟩
     rw[eA]
     exact nC q1 hu
    cases hu
   ·rw[e4 j hj]
    have:=hjn j hj
    simp only[bE,cK]
    omega
   rw[e4 j hj] at hc
   rw[eY] at hc hu
   split at hc
   ·next hlt=>
    rw[if_pos hlt] at hu
    rw[dL] at hc hu
    exact(q3 _ c' u hc hu).mono hz
   cases hc
 refine⟨⟨ρ.at',ρ.Z,s.fl.set f (yU F)⟩,⟨λj T2 e2 l2 hj=>?_,?_,?_,?_,⟨hD.m.rel.os,hD.m.rel.tape,hD.m.rel.output,hD.m.rel.size,hD.m.rel.block⟩,hD.m.pl,hD.m.zz,⟨λG hG=>?_,λj b hj hbj hf2=>?_,λf1 f2 F1 F2 j1 j2 b h1 h2 h3 h4 h5 h6=>?_⟩,λb hbb=>hD.m.ffr b (hin b hbb).1⟩,⟨λt d ht=>?_,λt gs d ht=>by cases ht⟩,rfl⟩
 ·rw[bW]
  rcases lH hj with ⟨rfl,h2,_⟩|⟨_,h2⟩
  ·injection h2 with h2 h3
   injection h3 with h3 h4
   subst h2 h3 h4
   have hq:=hD.m.ok j _ _ l hb
   unfold Bq at hq ⊢
   show match (ρ j).1 with|none=>_|some b=>_
   cases hρ:(ρ j).1 with
   |none=>
    simp only[hρ] at hq ⊢
    exact⟨bQ (by rw[hl,hq.1];rfl),hq.2⟩
   |some b=>
    simp only[hρ] at hq ⊢
    obtain⟨vl,junk,q1,q2,q3⟩:=hq
    refine⟨vl,junk,q1,Hl.of_get (by rw[hl,q2.len]) λk c' u hc' hu=>?_,q3⟩
    have hlt:k<l.length:=by rw[<-hl];exact eG hc'
    obtain⟨x,h1,h2⟩:=q2.get (aG hlt)
    rw[hu] at h1
    injection h1 with h1
    subst h1
    rcases hc k _ c' (aG hlt) hc' with e|e
    ·rw[<-e];exact h2.kp kp
    exact hrd _ _ _ e h2
  exact(hD.m.ok j T2 e2 l2 h2).kp kp (eG h2) λ_ _=>rfl
 ·simpa using hD.m.inj
 ·simpa using hD.m.fr
 ·simpa using hD.m.nbl
 ·obtain⟨g,hg⟩:=cT hG
  rcases rF hg hfl with ⟨_,rfl⟩|⟨_,h2⟩
  ·exact⟨hes,λj hj=>absurd hj (aF _)⟩
  have hG':G∈ρ.F:=by rw[hD.l];exact aR h2
  simp only[bW]
  exact⟨(hD.m.fam.ok G hG').1,λj hj=>((hD.m.fam.ok G hG').2 j hj).mono hz λ_ _=>rfl⟩
 ·simp only[bW] at hj
  exact hD.m.fam.own j b hj hbj (hin b hf2).1
 ·rcases rF (show(s.fl.set f (yU F))[f1]? =_ from h1) hfl with ⟨_,rfl⟩|⟨_,h1'⟩
  ·exact absurd h3 (aF _)
  rcases rF (show(s.fl.set f (yU F))[f2]? =_ from h2) hfl with ⟨_,rfl⟩|⟨_,h2'⟩
  ·exact absurd h4 (aF _)
  exact hD.m.fam.inj f1 f2 F1 F2 j1 j2 b (by rw[hD.l];exact h1') (by rw[hD.l];exact h2') h3 h4 h5 h6
 show Hd _ (s.bl.set i (T,es,l')).length w d (f0 t)
 rw[bW]
 exact(hD.f.sl t d ht).kp kp
/-! ### the end of a ghost way: what is kept, what changed -/
def bLu:List Fam->List Fam->Prop
 |_,[]=>True
 |x::l,y::m=>x=y/\bLu l m
 |[],_::_=>False
theorem aTz:∀{l m:List Fam},bLu l m->∃r,l=m++r
 |l,[],_=>⟨l,rfl⟩
 |[],_::_,h=>h.elim
 |x::l,y::m,h=>by
  obtain⟨h1,h2⟩:=h
  obtain⟨r,hr⟩:=aTz h2
  exact⟨r,by rw[h1,hr];rfl⟩
theorem Fsub.pre {fl r:List Fam} (hes:∀F∈fl,0<F.es):Fsub (fl++r) fl:=by
 have hg:∀(x:Nat) (Y:Fam),fl[x]? =some Y->(fl++r)[x]? =some Y:=λx Y h=>by rw[bA (eG h)];exact h
 exact⟨λf' F' hf'=>⟨hes F' (aR hf'),λj' hj'=> .inr ⟨f',F',j',hg f' F' hf',hj',rfl,rfl,rfl,rfl,rfl⟩⟩,λhi f1 f2 F1 F2 j1 j2 b h1 h2=>hi f1 f2 F1 F2 j1 j2 b (hg f1 F1 h1) (hg f2 F2 h2)⟩
theorem bH {M:Nat->Bool} {base:List (Nat×DV)} (hM:∀t d,fZ base t=some d->M t=false) {σ:Type} {chg:σ->List (Nat×DV)} {bls:σ->BL} {fls:σ->List Fam} {C:σ->Prop} (g:σ) (hC:C g)
 (hmt:wD M base [] [] s.sl) (hbl:aPp s.bl (bls g)) (hfl:bLu s.fl (fls g)) (hall:AllC s.sl (chg g)) (hnb:nb<=(bls g).length) (hsc:scB (bls g).length (bls g)) (hsd:(chg g++base).all (λe=>scD (bls g).length e.2)=true):
 Gt nb s (λg=>⟨chg g++base,[],bls g,fls g⟩) C:=λρ0 w0 ρ f w hD=>by
 obtain⟨r,hr⟩:=yA hbl
 obtain⟨rf,hrf⟩:=aTz hfl
 have h1:=aAd (s:=s) (s':=⟨chg g++base,[],bls g,s.fl⟩) (r:=r) hr rfl rfl hsc (λt d ht=>⟨?_,wX hsd ht⟩) ρ0 w0 nb ρ f w hnb hD
 ·have hp:Fsub s.fl (fls g):=by
   have hes:∀F∈fls g,0<F.es:=λF hF=>(hD.m.fam.ok F (by rw[hD.l,hrf];exact dK _ hF)).1
   have:=Fsub.pre (r:=rf) hes
   rw[<-hrf] at this
   exact this
  obtain⟨ρ',h2⟩:=h1.fsub (s:=⟨chg g++base,[],bls g,s.fl⟩) hp
  exact⟨g,ρ',hC,h2⟩
 rcases qC ht with h1|⟨h1,h2⟩
 ·exact hall.get h1
 exact⟨d,by rw[(qB hmt).1 t (hM t d h2)];exact h2,.refl d⟩
theorem cG (M:Nat->Bool) {σ:Type} (chg:σ->List (Nat×DV)) (bls:σ->BL) (fls:σ->List Fam) (C:σ->Prop) (μ:σ->Nat)
 (h:wB M s.sl λbase=>(∀t d,fZ base t=some d->M t=false)->Gt nb s (λg=>⟨chg g++base,[],bls g,fls g⟩) C/\∀g,C g->Sd P nb N c ⟨λs'=>Gt nb s' (λg'=>⟨chg g'++base,[],bls g',fls g'⟩) (λg'=>C g'/\μ g'<μ g),K.ext,K.ret⟩ ⟨chg g++base,[],bls g,fls g⟩):Sd P nb N (.loop c) K s:=by
 obtain⟨base,h1,hk⟩:=qA h
 obtain⟨h0,hr⟩:=h1 λt d ht=>(hk t d ht).2
 intro ρ0 w0 ρ f w Q hL hD
 obtain⟨g0,ρ1,hC0,hD1⟩:=h0 ρ0 w0 ρ f w hD
 refine aYs (σ:=σ) (λg f w=>C g/\∃ρ,Dn ρ0 w0 nb ⟨chg g++base,[],bls g,fls g⟩ ρ f w) μ g0 ⟨hC0,ρ1,hD1⟩ λg f w ⟨hc,ρ,hD⟩=>?_
 refine hr g hc ρ0 w0 ρ f w _ ⟨λs' ρ' f' w' hg hD'=>?_,hL.ext,hL.ret⟩ hD
 obtain⟨g',ρ2,⟨hc',hlt⟩,hD2⟩:=hg ρ0 w0 ρ' f' w' hD'
 exact⟨g',⟨hc',ρ2,hD2⟩,hlt⟩
end gt
/-! ### a contract said otherwise -/
theorem CtrF.gt {P:Program} {q:FuncId} {cl:List Bool} {al:List DV} {bl:BL} {fl:List Fam} {σ τ:Type} {R:σ->OutF} {R':τ->OutF} (h:CtrF P q cl al bl fl R)
 (hp:∀g,(R g).C->ClB cl (R g).bl->Gt bl.length ⟨[(0,(R g).d)],[],(R g).bl,(R g).fl⟩ (λg'=>⟨[(0,(R' g').d)]++[],[],(R' g').bl,(R' g').fl⟩) λg'=>(R' g').C/\ClB cl (R' g').bl):CtrF P q cl al bl fl R':=
 ⟨h.ent,h.clb,λρ w vals hv hD hF=>(h.run ρ w vals hv hD hF).mono λe w' ⟨v,he,g,ρ',hC,hDr,hdv,hclr,hFr⟩=>by
  have hq:Dn ρ w bl.length ⟨[(0,(R g).d)],[],(R g).bl,(R g).fl⟩ ρ' (λ_=>v) w':=⟨hDr,⟨λt d ht=>?_,λt gs d ht=>by cases ht⟩,hFr⟩
  ·obtain⟨g',ρ2,⟨h1,h2⟩,h3⟩:=hp g hC hclr ρ w ρ' (λ_=>v) w' hq
   exact⟨v,he,g',ρ2,h1,h3.m,h3.f.sl 0 _ rfl,h2,h3.l⟩
  simp only[fZ] at ht
  cases hb:Nat.beq 0 t with
  |true=>rw[hb] at ht;injection ht with ht;subst ht;exact hdv
  |false=>rw[hb] at ht;cases ht⟩
theorem CtrF.frz {P:Program} {q:FuncId} {al:List DV} {σ:Type} {n T es:σ->Nat} {l:σ->List CV} {C:σ->Prop} (h:Ctr P q [] al [] (λg:σ=>⟨.c (.s 0 (n g)),[(T g,es g,l g)],C g⟩)) (get:σ->Nat->List CV) (hp:∀g,C g->(∀j,j<n g->get g j=((l g).drop (j*es g)).take (es g))/\n g*es g=(l g).length/\0<es g/\∀c∈l g,fK c=true):
 Ctr P q [] al [] (λg:σ×Option Addr×Nat=>⟨.c (.r g.2.1 (n g.1) g.2.2 (es g.1) (get g.1)),[],C g.1⟩):=by
 refine CtrF.gt h λg hC _=>?_
 obtain⟨h1,h2,h3,h4⟩:=hp g hC
 refine aPq tGt 0 0 (get g) rfl rfl h1 h2 h3 h4 (aI _) λA c _ _=>?_
 exact bH (M:=λ_=>true) (base:=[]) (chg:=λg':σ×Option Addr×Nat=>[(0,.c (.r g'.2.1 (n g'.1) g'.2.2 (es g'.1) (get g'.1)))]) (bls:=λ_=>[]) (fls:=λ_=>[]) (λt d ht=>by cases ht) (g,A,c) ⟨hC,λi T es l hi=>by cases hi⟩ rfl trivial trivial rfl (aI _) (λi T es l hi=>by cases hi) rfl
theorem fH {nb:Nat} {cl:List Bool} {s:SS} {d:DV} {o:Out} (hd:EqD d o.d) (hb:aPp s.bl o.bl) (hnb:nb<=o.bl.length) (hsc:scB o.bl.length o.bl) (hsd:scD o.bl.length o.d=true) (hcl:ClB cl o.bl):Fin cl nb s d o:=λρ0 w0 ρ w v hD0 _ hv0=>by
 have hD:=hD0.nofam
 have hv:=hd.hd (hv0.kp Kp.nofam)
 obtain⟨r,hr⟩:=yA hb
 rw[hr] at hD hv
 exact⟨_,hD.drop hsc hnb,hv.less hsd (by simp),hcl,rfl⟩
theorem aCl {bl:BL}:ClB [] bl:=λi T es l _ hc=>by cases hc
theorem CtrF.re {P:Program} {q:FuncId} {cl:List Bool} {al:List DV} {bl:BL} {fl:List Fam} {σ τ:Type} {R:σ->OutF} {R':τ->OutF} (h:CtrF P q cl al bl fl R) (hp:∀g,(R g).C->∃g',(R' g').C/\(R' g').d=(R g).d/\(R' g').bl=(R g).bl/\(R' g').fl=(R g).fl):CtrF P q cl al bl fl R':=
 ⟨h.ent,h.clb,λρ w vals hv hD hF=>(h.run ρ w vals hv hD hF).mono λe w' ⟨v,he,g,ρ',hC,hDr,hdv,hclr,hFr⟩=>by
  obtain⟨g',h1,h2,h3,h4⟩:=hp g hC
  exact⟨v,he,g',ρ',h1,by rw[h3];exact hDr,by rw[h2,h3];exact hdv,by rw[h3];exact hclr,by rw[h4];exact hFr⟩⟩
theorem cOn {P:Program} {nb N:Nat} {a b:Code} {K:Kt} {s:SS} (M:Nat->Bool) {σ:Type} (n0:Nat) (chg:σ->List (Nat×DV)) (bls:σ->BL) (C:σ->Prop) {p:Prop} (hn:∀g,(bls g).length=n0) (hnb:nb<=n0) (hsc:∀g,scB n0 (bls g)) (hcg:∀g,(chg g).all (λe=>scD n0 e.2)=true)
 (h:wB M s.sl λbase=>base.all (λe=>scD n0 e.2)=true/\((p->Sd P nb N a ⟨λs'=>∃g,C g/\MtD M base s.fl s' (chg g) (bls g),K.ext,K.ret⟩ s)/\(¬p->Sd P nb N b ⟨λs'=>∃g,C g/\MtD M base s.fl s' (chg g) (bls g),K.ext,K.ret⟩ s))/\∀g,C g->K.nrm ⟨chg g++base,[],bls g,s.fl⟩):(p->Sd P nb N a K s)/\(¬p->Sd P nb N b K s):=by
 obtain⟨base,⟨hbs,⟨h1,h2⟩,h3⟩,hk⟩:=qA h
 have w:∀{c:Code},Sd P nb N c ⟨λs'=>∃g,C g/\MtD M base s.fl s' (chg g) (bls g),K.ext,K.ret⟩ s->Sd P nb N c K s:=λ{c} h ρ0 w0 ρ f w Q hL hD=>by
  refine h ρ0 w0 ρ f w Q ⟨λs' ρ' f' w' ⟨g',hc,hm⟩ hD'=>?_,hL.ext,hL.ret⟩ hD
  obtain⟨r,hr'⟩:=yA hm.2.1
  refine hL.nrm _ ρ' f' w' (h3 g' hc) (aAd (s:=s') (s':=⟨chg g'++base,[],bls g',s.fl⟩) (r:=r) hr' (qB hm.1).2 rfl (by rw[hn];exact hsc g') (λt d ht=>⟨?_,?_⟩) ρ0 w0 nb ρ' f' w' (by rw[hn];exact hnb) hD')
  ·rcases qC ht with h1|⟨h1,h2⟩
   ·exact hm.2.2.get h1
   exact⟨d,by rw[(qB hm.1).1 t (hk t d h2).2];exact h2,.refl d⟩
  rw[hn]
  rcases qC ht with h1|⟨_,h2⟩
  ·exact wX (hcg g') h1
  exact wX hbs h2
 exact⟨λh=>w (h1 h),λh=>w (h2 h)⟩
def tr2 (i:Nat) (t:Tr) (j:Nat) (u:Tr):Tr:=.alt i t (.alt j u .nil)
def trS:List Nat->Tr
 |[]=> .nil
 |i::l=> .alt i (trS l) .nil
end Go.Vy
abbrev fC := @Go.Vy.LeC.refl
namespace Go.Vy
open Go.Vg Go.RowKit
inductive SelfF (P:Program) (d:Nat) (xs:Array Value):List (TypeId×Nat)->Prop
 |nil:SelfF P d xs []
 |cons {t:TypeId} {o:Nat} {fs:List (TypeId×Nat)} {a:Value} (h1:∀w,(part t xs o).run P w= .ok a w) (h2:∀w,(Op.equalIn d t a a).run P w= .ok true w) (h:SelfF P d xs fs):SelfF P d xs ((t,o)::fs)
theorem SelfF.run {P:Program} {d:Nat} {xs:Array Value} (w:World):∀{fs:List Field},SelfF P d xs (fs.map λf=>(f.type,f.offset))->(Op.eqFields d xs xs fs).run P w= .ok true w
 |[],_=>by simp[Op.eqFields]
 |f::fs,h=>by
  cases h with
  |cons h1 h2 h3=>
   have ih:=SelfF.run w h3
   unfold Op.eqFields
   split
   ·simp[h1,h2,ih]
   exact ih
theorem cOo {vs:List Value} (h:ckF 0 vs=true):False:=by
 unfold ckF at h
 split at h<;>first|(cases h;done)|contradiction
end Go.Vy
namespace Go.Proofs.YtghncoghdcmdfaaGreat
open Go.Vg Go.Vy _root_.Go.Proofs.Tryz
def tab:List (Nat×TI):=[
 (1,{size:=1,by':=8,zero:=[.nilFunc]}),
 (2,{size:=1,by':=8,zero:=[.int .i64 0],ik:=some .i64}),
 (3,{size:=1,by':=8,zero:=[.int .i64 0],ik:=some .i64}),
 (4,{size:=1,by':=1,zero:=[.bool false],bo:=true}),
 (5,{size:=1,by':=1,zero:=[.int .u8 0],ik:=some .u8}),
 (9,{size:=1,by':=16,zero:=[.string ⟨#[]⟩],str:=true}),
 (12,{size:=1,by':=8,zero:=[.int .u64 0],ik:=some .u64}),
 (13,{size:=2,by':=24,zero:=[.string ⟨#[]⟩,.int .u64 0],agg:=true,fs:=[⟨0,9,1,false⟩,⟨1,12,1,false⟩]}),
 (21,{size:=1,by':=4,zero:=[.int .i32 0],ik:=some .i32}),
 (22,{size:=1,by':=24,zero:=[.slice none 0 0],el:=some 65}),
 (23,{size:=3,by':=40,zero:=[.int .i64 0,.int .i64 0,.slice none 0 0],agg:=true,fs:=[⟨0,3,1,false⟩,⟨1,3,1,false⟩,⟨2,22,1,false⟩]}),
 (24,{size:=3,by':=40,zero:=[.int .i64 0,.int .i64 0,.slice none 0 0],agg:=true,fs:=[⟨0,3,1,false⟩,⟨1,3,1,false⟩,⟨2,22,1,false⟩]}),
 (25,{size:=1,by':=8,zero:=[.nilFunc]}),
 (26,{size:=1,by':=8,zero:=[.pointer none],pt:=true}),
 (27,{size:=1,by':=8,zero:=[.int .i64 0],ik:=some .i64}),
 (29,{size:=1,by':=8,zero:=[.nilFunc]}),
 (30,{size:=4,by':=48,zero:=[.int .i64 0,.int .i64 0,.slice none 0 0,.int .i64 0],agg:=true,fs:=[⟨0,24,3,true⟩,⟨3,3,1,false⟩]}),
 (31,{size:=4,by':=48,zero:=[.int .i64 0,.int .i64 0,.slice none 0 0,.int .i64 0],agg:=true,fs:=[⟨0,24,3,true⟩,⟨3,3,1,false⟩]}),
 (33,{size:=1,by':=8,zero:=[.nilFunc]}),
 (34,{size:=1,by':=8,zero:=[.nilFunc]}),
 (35,{size:=1,by':=8,zero:=[.nilFunc]}),
 (36,{size:=1,by':=8,zero:=[.nilFunc]}),
 (37,{size:=1,by':=8,zero:=[.nilFunc]}),
 (38,{size:=1,by':=24,zero:=[.slice none 0 0],el:=some 3}),
 (39,{size:=1,by':=24,zero:=[.slice none 0 0],el:=some 106}),
 (40,{size:=1,by':=24,zero:=[.slice none 0 0],el:=some 67}),
 (41,{size:=2,by':=48,zero:=[.slice none 0 0,.slice none 0 0],agg:=true,fs:=[⟨0,39,1,false⟩,⟨1,40,1,false⟩]}),
 (42,{size:=2,by':=48,zero:=[.slice none 0 0,.slice none 0 0],agg:=true,fs:=[⟨0,39,1,false⟩,⟨1,40,1,false⟩]}),
 (43,{size:=1,by':=8,zero:=[.nilFunc]}),
 (44,{size:=2,by':=48,zero:=[.slice none 0 0,.slice none 0 0],agg:=true,fs:=[⟨0,38,1,false⟩,⟨1,38,1,false⟩]}),
 (45,{size:=2,by':=48,zero:=[.slice none 0 0,.slice none 0 0],agg:=true,fs:=[⟨0,38,1,false⟩,⟨1,38,1,false⟩]}),
 (46,{size:=1,by':=8,zero:=[.pointer none],pt:=true}),
 (47,{size:=1,by':=8,zero:=[.nilFunc]}),
 (48,{size:=1,by':=8,zero:=[.nilFunc]}),
 (50,{size:=1,by':=8,zero:=[.nilFunc]}),
 (51,{size:=1,by':=8,zero:=[.nilFunc]}),
 (52,{size:=1,by':=8,zero:=[.nilFunc]}),
 (53,{size:=1,by':=8,zero:=[.nilFunc]}),
 (54,{size:=1,by':=8,zero:=[.nilFunc]}),
 (55,{size:=1,by':=24,zero:=[.slice none 0 0],el:=some 62}),
 (57,{size:=1,by':=8,zero:=[.nilFunc]}),
 (58,{size:=1,by':=24,zero:=[.slice none 0 0],el:=some 123}),
 (59,{size:=2,by':=32,zero:=[.bool false,.slice none 0 0],agg:=true,fs:=[⟨0,4,1,false⟩,⟨1,58,1,false⟩]}),
 (60,{size:=2,by':=32,zero:=[.bool false,.slice none 0 0],agg:=true,fs:=[⟨0,4,1,false⟩,⟨1,58,1,false⟩]}),
 (61,{size:=3,by':=56,zero:=[.bool false,.slice none 0 0,.slice none 0 0],agg:=true,fs:=[⟨0,60,2,true⟩,⟨2,58,1,false⟩]}),
 (62,{size:=3,by':=56,zero:=[.bool false,.slice none 0 0,.slice none 0 0],agg:=true,fs:=[⟨0,60,2,true⟩,⟨2,58,1,false⟩]}),
 (63,{size:=1,by':=8,zero:=[.nilFunc]}),
 (64,{size:=1,by':=8,zero:=[.nilFunc]}),
 (65,{size:=1,by':=24,zero:=[.slice none 0 0],el:=some 82}),
 (66,{size:=5,by':=88,zero:=[.int .i64 0,.bool false,.slice none 0 0,.slice none 0 0,.slice none 0 0],agg:=true,fs:=[⟨0,3,1,false⟩,⟨1,62,3,true⟩,⟨4,65,1,false⟩]}),
 (67,{size:=5,by':=88,zero:=[.int .i64 0,.bool false,.slice none 0 0,.slice none 0 0,.slice none 0 0],agg:=true,fs:=[⟨0,3,1,false⟩,⟨1,62,3,true⟩,⟨4,65,1,false⟩]}),
 (68,{size:=1,by':=8,zero:=[.nilFunc]}),
 (69,{size:=1,by':=8,zero:=[.nilFunc]}),
 (70,{size:=1,by':=8,zero:=[.nilFunc]}),
 (71,{size:=1,by':=8,zero:=[.nilFunc]}),
 (72,{size:=1,by':=8,zero:=[.nilFunc]}),
 (73,{size:=1,by':=8,zero:=[.nilFunc]}),
 (74,{size:=1,by':=8,zero:=[.nilFunc]}),
 (75,{size:=1,by':=8,zero:=[.nilFunc]}),
 (76,{size:=1,by':=8,zero:=[.nilFunc]}),
 (77,{size:=1,by':=8,zero:=[.nilFunc]}),
 (78,{size:=1,by':=8,zero:=[.nilFunc]}),
 (79,{size:=1,by':=8,zero:=[.nilFunc]}),
 (80,{size:=1,by':=8,zero:=[.nilFunc]}),
 (81,{size:=4,by':=64,zero:=[.int .i64 0,.bool false,.slice none 0 0,.slice none 0 0],agg:=true,fs:=[⟨0,3,1,false⟩,⟨1,62,3,true⟩]}),
 (82,{size:=4,by':=64,zero:=[.int .i64 0,.bool false,.slice none 0 0,.slice none 0 0],agg:=true,fs:=[⟨0,3,1,false⟩,⟨1,62,3,true⟩]}),
 (83,{size:=1,by':=8,zero:=[.nilFunc]}),
 (84,{size:=8,by':=128,zero:=[.slice none 0 0,.slice none 0 0,.int .i64 0,.int .i64 0,.slice none 0 0,.int .i64 0,.int .i64 0,.slice none 0 0],agg:=true,fs:=[⟨0,38,1,false⟩,⟨1,38,1,false⟩,⟨2,24,3,true⟩,⟨5,24,3,true⟩]}),
 (85,{size:=8,by':=128,zero:=[.slice none 0 0,.slice none 0 0,.int .i64 0,.int .i64 0,.slice none 0 0,.int .i64 0,.int .i64 0,.slice none 0 0],agg:=true,fs:=[⟨0,38,1,false⟩,⟨1,38,1,false⟩,⟨2,24,3,true⟩,⟨5,24,3,true⟩]}),
 (87,{size:=1,by':=8,zero:=[.nilFunc]}),
 (89,{size:=1,by':=8,zero:=[.nilFunc]}),
 (90,{size:=1,by':=24,zero:=[.slice none 0 0],el:=some 146}),
 (91,{size:=10,by':=176,zero:=[.slice none 0 0,.slice none 0 0,.slice none 0 0,.int .i64 0,.int .i64 0,.slice none 0 0,.int .i64 0,.int .i64 0,.slice none 0 0,.slice none 0 0],agg:=true,fs:=[⟨0,22,1,false⟩,⟨1,85,8,true⟩,⟨9,90,1,false⟩]}),
 (92,{size:=10,by':=176,zero:=[.slice none 0 0,.slice none 0 0,.slice none 0 0,.int .i64 0,.int .i64 0,.slice none 0 0,.int .i64 0,.int .i64 0,.slice none 0 0,.slice none 0 0],agg:=true,fs:=[⟨0,22,1,false⟩,⟨1,85,8,true⟩,⟨9,90,1,false⟩]}),
 (93,{size:=1,by':=8,zero:=[.nilFunc]}),
 (94,{size:=1,by':=8,zero:=[.nilFunc]}),
 (95,{size:=1,by':=8,zero:=[.nilFunc]}),
 (96,{size:=1,by':=8,zero:=[.nilFunc]}),
 (97,{size:=2,by':=32,zero:=[.slice none 0 0,.int .i64 0],agg:=true,fs:=[⟨0,38,1,false⟩,⟨1,3,1,false⟩]}),
 (98,{size:=2,by':=32,zero:=[.slice none 0 0,.int .i64 0],agg:=true,fs:=[⟨0,38,1,false⟩,⟨1,3,1,false⟩]}),
 (99,{size:=1,by':=8,zero:=[.nilFunc]}),
 (100,{size:=1,by':=8,zero:=[.nilFunc]}),
 (101,{size:=1,by':=8,zero:=[.nilFunc]}),
 (102,{size:=1,by':=8,zero:=[.nilFunc]}),
 (104,{size:=1,by':=8,zero:=[.nilFunc]}),
 (105,{size:=11,by':=184,zero:=[.bool false,.slice none 0 0,.slice none 0 0,.bool false,.bool false,.slice none 0 0,.slice none 0 0,.bool false,.bool false,.slice none 0 0,.slice none 0 0],agg:=true,fs:=[⟨0,62,3,true⟩,⟨3,4,1,false⟩,⟨4,62,3,true⟩,⟨7,4,1,false⟩,⟨8,62,3,true⟩]}),
 (106,{size:=11,by':=184,zero:=[.bool false,.slice none 0 0,.slice none 0 0,.bool false,.bool false,.slice none 0 0,.slice none 0 0,.bool false,.bool false,.slice none 0 0,.slice none 0 0],agg:=true,fs:=[⟨0,62,3,true⟩,⟨3,4,1,false⟩,⟨4,62,3,true⟩,⟨7,4,1,false⟩,⟨8,62,3,true⟩]}),
 (107,{size:=1,by':=8,zero:=[.nilFunc]}),
 (108,{size:=1,by':=8,zero:=[.nilFunc]}),
 (109,{size:=1,by':=8,zero:=[.nilFunc]}),
 (110,{size:=1,by':=8,zero:=[.nilFunc]}),
 (111,{size:=1,by':=8,zero:=[.nilFunc]}),
 (112,{size:=10,by':=176,zero:=[.slice none 0 0,.slice none 0 0,.slice none 0 0,.slice none 0 0,.int .i64 0,.int .i64 0,.slice none 0 0,.int .i64 0,.int .i64 0,.slice none 0 0],agg:=true,fs:=[⟨0,38,1,false⟩,⟨1,38,1,false⟩,⟨2,85,8,true⟩]}),
 (113,{size:=10,by':=176,zero:=[.slice none 0 0,.slice none 0 0,.slice none 0 0,.slice none 0 0,.int .i64 0,.int .i64 0,.slice none 0 0,.int .i64 0,.int .i64 0,.slice none 0 0],agg:=true,fs:=[⟨0,38,1,false⟩,⟨1,38,1,false⟩,⟨2,85,8,true⟩]}),
 (115,{size:=1,by':=8,zero:=[.nilFunc]}),
 (116,{size:=1,by':=8,zero:=[.nilFunc]}),
 (117,{size:=1,by':=24,zero:=[.slice none 0 0],el:=some 4}),
 (118,{size:=1,by':=8,zero:=[.nilFunc]}),
 (120,{size:=1,by':=8,zero:=[.nilFunc]}),
 (121,{size:=1,by':=8,zero:=[.nilFunc]}),
 (122,{size:=1,by':=8,zero:=[.nilFunc]}),
 (123,{size:=1,by':=4,zero:=[.int .u32 0],ik:=some .u32}),
 (124,{size:=1,by':=8,zero:=[.nilFunc]}),
 (125,{size:=1,by':=8,zero:=[.nilFunc]}),
 (126,{size:=1,by':=8,zero:=[.nilFunc]}),
 (127,{size:=1,by':=8,zero:=[.nilFunc]}),
 (128,{size:=1,by':=8,zero:=[.nilFunc]}),
 (129,{size:=1,by':=8,zero:=[.nilFunc]}),
 (130,{size:=1,by':=8,zero:=[.nilFunc]}),
 (131,{size:=1,by':=8,zero:=[.nilFunc]}),
 (132,{size:=1,by':=8,zero:=[.nilFunc]}),
 (133,{size:=1,by':=8,zero:=[.nilFunc]}),
 (134,{size:=1,by':=8,zero:=[.nilFunc]}),
 (135,{size:=1,by':=8,zero:=[.nilFunc]}),
 (137,{size:=1,by':=8,zero:=[.nilFunc]}),
 (139,{size:=1,by':=8,zero:=[.nilFunc]}),
 (140,{size:=1,by':=8,zero:=[.nilFunc]}),
 (141,{size:=1,by':=24,zero:=[.slice none 0 0],el:=some 55}),
 (142,{size:=1,by':=8,zero:=[.nilFunc]}),
 (144,{size:=1,by':=8,zero:=[.nilFunc]}),
 (145,{size:=5,by':=88,zero:=[.int .i64 0,.bool false,.slice none 0 0,.slice none 0 0,.slice none 0 0],agg:=true,fs:=[⟨0,3,1,false⟩,⟨1,62,3,true⟩,⟨4,65,1,false⟩]}),
 (146,{size:=5,by':=88,zero:=[.int .i64 0,.bool false,.slice none 0 0,.slice none 0 0,.slice none 0 0],agg:=true,fs:=[⟨0,3,1,false⟩,⟨1,62,3,true⟩,⟨4,65,1,false⟩]}),
 (147,{size:=1,by':=8,zero:=[.nilFunc]}),
 (148,{size:=1,by':=8,zero:=[.nilFunc]}),
 (149,{size:=1,by':=8,zero:=[.nilFunc]}),
 (150,{size:=1,by':=8,zero:=[.nilFunc]}),
 (151,{size:=1,by':=8,zero:=[.nilFunc]}),
 (152,{size:=1,by':=8,zero:=[.nilFunc]}),
 (153,{size:=1,by':=8,zero:=[.nilFunc]}),
 (154,{size:=1,by':=8,zero:=[.nilFunc]}),
 (155,{size:=1,by':=8,zero:=[.pointer none],pt:=true}),
 (156,{size:=1,by':=8,zero:=[.nilFunc]}),
 (158,{size:=1,by':=8,zero:=[.nilFunc]}),
 (159,{size:=1,by':=8,zero:=[.nilFunc]}),
 (160,{size:=1,by':=24,zero:=[.slice none 0 0],el:=some 210}),
 (161,{size:=4,by':=96,zero:=[.slice none 0 0,.slice none 0 0,.slice none 0 0,.slice none 0 0],agg:=true,fs:=[⟨0,22,1,false⟩,⟨1,22,1,false⟩,⟨2,160,1,false⟩,⟨3,38,1,false⟩]}),
 (162,{size:=4,by':=96,zero:=[.slice none 0 0,.slice none 0 0,.slice none 0 0,.slice none 0 0],agg:=true,fs:=[⟨0,22,1,false⟩,⟨1,22,1,false⟩,⟨2,160,1,false⟩,⟨3,38,1,false⟩]}),
 (164,{size:=1,by':=8,zero:=[.nilFunc]}),
 (165,{size:=1,by':=8,zero:=[.nilFunc]}),
 (166,{size:=1,by':=8,zero:=[.nilFunc]}),
 (167,{size:=1,by':=8,zero:=[.nilFunc]}),
 (168,{size:=1,by':=8,zero:=[.nilFunc]}),
 (169,{size:=1,by':=8,zero:=[.map none],mv:=some (.int .i64 0)}),
 (171,{size:=1,by':=8,zero:=[.map none],mv:=some (.slice none 0 0)}),
 (172,{size:=1,by':=8,zero:=[.map none],mv:=some (.slice none 0 0)}),
 (173,{size:=1,by':=8,zero:=[.nilFunc]}),
 (174,{size:=1,by':=8,zero:=[.nilFunc]}),
 (175,{size:=1,by':=8,zero:=[.nilFunc]}),
 (176,{size:=1,by':=8,zero:=[.nilFunc]}),
 (177,{size:=1,by':=8,zero:=[.nilFunc]}),
 (178,{size:=1,by':=8,zero:=[.nilFunc]}),
 (180,{size:=1,by':=8,zero:=[.nilFunc]}),
 (181,{size:=1,by':=8,zero:=[.nilFunc]}),
 (182,{size:=1,by':=8,zero:=[.nilFunc]}),
 (184,{size:=1,by':=8,zero:=[.nilFunc]}),
 (185,{size:=1,by':=8,zero:=[.nilFunc]}),
 (186,{size:=1,by':=8,zero:=[.nilFunc]}),
 (187,{size:=1,by':=8,zero:=[.nilFunc]}),
 (188,{size:=1,by':=8,zero:=[.nilFunc]}),
 (189,{size:=1,by':=8,zero:=[.nilFunc]}),
 (190,{size:=1,by':=8,zero:=[.int .u64 0],ik:=some .u64}),
 (191,{size:=1,by':=8,zero:=[.nilFunc]}),
 (192,{size:=1,by':=8,zero:=[.nilFunc]}),
 (194,{size:=1,by':=8,zero:=[.nilFunc]}),
 (195,{size:=1,by':=8,zero:=[.nilFunc]}),
 (197,{size:=1,by':=8,zero:=[.nilFunc]}),
 (199,{size:=1,by':=8,zero:=[.nilFunc]}),
 (200,{size:=1,by':=8,zero:=[.nilFunc]}),
 (201,{size:=1,by':=8,zero:=[.nilFunc]}),
 (202,{size:=1,by':=8,zero:=[.nilFunc]}),
 (203,{size:=1,by':=8,zero:=[.nilFunc]}),
 (204,{size:=1,by':=8,zero:=[.nilFunc]}),
 (205,{size:=1,by':=8,zero:=[.nilFunc]}),
 (206,{size:=1,by':=8,zero:=[.nilFunc]}),
 (207,{size:=1,by':=8,zero:=[.nilFunc]}),
 (208,{size:=1,by':=8,zero:=[.nilFunc]}),
 (209,{size:=1,by':=8,zero:=[.nilFunc]}),
 (210,{size:=1,by':=8,zero:=[.map none],mp:=true}),
 (211,{size:=1,by':=8,zero:=[.nilFunc]}),
 (212,{size:=1,by':=8,zero:=[.nilFunc]}),
 (213,{size:=1,by':=8,zero:=[.nilFunc]}),
 (214,{size:=1,by':=8,zero:=[.nilFunc]}),
 (215,{size:=1,by':=8,zero:=[.nilFunc]}),
 (216,{size:=1,by':=8,zero:=[.nilFunc]}),
 (217,{size:=1,by':=8,zero:=[.nilFunc]}),
 (218,{size:=1,by':=8,zero:=[.nilFunc]}),
 (219,{size:=1,by':=8,zero:=[.map none],mv:=some (.slice none 0 0)}),
 (221,{size:=1,by':=8,zero:=[.nilFunc]}),
 (222,{size:=1,by':=8,zero:=[.nilFunc]}),
 (223,{size:=1,by':=8,zero:=[.int .u64 0],ik:=some .u64}),
 (224,{size:=1,by':=8,zero:=[.nilFunc]}),
 (226,{size:=1,by':=8,zero:=[.nilFunc]}),
 (228,{size:=1,by':=8,zero:=[.nilFunc]}),
 (229,{size:=1,by':=8,zero:=[.nilFunc]}),
 (230,{size:=1,by':=8,zero:=[.nilFunc]}),
 (232,{size:=1,by':=8,zero:=[.nilFunc]}),
 (233,{size:=1,by':=8,zero:=[.nilFunc]}),
 (234,{size:=1,by':=8,zero:=[.nilFunc]}),
 (235,{size:=1,by':=8,zero:=[.nilFunc]}),
 (236,{size:=1,by':=8,zero:=[.nilFunc]}),
 (237,{size:=1,by':=8,zero:=[.nilFunc]}),
 (238,{size:=1,by':=8,zero:=[.nilFunc]}),
 (239,{size:=1,by':=8,zero:=[.nilFunc]}),
 (240,{size:=1,by':=8,zero:=[.nilFunc]}),
 (241,{size:=1,by':=8,zero:=[.nilFunc]}),
 (242,{size:=1,by':=8,zero:=[.nilFunc]}),
 (243,{size:=1,by':=8,zero:=[.nilFunc]}),
 (244,{size:=1,by':=8,zero:=[.nilFunc]}),
 (245,{size:=5,by':=40,zero:=[.int .u64 0,.int .u64 0,.int .u64 0,.int .u64 0,.bool false],agg:=true,fs:=[⟨0,190,1,false⟩,⟨1,190,1,false⟩,⟨2,190,1,false⟩,⟨3,190,1,false⟩,⟨4,4,1,false⟩]}),
 (246,{size:=5,by':=40,zero:=[.int .u64 0,.int .u64 0,.int .u64 0,.int .u64 0,.bool false],agg:=true,fs:=[⟨0,190,1,false⟩,⟨1,190,1,false⟩,⟨2,190,1,false⟩,⟨3,190,1,false⟩,⟨4,4,1,false⟩]}),
 (247,{size:=1,by':=8,zero:=[.nilFunc]}),
 (248,{size:=1,by':=8,zero:=[.nilFunc]}),
 (250,{size:=1,by':=8,zero:=[.nilFunc]}),
 (251,{size:=1,by':=8,zero:=[.nilFunc]}),
 (252,{size:=1,by':=8,zero:=[.nilFunc]}),
 (253,{size:=1,by':=8,zero:=[.int .i64 0],ik:=some .i64}),
 (255,{size:=1,by':=8,zero:=[.nilFunc]}),
 (256,{size:=1,by':=8,zero:=[.nilFunc]}),
 (257,{size:=1,by':=8,zero:=[.nilFunc]}),
 (258,{size:=1,by':=8,zero:=[.nilFunc]}),
 (259,{size:=1,by':=8,zero:=[.nilFunc]}),
 (260,{size:=1,by':=8,zero:=[.nilFunc]}),
 (261,{size:=1,by':=8,zero:=[.nilFunc]}),
 (262,{size:=1,by':=8,zero:=[.nilFunc]}),
 (263,{size:=1,by':=8,zero:=[.nilFunc]}),
 (264,{size:=1,by':=8,zero:=[.nilFunc]}),
 (265,{size:=1,by':=8,zero:=[.int .u64 0],ik:=some .u64}),
 (266,{size:=1,by':=8,zero:=[.nilFunc]}),
 (269,{size:=1,by':=8,zero:=[.pointer none],pt:=true}),
 (271,{size:=1,by':=8,zero:=[.nilFunc]}),
 (272,{size:=1,by':=8,zero:=[.pointer none],pt:=true})]
theorem cOp:tab.map (λe=>bCa Tryz.prog e.1)=tab.map (λe=>bCb e.2):=by kernel_rfl
theorem cOq:tab.all (chk tab)=true:=by kernel_rfl
theorem cOr:tab.all (λe=>Nat.beq e.2.ck 0)=true:=by kernel_rfl
theorem cOs:∀e∈tab,∀vs,ckF e.2.ck vs=true->CkP Tryz.prog e.1 vs:=λe he vs h=>by rw[aK (aV.1 cOr e he)] at h;exact(cOo h).elim
theorem cOt:∀e∈tab,e.2.mp=true->∃k e',Tryz.prog.underlying e.1=some (.map k e')/\Tryz.prog.underlying k=some (.int .i64):=λe he h=>by have:=aV.1 (show tab.all (λe=>!e.2.mp||Nat.beq e.1 210)=true by kernel_rfl) e he;rw[h] at this;simp only[jE,pW] at this;rw[aK this];exact⟨3,4,by kernel_rfl,by kernel_rfl⟩
theorem gT:Go.Vy.Good Tryz.prog (Go.Vy.look tab):=bLt cOp cOq cOs cOt kR kR
theorem mxd:Tryz.prog.follows .mixedOrders=true:=by kernel_rfl
end Go.Proofs.YtghncoghdcmdfaaGreat
namespace Go.Vy
open Go.Vg Go.RowKit
section
variable {nb:Nat} {X:SS->Prop} {s:SS}
theorem aNd (hX:Tgt nb X) (t:Nat) (T es:Nat) (ht:fZ s.sl t=some (.c (.v (.slice none 0 0)))) (hes:0<es) (hgl:s.gl=[]) (h:qW s.bl (T,es,[]) λbl'=>X ⟨(t,.c (.s (cnt s.bl 0) 0))::s.sl,[],bl',s.fl⟩):X s:=by
 have h':=mI h
 rw[xY] at h'
 refine hX.one (λρ0 w0 ρ f w hD=>?_) h'
 have hp:∀b,((none,0):Option Nat×Nat).1=some b->w.heap.size<=b:=λb hb=>by cases hb
 have kp:Kp ρ s.bl.length w (wJ ρ s.bl.length (none,0)) (s.bl.length+1) w:=Kp.new hp (Ext.refl w)
 have hn:(s.bl++[(T,es,[])]).length=s.bl.length+1:=by simp
 refine⟨wJ ρ s.bl.length (none,0),⟨hD.m.new hp (Ext.refl w) ?_,⟨λt' d ht'=>?_,λt' gs d ht'=>by cases ht'⟩,hD.l⟩⟩
 ·unfold Bq
  rw[jM]
  exact⟨rfl,rfl,hes⟩
 show Hd _ (s.bl++[(T,es,[])]).length w d (f t')
 rw[hn]
 simp only[fZ] at ht'
 cases hb:Nat.beq t t' with
 |true=>
  rw[hb] at ht'
  injection ht' with ht'
  subst ht'
  have:=aK hb
  subst this
  have he:=(hD.f.sl t _ ht).inv_c.inv_v
  refine .c ⟨bF _,?_⟩
  rw[jM,he]
  rfl
 |false=>rw[hb] at ht';exact(hD.f.sl t' d ht').kp kp
theorem kG {cl:List Bool} {d:DV} {o:OutF} (hd:EqD d o.d) (hb:aPp s.bl o.bl) (hf:bLu s.fl o.fl) (hnb:nb<=o.bl.length) (hsc:scB o.bl.length o.bl) (hsd:scD o.bl.length o.d=true) (hcl:ClB cl o.bl):bUg cl nb s d o:=λρ0 w0 ρ w v hD0 hF0 hv0=>by
 have hs0:∀t d',fZ [(0,d)] t=some d'->Hd ρ s.bl.length w d' v:=λt d' ht=>by
  simp only[fZ] at ht
  cases hb:Nat.beq 0 t with
  |true=>rw[hb] at ht;injection ht with ht;subst ht;exact hv0
  |false=>rw[hb] at ht;cases ht
 have hq:Dn ρ0 w0 nb ⟨[(0,d)],[],s.bl,s.fl⟩ ρ (λ_=>v) w:=⟨hD0,⟨hs0,λt gs d ht=>by cases ht⟩,hF0⟩
 obtain⟨_,ρ',_,h⟩:=bH (s:=⟨[(0,d)],[],s.bl,s.fl⟩) (M:=λ_=>true) (base:=[]) (chg:=λ_:Unit=>[(0,o.d)]) (bls:=λ_=>o.bl) (fls:=λ_=>o.fl) (C:=λ_=>True) (λt d ht=>by cases ht) () trivial (show([],[])=([],[]) from rfl) hb hf (show AllC [(0,d)] [(0,o.d)] from hd) hnb hsc (by simpa using hsd) _ _ _ _ _ hq
 exact⟨ρ',h.m,h.f.sl 0 _ rfl,hcl,h.l⟩
end
theorem oT {F:Fam} {l:List CV} {k0:Nat} {c0 c1:CV} (hk:l[k0]? =some c0) (hf:FrC F c0 c1):∀(k:Nat) (c c':CV),l[k]? =some c->(l.set k0 c1)[k]? =some c'->c=c'\/FrC F c c':=λk c c' h1 h2=>by
 rcases lH h2 with ⟨rfl,rfl,_⟩|⟨_,h3⟩
 ·rw[hk] at h1
  injection h1 with h1
  subst h1
  exact .inr hf
 rw[h1] at h3
 injection h3 with h3
 exact .inl h3
section
variable {nb:Nat} {X:SS->Prop} {s:SS}
theorem bQx (hX:Tgt nb X) (i k T es:Nat) {T0 e0:Nat} {l:List CV} (hb:s.bl[i]? =some (T0,e0,l)) (hk:l[k]? =some (.v (.slice none 0 0))) (hes:0<es) (hgl:s.gl=[]) (h:mO s.bl i (T0,e0,l.set k (.s (cnt s.bl 0) 0)) λb1=>qW b1 (T,es,[]) λbl'=>X ⟨s.sl,[],bl',s.fl⟩):X s:=by
 have h':=mI (gI h)
 rw[xY] at h'
 have hi:=eG hb
 refine hX.one (λρ0 w0 ρ f w hD=>?_) h'
 have hp:∀b,((none,0):Option Nat×Nat).1=some b->w.heap.size<=b:=λb hb=>by cases hb
 have kp:Kp ρ s.bl.length w (wJ ρ s.bl.length (none,0)) (s.bl.length+1) w:=Kp.new hp (Ext.refl w)
 have hn:(s.bl.set i (T0,e0,l.set k (.s s.bl.length 0))++[(T,es,([]:List CV))]).length=s.bl.length+1:=by simp
 have hn0:(s.bl++[(T,es,([]:List CV))]).length=s.bl.length+1:=by simp
 have h1:DnW ρ0 w0 nb (s.bl++[(T,es,[])]) (wJ ρ s.bl.length (none,0)) w:=hD.m.new hp (Ext.refl w) (by unfold Bq;rw[jM];exact⟨rfl,rfl,hes⟩)
 refine⟨wJ ρ s.bl.length (none,0),⟨⟨λj T2 e2 l2 hj=>?_,?_,?_,?_,h1.rel,h1.pl,h1.zz,?_,h1.ffr⟩,⟨λt' d ht'=>?_,λt' gs d ht'=>by cases ht'⟩,hD.l⟩⟩
 ·rw[hn]
  have e:s.bl.set i (T0,e0,l.set k (.s s.bl.length 0))++[(T,es,([]:List CV))]=(s.bl++[(T,es,[])]).set i (T0,e0,l.set k (.s s.bl.length 0)):=by rw[List.set_append_left _ _ hi]
  replace hj:(s.bl.set i (T0,e0,l.set k (.s s.bl.length 0))++[(T,es,([]:List CV))])[j]? =_:=hj
  rw[e] at hj
  have hb0:(s.bl++[(T,es,([]:List CV))])[i]? =some (T0,e0,l):=by rw[bA hi];exact hb
  rcases lH hj with ⟨rfl,h2,_⟩|⟨_,h2⟩
  ·injection h2 with h2 h3
   injection h3 with h3 h4
   subst h2 h3 h4
   have hq:=h1.ok j _ _ l hb0
   rw[hn0] at hq
   unfold Bq at hq ⊢
   cases hρ:(wJ ρ s.bl.length (none,0) j).1 with
   |none=>
    simp only[hρ] at hq ⊢
    rw[hq.1] at hk
    cases hk
   |some b=>
    simp only[hρ] at hq ⊢
    obtain⟨vl,junk,q1,q2,q3⟩:=hq
    refine⟨vl,junk,q1,Hl.of_get (by rw[bW];exact q2.len.symm) λq c y hc hy=>?_,q3⟩
    rcases lH hc with ⟨rfl,rfl,_⟩|⟨_,h5⟩
    ·obtain⟨y',h6,h7⟩:=q2.get hk
     rw[hy] at h6
     injection h6 with h6
     subst h6
     have he:=h7.inv_v
     refine⟨bF _,?_⟩
     rw[jM,he]
     rfl
    obtain⟨y',h6,h7⟩:=q2.get h5
    rw[hy] at h6
    injection h6 with h6
    subst h6
    exact h7
  have:=h1.ok j _ _ _ h2
  rw[hn0] at this
  exact this
 ·have:=h1.inj
  rw[hn0] at this
  simpa only[hn] using this
 ·have:=h1.fr
  rw[hn0] at this
  simpa only[hn] using this
 ·have:=h1.nbl
  rw[hn0] at this
  simpa only[hn] using this
 ·have:=h1.fam
  rw[hn0] at this
  simpa only[hn] using this
 show Hd _ (s.bl.set i (T0,e0,l.set k (.s s.bl.length 0))++[(T,es,([]:List CV))]).length w d (f t')
 rw[hn]
 exact(hD.f.sl t' d ht').kp kp
theorem cFk (hX:Tgt nb X) (i m:Nat) {T es:Nat} {l:List CV} (hb:s.bl[i]? =some (T,es,l)) (hes:0<es) (h:mO s.bl i (T,es,l.take m) λbl'=>X ⟨s.sl,s.gl,bl',s.fl⟩):X s:=by
 refine hX.one (s':=⟨s.sl,s.gl,s.bl.set i (T,es,l.take m),s.fl⟩) (λρ0 w0 ρ f w hD=>⟨ρ,⟨λj T2 e2 l2 hj=>?_,?_,?_,?_,hD.m.rel,hD.m.pl,hD.m.zz,?_,hD.m.ffr⟩,?_,hD.l⟩) (gI h)
 ·rw[bW]
  rcases lH hj with ⟨rfl,h2,_⟩|⟨_,h2⟩
  ·injection h2 with h2 h3
   injection h3 with h3 h4
   subst h2 h3 h4
   have hq:=hD.m.ok j _ _ l hb
   unfold Bq at hq ⊢
   cases hρ:(ρ j).1 with
   |none=>
    simp only[hρ] at hq ⊢
    exact⟨by rw[hq.1];simp,hq.2⟩
   |some b=>
    simp only[hρ] at hq ⊢
    obtain⟨vl,junk,q1,q2,q3,q4⟩:=hq
    refine⟨vl.take m,vl.drop m++junk,by rw[<-cU,dR];exact q1,q2.take m,λh0=>?_,λx hx=>q4 x (cV hx)⟩
    rw[<-cU,dR]
    exact q3 h0
  exact hD.m.ok j T2 e2 l2 h2
 ·simpa using hD.m.inj
 ·simpa using hD.m.fr
 ·simpa using hD.m.nbl
 ·simp only[bW];exact hD.m.fam
 exact hD.f.kp rfl rfl (by simp only[bW];exact Kp.refl)
end
def PlD (d:DV):Prop:=∀ρ n w v,Hd ρ n w d v->∀ρ' n' w',Hd ρ' n' w' d v
theorem FamOk.nil {at':Nat->Option Nat×Nat} {Z:Nat->Prop} {n:Nat} {w:World}:FamOk ⟨at',Z,[]⟩ n w:=
 {ok:=λF hF=>nomatch hF
  own:=λi b _ _ hf=>by
   obtain⟨F,hF,_⟩:=hf
   cases hF
  inj:=λf f' F F' j j' b h1=>nomatch h1}
theorem Ctr.lend {P:Program} {q:FuncId} {τ σ:Type} {al:τ->List DV} {X:τ->Prop} {R:σ->Out} (he:Ent P q) (h:∀t,X t->Ctr P q [] (al t) [] R) (hpl:∀g,PlD (R g).d) {cl:List Bool} {bl:BL} {al':List DV} (hcl:ClB cl bl)
 (ha:∀ρ w vals,DnW ρ w bl.length bl ρ w->HL ρ bl.length w al' vals->∃t,X t/\HL ⟨ρ.at',λ_=>True,[]⟩ 0 w (al t) vals):Ctr P q cl al' bl (λg=>⟨(R g).d,bl,(R g).C⟩):=
 ⟨he,hcl,λρ w vals hv hD hF=>by
  obtain⟨t,ht,hv'⟩:=ha ρ w vals hD hv
  refine((h t ht).run ⟨ρ.at',λ_=>True,[]⟩ w vals hv' ⟨λi T es l hi=>(by cases hi),λi j b hi=>absurd hi (aF _),λi b _ hi=>absurd hi (aF _),aI _,⟨rfl,rfl,rfl,aI _,λ_ _ _ _=>rfl⟩,λi hi=>rfl,⟨rfl,λ_ _=>trivial⟩,FamOk.nil,λb hb=> .inr hb⟩ rfl).mono λe w' ⟨v,hev,g,ρ',hC,hDr,hdv,hclr,hFr⟩=>?_
  have hr:=hDr.rel
  have hx:Ext w w':=⟨hr.os,hr.tape,hr.output,hr.size,λk hk=>hr.block k hk (λi hi=>absurd hi (aF _)) λ⟨F,hF,_⟩=>by cases hF⟩
  exact⟨v,hev,g,ρ,hC,hD.ext hx,hpl g _ _ _ _ hdv _ _ _,hcl,hF⟩⟩
section
variable {ρ0 ρ ρ':Pl} {w0 w w':World} {nb n:Nat} {bl:BL} {s:SS} {f:Nat->Value}
structure Mid (w:World) (n:Nat) (ρ:Pl) (W:World):Prop where
 os:W.os=w.os
 tape:W.tape=w.tape
 output:W.output=w.output
 size:w.heap.size+2<=W.heap.size
 block:∀k,k<w.heap.size->(∀i,i<n->(ρ i).1≠some k)->¬InF ρ k->W.heap[k]? =w.heap[k]?
theorem Mid.put {W:World} {l:Nat} (o:Obj) (h:Mid w n ρ W) (hl:w.heap.size<=l):Mid w n ρ (W.putObj l o):=
 ⟨h.os,h.tape,h.output,by rw[World.putObj_size];exact h.size,λk hk hn hf=>(World.putObj_heap_other oM).trans (h.block k hk hn hf)⟩
theorem Fr.nil {fl:List Fam}:Fr ⟨[],[],bl,fl⟩ ρ w f:=⟨λt d ht=>(by cases ht),λt gs d ht=>by cases ht⟩
theorem Fr.cons {t:Nat} {d:DV} {sl:List (Nat×DV)} {fl:List Fam} (h:Hd ρ bl.length w d (f t)) (hF:Fr ⟨sl,[],bl,fl⟩ ρ w f):Fr ⟨(t,d)::sl,[],bl,fl⟩ ρ w f:=⟨λt' d' ht=>by
 simp only[fZ] at ht
 cases hb:Nat.beq t t' with
 |true=>rw[hb] at ht;injection ht with ht;subst ht;rw[<-aK hb];exact h
 |false=>rw[hb] at ht;exact hF.sl t' d' ht,λt gs d ht=>by cases ht⟩
end
/-! ### a function with such a loop -/
abbrev mkD (d:Nat):Deferred:={target:=.collected d,args:=#[]}
def upM (N:Nat) (R:(Nat->Value)->World->Prop):Exit->Act->World->Prop
 |.ret,a,w=>∃f,(Fm [] N f a/\R f w)\/∃d,Fm [mkD d] N f a/\w.heap[d]? =some (.deferred (some []))/\R f (w.putObj d (.deferred none))
 |_,_,_=>False
section
variable {P:Program} {T:TT} {nb N:Nat} {x y z:Code} {KR:SS->Prop} {s:SS}
abbrev RD (ρ0:Pl) (w0:World) (nb:Nat) (KR:SS->Prop) (f:Nat->Value) (w:World):Prop:=∃s ρ,KR s/\Dn ρ0 w0 nb s ρ f w
def Sd0 (P:Program) (nb N:Nat) (c:Code) (KR:SS->Prop) (s:SS):Prop:=∀ρ0 w0 ρ f w a,Dn ρ0 w0 nb s ρ f w->Fm [] N f a->c.wpIn (fen none) 0 P (upM N (RD ρ0 w0 nb KR)) a w
theorem cFl {X:SS->Prop} (h:Sd P nb N x ⟨X,λ_ _=>False,KR⟩ s) {ρ0 ρ:Pl} {w0 w:World} {f:Nat->Value} {a:Act} (hD:Dn ρ0 w0 nb s ρ f w) {dl:List Deferred} (ha:Fm dl N f a) {ro:Option Nat}:x.wpIn (fen ro) 0 P (up dl N ⟨RD ρ0 w0 nb X,λ_ _ _=>False,RD ρ0 w0 nb KR⟩) a w:=
 h ρ0 w0 ρ f w ⟨RD ρ0 w0 nb X,λ_ _ _=>False,RD ρ0 w0 nb KR⟩ ⟨λs ρ f w hk hD=>⟨s,ρ,hk,hD⟩,λ_ _ _ _ _ hk _=>hk,λs ρ f w hk hD=>⟨s,ρ,hk,hD⟩⟩ hD ro dl a ha
theorem Sd0.seq (h:Sd P nb N x ⟨Sd0 P nb N y KR,λ_ _=>False,KR⟩ s):Sd0 P nb N (.seq x y) KR s:=λρ0 w0 ρ f w a hD ha=>
 wpIn_seq (wpIn_mono (cFl h hD ha) λe a w hq=>by
  cases e with
  |normal=>obtain⟨f,hf,s,ρ,hk,hD⟩:=hq;exact hk _ _ _ _ _ _ hD hf
  |ret=>obtain⟨f,hf,hr⟩:=hq;exact⟨f,.inl ⟨hf,hr⟩⟩
  |exit i=>obtain⟨f,hf,hr⟩:=hq;exact hr.elim
  |goto l=>exact hq.elim
  |panic c=>exact hq.elim
  |outgrown=>exact hq.elim)
theorem Sd.wp {K:Kt} (h:Sd P nb N x K s) {ρ0 ρ:Pl} {w0 w:World} {f:Nat->Value} (hD:Dn ρ0 w0 nb s ρ f w):WP P N x ⟨RD ρ0 w0 nb K.nrm,λi=>RD ρ0 w0 nb (K.ext i),RD ρ0 w0 nb K.ret⟩ f w:=
 h ρ0 w0 ρ f w ⟨RD ρ0 w0 nb K.nrm,λi=>RD ρ0 w0 nb (K.ext i),RD ρ0 w0 nb K.ret⟩ ⟨λs ρ f w hk hD=>⟨s,ρ,hk,hD⟩,λ_ s ρ f w hk hD=>⟨s,ρ,hk,hD⟩,λs ρ f w hk hD=>⟨s,ρ,hk,hD⟩⟩ hD
theorem AllC.hd {chg:List (Nat×DV)} (h:AllC s.sl chg) {ρ0 ρ:Pl} {w0 w:World} {f:Nat->Value} (hD:Dn ρ0 w0 nb s ρ f w) {t:Nat} {d:DV} (ht:fZ chg t=some d):Hd ρ s.bl.length w d (f t):=by
 obtain⟨d0,h1,h2⟩:=h.get ht
 exact h2.hd (hD.f.sl t d0 h1)
end
/-! ### a region that calls yield -/
section
variable {P:Program} {n:Nat} {Q:Po} {f:Nat->Value} {w:World} {ops:Array Oper}
def RLI (ro:Option Nat) (P:Program) (n:Nat) (ops:Array Oper) (l:List Oper) (Q:Po) (f:Nat->Value) (w:World):Prop:=∀dl a,Fm dl n f a->wpListIn (fen ro) 0 P ops (up dl n Q) l a w
theorem RLI.nil {ro:Option Nat} (h:Q.nrm f w):RLI ro P n ops [] Q f w:=λ_ _ ha=>wpListIn_nil ⟨f,ha,h⟩
theorem RLI.val {ro:Option Nat} {o:Oper} {rest:List Oper} {d:Nat} {v:Value} {w':World} (hg:o.guard=none) (hnd:ndO o=true) (hd:o.dst=some d) (hn:d<n) (hr:(execOp (ev f) o).run P w= .ok (.value v) w') (h:RLI ro P n ops rest Q (st f d v) w'):RLI ro P n ops (o::rest) Q f w:=λdl a ha=>by
 unfold wpListIn
 have hw:Region.wanted o (yielded ops a.tmps)=true:=by simp[Region.wanted,hg]
 rw[if_pos hw]
 refine⟨aHn,?_⟩
 rw[Oper.semAt_plain (fen ro) a.eval o (aYt hnd),ha.eval,hr]
 exact h dl _ (by rw[hd];exact ha.put hn v)
end
theorem CtrF.lo {P:Program} {q:FuncId} {cl:List Bool} {al:List DV} {bl:BL} {fl:List Fam} {σ τ:Type} {R:σ->OutF} {R':τ->OutF} (h:CtrF P q cl al bl fl R) (hp:∀g,(R g).C->∃g',(R' g').C/\(∀ρ n w v,Hd ρ n w (R g).d v->Hd ρ n w (R' g').d v)/\(R' g').bl=(R g).bl/\(R' g').fl=(R g).fl):CtrF P q cl al bl fl R':=
 ⟨h.ent,h.clb,λρ w vals hv hD hF=>(h.run ρ w vals hv hD hF).mono λe w' ⟨v,he,g,ρ',hC,hDr,hdv,hclr,hFr⟩=>by
  obtain⟨g',h1,h2,h3,h4⟩:=hp g hC
  exact⟨v,he,g',ρ',h1,by rw[h3];exact hDr,by rw[h3];exact h2 _ _ _ _ hdv,by rw[h3];exact hclr,by rw[h4];exact hFr⟩⟩
theorem Hd.tt {ρ:Pl} {n:Nat} {w:World} {p:Prop} {hp:Decidable p} {v:Value} (h:Hd ρ n w (.c (.b p hp)) v) (ht:p):Hd ρ n w (.c (.v (.bool true))) v:=by
 rw[h.inv_c.inv_b,decide_eq_true ht];exact .c (Rc.v _)
/-! ### a place within a region -/
section
variable {P:Program} {T:TT} {nb N n:Nat} {Q:Po} {f:Nat->Value} {w:World} {ops:Array Oper} {s:SS} {K:SS->Prop}
theorem cOu {dl:List Deferred} {Q2:Po} {o:Oper} {a:Act} {w:World} {K:Act->World->Prop} (h:o.wp P a w K (up dl n Q)):o.wp P a w K (up dl n Q2):=by
 unfold Oper.wp at h ⊢
 generalize (execOp a.eval o).run P w=r at h ⊢
 cases r with
 |ok x w'=>
  cases x with
  |enter f args=>
   refine Calls.mono h λe w'' hh=>?_
   cases e with
   |returned v=>exact hh
   |panicked c=>exact hh.elim
   |outgrown=>exact(aHo hh).elim
  |_=>exact h
 |halt x w'=>cases x<;>first|exact h|exact h.elim
theorem aEo {dl:List Deferred} {suf:List Oper}:∀{l:List Oper} {a:Act} {w:World},wpList P ops (up dl n ⟨λf w=>RL P n ops suf Q f w,Q.ext,Q.ret⟩) l a w->wpList P ops (up dl n Q) (l++suf) a w
 |[],a,w,h=>by obtain⟨f,hf,hh⟩:=h;exact hh dl a hf
 |o::l,a,w,h=>by
  unfold wpList at h
  show wpList _ _ _ (o::(l++suf)) _ _
  unfold wpList
  split
  ·next hw=>
   rw[if_pos hw] at h
   rcases h with h|h
   ·exact .inl (cOu (Oper.wp_mono (λa w hh=>aEo hh) h))
   exact absurd h.2 aHo
  next hw=>
  rw[if_neg hw] at h
  exact aEo h
def Sdl (P:Program) (nb N:Nat) (ops:Array Oper) (suf:List Oper) (K:SS->Prop) (s:SS):Prop:=∀ρ0 w0 ρ f w (Q:Po),(∀s ρ f w,K s->Dn ρ0 w0 nb s ρ f w->Q.nrm f w)->Dn ρ0 w0 nb s ρ f w->RL P N ops suf Q f w
theorem bUl {suf:List Oper}:Tgt nb (Sdl P nb N ops suf K):=λs σ S C h hk ρ0 w0 ρ f w Q hQ hD=>by
 obtain⟨g,ρ',hC,hD'⟩:=h ρ0 w0 ρ f w hD
 exact hk g hC ρ0 w0 ρ' f w Q hQ hD'
theorem Sdl.go (hT:Good P T) {l suf:List Oper} (h:VL P T nb N l suf K s):Sdl P nb N l.toArray suf K s:=λρ0 w0 ρ f w Q hQ hD=>aAc (ops:=l.toArray) hT hQ h hD
theorem Sd.rg (hT:Good P T) {id:Nat} (pre suf:List Oper) {l:List Oper} {K:Kt} (hl:l=pre++suf) (hd:ndA l=true) (h:VL P T nb N l pre (Sdl P nb N l.toArray suf K.nrm) s):Sd P nb N (.region id l.toArray false) K s:=λρ0 w0 ρ f w Q hL hD=>aSs (λdl a ha=>by
 have h1:RL P N l.toArray pre ⟨λf w=>RL P N l.toArray suf Q f w,Q.ext,Q.ret⟩ f w:=aAc (ops:=l.toArray) hT (Q:=⟨λf w=>RL P N l.toArray suf Q f w,Q.ext,Q.ret⟩) (λs ρ f w hk hD=>hk ρ0 w0 ρ f w Q hL.nrm hD) h hD
 have:=aEo (h1 dl a ha)
 rw[<-hl] at this
 exact this) hd
theorem Sd.sq {a b:Code} {K:Kt} (h:Sd P nb N a ⟨λs'=>Sd P nb N b K s',K.ext,K.ret⟩ s):Sd P nb N (.seq a b) K s:=λρ0 w0 ρ f w Q hL hD=>aYp (h ρ0 w0 ρ f w _ ⟨λs' ρ' f' w' h' hD'=>h' ρ0 w0 ρ' f' w' Q hL hD',hL.ext,hL.ret⟩ hD)
end
/-! ### cells that tell their value -/
section
variable {P:Program} {T:TT} {w0 w:World} {nb N:Nat} {s:SS} {ρ ρ0:Pl} {f:Nat->Value} {dst:Option Tmp} {ty:TypeId} {pos:String} {aft:Array Edge} {gd:Option (Nat×Bool)} {x y:Operand} {t t' e:TypeId}
theorem bLv {size bytes n b cap:Nat} {zz v2:Value} {cs news:List Value} {T0:TypeId} {D:Nat->TypeId->Prop} (hu:P.underlying t=some (.slice e)) (ht:TyI P e size bytes zz) (hx:ev f x= .slice (some ⟨b,0,none⟩) n cap) (hy:ev f y=v2)
 (hb:w.heap[b]? =some (.cells cs.toArray T0 (0,0))) (hs:Sc D w size v2 n news) (h1:∀u∈news,u.oneCell'=true) (hfit:news.length<=cs.length):
 ∃w',(execOp (ev f) ⟨dst,.call ⟨.builtin .copy,#[x,y],#[t,t']⟩,ty,pos,aft,gd⟩).run P w= .ok (.value (.int .i64 n)) w'/\w'.heap[b]? =some (.cells (spl cs 0 news).toArray T0 (0,0))/\Exc b w w':=by
 obtain⟨i,hi,hzi,hsi,hbi⟩:=ht.ex
 subst hsi
 obtain⟨A,c,rfl,hmc,hcm,hl,hA⟩:=hs
 have hst:=run_storeCells_at P b 0 T0 news 0 cs.toArray w hb (by simpa using hfit) h1
 simp only[gO] at hst
 have hst':(storeCells ⟨b,0,none⟩ news 0).run P w= .ok () (w.setRow b (spl cs 0 news).toArray):=by simpa[spl] using hst
 have key:(Builtin.copy_ #[t,t'] ty #[.slice (some ⟨b,0,none⟩) n cap,.slice A n c]).run P w= .ok (.int .i64 n) (w.setRow b (spl cs 0 news).toArray):=by
  cases A with
  |none=>
   have hn:news=[]:=by
    rcases hA with h|⟨_,_,h,_⟩
    ·exact h
    cases h
   subst hn
   simp[Builtin.copy_,run_underlying hu,sizeOf,typeInfo,hi,Builtin.lenOf,Builtin.firstCells,goInt,hst']
  |some ad=>
   have hfc:=run_firstCells_some (P:=P) w i.size n ad n c news hl (λj u hj=>by
    rcases hA with h|⟨b',o',h,hrd⟩
    ·subst h;cases hj
    injection h with h
    subst h
    rw[fN];exact hrd.cell hj)
   simp[Builtin.copy_,run_underlying hu,sizeOf,typeInfo,hi,Builtin.lenOf,hfc,goInt,hst']
 exact⟨_,by simp[execOp,resolve,invoke,builtin,hx,hy,key],setRow_heap w b cs.toArray _ T0 (0,0) hb,uS _ _ _⟩
theorem aNe {size bytes cap c:Nat} {zz:Value} {A:Option Addr} (hu:P.underlying t=some (.slice e)) (ht:TyI P e size bytes zz) (hx:ev f x= .slice none 0 cap) (hy:ev f y= .slice A 0 c):
 (execOp (ev f) ⟨dst,.call ⟨.builtin .copy,#[x,y],#[t,t']⟩,ty,pos,aft,gd⟩).run P w= .ok (.value (.int .i64 0)) w:=by
 obtain⟨i,hi,hzi,hsi,hbi⟩:=ht.ex
 have key:(Builtin.copy_ #[t,t'] ty #[.slice none 0 cap,.slice A 0 c]).run P w= .ok (.int .i64 0) w:=by
  cases A with
  |none=>simp[Builtin.copy_,run_underlying hu,sizeOf,typeInfo,hi,Builtin.lenOf,Builtin.firstCells,goInt]
  |some ad=>
   have hfc:=run_firstCells_some (P:=P) w i.size 0 ad 0 c [] (by simp) (λj u hj=>by cases hj)
   simp[Builtin.copy_,run_underlying hu,sizeOf,typeInfo,hi,Builtin.lenOf,hfc,goInt]
 simp[execOp,resolve,invoke,builtin,hx,hy,key]
theorem Sdl.copy (hT:Good P T) {d i n c e' m:Nat} {A:Option Addr} {ti te:TI} {l:List CV} {ops:Array Oper} {K:SS->Prop} {get:Nat->List CV} (hx:val [] s x=some (.c (.s i n))) (hy:val [] s y=some (.c (.r A m c e' get))) (hb:s.bl[i]? =some (e,te.size,l)) (ht:T t=some ti) (he:ti.el=some e) (hte:T e=some te) (hsz:0<te.size) (he':e'=te.size) (hm:m=n) (hl:n*te.size=l.length) (hg:∀j,j<n->(get j).length=te.size) (hgl:s.gl=[]) (hd:d<N)
 (h:mO s.bl i (e,te.size,flatR n get) λbl'=>K ⟨(d,.c (.v (.int .i64 n)))::s.sl,[],bl',s.fl⟩):Sdl P nb N ops [⟨some d,.call ⟨.builtin .copy,#[x,y],#[t,t']⟩,ty,pos,aft,none⟩] K s:=λρ0 w0 ρ f w Q hQ hD=>by
 subst hm he'
 have G:=hT e te hte
 obtain⟨zz,hty,hz⟩:=G.ty
 have hu:=(hT t ti ht).el e he
 obtain⟨hi,hex⟩:=(bT hD.f dV hx).inv_c
 have hq:=hD.m.ok i _ _ l hb
 cases hρ:(ρ i).1 with
 |none=>
  unfold Bq at hq
  simp only[hρ] at hq
  obtain⟨rfl,hc0,_⟩:=hq
  have h0:m=0:=by
   rcases cE m with h|h
   ·exact h
   have:=jG h hsz;simp at hl;omega
  subst h0
  rw[hρ] at hex
  have hyv:=(bT hD.f dV hy).inv_c.inv_r.1
  have hr:=aNe (P:=P) (w:=w) (dst:=some d) (ty:=ty) (pos:=pos) (aft:=aft) (gd:=none) (t':=t') hu hty hex hyv
  obtain⟨sl,gl,bl,fl⟩:=s
  replace hgl:gl=[]:=hgl
  subst hgl
  have hbl:bl.set i (e,te.size,flatR 0 get)=bl:=by
   replace hb:bl[i]? =some (e,te.size,[]):=hb
   obtain⟨h2,h3⟩:=jZ.1 hb
   exact(congrArg (λz=>bl.set i z) h3.symm).trans (List.set_getElem_self h2)
  have hk:=gI h
  rw[hbl] at hk
  obtain⟨s'',hk,hD''⟩:=Dn.put (d:=d) (v:=.c (.v (.int .i64 0))) (x:=.int .i64 0) (K:=K) (s:=⟨sl,[],bl,fl⟩) hk hD (.c (Rc.v _))
  exact RL.val rfl rfl hd hr (RL.nil (hQ _ _ _ _ hk hD''))
 |some b=>
  rw[hρ] at hex
  obtain⟨vl,junk,q1,q2,q3,q4⟩:=hq.at hρ
  obtain⟨q5,q6⟩:=q3 hsz
  have hsc0:=rR (te:=te) (s:=s) (dy:=.c (.r A m c te.size get)) (kk:=λm' news' c'=>m'=m/\news'=flatR m get/\c'=(∀j,j<m->(get j).length=te.size)) (by
   unfold yQ
   simp only[fV,cond_true]
   exact⟨trivial,trivial,trivial⟩) hD.m (bT hD.f dV hy) hsz
  obtain⟨m1,n1,p1,⟨e1,e2,e3⟩,hnews⟩:=hsc0
  rw[e1,e2,e3] at hnews
  obtain⟨vals,hsc,hln,hon⟩:=hnews hg
  have hvl:vals.length=m*te.size:=by
   obtain⟨_,_,_,_,_,h9,_⟩:=hsc
   exact h9
  have hll:=q2.len
  obtain⟨w',hr,hn,hex'⟩:=bLv (P:=P) (dst:=some d) (ty:=ty) (pos:=pos) (aft:=aft) (gd:=none) (t':=t') hu hty hex rfl q1 hsc hon (by rw[aE];omega)
  have kp:Kp ρ s.bl.length w ρ s.bl.length w':=Kp.exc hi hρ hex'
  have es:spl (vl++junk) 0 vals=vals++junk:=by
   unfold spl
   rw[sN,kB,eA,List.drop_left' oM]
  rw[es] at hn
  obtain⟨sl,gl,bl,fl⟩:=s
  replace hgl:gl=[]:=hgl
  subst hgl
  have hD':Dn ρ0 w0 nb ⟨sl,[],bl.set i (e,te.size,flatR m get),fl⟩ ρ f w':=⟨hD.m.exc hb hρ hex' (Bq.of_some hρ ⟨vals,junk,hn,hln.kp kp,λh0=>⟨q5.trans (by rw[aE,aE];omega),q6⟩,hon⟩),hD.f.kp rfl rfl (by simp only[bW];exact kp),hD.l⟩
  obtain⟨s'',hk,hD''⟩:=Dn.put (d:=d) (v:=.c (.v (.int .i64 m))) (x:=.int .i64 m) (K:=K) (s:=⟨sl,[],bl.set i (e,te.size,flatR m get),fl⟩) (gI h) hD' (.c (Rc.v _))
  exact RL.val rfl rfl hd hr (RL.nil (hQ _ _ _ _ hk hD''))
end
theorem cOv {P:Program} {nb N:Nat} {c:Code} {K:Kt} {s:SS} (i:Nat) (M:Nat->Bool) {σ:Type} (chg:σ->List (Nat×DV)) (bls:σ->BL) (C:σ->Prop)
 (h:wB M s.sl λbase=>Sd P nb N c ⟨K.nrm,λj s'=>bif Nat.beq j i then (∃g,C g/\Mt M base s.fl s' (chg g) (bls g)) else K.ext j s',K.ret⟩ s/\∀g,C g->K.ext i ⟨chg g++base,[],bls g,s.fl⟩):Sd P nb N c K s:=λρ0 w0 ρ f w Q hL hD=>by
 obtain⟨base,⟨h1,h2⟩,hk⟩:=qA h
 refine h1 ρ0 w0 ρ f w Q ⟨hL.nrm,λj s' ρ' f' w' hx hD'=>?_,hL.ret⟩ hD
 replace hx:bif Nat.beq j i then (∃g,C g/\Mt M base s.fl s' (chg g) (bls g)) else K.ext j s':=hx
 cases hb:Nat.beq j i with
 |true=>
  rw[hb] at hx
  have:=aK hb
  subst this
  obtain⟨g,hc,hm⟩:=hx
  exact hL.ext _ _ ρ' f' w' (h2 g hc) (hm.sub (λt d ht=>(hk t d ht).2) _ _ _ _ _ _ hD')
 |false=>rw[hb] at hx;exact hL.ext j s' ρ' f' w' hx hD'
theorem CtrF.arg {P:Program} {q:FuncId} {cl:List Bool} {al al':List DV} {bl:BL} {fl:List Fam} {σ:Type} {R:σ->OutF} (h:CtrF P q cl al bl fl R) (ha:∀ρ n w vl,HL ρ n w al' vl->HL ρ n w al vl):CtrF P q cl al' bl fl R:=
 ⟨h.ent,h.clb,λρ w vals hv hD hF=>h.run ρ w vals (ha _ _ _ _ hv) hD hF⟩
theorem CtrF.cl0 {P:Program} {q:FuncId} {cl:List Bool} {al:List DV} {bl:BL} {fl:List Fam} {σ:Type} {R:σ->OutF} (h:CtrF P q cl al bl fl R):CtrF P q [] al bl fl R:=
 ⟨h.ent,λ_ _ _ _ _ h=>(by cases h),λρ w vals hv hD hF=>(h.run ρ w vals hv hD hF).mono λ_ _ ⟨v,he,g,ρ',h1,h2,h3,_,h5⟩=>⟨v,he,g,ρ',h1,h2,h3,λ_ _ _ _ _ h=>(by cases h),h5⟩⟩
section
variable {P:Program} {T:TT} {w0 w:World} {nb N:Nat} {s:SS} {ρ ρ0:Pl} {f:Nat->Value} {dst:Option Tmp} {ty:TypeId} {pos:String} {aft:Array Edge} {gd:Option (Nat×Bool)} {x y:Operand} {t t' e:TypeId}
theorem bCf {size bytes n nx b cap:Nat} {zz v2:Value} {cs news:List Value} {T0:TypeId} {D:Nat->TypeId->Prop} (hu:P.underlying t=some (.slice e)) (ht:TyI P e size bytes zz) (hx:ev f x= .slice (some ⟨b,0,none⟩) nx cap) (hmn:n<=nx) (hy:ev f y=v2)
 (hb:w.heap[b]? =some (.cells cs.toArray T0 (0,0))) (hs:Sc D w size v2 n news) (h1:∀u∈news,u.oneCell'=true) (hfit:news.length<=cs.length):
 ∃w',(execOp (ev f) ⟨dst,.call ⟨.builtin .copy,#[x,y],#[t,t']⟩,ty,pos,aft,gd⟩).run P w= .ok (.value (.int .i64 n)) w'/\w'.heap[b]? =some (.cells (spl cs 0 news).toArray T0 (0,0))/\Exc b w w':=by
 obtain⟨i,hi,hzi,hsi,hbi⟩:=ht.ex
 subst hsi
 obtain⟨A,c,rfl,hmc,hcm,hl,hA⟩:=hs
 have hst:=run_storeCells_at P b 0 T0 news 0 cs.toArray w hb (by simpa using hfit) h1
 simp only[gO] at hst
 have hst':(storeCells ⟨b,0,none⟩ news 0).run P w= .ok () (w.setRow b (spl cs 0 news).toArray):=by simpa[spl] using hst
 have hmin:Nat.min n nx=n:=eH hmn
 have hmin2:min n nx=n:=eH hmn
 have key:(Builtin.copy_ #[t,t'] ty #[.slice (some ⟨b,0,none⟩) nx cap,.slice A n c]).run P w= .ok (.int .i64 n) (w.setRow b (spl cs 0 news).toArray):=by
  cases A with
  |none=>
   have hn:news=[]:=by
    rcases hA with h|⟨_,_,h,_⟩
    ·exact h
    cases h
   subst hn
   simp[Builtin.copy_,run_underlying hu,sizeOf,typeInfo,hi,Builtin.lenOf,Builtin.firstCells,goInt,hst',hmin,hmin2]
  |some ad=>
   have hfc:=run_firstCells_some (P:=P) w i.size n ad n c news hl (λj u hj=>by
    rcases hA with h|⟨b',o',h,hrd⟩
    ·subst h;cases hj
    injection h with h
    subst h
    rw[fN];exact hrd.cell hj)
   simp[Builtin.copy_,run_underlying hu,sizeOf,typeInfo,hi,Builtin.lenOf,hfc,goInt,hst',hmin,hmin2]
 exact⟨_,by simp[execOp,resolve,invoke,builtin,hx,hy,key],setRow_heap w b cs.toArray _ T0 (0,0) hb,uS _ _ _⟩
theorem Sdl.nl {ops:Array Oper} {K:SS->Prop} (h:K s):Sdl P nb N ops [] K s:=λρ0 w0 ρ f w Q hQ hD=>RL.nil (hQ _ _ _ _ h hD)
theorem Sdl.copyG (hT:Good P T) {d i n c e' m:Nat} {A:Option Addr} {ti te:TI} {l:List CV} {ops:Array Oper} {K:SS->Prop} {get:Nat->List CV} (hx:val [] s x=some (.c (.s i n))) (hy:val [] s y=some (.c (.r A m c e' get))) (hb:s.bl[i]? =some (e,te.size,l)) (ht:T t=some ti) (he:ti.el=some e) (hte:T e=some te) (hsz:0<te.size) (he':e'=te.size) (hm:m<=n) (hl:n*te.size=l.length) (hg:∀j,j<m->(get j).length=te.size) (hgl:s.gl=[]) (hd:d<N) {rest:List Oper}
 (h:mO s.bl i (e,te.size,flatR m get++l.drop (m*te.size)) λbl'=>Sdl P nb N ops rest K ⟨(d,.c (.v (.int .i64 m)))::s.sl,[],bl',s.fl⟩):Sdl P nb N ops (⟨some d,.call ⟨.builtin .copy,#[x,y],#[t,t']⟩,ty,pos,aft,none⟩::rest) K s:=λρ0 w0 ρ f w Q hQ hD=>by
 subst he'
 have G:=hT e te hte
 obtain⟨zz,hty,hz⟩:=G.ty
 have hu:=(hT t ti ht).el e he
 obtain⟨hi,hex⟩:=(bT hD.f dV hx).inv_c
 have hq:=hD.m.ok i _ _ l hb
 cases hρ:(ρ i).1 with
 |none=>
  unfold Bq at hq
  simp only[hρ] at hq
  obtain⟨rfl,hc0,_⟩:=hq
  have h0:n=0:=by
   rcases cE n with h|h
   ·exact h
   have:=jG h hsz;simp at hl;omega
  subst h0
  obtain rfl:m=0:=by omega
  rw[hρ] at hex
  have hyv:=(bT hD.f dV hy).inv_c.inv_r.1
  have hr:=aNe (P:=P) (w:=w) (dst:=some d) (ty:=ty) (pos:=pos) (aft:=aft) (gd:=none) (t':=t') hu hty hex hyv
  obtain⟨sl,gl,bl,fl⟩:=s
  replace hgl:gl=[]:=hgl
  subst hgl
  have hbl:bl.set i (e,te.size,flatR 0 get++([]:List CV).drop (0*te.size))=bl:=by
   replace hb:bl[i]? =some (e,te.size,[]):=hb
   obtain⟨h2,h3⟩:=jZ.1 hb
   rw[List.drop_nil,dG]
   exact(congrArg (λz=>bl.set i z) h3.symm).trans (List.set_getElem_self h2)
  have hk:=gI h
  rw[hbl] at hk
  obtain⟨s'',hk,hD''⟩:=Dn.put (d:=d) (v:=.c (.v (.int .i64 0))) (x:=.int .i64 0) (K:=Sdl P nb N ops rest K) (s:=⟨sl,[],bl,fl⟩) hk hD (.c (Rc.v _))
  exact RL.val rfl rfl hd hr (hk ρ0 w0 ρ _ _ Q hQ hD'')
 |some b=>
  rw[hρ] at hex
  obtain⟨vl,junk,q1,q2,q3,q4⟩:=hq.at hρ
  obtain⟨q5,q6⟩:=q3 hsz
  have hsc0:=rR (te:=te) (s:=s) (dy:=.c (.r A m c te.size get)) (kk:=λm' news' c'=>m'=m/\news'=flatR m get/\c'=(∀j,j<m->(get j).length=te.size)) (by
   unfold yQ
   simp only[fV,cond_true]
   exact⟨trivial,trivial,trivial⟩) hD.m (bT hD.f dV hy) hsz
  obtain⟨m1,n1,p1,⟨e1,e2,e3⟩,hnews⟩:=hsc0
  rw[e1,e2,e3] at hnews
  obtain⟨vals,hsc,hln,hon⟩:=hnews hg
  have hvl:vals.length=m*te.size:=by
   obtain⟨_,_,_,_,_,h9,_⟩:=hsc
   exact h9
  have hll:=q2.len
  have hmn:m*te.size<=n*te.size:=aZ _ hm
  obtain⟨w',hr,hn,hex'⟩:=bCf (P:=P) (dst:=some d) (ty:=ty) (pos:=pos) (aft:=aft) (gd:=none) (t':=t') hu hty hex hm rfl q1 hsc hon (by rw[aE];omega)
  have kp:Kp ρ s.bl.length w ρ s.bl.length w':=Kp.exc hi hρ hex'
  have es:spl (vl++junk) 0 vals=(vals++vl.drop (m*te.size))++junk:=by
   unfold spl
   rw[sN,kB,eA,hvl,gJ oM,cU]
  rw[es] at hn
  obtain⟨sl,gl,bl,fl⟩:=s
  replace hgl:gl=[]:=hgl
  subst hgl
  have hD':Dn ρ0 w0 nb ⟨sl,[],bl.set i (e,te.size,flatR m get++l.drop (m*te.size)),fl⟩ ρ f w':=⟨hD.m.exc hb hρ hex' (Bq.of_some hρ ⟨vals++vl.drop (m*te.size),junk,hn,(hln.append (q2.drop _)).kp kp,λh0=>⟨q5.trans (by rw[aE,aE,aE,cK];omega),q6⟩,λx hx=>(aQ.1 hx).elim (hon x) λhx=>q4 x (fE hx)⟩),hD.f.kp rfl rfl (by simp only[bW];exact kp),hD.l⟩
  obtain⟨s'',hk,hD''⟩:=Dn.put (d:=d) (v:=.c (.v (.int .i64 m))) (x:=.int .i64 m) (K:=Sdl P nb N ops rest K) (s:=⟨sl,[],bl.set i (e,te.size,flatR m get++l.drop (m*te.size)),fl⟩) (gI h) hD' (.c (Rc.v _))
  exact RL.val rfl rfl hd hr (hk ρ0 w0 ρ _ _ Q hQ hD'')
end
end Go.Vy
namespace Go.Proofs.YtghncoghdcmdfaaGreat
open Go.Vg Go.Vy _root_.Go.Proofs.Tryz
def iC (z:Int):CV:=.v (.int .i64 z)
structure Sl (α:Type) where
 A:Option Addr
 c:Nat
 l:List α
def Sl.R {α:Type} (s:Sl α) (n:Nat) (f:α->List CV) (d:α):CV:=.r s.A s.l.length s.c n λj=>f (s.l.getD j d)
def cD (s:Sl Int):CV:=s.R 1 (λz=>[iC z]) 0
def cP {α:Type}:Sl α:=⟨none,0,[]⟩
theorem aNf {α:Type} {P:α->Prop} {l:List α} {i:Nat} {d:α} (h:i<l.length):(∀z∈l.take (i+1),P z)↔(∀z∈l.take i,P z)/\P (l.getD i d):=by
 rw[dF,aG h]
 simp only[aQ,Option.mem_toList,Option.mem_def,Option.some.injEq,List.getD,aG h,Option.getD_some]
 constructor
 ·intro hh;exact⟨λz hz=>hh z (.inl hz),hh _ (.inr rfl)⟩
 rintro⟨h1,h2⟩ z (hz|rfl)
 ·exact h1 z hz
 exact h2
theorem gd {α:Type} {l:List α} {i:Nat} {d:α} (h:i<l.length):l.getD i d=l[i]:=by simp[List.getD,h]
theorem bCg {i:Nat} (x:List Int):∀c∈x.map iC,kU i c=false:=λc hc=>by
 obtain⟨z,_,rfl⟩:=cC.1 hc
 rfl
theorem bK (x:List Int):∀c∈x.map iC,fK c=true:=λc hc=>by
 obtain⟨z,_,rfl⟩:=cC.1 hc
 rfl
theorem apI {x:List Int} {z:Int} {i:Nat} (h:x.length<=1000000):1*1=[iC z].length/\x.length*1=(x.map iC).length/\x.length+1<=maxLen/\(x.length+1)*8<=140737488355328/\∀c∈x.map iC++[iC z],kU i c=false:=
 ⟨rfl,by simp,by simp only[maxLen];omega,by omega,λc hc=>by
  rcases aQ.1 hc with hc|hc
  ·exact bCg x c hc
  rw[aH.1 hc];rfl⟩
theorem bLw {z:Int} {i:Nat}:∀c∈[iC z],kU i c=false:=λc hc=>by rw[aH.1 hc];rfl
theorem nS {x:List Int} (j:Nat) (h:j<x.length):[iC (x.getD j 0)]=((x.map iC).drop (j*1)).take 1:=by
 have hd:(x.map iC).drop j=iC x[j]::(x.drop (j+1)).map iC:=by rw[<-pX,dX h,eQ]
 rw[bI,hd,gd h]
 rfl
theorem map_take {α β:Type} {f:α->β} {l:List α} {i:Nat} {d:α} (h:i<l.length):(l.take (i+1)).map f=(l.take i).map f++[f (l.getD i d)]:=by
 rw[dF,aG h,gd h,bG]
 rfl
noncomputable def pC (p:Prop):DV:=.c (.b p (Classical.propDecidable p))
end Go.Proofs.YtghncoghdcmdfaaGreat
namespace Go.Proofs.YtghncoghdcmdfaaGreat
open Go.Vg Go.Vm _root_.Go.Proofs.Tryz
open Go.Vy hiding val
def uC (z:Nat):CV:=.v (.int .u32 z)
def wC (z:Nat):CV:=.v (.int .u64 z)
def eK (s:Sl Nat):CV:=s.R 1 (λz=>[uC z]) default
abbrev aCm (n:Nat):Sl Nat->Out:=λg=>⟨.c (eK g),[],g.l=dE n⟩
theorem uJ (x:Nat):((x%4294967296:Nat):Int)=IntKind.u32.wrap (x:Int):=by rw[IntKind.wrap_u32];omega
theorem wu {a z:Int} (h:(a=z/\0<=z/\z<=18446744073709551615):=by (first|omega|(simp only[maxLen] at*;omega))):a=IntKind.u64.wrap z:=by rw[aDr h.2];exact h.1
theorem wY (x:Nat):((x/4294967296:Nat):Int)=(x:Int).fdiv (2^(min (32:Int).toNat IntKind.u64.bits)):=by
 rw[jS _ dC]
 show _=(x:Int)/4294967296
 omega
theorem aEp {x:Nat} (h:x<4294967296):((x*4294967296:Nat):Int)=IntKind.u64.wrap ((x:Int)*2^(min (32:Int).toNat IntKind.u64.bits)):=by
 rw[show(2:Int)^(min (32:Int).toNat IntKind.u64.bits)=4294967296 from rfl,aDr oM];omega
theorem p32:(0:Int)<=32:=by decide
theorem iV (l:List Nat):∀c∈l.map uC,fK c=true:=λc hc=>by
 obtain⟨z,_,rfl⟩:=cC.1 hc
 rfl
theorem aAf {i:Nat} (l:List Nat):∀c∈l.map uC,kU i c=false:=λc hc=>by
 obtain⟨z,_,rfl⟩:=cC.1 hc
 rfl
theorem mS {x:List Nat} (j:Nat) (h:j<x.length):[uC (x.getD j default)]=((x.map uC).drop (j*1)).take 1:=by
 have hd:(x.map uC).drop j=uC x[j]::(x.drop (j+1)).map uC:=by rw[<-pX,dX h,eQ]
 rw[bI,hd,gd h]
 rfl
theorem aAg {x:List Nat}:∀{n:Nat},n<=x.length->flatR n (λj=>[uC (x.getD j default)])=(x.take n).map uC
 |0,_=>by simp[flatR]
 |n+1,h=>by
  rw[gR,aAg oM,map_take (d:=default) oM]
abbrev aUa:FuncId:=198
theorem cFm:Ent Tryz.prog aUa:=aU func198 rfl kR
theorem cFn:Tryz.prog.funcs[aUa]? =some Tryz.f198:=func198
theorem bUm (x:Sl Nat) (hx:Lm x.l) (hn:x.l.length<=35184372088832):Ctr Tryz.prog aUa [] [.c (eK x)] [] (λ_:Unit=>⟨.c (.s 0 (dE (val x.l)).length),[(123,1,(dE (val x.l)).map uC)],True⟩):=by
 refine aW gT cFm cFn rfl rfl rfl bL aS (aA gT mxd ?_)
 refine kQ (rn [(3,3),(6,17)]) (λn:Nat=>[(3,.c (iC n))]) (λ_=>[]) (λn=>n<=x.l.length/\val (x.l.take n)=val x.l) (λn=>n) x.l.length ?_
 refine⟨⟨⟨aI _,by rw[cB (aI _)]⟩,rfl,rfl⟩,λn hi=>aA gT mxd ⟨(n:Int)-1,λh=>wi,n-1,λh=>⟨oM,oM⟩,⟨λh1=>aA gT mxd ?_,λh1=>aA gT mxd (aA gT mxd ?_)⟩⟩⟩
 ·exact⟨(n:Int)-1,wi,n-1,⟨⟨oM,aGp hi.1 oM hi.2 oM⟩,oM⟩,rfl,rfl,show _=_ by omega⟩
 have hz:n=0\/x.l.getD (n-1) default≠0:=by
  rcases cE n with h|h
  ·exact .inl h
  exact .inr λh2=>h1 ⟨by omega,by rw[h2];rfl⟩
 have ht:=aGo hx hi.1 hi.2 hz
 refine⟨n,⟨rfl,hi.1⟩,⟨λj hj=>rfl,rfl,by simp only[maxLen];omega,show(0+n)*4<=_ by omega,λc hc=>?_⟩,(),trivial,fH ?_ ?_ (aC _) ?_ rfl aCl⟩
 ·replace hc:c∈flatR n λj=>[uC (x.l.getD j default)]:=hc
  rw[aAg hi.1] at hc
  exact aAf _ c hc
 ·show _=_
  rw[<-ht,bE];omega
 ·show(123,1,flatR n λj=>[uC (x.l.getD j default)])=(123,1,_)
  rw[aAg hi.1,ht]
 exact aB (aV.2 λc hc=>rS (iV _ c hc)) aY
theorem nN (x:Sl Nat) (hx:Lm x.l) (hn:x.l.length<=35184372088832):Ctr Tryz.prog aUa [] [.c (eK x)] [] (aCm (val x.l)):=
 ((bUm x hx hn).frz (λ_ j=>[uC ((dE (val x.l)).getD j default)]) λ_ _=>⟨λj hj=>mS j hj,by simp,dN,iV _⟩).re λg _=>⟨⟨g.2.1,g.2.2,dE (val x.l)⟩,rfl,rfl,rfl,rfl⟩
def aGc:Nat->Nat->List (Nat×Bool)
 |_,0=>[]
 |a,n+1=>(a,false)::aGc (a+1) n
theorem ff {p:Prop} (h:¬p):(false=true↔p):=⟨λh=>(by cases h),λhp=>absurd hp h⟩
theorem tt {p:Prop} (h:p):(true=true↔p):=⟨λ_=>h,λ_=>rfl⟩
abbrev aPs:FuncId:=135
theorem bUn:Ent Tryz.prog aPs:=aU func135 rfl kR
theorem bUo:Tryz.prog.funcs[aPs]? =some Tryz.f135:=func135
theorem aIr (x y:Sl Nat):Ctr Tryz.prog aPs [] [.c (eK x),.c (eK y)] [] (λ_:Unit=>⟨pC (x.l=y.l),[],True⟩):=by
 refine aW gT bUn bUo rfl rfl rfl bL aS (aPo 0 rfl λhn=>aA gT mxd ⟨λh=>aA gT mxd ?_,λh=>aA gT mxd ?_⟩)
 ·exact⟨(),trivial,aM (ff λe=>h (by rw[e])) rfl trivial⟩
 refine kQ (rn [(5,5),(11,25)]) (λk:Nat=>[(5,.c (iC k))]) (λ_=>[]) (λk=>k<=x.l.length/\∀j,j<k->x.l.getD j default=y.l.getD j default) (x.l.length-·) 0 ?_
 refine⟨⟨⟨aC _,λj hj=>absurd hj (aF _)⟩,rfl,rfl⟩,λk hi=>aA gT mxd ⟨λh1=>aA gT mxd ⟨.seq (aGc 0 9),by kernel_rfl,k,⟨rfl,oM⟩,k,⟨rfl,oM⟩,⟨λh2=>aA gT mxd ?_,λh2=>aA gT mxd ?_⟩⟩,λh1=>aA gT mxd (aA gT mxd ?_)⟩⟩
 ·exact⟨(),trivial,aM (ff λe=>h2 (by rw[e])) rfl trivial⟩
 ·refine⟨(k+1:Nat),wi,k+1,⟨⟨oM,λj hj=>?_⟩,oM⟩,rfl,rfl,rfl⟩
  rcases cN (cX hj) with h3|rfl
  ·exact hi.2 j h3
  have:=iH.1 h2;omega
 refine⟨(),trivial,aM (tt (aZb (by have:=iH.1 h;omega) λj hj=>hi.2 j oM)) rfl trivial⟩
abbrev bCh:FuncId:=169
theorem cFo:Ent Tryz.prog bCh:=aU func169 rfl kR
theorem cFp:Tryz.prog.funcs[bCh]? =some Tryz.f169:=func169
theorem aIs {n:Nat} (hn:n<18446744073709551616):Ctr Tryz.prog bCh [] [.c (wC n)] [] (aCm n):=by
 refine aW gT cFo cFp rfl rfl rfl bL aS (aA gT mxd ?_)
 have hv:val [n%4294967296,n/4294967296%4294967296]=n:=by rw[cS (show n/4294967296<4294967296 by omega),aSw]
 refine⟨_,uJ n,p32,_,wY n,_,uJ _,some (λj=>[uC ([n%4294967296,n/4294967296%4294967296].getD j default)]),⟨⟨aI _,by decide⟩,rfl,λj hj=>?_,λc hc=>?_⟩,λA c _ _=>?_⟩
 ·exact mS (x:=[n%4294967296,n/4294967296%4294967296]) j hj
 ·exact iV [n%4294967296,n/4294967296%4294967296] c hc
 refine⟨[],nN ⟨A,c,[n%4294967296,n/4294967296%4294967296]⟩ (Lm.two hn) (by simp),rfl,rfl,rfl,λg hg=>⟨g,?_,aM rfl rfl trivial⟩⟩
 show g.l=dE n
 rw[<-hv]
 exact hg
theorem aPt {x y:Nat} (hx:x<4294967296) (hy:y<4294967296):((x*4294967296+y:Nat):Int)=IntKind.u64.wrap ((BitVec.ofInt IntKind.u64.bits ((x*4294967296:Nat):Int)|||BitVec.ofInt IntKind.u64.bits (y:Int)).toNat:Int):=by
 show _=IntKind.u64.wrap ((BitVec.ofInt 64 ((x*4294967296:Nat):Int)|||BitVec.ofInt 64 (y:Int)).toNat:Int)
 rw[gC,gC,wE,gS,gS,cS oM,cS oM]
 have h:=hJ (i:=32) (b:=y) oM x
 rw[bO (2^32) x] at h
 rw[show x*4294967296=x*2^32 from rfl,<-h,aDr oM]
theorem dg {X:List Nat} {n:Nat} (h:X=dE n):Lm X/\val X=n:=by subst h;exact⟨aHs n,zL n⟩
abbrev bCi:FuncId:=225
theorem cFq:Ent Tryz.prog bCi:=aU func225 rfl kR
theorem cFr:Tryz.prog.funcs[bCi]? =some Tryz.f225:=func225
theorem bCj (x:Sl Nat) (hx:Lm x.l) (hn:x.l.length<=35184372088832):Ctr Tryz.prog bCi [] [.c (eK x)] [] (λ_:Unit=>⟨.t [.c (wC (if val x.l<18446744073709551616 then val x.l else 0)),pC (val x.l<18446744073709551616)],[],True⟩):=by
 refine aW gT cFq cFr rfl rfl rfl bL aS (aA gT mxd ⟨[],nN x hx hn,rfl,rfl,rfl,λX hX=>?_⟩)
 replace hX:X.l=dE (val x.l):=hX
 obtain⟨lX,vX⟩:=dg hX
 have h64:=rD (n:=val x.l)
 rw[<-fD,<-hX] at h64
 refine⟨λh=>aA gT mxd ⟨(),trivial,aM ⟨?_,ff oM⟩ rfl trivial⟩,λh=>aA gT mxd ⟨(X.l.length:Int)-1,wi,?_⟩⟩
 ·rw[if_neg oM];rfl
 refine kQ (rn [(4,5),(14,25)]) (λn:Nat=>[(5,.c (iC ((n:Int)-1))),(4,.c (wC (val (X.l.drop n))))]) (λ_=>[]) (λn=>n<=X.l.length) (λn=>n) X.l.length ?_
 refine⟨⟨aI _,rfl,rfl,?_⟩,λn hi=>aA gT mxd ⟨λh1=>aA gT mxd ?_,λh1=>aA gT mxd (aA gT mxd ?_)⟩⟩
 ·show(0:Int)=_
  rw[cH (aI _)];rfl
 ·have hdl:val (X.l.drop n)<4294967296:=by
   have h1:=jL (lX.drop n)
   have h2:4294967296^(X.l.drop n).length<=4294967296^1:=eI dC (by rw[cK];omega)
   omega
  have hd:=lX.at (k:=n-1) oM
  refine⟨p32,_,aEp hdl,n-1,⟨oM,oM⟩,_,wu (a:=(X.l.getD (n-1) default:Nat)),_,aPt hdl hd,(n:Int)-1-1,wi,n-1,⟨oM,oM⟩,rfl,rfl,?_,?_⟩
  ·show(n:Int)-1-1=_
   omega
  show(_:Int)=(_:Int)
  rw[tO oM hi]
  omega
 have h0:n=0:=by omega
 subst h0
 refine⟨(),trivial,aM ⟨?_,tt oM⟩ rfl trivial⟩
 show(_:Int)=(_:Int)
 rw[if_pos oM,lW,vX]
def rU (a b:Int):Int:=if a<b then-1 else if b<a then 1 else 0
abbrev bUp:FuncId:=199
theorem cOw:Ent Tryz.prog bUp:=aU func199 rfl kR
theorem cOx:Tryz.prog.funcs[bUp]? =some Tryz.f199:=func199
theorem cFs (x y:Sl Nat) (hx:Lm x.l) (hy:Lm y.l) (hn:x.l.length<=35184372088832) (hm:y.l.length<=35184372088832):Ctr Tryz.prog bUp [] [.c (eK x),.c (eK y)] [] (λ_:Unit=>⟨.c (iC (rU (val x.l) (val y.l))),[],True⟩):=by
 refine aW gT cOw cOx rfl rfl rfl bL aS (aA gT mxd ⟨[],nN x hx hn,rfl,rfl,rfl,λX hX=>⟨[],nN y hy hm,rfl,rfl,rfl,λY hY=>?_⟩⟩)
 replace hX:X.l=dE (val x.l):=hX
 replace hY:Y.l=dE (val y.l):=hY
 obtain⟨lX,vX⟩:=dg hX
 obtain⟨lY,vY⟩:=dg hY
 have hlx:=dY hx
 have hly:=dY hy
 rw[<-fD,<-hX] at hlx
 rw[<-fD,<-hY] at hly
 refine⟨λh=>aA gT mxd ⟨λh1=>aA gT mxd ?_,λh1=>aA gT mxd ?_⟩,λh=>aA gT mxd ⟨(X.l.length:Int)-1,wi,?_⟩⟩
 ·have hlt:val x.l<val y.l:=xX (by rw[<-fD,<-fD,<-hX,<-hY];omega)
  exact⟨(),trivial,aM (show(-1:Int)=_ by unfold rU;rw[if_pos oM]) rfl trivial⟩
 ·have hlt:val y.l<val x.l:=xX (by rw[<-fD,<-fD,<-hX,<-hY];omega)
  exact⟨(),trivial,aM (show(1:Int)=_ by unfold rU;rw[if_neg oM,if_pos oM]) rfl trivial⟩
 have hl:X.l.length=Y.l.length:=by have:=iH.1 h;omega
 refine kQ (rn [(5,5),(23,44)]) (λn:Nat=>[(5,.c (iC ((n:Int)-1)))]) (λ_=>[]) (λn=>n<=X.l.length/\X.l.drop n=Y.l.drop n) (λn=>n) X.l.length ?_
 refine⟨⟨⟨aI _,by rw[cH (aI _),cH oM]⟩,rfl,rfl⟩,λn hi=>aA gT mxd ⟨λh1=>aA gT mxd ⟨.seq (aGc 0 9),by kernel_rfl,n-1,⟨oM,oM⟩,n-1,⟨oM,oM⟩,⟨λh2=>aA gT mxd ?_,λh2=>aA gT mxd ⟨.seq (aGc 0 9),by kernel_rfl,n-1,⟨oM,oM⟩,n-1,⟨oM,oM⟩,⟨λh3=>aA gT mxd ?_,λh3=>aA gT mxd ?_⟩⟩⟩⟩,λh1=>aA gT mxd (aA gT mxd ?_)⟩⟩
 ·have hlt:val x.l<val y.l:=by
   have h:=aHt (a:=X.l) (b:=Y.l) (m:=n-1) lX oM oM (by rw[show n-1+1=n by omega];exact hi.2) oM
   rw[vX,vY] at h;exact h
  exact⟨(),trivial,aM (show(-1:Int)=_ by unfold rU;rw[if_pos oM]) rfl trivial⟩
 ·have hlt:val y.l<val x.l:=by
   have h:=aHt (a:=Y.l) (b:=X.l) (m:=n-1) lY oM oM (by rw[show n-1+1=n by omega];exact hi.2.symm) oM
   rw[vY,vX] at h;exact h
  exact⟨(),trivial,aM (show(1:Int)=_ by unfold rU;rw[if_neg oM,if_pos oM]) rfl trivial⟩
 ·exact⟨(n:Int)-1-1,wi,n-1,⟨⟨oM,aGq oM hi.1 oM hi.2 oM⟩,oM⟩,rfl,rfl,show(n:Int)-1-1=_ by omega⟩
 have h0:n=0:=by omega
 subst h0
 have h:=hi.2
 rw[lW,lW] at h
 have h:=congrArg val h
 rw[vX,vY] at h
 exact⟨(),trivial,aM (show(0:Int)=_ by unfold rU;rw[if_neg oM,if_neg oM]) rfl trivial⟩
theorem uX {x:List Nat} {i:Nat} {z:Nat} (h:i<x.length):mD (x.map uC) (i*1) [uC z]=(x.set i z).map uC:=by
 unfold mD
 rw[bI,<-tX,<-pX,jW,if_pos h,bG,eQ]
 rfl
theorem aIt {x:List Nat} {i:Nat} (h:i<x.length):(x.map uC)[i*1]? =some (uC (x.getD i default)):=by
 rw[bI,dW,aG h,gd h]
 rfl
theorem yB (m:Nat):List.replicate m (.v (.int .u32 0))=(List.replicate m 0).map uC:=by simp[uC]
theorem w0 {x:Nat} (h:x<=18446744073709551615):(x:Int)=IntKind.u64.wrap (x:Int):=(aDr oM).symm
theorem wa {x y:Nat} (h:x+y<=18446744073709551615):((x+y:Nat):Int)=IntKind.u64.wrap ((x:Int)+(y:Int)):=(aDr oM).symm.trans (by rw[qR])
abbrev bUq:FuncId:=140
theorem cOy:Ent Tryz.prog bUq:=aU func140 rfl kR
theorem cOz:Tryz.prog.funcs[bUq]? =some Tryz.f140:=func140
theorem bCk (x y:Sl Nat) (hx:Lm x.l) (hy:Lm y.l) (hn:x.l.length<=17592186044416) (hm:y.l.length<=17592186044416):Ctr Tryz.prog bUq [] [.c (eK x),.c (eK y)] [] (aCm (val x.l+val y.l)):=by
 refine aW gT cOy cOz rfl rfl rfl bL aS (aA gT mxd ?_)
 obtain⟨m,hmm⟩:∃m:Nat,m=max x.l.length y.l.length+1:=⟨_,rfl⟩
 refine⟨(m:Int),wi (z:=max (x.l.length:Int) (y.l.length:Int)+1) (h:=⟨by omega,by omega,by omega⟩),m,⟨rfl,rfl,show 4*m<=_ by omega,by simp only[maxLen];omega⟩,?_⟩
 refine kQ (rn [(6,7),(15,49)]) (λg:Nat×Nat×List Nat=>[(7,.c (iC g.1)),(6,.c (wC g.2.1))]) (λg=>[(123,1,(iJ g.2.2 m).map uC)]) (λg=>g.1<=m/\g.2.2.length=g.1/\Lm g.2.2/\g.2.1<=1/\val g.2.2+4294967296^g.1*g.2.1=val (x.l.take g.1)+val (y.l.take g.1)) (λg=>m-g.1) (0,0,[]) ?_
 refine⟨⟨⟨aC _,rfl,Lm.nil,aC _,rfl⟩,?_,rfl,rfl⟩,λ⟨k,c,P⟩ ⟨hk,hP,hLm,hc,hv⟩=>aA gT mxd ⟨λh1=>aA gT mxd ?_,λh1=>aA gT mxd (aA gT mxd ?_)⟩⟩
 ·show [(_,_,_)]=[(_,_,_)]
  rw[rM]
  exact congrArg (λl=>[(123,1,l)]) (yB m)
 ·simp only at hk hP hLm hc hv h1
  have hkm:k<m:=by omega
  have dx:=tN hx k
  have dy:=tN hy k
  refine vjn (rn [(6,7),(15,49)]) (λg:Nat=>[(7,.c (iC k)),(6,.c (wC g))]) (λ_=>[(123,1,(iJ P m).map uC)]) (λg=>g=c+dig x.l k) ?_
  refine⟨⟨λh2=>aA gT mxd ⟨k,⟨rfl,oM⟩,_,w0 (x:=x.l.getD k default) (by have:=hx.at (k:=k) oM;omega),_,wa (by have:=hx.at (k:=k) oM;omega),_,rfl,rfl,rfl,rfl,?_⟩,λh2=>aA gT mxd ⟨_,rfl,rfl,rfl,rfl,?_⟩⟩,?_⟩
  ·show(_:Int)=(_:Int)
   rw[sY oM]
  ·show(_:Int)=(_:Int)
   rw[yO oM];rfl
  rintro _ rfl
  refine vjn (rn [(6,7),(15,49)]) (λg:Nat=>[(7,.c (iC k)),(6,.c (wC g))]) (λ_=>[(123,1,(iJ P m).map uC)]) (λg=>g=c+dig x.l k+dig y.l k) ?_
  refine⟨⟨λh2=>aA gT mxd ⟨k,⟨rfl,oM⟩,_,w0 (x:=y.l.getD k default) (by have:=hy.at (k:=k) oM;omega),_,wa (by have:=hy.at (k:=k) oM;omega),_,rfl,rfl,rfl,rfl,?_⟩,λh2=>aA gT mxd ⟨_,rfl,rfl,rfl,rfl,?_⟩⟩,?_⟩
  ·show(_:Int)=(_:Int)
   rw[sY (xs:=y.l) oM]
  ·show(_:Int)=(_:Int)
   rw[yO (xs:=y.l) oM];rfl
  rintro _ rfl
  have hfl:k<(iJ P m).length:=by rw[kE oM];exact hkm
  refine⟨_,uJ _,k,⟨rfl,hkm,show k*1<_ by rw[aN];omega⟩,_,⟨uX hfl,show k*1+1<=_ by rw[aN];omega⟩,p32,_,wY _,(k+1:Nat),wi,(k+1,(c+dig x.l k+dig y.l k)/4294967296,P++[(c+dig x.l k+dig y.l k)%4294967296]),⟨⟨oM,?_,hLm.snoc (dM _ dC),?_,?_⟩,?_⟩,rfl,?_,rfl,rfl⟩
  ·simp[hP]
  ·show _/_<=_
   omega
  ·show val (P++_)+_=val (x.l.take (k+1))+val (y.l.take (k+1))
   rw[oO,oO];exact aLv hP hv
  ·show m-(k+1)<m-k
   omega
  show [(_,_,_)]=[(_,_,_)]
  rw[oH hP hkm]
 simp only at hk hP hLm hc hv h1
 obtain rfl:m=P.length:=by omega
 have hf:iJ P P.length=P:=pO rfl
 have hfin:=bKd hx hy rfl hmm (by rw[hP];exact hv)
 refine⟨some (λj=>[uC (P.getD j default)]),⟨⟨aC _,dN⟩,?_,λj hj=>?_,?_⟩,λA cc _ _=>⟨[],nN ⟨A,cc,P⟩ hLm (by show P.length<=_;omega),rfl,rfl,rfl,λg hg=>⟨g,?_,aM rfl rfl trivial⟩⟩⟩
 ·show P.length*1=_
  rw[hf];simp
 ·show _=List.take 1 (List.drop (j*1) ((iJ P P.length).map uC))
  rw[hf];exact mS j hj
 ·rw[hf];exact iV P
 show g.l=_
 rw[<-hfin];exact hg
theorem qD {a b:Int}:rU a b<0↔a<b:=by unfold rU;constructor<;>intro h<;>(repeat split at*)<;>omega
abbrev bUr:FuncId:=141
theorem cPa:Ent Tryz.prog bUr:=aU func141 rfl kR
theorem cPb:Tryz.prog.funcs[bUr]? =some Tryz.f141:=func141
theorem bCl (x y:Sl Nat) (hx:Lm x.l) (hy:Lm y.l) (hn:x.l.length<=17592186044416) (hm:y.l.length<=17592186044416):Ctr Tryz.prog bUr [] [.c (eK x),.c (eK y)] [] (λg:Sl Nat=>⟨.t [.c (eK g),pC (val y.l<=val x.l)],[],g.l=dE (val x.l-val y.l)⟩):=by
 refine aW gT cPa cPb rfl rfl rfl bL aS (aA gT mxd ⟨[],cFs x y hx hy oM oM,rfl,rfl,rfl,λ_ _=>⟨λh=>aA gT mxd ?_,λh=>aA gT mxd ?_⟩⟩)
 ·have h:=qD.1 h
  refine⟨⟨none,0,[]⟩,?_,aM ⟨⟨rfl,rfl,rfl⟩,ff oM⟩ rfl trivial⟩
  show []=dE _
  rw[show val x.l-val y.l=0 by omega];rfl
 have hxy:val y.l<=val x.l:=by
  rcases eC (val x.l) (val y.l) with h'|h'
  ·exact absurd (qD.2 oM) h
  exact h'
 refine⟨[],nN x hx oM,rfl,rfl,rfl,λX hX=>⟨[],nN y hy oM,rfl,rfl,rfl,λY hY=>?_⟩⟩
 replace hX:X.l=dE (val x.l):=hX
 replace hY:Y.l=dE (val y.l):=hY
 obtain⟨lX,vX⟩:=dg hX
 obtain⟨lY,vY⟩:=dg hY
 have hlen:Y.l.length<=X.l.length:=by rw[hX,hY];exact fY hxy
 have hXn:X.l.length<=x.l.length:=by rw[hX];exact dY hx
 refine⟨X.l.length,⟨rfl,rfl,show 4*X.l.length<=_ by omega,by simp only[maxLen];omega⟩,?_⟩
 refine kQ (rn [(7,10),(22,56)]) (λg:Nat×Nat×List Nat=>[(8,.c (iC g.1)),(7,.c (wC g.2.1))]) (λg=>[(123,1,(iJ g.2.2 X.l.length).map uC)]) (λg=>g.1<=X.l.length/\g.2.2.length=g.1/\Lm g.2.2/\g.2.1<=1/\val g.2.2+val (Y.l.take g.1)=val (X.l.take g.1)+4294967296^g.1*g.2.1) (λg=>X.l.length-g.1) (0,0,[]) ?_
 refine⟨⟨⟨aC _,rfl,Lm.nil,aC _,rfl⟩,?_,rfl,rfl⟩,λ⟨k,c,P⟩ ⟨hk,hP,hLm,hc,hv⟩=>aA gT mxd ⟨λh1=>aA gT mxd ?_,λh1=>aA gT mxd (aA gT mxd ?_)⟩⟩
 ·show [(_,_,_)]=[(_,_,_)]
  rw[rM]
  exact congrArg (λl=>[(123,1,l)]) (yB _)
 ·simp only at hk hP hLm hc hv h1
  have hkm:k<X.l.length:=by omega
  have dx:=lX.at hkm
  have dy:=tN lY k
  refine vjn (rn [(7,10),(22,56)]) (λg:Nat=>[(8,.c (iC k)),(7,.c (wC c)),(9,.c (wC g))]) (λ_=>[(123,1,(iJ P X.l.length).map uC)]) (λg=>g=c+dig Y.l k) ?_
  refine⟨⟨λh2=>aA gT mxd ⟨k,⟨rfl,oM⟩,_,w0 (x:=Y.l.getD k default) (by have:=lY.at (k:=k) oM;omega),_,wa (by have:=lY.at (k:=k) oM;omega),_,rfl,rfl,rfl,rfl,rfl,?_⟩,λh2=>aA gT mxd ⟨_,rfl,rfl,rfl,rfl,rfl,?_⟩⟩,?_⟩
  ·show(_:Int)=(_:Int)
   rw[sY (xs:=Y.l) oM]
  ·show(_:Int)=(_:Int)
   rw[yO (xs:=Y.l) oM];rfl
  rintro _ rfl
  have hfl:k<(iJ P X.l.length).length:=by rw[kE oM];exact hkm
  obtain⟨b,hb⟩:∃b:Nat,b=if X.l.getD k default<c+dig Y.l k then 1 else 0:=⟨_,rfl⟩
  refine⟨k,⟨rfl,hkm⟩,_,w0 (x:=X.l.getD k default) oM,?_⟩
  refine vjn (rn [(7,10),(22,56)]) (λ_:Unit=>[(8,.c (iC k)),(7,.c (wC b)),(9,.c (wC (c+dig Y.l k))),(10,.c (wC (X.l.getD k default+4294967296*b)))]) (λ_=>[(123,1,(iJ P X.l.length).map uC)]) (λ_=>True) ?_
  refine⟨⟨λh2=>aA gT mxd ⟨_,wa (x:=X.l.getD k default) (y:=4294967296) oM,(),trivial,rfl,rfl,rfl,?_,rfl,?_⟩,λh2=>aA gT mxd ⟨(),trivial,rfl,rfl,rfl,?_,rfl,?_⟩⟩,?_⟩
  ·show(1:Int)=(b:Int)
   rw[hb,if_pos oM];rfl
  ·show(_:Int)=(_:Int)
   rw[hb,if_pos oM]
  ·show(0:Int)=(b:Int)
   rw[hb,if_neg oM];rfl
  ·show(_:Int)=(_:Int)
   rw[hb,if_neg oM,pA,gO]
  intro _ _
  have hb1:(X.l.getD k default<c+dig Y.l k/\b=1)\/(¬X.l.getD k default<c+dig Y.l k/\b=0):=by
   by_cases h:X.l.getD k default<c+dig Y.l k
   ·exact .inl ⟨h,by rw[hb,if_pos h]⟩
   exact .inr ⟨h,by rw[hb,if_neg h]⟩
  have hs:=aLw (x:=X.l.getD k default) (y:=dig Y.l k) hP hv dx dy hc
  have hm:(X.l.getD k default+4294967296*b-(c+dig Y.l k))%4294967296=(X.l.getD k default+4294967296-(c+dig Y.l k))%4294967296:=by omega
  have hbi:(if X.l.getD k default<c+dig Y.l k then 1 else 0)=b:=hb.symm
  rw[<-hm,hbi] at hs
  rw[<-dT hkm,<-oO] at hs
  refine⟨((X.l.getD k default+4294967296*b-(c+dig Y.l k):Nat):Int),wu (h:=⟨by omega,by omega,by omega⟩),_,uJ _,k,⟨rfl,hkm,show k*1<_ by rw[aN];omega⟩,_,⟨uX hfl,show k*1+1<=_ by rw[aN];omega⟩,(k+1:Nat),wi,(k+1,b,P++[(X.l.getD k default+4294967296*b-(c+dig Y.l k))%4294967296]),⟨⟨oM,?_,hLm.snoc (dM _ dC),?_,?_⟩,?_⟩,rfl,?_,rfl,rfl⟩
  ·simp[hP]
  ·show b<=1
   omega
  ·exact hs
  ·show _-(k+1)<_-k
   omega
  show [(_,_,_)]=[(_,_,_)]
  rw[oH hP hkm]
 simp only at hk hP hLm hc hv h1
 obtain rfl:k=X.l.length:=by omega
 have hf:iJ P X.l.length=P:=pO hP
 have hfin:=aSx (k:=X.l.length) hLm hP (aI _) hlen oM hv
 refine⟨some (λj=>[uC (P.getD j default)]),⟨⟨aC _,dN⟩,?_,λj hj=>?_,?_⟩,λA cc _ _=>⟨[],nN ⟨A,cc,P⟩ hLm (by show P.length<=_;omega),?_,rfl,rfl,λg hg=>⟨g,?_,aM ⟨rfl,tt hxy⟩ rfl trivial⟩⟩⟩
 ·show X.l.length*1=_
  rw[hf];simp[hP]
 ·show _=List.take 1 (List.drop (j*1) ((iJ P X.l.length).map uC))
  rw[hf];exact mS j (by rw[hP];exact hj)
 ·rw[hf];exact iV P
 ·show [DV.c (.r A X.l.length cc 1 _)]=[DV.c (.r A P.length cc 1 _)]
  rw[hP]
 show g.l=_
 rw[<-vX,<-vY,<-hfin];exact hg
theorem wm {x y:Nat} (h:x*y<=18446744073709551615):((x*y:Nat):Int)=IntKind.u64.wrap ((x:Int)*(y:Int)):=(aDr (z:=((x*y:Nat):Int)) oM).symm.trans (by rw[gD])
abbrev bUs:FuncId:=142
theorem cPc:Ent Tryz.prog bUs:=aU func142 rfl kR
theorem cPd:Tryz.prog.funcs[bUs]? =some Tryz.f142:=func142
theorem cFt (x y:Sl Nat) (hx:Lm x.l) (hy:Lm y.l) (hn:x.l.length<=17592186044416) (hm:y.l.length<=17592186044416):Ctr Tryz.prog bUs [] [.c (eK x),.c (eK y)] [] (aCm (val x.l*val y.l)):=by
 refine aW gT cPc cPd rfl rfl rfl bL aS (aA gT mxd ?_)
 obtain⟨m,hmm⟩:∃m:Nat,m=x.l.length+y.l.length:=⟨_,rfl⟩
 refine⟨(m:Int),wi (z:=(x.l.length:Int)+(y.l.length:Int)) (h:=⟨by omega,by omega,by omega⟩),m,⟨rfl,rfl,show 4*m<=_ by omega,by simp only[maxLen];omega⟩,?_⟩
 refine kQ (rn [(6,8),(15,64)]) (λg:Nat×List Nat=>[(6,.c (iC g.1))]) (λg=>[(123,1,g.2.map uC)]) (λg=>g.1<=x.l.length/\g.2.length=m/\Lm g.2/\val (g.2.take (g.1+y.l.length))=val (x.l.take g.1)*val y.l/\∀j,g.1+y.l.length<=j->j<g.2.length->g.2.getD j default=0) (λg=>x.l.length-g.1) (0,List.replicate m 0) ?_
 refine⟨⟨⟨aC _,by simp,Lm.zeros m,?_,λj _ hj=>?_⟩,?_,rfl⟩,λ⟨i,O⟩ ⟨hi,hO,hLm,hv,hz⟩=>aA gT mxd ⟨λh1=>aA gT mxd ?_,λh1=>aA gT mxd (aA gT mxd ?_)⟩⟩
 ·show val ((List.replicate m 0).take _)=_
  rw[List.take_replicate,aBb]
  simp[val]
 ·rw[cJ] at hj
  rw[gd (by simpa using hj)]
  simp
 ·exact congrArg (λl=>[(123,1,l)]) (yB m)
 ·simp only at hi hO hLm hv hz h1
  have him:i<x.l.length:=by omega
  have dx:=hx.at him
  refine kQ (rn [(7,8),(21,56)]) (λg:Nat×Nat×List Nat=>[(8,.c (iC g.1)),(7,.c (wC g.2.1))]) (λg=>[(123,1,(mZ O g.2.2 i).map uC)]) (λg=>g.1<=y.l.length/\g.2.2.length=g.1/\Lm g.2.2/\g.2.1<4294967296/\val g.2.2+4294967296^g.1*g.2.1=val ((O.drop i).take g.1)+x.l.getD i default*val (y.l.take g.1)) (λg=>y.l.length-g.1) (0,0,[]) ?_
  refine⟨⟨⟨aC _,rfl,Lm.nil,by decide,by simp[val]⟩,?_,rfl,rfl⟩,λ⟨k,c,Q⟩ ⟨hk,hQ,hQm,hc,hw⟩=>aA gT mxd ⟨λh2=>aA gT mxd ?_,λh2=>aA gT mxd (aA gT mxd ?_)⟩⟩
  ·show [(_,_,_)]=[(_,_,_)]
   rw[aLx]
  ·simp only at hk hQ hQm hc hw h2
   have hkm:k<y.l.length:=by omega
   have dy:=hy.at hkm
   have hik:i+k<O.length:=by omega
   have hrl:(mZ O Q i).length=O.length:=nA oM
   have ho:O.getD (i+k) default<4294967296:=hLm.at hik
   have hg:(mZ O Q i).getD (i+k) default=O.getD (i+k) default:=aSy hQ hik
   have hlm:=wP dx dy
   obtain⟨p,hp⟩:∃p,p=x.l.getD i default*y.l.getD k default:=⟨_,rfl⟩
   rw[<-hp] at hlm
   have hpos:i+k<(mZ O Q i).length:=by rw[hrl];exact hik
   refine⟨.seq (aGc 0 22),by kernel_rfl,((i+k:Nat):Int),wi,i+k,⟨rfl,by omega,show(i+k)*1<_ by rw[aN,hrl];omega⟩,_,aIt hpos,_,w0 (x:=(mZ O Q i).getD (i+k) default) oM,i,⟨rfl,him⟩,_,w0 (x:=x.l.getD i default) oM,k,⟨rfl,hkm⟩,_,w0 (x:=y.l.getD k default) oM,_,wm oM,_,wa oM,_,wa oM,((i+k:Nat):Int),wi,_,uJ _,i+k,⟨rfl,by omega,show(i+k)*1<_ by rw[aN,hrl];omega⟩,_,⟨uX hpos,show(i+k)*1+1<=_ by rw[aN,hrl];omega⟩,p32,_,wY _,(k+1:Nat),wi,(k+1,(c+(O.getD (i+k) default+x.l.getD i default*y.l.getD k default))/4294967296,Q++[(c+(O.getD (i+k) default+x.l.getD i default*y.l.getD k default))%4294967296]),⟨⟨oM,?_,hQm.snoc (dM _ dC),?_,zO hQ hkm hik hw⟩,?_⟩,rfl,?_,rfl,?_⟩
   ·simp[hQ]
   ·show _/_<_
    omega
   ·show y.l.length-(k+1)<y.l.length-k
    omega
   ·show [(_,_,_)]=[(_,_,_)]
    rw[hg,zN hQ hik]
   show(_:Int)=(_:Int)
   rw[hg]
  simp only at hk hQ hQm hc hw h2
  obtain rfl:k=y.l.length:=by omega
  have hpos:i+y.l.length<(mZ O Q i).length:=by rw[nA oM];omega
  have hQ':(Q++[c]).length=y.l.length+1:=by simp[hQ]
  refine⟨((i+y.l.length:Nat):Int),wi,_,uJ c,i+y.l.length,⟨rfl,by omega,show(i+y.l.length)*1<((mZ O Q i).map uC).length by rw[aN];omega⟩,_,⟨uX hpos,show(i+y.l.length)*1+1<=((mZ O Q i).map uC).length by rw[aN];omega⟩,(i+1:Nat),wi,(i+1,mZ O (Q++[c]) i),⟨⟨oM,?_,aSz hLm (hQm.snoc hc),?_,?_⟩,?_⟩,rfl,?_,rfl⟩
  ·show(mZ O (Q++[c]) i).length=m
   rw[nA oM];exact hO
  ·rw[gL (aI _)] at hw
   exact aTa (n:=0) him hQ oM hv hw
  ·exact aDs hQ' oM hz
  ·show x.l.length-(i+1)<x.l.length-i
   omega
  show [(_,_,_)]=[(_,_,_)]
  rw[zN hQ oM,cS hc]
 simp only at hi hO hLm hv hz h1
 obtain rfl:i=x.l.length:=by omega
 rw[gL oM,gL (aI _)] at hv
 refine⟨some (λj=>[uC (O.getD j default)]),⟨⟨aC _,dN⟩,?_,λj hj=>mS j (by rw[hO];exact hj),iV O⟩,λA cc _ _=>⟨[],nN ⟨A,cc,O⟩ hLm (by show O.length<=_;omega),?_,rfl,rfl,λg hg=>⟨g,?_,aM rfl rfl trivial⟩⟩⟩
 ·show m*1=_
  simp[hO]
 ·show [DV.c (.r A m cc 1 _)]=[DV.c (.r A O.length cc 1 _)]
  rw[hO]
 show g.l=_
 rw[<-hv];exact hg
theorem LeC.get {A:Option Addr} {n c e:Nat} {g g':Nat->List CV} (h:∀j,j<n->g j=g' j):LeC (.r A n c e g) (.r A n c e g'):=λρ m w v hv=>by
 obtain⟨e1,e2⟩:=hv.inv_r
 refine Hc.of_rc ?_
 subst e1
 cases e2 with
 |nil A c e get hm=>exact Rc.nil _ _ _ _ hm
 |r b o n c e get V hc hm hZ hcell hlen hel=>exact Rc.r b o n c e g' V hc hm hZ hcell (λj hj=>by rw[<-h j hj];exact hlen j hj) (λj hj=>by rw[<-h j hj];exact hel j hj)
abbrev aUb:FuncId:=219
theorem cFu:Ent Tryz.prog aUb:=aU func219 rfl kR
theorem cFv:Tryz.prog.funcs[aUb]? =some Tryz.f219:=func219
theorem jX (x:Sl Nat) (hx:Lm x.l) (hn:x.l.length<=35184372088832):Ctr Tryz.prog aUb [] [.c (eK x)] [] (aCm (val x.l)):=by
 have h0:Ctr Tryz.prog aUb [] [.c (eK x)] [] (λn:Nat=>⟨.c (.r x.A n x.c 1 (λj=>[uC (x.l.getD j default)])),[],n<=x.l.length/\x.l.take n=dE (val x.l)⟩):=by
  refine aW gT cFu cFv rfl rfl rfl bL aS (aA gT mxd ?_)
  refine kQ (rn [(3,3),(6,17)]) (λn:Nat=>[(3,.c (iC n))]) (λ_=>[]) (λn=>n<=x.l.length/\val (x.l.take n)=val x.l) (λn=>n) x.l.length ?_
  refine⟨⟨⟨aI _,by rw[cB (aI _)]⟩,rfl,rfl⟩,λn hi=>aA gT mxd ⟨(n:Int)-1,λh=>wi,n-1,λh=>⟨oM,oM⟩,⟨λh1=>aA gT mxd ?_,λh1=>aA gT mxd (aA gT mxd ?_)⟩⟩⟩
  ·exact⟨(n:Int)-1,wi,n-1,⟨⟨oM,aGp hi.1 oM hi.2 oM⟩,oM⟩,rfl,rfl,show _=_ by omega⟩
  have hz:n=0\/x.l.getD (n-1) default≠0:=by
   rcases cE n with h|h
   ·exact .inl h
   exact .inr λh2=>h1 ⟨by omega,by rw[h2];rfl⟩
  exact⟨n,⟨rfl,hi.1⟩,n,⟨hi.1,aGo hx hi.1 hi.2 hz⟩,aM rfl rfl trivial⟩
 refine CtrF.lo h0 λn ⟨hn,he⟩=>⟨⟨x.A,x.c,dE (val x.l)⟩,rfl,λρ m w v hv=>?_,rfl,rfl⟩
 have hl:(dE (val x.l)).length=n:=by rw[<-he,bE];omega
 show Hd ρ m w (.c (.r x.A (dE (val x.l)).length x.c 1 _)) v
 rw[hl]
 refine .c (LeC.get (λj hj=>?_) ρ m w v hv.inv_c)
 rw[<-he,gd oM,gd (by rw[bE];omega),List.getElem_take]
theorem bCm {k x:Nat} (hk:k<=1) (hx:x<4294967296):((4294967296^k*x:Nat):Int)=IntKind.u64.wrap ((x:Int)*2^(min ((32:Int)*(k:Nat)).toNat IntKind.u64.bits)):=by
 rcases pG.1 hk with rfl|rfl
 ·show _=IntKind.u64.wrap ((x:Int)*2^0)
  rw[Int.pow_zero,xO,aDr oM]
  simp
 have h:=aEp hx
 rw[xM,bO]
 exact h
theorem bLx {k x:Nat} {P:List Nat} (hk:k<=1) (hP:Lm P) (hl:P.length=k) (hx:x<4294967296):((val P+4294967296^k*x:Nat):Int)=IntKind.u64.wrap ((BitVec.ofInt IntKind.u64.bits ((val P:Nat):Int)|||BitVec.ofInt IntKind.u64.bits ((4294967296^k*x:Nat):Int)).toNat:Int):=by
 rcases pG.1 hk with rfl|rfl
 ·have:P=[]:=bQ hl
  subst this
  have h:=aPt (x:=0) (y:=x) dC hx
  simp only[pH,eA] at h
  rw[rJ,iT]
  exact(show((val []+x:Nat):Int)=_ by simp[val]).trans h
 have hv:=jL hP
 rw[hl,xM] at hv
 have h:=aPt (x:=x) (y:=val P) hx hv
 rw[xM,bO 4294967296 x,gP,h]
 congr 2
 exact congrArg BitVec.toNat (BitVec.or_comm _ _)
abbrev aPu:FuncId:=233
theorem bUt:Ent Tryz.prog aPu:=aU func233 rfl kR
theorem bUu:Tryz.prog.funcs[aPu]? =some Tryz.f233:=func233
theorem aAh (x:Sl Nat) (hx:Lm x.l) (hn:x.l.length<=2):Ctr Tryz.prog aPu [] [.c (eK x)] [] (λ_:Unit=>⟨.c (wC (val x.l)),[],True⟩):=by
 refine aW gT bUt bUu rfl rfl rfl bL aS (aA gT mxd ?_)
 refine kQ (rn [(3,5),(8,20)]) (λk:Nat=>[(8,.c (iC k)),(3,.c (wC (val (x.l.take k))))]) (λ_=>[]) (λk=>k<=x.l.length) (x.l.length-·) 0 ?_
 refine⟨⟨aC _,rfl,rfl,rfl⟩,λk hk=>aA gT mxd ⟨λh1=>aA gT mxd ?_,λh1=>aA gT mxd (aA gT mxd ?_)⟩⟩
 ·have hkl:k<x.l.length:=by omega
  have hxk:=hx.at hkl
  refine⟨k,⟨rfl,hkl⟩,_,w0 (x:=x.l.getD k default) oM,(32:Int)*(k:Nat),wi,show(0:Int)<=32*(k:Nat) by omega,_,bCm oM hxk,_,bLx oM (hx.take k) (by rw[bE];omega) hxk,(k+1:Nat),wi,k+1,⟨hkl,oM⟩,rfl,rfl,rfl,?_⟩
  show(_:Int)=(_:Int)
  rw[dT hkl]
 refine⟨(),trivial,aM ?_ rfl trivial⟩
 show(_:Int)=(_:Int)
 rw[cB oM]
abbrev aIu:FuncId:=216
theorem bUv:Ent Tryz.prog aIu:=aU func216 rfl kR
theorem bUw:Tryz.prog.funcs[aIu]? =some Tryz.f216:=func216
theorem aAi (x:Sl Nat) (hx:Lm x.l) (hn:x.l.length<=35184372088832):Ctr Tryz.prog aIu [] [.c (eK x)] [] (aCm (val x.l)):=by
 have hl:=dY hx
 unfold len at hl
 have h0:Ctr Tryz.prog aIu [] [.c (eK x)] [] (λ_:Unit=>⟨.c (.s 0 (dE (val x.l)).length),[(123,1,(dE (val x.l)).map uC)],True⟩):=by
  refine aW gT bUv bUw rfl rfl rfl bL aS (Sd.sq (aA gT mxd (Sd.sq (aA gT mxd ⟨[],jX x hx hn,rfl,rfl,rfl,λg hg=>?_⟩))))
  replace hg:g.l=dE (val x.l):=hg
  rw[<-hg] at hl
  refine Sd.sq (aA gT mxd ⟨g.l.length,⟨rfl,rfl,show 4*g.l.length<=_ by omega,by simp only[maxLen];omega⟩,Sd.sq (Sd.rg gT (l:=[_,_,_]) [_,_] [_] rfl rfl ?_)⟩)
  refine Sdl.copy gT rfl rfl rfl rfl rfl rfl bL rfl rfl ?_ (λj hj=>rfl) rfl bL ?_
  ·simp
  refine aA gT mxd ⟨(),trivial,fH ?_ ?_ (aC _) ?_ rfl aCl⟩
  ·show g.l.length=_
   rw[hg]
  ·show(123,1,flatR _ λj=>[uC (g.l.getD j default)])=(123,1,_)
   rw[aAg (aI _),cW,hg]
  exact aB (aV.2 λc hc=>rS (iV _ c hc)) aY
 exact(h0.frz (λ_ j=>[uC ((dE (val x.l)).getD j default)]) λ_ _=>⟨λj hj=>mS j hj,by simp,dN,iV _⟩).re λg _=>⟨⟨g.2.1,g.2.2,dE (val x.l)⟩,rfl,rfl,rfl,rfl⟩
abbrev aIv:FuncId:=214
theorem bLy:Ent Tryz.prog aIv:=aU func214 rfl kR
theorem bLz:Tryz.prog.funcs[aIv]? =some Tryz.f214:=func214
theorem nT {n:Nat} (hn:n<18446744073709551616):Ctr Tryz.prog aIv [] [.c (wC n)] [] (aCm n):=by
 have hv:val [n%4294967296,n/4294967296%4294967296]=n:=by rw[cS (show n/4294967296<4294967296 by omega),aSw]
 refine aW gT bLy bLz rfl rfl rfl bL aS (aA gT mxd ⟨_,uJ n,p32,_,wY n,_,uJ _,some (λj=>[uC ([n%4294967296,n/4294967296%4294967296].getD j default)]),⟨⟨aI _,by decide⟩,rfl,λj hj=>?_,λc hc=>?_⟩,λA c _ _=>?_⟩)
 ·exact mS (x:=[n%4294967296,n/4294967296%4294967296]) j hj
 ·exact iV [n%4294967296,n/4294967296%4294967296] c hc
 refine⟨[],jX ⟨A,c,[n%4294967296,n/4294967296%4294967296]⟩ (Lm.two hn) (by simp),rfl,rfl,rfl,λg hg=>⟨g,?_,aM rfl rfl trivial⟩⟩
 show g.l=dE n
 rw[<-hv]
 exact hg
abbrev aPv:FuncId:=208
theorem bUx:Ent Tryz.prog aPv:=aU func208 rfl kR
theorem bUy:Tryz.prog.funcs[aPv]? =some Tryz.f208:=func208
theorem aUc (x:Sl Nat) (hx:Lm x.l) (hn:x.l.length<=35184372088832):Ctr Tryz.prog aPv [] [.c (eK x)] [] (λ_:Unit=>⟨.t [.c (wC (if val x.l<18446744073709551616 then val x.l else 0)),pC (val x.l<18446744073709551616)],[],True⟩):=by
 refine aW gT bUx bUy rfl rfl rfl bL aS (aA gT mxd ⟨[],jX x hx hn,rfl,rfl,rfl,λX hX=>?_⟩)
 replace hX:X.l=dE (val x.l):=hX
 obtain⟨lX,vX⟩:=dg hX
 have h64:=rD (n:=val x.l)
 rw[<-fD,<-hX] at h64
 refine⟨λh=>aA gT mxd ⟨(),trivial,aM ⟨?_,ff oM⟩ rfl trivial⟩,λh=>aA gT mxd ⟨[],aAh X lX oM,rfl,rfl,rfl,λ_ _=>⟨(),trivial,aM ⟨?_,tt oM⟩ rfl trivial⟩⟩⟩
 ·rw[if_neg oM];rfl
 show((val X.l:Nat):Int)=_
 rw[vX,if_pos oM]
abbrev aIw:FuncId:=205
theorem bUz:Ent Tryz.prog aIw:=aU func205 rfl kR
theorem bVa:Tryz.prog.funcs[aIw]? =some Tryz.f205:=func205
theorem uY (x y:Sl Nat) (hx:Lm x.l) (hy:Lm y.l) (hn:x.l.length<=35184372088832) (hm:y.l.length<=35184372088832):Ctr Tryz.prog aIw [] [.c (eK x),.c (eK y)] [] (λ_:Unit=>⟨.c (iC (rU (val x.l) (val y.l))),[],True⟩):=by
 refine aW gT bUz bVa rfl rfl rfl bL aS (aA gT mxd ⟨[],jX x hx hn,rfl,rfl,rfl,λX hX=>⟨[],jX y hy hm,rfl,rfl,rfl,λY hY=>?_⟩⟩)
 replace hX:X.l=dE (val x.l):=hX
 replace hY:Y.l=dE (val y.l):=hY
 obtain⟨lX,vX⟩:=dg hX
 obtain⟨lY,vY⟩:=dg hY
 have hlx:=dY hx
 have hly:=dY hy
 rw[<-fD,<-hX] at hlx
 rw[<-fD,<-hY] at hly
 refine⟨λh=>aA gT mxd ⟨λh1=>aA gT mxd ?_,λh1=>aA gT mxd ?_⟩,λh=>aA gT mxd ⟨(X.l.length:Int)-1,wi,?_⟩⟩
 ·have hlt:val x.l<val y.l:=xX (by rw[<-fD,<-fD,<-hX,<-hY];omega)
  exact⟨(),trivial,aM (show(-1:Int)=_ by unfold rU;rw[if_pos oM]) rfl trivial⟩
 ·have hlt:val y.l<val x.l:=xX (by rw[<-fD,<-fD,<-hX,<-hY];omega)
  exact⟨(),trivial,aM (show(1:Int)=_ by unfold rU;rw[if_neg oM,if_pos oM]) rfl trivial⟩
 have hl:X.l.length=Y.l.length:=by have:=iH.1 h;omega
 refine kQ (rn [(5,5),(23,44)]) (λn:Nat=>[(5,.c (iC ((n:Int)-1)))]) (λ_=>[]) (λn=>n<=X.l.length/\X.l.drop n=Y.l.drop n) (λn=>n) X.l.length ?_
 refine⟨⟨⟨aI _,by rw[cH (aI _),cH oM]⟩,rfl,rfl⟩,λn hi=>aA gT mxd ⟨λh1=>aA gT mxd ⟨.seq (aGc 0 9),by kernel_rfl,n-1,⟨oM,oM⟩,n-1,⟨oM,oM⟩,⟨λh2=>aA gT mxd ?_,λh2=>aA gT mxd ⟨.seq (aGc 0 9),by kernel_rfl,n-1,⟨oM,oM⟩,n-1,⟨oM,oM⟩,⟨λh3=>aA gT mxd ?_,λh3=>aA gT mxd ?_⟩⟩⟩⟩,λh1=>aA gT mxd (aA gT mxd ?_)⟩⟩
 ·have hlt:val x.l<val y.l:=by
   have h:=aHt (a:=X.l) (b:=Y.l) (m:=n-1) lX oM oM (by rw[show n-1+1=n by omega];exact hi.2) oM
   rw[vX,vY] at h;exact h
  exact⟨(),trivial,aM (show(-1:Int)=_ by unfold rU;rw[if_pos oM]) rfl trivial⟩
 ·have hlt:val y.l<val x.l:=by
   have h:=aHt (a:=Y.l) (b:=X.l) (m:=n-1) lY oM oM (by rw[show n-1+1=n by omega];exact hi.2.symm) oM
   rw[vY,vX] at h;exact h
  exact⟨(),trivial,aM (show(1:Int)=_ by unfold rU;rw[if_neg oM,if_pos oM]) rfl trivial⟩
 ·exact⟨(n:Int)-1-1,wi,n-1,⟨⟨oM,aGq oM hi.1 oM hi.2 oM⟩,oM⟩,rfl,rfl,show(n:Int)-1-1=_ by omega⟩
 have h0:n=0:=by omega
 subst h0
 have h:=hi.2
 rw[lW,lW] at h
 have h:=congrArg val h
 rw[vX,vY] at h
 exact⟨(),trivial,aM (show(0:Int)=_ by unfold rU;rw[if_neg oM,if_neg oM]) rfl trivial⟩
abbrev uZ (l:List Nat):BL:=[(123,1,l.map uC)]
theorem yC {l l':List Nat} (h:l=l'):uZ l=uZ l':=by rw[h]
theorem aIx {l:List Nat}:scB 1 (uZ l):=aB (aV.2 λc hc=>rS (iV _ c hc)) aY
theorem aCw {l:List Nat}:ClB [true] (uZ l):=λi T es l' h _=>by
 match i,h with
 |0,h=>injection h with h;injection h with _ h;injection h with _ h;subst h;exact iV _
 |i+1,h=>cases h
theorem aGz {m:Nat}:[((123,1,List.replicate m (.v (.int .u32 0))):TypeId×Nat×List CV)]=uZ (List.replicate m 0):=congrArg (λl=>[((123,1,l):TypeId×Nat×List CV)]) (yB m)
theorem vE {l:List Nat} {m:Nat} (hm:m=l.length) (hl:Lm l):m*1=(l.map uC).length/\(∀j,j<m->[uC (l.getD j default)]=((l.map uC).drop (j*1)).take 1)/\∀c∈l.map uC,fK c=true:=by
 subst hm
 exact⟨by simp,λj hj=>mS j hj,iV l⟩
theorem wZ {l:List Nat} {k:Nat} (h:k<l.length):k*1<(l.map uC).length:=by rw[aN];omega
theorem tQ {l l':List Nat} {k u:Nat} (h:k<l.length) (e:l.set k u=l'):mD (l.map uC) (k*1) [uC u]=l'.map uC/\k*1+1<=(l.map uC).length:=⟨(uX h).trans (congrArg _ e),by rw[aN];omega⟩
abbrev aPw:FuncId:=231
theorem bVb:Ent Tryz.prog aPw:=aU func231 rfl kR
theorem bVc:Tryz.prog.funcs[aPw]? =some Tryz.f231:=func231
theorem bMa (x y:Sl Nat) (hx:Lm x.l) (hy:Lm y.l) (hn:x.l.length<=17592186044416) (hm:y.l.length<=17592186044416):Ctr Tryz.prog aPw [] [.c (eK x),.c (eK y)] [] (aCm (val x.l+val y.l)):=by
 refine aW gT bVb bVc rfl rfl rfl bL aS (aA gT mxd ⟨[],jX x hx oM,rfl,rfl,rfl,λX hX=>⟨[],jX y hy oM,rfl,rfl,rfl,λY hY=>?_⟩⟩)
 have hlx:=dY hx
 have hly:=dY hy
 replace hX:X.l=dE (val x.l):=hX
 replace hY:Y.l=dE (val y.l):=hY
 obtain⟨lX,vX⟩:=dg hX
 obtain⟨lY,vY⟩:=dg hY
 unfold len at hlx hly
 rw[<-hX] at hlx
 rw[<-hY] at hly
 refine vjn (λ_=>true) (λg:Sl Nat×Sl Nat=>[(0,.c (eK g.1)),(1,.c (eK g.2))]) (λ_=>[]) (λg=>g.2.l.length<=g.1.l.length/\Lm g.1.l/\Lm g.2.l/\val g.1.l+val g.2.l=val x.l+val y.l/\g.1.l.length<=17592186044416) ?_
 refine⟨⟨λh=>aA gT mxd ⟨(Y,X),⟨by show X.l.length<=Y.l.length;omega,lY,lX,by rw[vX,vY,gP],by show Y.l.length<=_;omega⟩,rfl,rfl,rfl,rfl⟩,λh=>aA gT mxd ⟨(X,Y),⟨by show Y.l.length<=X.l.length;omega,lX,lY,by rw[vX,vY],by show X.l.length<=_;omega⟩,rfl,rfl,rfl,rfl⟩⟩,λab ⟨hBA,lA,lB,hsum,hAn⟩=>?_⟩
 clear hX hY lX lY vX vY hlx hly
 refine⟨(ab.1.l.length+1:Nat),wi,ab.1.l.length+1,⟨rfl,rfl,show 4*(ab.1.l.length+1)<=_ by omega,by simp only[maxLen];omega⟩,?_⟩
 refine kQ (rn [(6,8),(26,53)]) (λg:Nat×Nat×List Nat=>[(26,.c (iC g.1)),(6,.c (wC g.2.1))]) (λg=>uZ (iJ g.2.2 (ab.1.l.length+1))) (λg=>g.1<=ab.1.l.length/\g.2.2.length=g.1/\Lm g.2.2/\g.2.1<=1/\val g.2.2+4294967296^g.1*g.2.1=val (ab.1.l.take g.1)+val (ab.2.l.take g.1)) (λg=>ab.1.l.length-g.1) (0,0,[]) ?_
 refine⟨⟨⟨aC _,rfl,Lm.nil,aC _,rfl⟩,aGz.trans (yC (rM _).symm),rfl,rfl⟩,λ⟨k,c,P⟩ ⟨hk,hP,hLm,hc,hv⟩=>aA gT mxd ⟨λh1=>aA gT mxd ?_,λh1=>aA gT mxd (aA gT mxd ?_)⟩⟩
 all_goals simp only at hk hP hLm hc hv h1
 ·have hkl:k<ab.1.l.length:=by omega
  have dx:=lA.at hkl
  have dy:=tN lB k
  refine⟨k,⟨rfl,hkl⟩,_,w0 (x:=ab.1.l.getD k default) oM,_,wa oM,?_⟩
  refine vjn (rn [(6,8),(26,53)]) (λg:Nat=>[(26,.c (iC k)),(7,.c (iC k)),(6,.c (wC g))]) (λ_=>uZ (iJ P (ab.1.l.length+1))) (λg=>g=c+ab.1.l.getD k default+dig ab.2.l k) ?_
  refine⟨⟨λh2=>aA gT mxd ⟨k,⟨rfl,oM⟩,_,w0 (x:=ab.2.l.getD k default) (by have:=lB.at (k:=k) oM;omega),_,wa (by have:=lB.at (k:=k) oM;omega),_,rfl,rfl,rfl,rfl,rfl,?_⟩,λh2=>aA gT mxd ⟨_,rfl,rfl,rfl,rfl,rfl,?_⟩⟩,?_⟩
  ·show(_:Int)=(_:Int)
   rw[sY oM]
  ·show(_:Int)=(_:Int)
   rw[yO oM];rfl
  rintro _ rfl
  have hfl:k<(iJ P (ab.1.l.length+1)).length:=by rw[kE oM];omega
  refine⟨_,uJ _,k,⟨rfl,by omega,wZ hfl⟩,_,tQ hfl (oH hP oM),p32,_,wY _,(k+1:Nat),wi,(k+1,(c+ab.1.l.getD k default+dig ab.2.l k)/4294967296,P++[(c+ab.1.l.getD k default+dig ab.2.l k)%4294967296]),⟨⟨hkl,?_,hLm.snoc (dM _ dC),?_,?_⟩,?_⟩,rfl,rfl,rfl,rfl⟩
  ·simp[hP]
  ·show _/_<=_
   omega
  ·show val (P++_)+_=val (ab.1.l.take (k+1))+val (ab.2.l.take (k+1))
   rw[dT hkl,oO];exact aLv hP hv
  show ab.1.l.length-(k+1)<ab.1.l.length-k
  omega
 obtain rfl:k=ab.1.l.length:=by omega
 have hfl:ab.1.l.length<(iJ P (ab.1.l.length+1)).length:=by rw[kE oM];omega
 have hst:(iJ P (ab.1.l.length+1)).set ab.1.l.length (c%4294967296)=P++[c%4294967296]:=(oH hP (bF _)).trans (pO (by simp[hP]))
 have hL:=hLm.snoc (x:=c%4294967296) (dM _ dC)
 have hln:ab.1.l.length+1=(P++[c%4294967296]).length:=by simp[hP]
 have hfin:val (P++[c%4294967296])=val x.l+val y.l:=by
  rw[kD,hP,cS oM,<-hsum]
  rw[cB (aI _),cB hBA] at hv
  exact hv
 refine⟨_,uJ _,ab.1.l.length,⟨rfl,by omega,wZ hfl⟩,_,tQ hfl hst,?_⟩
 obtain⟨o1,o2,o3⟩:=vE hln hL
 refine⟨some (λj=>[uC ((P++[c%4294967296]).getD j default)]),⟨⟨aC _,dN⟩,o1,o2,o3⟩,λAA cc _ _=>?_⟩
 rw[hln]
 refine⟨[],jX ⟨AA,cc,P++[c%4294967296]⟩ hL (by show(P++_).length<=_;omega),rfl,rfl,rfl,λg hg=>⟨g,?_,aM rfl rfl trivial⟩⟩
 show g.l=_
 rw[<-hfin];exact hg
theorem wsb {u c:Nat} (hc:c<=18446744073709551616):((sb u c:Nat):Int)=IntKind.u64.wrap ((u:Int)-(c:Int)):=by
 rw[IntKind.wrap_u64];unfold sb;omega
theorem p63:(0:Int)<=63:=by decide
theorem bCn (x:Nat):((x/9223372036854775808:Nat):Int)=(x:Int).fdiv (2^(min (63:Int).toNat IntKind.u64.bits)):=by
 rw[jS _ dC]
 show _=(x:Int)/9223372036854775808
 omega
abbrev aPx:FuncId:=232
theorem bVd:Ent Tryz.prog aPx:=aU func232 rfl kR
theorem bVe:Tryz.prog.funcs[aPx]? =some Tryz.f232:=func232
theorem aIy (x y:Sl Nat) (hx:Lm x.l) (hy:Lm y.l) (hn:x.l.length<=35184372088832) (hm:y.l.length<=35184372088832):Ctr Tryz.prog aPx [] [.c (eK x),.c (eK y)] [] (λg:Sl Nat=>⟨.t [.c (eK g),pC (val y.l<=val x.l)],[],g.l=dE (val x.l-val y.l)⟩):=by
 refine aW gT bVd bVe rfl rfl rfl bL aS (aA gT mxd ⟨[],jX x hx oM,rfl,rfl,rfl,λX hX=>⟨[],jX y hy oM,rfl,rfl,rfl,λY hY=>?_⟩⟩)
 have hXn:=dY hx
 have hYn:=dY hy
 replace hX:X.l=dE (val x.l):=hX
 replace hY:Y.l=dE (val y.l):=hY
 obtain⟨lX,vX⟩:=dg hX
 obtain⟨lY,vY⟩:=dg hY
 unfold len at hXn hYn
 rw[<-hX] at hXn
 rw[<-hY] at hYn
 refine⟨[],uY X Y lX lY oM oM,rfl,rfl,rfl,λ_ _=>⟨λh=>aA gT mxd ?_,λh=>aA gT mxd ?_⟩⟩
 ·have h:=qD.1 h
  refine⟨⟨none,0,[]⟩,?_,aM ⟨⟨rfl,rfl,rfl⟩,ff oM⟩ rfl trivial⟩
  show []=dE _
  rw[show val x.l-val y.l=0 by omega];rfl
 have hxy:val y.l<=val x.l:=by
  rcases eC (val x.l) (val y.l) with h'|h'
  ·exact absurd (qD.2 oM) h
  exact h'
 have hlen:Y.l.length<=X.l.length:=by rw[hX,hY];exact fY hxy
 refine⟨X.l.length,⟨rfl,rfl,show 4*X.l.length<=_ by omega,by simp only[maxLen];omega⟩,?_⟩
 refine kQ (rn [(7,10),(24,51)]) (λg:Nat×Nat×List Nat=>[(24,.c (iC g.1)),(7,.c (wC g.2.1))]) (λg=>uZ (iJ g.2.2 X.l.length)) (λg=>g.1<=X.l.length/\g.2.2.length=g.1/\Lm g.2.2/\g.2.1<=1/\val g.2.2+val (Y.l.take g.1)=val (X.l.take g.1)+4294967296^g.1*g.2.1) (λg=>X.l.length-g.1) (0,0,[]) ?_
 refine⟨⟨⟨aC _,rfl,Lm.nil,aC _,rfl⟩,aGz.trans (yC (rM _).symm),rfl,rfl⟩,λ⟨k,c,P⟩ ⟨hk,hP,hLm,hc,hv⟩=>aA gT mxd ⟨λh1=>aA gT mxd ?_,λh1=>aA gT mxd (aA gT mxd ?_)⟩⟩
 all_goals simp only at hk hP hLm hc hv h1
 ·have hkm:k<X.l.length:=by omega
  have dx:=lX.at hkm
  have dy:=tN lY k
  have hs2:=bKh dx hc dy
  refine⟨k,⟨rfl,hkm⟩,_,w0 (x:=X.l.getD k default) oM,_,wsb (u:=X.l.getD k default) (c:=c) oM,?_⟩
  refine vjn (rn [(7,10),(24,51)]) (λg:Nat=>[(24,.c (iC k)),(8,.c (iC k)),(10,.c (wC g))]) (λ_=>uZ (iJ P X.l.length)) (λg=>g=sb2 (X.l.getD k default) c (dig Y.l k)) ?_
  refine⟨⟨λh2=>aA gT mxd ⟨k,⟨rfl,oM⟩,_,w0 (x:=Y.l.getD k default) (by have:=lY.at (k:=k) oM;omega),_,wsb (by have:=lY.at (k:=k) oM;omega),_,rfl,rfl,rfl,rfl,rfl,?_⟩,λh2=>aA gT mxd ⟨_,rfl,rfl,rfl,rfl,rfl,?_⟩⟩,?_⟩
  ·show(_:Int)=(_:Int)
   rw[sY (xs:=Y.l) oM];rfl
  ·show(_:Int)=(_:Int)
   rw[yO (xs:=Y.l) oM,bKi]
  rintro _ rfl
  have hfl:k<(iJ P X.l.length).length:=by rw[kE oM];exact hkm
  refine⟨_,uJ _,k,⟨rfl,hkm,wZ hfl⟩,_,tQ hfl (oH hP hkm),p63,_,bCn _,(k+1:Nat),wi,(k+1,if X.l.getD k default<c+dig Y.l k then 1 else 0,P++[sb2 (X.l.getD k default) c (dig Y.l k)%4294967296]),⟨⟨hkm,?_,hLm.snoc (dM _ dC),?_,?_⟩,?_⟩,rfl,rfl,rfl,?_⟩
  ·simp[hP]
  ·show(if _ then 1 else 0)<=1
   split<;>omega
  ·show val (P++[_])+val (Y.l.take (k+1))=_
   rw[hs2.1,oO]
   have h9:=aLw hP hv dx dy hc
   rw[<-dT hkm] at h9
   exact h9
  ·show _-(k+1)<_-k
   omega
  show(_:Int)=(_:Int)
  rw[hs2.2]
 obtain rfl:k=X.l.length:=by omega
 have hf:iJ P X.l.length=P:=pO hP
 have hfin:=aSx (k:=X.l.length) hLm hP (aI _) hlen oM hv
 obtain⟨o1,o2,o3⟩:=vE hP.symm hLm
 rw[hf]
 refine⟨some (λj=>[uC (P.getD j default)]),⟨⟨aC _,dN⟩,o1,o2,o3⟩,λAA cc _ _=>?_⟩
 rw[<-hP]
 refine⟨[],jX ⟨AA,cc,P⟩ hLm (by show P.length<=_;omega),rfl,rfl,rfl,λg hg=>⟨g,?_,aM ⟨rfl,tt hxy⟩ rfl trivial⟩⟩
 show g.l=_
 rw[<-vX,<-vY,<-hfin];exact hg
theorem wa2 {x y:Nat} (h:x+y<=18446744073709551615):((y+x:Nat):Int)=IntKind.u64.wrap ((x:Int)+(y:Int)):=by rw[gP];exact wa h
abbrev aPy:FuncId:=175
theorem bVf:Ent Tryz.prog aPy:=aU func175 rfl kR
theorem bVg:Tryz.prog.funcs[aPy]? =some Tryz.f175:=func175
theorem aAj (x y:Sl Nat) (hx:Lm x.l) (hy:Lm y.l) (hn:x.l.length<=17592186044416) (hm:y.l.length<=17592186044416):Ctr Tryz.prog aPy [] [.c (eK x),.c (eK y)] [] (aCm (val x.l*val y.l)):=by
 refine aW gT bVf bVg rfl rfl rfl bL aS (aA gT mxd ⟨[],jX x hx oM,rfl,rfl,rfl,λX hX=>⟨[],jX y hy oM,rfl,rfl,rfl,λY hY=>?_⟩⟩)
 have hXn:=dY hx
 have hYn:=dY hy
 replace hX:X.l=dE (val x.l):=hX
 replace hY:Y.l=dE (val y.l):=hY
 obtain⟨lX,vX⟩:=dg hX
 obtain⟨lY,vY⟩:=dg hY
 unfold len at hXn hYn
 rw[<-hX] at hXn
 rw[<-hY] at hYn
 refine⟨λh=>aA gT mxd ?_,λh=>aA gT mxd ?_⟩
 ·refine⟨⟨none,0,[]⟩,?_,aM ⟨rfl,rfl,rfl⟩ rfl trivial⟩
  have h0:val x.l=0\/val y.l=0:=by
   rcases h with h|h
   ·left;rw[<-vX,bQ (l:=X.l) oM];rfl
   right;rw[<-vY,bQ (l:=Y.l) oM];rfl
  show []=dE _
  rcases h0 with h0|h0<;>rw[h0]<;>simp[rL]
 obtain⟨m,hmm⟩:∃m:Nat,m=X.l.length+Y.l.length:=⟨_,rfl⟩
 refine⟨(m:Int),wi (z:=(X.l.length:Int)+(Y.l.length:Int)) (h:=⟨by omega,by omega,by omega⟩),m,⟨rfl,rfl,show 4*m<=_ by omega,by simp only[maxLen];omega⟩,?_⟩
 refine kQ (rn [(6,10),(31,78)]) (λg:Nat×List Nat=>[(31,.c (iC g.1))]) (λg=>uZ g.2) (λg=>g.1<=X.l.length/\g.2.length=m/\Lm g.2/\val (g.2.take (g.1+Y.l.length))=val (X.l.take g.1)*val Y.l/\∀j,g.1+Y.l.length<=j->j<g.2.length->g.2.getD j default=0) (λg=>X.l.length-g.1) (0,List.replicate m 0) ?_
 refine⟨⟨⟨aC _,by simp,Lm.zeros m,?_,λj _ hj=>?_⟩,aGz,rfl⟩,λ⟨i,O⟩ ⟨hi,hO,hLm,hv,hz⟩=>aA gT mxd ⟨λh1=>aA gT mxd ?_,λh1=>aA gT mxd (aA gT mxd ?_)⟩⟩
 ·show val ((List.replicate m 0).take _)=_
  rw[List.take_replicate,aBb]
  simp[val]
 ·rw[cJ] at hj
  rw[gd (by simpa using hj)]
  simp
 all_goals simp only at hi hO hLm hv hz h1
 ·have him:i<X.l.length:=by omega
  have dx:=lX.at him
  refine⟨i,⟨rfl,him⟩,⟨λh0=>aA gT mxd ?_,λh0=>aA gT mxd ?_⟩⟩
  ·have h00:X.l.getD i default=0:=by replace h0:((X.l.getD i default:Nat):Int)=0:=h0;omega
   exact⟨(i+1:Nat),wi,(i+1,O),⟨⟨him,hO,hLm,aZi (O:=O) him oM hv hz h00,λj (h1:i+1+Y.l.length<=j) h2=>hz j oM h2⟩,show X.l.length-(i+1)<X.l.length-i by omega⟩,rfl,rfl,rfl⟩
  refine kQ (rn [(8,10),(40,69)]) (λg:Nat×Nat×List Nat=>[(40,.c (iC g.1)),(8,.c (wC g.2.1))]) (λg=>uZ (mZ O g.2.2 i)) (λg=>g.1<=Y.l.length/\g.2.2.length=g.1/\Lm g.2.2/\g.2.1<4294967296/\val g.2.2+4294967296^g.1*g.2.1=val ((O.drop i).take g.1)+X.l.getD i default*val (Y.l.take g.1)) (λg=>Y.l.length-g.1) (0,0,[]) ?_
  refine⟨⟨⟨aC _,rfl,Lm.nil,by decide,by simp[val]⟩,yC (aLx O i).symm,rfl,rfl⟩,λ⟨k,c,Q⟩ ⟨hk,hQ,hQm,hc,hw⟩=>aA gT mxd ⟨λh2=>aA gT mxd ?_,λh2=>aA gT mxd (aA gT mxd ?_)⟩⟩
  all_goals simp only at hk hQ hQm hc hw h2
  ·have hkm:k<Y.l.length:=by omega
   have dy:=lY.at hkm
   have hik:i+k<O.length:=by omega
   have hrl:(mZ O Q i).length=O.length:=nA oM
   have ho:O.getD (i+k) default<4294967296:=hLm.at hik
   have hg:(mZ O Q i).getD (i+k) default=O.getD (i+k) default:=aSy hQ hik
   have hlm:=wP dx dy
   obtain⟨p,hp⟩:∃p,p=X.l.getD i default*Y.l.getD k default:=⟨_,rfl⟩
   rw[<-hp] at hlm
   have hpos:i+k<(mZ O Q i).length:=by rw[hrl];exact hik
   have hik2:i+k<m:=by omega
   refine⟨k,⟨rfl,hkm⟩,_,w0 (x:=X.l.getD i default) oM,_,w0 (x:=Y.l.getD k default) oM,_,wm oM,((i+k:Nat):Int),wi,i+k,⟨rfl,hik2,wZ hpos⟩,uC (O.getD (i+k) default),(aIt hpos).trans (by rw[hg]),_,w0 (x:=O.getD (i+k) default) oM,_,wa2 oM,_,wa oM,((i+k:Nat):Int),wi,_,uJ _,i+k,⟨rfl,hik2,wZ hpos⟩,_,tQ hpos (zN hQ hik),p32,_,wY _,(k+1:Nat),wi,(k+1,(c+(O.getD (i+k) default+X.l.getD i default*Y.l.getD k default))/4294967296,Q++[(c+(O.getD (i+k) default+X.l.getD i default*Y.l.getD k default))%4294967296]),⟨⟨hkm,?_,hQm.snoc (dM _ dC),?_,zO hQ hkm hik hw⟩,?_⟩,rfl,rfl,rfl,rfl⟩
   ·simp[hQ]
   ·show _/_<_
    omega
   show Y.l.length-(k+1)<Y.l.length-k
   omega
  obtain rfl:k=Y.l.length:=by omega
  have hpos:i+Y.l.length<(mZ O Q i).length:=by rw[nA oM];omega
  have hQ':(Q++[c]).length=Y.l.length+1:=by simp[hQ]
  have hst:(mZ O Q i).set (i+Y.l.length) (c%4294967296)=mZ O (Q++[c]) i:=(zN hQ oM).trans (by rw[cS hc])
  refine⟨((i+Y.l.length:Nat):Int),wi,_,uJ c,i+Y.l.length,⟨rfl,by omega,wZ hpos⟩,_,tQ hpos hst,(i+1:Nat),wi,(i+1,mZ O (Q++[c]) i),⟨⟨him,?_,aSz hLm (hQm.snoc hc),?_,?_⟩,?_⟩,rfl,rfl,rfl⟩
  ·show(mZ O (Q++[c]) i).length=m
   rw[nA oM];exact hO
  ·rw[gL (aI _)] at hw
   exact aTa (n:=0) him hQ oM hv hw
  ·exact aDs hQ' oM hz
  show X.l.length-(i+1)<X.l.length-i
  omega
 obtain rfl:i=X.l.length:=by omega
 rw[gL oM,gL (aI _)] at hv
 obtain⟨o1,o2,o3⟩:=vE hO.symm hLm
 refine⟨some (λj=>[uC (O.getD j default)]),⟨⟨aC _,dN⟩,o1,o2,o3⟩,λAA cc _ _=>?_⟩
 rw[<-hO]
 refine⟨[],jX ⟨AA,cc,O⟩ hLm (by show O.length<=_;omega),rfl,rfl,rfl,λg hg=>⟨g,?_,aM rfl rfl trivial⟩⟩
 show g.l=_
 rw[<-vX,<-vY,<-hv];exact hg
theorem bCo {x s:Nat} (hs:s<32):((x/2^s:Nat):Int)=(x:Int).fdiv (2^(min (s:Int).toNat IntKind.u32.bits)):=by
 rw[cL,show min s IntKind.u32.bits=s from eH (eX hs),jS _ (vU (Int.pow_pos dC))]
 simp
theorem cPe (x:Nat):((x/2:Nat):Int)=(x:Int).fdiv (2^(min (1:Int).toNat IntKind.u32.bits)):=by
 have:=bCo (x:=x) (s:=1) dC
 simpa using this
theorem p1:(0:Int)<=1:=by decide
theorem cPf {s:Nat} (hs:s<32):((2^s:Nat):Int)=IntKind.u32.wrap ((1:Int)*2^(min (s:Int).toNat IntKind.u32.bits)):=by
 rw[cL,show min s IntKind.u32.bits=s from eH (eX hs),tK]
 have h:2^s<2^32:=qK dC hs
 rw[show((2:Int)^s)=((2^s:Nat):Int) by simp]
 generalize 2^s=p at*
 rw[bTa oM]
theorem orN {a b:Nat} (ha:a<4294967296) (hb:b<4294967296):((a|||b:Nat):Int)=IntKind.u32.wrap ((BitVec.ofInt IntKind.u32.bits (a:Int)|||BitVec.ofInt IntKind.u32.bits (b:Int)).toNat:Int):=by
 show _=IntKind.u32.wrap ((BitVec.ofInt 32 (a:Int)|||BitVec.ofInt 32 (b:Int)).toNat:Int)
 rw[gC,gC,wE,gS,gS,cS oM,cS oM]
 have:=Nat.or_lt_two_pow (n:=32) ha hb
 rw[bTa oM]
theorem cPg {a:Nat} (ha:a<4294967296):((a%2:Nat):Int)=IntKind.u32.wrap ((BitVec.ofInt IntKind.u32.bits (a:Int)&&&BitVec.ofInt IntKind.u32.bits (1:Int)).toNat:Int):=by
 symm
 show IntKind.u32.wrap ((BitVec.ofInt 32 (a:Int)&&&BitVec.ofInt 32 ((1:Nat):Int)).toNat:Int)=_
 rw[gC,gC,BitVec.toNat_and,gS,gS,cS oM,cS oM,Nat.and_one_is_mod,bTa oM]
theorem aUd {i:Nat} (h:i<=4611686018427387904):((i/32:Nat):Int)=IntKind.i64.wrap ((i:Int).tdiv 32):=by
 rw[sO oM,cEw oM];omega
theorem aEq (i:Nat):(i:Int).tmod 32=((i%32:Nat):Int):=by
 rw[sP oM];omega
theorem aPz {a b:Nat} (h:a<18446744073709551616):((a/b:Nat):Int)=IntKind.u64.wrap ((a:Int).tdiv (b:Int)):=by
 rw[sO oM,<-uP]
 have:=iL a b
 generalize a/b=q at*
 exact(aDr oM).symm
theorem n32:(32:Int)≠0:=by decide
abbrev bCp:FuncId:=226
theorem cFw:Ent Tryz.prog bCp:=aU func226 rfl kR
theorem cFx:Tryz.prog.funcs[bCp]? =some Tryz.f226:=func226
theorem bVh (x:Sl Nat) (hx:Lm x.l) (hn:x.l.length<=17592186044416):Ctr Tryz.prog bCp [] [.c (eK x)] [] (λt:Nat=>⟨.c (iC t),[],val x.l<2^t/\t<=32*x.l.length⟩):=by
 refine aW gT cFw cFx rfl rfl rfl bL aS (aA gT mxd ⟨[],nN x hx oM,rfl,rfl,rfl,λX hX=>?_⟩)
 replace hX:X.l=dE (val x.l):=hX
 obtain⟨lX,vX⟩:=dg hX
 have hXn:X.l.length<=x.l.length:=by rw[hX];exact dY hx
 refine⟨λh=>aA gT mxd ⟨0,⟨?_,aC _⟩,aM rfl rfl trivial⟩,λh=>aA gT mxd ?_⟩
 ·have h0:val x.l=0:=nQ.1 (by unfold len;rw[<-hX];omega)
  rw[h0];decide
 have h0:0<X.l.length:=by omega
 have htop:=lX.at (k:=X.l.length-1) oM
 refine⟨(X.l.length:Int)-1,wi,(32*(X.l.length-1):Nat),wi,(X.l.length:Int)-1,wi,X.l.length-1,⟨oM,oM⟩,?_⟩
 refine kQ (rn [(3,4),(20,25)]) (λs:Nat=>[(3,.c (iC (32*(X.l.length-1)+s:Nat))),(4,.c (uC (X.l.getD (X.l.length-1) default/2^s)))]) (λ_=>[]) (·<=32) (32-·) 0 ?_
 refine⟨⟨aC _,rfl,rfl,?_⟩,λs hs=>aA gT mxd ⟨λh1=>aA gT mxd ?_,λh1=>aA gT mxd (aA gT mxd ?_)⟩⟩
 ·show(_:Int)=(_:Int)
  rw[rJ,Nat.div_one]
 ·have hs32:s<32:=by
   rcases eC s 32 with h|h
   ·exact h
   exfalso
   rw[show s=32 by omega,gW (show X.l.getD (X.l.length-1) default<2^32 from htop)] at h1
   exact absurd h1 dC
  refine⟨(32*(X.l.length-1)+(s+1):Nat),wi,p1,_,cPe _,s+1,⟨hs32,by omega⟩,rfl,rfl,rfl,?_⟩
  show(_:Int)=(_:Int)
  rw[eD,<-iF]
 have hz:X.l.getD (X.l.length-1) default/2^s=0:=by
  rcases cE (X.l.getD (X.l.length-1) default/2^s) with h|h
  ·exact h
  exact absurd (Int.natCast_pos.2 h) h1
 have hb:=aZd lX h0 hz
 rw[vX] at hb
 exact⟨_,⟨hb,by omega⟩,aM rfl rfl trivial⟩
abbrev bVi:FuncId:=227
theorem cPh:Ent Tryz.prog bVi:=aU func227 rfl kR
theorem cPi:Tryz.prog.funcs[bVi]? =some Tryz.f227:=func227
theorem cFy (x:Sl Nat) (hx:Lm x.l) {i:Nat} {z:Int} (hz:z=i) (hi:i<=562949953421312):Ctr Tryz.prog bVi [] [.c (eK x),.c (iC z)] [] (λ_:Unit=>⟨.c (uC (val x.l/2^i%2)),[],True⟩):=by
 subst hz
 refine aW gT cPh cPi rfl rfl rfl bL aS (aA gT mxd ⟨n32,_,aUd oM,⟨λh=>aA gT mxd ?_,λh=>aA gT mxd ?_⟩⟩)
 ·refine⟨(),trivial,aM ?_ rfl trivial⟩
  show(0:Int)=(_:Int)
  rw[<-aHu hx,yO oM,Nat.zero_div];rfl
 have hxi:=hx.at (k:=i/32) oM
 refine⟨n32,_,aUd oM,i/32,⟨rfl,oM⟩,n32,((i%32:Nat):Int),wu (h:=⟨(aEq i).symm,by rw[aEq];omega,by rw[aEq];omega⟩),show(0:Int)<=((i%32:Nat):Int) by omega,_,bCo oM,_,cPg (eZ (iL _ _) hxi),(),trivial,aM ?_ rfl trivial⟩
 show(_:Int)=(_:Int)
 rw[<-aHu hx,sY oM]
abbrev aIz:FuncId:=195
theorem bMb:Ent Tryz.prog aIz:=aU func195 rfl kR
theorem bMc:Tryz.prog.funcs[aIz]? =some Tryz.f195:=func195
theorem aNg (x y:Sl Nat) (hx:Lm x.l) (hy:Lm y.l) (hn:x.l.length<=13194139533312) (hm:y.l.length<=13194139533312):Ctr Tryz.prog aIz [] [.c (eK x),.c (eK y)] [] (λg:Sl Nat×Sl Nat=>⟨.t [.c (eK g.1),.c (eK g.2),pC (val y.l≠0)],[],g.1.l=dE (val x.l/val y.l)/\g.2.l=dE (aFx (val x.l) (val y.l))⟩):=by
 refine aW gT bMb bMc rfl rfl rfl bL aS (aA gT mxd ⟨[],nN y hy oM,rfl,rfl,rfl,λY hY=>?_⟩)
 replace hY:Y.l=dE (val y.l):=hY
 obtain⟨lY,vY⟩:=dg hY
 have hYn:Y.l.length<=y.l.length:=by rw[hY];exact dY hy
 refine⟨λh=>aA gT mxd ?_,λh=>aA gT mxd ?_⟩
 ·have hy0:val y.l=0:=nQ.1 (by unfold len;rw[<-hY];omega)
  refine⟨(cP,cP),⟨?_,?_⟩,aM ⟨⟨rfl,rfl,rfl⟩,⟨rfl,rfl,rfl⟩,ff (λh=>h hy0)⟩ rfl trivial⟩
  ·show []=dE _
   rw[hy0,Nat.div_zero];rfl
  show []=dE _
  rw[hy0];rfl
 have hy0:val y.l≠0:=λh0=>by have:=nQ.2 h0;unfold len at this;rw[<-hY] at this;omega
 have hmz:aFx (val x.l) (val y.l)=val x.l%val y.l:=if_neg hy0
 refine⟨[],bCj x hx oM,rfl,rfl,rfl,λ_ _=>⟨[],bCj Y lY oM,rfl,rfl,rfl,λ_ _=>⟨λh64=>aA gT mxd ?_,λh64=>aA gT mxd ?_⟩⟩⟩
 ·have hd:=iL (val x.l) (val y.l)
  have hd2:=Nat.mod_le (val x.l) (val y.l)
  have e1:(if val x.l<18446744073709551616 then val x.l else 0)=val x.l:=if_pos h64.1
  have e2:(if val Y.l<18446744073709551616 then val Y.l else 0)=val y.l:=by rw[if_pos h64.2,vY]
  rw[e1,e2]
  have hnz:((val y.l:Nat):Int)≠0:=by omega
  refine⟨.seq [(0,false),(1,false),(2,false),(4,false),(5,false),(6,false),(3,false),(7,false),(8,false),(9,false),(10,false)],by kernel_rfl,hnz,_,aPz h64.1,hnz,[],aIs oM,rfl,rfl,rfl,λg1 h1=>⟨[],aIs (n:=val x.l%val y.l) oM,rfl,rfl,rfl,λg2 h2=>⟨(g1,g2),⟨h1,by rw[hmz];exact h2⟩,aM ⟨rfl,rfl,tt hy0⟩ rfl trivial⟩⟩⟩
 refine⟨x.l.length,⟨rfl,rfl,show 4*x.l.length<=_ by omega,by simp only[maxLen];omega⟩,[],bVh x hx oM,rfl,rfl,rfl,λt ⟨ht,htl⟩=>⟨(t:Int)-1,wi,?_⟩⟩
 refine bCe (rn [(5,5),(11,13),(47,79)]) 1 (λg:Nat×Nat×Nat×List Nat×Sl Nat=>[(11,.c (iC ((g.1:Int)-1))),(5,.c (eK g.2.2.2.2))]) (λg=>[(123,1,g.2.2.2.1.map uC)]) (λg=>g.1<=t/\val x.l/2^g.1=g.2.1*val y.l+g.2.2.1/\g.2.2.1<val y.l/\g.2.2.2.1.length=x.l.length/\Lm g.2.2.2.1/\val g.2.2.2.1=g.2.1*2^g.1/\g.2.2.2.2.l=dE g.2.2.1) (λg=>g.1) (t,0,0,List.replicate x.l.length 0,cP) (λ_=>rfl) bL (λ_=>aB (aV.2 λc hc=>rS (iV _ c hc)) aY) (λ_=>rfl) ?_
 refine⟨⟨rfl,⟨aI _,?_,?_,by simp,Lm.zeros _,?_,rfl⟩,?_,rfl,rfl,rfl,rfl⟩,λ⟨j,Qn,r,O,R⟩ ⟨hj,hdiv,hr,hOl,hOm,hOv,hR⟩=>aA gT mxd ⟨λh1=>aA gT mxd ?_,λh1=>aA gT mxd (aA gT mxd ?_)⟩⟩
 ·show val x.l/2^t=_
  rw[gW ht];simp
 ·show 0<val y.l
  omega
 ·show val (List.replicate _ 0)=0*_
  rw[aBb,pH]
 ·show(_,_,_)=(_,_,_)
  exact congrArg (λl=>(123,1,l)) (yB _)
 ·simp only at hj hdiv hr hOl hOm hOv hR h1
  obtain⟨i,rfl⟩:∃i,j=i+1:=⟨j-1,by omega⟩
  obtain⟨lR,vR⟩:=dg hR
  have hz:((i+1:Nat):Int)-1=i:=by omega
  have hlr:R.l.length<=Y.l.length:=by rw[hR,hY];exact fY oM
  have hb1:val x.l/2^i%2<2:=dM _ dC
  have hlr2:=zM r r
  simp only[<-fD] at hlr2
  rw[<-hR] at hlr2
  have hnx:=aZf (i:=i) hdiv
  refine⟨[],bCk R R lR lR oM oM,rfl,rfl,rfl,λR2 hR2=>⟨[],cFy x hx hz oM,rfl,rfl,rfl,λ_ _=>?_⟩⟩
  replace hR2:R2.l=dE (val R.l+val R.l):=hR2
  rw[vR] at hR2
  obtain⟨lR2,vR2⟩:=dg hR2
  rw[<-hR2] at hlr2
  refine cOn (rn [(5,5),(11,13),(47,79)]) 1 (λR3:Sl Nat=>[(11,.c (iC (((i+1:Nat):Int)-1))),(5,.c (eK R3))]) (λ_=>[(123,1,O.map uC)]) (λR3=>R3.l=dE (r+r+val x.l/2^i%2)) (λ_=>rfl) bL (λ_=>aB (aV.2 λc hc=>rS (iV _ c hc)) aY) (λ_=>rfl) ?_
  refine⟨rfl,⟨λh2=>aA gT mxd ⟨some (λj=>[uC ([1].getD j default)]),⟨⟨aC _,dN⟩,rfl,λj hj=>mS (x:=[1]) j hj,iV [1]⟩,λA c _ _=>⟨aAf O,[],bCk R2 ⟨A,c,[1]⟩ lR2 (λz hz=>by rw[aH.1 hz];decide) oM (by show 1<=_;omega),rfl,rfl,rfl,λR3 hR3=>⟨R3,?_,rfl,rfl,rfl,rfl⟩⟩⟩,λh2=>aA gT mxd ⟨R2,?_,rfl,rfl,rfl,rfl⟩⟩,λR3 hR3=>?_⟩
  ·replace hR3:R3.l=dE (val R2.l+val [1]):=hR3
   rw[hR3,vR2]
   congr 1
   show r+r+1=_
   omega
  ·rw[hR2]
   congr 1
   omega
  obtain⟨lR3,vR3⟩:=dg hR3
  have hlr3:R3.l.length<=Y.l.length+1:=by
   have h1:=fY (m:=r+r+val x.l/2^i%2) (n:=val y.l+val y.l) oM
   have h2:=zM (val y.l) (val y.l)
   simp only[<-fD] at h1 h2
   rw[<-hY] at h2
   rw[hR3]
   omega
  refine⟨[],bCl R3 Y lR3 lY oM oM,rfl,rfl,rfl,λD hD=>⟨λh3=>aA gT mxd ?_,λh3=>aA gT mxd ?_⟩⟩
  ·replace hD:D.l=dE (val R3.l-val Y.l):=hD
   have hsb:=bTc (i:=i) hOm oM (by rw[hOv];exact Nat.mul_mod_left _ _)
   have hi32:i/32<O.length:=by omega
   refine⟨n32,((i/32:Nat):Int),(show((i/32:Nat):Int)=IntKind.i64.wrap ((((i+1:Nat):Int)-1).tdiv 32) by rw[hz];exact aUd oM),i/32,⟨rfl,by omega,show i/32*1<(O.map uC).length by rw[aN];omega⟩,_,aIt hi32,n32,((i%32:Nat):Int),wu (h:=⟨by rw[hz,aEq],by rw[hz,aEq];omega,by rw[hz,aEq];omega⟩),show(0:Int)<=((i%32:Nat):Int) by omega,_,cPf oM,_,orN (hOm.at hi32) (show 2^(i%32)<2^32 from qK dC oM),i/32,⟨rfl,by omega,show i/32*1<(O.map uC).length by rw[aN];omega⟩,_,⟨uX hi32,show i/32*1+1<=(O.map uC).length by rw[aN];omega⟩,(i:Int)-1,wi,(i,2*Qn+1,r+r+val x.l/2^i%2-val y.l,O.set (i/32) (O.getD (i/32) default+2^(i%32)),D),⟨⟨show i<=t by omega,?_,show r+r+val x.l/2^i%2-val y.l<val y.l by omega,?_,hOm.set hsb.2.1,?_,?_⟩,bF i⟩,rfl,?_,rfl,rfl⟩
   ·show val x.l/2^i=(2*Qn+1)*val y.l+(r+r+val x.l/2^i%2-val y.l)
    rw[hnx,dJ,iT];omega
   ·simp[hOl]
   ·show val (O.set _ _)=(2*Qn+1)*2^i
    rw[hsb.2.2,hOv,aLy,dJ,iT]
   ·show D.l=dE _
    rw[hD,vR3,vY]
   show(_,_,_)=(_,_,_)
   rw[hsb.1]
  refine⟨(i:Int)-1,wi,(i,2*Qn,r+r+val x.l/2^i%2,O,R3),⟨⟨show i<=t by omega,hnx,show r+r+val x.l/2^i%2<val y.l by omega,hOl,hOm,?_,hR3⟩,bF i⟩,rfl,rfl,rfl,rfl⟩
  show val O=2*Qn*2^i
  rw[hOv,aLy]
 simp only at hj hdiv hr hOl hOm hOv hR h1
 obtain rfl:j=0:=by omega
 rw[rJ,Nat.div_one] at hdiv
 rw[rJ,bI] at hOv
 obtain⟨f1,f2⟩:=aHv hdiv hr
 obtain⟨lR,vR⟩:=dg hR
 have hlr:R.l.length<=Y.l.length:=by rw[hR,hY];exact fY oM
 refine⟨some (λj=>[uC (O.getD j default)]),⟨⟨aC _,dN⟩,?_,λj hj=>mS j (by rw[hOl];exact hj),iV O⟩,λA cc _ _=>⟨[],nN ⟨A,cc,O⟩ hOm (by show O.length<=_;omega),?_,rfl,rfl,λg hg=>⟨[],nN R lR oM,rfl,rfl,rfl,λg2 hg2=>⟨(g,g2),⟨?_,?_⟩,aM ⟨rfl,rfl,tt hy0⟩ rfl trivial⟩⟩⟩⟩
 ·show x.l.length*1=_
  simp[hOl]
 ·show [DV.c (.r A x.l.length cc 1 _)]=[DV.c (.r A O.length cc 1 _)]
  rw[hOl]
 ·show g.l=_
  rw[<-f1,<-hOv];exact hg
 show g2.l=_
 rw[hmz,<-f2,<-vR];exact hg2
abbrev bVj:FuncId:=194
theorem cPj:Ent Tryz.prog bVj:=aU func194 rfl kR
theorem cPk:Tryz.prog.funcs[bVj]? =some Tryz.f194:=func194
theorem cFz (x y:Sl Nat) (hx:Lm x.l) (hy:Lm y.l) (hn:x.l.length<=13194139533312) (hm:y.l.length<=13194139533312):Ctr Tryz.prog bVj [] [.c (eK x),.c (eK y)] [] (aCm (Nat.gcd (val x.l) (val y.l))):=by
 refine aW gT cPj cPk rfl rfl rfl bL aS (aA gT mxd ⟨[],nN x hx oM,rfl,rfl,rfl,λX hX=>⟨[],nN y hy oM,rfl,rfl,rfl,λY hY=>?_⟩⟩)
 have hXn:(dE (val x.l)).length<=x.l.length:=dY hx
 have hYn:(dE (val y.l)).length<=y.l.length:=dY hy
 refine kQ (rn [(0,1),(5,7),(12,23)]) (λg:Nat×Nat×Sl Nat×Sl Nat=>[(0,.c (eK g.2.2.1)),(1,.c (eK g.2.2.2))]) (λ_=>[]) (λg=>g.2.2.1.l=dE g.1/\g.2.2.2.l=dE g.2.1/\Nat.gcd g.1 g.2.1=Nat.gcd (val x.l) (val y.l)/\(dE g.1).length<=13194139533312/\(dE g.2.1).length<=13194139533312) (λg=>g.2.1) (val x.l,val y.l,X,Y) ?_
 refine⟨⟨⟨hX,hY,rfl,aJ hXn hn,aJ hYn hm⟩,rfl,rfl,rfl⟩,λ⟨a,b,A,B⟩ ⟨hA,hB,hg,hla,hlb⟩=>aA gT mxd ⟨λh1=>aA gT mxd ?_,λh1=>aA gT mxd (aA gT mxd ?_)⟩⟩
 ·simp only at hA hB hg hla hlb h1
  obtain⟨lA,vA⟩:=dg hA
  obtain⟨lB,vB⟩:=dg hB
  have hb0:b≠0:=λh0=>by rw[h0] at hB;rw[hB] at h1;exact absurd h1 dC
  refine⟨[],aNg A B lA lB (by rw[hA];omega) (by rw[hB];omega),rfl,rfl,rfl,λ⟨Q,R⟩ ⟨_,hR⟩=>⟨(b,a%b,B,R),⟨⟨hB,?_,?_,hlb,?_⟩,dM _ oM⟩,rfl,rfl,rfl,rfl⟩⟩
  ·show R.l=_
   replace hR:R.l=dE (aFx (val A.l) (val B.l)):=hR
   rw[hR,vA,vB,aFx,if_neg hb0]
  ·show Nat.gcd b (a%b)=_
   rw[<-hg,jC a b,xU b a,jC]
  have:=fY (eX (dM a (show 0<b by omega)))
  simp only[<-fD] at this
  exact aJ this hlb
 simp only at hA hB hg hla hlb h1
 have hb0:b=0:=nQ.1 (by unfold len;rw[<-hB];omega)
 refine⟨A,?_,aM rfl rfl trivial⟩
 show A.l=_
 rw[hA,<-hg,hb0,oE]
theorem bQy {s:Nat} (hs:s<=32):min (s:Int).toNat IntKind.u64.bits=s:=by
 rw[cL];exact eH (aJ hs dC)
theorem cGa {x s:Nat} (hs:s<=32) (h:x*2^s<18446744073709551616):((x*2^s:Nat):Int)=IntKind.u64.wrap ((x:Int)*2^(min (s:Int).toNat IntKind.u64.bits)):=by
 rw[bQy hs,show((x:Int)*2^s)=((x*2^s:Nat):Int) by simp]
 generalize x*2^s=p at*
 exact(aDr oM).symm
theorem cGb {a b p:Nat} (h:a|||b=p) (ha:a<18446744073709551616) (hb:b<18446744073709551616) (hp:p<18446744073709551616):(p:Int)=IntKind.u64.wrap ((BitVec.ofInt IntKind.u64.bits (a:Int)|||BitVec.ofInt IntKind.u64.bits (b:Int)).toNat:Int):=by
 show _=IntKind.u64.wrap ((BitVec.ofInt 64 (a:Int)|||BitVec.ofInt 64 (b:Int)).toNat:Int)
 rw[gC,gC,wE,gS,gS,cS ha,cS hb,h,aDr oM]
theorem orS {c x s:Nat} (hc:c<2^s) (hb:c+x*2^s<18446744073709551616):((c+x*2^s:Nat):Int)=IntKind.u64.wrap ((BitVec.ofInt IntKind.u64.bits (c:Int)|||BitVec.ofInt IntKind.u64.bits ((x*2^s:Nat):Int)).toNat:Int):=cGb (aZj hc) oM oM hb
theorem cGc {x s:Nat} (hs:s<=32):((x/2^s:Nat):Int)=(x:Int).fdiv (2^(min (s:Int).toNat IntKind.u64.bits)):=by
 rw[bQy hs,jS _ (vU (Int.pow_pos dC))]
 simp
theorem orH {x y:Nat} (hx:x<4294967296) (hy:y<4294967296):((x+4294967296*y:Nat):Int)=IntKind.u64.wrap ((BitVec.ofInt IntKind.u64.bits (x:Int)|||BitVec.ofInt IntKind.u64.bits ((y*4294967296:Nat):Int)).toNat:Int):=by
 rw[bO];exact orS (s:=32) hx oM
theorem nn {s:Nat}:(0:Int)<=(s:Nat):=Int.natCast_nonneg _
abbrev yD:FuncId:=255
theorem aXu:Ent Tryz.prog yD:=aU func255 rfl kR
theorem aXv:Tryz.prog.funcs[yD]? =some Tryz.f255:=func255
theorem aEr (x:Sl Nat) {sh:Nat} (hx:Lm x.l) (hn:x.l.length<=17592186044416) (hs:sh<=31):Ctr Tryz.prog yD [true] [.c (eK x),.c (iC sh)] [] (λL:List Nat=>⟨.c (.s 0 (x.l.length+1)),uZ L,L.length=x.l.length+1/\Lm L/\val L=val x.l*2^sh⟩):=by
 refine aW gT aXu aXv rfl rfl rfl bL (λ_ _ _ _ h=>(by cases h)) (aA gT mxd ⟨(x.l.length+1:Nat),wi,x.l.length+1,⟨rfl,rfl,show 4*(x.l.length+1)<=_ by omega,by simp only[maxLen];omega⟩,?_⟩)
 refine kQ (rn [(6,8),(15,33)]) (λg:Nat×Nat×List Nat=>[(15,.c (iC g.1)),(6,.c (wC g.2.1))]) (λg=>uZ (iJ g.2.2 (x.l.length+1))) (λg=>g.1<=x.l.length/\g.2.2.length=g.1/\Lm g.2.2/\g.2.1<2^sh/\val g.2.2+4294967296^g.1*g.2.1=val (x.l.take g.1)*2^sh) (λg=>x.l.length-g.1) (0,0,[]) ?_
 refine⟨⟨⟨aC _,rfl,Lm.nil,gV dC,by simp[val]⟩,aGz.trans (yC (rM _).symm),rfl,rfl⟩,λ⟨k,c,P⟩ ⟨hk,hP,hLm,hc,hv⟩=>aA gT mxd ⟨λh1=>aA gT mxd ?_,λh1=>aA gT mxd (aA gT mxd ?_)⟩⟩
 all_goals simp only at hk hP hLm hc hv h1
 ·have hkl:k<x.l.length:=by omega
  have hxk:=hx.at hkl
  have hcr:=aLz hs hc hxk
  have hfl:k<(iJ P (x.l.length+1)).length:=by rw[kE oM];omega
  refine⟨k,⟨rfl,hkl⟩,_,w0 (x:=x.l.getD k default) oM,nn,_,cGa (x:=x.l.getD k default) (s:=sh) oM oM,_,orS hc oM,_,uJ _,k,⟨rfl,by omega,wZ hfl⟩,_,tQ hfl (oH hP oM),p32,_,wY _,(k+1:Nat),wi,(k+1,(c+x.l.getD k default*2^sh)/4294967296,P++[(c+x.l.getD k default*2^sh)%4294967296]),⟨⟨hkl,?_,hLm.snoc (dM _ dC),hcr.2.1,?_⟩,?_⟩,rfl,rfl,rfl,rfl⟩
  ·simp[hP]
  ·show val (P++_)+_=val (x.l.take (k+1))*2^sh
   rw[dT hkl];exact bKj hP hv
  show _-(k+1)<_-k
  omega
 obtain rfl:k=x.l.length:=by omega
 have hcs:=aLz (x:=0) hs hc dC
 have hfl:x.l.length<(iJ P (x.l.length+1)).length:=by rw[kE oM];omega
 have hst:(iJ P (x.l.length+1)).set x.l.length (c%4294967296)=P++[c%4294967296]:=(oH hP (bF _)).trans (pO (by simp[hP]))
 refine⟨_,uJ _,x.l.length,⟨rfl,by omega,wZ hfl⟩,_,tQ hfl hst,P++[c%4294967296],⟨by simp[hP],hLm.snoc (dM _ dC),?_⟩,fH rfl rfl (aC _) aIx rfl aCw⟩
 rw[kD,hP,cS oM,hv,cB (aI _)]
theorem aQa (x:Sl Nat) {sh:Nat} (hx:Lm x.l) (hn:x.l.length<=17592186044416) (hs:sh<=31):Ctr Tryz.prog yD [] [.c (eK x),.c (iC sh)] [] (λg:Sl Nat=>⟨.c (eK g),[],g.l.length=x.l.length+1/\Lm g.l/\val g.l=val x.l*2^sh⟩):=by
 refine((aEr x hx hn hs).cl0.frz (λL j=>[uC (L.getD j default)]) λL hL=>⟨λj hj=>mS j oM,by simp[hL.1],dN,iV _⟩).re λg hg=>⟨⟨g.2.1,g.2.2,g.1⟩,hg,?_,rfl,rfl⟩
 show DV.c (.r _ g.1.length _ _ _)= .c (.r _ (x.l.length+1) _ _ _)
 rw[hg.1]
theorem bQz {s:Nat} (hs:s<=31):(0:Int)=IntKind.i64.wrap ((s:Int).tdiv 32):=by
 rw[<-aUd oM,gW oM];rfl
theorem bRa {s:Nat} (hs:s<=31):(s:Int).tmod 32=(s:Int):=by
 rw[aEq,cS oM]
abbrev bCq:FuncId:=257
theorem cGd:Ent Tryz.prog bCq:=aU func257 rfl kR
theorem cGe:Tryz.prog.funcs[bCq]? =some Tryz.f257:=func257
theorem bVk (x:Sl Nat) {sh:Nat} (hx:Lm x.l) (hn:x.l.length<=17592186044416) (hs:sh<=31):Ctr Tryz.prog bCq [] [.c (eK x),.c (iC sh)] [] (λg:Sl Nat=>⟨.t [.c (eK g),pC True],[],g.l=dE (val x.l/2^sh)⟩):=by
 refine aW gT cGd cGe rfl rfl rfl bL aS (aA gT mxd ⟨λh=>absurd h (by show ¬(sh:Int)<0;omega),λ_=>aA gT mxd ⟨[],jX x hx oM,rfl,rfl,rfl,λX hX=>?_⟩⟩)
 have hXn:=dY hx
 replace hX:X.l=dE (val x.l):=hX
 obtain⟨lX,vX⟩:=dg hX
 unfold len at hXn
 rw[<-hX] at hXn
 have z31:(0:Int)<=(sh:Int).tmod 32:=by rw[bRa hs];omega
 refine⟨n32,0,bQz hs,⟨λh=>aA gT mxd ?_,λh=>aA gT mxd ?_⟩⟩
 ·refine⟨⟨none,0,[]⟩,?_,aM ⟨⟨rfl,rfl,rfl⟩,tt trivial⟩ rfl trivial⟩
  have h0:val x.l=0:=by rw[<-vX,bQ (l:=X.l) oM];rfl
  show []=dE _
  rw[h0,Nat.zero_div];rfl
 refine⟨n32,0,bQz hs,0,⟨rfl,aC _⟩,n32,X.l.length,⟨rfl,rfl,show 4*X.l.length<=_ by omega,by simp only[maxLen];omega⟩,?_⟩
 refine kQ (rn [(8,10),(31,59)]) (λg:Nat×List Nat=>[(31,.c (iC g.1))]) (λg=>uZ (iJ g.2 X.l.length)) (λg=>g.1<=X.l.length/\g.2.length=g.1/\Lm g.2/\val g.2=val X.l/2^sh%4294967296^g.1) (λg=>X.l.length-g.1) (0,[]) ?_
 refine⟨⟨⟨aC _,rfl,Lm.nil,by simp[val,Nat.mod_one]⟩,aGz.trans (yC (rM _).symm),rfl⟩,λ⟨k,P⟩ ⟨hk,hP,hLm,hv⟩=>aA gT mxd ⟨λh1=>aA gT mxd ?_,λh1=>aA gT mxd (aA gT mxd ?_)⟩⟩
 all_goals simp only at hk hP hLm hv
 ·have hkl:k<X.l.length:=by replace h1:(k:Int)<(X.l.length:Nat):=h1;omega
  have hxk:=lX.at hkl
  have hd0:=tN lX k
  have hd1:=tN lX (k+1)
  have hfl:k<(iJ P X.l.length).length:=by rw[kE oM];omega
  refine⟨k,⟨rfl,hkl⟩,_,w0 (x:=X.l.getD k default) oM,(k+1:Nat),wi,?_⟩
  refine vjn (rn [(8,10),(31,59)]) (λg:Nat=>[(31,.c (iC k)),(8,.c (iC k)),(10,.c (wC g))]) (λ_=>uZ (iJ P X.l.length)) (λg=>g=dig X.l k+4294967296*dig X.l (k+1)) ?_
  refine⟨⟨λh2=>aA gT mxd ?_,λh2=>aA gT mxd ⟨_,rfl,rfl,rfl,rfl,rfl,?_⟩⟩,?_⟩
  ·replace h2:((k+1:Nat):Int)<(X.l.length:Nat):=h2
   have hxk1:=lX.at (k:=k+1) oM
   refine⟨(k+1:Nat),wi,k+1,⟨rfl,by show k+1<X.l.length;omega⟩,_,w0 (x:=X.l.getD (k+1) default) oM,p32,_,aEp hxk1,_,orH hxk hxk1,_,rfl,rfl,rfl,rfl,rfl,?_⟩
   show(_:Int)=(_:Int)
   rw[sY hkl,sY oM]
  ·show(_:Int)=(_:Int)
   replace h2:¬((k+1:Nat):Int)<(X.l.length:Nat):=h2
   rw[sY hkl,yO (k:=k+1) oM];rfl
  rintro _ rfl
  refine⟨z31,_,(cGc (x:=dig X.l k+4294967296*dig X.l (k+1)) (s:=sh) oM).trans (by rw[bRa hs]),_,uJ _,k,⟨rfl,hkl,wZ hfl⟩,_,tQ hfl (oH hP hkl),(k+1:Nat),wi,(k+1,P++[(dig X.l k+4294967296*dig X.l (k+1))/2^sh%4294967296]),⟨⟨hkl,by simp[hP],hLm.snoc (dM _ dC),?_⟩,?_⟩,rfl,rfl,rfl⟩
  ·show val (P++[_])=_
   rw[aXc lX hs];exact aZk hP hv
  show _-(k+1)<_-k
  omega
 obtain rfl:k=X.l.length:=by replace h1:¬(k:Int)<(X.l.length:Nat):=h1;omega
 have hf:iJ P X.l.length=P:=pO hP
 have hfin:val P=val x.l/2^sh:=by
  rw[hv,vX,cS]
  refine eZ (iL _ _) ?_
  have h9:=jL lX
  rw[vX] at h9
  exact h9
 obtain⟨o1,o2,o3⟩:=vE hP.symm hLm
 rw[hf]
 refine⟨some (λj=>[uC (P.getD j default)]),⟨⟨aC _,dN⟩,o1,o2,o3⟩,λAA cc _ _=>?_⟩
 rw[<-hP]
 refine⟨[],jX ⟨AA,cc,P⟩ hLm (by show P.length<=_;omega),rfl,rfl,rfl,λg hg=>⟨g,?_,aM ⟨rfl,tt trivial⟩ rfl trivial⟩⟩
 show g.l=_
 rw[<-hfin];exact hg
theorem bMd {z:Nat} (h:z<4294967296):(z:Int)=IntKind.u32.wrap (z:Int):=by rw[IntKind.wrap_u32];omega
abbrev bCr:FuncId:=240
theorem cGf:Ent Tryz.prog bCr:=aU func240 rfl kR
theorem cGg:Tryz.prog.funcs[bCr]? =some Tryz.f240:=func240
theorem bVl (x:Sl Nat) {d:Nat} (hx:Lm x.l) (hn:x.l.length<=17592186044416) (hd0:0<d) (hd:d<4294967296):Ctr Tryz.prog bCr [] [.c (eK x),.c (uC d)] [] (λg:Sl Nat×Sl Nat=>⟨.t [.c (eK g.1),.c (eK g.2)],[],g.1.l=dE (val x.l/d)/\g.2.l=dE (val x.l%d)⟩):=by
 refine aW gT cGf cGg rfl rfl rfl bL aS (aA gT mxd ⟨x.l.length,⟨rfl,rfl,show 4*x.l.length<=_ by omega,by simp only[maxLen];omega⟩,(x.l.length:Int)-1,wi,?_⟩)
 refine kQ (rn [(6,7),(14,37)]) (λg:Nat×Nat×List Nat=>[(7,.c (iC ((g.1:Int)-1))),(6,.c (wC g.2.1))]) (λg=>uZ (List.replicate g.1 0++g.2.2)) (λg=>g.1<=x.l.length/\g.2.1<d/\g.2.2.length+g.1=x.l.length/\Lm g.2.2/\val (x.l.drop g.1)=val g.2.2*d+g.2.1) (λg=>g.1) (x.l.length,0,[]) ?_
 refine⟨⟨⟨aI _,hd0,by simp,Lm.nil,by rw[cH (aI _)];simp[val]⟩,aGz.trans (yC (dG _).symm),rfl,rfl⟩,λ⟨m,r,Q⟩ ⟨hm,hr,hQl,hQm,hv⟩=>aA gT mxd ⟨λh1=>aA gT mxd ?_,λh1=>aA gT mxd (aA gT mxd ?_)⟩⟩
 all_goals simp only at hm hr hQl hQm hv
 ·replace h1:(0:Int)<=(m:Int)-1:=h1
  obtain⟨n,rfl⟩:∃n,m=n+1:=⟨m-1,by omega⟩
  have hn1:n<x.l.length:=by omega
  have hxn:=hx.at hn1
  have hll:=bKk hr hd hxn
  have hfl:n<(List.replicate (n+1) 0++Q).length:=by simp;omega
  have hr32:r<4294967296:=by omega
  refine⟨p32,_,aEp hr32,n,⟨oM,hn1⟩,_,w0 (x:=x.l.getD n default) oM,_,aPt hr32 hxn,_,w0 (x:=d) oM,show(d:Int)≠0 by omega,_,aPz hll.2,_,bMd hll.1,n,⟨oM,hn1,wZ hfl⟩,_,tQ hfl cFa,_,w0 (x:=d) oM,show(d:Int)≠0 by omega,(n:Int)-1,?_,(n,(r*4294967296+x.l.getD n default)%d,(r*4294967296+x.l.getD n default)/d::Q),⟨⟨by show n<=_;omega,dM _ hd0,by show(_::Q).length+n=_;rw[eF];omega,λz hz=>?_,aXd hn1 hd0 hv⟩,bF n⟩,rfl,rfl,rfl,?_⟩
  ·exact wi (h:=⟨by omega,by omega,by omega⟩)
  ·rcases bZ.1 hz with rfl|hz
   ·exact hll.1
   exact hQm z hz
  show(_:Int).tmod (_:Int)=(_:Int)
  rfl
 obtain rfl:m=0:=by replace h1:¬(0:Int)<=(m:Int)-1:=h1;omega
 rw[lW] at hv
 have hfin:=aHv (n:=val x.l) (b:=d) hv hr
 have hQl':x.l.length=Q.length:=by omega
 obtain⟨o1,o2,o3⟩:=vE hQl' hQm
 refine⟨some (λj=>[uC (Q.getD j default)]),⟨⟨aC _,dN⟩,o1,o2,o3⟩,λAA cc _ _=>?_⟩
 rw[hQl']
 refine⟨[],jX ⟨AA,cc,Q⟩ hQm (by show Q.length<=_;omega),rfl,rfl,rfl,λg hg=>⟨[],nT (n:=r) oM,rfl,rfl,rfl,λh hh=>⟨(g,h),⟨?_,?_⟩,aM ⟨rfl,rfl⟩ rfl trivial⟩⟩⟩
 ·show g.l=_
  rw[<-hfin.1];exact hg
 show h.l=_
 rw[<-hfin.2];exact hh
set_option maxRecDepth 8000
theorem bCs {P2 P:List Nat} {t k n:Nat} (h2:P2.length=n) (hP:P.length=n) (hk:k=n):(P2++(P++[t]).drop k).getD n default=t:=by
 subst hk
 rw[aCt h2,aD,bR oM,hP,jA];rfl
theorem aXw {a:Nat} (h:a+1=4294967296):((0:Nat):Int)=IntKind.u32.wrap ((a:Int)+((1:Nat):Int)):=by
 rw[show(a:Int)+((1:Nat):Int)=4294967296 by omega];decide
theorem w0e {x y:Nat} (e:y=x) (h:x<=18446744073709551615):(y:Int)=IntKind.u64.wrap (x:Int):=by subst e;exact w0 h
theorem c32 {z w:Nat} (e:w=z) (h:w<4294967296):(w:Int)=IntKind.u32.wrap (z:Int):=by subst e;exact bMd h
theorem aEs {pre L post:List Nat} {k z:Nat} (h:k<L.length) (e:z=L.getD k default):((pre++L++post).map uC)[pre.length*1+k*1]? =some (uC z):=by
 rw[bI,bI,cU,bG,bR (by simp),aN,fX,bG,bA (by simpa using h),dW,aG h,e,gd h];rfl
theorem aJa {pre L L' post:List Nat} {k z:Nat} (h:k<L.length) (e:L.set k z=L'):mD ((pre++L++post).map uC) (pre.length*1+k*1) [uC z]=(pre++L'++post).map uC/\pre.length*1+k*1+1<=((pre++L++post).map uC).length:=by
 have h1:pre.length+k<(pre++L++post).length:=by simp;omega
 have h2:=uX (z:=z) h1
 rw[bI] at h2
 refine⟨?_,by simp;omega⟩
 rw[bI,bI,h2,<-e,cU,iM (h:=by omega),fX,List.set_append_left (h:=by simpa using h),cU]
abbrev aQb (pre L post:List Nat):BL:=uZ (pre++L++post)
abbrev aJb:FuncId:=256
theorem bVm:Ent Tryz.prog aJb:=aU func256 rfl kR
theorem bVn:Tryz.prog.funcs[aJb]? =some Tryz.f256:=func256
theorem bMe (pre u post:List Nat) (V:Sl Nat) (hul:u.length=V.l.length+1) (lmu:Lm u) (lmy:Lm V.l) (hn2:2<=V.l.length) (hnb:V.l.length<=35184372088832) (htop:2147483648<=V.l.getD (V.l.length-1) default) (hq:val u<val V.l*4294967296):
 CtrF Tryz.prog aJb [true] [.c (.t 0 (pre.length*1) (V.l.length+1)),.c (eK V)] (aQb pre u post) [] (λmid:List Nat=>⟨.c (uC (val u/val V.l)),aQb pre mid post,[],mid.length=V.l.length+1/\Lm mid/\val mid=val u%val V.l⟩):=by
 have hK:=cFb hul rfl hn2 lmu lmy htop hq
 obtain⟨n,hn⟩:∃n,n=V.l.length:=⟨_,rfl⟩
 obtain⟨un,hun⟩:∃z,z=u.getD n default:=⟨_,rfl⟩
 obtain⟨un1,hun1⟩:∃z,z=u.getD (n-1) default:=⟨_,rfl⟩
 obtain⟨u2,hu2⟩:∃z,z=u.getD (n-2) default:=⟨_,rfl⟩
 obtain⟨v1,hv1⟩:∃z,z=V.l.getD (n-1) default:=⟨_,rfl⟩
 obtain⟨v2,hv2⟩:∃z,z=V.l.getD (n-2) default:=⟨_,rfl⟩
 rw[<-hn] at hK htop hul hn2 hnb
 have bun:=lmu.at (k:=n) oM
 have bun1:=lmu.at (k:=n-1) oM
 have bu2:=lmu.at (k:=n-2) oM
 have bv1:=lmy.at (k:=n-1) oM
 have bv2:=lmy.at (k:=n-2) oM
 rw[<-hun,<-hun1,<-hu2,<-hv1,<-hv2] at hK
 rw[<-hun] at bun
 rw[<-hun1] at bun1
 rw[<-hu2] at bu2
 rw[<-hv1] at bv1 htop
 rw[<-hv2] at bv2
 have hz1:(v1:Int)≠0:=by omega
 have htl:un*4294967296+un1<18446744073709551616:=by omega
 have hkn1:n-1<V.l.length:=by omega
 have hkn2:n-2<V.l.length:=by omega
 have i1:((n-1:Nat):Int)=IntKind.i64.wrap (((V.l.length:Nat):Int)-1):=wi (h:=⟨by omega,by omega,by omega⟩)
 have i2:((n-2:Nat):Int)=IntKind.i64.wrap (((V.l.length:Nat):Int)-2):=wi (h:=⟨by omega,by omega,by omega⟩)
 have hvx:v1<=18446744073709551615:=by omega
 refine nX gT bVm bVn rfl rfl rfl bL aCw (aA gT mxd ⟨.seq (aGc 0 14),by kernel_rfl,V.l.length,⟨rfl,bF _⟩,uC un,aEs oM (by rw[hun,hn]),_,w0 (x:=un) oM,p32,_,aEp bun,_,i1,n-1,⟨rfl,by omega⟩,uC un1,aEs oM hun1,_,w0 (x:=un1) oM,_,aPt bun bun1,.seq (aGc 0 18),by kernel_rfl,_,i1,n-1,⟨rfl,hkn1⟩,(v1:Nat),w0e hv1 (hv1▸hvx),hz1,_,aPz htl,_,i1,n-1,⟨rfl,hkn1⟩,(v1:Nat),w0e hv1 (hv1▸hvx),hz1,?_⟩)
 refine cOv 0 (rn [(7,8),(48,83)]) (λg:Nat=>[(7,.c (wC g))]) (λ_=>aQb pre u post) (λg=>val u/val V.l<=g/\g<=val u/val V.l+1/\g<4294967296) ⟨?_,λdq ⟨hq1,hq2,hdb⟩=>?_⟩
 ·refine kQ (rn [(7,8),(48,83)]) (λg:Nat×Nat=>[(7,.c (wC g.1)),(8,.c (wC g.2))]) (λ_=>aQb pre u post) (λg=>Kn (val u) (val V.l) (un*4294967296+un1) v1 g.1 g.2/\g.2<4294967296) (λg=>g.1) ((un*4294967296+un1)/v1,(un*4294967296+un1)%v1) ?_
  refine⟨⟨⟨hK.start,rI (dM _ oM) bv1⟩,rfl,rfl,?_⟩,λ⟨dg,rs⟩ ⟨hKn,hrs⟩=>aA gT mxd ?_⟩
  ·show(_:Int).tmod (_:Int)=(_:Int)
   rfl
  simp only at hKn hrs
  have hle:=hKn.le
  have hmul:∀h:dg<4294967296,dg*v2<=18446744065119617025:=λh=>wP h bv2
  have hg:¬((dg/4294967296:Nat):Int)≠0->dg<4294967296:=λh=>by omega
  refine⟨.seq (aGc 0 23),by kernel_rfl,p32,_,wY dg,(n-2:Nat),λh=>i2,n-2,λh=>⟨rfl,hkn2⟩,(v2:Nat),λh=>w0e hv2 (hv2▸oM),(dg*v2:Nat),λh=>wm (by have:=hmul (hg h);omega),λh=>p32,_,λh=>aEp hrs,(n-2:Nat),λh=>i2,n-2,λh=>⟨rfl,by omega⟩,uC u2,λh=>aEs oM hu2,_,λh=>w0 (x:=u2) oM,_,λh=>aPt hrs bu2,⟨λhc=>aA gT mxd ?_,λhc=>aA gT mxd ?_⟩⟩
  ·have hcond:4294967296<=dg\/rs*4294967296+u2<dg*v2:=by
    rcases hc with h|h
    ·exact .inl oM
    replace h:((rs*4294967296+u2:Nat):Int)<((dg*v2:Nat):Int):=h
    exact .inr (Int.ofNat_lt.1 h)
   have hst:=hK.step hKn hcond
   have hge1:=hst.2
   refine⟨(dg-1:Nat),wu (h:=⟨by omega,by omega,by omega⟩),_,i1,n-1,⟨rfl,hkn1⟩,(v1:Nat),w0e hv1 (hv1▸hvx),(rs+v1:Nat),wa oM,p32,_,wY (rs+v1),⟨λhb=>aA gT mxd ?_,λhb=>aA gT mxd ?_⟩⟩
   ·have hb':=hK.brk hst.1 oM oM
    have hlt:=hK.lt
    exact⟨dg-1,⟨hst.1.ge,by omega,by omega⟩,rfl,rfl,rfl⟩
   exact⟨(dg-1,rs+v1),⟨⟨hst.1,by show rs+v1<_;omega⟩,by show dg-1<dg;omega⟩,rfl,rfl,rfl,rfl⟩
  have hd:dg<4294967296:=hg λh=>hc (.inl h)
  have h2:dg*v2<=rs*4294967296+u2:=by
   rcases eC (rs*4294967296+u2) (dg*v2) with h|h
   ·exact absurd (.inr (show((rs*4294967296+u2:Nat):Int)<((dg*v2:Nat):Int) from Int.ofNat_lt.2 h)) hc
   exact h
  exact⟨dg,⟨hKn.ge,hK.exit hKn hd h2,hd⟩,rfl,rfl,rfl⟩
 have hpos:=hK.pos
 clear hK
 refine aA gT mxd ?_
 refine kQ (rn [(9,13),(86,116)]) (λg:Nat×Nat×List Nat=>[(86,.c (iC g.1)),(9,.c (wC g.2.1))]) (λg=>aQb pre (g.2.2++u.drop g.1) post) (λg=>g.1<=n/\g.2.2.length=g.1/\Lm g.2.2/\g.2.1<4294967296/\val g.2.2+dq*val (V.l.take g.1)=val (u.take g.1)+4294967296^g.1*g.2.1) (λg=>n-g.1) (0,0,[]) ?_
 refine⟨⟨⟨aC _,rfl,Lm.nil,by decide,by simp[val]⟩,rfl,rfl,rfl⟩,λ⟨k,c,P⟩ ⟨hk,hP,hLm,hc,hms⟩=>aA gT mxd ⟨λh1=>aA gT mxd ?_,λh1=>aA gT mxd (aA gT mxd ?_)⟩⟩
 all_goals simp only at hk hP hLm hc hms
 ·have hkl:k<V.l.length:=by replace h1:(k:Int)<(V.l.length:Nat):=h1;omega
  have hku:k<u.length:=by omega
  have huk:=lmu.at (k:=k) oM
  have hvk:=lmy.at hkl
  have hmc:=aZg (u:=u.getD k default) hdb hvk hc huk
  have hlm2:=wP hdb hvk
  have hls:k<(P++u.drop k).length:=by rw[aE,cK];omega
  refine⟨k,⟨rfl,hkl⟩,_,w0 (x:=V.l.getD k default) oM,_,wm oM,((dq*V.l.getD k default+c:Nat):Int),wa oM,k,⟨rfl,by omega⟩,uC (u.getD k default),aEs hls (aCt hP).symm,_,w0 (x:=u.getD k default) oM,_,uJ _,_,w0 oM,_,wsb oM,_,uJ _,k,⟨rfl,by omega⟩,_,aJa hls (zP hP hku),p32,_,wY _,p63,_,bCn _,_,wa (by have:=hmc.2;omega),(k+1:Nat),wi,(k+1,(dq*V.l.getD k default+c)/4294967296+sb (u.getD k default) ((dq*V.l.getD k default+c)%4294967296)/9223372036854775808,P++[sb (u.getD k default) ((dq*V.l.getD k default+c)%4294967296)%4294967296]),⟨⟨by show k+1<=n;omega,by simp[hP],hLm.snoc (dM _ dC),hmc.2,?_⟩,by show n-(k+1)<n-k;omega⟩,rfl,rfl,rfl,rfl⟩
  show val (P++[_])+dq*val (V.l.take (k+1))=val (u.take (k+1))+_
  rw[dT (xs:=V.l) hkl,dT (xs:=u) hku];exact bKf hP hms huk
 subst hn
 obtain rfl:k=V.l.length:=by replace h1:¬(k:Int)<(V.l.length:Nat):=h1;omega
 have hsl:=aOx bun hc
 have hms2:val P+dq*val V.l=val (u.take V.l.length)+4294967296^V.l.length*c:=by
  rw[cB (aI _)] at hms;exact hms
 have huv:val u=val (u.take V.l.length)+4294967296^V.l.length*un:=by
  have h9:=dT (xs:=u) (k:=V.l.length) oM
  rw[cB oM] at h9
  rw[hun];exact h9
 have hls:V.l.length<(P++u.drop V.l.length).length:=by rw[aE,cK];omega
 have hl1:(P++u.drop V.l.length).set V.l.length (sb un c%4294967296)=P++[sb un c%4294967296]:=by
  rw[zP hP oM,cH oM,dG]
 have hL1:=hLm.snoc (x:=sb un c%4294967296) (dM _ dC)
 refine⟨V.l.length,⟨rfl,bF _⟩,uC un,aEs hls (by rw[aCt hP,<-hun]),_,w0 (x:=un) oM,(sb un c:Nat),wsb oM,_,uJ _,V.l.length,⟨rfl,bF _⟩,_,aJa hls hl1,p63,_,bCn _,⟨λhd=>aA gT mxd ?_,λhd=>aA gT mxd ?_⟩⟩
 ·have hd0:sb un c/9223372036854775808=0:=by replace hd:((sb un c/9223372036854775808:Nat):Int)=0:=hd;omega
  have hok:=cEz hpos hms2 huv (hsl.2.2.1 hd0) hq1
  have hsb2:sb un c%4294967296=un-c:=by have:=hsl.1;omega
  refine⟨_,bMd hdb,P++[sb un c%4294967296],⟨by simp[hP],hL1,?_⟩,kG ?_ rfl trivial bL aIx rfl aCw⟩
  ·rw[kD,hP,hsb2,<-hok.2]
  show(_:Int)=(_:Int)
  rw[hok.1]
 have hd0:sb un c/9223372036854775808≠0:=by replace hd:¬((sb un c/9223372036854775808:Nat):Int)=0:=hd;omega
 have hcu:¬c<=un:=λh=>hd0 (hsl.2.2.2 h)
 have hPlt:=jL hLm
 rw[hP] at hPlt
 have hbk:=bKg hpos hms2 huv oM hq2 hPlt (jL lmy)
 have hdq1:0<dq:=by rw[hbk.1];exact Nat.succ_pos _
 have hdd:sb un c%4294967296+1=4294967296:=by have:=hsl.1;have:=hsl.2.1;have:=hbk.2.1;omega
 refine kQ (rn [(9,9),(15,16),(136,158)]) (λg:Nat×Nat×List Nat=>[(136,.c (iC g.1)),(9,.c (wC g.2.1))]) (λg=>aQb pre (g.2.2++(P++[sb un c%4294967296]).drop g.1) post) (λg=>g.1<=V.l.length/\g.2.2.length=g.1/\Lm g.2.2/\g.2.1<=1/\val g.2.2+4294967296^g.1*g.2.1=val (P.take g.1)+val (V.l.take g.1)) (λg=>V.l.length-g.1) (0,0,[]) ?_
 refine⟨⟨⟨aC _,rfl,Lm.nil,by decide,by simp[val]⟩,rfl,rfl,rfl⟩,λ⟨k,c2,P2⟩ ⟨hk2,hP2,hP2m,hc2,hbs⟩=>aA gT mxd ⟨λh2=>aA gT mxd ?_,λh2=>aA gT mxd (aA gT mxd ?_)⟩⟩
 all_goals simp only at hk2 hP2 hP2m hc2 hbs
 ·have hkl:k<V.l.length:=by replace h2:(k:Int)<(V.l.length:Nat):=h2;omega
  have hvk:=lmy.at hkl
  have hpk:=hLm.at (k:=k) oM
  have hkL:k<(P++[sb un c%4294967296]).length:=by simp;omega
  have hls2:k<(P2++(P++[sb un c%4294967296]).drop k).length:=by rw[aE,cK];omega
  have hgk:P.getD k default=(P2++(P++[sb un c%4294967296]).drop k).getD k default:=by
   rw[aCt hP2,aD,aD,bA oM]
  refine⟨k,⟨rfl,hkl⟩,k,⟨rfl,by omega⟩,uC (P.getD k default),aEs hls2 hgk,_,w0 (x:=P.getD k default) oM,_,w0 (x:=V.l.getD k default) oM,_,wa oM,((c2+(P.getD k default+V.l.getD k default):Nat):Int),wa oM,_,uJ _,k,⟨rfl,by omega⟩,_,aJa hls2 (zP hP2 hkL),p32,_,wY _,(k+1:Nat),wi,(k+1,(c2+(P.getD k default+V.l.getD k default))/4294967296,P2++[(c2+(P.getD k default+V.l.getD k default))%4294967296]),⟨⟨hkl,by simp[hP2],hP2m.snoc (dM _ dC),by show _/_<=1;omega,?_⟩,by show _-(k+1)<_-k;omega⟩,rfl,rfl,rfl,rfl⟩
  show val (P2++[_])+_=val (P.take (k+1))+val (V.l.take (k+1))
  rw[dT (xs:=V.l) hkl,dT (xs:=P) oM];exact aXa hP2 hbs
 obtain rfl:k=V.l.length:=by replace h2:¬(k:Int)<(V.l.length:Nat):=h2;omega
 rw[cB oM,cB (aI _)] at hbs
 have hbf:=aZh hP2 hP2m hbs hbk.2.2 (rI (dM _ hpos) (jL lmy))
 have hkL:V.l.length<(P++[sb un c%4294967296]).length:=by simp;omega
 have hls2:V.l.length<(P2++(P++[sb un c%4294967296]).drop V.l.length).length:=by rw[aE,cK];omega
 have hl0:(P2++(P++[sb un c%4294967296]).drop V.l.length).set V.l.length 0=P2++[0]:=by
  rw[zP hP2 hkL,cH (by simp;omega),dG]
 refine⟨V.l.length,⟨rfl,bF _⟩,uC (sb un c%4294967296),aEs hls2 (bCs hP2 hP rfl).symm,((1:Nat):Int),c32 (z:=c2) hbf.1.symm dC,((0:Nat):Int),aXw hdd,V.l.length,⟨rfl,bF _⟩,_,aJa hls2 hl0,(dq-1:Nat),wu (h:=⟨by omega,by omega,by omega⟩),_,bMd (z:=dq-1) oM,P2++[0],⟨by simp[hP2],hP2m.snoc dC,?_⟩,kG ?_ rfl trivial bL aIx rfl aCw⟩
 ·rw[kD,hbf.2];simp
 show(_:Int)=(_:Int)
 rw[hbk.1,fG]
section bits
open Go.RowKit Go.Shelf
def rho:Ren:=⟨λn=>if n=128 then 250 else if n=133 then 253 else 0,λn=>if n=3 then 3 else if n=4 then 4 else if n=5 then 5 else if n=9 then 9 else if n=46 then 223 else if n=51 then 123 else 0,λx=>x⟩
theorem bMf:Lays.n133 Tryz.prog rho:=by
 constructor<;>first|kernel_rfl|(intro w;kernel_rfl)
theorem aUe:∀(f x:Nat),x<2^f->f<=64->x≠0->1<=Lib.bitLen x/\2^(Lib.bitLen x-1)<=x/\x<2^Lib.bitLen x
 |0,x,h,_,h0=>by simp at h;exact absurd h h0
 |f+1,x,h,hf,h0=>by
  have h64:x<2^64:=bN h (eI dC hf)
  rw[Lib.bitLen_half x h0 h64]
  by_cases h1:x/2=0
  ·have hx1:x=1:=by omega
   subst hx1
   decide
  have h2:x/2<2^f:=by rw[eD] at h;omega
  obtain⟨g1,g2,g3⟩:=aUe f (x/2) h2 oM h1
  refine⟨by omega,?_,?_⟩
  ·have e:2^(1+Lib.bitLen (x/2)-1)=2^(Lib.bitLen (x/2)-1)*2:=by rw[<-eD];congr 1;omega
   rw[e];omega
  rw[gP,eD];omega
theorem aXx {x:Nat} (w:World) (h0:x≠0) (hx:x<4294967296):Calls Tryz.prog 253 #[.int .u32 (x:Int)] w λe w'=>∃v,e= .returned v/\(∃s:Nat,v= .int .i64 (s:Int)/\s<=31/\2147483648<=x*2^s/\x*2^s<4294967296)/\w=w':=by
 refine(Any.bits_LeadingZeros32 bMf (x:Int) w oM oM).mono ?_
 rintro e w' ⟨rfl,rfl⟩
 obtain⟨g1,g2,g3⟩:=aUe 32 x hx dC h0
 rw[cL]
 have hb:Lib.bitLen x<=32:=by
  have h:2^(Lib.bitLen x-1)<2^32:=eZ g2 hx
  have:=(Nat.pow_lt_pow_iff_right dC).1 h
  omega
 refine⟨_,rfl,⟨32-Lib.bitLen x,by congr 1;omega,by omega,?_,?_⟩,rfl⟩
 ·have e:(2147483648:Nat)=2^(Lib.bitLen x-1)*2^(32-Lib.bitLen x):=by rw[<-iK,show Lib.bitLen x-1+(32-Lib.bitLen x)=31 by omega]
  rw[e];exact aZ _ g2
 have e:(4294967296:Nat)=2^Lib.bitLen x*2^(32-Lib.bitLen x):=by rw[<-iK,show Lib.bitLen x+(32-Lib.bitLen x)=32 by omega]
 rw[e];exact jB g3 (gV dC)
end bits
abbrev cGh:FuncId:=253
theorem cPl:Ent Tryz.prog cGh:=aU func253 rfl kR
theorem bRb {x:Nat} (h0:x≠0) (hx:x<4294967296):Ctr Tryz.prog cGh [] [.c (uC x)] [] (λs:Nat=>⟨.c (iC s),[],s<=31/\2147483648<=x*2^s/\x*2^s<4294967296⟩):=by
 refine⟨cPl,aS,λρ w vals hv hD hF=>?_⟩
 match vals,hv with
 |[v1],⟨h2,_⟩=>
  have e1:=h2.inv_c.inv_v
  subst e1
  exact(aXx w h0 hx).mono λe w' ⟨v,he,⟨s,hv,hs⟩,hw⟩=>⟨v,he,s,ρ,hs,hD.ext (hw▸Ext.refl w),by rw[hv];exact .c (Rc.v _),aS,hF⟩
theorem bCt {ρ:Pl} {w w':World} {v:Value} {z:Int} (hD:DnW ρ w 0 [] ρ w) (hF:ρ.F=[]) (he:Ext w w') (h:v= .int .i64 z):
 ∃(g:Unit) (ρ':Pl),((λ_:Unit=>(⟨.c (iC z),[],True⟩:Out)) g).F.C/\DnW ρ w 0 ((λ_:Unit=>(⟨.c (iC z),[],True⟩:Out)) g).F.bl ρ' w'/\Hd ρ' 0 w' ((λ_:Unit=>(⟨.c (iC z),[],True⟩:Out)) g).F.d v/\ClB [] ((λ_:Unit=>(⟨.c (iC z),[],True⟩:Out)) g).F.bl/\ρ'.F=((λ_:Unit=>(⟨.c (iC z),[],True⟩:Out)) g).F.fl:=by
 subst h
 exact⟨(),ρ,trivial,hD.ext he,.c (Rc.v _),aS,hF⟩
theorem bMg {U V L:List Nat} {A:Option Addr} {c j m n:Nat} (hV:V.length=n) (hL:∀i,i<n->L.getD i default=V.getD i default) (hm:m=n+1) (hj:j+(n+1)<=U.length) (lU:Lm U) (lV:Lm V) (hn2:2<=n) (hnb:n<=35184372088832) (htop:2147483648<=V.getD (n-1) default) (hq:val ((U.drop j).take (n+1))<val V*4294967296):
 CtrF Tryz.prog aJb [true] [.c (.t 0 (j*1) m),.c (.r A n c 1 (λi=>[uC (L.getD i default)]))] (uZ U) [] (λmid:List Nat=>⟨.c (uC (val ((U.drop j).take (n+1))/val V)),uZ (U.take j++mid++U.drop (j+(n+1))),[],mid.length=n+1/\Lm mid/\val mid=val ((U.drop j).take (n+1))%val V⟩):=by
 subst hV hm
 have e:U.take j++(U.drop j).take (V.length+1)++U.drop (j+(V.length+1))=U:=by rw[cU,<-sH,dR,dR]
 have hl:(U.take j).length=j:=by rw[bE];omega
 have h:=bMe (U.take j) ((U.drop j).take (V.length+1)) (U.drop (j+(V.length+1))) ⟨A,c,V⟩ (by show _=V.length+1;simp;omega) ((lU.drop _).take _) lV hn2 hnb htop hq
 rw[hl] at h
 simp only[aQb,e] at h
 exact h.arg λρ n w=>HL.cons (λv hv=>hv) (HL.cons (λv hv=> .c (LeC.get (λi hi=>by rw[hL i hi]) ρ n w v hv.inv_c)) λvl h=>h)
abbrev dlB (u q:List Nat):BL:=[(123,1,u.map uC),(123,1,q.map uC)]
theorem cPm {u:List Nat} {m:Nat}:[((123,1,u.map uC):TypeId×Nat×List CV),(123,1,List.replicate m (.v (.int .u32 0)))]=dlB u (List.replicate m 0):=congrArg (λl=>[((123,1,u.map uC):TypeId×Nat×List CV),(123,1,l)]) (yB m)
abbrev aQc:FuncId:=241
theorem bVo:Ent Tryz.prog aQc:=aU func241 rfl kR
theorem bVp:Tryz.prog.funcs[aQc]? =some Tryz.f241:=func241
theorem bMh (x y:Sl Nat) (hx:Lm x.l) (hy:Lm y.l) (hn:x.l.length<=17592186044416) (hn2:2<=y.l.length) (htz:y.l.getD (y.l.length-1) default≠0) (hyx:y.l.length<=x.l.length):Ctr Tryz.prog aQc [] [.c (eK x),.c (eK y)] [] (λg:Sl Nat×Sl Nat=>⟨.t [.c (eK g.1),.c (eK g.2)],[],g.1.l=dE (val x.l/val y.l)/\g.2.l=dE (val x.l%val y.l)⟩):=by
 have htl:=hy.at (k:=y.l.length-1) oM
 refine aW gT bVo bVp rfl rfl rfl bL aS (aA gT mxd ⟨(y.l.length-1:Nat),wi (h:=⟨by omega,by omega,by omega⟩),y.l.length-1,⟨rfl,by omega⟩,[],bRb htz htl,rfl,rfl,rfl,λsh ⟨hs,hz1,hz2⟩=>?_⟩)
 refine⟨[],aQa y (sh:=sh) hy oM hs,rfl,rfl,rfl,λv ⟨hvl,hvm,hvv⟩=>⟨y.l.length,⟨rfl,by omega⟩,[],aEr x (sh:=sh) hx hn hs,rfl,rfl,rfl,λL ⟨hLl,hLm,hLv⟩=>?_⟩⟩
 have hVb:=aZn hy hs hn2 rfl rfl hz1 hz2
 have hLvv:val (v.l.take y.l.length)=val y.l*2^sh:=by rw[aMb oM (by rw[hvv];exact hVb.2)];exact hvv
 have lmv:=hvm.take y.l.length
 obtain⟨Lv,hLv'⟩:∃l,l=v.l.take y.l.length:=⟨_,rfl⟩
 rw[<-hLv'] at hLvv lmv
 have hLvl:Lv.length=y.l.length:=by rw[hLv',bE];omega
 rw[<-hLvv] at hVb
 have htopv:=bKl (n:=y.l.length) oM hLvl lmv hVb.1
 have hget:∀i,i<y.l.length->v.l.getD i default=Lv.getD i default:=λi hi=>by
  rw[hLv',gd oM,gd (by rw[bE];omega),List.getElem_take]
 obtain⟨dg,hdg⟩:∃d,d+y.l.length=x.l.length+1:=⟨x.l.length+1-y.l.length,by omega⟩
 have hVp:0<val Lv:=bN (jG dC (gV dC)) hVb.1
 refine⟨(dg:Nat),wi (h:=⟨by show(dg:Int)=((x.l.length+1:Nat):Int)-((y.l.length:Nat):Int);omega,by show _<=((x.l.length+1:Nat):Int)-((y.l.length:Nat):Int);omega,by show((x.l.length+1:Nat):Int)-((y.l.length:Nat):Int)<=_;omega⟩),dg,⟨rfl,rfl,show 4*dg<=_ by omega,by simp only[maxLen];omega⟩,?_⟩
 refine kQ (rn [(11,12),(36,55)]) (λg:Nat×List Nat×List Nat=>[(36,.c (iC g.1))]) (λg=>dlB g.2.1 (List.replicate (dg-g.1) 0++g.2.2)) (λg=>g.1<=dg/\g.2.1.length=x.l.length+1/\Lm g.2.1/\g.2.2.length=g.1/\Lm g.2.2/\val x.l*2^sh=val g.2.1+val Lv*(4294967296^(dg-g.1)*val g.2.2)/\val (g.2.1.drop (dg-g.1))<val Lv) (λg=>dg-g.1) (0,L,[]) ?_
 refine⟨⟨⟨aC _,hLl,hLm,rfl,Lm.nil,by rw[hLv];simp[val],?_⟩,?_,rfl⟩,λ⟨k,u,Q⟩ ⟨hk,hul,lmu,hQl,hQm,hinv,hrem⟩=>aA gT mxd ⟨λh1=>aA gT mxd ?_,λh1=>aA gT mxd ?_⟩⟩
 ·show val (L.drop (dg-0))<_
  rw[Nat.sub_zero,show dg=x.l.length+1-y.l.length by omega]
  exact aOy hLl hLm hLv (jL hx) hs hyx oM hVb.1
 ·exact cPm.trans (congrArg (dlB L) (dG _).symm)
 all_goals simp only at hk hul lmu hQl hQm hinv hrem
 ·replace h1:(k:Int)<(dg:Nat):=h1
  obtain⟨j,hj⟩:∃j,dg-k=j+1:=⟨dg-k-1,by omega⟩
  have hj1:dg-(k+1)=j:=by omega
  rw[hj] at hinv hrem
  have hwin:=aZl lmu oM hVb.2 hrem
  have hfl:j<(List.replicate (dg-k) 0++Q).length:=by simp;omega
  have hz:(List.replicate (dg-k) 0++Q).set j (val ((u.drop j).take (y.l.length+1))/val Lv)=List.replicate j 0++(val ((u.drop j).take (y.l.length+1))/val Lv::Q):=by rw[hj];exact cFa
  refine⟨(dg:Int)-1,wi,(j:Nat),wi (h:=⟨by omega,by omega,by omega⟩),(j+y.l.length:Nat),wi,(j+y.l.length+1:Nat),wi,j,j+y.l.length+1,⟨⟨rfl,rfl⟩,by omega,by show _<=x.l.length+1;omega,by show(x.l.length+1)*1<=(u.map uC).length;rw[aN];omega⟩,[0],bMg (U:=u) (V:=Lv) (L:=v.l) (A:=v.A) (c:=v.c) (n:=y.l.length) hLvl hget oM oM lmu lmv hn2 oM htopv hwin.1,rfl,rfl,rfl,λmid ⟨hml,lmm,hmv⟩=>?_⟩
  have hnx:=aXe (u:=u) (mid:=mid) (Q:=Q) (j:=j) (n:=y.l.length) (A:=val x.l*2^sh) oM hml hwin.2 rfl hmv hVp hinv
  have hql:val ((u.drop j).take (y.l.length+1))/val Lv<4294967296:=(gK hVp).2 (by rw[bO];exact hwin.1)
  refine⟨j,⟨rfl,by show j<dg;omega,wZ hfl⟩,_,tQ hfl hz,(k+1:Nat),wi,(k+1,u.take j++mid++u.drop (j+(y.l.length+1)),val ((u.drop j).take (y.l.length+1))/val Lv::Q),⟨⟨by show k+1<=dg;omega,hnx.2.2.trans hul,((lmu.take _).append lmm).append (lmu.drop _),by show(_::Q).length=k+1;rw[eF,hQl],λz hz=>?_,?_,?_⟩,by show dg-(k+1)<dg-k;omega⟩,rfl,?_,rfl⟩
  ·rcases bZ.1 hz with rfl|hz
   ·exact hql
   exact hQm z hz
  ·show _=_+val Lv*(4294967296^(dg-(k+1))*_)
   rw[hj1];exact hnx.1
  ·show val (List.drop (dg-(k+1)) _)<_
   rw[hj1];exact hnx.2.1
  exact congrArg (λi=>dlB (u.take j++mid++u.drop (j+(y.l.length+1))) (List.replicate i 0++(val ((u.drop j).take (y.l.length+1))/val Lv::Q))) hj1.symm
 replace h1:¬(k:Int)<(dg:Nat):=h1
 have hk0:dg-k=0:=by omega
 rw[hk0,rJ,iT] at hinv
 rw[hk0,lW] at hrem
 have hfin:=aZm (a:=val x.l) (b:=val y.l) (s:=sh) rfl hLvv hinv hrem
 have hut:val (u.take y.l.length)=val u:=aMb oM (rI hrem hVb.2)
 have hQd:dg=Q.length:=by omega
 have hrq:List.replicate (dg-k) 0++Q=Q:=by rw[hk0];rfl
 obtain⟨ut,hut'⟩:∃l,l=u.take y.l.length:=⟨_,rfl⟩
 have htk:ut.map uC=(u.map uC).take y.l.length:=by rw[hut',tX]
 have htn:y.l.length=ut.length:=by rw[hut',bE];omega
 have htm:Lm ut:=by rw[hut'];exact lmu.take _
 rw[<-hut'] at hut
 clear hut'
 show Sd _ _ _ _ _ _
 refine cFk tSd 0 y.l.length rfl bL ?_
 rw[<-htk,hrq]
 obtain⟨o1,o2,o3⟩:=vE htn htm
 obtain⟨q1,q2,q3⟩:=vE hQd hQm
 refine aA gT mxd ⟨y.l.length,⟨rfl,Nat.le_of_eq o1⟩,some (λj=>[uC (ut.getD j default)]),⟨⟨aC _,dN⟩,o1,o2,o3⟩,λAA cc _ _=>?_⟩
 rw[htn]
 refine⟨aAf Q,[],bVk ⟨AA,cc,ut⟩ (sh:=sh) htm (by show ut.length<=_;omega) hs,rfl,rfl,rfl,λr hr=>⟨some (λj=>[uC (Q.getD j default)]),⟨⟨aC _,dN⟩,q1,q2,q3⟩,λA2 c2 _ _=>?_⟩⟩
 rw[hQd]
 refine⟨aAf [],[],jX ⟨A2,c2,Q⟩ hQm (by show Q.length<=_;omega),rfl,rfl,rfl,λq hq=>⟨(q,r),⟨?_,?_⟩,aM ⟨rfl,rfl⟩ rfl trivial⟩⟩
 ·show q.l=_
  rw[<-hfin.1];exact hq
 show r.l=_
 rw[<-hfin.2,<-hut];exact hr
theorem aUf {n:Nat} {l:List Nat} (e:l=dE n) (h:l.length=1):l.getD 0 default=n/\n<4294967296:=by
 subst e
 have e:=zL n
 have hl:=aHs n
 generalize dE n=l at*
 match l,h with
 |[d],_=>
  have:=hl d (by simp)
  simp[val] at e
  exact⟨by simp[e],by omega⟩
theorem bCu {n:Nat} {l:List Nat} (e:l=dE n) (h:0<l.length):l.getD (l.length-1) default≠0:=by
 subst e;exact(bKb n).resolve_left oM
abbrev bVq:FuncId:=218
theorem cPn:Ent Tryz.prog bVq:=aU func218 rfl kR
theorem cPo:Tryz.prog.funcs[bVq]? =some Tryz.f218:=func218
theorem bCv (x y:Sl Nat) (hx:Lm x.l) (hy:Lm y.l) (hn:x.l.length<=17592186044416) (hm:y.l.length<=17592186044416):Ctr Tryz.prog bVq [] [.c (eK x),.c (eK y)] [] (λg:Sl Nat×Sl Nat=>⟨.t [.c (eK g.1),.c (eK g.2),pC (val y.l≠0)],[],g.1.l=dE (val x.l/val y.l)/\g.2.l=dE (aFx (val x.l) (val y.l))⟩):=by
 refine aW gT cPn cPo rfl rfl rfl bL aS (aA gT mxd ⟨[],jX x hx oM,rfl,rfl,rfl,λX hX=>⟨[],jX y hy oM,rfl,rfl,rfl,λY hY=>?_⟩⟩)
 obtain⟨a,ha⟩:∃a,a=val x.l:=⟨_,rfl⟩
 obtain⟨b,hb⟩:∃b,b=val y.l:=⟨_,rfl⟩
 have hXn:=dY hx
 have hYn:=dY hy
 replace hX:X.l=dE (val x.l):=hX
 replace hY:Y.l=dE (val y.l):=hY
 simp only[<-ha,<-hb] at*
 obtain⟨lX,vX⟩:=dg hX
 obtain⟨lY,vY⟩:=dg hY
 unfold len at hXn hYn
 rw[<-hX] at hXn
 rw[<-hY] at hYn
 have hlb:=nQ (n:=b)
 unfold len at hlb
 rw[<-hY] at hlb
 refine⟨λh=>aA gT mxd ?_,λh=>aA gT mxd ?_⟩
 ·have hy0:b=0:=hlb.1 (by replace h:((Y.l.length:Nat):Int)=0:=h;omega)
  subst hy0
  refine⟨(cP,cP),⟨?_,?_⟩,aM ⟨⟨rfl,rfl,rfl⟩,⟨rfl,rfl,rfl⟩,ff λh=>h rfl⟩ rfl trivial⟩
  ·show []=dE _
   rw[Nat.div_zero];rfl
  show []=dE _
  rfl
 have hy0:b≠0:=λh0=>h (by show((Y.l.length:Nat):Int)=0;have:=hlb.2 h0;omega)
 have hmz:aFx a b=a%b:=if_neg hy0
 have hlab:b<=a->Y.l.length<=X.l.length:=λh=>by rw[hX,hY];exact fY h
 refine⟨[],uY X Y lX lY oM oM,rfl,rfl,rfl,λ_ _=>⟨λh=>aA gT mxd ?_,λh=>aA gT mxd ?_⟩⟩
 ·have hlt:a<b:=by have:=qD.1 h;omega
  refine⟨[],aAi X lX oM,rfl,rfl,rfl,λr hr=>⟨(cP,r),⟨?_,?_⟩,aM ⟨⟨rfl,rfl,rfl⟩,rfl,tt hy0⟩ rfl trivial⟩⟩
  ·show []=dE _
   rw[gW hlt];rfl
  show r.l=_
  rw[hmz,cS hlt,<-vX];exact hr
 have hge:b<=a:=by
  rcases eC a b with h'|h'
  ·exact absurd (qD.2 oM) h
  exact h'
 have hlen:=hlab hge
 refine⟨λh=>aA gT mxd ?_,λh=>aA gT mxd ?_⟩
 ·replace h:((X.l.length:Nat):Int)<=2:=h
  have hx64:a<18446744073709551616:=by rw[<-vX];exact aGr lX oM
  have hd:=iL a b
  have hd2:=Nat.mod_le a b
  have hnz:(b:Int)≠0:=by omega
  refine⟨[],aAh X lX oM,rfl,rfl,rfl,λ_ _=>⟨[],aAh Y lY oM,rfl,rfl,rfl,λ_ _=>?_⟩⟩
  rw[vX,vY]
  refine⟨.seq [(0,false),(1,false),(2,false),(4,false),(5,false),(6,false),(3,false),(7,false),(8,false),(9,false),(10,false)],by kernel_rfl,hnz,_,aPz hx64,hnz,[],nT oM,rfl,rfl,rfl,λg1 h1=>⟨[],nT (n:=a%b) oM,rfl,rfl,rfl,λg2 h2=>⟨(g1,g2),⟨h1,by rw[hmz];exact h2⟩,aM ⟨rfl,rfl,tt hy0⟩ rfl trivial⟩⟩⟩
 replace h:¬((X.l.length:Nat):Int)<=2:=h
 refine⟨λh1=>aA gT mxd ?_,λh1=>aA gT mxd ?_⟩
 ·replace h1:((Y.l.length:Nat):Int)=1:=h1
  obtain⟨o1,o2⟩:=aUf hY oM
  refine⟨0,⟨rfl,by omega⟩,[],bVl (d:=Y.l.getD 0 default) X lX oM oM oM,rfl,rfl,rfl,λg ⟨h1,h2⟩=>⟨g,⟨?_,?_⟩,aM ⟨rfl,rfl,tt hy0⟩ rfl trivial⟩⟩
  ·rw[<-vX,<-o1];exact h1
  rw[hmz,<-vX,<-o1];exact h2
 replace h1:¬((Y.l.length:Nat):Int)=1:=h1
 have hy1:0<Y.l.length:=by rcases cE Y.l.length with h|h;exact absurd (hlb.1 h) hy0;exact h
 refine⟨[],bMh X Y lX lY oM oM (bCu hY hy1) hlen,rfl,rfl,rfl,λg ⟨h1,h2⟩=>⟨g,⟨?_,?_⟩,aM ⟨rfl,rfl,tt hy0⟩ rfl trivial⟩⟩
 ·rw[<-vX,<-vY];exact h1
 rw[hmz,<-vX,<-vY];exact h2
abbrev cGi (x:Sl Nat):BL:=[(58,0,[eK x])]
abbrev aQd:FuncId:=264
theorem bVr:Ent Tryz.prog aQd:=aU func264 rfl kR
theorem bVs:Tryz.prog.funcs[aQd]? =some Tryz.f264:=func264
theorem aJc (x:Sl Nat) {i:Nat} (hx:Lm x.l) (hi:i<=9223372036854775807):Ctr Tryz.prog aQd [true] [.c (iC i),.c (.p 0 0)] (cGi x) (λ_:Unit=>⟨.c (wC (dig x.l i)),cGi x,True⟩):=by
 refine aW gT bVr bVs rfl rfl rfl bL (eW rfl) (aA gT mxd ⟨λh=>aA gT mxd ?_,λh=>aA gT mxd ?_⟩)
 ·replace h:(i:Int)<(x.l.length:Nat):=h
  refine⟨i,⟨rfl,oM⟩,_,w0 (x:=x.l.getD i default) (by have:=hx.at (k:=i) oM;omega),(),trivial,aM ?_ rfl ⟨⟨rfl,rfl,rfl,rfl⟩,trivial⟩⟩
  show(_:Int)=(_:Int)
  rw[sY oM]
 replace h:¬(i:Int)<(x.l.length:Nat):=h
 refine⟨(),trivial,aM ?_ rfl ⟨⟨rfl,rfl,rfl,rfl⟩,trivial⟩⟩
 show(0:Int)=(_:Int)
 rw[yO oM];rfl
theorem orW {c x s:Nat} (hc:c<2^s) (hb:x*2^s+c<18446744073709551616):((x*2^s+c:Nat):Int)=IntKind.u64.wrap ((BitVec.ofInt IntKind.u64.bits ((x*2^s:Nat):Int)|||BitVec.ofInt IntKind.u64.bits (c:Int)).toNat:Int):=cGb (by rw[Nat.or_comm,aZj hc,gP]) oM oM hb
abbrev bCw:FuncId:=254
theorem cGj:Ent Tryz.prog bCw:=aU func254 rfl kR
theorem cGk:Tryz.prog.funcs[bCw]? =some Tryz.f254:=func254
theorem bCx (x:Sl Nat) {n sh:Nat} (hx:Lm x.l) (hs:sh<=31) (hn3:3<=n) (hln:x.l.length<=n) (hnb:n<=35184372088832) (htop:dig x.l (n-1)*2^sh<4294967296):Ctr Tryz.prog bCw [] [.c (eK x),.c (iC n),.c (iC sh)] [] (λ_:Unit=>⟨.c (wC (val x.l/(4294967296^(n-3)*2^(32-sh)))),[],val x.l/(4294967296^(n-3)*2^(32-sh))<18446744073709551616⟩):=by
 have hd1:=tN hx (n-1)
 have hd2:=tN hx (n-2)
 have hd3:=tN hx (n-3)
 have hfit:=bKn hs htop hd2 hd3
 have hwin:=bKm hx hn3 hln hs
 refine aW gT cGj cGk rfl rfl rfl bL aS (aA gT mxd ⟨.seq [(0,false),(1,false),(2,false),(5,false),(6,false),(7,false),(10,false),(12,false),(13,false),(14,false),(16,false),(17,false),(3,true),(4,false),(8,true),(9,false),(11,false),(15,true),(18,false),(19,false),(20,false)],by kernel_rfl,(n-1:Nat),wi (h:=⟨by omega,by omega,by omega⟩),(n-2:Nat),wi (h:=⟨by omega,by omega,by omega⟩),(n-3:Nat),wi (h:=⟨by omega,by omega,by omega⟩),(32-sh:Nat),wi (h:=⟨by omega,by omega,by omega⟩),_,rfl,[0],aJc x hx oM,rfl,rfl,rfl,λ_ _=>⟨p32,_,aEp hd1,_,rfl,[0],aJc x hx oM,rfl,rfl,rfl,λ_ _=>⟨_,aPt hd1 hd2,nn,_,cGa oM hfit.2.1,_,rfl,[0],aJc x hx oM,rfl,rfl,rfl,λ_ _=>⟨nn,_,cGc oM,_,orW hfit.2.2 hfit.1,(),by rw[hwin];exact hfit.1,aM ?_ rfl trivial⟩⟩⟩⟩)
 show(_:Int)=(_:Int)
 rw[hwin]
def cPp:List CV:=[.v (.int .u64 0),.v (.int .u64 0),.v (.int .u64 0),.v (.int .u64 0),.b (false=true) inferInstance]
structure Cof where
 a0:Nat
 a1:Nat
 b0:Nat
 b1:Nat
 e:Bool
noncomputable def Cof.C (q:Cof):List CV:=[wC q.a0,wC q.a1,wC q.b0,wC q.b1,.b (q.e=true) (Classical.propDecidable _)]
structure CofOk (q:Cof) (A B:Nat):Prop where
 l0:q.a0<18446744073709551616
 l1:q.a1<18446744073709551616
 l2:q.b0<18446744073709551616
 l3:q.b1<18446744073709551616
 f:q.b0≠0->(q.e=true->q.b0*B<=q.a0*A/\q.a1*A<=q.b1*B/\Nat.gcd (q.a0*A-q.b0*B) (q.b1*B-q.a1*A)=Nat.gcd A B/\q.b1*B-q.a1*A<q.a0*A-q.b0*B/\q.a0*A-q.b0*B<=B)/\
  (q.e=false->q.a0*A<=q.b0*B/\q.b1*B<=q.a1*A/\Nat.gcd (q.b0*B-q.a0*A) (q.a1*A-q.b1*B)=Nat.gcd A B/\q.a1*A-q.b1*B<q.b0*B-q.a0*A/\q.b0*B-q.a0*A<=B)
noncomputable abbrev leG (p r u0 u1 u2 v0 v1 v2:Nat) (e:Bool):List (Nat×DV):=[(15,pC (e=true)),(14,.c (wC v2)),(13,.c (wC v1)),(12,.c (wC v0)),(11,.c (wC u2)),(10,.c (wC u1)),(9,.c (wC u0)),(8,.c (wC r)),(7,.c (wC p))]
structure LeI (A B h X Y p r u0 u1 u2 v0 v1 v2:Nat) (e:Bool):Prop where
 L:Leh A B h X Y p r u0 u1 u2 v0 v1 v2 e
 p:p<18446744073709551616
 a:u0<18446744073709551616
 b:u1<18446744073709551616
 c:u2<18446744073709551616
 d:v0<18446744073709551616
 f:v1<18446744073709551616
 g:v2<18446744073709551616
structure LeS where
 p:Nat
 r:Nat
 u0:Nat
 u1:Nat
 u2:Nat
 v0:Nat
 v1:Nat
 v2:Nat
 e:Bool
abbrev aQe:FuncId:=238
theorem bVt:Ent Tryz.prog aQe:=aU func238 rfl kR
theorem bVu:Tryz.prog.funcs[aQe]? =some Tryz.f238:=func238
theorem bMi (x y:Sl Nat) (hx:Lm x.l) (hy:Lm y.l) (hn:x.l.length<=35184372088832) (hl3:3<=x.l.length) (htz:x.l.getD (x.l.length-1) default≠0) (hyx:y.l.length<=x.l.length) (hle:val y.l<=val x.l):Ctr Tryz.prog aQe [] [.c (eK x),.c (eK y)] [] (λq:Cof=>⟨.a q.C,[],CofOk q (val x.l) (val y.l)⟩):=by
 have htl:=hx.at (k:=x.l.length-1) oM
 refine aW gT bVt bVu rfl rfl rfl bL aS (aA gT mxd ⟨(x.l.length-1:Nat),wi (h:=⟨by omega,by omega,by omega⟩),x.l.length-1,⟨rfl,by omega⟩,[],bRb htz htl,rfl,rfl,rfl,λsh ⟨hs,hz1,hz2⟩=>?_⟩)
 have htx:dig x.l (x.l.length-1)*2^sh<4294967296:=by rw[sY oM];exact hz2
 have hty:dig y.l (x.l.length-1)*2^sh<4294967296:=eZ (aZ _ (aZp hx hy oM (aI _) hyx hle)) htx
 obtain⟨H,hH⟩:∃z,z=4294967296^(x.l.length-3)*2^(32-sh):=⟨_,rfl⟩
 have hhp:0<H:=by rw[hH];exact jG (gV dC) (gV dC)
 have c1:=bCx x hx hs hl3 (aI _) hn htx
 have c2:=bCx y hy hs hl3 hyx hn hty
 rw[<-hH] at c1 c2
 refine⟨[],c1,rfl,rfl,rfl,λ_ hX64=>⟨[],c2,rfl,rfl,rfl,λ_ hY64=>?_⟩⟩
 replace hX64:val x.l/H<18446744073709551616:=hX64
 have z64:(0:Nat)<18446744073709551616:=by decide
 have o64:(1:Nat)<18446744073709551616:=by decide
 refine kQ (rn [(7,16),(33,67)]) (λg:LeS=>leG g.p g.r g.u0 g.u1 g.u2 g.v0 g.v1 g.v2 g.e) (λ_=>[(246,0,cPp)]) (λg=>LeI (val x.l) (val y.l) H (val x.l/H) (val y.l/H) g.p g.r g.u0 g.u1 g.u2 g.v0 g.v1 g.v2 g.e) (λg=>g.r) ⟨val x.l/H,val y.l/H,0,1,0,0,0,1,false⟩ ?_
 refine⟨⟨⟨Leh.start hhp hle,hX64,z64,o64,z64,z64,z64,o64⟩,rfl,⟨λh=>(by cases h),λh=>(by cases h)⟩,rfl,rfl,rfl,rfl,rfl,rfl,rfl,rfl⟩,λ⟨p,r,u0,u1,u2,v0,v1,v2,e⟩ ⟨hL,hp,ha,hb,hc,hd,hf,hg⟩=>aA gT mxd ?_⟩
 simp only at hL hp ha hb hc hd hf hg
 have hpos:=hL.pos
 have hyx2:=hL.yx
 have hbd:1<=r->v1+v2<18446744073709551616:=λh=>by have:=(hL.bounds h).1;omega
 refine⟨(p-r:Nat),λh=>wu (z:=(p:Int)-(r:Int)) (h:=⟨by omega,by omega,by omega⟩),(v1+v2:Nat),λh=>wa (x:=v1) (y:=v2) (by have:=hbd (by replace h:(v2:Int)<=(r:Nat):=h;omega);omega),⟨λhc1=>aA gT mxd ?_,λhc1=>aA gT mxd (aA gT mxd ?_)⟩⟩
 ·obtain⟨k1,k2⟩:=hc1
  replace k1:(v2:Int)<=(r:Nat):=k1
  replace k2:((v1+v2:Nat):Int)<=((p-r:Nat):Int):=k2
  have hst:=hL.step oM oM
  have hr1:1<=r:=by omega
  have hrz:(r:Int)≠0:=by omega
  have hY:val y.l/H<=val x.l/H:=qL hle
  have hq1:=hst.2.2.1
  have hq2:=hst.2.2.2
  refine⟨hrz,(p/r:Nat),aPz (a:=p) (b:=r) hp,.seq [(0,false),(1,false),(2,false),(3,false),(4,false),(5,false)],by kernel_rfl,hrz,_,wm (x:=p/r) (y:=u2) oM,_,wa (x:=u1) (y:=p/r*u2) oM,_,wm (x:=p/r) (y:=v2) oM,_,wa (x:=v1) (y:=p/r*v2) oM,⟨r,p%r,u1,u2,u1+p/r*u2,v1,v2,v1+p/r*v2,!e⟩,⟨⟨hst.1,by show r<_;omega,hb,hc,by show _+_<_;omega,hf,hg,by show _+_<_;omega⟩,hst.2.1⟩,rfl,rfl,⟨?_,rfl,rfl,rfl,rfl,rfl,rfl,?_,rfl⟩⟩
  ·show ¬(e=true)↔(!e)=true
   cases e<;>simp
  show(_:Int).tmod (_:Int)=(_:Int)
  rfl
 exact⟨⟨u0,u1,v0,v1,e⟩,⟨ha,hb,hd,hf,λh=>hL.fin h⟩,aM rfl rfl trivial⟩
abbrev aQf:FuncId:=239
theorem bVv:Ent Tryz.prog aQf:=aU func239 rfl kR
theorem bVw:Tryz.prog.funcs[aQf]? =some Tryz.f239:=func239
theorem aCx (x y:Sl Nat) {c d:Nat} (hx:Lm x.l) (hy:Lm y.l) (hn:x.l.length<=17592186044416) (hm:y.l.length<=17592186044416) (hc:c<18446744073709551616) (hd:d<18446744073709551616):Ctr Tryz.prog aQf [] [.c (eK x),.c (wC c),.c (eK y),.c (wC d)] [] (aCm (val x.l*c-val y.l*d)):=by
 refine aW gT bVv bVw rfl rfl rfl bL aS (aA gT mxd ⟨[],nT hc,rfl,rfl,rfl,λC hC=>?_⟩)
 replace hC:C.l=dE c:=hC
 obtain⟨lC,vC⟩:=dg hC
 have h1:=rD.1 hc
 rw[<-fD,<-hC] at h1
 refine⟨[],aAj x C hx lC hn oM,rfl,rfl,rfl,λp hp=>⟨[],nT hd,rfl,rfl,rfl,λD hD=>?_⟩⟩
 replace hD:D.l=dE d:=hD
 obtain⟨lD,vD⟩:=dg hD
 have h2:=rD.1 hd
 rw[<-fD,<-hD] at h2
 refine⟨[],aAj y D hy lD hm oM,rfl,rfl,rfl,λq hq=>?_⟩
 replace hp:p.l=dE (val x.l*val C.l):=hp
 replace hq:q.l=dE (val y.l*val D.l):=hq
 obtain⟨lp,vp⟩:=dg hp
 obtain⟨lq,vq⟩:=dg hq
 have h3:=pU (val x.l) (val C.l)
 have h4:=pU (val y.l) (val D.l)
 simp only[<-fD] at h3 h4
 rw[<-hp] at h3
 rw[<-hq] at h4
 have h5:=dY hx
 have h6:=dY hy
 have h7:=dY lC
 have h8:=dY lD
 unfold len at h5 h6 h7 h8
 refine⟨[],aIy p q lp lq oM oM,rfl,rfl,rfl,λg hg=>⟨g,?_,aM rfl rfl trivial⟩⟩
 replace hg:g.l=dE (val p.l-val q.l):=hg
 show g.l=_
 rw[hg,vp,vq,vC,vD]
abbrev gcG (g:Nat×Nat×Sl Nat×Sl Nat):List (Nat×DV):=[(0,.c (eK g.2.2.1)),(1,.c (eK g.2.2.2))]
structure GcI (A B:Nat) (g:Nat×Nat×Sl Nat×Sl Nat):Prop where
 fa:g.2.2.1.l=dE g.1
 fb:g.2.2.2.l=dE g.2.1
 le:g.2.1<=g.1
 fg:Nat.gcd g.1 g.2.1=Nat.gcd A B
 ln:(dE g.1).length<=17592186044416
abbrev bCy:FuncId:=217
theorem cGl:Ent Tryz.prog bCy:=aU func217 rfl kR
theorem cGm:Tryz.prog.funcs[bCy]? =some Tryz.f217:=func217
theorem bVx (x y:Sl Nat) (hx:Lm x.l) (hy:Lm y.l) (hn:x.l.length<=17592186044416) (hm:y.l.length<=17592186044416):Ctr Tryz.prog bCy [] [.c (eK x),.c (eK y)] [] (aCm (Nat.gcd (val x.l) (val y.l))):=by
 refine aW gT cGl cGm rfl rfl rfl bL aS (aA gT mxd ⟨[],jX x hx oM,rfl,rfl,rfl,λX hX=>⟨[],jX y hy oM,rfl,rfl,rfl,λY hY=>?_⟩⟩)
 have hXn:=dY hx
 have hYn:=dY hy
 replace hX:X.l=dE (val x.l):=hX
 replace hY:Y.l=dE (val y.l):=hY
 obtain⟨lX,vX⟩:=dg hX
 obtain⟨lY,vY⟩:=dg hY
 unfold len at hXn hYn
 have hXl:X.l.length<=17592186044416:=by rw[hX];omega
 have hYl:Y.l.length<=17592186044416:=by rw[hY];omega
 refine⟨[],uY X Y lX lY oM oM,rfl,rfl,rfl,λ_ _=>?_⟩
 refine vjn (λ_=>true) gcG (λ_=>[]) (GcI (val x.l) (val y.l)) ?_
 refine⟨⟨λh=>aA gT mxd ⟨(val y.l,val x.l,Y,X),⟨hY,hX,?_,jC _ _,by show(dE (val y.l)).length<=_;omega⟩,rfl,rfl,rfl,rfl⟩,λh=>aA gT mxd ⟨(val x.l,val y.l,X,Y),⟨hX,hY,?_,rfl,by show(dE (val x.l)).length<=_;omega⟩,rfl,rfl,rfl,rfl⟩⟩,λg0 hg0=>?_⟩
 ·have h:=qD.1 h
  rw[vX,vY] at h
  show val x.l<=val y.l
  omega
 ·show val y.l<=val x.l
  rcases eC (val x.l) (val y.l) with h'|h'
  ·exact absurd (qD.2 (by rw[vX,vY];omega)) h
  exact h'
 clear hX hY lX lY vX vY hXn hYn hXl hYl
 refine bCe (rn [(0,1),(4,10),(21,83)]) 0 gcG (λ_=>[]) (GcI (val x.l) (val y.l)) (λg=>g.2.1) g0 (λ_=>rfl) bL (λ_=>aY) (λ_=>rfl) ?_
 refine⟨⟨rfl,hg0,trivial,rfl,rfl⟩,λ⟨a,b,A,B⟩ ⟨hA,hB,hba,hg,hla⟩=>aA gT mxd ⟨λh1=>aA gT mxd ?_,λh1=>aA gT mxd (aA gT mxd ?_)⟩⟩
 all_goals
  simp only at hA hB hba hg hla
  obtain⟨lA,vA⟩:=dg hA
  obtain⟨lB,vB⟩:=dg hB
  have hlb:=nQ (n:=b)
  unfold len at hlb
  rw[<-hB] at hlb
  rw[<-hA] at hla
 ·replace h1:(0:Int)<(B.l.length:Nat):=h1
  have hb0:b≠0:=λh=>by have:=hlb.2 h;omega
  have hlen:B.l.length<=A.l.length:=by rw[hA,hB];exact fY hba
  refine⟨λh2=>aA gT mxd ?_,λh2=>aA gT mxd ?_⟩
  ·replace h2:((A.l.length:Nat):Int)<=2:=h2
   have ha64:val A.l<18446744073709551616:=aGr lA oM
   refine⟨[],aAh A lA oM,rfl,rfl,rfl,λ_ _=>⟨[],aAh B lB oM,rfl,rfl,rfl,λ_ _=>?_⟩⟩
   refine kQ (rn [(5,6),(31,36)]) (λg:Nat×Nat=>[(5,.c (wC g.1)),(6,.c (wC g.2))]) (λ_=>[]) (λg=>Nat.gcd g.1 g.2=Nat.gcd (val x.l) (val y.l)/\g.1<18446744073709551616/\g.2<18446744073709551616) (λg=>g.2) (val A.l,val B.l) ?_
   refine⟨⟨⟨by rw[vA,vB];exact hg,ha64,by show val B.l<_;omega⟩,rfl,rfl,rfl⟩,λ⟨c,d⟩ ⟨hcd,hc,hd⟩=>aA gT mxd ⟨λh3=>aA gT mxd ?_,λh3=>aA gT mxd (aA gT mxd ?_)⟩⟩
   all_goals simp only at hcd hc hd
   ·replace h3:(d:Int)≠0:=h3
    have hlt:=dM c (show 0<d by omega)
    refine⟨.seq [(0,false),(1,false),(2,false),(3,false),(4,false),(5,false)],by kernel_rfl,h3,(d,c%d),⟨⟨?_,hd,by show c%d<_;omega⟩,hlt⟩,rfl,rfl,rfl,?_⟩
    ·show Nat.gcd d (c%d)=_
     rw[<-hcd,jC,<-xU,jC]
    show(_:Int).tmod (_:Int)=(_:Int)
    rfl
   obtain rfl:d=0:=by
    replace h3:¬(d:Int)≠0:=h3
    omega
   rw[oE] at hcd
   refine⟨[],nT hc,rfl,rfl,rfl,λg hg=>⟨g,?_,aM rfl rfl trivial⟩⟩
   show g.l=_
   rw[<-hcd];exact hg
  replace h2:¬((A.l.length:Nat):Int)<=2:=h2
  refine⟨[],bMi A B lA lB oM oM (bCu hA oM) hlen (by rw[vA,vB];exact hba),rfl,rfl,rfl,λq hq=>?_⟩
  replace hq:CofOk q (val A.l) (val B.l):=hq
  rw[vA,vB] at hq
  refine⟨λh3=>aA gT mxd ?_,λh3=>aA gT mxd ?_⟩
  ·refine⟨[],bCv A B lA lB hla oM,rfl,rfl,rfl,λ⟨Q,R⟩ ⟨_,hR⟩=>?_⟩
   replace hR:R.l=dE (aFx (val A.l) (val B.l)):=hR
   rw[vA,vB,show aFx a b=a%b from if_neg hb0] at hR
   refine⟨(b,a%b,B,R),⟨⟨hB,hR,eX (dM _ oM),?_,by show(dE b).length<=_;rw[<-hB];omega⟩,dM _ oM⟩,rfl,trivial,rfl,rfl⟩
   show Nat.gcd b (a%b)=_
   rw[<-hg,jC,<-xU,jC]
  have hf:=hq.f λh=>h3 (by show((q.b0:Nat):Int)=0;omega)
  have key:∀(m n:Nat) (G H:Sl Nat),Nat.gcd m n=Nat.gcd a b->n<m->m<=b->G.l=dE m->H.l=dE n->GcI (val x.l) (val y.l) (m,n,G,H)/\n<b:=λm n G H e1 e2 e3 e4 e5=>⟨⟨e4,e5,eX e2,e1.trans hg,by have:=fY e3;unfold len at this;show(dE m).length<=_;rw[<-hB] at this;omega⟩,by omega⟩
  refine⟨λh4=>aA gT mxd ?_,λh4=>aA gT mxd ?_⟩
  ·obtain⟨f1,f2,f3,f4,f5⟩:=hf.1 h4
   refine⟨.seq [(0,false),(1,false),(2,false),(3,false),(4,false),(5,false),(7,false),(8,false),(9,false),(10,false),(11,false),(12,false),(6,false),(13,true),(14,false),(15,false)],by kernel_rfl,[],aCx A B lA lB hla oM hq.l0 hq.l2,rfl,rfl,rfl,λG hG=>⟨[],aCx B A lB lA oM hla hq.l3 hq.l1,rfl,rfl,rfl,λH hH=>⟨(_,_,G,H),key _ _ G H f3 f4 f5 ?_ ?_,rfl,trivial,rfl,rfl⟩⟩⟩
   ·replace hG:G.l=dE (val A.l*q.a0-val B.l*q.b0):=hG
    rw[hG,vA,vB,bO a,bO b]
   replace hH:H.l=dE (val B.l*q.b1-val A.l*q.a1):=hH
   rw[hH,vA,vB,bO a,bO b]
  obtain⟨f1,f2,f3,f4,f5⟩:=hf.2 (by replace h4:¬q.e=true:=h4;simpa using h4)
  refine⟨.seq [(0,false),(1,false),(2,false),(3,false),(4,false),(5,false),(7,false),(8,false),(9,false),(10,false),(11,false),(12,false),(6,false),(13,true),(14,false),(15,false)],by kernel_rfl,[],aCx B A lB lA oM hla hq.l2 hq.l0,rfl,rfl,rfl,λG hG=>⟨[],aCx A B lA lB hla oM hq.l1 hq.l3,rfl,rfl,rfl,λH hH=>⟨(_,_,G,H),key _ _ G H f3 f4 f5 ?_ ?_,rfl,trivial,rfl,rfl⟩⟩⟩
  ·replace hG:G.l=dE (val B.l*q.b0-val A.l*q.a0):=hG
   rw[hG,vA,vB,bO a,bO b]
  replace hH:H.l=dE (val A.l*q.a1-val B.l*q.b1):=hH
  rw[hH,vA,vB,bO a,bO b]
 replace h1:¬(0:Int)<(B.l.length:Nat):=h1
 have hb0:b=0:=hlb.1 oM
 rw[hb0,oE] at hg
 refine⟨[],aAi A lA oM,rfl,rfl,rfl,λg hg'=>⟨g,?_,aM rfl rfl trivial⟩⟩
 show g.l=_
 rw[<-hg,<-vA];exact hg'
structure IntM where
 p:Prop
 d:Decidable p
 m:Sl Nat
def IntM.C (i:IntM):List CV:=[.b i.p i.d,eK i.m]
open Classical in
noncomputable def sg (p:Prop) (n:Nat):Int:=if p then-(n:Int) else n
structure In (i:IntM) (v:Int) (B:Nat):Prop where
 lm:Lm i.m.l
 ln:i.m.l.length<=B
 v:sg i.p (val i.m.l)=v
def Ci (i:IntM) (v:Int):Prop:=(i.p↔v<0)/\i.m.l=dE v.natAbs
abbrev yM (v:Int):IntM->Out:=λg=>⟨.a g.C,[],Ci g v⟩
theorem lI {p:Prop} {n:Nat} (h:p):sg p n=-(n:Int):=if_pos h
theorem lJ {p:Prop} {n:Nat} (h:¬p):sg p n=n:=if_neg h
theorem aEt {p:Prop} {n:Nat}:(sg p n).natAbs=n:=by
 by_cases h:p
 ·rw[lI h];omega
 rw[lJ h];omega
theorem aJd {p:Prop} {n:Nat}:sg p n<0↔p/\0<n:=by
 by_cases h:p
 ·rw[lI h];exact⟨λ_=>⟨h,by omega⟩,λh=>by omega⟩
 rw[lJ h];exact⟨λh=>by omega,λh2=>absurd h2.1 h⟩
theorem Ci.in {i:IntM} {v:Int} {B:Nat} (h:Ci i v) (hb:len v.natAbs<=B):In i v B:=by
 obtain⟨lX,vX⟩:=dg h.2
 refine⟨lX,by rw[h.2];exact hb,?_⟩
 rw[vX]
 by_cases hp:i.p
 ·rw[lI hp];have:=h.1.1 hp;omega
 rw[lJ hp];have:¬v<0:=λhv=>hp (h.1.2 hv);omega
theorem In.abs {i:IntM} {v:Int} {B:Nat} (h:In i v B):val i.m.l=v.natAbs:=by rw[<-h.v,aEt]
theorem In.len {i:IntM} {v:Int} {B:Nat} (h:In i v B):len v.natAbs<=B:=by rw[<-h.abs];exact aJ (dY h.lm) h.ln
theorem In.le {i:IntM} {v:Int} {B B':Nat} (h:In i v B) (hb:B<=B':=by omega):In i v B':=⟨h.lm,aJ h.ln hb,h.v⟩
theorem aUg {n:Nat}:0<len n↔0<n:=by have:=nQ (n:=n);omega
abbrev aQg:FuncId:=139
theorem bVy:Ent Tryz.prog aQg:=aU func139 rfl kR
theorem bVz:Tryz.prog.funcs[aQg]? =some Tryz.f139:=func139
theorem nY (p:Prop) {hp:Decidable p} (m:Sl Nat) (hm:Lm m.l) (hn:m.l.length<=35184372088832):Ctr Tryz.prog aQg [] [.c (.b p hp),.c (eK m)] [] (yM (sg p (val m.l))):=by
 refine aW gT bVy bVz rfl rfl rfl bL aS (aA gT mxd ⟨[],nN m hm hn,rfl,rfl,rfl,λX hX=>?_⟩)
 replace hX:X.l=dE (val m.l):=hX
 refine⟨⟨p/\(0:Int)<(X.l.length:Nat),inferInstance,X⟩,⟨?_,?_⟩,aM rfl rfl trivial⟩
 ·show(p/\(0:Int)<(X.l.length:Nat))↔_
  rw[aJd,hX,fD]
  have:=aUg (n:=val m.l)
  constructor
  ·rintro⟨h1,h2⟩;exact⟨h1,this.1 oM⟩
  rintro⟨h1,h2⟩;exact⟨h1,by have:=this.2 h2;omega⟩
 show X.l=_
 rw[aEt];exact hX
abbrev aQh:FuncId:=134
theorem bWa:Ent Tryz.prog aQh:=aU func134 rfl kR
theorem bWb:Tryz.prog.funcs[aQh]? =some Tryz.f134:=func134
theorem aJe (i:IntM) {v:Int} (h:In i v 35184372088832):Ctr Tryz.prog aQh [] [.a i.C] [] (yM v):=by
 refine aW gT bWa bWb rfl rfl rfl bL aS (aA gT mxd ⟨[],nY i.p i.m h.lm h.ln,rfl,rfl,rfl,λg hg=>⟨g,?_,aM rfl rfl trivial⟩⟩)
 rw[<-h.v];exact hg
abbrev bCz:FuncId:=138
theorem cGn:Ent Tryz.prog bCz:=aU func138 rfl kR
theorem cGo:Tryz.prog.funcs[bCz]? =some Tryz.f138:=func138
theorem aBl (i:IntM) {v:Int} (h:In i v 35184372088832):Ctr Tryz.prog bCz [] [.a i.C] [] (yM (-v)):=by
 refine aW gT cGn cGo rfl rfl rfl bL aS (aA gT mxd ⟨[],nY (¬i.p) i.m h.lm h.ln,rfl,rfl,rfl,λg hg=>⟨g,?_,aM rfl rfl trivial⟩⟩)
 have e:sg (¬i.p) (val i.m.l)=-v:=by
  rw[<-h.v]
  by_cases hp:i.p
  ·rw[lI hp,lJ (λh=>h hp)];omega
  rw[lJ hp,lI hp]
 rw[<-e];exact hg
abbrev bDa:FuncId:=196
theorem cGp:Ent Tryz.prog bDa:=aU func196 rfl kR
theorem cGq:Tryz.prog.funcs[bDa]? =some Tryz.f196:=func196
theorem bWc (i:IntM) {v:Int} (h:In i v 35184372088832):Ctr Tryz.prog bDa [] [.a i.C] [] (yM v.natAbs):=by
 refine aW gT cGp cGq rfl rfl rfl bL aS (aA gT mxd ⟨[],nY (false=true) i.m h.lm h.ln,rfl,rfl,rfl,λg hg=>⟨g,?_,aM rfl rfl trivial⟩⟩)
 rw[<-h.abs,<-lJ (p:=false=true) dC];exact hg
end Go.Proofs.YtghncoghdcmdfaaGreat
