/- BasisExact, second form: for arguments of bulk at most 1048576 the law returns true and what came in reads as it did. Part 3 of 7: Vym Vyn Vyo Vyp Tb Ua Da Db Vyq Vyr Vys Vyu Vyv Pa Pb Dc Pc Pd Pe Pf Dd De Pg Df. -/
import Derived.Laws.StructEq
import Derived.ChangeKeysEq
import Derived.KernelRfl
import Derived.Test.YtljcaaakbkneaaaGreatRows
import Derived.RangeFuncSeq
import Derived.RangeFuncLeaves
import Derived.Shelf.Small.Bits
import Derived.Test.YtljcaaakbkneaaaGreatD2
set_option maxHeartbeats 4000000
set_option linter.unusedVariables false
set_option linter.unusedSimpArgs false
namespace Go.Vy
open Go.Vg Go.RowKit
/-! ### the table -/
inductive Shp where
 |slice (e:Nat)
 |bool
 |str
 |int (k:IntKind)
 |struct (l:List (Nat×Nat))
 |array (n e:Nat)
 |other
def shp:TypeDesc->Shp
 |.slice e=> .slice e
 |.bool=> .bool
 |.string=> .str
 |.int k=> .int k
 |.struct F=> .struct (F.toList.map λf=>(f.offset,f.type))
 |.array n e=> .array n e
 |_=> .other
def aJx (ti:TI):Shp:=match ti.ar with
 |some (n,e,_)=> .array n e
 |none=>match ti.el with
 |some e=> .slice e
 |none=>bif ti.bo then .bool else bif ti.str then .str else match ti.ik with
  |some k=> .int k
  |none=>match ti.fs with
   |[]=> .other
   |l=> .struct (l.map λf=>(f.off,f.ty))
def zv (ti:TI):Value:=bif ti.agg then .agg ti.zero.toArray else ti.zero.headD undef
def bBa (P:Program) (t:Nat):Option (Option Value×Nat×Nat)×Option Shp×Bool:=((P.info? t).map λi=>(i.zero,i.size,i.bytes),(P.underlying t).map shp,aDv P t)
def bBb (ti:TI):Option (Option Value×Nat×Nat)×Option Shp×Bool:=(some (some (zv ti),ti.size,ti.by'),some (aJx ti),ti.agg)
def bQw:Option TypeDesc->Bool
 |some (.pointer _)=>true
 |_=>false
theorem bIy {o:Option TypeDesc} (h:bQw o=true):∃e,o=some (.pointer e):=by
 unfold bQw at h
 split at h
 ·exact⟨_,U⟩
 cases h
def look:List (Nat×TI)->TT
 |[],_=>none
 |(k,i)::l,t=>bif Nat.beq k t then some i else look l t
def chk (tab:List (Nat×TI)) (e:Nat×TI):Bool:=
 Nat.beq e.2.zero.length e.2.size&&((match e.2.ar with
  |some (_,el,es)=>e.2.el.isNone&&(!e.2.bo&&(!e.2.str&&(e.2.ik.isNone&&(e.2.fs.isEmpty&&match look tab el with
   |some tf=>Nat.beq tf.size es
   |none=>false))))
  |none=>true)&&(e.2.zero.all Value.oneCell'&&((e.2.agg||Nat.beq e.2.size 1)&&((e.2.el.isNone||(!e.2.bo&&(!e.2.str&&(e.2.ik.isNone&&e.2.fs.isEmpty))))&&((!e.2.bo||(!e.2.str&&(e.2.ik.isNone&&e.2.fs.isEmpty)))&&((!e.2.str||(e.2.ik.isNone&&e.2.fs.isEmpty))&&((e.2.ik.isNone||e.2.fs.isEmpty)&&e.2.fs.all λfi=>match look tab fi.ty with
  |some tf=>Nat.beq tf.size fi.size&&(tf.agg==fi.agg)
  |none=>false)))))))
section tab
variable {P:Program} {tab:List (Nat×TI)}
theorem xV {l:List (Nat×TI)} {t:Nat} {i:TI} (h:look l t=some i):(t,i)∈l:=by
 induction l with
 |nil=>cases h
 |cons e l ih=>
  obtain⟨k,e⟩:=e
  unfold look at h
  cases hb:Nat.beq k t with
  |true=>
   rw[hb] at h
   injection h with h
   have:=aM hb
   subst this h
   exact .head _
  |false=>rw[hb] at h;exact .tail _ (ih h)
theorem aXa {d:TypeDesc} {e:Nat} (h:shp d= .slice e):d= .slice e:=by
 cases d<;>simp[shp] at h
 subst h;rfl
theorem bBc {d:TypeDesc} (h:shp d= .bool):d= .bool:=by
 cases d<;>simp[shp] at h
 rfl
theorem bIz {d:TypeDesc} (h:shp d= .str):d= .string:=by
 cases d<;>simp[shp] at h
 rfl
theorem aTo {d:TypeDesc} {k:IntKind} (h:shp d= .int k):d= .int k:=by
 cases d<;>simp[shp] at h
 subst h;rfl
theorem aXb {d:TypeDesc} {n e:Nat} (h:shp d= .array n e):d= .array n e:=by
 cases d<;>simp[shp] at h
 obtain⟨rfl,rfl⟩:=h;rfl
theorem aQw {d:TypeDesc} {l:List (Nat×Nat)} (h:shp d= .struct l):∃F,d= .struct F/\F.toList.map (λf=>(f.offset,f.type))=l:=by
 cases d<;>simp[shp] at h
 exact⟨_,U,h⟩
def mvP (P:Program) (t:Nat):Option (Option Shp×Option (Option Value×Nat)):=match P.underlying t with
 |some (.map k e)=>some ((P.underlying k).map shp,(P.info? e).map λi=>(i.zero,i.size))
 |_=>none
def mvW (z:Value):Option (Option Shp×Option (Option Value×Nat)):=some (some (.int .i64),some (some z,1))
theorem bWm {P:Program} {t:Nat} {z:Value} (h:mvP P t=mvW z):∃k e b,P.underlying t=some (.map k e)/\P.underlying k=some (.int .i64)/\TyI P e 1 b z:=by
 unfold mvP mvW at h
 split at h
 ·next k e hu=>
  injection h with h
  injection h with h1 h2
  cases hk:P.underlying k with
  |none=>rw[hk] at h1;cases h1
  |some d=>
   rw[hk] at h1
   injection h1 with h1
   cases hi:P.info? e with
   |none=>rw[hi] at h2;cases h2
   |some i=>
    rw[hi] at h2
    injection h2 with h2
    injection h2 with h2 h3
    exact⟨k,e,i.bytes,hu,by rw[hk,aTo h1],TyI.of (by rw[hi];simp only[Option.map_some];rw[h2,h3])⟩
 cases h
theorem bJa (h:tab.map (λe=>bBa P e.1)=tab.map (λe=>bBb e.2)) (hb:tab.all (chk tab)=true) (hq:∀e∈tab,∀vs,ckF e.2.ck vs=true->CkP P e.1 vs) (hmp:∀e∈tab,e.2.mp=true->∃k e',P.underlying e.1=some (.map k e')/\P.underlying k=some (.int .i64)) (hpt:tab.all (λe=>!e.2.pt||bQw (P.underlying e.1))=true) (hmv:tab.map (λe=>bif e.2.mv.isSome then mvP P e.1 else none)=tab.map (λe=>e.2.mv.bind mvW)):Good P (look tab):=λt ti ht=>by
 have row:∀{t:Nat} {ti:TI},look tab t=some ti->bBa P t=bBb ti/\chk tab (t,ti)=true:=λ{t ti} ht=>by
  have hm:=xV ht
  refine⟨?_,aX.1 hb _ hm⟩
  obtain⟨i,hi⟩:=cV hm
  have h1:=U5 (λl=>l[i]?) h
  simp only[dQ,hi,Option.map_some] at h1
  injection h1
 obtain⟨hr,hc⟩:=row ht
 have hty:∀{t:Nat} {ti:TI},bBa P t=bBb ti->TyI P t ti.size ti.by' (zv ti)/\(∃d,P.underlying t=some d/\shp d=aJx ti)/\aDv P t=ti.agg:=λ{t ti} hr=>by
  unfold bBa bBb at hr
  injection hr with h1 h2
  injection h2 with h2 h3
  refine⟨TyI.of h1,?_,h3⟩
  cases hd:P.underlying t with
  |none=>rw[hd] at h2;cases h2
  |some d=>rw[hd] at h2;injection h2 with h2;exact⟨d,U,h2⟩
 obtain⟨k1,⟨d,k2,k3⟩,k4⟩:=hty hr
 simp only[chk,aQ,jP,dP] at hc
 obtain⟨c1,c0,c2,c3,c4,c5,c6,c7,c8⟩:=hc
 have hna:(ti.el.isSome=true\/ti.bo=true\/ti.str=true\/ti.ik.isSome=true\/ti.fs.isEmpty=false)->ti.ar=none:=λhh=>by
  cases har:ti.ar with
  |none=>rfl
  |some q=>
   obtain⟨n,e,es⟩:=q
   rw[har] at c0
   simp only[aQ,dP] at c0
   obtain⟨d1,d2,d3,d4,d5,_⟩:=c0
   rcases hh with h|h|h|h|h
   ·rw[tL.1 d1] at h;cases h
   ·rw[d2] at h;cases h
   ·rw[d3] at h;cases h
   ·rw[tL.1 d4] at h;cases h
   rw[d5] at h;cases h
 have c1':=aM c1
 refine⟨⟨d,k2⟩,k4,⟨zv ti,k1,?_⟩,c1',c2,λe he=>?_,λn e es har=>?_,λhbo=>?_,λhs=>?_,λk hk=>?_,?_,hq _ (xV ht),hmp _ (xV ht),λhp=>bIy (by have:=aX.1 hpt _ (xV ht);rw[hp] at this;exact this),λz hz=>bWm (by
  obtain⟨i,hi⟩:=cV (xV ht)
  have h1:=U5 (λl=>l[i]?) hmv
  simp only[dQ,hi,Option.map_some,hz,Option.isSome_some,cond_true,Option.bind_some] at h1
  injection h1)⟩
 ·unfold zv
  cases ha:ti.agg with
  |true=>rfl
  |false=>
   rw[ha] at c3
   have hl:ti.zero.length=1:=by
    rcases c3 with h|h
    ·cases h
    rw[c1',aM h]
   match hz:ti.zero,hl with
   |[z],_=>
    rw[hz] at c2
    simp only[List.all_cons,List.all_nil,Bool.and_true] at c2
    exact aAz c2
 ·rw[k2];congr 1;apply aXa;rw[k3];simp[aJx,he,hna (.inl (by rw[he];rfl))]
 ·refine⟨by rw[k2];congr 1;apply aXb;rw[k3];simp[aJx,har],?_⟩
  rw[har] at c0
  simp only[aQ] at c0
  have h6:=c0.2.2.2.2.2
  split at h6
  ·next tf htf=>
   have:=aM h6
   exact⟨tf.by',zv tf,by rw[<-this];exact(hty (row htf).1).1⟩
  cases h6
 ·have hel:ti.el=none:=by
   rcases c4 with h|h
   ·simpa using h
   rw[h.1] at hbo;cases hbo
  rw[k2];congr 1;apply bBc;rw[k3];simp[aJx,hel,hbo,hna (.inr (.inl hbo))]
 ·have hel:ti.el=none:=by
   rcases c4 with h|h
   ·simpa using h
   rw[h.2.1] at hs;cases hs
  have hbo:ti.bo=false:=by
   rcases c5 with h|h
   ·exact h
   rw[h.1] at hs;cases hs
  rw[k2];congr 1;apply bIz;rw[k3];simp[aJx,hel,hbo,hs,hna (.inr (.inr (.inl hs)))]
 ·have hel:ti.el=none:=by
   rcases c4 with h|h
   ·simpa using h
   have:=h.2.2.1;rw[hk] at this;cases this
  have hbo:ti.bo=false:=by
   rcases c5 with h|h
   ·exact h
   have:=h.2.1;rw[hk] at this;cases this
  have hs:ti.str=false:=by
   rcases c6 with h|h
   ·exact h
   have:=h.1;rw[hk] at this;cases this
  rw[k2];congr 1;apply aTo;rw[k3];simp[aJx,hel,hbo,hs,hk,hna (.inr (.inr (.inr (.inl (by rw[hk];rfl)))))]
 cases hf:ti.fs with
 |nil=>exact .inl rfl
 |cons f0 fr=>
  right
  have hne:ti.fs.isEmpty=false:=by rw[hf];rfl
  have hel:ti.el=none:=by
   rcases c4 with h|h
   ·simpa using h
   have:=h.2.2.2;rw[hne] at this;cases this
  have hbo:ti.bo=false:=by
   rcases c5 with h|h
   ·exact h
   have:=h.2.2;rw[hne] at this;cases this
  have hs:ti.str=false:=by
   rcases c6 with h|h
   ·exact h
   have:=h.2;rw[hne] at this;cases this
  have hk:ti.ik=none:=by
   rcases c7 with h|h
   ·simpa using h
   rw[hne] at h;cases h
  have hsh:aJx ti= .struct (ti.fs.map λf=>(f.off,f.ty)):=by simp[aJx,hel,hbo,hs,hk,hf,hna (.inr (.inr (.inr (.inr hne))))]
  obtain⟨F,hF,hmap⟩:=aQw (k3.trans hsh)
  subst hF
  rw[<-hf]
  have hlen:F.toList.length=ti.fs.length:=by simpa using U5 List.length hmap
  refine⟨F,k2,by rw[<-hlen];simp,λk fi hk=>?_⟩
  have h1:=U5 (λl=>l[k]?) hmap
  simp only[dQ,hk,Option.map_some] at h1
  have hkl:k<F.toList.length:=by rw[hlen];exact eH hk
  have h2:=aG hkl
  rw[h2] at h1
  injection h1 with h1
  injection h1 with e1 e2
  refine⟨F.toList[k],by rw[<-eM];exact h2,e1,e2,?_⟩
  have hfc:=aX.1 c8 fi (aR hk)
  split at hfc
  ·next tf htf=>
   simp only[aQ,beq_iff_eq] at hfc
   obtain⟨m1,⟨d',m2,_⟩,m4⟩:=hty (row htf).1
   have:=aM hfc.1
   exact⟨by rw[m4,hfc.2],⟨d',m2⟩,tf.by',zv tf,by rw[<-this];exact m1⟩
  cases hfc
end tab
/-! ### what changes -/
def EqV:CV->CV->Prop
 |.v (.int k a),.v (.int k' b)=>bif decide (k=k') then a=b else False
 |.b p _,.b q _=>(p↔q)
 |.v (.bool b),.b q _=>(b=true↔q)
 |.s i n,.s j m=>bif Nat.beq i j then n=m else False
 |.v (.slice none 0 0),.r A n c _ _=>A=none/\n=0/\c=0
 |.v (.slice none 0 0),.h A n c=>A=none/\n=0/\c=0
 |_,.u=>True
 |x,y=>x=y
def EqE:DV->DV->Prop
 |.c x,.c y=>EqV x y
 |_,.c .u=>True
 |x,y=>x=y
def EqT:List DV->List DV->Prop
 |[a],[b]=>EqE a b
 |a::l,b::m=>EqE a b/\EqT l m
 |l,m=>l=m
def EqD:DV->DV->Prop
 |.t l,.t m=>EqT l m
 |x,y=>EqE x y
theorem EqV.refl (c:CV):EqV c c:=by
 cases c with
 |v x=>cases x<;>first|rfl|(simp[EqV])
 |b p h=>exact iO
 |s i n=>simp[EqV,gV]
 |u=>trivial
 |_=>rfl
theorem EqE.refl (d:DV):EqE d d:=by
 cases d with
 |c c=>exact EqV.refl c
 |a l=>rfl
 |t l=>rfl
theorem EqT.refl:∀l:List DV,EqT l l
 |[]=>rfl
 |[a]=>EqE.refl a
 |a::b::l=>⟨EqE.refl a,EqT.refl (b::l)⟩
theorem EqD.refl (d:DV):EqD d d:=by
 cases d with
 |c c=>exact EqV.refl c
 |a l=>rfl
 |t l=>exact EqT.refl l
theorem EqV.hc {D:Pl} {n:Nat} {w:World} {x y:CV} {v:Value} (h:EqV x y) (hx:Hc D n w x v):Hc D n w y v:=by
 unfold EqV at h
 split at h
 ·next k a k' b=>
  cases hk:decide (k=k') with
  |false=>rw[hk] at h;exact h.elim
  |true=>rw[hk] at h;have:=of_decide_eq_true hk;simp only[cond_true] at h;subst this h;exact hx
 ·next p hp q hq=>
  have:=hx.inv_b
  subst this
  rw[decide_eq_decide.2 h]
  exact Rc.b _ _
 ·next b q hq=>
  have:=hx.inv_v
  subst this
  rw[show b=decide q by rw[rN,h];simp]
  exact Rc.b _ _
 ·next i n' j m=>
  cases hk:Nat.beq i j with
  |false=>rw[hk] at h;exact h.elim
  |true=>rw[hk] at h;have:=aM hk;simp only[cond_true] at h;subst this h;exact hx
 ·obtain⟨rfl,rfl,rfl⟩:=h
  rw[hx.inv_v]
  exact Rc.nil _ _ _ _ (aB _)
 ·obtain⟨rfl,rfl,rfl⟩:=h
  rw[hx.inv_v]
  exact Rc.h none 0 0
 ·exact Rc.u _
 rw[<-h];exact hx
theorem EqE.hd {D:Pl} {n:Nat} {w:World} {x y:DV} {v:Value} (h:EqE x y) (hx:Hd D n w x v):Hd D n w y v:=by
 unfold EqE at h
 split at h
 ·exact .c (h.hc hx.inv_c)
 ·exact .c (Rc.u _)
 rw[<-h];exact hx
theorem EqT.get:∀{l m:List DV},EqT l m->m.length=l.length/\∀(i:Nat) (d':DV),m[i]? =some d'->∃d,l[i]? =some d/\EqE d d':=λ{l m} h=>by
 induction l generalizing m with
 |nil=>cases m with
  |nil=>exact⟨U,λi d' h=>by cases h⟩
  |cons b m=>cases (show([]:List DV)=b::m from h)
 |cons a l ih=>
  cases m with
  |nil=>cases l with
   |nil=>cases (show [a]=[] from h)
   |cons a' l=>cases (show a::a'::l=[] from h)
  |cons b m=>
   have key:EqE a b/\EqT l m:=by
    cases l with
    |nil=>cases m with
     |nil=>exact⟨h,U⟩
     |cons b' m=>exact h
    |cons a' l=>cases m with
     |nil=>exact h
     |cons b' m=>exact h
   obtain⟨h1,h2⟩:=ih key.2
   refine⟨by simp[h1],λi d' hi=>?_⟩
   cases i with
   |zero=>injection hi with hi;subst hi;exact⟨a,U,key.1⟩
   |succ i=>exact h2 i d' hi
theorem EqD.hd {D:Pl} {n:Nat} {w:World} {x y:DV} {v:Value} (h:EqD x y) (hx:Hd D n w x v):Hd D n w y v:=by
 unfold EqD at h
 split at h
 ·next l m=>
  cases hx with
  |t h0 hh=>
   obtain⟨h1,h2⟩:=h.get
   refine .t (h1.trans h0) λi d u hi hu=>?_
   obtain⟨d0,h3,h4⟩:=h2 i d hi
   exact h4.hd (hh i d0 u h3 hu)
 exact h.hd hx
section mt
variable {P:Program} {T:TT} {nb N:Nat} {s:SS} {K:Kt} {c a b:Code}
def AllC (sl:List (Nat×DV)):List (Nat×DV)->Prop
 |[]=>True
 |[(t,d)]=>(match gK sl t with
  |some d0=>EqD d0 d
  |none=>False)
 |(t,d)::l=>(match gK sl t with
  |some d0=>EqD d0 d
  |none=>False)/\AllC sl l
theorem AllC.get {sl:List (Nat×DV)}:∀{l:List (Nat×DV)},AllC sl l->∀{t:Nat} {d:DV},gK l t=some d->∃d0,gK sl t=some d0/\EqD d0 d
 |[],_,t,d,h=>by cases h
 |(t0,d0)::l,ha,t,d,h=>by
  have h1:(match gK sl t0 with|some d=>EqD d d0|none=>False)/\AllC sl l:=by
   cases l with
   |nil=>exact⟨ha,U1⟩
   |cons e l=>exact ha
  simp only[gK] at h
  cases hb:Nat.beq t0 t with
  |true=>
   rw[hb] at h
   injection h with h
   subst h
   have:=aM hb
   subst this
   have h2:=h1.1
   split at h2
   ·next d' hd'=>exact⟨d',hd',h2⟩
   exact h2.elim
  |false=>rw[hb] at h;exact AllC.get h1.2 h
def uZ (M:Nat->Bool):List (Nat×DV)->(List (Nat×DV)->Prop)->Prop
 |[],k=>k []
 |(t,d)::l,k=>bif M t then uZ M l k else uZ M l λr=>k ((t,d)::r)
theorem pI {M:Nat->Bool}:∀{l:List (Nat×DV)} {k:List (Nat×DV)->Prop},uZ M l k->∃b,k b/\∀t d,gK b t=some d->gK l t=some d/\M t=false
 |[],k,h=>⟨[],h,λt d h=>by cases h⟩
 |(t0,d0)::l,k,h=>by
  unfold uZ at h
  cases hm:M t0 with
  |true=>
   rw[hm] at h
   obtain⟨b,h1,h2⟩:=pI (show uZ M l k from h)
   refine⟨b,h1,λt d ht=>?_⟩
   obtain⟨h3,h4⟩:=h2 t d ht
   refine⟨?_,h4⟩
   unfold gK
   cases hb:Nat.beq t0 t with
   |true=>rw[aM hb,h4] at hm;cases hm
   |false=>exact h3
  |false=>
   rw[hm] at h
   obtain⟨b,h1,h2⟩:=pI (show uZ M l _ from h)
   refine⟨_,h1,λt d ht=>?_⟩
   unfold gK at ht ⊢
   cases hb:Nat.beq t0 t with
   |true=>rw[hb] at ht;exact⟨ht,by rw[<-aM hb];exact hm⟩
   |false=>rw[hb] at ht;exact h2 t d ht
def wZ (M:Nat->Bool) (base:List (Nat×DV)) (fl fl':List Fam):List (Nat×DV)->Prop
 |[]=>([],fl')=(base,fl)
 |(t,d)::l=>bif M t then wZ M base fl fl' l else ((t,d)::l,fl')=(base,fl)
theorem qR {M:Nat->Bool} {base:List (Nat×DV)} {fl fl':List Fam}:∀{l:List (Nat×DV)},wZ M base fl fl' l->(∀t,M t=false->gK l t=gK base t)/\fl'=fl
 |[],h=>by injection (show([],fl')=(base,fl) from h) with h1 h2;exact⟨λt _=>by rw[h1],h2⟩
 |(t0,d0)::l,h=>by
  unfold wZ at h
  cases hm:M t0 with
  |true=>
   rw[hm] at h
   obtain⟨h1,h2⟩:=qR (show wZ M base fl fl' l from h)
   refine⟨λt ht=>?_,h2⟩
   show(bif Nat.beq t0 t then some d0 else gK l t)=gK base t
   cases hb:Nat.beq t0 t with
   |true=>rw[aM hb,ht] at hm;cases hm
   |false=>exact h1 t ht
  |false=>
   rw[hm] at h
   simp only[cond_false] at h
   injection h with h1 h2
   exact⟨λt _=>by rw[h1],h2⟩
def Mt (M:Nat->Bool) (base:List (Nat×DV)) (fl:List Fam) (s:SS) (chg:List (Nat×DV)) (bl:BL):Prop:=wZ M base fl s.fl s.sl/\s.bl=bl/\AllC s.sl chg
theorem qS {l m:List (Nat×DV)} {t:Nat} {d:DV} (h:gK (l++m) t=some d):gK l t=some d\/(gK l t=none/\gK m t=some d):=by
 induction l with
 |nil=>exact .inr ⟨U,h⟩
 |cons e l ih=>
  obtain⟨t0,d0⟩:=e
  simp only[List.cons_append,gK] at h ⊢
  cases hb:Nat.beq t0 t with
  |true=>rw[hb] at h;exact .inl h
  |false=>rw[hb] at h;exact ih h
theorem bBd {s s':SS} (hb:s.bl=s'.bl) (hl:s.fl=s'.fl) (hg:s'.gl=[]) (h:∀t d,gK s'.sl t=some d->∃d0,gK s.sl t=some d0/\EqD d0 d):Sub s s':=λρ0 w0 nb D f w hD=>by
 refine⟨by rw[<-hb];exact hD.m,⟨λt d ht=>?_,λt gs d ht=>?_⟩,hD.l.trans hl⟩
 ·obtain⟨d0,h1,h2⟩:=h t d ht
  rw[<-hb]
  exact h2.hd (hD.f.sl t d0 h1)
 rw[hg] at ht;cases ht
theorem Mt.sub {M:Nat->Bool} {base chg:List (Nat×DV)} {bl:BL} {fl:List Fam} (h:Mt M base fl s chg bl) (hM:∀t d,gK base t=some d->M t=false):Sub s ⟨chg++base,[],bl,fl⟩:=
 bBd h.2.1 (qR h.1).2 rfl λt d ht=>by
  rcases qS ht with h1|⟨h1,h2⟩
  ·exact h.2.2.get h1
  exact⟨d,by rw[(qR h.1).1 t (hM t d h2)];exact h2,.refl d⟩
theorem lJ (M:Nat->Bool) {σ:Type} (chg:σ->List (Nat×DV)) (bls:σ->BL) (C:σ->Prop) (μ:σ->Nat) (g0:σ)
 (h:uZ M s.sl λbase=>(C g0/\s.bl=bls g0/\AllC s.sl (chg g0))/\∀g,C g->Sd P nb N c ⟨λs'=>∃g',(C g'/\μ g'<μ g)/\Mt M base s.fl s' (chg g') (bls g'),K.ext,K.ret⟩ ⟨chg g++base,[],bls g,s.fl⟩):Sd P nb N (.loop c) K s:=by
 obtain⟨base,⟨⟨h0,hb,ha⟩,hr⟩,hk⟩:=pI h
 refine Sd.loop (λg=>⟨chg g++base,[],bls g,s.fl⟩) C μ g0 h0 (bBd hb U U λt d ht=>?_) λg hg=>?_
 ·rcases qS ht with h1|⟨h1,h2⟩
  ·exact ha.get h1
  exact⟨d,(hk t d h2).1,.refl d⟩
 intro ρ0 w0 D f w Q hL hD
 exact hr g hg ρ0 w0 D f w Q ⟨λs' ρ' f' w' ⟨g',hc,hm⟩ hD'=>hL.nrm s' ρ' f' w' ⟨g',hc,hm.sub λt d ht=>(hk t d ht).2⟩ hD',hL.ext,hL.ret⟩ hD
theorem vjn (M:Nat->Bool) {σ:Type} (chg:σ->List (Nat×DV)) (bls:σ->BL) (C:σ->Prop) {p:Prop}
 (h:uZ M s.sl λbase=>((p->Sd P nb N a ⟨λs'=>∃g,C g/\Mt M base s.fl s' (chg g) (bls g),K.ext,K.ret⟩ s)/\(¬p->Sd P nb N b ⟨λs'=>∃g,C g/\Mt M base s.fl s' (chg g) (bls g),K.ext,K.ret⟩ s))/\∀g,C g->K.nrm ⟨chg g++base,[],bls g,s.fl⟩):(p->Sd P nb N a K s)/\(¬p->Sd P nb N b K s):=by
 obtain⟨base,⟨⟨h1,h2⟩,h3⟩,hk⟩:=pI h
 have w:∀{c:Code},Sd P nb N c ⟨λs'=>∃g,C g/\Mt M base s.fl s' (chg g) (bls g),K.ext,K.ret⟩ s->Sd P nb N c ⟨To (λg=>⟨chg g++base,[],bls g,s.fl⟩) C,K.ext,K.ret⟩ s:=λ{c} h ρ0 w0 D f w Q hL hD=>
  h ρ0 w0 D f w Q ⟨λs' ρ' f' w' ⟨g',hc,hm⟩ hD'=>hL.nrm s' ρ' f' w' ⟨g',hc,hm.sub λt d ht=>(hk t d ht).2⟩ hD',hL.ext,hL.ret⟩ hD
 exact⟨λh=>(w (h1 h)).to h3,λh=>(w (h2 h)).to h3⟩
end mt
/-! ### what goes out -/
def scC (nb:Nat):CV->Bool
 |.p i _=>Nat.ble (i+1) nb
 |.s i _=>Nat.ble (i+1) nb
 |.t i _ _=>Nat.ble (i+1) nb
 |.f _ fi ca=>(fi++ca).all λp=>Nat.ble (p.1+1) nb
 |_=>true
def scD (nb:Nat):DV->Bool
 |.c c=>scC nb c
 |.a l=>l.all (scC nb)
 |.t l=>l.all λd=>match d with
  |.c c=>scC nb c
  |.a l=>l.all (scC nb)
  |.t _=>false
section fin
variable {D:Pl} {n nb:Nat} {w:World}
theorem Zf.less {b:Nat} (h:Zf D n w b) (hn:nb<=n):Zf D nb w b:=⟨h.lt,λi hi=>h.no i oM,h.z,h.nf⟩
theorem Hc.less {c:CV} {x:Value} (h:Hc D n w c x) (hs:scC nb c=true) (hn:nb<=n):Hc D nb w c x:=by
 cases c with
 |p i o=>obtain⟨_,h2⟩:=h;exact⟨bT hs,h2⟩
 |s i m=>obtain⟨_,h2⟩:=h;exact⟨bT hs,h2⟩
 |t i o m=>obtain⟨_,h2⟩:=h;exact⟨bT hs,h2⟩
 |q A m c esz get j o=>obtain⟨h1,h2⟩:=h;exact⟨h1.mono λb hb=>⟨hb.less hn,U⟩,h2⟩
 |f k fi ca=>obtain⟨h1,h2⟩:=h;exact⟨λp hp=>⟨bT (aX.1 hs p hp),(h1 p hp).2⟩,h2⟩
 |u=>exact Rc.mono h λb hb=>⟨hb.less hn,U⟩
 |v x=>exact Rc.mono h λb hb=>⟨hb.less hn,U⟩
 |h A n c=>exact Rc.mono h λb hb=>⟨hb.less hn,U⟩
 |hp b o=>exact Rc.mono h λb hb=>⟨hb.less hn,U⟩
 |b p q=>exact Rc.mono h λb hb=>⟨hb.less hn,U⟩
 |r A m c esz get=>exact Rc.mono h λb hb=>⟨hb.less hn,U⟩
theorem Hl.less {l:List CV} {vl:List Value} (h:Hl D n w l vl) (hs:∀c∈l,scC nb c=true) (hn:nb<=n):Hl D nb w l vl:=by
 induction l generalizing vl with
 |nil=>cases vl with
  |nil=>trivial
  |cons x vl=>exact h
 |cons c l ih=>cases vl with
  |nil=>exact h
  |cons x vl=>exact⟨h.1.less (hs c (.head _)) hn,ih h.2 λc hc=>hs c (.tail _ hc)⟩
theorem Hd.less {d:DV} {x:Value} (h:Hd D n w d x) (hs:scD nb d=true) (hn:nb<=n):Hd D nb w d x:=by
 cases h with
 |c h=>exact .c (h.less hs hn)
 |a h=>exact .a (h.less (λc hc=>aX.1 hs c hc) hn)
 |t h hh=>
  refine .t h λi d u h1 h2=>?_
  have h3:=aX.1 hs d (aR h1)
  have h4:=hh i d u h1 h2
  cases h4 with
  |c h=>exact .c (h.less h3 hn)
  |a h=>exact .a (h.less (λc hc=>aX.1 h3 c hc) hn)
  |t _ _=>cases h3
def bQx (cl:List Bool) (nb:Nat):Nat->BL->BL->Prop
 |0,_,[]=>True
 |n+1,(T,es,l)::bl,(T',es',l')::bl'=>(T=T'/\es=es'/\l=l'/\bif cl.headD false then l'.all fS=true else l'.all (scC nb)=true)/\bQx cl.tail nb n bl bl'
 |_,_,_=>False
theorem sM {c:CV} (h:fS c=true):scC nb c=true:=by
 cases c<;>first|rfl|cases h
theorem aTp:∀{cl:List Bool} {k:Nat} {bl bl':BL},bQx cl nb k bl bl'->bl'.length=k/\(∀(i:Nat) (T:TypeId) (es:Nat) (l:List CV),bl'[i]? =some (T,es,l)->bl[i]? =some (T,es,l)/\(∀c∈l,scC nb c=true)/\(cl[i]? =some true->∀c∈l,fS c=true))
 |cl,0,bl,[],_=>⟨U,λi T es l h=>by cases h⟩
 |cl,0,[],_::_,h=>h.elim
 |cl,0,_::_,_::_,h=>h.elim
 |cl,k+1,[],bl',h=>by cases bl'<;>exact h.elim
 |cl,k+1,(T0,e0,l0)::bl,[],h=>h.elim
 |cl,k+1,(T0,e0,l0)::bl,(T1,e1,l1)::bl',h=>by
  obtain⟨⟨rfl,rfl,rfl,h1⟩,h2⟩:=h
  obtain⟨k1,k2⟩:=aTp h2
  refine⟨by simp[k1],λi T es l hi=>?_⟩
  cases i with
  |zero=>
   injection hi with hi
   injection hi with e1 e2
   injection e2 with e2 e3
   subst e1 e2 e3
   refine⟨U,?_⟩
   cases cl with
   |nil=>exact⟨λc hc=>aX.1 h1 c hc,λh=>by cases h⟩
   |cons b cl=>
    cases b with
    |true=>exact⟨λc hc=>sM (aX.1 h1 c hc),λ_ c hc=>aX.1 h1 c hc⟩
    |false=>exact⟨λc hc=>aX.1 h1 c hc,λh=>by cases h⟩
  |succ i=>
   obtain⟨a1,a2,a3⟩:=k2 i T es l (by simpa using hi)
   refine⟨by simpa using a1,a2,λh=>a3 ?_⟩
   cases cl with
   |nil=>cases h
   |cons b cl=>simpa using h
theorem nofam {D:Pl}:∀b,Zf D n w b->Zf (⟨D.at',D.Z,[]⟩:Pl) n w b/\w.heap[b]? =w.heap[b]?:=λb h=>⟨⟨h.lt,h.no,h.z,λ⟨F,hF,_⟩=>by cases hF⟩,U⟩
theorem Kp.nofam {D:Pl}:Kp D n w ⟨D.at',D.Z,[]⟩ n w:=⟨aH _,λ_ _=>U,Go.Vy.nofam⟩
theorem DnW.nofam {ρ0 D:Pl} {w0:World} {bl:BL} (h:DnW ρ0 w0 nb bl D w):DnW ρ0 w0 nb bl ⟨D.at',D.Z,[]⟩ w:=
 ⟨λi T es l hi=>(h.ok i T es l hi).kp Kp.nofam (eH hi) λ_ _=>U,h.inj,h.fr,h.nbl,⟨h.rel.os,h.rel.tape,h.rel.output,h.rel.size,h.rel.block⟩,h.pl,h.zz,⟨λF hF=>(by cases hF),λi b _ _ ⟨F,hF,_⟩=>(by cases hF),λf f' F F' j j' b hf=>(by cases hf)⟩,λb ⟨F,hF,_⟩=>(by cases hF)⟩
theorem aI {cl:List Bool} {s:SS} {d:DV} {o:Out} (hd:EqD d o.d) (hs:scD nb o.d=true) (hb:bQx cl nb nb s.bl o.bl):Fin cl nb s d o:=λρ0 w0 D w v hD0 _ hv0=>by
 obtain⟨k1,k2⟩:=aTp hb
 have k3:o.F.bl.length=nb:=k1
 have hD:=hD0.nofam
 have hv:=hv0.kp Kp.nofam
 refine⟨⟨D.at',D.Z,[]⟩,⟨λi T es l hi=>?_,λi j b hi hj=>hD.inj i j b ?_ ?_,λi b h1 h2=>?_,?_,hD.rel,hD.pl,hD.zz,⟨λF hF=>(by cases hF),λi b _ _ ⟨F,hF,_⟩=>(by cases hF),λf f' F F' j j' b hf=>(by cases hf)⟩,λb ⟨F,hF,_⟩=>(by cases hF)⟩,?_,λi T es l hi hc=>(k2 i T es l hi).2.2 hc,U⟩
 ·obtain⟨a1,a2,_⟩:=k2 i T es l hi
  have hq:=hD.ok i T es l a1
  rw[k1]
  unfold Bq at hq ⊢
  cases hb:(D i).1 with
  |none=>simp only[hb] at hq ⊢;exact hq
  |some b=>
   simp only[hb] at hq ⊢
   obtain⟨vl,junk,q1,q2,q3⟩:=hq
   exact⟨vl,junk,q1,q2.less a2 hD.nbl,q3⟩
 ·have:=hD.nbl;omega
 ·have:=hD.nbl;omega
 ·omega
 ·omega
 rw[k1];exact(hd.hd hv).less hs hD.nbl
end fin
theorem oM {p:Prop} (h:p:=by omega):p:=h
theorem bL {a b:Nat} (h:Nat.ble a b=true:=by rfl):a<=b:=bT h
theorem wi {a z:Int} (h:(a=z/\-9223372036854775808<=z/\z<=9223372036854775807):=by (first|omega|(simp only[maxLen] at*;omega))):a=IntKind.i64.wrap z:=by rw[bWa h.2];exact h.1
def rn:List (Nat×Nat)->Nat->Bool
 |[],_=>false
 |(a,b)::l,t=>(Nat.ble a t&&Nat.ble t b)||rn l t
theorem ClB.one {T es:Nat} {l:List CV} (h:l.all fS=true):ClB [true] [(T,es,l)]:=λi T' es' l' hi _ c hc=>by
 cases i with
 |zero=>injection hi with hi;injection hi with _ hi;injection hi with _ hi;subst hi;exact aX.1 h c hc
 |succ i=>cases hi
theorem ClB.nil:ClB [] []:=λi T' es' l' hi _ c hc=>by cases hi
theorem ClB.cons {b:Bool} {cl:List Bool} {T es:Nat} {l:List CV} {bl:BL} (h:b=true->l.all fS=true) (hb:ClB cl bl):ClB (b::cl) ((T,es,l)::bl):=λi T' es' l' hi hc c hcc=>by
 cases i with
 |zero=>injection hi with hi;injection hi with _ hi;injection hi with _ hi;injection hc with hc;subst hi hc;exact aX.1 (h U) c hcc
 |succ i=>exact hb i T' es' l' (by simpa using hi) (by simpa using hc) c hcc
theorem Ctr.arg {P:Program} {q:FuncId} {cl:List Bool} {al al':List DV} {bl:BL} {σ:Type} {R:σ->Out} (h:Ctr P q cl al bl R) (ha:∀D n w vl,HL D n w al' vl->HL D n w al vl):Ctr P q cl al' bl R:=
 ⟨h.ent,h.clb,λD w vals hv hD hF=>h.run D w vals (ha _ _ _ _ hv) hD hF⟩
theorem HL.cons {D:Pl} {n:Nat} {w:World} {d d':DV} {l l':List DV} (hd:∀v,Hd D n w d' v->Hd D n w d v) (hl:∀vl,HL D n w l' vl->HL D n w l vl):∀vl,HL D n w (d'::l') vl->HL D n w (d::l) vl
 |[],h=>h
 |v::vl,h=>⟨hd v h.1,hl vl h.2⟩
theorem Hd.nilr {D:Pl} {n:Nat} {w:World} {e:Nat} {get:Nat->List CV} (v:Value) (h:Hd D n w (.c (.v (.slice none 0 0))) v):Hd D n w (.c (.r none 0 0 e get)) v:=by
 rw[h.inv_c.inv_v]
 exact .c (Rc.nil _ _ _ _ (aB _))
section
variable {P:Program} {nb N:Nat} {cd:Code} {K:Kt} {s:SS}
theorem aXc (t:Nat) {A:Option Addr} {n c e:Nat} {get:Nat->List CV} (ht:gK s.sl t=some (.c (.r A n c e get))) (h:n<=maxLen->Sd P nb N cd K s):Sd P nb N cd K s:=λρ0 w0 D f w Q hL hD=>by
 have:=(hD.f.sl t _ ht).inv_c.inv_r.2
 refine h ?_ ρ0 w0 D f w Q hL hD
 cases this with
 |nil=>exact aB _
 |r b o n c e get V hc hm=>omega
theorem vW (t:Nat) (T es:Nat) (ht:gK s.sl t=some (.c (.v (.slice none 0 0)))) (hes:0<es) (h:rO s.bl (T,es,[]) λbl'=>Sd P nb N cd K ⟨(t,.c (.s (cnt s.bl 0) 0))::s.sl,s.gl,bl',s.fl⟩):Sd P nb N cd K s:=λρ0 w0 D f w Q hL hD=>by
 have h':=mP h
 rw[zD] at h'
 have hp:∀b,((none,0):Option Nat×Nat).1=some b->w.heap.size<=b:=λb hb=>by cases hb
 have kp:Kp D s.bl.length w (xI D s.bl.length (none,0)) (s.bl.length+1) w:=Kp.new hp (Ext.refl w)
 have hn:(s.bl++[(T,es,[])]).length=s.bl.length+1:=by simp
 refine h' ρ0 w0 (xI D s.bl.length (none,0)) f w Q hL ⟨hD.m.new hp (Ext.refl w) ?_,⟨λt' d ht'=>?_,λt' gs d ht'=>?_⟩,hD.l⟩
 ·unfold Bq
  rw[kD]
  exact⟨U,U,hes⟩
 ·show Hd _ (s.bl++[(T,es,[])]).length w d (f t')
  rw[hn]
  simp only[gK] at ht'
  cases hb:Nat.beq t t' with
  |true=>
   rw[hb] at ht'
   injection ht' with ht'
   subst ht'
   have:=aM hb
   subst this
   have he:=(hD.f.sl t _ ht).inv_c.inv_v
   refine .c ⟨aS _,?_⟩
   rw[kD,he]
   rfl
  |false=>rw[hb] at ht';exact(hD.f.sl t' d ht').kp kp
 show(_->Hd _ (s.bl++[(T,es,[])]).length w d (f t'))/\_
 rw[hn]
 exact⟨λhs=>((hD.f.gl t' gs d ht').1 hs).kp kp,(hD.f.gl t' gs d ht').2⟩
/-! ### a loop whose rounds have blocks of their own -/
def aHk:BL->BL->Prop
 |_,[]=>True
 |x::l,[y]=>x=y
 |x::l,y::m=>x=y/\aHk l m
 |[],_::_=>False
theorem vZ:∀{bl bl':BL},aHk bl bl'->∃r,bl=bl'++r
 |bl,[],_=>⟨bl,U⟩
 |[],[_],h=>h.elim
 |[],_::_::_,h=>h.elim
 |x::l,[y],h=>⟨l,by rw[show x=y from h];rfl⟩
 |x::l,y::z::m,h=>by
  obtain⟨h1,h2⟩:=h
  obtain⟨r,hr⟩:=vZ h2
  exact⟨r,by rw[h1,hr];rfl⟩
def scB (n:Nat) (bl:BL):Prop:=∀(i:Nat) (T:TypeId) (es:Nat) (l:List CV),bl[i]? =some (T,es,l)->∀c∈l,scC n c=true
theorem scB.nil {n:Nat}:scB n []:=λi T es l h=>by cases h
theorem scB.cons {n T es:Nat} {l:List CV} {bl:BL} (h:l.all (scC n)=true) (hb:scB n bl):scB n ((T,es,l)::bl):=λi T' es' l' hi c hc=>by
 cases i with
 |zero=>injection hi with hi;injection hi with _ hi;injection hi with _ hi;subst hi;exact aX.1 h c hc
 |succ i=>exact hb i T' es' l' (by simpa using hi) c hc
theorem DnW.drop {ρ0 D:Pl} {w0 w:World} {bl r:BL} (hD:DnW ρ0 w0 nb (bl++r) D w) (hs:scB bl.length bl) (hnb:nb<=bl.length):DnW ρ0 w0 nb bl D w:=by
 have hn:bl.length<=(bl++r).length:=by simp
 refine⟨λi T es l hi=>?_,λi j b hi hj=>hD.inj i j b oM oM,λi b h1 h2=>hD.fr i b h1 oM,hnb,hD.rel,hD.pl,hD.zz,hD.fam.mono U (λb hb=>⟨hb.less hn,U⟩) (λ_ _=>U) λi b hi hb=>hD.fam.own i b oM hb,hD.ffr⟩
 have hq:=hD.ok i T es l (by rw[aV (eH hi)];exact hi)
 unfold Bq at hq ⊢
 cases hb:(D i).1 with
 |none=>simp only[hb] at hq ⊢;exact hq
 |some b=>
  simp only[hb] at hq ⊢
  obtain⟨vl,junk,q1,q2,q3⟩:=hq
  exact⟨vl,junk,q1,q2.less (hs i T es l hi) hn,q3⟩
def MtD (M:Nat->Bool) (base:List (Nat×DV)) (fl:List Fam) (s:SS) (chg:List (Nat×DV)) (bl:BL):Prop:=wZ M base fl s.fl s.sl/\aHk s.bl bl/\AllC s.sl chg
theorem vE {n:Nat} {l:List (Nat×DV)} (h:l.all (λe=>scD n e.2)=true) {t:Nat} {d:DV} (ht:gK l t=some d):scD n d=true:=by
 induction l with
 |nil=>cases ht
 |cons e l ih=>
  obtain⟨t0,d0⟩:=e
  simp only[List.all_cons,aQ] at h
  unfold gK at ht
  cases hb:Nat.beq t0 t with
  |true=>rw[hb] at ht;injection ht with ht;subst ht;exact h.1
  |false=>rw[hb] at ht;exact ih h.2 ht
theorem xW {s s':SS} {r:BL} (hb:s.bl=s'.bl++r) (hl:s.fl=s'.fl) (hg:s'.gl=[]) (hsc:scB s'.bl.length s'.bl) (h:∀t d,gK s'.sl t=some d->(∃d0,gK s.sl t=some d0/\EqD d0 d)/\scD s'.bl.length d=true):∀ρ0 w0 nb D f w,nb<=s'.bl.length->Dn ρ0 w0 nb s D f w->Dn ρ0 w0 nb s' D f w:=λρ0 w0 nb D f w hnb hD=>by
 have hm:=hD.m
 rw[hb] at hm
 refine⟨hm.drop hsc hnb,⟨λt d ht=>?_,λt gs d ht=>?_⟩,hD.l.trans hl⟩
 ·obtain⟨⟨d0,h1,h2⟩,h3⟩:=h t d ht
  have:=h2.hd (hD.f.sl t d0 h1)
  rw[hb] at this
  exact this.less h3 (by simp)
 rw[hg] at ht;cases ht
theorem bBe {c:Code} (M:Nat->Bool) {σ:Type} (n0:Nat) (chg:σ->List (Nat×DV)) (bls:σ->BL) (C:σ->Prop) (μ:σ->Nat) (g0:σ) (hn:∀g,(bls g).length=n0) (hnb:nb<=n0) (hsc:∀g,scB n0 (bls g)) (hcg:∀g,(chg g).all (λe=>scD n0 e.2)=true)
 (h:uZ M s.sl λbase=>(base.all (λe=>scD n0 e.2)=true/\C g0/\aHk s.bl (bls g0)/\AllC s.sl (chg g0))/\∀g,C g->Sd P nb N c ⟨λs'=>∃g',(C g'/\μ g'<μ g)/\MtD M base s.fl s' (chg g') (bls g'),K.ext,K.ret⟩ ⟨chg g++base,[],bls g,s.fl⟩):Sd P nb N (.loop c) K s:=by
 obtain⟨base,⟨⟨hbs,h0,hb,ha⟩,hr⟩,hk⟩:=pI h
 have hall:∀g t d,gK (chg g++base) t=some d->scD n0 d=true:=λg t d ht=>by
  rcases qS ht with h1|⟨_,h2⟩
  ·exact vE (hcg g) h1
  exact vE hbs h2
 intro ρ0 w0 D f w Q hL hD
 refine aMu (σ:=σ) (λg f w=>C g/\∃D,Dn ρ0 w0 nb ⟨chg g++base,[],bls g,s.fl⟩ D f w) μ g0 ⟨h0,D,?_⟩ λg f w ⟨hc,D,hD⟩=>?_
 ·obtain⟨r,hr'⟩:=vZ hb
  refine xW (s:=s) (s':=⟨chg g0++base,[],bls g0,s.fl⟩) (r:=r) hr' U U (by rw[hn];exact hsc g0) (λt d ht=>⟨?_,by rw[hn];exact hall g0 t d ht⟩) ρ0 w0 nb D f w (by rw[hn];exact hnb) hD
  rcases qS ht with h1|⟨h1,h2⟩
  ·exact ha.get h1
  exact⟨d,(hk t d h2).1,.refl d⟩
 refine hr g hc ρ0 w0 D f w _ ⟨λs' ρ' f' w' ⟨g',⟨hc',hlt⟩,hm⟩ hD'=>⟨g',⟨hc',ρ',?_⟩,hlt⟩,hL.ext,hL.ret⟩ hD
 obtain⟨r,hr'⟩:=vZ hm.2.1
 refine xW (s:=s') (s':=⟨chg g'++base,[],bls g',s.fl⟩) (r:=r) hr' (qR hm.1).2 rfl (by rw[hn];exact hsc g') (λt d ht=>⟨?_,by rw[hn];exact hall g' t d ht⟩) ρ0 w0 nb ρ' f' w' (by rw[hn];exact hnb) hD'
 rcases qS ht with h1|⟨h1,h2⟩
 ·exact hm.2.2.get h1
 exact⟨d,by rw[(qR hm.1).1 t (hk t d h2).2];exact h2,.refl d⟩
end
end Go.Vy
abbrev eW := @Go.Vy.ClB.one
abbrev aU := @Go.Vy.scB.nil
abbrev aA := @Go.Vy.scB.cons
namespace Go.Vy
open Go.Vg Go.RowKit
def Tgt (nb:Nat) (X:SS->Prop):Prop:=∀(s:SS) (σ:Type) (S:σ->SS) (C:σ->Prop),Gt nb s S C->(∀g,C g->X (S g))->X s
section gt
variable {P:Program} {nb N:Nat} {cd c:Code} {K:Kt} {s:SS} {X:SS->Prop}
theorem tSd:Tgt nb (Sd P nb N cd K):=λs σ S C h hk ρ0 w0 D f w Q hL hD=>by
 obtain⟨g,ρ',hC,hD'⟩:=h ρ0 w0 D f w hD
 exact hk g hC ρ0 w0 ρ' f w Q hL hD'
theorem tGt {σ:Type} {S:σ->SS} {C:σ->Prop}:Tgt nb λs=>Gt nb s S C:=λs σ S C h hk ρ0 w0 D f w hD=>by
 obtain⟨g,ρ',hC,hD'⟩:=h ρ0 w0 D f w hD
 exact hk g hC ρ0 w0 ρ' f w hD'
theorem Tgt.one (hX:Tgt nb X) {s':SS} (h:∀ρ0 w0 D f w,Dn ρ0 w0 nb s D f w->∃ρ',Dn ρ0 w0 nb s' ρ' f w) (hk:X s'):X s:=
 hX s Unit (λ_=>s') (λ_=>True) (λρ0 w0 D f w hD=>by obtain⟨ρ',h'⟩:=h ρ0 w0 D f w hD;exact⟨(),ρ',U1,h'⟩) λ_ _=>hk
theorem aOe (hX:Tgt nb X) (t i:Nat) {n T es:Nat} {l:List CV} (get:Nat->List CV) (ht:gK s.sl t=some (.c (.s i n))) (hb:s.bl[i]? =some (T,es,l)) (hg:∀j,j<n->get j=(l.drop (j*es)).take es) (hl:n*es=l.length) (hes:0<es) (hclo:∀c∈l,fS c=true) (hnb:nb<=i)
 (h:∀A c,n<=c->c<=maxLen->xQ i s λs'=>nK s'.bl i (T,es,[]) λbl'=>X ⟨(t,.c (.r A n c es get))::s'.sl,[],bl',s'.fl⟩):X s:=by
 refine hX s SS (λg=>g) X (λρ0 w0 D f w hD=>?_) λg hg=>hg
 obtain⟨A,c,s',ρ',k1,k2,_,k4,k5,k6⟩:=aFr hD i get (hD.f.sl t _ ht).inv_c hb hg hl hes hclo hnb (kk:=λA c s'=>X ⟨(t,.c (.r A n c es get))::s'.sl,[],s'.bl,s'.fl⟩) h
 refine⟨_,ρ',k1,k2.m,⟨λt' d ht'=>?_,λt' gs d ht'=>by cases ht'⟩,k2.l⟩
 simp only[gK] at ht'
 cases hb':Nat.beq t t' with
 |true=>
  rw[hb'] at ht'
  injection ht' with ht'
  subst ht'
  have:=aM hb'
  subst this
  rw[<-k4] at k6
  exact .c k6
 |false=>rw[hb'] at ht';exact k2.f.sl t' d ht'
theorem Hl.setv {D:Pl} {n:Nat} {w:World} {l:List CV} {vl:List Value} (h:Hl D n w l vl) {k:Nat} {c:CV} (hc:∀x,vl[k]? =some x->Hc D n w c x):Hl D n w (l.set k c) vl:=by
 refine Hl.of_get (by rw[cC,h.len]) λi c' u hc' hu=>?_
 rcases lT hc' with ⟨rfl,rfl,_⟩|⟨_,h2⟩
 ·exact hc u hu
 obtain⟨x,h3,h4⟩:=h.get h2
 rw[hu] at h3
 injection h3 with h3
 subst h3
 exact h4
theorem bMw (hX:Tgt nb X) (t k i:Nat) {n T es:Nat} {l:List CV} {r:List CV} (get:Nat->List CV) (ht:gK s.sl t=some (.a r)) (hk:r[k]? =some (.s i n)) (ho:((r.set k .u).all λc=>!kS i c)=true) (hb:s.bl[i]? =some (T,es,l)) (hg:∀j,j<n->get j=(l.drop (j*es)).take es) (hl:n*es=l.length) (hes:0<es) (hclo:∀c∈l,fS c=true) (hnb:nb<=i)
 (h:∀A c,n<=c->c<=maxLen->xQ i s λs'=>nK s'.bl i (T,es,[]) λbl'=>X ⟨(t,.a (r.set k (.r A n c es get)))::s'.sl,[],bl',s'.fl⟩):X s:=by
 refine hX s SS (λg=>g) X (λρ0 w0 D f w hD=>?_) λg hg=>hg
 obtain⟨vl,hvl,hrl⟩:=(hD.f.sl t _ ht).inv_a
 obtain⟨x,hx,hcx⟩:=hrl.get hk
 obtain⟨A,c,s',ρ',k1,k2,k3,k4,k5,k6⟩:=aFr hD i get hcx hb hg hl hes hclo hnb (kk:=λA c s'=>X ⟨(t,.a (r.set k (.r A n c es get)))::s'.sl,[],s'.bl,s'.fl⟩) h
 refine⟨_,ρ',k1,k2.m,⟨λt' d ht'=>?_,λt' gs d ht'=>by cases ht'⟩,k2.l⟩
 simp only[gK] at ht'
 cases hb':Nat.beq t t' with
 |true=>
  rw[hb'] at ht'
  injection ht' with ht'
  subst ht'
  have:=aM hb'
  subst this
  rw[<-k4] at k6
  rw[hvl]
  refine .a ?_
  have h1:Hl ρ' s'.bl.length w (r.set k .u) vl:=by
   rw[k4]
   refine Hl.kx (D:=D) (w:=w) (hrl.setv λx _=>Rc.u x) k3 λc hc=>?_
   have:=aX.1 ho c hc
   simpa using this
  have h2:=h1.setv (k:=k) (c:=.r A n c es get) λy hy=>by
   rw[hx] at hy
   injection hy with hy
   subst hy
   exact k6
  rwa [List.set_set] at h2
 |false=>rw[hb'] at ht';exact k2.f.sl t' d ht'
theorem nS (t i:Nat) {n T es:Nat} {l:List CV} (get:Nat->List CV) (ht:gK s.sl t=some (.c (.s i n))) (hb:s.bl[i]? =some (T,es,l)) (hg:∀j,j<n->get j=(l.drop (j*es)).take es) (hl:n*es=l.length) (hes:0<es) (hclo:∀c∈l,fS c=true) (hnb:nb<=i)
 (h:∀A c,n<=c->c<=maxLen->xQ i s λs'=>nK s'.bl i (T,es,[]) λbl'=>Sd P nb N cd K ⟨(t,.c (.r A n c es get))::s'.sl,[],bl',s'.fl⟩):Sd P nb N cd K s:=aOe tSd t i get ht hb hg hl hes hclo hnb h
/-! ### families said otherwise -/
def Inj (fl:List Fam):Prop:=∀(f f':Nat) (F F':Fam) (j j' b:Nat),fl[f]? =some F->fl[f']? =some F'->j<F.N->j'<F'.N->F.A j=some b->F'.A j'=some b->f=f'/\j=j'
structure Fsub (fl fl':List Fam):Prop where
 sub:∀(f':Nat) (F':Fam),fl'[f']? =some F'->0<F'.es/\∀j',j'<F'.N->(F'.A j'=none/\F'.get j'=[]/\F'.cap j'=0)\/∃(f:Nat) (F:Fam) (j:Nat),fl[f]? =some F/\j<F.N/\F.A j=F'.A j'/\F.cap j=F'.cap j'/\F.get j=F'.get j'/\F.T=F'.T/\F.es=F'.es
 inj:Inj fl->Inj fl'
theorem Dn.fsub {ρ0 D:Pl} {w0 w:World} {f:Nat->Value} (hD:Dn ρ0 w0 nb s D f w) {fl':List Fam} (hs:Fsub s.fl fl'):∃ρ',Dn ρ0 w0 nb ⟨s.sl,s.gl,s.bl,fl'⟩ ρ' f w:=by
 have hl:=hD.l
 have hin:∀b,InL fl' b->InF D b:=λb ⟨F',hF',j',hj',hb⟩=>by
  obtain⟨f',hf'⟩:=cV hF'
  rcases (hs.sub f' F' hf').2 j' hj' with ⟨h1,_⟩|⟨f0,F,j,h1,h2,h3,_⟩
  ·rw[h1] at hb;cases hb
  exact⟨F,by rw[hl];exact aR h1,j,h2,by rw[h3];exact hb⟩
 have hz:∀b,Zf D s.bl.length w b->Zf ⟨D.at',D.Z,fl'⟩ s.bl.length w b/\w.heap[b]? =w.heap[b]?:=λb hb=>⟨⟨hb.lt,hb.no,hb.z,λhi=>hb.nf (hin b hi)⟩,U⟩
 have kp:Kp D s.bl.length w ⟨D.at',D.Z,fl'⟩ s.bl.length w:=⟨aH _,λ_ _=>U,hz⟩
 refine⟨⟨D.at',D.Z,fl'⟩,⟨λi T es l hi=>(hD.m.ok i T es l hi).kp kp (eH hi) λ_ _=>U,hD.m.inj,hD.m.fr,hD.m.nbl,⟨hD.m.rel.os,hD.m.rel.tape,hD.m.rel.output,hD.m.rel.size,hD.m.rel.block⟩,hD.m.pl,hD.m.zz,⟨λF hF=>?_,λi b hi hb hf=>hD.m.fam.own i b hi hb (hin b hf),?_⟩,λb hb=>hD.m.ffr b (hin b hb)⟩,hD.f.kp U U kp,U⟩
 ·obtain⟨f',hf'⟩:=cV hF
  refine⟨(hs.sub f' F hf').1,λj' hj'=>?_⟩
  rcases (hs.sub f' F hf').2 j' hj' with ⟨h1,h2,h3⟩|⟨f0,F0,j,h1,h2,h3,h4,h5,h6,h7⟩
  ·unfold Mq
   simp only[h1]
   exact⟨h2,h3⟩
  have:=(hD.m.fam.mem hl h1 h2).mono hz λ_ _=>U
  unfold Mq at this ⊢
  rw[h3,h4,h5,h6,h7] at this
  exact this
 exact hs.inj (by have:=hD.m.fam.inj;rw[hl] at this;exact this)
def aAc (F:Fam):Fam:=⟨F.T,F.es,0,F.A,F.cap,F.get⟩
theorem aFy {ρ0 D:Pl} {w0 w:World} {f:Nat->Value} (hD:Dn ρ0 w0 nb s D f w) {g:Nat} {F:Fam} (h:s.fl[g]? =some F):0<F.es:=(hD.m.fam.ok F (by rw[hD.l];exact aR h)).1
theorem aXd (hX:Tgt nb X) (T es N:Nat) (hes:0<es) (h:rO s.fl ⟨T,es,N,λ_=>none,λ_=>0,λ_=>[]⟩ λfl'=>X ⟨s.sl,s.gl,s.bl,fl'⟩):X s:=by
 refine hX s Unit (λ_=>⟨s.sl,s.gl,s.bl,s.fl++[⟨T,es,N,λ_=>none,λ_=>0,λ_=>[]⟩]⟩) (λ_=>True) (λρ0 w0 D f w hD=>?_) λ_ _=>mP h
 have hs:Fsub s.fl (s.fl++[⟨T,es,N,λ_=>none,λ_=>0,λ_=>[]⟩]):=⟨λf' F' hf'=>?_,λhi f1 f2 F1 F2 j1 j2 b h1 h2 h3 h4 h5 h6=>?_⟩
 ·obtain⟨ρ',h'⟩:=hD.fsub hs
  exact⟨(),ρ',U1,h'⟩
 ·rcases sH hf' with ⟨_,rfl⟩|⟨_,h2⟩
  ·exact⟨hes,λj' _=> .inl ⟨U,U,U⟩⟩
  exact⟨aFy hD h2,λj' hj'=> .inr ⟨f',F',j',h2,hj',U,U,U,U,U⟩⟩
 rcases sH h1 with ⟨_,rfl⟩|⟨_,h1'⟩
 ·cases h5
 rcases sH h2 with ⟨_,rfl⟩|⟨_,h2'⟩
 ·cases h6
 exact hi f1 f2 F1 F2 j1 j2 b h1' h2' h3 h4 h5 h6
theorem bQy (hX:Tgt nb X) (f g j:Nat) {F G:Fam} (hf:s.fl[f]? =some F) (hg:s.fl[g]? =some G) (hne:Nat.beq f g=false) (hj:j<F.N) (hA:F.A j=none) (hG:0<G.N) (hT:G.T=F.T) (hes:G.es=F.es)
 (h:nK s.fl f ⟨F.T,F.es,F.N,upd F.A j (G.A 0),upd F.cap j (G.cap 0),upd F.get j (G.get 0)⟩ λfl1=>nK fl1 g (aAc G) λfl2=>X ⟨s.sl,s.gl,s.bl,fl2⟩):X s:=by
 have hne':f≠g:=λe=>by subst e;rw[gV] at hne;cases hne
 have hk:=iL (iL h)
 have hfl:f<s.fl.length:=eH hf
 have hgl:g<s.fl.length:=eH hg
 have hat:∀(x:Nat) (Y:Fam),((s.fl.set f ⟨F.T,F.es,F.N,upd F.A j (G.A 0),upd F.cap j (G.cap 0),upd F.get j (G.get 0)⟩).set g (aAc G))[x]? =some Y->(x=g/\Y=aAc G)\/(x=f/\Y=⟨F.T,F.es,F.N,upd F.A j (G.A 0),upd F.cap j (G.cap 0),upd F.get j (G.get 0)⟩)\/(x≠g/\x≠f/\s.fl[x]? =some Y):=λx Y hx=>by
  rcases rX hx (by rw[cC];exact hgl) with h1|⟨h1,h2⟩
  ·exact .inl h1
  rcases rX h2 hfl with h3|⟨h3,h4⟩
  ·exact .inr (.inl h3)
  exact .inr (.inr ⟨h1,h3,h4⟩)
 refine hX s Unit (λ_=>⟨s.sl,s.gl,s.bl,_⟩) (λ_=>True) (λρ0 w0 D f0 w hD=>?_) λ_ _=>hk
 have hs:Fsub s.fl ((s.fl.set f ⟨F.T,F.es,F.N,upd F.A j (G.A 0),upd F.cap j (G.cap 0),upd F.get j (G.get 0)⟩).set g (aAc G)):=⟨λf' F' hf'=>?_,λhi f1 f2 F1 F2 j1 j2 b h1 h2 h3 h4 h5 h6=>?_⟩
 ·obtain⟨ρ',h'⟩:=hD.fsub hs
  exact⟨(),ρ',U1,h'⟩
 ·rcases hat f' F' hf' with ⟨_,rfl⟩|⟨_,rfl⟩|⟨_,_,h3⟩
  ·exact⟨show 0<G.es from aFy hD hg,λj' hj'=>U4 hj' (aF _)⟩
  ·refine⟨show 0<F.es from aFy hD hf,λj' hj'=> .inr ?_⟩
   by_cases e:j'=j
   ·subst e;exact⟨g,G,0,hg,hG,bF.symm,bF.symm,bF.symm,hT,hes⟩
   exact⟨f,F,j',hf,hj',(aY e).symm,(aY e).symm,(aY e).symm,U,U⟩
  exact⟨aFy hD h3,λj' hj'=> .inr ⟨f',F',j',h3,hj',U,U,U,U,U⟩⟩
 have src:∀(x:Nat) (Y:Fam) (y:Nat),((s.fl.set f ⟨F.T,F.es,F.N,upd F.A j (G.A 0),upd F.cap j (G.cap 0),upd F.get j (G.get 0)⟩).set g (aAc G))[x]? =some Y->y<Y.N->Y.A y=some b->(x=f/\y=j/\G.A 0=some b)\/(x≠g/\∃Y0:Fam,s.fl[x]? =some Y0/\y<Y0.N/\Y0.A y=some b):=λx Y y hx hy hb=>by
  rcases hat x Y hx with ⟨_,rfl⟩|⟨rfl,rfl⟩|⟨a1,_,a3⟩
  ·exact U4 hy (aF _)
  ·by_cases e:y=j
   ·subst e
    have hb':G.A 0=some b:=by rw[<-hb];exact bF.symm
    exact .inl ⟨U,U,hb'⟩
   have hb':F.A y=some b:=by rw[<-hb];exact(aY e).symm
   exact .inr ⟨hne',F,hf,hy,hb'⟩
  exact .inr ⟨a1,Y,a3,hy,hb⟩
 rcases src f1 F1 j1 h1 h3 h5 with ⟨a1,a2,a3⟩|⟨a0,Y1,a1,a2,a3⟩<;>rcases src f2 F2 j2 h2 h4 h6 with ⟨c1,c2,c3⟩|⟨c0,Y2,c1,c2,c3⟩
 ·exact⟨a1.trans c1.symm,a2.trans c2.symm⟩
 ·exact U4 (hi f2 g Y2 G j2 0 b c1 hg c2 hG c3 a3).1 c0
 ·exact U4 (hi f1 g Y1 G j1 0 b a1 hg a2 hG a3 c3).1 a0
 exact hi f1 f2 Y1 Y2 j1 j2 b a1 c1 a2 c2 a3 c3
theorem cAy (hX:Tgt nb X) (f:Nat) {F:Fam} (hf:s.fl[f]? =some F) (h:(∀j,j<F.N->F.get j≠[]->∃b,F.A j=some b)->X s):X s:=by
 refine hX s Unit (λ_=>s) (λ_=>∀j,j<F.N->F.get j≠[]->∃b,F.A j=some b) (λρ0 w0 D f0 w hD=>⟨(),D,λj hj hne=>?_,hD⟩) λ_=>h
 have hm:=hD.m.fam.mem hD.l hf hj
 unfold Mq at hm
 cases hA:F.A j with
 |none=>simp only[hA] at hm;exact U4 hm.1 hne
 |some b=>exact⟨b,U⟩
/-! ### cells said otherwise -/
def LeC (c c':CV):Prop:=∀D n w x,Hc D n w c x->Hc D n w c' x
theorem LeC.refl (c:CV):LeC c c:=λ_ _ _ _ h=>h
theorem LeC.nilh:LeC (.v (.slice none 0 0)) (.h none 0 0):=λD n w x h=>by rw[h.inv_v];exact Rc.h none 0 0
theorem Hl.le {D:Pl} {n:Nat} {w:World} {l l':List CV} {vl:List Value} (h:Hl D n w l vl) (hl:l'.length=l.length) (hc:∀(k:Nat) (c c':CV),l[k]? =some c->l'[k]? =some c'->LeC c c'):Hl D n w l' vl:=by
 refine Hl.of_get (by rw[hl,h.len]) λi c' u hc' hu=>?_
 have hlt:i<l.length:=by rw[<-hl];exact eH hc'
 obtain⟨x,h1,h2⟩:=h.get (aG hlt)
 rw[hu] at h1
 injection h1 with h1
 subst h1
 exact hc i _ c' (aG hlt) hc' _ _ _ _ h2
theorem gJ (hX:Tgt nb X) (i:Nat) {T es:Nat} {l:List CV} (l':List CV) (hb:s.bl[i]? =some (T,es,l)) (hl:l'.length=l.length) (hc:∀(k:Nat) (c c':CV),l[k]? =some c->l'[k]? =some c'->LeC c c') (h:nK s.bl i (T,es,l') λbl'=>X ⟨s.sl,s.gl,bl',s.fl⟩):X s:=by
 refine hX.one (s':=⟨s.sl,s.gl,s.bl.set i (T,es,l'),s.fl⟩) (λρ0 w0 D f w hD=>⟨D,⟨λj T2 e2 l2 hj=>?_,?_,?_,?_,hD.m.rel,hD.m.pl,hD.m.zz,?_,hD.m.ffr⟩,?_,hD.l⟩) (iL h)
 ·rw[cC]
  rcases lT hj with ⟨rfl,h2,_⟩|⟨_,h2⟩
  ·injection h2 with h2 h3
   injection h3 with h3 h4
   subst h2 h3 h4
   have hq:=hD.m.ok j _ _ l hb
   unfold Bq at hq ⊢
   cases hρ:(D j).1 with
   |none=>
    simp only[hρ] at hq ⊢
    exact⟨bQ (by rw[hl,hq.1];rfl),hq.2⟩
   |some b=>
    simp only[hρ] at hq ⊢
    obtain⟨vl,junk,q1,q2,q3⟩:=hq
    exact⟨vl,junk,q1,q2.le hl hc,q3⟩
  exact hD.m.ok j T2 e2 l2 h2
 ·simpa using hD.m.inj
 ·simpa using hD.m.fr
 ·simpa using hD.m.nbl
 ·simp only[cC];exact hD.m.fam
 exact hD.f.kp U U (by simp only[cC];exact Kp.refl)
/-! ### an own slice becomes a family of one -/
def qC (i:Nat) (A:Option Nat) (a:Nat):CV->CV
 |.s j n=>bif Nat.beq j i then .h A n a else .s j n
 |.p j o=>bif Nat.beq j i then .u else .p j o
 |.t j o n=>bif Nat.beq j i then .u else .t j o n
 |.f q fi ca=>bif (fi++ca).any (λp=>Nat.beq p.1 i) then .u else .f q fi ca
 |c=>c
def bWn (φ:CV->CV):DV->DV
 |.c c=> .c (φ c)
 |.a l=> .a (l.map φ)
 |.t l=> .t (l.map λd=>match d with
  |.c c=> .c (φ c)
  |.a l=> .a (l.map φ)
  |.t _=> .c .u)
def aXe (φ:CV->CV):List (Nat×DV)->(List (Nat×DV)->Prop)->Prop
 |[],k=>k []
 |(t,d)::l,k=>aXe φ l λr=>k ((t,bWn φ d)::r)
def aHl (φ:CV->CV) (i:Nat):Nat->BL->(BL->Prop)->Prop
 |_,[],k=>k []
 |j,(T,es,l)::r,k=>bif Nat.beq j i then aHl φ i (j+1) r λr'=>k ((T,es,[])::r') else
  bif Nat.beq es 0 then aHl φ i (j+1) r λr'=>k ((T,es,l.map φ)::r') else ∃l',l.map φ=l'/\aHl φ i (j+1) r λr'=>k ((T,es,l')::r')
section map
variable {D ρ':Pl} {n:Nat} {w:World} {φ:CV->CV} (hφ:∀c x,Hc D n w c x->Hc ρ' n w (φ c) x)
include hφ
theorem Hl.mapc {l:List CV} {vl:List Value} (h:Hl D n w l vl):Hl ρ' n w (l.map φ) vl:=by
 induction l generalizing vl with
 |nil=>cases vl with
  |nil=>trivial
  |cons x vl=>exact h
 |cons c l ih=>cases vl with
  |nil=>exact h
  |cons x vl=>exact⟨hφ c x h.1,ih h.2⟩
theorem Hd.mapc {d:DV} {x:Value} (h:Hd D n w d x):Hd ρ' n w (bWn φ d) x:=by
 cases h with
 |c h=>exact .c (hφ _ _ h)
 |a h=>exact .a (h.mapc hφ)
 |t h hh=>
  refine .t (by simpa using h) λi d u h1 h2=>?_
  rw[dQ] at h1
  obtain⟨d0,h3,h4⟩:=Option.map_eq_some_iff.1 h1
  subst h4
  cases hh i d0 u h3 h2 with
  |c h=>exact .c (hφ _ _ h)
  |a h=>exact .a (h.mapc hφ)
  |t _ _=>exact .c (Rc.u _)
theorem aJy:∀{sl:List (Nat×DV)} {k:List (Nat×DV)->Prop},aXe φ sl k->∃sl',k sl'/\∀t d',gK sl' t=some d'->∃d,gK sl t=some d/\∀x,Hd D n w d x->Hd ρ' n w d' x
 |[],k,h=>⟨[],h,λt d' h=>by cases h⟩
 |(t0,d0)::l,k,h=>by
  obtain⟨sl',h1,h2⟩:=aJy (show aXe φ l _ from h)
  refine⟨_,h1,λt d' ht=>?_⟩
  unfold gK at ht ⊢
  cases hb:Nat.beq t0 t with
  |true=>simp only[hb,cond_true] at ht ⊢;injection ht with ht;subst ht;exact⟨d0,U,λx hx=>hx.mapc hφ⟩
  |false=>simp only[hb,cond_false] at ht ⊢;exact h2 t d' ht
theorem aBk {i:Nat}:∀{bl:BL} {j:Nat} {k:BL->Prop},aHl φ i j bl k->∃bl',k bl'/\bl'.length=bl.length/\∀(m:Nat) (T:TypeId) (es:Nat) (l':List CV),bl'[m]? =some (T,es,l')->∃l,bl[m]? =some (T,es,l)/\(j+m=i->l'=[])/\(j+m≠i->l'.length=l.length/\∀vl,Hl D n w l vl->Hl ρ' n w l' vl)
 |[],j,k,h=>⟨[],h,U,λm T es l' h=>by cases h⟩
 |(T0,es0,l0)::r,j,k,h=>by
  have step:∀l0' r',(∀(m:Nat) (T:TypeId) (es:Nat) (l':List CV),r'[m]? =some (T,es,l')->∃l,r[m]? =some (T,es,l)/\(j+1+m=i->l'=[])/\(j+1+m≠i->l'.length=l.length/\∀vl,Hl D n w l vl->Hl ρ' n w l' vl))->
   (j=i->l0'=[])->(j≠i->l0'.length=l0.length/\∀vl,Hl D n w l0 vl->Hl ρ' n w l0' vl)->
   ∀(m:Nat) (T:TypeId) (es:Nat) (l':List CV),((T0,es0,l0')::r')[m]? =some (T,es,l')->∃l,((T0,es0,l0)::r)[m]? =some (T,es,l)/\(j+m=i->l'=[])/\(j+m≠i->l'.length=l.length/\∀vl,Hl D n w l vl->Hl ρ' n w l' vl):=by
   intro l0' r' hr h1 h2 m T es l' hm
   cases m with
   |zero=>
    injection hm with hm
    injection hm with e1 e2
    injection e2 with e2 e3
    subst e1 e2 e3
    exact⟨l0,U,by simpa using h1,by simpa using h2⟩
   |succ m=>
    obtain⟨l,a1,a2,a3⟩:=hr m T es l' hm
    exact⟨l,a1,λhe=>a2 oM,λhe=>a3 oM⟩
  unfold aHl at h
  cases hb:Nat.beq j i with
  |true=>
   have e:=aM hb
   rw[hb] at h
   obtain⟨r',h1,h2,h3⟩:=aBk (show aHl φ i (j+1) r _ from h)
   exact⟨_,h1,by simp[h2],step [] r' h3 (λ_=>U) (λhne=>U4 e hne)⟩
  |false=>
   have hne:=pA hb
   rw[hb] at h
   simp only[cond_false] at h
   cases hz:Nat.beq es0 0 with
   |true=>
    rw[hz] at h
    obtain⟨r',h1,h2,h3⟩:=aBk (show aHl φ i (j+1) r _ from h)
    exact⟨_,h1,by simp[h2],step _ r' h3 (λhe=>U4 he hne) λ_=>⟨by simp,λvl hl=>hl.mapc hφ⟩⟩
   |false=>
    rw[hz] at h
    obtain⟨l',h0,h⟩:=h
    subst h0
    obtain⟨r',h1,h2,h3⟩:=aBk h
    exact⟨_,h1,by simp[h2],step _ r' h3 (λhe=>U4 he hne) λ_=>⟨by simp,λvl hl=>hl.mapc hφ⟩⟩
end map
theorem Hc.sink {D ρ':Pl} {n i:Nat} {w:World} (k:Kx i D n w ρ' w) {A:Option Nat} {a:Nat} (hp:D i=(A,a)) (c:CV) (x:Value) (h:Hc D n w c x):Hc ρ' n w (qC i A a c) x:=by
 cases hm:kS i c with
 |false=>
  have e:qC i A a c=c:=by
   cases c with
   |s j m=>simp only[kS] at hm;simp only[qC,hm,cond_false]
   |p j o=>simp only[kS] at hm;simp only[qC,hm,cond_false]
   |t j o m=>simp only[kS] at hm;simp only[qC,hm,cond_false]
   |f q fi ca=>simp only[kS] at hm;simp only[qC,hm,cond_false]
   |_=>rfl
  rw[e]
  exact h.kx k hm
 |true=>
  cases c with
  |s j m=>
   simp only[kS] at hm
   simp only[qC,hm,cond_true]
   have:=aM hm
   subst this
   obtain⟨_,h2⟩:=h
   rw[h2,hp]
   exact Rc.h A m a
  |p j o=>simp only[kS] at hm;simp only[qC,hm,cond_true];exact Rc.u x
  |t j o m=>simp only[kS] at hm;simp only[qC,hm,cond_true];exact Rc.u x
  |f q fi ca=>simp only[kS] at hm;simp only[qC,hm,cond_true];exact Rc.u x
  |u=>cases hm
  |v y=>cases hm
  |h A n c=>cases hm
  |hp b o=>cases hm
  |b p q=>cases hm
  |r A m c e get=>cases hm
  |q A m c e get j o=>cases hm
theorem aIf {D:Pl} {n:Nat} {w:World} {c:CV} {x:Value} (h:Hc D n w c x) (hc:fS c=true):Rc (Zf D n w) w c x:=by
 cases c with
 |u=>exact h
 |v y=>exact h
 |h A n c=>exact h
 |hp b o=>exact h
 |b p q=>exact h
 |r A m c e get=>exact h
 |p i o=>cases hc
 |s i m=>cases hc
 |q A m c e get j o=>cases hc
 |t i o m=>cases hc
 |f k fi ca=>cases hc
theorem kT (hX:Tgt nb X) (i:Nat) {T es:Nat} {l:List CV} (hb:s.bl[i]? =some (T,es,l)) (hes:0<es) (hclo:∀c∈l,fS c=true) (hnb:nb<=i) (hgl:s.gl=[])
 (h:∀A a,aXe (qC i A a) s.sl λsl'=>aHl (qC i A a) i 0 s.bl λbl'=>rO s.fl ⟨T,es,1,λ_=>A,λ_=>a,λ_=>l⟩ λfl'=>X ⟨sl',[],bl',fl'⟩) (hft:Nat.ble T 999999=true:=by rfl):X s:=by
 refine hX s (Option Nat×Nat×List (Nat×DV)×BL) (λg=>⟨g.2.2.1,[],g.2.2.2,s.fl++[⟨T,es,1,λ_=>g.1,λ_=>g.2.1,λ_=>l⟩]⟩) (λg=>X ⟨g.2.2.1,[],g.2.2.2,s.fl++[⟨T,es,1,λ_=>g.1,λ_=>g.2.1,λ_=>l⟩]⟩) (λρ0 w0 D f w hD=>?_) λg hg=>hg
 have hi:i<s.bl.length:=eH hb
 have hq:=hD.m.ok i T es l hb
 let Fn:Fam:=⟨T,es,1,λ_=>(D i).1,λ_=>(D i).2,λ_=>l⟩
 let ρ':Pl:=⟨λj=>if j=i then (none,0) else D j,D.Z,s.fl++[Fn]⟩
 have hρi:ρ' i=(none,0):=U3 U
 have hρj:∀j,j≠i->ρ' j=D j:=λj hj=>U2 hj
 have hin:∀b,InF ρ' b->InF D b\/(D i).1=some b:=λb ⟨F,hF,j,hj,hA⟩=>by
  rcases aO.1 hF with hF|hF
  ·exact .inl ⟨F,by rw[hD.l];exact hF,j,hj,hA⟩
  rw[aE.1 hF] at hA;exact .inr hA
 have kx:Kx i D s.bl.length w ρ' w:=⟨λj _ hj=>hρj j hj,λb hbz=>⟨⟨hbz.lt,λj hj=>?_,hbz.z,λhf=>?_⟩,U⟩,λ_ _ _ _ _=>U⟩
 ·obtain⟨sl',k1,k2⟩:=aJy (D:=D) (ρ':=ρ') (n:=s.bl.length) (w:=w) (Hc.sink kx U) (h (D i).1 (D i).2)
  obtain⟨bl',k3,k4,k5⟩:=aBk (D:=D) (ρ':=ρ') (n:=s.bl.length) (w:=w) (Hc.sink kx U) k1
  have kX:=mP k3
  have hmq:Mq (Zf ρ' s.bl.length w) w Fn 0:=by
   unfold Mq
   unfold Bq at hq
   cases hρ:(D i).1 with
   |none=>
    simp only[hρ] at hq
    simp only[Fn,hρ]
    exact⟨hq.1,hq.2.1⟩
   |some b=>
    simp only[hρ] at hq
    simp only[Fn,hρ,hft,cond_true]
    obtain⟨vl,junk,q1,q2,q3,q4⟩:=hq
    refine⟨vl,junk,q1,q2.len.symm,λk c x hc hx=>?_,(q3 hes).1,(q3 hes).2,q4⟩
    obtain⟨y,a1,a2⟩:=q2.get hc
    rw[hx] at a1
    injection a1 with a1
    subst a1
    exact(aIf a2 (hclo c (aR hc))).mono kx.z
  have hfam:FamOk ρ' s.bl.length w:=by
   refine⟨λF hF=>?_,λj b hj hb' hf=>?_,λf1 f2 F1 F2 j1 j2 b h1 h2 h3 h4 h5 h6=>?_⟩
   ·rcases aO.1 hF with hF|hF
    ·have hF':F∈D.F:=by rw[hD.l];exact hF
     exact⟨(hD.m.fam.ok F hF').1,λj hj=>((hD.m.fam.ok F hF').2 j hj).mono kx.z λ_ _=>U⟩
    rw[aE.1 hF]
    refine⟨hes,λj hj=>?_⟩
    obtain rfl:j=0:=by have:j<1:=hj;omega
    exact hmq
   ·by_cases hji:j=i
    ·subst hji;rw[hρi] at hb';cases hb'
    rw[hρj j hji] at hb'
    rcases hin b hf with h1|h1
    ·exact hD.m.fam.own j b hj hb' h1
    exact hji (hD.m.inj j i b hj hi hb' h1)
   have src:∀(x:Nat) (Y:Fam) (y:Nat),(s.fl++[Fn])[x]? =some Y->y<Y.N->Y.A y=some b->(x=s.fl.length/\y=0/\(D i).1=some b)\/(D.F[x]? =some Y):=λx Y y hx hy hbb=>by
    rcases sH hx with ⟨e1,rfl⟩|⟨_,e2⟩
    ·exact .inl ⟨e1,by have:y<1:=hy;omega,hbb⟩
    exact .inr (by rw[hD.l];exact e2)
   rcases src f1 F1 j1 h1 h3 h5 with ⟨a1,a2,a3⟩|a1<;>rcases src f2 F2 j2 h2 h4 h6 with ⟨c1,c2,c3⟩|c1
   ·exact⟨a1.trans c1.symm,a2.trans c2.symm⟩
   ·exact U4 ⟨F2,aR c1,j2,h4,h6⟩ (hD.m.fam.own i b hi a3)
   ·exact U4 ⟨F1,aR a1,j1,h3,h5⟩ (hD.m.fam.own i b hi c3)
   exact hD.m.fam.inj f1 f2 F1 F2 j1 j2 b a1 c1 h3 h4 h5 h6
  refine⟨((D i).1,(D i).2,sl',bl'),ρ',kX,⟨λj T2 e2 l2 hj=>?_,λa b bb ha hbl hab hbb=>?_,λj b h1 h2 hbj=>?_,?_,⟨hD.m.rel.os,hD.m.rel.tape,hD.m.rel.output,hD.m.rel.size,λk hk hn hf=>hD.m.rel.block k hk (λj hj=>?_) hf⟩,λj hj=>?_,hD.m.zz,?_,λb hb'=>?_⟩,⟨λt d' ht=>?_,λt gs d ht=>by cases ht⟩,U⟩
  ·show Bq ρ' bl'.length w j T2 e2 l2
   rw[k4]
   obtain⟨l0,a1,a2,a3⟩:=k5 j T2 e2 l2 hj
   by_cases hji:j=i
   ·subst hji
    rw[hb] at a1
    injection a1 with a1
    injection a1 with e1 e2'
    injection e2' with e2' e3
    subst e1 e2' e3
    unfold Bq
    rw[hρi]
    exact⟨a2 oM,U,hes⟩
   obtain⟨a4,a5⟩:=a3 oM
   have hq0:=hD.m.ok j T2 e2 l0 a1
   unfold Bq at hq0 ⊢
   rw[hρj j hji]
   cases hρ:(D j).1 with
   |none=>
    simp only[hρ] at hq0 ⊢
    exact⟨bQ (by rw[a4,hq0.1];rfl),hq0.2⟩
   |some b=>
    simp only[hρ] at hq0 ⊢
    obtain⟨vl,junk,q1,q2,q3⟩:=hq0
    exact⟨vl,junk,q1,a5 vl q2,q3⟩
  ·have ha':a<s.bl.length:=by rw[<-k4];exact ha
   have hbl':b<s.bl.length:=by rw[<-k4];exact hbl
   by_cases e1:a=i
   ·subst e1;rw[hρi] at hab;cases hab
   by_cases e2:b=i
   ·subst e2;rw[hρi] at hbb;cases hbb
   rw[hρj a e1] at hab;rw[hρj b e2] at hbb;exact hD.m.inj a b bb ha' hbl' hab hbb
  ·have h2':j<s.bl.length:=by rw[<-k4];exact h2
   by_cases e1:j=i
   ·subst e1;rw[hρi] at hbj;cases hbj
   rw[hρj j e1] at hbj;exact hD.m.fr j b h1 h2' hbj
  ·show nb<=bl'.length
   rw[k4];exact hD.m.nbl
  ·have:=hn j hj
   rw[hρj j oM] at this
   exact this
  ·rw[hρj j oM];exact hD.m.pl j hj
  ·show FamOk ρ' bl'.length w
   rw[k4];exact hfam
  ·rcases hin b hb' with h1|h1
   ·exact hD.m.ffr b h1
   exact .inl (hD.m.fr i b hnb hi h1)
  obtain⟨d,a1,a2⟩:=k2 t d' ht
  show Hd ρ' bl'.length w d' (f t)
  rw[k4]
  exact a2 _ (hD.f.sl t d a1)
 ·by_cases hji:j=i
  ·subst hji;rw[hρi];intro h;cases h
  rw[hρj j hji];exact hbz.no j hj
 rcases hin b hf with h1|h1
 ·exact hbz.nf h1
 exact hbz.no i hi h1
/-! ### two own blocks change their numbers -/
def swN (i j k:Nat):Nat:=bif Nat.beq k i then j else bif Nat.beq k j then i else k
theorem aOf {i j:Nat}:swN i j i=j:=by simp[swN,gV]
theorem aOg {i j:Nat}:swN i j j=i:=by
 unfold swN
 cases h:Nat.beq j i with
 |true=>exact aM h
 |false=>simp[gV]
theorem aFz {i j k:Nat} (h1:k≠i) (h2:k≠j):swN i j k=k:=by
 unfold swN
 cases h:Nat.beq k i with
 |true=>exact U4 (aM h) h1
 |false=>cases h':Nat.beq k j with
  |true=>exact U4 (aM h') h2
  |false=>rfl
theorem aQx {i j:Nat} (k:Nat):swN i j (swN i j k)=k:=by
 by_cases h1:k=i
 ·rw[h1,aOf,aOg]
 by_cases h2:k=j
 ·rw[h2,aOg,aOf]
 rw[aFz h1 h2,aFz h1 h2]
theorem wA {i j k n:Nat} (hi:i<n) (hj:j<n) (hk:k<n):swN i j k<n:=by
 by_cases h1:k=i
 ·rw[h1,aOf];exact hj
 by_cases h2:k=j
 ·rw[h2,aOg];exact hi
 rw[aFz h1 h2];exact hk
def swC (i j:Nat):CV->CV
 |.p k o=> .p (swN i j k) o
 |.s k n=> .s (swN i j k) n
 |.t k o n=> .t (swN i j k) o n
 |.f q fi ca=> .f q (fi.map λp=>(swN i j p.1,p.2)) (ca.map λp=>(swN i j p.1,p.2))
 |c=>c
theorem Hc.sw {D ρ':Pl} {n i j:Nat} {w:World} (hi:i<n) (hj:j<n) (hp:∀k,ρ' k=D (swN i j k)) (hz:∀b,Zf D n w b->Zf ρ' n w b) (c:CV) (x:Value) (h:Hc D n w c x):Hc ρ' n w (swC i j c) x:=by
 have hps:∀k,ρ' (swN i j k)=D k:=λk=>by rw[hp,aQx]
 cases c with
 |p k o=>obtain⟨h1,b,h2,h3⟩:=h;exact⟨wA hi hj h1,b,by rw[hps];exact h2,h3⟩
 |s k m=>obtain⟨h1,h2⟩:=h;exact⟨wA hi hj h1,by rw[hps];exact h2⟩
 |t k o m=>obtain⟨h1,h2⟩:=h;exact⟨wA hi hj h1,by rw[hps];exact h2⟩
 |q A m c e get k o=>obtain⟨h1,h2⟩:=h;exact⟨h1.mono λb hb=>⟨hz b hb,U⟩,h2⟩
 |f q fi ca=>
  obtain⟨h1,h2⟩:=h
  have hm:∀l:List (Nat×Nat),(l.map λp=>(swN i j p.1,p.2)).map (ptr ρ')=l.map (ptr D):=λl=>by
   rw[lH]
   refine dR λp _=>?_
   show ptr ρ' (swN i j p.1,p.2)=ptr D p
   unfold ptr
   rw[hps]
  refine⟨λp hp2=>?_,h2.trans (by rw[hm,hm])⟩
  rw[<-bA] at hp2
  obtain⟨p0,hp0,rfl⟩:=bZ.1 hp2
  obtain⟨a1,a2⟩:=h1 p0 hp0
  exact⟨wA hi hj a1,by rw[hps];exact a2⟩
 |u=>exact Rc.mono h λb hb=>⟨hz b hb,U⟩
 |v y=>exact Rc.mono h λb hb=>⟨hz b hb,U⟩
 |h A m c=>exact Rc.mono h λb hb=>⟨hz b hb,U⟩
 |hp b o=>exact Rc.mono h λb hb=>⟨hz b hb,U⟩
 |b p q=>exact Rc.mono h λb hb=>⟨hz b hb,U⟩
 |r A m c e get=>exact Rc.mono h λb hb=>⟨hz b hb,U⟩
theorem aTq (hX:Tgt nb X) (i j:Nat) {bi bj:TypeId×Nat×List CV} (hbi:s.bl[i]? =some bi) (hbj:s.bl[j]? =some bj) (hni:nb<=i) (hnj:nb<=j) (hgl:s.gl=[])
 (h:aXe (swC i j) s.sl λsl'=>nK s.bl i bj λbl1=>nK bl1 j bi λbl2=>aHl (swC i j) 1000000 0 bl2 λbl'=>bl'.length<=1000000/\X ⟨sl',[],bl',s.fl⟩):X s:=by
 have hi:i<s.bl.length:=eH hbi
 have hj:j<s.bl.length:=eH hbj
 refine hX s SS (λg=>g) X (λρ0 w0 D f w hD=>?_) λg hg=>hg
 let ρ':Pl:=⟨λk=>D (swN i j k),D.Z,D.F⟩
 have hp:∀k,ρ' k=D (swN i j k):=λ_=>U
 have hz:∀b,Zf D s.bl.length w b->Zf ρ' s.bl.length w b:=λb hb=>⟨hb.lt,λk hk=>hb.no _ (wA hi hj hk),hb.z,hb.nf⟩
 obtain⟨sl',k1,k2⟩:=aJy (D:=D) (ρ':=ρ') (n:=s.bl.length) (w:=w) (Hc.sw hi hj hp hz) h
 obtain⟨bl',⟨kle,kX⟩,k4,k5⟩:=aBk (D:=D) (ρ':=ρ') (n:=s.bl.length) (w:=w) (Hc.sw hi hj hp hz) (iL (iL k1))
 rw[cC,cC] at k4
 have hold:∀(m:Nat) (x:TypeId×Nat×List CV),((s.bl.set i bj).set j bi)[m]? =some x->s.bl[swN i j m]? =some x:=λm x hm=>by
  rcases lT hm with ⟨rfl,rfl,_⟩|⟨h1,h2⟩
  ·rw[aOg];exact hbi
  rcases lT h2 with ⟨rfl,rfl,_⟩|⟨h3,h4⟩
  ·rw[aOf];exact hbj
  rw[aFz h3 h1];exact h4
 refine⟨_,ρ',kX,⟨λm T es l hm=>?_,λa b bb ha hb hab hbb=>?_,λm b h1 h2 hb=>?_,?_,⟨hD.m.rel.os,hD.m.rel.tape,hD.m.rel.output,hD.m.rel.size,λk hk hn hf=>hD.m.rel.block k hk (λm hm=>?_) hf⟩,λm hm=>?_,hD.m.zz,?_,hD.m.ffr⟩,⟨λt d' ht=>?_,λt gs d ht=>by cases ht⟩,hD.l⟩
 ·show Bq ρ' bl'.length w m T es l
  have hml:m<bl'.length:=eH hm
  rw[k4]
  obtain⟨l0,a1,_,a3⟩:=k5 m T es l hm
  obtain⟨a4,a5⟩:=a3 oM
  have hq:=hD.m.ok _ T es l0 (hold m _ a1)
  unfold Bq at hq ⊢
  rw[hp]
  cases hρ:(D (swN i j m)).1 with
  |none=>
   simp only[hρ] at hq ⊢
   exact⟨bQ (by rw[a4,hq.1];rfl),hq.2⟩
  |some b=>
   simp only[hρ] at hq ⊢
   obtain⟨vl,junk,q1,q2,q3⟩:=hq
   exact⟨vl,junk,q1,a5 vl q2,q3⟩
 ·have ha':a<s.bl.length:=by rw[<-k4];exact ha
  have hb':b<s.bl.length:=by rw[<-k4];exact hb
  have:=hD.m.inj _ _ bb (wA hi hj ha') (wA hi hj hb') hab hbb
  rw[<-aQx (i:=i) (j:=j) a,this,aQx]
 ·have h2':m<s.bl.length:=by rw[<-k4];exact h2
  refine hD.m.fr (swN i j m) b ?_ (wA hi hj h2') hb
  by_cases e1:m=i
  ·rw[e1,aOf];exact hnj
  by_cases e2:m=j
  ·rw[e2,aOg];exact hni
  rw[aFz e1 e2];exact h1
 ·show nb<=bl'.length
  rw[k4];exact hD.m.nbl
 ·have:=hn m hm
  rw[hp,aFz oM oM] at this
  exact this
 ·rw[hp,aFz oM oM];exact hD.m.pl m hm
 ·show FamOk ρ' bl'.length w
  rw[k4]
  exact hD.m.fam.mono U (λb hb=>⟨hz b hb,U⟩) (λ_ _=>U) λm b hm hb=>hD.m.fam.own _ b (wA hi hj hm) hb
 obtain⟨d,a1,a2⟩:=k2 t d' ht
 show Hd ρ' bl'.length w d' (f t)
 rw[k4]
 exact a2 _ (hD.f.sl t d a1)
/-! ### a family is let go: what names it is read from now on -/
def FrC (F:Fam) (c c':CV):Prop:=∃q n g,q<F.N/\c= .h (F.A q) n (F.cap q)/\c'= .r ((F.A q).map λb=>⟨b,0,none⟩) n (F.cap q) F.es g/\n*F.es=(F.get q).length/\∀k,k<n->g k=((F.get q).drop (k*F.es)).take F.es
theorem jQ (hX:Tgt nb X) (i f:Nat) {T es:Nat} {l:List CV} {F:Fam} (l':List CV) (hb:s.bl[i]? =some (T,es,l)) (hf:s.fl[f]? =some F) (hgl:s.gl=[]) (hl:l'.length=l.length) (hc:∀(k:Nat) (c c':CV),l[k]? =some c->l'[k]? =some c'->c=c'\/FrC F c c')
 (h:nK s.bl i (T,es,l') λbl'=>nK s.fl f (aAc F) λfl'=>X ⟨s.sl,[],bl',fl'⟩) (hft:Nat.ble F.T 999999=true:=by rfl):X s:=by
 have hfl:f<s.fl.length:=eH hf
 refine hX.one (s':=⟨s.sl,[],s.bl.set i (T,es,l'),s.fl.set f (aAc F)⟩) (λρ0 w0 D f0 w hD=>?_) (iL (iL h))
 have hes:=aFy hD hf
 have hin:∀b,InL (s.fl.set f (aAc F)) b->InF D b/\∀q,q<F.N->F.A q≠some b:=λb ⟨G,hG,j,hj,hA⟩=>by
  obtain⟨g,hg⟩:=cV hG
  rcases rX hg hfl with ⟨_,rfl⟩|⟨hne,h2⟩
  ·exact U4 hj (aF _)
  exact⟨⟨G,by rw[hD.l];exact aR h2,j,hj,hA⟩,λq hq he=>hne (hD.m.fam.inj g f G F j q b (by rw[hD.l];exact h2) (by rw[hD.l];exact hf) hj hq hA he).1⟩
 have hz:∀b,Zf D s.bl.length w b->Zf ⟨D.at',D.Z,s.fl.set f (aAc F)⟩ s.bl.length w b/\w.heap[b]? =w.heap[b]?:=λb hb=>⟨⟨hb.lt,hb.no,hb.z,λhi=>hb.nf (hin b hi).1⟩,U⟩
 have kp:Kp D s.bl.length w ⟨D.at',D.Z,s.fl.set f (aAc F)⟩ s.bl.length w:=⟨aH _,λ_ _=>U,hz⟩
 have hrd:∀c c' x,FrC F c c'->Hc D s.bl.length w c x->Hc ⟨D.at',D.Z,s.fl.set f (aAc F)⟩ s.bl.length w c' x:=λc c' x ⟨q,n,g,hq,e1,e2,e3,e4⟩ hx=>by
  subst e1 e2
  rw[hx.inv_h]
  have hm:=hD.m.fam.mem hD.l hf hq
  unfold Mq at hm
  cases hA:F.A q with
  |none=>
   simp only[hA] at hm
   have hn:n=0:=by
    rcases cL n with h|h
    ·exact h
    rw[hm.1] at e3;have:=jM h hes;simp at e3;omega
   subst hn
   rw[hm.2]
   exact Rc.nil none 0 F.es g (aB _)
  |some b=>
   simp only[hA,hft,cond_true] at hm
   obtain⟨vl,junk,q1,q2,q3,q4,q5,q6⟩:=hm
   have hbin:InF D b:=⟨F,by rw[hD.l];exact aR hf,q,hq,hA⟩
   have hZb:Zf ⟨D.at',D.Z,s.fl.set f (aAc F)⟩ s.bl.length w b:=⟨iQ q1,λj hj he=>hD.m.fam.own j b hj he hbin,by
    have:=hD.m.zz.2 b (hD.m.ffr b hbin)
    exact this,λhi=>(hin b hi).2 q hq hA⟩
   have hnc:n<=F.cap q:=by
    rw[aD] at q4
    exact eS (c:=F.es) oM hes
   have hjn:∀j,j<n->j*F.es+F.es<=vl.length:=λj hj=>by
    have:(j+1)*F.es<=n*F.es:=aT F.es hj
    rw[dE,iX] at this
    omega
   refine Rc.r b 0 n (F.cap q) F.es g (λj=>(vl.drop (j*F.es)).take F.es) hnc q5 hZb (λj hj k u hu=>?_) (λj hj=>?_) λj hj k c' u hc hu=>?_
   ·rw[fK] at hu
    split at hu
    ·rw[dN] at hu
     refine⟨?_,q6 u (aR hu)⟩
     rw[eP]
     exact nR q1 hu
    cases hu
   ·rw[e4 j hj]
    have:=hjn j hj
    simp only[bI,cP]
    omega
   rw[e4 j hj] at hc
   rw[fK] at hc hu
   split at hc
   ·next hlt=>
    rw[U3 hlt] at hu
    rw[dN] at hc hu
    exact(q3 _ c' u hc hu).mono hz
   cases hc
 refine⟨⟨D.at',D.Z,s.fl.set f (aAc F)⟩,⟨λj T2 e2 l2 hj=>?_,?_,?_,?_,⟨hD.m.rel.os,hD.m.rel.tape,hD.m.rel.output,hD.m.rel.size,hD.m.rel.block⟩,hD.m.pl,hD.m.zz,⟨λG hG=>?_,λj b hj hbj hf2=>?_,λf1 f2 F1 F2 j1 j2 b h1 h2 h3 h4 h5 h6=>?_⟩,λb hbb=>hD.m.ffr b (hin b hbb).1⟩,⟨λt d ht=>?_,λt gs d ht=>by cases ht⟩,U⟩
 ·rw[cC]
  rcases lT hj with ⟨rfl,h2,_⟩|⟨_,h2⟩
  ·injection h2 with h2 h3
   injection h3 with h3 h4
   subst h2 h3 h4
   have hq:=hD.m.ok j _ _ l hb
   unfold Bq at hq ⊢
   show match (D j).1 with|none=>_|some b=>_
   cases hρ:(D j).1 with
   |none=>
    simp only[hρ] at hq ⊢
    exact⟨bQ (by rw[hl,hq.1];rfl),hq.2⟩
   |some b=>
    simp only[hρ] at hq ⊢
    obtain⟨vl,junk,q1,q2,q3⟩:=hq
    refine⟨vl,junk,q1,Hl.of_get (by rw[hl,q2.len]) λk c' u hc' hu=>?_,q3⟩
    have hlt:k<l.length:=by rw[<-hl];exact eH hc'
    obtain⟨x,h1,h2⟩:=q2.get (aG hlt)
    rw[hu] at h1
    injection h1 with h1
    subst h1
    rcases hc k _ c' (aG hlt) hc' with e|e
    ·rw[<-e];exact h2.kp kp
    exact hrd _ _ _ e h2
  exact(hD.m.ok j T2 e2 l2 h2).kp kp (eH h2) λ_ _=>U
 ·simpa using hD.m.inj
 ·simpa using hD.m.fr
 ·simpa using hD.m.nbl
 ·obtain⟨g,hg⟩:=cV hG
  rcases rX hg hfl with ⟨_,rfl⟩|⟨_,h2⟩
  ·exact⟨hes,λj hj=>U4 hj (aF _)⟩
  have hG':G∈D.F:=by rw[hD.l];exact aR h2
  simp only[cC]
  exact⟨(hD.m.fam.ok G hG').1,λj hj=>((hD.m.fam.ok G hG').2 j hj).mono hz λ_ _=>U⟩
 ·simp only[cC] at hj
  exact hD.m.fam.own j b hj hbj (hin b hf2).1
 ·rcases rX (show(s.fl.set f (aAc F))[f1]? =_ from h1) hfl with ⟨_,rfl⟩|⟨_,h1'⟩
  ·exact U4 h3 (aF _)
  rcases rX (show(s.fl.set f (aAc F))[f2]? =_ from h2) hfl with ⟨_,rfl⟩|⟨_,h2'⟩
  ·exact U4 h4 (aF _)
  exact hD.m.fam.inj f1 f2 F1 F2 j1 j2 b (by rw[hD.l];exact h1') (by rw[hD.l];exact h2') h3 h4 h5 h6
 show Hd _ (s.bl.set i (T,es,l')).length w d (f0 t)
 rw[cC]
 exact(hD.f.sl t d ht).kp kp
/-! ### the end of a ghost way: what is kept, what changed -/
def aQy:List Fam->List Fam->Prop
 |_,[]=>True
 |x::l,y::m=>x=y/\aQy l m
 |[],_::_=>False
theorem aJz:∀{l m:List Fam},aQy l m->∃r,l=m++r
 |l,[],_=>⟨l,U⟩
 |[],_::_,h=>h.elim
 |x::l,y::m,h=>by
  obtain⟨h1,h2⟩:=h
  obtain⟨r,hr⟩:=aJz h2
  exact⟨r,by rw[h1,hr];rfl⟩
theorem Fsub.pre {fl r:List Fam} (hes:∀F∈fl,0<F.es):Fsub (fl++r) fl:=by
 have hg:∀(x:Nat) (Y:Fam),fl[x]? =some Y->(fl++r)[x]? =some Y:=λx Y h=>by rw[aV (eH h)];exact h
 exact⟨λf' F' hf'=>⟨hes F' (aR hf'),λj' hj'=> .inr ⟨f',F',j',hg f' F' hf',hj',U,U,U,U,U⟩⟩,λhi f1 f2 F1 F2 j1 j2 b h1 h2=>hi f1 f2 F1 F2 j1 j2 b (hg f1 F1 h1) (hg f2 F2 h2)⟩
theorem iP {M:Nat->Bool} {base:List (Nat×DV)} (hM:∀t d,gK base t=some d->M t=false) {σ:Type} {chg:σ->List (Nat×DV)} {bls:σ->BL} {fls:σ->List Fam} {C:σ->Prop} (g:σ) (hC:C g)
 (hmt:wZ M base [] [] s.sl) (hbl:aHk s.bl (bls g)) (hfl:aQy s.fl (fls g)) (hall:AllC s.sl (chg g)) (hnb:nb<=(bls g).length) (hsc:scB (bls g).length (bls g)) (hsd:(chg g++base).all (λe=>scD (bls g).length e.2)=true):
 Gt nb s (λg=>⟨chg g++base,[],bls g,fls g⟩) C:=λρ0 w0 D f w hD=>by
 obtain⟨r,hr⟩:=vZ hbl
 obtain⟨rf,hrf⟩:=aJz hfl
 have h1:=xW (s:=s) (s':=⟨chg g++base,[],bls g,s.fl⟩) (r:=r) hr U U hsc (λt d ht=>⟨?_,vE hsd ht⟩) ρ0 w0 nb D f w hnb hD
 ·have hp:Fsub s.fl (fls g):=by
   have hes:∀F∈fls g,0<F.es:=λF hF=>(hD.m.fam.ok F (by rw[hD.l,hrf];exact cX _ hF)).1
   have:=Fsub.pre (r:=rf) hes
   rw[<-hrf] at this
   exact this
  obtain⟨ρ',h2⟩:=h1.fsub (s:=⟨chg g++base,[],bls g,s.fl⟩) hp
  exact⟨g,ρ',hC,h2⟩
 rcases qS ht with h1|⟨h1,h2⟩
 ·exact hall.get h1
 exact⟨d,by rw[(qR hmt).1 t (hM t d h2)];exact h2,.refl d⟩
theorem bBf (M:Nat->Bool) {σ:Type} (chg:σ->List (Nat×DV)) (bls:σ->BL) (fls:σ->List Fam) (C:σ->Prop) (μ:σ->Nat)
 (h:uZ M s.sl λbase=>(∀t d,gK base t=some d->M t=false)->Gt nb s (λg=>⟨chg g++base,[],bls g,fls g⟩) C/\∀g,C g->Sd P nb N c ⟨λs'=>Gt nb s' (λg'=>⟨chg g'++base,[],bls g',fls g'⟩) (λg'=>C g'/\μ g'<μ g),K.ext,K.ret⟩ ⟨chg g++base,[],bls g,fls g⟩):Sd P nb N (.loop c) K s:=by
 obtain⟨base,h1,hk⟩:=pI h
 obtain⟨h0,hr⟩:=h1 λt d ht=>(hk t d ht).2
 intro ρ0 w0 D f w Q hL hD
 obtain⟨g0,ρ1,hC0,hD1⟩:=h0 ρ0 w0 D f w hD
 refine aMu (σ:=σ) (λg f w=>C g/\∃D,Dn ρ0 w0 nb ⟨chg g++base,[],bls g,fls g⟩ D f w) μ g0 ⟨hC0,ρ1,hD1⟩ λg f w ⟨hc,D,hD⟩=>?_
 refine hr g hc ρ0 w0 D f w _ ⟨λs' ρ' f' w' hg hD'=>?_,hL.ext,hL.ret⟩ hD
 obtain⟨g',ρ2,⟨hc',hlt⟩,hD2⟩:=hg ρ0 w0 ρ' f' w' hD'
 exact⟨g',⟨hc',ρ2,hD2⟩,hlt⟩
def cAz (M:Nat->Bool) (base:List (Nat×DV)) (nb:Nat) {σ:Type} (chg:σ->List (Nat×DV)) (bls:σ->BL) (fls:σ->List Fam):Prop:=∀{s:SS} {C:σ->Prop} (g:σ),C g->wZ M base [] [] s.sl->aHk s.bl (bls g)->aQy s.fl (fls g)->AllC s.sl (chg g)->nb<=(bls g).length->scB (bls g).length (bls g)->(chg g++base).all (λe=>scD (bls g).length e.2)=true->Gt nb s (λg=>⟨chg g++base,[],bls g,fls g⟩) C
theorem bX (M:Nat->Bool) {σ:Type} (chg:σ->List (Nat×DV)) (bls:σ->BL) (fls:σ->List Fam) (C:σ->Prop) (μ:σ->Nat)
 (h:uZ M s.sl λbase=>cAz M base nb chg bls fls->Gt nb s (λg=>⟨chg g++base,[],bls g,fls g⟩) C/\∀g,C g->Sd P nb N c ⟨λs'=>Gt nb s' (λg'=>⟨chg g'++base,[],bls g',fls g'⟩) (λg'=>C g'/\μ g'<μ g),K.ext,K.ret⟩ ⟨chg g++base,[],bls g,fls g⟩):Sd P nb N (.loop c) K s:=by
 obtain⟨base,h1,hk⟩:=pI h
 obtain⟨h0,hr⟩:=h1 λg hC a b c d e f=>iP (λt d ht=>(hk t d ht).2) g hC a b c d e f
 intro ρ0 w0 D f w Q hL hD
 obtain⟨g0,ρ1,hC0,hD1⟩:=h0 ρ0 w0 D f w hD
 refine aMu (σ:=σ) (λg f w=>C g/\∃D,Dn ρ0 w0 nb ⟨chg g++base,[],bls g,fls g⟩ D f w) μ g0 ⟨hC0,ρ1,hD1⟩ λg f w ⟨hc,D,hD⟩=>?_
 refine hr g hc ρ0 w0 D f w _ ⟨λs' ρ' f' w' hg hD'=>?_,hL.ext,hL.ret⟩ hD
 obtain⟨g',ρ2,⟨hc',hlt⟩,hD2⟩:=hg ρ0 w0 ρ' f' w' hD'
 exact⟨g',⟨hc',ρ2,hD2⟩,hlt⟩
end gt
/-! ### a aPv said otherwise -/
theorem CtrF.gt {P:Program} {q:FuncId} {cl:List Bool} {al:List DV} {bl:BL} {fl:List Fam} {σ τ:Type} {R:σ->OutF} {R':τ->OutF} (h:CtrF P q cl al bl fl R)
 (hp:∀g,(R g).C->ClB cl (R g).bl->Gt bl.length ⟨[(0,(R g).d)],[],(R g).bl,(R g).fl⟩ (λg'=>⟨[(0,(R' g').d)]++[],[],(R' g').bl,(R' g').fl⟩) λg'=>(R' g').C/\ClB cl (R' g').bl):CtrF P q cl al bl fl R':=
 ⟨h.ent,h.clb,λD w vals hv hD hF=>(h.run D w vals hv hD hF).mono λe w' ⟨v,he,g,ρ',hC,hDr,hdv,hclr,hFr⟩=>by
  have hq:Dn D w bl.length ⟨[(0,(R g).d)],[],(R g).bl,(R g).fl⟩ ρ' (λ_=>v) w':=⟨hDr,⟨λt d ht=>?_,λt gs d ht=>by cases ht⟩,hFr⟩
  ·obtain⟨g',ρ2,⟨h1,h2⟩,h3⟩:=hp g hC hclr D w ρ' (λ_=>v) w' hq
   exact⟨v,he,g',ρ2,h1,h3.m,h3.f.sl 0 _ U,h2,h3.l⟩
  simp only[gK] at ht
  cases hb:Nat.beq 0 t with
  |true=>rw[hb] at ht;injection ht with ht;subst ht;exact hdv
  |false=>rw[hb] at ht;cases ht⟩
theorem CtrF.frz {P:Program} {q:FuncId} {al:List DV} {σ:Type} {n T es:σ->Nat} {l:σ->List CV} {C:σ->Prop} (h:Ctr P q [] al [] (λg:σ=>⟨.c (.s 0 (n g)),[(T g,es g,l g)],C g⟩)) (get:σ->Nat->List CV) (hp:∀g,C g->(∀j,j<n g->get g j=((l g).drop (j*es g)).take (es g))/\n g*es g=(l g).length/\0<es g/\∀c∈l g,fS c=true):
 Ctr P q [] al [] (λg:σ×Option Addr×Nat=>⟨.c (.r g.2.1 (n g.1) g.2.2 (es g.1) (get g.1)),[],C g.1⟩):=by
 refine CtrF.gt h λg hC _=>?_
 obtain⟨h1,h2,h3,h4⟩:=hp g hC
 refine aOe tGt 0 0 (get g) U U h1 h2 h3 h4 (aH _) λA c _ _=>?_
 exact iP (M:=λ_=>true) (base:=[]) (chg:=λg':σ×Option Addr×Nat=>[(0,.c (.r g'.2.1 (n g'.1) g'.2.2 (es g'.1) (get g'.1)))]) (bls:=λ_=>[]) (fls:=λ_=>[]) (λt d ht=>by cases ht) (g,A,c) ⟨hC,λi T es l hi=>by cases hi⟩ U trivial trivial U (aH _) (λi T es l hi=>by cases hi) U
theorem fH {nb:Nat} {cl:List Bool} {s:SS} {d:DV} {o:Out} (hd:EqD d o.d) (hb:aHk s.bl o.bl) (hnb:nb<=o.bl.length) (hsc:scB o.bl.length o.bl) (hsd:scD o.bl.length o.d=true) (hcl:ClB cl o.bl):Fin cl nb s d o:=λρ0 w0 D w v hD0 _ hv0=>by
 have hD:=hD0.nofam
 have hv:=hd.hd (hv0.kp Kp.nofam)
 obtain⟨r,hr⟩:=vZ hb
 rw[hr] at hD hv
 exact⟨_,hD.drop hsc hnb,hv.less hsd (by simp),hcl,U⟩
theorem aDy {bl:BL}:ClB [] bl:=λi T es l _ hc=>by cases hc
theorem CtrF.re {P:Program} {q:FuncId} {cl:List Bool} {al:List DV} {bl:BL} {fl:List Fam} {σ τ:Type} {R:σ->OutF} {R':τ->OutF} (h:CtrF P q cl al bl fl R) (hp:∀g,(R g).C->∃g',(R' g').C/\(R' g').d=(R g).d/\(R' g').bl=(R g).bl/\(R' g').fl=(R g).fl):CtrF P q cl al bl fl R':=
 ⟨h.ent,h.clb,λD w vals hv hD hF=>(h.run D w vals hv hD hF).mono λe w' ⟨v,he,g,ρ',hC,hDr,hdv,hclr,hFr⟩=>by
  obtain⟨g',h1,h2,h3,h4⟩:=hp g hC
  exact⟨v,he,g',ρ',h1,by rw[h3];exact hDr,by rw[h2,h3];exact hdv,by rw[h3];exact hclr,by rw[h4];exact hFr⟩⟩
theorem cBa {P:Program} {nb N:Nat} {a b:Code} {K:Kt} {s:SS} (M:Nat->Bool) {σ:Type} (n0:Nat) (chg:σ->List (Nat×DV)) (bls:σ->BL) (C:σ->Prop) {p:Prop} (hn:∀g,(bls g).length=n0) (hnb:nb<=n0) (hsc:∀g,scB n0 (bls g)) (hcg:∀g,(chg g).all (λe=>scD n0 e.2)=true)
 (h:uZ M s.sl λbase=>base.all (λe=>scD n0 e.2)=true/\((p->Sd P nb N a ⟨λs'=>∃g,C g/\MtD M base s.fl s' (chg g) (bls g),K.ext,K.ret⟩ s)/\(¬p->Sd P nb N b ⟨λs'=>∃g,C g/\MtD M base s.fl s' (chg g) (bls g),K.ext,K.ret⟩ s))/\∀g,C g->K.nrm ⟨chg g++base,[],bls g,s.fl⟩):(p->Sd P nb N a K s)/\(¬p->Sd P nb N b K s):=by
 obtain⟨base,⟨hbs,⟨h1,h2⟩,h3⟩,hk⟩:=pI h
 have w:∀{c:Code},Sd P nb N c ⟨λs'=>∃g,C g/\MtD M base s.fl s' (chg g) (bls g),K.ext,K.ret⟩ s->Sd P nb N c K s:=λ{c} h ρ0 w0 D f w Q hL hD=>by
  refine h ρ0 w0 D f w Q ⟨λs' ρ' f' w' ⟨g',hc,hm⟩ hD'=>?_,hL.ext,hL.ret⟩ hD
  obtain⟨r,hr'⟩:=vZ hm.2.1
  refine hL.nrm _ ρ' f' w' (h3 g' hc) (xW (s:=s') (s':=⟨chg g'++base,[],bls g',s.fl⟩) (r:=r) hr' (qR hm.1).2 rfl (by rw[hn];exact hsc g') (λt d ht=>⟨?_,?_⟩) ρ0 w0 nb ρ' f' w' (by rw[hn];exact hnb) hD')
  ·rcases qS ht with h1|⟨h1,h2⟩
   ·exact hm.2.2.get h1
   exact⟨d,by rw[(qR hm.1).1 t (hk t d h2).2];exact h2,.refl d⟩
  rw[hn]
  rcases qS ht with h1|⟨_,h2⟩
  ·exact vE (hcg g') h1
  exact vE hbs h2
 exact⟨λh=>w (h1 h),λh=>w (h2 h)⟩
def tr2 (i:Nat) (t:Tr) (j:Nat) (u:Tr):Tr:=.alt i t (.alt j u .nil)
def trS:List Nat->Tr
 |[]=> .nil
 |i::l=> .alt i (trS l) .nil
end Go.Vy
abbrev fE := @Go.Vy.LeC.refl
namespace Go.Vy
open Go.Vg Go.RowKit
inductive SelfF (P:Program) (d:Nat) (xs:Array Value):List (TypeId×Nat)->Prop
 |nil:SelfF P d xs []
 |cons {t:TypeId} {o:Nat} {fs:List (TypeId×Nat)} {a:Value} (h1:∀w,(part t xs o).run P w= .ok a w) (h2:∀w,(Op.equalIn d t a a).run P w= .ok true w) (h:SelfF P d xs fs):SelfF P d xs ((t,o)::fs)
theorem SelfF.run {P:Program} {d:Nat} {xs:Array Value} (w:World):∀{fs:List Field},SelfF P d xs (fs.map λf=>(f.type,f.offset))->(Op.eqFields d xs xs fs).run P w= .ok true w
 |[],_=>by simp[Op.eqFields]
 |f::fs,h=>by
  cases h with
  |cons h1 h2 h3=>
   have ih:=SelfF.run w h3
   unfold Op.eqFields
   split
   ·simp[h1,h2,ih]
   exact ih
theorem cBb {vs:List Value} (h:ckF 0 vs=true):False:=by
 unfold ckF at h
 split at h<;>first|(cases h;done)|contradiction
end Go.Vy
namespace Go.Proofs.YtljcaaakbkneaaaGreat
open Go.Vg Go.Vy _root_.Go.Proofs.Tryz
noncomputable abbrev pgQ:=Tryz.prog
def tab:List (Nat×TI):=[(4,{size:=1,by':=1,zero:=[.bool false],bo:=true}),
(5,{size:=1,by':=1,zero:=[.int .u8 0],ik:=some .u8}),
(9,{size:=1,by':=16,zero:=[.string ⟨#[]⟩],str:=true}),
(13,{size:=2,by':=24,zero:=[.string ⟨#[]⟩,.int .u64 0],agg:=true,fs:=[⟨0,9,1,false⟩,⟨1,12,1,false⟩]}),
(21,{size:=1,by':=4,zero:=[.int .i32 0],ik:=some .i32}),
(22,{size:=1,by':=24,zero:=[.slice none 0 0],el:=some 67}),
(23,{size:=1,by':=24,zero:=[.slice none 0 0],el:=some 59}),
(26,{size:=1,by':=24,zero:=[.slice none 0 0],el:=some 3}),
(42,{size:=1,by':=24,zero:=[.slice none 0 0],el:=some 53}),
(49,{size:=1,by':=24,zero:=[.slice none 0 0],el:=some 98}),
(57,{size:=1,by':=24,zero:=[.slice none 0 0],el:=some 75}),
(64,{size:=1,by':=24,zero:=[.slice none 0 0],el:=some 4}),
(76,{size:=1,by':=24,zero:=[.slice none 0 0],el:=some 57}),
(98,{size:=1,by':=4,zero:=[.int .u32 0],ik:=some .u32}),
(109,{size:=1,by':=24,zero:=[.slice none 0 0],el:=some 42}),
(121,{size:=1,by':=8,zero:=[.map none],mv:=some (.int .i64 0)}),
(179,{size:=1,by':=24,zero:=[.slice none 0 0],el:=some 203}),
(203,{size:=1,by':=8,zero:=[.map none],mp:=true})]++
 [24,25].map (λn=>(n,{size:=2,by':=48,zero:=[.slice none 0 0,.slice none 0 0],agg:=true,fs:=[⟨0,22,1,false⟩,⟨1,23,1,false⟩]}))++
 [27,28].map (λn=>(n,{size:=2,by':=48,zero:=[.slice none 0 0,.slice none 0 0],agg:=true,fs:=[⟨0,26,1,false⟩,⟨1,26,1,false⟩]}))++
 [38,39].map (λn=>(n,{size:=2,by':=32,zero:=[.slice none 0 0,.int .i64 0],agg:=true,fs:=[⟨0,26,1,false⟩,⟨1,3,1,false⟩]}))++
 [50,51].map (λn=>(n,{size:=2,by':=32,zero:=[.bool false,.slice none 0 0],agg:=true,fs:=[⟨0,4,1,false⟩,⟨1,49,1,false⟩]}))++
 [52,53].map (λn=>(n,{size:=3,by':=56,zero:=[.bool false,.slice none 0 0,.slice none 0 0],agg:=true,fs:=[⟨0,51,2,true⟩,⟨2,49,1,false⟩]}))++
 [58,59].map (λn=>(n,{size:=5,by':=88,zero:=[.int .i64 0,.bool false,.slice none 0 0,.slice none 0 0,.slice none 0 0],agg:=true,fs:=[⟨0,3,1,false⟩,⟨1,53,3,true⟩,⟨4,57,1,false⟩]}))++
 [66,67].map (λn=>(n,{size:=11,by':=184,zero:=[.bool false,.slice none 0 0,.slice none 0 0,.bool false,.bool false,.slice none 0 0,.slice none 0 0,.bool false,.bool false,.slice none 0 0,.slice none 0 0],agg:=true,fs:=[⟨0,53,3,true⟩,⟨3,4,1,false⟩,⟨4,53,3,true⟩,⟨7,4,1,false⟩,⟨8,53,3,true⟩]}))++
 [74,75].map (λn=>(n,{size:=4,by':=64,zero:=[.int .i64 0,.bool false,.slice none 0 0,.slice none 0 0],agg:=true,fs:=[⟨0,3,1,false⟩,⟨1,53,3,true⟩]}))++
 [77,78].map (λn=>(n,{size:=3,by':=40,zero:=[.int .i64 0,.int .i64 0,.slice none 0 0],agg:=true,fs:=[⟨0,3,1,false⟩,⟨1,3,1,false⟩,⟨2,76,1,false⟩]}))++
 [79,80].map (λn=>(n,{size:=8,by':=128,zero:=[.slice none 0 0,.slice none 0 0,.int .i64 0,.int .i64 0,.slice none 0 0,.int .i64 0,.int .i64 0,.slice none 0 0],agg:=true,fs:=[⟨0,26,1,false⟩,⟨1,26,1,false⟩,⟨2,78,3,true⟩,⟨5,78,3,true⟩]}))++
 [81,82].map (λn=>(n,{size:=10,by':=176,zero:=[.slice none 0 0,.slice none 0 0,.slice none 0 0,.slice none 0 0,.int .i64 0,.int .i64 0,.slice none 0 0,.int .i64 0,.int .i64 0,.slice none 0 0],agg:=true,fs:=[⟨0,26,1,false⟩,⟨1,26,1,false⟩,⟨2,80,8,true⟩]}))++
 [180,181].map (λn=>(n,{size:=4,by':=96,zero:=[.slice none 0 0,.slice none 0 0,.slice none 0 0,.slice none 0 0],agg:=true,fs:=[⟨0,76,1,false⟩,⟨1,76,1,false⟩,⟨2,179,1,false⟩,⟨3,26,1,false⟩]}))++
 [211,212].map (λn=>(n,{size:=5,by':=40,zero:=[.int .u64 0,.int .u64 0,.int .u64 0,.int .u64 0,.bool false],agg:=true,fs:=[⟨0,118,1,false⟩,⟨1,118,1,false⟩,⟨2,118,1,false⟩,⟨3,118,1,false⟩,⟨4,4,1,false⟩]}))++
 [124,125,170].map (λn=>(n,{size:=1,by':=8,zero:=[.map none],mv:=some (.slice none 0 0)}))++
 [2,3,43,220].map (λn=>(n,{size:=1,by':=8,zero:=[.int .i64 0],ik:=some .i64}))++
 [12,118,185,233].map (λn=>(n,{size:=1,by':=8,zero:=[.int .u64 0],ik:=some .u64}))++
 [30,174,237,240].map (λn=>(n,{size:=1,by':=8,zero:=[.pointer none],pt:=true}))++
 [1,29,31,32,33,34,35,36,37,40,41,45,47,48,54,55,56,60,61,62,63,65,68,69,70,71,72,73,84,85,86,87,89,90,91,93,94,95,96,97,99,100,101,102,103,104,105,106,107,108,110,111,112,114,115,116,117,119,120,123,126,127,129,130,132,133,134,135,136,137,139,140,141,143,144,146,148,149,151,152,153,154,156,157,158,159,160,161,163,164,166,167,168,169,171,172,173,175,177,178,183,184,186,187,188,189,190,191,192,194,196,197,198,199,200,201,202,204,205,206,207,208,209,210,213,214,216,217,218,219,222,223,224,225,226,227,228,229,230,231,232,234,235,236,238,239].map (λn=>(n,{size:=1,by':=8,zero:=[.nilFunc]}))
theorem cBc:tab.map (λe=>bBa pgQ e.1)=tab.map (λe=>bBb e.2):=by kernel_rfl
theorem cBd:tab.all (chk tab)=true:=by kernel_rfl
theorem cBe:tab.all (λe=>Nat.beq e.2.ck 0)=true:=by kernel_rfl
theorem cBf:∀e∈tab,∀vs,ckF e.2.ck vs=true->CkP pgQ e.1 vs:=λe he vs h=>by rw[aM (aX.1 cBe e he)] at h;exact(cBb h).elim
theorem cBg:∀e∈tab,e.2.mp=true->∃k e',pgQ.underlying e.1=some (.map k e')/\pgQ.underlying k=some (.int .i64):=λe he h=>by have:=aX.1 (show tab.all (λe=>!e.2.mp||Nat.beq e.1 203)=true by kernel_rfl) e he;rw[h] at this;simp only[jX,qL] at this;rw[aM this];exact⟨3,4,U0,U0⟩
theorem gT:Go.Vy.Good pgQ (Go.Vy.look tab):=bJa cBc cBd cBf cBg kR kR
theorem mxd:pgQ.follows .mixedOrders=true:=by kernel_rfl
theorem tV:True:=⟨⟩
theorem rS {p:Prop} (h:p:=by (repeat refine⟨U,?_⟩);first|rfl|trivial):p:=h
theorem eo {f:FuncId} {fn:Func} (h:pgQ.funcs[f]? =some fn) (h1:fn.body.isNone=false:=by rfl) (h2:(fn.name== "runtime.NumGoroutine")=false:=by kernel_rfl):Ent pgQ f:=Ent.of h h1 h2
theorem vk {nb N:Nat} {c:Code} {K:Kt} {s:SS} (h:VC pgQ (Go.Vy.look tab) nb N c K s):Sd pgQ nb N c K s:=aDr gT mxd h
theorem cw {q:FuncId} {fn:Func} (hf:pgQ.funcs[q]? =some fn) {al:List DV} {σ:Type} {R:σ->Out} (h:VC pgQ (Go.Vy.look tab) 0 fn.ntmps (fn.body.getD .skip) ⟨aQv (Go.Vy.look tab) [] 0 fn.results.toList λg=>(R g).F,λ_ _=>False,aQv (Go.Vy.look tab) [] 0 fn.results.toList λg=>(R g).F⟩ ⟨aWz 0 al,[],[],[]⟩) (h1:fn.body=some (fn.body.getD .skip):=by rfl) (h2:Nat.ble al.length fn.ntmps=true:=by rfl) (h3:fn.body.isNone=false:=by rfl) (h4:(fn.name== "runtime.NumGoroutine")=false:=by kernel_rfl):Ctr pgQ q [] al [] R:=gA gT (Ent.of hf h3 h4) hf h1 U (by simp) (bT h2) ClB.nil (aDr gT mxd h)
def iC (z:Int):CV:=.v (.int .i64 z)
structure Sl (I:Type) where
 A:Option Addr
 c:Nat
 l:List I
def Sl.R {I:Type} (s:Sl I) (n:Nat) (f:I->List CV) (d:I):CV:=.r s.A s.l.length s.c n λj=>f (s.l.getD j d)
def cI (s:Sl Int):CV:=s.R 1 (λz=>[iC z]) 0
def cG {I:Type}:Sl I:=⟨none,0,[]⟩
theorem aOh {I:Type} {P:I->Prop} {l:List I} {i:Nat} {d:I} (h:i<l.length):(∀z∈l.take (i+1),P z)↔(∀z∈l.take i,P z)/\P (l.getD i d):=by
 rw[dF,aG h]
 simp only[aO,Option.mem_toList,Option.mem_def,Option.some.injEq,List.getD,aG h,Option.getD_some]
 constructor
 ·intro hh;exact⟨λz hz=>hh z (.inl hz),hh _ (.inr rfl)⟩
 rintro⟨h1,h2⟩ z (hz|rfl)
 ·exact h1 z hz
 exact h2
theorem gd {I:Type} {l:List I} {i:Nat} {d:I} (h:i<l.length):l.getD i d=l[i]:=by simp[List.getD,h]
theorem bBg {i:Nat} (x:List Int):∀c∈x.map iC,kS i c=false:=λc hc=>by
 obtain⟨z,_,rfl⟩:=bZ.1 hc
 rfl
theorem aW (x:List Int):∀c∈x.map iC,fS c=true:=λc hc=>by
 obtain⟨z,_,rfl⟩:=bZ.1 hc
 rfl
theorem apI {x:List Int} {z:Int} {i:Nat} (h:x.length<=1000000):1*1=[iC z].length/\x.length*1=(x.map iC).length/\x.length+1<=maxLen/\(x.length+1)*8<=140737488355328/\∀c∈x.map iC++[iC z],kS i c=false:=
 ⟨U,by simp,by simp only[maxLen];omega,Uc,λc hc=>by
  rcases aO.1 hc with hc|hc
  ·exact bBg x c hc
  rw[aE.1 hc];rfl⟩
theorem bJb {z:Int} {i:Nat}:∀c∈[iC z],kS i c=false:=λc hc=>by rw[aE.1 hc];rfl
theorem mS {x:List Int} (j:Nat) (h:j<x.length):[iC (x.getD j 0)]=((x.map iC).drop (j*1)).take 1:=by
 have hd:(x.map iC).drop j=iC x[j]::(x.drop (j+1)).map iC:=by rw[<-qM,dK h,eQ]
 rw[bE,hd,gd h]
 rfl
theorem map_take {I β:Type} {f:I->β} {l:List I} {i:Nat} {d:I} (h:i<l.length):(l.take (i+1)).map f=(l.take i).map f++[f (l.getD i d)]:=by
 rw[dF,aG h,gd h,bA]
 rfl
noncomputable def pC (p:Prop):DV:=.c (.b p (Classical.propDecidable p))
end Go.Proofs.YtljcaaakbkneaaaGreat
namespace Go.Proofs.YtljcaaakbkneaaaGreat
open Go.Vg Go.Vm _root_.Go.Proofs.Tryz
open Go.Vy hiding val
def uC (z:Nat):CV:=.v (.int .u32 z)
def wC (z:Nat):CV:=.v (.int .u64 z)
def eI (s:Sl Nat):CV:=s.R 1 (λz=>[uC z]) U6
abbrev aDz (n:Nat):Sl Nat->Out:=λg=>⟨.c (eI g),[],g.l=dB n⟩
theorem vF (x:Nat):((x%4294967296:Nat):Int)=IntKind.u32.wrap (x:Int):=by rw[IntKind.wrap_u32];omega
theorem wu {a z:Int} (h:(a=z/\0<=z/\z<=18446744073709551615):=by (first|omega|(simp only[maxLen] at*;omega))):a=IntKind.u64.wrap z:=by rw[aFc h.2];exact h.1
theorem xX (x:Nat):((x/4294967296:Nat):Int)=(x:Int).fdiv (2^(min (32:Int).toNat IntKind.u64.bits)):=by
 rw[kI _ dC]
 show _=(x:Int)/4294967296
 omega
theorem aGa {x:Nat} (h:x<4294967296):((x*4294967296:Nat):Int)=IntKind.u64.wrap ((x:Int)*2^(min (32:Int).toNat IntKind.u64.bits)):=by
 rw[show(2:Int)^(min (32:Int).toNat IntKind.u64.bits)=4294967296 from U,aFc oM];omega
theorem p32:(0:Int)<=32:=by decide
theorem jN (l:List Nat):∀c∈l.map uC,fS c=true:=λc hc=>by
 obtain⟨z,_,rfl⟩:=bZ.1 hc
 rfl
theorem aBl {i:Nat} (l:List Nat):∀c∈l.map uC,kS i c=false:=λc hc=>by
 obtain⟨z,_,rfl⟩:=bZ.1 hc
 rfl
theorem nG {x:List Nat} (j:Nat) (h:j<x.length):[uC (x.getD j U6)]=((x.map uC).drop (j*1)).take 1:=by
 have hd:(x.map uC).drop j=uC x[j]::(x.drop (j+1)).map uC:=by rw[<-qM,dK h,eQ]
 rw[bE,hd,gd h]
 rfl
theorem aBm {x:List Nat}:∀{n:Nat},n<=x.length->flatR n (λj=>[uC (x.getD j U6)])=(x.take n).map uC
 |0,_=>by simp[flatR]
 |n+1,h=>by
  rw[gL,aBm oM,map_take (d:=U6) oM]
theorem bQz (x:Sl Nat) (hx:Lm x.l) (hn:x.l.length<=35184372088832):Ctr pgQ 156 [] [.c (eI x)] [] (λ_:Unit=>⟨.c (.s 0 (dB (val x.l)).length),[(98,1,(dB (val x.l)).map uC)],True⟩):=by
 refine cw func156 (?_)
 refine lJ (rn [(3,3),(6,17)]) (λn:Nat=>[(3,.c (iC n))]) (λ_=>[]) (λn=>n<=x.l.length/\val (x.l.take n)=val x.l) (λn=>n) x.l.length ?_
 refine⟨⟨⟨aH _,by rw[cE (aH _)]⟩,U,U⟩,λn hi=>vk ⟨(n:Int)-1,λh=>wi,n-1,λh=>⟨oM,oM⟩,⟨λh1=>vk ?_,λh1=>vk (vk ?_)⟩⟩⟩
 ·exact⟨(n:Int)-1,wi,n-1,⟨⟨oM,aHw hi.1 oM hi.2 oM⟩,oM⟩,U,U,show _=_ by omega⟩
 have hz:n=0\/x.l.getD (n-1) U6≠0:=by
  rcases cL n with h|h
  ·exact .inl h
  exact .inr λh2=>h1 ⟨Uc,by rw[h2];rfl⟩
 have ht:=aHv hx hi.1 hi.2 hz
 refine⟨n,⟨U,hi.1⟩,⟨λj hj=>U,U,by simp only[maxLen];omega,show(0+n)*4<=_ by omega,λc hc=>?_⟩,(),tV,fH ?_ ?_ (aB _) ?_ rfl aDy⟩
 ·replace hc:c∈flatR n λj=>[uC (x.l.getD j U6)]:=hc
  rw[aBm hi.1] at hc
  exact aBl _ c hc
 ·show _=_
  rw[<-ht,bI];omega
 ·show(98,1,flatR n λj=>[uC (x.l.getD j U6)])=(98,1,_)
  rw[aBm hi.1,ht]
 exact aA (aX.2 λc hc=>sM (jN _ c hc)) aU
theorem oF (x:Sl Nat) (hx:Lm x.l) (hn:x.l.length<=35184372088832):Ctr pgQ 156 [] [.c (eI x)] [] (aDz (val x.l)):=
 ((bQz x hx hn).frz (λ_ j=>[uC ((dB (val x.l)).getD j U6)]) λ_ _=>⟨λj hj=>nG j hj,by simp,dO,jN _⟩).re λg _=>⟨⟨g.2.1,g.2.2,dB (val x.l)⟩,U,U,U,U⟩
def aHm:Nat->Nat->List (Nat×Bool)
 |_,0=>[]
 |a,n+1=>(a,false)::aHm (a+1) n
theorem ff {p:Prop} (h:¬p):(false=true↔p):=⟨λh=>(by cases h),λhp=>U4 hp h⟩
theorem tt {p:Prop} (h:p):(true=true↔p):=⟨λ_=>h,λ_=>U⟩
theorem aKa (x y:Sl Nat):Ctr pgQ 100 [] [.c (eI x),.c (eI y)] [] (λ_:Unit=>⟨pC (x.l=y.l),[],True⟩):=by
 refine gA gT (eo func100) func100 U U U bL ClB.nil (aXc 0 U λhn=>vk ⟨λh=>vk ?_,λh=>vk ?_⟩)
 ·exact⟨(),tV,aI (ff λe=>h (by rw[e])) U tV⟩
 refine lJ (rn [(5,5),(11,25)]) (λk:Nat=>[(5,.c (iC k))]) (λ_=>[]) (λk=>k<=x.l.length/\∀j,j<k->x.l.getD j U6=y.l.getD j U6) (x.l.length-·) 0 ?_
 refine⟨⟨⟨aB _,λj hj=>U4 hj (aF _)⟩,U,U⟩,λk hi=>vk ⟨λh1=>vk ⟨.seq (aHm 0 9),U0,k,⟨U,oM⟩,k,⟨U,oM⟩,⟨λh2=>vk ?_,λh2=>vk ?_⟩⟩,λh1=>vk (vk ?_)⟩⟩
 ·exact⟨(),tV,aI (ff λe=>h2 (by rw[e])) U tV⟩
 ·refine⟨(k+1:Nat),wi,k+1,⟨⟨oM,λj hj=>?_⟩,oM⟩,U,U,U⟩
  rcases bR (cB hj) with h3|rfl
  ·exact hi.2 j h3
  have:=iU.1 h2;omega
 refine⟨(),tV,aI (tt (aYe (by have:=iU.1 h;omega) λj hj=>hi.2 j oM)) U tV⟩
theorem aKb {n:Nat} (hn:n<18446744073709551616):Ctr pgQ 107 [] [.c (wC n)] [] (aDz n):=by
 refine cw func107 (?_)
 have hv:val [n%4294967296,n/4294967296%4294967296]=n:=by rw[cM (show n/4294967296<4294967296 by omega),aSo]
 refine⟨_,vF n,p32,_,xX n,_,vF _,some (λj=>[uC ([n%4294967296,n/4294967296%4294967296].getD j U6)]),⟨⟨aH _,by decide⟩,U,λj hj=>?_,λc hc=>?_⟩,λA c _ _=>?_⟩
 ·exact nG (x:=[n%4294967296,n/4294967296%4294967296]) j hj
 ·exact jN [n%4294967296,n/4294967296%4294967296] c hc
 refine⟨[],oF ⟨A,c,[n%4294967296,n/4294967296%4294967296]⟩ (Lm.two hn) (by simp),U,U,U,λg hg=>⟨g,?_,aI U U tV⟩⟩
 show g.l=dB n
 rw[<-hv]
 exact hg
theorem aQz {x y:Nat} (hx:x<4294967296) (hy:y<4294967296):((x*4294967296+y:Nat):Int)=IntKind.u64.wrap ((BitVec.ofInt IntKind.u64.bits ((x*4294967296:Nat):Int)|||BitVec.ofInt IntKind.u64.bits (y:Int)).toNat:Int):=by
 show _=IntKind.u64.wrap ((BitVec.ofInt 64 ((x*4294967296:Nat):Int)|||BitVec.ofInt 64 (y:Int)).toNat:Int)
 rw[gP,gP,xD,iF,iF,cM oM,cM oM]
 have h:=iM (i:=32) (b:=y) oM x
 rw[bP (2^32) x] at h
 rw[show x*4294967296=x*2^32 from U,<-h,aFc oM]
theorem dg {X:List Nat} {n:Nat} (h:X=dB n):Lm X/\val X=n:=by subst h;exact⟨aJb n,aAs n⟩
theorem bBh (x:Sl Nat) (hx:Lm x.l) (hn:x.l.length<=35184372088832):Ctr pgQ 195 [] [.c (eI x)] [] (λ_:Unit=>⟨.t [.c (wC (if val x.l<18446744073709551616 then val x.l else 0)),pC (val x.l<18446744073709551616)],[],True⟩):=by
 refine cw func195 (⟨[],oF x hx hn,U,U,U,λX hX=>?_⟩)
 replace hX:X.l=dB (val x.l):=hX
 obtain⟨lX,vX⟩:=dg hX
 have h64:=rV (n:=val x.l)
 rw[<-fD,<-hX] at h64
 refine⟨λh=>vk ⟨(),tV,aI ⟨?_,ff oM⟩ U tV⟩,λh=>vk ⟨(X.l.length:Int)-1,wi,?_⟩⟩
 ·rw[U2 oM];rfl
 refine lJ (rn [(4,5),(14,25)]) (λn:Nat=>[(5,.c (iC ((n:Int)-1))),(4,.c (wC (val (X.l.drop n))))]) (λ_=>[]) (λn=>n<=X.l.length) (λn=>n) X.l.length ?_
 refine⟨⟨aH _,U,U,?_⟩,λn hi=>vk ⟨λh1=>vk ?_,λh1=>vk (vk ?_)⟩⟩
 ·show(0:Int)=_
  rw[cK (aH _)];rfl
 ·have hdl:val (X.l.drop n)<4294967296:=by
   have h1:=kC (lX.drop n)
   have h2:4294967296^(X.l.drop n).length<=4294967296^1:=eB dC (by rw[cP];omega)
   omega
  have hd:=lX.at (k:=n-1) oM
  refine⟨p32,_,aGa hdl,n-1,⟨oM,oM⟩,_,wu (a:=(X.l.getD (n-1) U6:Nat)),_,aQz hdl hd,(n:Int)-1-1,wi,n-1,⟨oM,oM⟩,U,U,?_,?_⟩
  ·show(n:Int)-1-1=_
   omega
  show(_:Int)=(_:Int)
  rw[uI oM hi]
  omega
 have h0:n=0:=Uc
 subst h0
 refine⟨(),tV,aI ⟨?_,tt oM⟩ U tV⟩
 show(_:Int)=(_:Int)
 rw[U3 oM,mF,vX]
def sN (a b:Int):Int:=if a<b then-1 else if b<a then 1 else 0
theorem bWo (x y:Sl Nat) (hx:Lm x.l) (hy:Lm y.l) (hn:x.l.length<=35184372088832) (hm:y.l.length<=35184372088832):Ctr pgQ 201 [] [.c (eI x),.c (eI y)] [] (λ_:Unit=>⟨.c (iC (sN (val x.l) (val y.l))),[],True⟩):=by
 refine cw func201 (⟨[],oF x hx hn,U,U,U,λX hX=>⟨[],oF y hy hm,U,U,U,λY hY=>?_⟩⟩)
 replace hX:X.l=dB (val x.l):=hX
 replace hY:Y.l=dB (val y.l):=hY
 obtain⟨lX,vX⟩:=dg hX
 obtain⟨lY,vY⟩:=dg hY
 have hlx:=dZ hx
 have hly:=dZ hy
 rw[<-fD,<-hX] at hlx
 rw[<-fD,<-hY] at hly
 refine⟨λh=>vk ⟨λh1=>vk ?_,λh1=>vk ?_⟩,λh=>vk ⟨(X.l.length:Int)-1,wi,?_⟩⟩
 ·have hlt:val x.l<val y.l:=zC (by rw[<-fD,<-fD,<-hX,<-hY];omega)
  exact⟨(),tV,aI (show(-1:Int)=_ by unfold sN;rw[U3 oM]) U tV⟩
 ·have hlt:val y.l<val x.l:=zC (by rw[<-fD,<-fD,<-hX,<-hY];omega)
  exact⟨(),tV,aI (show(1:Int)=_ by unfold sN;rw[U2 oM,U3 oM]) U tV⟩
 have hl:X.l.length=Y.l.length:=by have:=iU.1 h;omega
 refine lJ (rn [(5,5),(23,44)]) (λn:Nat=>[(5,.c (iC ((n:Int)-1)))]) (λ_=>[]) (λn=>n<=X.l.length/\X.l.drop n=Y.l.drop n) (λn=>n) X.l.length ?_
 refine⟨⟨⟨aH _,by rw[cK (aH _),cK oM]⟩,U,U⟩,λn hi=>vk ⟨λh1=>vk ⟨.seq (aHm 0 9),U0,n-1,⟨oM,oM⟩,n-1,⟨oM,oM⟩,⟨λh2=>vk ?_,λh2=>vk ⟨.seq (aHm 0 9),U0,n-1,⟨oM,oM⟩,n-1,⟨oM,oM⟩,⟨λh3=>vk ?_,λh3=>vk ?_⟩⟩⟩⟩,λh1=>vk (vk ?_)⟩⟩
 ·have hlt:val x.l<val y.l:=by
   have h:=aJc (a:=X.l) (b:=Y.l) (m:=n-1) lX oM oM (by rw[show n-1+1=n by omega];exact hi.2) oM
   rw[vX,vY] at h;exact h
  exact⟨(),tV,aI (show(-1:Int)=_ by unfold sN;rw[U3 oM]) U tV⟩
 ·have hlt:val y.l<val x.l:=by
   have h:=aJc (a:=Y.l) (b:=X.l) (m:=n-1) lY oM oM (by rw[show n-1+1=n by omega];exact hi.2.symm) oM
   rw[vY,vX] at h;exact h
  exact⟨(),tV,aI (show(1:Int)=_ by unfold sN;rw[U2 oM,U3 oM]) U tV⟩
 ·exact⟨(n:Int)-1-1,wi,n-1,⟨⟨oM,aHx oM hi.1 oM hi.2 oM⟩,oM⟩,U,U,show(n:Int)-1-1=_ by omega⟩
 have h0:n=0:=Uc
 subst h0
 have h:=hi.2
 rw[mF,mF] at h
 have h:=U5 val h
 rw[vX,vY] at h
 exact⟨(),tV,aI (show(0:Int)=_ by unfold sN;rw[U2 oM,U2 oM]) U tV⟩
theorem wB {x:List Nat} {i:Nat} {z:Nat} (h:i<x.length):mJ (x.map uC) (i*1) [uC z]=(x.set i z).map uC:=by
 unfold mJ
 rw[bE,<-uP,<-qM,kK,U3 h,bA,eQ]
 rfl
theorem aKc {x:List Nat} {i:Nat} (h:i<x.length):(x.map uC)[i*1]? =some (uC (x.getD i U6)):=by
 rw[bE,dQ,aG h,gd h]
 rfl
theorem zF (m:Nat):List.replicate m (.v (.int .u32 0))=(List.replicate m 0).map uC:=by simp[uC]
theorem w0 {x:Nat} (h:x<=18446744073709551615):(x:Int)=IntKind.u64.wrap (x:Int):=(aFc oM).symm
theorem wa {x y:Nat} (h:x+y<=18446744073709551615):((x+y:Nat):Int)=IntKind.u64.wrap ((x:Int)+(y:Int)):=(aFc oM).symm.trans (by rw[rK])
theorem bBi (x y:Sl Nat) (hx:Lm x.l) (hy:Lm y.l) (hn:x.l.length<=17592186044416) (hm:y.l.length<=17592186044416):Ctr pgQ 167 [] [.c (eI x),.c (eI y)] [] (aDz (val x.l+val y.l)):=by
 refine cw func167 (?_)
 obtain⟨m,hmm⟩:∃m:Nat,m=max x.l.length y.l.length+1:=⟨_,U⟩
 refine⟨(m:Int),wi (z:=max (x.l.length:Int) (y.l.length:Int)+1) (h:=⟨Uc,Uc,Uc⟩),m,⟨U,U,show 4*m<=_ by omega,by simp only[maxLen];omega⟩,?_⟩
 refine lJ (rn [(6,7),(15,49)]) (λg:Nat×Nat×List Nat=>[(7,.c (iC g.1)),(6,.c (wC g.2.1))]) (λg=>[(98,1,(iV g.2.2 m).map uC)]) (λg=>g.1<=m/\g.2.2.length=g.1/\Lm g.2.2/\g.2.1<=1/\val g.2.2+4294967296^g.1*g.2.1=val (x.l.take g.1)+val (y.l.take g.1)) (λg=>m-g.1) (0,0,[]) ?_
 refine⟨⟨⟨aB _,U,Lm.nil,aB _,U⟩,?_,U,U⟩,λ⟨k,c,P⟩ ⟨hk,hP,hLm,hc,hv⟩=>vk ⟨λh1=>vk ?_,λh1=>vk (vk ?_)⟩⟩
 ·show [(_,_,_)]=[(_,_,_)]
  rw[sG]
  exact U5 (λl=>[(98,1,l)]) (zF m)
 ·simp only at hk hP hLm hc hv h1
  have hkm:k<m:=Uc
  have dx:=uH hx k
  have dy:=uH hy k
  refine vjn (rn [(6,7),(15,49)]) (λg:Nat=>[(7,.c (iC k)),(6,.c (wC g))]) (λ_=>[(98,1,(iV P m).map uC)]) (λg=>g=c+dig x.l k) ?_
  refine⟨⟨λh2=>vk ⟨k,⟨U,oM⟩,_,w0 (x:=x.l.getD k U6) (by have:=hx.at (k:=k) oM;omega),_,wa (by have:=hx.at (k:=k) oM;omega),_,U,U,U,U,?_⟩,λh2=>vk ⟨_,U,U,U,U,?_⟩⟩,?_⟩
  ·show(_:Int)=(_:Int)
   rw[tO oM]
  ·show(_:Int)=(_:Int)
   rw[zV oM];rfl
  rintro _ rfl
  refine vjn (rn [(6,7),(15,49)]) (λg:Nat=>[(7,.c (iC k)),(6,.c (wC g))]) (λ_=>[(98,1,(iV P m).map uC)]) (λg=>g=c+dig x.l k+dig y.l k) ?_
  refine⟨⟨λh2=>vk ⟨k,⟨U,oM⟩,_,w0 (x:=y.l.getD k U6) (by have:=hy.at (k:=k) oM;omega),_,wa (by have:=hy.at (k:=k) oM;omega),_,U,U,U,U,?_⟩,λh2=>vk ⟨_,U,U,U,U,?_⟩⟩,?_⟩
  ·show(_:Int)=(_:Int)
   rw[tO (xs:=y.l) oM]
  ·show(_:Int)=(_:Int)
   rw[zV (xs:=y.l) oM];rfl
  rintro _ rfl
  have hfl:k<(iV P m).length:=by rw[kP oM];exact hkm
  refine⟨_,vF _,k,⟨U,hkm,show k*1<_ by rw[aK];omega⟩,_,⟨wB hfl,show k*1+1<=_ by rw[aK];omega⟩,p32,_,xX _,(k+1:Nat),wi,(k+1,(c+dig x.l k+dig y.l k)/4294967296,P++[(c+dig x.l k+dig y.l k)%4294967296]),⟨⟨oM,?_,hLm.snoc (dG _ dC),?_,?_⟩,?_⟩,U,?_,U,U⟩
  ·simp[hP]
  ·show _/_<=_
   omega
  ·show val (P++_)+_=val (x.l.take (k+1))+val (y.l.take (k+1))
   rw[pE,pE];exact aMz hP hv
  ·show m-(k+1)<m-k
   omega
  show [(_,_,_)]=[(_,_,_)]
  rw[oY hP hkm]
 simp only at hk hP hLm hc hv h1
 obtain rfl:m=P.length:=Uc
 have hf:iV P P.length=P:=qG U
 have hfin:=bHk hx hy U hmm (by rw[hP];exact hv)
 refine⟨some (λj=>[uC (P.getD j U6)]),⟨⟨aB _,dO⟩,?_,λj hj=>?_,?_⟩,λA cc _ _=>⟨[],oF ⟨A,cc,P⟩ hLm (by show P.length<=_;omega),U,U,U,λg hg=>⟨g,?_,aI U U tV⟩⟩⟩
 ·show P.length*1=_
  rw[hf];simp
 ·show _=List.take 1 (List.drop (j*1) ((iV P P.length).map uC))
  rw[hf];exact nG j hj
 ·rw[hf];exact jN P
 show g.l=_
 rw[<-hfin];exact hg
theorem qT {a b:Int}:sN a b<0↔a<b:=by unfold sN;constructor<;>intro h<;>(repeat split at*)<;>omega
theorem bBj (x y:Sl Nat) (hx:Lm x.l) (hy:Lm y.l) (hn:x.l.length<=17592186044416) (hm:y.l.length<=17592186044416):Ctr pgQ 168 [] [.c (eI x),.c (eI y)] [] (λg:Sl Nat=>⟨.t [.c (eI g),pC (val y.l<=val x.l)],[],g.l=dB (val x.l-val y.l)⟩):=by
 refine cw func168 (⟨[],bWo x y hx hy oM oM,U,U,U,λ_ _=>⟨λh=>vk ?_,λh=>vk ?_⟩⟩)
 ·have h:=qT.1 h
  refine⟨⟨none,0,[]⟩,?_,aI ⟨⟨U,U,U⟩,ff oM⟩ U tV⟩
  show []=dB _
  rw[show val x.l-val y.l=0 by omega];rfl
 have hxy:val y.l<=val x.l:=by
  rcases eE (val x.l) (val y.l) with h'|h'
  ·exact U4 (qT.2 oM) h
  exact h'
 refine⟨[],oF x hx oM,U,U,U,λX hX=>⟨[],oF y hy oM,U,U,U,λY hY=>?_⟩⟩
 replace hX:X.l=dB (val x.l):=hX
 replace hY:Y.l=dB (val y.l):=hY
 obtain⟨lX,vX⟩:=dg hX
 obtain⟨lY,vY⟩:=dg hY
 have hlen:Y.l.length<=X.l.length:=by rw[hX,hY];exact fR hxy
 have hXn:X.l.length<=x.l.length:=by rw[hX];exact dZ hx
 refine⟨X.l.length,⟨U,U,show 4*X.l.length<=_ by omega,by simp only[maxLen];omega⟩,?_⟩
 refine lJ (rn [(7,10),(22,56)]) (λg:Nat×Nat×List Nat=>[(8,.c (iC g.1)),(7,.c (wC g.2.1))]) (λg=>[(98,1,(iV g.2.2 X.l.length).map uC)]) (λg=>g.1<=X.l.length/\g.2.2.length=g.1/\Lm g.2.2/\g.2.1<=1/\val g.2.2+val (Y.l.take g.1)=val (X.l.take g.1)+4294967296^g.1*g.2.1) (λg=>X.l.length-g.1) (0,0,[]) ?_
 refine⟨⟨⟨aB _,U,Lm.nil,aB _,U⟩,?_,U,U⟩,λ⟨k,c,P⟩ ⟨hk,hP,hLm,hc,hv⟩=>vk ⟨λh1=>vk ?_,λh1=>vk (vk ?_)⟩⟩
 ·show [(_,_,_)]=[(_,_,_)]
  rw[sG]
  exact U5 (λl=>[(98,1,l)]) (zF _)
 ·simp only at hk hP hLm hc hv h1
  have hkm:k<X.l.length:=Uc
  have dx:=lX.at hkm
  have dy:=uH lY k
  refine vjn (rn [(7,10),(22,56)]) (λg:Nat=>[(8,.c (iC k)),(7,.c (wC c)),(9,.c (wC g))]) (λ_=>[(98,1,(iV P X.l.length).map uC)]) (λg=>g=c+dig Y.l k) ?_
  refine⟨⟨λh2=>vk ⟨k,⟨U,oM⟩,_,w0 (x:=Y.l.getD k U6) (by have:=lY.at (k:=k) oM;omega),_,wa (by have:=lY.at (k:=k) oM;omega),_,U,U,U,U,U,?_⟩,λh2=>vk ⟨_,U,U,U,U,U,?_⟩⟩,?_⟩
  ·show(_:Int)=(_:Int)
   rw[tO (xs:=Y.l) oM]
  ·show(_:Int)=(_:Int)
   rw[zV (xs:=Y.l) oM];rfl
  rintro _ rfl
  have hfl:k<(iV P X.l.length).length:=by rw[kP oM];exact hkm
  obtain⟨b,hb⟩:∃b:Nat,b=if X.l.getD k U6<c+dig Y.l k then 1 else 0:=⟨_,U⟩
  refine⟨k,⟨U,hkm⟩,_,w0 (x:=X.l.getD k U6) oM,?_⟩
  refine vjn (rn [(7,10),(22,56)]) (λ_:Unit=>[(8,.c (iC k)),(7,.c (wC b)),(9,.c (wC (c+dig Y.l k))),(10,.c (wC (X.l.getD k U6+4294967296*b)))]) (λ_=>[(98,1,(iV P X.l.length).map uC)]) (λ_=>True) ?_
  refine⟨⟨λh2=>vk ⟨_,wa (x:=X.l.getD k U6) (y:=4294967296) oM,(),tV,U,U,U,?_,U,?_⟩,λh2=>vk ⟨(),tV,U,U,U,?_,U,?_⟩⟩,?_⟩
  ·show(1:Int)=(b:Int)
   rw[hb,U3 oM];rfl
  ·show(_:Int)=(_:Int)
   rw[hb,U3 oM]
  ·show(0:Int)=(b:Int)
   rw[hb,U2 oM];rfl
  ·show(_:Int)=(_:Int)
   rw[hb,U2 oM,pT,iS]
  intro _ _
  have hb1:(X.l.getD k U6<c+dig Y.l k/\b=1)\/(¬X.l.getD k U6<c+dig Y.l k/\b=0):=by
   by_cases h:X.l.getD k U6<c+dig Y.l k
   ·exact .inl ⟨h,by rw[hb,U3 h]⟩
   exact .inr ⟨h,by rw[hb,U2 h]⟩
  have hs:=aNa (x:=X.l.getD k U6) (y:=dig Y.l k) hP hv dx dy hc
  have hm:(X.l.getD k U6+4294967296*b-(c+dig Y.l k))%4294967296=(X.l.getD k U6+4294967296-(c+dig Y.l k))%4294967296:=Uc
  have hbi:(if X.l.getD k U6<c+dig Y.l k then 1 else 0)=b:=hb.symm
  rw[<-hm,hbi] at hs
  rw[<-dV hkm,<-pE] at hs
  refine⟨((X.l.getD k U6+4294967296*b-(c+dig Y.l k):Nat):Int),wu (h:=⟨Uc,Uc,Uc⟩),_,vF _,k,⟨U,hkm,show k*1<_ by rw[aK];omega⟩,_,⟨wB hfl,show k*1+1<=_ by rw[aK];omega⟩,(k+1:Nat),wi,(k+1,b,P++[(X.l.getD k U6+4294967296*b-(c+dig Y.l k))%4294967296]),⟨⟨oM,?_,hLm.snoc (dG _ dC),?_,?_⟩,?_⟩,U,?_,U,U⟩
  ·simp[hP]
  ·show b<=1
   omega
  ·exact hs
  ·show _-(k+1)<_-k
   omega
  show [(_,_,_)]=[(_,_,_)]
  rw[oY hP hkm]
 simp only at hk hP hLm hc hv h1
 obtain rfl:k=X.l.length:=Uc
 have hf:iV P X.l.length=P:=qG hP
 have hfin:=aSp (k:=X.l.length) hLm hP (aH _) hlen oM hv
 refine⟨some (λj=>[uC (P.getD j U6)]),⟨⟨aB _,dO⟩,?_,λj hj=>?_,?_⟩,λA cc _ _=>⟨[],oF ⟨A,cc,P⟩ hLm (by show P.length<=_;omega),?_,U,U,λg hg=>⟨g,?_,aI ⟨U,tt hxy⟩ U tV⟩⟩⟩
 ·show X.l.length*1=_
  rw[hf];simp[hP]
 ·show _=List.take 1 (List.drop (j*1) ((iV P X.l.length).map uC))
  rw[hf];exact nG j (by rw[hP];exact hj)
 ·rw[hf];exact jN P
 ·show [DV.c (.r A X.l.length cc 1 _)]=[DV.c (.r A P.length cc 1 _)]
  rw[hP]
 show g.l=_
 rw[<-vX,<-vY,<-hfin];exact hg
theorem wm {x y:Nat} (h:x*y<=18446744073709551615):((x*y:Nat):Int)=IntKind.u64.wrap ((x:Int)*(y:Int)):=(aFc (z:=((x*y:Nat):Int)) oM).symm.trans (by rw[gQ])
theorem bWp (x y:Sl Nat) (hx:Lm x.l) (hy:Lm y.l) (hn:x.l.length<=17592186044416) (hm:y.l.length<=17592186044416):Ctr pgQ 169 [] [.c (eI x),.c (eI y)] [] (aDz (val x.l*val y.l)):=by
 refine cw func169 (?_)
 obtain⟨m,hmm⟩:∃m:Nat,m=x.l.length+y.l.length:=⟨_,U⟩
 refine⟨(m:Int),wi (z:=(x.l.length:Int)+(y.l.length:Int)) (h:=⟨Uc,Uc,Uc⟩),m,⟨U,U,show 4*m<=_ by omega,by simp only[maxLen];omega⟩,?_⟩
 refine lJ (rn [(6,8),(15,64)]) (λg:Nat×List Nat=>[(6,.c (iC g.1))]) (λg=>[(98,1,g.2.map uC)]) (λg=>g.1<=x.l.length/\g.2.length=m/\Lm g.2/\val (g.2.take (g.1+y.l.length))=val (x.l.take g.1)*val y.l/\∀j,g.1+y.l.length<=j->j<g.2.length->g.2.getD j U6=0) (λg=>x.l.length-g.1) (0,List.replicate m 0) ?_
 refine⟨⟨⟨aB _,by simp,Lm.zeros m,?_,λj _ hj=>?_⟩,?_,U⟩,λ⟨i,O⟩ ⟨hi,hO,hLm,hv,hz⟩=>vk ⟨λh1=>vk ?_,λh1=>vk (vk ?_)⟩⟩
 ·show val ((List.replicate m 0).take _)=_
  rw[List.take_replicate,aCh]
  simp[val]
 ·rw[cU] at hj
  rw[gd (by simpa using hj)]
  simp
 ·exact U5 (λl=>[(98,1,l)]) (zF m)
 ·simp only at hi hO hLm hv hz h1
  have him:i<x.l.length:=Uc
  have dx:=hx.at him
  refine lJ (rn [(7,8),(21,56)]) (λg:Nat×Nat×List Nat=>[(8,.c (iC g.1)),(7,.c (wC g.2.1))]) (λg=>[(98,1,(nP O g.2.2 i).map uC)]) (λg=>g.1<=y.l.length/\g.2.2.length=g.1/\Lm g.2.2/\g.2.1<4294967296/\val g.2.2+4294967296^g.1*g.2.1=val ((O.drop i).take g.1)+x.l.getD i U6*val (y.l.take g.1)) (λg=>y.l.length-g.1) (0,0,[]) ?_
  refine⟨⟨⟨aB _,U,Lm.nil,by decide,by simp[val]⟩,?_,U,U⟩,λ⟨k,c,Q⟩ ⟨hk,hQ,hQm,hc,hw⟩=>vk ⟨λh2=>vk ?_,λh2=>vk (vk ?_)⟩⟩
  ·show [(_,_,_)]=[(_,_,_)]
   rw[aNb]
  ·simp only at hk hQ hQm hc hw h2
   have hkm:k<y.l.length:=Uc
   have dy:=hy.at hkm
   have hik:i+k<O.length:=Uc
   have hrl:(nP O Q i).length=O.length:=nQ oM
   have ho:O.getD (i+k) U6<4294967296:=hLm.at hik
   have hg:(nP O Q i).getD (i+k) U6=O.getD (i+k) U6:=aSq hQ hik
   have hlm:=xO dx dy
   obtain⟨p,hp⟩:∃p,p=x.l.getD i U6*y.l.getD k U6:=⟨_,U⟩
   rw[<-hp] at hlm
   have hpos:i+k<(nP O Q i).length:=by rw[hrl];exact hik
   refine⟨.seq (aHm 0 22),U0,((i+k:Nat):Int),wi,i+k,⟨U,Uc,show(i+k)*1<_ by rw[aK,hrl];omega⟩,_,aKc hpos,_,w0 (x:=(nP O Q i).getD (i+k) U6) oM,i,⟨U,him⟩,_,w0 (x:=x.l.getD i U6) oM,k,⟨U,hkm⟩,_,w0 (x:=y.l.getD k U6) oM,_,wm oM,_,wa oM,_,wa oM,((i+k:Nat):Int),wi,_,vF _,i+k,⟨U,Uc,show(i+k)*1<_ by rw[aK,hrl];omega⟩,_,⟨wB hpos,show(i+k)*1+1<=_ by rw[aK,hrl];omega⟩,p32,_,xX _,(k+1:Nat),wi,(k+1,(c+(O.getD (i+k) U6+x.l.getD i U6*y.l.getD k U6))/4294967296,Q++[(c+(O.getD (i+k) U6+x.l.getD i U6*y.l.getD k U6))%4294967296]),⟨⟨oM,?_,hQm.snoc (dG _ dC),?_,aAv hQ hkm hik hw⟩,?_⟩,U,?_,U,?_⟩
   ·simp[hQ]
   ·show _/_<_
    omega
   ·show y.l.length-(k+1)<y.l.length-k
    omega
   ·show [(_,_,_)]=[(_,_,_)]
    rw[hg,aAu hQ hik]
   show(_:Int)=(_:Int)
   rw[hg]
  simp only at hk hQ hQm hc hw h2
  obtain rfl:k=y.l.length:=Uc
  have hpos:i+y.l.length<(nP O Q i).length:=by rw[nQ oM];omega
  have hQ':(Q++[c]).length=y.l.length+1:=by simp[hQ]
  refine⟨((i+y.l.length:Nat):Int),wi,_,vF c,i+y.l.length,⟨U,Uc,show(i+y.l.length)*1<((nP O Q i).map uC).length by rw[aK];omega⟩,_,⟨wB hpos,show(i+y.l.length)*1+1<=((nP O Q i).map uC).length by rw[aK];omega⟩,(i+1:Nat),wi,(i+1,nP O (Q++[c]) i),⟨⟨oM,?_,aSr hLm (hQm.snoc hc),?_,?_⟩,?_⟩,U,?_,U⟩
  ·show(nP O (Q++[c]) i).length=m
   rw[nQ oM];exact hO
  ·rw[hJ (aH _)] at hw
   exact aSs (n:=0) him hQ oM hv hw
  ·exact aFd hQ' oM hz
  ·show x.l.length-(i+1)<x.l.length-i
   omega
  show [(_,_,_)]=[(_,_,_)]
  rw[aAu hQ oM,cM hc]
 simp only at hi hO hLm hv hz h1
 obtain rfl:i=x.l.length:=Uc
 rw[hJ oM,hJ (aH _)] at hv
 refine⟨some (λj=>[uC (O.getD j U6)]),⟨⟨aB _,dO⟩,?_,λj hj=>nG j (by rw[hO];exact hj),jN O⟩,λA cc _ _=>⟨[],oF ⟨A,cc,O⟩ hLm (by show O.length<=_;omega),?_,U,U,λg hg=>⟨g,?_,aI U U tV⟩⟩⟩
 ·show m*1=_
  simp[hO]
 ·show [DV.c (.r A m cc 1 _)]=[DV.c (.r A O.length cc 1 _)]
  rw[hO]
 show g.l=_
 rw[<-hv];exact hg
end Go.Proofs.YtljcaaakbkneaaaGreat
namespace Go.Vy
open Go.Vg Go.RowKit
section
variable {nb:Nat} {X:SS->Prop} {s:SS}
theorem aDs (hX:Tgt nb X) (t:Nat) (T es:Nat) (ht:gK s.sl t=some (.c (.v (.slice none 0 0)))) (hes:0<es) (hgl:s.gl=[]) (h:rO s.bl (T,es,[]) λbl'=>X ⟨(t,.c (.s (cnt s.bl 0) 0))::s.sl,[],bl',s.fl⟩):X s:=by
 have h':=mP h
 rw[zD] at h'
 refine hX.one (λρ0 w0 D f w hD=>?_) h'
 have hp:∀b,((none,0):Option Nat×Nat).1=some b->w.heap.size<=b:=λb hb=>by cases hb
 have kp:Kp D s.bl.length w (xI D s.bl.length (none,0)) (s.bl.length+1) w:=Kp.new hp (Ext.refl w)
 have hn:(s.bl++[(T,es,[])]).length=s.bl.length+1:=by simp
 refine⟨xI D s.bl.length (none,0),⟨hD.m.new hp (Ext.refl w) ?_,⟨λt' d ht'=>?_,λt' gs d ht'=>by cases ht'⟩,hD.l⟩⟩
 ·unfold Bq
  rw[kD]
  exact⟨U,U,hes⟩
 show Hd _ (s.bl++[(T,es,[])]).length w d (f t')
 rw[hn]
 simp only[gK] at ht'
 cases hb:Nat.beq t t' with
 |true=>
  rw[hb] at ht'
  injection ht' with ht'
  subst ht'
  have:=aM hb
  subst this
  have he:=(hD.f.sl t _ ht).inv_c.inv_v
  refine .c ⟨aS _,?_⟩
  rw[kD,he]
  rfl
 |false=>rw[hb] at ht';exact(hD.f.sl t' d ht').kp kp
theorem kU {cl:List Bool} {d:DV} {o:OutF} (hd:EqD d o.d) (hb:aHk s.bl o.bl) (hf:aQy s.fl o.fl) (hnb:nb<=o.bl.length) (hsc:scB o.bl.length o.bl) (hsd:scD o.bl.length o.d=true) (hcl:ClB cl o.bl):bQu cl nb s d o:=λρ0 w0 D w v hD0 hF0 hv0=>by
 have hs0:∀t d',gK [(0,d)] t=some d'->Hd D s.bl.length w d' v:=λt d' ht=>by
  simp only[gK] at ht
  cases hb:Nat.beq 0 t with
  |true=>rw[hb] at ht;injection ht with ht;subst ht;exact hv0
  |false=>rw[hb] at ht;cases ht
 have hq:Dn ρ0 w0 nb ⟨[(0,d)],[],s.bl,s.fl⟩ D (λ_=>v) w:=⟨hD0,⟨hs0,λt gs d ht=>by cases ht⟩,hF0⟩
 obtain⟨_,ρ',_,h⟩:=iP (s:=⟨[(0,d)],[],s.bl,s.fl⟩) (M:=λ_=>true) (base:=[]) (chg:=λ_:Unit=>[(0,o.d)]) (bls:=λ_=>o.bl) (fls:=λ_=>o.fl) (C:=λ_=>True) (λt d ht=>by cases ht) () trivial (show([],[])=([],[]) from U) hb hf (show AllC [(0,d)] [(0,o.d)] from hd) hnb hsc (by simpa using hsd) _ _ _ _ _ hq
 exact⟨ρ',h.m,h.f.sl 0 _ U,hcl,h.l⟩
end
theorem qD {F:Fam} {l:List CV} {k0:Nat} {c0 c1:CV} (hk:l[k0]? =some c0) (hf:FrC F c0 c1):∀(k:Nat) (c c':CV),l[k]? =some c->(l.set k0 c1)[k]? =some c'->c=c'\/FrC F c c':=λk c c' h1 h2=>by
 rcases lT h2 with ⟨rfl,rfl,_⟩|⟨_,h3⟩
 ·rw[hk] at h1
  injection h1 with h1
  subst h1
  exact .inr hf
 rw[h1] at h3
 injection h3 with h3
 exact .inl h3
section
variable {nb:Nat} {X:SS->Prop} {s:SS}
theorem bMx (hX:Tgt nb X) (i k T es:Nat) {T0 e0:Nat} {l:List CV} (hb:s.bl[i]? =some (T0,e0,l)) (hk:l[k]? =some (.v (.slice none 0 0))) (hes:0<es) (hgl:s.gl=[]) (h:nK s.bl i (T0,e0,l.set k (.s (cnt s.bl 0) 0)) λb1=>rO b1 (T,es,[]) λbl'=>X ⟨s.sl,[],bl',s.fl⟩):X s:=by
 have h':=mP (iL h)
 rw[zD] at h'
 have hi:=eH hb
 refine hX.one (λρ0 w0 D f w hD=>?_) h'
 have hp:∀b,((none,0):Option Nat×Nat).1=some b->w.heap.size<=b:=λb hb=>by cases hb
 have kp:Kp D s.bl.length w (xI D s.bl.length (none,0)) (s.bl.length+1) w:=Kp.new hp (Ext.refl w)
 have hn:(s.bl.set i (T0,e0,l.set k (.s s.bl.length 0))++[(T,es,([]:List CV))]).length=s.bl.length+1:=by simp
 have hn0:(s.bl++[(T,es,([]:List CV))]).length=s.bl.length+1:=by simp
 have h1:DnW ρ0 w0 nb (s.bl++[(T,es,[])]) (xI D s.bl.length (none,0)) w:=hD.m.new hp (Ext.refl w) (by unfold Bq;rw[kD];exact⟨U,U,hes⟩)
 refine⟨xI D s.bl.length (none,0),⟨⟨λj T2 e2 l2 hj=>?_,?_,?_,?_,h1.rel,h1.pl,h1.zz,?_,h1.ffr⟩,⟨λt' d ht'=>?_,λt' gs d ht'=>by cases ht'⟩,hD.l⟩⟩
 ·rw[hn]
  have e:s.bl.set i (T0,e0,l.set k (.s s.bl.length 0))++[(T,es,([]:List CV))]=(s.bl++[(T,es,[])]).set i (T0,e0,l.set k (.s s.bl.length 0)):=by rw[List.set_append_left _ _ hi]
  replace hj:(s.bl.set i (T0,e0,l.set k (.s s.bl.length 0))++[(T,es,([]:List CV))])[j]? =_:=hj
  rw[e] at hj
  have hb0:(s.bl++[(T,es,([]:List CV))])[i]? =some (T0,e0,l):=by rw[aV hi];exact hb
  rcases lT hj with ⟨rfl,h2,_⟩|⟨_,h2⟩
  ·injection h2 with h2 h3
   injection h3 with h3 h4
   subst h2 h3 h4
   have hq:=h1.ok j _ _ l hb0
   rw[hn0] at hq
   unfold Bq at hq ⊢
   cases hρ:(xI D s.bl.length (none,0) j).1 with
   |none=>
    simp only[hρ] at hq ⊢
    rw[hq.1] at hk
    cases hk
   |some b=>
    simp only[hρ] at hq ⊢
    obtain⟨vl,junk,q1,q2,q3⟩:=hq
    refine⟨vl,junk,q1,Hl.of_get (by rw[cC];exact q2.len.symm) λq c y hc hy=>?_,q3⟩
    rcases lT hc with ⟨rfl,rfl,_⟩|⟨_,h5⟩
    ·obtain⟨y',h6,h7⟩:=q2.get hk
     rw[hy] at h6
     injection h6 with h6
     subst h6
     have he:=h7.inv_v
     refine⟨aS _,?_⟩
     rw[kD,he]
     rfl
    obtain⟨y',h6,h7⟩:=q2.get h5
    rw[hy] at h6
    injection h6 with h6
    subst h6
    exact h7
  have:=h1.ok j _ _ _ h2
  rw[hn0] at this
  exact this
 ·have:=h1.inj
  rw[hn0] at this
  simpa only[hn] using this
 ·have:=h1.fr
  rw[hn0] at this
  simpa only[hn] using this
 ·have:=h1.nbl
  rw[hn0] at this
  simpa only[hn] using this
 ·have:=h1.fam
  rw[hn0] at this
  simpa only[hn] using this
 show Hd _ (s.bl.set i (T0,e0,l.set k (.s s.bl.length 0))++[(T,es,([]:List CV))]).length w d (f t')
 rw[hn]
 exact(hD.f.sl t' d ht').kp kp
theorem bWq (hX:Tgt nb X) (i m:Nat) {T es:Nat} {l:List CV} (hb:s.bl[i]? =some (T,es,l)) (hes:0<es) (h:nK s.bl i (T,es,l.take m) λbl'=>X ⟨s.sl,s.gl,bl',s.fl⟩):X s:=by
 refine hX.one (s':=⟨s.sl,s.gl,s.bl.set i (T,es,l.take m),s.fl⟩) (λρ0 w0 D f w hD=>⟨D,⟨λj T2 e2 l2 hj=>?_,?_,?_,?_,hD.m.rel,hD.m.pl,hD.m.zz,?_,hD.m.ffr⟩,?_,hD.l⟩) (iL h)
 ·rw[cC]
  rcases lT hj with ⟨rfl,h2,_⟩|⟨_,h2⟩
  ·injection h2 with h2 h3
   injection h3 with h3 h4
   subst h2 h3 h4
   have hq:=hD.m.ok j _ _ l hb
   unfold Bq at hq ⊢
   cases hρ:(D j).1 with
   |none=>
    simp only[hρ] at hq ⊢
    exact⟨by rw[hq.1];simp,hq.2⟩
   |some b=>
    simp only[hρ] at hq ⊢
    obtain⟨vl,junk,q1,q2,q3,q4⟩:=hq
    refine⟨vl.take m,vl.drop m++junk,by rw[<-cW,dT];exact q1,q2.take m,λh0=>?_,λx hx=>q4 x (cH hx)⟩
    rw[<-cW,dT]
    exact q3 h0
  exact hD.m.ok j T2 e2 l2 h2
 ·simpa using hD.m.inj
 ·simpa using hD.m.fr
 ·simpa using hD.m.nbl
 ·simp only[cC];exact hD.m.fam
 exact hD.f.kp U U (by simp only[cC];exact Kp.refl)
end
def PlD (d:DV):Prop:=∀D n w v,Hd D n w d v->∀ρ' n' w',Hd ρ' n' w' d v
theorem FamOk.nil {at':Nat->Option Nat×Nat} {Z:Nat->Prop} {n:Nat} {w:World}:FamOk ⟨at',Z,[]⟩ n w:=
 {ok:=λF hF=>nomatch hF
  own:=λi b _ _ hf=>by
   obtain⟨F,hF,_⟩:=hf
   cases hF
  inj:=λf f' F F' j j' b h1=>nomatch h1}
theorem Ctr.lend {P:Program} {q:FuncId} {τ σ:Type} {al:τ->List DV} {X:τ->Prop} {R:σ->Out} (he:Ent P q) (h:∀t,X t->Ctr P q [] (al t) [] R) (hpl:∀g,PlD (R g).d) {cl:List Bool} {bl:BL} {al':List DV} (hcl:ClB cl bl)
 (ha:∀D w vals,DnW D w bl.length bl D w->HL D bl.length w al' vals->∃t,X t/\HL ⟨D.at',λ_=>True,[]⟩ 0 w (al t) vals):Ctr P q cl al' bl (λg=>⟨(R g).d,bl,(R g).C⟩):=
 ⟨he,hcl,λD w vals hv hD hF=>by
  obtain⟨t,ht,hv'⟩:=ha D w vals hD hv
  refine((h t ht).run ⟨D.at',λ_=>True,[]⟩ w vals hv' ⟨λi T es l hi=>(by cases hi),λi j b hi=>U4 hi (aF _),λi b _ hi=>U4 hi (aF _),aH _,⟨U,U,U,aH _,λ_ _ _ _=>U⟩,λi hi=>U,⟨U,λ_ _=>trivial⟩,FamOk.nil,λb hb=> .inr hb⟩ U).mono λe w' ⟨v,hev,g,ρ',hC,hDr,hdv,hclr,hFr⟩=>?_
  have hr:=hDr.rel
  have hx:Ext w w':=⟨hr.os,hr.tape,hr.output,hr.size,λk hk=>hr.block k hk (λi hi=>U4 hi (aF _)) λ⟨F,hF,_⟩=>by cases hF⟩
  exact⟨v,hev,g,D,hC,hD.ext hx,hpl g _ _ _ _ hdv _ _ _,hcl,hF⟩⟩
section
variable {ρ0 D ρ':Pl} {w0 w w':World} {nb n:Nat} {bl:BL} {s:SS} {f:Nat->Value}
structure Mid (w:World) (n:Nat) (D:Pl) (W:World):Prop where
 os:W.os=w.os
 tape:W.tape=w.tape
 output:W.output=w.output
 size:w.heap.size+2<=W.heap.size
 block:∀k,k<w.heap.size->(∀i,i<n->(D i).1≠some k)->¬InF D k->W.heap[k]? =w.heap[k]?
theorem Mid.put {W:World} {l:Nat} (o:Obj) (h:Mid w n D W) (hl:w.heap.size<=l):Mid w n D (W.putObj l o):=
 ⟨h.os,h.tape,h.output,by rw[World.putObj_size];exact h.size,λk hk hn hf=>(World.putObj_heap_other oM).trans (h.block k hk hn hf)⟩
theorem Fr.nil {fl:List Fam}:Fr ⟨[],[],bl,fl⟩ D w f:=⟨λt d ht=>(by cases ht),λt gs d ht=>by cases ht⟩
theorem Fr.cons {t:Nat} {d:DV} {sl:List (Nat×DV)} {fl:List Fam} (h:Hd D bl.length w d (f t)) (hF:Fr ⟨sl,[],bl,fl⟩ D w f):Fr ⟨(t,d)::sl,[],bl,fl⟩ D w f:=⟨λt' d' ht=>by
 simp only[gK] at ht
 cases hb:Nat.beq t t' with
 |true=>rw[hb] at ht;injection ht with ht;subst ht;rw[<-aM hb];exact h
 |false=>rw[hb] at ht;exact hF.sl t' d' ht,λt gs d ht=>by cases ht⟩
end
/-! ### a function with such a loop -/
abbrev mkD (d:Nat):Deferred:={target:=.collected d,args:=#[]}
def upM (N:Nat) (R:(Nat->Value)->World->Prop):Exit->Act->World->Prop
 |.ret,a,w=>∃f,(Fm [] N f a/\R f w)\/∃d,Fm [mkD d] N f a/\w.heap[d]? =some (.deferred (some []))/\R f (w.putObj d (.deferred none))
 |_,_,_=>False
section
variable {P:Program} {T:TT} {nb N:Nat} {x y z:Code} {KR:SS->Prop} {s:SS}
abbrev RD (ρ0:Pl) (w0:World) (nb:Nat) (KR:SS->Prop) (f:Nat->Value) (w:World):Prop:=∃s D,KR s/\Dn ρ0 w0 nb s D f w
def Sd0 (P:Program) (nb N:Nat) (c:Code) (KR:SS->Prop) (s:SS):Prop:=∀ρ0 w0 D f w a,Dn ρ0 w0 nb s D f w->Fm [] N f a->c.wpIn (fen none) 0 P (upM N (RD ρ0 w0 nb KR)) a w
theorem bWr {X:SS->Prop} (h:Sd P nb N x ⟨X,λ_ _=>False,KR⟩ s) {ρ0 D:Pl} {w0 w:World} {f:Nat->Value} {a:Act} (hD:Dn ρ0 w0 nb s D f w) {dl:List Deferred} (ha:Fm dl N f a) {ro:Option Nat}:x.wpIn (fen ro) 0 P (up dl N ⟨RD ρ0 w0 nb X,λ_ _ _=>False,RD ρ0 w0 nb KR⟩) a w:=
 h ρ0 w0 D f w ⟨RD ρ0 w0 nb X,λ_ _ _=>False,RD ρ0 w0 nb KR⟩ ⟨λs D f w hk hD=>⟨s,D,hk,hD⟩,λ_ _ _ _ _ hk _=>hk,λs D f w hk hD=>⟨s,D,hk,hD⟩⟩ hD ro dl a ha
theorem Sd0.seq (h:Sd P nb N x ⟨Sd0 P nb N y KR,λ_ _=>False,KR⟩ s):Sd0 P nb N (.seq x y) KR s:=λρ0 w0 D f w a hD ha=>
 wpIn_seq (wpIn_mono (bWr h hD ha) λe a w hq=>by
  cases e with
  |normal=>obtain⟨f,hf,s,D,hk,hD⟩:=hq;exact hk _ _ _ _ _ _ hD hf
  |ret=>obtain⟨f,hf,hr⟩:=hq;exact⟨f,.inl ⟨hf,hr⟩⟩
  |exit i=>obtain⟨f,hf,hr⟩:=hq;exact hr.elim
  |goto l=>exact hq.elim
  |panic c=>exact hq.elim
  |outgrown=>exact hq.elim)
theorem Sd.wp {K:Kt} (h:Sd P nb N x K s) {ρ0 D:Pl} {w0 w:World} {f:Nat->Value} (hD:Dn ρ0 w0 nb s D f w):WP P N x ⟨RD ρ0 w0 nb K.nrm,λi=>RD ρ0 w0 nb (K.ext i),RD ρ0 w0 nb K.ret⟩ f w:=
 h ρ0 w0 D f w ⟨RD ρ0 w0 nb K.nrm,λi=>RD ρ0 w0 nb (K.ext i),RD ρ0 w0 nb K.ret⟩ ⟨λs D f w hk hD=>⟨s,D,hk,hD⟩,λ_ s D f w hk hD=>⟨s,D,hk,hD⟩,λs D f w hk hD=>⟨s,D,hk,hD⟩⟩ hD
theorem AllC.hd {chg:List (Nat×DV)} (h:AllC s.sl chg) {ρ0 D:Pl} {w0 w:World} {f:Nat->Value} (hD:Dn ρ0 w0 nb s D f w) {t:Nat} {d:DV} (ht:gK chg t=some d):Hd D s.bl.length w d (f t):=by
 obtain⟨d0,h1,h2⟩:=h.get ht
 exact h2.hd (hD.f.sl t d0 h1)
end
/-! ### a region that calls yield -/
section
variable {P:Program} {n:Nat} {Q:Po} {f:Nat->Value} {w:World} {ops:Array Oper}
def RLI (ro:Option Nat) (P:Program) (n:Nat) (ops:Array Oper) (l:List Oper) (Q:Po) (f:Nat->Value) (w:World):Prop:=∀dl a,Fm dl n f a->wpListIn (fen ro) 0 P ops (up dl n Q) l a w
theorem RLI.nil {ro:Option Nat} (h:Q.nrm f w):RLI ro P n ops [] Q f w:=λ_ _ ha=>wpListIn_nil ⟨f,ha,h⟩
theorem RLI.val {ro:Option Nat} {o:Oper} {rest:List Oper} {d:Nat} {v:Value} {w':World} (hg:o.guard=none) (hnd:ndO o=true) (hd:o.dst=some d) (hn:d<n) (hr:(execOp (ev f) o).run P w= .ok (.value v) w') (h:RLI ro P n ops rest Q (st f d v) w'):RLI ro P n ops (o::rest) Q f w:=λdl a ha=>by
 unfold wpListIn
 have hw:Region.wanted o (yielded ops a.tmps)=true:=by simp[Region.wanted,hg]
 rw[U3 hw]
 refine⟨aIw,?_⟩
 rw[Oper.semAt_plain (fen ro) a.eval o (aXw hnd),ha.eval,hr]
 exact h dl _ (by rw[hd];exact ha.put hn v)
end
theorem CtrF.lo {P:Program} {q:FuncId} {cl:List Bool} {al:List DV} {bl:BL} {fl:List Fam} {σ τ:Type} {R:σ->OutF} {R':τ->OutF} (h:CtrF P q cl al bl fl R) (hp:∀g,(R g).C->∃g',(R' g').C/\(∀D n w v,Hd D n w (R g).d v->Hd D n w (R' g').d v)/\(R' g').bl=(R g).bl/\(R' g').fl=(R g).fl):CtrF P q cl al bl fl R':=
 ⟨h.ent,h.clb,λD w vals hv hD hF=>(h.run D w vals hv hD hF).mono λe w' ⟨v,he,g,ρ',hC,hDr,hdv,hclr,hFr⟩=>by
  obtain⟨g',h1,h2,h3,h4⟩:=hp g hC
  exact⟨v,he,g',ρ',h1,by rw[h3];exact hDr,by rw[h3];exact h2 _ _ _ _ hdv,by rw[h3];exact hclr,by rw[h4];exact hFr⟩⟩
theorem Hd.tt {D:Pl} {n:Nat} {w:World} {p:Prop} {hp:Decidable p} {v:Value} (h:Hd D n w (.c (.b p hp)) v) (ht:p):Hd D n w (.c (.v (.bool true))) v:=by
 rw[h.inv_c.inv_b,decide_eq_true ht];exact .c (Rc.v _)
/-! ### a place within a region -/
section
variable {P:Program} {T:TT} {nb N n:Nat} {Q:Po} {f:Nat->Value} {w:World} {ops:Array Oper} {s:SS} {K:SS->Prop}
theorem cBh {dl:List Deferred} {Q2:Po} {o:Oper} {a:Act} {w:World} {K:Act->World->Prop} (h:o.wp P a w K (up dl n Q)):o.wp P a w K (up dl n Q2):=by
 unfold Oper.wp at h ⊢
 generalize (execOp a.eval o).run P w=r at h ⊢
 cases r with
 |ok x w'=>
  cases x with
  |enter f args=>
   refine Calls.mono h λe w'' hh=>?_
   cases e with
   |returned v=>exact hh
   |panicked c=>exact hh.elim
   |outgrown=>exact(aIx hh).elim
  |_=>exact h
 |halt x w'=>cases x<;>first|exact h|exact h.elim
theorem aGb {dl:List Deferred} {suf:List Oper}:∀{l:List Oper} {a:Act} {w:World},wpList P ops (up dl n ⟨λf w=>RL P n ops suf Q f w,Q.ext,Q.ret⟩) l a w->wpList P ops (up dl n Q) (l++suf) a w
 |[],a,w,h=>by obtain⟨f,hf,hh⟩:=h;exact hh dl a hf
 |o::l,a,w,h=>by
  unfold wpList at h
  show wpList _ _ _ (o::(l++suf)) _ _
  unfold wpList
  split
  ·next hw=>
   rw[U3 hw] at h
   rcases h with h|h
   ·exact .inl (cBh (Oper.wp_mono (λa w hh=>aGb hh) h))
   exact U4 h.2 aIx
  next hw=>
  rw[U2 hw] at h
  exact aGb h
def Sdl (P:Program) (nb N:Nat) (ops:Array Oper) (suf:List Oper) (K:SS->Prop) (s:SS):Prop:=∀ρ0 w0 D f w (Q:Po),(∀s D f w,K s->Dn ρ0 w0 nb s D f w->Q.nrm f w)->Dn ρ0 w0 nb s D f w->RL P N ops suf Q f w
theorem bRa {suf:List Oper}:Tgt nb (Sdl P nb N ops suf K):=λs σ S C h hk ρ0 w0 D f w Q hQ hD=>by
 obtain⟨g,ρ',hC,hD'⟩:=h ρ0 w0 D f w hD
 exact hk g hC ρ0 w0 ρ' f w Q hQ hD'
theorem Sdl.go (hT:Good P T) {l suf:List Oper} (h:VL P T nb N l suf K s):Sdl P nb N l.toArray suf K s:=λρ0 w0 D f w Q hQ hD=>aBj (ops:=l.toArray) hT hQ h hD
theorem Sd.rg (hT:Good P T) {id:Nat} (pre suf:List Oper) {l:List Oper} {K:Kt} (hl:l=pre++suf) (hd:ndA l=true) (h:VL P T nb N l pre (Sdl P nb N l.toArray suf K.nrm) s):Sd P nb N (.region id l.toArray false) K s:=λρ0 w0 D f w Q hL hD=>aSk (λdl a ha=>by
 have h1:RL P N l.toArray pre ⟨λf w=>RL P N l.toArray suf Q f w,Q.ext,Q.ret⟩ f w:=aBj (ops:=l.toArray) hT (Q:=⟨λf w=>RL P N l.toArray suf Q f w,Q.ext,Q.ret⟩) (λs D f w hk hD=>hk ρ0 w0 D f w Q hL.nrm hD) h hD
 have:=aGb (h1 dl a ha)
 rw[<-hl] at this
 exact this) hd
theorem Sd.sq {a b:Code} {K:Kt} (h:Sd P nb N a ⟨λs'=>Sd P nb N b K s',K.ext,K.ret⟩ s):Sd P nb N (.seq a b) K s:=λρ0 w0 D f w Q hL hD=>aXt (h ρ0 w0 D f w _ ⟨λs' ρ' f' w' h' hD'=>h' ρ0 w0 ρ' f' w' Q hL hD',hL.ext,hL.ret⟩ hD)
end
/-! ### cells that tell their value -/
section
variable {P:Program} {T:TT} {w0 w:World} {nb N:Nat} {s:SS} {D ρ0:Pl} {f:Nat->Value} {dst:Option Tmp} {ty:TypeId} {pos:String} {aft:Array Edge} {gd:Option (Nat×Bool)} {x y:Operand} {t t' e:TypeId}
theorem bJc {size bytes n b cap:Nat} {zz v2:Value} {cs news:List Value} {T0:TypeId} {U7:Nat->TypeId->Prop} (hu:P.underlying t=some (.slice e)) (ht:TyI P e size bytes zz) (hx:ev f x= .slice (some ⟨b,0,none⟩) n cap) (hy:ev f y=v2)
 (hb:w.heap[b]? =some (.cells cs.toArray T0 (0,0))) (hs:Sc U7 w size v2 n news) (h1:∀u∈news,u.oneCell'=true) (hfit:news.length<=cs.length):
 ∃w',(execOp (ev f) ⟨dst,.call ⟨.builtin .copy,#[x,y],#[t,t']⟩,ty,pos,aft,gd⟩).run P w= .ok (.value (.int .i64 n)) w'/\w'.heap[b]? =some (.cells (spl cs 0 news).toArray T0 (0,0))/\Exc b w w':=by
 obtain⟨i,hi,hzi,hsi,hbi⟩:=ht.ex
 subst hsi
 obtain⟨A,c,rfl,hmc,hcm,hl,hA⟩:=hs
 have hst:=run_storeCells_at P b 0 T0 news 0 cs.toArray w hb (by simpa using hfit) h1
 simp only[iS] at hst
 have hst':(storeCells ⟨b,0,none⟩ news 0).run P w= .ok () (w.setRow b (spl cs 0 news).toArray):=by simpa[spl] using hst
 have key:(Builtin.copy_ #[t,t'] ty #[.slice (some ⟨b,0,none⟩) n cap,.slice A n c]).run P w= .ok (.int .i64 n) (w.setRow b (spl cs 0 news).toArray):=by
  cases A with
  |none=>
   have hn:news=[]:=by
    rcases hA with h|⟨_,_,h,_⟩
    ·exact h
    cases h
   subst hn
   simp[Builtin.copy_,run_underlying hu,sizeOf,typeInfo,hi,Builtin.lenOf,Builtin.firstCells,goInt,hst']
  |some ad=>
   have hfc:=run_firstCells_some (P:=P) w i.size n ad n c news hl (λj u hj=>by
    rcases hA with h|⟨b',o',h,hrd⟩
    ·subst h;cases hj
    injection h with h
    subst h
    rw[gD];exact hrd.cell hj)
   simp[Builtin.copy_,run_underlying hu,sizeOf,typeInfo,hi,Builtin.lenOf,hfc,goInt,hst']
 exact⟨_,by simp[execOp,resolve,invoke,builtin,hx,hy,key],setRow_heap w b cs.toArray _ T0 (0,0) hb,zY _ _ _⟩
theorem bBk {size bytes cap c:Nat} {zz:Value} {A:Option Addr} (hu:P.underlying t=some (.slice e)) (ht:TyI P e size bytes zz) (hx:ev f x= .slice none 0 cap) (hy:ev f y= .slice A 0 c):
 (execOp (ev f) ⟨dst,.call ⟨.builtin .copy,#[x,y],#[t,t']⟩,ty,pos,aft,gd⟩).run P w= .ok (.value (.int .i64 0)) w:=by
 obtain⟨i,hi,hzi,hsi,hbi⟩:=ht.ex
 have key:(Builtin.copy_ #[t,t'] ty #[.slice none 0 cap,.slice A 0 c]).run P w= .ok (.int .i64 0) w:=by
  cases A with
  |none=>simp[Builtin.copy_,run_underlying hu,sizeOf,typeInfo,hi,Builtin.lenOf,Builtin.firstCells,goInt]
  |some ad=>
   have hfc:=run_firstCells_some (P:=P) w i.size 0 ad 0 c [] (by simp) (λj u hj=>by cases hj)
   simp[Builtin.copy_,run_underlying hu,sizeOf,typeInfo,hi,Builtin.lenOf,hfc,goInt]
 simp[execOp,resolve,invoke,builtin,hx,hy,key]
theorem Sdl.copy (hT:Good P T) {d i n c e' m:Nat} {A:Option Addr} {ti te:TI} {l:List CV} {ops:Array Oper} {K:SS->Prop} {get:Nat->List CV} (hx:val [] s x=some (.c (.s i n))) (hy:val [] s y=some (.c (.r A m c e' get))) (hb:s.bl[i]? =some (e,te.size,l)) (ht:T t=some ti) (he:ti.el=some e) (hte:T e=some te) (hsz:0<te.size) (he':e'=te.size) (hm:m=n) (hl:n*te.size=l.length) (hg:∀j,j<n->(get j).length=te.size) (hgl:s.gl=[]) (hd:d<N)
 (h:nK s.bl i (e,te.size,flatR n get) λbl'=>K ⟨(d,.c (.v (.int .i64 n)))::s.sl,[],bl',s.fl⟩):Sdl P nb N ops [⟨some d,.call ⟨.builtin .copy,#[x,y],#[t,t']⟩,ty,pos,aft,none⟩] K s:=λρ0 w0 D f w Q hQ hD=>by
 subst hm he'
 have G:=hT e te hte
 obtain⟨zz,hty,hz⟩:=G.ty
 have hu:=(hT t ti ht).el e he
 obtain⟨hi,hex⟩:=(bS hD.f eC hx).inv_c
 have hq:=hD.m.ok i _ _ l hb
 cases hρ:(D i).1 with
 |none=>
  unfold Bq at hq
  simp only[hρ] at hq
  obtain⟨rfl,hc0,_⟩:=hq
  have h0:m=0:=by
   rcases cL m with h|h
   ·exact h
   have:=jM h hsz;simp at hl;omega
  subst h0
  rw[hρ] at hex
  have hyv:=(bS hD.f eC hy).inv_c.inv_r.1
  have hr:=bBk (P:=P) (w:=w) (dst:=some d) (ty:=ty) (pos:=pos) (aft:=aft) (gd:=none) (t':=t') hu hty hex hyv
  obtain⟨sl,gl,bl,fl⟩:=s
  replace hgl:gl=[]:=hgl
  subst hgl
  have hbl:bl.set i (e,te.size,flatR 0 get)=bl:=by
   replace hb:bl[i]? =some (e,te.size,[]):=hb
   obtain⟨h2,h3⟩:=oE.1 hb
   exact(U5 (λz=>bl.set i z) h3.symm).trans (List.set_getElem_self h2)
  have hk:=iL h
  rw[hbl] at hk
  obtain⟨s'',hk,hD''⟩:=Dn.put (d:=d) (v:=.c (.v (.int .i64 0))) (x:=.int .i64 0) (K:=K) (s:=⟨sl,[],bl,fl⟩) hk hD (.c (Rc.v _))
  exact RL.val U U hd hr (RL.nil (hQ _ _ _ _ hk hD''))
 |some b=>
  rw[hρ] at hex
  obtain⟨vl,junk,q1,q2,q3,q4⟩:=hq.at hρ
  obtain⟨q5,q6⟩:=q3 hsz
  have hsc0:=uU (te:=te) (s:=s) (dy:=.c (.r A m c te.size get)) (kk:=λm' news' c'=>m'=m/\news'=flatR m get/\c'=(∀j,j<m->(get j).length=te.size)) (by
   unfold aBe
   simp only[gV,cond_true]
   exact⟨U1,U1,U1⟩) hD.m (bS hD.f eC hy) hsz
  obtain⟨m1,n1,p1,⟨e1,e2,e3⟩,hnews⟩:=hsc0
  rw[e1,e2,e3] at hnews
  obtain⟨vals,hsc,hln,hon⟩:=hnews hg
  have hvl:vals.length=m*te.size:=by
   obtain⟨_,_,_,_,_,h9,_⟩:=hsc
   exact h9
  have hll:=q2.len
  obtain⟨w',hr,hn,hex'⟩:=bJc (P:=P) (dst:=some d) (ty:=ty) (pos:=pos) (aft:=aft) (gd:=none) (t':=t') hu hty hex U q1 hsc hon (by rw[aD];omega)
  have kp:Kp D s.bl.length w D s.bl.length w':=Kp.exc hi hρ hex'
  have es:spl (vl++junk) 0 vals=vals++junk:=by
   unfold spl
   rw[yX,mX,eP,List.drop_left' oM]
  rw[es] at hn
  obtain⟨sl,gl,bl,fl⟩:=s
  replace hgl:gl=[]:=hgl
  subst hgl
  have hD':Dn ρ0 w0 nb ⟨sl,[],bl.set i (e,te.size,flatR m get),fl⟩ D f w':=⟨hD.m.exc hb hρ hex' (Bq.of_some hρ ⟨vals,junk,hn,hln.kp kp,λh0=>⟨q5.trans (by rw[aD,aD];omega),q6⟩,hon⟩),hD.f.kp U U (by simp only[cC];exact kp),hD.l⟩
  obtain⟨s'',hk,hD''⟩:=Dn.put (d:=d) (v:=.c (.v (.int .i64 m))) (x:=.int .i64 m) (K:=K) (s:=⟨sl,[],bl.set i (e,te.size,flatR m get),fl⟩) (iL h) hD' (.c (Rc.v _))
  exact RL.val U U hd hr (RL.nil (hQ _ _ _ _ hk hD''))
end
theorem cBi {P:Program} {nb N:Nat} {c:Code} {K:Kt} {s:SS} (i:Nat) (M:Nat->Bool) {σ:Type} (chg:σ->List (Nat×DV)) (bls:σ->BL) (C:σ->Prop)
 (h:uZ M s.sl λbase=>Sd P nb N c ⟨K.nrm,λj s'=>bif Nat.beq j i then (∃g,C g/\Mt M base s.fl s' (chg g) (bls g)) else K.ext j s',K.ret⟩ s/\∀g,C g->K.ext i ⟨chg g++base,[],bls g,s.fl⟩):Sd P nb N c K s:=λρ0 w0 D f w Q hL hD=>by
 obtain⟨base,⟨h1,h2⟩,hk⟩:=pI h
 refine h1 ρ0 w0 D f w Q ⟨hL.nrm,λj s' ρ' f' w' hx hD'=>?_,hL.ret⟩ hD
 replace hx:bif Nat.beq j i then (∃g,C g/\Mt M base s.fl s' (chg g) (bls g)) else K.ext j s':=hx
 cases hb:Nat.beq j i with
 |true=>
  rw[hb] at hx
  have:=aM hb
  subst this
  obtain⟨g,hc,hm⟩:=hx
  exact hL.ext _ _ ρ' f' w' (h2 g hc) (hm.sub (λt d ht=>(hk t d ht).2) _ _ _ _ _ _ hD')
 |false=>rw[hb] at hx;exact hL.ext j s' ρ' f' w' hx hD'
theorem CtrF.arg {P:Program} {q:FuncId} {cl:List Bool} {al al':List DV} {bl:BL} {fl:List Fam} {σ:Type} {R:σ->OutF} (h:CtrF P q cl al bl fl R) (ha:∀D n w vl,HL D n w al' vl->HL D n w al vl):CtrF P q cl al' bl fl R:=
 ⟨h.ent,h.clb,λD w vals hv hD hF=>h.run D w vals (ha _ _ _ _ hv) hD hF⟩
theorem CtrF.cl0 {P:Program} {q:FuncId} {cl:List Bool} {al:List DV} {bl:BL} {fl:List Fam} {σ:Type} {R:σ->OutF} (h:CtrF P q cl al bl fl R):CtrF P q [] al bl fl R:=
 ⟨h.ent,λ_ _ _ _ _ h=>(by cases h),λD w vals hv hD hF=>(h.run D w vals hv hD hF).mono λ_ _ ⟨v,he,g,ρ',h1,h2,h3,_,h5⟩=>⟨v,he,g,ρ',h1,h2,h3,λ_ _ _ _ _ h=>(by cases h),h5⟩⟩
end Go.Vy
namespace Go.Proofs.YtljcaaakbkneaaaGreat
open Go.Vg Go.Vm _root_.Go.Proofs.Tryz
open Go.Vy hiding val
theorem LeC.get {A:Option Addr} {n c e:Nat} {g g':Nat->List CV} (h:∀j,j<n->g j=g' j):LeC (.r A n c e g) (.r A n c e g'):=λD m w v hv=>by
 obtain⟨e1,e2⟩:=hv.inv_r
 refine Hc.of_rc ?_
 subst e1
 cases e2 with
 |nil A c e get hm=>exact Rc.nil _ _ _ _ hm
 |r b o n c e get V hc hm hZ hcell hlen hel=>exact Rc.r b o n c e g' V hc hm hZ hcell (λj hj=>by rw[<-h j hj];exact hlen j hj) (λj hj=>by rw[<-h j hj];exact hel j hj)
theorem kL (x:Sl Nat) (hx:Lm x.l) (hn:x.l.length<=35184372088832):Ctr pgQ 178 [] [.c (eI x)] [] (aDz (val x.l)):=by
 have h0:Ctr pgQ 178 [] [.c (eI x)] [] (λn:Nat=>⟨.c (.r x.A n x.c 1 (λj=>[uC (x.l.getD j U6)])),[],n<=x.l.length/\x.l.take n=dB (val x.l)⟩):=by
  refine cw func178 (?_)
  refine lJ (rn [(3,3),(6,17)]) (λn:Nat=>[(3,.c (iC n))]) (λ_=>[]) (λn=>n<=x.l.length/\val (x.l.take n)=val x.l) (λn=>n) x.l.length ?_
  refine⟨⟨⟨aH _,by rw[cE (aH _)]⟩,U,U⟩,λn hi=>vk ⟨(n:Int)-1,λh=>wi,n-1,λh=>⟨oM,oM⟩,⟨λh1=>vk ?_,λh1=>vk (vk ?_)⟩⟩⟩
  ·exact⟨(n:Int)-1,wi,n-1,⟨⟨oM,aHw hi.1 oM hi.2 oM⟩,oM⟩,U,U,show _=_ by omega⟩
  have hz:n=0\/x.l.getD (n-1) U6≠0:=by
   rcases cL n with h|h
   ·exact .inl h
   exact .inr λh2=>h1 ⟨Uc,by rw[h2];rfl⟩
  exact⟨n,⟨U,hi.1⟩,n,⟨hi.1,aHv hx hi.1 hi.2 hz⟩,aI U U tV⟩
 refine CtrF.lo h0 λn ⟨hn,he⟩=>⟨⟨x.A,x.c,dB (val x.l)⟩,U,λD m w v hv=>?_,U,U⟩
 have hl:(dB (val x.l)).length=n:=by rw[<-he,bI];omega
 show Hd D m w (.c (.r x.A (dB (val x.l)).length x.c 1 _)) v
 rw[hl]
 refine .c (LeC.get (λj hj=>?_) D m w v hv.inv_c)
 rw[<-he,gd oM,gd (by rw[bI];omega),List.getElem_take]
theorem bBl {k x:Nat} (hk:k<=1) (hx:x<4294967296):((4294967296^k*x:Nat):Int)=IntKind.u64.wrap ((x:Int)*2^(min ((32:Int)*(k:Nat)).toNat IntKind.u64.bits)):=by
 rcases pZ.1 hk with rfl|rfl
 ·show _=IntKind.u64.wrap ((x:Int)*2^0)
  rw[Int.pow_zero,yR,aFc oM]
  simp
 have h:=aGa hx
 rw[yO,bP]
 exact h
theorem bJd {k x:Nat} {P:List Nat} (hk:k<=1) (hP:Lm P) (hl:P.length=k) (hx:x<4294967296):((val P+4294967296^k*x:Nat):Int)=IntKind.u64.wrap ((BitVec.ofInt IntKind.u64.bits ((val P:Nat):Int)|||BitVec.ofInt IntKind.u64.bits ((4294967296^k*x:Nat):Int)).toNat:Int):=by
 rcases pZ.1 hk with rfl|rfl
 ·have:P=[]:=bQ hl
  subst this
  have h:=aQz (x:=0) (y:=x) dC hx
  simp only[Nat.zero_mul,eP] at h
  rw[mM,iX]
  exact(show((val []+x:Nat):Int)=_ by simp[val]).trans h
 have hv:=kC hP
 rw[hl,yO] at hv
 have h:=aQz (x:=x) (y:=val P) hx hv
 rw[yO,bP 4294967296 x,iD,h]
 congr 2
 exact U5 BitVec.toNat (BitVec.or_comm _ _)
theorem aBn (x:Sl Nat) (hx:Lm x.l) (hn:x.l.length<=2):Ctr pgQ 202 [] [.c (eI x)] [] (λ_:Unit=>⟨.c (wC (val x.l)),[],True⟩):=by
 refine cw func202 (?_)
 refine lJ (rn [(3,5),(8,20)]) (λk:Nat=>[(8,.c (iC k)),(3,.c (wC (val (x.l.take k))))]) (λ_=>[]) (λk=>k<=x.l.length) (x.l.length-·) 0 ?_
 refine⟨⟨aB _,U,U,U⟩,λk hk=>vk ⟨λh1=>vk ?_,λh1=>vk (vk ?_)⟩⟩
 ·have hkl:k<x.l.length:=Uc
  have hxk:=hx.at hkl
  refine⟨k,⟨U,hkl⟩,_,w0 (x:=x.l.getD k U6) oM,(32:Int)*(k:Nat),wi,show(0:Int)<=32*(k:Nat) by omega,_,bBl oM hxk,_,bJd oM (hx.take k) (by rw[bI];omega) hxk,(k+1:Nat),wi,k+1,⟨hkl,oM⟩,U,U,U,?_⟩
  show(_:Int)=(_:Int)
  rw[dV hkl]
 refine⟨(),tV,aI ?_ rfl tV⟩
 show(_:Int)=(_:Int)
 rw[cE oM]
theorem aBo (x:Sl Nat) (hx:Lm x.l) (hn:x.l.length<=35184372088832):Ctr pgQ 173 [] [.c (eI x)] [] (aDz (val x.l)):=by
 have hl:=dZ hx
 unfold len at hl
 have h0:Ctr pgQ 173 [] [.c (eI x)] [] (λ_:Unit=>⟨.c (.s 0 (dB (val x.l)).length),[(98,1,(dB (val x.l)).map uC)],True⟩):=by
  refine gA gT (eo func173) func173 U U U bL ClB.nil (Sd.sq (vk (Sd.sq (vk ⟨[],kL x hx hn,U,U,U,λg hg=>?_⟩))))
  replace hg:g.l=dB (val x.l):=hg
  rw[<-hg] at hl
  refine Sd.sq (vk ⟨g.l.length,⟨U,U,show 4*g.l.length<=_ by omega,by simp only[maxLen];omega⟩,Sd.sq (Sd.rg gT (l:=[_,_,_]) [_,_] [_] U U ?_)⟩)
  refine Sdl.copy gT U U U U U U bL U U ?_ (λj hj=>U) U bL ?_
  ·simp
  refine vk ⟨(),tV,fH ?_ ?_ (aB _) ?_ rfl aDy⟩
  ·show g.l.length=_
   rw[hg]
  ·show(98,1,flatR _ λj=>[uC (g.l.getD j U6)])=(98,1,_)
   rw[aBm (aH _),cQ,hg]
  exact aA (aX.2 λc hc=>sM (jN _ c hc)) aU
 exact(h0.frz (λ_ j=>[uC ((dB (val x.l)).getD j U6)]) λ_ _=>⟨λj hj=>nG j hj,by simp,dO,jN _⟩).re λg _=>⟨⟨g.2.1,g.2.2,dB (val x.l)⟩,U,U,U,U⟩
theorem oJ {n:Nat} (hn:n<18446744073709551616):Ctr pgQ 171 [] [.c (wC n)] [] (aDz n):=by
 have hv:val [n%4294967296,n/4294967296%4294967296]=n:=by rw[cM (show n/4294967296<4294967296 by omega),aSo]
 refine cw func171 (⟨_,vF n,p32,_,xX n,_,vF _,some (λj=>[uC ([n%4294967296,n/4294967296%4294967296].getD j U6)]),⟨⟨aH _,by decide⟩,U,λj hj=>?_,λc hc=>?_⟩,λA c _ _=>?_⟩)
 ·exact nG (x:=[n%4294967296,n/4294967296%4294967296]) j hj
 ·exact jN [n%4294967296,n/4294967296%4294967296] c hc
 refine⟨[],kL ⟨A,c,[n%4294967296,n/4294967296%4294967296]⟩ (Lm.two hn) (by simp),U,U,U,λg hg=>⟨g,?_,aI U U tV⟩⟩
 show g.l=dB n
 rw[<-hv]
 exact hg
theorem aTr (x:Sl Nat) (hx:Lm x.l) (hn:x.l.length<=35184372088832):Ctr pgQ 170 [] [.c (eI x)] [] (λ_:Unit=>⟨.t [.c (wC (if val x.l<18446744073709551616 then val x.l else 0)),pC (val x.l<18446744073709551616)],[],True⟩):=by
 refine cw func170 (⟨[],kL x hx hn,U,U,U,λX hX=>?_⟩)
 replace hX:X.l=dB (val x.l):=hX
 obtain⟨lX,vX⟩:=dg hX
 have h64:=rV (n:=val x.l)
 rw[<-fD,<-hX] at h64
 refine⟨λh=>vk ⟨(),tV,aI ⟨?_,ff oM⟩ U tV⟩,λh=>vk ⟨[],aBn X lX oM,U,U,U,λ_ _=>⟨(),tV,aI ⟨?_,tt oM⟩ U tV⟩⟩⟩
 ·rw[U2 oM];rfl
 show((val X.l:Nat):Int)=_
 rw[vX,U3 oM]
theorem wD (x y:Sl Nat) (hx:Lm x.l) (hy:Lm y.l) (hn:x.l.length<=35184372088832) (hm:y.l.length<=35184372088832):Ctr pgQ 161 [] [.c (eI x),.c (eI y)] [] (λ_:Unit=>⟨.c (iC (sN (val x.l) (val y.l))),[],True⟩):=by
 refine cw func161 (⟨[],kL x hx hn,U,U,U,λX hX=>⟨[],kL y hy hm,U,U,U,λY hY=>?_⟩⟩)
 replace hX:X.l=dB (val x.l):=hX
 replace hY:Y.l=dB (val y.l):=hY
 obtain⟨lX,vX⟩:=dg hX
 obtain⟨lY,vY⟩:=dg hY
 have hlx:=dZ hx
 have hly:=dZ hy
 rw[<-fD,<-hX] at hlx
 rw[<-fD,<-hY] at hly
 refine⟨λh=>vk ⟨λh1=>vk ?_,λh1=>vk ?_⟩,λh=>vk ⟨(X.l.length:Int)-1,wi,?_⟩⟩
 ·have hlt:val x.l<val y.l:=zC (by rw[<-fD,<-fD,<-hX,<-hY];omega)
  exact⟨(),tV,aI (show(-1:Int)=_ by unfold sN;rw[U3 oM]) U tV⟩
 ·have hlt:val y.l<val x.l:=zC (by rw[<-fD,<-fD,<-hX,<-hY];omega)
  exact⟨(),tV,aI (show(1:Int)=_ by unfold sN;rw[U2 oM,U3 oM]) U tV⟩
 have hl:X.l.length=Y.l.length:=by have:=iU.1 h;omega
 refine lJ (rn [(5,5),(23,44)]) (λn:Nat=>[(5,.c (iC ((n:Int)-1)))]) (λ_=>[]) (λn=>n<=X.l.length/\X.l.drop n=Y.l.drop n) (λn=>n) X.l.length ?_
 refine⟨⟨⟨aH _,by rw[cK (aH _),cK oM]⟩,U,U⟩,λn hi=>vk ⟨λh1=>vk ⟨.seq (aHm 0 9),U0,n-1,⟨oM,oM⟩,n-1,⟨oM,oM⟩,⟨λh2=>vk ?_,λh2=>vk ⟨.seq (aHm 0 9),U0,n-1,⟨oM,oM⟩,n-1,⟨oM,oM⟩,⟨λh3=>vk ?_,λh3=>vk ?_⟩⟩⟩⟩,λh1=>vk (vk ?_)⟩⟩
 ·have hlt:val x.l<val y.l:=by
   have h:=aJc (a:=X.l) (b:=Y.l) (m:=n-1) lX oM oM (by rw[show n-1+1=n by omega];exact hi.2) oM
   rw[vX,vY] at h;exact h
  exact⟨(),tV,aI (show(-1:Int)=_ by unfold sN;rw[U3 oM]) U tV⟩
 ·have hlt:val y.l<val x.l:=by
   have h:=aJc (a:=Y.l) (b:=X.l) (m:=n-1) lY oM oM (by rw[show n-1+1=n by omega];exact hi.2.symm) oM
   rw[vY,vX] at h;exact h
  exact⟨(),tV,aI (show(1:Int)=_ by unfold sN;rw[U2 oM,U3 oM]) U tV⟩
 ·exact⟨(n:Int)-1-1,wi,n-1,⟨⟨oM,aHx oM hi.1 oM hi.2 oM⟩,oM⟩,U,U,show(n:Int)-1-1=_ by omega⟩
 have h0:n=0:=Uc
 subst h0
 have h:=hi.2
 rw[mF,mF] at h
 have h:=U5 val h
 rw[vX,vY] at h
 exact⟨(),tV,aI (show(0:Int)=_ by unfold sN;rw[U2 oM,U2 oM]) U tV⟩
abbrev wE (l:List Nat):BL:=[(98,1,l.map uC)]
theorem zG {l l':List Nat} (h:l=l'):wE l=wE l':=by rw[h]
theorem aKd {l:List Nat}:scB 1 (wE l):=aA (aX.2 λc hc=>sM (jN _ c hc)) aU
theorem aEe {l:List Nat}:ClB [true] (wE l):=λi T es l' h _=>by
 match i,h with
 |0,h=>injection h with h;injection h with _ h;injection h with _ h;subst h;exact jN _
 |i+1,h=>cases h
theorem aIg {m:Nat}:[((98,1,List.replicate m (.v (.int .u32 0))):TypeId×Nat×List CV)]=wE (List.replicate m 0):=U5 (λl=>[((98,1,l):TypeId×Nat×List CV)]) (zF m)
theorem wF {l:List Nat} {m:Nat} (hm:m=l.length) (hl:Lm l):m*1=(l.map uC).length/\(∀j,j<m->[uC (l.getD j U6)]=((l.map uC).drop (j*1)).take 1)/\∀c∈l.map uC,fS c=true:=by
 subst hm
 exact⟨by simp,λj hj=>nG j hj,jN l⟩
theorem xY {l:List Nat} {k:Nat} (h:k<l.length):k*1<(l.map uC).length:=by rw[aK];omega
theorem uK {l l':List Nat} {k u:Nat} (h:k<l.length) (e:l.set k u=l'):mJ (l.map uC) (k*1) [uC u]=l'.map uC/\k*1+1<=(l.map uC).length:=⟨(wB h).trans (U5 _ e),by rw[aK];omega⟩
theorem bJe (x y:Sl Nat) (hx:Lm x.l) (hy:Lm y.l) (hn:x.l.length<=17592186044416) (hm:y.l.length<=17592186044416):Ctr pgQ 207 [] [.c (eI x),.c (eI y)] [] (aDz (val x.l+val y.l)):=by
 refine cw func207 (⟨[],kL x hx oM,U,U,U,λX hX=>⟨[],kL y hy oM,U,U,U,λY hY=>?_⟩⟩)
 have hlx:=dZ hx
 have hly:=dZ hy
 replace hX:X.l=dB (val x.l):=hX
 replace hY:Y.l=dB (val y.l):=hY
 obtain⟨lX,vX⟩:=dg hX
 obtain⟨lY,vY⟩:=dg hY
 unfold len at hlx hly
 rw[<-hX] at hlx
 rw[<-hY] at hly
 refine vjn (λ_=>true) (λg:Sl Nat×Sl Nat=>[(0,.c (eI g.1)),(1,.c (eI g.2))]) (λ_=>[]) (λg=>g.2.l.length<=g.1.l.length/\Lm g.1.l/\Lm g.2.l/\val g.1.l+val g.2.l=val x.l+val y.l/\g.1.l.length<=17592186044416) ?_
 refine⟨⟨λh=>vk ⟨(Y,X),⟨by show X.l.length<=Y.l.length;omega,lY,lX,by rw[vX,vY,iD],by show Y.l.length<=_;omega⟩,U,U,U,U⟩,λh=>vk ⟨(X,Y),⟨by show Y.l.length<=X.l.length;omega,lX,lY,by rw[vX,vY],by show X.l.length<=_;omega⟩,U,U,U,U⟩⟩,λab ⟨hBA,lA,lB,hsum,hAn⟩=>?_⟩
 clear hX hY lX lY vX vY hlx hly
 refine⟨(ab.1.l.length+1:Nat),wi,ab.1.l.length+1,⟨U,U,show 4*(ab.1.l.length+1)<=_ by omega,by simp only[maxLen];omega⟩,?_⟩
 refine lJ (rn [(6,8),(26,53)]) (λg:Nat×Nat×List Nat=>[(26,.c (iC g.1)),(6,.c (wC g.2.1))]) (λg=>wE (iV g.2.2 (ab.1.l.length+1))) (λg=>g.1<=ab.1.l.length/\g.2.2.length=g.1/\Lm g.2.2/\g.2.1<=1/\val g.2.2+4294967296^g.1*g.2.1=val (ab.1.l.take g.1)+val (ab.2.l.take g.1)) (λg=>ab.1.l.length-g.1) (0,0,[]) ?_
 refine⟨⟨⟨aB _,U,Lm.nil,aB _,U⟩,aIg.trans (zG (sG _).symm),U,U⟩,λ⟨k,c,P⟩ ⟨hk,hP,hLm,hc,hv⟩=>vk ⟨λh1=>vk ?_,λh1=>vk (vk ?_)⟩⟩
 all_goals simp only at hk hP hLm hc hv h1
 ·have hkl:k<ab.1.l.length:=Uc
  have dx:=lA.at hkl
  have dy:=uH lB k
  refine⟨k,⟨U,hkl⟩,_,w0 (x:=ab.1.l.getD k U6) oM,_,wa oM,?_⟩
  refine vjn (rn [(6,8),(26,53)]) (λg:Nat=>[(26,.c (iC k)),(7,.c (iC k)),(6,.c (wC g))]) (λ_=>wE (iV P (ab.1.l.length+1))) (λg=>g=c+ab.1.l.getD k U6+dig ab.2.l k) ?_
  refine⟨⟨λh2=>vk ⟨k,⟨U,oM⟩,_,w0 (x:=ab.2.l.getD k U6) (by have:=lB.at (k:=k) oM;omega),_,wa (by have:=lB.at (k:=k) oM;omega),_,U,U,U,U,U,?_⟩,λh2=>vk ⟨_,U,U,U,U,U,?_⟩⟩,?_⟩
  ·show(_:Int)=(_:Int)
   rw[tO oM]
  ·show(_:Int)=(_:Int)
   rw[zV oM];rfl
  rintro _ rfl
  have hfl:k<(iV P (ab.1.l.length+1)).length:=by rw[kP oM];omega
  refine⟨_,vF _,k,⟨U,Uc,xY hfl⟩,_,uK hfl (oY hP oM),p32,_,xX _,(k+1:Nat),wi,(k+1,(c+ab.1.l.getD k U6+dig ab.2.l k)/4294967296,P++[(c+ab.1.l.getD k U6+dig ab.2.l k)%4294967296]),⟨⟨hkl,?_,hLm.snoc (dG _ dC),?_,?_⟩,?_⟩,U,U,U,U⟩
  ·simp[hP]
  ·show _/_<=_
   omega
  ·show val (P++_)+_=val (ab.1.l.take (k+1))+val (ab.2.l.take (k+1))
   rw[dV hkl,pE];exact aMz hP hv
  show ab.1.l.length-(k+1)<ab.1.l.length-k
  omega
 obtain rfl:k=ab.1.l.length:=Uc
 have hfl:ab.1.l.length<(iV P (ab.1.l.length+1)).length:=by rw[kP oM];omega
 have hst:(iV P (ab.1.l.length+1)).set ab.1.l.length (c%4294967296)=P++[c%4294967296]:=(oY hP (aS _)).trans (qG (by simp[hP]))
 have hL:=hLm.snoc (x:=c%4294967296) (dG _ dC)
 have hln:ab.1.l.length+1=(P++[c%4294967296]).length:=by simp[hP]
 have hfin:val (P++[c%4294967296])=val x.l+val y.l:=by
  rw[kO,hP,cM oM,<-hsum]
  rw[cE (aH _),cE hBA] at hv
  exact hv
 refine⟨_,vF _,ab.1.l.length,⟨U,Uc,xY hfl⟩,_,uK hfl hst,?_⟩
 obtain⟨o1,o2,o3⟩:=wF hln hL
 refine⟨some (λj=>[uC ((P++[c%4294967296]).getD j U6)]),⟨⟨aB _,dO⟩,o1,o2,o3⟩,λAA cc _ _=>?_⟩
 rw[hln]
 refine⟨[],kL ⟨AA,cc,P++[c%4294967296]⟩ hL (by show(P++_).length<=_;omega),U,U,U,λg hg=>⟨g,?_,aI U U tV⟩⟩
 show g.l=_
 rw[<-hfin];exact hg
theorem wsb {u c:Nat} (hc:c<=18446744073709551616):((sb u c:Nat):Int)=IntKind.u64.wrap ((u:Int)-(c:Int)):=by
 rw[IntKind.wrap_u64];unfold sb;omega
theorem p63:(0:Int)<=63:=by decide
theorem bBm (x:Nat):((x/9223372036854775808:Nat):Int)=(x:Int).fdiv (2^(min (63:Int).toNat IntKind.u64.bits)):=by
 rw[kI _ dC]
 show _=(x:Int)/9223372036854775808
 omega
theorem aKe (x y:Sl Nat) (hx:Lm x.l) (hy:Lm y.l) (hn:x.l.length<=35184372088832) (hm:y.l.length<=35184372088832):Ctr pgQ 208 [] [.c (eI x),.c (eI y)] [] (λg:Sl Nat=>⟨.t [.c (eI g),pC (val y.l<=val x.l)],[],g.l=dB (val x.l-val y.l)⟩):=by
 refine cw func208 (⟨[],kL x hx oM,U,U,U,λX hX=>⟨[],kL y hy oM,U,U,U,λY hY=>?_⟩⟩)
 have hXn:=dZ hx
 have hYn:=dZ hy
 replace hX:X.l=dB (val x.l):=hX
 replace hY:Y.l=dB (val y.l):=hY
 obtain⟨lX,vX⟩:=dg hX
 obtain⟨lY,vY⟩:=dg hY
 unfold len at hXn hYn
 rw[<-hX] at hXn
 rw[<-hY] at hYn
 refine⟨[],wD X Y lX lY oM oM,U,U,U,λ_ _=>⟨λh=>vk ?_,λh=>vk ?_⟩⟩
 ·have h:=qT.1 h
  refine⟨⟨none,0,[]⟩,?_,aI ⟨⟨U,U,U⟩,ff oM⟩ U tV⟩
  show []=dB _
  rw[show val x.l-val y.l=0 by omega];rfl
 have hxy:val y.l<=val x.l:=by
  rcases eE (val x.l) (val y.l) with h'|h'
  ·exact U4 (qT.2 oM) h
  exact h'
 have hlen:Y.l.length<=X.l.length:=by rw[hX,hY];exact fR hxy
 refine⟨X.l.length,⟨U,U,show 4*X.l.length<=_ by omega,by simp only[maxLen];omega⟩,?_⟩
 refine lJ (rn [(7,10),(24,51)]) (λg:Nat×Nat×List Nat=>[(24,.c (iC g.1)),(7,.c (wC g.2.1))]) (λg=>wE (iV g.2.2 X.l.length)) (λg=>g.1<=X.l.length/\g.2.2.length=g.1/\Lm g.2.2/\g.2.1<=1/\val g.2.2+val (Y.l.take g.1)=val (X.l.take g.1)+4294967296^g.1*g.2.1) (λg=>X.l.length-g.1) (0,0,[]) ?_
 refine⟨⟨⟨aB _,U,Lm.nil,aB _,U⟩,aIg.trans (zG (sG _).symm),U,U⟩,λ⟨k,c,P⟩ ⟨hk,hP,hLm,hc,hv⟩=>vk ⟨λh1=>vk ?_,λh1=>vk (vk ?_)⟩⟩
 all_goals simp only at hk hP hLm hc hv h1
 ·have hkm:k<X.l.length:=Uc
  have dx:=lX.at hkm
  have dy:=uH lY k
  have hs2:=bHo dx hc dy
  refine⟨k,⟨U,hkm⟩,_,w0 (x:=X.l.getD k U6) oM,_,wsb (u:=X.l.getD k U6) (c:=c) oM,?_⟩
  refine vjn (rn [(7,10),(24,51)]) (λg:Nat=>[(24,.c (iC k)),(8,.c (iC k)),(10,.c (wC g))]) (λ_=>wE (iV P X.l.length)) (λg=>g=sb2 (X.l.getD k U6) c (dig Y.l k)) ?_
  refine⟨⟨λh2=>vk ⟨k,⟨U,oM⟩,_,w0 (x:=Y.l.getD k U6) (by have:=lY.at (k:=k) oM;omega),_,wsb (by have:=lY.at (k:=k) oM;omega),_,U,U,U,U,U,?_⟩,λh2=>vk ⟨_,U,U,U,U,U,?_⟩⟩,?_⟩
  ·show(_:Int)=(_:Int)
   rw[tO (xs:=Y.l) oM];rfl
  ·show(_:Int)=(_:Int)
   rw[zV (xs:=Y.l) oM,bHp]
  rintro _ rfl
  have hfl:k<(iV P X.l.length).length:=by rw[kP oM];exact hkm
  refine⟨_,vF _,k,⟨U,hkm,xY hfl⟩,_,uK hfl (oY hP hkm),p63,_,bBm _,(k+1:Nat),wi,(k+1,if X.l.getD k U6<c+dig Y.l k then 1 else 0,P++[sb2 (X.l.getD k U6) c (dig Y.l k)%4294967296]),⟨⟨hkm,?_,hLm.snoc (dG _ dC),?_,?_⟩,?_⟩,U,U,U,?_⟩
  ·simp[hP]
  ·show(if _ then 1 else 0)<=1
   split<;>omega
  ·show val (P++[_])+val (Y.l.take (k+1))=_
   rw[hs2.1,pE]
   have h9:=aNa hP hv dx dy hc
   rw[<-dV hkm] at h9
   exact h9
  ·show _-(k+1)<_-k
   omega
  show(_:Int)=(_:Int)
  rw[hs2.2]
 obtain rfl:k=X.l.length:=Uc
 have hf:iV P X.l.length=P:=qG hP
 have hfin:=aSp (k:=X.l.length) hLm hP (aH _) hlen oM hv
 obtain⟨o1,o2,o3⟩:=wF hP.symm hLm
 rw[hf]
 refine⟨some (λj=>[uC (P.getD j U6)]),⟨⟨aB _,dO⟩,o1,o2,o3⟩,λAA cc _ _=>?_⟩
 rw[<-hP]
 refine⟨[],kL ⟨AA,cc,P⟩ hLm (by show P.length<=_;omega),U,U,U,λg hg=>⟨g,?_,aI ⟨U,tt hxy⟩ U tV⟩⟩
 show g.l=_
 rw[<-vX,<-vY,<-hfin];exact hg
theorem wa2 {x y:Nat} (h:x+y<=18446744073709551615):((y+x:Nat):Int)=IntKind.u64.wrap ((x:Int)+(y:Int)):=by rw[iD];exact wa h
theorem aBp (x y:Sl Nat) (hx:Lm x.l) (hy:Lm y.l) (hn:x.l.length<=17592186044416) (hm:y.l.length<=17592186044416):Ctr pgQ 133 [] [.c (eI x),.c (eI y)] [] (aDz (val x.l*val y.l)):=by
 refine cw func133 (⟨[],kL x hx oM,U,U,U,λX hX=>⟨[],kL y hy oM,U,U,U,λY hY=>?_⟩⟩)
 have hXn:=dZ hx
 have hYn:=dZ hy
 replace hX:X.l=dB (val x.l):=hX
 replace hY:Y.l=dB (val y.l):=hY
 obtain⟨lX,vX⟩:=dg hX
 obtain⟨lY,vY⟩:=dg hY
 unfold len at hXn hYn
 rw[<-hX] at hXn
 rw[<-hY] at hYn
 refine⟨λh=>vk ?_,λh=>vk ?_⟩
 ·refine⟨⟨none,0,[]⟩,?_,aI ⟨U,U,U⟩ U tV⟩
  have h0:val x.l=0\/val y.l=0:=by
   rcases h with h|h
   ·left;rw[<-vX,bQ (l:=X.l) oM];rfl
   right;rw[<-vY,bQ (l:=Y.l) oM];rfl
  show []=dB _
  rcases h0 with h0|h0<;>rw[h0]<;>simp[sF]
 obtain⟨m,hmm⟩:∃m:Nat,m=X.l.length+Y.l.length:=⟨_,U⟩
 refine⟨(m:Int),wi (z:=(X.l.length:Int)+(Y.l.length:Int)) (h:=⟨Uc,Uc,Uc⟩),m,⟨U,U,show 4*m<=_ by omega,by simp only[maxLen];omega⟩,?_⟩
 refine lJ (rn [(6,10),(31,78)]) (λg:Nat×List Nat=>[(31,.c (iC g.1))]) (λg=>wE g.2) (λg=>g.1<=X.l.length/\g.2.length=m/\Lm g.2/\val (g.2.take (g.1+Y.l.length))=val (X.l.take g.1)*val Y.l/\∀j,g.1+Y.l.length<=j->j<g.2.length->g.2.getD j U6=0) (λg=>X.l.length-g.1) (0,List.replicate m 0) ?_
 refine⟨⟨⟨aB _,by simp,Lm.zeros m,?_,λj _ hj=>?_⟩,aIg,U⟩,λ⟨i,O⟩ ⟨hi,hO,hLm,hv,hz⟩=>vk ⟨λh1=>vk ?_,λh1=>vk (vk ?_)⟩⟩
 ·show val ((List.replicate m 0).take _)=_
  rw[List.take_replicate,aCh]
  simp[val]
 ·rw[cU] at hj
  rw[gd (by simpa using hj)]
  simp
 all_goals simp only at hi hO hLm hv hz h1
 ·have him:i<X.l.length:=Uc
  have dx:=lX.at him
  refine⟨i,⟨U,him⟩,⟨λh0=>vk ?_,λh0=>vk ?_⟩⟩
  ·have h00:X.l.getD i U6=0:=by replace h0:((X.l.getD i U6:Nat):Int)=0:=h0;omega
   exact⟨(i+1:Nat),wi,(i+1,O),⟨⟨him,hO,hLm,aYl (O:=O) him oM hv hz h00,λj (h1:i+1+Y.l.length<=j) h2=>hz j oM h2⟩,show X.l.length-(i+1)<X.l.length-i by omega⟩,U,U,U⟩
  refine lJ (rn [(8,10),(40,69)]) (λg:Nat×Nat×List Nat=>[(40,.c (iC g.1)),(8,.c (wC g.2.1))]) (λg=>wE (nP O g.2.2 i)) (λg=>g.1<=Y.l.length/\g.2.2.length=g.1/\Lm g.2.2/\g.2.1<4294967296/\val g.2.2+4294967296^g.1*g.2.1=val ((O.drop i).take g.1)+X.l.getD i U6*val (Y.l.take g.1)) (λg=>Y.l.length-g.1) (0,0,[]) ?_
  refine⟨⟨⟨aB _,U,Lm.nil,by decide,by simp[val]⟩,zG (aNb O i).symm,U,U⟩,λ⟨k,c,Q⟩ ⟨hk,hQ,hQm,hc,hw⟩=>vk ⟨λh2=>vk ?_,λh2=>vk (vk ?_)⟩⟩
  all_goals simp only at hk hQ hQm hc hw h2
  ·have hkm:k<Y.l.length:=Uc
   have dy:=lY.at hkm
   have hik:i+k<O.length:=Uc
   have hrl:(nP O Q i).length=O.length:=nQ oM
   have ho:O.getD (i+k) U6<4294967296:=hLm.at hik
   have hg:(nP O Q i).getD (i+k) U6=O.getD (i+k) U6:=aSq hQ hik
   have hlm:=xO dx dy
   obtain⟨p,hp⟩:∃p,p=X.l.getD i U6*Y.l.getD k U6:=⟨_,U⟩
   rw[<-hp] at hlm
   have hpos:i+k<(nP O Q i).length:=by rw[hrl];exact hik
   have hik2:i+k<m:=Uc
   refine⟨k,⟨U,hkm⟩,_,w0 (x:=X.l.getD i U6) oM,_,w0 (x:=Y.l.getD k U6) oM,_,wm oM,((i+k:Nat):Int),wi,i+k,⟨U,hik2,xY hpos⟩,uC (O.getD (i+k) U6),(aKc hpos).trans (by rw[hg]),_,w0 (x:=O.getD (i+k) U6) oM,_,wa2 oM,_,wa oM,((i+k:Nat):Int),wi,_,vF _,i+k,⟨U,hik2,xY hpos⟩,_,uK hpos (aAu hQ hik),p32,_,xX _,(k+1:Nat),wi,(k+1,(c+(O.getD (i+k) U6+X.l.getD i U6*Y.l.getD k U6))/4294967296,Q++[(c+(O.getD (i+k) U6+X.l.getD i U6*Y.l.getD k U6))%4294967296]),⟨⟨hkm,?_,hQm.snoc (dG _ dC),?_,aAv hQ hkm hik hw⟩,?_⟩,U,U,U,U⟩
   ·simp[hQ]
   ·show _/_<_
    omega
   show Y.l.length-(k+1)<Y.l.length-k
   omega
  obtain rfl:k=Y.l.length:=Uc
  have hpos:i+Y.l.length<(nP O Q i).length:=by rw[nQ oM];omega
  have hQ':(Q++[c]).length=Y.l.length+1:=by simp[hQ]
  have hst:(nP O Q i).set (i+Y.l.length) (c%4294967296)=nP O (Q++[c]) i:=(aAu hQ oM).trans (by rw[cM hc])
  refine⟨((i+Y.l.length:Nat):Int),wi,_,vF c,i+Y.l.length,⟨U,Uc,xY hpos⟩,_,uK hpos hst,(i+1:Nat),wi,(i+1,nP O (Q++[c]) i),⟨⟨him,?_,aSr hLm (hQm.snoc hc),?_,?_⟩,?_⟩,U,U,U⟩
  ·show(nP O (Q++[c]) i).length=m
   rw[nQ oM];exact hO
  ·rw[hJ (aH _)] at hw
   exact aSs (n:=0) him hQ oM hv hw
  ·exact aFd hQ' oM hz
  show X.l.length-(i+1)<X.l.length-i
  omega
 obtain rfl:i=X.l.length:=Uc
 rw[hJ oM,hJ (aH _)] at hv
 obtain⟨o1,o2,o3⟩:=wF hO.symm hLm
 refine⟨some (λj=>[uC (O.getD j U6)]),⟨⟨aB _,dO⟩,o1,o2,o3⟩,λAA cc _ _=>?_⟩
 rw[<-hO]
 refine⟨[],kL ⟨AA,cc,O⟩ hLm (by show O.length<=_;omega),U,U,U,λg hg=>⟨g,?_,aI U U tV⟩⟩
 show g.l=_
 rw[<-vX,<-vY,<-hv];exact hg
theorem bBn {x s:Nat} (hs:s<32):((x/2^s:Nat):Int)=(x:Int).fdiv (2^(min (s:Int).toNat IntKind.u32.bits)):=by
 rw[cN,show min s IntKind.u32.bits=s from eZ (eT hs),kI _ (wU (Int.pow_pos dC))]
 simp
theorem cBj (x:Nat):((x/2:Nat):Int)=(x:Int).fdiv (2^(min (1:Int).toNat IntKind.u32.bits)):=by
 have:=bBn (x:=x) (s:=1) dC
 simpa using this
theorem p1:(0:Int)<=1:=by decide
theorem cBk {s:Nat} (hs:s<32):((2^s:Nat):Int)=IntKind.u32.wrap ((1:Int)*2^(min (s:Int).toNat IntKind.u32.bits)):=by
 rw[cN,show min s IntKind.u32.bits=s from eZ (eT hs),uD]
 have h:2^s<2^32:=nV dC hs
 rw[show((2:Int)^s)=((2^s:Nat):Int) by simp]
 generalize 2^s=p at*
 rw[bPo oM]
theorem orN {a b:Nat} (ha:a<4294967296) (hb:b<4294967296):((a|||b:Nat):Int)=IntKind.u32.wrap ((BitVec.ofInt IntKind.u32.bits (a:Int)|||BitVec.ofInt IntKind.u32.bits (b:Int)).toNat:Int):=by
 show _=IntKind.u32.wrap ((BitVec.ofInt 32 (a:Int)|||BitVec.ofInt 32 (b:Int)).toNat:Int)
 rw[gP,gP,xD,iF,iF,cM oM,cM oM]
 have:=Nat.or_lt_two_pow (n:=32) ha hb
 rw[bPo oM]
theorem cBl {a:Nat} (ha:a<4294967296):((a%2:Nat):Int)=IntKind.u32.wrap ((BitVec.ofInt IntKind.u32.bits (a:Int)&&&BitVec.ofInt IntKind.u32.bits (1:Int)).toNat:Int):=by
 symm
 show IntKind.u32.wrap ((BitVec.ofInt 32 (a:Int)&&&BitVec.ofInt 32 ((1:Nat):Int)).toNat:Int)=_
 rw[gP,gP,BitVec.toNat_and,iF,iF,cM oM,cM oM,Nat.and_one_is_mod,bPo oM]
theorem aTs {i:Nat} (h:i<=4611686018427387904):((i/32:Nat):Int)=IntKind.i64.wrap ((i:Int).tdiv 32):=by
 rw[tE oM,bWa oM];omega
theorem aGc (i:Nat):(i:Int).tmod 32=((i%32:Nat):Int):=by
 rw[tF oM];omega
theorem aRa {a b:Nat} (h:a<18446744073709551616):((a/b:Nat):Int)=IntKind.u64.wrap ((a:Int).tdiv (b:Int)):=by
 rw[tE oM,<-vO]
 have:=iE a b
 generalize a/b=q at*
 exact(aFc oM).symm
theorem n32:(32:Int)≠0:=by decide
theorem bRb (x:Sl Nat) (hx:Lm x.l) (hn:x.l.length<=17592186044416):Ctr pgQ 196 [] [.c (eI x)] [] (λt:Nat=>⟨.c (iC t),[],val x.l<2^t/\t<=32*x.l.length⟩):=by
 refine cw func196 (⟨[],oF x hx oM,U,U,U,λX hX=>?_⟩)
 replace hX:X.l=dB (val x.l):=hX
 obtain⟨lX,vX⟩:=dg hX
 have hXn:X.l.length<=x.l.length:=by rw[hX];exact dZ hx
 refine⟨λh=>vk ⟨0,⟨?_,aB _⟩,aI U U tV⟩,λh=>vk ?_⟩
 ·have h0:val x.l=0:=oH.1 (by unfold len;rw[<-hX];omega)
  rw[h0];decide
 have h0:0<X.l.length:=Uc
 have htop:=lX.at (k:=X.l.length-1) oM
 refine⟨(X.l.length:Int)-1,wi,(32*(X.l.length-1):Nat),wi,(X.l.length:Int)-1,wi,X.l.length-1,⟨oM,oM⟩,?_⟩
 refine lJ (rn [(3,4),(20,25)]) (λs:Nat=>[(3,.c (iC (32*(X.l.length-1)+s:Nat))),(4,.c (uC (X.l.getD (X.l.length-1) U6/2^s)))]) (λ_=>[]) (·<=32) (32-·) 0 ?_
 refine⟨⟨aB _,U,U,?_⟩,λs hs=>vk ⟨λh1=>vk ?_,λh1=>vk (vk ?_)⟩⟩
 ·show(_:Int)=(_:Int)
  rw[mM,uG]
 ·have hs32:s<32:=by
   rcases eE s 32 with h|h
   ·exact h
   exfalso
   rw[show s=32 by omega,iI (show X.l.getD (X.l.length-1) U6<2^32 from htop)] at h1
   exact U4 h1 dC
  refine⟨(32*(X.l.length-1)+(s+1):Nat),wi,p1,_,cBj _,s+1,⟨hs32,Uc⟩,U,U,U,?_⟩
  show(_:Int)=(_:Int)
  rw[dJ,<-fX]
 have hz:X.l.getD (X.l.length-1) U6/2^s=0:=by
  rcases cL (X.l.getD (X.l.length-1) U6/2^s) with h|h
  ·exact h
  exact U4 (Int.natCast_pos.2 h) h1
 have hb:=aYg lX h0 hz
 rw[vX] at hb
 exact⟨_,⟨hb,Uc⟩,aI U U tV⟩
theorem bWs (x:Sl Nat) (hx:Lm x.l) {i:Nat} {z:Int} (hz:z=i) (hi:i<=562949953421312):Ctr pgQ 197 [] [.c (eI x),.c (iC z)] [] (λ_:Unit=>⟨.c (uC (val x.l/2^i%2)),[],True⟩):=by
 subst hz
 refine cw func197 (⟨n32,_,aTs oM,⟨λh=>vk ?_,λh=>vk ?_⟩⟩)
 ·refine⟨(),tV,aI ?_ rfl tV⟩
  show(0:Int)=(_:Int)
  rw[<-aJd hx,zV oM,Nat.zero_div];rfl
 have hxi:=hx.at (k:=i/32) oM
 refine⟨n32,_,aTs oM,i/32,⟨U,oM⟩,n32,((i%32:Nat):Int),wu (h:=⟨(aGc i).symm,by rw[aGc];omega,by rw[aGc];omega⟩),show(0:Int)<=((i%32:Nat):Int) by omega,_,bBn oM,_,cBl (fB (iE _ _) hxi),(),tV,aI ?_ rfl tV⟩
 show(_:Int)=(_:Int)
 rw[<-aJd hx,tO oM]
theorem aOi (x y:Sl Nat) (hx:Lm x.l) (hy:Lm y.l) (hn:x.l.length<=13194139533312) (hm:y.l.length<=13194139533312):Ctr pgQ 153 [] [.c (eI x),.c (eI y)] [] (λg:Sl Nat×Sl Nat=>⟨.t [.c (eI g.1),.c (eI g.2),pC (val y.l≠0)],[],g.1.l=dB (val x.l/val y.l)/\g.2.l=dB (aHg (val x.l) (val y.l))⟩):=by
 refine cw func153 (⟨[],oF y hy oM,U,U,U,λY hY=>?_⟩)
 replace hY:Y.l=dB (val y.l):=hY
 obtain⟨lY,vY⟩:=dg hY
 have hYn:Y.l.length<=y.l.length:=by rw[hY];exact dZ hy
 refine⟨λh=>vk ?_,λh=>vk ?_⟩
 ·have hy0:val y.l=0:=oH.1 (by unfold len;rw[<-hY];omega)
  refine⟨(cG,cG),⟨?_,?_⟩,aI ⟨⟨U,U,U⟩,⟨U,U,U⟩,ff (λh=>h hy0)⟩ U tV⟩
  ·show []=dB _
   rw[hy0,Nat.div_zero];rfl
  show []=dB _
  rw[hy0];rfl
 have hy0:val y.l≠0:=λh0=>by have:=oH.2 h0;unfold len at this;rw[<-hY] at this;omega
 have hmz:aHg (val x.l) (val y.l)=val x.l%val y.l:=U2 hy0
 refine⟨[],bBh x hx oM,U,U,U,λ_ _=>⟨[],bBh Y lY oM,U,U,U,λ_ _=>⟨λh64=>vk ?_,λh64=>vk ?_⟩⟩⟩
 ·have hd:=iE (val x.l) (val y.l)
  have hd2:=Nat.mod_le (val x.l) (val y.l)
  have e1:(if val x.l<18446744073709551616 then val x.l else 0)=val x.l:=U3 h64.1
  have e2:(if val Y.l<18446744073709551616 then val Y.l else 0)=val y.l:=by rw[U3 h64.2,vY]
  rw[e1,e2]
  have hnz:((val y.l:Nat):Int)≠0:=Uc
  refine⟨.seq [(0,false),(1,false),(2,false),(4,false),(5,false),(6,false),(3,false),(7,false),(8,false),(9,false),(10,false)],U0,hnz,_,aRa h64.1,hnz,[],aKb oM,U,U,U,λg1 h1=>⟨[],aKb (n:=val x.l%val y.l) oM,U,U,U,λg2 h2=>⟨(g1,g2),⟨h1,by rw[hmz];exact h2⟩,aI ⟨U,U,tt hy0⟩ U tV⟩⟩⟩
 refine⟨x.l.length,⟨U,U,show 4*x.l.length<=_ by omega,by simp only[maxLen];omega⟩,[],bRb x hx oM,U,U,U,λt ⟨ht,htl⟩=>⟨(t:Int)-1,wi,?_⟩⟩
 refine bBe (rn [(5,5),(11,13),(47,79)]) 1 (λg:Nat×Nat×Nat×List Nat×Sl Nat=>[(11,.c (iC ((g.1:Int)-1))),(5,.c (eI g.2.2.2.2))]) (λg=>[(98,1,g.2.2.2.1.map uC)]) (λg=>g.1<=t/\val x.l/2^g.1=g.2.1*val y.l+g.2.2.1/\g.2.2.1<val y.l/\g.2.2.2.1.length=x.l.length/\Lm g.2.2.2.1/\val g.2.2.2.1=g.2.1*2^g.1/\g.2.2.2.2.l=dB g.2.2.1) (λg=>g.1) (t,0,0,List.replicate x.l.length 0,cG) (λ_=>U) bL (λ_=>aA (aX.2 λc hc=>sM (jN _ c hc)) aU) (λ_=>U) ?_
 refine⟨⟨U,⟨aH _,?_,?_,by simp,Lm.zeros _,?_,U⟩,?_,U,U,U,U⟩,λ⟨j,Qn,r,O,R⟩ ⟨hj,hdiv,hr,hOl,hOm,hOv,hR⟩=>vk ⟨λh1=>vk ?_,λh1=>vk (vk ?_)⟩⟩
 ·show val x.l/2^t=_
  rw[iI ht];simp
 ·show 0<val y.l
  omega
 ·show val (List.replicate _ 0)=0*_
  rw[aCh,Nat.zero_mul]
 ·show(_,_,_)=(_,_,_)
  exact U5 (λl=>(98,1,l)) (zF _)
 ·simp only at hj hdiv hr hOl hOm hOv hR h1
  obtain⟨i,rfl⟩:∃i,j=i+1:=⟨j-1,Uc⟩
  obtain⟨lR,vR⟩:=dg hR
  have hz:((i+1:Nat):Int)-1=i:=Uc
  have hlr:R.l.length<=Y.l.length:=by rw[hR,hY];exact fR oM
  have hb1:val x.l/2^i%2<2:=dG _ dC
  have hlr2:=aAt r r
  simp only[<-fD] at hlr2
  rw[<-hR] at hlr2
  have hnx:=aYi (i:=i) hdiv
  refine⟨[],bBi R R lR lR oM oM,U,U,U,λR2 hR2=>⟨[],bWs x hx hz oM,U,U,U,λ_ _=>?_⟩⟩
  replace hR2:R2.l=dB (val R.l+val R.l):=hR2
  rw[vR] at hR2
  obtain⟨lR2,vR2⟩:=dg hR2
  rw[<-hR2] at hlr2
  refine cBa (rn [(5,5),(11,13),(47,79)]) 1 (λR3:Sl Nat=>[(11,.c (iC (((i+1:Nat):Int)-1))),(5,.c (eI R3))]) (λ_=>[(98,1,O.map uC)]) (λR3=>R3.l=dB (r+r+val x.l/2^i%2)) (λ_=>U) bL (λ_=>aA (aX.2 λc hc=>sM (jN _ c hc)) aU) (λ_=>U) ?_
  refine⟨U,⟨λh2=>vk ⟨some (λj=>[uC ([1].getD j U6)]),⟨⟨aB _,dO⟩,U,λj hj=>nG (x:=[1]) j hj,jN [1]⟩,λA c _ _=>⟨aBl O,[],bBi R2 ⟨A,c,[1]⟩ lR2 (λz hz=>by rw[aE.1 hz];decide) oM (by show 1<=_;omega),U,U,U,λR3 hR3=>⟨R3,?_,U,U,U,U⟩⟩⟩,λh2=>vk ⟨R2,?_,U,U,U,U⟩⟩,λR3 hR3=>?_⟩
  ·replace hR3:R3.l=dB (val R2.l+val [1]):=hR3
   rw[hR3,vR2]
   congr 1
   show r+r+1=_
   omega
  ·rw[hR2]
   congr 1
   omega
  obtain⟨lR3,vR3⟩:=dg hR3
  have hlr3:R3.l.length<=Y.l.length+1:=by
   have h1:=fR (m:=r+r+val x.l/2^i%2) (n:=val y.l+val y.l) oM
   have h2:=aAt (val y.l) (val y.l)
   simp only[<-fD] at h1 h2
   rw[<-hY] at h2
   rw[hR3]
   omega
  refine⟨[],bBj R3 Y lR3 lY oM oM,U,U,U,λU7 hD=>⟨λh3=>vk ?_,λh3=>vk ?_⟩⟩
  ·replace hD:U7.l=dB (val R3.l-val Y.l):=hD
   have hsb:=bPq (i:=i) hOm oM (by rw[hOv];exact Nat.mul_mod_left _ _)
   have hi32:i/32<O.length:=Uc
   refine⟨n32,((i/32:Nat):Int),(show((i/32:Nat):Int)=IntKind.i64.wrap ((((i+1:Nat):Int)-1).tdiv 32) by rw[hz];exact aTs oM),i/32,⟨U,Uc,show i/32*1<(O.map uC).length by rw[aK];omega⟩,_,aKc hi32,n32,((i%32:Nat):Int),wu (h:=⟨by rw[hz,aGc],by rw[hz,aGc];omega,by rw[hz,aGc];omega⟩),show(0:Int)<=((i%32:Nat):Int) by omega,_,cBk oM,_,orN (hOm.at hi32) (show 2^(i%32)<2^32 from nV dC oM),i/32,⟨U,Uc,show i/32*1<(O.map uC).length by rw[aK];omega⟩,_,⟨wB hi32,show i/32*1+1<=(O.map uC).length by rw[aK];omega⟩,(i:Int)-1,wi,(i,2*Qn+1,r+r+val x.l/2^i%2-val y.l,O.set (i/32) (O.getD (i/32) U6+2^(i%32)),U7),⟨⟨show i<=t by omega,?_,show r+r+val x.l/2^i%2-val y.l<val y.l by omega,?_,hOm.set hsb.2.1,?_,?_⟩,aS i⟩,U,?_,U,U⟩
   ·show val x.l/2^i=(2*Qn+1)*val y.l+(r+r+val x.l/2^i%2-val y.l)
    rw[hnx,dE,iX];omega
   ·simp[hOl]
   ·show val (O.set _ _)=(2*Qn+1)*2^i
    rw[hsb.2.2,hOv,aNc,dE,iX]
   ·show U7.l=dB _
    rw[hD,vR3,vY]
   show(_,_,_)=(_,_,_)
   rw[hsb.1]
  refine⟨(i:Int)-1,wi,(i,2*Qn,r+r+val x.l/2^i%2,O,R3),⟨⟨show i<=t by omega,hnx,show r+r+val x.l/2^i%2<val y.l by omega,hOl,hOm,?_,hR3⟩,aS i⟩,U,U,U,U⟩
  show val O=2*Qn*2^i
  rw[hOv,aNc]
 simp only at hj hdiv hr hOl hOm hOv hR h1
 obtain rfl:j=0:=Uc
 rw[mM,uG] at hdiv
 rw[mM,bE] at hOv
 obtain⟨f1,f2⟩:=aJe hdiv hr
 obtain⟨lR,vR⟩:=dg hR
 have hlr:R.l.length<=Y.l.length:=by rw[hR,hY];exact fR oM
 refine⟨some (λj=>[uC (O.getD j U6)]),⟨⟨aB _,dO⟩,?_,λj hj=>nG j (by rw[hOl];exact hj),jN O⟩,λA cc _ _=>⟨[],oF ⟨A,cc,O⟩ hOm (by show O.length<=_;omega),?_,U,U,λg hg=>⟨[],oF R lR oM,U,U,U,λg2 hg2=>⟨(g,g2),⟨?_,?_⟩,aI ⟨U,U,tt hy0⟩ U tV⟩⟩⟩⟩
 ·show x.l.length*1=_
  simp[hOl]
 ·show [DV.c (.r A x.l.length cc 1 _)]=[DV.c (.r A O.length cc 1 _)]
  rw[hOl]
 ·show g.l=_
  rw[<-f1,<-hOv];exact hg
 show g2.l=_
 rw[hmz,<-f2,<-vR];exact hg2
theorem bWt (x y:Sl Nat) (hx:Lm x.l) (hy:Lm y.l) (hn:x.l.length<=13194139533312) (hm:y.l.length<=13194139533312):Ctr pgQ 152 [] [.c (eI x),.c (eI y)] [] (aDz (Nat.gcd (val x.l) (val y.l))):=by
 refine cw func152 (⟨[],oF x hx oM,U,U,U,λX hX=>⟨[],oF y hy oM,U,U,U,λY hY=>?_⟩⟩)
 have hXn:(dB (val x.l)).length<=x.l.length:=dZ hx
 have hYn:(dB (val y.l)).length<=y.l.length:=dZ hy
 refine lJ (rn [(0,1),(5,7),(12,23)]) (λg:Nat×Nat×Sl Nat×Sl Nat=>[(0,.c (eI g.2.2.1)),(1,.c (eI g.2.2.2))]) (λ_=>[]) (λg=>g.2.2.1.l=dB g.1/\g.2.2.2.l=dB g.2.1/\Nat.gcd g.1 g.2.1=Nat.gcd (val x.l) (val y.l)/\(dB g.1).length<=13194139533312/\(dB g.2.1).length<=13194139533312) (λg=>g.2.1) (val x.l,val y.l,X,Y) ?_
 refine⟨⟨⟨hX,hY,U,aJ hXn hn,aJ hYn hm⟩,U,U,U⟩,λ⟨a,b,A,B⟩ ⟨hA,hB,hg,hla,hlb⟩=>vk ⟨λh1=>vk ?_,λh1=>vk (vk ?_)⟩⟩
 ·simp only at hA hB hg hla hlb h1
  obtain⟨lA,vA⟩:=dg hA
  obtain⟨lB,vB⟩:=dg hB
  have hb0:b≠0:=λh0=>by rw[h0] at hB;rw[hB] at h1;exact U4 h1 dC
  refine⟨[],aOi A B lA lB (by rw[hA];omega) (by rw[hB];omega),U,U,U,λ⟨Q,R⟩ ⟨_,hR⟩=>⟨(b,a%b,B,R),⟨⟨hB,?_,?_,hlb,?_⟩,dG _ oM⟩,U,U,U,U⟩⟩
  ·show R.l=_
   replace hR:R.l=dB (aHg (val A.l) (val B.l)):=hR
   rw[hR,vA,vB,aHg,U2 hb0]
  ·show Nat.gcd b (a%b)=_
   rw[<-hg,jV a b,yY b a,jV]
  have:=fR (eT (dG a (show 0<b by omega)))
  simp only[<-fD] at this
  exact aJ this hlb
 simp only at hA hB hg hla hlb h1
 have hb0:b=0:=oH.1 (by unfold len;rw[<-hB];omega)
 refine⟨A,?_,aI U U tV⟩
 show A.l=_
 rw[hA,<-hg,hb0,oW]
theorem bMy {s:Nat} (hs:s<=32):min (s:Int).toNat IntKind.u64.bits=s:=by
 rw[cN];exact eZ (aJ hs dC)
theorem bWu {x s:Nat} (hs:s<=32) (h:x*2^s<18446744073709551616):((x*2^s:Nat):Int)=IntKind.u64.wrap ((x:Int)*2^(min (s:Int).toNat IntKind.u64.bits)):=by
 rw[bMy hs,show((x:Int)*2^s)=((x*2^s:Nat):Int) by simp]
 generalize x*2^s=p at*
 exact(aFc oM).symm
theorem bWv {a b p:Nat} (h:a|||b=p) (ha:a<18446744073709551616) (hb:b<18446744073709551616) (hp:p<18446744073709551616):(p:Int)=IntKind.u64.wrap ((BitVec.ofInt IntKind.u64.bits (a:Int)|||BitVec.ofInt IntKind.u64.bits (b:Int)).toNat:Int):=by
 show _=IntKind.u64.wrap ((BitVec.ofInt 64 (a:Int)|||BitVec.ofInt 64 (b:Int)).toNat:Int)
 rw[gP,gP,xD,iF,iF,cM ha,cM hb,h,aFc oM]
theorem orS {c x s:Nat} (hc:c<2^s) (hb:c+x*2^s<18446744073709551616):((c+x*2^s:Nat):Int)=IntKind.u64.wrap ((BitVec.ofInt IntKind.u64.bits (c:Int)|||BitVec.ofInt IntKind.u64.bits ((x*2^s:Nat):Int)).toNat:Int):=bWv (aYm hc) oM oM hb
theorem bWw {x s:Nat} (hs:s<=32):((x/2^s:Nat):Int)=(x:Int).fdiv (2^(min (s:Int).toNat IntKind.u64.bits)):=by
 rw[bMy hs,kI _ (wU (Int.pow_pos dC))]
 simp
theorem orH {x y:Nat} (hx:x<4294967296) (hy:y<4294967296):((x+4294967296*y:Nat):Int)=IntKind.u64.wrap ((BitVec.ofInt IntKind.u64.bits (x:Int)|||BitVec.ofInt IntKind.u64.bits ((y*4294967296:Nat):Int)).toNat:Int):=by
 rw[bP];exact orS (s:=32) hx oM
theorem nn {s:Nat}:(0:Int)<=(s:Nat):=Int.natCast_nonneg _
theorem aGd (x:Sl Nat) {sh:Nat} (hx:Lm x.l) (hn:x.l.length<=17592186044416) (hs:sh<=31):Ctr pgQ 225 [true] [.c (eI x),.c (iC sh)] [] (λL:List Nat=>⟨.c (.s 0 (x.l.length+1)),wE L,L.length=x.l.length+1/\Lm L/\val L=val x.l*2^sh⟩):=by
 refine gA gT (eo func225) func225 U U U bL (λ_ _ _ _ h=>(by cases h)) (vk ⟨(x.l.length+1:Nat),wi,x.l.length+1,⟨U,U,show 4*(x.l.length+1)<=_ by omega,by simp only[maxLen];omega⟩,?_⟩)
 refine lJ (rn [(6,8),(15,33)]) (λg:Nat×Nat×List Nat=>[(15,.c (iC g.1)),(6,.c (wC g.2.1))]) (λg=>wE (iV g.2.2 (x.l.length+1))) (λg=>g.1<=x.l.length/\g.2.2.length=g.1/\Lm g.2.2/\g.2.1<2^sh/\val g.2.2+4294967296^g.1*g.2.1=val (x.l.take g.1)*2^sh) (λg=>x.l.length-g.1) (0,0,[]) ?_
 refine⟨⟨⟨aB _,U,Lm.nil,gN dC,by simp[val]⟩,aIg.trans (zG (sG _).symm),U,U⟩,λ⟨k,c,P⟩ ⟨hk,hP,hLm,hc,hv⟩=>vk ⟨λh1=>vk ?_,λh1=>vk (vk ?_)⟩⟩
 all_goals simp only at hk hP hLm hc hv h1
 ·have hkl:k<x.l.length:=Uc
  have hxk:=hx.at hkl
  have hcr:=aNd hs hc hxk
  have hfl:k<(iV P (x.l.length+1)).length:=by rw[kP oM];omega
  refine⟨k,⟨U,hkl⟩,_,w0 (x:=x.l.getD k U6) oM,nn,_,bWu (x:=x.l.getD k U6) (s:=sh) oM oM,_,orS hc oM,_,vF _,k,⟨U,Uc,xY hfl⟩,_,uK hfl (oY hP oM),p32,_,xX _,(k+1:Nat),wi,(k+1,(c+x.l.getD k U6*2^sh)/4294967296,P++[(c+x.l.getD k U6*2^sh)%4294967296]),⟨⟨hkl,?_,hLm.snoc (dG _ dC),hcr.2.1,?_⟩,?_⟩,U,U,U,U⟩
  ·simp[hP]
  ·show val (P++_)+_=val (x.l.take (k+1))*2^sh
   rw[dV hkl];exact bHq hP hv
  show _-(k+1)<_-k
  omega
 obtain rfl:k=x.l.length:=Uc
 have hcs:=aNd (x:=0) hs hc dC
 have hfl:x.l.length<(iV P (x.l.length+1)).length:=by rw[kP oM];omega
 have hst:(iV P (x.l.length+1)).set x.l.length (c%4294967296)=P++[c%4294967296]:=(oY hP (aS _)).trans (qG (by simp[hP]))
 refine⟨_,vF _,x.l.length,⟨U,Uc,xY hfl⟩,_,uK hfl hst,P++[c%4294967296],⟨by simp[hP],hLm.snoc (dG _ dC),?_⟩,fH U U (aB _) aKd U aEe⟩
 rw[kO,hP,cM oM,hv,cE (aH _)]
theorem aRb (x:Sl Nat) {sh:Nat} (hx:Lm x.l) (hn:x.l.length<=17592186044416) (hs:sh<=31):Ctr pgQ 225 [] [.c (eI x),.c (iC sh)] [] (λg:Sl Nat=>⟨.c (eI g),[],g.l.length=x.l.length+1/\Lm g.l/\val g.l=val x.l*2^sh⟩):=by
 refine((aGd x hx hn hs).cl0.frz (λL j=>[uC (L.getD j U6)]) λL hL=>⟨λj hj=>nG j oM,by simp[hL.1],dO,jN _⟩).re λg hg=>⟨⟨g.2.1,g.2.2,g.1⟩,hg,?_,U,U⟩
 show DV.c (.r _ g.1.length _ _ _)= .c (.r _ (x.l.length+1) _ _ _)
 rw[hg.1]
theorem bMz {s:Nat} (hs:s<=31):(0:Int)=IntKind.i64.wrap ((s:Int).tdiv 32):=by
 rw[<-aTs oM,iI oM];rfl
theorem bNa {s:Nat} (hs:s<=31):(s:Int).tmod 32=(s:Int):=by
 rw[aGc,cM oM]
theorem bRc (x:Sl Nat) {sh:Nat} (hx:Lm x.l) (hn:x.l.length<=17592186044416) (hs:sh<=31):Ctr pgQ 227 [] [.c (eI x),.c (iC sh)] [] (λg:Sl Nat=>⟨.t [.c (eI g),pC True],[],g.l=dB (val x.l/2^sh)⟩):=by
 refine cw func227 (⟨λh=>U4 h (by show ¬(sh:Int)<0;omega),λ_=>vk ⟨[],kL x hx oM,U,U,U,λX hX=>?_⟩⟩)
 have hXn:=dZ hx
 replace hX:X.l=dB (val x.l):=hX
 obtain⟨lX,vX⟩:=dg hX
 unfold len at hXn
 rw[<-hX] at hXn
 have z31:(0:Int)<=(sh:Int).tmod 32:=by rw[bNa hs];omega
 refine⟨n32,0,bMz hs,⟨λh=>vk ?_,λh=>vk ?_⟩⟩
 ·refine⟨⟨none,0,[]⟩,?_,aI ⟨⟨U,U,U⟩,tt tV⟩ U tV⟩
  have h0:val x.l=0:=by rw[<-vX,bQ (l:=X.l) oM];rfl
  show []=dB _
  rw[h0,Nat.zero_div];rfl
 refine⟨n32,0,bMz hs,0,⟨U,aB _⟩,n32,X.l.length,⟨U,U,show 4*X.l.length<=_ by omega,by simp only[maxLen];omega⟩,?_⟩
 refine lJ (rn [(8,10),(31,59)]) (λg:Nat×List Nat=>[(31,.c (iC g.1))]) (λg=>wE (iV g.2 X.l.length)) (λg=>g.1<=X.l.length/\g.2.length=g.1/\Lm g.2/\val g.2=val X.l/2^sh%4294967296^g.1) (λg=>X.l.length-g.1) (0,[]) ?_
 refine⟨⟨⟨aB _,U,Lm.nil,by simp[val,Nat.mod_one]⟩,aIg.trans (zG (sG _).symm),U⟩,λ⟨k,P⟩ ⟨hk,hP,hLm,hv⟩=>vk ⟨λh1=>vk ?_,λh1=>vk (vk ?_)⟩⟩
 all_goals simp only at hk hP hLm hv
 ·have hkl:k<X.l.length:=by replace h1:(k:Int)<(X.l.length:Nat):=h1;omega
  have hxk:=lX.at hkl
  have hd0:=uH lX k
  have hd1:=uH lX (k+1)
  have hfl:k<(iV P X.l.length).length:=by rw[kP oM];omega
  refine⟨k,⟨U,hkl⟩,_,w0 (x:=X.l.getD k U6) oM,(k+1:Nat),wi,?_⟩
  refine vjn (rn [(8,10),(31,59)]) (λg:Nat=>[(31,.c (iC k)),(8,.c (iC k)),(10,.c (wC g))]) (λ_=>wE (iV P X.l.length)) (λg=>g=dig X.l k+4294967296*dig X.l (k+1)) ?_
  refine⟨⟨λh2=>vk ?_,λh2=>vk ⟨_,U,U,U,U,U,?_⟩⟩,?_⟩
  ·replace h2:((k+1:Nat):Int)<(X.l.length:Nat):=h2
   have hxk1:=lX.at (k:=k+1) oM
   refine⟨(k+1:Nat),wi,k+1,⟨U,by show k+1<X.l.length;omega⟩,_,w0 (x:=X.l.getD (k+1) U6) oM,p32,_,aGa hxk1,_,orH hxk hxk1,_,U,U,U,U,U,?_⟩
   show(_:Int)=(_:Int)
   rw[tO hkl,tO oM]
  ·show(_:Int)=(_:Int)
   replace h2:¬((k+1:Nat):Int)<(X.l.length:Nat):=h2
   rw[tO hkl,zV (k:=k+1) oM];rfl
  rintro _ rfl
  refine⟨z31,_,(bWw (x:=dig X.l k+4294967296*dig X.l (k+1)) (s:=sh) oM).trans (by rw[bNa hs]),_,vF _,k,⟨U,hkl,xY hfl⟩,_,uK hfl (oY hP hkl),(k+1:Nat),wi,(k+1,P++[(dig X.l k+4294967296*dig X.l (k+1))/2^sh%4294967296]),⟨⟨hkl,by simp[hP],hLm.snoc (dG _ dC),?_⟩,?_⟩,U,U,U⟩
  ·show val (P++[_])=_
   rw[aWl lX hs];exact aYn hP hv
  show _-(k+1)<_-k
  omega
 obtain rfl:k=X.l.length:=by replace h1:¬(k:Int)<(X.l.length:Nat):=h1;omega
 have hf:iV P X.l.length=P:=qG hP
 have hfin:val P=val x.l/2^sh:=by
  rw[hv,vX,cM]
  refine fB (iE _ _) ?_
  have h9:=kC lX
  rw[vX] at h9
  exact h9
 obtain⟨o1,o2,o3⟩:=wF hP.symm hLm
 rw[hf]
 refine⟨some (λj=>[uC (P.getD j U6)]),⟨⟨aB _,dO⟩,o1,o2,o3⟩,λAA cc _ _=>?_⟩
 rw[<-hP]
 refine⟨[],kL ⟨AA,cc,P⟩ hLm (by show P.length<=_;omega),U,U,U,λg hg=>⟨g,?_,aI ⟨U,tt tV⟩ U tV⟩⟩
 show g.l=_
 rw[<-hfin];exact hg
theorem bJf {z:Nat} (h:z<4294967296):(z:Int)=IntKind.u32.wrap (z:Int):=by rw[IntKind.wrap_u32];omega
theorem bRd (x:Sl Nat) {d:Nat} (hx:Lm x.l) (hn:x.l.length<=17592186044416) (hd0:0<d) (hd:d<4294967296):Ctr pgQ 205 [] [.c (eI x),.c (uC d)] [] (λg:Sl Nat×Sl Nat=>⟨.t [.c (eI g.1),.c (eI g.2)],[],g.1.l=dB (val x.l/d)/\g.2.l=dB (val x.l%d)⟩):=by
 refine cw func205 (⟨x.l.length,⟨U,U,show 4*x.l.length<=_ by omega,by simp only[maxLen];omega⟩,(x.l.length:Int)-1,wi,?_⟩)
 refine lJ (rn [(6,7),(14,37)]) (λg:Nat×Nat×List Nat=>[(7,.c (iC ((g.1:Int)-1))),(6,.c (wC g.2.1))]) (λg=>wE (List.replicate g.1 0++g.2.2)) (λg=>g.1<=x.l.length/\g.2.1<d/\g.2.2.length+g.1=x.l.length/\Lm g.2.2/\val (x.l.drop g.1)=val g.2.2*d+g.2.1) (λg=>g.1) (x.l.length,0,[]) ?_
 refine⟨⟨⟨aH _,hd0,by simp,Lm.nil,by rw[cK (aH _)];simp[val]⟩,aIg.trans (zG (dW _).symm),U,U⟩,λ⟨m,r,Q⟩ ⟨hm,hr,hQl,hQm,hv⟩=>vk ⟨λh1=>vk ?_,λh1=>vk (vk ?_)⟩⟩
 all_goals simp only at hm hr hQl hQm hv
 ·replace h1:(0:Int)<=(m:Int)-1:=h1
  obtain⟨n,rfl⟩:∃n,m=n+1:=⟨m-1,Uc⟩
  have hn1:n<x.l.length:=Uc
  have hxn:=hx.at hn1
  have hll:=bHr hr hd hxn
  have hfl:n<(List.replicate (n+1) 0++Q).length:=by simp;omega
  have hr32:r<4294967296:=Uc
  refine⟨p32,_,aGa hr32,n,⟨oM,hn1⟩,_,w0 (x:=x.l.getD n U6) oM,_,aQz hr32 hxn,_,w0 (x:=d) oM,show(d:Int)≠0 by omega,_,aRa hll.2,_,bJf hll.1,n,⟨oM,hn1,xY hfl⟩,_,uK hfl bWe,_,w0 (x:=d) oM,show(d:Int)≠0 by omega,(n:Int)-1,?_,(n,(r*4294967296+x.l.getD n U6)%d,(r*4294967296+x.l.getD n U6)/d::Q),⟨⟨by show n<=_;omega,dG _ hd0,by show(_::Q).length+n=_;rw[eG];omega,λz hz=>?_,aWm hn1 hd0 hv⟩,aS n⟩,U,U,U,?_⟩
  ·exact wi (h:=⟨Uc,Uc,Uc⟩)
  ·rcases bW.1 hz with rfl|hz
   ·exact hll.1
   exact hQm z hz
  show(_:Int).tmod (_:Int)=(_:Int)
  rfl
 obtain rfl:m=0:=by replace h1:¬(0:Int)<=(m:Int)-1:=h1;omega
 rw[mF] at hv
 have hfin:=aJe (n:=val x.l) (b:=d) hv hr
 have hQl':x.l.length=Q.length:=Uc
 obtain⟨o1,o2,o3⟩:=wF hQl' hQm
 refine⟨some (λj=>[uC (Q.getD j U6)]),⟨⟨aB _,dO⟩,o1,o2,o3⟩,λAA cc _ _=>?_⟩
 rw[hQl']
 refine⟨[],kL ⟨AA,cc,Q⟩ hQm (by show Q.length<=_;omega),U,U,U,λg hg=>⟨[],oJ (n:=r) oM,U,U,U,λh hh=>⟨(g,h),⟨?_,?_⟩,aI ⟨U,U⟩ U tV⟩⟩⟩
 ·show g.l=_
  rw[<-hfin.1];exact hg
 show h.l=_
 rw[<-hfin.2];exact hh
set_option maxRecDepth 8000
theorem bBo {P2 P:List Nat} {t k n:Nat} (h2:P2.length=n) (hP:P.length=n) (hk:k=n):(P2++(P++[t]).drop k).getD n U6=t:=by
 subst hk
 rw[aEb h2,aC,bH oM,hP,gH];rfl
theorem aXf {a:Nat} (h:a+1=4294967296):((0:Nat):Int)=IntKind.u32.wrap ((a:Int)+((1:Nat):Int)):=by
 rw[show(a:Int)+((1:Nat):Int)=4294967296 by omega];decide
theorem w0e {x y:Nat} (e:y=x) (h:x<=18446744073709551615):(y:Int)=IntKind.u64.wrap (x:Int):=by subst e;exact w0 h
theorem c32 {z w:Nat} (e:w=z) (h:w<4294967296):(w:Int)=IntKind.u32.wrap (z:Int):=by subst e;exact bJf h
theorem aGe {pre L post:List Nat} {k z:Nat} (h:k<L.length) (e:z=L.getD k U6):((pre++L++post).map uC)[pre.length*1+k*1]? =some (uC z):=by
 rw[bE,bE,cW,bA,bH (by simp),aK,fP,bA,aV (by simpa using h),dQ,aG h,e,gd h];rfl
theorem aKf {pre L L' post:List Nat} {k z:Nat} (h:k<L.length) (e:L.set k z=L'):mJ ((pre++L++post).map uC) (pre.length*1+k*1) [uC z]=(pre++L'++post).map uC/\pre.length*1+k*1+1<=((pre++L++post).map uC).length:=by
 have h1:pre.length+k<(pre++L++post).length:=by simp;omega
 have h2:=wB (z:=z) h1
 rw[bE] at h2
 refine⟨?_,by simp;omega⟩
 rw[bE,bE,h2,<-e,cW,jA (h:=by omega),fP,List.set_append_left (h:=by simpa using h),cW]
abbrev aRc (pre L post:List Nat):BL:=wE (pre++L++post)
theorem bJg (pre u post:List Nat) (V:Sl Nat) (hul:u.length=V.l.length+1) (lmu:Lm u) (lmy:Lm V.l) (hn2:2<=V.l.length) (hnb:V.l.length<=35184372088832) (htop:2147483648<=V.l.getD (V.l.length-1) U6) (hq:val u<val V.l*4294967296):
 CtrF pgQ 226 [true] [.c (.t 0 (pre.length*1) (V.l.length+1)),.c (eI V)] (aRc pre u post) [] (λmid:List Nat=>⟨.c (uC (val u/val V.l)),aRc pre mid post,[],mid.length=V.l.length+1/\Lm mid/\val mid=val u%val V.l⟩):=by
 have hK:=bWf hul U hn2 lmu lmy htop hq
 obtain⟨n,hn⟩:∃n,n=V.l.length:=⟨_,U⟩
 obtain⟨un,hun⟩:∃z,z=u.getD n U6:=⟨_,U⟩
 obtain⟨un1,hun1⟩:∃z,z=u.getD (n-1) U6:=⟨_,U⟩
 obtain⟨u2,hu2⟩:∃z,z=u.getD (n-2) U6:=⟨_,U⟩
 obtain⟨v1,hv1⟩:∃z,z=V.l.getD (n-1) U6:=⟨_,U⟩
 obtain⟨v2,hv2⟩:∃z,z=V.l.getD (n-2) U6:=⟨_,U⟩
 rw[<-hn] at hK htop hul hn2 hnb
 have bun:=lmu.at (k:=n) oM
 have bun1:=lmu.at (k:=n-1) oM
 have bu2:=lmu.at (k:=n-2) oM
 have bv1:=lmy.at (k:=n-1) oM
 have bv2:=lmy.at (k:=n-2) oM
 rw[<-hun,<-hun1,<-hu2,<-hv1,<-hv2] at hK
 rw[<-hun] at bun
 rw[<-hun1] at bun1
 rw[<-hu2] at bu2
 rw[<-hv1] at bv1 htop
 rw[<-hv2] at bv2
 have hz1:(v1:Int)≠0:=Uc
 have htl:un*4294967296+un1<18446744073709551616:=Uc
 have hkn1:n-1<V.l.length:=Uc
 have hkn2:n-2<V.l.length:=Uc
 have i1:((n-1:Nat):Int)=IntKind.i64.wrap (((V.l.length:Nat):Int)-1):=wi (h:=⟨Uc,Uc,Uc⟩)
 have i2:((n-2:Nat):Int)=IntKind.i64.wrap (((V.l.length:Nat):Int)-2):=wi (h:=⟨Uc,Uc,Uc⟩)
 have hvx:v1<=18446744073709551615:=Uc
 refine oP gT (eo func226) func226 U U U bL aEe (vk ⟨.seq (aHm 0 14),U0,V.l.length,⟨U,aS _⟩,uC un,aGe oM (by rw[hun,hn]),_,w0 (x:=un) oM,p32,_,aGa bun,_,i1,n-1,⟨U,Uc⟩,uC un1,aGe oM hun1,_,w0 (x:=un1) oM,_,aQz bun bun1,.seq (aHm 0 18),U0,_,i1,n-1,⟨U,hkn1⟩,(v1:Nat),w0e hv1 (hv1▸hvx),hz1,_,aRa htl,_,i1,n-1,⟨U,hkn1⟩,(v1:Nat),w0e hv1 (hv1▸hvx),hz1,?_⟩)
 refine cBi 0 (rn [(7,8),(48,83)]) (λg:Nat=>[(7,.c (wC g))]) (λ_=>aRc pre u post) (λg=>val u/val V.l<=g/\g<=val u/val V.l+1/\g<4294967296) ⟨?_,λdq ⟨hq1,hq2,hdb⟩=>?_⟩
 ·refine lJ (rn [(7,8),(48,83)]) (λg:Nat×Nat=>[(7,.c (wC g.1)),(8,.c (wC g.2))]) (λ_=>aRc pre u post) (λg=>Kn (val u) (val V.l) (un*4294967296+un1) v1 g.1 g.2/\g.2<4294967296) (λg=>g.1) ((un*4294967296+un1)/v1,(un*4294967296+un1)%v1) ?_
  refine⟨⟨⟨hK.start,sD (dG _ oM) bv1⟩,U,U,?_⟩,λ⟨dg,rs⟩ ⟨hKn,hrs⟩=>vk ?_⟩
  ·show(_:Int).tmod (_:Int)=(_:Int)
   rfl
  simp only at hKn hrs
  have hle:=hKn.le
  have hmul:∀h:dg<4294967296,dg*v2<=18446744065119617025:=λh=>xO h bv2
  have hg:¬((dg/4294967296:Nat):Int)≠0->dg<4294967296:=λh=>Uc
  refine⟨.seq (aHm 0 23),U0,p32,_,xX dg,(n-2:Nat),λh=>i2,n-2,λh=>⟨U,hkn2⟩,(v2:Nat),λh=>w0e hv2 (hv2▸oM),(dg*v2:Nat),λh=>wm (by have:=hmul (hg h);omega),λh=>p32,_,λh=>aGa hrs,(n-2:Nat),λh=>i2,n-2,λh=>⟨U,Uc⟩,uC u2,λh=>aGe oM hu2,_,λh=>w0 (x:=u2) oM,_,λh=>aQz hrs bu2,⟨λhc=>vk ?_,λhc=>vk ?_⟩⟩
  ·have hcond:4294967296<=dg\/rs*4294967296+u2<dg*v2:=by
    rcases hc with h|h
    ·exact .inl oM
    replace h:((rs*4294967296+u2:Nat):Int)<((dg*v2:Nat):Int):=h
    exact .inr (Int.ofNat_lt.1 h)
   have hst:=hK.step hKn hcond
   have hge1:=hst.2
   refine⟨(dg-1:Nat),wu (h:=⟨Uc,Uc,Uc⟩),_,i1,n-1,⟨U,hkn1⟩,(v1:Nat),w0e hv1 (hv1▸hvx),(rs+v1:Nat),wa oM,p32,_,xX (rs+v1),⟨λhb=>vk ?_,λhb=>vk ?_⟩⟩
   ·have hb':=hK.brk hst.1 oM oM
    have hlt:=hK.lt
    exact⟨dg-1,⟨hst.1.ge,Uc,Uc⟩,U,U,U⟩
   exact⟨(dg-1,rs+v1),⟨⟨hst.1,by show rs+v1<_;omega⟩,by show dg-1<dg;omega⟩,U,U,U,U⟩
  have hd:dg<4294967296:=hg λh=>hc (.inl h)
  have h2:dg*v2<=rs*4294967296+u2:=by
   rcases eE (rs*4294967296+u2) (dg*v2) with h|h
   ·exact U4 (.inr (show((rs*4294967296+u2:Nat):Int)<((dg*v2:Nat):Int) from Int.ofNat_lt.2 h)) hc
   exact h
  exact⟨dg,⟨hKn.ge,hK.exit hKn hd h2,hd⟩,U,U,U⟩
 have hpos:=hK.pos
 clear hK
 refine vk ?_
 refine lJ (rn [(9,13),(86,116)]) (λg:Nat×Nat×List Nat=>[(86,.c (iC g.1)),(9,.c (wC g.2.1))]) (λg=>aRc pre (g.2.2++u.drop g.1) post) (λg=>g.1<=n/\g.2.2.length=g.1/\Lm g.2.2/\g.2.1<4294967296/\val g.2.2+dq*val (V.l.take g.1)=val (u.take g.1)+4294967296^g.1*g.2.1) (λg=>n-g.1) (0,0,[]) ?_
 refine⟨⟨⟨aB _,U,Lm.nil,by decide,by simp[val]⟩,U,U,U⟩,λ⟨k,c,P⟩ ⟨hk,hP,hLm,hc,hms⟩=>vk ⟨λh1=>vk ?_,λh1=>vk (vk ?_)⟩⟩
 all_goals simp only at hk hP hLm hc hms
 ·have hkl:k<V.l.length:=by replace h1:(k:Int)<(V.l.length:Nat):=h1;omega
  have hku:k<u.length:=Uc
  have huk:=lmu.at (k:=k) oM
  have hvk:=lmy.at hkl
  have hmc:=aYj (u:=u.getD k U6) hdb hvk hc huk
  have hlm2:=xO hdb hvk
  have hls:k<(P++u.drop k).length:=by rw[aD,cP];omega
  refine⟨k,⟨U,hkl⟩,_,w0 (x:=V.l.getD k U6) oM,_,wm oM,((dq*V.l.getD k U6+c:Nat):Int),wa oM,k,⟨U,Uc⟩,uC (u.getD k U6),aGe hls (aEb hP).symm,_,w0 (x:=u.getD k U6) oM,_,vF _,_,w0 oM,_,wsb oM,_,vF _,k,⟨U,Uc⟩,_,aKf hls (aAw hP hku),p32,_,xX _,p63,_,bBm _,_,wa (by have:=hmc.2;omega),(k+1:Nat),wi,(k+1,(dq*V.l.getD k U6+c)/4294967296+sb (u.getD k U6) ((dq*V.l.getD k U6+c)%4294967296)/9223372036854775808,P++[sb (u.getD k U6) ((dq*V.l.getD k U6+c)%4294967296)%4294967296]),⟨⟨by show k+1<=n;omega,by simp[hP],hLm.snoc (dG _ dC),hmc.2,?_⟩,by show n-(k+1)<n-k;omega⟩,U,U,U,U⟩
  show val (P++[_])+dq*val (V.l.take (k+1))=val (u.take (k+1))+_
  rw[dV (xs:=V.l) hkl,dV (xs:=u) hku];exact bHm hP hms huk
 subst hn
 obtain rfl:k=V.l.length:=by replace h1:¬(k:Int)<(V.l.length:Nat):=h1;omega
 have hsl:=aQf bun hc
 have hms2:val P+dq*val V.l=val (u.take V.l.length)+4294967296^V.l.length*c:=by
  rw[cE (aH _)] at hms;exact hms
 have huv:val u=val (u.take V.l.length)+4294967296^V.l.length*un:=by
  have h9:=dV (xs:=u) (k:=V.l.length) oM
  rw[cE oM] at h9
  rw[hun];exact h9
 have hls:V.l.length<(P++u.drop V.l.length).length:=by rw[aD,cP];omega
 have hl1:(P++u.drop V.l.length).set V.l.length (sb un c%4294967296)=P++[sb un c%4294967296]:=by
  rw[aAw hP oM,cK oM,dW]
 have hL1:=hLm.snoc (x:=sb un c%4294967296) (dG _ dC)
 refine⟨V.l.length,⟨U,aS _⟩,uC un,aGe hls (by rw[aEb hP,<-hun]),_,w0 (x:=un) oM,(sb un c:Nat),wsb oM,_,vF _,V.l.length,⟨U,aS _⟩,_,aKf hls hl1,p63,_,bBm _,⟨λhd=>vk ?_,λhd=>vk ?_⟩⟩
 ·have hd0:sb un c/9223372036854775808=0:=by replace hd:((sb un c/9223372036854775808:Nat):Int)=0:=hd;omega
  have hok:=bWd hpos hms2 huv (hsl.2.2.1 hd0) hq1
  have hsb2:sb un c%4294967296=un-c:=by have:=hsl.1;omega
  refine⟨_,bJf hdb,P++[sb un c%4294967296],⟨by simp[hP],hL1,?_⟩,kU ?_ rfl trivial bL aKd U aEe⟩
  ·rw[kO,hP,hsb2,<-hok.2]
  show(_:Int)=(_:Int)
  rw[hok.1]
 have hd0:sb un c/9223372036854775808≠0:=by replace hd:¬((sb un c/9223372036854775808:Nat):Int)=0:=hd;omega
 have hcu:¬c<=un:=λh=>hd0 (hsl.2.2.2 h)
 have hPlt:=kC hLm
 rw[hP] at hPlt
 have hbk:=bHn hpos hms2 huv oM hq2 hPlt (kC lmy)
 have hdq1:0<dq:=by rw[hbk.1];exact jU _
 have hdd:sb un c%4294967296+1=4294967296:=by have:=hsl.1;have:=hsl.2.1;have:=hbk.2.1;omega
 refine lJ (rn [(9,9),(15,16),(136,158)]) (λg:Nat×Nat×List Nat=>[(136,.c (iC g.1)),(9,.c (wC g.2.1))]) (λg=>aRc pre (g.2.2++(P++[sb un c%4294967296]).drop g.1) post) (λg=>g.1<=V.l.length/\g.2.2.length=g.1/\Lm g.2.2/\g.2.1<=1/\val g.2.2+4294967296^g.1*g.2.1=val (P.take g.1)+val (V.l.take g.1)) (λg=>V.l.length-g.1) (0,0,[]) ?_
 refine⟨⟨⟨aB _,U,Lm.nil,by decide,by simp[val]⟩,U,U,U⟩,λ⟨k,c2,P2⟩ ⟨hk2,hP2,hP2m,hc2,hbs⟩=>vk ⟨λh2=>vk ?_,λh2=>vk (vk ?_)⟩⟩
 all_goals simp only at hk2 hP2 hP2m hc2 hbs
 ·have hkl:k<V.l.length:=by replace h2:(k:Int)<(V.l.length:Nat):=h2;omega
  have hvk:=lmy.at hkl
  have hpk:=hLm.at (k:=k) oM
  have hkL:k<(P++[sb un c%4294967296]).length:=by simp;omega
  have hls2:k<(P2++(P++[sb un c%4294967296]).drop k).length:=by rw[aD,cP];omega
  have hgk:P.getD k U6=(P2++(P++[sb un c%4294967296]).drop k).getD k U6:=by
   rw[aEb hP2,aC,aC,aV oM]
  refine⟨k,⟨U,hkl⟩,k,⟨U,Uc⟩,uC (P.getD k U6),aGe hls2 hgk,_,w0 (x:=P.getD k U6) oM,_,w0 (x:=V.l.getD k U6) oM,_,wa oM,((c2+(P.getD k U6+V.l.getD k U6):Nat):Int),wa oM,_,vF _,k,⟨U,Uc⟩,_,aKf hls2 (aAw hP2 hkL),p32,_,xX _,(k+1:Nat),wi,(k+1,(c2+(P.getD k U6+V.l.getD k U6))/4294967296,P2++[(c2+(P.getD k U6+V.l.getD k U6))%4294967296]),⟨⟨hkl,by simp[hP2],hP2m.snoc (dG _ dC),by show _/_<=1;omega,?_⟩,by show _-(k+1)<_-k;omega⟩,U,U,U,U⟩
  show val (P2++[_])+_=val (P.take (k+1))+val (V.l.take (k+1))
  rw[dV (xs:=V.l) hkl,dV (xs:=P) oM];exact aWj hP2 hbs
 obtain rfl:k=V.l.length:=by replace h2:¬(k:Int)<(V.l.length:Nat):=h2;omega
 rw[cE oM,cE (aH _)] at hbs
 have hbf:=aYk hP2 hP2m hbs hbk.2.2 (sD (dG _ hpos) (kC lmy))
 have hkL:V.l.length<(P++[sb un c%4294967296]).length:=by simp;omega
 have hls2:V.l.length<(P2++(P++[sb un c%4294967296]).drop V.l.length).length:=by rw[aD,cP];omega
 have hl0:(P2++(P++[sb un c%4294967296]).drop V.l.length).set V.l.length 0=P2++[0]:=by
  rw[aAw hP2 hkL,cK (by simp;omega),dW]
 refine⟨V.l.length,⟨U,aS _⟩,uC (sb un c%4294967296),aGe hls2 (bBo hP2 hP U).symm,((1:Nat):Int),c32 (z:=c2) hbf.1.symm dC,((0:Nat):Int),aXf hdd,V.l.length,⟨U,aS _⟩,_,aKf hls2 hl0,(dq-1:Nat),wu (h:=⟨Uc,Uc,Uc⟩),_,bJf (z:=dq-1) oM,P2++[0],⟨by simp[hP2],hP2m.snoc dC,?_⟩,kU ?_ rfl trivial bL aKd U aEe⟩
 ·rw[kO,hbf.2];simp
 show(_:Int)=(_:Int)
 rw[hbk.1,fL]
section bits
open Go.RowKit Go.Shelf
def rho:Ren:=⟨λn=>if n=128 then 221 else if n=133 then 223 else 0,λn=>if n=3 then 3 else if n=4 then 4 else if n=5 then 5 else if n=9 then 9 else if n=46 then 185 else if n=51 then 98 else 0,λx=>x⟩
theorem bJh:Lays.n133 pgQ rho:=by
 constructor<;>first|kernel_rfl|(intro w;kernel_rfl)
theorem aTt:∀(f x:Nat),x<2^f->f<=64->x≠0->1<=Lib.bitLen x/\2^(Lib.bitLen x-1)<=x/\x<2^Lib.bitLen x
 |0,x,h,_,h0=>by simp at h;exact U4 h h0
 |f+1,x,h,hf,h0=>by
  have h64:x<2^64:=bM h (eB dC hf)
  rw[Lib.bitLen_half x h0 h64]
  by_cases h1:x/2=0
  ·have hx1:x=1:=Uc
   subst hx1
   decide
  have h2:x/2<2^f:=by rw[dJ] at h;omega
  obtain⟨g1,g2,g3⟩:=aTt f (x/2) h2 oM h1
  refine⟨Uc,?_,?_⟩
  ·have e:2^(1+Lib.bitLen (x/2)-1)=2^(Lib.bitLen (x/2)-1)*2:=by rw[<-dJ];congr 1;omega
   rw[e];omega
  rw[iD,dJ];omega
theorem aXg {x:Nat} (w:World) (h0:x≠0) (hx:x<4294967296):Calls pgQ 223 #[.int .u32 (x:Int)] w λe w'=>∃v,e= .returned v/\(∃s:Nat,v= .int .i64 (s:Int)/\s<=31/\2147483648<=x*2^s/\x*2^s<4294967296)/\w=w':=by
 refine(Any.bits_LeadingZeros32 bJh (x:Int) w oM oM).mono ?_
 rintro e w' ⟨rfl,rfl⟩
 obtain⟨g1,g2,g3⟩:=aTt 32 x hx dC h0
 rw[cN]
 have hb:Lib.bitLen x<=32:=by
  have h:2^(Lib.bitLen x-1)<2^32:=fB g2 hx
  have:=(Nat.pow_lt_pow_iff_right dC).1 h
  omega
 refine⟨_,U,⟨32-Lib.bitLen x,by congr 1;omega,Uc,?_,?_⟩,U⟩
 ·have e:(2147483648:Nat)=2^(Lib.bitLen x-1)*2^(32-Lib.bitLen x):=by rw[<-iW,show Lib.bitLen x-1+(32-Lib.bitLen x)=31 by omega]
  rw[e];exact aT _ g2
 have e:(4294967296:Nat)=2^Lib.bitLen x*2^(32-Lib.bitLen x):=by rw[<-iW,show Lib.bitLen x+(32-Lib.bitLen x)=32 by omega]
 rw[e];exact iN g3 (gN dC)
end bits
theorem bNb {x:Nat} (h0:x≠0) (hx:x<4294967296):Ctr pgQ 223 [] [.c (uC x)] [] (λs:Nat=>⟨.c (iC s),[],s<=31/\2147483648<=x*2^s/\x*2^s<4294967296⟩):=by
 refine⟨(eo func223),ClB.nil,λD w vals hv hD hF=>?_⟩
 match vals,hv with
 |[v1],⟨h2,_⟩=>
  have e1:=h2.inv_c.inv_v
  subst e1
  exact(aXg w h0 hx).mono λe w' ⟨v,he,⟨s,hv,hs⟩,hw⟩=>⟨v,he,s,D,hs,hD.ext (hw▸Ext.refl w),by rw[hv];exact .c (Rc.v _),ClB.nil,hF⟩
theorem bBp {D:Pl} {w w':World} {v:Value} {z:Int} (hD:DnW D w 0 [] D w) (hF:D.F=[]) (he:Ext w w') (h:v= .int .i64 z):
 ∃(g:Unit) (ρ':Pl),((λ_:Unit=>(⟨.c (iC z),[],True⟩:Out)) g).F.C/\DnW D w 0 ((λ_:Unit=>(⟨.c (iC z),[],True⟩:Out)) g).F.bl ρ' w'/\Hd ρ' 0 w' ((λ_:Unit=>(⟨.c (iC z),[],True⟩:Out)) g).F.d v/\ClB [] ((λ_:Unit=>(⟨.c (iC z),[],True⟩:Out)) g).F.bl/\ρ'.F=((λ_:Unit=>(⟨.c (iC z),[],True⟩:Out)) g).F.fl:=by
 subst h
 exact⟨(),D,tV,hD.ext he,.c (Rc.v _),ClB.nil,hF⟩
theorem bJi {Ub V L:List Nat} {A:Option Addr} {c j m n:Nat} (hV:V.length=n) (hL:∀i,i<n->L.getD i U6=V.getD i U6) (hm:m=n+1) (hj:j+(n+1)<=Ub.length) (lU:Lm Ub) (lV:Lm V) (hn2:2<=n) (hnb:n<=35184372088832) (htop:2147483648<=V.getD (n-1) U6) (hq:val ((Ub.drop j).take (n+1))<val V*4294967296):
 CtrF pgQ 226 [true] [.c (.t 0 (j*1) m),.c (.r A n c 1 (λi=>[uC (L.getD i U6)]))] (wE Ub) [] (λmid:List Nat=>⟨.c (uC (val ((Ub.drop j).take (n+1))/val V)),wE (Ub.take j++mid++Ub.drop (j+(n+1))),[],mid.length=n+1/\Lm mid/\val mid=val ((Ub.drop j).take (n+1))%val V⟩):=by
 subst hV hm
 have e:Ub.take j++(Ub.drop j).take (V.length+1)++Ub.drop (j+(V.length+1))=Ub:=by rw[cW,<-sY,dT,dT]
 have hl:(Ub.take j).length=j:=by rw[bI];omega
 have h:=bJg (Ub.take j) ((Ub.drop j).take (V.length+1)) (Ub.drop (j+(V.length+1))) ⟨A,c,V⟩ (by show _=V.length+1;simp;omega) ((lU.drop _).take _) lV hn2 hnb htop hq
 rw[hl] at h
 simp only[aRc,e] at h
 exact h.arg λD n w=>HL.cons (λv hv=>hv) (HL.cons (λv hv=> .c (LeC.get (λi hi=>by rw[hL i hi]) D n w v hv.inv_c)) λvl h=>h)
abbrev dlB (u q:List Nat):BL:=[(98,1,u.map uC),(98,1,q.map uC)]
theorem cBm {u:List Nat} {m:Nat}:[((98,1,u.map uC):TypeId×Nat×List CV),(98,1,List.replicate m (.v (.int .u32 0)))]=dlB u (List.replicate m 0):=U5 (λl=>[((98,1,u.map uC):TypeId×Nat×List CV),(98,1,l)]) (zF m)
theorem bJj (x y:Sl Nat) (hx:Lm x.l) (hy:Lm y.l) (hn:x.l.length<=17592186044416) (hn2:2<=y.l.length) (htz:y.l.getD (y.l.length-1) U6≠0) (hyx:y.l.length<=x.l.length):Ctr pgQ 206 [] [.c (eI x),.c (eI y)] [] (λg:Sl Nat×Sl Nat=>⟨.t [.c (eI g.1),.c (eI g.2)],[],g.1.l=dB (val x.l/val y.l)/\g.2.l=dB (val x.l%val y.l)⟩):=by
 have htl:=hy.at (k:=y.l.length-1) oM
 refine cw func206 (⟨(y.l.length-1:Nat),wi (h:=⟨Uc,Uc,Uc⟩),y.l.length-1,⟨U,Uc⟩,[],bNb htz htl,U,U,U,λsh ⟨hs,hz1,hz2⟩=>?_⟩)
 refine⟨[],aRb y (sh:=sh) hy oM hs,U,U,U,λv ⟨hvl,hvm,hvv⟩=>⟨y.l.length,⟨U,Uc⟩,[],aGd x (sh:=sh) hx hn hs,U,U,U,λL ⟨hLl,hLm,hLv⟩=>?_⟩⟩
 have hVb:=aYq hy hs hn2 U U hz1 hz2
 have hLvv:val (v.l.take y.l.length)=val y.l*2^sh:=by rw[aNf oM (by rw[hvv];exact hVb.2)];exact hvv
 have lmv:=hvm.take y.l.length
 obtain⟨Lv,hLv'⟩:∃l,l=v.l.take y.l.length:=⟨_,U⟩
 rw[<-hLv'] at hLvv lmv
 have hLvl:Lv.length=y.l.length:=by rw[hLv',bI];omega
 rw[<-hLvv] at hVb
 have htopv:=bHs (n:=y.l.length) oM hLvl lmv hVb.1
 have hget:∀i,i<y.l.length->v.l.getD i U6=Lv.getD i U6:=λi hi=>by
  rw[hLv',gd oM,gd (by rw[bI];omega),List.getElem_take]
 obtain⟨dg,hdg⟩:∃d,d+y.l.length=x.l.length+1:=⟨x.l.length+1-y.l.length,Uc⟩
 have hVp:0<val Lv:=bM (jM dC (gN dC)) hVb.1
 refine⟨(dg:Nat),wi (h:=⟨by show(dg:Int)=((x.l.length+1:Nat):Int)-((y.l.length:Nat):Int);omega,by show _<=((x.l.length+1:Nat):Int)-((y.l.length:Nat):Int);omega,by show((x.l.length+1:Nat):Int)-((y.l.length:Nat):Int)<=_;omega⟩),dg,⟨U,U,show 4*dg<=_ by omega,by simp only[maxLen];omega⟩,?_⟩
 refine lJ (rn [(11,12),(36,55)]) (λg:Nat×List Nat×List Nat=>[(36,.c (iC g.1))]) (λg=>dlB g.2.1 (List.replicate (dg-g.1) 0++g.2.2)) (λg=>g.1<=dg/\g.2.1.length=x.l.length+1/\Lm g.2.1/\g.2.2.length=g.1/\Lm g.2.2/\val x.l*2^sh=val g.2.1+val Lv*(4294967296^(dg-g.1)*val g.2.2)/\val (g.2.1.drop (dg-g.1))<val Lv) (λg=>dg-g.1) (0,L,[]) ?_
 refine⟨⟨⟨aB _,hLl,hLm,U,Lm.nil,by rw[hLv];simp[val],?_⟩,?_,U⟩,λ⟨k,u,Q⟩ ⟨hk,hul,lmu,hQl,hQm,hinv,hrem⟩=>vk ⟨λh1=>vk ?_,λh1=>vk ?_⟩⟩
 ·show val (L.drop (dg-0))<_
  rw[Nat.sub_zero,show dg=x.l.length+1-y.l.length by omega]
  exact aQg hLl hLm hLv (kC hx) hs hyx oM hVb.1
 ·exact cBm.trans (U5 (dlB L) (dW _).symm)
 all_goals simp only at hk hul lmu hQl hQm hinv hrem
 ·replace h1:(k:Int)<(dg:Nat):=h1
  obtain⟨j,hj⟩:∃j,dg-k=j+1:=⟨dg-k-1,Uc⟩
  have hj1:dg-(k+1)=j:=Uc
  rw[hj] at hinv hrem
  have hwin:=aYo lmu oM hVb.2 hrem
  have hfl:j<(List.replicate (dg-k) 0++Q).length:=by simp;omega
  have hz:(List.replicate (dg-k) 0++Q).set j (val ((u.drop j).take (y.l.length+1))/val Lv)=List.replicate j 0++(val ((u.drop j).take (y.l.length+1))/val Lv::Q):=by rw[hj];exact bWe
  refine⟨(dg:Int)-1,wi,(j:Nat),wi (h:=⟨Uc,Uc,Uc⟩),(j+y.l.length:Nat),wi,(j+y.l.length+1:Nat),wi,j,j+y.l.length+1,⟨⟨U,U⟩,Uc,by show _<=x.l.length+1;omega,by show(x.l.length+1)*1<=(u.map uC).length;rw[aK];omega⟩,[0],bJi (Ub:=u) (V:=Lv) (L:=v.l) (A:=v.A) (c:=v.c) (n:=y.l.length) hLvl hget oM oM lmu lmv hn2 oM htopv hwin.1,U,U,U,λmid ⟨hml,lmm,hmv⟩=>?_⟩
  have hnx:=aWn (u:=u) (mid:=mid) (Q:=Q) (j:=j) (n:=y.l.length) (A:=val x.l*2^sh) oM hml hwin.2 U hmv hVp hinv
  have hql:val ((u.drop j).take (y.l.length+1))/val Lv<4294967296:=(fO hVp).2 (by rw[bP];exact hwin.1)
  refine⟨j,⟨U,by show j<dg;omega,xY hfl⟩,_,uK hfl hz,(k+1:Nat),wi,(k+1,u.take j++mid++u.drop (j+(y.l.length+1)),val ((u.drop j).take (y.l.length+1))/val Lv::Q),⟨⟨by show k+1<=dg;omega,hnx.2.2.trans hul,((lmu.take _).append lmm).append (lmu.drop _),by show(_::Q).length=k+1;rw[eG,hQl],λz hz=>?_,?_,?_⟩,by show dg-(k+1)<dg-k;omega⟩,U,?_,U⟩
  ·rcases bW.1 hz with rfl|hz
   ·exact hql
   exact hQm z hz
  ·show _=_+val Lv*(4294967296^(dg-(k+1))*_)
   rw[hj1];exact hnx.1
  ·show val (List.drop (dg-(k+1)) _)<_
   rw[hj1];exact hnx.2.1
  exact U5 (λi=>dlB (u.take j++mid++u.drop (j+(y.l.length+1))) (List.replicate i 0++(val ((u.drop j).take (y.l.length+1))/val Lv::Q))) hj1.symm
 replace h1:¬(k:Int)<(dg:Nat):=h1
 have hk0:dg-k=0:=Uc
 rw[hk0,mM,iX] at hinv
 rw[hk0,mF] at hrem
 have hfin:=aYp (a:=val x.l) (b:=val y.l) (s:=sh) U hLvv hinv hrem
 have hut:val (u.take y.l.length)=val u:=aNf oM (sD hrem hVb.2)
 have hQd:dg=Q.length:=Uc
 have hrq:List.replicate (dg-k) 0++Q=Q:=by rw[hk0];rfl
 obtain⟨ut,hut'⟩:∃l,l=u.take y.l.length:=⟨_,U⟩
 have htk:ut.map uC=(u.map uC).take y.l.length:=by rw[hut',uP]
 have htn:y.l.length=ut.length:=by rw[hut',bI];omega
 have htm:Lm ut:=by rw[hut'];exact lmu.take _
 rw[<-hut'] at hut
 clear hut'
 show Sd _ _ _ _ _ _
 refine bWq tSd 0 y.l.length U bL ?_
 rw[<-htk,hrq]
 obtain⟨o1,o2,o3⟩:=wF htn htm
 obtain⟨q1,q2,q3⟩:=wF hQd hQm
 refine vk ⟨y.l.length,⟨U,Nat.le_of_eq o1⟩,some (λj=>[uC (ut.getD j U6)]),⟨⟨aB _,dO⟩,o1,o2,o3⟩,λAA cc _ _=>?_⟩
 rw[htn]
 refine⟨aBl Q,[],bRc ⟨AA,cc,ut⟩ (sh:=sh) htm (by show ut.length<=_;omega) hs,U,U,U,λr hr=>⟨some (λj=>[uC (Q.getD j U6)]),⟨⟨aB _,dO⟩,q1,q2,q3⟩,λA2 c2 _ _=>?_⟩⟩
 rw[hQd]
 refine⟨aBl [],[],kL ⟨A2,c2,Q⟩ hQm (by show Q.length<=_;omega),U,U,U,λq hq=>⟨(q,r),⟨?_,?_⟩,aI ⟨U,U⟩ U tV⟩⟩
 ·show q.l=_
  rw[<-hfin.1];exact hq
 show r.l=_
 rw[<-hfin.2,<-hut];exact hr
theorem aTu {n:Nat} {l:List Nat} (e:l=dB n) (h:l.length=1):l.getD 0 U6=n/\n<4294967296:=by
 subst e
 have e:=aAs n
 have hl:=aJb n
 generalize dB n=l at*
 match l,h with
 |[d],_=>
  have:=hl d (by simp)
  simp[val] at e
  exact⟨by simp[e],Uc⟩
theorem bBq {n:Nat} {l:List Nat} (e:l=dB n) (h:0<l.length):l.getD (l.length-1) U6≠0:=by
 subst e;exact(bHi n).resolve_left oM
theorem bBr (x y:Sl Nat) (hx:Lm x.l) (hy:Lm y.l) (hn:x.l.length<=17592186044416) (hm:y.l.length<=17592186044416):Ctr pgQ 175 [] [.c (eI x),.c (eI y)] [] (λg:Sl Nat×Sl Nat=>⟨.t [.c (eI g.1),.c (eI g.2),pC (val y.l≠0)],[],g.1.l=dB (val x.l/val y.l)/\g.2.l=dB (aHg (val x.l) (val y.l))⟩):=by
 refine cw func175 (⟨[],kL x hx oM,U,U,U,λX hX=>⟨[],kL y hy oM,U,U,U,λY hY=>?_⟩⟩)
 obtain⟨a,ha⟩:∃a,a=val x.l:=⟨_,U⟩
 obtain⟨b,hb⟩:∃b,b=val y.l:=⟨_,U⟩
 have hXn:=dZ hx
 have hYn:=dZ hy
 replace hX:X.l=dB (val x.l):=hX
 replace hY:Y.l=dB (val y.l):=hY
 simp only[<-ha,<-hb] at*
 obtain⟨lX,vX⟩:=dg hX
 obtain⟨lY,vY⟩:=dg hY
 unfold len at hXn hYn
 rw[<-hX] at hXn
 rw[<-hY] at hYn
 have hlb:=oH (n:=b)
 unfold len at hlb
 rw[<-hY] at hlb
 refine⟨λh=>vk ?_,λh=>vk ?_⟩
 ·have hy0:b=0:=hlb.1 (by replace h:((Y.l.length:Nat):Int)=0:=h;omega)
  subst hy0
  refine⟨(cG,cG),⟨?_,?_⟩,aI ⟨⟨U,U,U⟩,⟨U,U,U⟩,ff λh=>h U⟩ U tV⟩
  ·show []=dB _
   rw[Nat.div_zero];rfl
  show []=dB _
  rfl
 have hy0:b≠0:=λh0=>h (by show((Y.l.length:Nat):Int)=0;have:=hlb.2 h0;omega)
 have hmz:aHg a b=a%b:=U2 hy0
 have hlab:b<=a->Y.l.length<=X.l.length:=λh=>by rw[hX,hY];exact fR h
 refine⟨[],wD X Y lX lY oM oM,U,U,U,λ_ _=>⟨λh=>vk ?_,λh=>vk ?_⟩⟩
 ·have hlt:a<b:=by have:=qT.1 h;omega
  refine⟨[],aBo X lX oM,U,U,U,λr hr=>⟨(cG,r),⟨?_,?_⟩,aI ⟨⟨U,U,U⟩,U,tt hy0⟩ U tV⟩⟩
  ·show []=dB _
   rw[iI hlt];rfl
  show r.l=_
  rw[hmz,cM hlt,<-vX];exact hr
 have hge:b<=a:=by
  rcases eE a b with h'|h'
  ·exact U4 (qT.2 oM) h
  exact h'
 have hlen:=hlab hge
 refine⟨λh=>vk ?_,λh=>vk ?_⟩
 ·replace h:((X.l.length:Nat):Int)<=2:=h
  have hx64:a<18446744073709551616:=by rw[<-vX];exact aHy lX oM
  have hd:=iE a b
  have hd2:=Nat.mod_le a b
  have hnz:(b:Int)≠0:=Uc
  refine⟨[],aBn X lX oM,U,U,U,λ_ _=>⟨[],aBn Y lY oM,U,U,U,λ_ _=>?_⟩⟩
  rw[vX,vY]
  refine⟨.seq [(0,false),(1,false),(2,false),(4,false),(5,false),(6,false),(3,false),(7,false),(8,false),(9,false),(10,false)],U0,hnz,_,aRa hx64,hnz,[],oJ oM,U,U,U,λg1 h1=>⟨[],oJ (n:=a%b) oM,U,U,U,λg2 h2=>⟨(g1,g2),⟨h1,by rw[hmz];exact h2⟩,aI ⟨U,U,tt hy0⟩ U tV⟩⟩⟩
 replace h:¬((X.l.length:Nat):Int)<=2:=h
 refine⟨λh1=>vk ?_,λh1=>vk ?_⟩
 ·replace h1:((Y.l.length:Nat):Int)=1:=h1
  obtain⟨o1,o2⟩:=aTu hY oM
  refine⟨0,⟨U,Uc⟩,[],bRd (d:=Y.l.getD 0 U6) X lX oM oM oM,U,U,U,λg ⟨h1,h2⟩=>⟨g,⟨?_,?_⟩,aI ⟨U,U,tt hy0⟩ U tV⟩⟩
  ·rw[<-vX,<-o1];exact h1
  rw[hmz,<-vX,<-o1];exact h2
 replace h1:¬((Y.l.length:Nat):Int)=1:=h1
 have hy1:0<Y.l.length:=by rcases cL Y.l.length with h|h;exact U4 (hlb.1 h) hy0;exact h
 refine⟨[],bJj X Y lX lY oM oM (bBq hY hy1) hlen,U,U,U,λg ⟨h1,h2⟩=>⟨g,⟨?_,?_⟩,aI ⟨U,U,tt hy0⟩ U tV⟩⟩
 ·rw[<-vX,<-vY];exact h1
 rw[hmz,<-vX,<-vY];exact h2
abbrev bWx (x:Sl Nat):BL:=[(49,0,[eI x])]
theorem aKg (x:Sl Nat) {i:Nat} (hx:Lm x.l) (hi:i<=9223372036854775807):Ctr pgQ 234 [true] [.c (iC i),.c (.p 0 0)] (bWx x) (λ_:Unit=>⟨.c (wC (dig x.l i)),bWx x,True⟩):=by
 refine gA gT (eo func234) func234 U U U bL (eW U) (vk ⟨λh=>vk ?_,λh=>vk ?_⟩)
 ·replace h:(i:Int)<(x.l.length:Nat):=h
  refine⟨i,⟨U,oM⟩,_,w0 (x:=x.l.getD i U6) (by have:=hx.at (k:=i) oM;omega),(),tV,aI ?_ rfl ⟨rS,tV⟩⟩
  show(_:Int)=(_:Int)
  rw[tO oM]
 replace h:¬(i:Int)<(x.l.length:Nat):=h
 refine⟨(),tV,aI ?_ rfl ⟨rS,tV⟩⟩
 show(0:Int)=(_:Int)
 rw[zV oM];rfl
theorem orW {c x s:Nat} (hc:c<2^s) (hb:x*2^s+c<18446744073709551616):((x*2^s+c:Nat):Int)=IntKind.u64.wrap ((BitVec.ofInt IntKind.u64.bits ((x*2^s:Nat):Int)|||BitVec.ofInt IntKind.u64.bits (c:Int)).toNat:Int):=bWv (by rw[Nat.or_comm,aYm hc,iD]) oM oM hb
theorem bBs (x:Sl Nat) {n sh:Nat} (hx:Lm x.l) (hs:sh<=31) (hn3:3<=n) (hln:x.l.length<=n) (hnb:n<=35184372088832) (htop:dig x.l (n-1)*2^sh<4294967296):Ctr pgQ 224 [] [.c (eI x),.c (iC n),.c (iC sh)] [] (λ_:Unit=>⟨.c (wC (val x.l/(4294967296^(n-3)*2^(32-sh)))),[],val x.l/(4294967296^(n-3)*2^(32-sh))<18446744073709551616⟩):=by
 have hd1:=uH hx (n-1)
 have hd2:=uH hx (n-2)
 have hd3:=uH hx (n-3)
 have hfit:=bHu hs htop hd2 hd3
 have hwin:=bHt hx hn3 hln hs
 refine cw func224 (⟨.seq [(0,false),(1,false),(2,false),(5,false),(6,false),(7,false),(10,false),(12,false),(13,false),(14,false),(16,false),(17,false),(3,true),(4,false),(8,true),(9,false),(11,false),(15,true),(18,false),(19,false),(20,false)],U0,(n-1:Nat),wi (h:=⟨Uc,Uc,Uc⟩),(n-2:Nat),wi (h:=⟨Uc,Uc,Uc⟩),(n-3:Nat),wi (h:=⟨Uc,Uc,Uc⟩),(32-sh:Nat),wi (h:=⟨Uc,Uc,Uc⟩),_,U,[0],aKg x hx oM,U,U,U,λ_ _=>⟨p32,_,aGa hd1,_,U,[0],aKg x hx oM,U,U,U,λ_ _=>⟨_,aQz hd1 hd2,nn,_,bWu oM hfit.2.1,_,U,[0],aKg x hx oM,U,U,U,λ_ _=>⟨nn,_,bWw oM,_,orW hfit.2.2 hfit.1,(),by rw[hwin];exact hfit.1,aI ?_ rfl tV⟩⟩⟩⟩)
 show(_:Int)=(_:Int)
 rw[hwin]
def cBn:List CV:=[.v (.int .u64 0),.v (.int .u64 0),.v (.int .u64 0),.v (.int .u64 0),.b (false=true) inferInstance]
structure Cof where
 a0:Nat
 a1:Nat
 b0:Nat
 b1:Nat
 e:Bool
noncomputable def Cof.C (q:Cof):List CV:=[wC q.a0,wC q.a1,wC q.b0,wC q.b1,.b (q.e=true) (Classical.propDecidable _)]
structure CofOk (q:Cof) (A B:Nat):Prop where
 l0:q.a0<18446744073709551616
 l1:q.a1<18446744073709551616
 l2:q.b0<18446744073709551616
 l3:q.b1<18446744073709551616
 f:q.b0≠0->(q.e=true->q.b0*B<=q.a0*A/\q.a1*A<=q.b1*B/\Nat.gcd (q.a0*A-q.b0*B) (q.b1*B-q.a1*A)=Nat.gcd A B/\q.b1*B-q.a1*A<q.a0*A-q.b0*B/\q.a0*A-q.b0*B<=B)/\
  (q.e=false->q.a0*A<=q.b0*B/\q.b1*B<=q.a1*A/\Nat.gcd (q.b0*B-q.a0*A) (q.a1*A-q.b1*B)=Nat.gcd A B/\q.a1*A-q.b1*B<q.b0*B-q.a0*A/\q.b0*B-q.a0*A<=B)
noncomputable abbrev leG (p r u0 u1 u2 v0 v1 v2:Nat) (e:Bool):List (Nat×DV):=[(15,pC (e=true)),(14,.c (wC v2)),(13,.c (wC v1)),(12,.c (wC v0)),(11,.c (wC u2)),(10,.c (wC u1)),(9,.c (wC u0)),(8,.c (wC r)),(7,.c (wC p))]
structure LeI (A B h X Y p r u0 u1 u2 v0 v1 v2:Nat) (e:Bool):Prop where
 L:Leh A B h X Y p r u0 u1 u2 v0 v1 v2 e
 p:p<18446744073709551616
 a:u0<18446744073709551616
 b:u1<18446744073709551616
 c:u2<18446744073709551616
 d:v0<18446744073709551616
 f:v1<18446744073709551616
 g:v2<18446744073709551616
structure LeS where
 p:Nat
 r:Nat
 u0:Nat
 u1:Nat
 u2:Nat
 v0:Nat
 v1:Nat
 v2:Nat
 e:Bool
theorem bJk (x y:Sl Nat) (hx:Lm x.l) (hy:Lm y.l) (hn:x.l.length<=35184372088832) (hl3:3<=x.l.length) (htz:x.l.getD (x.l.length-1) U6≠0) (hyx:y.l.length<=x.l.length) (hle:val y.l<=val x.l):Ctr pgQ 203 [] [.c (eI x),.c (eI y)] [] (λq:Cof=>⟨.a q.C,[],CofOk q (val x.l) (val y.l)⟩):=by
 have htl:=hx.at (k:=x.l.length-1) oM
 refine cw func203 (⟨(x.l.length-1:Nat),wi (h:=⟨Uc,Uc,Uc⟩),x.l.length-1,⟨U,Uc⟩,[],bNb htz htl,U,U,U,λsh ⟨hs,hz1,hz2⟩=>?_⟩)
 have htx:dig x.l (x.l.length-1)*2^sh<4294967296:=by rw[tO oM];exact hz2
 have hty:dig y.l (x.l.length-1)*2^sh<4294967296:=fB (aT _ (aYs hx hy oM (aH _) hyx hle)) htx
 obtain⟨H,hH⟩:∃z,z=4294967296^(x.l.length-3)*2^(32-sh):=⟨_,U⟩
 have hhp:0<H:=by rw[hH];exact jM (gN dC) (gN dC)
 have c1:=bBs x hx hs hl3 (aH _) hn htx
 have c2:=bBs y hy hs hl3 hyx hn hty
 rw[<-hH] at c1 c2
 refine⟨[],c1,U,U,U,λ_ hX64=>⟨[],c2,U,U,U,λ_ hY64=>?_⟩⟩
 replace hX64:val x.l/H<18446744073709551616:=hX64
 have z64:(0:Nat)<18446744073709551616:=by decide
 have o64:(1:Nat)<18446744073709551616:=by decide
 refine lJ (rn [(7,16),(33,67)]) (λg:LeS=>leG g.p g.r g.u0 g.u1 g.u2 g.v0 g.v1 g.v2 g.e) (λ_=>[(212,0,cBn)]) (λg=>LeI (val x.l) (val y.l) H (val x.l/H) (val y.l/H) g.p g.r g.u0 g.u1 g.u2 g.v0 g.v1 g.v2 g.e) (λg=>g.r) ⟨val x.l/H,val y.l/H,0,1,0,0,0,1,false⟩ ?_
 refine⟨⟨⟨Leh.start hhp hle,hX64,z64,o64,z64,z64,z64,o64⟩,U,⟨λh=>(by cases h),λh=>(by cases h)⟩,U,U,U,U,U,U,U,U⟩,λ⟨p,r,u0,u1,u2,v0,v1,v2,e⟩ ⟨hL,hp,ha,hb,hc,hd,hf,hg⟩=>vk ?_⟩
 simp only at hL hp ha hb hc hd hf hg
 have hpos:=hL.pos
 have hyx2:=hL.yx
 have hbd:1<=r->v1+v2<18446744073709551616:=λh=>by have:=(hL.bounds h).1;omega
 refine⟨(p-r:Nat),λh=>wu (z:=(p:Int)-(r:Int)) (h:=⟨Uc,Uc,Uc⟩),(v1+v2:Nat),λh=>wa (x:=v1) (y:=v2) (by have:=hbd (by replace h:(v2:Int)<=(r:Nat):=h;omega);omega),⟨λhc1=>vk ?_,λhc1=>vk (vk ?_)⟩⟩
 ·obtain⟨k1,k2⟩:=hc1
  replace k1:(v2:Int)<=(r:Nat):=k1
  replace k2:((v1+v2:Nat):Int)<=((p-r:Nat):Int):=k2
  have hst:=hL.step oM oM
  have hr1:1<=r:=Uc
  have hrz:(r:Int)≠0:=Uc
  have hY:val y.l/H<=val x.l/H:=rC hle
  have hq1:=hst.2.2.1
  have hq2:=hst.2.2.2
  refine⟨hrz,(p/r:Nat),aRa (a:=p) (b:=r) hp,.seq [(0,false),(1,false),(2,false),(3,false),(4,false),(5,false)],U0,hrz,_,wm (x:=p/r) (y:=u2) oM,_,wa (x:=u1) (y:=p/r*u2) oM,_,wm (x:=p/r) (y:=v2) oM,_,wa (x:=v1) (y:=p/r*v2) oM,⟨r,p%r,u1,u2,u1+p/r*u2,v1,v2,v1+p/r*v2,!e⟩,⟨⟨hst.1,by show r<_;omega,hb,hc,by show _+_<_;omega,hf,hg,by show _+_<_;omega⟩,hst.2.1⟩,U,U,⟨?_,U,U,U,U,U,U,?_,U⟩⟩
  ·show ¬(e=true)↔(!e)=true
   cases e<;>simp
  show(_:Int).tmod (_:Int)=(_:Int)
  rfl
 exact⟨⟨u0,u1,v0,v1,e⟩,⟨ha,hb,hd,hf,λh=>hL.fin h⟩,aI U U tV⟩
theorem aEf (x y:Sl Nat) {c d:Nat} (hx:Lm x.l) (hy:Lm y.l) (hn:x.l.length<=17592186044416) (hm:y.l.length<=17592186044416) (hc:c<18446744073709551616) (hd:d<18446744073709551616):Ctr pgQ 204 [] [.c (eI x),.c (wC c),.c (eI y),.c (wC d)] [] (aDz (val x.l*c-val y.l*d)):=by
 refine cw func204 (⟨[],oJ hc,U,U,U,λC hC=>?_⟩)
 replace hC:C.l=dB c:=hC
 obtain⟨lC,vC⟩:=dg hC
 have h1:=rV.1 hc
 rw[<-fD,<-hC] at h1
 refine⟨[],aBp x C hx lC hn oM,U,U,U,λp hp=>⟨[],oJ hd,U,U,U,λU7 hD=>?_⟩⟩
 replace hD:U7.l=dB d:=hD
 obtain⟨lD,vD⟩:=dg hD
 have h2:=rV.1 hd
 rw[<-fD,<-hD] at h2
 refine⟨[],aBp y U7 hy lD hm oM,U,U,U,λq hq=>?_⟩
 replace hp:p.l=dB (val x.l*val C.l):=hp
 replace hq:q.l=dB (val y.l*val U7.l):=hq
 obtain⟨lp,vp⟩:=dg hp
 obtain⟨lq,vq⟩:=dg hq
 have h3:=nF (val x.l) (val C.l)
 have h4:=nF (val y.l) (val U7.l)
 simp only[<-fD] at h3 h4
 rw[<-hp] at h3
 rw[<-hq] at h4
 have h5:=dZ hx
 have h6:=dZ hy
 have h7:=dZ lC
 have h8:=dZ lD
 unfold len at h5 h6 h7 h8
 refine⟨[],aKe p q lp lq oM oM,U,U,U,λg hg=>⟨g,?_,aI U U tV⟩⟩
 replace hg:g.l=dB (val p.l-val q.l):=hg
 show g.l=_
 rw[hg,vp,vq,vC,vD]
abbrev gcG (g:Nat×Nat×Sl Nat×Sl Nat):List (Nat×DV):=[(0,.c (eI g.2.2.1)),(1,.c (eI g.2.2.2))]
structure GcI (A B:Nat) (g:Nat×Nat×Sl Nat×Sl Nat):Prop where
 fa:g.2.2.1.l=dB g.1
 fb:g.2.2.2.l=dB g.2.1
 le:g.2.1<=g.1
 fg:Nat.gcd g.1 g.2.1=Nat.gcd A B
 ln:(dB g.1).length<=17592186044416
theorem bRe (x y:Sl Nat) (hx:Lm x.l) (hy:Lm y.l) (hn:x.l.length<=17592186044416) (hm:y.l.length<=17592186044416):Ctr pgQ 174 [] [.c (eI x),.c (eI y)] [] (aDz (Nat.gcd (val x.l) (val y.l))):=by
 refine cw func174 (⟨[],kL x hx oM,U,U,U,λX hX=>⟨[],kL y hy oM,U,U,U,λY hY=>?_⟩⟩)
 have hXn:=dZ hx
 have hYn:=dZ hy
 replace hX:X.l=dB (val x.l):=hX
 replace hY:Y.l=dB (val y.l):=hY
 obtain⟨lX,vX⟩:=dg hX
 obtain⟨lY,vY⟩:=dg hY
 unfold len at hXn hYn
 have hXl:X.l.length<=17592186044416:=by rw[hX];omega
 have hYl:Y.l.length<=17592186044416:=by rw[hY];omega
 refine⟨[],wD X Y lX lY oM oM,U,U,U,λ_ _=>?_⟩
 refine vjn (λ_=>true) gcG (λ_=>[]) (GcI (val x.l) (val y.l)) ?_
 refine⟨⟨λh=>vk ⟨(val y.l,val x.l,Y,X),⟨hY,hX,?_,jV _ _,by show(dB (val y.l)).length<=_;omega⟩,U,U,U,U⟩,λh=>vk ⟨(val x.l,val y.l,X,Y),⟨hX,hY,?_,U,by show(dB (val x.l)).length<=_;omega⟩,U,U,U,U⟩⟩,λg0 hg0=>?_⟩
 ·have h:=qT.1 h
  rw[vX,vY] at h
  show val x.l<=val y.l
  omega
 ·show val y.l<=val x.l
  rcases eE (val x.l) (val y.l) with h'|h'
  ·exact U4 (qT.2 (by rw[vX,vY];omega)) h
  exact h'
 clear hX hY lX lY vX vY hXn hYn hXl hYl
 refine bBe (rn [(0,1),(4,10),(21,83)]) 0 gcG (λ_=>[]) (GcI (val x.l) (val y.l)) (λg=>g.2.1) g0 (λ_=>U) bL (λ_=>aU) (λ_=>U) ?_
 refine⟨⟨U,hg0,tV,U,U⟩,λ⟨a,b,A,B⟩ ⟨hA,hB,hba,hg,hla⟩=>vk ⟨λh1=>vk ?_,λh1=>vk (vk ?_)⟩⟩
 all_goals
  simp only at hA hB hba hg hla
  obtain⟨lA,vA⟩:=dg hA
  obtain⟨lB,vB⟩:=dg hB
  have hlb:=oH (n:=b)
  unfold len at hlb
  rw[<-hB] at hlb
  rw[<-hA] at hla
 ·replace h1:(0:Int)<(B.l.length:Nat):=h1
  have hb0:b≠0:=λh=>by have:=hlb.2 h;omega
  have hlen:B.l.length<=A.l.length:=by rw[hA,hB];exact fR hba
  refine⟨λh2=>vk ?_,λh2=>vk ?_⟩
  ·replace h2:((A.l.length:Nat):Int)<=2:=h2
   have ha64:val A.l<18446744073709551616:=aHy lA oM
   refine⟨[],aBn A lA oM,U,U,U,λ_ _=>⟨[],aBn B lB oM,U,U,U,λ_ _=>?_⟩⟩
   refine lJ (rn [(5,6),(31,36)]) (λg:Nat×Nat=>[(5,.c (wC g.1)),(6,.c (wC g.2))]) (λ_=>[]) (λg=>Nat.gcd g.1 g.2=Nat.gcd (val x.l) (val y.l)/\g.1<18446744073709551616/\g.2<18446744073709551616) (λg=>g.2) (val A.l,val B.l) ?_
   refine⟨⟨⟨by rw[vA,vB];exact hg,ha64,by show val B.l<_;omega⟩,U,U,U⟩,λ⟨c,d⟩ ⟨hcd,hc,hd⟩=>vk ⟨λh3=>vk ?_,λh3=>vk (vk ?_)⟩⟩
   all_goals simp only at hcd hc hd
   ·replace h3:(d:Int)≠0:=h3
    have hlt:=dG c (show 0<d by omega)
    refine⟨.seq [(0,false),(1,false),(2,false),(3,false),(4,false),(5,false)],U0,h3,(d,c%d),⟨⟨?_,hd,by show c%d<_;omega⟩,hlt⟩,U,U,U,?_⟩
    ·show Nat.gcd d (c%d)=_
     rw[<-hcd,jV,<-yY,jV]
    show(_:Int).tmod (_:Int)=(_:Int)
    rfl
   obtain rfl:d=0:=by
    replace h3:¬(d:Int)≠0:=h3
    omega
   rw[oW] at hcd
   refine⟨[],oJ hc,U,U,U,λg hg=>⟨g,?_,aI U U tV⟩⟩
   show g.l=_
   rw[<-hcd];exact hg
  replace h2:¬((A.l.length:Nat):Int)<=2:=h2
  refine⟨[],bJk A B lA lB oM oM (bBq hA oM) hlen (by rw[vA,vB];exact hba),U,U,U,λq hq=>?_⟩
  replace hq:CofOk q (val A.l) (val B.l):=hq
  rw[vA,vB] at hq
  refine⟨λh3=>vk ?_,λh3=>vk ?_⟩
  ·refine⟨[],bBr A B lA lB hla oM,U,U,U,λ⟨Q,R⟩ ⟨_,hR⟩=>?_⟩
   replace hR:R.l=dB (aHg (val A.l) (val B.l)):=hR
   rw[vA,vB,show aHg a b=a%b from U2 hb0] at hR
   refine⟨(b,a%b,B,R),⟨⟨hB,hR,eT (dG _ oM),?_,by show(dB b).length<=_;rw[<-hB];omega⟩,dG _ oM⟩,U,tV,U,U⟩
   show Nat.gcd b (a%b)=_
   rw[<-hg,jV,<-yY,jV]
  have hf:=hq.f λh=>h3 (by show((q.b0:Nat):Int)=0;omega)
  have key:∀(m n:Nat) (G H:Sl Nat),Nat.gcd m n=Nat.gcd a b->n<m->m<=b->G.l=dB m->H.l=dB n->GcI (val x.l) (val y.l) (m,n,G,H)/\n<b:=λm n G H e1 e2 e3 e4 e5=>⟨⟨e4,e5,eT e2,e1.trans hg,by have:=fR e3;unfold len at this;show(dB m).length<=_;rw[<-hB] at this;omega⟩,Uc⟩
  refine⟨λh4=>vk ?_,λh4=>vk ?_⟩
  ·obtain⟨f1,f2,f3,f4,f5⟩:=hf.1 h4
   refine⟨.seq [(0,false),(1,false),(2,false),(3,false),(4,false),(5,false),(7,false),(8,false),(9,false),(10,false),(11,false),(12,false),(6,false),(13,true),(14,false),(15,false)],U0,[],aEf A B lA lB hla oM hq.l0 hq.l2,U,U,U,λG hG=>⟨[],aEf B A lB lA oM hla hq.l3 hq.l1,U,U,U,λH hH=>⟨(_,_,G,H),key _ _ G H f3 f4 f5 ?_ ?_,U,tV,U,U⟩⟩⟩
   ·replace hG:G.l=dB (val A.l*q.a0-val B.l*q.b0):=hG
    rw[hG,vA,vB,bP a,bP b]
   replace hH:H.l=dB (val B.l*q.b1-val A.l*q.a1):=hH
   rw[hH,vA,vB,bP a,bP b]
  obtain⟨f1,f2,f3,f4,f5⟩:=hf.2 (by replace h4:¬q.e=true:=h4;simpa using h4)
  refine⟨.seq [(0,false),(1,false),(2,false),(3,false),(4,false),(5,false),(7,false),(8,false),(9,false),(10,false),(11,false),(12,false),(6,false),(13,true),(14,false),(15,false)],U0,[],aEf B A lB lA oM hla hq.l2 hq.l0,U,U,U,λG hG=>⟨[],aEf A B lA lB hla oM hq.l1 hq.l3,U,U,U,λH hH=>⟨(_,_,G,H),key _ _ G H f3 f4 f5 ?_ ?_,U,tV,U,U⟩⟩⟩
  ·replace hG:G.l=dB (val B.l*q.b0-val A.l*q.a0):=hG
   rw[hG,vA,vB,bP a,bP b]
  replace hH:H.l=dB (val A.l*q.a1-val B.l*q.b1):=hH
  rw[hH,vA,vB,bP a,bP b]
 replace h1:¬(0:Int)<(B.l.length:Nat):=h1
 have hb0:b=0:=hlb.1 oM
 rw[hb0,oW] at hg
 refine⟨[],aBo A lA oM,U,U,U,λg hg'=>⟨g,?_,aI U U tV⟩⟩
 show g.l=_
 rw[<-hg,<-vA];exact hg'
structure IntM where
 p:Prop
 d:Decidable p
 m:Sl Nat
def IntM.C (i:IntM):List CV:=[.b i.p i.d,eI i.m]
open Classical in
noncomputable def sg (p:Prop) (n:Nat):Int:=if p then-(n:Int) else n
structure In (i:IntM) (v:Int) (B:Nat):Prop where
 lm:Lm i.m.l
 ln:i.m.l.length<=B
 v:sg i.p (val i.m.l)=v
def Ci (i:IntM) (v:Int):Prop:=(i.p↔v<0)/\i.m.l=dB v.natAbs
abbrev zR (v:Int):IntM->Out:=λg=>⟨.a g.C,[],Ci g v⟩
theorem lW {p:Prop} {n:Nat} (h:p):sg p n=-(n:Int):=U3 h
theorem lZ {p:Prop} {n:Nat} (h:¬p):sg p n=n:=U2 h
theorem aGf {p:Prop} {n:Nat}:(sg p n).natAbs=n:=by
 by_cases h:p
 ·rw[lW h];omega
 rw[lZ h];omega
theorem aKh {p:Prop} {n:Nat}:sg p n<0↔p/\0<n:=by
 by_cases h:p
 ·rw[lW h];exact⟨λ_=>⟨h,Uc⟩,λh=>Uc⟩
 rw[lZ h];exact⟨λh=>Uc,λh2=>U4 h2.1 h⟩
theorem Ci.in {i:IntM} {v:Int} {B:Nat} (h:Ci i v) (hb:len v.natAbs<=B):In i v B:=by
 obtain⟨lX,vX⟩:=dg h.2
 refine⟨lX,by rw[h.2];exact hb,?_⟩
 rw[vX]
 by_cases hp:i.p
 ·rw[lW hp];have:=h.1.1 hp;omega
 rw[lZ hp];have:¬v<0:=λhv=>hp (h.1.2 hv);omega
theorem In.abs {i:IntM} {v:Int} {B:Nat} (h:In i v B):val i.m.l=v.natAbs:=by rw[<-h.v,aGf]
theorem In.len {i:IntM} {v:Int} {B:Nat} (h:In i v B):len v.natAbs<=B:=by rw[<-h.abs];exact aJ (dZ h.lm) h.ln
theorem In.le {i:IntM} {v:Int} {B B':Nat} (h:In i v B) (hb:B<=B':=by omega):In i v B':=⟨h.lm,aJ h.ln hb,h.v⟩
theorem aTv {n:Nat}:0<len n↔0<n:=by have:=oH (n:=n);omega
theorem oQ (p:Prop) {hp:Decidable p} (m:Sl Nat) (hm:Lm m.l) (hn:m.l.length<=35184372088832):Ctr pgQ 106 [] [.c (.b p hp),.c (eI m)] [] (zR (sg p (val m.l))):=by
 refine cw func106 (⟨[],oF m hm hn,U,U,U,λX hX=>?_⟩)
 replace hX:X.l=dB (val m.l):=hX
 refine⟨⟨p/\(0:Int)<(X.l.length:Nat),inferInstance,X⟩,⟨?_,?_⟩,aI U U tV⟩
 ·show(p/\(0:Int)<(X.l.length:Nat))↔_
  rw[aKh,hX,fD]
  have:=aTv (n:=val m.l)
  constructor
  ·rintro⟨h1,h2⟩;exact⟨h1,this.1 oM⟩
  rintro⟨h1,h2⟩;exact⟨h1,by have:=this.2 h2;omega⟩
 show X.l=_
 rw[aGf];exact hX
theorem aKi (i:IntM) {v:Int} (h:In i v 35184372088832):Ctr pgQ 102 [] [.a i.C] [] (zR v):=by
 refine cw func102 (⟨[],oQ i.p i.m h.lm h.ln,U,U,U,λg hg=>⟨g,?_,aI U U tV⟩⟩)
 rw[<-h.v];exact hg
theorem aCp (i:IntM) {v:Int} (h:In i v 35184372088832):Ctr pgQ 105 [] [.a i.C] [] (zR (-v)):=by
 refine cw func105 (⟨[],oQ (¬i.p) i.m h.lm h.ln,U,U,U,λg hg=>⟨g,?_,aI U U tV⟩⟩)
 have e:sg (¬i.p) (val i.m.l)=-v:=by
  rw[<-h.v]
  by_cases hp:i.p
  ·rw[lW hp,lZ (λh=>h hp)];omega
  rw[lZ hp,lW hp]
 rw[<-e];exact hg
theorem bRf (i:IntM) {v:Int} (h:In i v 35184372088832):Ctr pgQ 154 [] [.a i.C] [] (zR v.natAbs):=by
 refine cw func154 (⟨[],oQ (false=true) i.m h.lm h.ln,U,U,U,λg hg=>⟨g,?_,aI U U tV⟩⟩)
 rw[<-h.abs,<-lZ (p:=false=true) dC];exact hg
theorem bBt {p q:Prop} {m n:Nat} (h:p↔q):sg p m+sg q n=sg p (m+n):=by
 by_cases hp:p
 ·rw[lW hp,lW (h.1 hp),lW hp];omega
 rw[lZ hp,lZ (λhq=>hp (h.2 hq)),lZ hp];omega
theorem aKj {p q:Prop} {m n:Nat} (h:¬(p↔q)) (hmn:n<=m):sg p m+sg q n=sg p (m-n):=by
 by_cases hp:p
 ·rw[lW hp,lZ (λhq=>h ⟨λ_=>hq,λ_=>hp⟩),lW hp];omega
 have hq:q:=aN λhq=>h ⟨λh=>U4 h hp,λh=>U4 h hq⟩
 rw[lZ hp,lW hq,lZ hp];omega
theorem bBu {p q:Prop} {m n:Nat}:sg p m*sg q n=sg (¬(p↔q)) (m*n):=by
 by_cases hp:p<;>by_cases hq:q
 ·rw[lW hp,lW hq,lZ (λh=>h ⟨λ_=>hq,λ_=>hp⟩),Int.neg_mul_neg,gQ]
 ·rw[lW hp,lZ hq,lW (λh=>hq (h.1 hp)),yS,gQ]
 ·rw[lZ hp,lW hq,lW (λh=>hp (h.2 hq)),yU,gQ]
 rw[lZ hp,lZ hq,lZ (λh=>h ⟨λh=>U4 h hp,λh=>U4 h hq⟩),gQ]
theorem dgl {X:Sl Nat} {n B:Nat} (h:X.l=dB n) (hb:len n<=B):X.l.length<=B:=by rw[h];exact hb
theorem aTw (m n:Nat):len (m-n)<=len m:=fR (mN m n)
theorem zH {z:Int} (hz:-9223372036854775808<=z/\z<=9223372036854775807):Ctr pgQ 57 [] [.c (iC z)] [] (zR z):=by
 refine cw func57 (⟨λh=>vk ?_,λh=>vk ?_⟩)
 ·have hl:=rV (n:=z.natAbs)
  refine⟨z+1,wi,0-(z+1),wi,((-(z+1)).toNat:Nat),wu,(z.natAbs:Nat),wu,[],aKb (n:=z.natAbs) oM,U,U,U,λg hg=>?_⟩
  replace hg:g.l=dB z.natAbs:=hg
  obtain⟨lg,vg⟩:=dg hg
  refine⟨[],oQ (true=true) g lg (dgl hg oM),U,U,U,λi hi=>⟨i,?_,aI U U tV⟩⟩
  have e:sg (true=true) (val g.l)=z:=by rw[lW U,vg];omega
  rw[<-e];exact hi
 have hl:=rV (n:=z.natAbs)
 refine⟨(z.natAbs:Nat),wu,[],aKb (n:=z.natAbs) oM,U,U,U,λg hg=>?_⟩
 replace hg:g.l=dB z.natAbs:=hg
 obtain⟨lg,vg⟩:=dg hg
 refine⟨[],oQ (false=true) g lg (dgl hg oM),U,U,U,λi hi=>⟨i,?_,aI U U tV⟩⟩
 have e:sg (false=true) (val g.l)=z:=by rw[lZ dC,vg];omega
 rw[<-e];exact hi
def sgn (z:Int):Int:=if z<0 then-1 else if z=0 then 0 else 1
theorem aTx (i:IntM) {v:Int} (h:In i v 35184372088832):Ctr pgQ 101 [] [.a i.C] [] (λ_:Unit=>⟨.c (iC (sgn v)),[],True⟩):=by
 refine cw func101 (⟨[],aKi i h,U,U,U,λg hg=>⟨λh1=>vk ?_,λh1=>vk ⟨λh2=>vk ?_,λh2=>vk ?_⟩⟩⟩)
 all_goals replace hg:Ci g v:=hg
 ·exact⟨(),tV,aI (show(-1:Int)=_ by unfold sgn;rw[U3 (hg.1.1 h1)]) U tV⟩
 all_goals
  have h3:¬v<0:=λh=>h1 (hg.1.2 h)
  have h4:=oH (n:=v.natAbs)
  rw[hg.2,fD] at h2
 ·exact⟨(),tV,aI (show(0:Int)=_ by unfold sgn;rw[U2 h3,U3 oM]) U tV⟩
 exact⟨(),tV,aI (show(1:Int)=_ by unfold sgn;rw[U2 h3,U2 oM]) U tV⟩
theorem aKk (i j:IntM) {a b:Int} (hi:In i a 17592186044416) (hj:In j b 17592186044416):Ctr pgQ 124 [] [.a i.C,.a j.C] [] (zR (a+b)):=by
 have hli:=hi.ln
 have hlj:=hj.ln
 have hla:len (val i.m.l)<=17592186044416:=by rw[hi.abs];exact hi.len
 have hlb:len (val j.m.l)<=17592186044416:=by rw[hj.abs];exact hj.len
 refine cw func124 (⟨λh=>vk ?_,λh=>vk ?_⟩)
 ·refine⟨.seq [(0,false),(1,false),(2,false),(3,false),(4,false),(5,false),(6,false),(7,false),(8,true)],U0,[],bBi i.m j.m hi.lm hj.lm hli hlj,U,U,U,λg hg=>?_⟩
  replace hg:g.l=dB (val i.m.l+val j.m.l):=hg
  obtain⟨lg,vg⟩:=dg hg
  have:=aAt (val i.m.l) (val j.m.l)
  refine⟨[],oQ i.p g lg (dgl hg oM),U,U,U,λr hr=>⟨r,?_,aI U U tV⟩⟩
  rw[<-hi.v,<-hj.v,bBt h,<-vg];exact hr
 refine⟨[],bBj i.m j.m hi.lm hj.lm hli hlj,U,U,U,λg hg=>⟨λh1=>vk ?_,λh1=>vk ?_⟩⟩
 ·replace hg:g.l=dB (val i.m.l-val j.m.l):=hg
  obtain⟨lg,vg⟩:=dg hg
  have:=aTw (val i.m.l) (val j.m.l)
  refine⟨[],oQ i.p g lg (dgl hg oM),U,U,U,λr hr=>⟨r,?_,aI U U tV⟩⟩
  rw[<-hi.v,<-hj.v,aKj h h1,<-vg];exact hr
 refine⟨[],bBj j.m i.m hj.lm hi.lm hlj hli,U,U,U,λg hg=>?_⟩
 replace hg:g.l=dB (val j.m.l-val i.m.l):=hg
 obtain⟨lg,vg⟩:=dg hg
 have:=aTw (val j.m.l) (val i.m.l)
 refine⟨[],oQ j.p g lg (dgl hg oM),U,U,U,λr hr=>⟨r,?_,aI U U tV⟩⟩
 rw[<-hi.v,<-hj.v,Int.add_comm,aKj (λh'=>h h'.symm) oM,<-vg];exact hr
theorem bRg (i j:IntM) {a b:Int} (hi:In i a 17592186044416) (hj:In j b 17592186044416):Ctr pgQ 155 [] [.a i.C,.a j.C] [] (zR (a-b)):=by
 refine cw func155 (⟨.seq [(0,false),(1,false),(2,false),(3,false),(4,true)],U0,[],aCp j hj.le,U,U,U,λg hg=>?_⟩)
 replace hg:Ci g (-b):=hg
 have hlb:=hj.len
 refine⟨[],aKk i g hi (hg.in (by rw[tB];exact hlb)),U,U,U,λr hr=>⟨r,?_,aI U U tV⟩⟩
 rw[Int.sub_eq_add_neg];exact hr
theorem aAd (i j:IntM) {a b:Int} (hi:In i a 17592186044416) (hj:In j b 17592186044416):Ctr pgQ 125 [] [.a i.C,.a j.C] [] (zR (a*b)):=by
 have hli:=hi.ln
 have hlj:=hj.ln
 have hla:len (val i.m.l)<=17592186044416:=by rw[hi.abs];exact hi.len
 have hlb:len (val j.m.l)<=17592186044416:=by rw[hj.abs];exact hj.len
 refine cw func125 (⟨.seq [(0,false),(1,false),(2,false),(3,false),(4,false),(5,false),(6,false),(7,false),(8,false),(9,false),(10,false),(11,true)],U0,[],bWp i.m j.m hi.lm hj.lm hli hlj,U,U,U,λg hg=>?_⟩)
 replace hg:g.l=dB (val i.m.l*val j.m.l):=hg
 obtain⟨lg,vg⟩:=dg hg
 have:=nF (val i.m.l) (val j.m.l)
 refine⟨[],oQ (¬(i.p↔j.p)) g lg (dgl hg oM),U,U,U,λr hr=>⟨r,?_,aI U U tV⟩⟩
 rw[<-hi.v,<-hj.v,bBu,<-vg];exact hr
theorem bBv (i j:IntM) {a b:Int} (hi:In i a 13194139533312) (hj:In j b 13194139533312):Ctr pgQ 103 [] [.a i.C,.a j.C] [] (zR (Int.gcd a b)):=by
 refine cw func103 (⟨[],bWt i.m j.m hi.lm hj.lm hi.ln hj.ln,U,U,U,λg hg=>?_⟩)
 replace hg:g.l=dB (Nat.gcd (val i.m.l) (val j.m.l)):=hg
 obtain⟨lg,vg⟩:=dg hg
 have hlg:len (Nat.gcd (val i.m.l) (val j.m.l))<=13194139533312:=by
  rcases cL (val i.m.l) with h0|h0
  ·rw[h0,Nat.gcd_zero_left,hj.abs];exact hj.len
  exact aJ (fR (Nat.le_of_dvd h0 (kA _ _))) (by rw[hi.abs];exact hi.len)
 refine⟨[],oQ (false=true) g lg (dgl hg oM),U,U,U,λr hr=>⟨r,?_,aI U U tV⟩⟩
 have e:sg (false=true) (val g.l)=(Int.gcd a b:Int):=by rw[lZ dC,vg,hi.abs,hj.abs];rfl
 rw[<-e];exact hr
theorem bRh {m n:Nat} (hn:n≠0):(m:Int)/(n:Int)=(m/n:Nat)/\(m:Int)%(n:Int)=(m%n:Nat):=⟨by rw[vO],by rw[Int.natCast_emod]⟩
theorem bBw {m n:Nat} (hn:n≠0):(-(m:Int))/(n:Int)=(if m%n=0 then-((m/n:Nat):Int) else-((m/n:Nat):Int)-1)/\(-(m:Int))%(n:Int)=if m%n=0 then 0 else (n:Int)-(m%n:Nat):=by
 have h1:=fG m n
 have h2:=dG m (Nat.pos_of_ne_zero hn)
 have h3:(n:Int)*((m/n:Nat):Int)+((m%n:Nat):Int)=m:=by rw[<-gQ,<-rK,h1]
 refine(Int.ediv_emod_unique oM).2 ?_
 split
 ·next h=>rw[h] at h3;rw[yU];omega
 next h=>rw[yQ,yU,yR];omega
theorem bJl {p q:Prop} {m n:Nat} (hn:n≠0) (h:¬(p/\0<m%n)):sg p m/sg q n=sg (¬(p↔q)) (m/n)/\sg p m%sg q n=sg p (m%n):=by
 obtain⟨a1,a2⟩:=bRh (m:=m) hn
 obtain⟨b1,b2⟩:=bBw (m:=m) hn
 by_cases hp:p<;>by_cases hq:q
 ·have hz:m%n=0:=by have:¬0<m%n:=λh0=>h ⟨hp,h0⟩
                    omega
  rw[U3 hz] at b1 b2
  rw[lW hp,lW hq,lZ (λh=>h ⟨λ_=>hq,λ_=>hp⟩),lW hp,Int.ediv_neg,Int.emod_neg,b1,b2,hz]
  omega
 ·have hz:m%n=0:=by have:¬0<m%n:=λh0=>h ⟨hp,h0⟩
                    omega
  rw[U3 hz] at b1 b2
  rw[lW hp,lZ hq,lW (λh=>hq (h.1 hp)),lW hp,b1,b2,hz]
  omega
 ·rw[lZ hp,lW hq,lW (λh=>hp (h.2 hq)),lZ hp,Int.ediv_neg,Int.emod_neg,a1,a2]
  exact⟨U,U⟩
 rw[lZ hp,lZ hq,lZ (λh=>h ⟨λh=>U4 h hp,λh=>U4 h hq⟩),lZ hp,a1,a2]
 exact⟨U,U⟩
theorem bJm {p q:Prop} {m n:Nat} (hn:n≠0) (hp:p) (h:0<m%n):sg p m/sg q n=sg (¬(p↔q)) (m/n)+sg (¬q) 1/\sg p m%sg q n=sg p (m%n)+n:=by
 obtain⟨b1,b2⟩:=bBw (m:=m) hn
 rw[U2 oM] at b1 b2
 by_cases hq:q
 ·rw[lW hp,lW hq,lZ (λh=>h ⟨λ_=>hq,λ_=>hp⟩),lW hp,lZ (λh=>h hq),Int.ediv_neg,Int.emod_neg,b1,b2]
  omega
 rw[lW hp,lZ hq,lW (λh=>hq (h.1 hp)),lW hp,lW hq,b1,b2]
 omega
theorem bRi {p:Prop} (h:p):(([]:List Key)=[]/\(([]:List Key)=[]/\([]:List Key)=[]/\([]:List Key)=[]/\([]:List Key)=[]/\p)/\([]:List Key)=[]/\([]:List Key)=[]/\([]:List Key)=[]/\([]:List Key)=[]/\p)/\([]:List Key)=[]/\([]:List Key)=[]/\([]:List Key)=[]/\([]:List Key)=[]/\([]:List Key)=[]/\p:=⟨⟨U,⟨U,U,U,U,h⟩,U,U,U,U,h⟩,U,U,U,U,U,h⟩
def oDM:Ord:=.treeX [] [] (tr2 0 (tr2 1 (trS [2,3,4]) 2 (trS [1,3,4])) 1 (trS [0,2,3,4]))
theorem zI (i j:IntM) {a b:Int} (hi:In i a 13194139533312) (hj:In j b 13194139533312) (hb:b≠0):Ctr pgQ 104 [] [.a i.C,.a j.C] [] (λg:IntM×IntM=>⟨.t [.a g.1.C,.a g.2.C,pC True],[],Ci g.1 (a/b)/\Ci g.2 (a%b)⟩):=by
 have hla:len (val i.m.l)<=13194139533312:=by rw[hi.abs];exact hi.len
 have hlb:len (val j.m.l)<=13194139533312:=by rw[hj.abs];exact hj.len
 have hb0:val j.m.l≠0:=by rw[hj.abs];omega
 refine cw func104 (⟨[],aOi i.m j.m hi.lm hj.lm hi.ln hj.ln,U,U,U,λ⟨Q,R⟩ ⟨hQ,hR⟩=>⟨λh=>U4 hb0 h,λh=>vk ?_⟩⟩)
 replace hQ:Q.l=dB (val i.m.l/val j.m.l):=hQ
 replace hR:R.l=dB (aHg (val i.m.l) (val j.m.l)):=hR
 rw[aHg,U2 hb0] at hR
 obtain⟨lQ,vQ⟩:=dg hQ
 obtain⟨lR,vR⟩:=dg hR
 have hlq:=fR (iE (val i.m.l) (val j.m.l))
 have hlr:=fR (Nat.mod_le (val i.m.l) (val j.m.l))
 have hlr2:=fR (eT (dG (val i.m.l) (Nat.pos_of_ne_zero hb0)))
 refine⟨.seq [(0,false),(1,false),(2,false),(3,false),(4,false),(5,false),(7,false),(8,false),(9,false),(6,false),(10,false),(11,true),(12,true)],U0,[],oQ (¬(i.p↔j.p)) Q lQ (dgl hQ oM),U,U,U,λq hq=>⟨[],oQ i.p R lR (dgl hR oM),U,U,U,λr hr=>⟨λh1=>vk ?_,λh1=>vk ?_⟩⟩⟩
 all_goals
  replace hq:Ci q (sg (¬(i.p↔j.p)) (val Q.l)):=hq
  replace hr:Ci r (sg i.p (val R.l)):=hr
  rw[vQ] at hq
  rw[vR] at hr
 ·have hn:=hr.1.1 h1
  rw[aKh] at hn
  obtain⟨e1,e2⟩:=bJm (q:=j.p) hb0 hn.1 hn.2
  rw[hi.v,hj.v] at e1 e2
  have hab:(b.natAbs:Int)=(val j.m.l:Nat):=by rw[hj.abs]
  refine⟨.seq [(0,false),(1,false),(2,false),(3,false),(4,true)],U0,[],bRf j hj.le,U,U,U,λab hab2=>⟨[],aKk r ab (hr.in (by rw[aGf];omega)) (Ci.in hab2 (by rw[dX,<-hj.abs];omega)),U,U,U,λr2 hr2=>?_⟩⟩
  replace hr2:Ci r2 (sg i.p (val i.m.l%val j.m.l)+b.natAbs):=hr2
  rw[hab,<-e2] at hr2
  have hq1:In q _ 17592186044416:=hq.in (by rw[aGf];omega)
  have l1:len (1:Int).natAbs<=17592186044416:=by decide
  refine⟨λh2=>vk ?_,λh2=>vk ?_⟩
  ·refine⟨.seq [(0,false),(1,false),(2,false),(3,true)],U0,[],zH (z:=1) dC,U,U,U,λone h1=>⟨[],aKk q one hq1 (Ci.in h1 l1),U,U,U,λq2 hq2=>⟨oDM,U0,bRi ⟨(q2,r2),⟨?_,hr2⟩,aI ⟨U,U,tt tV⟩ U tV⟩⟩⟩⟩
   rw[lZ (p:=¬j.p) (n:=1) (λh=>h h2)] at e1
   show Ci q2 _
   rw[e1];exact hq2
  refine⟨.seq [(0,false),(1,false),(2,false),(3,true)],U0,[],zH (z:=1) dC,U,U,U,λone h1=>⟨[],bRg q one hq1 (Ci.in h1 l1),U,U,U,λq2 hq2=>⟨oDM,U0,bRi ⟨(q2,r2),⟨?_,hr2⟩,aI ⟨U,U,tt tV⟩ U tV⟩⟩⟩⟩
  rw[lW (p:=¬j.p) (n:=1) h2] at e1
  show Ci q2 _
  rw[e1];exact hq2
 have hn:¬(i.p/\0<val i.m.l%val j.m.l):=λh=>h1 (hr.1.2 (aKh.2 h))
 obtain⟨e1,e2⟩:=bJl (q:=j.p) hb0 hn
 rw[hi.v,hj.v] at e1 e2
 refine⟨oDM,U0,bRi ⟨(q,r),⟨?_,?_⟩,aI ⟨U,U,tt tV⟩ U tV⟩⟩
 ·show Ci q _
  rw[e1];exact hq
 show Ci r _
 rw[e2];exact hr
end Go.Proofs.YtljcaaakbkneaaaGreat
namespace Go.Proofs.YtljcaaakbkneaaaGreat
open Go.Vg _root_.Go.Proofs.Tryz
open Go.Vm hiding sgn
open Go.Vy hiding val
theorem pB (p:Prop) {hp:Decidable p} (m:Sl Nat) {n:Nat} (hm:m.l=dB n):Ctr pgQ 176 [] [.c (.b p hp),.c (eI m)] [] (zR (sg p n)):=by
 refine cw func176 (⟨⟨p/\(0:Int)<(m.l.length:Nat),inferInstance,m⟩,⟨?_,?_⟩,aI U U tV⟩)
 ·show p/\(0:Int)<(m.l.length:Nat)↔_
  rw[aKh,hm]
  have:=aTv (n:=n)
  unfold len at this
  constructor
  ·rintro⟨h1,h2⟩;exact⟨h1,this.1 oM⟩
  rintro⟨h1,h2⟩;exact⟨h1,by have:=this.2 h2;omega⟩
 rw[aGf];exact hm
theorem bBx {p:Prop} {n:Nat}:sg (¬p) n=-sg p n:=by
 by_cases hp:p
 ·rw[lW hp,lZ (λh=>h hp)];omega
 rw[lZ hp,lW hp]
theorem bBy (i:IntM) {v:Int} (h:In i v 35184372088832):Ctr pgQ 172 [] [.a i.C] [] (zR v):=by
 refine cw func172 (⟨.seq [(0,false),(1,false),(2,false),(3,false),(4,false),(5,true),(6,true)],U0,[],aBo i.m h.lm h.ln,U,U,U,λm hm=>⟨[],pB i.p m hm,U,U,U,λg hg=>⟨g,?_,aI U U tV⟩⟩⟩)
 rw[<-h.v];exact hg
theorem bJn (i:IntM) {v:Int} (h:In i v 35184372088832):Ctr pgQ 186 [] [.a i.C] [] (zR (-v)):=by
 refine cw func186 (⟨.seq [(0,false),(1,false),(2,false),(3,false),(4,false),(5,false),(6,true),(7,true)],U0,[],aBo i.m h.lm h.ln,U,U,U,λm hm=>⟨[],pB (¬i.p) m hm,U,U,U,λg hg=>⟨g,?_,aI U U tV⟩⟩⟩)
 rw[<-h.v,<-bBx];exact hg
theorem aTy (x:Sl Nat) (hx:Lm x.l) (hn:x.l.length<=35184372088832):Ctr pgQ 161 [] [.c (eI x),.c (.v (.slice none 0 0))] [] (λ_:Unit=>⟨.c (iC (sN (val x.l) (0:Nat))),[],True⟩):=
 (wD x cG hx Lm.nil hn bL).arg λ_ _ _=>HL.cons (λ_ h=>h) (HL.cons (λv h=>Hd.nilr v h) λ_ h=>h)
theorem bBz {n:Nat}:sN (n:Int) (0:Nat)=0↔n=0:=by unfold sN;constructor<;>intro h<;>(repeat split at*)<;>omega
theorem aGg (i:IntM) {v:Int} (h:In i v 35184372088832):Ctr pgQ 112 [] [.a i.C] [] (λ_:Unit=>⟨.c (iC (sgn v)),[],True⟩):=by
 refine cw func112 (⟨[],aTy i.m h.lm h.ln,U,U,U,λ_ _=>⟨λh1=>vk ?_,λh1=>vk ⟨λh2=>vk ?_,λh2=>vk ?_⟩⟩⟩)
 all_goals
  have hv:=h.v
  have ha:=h.abs
  refine⟨(),tV,aI ?_ rfl tV⟩
 ·have:=bBz.1 h1
  show(0:Int)=_
  unfold sgn;rw[U2 oM,U3 oM]
 ·have h3:val i.m.l≠0:=λh=>h1 (bBz.2 h)
  rw[lW h2] at hv
  show(-1:Int)=_
  unfold sgn;rw[U3 oM]
 have h3:val i.m.l≠0:=λh=>h1 (bBz.2 h)
 rw[lZ h2] at hv
 show(1:Int)=_
 unfold sgn;rw[U2 oM,U2 oM]
theorem aTz (i j:IntM) {a b:Int} (hi:In i a 17592186044416) (hj:In j b 17592186044416):Ctr pgQ 177 [] [.a i.C,.a j.C] [] (zR (a+b)):=by
 have hli:=hi.ln
 have hlj:=hj.ln
 refine cw func177 (⟨λh=>vk ?_,λh=>vk ?_⟩)
 ·refine⟨.seq [(0,false),(1,false),(2,false),(3,false),(4,false),(5,false),(6,false),(7,true),(8,true)],U0,[],bJe i.m j.m hi.lm hj.lm hli hlj,U,U,U,λg hg=>⟨[],pB i.p g hg,U,U,U,λr hr=>⟨r,?_,aI U U tV⟩⟩⟩
  rw[<-hi.v,<-hj.v,bBt h];exact hr
 refine⟨[],aKe i.m j.m hi.lm hj.lm oM oM,U,U,U,λg hg=>⟨λh1=>vk ?_,λh1=>vk ?_⟩⟩
 ·refine⟨[],pB i.p g hg,U,U,U,λr hr=>⟨r,?_,aI U U tV⟩⟩
  rw[<-hi.v,<-hj.v,aKj h h1];exact hr
 refine⟨[],aKe j.m i.m hj.lm hi.lm oM oM,U,U,U,λg hg=>⟨[],pB j.p g hg,U,U,U,λr hr=>⟨r,?_,aI U U tV⟩⟩⟩
 rw[<-hi.v,<-hj.v,Int.add_comm,aKj (λh'=>h h'.symm) oM];exact hr
theorem aBq (i j:IntM) {a b:Int} (hi:In i a 17592186044416) (hj:In j b 17592186044416):Ctr pgQ 132 [] [.a i.C,.a j.C] [] (zR (a*b)):=by
 refine cw func132 (⟨.seq [(0,false),(1,false),(2,false),(3,false),(4,false),(5,false),(6,false),(7,false),(8,false),(9,false),(10,true),(11,true)],U0,[],aBp i.m j.m hi.lm hj.lm hi.ln hj.ln,U,U,U,λg hg=>⟨[],pB (¬(i.p↔j.p)) g hg,U,U,U,λr hr=>⟨r,?_,aI U U tV⟩⟩⟩)
 rw[<-hi.v,<-hj.v,bBu];exact hr
theorem bCa {z:Int} (hz:-9223372036854775808<=z/\z<=9223372036854775807):Ctr pgQ 130 [] [.c (iC z)] [] (zR z):=by
 refine cw func130 (⟨λh=>vk ?_,λh=>vk ?_⟩)
 ·refine⟨(18446744073709551616-z.natAbs:Nat),show _=_ by rw[IntKind.wrap_u64];omega,(z.natAbs:Nat),show _=_ by rw[IntKind.wrap_u64];omega,[],oJ (n:=z.natAbs) oM,U,U,U,λg hg=>⟨[],pB (true=true) g hg,U,U,U,λr hr=>⟨r,?_,aI U U tV⟩⟩⟩
  have e:sg (true=true) z.natAbs=z:=by rw[lW U];omega
  rw[<-e];exact hr
 refine⟨(z.natAbs:Nat),wu,[],oJ (n:=z.natAbs) oM,U,U,U,λg hg=>⟨[],pB (false=true) g hg,U,U,U,λr hr=>⟨r,?_,aI U U tV⟩⟩⟩
 have e:sg (false=true) z.natAbs=z:=by rw[lZ dC];omega
 rw[<-e];exact hr
end Go.Proofs.YtljcaaakbkneaaaGreat
namespace Go.Proofs.YtljcaaakbkneaaaGreat
open Go.Vg _root_.Go.Proofs.Tryz
open Go.Vm
open Go.Vy hiding val
structure RatM where
 n:IntM
 d:Sl Nat
def RatM.C (r:RatM):List CV:=[.b r.n.p r.n.d,eI r.n.m,eI r.d]
structure Rq (r:RatM) (q:Rat) (B:Nat):Prop where
 n:In r.n (sg r.n.p (val r.n.m.l)) B
 ld:Lm r.d.l
 bd:r.d.l.length<=B
 v:Rat.divInt (sg r.n.p (val r.n.m.l)) (val r.d.l)=q
def Cr (r:RatM) (q:Rat):Prop:=Ci r.n q.num/\r.d.l=dB q.den
abbrev rY (q:Rat):RatM->Out:=λg=>⟨.a g.C,[],Cr g q⟩
def rb (q:Rat) (B:Nat):Prop:=len q.num.natAbs<=B/\len q.den<=B
theorem Rq.rb {r:RatM} {q:Rat} {B:Nat} (h:Rq r q B) (hB:1<=B:=by decide):rb q B:=by
 have h1:=zZ (a:=sg r.n.p (val r.n.m.l)) (b:=(val r.d.l:Nat))
 have h2:=aAa (a:=sg r.n.p (val r.n.m.l)) (b:=(val r.d.l:Nat))
 rw[h.v] at h1 h2
 rw[dX] at h2
 have h3:=h.n.len
 have h4:=aJ (dZ h.ld) h.bd
 refine⟨aJ h1 h3,aJ h2 ?_⟩
 simp only[fD]
 omega
theorem Cr.rq {r:RatM} {q:Rat} {B:Nat} (h:Cr r q) (hb:Go.Proofs.YtljcaaakbkneaaaGreat.rb q B):Rq r q B:=by
 obtain⟨ld,vd⟩:=dg h.2
 have h1:=h.1.in hb.1
 refine⟨⟨h1.lm,h1.ln,U⟩,ld,by rw[h.2];exact hb.2,?_⟩
 rw[h1.v,vd,jC]
theorem Rq.le {r:RatM} {q:Rat} {B B':Nat} (h:Rq r q B) (hb:B<=B':=by omega):Rq r q B':=⟨h.n.le hb,h.ld,aJ h.bd hb,h.v⟩
theorem rb.le {q:Rat} {B B':Nat} (h:rb q B) (hb:B<=B':=by omega):rb q B':=⟨aJ h.1 hb,aJ h.2 hb⟩
theorem xZ:Ctr pgQ 19 [] [] [] (rY 0):=by
 have h0:Ctr pgQ 19 [] [] [] (λ_:Unit=>⟨.a [.b (false=true) inferInstance,.s 1 0,.s 2 1],[(53,0,[.b (false=true) inferInstance,.s 1 0,.s 2 1]),(98,1,[]),(98,1,[uC 1])],True⟩):=by
  refine cw func19 (?_)
  exact⟨(),tV,fH U ⟨U,U,U⟩ (aB _) (aA U (aA U (aA U aU))) U aDy⟩
 refine(CtrF.gt h0 λ_ _ _=>?_)
 refine bMw tGt 0 1 1 (λj=>[uC (([]:List Nat).getD j U6)]) U U U U (λj hj=>U4 hj (aF _)) U dO (λc hc=>by cases hc) (aB _) λA c _ _=>⟨aBl [1],?_⟩
 refine bMw tGt 0 2 2 (λj=>[uC ([1].getD j U6)]) U U U U (λj hj=>nG (x:=[1]) j hj) U dO (jN [1]) (aB _) λA2 c2 _ _=>⟨λc hc=>(by cases hc),?_⟩
 exact iP (M:=λ_=>true) (base:=[]) (chg:=λg:RatM=>[(0,.a g.C)]) (bls:=λ_=>[]) (fls:=λ_=>[]) (λt d ht=>by cases ht) ⟨⟨false=true,inferInstance,⟨A,c,[]⟩⟩,⟨A2,c2,[1]⟩⟩ ⟨⟨⟨⟨λh=>(by cases h),λh=>U4 (show(0:Int)<0 from h) dC⟩,U⟩,U⟩,aDy⟩ U trivial trivial U (aH _) (λi T es l hi=>by cases hi) U
theorem fT {z:Int}:sgn z=0↔z=0:=by unfold sgn;constructor<;>intro h<;>(repeat split at*)<;>omega
theorem bCb {n:Nat} (h:dB n=[1]):n=1:=by have:=U5 Vm.val h;rw[aAs] at this;exact this
theorem aUa {a b:Int} {B:Nat} (ha:len a.natAbs<=B) (hb:len b.natAbs<=B):len (Int.gcd a b:Int).natAbs<=B:=by
 rw[dX]
 rcases cL a.natAbs with h0|h0
 ·rw[Int.gcd,h0,Nat.gcd_zero_left];exact hb
 exact aJ (fR (Nat.le_of_dvd h0 (kA _ _))) ha
theorem aEg {a b:Int} {B:Nat} (ha:len a.natAbs<=B):len (a/b).natAbs<=B:=aJ (fR (tI a b)) ha
theorem wG (i j:IntM) {a b:Int} (hi:In i a 13194139533312) (hj:In j b 13194139533312):Ctr pgQ 56 [] [.a i.C,.a j.C] [] (rY (Rat.divInt a b)):=by
 have hla:=hi.len
 have hlb:=hj.len
 refine cw func56 (⟨[],aTx j hj.le,U,U,U,λ_ _=>⟨λh=>vk ?_,λh=>vk ?_⟩⟩)
 ·have hb:=fT.1 h
  refine⟨[],xZ,U,U,U,λg hg=>⟨g,?_,aI U U tV⟩⟩
  rw[hb,xE];exact hg
 have hb:b≠0:=λe=>h (fT.2 e)
 have hml:=aNg (zx:=a) hb
 have hg0:((Int.gcd a b:Nat):Int)≠0:=by have:=rM a hb;omega
 refine⟨[],aKi j hj.le,U,U,U,λg hg=>?_⟩
 replace hg:Ci g b:=hg
 refine⟨λhn=>?_,λhn=>?_⟩
 ·refine⟨some (λj=>[uC ([1].getD j U6)]),⟨⟨aB _,dO⟩,U,λj hj=>nG (x:=[1]) j hj,jN [1]⟩,λA c _ _=>⟨[],aKa g.m ⟨A,c,[1]⟩,U,U,U,λ_ _=>⟨λh1=>vk ?_,λh1=>vk ?_⟩⟩⟩
  ·have hb1:b=1:=by
    have e1:g.m.l=[1]:=h1
    have e2:dB b.natAbs=[1]:=hg.2▸e1
    have e3:=bCb e2
    have e4:¬b<0:=λh=>hn (hg.1.2 h)
    omega
   refine⟨.seq [(0,false),(2,false),(3,false),(1,false),(4,false),(5,true)],U0,[],aKi i hi.le,U,U,U,λx hx=>⟨⟨x,g.m⟩,?_,aI U U tV⟩⟩
   rw[hb1]
   refine⟨?_,?_⟩
   ·show Ci x _
    rw[(vT a).1];exact hx
   show g.m.l=_
   rw[(vT a).2];exact h1
  refine⟨[],bBv i j hi hj,U,U,U,λx hx=>?_⟩
  have hx1:=Ci.in (B:=13194139533312) hx (aUa hla hlb)
  refine⟨[],zI i x hi hx1 hg0,U,U,U,λ⟨q1,r1⟩ ⟨hq1,_⟩=>⟨[],zI j x hj hx1 hg0,U,U,U,λ⟨q2,r2⟩ ⟨hq2,_⟩=>⟨λh2=>vk ?_,λh2=>vk ?_⟩⟩⟩
  ·obtain⟨m1,m2⟩:=hml.1 (hq2.1.1 h2)
   refine⟨.seq [(0,false),(2,false),(1,false),(3,false),(4,true),(5,true)],U0,[],aCp q1 (v:=a/(Int.gcd a b:Int)) (Ci.in hq1 (aJ (aEg hla) dC)),U,U,U,λn1 hn1=>⟨[],aCp q2 (v:=b/(Int.gcd a b:Int)) (Ci.in hq2 (aJ (aEg hlb) dC)),U,U,U,λd1 hd1=>⟨⟨n1,d1.m⟩,⟨?_,?_⟩,aI U U tV⟩⟩⟩
   ·show Ci n1 _
    rw[m1];exact hn1
   show d1.m.l=_
   rw[m2];exact hd1.2
  obtain⟨m1,m2⟩:=hml.2 λh=>h2 (hq2.1.2 h)
  refine⟨⟨q1,q2.m⟩,⟨?_,?_⟩,aI U U tV⟩
  ·show Ci q1 _
   rw[m1];exact hq1
  show q2.m.l=_
  rw[m2];exact hq2.2
 refine⟨[],bBv i j hi hj,U,U,U,λx hx=>?_⟩
 have hx1:=Ci.in (B:=13194139533312) hx (aUa hla hlb)
 refine⟨[],zI i x hi hx1 hg0,U,U,U,λ⟨q1,r1⟩ ⟨hq1,_⟩=>⟨[],zI j x hj hx1 hg0,U,U,U,λ⟨q2,r2⟩ ⟨hq2,_⟩=>⟨λh2=>vk ?_,λh2=>vk ?_⟩⟩⟩
 ·obtain⟨m1,m2⟩:=hml.1 (hq2.1.1 h2)
  refine⟨.seq [(0,false),(2,false),(1,false),(3,false),(4,true),(5,true)],U0,[],aCp q1 (v:=a/(Int.gcd a b:Int)) (Ci.in hq1 (aJ (aEg hla) dC)),U,U,U,λn1 hn1=>⟨[],aCp q2 (v:=b/(Int.gcd a b:Int)) (Ci.in hq2 (aJ (aEg hlb) dC)),U,U,U,λd1 hd1=>⟨⟨n1,d1.m⟩,⟨?_,?_⟩,aI U U tV⟩⟩⟩
  ·show Ci n1 _
   rw[m1];exact hn1
  show d1.m.l=_
  rw[m2];exact hd1.2
 obtain⟨m1,m2⟩:=hml.2 λh=>h2 (hq2.1.2 h)
 refine⟨⟨q1,q2.m⟩,⟨?_,?_⟩,aI U U tV⟩
 ·show Ci q1 _
  rw[m1];exact hq1
 show q2.m.l=_
 rw[m2];exact hq2.2
end Go.Proofs.YtljcaaakbkneaaaGreat
