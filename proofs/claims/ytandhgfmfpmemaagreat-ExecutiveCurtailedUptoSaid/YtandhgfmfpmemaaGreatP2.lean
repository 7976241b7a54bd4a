/- ExecutiveCurtailed, second form: for arguments of bulk at most 1048576 the law returns true and the arguments read as before; no other condition. Part 2 of 7: Vyi Vyj Vyk Vyl Vym Vyn Vyo Vyp Tb. -/
import Derived.Laws.StructEq
import Derived.ChangeKeysEq
import Derived.KernelRfl
import Derived.Test.YtandhgfmfpmemaaGreatRows
import Derived.Test.YtandhgfmfpmemaaGreatP1
set_option linter.unusedVariables false
set_option linter.unusedSimpArgs false
namespace Go.Vy
open Go.Vg Go.RowKit
def renBs:List Bool→List Nat→BL→BL
 |_,_,[]=>[]
 |[],m,(T,es,l)::bl=>(T,es,l.map (renC m))::renBs [] m bl
 |true::cl,m,(T,es,l)::bl=>(T,es,l)::renBs cl m bl
 |false::cl,m,(T,es,l)::bl=>(T,es,l.map (renC m))::renBs cl m bl
theorem renBs_get:∀(cl:List Bool) (m:List Nat) (bl:BL) (j:Nat) (T:TypeId) (es:Nat) (l:List CV),bl[j]? =some (T,es,l)→(renBs cl m bl)[j]? =some (T,es,renB (cl[j]?) m l)
 |_,_,[],j,T,es,l,h=>by cases h
 |[],m,(T0,es0,l0)::bl,0,T,es,l,h=>by injection h with h;injection h with h1 h2;injection h2 with h2 h3;subst h1 h2 h3;rfl
 |[],m,(T0,es0,l0)::bl,j+1,T,es,l,h=>by
  have:=renBs_get [] m bl j T es l (by simpa using h)
  simpa[renBs] using this
 |c::cl,m,(T0,es0,l0)::bl,0,T,es,l,h=>by
  injection h with h;injection h with h1 h2;injection h2 with h2 h3;subst h1 h2 h3
  cases c<;>rfl
 |c::cl,m,(T0,es0,l0)::bl,j+1,T,es,l,h=>by
  have:=renBs_get cl m bl j T es l (by simpa using h)
  cases c<;>simpa[renBs] using this
theorem renBs_len:∀(cl:List Bool) (m:List Nat) (bl:BL),(renBs cl m bl).length=bl.length
 |_,_,[]=>by simp[renBs]
 |[],m,(T,es,l)::bl=>by simp[renBs,renBs_len [] m bl]
 |c::cl,m,(T,es,l)::bl=>by cases c<;>simp[renBs,renBs_len cl m bl]
def nodB:List Nat→Bool
 |[]=>true
 |i::l=>(l.all fun j=>!Nat.beq i j)&&nodB l
theorem nodB_ok:∀{m:List Nat},nodB m=true→∀(j j' i:Nat),m[j]? =some i→m[j']? =some i→j=j'
 |[],_,j,j',i,h,_=>by cases h
 |a::m,hn,j,j',i,h,h'=>by
  simp only[nodB,Bool.and_eq_true] at hn
  have hno:∀k:Nat,m[k]? =some a→False:=fun k hk=>by
   have:=List.all_eq_true.1 hn.1 a (List.mem_of_getElem? hk)
   rw[Nat.beq_refl] at this
   cases this
  cases j with
  |zero=>cases j' with
   |zero=>rfl
   |succ j'=>injection h with h;subst h;exact(hno j' (by simpa using h')).elim
  |succ j=>cases j' with
   |zero=>injection h' with h';subst h';exact(hno j (by simpa using h)).elim
   |succ j'=>rw[nodB_ok hn.2 j j' i (by simpa using h) (by simpa using h')]
def appK {α:Type}:List α→List α→(List α→Prop)→Prop
 |bl,[],k=>k bl
 |bl,x::xs,k=>snocK bl x fun bl'=>appK bl' xs k
theorem appK_ok {α:Type}:∀{bl xs:List α} {k:List α→Prop},appK bl xs k→k (bl++xs)
 |bl,[],k,h=>by rw[List.append_nil];exact h
 |bl,x::xs,k,h=>by
  have:=appK_ok (snocK_ok (show snocK bl x _ from h))
  rwa [List.append_assoc] at this
def aftK {α:Type}:List α→List Nat→List α→(List α→Prop)→Prop
 |bl,[],xs,k=>appK bl xs k
 |bl,i::m,x::xs,k=>setK bl i x fun bl'=>aftK bl' m xs k
 |_,_::_,[],_=>False
theorem aftK_ok {α:Type}:∀{m:List Nat} {bl xs:List α} {k:List α→Prop},aftK bl m xs k→nodB m=true→(∀i∈m,i<bl.length)→∃bl',k bl'∧m.length≤xs.length∧bl'.length=bl.length+(xs.length-m.length)∧
 (∀(j i:Nat),m[j]? =some i→bl'[i]? =xs[j]?)∧(∀i,i<bl.length→i∉m→bl'[i]? =bl[i]?)∧∀t,bl'[bl.length+t]? =xs[m.length+t]?
 |[],bl,xs,k,h,_,_=>by
  simp only[aftK] at h
  refine⟨bl++xs,appK_ok h,Nat.zero_le _,by simp,fun j i h=>?_,fun i hi _=>List.getElem?_append_left hi,fun t=>?_⟩
  ·cases h
  rw[List.getElem?_append_right oM]
  simp
 |i0::m,bl,[],k,h,_,_=>h.elim
 |i0::m,bl,x::xs,k,h,hn,hlt=>by
  simp only[nodB,Bool.and_eq_true] at hn
  have hno:i0∉m:=fun hm=>by
   have:=List.all_eq_true.1 hn.1 i0 hm
   rw[Nat.beq_refl] at this
   cases this
  obtain⟨bl',h1,h2,h3,h4,h5,h6⟩:=aftK_ok (setK_ok (show setK bl i0 x _ from h)) hn.2 (fun i hi=>by rw[List.length_set];exact hlt i (.tail _ hi))
  rw[List.length_set] at h3 h5 h6
  refine⟨bl',h1,Nat.succ_le_succ h2,by simp only[List.length_cons];omega,fun j i hj=>?_,fun i hi hm=>?_,fun t=>?_⟩
  ·cases j with
   |zero=>
    injection hj with hj
    subst hj
    rw[h5 _ (hlt _ (.head _)) hno,List.getElem?_set_self (hlt _ (.head _))]
    rfl
   |succ j=>rw[h4 j i (by simpa using hj)];rfl
  ·rw[h5 i hi (fun h=>hm (.tail _ h)),List.getElem?_set_ne (fun e=>hm (by subst e;exact .head _))]
  rw[h6 t]
  simp only[List.length_cons]
  rw[show m.length+1+t=(m.length+t)+1 by omega,List.getElem?_cons_succ]
def rangeF:Nat→Nat→List Nat
 |_,0=>[]
 |a,n+1=>a::rangeF (a+1) n
theorem rangeF_get:∀(a n t:Nat),t<n→(rangeF a n)[t]? =some (a+t)
 |a,n+1,0,_=>rfl
 |a,n+1,t+1,h=>by
  have:=rangeF_get (a+1) n t oM
  simp only[rangeF,List.getElem?_cons_succ,this]
  congr 1
  omega
def mext (m:List Nat) (bl xs:BL):List Nat:=m++rangeF (cnt bl 0) (xs.length-m.length)
def renCK (m:List Nat):CV→(CV→Prop)→Prop
 |.p j o,k=>(match m[j]? with
  |some i=>k (.p i o)
  |none=>k bad)
 |.s j n,k=>(match m[j]? with
  |some i=>k (.s i n)
  |none=>k bad)
 |.f q fi ca,k=>(match renP m fi,renP m ca with
  |some a,some b=>k (.f q a b)
  |_,_=>k bad)
 |.u,k=>k .u
 |.v x,k=>k (.v x)
 |.h A n c,k=>k (.h A n c)
 |.hp b o,k=>k (.hp b o)
 |.b p h,k=>k (.b p h)
 |.r A n c e g,k=>k (.r A n c e g)
 |.q A n c e g j o,k=>k (.q A n c e g j o)
theorem renCK_ok {m:List Nat} {c:CV} {k:CV→Prop} (h:renCK m c k):k (renC m c):=by
 cases c with
 |p j o=>
  simp only[renCK] at h
  simp only[renC]
  cases hj:m[j]? with
  |none=>simp only[hj] at h ⊢;exact h
  |some i=>simp only[hj] at h ⊢;exact h
 |s j n=>
  simp only[renCK] at h
  simp only[renC]
  cases hj:m[j]? with
  |none=>simp only[hj] at h ⊢;exact h
  |some i=>simp only[hj] at h ⊢;exact h
 |f q fi ca=>
  simp only[renCK] at h
  simp only[renC]
  cases hf:renP m fi with
  |none=>simp only[hf] at h ⊢;exact h
  |some a=>cases hc:renP m ca with
   |none=>simp only[hf,hc] at h ⊢;exact h
   |some b=>simp only[hf,hc] at h ⊢;exact h
 |_=>exact h
def renLK (m:List Nat):List CV→(List CV→Prop)→Prop
 |[],k=>k []
 |c::l,k=>renCK m c fun c'=>renLK m l fun r=>k (c'::r)
theorem renLK_ok {m:List Nat}:∀{l:List CV} {k:List CV→Prop},renLK m l k→k (l.map (renC m))
 |[],k,h=>h
 |c::l,k,h=>renLK_ok (l:=l) (renCK_ok (show renCK m c _ from h))
def renEK (m:List Nat):DV→(DV→Prop)→Prop
 |.c c,k=>renCK m c fun c'=>k (.c c')
 |.a l,k=>renLK m l fun r=>k (.a r)
 |.t l,k=>k (renD m (.t l))
theorem renEK_ok {m:List Nat} {d:DV} {k:DV→Prop} (h:renEK m d k):k (renD m d):=by
 cases d with
 |c c=>simp only[renD];exact renCK_ok (k:=fun c'=>k (.c c')) h
 |a l=>simp only[renD];exact renLK_ok (k:=fun r=>k (.a r)) h
 |t l=>exact h
def renTK (m:List Nat):List DV→(List DV→Prop)→Prop
 |[],k=>k []
 |d::l,k=>renEK m d fun d'=>renTK m l fun r=>k (d'::r)
theorem renTK_ok {m:List Nat}:∀{l:List DV} {k:List DV→Prop},renTK m l k→k (renD.renT m l)
 |[],k,h=>h
 |d::l,k,h=>renTK_ok (l:=l) (renEK_ok (show renEK m d _ from h))
def renDK (m:List Nat):DV→(DV→Prop)→Prop
 |.t l,k=>renTK m l fun r=>k (.t r)
 |d,k=>renEK m d k
theorem renDK_ok {m:List Nat} {d:DV} {k:DV→Prop} (h:renDK m d k):k (renD m d):=by
 cases d with
 |t l=>simp only[renD];exact renTK_ok (k:=fun r=>k (.t r)) h
 |c c=>exact renEK_ok (d:=.c c) h
 |a l=>exact renEK_ok (d:=.a l) h
def bm:List Nat→List Nat
 |[]=>[]
 |i::l=>bif Nat.ble 1000 i then bm l else i::bm l
def fm:List Nat→List Nat
 |[]=>[]
 |i::l=>bif Nat.ble 1000 i then (i-1000)::fm l else fm l
inductive callK (P:Program) (only:Bool) (s:SS) (q:Nat) (al:List DV) (k:SS→DV→Prop):Prop
 |mk (m:List Nat) {cl:List Bool} {al0:List DV} {bl0:BL} {fl0:List Fam} {σ:Type} {R:σ→OutF} (hc:CtrF P q cl al0 bl0 fl0 R) (h1:al=al0.map (renA (bm m))) (h2:((bm m).map (fun i=>s.bl[i]?),(fm m).map (fun i=>s.fl[i]?))=((renBs cl (bm m) bl0).map some,fl0.map some)) (h3:(nodB (bm m)&&(nodB (fm m)&&(!only||m.isEmpty)))=true)
  (h4:∀g,(R g).C→match s with
   |⟨sl,gl,bl,fl⟩=>aftK bl (bm m) (renBs cl (mext (bm m) bl (R g).bl) (R g).bl) fun bl'=>aftK fl (fm m) (R g).fl fun fl'=>renDK (mext (bm m) bl (R g).bl) (R g).d fun d'=>k ⟨sl,gl,bl',fl'⟩ d')
section
variable {P:Program} {only:Bool} {w0 w:World} {nb q:Nat} {s:SS} {ρ ρ0:Pl} {f:Nat→Value} {al:List DV} {k:SS→DV→Prop} {vals:List Value}
theorem call_ok (h:callK P only s q al k) (hD:Dn ρ0 w0 nb s ρ f w) (hv:HL ρ s.bl.length w al vals):
 Ent P q∧Calls P q vals.toArray w fun e w'=>∃v,e= .returned v∧∃s' d ρ',k s' d∧Dn ρ0 w0 nb s' ρ' f w'∧Hd ρ' s'.bl.length w' d v∧(only=true→Ext w w'):=by
 obtain @⟨m0,cl,al0,bl0,fl0,σ,R,hc,rfl,hget2,hmb,hk⟩:=h
 simp only[Bool.and_eq_true,Bool.or_eq_true,Bool.not_eq_true'] at hmb
 obtain⟨hnod,hnodf,honly⟩:=hmb
 obtain⟨sl,gl,bl,fl⟩:=s
 simp only at hget2 hk
 injection hget2 with hget hgetf
 have honly':only=true→bm m0=[]∧fm m0=[]:=fun ho=>by
  rcases honly with h|h
  ·rw[ho] at h;cases h
  have:m0=[]:=by simpa using h
  subst this
  exact⟨rfl,rfl⟩
 generalize bm m0=m at hnod hget hk honly' hv
 generalize fm m0=mf at hnodf hgetf hk honly'
 refine⟨hc.ent,?_⟩
 have hFl:ρ.F=fl:=hD.l
 have hmfl:mf.length=fl0.length:=by
  have:=congrArg List.length hgetf
  simpa using this
 have hmf:∀(j i:Nat),mf[j]? =some i→fl[i]? =fl0[j]?:=fun j i hj=>by
  have h1:(mf.map (fun i=>fl[i]?))[j]? =some (fl[i]?):=by rw[List.getElem?_map,hj];rfl
  rw[hgetf,List.getElem?_map] at h1
  have hlt:j<fl0.length:=by rw[←hmfl];exact get_lt hj
  rw[List.getElem?_eq_getElem hlt] at h1 ⊢
  injection h1 with h1
  exact h1.symm
 have hmfj:∀j,j<fl0.length→∃i,mf[j]? =some i:=fun j hj=>⟨_,List.getElem?_eq_getElem (by rw[hmfl];exact hj)⟩
 have hfin:∀F∈fl0,F∈fl:=fun F hF=>by
  obtain⟨j,hj⟩:=List.getElem?_of_mem hF
  obtain⟨i,hi⟩:=hmfj j (get_lt hj)
  exact List.mem_of_getElem? ((hmf j i hi).trans hj)
 have hinc:∀b,InL fl0 b→InL fl b:=fun b ⟨F,hF,h⟩=>⟨F,hfin F hF,h⟩
 have hml:m.length=bl0.length:=by
  have:=congrArg List.length hget
  simpa[renBs_len] using this
 --what is lent
 have hm:∀(j i:Nat),m[j]? =some i→∃T es l,bl0[j]? =some (T,es,l)∧bl[i]? =some (T,es,renB (cl[j]?) m l):=fun j i hj=>by
  have hlt:j<bl0.length:=by rw[←hml];exact get_lt hj
  refine⟨(bl0[j]).1,(bl0[j]).2.1,(bl0[j]).2.2,List.getElem?_eq_getElem hlt,?_⟩
  have h1:(m.map (fun i=>bl[i]?))[j]? =some (bl[i]?):=by rw[List.getElem?_map,hj];rfl
  rw[hget,List.getElem?_map,renBs_get cl m bl0 j _ _ _ (List.getElem?_eq_getElem hlt)] at h1
  injection h1 with h1
  exact h1.symm
 have hmlt:∀(j i:Nat),m[j]? =some i→i<bl.length:=fun j i hj=>by obtain⟨_,_,_,_,h⟩:=hm j i hj;exact get_lt h
 let ρc:Pl:=⟨fun j=>match m[j]? with|some i=>ρ i|none=>(none,0),fun b=>Zf ρ bl.length w b∨(w.heap.size≤b∨InL fl0 b),fl0⟩
 have hρc:∀(j i:Nat),m[j]? =some i→ρc j=ρ i:=fun j i hj=>by
  show(match m[j]? with|some i=>ρ i|none=>(none,0))=ρ i
  rw[hj]
 have hmj:∀j,j<bl0.length→∃i,m[j]? =some i:=fun j hj=>⟨_,List.getElem?_eq_getElem (by rw[hml];exact hj)⟩
 have rn:Rn m ρ bl.length ρc bl0.length w:=⟨fun j i hj _=>by rw[←hml];exact get_lt hj,hρc,fun b hb=>⟨hb.lt,fun j hj=>by
  obtain⟨i,hi⟩:=hmj j hj
  rw[hρc j i hi]
  exact hb.no i (hmlt j i hi),.inl hb,fun hf=>hb.nf (by unfold InF;rw[hFl];exact hinc b hf)⟩⟩
 have hDc:DnW ρc w bl0.length bl0 ρc w:=by
  refine⟨fun j T es l hj=>?_,fun j j' b hj hj' hb hb'=>?_,fun i b h1 h2=>absurd h1 (Nat.not_le.2 h2),Nat.le_refl _,⟨rfl,rfl,rfl,Nat.le_refl _,fun _ _ _ _=>rfl⟩,fun _ _=>rfl,⟨rfl,fun b hb=> .inr hb⟩,⟨fun F hF=>?_,fun j b hj hb=>?_,fun f1 f2 F1 F2 j1 j2 b h1 h2 h3 h4 h5 h6=>?_⟩,fun b hb=> .inr hb⟩
  ·obtain⟨i,hi⟩:=hmj j (get_lt hj)
   obtain⟨T',es',l',h1,h2⟩:=hm j i hi
   rw[hj] at h1
   injection h1 with h1
   injection h1 with e1 e2
   injection e2 with e2 e3
   subst e1 e2 e3
   have hq:=hD.m.ok i T es _ h2
   unfold Bq at hq ⊢
   rw[hρc j i hi]
   cases hb:(ρ i).1 with
   |none=>
    simp only[hb] at hq ⊢
    refine⟨List.eq_nil_of_length_eq_zero ?_,hq.2⟩
    have:=congrArg List.length hq.1
    unfold renB at this
    split at this<;>simpa using this
   |some b=>
    simp only[hb] at hq ⊢
    obtain⟨vl,junk,q1,q2,q3⟩:=hq
    refine⟨vl,junk,q1,?_,q3⟩
    unfold renB at q2
    split at q2
    ·next hcl=>exact q2.clo (hc.clb j T es l hj hcl) rn.z
    exact q2.ren rn
  ·obtain⟨i,hi⟩:=hmj j hj
   obtain⟨i',hi'⟩:=hmj j' hj'
   rw[hρc j i hi] at hb
   rw[hρc j' i' hi'] at hb'
   have:=hD.m.inj i i' b (hmlt j i hi) (hmlt j' i' hi') hb hb'
   subst this
   exact nodB_ok hnod j j' i hi hi'
  ·have hF':F∈ρ.F:=by rw[hFl];exact hfin F hF
   exact⟨(hD.m.fam.ok F hF').1,fun j hj=>((hD.m.fam.ok F hF').2 j hj).mono (fun b hb=>⟨rn.z b hb,rfl⟩) fun b _=>rfl⟩
  ·obtain⟨i,hi⟩:=hmj j hj
   rw[hρc j i hi] at hb
   exact fun hf=>hD.m.fam.own i b (hmlt j i hi) hb (by unfold InF;rw[hFl];exact hinc b hf)
  have h1':fl0[f1]? =some F1:=h1
  have h2':fl0[f2]? =some F2:=h2
  obtain⟨i1,hi1⟩:=hmfj f1 (get_lt h1')
  obtain⟨i2,hi2⟩:=hmfj f2 (get_lt h2')
  obtain⟨e1,e2⟩:=hD.m.fam.inj i1 i2 F1 F2 j1 j2 b (by rw[hFl];exact(hmf f1 i1 hi1).trans h1') (by rw[hFl];exact(hmf f2 i2 hi2).trans h2') h3 h4 h5 h6
  subst e1
  exact⟨nodB_ok hnodf f1 f2 i1 hi1 hi2,e2⟩
 refine(hc.run ρc w vals (HL.ren rn hv) hDc rfl).mono fun e w' ⟨v,he,g,ρ',hC,hDr,hdv,hclr,hFr⟩=>⟨v,he,?_⟩
 have hK:=hk g hC
 obtain⟨bl',hkk0,l1,l2,l3,l4,l5⟩:=aftK_ok hK hnod (fun i hi=>by obtain⟨j,hj⟩:=List.getElem?_of_mem hi;exact hmlt j i hj)
 obtain⟨fl',hkk1,q1,q2,q3,q4,q5⟩:=aftK_ok hkk0 hnodf (fun i hi=>by
  obtain⟨j,hj⟩:=List.getElem?_of_mem hi
  have hlt:j<fl0.length:=by rw[←hmfl];exact get_lt hj
  exact get_lt ((hmf j i hj).trans (List.getElem?_eq_getElem hlt)))
 have hkk:=renDK_ok hkk1
 --a family behind the call is one of old that was not lent,or one of the called function's
 have hfc:∀(i:Nat) (F:Fam),fl'[i]? =some F→(fl[i]? =some F∧i∉mf∧i<fl.length)∨(∃j,(R g).fl[j]? =some F∧((mf[j]? =some i)∨(mf.length≤j∧i=fl.length+(j-mf.length)))):=fun i F hi=>by
  by_cases h1:i<fl.length
  ·by_cases h2:i∈mf
   ·obtain⟨j,hj⟩:=List.getElem?_of_mem h2
    exact .inr ⟨j,by rw[←q3 j i hj];exact hi,.inl hj⟩
   rw[q4 i h1 h2] at hi
   exact .inl ⟨hi,h2,h1⟩
  obtain⟨t,rfl⟩:∃t,i=fl.length+t:=⟨i-fl.length,by omega⟩
  rw[q5 t] at hi
  exact .inr ⟨mf.length+t,hi,.inr ⟨by omega,by omega⟩⟩
 have hcb:∀b,InL (R g).fl b→w.heap.size≤b∨InL fl0 b:=fun b hb=>hDr.ffr b (by unfold InF;rw[hFr];exact hb)
 --what was not lent is none of the lent
 have hul:∀(i j:Nat) (F:Fam) (b:Nat),fl[i]? =some F→i∉mf→j<F.N→F.A j=some b→¬InL fl0 b:=fun i j F b hi hm hj hb ⟨F2,hF2,j2,hj2,hb2⟩=>by
  obtain⟨k2,hk2⟩:=List.getElem?_of_mem hF2
  obtain⟨i2,hi2⟩:=hmfj k2 (get_lt hk2)
  obtain⟨e1,_⟩:=hD.m.fam.inj i i2 F F2 j j2 b (by rw[hFl];exact hi) (by rw[hFl];exact(hmf k2 i2 hi2).trans hk2) hj hj2 hb hb2
  subst e1
  exact hm (List.mem_of_getElem? hi2)
 have hula:∀(i j:Nat) (F:Fam) (b:Nat),fl[i]? =some F→j<F.N→F.A j=some b→InF ρ b:=fun i j F b hi hj hb=>by unfold InF;rw[hFl];exact⟨F,List.mem_of_getElem? hi,j,hj,hb⟩
 have hin2:∀b,InL fl' b→(∃(i j:Nat) (F:Fam),fl[i]? =some F∧i∉mf∧j<F.N∧F.A j=some b)∨InL (R g).fl b:=fun b ⟨F,hF,j,hj,hb⟩=>by
  obtain⟨i,hi⟩:=List.getElem?_of_mem hF
  rcases hfc i F hi with ⟨h1,h2,_⟩|⟨t,h1,_⟩
  ·exact .inl ⟨i,j,F,h1,h2,hj,hb⟩
  exact .inr ⟨F,List.mem_of_getElem? h1,j,hj,hb⟩
 have hin':∀b,InL fl' b→InF ρ b∨InL (R g).fl b:=fun b ⟨F,hF,j,hj,hb⟩=>by
  obtain⟨i,hi⟩:=List.getElem?_of_mem hF
  rcases hfc i F hi with ⟨h1,_,_⟩|⟨t,h1,_⟩
  ·exact .inl (hula i j F b h1 hj hb)
  exact .inr ⟨F,List.mem_of_getElem? h1,j,hj,hb⟩
 rw[renBs_len] at l1 l2
 have hx:(R g).bl.length=bl0.length+((R g).bl.length-m.length):=by omega
 have hpl:∀(j i:Nat),m[j]? =some i→ρ' j=ρ i:=fun j i hj=>(hDr.pl j (by rw[←hml];exact get_lt hj)).trans (hρc j i hj)
 have hwl:=hDr.rel.size
 let ρ2:Pl:=⟨fun i=>if i<bl.length then ρ i else ρ' (m.length+(i-bl.length)),ρ.Z,fl'⟩
 have hρo:∀i,i<bl.length→ρ2 i=ρ i:=fun i hi=>if_pos hi
 have hρn:∀t,ρ2 (bl.length+t)=ρ' (m.length+t):=fun t=>by
  show(if bl.length+t<bl.length then _ else _)=_
  rw[if_neg oM,show bl.length+t-bl.length=t by omega]
 have hfresh:∀t b,m.length+t<(R g).bl.length→(ρ' (m.length+t)).1=some b→w.heap.size≤b:=fun t b ht hb=>hDr.fr (m.length+t) b oM ht hb
 have hlen:bl'.length=bl.length+((R g).bl.length-m.length):=l2
 have kp:Kp ρ bl.length w ρ2 bl'.length w':=⟨by omega,hρo,fun b hb=>⟨⟨Nat.lt_of_lt_of_le hb.lt hwl,fun i hi=>?_,hb.z,fun hf=>?_⟩,hDr.rel.block b hb.lt (fun j hj=>?_) fun hf=>hb.nf (by unfold InF;rw[hFl];exact hinc b hf)⟩⟩
 ·have hz2:∀b,Zf ρ' (R g).bl.length w' b→Zf ρ2 bl'.length w' b:=fun b hb=>by
   have hz:=hb.z
   rw[hDr.zz.1] at hz
   refine⟨hb.lt,fun i hi he=>?_,?_,fun hf=>?_⟩
   ·by_cases h1:i<bl.length
    ·rw[hρo i h1] at he
     rcases hz with hz|hz
     ·exact hz.no i h1 he
     rcases hz with hz|hz
     ·have:=hD.m.lt h1 he;omega
     exact hD.m.fam.own i b h1 he (by unfold InF;rw[hFl];exact hinc b hz)
    obtain⟨t,rfl⟩:∃t,i=bl.length+t:=⟨i-bl.length,by omega⟩
    rw[hρn t] at he
    exact hb.no _ oM he
   ·rcases hz with hz|hz
    ·exact hz.z
    rcases hz with hz|hz
    ·exact hD.m.zz.2 b (.inl (Nat.le_trans hD.m.rel.size hz))
    exact hD.m.zz.2 b (hD.m.ffr b (by unfold InF;rw[hFl];exact hinc b hz))
   rcases hin2 b hf with ⟨i2,j2,F2,g1,g2,g3,g4⟩|hf
   ·rcases hz with hz|hz|hz
    ·exact hz.nf (hula i2 j2 F2 b g1 g3 g4)
    ·have:=hD.m.fam.lt (hula i2 j2 F2 b g1 g3 g4);omega
    exact hul i2 j2 F2 b g1 g2 g3 g4 hz
   exact hb.nf (by unfold InF;rw[hFr];exact hf)
  have bn:Bn (mext m bl (R g).bl) ρ2 bl'.length ρ' (R g).bl.length w':=⟨fun j hj=>?_,hz2⟩
  ·have hbq:∀(j:Nat) (T:TypeId) (es:Nat) (l:List CV) (i:Nat),(R g).bl[j]? =some (T,es,l)→ρ' j=ρ2 i→Bq ρ2 bl'.length w' i T es (renB (cl[j]?) (mext m bl (R g).bl) l):=fun j T es l i hj hp=>by
    have hq:=hDr.ok j T es l hj
    unfold Bq at hq ⊢
    rw[←hp]
    cases hb:(ρ' j).1 with
    |none=>
     simp only[hb] at hq ⊢
     refine⟨?_,hq.2⟩
     rw[hq.1]
     unfold renB
     split<;>rfl
    |some b=>
     simp only[hb] at hq ⊢
     obtain⟨vl,junk,q1,q2,q3⟩:=hq
     refine⟨vl,junk,q1,?_,q3⟩
     unfold renB
     split
     ·next hcl=>exact q2.clo (hclr j T es l hj hcl) hz2
     exact q2.back bn
   refine⟨⟨sl,gl,bl',fl'⟩,_,ρ2,hkk,⟨⟨fun i T es l hi=>?_,fun a b bb ha hb hab hbb=>?_,fun i b h1 h2 hb=>?_,?_,?_,fun i hi=>?_,hD.m.zz,⟨fun F hF=>?_,fun i b hi hb hf=>?_,fun f1 f2 F1 F2 j1 j2 b h1 h2 h3 h4 h5 h6=>?_⟩,fun b hb=>?_⟩,hD.f.kp rfl rfl kp,rfl⟩,hdv.back bn,fun ho=>?_⟩
   ·by_cases h1:i<bl.length
    ·by_cases h2:i∈m
     ·obtain⟨j,hj⟩:=List.getElem?_of_mem h2
      have:=l3 j i hj
      rw[hi] at this
      have hjl:j<(R g).bl.length:=by have:=get_lt hj;omega
      have hg:=List.getElem?_eq_getElem hjl
      rw[renBs_get cl _ (R g).bl j ((R g).bl[j]).1 ((R g).bl[j]).2.1 ((R g).bl[j]).2.2 hg] at this
      injection this with this
      injection this with e1 e2
      injection e2 with e2 e3
      subst e1 e2 e3
      exact hbq j _ _ _ i hg ((hpl j i hj).trans (hρo i h1).symm)
     rw[l4 i h1 h2] at hi
     refine(hD.m.ok i T es l hi).kp kp h1 fun b hb=>hDr.rel.block b ((hD.m.ok i T es l hi).lt hb) (fun j hj he=>h2 ?_) fun hf=>hD.m.fam.own i b h1 hb (by unfold InF;rw[hFl];exact hinc b hf)
     obtain⟨i',hi'⟩:=hmj j hj
     rw[hpl j i' hi'] at he
     rw[hD.m.inj i i' b h1 (hmlt j i' hi') hb he]
     exact List.mem_of_getElem? hi'
    obtain⟨t,rfl⟩:∃t,i=bl.length+t:=⟨i-bl.length,by omega⟩
    rw[l5 t] at hi
    have hjl:m.length+t<(R g).bl.length:=by have:=get_lt hi;rw[renBs_len] at this;exact this
    have hg:=List.getElem?_eq_getElem hjl
    rw[renBs_get cl _ (R g).bl (m.length+t) ((R g).bl[m.length+t]).1 ((R g).bl[m.length+t]).2.1 ((R g).bl[m.length+t]).2.2 hg] at hi
    injection hi with hi
    injection hi with e1 e2
    injection e2 with e2 e3
    subst e1 e2 e3
    exact hbq (m.length+t) _ _ _ _ hg (hρn t).symm
   ·have ha':a<bl.length+((R g).bl.length-m.length):=by rw[←hlen];exact ha
    have hb':b<bl.length+((R g).bl.length-m.length):=by rw[←hlen];exact hb
    by_cases h1:a<bl.length<;>by_cases h2:b<bl.length
    ·rw[hρo a h1] at hab;rw[hρo b h2] at hbb;exact hD.m.inj a b bb h1 h2 hab hbb
    ·obtain⟨t,rfl⟩:∃t,b=bl.length+t:=⟨b-bl.length,by omega⟩
     rw[hρo a h1] at hab;rw[hρn t] at hbb
     have:=hD.m.lt h1 hab
     have:=hfresh t bb oM hbb
     omega
    ·obtain⟨t,rfl⟩:∃t,a=bl.length+t:=⟨a-bl.length,by omega⟩
     rw[hρo b h2] at hbb;rw[hρn t] at hab
     have:=hD.m.lt h2 hbb
     have:=hfresh t bb oM hab
     omega
    obtain⟨t,rfl⟩:∃t,a=bl.length+t:=⟨a-bl.length,by omega⟩
    obtain⟨t',rfl⟩:∃t,b=bl.length+t:=⟨b-bl.length,by omega⟩
    rw[hρn t] at hab;rw[hρn t'] at hbb
    have:=hDr.inj _ _ bb oM oM hab hbb
    omega
   ·by_cases h3:i<bl.length
    ·rw[hρo i h3] at hb;exact hD.m.fr i b h1 h3 hb
    obtain⟨t,rfl⟩:∃t,i=bl.length+t:=⟨i-bl.length,by omega⟩
    rw[hρn t] at hb
    have h2':bl.length+t<bl.length+((R g).bl.length-m.length):=by rw[←hlen];exact h2
    have:=hfresh t b oM hb
    have:=hD.m.rel.size
    omega
   ·have:=hD.m.nbl;show nb≤bl'.length;have h0:nb≤bl.length:=this;omega
   ·have hR:=hD.m.rel
    have hnb:nb≤bl.length:=hD.m.nbl
    refine⟨hDr.rel.os.trans hR.os,hDr.rel.tape.trans hR.tape,hDr.rel.output.trans hR.output,Nat.le_trans hR.size hwl,fun kk hkk hn hf=>?_⟩
    refine(hDr.rel.block kk (Nat.lt_of_lt_of_le hkk hR.size) (fun j hj he=>?_) fun hf2=>?_).trans (hR.block kk hkk (fun i hi=>?_) hf)
    ·obtain⟨i,hi⟩:=hmj j hj
     rw[hpl j i hi] at he
     by_cases h1:i<nb
     ·exact hn i h1 (by rw[hρo i oM];exact he)
     have:=hD.m.fr i kk oM (hmlt j i hi) he;omega
    ·rcases hD.m.ffr kk (by unfold InF;rw[hFl];exact hinc kk hf2) with h|h
     ·omega
     exact hf h
    have:=hn i hi
    rw[hρo i oM] at this
    exact this
   ·have hnb:nb≤bl.length:=hD.m.nbl
    rw[hρo i oM]
    exact hD.m.pl i hi
   ·obtain⟨i,hi⟩:=List.getElem?_of_mem hF
    have hi':fl'[i]? =some F:=hi
    rcases hfc i F hi' with ⟨h1,h2,_⟩|⟨t,h1,_⟩
    ·have hF':F∈ρ.F:=by rw[hFl];exact List.mem_of_getElem? h1
     refine⟨(hD.m.fam.ok F hF').1,fun j hj=>((hD.m.fam.ok F hF').2 j hj).mono kp.z fun b hb=>?_⟩
     refine hDr.rel.block b (hD.m.fam.lt (hula i j F b h1 hj hb)) (fun j2 hj2 he=>?_) (hul i j F b h1 h2 hj hb)
     obtain⟨i',hi'⟩:=hmj j2 hj2
     rw[hpl j2 i' hi'] at he
     exact hD.m.fam.own i' b (hmlt j2 i' hi') he (hula i j F b h1 hj hb)
    have hF':F∈ρ'.F:=by rw[hFr];exact List.mem_of_getElem? h1
    exact⟨(hDr.fam.ok F hF').1,fun j hj=>((hDr.fam.ok F hF').2 j hj).mono (fun b hb=>⟨hz2 b hb,rfl⟩) fun b _=>rfl⟩
   ·have hi':i<bl.length+((R g).bl.length-m.length):=by rw[←hlen];exact hi
    rcases hin' b hf with hf|hf
    ·by_cases h1:i<bl.length
     ·rw[hρo i h1] at hb;exact hD.m.fam.own i b h1 hb hf
     obtain⟨t,rfl⟩:∃t,i=bl.length+t:=⟨i-bl.length,by omega⟩
     rw[hρn t] at hb
     have:=hfresh t b oM hb
     have:=hD.m.fam.lt hf
     omega
    by_cases h1:i<bl.length
    ·rw[hρo i h1] at hb
     by_cases h2:i∈m
     ·obtain⟨j,hj⟩:=List.getElem?_of_mem h2
      refine hDr.fam.own j b ?_ (by rw[hpl j i hj];exact hb) (by unfold InF;rw[hFr];exact hf)
      have:=get_lt hj;omega
     rcases hcb b hf with h|h
     ·have:=hD.m.lt h1 hb;omega
     exact hD.m.fam.own i b h1 hb (by unfold InF;rw[hFl];exact hinc b h)
    obtain⟨t,rfl⟩:∃t,i=bl.length+t:=⟨i-bl.length,by omega⟩
    rw[hρn t] at hb
    exact hDr.fam.own (m.length+t) b oM hb (by unfold InF;rw[hFr];exact hf)
   ·have h1':fl'[f1]? =some F1:=h1
    have h2':fl'[f2]? =some F2:=h2
    rcases hfc f1 F1 h1' with ⟨a1,a2,a3⟩|⟨t1,a1,a2⟩<;>rcases hfc f2 F2 h2' with ⟨c1,c2,c3⟩|⟨t2,c1,c2⟩
    ·exact hD.m.fam.inj f1 f2 F1 F2 j1 j2 b (by rw[hFl];exact a1) (by rw[hFl];exact c1) h3 h4 h5 h6
    ·rcases hcb b ⟨F2,List.mem_of_getElem? c1,j2,h4,h6⟩ with h|h
     ·have:=hD.m.fam.lt (hula f1 j1 F1 b a1 h3 h5);omega
     exact absurd h (hul f1 j1 F1 b a1 a2 h3 h5)
    ·rcases hcb b ⟨F1,List.mem_of_getElem? a1,j1,h3,h5⟩ with h|h
     ·have:=hD.m.fam.lt (hula f2 j2 F2 b c1 h4 h6);omega
     exact absurd h (hul f2 j2 F2 b c1 c2 h4 h6)
    obtain⟨e1,e2⟩:=hDr.fam.inj t1 t2 F1 F2 j1 j2 b (by rw[hFr];exact a1) (by rw[hFr];exact c1) h3 h4 h5 h6
    subst e1
    refine⟨?_,e2⟩
    rcases a2 with a2|⟨a2,a3⟩<;>rcases c2 with c2|⟨c2,c3⟩
    ·rw[a2] at c2;injection c2
    ·have:=get_lt a2;omega
    ·have:=get_lt c2;omega
    omega
   ·rcases hin' b hb with h|h
    ·exact hD.m.ffr b h
    rcases hcb b h with h|h
    ·exact .inl (Nat.le_trans hD.m.rel.size h)
    exact hD.m.ffr b (by unfold InF;rw[hFl];exact hinc b h)
   obtain⟨hm0,hf0⟩:=honly' ho
   have hb0:bl0.length=0:=by rw[←hml,hm0];rfl
   have hb1:fl0=[]:=List.eq_nil_of_length_eq_zero (by rw[←hmfl,hf0];rfl)
   refine⟨hDr.rel.os,hDr.rel.tape,hDr.rel.output,hwl,fun kk hkk=>hDr.rel.block kk hkk (fun j hj=>by omega) fun hf=>?_⟩
   have hf':InL fl0 kk:=hf
   rw[hb1] at hf'
   obtain⟨F,hF,_⟩:=hf'
   cases hF
  by_cases h1:j<m.length
  ·have hj1:=List.getElem?_eq_getElem h1
   refine⟨m[j],by unfold mext;rw[List.getElem?_append_left h1];exact hj1,?_,?_⟩
   ·have:=hmlt j _ hj1;omega
   rw[hpl j _ hj1,hρo _ (hmlt j _ hj1)]
  obtain⟨t,rfl⟩:∃t,j=m.length+t:=⟨j-m.length,by omega⟩
  refine⟨bl.length+t,?_,by omega,(hρn t).symm⟩
  unfold mext
  rw[List.getElem?_append_right oM,show m.length+t-m.length=t by omega,rangeF_get _ _ _ oM,cnt_len]
 ·by_cases h1:i<bl.length
  ·rw[hρo i h1];exact hb.no i h1
  obtain⟨t,rfl⟩:∃t,i=bl.length+t:=⟨i-bl.length,by omega⟩
  rw[hρn t]
  intro he
  have:=hfresh t b oM he
  have:=hb.lt
  omega
 ·rcases hin' b hf with h|h
  ·exact hb.nf h
  rcases hcb b h with h|h
  ·have:=hb.lt;omega
  exact hb.nf (by unfold InF;rw[hFl];exact hinc b h)
 obtain⟨i,hi⟩:=hmj j hj
 rw[hpl j i hi]
 exact hb.no i (hmlt j i hi)
end
end Go.Vy
namespace Go.Vy
open Go.Vg Go.RowKit
def E1 (T:TT) (pg:Option Prop) (gs:Gs) (s:SS):Op→(DV→Prop)→Prop
 |.move x,k=>eMove gs s x k
 |.assign x,k=>eMove gs s x k
 |.pick x y z,k=>ePick gs s x y z k
 |.load t x,k=>eLoad T pg gs s t x k
 |.nilCheck x,k=>eNil gs s x k
 |.binOp op t x y _,k=>eBin T t pg gs s op x y k
 |.unOp op _ x,k=>eUn pg gs s op x k
 |.convert t t' x,k=>eConv T pg gs s t t' x k
 |.fieldAddr t x i,k=>eFld T gs s t x i k
 |.field t x i,k=>ePart T gs s t x i k
 |.indexAddr t x y,k=>(match T t with
  |some ti=>bif ti.ar.isSome then eIdxA T pg gs s t x y k else eIdx T pg gs s t x y k
  |none=>False)
 |.index t x y,k=>eByte T pg gs s t x y k
 |.slice t x lo hi mx,k=>bif mx.isNone then eSl T pg gs s t x lo hi k else False
 |.extract x i,k=>eExt gs s x i k
 |.build t ps,k=>eBuild T gs s t ps.toList k
 |.makeFunc fn fi ca,k=>eFun gs s fn fi.toList ca.toList k
 |.call c,k=>(match c.callee,c.args.toList,c.argTypes.toList with
  |.builtin .len,[x],[t]=>eLen T gs s t x k
  |.builtin .min,[x,y],[_,_]=>eMm false gs s x y k
  |.builtin .max,[x,y],[_,_]=>eMm true gs s x y k
  |_,_,_=>False)
 |_,_=>False
def argK (s:SS):List Operand→(List DV→Prop)→Prop
 |[],k=>k []
 |x::l,k=>match val [] s x with
  |some d=>argK s l fun r=>k (d::r)
  |none=>False
def ptrs:List (Nat×Nat)→List DV→List DV
 |[],r=>r
 |(i,o)::l,r=> .c (.p i o)::ptrs l r
/-! ### an own slice that is read from now on -/
section frz
variable {ρ0 ρ:Pl} {w0 w:World} {nb:Nat} {f:Nat→Value}
theorem frz_core {s:SS} (hD:Dn ρ0 w0 nb s ρ f w) (i:Nat) {n T es:Nat} {l:List CV} {x:Value} (get:Nat→List CV) (hx:Hc ρ s.bl.length w (.s i n) x) (hb:s.bl[i]? =some (T,es,l)) (hg:∀j,j<n→get j=(l.drop (j*es)).take es) (hl:n*es=l.length) (hes:0<es) (hclo:∀c∈l,cloC c=true) (hnb:nb≤i) {kk:Option Addr→Nat→SS→Prop}
 (h:∀A c,n≤c→c≤maxLen→killS i s fun s'=>setK s'.bl i (T,es,[]) fun bl'=>kk A c ⟨s'.sl,s'.gl,bl',s'.fl⟩):∃A c s' ρ',kk A c s'∧Dn ρ0 w0 nb s' ρ' f w∧Kx i ρ s.bl.length w ρ' w∧s'.bl.length=s.bl.length∧s'.gl=[]∧Hc ρ' s.bl.length w (.r A n c es get) x:=by
 obtain⟨hi,he⟩:=hx
 have hq:=hD.m.ok i T es l hb
 let ρ':Pl:=⟨fun j=>if j=i then (none,0) else ρ j,ρ.Z,ρ.F⟩
 have hρi:ρ' i=(none,0):=if_pos rfl
 have hρj:∀j,j≠i→ρ' j=ρ j:=fun j hj=>if_neg hj
 have hz:∀b,Zf ρ s.bl.length w b→Zf ρ' s.bl.length w b:=fun b hb=>⟨hb.lt,fun j hj=>by
  by_cases hji:j=i
  ·rw[hji,hρi];intro h;cases h
  rw[hρj j hji];exact hb.no j hj,hb.z,hb.nf⟩
 have kx:Kx i ρ s.bl.length w ρ' w:=⟨fun j _ hj=>hρj j hj,fun b hb=>⟨hz b hb,rfl⟩,fun j b _ _ _=>rfl⟩
 have key:∃A c,n≤c∧c≤maxLen∧Rc (Zf ρ' s.bl.length w) w (.r A n c es get) x:=by
  cases hρ:(ρ i).1 with
  |none=>
   unfold Bq at hq
   simp only[hρ] at hq
   obtain⟨q1,q2,q3⟩:=hq
   subst q1
   have hn0:n=0:=by
    rcases Nat.eq_zero_or_pos n with h|h
    ·exact h
    have:=Nat.mul_pos h hes;simp at hl;omega
   subst hn0
   rw[hρ,q2] at he
   refine⟨none,0,Nat.le_refl _,Nat.zero_le _,?_⟩
   rw[he]
   exact Rc.nil none 0 es get (Nat.zero_le _)
  |some b=>
   obtain⟨vl,junk,q1,q2,q3,q4⟩:=hq.at hρ
   obtain⟨q5,q6⟩:=q3 hes
   have hlv:=q2.len
   have hnc:n≤(ρ i).2:=by
    rw[List.length_append] at q5
    exact Nat.le_of_mul_le_mul_right (c:=es) oM hes
   rw[hρ] at he
   refine⟨some ⟨b,0,none⟩,(ρ i).2,hnc,q6,?_⟩
   rw[he]
   have hZb:Zf ρ' s.bl.length w b:=⟨lt_of_heap q1,fun j hj=>by
    by_cases hji:j=i
    ·rw[hji,hρi];intro h;cases h
    rw[hρj j hji];intro h;exact hji (hD.m.inj j i b hj hi h hρ),hD.m.zz.2 b (.inl (hD.m.fr i b hnb hi hρ)),hD.m.fam.own i b hi hρ⟩
   have hjn:∀j,j<n→j*es+es≤vl.length:=fun j hj=>by
    have:(j+1)*es≤n*es:=Nat.mul_le_mul_right es hj
    rw[Nat.add_mul,Nat.one_mul] at this
    omega
   refine Rc.r b 0 n (ρ i).2 es get (fun j=>(vl.drop (j*es)).take es) hnc q6 hZb (fun j hj k u hu=>?_) (fun j hj=>?_) fun j hj k c' u hc hu=>?_
   ·rw[List.getElem?_take] at hu
    split at hu
    ·rw[List.getElem?_drop] at hu
     refine⟨?_,q4 u (List.mem_of_getElem? hu)⟩
     rw[Nat.zero_add]
     exact own_cell q1 hu
    cases hu
   ·rw[hg j hj]
    have:=hjn j hj
    simp only[List.length_take,List.length_drop]
    omega
   rw[hg j hj] at hc
   obtain⟨x,h1,h2⟩:=((q2.drop (j*es)).take es).get hc
   rw[hu] at h1
   injection h1 with h1
   subst h1
   have hcl:=hclo c' (List.mem_of_mem_drop (List.mem_of_mem_take (List.mem_of_getElem? hc)))
   have h3:Hc ρ' s.bl.length w c' u:=h2.clo hcl hz
   cases c' with
   |u=>exact h3
   |v x=>exact h3
   |h A n c=>exact h3
   |hp b o=>exact h3
   |b p q=>exact h3
   |r A m c e get=>exact h3
   |p i o=>cases hcl
   |s i m=>cases hcl
   |q A m c e get j o=>cases hcl
   |f k fi ca=>cases hcl
 obtain⟨A,c,hc1,hc2,hrc⟩:=key
 obtain⟨sl',bl',k1,k2,⟨T3,e3,l3,k3,k4⟩,k5⟩:=killS_ok (h A c hc1 hc2) hD kx hnb hi (fun b hb=>by rw[hρi] at hb;cases hb) (fun j b hj hji hb hb'=>by rw[hρi] at hb';cases hb') (fun h=>h) rfl hD.l (hD.m.fam.kx kx rfl (fun _ _=>rfl) fun b hb=>by rw[hρi] at hb;cases hb) hD.m.ffr
 have hfin:=k5 T es [] (by unfold Bq;rw[hρi];exact⟨rfl,rfl,hes⟩)
 exact⟨A,c,_,ρ',setK_ok k1,hfin,kx,by rw[List.length_set];exact k2,rfl,hrc⟩
def argF (nb:Nat):List DV→List DV→SS→(List DV→SS→Prop)→Prop
 |_,[],s,k=>k [] s
 |acc,d::l,s,k=>match d with
  |.c (.s i n)=>∃z:Option (Nat→List CV),match z with
   |none=>argF nb (.c (.s i n)::acc) l s fun r s'=>k (.c (.s i n)::r) s'
   |some get=>match s.bl[i]? with
    |some (T,es,lc)=>bif acc.all (fun d=>!menD i d)&&l.all (fun d=>!menD i d) then ((nb≤i∧0<es)∧n*es=lc.length∧(∀j,j<n→get j=(lc.drop (j*es)).take es)∧∀c∈lc,cloC c=true)∧
     ∀A c,n≤c→c≤maxLen→killS i s fun s1=>setK s1.bl i (T,es,[]) fun bl'=>argF nb (.c (.r A n c es get)::acc) l ⟨s1.sl,s1.gl,bl',s1.fl⟩ fun r s'=>k (.c (.r A n c es get)::r) s' else False
    |none=>False
  |.c (.v (.bool b))=>argF nb (.c (.b (b=true) inferInstance)::acc) l s fun r s'=>k (.c (.b (b=true) inferInstance)::r) s'
  |d=>argF nb (d::acc) l s fun r s'=>k (d::r) s'
theorem HL.kx {i n:Nat} {ρ':Pl} (kx:Kx i ρ n w ρ' w):∀{l:List DV} {vl:List Value},HL ρ n w l vl→l.all (fun d=>!menD i d)=true→HL ρ' n w l vl
 |[],[],_,_=>trivial
 |[],_::_,h,_=>h.elim
 |_::_,[],h,_=>h.elim
 |d::l,v::vl,h,hm=>by
  simp only[List.all_cons,Bool.and_eq_true,Bool.not_eq_true'] at hm
  exact⟨h.1.kx kx hm.1,HL.kx kx h.2 hm.2⟩
theorem argF_ok:∀{l acc:List DV} {s:SS} {k:List DV→SS→Prop} {ρ:Pl} {vals avals:List Value},argF nb acc l s k→Dn ρ0 w0 nb s ρ f w→HL ρ s.bl.length w l vals→HL ρ s.bl.length w acc avals→∃r s' ρ',k r s'∧Dn ρ0 w0 nb s' ρ' f w∧HL ρ' s'.bl.length w r vals∧HL ρ' s'.bl.length w acc avals
 |[],acc,s,k,ρ,[],avals,h,hD,hv,ha=>⟨[],s,ρ,h,hD,trivial,ha⟩
 |[],acc,s,k,ρ,_::_,avals,h,hD,hv,ha=>hv.elim
 |_::_,acc,s,k,ρ,[],avals,h,hD,hv,ha=>hv.elim
 |d::l,acc,s,k,ρ,v::vals,avals,h,hD,hv,ha=>by
  have plain:argF nb (d::acc) l s (fun r s'=>k (d::r) s')→∃r s' ρ',k r s'∧Dn ρ0 w0 nb s' ρ' f w∧HL ρ' s'.bl.length w r (v::vals)∧HL ρ' s'.bl.length w acc avals:=fun h=>by
   obtain⟨r,s',ρ',h1,h2,h3,h4⟩:=argF_ok h hD hv.2 (show HL ρ s.bl.length w (d::acc) (v::avals) from ⟨hv.1,ha⟩)
   exact⟨d::r,s',ρ',h1,h2,⟨h4.1,h3⟩,h4.2⟩
  unfold argF at h
  split at h
  ·next i n=>
   obtain⟨z,h⟩:=h
   cases z with
   |none=>exact plain h
   |some get=>
    simp only at h
    split at h
    ·next T es lc hb=>
     cases hm:(acc.all (fun d=>!menD i d)&&l.all (fun d=>!menD i d)) with
     |false=>rw[hm] at h;exact h.elim
     |true=>
      rw[hm] at h
      simp only[Bool.and_eq_true] at hm
      obtain⟨⟨⟨hnb,hes⟩,hl,hg,hclo⟩,hk⟩:=h
      obtain⟨A,c,s',ρ',k1,k2,k3,k4,_,k5⟩:=frz_core hD i get hv.1.inv_c hb hg hl hes hclo hnb (kk:=fun A c s'=>argF nb (.c (.r A n c es get)::acc) l s' fun r s2=>k (.c (.r A n c es get)::r) s2) hk
      rw[←k4] at k3 k5
      have hvl:HL ρ' s'.bl.length w l vals:=HL.kx k3 (by rw[k4];exact hv.2) hm.2
      have hac:HL ρ' s'.bl.length w acc avals:=HL.kx k3 (by rw[k4];exact ha) hm.1
      obtain⟨r,s2,ρ2,h1,h2,h3,h4⟩:=argF_ok k1 k2 hvl (show HL ρ' s'.bl.length w (.c (.r A n c es get)::acc) (v::avals) from ⟨.c k5,hac⟩)
      exact⟨_,s2,ρ2,h1,h2,⟨h4.1,h3⟩,h4.2⟩
    exact h.elim
  ·next b=>
   have hv1:Hd ρ s.bl.length w (.c (.b (b=true) inferInstance)) v:=by
    have e:Value.bool b= .bool (decide (b=true)):=by simp
    rw[hv.1.inv_c.inv_v,e]
    exact .c (Rc.b _ _)
   obtain⟨r,s',ρ',h1,h2,h3,h4⟩:=argF_ok h hD hv.2 (show HL ρ s.bl.length w (.c (.b (b=true) inferInstance)::acc) (v::avals) from ⟨hv1,ha⟩)
   exact⟨_,s',ρ',h1,h2,⟨h4.1,h3⟩,h4.2⟩
  exact plain h
end frz
def hCall (P:Program) (nb:Nat) (only:Bool) (s:SS) (x:Operand) (args:List Operand) (k:SS→DV→Prop):Prop:=match val [] s x with
 |some (.c (.f q fi ca))=>(match fi,ca with
  |[],[]=>argK s args fun al=>argF nb [] al s fun al' s'=>callK P only s' q al' k
  |_,_=>argK s args fun al=>∃al',ptrs fi (al++ptrs ca [])=al'∧argF nb [] al' s fun al' s'=>callK P only s' q al' k)
 |_=>False
def H1 (P:Program) (T:TT) (nb:Nat) (only:Bool) (s:SS):Op→(SS→DV→Prop)→Prop
 |.alloc t,k=>hAlloc T s t k
 |.box t x,k=>hBox s t x k
 |.buildSlice t n ps,k=>hLit T s t n ps.toList k
 |.makeSlice t x y,k=>hMake T s t x y k
 |.call c,k=>(match c.callee,c.args.toList,c.argTypes.toList with
  |.builtin .append,[x,y],[t,t']=>bif Nat.beq t t'&&!only then hApp T nb s t x y k else False
  |.value x,args,_=>hCall P nb only s x args k
  |_,_,_=>False)
 |_,_=>False
def apG (d:Nat) (gl:List (Nat×Gs×DV)):Bool:=gl.all fun e=>!Nat.beq e.1 d&&e.2.1.all fun p=>!Nat.beq p.1 d
def putK (s:SS) (d:Nat) (v:DV) (K:SS→Prop):Prop:=match s with
 |⟨sl,gl,bl,fl⟩=>bif apG d gl then K ⟨(d,v)::sl,gl,bl,fl⟩ else False
def putG (s:SS) (d:Nat) (gs:Gs) (v:DV) (K:SS→Prop):Prop:=match s with
 |⟨sl,gl,bl,fl⟩=>bif apG d gl&&gs.all (fun p=>!Nat.beq p.1 d) then K ⟨(d,.c .u)::sl,(d,gs,v)::gl,bl,fl⟩ else False
def exU (P:Program) (T:TT) (nb N:Nat) (only:Bool) (o:Oper) (s:SS) (K:SS→Prop):Prop:=
 bif calm o then (match o.dst with
  |some d=>bif Nat.ble (d+1) N then E1 T none [] s o.op fun v=>putK s d v K else False
  |none=>False)
 else match o.op with
  |.store t x y=>(match o.dst with
   |none=>bif only then False else hStore T s t x y K
   |some _=>False)
  |op=>(match o.dst with
   |some d=>bif Nat.ble (d+1) N then H1 P T nb only s op fun s' v=>putK s' d v K else False
   |none=>False)
section
variable {P:Program} {T:TT} (hT:Good P T) {w0 w:World} {nb N:Nat} {s:SS} {ρ ρ0:Pl} {f:Nat→Value} {gs:Gs} {pg:Option Prop} {k:DV→Prop} {only:Bool}
theorem ne_of_nb {a b:Nat} (h:(!Nat.beq a b)=true):a≠b:=fun e=>by subst e;rw[Nat.beq_refl] at h;cases h
include hT in
theorem E1_ok {o:Oper} (h:E1 T pg gs s o.op k) (hD:Dn ρ0 w0 nb s ρ f w) (hp:sat f gs→pgOk pg):Pu P f o w ρ s.bl.length gs k:=by
 obtain⟨dst,op,ty,pos,aft,gd⟩:=o
 simp only at h
 unfold E1 at h
 split at h
 ·exact(eMove_ok h hD.f).1
 ·exact(eMove_ok h hD.f).2
 ·exact ePick_ok h hD.f
 ·exact eLoad_ok hT h hD hp
 ·exact eNil_ok h hD.f
 ·exact eBin_ok hT h hD.f hp
 ·exact eUn_ok h hD.f hp
 ·exact eConv_ok hT h hD.f hp
 ·exact eFld_ok hT h hD.f
 ·exact ePart_ok hT h hD.f
 ·split at h
  ·next ti _=>
   cases ha:ti.ar.isSome with
   |true=>rw[ha] at h;exact eIdxA_ok hT h hD.f hp
   |false=>rw[ha] at h;exact eIdx_ok hT h hD hp
  exact h.elim
 ·exact eByte_ok hT h hD.f hp
 ·next t x lo hi mx=>
  cases mx with
  |some m=>exact h.elim
  |none=>exact eSl_ok hT h hD hp
 ·exact eExt_ok h hD.f
 ·next t ps=>
  have:=eBuild_ok (P:=P) (dst:=dst) (ty:=ty) (pos:=pos) (aft:=aft) (gd:=gd) hT h hD.f
  rwa [Array.toArray_toList] at this
 ·next fn fi ca=>
  have:=eFun_ok (P:=P) (dst:=dst) (ty:=ty) (pos:=pos) (aft:=aft) (gd:=gd) h hD.f
  rwa [Array.toArray_toList,Array.toArray_toList] at this
 ·next c=>
  obtain⟨callee,⟨args⟩,⟨tys⟩⟩:=c
  simp only at h
  split at h
  ·exact eLen_ok hT h hD.f
  ·exact eMm_ok (mx:=false) h hD.f
  ·exact eMm_ok (mx:=true) h hD.f
  exact h.elim
 exact h.elim
theorem apG_ok {d:Nat} {gl:List (Nat×Gs×DV)} (h:apG d gl=true) {t:Nat} {g:Gs} {v:DV} (ht:getG gl t=some (g,v)):t≠d∧∀p∈g,p.1≠d:=by
 induction gl with
 |nil=>cases ht
 |cons e gl ih=>
  obtain⟨t0,d0⟩:=e
  simp only[apG,List.all_cons,Bool.and_eq_true] at h
  unfold getG at ht
  cases hb:Nat.beq t0 t with
  |true=>
   rw[hb] at ht
   injection ht with ht
   have e1:=Nat.eq_of_beq_eq_true hb
   refine⟨by rw[←e1];exact ne_of_nb h.1.1,fun p hp=>?_⟩
   have h2:=h.1.2
   rw[ht] at h2
   exact ne_of_nb (List.all_eq_true.1 h2 p hp)
  |false=>rw[hb] at ht;exact ih h.2 ht
theorem sat_st {d:Nat} {g:Gs} {x:Value} (h:∀p∈g,p.1≠d):sat (st f d x) g↔sat f g:=by
 constructor
 ·intro hs p hp;have:=hs p hp;rwa [st_other _ _ _ _ (h p hp)] at this
 intro hs p hp;rw[st_other _ _ _ _ (h p hp)];exact hs p hp
theorem Dn.put {d:Nat} {v:DV} {x:Value} {K:SS→Prop} (h:putK s d v K) (hD:Dn ρ0 w0 nb s ρ f w) (hx:Hd ρ s.bl.length w v x):∃s',K s'∧Dn ρ0 w0 nb s' ρ (st f d x) w:=by
 obtain⟨sl,gl,bl,fl⟩:=s
 unfold putK at h
 simp only at h
 cases hb:apG d gl with
 |false=>rw[hb] at h;exact h.elim
 |true=>
  rw[hb] at h
  refine⟨_,h,hD.m,⟨fun t d' ht=>?_,fun t g d' ht=>?_⟩,hD.l⟩
  ·simp only[getS] at ht
   cases he:Nat.beq d t with
   |true=>
    rw[he] at ht
    injection ht with ht
    subst ht
    have:=Nat.eq_of_beq_eq_true he
    subst this
    rw[st_same]
    exact hx
   |false=>
    rw[he] at ht
    rw[st_other _ _ _ _ (Ne.symm (ne_of_beq he))]
    exact hD.f.sl t d' ht
  obtain⟨h1,h2⟩:=apG_ok hb ht
  rw[sat_st h2,st_other _ _ _ _ h1]
  exact hD.f.gl t g d' ht
theorem Dn.putg {d:Nat} {v:DV} {x:Value} {K:SS→Prop} (h:putG s d gs v K) (hD:Dn ρ0 w0 nb s ρ f w) (hx:sat f gs→Hd ρ s.bl.length w v x) (hu:¬sat f gs→x=undef):∃s',K s'∧Dn ρ0 w0 nb s' ρ (st f d x) w:=by
 obtain⟨sl,gl,bl,fl⟩:=s
 unfold putG at h
 simp only at h
 cases hb:(apG d gl&&gs.all fun p=>!Nat.beq p.1 d) with
 |false=>rw[hb] at h;exact h.elim
 |true=>
  rw[hb] at h
  simp only[Bool.and_eq_true] at hb
  have hgs:∀p∈gs,p.1≠d:=fun p hp=>ne_of_nb (List.all_eq_true.1 hb.2 p hp)
  refine⟨_,h,hD.m,⟨fun t d' ht=>?_,fun t g d' ht=>?_⟩,hD.l⟩
  ·simp only[getS] at ht
   cases he:Nat.beq d t with
   |true=>rw[he] at ht;injection ht with ht;subst ht;exact .c (Rc.u _)
   |false=>
    rw[he] at ht
    rw[st_other _ _ _ _ (Ne.symm (ne_of_beq he))]
    exact hD.f.sl t d' ht
  simp only[getG] at ht
  cases he:Nat.beq d t with
  |true=>
   rw[he] at ht
   injection ht with ht
   injection ht with e1 e2
   subst e1 e2
   have:=Nat.eq_of_beq_eq_true he
   subst this
   rw[sat_st hgs,st_same]
   exact⟨hx,hu⟩
  |false=>
   rw[he] at ht
   obtain⟨h1,h2⟩:=apG_ok hb.1 ht
   rw[sat_st h2,st_other _ _ _ _ h1]
   exact hD.f.gl t g d' ht
inductive Stp (P:Program) (N:Nat) (f:Nat→Value) (o:Oper) (w:World) (C:(Nat→Value)→World→Prop):Prop
 |val {v:Value} {w':World} {d:Nat} (hd:o.dst=some d) (hn:d<N) (hr:(execOp (ev f) o).run P w= .ok (.value v) w') (h:C (st f d v) w')
 |skip {w':World} (hd:o.dst=none) (hr:(execOp (ev f) o).run P w= .ok .skip w') (h:C f w')
 |call {q:FuncId} {args:Array Value} {d:Nat} {Post:Value→World→Prop} (hd:o.dst=some d) (hn:d<N) (hr:(execOp (ev f) o).run P w= .ok (.enter q args) w)
  (hc:Calls P q args w fun e w'=>∃v,e= .returned v∧Post v w') (h:∀v w',Post v w'→C (st f d v) w')
theorem argK_ok {l:List Operand} {kk:List DV→Prop} (h:argK s l kk) (hF:Fr s ρ w f):∃al,kk al∧HL ρ s.bl.length w al (l.map (ev f)):=by
 induction l generalizing kk with
 |nil=>exact⟨[],h,trivial⟩
 |cons x l ih=>
  unfold argK at h
  split at h
  ·next d hx=>
   obtain⟨al,h1,h2⟩:=ih h
   exact⟨_,h1,val_ok hF sat_nil hx,h2⟩
  exact h.elim
theorem HL.ptrs {n:Nat}:∀{l:List (Nat×Nat)} {r:List DV} {vr:List Value},(∀p∈l,p.1<n∧(ρ p.1).1≠none)→HL ρ n w r vr→HL ρ n w (Go.Vy.ptrs l r) (l.map (ptr ρ)++vr)
 |[],r,vr,_,h=>h
 |(i,o)::l,r,vr,hl,h=>by
  refine⟨?_,HL.ptrs (fun p hp=>hl p (.tail _ hp)) h⟩
  obtain⟨h1,h2⟩:=hl _ (.head _)
  cases hb:(ρ i).1 with
  |none=>exact absurd hb h2
  |some b=>exact .c ⟨h1,b,hb,by simp[ptr,hb]⟩
theorem HL.append {n:Nat}:∀{l l2:List DV} {m m2:List Value},HL ρ n w l m→HL ρ n w l2 m2→HL ρ n w (l++l2) (m++m2)
 |[],l2,[],m2,_,h=>h
 |[],_,_::_,_,h,_=>h.elim
 |_::_,_,[],_,h,_=>h.elim
 |d::l,l2,x::m,m2,h,h2=>⟨h.1,HL.append h.2 h2⟩
include hT in
theorem exU_ok {o:Oper} {K:SS→Prop} (h:exU P T nb N only o s K) (hD:Dn ρ0 w0 nb s ρ f w):Stp P N f o w fun f' w'=>∃s' ρ',K s'∧Dn ρ0 w0 nb s' ρ' f' w'∧(only=true→Ext w w'):=by
 have hv:∀{ex:Bool} {d:Nat},o.dst=some d→d<N→(only=true→ex=true)→Hv ex P f o ρ0 w0 nb w (fun s' v=>putK s' d v K)→Stp P N f o w fun f' w'=>∃s' ρ',K s'∧Dn ρ0 w0 nb s' ρ' f' w'∧(only=true→Ext w w'):=fun {ex d} hd hn hex hh=>by
  obtain⟨s',dv,ρ',v,w',h1,h2,h3,h4,h5⟩:=hh
  obtain⟨s2,h6,h7⟩:=h3.put h1 h4
  exact .val hd hn h2 ⟨s2,ρ',h6,h7,fun ho=>h5 (hex ho)⟩
 obtain⟨dst,op,ty,pos,aft,gd⟩:=o
 unfold exU at h
 cases hc:calm ⟨dst,op,ty,pos,aft,gd⟩ with
 |true=>
  rw[hc] at h
  simp only[cond_true] at h
  cases dst with
  |none=>exact h.elim
  |some d=>
   simp only at h
   cases hn:Nat.ble (d+1) N with
   |false=>rw[hn] at h;exact h.elim
   |true=>
    rw[hn] at h
    simp only[cond_true] at h
    obtain⟨dv,h1,h2⟩:=E1_ok (P:=P) (o:=⟨some d,op,ty,pos,aft,gd⟩) (pg:=none) hT h hD (fun _=>trivial)
    obtain⟨v,h3,h4⟩:=h2 sat_nil
    obtain⟨s',h5,h6⟩:=hD.put h1 h3
    exact .val rfl (Nat.le_of_ble_eq_true hn) (h4 w fun _=>Ext.refl w) ⟨s',ρ,h5,h6,fun _=>Ext.refl w⟩
 |false=>
  rw[hc] at h
  simp only[cond_false] at h
  split at h
  ·cases dst with
   |none=>
    cases honly:only with
    |true=>rw[honly] at h;exact h.elim
    |false=>
     rw[honly] at h
     obtain⟨s',ρ',w',h1,h2,h3⟩:=hStore_ok hT h hD
     exact .skip rfl h2 ⟨s',ρ',h1,h3,fun h=>by cases h⟩
   |some d=>exact h.elim
  cases dst with
  |none=>exact h.elim
  |some d=>
   have hd:(some d:Option Tmp)=some d:=rfl
   simp only at h
   cases hn:Nat.ble (d+1) N with
   |false=>rw[hn] at h;exact h.elim
   |true=>
    rw[hn] at h
    have hn':=Nat.le_of_ble_eq_true hn
    simp only[cond_true] at h
    unfold H1 at h
    split at h
    ·exact hv hd hn' (fun _=>rfl) (hAlloc_ok hT h hD)
    ·exact hv hd hn' (fun _=>rfl) (hBox_ok h hD)
    ·next t n ps _ _=>
     have:=hLit_ok (P:=P) (dst:=some d) (ty:=ty) (pos:=pos) (aft:=aft) (gd:=gd) hT h hD
     rw[Array.toArray_toList] at this
     exact hv hd hn' (fun _=>rfl) this
    ·exact hv hd hn' (fun _=>rfl) (hMake_ok hT h hD)
    ·next c _=>
     obtain⟨callee,⟨args⟩,⟨tys⟩⟩:=c
     simp only at h
     split at h
     ·next x y t t' _=>
      cases hb:(Nat.beq t t'&&!only) with
      |false=>rw[hb] at h;exact h.elim
      |true=>
       rw[hb] at h
       simp only[Bool.and_eq_true,Bool.not_eq_true'] at hb
       have:=Nat.eq_of_beq_eq_true hb.1
       subst this
       exact hv (ex:=false) hd hn' (fun ho=>by rw[hb.2] at ho;cases ho) (hApp_ok hT h hD)
     ·next x _=>
      unfold hCall at h
      split at h
      ·next q fi ca hx=>
       obtain⟨h1,h2⟩:=(val_ok hD.f sat_nil hx).inv_c
       have key:∀al,argF nb [] al s (fun al' s'=>callK P only s' q al' (fun s' v=>putK s' d v K))→HL ρ s.bl.length w al (fi.map (ptr ρ)++(args.map (ev f)++ca.map (ptr ρ)))→Stp P N f ⟨some d,.call ⟨.value x,args.toArray,tys.toArray⟩,ty,pos,aft,gd⟩ w fun f' w'=>∃s' ρ',K s'∧Dn ρ0 w0 nb s' ρ' f' w'∧(only=true→Ext w w'):=fun al hk hal=>by
        obtain⟨al2,s2,ρ2,hk2,hD2,hal2,_⟩:=argF_ok hk hD hal (show HL ρ s.bl.length w [] [] from trivial)
        obtain⟨hent,hcalls⟩:=call_ok hk2 hD2 hal2
        refine .call hd hn' (q:=q) (args:=(fi.map (ptr ρ)++(args.map (ev f)++ca.map (ptr ρ))).toArray) ?_ hcalls fun v w' hp=>?_
        ·unfold Ent at hent
         simp[execOp,resolve,h2,Deferred.ofValue,invoke,hent]
        obtain⟨s',dv,ρ',k1,k2,k3,k4⟩:=hp
        obtain⟨s2,k5,k6⟩:=k2.put k1 k3
        exact⟨s2,ρ',k5,k6,k4⟩
       split at h
       ·obtain⟨al,a1,a2⟩:=argK_ok h hD.f
        exact key al a1 (by simpa using a2)
       obtain⟨al,⟨al',rfl,a1⟩,a2⟩:=argK_ok h hD.f
       have hca:HL ρ s.bl.length w (Go.Vy.ptrs ca []) (ca.map (ptr ρ)++[]):=HL.ptrs (fun p hp=>h1 p (List.mem_append_right _ hp)) (show HL ρ s.bl.length w [] [] from trivial)
       rw[List.append_nil] at hca
       exact key _ a1 (HL.ptrs (fun p hp=>h1 p (List.mem_append_left _ hp)) (a2.append hca))
      exact h.elim
     exact h.elim
    exact h.elim
end
end Go.Vy
namespace Go.Vy
open Go.Vg Go.RowKit
def gOf (s:SS) (t:Nat):Option (Gs×DV):=match getG s.gl t with
 |some e=>some e
 |none=>match getS s.sl t with
  |some d=>some ([],d)
  |none=>none
def go1 (s:SS) (t:Nat) (want:Bool) (k:Prop→Prop):Prop:=match gOf s t with
 |some (_,.c (.b p _))=>bif want then k p else k (¬p)
 |some (_,.c (.v (.bool b)))=>k (b=want)
 |_=>False
def gpK (s:SS):Gs→(Prop→Prop)→Prop
 |[],k=>k True
 |(t,want)::r,k=>go1 s t want fun p=>match r with
  |[]=>k p
  |_=>gpK s r fun q=>k (p∧q)
def skipK (N:Nat) (o:Oper) (s:SS) (K:SS→Prop):Prop:=match o.dst with
 |some d=>bif Nat.ble (d+1) N then putK s d (.t []) K else False
 |none=>bif calm o then False else K s
def litG (t:Nat) (b:Bool):List (Nat×Gs×DV)→List (Nat×DV)→List (Nat×Gs×DV)→(List (Nat×DV)→List (Nat×Gs×DV)→Prop)→Prop
 |[],sl,g2,k=>k sl g2
 |(d,gs,v)::r,sl,g2,k=>bif apG d r then (match gs with
  |[(t',b')]=>bif Nat.beq t' t then (bif b'==b then litG t b r ((d,v)::sl) g2 k else litG t b r ((d,.t [])::sl) g2 k) else litG t b r sl g2 k
  |[p,(t',b')]=>bif Nat.beq t' t then (bif b'==b then litG t b r sl ((d,[p],v)::g2) k else litG t b r ((d,.t [])::sl) g2 k) else litG t b r sl g2 k
  |_=>litG t b r sl g2 k) else False
def litK (t:Nat) (b:Bool) (s:SS) (k:SS→Prop):Prop:=match s with
 |⟨sl,gl,bl,fl⟩=>litG t b gl ((t,.c (.v (.bool b)))::sl) [] fun sl' gl'=>k ⟨sl',gl',bl,fl⟩
def V1t (P:Program) (T:TT) (nb N:Nat) (only:Bool) (o:Oper) (t:Nat) (want:Bool) (s:SS) (K:SS→Prop):Prop:=match gOf s t with
 |some ([],.c (.b p _))=>(p→litK t true s fun s'=>bif want then exU P T nb N only o s' K else skipK N o s' K)∧(¬p→litK t false s fun s'=>bif want then skipK N o s' K else exU P T nb N only o s' K)
 |_=>False
def V1 (P:Program) (T:TT) (nb N:Nat) (l0:List Oper) (only:Bool) (o:Oper) (s:SS) (K:SS→Prop):Prop:=match o.guard with
 |none=>exU P T nb N only o s K
 |some (j,want)=>match l0[j]? with
  |none=>False
  |some oj=>match oj.dst with
   |none=>False
   |some t=>match gOf s t with
    |some (gs,.c (.v (.bool b)))=>bif gs.isEmpty then (bif b==want then exU P T nb N only o s K else skipK N o s K) else False
    |some (gs,.t [])=>bif gs.isEmpty then skipK N o s K else False
    |some (gs,.c (.b p _))=>bif calm o then (match o.dst with
     |some d=>bif Nat.ble (d+1) N then gpK s ((t,want)::gs) fun q=>E1 T (some q) ((t,want)::gs) s o.op fun v=>putG s d ((t,want)::gs) v K else False
     |none=>False)
     else match gs with
      |[]=>(p→litK t true s fun s'=>bif want then exU P T nb N only o s' K else skipK N o s' K)∧(¬p→litK t false s fun s'=>bif want then skipK N o s' K else exU P T nb N only o s' K)
      |[(t1,w1)]=>(match gOf s t1 with
       |some ([],.c (.b p1 _))=>(p1→litK t1 true s fun s'=>bif w1 then V1t P T nb N only o t want s' K else skipK N o s' K)∧(¬p1→litK t1 false s fun s'=>bif w1 then skipK N o s' K else V1t P T nb N only o t want s' K)
       |_=>False)
      |_=>False
    |_=>False
def VL (P:Program) (T:TT) (nb N:Nat) (l0:List Oper):List Oper→(SS→Prop)→SS→Prop
 |[],K,s=>(match s with
  |⟨sl,_,bl,fl⟩=>K ⟨sl,[],bl,fl⟩)
 |o::l,K,s=>V1 P T nb N l0 false o s fun s'=>VL P T nb N l0 l K s'
def VD (P:Program) (T:TT) (nb N:Nat) (l0:List Oper):List (Nat×Bool)→(SS→Prop)→SS→Prop
 |[],K,s=>(match s with
  |⟨sl,_,bl,fl⟩=>K ⟨sl,[],bl,fl⟩)
 |(i,last)::l,K,s=>match l0[i]? with
  |some o=>V1 P T nb N l0 (!last) o s fun s'=>VD P T nb N l0 l K s'
  |none=>False
def tailOk (ops:Array Oper) (r:List (Nat×Bool)):Bool:=r.all fun e=>match ops[e.1]? with
 |some o=>bif calm o then !isRd o else e.2
 |none=>false
def schedOk (ops:Array Oper):Array Bool→List (Nat×Bool)→Bool
 |listed,[]=>(Region.ready .any ops listed).isEmpty
 |listed,(i,last)::r=>(match ops[i]? with
  |some o=>bif calm o then takeOk ops listed i else ((Region.ready .any ops listed==[i])&&(!last||(lastOp ops i&&tailOk ops r)))
  |none=>false)&&schedOk ops (listed.setIfInBounds i true) r
section
variable {P:Program} {T:TT} (hT:Good P T) {w0 w:World} {nb N:Nat} {s:SS} {ρ ρ0:Pl} {f:Nat→Value} {only:Bool} {ops:Array Oper} {o:Oper} {K:SS→Prop}
def Wt (N:Nat) (ops:Array Oper) (f:Nat→Value) (o:Oper) (b:Bool):Prop:=∀a,Fm N f a→Region.wanted o (yielded ops a.tmps)=b
abbrev Cn (ρ0:Pl) (w0:World) (nb:Nat) (only:Bool) (w:World) (K:SS→Prop) (f':Nat→Value) (w':World):Prop:=∃s' ρ',K s'∧Dn ρ0 w0 nb s' ρ' f' w'∧(only=true→Ext w w')
inductive Res (P:Program) (N:Nat) (ops:Array Oper) (f:Nat→Value) (o:Oper) (w:World) (C:(Nat→Value)→World→Prop):Prop
 |done (hc:calm o=false) (hw:Wt N ops f o true) (h:Stp P N f o w C)
 |no (hw:Wt N ops f o false) (d:Nat) (hd:o.dst=some d) (hn:d<N) (h:C (st f d undef) w)
 |no0 (hc:calm o=false) (hw:Wt N ops f o false) (hd:o.dst=none) (h:C f w)
 |calm (hc:calm o=true) (hw:Wt N ops f o true) (d:Nat) (v:Value) (hd:o.dst=some d) (hn:d<N) (hr:∀u,(isRd o=true→Ext w u)→(execOp (ev f) o).run P u= .ok (.value v) u) (h:C (st f d v) w)
theorem gOf_ok {t:Nat} {gs:Gs} {d:DV} (h:gOf s t=some (gs,d)) (hF:Fr s ρ w f):(sat f gs→Hd ρ s.bl.length w d (f t))∧(¬sat f gs→f t=undef):=by
 unfold gOf at h
 split at h
 ·next e he=>injection h with h;subst h;exact hF.gl t gs d he
 split at h
 ·next d' hd=>injection h with h;injection h with h1 h2;subst h1 h2;exact⟨fun _=>hF.sl t _ hd,fun hn=>absurd sat_nil hn⟩
 cases h
theorem undef_ne {b:Bool}:(undef:Value)≠.bool b:=fun h=>by cases h
theorem go1_ok {t:Nat} {want:Bool} {k:Prop→Prop} (h:go1 s t want k) (hF:Fr s ρ w f):∃q,k q∧(f t= .bool want→q):=by
 unfold go1 at h
 split at h
 ·next gs p hp he=>
  have hh:=gOf_ok he hF
  have key:f t= .bool want→decide p=want:=fun hf=>by
   by_cases hs:sat f gs
   ·have:=(hh.1 hs).inv_c.inv_b
    rw[hf] at this
    injection this with this
    exact this.symm
   rw[hh.2 hs] at hf;exact absurd hf undef_ne
  cases want with
  |true=>exact⟨p,h,fun hf=>of_decide_eq_true (key hf)⟩
  |false=>exact⟨¬p,h,fun hf=>of_decide_eq_false (key hf)⟩
 ·next gs b he=>
  have hh:=gOf_ok he hF
  refine⟨_,h,fun hf=>?_⟩
  by_cases hs:sat f gs
  ·have:=(hh.1 hs).inv_c.inv_v
   rw[hf] at this
   injection this with this
   exact this.symm
  rw[hh.2 hs] at hf;exact absurd hf undef_ne
 exact h.elim
theorem gpK_ok:∀{gs:Gs} {k:Prop→Prop},gpK s gs k→Fr s ρ w f→∃q,k q∧(sat f gs→q)
 |[],k,h,_=>⟨True,h,fun _=>trivial⟩
 |(t,want)::r,k,h,hF=>by
  obtain⟨q,h1,h2⟩:=go1_ok (show go1 s t want _ from h) hF
  have hr:sat f ((t,want)::r)→sat f r:=fun hs p hp=>hs p (.tail _ hp)
  split at h1
  ·exact⟨q,h1,fun hs=>h2 (hs _ (.head _))⟩
  obtain⟨q2,h3,h4⟩:=gpK_ok h1 hF
  exact⟨_,h3,fun hs=>⟨h2 (hs _ (.head _)),h4 (hr hs)⟩⟩
theorem wt_none (hg:o.guard=none):Wt N ops f o true:=fun a _=>by simp[Region.wanted,hg]
theorem wt_some {j t:Nat} {want b:Bool} (hg:o.guard=some (j,want)) (hj:(ops[j]?).bind (·.dst)=some t) (hf:f t= .bool b):Wt N ops f o (b==want):=fun a ha=>wanted_of ha hg hj hf
theorem wt_un {j t:Nat} {want:Bool} (hg:o.guard=some (j,want)) (hj:(ops[j]?).bind (·.dst)=some t) (hf:f t=undef):Wt N ops f o false:=fun a ha=>unwanted_of ha hg hj (.inr hf)
theorem hd_un {ρ:Pl} {n:Nat} {w:World} {x:Value} (h:x=undef):Hd ρ n w (.t []) x:=by subst h;exact .t (l:=[]) (vl:=[]) rfl fun i d u h=>by cases h
theorem litG_ok {t:Nat} {b:Bool} (hf:f t= .bool b) {n:Nat}:∀{gl:List (Nat×Gs×DV)} {sl:List (Nat×DV)} {g2:List (Nat×Gs×DV)} {k:List (Nat×DV)→List (Nat×Gs×DV)→Prop},litG t b gl sl g2 k→(∀t d,getS sl t=some d→Hd ρ n w d (f t))→(∀t gs d,getG gl t=some (gs,d)→(sat f gs→Hd ρ n w d (f t))∧(¬sat f gs→f t=undef))→(∀t gs d,getG g2 t=some (gs,d)→(sat f gs→Hd ρ n w d (f t))∧(¬sat f gs→f t=undef))→
 ∃sl' gl',k sl' gl'∧(∀t d,getS sl' t=some d→Hd ρ n w d (f t))∧∀t gs d,getG gl' t=some (gs,d)→(sat f gs→Hd ρ n w d (f t))∧(¬sat f gs→f t=undef)
 |[],sl,g2,k,h,hs,_,hg2=>⟨sl,g2,h,hs,hg2⟩
 |(d,gs,v)::r,sl,g2,k,h,hs,hg,hg2=>by
  have hrest:apG d r=true→∀t gs d',getG r t=some (gs,d')→(sat f gs→Hd ρ n w d' (f t))∧(¬sat f gs→f t=undef):=fun hb t2 gs d' h2=>by
   have hne:=(apG_ok hb h2).1
   refine hg t2 gs d' ?_
   unfold getG
   cases hb2:Nat.beq d t2 with
   |true=>exact absurd (Nat.eq_of_beq_eq_true hb2).symm hne
   |false=>exact h2
  have hhd:getG ((d,gs,v)::r) d=some (gs,v):=by unfold getG;rw[Nat.beq_refl];rfl
  have put:∀{x:DV},Hd ρ n w x (f d)→∀t d',getS ((d,x)::sl) t=some d'→Hd ρ n w d' (f t):=fun {x} hx t2 d' h2=>by
   unfold getS at h2
   cases hb2:Nat.beq d t2 with
   |true=>
    rw[hb2] at h2
    injection h2 with h2
    subst h2
    have:=Nat.eq_of_beq_eq_true hb2
    subst this
    exact hx
   |false=>rw[hb2] at h2;exact hs t2 d' h2
  simp only[litG] at h
  cases hap:apG d r with
  |false=>rw[hap] at h;exact h.elim
  |true=>
  rw[hap] at h
  simp only[cond_true] at h
  split at h
  ·next t' b'=>
   cases hb:Nat.beq t' t with
   |false=>rw[hb] at h;exact litG_ok hf h hs (hrest hap) hg2
   |true=>
    rw[hb] at h
    have e1:=Nat.eq_of_beq_eq_true hb
    subst e1
    simp only[cond_true] at h
    cases hbb:(b'==b) with
    |false=>
     rw[hbb] at h
     refine litG_ok hf h (put (hd_un ((hg d _ v hhd).2 fun hs=>?_))) (hrest hap) hg2
     have:=hs _ (.head _)
     rw[hf] at this
     injection this with this
     rw[this] at hbb
     simp at hbb
    |true=>
     rw[hbb] at h
     have e2:=eq_of_beq hbb
     subst e2
     exact litG_ok hf h (put ((hg d _ v hhd).1 fun p hp=>by rw[List.mem_singleton.1 hp];exact hf)) (hrest hap) hg2
  ·next p t' b'=>
   cases hb:Nat.beq t' t with
   |false=>rw[hb] at h;exact litG_ok hf h hs (hrest hap) hg2
   |true=>
    rw[hb] at h
    have e1:=Nat.eq_of_beq_eq_true hb
    subst e1
    simp only[cond_true] at h
    cases hbb:(b'==b) with
    |false=>
     rw[hbb] at h
     refine litG_ok hf h (put (hd_un ((hg d _ v hhd).2 fun hs=>?_))) (hrest hap) hg2
     have:=hs (t',b') (.tail _ (.head _))
     rw[hf] at this
     injection this with this
     rw[this] at hbb
     simp at hbb
    |true=>
     rw[hbb] at h
     have e2:=eq_of_beq hbb
     subst e2
     have hiff:sat f [p]↔sat f [p,(t',b')]:=⟨fun hs q hq=>by
      rcases List.mem_cons.1 hq with rfl|hq
      ·exact hs _ (.head _)
      rw[List.mem_singleton.1 hq];exact hf,fun hs q hq=>by rw[List.mem_singleton.1 hq];exact hs _ (.head _)⟩
     refine litG_ok hf h hs (hrest hap) fun t2 gs d' h2=>?_
     unfold getG at h2
     cases hb2:Nat.beq d t2 with
     |true=>
      rw[hb2] at h2
      injection h2 with h2
      injection h2 with h3 h4
      subst h3 h4
      have:=Nat.eq_of_beq_eq_true hb2
      subst this
      obtain⟨a1,a2⟩:=hg d _ v hhd
      exact⟨fun hs=>a1 (hiff.1 hs),fun hs=>a2 fun h=>hs (hiff.2 h)⟩
     |false=>rw[hb2] at h2;exact hg2 t2 gs d' h2
  exact litG_ok hf h hs (hrest hap) hg2
theorem Dn.lit {t:Nat} {b:Bool} {k:SS→Prop} (h:litK t b s k) (hD:Dn ρ0 w0 nb s ρ f w) (hf:f t= .bool b):∃s',k s'∧Dn ρ0 w0 nb s' ρ f w:=by
 obtain⟨sl,gl,bl,fl⟩:=s
 obtain⟨sl',gl',h1,h2,h3⟩:=litG_ok (ρ:=ρ) (w:=w) (n:=bl.length) hf (show litG t b gl _ _ _ from h) (fun t' d ht=>by
  simp only[getS] at ht
  cases he:Nat.beq t t' with
  |true=>
   rw[he] at ht
   injection ht with ht
   subst ht
   have:=Nat.eq_of_beq_eq_true he
   subst this
   rw[hf]
   exact .c (Rc.v _)
  |false=>rw[he] at ht;exact hD.f.sl t' d ht) (fun t gs d ht=>hD.f.gl t gs d ht) (fun t gs d ht=>by cases ht)
 exact⟨_,h1,hD.m,⟨h2,h3⟩,hD.l⟩
theorem skip_res (h:skipK N o s K) (hw:Wt N ops f o false) (hD:Dn ρ0 w0 nb s ρ f w):Res P N ops f o w (Cn ρ0 w0 nb only w K):=by
 unfold skipK at h
 split at h
 ·next d hd=>
  cases hn:Nat.ble (d+1) N with
  |false=>rw[hn] at h;exact h.elim
  |true=>
   rw[hn] at h
   obtain⟨s',h1,h2⟩:=hD.put (x:=undef) h (hd_un rfl)
   exact .no hw d hd (Nat.le_of_ble_eq_true hn) ⟨s',ρ,h1,h2,fun _=>Ext.refl w⟩
 next hd=>
 cases hc:calm o with
 |true=>rw[hc] at h;exact h.elim
 |false=>rw[hc] at h;exact .no0 hc hw hd ⟨s,ρ,h,hD,fun _=>Ext.refl w⟩
include hT in
theorem exU_res (h:exU P T nb N only o s K) (hw:Wt N ops f o true) (hD:Dn ρ0 w0 nb s ρ f w):Res P N ops f o w (Cn ρ0 w0 nb only w K):=by
 cases hc:calm o with
 |false=>exact .done hc hw (exU_ok hT h hD)
 |true=>
  unfold exU at h
  rw[hc] at h
  simp only[cond_true] at h
  split at h
  ·next d hd=>
   cases hn:Nat.ble (d+1) N with
   |false=>rw[hn] at h;exact h.elim
   |true=>
    rw[hn] at h
    simp only[cond_true] at h
    obtain⟨dv,h1,h2⟩:=E1_ok (P:=P) (o:=o) (pg:=none) hT h hD (fun _=>trivial)
    obtain⟨v,h3,h4⟩:=h2 sat_nil
    obtain⟨s',h5,h6⟩:=hD.put h1 h3
    exact .calm hc hw d v hd (Nat.le_of_ble_eq_true hn) h4 ⟨s',ρ,h5,h6,fun _=>Ext.refl w⟩
  exact h.elim
include hT in
theorem V1t_ok {j t:Nat} {want:Bool} (hg:o.guard=some (j,want)) (hj:(ops[j]?).bind (·.dst)=some t) (hc:calm o=false) (h:V1t P T nb N only o t want s K) (hD:Dn ρ0 w0 nb s ρ f w):Res P N ops f o w (Cn ρ0 w0 nb only w K):=by
 unfold V1t at h
 split at h
 ·next p hp hgo=>
  have hf:f t= .bool (decide p):=((gOf_ok hgo hD.f).1 sat_nil).inv_c.inv_b
  have hw:=wt_some (N:=N) hg hj hf
  by_cases hpp:p
  ·rw[decide_eq_true hpp] at hf hw
   obtain⟨s',h',hD'⟩:=hD.lit (h.1 hpp) hf
   cases want with
   |true=>exact exU_res hT h' hw hD'
   |false=>exact skip_res h' hw hD'
  rw[decide_eq_false hpp] at hf hw
  obtain⟨s',h',hD'⟩:=hD.lit (h.2 hpp) hf
  cases want with
  |true=>exact skip_res h' hw hD'
  |false=>exact exU_res hT h' hw hD'
 exact h.elim
include hT in
theorem V1_ok (h:V1 P T nb N ops.toList only o s K) (hD:Dn ρ0 w0 nb s ρ f w):Res P N ops f o w (Cn ρ0 w0 nb only w K):=by
 unfold V1 at h
 split at h
 ·next hg=>exact exU_res hT h (wt_none hg) hD
 next j want hg=>
 split at h
 ·exact h.elim
 next oj hoj=>
 split at h
 ·exact h.elim
 next t ht=>
 have hj:(ops[j]?).bind (·.dst)=some t:=by
  rw[←Array.getElem?_toList,hoj]
  exact ht
 split at h
 ·next gs b hgo=>
  cases hge:gs.isEmpty with
  |false=>rw[hge] at h;exact h.elim
  |true=>
   rw[hge] at h
   simp only[cond_true] at h
   have hgs:gs=[]:=by simpa using hge
   subst hgs
   have hf:f t= .bool b:=((gOf_ok hgo hD.f).1 sat_nil).inv_c.inv_v
   have hw:=wt_some (N:=N) hg hj hf
   cases hbw:(b==want) with
   |true=>
    rw[hbw] at h hw
    exact exU_res hT h hw hD
   |false=>
    rw[hbw] at h hw
    exact skip_res h hw hD
 ·next gs hgo=>
  cases hge:gs.isEmpty with
  |false=>rw[hge] at h;exact h.elim
  |true=>
   rw[hge] at h
   simp only[cond_true] at h
   have hgs:gs=[]:=by simpa using hge
   subst hgs
   have hf:f t=undef:=by
    have:=(gOf_ok hgo hD.f).1 sat_nil
    generalize f t=x at this
    cases this with
    |t h _=>rw[List.eq_nil_of_length_eq_zero h.symm];rfl
   exact skip_res h (wt_un hg hj hf) hD
 ·next gs p hp hgo=>
  have hgk:=gOf_ok hgo hD.f
  cases hc:calm o with
  |true=>
   rw[hc] at h
   simp only[cond_true] at h
   split at h
   ·next d hd=>
    cases hn:Nat.ble (d+1) N with
    |false=>rw[hn] at h;exact h.elim
    |true=>
     rw[hn] at h
     simp only[cond_true] at h
     obtain⟨q,h1,hq⟩:=gpK_ok h hD.f
     obtain⟨dv,h2,h3⟩:=E1_ok (P:=P) (o:=o) (pg:=some q) hT h1 hD hq
     have hn':=Nat.le_of_ble_eq_true hn
     by_cases hs:sat f ((t,want)::gs)
     ·obtain⟨v,h4,h5⟩:=h3 hs
      obtain⟨s',h6,h7⟩:=hD.putg h2 (fun _=>h4) (fun hn=>absurd hs hn)
      have hw:=wt_some (N:=N) hg hj (hs _ (.head _))
      rw[show(want==want)=true by cases want<;>rfl] at hw
      exact .calm hc hw d v hd hn' h5 ⟨s',ρ,h6,h7,fun _=>Ext.refl w⟩
     obtain⟨s',h6,h7⟩:=hD.putg (x:=undef) h2 (fun h=>absurd h hs) (fun _=>rfl)
     have hw:Wt N ops f o false:=by
      by_cases hs0:sat f gs
      ·have hf:f t= .bool (decide p):=(hgk.1 hs0).inv_c.inv_b
       have hw:=wt_some (N:=N) hg hj hf
       have:(decide p==want)=false:=by
        cases hdw:(decide p==want) with
        |false=>rfl
        |true=>
         have:=eq_of_beq hdw
         rw[this] at hf
         exact absurd (sat_cons hf hs0) hs
       rw[this] at hw
       exact hw
      exact wt_un hg hj (hgk.2 hs0)
     exact .no hw d hd hn' ⟨s',ρ,h6,h7,fun _=>Ext.refl w⟩
   exact h.elim
  |false=>
   rw[hc] at h
   simp only[cond_false] at h
   split at h
   ·have hf:f t= .bool (decide p):=(hgk.1 sat_nil).inv_c.inv_b
    have hw:=wt_some (N:=N) hg hj hf
    by_cases hpp:p
    ·rw[decide_eq_true hpp] at hf hw
     obtain⟨s',h',hD'⟩:=hD.lit (h.1 hpp) hf
     cases want with
     |true=>exact exU_res hT h' hw hD'
     |false=>exact skip_res h' hw hD'
    rw[decide_eq_false hpp] at hf hw
    obtain⟨s',h',hD'⟩:=hD.lit (h.2 hpp) hf
    cases want with
    |true=>exact skip_res h' hw hD'
    |false=>exact exU_res hT h' hw hD'
   ·next t1 w1=>
    split at h
    ·next p1 hp1 hgo1=>
     have hf1:f t1= .bool (decide p1):=((gOf_ok hgo1 hD.f).1 sat_nil).inv_c.inv_b
     have out:∀b,f t1= .bool b→b≠w1→Wt N ops f o false:=fun b hf hne=>by
      refine wt_un hg hj (hgk.2 fun hs=>hne ?_)
      have:=hs _ (.head _)
      rw[hf] at this
      injection this
     by_cases hpp:p1
     ·rw[decide_eq_true hpp] at hf1
      obtain⟨s',h',hD'⟩:=hD.lit (h.1 hpp) hf1
      cases w1 with
      |true=>exact V1t_ok hT hg hj hc h' hD'
      |false=>exact skip_res h' (out _ hf1 dC) hD'
     rw[decide_eq_false hpp] at hf1
     obtain⟨s',h',hD'⟩:=hD.lit (h.2 hpp) hf1
     cases w1 with
     |true=>exact skip_res h' (out _ hf1 dC) hD'
     |false=>exact V1t_ok hT hg hj hc h' hD'
    exact h.elim
   exact h.elim
 exact h.elim
theorem RL.stp {rest:List Oper} {Q:Po} (hw:Wt N ops f o true) (h:Stp P N f o w fun f' w'=>RL P N ops rest Q f' w'):RL P N ops (o::rest) Q f w:=fun a ha=>
 wpList_step fun K hK=>by
  rw[hw a ha]
  simp only[if_true]
  unfold Oper.wp
  cases h with
  |val hd hn hr h=>rw[ha.eval,hr];exact hK _ _ (h _ (by rw[hd];exact ha.put hn _))
  |skip hd hr h=>rw[ha.eval,hr];exact hK _ _ (h _ (by rw[hd];exact ha))
  |call hd hn hr hc h=>
   rw[ha.eval,hr]
   refine hc.mono fun e w1 ⟨u,he,hp⟩=>?_
   subst he
   exact hK _ _ (h u w1 hp _ (by rw[hd];exact ha.put hn u))
theorem RL.not {rest:List Oper} {Q:Po} {d:Nat} (hw:Wt N ops f o false) (hd:o.dst=some d) (hn:d<N) (h:RL P N ops rest Q (st f d undef) w):RL P N ops (o::rest) Q f w:=fun a ha=>
 wpList_step fun K hK=>by
  rw[hw a ha]
  simp only[Bool.false_eq_true,if_false]
  exact hK _ _ (h _ (by rw[hd];exact ha.put hn undef))
theorem RL.not0 {rest:List Oper} {Q:Po} (hw:Wt N ops f o false) (hd:o.dst=none) (h:RL P N ops rest Q f w):RL P N ops (o::rest) Q f w:=fun a ha=>
 wpList_step fun K hK=>by
  rw[hw a ha]
  simp only[Bool.false_eq_true,if_false]
  exact hK _ _ (h _ (by rw[hd];exact ha))
include hT in
theorem VL_ok {Q:Po} (hQ:∀s ρ f w,K s→Dn ρ0 w0 nb s ρ f w→Q.nrm f w):∀{l:List Oper} {s:SS} {ρ:Pl} {f:Nat→Value} {w:World},VL P T nb N ops.toList l K s→Dn ρ0 w0 nb s ρ f w→RL P N ops l Q f w
 |[],s,ρ,f,w,h,hD=>by
  obtain⟨sl,gl,bl,fl⟩:=s
  refine RL.nil (hQ _ ρ f w h ⟨hD.m,⟨hD.f.sl,fun t gs d ht=>?_⟩,hD.l⟩)
  cases ht
 |o::l,s,ρ,f,w,h,hD=>by
  cases V1_ok hT (show V1 P T nb N ops.toList false o s _ from h) hD with
  |done hc hw hs=>
   refine RL.stp hw ?_
   cases hs with
   |val hd hn hr h=>obtain⟨s',ρ',h1,h2,_⟩:=h;exact .val hd hn hr (VL_ok hQ h1 h2)
   |skip hd hr h=>obtain⟨s',ρ',h1,h2,_⟩:=h;exact .skip hd hr (VL_ok hQ h1 h2)
   |call hd hn hr hc h=>exact .call hd hn hr hc fun v w' hp=>by obtain⟨s',ρ',h1,h2,_⟩:=h v w' hp;exact VL_ok hQ h1 h2
  |no hw d hd hn h=>obtain⟨s',ρ',h1,h2,_⟩:=h;exact RL.not hw hd hn (VL_ok hQ h1 h2)
  |no0 hc hw hd h=>obtain⟨s',ρ',h1,h2,_⟩:=h;exact RL.not0 hw hd (VL_ok hQ h1 h2)
  |calm hc hw d v hd hn hr h=>obtain⟨s',ρ',h1,h2,_⟩:=h;exact RL.stp hw (.val hd hn (hr w fun _=>Ext.refl w) (VL_ok hQ h1 h2))
/-! ### whatever order -/
abbrev Sx (w:World):World→Prop:=fun u=>Below w.heap.size w u
theorem RA.stp {Q:Po} {S:World→Prop} {fuel i:Nat} {listed:Array Bool} (hi:ops[i]? =some o) (hr:Region.ready .any ops listed=[i]) (hw:Wt N ops f o true)
 (h:Stp P N f o w fun f' w'=>Oks ops S i w w'∧RA P N ops Q S fuel (listed.setIfInBounds i true) f' w'):RA P N ops Q S (fuel+1) listed f w:=fun a ha=>by
 refine⟨fun h0=>(by rw[hr] at h0;cases h0),fun j hj=>?_⟩
 rw[hr] at hj
 have:=List.mem_singleton.1 hj
 subst this
 unfold wpOp
 simp only[hi,hw a ha,if_true]
 refine .inl ?_
 unfold Oper.wp
 cases h with
 |val hd hn hr h=>rw[ha.eval,hr];exact⟨h.1,h.2 _ (by rw[hd];exact ha.put hn _)⟩
 |skip hd hr h=>rw[ha.eval,hr];exact⟨h.1,h.2 _ (by rw[hd];exact ha)⟩
 |call hd hn hr hc h=>
  rw[ha.eval,hr]
  refine hc.mono fun e w1 ⟨u,he,hp⟩=>?_
  subst he
  obtain⟨h1,h2⟩:=h u w1 hp
  exact⟨h1,h2 _ (by rw[hd];exact ha.put hn u)⟩
theorem RA.nots {Q:Po} {S:World→Prop} {fuel i:Nat} {listed:Array Bool} {f':Nat→Value} (hi:ops[i]? =some o) (hr:Region.ready .any ops listed=[i]) (hw:Wt N ops f o false) (hf:(∃d,o.dst=some d∧d<N∧f'=st f d undef)∨(o.dst=none∧f'=f)) (hS:Oks ops S i w w)
 (h:RA P N ops Q S fuel (listed.setIfInBounds i true) f' w):RA P N ops Q S (fuel+1) listed f w:=fun a ha=>by
 refine⟨fun h0=>(by rw[hr] at h0;cases h0),fun j hj=>?_⟩
 rw[hr] at hj
 have:=List.mem_singleton.1 hj
 subst this
 unfold wpOp
 simp only[hi,hw a ha,Bool.false_eq_true,if_false]
 refine⟨hS,h _ ?_⟩
 rcases hf with ⟨d,hd,hn,rfl⟩|⟨hd,rfl⟩
 ·rw[hd];exact ha.put hn undef
 rw[hd];exact ha
def Sn (ops:Array Oper) (order:List (Nat×Bool)) (w:World) (S:World→Prop):Prop:=(∀u,Ext w u↔S u)∨tailOk ops order=true
include hT in
theorem VD_ok {Q:Po} (hQ:∀s ρ f w,K s→Dn ρ0 w0 nb s ρ f w→Q.nrm f w):∀{order:List (Nat×Bool)} {listed:Array Bool} {fuel:Nat} {s:SS} {ρ:Pl} {f:Nat→Value} {w:World} {S:World→Prop},VD P T nb N ops.toList order K s→schedOk ops listed order=true→order.length≤fuel→Sn ops order w S→Dn ρ0 w0 nb s ρ f w→RA P N ops Q S fuel listed f w
 |[],listed,fuel,s,ρ,f,w,S,h,hs,_,_,hD=>by
  obtain⟨sl,gl,bl,fl⟩:=s
  refine RA.done (by simpa[schedOk] using hs) (hQ _ ρ f w h ⟨hD.m,⟨hD.f.sl,fun t gs d ht=>?_⟩,hD.l⟩)
  cases ht
 |(i,last)::order,listed,0,s,ρ,f,w,S,h,hs,hl,_,hD=>by simp at hl
 |(i,last)::order,listed,fuel+1,s,ρ,f,w,S,h,hs,hl,hSn,hD=>by
  have hl':order.length≤fuel:=by simpa using hl
  simp only[schedOk,Bool.and_eq_true] at hs
  unfold VD at h
  split at h
  ·next o ho=>
   have hi:ops[i]? =some o:=by rw[←Array.getElem?_toList];exact ho
   obtain⟨hs1,hs2⟩:=hs
   rw[hi] at hs1
   simp only at hs1
   have same:Sn ops order w S:=by
    rcases hSn with h|h
    ·exact .inl h
    simp only[tailOk,List.all_cons,Bool.and_eq_true] at h;exact .inr h.2
   have htl:tailOk ops ((i,last)::order)=true→(calm o=false→last=true)∧(calm o=true→isRd o=false):=fun ht=>by
    simp only[tailOk,List.all_cons,Bool.and_eq_true,hi] at ht
    have h1:=ht.1
    constructor
    ·intro hc;rw[hc] at h1;exact h1
    intro hc;rw[hc] at h1;simpa using h1
   cases V1_ok hT h hD with
   |done hc hw hst=>
    rw[hc] at hs1
    simp only[cond_false,Bool.and_eq_true,Bool.or_eq_true,Bool.not_eq_true',beq_iff_eq] at hs1
    have cont:∀{f':Nat→Value} {w':World},Cn ρ0 w0 nb (!last) w (fun s'=>VD P T nb N ops.toList order K s') f' w'→Oks ops S i w w'∧RA P N ops Q S fuel (listed.setIfInBounds i true) f' w':=fun {f' w'} hh=>by
     obtain⟨s',ρ',h1,h2,h3⟩:=hh
     cases hlast:last with
     |false=>
      have he:Ext w w':=h3 (by rw[hlast];rfl)
      rcases hSn with h|h
      ·refine⟨.inr (.inr ((h w').1 he)),?_⟩
       exact RA.more (S':=Sx w') (fun u hu=>(h u).1 (Ext.trans he hu)) (VD_ok hQ h1 hs2 hl' (.inl fun u=>Iff.rfl) h2)
      have:=(htl h).1 hc;rw[hlast] at this;cases this
     |true=>
      rcases hs1.2 with h|h
      ·rw[hlast] at h;cases h
      exact⟨.inr (.inl h.1),VD_ok hQ h1 hs2 hl' (.inr h.2) h2⟩
    refine RA.stp hi hs1.1 hw ?_
    cases hst with
    |val hd hn hr h=>exact .val hd hn hr (cont h)
    |skip hd hr h=>exact .skip hd hr (cont h)
    |call hd hn hr hc h=>exact .call hd hn hr hc fun v w' hp=>cont (h v w' hp)
   |no hw d hd hn h=>
    obtain⟨s',ρ',h1,h2,_⟩:=h
    have hr:=VD_ok hQ h1 hs2 hl' same h2
    cases hc:calm o with
    |true=>
     rw[hc] at hs1
     exact RA.take0 (S0:=fun _=>True) i hi hs1 (.inl fun _=>trivial) trivial hd hn (fun a ha=> .inr ⟨hw a ha,rfl⟩) hr
    |false=>
     rw[hc] at hs1
     simp only[cond_false,Bool.and_eq_true,Bool.or_eq_true,Bool.not_eq_true',beq_iff_eq] at hs1
     refine RA.nots hi hs1.1 hw (.inl ⟨d,hd,hn,rfl⟩) ?_ hr
     rcases hSn with h|h
     ·exact .inr (.inr ((h w).1 (Ext.refl w)))
     rcases hs1.2 with h'|h'
     ·have:=(htl h).1 hc;rw[this] at h';cases h'
     exact .inr (.inl h'.1)
   |no0 hc hw hd h=>
    obtain⟨s',ρ',h1,h2,_⟩:=h
    rw[hc] at hs1
    simp only[cond_false,Bool.and_eq_true,Bool.or_eq_true,Bool.not_eq_true',beq_iff_eq] at hs1
    refine RA.nots hi hs1.1 hw (.inr ⟨hd,rfl⟩) ?_ (VD_ok hQ h1 hs2 hl' same h2)
    rcases hSn with h|h
    ·exact .inr (.inr ((h w).1 (Ext.refl w)))
    rcases hs1.2 with h'|h'
    ·have:=(htl h).1 hc;rw[this] at h';cases h'
    exact .inr (.inl h'.1)
   |calm hc hw d v hd hn hr h=>
    obtain⟨s',ρ',h1,h2,_⟩:=h
    rw[hc] at hs1
    have hh:=VD_ok hQ h1 hs2 hl' same h2
    cases hrd:isRd o with
    |true=>
     rcases hSn with h|h
     ·exact RA.take0 (S0:=Sx w) i hi hs1 (.inr ⟨hrd,fun u hu=>(h u).2 hu⟩) (Ext.refl w) hd hn (fun a ha=> .inl ⟨hw a ha,fun u hu=>by rw[ha.eval];exact hr u fun _=>hu⟩) hh
     have:=(htl h).2 hc;rw[hrd] at this;cases this
    |false=>exact RA.take0 (S0:=fun _=>True) i hi hs1 (.inl fun _=>trivial) trivial hd hn (fun a ha=> .inl ⟨hw a ha,fun u _=>by rw[ha.eval];exact hr u fun h=>by rw[hrd] at h;cases h⟩) hh
  exact h.elim
end
/-! ### every order that there is -/
def Gt (nb:Nat) (s:SS) {σ:Type} (S:σ→SS) (C:σ→Prop):Prop:=∀ρ0 w0 ρ f w,Dn ρ0 w0 nb s ρ f w→∃g ρ',C g∧Dn ρ0 w0 nb (S g) ρ' f w
inductive Tr where
 |nil
 |alt (i:Nat) (t r:Tr)
inductive Ord where
 |seq (l:List (Nat×Bool))
 |tree (pre:List Nat) (t:Tr)
 |join (pre:List Nat) (t:Tr)
 |joinR (pre:List Nat) (t:Tr)
 |treeH (pre:List Nat) (t:Tr)
 |joinX (pre rs:List Nat) (t:Tr)
 |treeX (pre rs:List Nat) (t:Tr)
def VT (P:Program) (T:TT) (nb N:Nat) (l0:List Oper):Tr→Bool→(SS→Prop)→SS→Prop
 |.nil,b,K,s=>bif b then (match s with
  |⟨sl,_,bl,fl⟩=>K ⟨sl,[],bl,fl⟩) else True
 |.alt i t r,_,K,s=>match r with
  |.nil=>(match l0[i]? with
   |some o=>V1 P T nb N l0 false o s fun s'=>VT P T nb N l0 t true K s'
   |none=>False)
  |.alt i' t' r'=>(match l0[i]? with
   |some o=>V1 P T nb N l0 false o s fun s'=>VT P T nb N l0 t true K s'
   |none=>False)∧VT P T nb N l0 (.alt i' t' r') false K s
def Tr.heads:Tr→List Nat
 |.nil=>[]
 |.alt i _ r=>i::r.heads
def Tr.depth:Tr→Nat
 |.nil=>0
 |.alt _ t r=>max (t.depth+1) r.depth
def trOk (ops:Array Oper):Tr→Bool→Array Bool→Bool
 |.nil,b,listed=>!b||(Region.ready .any ops listed).isEmpty
 |.alt i t r,b,listed=>(!b||Region.ready .any ops listed==i::r.heads)&&(trOk ops t true (listed.setIfInBounds i true)&&trOk ops r false listed)
def VH (P:Program) (T:TT) (nb N:Nat) (l0:List Oper) (t:Tr):List Nat→(SS→Prop)→SS→Prop
 |[],K,s=>VT P T nb N l0 t true K s
 |i::l,K,s=>match l0[i]? with
  |some o=>V1 P T nb N l0 true o s fun s'=>VH P T nb N l0 t l K s'
  |none=>False
def preOk (ops:Array Oper) (t:Tr):List Nat→Array Bool→Bool
 |[],listed=>trOk ops t true listed
 |i::l,listed=>(match ops[i]? with
  |some o=>calm o&&(!isRd o&&takeOk ops listed i)
  |none=>false)&&preOk ops t l (listed.setIfInBounds i true)
def ixT (i:Nat):Nat:=bif Nat.ble 2000 i then i-2000 else bif Nat.ble 1000 i then i-1000 else i
def VTR (P:Program) (T:TT) (nb N:Nat) (l0:List Oper):Tr→Bool→(SS→Prop)→SS→Prop
 |.nil,b,K,s=>bif b then (match s with
  |⟨sl,_,bl,fl⟩=>K ⟨sl,[],bl,fl⟩) else True
 |.alt i t r,_,K,s=>match r with
  |.nil=>(match l0[ixT i]? with
   |some o=>V1 P T nb N l0 (!Nat.ble 1000 i) o s fun s'=>VTR P T nb N l0 t true K s'
   |none=>False)
  |.alt i' t' r'=>(match l0[ixT i]? with
   |some o=>V1 P T nb N l0 (!Nat.ble 1000 i) o s fun s'=>VTR P T nb N l0 t true K s'
   |none=>False)∧VTR P T nb N l0 (.alt i' t' r') false K s
def headsR:Tr→List Nat
 |.nil=>[]
 |.alt i _ r=>bif Nat.ble 2000 i then [] else ixT i::headsR r
def tailR (ops:Array Oper):Tr→Bool
 |.nil=>true
 |.alt i t r=>(match ops[ixT i]? with
  |some o=>calm o||Nat.ble 1000 i
  |none=>false)&&(tailR ops t&&tailR ops r)
def Tr.isNil:Tr→Bool
 |.nil=>true
 |.alt _ _ _=>false
def hdOk (ops:Array Oper) (i:Nat) (listed:Array Bool):Bool:=match ops[ixT i]? with
 |some o=>calm o&&(!isRd o&&takeOk ops listed (ixT i))
 |none=>false
def trOkR (ops:Array Oper):Tr→Bool→Array Bool→Bool
 |.nil,b,listed=>!b||(Region.ready .any ops listed).isEmpty
 |.alt i t r,b,listed=>bif Nat.ble 2000 i then b&&(r.isNil&&(hdOk ops i listed&&trOkR ops t true (listed.setIfInBounds (ixT i) true))) else (!b||Region.ready .any ops listed==ixT i::headsR r)&&((!Nat.ble 1000 i||(lastOp ops (ixT i)&&tailR ops t))&&(trOkR ops t true (listed.setIfInBounds (ixT i) true)&&trOkR ops r false listed))
def VHR (P:Program) (T:TT) (nb N:Nat) (l0:List Oper) (t:Tr):List Nat→(SS→Prop)→SS→Prop
 |[],K,s=>VTR P T nb N l0 t true K s
 |i::l,K,s=>match l0[i]? with
  |some o=>V1 P T nb N l0 true o s fun s'=>VHR P T nb N l0 t l K s'
  |none=>False
def preOkR (ops:Array Oper) (t:Tr):List Nat→Array Bool→Bool
 |[],listed=>trOkR ops t true listed
 |i::l,listed=>(match ops[i]? with
  |some o=>calm o&&takeOk ops listed i
  |none=>false)&&preOkR ops t l (listed.setIfInBounds i true)
def VTH (P:Program) (T:TT) (nb N:Nat) (l0:List Oper):Tr→Bool→(SS→Prop)→SS→Prop
 |.nil,b,K,s=>bif b then (match s with
  |⟨sl,_,bl,fl⟩=>K ⟨sl,[],bl,fl⟩) else True
 |.alt i t r,_,K,s=>match r with
  |.nil=>(match l0[ixT i]? with
   |some o=>V1 P T nb N l0 false o s fun s'=>VTH P T nb N l0 t true K s'
   |none=>False)
  |.alt i' t' r'=>(match l0[ixT i]? with
   |some o=>V1 P T nb N l0 false o s fun s'=>VTH P T nb N l0 t true K s'
   |none=>False)∧VTH P T nb N l0 (.alt i' t' r') false K s
def trOkH (ops:Array Oper):Tr→Bool→Array Bool→Bool
 |.nil,b,listed=>!b||(Region.ready .any ops listed).isEmpty
 |.alt i t r,b,listed=>bif Nat.ble 2000 i then b&&(r.isNil&&(hdOk ops i listed&&trOkH ops t true (listed.setIfInBounds (ixT i) true))) else (!b||Region.ready .any ops listed==ixT i::headsR r)&&(trOkH ops t true (listed.setIfInBounds (ixT i) true)&&trOkH ops r false listed)
def VHH (P:Program) (T:TT) (nb N:Nat) (l0:List Oper) (t:Tr):List Nat→(SS→Prop)→SS→Prop
 |[],K,s=>VTH P T nb N l0 t true K s
 |i::l,K,s=>match l0[i]? with
  |some o=>V1 P T nb N l0 true o s fun s'=>VHH P T nb N l0 t l K s'
  |none=>False
def preOkH (ops:Array Oper) (t:Tr):List Nat→Array Bool→Bool
 |[],listed=>trOkH ops t true listed
 |i::l,listed=>(match ops[i]? with
  |some o=>calm o&&(!isRd o&&takeOk ops listed i)
  |none=>false)&&preOkH ops t l (listed.setIfInBounds i true)
def detV:CV→Option Value
 |.v x=>some x
 |.h A n c=>some (.slice (A.map fun b=>⟨b,0,none⟩) n c)
 |.hp b o=>some (.pointer (some ⟨b,o,none⟩))
 |.b p h=>some (.bool (@decide p h))
 |.r A n c _ _=>some (.slice A n c)
 |_=>none
def rdC (s:SS) (tp off:Nat):Option CV:=match getS s.sl tp with
 |some (.c (.p j o))=>(match s.bl[j]? with
  |some b=>b.2.2[o+off]?
  |none=>none)
 |some (.c (.q _ _ _ _ get j o))=>(get j)[o+off]?
 |_=>none
abbrev Acc:=List (Nat×Nat×(Value ⊕ Nat))
inductive Key where
 |val (v:Value)
 |own (i n:Nat)
 |bad (k:Nat)
def keyV:Option CV→Key
 |some c=>(match detV c with
  |some v=> .val v
  |none=> .bad 0)
 |none=> .bad 0
def keyO:Option CV→Key
 |some (.s i n)=> .own i n
 |_=> .bad 0
def keyW:Option DV→Key
 |some (.c (.s i n))=> .own i n
 |_=> .bad 1
def curV (s:SS):Acc→List Key
 |[]=>[]
 |(tp,off,.inl _)::r=>keyV (rdC s tp off)::curV s r
 |(tp,off,.inr _)::r=>keyO (rdC s tp off)::curV s r
def wantV (s:SS):Acc→List Key
 |[]=>[]
 |(_,_,.inl v)::r=> .val v::wantV s r
 |(_,_,.inr t)::r=>keyW (getS s.sl t)::wantV s r
def chkK (acc:Acc) (s:SS) (k:Prop):Prop:=curV s acc=wantV s acc∧k
def freD (d:Nat) (acc:Acc):Bool:=acc.all fun e=>!Nat.beq e.1 d&&(match e.2.2 with
 |.inl _=>true
 |.inr t=>!Nat.beq t d)
def freshO (o:Oper) (acc:Acc):Bool:=match o.dst with
 |none=>true
 |some d=>freD d acc
def rdS (s:SS) (tp:Nat):Option (Nat×Nat):=match rdC s tp 0 with
 |some (.s i n)=>some (i,n)
 |_=>none
def rdLK (s:SS) (tp:Nat):Nat→Nat→(List CV→List Value→Prop)→Prop
 |0,_,K=>K [] []
 |n+1,k,K=>match rdC s tp k with
  |some c=>(match detV c with
   |some v=>rdLK s tp n (k+1) fun cs vs=>K (c::cs) (v::vs)
   |none=>False)
  |none=>False
def mkE (tp:Nat):Nat→List Value→Acc→Acc
 |_,[],acc=>acc
 |k,v::r,acc=>(tp,k,.inl v)::mkE tp (k+1) r acc
def V1X (P:Program) (T:TT) (nb N:Nat) (l0:List Oper) (acc:Acc) (i:Nat) (s:SS) (K:SS→Prop):Prop:=match l0[ixT i]? with
 |some o=>bif freshO o acc then V1 P T nb N l0 false o s fun s'=>bif Nat.ble 1000 i then K s' else chkK acc s' (K s') else False
 |none=>False
def VTX (P:Program) (T:TT) (nb N:Nat) (l0:List Oper) (acc:Acc):Tr→Bool→(SS→Prop)→SS→Prop
 |.nil,b,K,s=>bif b then (match s with
  |⟨sl,_,bl,fl⟩=>K ⟨sl,[],bl,fl⟩) else True
 |.alt i t r,_,K,s=>match r with
  |.nil=>V1X P T nb N l0 acc i s fun s'=>VTX P T nb N l0 acc t true K s'
  |.alt i' t' r'=>(V1X P T nb N l0 acc i s fun s'=>VTX P T nb N l0 acc t true K s')∧VTX P T nb N l0 acc (.alt i' t' r') false K s
def VRX (P:Program) (T:TT) (nb N:Nat) (l0:List Oper) (t:Tr):List Nat→Acc→(SS→Prop)→SS→Prop
 |[],acc,K,s=>VTX P T nb N l0 acc t true K s
 |i::l,acc,K,s=>bif Nat.ble 2000 i then (match l0[ixT i]? with
   |some o=>bif calm o&&(!isRd o&&freshO o acc) then V1 P T nb N l0 true o s fun s'=>VRX P T nb N l0 t l acc K s' else False
   |none=>False) else bif Nat.ble 1000 i then False else match l0[i]? with
  |some ⟨some d,.load ty (.tmp tp),_,_,_,none⟩=>(match T ty with
   |some ti=>bif Nat.ble 1 ti.size&&(Nat.ble (d+1) N&&((!Nat.beq tp d)&&freD d acc)) then (bif ti.agg then rdLK s tp ti.size 0 fun cs vs=>putK s d (.a cs) fun s'=>VRX P T nb N l0 t l (mkE tp 0 vs acc) K s'
    else match rdS s tp with
     |some (j,n)=>putK s d (.c (.s j n)) fun s'=>VRX P T nb N l0 t l ((tp,0,.inr d)::acc) K s'
     |none=>rdLK s tp 1 0 fun cs vs=>match cs with
      |[c]=>putK s d (.c c) fun s'=>VRX P T nb N l0 t l (mkE tp 0 vs acc) K s'
      |_=>False) else False
   |none=>False)
  |_=>False
def VHX (P:Program) (T:TT) (nb N:Nat) (l0:List Oper) (rs:List Nat) (t:Tr):List Nat→(SS→Prop)→SS→Prop
 |[],K,s=>VRX P T nb N l0 t rs [] K s
 |i::l,K,s=>match l0[i]? with
  |some o=>V1 P T nb N l0 true o s fun s'=>VHX P T nb N l0 rs t l K s'
  |none=>False
def rdsOk (ops:Array Oper) (t:Tr):List Nat→Array Bool→Bool
 |[],listed=>trOkR ops t true listed
 |i::l,listed=>takeOk ops listed (ixT i)&&rdsOk ops t l (listed.setIfInBounds (ixT i) true)
def preOkX (ops:Array Oper) (rs:List Nat) (t:Tr):List Nat→Array Bool→Bool
 |[],listed=>rdsOk ops t rs listed
 |i::l,listed=>(match ops[i]? with
  |some o=>calm o&&(!isRd o&&takeOk ops listed i)
  |none=>false)&&preOkX ops rs t l (listed.setIfInBounds i true)
def VR (P:Program) (T:TT) (nb N:Nat) (l0:List Oper):Ord→(SS→Prop)→SS→Prop
 |.seq l,K,s=>VD P T nb N l0 l K s
 |.tree pre t,K,s=>VH P T nb N l0 t pre K s
 |.join pre t,K,s=>∃(σ:Type) (S:σ→SS) (C:σ→Prop),VH P T nb N l0 t pre (fun s'=>Gt nb s' S C) s∧∀g,C g→K (S g)
 |.joinR pre t,K,s=>∃(σ:Type) (S:σ→SS) (C:σ→Prop),VHR P T nb N l0 t pre (fun s'=>Gt nb s' S C) s∧∀g,C g→K (S g)
 |.treeH pre t,K,s=>VHH P T nb N l0 t pre K s
 |.joinX pre rs t,K,s=>∃(σ:Type) (S:σ→SS) (C:σ→Prop),VHX P T nb N l0 rs t pre (fun s'=>Gt nb s' S C) s∧∀g,C g→K (S g)
 |.treeX pre rs t,K,s=>VHX P T nb N l0 rs t pre K s
def rgOk (ops:Array Oper):Ord→Bool
 |.seq l=>schedOk ops (Array.replicate ops.size false) l&&Nat.ble l.length ops.size
 |.tree pre t=>preOk ops t pre (Array.replicate ops.size false)&&Nat.ble (pre.length+t.depth) ops.size
 |.join pre t=>preOk ops t pre (Array.replicate ops.size false)&&Nat.ble (pre.length+t.depth) ops.size
 |.joinR pre t=>preOkR ops t pre (Array.replicate ops.size false)&&Nat.ble (pre.length+t.depth) ops.size
 |.treeH pre t=>preOkH ops t pre (Array.replicate ops.size false)&&Nat.ble (pre.length+t.depth) ops.size
 |.treeX pre rs t=>preOkX ops rs t pre (Array.replicate ops.size false)&&Nat.ble (pre.length+(rs.length+t.depth)) ops.size
 |.joinX pre rs t=>preOkX ops rs t pre (Array.replicate ops.size false)&&Nat.ble (pre.length+(rs.length+t.depth)) ops.size
section
variable {P:Program} {T:TT} {nb N:Nat} {ops:Array Oper} {ρ0:Pl} {w0:World} {K:SS→Prop} (hT:Good P T)
abbrev Tru:World→Prop:=fun _=>True
theorem stp_any {o:Oper} {Q:Po} {fuel i:Nat} {listed:Array Bool} {f:Nat→Value} {w:World} (hi:ops[i]? =some o) (hw:Wt N ops f o true)
 (h:Stp P N f o w fun f' w'=>RA P N ops Q Tru fuel (listed.setIfInBounds i true) f' w'):∀a,Fm N f a→wpOp P ops (up N Q) i (fun a' w'=>Oks ops Tru i w w'∧wpAnyF P ops (up N Q) Tru fuel (listed.setIfInBounds i true) a' w') a w:=fun a ha=>by
 unfold wpOp
 simp only[hi,hw a ha,if_true]
 refine .inl ?_
 unfold Oper.wp
 cases h with
 |val hd hn hr h=>rw[ha.eval,hr];exact⟨.inr (.inr trivial),h _ (by rw[hd];exact ha.put hn _)⟩
 |skip hd hr h=>rw[ha.eval,hr];exact⟨.inr (.inr trivial),h _ (by rw[hd];exact ha)⟩
 |call hd hn hr hc h=>
  rw[ha.eval,hr]
  refine hc.mono fun e w1 ⟨u,he,hp⟩=>?_
  subst he
  exact⟨.inr (.inr trivial),h u w1 hp _ (by rw[hd];exact ha.put hn u)⟩
theorem no_any {o:Oper} {Q:Po} {fuel i:Nat} {listed:Array Bool} {f f':Nat→Value} {w:World} (hi:ops[i]? =some o) (hw:Wt N ops f o false) (hf:(∃d,o.dst=some d∧d<N∧f'=st f d undef)∨(o.dst=none∧f'=f))
 (h:RA P N ops Q Tru fuel (listed.setIfInBounds i true) f' w):∀a,Fm N f a→wpOp P ops (up N Q) i (fun a' w'=>Oks ops Tru i w w'∧wpAnyF P ops (up N Q) Tru fuel (listed.setIfInBounds i true) a' w') a w:=fun a ha=>by
 unfold wpOp
 simp only[hi,hw a ha,Bool.false_eq_true,if_false]
 refine⟨.inr (.inr trivial),h _ ?_⟩
 rcases hf with ⟨d,hd,hn,rfl⟩|⟨hd,rfl⟩
 ·rw[hd];exact ha.put hn undef
 rw[hd];exact ha
include hT in
theorem VT_ok {Q:Po} (hQ:∀s ρ f w,K s→Dn ρ0 w0 nb s ρ f w→Q.nrm f w):∀{t:Tr} {b:Bool} {listed:Array Bool} {fuel:Nat} {s:SS} {ρ:Pl} {f:Nat→Value} {w:World},VT P T nb N ops.toList t b K s→trOk ops t b listed=true→t.depth≤fuel→Dn ρ0 w0 nb s ρ f w→
 (b=true→RA P N ops Q Tru fuel listed f w)∧∀i∈t.heads,∀fu,fuel=fu+1→∀a,Fm N f a→wpOp P ops (up N Q) i (fun a' w'=>Oks ops Tru i w w'∧wpAnyF P ops (up N Q) Tru fu (listed.setIfInBounds i true) a' w') a w
 |.nil,b,listed,fuel,s,ρ,f,w,h,hs,_,hD=>by
  refine⟨fun hb=>?_,fun i hi=>by cases hi⟩
  subst hb
  obtain⟨sl,gl,bl,fl⟩:=s
  refine RA.done (by simpa[trOk] using hs) (hQ _ ρ f w h ⟨hD.m,⟨hD.f.sl,fun t gs d ht=>?_⟩,hD.l⟩)
  cases ht
 |.alt i t r,b,listed,fuel,s,ρ,f,w,h,hs,hl,hD=>by
  simp only[trOk,Bool.and_eq_true] at hs
  obtain⟨hs1,hs2,hs3⟩:=hs
  simp only[Tr.depth] at hl
  obtain⟨fu,rfl⟩:∃fu,fuel=fu+1:=⟨fuel-1,by omega⟩
  have key:∀{o:Oper},ops[i]? =some o→V1 P T nb N ops.toList false o s (fun s'=>VT P T nb N ops.toList t true K s')→∀a,Fm N f a→wpOp P ops (up N Q) i (fun a' w'=>Oks ops Tru i w w'∧wpAnyF P ops (up N Q) Tru fu (listed.setIfInBounds i true) a' w') a w:=fun {o} hi hv=>by
   have go:∀{f':Nat→Value} {w':World},Cn ρ0 w0 nb false w (fun s'=>VT P T nb N ops.toList t true K s') f' w'→RA P N ops Q Tru fu (listed.setIfInBounds i true) f' w':=fun {f' w'} hh=>by
    obtain⟨s',ρ',h1,h2,_⟩:=hh
    exact(VT_ok hQ h1 hs2 oM h2).1 rfl
   cases V1_ok hT hv hD with
   |done hc hw hst=>
    refine stp_any hi hw ?_
    cases hst with
    |val hd hn hr h=>exact .val hd hn hr (go h)
    |skip hd hr h=>exact .skip hd hr (go h)
    |call hd hn hr hc h=>exact .call hd hn hr hc fun v w' hp=>go (h v w' hp)
   |no hw d hd hn h=>exact no_any hi hw (.inl ⟨d,hd,hn,rfl⟩) (go h)
   |no0 hc hw hd h=>exact no_any hi hw (.inr ⟨hd,rfl⟩) (go h)
   |calm hc hw d v hd hn hr h=>exact stp_any hi hw (.val hd hn (hr w fun _=>Ext.refl w) (go h))
  have all:∀j∈(Tr.alt i t r).heads,∀a,Fm N f a→wpOp P ops (up N Q) j (fun a' w'=>Oks ops Tru j w w'∧wpAnyF P ops (up N Q) Tru fu (listed.setIfInBounds j true) a' w') a w:=fun j hj=>by
   have one:(match ops.toList[i]? with
    |some o=>V1 P T nb N ops.toList false o s fun s'=>VT P T nb N ops.toList t true K s'
    |none=>False)→∀a,Fm N f a→wpOp P ops (up N Q) i (fun a' w'=>Oks ops Tru i w w'∧wpAnyF P ops (up N Q) Tru fu (listed.setIfInBounds i true) a' w') a w:=fun hm=>by
    split at hm
    ·next o ho=>exact key (by rw[←Array.getElem?_toList];exact ho) hm
    exact hm.elim
   rcases List.mem_cons.1 hj with rfl|hj
   ·cases r with
    |nil=>exact one h
    |alt i' t' r'=>exact one h.1
   cases r with
   |nil=>cases hj
   |alt i' t' r'=>exact(VT_ok hQ h.2 hs3 oM hD).2 j hj fu rfl
  refine⟨fun hb a ha=>?_,fun j hj fu' hfu a ha=>(Nat.succ.inj hfu)▸all j hj a ha⟩
  subst hb
  have hr:Region.ready .any ops listed=i::r.heads:=by simpa using hs1
  refine⟨fun h0=>(by rw[hr] at h0;cases h0),fun j hj=>?_⟩
  rw[hr] at hj
  exact all j hj a ha
include hT in
theorem VH_ok {Q:Po} (hQ:∀s ρ f w,K s→Dn ρ0 w0 nb s ρ f w→Q.nrm f w) {t:Tr}:∀{pre:List Nat} {listed:Array Bool} {fuel:Nat} {s:SS} {ρ:Pl} {f:Nat→Value} {w:World},VH P T nb N ops.toList t pre K s→preOk ops t pre listed=true→pre.length+t.depth≤fuel→Dn ρ0 w0 nb s ρ f w→RA P N ops Q Tru fuel listed f w
 |[],listed,fuel,s,ρ,f,w,h,hs,hl,hD=>(VT_ok hT hQ h hs (by simpa using hl) hD).1 rfl
 |i::pre,listed,0,s,ρ,f,w,h,hs,hl,hD=>by simp at hl
 |i::pre,listed,fuel+1,s,ρ,f,w,h,hs,hl,hD=>by
  simp only[preOk,Bool.and_eq_true] at hs
  obtain⟨hs1,hs2⟩:=hs
  unfold VH at h
  split at h
  ·next o ho=>
   have hi:ops[i]? =some o:=by rw[←Array.getElem?_toList];exact ho
   rw[hi] at hs1
   simp only[Bool.and_eq_true,Bool.not_eq_true'] at hs1
   obtain⟨hc,hrd,htk⟩:=hs1
   have hl':pre.length+t.depth≤fuel:=by simp only[List.length_cons] at hl;omega
   cases V1_ok hT h hD with
   |done hc' hw hst=>rw[hc] at hc';cases hc'
   |no hw d hd hn h=>
    obtain⟨s',ρ',h1,h2,_⟩:=h
    exact RA.take0 (S0:=fun _=>True) i hi htk (.inl fun _=>trivial) trivial hd hn (fun a ha=> .inr ⟨hw a ha,rfl⟩) (VH_ok hQ h1 hs2 hl' h2)
   |no0 hc' hw hd h=>rw[hc] at hc';cases hc'
   |calm hc' hw d v hd hn hr h=>
    obtain⟨s',ρ',h1,h2,_⟩:=h
    exact RA.take0 (S0:=fun _=>True) i hi htk (.inl fun _=>trivial) trivial hd hn (fun a ha=> .inl ⟨hw a ha,fun u _=>by rw[ha.eval];exact hr u fun h=>by rw[hrd] at h;cases h⟩) (VH_ok hQ h1 hs2 hl' h2)
  exact h.elim
include hT in
theorem VTH_ok {Q:Po} (hQ:∀s ρ f w,K s→Dn ρ0 w0 nb s ρ f w→Q.nrm f w):∀{t:Tr} {b:Bool} {listed:Array Bool} {fuel:Nat} {s:SS} {ρ:Pl} {f:Nat→Value} {w:World},VTH P T nb N ops.toList t b K s→trOkH ops t b listed=true→t.depth≤fuel→Dn ρ0 w0 nb s ρ f w→
 (b=true→RA P N ops Q Tru fuel listed f w)∧∀i∈headsR t,∀fu,fuel=fu+1→∀a,Fm N f a→wpOp P ops (up N Q) i (fun a' w'=>Oks ops Tru i w w'∧wpAnyF P ops (up N Q) Tru fu (listed.setIfInBounds i true) a' w') a w
 |.nil,b,listed,fuel,s,ρ,f,w,h,hs,_,hD=>by
  refine⟨fun hb=>?_,fun i hi=>by cases hi⟩
  subst hb
  obtain⟨sl,gl,bl,fl⟩:=s
  refine RA.done (by simpa[trOkH] using hs) (hQ _ ρ f w h ⟨hD.m,⟨hD.f.sl,fun t gs d ht=>?_⟩,hD.l⟩)
  cases ht
 |.alt i t r,b,listed,fuel,s,ρ,f,w,h,hs,hl,hD=>by
  simp only[Tr.depth] at hl
  obtain⟨fu,rfl⟩:∃fu,fuel=fu+1:=⟨fuel-1,by omega⟩
  cases h2k:Nat.ble 2000 i with
  |true=>
   simp only[trOkH,h2k,cond_true,Bool.and_eq_true] at hs
   obtain⟨_,hr,hk,hs2⟩:=hs
   refine⟨fun _=>?_,fun j hj=>by simp[headsR,h2k] at hj⟩
   cases r with
   |alt _ _ _=>cases hr
   |nil=>
   have h0:(match ops.toList[ixT i]? with
    |some o=>V1 P T nb N ops.toList false o s fun s'=>VTH P T nb N ops.toList t true K s'
    |none=>False):=h
   unfold hdOk at hk
   split at h0
   ·next o ho=>
    have hi:ops[ixT i]? =some o:=by rw[←Array.getElem?_toList];exact ho
    rw[hi] at hk
    simp only[Bool.and_eq_true,Bool.not_eq_true'] at hk
    obtain⟨hc,hrd,htk⟩:=hk
    cases V1_ok hT h0 hD with
    |done hc' hw hst=>rw[hc] at hc';cases hc'
    |no hw d hd hn h=>
     obtain⟨s',ρ',h1,h2,_⟩:=h
     exact RA.take0 (S0:=fun _=>True) (ixT i) hi htk (.inl fun _=>trivial) trivial hd hn (fun a ha=> .inr ⟨hw a ha,rfl⟩) ((VTH_ok hQ h1 hs2 oM h2).1 rfl)
    |no0 hc' hw hd h=>rw[hc] at hc';cases hc'
    |calm hc' hw d v hd hn hr h=>
     obtain⟨s',ρ',h1,h2,_⟩:=h
     exact RA.take0 (S0:=fun _=>True) (ixT i) hi htk (.inl fun _=>trivial) trivial hd hn (fun a ha=> .inl ⟨hw a ha,fun u _=>by rw[ha.eval];exact hr u fun h=>by rw[hrd] at h;cases h⟩) ((VTH_ok hQ h1 hs2 oM h2).1 rfl)
   exact h0.elim
  |false=>
  simp only[trOkH,h2k,cond_false,Bool.and_eq_true] at hs
  obtain⟨hs1,hs2,hs3⟩:=hs
  have key:∀{o:Oper},ops[ixT i]? =some o→V1 P T nb N ops.toList false o s (fun s'=>VTH P T nb N ops.toList t true K s')→∀a,Fm N f a→wpOp P ops (up N Q) (ixT i) (fun a' w'=>Oks ops Tru (ixT i) w w'∧wpAnyF P ops (up N Q) Tru fu (listed.setIfInBounds (ixT i) true) a' w') a w:=fun {o} hi hv=>by
   have go:∀{f':Nat→Value} {w':World},Cn ρ0 w0 nb false w (fun s'=>VTH P T nb N ops.toList t true K s') f' w'→RA P N ops Q Tru fu (listed.setIfInBounds (ixT i) true) f' w':=fun {f' w'} hh=>by
    obtain⟨s',ρ',h1,h2,_⟩:=hh
    exact(VTH_ok hQ h1 hs2 oM h2).1 rfl
   cases V1_ok hT hv hD with
   |done hc hw hst=>
    refine stp_any hi hw ?_
    cases hst with
    |val hd hn hr h=>exact .val hd hn hr (go h)
    |skip hd hr h=>exact .skip hd hr (go h)
    |call hd hn hr hc h=>exact .call hd hn hr hc fun v w' hp=>go (h v w' hp)
   |no hw d hd hn h=>exact no_any hi hw (.inl ⟨d,hd,hn,rfl⟩) (go h)
   |no0 hc hw hd h=>exact no_any hi hw (.inr ⟨hd,rfl⟩) (go h)
   |calm hc hw d v hd hn hr h=>exact stp_any hi hw (.val hd hn (hr w fun _=>Ext.refl w) (go h))
  have hh0:headsR (.alt i t r)=ixT i::headsR r:=by simp[headsR,h2k]
  have all:∀j∈headsR (.alt i t r),∀a,Fm N f a→wpOp P ops (up N Q) j (fun a' w'=>Oks ops Tru j w w'∧wpAnyF P ops (up N Q) Tru fu (listed.setIfInBounds j true) a' w') a w:=fun j hj=>by
   have one:(match ops.toList[ixT i]? with
    |some o=>V1 P T nb N ops.toList false o s fun s'=>VTH P T nb N ops.toList t true K s'
    |none=>False)→∀a,Fm N f a→wpOp P ops (up N Q) (ixT i) (fun a' w'=>Oks ops Tru (ixT i) w w'∧wpAnyF P ops (up N Q) Tru fu (listed.setIfInBounds (ixT i) true) a' w') a w:=fun hm=>by
    split at hm
    ·next o ho=>exact key (by rw[←Array.getElem?_toList];exact ho) hm
    exact hm.elim
   rw[hh0] at hj
   rcases List.mem_cons.1 hj with rfl|hj
   ·cases r with
    |nil=>exact one h
    |alt i' t' r'=>exact one h.1
   cases r with
   |nil=>cases hj
   |alt i' t' r'=>exact(VTH_ok hQ h.2 hs3 oM hD).2 j hj fu rfl
  refine⟨fun hb a ha=>?_,fun j hj fu' hfu a ha=>(Nat.succ.inj hfu)▸all j hj a ha⟩
  subst hb
  have hr:Region.ready .any ops listed=ixT i::headsR r:=by simpa using hs1
  refine⟨fun h0=>(by rw[hr] at h0;cases h0),fun j hj=>?_⟩
  rw[hr,←hh0] at hj
  exact all j hj a ha
include hT in
theorem VHH_ok {Q:Po} (hQ:∀s ρ f w,K s→Dn ρ0 w0 nb s ρ f w→Q.nrm f w) {t:Tr}:∀{pre:List Nat} {listed:Array Bool} {fuel:Nat} {s:SS} {ρ:Pl} {f:Nat→Value} {w:World},VHH P T nb N ops.toList t pre K s→preOkH ops t pre listed=true→pre.length+t.depth≤fuel→Dn ρ0 w0 nb s ρ f w→RA P N ops Q Tru fuel listed f w
 |[],listed,fuel,s,ρ,f,w,h,hs,hl,hD=>(VTH_ok hT hQ h hs (by simpa using hl) hD).1 rfl
 |i::pre,listed,0,s,ρ,f,w,h,hs,hl,hD=>by simp at hl
 |i::pre,listed,fuel+1,s,ρ,f,w,h,hs,hl,hD=>by
  simp only[preOkH,Bool.and_eq_true] at hs
  obtain⟨hs1,hs2⟩:=hs
  unfold VHH at h
  split at h
  ·next o ho=>
   have hi:ops[i]? =some o:=by rw[←Array.getElem?_toList];exact ho
   rw[hi] at hs1
   simp only[Bool.and_eq_true,Bool.not_eq_true'] at hs1
   obtain⟨hc,hrd,htk⟩:=hs1
   have hl':pre.length+t.depth≤fuel:=by simp only[List.length_cons] at hl;omega
   cases V1_ok hT h hD with
   |done hc' hw hst=>rw[hc] at hc';cases hc'
   |no hw d hd hn h=>
    obtain⟨s',ρ',h1,h2,_⟩:=h
    exact RA.take0 (S0:=fun _=>True) i hi htk (.inl fun _=>trivial) trivial hd hn (fun a ha=> .inr ⟨hw a ha,rfl⟩) (VHH_ok hQ h1 hs2 hl' h2)
   |no0 hc' hw hd h=>rw[hc] at hc';cases hc'
   |calm hc' hw d v hd hn hr h=>
    obtain⟨s',ρ',h1,h2,_⟩:=h
    exact RA.take0 (S0:=fun _=>True) i hi htk (.inl fun _=>trivial) trivial hd hn (fun a ha=> .inl ⟨hw a ha,fun u _=>by rw[ha.eval];exact hr u fun h=>by rw[hrd] at h;cases h⟩) (VHH_ok hQ h1 hs2 hl' h2)
  exact h.elim
theorem stp_S {o:Oper} {Q:Po} {S:World→Prop} {fuel i:Nat} {listed:Array Bool} {f:Nat→Value} {w:World} (hi:ops[i]? =some o) (hw:Wt N ops f o true)
 (h:Stp P N f o w fun f' w'=>Oks ops S i w w'∧RA P N ops Q S fuel (listed.setIfInBounds i true) f' w'):∀a,Fm N f a→wpOp P ops (up N Q) i (fun a' w'=>Oks ops S i w w'∧wpAnyF P ops (up N Q) S fuel (listed.setIfInBounds i true) a' w') a w:=fun a ha=>by
 unfold wpOp
 simp only[hi,hw a ha,if_true]
 refine .inl ?_
 unfold Oper.wp
 cases h with
 |val hd hn hr h=>rw[ha.eval,hr];exact⟨h.1,h.2 _ (by rw[hd];exact ha.put hn _)⟩
 |skip hd hr h=>rw[ha.eval,hr];exact⟨h.1,h.2 _ (by rw[hd];exact ha)⟩
 |call hd hn hr hc h=>
  rw[ha.eval,hr]
  refine hc.mono fun e w1 ⟨u,he,hp⟩=>?_
  subst he
  obtain⟨h1,h2⟩:=h u w1 hp
  exact⟨h1,h2 _ (by rw[hd];exact ha.put hn u)⟩
theorem no_S {o:Oper} {Q:Po} {S:World→Prop} {fuel i:Nat} {listed:Array Bool} {f f':Nat→Value} {w:World} (hi:ops[i]? =some o) (hw:Wt N ops f o false) (hf:(∃d,o.dst=some d∧d<N∧f'=st f d undef)∨(o.dst=none∧f'=f)) (hS:Oks ops S i w w)
 (h:RA P N ops Q S fuel (listed.setIfInBounds i true) f' w):∀a,Fm N f a→wpOp P ops (up N Q) i (fun a' w'=>Oks ops S i w w'∧wpAnyF P ops (up N Q) S fuel (listed.setIfInBounds i true) a' w') a w:=fun a ha=>by
 unfold wpOp
 simp only[hi,hw a ha,Bool.false_eq_true,if_false]
 refine⟨hS,h _ ?_⟩
 rcases hf with ⟨d,hd,hn,rfl⟩|⟨hd,rfl⟩
 ·rw[hd];exact ha.put hn undef
 rw[hd];exact ha
include hT in
theorem VTR_ok {Q:Po} (hQ:∀s ρ f w,K s→Dn ρ0 w0 nb s ρ f w→Q.nrm f w):∀{t:Tr} {b:Bool} {listed:Array Bool} {fuel:Nat} {s:SS} {ρ:Pl} {f:Nat→Value} {w:World} {S:World→Prop},VTR P T nb N ops.toList t b K s→trOkR ops t b listed=true→t.depth≤fuel→((∀u,Ext w u↔S u)∨tailR ops t=true)→Dn ρ0 w0 nb s ρ f w→
 (b=true→RA P N ops Q S fuel listed f w)∧∀i∈headsR t,∀fu,fuel=fu+1→∀a,Fm N f a→wpOp P ops (up N Q) i (fun a' w'=>Oks ops S i w w'∧wpAnyF P ops (up N Q) S fu (listed.setIfInBounds i true) a' w') a w
 |.nil,b,listed,fuel,s,ρ,f,w,S,h,hs,_,_,hD=>by
  refine⟨fun hb=>?_,fun i hi=>by cases hi⟩
  subst hb
  obtain⟨sl,gl,bl,fl⟩:=s
  refine RA.done (by simpa[trOkR] using hs) (hQ _ ρ f w h ⟨hD.m,⟨hD.f.sl,fun t gs d ht=>?_⟩,hD.l⟩)
  cases ht
 |.alt i t r,b,listed,fuel,s,ρ,f,w,S,h,hs,hl,hSn,hD=>by
  simp only[Tr.depth] at hl
  obtain⟨fu,rfl⟩:∃fu,fuel=fu+1:=⟨fuel-1,by omega⟩
  cases h2k:Nat.ble 2000 i with
  |true=>
   simp only[trOkR,h2k,cond_true,Bool.and_eq_true] at hs
   obtain⟨_,hr,hk,hs2⟩:=hs
   refine⟨fun _=>?_,fun j hj=>by simp[headsR,h2k] at hj⟩
   cases r with
   |alt _ _ _=>cases hr
   |nil=>
   have h0:(match ops.toList[ixT i]? with
    |some o=>V1 P T nb N ops.toList (!Nat.ble 1000 i) o s fun s'=>VTR P T nb N ops.toList t true K s'
    |none=>False):=h
   unfold hdOk at hk
   split at h0
   ·next o ho=>
    have hi:ops[ixT i]? =some o:=by rw[←Array.getElem?_toList];exact ho
    rw[hi] at hk
    simp only[Bool.and_eq_true,Bool.not_eq_true'] at hk
    obtain⟨hc,hrd,htk⟩:=hk
    have hSt:(∀u,Ext w u↔S u)∨tailR ops t=true:=by
     rcases hSn with h|h
     ·exact .inl h
     simp only[tailR,Bool.and_eq_true] at h;exact .inr h.2.1
    cases V1_ok hT h0 hD with
    |done hc' hw hst=>rw[hc] at hc';cases hc'
    |no hw d hd hn h=>
     obtain⟨s',ρ',h1,h2,_⟩:=h
     exact RA.take0 (S0:=fun _=>True) (ixT i) hi htk (.inl fun _=>trivial) trivial hd hn (fun a ha=> .inr ⟨hw a ha,rfl⟩) ((VTR_ok hQ h1 hs2 oM hSt h2).1 rfl)
    |no0 hc' hw hd h=>rw[hc] at hc';cases hc'
    |calm hc' hw d v hd hn hr h=>
     obtain⟨s',ρ',h1,h2,_⟩:=h
     exact RA.take0 (S0:=fun _=>True) (ixT i) hi htk (.inl fun _=>trivial) trivial hd hn (fun a ha=> .inl ⟨hw a ha,fun u _=>by rw[ha.eval];exact hr u fun h=>by rw[hrd] at h;cases h⟩) ((VTR_ok hQ h1 hs2 oM hSt h2).1 rfl)
   exact h0.elim
  |false=>
  simp only[trOkR,h2k,cond_false,Bool.and_eq_true] at hs
  obtain⟨hs1,hs0,hs2,hs3⟩:=hs
  have hSt:(∀u,Ext w u↔S u)∨tailR ops t=true:=by
   rcases hSn with h|h
   ·exact .inl h
   simp only[tailR,Bool.and_eq_true] at h;exact .inr h.2.1
  have hSr:(∀u,Ext w u↔S u)∨tailR ops r=true:=by
   rcases hSn with h|h
   ·exact .inl h
   simp only[tailR,Bool.and_eq_true] at h;exact .inr h.2.2
  have key:∀{o:Oper},ops[ixT i]? =some o→V1 P T nb N ops.toList (!Nat.ble 1000 i) o s (fun s'=>VTR P T nb N ops.toList t true K s')→∀a,Fm N f a→wpOp P ops (up N Q) (ixT i) (fun a' w'=>Oks ops S (ixT i) w w'∧wpAnyF P ops (up N Q) S fu (listed.setIfInBounds (ixT i) true) a' w') a w:=fun {o} hi hv=>by
   have hfl:calm o=false→((∀u,Ext w u↔S u)∧Nat.ble 1000 i=false)∨Nat.ble 1000 i=true:=fun hc=>by
    cases hb:Nat.ble 1000 i with
    |true=>exact .inr rfl
    |false=>
     rcases hSn with h|h
     ·exact .inl ⟨h,rfl⟩
     simp only[tailR,Bool.and_eq_true,hi,hb,hc] at h;cases h.1
   have calmgo:calm o=true→∀{f':Nat→Value} {w':World},w'=w→Cn ρ0 w0 nb (!Nat.ble 1000 i) w (fun s'=>VTR P T nb N ops.toList t true K s') f' w'→Oks ops S (ixT i) w w'∧RA P N ops Q S fu (listed.setIfInBounds (ixT i) true) f' w':=fun hc {f' w'} he hh=>by
    subst he
    obtain⟨s',ρ',h1,h2,_⟩:=hh
    exact⟨.inl ⟨by unfold calmAt;rw[hi];exact hc,rfl⟩,(VTR_ok hQ h1 hs2 oM hSt h2).1 rfl⟩
   have go:calm o=false→∀{f':Nat→Value} {w':World},Cn ρ0 w0 nb (!Nat.ble 1000 i) w (fun s'=>VTR P T nb N ops.toList t true K s') f' w'→Oks ops S (ixT i) w w'∧RA P N ops Q S fu (listed.setIfInBounds (ixT i) true) f' w':=fun hc {f' w'} hh=>by
    obtain⟨s',ρ',h1,h2,h3⟩:=hh
    rcases hfl hc with ⟨hE,hb⟩|hb
    ·have he:Ext w w':=h3 (by rw[hb];rfl)
     exact⟨.inr (.inr ((hE w').1 he)),RA.more (S':=Sx w') (fun u hu=>(hE u).1 (Ext.trans he hu)) ((VTR_ok hQ h1 hs2 oM (.inl fun u=>Iff.rfl) h2).1 rfl)⟩
    rw[hb] at hs0
    simp only[Bool.not_true,Bool.false_or,Bool.and_eq_true] at hs0
    exact⟨.inr (.inl hs0.1),(VTR_ok hQ h1 hs2 oM (.inr hs0.2) h2).1 rfl⟩
   have okw:calm o=false→Oks ops S (ixT i) w w:=fun hc=>by
    rcases hfl hc with ⟨hE,hb⟩|hb
    ·exact .inr (.inr ((hE w).1 (Ext.refl w)))
    rw[hb] at hs0
    simp only[Bool.not_true,Bool.false_or,Bool.and_eq_true] at hs0
    exact .inr (.inl hs0.1)
   cases V1_ok hT hv hD with
   |done hc hw hst=>
    refine stp_S hi hw ?_
    cases hst with
    |val hd hn hr h=>exact .val hd hn hr (go hc h)
    |skip hd hr h=>exact .skip hd hr (go hc h)
    |call hd hn hr hcc h=>exact .call hd hn hr hcc fun v w' hp=>go hc (h v w' hp)
   |no hw d hd hn h=>
    cases hc:calm o with
    |true=>exact no_S hi hw (.inl ⟨d,hd,hn,rfl⟩) (calmgo hc rfl h).1 (calmgo hc rfl h).2
    |false=>
     obtain⟨s',ρ',h1,h2,_⟩:=h
     exact no_S hi hw (.inl ⟨d,hd,hn,rfl⟩) (okw hc) ((VTR_ok hQ h1 hs2 oM hSt h2).1 rfl)
   |no0 hc hw hd h=>
    obtain⟨s',ρ',h1,h2,_⟩:=h
    exact no_S hi hw (.inr ⟨hd,rfl⟩) (okw hc) ((VTR_ok hQ h1 hs2 oM hSt h2).1 rfl)
   |calm hc hw d v hd hn hr h=>exact stp_S hi hw (.val hd hn (hr w fun _=>Ext.refl w) (calmgo hc rfl h))
  have one:(match ops.toList[ixT i]? with
   |some o=>V1 P T nb N ops.toList (!Nat.ble 1000 i) o s fun s'=>VTR P T nb N ops.toList t true K s'
   |none=>False)→∀a,Fm N f a→wpOp P ops (up N Q) (ixT i) (fun a' w'=>Oks ops S (ixT i) w w'∧wpAnyF P ops (up N Q) S fu (listed.setIfInBounds (ixT i) true) a' w') a w:=fun hm=>by
   split at hm
   ·next o ho=>exact key (by rw[←Array.getElem?_toList];exact ho) hm
   exact hm.elim
  have all:∀j∈headsR (Tr.alt i t r),∀a,Fm N f a→wpOp P ops (up N Q) j (fun a' w'=>Oks ops S j w w'∧wpAnyF P ops (up N Q) S fu (listed.setIfInBounds j true) a' w') a w:=fun j hj=>by
   simp only[headsR,h2k,cond_false] at hj
   rcases List.mem_cons.1 hj with rfl|hj
   ·cases r with
    |nil=>exact one h
    |alt i' t' r'=>exact one h.1
   cases r with
   |nil=>cases hj
   |alt i' t' r'=>exact(VTR_ok hQ h.2 hs3 oM hSr hD).2 j hj fu rfl
  refine⟨fun hb a ha=>?_,fun j hj fu' hfu a ha=>(Nat.succ.inj hfu)▸all j hj a ha⟩
  subst hb
  have hr:Region.ready .any ops listed=ixT i::headsR r:=by simpa using hs1
  refine⟨fun h0=>(by rw[hr] at h0;cases h0),fun j hj=>?_⟩
  rw[hr] at hj
  refine all j ?_ a ha
  simp only[headsR,h2k,cond_false]
  exact hj
include hT in
theorem VHR_ok {Q:Po} (hQ:∀s ρ f w,K s→Dn ρ0 w0 nb s ρ f w→Q.nrm f w) {t:Tr}:∀{pre:List Nat} {listed:Array Bool} {fuel:Nat} {s:SS} {ρ:Pl} {f:Nat→Value} {w:World},VHR P T nb N ops.toList t pre K s→preOkR ops t pre listed=true→pre.length+t.depth≤fuel→Dn ρ0 w0 nb s ρ f w→RA P N ops Q (Sx w) fuel listed f w
 |[],listed,fuel,s,ρ,f,w,h,hs,hl,hD=>(VTR_ok hT hQ h hs (by simpa using hl) (.inl fun u=>Iff.rfl) hD).1 rfl
 |i::pre,listed,0,s,ρ,f,w,h,hs,hl,hD=>by simp at hl
 |i::pre,listed,fuel+1,s,ρ,f,w,h,hs,hl,hD=>by
  simp only[preOkR,Bool.and_eq_true] at hs
  obtain⟨hs1,hs2⟩:=hs
  unfold VHR at h
  split at h
  ·next o ho=>
   have hi:ops[i]? =some o:=by rw[←Array.getElem?_toList];exact ho
   rw[hi] at hs1
   simp only[Bool.and_eq_true] at hs1
   obtain⟨hc,htk⟩:=hs1
   have hl':pre.length+t.depth≤fuel:=by simp only[List.length_cons] at hl;omega
   cases V1_ok hT h hD with
   |done hc' hw hst=>rw[hc] at hc';cases hc'
   |no hw d hd hn h=>
    obtain⟨s',ρ',h1,h2,_⟩:=h
    exact RA.take0 (S0:=fun _=>True) i hi htk (.inl fun _=>trivial) trivial hd hn (fun a ha=> .inr ⟨hw a ha,rfl⟩) (VHR_ok hQ h1 hs2 hl' h2)
   |no0 hc' hw hd h=>rw[hc] at hc';cases hc'
   |calm hc' hw d v hd hn hr h=>
    obtain⟨s',ρ',h1,h2,_⟩:=h
    have hh:=VHR_ok hQ h1 hs2 hl' h2
    cases hrd:isRd o with
    |true=>exact RA.take0 (S0:=Sx w) i hi htk (.inr ⟨hrd,fun u hu=>hu⟩) (Ext.refl w) hd hn (fun a ha=> .inl ⟨hw a ha,fun u hu=>by rw[ha.eval];exact hr u fun _=>hu⟩) hh
    |false=>exact RA.take0 (S0:=fun _=>True) i hi htk (.inl fun _=>trivial) trivial hd hn (fun a ha=> .inl ⟨hw a ha,fun u _=>by rw[ha.eval];exact hr u fun h=>by rw[hrd] at h;cases h⟩) hh
  exact h.elim
theorem detV_ok {ρ:Pl} {n:Nat} {w:World} {c:CV} {x v:Value} (h:Hc ρ n w c x) (hd:detV c=some v):x=v:=by
 cases c with
 |v y=>injection hd with hd;subst hd;exact Hc.inv_v h
 |h A n c=>injection hd with hd;subst hd;cases (show Rc _ _ _ _ from h);rfl
 |hp b o=>injection hd with hd;subst hd;exact Hc.inv_hp h
 |b p hp=>injection hd with hd;subst hd;exact Hc.inv_b h
 |r A n c e get=>injection hd with hd;subst hd;cases (show Rc _ _ _ _ from h)<;>rfl
 |u=>cases hd
 |p i o=>cases hd
 |s i n=>cases hd
 |q A n c e get j o=>cases hd
 |f k fi ca=>cases hd
def Lnk (f:Nat→Value):Acc→List (Addr×Value)→Prop
 |[],[]=>True
 |e::r,e'::r'=>(∃b o,f e.1= .pointer (some ⟨b,o,none⟩)∧e'.1=⟨b,o+e.2.1,none⟩∧e'.2=(match e.2.2 with
  |.inl v=>v
  |.inr t=>f t))∧Lnk f r r'
 |_,_=>False
abbrev Sr (av:List (Addr×Value)):World→Prop:=fun u=>∀e∈av,u.cell? e.1=some e.2
theorem slot_cell {s:SS} {ρ:Pl} {f:Nat→Value} {w:World} {tp off:Nat} {c:CV} {v:Value} (hD:Dn ρ0 w0 nb s ρ f w) (hc:rdC s tp off=some c) (hv:detV c=some v):∃b o,f tp= .pointer (some ⟨b,o,none⟩)∧w.cell? ⟨b,o+off,none⟩=some v∧Hc ρ s.bl.length w c v:=by
 unfold rdC at hc
 split at hc
 ·next j o hp=>
  split at hc
  ·next b hb=>
   obtain⟨T',e,l⟩:=b
   obtain⟨_,b,hρ,he⟩:=(hD.f.sl _ _ hp).inv_c
   obtain⟨vl,junk,hh,hl,_⟩:=(hD.m.ok j T' e l hb).at hρ
   obtain⟨x,hx,hcx⟩:=hl.get hc
   have:=detV_ok hcx hv
   subst this
   exact⟨_,_,he,own_cell hh hx,hcx⟩
  cases hc
 ·next A n c' e get j o hp=>
  obtain⟨hr,hj,b,o',hA,he⟩:=(hD.f.sl _ _ hp).inv_c
  obtain⟨b2,o2,hA2,hZ,vl,hcell,hlen,hel⟩:=hr.elem hj
  rw[hA] at hA2
  injection hA2 with hA2
  injection hA2 with e1 e2
  subst e1 e2
  have ho:o+off<vl.length:=by rw[hlen];exact get_lt hc
  have hx:vl[o+off]? =some vl[o+off]:=List.getElem?_eq_getElem ho
  have hcx:Hc ρ s.bl.length w c vl[o+off]:=Hc.of_rc (hel _ c _ hc hx)
  have:=detV_ok hcx hv
  rw[this] at hcx hx
  exact⟨_,_,he,by rw[Nat.add_assoc];exact(hcell _ _ hx).1,hcx⟩
 cases hc
theorem slot_cellS {s:SS} {ρ:Pl} {f:Nat→Value} {w:World} {tp off i n:Nat} (hD:Dn ρ0 w0 nb s ρ f w) (hc:rdC s tp off=some (.s i n)):∃b o x,f tp= .pointer (some ⟨b,o,none⟩)∧w.cell? ⟨b,o+off,none⟩=some x∧Hc ρ s.bl.length w (.s i n) x:=by
 unfold rdC at hc
 split at hc
 ·next j o hp=>
  split at hc
  ·next b hb=>
   obtain⟨T',e,l⟩:=b
   obtain⟨_,b,hρ,he⟩:=(hD.f.sl _ _ hp).inv_c
   obtain⟨vl,junk,hh,hl,_⟩:=(hD.m.ok j T' e l hb).at hρ
   obtain⟨x,hx,hcx⟩:=hl.get hc
   exact⟨_,_,_,he,own_cell hh hx,hcx⟩
  cases hc
 ·next A m c' e get j o hp=>
  obtain⟨hr,hj,b,o',hA,he⟩:=(hD.f.sl _ _ hp).inv_c
  obtain⟨b2,o2,hA2,hZ,vl,hcell,hlen,hel⟩:=hr.elem hj
  have ho:o+off<vl.length:=by rw[hlen];exact get_lt hc
  have:=hel _ _ _ hc (List.getElem?_eq_getElem ho)
  cases this
 cases hc
theorem keyV_val {o:Option CV} {v:Value} (h:keyV o= .val v):∃c,o=some c∧detV c=some v:=by
 unfold keyV at h
 split at h
 ·next c=>
  split at h
  ·next v' hv=>injection h with h;subst h;exact⟨c,rfl,hv⟩
  cases h
 cases h
theorem keyO_own {o:Option CV} {d:Option DV} (h:keyO o=keyW d):∃i n,o=some (.s i n)∧d=some (.c (.s i n)):=by
 unfold keyO keyW at h
 split at h<;>split at h
 ·injection h with h1 h2;subst h1 h2;exact⟨_,_,rfl,rfl⟩
 ·cases h
 ·cases h
 injection h with h;cases h
theorem rdS_some {s:SS} {tp i n:Nat} (h:rdS s tp=some (i,n)):rdC s tp 0=some (.s i n):=by
 unfold rdS at h
 split at h
 ·next i' n' he=>injection h with h;injection h with h1 h2;subst h1 h2;exact he
 cases h
theorem chkK_ok {s:SS} {ρ:Pl} {f:Nat→Value} {w:World} {k:Prop} {acc:Acc} {av:List (Addr×Value)} (h:chkK acc s k) (hD:Dn ρ0 w0 nb s ρ f w) (hl:Lnk f acc av):k∧Sr av w:=by
 refine⟨h.2,?_⟩
 have key:∀{acc:Acc} {av:List (Addr×Value)},curV s acc=wantV s acc→Lnk f acc av→Sr av w:=fun {acc}=>by
  induction acc with
  |nil=>intro av _ hl;cases av with
   |nil=>exact fun e he=>by cases he
   |cons _ _=>exact hl.elim
  |cons e acc ih=>intro av h hl;cases av with
   |nil=>exact hl.elim
   |cons a av=>
    obtain⟨tp,off,v⟩:=e
    obtain⟨⟨b,o,h1,h2,h3⟩,h4⟩:=hl
    cases v with
    |inl v=>
     simp only[curV,wantV] at h
     injection h with h5 h6
     have hS:=ih h6 h4
     intro e he
     rcases List.mem_cons.1 he with rfl|he
     ·obtain⟨c,hc,hv⟩:=keyV_val h5
      obtain⟨b',o',k1,k2,_⟩:=slot_cell hD hc hv
      simp only at h1 h2 h3
      rw[h1] at k1
      injection k1 with k1
      injection k1 with k1
      injection k1 with k3 k4
      subst k3 k4
      rw[h2,h3]
      exact k2
     exact hS e he
    |inr t=>
     simp only[curV,wantV] at h
     injection h with h5 h6
     have hS:=ih h6 h4
     intro e he
     rcases List.mem_cons.1 he with rfl|he
     ·obtain⟨i,n,hc,hv⟩:=keyO_own h5
      obtain⟨b',o',x,k1,k2,k5⟩:=slot_cellS hD hc
      have k6:=(hD.f.sl t _ hv).inv_c
      simp only at h1 h2 h3
      rw[h1] at k1
      injection k1 with k1
      injection k1 with k1
      injection k1 with k3 k4
      subst k3 k4
      rw[h2,h3,k6.2,←k5.2]
      exact k2
     exact hS e he
 exact key h.1 hl
theorem Lnk.st {f:Nat→Value} {d:Nat} {v:Value}:∀{acc:Acc} {av:List (Addr×Value)},freD d acc=true→Lnk f acc av→Lnk (st f d v) acc av
 |[],[],_,_=>trivial
 |[],_::_,_,hl=>hl.elim
 |_::_,[],_,hl=>hl.elim
 |(tp,off,v')::acc,(a,v2)::av,h,hl=>by
  unfold freD at h
  simp only[List.all_cons,Bool.and_eq_true,Bool.not_eq_true'] at h
  obtain⟨⟨b,o,h1,h2,h4⟩,h3⟩:=hl
  refine⟨⟨b,o,?_,h2,?_⟩,Lnk.st h.2 h3⟩
  ·simp only at h1 ⊢
   unfold Go.Vg.st
   rw[h.1.1]
   exact h1
  cases v' with
  |inl v'=>exact h4
  |inr t=>
   have h5:Nat.beq t d=false:=by have h6:(!Nat.beq t d)=true:=h.1.2;simpa using h6
   simp only at h4 ⊢
   unfold Go.Vg.st
   rw[h5]
   exact h4
theorem rdLK_ok {s:SS} {ρ:Pl} {f:Nat→Value} {w:World} {tp b o:Nat} (hD:Dn ρ0 w0 nb s ρ f w) (hf:f tp= .pointer (some ⟨b,o,none⟩)):∀{n k:Nat} {K:List CV→List Value→Prop},rdLK s tp n k K→∃cs vs,K cs vs∧cs.length=n∧Hl ρ s.bl.length w cs vs∧∀i v,vs[i]? =some v→w.cell? ⟨b,o+(k+i),none⟩=some v
 |0,k,K,h=>⟨[],[],h,rfl,trivial,fun i v hi=>by cases hi⟩
 |n+1,k,K,h=>by
  unfold rdLK at h
  split at h
  ·next c hc=>
   split at h
   ·next v hv=>
    obtain⟨b',o',k1,k2,k3⟩:=slot_cell hD hc hv
    rw[hf] at k1
    injection k1 with k1
    injection k1 with k1
    injection k1 with k4 k5
    subst k4 k5
    obtain⟨cs,vs,h1,h2,h3,h4⟩:=rdLK_ok hD hf h
    refine⟨c::cs,v::vs,h1,by simp[h2],⟨k3,h3⟩,fun i u hi=>?_⟩
    cases i with
    |zero=>injection hi with hi;subst hi;exact k2
    |succ i=>
     have:=h4 i u (by simpa using hi)
     rw[show k+(i+1)=k+1+i by omega]
     exact this
   exact h.elim
  exact h.elim
theorem rdLK_ptr {s:SS} {ρ:Pl} {f:Nat→Value} {w:World} {tp n k:Nat} {K:List CV→List Value→Prop} (hD:Dn ρ0 w0 nb s ρ f w) (h:rdLK s tp (n+1) k K):∃b o,f tp= .pointer (some ⟨b,o,none⟩):=by
 unfold rdLK at h
 split at h
 ·next c hc=>
  split at h
  ·next v hv=>
   obtain⟨b,o,k1,_⟩:=slot_cell hD hc hv
   exact⟨b,o,k1⟩
  exact h.elim
 exact h.elim
def mkA (b o:Nat):Nat→List Value→List (Addr×Value)→List (Addr×Value)
 |_,[],av=>av
 |k,v::r,av=>(⟨b,o+k,none⟩,v)::mkA b o (k+1) r av
theorem Lnk.mk {f:Nat→Value} {tp b o:Nat} {acc:Acc} {av:List (Addr×Value)} (hf:f tp= .pointer (some ⟨b,o,none⟩)) (h:Lnk f acc av):∀{vs:List Value} {k:Nat},Lnk f (mkE tp k vs acc) (mkA b o k vs av)
 |[],_=>h
 |v::vs,k=>⟨⟨b,o,hf,rfl,rfl⟩,Lnk.mk hf h⟩
theorem Sr.mk {b o:Nat} {av:List (Addr×Value)} {w:World} (h:Sr av w):∀{vs:List Value} {k:Nat},(∀i v,vs[i]? =some v→w.cell? ⟨b,o+(k+i),none⟩=some v)→Sr (mkA b o k vs av) w
 |[],_,_=>h
 |v::vs,k,hc=>fun e he=>by
  rcases List.mem_cons.1 he with rfl|he
  ·exact hc 0 v rfl
  exact Sr.mk h (fun i u hi=>by have:=hc (i+1) u (by simpa using hi);rwa [show k+(i+1)=k+1+i by omega] at this) e he
theorem Sr.of_mk {b o:Nat} {av:List (Addr×Value)} {w:World}:∀{vs:List Value} {k:Nat},Sr (mkA b o k vs av) w→Sr av w∧∀i v,vs[i]? =some v→w.cell? ⟨b,o+(k+i),none⟩=some v
 |[],_,h=>⟨h,fun i v hi=>by cases hi⟩
 |v::vs,k,h=>by
  obtain⟨h1,h2⟩:=Sr.of_mk (vs:=vs) (k:=k+1) fun e he=>h e (.tail _ he)
  refine⟨h1,fun i u hi=>?_⟩
  cases i with
  |zero=>injection hi with hi;subst hi;exact h _ (.head _)
  |succ i=>
   have:=h2 i u (by simpa using hi)
   rwa [show k+(i+1)=k+1+i by omega]
include hT in
theorem VTX_ok {Q:Po} (hQ:∀s ρ f w,K s→Dn ρ0 w0 nb s ρ f w→Q.nrm f w) {acc:Acc} {av:List (Addr×Value)}:∀{t:Tr} {b:Bool} {listed:Array Bool} {fuel:Nat} {s:SS} {ρ:Pl} {f:Nat→Value} {w:World},VTX P T nb N ops.toList acc t b K s→trOkR ops t b listed=true→t.depth≤fuel→Lnk f acc av→(Sr av w∨tailR ops t=true)→Dn ρ0 w0 nb s ρ f w→
 (b=true→RA P N ops Q (Sr av) fuel listed f w)∧∀i∈headsR t,∀fu,fuel=fu+1→∀a,Fm N f a→wpOp P ops (up N Q) i (fun a' w'=>Oks ops (Sr av) i w w'∧wpAnyF P ops (up N Q) (Sr av) fu (listed.setIfInBounds i true) a' w') a w
 |.nil,b,listed,fuel,s,ρ,f,w,h,hs,_,_,_,hD=>by
  refine⟨fun hb=>?_,fun i hi=>by cases hi⟩
  subst hb
  obtain⟨sl,gl,bl,fl⟩:=s
  refine RA.done (by simpa[trOkR] using hs) (hQ _ ρ f w h ⟨hD.m,⟨hD.f.sl,fun t gs d ht=>?_⟩,hD.l⟩)
  cases ht
 |.alt i t r,b,listed,fuel,s,ρ,f,w,h,hs,hl,hL,hSn,hD=>by
  simp only[Tr.depth] at hl
  obtain⟨fu,rfl⟩:∃fu,fuel=fu+1:=⟨fuel-1,by omega⟩
  have hSt:Sr av w∨tailR ops t=true:=by
   rcases hSn with h|h
   ·exact .inl h
   simp only[tailR,Bool.and_eq_true] at h;exact .inr h.2.1
  have hSr:Sr av w∨tailR ops r=true:=by
   rcases hSn with h|h
   ·exact .inl h
   simp only[tailR,Bool.and_eq_true] at h;exact .inr h.2.2
  have hst:∀{o:Oper},freshO o acc=true→∀{d:Nat} {v:Value},o.dst=some d→Lnk (Go.Vg.st f d v) acc av:=fun {o} hf {d v} hd=>by
   unfold freshO at hf
   rw[hd] at hf
   exact hL.st hf
  cases h2k:Nat.ble 2000 i with
  |true=>
   simp only[trOkR,h2k,cond_true,Bool.and_eq_true] at hs
   obtain⟨_,hr,hk,hs2⟩:=hs
   refine⟨fun _=>?_,fun j hj=>by simp[headsR,h2k] at hj⟩
   have h1k:Nat.ble 1000 i=true:=by rw[Nat.ble_eq] at h2k ⊢;omega
   cases r with
   |alt _ _ _=>cases hr
   |nil=>
   have h0:V1X P T nb N ops.toList acc i s (fun s'=>VTX P T nb N ops.toList acc t true K s'):=h
   unfold V1X at h0
   rw[h1k] at h0
   simp only[cond_true] at h0
   unfold hdOk at hk
   split at h0
   ·next o ho=>
    have hi:ops[ixT i]? =some o:=by rw[←Array.getElem?_toList];exact ho
    rw[hi] at hk
    simp only[Bool.and_eq_true,Bool.not_eq_true'] at hk
    obtain⟨hc,hrd,htk⟩:=hk
    cases hfr:freshO o acc with
    |false=>rw[hfr] at h0;exact h0.elim
    |true=>
    rw[hfr] at h0
    simp only[cond_true] at h0
    cases V1_ok hT h0 hD with
    |done hc' hw hst=>rw[hc] at hc';cases hc'
    |no hw d hd hn h=>
     obtain⟨s',ρ',h1,h2,_⟩:=h
     exact RA.take0 (S0:=fun _=>True) (ixT i) hi htk (.inl fun _=>trivial) trivial hd hn (fun a ha=> .inr ⟨hw a ha,rfl⟩) ((VTX_ok hQ h1 hs2 oM (hst hfr hd) hSt h2).1 rfl)
    |no0 hc' hw hd h=>rw[hc] at hc';cases hc'
    |calm hc' hw d v hd hn hr h=>
     obtain⟨s',ρ',h1,h2,_⟩:=h
     exact RA.take0 (S0:=fun _=>True) (ixT i) hi htk (.inl fun _=>trivial) trivial hd hn (fun a ha=> .inl ⟨hw a ha,fun u _=>by rw[ha.eval];exact hr u fun h=>by rw[hrd] at h;cases h⟩) ((VTX_ok hQ h1 hs2 oM (hst hfr hd) hSt h2).1 rfl)
   exact h0.elim
  |false=>
  simp only[trOkR,h2k,cond_false,Bool.and_eq_true] at hs
  obtain⟨hs1,hs0,hs2,hs3⟩:=hs
  have one:V1X P T nb N ops.toList acc i s (fun s'=>VTX P T nb N ops.toList acc t true K s')→∀a,Fm N f a→wpOp P ops (up N Q) (ixT i) (fun a' w'=>Oks ops (Sr av) (ixT i) w w'∧wpAnyF P ops (up N Q) (Sr av) fu (listed.setIfInBounds (ixT i) true) a' w') a w:=fun hm=>by
   unfold V1X at hm
   split at hm
   ·next o ho=>
    have hi:ops[ixT i]? =some o:=by rw[←Array.getElem?_toList];exact ho
    cases hfr:freshO o acc with
    |false=>rw[hfr] at hm;exact hm.elim
    |true=>
    rw[hfr] at hm
    simp only[cond_true] at hm
    have go:∀{f':Nat→Value} {w':World},Lnk f' acc av→(w'=w∧calm o=true∨w'=w∧calm o=false∨calm o=false)→Cn ρ0 w0 nb false w (fun s'=>bif Nat.ble 1000 i then VTX P T nb N ops.toList acc t true K s' else chkK acc s' (VTX P T nb N ops.toList acc t true K s')) f' w'→Oks ops (Sr av) (ixT i) w w'∧RA P N ops Q (Sr av) fu (listed.setIfInBounds (ixT i) true) f' w':=fun {f' w'} hL' hcw hh=>by
     obtain⟨s',ρ',h1,h2,_⟩:=hh
     cases hb:Nat.ble 1000 i with
     |false=>
      rw[hb] at h1
      obtain⟨h3,h4⟩:=chkK_ok (av:=av) h1 h2 hL'
      exact⟨.inr (.inr h4),(VTX_ok hQ h3 hs2 oM hL' (.inl h4) h2).1 rfl⟩
     |true=>
      rw[hb] at h1 hs0
      simp only[Bool.not_true,Bool.false_or,Bool.and_eq_true] at hs0
      exact⟨.inr (.inl hs0.1),(VTX_ok hQ h1 hs2 oM hL' (.inr hs0.2) h2).1 rfl⟩
    cases V1_ok hT hm hD with
    |done hc hw hst'=>
     refine stp_S hi hw ?_
     cases hst' with
     |val hd hn hr h=>exact .val hd hn hr (go (hst hfr hd) (.inr (.inr hc)) h)
     |skip hd hr h=>exact .skip hd hr (go hL (.inr (.inr hc)) h)
     |call hd hn hr hcc h=>exact .call hd hn hr hcc fun v w' hp=>go (hst hfr hd) (.inr (.inr hc)) (h v w' hp)
    |no hw d hd hn h=>
     have:=go (hst hfr hd) (by cases calm o<;>simp) h
     exact no_S hi hw (.inl ⟨d,hd,hn,rfl⟩) this.1 this.2
    |no0 hc hw hd h=>
     have:=go hL (.inr (.inr hc)) h
     exact no_S hi hw (.inr ⟨hd,rfl⟩) this.1 this.2
    |calm hc hw d v hd hn hr h=>exact stp_S hi hw (.val hd hn (hr w fun _=>Ext.refl w) (go (hst hfr hd) (.inl ⟨rfl,hc⟩) h))
   exact hm.elim
  have all:∀j∈headsR (Tr.alt i t r),∀a,Fm N f a→wpOp P ops (up N Q) j (fun a' w'=>Oks ops (Sr av) j w w'∧wpAnyF P ops (up N Q) (Sr av) fu (listed.setIfInBounds j true) a' w') a w:=fun j hj=>by
   simp only[headsR,h2k,cond_false] at hj
   rcases List.mem_cons.1 hj with rfl|hj
   ·cases r with
    |nil=>exact one h
    |alt i' t' r'=>exact one h.1
   cases r with
   |nil=>cases hj
   |alt i' t' r'=>exact(VTX_ok hQ h.2 hs3 oM hL hSr hD).2 j hj fu rfl
  refine⟨fun hb a ha=>?_,fun j hj fu' hfu a ha=>(Nat.succ.inj hfu)▸all j hj a ha⟩
  subst hb
  have hr:Region.ready .any ops listed=ixT i::headsR r:=by simpa using hs1
  refine⟨fun h0=>(by rw[hr] at h0;cases h0),fun j hj=>?_⟩
  rw[hr] at hj
  refine all j ?_ a ha
  simp only[headsR,h2k,cond_false]
  exact hj
include hT in
theorem VRX_ok {Q:Po} (hQ:∀s ρ f w,K s→Dn ρ0 w0 nb s ρ f w→Q.nrm f w) {t:Tr}:∀{rs:List Nat} {acc:Acc} {av:List (Addr×Value)} {listed:Array Bool} {fuel:Nat} {s:SS} {ρ:Pl} {f:Nat→Value} {w:World},VRX P T nb N ops.toList t rs acc K s→rdsOk ops t rs listed=true→rs.length+t.depth≤fuel→Lnk f acc av→Sr av w→Dn ρ0 w0 nb s ρ f w→∃S:World→Prop,(∀u,S u→Sr av u)∧RA P N ops Q S fuel listed f w
 |[],acc,av,listed,fuel,s,ρ,f,w,h,hs,hl,hL,hS,hD=>⟨Sr av,fun _ h=>h,(VTX_ok hT hQ h hs (by simpa using hl) hL (.inl hS) hD).1 rfl⟩
 |i::rs,acc,av,listed,0,s,ρ,f,w,h,hs,hl,hL,hS,hD=>by simp at hl
 |i::rs,acc,av,listed,fuel+1,s,ρ,f,w,h,hs,hl,hL,hS,hD=>by
  simp only[rdsOk,Bool.and_eq_true] at hs
  obtain⟨htk,hs2⟩:=hs
  have hl':rs.length+t.depth≤fuel:=by simp only[List.length_cons] at hl;omega
  unfold VRX at h
  cases h2k:Nat.ble 2000 i with
  |true=>
   rw[h2k] at h
   simp only[cond_true] at h
   split at h
   ·next o ho=>
    have hi:ops[ixT i]? =some o:=by rw[←Array.getElem?_toList];exact ho
    cases hq:(calm o&&(!isRd o&&freshO o acc)) with
    |false=>rw[hq] at h;exact h.elim
    |true=>
     rw[hq] at h
     simp only[cond_true] at h
     simp only[Bool.and_eq_true,Bool.not_eq_true'] at hq
     obtain⟨hc,hrd,hfr⟩:=hq
     have hst:∀{d:Nat} {v:Value},o.dst=some d→Lnk (Go.Vg.st f d v) acc av:=fun {d v} hd=>by
      unfold freshO at hfr
      rw[hd] at hfr
      exact hL.st hfr
     cases V1_ok hT h hD with
     |done hc' hw hst=>rw[hc] at hc';cases hc'
     |no hw d hd hn h=>
      obtain⟨s',ρ',h1,h2,_⟩:=h
      obtain⟨S,k1,k2⟩:=VRX_ok hQ h1 hs2 hl' (hst hd) hS h2
      exact⟨S,k1,RA.take0 (S0:=fun _=>True) (ixT i) hi htk (.inl fun _=>trivial) trivial hd hn (fun a ha=> .inr ⟨hw a ha,rfl⟩) k2⟩
     |no0 hc' hw hd h=>rw[hc] at hc';cases hc'
     |calm hc' hw d v hd hn hr h=>
      obtain⟨s',ρ',h1,h2,_⟩:=h
      obtain⟨S,k1,k2⟩:=VRX_ok hQ h1 hs2 hl' (hst hd) hS h2
      exact⟨S,k1,RA.take0 (S0:=fun _=>True) (ixT i) hi htk (.inl fun _=>trivial) trivial hd hn (fun a ha=> .inl ⟨hw a ha,fun u _=>by rw[ha.eval];exact hr u fun h=>by rw[hrd] at h;cases h⟩) k2⟩
   exact h.elim
  |false=>
  rw[h2k] at h
  simp only[cond_false] at h
  cases h1k:Nat.ble 1000 i with
  |true=>rw[h1k] at h;exact h.elim
  |false=>
  rw[h1k] at h
  simp only[cond_false] at h
  split at h
  ·next d ty tp rty pos aft ho=>
   have hi:=(Array.getElem?_toList (xs:=ops) (i:=i)).symm.trans ho
   split at h
   ·next ti hty=>
    cases hq:(Nat.ble 1 ti.size&&(Nat.ble (d+1) N&&((!Nat.beq tp d)&&freD d acc))) with
    |false=>rw[hq] at h;exact h.elim
    |true=>
     rw[hq] at h
     simp only[cond_true] at h
     simp only[Bool.and_eq_true,Bool.not_eq_true'] at hq
     obtain⟨hsz,hdn,hne,hall⟩:=hq
     have hall':=hall
     have hix:ixT i=i:=by unfold ixT;rw[h2k,h1k];rfl
     have G:=hT ty ti hty
     obtain⟨dd,hun⟩:=G.un
     have hsz':=Nat.le_of_ble_eq_true hsz
     have stp:∀{x:Value} {b o:Nat},f tp= .pointer (some ⟨b,o,none⟩)→(Go.Vg.st f d x) tp= .pointer (some ⟨b,o,none⟩):=fun {x b o} h1=>by
      unfold Go.Vg.st
      rw[hne]
      exact h1
     cases hag:ti.agg with
     |true=>
      rw[hag] at h
      simp only[cond_true] at h
      obtain⟨m,hm⟩:∃m,ti.size=m+1:=⟨ti.size-1,by omega⟩
      rw[hm] at h
      obtain⟨b,o,hf⟩:=rdLK_ptr hD h
      obtain⟨cs,vs,h1,h2,h3,h4⟩:=rdLK_ok hD hf h
      have hvl:vs.length=ti.size:=by rw[hm,←h2];exact h3.len.symm
      obtain⟨s',h5,h6⟩:=hD.put h1 (.a h3)
      obtain⟨S,k1,k2⟩:=VRX_ok hQ h5 hs2 hl' (Lnk.mk (stp hf) (hL.st hall')) (Sr.mk hS h4) h6
      refine⟨S,fun u hu=>(Sr.of_mk (k1 u hu)).1,?_⟩
      rw[hix] at htk k2
      refine RA.take0 (S0:=Sr (mkA b o 0 vs av)) i hi htk (.inr ⟨rfl,k1⟩) (Sr.mk hS h4) rfl (Nat.le_of_ble_eq_true hdn) (fun act ha=> .inl ⟨by simp[Region.wanted],fun u hu=>?_⟩) k2
      rw[ha.eval]
      obtain⟨zz,hty2,_⟩:=G.ty
      refine r_loada hun (G.ag.trans hag) (by rw[hvl];exact hty2) hf fun q y hq=>?_
      have:=(Sr.of_mk hu).2 q y hq
      rwa [Nat.zero_add] at this
     |false=>
      rw[hag] at h
      simp only[cond_false] at h
      split at h
      ·next j n hjn=>
       obtain⟨b,o,x,hf,hx,hcx⟩:=slot_cellS hD (rdS_some hjn)
       obtain⟨s',h5,h6⟩:=hD.put h (.c hcx)
       have hL2:Lnk (Go.Vg.st f d x) ((tp,0,.inr d)::acc) ((⟨b,o+0,none⟩,x)::av):=⟨⟨b,o,stp hf,rfl,by simp[Go.Vg.st,Nat.beq_refl]⟩,hL.st hall'⟩
       have hS2:Sr ((⟨b,o+0,none⟩,x)::av) w:=fun e he=>by
        rcases List.mem_cons.1 he with rfl|he
        ·exact hx
        exact hS e he
       obtain⟨S,k1,k2⟩:=VRX_ok hQ h5 hs2 hl' hL2 hS2 h6
       refine⟨S,fun u hu e he=>k1 u hu e (.tail _ he),?_⟩
       rw[hix] at htk k2
       refine RA.take0 (S0:=Sr ((⟨b,o+0,none⟩,x)::av)) i hi htk (.inr ⟨rfl,k1⟩) hS2 rfl (Nat.le_of_ble_eq_true hdn) (fun act ha=> .inl ⟨by simp[Region.wanted],fun u hu=>?_⟩) k2
       rw[ha.eval]
       exact r_load hun (G.ag.trans hag) hf (hu _ (.head _))
      obtain⟨b,o,hf⟩:=rdLK_ptr hD h
      obtain⟨cs,vs,h1,h2,h3,h4⟩:=rdLK_ok hD hf h
      split at h1
      ·next c=>
       obtain⟨v,rfl⟩:∃v,vs=[v]:=by
        have:vs.length=1:=by rw[←h3.len];rfl
        match vs,this with
        |[v],_=>exact⟨v,rfl⟩
       obtain⟨s',h5,h6⟩:=hD.put h1 (.c h3.1)
       obtain⟨S,k1,k2⟩:=VRX_ok hQ h5 hs2 hl' (Lnk.mk (stp hf) (hL.st hall')) (Sr.mk hS h4) h6
       refine⟨S,fun u hu=>(Sr.of_mk (k1 u hu)).1,?_⟩
       rw[hix] at htk k2
       refine RA.take0 (S0:=Sr (mkA b o 0 [v] av)) i hi htk (.inr ⟨rfl,k1⟩) (Sr.mk hS h4) rfl (Nat.le_of_ble_eq_true hdn) (fun act ha=> .inl ⟨by simp[Region.wanted],fun u hu=>?_⟩) k2
       rw[ha.eval]
       exact r_load hun (G.ag.trans hag) hf ((Sr.of_mk hu).2 0 v rfl)
      exact h1.elim
   exact h.elim
  exact h.elim
include hT in
theorem VHX_ok {Q:Po} (hQ:∀s ρ f w,K s→Dn ρ0 w0 nb s ρ f w→Q.nrm f w) {t:Tr} {rs:List Nat}:∀{pre:List Nat} {listed:Array Bool} {fuel:Nat} {s:SS} {ρ:Pl} {f:Nat→Value} {w:World},VHX P T nb N ops.toList rs t pre K s→preOkX ops rs t pre listed=true→pre.length+(rs.length+t.depth)≤fuel→Dn ρ0 w0 nb s ρ f w→∃S,RA P N ops Q S fuel listed f w
 |[],listed,fuel,s,ρ,f,w,h,hs,hl,hD=>by
  obtain⟨S,_,h⟩:=VRX_ok hT hQ (acc:=[]) (av:=[]) h hs (by simpa using hl) trivial (fun e he=>by cases he) hD
  exact⟨S,h⟩
 |i::pre,listed,0,s,ρ,f,w,h,hs,hl,hD=>by simp at hl
 |i::pre,listed,fuel+1,s,ρ,f,w,h,hs,hl,hD=>by
  simp only[preOkX,Bool.and_eq_true] at hs
  obtain⟨hs1,hs2⟩:=hs
  unfold VHX at h
  split at h
  ·next o ho=>
   have hi:ops[i]? =some o:=by rw[←Array.getElem?_toList];exact ho
   rw[hi] at hs1
   simp only[Bool.and_eq_true,Bool.not_eq_true'] at hs1
   obtain⟨hc,hrd,htk⟩:=hs1
   have hl':pre.length+(rs.length+t.depth)≤fuel:=by simp only[List.length_cons] at hl;omega
   cases V1_ok hT h hD with
   |done hc' hw hst=>rw[hc] at hc';cases hc'
   |no hw d hd hn h=>
    obtain⟨s',ρ',h1,h2,_⟩:=h
    obtain⟨S,hh⟩:=VHX_ok hQ h1 hs2 hl' h2
    exact⟨S,RA.take0 (S0:=fun _=>True) i hi htk (.inl fun _=>trivial) trivial hd hn (fun a ha=> .inr ⟨hw a ha,rfl⟩) hh⟩
   |no0 hc' hw hd h=>rw[hc] at hc';cases hc'
   |calm hc' hw d v hd hn hr h=>
    obtain⟨s',ρ',h1,h2,_⟩:=h
    obtain⟨S,hh⟩:=VHX_ok hQ h1 hs2 hl' h2
    exact⟨S,RA.take0 (S0:=fun _=>True) i hi htk (.inl fun _=>trivial) trivial hd hn (fun a ha=> .inl ⟨hw a ha,fun u _=>by rw[ha.eval];exact hr u fun h=>by rw[hrd] at h;cases h⟩) hh⟩
  exact h.elim
end
end Go.Vy
namespace Go.Vy
open Go.Vg Go.RowKit
structure Kt where
 nrm:SS→Prop
 ext:Nat→SS→Prop
 ret:SS→Prop
structure Lk (ρ0:Pl) (w0:World) (nb:Nat) (K:Kt) (Q:Po):Prop where
 nrm:∀s ρ f w,K.nrm s→Dn ρ0 w0 nb s ρ f w→Q.nrm f w
 ext:∀i s ρ f w,K.ext i s→Dn ρ0 w0 nb s ρ f w→Q.ext i f w
 ret:∀s ρ f w,K.ret s→Dn ρ0 w0 nb s ρ f w→Q.ret f w
def Sd (P:Program) (nb N:Nat) (c:Code) (K:Kt) (s:SS):Prop:=∀ρ0 w0 ρ f w Q,Lk ρ0 w0 nb K Q→Dn ρ0 w0 nb s ρ f w→WP P N c Q f w
def endsL:Code→Bool
 |.seq _ b=>endsL b
 |.block _ (.loop _)=>true
 |_=>false
def VC (P:Program) (T:TT) (nb N:Nat):Code→Kt→SS→Prop
 |.skip,K,s=>K.nrm s
 |.region _ ops d,K,s=>bif d then ∃order:Ord,rgOk ops order=true∧VR P T nb N ops.toList order K.nrm s else VL P T nb N ops.toList ops.toList K.nrm s
 |.seq a b,K,s=>bif endsL a then VC P T nb N a ⟨fun s'=>Sd P nb N b K s',K.ext,K.ret⟩ s else VC P T nb N a ⟨fun s'=>VC P T nb N b K s',K.ext,K.ret⟩ s
 |.cond c a b,K,s=>(match val [] s c with
  |some (.c (.v (.bool t)))=>bif t then VC P T nb N a K s else VC P T nb N b K s
  |some (.c (.b p _))=>(p→Sd P nb N a K s)∧(¬p→Sd P nb N b K s)
  |_=>False)
 |.block id c,K,s=>VC P T nb N c ⟨K.nrm,fun j s'=>bif Nat.beq j id then K.nrm s' else K.ext j s',K.ret⟩ s
 |.loop c,K,s=>Sd P nb N (.loop c) K s
 |.exit i,K,s=>K.ext i s
 |.ret,K,s=>K.ret s
 |_,_,_=>False
section
variable {P:Program} {T:TT} {nb N:Nat} {s:SS} {K K':Kt} {c a b:Code}
theorem VC_ok (hT:Good P T) (hm:P.follows .mixedOrders=true):∀{c:Code} {K:Kt} {s:SS},VC P T nb N c K s→Sd P nb N c K s
 |.skip,K,s,h=>fun ρ0 w0 ρ f w Q hL hD=>wskip (hL.nrm s ρ f w h hD)
 |.region id ops d,K,s,h=>fun ρ0 w0 ρ f w Q hL hD=>by
  cases d with
  |false=>
   have:=wregion (P:=P) (n:=N) (Q:=Q) (f:=f) (w:=w) (id:=id) (l:=ops.toList) (by
    rw[Array.toArray_toList]
    exact VL_ok hT hL.nrm h hD)
   rwa [Array.toArray_toList] at this
  |true=>
   obtain⟨order,h1,h2⟩:=h
   cases order with
   |seq l=>
    simp only[rgOk,Bool.and_eq_true] at h1
    refine wdraw hm fun w1 hw1=>?_
    exact VD_ok hT hL.nrm h2 h1.1 (Nat.le_of_ble_eq_true h1.2) (.inl fun u=>Iff.rfl) (hD.ext hw1)
   |tree pre t=>
    simp only[rgOk,Bool.and_eq_true] at h1
    exact wdrawS _ hm (VH_ok hT hL.nrm h2 h1.1 (Nat.le_of_ble_eq_true h1.2) (hD.ext (Below.drew (Below.refl _ _))))
   |treeH pre t=>
    simp only[rgOk,Bool.and_eq_true] at h1
    exact wdrawS _ hm (VHH_ok hT hL.nrm h2 h1.1 (Nat.le_of_ble_eq_true h1.2) (hD.ext (Below.drew (Below.refl _ _))))
   |join pre t=>
    simp only[rgOk,Bool.and_eq_true] at h1
    obtain⟨σ,S,C,h3,h4⟩:=h2
    refine wdrawS _ hm (VH_ok hT (fun s' ρ' f' w' hg hD'=>?_) h3 h1.1 (Nat.le_of_ble_eq_true h1.2) (hD.ext (Below.drew (Below.refl _ _))))
    obtain⟨g,ρ2,hC,hD2⟩:=hg _ _ _ _ _ hD'
    exact hL.nrm _ ρ2 f' w' (h4 g hC) hD2
   |joinR pre t=>
    simp only[rgOk,Bool.and_eq_true] at h1
    obtain⟨σ,S,C,h3,h4⟩:=h2
    refine wdraw hm fun w1 hw1=>?_
    refine VHR_ok hT (fun s' ρ' f' w' hg hD'=>?_) h3 h1.1 (Nat.le_of_ble_eq_true h1.2) (hD.ext hw1)
    obtain⟨g,ρ2,hC,hD2⟩:=hg _ _ _ _ _ hD'
    exact hL.nrm _ ρ2 f' w' (h4 g hC) hD2
   |treeX pre rs t=>
    simp only[rgOk,Bool.and_eq_true] at h1
    obtain⟨S',hh⟩:=VHX_ok hT (Q:=Q) hL.nrm h2 h1.1 (Nat.le_of_ble_eq_true h1.2) (hD.ext (Below.drew (Below.refl _ _)))
    exact wdrawS S' hm hh
   |joinX pre rs t=>
    simp only[rgOk,Bool.and_eq_true] at h1
    obtain⟨σ,S,C,h3,h4⟩:=h2
    obtain⟨S',hh⟩:=VHX_ok hT (Q:=Q) (fun s' ρ' f' w' hg hD'=>by
     obtain⟨g,ρ2,hC,hD2⟩:=hg _ _ _ _ _ hD'
     exact hL.nrm _ ρ2 f' w' (h4 g hC) hD2) h3 h1.1 (Nat.le_of_ble_eq_true h1.2) (hD.ext (Below.drew (Below.refl _ _)))
    exact wdrawS S' hm hh
 |.seq a b,K,s,h=>fun ρ0 w0 ρ f w Q hL hD=>by
  simp only[VC] at h
  cases he:endsL a with
  |true=>rw[he] at h;exact wseq (VC_ok hT hm (c:=a) h ρ0 w0 ρ f w _ ⟨fun s' ρ' f' w' h' hD'=>h' ρ0 w0 ρ' f' w' Q hL hD',hL.ext,hL.ret⟩ hD)
  |false=>rw[he] at h;exact wseq (VC_ok hT hm (c:=a) h ρ0 w0 ρ f w _ ⟨fun s' ρ' f' w' h' hD'=>VC_ok hT hm (c:=b) h' ρ0 w0 ρ' f' w' Q hL hD',hL.ext,hL.ret⟩ hD)
 |.cond c a b,K,s,h=>fun ρ0 w0 ρ f w Q hL hD=>by
  simp only[VC] at h
  split at h
  ·next t hc=>
   have he:=(val_ok hD.f sat_nil hc).inv_c.inv_v
   cases t with
   |true=>exact wcond_t he (VC_ok hT hm (c:=a) h ρ0 w0 ρ f w Q hL hD)
   |false=>exact wcond_f he (VC_ok hT hm (c:=b) h ρ0 w0 ρ f w Q hL hD)
  ·next p hp hc=>
   have he:=(val_ok hD.f sat_nil hc).inv_c.inv_b
   exact wcond he (fun ht=>h.1 (of_decide_eq_true ht) ρ0 w0 ρ f w Q hL hD) (fun ht=>h.2 (of_decide_eq_false ht) ρ0 w0 ρ f w Q hL hD)
  exact h.elim
 |.block id c,K,s,h=>fun ρ0 w0 ρ f w Q hL hD=>wblock (VC_ok hT hm (c:=c) h ρ0 w0 ρ f w _ ⟨hL.nrm,fun i s' ρ' f' w' h' hD'=>by
  cases hb:Nat.beq i id with
  |true=>simp only[hb,cond_true] at h' ⊢;exact hL.nrm s' ρ' f' w' h' hD'
  |false=>simp only[hb,cond_false] at h' ⊢;exact hL.ext i s' ρ' f' w' h' hD',hL.ret⟩ hD)
 |.loop c,K,s,h=>h
 |.exit i,K,s,h=>fun ρ0 w0 ρ f w Q hL hD=>wexit (hL.ext i s ρ f w h hD)
 |.ret,K,s,h=>fun ρ0 w0 ρ f w Q hL hD=>wret (hL.ret s ρ f w h hD)
 |.rangeFunc _ _ _ _,K,s,h=>h.elim
 |.scope _,K,s,h=>h.elim
 |.label _,K,s,h=>h.elim
 |.goto _,K,s,h=>h.elim
 |.refuse _,K,s,h=>h.elim
/-! ### joints and loops -/
def Sub (s s':SS):Prop:=∀ρ0 w0 nb ρ f w,Dn ρ0 w0 nb s ρ f w→Dn ρ0 w0 nb s' ρ f w
theorem Sub.refl (s:SS):Sub s s:=fun _ _ _ _ _ _ h=>h
abbrev To {σ:Type} (I:σ→SS) (C:σ→Prop) (s:SS):Prop:=∃g,C g∧Sub s (I g)
theorem Sd.to {σ:Type} {I:σ→SS} {C:σ→Prop} (h:Sd P nb N c ⟨To I C,K.ext,K.ret⟩ s) (hk:∀g,C g→K.nrm (I g)):Sd P nb N c K s:=fun ρ0 w0 ρ f w Q hL hD=>
 h ρ0 w0 ρ f w Q ⟨fun s' ρ' f' w' ⟨g,hc,hs⟩ hD'=>hL.nrm _ ρ' f' w' (hk g hc) (hs _ _ _ _ _ _ hD'),hL.ext,hL.ret⟩ hD
theorem Sd.loop {σ:Type} (I:σ→SS) (C:σ→Prop) (μ:σ→Nat) (g0:σ) (h0:C g0) (hs:Sub s (I g0)) (hr:∀g,C g→Sd P nb N c ⟨fun s'=>∃g',(C g'∧μ g'<μ g)∧Sub s' (I g'),K.ext,K.ret⟩ (I g)):Sd P nb N (.loop c) K s:=fun ρ0 w0 ρ f w Q hL hD=>
 wloop (σ:=σ) (fun g f w=>C g∧∃ρ,Dn ρ0 w0 nb (I g) ρ f w) μ g0 ⟨h0,ρ,hs _ _ _ _ _ _ hD⟩ fun g f w ⟨hc,ρ,hD⟩=>
  hr g hc ρ0 w0 ρ f w _ ⟨fun s' ρ' f' w' ⟨g',⟨hc',hlt⟩,hs'⟩ hD'=>⟨g',⟨hc',ρ',hs' _ _ _ _ _ _ hD'⟩,hlt⟩,hL.ext,hL.ret⟩ hD
/-! ### the end of a function -/
def res1 (T:TT) (s:SS):ResultVar→(DV→Prop)→Prop
 |.tmp t,k=>(match getS s.sl t with
  |some d=>k d
  |none=>False)
 |.cell a t,k=>match T t,getS s.sl a with
  |some ti,some (.c (.p j o))=>(match s.bl[j]? with
   |some b=>ldK ti o b.2.2 k
   |none=>False)
  |_,_=>False
def resK (T:TT) (s:SS):List ResultVar→(List DV→Prop)→Prop
 |[],k=>k []
 |r::l,k=>res1 T s r fun d=>resK T s l fun ds=>k (d::ds)
def retD:List DV→DV
 |[d]=>d
 |l=> .t l
def FinF (cl:List Bool) (nb:Nat) (s:SS) (d:DV) (o:OutF):Prop:=∀ρ0 w0 ρ w v,DnW ρ0 w0 nb s.bl ρ w→ρ.F=s.fl→Hd ρ s.bl.length w d v→∃ρ',DnW ρ0 w0 nb o.bl ρ' w∧Hd ρ' o.bl.length w o.d v∧ClB cl o.bl∧ρ'.F=o.fl
abbrev Fin (cl:List Bool) (nb:Nat) (s:SS) (d:DV) (o:Out):Prop:=FinF cl nb s d o.F
def RetK (T:TT) (cl:List Bool) (nb:Nat) (rs:List ResultVar) {σ:Type} (R:σ→OutF) (s:SS):Prop:=resK T s rs fun ds=>∃g,(R g).C∧FinF cl nb s (retD ds) (R g)
theorem res1_ok (hT:Good P T) {ρ0 ρ:Pl} {w0 w:World} {f:Nat→Value} {r:ResultVar} {k:DV→Prop} (h:res1 T s r k) (hD:Dn ρ0 w0 nb s ρ f w):∃d v,k d∧Hd ρ s.bl.length w d v∧Res1 P f w r v:=by
 unfold res1 at h
 split at h
 ·next t=>
  split at h
  ·next d hd=>exact⟨d,_,h,hD.f.sl _ d hd,rfl⟩
  exact h.elim
 next t=>
 split at h
 ·next ti j o ht ha=>
  split at h
  ·next bb hb=>
   obtain⟨T',e,l⟩:=bb
   obtain⟨d,hk,hd⟩:=ldK_d h
   obtain⟨hj,b,hρ,he⟩:=(hD.f.sl _ _ ha).inv_c
   obtain⟨vl,junk,hh,hl,_⟩:=(hD.m.ok j T' e l hb).at hρ
   obtain⟨v,hv,hcase⟩:=hd ρ s.bl.length w vl hl
   have G:=hT t ti ht
   refine⟨d,v,hk,hv,b,o,?_⟩
   rcases hcase with ⟨hag,rfl,hlen⟩|⟨hag,hv'⟩
   ·refine⟨(vl.drop o).take ti.size,he,G.un,fun i u hi=>?_,.inl ⟨G.ag.trans hag,?_,rfl⟩⟩
    ·rw[List.getElem?_take] at hi
     split at hi
     ·rw[List.getElem?_drop] at hi;exact own_cell hh hi
     cases hi
    obtain⟨zz,hty,_⟩:=G.ty
    exact⟨ti.by',zz,by rw[hlen];exact hty⟩
   refine⟨[v],he,G.un,fun i u hi=>?_,.inr ⟨G.ag.trans hag,rfl⟩⟩
   cases i with
   |zero=>injection hi with hi;subst hi;exact own_cell hh hv'
   |succ i=>cases hi
  exact h.elim
 exact h.elim
theorem resK_ok (hT:Good P T) {ρ0 ρ:Pl} {w0 w:World} {f:Nat→Value} (hD:Dn ρ0 w0 nb s ρ f w):∀{rs:List ResultVar} {k:List DV→Prop},resK T s rs k→∃ds vs,k ds∧HL ρ s.bl.length w ds vs∧Rets P f w rs vs
 |[],k,h=>⟨[],[],h,trivial,trivial⟩
 |r::rs,k,h=>by
  obtain⟨d,v,h1,h2,h3⟩:=res1_ok hT (show res1 T s r _ from h) hD
  obtain⟨ds,vs,h4,h5,h6⟩:=resK_ok hT hD h1
  exact⟨d::ds,v::vs,h4,⟨h2,h5⟩,h3,h6⟩
theorem HL.len {ρ:Pl} {n:Nat} {w:World}:∀{l:List DV} {m:List Value},HL ρ n w l m→l.length=m.length
 |[],[],_=>rfl
 |[],_::_,h=>h.elim
 |_::_,[],h=>h.elim
 |_::_,_::_,h=>by simp[HL.len h.2]
theorem HL.get {ρ:Pl} {n:Nat} {w:World}:∀{l:List DV} {m:List Value} {i:Nat} {d:DV} {u:Value},HL ρ n w l m→l[i]? =some d→m[i]? =some u→Hd ρ n w d u
 |[],_,i,d,u,_,h,_=>by cases h
 |_::_,[],i,d,u,h,_,_=>h.elim
 |a::l,x::m,0,d,u,h,h1,h2=>by injection h1 with h1;injection h2 with h2;subst h1 h2;exact h.1
 |a::l,x::m,i+1,d,u,h,h1,h2=>HL.get h.2 (by simpa using h1) (by simpa using h2)
theorem ret_hd {ρ:Pl} {n:Nat} {w:World} {ds:List DV} {vs:List Value} (h:HL ρ n w ds vs):Hd ρ n w (retD ds) (retv vs):=by
 have gen:Hd ρ n w (.t ds) (.tuple vs.toArray):=.t h.len fun i d u h1 h2=>h.get h1 h2
 match ds,vs,h with
 |[],[],_=>exact gen
 |[d],[v],h=>exact h.1
 |a::b::ds,x::y::vs,_=>exact gen
 |[],_::_,h=>exact h.elim
 |_::_,[],h=>exact h.elim
 |[_],_::_::_,h=>exact h.2.elim
 |_::_::_,[_],h=>exact h.2.elim
def mkSl:Nat→List DV→List (Nat×DV)
 |_,[]=>[]
 |i,d::l=>(i,d)::mkSl (i+1) l
theorem mkSl_ok {ρ:Pl} {n:Nat} {w:World}:∀{al:List DV} {vals:List Value} {i t:Nat} {d:DV},HL ρ n w al vals→getS (mkSl i al) t=some d→∃j u,t=i+j∧vals[j]? =some u∧Hd ρ n w d u
 |[],_,i,t,d,_,h=>by cases h
 |_::_,[],i,t,d,h,_=>h.elim
 |a::al,x::vals,i,t,d,h,ht=>by
  simp only[mkSl,getS] at ht
  cases hb:Nat.beq i t with
  |true=>
   rw[hb] at ht
   injection ht with ht
   subst ht
   exact⟨0,x,(Nat.eq_of_beq_eq_true hb).symm,rfl,h.1⟩
  |false=>
   rw[hb] at ht
   obtain⟨j,u,h1,h2,h3⟩:=mkSl_ok h.2 ht
   exact⟨j+1,u,by omega,by simpa using h2,h3⟩
theorem ctrF_of (hT:Good P T) {q:FuncId} {cl:List Bool} {al:List DV} {bl:BL} {fl:List Fam} {σ:Type} {R:σ→OutF} {fn:Func} {rs:List ResultVar} (he:Ent P q) (hf:P.funcs[q]? =some fn) (hb:fn.body=some c) (hn:fn.ntmps=N) (hr:fn.results=rs.toArray) (hsz:al.length≤N) (hcl:ClB cl bl)
 (h:Sd P bl.length N c ⟨RetK T cl bl.length rs R,fun _ _=>False,RetK T cl bl.length rs R⟩ ⟨mkSl 0 al,[],bl,fl⟩):CtrF P q cl al bl fl R:=by
 refine⟨he,hcl,fun ρ w vals hv hD hFl=>?_⟩
 have fin:∀s' ρ' f' w',RetK T cl bl.length rs R s'→Dn ρ w bl.length s' ρ' f' w'→∃vs,Rets P f' w' rs vs∧∃g ρ',(R g).C∧DnW ρ w bl.length (R g).bl ρ' w'∧Hd ρ' (R g).bl.length w' (R g).d (retv vs)∧ClB cl (R g).bl∧ρ'.F=(R g).fl:=fun s' ρ' f' w' hret hD'=>by
  obtain⟨ds,vs,⟨g,hC,hF⟩,h2,h3⟩:=resK_ok hT hD' hret
  obtain⟨ρ2,k1,k2,k3,k4⟩:=hF _ _ _ _ _ hD'.m hD'.l (ret_hd h2)
  exact⟨vs,h3,g,ρ2,hC,k1,k2,k3,k4⟩
 refine calls_of (n:=N) (rs:=rs) hf hb hn hr (by simp only[List.size_toArray];rw[←hv.len];exact hsz) (h ρ w ρ _ w _ ⟨fin,fun _ _ _ _ _ h _=>h.elim,fin⟩ ⟨hD,⟨fun t d ht=>?_,fun t gs d ht=>by cases ht⟩,hFl⟩)
 obtain⟨j,u,h1,h2,h3⟩:=mkSl_ok hv ht
 rw[Nat.zero_add] at h1
 subst h1
 have:vals.toArray.getD t undef=u:=by simp[Array.getD,get_lt h2,(List.getElem?_eq_some_iff.1 h2).2]
 show Hd ρ bl.length w d (vals.toArray.getD t undef)
 rw[this]
 exact h3
theorem ctr_of (hT:Good P T) {q:FuncId} {cl:List Bool} {al:List DV} {bl:BL} {σ:Type} {R:σ→Out} {fn:Func} {rs:List ResultVar} (he:Ent P q) (hf:P.funcs[q]? =some fn) (hb:fn.body=some c) (hn:fn.ntmps=N) (hr:fn.results=rs.toArray) (hsz:al.length≤N) (hcl:ClB cl bl)
 (h:Sd P bl.length N c ⟨RetK T cl bl.length rs fun g=>(R g).F,fun _ _=>False,RetK T cl bl.length rs fun g=>(R g).F⟩ ⟨mkSl 0 al,[],bl,[]⟩):Ctr P q cl al bl R:=ctrF_of hT he hf hb hn hr hsz hcl h
end
end Go.Vy
namespace Go.Vy
open Go.Vg Go.RowKit
/-! ### the table -/
inductive Shp where
 |slice (e:Nat)
 |bool
 |str
 |int (k:IntKind)
 |struct (l:List (Nat×Nat))
 |array (n e:Nat)
 |other
def shp:TypeDesc→Shp
 |.slice e=> .slice e
 |.bool=> .bool
 |.string=> .str
 |.int k=> .int k
 |.struct F=> .struct (F.toList.map fun f=>(f.offset,f.type))
 |.array n e=> .array n e
 |_=> .other
def shOf (ti:TI):Shp:=match ti.ar with
 |some (n,e,_)=> .array n e
 |none=>match ti.el with
 |some e=> .slice e
 |none=>bif ti.bo then .bool else bif ti.str then .str else match ti.ik with
  |some k=> .int k
  |none=>match ti.fs with
   |[]=> .other
   |l=> .struct (l.map fun f=>(f.off,f.ty))
def zv (ti:TI):Value:=bif ti.agg then .agg ti.zero.toArray else ti.zero.headD undef
def rowP (P:Program) (t:Nat):Option (Option Value×Nat×Nat)×Option Shp×Bool:=((P.info? t).map fun i=>(i.zero,i.size,i.bytes),(P.underlying t).map shp,aggB P t)
def rowT (ti:TI):Option (Option Value×Nat×Nat)×Option Shp×Bool:=(some (some (zv ti),ti.size,ti.by'),some (shOf ti),ti.agg)
def look:List (Nat×TI)→TT
 |[],_=>none
 |(k,i)::l,t=>bif Nat.beq k t then some i else look l t
def chk (tab:List (Nat×TI)) (e:Nat×TI):Bool:=
 Nat.beq e.2.zero.length e.2.size&&((match e.2.ar with
  |some (_,el,es)=>e.2.el.isNone&&(!e.2.bo&&(!e.2.str&&(e.2.ik.isNone&&(e.2.fs.isEmpty&&match look tab el with
   |some tf=>Nat.beq tf.size es
   |none=>false))))
  |none=>true)&&(e.2.zero.all Value.oneCell'&&((e.2.agg||Nat.beq e.2.size 1)&&((e.2.el.isNone||(!e.2.bo&&(!e.2.str&&(e.2.ik.isNone&&e.2.fs.isEmpty))))&&((!e.2.bo||(!e.2.str&&(e.2.ik.isNone&&e.2.fs.isEmpty)))&&((!e.2.str||(e.2.ik.isNone&&e.2.fs.isEmpty))&&((e.2.ik.isNone||e.2.fs.isEmpty)&&e.2.fs.all fun fi=>match look tab fi.ty with
  |some tf=>Nat.beq tf.size fi.size&&(tf.agg==fi.agg)
  |none=>false)))))))
section tab
variable {P:Program} {tab:List (Nat×TI)}
theorem look_mem {l:List (Nat×TI)} {t:Nat} {i:TI} (h:look l t=some i):(t,i)∈l:=by
 induction l with
 |nil=>cases h
 |cons e l ih=>
  obtain⟨k,e⟩:=e
  unfold look at h
  cases hb:Nat.beq k t with
  |true=>
   rw[hb] at h
   injection h with h
   have:=Nat.eq_of_beq_eq_true hb
   subst this h
   exact .head _
  |false=>rw[hb] at h;exact .tail _ (ih h)
theorem shp_slice {d:TypeDesc} {e:Nat} (h:shp d= .slice e):d= .slice e:=by
 cases d<;>simp[shp] at h
 subst h;rfl
theorem shp_bool {d:TypeDesc} (h:shp d= .bool):d= .bool:=by
 cases d<;>simp[shp] at h
 rfl
theorem shp_str {d:TypeDesc} (h:shp d= .str):d= .string:=by
 cases d<;>simp[shp] at h
 rfl
theorem shp_int {d:TypeDesc} {k:IntKind} (h:shp d= .int k):d= .int k:=by
 cases d<;>simp[shp] at h
 subst h;rfl
theorem shp_array {d:TypeDesc} {n e:Nat} (h:shp d= .array n e):d= .array n e:=by
 cases d<;>simp[shp] at h
 obtain⟨rfl,rfl⟩:=h;rfl
theorem shp_struct {d:TypeDesc} {l:List (Nat×Nat)} (h:shp d= .struct l):∃F,d= .struct F∧F.toList.map (fun f=>(f.offset,f.type))=l:=by
 cases d<;>simp[shp] at h
 exact⟨_,rfl,h⟩
theorem good_of (h:tab.map (fun e=>rowP P e.1)=tab.map (fun e=>rowT e.2)) (hb:tab.all (chk tab)=true) (hq:∀e∈tab,∀vs,ckF e.2.ck vs=true→CkP P e.1 vs):Good P (look tab):=fun t ti ht=>by
 have row:∀{t:Nat} {ti:TI},look tab t=some ti→rowP P t=rowT ti∧chk tab (t,ti)=true:=fun {t ti} ht=>by
  have hm:=look_mem ht
  refine⟨?_,List.all_eq_true.1 hb _ hm⟩
  obtain⟨i,hi⟩:=List.getElem?_of_mem hm
  have h1:=congrArg (fun l=>l[i]?) h
  simp only[List.getElem?_map,hi,Option.map_some] at h1
  injection h1
 obtain⟨hr,hc⟩:=row ht
 have hty:∀{t:Nat} {ti:TI},rowP P t=rowT ti→TyI P t ti.size ti.by' (zv ti)∧(∃d,P.underlying t=some d∧shp d=shOf ti)∧aggB P t=ti.agg:=fun {t ti} hr=>by
  unfold rowP rowT at hr
  injection hr with h1 h2
  injection h2 with h2 h3
  refine⟨TyI.of h1,?_,h3⟩
  cases hd:P.underlying t with
  |none=>rw[hd] at h2;cases h2
  |some d=>rw[hd] at h2;injection h2 with h2;exact⟨d,rfl,h2⟩
 obtain⟨k1,⟨d,k2,k3⟩,k4⟩:=hty hr
 simp only[chk,Bool.and_eq_true,Bool.or_eq_true,Bool.not_eq_true'] at hc
 obtain⟨c1,c0,c2,c3,c4,c5,c6,c7,c8⟩:=hc
 have hna:(ti.el.isSome=true∨ti.bo=true∨ti.str=true∨ti.ik.isSome=true∨ti.fs.isEmpty=false)→ti.ar=none:=fun hh=>by
  cases har:ti.ar with
  |none=>rfl
  |some q=>
   obtain⟨n,e,es⟩:=q
   rw[har] at c0
   simp only[Bool.and_eq_true,Bool.not_eq_true'] at c0
   obtain⟨d1,d2,d3,d4,d5,_⟩:=c0
   rcases hh with h|h|h|h|h
   ·rw[Option.isNone_iff_eq_none.1 d1] at h;cases h
   ·rw[d2] at h;cases h
   ·rw[d3] at h;cases h
   ·rw[Option.isNone_iff_eq_none.1 d4] at h;cases h
   rw[d5] at h;cases h
 have c1':=Nat.eq_of_beq_eq_true c1
 refine⟨⟨d,k2⟩,k4,⟨zv ti,k1,?_⟩,c1',c2,fun e he=>?_,fun n e es har=>?_,fun hbo=>?_,fun hs=>?_,fun k hk=>?_,?_,hq _ (look_mem ht)⟩
 ·unfold zv
  cases ha:ti.agg with
  |true=>rfl
  |false=>
   rw[ha] at c3
   have hl:ti.zero.length=1:=by
    rcases c3 with h|h
    ·cases h
    rw[c1',Nat.eq_of_beq_eq_true h]
   match hz:ti.zero,hl with
   |[z],_=>
    rw[hz] at c2
    simp only[List.all_cons,List.all_nil,Bool.and_true] at c2
    exact cells_of_one c2
 ·rw[k2];congr 1;apply shp_slice;rw[k3];simp[shOf,he,hna (.inl (by rw[he];rfl))]
 ·refine⟨by rw[k2];congr 1;apply shp_array;rw[k3];simp[shOf,har],?_⟩
  rw[har] at c0
  simp only[Bool.and_eq_true] at c0
  have h6:=c0.2.2.2.2.2
  split at h6
  ·next tf htf=>
   have:=Nat.eq_of_beq_eq_true h6
   exact⟨tf.by',zv tf,by rw[←this];exact(hty (row htf).1).1⟩
  cases h6
 ·have hel:ti.el=none:=by
   rcases c4 with h|h
   ·simpa using h
   rw[h.1] at hbo;cases hbo
  rw[k2];congr 1;apply shp_bool;rw[k3];simp[shOf,hel,hbo,hna (.inr (.inl hbo))]
 ·have hel:ti.el=none:=by
   rcases c4 with h|h
   ·simpa using h
   rw[h.2.1] at hs;cases hs
  have hbo:ti.bo=false:=by
   rcases c5 with h|h
   ·exact h
   rw[h.1] at hs;cases hs
  rw[k2];congr 1;apply shp_str;rw[k3];simp[shOf,hel,hbo,hs,hna (.inr (.inr (.inl hs)))]
 ·have hel:ti.el=none:=by
   rcases c4 with h|h
   ·simpa using h
   have:=h.2.2.1;rw[hk] at this;cases this
  have hbo:ti.bo=false:=by
   rcases c5 with h|h
   ·exact h
   have:=h.2.1;rw[hk] at this;cases this
  have hs:ti.str=false:=by
   rcases c6 with h|h
   ·exact h
   have:=h.1;rw[hk] at this;cases this
  rw[k2];congr 1;apply shp_int;rw[k3];simp[shOf,hel,hbo,hs,hk,hna (.inr (.inr (.inr (.inl (by rw[hk];rfl)))))]
 cases hf:ti.fs with
 |nil=>exact .inl rfl
 |cons f0 fr=>
  right
  have hne:ti.fs.isEmpty=false:=by rw[hf];rfl
  have hel:ti.el=none:=by
   rcases c4 with h|h
   ·simpa using h
   have:=h.2.2.2;rw[hne] at this;cases this
  have hbo:ti.bo=false:=by
   rcases c5 with h|h
   ·exact h
   have:=h.2.2;rw[hne] at this;cases this
  have hs:ti.str=false:=by
   rcases c6 with h|h
   ·exact h
   have:=h.2;rw[hne] at this;cases this
  have hk:ti.ik=none:=by
   rcases c7 with h|h
   ·simpa using h
   rw[hne] at h;cases h
  have hsh:shOf ti= .struct (ti.fs.map fun f=>(f.off,f.ty)):=by simp[shOf,hel,hbo,hs,hk,hf,hna (.inr (.inr (.inr (.inr hne))))]
  obtain⟨F,hF,hmap⟩:=shp_struct (k3.trans hsh)
  subst hF
  rw[←hf]
  have hlen:F.toList.length=ti.fs.length:=by simpa using congrArg List.length hmap
  refine⟨F,k2,by rw[←hlen];simp,fun k fi hk=>?_⟩
  have h1:=congrArg (fun l=>l[k]?) hmap
  simp only[List.getElem?_map,hk,Option.map_some] at h1
  have hkl:k<F.toList.length:=by rw[hlen];exact get_lt hk
  have h2:=List.getElem?_eq_getElem hkl
  rw[h2] at h1
  injection h1 with h1
  injection h1 with e1 e2
  refine⟨F.toList[k],by rw[←Array.getElem?_toList];exact h2,e1,e2,?_⟩
  have hfc:=List.all_eq_true.1 c8 fi (List.mem_of_getElem? hk)
  split at hfc
  ·next tf htf=>
   simp only[Bool.and_eq_true,beq_iff_eq] at hfc
   obtain⟨m1,⟨d',m2,_⟩,m4⟩:=hty (row htf).1
   have:=Nat.eq_of_beq_eq_true hfc.1
   exact⟨by rw[m4,hfc.2],⟨d',m2⟩,tf.by',zv tf,by rw[←this];exact m1⟩
  cases hfc
end tab
/-! ### what changes -/
def EqV:CV→CV→Prop
 |.v (.int k a),.v (.int k' b)=>bif decide (k=k') then a=b else False
 |.b p _,.b q _=>(p↔q)
 |.v (.bool b),.b q _=>(b=true↔q)
 |.s i n,.s j m=>bif Nat.beq i j then n=m else False
 |.v (.slice none 0 0),.r A n c _ _=>A=none∧n=0∧c=0
 |.v (.slice none 0 0),.h A n c=>A=none∧n=0∧c=0
 |_,.u=>True
 |x,y=>x=y
def EqE:DV→DV→Prop
 |.c x,.c y=>EqV x y
 |_,.c .u=>True
 |x,y=>x=y
def EqT:List DV→List DV→Prop
 |[a],[b]=>EqE a b
 |a::l,b::m=>EqE a b∧EqT l m
 |l,m=>l=m
def EqD:DV→DV→Prop
 |.t l,.t m=>EqT l m
 |x,y=>EqE x y
theorem EqV.refl (c:CV):EqV c c:=by
 cases c with
 |v x=>cases x<;>first|rfl|(simp[EqV])
 |b p h=>exact Iff.rfl
 |s i n=>simp[EqV,Nat.beq_refl]
 |u=>trivial
 |_=>rfl
theorem EqE.refl (d:DV):EqE d d:=by
 cases d with
 |c c=>exact EqV.refl c
 |a l=>rfl
 |t l=>rfl
theorem EqT.refl:∀l:List DV,EqT l l
 |[]=>rfl
 |[a]=>EqE.refl a
 |a::b::l=>⟨EqE.refl a,EqT.refl (b::l)⟩
theorem EqD.refl (d:DV):EqD d d:=by
 cases d with
 |c c=>exact EqV.refl c
 |a l=>rfl
 |t l=>exact EqT.refl l
theorem EqV.hc {ρ:Pl} {n:Nat} {w:World} {x y:CV} {v:Value} (h:EqV x y) (hx:Hc ρ n w x v):Hc ρ n w y v:=by
 unfold EqV at h
 split at h
 ·next k a k' b=>
  cases hk:decide (k=k') with
  |false=>rw[hk] at h;exact h.elim
  |true=>rw[hk] at h;have:=of_decide_eq_true hk;simp only[cond_true] at h;subst this h;exact hx
 ·next p hp q hq=>
  have:=hx.inv_b
  subst this
  rw[decide_eq_decide.2 h]
  exact Rc.b _ _
 ·next b q hq=>
  have:=hx.inv_v
  subst this
  rw[show b=decide q by rw[Bool.eq_iff_iff,h];simp]
  exact Rc.b _ _
 ·next i n' j m=>
  cases hk:Nat.beq i j with
  |false=>rw[hk] at h;exact h.elim
  |true=>rw[hk] at h;have:=Nat.eq_of_beq_eq_true hk;simp only[cond_true] at h;subst this h;exact hx
 ·obtain⟨rfl,rfl,rfl⟩:=h
  rw[hx.inv_v]
  exact Rc.nil _ _ _ _ (Nat.zero_le _)
 ·obtain⟨rfl,rfl,rfl⟩:=h
  rw[hx.inv_v]
  exact Rc.h none 0 0
 ·exact Rc.u _
 rw[←h];exact hx
theorem EqE.hd {ρ:Pl} {n:Nat} {w:World} {x y:DV} {v:Value} (h:EqE x y) (hx:Hd ρ n w x v):Hd ρ n w y v:=by
 unfold EqE at h
 split at h
 ·exact .c (h.hc hx.inv_c)
 ·exact .c (Rc.u _)
 rw[←h];exact hx
theorem EqT.get:∀{l m:List DV},EqT l m→m.length=l.length∧∀(i:Nat) (d':DV),m[i]? =some d'→∃d,l[i]? =some d∧EqE d d':=fun {l m} h=>by
 induction l generalizing m with
 |nil=>cases m with
  |nil=>exact⟨rfl,fun i d' h=>by cases h⟩
  |cons b m=>cases (show([]:List DV)=b::m from h)
 |cons a l ih=>
  cases m with
  |nil=>cases l with
   |nil=>cases (show [a]=[] from h)
   |cons a' l=>cases (show a::a'::l=[] from h)
  |cons b m=>
   have key:EqE a b∧EqT l m:=by
    cases l with
    |nil=>cases m with
     |nil=>exact⟨h,rfl⟩
     |cons b' m=>exact h
    |cons a' l=>cases m with
     |nil=>exact h
     |cons b' m=>exact h
   obtain⟨h1,h2⟩:=ih key.2
   refine⟨by simp[h1],fun i d' hi=>?_⟩
   cases i with
   |zero=>injection hi with hi;subst hi;exact⟨a,rfl,key.1⟩
   |succ i=>exact h2 i d' hi
theorem EqD.hd {ρ:Pl} {n:Nat} {w:World} {x y:DV} {v:Value} (h:EqD x y) (hx:Hd ρ n w x v):Hd ρ n w y v:=by
 unfold EqD at h
 split at h
 ·next l m=>
  cases hx with
  |t h0 hh=>
   obtain⟨h1,h2⟩:=h.get
   refine .t (h1.trans h0) fun i d u hi hu=>?_
   obtain⟨d0,h3,h4⟩:=h2 i d hi
   exact h4.hd (hh i d0 u h3 hu)
 exact h.hd hx
section mt
variable {P:Program} {T:TT} {nb N:Nat} {s:SS} {K:Kt} {c a b:Code}
def AllC (sl:List (Nat×DV)):List (Nat×DV)→Prop
 |[]=>True
 |[(t,d)]=>(match getS sl t with
  |some d0=>EqD d0 d
  |none=>False)
 |(t,d)::l=>(match getS sl t with
  |some d0=>EqD d0 d
  |none=>False)∧AllC sl l
theorem AllC.get {sl:List (Nat×DV)}:∀{l:List (Nat×DV)},AllC sl l→∀{t:Nat} {d:DV},getS l t=some d→∃d0,getS sl t=some d0∧EqD d0 d
 |[],_,t,d,h=>by cases h
 |(t0,d0)::l,ha,t,d,h=>by
  have h1:(match getS sl t0 with|some d=>EqD d d0|none=>False)∧AllC sl l:=by
   cases l with
   |nil=>exact⟨ha,trivial⟩
   |cons e l=>exact ha
  simp only[getS] at h
  cases hb:Nat.beq t0 t with
  |true=>
   rw[hb] at h
   injection h with h
   subst h
   have:=Nat.eq_of_beq_eq_true hb
   subst this
   have h2:=h1.1
   split at h2
   ·next d' hd'=>exact⟨d',hd',h2⟩
   exact h2.elim
  |false=>rw[hb] at h;exact AllC.get h1.2 h
def keepK (M:Nat→Bool):List (Nat×DV)→(List (Nat×DV)→Prop)→Prop
 |[],k=>k []
 |(t,d)::l,k=>bif M t then keepK M l k else keepK M l fun r=>k ((t,d)::r)
theorem keepK_ok {M:Nat→Bool}:∀{l:List (Nat×DV)} {k:List (Nat×DV)→Prop},keepK M l k→∃b,k b∧∀t d,getS b t=some d→getS l t=some d∧M t=false
 |[],k,h=>⟨[],h,fun t d h=>by cases h⟩
 |(t0,d0)::l,k,h=>by
  unfold keepK at h
  cases hm:M t0 with
  |true=>
   rw[hm] at h
   obtain⟨b,h1,h2⟩:=keepK_ok (show keepK M l k from h)
   refine⟨b,h1,fun t d ht=>?_⟩
   obtain⟨h3,h4⟩:=h2 t d ht
   refine⟨?_,h4⟩
   unfold getS
   cases hb:Nat.beq t0 t with
   |true=>rw[Nat.eq_of_beq_eq_true hb,h4] at hm;cases hm
   |false=>exact h3
  |false=>
   rw[hm] at h
   obtain⟨b,h1,h2⟩:=keepK_ok (show keepK M l _ from h)
   refine⟨_,h1,fun t d ht=>?_⟩
   unfold getS at ht ⊢
   cases hb:Nat.beq t0 t with
   |true=>rw[hb] at ht;exact⟨ht,by rw[←Nat.eq_of_beq_eq_true hb];exact hm⟩
   |false=>rw[hb] at ht;exact h2 t d ht
def tailK (M:Nat→Bool) (base:List (Nat×DV)) (fl fl':List Fam):List (Nat×DV)→Prop
 |[]=>([],fl')=(base,fl)
 |(t,d)::l=>bif M t then tailK M base fl fl' l else ((t,d)::l,fl')=(base,fl)
theorem tailK_ok {M:Nat→Bool} {base:List (Nat×DV)} {fl fl':List Fam}:∀{l:List (Nat×DV)},tailK M base fl fl' l→(∀t,M t=false→getS l t=getS base t)∧fl'=fl
 |[],h=>by injection (show([],fl')=(base,fl) from h) with h1 h2;exact⟨fun t _=>by rw[h1],h2⟩
 |(t0,d0)::l,h=>by
  unfold tailK at h
  cases hm:M t0 with
  |true=>
   rw[hm] at h
   obtain⟨h1,h2⟩:=tailK_ok (show tailK M base fl fl' l from h)
   refine⟨fun t ht=>?_,h2⟩
   show(bif Nat.beq t0 t then some d0 else getS l t)=getS base t
   cases hb:Nat.beq t0 t with
   |true=>rw[Nat.eq_of_beq_eq_true hb,ht] at hm;cases hm
   |false=>exact h1 t ht
  |false=>
   rw[hm] at h
   simp only[cond_false] at h
   injection h with h1 h2
   exact⟨fun t _=>by rw[h1],h2⟩
def Mt (M:Nat→Bool) (base:List (Nat×DV)) (fl:List Fam) (s:SS) (chg:List (Nat×DV)) (bl:BL):Prop:=tailK M base fl s.fl s.sl∧s.bl=bl∧AllC s.sl chg
theorem getS_app {l m:List (Nat×DV)} {t:Nat} {d:DV} (h:getS (l++m) t=some d):getS l t=some d∨(getS l t=none∧getS m t=some d):=by
 induction l with
 |nil=>exact .inr ⟨rfl,h⟩
 |cons e l ih=>
  obtain⟨t0,d0⟩:=e
  simp only[List.cons_append,getS] at h ⊢
  cases hb:Nat.beq t0 t with
  |true=>rw[hb] at h;exact .inl h
  |false=>rw[hb] at h;exact ih h
theorem sub_of {s s':SS} (hb:s.bl=s'.bl) (hl:s.fl=s'.fl) (hg:s'.gl=[]) (h:∀t d,getS s'.sl t=some d→∃d0,getS s.sl t=some d0∧EqD d0 d):Sub s s':=fun ρ0 w0 nb ρ f w hD=>by
 refine⟨by rw[←hb];exact hD.m,⟨fun t d ht=>?_,fun t gs d ht=>?_⟩,hD.l.trans hl⟩
 ·obtain⟨d0,h1,h2⟩:=h t d ht
  rw[←hb]
  exact h2.hd (hD.f.sl t d0 h1)
 rw[hg] at ht;cases ht
theorem Mt.sub {M:Nat→Bool} {base chg:List (Nat×DV)} {bl:BL} {fl:List Fam} (h:Mt M base fl s chg bl) (hM:∀t d,getS base t=some d→M t=false):Sub s ⟨chg++base,[],bl,fl⟩:=
 sub_of h.2.1 (tailK_ok h.1).2 rfl fun t d ht=>by
  rcases getS_app ht with h1|⟨h1,h2⟩
  ·exact h.2.2.get h1
  exact⟨d,by rw[(tailK_ok h.1).1 t (hM t d h2)];exact h2,.refl d⟩
theorem vloop (M:Nat→Bool) {σ:Type} (chg:σ→List (Nat×DV)) (bls:σ→BL) (C:σ→Prop) (μ:σ→Nat) (g0:σ)
 (h:keepK M s.sl fun base=>(C g0∧s.bl=bls g0∧AllC s.sl (chg g0))∧∀g,C g→Sd P nb N c ⟨fun s'=>∃g',(C g'∧μ g'<μ g)∧Mt M base s.fl s' (chg g') (bls g'),K.ext,K.ret⟩ ⟨chg g++base,[],bls g,s.fl⟩):Sd P nb N (.loop c) K s:=by
 obtain⟨base,⟨⟨h0,hb,ha⟩,hr⟩,hk⟩:=keepK_ok h
 refine Sd.loop (fun g=>⟨chg g++base,[],bls g,s.fl⟩) C μ g0 h0 (sub_of hb rfl rfl fun t d ht=>?_) fun g hg=>?_
 ·rcases getS_app ht with h1|⟨h1,h2⟩
  ·exact ha.get h1
  exact⟨d,(hk t d h2).1,.refl d⟩
 intro ρ0 w0 ρ f w Q hL hD
 exact hr g hg ρ0 w0 ρ f w Q ⟨fun s' ρ' f' w' ⟨g',hc,hm⟩ hD'=>hL.nrm s' ρ' f' w' ⟨g',hc,hm.sub fun t d ht=>(hk t d ht).2⟩ hD',hL.ext,hL.ret⟩ hD
theorem vjn (M:Nat→Bool) {σ:Type} (chg:σ→List (Nat×DV)) (bls:σ→BL) (C:σ→Prop) {p:Prop}
 (h:keepK M s.sl fun base=>((p→Sd P nb N a ⟨fun s'=>∃g,C g∧Mt M base s.fl s' (chg g) (bls g),K.ext,K.ret⟩ s)∧(¬p→Sd P nb N b ⟨fun s'=>∃g,C g∧Mt M base s.fl s' (chg g) (bls g),K.ext,K.ret⟩ s))∧∀g,C g→K.nrm ⟨chg g++base,[],bls g,s.fl⟩):(p→Sd P nb N a K s)∧(¬p→Sd P nb N b K s):=by
 obtain⟨base,⟨⟨h1,h2⟩,h3⟩,hk⟩:=keepK_ok h
 have w:∀{c:Code},Sd P nb N c ⟨fun s'=>∃g,C g∧Mt M base s.fl s' (chg g) (bls g),K.ext,K.ret⟩ s→Sd P nb N c ⟨To (fun g=>⟨chg g++base,[],bls g,s.fl⟩) C,K.ext,K.ret⟩ s:=fun {c} h ρ0 w0 ρ f w Q hL hD=>
  h ρ0 w0 ρ f w Q ⟨fun s' ρ' f' w' ⟨g',hc,hm⟩ hD'=>hL.nrm s' ρ' f' w' ⟨g',hc,hm.sub fun t d ht=>(hk t d ht).2⟩ hD',hL.ext,hL.ret⟩ hD
 exact⟨fun h=>(w (h1 h)).to h3,fun h=>(w (h2 h)).to h3⟩
end mt
/-! ### what goes out -/
def scC (nb:Nat):CV→Bool
 |.p i _=>Nat.ble (i+1) nb
 |.s i _=>Nat.ble (i+1) nb
 |.f _ fi ca=>(fi++ca).all fun p=>Nat.ble (p.1+1) nb
 |_=>true
def scD (nb:Nat):DV→Bool
 |.c c=>scC nb c
 |.a l=>l.all (scC nb)
 |.t l=>l.all fun d=>match d with
  |.c c=>scC nb c
  |.a l=>l.all (scC nb)
  |.t _=>false
section fin
variable {ρ:Pl} {n nb:Nat} {w:World}
theorem Zf.less {b:Nat} (h:Zf ρ n w b) (hn:nb≤n):Zf ρ nb w b:=⟨h.lt,fun i hi=>h.no i oM,h.z,h.nf⟩
theorem Hc.less {c:CV} {x:Value} (h:Hc ρ n w c x) (hs:scC nb c=true) (hn:nb≤n):Hc ρ nb w c x:=by
 cases c with
 |p i o=>obtain⟨_,h2⟩:=h;exact⟨Nat.le_of_ble_eq_true hs,h2⟩
 |s i m=>obtain⟨_,h2⟩:=h;exact⟨Nat.le_of_ble_eq_true hs,h2⟩
 |q A m c esz get j o=>obtain⟨h1,h2⟩:=h;exact⟨h1.mono fun b hb=>⟨hb.less hn,rfl⟩,h2⟩
 |f k fi ca=>obtain⟨h1,h2⟩:=h;exact⟨fun p hp=>⟨Nat.le_of_ble_eq_true (List.all_eq_true.1 hs p hp),(h1 p hp).2⟩,h2⟩
 |u=>exact Rc.mono h fun b hb=>⟨hb.less hn,rfl⟩
 |v x=>exact Rc.mono h fun b hb=>⟨hb.less hn,rfl⟩
 |h A n c=>exact Rc.mono h fun b hb=>⟨hb.less hn,rfl⟩
 |hp b o=>exact Rc.mono h fun b hb=>⟨hb.less hn,rfl⟩
 |b p q=>exact Rc.mono h fun b hb=>⟨hb.less hn,rfl⟩
 |r A m c esz get=>exact Rc.mono h fun b hb=>⟨hb.less hn,rfl⟩
theorem Hl.less {l:List CV} {vl:List Value} (h:Hl ρ n w l vl) (hs:∀c∈l,scC nb c=true) (hn:nb≤n):Hl ρ nb w l vl:=by
 induction l generalizing vl with
 |nil=>cases vl with
  |nil=>trivial
  |cons x vl=>exact h
 |cons c l ih=>cases vl with
  |nil=>exact h
  |cons x vl=>exact⟨h.1.less (hs c (.head _)) hn,ih h.2 fun c hc=>hs c (.tail _ hc)⟩
theorem Hd.less {d:DV} {x:Value} (h:Hd ρ n w d x) (hs:scD nb d=true) (hn:nb≤n):Hd ρ nb w d x:=by
 cases h with
 |c h=>exact .c (h.less hs hn)
 |a h=>exact .a (h.less (fun c hc=>List.all_eq_true.1 hs c hc) hn)
 |t h hh=>
  refine .t h fun i d u h1 h2=>?_
  have h3:=List.all_eq_true.1 hs d (List.mem_of_getElem? h1)
  have h4:=hh i d u h1 h2
  cases h4 with
  |c h=>exact .c (h.less h3 hn)
  |a h=>exact .a (h.less (fun c hc=>List.all_eq_true.1 h3 c hc) hn)
  |t _ _=>cases h3
def outK (cl:List Bool) (nb:Nat):Nat→BL→BL→Prop
 |0,_,[]=>True
 |n+1,(T,es,l)::bl,(T',es',l')::bl'=>(T=T'∧es=es'∧l=l'∧bif cl.headD false then l'.all cloC=true else l'.all (scC nb)=true)∧outK cl.tail nb n bl bl'
 |_,_,_=>False
theorem clo_sc {c:CV} (h:cloC c=true):scC nb c=true:=by
 cases c<;>first|rfl|cases h
theorem outK_ok:∀{cl:List Bool} {k:Nat} {bl bl':BL},outK cl nb k bl bl'→bl'.length=k∧(∀(i:Nat) (T:TypeId) (es:Nat) (l:List CV),bl'[i]? =some (T,es,l)→bl[i]? =some (T,es,l)∧(∀c∈l,scC nb c=true)∧(cl[i]? =some true→∀c∈l,cloC c=true))
 |cl,0,bl,[],_=>⟨rfl,fun i T es l h=>by cases h⟩
 |cl,0,[],_::_,h=>h.elim
 |cl,0,_::_,_::_,h=>h.elim
 |cl,k+1,[],bl',h=>by cases bl'<;>exact h.elim
 |cl,k+1,(T0,e0,l0)::bl,[],h=>h.elim
 |cl,k+1,(T0,e0,l0)::bl,(T1,e1,l1)::bl',h=>by
  obtain⟨⟨rfl,rfl,rfl,h1⟩,h2⟩:=h
  obtain⟨k1,k2⟩:=outK_ok h2
  refine⟨by simp[k1],fun i T es l hi=>?_⟩
  cases i with
  |zero=>
   injection hi with hi
   injection hi with e1 e2
   injection e2 with e2 e3
   subst e1 e2 e3
   refine⟨rfl,?_⟩
   cases cl with
   |nil=>exact⟨fun c hc=>List.all_eq_true.1 h1 c hc,fun h=>by cases h⟩
   |cons b cl=>
    cases b with
    |true=>exact⟨fun c hc=>clo_sc (List.all_eq_true.1 h1 c hc),fun _ c hc=>List.all_eq_true.1 h1 c hc⟩
    |false=>exact⟨fun c hc=>List.all_eq_true.1 h1 c hc,fun h=>by cases h⟩
  |succ i=>
   obtain⟨a1,a2,a3⟩:=k2 i T es l (by simpa using hi)
   refine⟨by simpa using a1,a2,fun h=>a3 ?_⟩
   cases cl with
   |nil=>cases h
   |cons b cl=>simpa using h
theorem nofam {ρ:Pl}:∀b,Zf ρ n w b→Zf (⟨ρ.at',ρ.Z,[]⟩:Pl) n w b∧w.heap[b]? =w.heap[b]?:=fun b h=>⟨⟨h.lt,h.no,h.z,fun⟨F,hF,_⟩=>by cases hF⟩,rfl⟩
theorem Kp.nofam {ρ:Pl}:Kp ρ n w ⟨ρ.at',ρ.Z,[]⟩ n w:=⟨Nat.le_refl _,fun _ _=>rfl,Go.Vy.nofam⟩
theorem DnW.nofam {ρ0 ρ:Pl} {w0:World} {bl:BL} (h:DnW ρ0 w0 nb bl ρ w):DnW ρ0 w0 nb bl ⟨ρ.at',ρ.Z,[]⟩ w:=
 ⟨fun i T es l hi=>(h.ok i T es l hi).kp Kp.nofam (get_lt hi) fun _ _=>rfl,h.inj,h.fr,h.nbl,⟨h.rel.os,h.rel.tape,h.rel.output,h.rel.size,h.rel.block⟩,h.pl,h.zz,⟨fun F hF=>(by cases hF),fun i b _ _ ⟨F,hF,_⟩=>(by cases hF),fun f f' F F' j j' b hf=>(by cases hf)⟩,fun b ⟨F,hF,_⟩=>(by cases hF)⟩
theorem fin_of {cl:List Bool} {s:SS} {d:DV} {o:Out} (hd:EqD d o.d) (hs:scD nb o.d=true) (hb:outK cl nb nb s.bl o.bl):Fin cl nb s d o:=fun ρ0 w0 ρ w v hD0 _ hv0=>by
 obtain⟨k1,k2⟩:=outK_ok hb
 have k3:o.F.bl.length=nb:=k1
 have hD:=hD0.nofam
 have hv:=hv0.kp Kp.nofam
 refine⟨⟨ρ.at',ρ.Z,[]⟩,⟨fun i T es l hi=>?_,fun i j b hi hj=>hD.inj i j b ?_ ?_,fun i b h1 h2=>?_,?_,hD.rel,hD.pl,hD.zz,⟨fun F hF=>(by cases hF),fun i b _ _ ⟨F,hF,_⟩=>(by cases hF),fun f f' F F' j j' b hf=>(by cases hf)⟩,fun b ⟨F,hF,_⟩=>(by cases hF)⟩,?_,fun i T es l hi hc=>(k2 i T es l hi).2.2 hc,rfl⟩
 ·obtain⟨a1,a2,_⟩:=k2 i T es l hi
  have hq:=hD.ok i T es l a1
  rw[k1]
  unfold Bq at hq ⊢
  cases hb:(ρ i).1 with
  |none=>simp only[hb] at hq ⊢;exact hq
  |some b=>
   simp only[hb] at hq ⊢
   obtain⟨vl,junk,q1,q2,q3⟩:=hq
   exact⟨vl,junk,q1,q2.less a2 hD.nbl,q3⟩
 ·have:=hD.nbl;omega
 ·have:=hD.nbl;omega
 ·omega
 ·omega
 rw[k1];exact(hd.hd hv).less hs hD.nbl
end fin
end Go.Vy
namespace Go.Vy
open Go.Vg Go.RowKit
theorem oM {p:Prop} (h:p:=by omega):p:=h
theorem bL {a b:Nat} (h:Nat.ble a b=true:=by rfl):a≤b:=Nat.le_of_ble_eq_true h
theorem wi {a z:Int} (h:(a=z∧-9223372036854775808≤z∧z≤9223372036854775807):=by (first|omega|(simp only[maxLen] at*;omega))):a=IntKind.i64.wrap z:=by rw[wi64 h.2];exact h.1
def rn:List (Nat×Nat)→Nat→Bool
 |[],_=>false
 |(a,b)::l,t=>(Nat.ble a t&&Nat.ble t b)||rn l t
theorem ClB.one {T es:Nat} {l:List CV} (h:l.all cloC=true):ClB [true] [(T,es,l)]:=fun i T' es' l' hi _ c hc=>by
 cases i with
 |zero=>injection hi with hi;injection hi with _ hi;injection hi with _ hi;subst hi;exact List.all_eq_true.1 h c hc
 |succ i=>cases hi
theorem ClB.nil:ClB [] []:=fun i T' es' l' hi _ c hc=>by cases hi
theorem ClB.cons {b:Bool} {cl:List Bool} {T es:Nat} {l:List CV} {bl:BL} (h:b=true→l.all cloC=true) (hb:ClB cl bl):ClB (b::cl) ((T,es,l)::bl):=fun i T' es' l' hi hc c hcc=>by
 cases i with
 |zero=>injection hi with hi;injection hi with _ hi;injection hi with _ hi;injection hc with hc;subst hi hc;exact List.all_eq_true.1 (h rfl) c hcc
 |succ i=>exact hb i T' es' l' (by simpa using hi) (by simpa using hc) c hcc
theorem Ctr.arg {P:Program} {q:FuncId} {cl:List Bool} {al al':List DV} {bl:BL} {σ:Type} {R:σ→Out} (h:Ctr P q cl al bl R) (ha:∀ρ n w vl,HL ρ n w al' vl→HL ρ n w al vl):Ctr P q cl al' bl R:=
 ⟨h.ent,h.clb,fun ρ w vals hv hD hF=>h.run ρ w vals (ha _ _ _ _ hv) hD hF⟩
theorem HL.cons {ρ:Pl} {n:Nat} {w:World} {d d':DV} {l l':List DV} (hd:∀v,Hd ρ n w d' v→Hd ρ n w d v) (hl:∀vl,HL ρ n w l' vl→HL ρ n w l vl):∀vl,HL ρ n w (d'::l') vl→HL ρ n w (d::l) vl
 |[],h=>h
 |v::vl,h=>⟨hd v h.1,hl vl h.2⟩
theorem Hd.nilr {ρ:Pl} {n:Nat} {w:World} {e:Nat} {get:Nat→List CV} (v:Value) (h:Hd ρ n w (.c (.v (.slice none 0 0))) v):Hd ρ n w (.c (.r none 0 0 e get)) v:=by
 rw[h.inv_c.inv_v]
 exact .c (Rc.nil _ _ _ _ (Nat.zero_le _))
section
variable {P:Program} {nb N:Nat} {cd:Code} {K:Kt} {s:SS}
theorem lenr (t:Nat) {A:Option Addr} {n c e:Nat} {get:Nat→List CV} (ht:getS s.sl t=some (.c (.r A n c e get))) (h:n≤maxLen→Sd P nb N cd K s):Sd P nb N cd K s:=fun ρ0 w0 ρ f w Q hL hD=>by
 have:=(hD.f.sl t _ ht).inv_c.inv_r.2
 refine h ?_ ρ0 w0 ρ f w Q hL hD
 cases this with
 |nil=>exact Nat.zero_le _
 |r b o n c e get V hc hm=>omega
theorem vnil (t:Nat) (T es:Nat) (ht:getS s.sl t=some (.c (.v (.slice none 0 0)))) (hes:0<es) (h:snocK s.bl (T,es,[]) fun bl'=>Sd P nb N cd K ⟨(t,.c (.s (cnt s.bl 0) 0))::s.sl,s.gl,bl',s.fl⟩):Sd P nb N cd K s:=fun ρ0 w0 ρ f w Q hL hD=>by
 have h':=snocK_ok h
 rw[cnt_len] at h'
 have hp:∀b,((none,0):Option Nat×Nat).1=some b→w.heap.size≤b:=fun b hb=>by cases hb
 have kp:Kp ρ s.bl.length w (grow ρ s.bl.length (none,0)) (s.bl.length+1) w:=Kp.new hp (Ext.refl w)
 have hn:(s.bl++[(T,es,[])]).length=s.bl.length+1:=by simp
 refine h' ρ0 w0 (grow ρ s.bl.length (none,0)) f w Q hL ⟨hD.m.new hp (Ext.refl w) ?_,⟨fun t' d ht'=>?_,fun t' gs d ht'=>?_⟩,hD.l⟩
 ·unfold Bq
  rw[grow_new]
  exact⟨rfl,rfl,hes⟩
 ·show Hd _ (s.bl++[(T,es,[])]).length w d (f t')
  rw[hn]
  simp only[getS] at ht'
  cases hb:Nat.beq t t' with
  |true=>
   rw[hb] at ht'
   injection ht' with ht'
   subst ht'
   have:=Nat.eq_of_beq_eq_true hb
   subst this
   have he:=(hD.f.sl t _ ht).inv_c.inv_v
   refine .c ⟨Nat.lt_succ_self _,?_⟩
   rw[grow_new,he]
   rfl
  |false=>rw[hb] at ht';exact(hD.f.sl t' d ht').kp kp
 show(_→Hd _ (s.bl++[(T,es,[])]).length w d (f t'))∧_
 rw[hn]
 exact⟨fun hs=>((hD.f.gl t' gs d ht').1 hs).kp kp,(hD.f.gl t' gs d ht').2⟩
/-! ### a loop whose rounds have blocks of their own -/
def preK:BL→BL→Prop
 |_,[]=>True
 |x::l,[y]=>x=y
 |x::l,y::m=>x=y∧preK l m
 |[],_::_=>False
theorem preK_ok:∀{bl bl':BL},preK bl bl'→∃r,bl=bl'++r
 |bl,[],_=>⟨bl,rfl⟩
 |[],[_],h=>h.elim
 |[],_::_::_,h=>h.elim
 |x::l,[y],h=>⟨l,by rw[show x=y from h];rfl⟩
 |x::l,y::z::m,h=>by
  obtain⟨h1,h2⟩:=h
  obtain⟨r,hr⟩:=preK_ok h2
  exact⟨r,by rw[h1,hr];rfl⟩
def scB (n:Nat) (bl:BL):Prop:=∀(i:Nat) (T:TypeId) (es:Nat) (l:List CV),bl[i]? =some (T,es,l)→∀c∈l,scC n c=true
theorem scB.nil {n:Nat}:scB n []:=fun i T es l h=>by cases h
theorem scB.cons {n T es:Nat} {l:List CV} {bl:BL} (h:l.all (scC n)=true) (hb:scB n bl):scB n ((T,es,l)::bl):=fun i T' es' l' hi c hc=>by
 cases i with
 |zero=>injection hi with hi;injection hi with _ hi;injection hi with _ hi;subst hi;exact List.all_eq_true.1 h c hc
 |succ i=>exact hb i T' es' l' (by simpa using hi) c hc
theorem DnW.drop {ρ0 ρ:Pl} {w0 w:World} {bl r:BL} (hD:DnW ρ0 w0 nb (bl++r) ρ w) (hs:scB bl.length bl) (hnb:nb≤bl.length):DnW ρ0 w0 nb bl ρ w:=by
 have hn:bl.length≤(bl++r).length:=by simp
 refine⟨fun i T es l hi=>?_,fun i j b hi hj=>hD.inj i j b oM oM,fun i b h1 h2=>hD.fr i b h1 oM,hnb,hD.rel,hD.pl,hD.zz,hD.fam.mono rfl (fun b hb=>⟨hb.less hn,rfl⟩) (fun _ _=>rfl) fun i b hi hb=>hD.fam.own i b oM hb,hD.ffr⟩
 have hq:=hD.ok i T es l (by rw[List.getElem?_append_left (get_lt hi)];exact hi)
 unfold Bq at hq ⊢
 cases hb:(ρ i).1 with
 |none=>simp only[hb] at hq ⊢;exact hq
 |some b=>
  simp only[hb] at hq ⊢
  obtain⟨vl,junk,q1,q2,q3⟩:=hq
  exact⟨vl,junk,q1,q2.less (hs i T es l hi) hn,q3⟩
def MtD (M:Nat→Bool) (base:List (Nat×DV)) (fl:List Fam) (s:SS) (chg:List (Nat×DV)) (bl:BL):Prop:=tailK M base fl s.fl s.sl∧preK s.bl bl∧AllC s.sl chg
theorem getS_all {n:Nat} {l:List (Nat×DV)} (h:l.all (fun e=>scD n e.2)=true) {t:Nat} {d:DV} (ht:getS l t=some d):scD n d=true:=by
 induction l with
 |nil=>cases ht
 |cons e l ih=>
  obtain⟨t0,d0⟩:=e
  simp only[List.all_cons,Bool.and_eq_true] at h
  unfold getS at ht
  cases hb:Nat.beq t0 t with
  |true=>rw[hb] at ht;injection ht with ht;subst ht;exact h.1
  |false=>rw[hb] at ht;exact ih h.2 ht
theorem sub_drop {s s':SS} {r:BL} (hb:s.bl=s'.bl++r) (hl:s.fl=s'.fl) (hg:s'.gl=[]) (hsc:scB s'.bl.length s'.bl) (h:∀t d,getS s'.sl t=some d→(∃d0,getS s.sl t=some d0∧EqD d0 d)∧scD s'.bl.length d=true):∀ρ0 w0 nb ρ f w,nb≤s'.bl.length→Dn ρ0 w0 nb s ρ f w→Dn ρ0 w0 nb s' ρ f w:=fun ρ0 w0 nb ρ f w hnb hD=>by
 have hm:=hD.m
 rw[hb] at hm
 refine⟨hm.drop hsc hnb,⟨fun t d ht=>?_,fun t gs d ht=>?_⟩,hD.l.trans hl⟩
 ·obtain⟨⟨d0,h1,h2⟩,h3⟩:=h t d ht
  have:=h2.hd (hD.f.sl t d0 h1)
  rw[hb] at this
  exact this.less h3 (by simp)
 rw[hg] at ht;cases ht
theorem vloopD {c:Code} (M:Nat→Bool) {σ:Type} (n0:Nat) (chg:σ→List (Nat×DV)) (bls:σ→BL) (C:σ→Prop) (μ:σ→Nat) (g0:σ) (hn:∀g,(bls g).length=n0) (hnb:nb≤n0) (hsc:∀g,scB n0 (bls g)) (hcg:∀g,(chg g).all (fun e=>scD n0 e.2)=true)
 (h:keepK M s.sl fun base=>(base.all (fun e=>scD n0 e.2)=true∧C g0∧preK s.bl (bls g0)∧AllC s.sl (chg g0))∧∀g,C g→Sd P nb N c ⟨fun s'=>∃g',(C g'∧μ g'<μ g)∧MtD M base s.fl s' (chg g') (bls g'),K.ext,K.ret⟩ ⟨chg g++base,[],bls g,s.fl⟩):Sd P nb N (.loop c) K s:=by
 obtain⟨base,⟨⟨hbs,h0,hb,ha⟩,hr⟩,hk⟩:=keepK_ok h
 have hall:∀g t d,getS (chg g++base) t=some d→scD n0 d=true:=fun g t d ht=>by
  rcases getS_app ht with h1|⟨_,h2⟩
  ·exact getS_all (hcg g) h1
  exact getS_all hbs h2
 intro ρ0 w0 ρ f w Q hL hD
 refine wloop (σ:=σ) (fun g f w=>C g∧∃ρ,Dn ρ0 w0 nb ⟨chg g++base,[],bls g,s.fl⟩ ρ f w) μ g0 ⟨h0,ρ,?_⟩ fun g f w ⟨hc,ρ,hD⟩=>?_
 ·obtain⟨r,hr'⟩:=preK_ok hb
  refine sub_drop (s:=s) (s':=⟨chg g0++base,[],bls g0,s.fl⟩) (r:=r) hr' rfl rfl (by rw[hn];exact hsc g0) (fun t d ht=>⟨?_,by rw[hn];exact hall g0 t d ht⟩) ρ0 w0 nb ρ f w (by rw[hn];exact hnb) hD
  rcases getS_app ht with h1|⟨h1,h2⟩
  ·exact ha.get h1
  exact⟨d,(hk t d h2).1,.refl d⟩
 refine hr g hc ρ0 w0 ρ f w _ ⟨fun s' ρ' f' w' ⟨g',⟨hc',hlt⟩,hm⟩ hD'=>⟨g',⟨hc',ρ',?_⟩,hlt⟩,hL.ext,hL.ret⟩ hD
 obtain⟨r,hr'⟩:=preK_ok hm.2.1
 refine sub_drop (s:=s') (s':=⟨chg g'++base,[],bls g',s.fl⟩) (r:=r) hr' (tailK_ok hm.1).2 rfl (by rw[hn];exact hsc g') (fun t d ht=>⟨?_,by rw[hn];exact hall g' t d ht⟩) ρ0 w0 nb ρ' f' w' (by rw[hn];exact hnb) hD'
 rcases getS_app ht with h1|⟨h1,h2⟩
 ·exact hm.2.2.get h1
 exact⟨d,by rw[(tailK_ok hm.1).1 t (hk t d h2).2];exact h2,.refl d⟩
end
end Go.Vy
namespace Go.Vy
open Go.Vg Go.RowKit
def Tgt (nb:Nat) (X:SS→Prop):Prop:=∀(s:SS) (σ:Type) (S:σ→SS) (C:σ→Prop),Gt nb s S C→(∀g,C g→X (S g))→X s
section gt
variable {P:Program} {nb N:Nat} {cd c:Code} {K:Kt} {s:SS} {X:SS→Prop}
theorem tSd:Tgt nb (Sd P nb N cd K):=fun s σ S C h hk ρ0 w0 ρ f w Q hL hD=>by
 obtain⟨g,ρ',hC,hD'⟩:=h ρ0 w0 ρ f w hD
 exact hk g hC ρ0 w0 ρ' f w Q hL hD'
theorem tGt {σ:Type} {S:σ→SS} {C:σ→Prop}:Tgt nb fun s=>Gt nb s S C:=fun s σ S C h hk ρ0 w0 ρ f w hD=>by
 obtain⟨g,ρ',hC,hD'⟩:=h ρ0 w0 ρ f w hD
 exact hk g hC ρ0 w0 ρ' f w hD'
theorem Tgt.one (hX:Tgt nb X) {s':SS} (h:∀ρ0 w0 ρ f w,Dn ρ0 w0 nb s ρ f w→∃ρ',Dn ρ0 w0 nb s' ρ' f w) (hk:X s'):X s:=
 hX s Unit (fun _=>s') (fun _=>True) (fun ρ0 w0 ρ f w hD=>by obtain⟨ρ',h'⟩:=h ρ0 w0 ρ f w hD;exact⟨(),ρ',trivial,h'⟩) fun _ _=>hk
theorem gfrz (hX:Tgt nb X) (t i:Nat) {n T es:Nat} {l:List CV} (get:Nat→List CV) (ht:getS s.sl t=some (.c (.s i n))) (hb:s.bl[i]? =some (T,es,l)) (hg:∀j,j<n→get j=(l.drop (j*es)).take es) (hl:n*es=l.length) (hes:0<es) (hclo:∀c∈l,cloC c=true) (hnb:nb≤i)
 (h:∀A c,n≤c→c≤maxLen→killS i s fun s'=>setK s'.bl i (T,es,[]) fun bl'=>X ⟨(t,.c (.r A n c es get))::s'.sl,[],bl',s'.fl⟩):X s:=by
 refine hX s SS (fun g=>g) X (fun ρ0 w0 ρ f w hD=>?_) fun g hg=>hg
 obtain⟨A,c,s',ρ',k1,k2,_,k4,k5,k6⟩:=frz_core hD i get (hD.f.sl t _ ht).inv_c hb hg hl hes hclo hnb (kk:=fun A c s'=>X ⟨(t,.c (.r A n c es get))::s'.sl,[],s'.bl,s'.fl⟩) h
 refine⟨_,ρ',k1,k2.m,⟨fun t' d ht'=>?_,fun t' gs d ht'=>by cases ht'⟩,k2.l⟩
 simp only[getS] at ht'
 cases hb':Nat.beq t t' with
 |true=>
  rw[hb'] at ht'
  injection ht' with ht'
  subst ht'
  have:=Nat.eq_of_beq_eq_true hb'
  subst this
  rw[←k4] at k6
  exact .c k6
 |false=>rw[hb'] at ht';exact k2.f.sl t' d ht'
theorem Hl.setv {ρ:Pl} {n:Nat} {w:World} {l:List CV} {vl:List Value} (h:Hl ρ n w l vl) {k:Nat} {c:CV} (hc:∀x,vl[k]? =some x→Hc ρ n w c x):Hl ρ n w (l.set k c) vl:=by
 refine Hl.of_get (by rw[List.length_set,h.len]) fun i c' u hc' hu=>?_
 rcases set_case hc' with ⟨rfl,rfl,_⟩|⟨_,h2⟩
 ·exact hc u hu
 obtain⟨x,h3,h4⟩:=h.get h2
 rw[hu] at h3
 injection h3 with h3
 subst h3
 exact h4
theorem gfrzP (hX:Tgt nb X) (t k i:Nat) {n T es:Nat} {l:List CV} {r:List CV} (get:Nat→List CV) (ht:getS s.sl t=some (.a r)) (hk:r[k]? =some (.s i n)) (ho:((r.set k .u).all fun c=>!menC i c)=true) (hb:s.bl[i]? =some (T,es,l)) (hg:∀j,j<n→get j=(l.drop (j*es)).take es) (hl:n*es=l.length) (hes:0<es) (hclo:∀c∈l,cloC c=true) (hnb:nb≤i)
 (h:∀A c,n≤c→c≤maxLen→killS i s fun s'=>setK s'.bl i (T,es,[]) fun bl'=>X ⟨(t,.a (r.set k (.r A n c es get)))::s'.sl,[],bl',s'.fl⟩):X s:=by
 refine hX s SS (fun g=>g) X (fun ρ0 w0 ρ f w hD=>?_) fun g hg=>hg
 obtain⟨vl,hvl,hrl⟩:=(hD.f.sl t _ ht).inv_a
 obtain⟨x,hx,hcx⟩:=hrl.get hk
 obtain⟨A,c,s',ρ',k1,k2,k3,k4,k5,k6⟩:=frz_core hD i get hcx hb hg hl hes hclo hnb (kk:=fun A c s'=>X ⟨(t,.a (r.set k (.r A n c es get)))::s'.sl,[],s'.bl,s'.fl⟩) h
 refine⟨_,ρ',k1,k2.m,⟨fun t' d ht'=>?_,fun t' gs d ht'=>by cases ht'⟩,k2.l⟩
 simp only[getS] at ht'
 cases hb':Nat.beq t t' with
 |true=>
  rw[hb'] at ht'
  injection ht' with ht'
  subst ht'
  have:=Nat.eq_of_beq_eq_true hb'
  subst this
  rw[←k4] at k6
  rw[hvl]
  refine .a ?_
  have h1:Hl ρ' s'.bl.length w (r.set k .u) vl:=by
   rw[k4]
   refine Hl.kx (ρ:=ρ) (w:=w) (hrl.setv fun x _=>Rc.u x) k3 fun c hc=>?_
   have:=List.all_eq_true.1 ho c hc
   simpa using this
  have h2:=h1.setv (k:=k) (c:=.r A n c es get) fun y hy=>by
   rw[hx] at hy
   injection hy with hy
   subst hy
   exact k6
  rwa [List.set_set] at h2
 |false=>rw[hb'] at ht';exact k2.f.sl t' d ht'
theorem vfrz (t i:Nat) {n T es:Nat} {l:List CV} (get:Nat→List CV) (ht:getS s.sl t=some (.c (.s i n))) (hb:s.bl[i]? =some (T,es,l)) (hg:∀j,j<n→get j=(l.drop (j*es)).take es) (hl:n*es=l.length) (hes:0<es) (hclo:∀c∈l,cloC c=true) (hnb:nb≤i)
 (h:∀A c,n≤c→c≤maxLen→killS i s fun s'=>setK s'.bl i (T,es,[]) fun bl'=>Sd P nb N cd K ⟨(t,.c (.r A n c es get))::s'.sl,[],bl',s'.fl⟩):Sd P nb N cd K s:=gfrz tSd t i get ht hb hg hl hes hclo hnb h
/-! ### families said otherwise -/
def Inj (fl:List Fam):Prop:=∀(f f':Nat) (F F':Fam) (j j' b:Nat),fl[f]? =some F→fl[f']? =some F'→j<F.N→j'<F'.N→F.A j=some b→F'.A j'=some b→f=f'∧j=j'
structure Fsub (fl fl':List Fam):Prop where
 sub:∀(f':Nat) (F':Fam),fl'[f']? =some F'→0<F'.es∧∀j',j'<F'.N→(F'.A j'=none∧F'.get j'=[]∧F'.cap j'=0)∨∃(f:Nat) (F:Fam) (j:Nat),fl[f]? =some F∧j<F.N∧F.A j=F'.A j'∧F.cap j=F'.cap j'∧F.get j=F'.get j'∧F.T=F'.T∧F.es=F'.es
 inj:Inj fl→Inj fl'
theorem Dn.fsub {ρ0 ρ:Pl} {w0 w:World} {f:Nat→Value} (hD:Dn ρ0 w0 nb s ρ f w) {fl':List Fam} (hs:Fsub s.fl fl'):∃ρ',Dn ρ0 w0 nb ⟨s.sl,s.gl,s.bl,fl'⟩ ρ' f w:=by
 have hl:=hD.l
 have hin:∀b,InL fl' b→InF ρ b:=fun b ⟨F',hF',j',hj',hb⟩=>by
  obtain⟨f',hf'⟩:=List.getElem?_of_mem hF'
  rcases (hs.sub f' F' hf').2 j' hj' with ⟨h1,_⟩|⟨f0,F,j,h1,h2,h3,_⟩
  ·rw[h1] at hb;cases hb
  exact⟨F,by rw[hl];exact List.mem_of_getElem? h1,j,h2,by rw[h3];exact hb⟩
 have hz:∀b,Zf ρ s.bl.length w b→Zf ⟨ρ.at',ρ.Z,fl'⟩ s.bl.length w b∧w.heap[b]? =w.heap[b]?:=fun b hb=>⟨⟨hb.lt,hb.no,hb.z,fun hi=>hb.nf (hin b hi)⟩,rfl⟩
 have kp:Kp ρ s.bl.length w ⟨ρ.at',ρ.Z,fl'⟩ s.bl.length w:=⟨Nat.le_refl _,fun _ _=>rfl,hz⟩
 refine⟨⟨ρ.at',ρ.Z,fl'⟩,⟨fun i T es l hi=>(hD.m.ok i T es l hi).kp kp (get_lt hi) fun _ _=>rfl,hD.m.inj,hD.m.fr,hD.m.nbl,⟨hD.m.rel.os,hD.m.rel.tape,hD.m.rel.output,hD.m.rel.size,hD.m.rel.block⟩,hD.m.pl,hD.m.zz,⟨fun F hF=>?_,fun i b hi hb hf=>hD.m.fam.own i b hi hb (hin b hf),?_⟩,fun b hb=>hD.m.ffr b (hin b hb)⟩,hD.f.kp rfl rfl kp,rfl⟩
 ·obtain⟨f',hf'⟩:=List.getElem?_of_mem hF
  refine⟨(hs.sub f' F hf').1,fun j' hj'=>?_⟩
  rcases (hs.sub f' F hf').2 j' hj' with ⟨h1,h2,h3⟩|⟨f0,F0,j,h1,h2,h3,h4,h5,h6,h7⟩
  ·unfold Mq
   simp only[h1]
   exact⟨h2,h3⟩
  have:=(hD.m.fam.mem hl h1 h2).mono hz fun _ _=>rfl
  unfold Mq at this ⊢
  rw[h3,h4,h5,h6,h7] at this
  exact this
 exact hs.inj (by have:=hD.m.fam.inj;rw[hl] at this;exact this)
theorem Tgt.fsub (hX:Tgt nb X) {fl':List Fam} (hs:Fsub s.fl fl') (hk:X ⟨s.sl,s.gl,s.bl,fl'⟩):X s:=hX.one (fun _ _ _ _ _ hD=>hD.fsub hs) hk
def dead (F:Fam):Fam:=⟨F.T,F.es,0,F.A,F.cap,F.get⟩
theorem es_pos {ρ0 ρ:Pl} {w0 w:World} {f:Nat→Value} (hD:Dn ρ0 w0 nb s ρ f w) {g:Nat} {F:Fam} (h:s.fl[g]? =some F):0<F.es:=(hD.m.fam.ok F (by rw[hD.l];exact List.mem_of_getElem? h)).1
theorem gnew (hX:Tgt nb X) (T es N:Nat) (hes:0<es) (h:snocK s.fl ⟨T,es,N,fun _=>none,fun _=>0,fun _=>[]⟩ fun fl'=>X ⟨s.sl,s.gl,s.bl,fl'⟩):X s:=by
 refine hX s Unit (fun _=>⟨s.sl,s.gl,s.bl,s.fl++[⟨T,es,N,fun _=>none,fun _=>0,fun _=>[]⟩]⟩) (fun _=>True) (fun ρ0 w0 ρ f w hD=>?_) fun _ _=>snocK_ok h
 have hs:Fsub s.fl (s.fl++[⟨T,es,N,fun _=>none,fun _=>0,fun _=>[]⟩]):=⟨fun f' F' hf'=>?_,fun hi f1 f2 F1 F2 j1 j2 b h1 h2 h3 h4 h5 h6=>?_⟩
 ·obtain⟨ρ',h'⟩:=hD.fsub hs
  exact⟨(),ρ',trivial,h'⟩
 ·rcases snoc_case hf' with ⟨_,rfl⟩|⟨_,h2⟩
  ·exact⟨hes,fun j' _=> .inl ⟨rfl,rfl,rfl⟩⟩
  exact⟨es_pos hD h2,fun j' hj'=> .inr ⟨f',F',j',h2,hj',rfl,rfl,rfl,rfl,rfl⟩⟩
 rcases snoc_case h1 with ⟨_,rfl⟩|⟨_,h1'⟩
 ·cases h5
 rcases snoc_case h2 with ⟨_,rfl⟩|⟨_,h2'⟩
 ·cases h6
 exact hi f1 f2 F1 F2 j1 j2 b h1' h2' h3 h4 h5 h6
theorem gput (hX:Tgt nb X) (f g j:Nat) {F G:Fam} (hf:s.fl[f]? =some F) (hg:s.fl[g]? =some G) (hne:Nat.beq f g=false) (hj:j<F.N) (hA:F.A j=none) (hG:0<G.N) (hT:G.T=F.T) (hes:G.es=F.es)
 (h:setK s.fl f ⟨F.T,F.es,F.N,upd F.A j (G.A 0),upd F.cap j (G.cap 0),upd F.get j (G.get 0)⟩ fun fl1=>setK fl1 g (dead G) fun fl2=>X ⟨s.sl,s.gl,s.bl,fl2⟩):X s:=by
 have hne':f≠g:=fun e=>by subst e;rw[Nat.beq_refl] at hne;cases hne
 have hk:=setK_ok (setK_ok h)
 have hfl:f<s.fl.length:=get_lt hf
 have hgl:g<s.fl.length:=get_lt hg
 --where a member comes from
 have hat:∀(x:Nat) (Y:Fam),((s.fl.set f ⟨F.T,F.es,F.N,upd F.A j (G.A 0),upd F.cap j (G.cap 0),upd F.get j (G.get 0)⟩).set g (dead G))[x]? =some Y→(x=g∧Y=dead G)∨(x=f∧Y=⟨F.T,F.es,F.N,upd F.A j (G.A 0),upd F.cap j (G.cap 0),upd F.get j (G.get 0)⟩)∨(x≠g∧x≠f∧s.fl[x]? =some Y):=fun x Y hx=>by
  rcases set_get hx (by rw[List.length_set];exact hgl) with h1|⟨h1,h2⟩
  ·exact .inl h1
  rcases set_get h2 hfl with h3|⟨h3,h4⟩
  ·exact .inr (.inl h3)
  exact .inr (.inr ⟨h1,h3,h4⟩)
 refine hX s Unit (fun _=>⟨s.sl,s.gl,s.bl,_⟩) (fun _=>True) (fun ρ0 w0 ρ f0 w hD=>?_) fun _ _=>hk
 have hs:Fsub s.fl ((s.fl.set f ⟨F.T,F.es,F.N,upd F.A j (G.A 0),upd F.cap j (G.cap 0),upd F.get j (G.get 0)⟩).set g (dead G)):=⟨fun f' F' hf'=>?_,fun hi f1 f2 F1 F2 j1 j2 b h1 h2 h3 h4 h5 h6=>?_⟩
 ·obtain⟨ρ',h'⟩:=hD.fsub hs
  exact⟨(),ρ',trivial,h'⟩
 ·rcases hat f' F' hf' with ⟨_,rfl⟩|⟨_,rfl⟩|⟨_,_,h3⟩
  ·exact⟨show 0<G.es from es_pos hD hg,fun j' hj'=>absurd hj' (Nat.not_lt_zero _)⟩
  ·refine⟨show 0<F.es from es_pos hD hf,fun j' hj'=> .inr ?_⟩
   by_cases e:j'=j
   ·subst e;exact⟨g,G,0,hg,hG,upd_eq.symm,upd_eq.symm,upd_eq.symm,hT,hes⟩
   exact⟨f,F,j',hf,hj',(upd_ne e).symm,(upd_ne e).symm,(upd_ne e).symm,rfl,rfl⟩
  exact⟨es_pos hD h3,fun j' hj'=> .inr ⟨f',F',j',h3,hj',rfl,rfl,rfl,rfl,rfl⟩⟩
 have src:∀(x:Nat) (Y:Fam) (y:Nat),((s.fl.set f ⟨F.T,F.es,F.N,upd F.A j (G.A 0),upd F.cap j (G.cap 0),upd F.get j (G.get 0)⟩).set g (dead G))[x]? =some Y→y<Y.N→Y.A y=some b→(x=f∧y=j∧G.A 0=some b)∨(x≠g∧∃Y0:Fam,s.fl[x]? =some Y0∧y<Y0.N∧Y0.A y=some b):=fun x Y y hx hy hb=>by
  rcases hat x Y hx with ⟨_,rfl⟩|⟨rfl,rfl⟩|⟨a1,_,a3⟩
  ·exact absurd hy (Nat.not_lt_zero _)
  ·by_cases e:y=j
   ·subst e
    have hb':G.A 0=some b:=by rw[←hb];exact upd_eq.symm
    exact .inl ⟨rfl,rfl,hb'⟩
   have hb':F.A y=some b:=by rw[←hb];exact(upd_ne e).symm
   exact .inr ⟨hne',F,hf,hy,hb'⟩
  exact .inr ⟨a1,Y,a3,hy,hb⟩
 rcases src f1 F1 j1 h1 h3 h5 with ⟨a1,a2,a3⟩|⟨a0,Y1,a1,a2,a3⟩<;>rcases src f2 F2 j2 h2 h4 h6 with ⟨c1,c2,c3⟩|⟨c0,Y2,c1,c2,c3⟩
 ·exact⟨a1.trans c1.symm,a2.trans c2.symm⟩
 ·exact absurd (hi f2 g Y2 G j2 0 b c1 hg c2 hG c3 a3).1 c0
 ·exact absurd (hi f1 g Y1 G j1 0 b a1 hg a2 hG a3 c3).1 a0
 exact hi f1 f2 Y1 Y2 j1 j2 b a1 c1 a2 c2 a3 c3
theorem gall (hX:Tgt nb X) (f:Nat) {F:Fam} (hf:s.fl[f]? =some F) (h:(∀j,j<F.N→F.get j≠[]→∃b,F.A j=some b)→X s):X s:=by
 refine hX s Unit (fun _=>s) (fun _=>∀j,j<F.N→F.get j≠[]→∃b,F.A j=some b) (fun ρ0 w0 ρ f0 w hD=>⟨(),ρ,fun j hj hne=>?_,hD⟩) fun _=>h
 have hm:=hD.m.fam.mem hD.l hf hj
 unfold Mq at hm
 cases hA:F.A j with
 |none=>simp only[hA] at hm;exact absurd hm.1 hne
 |some b=>exact⟨b,rfl⟩
/-! ### cells said otherwise -/
def LeC (c c':CV):Prop:=∀ρ n w x,Hc ρ n w c x→Hc ρ n w c' x
theorem LeC.refl (c:CV):LeC c c:=fun _ _ _ _ h=>h
theorem Hl.le {ρ:Pl} {n:Nat} {w:World} {l l':List CV} {vl:List Value} (h:Hl ρ n w l vl) (hl:l'.length=l.length) (hc:∀(k:Nat) (c c':CV),l[k]? =some c→l'[k]? =some c'→LeC c c'):Hl ρ n w l' vl:=by
 refine Hl.of_get (by rw[hl,h.len]) fun i c' u hc' hu=>?_
 have hlt:i<l.length:=by rw[←hl];exact get_lt hc'
 obtain⟨x,h1,h2⟩:=h.get (List.getElem?_eq_getElem hlt)
 rw[hu] at h1
 injection h1 with h1
 subst h1
 exact hc i _ c' (List.getElem?_eq_getElem hlt) hc' _ _ _ _ h2
theorem gcells (hX:Tgt nb X) (i:Nat) {T es:Nat} {l:List CV} (l':List CV) (hb:s.bl[i]? =some (T,es,l)) (hl:l'.length=l.length) (hc:∀(k:Nat) (c c':CV),l[k]? =some c→l'[k]? =some c'→LeC c c') (h:setK s.bl i (T,es,l') fun bl'=>X ⟨s.sl,s.gl,bl',s.fl⟩):X s:=by
 refine hX.one (s':=⟨s.sl,s.gl,s.bl.set i (T,es,l'),s.fl⟩) (fun ρ0 w0 ρ f w hD=>⟨ρ,⟨fun j T2 e2 l2 hj=>?_,?_,?_,?_,hD.m.rel,hD.m.pl,hD.m.zz,?_,hD.m.ffr⟩,?_,hD.l⟩) (setK_ok h)
 ·rw[List.length_set]
  rcases set_case hj with ⟨rfl,h2,_⟩|⟨_,h2⟩
  ·injection h2 with h2 h3
   injection h3 with h3 h4
   subst h2 h3 h4
   have hq:=hD.m.ok j _ _ l hb
   unfold Bq at hq ⊢
   cases hρ:(ρ j).1 with
   |none=>
    simp only[hρ] at hq ⊢
    exact⟨List.eq_nil_of_length_eq_zero (by rw[hl,hq.1];rfl),hq.2⟩
   |some b=>
    simp only[hρ] at hq ⊢
    obtain⟨vl,junk,q1,q2,q3⟩:=hq
    exact⟨vl,junk,q1,q2.le hl hc,q3⟩
  exact hD.m.ok j T2 e2 l2 h2
 ·simpa using hD.m.inj
 ·simpa using hD.m.fr
 ·simpa using hD.m.nbl
 ·simp only[List.length_set];exact hD.m.fam
 exact hD.f.kp rfl rfl (by simp only[List.length_set];exact Kp.refl)
/-! ### an own slice becomes a family of one -/
def sinkC (i:Nat) (A:Option Nat) (a:Nat):CV→CV
 |.s j n=>bif Nat.beq j i then .h A n a else .s j n
 |.p j o=>bif Nat.beq j i then .u else .p j o
 |.f q fi ca=>bif (fi++ca).any (fun p=>Nat.beq p.1 i) then .u else .f q fi ca
 |c=>c
def mapD (φ:CV→CV):DV→DV
 |.c c=> .c (φ c)
 |.a l=> .a (l.map φ)
 |.t l=> .t (l.map fun d=>match d with
  |.c c=> .c (φ c)
  |.a l=> .a (l.map φ)
  |.t _=> .c .u)
def sslK (φ:CV→CV):List (Nat×DV)→(List (Nat×DV)→Prop)→Prop
 |[],k=>k []
 |(t,d)::l,k=>sslK φ l fun r=>k ((t,mapD φ d)::r)
def sblK (φ:CV→CV) (i:Nat):Nat→BL→(BL→Prop)→Prop
 |_,[],k=>k []
 |j,(T,es,l)::r,k=>bif Nat.beq j i then sblK φ i (j+1) r fun r'=>k ((T,es,[])::r') else
  bif Nat.beq es 0 then sblK φ i (j+1) r fun r'=>k ((T,es,l.map φ)::r') else ∃l',l.map φ=l'∧sblK φ i (j+1) r fun r'=>k ((T,es,l')::r')
section map
variable {ρ ρ':Pl} {n:Nat} {w:World} {φ:CV→CV} (hφ:∀c x,Hc ρ n w c x→Hc ρ' n w (φ c) x)
include hφ
theorem Hl.mapc {l:List CV} {vl:List Value} (h:Hl ρ n w l vl):Hl ρ' n w (l.map φ) vl:=by
 induction l generalizing vl with
 |nil=>cases vl with
  |nil=>trivial
  |cons x vl=>exact h
 |cons c l ih=>cases vl with
  |nil=>exact h
  |cons x vl=>exact⟨hφ c x h.1,ih h.2⟩
theorem Hd.mapc {d:DV} {x:Value} (h:Hd ρ n w d x):Hd ρ' n w (mapD φ d) x:=by
 cases h with
 |c h=>exact .c (hφ _ _ h)
 |a h=>exact .a (h.mapc hφ)
 |t h hh=>
  refine .t (by simpa using h) fun i d u h1 h2=>?_
  rw[List.getElem?_map] at h1
  obtain⟨d0,h3,h4⟩:=Option.map_eq_some_iff.1 h1
  subst h4
  cases hh i d0 u h3 h2 with
  |c h=>exact .c (hφ _ _ h)
  |a h=>exact .a (h.mapc hφ)
  |t _ _=>exact .c (Rc.u _)
theorem sslK_ok:∀{sl:List (Nat×DV)} {k:List (Nat×DV)→Prop},sslK φ sl k→∃sl',k sl'∧∀t d',getS sl' t=some d'→∃d,getS sl t=some d∧∀x,Hd ρ n w d x→Hd ρ' n w d' x
 |[],k,h=>⟨[],h,fun t d' h=>by cases h⟩
 |(t0,d0)::l,k,h=>by
  obtain⟨sl',h1,h2⟩:=sslK_ok (show sslK φ l _ from h)
  refine⟨_,h1,fun t d' ht=>?_⟩
  unfold getS at ht ⊢
  cases hb:Nat.beq t0 t with
  |true=>simp only[hb,cond_true] at ht ⊢;injection ht with ht;subst ht;exact⟨d0,rfl,fun x hx=>hx.mapc hφ⟩
  |false=>simp only[hb,cond_false] at ht ⊢;exact h2 t d' ht
theorem sblK_ok {i:Nat}:∀{bl:BL} {j:Nat} {k:BL→Prop},sblK φ i j bl k→∃bl',k bl'∧bl'.length=bl.length∧∀(m:Nat) (T:TypeId) (es:Nat) (l':List CV),bl'[m]? =some (T,es,l')→∃l,bl[m]? =some (T,es,l)∧(j+m=i→l'=[])∧(j+m≠i→l'.length=l.length∧∀vl,Hl ρ n w l vl→Hl ρ' n w l' vl)
 |[],j,k,h=>⟨[],h,rfl,fun m T es l' h=>by cases h⟩
 |(T0,es0,l0)::r,j,k,h=>by
  have step:∀l0' r',(∀(m:Nat) (T:TypeId) (es:Nat) (l':List CV),r'[m]? =some (T,es,l')→∃l,r[m]? =some (T,es,l)∧(j+1+m=i→l'=[])∧(j+1+m≠i→l'.length=l.length∧∀vl,Hl ρ n w l vl→Hl ρ' n w l' vl))→
   (j=i→l0'=[])→(j≠i→l0'.length=l0.length∧∀vl,Hl ρ n w l0 vl→Hl ρ' n w l0' vl)→
   ∀(m:Nat) (T:TypeId) (es:Nat) (l':List CV),((T0,es0,l0')::r')[m]? =some (T,es,l')→∃l,((T0,es0,l0)::r)[m]? =some (T,es,l)∧(j+m=i→l'=[])∧(j+m≠i→l'.length=l.length∧∀vl,Hl ρ n w l vl→Hl ρ' n w l' vl):=by
   intro l0' r' hr h1 h2 m T es l' hm
   cases m with
   |zero=>
    injection hm with hm
    injection hm with e1 e2
    injection e2 with e2 e3
    subst e1 e2 e3
    exact⟨l0,rfl,by simpa using h1,by simpa using h2⟩
   |succ m=>
    obtain⟨l,a1,a2,a3⟩:=hr m T es l' hm
    exact⟨l,a1,fun he=>a2 oM,fun he=>a3 oM⟩
  unfold sblK at h
  cases hb:Nat.beq j i with
  |true=>
   have e:=Nat.eq_of_beq_eq_true hb
   rw[hb] at h
   obtain⟨r',h1,h2,h3⟩:=sblK_ok (show sblK φ i (j+1) r _ from h)
   exact⟨_,h1,by simp[h2],step [] r' h3 (fun _=>rfl) (fun hne=>absurd e hne)⟩
  |false=>
   have hne:=ne_of_beq hb
   rw[hb] at h
   simp only[cond_false] at h
   cases hz:Nat.beq es0 0 with
   |true=>
    rw[hz] at h
    obtain⟨r',h1,h2,h3⟩:=sblK_ok (show sblK φ i (j+1) r _ from h)
    exact⟨_,h1,by simp[h2],step _ r' h3 (fun he=>absurd he hne) fun _=>⟨by simp,fun vl hl=>hl.mapc hφ⟩⟩
   |false=>
    rw[hz] at h
    obtain⟨l',h0,h⟩:=h
    subst h0
    obtain⟨r',h1,h2,h3⟩:=sblK_ok h
    exact⟨_,h1,by simp[h2],step _ r' h3 (fun he=>absurd he hne) fun _=>⟨by simp,fun vl hl=>hl.mapc hφ⟩⟩
end map
theorem Hc.sink {ρ ρ':Pl} {n i:Nat} {w:World} (k:Kx i ρ n w ρ' w) {A:Option Nat} {a:Nat} (hp:ρ i=(A,a)) (c:CV) (x:Value) (h:Hc ρ n w c x):Hc ρ' n w (sinkC i A a c) x:=by
 cases hm:menC i c with
 |false=>
  have e:sinkC i A a c=c:=by
   cases c with
   |s j m=>simp only[menC] at hm;simp only[sinkC,hm,cond_false]
   |p j o=>simp only[menC] at hm;simp only[sinkC,hm,cond_false]
   |f q fi ca=>simp only[menC] at hm;simp only[sinkC,hm,cond_false]
   |_=>rfl
  rw[e]
  exact h.kx k hm
 |true=>
  cases c with
  |s j m=>
   simp only[menC] at hm
   simp only[sinkC,hm,cond_true]
   have:=Nat.eq_of_beq_eq_true hm
   subst this
   obtain⟨_,h2⟩:=h
   rw[h2,hp]
   exact Rc.h A m a
  |p j o=>simp only[menC] at hm;simp only[sinkC,hm,cond_true];exact Rc.u x
  |f q fi ca=>simp only[menC] at hm;simp only[sinkC,hm,cond_true];exact Rc.u x
  |u=>cases hm
  |v y=>cases hm
  |h A n c=>cases hm
  |hp b o=>cases hm
  |b p q=>cases hm
  |r A m c e get=>cases hm
  |q A m c e get j o=>cases hm
theorem rc_of_clo {ρ:Pl} {n:Nat} {w:World} {c:CV} {x:Value} (h:Hc ρ n w c x) (hc:cloC c=true):Rc (Zf ρ n w) w c x:=by
 cases c with
 |u=>exact h
 |v y=>exact h
 |h A n c=>exact h
 |hp b o=>exact h
 |b p q=>exact h
 |r A m c e get=>exact h
 |p i o=>cases hc
 |s i m=>cases hc
 |q A m c e get j o=>cases hc
 |f k fi ca=>cases hc
theorem gsink (hX:Tgt nb X) (i:Nat) {T es:Nat} {l:List CV} (hb:s.bl[i]? =some (T,es,l)) (hes:0<es) (hclo:∀c∈l,cloC c=true) (hnb:nb≤i) (hgl:s.gl=[])
 (h:∀A a,sslK (sinkC i A a) s.sl fun sl'=>sblK (sinkC i A a) i 0 s.bl fun bl'=>snocK s.fl ⟨T,es,1,fun _=>A,fun _=>a,fun _=>l⟩ fun fl'=>X ⟨sl',[],bl',fl'⟩):X s:=by
 refine hX s (Option Nat×Nat×List (Nat×DV)×BL) (fun g=>⟨g.2.2.1,[],g.2.2.2,s.fl++[⟨T,es,1,fun _=>g.1,fun _=>g.2.1,fun _=>l⟩]⟩) (fun g=>X ⟨g.2.2.1,[],g.2.2.2,s.fl++[⟨T,es,1,fun _=>g.1,fun _=>g.2.1,fun _=>l⟩]⟩) (fun ρ0 w0 ρ f w hD=>?_) fun g hg=>hg
 have hi:i<s.bl.length:=get_lt hb
 have hq:=hD.m.ok i T es l hb
 let Fn:Fam:=⟨T,es,1,fun _=>(ρ i).1,fun _=>(ρ i).2,fun _=>l⟩
 let ρ':Pl:=⟨fun j=>if j=i then (none,0) else ρ j,ρ.Z,s.fl++[Fn]⟩
 have hρi:ρ' i=(none,0):=if_pos rfl
 have hρj:∀j,j≠i→ρ' j=ρ j:=fun j hj=>if_neg hj
 have hin:∀b,InF ρ' b→InF ρ b∨(ρ i).1=some b:=fun b ⟨F,hF,j,hj,hA⟩=>by
  rcases List.mem_append.1 hF with hF|hF
  ·exact .inl ⟨F,by rw[hD.l];exact hF,j,hj,hA⟩
  rw[List.mem_singleton.1 hF] at hA;exact .inr hA
 have kx:Kx i ρ s.bl.length w ρ' w:=⟨fun j _ hj=>hρj j hj,fun b hbz=>⟨⟨hbz.lt,fun j hj=>?_,hbz.z,fun hf=>?_⟩,rfl⟩,fun _ _ _ _ _=>rfl⟩
 ·obtain⟨sl',k1,k2⟩:=sslK_ok (ρ:=ρ) (ρ':=ρ') (n:=s.bl.length) (w:=w) (Hc.sink kx rfl) (h (ρ i).1 (ρ i).2)
  obtain⟨bl',k3,k4,k5⟩:=sblK_ok (ρ:=ρ) (ρ':=ρ') (n:=s.bl.length) (w:=w) (Hc.sink kx rfl) k1
  have kX:=snocK_ok k3
  have hmq:Mq (Zf ρ' s.bl.length w) w Fn 0:=by
   unfold Mq
   unfold Bq at hq
   cases hρ:(ρ i).1 with
   |none=>
    simp only[hρ] at hq
    simp only[Fn,hρ]
    exact⟨hq.1,hq.2.1⟩
   |some b=>
    simp only[hρ] at hq
    simp only[Fn,hρ]
    obtain⟨vl,junk,q1,q2,q3,q4⟩:=hq
    refine⟨vl,junk,q1,q2.len.symm,fun k c x hc hx=>?_,(q3 hes).1,(q3 hes).2,q4⟩
    obtain⟨y,a1,a2⟩:=q2.get hc
    rw[hx] at a1
    injection a1 with a1
    subst a1
    exact(rc_of_clo a2 (hclo c (List.mem_of_getElem? hc))).mono kx.z
  have hfam:FamOk ρ' s.bl.length w:=by
   refine⟨fun F hF=>?_,fun j b hj hb' hf=>?_,fun f1 f2 F1 F2 j1 j2 b h1 h2 h3 h4 h5 h6=>?_⟩
   ·rcases List.mem_append.1 hF with hF|hF
    ·have hF':F∈ρ.F:=by rw[hD.l];exact hF
     exact⟨(hD.m.fam.ok F hF').1,fun j hj=>((hD.m.fam.ok F hF').2 j hj).mono kx.z fun _ _=>rfl⟩
    rw[List.mem_singleton.1 hF]
    refine⟨hes,fun j hj=>?_⟩
    obtain rfl:j=0:=by have:j<1:=hj;omega
    exact hmq
   ·by_cases hji:j=i
    ·subst hji;rw[hρi] at hb';cases hb'
    rw[hρj j hji] at hb'
    rcases hin b hf with h1|h1
    ·exact hD.m.fam.own j b hj hb' h1
    exact hji (hD.m.inj j i b hj hi hb' h1)
   have src:∀(x:Nat) (Y:Fam) (y:Nat),(s.fl++[Fn])[x]? =some Y→y<Y.N→Y.A y=some b→(x=s.fl.length∧y=0∧(ρ i).1=some b)∨(ρ.F[x]? =some Y):=fun x Y y hx hy hbb=>by
    rcases snoc_case hx with ⟨e1,rfl⟩|⟨_,e2⟩
    ·exact .inl ⟨e1,by have:y<1:=hy;omega,hbb⟩
    exact .inr (by rw[hD.l];exact e2)
   rcases src f1 F1 j1 h1 h3 h5 with ⟨a1,a2,a3⟩|a1<;>rcases src f2 F2 j2 h2 h4 h6 with ⟨c1,c2,c3⟩|c1
   ·exact⟨a1.trans c1.symm,a2.trans c2.symm⟩
   ·exact absurd ⟨F2,List.mem_of_getElem? c1,j2,h4,h6⟩ (hD.m.fam.own i b hi a3)
   ·exact absurd ⟨F1,List.mem_of_getElem? a1,j1,h3,h5⟩ (hD.m.fam.own i b hi c3)
   exact hD.m.fam.inj f1 f2 F1 F2 j1 j2 b a1 c1 h3 h4 h5 h6
  refine⟨((ρ i).1,(ρ i).2,sl',bl'),ρ',kX,⟨fun j T2 e2 l2 hj=>?_,fun a b bb ha hbl hab hbb=>?_,fun j b h1 h2 hbj=>?_,?_,⟨hD.m.rel.os,hD.m.rel.tape,hD.m.rel.output,hD.m.rel.size,fun k hk hn hf=>hD.m.rel.block k hk (fun j hj=>?_) hf⟩,fun j hj=>?_,hD.m.zz,?_,fun b hb'=>?_⟩,⟨fun t d' ht=>?_,fun t gs d ht=>by cases ht⟩,rfl⟩
  ·show Bq ρ' bl'.length w j T2 e2 l2
   rw[k4]
   obtain⟨l0,a1,a2,a3⟩:=k5 j T2 e2 l2 hj
   by_cases hji:j=i
   ·subst hji
    rw[hb] at a1
    injection a1 with a1
    injection a1 with e1 e2'
    injection e2' with e2' e3
    subst e1 e2' e3
    unfold Bq
    rw[hρi]
    exact⟨a2 oM,rfl,hes⟩
   obtain⟨a4,a5⟩:=a3 oM
   have hq0:=hD.m.ok j T2 e2 l0 a1
   unfold Bq at hq0 ⊢
   rw[hρj j hji]
   cases hρ:(ρ j).1 with
   |none=>
    simp only[hρ] at hq0 ⊢
    exact⟨List.eq_nil_of_length_eq_zero (by rw[a4,hq0.1];rfl),hq0.2⟩
   |some b=>
    simp only[hρ] at hq0 ⊢
    obtain⟨vl,junk,q1,q2,q3⟩:=hq0
    exact⟨vl,junk,q1,a5 vl q2,q3⟩
  ·have ha':a<s.bl.length:=by rw[←k4];exact ha
   have hbl':b<s.bl.length:=by rw[←k4];exact hbl
   by_cases e1:a=i
   ·subst e1;rw[hρi] at hab;cases hab
   by_cases e2:b=i
   ·subst e2;rw[hρi] at hbb;cases hbb
   rw[hρj a e1] at hab;rw[hρj b e2] at hbb;exact hD.m.inj a b bb ha' hbl' hab hbb
  ·have h2':j<s.bl.length:=by rw[←k4];exact h2
   by_cases e1:j=i
   ·subst e1;rw[hρi] at hbj;cases hbj
   rw[hρj j e1] at hbj;exact hD.m.fr j b h1 h2' hbj
  ·show nb≤bl'.length
   rw[k4];exact hD.m.nbl
  ·have:=hn j hj
   rw[hρj j oM] at this
   exact this
  ·rw[hρj j oM];exact hD.m.pl j hj
  ·show FamOk ρ' bl'.length w
   rw[k4];exact hfam
  ·rcases hin b hb' with h1|h1
   ·exact hD.m.ffr b h1
   exact .inl (hD.m.fr i b hnb hi h1)
  obtain⟨d,a1,a2⟩:=k2 t d' ht
  show Hd ρ' bl'.length w d' (f t)
  rw[k4]
  exact a2 _ (hD.f.sl t d a1)
 ·by_cases hji:j=i
  ·subst hji;rw[hρi];intro h;cases h
  rw[hρj j hji];exact hbz.no j hj
 rcases hin b hf with h1|h1
 ·exact hbz.nf h1
 exact hbz.no i hi h1
/-! ### two own blocks change their numbers -/
def swN (i j k:Nat):Nat:=bif Nat.beq k i then j else bif Nat.beq k j then i else k
theorem swN_i {i j:Nat}:swN i j i=j:=by simp[swN,Nat.beq_refl]
theorem swN_j {i j:Nat}:swN i j j=i:=by
 unfold swN
 cases h:Nat.beq j i with
 |true=>exact Nat.eq_of_beq_eq_true h
 |false=>simp[Nat.beq_refl]
theorem swN_o {i j k:Nat} (h1:k≠i) (h2:k≠j):swN i j k=k:=by
 unfold swN
 cases h:Nat.beq k i with
 |true=>exact absurd (Nat.eq_of_beq_eq_true h) h1
 |false=>cases h':Nat.beq k j with
  |true=>exact absurd (Nat.eq_of_beq_eq_true h') h2
  |false=>rfl
theorem swN_sw {i j:Nat} (k:Nat):swN i j (swN i j k)=k:=by
 by_cases h1:k=i
 ·rw[h1,swN_i,swN_j]
 by_cases h2:k=j
 ·rw[h2,swN_j,swN_i]
 rw[swN_o h1 h2,swN_o h1 h2]
theorem swN_lt {i j k n:Nat} (hi:i<n) (hj:j<n) (hk:k<n):swN i j k<n:=by
 by_cases h1:k=i
 ·rw[h1,swN_i];exact hj
 by_cases h2:k=j
 ·rw[h2,swN_j];exact hi
 rw[swN_o h1 h2];exact hk
def swC (i j:Nat):CV→CV
 |.p k o=> .p (swN i j k) o
 |.s k n=> .s (swN i j k) n
 |.f q fi ca=> .f q (fi.map fun p=>(swN i j p.1,p.2)) (ca.map fun p=>(swN i j p.1,p.2))
 |c=>c
theorem Hc.sw {ρ ρ':Pl} {n i j:Nat} {w:World} (hi:i<n) (hj:j<n) (hp:∀k,ρ' k=ρ (swN i j k)) (hz:∀b,Zf ρ n w b→Zf ρ' n w b) (c:CV) (x:Value) (h:Hc ρ n w c x):Hc ρ' n w (swC i j c) x:=by
 have hps:∀k,ρ' (swN i j k)=ρ k:=fun k=>by rw[hp,swN_sw]
 cases c with
 |p k o=>obtain⟨h1,b,h2,h3⟩:=h;exact⟨swN_lt hi hj h1,b,by rw[hps];exact h2,h3⟩
 |s k m=>obtain⟨h1,h2⟩:=h;exact⟨swN_lt hi hj h1,by rw[hps];exact h2⟩
 |q A m c e get k o=>obtain⟨h1,h2⟩:=h;exact⟨h1.mono fun b hb=>⟨hz b hb,rfl⟩,h2⟩
 |f q fi ca=>
  obtain⟨h1,h2⟩:=h
  have hm:∀l:List (Nat×Nat),(l.map fun p=>(swN i j p.1,p.2)).map (ptr ρ')=l.map (ptr ρ):=fun l=>by
   rw[List.map_map]
   refine List.map_congr_left fun p _=>?_
   show ptr ρ' (swN i j p.1,p.2)=ptr ρ p
   unfold ptr
   rw[hps]
  refine⟨fun p hp2=>?_,h2.trans (by rw[hm,hm])⟩
  rw[←List.map_append] at hp2
  obtain⟨p0,hp0,rfl⟩:=List.mem_map.1 hp2
  obtain⟨a1,a2⟩:=h1 p0 hp0
  exact⟨swN_lt hi hj a1,by rw[hps];exact a2⟩
 |u=>exact Rc.mono h fun b hb=>⟨hz b hb,rfl⟩
 |v y=>exact Rc.mono h fun b hb=>⟨hz b hb,rfl⟩
 |h A m c=>exact Rc.mono h fun b hb=>⟨hz b hb,rfl⟩
 |hp b o=>exact Rc.mono h fun b hb=>⟨hz b hb,rfl⟩
 |b p q=>exact Rc.mono h fun b hb=>⟨hz b hb,rfl⟩
 |r A m c e get=>exact Rc.mono h fun b hb=>⟨hz b hb,rfl⟩
theorem gswap (hX:Tgt nb X) (i j:Nat) {bi bj:TypeId×Nat×List CV} (hbi:s.bl[i]? =some bi) (hbj:s.bl[j]? =some bj) (hni:nb≤i) (hnj:nb≤j) (hgl:s.gl=[])
 (h:sslK (swC i j) s.sl fun sl'=>setK s.bl i bj fun bl1=>setK bl1 j bi fun bl2=>sblK (swC i j) 1000000 0 bl2 fun bl'=>bl'.length≤1000000∧X ⟨sl',[],bl',s.fl⟩):X s:=by
 have hi:i<s.bl.length:=get_lt hbi
 have hj:j<s.bl.length:=get_lt hbj
 refine hX s SS (fun g=>g) X (fun ρ0 w0 ρ f w hD=>?_) fun g hg=>hg
 let ρ':Pl:=⟨fun k=>ρ (swN i j k),ρ.Z,ρ.F⟩
 have hp:∀k,ρ' k=ρ (swN i j k):=fun _=>rfl
 have hz:∀b,Zf ρ s.bl.length w b→Zf ρ' s.bl.length w b:=fun b hb=>⟨hb.lt,fun k hk=>hb.no _ (swN_lt hi hj hk),hb.z,hb.nf⟩
 obtain⟨sl',k1,k2⟩:=sslK_ok (ρ:=ρ) (ρ':=ρ') (n:=s.bl.length) (w:=w) (Hc.sw hi hj hp hz) h
 obtain⟨bl',⟨kle,kX⟩,k4,k5⟩:=sblK_ok (ρ:=ρ) (ρ':=ρ') (n:=s.bl.length) (w:=w) (Hc.sw hi hj hp hz) (setK_ok (setK_ok k1))
 rw[List.length_set,List.length_set] at k4
 have hold:∀(m:Nat) (x:TypeId×Nat×List CV),((s.bl.set i bj).set j bi)[m]? =some x→s.bl[swN i j m]? =some x:=fun m x hm=>by
  rcases set_case hm with ⟨rfl,rfl,_⟩|⟨h1,h2⟩
  ·rw[swN_j];exact hbi
  rcases set_case h2 with ⟨rfl,rfl,_⟩|⟨h3,h4⟩
  ·rw[swN_i];exact hbj
  rw[swN_o h3 h1];exact h4
 refine⟨_,ρ',kX,⟨fun m T es l hm=>?_,fun a b bb ha hb hab hbb=>?_,fun m b h1 h2 hb=>?_,?_,⟨hD.m.rel.os,hD.m.rel.tape,hD.m.rel.output,hD.m.rel.size,fun k hk hn hf=>hD.m.rel.block k hk (fun m hm=>?_) hf⟩,fun m hm=>?_,hD.m.zz,?_,hD.m.ffr⟩,⟨fun t d' ht=>?_,fun t gs d ht=>by cases ht⟩,hD.l⟩
 ·show Bq ρ' bl'.length w m T es l
  have hml:m<bl'.length:=get_lt hm
  rw[k4]
  obtain⟨l0,a1,_,a3⟩:=k5 m T es l hm
  obtain⟨a4,a5⟩:=a3 oM
  have hq:=hD.m.ok _ T es l0 (hold m _ a1)
  unfold Bq at hq ⊢
  rw[hp]
  cases hρ:(ρ (swN i j m)).1 with
  |none=>
   simp only[hρ] at hq ⊢
   exact⟨List.eq_nil_of_length_eq_zero (by rw[a4,hq.1];rfl),hq.2⟩
  |some b=>
   simp only[hρ] at hq ⊢
   obtain⟨vl,junk,q1,q2,q3⟩:=hq
   exact⟨vl,junk,q1,a5 vl q2,q3⟩
 ·have ha':a<s.bl.length:=by rw[←k4];exact ha
  have hb':b<s.bl.length:=by rw[←k4];exact hb
  have:=hD.m.inj _ _ bb (swN_lt hi hj ha') (swN_lt hi hj hb') hab hbb
  rw[←swN_sw (i:=i) (j:=j) a,this,swN_sw]
 ·have h2':m<s.bl.length:=by rw[←k4];exact h2
  refine hD.m.fr (swN i j m) b ?_ (swN_lt hi hj h2') hb
  by_cases e1:m=i
  ·rw[e1,swN_i];exact hnj
  by_cases e2:m=j
  ·rw[e2,swN_j];exact hni
  rw[swN_o e1 e2];exact h1
 ·show nb≤bl'.length
  rw[k4];exact hD.m.nbl
 ·have:=hn m hm
  rw[hp,swN_o oM oM] at this
  exact this
 ·rw[hp,swN_o oM oM];exact hD.m.pl m hm
 ·show FamOk ρ' bl'.length w
  rw[k4]
  exact hD.m.fam.mono rfl (fun b hb=>⟨hz b hb,rfl⟩) (fun _ _=>rfl) fun m b hm hb=>hD.m.fam.own _ b (swN_lt hi hj hm) hb
 obtain⟨d,a1,a2⟩:=k2 t d' ht
 show Hd ρ' bl'.length w d' (f t)
 rw[k4]
 exact a2 _ (hD.f.sl t d a1)
/-! ### a family is let go: what names it is read from now on -/
def FrC (F:Fam) (c c':CV):Prop:=∃q n g,q<F.N∧c= .h (F.A q) n (F.cap q)∧c'= .r ((F.A q).map fun b=>⟨b,0,none⟩) n (F.cap q) F.es g∧n*F.es=(F.get q).length∧∀k,k<n→g k=((F.get q).drop (k*F.es)).take F.es
theorem gfree (hX:Tgt nb X) (i f:Nat) {T es:Nat} {l:List CV} {F:Fam} (l':List CV) (hb:s.bl[i]? =some (T,es,l)) (hf:s.fl[f]? =some F) (hgl:s.gl=[]) (hl:l'.length=l.length) (hc:∀(k:Nat) (c c':CV),l[k]? =some c→l'[k]? =some c'→c=c'∨FrC F c c')
 (h:setK s.bl i (T,es,l') fun bl'=>setK s.fl f (dead F) fun fl'=>X ⟨s.sl,[],bl',fl'⟩):X s:=by
 have hfl:f<s.fl.length:=get_lt hf
 refine hX.one (s':=⟨s.sl,[],s.bl.set i (T,es,l'),s.fl.set f (dead F)⟩) (fun ρ0 w0 ρ f0 w hD=>?_) (setK_ok (setK_ok h))
 have hes:=es_pos hD hf
 have hin:∀b,InL (s.fl.set f (dead F)) b→InF ρ b∧∀q,q<F.N→F.A q≠some b:=fun b ⟨G,hG,j,hj,hA⟩=>by
  obtain⟨g,hg⟩:=List.getElem?_of_mem hG
  rcases set_get hg hfl with ⟨_,rfl⟩|⟨hne,h2⟩
  ·exact absurd hj (Nat.not_lt_zero _)
  exact⟨⟨G,by rw[hD.l];exact List.mem_of_getElem? h2,j,hj,hA⟩,fun q hq he=>hne (hD.m.fam.inj g f G F j q b (by rw[hD.l];exact h2) (by rw[hD.l];exact hf) hj hq hA he).1⟩
 have hz:∀b,Zf ρ s.bl.length w b→Zf ⟨ρ.at',ρ.Z,s.fl.set f (dead F)⟩ s.bl.length w b∧w.heap[b]? =w.heap[b]?:=fun b hb=>⟨⟨hb.lt,hb.no,hb.z,fun hi=>hb.nf (hin b hi).1⟩,rfl⟩
 have kp:Kp ρ s.bl.length w ⟨ρ.at',ρ.Z,s.fl.set f (dead F)⟩ s.bl.length w:=⟨Nat.le_refl _,fun _ _=>rfl,hz⟩
 have hrd:∀c c' x,FrC F c c'→Hc ρ s.bl.length w c x→Hc ⟨ρ.at',ρ.Z,s.fl.set f (dead F)⟩ s.bl.length w c' x:=fun c c' x ⟨q,n,g,hq,e1,e2,e3,e4⟩ hx=>by
  subst e1 e2
  rw[hx.inv_h]
  have hm:=hD.m.fam.mem hD.l hf hq
  unfold Mq at hm
  cases hA:F.A q with
  |none=>
   simp only[hA] at hm
   have hn:n=0:=by
    rcases Nat.eq_zero_or_pos n with h|h
    ·exact h
    rw[hm.1] at e3;have:=Nat.mul_pos h hes;simp at e3;omega
   subst hn
   rw[hm.2]
   exact Rc.nil none 0 F.es g (Nat.zero_le _)
  |some b=>
   simp only[hA] at hm
   obtain⟨vl,junk,q1,q2,q3,q4,q5,q6⟩:=hm
   have hbin:InF ρ b:=⟨F,by rw[hD.l];exact List.mem_of_getElem? hf,q,hq,hA⟩
   have hZb:Zf ⟨ρ.at',ρ.Z,s.fl.set f (dead F)⟩ s.bl.length w b:=⟨lt_of_heap q1,fun j hj he=>hD.m.fam.own j b hj he hbin,by
    have:=hD.m.zz.2 b (hD.m.ffr b hbin)
    exact this,fun hi=>(hin b hi).2 q hq hA⟩
   have hnc:n≤F.cap q:=by
    rw[List.length_append] at q4
    exact Nat.le_of_mul_le_mul_right (c:=F.es) oM hes
   have hjn:∀j,j<n→j*F.es+F.es≤vl.length:=fun j hj=>by
    have:(j+1)*F.es≤n*F.es:=Nat.mul_le_mul_right F.es hj
    rw[Nat.add_mul,Nat.one_mul] at this
    omega
   refine Rc.r b 0 n (F.cap q) F.es g (fun j=>(vl.drop (j*F.es)).take F.es) hnc q5 hZb (fun j hj k u hu=>?_) (fun j hj=>?_) fun j hj k c' u hc hu=>?_
   ·rw[List.getElem?_take] at hu
    split at hu
    ·rw[List.getElem?_drop] at hu
     refine⟨?_,q6 u (List.mem_of_getElem? hu)⟩
     rw[Nat.zero_add]
     exact own_cell q1 hu
    cases hu
   ·rw[e4 j hj]
    have:=hjn j hj
    simp only[List.length_take,List.length_drop]
    omega
   rw[e4 j hj] at hc
   rw[List.getElem?_take] at hc hu
   split at hc
   ·next hlt=>
    rw[if_pos hlt] at hu
    rw[List.getElem?_drop] at hc hu
    exact(q3 _ c' u hc hu).mono hz
   cases hc
 refine⟨⟨ρ.at',ρ.Z,s.fl.set f (dead F)⟩,⟨fun j T2 e2 l2 hj=>?_,?_,?_,?_,⟨hD.m.rel.os,hD.m.rel.tape,hD.m.rel.output,hD.m.rel.size,hD.m.rel.block⟩,hD.m.pl,hD.m.zz,⟨fun G hG=>?_,fun j b hj hbj hf2=>?_,fun f1 f2 F1 F2 j1 j2 b h1 h2 h3 h4 h5 h6=>?_⟩,fun b hbb=>hD.m.ffr b (hin b hbb).1⟩,⟨fun t d ht=>?_,fun t gs d ht=>by cases ht⟩,rfl⟩
 ·rw[List.length_set]
  rcases set_case hj with ⟨rfl,h2,_⟩|⟨_,h2⟩
  ·injection h2 with h2 h3
   injection h3 with h3 h4
   subst h2 h3 h4
   have hq:=hD.m.ok j _ _ l hb
   unfold Bq at hq ⊢
   show match (ρ j).1 with|none=>_|some b=>_
   cases hρ:(ρ j).1 with
   |none=>
    simp only[hρ] at hq ⊢
    exact⟨List.eq_nil_of_length_eq_zero (by rw[hl,hq.1];rfl),hq.2⟩
   |some b=>
    simp only[hρ] at hq ⊢
    obtain⟨vl,junk,q1,q2,q3⟩:=hq
    refine⟨vl,junk,q1,Hl.of_get (by rw[hl,q2.len]) fun k c' u hc' hu=>?_,q3⟩
    have hlt:k<l.length:=by rw[←hl];exact get_lt hc'
    obtain⟨x,h1,h2⟩:=q2.get (List.getElem?_eq_getElem hlt)
    rw[hu] at h1
    injection h1 with h1
    subst h1
    rcases hc k _ c' (List.getElem?_eq_getElem hlt) hc' with e|e
    ·rw[←e];exact h2.kp kp
    exact hrd _ _ _ e h2
  exact(hD.m.ok j T2 e2 l2 h2).kp kp (get_lt h2) fun _ _=>rfl
 ·simpa using hD.m.inj
 ·simpa using hD.m.fr
 ·simpa using hD.m.nbl
 ·obtain⟨g,hg⟩:=List.getElem?_of_mem hG
  rcases set_get hg hfl with ⟨_,rfl⟩|⟨_,h2⟩
  ·exact⟨hes,fun j hj=>absurd hj (Nat.not_lt_zero _)⟩
  have hG':G∈ρ.F:=by rw[hD.l];exact List.mem_of_getElem? h2
  simp only[List.length_set]
  exact⟨(hD.m.fam.ok G hG').1,fun j hj=>((hD.m.fam.ok G hG').2 j hj).mono hz fun _ _=>rfl⟩
 ·simp only[List.length_set] at hj
  exact hD.m.fam.own j b hj hbj (hin b hf2).1
 ·rcases set_get (show(s.fl.set f (dead F))[f1]? =_ from h1) hfl with ⟨_,rfl⟩|⟨_,h1'⟩
  ·exact absurd h3 (Nat.not_lt_zero _)
  rcases set_get (show(s.fl.set f (dead F))[f2]? =_ from h2) hfl with ⟨_,rfl⟩|⟨_,h2'⟩
  ·exact absurd h4 (Nat.not_lt_zero _)
  exact hD.m.fam.inj f1 f2 F1 F2 j1 j2 b (by rw[hD.l];exact h1') (by rw[hD.l];exact h2') h3 h4 h5 h6
 show Hd _ (s.bl.set i (T,es,l')).length w d (f0 t)
 rw[List.length_set]
 exact(hD.f.sl t d ht).kp kp
/-! ### the end of a ghost way: what is kept, what changed -/
def preF:List Fam→List Fam→Prop
 |_,[]=>True
 |x::l,y::m=>x=y∧preF l m
 |[],_::_=>False
theorem preF_ok:∀{l m:List Fam},preF l m→∃r,l=m++r
 |l,[],_=>⟨l,rfl⟩
 |[],_::_,h=>h.elim
 |x::l,y::m,h=>by
  obtain⟨h1,h2⟩:=h
  obtain⟨r,hr⟩:=preF_ok h2
  exact⟨r,by rw[h1,hr];rfl⟩
theorem Fsub.pre {fl r:List Fam} (hes:∀F∈fl,0<F.es):Fsub (fl++r) fl:=by
 have hg:∀(x:Nat) (Y:Fam),fl[x]? =some Y→(fl++r)[x]? =some Y:=fun x Y h=>by rw[List.getElem?_append_left (get_lt h)];exact h
 exact⟨fun f' F' hf'=>⟨hes F' (List.mem_of_getElem? hf'),fun j' hj'=> .inr ⟨f',F',j',hg f' F' hf',hj',rfl,rfl,rfl,rfl,rfl⟩⟩,fun hi f1 f2 F1 F2 j1 j2 b h1 h2=>hi f1 f2 F1 F2 j1 j2 b (hg f1 F1 h1) (hg f2 F2 h2)⟩
theorem gfin {M:Nat→Bool} {base:List (Nat×DV)} (hM:∀t d,getS base t=some d→M t=false) {σ:Type} {chg:σ→List (Nat×DV)} {bls:σ→BL} {fls:σ→List Fam} {C:σ→Prop} (g:σ) (hC:C g)
 (hmt:tailK M base [] [] s.sl) (hbl:preK s.bl (bls g)) (hfl:preF s.fl (fls g)) (hall:AllC s.sl (chg g)) (hnb:nb≤(bls g).length) (hsc:scB (bls g).length (bls g)) (hsd:(chg g++base).all (fun e=>scD (bls g).length e.2)=true):
 Gt nb s (fun g=>⟨chg g++base,[],bls g,fls g⟩) C:=fun ρ0 w0 ρ f w hD=>by
 obtain⟨r,hr⟩:=preK_ok hbl
 obtain⟨rf,hrf⟩:=preF_ok hfl
 have h1:=sub_drop (s:=s) (s':=⟨chg g++base,[],bls g,s.fl⟩) (r:=r) hr rfl rfl hsc (fun t d ht=>⟨?_,getS_all hsd ht⟩) ρ0 w0 nb ρ f w hnb hD
 ·have hp:Fsub s.fl (fls g):=by
   have hes:∀F∈fls g,0<F.es:=fun F hF=>(hD.m.fam.ok F (by rw[hD.l,hrf];exact List.mem_append_left _ hF)).1
   have:=Fsub.pre (r:=rf) hes
   rw[←hrf] at this
   exact this
  obtain⟨ρ',h2⟩:=h1.fsub (s:=⟨chg g++base,[],bls g,s.fl⟩) hp
  exact⟨g,ρ',hC,h2⟩
 rcases getS_app ht with h1|⟨h1,h2⟩
 ·exact hall.get h1
 exact⟨d,by rw[(tailK_ok hmt).1 t (hM t d h2)];exact h2,.refl d⟩
theorem vloopG (M:Nat→Bool) {σ:Type} (chg:σ→List (Nat×DV)) (bls:σ→BL) (fls:σ→List Fam) (C:σ→Prop) (μ:σ→Nat)
 (h:keepK M s.sl fun base=>(∀t d,getS base t=some d→M t=false)→Gt nb s (fun g=>⟨chg g++base,[],bls g,fls g⟩) C∧∀g,C g→Sd P nb N c ⟨fun s'=>Gt nb s' (fun g'=>⟨chg g'++base,[],bls g',fls g'⟩) (fun g'=>C g'∧μ g'<μ g),K.ext,K.ret⟩ ⟨chg g++base,[],bls g,fls g⟩):Sd P nb N (.loop c) K s:=by
 obtain⟨base,h1,hk⟩:=keepK_ok h
 obtain⟨h0,hr⟩:=h1 fun t d ht=>(hk t d ht).2
 intro ρ0 w0 ρ f w Q hL hD
 obtain⟨g0,ρ1,hC0,hD1⟩:=h0 ρ0 w0 ρ f w hD
 refine wloop (σ:=σ) (fun g f w=>C g∧∃ρ,Dn ρ0 w0 nb ⟨chg g++base,[],bls g,fls g⟩ ρ f w) μ g0 ⟨hC0,ρ1,hD1⟩ fun g f w ⟨hc,ρ,hD⟩=>?_
 refine hr g hc ρ0 w0 ρ f w _ ⟨fun s' ρ' f' w' hg hD'=>?_,hL.ext,hL.ret⟩ hD
 obtain⟨g',ρ2,⟨hc',hlt⟩,hD2⟩:=hg ρ0 w0 ρ' f' w' hD'
 exact⟨g',⟨hc',ρ2,hD2⟩,hlt⟩
end gt
/-! ### a contract said otherwise -/
theorem CtrF.gt {P:Program} {q:FuncId} {cl:List Bool} {al:List DV} {bl:BL} {fl:List Fam} {σ τ:Type} {R:σ→OutF} {R':τ→OutF} (h:CtrF P q cl al bl fl R)
 (hp:∀g,(R g).C→ClB cl (R g).bl→Gt bl.length ⟨[(0,(R g).d)],[],(R g).bl,(R g).fl⟩ (fun g'=>⟨[(0,(R' g').d)]++[],[],(R' g').bl,(R' g').fl⟩) fun g'=>(R' g').C∧ClB cl (R' g').bl):CtrF P q cl al bl fl R':=
 ⟨h.ent,h.clb,fun ρ w vals hv hD hF=>(h.run ρ w vals hv hD hF).mono fun e w' ⟨v,he,g,ρ',hC,hDr,hdv,hclr,hFr⟩=>by
  have hq:Dn ρ w bl.length ⟨[(0,(R g).d)],[],(R g).bl,(R g).fl⟩ ρ' (fun _=>v) w':=⟨hDr,⟨fun t d ht=>?_,fun t gs d ht=>by cases ht⟩,hFr⟩
  ·obtain⟨g',ρ2,⟨h1,h2⟩,h3⟩:=hp g hC hclr ρ w ρ' (fun _=>v) w' hq
   exact⟨v,he,g',ρ2,h1,h3.m,h3.f.sl 0 _ rfl,h2,h3.l⟩
  simp only[getS] at ht
  cases hb:Nat.beq 0 t with
  |true=>rw[hb] at ht;injection ht with ht;subst ht;exact hdv
  |false=>rw[hb] at ht;cases ht⟩
theorem CtrF.frz {P:Program} {q:FuncId} {al:List DV} {σ:Type} {n T es:σ→Nat} {l:σ→List CV} {C:σ→Prop} (h:Ctr P q [] al [] (fun g:σ=>⟨.c (.s 0 (n g)),[(T g,es g,l g)],C g⟩)) (get:σ→Nat→List CV) (hp:∀g,C g→(∀j,j<n g→get g j=((l g).drop (j*es g)).take (es g))∧n g*es g=(l g).length∧0<es g∧∀c∈l g,cloC c=true):
 Ctr P q [] al [] (fun g:σ×Option Addr×Nat=>⟨.c (.r g.2.1 (n g.1) g.2.2 (es g.1) (get g.1)),[],C g.1⟩):=by
 refine CtrF.gt h fun g hC _=>?_
 obtain⟨h1,h2,h3,h4⟩:=hp g hC
 refine gfrz tGt 0 0 (get g) rfl rfl h1 h2 h3 h4 (Nat.le_refl _) fun A c _ _=>?_
 exact gfin (M:=fun _=>true) (base:=[]) (chg:=fun g':σ×Option Addr×Nat=>[(0,.c (.r g'.2.1 (n g'.1) g'.2.2 (es g'.1) (get g'.1)))]) (bls:=fun _=>[]) (fls:=fun _=>[]) (fun t d ht=>by cases ht) (g,A,c) ⟨hC,fun i T es l hi=>by cases hi⟩ rfl trivial trivial rfl (Nat.le_refl _) (fun i T es l hi=>by cases hi) rfl
theorem fin_own {nb:Nat} {cl:List Bool} {s:SS} {d:DV} {o:Out} (hd:EqD d o.d) (hb:preK s.bl o.bl) (hnb:nb≤o.bl.length) (hsc:scB o.bl.length o.bl) (hsd:scD o.bl.length o.d=true) (hcl:ClB cl o.bl):Fin cl nb s d o:=fun ρ0 w0 ρ w v hD0 _ hv0=>by
 have hD:=hD0.nofam
 have hv:=hd.hd (hv0.kp Kp.nofam)
 obtain⟨r,hr⟩:=preK_ok hb
 rw[hr] at hD hv
 exact⟨_,hD.drop hsc hnb,hv.less hsd (by simp),hcl,rfl⟩
theorem clB0 {bl:BL}:ClB [] bl:=fun i T es l _ hc=>by cases hc
theorem CtrF.re {P:Program} {q:FuncId} {cl:List Bool} {al:List DV} {bl:BL} {fl:List Fam} {σ τ:Type} {R:σ→OutF} {R':τ→OutF} (h:CtrF P q cl al bl fl R) (hp:∀g,(R g).C→∃g',(R' g').C∧(R' g').d=(R g).d∧(R' g').bl=(R g).bl∧(R' g').fl=(R g).fl):CtrF P q cl al bl fl R':=
 ⟨h.ent,h.clb,fun ρ w vals hv hD hF=>(h.run ρ w vals hv hD hF).mono fun e w' ⟨v,he,g,ρ',hC,hDr,hdv,hclr,hFr⟩=>by
  obtain⟨g',h1,h2,h3,h4⟩:=hp g hC
  exact⟨v,he,g',ρ',h1,by rw[h3];exact hDr,by rw[h2,h3];exact hdv,by rw[h3];exact hclr,by rw[h4];exact hFr⟩⟩
theorem vjnD {P:Program} {nb N:Nat} {a b:Code} {K:Kt} {s:SS} (M:Nat→Bool) {σ:Type} (n0:Nat) (chg:σ→List (Nat×DV)) (bls:σ→BL) (C:σ→Prop) {p:Prop} (hn:∀g,(bls g).length=n0) (hnb:nb≤n0) (hsc:∀g,scB n0 (bls g)) (hcg:∀g,(chg g).all (fun e=>scD n0 e.2)=true)
 (h:keepK M s.sl fun base=>base.all (fun e=>scD n0 e.2)=true∧((p→Sd P nb N a ⟨fun s'=>∃g,C g∧MtD M base s.fl s' (chg g) (bls g),K.ext,K.ret⟩ s)∧(¬p→Sd P nb N b ⟨fun s'=>∃g,C g∧MtD M base s.fl s' (chg g) (bls g),K.ext,K.ret⟩ s))∧∀g,C g→K.nrm ⟨chg g++base,[],bls g,s.fl⟩):(p→Sd P nb N a K s)∧(¬p→Sd P nb N b K s):=by
 obtain⟨base,⟨hbs,⟨h1,h2⟩,h3⟩,hk⟩:=keepK_ok h
 have w:∀{c:Code},Sd P nb N c ⟨fun s'=>∃g,C g∧MtD M base s.fl s' (chg g) (bls g),K.ext,K.ret⟩ s→Sd P nb N c K s:=fun {c} h ρ0 w0 ρ f w Q hL hD=>by
  refine h ρ0 w0 ρ f w Q ⟨fun s' ρ' f' w' ⟨g',hc,hm⟩ hD'=>?_,hL.ext,hL.ret⟩ hD
  obtain⟨r,hr'⟩:=preK_ok hm.2.1
  refine hL.nrm _ ρ' f' w' (h3 g' hc) (sub_drop (s:=s') (s':=⟨chg g'++base,[],bls g',s.fl⟩) (r:=r) hr' (tailK_ok hm.1).2 rfl (by rw[hn];exact hsc g') (fun t d ht=>⟨?_,?_⟩) ρ0 w0 nb ρ' f' w' (by rw[hn];exact hnb) hD')
  ·rcases getS_app ht with h1|⟨h1,h2⟩
   ·exact hm.2.2.get h1
   exact⟨d,by rw[(tailK_ok hm.1).1 t (hk t d h2).2];exact h2,.refl d⟩
  rw[hn]
  rcases getS_app ht with h1|⟨_,h2⟩
  ·exact getS_all (hcg g') h1
  exact getS_all hbs h2
 exact⟨fun h=>w (h1 h),fun h=>w (h2 h)⟩
def tr1 (i:Nat) (t:Tr):Tr:=.alt i t .nil
def tr2 (i:Nat) (t:Tr) (j:Nat) (u:Tr):Tr:=.alt i t (.alt j u .nil)
def trS:List Nat→Tr
 |[]=> .nil
 |i::l=> .alt i (trS l) .nil
end Go.Vy
namespace Go.Vy
open Go.Vg Go.RowKit
inductive SelfF (P:Program) (d:Nat) (xs:Array Value):List (TypeId×Nat)→Prop
 |nil:SelfF P d xs []
 |cons {t:TypeId} {o:Nat} {fs:List (TypeId×Nat)} {a:Value} (h1:∀w,(part t xs o).run P w= .ok a w) (h2:∀w,(Op.equalIn d t a a).run P w= .ok true w) (h:SelfF P d xs fs):SelfF P d xs ((t,o)::fs)
theorem SelfF.run {P:Program} {d:Nat} {xs:Array Value} (w:World):∀{fs:List Field},SelfF P d xs (fs.map fun f=>(f.type,f.offset))→(Op.eqFields d xs xs fs).run P w= .ok true w
 |[],_=>by simp[Op.eqFields]
 |f::fs,h=>by
  cases h with
  |cons h1 h2 h3=>
   have ih:=SelfF.run w h3
   unfold Op.eqFields
   split
   ·simp[h1,h2,ih]
   exact ih
theorem self_struct {P:Program} {d:Nat} {t:TypeId} {xs:Array Value} {l:List (TypeId×Nat)} (ht:P.underlying t=some (.struct (P.fieldsOf t))) (hp:P.stoodInHeld t=false) (hl:(P.fieldsOf t).toList.map (fun f=>(f.type,f.offset))=l) (hf:SelfF P d xs l) (w:World):(Op.equalIn (d+1) t (.agg xs) (.agg xs)).run P w= .ok true w:=
 (run_equalIn_agg w d t xs xs ht hp).trans (SelfF.run w (hl▸hf))
theorem self_int {P:Program} {d:Nat} {t:TypeId} {k k':IntKind} {a:Int} (h:P.underlying t=some (.int k')) (w:World):(Op.equalIn (d+1) t (.int k a) (.int k a)).run P w= .ok true w:=by rw[Go.run_equalIn_int w d t k k' a a h];simp
theorem self_str {P:Program} {d:Nat} {t:TypeId} {a:ByteArray} (h:P.underlying t=some .string) (w:World):(Op.equalIn (d+1) t (.string a) (.string a)).run P w= .ok true w:=by rw[Go.run_equalIn_string w d t a a h];simp
theorem part_one {P:Program} {t:TypeId} {xs:Array Value} {o:Nat} {v:Value} (h:P.plainKey t=true) (hx:xs[o]? =some v):∀w,(part t xs o).run P w= .ok v w:=fun w=>run_part_plain w h hx
theorem part_agg {P:Program} {t:TypeId} {xs:Array Value} {o n by':Nat} {z:Value} {F:Array Field} (h:P.underlying t=some (.struct F)) (hi:TyI P t n by' z):∀w,(part t xs o).run P w= .ok (.agg (xs.extract o (o+n))) w:=fun w=>by
 obtain⟨i,hq,_,rfl,_⟩:=hi.ex
 simp[part,isAgg,run_underlying h,run_sizeOf w hq,Program.cellsOf,hq]
theorem ckF0 {vs:List Value} (h:ckF 0 vs=true):False:=by
 unfold ckF at h
 split at h<;>first|(cases h;done)|contradiction
theorem ckF1 {vs:List Value} (h:ckF 1 vs=true):∃a b,vs=[.int .i64 a,.int .i64 b]:=by
 unfold ckF at h
 split at h<;>first|exact⟨_,_,rfl⟩|(cases h;done)|contradiction
theorem ckF2 {vs:List Value} (h:ckF 2 vs=true):∃a b c,vs=[.int .i64 a,.int .i64 b,.int .i64 c]:=by
 unfold ckF at h
 split at h<;>first|exact⟨_,_,_,rfl⟩|(cases h;done)|contradiction
theorem ckF3 {vs:List Value} (h:ckF 3 vs=true):∃s a b c d e f g i,vs=[.string s,.int .i64 a,.int .i64 b,.int .i64 c,.int .i64 d,.int .i64 e,.int .i64 f,.int .i64 g,.int .i64 i]:=by
 unfold ckF at h
 split at h<;>first|exact⟨_,_,_,_,_,_,_,_,_,rfl⟩|(cases h;done)|contradiction
end Go.Vy
namespace Go.Proofs.YtandhgfmfpmemaaGreat
open Go.Vg Go.Vy
def tab:List (Nat×TI):=[
 (1,{size:=1,by':=8,zero:=[.nilFunc]}),
 (2,{size:=1,by':=8,zero:=[.int .i64 0],ik:=some .i64}),
 (3,{size:=1,by':=8,zero:=[.int .i64 0],ik:=some .i64}),
 (4,{size:=1,by':=1,zero:=[.bool false],bo:=true}),
 (5,{size:=1,by':=1,zero:=[.int .u8 0],ik:=some .u8}),
 (9,{size:=1,by':=16,zero:=[.string ⟨#[]⟩],str:=true}),
 (12,{size:=1,by':=8,zero:=[.int .u64 0],ik:=some .u64}),
 (13,{size:=2,by':=24,zero:=[.string ⟨#[]⟩,.int .u64 0],agg:=true,fs:=[⟨0,9,1,false⟩,⟨1,12,1,false⟩]}),
 (21,{size:=1,by':=4,zero:=[.int .i32 0],ik:=some .i32}),
 (22,{size:=1,by':=24,zero:=[.slice none 0 0],el:=some 3}),
 (23,{size:=1,by':=24,zero:=[.slice none 0 0],el:=some 59}),
 (24,{size:=1,by':=24,zero:=[.slice none 0 0],el:=some 71}),
 (25,{size:=1,by':=24,zero:=[.slice none 0 0],el:=some 42}),
 (26,{size:=1,by':=24,zero:=[.slice none 0 0],el:=some 75}),
 (27,{size:=1,by':=24,zero:=[.slice none 0 0],el:=some 77}),
 (28,{size:=1,by':=24,zero:=[.slice none 0 0],el:=some 47}),
 (29,{size:=8,by':=176,zero:=[.int .i64 0,.slice none 0 0,.slice none 0 0,.slice none 0 0,.slice none 0 0,.slice none 0 0,.slice none 0 0,.slice none 0 0],agg:=true,fs:=[⟨0,3,1,false⟩,⟨1,22,1,false⟩,⟨2,23,1,false⟩,⟨3,24,1,false⟩,⟨4,25,1,false⟩,⟨5,26,1,false⟩,⟨6,27,1,false⟩,⟨7,28,1,false⟩]}),
 (30,{size:=8,by':=176,zero:=[.int .i64 0,.slice none 0 0,.slice none 0 0,.slice none 0 0,.slice none 0 0,.slice none 0 0,.slice none 0 0,.slice none 0 0],agg:=true,fs:=[⟨0,3,1,false⟩,⟨1,22,1,false⟩,⟨2,23,1,false⟩,⟨3,24,1,false⟩,⟨4,25,1,false⟩,⟨5,26,1,false⟩,⟨6,27,1,false⟩,⟨7,28,1,false⟩]}),
 (31,{size:=1,by':=8,zero:=[.nilFunc]}),
 (32,{size:=1,by':=8,zero:=[.nilFunc]}),
 (33,{size:=1,by':=8,zero:=[.nilFunc]}),
 (34,{size:=1,by':=8,zero:=[.int .i64 0],ik:=some .i64}),
 (36,{size:=1,by':=8,zero:=[.nilFunc]}),
 (37,{size:=1,by':=8,zero:=[.nilFunc]}),
 (38,{size:=1,by':=8,zero:=[.nilFunc]}),
 (39,{size:=1,by':=8,zero:=[.nilFunc]}),
 (40,{size:=1,by':=24,zero:=[.slice none 0 0],el:=some 93}),
 (41,{size:=22,by':=216,zero:=[.string ⟨#[]⟩,.int .i64 0,.int .i64 0,.int .i64 0,.slice none 0 0,.int .i64 0,.int .i64 0,.int .i64 0,.int .i64 0,.int .i64 0,.int .i64 0,.int .i64 0,.int .i64 0,.int .i64 0,.int .i64 0,.int .i64 0,.int .i64 0,.int .i64 0,.slice none 0 0,.int .i64 0,.int .i64 0,.int .i64 0],agg:=true,fs:=[⟨0,9,1,false⟩,⟨1,3,1,false⟩,⟨2,3,1,false⟩,⟨3,3,1,false⟩,⟨4,40,1,false⟩,⟨5,3,1,false⟩,⟨6,3,1,false⟩,⟨7,3,1,false⟩,⟨8,3,1,false⟩,⟨9,3,1,false⟩,⟨10,3,1,false⟩,⟨11,3,1,false⟩,⟨12,3,1,false⟩,⟨13,3,1,false⟩,⟨14,3,1,false⟩,⟨15,3,1,false⟩,⟨16,3,1,false⟩,⟨17,3,1,false⟩,⟨18,22,1,false⟩,⟨19,3,1,false⟩,⟨20,3,1,false⟩,⟨21,3,1,false⟩]}),
 (42,{size:=22,by':=216,zero:=[.string ⟨#[]⟩,.int .i64 0,.int .i64 0,.int .i64 0,.slice none 0 0,.int .i64 0,.int .i64 0,.int .i64 0,.int .i64 0,.int .i64 0,.int .i64 0,.int .i64 0,.int .i64 0,.int .i64 0,.int .i64 0,.int .i64 0,.int .i64 0,.int .i64 0,.slice none 0 0,.int .i64 0,.int .i64 0,.int .i64 0],agg:=true,fs:=[⟨0,9,1,false⟩,⟨1,3,1,false⟩,⟨2,3,1,false⟩,⟨3,3,1,false⟩,⟨4,40,1,false⟩,⟨5,3,1,false⟩,⟨6,3,1,false⟩,⟨7,3,1,false⟩,⟨8,3,1,false⟩,⟨9,3,1,false⟩,⟨10,3,1,false⟩,⟨11,3,1,false⟩,⟨12,3,1,false⟩,⟨13,3,1,false⟩,⟨14,3,1,false⟩,⟨15,3,1,false⟩,⟨16,3,1,false⟩,⟨17,3,1,false⟩,⟨18,22,1,false⟩,⟨19,3,1,false⟩,⟨20,3,1,false⟩,⟨21,3,1,false⟩]}),
 (43,{size:=1,by':=8,zero:=[.nilFunc]}),
 (44,{size:=1,by':=8,zero:=[.nilFunc]}),
 (45,{size:=1,by':=24,zero:=[.slice none 0 0],el:=some 82}),
 (46,{size:=4,by':=72,zero:=[.string ⟨#[]⟩,.slice none 0 0,.bool false,.slice none 0 0],agg:=true,fs:=[⟨0,9,1,false⟩,⟨1,22,1,false⟩,⟨2,4,1,false⟩,⟨3,45,1,false⟩]}),
 (47,{size:=4,by':=72,zero:=[.string ⟨#[]⟩,.slice none 0 0,.bool false,.slice none 0 0],agg:=true,fs:=[⟨0,9,1,false⟩,⟨1,22,1,false⟩,⟨2,4,1,false⟩,⟨3,45,1,false⟩]}),
 (48,{size:=1,by':=8,zero:=[.int .u64 0],ik:=some .u64}),
 (49,{size:=3,by':=24,zero:=[.int .i64 0,.int .i64 0,.int .i64 0],agg:=true,fs:=[⟨0,3,1,false⟩,⟨1,3,1,false⟩,⟨2,3,1,false⟩]}),
 (50,{size:=3,by':=24,zero:=[.int .i64 0,.int .i64 0,.int .i64 0],agg:=true,fs:=[⟨0,3,1,false⟩,⟨1,3,1,false⟩,⟨2,3,1,false⟩]}),
 (52,{size:=1,by':=8,zero:=[.nilFunc]}),
 (53,{size:=1,by':=24,zero:=[.slice none 0 0],el:=some 61}),
 (55,{size:=1,by':=8,zero:=[.nilFunc]}),
 (57,{size:=1,by':=8,zero:=[.nilFunc]}),
 (58,{size:=3,by':=48,zero:=[.string ⟨#[]⟩,.slice none 0 0,.int .i64 0],agg:=true,fs:=[⟨0,9,1,false⟩,⟨1,22,1,false⟩,⟨2,3,1,false⟩]}),
 (59,{size:=3,by':=48,zero:=[.string ⟨#[]⟩,.slice none 0 0,.int .i64 0],agg:=true,fs:=[⟨0,9,1,false⟩,⟨1,22,1,false⟩,⟨2,3,1,false⟩]}),
 (60,{size:=2,by':=16,zero:=[.int .i64 0,.int .i64 0],agg:=true,fs:=[⟨0,3,1,false⟩,⟨1,3,1,false⟩]}),
 (61,{size:=2,by':=16,zero:=[.int .i64 0,.int .i64 0],agg:=true,fs:=[⟨0,3,1,false⟩,⟨1,3,1,false⟩]}),
 (62,{size:=1,by':=8,zero:=[.nilFunc]}),
 (63,{size:=1,by':=8,zero:=[.pointer none]}),
 (64,{size:=1,by':=8,zero:=[.nilFunc]}),
 (65,{size:=1,by':=8,zero:=[.nilFunc]}),
 (66,{size:=1,by':=8,zero:=[.nilFunc]}),
 (67,{size:=1,by':=8,zero:=[.nilFunc]}),
 (68,{size:=2,by':=16,zero:=[.int .i64 0,.int .i64 0],agg:=true,fs:=[⟨0,3,1,false⟩,⟨1,3,1,false⟩]}),
 (69,{size:=2,by':=16,zero:=[.int .i64 0,.int .i64 0],agg:=true,fs:=[⟨0,3,1,false⟩,⟨1,3,1,false⟩],ck:=1}),
 (70,{size:=12,by':=120,zero:=[.string ⟨#[]⟩,.int .i64 0,.int .i64 0,.int .i64 0,.int .i64 0,.int .i64 0,.int .i64 0,.int .i64 0,.int .i64 0,.int .i64 0,.int .i64 0,.slice none 0 0],agg:=true,fs:=[⟨0,9,1,false⟩,⟨1,3,1,false⟩,⟨2,3,1,false⟩,⟨3,69,2,true⟩,⟨5,69,2,true⟩,⟨7,69,2,true⟩,⟨9,3,1,false⟩,⟨10,3,1,false⟩,⟨11,22,1,false⟩]}),
 (71,{size:=12,by':=120,zero:=[.string ⟨#[]⟩,.int .i64 0,.int .i64 0,.int .i64 0,.int .i64 0,.int .i64 0,.int .i64 0,.int .i64 0,.int .i64 0,.int .i64 0,.int .i64 0,.slice none 0 0],agg:=true,fs:=[⟨0,9,1,false⟩,⟨1,3,1,false⟩,⟨2,3,1,false⟩,⟨3,69,2,true⟩,⟨5,69,2,true⟩,⟨7,69,2,true⟩,⟨9,3,1,false⟩,⟨10,3,1,false⟩,⟨11,22,1,false⟩]}),
 (72,{size:=1,by':=8,zero:=[.nilFunc]}),
 (73,{size:=1,by':=8,zero:=[.nilFunc]}),
 (74,{size:=9,by':=80,zero:=[.string ⟨#[]⟩,.int .i64 0,.int .i64 0,.int .i64 0,.int .i64 0,.int .i64 0,.int .i64 0,.int .i64 0,.int .i64 0],agg:=true,fs:=[⟨0,9,1,false⟩,⟨1,3,1,false⟩,⟨2,3,1,false⟩,⟨3,3,1,false⟩,⟨4,3,1,false⟩,⟨5,3,1,false⟩,⟨6,3,1,false⟩,⟨7,69,2,true⟩]}),
 (75,{size:=9,by':=80,zero:=[.string ⟨#[]⟩,.int .i64 0,.int .i64 0,.int .i64 0,.int .i64 0,.int .i64 0,.int .i64 0,.int .i64 0,.int .i64 0],agg:=true,fs:=[⟨0,9,1,false⟩,⟨1,3,1,false⟩,⟨2,3,1,false⟩,⟨3,3,1,false⟩,⟨4,3,1,false⟩,⟨5,3,1,false⟩,⟨6,3,1,false⟩,⟨7,69,2,true⟩],ck:=3}),
 (76,{size:=5,by':=96,zero:=[.string ⟨#[]⟩,.int .i64 0,.slice none 0 0,.slice none 0 0,.slice none 0 0],agg:=true,fs:=[⟨0,9,1,false⟩,⟨1,3,1,false⟩,⟨2,22,1,false⟩,⟨3,22,1,false⟩,⟨4,22,1,false⟩]}),
 (77,{size:=5,by':=96,zero:=[.string ⟨#[]⟩,.int .i64 0,.slice none 0 0,.slice none 0 0,.slice none 0 0],agg:=true,fs:=[⟨0,9,1,false⟩,⟨1,3,1,false⟩,⟨2,22,1,false⟩,⟨3,22,1,false⟩,⟨4,22,1,false⟩]}),
 (78,{size:=1,by':=8,zero:=[.nilFunc]}),
 (79,{size:=1,by':=8,zero:=[.pointer none]}),
 (80,{size:=1,by':=8,zero:=[.nilFunc]}),
 (81,{size:=3,by':=24,zero:=[.int .i64 0,.int .i64 0,.int .i64 0],agg:=true,fs:=[⟨0,3,1,false⟩,⟨1,3,1,false⟩,⟨2,3,1,false⟩]}),
 (82,{size:=3,by':=24,zero:=[.int .i64 0,.int .i64 0,.int .i64 0],agg:=true,fs:=[⟨0,3,1,false⟩,⟨1,3,1,false⟩,⟨2,3,1,false⟩],ck:=2}),
 (83,{size:=1,by':=8,zero:=[.pointer none]}),
 (84,{size:=12,by':=208,zero:=[.int .i64 0,.slice none 0 0,.slice none 0 0,.slice none 0 0,.slice none 0 0,.slice none 0 0,.slice none 0 0,.slice none 0 0,.int .i64 0,.int .i64 0,.int .i64 0,.int .i64 0],agg:=true,fs:=[⟨0,30,8,true⟩,⟨8,50,3,true⟩,⟨11,34,1,false⟩]}),
 (85,{size:=12,by':=208,zero:=[.int .i64 0,.slice none 0 0,.slice none 0 0,.slice none 0 0,.slice none 0 0,.slice none 0 0,.slice none 0 0,.slice none 0 0,.int .i64 0,.int .i64 0,.int .i64 0,.int .i64 0],agg:=true,fs:=[⟨0,30,8,true⟩,⟨8,50,3,true⟩,⟨11,34,1,false⟩]}),
 (86,{size:=1,by':=24,zero:=[.slice none 0 0],el:=some 1}),
 (87,{size:=1,by':=8,zero:=[.nilFunc]}),
 (88,{size:=1,by':=8,zero:=[.nilFunc]}),
 (89,{size:=1,by':=8,zero:=[.nilFunc]}),
 (90,{size:=1,by':=8,zero:=[.nilFunc]}),
 (91,{size:=1,by':=8,zero:=[.nilFunc]}),
 (92,{size:=2,by':=16,zero:=[.int .i64 0,.int .i64 0],agg:=true,fs:=[⟨0,3,1,false⟩,⟨1,3,1,false⟩]}),
 (93,{size:=2,by':=16,zero:=[.int .i64 0,.int .i64 0],agg:=true,fs:=[⟨0,3,1,false⟩,⟨1,3,1,false⟩],ck:=1}),
 (94,{size:=1,by':=8,zero:=[.nilFunc]}),
 (95,{size:=1,by':=8,zero:=[.nilFunc]}),
 (96,{size:=1,by':=8,zero:=[.nilFunc]}),
 (97,{size:=1,by':=8,zero:=[.nilFunc]}),
 (98,{size:=1,by':=8,zero:=[.nilFunc]}),
 (99,{size:=1,by':=8,zero:=[.nilFunc]}),
 (100,{size:=1,by':=8,zero:=[.pointer none]}),
 (101,{size:=4,by':=32,zero:=[.int .i64 0,.int .i64 0,.int .i64 0,.int .i64 0],agg:=true,fs:=[⟨0,50,3,true⟩,⟨3,34,1,false⟩]}),
 (102,{size:=4,by':=32,zero:=[.int .i64 0,.int .i64 0,.int .i64 0,.int .i64 0],agg:=true,fs:=[⟨0,50,3,true⟩,⟨3,34,1,false⟩]}),
 (103,{size:=1,by':=8,zero:=[.nilFunc]}),
 (104,{size:=1,by':=8,zero:=[.nilFunc]}),
 (105,{size:=1,by':=8,zero:=[.nilFunc]}),
 (106,{size:=1,by':=8,zero:=[.nilFunc]}),
 (107,{size:=1,by':=8,zero:=[.nilFunc]}),
 (108,{size:=1,by':=8,zero:=[.nilFunc]}),
 (109,{size:=1,by':=24,zero:=[.slice none 0 0],el:=some 157}),
 (111,{size:=1,by':=8,zero:=[.nilFunc]}),
 (112,{size:=1,by':=8,zero:=[.nilFunc]}),
 (113,{size:=1,by':=8,zero:=[.nilFunc]}),
 (114,{size:=1,by':=24,zero:=[.slice none 0 0],el:=some 4}),
 (115,{size:=1,by':=24,zero:=[.slice none 0 0],el:=some 120}),
 (116,{size:=1,by':=24,zero:=[.slice none 0 0],el:=some 160}),
 (117,{size:=2,by':=32,zero:=[.bool false,.slice none 0 0],agg:=true,fs:=[⟨0,4,1,false⟩,⟨1,116,1,false⟩]}),
 (118,{size:=2,by':=32,zero:=[.bool false,.slice none 0 0],agg:=true,fs:=[⟨0,4,1,false⟩,⟨1,116,1,false⟩]}),
 (119,{size:=3,by':=56,zero:=[.bool false,.slice none 0 0,.slice none 0 0],agg:=true,fs:=[⟨0,118,2,true⟩,⟨2,116,1,false⟩]}),
 (120,{size:=3,by':=56,zero:=[.bool false,.slice none 0 0,.slice none 0 0],agg:=true,fs:=[⟨0,118,2,true⟩,⟨2,116,1,false⟩]}),
 (121,{size:=1,by':=8,zero:=[.nilFunc]}),
 (122,{size:=1,by':=8,zero:=[.nilFunc]}),
 (123,{size:=1,by':=8,zero:=[.nilFunc]}),
 (124,{size:=1,by':=8,zero:=[.nilFunc]}),
 (125,{size:=1,by':=8,zero:=[.nilFunc]}),
 (126,{size:=1,by':=8,zero:=[.nilFunc]}),
 (127,{size:=1,by':=8,zero:=[.nilFunc]}),
 (128,{size:=1,by':=8,zero:=[.nilFunc]}),
 (129,{size:=1,by':=8,zero:=[.nilFunc]}),
 (130,{size:=1,by':=8,zero:=[.nilFunc]}),
 (131,{size:=2,by':=32,zero:=[.slice none 0 0,.int .i64 0],agg:=true,fs:=[⟨0,22,1,false⟩,⟨1,3,1,false⟩]}),
 (132,{size:=2,by':=32,zero:=[.slice none 0 0,.int .i64 0],agg:=true,fs:=[⟨0,22,1,false⟩,⟨1,3,1,false⟩]}),
 (133,{size:=1,by':=8,zero:=[.nilFunc]}),
 (134,{size:=1,by':=8,zero:=[.nilFunc]}),
 (135,{size:=1,by':=8,zero:=[.nilFunc]}),
 (136,{size:=1,by':=8,zero:=[.nilFunc]}),
 (137,{size:=1,by':=8,zero:=[.nilFunc]}),
 (138,{size:=1,by':=8,zero:=[.nilFunc]}),
 (139,{size:=1,by':=8,zero:=[.nilFunc]}),
 (140,{size:=1,by':=8,zero:=[.nilFunc]}),
 (141,{size:=1,by':=8,zero:=[.nilFunc]}),
 (142,{size:=1,by':=8,zero:=[.nilFunc]}),
 (143,{size:=1,by':=8,zero:=[.nilFunc]}),
 (144,{size:=1,by':=8,zero:=[.nilFunc]}),
 (145,{size:=1,by':=8,zero:=[.nilFunc]}),
 (146,{size:=1,by':=8,zero:=[.nilFunc]}),
 (147,{size:=1,by':=8,zero:=[.nilFunc]}),
 (148,{size:=1,by':=8,zero:=[.nilFunc]}),
 (149,{size:=1,by':=8,zero:=[.nilFunc]}),
 (150,{size:=1,by':=8,zero:=[.nilFunc]}),
 (151,{size:=1,by':=24,zero:=[.slice none 0 0],el:=some 9}),
 (152,{size:=1,by':=8,zero:=[.nilFunc]}),
 (153,{size:=1,by':=8,zero:=[.nilFunc]}),
 (154,{size:=1,by':=8,zero:=[.nilFunc]}),
 (155,{size:=1,by':=8,zero:=[.nilFunc]}),
 (156,{size:=1,by':=8,zero:=[.nilFunc]}),
 (157,{size:=2,by':=16,zero:=[.int .i64 0,.int .i64 0],agg:=true,ar:=some (2,3,1)}),
 (158,{size:=1,by':=8,zero:=[.nilFunc]}),
 (159,{size:=1,by':=8,zero:=[.nilFunc]}),
 (160,{size:=1,by':=4,zero:=[.int .u32 0],ik:=some .u32}),
 (162,{size:=1,by':=8,zero:=[.nilFunc]}),
 (163,{size:=1,by':=8,zero:=[.nilFunc]}),
 (164,{size:=1,by':=8,zero:=[.nilFunc]}),
 (165,{size:=1,by':=8,zero:=[.nilFunc]}),
 (166,{size:=1,by':=8,zero:=[.nilFunc]}),
 (167,{size:=1,by':=8,zero:=[.nilFunc]}),
 (169,{size:=1,by':=8,zero:=[.nilFunc]}),
 (170,{size:=1,by':=8,zero:=[.nilFunc]}),
 (171,{size:=1,by':=8,zero:=[.nilFunc]}),
 (172,{size:=1,by':=8,zero:=[.nilFunc]}),
 (173,{size:=1,by':=8,zero:=[.nilFunc]}),
 (174,{size:=1,by':=8,zero:=[.nilFunc]}),
 (175,{size:=1,by':=8,zero:=[.nilFunc]}),
 (176,{size:=1,by':=8,zero:=[.nilFunc]}),
 (177,{size:=1,by':=8,zero:=[.nilFunc]}),
 (178,{size:=1,by':=8,zero:=[.nilFunc]}),
 (179,{size:=1,by':=8,zero:=[.nilFunc]}),
 (181,{size:=1,by':=8,zero:=[.nilFunc]}),
 (182,{size:=1,by':=8,zero:=[.nilFunc]}),
 (183,{size:=1,by':=8,zero:=[.nilFunc]}),
 (185,{size:=1,by':=8,zero:=[.nilFunc]}),
 (186,{size:=1,by':=8,zero:=[.nilFunc]}),
 (187,{size:=1,by':=8,zero:=[.int .u64 0],ik:=some .u64}),
 (188,{size:=1,by':=8,zero:=[.nilFunc]}),
 (190,{size:=1,by':=8,zero:=[.nilFunc]}),
 (191,{size:=1,by':=8,zero:=[.nilFunc]}),
 (192,{size:=1,by':=8,zero:=[.nilFunc]}),
 (193,{size:=1,by':=8,zero:=[.nilFunc]}),
 (195,{size:=1,by':=8,zero:=[.nilFunc]}),
 (196,{size:=1,by':=8,zero:=[.nilFunc]}),
 (197,{size:=1,by':=8,zero:=[.nilFunc]}),
 (203,{size:=1,by':=8,zero:=[.nilFunc]}),
 (207,{size:=1,by':=8,zero:=[.pointer none]})]
theorem tabR:tab.map (fun e=>rowP Tryz.prog e.1)=tab.map (fun e=>rowT e.2):=by kernel_rfl
theorem tabC:tab.all (chk tab)=true:=by kernel_rfl
theorem ck69 (x0:Int) (x1:Int):CkP Tryz.prog 69 [.int .i64 x0,.int .i64 x1]:=⟨by kernel_rfl,fun w=>self_struct (d:=9999) (l:=[(3,0),(3,1)]) kR kR kR (.cons (part_one kR rfl) (self_int (k:=.i64) (k':=.i64) kR) (.cons (part_one kR rfl) (self_int (k:=.i64) (k':=.i64) kR) .nil)) w⟩
theorem ck75 (x0:ByteArray) (x1:Int) (x2:Int) (x3:Int) (x4:Int) (x5:Int) (x6:Int) (x7:Int) (x8:Int):CkP Tryz.prog 75 [.string x0,.int .i64 x1,.int .i64 x2,.int .i64 x3,.int .i64 x4,.int .i64 x5,.int .i64 x6,.int .i64 x7,.int .i64 x8]:=⟨by kernel_rfl,fun w=>self_struct (d:=9999) (l:=[(9,0),(3,1),(3,2),(3,3),(3,4),(3,5),(3,6),(69,7)]) kR kR kR (.cons (part_one kR rfl) (self_str kR) (.cons (part_one kR rfl) (self_int (k:=.i64) (k':=.i64) kR) (.cons (part_one kR rfl) (self_int (k:=.i64) (k':=.i64) kR) (.cons (part_one kR rfl) (self_int (k:=.i64) (k':=.i64) kR) (.cons (part_one kR rfl) (self_int (k:=.i64) (k':=.i64) kR) (.cons (part_one kR rfl) (self_int (k:=.i64) (k':=.i64) kR) (.cons (part_one kR rfl) (self_int (k:=.i64) (k':=.i64) kR) (.cons (part_agg (F:=Tryz.prog.fieldsOf 69) kR (TyI.of (size:=2) (bytes:=16) (z:=.agg #[.int .i64 0,.int .i64 0]) kR)) (fun w=>self_struct (d:=9998) (l:=[(3,0),(3,1)]) kR kR kR (.cons (part_one kR rfl) (self_int (k:=.i64) (k':=.i64) kR) (.cons (part_one kR rfl) (self_int (k:=.i64) (k':=.i64) kR) .nil)) w) .nil)))))))) w⟩
theorem ck82 (x0:Int) (x1:Int) (x2:Int):CkP Tryz.prog 82 [.int .i64 x0,.int .i64 x1,.int .i64 x2]:=⟨by kernel_rfl,fun w=>self_struct (d:=9999) (l:=[(3,0),(3,1),(3,2)]) kR kR kR (.cons (part_one kR rfl) (self_int (k:=.i64) (k':=.i64) kR) (.cons (part_one kR rfl) (self_int (k:=.i64) (k':=.i64) kR) (.cons (part_one kR rfl) (self_int (k:=.i64) (k':=.i64) kR) .nil))) w⟩
theorem ck93 (x0:Int) (x1:Int):CkP Tryz.prog 93 [.int .i64 x0,.int .i64 x1]:=⟨by kernel_rfl,fun w=>self_struct (d:=9999) (l:=[(3,0),(3,1)]) kR kR kR (.cons (part_one kR rfl) (self_int (k:=.i64) (k':=.i64) kR) (.cons (part_one kR rfl) (self_int (k:=.i64) (k':=.i64) kR) .nil)) w⟩
theorem tabE:tab.all (fun e=>Nat.beq e.2.ck 0||((Nat.beq e.1 69&&Nat.beq e.2.ck 1)||(Nat.beq e.1 75&&Nat.beq e.2.ck 3)||(Nat.beq e.1 82&&Nat.beq e.2.ck 2)||(Nat.beq e.1 93&&Nat.beq e.2.ck 1)))=true:=by kernel_rfl
theorem tabQ:∀e∈tab,∀vs,ckF e.2.ck vs=true→CkP Tryz.prog e.1 vs:=fun e he vs h=>by
 have h1:=List.all_eq_true.1 tabE e he
 simp only[Bool.or_eq_true,Bool.and_eq_true] at h1
 rcases h1 with h1|(((⟨h1,h2⟩|⟨h1,h2⟩)|⟨h1,h2⟩)|⟨h1,h2⟩)
 ·rw[Nat.eq_of_beq_eq_true h1] at h;exact(ckF0 h).elim
 ·rw[Nat.eq_of_beq_eq_true h2] at h
  rw[Nat.eq_of_beq_eq_true h1]
  obtain⟨x0,x1,rfl⟩:=ckF1 h
  exact ck69 x0 x1
 ·rw[Nat.eq_of_beq_eq_true h2] at h
  rw[Nat.eq_of_beq_eq_true h1]
  obtain⟨x0,x1,x2,x3,x4,x5,x6,x7,x8,rfl⟩:=ckF3 h
  exact ck75 x0 x1 x2 x3 x4 x5 x6 x7 x8
 ·rw[Nat.eq_of_beq_eq_true h2] at h
  rw[Nat.eq_of_beq_eq_true h1]
  obtain⟨x0,x1,x2,rfl⟩:=ckF2 h
  exact ck82 x0 x1 x2
 rw[Nat.eq_of_beq_eq_true h2] at h
 rw[Nat.eq_of_beq_eq_true h1]
 obtain⟨x0,x1,rfl⟩:=ckF1 h
 exact ck93 x0 x1
theorem gT:Go.Vy.Good Tryz.prog (Go.Vy.look tab):=good_of tabR tabC tabQ
theorem mxd:Tryz.prog.follows .mixedOrders=true:=by kernel_rfl
end Go.Proofs.YtandhgfmfpmemaaGreat
