/- BasisExact, second form: for arguments of bulk at most 1048576 the law returns true and what came in reads as it did. Part 2 of 7: Vye Vyf Vyg Vyh Vyi Vyt Vyj Vyk Vyl. -/
import Derived.Maps.RangeRun
import Derived.Carry
import Derived.Test.YtljcaaakbkneaaaGreatD1
set_option maxHeartbeats 4000000
set_option linter.unusedVariables false
set_option linter.unusedSimpArgs false
namespace Go.Vy
open Go.Vg Go.RowKit
/-! ### literals -/
def aIc (place:Nat->Option (Nat×Nat)):List CV->List (Nat×DV)->(List CV->Prop)->Prop
 |cells,[],k=>k cells
 |cells,(i,d)::rest,k=>match place i with
  |some os=>bif Nat.beq (cellsOf d).length os.2&&((cellsOf d).all aDw&&!isT d) then aZn os.1 cells (cellsOf d) λcs=>aIc place cs rest k else False
  |none=>False
def aQl (gs:Gs) (s:SS):List (Nat×Operand)->(List (Nat×DV)->Prop)->Prop
 |[],k=>k []
 |(i,x)::l,k=>match val gs s x with
  |some (.c (.v (.bool b)))=>aQl gs s l λr=>k ((i,.c (.b (b=true) inferInstance))::r)
  |some d=>aQl gs s l λr=>k ((i,d)::r)
  |none=>False
def plK:List FI->List (Nat×Nat)
 |[]=>[]
 |fi::l=>(fi.off,fi.size)::plK l
def aQm (T:TT) (gs:Gs) (s:SS) (t:Nat) (al:List (Nat×Operand)) (k:DV->Prop):Prop:=match T t with
 |some ti=>(match ti.ar with
  |some (_,_,es)=>aQl gs s al λdl=>aIc (λi=>some (i*es,es)) (ti.zero.map sL) dl λcs=>k (.a cs)
  |none=>bif ti.fs.isEmpty then False else aQl gs s al λdl=>aIc ((plK ti.fs)[·]?) (ti.zero.map sL) dl λcs=>k (.a cs))
 |none=>False
def bQe (T:TT) (s:SS) (t n:Nat) (al:List (Nat×Operand)) (k:SS->DV->Prop):Prop:=match T t with
 |some ti=>(match ti.el with
  |some e=>(match T e with
   |some te=>bif Nat.ble (n*te.size) 16777216&&Nat.ble 1 te.size then aQl [] s al λdl=>aIc (λi=>some (i*te.size,te.size)) (List.replicate n (te.zero.map sL)).flatten dl λcs=>aQi s e te.size cs (λi=> .c (.s i n)) k else False
   |none=>False)
  |none=>False)
 |none=>False
theorem aZt (vs:List Value):∀(off k:Nat) (cells:List Value),off+k+vs.length<=cells.length->
 (vs.zipIdx k).foldl (λ(cs:Array Value) (x:Value×Nat)=>match x with|(c,j)=>cs.setIfInBounds (off+j) c) cells.toArray=(cells.take (off+k)++(vs++cells.drop (off+k+vs.length))).toArray:=by
 induction vs with
 |nil=>intro off k cells _;simp
 |cons v vs ih=>
  intro off k cells h
  simp only[eG] at h
  rw[List.zipIdx_cons,List.foldl_cons]
  simp only[List.setIfInBounds_toArray]
  rw[ih off (k+1) (cells.set (off+k) v) (by simp only[cC];omega)]
  congr 1
  have h1:(cells.set (off+k) v).take (off+(k+1))=cells.take (off+k)++[v]:=by
   rw[show off+(k+1)=(off+k)+1 by omega,dF,pX oM,List.take_set,List.set_eq_of_length_le (by simp only[bI];omega)]
   rfl
  have h2:(cells.set (off+k) v).drop (off+(k+1)+vs.length)=cells.drop (off+k+(vs.length+1)):=by
   rw[List.drop_set_of_lt oM]
   congr 1
   omega
  rw[h1,h2]
  simp
def Hp (D:Pl) (n:Nat) (w:World):List (Nat×DV)->List (Nat×Value)->Prop
 |[],[]=>True
 |p::l,q::m=>(p.1=q.1/\Hd D n w p.2 q.2)/\Hp D n w l m
 |_,_=>False
theorem aBc {place:Nat->Option (Nat×Nat)}:∀{al:List (Nat×DV)} {cells:List CV} {k:List CV->Prop},aIc place cells al k->
 ∃cs,k cs/\cs.length=cells.length/\∀(D:Pl) (n:Nat) (w:World) (vc:List Value) (vl:List (Nat×Value)),Hl D n w cells vc->Hp D n w al vl->(∀x∈vc,x.oneCell'=true)->∃vs,Instr.fill place vc.toArray vl=some vs.toArray/\Hl D n w cs vs/\∀x∈vs,x.oneCell'=true
 |[],cells,k,h=>⟨cells,h,U,λD n w vc vl hc hp h1=>by
    cases vl with
    |nil=>exact⟨vc,U,hc,h1⟩
    |cons q m=>exact hp.elim⟩
 |(i,d)::rest,cells,k,h=>by
  unfold aIc at h
  split at h
  ·next os hos=>
   obtain⟨off,size⟩:=os
   cases hb:(Nat.beq (cellsOf d).length size&&((cellsOf d).all aDw&&!isT d)) with
   |false=>simp only[hb,cond_false] at h
   |true=>
    simp only[hb,cond_true] at h
    simp only[aQ,dP] at hb
    obtain⟨b1,b2,b3⟩:=hb
    have b1':=aM b1
    obtain⟨h1,h2⟩:=aJg h
    obtain⟨cs,h3,h4,h5⟩:=aBc h2
    refine⟨cs,h3,h4.trans ?_,λD n w vc vl hc hp hone=>?_⟩
    ·simp only[mJ,aD,bI,cP];omega
    cases vl with
    |nil=>exact hp.elim
    |cons q m=>
     obtain⟨⟨e1,hd⟩,hp⟩:=hp
     obtain⟨i',x⟩:=q
     simp only at e1 hd
     subst e1
     obtain⟨us,u1,u2,u3⟩:=aBa hd b2 b3
     have hul:us.length=size:=u2.len.symm.trans b1'
     have hvl:vc.length=cells.length:=hc.len.symm
     have hsp:=aJh off hc u2
     obtain⟨vs,hv1,hv2,hv3⟩:=h5 D n w (spl vc off us) m hsp hp (λx hx=>by
      simp only[spl,aO] at hx
      rcases hx with (hx|hx)|hx
      ·exact hone x (cH hx)
      ·exact u3 x hx
      exact hone x (fU hx))
     refine⟨vs,?_,hv2,hv3⟩
     have hz:(us.toArray.zipIdx).foldl (λ(cs:Array Value) (x:Value×Nat)=>match x with|(c,j)=>cs.setIfInBounds (off+j) c) vc.toArray=(vc.take off++(us++vc.drop (off+us.length))).toArray:=by
      rw[<-Array.foldl_toList,Array.toList_zipIdx]
      exact aZt us off 0 vc oM
     simp only[Instr.fill,hos,u1]
     rw[U2 (by simp only[uF,bne_iff_ne,ne_eq,jP,decide_eq_true_eq,not_or,iU];exact⟨hul,Uc⟩)]
     rw[<-hv1,hz]
     simp[spl]
  exact h.elim
theorem aBd {s:SS} {D:Pl} {w:World} {f:Nat->Value} {gs:Gs} (hF:Fr s D w f):∀{al:List (Nat×Operand)} {k:List (Nat×DV)->Prop},aQl gs s al k->∃dl,k dl/\(sat f gs->Hp D s.bl.length w dl (al.map λp=>(p.1,ev f p.2)))
 |[],k,h=>⟨[],h,λ_=>trivial⟩
 |(i,x)::al,k,h=>by
  unfold aQl at h
  split at h
  ·next b hd=>
   obtain⟨dl,h1,h2⟩:=aBd hF h
   exact⟨_,h1,λhs=>⟨⟨U,by
    show Hd D s.bl.length w _ (ev f x)
    rw[(bS hF hs hd).inv_c.inv_v];exact .c (aNl (.bool b))⟩,h2 hs⟩⟩
  ·next d hd=>
   obtain⟨dl,h1,h2⟩:=aBd hF h
   exact⟨_,h1,λhs=>⟨⟨U,bS hF hs hd⟩,h2 hs⟩⟩
  exact h.elim
section ops
variable {P:Program} {T:TT} (hT:Good P T) {w0 w:World} {nb:Nat} {s:SS} {D ρ0:Pl} {f:Nat->Value} {gs:Gs} {dst:Option Tmp} {ty:TypeId} {pos:String} {aft:Array Edge} {gd:Option (Nat×Bool)} {x y z:Operand} {t t':TypeId} {k:SS->DV->Prop} {ke:DV->Prop}
theorem aQn {F:Array Field} {l:List FI} (hl:l.length=F.size) (h:∀(i:Nat) (fi:FI),l[i]? =some fi->∃fl,F[i]? =some fl/\fl.offset=fi.off/\fl.type=fi.ty/\∃by' z,TyI P fi.ty fi.size by' z) (u:World):
 (F.mapM λ(fl:Field)=>(do pure (fl.offset,<-sizeOf fl.type):Sem (Nat×Nat))).run P u= .ok (plK l).toArray u:=by
 obtain⟨F⟩:=F
 simp only[uF] at hl
 rw[List.mapM_toArray]
 have key:∀(F:List Field) (l:List FI),l.length=F.length->(∀(i:Nat) (fi:FI),l[i]? =some fi->∃fl,F[i]? =some fl/\fl.offset=fi.off/\fl.type=fi.ty/\∃by' z,TyI P fi.ty fi.size by' z)->
  (F.mapM λ(fl:Field)=>(do pure (fl.offset,<-sizeOf fl.type):Sem (Nat×Nat))).run P u= .ok (plK l) u:=by
  intro F
  induction F with
  |nil=>intro l hl _;cases l with
   |nil=>simp[plK]
   |cons a l=>cases hl
  |cons fl F ih=>intro l hl h;cases l with
   |nil=>cases hl
   |cons fi l=>
    obtain⟨fl',h1,h2,h3,by',z,h4⟩:=h 0 fi U
    injection h1 with h1
    subst h1
    obtain⟨ii,hi,_,hs,_⟩:=h4.ex
    have:=ih l (by simpa using hl) λi fi hi=>by simpa using h (i+1) fi hi
    rw[List.mapM_cons]
    have e1:(do pure (fl.offset,<-sizeOf fl.type):Sem (Nat×Nat)).run P u= .ok (fi.off,fi.size) u:=by simp[sizeOf,typeInfo,h3,hi,hs,h2]
    rw[Sem.run_bind,e1,Result.andThen_ok,Sem.run_bind,this,Result.andThen_ok]
    rfl
 have:=key F l hl (λi fi hi=>by simpa using h i fi hi)
 simp only[Sem.run_map,this]
 rfl
include hT in
theorem aWv {al:List (Nat×Operand)} (h:aQm T gs s t al ke) (hF:Fr s D w f):Pu P f ⟨dst,.build t al.toArray,ty,pos,aft,gd⟩ w D s.bl.length gs ke:=by
 unfold aQm at h
 split at h
 ·next ti ht=>
  have G:=hT t ti ht
  split at h
  ·next n e es har=>
   obtain⟨hu,by',z0,hte⟩:=G.ar n e es har
   obtain⟨dl,h1,h2⟩:=aBd hF h
   obtain⟨cs,h3,_,h5⟩:=aBc h1
   refine⟨_,h3,λhs=>?_⟩
   obtain⟨zz,hty,hz⟩:=G.ty
   obtain⟨vs,hv1,hv2,_⟩:=h5 D s.bl.length w ti.zero _ (Hl.vs _) (h2 hs) (λx hx=>aX.1 G.z1 x hx)
   refine⟨_,.a hv2,λu _=>?_⟩
   obtain⟨i0,hi0,hzi,hs0,_⟩:=hty.ex
   obtain⟨i1,hi1,_,hs1,_⟩:=hte.ex
   have hzv:(zeroValue t).run P u= .ok zz u:=by simp[zeroValue,typeInfo,hi0,hzi]
   rw[hz.symm] at hv1
   simp only[execOp,Instr.build,Sem.run_bind,hzv,Result.andThen_ok,run_underlying hu,sizeOf,typeInfo,hi1,List.map_toArray]
   simp[hi1,hs1,hv1]
  cases hfe:ti.fs.isEmpty with
  |true=>rw[hfe] at h;exact h.elim
  |false=>
   rw[hfe] at h
   simp only[cond_false] at h
   rcases G.fs with h0|⟨F,hFF,hsz,hh⟩
   ·rw[h0] at hfe;cases hfe
   obtain⟨dl,h1,h2⟩:=aBd hF h
   obtain⟨cs,h3,_,h5⟩:=aBc h1
   refine⟨_,h3,λhs=>?_⟩
   obtain⟨zz,hty,hz⟩:=G.ty
   obtain⟨vs,hv1,hv2,_⟩:=h5 D s.bl.length w ti.zero _ (Hl.vs _) (h2 hs) (λx hx=>aX.1 G.z1 x hx)
   refine⟨_,.a hv2,λu _=>?_⟩
   refine bHh hFF hty U (λu=>aQn hsz (λi fi hi=>?_) u) ?_
   ·obtain⟨fl,a1,a2,a3,_,_,a4⟩:=hh i fi hi
    exact⟨fl,a1,a2,a3,a4⟩
   rw[hz,<-hv1]
   congr 1
   funext i
   simp
 exact h.elim
include hT in
theorem bIg {n:Nat} {al:List (Nat×Operand)} (h:bQe T s t n al k) (hD:Dn ρ0 w0 nb s D f w):Hv true P f ⟨dst,.buildSlice t n al.toArray,ty,pos,aft,gd⟩ ρ0 w0 nb w k:=by
 unfold bQe at h
 split at h
 ·next ti ht=>
  split at h
  ·next e he=>
   split at h
   ·next te hte=>
    cases hb:(Nat.ble (n*te.size) 16777216&&Nat.ble 1 te.size) with
    |false=>rw[hb] at h;exact h.elim
    |true=>
     simp only[hb,cond_true] at h
     simp only[aQ] at hb
     have b1:=bT hb.1
     have b2:=bT hb.2
     have G:=hT e te hte
     obtain⟨zz,hty,hz⟩:=G.ty
     obtain⟨dl,h1,h2⟩:=aBd hD.f h
     obtain⟨cs,h3,h4,h5⟩:=aBc h1
     obtain⟨vs,hv1,hv2,hv3⟩:=h5 D s.bl.length w (List.replicate n te.zero).flatten _ ((Hl.vs te.zero).rep n) (h2 eC) (λx hx=>by
      obtain⟨l,hl1,hl2⟩:=vS.1 hx
      rw[(gO.1 hl1).2] at hl2
      exact aX.1 G.z1 x hl2)
     have hzs:zz.cells.size=te.size:=by rw[hz];simpa using G.zs
     have hlen:vs.length=n*te.size:=by
      rw[<-hv2.len,h4,aFj,aK,G.zs]
     have hmk:((Array.range (n*te.size)).map ((if n*te.size=0 then #[] else zz.cells)[·%(if n*te.size=0 then #[] else zz.cells).size]!))=(List.replicate n te.zero).flatten.toArray:=by
      have hm:=aHs zz.cells n
      rw[hzs,hz] at hm
      by_cases h0:n*te.size=0
      ·have hn:n=0:=by
        rcases cL n with h|h
        ·exact h
        have:=jM h b2;omega
       subst hn
       simp
      simp only[h0,if_false]
      rw[<-hm,hz,fV]
      rfl
     obtain⟨v,w',hr,b,rfl,hm⟩:=bWc (P:=P) (f:=f) (w:=w) (dst:=dst) (ty:=ty) (pos:=pos) (aft:=aft) (g:=gd) (len:=n) ((hT t ti ht).el e he) hty U b1 (by rw[hmk];exact hv1)
     refine aBb (junk:=[]) (cap:=n) h3 hD hr (by rw[dW];exact hm) hv2 hv3 (λ_=>⟨by rw[dW];exact hlen.symm,?_⟩) λρ' hρ=> .c ⟨aS _,by rw[hρ];rfl⟩
     have:n*1<=n*te.size:=dM n b2
     simp only[maxLen]
     omega
   exact h.elim
  exact h.elim
 exact h.elim
end ops
/-! ### what names block i is no longer known -/
def kS (i:Nat):CV->Bool
 |.p j _=>Nat.beq j i
 |.s j _=>Nat.beq j i
 |.t j _ _=>Nat.beq j i
 |.f _ fi ca=>(fi++ca).any λp=>Nat.beq p.1 i
 |_=>false
def bWk (i:Nat):DV->Bool
 |.c c=>kS i c
 |.a l=>l.any (kS i)
 |.t _=>true
def aNq (i:Nat):DV->Bool
 |.c c=>kS i c
 |.a l=>l.any (kS i)
 |.t l=>l.any (bWk i)
def aNr (i:Nat) (c:CV):CV:=bif kS i c then .u else c
def bIh (i:Nat):List CV->(List CV->Prop)->Prop
 |[],k=>k []
 |c::l,k=>bIh i l λr=>k (aNr i c::r)
def aNs (i:Nat):List (Nat×DV)->(List (Nat×DV)->Prop)->Prop
 |[],k=>k []
 |(t,d)::l,k=>bif aNq i d then aNs i l λr=>k ((t,.c .u)::r) else aNs i l λr=>k ((t,d)::r)
def aQo (i:Nat):Nat->List (TypeId×Nat×List CV)->(List (TypeId×Nat×List CV)->Prop)->Prop
 |_,[],k=>k []
 |j,(T,es,l)::r,k=>bif Nat.beq j i then aQo i (j+1) r λr'=>k ((T,es,l)::r') else
  bif Nat.beq es 0 then bIh i l λl'=>aQo i (j+1) r λr'=>k ((T,es,l')::r')
  else (∀c∈l,kS i c=false)/\aQo i (j+1) r λr'=>k ((T,es,l)::r')
def xQ (i:Nat) (s:SS) (k:SS->Prop):Prop:=match s with
 |⟨sl,gl,bl,fl⟩=>bif gl.isEmpty then aNs i sl λsl'=>aQo i 0 bl λbl'=>k ⟨sl',[],bl',fl⟩ else False
structure Kx (i:Nat) (D:Pl) (n:Nat) (w:World) (ρ':Pl) (w':World):Prop where
 pl:∀j,j<n->j≠i->ρ' j=D j
 z:∀b,Zf D n w b->Zf ρ' n w' b/\w'.heap[b]? =w.heap[b]?
 ob:∀j b,j<n->j≠i->(D j).1=some b->w'.heap[b]? =w.heap[b]?
section kx
variable {i n:Nat} {D ρ' ρ0:Pl} {w w' w0:World} {nb:Nat} {f:Nat->Value} {s:SS}
theorem pA {a b:Nat} (h:Nat.beq a b=false):a≠b:=λe=>by subst e;rw[gV] at h;cases h
theorem Hc.kx {c:CV} {x:Value} (h:Hc D n w c x) (k:Kx i D n w ρ' w') (hm:kS i c=false):Hc ρ' n w' c x:=by
 cases c with
 |p j o=>obtain⟨h1,b,h2,h3⟩:=h;exact⟨h1,b,by rw[k.pl j h1 (pA hm)];exact h2,h3⟩
 |s j m=>obtain⟨h1,h2⟩:=h;exact⟨h1,by rw[k.pl j h1 (pA hm)];exact h2⟩
 |q A m c esz get j o=>obtain⟨h1,h2⟩:=h;exact⟨h1.mono k.z,h2⟩
 |t j o m=>obtain⟨h1,h2⟩:=h;exact⟨h1,by rw[k.pl j h1 (pA hm)];exact h2⟩
 |f q fi ca=>
  obtain⟨h1,h2⟩:=h
  have hne:∀p∈fi++ca,p.1≠i:=λp hp he=>by
   have:=pY.1 hm p hp
   rw[he,gV] at this
   exact this U
  refine⟨λp hp=>⟨(h1 p hp).1,by rw[k.pl p.1 (h1 p hp).1 (hne p hp)];exact(h1 p hp).2⟩,h2.trans ?_⟩
  have e:∀p∈fi++ca,ptr D p=ptr ρ' p:=λp hp=>by
   unfold ptr
   rw[k.pl p.1 (h1 p hp).1 (hne p hp)]
  rw[dR λp hp=>e p (cX _ hp),dR λp hp=>e p (dU _ hp)]
 |u=>exact Rc.mono h k.z
 |v x=>exact Rc.mono h k.z
 |h A n c=>exact Rc.mono h k.z
 |hp b o=>exact Rc.mono h k.z
 |b p q=>exact Rc.mono h k.z
 |r A m c esz get=>exact Rc.mono h k.z
theorem Hc.kill {c:CV} {x:Value} (h:Hc D n w c x) (k:Kx i D n w ρ' w'):Hc ρ' n w' (aNr i c) x:=by
 unfold aNr
 cases hm:kS i c with
 |true=>exact Rc.u x
 |false=>exact h.kx k hm
theorem Hl.kx {l:List CV} {vl:List Value} (h:Hl D n w l vl) (k:Kx i D n w ρ' w') (hm:∀c∈l,kS i c=false):Hl ρ' n w' l vl:=by
 induction l generalizing vl with
 |nil=>cases vl with
  |nil=>trivial
  |cons x vl=>exact h
 |cons c l ih=>cases vl with
  |nil=>exact h
  |cons x vl=>exact⟨h.1.kx k (hm c (.head _)),ih h.2 λc hc=>hm c (.tail _ hc)⟩
theorem Hl.kill {l:List CV} {vl:List Value} (h:Hl D n w l vl) (k:Kx i D n w ρ' w'):Hl ρ' n w' (l.map (aNr i)) vl:=by
 induction l generalizing vl with
 |nil=>cases vl with
  |nil=>trivial
  |cons x vl=>exact h
 |cons c l ih=>cases vl with
  |nil=>exact h
  |cons x vl=>exact⟨h.1.kill k,ih h.2⟩
theorem Hd.kx {d:DV} {x:Value} (h:Hd D n w d x) (k:Kx i D n w ρ' w') (hm:aNq i d=false):Hd ρ' n w' d x:=by
 cases h with
 |c h=>exact .c (h.kx k hm)
 |a h=>exact .a (h.kx k λc hc=>by have:=pY.1 (show List.any _ _=false from hm) c hc;simpa using this)
 |t h hh=>
  refine .t h λj d u h1 h2=>?_
  have h3:bWk i d=false:=by
   have:=pY.1 (show List.any _ _=false from hm) d (aR h1)
   simpa using this
  cases hh j d u h1 h2 with
  |c h=>exact .c (h.kx k h3)
  |a h=>exact .a (h.kx k λc hc=>by have:=pY.1 (show List.any _ _=false from h3) c hc;simpa using this)
  |t _ _=>cases h3
theorem aTa:∀{l:List CV} {k:List CV->Prop},bIh i l k->k (l.map (aNr i))
 |[],k,h=>h
 |c::l,k,h=>aTa (l:=l) h
theorem aJj (kx:Kx i D n w ρ' w'):∀{sl:List (Nat×DV)} {k:List (Nat×DV)->Prop},aNs i sl k->∃sl',k sl'/\∀t d',gK sl' t=some d'->∃d,gK sl t=some d/\∀x,Hd D n w d x->Hd ρ' n w' d' x
 |[],k,h=>⟨[],h,λt d' h=>by cases h⟩
 |(t0,d0)::l,k,h=>by
  unfold aNs at h
  cases hm:aNq i d0 with
  |true=>
   rw[hm] at h
   obtain⟨sl',h1,h2⟩:=aJj kx (show aNs i l _ from h)
   refine⟨_,h1,λt d' ht=>?_⟩
   unfold gK at ht ⊢
   cases hb:Nat.beq t0 t with
   |true=>simp only[hb,cond_true] at ht ⊢;injection ht with ht;subst ht;exact⟨d0,U,λx _=> .c (Rc.u x)⟩
   |false=>simp only[hb,cond_false] at ht ⊢;exact h2 t d' ht
  |false=>
   rw[hm] at h
   obtain⟨sl',h1,h2⟩:=aJj kx (show aNs i l _ from h)
   refine⟨_,h1,λt d' ht=>?_⟩
   unfold gK at ht ⊢
   cases hb:Nat.beq t0 t with
   |true=>simp only[hb,cond_true] at ht ⊢;injection ht with ht;subst ht;exact⟨d0,U,λx hx=>hx.kx kx hm⟩
   |false=>simp only[hb,cond_false] at ht ⊢;exact h2 t d' ht
theorem aEc (kx:Kx i D n w ρ' w'):∀{bl:List (TypeId×Nat×List CV)} {j:Nat} {k:List (TypeId×Nat×List CV)->Prop},aQo i j bl k->∃bl',k bl'/\bl'.length=bl.length/\∀(m:Nat) (T:TypeId) (es:Nat) (l':List CV),bl'[m]? =some (T,es,l')->∃l,bl[m]? =some (T,es,l)/\(j+m=i->l'=l)/\(j+m≠i->∀vl,Hl D n w l vl->Hl ρ' n w' l' vl)/\l'.length=l.length
 |[],j,k,h=>⟨[],h,U,λm T es l' h=>by cases h⟩
 |(T0,es0,l0)::r,j,k,h=>by
  have step:∀l0' r',(∀(m:Nat) (T:TypeId) (es:Nat) (l':List CV),r'[m]? =some (T,es,l')->∃l,r[m]? =some (T,es,l)/\(j+1+m=i->l'=l)/\(j+1+m≠i->∀vl,Hl D n w l vl->Hl ρ' n w' l' vl)/\l'.length=l.length)->
   (j=i->l0'=l0)->(j≠i->∀vl,Hl D n w l0 vl->Hl ρ' n w' l0' vl)->l0'.length=l0.length->
   ∀(m:Nat) (T:TypeId) (es:Nat) (l':List CV),((T0,es0,l0')::r')[m]? =some (T,es,l')->∃l,((T0,es0,l0)::r)[m]? =some (T,es,l)/\(j+m=i->l'=l)/\(j+m≠i->∀vl,Hl D n w l vl->Hl ρ' n w' l' vl)/\l'.length=l.length:=by
   intro l0' r' hr h1 h2 h3 m T es l' hm
   cases m with
   |zero=>
    injection hm with hm
    injection hm with e1 e2
    injection e2 with e2 e3
    subst e1 e2 e3
    exact⟨l0,U,by simpa using h1,by simpa using h2,h3⟩
   |succ m=>
    obtain⟨l,a1,a2,a3,a4⟩:=hr m T es l' hm
    exact⟨l,a1,λhe=>a2 oM,λhe=>a3 oM,a4⟩
  unfold aQo at h
  cases hb:Nat.beq j i with
  |true=>
   have e:=aM hb
   rw[hb] at h
   obtain⟨r',h1,h2,h3⟩:=aEc kx (show aQo i (j+1) r _ from h)
   exact⟨_,h1,by simp[h2],step l0 r' h3 (λ_=>U) (λhne=>U4 e hne) U⟩
  |false=>
   have hne:=pA hb
   rw[hb] at h
   simp only[cond_false] at h
   cases hz:Nat.beq es0 0 with
   |true=>
    rw[hz] at h
    obtain⟨r',h1,h2,h3⟩:=aEc kx (aTa (show bIh i l0 _ from h))
    exact⟨_,h1,by simp[h2],step _ r' h3 (λhe=>U4 he hne) (λ_ vl hl=>hl.kill kx) (by simp)⟩
   |false=>
    rw[hz] at h
    obtain⟨h0,h⟩:=h
    obtain⟨r',h1,h2,h3⟩:=aEc kx h
    exact⟨_,h1,by simp[h2],step l0 r' h3 (λ_=>U) (λ_ vl hl=>hl.kx kx h0) U⟩
theorem FamOk.kx (h:FamOk D n w) (k:Kx i D n w ρ' w') (hF:ρ'.F=D.F) (hfb:∀b,InF D b->w'.heap[b]? =w.heap[b]?) (hfi:∀b,(ρ' i).1=some b->¬InF D b):FamOk ρ' n w':=
 h.mono hF k.z hfb λj b hj hb=>by
  by_cases hji:j=i
  ·subst hji;exact hfi b hb
  rw[k.pl j hj hji] at hb;exact h.own j b hj hb
theorem aNt {k:SS->Prop} (h:xQ i s k) (hD:Dn ρ0 w0 nb s D f w) (kx:Kx i D s.bl.length w ρ' w') (hnb:nb<=i) (hi:i<s.bl.length) (hfr:∀b,(ρ' i).1=some b->w0.heap.size<=b) (hinj:∀j b,j<s.bl.length->j≠i->(D j).1=some b->(ρ' i).1≠some b) (hrl:Rl w0 nb ρ0 D w->Rl w0 nb ρ0 D w') (hZ:ρ'.Z=D.Z) {fl':List Fam} (hF:ρ'.F=fl') (hfam:FamOk ρ' s.bl.length w') (hffr:∀b,InF ρ' b->w0.heap.size<=b\/InF ρ0 b):
 ∃sl' bl',k ⟨sl',[],bl',s.fl⟩/\bl'.length=s.bl.length/\(∃T es l,s.bl[i]? =some (T,es,l)/\bl'[i]? =some (T,es,l))/\∀T es l,Bq ρ' s.bl.length w' i T es l->Dn ρ0 w0 nb ⟨sl',[],bl'.set i (T,es,l),fl'⟩ ρ' f w':=by
 obtain⟨sl,gl,bl,fl⟩:=s
 unfold xQ at h
 simp only at h
 cases hg:gl.isEmpty with
 |false=>rw[hg] at h;exact h.elim
 |true=>
  rw[hg] at h
  obtain⟨sl',h1,h2⟩:=aJj kx (show aNs i sl _ from h)
  obtain⟨bl',h3,h4,h5⟩:=aEc kx h1
  refine⟨sl',bl',h3,h4,?_,λT es l hq=>⟨⟨λj T2 e2 l2 hj=>?_,λa b bb ha hb hab hbb=>?_,λj b hj hj2 hb=>?_,?_,?_,λj hj=>(kx.pl j (bM hj (aJ hnb (eT hi))) oM).trans (hD.m.pl j hj),by rw[hZ];exact hD.m.zz,?_,hffr⟩,⟨?_,?_⟩,hF⟩⟩
  ·have hlt:i<bl'.length:=by rw[h4];exact hi
   obtain⟨l,e1,e2,_⟩:=h5 i (bl'[i]).1 (bl'[i]).2.1 (bl'[i]).2.2 (aG hlt)
   refine⟨_,_,l,e1,?_⟩
   rw[aG hlt,<-e2 oM]
  ·have hn:(bl'.set i (T,es,l)).length=bl.length:=by rw[cC,h4]
   show Bq ρ' (bl'.set i (T,es,l)).length w' j T2 e2 l2
   rw[hn]
   rcases lT hj with ⟨rfl,he,_⟩|⟨hne,hj'⟩
   ·injection he with e1 e2
    injection e2 with e2 e3
    subst e1 e2 e3
    exact hq
   obtain⟨l0,a1,_,a3,a4⟩:=h5 j T2 e2 l2 hj'
   have hlt:=eH a1
   have hq0:=hD.m.ok j T2 e2 l0 a1
   unfold Bq at hq0 ⊢
   rw[kx.pl j hlt hne]
   cases hb:(D j).1 with
   |none=>
    simp only[hb] at hq0 ⊢
    refine⟨bQ ?_,hq0.2⟩
    rw[a4,hq0.1]
    rfl
   |some b=>
    simp only[hb] at hq0 ⊢
    obtain⟨vl,junk,q1,q2,q3⟩:=hq0
    exact⟨vl,junk,by rw[kx.ob j b hlt hne hb];exact q1,a3 oM vl q2,q3⟩
  ·simp only[cC,h4] at ha hb
   by_cases hai:a=i<;>by_cases hbi:b=i
   ·omega
   ·subst hai;rw[kx.pl b hb hbi] at hbb;exact U4 hab (hinj b bb hb hbi hbb)
   ·subst hbi;rw[kx.pl a ha hai] at hab;exact U4 hbb (hinj a bb ha hai hab)
   rw[kx.pl a ha hai] at hab;rw[kx.pl b hb hbi] at hbb;exact hD.m.inj a b bb ha hb hab hbb
  ·simp only[cC,h4] at hj2
   by_cases hji:j=i
   ·subst hji;exact hfr b hb
   rw[kx.pl j hj2 hji] at hb;exact hD.m.fr j b hj hj2 hb
  ·simp only[cC,h4];exact hD.m.nbl
  ·have hr:=hrl hD.m.rel
   exact⟨hr.os,hr.tape,hr.output,hr.size,λk hk hn hf=>hr.block k hk (λj hj=>by
    have:=hn j hj
    rw[kx.pl j (bM hj (aJ hnb (eT hi))) oM] at this
    exact this) hf⟩
  ·simp only[cC,h4]
   exact hfam
  ·intro t d' ht
   obtain⟨d,a1,a2⟩:=h2 t d' ht
   show Hd ρ' (bl'.set i (T,es,l)).length w' d' (f t)
   rw[cC,h4]
   exact a2 _ (hD.f.sl t d a1)
  intro t gs d ht
  cases ht
end kx
def flatR (m:Nat) (get:Nat->List CV):List CV:=((List.range m).map get).flatten
theorem gL (m:Nat) (get:Nat->List CV):flatR (m+1) get=flatR m get++get m:=by
 unfold flatR
 rw[gR,bA,lN]
 simp
def aBe (te:TI) (s:SS) (d:DV) (k:Nat->List CV->Prop->Prop):Prop:=match d with
 |.c (.s j m)=>(match s.bl[j]? with
  |some bj=>bif Nat.beq bj.2.1 te.size then k m bj.2.2 (m*te.size=bj.2.2.length) else False
  |none=>False)
 |.c (.r _ m _ e' get)=>bif Nat.beq e' te.size then k m (flatR m get) (∀j,j<m->(get j).length=te.size) else False
 |.c (.v (.slice none 0 0))=>k 0 [] True
 |.c (.t j o m)=>(match s.bl[j]? with
  |some bj=>bif Nat.beq bj.2.1 te.size then k m (bj.2.2.drop o) (o+m*te.size=bj.2.2.length) else False
  |none=>False)
 |_=>False
def bQf (T:TT) (nb:Nat) (s:SS) (t:Nat) (x y:Operand) (k:SS->DV->Prop):Prop:=match T t with
 |some ti=>(match ti.el with
  |some e=>(match T e,val [] s x,val [] s y with
   |some te,some (.c (.s i n)),some dy=>(match s.bl[i]? with
    |some bi=>bif Nat.beq bi.1 e&&(Nat.beq bi.2.1 te.size&&Nat.ble 1 te.size) then bif !Nat.ble nb i then (match dy with
     |.c (.t j o m)=>bif Nat.beq j i then (o+m*te.size=bi.2.2.length/\n*te.size+m*te.size<=bi.2.2.length/\0<bi.2.2.length)/\
      nK s.bl i (bi.1,bi.2.1,bi.2.2.take (n*te.size)++bi.2.2.drop o) λbl'=>k ⟨s.sl,s.gl,bl',s.fl⟩ (.c (.s i (n+m))) else False
     |_=>False) else
     (match dy with
     |.c (.t _ _ _)=>aBe te s dy λm news c=>(c/\n*te.size<=bi.2.2.length/\n+m<=maxLen/\(n+m)*te.by'<=140737488355328/\∀c∈bi.2.2.take (n*te.size)++news,kS i c=false)/\
      xQ i s λs'=>nK s'.bl i (bi.1,bi.2.1,bi.2.2.take (n*te.size)++news) λbl'=>k ⟨s'.sl,s'.gl,bl',s'.fl⟩ (.c (.s i (n+m)))
     |dy=>aBe te s dy λm news c=>(c/\n*te.size=bi.2.2.length/\n+m<=maxLen/\(n+m)*te.by'<=140737488355328/\∀c∈bi.2.2++news,kS i c=false)/\
      xQ i s λs'=>nK s'.bl i (bi.1,bi.2.1,bi.2.2++news) λbl'=>k ⟨s'.sl,s'.gl,bl',s'.fl⟩ (.c (.s i (n+m))))
     else False
    |none=>False)
   |some te,some (.c (.v (.slice none 0 0))),some dy=>bif Nat.ble 1 te.size then aBe te s dy λm news c=>(c/\m<=maxLen/\m*te.by'<=140737488355328)/\aQi s e te.size news (λi=> .c (.s i m)) k else False
   |some te,some (.c (.h A n c)),some dy=>∃f j:Nat,(match s.fl[f]? with
    |some F=>bif Nat.beq F.T e&&(Nat.beq F.es te.size&&(Nat.ble 1 te.size&&Nat.ble F.T 999999)) then
     aBe te s dy λm news cd=>(cd/\j<F.N/\F.A j=A/\F.cap j=c/\n*te.size=(F.get j).length/\n+m<=maxLen/\(n+m)*te.by'<=140737488355328/\∀c∈news,fS c=true)/\
      ∀A' c',nK s.fl f ⟨F.T,F.es,F.N,upd F.A j A',upd F.cap j c',upd F.get j (F.get j++news)⟩ λfl'=>k ⟨s.sl,s.gl,s.bl,fl'⟩ (.c (.h A' (n+m) c'))
     else False
    |none=>False)
   |_,_,_=>False)
  |none=>False)
 |none=>False
section
variable {P:Program} {T:TT} (hT:Good P T) {w0 w:World} {nb:Nat} {s:SS} {D ρ0:Pl} {f:Nat->Value} {dst:Option Tmp} {ty:TypeId} {pos:String} {aft:Array Edge} {gd:Option (Nat×Bool)} {x y z:Operand} {t t' e:TypeId} {k:SS->DV->Prop}
theorem xR {b o:Nat} {l:List Value} (h:∀(j:Nat) (u:Value),l[j]? =some u->w.cell? ⟨b,o+j,none⟩=some u):Go.Vg.Rd (λ_ _=>True) w b o l:=by
 cases l with
 |nil=>exact .inl rfl
 |cons a l=>
  right
  have h0:=h 0 a U
  have h0':=h0
  unfold World.cell? at h0'
  cases hb:w.heap[b]? with
  |none=>simp only[hb] at h0';cases h0'
  |some ob=>
   cases ob with
   |cells cs T fz=>
    refine⟨cs,T,fz,U,U1,λj u hj=>?_⟩
    have:=h j u hj
    unfold World.cell? at this
    simp only[hb] at this
    simpa using this
   |_=>simp only[hb] at h0';cases h0'
theorem aJk {size bytes n m:Nat} {zz v1 v2:Value} {l news:List Value} {U7:Nat->TypeId->Prop} (hu:P.underlying t=some (.slice e)) (ht:TyI P e size bytes zz) (hz:zz.cells.size=size) (hsz:0<size) (hx:ev f x=v1) (hy:ev f y=v2)
 (ho:Ow w 0 e size v1 n l) (hs:Sc U7 w size v2 m news) (h1:∀u∈news,u.oneCell'=true) (h63:n+m<=maxLen) (hby:(n+m)*bytes<=140737488355328):
 ∃v w',(execOp (ev f) ⟨dst,.call ⟨.builtin .append,#[x,y],#[t,t]⟩,ty,pos,aft,gd⟩).run P w= .ok (.value v) w'/\Ow w' 0 e size v (n+m) (l++news)/\w.grownBy w' v1.ownBlock/\(v.ownBlock=v1.ownBlock\/v.ownBlock=some w.heap.size):=by
 obtain⟨i,hi,hzi,hsi,hbi⟩:=ht.ex
 obtain⟨A,c,rfl,hmc,hcm,hl,hA⟩:=hs
 have key:∃v' w',(Builtin.append_ #[t,t] ty #[v1,.slice A m c]).run P w= .ok v' w'/\w'.ownsRow 0 e size v' (n+m) (l++news)/\w.grownBy w' v1.ownBlock/\(v'.ownBlock=v1.ownBlock\/v'.ownBlock=some w.heap.size):=by
  rcases hA with rfl|⟨b,o,rfl,hrd⟩
  ·have hm:m=0:=by
    rcases cL m with h|h
    ·exact h
    exact U4 hl.symm (by have:=jM h hsz;simp;omega)
   subst hm
   cases A with
   |none=>
    refine⟨v1,w,?_,by simpa using ho,⟨U,U,U,aH _,λ_ _ _=>U⟩,.inl rfl⟩
    rcases ho.2 with ⟨rfl,rfl⟩|⟨b,cap,cur,rfl,_,_,hnc,_⟩
    ·simp[Builtin.append_,run_underlying hu,sizeOf,typeInfo,hi,Builtin.lenOf,Builtin.firstCells]
    simp[Builtin.append_,run_underlying hu,sizeOf,typeInfo,hi,Builtin.lenOf,Builtin.firstCells,hnc,storeCells]
   |some ad=>
    obtain⟨v',w',h1,h2,h3,_,h5⟩:=run_append_own_at (P:=P) w 0 t ty e i zz size bytes hu hi hzi hsi hbi hz hsz v1 n l ho ad 0 c [] (by simp) (by simp) (by simp) (by simpa using h63) (by simpa using hby) (aB _)
    exact⟨v',w',h1,h2,h3,h5⟩
  obtain⟨v',w',h1,h2,h3,_,h5⟩:=run_append_own_at (P:=P) w 0 t ty e i zz size bytes hu hi hzi hsi hbi hz hsz v1 n l ho ⟨b,o,none⟩ m c news hl (λj u hj=>by rw[gD];exact hrd.cell hj) h1 h63 hby (aB _)
  exact⟨v',w',h1,h2,h3,h5⟩
 obtain⟨v',w',h2,h3,h4,h5⟩:=key
 exact⟨v',w',by simp[execOp,resolve,invoke,builtin,hx,hy,h2],h3,h4,h5⟩
theorem aZu {size bytes n m b cap:Nat} {zz v2:Value} {cs news:List Value} {T0:TypeId} {U7:Nat->TypeId->Prop} (hu:P.underlying t=some (.slice e)) (ht:TyI P e size bytes zz) (hx:ev f x= .slice (some ⟨b,0,none⟩) n cap) (hy:ev f y=v2)
 (hb:w.heap[b]? =some (.cells cs.toArray T0 (0,0))) (hs:Sc U7 w size v2 m news) (h1:∀u∈news,u.oneCell'=true) (hroom:n+m<=cap) (hfit:n*size+news.length<=cs.length):
 ∃w',(execOp (ev f) ⟨dst,.call ⟨.builtin .append,#[x,y],#[t,t]⟩,ty,pos,aft,gd⟩).run P w= .ok (.value (.slice (some ⟨b,0,none⟩) (n+m) cap)) w'/\w'.heap[b]? =some (.cells (spl cs (n*size) news).toArray T0 (0,0))/\Exc b w w':=by
 obtain⟨i,hi,hzi,hsi,hbi⟩:=ht.ex
 subst hsi
 obtain⟨A,c,rfl,hmc,hcm,hl,hA⟩:=hs
 have hst:=run_storeCells_at P b (n*i.size) T0 news 0 cs.toArray w hb (by simpa using hfit) h1
 simp only[iS] at hst
 have key:(Builtin.append_ #[t,t] ty #[.slice (some ⟨b,0,none⟩) n cap,.slice A m c]).run P w= .ok (.slice (some ⟨b,0,none⟩) (n+m) cap) (w.setRow b (spl cs (n*i.size) news).toArray):=by
  cases A with
  |none=>
   have hn:news=[]:=by
    rcases hA with h|⟨_,_,h,_⟩
    ·exact h
    cases h
   subst hn
   have hst':(storeCells ⟨b,n*i.size,none⟩ [] 0).run P w= .ok () (w.setRow b (spl cs (n*i.size) []).toArray):=by simpa[spl] using hst
   simp[Builtin.append_,run_underlying hu,sizeOf,typeInfo,hi,Builtin.lenOf,Builtin.firstCells,hroom,Addr.add_lit,hst']
  |some ad=>
   have hfc:=run_firstCells_some (P:=P) w i.size m ad m c news hl (λj u hj=>by
    rcases hA with h|⟨b',o',h,hrd⟩
    ·subst h;cases hj
    injection h with h
    subst h
    rw[gD];exact hrd.cell hj)
   have hst':(storeCells ⟨b,n*i.size,none⟩ news 0).run P w= .ok () (w.setRow b (spl cs (n*i.size) news).toArray):=by simpa[spl] using hst
   simp[Builtin.append_,run_underlying hu,sizeOf,typeInfo,hi,Builtin.lenOf,hroom,hfc,Addr.add_lit,hst']
 exact⟨_,by simp[execOp,resolve,invoke,builtin,hx,hy,key],setRow_heap w b cs.toArray _ T0 (0,0) hb,zY _ _ _⟩
theorem aTb {Z:Nat->Prop} {b o esz:Nat} {get:Nat->List CV} {V:Nat->List Value}:∀(m:Nat),(∀j,j<m->∀(i:Nat) (u:Value),(V j)[i]? =some u->w.cell? ⟨b,o+j*esz+i,none⟩=some u/\u.oneCell'=true)->(∀j,j<m->(V j).length=esz)->
 ((List.range m).map V).flatten.length=m*esz/\(∀(i:Nat) (u:Value),((List.range m).map V).flatten[i]? =some u->w.cell? ⟨b,o+i,none⟩=some u/\u.oneCell'=true)
 |0,_,_=>⟨by simp,λi u h=>by simp at h⟩
 |m+1,hc,hl=>by
  obtain⟨h1,h2⟩:=aTb (Z:=Z) (get:=get) m (λj hj=>hc j oM) (λj hj=>hl j oM)
  have e:((List.range (m+1)).map V).flatten=((List.range m).map V).flatten++V m:=by
   rw[gR,bA,lN]
   simp
  rw[e]
  refine⟨by rw[aD,h1,hl m oM,dE,iX],λi u hi=>?_⟩
  by_cases hlt:i<m*esz
  ·rw[aV (by rw[h1];exact hlt)] at hi
   exact h2 i u hi
  rw[bH (by rw[h1];omega),h1] at hi
  have:=hc m oM _ u hi
  rw[show o+m*esz+(i-m*esz)=o+i by omega] at this
  exact this
theorem Hl.flatR {n esz:Nat} {get:Nat->List CV} {V:Nat->List Value}:∀(m:Nat),(∀j,j<m->Hl D n w (get j) (V j))->Hl D n w (Go.Vy.flatR m get) ((List.range m).map V).flatten
 |0,_=>trivial
 |m+1,h=>by
  rw[gL,gR,bA,lN]
  refine(Hl.flatR (esz:=esz) m λj hj=>h j oM).append ?_
  simpa using h m oM
theorem uU {te:TI} {dy:DV} {kk:Nat->List CV->Prop->Prop} {v2:Value} (h:aBe te s dy kk) (hm:DnW ρ0 w0 nb s.bl D w) (hd:Hd D s.bl.length w dy v2) (hsz:0<te.size):∃m news c,kk m news c/\(c->∃vals,Sc (λ_ _=>True) w te.size v2 m vals/\Hl D s.bl.length w news vals/\∀x∈vals,x.oneCell'=true):=by
 unfold aBe at h
 split at h
 ·next j m=>
  split at h
  ·next bj hbj=>
   obtain⟨Tj,ej,lj⟩:=bj
   cases hb:Nat.beq ej te.size with
   |false=>simp only[hb,cond_false] at h
   |true=>
    simp only[hb,cond_true] at h
    have hb':=aM hb
    subst hb'
    refine⟨_,_,_,h,λhc=>?_⟩
    obtain⟨hj,he⟩:=hd.inv_c
    have hq:=hm.ok j Tj _ lj hbj
    cases hρ:(D j).1 with
    |none=>
     unfold Bq at hq
     simp only[hρ] at hq
     obtain⟨h1,h2,h3⟩:=hq
     subst h1
     rw[hρ,h2] at he
     have hm0:m=0:=by
      rcases cL m with h|h
      ·exact h
      have:=jM h hsz;simp at hc;omega
     subst hm0
     exact⟨[],⟨none,0,he,aH _,aB _,by simp,.inl rfl⟩,U1,λx hx=>by cases hx⟩
    |some b=>
     obtain⟨vl,junk,q1,q2,q3,q4⟩:=hq.at hρ
     rw[hρ] at he
     obtain⟨q5,q6⟩:=q3 hsz
     have hl:=q2.len
     have hmc:m<=(D j).2:=by
      rw[aD] at q5
      exact eS (c:=te.size) oM hsz
     exact⟨vl,⟨some ⟨b,0,none⟩,(D j).2,he,hmc,q6,by rw[<-hl];exact hc.symm,.inr ⟨b,0,U,xR λi u hi=>by rw[eP];exact nR q1 hi⟩⟩,q2,q4⟩
  exact h.elim
 ·next A m c e' get=>
  cases hb:Nat.beq e' te.size with
  |false=>simp only[hb,cond_false] at h
  |true=>
   simp only[hb,cond_true] at h
   have hb':=aM hb
   subst hb'
   refine⟨_,_,_,h,λhc=>?_⟩
   obtain⟨h1,h2⟩:=hd.inv_c.inv_r
   cases h2 with
   |nil A c e get hmx=>exact⟨[],⟨A,c,h1,aB _,hmx,by simp,.inl rfl⟩,U1,λx hx=>by cases hx⟩
   |r b o n c e get V hcn hmx hZ hcell hlen hel=>
    have hl2:∀j,j<m->(V j).length=te.size:=λj hj=>(hlen j hj).trans (hc j hj)
    obtain⟨f1,f2⟩:=aTb (Z:=λ_=>True) (get:=get) (o:=o) m hcell hl2
    refine⟨_,⟨_,c,h1,hcn,hmx,f1,.inr ⟨b,o,U,xR λi u hi=>(f2 i u hi).1⟩⟩,Hl.flatR (esz:=te.size) m λj hj=>Hl.of_get (hlen j hj) λi c' u h1 h2=>Hc.of_rc (hel j hj i c' u h1 h2),λx hx=>?_⟩
    obtain⟨i,hi⟩:=cV hx
    exact(f2 i x hi).2
 ·exact⟨_,_,_,h,λ_=>⟨[],⟨none,0,hd.inv_c.inv_v,aH _,aB _,by simp,.inl rfl⟩,U1,λx hx=>by cases hx⟩⟩
 ·next j o m=>
  split at h
  ·next bj hbj=>
   obtain⟨Tj,ej,lj⟩:=bj
   cases hb:Nat.beq ej te.size with
   |false=>simp only[hb,cond_false] at h
   |true=>
    simp only[hb,cond_true] at h
    have hb':=aM hb
    subst hb'
    refine⟨_,_,_,h,λhc=>?_⟩
    replace hc:o+m*te.size=lj.length:=hc
    obtain⟨hj,A,c,hmc,hcm,he,hA⟩:=hd.inv_c
    rcases hA with rfl|⟨b,hρ,rfl⟩
    ·refine⟨[],⟨A,c,he,aB _,hcm,by simp,.inl rfl⟩,?_,λx hx=>by cases hx⟩
     rw[cK (show lj.length<=o by omega)]
     trivial
    obtain⟨vl,junk,q1,q2,q3,q4⟩:=(hm.ok j Tj _ lj hbj).at hρ
    have hl:=q2.len
    exact⟨vl.drop o,⟨some ⟨b,o,none⟩,c,he,hmc,hcm,by rw[cP];omega,.inr ⟨b,o,U,xR λi u hi=>nR q1 (by rw[dN] at hi;exact hi)⟩⟩,q2.drop o,λx hx=>q4 x (fU hx)⟩
  exact h.elim
 exact h.elim
def xJ (v:Value):Option Nat×Nat:=match v with
 |.slice (some a) _ c=>(some a.block,c)
 |_=>(none,0)
theorem bMs {ρ':Pl} {i n size m:Nat} {v:Value} {l:List CV} {vl:List Value} (ho:Ow w 0 e size v m vl) (hρ:ρ' i=xJ v) (hl:Hl ρ' n w l vl) (h1:∀x∈vl,x.oneCell'=true) (hsz:0<size):Bq ρ' n w i e size l/\v= .slice ((ρ' i).1.map λb=>⟨b,0,none⟩) m (ρ' i).2:=by
 obtain⟨hlen,h⟩:=ho
 rcases h with ⟨rfl,rfl⟩|⟨g,cap,cur,rfl,_,hh,hnc,hm,hs,ht⟩
 ·have e0:ρ' i=(none,0):=hρ
  unfold Bq
  rw[e0]
  have:vl=[]:=bQ (by simpa using hlen)
  subst this
  have hl':=hl.len
  exact⟨⟨bQ (by simpa using hl'),U,hsz⟩,U⟩
 have e0:ρ' i=(some g,cap):=hρ
 refine⟨Bq.of_some (b:=g) (by rw[e0]) ⟨vl,cur.toList.drop (m*size),?_,hl,λ_=>?_,h1⟩,by rw[e0];rfl⟩
 ·rw[hh,<-ht,dT,fV]
 rw[e0,<-ht,dT]
 exact⟨by rw[<-hs];simp,hm⟩
theorem aFk (v:Value):(xJ v).1=v.ownBlock:=by
 unfold xJ Value.ownBlock
 split<;>simp_all
include hT in
theorem bIi (h:bQf T nb s t x y k) (hD:Dn ρ0 w0 nb s D f w):Hv false P f ⟨dst,.call ⟨.builtin .append,#[x,y],#[t,t]⟩,ty,pos,aft,gd⟩ ρ0 w0 nb w k:=by
 unfold bQf at h
 split at h
 ·next ti ht=>
  split at h
  ·next e he=>
   have hu:=(hT t ti ht).el e he
   split at h
   ·next te i n dy hte hx hy=>
    have G:=hT e te hte
    obtain⟨zz,hty,hz⟩:=G.ty
    have hzs:zz.cells.size=te.size:=by rw[hz];simpa using G.zs
    split at h
    ·next bi hbi=>
     obtain⟨Ti,ei,li⟩:=bi
     cases hb:(Nat.beq Ti e&&(Nat.beq ei te.size&&Nat.ble 1 te.size)) with
     |false=>simp only[hb,cond_false] at h
     |true=>
      simp only[hb,cond_true] at h
      simp only[aQ] at hb
      obtain⟨b1,b2,b3⟩:=hb
      have b1':=aM b1
      have b2':=aM b2
      have b3':=bT b3
      subst b1' b2'
      cases b4:Nat.ble nb i with
      |false=>
       rw[b4] at h
       simp only[Bool.not_false,cond_true] at h
       split at h
       ·next j o m=>
        cases hji:Nat.beq j i with
        |false=>rw[hji] at h;exact h.elim
        |true=>
        rw[hji] at h
        obtain⟨⟨c1,c2,c3⟩,hk⟩:=h
        have e1:=aM hji
        subst e1
        obtain⟨hi,hex⟩:=(bS hD.f eC hx).inv_c
        have hq:=hD.m.ok j _ _ li hbi
        cases hρ1:(D j).1 with
        |none=>
         unfold Bq at hq
         simp only[hρ1] at hq
         replace c3:0<li.length:=c3
         rw[hq.1] at c3
         exact U4 c3 (gC _)
        |some b=>
         have hsc0:=uU (te:=te) (kk:=λm' news' c'=>m'=m/\news'=li.drop o/\c'=(o+m*te.size=li.length)) (show aBe te s (.c (.t j o m)) _ from by
          unfold aBe
          simp only[hbi,gV,cond_true]
          exact⟨by trivial,by trivial,by first|trivial|rfl⟩) hD.m (bS hD.f eC hy) b3'
         obtain⟨m1,n1,p1,⟨e1,e2,e3⟩,hnews⟩:=hsc0
         rw[e1,e2,e3] at hnews
         obtain⟨vals,hsc,hln,hon⟩:=hnews c1
         obtain⟨vl,junk,q1,q2,q3,q4⟩:=hq.at hρ1
         obtain⟨q5,q6⟩:=q3 b3'
         rw[hρ1] at hex
         have hl:=q2.len
         have hvl:vals.length=m*te.size:=by
          have:=hln.len
          rw[cP] at this
          omega
         replace c2:n*te.size+m*te.size<=li.length:=c2
         obtain⟨w',hr,hn,hex'⟩:=aZu (P:=P) (dst:=dst) (ty:=ty) (pos:=pos) (aft:=aft) (gd:=gd) hu hty hex U q1 hsc hon (by
          rw[aD] at q5
          refine eS (c:=te.size) ?_ b3'
          rw[dE]
          omega) (by rw[aD,hvl];omega)
         have kp:Kp D s.bl.length w D s.bl.length w':=Kp.exc hi hρ1 hex'
         have es:spl (vl++junk) (n*te.size) vals=(vl.take (n*te.size)++vals)++(vl++junk).drop (n*te.size+vals.length):=by
          unfold spl
          rw[fC oM]
         rw[es] at hn
         refine⟨_,_,D,_,w',iL hk,hr,⟨hD.m.exc hbi hρ1 hex' (Bq.of_some hρ1 ⟨vl.take (n*te.size)++vals,(vl++junk).drop (n*te.size+vals.length),hn,((q2.take _).append hln).kp kp,λh0=>⟨q5.trans ?_,q6⟩,λx hx=>?_⟩),hD.f.kp U U (by simp only[cC];exact kp),hD.l⟩,.c ⟨by simp only[cC];exact hi,by rw[hρ1];rfl⟩,λh=>by cases h⟩
         ·simp only[aD,bI,cP]
          omega
         rcases aO.1 hx with hx|hx
         ·exact q4 x (cH hx)
         exact hon x hx
       exact h.elim
      |true=>
      rw[b4] at h
      simp only[jX,cond_false] at h
      have b4':=bT b4
      have fin:∀(l r news:List CV) (m:Nat) (vals:List Value),li=l++r->n*te.size=l.length->Sc (λ_ _=>True) w te.size (ev f y) m vals->Hl D s.bl.length w news vals->(∀x∈vals,x.oneCell'=true)->n+m<=maxLen->(n+m)*te.by'<=140737488355328->(∀c∈l++news,kS i c=false)->
       (xQ i s λs'=>nK s'.bl i (Ti,te.size,l++news) λbl'=>k ⟨s'.sl,s'.gl,bl',s'.fl⟩ (.c (.s i (n+m))))->Hv false P f ⟨dst,.call ⟨.builtin .append,#[x,y],#[t,t]⟩,ty,pos,aft,gd⟩ ρ0 w0 nb w k:=by
       intro l r news m vals hlr c1 hsc hln hon c2 c3 c4 hk
       obtain⟨hi,hex⟩:=(bS hD.f eC hx).inv_c
       have hq:=hD.m.ok i _ _ li hbi
       have how:∃vl,Ow w 0 Ti te.size (ev f x) n vl/\Hl D s.bl.length w l vl/\(∀x∈vl,x.oneCell'=true)/\(ev f x).ownBlock=(D i).1:=by
        cases hρ:(D i).1 with
        |none=>
         unfold Bq at hq
         simp only[hρ] at hq
         obtain⟨q1,q2,q3⟩:=hq
         rw[hlr] at q1
         obtain rfl:l=[]:=(List.append_eq_nil_iff.1 q1).1
         rw[hρ,q2] at hex
         have hn0:n=0:=by
          rcases cL n with h|h
          ·exact h
          have:=jM h b3';simp at c1;omega
         subst hn0
         refine⟨[],?_,U1,λx hx=>U4 hx dI,?_⟩
         ·rw[hex];exact Ow.nil 0 _
         rw[hex];rfl
        |some b=>
         obtain⟨vl,junk,q1,q2,q3,q4⟩:=hq.at hρ
         rw[hρ] at hex
         obtain⟨q5,q6⟩:=q3 b3'
         have hl:=q2.len
         have hll:l.length<=vl.length:=by rw[<-hl,hlr,aD];omega
         have q2':=q2.take l.length
         rw[hlr,List.take_left] at q2'
         refine⟨vl.take l.length,⟨by rw[bI];omega,.inr ⟨b,(D i).2,(vl++junk).toArray,hex,aB _,q1,?_,q6,by simpa using q5.symm,?_⟩⟩,q2',λx hx=>q4 x (cH hx),by rw[hex];rfl⟩
         ·rw[aD] at q5
          exact eS (c:=te.size) oM b3'
         simp only[List.toList_toArray]
         rw[fC oM,c1]
       obtain⟨vl,how,hli,hoi,hblk⟩:=how
       obtain⟨v,w',hr,ho',hg,hown⟩:=aJk (P:=P) (dst:=dst) (ty:=ty) (pos:=pos) (aft:=aft) (gd:=gd) hu hty hzs b3' U U how hsc hon c2 c3
       rw[hblk] at hg hown
       let ρ':Pl:=⟨λj=>if j=i then xJ v else D j,D.Z,D.F⟩
       have hρi:ρ' i=xJ v:=U3 U
       have hρj:∀j,j≠i->ρ' j=D j:=λj hj=>U2 hj
       have hp:∀b,(ρ' i).1=some b->(D i).1=some b\/b=w.heap.size:=λb hb=>by
        rw[hρi,aFk] at hb
        rcases hown with h|h
        ·rw[hb] at h;exact .inl h.symm
        rw[hb] at h;injection h with h;exact .inr h
       have kx:Kx i D s.bl.length w ρ' w':=⟨λj _ hj=>hρj j hj,λb hbz=>⟨⟨bM hbz.lt hg.size,λj hj=>?_,hbz.z,hbz.nf⟩,hg.block b hbz.lt λhe=>hbz.no i hi he.symm⟩,λj b hj hji hb=>hg.block b (hD.m.lt hj hb) λhe=>hji (hD.m.inj j i b hj hi hb he.symm)⟩
       ·obtain⟨sl',bl',k1,k2,⟨T3,e3,l3,k3,k4⟩,k5⟩:=aNt hk hD kx b4' hi (λb hb=>by
         rcases hp b hb with h|h
         ·exact hD.m.fr i b b4' hi h
         ·have:=hD.m.rel.size;omega) (λj b hj hji hb hb'=>by
         rcases hp b hb' with h|h
         ·exact hji (hD.m.inj j i b hj hi hb h)
         ·have:=hD.m.lt hj hb;omega) (λhR=>⟨hg.os.trans hR.os,hg.tape.trans hR.tape,hg.output.trans hR.output,aJ hR.size hg.size,λq hq hn hf=>(hg.block q (bM hq hR.size) λhe=>by
          have:=hD.m.fr i q b4' hi he.symm
          omega).trans (hR.block q hq hn hf)⟩) U hD.l (hD.m.fam.kx kx U (λb hb=>hg.block b (hD.m.fam.lt hb) λhe=>hD.m.fam.own i b hi he.symm hb) λb hb hf=>by
         rcases hp b hb with h|h
         ·exact hD.m.fam.own i b hi h hf
         have:=hD.m.fam.lt hf;omega) hD.m.ffr
        obtain⟨hbq,hv⟩:=bMs (n:=s.bl.length) (l:=l++news) ho' hρi ((hli.append hln).kx kx c4) (λx hx=>by
         rcases aO.1 hx with h|h
         ·exact hoi x h
         exact hon x h) b3'
        refine⟨_,_,ρ',v,w',iL k1,hr,k5 _ _ _ hbq,.c ⟨?_,hv⟩,λh=>by cases h⟩
        simp only[cC,k2]
        exact hi
       by_cases hji:j=i
       ·subst hji
        intro he
        rcases hp b he with h|h
        ·exact hbz.no j hi h
        have:=hbz.lt;omega
       rw[hρj j hji];exact hbz.no j hj
      split at h
      ·obtain⟨m,news,c,⟨⟨hc,c1,c2,c3,c4⟩,hk⟩,hnews⟩:=uU h hD.m (bS hD.f eC hy) b3'
       obtain⟨vals,hsc,hln,hon⟩:=hnews hc
       exact fin _ (li.drop (n*te.size)) news m vals (dT _ _).symm (by rw[bI];exact(eZ c1).symm) hsc hln hon c2 c3 c4 hk
      obtain⟨m,news,c,⟨⟨hc,c1,c2,c3,c4⟩,hk⟩,hnews⟩:=uU h hD.m (bS hD.f eC hy) b3'
      obtain⟨vals,hsc,hln,hon⟩:=hnews hc
      exact fin li [] news m vals (dW _).symm c1 hsc hln hon c2 c3 c4 hk
    exact h.elim
   ·next te dy hte hx hy=>
    have G:=hT e te hte
    obtain⟨zz,hty,hz⟩:=G.ty
    have hzs:zz.cells.size=te.size:=by rw[hz];simpa using G.zs
    cases hb:Nat.ble 1 te.size with
    |false=>simp only[hb,cond_false] at h
    |true=>
     simp only[hb,cond_true] at h
     have b3':=bT hb
     obtain⟨m,news,c,⟨⟨hc,c2,c3⟩,hk⟩,hnews⟩:=uU h hD.m (bS hD.f eC hy) b3'
     obtain⟨vals,hsc,hln,hon⟩:=hnews hc
     have hex:ev f x= .slice none 0 0:=(bS hD.f eC hx).inv_c.inv_v
     obtain⟨v,w',hr,ho',hg,hown⟩:=aJk (P:=P) (dst:=dst) (ty:=ty) (pos:=pos) (aft:=aft) (gd:=gd) (n:=0) (l:=[]) hu hty hzs b3' hex U (Ow.nil 0 _) hsc hon oM (by simpa using c3)
     rw[eP,mX] at ho'
     have he:Ext w w':=⟨hg.os,hg.tape,hg.output,hg.size,λq hq=>hg.block q hq (by simp[Value.ownBlock])⟩
     obtain⟨sl,gl,bl,fl⟩:=s
     have hk':=mP (show rO bl (e,te.size,news) _ from hk)
     rw[zD] at hk'
     have hp:∀b',(xJ v).1=some b'->w.heap.size<=b':=λb' hb'=>by
      rw[aFk] at hb'
      rcases hown with h|h
      ·rw[hb'] at h;simp[Value.ownBlock] at h
      rw[hb'] at h;injection h with h;omega
     have kp:Kp D bl.length w (xI D bl.length (xJ v)) (bl.length+1) w':=Kp.new hp he
     have hn:(bl++[(e,te.size,news)]).length=bl.length+1:=by simp
     obtain⟨hbq,hv⟩:=bMs (ρ':=xI D bl.length (xJ v)) (i:=bl.length) (n:=bl.length+1) (l:=news) ho' kD (hln.kp kp) hon b3'
     refine⟨_,_,xI D bl.length (xJ v),v,w',hk',hr,⟨hD.m.new hp he hbq,hD.f.kp U U (by rw[hn];exact kp),hD.l⟩,.c ⟨?_,hv⟩,λh=>by cases h⟩
     show bl.length<(bl++[(e,te.size,news)]).length
     omega
   ·next te A n cc dy hte hx hy=>
    have G:=hT e te hte
    obtain⟨zz,hty,hz⟩:=G.ty
    have hzs:zz.cells.size=te.size:=by rw[hz];simpa using G.zs
    obtain⟨ff,j,h⟩:=h
    split at h
    ·next F hF=>
     cases hb:(Nat.beq F.T e&&(Nat.beq F.es te.size&&(Nat.ble 1 te.size&&Nat.ble F.T 999999))) with
     |false=>simp only[hb,cond_false] at h
     |true=>
      simp only[hb,cond_true] at h
      simp only[aQ] at hb
      obtain⟨b1,b2,b3,b4⟩:=hb
      have b1':=aM b1
      have b2':=aM b2
      have b3':=bT b3
      subst b1'
      obtain⟨m,news,c,⟨⟨hc,hj,hA,hcp,c1,c2,c3,c4⟩,hk⟩,hnews⟩:=uU h hD.m (bS hD.f eC hy) b3'
      obtain⟨vals,hsc,hln,hon⟩:=hnews hc
      have hex:=(bS hD.f eC hx).inv_c.inv_h
      have hmq:=hD.m.fam.mem hD.l hF hj
      have how:∃vl,Ow w 0 F.T te.size (ev f x) n vl/\vl.length=(F.get j).length/\(∀(i:Nat) (c:CV) (y:Value),(F.get j)[i]? =some c->vl[i]? =some y->Rc (Zf D s.bl.length w) w c y)/\(∀x∈vl,x.oneCell'=true)/\(ev f x).ownBlock=F.A j:=by
       subst hA
       cases hAj:F.A j with
       |none=>
        unfold Mq at hmq
        simp only[hAj] at hmq
        obtain⟨q1,q2⟩:=hmq
        rw[q1] at c1
        have hn0:n=0:=by
         rcases cL n with h|h
         ·exact h
         have:=jM h b3';simp at c1;omega
        subst hn0
        rw[hAj,<-hcp,q2] at hex
        refine⟨[],?_,(by rw[q1];rfl),(λi c y hc hy=>by cases hy),(λx hx=>U4 hx dI),?_⟩
        ·rw[hex];exact Ow.nil 0 _
        rw[hex];rfl
       |some b=>
        obtain⟨vl,junk,q1,q2,q3,q4,q5,q6⟩:=hmq.at hAj b4
        rw[hAj,<-hcp] at hex
        rw[b2'] at q4
        refine⟨vl,⟨by rw[q2];exact c1.symm,.inr ⟨b,F.cap j,(vl++junk).toArray,hex,aB _,q1,?_,q5,by simpa using q4.symm,?_⟩⟩,q2,q3,q6,by rw[hex];rfl⟩
        ·rw[aD] at q4
         exact eS (c:=te.size) oM b3'
        simp only[List.toList_toArray]
        rw[fC oM,cE oM]
      obtain⟨vl,how,hvl,hrc,hoi,hblk⟩:=how
      obtain⟨v,w',hr,ho',hg,hown⟩:=aJk (P:=P) (dst:=dst) (ty:=ty) (pos:=pos) (aft:=aft) (gd:=gd) hu hty hzs b3' U U how hsc hon c2 c3
      rw[hblk] at hg hown
      have hk':=iL (hk (xJ v).1 (xJ v).2)
      obtain⟨k1,k2⟩:=hD.m.fset hD.l hF hj (F':=⟨F.T,F.es,F.N,upd F.A j (xJ v).1,upd F.cap j (xJ v).2,upd F.get j (F.get j++news)⟩) U U U (λi hi=>aY hi) (λi hi=>aY hi) (λi hi=>aY hi) (w':=w') ⟨hg.os,hg.tape,hg.output,hg.size,λb hb hne=>hg.block b hb (λe=>hne e.symm)⟩ (λb hb=>by
       have hb':(xJ v).1=some b:=by rw[<-hb];exact bF.symm
       rw[aFk] at hb'
       rcases hown with h|h
       ·rw[hb'] at h;exact .inl h.symm
       ·rw[hb'] at h;injection h with h;exact .inr oM) (λhzz=>by
       unfold Mq
       simp only[bF]
       obtain⟨hlen2,hcase⟩:=ho'
       rcases hcase with ⟨rfl,h0⟩|⟨g,cap,cur,rfl,_,hh,hnc,hm,hs,ht⟩
       ·have e0:xJ (.slice none 0 0)=(none,0):=rfl
        simp only[e0]
        have hv0:vl++vals=[]:=bQ (by rw[hlen2,h0];simp)
        have hv1:=hln.len
        have h2:=List.append_eq_nil_iff.1 hv0
        have h3:(F.get j)=[]:=bQ (by rw[<-hvl,h2.1];rfl)
        have h4:news=[]:=bQ (by rw[hv1,h2.2];rfl)
        exact⟨by rw[h3,h4];rfl,U1⟩
       have e0:xJ (.slice (some ⟨g,0,none⟩) (n+m) cap)=(some g,cap):=rfl
       simp only[e0,b4,cond_true]
       refine⟨vl++vals,cur.toList.drop ((n+m)*te.size),?_,?_,λi c y hc hy=>?_,?_,hm,λx hx=>?_⟩
       ·rw[hh,<-ht,dT,fV]
       ·rw[aD,aD,hvl,hln.len]
       ·rw[List.getElem?_append] at hc hy
        rw[hvl] at hy
        split at hc
        ·next hlt=>
         rw[U3 hlt] at hy
         exact(hrc i c y hc hy).mono hzz
        next hlt=>
        rw[U2 hlt] at hy
        obtain⟨y',a1,a2⟩:=hln.get hc
        rw[hy] at a1
        injection a1 with a1
        subst a1
        have hcc:=c4 c (aR hc)
        refine Rc.mono ?_ hzz
        cases c with
        |u=>exact a2
        |v y=>exact a2
        |h A n c=>exact a2
        |hp b o=>exact a2
        |b p q=>exact a2
        |r A m c e get=>exact a2
        |p i o=>cases hcc
        |s i m=>cases hcc
        |q A m c e get j o=>cases hcc
        |t i o m=>cases hcc
        |f k fi ca=>cases hcc
       ·rw[<-ht,dT,b2',<-hs]
        simp
       rcases aO.1 hx with h|h
       ·exact hoi x h
       exact hon x h)
      refine⟨_,_,_,v,w',hk',hr,⟨k1,hD.f.kp U U k2,U⟩,.c ?_,λh=>by cases h⟩
      have hv:v= .slice ((xJ v).1.map λb=>⟨b,0,none⟩) (n+m) (xJ v).2:=by
       obtain⟨hlen2,hcase⟩:=ho'
       rcases hcase with ⟨rfl,h0⟩|⟨g,cap,cur,rfl,_⟩
       ·rw[h0];rfl
       rfl
      exact(U5 (Hc _ _ _ _) hv).mpr (Rc.h _ _ _)
    exact h.elim
   exact h.elim
  exact h.elim
 exact h.elim
end
abbrev BL:=List (TypeId×Nat×List CV)
structure Out where
 d:DV
 bl:BL
 C:Prop:=True
def ClB (cl:List Bool) (bl:BL):Prop:=∀(i:Nat) (T:TypeId) (es:Nat) (l:List CV),bl[i]? =some (T,es,l)->cl[i]? =some true->∀c∈l,fS c=true
def HL (D:Pl) (n:Nat) (w:World):List DV->List Value->Prop
 |[],[]=>True
 |d::l,x::m=>Hd D n w d x/\HL D n w l m
 |_,_=>False
structure OutF where
 d:DV
 bl:BL
 fl:List Fam
 C:Prop
abbrev Out.F (o:Out):OutF:=⟨o.d,o.bl,[],o.C⟩
structure CtrF (P:Program) (q:FuncId) (cl:List Bool) (al:List DV) (bl:BL) (fl:List Fam) {σ:Type} (R:σ->OutF):Prop where
 ent:Ent P q
 clb:ClB cl bl
 run:∀(D:Pl) (w:World) (vals:List Value),HL D bl.length w al vals->DnW D w bl.length bl D w->D.F=fl->
  Calls P q vals.toArray w λe w'=>∃v,e= .returned v/\∃g ρ',(R g).C/\DnW D w bl.length (R g).bl ρ' w'/\Hd ρ' (R g).bl.length w' (R g).d v/\ClB cl (R g).bl/\ρ'.F=(R g).fl
abbrev Ctr (P:Program) (q:FuncId) (cl:List Bool) (al:List DV) (bl:BL) {σ:Type} (R:σ->Out):Prop:=CtrF P q cl al bl [] λg=>(R g).F
/-! ### renaming: the called function counts its blocks anew -/
def bad:CV:=.q none 0 0 0 (λ_=>[]) 0 0
def aFl (m:List Nat):List (Nat×Nat)->Option (List (Nat×Nat))
 |[]=>some []
 |(j,o)::l=>match m[j]?,aFl m l with
  |some i,some r=>some ((i,o)::r)
  |_,_=>none
def rE (m:List Nat):CV->CV
 |.p j o=>match m[j]? with
  |some i=> .p i o
  |none=>bad
 |.s j n=>match m[j]? with
  |some i=> .s i n
  |none=>bad
 |.t j o n=>match m[j]? with
  |some i=> .t i o n
  |none=>bad
 |.f k fi ca=>match aFl m fi,aFl m ca with
  |some a,some b=> .f k a b
  |_,_=>bad
 |c=>c
def xK (m:List Nat):DV->DV
 |.c c=> .c (rE m c)
 |.a l=> .a (l.map (rE m))
 |.t l=> .t (renT m l)
where renT (m:List Nat):List DV->List DV
 |[]=>[]
 |d::l=>xK m d::renT m l
def bQg (m:List Nat):DV->DV
 |.c c=> .c (rE m c)
 |.a l=> .a (l.map (rE m))
 |.t _=> .c bad
def aQp (c:Option Bool) (m:List Nat) (l:List CV):List CV:=match c with
 |some true=>l
 |_=>l.map (rE m)
section ren
variable {D ρ':Pl} {n n':Nat} {w:World} {m:List Nat}
structure Rn (m:List Nat) (D:Pl) (n:Nat) (ρ':Pl) (n':Nat) (w:World):Prop where
 lt:∀j i,m[j]? =some i->i<n->j<n'
 pl:∀j i,m[j]? =some i->ρ' j=D i
 z:∀b,Zf D n w b->Zf ρ' n' w b
theorem aJl (h:Rn m D n ρ' n' w):∀{l r:List (Nat×Nat)},aFl m l=some r->(∀p∈r,p.1<n/\(D p.1).1≠none)->(∀p∈l,p.1<n'/\(ρ' p.1).1≠none)/\r.map (ptr D)=l.map (ptr ρ')
 |[],r,hr,_=>by injection hr with hr;subst hr;exact⟨λp hp=>U4 hp dI,U⟩
 |(j,o)::l,r,hr,hl=>by
  unfold aFl at hr
  split at hr
  ·next i r' hi hr'=>
   injection hr with hr
   subst hr
   obtain⟨h1,h2⟩:=aJl h hr' λp hp=>hl p (.tail _ hp)
   refine⟨λp hp=>?_,by rw[eQ,eQ,h2];simp only[ptr,h.pl j i hi]⟩
   rcases bW.1 hp with rfl|hp
   ·exact⟨h.lt j i hi (hl _ (.head _)).1,by rw[h.pl j i hi];exact(hl _ (.head _)).2⟩
   exact h1 p hp
  cases hr
theorem aFm {x:Value} (h:Hc D n w bad x):False:=U4 h.2.1 (aF _)
theorem Hc.ren (h:Rn m D n ρ' n' w) {c:CV} {x:Value} (hc:Hc D n w (rE m c) x):Hc ρ' n' w c x:=by
 cases c with
 |p j o=>
  simp only[rE] at hc
  split at hc
  ·next i hi=>obtain⟨h1,b,h2,h3⟩:=hc;exact⟨h.lt j i hi h1,b,by rw[h.pl j i hi];exact h2,h3⟩
  exact(aFm hc).elim
 |s j k=>
  simp only[rE] at hc
  split at hc
  ·next i hi=>obtain⟨h1,h2⟩:=hc;exact⟨h.lt j i hi h1,by rw[h.pl j i hi];exact h2⟩
  exact(aFm hc).elim
 |t j o k=>
  simp only[rE] at hc
  split at hc
  ·next i hi=>obtain⟨h1,h2⟩:=hc;exact⟨h.lt j i hi h1,by rw[h.pl j i hi];exact h2⟩
  exact(aFm hc).elim
 |f k fi ca=>
  simp only[rE] at hc
  split at hc
  ·next a b ha hb=>
   obtain⟨h1,h2⟩:=hc
   obtain⟨a1,a2⟩:=aJl h ha λp hp=>h1 p (cX _ hp)
   obtain⟨b1,b2⟩:=aJl h hb λp hp=>h1 p (dU _ hp)
   refine⟨λp hp=>?_,by rw[h2,a2,b2]⟩
   rcases aO.1 hp with hp|hp
   ·exact a1 p hp
   exact b1 p hp
  exact(aFm hc).elim
 |q A k c esz get j o=>obtain⟨h1,h2⟩:=hc;exact⟨h1.mono λb hb=>⟨h.z b hb,U⟩,h2⟩
 |u=>exact Rc.mono hc λb hb=>⟨h.z b hb,U⟩
 |v x=>exact Rc.mono hc λb hb=>⟨h.z b hb,U⟩
 |h A n c=>exact Rc.mono hc λb hb=>⟨h.z b hb,U⟩
 |hp b o=>exact Rc.mono hc λb hb=>⟨h.z b hb,U⟩
 |b p q=>exact Rc.mono hc λb hb=>⟨h.z b hb,U⟩
 |r A k c esz get=>exact Rc.mono hc λb hb=>⟨h.z b hb,U⟩
theorem Hl.ren (h:Rn m D n ρ' n' w) {l:List CV} {vl:List Value} (hl:Hl D n w (l.map (rE m)) vl):Hl ρ' n' w l vl:=by
 induction l generalizing vl with
 |nil=>cases vl with
  |nil=>trivial
  |cons x vl=>exact hl
 |cons c l ih=>cases vl with
  |nil=>exact hl
  |cons x vl=>exact⟨hl.1.ren h,ih hl.2⟩
theorem aNu:∀(l:List DV),(xK.renT m l).length=l.length
 |[]=>rfl
 |d::l=>by simp[xK.renT,aNu l]
theorem Hd.ren (h:Rn m D n ρ' n' w) {d:DV} {x:Value} (hd:Hd D n w (bQg m d) x):Hd ρ' n' w d x:=by
 cases d with
 |c cc=>exact .c (hd.inv_c.ren h)
 |a l=>
  obtain⟨vl,rfl,hl⟩:=hd.inv_a
  exact .a (hl.ren h)
 |t l=>exact(aFm hd.inv_c).elim
theorem HL.ren (h:Rn m D n ρ' n' w):∀{l:List DV} {vl:List Value},HL D n w (l.map (bQg m)) vl->HL ρ' n' w l vl
 |[],[],_=>trivial
 |[],_::_,hl=>hl
 |_::_,[],hl=>hl
 |d::l,x::vl,hl=>⟨hl.1.ren h,HL.ren h hl.2⟩
theorem Hc.clo {D ρ':Pl} {n n':Nat} {w:World} {c:CV} {x:Value} (h:Hc D n w c x) (hc:fS c=true) (hz:∀b,Zf D n w b->Zf ρ' n' w b):Hc ρ' n' w c x:=by
 cases c with
 |u=>exact Rc.mono h λb hb=>⟨hz b hb,U⟩
 |v x=>exact Rc.mono h λb hb=>⟨hz b hb,U⟩
 |h A n c=>exact Rc.mono h λb hb=>⟨hz b hb,U⟩
 |hp b o=>exact Rc.mono h λb hb=>⟨hz b hb,U⟩
 |b p q=>exact Rc.mono h λb hb=>⟨hz b hb,U⟩
 |r A k c esz get=>exact Rc.mono h λb hb=>⟨hz b hb,U⟩
 |p i o=>cases hc
 |s i k=>cases hc
 |q A k c esz get j o=>cases hc
 |t i o k=>cases hc
 |f k fi ca=>cases hc
theorem Hl.clo {D ρ':Pl} {n n':Nat} {w:World} {l:List CV} {vl:List Value} (h:Hl D n w l vl) (hc:∀c∈l,fS c=true) (hz:∀b,Zf D n w b->Zf ρ' n' w b):Hl ρ' n' w l vl:=by
 induction l generalizing vl with
 |nil=>cases vl with
  |nil=>trivial
  |cons x vl=>exact h
 |cons c l ih=>cases vl with
  |nil=>exact h
  |cons x vl=>exact⟨h.1.clo (hc c (.head _)) hz,ih h.2 λc h=>hc c (.tail _ h)⟩
end ren
/-! ### the other way: m is one to one -/
section back
variable {D ρ':Pl} {n n':Nat} {w:World} {m:List Nat}
structure Bn (m:List Nat) (D:Pl) (n:Nat) (ρ':Pl) (n':Nat) (w:World):Prop where
 get:∀j,j<n'->∃i,m[j]? =some i/\i<n/\ρ' j=D i
 z:∀b,Zf ρ' n' w b->Zf D n w b
theorem aCj (h:Bn m D n ρ' n' w):∀{l:List (Nat×Nat)},(∀p∈l,p.1<n'/\(ρ' p.1).1≠none)->∃r,aFl m l=some r/\(∀p∈r,p.1<n/\(D p.1).1≠none)/\l.map (ptr ρ')=r.map (ptr D)
 |[],_=>⟨[],U,λp hp=>U4 hp dI,U⟩
 |(j,o)::l,hl=>by
  obtain⟨r,h1,h2,h3⟩:=aCj h λp hp=>hl p (.tail _ hp)
  obtain⟨i,a1,a2,a3⟩:=h.get j (hl _ (.head _)).1
  refine⟨(i,o)::r,by simp only[aFl,a1,h1],λp hp=>?_,by rw[eQ,eQ,h3];simp only[ptr,a3]⟩
  rcases bW.1 hp with rfl|hp
  ·exact⟨a2,by rw[<-a3];exact(hl _ (.head _)).2⟩
  exact h2 p hp
theorem Hc.back (h:Bn m D n ρ' n' w) {c:CV} {x:Value} (hc:Hc ρ' n' w c x):Hc D n w (rE m c) x:=by
 cases c with
 |p j o=>
  obtain⟨h1,b,h2,h3⟩:=hc
  obtain⟨i,a1,a2,a3⟩:=h.get j h1
  simp only[rE,a1]
  exact⟨a2,b,by rw[<-a3];exact h2,h3⟩
 |s j k=>
  obtain⟨h1,h2⟩:=hc
  obtain⟨i,a1,a2,a3⟩:=h.get j h1
  simp only[rE,a1]
  exact⟨a2,by rw[<-a3];exact h2⟩
 |t j o k=>
  obtain⟨h1,h2⟩:=hc
  obtain⟨i,a1,a2,a3⟩:=h.get j h1
  simp only[rE,a1]
  exact⟨a2,by rw[<-a3];exact h2⟩
 |f k fi ca=>
  obtain⟨h1,h2⟩:=hc
  obtain⟨a,a1,a2,a3⟩:=aCj h (l:=fi) λp hp=>h1 p (cX _ hp)
  obtain⟨b,b1,b2,b3⟩:=aCj h (l:=ca) λp hp=>h1 p (dU _ hp)
  simp only[rE,a1,b1]
  refine⟨λp hp=>?_,by rw[h2,a3,b3]⟩
  rcases aO.1 hp with hp|hp
  ·exact a2 p hp
  exact b2 p hp
 |q A k c esz get j o=>obtain⟨h1,h2⟩:=hc;exact⟨h1.mono λb hb=>⟨h.z b hb,U⟩,h2⟩
 |u=>exact Rc.mono hc λb hb=>⟨h.z b hb,U⟩
 |v x=>exact Rc.mono hc λb hb=>⟨h.z b hb,U⟩
 |h A n c=>exact Rc.mono hc λb hb=>⟨h.z b hb,U⟩
 |hp b o=>exact Rc.mono hc λb hb=>⟨h.z b hb,U⟩
 |b p q=>exact Rc.mono hc λb hb=>⟨h.z b hb,U⟩
 |r A k c esz get=>exact Rc.mono hc λb hb=>⟨h.z b hb,U⟩
theorem Hl.back (h:Bn m D n ρ' n' w) {l:List CV} {vl:List Value} (hl:Hl ρ' n' w l vl):Hl D n w (l.map (rE m)) vl:=by
 induction l generalizing vl with
 |nil=>cases vl with
  |nil=>trivial
  |cons x vl=>exact hl
 |cons c l ih=>cases vl with
  |nil=>exact hl
  |cons x vl=>exact⟨hl.1.back h,ih hl.2⟩
theorem aNv:∀(l:List DV) (i:Nat) (d:DV),(xK.renT m l)[i]? =some d->∃d',l[i]? =some d'/\d=xK m d'
 |[],i,d,h=>by cases h
 |a::l,0,d,h=>by simp[xK.renT] at h;exact⟨a,U,h.symm⟩
 |a::l,i+1,d,h=>by
  obtain⟨d',h1,h2⟩:=aNv l i d (by simpa[xK.renT] using h)
  exact⟨d',by simpa using h1,h2⟩
theorem Hd.back (h:Bn m D n ρ' n' w) {d:DV} {x:Value} (hd:Hd ρ' n' w d x):Hd D n w (xK m d) x:=by
 induction hd with
 |c h0=>simp only[xK];exact .c (h0.back h)
 |a h0=>simp only[xK];exact .a (h0.back h)
 |t h0 hh ih=>
  simp only[xK]
  refine .t (by rw[aNu];exact h0) λi d u hi hu=>?_
  obtain⟨d',h1,rfl⟩:=aNv _ i d hi
  exact ih i d' u h1 hu
end back
def wW:List Bool->List Nat->BL->BL
 |_,_,[]=>[]
 |[],m,(T,es,l)::bl=>(T,es,l.map (rE m))::wW [] m bl
 |true::cl,m,(T,es,l)::bl=>(T,es,l)::wW cl m bl
 |false::cl,m,(T,es,l)::bl=>(T,es,l.map (rE m))::wW cl m bl
theorem uV:∀(cl:List Bool) (m:List Nat) (bl:BL) (j:Nat) (T:TypeId) (es:Nat) (l:List CV),bl[j]? =some (T,es,l)->(wW cl m bl)[j]? =some (T,es,aQp (cl[j]?) m l)
 |_,_,[],j,T,es,l,h=>by cases h
 |[],m,(T0,es0,l0)::bl,0,T,es,l,h=>by injection h with h;injection h with h1 h2;injection h2 with h2 h3;subst h1 h2 h3;rfl
 |[],m,(T0,es0,l0)::bl,j+1,T,es,l,h=>by
  have:=uV [] m bl j T es l (by simpa using h)
  simpa[wW] using this
 |c::cl,m,(T0,es0,l0)::bl,0,T,es,l,h=>by
  injection h with h;injection h with h1 h2;injection h2 with h2 h3;subst h1 h2 h3
  cases c<;>rfl
 |c::cl,m,(T0,es0,l0)::bl,j+1,T,es,l,h=>by
  have:=uV cl m bl j T es l (by simpa using h)
  cases c<;>simpa[wW] using this
theorem uW:∀(cl:List Bool) (m:List Nat) (bl:BL),(wW cl m bl).length=bl.length
 |_,_,[]=>by simp[wW]
 |[],m,(T,es,l)::bl=>by simp[wW,uW [] m bl]
 |c::cl,m,(T,es,l)::bl=>by cases c<;>simp[wW,uW cl m bl]
def aQq:List Nat->Bool
 |[]=>true
 |i::l=>(l.all λj=>!Nat.beq i j)&&aQq l
theorem aJm:∀{m:List Nat},aQq m=true->∀(j j' i:Nat),m[j]? =some i->m[j']? =some i->j=j'
 |[],_,j,j',i,h,_=>by cases h
 |a::m,hn,j,j',i,h,h'=>by
  simp only[aQq,aQ] at hn
  have hno:∀k:Nat,m[k]? =some a->False:=λk hk=>by
   have:=aX.1 hn.1 a (aR hk)
   rw[gV] at this
   cases this
  cases j with
  |zero=>cases j' with
   |zero=>rfl
   |succ j'=>injection h with h;subst h;exact(hno j' (by simpa using h')).elim
  |succ j=>cases j' with
   |zero=>injection h' with h';subst h';exact(hno j (by simpa using h)).elim
   |succ j'=>rw[aJm hn.2 j j' i (by simpa using h) (by simpa using h')]
def bQh {I:Type}:List I->List I->(List I->Prop)->Prop
 |bl,[],k=>k bl
 |bl,x::xs,k=>rO bl x λbl'=>bQh bl' xs k
theorem aTc {I:Type}:∀{bl xs:List I} {k:List I->Prop},bQh bl xs k->k (bl++xs)
 |bl,[],k,h=>by rw[dW];exact h
 |bl,x::xs,k,h=>by
  have:=aTc (mP (show rO bl x _ from h))
  rwa [cW] at this
def aZv {I:Type}:List I->List Nat->List I->(List I->Prop)->Prop
 |bl,[],xs,k=>bQh bl xs k
 |bl,i::m,x::xs,k=>nK bl i x λbl'=>aZv bl' m xs k
 |_,_::_,[],_=>False
theorem aJn {I:Type}:∀{m:List Nat} {bl xs:List I} {k:List I->Prop},aZv bl m xs k->aQq m=true->(∀i∈m,i<bl.length)->∃bl',k bl'/\m.length<=xs.length/\bl'.length=bl.length+(xs.length-m.length)/\
 (∀(j i:Nat),m[j]? =some i->bl'[i]? =xs[j]?)/\(∀i,i<bl.length->i∉m->bl'[i]? =bl[i]?)/\∀t,bl'[bl.length+t]? =xs[m.length+t]?
 |[],bl,xs,k,h,_,_=>by
  simp only[aZv] at h
  refine⟨bl++xs,aTc h,aB _,by simp,λj i h=>?_,λi hi _=>aV hi,λt=>?_⟩
  ·cases h
  rw[bH oM]
  simp
 |i0::m,bl,[],k,h,_,_=>h.elim
 |i0::m,bl,x::xs,k,h,hn,hlt=>by
  simp only[aQq,aQ] at hn
  have hno:i0∉m:=λhm=>by
   have:=aX.1 hn.1 i0 hm
   rw[gV] at this
   cases this
  obtain⟨bl',h1,h2,h3,h4,h5,h6⟩:=aJn (iL (show nK bl i0 x _ from h)) hn.2 (λi hi=>by rw[cC];exact hlt i (.tail _ hi))
  rw[cC] at h3 h5 h6
  refine⟨bl',h1,vP h2,by simp only[eG];omega,λj i hj=>?_,λi hi hm=>?_,λt=>?_⟩
  ·cases j with
   |zero=>
    injection hj with hj
    subst hj
    rw[h5 _ (hlt _ (.head _)) hno,pX (hlt _ (.head _))]
    rfl
   |succ j=>rw[h4 j i (by simpa using hj)];rfl
  ·rw[h5 i hi (λh=>hm (.tail _ h)),nW (λe=>hm (by subst e;exact .head _))]
  rw[h6 t]
  simp only[eG]
  rw[show m.length+1+t=(m.length+t)+1 by omega,List.getElem?_cons_succ]
def aJo:Nat->Nat->List Nat
 |_,0=>[]
 |a,n+1=>a::aJo (a+1) n
theorem aFn:∀(a n t:Nat),t<n->(aJo a n)[t]? =some (a+t)
 |a,n+1,0,_=>rfl
 |a,n+1,t+1,h=>by
  have:=aFn (a+1) n t oM
  simp only[aJo,List.getElem?_cons_succ,this]
  congr 1
  omega
def aWw (m:List Nat) (bl xs:BL):List Nat:=m++aJo (cnt bl 0) (xs.length-m.length)
def aDq (m:List Nat):CV->(CV->Prop)->Prop
 |.p j o,k=>(match m[j]? with
  |some i=>k (.p i o)
  |none=>k bad)
 |.s j n,k=>(match m[j]? with
  |some i=>k (.s i n)
  |none=>k bad)
 |.t j o n,k=>(match m[j]? with
  |some i=>k (.t i o n)
  |none=>k bad)
 |.f q fi ca,k=>(match aFl m fi,aFl m ca with
  |some a,some b=>k (.f q a b)
  |_,_=>k bad)
 |.u,k=>k .u
 |.v x,k=>k (.v x)
 |.h A n c,k=>k (.h A n c)
 |.hp b o,k=>k (.hp b o)
 |.b p h,k=>k (.b p h)
 |.r A n c e g,k=>k (.r A n c e g)
 |.q A n c e g j o,k=>k (.q A n c e g j o)
theorem aNw {m:List Nat} {c:CV} {k:CV->Prop} (h:aDq m c k):k (rE m c):=by
 cases c with
 |p j o=>
  simp only[aDq] at h
  simp only[rE]
  cases hj:m[j]? with
  |none=>simp only[hj] at h ⊢;exact h
  |some i=>simp only[hj] at h ⊢;exact h
 |s j n=>
  simp only[aDq] at h
  simp only[rE]
  cases hj:m[j]? with
  |none=>simp only[hj] at h ⊢;exact h
  |some i=>simp only[hj] at h ⊢;exact h
 |t j o n=>
  simp only[aDq] at h
  simp only[rE]
  cases hj:m[j]? with
  |none=>simp only[hj] at h ⊢;exact h
  |some i=>simp only[hj] at h ⊢;exact h
 |f q fi ca=>
  simp only[aDq] at h
  simp only[rE]
  cases hf:aFl m fi with
  |none=>simp only[hf] at h ⊢;exact h
  |some a=>cases hc:aFl m ca with
   |none=>simp only[hf,hc] at h ⊢;exact h
   |some b=>simp only[hf,hc] at h ⊢;exact h
 |_=>exact h
def aZw (m:List Nat):List CV->(List CV->Prop)->Prop
 |[],k=>k []
 |c::l,k=>aDq m c λc'=>aZw m l λr=>k (c'::r)
theorem aNx {m:List Nat}:∀{l:List CV} {k:List CV->Prop},aZw m l k->k (l.map (rE m))
 |[],k,h=>h
 |c::l,k,h=>aNx (l:=l) (aNw (show aDq m c _ from h))
def aTd (m:List Nat):DV->(DV->Prop)->Prop
 |.c c,k=>aDq m c λc'=>k (.c c')
 |.a l,k=>aZw m l λr=>k (.a r)
 |.t l,k=>k (xK m (.t l))
theorem aFo {m:List Nat} {d:DV} {k:DV->Prop} (h:aTd m d k):k (xK m d):=by
 cases d with
 |c c=>simp only[xK];exact aNw (k:=λc'=>k (.c c')) h
 |a l=>simp only[xK];exact aNx (k:=λr=>k (.a r)) h
 |t l=>exact h
def aZx (m:List Nat):List DV->(List DV->Prop)->Prop
 |[],k=>k []
 |d::l,k=>aTd m d λd'=>aZx m l λr=>k (d'::r)
theorem aNy {m:List Nat}:∀{l:List DV} {k:List DV->Prop},aZx m l k->k (xK.renT m l)
 |[],k,h=>h
 |d::l,k,h=>aNy (l:=l) (aFo (show aTd m d _ from h))
def bMt (m:List Nat):DV->(DV->Prop)->Prop
 |.t l,k=>aZx m l λr=>k (.t r)
 |d,k=>aTd m d k
theorem aZy {m:List Nat} {d:DV} {k:DV->Prop} (h:bMt m d k):k (xK m d):=by
 cases d with
 |t l=>simp only[xK];exact aNy (k:=λr=>k (.t r)) h
 |c c=>exact aFo (d:=.c c) h
 |a l=>exact aFo (d:=.a l) h
def bm:List Nat->List Nat
 |[]=>[]
 |i::l=>bif Nat.ble 1000 i then bm l else i::bm l
def fm:List Nat->List Nat
 |[]=>[]
 |i::l=>bif Nat.ble 1000 i then (i-1000)::fm l else fm l
inductive callK (P:Program) (only:Bool) (s:SS) (q:Nat) (al:List DV) (k:SS->DV->Prop):Prop
 |mk (m:List Nat) {cl:List Bool} {al0:List DV} {bl0:BL} {fl0:List Fam} {σ:Type} {R:σ->OutF} (hc:CtrF P q cl al0 bl0 fl0 R) (h1:al=al0.map (bQg (bm m))) (h2:((bm m).map (λi=>s.bl[i]?),(fm m).map (λi=>s.fl[i]?))=((wW cl (bm m) bl0).map some,fl0.map some)) (h3:(aQq (bm m)&&(aQq (fm m)&&(!only||m.isEmpty)))=true)
  (h4:∀g,(R g).C->match s with
   |⟨sl,gl,bl,fl⟩=>aZv bl (bm m) (wW cl (aWw (bm m) bl (R g).bl) (R g).bl) λbl'=>aZv fl (fm m) (R g).fl λfl'=>bMt (aWw (bm m) bl (R g).bl) (R g).d λd'=>k ⟨sl,gl,bl',fl'⟩ d')
section
variable {P:Program} {only:Bool} {w0 w:World} {nb q:Nat} {s:SS} {D ρ0:Pl} {f:Nat->Value} {al:List DV} {k:SS->DV->Prop} {vals:List Value}
theorem bIj (h:callK P only s q al k) (hD:Dn ρ0 w0 nb s D f w) (hv:HL D s.bl.length w al vals):
 Ent P q/\Calls P q vals.toArray w λe w'=>∃v,e= .returned v/\∃s' d ρ',k s' d/\Dn ρ0 w0 nb s' ρ' f w'/\Hd ρ' s'.bl.length w' d v/\(only=true->Ext w w'):=by
 obtain @⟨m0,cl,al0,bl0,fl0,σ,R,hc,rfl,hget2,hmb,hk⟩:=h
 simp only[aQ,jP,dP] at hmb
 obtain⟨hnod,hnodf,honly⟩:=hmb
 obtain⟨sl,gl,bl,fl⟩:=s
 simp only at hget2 hk
 injection hget2 with hget hgetf
 have honly':only=true->bm m0=[]/\fm m0=[]:=λho=>by
  rcases honly with h|h
  ·rw[ho] at h;cases h
  have:m0=[]:=by simpa using h
  subst this
  exact⟨U,U⟩
 generalize bm m0=m at hnod hget hk honly' hv
 generalize fm m0=mf at hnodf hgetf hk honly'
 refine⟨hc.ent,?_⟩
 have hFl:D.F=fl:=hD.l
 have hmfl:mf.length=fl0.length:=by
  have:=U5 List.length hgetf
  simpa using this
 have hmf:∀(j i:Nat),mf[j]? =some i->fl[i]? =fl0[j]?:=λj i hj=>by
  have h1:(mf.map (λi=>fl[i]?))[j]? =some (fl[i]?):=by rw[dQ,hj];rfl
  rw[hgetf,dQ] at h1
  have hlt:j<fl0.length:=by rw[<-hmfl];exact eH hj
  rw[aG hlt] at h1 ⊢
  injection h1 with h1
  exact h1.symm
 have hmfj:∀j,j<fl0.length->∃i,mf[j]? =some i:=λj hj=>⟨_,aG (by rw[hmfl];exact hj)⟩
 have hfin:∀F∈fl0,F∈fl:=λF hF=>by
  obtain⟨j,hj⟩:=cV hF
  obtain⟨i,hi⟩:=hmfj j (eH hj)
  exact aR ((hmf j i hi).trans hj)
 have hinc:∀b,InL fl0 b->InL fl b:=λb ⟨F,hF,h⟩=>⟨F,hfin F hF,h⟩
 have hml:m.length=bl0.length:=by
  have:=U5 List.length hget
  simpa[uW] using this
 have hm:∀(j i:Nat),m[j]? =some i->∃T es l,bl0[j]? =some (T,es,l)/\bl[i]? =some (T,es,aQp (cl[j]?) m l):=λj i hj=>by
  have hlt:j<bl0.length:=by rw[<-hml];exact eH hj
  refine⟨(bl0[j]).1,(bl0[j]).2.1,(bl0[j]).2.2,aG hlt,?_⟩
  have h1:(m.map (λi=>bl[i]?))[j]? =some (bl[i]?):=by rw[dQ,hj];rfl
  rw[hget,dQ,uV cl m bl0 j _ _ _ (aG hlt)] at h1
  injection h1 with h1
  exact h1.symm
 have hmlt:∀(j i:Nat),m[j]? =some i->i<bl.length:=λj i hj=>by obtain⟨_,_,_,_,h⟩:=hm j i hj;exact eH h
 let ρc:Pl:=⟨λj=>match m[j]? with|some i=>D i|none=>(none,0),λb=>Zf D bl.length w b\/(w.heap.size<=b\/InL fl0 b),fl0⟩
 have hρc:∀(j i:Nat),m[j]? =some i->ρc j=D i:=λj i hj=>by
  show(match m[j]? with|some i=>D i|none=>(none,0))=D i
  rw[hj]
 have hmj:∀j,j<bl0.length->∃i,m[j]? =some i:=λj hj=>⟨_,aG (by rw[hml];exact hj)⟩
 have rn:Rn m D bl.length ρc bl0.length w:=⟨λj i hj _=>by rw[<-hml];exact eH hj,hρc,λb hb=>⟨hb.lt,λj hj=>by
  obtain⟨i,hi⟩:=hmj j hj
  rw[hρc j i hi]
  exact hb.no i (hmlt j i hi),.inl hb,λhf=>hb.nf (by unfold InF;rw[hFl];exact hinc b hf)⟩⟩
 have hDc:DnW ρc w bl0.length bl0 ρc w:=by
  refine⟨λj T es l hj=>?_,λj j' b hj hj' hb hb'=>?_,λi b h1 h2=>U4 h1 (Nat.not_le.2 h2),aH _,⟨U,U,U,aH _,λ_ _ _ _=>U⟩,λ_ _=>U,⟨U,λb hb=> .inr hb⟩,⟨λF hF=>?_,λj b hj hb=>?_,λf1 f2 F1 F2 j1 j2 b h1 h2 h3 h4 h5 h6=>?_⟩,λb hb=> .inr hb⟩
  ·obtain⟨i,hi⟩:=hmj j (eH hj)
   obtain⟨T',es',l',h1,h2⟩:=hm j i hi
   rw[hj] at h1
   injection h1 with h1
   injection h1 with e1 e2
   injection e2 with e2 e3
   subst e1 e2 e3
   have hq:=hD.m.ok i T es _ h2
   unfold Bq at hq ⊢
   rw[hρc j i hi]
   cases hb:(D i).1 with
   |none=>
    simp only[hb] at hq ⊢
    refine⟨bQ ?_,hq.2⟩
    have:=U5 List.length hq.1
    unfold aQp at this
    split at this<;>simpa using this
   |some b=>
    simp only[hb] at hq ⊢
    obtain⟨vl,junk,q1,q2,q3⟩:=hq
    refine⟨vl,junk,q1,?_,q3⟩
    unfold aQp at q2
    split at q2
    ·next hcl=>exact q2.clo (hc.clb j T es l hj hcl) rn.z
    exact q2.ren rn
  ·obtain⟨i,hi⟩:=hmj j hj
   obtain⟨i',hi'⟩:=hmj j' hj'
   rw[hρc j i hi] at hb
   rw[hρc j' i' hi'] at hb'
   have:=hD.m.inj i i' b (hmlt j i hi) (hmlt j' i' hi') hb hb'
   subst this
   exact aJm hnod j j' i hi hi'
  ·have hF':F∈D.F:=by rw[hFl];exact hfin F hF
   exact⟨(hD.m.fam.ok F hF').1,λj hj=>((hD.m.fam.ok F hF').2 j hj).mono (λb hb=>⟨rn.z b hb,U⟩) λb _=>U⟩
  ·obtain⟨i,hi⟩:=hmj j hj
   rw[hρc j i hi] at hb
   exact λhf=>hD.m.fam.own i b (hmlt j i hi) hb (by unfold InF;rw[hFl];exact hinc b hf)
  have h1':fl0[f1]? =some F1:=h1
  have h2':fl0[f2]? =some F2:=h2
  obtain⟨i1,hi1⟩:=hmfj f1 (eH h1')
  obtain⟨i2,hi2⟩:=hmfj f2 (eH h2')
  obtain⟨e1,e2⟩:=hD.m.fam.inj i1 i2 F1 F2 j1 j2 b (by rw[hFl];exact(hmf f1 i1 hi1).trans h1') (by rw[hFl];exact(hmf f2 i2 hi2).trans h2') h3 h4 h5 h6
  subst e1
  exact⟨aJm hnodf f1 f2 i1 hi1 hi2,e2⟩
 refine(hc.run ρc w vals (HL.ren rn hv) hDc U).mono λe w' ⟨v,he,g,ρ',hC,hDr,hdv,hclr,hFr⟩=>⟨v,he,?_⟩
 have hK:=hk g hC
 obtain⟨bl',hkk0,l1,l2,l3,l4,l5⟩:=aJn hK hnod (λi hi=>by obtain⟨j,hj⟩:=cV hi;exact hmlt j i hj)
 obtain⟨fl',hkk1,q1,q2,q3,q4,q5⟩:=aJn hkk0 hnodf (λi hi=>by
  obtain⟨j,hj⟩:=cV hi
  have hlt:j<fl0.length:=by rw[<-hmfl];exact eH hj
  exact eH ((hmf j i hj).trans (aG hlt)))
 have hkk:=aZy hkk1
 have hfc:∀(i:Nat) (F:Fam),fl'[i]? =some F->(fl[i]? =some F/\i∉mf/\i<fl.length)\/(∃j,(R g).fl[j]? =some F/\((mf[j]? =some i)\/(mf.length<=j/\i=fl.length+(j-mf.length)))):=λi F hi=>by
  by_cases h1:i<fl.length
  ·by_cases h2:i∈mf
   ·obtain⟨j,hj⟩:=cV h2
    exact .inr ⟨j,by rw[<-q3 j i hj];exact hi,.inl hj⟩
   rw[q4 i h1 h2] at hi
   exact .inl ⟨hi,h2,h1⟩
  obtain⟨t,rfl⟩:∃t,i=fl.length+t:=⟨i-fl.length,Uc⟩
  rw[q5 t] at hi
  exact .inr ⟨mf.length+t,hi,.inr ⟨Uc,Uc⟩⟩
 have hcb:∀b,InL (R g).fl b->w.heap.size<=b\/InL fl0 b:=λb hb=>hDr.ffr b (by unfold InF;rw[hFr];exact hb)
 have hul:∀(i j:Nat) (F:Fam) (b:Nat),fl[i]? =some F->i∉mf->j<F.N->F.A j=some b->¬InL fl0 b:=λi j F b hi hm hj hb ⟨F2,hF2,j2,hj2,hb2⟩=>by
  obtain⟨k2,hk2⟩:=cV hF2
  obtain⟨i2,hi2⟩:=hmfj k2 (eH hk2)
  obtain⟨e1,_⟩:=hD.m.fam.inj i i2 F F2 j j2 b (by rw[hFl];exact hi) (by rw[hFl];exact(hmf k2 i2 hi2).trans hk2) hj hj2 hb hb2
  subst e1
  exact hm (aR hi2)
 have hula:∀(i j:Nat) (F:Fam) (b:Nat),fl[i]? =some F->j<F.N->F.A j=some b->InF D b:=λi j F b hi hj hb=>by unfold InF;rw[hFl];exact⟨F,aR hi,j,hj,hb⟩
 have hin2:∀b,InL fl' b->(∃(i j:Nat) (F:Fam),fl[i]? =some F/\i∉mf/\j<F.N/\F.A j=some b)\/InL (R g).fl b:=λb ⟨F,hF,j,hj,hb⟩=>by
  obtain⟨i,hi⟩:=cV hF
  rcases hfc i F hi with ⟨h1,h2,_⟩|⟨t,h1,_⟩
  ·exact .inl ⟨i,j,F,h1,h2,hj,hb⟩
  exact .inr ⟨F,aR h1,j,hj,hb⟩
 have hin':∀b,InL fl' b->InF D b\/InL (R g).fl b:=λb ⟨F,hF,j,hj,hb⟩=>by
  obtain⟨i,hi⟩:=cV hF
  rcases hfc i F hi with ⟨h1,_,_⟩|⟨t,h1,_⟩
  ·exact .inl (hula i j F b h1 hj hb)
  exact .inr ⟨F,aR h1,j,hj,hb⟩
 rw[uW] at l1 l2
 have hx:(R g).bl.length=bl0.length+((R g).bl.length-m.length):=Uc
 have hpl:∀(j i:Nat),m[j]? =some i->ρ' j=D i:=λj i hj=>(hDr.pl j (by rw[<-hml];exact eH hj)).trans (hρc j i hj)
 have hwl:=hDr.rel.size
 let ρ2:Pl:=⟨λi=>if i<bl.length then D i else ρ' (m.length+(i-bl.length)),D.Z,fl'⟩
 have hρo:∀i,i<bl.length->ρ2 i=D i:=λi hi=>U3 hi
 have hρn:∀t,ρ2 (bl.length+t)=ρ' (m.length+t):=λt=>by
  show(if bl.length+t<bl.length then _ else _)=_
  rw[U2 oM,show bl.length+t-bl.length=t by omega]
 have hfresh:∀t b,m.length+t<(R g).bl.length->(ρ' (m.length+t)).1=some b->w.heap.size<=b:=λt b ht hb=>hDr.fr (m.length+t) b oM ht hb
 have hlen:bl'.length=bl.length+((R g).bl.length-m.length):=l2
 have kp:Kp D bl.length w ρ2 bl'.length w':=⟨Uc,hρo,λb hb=>⟨⟨bM hb.lt hwl,λi hi=>?_,hb.z,λhf=>?_⟩,hDr.rel.block b hb.lt (λj hj=>?_) λhf=>hb.nf (by unfold InF;rw[hFl];exact hinc b hf)⟩⟩
 ·have hz2:∀b,Zf ρ' (R g).bl.length w' b->Zf ρ2 bl'.length w' b:=λb hb=>by
   have hz:=hb.z
   rw[hDr.zz.1] at hz
   refine⟨hb.lt,λi hi he=>?_,?_,λhf=>?_⟩
   ·by_cases h1:i<bl.length
    ·rw[hρo i h1] at he
     rcases hz with hz|hz
     ·exact hz.no i h1 he
     rcases hz with hz|hz
     ·have:=hD.m.lt h1 he;omega
     exact hD.m.fam.own i b h1 he (by unfold InF;rw[hFl];exact hinc b hz)
    obtain⟨t,rfl⟩:∃t,i=bl.length+t:=⟨i-bl.length,Uc⟩
    rw[hρn t] at he
    exact hb.no _ oM he
   ·rcases hz with hz|hz
    ·exact hz.z
    rcases hz with hz|hz
    ·exact hD.m.zz.2 b (.inl (aJ hD.m.rel.size hz))
    exact hD.m.zz.2 b (hD.m.ffr b (by unfold InF;rw[hFl];exact hinc b hz))
   rcases hin2 b hf with ⟨i2,j2,F2,g1,g2,g3,g4⟩|hf
   ·rcases hz with hz|hz|hz
    ·exact hz.nf (hula i2 j2 F2 b g1 g3 g4)
    ·have:=hD.m.fam.lt (hula i2 j2 F2 b g1 g3 g4);omega
    exact hul i2 j2 F2 b g1 g2 g3 g4 hz
   exact hb.nf (by unfold InF;rw[hFr];exact hf)
  have bn:Bn (aWw m bl (R g).bl) ρ2 bl'.length ρ' (R g).bl.length w':=⟨λj hj=>?_,hz2⟩
  ·have hbq:∀(j:Nat) (T:TypeId) (es:Nat) (l:List CV) (i:Nat),(R g).bl[j]? =some (T,es,l)->ρ' j=ρ2 i->Bq ρ2 bl'.length w' i T es (aQp (cl[j]?) (aWw m bl (R g).bl) l):=λj T es l i hj hp=>by
    have hq:=hDr.ok j T es l hj
    unfold Bq at hq ⊢
    rw[<-hp]
    cases hb:(ρ' j).1 with
    |none=>
     simp only[hb] at hq ⊢
     refine⟨?_,hq.2⟩
     rw[hq.1]
     unfold aQp
     split<;>rfl
    |some b=>
     simp only[hb] at hq ⊢
     obtain⟨vl,junk,q1,q2,q3⟩:=hq
     refine⟨vl,junk,q1,?_,q3⟩
     unfold aQp
     split
     ·next hcl=>exact q2.clo (hclr j T es l hj hcl) hz2
     exact q2.back bn
   refine⟨⟨sl,gl,bl',fl'⟩,_,ρ2,hkk,⟨⟨λi T es l hi=>?_,λa b bb ha hb hab hbb=>?_,λi b h1 h2 hb=>?_,?_,?_,λi hi=>?_,hD.m.zz,⟨λF hF=>?_,λi b hi hb hf=>?_,λf1 f2 F1 F2 j1 j2 b h1 h2 h3 h4 h5 h6=>?_⟩,λb hb=>?_⟩,hD.f.kp U U kp,U⟩,hdv.back bn,λho=>?_⟩
   ·by_cases h1:i<bl.length
    ·by_cases h2:i∈m
     ·obtain⟨j,hj⟩:=cV h2
      have:=l3 j i hj
      rw[hi] at this
      have hjl:j<(R g).bl.length:=by have:=eH hj;omega
      have hg:=aG hjl
      rw[uV cl _ (R g).bl j ((R g).bl[j]).1 ((R g).bl[j]).2.1 ((R g).bl[j]).2.2 hg] at this
      injection this with this
      injection this with e1 e2
      injection e2 with e2 e3
      subst e1 e2 e3
      exact hbq j _ _ _ i hg ((hpl j i hj).trans (hρo i h1).symm)
     rw[l4 i h1 h2] at hi
     refine(hD.m.ok i T es l hi).kp kp h1 λb hb=>hDr.rel.block b ((hD.m.ok i T es l hi).lt hb) (λj hj he=>h2 ?_) λhf=>hD.m.fam.own i b h1 hb (by unfold InF;rw[hFl];exact hinc b hf)
     obtain⟨i',hi'⟩:=hmj j hj
     rw[hpl j i' hi'] at he
     rw[hD.m.inj i i' b h1 (hmlt j i' hi') hb he]
     exact aR hi'
    obtain⟨t,rfl⟩:∃t,i=bl.length+t:=⟨i-bl.length,Uc⟩
    rw[l5 t] at hi
    have hjl:m.length+t<(R g).bl.length:=by have:=eH hi;rw[uW] at this;exact this
    have hg:=aG hjl
    rw[uV cl _ (R g).bl (m.length+t) ((R g).bl[m.length+t]).1 ((R g).bl[m.length+t]).2.1 ((R g).bl[m.length+t]).2.2 hg] at hi
    injection hi with hi
    injection hi with e1 e2
    injection e2 with e2 e3
    subst e1 e2 e3
    exact hbq (m.length+t) _ _ _ _ hg (hρn t).symm
   ·have ha':a<bl.length+((R g).bl.length-m.length):=by rw[<-hlen];exact ha
    have hb':b<bl.length+((R g).bl.length-m.length):=by rw[<-hlen];exact hb
    by_cases h1:a<bl.length<;>by_cases h2:b<bl.length
    ·rw[hρo a h1] at hab;rw[hρo b h2] at hbb;exact hD.m.inj a b bb h1 h2 hab hbb
    ·obtain⟨t,rfl⟩:∃t,b=bl.length+t:=⟨b-bl.length,Uc⟩
     rw[hρo a h1] at hab;rw[hρn t] at hbb
     have:=hD.m.lt h1 hab
     have:=hfresh t bb oM hbb
     omega
    ·obtain⟨t,rfl⟩:∃t,a=bl.length+t:=⟨a-bl.length,Uc⟩
     rw[hρo b h2] at hbb;rw[hρn t] at hab
     have:=hD.m.lt h2 hbb
     have:=hfresh t bb oM hab
     omega
    obtain⟨t,rfl⟩:∃t,a=bl.length+t:=⟨a-bl.length,Uc⟩
    obtain⟨t',rfl⟩:∃t,b=bl.length+t:=⟨b-bl.length,Uc⟩
    rw[hρn t] at hab;rw[hρn t'] at hbb
    have:=hDr.inj _ _ bb oM oM hab hbb
    omega
   ·by_cases h3:i<bl.length
    ·rw[hρo i h3] at hb;exact hD.m.fr i b h1 h3 hb
    obtain⟨t,rfl⟩:∃t,i=bl.length+t:=⟨i-bl.length,Uc⟩
    rw[hρn t] at hb
    have h2':bl.length+t<bl.length+((R g).bl.length-m.length):=by rw[<-hlen];exact h2
    have:=hfresh t b oM hb
    have:=hD.m.rel.size
    omega
   ·have:=hD.m.nbl;show nb<=bl'.length;have h0:nb<=bl.length:=this;omega
   ·have hR:=hD.m.rel
    have hnb:nb<=bl.length:=hD.m.nbl
    refine⟨hDr.rel.os.trans hR.os,hDr.rel.tape.trans hR.tape,hDr.rel.output.trans hR.output,aJ hR.size hwl,λkk hkk hn hf=>?_⟩
    refine(hDr.rel.block kk (bM hkk hR.size) (λj hj he=>?_) λhf2=>?_).trans (hR.block kk hkk (λi hi=>?_) hf)
    ·obtain⟨i,hi⟩:=hmj j hj
     rw[hpl j i hi] at he
     by_cases h1:i<nb
     ·exact hn i h1 (by rw[hρo i oM];exact he)
     have:=hD.m.fr i kk oM (hmlt j i hi) he;omega
    ·rcases hD.m.ffr kk (by unfold InF;rw[hFl];exact hinc kk hf2) with h|h
     ·omega
     exact hf h
    have:=hn i hi
    rw[hρo i oM] at this
    exact this
   ·have hnb:nb<=bl.length:=hD.m.nbl
    rw[hρo i oM]
    exact hD.m.pl i hi
   ·obtain⟨i,hi⟩:=cV hF
    have hi':fl'[i]? =some F:=hi
    rcases hfc i F hi' with ⟨h1,h2,_⟩|⟨t,h1,_⟩
    ·have hF':F∈D.F:=by rw[hFl];exact aR h1
     refine⟨(hD.m.fam.ok F hF').1,λj hj=>((hD.m.fam.ok F hF').2 j hj).mono kp.z λb hb=>?_⟩
     refine hDr.rel.block b (hD.m.fam.lt (hula i j F b h1 hj hb)) (λj2 hj2 he=>?_) (hul i j F b h1 h2 hj hb)
     obtain⟨i',hi'⟩:=hmj j2 hj2
     rw[hpl j2 i' hi'] at he
     exact hD.m.fam.own i' b (hmlt j2 i' hi') he (hula i j F b h1 hj hb)
    have hF':F∈ρ'.F:=by rw[hFr];exact aR h1
    exact⟨(hDr.fam.ok F hF').1,λj hj=>((hDr.fam.ok F hF').2 j hj).mono (λb hb=>⟨hz2 b hb,U⟩) λb _=>U⟩
   ·have hi':i<bl.length+((R g).bl.length-m.length):=by rw[<-hlen];exact hi
    rcases hin' b hf with hf|hf
    ·by_cases h1:i<bl.length
     ·rw[hρo i h1] at hb;exact hD.m.fam.own i b h1 hb hf
     obtain⟨t,rfl⟩:∃t,i=bl.length+t:=⟨i-bl.length,Uc⟩
     rw[hρn t] at hb
     have:=hfresh t b oM hb
     have:=hD.m.fam.lt hf
     omega
    by_cases h1:i<bl.length
    ·rw[hρo i h1] at hb
     by_cases h2:i∈m
     ·obtain⟨j,hj⟩:=cV h2
      refine hDr.fam.own j b ?_ (by rw[hpl j i hj];exact hb) (by unfold InF;rw[hFr];exact hf)
      have:=eH hj;omega
     rcases hcb b hf with h|h
     ·have:=hD.m.lt h1 hb;omega
     exact hD.m.fam.own i b h1 hb (by unfold InF;rw[hFl];exact hinc b h)
    obtain⟨t,rfl⟩:∃t,i=bl.length+t:=⟨i-bl.length,Uc⟩
    rw[hρn t] at hb
    exact hDr.fam.own (m.length+t) b oM hb (by unfold InF;rw[hFr];exact hf)
   ·have h1':fl'[f1]? =some F1:=h1
    have h2':fl'[f2]? =some F2:=h2
    rcases hfc f1 F1 h1' with ⟨a1,a2,a3⟩|⟨t1,a1,a2⟩<;>rcases hfc f2 F2 h2' with ⟨c1,c2,c3⟩|⟨t2,c1,c2⟩
    ·exact hD.m.fam.inj f1 f2 F1 F2 j1 j2 b (by rw[hFl];exact a1) (by rw[hFl];exact c1) h3 h4 h5 h6
    ·rcases hcb b ⟨F2,aR c1,j2,h4,h6⟩ with h|h
     ·have:=hD.m.fam.lt (hula f1 j1 F1 b a1 h3 h5);omega
     exact U4 h (hul f1 j1 F1 b a1 a2 h3 h5)
    ·rcases hcb b ⟨F1,aR a1,j1,h3,h5⟩ with h|h
     ·have:=hD.m.fam.lt (hula f2 j2 F2 b c1 h4 h6);omega
     exact U4 h (hul f2 j2 F2 b c1 c2 h4 h6)
    obtain⟨e1,e2⟩:=hDr.fam.inj t1 t2 F1 F2 j1 j2 b (by rw[hFr];exact a1) (by rw[hFr];exact c1) h3 h4 h5 h6
    subst e1
    refine⟨?_,e2⟩
    rcases a2 with a2|⟨a2,a3⟩<;>rcases c2 with c2|⟨c2,c3⟩
    ·rw[a2] at c2;injection c2
    ·have:=eH a2;omega
    ·have:=eH c2;omega
    omega
   ·rcases hin' b hb with h|h
    ·exact hD.m.ffr b h
    rcases hcb b h with h|h
    ·exact .inl (aJ hD.m.rel.size h)
    exact hD.m.ffr b (by unfold InF;rw[hFl];exact hinc b h)
   obtain⟨hm0,hf0⟩:=honly' ho
   have hb0:bl0.length=0:=by rw[<-hml,hm0];rfl
   have hb1:fl0=[]:=bQ (by rw[<-hmfl,hf0];rfl)
   refine⟨hDr.rel.os,hDr.rel.tape,hDr.rel.output,hwl,λkk hkk=>hDr.rel.block kk hkk (λj hj=>by omega) λhf=>?_⟩
   have hf':InL fl0 kk:=hf
   rw[hb1] at hf'
   obtain⟨F,hF,_⟩:=hf'
   cases hF
  by_cases h1:j<m.length
  ·have hj1:=aG h1
   refine⟨m[j],by unfold aWw;rw[aV h1];exact hj1,?_,?_⟩
   ·have:=hmlt j _ hj1;omega
   rw[hpl j _ hj1,hρo _ (hmlt j _ hj1)]
  obtain⟨t,rfl⟩:∃t,j=m.length+t:=⟨j-m.length,Uc⟩
  refine⟨bl.length+t,?_,Uc,(hρn t).symm⟩
  unfold aWw
  rw[bH oM,show m.length+t-m.length=t by omega,aFn _ _ _ oM,zD]
 ·by_cases h1:i<bl.length
  ·rw[hρo i h1];exact hb.no i h1
  obtain⟨t,rfl⟩:∃t,i=bl.length+t:=⟨i-bl.length,Uc⟩
  rw[hρn t]
  intro he
  have:=hfresh t b oM he
  have:=hb.lt
  omega
 ·rcases hin' b hf with h|h
  ·exact hb.nf h
  rcases hcb b h with h|h
  ·have:=hb.lt;omega
  exact hb.nf (by unfold InF;rw[hFl];exact hinc b h)
 obtain⟨i,hi⟩:=hmj j hj
 rw[hpl j i hi]
 exact hb.no i (hmlt j i hi)
end
/-! ### what the machine does -/
section run
variable {P:Program} {w:World}
theorem aFp (U7:TypeDesc) (hD:U7= .int .i64) (z:Int):∀(es:List MapEntry) (i:Nat),(∀e∈es,∃n:Nat,e.key= .int .i64 n)->
 (Instr.findNow U7 (.int .i64 z) es i=some none/\∀e∈es,e.key≠.int .i64 z)\/∃(j:Nat) (e:MapEntry),es[j]? =some e/\e.key= .int .i64 z/\Instr.findNow U7 (.int .i64 z) es i=some (some (i+j,e.val))
 |[],i,_=> .inl ⟨U,λe he=>U4 he dI⟩
 |e::es,i,h=>by
  subst hD
  obtain⟨n,hn⟩:=h e (.head _)
  unfold Instr.findNow
  rw[hn]
  simp only[Instr.sameNow,if_true]
  by_cases hz:z=n
  ·subst hz
   simp only[BEq.rfl]
   exact .inr ⟨0,e,U,hn,U⟩
  have:(z==(n:Int))=false:=by simpa using hz
  simp only[this]
  rcases aFp (.int .i64) rfl z es (i+1) (λe he=>h e (.tail _ he)) with ⟨h1,h2⟩|⟨j,e',h1,h2,h3⟩
  ·refine .inl ⟨h1,λe' he'=>?_⟩
   rcases bW.1 he' with rfl|he'
   ·rw[hn];intro hh;injection hh with _ hh;exact hz hh.symm
   exact h2 e' he'
  exact .inr ⟨j+1,e',h1,h2,by rw[h3,jF,iD 1 j]⟩
def xS (l:List CV) (c n:Nat):List CV×Nat:=if n∈l.map oI then (l,c) else (l++[.h (some c) n 0],c+1)
def aDx (l:List CV) (n:Nat):List CV:=l.filter λc=>!Nat.beq (oI c) n
abbrev aAb (w:World) (b:Nat) (o:Obj):World:={w with heap:=w.heap.setIfInBounds b o}
theorem aNz (b:Nat) (o:Obj):Exc b w (aAb w b o):=⟨U,U,U,by simp[aAb],λk _ hne=>by simp[aAb,qA (gU hne)]⟩
theorem aJp {b:Nat} {o o':Obj} (h:w.heap[b]? =some o'):(aAb w b o).heap[b]? =some o:=by
 have hlt:=iQ h
 simp[aAb,hlt]
theorem sI {k:TypeId} {z:Int} (hk:P.underlying k=some (.int .i64)) (e:Bool):(Instr.checkKey e 10000 k (.int .i64 z)).run P w= .ok () w:=by
 unfold Instr.checkKey
 simp only[Sem.run_bind,run_underlying hk,Result.andThen_ok]
 rfl
theorem uX {e:MapEntry} (h:∃n:Nat,e.key= .int .i64 n) (m:Nat):oI (xP e)=m↔e.key= .int .i64 m:=by
 obtain⟨n,hn⟩:=h
 unfold xP
 rw[hn]
 simp only[oI,cN,Value.int.injEq,true_and]
 omega
section ml
variable {es:Array MapEntry} {clock:Nat} {l:List CV}
theorem MapL.mem (h:MapL es clock l) (n:Nat):n∈l.map oI↔∃e∈es.toList,e.key= .int .i64 n:=by
 rw[<-h.en,lH]
 constructor
 ·intro hh
  obtain⟨e,he,h2⟩:=bZ.1 hh
  exact⟨e,he,(uX (h.ky e he).1 n).1 h2⟩
 rintro⟨e,he,h2⟩
 exact bZ.2 ⟨e,he,(uX (h.ky e he).1 n).2 h2⟩
theorem MapL.len (h:MapL es clock l):l.length=es.size:=by rw[<-h.en];simp
theorem MapL.nodup (h:MapL es clock l):(l.map oI).Nodup:=by
 rw[<-h.en,lH]
 have h1:=h.nd
 have h2:=h.ky
 clear h
 revert h1 h2
 generalize es.toList=L
 intro h1 h2
 induction L with
 |nil=>exact tD
 |cons e L ih=>
  rw[eQ,kN] at h1
  rw[eQ,kN]
  refine⟨λhm=>?_,ih h1.2 λe he=>h2 e (.tail _ he)⟩
  obtain⟨e',he',h4⟩:=bZ.1 hm
  obtain⟨n,hn⟩:=(h2 e (.head _)).1
  have h5:=(uX (h2 e' (.tail _ he')).1 n).1 (h4.trans ((uX ⟨n,hn⟩ n).2 hn))
  exact h1.1 (bZ.2 ⟨e',he',h5.trans hn.symm⟩)
end ml
theorem bIk {t kt et:TypeId} {b n clock:Nat} {es:Array MapEntry} {l:List CV} (ht:P.underlying t=some (.map kt et)) (hk:P.underlying kt=some (.int .i64)) (hb:w.heap[b]? =some (.map es clock)) (hm:MapL es clock l):
 ∃es',(Instr.mapUpdate t (.map (some b)) (.int .i64 n) (.bool true)).run P w= .ok () (aAb w b (.map es' (xS l clock n).2))/\MapL es' (xS l clock n).2 (xS l clock n).1:=by
 have hky:∀e∈es.toList,∃n:Nat,e.key= .int .i64 n:=λe he=>(hm.ky e he).1
 unfold Instr.mapUpdate
 simp only[Sem.run_bind,run_underlying ht,Result.andThen_ok,MapKept.run_getObj_map hb,sI hk,Instr.findKey,run_underlying hk]
 rcases aFp (.int .i64) rfl (n:Int) es.toList 0 hky with ⟨h1,h2⟩|⟨j,e,h1,h2,h3⟩
 ·have hno:n∉l.map oI:=λhh=>by obtain⟨e,he,h4⟩:=(hm.mem n).1 hh;exact h2 e he h4
  rw[h1]
  have e1:xS l clock n=(l++[.h (some clock) n 0],clock+1):=U2 hno
  rw[e1]
  refine⟨es.push {key:=.int .i64 n,val:=.bool true,born:=clock},?_,?_,?_,?_,?_⟩
  ·simp only[Sem.run_pure,Result.andThen_ok]
   exact MapKept.run_setObj_map _ hb
  ·rw[nJ,bA,hm.en]
   rfl
  ·intro e he
   rw[nJ] at he
   rcases aO.1 he with he|he
   ·obtain⟨a1,a2,a3⟩:=hm.ky e he;exact⟨a1,a2,Uc⟩
   rw[aE.1 he];exact⟨⟨n,U⟩,U,aS _⟩
  ·rw[nJ,bA,lI]
   refine⟨hm.nd,by simp,λa ha b hb he=>?_⟩
   obtain⟨e,he1,rfl⟩:=bZ.1 ha
   simp only[eQ,List.map_nil,aE] at hb
   exact h2 e he1 (he.trans hb)
  rw[nJ,bA,lI]
  refine⟨hm.nb,by simp,λa ha b hb he=>?_⟩
  obtain⟨e,he1,rfl⟩:=bZ.1 ha
  simp only[eQ,List.map_nil,aE] at hb
  have:=(hm.ky e he1).2.2
  omega
 rw[h3]
 have hin:n∈l.map oI:=(hm.mem n).2 ⟨e,aR h1,h2⟩
 have e1:xS l clock n=(l,clock):=U3 hin
 rw[e1]
 have hj:es[j]? =some e:=by rw[<-eM];exact h1
 have hst:(Instr.keyThatStays (((es[0+j]?).map (·.key)).getD (.int .i64 n)) (.int .i64 n)).run P w= .ok (.int .i64 n) w:=by
  rw[eP,hj]
  unfold Instr.keyThatStays
  simp only[Option.map_some,Option.getD_some,h2,Instr.sameBits,BEq.rfl,Bool.and_self,if_true]
  rfl
 have hmod:(es.modify (0+j) λe=>{e with key:=.int .i64 n,val:=.bool true})=es:=by
  rw[eP]
  refine Array.ext (by simp) λi h4 h5=>?_
  rw[Array.getElem_modify]
  split
  ·next hij=>
   subst hij
   have h6:es[j]=e:=by rw[tK h5] at hj;injection hj
   rw[h6]
   obtain⟨_,a2,_⟩:=hm.ky e (aR h1)
   cases e
   simp only at h2 a2
   subst h2 a2
   rfl
  rfl
 refine⟨es,?_,hm⟩
 simp only[Sem.run_pure,Result.andThen_ok]
 simp only[Sem.run_bind]
 rw[hst]
 simp only[Result.andThen_ok,hmod]
 exact MapKept.run_setObj_map _ hb
theorem aBf {I:Type} {f:I->Nat} {n:Nat}:∀{L:List I} {j:Nat} {a:I},(L.map f).Nodup->L[j]? =some a->f a=n->(L.filter λc=>!Nat.beq (f c) n)=L.eraseIdx j
 |[],_,_,_,h,_=>by cases h
 |b::L,0,a,hn,h,ha=>by
  injection h with h
  subst h
  rw[eQ,kN] at hn
  have e1:Nat.beq (f b) n=true:=by rw[ha];exact gV n
  rw[mA,e1]
  simp only[jX,jB,if_false,List.eraseIdx_zero,List.tail_cons]
  refine lO.2 λc hc=>?_
  cases hb:Nat.beq (f c) n with
  |false=>rfl
  |true=>exact U4 (bZ.2 ⟨c,hc,(aM hb).trans ha.symm⟩) hn.1
 |b::L,j+1,a,hn,h,ha=>by
  rw[eQ,kN] at hn
  have h':L[j]? =some a:=h
  have e1:Nat.beq (f b) n=false:=by
   cases hb:Nat.beq (f b) n with
   |false=>rfl
   |true=>exact U4 (bZ.2 ⟨a,aR h',ha.trans (aM hb).symm⟩) hn.1
  rw[mA,e1]
  simp only[Bool.not_false,if_true,List.eraseIdx_cons_succ]
  rw[aBf hn.2 h' ha]
theorem aFq {I β:Type} {f:I->β}:∀{L:List I} {j:Nat},(L.eraseIdx j).map f=(L.map f).eraseIdx j
 |[],_=>rfl
 |_::_,0=>rfl
 |b::L,j+1=>by simp only[List.eraseIdx_cons_succ,eQ,aFq]
theorem bIl {t kt et ty:TypeId} {b n clock:Nat} {es:Array MapEntry} {l:List CV} (ht:P.underlying t=some (.map kt et)) (hk:P.underlying kt=some (.int .i64)) (hb:w.heap[b]? =some (.map es clock)) (hm:MapL es clock l) {ts:Array TypeId} (hts:ts[0]? =some t):
 ∃es',(Builtin.delete_ ts ty #[.map (some b),.int .i64 n]).run P w= .ok (.tuple #[]) (aAb w b (.map es' clock))/\MapL es' clock (aDx l n):=by
 have hky:∀e∈es.toList,∃n:Nat,e.key= .int .i64 n:=λe he=>(hm.ky e he).1
 unfold Builtin.delete_
 simp only[hts,show(#[Value.map (some b),.int .i64 n]:Array Value)[0]? =some (.map (some b)) from U,show(#[Value.map (some b),.int .i64 n]:Array Value)[1]? =some (.int .i64 n) from U]
 simp only[Sem.run_bind,run_underlying ht,Result.andThen_ok,MapKept.run_getObj_map hb,sI hk,Instr.findKey,run_underlying hk]
 rcases aFp (.int .i64) rfl (n:Int) es.toList 0 hky with ⟨h1,h2⟩|⟨j,e,h1,h2,h3⟩
 ·rw[h1]
  have hno:n∉l.map oI:=λhh=>by obtain⟨e,he,h4⟩:=(hm.mem n).1 hh;exact h2 e he h4
  have e1:aDx l n=l:=lO.2 λc hc=>by
   cases hb:Nat.beq (oI c) n with
   |false=>rfl
   |true=>exact U4 (bZ.2 ⟨c,hc,aM hb⟩) hno
  rw[e1]
  refine⟨es,?_,hm⟩
  simp only[Sem.run_pure,Result.andThen_ok]
  simp only[Sem.run_bind,MapKept.run_setObj_map _ hb,Result.andThen_ok]
  rfl
 rw[h3]
 have hjs:j<es.size:=by have:=eH h1;simpa using this
 have htl:(es.eraseIdxIfInBounds (0+j)).toList=es.toList.eraseIdx j:=by
  rw[eP,Array.toList_eraseIdxIfInBounds]
 have hsub:(es.toList.eraseIdx j).Sublist es.toList:=List.eraseIdx_sublist _ _
 refine⟨es.eraseIdxIfInBounds (0+j),?_,?_,λe he=>?_,?_,?_⟩
 ·simp only[Sem.run_pure,Result.andThen_ok]
  simp only[Sem.run_bind,MapKept.run_setObj_map _ hb,Result.andThen_ok]
  rfl
 ·rw[htl,<-hm.en,aDx,aBf (f:=oI) (j:=j) (a:=xP e) (by rw[hm.en];exact hm.nodup) (by rw[dQ,h1];rfl) ((uX (hm.ky e (aR h1)).1 n).2 h2),aFq]
 ·rw[htl] at he;exact hm.ky e (hsub.subset he)
 ·rw[htl];exact hm.nd.sublist (hsub.map _)
 rw[htl];exact hm.nb.sublist (hsub.map _)
theorem aZz {t kt et ty:TypeId} {b clock:Nat} {es:Array MapEntry} (ht:P.underlying t=some (.map kt et)) (hb:w.heap[b]? =some (.map es clock)) {ts:Array TypeId} (hts:ts[0]? =some t):
 (Builtin.len_ ts ty #[.map (some b)]).run P w= .ok (.int .i64 es.size) w:=by
 unfold Builtin.len_
 simp only[hts,show(#[Value.map (some b)]:Array Value)[0]? =some (.map (some b)) from U]
 simp only[Sem.run_bind,run_underlying ht,Result.andThen_ok,MapKept.run_getObj_map hb]
 rfl
theorem xT {e:MapEntry} (h:∃n:Nat,e.key= .int .i64 n):aHz (xP e)=e.born:=by
 obtain⟨n,hn⟩:=h
 unfold xP
 rw[hn]
 rfl
theorem aOa {es:Array MapEntry} {clock:Nat} {l:List CV} (hm:MapL es clock l) (seen:Array Nat):(leftOf es seen).toList.map xP=l.filter λc=>!seen.contains (aHz c):=by
 unfold leftOf
 rw[lS,<-hm.en,List.filter_map]
 refine U5 _ (uA λe he=>?_)
 show _=!seen.contains (aHz (xP e))
 rw[xT (hm.ky e he).1]
theorem bIm {b r clock:Nat} {ty:TypeId} {es:Array MapEntry} {l:List CV} (hb:w.heap[b]? =some (.map es clock)) (hm:MapL es clock l) {since st:Nat} {seen:Array Nat} {g:Nat->List CV} (hr:w.heap[r]? =some (.mapIter (some b) since seen st)) (hi:ItL since seen st g) (hg:g 1=l):
 (g 0=[]/\(Instr.next (.pointer (some ⟨r,0,none⟩)) false ty).run P w= .ok (.tuple #[.bool false]) w)\/
 ∃(p q:List CV) (c:CV) (v1 v2:Value) (w1:World) (seen':Array Nat),g 0=p++c::q/\(w1=w\/w1=w.drew)/\(Instr.next (.pointer (some ⟨r,0,none⟩)) false ty).run P w= .ok (.tuple #[.bool true,v1,v2]) (aAb w1 r (.mapIter (some b) since seen' clock))/\(since<=clock->ItL since seen' clock λk=>match k with|0=>p++q|1=>l|_=>[c]):=by
 have hold:∀x∈es.toList,x.born<since:=λx hx=>by
  have:=hi.lt (xP x) (by rw[hg,<-hm.en];exact bZ.2 ⟨x,hx,U⟩)
  rwa [xT (hm.ky x hx).1] at this
 have hrest:g 0=(leftOf es seen).toList.map xP:=by rw[hi.rest,hg,aOa hm]
 rcases run_next_at (P:=P) w ty r b since st seen es clock hr hb hold hi.le with ⟨h1,h2⟩|⟨e,he,w1,hw1,h2⟩
 ·refine .inl ⟨?_,h2⟩
  rw[hrest,rR]
  exact bQ (by simpa using h1)
 obtain⟨p,q,hpq⟩:=List.append_of_mem he
 have hes:e∈es.toList:=by
  unfold leftOf at he
  rw[lS] at he
  exact(rJ.1 he).1
 refine .inr ⟨p.map xP,q.map xP,xP e,e.key,e.val,w1,seen.push e.born,by rw[hrest,hpq];simp,hw1,h2,λhsc=>⟨hsc,λc hc=>?_,?_,λc hc=>?_⟩⟩
 ·exact hi.lt c (by rw[hg];exact hc)
 ·show p.map xP++q.map xP=l.filter _
  rw[<-aOa hm]
  have hnb:((leftOf es seen).toList.map (·.born)).Nodup:=by
   unfold leftOf
   rw[lS]
   exact hm.nb.sublist (List.filter_sublist.map _)
  have h5:(leftOf es (seen.push e.born)).toList=(leftOf es seen).toList.filter λx=>!(x.born==e.born):=by
   unfold leftOf
   rw[lS,lS,sW]
   refine uA λx hx=>?_
   rw[Array.contains_push,Bool.not_or,Bool.and_comm]
  rw[h5,hpq,<-bA]
  refine U5 _ ?_
  rw[hpq,bA,eQ,lI] at hnb
  obtain⟨n1,n2,n3⟩:=hnb
  rw[kN] at n2
  rw[List.filter_append,mA]
  simp only[BEq.rfl,jX,jB,if_false]
  rw[lO.2 λx hx=>?_,lO.2 λx hx=>?_]
  ·have:x.born≠e.born:=λhh=>n2.1 (bZ.2 ⟨x,hx,hh⟩)
   simpa using this
  have:x.born≠e.born:=n3 x.born (bZ.2 ⟨x,hx,U⟩) e.born (.head _)
  simpa using this
 have hc':[xP e]=[c]:=hc
 injection hc' with hc'
 subst hc'
 rw[xT (hm.ky e hes).1]
 simp
theorem bIn {b r clock:Nat} {es:Array MapEntry} {l:List CV} (hb:w.heap[b]? =some (.map es clock)) (hm:MapL es clock l) {since:Nat} {seen:Array Nat} {g:Nat->List CV} (hr:w.heap[r]? =some (.mapIter (some b) since seen clock)) (hi:ItL since seen clock g) {c:CV} (hc:g 2=[c]) (hcl:c∈l):
 (Instr.entry (.pointer (some ⟨r,0,none⟩))).run P w= .ok (.tuple #[.int .i64 (oI c),.bool true]) w:=by
 rw[<-hm.en] at hcl
 obtain⟨e,he,rfl⟩:=bZ.1 hcl
 have h1:=hi.cur _ hc
 rw[xT (hm.ky e he).1] at h1
 have hsz:0<seen.size:=by
  rcases cL seen.size with h|h
  ·have:seen=#[]:=Array.eq_empty_of_size_eq_zero h
   rw[this] at h1;cases h1
  exact h
 have hpop:seen=seen.pop.push e.born:=by
  rw[Array.back?_eq_getElem?] at h1
  have h3:seen.size-1<seen.size:=Uc
  rw[tK h3] at h1
  injection h1 with h1
  exact(Array.eq_push_pop_back!_of_size_ne_zero oM).trans (by
   congr 1
   simp[Array.back!,h3,h1])
 rw[hpop] at hr
 rw[run_entry_at w r b since seen.pop es clock e hr hb he hm.nb]
 obtain⟨⟨n,hn⟩,hv,_⟩:=hm.ky e he
 have hk:oI (xP e)=n:=(uX ⟨n,hn⟩ n).2 hn
 rw[hk,hn,hv]
/-! maps with values -/
section mv
variable {Z:Nat->Prop}
theorem aCk {z:Int}:∀{es:List MapEntry} {l:List CV} {i:Nat},MpV Z w es l->(∀(j:Nat) (c:CV),l[2*j]? =some (.v (.int .i64 z))->l[2*j+1]? =some c->False)->Instr.findNow (.int .i64) (.int .i64 z) es i=some none
 |[],[],i,_,_=>rfl
 |e::es,k::c::l,i,h,hn=>by
  obtain⟨⟨n,hn1,hn2⟩,_,h3⟩:=h
  unfold Instr.findNow
  rw[hn1]
  simp only[Instr.sameNow,if_true]
  have:(z==(n:Int))=false:=by
   cases hb:(z==(n:Int)) with
   |false=>rfl
   |true=>exact(hn 0 c (by rw[eq_of_beq hb,<-hn2];rfl) U).elim
  simp only[this]
  exact aCk h3 λj c' h1 h2=>hn (j+1) c' h1 h2
 |[],_::_,_,h,_=>h.elim
 |_::_,[],_,h,_=>h.elim
 |_::_,[_],_,h,_=>h.elim
theorem aCl {z:Int}:∀{es:List MapEntry} {l:List CV} {i:Nat},MpV Z w es l->(∃(j:Nat) (c:CV),l[2*j]? =some (.v (.int .i64 z))/\l[2*j+1]? =some c)->∃(j:Nat) (c:CV) (q:Nat) (x:Value),l[2*j]? =some (.v (.int .i64 z))/\l[2*j+1]? =some c/\Rc Z w c x/\Instr.findNow (.int .i64) (.int .i64 z) es i=some (some (q,x))
 |[],[],i,_,⟨j,c,h,_⟩=>by simp at h
 |e::es,k::c::l,i,h,hh=>by
  obtain⟨⟨n,hn1,hn2⟩,h2,h3⟩:=h
  unfold Instr.findNow
  rw[hn1]
  simp only[Instr.sameNow,if_true]
  cases hb:(z==(n:Int)) with
  |true=>exact⟨0,c,i,e.val,by rw[eq_of_beq hb,<-hn2];rfl,U,h2,U⟩
  |false=>
   obtain⟨j,c',h4,h5⟩:=hh
   cases j with
   |zero=>
    rw[hn2] at h4
    have h6:(CV.v (.int .i64 (n:Int)))= .v (.int .i64 z):=by injection h4
    injection h6 with h6
    injection h6 with _ h6
    rw[h6] at hb
    simp at hb
   |succ j=>
    obtain⟨j',c2,q,x,a1,a2,a3,a4⟩:=aCl (i:=i+1) h3 ⟨j,c',h4,h5⟩
    exact⟨j'+1,c2,q,x,a1,a2,a3,a4⟩
 |[],_::_,_,h,_=>h.elim
 |_::_,[],_,h,_=>h.elim
 |_::_,[_],_,h,_=>h.elim
theorem MpV.snoc {n:Nat} {c:CV} {x:Value} {clock:Nat} (hc:Rc Z w c x):∀{es:List MapEntry} {l:List CV},MpV Z w es l->MpV Z w (es++[{key:=.int .i64 n,val:=x,born:=clock}]) (l++[.v (.int .i64 n),c])
 |[],[],_=>⟨⟨n,U,U⟩,hc,U1⟩
 |e::es,k::c::l,h=>⟨h.1,h.2.1,MpV.snoc hc h.2.2⟩
 |[],_::_,h=>h.elim
 |_::_,[],h=>h.elim
 |_::_,[_],h=>h.elim
def lkV (ok:Bool) (x:Value) (b:Bool):Value:=if ok then .tuple #[x,.bool b] else x
theorem aJq {t kt et:TypeId} {b clock bb:Nat} {es:Array MapEntry} {l:List CV} {z:Int} {ok:Bool} {zz:Value} {u:World} (ht:P.underlying t=some (.map kt et)) (hk:P.underlying kt=some (.int .i64)) (hz:TyI P et 1 bb zz) (hb:u.heap[b]? =some (.map es clock)) (hm:MpV Z w es.toList l):
 ((∃(j:Nat) (c:CV),l[2*j]? =some (.v (.int .i64 z))/\l[2*j+1]? =some c)->∃(j:Nat) (c:CV) (x:Value),l[2*j]? =some (.v (.int .i64 z))/\l[2*j+1]? =some c/\Rc Z w c x/\(Instr.lookup t (.map (some b)) (.int .i64 z) ok).run P u= .ok (lkV ok x true) u)/\
 ((∀(j:Nat) (c:CV),l[2*j]? =some (.v (.int .i64 z))->l[2*j+1]? =some c->False)->(Instr.lookup t (.map (some b)) (.int .i64 z) ok).run P u= .ok (lkV ok zz false) u):=by
 obtain⟨i,hi,hzi,_,_⟩:=hz.ex
 have hzv:(zeroValue et).run P u= .ok zz u:=by simp[zeroValue,typeInfo,hi,hzi]
 constructor
 ·intro h
  obtain⟨j,c,q,x,h1,h2,h3,h4⟩:=aCl (i:=0) hm h
  refine⟨j,c,x,h1,h2,h3,?_⟩
  unfold Instr.lookup
  simp only[Sem.run_bind,run_underlying ht,Result.andThen_ok,MapKept.run_getObj_map hb,sI hk,Instr.findKey,run_underlying hk,h4,Sem.run_pure]
  rfl
 intro h
 have h4:=aCk (i:=0) hm h
 unfold Instr.lookup
 simp only[Sem.run_bind,run_underlying ht,Result.andThen_ok,MapKept.run_getObj_map hb,sI hk,Instr.findKey,run_underlying hk,h4,Sem.run_pure,hzv]
 rfl
theorem bAa {t kt et:TypeId} {b n clock:Nat} {es:Array MapEntry} {l:List CV} {x:Value} (ht:P.underlying t=some (.map kt et)) (hk:P.underlying kt=some (.int .i64)) (hb:w.heap[b]? =some (.map es clock)) (hm:MpV Z w es.toList l) (hn:∀(j:Nat) (c:CV),l[2*j]? =some (.v (.int .i64 n))->l[2*j+1]? =some c->False):
 (Instr.mapUpdate t (.map (some b)) (.int .i64 n) x).run P w= .ok () (aAb w b (.map (es.push {key:=.int .i64 n,val:=x,born:=clock}) (clock+1))):=by
 have h4:=aCk (i:=0) hm hn
 unfold Instr.mapUpdate
 simp only[Sem.run_bind,run_underlying ht,Result.andThen_ok,MapKept.run_getObj_map hb,sI hk,Instr.findKey,run_underlying hk,h4,Sem.run_pure]
 exact MapKept.run_setObj_map _ hb
end mv
end run
/-! ### what they make of a state -/
def mpT (T:TT) (t:Nat):Bool:=match T t with
 |some ti=>ti.mp
 |none=>false
def aQr (l:List CV):Nat->List CV
 |0=>l
 |1=>l
 |_=>[]
def aBg (p q l:List CV) (c:CV):Nat->List CV
 |0=>p++q
 |1=>l
 |_=>[c]
def mvT (T:TT) (t:Nat):Option Value:=match T t with
 |some ti=>ti.mv
 |none=>none
def lkD (ok:Bool) (d:CV) (b:Bool):DV:=bif ok then .t [.c d,.c (.v (.bool b))] else .c d
def bQi (T:TT) (pg:Option Prop) (gs:Gs) (s:SS) (t:Nat) (x y:Operand) (ok:Bool) (k:DV->Prop):Prop:=match mvT T t with
 |some zz=>(match val gs s x,val gs s y with
  |some (.c (.v (.map (some b)))),some (.c (.v (.int .i64 z)))=>∃g j:Nat,(match s.fl[g]? with
   |some F=>bif Nat.beq F.T 1000002 then ob pg (j<F.N/\F.A j=some b)/\(∀(i:Nat) (c:CV),(F.get j)[2*i]? =some (.v (.int .i64 z))->(F.get j)[2*i+1]? =some c->k (lkD ok c true))/\((∀(i:Nat) (c:CV),(F.get j)[2*i]? =some (.v (.int .i64 z))->(F.get j)[2*i+1]? =some c->False)->k (lkD ok (.v zz) false)) else False
   |none=>False)
  |_,_=>False)
 |none=>False
def bQj (T:TT) (s:SS) (t:Nat) (k:SS->DV->Prop):Prop:=match mvT T t with
 |some _=>∀b,rO s.fl ⟨1000002,1,1,λ_=>some b,λ_=>0,λ_=>[]⟩ λfl'=>k ⟨s.sl,s.gl,s.bl,fl'⟩ (.c (.v (.map (some b))))
 |none=>False
def bAb (T:TT) (s:SS) (t:Nat) (m x v:Operand) (k:SS->Prop):Prop:=match mvT T t with
 |some _=>(match val [] s m,val [] s x,val [] s v with
  |some (.c (.v (.map (some b)))),some (.c (.v (.int .i64 z))),some (.c c)=>∃g j n:Nat,(match s.fl[g]? with
   |some F=>bif Nat.beq F.T 1000002&&fS c then (j<F.N/\F.A j=some b/\z=n/\∀(i:Nat) (c':CV),(F.get j)[2*i]? =some (.v (.int .i64 n))->(F.get j)[2*i+1]? =some c'->False)/\nK s.fl g ⟨F.T,F.es,F.N,F.A,F.cap,upd F.get j (F.get j++[.v (.int .i64 n),c])⟩ λfl'=>k ⟨s.sl,s.gl,s.bl,fl'⟩ else False
   |none=>False)
  |_,_,_=>False)
 |none=>False
def bAc (T:TT) (pg:Option Prop) (gs:Gs) (s:SS) (t:Nat) (x:Operand) (k:DV->Prop):Prop:=bif mpT T t then (match val gs s x with
 |some (.c (.v (.map (some b))))=>∃g j:Nat,(match s.fl[g]? with
  |some F=>bif Nat.beq F.T 1000000 then ob pg (j<F.N/\F.A j=some b)/\k (.c (.v (.int .i64 (F.get j).length))) else False
  |none=>False)
 |_=>False) else False
def bQk (T:TT) (s:SS) (t:Nat) (k:SS->DV->Prop):Prop:=bif mpT T t then ∀b,rO s.fl ⟨1000000,1,1,λ_=>some b,λ_=>0,λ_=>[]⟩ λfl'=>k ⟨s.sl,s.gl,s.bl,fl'⟩ (.c (.v (.map (some b)))) else bQj T s t k
def bAd (T:TT) (s:SS) (t:Nat) (m x v:Operand) (k:SS->Prop):Prop:=bif mpT T t then (match val [] s m,val [] s x,val [] s v with
 |some (.c (.v (.map (some b)))),some (.c (.v (.int .i64 z))),some (.c (.v (.bool true)))=>∃g j n:Nat,(match s.fl[g]? with
  |some F=>bif Nat.beq F.T 1000000 then (j<F.N/\F.A j=some b/\z=n)/\nK s.fl g ⟨F.T,F.es,F.N,F.A,upd F.cap j (xS (F.get j) (F.cap j) n).2,upd F.get j (xS (F.get j) (F.cap j) n).1⟩ λfl'=>k ⟨s.sl,s.gl,s.bl,fl'⟩ else False
  |none=>False)
 |_,_,_=>False) else bAb T s t m x v k
def bAe (T:TT) (s:SS) (t:Nat) (m x:Operand) (k:SS->Prop):Prop:=bif mpT T t then (match val [] s m,val [] s x with
 |some (.c (.v (.map (some b)))),some (.c (.v (.int .i64 z)))=>∃g j n:Nat,(match s.fl[g]? with
  |some F=>bif Nat.beq F.T 1000000 then (j<F.N/\F.A j=some b/\z=n)/\nK s.fl g ⟨F.T,F.es,F.N,F.A,F.cap,upd F.get j (aDx (F.get j) n)⟩ λfl'=>k ⟨s.sl,s.gl,s.bl,fl'⟩ else False
  |none=>False)
 |_,_=>False) else False
def bAf (T:TT) (s:SS) (t:Nat) (x:Operand) (k:SS->DV->Prop):Prop:=bif mpT T t then (match val [] s x with
 |some (.c (.v (.map (some b))))=>∃g j:Nat,(match s.fl[g]? with
  |some F=>bif Nat.beq F.T 1000000 then (j<F.N/\F.A j=some b)/\∀r,rO s.fl ⟨1000001,1,1,λ_=>some r,λ_=>0,λ_=>[.r none 0 b (F.cap j) (aQr (F.get j))]⟩ λfl'=>k ⟨s.sl,s.gl,s.bl,fl'⟩ (.c (.hp r 0)) else False
  |none=>False)
 |_=>False) else False
def bAg (s:SS) (it:Operand) (k:SS->DV->Prop):Prop:=match val [] s it with
 |some (.c (.hp r 0))=>∃(gi g j b st:Nat) (gg:Nat->List CV),(match s.fl[gi]?,s.fl[g]? with
  |some U8,some F=>bif Nat.beq U8.T 1000001&&Nat.beq F.T 1000000 then (0<U8.N/\U8.A 0=some r/\U8.get 0=[.r none 0 b st gg]/\j<F.N/\F.A j=some b/\gg 1=F.get j/\st<=F.cap j)/\
   (gg 0=[]->k s (.t [.c (.v (.bool false))]))/\∀p c q,gg 0=p++c::q->nK s.fl gi ⟨U8.T,U8.es,U8.N,U8.A,U8.cap,upd U8.get 0 [.r none 0 b (F.cap j) (aBg p q (F.get j) c)]⟩ λfl'=>k ⟨s.sl,s.gl,s.bl,fl'⟩ (.t [.c (.v (.bool true)),.c .u,.c .u])
   else False
  |_,_=>False)
 |_=>False
def bAh (s:SS) (it:Operand) (k:SS->DV->Prop):Prop:=match val [] s it with
 |some (.c (.hp r 0))=>∃(gi g j b:Nat) (c:CV) (gg:Nat->List CV),(match s.fl[gi]?,s.fl[g]? with
  |some U8,some F=>bif Nat.beq U8.T 1000001&&Nat.beq F.T 1000000 then (0<U8.N/\U8.A 0=some r/\U8.get 0=[.r none 0 b (F.cap j) gg]/\j<F.N/\F.A j=some b/\gg 2=[c]/\c∈F.get j)/\k s (.t [.c (.v (.int .i64 (oI c))),.c (.v (.bool true))])
   else False
  |_,_=>False)
 |_=>False
section ok
variable {P:Program} {T:TT} (hT:Good P T) {w0 w:World} {nb:Nat} {s:SS} {D ρ0:Pl} {f:Nat->Value} {gs:Gs} {pg:Option Prop} {dst:Option Tmp} {ty:TypeId} {pos:String} {aft:Array Edge} {gd:Option (Nat×Bool)} {m x v y:Operand} {t t':TypeId} {k:SS->DV->Prop} {ks:SS->Prop} {kd:DV->Prop}
theorem aTe (hT:Good P T) (h:mpT T t=true):∃kt et,P.underlying t=some (.map kt et)/\P.underlying kt=some (.int .i64):=by
 unfold mpT at h
 cases ht:T t with
 |none=>rw[ht] at h;cases h
 |some ti=>rw[ht] at h;exact(hT t ti ht).mp h
theorem Dn.fadd (hD:Dn ρ0 w0 nb s D f w) {ob:Obj} {F:Fam} (hes:0<F.es) (hN:F.N=1) (hA:F.A 0=some w.heap.size) (hT0:Nat.ble F.T 999999=false) (hob:∀Z u,ObR Z u F.T (F.cap 0) (F.get 0) ob):Dn ρ0 w0 nb ⟨s.sl,s.gl,s.bl,s.fl++[F]⟩ ⟨D.at',D.Z,s.fl++[F]⟩ f (w.alloc ob):=by
 have e:Ext w (w.alloc ob):=oX w ob
 have hl:=hD.l
 have hin:∀b,InL (s.fl++[F]) b->InF D b\/b=w.heap.size:=λb ⟨G,hG,j,hj,hb⟩=>by
  rcases aO.1 hG with hG|hG
  ·exact .inl ⟨G,by rw[hl];exact hG,j,hj,hb⟩
  rw[aE.1 hG] at hj hb
  obtain rfl:j=0:=Uc
  rw[hA] at hb
  injection hb with hb
  exact .inr hb.symm
 have hz:∀b,Zf D s.bl.length w b->Zf ⟨D.at',D.Z,s.fl++[F]⟩ s.bl.length (w.alloc ob) b/\(w.alloc ob).heap[b]? =w.heap[b]?:=λb hb=>⟨⟨bM hb.lt e.size,hb.no,hb.z,λhi=>by
  rcases hin b hi with h1|h1
  ·exact hb.nf h1
  have:=hb.lt;omega⟩,e.block b hb.lt⟩
 have kp:Kp D s.bl.length w ⟨D.at',D.Z,s.fl++[F]⟩ s.bl.length (w.alloc ob):=⟨aH _,λ_ _=>U,hz⟩
 have hr:=hD.m.rel.ext e
 have hsrc:∀(g:Nat) (G:Fam) (j b:Nat),(s.fl++[F])[g]? =some G->j<G.N->G.A j=some b->(D.F[g]? =some G)\/(g=s.fl.length/\j=0/\b=w.heap.size):=λg G j b hg hj hb=>by
  rcases sH hg with ⟨e1,rfl⟩|⟨_,e2⟩
  ·obtain rfl:j=0:=Uc
   rw[hA] at hb
   injection hb with hb
   exact .inr ⟨e1,U,hb.symm⟩
  exact .inl (by rw[hl];exact e2)
 refine⟨⟨λi T es l hi=>(hD.m.ok i T es l hi).kp kp (eH hi) λb hb=>e.block b ((hD.m.ok i T es l hi).lt hb),hD.m.inj,hD.m.fr,hD.m.nbl,⟨hr.os,hr.tape,hr.output,hr.size,hr.block⟩,hD.m.pl,hD.m.zz,⟨λG hG=>?_,λi b hi hb hf=>?_,λf1 f2 F1 F2 j1 j2 b h1 h2 h3 h4 h5 h6=>?_⟩,λb hb=>?_⟩,hD.f.kp U U kp,U⟩
 ·rcases aO.1 hG with hG|hG
  ·have hG':G∈D.F:=by rw[hl];exact hG
   exact⟨(hD.m.fam.ok G hG').1,λj hj=>((hD.m.fam.ok G hG').2 j hj).mono hz λb hb=>e.block b (((hD.m.fam.ok G hG').2 j hj).lt hb)⟩
  rw[aE.1 hG]
  refine⟨hes,λj hj=>?_⟩
  obtain rfl:j=0:=Uc
  unfold Mq
  simp only[hA,hT0,cond_false]
  exact⟨ob,heap_alloc_new w ob,hob _ _⟩
 ·rcases hin b hf with h1|h1
  ·exact hD.m.fam.own i b hi hb h1
  have:=hD.m.lt hi hb;omega
 ·have low:∀(g:Nat) (G:Fam) (j b:Nat),D.F[g]? =some G->j<G.N->G.A j=some b->b<w.heap.size:=λg G j b hg hj hb=>hD.m.fam.lt ⟨G,aR hg,j,hj,hb⟩
  rcases hsrc f1 F1 j1 b h1 h3 h5 with a|⟨a1,a2,a3⟩<;>rcases hsrc f2 F2 j2 b h2 h4 h6 with c|⟨c1,c2,c3⟩
  ·exact hD.m.fam.inj f1 f2 F1 F2 j1 j2 b a c h3 h4 h5 h6
  ·have:=low f1 F1 j1 b a h3 h5;omega
  ·have:=low f2 F2 j2 b c h4 h6;omega
  exact⟨a1.trans c1.symm,a2.trans c2.symm⟩
 rcases hin b hb with h1|h1
 ·exact hD.m.ffr b h1
 rw[h1];exact .inl hD.m.rel.size
theorem Dn.map (hD:Dn ρ0 w0 nb s D f w) {g j b:Nat} {F:Fam} (hF:s.fl[g]? =some F) (ht:Nat.beq F.T 1000000=true) (hj:j<F.N) (hA:F.A j=some b):∃es,w.heap[b]? =some (.map es (F.cap j))/\MapL es (F.cap j) (F.get j):=by
 have e:=aM ht
 obtain⟨ob,h1,h2⟩:=(hD.m.fam.mem hD.l hF hj).ob hA (by rw[e];rfl)
 rw[e] at h2
 obtain⟨es,h3,h4⟩:=h2
 exact⟨es,h3▸h1,h4⟩
theorem Dn.itr (hD:Dn ρ0 w0 nb s D f w) {g r:Nat} {F:Fam} (hF:s.fl[g]? =some F) (ht:Nat.beq F.T 1000001=true) (hj:0<F.N) (hA:F.A 0=some r):∃m since seen st gg,F.get 0=[.r none 0 m st gg]/\w.heap[r]? =some (.mapIter (some m) since seen st)/\ItL since seen st gg:=by
 have e:=aM ht
 obtain⟨ob,h1,h2⟩:=(hD.m.fam.mem hD.l hF hj).ob hA (by rw[e];rfl)
 rw[e] at h2
 obtain⟨m,since,seen,st,gg,h3,h4,h5⟩:=h2
 exact⟨m,since,seen,st,gg,h3,h4▸h1,h5⟩
theorem bMu (hT:Good P T) {zz:Value} (h:mvT T t=some zz):∃kt et b,P.underlying t=some (.map kt et)/\P.underlying kt=some (.int .i64)/\TyI P et 1 b zz:=by
 unfold mvT at h
 cases ht:T t with
 |none=>rw[ht] at h;cases h
 |some ti=>rw[ht] at h;exact(hT t ti ht).mv zz h
theorem Dn.mapv (hD:Dn ρ0 w0 nb s D f w) {g j b:Nat} {F:Fam} (hF:s.fl[g]? =some F) (ht:Nat.beq F.T 1000002=true) (hj:j<F.N) (hA:F.A j=some b):∃es c,w.heap[b]? =some (.map es c)/\MpV (Zf D s.bl.length w) w es.toList (F.get j):=by
 have e:=aM ht
 obtain⟨ob,h1,h2⟩:=(hD.m.fam.mem hD.l hF hj).ob hA (by rw[e];rfl)
 rw[e] at h2
 obtain⟨es,c,h3,h4⟩:=h2
 exact⟨es,c,h3▸h1,h4⟩
include hT in
theorem bIo {ok:Bool} (h:bQi T pg gs s t x y ok kd) (hD:Dn ρ0 w0 nb s D f w) (hp:sat f gs->aCi pg):Pu P f ⟨dst,.lookup t x y ok,ty,pos,aft,gd⟩ w D s.bl.length gs kd:=by
 unfold bQi at h
 split at h
 ·next zz hz=>
  obtain⟨kt,et,bb,hu,hk,hty⟩:=bMu hT hz
  split at h
  ·next b z hx hy=>
   obtain⟨g,j,h⟩:=h
   split at h
   ·next F hF=>
    cases ht:Nat.beq F.T 1000002 with
    |false=>rw[ht] at h;exact h.elim
    |true=>
    rw[ht] at h
    simp only[cond_true] at h
    obtain⟨hob,h1,h2⟩:=h
    have lk:∀(c:CV) (v:Value) (bo:Bool),Rc (Zf D s.bl.length w) w c v->Hd D s.bl.length w (lkD ok c bo) (lkV ok v bo):=λc v bo hc=>by
     have hc':Hc D s.bl.length w c v:=Hc.of_rc hc
     cases ok with
     |false=>exact .c hc'
     |true=>exact .t (vl:=[v,.bool bo]) U λi d u hd hu=>(by
      match i,hd,hu with
      |0,hd,hu=>injection hd with hd;injection hu with hu;subst hd hu;exact .c hc'
      |1,hd,hu=>injection hd with hd;injection hu with hu;subst hd hu;exact .c (Rc.v _))
    by_cases hA:j<F.N/\F.A j=some b
    ·obtain⟨es,cl,m1,m2⟩:=hD.mapv hF ht hA.1 hA.2
     by_cases hex:∃(i:Nat) (c:CV),(F.get j)[2*i]? =some (.v (.int .i64 z))/\(F.get j)[2*i+1]? =some c
     ·obtain⟨i,c,v,a1,a2,a3,a4⟩:=(aJq (P:=P) (u:=w) (ok:=ok) hu hk hty m1 m2).1 hex
      refine⟨_,h1 i c a1 a2,λhs=>⟨_,lk c v true a3,λu hu'=>?_⟩⟩
      have e:Ext w u:=hu' U
      obtain⟨_,_,_,_,_,_,b4⟩:=(aJq (P:=P) (u:=u) (ok:=ok) hu hk hty ((e.block b (iQ m1)).trans m1) m2).1 ⟨i,c,a1,a2⟩
      have hx':=(bS hD.f hs hx).inv_c.inv_v
      have hy':=(bS hD.f hs hy).inv_c.inv_v
      have hsame:(Instr.lookup t (.map (some b)) (.int .i64 z) ok).run P u= .ok (lkV ok v true) u:=by
       obtain⟨_,_,q,x2,c1,c2,c3,c4⟩:=aCl (i:=0) m2 hex
       unfold Instr.lookup at a4 ⊢
       simp only[Sem.run_bind,run_underlying hu,Result.andThen_ok,MapKept.run_getObj_map m1,MapKept.run_getObj_map ((e.block b (iQ m1)).trans m1),sI hk,Instr.findKey,run_underlying hk,c4,Sem.run_pure] at a4 ⊢
       injection a4 with a4
       rw[a4]
      simp[execOp,hx',hy',hsame]
     have hno:∀(i:Nat) (c:CV),(F.get j)[2*i]? =some (.v (.int .i64 z))->(F.get j)[2*i+1]? =some c->False:=λi c b1 b2=>hex ⟨i,c,b1,b2⟩
     refine⟨_,h2 hno,λhs=>⟨_,lk (.v zz) zz false (Rc.v _),λu hu'=>?_⟩⟩
     have e:Ext w u:=hu' U
     have a4:=(aJq (P:=P) (u:=u) (ok:=ok) hu hk hty ((e.block b (iQ m1)).trans m1) m2).2 hno
     have hx':=(bS hD.f hs hx).inv_c.inv_v
     have hy':=(bS hD.f hs hy).inv_c.inv_v
     simp[execOp,hx',hy',a4]
    by_cases hex:∃(i:Nat) (c:CV),(F.get j)[2*i]? =some (.v (.int .i64 z))/\(F.get j)[2*i+1]? =some c
    ·obtain⟨i,c,a1,a2⟩:=hex
     exact⟨_,h1 i c a1 a2,λhs=>U4 (kQ hob (hp hs)) hA⟩
    exact⟨_,h2 λi c b1 b2=>hex ⟨i,c,b1,b2⟩,λhs=>U4 (kQ hob (hp hs)) hA⟩
   exact h.elim
  exact h.elim
 exact h.elim
omit hT in
theorem bIp (h:bQj T s t k) (hD:Dn ρ0 w0 nb s D f w):Hv true P f ⟨dst,.makeMap t none,ty,pos,aft,gd⟩ ρ0 w0 nb w k:=by
 unfold bQj at h
 split at h
 ·have hk:=mP (h w.heap.size)
  have hr:=run_makeMap (P:=P) t w
  refine⟨_,_,_,_,_,hk,?_,hD.fadd (F:=⟨1000002,1,1,λ_=>some w.heap.size,λ_=>0,λ_=>[]⟩) Nat.one_pos U U U (λ_ _=>⟨#[],0,U,U1⟩),.c (Rc.v _),λ_=>oX w _⟩
  simp[execOp,hr]
 exact h.elim
theorem aJr {b:Nat} {o:Obj}:Wc (some b) w (aAb w b o):=⟨U,U,U,(aNz b o).size,λb' hb' hne=>(aNz b o).block b' hb' λe=>hne (by rw[e])⟩
include hT in
theorem bAi (h:bAb T s t m x v ks) (hD:Dn ρ0 w0 nb s D f w):Hs P f ⟨dst,.mapUpdate t m x v,ty,pos,aft,gd⟩ ρ0 w0 nb w ks:=by
 unfold bAb at h
 split at h
 ·next zz hz=>
  obtain⟨kt,et,bb,hu,hk,hty⟩:=bMu hT hz
  split at h
  ·next b z c hmv hx hv=>
   obtain⟨g,j,n,h⟩:=h
   split at h
   ·next F hF=>
    cases ht:(Nat.beq F.T 1000002&&fS c) with
    |false=>rw[ht] at h;exact h.elim
    |true=>
    rw[ht] at h
    simp only[cond_true] at h
    simp only[aQ] at ht
    obtain⟨⟨hj,hA,hzn,hno⟩,h⟩:=h
    obtain⟨es,cl,m1,m2⟩:=hD.mapv hF ht.1 hj hA
    have e1:=(bS hD.f eC hmv).inv_c.inv_v
    have e2:=(bS hD.f eC hx).inv_c.inv_v
    have e3:=(bS hD.f eC hv).inv_c
    have hrc:Rc (Zf D s.bl.length w) w c (ev f v):=by
     cases c with
     |u=>exact e3
     |v x=>exact e3
     |h A n c=>exact e3
     |hp b o=>exact e3
     |b p q=>exact e3
     |r A m c e get=>exact e3
     |p i o=>cases ht.2
     |s i m=>cases ht.2
     |q A m c e get j o=>cases ht.2
     |t i o m=>cases ht.2
     |f k fi ca=>cases ht.2
    have hr:=bAa (x:=ev f v) hu hk m1 m2 hno
    have e:=aM ht.1
    obtain⟨k1,k2⟩:=hD.m.fset hD.l hF hj (F':=⟨F.T,F.es,F.N,F.A,F.cap,upd F.get j (F.get j++[.v (.int .i64 n),c])⟩) U U U (λ_ _=>U) (λi hi=>U) (λi hi=>aY hi) (w':=aAb w b (.map (es.push {key:=.int .i64 n,val:=ev f v,born:=cl}) (cl+1))) (by rw[hA];exact aJr) (λb' hb'=> .inl hb') (λhz=>by
     unfold Mq
     simp only[hA,bF,e]
     rw[e] at hz
     refine⟨_,aJp m1,_,_,U,?_⟩
     rw[nJ]
     exact MpV.snoc (hrc.mono hz) (MpV.mono hz m2))
    refine⟨_,_,_,iL h,?_,k1,hD.f.kp U U k2,U⟩
    simp[execOp,e1,e2,hzn,hr]
   exact h.elim
  exact h.elim
 exact h.elim
include hT in
theorem bAj (hMT:Nat.beq t MT=true) (h:bAc T pg gs s t x kd) (hD:Dn ρ0 w0 nb s D f w) (hp:sat f gs->aCi pg):Pu P f ⟨dst,.call ⟨.builtin .len,#[x],#[t]⟩,ty,pos,aft,gd⟩ w D s.bl.length gs kd:=by
 unfold bAc at h
 cases hm:mpT T t with
 |false=>rw[hm] at h;exact h.elim
 |true=>
 rw[hm] at h
 simp only[cond_true] at h
 obtain⟨kt,et,hu,hk⟩:=aTe hT hm
 split at h
 ·next b hx=>
  obtain⟨g,j,h⟩:=h
  split at h
  ·next F hF=>
   cases ht:Nat.beq F.T 1000000 with
   |false=>rw[ht] at h;exact h.elim
   |true=>
   rw[ht] at h
   simp only[cond_true] at h
   obtain⟨hob,h⟩:=h
   refine⟨_,h,λhs=>⟨_,.c (Rc.v _),λu hu'=>?_⟩⟩
   obtain⟨hj,hA⟩:=kQ hob (hp hs)
   obtain⟨es,h1,h2⟩:=hD.map hF ht hj hA
   have e:Ext w u:=hu' hMT
   have hx':=(bS hD.f hs hx).inv_c.inv_v
   have h3:=aZz (P:=P) (w:=u) (ty:=ty) hu ((e.block b (iQ h1)).trans h1) (ts:=#[t]) U
   rw[h2.len]
   simp[execOp,resolve,invoke,builtin,hx',h3]
  exact h.elim
 exact h.elim
omit hT in
theorem bIq (h:bQk T s t k) (hD:Dn ρ0 w0 nb s D f w):Hv true P f ⟨dst,.makeMap t none,ty,pos,aft,gd⟩ ρ0 w0 nb w k:=by
 unfold bQk at h
 cases hm:mpT T t with
 |false=>rw[hm] at h;exact bIp h hD
 |true=>
 rw[hm] at h
 simp only[cond_true] at h
 have hk:=mP (h w.heap.size)
 have hr:=run_makeMap (P:=P) t w
 refine⟨_,_,_,_,_,hk,?_,hD.fadd (F:=⟨1000000,1,1,λ_=>some w.heap.size,λ_=>0,λ_=>[]⟩) Nat.one_pos U U U (λ_ _=>⟨#[],U,U,λe he=>U4 he dI,tD,tD⟩),.c (Rc.v _),λ_=>oX w _⟩
 simp[execOp,hr]
theorem Dn.mset (hD:Dn ρ0 w0 nb s D f w) {g j b c:Nat} {F:Fam} {l:List CV} {es':Array MapEntry} (hF:s.fl[g]? =some F) (ht:Nat.beq F.T 1000000=true) (hj:j<F.N) (hA:F.A j=some b) (hm:MapL es' c l) {o:Obj} (ho:w.heap[b]? =some o):
 Dn ρ0 w0 nb ⟨s.sl,s.gl,s.bl,s.fl.set g ⟨F.T,F.es,F.N,F.A,upd F.cap j c,upd F.get j l⟩⟩ ⟨D.at',D.Z,s.fl.set g ⟨F.T,F.es,F.N,F.A,upd F.cap j c,upd F.get j l⟩⟩ f (aAb w b (.map es' c)):=by
 have e:=aM ht
 obtain⟨k1,k2⟩:=hD.m.fset hD.l hF hj (F':=⟨F.T,F.es,F.N,F.A,upd F.cap j c,upd F.get j l⟩) U U U (λ_ _=>U) (λi hi=>aY hi) (λi hi=>aY hi) (w':=aAb w b (.map es' c)) (by rw[hA];exact aJr) (λb' hb'=> .inl hb') (λhz=>by
  unfold Mq
  simp only[hA,bF,e]
  exact⟨_,aJp ho,es',U,hm⟩)
 exact⟨k1,hD.f.kp U U k2,U⟩
include hT in
theorem bAk (h:bAd T s t m x v ks) (hD:Dn ρ0 w0 nb s D f w):Hs P f ⟨dst,.mapUpdate t m x v,ty,pos,aft,gd⟩ ρ0 w0 nb w ks:=by
 unfold bAd at h
 cases hm:mpT T t with
 |false=>rw[hm] at h;exact bAi hT h hD
 |true=>
 rw[hm] at h
 simp only[cond_true] at h
 obtain⟨kt,et,hu,hk⟩:=aTe hT hm
 split at h
 ·next b z hmv hx hv=>
  obtain⟨g,j,n,h⟩:=h
  split at h
  ·next F hF=>
   cases ht:Nat.beq F.T 1000000 with
   |false=>rw[ht] at h;exact h.elim
   |true=>
   rw[ht] at h
   simp only[cond_true] at h
   obtain⟨⟨hj,hA,hz⟩,h⟩:=h
   obtain⟨es,h1,h2⟩:=hD.map hF ht hj hA
   obtain⟨es',h3,h4⟩:=bIk (n:=n) hu hk h1 h2
   have e1:=(bS hD.f eC hmv).inv_c.inv_v
   have e2:=(bS hD.f eC hx).inv_c.inv_v
   have e3:=(bS hD.f eC hv).inv_c.inv_v
   refine⟨_,_,_,iL h,?_,hD.mset hF ht hj hA h4 h1⟩
   simp[execOp,e1,e2,e3,hz,h3]
  exact h.elim
 exact h.elim
include hT in
theorem bAl (h:bAe T s t m x ks) (hD:Dn ρ0 w0 nb s D f w):∃s' ρ' w' u,ks s'/\(execOp (ev f) ⟨dst,.call ⟨.builtin .delete,#[m,x],#[t,t']⟩,ty,pos,aft,gd⟩).run P w= .ok (.value u) w'/\Dn ρ0 w0 nb s' ρ' f w':=by
 unfold bAe at h
 cases hm:mpT T t with
 |false=>rw[hm] at h;exact h.elim
 |true=>
 rw[hm] at h
 simp only[cond_true] at h
 obtain⟨kt,et,hu,hk⟩:=aTe hT hm
 split at h
 ·next b z hmv hx=>
  obtain⟨g,j,n,h⟩:=h
  split at h
  ·next F hF=>
   cases ht:Nat.beq F.T 1000000 with
   |false=>rw[ht] at h;exact h.elim
   |true=>
   rw[ht] at h
   simp only[cond_true] at h
   obtain⟨⟨hj,hA,hz⟩,h⟩:=h
   obtain⟨es,h1,h2⟩:=hD.map hF ht hj hA
   obtain⟨es',h3,h4⟩:=bIl (ty:=ty) (n:=n) hu hk h1 h2 (ts:=#[t,t']) U
   have e1:=(bS hD.f eC hmv).inv_c.inv_v
   have e2:=(bS hD.f eC hx).inv_c.inv_v
   have h5:=hD.mset hF ht hj hA h4 h1
   have e4:(⟨F.T,F.es,F.N,F.A,upd F.cap j (F.cap j),upd F.get j (aDx (F.get j) n)⟩:Fam)=⟨F.T,F.es,F.N,F.A,F.cap,upd F.get j (aDx (F.get j) n)⟩:=by
    congr 1
    funext i
    unfold upd
    split
    ·next hi=>rw[hi]
    rfl
   rw[e4] at h5
   refine⟨_,_,_,.tuple #[],iL h,?_,h5⟩
   simp[execOp,resolve,invoke,builtin,e1,e2,hz,h3]
  exact h.elim
 exact h.elim
include hT in
theorem bAm (h:bAf T s t x k) (hD:Dn ρ0 w0 nb s D f w):Hv true P f ⟨dst,.range t x,ty,pos,aft,gd⟩ ρ0 w0 nb w k:=by
 unfold bAf at h
 cases hm:mpT T t with
 |false=>rw[hm] at h;exact h.elim
 |true=>
 rw[hm] at h
 simp only[cond_true] at h
 obtain⟨kt,et,hu,hk⟩:=aTe hT hm
 split at h
 ·next b hx=>
  obtain⟨g,j,h⟩:=h
  split at h
  ·next F hF=>
   cases ht:Nat.beq F.T 1000000 with
   |false=>rw[ht] at h;exact h.elim
   |true=>
   rw[ht] at h
   simp only[cond_true] at h
   obtain⟨⟨hj,hA⟩,h⟩:=h
   obtain⟨es,h1,h2⟩:=hD.map hF ht hj hA
   have hk':=mP (h w.heap.size)
   have hr:=run_range_map (P:=P) w t kt et b es (F.cap j) hu h1
   have e1:=(bS hD.f eC hx).inv_c.inv_v
   refine⟨_,_,_,_,_,hk',?_,hD.fadd (F:=⟨1000001,1,1,λ_=>some w.heap.size,λ_=>0,λ_=>[.r none 0 b (F.cap j) (aQr (F.get j))]⟩) Nat.one_pos U U U (λ_ _=>⟨b,F.cap j,#[],F.cap j,aQr (F.get j),U,U,aH _,λc hc=>?_,?_,λc hc=>by cases hc⟩),.c (Rc.hp _ _),λ_=>oX w _⟩
   ·simp[execOp,e1,hr]
   ·have hc':c∈F.get j:=hc
    rw[<-h2.en] at hc'
    obtain⟨e,he,rfl⟩:=bZ.1 hc'
    rw[xT (h2.ky e he).1]
    exact(h2.ky e he).2.2
   show F.get j=(F.get j).filter _
   exact(lO.2 λc _=>by simp).symm
  exact h.elim
 exact h.elim
theorem bAn (h:bAg s x k) (hD:Dn ρ0 w0 nb s D f w):Hv false P f ⟨dst,.next x false,ty,pos,aft,gd⟩ ρ0 w0 nb w k:=by
 unfold bAg at h
 split at h
 ·next r hx=>
  obtain⟨gi,g,j,b,st,gg,h⟩:=h
  split at h
  ·next U8 F hI hF=>
   cases ht:(Nat.beq U8.T 1000001&&Nat.beq F.T 1000000) with
   |false=>rw[ht] at h;exact h.elim
   |true=>
   rw[ht] at h
   simp only[cond_true] at h
   simp only[aQ] at ht
   obtain⟨⟨hN,hAr,hg0,hj,hA,hgg,hst⟩,hk1,hk2⟩:=h
   obtain⟨es,h1,h2⟩:=hD.map hF ht.2 hj hA
   obtain⟨m',since,seen,st',gg',i1,i2,i3⟩:=hD.itr hI ht.1 hN hAr
   rw[hg0] at i1
   injection i1 with i1 _
   injection i1 with _ _ e1 e2 e3
   subst e1 e2 e3
   have ex:=(bS hD.f eC hx).inv_c.inv_hp
   rcases bIm (P:=P) (ty:=ty) h1 h2 i2 i3 hgg with ⟨n1,n2⟩|⟨p,q,c,v1,v2,w1,seen',n1,n2,n3,n4⟩
   ·exact⟨_,_,_,_,_,hk1 n1,by simp[execOp,ex,n2],hD,.t (vl:=[.bool false]) U λi d u hd hu=>(by
     match i,hd,hu with
     |0,hd,hu=>injection hd with hd;injection hu with hu;subst hd hu;exact .c (Rc.v _)),λh=>by cases h⟩
   have hk':=iL (hk2 p c q n1)
   have hi':=n4 (aJ i3.le hst)
   have e:=aM ht.1
   have hw1:w1.heap=w.heap:=by rcases n2 with rfl|rfl<;>rfl
   have hwc:Wc (some r) w (aAb w1 r (.mapIter (some b) since seen' (F.cap j))):=by
    rcases n2 with rfl|rfl
    ·exact aJr
    have hd:=Ext.drew w
    have hs:=aJr (w:=w.drew) (b:=r) (o:=.mapIter (some b) since seen' (F.cap j))
    exact⟨hs.os.trans hd.os,hs.tape.trans hd.tape,hs.output.trans hd.output,aJ hd.size hs.size,λb' hb' hne=>(hs.block b' (bM hb' hd.size) hne).trans (hd.block b' hb')⟩
   obtain⟨k1,k2⟩:=hD.m.fset hD.l hI hN (F':=⟨U8.T,U8.es,U8.N,U8.A,U8.cap,upd U8.get 0 [.r none 0 b (F.cap j) (aBg p q (F.get j) c)]⟩) U U U (λ_ _=>U) (λi hi=>U) (λi hi=>aY hi) (w':=aAb w1 r (.mapIter (some b) since seen' (F.cap j))) (by rw[hAr];exact hwc) (λb' hb'=> .inl hb') (λhz=>by
    unfold Mq
    simp only[hAr,bF,e]
    refine⟨_,aJp (by rw[hw1];exact i2),b,since,seen',F.cap j,_,U,U,⟨hi'.le,hi'.lt,hi'.rest,hi'.cur⟩⟩)
   exact⟨_,_,_,_,_,hk',by simp[execOp,ex,n3],⟨k1,hD.f.kp U U k2,U⟩,.t (vl:=[.bool true,v1,v2]) U λi d u hd hu=>(by
    match i,hd,hu with
    |0,hd,hu=>injection hd with hd;injection hu with hu;subst hd hu;exact .c (Rc.v _)
    |1,hd,hu=>injection hd with hd;injection hu with hu;subst hd hu;exact .c (Rc.u _)
    |2,hd,hu=>injection hd with hd;injection hu with hu;subst hd hu;exact .c (Rc.u _)),λh=>by cases h⟩
  exact h.elim
 exact h.elim
theorem bAo (h:bAh s x k) (hD:Dn ρ0 w0 nb s D f w):Hv true P f ⟨dst,.entry x,ty,pos,aft,gd⟩ ρ0 w0 nb w k:=by
 unfold bAh at h
 split at h
 ·next r hx=>
  obtain⟨gi,g,j,b,c,gg,h⟩:=h
  split at h
  ·next U8 F hI hF=>
   cases ht:(Nat.beq U8.T 1000001&&Nat.beq F.T 1000000) with
   |false=>rw[ht] at h;exact h.elim
   |true=>
   rw[ht] at h
   simp only[cond_true] at h
   simp only[aQ] at ht
   obtain⟨⟨hN,hAr,hg0,hj,hA,hgg,hcl⟩,hk⟩:=h
   obtain⟨es,h1,h2⟩:=hD.map hF ht.2 hj hA
   obtain⟨m',since,seen,st',gg',i1,i2,i3⟩:=hD.itr hI ht.1 hN hAr
   rw[hg0] at i1
   injection i1 with i1 _
   injection i1 with _ _ e1 e2 e3
   subst e1 e2 e3
   have ex:=(bS hD.f eC hx).inv_c.inv_hp
   have hr:=bIn (P:=P) h1 h2 i2 i3 hgg hcl
   exact⟨_,_,_,_,_,hk,by simp[execOp,ex,hr],hD,.t (vl:=[.int .i64 (oI c),.bool true]) U λi d u hd hu=>(by
    match i,hd,hu with
    |0,hd,hu=>injection hd with hd;injection hu with hu;subst hd hu;exact .c (Rc.v _)
    |1,hd,hu=>injection hd with hd;injection hu with hu;subst hd hu;exact .c (Rc.v _)),λ_=>Ext.refl w⟩
  exact h.elim
 exact h.elim
end ok
def E1 (T:TT) (pg:Option Prop) (gs:Gs) (s:SS):Op->(DV->Prop)->Prop
 |.move x,k=>aDp gs s x k
 |.assign x,k=>aDp gs s x k
 |.pick x y z,k=>aZd gs s x y z k
 |.load t x,k=>aYy T pg gs s t x k
 |.nilCheck x,k=>bPt gs s x k
 |.binOp op t x y _,k=>bPv T t pg gs s op x y k
 |.unOp op _ x,k=>eUn pg gs s op x k
 |.convert t t' x,k=>aYz T pg gs s t t' x k
 |.fieldAddr t x i,k=>bPu T gs s t x i k
 |.field t x i,k=>aZc T gs s t x i k
 |.indexAddr t x y,k=>(match T t with
  |some ti=>bif ti.ar.isSome then aZa T pg gs s t x y k else bPw T pg gs s t x y k
  |none=>False)
 |.index t x y,k=>aZb T pg gs s t x y k
 |.lookup t x y ok,k=>bQi T pg gs s t x y ok k
 |.slice t x lo hi mx,k=>bif mx.isNone then eSl T pg gs s t x lo hi k else False
 |.extract x i,k=>bPx gs s x i k
 |.build t ps,k=>aQm T gs s t ps.toList k
 |.makeFunc fn fi ca,k=>bPz gs s fn fi.toList ca.toList k
 |.call c,k=>(match c.callee,c.args.toList,c.argTypes.toList with
  |.builtin .len,[x],[t]=>bif Nat.beq t MT then bAc T pg gs s t x k else bPy T gs s t x k
  |.builtin .min,[x,y],[_,_]=>eMm false gs s x y k
  |.builtin .max,[x,y],[_,_]=>eMm true gs s x y k
  |_,_,_=>False)
 |_,_=>False
def bAp (s:SS):List Operand->(List DV->Prop)->Prop
 |[],k=>k []
 |x::l,k=>match val [] s x with
  |some d=>bAp s l λr=>k (d::r)
  |none=>False
def ptrs:List (Nat×Nat)->List DV->List DV
 |[],r=>r
 |(i,o)::l,r=> .c (.p i o)::ptrs l r
/-! ### an own slice that is read from now on -/
section frz
variable {ρ0 D:Pl} {w0 w:World} {nb:Nat} {f:Nat->Value}
theorem aFr {s:SS} (hD:Dn ρ0 w0 nb s D f w) (i:Nat) {n T es:Nat} {l:List CV} {x:Value} (get:Nat->List CV) (hx:Hc D s.bl.length w (.s i n) x) (hb:s.bl[i]? =some (T,es,l)) (hg:∀j,j<n->get j=(l.drop (j*es)).take es) (hl:n*es=l.length) (hes:0<es) (hclo:∀c∈l,fS c=true) (hnb:nb<=i) {kk:Option Addr->Nat->SS->Prop}
 (h:∀A c,n<=c->c<=maxLen->xQ i s λs'=>nK s'.bl i (T,es,[]) λbl'=>kk A c ⟨s'.sl,s'.gl,bl',s'.fl⟩):∃A c s' ρ',kk A c s'/\Dn ρ0 w0 nb s' ρ' f w/\Kx i D s.bl.length w ρ' w/\s'.bl.length=s.bl.length/\s'.gl=[]/\Hc ρ' s.bl.length w (.r A n c es get) x:=by
 obtain⟨hi,he⟩:=hx
 have hq:=hD.m.ok i T es l hb
 let ρ':Pl:=⟨λj=>if j=i then (none,0) else D j,D.Z,D.F⟩
 have hρi:ρ' i=(none,0):=U3 U
 have hρj:∀j,j≠i->ρ' j=D j:=λj hj=>U2 hj
 have hz:∀b,Zf D s.bl.length w b->Zf ρ' s.bl.length w b:=λb hb=>⟨hb.lt,λj hj=>by
  by_cases hji:j=i
  ·rw[hji,hρi];intro h;cases h
  rw[hρj j hji];exact hb.no j hj,hb.z,hb.nf⟩
 have kx:Kx i D s.bl.length w ρ' w:=⟨λj _ hj=>hρj j hj,λb hb=>⟨hz b hb,U⟩,λj b _ _ _=>U⟩
 have key:∃A c,n<=c/\c<=maxLen/\Rc (Zf ρ' s.bl.length w) w (.r A n c es get) x:=by
  cases hρ:(D i).1 with
  |none=>
   unfold Bq at hq
   simp only[hρ] at hq
   obtain⟨q1,q2,q3⟩:=hq
   subst q1
   have hn0:n=0:=by
    rcases cL n with h|h
    ·exact h
    have:=jM h hes;simp at hl;omega
   subst hn0
   rw[hρ,q2] at he
   refine⟨none,0,aH _,aB _,?_⟩
   rw[he]
   exact Rc.nil none 0 es get (aB _)
  |some b=>
   obtain⟨vl,junk,q1,q2,q3,q4⟩:=hq.at hρ
   obtain⟨q5,q6⟩:=q3 hes
   have hlv:=q2.len
   have hnc:n<=(D i).2:=by
    rw[aD] at q5
    exact eS (c:=es) oM hes
   rw[hρ] at he
   refine⟨some ⟨b,0,none⟩,(D i).2,hnc,q6,?_⟩
   rw[he]
   have hZb:Zf ρ' s.bl.length w b:=⟨iQ q1,λj hj=>by
    by_cases hji:j=i
    ·rw[hji,hρi];intro h;cases h
    rw[hρj j hji];intro h;exact hji (hD.m.inj j i b hj hi h hρ),hD.m.zz.2 b (.inl (hD.m.fr i b hnb hi hρ)),hD.m.fam.own i b hi hρ⟩
   have hjn:∀j,j<n->j*es+es<=vl.length:=λj hj=>by
    have:(j+1)*es<=n*es:=aT es hj
    rw[dE,iX] at this
    omega
   refine Rc.r b 0 n (D i).2 es get (λj=>(vl.drop (j*es)).take es) hnc q6 hZb (λj hj k u hu=>?_) (λj hj=>?_) λj hj k c' u hc hu=>?_
   ·rw[fK] at hu
    split at hu
    ·rw[dN] at hu
     refine⟨?_,q4 u (aR hu)⟩
     rw[eP]
     exact nR q1 hu
    cases hu
   ·rw[hg j hj]
    have:=hjn j hj
    simp only[bI,cP]
    omega
   rw[hg j hj] at hc
   obtain⟨x,h1,h2⟩:=((q2.drop (j*es)).take es).get hc
   rw[hu] at h1
   injection h1 with h1
   subst h1
   have hcl:=hclo c' (fU (cH (aR hc)))
   have h3:Hc ρ' s.bl.length w c' u:=h2.clo hcl hz
   cases c' with
   |u=>exact h3
   |v x=>exact h3
   |h A n c=>exact h3
   |hp b o=>exact h3
   |b p q=>exact h3
   |r A m c e get=>exact h3
   |p i o=>cases hcl
   |s i m=>cases hcl
   |q A m c e get j o=>cases hcl
   |t i o m=>cases hcl
   |f k fi ca=>cases hcl
 obtain⟨A,c,hc1,hc2,hrc⟩:=key
 obtain⟨sl',bl',k1,k2,⟨T3,e3,l3,k3,k4⟩,k5⟩:=aNt (h A c hc1 hc2) hD kx hnb hi (λb hb=>by rw[hρi] at hb;cases hb) (λj b hj hji hb hb'=>by rw[hρi] at hb';cases hb') (λh=>h) U hD.l (hD.m.fam.kx kx U (λ_ _=>U) λb hb=>by rw[hρi] at hb;cases hb) hD.m.ffr
 have hfin:=k5 T es [] (by unfold Bq;rw[hρi];exact⟨U,U,hes⟩)
 exact⟨A,c,_,ρ',iL k1,hfin,kx,by rw[cC];exact k2,U,hrc⟩
def aFs (nb:Nat):List DV->List DV->SS->(List DV->SS->Prop)->Prop
 |_,[],s,k=>k [] s
 |acc,d::l,s,k=>match d with
  |.c (.s i n)=>∃z:Option (Nat->List CV),match z with
   |none=>aFs nb (.c (.s i n)::acc) l s λr s'=>k (.c (.s i n)::r) s'
   |some get=>match s.bl[i]? with
    |some (T,es,lc)=>bif acc.all (λd=>!aNq i d)&&l.all (λd=>!aNq i d) then ((nb<=i/\0<es)/\n*es=lc.length/\(∀j,j<n->get j=(lc.drop (j*es)).take es)/\∀c∈lc,fS c=true)/\
     ∀A c,n<=c->c<=maxLen->xQ i s λs1=>nK s1.bl i (T,es,[]) λbl'=>aFs nb (.c (.r A n c es get)::acc) l ⟨s1.sl,s1.gl,bl',s1.fl⟩ λr s'=>k (.c (.r A n c es get)::r) s' else False
    |none=>False
  |.c (.v (.bool b))=>aFs nb (.c (.b (b=true) inferInstance)::acc) l s λr s'=>k (.c (.b (b=true) inferInstance)::r) s'
  |d=>aFs nb (d::acc) l s λr s'=>k (d::r) s'
theorem HL.kx {i n:Nat} {ρ':Pl} (kx:Kx i D n w ρ' w):∀{l:List DV} {vl:List Value},HL D n w l vl->l.all (λd=>!aNq i d)=true->HL ρ' n w l vl
 |[],[],_,_=>trivial
 |[],_::_,h,_=>h.elim
 |_::_,[],h,_=>h.elim
 |d::l,v::vl,h,hm=>by
  simp only[List.all_cons,aQ,dP] at hm
  exact⟨h.1.kx kx hm.1,HL.kx kx h.2 hm.2⟩
theorem aEd:∀{l acc:List DV} {s:SS} {k:List DV->SS->Prop} {D:Pl} {vals avals:List Value},aFs nb acc l s k->Dn ρ0 w0 nb s D f w->HL D s.bl.length w l vals->HL D s.bl.length w acc avals->∃r s' ρ',k r s'/\Dn ρ0 w0 nb s' ρ' f w/\HL ρ' s'.bl.length w r vals/\HL ρ' s'.bl.length w acc avals
 |[],acc,s,k,D,[],avals,h,hD,hv,ha=>⟨[],s,D,h,hD,U1,ha⟩
 |[],acc,s,k,D,_::_,avals,h,hD,hv,ha=>hv.elim
 |_::_,acc,s,k,D,[],avals,h,hD,hv,ha=>hv.elim
 |d::l,acc,s,k,D,v::vals,avals,h,hD,hv,ha=>by
  have plain:aFs nb (d::acc) l s (λr s'=>k (d::r) s')->∃r s' ρ',k r s'/\Dn ρ0 w0 nb s' ρ' f w/\HL ρ' s'.bl.length w r (v::vals)/\HL ρ' s'.bl.length w acc avals:=λh=>by
   obtain⟨r,s',ρ',h1,h2,h3,h4⟩:=aEd h hD hv.2 (show HL D s.bl.length w (d::acc) (v::avals) from ⟨hv.1,ha⟩)
   exact⟨d::r,s',ρ',h1,h2,⟨h4.1,h3⟩,h4.2⟩
  unfold aFs at h
  split at h
  ·next i n=>
   obtain⟨z,h⟩:=h
   cases z with
   |none=>exact plain h
   |some get=>
    simp only at h
    split at h
    ·next T es lc hb=>
     cases hm:(acc.all (λd=>!aNq i d)&&l.all (λd=>!aNq i d)) with
     |false=>rw[hm] at h;exact h.elim
     |true=>
      rw[hm] at h
      simp only[aQ] at hm
      obtain⟨⟨⟨hnb,hes⟩,hl,hg,hclo⟩,hk⟩:=h
      obtain⟨A,c,s',ρ',k1,k2,k3,k4,_,k5⟩:=aFr hD i get hv.1.inv_c hb hg hl hes hclo hnb (kk:=λA c s'=>aFs nb (.c (.r A n c es get)::acc) l s' λr s2=>k (.c (.r A n c es get)::r) s2) hk
      rw[<-k4] at k3 k5
      have hvl:HL ρ' s'.bl.length w l vals:=HL.kx k3 (by rw[k4];exact hv.2) hm.2
      have hac:HL ρ' s'.bl.length w acc avals:=HL.kx k3 (by rw[k4];exact ha) hm.1
      obtain⟨r,s2,ρ2,h1,h2,h3,h4⟩:=aEd k1 k2 hvl (show HL ρ' s'.bl.length w (.c (.r A n c es get)::acc) (v::avals) from ⟨.c k5,hac⟩)
      exact⟨_,s2,ρ2,h1,h2,⟨h4.1,h3⟩,h4.2⟩
    exact h.elim
  ·next b=>
   have hv1:Hd D s.bl.length w (.c (.b (b=true) inferInstance)) v:=by
    have e:Value.bool b= .bool (decide (b=true)):=by simp
    rw[hv.1.inv_c.inv_v,e]
    exact .c (Rc.b _ _)
   obtain⟨r,s',ρ',h1,h2,h3,h4⟩:=aEd h hD hv.2 (show HL D s.bl.length w (.c (.b (b=true) inferInstance)::acc) (v::avals) from ⟨hv1,ha⟩)
   exact⟨_,s',ρ',h1,h2,⟨h4.1,h3⟩,h4.2⟩
  exact plain h
end frz
def bMv (P:Program) (nb:Nat) (only:Bool) (s:SS) (x:Operand) (args:List Operand) (k:SS->DV->Prop):Prop:=match val [] s x with
 |some (.c (.f q fi ca))=>(match fi,ca with
  |[],[]=>bAp s args λal=>aFs nb [] al s λal' s'=>callK P only s' q al' k
  |_,_=>bAp s args λal=>∃al',ptrs fi (al++ptrs ca [])=al'/\aFs nb [] al' s λal' s'=>callK P only s' q al' k)
 |_=>False
def H1 (P:Program) (T:TT) (nb:Nat) (only:Bool) (s:SS):Op->(SS->DV->Prop)->Prop
 |.alloc t,k=>aQj T s t k
 |.box t x,k=>bQd s t x k
 |.buildSlice t n ps,k=>bQe T s t n ps.toList k
 |.makeSlice t x y,k=>aZq T s t x y k
 |.call c,k=>(match c.callee,c.args.toList,c.argTypes.toList with
  |.builtin .append,[x,y],[t,t']=>bif Nat.beq t t'&&!only then bQf T nb s t x y k else False
  |.value x,args,_=>bMv P nb only s x args k
  |_,_,_=>False)
 |.makeMap t none,k=>bQk T s t k
 |.range t x,k=>bAf T s t x k
 |.next x false,k=>bif only then False else bAg s x k
 |.entry x,k=>bAh s x k
 |_,_=>False
def apG (d:Nat) (gl:List (Nat×Gs×DV)):Bool:=gl.all λe=>!Nat.beq e.1 d&&e.2.1.all λp=>!Nat.beq p.1 d
def aHj (s:SS) (d:Nat) (v:DV) (K:SS->Prop):Prop:=match s with
 |⟨sl,gl,bl,fl⟩=>bif apG d gl then K ⟨(d,v)::sl,gl,bl,fl⟩ else False
def bQl (s:SS) (d:Nat) (gs:Gs) (v:DV) (K:SS->Prop):Prop:=match s with
 |⟨sl,gl,bl,fl⟩=>bif apG d gl&&gs.all (λp=>!Nat.beq p.1 d) then K ⟨(d,.c .u)::sl,(d,gs,v)::gl,bl,fl⟩ else False
def exU (P:Program) (T:TT) (nb N:Nat) (only:Bool) (o:Oper) (s:SS) (K:SS->Prop):Prop:=
 bif calm o then (match o.dst with
  |some d=>bif Nat.ble (d+1) N then E1 T none [] s o.op λv=>aHj s d v K else False
  |none=>False)
 else match o.op with
  |.store t x y=>(match o.dst with
   |none=>bif only then False else aQk T s t x y K
   |some _=>False)
  |.mapUpdate t m x v=>(match o.dst with
   |none=>bif only then False else bAd T s t m x v K
   |some _=>False)
  |.call ⟨.builtin .delete,⟨[m,x]⟩,⟨[t,_]⟩⟩=>(match o.dst with
   |none=>bif only then False else bAe T s t m x K
   |some _=>False)
  |op=>(match o.dst with
   |some d=>bif Nat.ble (d+1) N then H1 P T nb only s op λs' v=>aHj s' d v K else False
   |none=>False)
section
variable {P:Program} {T:TT} (hT:Good P T) {w0 w:World} {nb N:Nat} {s:SS} {D ρ0:Pl} {f:Nat->Value} {gs:Gs} {pg:Option Prop} {k:DV->Prop} {only:Bool}
theorem aFt {a b:Nat} (h:(!Nat.beq a b)=true):a≠b:=λe=>by subst e;rw[gV] at h;cases h
include hT in
theorem bAq {o:Oper} (h:E1 T pg gs s o.op k) (hD:Dn ρ0 w0 nb s D f w) (hp:sat f gs->aCi pg):Pu P f o w D s.bl.length gs k:=by
 obtain⟨dst,op,ty,pos,aft,gd⟩:=o
 simp only at h
 unfold E1 at h
 split at h
 ·exact(aNo h hD.f).1
 ·exact(aNo h hD.f).2
 ·exact aZm h hD.f
 ·exact aZg hT h hD hp
 ·exact bHy h hD.f
 ·exact bIa hT h hD.f hp
 ·exact bQa h hD.f hp
 ·exact aZh hT h hD.f hp
 ·exact bHz hT h hD.f
 ·exact aZk hT h hD.f
 ·split at h
  ·next ti _=>
   cases ha:ti.ar.isSome with
   |true=>rw[ha] at h;exact aZi hT h hD.f hp
   |false=>rw[ha] at h;exact bIb hT h hD hp
  exact h.elim
 ·exact aZj hT h hD.f hp
 ·exact bIo hT h hD hp
 ·next t x lo hi mx=>
  cases mx with
  |some m=>exact h.elim
  |none=>exact bQb hT h hD hp
 ·exact bIc h hD.f
 ·next t ps=>
  have:=aWv (P:=P) (dst:=dst) (ty:=ty) (pos:=pos) (aft:=aft) (gd:=gd) hT h hD.f
  rwa [fV] at this
 ·next fn fi ca=>
  have:=bIe (P:=P) (dst:=dst) (ty:=ty) (pos:=pos) (aft:=aft) (gd:=gd) h hD.f
  rwa [fV,fV] at this
 ·next c=>
  obtain⟨callee,⟨args⟩,⟨tys⟩⟩:=c
  simp only at h
  split at h
  ·next x t=>
   cases hmt:Nat.beq t MT with
   |true=>rw[hmt] at h;exact bAj hT hmt h hD hp
   |false=>rw[hmt] at h;exact bId hT h hD.f
  ·exact aZl (mx:=false) h hD.f
  ·exact aZl (mx:=true) h hD.f
  exact h.elim
 exact h.elim
theorem aQs {d:Nat} {gl:List (Nat×Gs×DV)} (h:apG d gl=true) {t:Nat} {g:Gs} {v:DV} (ht:zQ gl t=some (g,v)):t≠d/\∀p∈g,p.1≠d:=by
 induction gl with
 |nil=>cases ht
 |cons e gl ih=>
  obtain⟨t0,d0⟩:=e
  simp only[apG,List.all_cons,aQ] at h
  unfold zQ at ht
  cases hb:Nat.beq t0 t with
  |true=>
   rw[hb] at ht
   injection ht with ht
   have e1:=aM hb
   refine⟨by rw[<-e1];exact aFt h.1.1,λp hp=>?_⟩
   have h2:=h.1.2
   rw[ht] at h2
   exact aFt (aX.1 h2 p hp)
  |false=>rw[hb] at ht;exact ih h.2 ht
theorem aQt {d:Nat} {g:Gs} {x:Value} (h:∀p∈g,p.1≠d):sat (st f d x) g↔sat f g:=by
 constructor
 ·intro hs p hp;have:=hs p hp;rwa [qP _ _ _ _ (h p hp)] at this
 intro hs p hp;rw[qP _ _ _ _ (h p hp)];exact hs p hp
theorem Dn.put {d:Nat} {v:DV} {x:Value} {K:SS->Prop} (h:aHj s d v K) (hD:Dn ρ0 w0 nb s D f w) (hx:Hd D s.bl.length w v x):∃s',K s'/\Dn ρ0 w0 nb s' D (st f d x) w:=by
 obtain⟨sl,gl,bl,fl⟩:=s
 unfold aHj at h
 simp only at h
 cases hb:apG d gl with
 |false=>rw[hb] at h;exact h.elim
 |true=>
  rw[hb] at h
  refine⟨_,h,hD.m,⟨λt d' ht=>?_,λt g d' ht=>?_⟩,hD.l⟩
  ·simp only[gK] at ht
   cases he:Nat.beq d t with
   |true=>
    rw[he] at ht
    injection ht with ht
    subst ht
    have:=aM he
    subst this
    rw[aIv]
    exact hx
   |false=>
    rw[he] at ht
    rw[qP _ _ _ _ (gU (pA he))]
    exact hD.f.sl t d' ht
  obtain⟨h1,h2⟩:=aQs hb ht
  rw[aQt h2,qP _ _ _ _ h1]
  exact hD.f.gl t g d' ht
theorem Dn.putg {d:Nat} {v:DV} {x:Value} {K:SS->Prop} (h:bQl s d gs v K) (hD:Dn ρ0 w0 nb s D f w) (hx:sat f gs->Hd D s.bl.length w v x) (hu:¬sat f gs->x=undef):∃s',K s'/\Dn ρ0 w0 nb s' D (st f d x) w:=by
 obtain⟨sl,gl,bl,fl⟩:=s
 unfold bQl at h
 simp only at h
 cases hb:(apG d gl&&gs.all λp=>!Nat.beq p.1 d) with
 |false=>rw[hb] at h;exact h.elim
 |true=>
  rw[hb] at h
  simp only[aQ] at hb
  have hgs:∀p∈gs,p.1≠d:=λp hp=>aFt (aX.1 hb.2 p hp)
  refine⟨_,h,hD.m,⟨λt d' ht=>?_,λt g d' ht=>?_⟩,hD.l⟩
  ·simp only[gK] at ht
   cases he:Nat.beq d t with
   |true=>rw[he] at ht;injection ht with ht;subst ht;exact .c (Rc.u _)
   |false=>
    rw[he] at ht
    rw[qP _ _ _ _ (gU (pA he))]
    exact hD.f.sl t d' ht
  simp only[zQ] at ht
  cases he:Nat.beq d t with
  |true=>
   rw[he] at ht
   injection ht with ht
   injection ht with e1 e2
   subst e1 e2
   have:=aM he
   subst this
   rw[aQt hgs,aIv]
   exact⟨hx,hu⟩
  |false=>
   rw[he] at ht
   obtain⟨h1,h2⟩:=aQs hb.1 ht
   rw[aQt h2,qP _ _ _ _ h1]
   exact hD.f.gl t g d' ht
inductive Stp (P:Program) (N:Nat) (f:Nat->Value) (o:Oper) (w:World) (C:(Nat->Value)->World->Prop):Prop
 |val {v:Value} {w':World} {d:Nat} (hd:o.dst=some d) (hn:d<N) (hr:(execOp (ev f) o).run P w= .ok (.value v) w') (h:C (st f d v) w')
 |skip {w':World} (hd:o.dst=none) (hr:∃r,(execOp (ev f) o).run P w= .ok r w'/\(r= .skip\/∃v,r= .value v)) (h:C f w')
 |call {q:FuncId} {args:Array Value} {d:Nat} {Post:Value->World->Prop} (hd:o.dst=some d) (hn:d<N) (hr:(execOp (ev f) o).run P w= .ok (.enter q args) w)
  (hc:Calls P q args w λe w'=>∃v,e= .returned v/\Post v w') (h:∀v w',Post v w'->C (st f d v) w')
theorem aTf {l:List Operand} {kk:List DV->Prop} (h:bAp s l kk) (hF:Fr s D w f):∃al,kk al/\HL D s.bl.length w al (l.map (ev f)):=by
 induction l generalizing kk with
 |nil=>exact⟨[],h,U1⟩
 |cons x l ih=>
  unfold bAp at h
  split at h
  ·next d hx=>
   obtain⟨al,h1,h2⟩:=ih h
   exact⟨_,h1,bS hF eC hx,h2⟩
  exact h.elim
theorem HL.ptrs {n:Nat}:∀{l:List (Nat×Nat)} {r:List DV} {vr:List Value},(∀p∈l,p.1<n/\(D p.1).1≠none)->HL D n w r vr->HL D n w (Go.Vy.ptrs l r) (l.map (ptr D)++vr)
 |[],r,vr,_,h=>h
 |(i,o)::l,r,vr,hl,h=>by
  refine⟨?_,HL.ptrs (λp hp=>hl p (.tail _ hp)) h⟩
  obtain⟨h1,h2⟩:=hl _ (.head _)
  cases hb:(D i).1 with
  |none=>exact U4 hb h2
  |some b=>exact .c ⟨h1,b,hb,by simp[ptr,hb]⟩
theorem HL.append {n:Nat}:∀{l l2:List DV} {m m2:List Value},HL D n w l m->HL D n w l2 m2->HL D n w (l++l2) (m++m2)
 |[],l2,[],m2,_,h=>h
 |[],_,_::_,_,h,_=>h.elim
 |_::_,_,[],_,h,_=>h.elim
 |d::l,l2,x::m,m2,h,h2=>⟨h.1,HL.append h.2 h2⟩
include hT in
theorem bQm {o:Oper} {K:SS->Prop} (h:exU P T nb N only o s K) (hD:Dn ρ0 w0 nb s D f w):Stp P N f o w λf' w'=>∃s' ρ',K s'/\Dn ρ0 w0 nb s' ρ' f' w'/\(only=true->Ext w w'):=by
 have hv:∀{ex:Bool} {d:Nat},o.dst=some d->d<N->(only=true->ex=true)->Hv ex P f o ρ0 w0 nb w (λs' v=>aHj s' d v K)->Stp P N f o w λf' w'=>∃s' ρ',K s'/\Dn ρ0 w0 nb s' ρ' f' w'/\(only=true->Ext w w'):=λ{ex d} hd hn hex hh=>by
  obtain⟨s',dv,ρ',v,w',h1,h2,h3,h4,h5⟩:=hh
  obtain⟨s2,h6,h7⟩:=h3.put h1 h4
  exact .val hd hn h2 ⟨s2,ρ',h6,h7,λho=>h5 (hex ho)⟩
 obtain⟨dst,op,ty,pos,aft,gd⟩:=o
 unfold exU at h
 cases hc:calm ⟨dst,op,ty,pos,aft,gd⟩ with
 |true=>
  rw[hc] at h
  simp only[cond_true] at h
  cases dst with
  |none=>exact h.elim
  |some d=>
   simp only at h
   cases hn:Nat.ble (d+1) N with
   |false=>rw[hn] at h;exact h.elim
   |true=>
    rw[hn] at h
    simp only[cond_true] at h
    obtain⟨dv,h1,h2⟩:=bAq (P:=P) (o:=⟨some d,op,ty,pos,aft,gd⟩) (pg:=none) hT h hD (λ_=>trivial)
    obtain⟨v,h3,h4⟩:=h2 eC
    obtain⟨s',h5,h6⟩:=hD.put h1 h3
    exact .val rfl (bT hn) (h4 w λ_=>Ext.refl w) ⟨s',D,h5,h6,λ_=>Ext.refl w⟩
 |false=>
  rw[hc] at h
  simp only[cond_false] at h
  split at h
  ·cases dst with
   |none=>
    cases honly:only with
    |true=>rw[honly] at h;exact h.elim
    |false=>
     rw[honly] at h
     obtain⟨s',ρ',w',h1,h2,h3⟩:=aWu hT h hD
     exact .skip rfl ⟨_,h2,.inl rfl⟩ ⟨s',ρ',h1,h3,λh=>by cases h⟩
   |some d=>exact h.elim
  ·cases dst with
   |none=>
    cases honly:only with
    |true=>rw[honly] at h;exact h.elim
    |false=>
     rw[honly] at h
     obtain⟨s',ρ',w',h1,h2,h3⟩:=bAk hT h hD
     exact .skip rfl ⟨_,h2,.inl rfl⟩ ⟨s',ρ',h1,h3,λh=>by cases h⟩
   |some d=>exact h.elim
  ·cases dst with
   |none=>
    cases honly:only with
    |true=>rw[honly] at h;exact h.elim
    |false=>
     rw[honly] at h
     obtain⟨s',ρ',w',u,h1,h2,h3⟩:=bAl hT h hD
     exact .skip rfl ⟨_,h2,.inr ⟨u,U⟩⟩ ⟨s',ρ',h1,h3,λh=>by cases h⟩
   |some d=>exact h.elim
  cases dst with
  |none=>exact h.elim
  |some d=>
   have hd:(some d:Option Tmp)=some d:=rfl
   simp only at h
   cases hn:Nat.ble (d+1) N with
   |false=>rw[hn] at h;exact h.elim
   |true=>
    rw[hn] at h
    have hn':=bT hn
    simp only[cond_true] at h
    unfold H1 at h
    split at h
    ·exact hv hd hn' (λ_=>U) (aWt hT h hD)
    ·exact hv hd hn' (λ_=>U) (bIf h hD)
    ·next t n ps _ _=>
     have:=bIg (P:=P) (dst:=some d) (ty:=ty) (pos:=pos) (aft:=aft) (gd:=gd) hT h hD
     rw[fV] at this
     exact hv hd hn' (λ_=>U) this
    ·exact hv hd hn' (λ_=>U) (aZs hT h hD)
    ·next c _ _ _=>
     obtain⟨callee,⟨args⟩,⟨tys⟩⟩:=c
     simp only at h
     split at h
     ·next x y t t' _ _ _=>
      cases hb:(Nat.beq t t'&&!only) with
      |false=>rw[hb] at h;exact h.elim
      |true=>
       rw[hb] at h
       simp only[aQ,dP] at hb
       have:=aM hb.1
       subst this
       exact hv (ex:=false) hd hn' (λho=>by rw[hb.2] at ho;cases ho) (bIi hT h hD)
     ·next x _ _ _=>
      unfold bMv at h
      split at h
      ·next q fi ca hx=>
       obtain⟨h1,h2⟩:=(bS hD.f eC hx).inv_c
       have key:∀al,aFs nb [] al s (λal' s'=>callK P only s' q al' (λs' v=>aHj s' d v K))->HL D s.bl.length w al (fi.map (ptr D)++(args.map (ev f)++ca.map (ptr D)))->Stp P N f ⟨some d,.call ⟨.value x,args.toArray,tys.toArray⟩,ty,pos,aft,gd⟩ w λf' w'=>∃s' ρ',K s'/\Dn ρ0 w0 nb s' ρ' f' w'/\(only=true->Ext w w'):=λal hk hal=>by
        obtain⟨al2,s2,ρ2,hk2,hD2,hal2,_⟩:=aEd hk hD hal (show HL D s.bl.length w [] [] from trivial)
        obtain⟨hent,hcalls⟩:=bIj hk2 hD2 hal2
        refine .call hd hn' (q:=q) (args:=(fi.map (ptr D)++(args.map (ev f)++ca.map (ptr D))).toArray) ?_ hcalls λv w' hp=>?_
        ·unfold Ent at hent
         simp[execOp,resolve,h2,Deferred.ofValue,invoke,hent]
        obtain⟨s',dv,ρ',k1,k2,k3,k4⟩:=hp
        obtain⟨s2,k5,k6⟩:=k2.put k1 k3
        exact⟨s2,ρ',k5,k6,k4⟩
       split at h
       ·obtain⟨al,a1,a2⟩:=aTf h hD.f
        exact key al a1 (by simpa using a2)
       obtain⟨al,⟨al',rfl,a1⟩,a2⟩:=aTf h hD.f
       have hca:HL D s.bl.length w (Go.Vy.ptrs ca []) (ca.map (ptr D)++[]):=HL.ptrs (λp hp=>h1 p (dU _ hp)) (show HL D s.bl.length w [] [] from trivial)
       rw[dW] at hca
       exact key _ a1 (HL.ptrs (λp hp=>h1 p (cX _ hp)) (a2.append hca))
      exact h.elim
     exact h.elim
    ·exact hv hd hn' (λ_=>U) (bIq h hD)
    ·exact hv hd hn' (λ_=>U) (bAm hT h hD)
    ·cases honly:only with
     |true=>rw[honly] at h;exact h.elim
     |false=>
      subst honly
      exact hv (ex:=false) hd hn' (λho=>by cases ho) (bAn h hD)
    ·exact hv hd hn' (λ_=>U) (bAo h hD)
    exact h.elim
end
def gOf (s:SS) (t:Nat):Option (Gs×DV):=match zQ s.gl t with
 |some e=>some e
 |none=>match gK s.sl t with
  |some d=>some ([],d)
  |none=>none
def go1 (s:SS) (t:Nat) (want:Bool) (k:Prop->Prop):Prop:=match gOf s t with
 |some (_,.c (.b p _))=>bif want then k p else k (¬p)
 |some (_,.c (.v (.bool b)))=>k (b=want)
 |_=>False
def gpK (s:SS):Gs->(Prop->Prop)->Prop
 |[],k=>k True
 |(t,want)::r,k=>go1 s t want λp=>match r with
  |[]=>k p
  |_=>gpK s r λq=>k (p/\q)
def wY (N:Nat) (o:Oper) (s:SS) (K:SS->Prop):Prop:=match o.dst with
 |some d=>bif Nat.ble (d+1) N then aHj s d (.t []) K else False
 |none=>bif calm o then False else K s
def aFu (t:Nat) (b:Bool):List (Nat×Gs×DV)->List (Nat×DV)->List (Nat×Gs×DV)->(List (Nat×DV)->List (Nat×Gs×DV)->Prop)->Prop
 |[],sl,g2,k=>k sl g2
 |(d,gs,v)::r,sl,g2,k=>bif apG d r then (match gs with
  |[(t',b')]=>bif Nat.beq t' t then (bif b'==b then aFu t b r ((d,v)::sl) g2 k else aFu t b r ((d,.t [])::sl) g2 k) else aFu t b r sl g2 k
  |[p,(t',b')]=>bif Nat.beq t' t then (bif b'==b then aFu t b r sl ((d,[p],v)::g2) k else aFu t b r ((d,.t [])::sl) g2 k) else aFu t b r sl g2 k
  |_=>aFu t b r sl g2 k) else False
def aJs (t:Nat) (b:Bool) (s:SS) (k:SS->Prop):Prop:=match s with
 |⟨sl,gl,bl,fl⟩=>aFu t b gl ((t,.c (.v (.bool b)))::sl) [] λsl' gl'=>k ⟨sl',gl',bl,fl⟩
def V1t (P:Program) (T:TT) (nb N:Nat) (only:Bool) (o:Oper) (t:Nat) (want:Bool) (s:SS) (K:SS->Prop):Prop:=match gOf s t with
 |some ([],.c (.b p _))=>(p->aJs t true s λs'=>bif want then exU P T nb N only o s' K else wY N o s' K)/\(¬p->aJs t false s λs'=>bif want then wY N o s' K else exU P T nb N only o s' K)
 |_=>False
def V1 (P:Program) (T:TT) (nb N:Nat) (l0:List Oper) (only:Bool) (o:Oper) (s:SS) (K:SS->Prop):Prop:=match o.guard with
 |none=>exU P T nb N only o s K
 |some (j,want)=>match l0[j]? with
  |none=>False
  |some oj=>match oj.dst with
   |none=>False
   |some t=>match gOf s t with
    |some (gs,.c (.v (.bool b)))=>bif gs.isEmpty then (bif b==want then exU P T nb N only o s K else wY N o s K) else (match gs with
     |[(t1,w1)]=>(match gOf s t1 with
      |some ([],.c (.b p1 _))=>(p1->aJs t1 true s λs'=>bif w1&&(b==want) then exU P T nb N only o s' K else wY N o s' K)/\(¬p1->aJs t1 false s λs'=>bif !w1&&(b==want) then exU P T nb N only o s' K else wY N o s' K)
      |_=>False)
     |_=>False)
    |some (gs,.t [])=>bif gs.isEmpty then wY N o s K else False
    |some (gs,.c (.b p _))=>bif calm o then (match o.dst with
     |some d=>bif Nat.ble (d+1) N then gpK s ((t,want)::gs) λq=>E1 T (some q) ((t,want)::gs) s o.op λv=>bQl s d ((t,want)::gs) v K else False
     |none=>False)
     else match gs with
      |[]=>(p->aJs t true s λs'=>bif want then exU P T nb N only o s' K else wY N o s' K)/\(¬p->aJs t false s λs'=>bif want then wY N o s' K else exU P T nb N only o s' K)
      |[(t1,w1)]=>(match gOf s t1 with
       |some ([],.c (.b p1 _))=>(p1->aJs t1 true s λs'=>bif w1 then V1t P T nb N only o t want s' K else wY N o s' K)/\(¬p1->aJs t1 false s λs'=>bif w1 then wY N o s' K else V1t P T nb N only o t want s' K)
       |_=>False)
      |_=>False
    |_=>False
def VL (P:Program) (T:TT) (nb N:Nat) (l0:List Oper):List Oper->(SS->Prop)->SS->Prop
 |[],K,s=>(match s with
  |⟨sl,_,bl,fl⟩=>K ⟨sl,[],bl,fl⟩)
 |o::l,K,s=>V1 P T nb N l0 false o s λs'=>VL P T nb N l0 l K s'
def VD (P:Program) (T:TT) (nb N:Nat) (l0:List Oper):List (Nat×Bool)->(SS->Prop)->SS->Prop
 |[],K,s=>(match s with
  |⟨sl,_,bl,fl⟩=>K ⟨sl,[],bl,fl⟩)
 |(i,last)::l,K,s=>match l0[i]? with
  |some o=>V1 P T nb N l0 (!last) o s λs'=>VD P T nb N l0 l K s'
  |none=>False
def aFv (ops:Array Oper) (r:List (Nat×Bool)):Bool:=r.all λe=>match ops[e.1]? with
 |some o=>bif calm o then !xH o else e.2
 |none=>false
def aBh (ops:Array Oper):Array Bool->List (Nat×Bool)->Bool
 |listed,[]=>(Region.ready .any ops listed).isEmpty
 |listed,(i,last)::r=>(match ops[i]? with
  |some o=>bif calm o then xL ops listed i else ((Region.ready .any ops listed==[i])&&(!last||(aEz ops i&&aFv ops r)))
  |none=>false)&&aBh ops (listed.setIfInBounds i true) r
section
variable {P:Program} {T:TT} (hT:Good P T) {w0 w:World} {nb N:Nat} {s:SS} {D ρ0:Pl} {f:Nat->Value} {only:Bool} {ops:Array Oper} {o:Oper} {K:SS->Prop}
def Wt (N:Nat) (ops:Array Oper) (f:Nat->Value) (o:Oper) (b:Bool):Prop:=∀dl a,Fm dl N f a->Region.wanted o (yielded ops a.tmps)=b
abbrev Cn (ρ0:Pl) (w0:World) (nb:Nat) (only:Bool) (w:World) (K:SS->Prop) (f':Nat->Value) (w':World):Prop:=∃s' ρ',K s'/\Dn ρ0 w0 nb s' ρ' f' w'/\(only=true->Ext w w')
inductive Res (P:Program) (N:Nat) (ops:Array Oper) (f:Nat->Value) (o:Oper) (w:World) (C:(Nat->Value)->World->Prop):Prop
 |done (hc:calm o=false) (hw:Wt N ops f o true) (h:Stp P N f o w C)
 |no (hw:Wt N ops f o false) (d:Nat) (hd:o.dst=some d) (hn:d<N) (h:C (st f d undef) w)
 |no0 (hc:calm o=false) (hw:Wt N ops f o false) (hd:o.dst=none) (h:C f w)
 |calm (hc:calm o=true) (hw:Wt N ops f o true) (d:Nat) (v:Value) (hd:o.dst=some d) (hn:d<N) (hr:∀u,(xH o=true->Ext w u)->(execOp (ev f) o).run P u= .ok (.value v) u) (h:C (st f d v) w)
theorem vU {t:Nat} {gs:Gs} {d:DV} (h:gOf s t=some (gs,d)) (hF:Fr s D w f):(sat f gs->Hd D s.bl.length w d (f t))/\(¬sat f gs->f t=undef):=by
 unfold gOf at h
 split at h
 ·next e he=>injection h with h;subst h;exact hF.gl t gs d he
 split at h
 ·next d' hd=>injection h with h;injection h with h1 h2;subst h1 h2;exact⟨λ_=>hF.sl t _ hd,λhn=>U4 eC hn⟩
 cases h
theorem aOb {b:Bool}:(undef:Value)≠.bool b:=λh=>by cases h
theorem bQn {t:Nat} {want:Bool} {k:Prop->Prop} (h:go1 s t want k) (hF:Fr s D w f):∃q,k q/\(f t= .bool want->q):=by
 unfold go1 at h
 split at h
 ·next gs p hp he=>
  have hh:=vU he hF
  have key:f t= .bool want->decide p=want:=λhf=>by
   by_cases hs:sat f gs
   ·have:=(hh.1 hs).inv_c.inv_b
    rw[hf] at this
    injection this with this
    exact this.symm
   rw[hh.2 hs] at hf;exact U4 hf aOb
  cases want with
  |true=>exact⟨p,h,λhf=>of_decide_eq_true (key hf)⟩
  |false=>exact⟨¬p,h,λhf=>of_decide_eq_false (key hf)⟩
 ·next gs b he=>
  have hh:=vU he hF
  refine⟨_,h,λhf=>?_⟩
  by_cases hs:sat f gs
  ·have:=(hh.1 hs).inv_c.inv_v
   rw[hf] at this
   injection this with this
   exact this.symm
  rw[hh.2 hs] at hf;exact U4 hf aOb
 exact h.elim
theorem bAr:∀{gs:Gs} {k:Prop->Prop},gpK s gs k->Fr s D w f->∃q,k q/\(sat f gs->q)
 |[],k,h,_=>⟨True,h,λ_=>trivial⟩
 |(t,want)::r,k,h,hF=>by
  obtain⟨q,h1,h2⟩:=bQn (show go1 s t want _ from h) hF
  have hr:sat f ((t,want)::r)->sat f r:=λhs p hp=>hs p (.tail _ hp)
  split at h1
  ·exact⟨q,h1,λhs=>h2 (hs _ (.head _))⟩
  obtain⟨q2,h3,h4⟩:=bAr h1 hF
  exact⟨_,h3,λhs=>⟨h2 (hs _ (.head _)),h4 (hr hs)⟩⟩
theorem bIr (hg:o.guard=none):Wt N ops f o true:=λa _=>by simp[Region.wanted,hg]
theorem zE {j t:Nat} {want b:Bool} (hg:o.guard=some (j,want)) (hj:(ops[j]?).bind (·.dst)=some t) (hf:f t= .bool b):Wt N ops f o (b==want):=λdl a ha=>aHp ha hg hj hf
theorem aTg {j t:Nat} {want:Bool} (hg:o.guard=some (j,want)) (hj:(ops[j]?).bind (·.dst)=some t) (hf:f t=undef):Wt N ops f o false:=λdl a ha=>aMv ha hg hj (.inr hf)
theorem bAs {D:Pl} {n:Nat} {w:World} {x:Value} (h:x=undef):Hd D n w (.t []) x:=by subst h;exact .t (l:=[]) (vl:=[]) U λi d u h=>by cases h
theorem tQ {t:Nat} {b:Bool} (hf:f t= .bool b) {n:Nat}:∀{gl:List (Nat×Gs×DV)} {sl:List (Nat×DV)} {g2:List (Nat×Gs×DV)} {k:List (Nat×DV)->List (Nat×Gs×DV)->Prop},aFu t b gl sl g2 k->(∀t d,gK sl t=some d->Hd D n w d (f t))->(∀t gs d,zQ gl t=some (gs,d)->(sat f gs->Hd D n w d (f t))/\(¬sat f gs->f t=undef))->(∀t gs d,zQ g2 t=some (gs,d)->(sat f gs->Hd D n w d (f t))/\(¬sat f gs->f t=undef))->
 ∃sl' gl',k sl' gl'/\(∀t d,gK sl' t=some d->Hd D n w d (f t))/\∀t gs d,zQ gl' t=some (gs,d)->(sat f gs->Hd D n w d (f t))/\(¬sat f gs->f t=undef)
 |[],sl,g2,k,h,hs,_,hg2=>⟨sl,g2,h,hs,hg2⟩
 |(d,gs,v)::r,sl,g2,k,h,hs,hg,hg2=>by
  have hrest:apG d r=true->∀t gs d',zQ r t=some (gs,d')->(sat f gs->Hd D n w d' (f t))/\(¬sat f gs->f t=undef):=λhb t2 gs d' h2=>by
   have hne:=(aQs hb h2).1
   refine hg t2 gs d' ?_
   unfold zQ
   cases hb2:Nat.beq d t2 with
   |true=>exact U4 (aM hb2).symm hne
   |false=>exact h2
  have hhd:zQ ((d,gs,v)::r) d=some (gs,v):=by unfold zQ;rw[gV];rfl
  have put:∀{x:DV},Hd D n w x (f d)->∀t d',gK ((d,x)::sl) t=some d'->Hd D n w d' (f t):=λ{x} hx t2 d' h2=>by
   unfold gK at h2
   cases hb2:Nat.beq d t2 with
   |true=>
    rw[hb2] at h2
    injection h2 with h2
    subst h2
    have:=aM hb2
    subst this
    exact hx
   |false=>rw[hb2] at h2;exact hs t2 d' h2
  simp only[aFu] at h
  cases hap:apG d r with
  |false=>rw[hap] at h;exact h.elim
  |true=>
  rw[hap] at h
  simp only[cond_true] at h
  split at h
  ·next t' b'=>
   cases hb:Nat.beq t' t with
   |false=>rw[hb] at h;exact tQ hf h hs (hrest hap) hg2
   |true=>
    rw[hb] at h
    have e1:=aM hb
    subst e1
    simp only[cond_true] at h
    cases hbb:(b'==b) with
    |false=>
     rw[hbb] at h
     refine tQ hf h (put (bAs ((hg d _ v hhd).2 λhs=>?_))) (hrest hap) hg2
     have:=hs _ (.head _)
     rw[hf] at this
     injection this with this
     rw[this] at hbb
     simp at hbb
    |true=>
     rw[hbb] at h
     have e2:=eq_of_beq hbb
     subst e2
     exact tQ hf h (put ((hg d _ v hhd).1 λp hp=>by rw[aE.1 hp];exact hf)) (hrest hap) hg2
  ·next p t' b'=>
   cases hb:Nat.beq t' t with
   |false=>rw[hb] at h;exact tQ hf h hs (hrest hap) hg2
   |true=>
    rw[hb] at h
    have e1:=aM hb
    subst e1
    simp only[cond_true] at h
    cases hbb:(b'==b) with
    |false=>
     rw[hbb] at h
     refine tQ hf h (put (bAs ((hg d _ v hhd).2 λhs=>?_))) (hrest hap) hg2
     have:=hs (t',b') (.tail _ (.head _))
     rw[hf] at this
     injection this with this
     rw[this] at hbb
     simp at hbb
    |true=>
     rw[hbb] at h
     have e2:=eq_of_beq hbb
     subst e2
     have hiff:sat f [p]↔sat f [p,(t',b')]:=⟨λhs q hq=>by
      rcases bW.1 hq with rfl|hq
      ·exact hs _ (.head _)
      rw[aE.1 hq];exact hf,λhs q hq=>by rw[aE.1 hq];exact hs _ (.head _)⟩
     refine tQ hf h hs (hrest hap) λt2 gs d' h2=>?_
     unfold zQ at h2
     cases hb2:Nat.beq d t2 with
     |true=>
      rw[hb2] at h2
      injection h2 with h2
      injection h2 with h3 h4
      subst h3 h4
      have:=aM hb2
      subst this
      obtain⟨a1,a2⟩:=hg d _ v hhd
      exact⟨λhs=>a1 (hiff.1 hs),λhs=>a2 λh=>hs (hiff.2 h)⟩
     |false=>rw[hb2] at h2;exact hg2 t2 gs d' h2
  exact tQ hf h hs (hrest hap) hg2
theorem Dn.lit {t:Nat} {b:Bool} {k:SS->Prop} (h:aJs t b s k) (hD:Dn ρ0 w0 nb s D f w) (hf:f t= .bool b):∃s',k s'/\Dn ρ0 w0 nb s' D f w:=by
 obtain⟨sl,gl,bl,fl⟩:=s
 obtain⟨sl',gl',h1,h2,h3⟩:=tQ (D:=D) (w:=w) (n:=bl.length) hf (show aFu t b gl _ _ _ from h) (λt' d ht=>by
  simp only[gK] at ht
  cases he:Nat.beq t t' with
  |true=>
   rw[he] at ht
   injection ht with ht
   subst ht
   have:=aM he
   subst this
   rw[hf]
   exact .c (Rc.v _)
  |false=>rw[he] at ht;exact hD.f.sl t' d ht) (λt gs d ht=>hD.f.gl t gs d ht) (λt gs d ht=>by cases ht)
 exact⟨_,h1,hD.m,⟨h2,h3⟩,hD.l⟩
theorem mR (h:wY N o s K) (hw:Wt N ops f o false) (hD:Dn ρ0 w0 nb s D f w):Res P N ops f o w (Cn ρ0 w0 nb only w K):=by
 unfold wY at h
 split at h
 ·next d hd=>
  cases hn:Nat.ble (d+1) N with
  |false=>rw[hn] at h;exact h.elim
  |true=>
   rw[hn] at h
   obtain⟨s',h1,h2⟩:=hD.put (x:=undef) h (bAs U)
   exact .no hw d hd (bT hn) ⟨s',D,h1,h2,λ_=>Ext.refl w⟩
 next hd=>
 cases hc:calm o with
 |true=>rw[hc] at h;exact h.elim
 |false=>rw[hc] at h;exact .no0 hc hw hd ⟨s,D,h,hD,λ_=>Ext.refl w⟩
include hT in
theorem tR (h:exU P T nb N only o s K) (hw:Wt N ops f o true) (hD:Dn ρ0 w0 nb s D f w):Res P N ops f o w (Cn ρ0 w0 nb only w K):=by
 cases hc:calm o with
 |false=>exact .done hc hw (bQm hT h hD)
 |true=>
  unfold exU at h
  rw[hc] at h
  simp only[cond_true] at h
  split at h
  ·next d hd=>
   cases hn:Nat.ble (d+1) N with
   |false=>rw[hn] at h;exact h.elim
   |true=>
    rw[hn] at h
    simp only[cond_true] at h
    obtain⟨dv,h1,h2⟩:=bAq (P:=P) (o:=o) (pg:=none) hT h hD (λ_=>trivial)
    obtain⟨v,h3,h4⟩:=h2 eC
    obtain⟨s',h5,h6⟩:=hD.put h1 h3
    exact .calm hc hw d v hd (bT hn) h4 ⟨s',D,h5,h6,λ_=>Ext.refl w⟩
  exact h.elim
include hT in
theorem bAt {j t:Nat} {want:Bool} (hg:o.guard=some (j,want)) (hj:(ops[j]?).bind (·.dst)=some t) (hc:calm o=false) (h:V1t P T nb N only o t want s K) (hD:Dn ρ0 w0 nb s D f w):Res P N ops f o w (Cn ρ0 w0 nb only w K):=by
 unfold V1t at h
 split at h
 ·next p hp hgo=>
  have hf:f t= .bool (decide p):=((vU hgo hD.f).1 eC).inv_c.inv_b
  have hw:=zE (N:=N) hg hj hf
  by_cases hpp:p
  ·rw[decide_eq_true hpp] at hf hw
   obtain⟨s',h',hD'⟩:=hD.lit (h.1 hpp) hf
   cases want with
   |true=>exact tR hT h' hw hD'
   |false=>exact mR h' hw hD'
  rw[decide_eq_false hpp] at hf hw
  obtain⟨s',h',hD'⟩:=hD.lit (h.2 hpp) hf
  cases want with
  |true=>exact mR h' hw hD'
  |false=>exact tR hT h' hw hD'
 exact h.elim
include hT in
theorem aBi (h:V1 P T nb N ops.toList only o s K) (hD:Dn ρ0 w0 nb s D f w):Res P N ops f o w (Cn ρ0 w0 nb only w K):=by
 unfold V1 at h
 split at h
 ·next hg=>exact tR hT h (bIr hg) hD
 next j want hg=>
 split at h
 ·exact h.elim
 next oj hoj=>
 split at h
 ·exact h.elim
 next t ht=>
 have hj:(ops[j]?).bind (·.dst)=some t:=by
  rw[<-eM,hoj]
  exact ht
 split at h
 ·next gs b hgo=>
  cases hge:gs.isEmpty with
  |false=>
   rw[hge] at h
   simp only[cond_false] at h
   split at h
   ·next t1 w1=>
    split at h
    ·next p1 hp1 hgo1=>
     have hgk:=vU hgo hD.f
     have hf1:f t1= .bool (decide p1):=((vU hgo1 hD.f).1 eC).inv_c.inv_b
     have out:∀b,f t1= .bool b->b≠w1->Wt N ops f o false:=λb hf hne=>by
      refine aTg hg hj (hgk.2 λhs=>hne ?_)
      have:=hs _ (.head _)
      rw[hf] at this
      injection this
     have inn:f t1= .bool w1->Wt N ops f o (b==want):=λhf=>zE hg hj ((hgk.1 (uT hf eC)).inv_c.inv_v)
     by_cases hpp:p1
     ·rw[decide_eq_true hpp] at hf1
      obtain⟨s',h',hD'⟩:=hD.lit (h.1 hpp) hf1
      cases w1 with
      |true=>
       have hw:=inn hf1
       cases hbw:(b==want) with
       |true=>rw[hbw] at h' hw;exact tR hT h' hw hD'
       |false=>rw[hbw] at h' hw;exact mR h' hw hD'
      |false=>exact mR h' (out _ hf1 dC) hD'
     rw[decide_eq_false hpp] at hf1
     obtain⟨s',h',hD'⟩:=hD.lit (h.2 hpp) hf1
     cases w1 with
     |true=>exact mR h' (out _ hf1 dC) hD'
     |false=>
      have hw:=inn hf1
      cases hbw:(b==want) with
      |true=>rw[hbw] at h' hw;exact tR hT h' hw hD'
      |false=>rw[hbw] at h' hw;exact mR h' hw hD'
    exact h.elim
   exact h.elim
  |true=>
   rw[hge] at h
   simp only[cond_true] at h
   have hgs:gs=[]:=by simpa using hge
   subst hgs
   have hf:f t= .bool b:=((vU hgo hD.f).1 eC).inv_c.inv_v
   have hw:=zE (N:=N) hg hj hf
   cases hbw:(b==want) with
   |true=>
    rw[hbw] at h hw
    exact tR hT h hw hD
   |false=>
    rw[hbw] at h hw
    exact mR h hw hD
 ·next gs hgo=>
  cases hge:gs.isEmpty with
  |false=>rw[hge] at h;exact h.elim
  |true=>
   rw[hge] at h
   simp only[cond_true] at h
   have hgs:gs=[]:=by simpa using hge
   subst hgs
   have hf:f t=undef:=by
    have:=(vU hgo hD.f).1 eC
    generalize f t=x at this
    cases this with
    |t h _=>rw[bQ h.symm];rfl
   exact mR h (aTg hg hj hf) hD
 ·next gs p hp hgo=>
  have hgk:=vU hgo hD.f
  cases hc:calm o with
  |true=>
   rw[hc] at h
   simp only[cond_true] at h
   split at h
   ·next d hd=>
    cases hn:Nat.ble (d+1) N with
    |false=>rw[hn] at h;exact h.elim
    |true=>
     rw[hn] at h
     simp only[cond_true] at h
     obtain⟨q,h1,hq⟩:=bAr h hD.f
     obtain⟨dv,h2,h3⟩:=bAq (P:=P) (o:=o) (pg:=some q) hT h1 hD hq
     have hn':=bT hn
     by_cases hs:sat f ((t,want)::gs)
     ·obtain⟨v,h4,h5⟩:=h3 hs
      obtain⟨s',h6,h7⟩:=hD.putg h2 (λ_=>h4) (λhn=>U4 hs hn)
      have hw:=zE (N:=N) hg hj (hs _ (.head _))
      rw[show(want==want)=true by cases want<;>rfl] at hw
      exact .calm hc hw d v hd hn' h5 ⟨s',D,h6,h7,λ_=>Ext.refl w⟩
     obtain⟨s',h6,h7⟩:=hD.putg (x:=undef) h2 (λh=>U4 h hs) (λ_=>U)
     have hw:Wt N ops f o false:=by
      by_cases hs0:sat f gs
      ·have hf:f t= .bool (decide p):=(hgk.1 hs0).inv_c.inv_b
       have hw:=zE (N:=N) hg hj hf
       have:(decide p==want)=false:=by
        cases hdw:(decide p==want) with
        |false=>rfl
        |true=>
         have:=eq_of_beq hdw
         rw[this] at hf
         exact U4 (uT hf hs0) hs
       rw[this] at hw
       exact hw
      exact aTg hg hj (hgk.2 hs0)
     exact .no hw d hd hn' ⟨s',D,h6,h7,λ_=>Ext.refl w⟩
   exact h.elim
  |false=>
   rw[hc] at h
   simp only[cond_false] at h
   split at h
   ·have hf:f t= .bool (decide p):=(hgk.1 eC).inv_c.inv_b
    have hw:=zE (N:=N) hg hj hf
    by_cases hpp:p
    ·rw[decide_eq_true hpp] at hf hw
     obtain⟨s',h',hD'⟩:=hD.lit (h.1 hpp) hf
     cases want with
     |true=>exact tR hT h' hw hD'
     |false=>exact mR h' hw hD'
    rw[decide_eq_false hpp] at hf hw
    obtain⟨s',h',hD'⟩:=hD.lit (h.2 hpp) hf
    cases want with
    |true=>exact mR h' hw hD'
    |false=>exact tR hT h' hw hD'
   ·next t1 w1=>
    split at h
    ·next p1 hp1 hgo1=>
     have hf1:f t1= .bool (decide p1):=((vU hgo1 hD.f).1 eC).inv_c.inv_b
     have out:∀b,f t1= .bool b->b≠w1->Wt N ops f o false:=λb hf hne=>by
      refine aTg hg hj (hgk.2 λhs=>hne ?_)
      have:=hs _ (.head _)
      rw[hf] at this
      injection this
     by_cases hpp:p1
     ·rw[decide_eq_true hpp] at hf1
      obtain⟨s',h',hD'⟩:=hD.lit (h.1 hpp) hf1
      cases w1 with
      |true=>exact bAt hT hg hj hc h' hD'
      |false=>exact mR h' (out _ hf1 dC) hD'
     rw[decide_eq_false hpp] at hf1
     obtain⟨s',h',hD'⟩:=hD.lit (h.2 hpp) hf1
     cases w1 with
     |true=>exact mR h' (out _ hf1 dC) hD'
     |false=>exact bAt hT hg hj hc h' hD'
    exact h.elim
   exact h.elim
 exact h.elim
theorem RL.stp {rest:List Oper} {Q:Po} (hw:Wt N ops f o true) (h:Stp P N f o w λf' w'=>RL P N ops rest Q f' w'):RL P N ops (o::rest) Q f w:=λdl a ha=>
 wpList_step λK hK=>by
  rw[hw dl a ha]
  simp only[if_true]
  unfold Oper.wp
  cases h with
  |val hd hn hr h=>rw[ha.eval,hr];exact hK _ _ (h _ _ (by rw[hd];exact ha.put hn _))
  |skip hd hr h=>obtain⟨r,hr,hrr⟩:=hr;rw[ha.eval,hr];rcases hrr with rfl|⟨v,rfl⟩<;>exact hK _ _ (h _ _ (by rw[hd];exact ha))
  |call hd hn hr hc h=>
   rw[ha.eval,hr]
   refine hc.mono λe w1 ⟨u,he,hp⟩=>?_
   subst he
   exact hK _ _ (h u w1 hp _ _ (by rw[hd];exact ha.put hn u))
theorem RL.not {rest:List Oper} {Q:Po} {d:Nat} (hw:Wt N ops f o false) (hd:o.dst=some d) (hn:d<N) (h:RL P N ops rest Q (st f d undef) w):RL P N ops (o::rest) Q f w:=λdl a ha=>
 wpList_step λK hK=>by
  rw[hw dl a ha]
  simp only[jB,if_false]
  exact hK _ _ (h _ _ (by rw[hd];exact ha.put hn undef))
theorem RL.not0 {rest:List Oper} {Q:Po} (hw:Wt N ops f o false) (hd:o.dst=none) (h:RL P N ops rest Q f w):RL P N ops (o::rest) Q f w:=λdl a ha=>
 wpList_step λK hK=>by
  rw[hw dl a ha]
  simp only[jB,if_false]
  exact hK _ _ (h _ _ (by rw[hd];exact ha))
include hT in
theorem aBj {Q:Po} (hQ:∀s D f w,K s->Dn ρ0 w0 nb s D f w->Q.nrm f w):∀{l:List Oper} {s:SS} {D:Pl} {f:Nat->Value} {w:World},VL P T nb N ops.toList l K s->Dn ρ0 w0 nb s D f w->RL P N ops l Q f w
 |[],s,D,f,w,h,hD=>by
  obtain⟨sl,gl,bl,fl⟩:=s
  refine RL.nil (hQ _ D f w h ⟨hD.m,⟨hD.f.sl,λt gs d ht=>?_⟩,hD.l⟩)
  cases ht
 |o::l,s,D,f,w,h,hD=>by
  cases aBi hT (show V1 P T nb N ops.toList false o s _ from h) hD with
  |done hc hw hs=>
   refine RL.stp hw ?_
   cases hs with
   |val hd hn hr h=>obtain⟨s',ρ',h1,h2,_⟩:=h;exact .val hd hn hr (aBj hQ h1 h2)
   |skip hd hr h=>obtain⟨s',ρ',h1,h2,_⟩:=h;exact .skip hd hr (aBj hQ h1 h2)
   |call hd hn hr hc h=>exact .call hd hn hr hc λv w' hp=>by obtain⟨s',ρ',h1,h2,_⟩:=h v w' hp;exact aBj hQ h1 h2
  |no hw d hd hn h=>obtain⟨s',ρ',h1,h2,_⟩:=h;exact RL.not hw hd hn (aBj hQ h1 h2)
  |no0 hc hw hd h=>obtain⟨s',ρ',h1,h2,_⟩:=h;exact RL.not0 hw hd (aBj hQ h1 h2)
  |calm hc hw d v hd hn hr h=>obtain⟨s',ρ',h1,h2,_⟩:=h;exact RL.stp hw (.val hd hn (hr w λ_=>Ext.refl w) (aBj hQ h1 h2))
/-! ### whatever order -/
abbrev Sx (w:World):World->Prop:=λu=>Below w.heap.size w u
theorem RA.stp {Q:Po} {S:World->Prop} {fuel i:Nat} {listed:Array Bool} (hi:ops[i]? =some o) (hr:Region.ready .any ops listed=[i]) (hw:Wt N ops f o true)
 (h:Stp P N f o w λf' w'=>Oks ops S i w w'/\RA P N ops Q S fuel (listed.setIfInBounds i true) f' w'):RA P N ops Q S (fuel+1) listed f w:=λdl a ha=>by
 refine⟨λh0=>(by rw[hr] at h0;cases h0),λj hj=>?_⟩
 rw[hr] at hj
 have:=aE.1 hj
 subst this
 unfold wpOp
 simp only[hi,hw dl a ha,if_true]
 refine .inl ?_
 unfold Oper.wp
 cases h with
 |val hd hn hr h=>rw[ha.eval,hr];exact⟨h.1,h.2 _ _ (by rw[hd];exact ha.put hn _)⟩
 |skip hd hr h=>obtain⟨r,hr,hrr⟩:=hr;rw[ha.eval,hr];rcases hrr with rfl|⟨v,rfl⟩<;>exact⟨h.1,h.2 _ _ (by rw[hd];exact ha)⟩
 |call hd hn hr hc h=>
  rw[ha.eval,hr]
  refine hc.mono λe w1 ⟨u,he,hp⟩=>?_
  subst he
  obtain⟨h1,h2⟩:=h u w1 hp
  exact⟨h1,h2 _ _ (by rw[hd];exact ha.put hn u)⟩
theorem RA.nots {Q:Po} {S:World->Prop} {fuel i:Nat} {listed:Array Bool} {f':Nat->Value} (hi:ops[i]? =some o) (hr:Region.ready .any ops listed=[i]) (hw:Wt N ops f o false) (hf:(∃d,o.dst=some d/\d<N/\f'=st f d undef)\/(o.dst=none/\f'=f)) (hS:Oks ops S i w w)
 (h:RA P N ops Q S fuel (listed.setIfInBounds i true) f' w):RA P N ops Q S (fuel+1) listed f w:=λdl a ha=>by
 refine⟨λh0=>(by rw[hr] at h0;cases h0),λj hj=>?_⟩
 rw[hr] at hj
 have:=aE.1 hj
 subst this
 unfold wpOp
 simp only[hi,hw dl a ha,jB,if_false]
 refine⟨hS,h _ _ ?_⟩
 rcases hf with ⟨d,hd,hn,rfl⟩|⟨hd,rfl⟩
 ·rw[hd];exact ha.put hn undef
 rw[hd];exact ha
def Sn (ops:Array Oper) (order:List (Nat×Bool)) (w:World) (S:World->Prop):Prop:=(∀u,Ext w u↔S u)\/aFv ops order=true
include hT in
theorem aId {Q:Po} (hQ:∀s D f w,K s->Dn ρ0 w0 nb s D f w->Q.nrm f w):∀{order:List (Nat×Bool)} {listed:Array Bool} {fuel:Nat} {s:SS} {D:Pl} {f:Nat->Value} {w:World} {S:World->Prop},VD P T nb N ops.toList order K s->aBh ops listed order=true->order.length<=fuel->Sn ops order w S->Dn ρ0 w0 nb s D f w->RA P N ops Q S fuel listed f w
 |[],listed,fuel,s,D,f,w,S,h,hs,_,_,hD=>by
  obtain⟨sl,gl,bl,fl⟩:=s
  refine RA.done (by simpa[aBh] using hs) (hQ _ D f w h ⟨hD.m,⟨hD.f.sl,λt gs d ht=>?_⟩,hD.l⟩)
  cases ht
 |(i,last)::order,listed,0,s,D,f,w,S,h,hs,hl,_,hD=>by simp at hl
 |(i,last)::order,listed,fuel+1,s,D,f,w,S,h,hs,hl,hSn,hD=>by
  have hl':order.length<=fuel:=by simpa using hl
  simp only[aBh,aQ] at hs
  unfold VD at h
  split at h
  ·next o ho=>
   have hi:ops[i]? =some o:=by rw[<-eM];exact ho
   obtain⟨hs1,hs2⟩:=hs
   rw[hi] at hs1
   simp only at hs1
   have same:Sn ops order w S:=by
    rcases hSn with h|h
    ·exact .inl h
    simp only[aFv,List.all_cons,aQ] at h;exact .inr h.2
   have htl:aFv ops ((i,last)::order)=true->(calm o=false->last=true)/\(calm o=true->xH o=false):=λht=>by
    simp only[aFv,List.all_cons,aQ,hi] at ht
    have h1:=ht.1
    constructor
    ·intro hc;rw[hc] at h1;exact h1
    intro hc;rw[hc] at h1;simpa using h1
   cases aBi hT h hD with
   |done hc hw hst=>
    rw[hc] at hs1
    simp only[cond_false,aQ,jP,dP,beq_iff_eq] at hs1
    have cont:∀{f':Nat->Value} {w':World},Cn ρ0 w0 nb (!last) w (λs'=>VD P T nb N ops.toList order K s') f' w'->Oks ops S i w w'/\RA P N ops Q S fuel (listed.setIfInBounds i true) f' w':=λ{f' w'} hh=>by
     obtain⟨s',ρ',h1,h2,h3⟩:=hh
     cases hlast:last with
     |false=>
      have he:Ext w w':=h3 (by rw[hlast];rfl)
      rcases hSn with h|h
      ·refine⟨.inr (.inr ((h w').1 he)),?_⟩
       exact RA.more (S':=Sx w') (λu hu=>(h u).1 (Ext.trans he hu)) (aId hQ h1 hs2 hl' (.inl λu=>iO) h2)
      have:=(htl h).1 hc;rw[hlast] at this;cases this
     |true=>
      rcases hs1.2 with h|h
      ·rw[hlast] at h;cases h
      exact⟨.inr (.inl h.1),aId hQ h1 hs2 hl' (.inr h.2) h2⟩
    refine RA.stp hi hs1.1 hw ?_
    cases hst with
    |val hd hn hr h=>exact .val hd hn hr (cont h)
    |skip hd hr h=>exact .skip hd hr (cont h)
    |call hd hn hr hc h=>exact .call hd hn hr hc λv w' hp=>cont (h v w' hp)
   |no hw d hd hn h=>
    obtain⟨s',ρ',h1,h2,_⟩:=h
    have hr:=aId hQ h1 hs2 hl' same h2
    cases hc:calm o with
    |true=>
     rw[hc] at hs1
     exact RA.take0 (S0:=λ_=>True) i hi hs1 (.inl λ_=>trivial) trivial hd hn (λdl a ha=> .inr ⟨hw dl a ha,U⟩) hr
    |false=>
     rw[hc] at hs1
     simp only[cond_false,aQ,jP,dP,beq_iff_eq] at hs1
     refine RA.nots hi hs1.1 hw (.inl ⟨d,hd,hn,U⟩) ?_ hr
     rcases hSn with h|h
     ·exact .inr (.inr ((h w).1 (Ext.refl w)))
     rcases hs1.2 with h'|h'
     ·have:=(htl h).1 hc;rw[this] at h';cases h'
     exact .inr (.inl h'.1)
   |no0 hc hw hd h=>
    obtain⟨s',ρ',h1,h2,_⟩:=h
    rw[hc] at hs1
    simp only[cond_false,aQ,jP,dP,beq_iff_eq] at hs1
    refine RA.nots hi hs1.1 hw (.inr ⟨hd,U⟩) ?_ (aId hQ h1 hs2 hl' same h2)
    rcases hSn with h|h
    ·exact .inr (.inr ((h w).1 (Ext.refl w)))
    rcases hs1.2 with h'|h'
    ·have:=(htl h).1 hc;rw[this] at h';cases h'
    exact .inr (.inl h'.1)
   |calm hc hw d v hd hn hr h=>
    obtain⟨s',ρ',h1,h2,_⟩:=h
    rw[hc] at hs1
    have hh:=aId hQ h1 hs2 hl' same h2
    cases hrd:xH o with
    |true=>
     rcases hSn with h|h
     ·exact RA.take0 (S0:=Sx w) i hi hs1 (.inr ⟨hrd,λu hu=>(h u).2 hu⟩) (Ext.refl w) hd hn (λdl a ha=> .inl ⟨hw dl a ha,λu hu=>by rw[ha.eval];exact hr u λ_=>hu⟩) hh
     have:=(htl h).2 hc;rw[hrd] at this;cases this
    |false=>exact RA.take0 (S0:=λ_=>True) i hi hs1 (.inl λ_=>trivial) trivial hd hn (λdl a ha=> .inl ⟨hw dl a ha,λu _=>by rw[ha.eval];exact hr u λh=>by rw[hrd] at h;cases h⟩) hh
  exact h.elim
end
/-! ### every order that there is -/
def Gt (nb:Nat) (s:SS) {σ:Type} (S:σ->SS) (C:σ->Prop):Prop:=∀ρ0 w0 D f w,Dn ρ0 w0 nb s D f w->∃g ρ',C g/\Dn ρ0 w0 nb (S g) ρ' f w
inductive Tr where
 |nil
 |alt (i:Nat) (t r:Tr)
inductive Ord where
 |seq (l:List (Nat×Bool))
 |joinR (pre:List Nat) (t:Tr)
 |joinX (pre rs:List Nat) (t:Tr)
 |treeX (pre rs:List Nat) (t:Tr)
def Tr.depth:Tr->Nat
 |.nil=>0
 |.alt _ t r=>max (t.depth+1) r.depth
def ixT (i:Nat):Nat:=bif Nat.ble 2000 i then i-2000 else bif Nat.ble 1000 i then i-1000 else i
def VTR (P:Program) (T:TT) (nb N:Nat) (l0:List Oper):Tr->Bool->(SS->Prop)->SS->Prop
 |.nil,b,K,s=>bif b then (match s with
  |⟨sl,_,bl,fl⟩=>K ⟨sl,[],bl,fl⟩) else True
 |.alt i t r,_,K,s=>match r with
  |.nil=>(match l0[ixT i]? with
   |some o=>V1 P T nb N l0 (!Nat.ble 1000 i) o s λs'=>VTR P T nb N l0 t true K s'
   |none=>False)
  |.alt i' t' r'=>(match l0[ixT i]? with
   |some o=>V1 P T nb N l0 (!Nat.ble 1000 i) o s λs'=>VTR P T nb N l0 t true K s'
   |none=>False)/\VTR P T nb N l0 (.alt i' t' r') false K s
def pH:Tr->List Nat
 |.nil=>[]
 |.alt i _ r=>bif Nat.ble 2000 i then [] else ixT i::pH r
def rP (ops:Array Oper):Tr->Bool
 |.nil=>true
 |.alt i t r=>(match ops[ixT i]? with
  |some o=>calm o||Nat.ble 1000 i
  |none=>false)&&(rP ops t&&rP ops r)
def Tr.isNil:Tr->Bool
 |.nil=>true
 |.alt _ _ _=>false
def bQo (ops:Array Oper) (i:Nat) (listed:Array Bool):Bool:=match ops[ixT i]? with
 |some o=>calm o&&(!xH o&&xL ops listed (ixT i))
 |none=>false
def uY (ops:Array Oper):Tr->Bool->Array Bool->Bool
 |.nil,b,listed=>!b||(Region.ready .any ops listed).isEmpty
 |.alt i t r,b,listed=>bif Nat.ble 2000 i then b&&(r.isNil&&(bQo ops i listed&&uY ops t true (listed.setIfInBounds (ixT i) true))) else (!b||Region.ready .any ops listed==ixT i::pH r)&&((!Nat.ble 1000 i||(aEz ops (ixT i)&&rP ops t))&&(uY ops t true (listed.setIfInBounds (ixT i) true)&&uY ops r false listed))
def VHR (P:Program) (T:TT) (nb N:Nat) (l0:List Oper) (t:Tr):List Nat->(SS->Prop)->SS->Prop
 |[],K,s=>VTR P T nb N l0 t true K s
 |i::l,K,s=>match l0[i]? with
  |some o=>V1 P T nb N l0 true o s λs'=>VHR P T nb N l0 t l K s'
  |none=>False
def aJt (ops:Array Oper) (t:Tr):List Nat->Array Bool->Bool
 |[],listed=>uY ops t true listed
 |i::l,listed=>(match ops[i]? with
  |some o=>calm o&&xL ops listed i
  |none=>false)&&aJt ops t l (listed.setIfInBounds i true)
def aWx:CV->Option Value
 |.v x=>some x
 |.h A n c=>some (.slice (A.map λb=>⟨b,0,none⟩) n c)
 |.hp b o=>some (.pointer (some ⟨b,o,none⟩))
 |.b p h=>some (.bool (@decide p h))
 |.r A n c _ _=>some (.slice A n c)
 |_=>none
def rdC (s:SS) (tp off:Nat):Option CV:=match gK s.sl tp with
 |some (.c (.p j o))=>(match s.bl[j]? with
  |some b=>b.2.2[o+off]?
  |none=>none)
 |some (.c (.q _ _ _ _ get j o))=>(get j)[o+off]?
 |_=>none
abbrev Acc:=List (Nat×Nat×(Value ⊕ Nat))
inductive Key where
 |val (v:Value)
 |own (i n:Nat)
 |ptr (i o:Nat)
 |bad (k:Nat)
def uJ:Option CV->Key
 |some c=>(match aWx c with
  |some v=> .val v
  |none=> .bad 0)
 |none=> .bad 0
def bQp:Option CV->Key
 |some (.s i n)=> .own i n
 |some (.p i o)=> .ptr i o
 |_=> .bad 0
def bQq:Option DV->Key
 |some (.c (.s i n))=> .own i n
 |some (.c (.p i o))=> .ptr i o
 |_=> .bad 1
def aWy (s:SS):Acc->List Key
 |[]=>[]
 |(tp,off,.inl _)::r=>uJ (rdC s tp off)::aWy s r
 |(tp,off,.inr _)::r=>bQp (rdC s tp off)::aWy s r
def aIe (s:SS):Acc->List Key
 |[]=>[]
 |(_,_,.inl v)::r=> .val v::aIe s r
 |(_,_,.inr t)::r=>bQq (gK s.sl t)::aIe s r
def bQr (acc:Acc) (s:SS) (k:Prop):Prop:=aWy s acc=aIe s acc/\k
def bAu (d:Nat) (acc:Acc):Bool:=acc.all λe=>!Nat.beq e.1 d&&(match e.2.2 with
 |.inl _=>true
 |.inr t=>!Nat.beq t d)
def xU (o:Oper) (acc:Acc):Bool:=match o.dst with
 |none=>true
 |some d=>bAu d acc
def rdS (s:SS) (tp:Nat):Option CV:=match rdC s tp 0 with
 |some (.s i n)=>some (.s i n)
 |some (.p i o)=>some (.p i o)
 |_=>none
def bIs:CV->Bool
 |.s _ _=>true
 |.p _ _=>true
 |_=>false
def aJu (s:SS) (tp:Nat):Nat->Nat->(List CV->List Value->Prop)->Prop
 |0,_,K=>K [] []
 |n+1,k,K=>match rdC s tp k with
  |some c=>(match aWx c with
   |some v=>aJu s tp n (k+1) λcs vs=>K (c::cs) (v::vs)
   |none=>False)
  |none=>False
def bQs (s:SS) (tp:Nat):Nat->Nat->(List CV->List Value->Prop)->Prop
 |0,_,K=>K [] []
 |n+1,k,K=>∃c v,(rdC s tp k=some c/\aWx c=some v)/\bQs s tp n (k+1) λcs vs=>K (c::cs) (v::vs)
theorem aTh {s:SS} {tp:Nat}:∀{n k:Nat} {K:List CV->List Value->Prop},bQs s tp n k K->aJu s tp n k K
 |0,_,_,h=>h
 |n+1,k,K,⟨c,v,⟨h1,h2⟩,h⟩=>by
  unfold aJu
  rw[h1]
  simp only[h2]
  exact aTh h
def bIt (i:Nat) (s:SS) (tp n k:Nat) (K:List CV->List Value->Prop):Prop:=bif Nat.ble 1000 i then bQs s tp n k K else aJu s tp n k K
theorem aTi {i:Nat} {s:SS} {tp n k:Nat} {K:List CV->List Value->Prop} (h:bIt i s tp n k K):aJu s tp n k K:=by
 unfold bIt at h
 cases hb:Nat.ble 1000 i with
 |true=>rw[hb] at h;exact aTh h
 |false=>rw[hb] at h;exact h
def mkE (tp:Nat):Nat->List Value->Acc->Acc
 |_,[],acc=>acc
 |k,v::r,acc=>(tp,k,.inl v)::mkE tp (k+1) r acc
def V1X (P:Program) (T:TT) (nb N:Nat) (l0:List Oper) (acc:Acc) (i:Nat) (s:SS) (K:SS->Prop):Prop:=match l0[ixT i]? with
 |some o=>bif xU o acc then V1 P T nb N l0 false o s λs'=>bif Nat.ble 1000 i then K s' else bQr acc s' (K s') else False
 |none=>False
def VTX (P:Program) (T:TT) (nb N:Nat) (l0:List Oper) (acc:Acc):Tr->Bool->(SS->Prop)->SS->Prop
 |.nil,b,K,s=>bif b then (match s with
  |⟨sl,_,bl,fl⟩=>K ⟨sl,[],bl,fl⟩) else True
 |.alt i t r,_,K,s=>match r with
  |.nil=>V1X P T nb N l0 acc i s λs'=>VTX P T nb N l0 acc t true K s'
  |.alt i' t' r'=>(V1X P T nb N l0 acc i s λs'=>VTX P T nb N l0 acc t true K s')/\VTX P T nb N l0 acc (.alt i' t' r') false K s
def VRX (P:Program) (T:TT) (nb N:Nat) (l0:List Oper) (t:Tr):List Nat->Acc->(SS->Prop)->SS->Prop
 |[],acc,K,s=>VTX P T nb N l0 acc t true K s
 |i::l,acc,K,s=>bif Nat.ble 2000 i then (match l0[ixT i]? with
   |some o=>bif calm o&&(!xH o&&xU o acc) then V1 P T nb N l0 true o s λs'=>VRX P T nb N l0 t l acc K s' else False
   |none=>False) else match l0[ixT i]? with
  |some ⟨some d,.load ty (.tmp tp),_,_,_,none⟩=>(match T ty with
   |some ti=>bif Nat.ble 1 ti.size&&(Nat.ble (d+1) N&&((!Nat.beq tp d)&&bAu d acc)) then (bif ti.agg then bIt i s tp ti.size 0 λcs vs=>aHj s d (.a cs) λs'=>VRX P T nb N l0 t l (mkE tp 0 vs acc) K s'
    else match (bif Nat.ble 1000 i then none else rdS s tp) with
     |some cv=>aHj s d (.c cv) λs'=>VRX P T nb N l0 t l ((tp,0,.inr d)::acc) K s'
     |none=>bIt i s tp 1 0 λcs vs=>match cs with
      |[c]=>aHj s d (.c c) λs'=>VRX P T nb N l0 t l (mkE tp 0 vs acc) K s'
      |_=>False) else False
   |none=>False)
  |_=>False
def VHX (P:Program) (T:TT) (nb N:Nat) (l0:List Oper) (rs:List Nat) (t:Tr):List Nat->(SS->Prop)->SS->Prop
 |[],K,s=>VRX P T nb N l0 t rs [] K s
 |i::l,K,s=>match l0[i]? with
  |some o=>V1 P T nb N l0 true o s λs'=>VHX P T nb N l0 rs t l K s'
  |none=>False
def aTj (ops:Array Oper) (t:Tr):List Nat->Array Bool->Bool
 |[],listed=>uY ops t true listed
 |i::l,listed=>xL ops listed (ixT i)&&aTj ops t l (listed.setIfInBounds (ixT i) true)
def aFw (ops:Array Oper) (rs:List Nat) (t:Tr):List Nat->Array Bool->Bool
 |[],listed=>aTj ops t rs listed
 |i::l,listed=>(match ops[i]? with
  |some o=>calm o&&(!xH o&&xL ops listed i)
  |none=>false)&&aFw ops rs t l (listed.setIfInBounds i true)
def VR (P:Program) (T:TT) (nb N:Nat) (l0:List Oper):Ord->(SS->Prop)->SS->Prop
 |.seq l,K,s=>VD P T nb N l0 l K s
 |.joinR pre t,K,s=>∃(σ:Type) (S:σ->SS) (C:σ->Prop),VHR P T nb N l0 t pre (λs'=>Gt nb s' S C) s/\∀g,C g->K (S g)
 |.joinX pre rs t,K,s=>∃(σ:Type) (S:σ->SS) (C:σ->Prop),VHX P T nb N l0 rs t pre (λs'=>Gt nb s' S C) s/\∀g,C g->K (S g)
 |.treeX pre rs t,K,s=>VHX P T nb N l0 rs t pre K s
def bAv (ops:Array Oper):Ord->Bool
 |.seq l=>aBh ops (Array.replicate ops.size false) l&&Nat.ble l.length ops.size
 |.joinR pre t=>aJt ops t pre (Array.replicate ops.size false)&&Nat.ble (pre.length+t.depth) ops.size
 |.treeX pre rs t=>aFw ops rs t pre (Array.replicate ops.size false)&&Nat.ble (pre.length+(rs.length+t.depth)) ops.size
 |.joinX pre rs t=>aFw ops rs t pre (Array.replicate ops.size false)&&Nat.ble (pre.length+(rs.length+t.depth)) ops.size
section
variable {P:Program} {T:TT} {nb N:Nat} {ops:Array Oper} {ρ0:Pl} {w0:World} {K:SS->Prop} (hT:Good P T)
theorem aTk {o:Oper} {Q:Po} {S:World->Prop} {fuel i:Nat} {listed:Array Bool} {f:Nat->Value} {w:World} (hi:ops[i]? =some o) (hw:Wt N ops f o true)
 (h:Stp P N f o w λf' w'=>Oks ops S i w w'/\RA P N ops Q S fuel (listed.setIfInBounds i true) f' w'):∀dl a,Fm dl N f a->wpOp P ops (up dl N Q) i (λa' w'=>Oks ops S i w w'/\nM P ops (up dl N Q) S fuel (listed.setIfInBounds i true) a' w') a w:=λdl a ha=>by
 unfold wpOp
 simp only[hi,hw dl a ha,if_true]
 refine .inl ?_
 unfold Oper.wp
 cases h with
 |val hd hn hr h=>rw[ha.eval,hr];exact⟨h.1,h.2 _ _ (by rw[hd];exact ha.put hn _)⟩
 |skip hd hr h=>obtain⟨r,hr,hrr⟩:=hr;rw[ha.eval,hr];rcases hrr with rfl|⟨v,rfl⟩<;>exact⟨h.1,h.2 _ _ (by rw[hd];exact ha)⟩
 |call hd hn hr hc h=>
  rw[ha.eval,hr]
  refine hc.mono λe w1 ⟨u,he,hp⟩=>?_
  subst he
  obtain⟨h1,h2⟩:=h u w1 hp
  exact⟨h1,h2 _ _ (by rw[hd];exact ha.put hn u)⟩
theorem bAw {o:Oper} {Q:Po} {S:World->Prop} {fuel i:Nat} {listed:Array Bool} {f f':Nat->Value} {w:World} (hi:ops[i]? =some o) (hw:Wt N ops f o false) (hf:(∃d,o.dst=some d/\d<N/\f'=st f d undef)\/(o.dst=none/\f'=f)) (hS:Oks ops S i w w)
 (h:RA P N ops Q S fuel (listed.setIfInBounds i true) f' w):∀dl a,Fm dl N f a->wpOp P ops (up dl N Q) i (λa' w'=>Oks ops S i w w'/\nM P ops (up dl N Q) S fuel (listed.setIfInBounds i true) a' w') a w:=λdl a ha=>by
 unfold wpOp
 simp only[hi,hw dl a ha,jB,if_false]
 refine⟨hS,h _ _ ?_⟩
 rcases hf with ⟨d,hd,hn,rfl⟩|⟨hd,rfl⟩
 ·rw[hd];exact ha.put hn undef
 rw[hd];exact ha
include hT in
theorem vV {Q:Po} (hQ:∀s D f w,K s->Dn ρ0 w0 nb s D f w->Q.nrm f w):∀{t:Tr} {b:Bool} {listed:Array Bool} {fuel:Nat} {s:SS} {D:Pl} {f:Nat->Value} {w:World} {S:World->Prop},VTR P T nb N ops.toList t b K s->uY ops t b listed=true->t.depth<=fuel->((∀u,Ext w u↔S u)\/rP ops t=true)->Dn ρ0 w0 nb s D f w->
 (b=true->RA P N ops Q S fuel listed f w)/\∀i∈pH t,∀fu,fuel=fu+1->∀dl a,Fm dl N f a->wpOp P ops (up dl N Q) i (λa' w'=>Oks ops S i w w'/\nM P ops (up dl N Q) S fu (listed.setIfInBounds i true) a' w') a w
 |.nil,b,listed,fuel,s,D,f,w,S,h,hs,_,_,hD=>by
  refine⟨λhb=>?_,λi hi=>by cases hi⟩
  subst hb
  obtain⟨sl,gl,bl,fl⟩:=s
  refine RA.done (by simpa[uY] using hs) (hQ _ D f w h ⟨hD.m,⟨hD.f.sl,λt gs d ht=>?_⟩,hD.l⟩)
  cases ht
 |.alt i t r,b,listed,fuel,s,D,f,w,S,h,hs,hl,hSn,hD=>by
  simp only[Tr.depth] at hl
  obtain⟨fu,rfl⟩:∃fu,fuel=fu+1:=⟨fuel-1,Uc⟩
  cases h2k:Nat.ble 2000 i with
  |true=>
   simp only[uY,h2k,cond_true,aQ] at hs
   obtain⟨_,hr,hk,hs2⟩:=hs
   refine⟨λ_=>?_,λj hj=>by simp[pH,h2k] at hj⟩
   cases r with
   |alt _ _ _=>cases hr
   |nil=>
   have h0:(match ops.toList[ixT i]? with
    |some o=>V1 P T nb N ops.toList (!Nat.ble 1000 i) o s λs'=>VTR P T nb N ops.toList t true K s'
    |none=>False):=h
   unfold bQo at hk
   split at h0
   ·next o ho=>
    have hi:ops[ixT i]? =some o:=by rw[<-eM];exact ho
    rw[hi] at hk
    simp only[aQ,dP] at hk
    obtain⟨hc,hrd,htk⟩:=hk
    have hSt:(∀u,Ext w u↔S u)\/rP ops t=true:=by
     rcases hSn with h|h
     ·exact .inl h
     simp only[rP,aQ] at h;exact .inr h.2.1
    cases aBi hT h0 hD with
    |done hc' hw hst=>rw[hc] at hc';cases hc'
    |no hw d hd hn h=>
     obtain⟨s',ρ',h1,h2,_⟩:=h
     exact RA.take0 (S0:=λ_=>True) (ixT i) hi htk (.inl λ_=>trivial) trivial hd hn (λdl a ha=> .inr ⟨hw dl a ha,U⟩) ((vV hQ h1 hs2 oM hSt h2).1 rfl)
    |no0 hc' hw hd h=>rw[hc] at hc';cases hc'
    |calm hc' hw d v hd hn hr h=>
     obtain⟨s',ρ',h1,h2,_⟩:=h
     exact RA.take0 (S0:=λ_=>True) (ixT i) hi htk (.inl λ_=>trivial) trivial hd hn (λdl a ha=> .inl ⟨hw dl a ha,λu _=>by rw[ha.eval];exact hr u λh=>by rw[hrd] at h;cases h⟩) ((vV hQ h1 hs2 oM hSt h2).1 rfl)
   exact h0.elim
  |false=>
  simp only[uY,h2k,cond_false,aQ] at hs
  obtain⟨hs1,hs0,hs2,hs3⟩:=hs
  have hSt:(∀u,Ext w u↔S u)\/rP ops t=true:=by
   rcases hSn with h|h
   ·exact .inl h
   simp only[rP,aQ] at h;exact .inr h.2.1
  have hSr:(∀u,Ext w u↔S u)\/rP ops r=true:=by
   rcases hSn with h|h
   ·exact .inl h
   simp only[rP,aQ] at h;exact .inr h.2.2
  have key:∀{o:Oper},ops[ixT i]? =some o->V1 P T nb N ops.toList (!Nat.ble 1000 i) o s (λs'=>VTR P T nb N ops.toList t true K s')->∀dl a,Fm dl N f a->wpOp P ops (up dl N Q) (ixT i) (λa' w'=>Oks ops S (ixT i) w w'/\nM P ops (up dl N Q) S fu (listed.setIfInBounds (ixT i) true) a' w') a w:=λ{o} hi hv=>by
   have hfl:calm o=false->((∀u,Ext w u↔S u)/\Nat.ble 1000 i=false)\/Nat.ble 1000 i=true:=λhc=>by
    cases hb:Nat.ble 1000 i with
    |true=>exact .inr rfl
    |false=>
     rcases hSn with h|h
     ·exact .inl ⟨h,U⟩
     simp only[rP,aQ,hi,hb,hc] at h;cases h.1
   have calmgo:calm o=true->∀{f':Nat->Value} {w':World},w'=w->Cn ρ0 w0 nb (!Nat.ble 1000 i) w (λs'=>VTR P T nb N ops.toList t true K s') f' w'->Oks ops S (ixT i) w w'/\RA P N ops Q S fu (listed.setIfInBounds (ixT i) true) f' w':=λhc {f' w'} he hh=>by
    subst he
    obtain⟨s',ρ',h1,h2,_⟩:=hh
    exact⟨.inl ⟨by unfold aCg;rw[hi];exact hc,U⟩,(vV hQ h1 hs2 oM hSt h2).1 rfl⟩
   have go:calm o=false->∀{f':Nat->Value} {w':World},Cn ρ0 w0 nb (!Nat.ble 1000 i) w (λs'=>VTR P T nb N ops.toList t true K s') f' w'->Oks ops S (ixT i) w w'/\RA P N ops Q S fu (listed.setIfInBounds (ixT i) true) f' w':=λhc {f' w'} hh=>by
    obtain⟨s',ρ',h1,h2,h3⟩:=hh
    rcases hfl hc with ⟨hE,hb⟩|hb
    ·have he:Ext w w':=h3 (by rw[hb];rfl)
     exact⟨.inr (.inr ((hE w').1 he)),RA.more (S':=Sx w') (λu hu=>(hE u).1 (Ext.trans he hu)) ((vV hQ h1 hs2 oM (.inl λu=>iO) h2).1 rfl)⟩
    rw[hb] at hs0
    simp only[jX,qL,aQ] at hs0
    exact⟨.inr (.inl hs0.1),(vV hQ h1 hs2 oM (.inr hs0.2) h2).1 rfl⟩
   have okw:calm o=false->Oks ops S (ixT i) w w:=λhc=>by
    rcases hfl hc with ⟨hE,hb⟩|hb
    ·exact .inr (.inr ((hE w).1 (Ext.refl w)))
    rw[hb] at hs0
    simp only[jX,qL,aQ] at hs0
    exact .inr (.inl hs0.1)
   cases aBi hT hv hD with
   |done hc hw hst=>
    refine aTk hi hw ?_
    cases hst with
    |val hd hn hr h=>exact .val hd hn hr (go hc h)
    |skip hd hr h=>exact .skip hd hr (go hc h)
    |call hd hn hr hcc h=>exact .call hd hn hr hcc λv w' hp=>go hc (h v w' hp)
   |no hw d hd hn h=>
    cases hc:calm o with
    |true=>exact bAw hi hw (.inl ⟨d,hd,hn,U⟩) (calmgo hc U h).1 (calmgo hc U h).2
    |false=>
     obtain⟨s',ρ',h1,h2,_⟩:=h
     exact bAw hi hw (.inl ⟨d,hd,hn,U⟩) (okw hc) ((vV hQ h1 hs2 oM hSt h2).1 rfl)
   |no0 hc hw hd h=>
    obtain⟨s',ρ',h1,h2,_⟩:=h
    exact bAw hi hw (.inr ⟨hd,U⟩) (okw hc) ((vV hQ h1 hs2 oM hSt h2).1 rfl)
   |calm hc hw d v hd hn hr h=>exact aTk hi hw (.val hd hn (hr w λ_=>Ext.refl w) (calmgo hc U h))
  have one:(match ops.toList[ixT i]? with
   |some o=>V1 P T nb N ops.toList (!Nat.ble 1000 i) o s λs'=>VTR P T nb N ops.toList t true K s'
   |none=>False)->∀dl a,Fm dl N f a->wpOp P ops (up dl N Q) (ixT i) (λa' w'=>Oks ops S (ixT i) w w'/\nM P ops (up dl N Q) S fu (listed.setIfInBounds (ixT i) true) a' w') a w:=λhm=>by
   split at hm
   ·next o ho=>exact key (by rw[<-eM];exact ho) hm
   exact hm.elim
  have all:∀j∈pH (Tr.alt i t r),∀dl a,Fm dl N f a->wpOp P ops (up dl N Q) j (λa' w'=>Oks ops S j w w'/\nM P ops (up dl N Q) S fu (listed.setIfInBounds j true) a' w') a w:=λj hj=>by
   simp only[pH,h2k,cond_false] at hj
   rcases bW.1 hj with rfl|hj
   ·cases r with
    |nil=>exact one h
    |alt i' t' r'=>exact one h.1
   cases r with
   |nil=>cases hj
   |alt i' t' r'=>exact(vV hQ h.2 hs3 oM hSr hD).2 j hj fu U
  refine⟨λhb dl a ha=>?_,λj hj fu' hfu dl a ha=>(Nat.succ.inj hfu)▸all j hj dl a ha⟩
  subst hb
  have hr:Region.ready .any ops listed=ixT i::pH r:=by simpa using hs1
  refine⟨λh0=>(by rw[hr] at h0;cases h0),λj hj=>?_⟩
  rw[hr] at hj
  refine all j ?_ dl a ha
  simp only[pH,h2k,cond_false]
  exact hj
include hT in
theorem aQu {Q:Po} (hQ:∀s D f w,K s->Dn ρ0 w0 nb s D f w->Q.nrm f w) {t:Tr}:∀{pre:List Nat} {listed:Array Bool} {fuel:Nat} {s:SS} {D:Pl} {f:Nat->Value} {w:World},VHR P T nb N ops.toList t pre K s->aJt ops t pre listed=true->pre.length+t.depth<=fuel->Dn ρ0 w0 nb s D f w->RA P N ops Q (Sx w) fuel listed f w
 |[],listed,fuel,s,D,f,w,h,hs,hl,hD=>(vV hT hQ h hs (by simpa using hl) (.inl λu=>iO) hD).1 rfl
 |i::pre,listed,0,s,D,f,w,h,hs,hl,hD=>by simp at hl
 |i::pre,listed,fuel+1,s,D,f,w,h,hs,hl,hD=>by
  simp only[aJt,aQ] at hs
  obtain⟨hs1,hs2⟩:=hs
  unfold VHR at h
  split at h
  ·next o ho=>
   have hi:ops[i]? =some o:=by rw[<-eM];exact ho
   rw[hi] at hs1
   simp only[aQ] at hs1
   obtain⟨hc,htk⟩:=hs1
   have hl':pre.length+t.depth<=fuel:=by simp only[eG] at hl;omega
   cases aBi hT h hD with
   |done hc' hw hst=>rw[hc] at hc';cases hc'
   |no hw d hd hn h=>
    obtain⟨s',ρ',h1,h2,_⟩:=h
    exact RA.take0 (S0:=λ_=>True) i hi htk (.inl λ_=>trivial) trivial hd hn (λdl a ha=> .inr ⟨hw dl a ha,U⟩) (aQu hQ h1 hs2 hl' h2)
   |no0 hc' hw hd h=>rw[hc] at hc';cases hc'
   |calm hc' hw d v hd hn hr h=>
    obtain⟨s',ρ',h1,h2,_⟩:=h
    have hh:=aQu hQ h1 hs2 hl' h2
    cases hrd:xH o with
    |true=>exact RA.take0 (S0:=Sx w) i hi htk (.inr ⟨hrd,λu hu=>hu⟩) (Ext.refl w) hd hn (λdl a ha=> .inl ⟨hw dl a ha,λu hu=>by rw[ha.eval];exact hr u λ_=>hu⟩) hh
    |false=>exact RA.take0 (S0:=λ_=>True) i hi htk (.inl λ_=>trivial) trivial hd hn (λdl a ha=> .inl ⟨hw dl a ha,λu _=>by rw[ha.eval];exact hr u λh=>by rw[hrd] at h;cases h⟩) hh
  exact h.elim
theorem aTl {D:Pl} {n:Nat} {w:World} {c:CV} {x v:Value} (h:Hc D n w c x) (hd:aWx c=some v):x=v:=by
 cases c with
 |v y=>injection hd with hd;subst hd;exact Hc.inv_v h
 |h A n c=>injection hd with hd;subst hd;cases (show Rc _ _ _ _ from h);rfl
 |hp b o=>injection hd with hd;subst hd;exact Hc.inv_hp h
 |b p hp=>injection hd with hd;subst hd;exact Hc.inv_b h
 |r A n c e get=>injection hd with hd;subst hd;cases (show Rc _ _ _ _ from h)<;>rfl
 |u=>cases hd
 |p i o=>cases hd
 |s i n=>cases hd
 |q A n c e get j o=>cases hd
 |t i o m=>cases hd
 |f k fi ca=>cases hd
def Lnk (f:Nat->Value):Acc->List (Addr×Value)->Prop
 |[],[]=>True
 |e::r,e'::r'=>(∃b o,f e.1= .pointer (some ⟨b,o,none⟩)/\e'.1=⟨b,o+e.2.1,none⟩/\e'.2=(match e.2.2 with
  |.inl v=>v
  |.inr t=>f t))/\Lnk f r r'
 |_,_=>False
abbrev Sr (av:List (Addr×Value)):World->Prop:=λu=>∀e∈av,u.cell? e.1=some e.2
theorem aCm {s:SS} {D:Pl} {f:Nat->Value} {w:World} {tp off:Nat} {c:CV} {v:Value} (hD:Dn ρ0 w0 nb s D f w) (hc:rdC s tp off=some c) (hv:aWx c=some v):∃b o,f tp= .pointer (some ⟨b,o,none⟩)/\w.cell? ⟨b,o+off,none⟩=some v/\Hc D s.bl.length w c v:=by
 unfold rdC at hc
 split at hc
 ·next j o hp=>
  split at hc
  ·next b hb=>
   obtain⟨T',e,l⟩:=b
   obtain⟨_,b,hρ,he⟩:=(hD.f.sl _ _ hp).inv_c
   obtain⟨vl,junk,hh,hl,_⟩:=(hD.m.ok j T' e l hb).at hρ
   obtain⟨x,hx,hcx⟩:=hl.get hc
   have:=aTl hcx hv
   subst this
   exact⟨_,_,he,nR hh hx,hcx⟩
  cases hc
 ·next A n c' e get j o hp=>
  obtain⟨hr,hj,b,o',hA,he⟩:=(hD.f.sl _ _ hp).inv_c
  obtain⟨b2,o2,hA2,hZ,vl,hcell,hlen,hel⟩:=hr.elem hj
  rw[hA] at hA2
  injection hA2 with hA2
  injection hA2 with e1 e2
  subst e1 e2
  have ho:o+off<vl.length:=by rw[hlen];exact eH hc
  have hx:vl[o+off]? =some vl[o+off]:=aG ho
  have hcx:Hc D s.bl.length w c vl[o+off]:=Hc.of_rc (hel _ c _ hc hx)
  have:=aTl hcx hv
  rw[this] at hcx hx
  exact⟨_,_,he,by rw[jF];exact(hcell _ _ hx).1,hcx⟩
 cases hc
theorem aFx {s:SS} {D:Pl} {f:Nat->Value} {w:World} {tp off:Nat} {cv:CV} (hcv:bIs cv=true) (hD:Dn ρ0 w0 nb s D f w) (hc:rdC s tp off=some cv):∃b o x,f tp= .pointer (some ⟨b,o,none⟩)/\w.cell? ⟨b,o+off,none⟩=some x/\Hc D s.bl.length w cv x:=by
 unfold rdC at hc
 split at hc
 ·next j o hp=>
  split at hc
  ·next b hb=>
   obtain⟨T',e,l⟩:=b
   obtain⟨_,b,hρ,he⟩:=(hD.f.sl _ _ hp).inv_c
   obtain⟨vl,junk,hh,hl,_⟩:=(hD.m.ok j T' e l hb).at hρ
   obtain⟨x,hx,hcx⟩:=hl.get hc
   exact⟨_,_,_,he,nR hh hx,hcx⟩
  cases hc
 ·next A m c' e get j o hp=>
  obtain⟨hr,hj,b,o',hA,he⟩:=(hD.f.sl _ _ hp).inv_c
  obtain⟨b2,o2,hA2,hZ,vl,hcell,hlen,hel⟩:=hr.elem hj
  have ho:o+off<vl.length:=by rw[hlen];exact eH hc
  have:=hel _ _ _ hc (aG ho)
  cases cv with
  |s _ _=>cases this
  |p _ _=>cases this
  |_=>cases hcv
 cases hc
theorem bIu {D:Pl} {n:Nat} {w:World} {cv:CV} {x y:Value} (hcv:bIs cv=true) (hx:Hc D n w cv x) (hy:Hc D n w cv y):x=y:=by
 cases cv with
 |s i m=>exact hx.2.trans hy.2.symm
 |p i o=>
  obtain⟨_,b,h1,h2⟩:=hx
  obtain⟨_,b',h3,h4⟩:=hy
  rw[h1] at h3
  injection h3 with h3
  rw[h2,h4,h3]
 |_=>cases hcv
theorem bAx {o:Option CV} {v:Value} (h:uJ o= .val v):∃c,o=some c/\aWx c=some v:=by
 unfold uJ at h
 split at h
 ·next c=>
  split at h
  ·next v' hv=>injection h with h;subst h;exact⟨c,U,hv⟩
  cases h
 cases h
theorem bAy {o:Option CV} {d:Option DV} (h:bQp o=bQq d):∃cv,bIs cv=true/\o=some cv/\d=some (.c cv):=by
 unfold bQp bQq at h
 split at h<;>split at h
 ·injection h with h1 h2;subst h1 h2;exact⟨_,U,U,U⟩
 ·cases h
 ·cases h
 ·cases h
 ·injection h with h1 h2;subst h1 h2;exact⟨_,U,U,U⟩
 ·cases h
 ·cases h
 ·cases h
 injection h with h;cases h
theorem aOc {s:SS} {tp:Nat} {cv:CV} (h:rdS s tp=some cv):bIs cv=true/\rdC s tp 0=some cv:=by
 unfold rdS at h
 split at h
 ·next i' n' he=>injection h with h;subst h;exact⟨U,he⟩
 ·next i' n' he=>injection h with h;subst h;exact⟨U,he⟩
 cases h
theorem bIv {s:SS} {D:Pl} {f:Nat->Value} {w:World} {k:Prop} {acc:Acc} {av:List (Addr×Value)} (h:bQr acc s k) (hD:Dn ρ0 w0 nb s D f w) (hl:Lnk f acc av):k/\Sr av w:=by
 refine⟨h.2,?_⟩
 have key:∀{acc:Acc} {av:List (Addr×Value)},aWy s acc=aIe s acc->Lnk f acc av->Sr av w:=λ{acc}=>by
  induction acc with
  |nil=>intro av _ hl;cases av with
   |nil=>exact λe he=>by cases he
   |cons _ _=>exact hl.elim
  |cons e acc ih=>intro av h hl;cases av with
   |nil=>exact hl.elim
   |cons a av=>
    obtain⟨tp,off,v⟩:=e
    obtain⟨⟨b,o,h1,h2,h3⟩,h4⟩:=hl
    cases v with
    |inl v=>
     simp only[aWy,aIe] at h
     injection h with h5 h6
     have hS:=ih h6 h4
     intro e he
     rcases bW.1 he with rfl|he
     ·obtain⟨c,hc,hv⟩:=bAx h5
      obtain⟨b',o',k1,k2,_⟩:=aCm hD hc hv
      simp only at h1 h2 h3
      rw[h1] at k1
      injection k1 with k1
      injection k1 with k1
      injection k1 with k3 k4
      subst k3 k4
      rw[h2,h3]
      exact k2
     exact hS e he
    |inr t=>
     simp only[aWy,aIe] at h
     injection h with h5 h6
     have hS:=ih h6 h4
     intro e he
     rcases bW.1 he with rfl|he
     ·obtain⟨cv,hcv,hc,hv⟩:=bAy h5
      obtain⟨b',o',x,k1,k2,k5⟩:=aFx hcv hD hc
      have k6:=(hD.f.sl t _ hv).inv_c
      simp only at h1 h2 h3
      rw[h1] at k1
      injection k1 with k1
      injection k1 with k1
      injection k1 with k3 k4
      subst k3 k4
      rw[h2,h3,bIu hcv k6 k5]
      exact k2
     exact hS e he
 exact key h.1 hl
theorem Lnk.st {f:Nat->Value} {d:Nat} {v:Value}:∀{acc:Acc} {av:List (Addr×Value)},bAu d acc=true->Lnk f acc av->Lnk (st f d v) acc av
 |[],[],_,_=>trivial
 |[],_::_,_,hl=>hl.elim
 |_::_,[],_,hl=>hl.elim
 |(tp,off,v')::acc,(a,v2)::av,h,hl=>by
  unfold bAu at h
  simp only[List.all_cons,aQ,dP] at h
  obtain⟨⟨b,o,h1,h2,h4⟩,h3⟩:=hl
  refine⟨⟨b,o,?_,h2,?_⟩,Lnk.st h.2 h3⟩
  ·simp only at h1 ⊢
   unfold Go.Vg.st
   rw[h.1.1]
   exact h1
  cases v' with
  |inl v'=>exact h4
  |inr t=>
   have h5:Nat.beq t d=false:=by have h6:(!Nat.beq t d)=true:=h.1.2;simpa using h6
   simp only at h4 ⊢
   unfold Go.Vg.st
   rw[h5]
   exact h4
theorem aJv {s:SS} {D:Pl} {f:Nat->Value} {w:World} {tp b o:Nat} (hD:Dn ρ0 w0 nb s D f w) (hf:f tp= .pointer (some ⟨b,o,none⟩)):∀{n k:Nat} {K:List CV->List Value->Prop},aJu s tp n k K->∃cs vs,K cs vs/\cs.length=n/\Hl D s.bl.length w cs vs/\∀i v,vs[i]? =some v->w.cell? ⟨b,o+(k+i),none⟩=some v
 |0,k,K,h=>⟨[],[],h,U,U1,λi v hi=>by cases hi⟩
 |n+1,k,K,h=>by
  unfold aJu at h
  split at h
  ·next c hc=>
   split at h
   ·next v hv=>
    obtain⟨b',o',k1,k2,k3⟩:=aCm hD hc hv
    rw[hf] at k1
    injection k1 with k1
    injection k1 with k1
    injection k1 with k4 k5
    subst k4 k5
    obtain⟨cs,vs,h1,h2,h3,h4⟩:=aJv hD hf h
    refine⟨c::cs,v::vs,h1,by simp[h2],⟨k3,h3⟩,λi u hi=>?_⟩
    cases i with
    |zero=>injection hi with hi;subst hi;exact k2
    |succ i=>
     have:=h4 i u (by simpa using hi)
     rw[show k+(i+1)=k+1+i by omega]
     exact this
   exact h.elim
  exact h.elim
theorem aOd {s:SS} {D:Pl} {f:Nat->Value} {w:World} {tp n k:Nat} {K:List CV->List Value->Prop} (hD:Dn ρ0 w0 nb s D f w) (h:aJu s tp (n+1) k K):∃b o,f tp= .pointer (some ⟨b,o,none⟩):=by
 unfold aJu at h
 split at h
 ·next c hc=>
  split at h
  ·next v hv=>
   obtain⟨b,o,k1,_⟩:=aCm hD hc hv
   exact⟨b,o,k1⟩
  exact h.elim
 exact h.elim
def mkA (b o:Nat):Nat->List Value->List (Addr×Value)->List (Addr×Value)
 |_,[],av=>av
 |k,v::r,av=>(⟨b,o+k,none⟩,v)::mkA b o (k+1) r av
theorem Lnk.mk {f:Nat->Value} {tp b o:Nat} {acc:Acc} {av:List (Addr×Value)} (hf:f tp= .pointer (some ⟨b,o,none⟩)) (h:Lnk f acc av):∀{vs:List Value} {k:Nat},Lnk f (mkE tp k vs acc) (mkA b o k vs av)
 |[],_=>h
 |v::vs,k=>⟨⟨b,o,hf,U,U⟩,Lnk.mk hf h⟩
theorem Sr.mk {b o:Nat} {av:List (Addr×Value)} {w:World} (h:Sr av w):∀{vs:List Value} {k:Nat},(∀i v,vs[i]? =some v->w.cell? ⟨b,o+(k+i),none⟩=some v)->Sr (mkA b o k vs av) w
 |[],_,_=>h
 |v::vs,k,hc=>λe he=>by
  rcases bW.1 he with rfl|he
  ·exact hc 0 v U
  exact Sr.mk h (λi u hi=>by have:=hc (i+1) u (by simpa using hi);rwa [show k+(i+1)=k+1+i by omega] at this) e he
theorem Sr.of_mk {b o:Nat} {av:List (Addr×Value)} {w:World}:∀{vs:List Value} {k:Nat},Sr (mkA b o k vs av) w->Sr av w/\∀i v,vs[i]? =some v->w.cell? ⟨b,o+(k+i),none⟩=some v
 |[],_,h=>⟨h,λi v hi=>by cases hi⟩
 |v::vs,k,h=>by
  obtain⟨h1,h2⟩:=Sr.of_mk (vs:=vs) (k:=k+1) λe he=>h e (.tail _ he)
  refine⟨h1,λi u hi=>?_⟩
  cases i with
  |zero=>injection hi with hi;subst hi;exact h _ (.head _)
  |succ i=>
   have:=h2 i u (by simpa using hi)
   rwa [show k+(i+1)=k+1+i by omega]
include hT in
theorem aCn {Q:Po} (hQ:∀s D f w,K s->Dn ρ0 w0 nb s D f w->Q.nrm f w) {acc:Acc} {av:List (Addr×Value)}:∀{t:Tr} {b:Bool} {listed:Array Bool} {fuel:Nat} {s:SS} {D:Pl} {f:Nat->Value} {w:World},VTX P T nb N ops.toList acc t b K s->uY ops t b listed=true->t.depth<=fuel->Lnk f acc av->(Sr av w\/rP ops t=true)->Dn ρ0 w0 nb s D f w->
 (b=true->RA P N ops Q (Sr av) fuel listed f w)/\∀i∈pH t,∀fu,fuel=fu+1->∀dl a,Fm dl N f a->wpOp P ops (up dl N Q) i (λa' w'=>Oks ops (Sr av) i w w'/\nM P ops (up dl N Q) (Sr av) fu (listed.setIfInBounds i true) a' w') a w
 |.nil,b,listed,fuel,s,D,f,w,h,hs,_,_,_,hD=>by
  refine⟨λhb=>?_,λi hi=>by cases hi⟩
  subst hb
  obtain⟨sl,gl,bl,fl⟩:=s
  refine RA.done (by simpa[uY] using hs) (hQ _ D f w h ⟨hD.m,⟨hD.f.sl,λt gs d ht=>?_⟩,hD.l⟩)
  cases ht
 |.alt i t r,b,listed,fuel,s,D,f,w,h,hs,hl,hL,hSn,hD=>by
  simp only[Tr.depth] at hl
  obtain⟨fu,rfl⟩:∃fu,fuel=fu+1:=⟨fuel-1,Uc⟩
  have hSt:Sr av w\/rP ops t=true:=by
   rcases hSn with h|h
   ·exact .inl h
   simp only[rP,aQ] at h;exact .inr h.2.1
  have hSr:Sr av w\/rP ops r=true:=by
   rcases hSn with h|h
   ·exact .inl h
   simp only[rP,aQ] at h;exact .inr h.2.2
  have hst:∀{o:Oper},xU o acc=true->∀{d:Nat} {v:Value},o.dst=some d->Lnk (Go.Vg.st f d v) acc av:=λ{o} hf {d v} hd=>by
   unfold xU at hf
   rw[hd] at hf
   exact hL.st hf
  cases h2k:Nat.ble 2000 i with
  |true=>
   simp only[uY,h2k,cond_true,aQ] at hs
   obtain⟨_,hr,hk,hs2⟩:=hs
   refine⟨λ_=>?_,λj hj=>by simp[pH,h2k] at hj⟩
   have h1k:Nat.ble 1000 i=true:=by rw[Nat.ble_eq] at h2k ⊢;omega
   cases r with
   |alt _ _ _=>cases hr
   |nil=>
   have h0:V1X P T nb N ops.toList acc i s (λs'=>VTX P T nb N ops.toList acc t true K s'):=h
   unfold V1X at h0
   rw[h1k] at h0
   simp only[cond_true] at h0
   unfold bQo at hk
   split at h0
   ·next o ho=>
    have hi:ops[ixT i]? =some o:=by rw[<-eM];exact ho
    rw[hi] at hk
    simp only[aQ,dP] at hk
    obtain⟨hc,hrd,htk⟩:=hk
    cases hfr:xU o acc with
    |false=>rw[hfr] at h0;exact h0.elim
    |true=>
    rw[hfr] at h0
    simp only[cond_true] at h0
    cases aBi hT h0 hD with
    |done hc' hw hst=>rw[hc] at hc';cases hc'
    |no hw d hd hn h=>
     obtain⟨s',ρ',h1,h2,_⟩:=h
     exact RA.take0 (S0:=λ_=>True) (ixT i) hi htk (.inl λ_=>trivial) trivial hd hn (λdl a ha=> .inr ⟨hw dl a ha,U⟩) ((aCn hQ h1 hs2 oM (hst hfr hd) hSt h2).1 rfl)
    |no0 hc' hw hd h=>rw[hc] at hc';cases hc'
    |calm hc' hw d v hd hn hr h=>
     obtain⟨s',ρ',h1,h2,_⟩:=h
     exact RA.take0 (S0:=λ_=>True) (ixT i) hi htk (.inl λ_=>trivial) trivial hd hn (λdl a ha=> .inl ⟨hw dl a ha,λu _=>by rw[ha.eval];exact hr u λh=>by rw[hrd] at h;cases h⟩) ((aCn hQ h1 hs2 oM (hst hfr hd) hSt h2).1 rfl)
   exact h0.elim
  |false=>
  simp only[uY,h2k,cond_false,aQ] at hs
  obtain⟨hs1,hs0,hs2,hs3⟩:=hs
  have one:V1X P T nb N ops.toList acc i s (λs'=>VTX P T nb N ops.toList acc t true K s')->∀dl a,Fm dl N f a->wpOp P ops (up dl N Q) (ixT i) (λa' w'=>Oks ops (Sr av) (ixT i) w w'/\nM P ops (up dl N Q) (Sr av) fu (listed.setIfInBounds (ixT i) true) a' w') a w:=λhm=>by
   unfold V1X at hm
   split at hm
   ·next o ho=>
    have hi:ops[ixT i]? =some o:=by rw[<-eM];exact ho
    cases hfr:xU o acc with
    |false=>rw[hfr] at hm;exact hm.elim
    |true=>
    rw[hfr] at hm
    simp only[cond_true] at hm
    have go:∀{f':Nat->Value} {w':World},Lnk f' acc av->(w'=w/\calm o=true\/w'=w/\calm o=false\/calm o=false)->Cn ρ0 w0 nb false w (λs'=>bif Nat.ble 1000 i then VTX P T nb N ops.toList acc t true K s' else bQr acc s' (VTX P T nb N ops.toList acc t true K s')) f' w'->Oks ops (Sr av) (ixT i) w w'/\RA P N ops Q (Sr av) fu (listed.setIfInBounds (ixT i) true) f' w':=λ{f' w'} hL' hcw hh=>by
     obtain⟨s',ρ',h1,h2,_⟩:=hh
     cases hb:Nat.ble 1000 i with
     |false=>
      rw[hb] at h1
      obtain⟨h3,h4⟩:=bIv (av:=av) h1 h2 hL'
      exact⟨.inr (.inr h4),(aCn hQ h3 hs2 oM hL' (.inl h4) h2).1 rfl⟩
     |true=>
      rw[hb] at h1 hs0
      simp only[jX,qL,aQ] at hs0
      exact⟨.inr (.inl hs0.1),(aCn hQ h1 hs2 oM hL' (.inr hs0.2) h2).1 rfl⟩
    cases aBi hT hm hD with
    |done hc hw hst'=>
     refine aTk hi hw ?_
     cases hst' with
     |val hd hn hr h=>exact .val hd hn hr (go (hst hfr hd) (.inr (.inr hc)) h)
     |skip hd hr h=>exact .skip hd hr (go hL (.inr (.inr hc)) h)
     |call hd hn hr hcc h=>exact .call hd hn hr hcc λv w' hp=>go (hst hfr hd) (.inr (.inr hc)) (h v w' hp)
    |no hw d hd hn h=>
     have:=go (hst hfr hd) (by cases calm o<;>simp) h
     exact bAw hi hw (.inl ⟨d,hd,hn,U⟩) this.1 this.2
    |no0 hc hw hd h=>
     have:=go hL (.inr (.inr hc)) h
     exact bAw hi hw (.inr ⟨hd,U⟩) this.1 this.2
    |calm hc hw d v hd hn hr h=>exact aTk hi hw (.val hd hn (hr w λ_=>Ext.refl w) (go (hst hfr hd) (.inl ⟨U,hc⟩) h))
   exact hm.elim
  have all:∀j∈pH (Tr.alt i t r),∀dl a,Fm dl N f a->wpOp P ops (up dl N Q) j (λa' w'=>Oks ops (Sr av) j w w'/\nM P ops (up dl N Q) (Sr av) fu (listed.setIfInBounds j true) a' w') a w:=λj hj=>by
   simp only[pH,h2k,cond_false] at hj
   rcases bW.1 hj with rfl|hj
   ·cases r with
    |nil=>exact one h
    |alt i' t' r'=>exact one h.1
   cases r with
   |nil=>cases hj
   |alt i' t' r'=>exact(aCn hQ h.2 hs3 oM hL hSr hD).2 j hj fu U
  refine⟨λhb dl a ha=>?_,λj hj fu' hfu dl a ha=>(Nat.succ.inj hfu)▸all j hj dl a ha⟩
  subst hb
  have hr:Region.ready .any ops listed=ixT i::pH r:=by simpa using hs1
  refine⟨λh0=>(by rw[hr] at h0;cases h0),λj hj=>?_⟩
  rw[hr] at hj
  refine all j ?_ dl a ha
  simp only[pH,h2k,cond_false]
  exact hj
include hT in
theorem aCo {Q:Po} (hQ:∀s D f w,K s->Dn ρ0 w0 nb s D f w->Q.nrm f w) {t:Tr}:∀{rs:List Nat} {acc:Acc} {av:List (Addr×Value)} {listed:Array Bool} {fuel:Nat} {s:SS} {D:Pl} {f:Nat->Value} {w:World},VRX P T nb N ops.toList t rs acc K s->aTj ops t rs listed=true->rs.length+t.depth<=fuel->Lnk f acc av->Sr av w->Dn ρ0 w0 nb s D f w->∃S:World->Prop,(∀u,S u->Sr av u)/\RA P N ops Q S fuel listed f w
 |[],acc,av,listed,fuel,s,D,f,w,h,hs,hl,hL,hS,hD=>⟨Sr av,λ_ h=>h,(aCn hT hQ h hs (by simpa using hl) hL (.inl hS) hD).1 rfl⟩
 |i::rs,acc,av,listed,0,s,D,f,w,h,hs,hl,hL,hS,hD=>by simp at hl
 |i::rs,acc,av,listed,fuel+1,s,D,f,w,h,hs,hl,hL,hS,hD=>by
  simp only[aTj,aQ] at hs
  obtain⟨htk,hs2⟩:=hs
  have hl':rs.length+t.depth<=fuel:=by simp only[eG] at hl;omega
  unfold VRX at h
  cases h2k:Nat.ble 2000 i with
  |true=>
   rw[h2k] at h
   simp only[cond_true] at h
   split at h
   ·next o ho=>
    have hi:ops[ixT i]? =some o:=by rw[<-eM];exact ho
    cases hq:(calm o&&(!xH o&&xU o acc)) with
    |false=>rw[hq] at h;exact h.elim
    |true=>
     rw[hq] at h
     simp only[cond_true] at h
     simp only[aQ,dP] at hq
     obtain⟨hc,hrd,hfr⟩:=hq
     have hst:∀{d:Nat} {v:Value},o.dst=some d->Lnk (Go.Vg.st f d v) acc av:=λ{d v} hd=>by
      unfold xU at hfr
      rw[hd] at hfr
      exact hL.st hfr
     cases aBi hT h hD with
     |done hc' hw hst=>rw[hc] at hc';cases hc'
     |no hw d hd hn h=>
      obtain⟨s',ρ',h1,h2,_⟩:=h
      obtain⟨S,k1,k2⟩:=aCo hQ h1 hs2 hl' (hst hd) hS h2
      exact⟨S,k1,RA.take0 (S0:=λ_=>True) (ixT i) hi htk (.inl λ_=>trivial) trivial hd hn (λdl a ha=> .inr ⟨hw dl a ha,U⟩) k2⟩
     |no0 hc' hw hd h=>rw[hc] at hc';cases hc'
     |calm hc' hw d v hd hn hr h=>
      obtain⟨s',ρ',h1,h2,_⟩:=h
      obtain⟨S,k1,k2⟩:=aCo hQ h1 hs2 hl' (hst hd) hS h2
      exact⟨S,k1,RA.take0 (S0:=λ_=>True) (ixT i) hi htk (.inl λ_=>trivial) trivial hd hn (λdl a ha=> .inl ⟨hw dl a ha,λu _=>by rw[ha.eval];exact hr u λh=>by rw[hrd] at h;cases h⟩) k2⟩
   exact h.elim
  |false=>
  rw[h2k] at h
  simp only[cond_false] at h
  split at h
  ·next d ty tp rty pos aft ho=>
   have hi:ops[ixT i]? =_:=(eM (xs:=ops) (i:=ixT i)).symm.trans ho
   split at h
   ·next ti hty=>
    cases hq:(Nat.ble 1 ti.size&&(Nat.ble (d+1) N&&((!Nat.beq tp d)&&bAu d acc))) with
    |false=>rw[hq] at h;exact h.elim
    |true=>
     rw[hq] at h
     simp only[cond_true] at h
     simp only[aQ,dP] at hq
     obtain⟨hsz,hdn,hne,hall⟩:=hq
     have hall':=hall
     have G:=hT ty ti hty
     obtain⟨dd,hun⟩:=G.un
     have hsz':=bT hsz
     have stp:∀{x:Value} {b o:Nat},f tp= .pointer (some ⟨b,o,none⟩)->(Go.Vg.st f d x) tp= .pointer (some ⟨b,o,none⟩):=λ{x b o} h1=>by
      unfold Go.Vg.st
      rw[hne]
      exact h1
     cases hag:ti.agg with
     |true=>
      rw[hag] at h
      simp only[cond_true] at h
      obtain⟨m,hm⟩:∃m,ti.size=m+1:=⟨ti.size-1,Uc⟩
      rw[hm] at h
      replace h:=aTi h
      obtain⟨b,o,hf⟩:=aOd hD h
      obtain⟨cs,vs,h1,h2,h3,h4⟩:=aJv hD hf h
      have hvl:vs.length=ti.size:=by rw[hm,<-h2];exact h3.len.symm
      obtain⟨s',h5,h6⟩:=hD.put h1 (.a h3)
      obtain⟨S,k1,k2⟩:=aCo hQ h5 hs2 hl' (Lnk.mk (stp hf) (hL.st hall')) (Sr.mk hS h4) h6
      refine⟨S,λu hu=>(Sr.of_mk (k1 u hu)).1,?_⟩
      refine RA.take0 (S0:=Sr (mkA b o 0 vs av)) (ixT i) hi htk (.inr ⟨U,k1⟩) (Sr.mk hS h4) U (bT hdn) (λ_ act ha=> .inl ⟨by simp[Region.wanted],λu hu=>?_⟩) k2
      rw[ha.eval]
      obtain⟨zz,hty2,_⟩:=G.ty
      refine aSn hun (G.ag.trans hag) (by rw[hvl];exact hty2) hf λq y hq=>?_
      have:=(Sr.of_mk hu).2 q y hq
      rwa [eP] at this
     |false=>
      rw[hag] at h
      simp only[cond_false] at h
      split at h
      ·next cv hjn=>
       replace hjn:rdS s tp=some cv:=by
        cases h1k:Nat.ble 1000 i with
        |true=>rw[h1k] at hjn;cases hjn
        |false=>rw[h1k] at hjn;exact hjn
       obtain⟨b,o,x,hf,hx,hcx⟩:=aFx (aOc hjn).1 hD (aOc hjn).2
       obtain⟨s',h5,h6⟩:=hD.put h (.c hcx)
       have hL2:Lnk (Go.Vg.st f d x) ((tp,0,.inr d)::acc) ((⟨b,o+0,none⟩,x)::av):=⟨⟨b,o,stp hf,U,by simp[Go.Vg.st,gV]⟩,hL.st hall'⟩
       have hS2:Sr ((⟨b,o+0,none⟩,x)::av) w:=λe he=>by
        rcases bW.1 he with rfl|he
        ·exact hx
        exact hS e he
       obtain⟨S,k1,k2⟩:=aCo hQ h5 hs2 hl' hL2 hS2 h6
       refine⟨S,λu hu e he=>k1 u hu e (.tail _ he),?_⟩
       refine RA.take0 (S0:=Sr ((⟨b,o+0,none⟩,x)::av)) (ixT i) hi htk (.inr ⟨U,k1⟩) hS2 U (bT hdn) (λ_ act ha=> .inl ⟨by simp[Region.wanted],λu hu=>?_⟩) k2
       rw[ha.eval]
       exact aPz hun (G.ag.trans hag) hf (hu _ (.head _))
      replace h:=aTi h
      obtain⟨b,o,hf⟩:=aOd hD h
      obtain⟨cs,vs,h1,h2,h3,h4⟩:=aJv hD hf h
      split at h1
      ·next c=>
       obtain⟨v,rfl⟩:∃v,vs=[v]:=by
        have:vs.length=1:=by rw[<-h3.len];rfl
        match vs,this with
        |[v],_=>exact⟨v,U⟩
       obtain⟨s',h5,h6⟩:=hD.put h1 (.c h3.1)
       obtain⟨S,k1,k2⟩:=aCo hQ h5 hs2 hl' (Lnk.mk (stp hf) (hL.st hall')) (Sr.mk hS h4) h6
       refine⟨S,λu hu=>(Sr.of_mk (k1 u hu)).1,?_⟩
       refine RA.take0 (S0:=Sr (mkA b o 0 [v] av)) (ixT i) hi htk (.inr ⟨U,k1⟩) (Sr.mk hS h4) U (bT hdn) (λ_ act ha=> .inl ⟨by simp[Region.wanted],λu hu=>?_⟩) k2
       rw[ha.eval]
       exact aPz hun (G.ag.trans hag) hf ((Sr.of_mk hu).2 0 v U)
      exact h1.elim
   exact h.elim
  exact h.elim
include hT in
theorem aJw {Q:Po} (hQ:∀s D f w,K s->Dn ρ0 w0 nb s D f w->Q.nrm f w) {t:Tr} {rs:List Nat}:∀{pre:List Nat} {listed:Array Bool} {fuel:Nat} {s:SS} {D:Pl} {f:Nat->Value} {w:World},VHX P T nb N ops.toList rs t pre K s->aFw ops rs t pre listed=true->pre.length+(rs.length+t.depth)<=fuel->Dn ρ0 w0 nb s D f w->∃S,RA P N ops Q S fuel listed f w
 |[],listed,fuel,s,D,f,w,h,hs,hl,hD=>by
  obtain⟨S,_,h⟩:=aCo hT hQ (acc:=[]) (av:=[]) h hs (by simpa using hl) trivial (λe he=>by cases he) hD
  exact⟨S,h⟩
 |i::pre,listed,0,s,D,f,w,h,hs,hl,hD=>by simp at hl
 |i::pre,listed,fuel+1,s,D,f,w,h,hs,hl,hD=>by
  simp only[aFw,aQ] at hs
  obtain⟨hs1,hs2⟩:=hs
  unfold VHX at h
  split at h
  ·next o ho=>
   have hi:ops[i]? =some o:=by rw[<-eM];exact ho
   rw[hi] at hs1
   simp only[aQ,dP] at hs1
   obtain⟨hc,hrd,htk⟩:=hs1
   have hl':pre.length+(rs.length+t.depth)<=fuel:=by simp only[eG] at hl;omega
   cases aBi hT h hD with
   |done hc' hw hst=>rw[hc] at hc';cases hc'
   |no hw d hd hn h=>
    obtain⟨s',ρ',h1,h2,_⟩:=h
    obtain⟨S,hh⟩:=aJw hQ h1 hs2 hl' h2
    exact⟨S,RA.take0 (S0:=λ_=>True) i hi htk (.inl λ_=>trivial) trivial hd hn (λdl a ha=> .inr ⟨hw dl a ha,U⟩) hh⟩
   |no0 hc' hw hd h=>rw[hc] at hc';cases hc'
   |calm hc' hw d v hd hn hr h=>
    obtain⟨s',ρ',h1,h2,_⟩:=h
    obtain⟨S,hh⟩:=aJw hQ h1 hs2 hl' h2
    exact⟨S,RA.take0 (S0:=λ_=>True) i hi htk (.inl λ_=>trivial) trivial hd hn (λdl a ha=> .inl ⟨hw dl a ha,λu _=>by rw[ha.eval];exact hr u λh=>by rw[hrd] at h;cases h⟩) hh⟩
  exact h.elim
end
structure Kt where
 nrm:SS->Prop
 ext:Nat->SS->Prop
 ret:SS->Prop
structure Lk (ρ0:Pl) (w0:World) (nb:Nat) (K:Kt) (Q:Po):Prop where
 nrm:∀s D f w,K.nrm s->Dn ρ0 w0 nb s D f w->Q.nrm f w
 ext:∀i s D f w,K.ext i s->Dn ρ0 w0 nb s D f w->Q.ext i f w
 ret:∀s D f w,K.ret s->Dn ρ0 w0 nb s D f w->Q.ret f w
def Sd (P:Program) (nb N:Nat) (c:Code) (K:Kt) (s:SS):Prop:=∀ρ0 w0 D f w Q,Lk ρ0 w0 nb K Q->Dn ρ0 w0 nb s D f w->WP P N c Q f w
def bAz:Code->Bool
 |.seq _ b=>bAz b
 |.block _ (.loop _)=>true
 |_=>false
def VC (P:Program) (T:TT) (nb N:Nat):Code->Kt->SS->Prop
 |.skip,K,s=>K.nrm s
 |.region _ ops d,K,s=>bif ndA ops.toList then (bif d then ∃order:Ord,bAv ops order=true/\VR P T nb N ops.toList order K.nrm s else VL P T nb N ops.toList ops.toList K.nrm s) else False
 |.seq a b,K,s=>bif bAz a then VC P T nb N a ⟨λs'=>Sd P nb N b K s',K.ext,K.ret⟩ s else VC P T nb N a ⟨λs'=>VC P T nb N b K s',K.ext,K.ret⟩ s
 |.cond c a b,K,s=>(match val [] s c with
  |some (.c (.v (.bool t)))=>bif t then VC P T nb N a K s else VC P T nb N b K s
  |some (.c (.b p _))=>(p->Sd P nb N a K s)/\(¬p->Sd P nb N b K s)
  |_=>False)
 |.block id c,K,s=>VC P T nb N c ⟨K.nrm,λj s'=>bif Nat.beq j id then K.nrm s' else K.ext j s',K.ret⟩ s
 |.loop c,K,s=>Sd P nb N (.loop c) K s
 |.exit i,K,s=>K.ext i s
 |.ret,K,s=>K.ret s
 |_,_,_=>False
section
variable {P:Program} {T:TT} {nb N:Nat} {s:SS} {K K':Kt} {c a b:Code}
theorem aDr (hT:Good P T) (hm:P.follows .mixedOrders=true):∀{c:Code} {K:Kt} {s:SS},VC P T nb N c K s->Sd P nb N c K s
 |.skip,K,s,h=>λρ0 w0 D f w Q hL hD=>bVi (hL.nrm s D f w h hD)
 |.region id ops d,K,s,h=>λρ0 w0 D f w Q hL hD=>by
  unfold VC at h
  cases hnd:ndA ops.toList with
  |false=>rw[hnd] at h;exact h.elim
  |true=>
  rw[hnd] at h
  simp only[cond_true] at h
  cases d with
  |false=>
   simp only[cond_false] at h
   have:=aSk (P:=P) (n:=N) (Q:=Q) (f:=f) (w:=w) (id:=id) (l:=ops.toList) (by
    rw[fV]
    exact aBj hT hL.nrm h hD) hnd
   rwa [fV] at this
  |true=>
   simp only[cond_true] at h
   obtain⟨order,h1,h2⟩:=h
   cases order with
   |seq l=>
    simp only[bAv,aQ] at h1
    refine bMo hm (hd:=hnd) λw1 hw1=>?_
    exact aId hT hL.nrm h2 h1.1 (bT h1.2) (.inl λu=>iO) (hD.ext hw1)
   |joinR pre t=>
    simp only[bAv,aQ] at h1
    obtain⟨σ,S,C,h3,h4⟩:=h2
    refine bMo hm (hd:=hnd) λw1 hw1=>?_
    refine aQu hT (λs' ρ' f' w' hg hD'=>?_) h3 h1.1 (bT h1.2) (hD.ext hw1)
    obtain⟨g,ρ2,hC,hD2⟩:=hg _ _ _ _ _ hD'
    exact hL.nrm _ ρ2 f' w' (h4 g hC) hD2
   |treeX pre rs t=>
    simp only[bAv,aQ] at h1
    obtain⟨S',hh⟩:=aJw hT (Q:=Q) hL.nrm h2 h1.1 (bT h1.2) (hD.ext (Below.drew (Below.refl _ _)))
    exact aPy S' hm hh hnd
   |joinX pre rs t=>
    simp only[bAv,aQ] at h1
    obtain⟨σ,S,C,h3,h4⟩:=h2
    obtain⟨S',hh⟩:=aJw hT (Q:=Q) (λs' ρ' f' w' hg hD'=>by
     obtain⟨g,ρ2,hC,hD2⟩:=hg _ _ _ _ _ hD'
     exact hL.nrm _ ρ2 f' w' (h4 g hC) hD2) h3 h1.1 (bT h1.2) (hD.ext (Below.drew (Below.refl _ _)))
    exact aPy S' hm hh hnd
 |.seq a b,K,s,h=>λρ0 w0 D f w Q hL hD=>by
  simp only[VC] at h
  cases he:bAz a with
  |true=>rw[he] at h;exact aXt (aDr hT hm (c:=a) h ρ0 w0 D f w _ ⟨λs' ρ' f' w' h' hD'=>h' ρ0 w0 ρ' f' w' Q hL hD',hL.ext,hL.ret⟩ hD)
  |false=>rw[he] at h;exact aXt (aDr hT hm (c:=a) h ρ0 w0 D f w _ ⟨λs' ρ' f' w' h' hD'=>aDr hT hm (c:=b) h' ρ0 w0 ρ' f' w' Q hL hD',hL.ext,hL.ret⟩ hD)
 |.cond c a b,K,s,h=>λρ0 w0 D f w Q hL hD=>by
  simp only[VC] at h
  split at h
  ·next t hc=>
   have he:=(bS hD.f eC hc).inv_c.inv_v
   cases t with
   |true=>exact bHc he (aDr hT hm (c:=a) h ρ0 w0 D f w Q hL hD)
   |false=>exact bHd he (aDr hT hm (c:=b) h ρ0 w0 D f w Q hL hD)
  ·next p hp hc=>
   have he:=(bS hD.f eC hc).inv_c.inv_b
   exact aXu he (λht=>h.1 (of_decide_eq_true ht) ρ0 w0 D f w Q hL hD) (λht=>h.2 (of_decide_eq_false ht) ρ0 w0 D f w Q hL hD)
  exact h.elim
 |.block id c,K,s,h=>λρ0 w0 D f w Q hL hD=>aXv (aDr hT hm (c:=c) h ρ0 w0 D f w _ ⟨hL.nrm,λi s' ρ' f' w' h' hD'=>by
  cases hb:Nat.beq i id with
  |true=>simp only[hb,cond_true] at h' ⊢;exact hL.nrm s' ρ' f' w' h' hD'
  |false=>simp only[hb,cond_false] at h' ⊢;exact hL.ext i s' ρ' f' w' h' hD',hL.ret⟩ hD)
 |.loop c,K,s,h=>h
 |.exit i,K,s,h=>λρ0 w0 D f w Q hL hD=>bVj (hL.ext i s D f w h hD)
 |.ret,K,s,h=>λρ0 w0 D f w Q hL hD=>cAv (hL.ret s D f w h hD)
 |.rangeFunc _ _ _ _,K,s,h=>h.elim
 |.scope _,K,s,h=>h.elim
 |.label _,K,s,h=>h.elim
 |.goto _,K,s,h=>h.elim
 |.refuse _,K,s,h=>h.elim
/-! ### joints and loops -/
def Sub (s s':SS):Prop:=∀ρ0 w0 nb D f w,Dn ρ0 w0 nb s D f w->Dn ρ0 w0 nb s' D f w
abbrev To {σ:Type} (U8:σ->SS) (C:σ->Prop) (s:SS):Prop:=∃g,C g/\Sub s (U8 g)
theorem Sd.to {σ:Type} {U8:σ->SS} {C:σ->Prop} (h:Sd P nb N c ⟨To U8 C,K.ext,K.ret⟩ s) (hk:∀g,C g->K.nrm (U8 g)):Sd P nb N c K s:=λρ0 w0 D f w Q hL hD=>
 h ρ0 w0 D f w Q ⟨λs' ρ' f' w' ⟨g,hc,hs⟩ hD'=>hL.nrm _ ρ' f' w' (hk g hc) (hs _ _ _ _ _ _ hD'),hL.ext,hL.ret⟩ hD
theorem Sd.loop {σ:Type} (U8:σ->SS) (C:σ->Prop) (μ:σ->Nat) (g0:σ) (h0:C g0) (hs:Sub s (U8 g0)) (hr:∀g,C g->Sd P nb N c ⟨λs'=>∃g',(C g'/\μ g'<μ g)/\Sub s' (U8 g'),K.ext,K.ret⟩ (U8 g)):Sd P nb N (.loop c) K s:=λρ0 w0 D f w Q hL hD=>
 aMu (σ:=σ) (λg f w=>C g/\∃D,Dn ρ0 w0 nb (U8 g) D f w) μ g0 ⟨h0,D,hs _ _ _ _ _ _ hD⟩ λg f w ⟨hc,D,hD⟩=>
  hr g hc ρ0 w0 D f w _ ⟨λs' ρ' f' w' ⟨g',⟨hc',hlt⟩,hs'⟩ hD'=>⟨g',⟨hc',ρ',hs' _ _ _ _ _ _ hD'⟩,hlt⟩,hL.ext,hL.ret⟩ hD
/-! ### the end of a function -/
def bIw (T:TT) (s:SS):ResultVar->(DV->Prop)->Prop
 |.tmp t,k=>(match gK s.sl t with
  |some d=>k d
  |none=>False)
 |.cell a t,k=>match T t,gK s.sl a with
  |some ti,some (.c (.p j o))=>(match s.bl[j]? with
   |some b=>ldK ti o b.2.2 k
   |none=>False)
  |_,_=>False
def bQt (T:TT) (s:SS):List ResultVar->(List DV->Prop)->Prop
 |[],k=>k []
 |r::l,k=>bIw T s r λd=>bQt T s l λds=>k (d::ds)
def bWl:List DV->DV
 |[d]=>d
 |l=> .t l
def bQu (cl:List Bool) (nb:Nat) (s:SS) (d:DV) (o:OutF):Prop:=∀ρ0 w0 D w v,DnW ρ0 w0 nb s.bl D w->D.F=s.fl->Hd D s.bl.length w d v->∃ρ',DnW ρ0 w0 nb o.bl ρ' w/\Hd ρ' o.bl.length w o.d v/\ClB cl o.bl/\ρ'.F=o.fl
abbrev Fin (cl:List Bool) (nb:Nat) (s:SS) (d:DV) (o:Out):Prop:=bQu cl nb s d o.F
def aQv (T:TT) (cl:List Bool) (nb:Nat) (rs:List ResultVar) {σ:Type} (R:σ->OutF) (s:SS):Prop:=bQt T s rs λds=>∃g,(R g).C/\bQu cl nb s (bWl ds) (R g)
theorem bIx (hT:Good P T) {ρ0 D:Pl} {w0 w:World} {f:Nat->Value} {r:ResultVar} {k:DV->Prop} (h:bIw T s r k) (hD:Dn ρ0 w0 nb s D f w):∃d v,k d/\Hd D s.bl.length w d v/\bPp P f w r v:=by
 unfold bIw at h
 split at h
 ·next t=>
  split at h
  ·next d hd=>exact⟨d,_,h,hD.f.sl _ d hd,U⟩
  exact h.elim
 next t=>
 split at h
 ·next ti j o ht ha=>
  split at h
  ·next bb hb=>
   obtain⟨T',e,l⟩:=bb
   obtain⟨d,hk,hd⟩:=aSy h
   obtain⟨hj,b,hρ,he⟩:=(hD.f.sl _ _ ha).inv_c
   obtain⟨vl,junk,hh,hl,_⟩:=(hD.m.ok j T' e l hb).at hρ
   obtain⟨v,hv,hcase⟩:=hd D s.bl.length w vl hl
   have G:=hT t ti ht
   refine⟨d,v,hk,hv,b,o,?_⟩
   rcases hcase with ⟨hag,rfl,hlen⟩|⟨hag,hv'⟩
   ·refine⟨(vl.drop o).take ti.size,he,G.un,λi u hi=>?_,.inl ⟨G.ag.trans hag,?_,U⟩⟩
    ·rw[fK] at hi
     split at hi
     ·rw[dN] at hi;exact nR hh hi
     cases hi
    obtain⟨zz,hty,_⟩:=G.ty
    exact⟨ti.by',zz,by rw[hlen];exact hty⟩
   refine⟨[v],he,G.un,λi u hi=>?_,.inr ⟨G.ag.trans hag,U⟩⟩
   cases i with
   |zero=>injection hi with hi;subst hi;exact nR hh hv'
   |succ i=>cases hi
  exact h.elim
 exact h.elim
theorem aTm (hT:Good P T) {ρ0 D:Pl} {w0 w:World} {f:Nat->Value} (hD:Dn ρ0 w0 nb s D f w):∀{rs:List ResultVar} {k:List DV->Prop},bQt T s rs k->∃ds vs,k ds/\HL D s.bl.length w ds vs/\aQb P f w rs vs
 |[],k,h=>⟨[],[],h,U1,U1⟩
 |r::rs,k,h=>by
  obtain⟨d,v,h1,h2,h3⟩:=bIx hT (show bIw T s r _ from h) hD
  obtain⟨ds,vs,h4,h5,h6⟩:=aTm hT hD h1
  exact⟨d::ds,v::vs,h4,⟨h2,h5⟩,h3,h6⟩
theorem HL.len {D:Pl} {n:Nat} {w:World}:∀{l:List DV} {m:List Value},HL D n w l m->l.length=m.length
 |[],[],_=>rfl
 |[],_::_,h=>h.elim
 |_::_,[],h=>h.elim
 |_::_,_::_,h=>by simp[HL.len h.2]
theorem HL.get {D:Pl} {n:Nat} {w:World}:∀{l:List DV} {m:List Value} {i:Nat} {d:DV} {u:Value},HL D n w l m->l[i]? =some d->m[i]? =some u->Hd D n w d u
 |[],_,i,d,u,_,h,_=>by cases h
 |_::_,[],i,d,u,h,_,_=>h.elim
 |a::l,x::m,0,d,u,h,h1,h2=>by injection h1 with h1;injection h2 with h2;subst h1 h2;exact h.1
 |a::l,x::m,i+1,d,u,h,h1,h2=>HL.get h.2 (by simpa using h1) (by simpa using h2)
theorem bQv {D:Pl} {n:Nat} {w:World} {ds:List DV} {vs:List Value} (h:HL D n w ds vs):Hd D n w (bWl ds) (aQc vs):=by
 have gen:Hd D n w (.t ds) (.tuple vs.toArray):=.t h.len λi d u h1 h2=>h.get h1 h2
 match ds,vs,h with
 |[],[],_=>exact gen
 |[d],[v],h=>exact h.1
 |a::b::ds,x::y::vs,_=>exact gen
 |[],_::_,h=>exact h.elim
 |_::_,[],h=>exact h.elim
 |[_],_::_::_,h=>exact h.2.elim
 |_::_::_,[_],h=>exact h.2.elim
def aWz:Nat->List DV->List (Nat×DV)
 |_,[]=>[]
 |i,d::l=>(i,d)::aWz (i+1) l
theorem aTn {D:Pl} {n:Nat} {w:World}:∀{al:List DV} {vals:List Value} {i t:Nat} {d:DV},HL D n w al vals->gK (aWz i al) t=some d->∃j u,t=i+j/\vals[j]? =some u/\Hd D n w d u
 |[],_,i,t,d,_,h=>by cases h
 |_::_,[],i,t,d,h,_=>h.elim
 |a::al,x::vals,i,t,d,h,ht=>by
  simp only[aWz,gK] at ht
  cases hb:Nat.beq i t with
  |true=>
   rw[hb] at ht
   injection ht with ht
   subst ht
   exact⟨0,x,(aM hb).symm,U,h.1⟩
  |false=>
   rw[hb] at ht
   obtain⟨j,u,h1,h2,h3⟩:=aTn h.2 ht
   exact⟨j+1,u,Uc,by simpa using h2,h3⟩
theorem oP (hT:Good P T) {q:FuncId} {cl:List Bool} {al:List DV} {bl:BL} {fl:List Fam} {σ:Type} {R:σ->OutF} {fn:Func} {rs:List ResultVar} (he:Ent P q) (hf:P.funcs[q]? =some fn) (hb:fn.body=some c) (hn:fn.ntmps=N) (hr:fn.results=rs.toArray) (hsz:al.length<=N) (hcl:ClB cl bl)
 (h:Sd P bl.length N c ⟨aQv T cl bl.length rs R,λ_ _=>False,aQv T cl bl.length rs R⟩ ⟨aWz 0 al,[],bl,fl⟩):CtrF P q cl al bl fl R:=by
 refine⟨he,hcl,λD w vals hv hD hFl=>?_⟩
 have fin:∀s' ρ' f' w',aQv T cl bl.length rs R s'->Dn D w bl.length s' ρ' f' w'->∃vs,aQb P f' w' rs vs/\∃g ρ',(R g).C/\DnW D w bl.length (R g).bl ρ' w'/\Hd ρ' (R g).bl.length w' (R g).d (aQc vs)/\ClB cl (R g).bl/\ρ'.F=(R g).fl:=λs' ρ' f' w' hret hD'=>by
  obtain⟨ds,vs,⟨g,hC,hF⟩,h2,h3⟩:=aTm hT hD' hret
  obtain⟨ρ2,k1,k2,k3,k4⟩:=hF _ _ _ _ _ hD'.m hD'.l (bQv h2)
  exact⟨vs,h3,g,ρ2,hC,k1,k2,k3,k4⟩
 refine aXz (n:=N) (rs:=rs) hf hb hn hr (by simp only[uF];rw[<-hv.len];exact hsz) (h D w D _ w _ ⟨fin,λ_ _ _ _ _ h _=>h.elim,fin⟩ ⟨hD,⟨λt d ht=>?_,λt gs d ht=>by cases ht⟩,hFl⟩)
 obtain⟨j,u,h1,h2,h3⟩:=aTn hv ht
 rw[eP] at h1
 subst h1
 have:vals.toArray.getD t undef=u:=by simp[Array.getD,eH h2,(oE.1 h2).2]
 show Hd D bl.length w d (vals.toArray.getD t undef)
 rw[this]
 exact h3
theorem gA (hT:Good P T) {q:FuncId} {cl:List Bool} {al:List DV} {bl:BL} {σ:Type} {R:σ->Out} {fn:Func} {rs:List ResultVar} (he:Ent P q) (hf:P.funcs[q]? =some fn) (hb:fn.body=some c) (hn:fn.ntmps=N) (hr:fn.results=rs.toArray) (hsz:al.length<=N) (hcl:ClB cl bl)
 (h:Sd P bl.length N c ⟨aQv T cl bl.length rs λg=>(R g).F,λ_ _=>False,aQv T cl bl.length rs λg=>(R g).F⟩ ⟨aWz 0 al,[],bl,[]⟩):Ctr P q cl al bl R:=oP hT he hf hb hn hr hsz hcl h
end
end Go.Vy
