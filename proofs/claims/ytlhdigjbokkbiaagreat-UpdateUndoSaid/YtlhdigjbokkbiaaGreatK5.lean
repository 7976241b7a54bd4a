/- For every input the law UpdateUndo returns true, and what came in reads as it did. Part 5 of 7: Vyn Vyo Vyp Tb Ua Da Db Dc Dd De Df Dg Ub Uc Ud Ue Uf Ug Uh Ui Uj Uk. -/
import Derived.Laws.StructEq
import Derived.ChangeKeysEq
import Derived.KernelRfl
import Derived.Test.YtlhdigjbokkbiaaGreatRows
import Derived.Test.YtlhdigjbokkbiaaGreatK4
set_option maxHeartbeats 4000000
set_option linter.unusedVariables false
set_option linter.unusedSimpArgs false
namespace Go.Vy
open Go.Vg Go.RowKit
theorem oM {p:Prop} (h:p:=by omega):p:=h
theorem bL {a b:Nat} (h:Nat.ble a b=true:=by rfl):a<=b:=Nat.le_of_ble_eq_true h
theorem wi {a z:Int} (h:(a=z∧-9223372036854775808<=z∧z<=9223372036854775807):=by (first|omega|(simp only[maxLen] at*;omega))):a=IntKind.i64.wrap z:=by rw[dJ h.2];exact h.1
def rn:List (Nat×Nat)->Nat->Bool
 |[],_=>false
 |(a,b)::l,t=>(Nat.ble a t&&Nat.ble t b)||rn l t
theorem ClB.one {T es:Nat} {l:List CV} (h:l.all cW=true):ClB [true] [(T,es,l)]:=λi T' es' l' hi _ c hc=>by
 cases i with
 |zero=>injection hi with hi;injection hi with _ hi;injection hi with _ hi;subst hi;exact List.all_eq_true.1 h c hc
 |succ i=>cases hi
theorem ClB.nil:ClB [] []:=λi T' es' l' hi _ c hc=>by cases hi
theorem ClB.cons {b:Bool} {cl:List Bool} {T es:Nat} {l:List CV} {bl:BL} (h:b=true->l.all cW=true) (hb:ClB cl bl):ClB (b::cl) ((T,es,l)::bl):=λi T' es' l' hi hc c hcc=>by
 cases i with
 |zero=>injection hi with hi;injection hi with _ hi;injection hi with _ hi;injection hc with hc;subst hi hc;exact List.all_eq_true.1 (h rfl) c hcc
 |succ i=>exact hb i T' es' l' (by simpa using hi) (by simpa using hc) c hcc
theorem HL.cons {ρ:Pl} {n:Nat} {w:World} {d d':DV} {l l':List DV} (hd:∀v,Hd ρ n w d' v->Hd ρ n w d v) (hl:∀vl,HL ρ n w l' vl->HL ρ n w l vl):∀vl,HL ρ n w (d'::l') vl->HL ρ n w (d::l) vl
 |[],h=>h
 |v::vl,h=>⟨hd v h.1,hl vl h.2⟩
section
variable {P:Program} {nb N:Nat} {cd:Code} {K:Kt} {s:SS}
theorem aJv (t:Nat) {A:Option Addr} {n c e:Nat} {get:Nat->List CV} (ht:cT s.sl t=some (.c (.r A n c e get))) (h:n<=maxLen->Sd P nb N cd K s):Sd P nb N cd K s:=λρ0 w0 ρ f w Q hL hD=>by
 have:=(hD.f.sl t _ ht).inv_c.inv_r.2
 refine h ?_ ρ0 w0 ρ f w Q hL hD
 cases this with
 |nil=>exact Nat.zero_le _
 |r b o n c e get V hc hm=>omega
theorem yO (t:Nat) (T es:Nat) (ht:cT s.sl t=some (.c (.v (.slice none 0 0)))) (hes:0<es) (h:kB s.bl (T,es,[]) λbl'=>Sd P nb N cd K ⟨(t,.c (.s (cnt s.bl 0) 0))::s.sl,s.gl,bl',s.fl⟩):Sd P nb N cd K s:=λρ0 w0 ρ f w Q hL hD=>by
 have h':=fL h
 rw[nW] at h'
 have hp:∀b,((none,0):Option Nat×Nat).1=some b->w.heap.size<=b:=λb hb=>by cases hb
 have kp:Kp ρ s.bl.length w (mM ρ s.bl.length (none,0)) (s.bl.length+1) w:=Kp.new hp (Ext.refl w)
 have hn:(s.bl++[(T,es,[])]).length=s.bl.length+1:=by simp
 refine h' ρ0 w0 (mM ρ s.bl.length (none,0)) f w Q hL ⟨hD.m.new hp (Ext.refl w) ?_,⟨λt' d ht'=>?_,λt' gs d ht'=>?_⟩,hD.l⟩
 ·unfold Bq
  rw[eK]
  exact⟨rfl,rfl,hes⟩
 ·show Hd _ (s.bl++[(T,es,[])]).length w d (f t')
  rw[hn]
  simp only[cT] at ht'
  cases hb:Nat.beq t t' with
  |true=>
   rw[hb] at ht'
   injection ht' with ht'
   subst ht'
   have:=Nat.eq_of_beq_eq_true hb
   subst this
   have he:=(hD.f.sl t _ ht).inv_c.inv_v
   refine .c ⟨Nat.lt_succ_self _,?_⟩
   rw[eK,he]
   rfl
  |false=>rw[hb] at ht';exact(hD.f.sl t' d ht').kp kp
 show(_->Hd _ (s.bl++[(T,es,[])]).length w d (f t'))∧_
 rw[hn]
 exact⟨λhs=>((hD.f.gl t' gs d ht').1 hs).kp kp,(hD.f.gl t' gs d ht').2⟩
/-! ### a loop whose rounds have blocks of their own -/
def aBq:BL->BL->Prop
 |_,[]=>True
 |x::l,[y]=>x=y
 |x::l,y::m=>x=y∧aBq l m
 |[],_::_=>False
theorem mA:∀{bl bl':BL},aBq bl bl'->∃r,bl=bl'++r
 |bl,[],_=>⟨bl,rfl⟩
 |[],[_],h=>h.elim
 |[],_::_::_,h=>h.elim
 |x::l,[y],h=>⟨l,by rw[show x=y from h];rfl⟩
 |x::l,y::z::m,h=>by
  obtain⟨h1,h2⟩:=h
  obtain⟨r,hr⟩:=mA h2
  exact⟨r,by rw[h1,hr];rfl⟩
def scB (n:Nat) (bl:BL):Prop:=∀(i:Nat) (T:TypeId) (es:Nat) (l:List CV),bl[i]? =some (T,es,l)->∀c∈l,scC n c=true
theorem scB.nil {n:Nat}:scB n []:=λi T es l h=>by cases h
theorem scB.cons {n T es:Nat} {l:List CV} {bl:BL} (h:l.all (scC n)=true) (hb:scB n bl):scB n ((T,es,l)::bl):=λi T' es' l' hi c hc=>by
 cases i with
 |zero=>injection hi with hi;injection hi with _ hi;injection hi with _ hi;subst hi;exact List.all_eq_true.1 h c hc
 |succ i=>exact hb i T' es' l' (by simpa using hi) c hc
theorem DnW.drop {ρ0 ρ:Pl} {w0 w:World} {bl r:BL} (hD:DnW ρ0 w0 nb (bl++r) ρ w) (hs:scB bl.length bl) (hnb:nb<=bl.length):DnW ρ0 w0 nb bl ρ w:=by
 have hn:bl.length<=(bl++r).length:=by simp
 refine⟨λi T es l hi=>?_,λi j b hi hj=>hD.inj i j b oM oM,λi b h1 h2=>hD.fr i b h1 oM,hnb,hD.rel,hD.pl,hD.zz,hD.fam.mono rfl (λb hb=>⟨hb.less hn,rfl⟩) (λ_ _=>rfl) λi b hi hb=>hD.fam.own i b oM hb,hD.ffr⟩
 have hq:=hD.ok i T es l (by rw[List.getElem?_append_left (bK hi)];exact hi)
 unfold Bq at hq ⊢
 cases hb:(ρ i).1 with
 |none=>simp only[hb] at hq ⊢;exact hq
 |some b=>
  simp only[hb] at hq ⊢
  obtain⟨vl,junk,q1,q2,q3⟩:=hq
  exact⟨vl,junk,q1,q2.less (hs i T es l hi) hn,q3⟩
def MtD (M:Nat->Bool) (base:List (Nat×DV)) (fl:List Fam) (s:SS) (chg:List (Nat×DV)) (bl:BL):Prop:=nF M base fl s.fl s.sl∧aBq s.bl bl∧AllC s.sl chg
theorem nH {n:Nat} {l:List (Nat×DV)} (h:l.all (λe=>scD n e.2)=true) {t:Nat} {d:DV} (ht:cT l t=some d):scD n d=true:=by
 induction l with
 |nil=>cases ht
 |cons e l ih=>
  obtain⟨t0,d0⟩:=e
  simp only[List.all_cons,Bool.and_eq_true] at h
  unfold cT at ht
  cases hb:Nat.beq t0 t with
  |true=>rw[hb] at ht;injection ht with ht;subst ht;exact h.1
  |false=>rw[hb] at ht;exact ih h.2 ht
theorem qH {s s':SS} {r:BL} (hb:s.bl=s'.bl++r) (hl:s.fl=s'.fl) (hg:s'.gl=[]) (hsc:scB s'.bl.length s'.bl) (h:∀t d,cT s'.sl t=some d->(∃d0,cT s.sl t=some d0∧EqD d0 d)∧scD s'.bl.length d=true):∀ρ0 w0 nb ρ f w,nb<=s'.bl.length->Dn ρ0 w0 nb s ρ f w->Dn ρ0 w0 nb s' ρ f w:=λρ0 w0 nb ρ f w hnb hD=>by
 have hm:=hD.m
 rw[hb] at hm
 refine⟨hm.drop hsc hnb,⟨λt d ht=>?_,λt gs d ht=>?_⟩,hD.l.trans hl⟩
 ·obtain⟨⟨d0,h1,h2⟩,h3⟩:=h t d ht
  have:=h2.hd (hD.f.sl t d0 h1)
  rw[hb] at this
  exact this.less h3 (by simp)
 rw[hg] at ht;cases ht
theorem bBg {c:Code} (M:Nat->Bool) {σ:Type} (n0:Nat) (chg:σ->List (Nat×DV)) (bls:σ->BL) (C:σ->Prop) (μ:σ->Nat) (g0:σ) (hn:∀g,(bls g).length=n0) (hnb:nb<=n0) (hsc:∀g,scB n0 (bls g)) (hcg:∀g,(chg g).all (λe=>scD n0 e.2)=true)
 (h:nE M s.sl λbase=>(base.all (λe=>scD n0 e.2)=true∧C g0∧aBq s.bl (bls g0)∧AllC s.sl (chg g0))∧∀g,C g->Sd P nb N c ⟨λs'=>∃g',(C g'∧μ g'<μ g)∧MtD M base s.fl s' (chg g') (bls g'),K.ext,K.ret⟩ ⟨chg g++base,[],bls g,s.fl⟩):Sd P nb N (.loop c) K s:=by
 obtain⟨base,⟨⟨hbs,h0,hb,ha⟩,hr⟩,hk⟩:=jP h
 have hall:∀g t d,cT (chg g++base) t=some d->scD n0 d=true:=λg t d ht=>by
  rcases iP ht with h1|⟨_,h2⟩
  ·exact nH (hcg g) h1
  exact nH hbs h2
 intro ρ0 w0 ρ f w Q hL hD
 refine fU (σ:=σ) (λg f w=>C g∧∃ρ,Dn ρ0 w0 nb ⟨chg g++base,[],bls g,s.fl⟩ ρ f w) μ g0 ⟨h0,ρ,?_⟩ λg f w ⟨hc,ρ,hD⟩=>?_
 ·obtain⟨r,hr'⟩:=mA hb
  refine qH (s:=s) (s':=⟨chg g0++base,[],bls g0,s.fl⟩) (r:=r) hr' rfl rfl (by rw[hn];exact hsc g0) (λt d ht=>⟨?_,by rw[hn];exact hall g0 t d ht⟩) ρ0 w0 nb ρ f w (by rw[hn];exact hnb) hD
  rcases iP ht with h1|⟨h1,h2⟩
  ·exact ha.get h1
  exact⟨d,(hk t d h2).1,.refl d⟩
 refine hr g hc ρ0 w0 ρ f w _ ⟨λs' ρ' f' w' ⟨g',⟨hc',hlt⟩,hm⟩ hD'=>⟨g',⟨hc',ρ',?_⟩,hlt⟩,hL.ext,hL.ret⟩ hD
 obtain⟨r,hr'⟩:=mA hm.2.1
 refine qH (s:=s') (s':=⟨chg g'++base,[],bls g',s.fl⟩) (r:=r) hr' (iO hm.1).2 rfl (by rw[hn];exact hsc g') (λt d ht=>⟨?_,by rw[hn];exact hall g' t d ht⟩) ρ0 w0 nb ρ' f' w' (by rw[hn];exact hnb) hD'
 rcases iP ht with h1|⟨h1,h2⟩
 ·exact hm.2.2.get h1
 exact⟨d,by rw[(iO hm.1).1 t (hk t d h2).2];exact h2,.refl d⟩
end
def Tgt (nb:Nat) (X:SS->Prop):Prop:=∀(s:SS) (σ:Type) (S:σ->SS) (C:σ->Prop),Gt nb s S C->(∀g,C g->X (S g))->X s
section gt
variable {P:Program} {nb N:Nat} {cd c:Code} {K:Kt} {s:SS} {X:SS->Prop}
theorem tSd:Tgt nb (Sd P nb N cd K):=λs σ S C h hk ρ0 w0 ρ f w Q hL hD=>by
 obtain⟨g,ρ',hC,hD'⟩:=h ρ0 w0 ρ f w hD
 exact hk g hC ρ0 w0 ρ' f w Q hL hD'
theorem tGt {σ:Type} {S:σ->SS} {C:σ->Prop}:Tgt nb λs=>Gt nb s S C:=λs σ S C h hk ρ0 w0 ρ f w hD=>by
 obtain⟨g,ρ',hC,hD'⟩:=h ρ0 w0 ρ f w hD
 exact hk g hC ρ0 w0 ρ' f w hD'
theorem Tgt.one (hX:Tgt nb X) {s':SS} (h:∀ρ0 w0 ρ f w,Dn ρ0 w0 nb s ρ f w->∃ρ',Dn ρ0 w0 nb s' ρ' f w) (hk:X s'):X s:=
 hX s Unit (λ_=>s') (λ_=>True) (λρ0 w0 ρ f w hD=>by obtain⟨ρ',h'⟩:=h ρ0 w0 ρ f w hD;exact⟨(),ρ',trivial,h'⟩) λ_ _=>hk
theorem yP (hX:Tgt nb X) (t i:Nat) {n T es:Nat} {l:List CV} (get:Nat->List CV) (ht:cT s.sl t=some (.c (.s i n))) (hb:s.bl[i]? =some (T,es,l)) (hg:∀j,j<n->get j=(l.drop (j*es)).take es) (hl:n*es=l.length) (hes:0<es) (hclo:∀c∈l,cW c=true) (hnb:nb<=i)
 (h:∀A c,n<=c->c<=maxLen->oR i s λs'=>gR s'.bl i (T,es,[]) λbl'=>X ⟨(t,.c (.r A n c es get))::s'.sl,[],bl',s'.fl⟩):X s:=by
 refine hX s SS (λg=>g) X (λρ0 w0 ρ f w hD=>?_) λg hg=>hg
 obtain⟨A,c,s',ρ',k1,k2,_,k4,k5,k6⟩:=uW hD i get (hD.f.sl t _ ht).inv_c hb hg hl hes hclo hnb (kk:=λA c s'=>X ⟨(t,.c (.r A n c es get))::s'.sl,[],s'.bl,s'.fl⟩) h
 refine⟨_,ρ',k1,k2.m,⟨λt' d ht'=>?_,λt' gs d ht'=>by cases ht'⟩,k2.l⟩
 simp only[cT] at ht'
 cases hb':Nat.beq t t' with
 |true=>
  rw[hb'] at ht'
  injection ht' with ht'
  subst ht'
  have:=Nat.eq_of_beq_eq_true hb'
  subst this
  rw[<-k4] at k6
  exact .c k6
 |false=>rw[hb'] at ht';exact k2.f.sl t' d ht'
theorem Hl.setv {ρ:Pl} {n:Nat} {w:World} {l:List CV} {vl:List Value} (h:Hl ρ n w l vl) {k:Nat} {c:CV} (hc:∀x,vl[k]? =some x->Hc ρ n w c x):Hl ρ n w (l.set k c) vl:=by
 refine Hl.of_get (by rw[List.length_set,h.len]) λi c' u hc' hu=>?_
 rcases fK hc' with ⟨rfl,rfl,_⟩|⟨_,h2⟩
 ·exact hc u hu
 obtain⟨x,h3,h4⟩:=h.get h2
 rw[hu] at h3
 injection h3 with h3
 subst h3
 exact h4
theorem aYl (hX:Tgt nb X) (t k i:Nat) {n T es:Nat} {l:List CV} {r:List CV} (get:Nat->List CV) (ht:cT s.sl t=some (.a r)) (hk:r[k]? =some (.s i n)) (ho:((r.set k .u).all λc=>!eX i c)=true) (hb:s.bl[i]? =some (T,es,l)) (hg:∀j,j<n->get j=(l.drop (j*es)).take es) (hl:n*es=l.length) (hes:0<es) (hclo:∀c∈l,cW c=true) (hnb:nb<=i)
 (h:∀A c,n<=c->c<=maxLen->oR i s λs'=>gR s'.bl i (T,es,[]) λbl'=>X ⟨(t,.a (r.set k (.r A n c es get)))::s'.sl,[],bl',s'.fl⟩):X s:=by
 refine hX s SS (λg=>g) X (λρ0 w0 ρ f w hD=>?_) λg hg=>hg
 obtain⟨vl,hvl,hrl⟩:=(hD.f.sl t _ ht).inv_a
 obtain⟨x,hx,hcx⟩:=hrl.get hk
 obtain⟨A,c,s',ρ',k1,k2,k3,k4,k5,k6⟩:=uW hD i get hcx hb hg hl hes hclo hnb (kk:=λA c s'=>X ⟨(t,.a (r.set k (.r A n c es get)))::s'.sl,[],s'.bl,s'.fl⟩) h
 refine⟨_,ρ',k1,k2.m,⟨λt' d ht'=>?_,λt' gs d ht'=>by cases ht'⟩,k2.l⟩
 simp only[cT] at ht'
 cases hb':Nat.beq t t' with
 |true=>
  rw[hb'] at ht'
  injection ht' with ht'
  subst ht'
  have:=Nat.eq_of_beq_eq_true hb'
  subst this
  rw[<-k4] at k6
  rw[hvl]
  refine .a ?_
  have h1:Hl ρ' s'.bl.length w (r.set k .u) vl:=by
   rw[k4]
   refine Hl.kx (ρ:=ρ) (w:=w) (hrl.setv λx _=>Rc.u x) k3 λc hc=>?_
   have:=List.all_eq_true.1 ho c hc
   simpa using this
  have h2:=h1.setv (k:=k) (c:=.r A n c es get) λy hy=>by
   rw[hx] at hy
   injection hy with hy
   subst hy
   exact k6
  rwa [List.set_set] at h2
 |false=>rw[hb'] at ht';exact k2.f.sl t' d ht'
theorem aDu (t i:Nat) {n T es:Nat} {l:List CV} (get:Nat->List CV) (ht:cT s.sl t=some (.c (.s i n))) (hb:s.bl[i]? =some (T,es,l)) (hg:∀j,j<n->get j=(l.drop (j*es)).take es) (hl:n*es=l.length) (hes:0<es) (hclo:∀c∈l,cW c=true) (hnb:nb<=i)
 (h:∀A c,n<=c->c<=maxLen->oR i s λs'=>gR s'.bl i (T,es,[]) λbl'=>Sd P nb N cd K ⟨(t,.c (.r A n c es get))::s'.sl,[],bl',s'.fl⟩):Sd P nb N cd K s:=yP tSd t i get ht hb hg hl hes hclo hnb h
/-! ### families said otherwise -/
def Inj (fl:List Fam):Prop:=∀(f f':Nat) (F F':Fam) (j j' b:Nat),fl[f]? =some F->fl[f']? =some F'->j<F.N->j'<F'.N->F.A j=some b->F'.A j'=some b->f=f'∧j=j'
structure Fsub (fl fl':List Fam):Prop where
 sub:∀(f':Nat) (F':Fam),fl'[f']? =some F'->0<F'.es∧∀j',j'<F'.N->(F'.A j'=none∧F'.get j'=[]∧F'.cap j'=0)∨∃(f:Nat) (F:Fam) (j:Nat),fl[f]? =some F∧j<F.N∧F.A j=F'.A j'∧F.cap j=F'.cap j'∧F.get j=F'.get j'∧F.T=F'.T∧F.es=F'.es
 inj:Inj fl->Inj fl'
theorem Dn.fsub {ρ0 ρ:Pl} {w0 w:World} {f:Nat->Value} (hD:Dn ρ0 w0 nb s ρ f w) {fl':List Fam} (hs:Fsub s.fl fl'):∃ρ',Dn ρ0 w0 nb ⟨s.sl,s.gl,s.bl,fl'⟩ ρ' f w:=by
 have hl:=hD.l
 have hin:∀b,InL fl' b->InF ρ b:=λb ⟨F',hF',j',hj',hb⟩=>by
  obtain⟨f',hf'⟩:=List.getElem?_of_mem hF'
  rcases (hs.sub f' F' hf').2 j' hj' with ⟨h1,_⟩|⟨f0,F,j,h1,h2,h3,_⟩
  ·rw[h1] at hb;cases hb
  exact⟨F,by rw[hl];exact List.mem_of_getElem? h1,j,h2,by rw[h3];exact hb⟩
 have hz:∀b,Zf ρ s.bl.length w b->Zf ⟨ρ.at',ρ.Z,fl'⟩ s.bl.length w b∧w.heap[b]? =w.heap[b]?:=λb hb=>⟨⟨hb.lt,hb.no,hb.z,λhi=>hb.nf (hin b hi)⟩,rfl⟩
 have kp:Kp ρ s.bl.length w ⟨ρ.at',ρ.Z,fl'⟩ s.bl.length w:=⟨Nat.le_refl _,λ_ _=>rfl,hz⟩
 refine⟨⟨ρ.at',ρ.Z,fl'⟩,⟨λi T es l hi=>(hD.m.ok i T es l hi).kp kp (bK hi) λ_ _=>rfl,hD.m.inj,hD.m.fr,hD.m.nbl,⟨hD.m.rel.os,hD.m.rel.tape,hD.m.rel.output,hD.m.rel.size,hD.m.rel.block⟩,hD.m.pl,hD.m.zz,⟨λF hF=>?_,λi b hi hb hf=>hD.m.fam.own i b hi hb (hin b hf),?_⟩,λb hb=>hD.m.ffr b (hin b hb)⟩,hD.f.kp rfl rfl kp,rfl⟩
 ·obtain⟨f',hf'⟩:=List.getElem?_of_mem hF
  refine⟨(hs.sub f' F hf').1,λj' hj'=>?_⟩
  rcases (hs.sub f' F hf').2 j' hj' with ⟨h1,h2,h3⟩|⟨f0,F0,j,h1,h2,h3,h4,h5,h6,h7⟩
  ·unfold Mq
   simp only[h1]
   exact⟨h2,h3⟩
  have:=(hD.m.fam.mem hl h1 h2).mono hz λ_ _=>rfl
  unfold Mq at this ⊢
  rw[h3,h4,h5,h6,h7] at this
  exact this
 exact hs.inj (by have:=hD.m.fam.inj;rw[hl] at this;exact this)
theorem Tgt.fsub (hX:Tgt nb X) {fl':List Fam} (hs:Fsub s.fl fl') (hk:X ⟨s.sl,s.gl,s.bl,fl'⟩):X s:=hX.one (λ_ _ _ _ _ hD=>hD.fsub hs) hk
def pD (F:Fam):Fam:=⟨F.T,F.es,0,F.A,F.cap,F.get⟩
theorem vG {ρ0 ρ:Pl} {w0 w:World} {f:Nat->Value} (hD:Dn ρ0 w0 nb s ρ f w) {g:Nat} {F:Fam} (h:s.fl[g]? =some F):0<F.es:=(hD.m.fam.ok F (by rw[hD.l];exact List.mem_of_getElem? h)).1
theorem aOg (hX:Tgt nb X) (T es N:Nat) (hes:0<es) (h:kB s.fl ⟨T,es,N,λ_=>none,λ_=>0,λ_=>[]⟩ λfl'=>X ⟨s.sl,s.gl,s.bl,fl'⟩):X s:=by
 refine hX s Unit (λ_=>⟨s.sl,s.gl,s.bl,s.fl++[⟨T,es,N,λ_=>none,λ_=>0,λ_=>[]⟩]⟩) (λ_=>True) (λρ0 w0 ρ f w hD=>?_) λ_ _=>fL h
 have hs:Fsub s.fl (s.fl++[⟨T,es,N,λ_=>none,λ_=>0,λ_=>[]⟩]):=⟨λf' F' hf'=>?_,λhi f1 f2 F1 F2 j1 j2 b h1 h2 h3 h4 h5 h6=>?_⟩
 ·obtain⟨ρ',h'⟩:=hD.fsub hs
  exact⟨(),ρ',trivial,h'⟩
 ·rcases jL hf' with ⟨_,rfl⟩|⟨_,h2⟩
  ·exact⟨hes,λj' _=> .inl ⟨rfl,rfl,rfl⟩⟩
  exact⟨vG hD h2,λj' hj'=> .inr ⟨f',F',j',h2,hj',rfl,rfl,rfl,rfl,rfl⟩⟩
 rcases jL h1 with ⟨_,rfl⟩|⟨_,h1'⟩
 ·cases h5
 rcases jL h2 with ⟨_,rfl⟩|⟨_,h2'⟩
 ·cases h6
 exact hi f1 f2 F1 F2 j1 j2 b h1' h2' h3 h4 h5 h6
theorem bHb (hX:Tgt nb X) (f g j:Nat) {F G:Fam} (hf:s.fl[f]? =some F) (hg:s.fl[g]? =some G) (hne:Nat.beq f g=false) (hj:j<F.N) (hA:F.A j=none) (hG:0<G.N) (hT:G.T=F.T) (hes:G.es=F.es)
 (h:gR s.fl f ⟨F.T,F.es,F.N,upd F.A j (G.A 0),upd F.cap j (G.cap 0),upd F.get j (G.get 0)⟩ λfl1=>gR fl1 g (pD G) λfl2=>X ⟨s.sl,s.gl,s.bl,fl2⟩):X s:=by
 have hne':f≠g:=λe=>by subst e;rw[Nat.beq_refl] at hne;cases hne
 have hk:=dZ (dZ h)
 have hfl:f<s.fl.length:=bK hf
 have hgl:g<s.fl.length:=bK hg
 have hat:∀(x:Nat) (Y:Fam),((s.fl.set f ⟨F.T,F.es,F.N,upd F.A j (G.A 0),upd F.cap j (G.cap 0),upd F.get j (G.get 0)⟩).set g (pD G))[x]? =some Y->(x=g∧Y=pD G)∨(x=f∧Y=⟨F.T,F.es,F.N,upd F.A j (G.A 0),upd F.cap j (G.cap 0),upd F.get j (G.get 0)⟩)∨(x≠g∧x≠f∧s.fl[x]? =some Y):=λx Y hx=>by
  rcases jC hx (by rw[List.length_set];exact hgl) with h1|⟨h1,h2⟩
  ·exact .inl h1
  rcases jC h2 hfl with h3|⟨h3,h4⟩
  ·exact .inr (.inl h3)
  exact .inr (.inr ⟨h1,h3,h4⟩)
 refine hX s Unit (λ_=>⟨s.sl,s.gl,s.bl,_⟩) (λ_=>True) (λρ0 w0 ρ f0 w hD=>?_) λ_ _=>hk
 have hs:Fsub s.fl ((s.fl.set f ⟨F.T,F.es,F.N,upd F.A j (G.A 0),upd F.cap j (G.cap 0),upd F.get j (G.get 0)⟩).set g (pD G)):=⟨λf' F' hf'=>?_,λhi f1 f2 F1 F2 j1 j2 b h1 h2 h3 h4 h5 h6=>?_⟩
 ·obtain⟨ρ',h'⟩:=hD.fsub hs
  exact⟨(),ρ',trivial,h'⟩
 ·rcases hat f' F' hf' with ⟨_,rfl⟩|⟨_,rfl⟩|⟨_,_,h3⟩
  ·exact⟨show 0<G.es from vG hD hg,λj' hj'=>absurd hj' (Nat.not_lt_zero _)⟩
  ·refine⟨show 0<F.es from vG hD hf,λj' hj'=> .inr ?_⟩
   by_cases e:j'=j
   ·subst e;exact⟨g,G,0,hg,hG,aT.symm,aT.symm,aT.symm,hT,hes⟩
   exact⟨f,F,j',hf,hj',(aP e).symm,(aP e).symm,(aP e).symm,rfl,rfl⟩
  exact⟨vG hD h3,λj' hj'=> .inr ⟨f',F',j',h3,hj',rfl,rfl,rfl,rfl,rfl⟩⟩
 have src:∀(x:Nat) (Y:Fam) (y:Nat),((s.fl.set f ⟨F.T,F.es,F.N,upd F.A j (G.A 0),upd F.cap j (G.cap 0),upd F.get j (G.get 0)⟩).set g (pD G))[x]? =some Y->y<Y.N->Y.A y=some b->(x=f∧y=j∧G.A 0=some b)∨(x≠g∧∃Y0:Fam,s.fl[x]? =some Y0∧y<Y0.N∧Y0.A y=some b):=λx Y y hx hy hb=>by
  rcases hat x Y hx with ⟨_,rfl⟩|⟨rfl,rfl⟩|⟨a1,_,a3⟩
  ·exact absurd hy (Nat.not_lt_zero _)
  ·by_cases e:y=j
   ·subst e
    have hb':G.A 0=some b:=by rw[<-hb];exact aT.symm
    exact .inl ⟨rfl,rfl,hb'⟩
   have hb':F.A y=some b:=by rw[<-hb];exact(aP e).symm
   exact .inr ⟨hne',F,hf,hy,hb'⟩
  exact .inr ⟨a1,Y,a3,hy,hb⟩
 rcases src f1 F1 j1 h1 h3 h5 with ⟨a1,a2,a3⟩|⟨a0,Y1,a1,a2,a3⟩<;>rcases src f2 F2 j2 h2 h4 h6 with ⟨c1,c2,c3⟩|⟨c0,Y2,c1,c2,c3⟩
 ·exact⟨a1.trans c1.symm,a2.trans c2.symm⟩
 ·exact absurd (hi f2 g Y2 G j2 0 b c1 hg c2 hG c3 a3).1 c0
 ·exact absurd (hi f1 g Y1 G j1 0 b a1 hg a2 hG a3 c3).1 a0
 exact hi f1 f2 Y1 Y2 j1 j2 b a1 c1 a2 c2 a3 c3
theorem bHc (hX:Tgt nb X) (f:Nat) {F:Fam} (hf:s.fl[f]? =some F) (h:(∀j,j<F.N->F.get j≠[]->∃b,F.A j=some b)->X s):X s:=by
 refine hX s Unit (λ_=>s) (λ_=>∀j,j<F.N->F.get j≠[]->∃b,F.A j=some b) (λρ0 w0 ρ f0 w hD=>⟨(),ρ,λj hj hne=>?_,hD⟩) λ_=>h
 have hm:=hD.m.fam.mem hD.l hf hj
 unfold Mq at hm
 cases hA:F.A j with
 |none=>simp only[hA] at hm;exact absurd hm.1 hne
 |some b=>exact⟨b,rfl⟩
/-! ### cells said otherwise -/
def LeC (c c':CV):Prop:=∀ρ n w x,Hc ρ n w c x->Hc ρ n w c' x
theorem LeC.refl (c:CV):LeC c c:=λ_ _ _ _ h=>h
theorem LeC.nilh:LeC (.v (.slice none 0 0)) (.h none 0 0):=λρ n w x h=>by rw[h.inv_v];exact Rc.h none 0 0
theorem Hl.le {ρ:Pl} {n:Nat} {w:World} {l l':List CV} {vl:List Value} (h:Hl ρ n w l vl) (hl:l'.length=l.length) (hc:∀(k:Nat) (c c':CV),l[k]? =some c->l'[k]? =some c'->LeC c c'):Hl ρ n w l' vl:=by
 refine Hl.of_get (by rw[hl,h.len]) λi c' u hc' hu=>?_
 have hlt:i<l.length:=by rw[<-hl];exact bK hc'
 obtain⟨x,h1,h2⟩:=h.get (List.getElem?_eq_getElem hlt)
 rw[hu] at h1
 injection h1 with h1
 subst h1
 exact hc i _ c' (List.getElem?_eq_getElem hlt) hc' _ _ _ _ h2
theorem eZ (hX:Tgt nb X) (i:Nat) {T es:Nat} {l:List CV} (l':List CV) (hb:s.bl[i]? =some (T,es,l)) (hl:l'.length=l.length) (hc:∀(k:Nat) (c c':CV),l[k]? =some c->l'[k]? =some c'->LeC c c') (h:gR s.bl i (T,es,l') λbl'=>X ⟨s.sl,s.gl,bl',s.fl⟩):X s:=by
 refine hX.one (s':=⟨s.sl,s.gl,s.bl.set i (T,es,l'),s.fl⟩) (λρ0 w0 ρ f w hD=>⟨ρ,⟨λj T2 e2 l2 hj=>?_,?_,?_,?_,hD.m.rel,hD.m.pl,hD.m.zz,?_,hD.m.ffr⟩,?_,hD.l⟩) (dZ h)
 ·rw[List.length_set]
  rcases fK hj with ⟨rfl,h2,_⟩|⟨_,h2⟩
  ·injection h2 with h2 h3
   injection h3 with h3 h4
   subst h2 h3 h4
   have hq:=hD.m.ok j _ _ l hb
   unfold Bq at hq ⊢
   cases hρ:(ρ j).1 with
   |none=>
    simp only[hρ] at hq ⊢
    exact⟨List.eq_nil_of_length_eq_zero (by rw[hl,hq.1];rfl),hq.2⟩
   |some b=>
    simp only[hρ] at hq ⊢
    obtain⟨vl,junk,q1,q2,q3⟩:=hq
    exact⟨vl,junk,q1,q2.le hl hc,q3⟩
  exact hD.m.ok j T2 e2 l2 h2
 ·simpa using hD.m.inj
 ·simpa using hD.m.fr
 ·simpa using hD.m.nbl
 ·simp only[List.length_set];exact hD.m.fam
 exact hD.f.kp rfl rfl (by simp only[List.length_set];exact Kp.refl)
/-! ### an own slice becomes a family of one -/
def iZ (i:Nat) (A:Option Nat) (a:Nat):CV->CV
 |.s j n=>bif Nat.beq j i then .h A n a else .s j n
 |.p j o=>bif Nat.beq j i then .u else .p j o
 |.t j o n=>bif Nat.beq j i then .u else .t j o n
 |.f q fi ca=>bif (fi++ca).any (λp=>Nat.beq p.1 i) then .u else .f q fi ca
 |c=>c
def bHd (φ:CV->CV):DV->DV
 |.c c=> .c (φ c)
 |.a l=> .a (l.map φ)
 |.t l=> .t (l.map λd=>match d with
  |.c c=> .c (φ c)
  |.a l=> .a (l.map φ)
  |.t _=> .c .u)
def aJw (φ:CV->CV):List (Nat×DV)->(List (Nat×DV)->Prop)->Prop
 |[],k=>k []
 |(t,d)::l,k=>aJw φ l λr=>k ((t,bHd φ d)::r)
def wM (φ:CV->CV) (i:Nat):Nat->BL->(BL->Prop)->Prop
 |_,[],k=>k []
 |j,(T,es,l)::r,k=>bif Nat.beq j i then wM φ i (j+1) r λr'=>k ((T,es,[])::r') else
  bif Nat.beq es 0 then wM φ i (j+1) r λr'=>k ((T,es,l.map φ)::r') else ∃l',l.map φ=l'∧wM φ i (j+1) r λr'=>k ((T,es,l')::r')
section map
variable {ρ ρ':Pl} {n:Nat} {w:World} {φ:CV->CV} (hφ:∀c x,Hc ρ n w c x->Hc ρ' n w (φ c) x)
include hφ
theorem Hl.mapc {l:List CV} {vl:List Value} (h:Hl ρ n w l vl):Hl ρ' n w (l.map φ) vl:=by
 induction l generalizing vl with
 |nil=>cases vl with
  |nil=>trivial
  |cons x vl=>exact h
 |cons c l ih=>cases vl with
  |nil=>exact h
  |cons x vl=>exact⟨hφ c x h.1,ih h.2⟩
theorem Hd.mapc {d:DV} {x:Value} (h:Hd ρ n w d x):Hd ρ' n w (bHd φ d) x:=by
 cases h with
 |c h=>exact .c (hφ _ _ h)
 |a h=>exact .a (h.mapc hφ)
 |t h hh=>
  refine .t (by simpa using h) λi d u h1 h2=>?_
  rw[List.getElem?_map] at h1
  obtain⟨d0,h3,h4⟩:=Option.map_eq_some_iff.1 h1
  subst h4
  cases hh i d0 u h3 h2 with
  |c h=>exact .c (hφ _ _ h)
  |a h=>exact .a (h.mapc hφ)
  |t _ _=>exact .c (Rc.u _)
theorem yQ:∀{sl:List (Nat×DV)} {k:List (Nat×DV)->Prop},aJw φ sl k->∃sl',k sl'∧∀t d',cT sl' t=some d'->∃d,cT sl t=some d∧∀x,Hd ρ n w d x->Hd ρ' n w d' x
 |[],k,h=>⟨[],h,λt d' h=>by cases h⟩
 |(t0,d0)::l,k,h=>by
  obtain⟨sl',h1,h2⟩:=yQ (show aJw φ l _ from h)
  refine⟨_,h1,λt d' ht=>?_⟩
  unfold cT at ht ⊢
  cases hb:Nat.beq t0 t with
  |true=>simp only[hb,cond_true] at ht ⊢;injection ht with ht;subst ht;exact⟨d0,rfl,λx hx=>hx.mapc hφ⟩
  |false=>simp only[hb,cond_false] at ht ⊢;exact h2 t d' ht
theorem qI {i:Nat}:∀{bl:BL} {j:Nat} {k:BL->Prop},wM φ i j bl k->∃bl',k bl'∧bl'.length=bl.length∧∀(m:Nat) (T:TypeId) (es:Nat) (l':List CV),bl'[m]? =some (T,es,l')->∃l,bl[m]? =some (T,es,l)∧(j+m=i->l'=[])∧(j+m≠i->l'.length=l.length∧∀vl,Hl ρ n w l vl->Hl ρ' n w l' vl)
 |[],j,k,h=>⟨[],h,rfl,λm T es l' h=>by cases h⟩
 |(T0,es0,l0)::r,j,k,h=>by
  have step:∀l0' r',(∀(m:Nat) (T:TypeId) (es:Nat) (l':List CV),r'[m]? =some (T,es,l')->∃l,r[m]? =some (T,es,l)∧(j+1+m=i->l'=[])∧(j+1+m≠i->l'.length=l.length∧∀vl,Hl ρ n w l vl->Hl ρ' n w l' vl))->
   (j=i->l0'=[])->(j≠i->l0'.length=l0.length∧∀vl,Hl ρ n w l0 vl->Hl ρ' n w l0' vl)->
   ∀(m:Nat) (T:TypeId) (es:Nat) (l':List CV),((T0,es0,l0')::r')[m]? =some (T,es,l')->∃l,((T0,es0,l0)::r)[m]? =some (T,es,l)∧(j+m=i->l'=[])∧(j+m≠i->l'.length=l.length∧∀vl,Hl ρ n w l vl->Hl ρ' n w l' vl):=by
   intro l0' r' hr h1 h2 m T es l' hm
   cases m with
   |zero=>
    injection hm with hm
    injection hm with e1 e2
    injection e2 with e2 e3
    subst e1 e2 e3
    exact⟨l0,rfl,by simpa using h1,by simpa using h2⟩
   |succ m=>
    obtain⟨l,a1,a2,a3⟩:=hr m T es l' hm
    exact⟨l,a1,λhe=>a2 oM,λhe=>a3 oM⟩
  unfold wM at h
  cases hb:Nat.beq j i with
  |true=>
   have e:=Nat.eq_of_beq_eq_true hb
   rw[hb] at h
   obtain⟨r',h1,h2,h3⟩:=qI (show wM φ i (j+1) r _ from h)
   exact⟨_,h1,by simp[h2],step [] r' h3 (λ_=>rfl) (λhne=>absurd e hne)⟩
  |false=>
   have hne:=fQ hb
   rw[hb] at h
   simp only[cond_false] at h
   cases hz:Nat.beq es0 0 with
   |true=>
    rw[hz] at h
    obtain⟨r',h1,h2,h3⟩:=qI (show wM φ i (j+1) r _ from h)
    exact⟨_,h1,by simp[h2],step _ r' h3 (λhe=>absurd he hne) λ_=>⟨by simp,λvl hl=>hl.mapc hφ⟩⟩
   |false=>
    rw[hz] at h
    obtain⟨l',h0,h⟩:=h
    subst h0
    obtain⟨r',h1,h2,h3⟩:=qI h
    exact⟨_,h1,by simp[h2],step _ r' h3 (λhe=>absurd he hne) λ_=>⟨by simp,λvl hl=>hl.mapc hφ⟩⟩
end map
theorem Hc.sink {ρ ρ':Pl} {n i:Nat} {w:World} (k:Kx i ρ n w ρ' w) {A:Option Nat} {a:Nat} (hp:ρ i=(A,a)) (c:CV) (x:Value) (h:Hc ρ n w c x):Hc ρ' n w (iZ i A a c) x:=by
 cases hm:eX i c with
 |false=>
  have e:iZ i A a c=c:=by
   cases c with
   |s j m=>simp only[eX] at hm;simp only[iZ,hm,cond_false]
   |p j o=>simp only[eX] at hm;simp only[iZ,hm,cond_false]
   |t j o m=>simp only[eX] at hm;simp only[iZ,hm,cond_false]
   |f q fi ca=>simp only[eX] at hm;simp only[iZ,hm,cond_false]
   |_=>rfl
  rw[e]
  exact h.kx k hm
 |true=>
  cases c with
  |s j m=>
   simp only[eX] at hm
   simp only[iZ,hm,cond_true]
   have:=Nat.eq_of_beq_eq_true hm
   subst this
   obtain⟨_,h2⟩:=h
   rw[h2,hp]
   exact Rc.h A m a
  |p j o=>simp only[eX] at hm;simp only[iZ,hm,cond_true];exact Rc.u x
  |t j o m=>simp only[eX] at hm;simp only[iZ,hm,cond_true];exact Rc.u x
  |f q fi ca=>simp only[eX] at hm;simp only[iZ,hm,cond_true];exact Rc.u x
  |u=>cases hm
  |v y=>cases hm
  |h A n c=>cases hm
  |hp b o=>cases hm
  |b p q=>cases hm
  |r A m c e get=>cases hm
  |q A m c e get j o=>cases hm
theorem xD {ρ:Pl} {n:Nat} {w:World} {c:CV} {x:Value} (h:Hc ρ n w c x) (hc:cW c=true):Rc (Zf ρ n w) w c x:=by
 cases c with
 |u=>exact h
 |v y=>exact h
 |h A n c=>exact h
 |hp b o=>exact h
 |b p q=>exact h
 |r A m c e get=>exact h
 |p i o=>cases hc
 |s i m=>cases hc
 |q A m c e get j o=>cases hc
 |t i o m=>cases hc
 |f k fi ca=>cases hc
theorem qJ (hX:Tgt nb X) (i:Nat) {T es:Nat} {l:List CV} (hb:s.bl[i]? =some (T,es,l)) (hes:0<es) (hclo:∀c∈l,cW c=true) (hnb:nb<=i) (hgl:s.gl=[])
 (h:∀A a,aJw (iZ i A a) s.sl λsl'=>wM (iZ i A a) i 0 s.bl λbl'=>kB s.fl ⟨T,es,1,λ_=>A,λ_=>a,λ_=>l⟩ λfl'=>X ⟨sl',[],bl',fl'⟩) (hft:Nat.ble T 999999=true:=by rfl):X s:=by
 refine hX s (Option Nat×Nat×List (Nat×DV)×BL) (λg=>⟨g.2.2.1,[],g.2.2.2,s.fl++[⟨T,es,1,λ_=>g.1,λ_=>g.2.1,λ_=>l⟩]⟩) (λg=>X ⟨g.2.2.1,[],g.2.2.2,s.fl++[⟨T,es,1,λ_=>g.1,λ_=>g.2.1,λ_=>l⟩]⟩) (λρ0 w0 ρ f w hD=>?_) λg hg=>hg
 have hi:i<s.bl.length:=bK hb
 have hq:=hD.m.ok i T es l hb
 let Fn:Fam:=⟨T,es,1,λ_=>(ρ i).1,λ_=>(ρ i).2,λ_=>l⟩
 let ρ':Pl:=⟨λj=>if j=i then (none,0) else ρ j,ρ.Z,s.fl++[Fn]⟩
 have hρi:ρ' i=(none,0):=if_pos rfl
 have hρj:∀j,j≠i->ρ' j=ρ j:=λj hj=>if_neg hj
 have hin:∀b,InF ρ' b->InF ρ b∨(ρ i).1=some b:=λb ⟨F,hF,j,hj,hA⟩=>by
  rcases List.mem_append.1 hF with hF|hF
  ·exact .inl ⟨F,by rw[hD.l];exact hF,j,hj,hA⟩
  rw[List.mem_singleton.1 hF] at hA;exact .inr hA
 have kx:Kx i ρ s.bl.length w ρ' w:=⟨λj _ hj=>hρj j hj,λb hbz=>⟨⟨hbz.lt,λj hj=>?_,hbz.z,λhf=>?_⟩,rfl⟩,λ_ _ _ _ _=>rfl⟩
 ·obtain⟨sl',k1,k2⟩:=yQ (ρ:=ρ) (ρ':=ρ') (n:=s.bl.length) (w:=w) (Hc.sink kx rfl) (h (ρ i).1 (ρ i).2)
  obtain⟨bl',k3,k4,k5⟩:=qI (ρ:=ρ) (ρ':=ρ') (n:=s.bl.length) (w:=w) (Hc.sink kx rfl) k1
  have kX:=fL k3
  have hmq:Mq (Zf ρ' s.bl.length w) w Fn 0:=by
   unfold Mq
   unfold Bq at hq
   cases hρ:(ρ i).1 with
   |none=>
    simp only[hρ] at hq
    simp only[Fn,hρ]
    exact⟨hq.1,hq.2.1⟩
   |some b=>
    simp only[hρ] at hq
    simp only[Fn,hρ,hft,cond_true]
    obtain⟨vl,junk,q1,q2,q3,q4⟩:=hq
    refine⟨vl,junk,q1,q2.len.symm,λk c x hc hx=>?_,(q3 hes).1,(q3 hes).2,q4⟩
    obtain⟨y,a1,a2⟩:=q2.get hc
    rw[hx] at a1
    injection a1 with a1
    subst a1
    exact(xD a2 (hclo c (List.mem_of_getElem? hc))).mono kx.z
  have hfam:FamOk ρ' s.bl.length w:=by
   refine⟨λF hF=>?_,λj b hj hb' hf=>?_,λf1 f2 F1 F2 j1 j2 b h1 h2 h3 h4 h5 h6=>?_⟩
   ·rcases List.mem_append.1 hF with hF|hF
    ·have hF':F∈ρ.F:=by rw[hD.l];exact hF
     exact⟨(hD.m.fam.ok F hF').1,λj hj=>((hD.m.fam.ok F hF').2 j hj).mono kx.z λ_ _=>rfl⟩
    rw[List.mem_singleton.1 hF]
    refine⟨hes,λj hj=>?_⟩
    obtain rfl:j=0:=by have:j<1:=hj;omega
    exact hmq
   ·by_cases hji:j=i
    ·subst hji;rw[hρi] at hb';cases hb'
    rw[hρj j hji] at hb'
    rcases hin b hf with h1|h1
    ·exact hD.m.fam.own j b hj hb' h1
    exact hji (hD.m.inj j i b hj hi hb' h1)
   have src:∀(x:Nat) (Y:Fam) (y:Nat),(s.fl++[Fn])[x]? =some Y->y<Y.N->Y.A y=some b->(x=s.fl.length∧y=0∧(ρ i).1=some b)∨(ρ.F[x]? =some Y):=λx Y y hx hy hbb=>by
    rcases jL hx with ⟨e1,rfl⟩|⟨_,e2⟩
    ·exact .inl ⟨e1,by have:y<1:=hy;omega,hbb⟩
    exact .inr (by rw[hD.l];exact e2)
   rcases src f1 F1 j1 h1 h3 h5 with ⟨a1,a2,a3⟩|a1<;>rcases src f2 F2 j2 h2 h4 h6 with ⟨c1,c2,c3⟩|c1
   ·exact⟨a1.trans c1.symm,a2.trans c2.symm⟩
   ·exact absurd ⟨F2,List.mem_of_getElem? c1,j2,h4,h6⟩ (hD.m.fam.own i b hi a3)
   ·exact absurd ⟨F1,List.mem_of_getElem? a1,j1,h3,h5⟩ (hD.m.fam.own i b hi c3)
   exact hD.m.fam.inj f1 f2 F1 F2 j1 j2 b a1 c1 h3 h4 h5 h6
  refine⟨((ρ i).1,(ρ i).2,sl',bl'),ρ',kX,⟨λj T2 e2 l2 hj=>?_,λa b bb ha hbl hab hbb=>?_,λj b h1 h2 hbj=>?_,?_,⟨hD.m.rel.os,hD.m.rel.tape,hD.m.rel.output,hD.m.rel.size,λk hk hn hf=>hD.m.rel.block k hk (λj hj=>?_) hf⟩,λj hj=>?_,hD.m.zz,?_,λb hb'=>?_⟩,⟨λt d' ht=>?_,λt gs d ht=>by cases ht⟩,rfl⟩
  ·show Bq ρ' bl'.length w j T2 e2 l2
   rw[k4]
   obtain⟨l0,a1,a2,a3⟩:=k5 j T2 e2 l2 hj
   by_cases hji:j=i
   ·subst hji
    rw[hb] at a1
    injection a1 with a1
    injection a1 with e1 e2'
    injection e2' with e2' e3
    subst e1 e2' e3
    unfold Bq
    rw[hρi]
    exact⟨a2 oM,rfl,hes⟩
   obtain⟨a4,a5⟩:=a3 oM
   have hq0:=hD.m.ok j T2 e2 l0 a1
   unfold Bq at hq0 ⊢
   rw[hρj j hji]
   cases hρ:(ρ j).1 with
   |none=>
    simp only[hρ] at hq0 ⊢
    exact⟨List.eq_nil_of_length_eq_zero (by rw[a4,hq0.1];rfl),hq0.2⟩
   |some b=>
    simp only[hρ] at hq0 ⊢
    obtain⟨vl,junk,q1,q2,q3⟩:=hq0
    exact⟨vl,junk,q1,a5 vl q2,q3⟩
  ·have ha':a<s.bl.length:=by rw[<-k4];exact ha
   have hbl':b<s.bl.length:=by rw[<-k4];exact hbl
   by_cases e1:a=i
   ·subst e1;rw[hρi] at hab;cases hab
   by_cases e2:b=i
   ·subst e2;rw[hρi] at hbb;cases hbb
   rw[hρj a e1] at hab;rw[hρj b e2] at hbb;exact hD.m.inj a b bb ha' hbl' hab hbb
  ·have h2':j<s.bl.length:=by rw[<-k4];exact h2
   by_cases e1:j=i
   ·subst e1;rw[hρi] at hbj;cases hbj
   rw[hρj j e1] at hbj;exact hD.m.fr j b h1 h2' hbj
  ·show nb<=bl'.length
   rw[k4];exact hD.m.nbl
  ·have:=hn j hj
   rw[hρj j oM] at this
   exact this
  ·rw[hρj j oM];exact hD.m.pl j hj
  ·show FamOk ρ' bl'.length w
   rw[k4];exact hfam
  ·rcases hin b hb' with h1|h1
   ·exact hD.m.ffr b h1
   exact .inl (hD.m.fr i b hnb hi h1)
  obtain⟨d,a1,a2⟩:=k2 t d' ht
  show Hd ρ' bl'.length w d' (f t)
  rw[k4]
  exact a2 _ (hD.f.sl t d a1)
 ·by_cases hji:j=i
  ·subst hji;rw[hρi];intro h;cases h
  rw[hρj j hji];exact hbz.no j hj
 rcases hin b hf with h1|h1
 ·exact hbz.nf h1
 exact hbz.no i hi h1
/-! ### two own blocks change their numbers -/
def swN (i j k:Nat):Nat:=bif Nat.beq k i then j else bif Nat.beq k j then i else k
theorem aBr {i j:Nat}:swN i j i=j:=by simp[swN,Nat.beq_refl]
theorem aBs {i j:Nat}:swN i j j=i:=by
 unfold swN
 cases h:Nat.beq j i with
 |true=>exact Nat.eq_of_beq_eq_true h
 |false=>simp[Nat.beq_refl]
theorem vH {i j k:Nat} (h1:k≠i) (h2:k≠j):swN i j k=k:=by
 unfold swN
 cases h:Nat.beq k i with
 |true=>exact absurd (Nat.eq_of_beq_eq_true h) h1
 |false=>cases h':Nat.beq k j with
  |true=>exact absurd (Nat.eq_of_beq_eq_true h') h2
  |false=>rfl
theorem aDv {i j:Nat} (k:Nat):swN i j (swN i j k)=k:=by
 by_cases h1:k=i
 ·rw[h1,aBr,aBs]
 by_cases h2:k=j
 ·rw[h2,aBs,aBr]
 rw[vH h1 h2,vH h1 h2]
theorem mC {i j k n:Nat} (hi:i<n) (hj:j<n) (hk:k<n):swN i j k<n:=by
 by_cases h1:k=i
 ·rw[h1,aBr];exact hj
 by_cases h2:k=j
 ·rw[h2,aBs];exact hi
 rw[vH h1 h2];exact hk
def swC (i j:Nat):CV->CV
 |.p k o=> .p (swN i j k) o
 |.s k n=> .s (swN i j k) n
 |.t k o n=> .t (swN i j k) o n
 |.f q fi ca=> .f q (fi.map λp=>(swN i j p.1,p.2)) (ca.map λp=>(swN i j p.1,p.2))
 |c=>c
theorem Hc.sw {ρ ρ':Pl} {n i j:Nat} {w:World} (hi:i<n) (hj:j<n) (hp:∀k,ρ' k=ρ (swN i j k)) (hz:∀b,Zf ρ n w b->Zf ρ' n w b) (c:CV) (x:Value) (h:Hc ρ n w c x):Hc ρ' n w (swC i j c) x:=by
 have hps:∀k,ρ' (swN i j k)=ρ k:=λk=>by rw[hp,aDv]
 cases c with
 |p k o=>obtain⟨h1,b,h2,h3⟩:=h;exact⟨mC hi hj h1,b,by rw[hps];exact h2,h3⟩
 |s k m=>obtain⟨h1,h2⟩:=h;exact⟨mC hi hj h1,by rw[hps];exact h2⟩
 |t k o m=>obtain⟨h1,h2⟩:=h;exact⟨mC hi hj h1,by rw[hps];exact h2⟩
 |q A m c e get k o=>obtain⟨h1,h2⟩:=h;exact⟨h1.mono λb hb=>⟨hz b hb,rfl⟩,h2⟩
 |f q fi ca=>
  obtain⟨h1,h2⟩:=h
  have hm:∀l:List (Nat×Nat),(l.map λp=>(swN i j p.1,p.2)).map (ptr ρ')=l.map (ptr ρ):=λl=>by
   rw[List.map_map]
   refine List.map_congr_left λp _=>?_
   show ptr ρ' (swN i j p.1,p.2)=ptr ρ p
   unfold ptr
   rw[hps]
  refine⟨λp hp2=>?_,h2.trans (by rw[hm,hm])⟩
  rw[<-List.map_append] at hp2
  obtain⟨p0,hp0,rfl⟩:=List.mem_map.1 hp2
  obtain⟨a1,a2⟩:=h1 p0 hp0
  exact⟨mC hi hj a1,by rw[hps];exact a2⟩
 |u=>exact Rc.mono h λb hb=>⟨hz b hb,rfl⟩
 |v y=>exact Rc.mono h λb hb=>⟨hz b hb,rfl⟩
 |h A m c=>exact Rc.mono h λb hb=>⟨hz b hb,rfl⟩
 |hp b o=>exact Rc.mono h λb hb=>⟨hz b hb,rfl⟩
 |b p q=>exact Rc.mono h λb hb=>⟨hz b hb,rfl⟩
 |r A m c e get=>exact Rc.mono h λb hb=>⟨hz b hb,rfl⟩
theorem aBt (hX:Tgt nb X) (i j:Nat) {bi bj:TypeId×Nat×List CV} (hbi:s.bl[i]? =some bi) (hbj:s.bl[j]? =some bj) (hni:nb<=i) (hnj:nb<=j) (hgl:s.gl=[])
 (h:aJw (swC i j) s.sl λsl'=>gR s.bl i bj λbl1=>gR bl1 j bi λbl2=>wM (swC i j) 1000000 0 bl2 λbl'=>bl'.length<=1000000∧X ⟨sl',[],bl',s.fl⟩):X s:=by
 have hi:i<s.bl.length:=bK hbi
 have hj:j<s.bl.length:=bK hbj
 refine hX s SS (λg=>g) X (λρ0 w0 ρ f w hD=>?_) λg hg=>hg
 let ρ':Pl:=⟨λk=>ρ (swN i j k),ρ.Z,ρ.F⟩
 have hp:∀k,ρ' k=ρ (swN i j k):=λ_=>rfl
 have hz:∀b,Zf ρ s.bl.length w b->Zf ρ' s.bl.length w b:=λb hb=>⟨hb.lt,λk hk=>hb.no _ (mC hi hj hk),hb.z,hb.nf⟩
 obtain⟨sl',k1,k2⟩:=yQ (ρ:=ρ) (ρ':=ρ') (n:=s.bl.length) (w:=w) (Hc.sw hi hj hp hz) h
 obtain⟨bl',⟨kle,kX⟩,k4,k5⟩:=qI (ρ:=ρ) (ρ':=ρ') (n:=s.bl.length) (w:=w) (Hc.sw hi hj hp hz) (dZ (dZ k1))
 rw[List.length_set,List.length_set] at k4
 have hold:∀(m:Nat) (x:TypeId×Nat×List CV),((s.bl.set i bj).set j bi)[m]? =some x->s.bl[swN i j m]? =some x:=λm x hm=>by
  rcases fK hm with ⟨rfl,rfl,_⟩|⟨h1,h2⟩
  ·rw[aBs];exact hbi
  rcases fK h2 with ⟨rfl,rfl,_⟩|⟨h3,h4⟩
  ·rw[aBr];exact hbj
  rw[vH h3 h1];exact h4
 refine⟨_,ρ',kX,⟨λm T es l hm=>?_,λa b bb ha hb hab hbb=>?_,λm b h1 h2 hb=>?_,?_,⟨hD.m.rel.os,hD.m.rel.tape,hD.m.rel.output,hD.m.rel.size,λk hk hn hf=>hD.m.rel.block k hk (λm hm=>?_) hf⟩,λm hm=>?_,hD.m.zz,?_,hD.m.ffr⟩,⟨λt d' ht=>?_,λt gs d ht=>by cases ht⟩,hD.l⟩
 ·show Bq ρ' bl'.length w m T es l
  have hml:m<bl'.length:=bK hm
  rw[k4]
  obtain⟨l0,a1,_,a3⟩:=k5 m T es l hm
  obtain⟨a4,a5⟩:=a3 oM
  have hq:=hD.m.ok _ T es l0 (hold m _ a1)
  unfold Bq at hq ⊢
  rw[hp]
  cases hρ:(ρ (swN i j m)).1 with
  |none=>
   simp only[hρ] at hq ⊢
   exact⟨List.eq_nil_of_length_eq_zero (by rw[a4,hq.1];rfl),hq.2⟩
  |some b=>
   simp only[hρ] at hq ⊢
   obtain⟨vl,junk,q1,q2,q3⟩:=hq
   exact⟨vl,junk,q1,a5 vl q2,q3⟩
 ·have ha':a<s.bl.length:=by rw[<-k4];exact ha
  have hb':b<s.bl.length:=by rw[<-k4];exact hb
  have:=hD.m.inj _ _ bb (mC hi hj ha') (mC hi hj hb') hab hbb
  rw[<-aDv (i:=i) (j:=j) a,this,aDv]
 ·have h2':m<s.bl.length:=by rw[<-k4];exact h2
  refine hD.m.fr (swN i j m) b ?_ (mC hi hj h2') hb
  by_cases e1:m=i
  ·rw[e1,aBr];exact hnj
  by_cases e2:m=j
  ·rw[e2,aBs];exact hni
  rw[vH e1 e2];exact h1
 ·show nb<=bl'.length
  rw[k4];exact hD.m.nbl
 ·have:=hn m hm
  rw[hp,vH oM oM] at this
  exact this
 ·rw[hp,vH oM oM];exact hD.m.pl m hm
 ·show FamOk ρ' bl'.length w
  rw[k4]
  exact hD.m.fam.mono rfl (λb hb=>⟨hz b hb,rfl⟩) (λ_ _=>rfl) λm b hm hb=>hD.m.fam.own _ b (mC hi hj hm) hb
 obtain⟨d,a1,a2⟩:=k2 t d' ht
 show Hd ρ' bl'.length w d' (f t)
 rw[k4]
 exact a2 _ (hD.f.sl t d a1)
/-! ### a family is let go: what names it is read from now on -/
def FrC (F:Fam) (c c':CV):Prop:=∃q n g,q<F.N∧c= .h (F.A q) n (F.cap q)∧c'= .r ((F.A q).map λb=>⟨b,0,none⟩) n (F.cap q) F.es g∧n*F.es=(F.get q).length∧∀k,k<n->g k=((F.get q).drop (k*F.es)).take F.es
theorem mL (hX:Tgt nb X) (i f:Nat) {T es:Nat} {l:List CV} {F:Fam} (l':List CV) (hb:s.bl[i]? =some (T,es,l)) (hf:s.fl[f]? =some F) (hgl:s.gl=[]) (hl:l'.length=l.length) (hc:∀(k:Nat) (c c':CV),l[k]? =some c->l'[k]? =some c'->c=c'∨FrC F c c')
 (h:gR s.bl i (T,es,l') λbl'=>gR s.fl f (pD F) λfl'=>X ⟨s.sl,[],bl',fl'⟩) (hft:Nat.ble F.T 999999=true:=by rfl):X s:=by
 have hfl:f<s.fl.length:=bK hf
 refine hX.one (s':=⟨s.sl,[],s.bl.set i (T,es,l'),s.fl.set f (pD F)⟩) (λρ0 w0 ρ f0 w hD=>?_) (dZ (dZ h))
 have hes:=vG hD hf
 have hin:∀b,InL (s.fl.set f (pD F)) b->InF ρ b∧∀q,q<F.N->F.A q≠some b:=λb ⟨G,hG,j,hj,hA⟩=>by
  obtain⟨g,hg⟩:=List.getElem?_of_mem hG
  rcases jC hg hfl with ⟨_,rfl⟩|⟨hne,h2⟩
  ·exact absurd hj (Nat.not_lt_zero _)
  exact⟨⟨G,by rw[hD.l];exact List.mem_of_getElem? h2,j,hj,hA⟩,λq hq he=>hne (hD.m.fam.inj g f G F j q b (by rw[hD.l];exact h2) (by rw[hD.l];exact hf) hj hq hA he).1⟩
 have hz:∀b,Zf ρ s.bl.length w b->Zf ⟨ρ.at',ρ.Z,s.fl.set f (pD F)⟩ s.bl.length w b∧w.heap[b]? =w.heap[b]?:=λb hb=>⟨⟨hb.lt,hb.no,hb.z,λhi=>hb.nf (hin b hi).1⟩,rfl⟩
 have kp:Kp ρ s.bl.length w ⟨ρ.at',ρ.Z,s.fl.set f (pD F)⟩ s.bl.length w:=⟨Nat.le_refl _,λ_ _=>rfl,hz⟩
 have hrd:∀c c' x,FrC F c c'->Hc ρ s.bl.length w c x->Hc ⟨ρ.at',ρ.Z,s.fl.set f (pD F)⟩ s.bl.length w c' x:=λc c' x ⟨q,n,g,hq,e1,e2,e3,e4⟩ hx=>by
  subst e1 e2
  rw[hx.inv_h]
  have hm:=hD.m.fam.mem hD.l hf hq
  unfold Mq at hm
  cases hA:F.A q with
  |none=>
   simp only[hA] at hm
   have hn:n=0:=by
    rcases Nat.eq_zero_or_pos n with h|h
    ·exact h
    rw[hm.1] at e3;have:=Nat.mul_pos h hes;simp at e3;omega
   subst hn
   rw[hm.2]
   exact Rc.nil none 0 F.es g (Nat.zero_le _)
  |some b=>
   simp only[hA,hft,cond_true] at hm
   obtain⟨vl,junk,q1,q2,q3,q4,q5,q6⟩:=hm
   have hbin:InF ρ b:=⟨F,by rw[hD.l];exact List.mem_of_getElem? hf,q,hq,hA⟩
   have hZb:Zf ⟨ρ.at',ρ.Z,s.fl.set f (pD F)⟩ s.bl.length w b:=⟨cC q1,λj hj he=>hD.m.fam.own j b hj he hbin,by
    have:=hD.m.zz.2 b (hD.m.ffr b hbin)
    exact this,λhi=>(hin b hi).2 q hq hA⟩
   have hnc:n<=F.cap q:=by
    rw[List.length_append] at q4
    exact Nat.le_of_mul_le_mul_right (c:=F.es) oM hes
   have hjn:∀j,j<n->j*F.es+F.es<=vl.length:=λj hj=>by
    have:(j+1)*F.es<=n*F.es:=Nat.mul_le_mul_right F.es hj
    rw[Nat.add_mul,Nat.one_mul] at this
    omega
   refine Rc.r b 0 n (F.cap q) F.es g (λj=>(vl.drop (j*F.es)).take F.es) hnc q5 hZb (λj hj k u hu=>?_) (λj hj=>?_) λj hj k c' u hc hu=>?_
   ·rw[List.getElem?_take] at hu
    split at hu
    ·rw[List.getElem?_drop] at hu
     refine⟨?_,q6 u (List.mem_of_getElem? hu)⟩
     rw[Nat.zero_add]
     exact gC q1 hu
    cases hu
   ·rw[e4 j hj]
    have:=hjn j hj
    simp only[List.length_take,List.length_drop]
    omega
   rw[e4 j hj] at hc
   rw[List.getElem?_take] at hc hu
   split at hc
   ·next hlt=>
    rw[if_pos hlt] at hu
    rw[List.getElem?_drop] at hc hu
    exact(q3 _ c' u hc hu).mono hz
   cases hc
 refine⟨⟨ρ.at',ρ.Z,s.fl.set f (pD F)⟩,⟨λj T2 e2 l2 hj=>?_,?_,?_,?_,⟨hD.m.rel.os,hD.m.rel.tape,hD.m.rel.output,hD.m.rel.size,hD.m.rel.block⟩,hD.m.pl,hD.m.zz,⟨λG hG=>?_,λj b hj hbj hf2=>?_,λf1 f2 F1 F2 j1 j2 b h1 h2 h3 h4 h5 h6=>?_⟩,λb hbb=>hD.m.ffr b (hin b hbb).1⟩,⟨λt d ht=>?_,λt gs d ht=>by cases ht⟩,rfl⟩
 ·rw[List.length_set]
  rcases fK hj with ⟨rfl,h2,_⟩|⟨_,h2⟩
  ·injection h2 with h2 h3
   injection h3 with h3 h4
   subst h2 h3 h4
   have hq:=hD.m.ok j _ _ l hb
   unfold Bq at hq ⊢
   show match (ρ j).1 with|none=>_|some b=>_
   cases hρ:(ρ j).1 with
   |none=>
    simp only[hρ] at hq ⊢
    exact⟨List.eq_nil_of_length_eq_zero (by rw[hl,hq.1];rfl),hq.2⟩
   |some b=>
    simp only[hρ] at hq ⊢
    obtain⟨vl,junk,q1,q2,q3⟩:=hq
    refine⟨vl,junk,q1,Hl.of_get (by rw[hl,q2.len]) λk c' u hc' hu=>?_,q3⟩
    have hlt:k<l.length:=by rw[<-hl];exact bK hc'
    obtain⟨x,h1,h2⟩:=q2.get (List.getElem?_eq_getElem hlt)
    rw[hu] at h1
    injection h1 with h1
    subst h1
    rcases hc k _ c' (List.getElem?_eq_getElem hlt) hc' with e|e
    ·rw[<-e];exact h2.kp kp
    exact hrd _ _ _ e h2
  exact(hD.m.ok j T2 e2 l2 h2).kp kp (bK h2) λ_ _=>rfl
 ·simpa using hD.m.inj
 ·simpa using hD.m.fr
 ·simpa using hD.m.nbl
 ·obtain⟨g,hg⟩:=List.getElem?_of_mem hG
  rcases jC hg hfl with ⟨_,rfl⟩|⟨_,h2⟩
  ·exact⟨hes,λj hj=>absurd hj (Nat.not_lt_zero _)⟩
  have hG':G∈ρ.F:=by rw[hD.l];exact List.mem_of_getElem? h2
  simp only[List.length_set]
  exact⟨(hD.m.fam.ok G hG').1,λj hj=>((hD.m.fam.ok G hG').2 j hj).mono hz λ_ _=>rfl⟩
 ·simp only[List.length_set] at hj
  exact hD.m.fam.own j b hj hbj (hin b hf2).1
 ·rcases jC (show(s.fl.set f (pD F))[f1]? =_ from h1) hfl with ⟨_,rfl⟩|⟨_,h1'⟩
  ·exact absurd h3 (Nat.not_lt_zero _)
  rcases jC (show(s.fl.set f (pD F))[f2]? =_ from h2) hfl with ⟨_,rfl⟩|⟨_,h2'⟩
  ·exact absurd h4 (Nat.not_lt_zero _)
  exact hD.m.fam.inj f1 f2 F1 F2 j1 j2 b (by rw[hD.l];exact h1') (by rw[hD.l];exact h2') h3 h4 h5 h6
 show Hd _ (s.bl.set i (T,es,l')).length w d (f0 t)
 rw[List.length_set]
 exact(hD.f.sl t d ht).kp kp
/-! ### the end of a ghost way: what is kept, what changed -/
def aVv:List Fam->List Fam->Prop
 |_,[]=>True
 |x::l,y::m=>x=y∧aVv l m
 |[],_::_=>False
theorem aHb:∀{l m:List Fam},aVv l m->∃r,l=m++r
 |l,[],_=>⟨l,rfl⟩
 |[],_::_,h=>h.elim
 |x::l,y::m,h=>by
  obtain⟨h1,h2⟩:=h
  obtain⟨r,hr⟩:=aHb h2
  exact⟨r,by rw[h1,hr];rfl⟩
theorem Fsub.pre {fl r:List Fam} (hes:∀F∈fl,0<F.es):Fsub (fl++r) fl:=by
 have hg:∀(x:Nat) (Y:Fam),fl[x]? =some Y->(fl++r)[x]? =some Y:=λx Y h=>by rw[List.getElem?_append_left (bK h)];exact h
 exact⟨λf' F' hf'=>⟨hes F' (List.mem_of_getElem? hf'),λj' hj'=> .inr ⟨f',F',j',hg f' F' hf',hj',rfl,rfl,rfl,rfl,rfl⟩⟩,λhi f1 f2 F1 F2 j1 j2 b h1 h2=>hi f1 f2 F1 F2 j1 j2 b (hg f1 F1 h1) (hg f2 F2 h2)⟩
theorem bA {M:Nat->Bool} {base:List (Nat×DV)} (hM:∀t d,cT base t=some d->M t=false) {σ:Type} {chg:σ->List (Nat×DV)} {bls:σ->BL} {fls:σ->List Fam} {C:σ->Prop} (g:σ) (hC:C g)
 (hmt:nF M base [] [] s.sl) (hbl:aBq s.bl (bls g)) (hfl:aVv s.fl (fls g)) (hall:AllC s.sl (chg g)) (hnb:nb<=(bls g).length) (hsc:scB (bls g).length (bls g)) (hsd:(chg g++base).all (λe=>scD (bls g).length e.2)=true):
 Gt nb s (λg=>⟨chg g++base,[],bls g,fls g⟩) C:=λρ0 w0 ρ f w hD=>by
 obtain⟨r,hr⟩:=mA hbl
 obtain⟨rf,hrf⟩:=aHb hfl
 have h1:=qH (s:=s) (s':=⟨chg g++base,[],bls g,s.fl⟩) (r:=r) hr rfl rfl hsc (λt d ht=>⟨?_,nH hsd ht⟩) ρ0 w0 nb ρ f w hnb hD
 ·have hp:Fsub s.fl (fls g):=by
   have hes:∀F∈fls g,0<F.es:=λF hF=>(hD.m.fam.ok F (by rw[hD.l,hrf];exact List.mem_append_left _ hF)).1
   have:=Fsub.pre (r:=rf) hes
   rw[<-hrf] at this
   exact this
  obtain⟨ρ',h2⟩:=h1.fsub (s:=⟨chg g++base,[],bls g,s.fl⟩) hp
  exact⟨g,ρ',hC,h2⟩
 rcases iP ht with h1|⟨h1,h2⟩
 ·exact hall.get h1
 exact⟨d,by rw[(iO hmt).1 t (hM t d h2)];exact h2,.refl d⟩
theorem bV (M:Nat->Bool) {σ:Type} (chg:σ->List (Nat×DV)) (bls:σ->BL) (fls:σ->List Fam) (C:σ->Prop) (μ:σ->Nat)
 (h:nE M s.sl λbase=>(∀t d,cT base t=some d->M t=false)->Gt nb s (λg=>⟨chg g++base,[],bls g,fls g⟩) C∧∀g,C g->Sd P nb N c ⟨λs'=>Gt nb s' (λg'=>⟨chg g'++base,[],bls g',fls g'⟩) (λg'=>C g'∧μ g'<μ g),K.ext,K.ret⟩ ⟨chg g++base,[],bls g,fls g⟩):Sd P nb N (.loop c) K s:=by
 obtain⟨base,h1,hk⟩:=jP h
 obtain⟨h0,hr⟩:=h1 λt d ht=>(hk t d ht).2
 intro ρ0 w0 ρ f w Q hL hD
 obtain⟨g0,ρ1,hC0,hD1⟩:=h0 ρ0 w0 ρ f w hD
 refine fU (σ:=σ) (λg f w=>C g∧∃ρ,Dn ρ0 w0 nb ⟨chg g++base,[],bls g,fls g⟩ ρ f w) μ g0 ⟨hC0,ρ1,hD1⟩ λg f w ⟨hc,ρ,hD⟩=>?_
 refine hr g hc ρ0 w0 ρ f w _ ⟨λs' ρ' f' w' hg hD'=>?_,hL.ext,hL.ret⟩ hD
 obtain⟨g',ρ2,⟨hc',hlt⟩,hD2⟩:=hg ρ0 w0 ρ' f' w' hD'
 exact⟨g',⟨hc',ρ2,hD2⟩,hlt⟩
end gt
/-! ### a contract said otherwise -/
theorem CtrF.gt {P:Program} {q:FuncId} {cl:List Bool} {al:List DV} {bl:BL} {fl:List Fam} {σ τ:Type} {R:σ->OutF} {R':τ->OutF} (h:CtrF P q cl al bl fl R)
 (hp:∀g,(R g).C->ClB cl (R g).bl->Gt bl.length ⟨[(0,(R g).d)],[],(R g).bl,(R g).fl⟩ (λg'=>⟨[(0,(R' g').d)]++[],[],(R' g').bl,(R' g').fl⟩) λg'=>(R' g').C∧ClB cl (R' g').bl):CtrF P q cl al bl fl R':=
 ⟨h.ent,h.clb,λρ w vals hv hD hF=>(h.run ρ w vals hv hD hF).mono λe w' ⟨v,he,g,ρ',hC,hDr,hdv,hclr,hFr⟩=>by
  have hq:Dn ρ w bl.length ⟨[(0,(R g).d)],[],(R g).bl,(R g).fl⟩ ρ' (λ_=>v) w':=⟨hDr,⟨λt d ht=>?_,λt gs d ht=>by cases ht⟩,hFr⟩
  ·obtain⟨g',ρ2,⟨h1,h2⟩,h3⟩:=hp g hC hclr ρ w ρ' (λ_=>v) w' hq
   exact⟨v,he,g',ρ2,h1,h3.m,h3.f.sl 0 _ rfl,h2,h3.l⟩
  simp only[cT] at ht
  cases hb:Nat.beq 0 t with
  |true=>rw[hb] at ht;injection ht with ht;subst ht;exact hdv
  |false=>rw[hb] at ht;cases ht⟩
theorem CtrF.frz {P:Program} {q:FuncId} {al:List DV} {σ:Type} {n T es:σ->Nat} {l:σ->List CV} {C:σ->Prop} (h:Ctr P q [] al [] (λg:σ=>⟨.c (.s 0 (n g)),[(T g,es g,l g)],C g⟩)) (get:σ->Nat->List CV) (hp:∀g,C g->(∀j,j<n g->get g j=((l g).drop (j*es g)).take (es g))∧n g*es g=(l g).length∧0<es g∧∀c∈l g,cW c=true):
 Ctr P q [] al [] (λg:σ×Option Addr×Nat=>⟨.c (.r g.2.1 (n g.1) g.2.2 (es g.1) (get g.1)),[],C g.1⟩):=by
 refine CtrF.gt h λg hC _=>?_
 obtain⟨h1,h2,h3,h4⟩:=hp g hC
 refine yP tGt 0 0 (get g) rfl rfl h1 h2 h3 h4 (Nat.le_refl _) λA c _ _=>?_
 exact bA (M:=λ_=>true) (base:=[]) (chg:=λg':σ×Option Addr×Nat=>[(0,.c (.r g'.2.1 (n g'.1) g'.2.2 (es g'.1) (get g'.1)))]) (bls:=λ_=>[]) (fls:=λ_=>[]) (λt d ht=>by cases ht) (g,A,c) ⟨hC,λi T es l hi=>by cases hi⟩ rfl trivial trivial rfl (Nat.le_refl _) (λi T es l hi=>by cases hi) rfl
theorem dU {nb:Nat} {cl:List Bool} {s:SS} {d:DV} {o:Out} (hd:EqD d o.d) (hb:aBq s.bl o.bl) (hnb:nb<=o.bl.length) (hsc:scB o.bl.length o.bl) (hsd:scD o.bl.length o.d=true) (hcl:ClB cl o.bl):Fin cl nb s d o:=λρ0 w0 ρ w v hD0 _ hv0=>by
 have hD:=hD0.nofam
 have hv:=hd.hd (hv0.kp Kp.nofam)
 obtain⟨r,hr⟩:=mA hb
 rw[hr] at hD hv
 exact⟨_,hD.drop hsc hnb,hv.less hsd (by simp),hcl,rfl⟩
theorem oK {bl:BL}:ClB [] bl:=λi T es l _ hc=>by cases hc
theorem CtrF.re {P:Program} {q:FuncId} {cl:List Bool} {al:List DV} {bl:BL} {fl:List Fam} {σ τ:Type} {R:σ->OutF} {R':τ->OutF} (h:CtrF P q cl al bl fl R) (hp:∀g,(R g).C->∃g',(R' g').C∧(R' g').d=(R g).d∧(R' g').bl=(R g).bl∧(R' g').fl=(R g).fl):CtrF P q cl al bl fl R':=
 ⟨h.ent,h.clb,λρ w vals hv hD hF=>(h.run ρ w vals hv hD hF).mono λe w' ⟨v,he,g,ρ',hC,hDr,hdv,hclr,hFr⟩=>by
  obtain⟨g',h1,h2,h3,h4⟩:=hp g hC
  exact⟨v,he,g',ρ',h1,by rw[h3];exact hDr,by rw[h2,h3];exact hdv,by rw[h3];exact hclr,by rw[h4];exact hFr⟩⟩
theorem bNk {P:Program} {nb N:Nat} {a b:Code} {K:Kt} {s:SS} (M:Nat->Bool) {σ:Type} (n0:Nat) (chg:σ->List (Nat×DV)) (bls:σ->BL) (C:σ->Prop) {p:Prop} (hn:∀g,(bls g).length=n0) (hnb:nb<=n0) (hsc:∀g,scB n0 (bls g)) (hcg:∀g,(chg g).all (λe=>scD n0 e.2)=true)
 (h:nE M s.sl λbase=>base.all (λe=>scD n0 e.2)=true∧((p->Sd P nb N a ⟨λs'=>∃g,C g∧MtD M base s.fl s' (chg g) (bls g),K.ext,K.ret⟩ s)∧(¬p->Sd P nb N b ⟨λs'=>∃g,C g∧MtD M base s.fl s' (chg g) (bls g),K.ext,K.ret⟩ s))∧∀g,C g->K.nrm ⟨chg g++base,[],bls g,s.fl⟩):(p->Sd P nb N a K s)∧(¬p->Sd P nb N b K s):=by
 obtain⟨base,⟨hbs,⟨h1,h2⟩,h3⟩,hk⟩:=jP h
 have w:∀{c:Code},Sd P nb N c ⟨λs'=>∃g,C g∧MtD M base s.fl s' (chg g) (bls g),K.ext,K.ret⟩ s->Sd P nb N c K s:=λ{c} h ρ0 w0 ρ f w Q hL hD=>by
  refine h ρ0 w0 ρ f w Q ⟨λs' ρ' f' w' ⟨g',hc,hm⟩ hD'=>?_,hL.ext,hL.ret⟩ hD
  obtain⟨r,hr'⟩:=mA hm.2.1
  refine hL.nrm _ ρ' f' w' (h3 g' hc) (qH (s:=s') (s':=⟨chg g'++base,[],bls g',s.fl⟩) (r:=r) hr' (iO hm.1).2 rfl (by rw[hn];exact hsc g') (λt d ht=>⟨?_,?_⟩) ρ0 w0 nb ρ' f' w' (by rw[hn];exact hnb) hD')
  ·rcases iP ht with h1|⟨h1,h2⟩
   ·exact hm.2.2.get h1
   exact⟨d,by rw[(iO hm.1).1 t (hk t d h2).2];exact h2,.refl d⟩
  rw[hn]
  rcases iP ht with h1|⟨_,h2⟩
  ·exact nH (hcg g') h1
  exact nH hbs h2
 exact⟨λh=>w (h1 h),λh=>w (h2 h)⟩
def tr2 (i:Nat) (t:Tr) (j:Nat) (u:Tr):Tr:=.alt i t (.alt j u .nil)
def trS:List Nat->Tr
 |[]=> .nil
 |i::l=> .alt i (trS l) .nil
inductive SelfF (P:Program) (d:Nat) (xs:Array Value):List (TypeId×Nat)->Prop
 |nil:SelfF P d xs []
 |cons {t:TypeId} {o:Nat} {fs:List (TypeId×Nat)} {a:Value} (h1:∀w,(part t xs o).run P w= .ok a w) (h2:∀w,(Op.equalIn d t a a).run P w= .ok true w) (h:SelfF P d xs fs):SelfF P d xs ((t,o)::fs)
theorem SelfF.run {P:Program} {d:Nat} {xs:Array Value} (w:World):∀{fs:List Field},SelfF P d xs (fs.map λf=>(f.type,f.offset))->(Op.eqFields d xs xs fs).run P w= .ok true w
 |[],_=>by simp[Op.eqFields]
 |f::fs,h=>by
  cases h with
  |cons h1 h2 h3=>
   have ih:=SelfF.run w h3
   unfold Op.eqFields
   split
   ·simp[h1,h2,ih]
   exact ih
theorem bNl {vs:List Value} (h:ckF 0 vs=true):False:=by
 unfold ckF at h
 split at h<;>first|(cases h;done)|contradiction
end Go.Vy
namespace Go.Proofs.YtlhdigjbokkbiaaGreat
open Go.Vg Go.Vy _root_.Go.Proofs.Tryz
def tab:List (Nat×TI):=[
 (1,{size:=1,by':=8,zero:=[.nilFunc]}),
 (2,{size:=1,by':=8,zero:=[.int .i64 0],ik:=some .i64}),
 (3,{size:=1,by':=8,zero:=[.int .i64 0],ik:=some .i64}),
 (4,{size:=1,by':=1,zero:=[.bool false],bo:=true}),
 (5,{size:=1,by':=1,zero:=[.int .u8 0],ik:=some .u8}),
 (9,{size:=1,by':=16,zero:=[.string ⟨#[]⟩],str:=true}),
 (12,{size:=1,by':=8,zero:=[.int .u64 0],ik:=some .u64}),
 (13,{size:=2,by':=24,zero:=[.string ⟨#[]⟩,.int .u64 0],agg:=true,fs:=[⟨0,9,1,false⟩,⟨1,12,1,false⟩]}),
 (21,{size:=1,by':=4,zero:=[.int .i32 0],ik:=some .i32}),
 (22,{size:=1,by':=24,zero:=[.slice none 0 0],el:=some 54}),
 (23,{size:=3,by':=40,zero:=[.int .i64 0,.int .i64 0,.slice none 0 0],agg:=true,fs:=[⟨0,3,1,false⟩,⟨1,3,1,false⟩,⟨2,22,1,false⟩]}),
 (24,{size:=3,by':=40,zero:=[.int .i64 0,.int .i64 0,.slice none 0 0],agg:=true,fs:=[⟨0,3,1,false⟩,⟨1,3,1,false⟩,⟨2,22,1,false⟩]}),
 (25,{size:=1,by':=8,zero:=[.nilFunc]}),
 (26,{size:=1,by':=8,zero:=[.pointer none],pt:=true}),
 (27,{size:=1,by':=8,zero:=[.int .i64 0],ik:=some .i64}),
 (29,{size:=1,by':=8,zero:=[.nilFunc]}),
 (30,{size:=4,by':=48,zero:=[.int .i64 0,.int .i64 0,.slice none 0 0,.int .i64 0],agg:=true,fs:=[⟨0,24,3,true⟩,⟨3,3,1,false⟩]}),
 (31,{size:=4,by':=48,zero:=[.int .i64 0,.int .i64 0,.slice none 0 0,.int .i64 0],agg:=true,fs:=[⟨0,24,3,true⟩,⟨3,3,1,false⟩]}),
 (33,{size:=1,by':=8,zero:=[.nilFunc]}),
 (34,{size:=1,by':=8,zero:=[.nilFunc]}),
 (35,{size:=1,by':=8,zero:=[.nilFunc]}),
 (36,{size:=1,by':=8,zero:=[.nilFunc]}),
 (37,{size:=1,by':=8,zero:=[.nilFunc]}),
 (38,{size:=1,by':=24,zero:=[.slice none 0 0],el:=some 3}),
 (39,{size:=1,by':=8,zero:=[.nilFunc]}),
 (40,{size:=1,by':=8,zero:=[.nilFunc]}),
 (41,{size:=1,by':=24,zero:=[.slice none 0 0],el:=some 51}),
 (42,{size:=1,by':=8,zero:=[.pointer none],pt:=true}),
 (43,{size:=1,by':=8,zero:=[.nilFunc]}),
 (44,{size:=1,by':=8,zero:=[.nilFunc]}),
 (46,{size:=1,by':=8,zero:=[.nilFunc]}),
 (47,{size:=1,by':=24,zero:=[.slice none 0 0],el:=some 131}),
 (48,{size:=2,by':=32,zero:=[.bool false,.slice none 0 0],agg:=true,fs:=[⟨0,4,1,false⟩,⟨1,47,1,false⟩]}),
 (49,{size:=2,by':=32,zero:=[.bool false,.slice none 0 0],agg:=true,fs:=[⟨0,4,1,false⟩,⟨1,47,1,false⟩]}),
 (50,{size:=3,by':=56,zero:=[.bool false,.slice none 0 0,.slice none 0 0],agg:=true,fs:=[⟨0,49,2,true⟩,⟨2,47,1,false⟩]}),
 (51,{size:=3,by':=56,zero:=[.bool false,.slice none 0 0,.slice none 0 0],agg:=true,fs:=[⟨0,49,2,true⟩,⟨2,47,1,false⟩]}),
 (52,{size:=1,by':=8,zero:=[.nilFunc]}),
 (53,{size:=1,by':=8,zero:=[.nilFunc]}),
 (54,{size:=1,by':=24,zero:=[.slice none 0 0],el:=some 65}),
 (55,{size:=1,by':=8,zero:=[.nilFunc]}),
 (56,{size:=1,by':=8,zero:=[.nilFunc]}),
 (57,{size:=1,by':=8,zero:=[.nilFunc]}),
 (58,{size:=1,by':=8,zero:=[.nilFunc]}),
 (59,{size:=1,by':=8,zero:=[.nilFunc]}),
 (60,{size:=1,by':=8,zero:=[.nilFunc]}),
 (61,{size:=1,by':=8,zero:=[.nilFunc]}),
 (62,{size:=1,by':=8,zero:=[.nilFunc]}),
 (63,{size:=1,by':=8,zero:=[.nilFunc]}),
 (64,{size:=4,by':=64,zero:=[.int .i64 0,.bool false,.slice none 0 0,.slice none 0 0],agg:=true,fs:=[⟨0,3,1,false⟩,⟨1,51,3,true⟩]}),
 (65,{size:=4,by':=64,zero:=[.int .i64 0,.bool false,.slice none 0 0,.slice none 0 0],agg:=true,fs:=[⟨0,3,1,false⟩,⟨1,51,3,true⟩]}),
 (66,{size:=8,by':=128,zero:=[.slice none 0 0,.slice none 0 0,.int .i64 0,.int .i64 0,.slice none 0 0,.int .i64 0,.int .i64 0,.slice none 0 0],agg:=true,fs:=[⟨0,38,1,false⟩,⟨1,38,1,false⟩,⟨2,24,3,true⟩,⟨5,24,3,true⟩]}),
 (67,{size:=8,by':=128,zero:=[.slice none 0 0,.slice none 0 0,.int .i64 0,.int .i64 0,.slice none 0 0,.int .i64 0,.int .i64 0,.slice none 0 0],agg:=true,fs:=[⟨0,38,1,false⟩,⟨1,38,1,false⟩,⟨2,24,3,true⟩,⟨5,24,3,true⟩]}),
 (69,{size:=1,by':=8,zero:=[.nilFunc]}),
 (71,{size:=1,by':=8,zero:=[.nilFunc]}),
 (72,{size:=1,by':=24,zero:=[.slice none 0 0],el:=some 91}),
 (73,{size:=10,by':=176,zero:=[.slice none 0 0,.slice none 0 0,.slice none 0 0,.int .i64 0,.int .i64 0,.slice none 0 0,.int .i64 0,.int .i64 0,.slice none 0 0,.slice none 0 0],agg:=true,fs:=[⟨0,22,1,false⟩,⟨1,67,8,true⟩,⟨9,72,1,false⟩]}),
 (74,{size:=10,by':=176,zero:=[.slice none 0 0,.slice none 0 0,.slice none 0 0,.int .i64 0,.int .i64 0,.slice none 0 0,.int .i64 0,.int .i64 0,.slice none 0 0,.slice none 0 0],agg:=true,fs:=[⟨0,22,1,false⟩,⟨1,67,8,true⟩,⟨9,72,1,false⟩]}),
 (75,{size:=1,by':=8,zero:=[.nilFunc]}),
 (76,{size:=1,by':=8,zero:=[.nilFunc]}),
 (77,{size:=1,by':=8,zero:=[.nilFunc]}),
 (78,{size:=1,by':=24,zero:=[.slice none 0 0],el:=some 41}),
 (79,{size:=1,by':=8,zero:=[.nilFunc]}),
 (80,{size:=1,by':=8,zero:=[.nilFunc]}),
 (81,{size:=1,by':=8,zero:=[.nilFunc]}),
 (82,{size:=1,by':=8,zero:=[.int .u64 0],ik:=some .u64}),
 (83,{size:=2,by':=32,zero:=[.slice none 0 0,.int .i64 0],agg:=true,fs:=[⟨0,38,1,false⟩,⟨1,3,1,false⟩]}),
 (84,{size:=2,by':=32,zero:=[.slice none 0 0,.int .i64 0],agg:=true,fs:=[⟨0,38,1,false⟩,⟨1,3,1,false⟩]}),
 (85,{size:=1,by':=8,zero:=[.nilFunc]}),
 (86,{size:=1,by':=8,zero:=[.nilFunc]}),
 (87,{size:=1,by':=8,zero:=[.nilFunc]}),
 (88,{size:=1,by':=8,zero:=[.nilFunc]}),
 (89,{size:=1,by':=8,zero:=[.nilFunc]}),
 (90,{size:=5,by':=88,zero:=[.int .i64 0,.bool false,.slice none 0 0,.slice none 0 0,.slice none 0 0],agg:=true,fs:=[⟨0,3,1,false⟩,⟨1,51,3,true⟩,⟨4,54,1,false⟩]}),
 (91,{size:=5,by':=88,zero:=[.int .i64 0,.bool false,.slice none 0 0,.slice none 0 0,.slice none 0 0],agg:=true,fs:=[⟨0,3,1,false⟩,⟨1,51,3,true⟩,⟨4,54,1,false⟩]}),
 (92,{size:=1,by':=8,zero:=[.nilFunc]}),
 (94,{size:=1,by':=8,zero:=[.nilFunc]}),
 (95,{size:=1,by':=8,zero:=[.nilFunc]}),
 (96,{size:=1,by':=8,zero:=[.nilFunc]}),
 (98,{size:=1,by':=8,zero:=[.nilFunc]}),
 (99,{size:=1,by':=8,zero:=[.nilFunc]}),
 (100,{size:=1,by':=8,zero:=[.nilFunc]}),
 (101,{size:=1,by':=8,zero:=[.nilFunc]}),
 (102,{size:=1,by':=8,zero:=[.nilFunc]}),
 (103,{size:=1,by':=8,zero:=[.nilFunc]}),
 (104,{size:=1,by':=8,zero:=[.nilFunc]}),
 (105,{size:=1,by':=8,zero:=[.pointer none],pt:=true}),
 (106,{size:=1,by':=8,zero:=[.nilFunc]}),
 (108,{size:=1,by':=8,zero:=[.nilFunc]}),
 (109,{size:=1,by':=8,zero:=[.nilFunc]}),
 (110,{size:=1,by':=24,zero:=[.slice none 0 0],el:=some 143}),
 (111,{size:=4,by':=96,zero:=[.slice none 0 0,.slice none 0 0,.slice none 0 0,.slice none 0 0],agg:=true,fs:=[⟨0,22,1,false⟩,⟨1,22,1,false⟩,⟨2,110,1,false⟩,⟨3,38,1,false⟩]}),
 (112,{size:=4,by':=96,zero:=[.slice none 0 0,.slice none 0 0,.slice none 0 0,.slice none 0 0],agg:=true,fs:=[⟨0,22,1,false⟩,⟨1,22,1,false⟩,⟨2,110,1,false⟩,⟨3,38,1,false⟩]}),
 (114,{size:=1,by':=8,zero:=[.nilFunc]}),
 (115,{size:=1,by':=8,zero:=[.nilFunc]}),
 (116,{size:=1,by':=8,zero:=[.nilFunc]}),
 (117,{size:=1,by':=8,zero:=[.nilFunc]}),
 (118,{size:=1,by':=8,zero:=[.nilFunc]}),
 (119,{size:=1,by':=8,zero:=[.nilFunc]}),
 (120,{size:=1,by':=8,zero:=[.nilFunc]}),
 (121,{size:=1,by':=8,zero:=[.nilFunc]}),
 (122,{size:=1,by':=8,zero:=[.nilFunc]}),
 (124,{size:=1,by':=8,zero:=[.nilFunc]}),
 (125,{size:=1,by':=8,zero:=[.nilFunc]}),
 (127,{size:=1,by':=8,zero:=[.nilFunc]}),
 (128,{size:=1,by':=8,zero:=[.nilFunc]}),
 (129,{size:=1,by':=8,zero:=[.nilFunc]}),
 (130,{size:=1,by':=8,zero:=[.nilFunc]}),
 (131,{size:=1,by':=4,zero:=[.int .u32 0],ik:=some .u32}),
 (132,{size:=1,by':=8,zero:=[.nilFunc]}),
 (133,{size:=1,by':=8,zero:=[.nilFunc]}),
 (134,{size:=1,by':=8,zero:=[.nilFunc]}),
 (135,{size:=1,by':=8,zero:=[.nilFunc]}),
 (136,{size:=1,by':=8,zero:=[.nilFunc]}),
 (137,{size:=1,by':=8,zero:=[.nilFunc]}),
 (139,{size:=1,by':=8,zero:=[.nilFunc]}),
 (140,{size:=1,by':=8,zero:=[.nilFunc]}),
 (141,{size:=1,by':=8,zero:=[.nilFunc]}),
 (142,{size:=1,by':=8,zero:=[.nilFunc]}),
 (143,{size:=1,by':=8,zero:=[.map none],mp:=true}),
 (144,{size:=1,by':=8,zero:=[.nilFunc]}),
 (145,{size:=1,by':=8,zero:=[.nilFunc]}),
 (146,{size:=1,by':=8,zero:=[.nilFunc]}),
 (147,{size:=1,by':=8,zero:=[.nilFunc]}),
 (148,{size:=1,by':=8,zero:=[.nilFunc]}),
 (149,{size:=1,by':=8,zero:=[.nilFunc]}),
 (151,{size:=1,by':=8,zero:=[.nilFunc]}),
 (153,{size:=1,by':=8,zero:=[.nilFunc]}),
 (154,{size:=1,by':=8,zero:=[.nilFunc]}),
 (155,{size:=1,by':=8,zero:=[.nilFunc]}),
 (157,{size:=1,by':=8,zero:=[.nilFunc]}),
 (158,{size:=1,by':=8,zero:=[.nilFunc]}),
 (160,{size:=1,by':=8,zero:=[.nilFunc]}),
 (161,{size:=1,by':=8,zero:=[.int .u64 0],ik:=some .u64}),
 (162,{size:=1,by':=24,zero:=[.slice none 0 0],el:=some 4}),
 (163,{size:=1,by':=8,zero:=[.nilFunc]}),
 (164,{size:=1,by':=8,zero:=[.nilFunc]}),
 (166,{size:=1,by':=8,zero:=[.nilFunc]}),
 (167,{size:=1,by':=8,zero:=[.nilFunc]}),
 (168,{size:=1,by':=8,zero:=[.nilFunc]}),
 (169,{size:=1,by':=8,zero:=[.nilFunc]}),
 (170,{size:=5,by':=40,zero:=[.int .u64 0,.int .u64 0,.int .u64 0,.int .u64 0,.bool false],agg:=true,fs:=[⟨0,82,1,false⟩,⟨1,82,1,false⟩,⟨2,82,1,false⟩,⟨3,82,1,false⟩,⟨4,4,1,false⟩]}),
 (171,{size:=5,by':=40,zero:=[.int .u64 0,.int .u64 0,.int .u64 0,.int .u64 0,.bool false],agg:=true,fs:=[⟨0,82,1,false⟩,⟨1,82,1,false⟩,⟨2,82,1,false⟩,⟨3,82,1,false⟩,⟨4,4,1,false⟩]}),
 (172,{size:=1,by':=8,zero:=[.nilFunc]}),
 (173,{size:=1,by':=8,zero:=[.nilFunc]}),
 (175,{size:=1,by':=8,zero:=[.nilFunc]}),
 (176,{size:=1,by':=8,zero:=[.nilFunc]}),
 (177,{size:=1,by':=8,zero:=[.nilFunc]}),
 (178,{size:=1,by':=8,zero:=[.nilFunc]}),
 (179,{size:=1,by':=8,zero:=[.nilFunc]}),
 (180,{size:=1,by':=8,zero:=[.nilFunc]}),
 (181,{size:=1,by':=8,zero:=[.int .i64 0],ik:=some .i64}),
 (183,{size:=1,by':=8,zero:=[.nilFunc]}),
 (184,{size:=1,by':=8,zero:=[.nilFunc]}),
 (185,{size:=1,by':=8,zero:=[.nilFunc]}),
 (187,{size:=1,by':=8,zero:=[.nilFunc]}),
 (188,{size:=1,by':=8,zero:=[.nilFunc]}),
 (189,{size:=1,by':=8,zero:=[.nilFunc]}),
 (190,{size:=1,by':=8,zero:=[.nilFunc]}),
 (191,{size:=1,by':=8,zero:=[.nilFunc]}),
 (192,{size:=1,by':=8,zero:=[.nilFunc]}),
 (193,{size:=1,by':=8,zero:=[.nilFunc]}),
 (194,{size:=1,by':=8,zero:=[.nilFunc]}),
 (195,{size:=1,by':=8,zero:=[.nilFunc]}),
 (196,{size:=1,by':=8,zero:=[.int .u64 0],ik:=some .u64}),
 (197,{size:=1,by':=8,zero:=[.nilFunc]}),
 (198,{size:=1,by':=8,zero:=[.nilFunc]}),
 (199,{size:=1,by':=8,zero:=[.nilFunc]}),
 (200,{size:=1,by':=8,zero:=[.pointer none],pt:=true}),
 (201,{size:=1,by':=8,zero:=[.nilFunc]}),
 (202,{size:=1,by':=8,zero:=[.nilFunc]}),
 (203,{size:=1,by':=8,zero:=[.nilFunc]}),
 (204,{size:=1,by':=8,zero:=[.pointer none],pt:=true}),
 (206,{size:=1,by':=8,zero:=[.nilFunc]}),
 (207,{size:=1,by':=8,zero:=[.nilFunc]}),
 (216,{size:=1,by':=8,zero:=[.pointer none],pt:=true})]
theorem bNm:tab.map (λe=>aOc Tryz.prog e.1)=tab.map (λe=>aOd e.2):=by kernel_rfl
theorem bNn:tab.all (chk tab)=true:=by kernel_rfl
theorem bNo:tab.all (λe=>Nat.beq e.2.ck 0)=true:=by kernel_rfl
theorem bNp:∀e∈tab,∀vs,ckF e.2.ck vs=true->CkP Tryz.prog e.1 vs:=λe he vs h=>by rw[Nat.eq_of_beq_eq_true (List.all_eq_true.1 bNo e he)] at h;exact(bNl h).elim
theorem bNq:∀e∈tab,e.2.mp=true->∃k e',Tryz.prog.underlying e.1=some (.map k e')∧Tryz.prog.underlying k=some (.int .i64):=λe he h=>by have:=List.all_eq_true.1 (show tab.all (λe=>!e.2.mp||Nat.beq e.1 143)=true by kernel_rfl) e he;rw[h] at this;simp only[Bool.not_true,Bool.false_or] at this;rw[Nat.eq_of_beq_eq_true this];exact⟨3,4,by kernel_rfl,by kernel_rfl⟩
theorem gT:Go.Vy.Good Tryz.prog (Go.Vy.look tab):=aVu bNm bNn bNp bNq kR
theorem mxd:Tryz.prog.follows .mixedOrders=true:=by kernel_rfl
def iC (z:Int):CV:=.v (.int .i64 z)
structure Sl (α:Type) where
 A:Option Addr
 c:Nat
 l:List α
def Sl.R {α:Type} (s:Sl α) (n:Nat) (f:α->List CV) (d:α):CV:=.r s.A s.l.length s.c n λj=>f (s.l.getD j d)
def dO (s:Sl Int):CV:=s.R 1 (λz=>[iC z]) 0
def cD {α:Type}:Sl α:=⟨none,0,[]⟩
theorem aOh {α:Type} {P:α->Prop} {l:List α} {i:Nat} {d:α} (h:i<l.length):(∀z∈l.take (i+1),P z)↔(∀z∈l.take i,P z)∧P (l.getD i d):=by
 rw[List.take_add_one,List.getElem?_eq_getElem h]
 simp only[List.mem_append,Option.mem_toList,Option.mem_def,Option.some.injEq,List.getD,List.getElem?_eq_getElem h,Option.getD_some]
 constructor
 ·intro hh;exact⟨λz hz=>hh z (.inl hz),hh _ (.inr rfl)⟩
 rintro⟨h1,h2⟩ z (hz|rfl)
 ·exact h1 z hz
 exact h2
theorem gd {α:Type} {l:List α} {i:Nat} {d:α} (h:i<l.length):l.getD i d=l[i]:=by simp[List.getD,h]
theorem cI (x:List Int):∀c∈x.map iC,cW c=true:=λc hc=>by
 obtain⟨z,_,rfl⟩:=List.mem_map.1 hc
 rfl
theorem aVw {z:Int} {i:Nat}:∀c∈[iC z],eX i c=false:=λc hc=>by rw[List.mem_singleton.1 hc];rfl
theorem aOi {x:List Int} (j:Nat) (h:j<x.length):[iC (x.getD j 0)]=((x.map iC).drop (j*1)).take 1:=by
 have hd:(x.map iC).drop j=iC x[j]::(x.drop (j+1)).map iC:=by rw[<-List.map_drop,List.drop_eq_getElem_cons h,List.map_cons]
 rw[Nat.mul_one,hd,gd h]
 rfl
theorem map_take {α β:Type} {f:α->β} {l:List α} {i:Nat} {d:α} (h:i<l.length):(l.take (i+1)).map f=(l.take i).map f++[f (l.getD i d)]:=by
 rw[List.take_add_one,List.getElem?_eq_getElem h,gd h,List.map_append]
 rfl
noncomputable def pC (p:Prop):DV:=.c (.b p (Classical.propDecidable p))
end Go.Proofs.YtlhdigjbokkbiaaGreat
namespace Go.Proofs.YtlhdigjbokkbiaaGreat
open Go.Vg Go.Vm _root_.Go.Proofs.Tryz
open Go.Vy hiding val
def uC (z:Nat):CV:=.v (.int .u32 z)
def wC (z:Nat):CV:=.v (.int .u64 z)
def fM (s:Sl Nat):CV:=s.R 1 (λz=>[uC z]) default
abbrev aJx (n:Nat):Sl Nat->Out:=λg=>⟨.c (fM g),[],g.l=aB n⟩
theorem cu32 (x:Nat):((x%4294967296:Nat):Int)=IntKind.u32.wrap (x:Int):=by rw[IntKind.wrap_u32];omega
theorem wu {a z:Int} (h:(a=z∧0<=z∧z<=18446744073709551615):=by (first|omega|(simp only[maxLen] at*;omega))):a=IntKind.u64.wrap z:=by rw[cX h.2];exact h.1
theorem shr32 (x:Nat):((x/4294967296:Nat):Int)=(x:Int).fdiv (2^(min (32:Int).toNat IntKind.u64.bits)):=by
 rw[Int.fdiv_eq_ediv_of_nonneg _ dC]
 show _=(x:Int)/4294967296
 omega
theorem shl32 {x:Nat} (h:x<4294967296):((x*4294967296:Nat):Int)=IntKind.u64.wrap ((x:Int)*2^(min (32:Int).toNat IntKind.u64.bits)):=by
 rw[show(2:Int)^(min (32:Int).toNat IntKind.u64.bits)=4294967296 from rfl,cX oM];omega
theorem p32:(0:Int)<=32:=by decide
theorem gF (l:List Nat):∀c∈l.map uC,cW c=true:=λc hc=>by
 obtain⟨z,_,rfl⟩:=List.mem_map.1 hc
 rfl
theorem yR {i:Nat} (l:List Nat):∀c∈l.map uC,eX i c=false:=λc hc=>by
 obtain⟨z,_,rfl⟩:=List.mem_map.1 hc
 rfl
theorem jD {x:List Nat} (j:Nat) (h:j<x.length):[uC (x.getD j default)]=((x.map uC).drop (j*1)).take 1:=by
 have hd:(x.map uC).drop j=uC x[j]::(x.drop (j+1)).map uC:=by rw[<-List.map_drop,List.drop_eq_getElem_cons h,List.map_cons]
 rw[Nat.mul_one,hd,gd h]
 rfl
theorem vI {x:List Nat}:∀{n:Nat},n<=x.length->flatR n (λj=>[uC (x.getD j default)])=(x.take n).map uC
 |0,_=>by simp[flatR]
 |n+1,h=>by
  rw[dK,vI oM,map_take (d:=default) oM]
abbrev aHc:FuncId:=135
theorem bHe:Ent Tryz.prog aHc:=Ent.of func135 rfl kR
theorem bHf:Tryz.prog.funcs[aHc]? =some Tryz.f135:=func135
theorem bBh (x:Sl Nat) (hx:Lm x.l) (hn:x.l.length<=17592186044416):Ctr Tryz.prog aHc [] [.c (fM x)] [] (λ_:Unit=>⟨.c (.s 0 (aB (val x.l)).length),[(131,1,(aB (val x.l)).map uC)],True⟩):=by
 refine aX gT bHe bHf rfl rfl rfl bL ClB.nil (aA gT mxd ?_)
 refine nG (rn [(3,3),(6,17)]) (λn:Nat=>[(3,.c (iC n))]) (λ_=>[]) (λn=>n<=x.l.length∧val (x.l.take n)=val x.l) (λn=>n) x.l.length ?_
 refine⟨⟨⟨Nat.le_refl _,by rw[List.take_of_length_le (Nat.le_refl _)]⟩,rfl,rfl⟩,λn hi=>aA gT mxd ⟨(n:Int)-1,λh=>wi,n-1,λh=>⟨oM,oM⟩,⟨λh1=>aA gT mxd ?_,λh1=>aA gT mxd (aA gT mxd ?_)⟩⟩⟩
 ·exact⟨(n:Int)-1,wi,n-1,⟨⟨oM,wS hi.1 oM hi.2 oM⟩,oM⟩,rfl,rfl,show _=_ by omega⟩
 have hz:n=0∨x.l.getD (n-1) default≠0:=by
  rcases Nat.eq_zero_or_pos n with h|h
  ·exact .inl h
  exact .inr λh2=>h1 ⟨by omega,by rw[h2];rfl⟩
 have ht:=rF hx hi.1 hi.2 hz
 refine⟨n,⟨rfl,hi.1⟩,⟨λj hj=>rfl,rfl,by simp only[maxLen];omega,show(0+n)*4<=_ by omega,λc hc=>?_⟩,(),trivial,dU ?_ ?_ (Nat.zero_le _) ?_ rfl oK⟩
 ·replace hc:c∈flatR n λj=>[uC (x.l.getD j default)]:=hc
  rw[vI hi.1] at hc
  exact yR _ c hc
 ·show _=_
  rw[<-ht,List.length_take];omega
 ·show(131,1,flatR n λj=>[uC (x.l.getD j default)])=(131,1,_)
  rw[vI hi.1,ht]
 exact scB.cons (List.all_eq_true.2 λc hc=>iS (gF _ c hc)) scB.nil
theorem fX (x:Sl Nat) (hx:Lm x.l) (hn:x.l.length<=17592186044416):Ctr Tryz.prog aHc [] [.c (fM x)] [] (aJx (val x.l)):=
 ((bBh x hx hn).frz (λ_ j=>[uC ((aB (val x.l)).getD j default)]) λ_ _=>⟨λj hj=>jD j hj,by simp,Nat.zero_lt_one,gF _⟩).re λg _=>⟨⟨g.2.1,g.2.2,aB (val x.l)⟩,rfl,rfl,rfl,rfl⟩
def aOj:Nat->Nat->List (Nat×Bool)
 |_,0=>[]
 |a,n+1=>(a,false)::aOj (a+1) n
theorem ff {p:Prop} (h:¬p):(false=true↔p):=⟨λh=>(by cases h),λhp=>absurd hp h⟩
theorem tt {p:Prop} (h:p):(true=true↔p):=⟨λ_=>h,λ_=>rfl⟩
abbrev aDw:FuncId:=94
theorem bBi:Ent Tryz.prog aDw:=Ent.of func94 rfl kR
theorem bBj:Tryz.prog.funcs[aDw]? =some Tryz.f94:=func94
theorem yS (x y:Sl Nat):Ctr Tryz.prog aDw [] [.c (fM x),.c (fM y)] [] (λ_:Unit=>⟨pC (x.l=y.l),[],True⟩):=by
 refine aX gT bBi bBj rfl rfl rfl bL ClB.nil (aJv 0 rfl λhn=>aA gT mxd ⟨λh=>aA gT mxd ?_,λh=>aA gT mxd ?_⟩)
 ·exact⟨(),trivial,aN (ff λe=>h (by rw[e])) rfl trivial⟩
 refine nG (rn [(5,5),(11,25)]) (λk:Nat=>[(5,.c (iC k))]) (λ_=>[]) (λk=>k<=x.l.length∧∀j,j<k->x.l.getD j default=y.l.getD j default) (x.l.length-·) 0 ?_
 refine⟨⟨⟨Nat.zero_le _,λj hj=>absurd hj (Nat.not_lt_zero _)⟩,rfl,rfl⟩,λk hi=>aA gT mxd ⟨λh1=>aA gT mxd ⟨.seq (aOj 0 9),by kernel_rfl,k,⟨rfl,oM⟩,k,⟨rfl,oM⟩,⟨λh2=>aA gT mxd ?_,λh2=>aA gT mxd ?_⟩⟩,λh1=>aA gT mxd (aA gT mxd ?_)⟩⟩
 ·exact⟨(),trivial,aN (ff λe=>h2 (by rw[e])) rfl trivial⟩
 ·refine⟨(k+1:Nat),wi,k+1,⟨⟨oM,λj hj=>?_⟩,oM⟩,rfl,rfl,rfl⟩
  rcases Nat.lt_or_eq_of_le (Nat.le_of_lt_succ hj) with h3|rfl
  ·exact hi.2 j h3
  have:=Decidable.not_not.1 h2;omega
 refine⟨(),trivial,aN (tt (aKo (by have:=Decidable.not_not.1 h;omega) λj hj=>hi.2 j oM)) rfl trivial⟩
abbrev aOk:FuncId:=103
theorem bHg:Ent Tryz.prog aOk:=Ent.of func103 rfl kR
theorem bHh:Tryz.prog.funcs[aOk]? =some Tryz.f103:=func103
theorem yT {n:Nat} (hn:n<18446744073709551616):Ctr Tryz.prog aOk [] [.c (wC n)] [] (aJx n):=by
 refine aX gT bHg bHh rfl rfl rfl bL ClB.nil (aA gT mxd ?_)
 have hv:val [n%4294967296,n/4294967296%4294967296]=n:=by rw[Nat.mod_eq_of_lt (show n/4294967296<4294967296 by omega),aFx]
 refine⟨_,cu32 n,p32,_,shr32 n,_,cu32 _,some (λj=>[uC ([n%4294967296,n/4294967296%4294967296].getD j default)]),⟨⟨Nat.le_refl _,by decide⟩,rfl,λj hj=>?_,λc hc=>?_⟩,λA c _ _=>?_⟩
 ·exact jD (x:=[n%4294967296,n/4294967296%4294967296]) j hj
 ·exact gF [n%4294967296,n/4294967296%4294967296] c hc
 refine⟨[],fX ⟨A,c,[n%4294967296,n/4294967296%4294967296]⟩ (Lm.two hn) (by simp),rfl,rfl,rfl,λg hg=>⟨g,?_,aN rfl rfl trivial⟩⟩
 show g.l=aB n
 rw[<-hv]
 exact hg
theorem or32 {x y:Nat} (hx:x<4294967296) (hy:y<4294967296):((x*4294967296+y:Nat):Int)=IntKind.u64.wrap ((BitVec.ofInt IntKind.u64.bits ((x*4294967296:Nat):Int)|||BitVec.ofInt IntKind.u64.bits (y:Int)).toNat:Int):=by
 show _=IntKind.u64.wrap ((BitVec.ofInt 64 ((x*4294967296:Nat):Int)|||BitVec.ofInt 64 (y:Int)).toNat:Int)
 rw[BitVec.ofInt_natCast,BitVec.ofInt_natCast,BitVec.toNat_or,BitVec.toNat_ofNat,BitVec.toNat_ofNat,Nat.mod_eq_of_lt oM,Nat.mod_eq_of_lt oM]
 have h:=Nat.two_pow_add_eq_or_of_lt (i:=32) (b:=y) oM x
 rw[Nat.mul_comm (2^32) x] at h
 rw[show x*4294967296=x*2^32 from rfl,<-h,cX oM]
theorem dg {X:List Nat} {n:Nat} (h:X=aB n):Lm X∧val X=n:=by subst h;exact⟨aR n,aW n⟩
abbrev aOl:FuncId:=154
theorem bHi:Ent Tryz.prog aOl:=Ent.of func154 rfl kR
theorem bHj:Tryz.prog.funcs[aOl]? =some Tryz.f154:=func154
theorem aOm (x:Sl Nat) (hx:Lm x.l) (hn:x.l.length<=17592186044416):Ctr Tryz.prog aOl [] [.c (fM x)] [] (λ_:Unit=>⟨.t [.c (wC (if val x.l<18446744073709551616 then val x.l else 0)),pC (val x.l<18446744073709551616)],[],True⟩):=by
 refine aX gT bHi bHj rfl rfl rfl bL ClB.nil (aA gT mxd ⟨[],fX x hx hn,rfl,rfl,rfl,λX hX=>?_⟩)
 replace hX:X.l=aB (val x.l):=hX
 obtain⟨lX,vX⟩:=dg hX
 have h64:=iI (n:=val x.l)
 rw[<-cJ,<-hX] at h64
 refine⟨λh=>aA gT mxd ⟨(),trivial,aN ⟨?_,ff oM⟩ rfl trivial⟩,λh=>aA gT mxd ⟨(X.l.length:Int)-1,wi,?_⟩⟩
 ·rw[if_neg oM];rfl
 refine nG (rn [(4,5),(14,25)]) (λn:Nat=>[(5,.c (iC ((n:Int)-1))),(4,.c (wC (val (X.l.drop n))))]) (λ_=>[]) (λn=>n<=X.l.length) (λn=>n) X.l.length ?_
 refine⟨⟨Nat.le_refl _,rfl,rfl,?_⟩,λn hi=>aA gT mxd ⟨λh1=>aA gT mxd ?_,λh1=>aA gT mxd (aA gT mxd ?_)⟩⟩
 ·show(0:Int)=_
  rw[List.drop_of_length_le (Nat.le_refl _)];rfl
 ·have hdl:val (X.l.drop n)<4294967296:=by
   have h1:=eM (lX.drop n)
   have h2:4294967296^(X.l.drop n).length<=4294967296^1:=Nat.pow_le_pow_right dC (by rw[List.length_drop];omega)
   omega
  have hd:=lX.at (k:=n-1) oM
  refine⟨p32,_,shl32 hdl,n-1,⟨oM,oM⟩,_,wu (a:=(X.l.getD (n-1) default:Nat)),_,or32 hdl hd,(n:Int)-1-1,wi,n-1,⟨oM,oM⟩,rfl,rfl,?_,?_⟩
  ·show(n:Int)-1-1=_
   omega
  show(_:Int)=(_:Int)
  rw[kI oM hi]
  omega
 have h0:n=0:=by omega
 subst h0
 refine⟨(),trivial,aN ⟨?_,tt oM⟩ rfl trivial⟩
 show(_:Int)=(_:Int)
 rw[if_pos oM,List.drop_zero,vX]
def cmpI (a b:Int):Int:=if a<b then-1 else if b<a then 1 else 0
abbrev bBk:FuncId:=142
theorem bNr:Ent Tryz.prog bBk:=Ent.of func142 rfl kR
theorem bNs:Tryz.prog.funcs[bBk]? =some Tryz.f142:=func142
theorem bHk (x y:Sl Nat) (hx:Lm x.l) (hy:Lm y.l) (hn:x.l.length<=17592186044416) (hm:y.l.length<=17592186044416):Ctr Tryz.prog bBk [] [.c (fM x),.c (fM y)] [] (λ_:Unit=>⟨.c (iC (cmpI (val x.l) (val y.l))),[],True⟩):=by
 refine aX gT bNr bNs rfl rfl rfl bL ClB.nil (aA gT mxd ⟨[],fX x hx hn,rfl,rfl,rfl,λX hX=>⟨[],fX y hy hm,rfl,rfl,rfl,λY hY=>?_⟩⟩)
 replace hX:X.l=aB (val x.l):=hX
 replace hY:Y.l=aB (val y.l):=hY
 obtain⟨lX,vX⟩:=dg hX
 obtain⟨lY,vY⟩:=dg hY
 have hlx:=eG hx
 have hly:=eG hy
 rw[<-cJ,<-hX] at hlx
 rw[<-cJ,<-hY] at hly
 refine⟨λh=>aA gT mxd ⟨λh1=>aA gT mxd ?_,λh1=>aA gT mxd ?_⟩,λh=>aA gT mxd ⟨(X.l.length:Int)-1,wi,?_⟩⟩
 ·have hlt:val x.l<val y.l:=jJ (by rw[<-cJ,<-cJ,<-hX,<-hY];omega)
  exact⟨(),trivial,aN (show(-1:Int)=_ by unfold cmpI;rw[if_pos oM]) rfl trivial⟩
 ·have hlt:val y.l<val x.l:=jJ (by rw[<-cJ,<-cJ,<-hX,<-hY];omega)
  exact⟨(),trivial,aN (show(1:Int)=_ by unfold cmpI;rw[if_neg oM,if_pos oM]) rfl trivial⟩
 have hl:X.l.length=Y.l.length:=by have:=Decidable.not_not.1 h;omega
 refine nG (rn [(5,5),(23,44)]) (λn:Nat=>[(5,.c (iC ((n:Int)-1)))]) (λ_=>[]) (λn=>n<=X.l.length∧X.l.drop n=Y.l.drop n) (λn=>n) X.l.length ?_
 refine⟨⟨⟨Nat.le_refl _,by rw[List.drop_of_length_le (Nat.le_refl _),List.drop_of_length_le oM]⟩,rfl,rfl⟩,λn hi=>aA gT mxd ⟨λh1=>aA gT mxd ⟨.seq (aOj 0 9),by kernel_rfl,n-1,⟨oM,oM⟩,n-1,⟨oM,oM⟩,⟨λh2=>aA gT mxd ?_,λh2=>aA gT mxd ⟨.seq (aOj 0 9),by kernel_rfl,n-1,⟨oM,oM⟩,n-1,⟨oM,oM⟩,⟨λh3=>aA gT mxd ?_,λh3=>aA gT mxd ?_⟩⟩⟩⟩,λh1=>aA gT mxd (aA gT mxd ?_)⟩⟩
 ·have hlt:val x.l<val y.l:=by
   have h:=rG (a:=X.l) (b:=Y.l) (m:=n-1) lX oM oM (by rw[show n-1+1=n by omega];exact hi.2) oM
   rw[vX,vY] at h;exact h
  exact⟨(),trivial,aN (show(-1:Int)=_ by unfold cmpI;rw[if_pos oM]) rfl trivial⟩
 ·have hlt:val y.l<val x.l:=by
   have h:=rG (a:=Y.l) (b:=X.l) (m:=n-1) lY oM oM (by rw[show n-1+1=n by omega];exact hi.2.symm) oM
   rw[vY,vX] at h;exact h
  exact⟨(),trivial,aN (show(1:Int)=_ by unfold cmpI;rw[if_neg oM,if_pos oM]) rfl trivial⟩
 ·exact⟨(n:Int)-1-1,wi,n-1,⟨⟨oM,wT oM hi.1 oM hi.2 oM⟩,oM⟩,rfl,rfl,show(n:Int)-1-1=_ by omega⟩
 have h0:n=0:=by omega
 subst h0
 have h:=hi.2
 rw[List.drop_zero,List.drop_zero] at h
 have h:=congrArg val h
 rw[vX,vY] at h
 exact⟨(),trivial,aN (show(0:Int)=_ by unfold cmpI;rw[if_neg oM,if_neg oM]) rfl trivial⟩
theorem qK {x:List Nat} {i:Nat} {z:Nat} (h:i<x.length):fG (x.map uC) (i*1) [uC z]=(x.set i z).map uC:=by
 unfold fG
 rw[Nat.mul_one,<-List.map_take,<-List.map_drop,List.set_eq_take_append_cons_drop,if_pos h,List.map_append,List.map_cons]
 rfl
theorem aHd {x:List Nat} {i:Nat} (h:i<x.length):(x.map uC)[i*1]? =some (uC (x.getD i default)):=by
 rw[Nat.mul_one,List.getElem?_map,List.getElem?_eq_getElem h,gd h]
 rfl
theorem tF (m:Nat):List.replicate m (.v (.int .u32 0))=(List.replicate m 0).map uC:=by simp[uC]
theorem w0 {x:Nat} (h:x<=18446744073709551615):(x:Int)=IntKind.u64.wrap (x:Int):=(cX oM).symm
theorem wa {x y:Nat} (h:x+y<=18446744073709551615):((x+y:Nat):Int)=IntKind.u64.wrap ((x:Int)+(y:Int)):=(cX oM).symm.trans (by rw[Int.natCast_add])
abbrev bBl:FuncId:=116
theorem bNt:Ent Tryz.prog bBl:=Ent.of func116 rfl kR
theorem bNu:Tryz.prog.funcs[bBl]? =some Tryz.f116:=func116
theorem aOn (x y:Sl Nat) (hx:Lm x.l) (hy:Lm y.l) (hn:x.l.length<=1099511627776) (hm:y.l.length<=1099511627776):Ctr Tryz.prog bBl [] [.c (fM x),.c (fM y)] [] (aJx (val x.l+val y.l)):=by
 refine aX gT bNt bNu rfl rfl rfl bL ClB.nil (aA gT mxd ?_)
 obtain⟨m,hmm⟩:∃m:Nat,m=max x.l.length y.l.length+1:=⟨_,rfl⟩
 refine⟨(m:Int),wi (z:=max (x.l.length:Int) (y.l.length:Int)+1) (h:=⟨by omega,by omega,by omega⟩),m,⟨rfl,rfl,show 4*m<=_ by omega,by simp only[maxLen];omega⟩,?_⟩
 refine nG (rn [(6,7),(15,49)]) (λg:Nat×Nat×List Nat=>[(7,.c (iC g.1)),(6,.c (wC g.2.1))]) (λg=>[(131,1,(eY g.2.2 m).map uC)]) (λg=>g.1<=m∧g.2.2.length=g.1∧Lm g.2.2∧g.2.1<=1∧val g.2.2+4294967296^g.1*g.2.1=val (x.l.take g.1)+val (y.l.take g.1)) (λg=>m-g.1) (0,0,[]) ?_
 refine⟨⟨⟨Nat.zero_le _,rfl,Lm.nil,Nat.zero_le _,rfl⟩,?_,rfl,rfl⟩,λ⟨k,c,P⟩ ⟨hk,hP,hLm,hc,hv⟩=>aA gT mxd ⟨λh1=>aA gT mxd ?_,λh1=>aA gT mxd (aA gT mxd ?_)⟩⟩
 ·show [(_,_,_)]=[(_,_,_)]
  rw[jK]
  exact congrArg (λl=>[(131,1,l)]) (tF m)
 ·simp only at hk hP hLm hc hv h1
  have hkm:k<m:=by omega
  have dx:=kH hx k
  have dy:=kH hy k
  refine vjn (rn [(6,7),(15,49)]) (λg:Nat=>[(7,.c (iC k)),(6,.c (wC g))]) (λ_=>[(131,1,(eY P m).map uC)]) (λg=>g=c+dig x.l k) ?_
  refine⟨⟨λh2=>aA gT mxd ⟨k,⟨rfl,oM⟩,_,w0 (x:=x.l.getD k default) (by have:=hx.at (k:=k) oM;omega),_,wa (by have:=hx.at (k:=k) oM;omega),_,rfl,rfl,rfl,rfl,?_⟩,λh2=>aA gT mxd ⟨_,rfl,rfl,rfl,rfl,?_⟩⟩,?_⟩
  ·show(_:Int)=(_:Int)
   rw[gV oM]
  ·show(_:Int)=(_:Int)
   rw[kQ oM];rfl
  rintro _ rfl
  refine vjn (rn [(6,7),(15,49)]) (λg:Nat=>[(7,.c (iC k)),(6,.c (wC g))]) (λ_=>[(131,1,(eY P m).map uC)]) (λg=>g=c+dig x.l k+dig y.l k) ?_
  refine⟨⟨λh2=>aA gT mxd ⟨k,⟨rfl,oM⟩,_,w0 (x:=y.l.getD k default) (by have:=hy.at (k:=k) oM;omega),_,wa (by have:=hy.at (k:=k) oM;omega),_,rfl,rfl,rfl,rfl,?_⟩,λh2=>aA gT mxd ⟨_,rfl,rfl,rfl,rfl,?_⟩⟩,?_⟩
  ·show(_:Int)=(_:Int)
   rw[gV (xs:=y.l) oM]
  ·show(_:Int)=(_:Int)
   rw[kQ (xs:=y.l) oM];rfl
  rintro _ rfl
  have hfl:k<(eY P m).length:=by rw[pM oM];exact hkm
  refine⟨_,cu32 _,k,⟨rfl,hkm,show k*1<_ by rw[List.length_map];omega⟩,_,⟨qK hfl,show k*1+1<=_ by rw[List.length_map];omega⟩,p32,_,shr32 _,(k+1:Nat),wi,(k+1,(c+dig x.l k+dig y.l k)/4294967296,P++[(c+dig x.l k+dig y.l k)%4294967296]),⟨⟨oM,?_,hLm.snoc (Nat.mod_lt _ dC),?_,?_⟩,?_⟩,rfl,?_,rfl,rfl⟩
  ·simp[hP]
  ·show _/_<=_
   omega
  ·show val (P++_)+_=val (x.l.take (k+1))+val (y.l.take (k+1))
   rw[gU,gU];exact aAh hP hv
  ·show m-(k+1)<m-k
   omega
  show [(_,_,_)]=[(_,_,_)]
  rw[gM hP hkm]
 simp only at hk hP hLm hc hv h1
 obtain rfl:m=P.length:=by omega
 have hf:eY P P.length=P:=iF rfl
 have hfin:=aTz hx hy rfl hmm (by rw[hP];exact hv)
 refine⟨some (λj=>[uC (P.getD j default)]),⟨⟨Nat.zero_le _,Nat.zero_lt_one⟩,?_,λj hj=>?_,?_⟩,λA cc _ _=>⟨[],fX ⟨A,cc,P⟩ hLm (by show P.length<=_;omega),rfl,rfl,rfl,λg hg=>⟨g,?_,aN rfl rfl trivial⟩⟩⟩
 ·show P.length*1=_
  rw[hf];simp
 ·show _=List.take 1 (List.drop (j*1) ((eY P P.length).map uC))
  rw[hf];exact jD j hj
 ·rw[hf];exact gF P
 show g.l=_
 rw[<-hfin];exact hg
theorem cmpI_neg {a b:Int}:cmpI a b<0↔a<b:=by unfold cmpI;constructor<;>intro h<;>(repeat split at*)<;>omega
abbrev bBm:FuncId:=117
theorem bNv:Ent Tryz.prog bBm:=Ent.of func117 rfl kR
theorem bNw:Tryz.prog.funcs[bBm]? =some Tryz.f117:=func117
theorem aOo (x y:Sl Nat) (hx:Lm x.l) (hy:Lm y.l) (hn:x.l.length<=1099511627776) (hm:y.l.length<=1099511627776):Ctr Tryz.prog bBm [] [.c (fM x),.c (fM y)] [] (λg:Sl Nat=>⟨.t [.c (fM g),pC (val y.l<=val x.l)],[],g.l=aB (val x.l-val y.l)⟩):=by
 refine aX gT bNv bNw rfl rfl rfl bL ClB.nil (aA gT mxd ⟨[],bHk x y hx hy oM oM,rfl,rfl,rfl,λ_ _=>⟨λh=>aA gT mxd ?_,λh=>aA gT mxd ?_⟩⟩)
 ·have h:=cmpI_neg.1 h
  refine⟨⟨none,0,[]⟩,?_,aN ⟨⟨rfl,rfl,rfl⟩,ff oM⟩ rfl trivial⟩
  show []=aB _
  rw[show val x.l-val y.l=0 by omega];rfl
 have hxy:val y.l<=val x.l:=by
  rcases Nat.lt_or_ge (val x.l) (val y.l) with h'|h'
  ·exact absurd (cmpI_neg.2 oM) h
  exact h'
 refine⟨[],fX x hx oM,rfl,rfl,rfl,λX hX=>⟨[],fX y hy oM,rfl,rfl,rfl,λY hY=>?_⟩⟩
 replace hX:X.l=aB (val x.l):=hX
 replace hY:Y.l=aB (val y.l):=hY
 obtain⟨lX,vX⟩:=dg hX
 obtain⟨lY,vY⟩:=dg hY
 have hlen:Y.l.length<=X.l.length:=by rw[hX,hY];exact cH hxy
 have hXn:X.l.length<=x.l.length:=by rw[hX];exact eG hx
 refine⟨X.l.length,⟨rfl,rfl,show 4*X.l.length<=_ by omega,by simp only[maxLen];omega⟩,?_⟩
 refine nG (rn [(7,10),(22,56)]) (λg:Nat×Nat×List Nat=>[(8,.c (iC g.1)),(7,.c (wC g.2.1))]) (λg=>[(131,1,(eY g.2.2 X.l.length).map uC)]) (λg=>g.1<=X.l.length∧g.2.2.length=g.1∧Lm g.2.2∧g.2.1<=1∧val g.2.2+val (Y.l.take g.1)=val (X.l.take g.1)+4294967296^g.1*g.2.1) (λg=>X.l.length-g.1) (0,0,[]) ?_
 refine⟨⟨⟨Nat.zero_le _,rfl,Lm.nil,Nat.zero_le _,rfl⟩,?_,rfl,rfl⟩,λ⟨k,c,P⟩ ⟨hk,hP,hLm,hc,hv⟩=>aA gT mxd ⟨λh1=>aA gT mxd ?_,λh1=>aA gT mxd (aA gT mxd ?_)⟩⟩
 ·show [(_,_,_)]=[(_,_,_)]
  rw[jK]
  exact congrArg (λl=>[(131,1,l)]) (tF _)
 ·simp only at hk hP hLm hc hv h1
  have hkm:k<X.l.length:=by omega
  have dx:=lX.at hkm
  have dy:=kH lY k
  refine vjn (rn [(7,10),(22,56)]) (λg:Nat=>[(8,.c (iC k)),(7,.c (wC c)),(9,.c (wC g))]) (λ_=>[(131,1,(eY P X.l.length).map uC)]) (λg=>g=c+dig Y.l k) ?_
  refine⟨⟨λh2=>aA gT mxd ⟨k,⟨rfl,oM⟩,_,w0 (x:=Y.l.getD k default) (by have:=lY.at (k:=k) oM;omega),_,wa (by have:=lY.at (k:=k) oM;omega),_,rfl,rfl,rfl,rfl,rfl,?_⟩,λh2=>aA gT mxd ⟨_,rfl,rfl,rfl,rfl,rfl,?_⟩⟩,?_⟩
  ·show(_:Int)=(_:Int)
   rw[gV (xs:=Y.l) oM]
  ·show(_:Int)=(_:Int)
   rw[kQ (xs:=Y.l) oM];rfl
  rintro _ rfl
  have hfl:k<(eY P X.l.length).length:=by rw[pM oM];exact hkm
  obtain⟨b,hb⟩:∃b:Nat,b=if X.l.getD k default<c+dig Y.l k then 1 else 0:=⟨_,rfl⟩
  refine⟨k,⟨rfl,hkm⟩,_,w0 (x:=X.l.getD k default) oM,?_⟩
  refine vjn (rn [(7,10),(22,56)]) (λ_:Unit=>[(8,.c (iC k)),(7,.c (wC b)),(9,.c (wC (c+dig Y.l k))),(10,.c (wC (X.l.getD k default+4294967296*b)))]) (λ_=>[(131,1,(eY P X.l.length).map uC)]) (λ_=>True) ?_
  refine⟨⟨λh2=>aA gT mxd ⟨_,wa (x:=X.l.getD k default) (y:=4294967296) oM,(),trivial,rfl,rfl,rfl,?_,rfl,?_⟩,λh2=>aA gT mxd ⟨(),trivial,rfl,rfl,rfl,?_,rfl,?_⟩⟩,?_⟩
  ·show(1:Int)=(b:Int)
   rw[hb,if_pos oM];rfl
  ·show(_:Int)=(_:Int)
   rw[hb,if_pos oM]
  ·show(0:Int)=(b:Int)
   rw[hb,if_neg oM];rfl
  ·show(_:Int)=(_:Int)
   rw[hb,if_neg oM,Nat.mul_zero,Nat.add_zero]
  intro _ _
  have hb1:(X.l.getD k default<c+dig Y.l k∧b=1)∨(¬X.l.getD k default<c+dig Y.l k∧b=0):=by
   by_cases h:X.l.getD k default<c+dig Y.l k
   ·exact .inl ⟨h,by rw[hb,if_pos h]⟩
   exact .inr ⟨h,by rw[hb,if_neg h]⟩
  have hs:=aAi (x:=X.l.getD k default) (y:=dig Y.l k) hP hv dx dy hc
  have hm:(X.l.getD k default+4294967296*b-(c+dig Y.l k))%4294967296=(X.l.getD k default+4294967296-(c+dig Y.l k))%4294967296:=by omega
  have hbi:(if X.l.getD k default<c+dig Y.l k then 1 else 0)=b:=hb.symm
  rw[<-hm,hbi] at hs
  rw[<-bI hkm,<-gU] at hs
  refine⟨((X.l.getD k default+4294967296*b-(c+dig Y.l k):Nat):Int),wu (h:=⟨by omega,by omega,by omega⟩),_,cu32 _,k,⟨rfl,hkm,show k*1<_ by rw[List.length_map];omega⟩,_,⟨qK hfl,show k*1+1<=_ by rw[List.length_map];omega⟩,(k+1:Nat),wi,(k+1,b,P++[(X.l.getD k default+4294967296*b-(c+dig Y.l k))%4294967296]),⟨⟨oM,?_,hLm.snoc (Nat.mod_lt _ dC),?_,?_⟩,?_⟩,rfl,?_,rfl,rfl⟩
  ·simp[hP]
  ·show b<=1
   omega
  ·exact hs
  ·show _-(k+1)<_-k
   omega
  show [(_,_,_)]=[(_,_,_)]
  rw[gM hP hkm]
 simp only at hk hP hLm hc hv h1
 obtain rfl:k=X.l.length:=by omega
 have hf:eY P X.l.length=P:=iF hP
 have hfin:=aFy (k:=X.l.length) hLm hP (Nat.le_refl _) hlen oM hv
 refine⟨some (λj=>[uC (P.getD j default)]),⟨⟨Nat.zero_le _,Nat.zero_lt_one⟩,?_,λj hj=>?_,?_⟩,λA cc _ _=>⟨[],fX ⟨A,cc,P⟩ hLm (by show P.length<=_;omega),?_,rfl,rfl,λg hg=>⟨g,?_,aN ⟨rfl,tt hxy⟩ rfl trivial⟩⟩⟩
 ·show X.l.length*1=_
  rw[hf];simp[hP]
 ·show _=List.take 1 (List.drop (j*1) ((eY P X.l.length).map uC))
  rw[hf];exact jD j (by rw[hP];exact hj)
 ·rw[hf];exact gF P
 ·show [DV.c (.r A X.l.length cc 1 _)]=[DV.c (.r A P.length cc 1 _)]
  rw[hP]
 show g.l=_
 rw[<-vX,<-vY,<-hfin];exact hg
theorem wm {x y:Nat} (h:x*y<=18446744073709551615):((x*y:Nat):Int)=IntKind.u64.wrap ((x:Int)*(y:Int)):=(cX (z:=((x*y:Nat):Int)) oM).symm.trans (by rw[Int.natCast_mul])
abbrev bBn:FuncId:=118
theorem bNx:Ent Tryz.prog bBn:=Ent.of func118 rfl kR
theorem bNy:Tryz.prog.funcs[bBn]? =some Tryz.f118:=func118
theorem bHl (x y:Sl Nat) (hx:Lm x.l) (hy:Lm y.l) (hn:x.l.length<=1099511627776) (hm:y.l.length<=1099511627776):Ctr Tryz.prog bBn [] [.c (fM x),.c (fM y)] [] (aJx (val x.l*val y.l)):=by
 refine aX gT bNx bNy rfl rfl rfl bL ClB.nil (aA gT mxd ?_)
 obtain⟨m,hmm⟩:∃m:Nat,m=x.l.length+y.l.length:=⟨_,rfl⟩
 refine⟨(m:Int),wi (z:=(x.l.length:Int)+(y.l.length:Int)) (h:=⟨by omega,by omega,by omega⟩),m,⟨rfl,rfl,show 4*m<=_ by omega,by simp only[maxLen];omega⟩,?_⟩
 refine nG (rn [(6,8),(15,64)]) (λg:Nat×List Nat=>[(6,.c (iC g.1))]) (λg=>[(131,1,g.2.map uC)]) (λg=>g.1<=x.l.length∧g.2.length=m∧Lm g.2∧val (g.2.take (g.1+y.l.length))=val (x.l.take g.1)*val y.l∧∀j,g.1+y.l.length<=j->j<g.2.length->g.2.getD j default=0) (λg=>x.l.length-g.1) (0,List.replicate m 0) ?_
 refine⟨⟨⟨Nat.zero_le _,by simp,Lm.zeros m,?_,λj _ hj=>?_⟩,?_,rfl⟩,λ⟨i,O⟩ ⟨hi,hO,hLm,hv,hz⟩=>aA gT mxd ⟨λh1=>aA gT mxd ?_,λh1=>aA gT mxd (aA gT mxd ?_)⟩⟩
 ·show val ((List.replicate m 0).take _)=_
  rw[List.take_replicate,rE]
  simp[val]
 ·rw[List.length_replicate] at hj
  rw[gd (by simpa using hj)]
  simp
 ·exact congrArg (λl=>[(131,1,l)]) (tF m)
 ·simp only at hi hO hLm hv hz h1
  have him:i<x.l.length:=by omega
  have dx:=hx.at him
  refine nG (rn [(7,8),(21,56)]) (λg:Nat×Nat×List Nat=>[(8,.c (iC g.1)),(7,.c (wC g.2.1))]) (λg=>[(131,1,(gX O g.2.2 i).map uC)]) (λg=>g.1<=y.l.length∧g.2.2.length=g.1∧Lm g.2.2∧g.2.1<4294967296∧val g.2.2+4294967296^g.1*g.2.1=val ((O.drop i).take g.1)+x.l.getD i default*val (y.l.take g.1)) (λg=>y.l.length-g.1) (0,0,[]) ?_
  refine⟨⟨⟨Nat.zero_le _,rfl,Lm.nil,by decide,by simp[val]⟩,?_,rfl,rfl⟩,λ⟨k,c,Q⟩ ⟨hk,hQ,hQm,hc,hw⟩=>aA gT mxd ⟨λh2=>aA gT mxd ?_,λh2=>aA gT mxd (aA gT mxd ?_)⟩⟩
  ·show [(_,_,_)]=[(_,_,_)]
   rw[aAj]
  ·simp only at hk hQ hQm hc hw h2
   have hkm:k<y.l.length:=by omega
   have dy:=hy.at hkm
   have hik:i+k<O.length:=by omega
   have hrl:(gX O Q i).length=O.length:=iL oM
   have ho:O.getD (i+k) default<4294967296:=hLm.at hik
   have hg:(gX O Q i).getD (i+k) default=O.getD (i+k) default:=aFz hQ hik
   have hlm:=mS dx dy
   obtain⟨p,hp⟩:∃p,p=x.l.getD i default*y.l.getD k default:=⟨_,rfl⟩
   rw[<-hp] at hlm
   have hpos:i+k<(gX O Q i).length:=by rw[hrl];exact hik
   refine⟨.seq (aOj 0 22),by kernel_rfl,((i+k:Nat):Int),wi,i+k,⟨rfl,by omega,show(i+k)*1<_ by rw[List.length_map,hrl];omega⟩,_,aHd hpos,_,w0 (x:=(gX O Q i).getD (i+k) default) oM,i,⟨rfl,him⟩,_,w0 (x:=x.l.getD i default) oM,k,⟨rfl,hkm⟩,_,w0 (x:=y.l.getD k default) oM,_,wm oM,_,wa oM,_,wa oM,((i+k:Nat):Int),wi,_,cu32 _,i+k,⟨rfl,by omega,show(i+k)*1<_ by rw[List.length_map,hrl];omega⟩,_,⟨qK hpos,show(i+k)*1+1<=_ by rw[List.length_map,hrl];omega⟩,p32,_,shr32 _,(k+1:Nat),wi,(k+1,(c+(O.getD (i+k) default+x.l.getD i default*y.l.getD k default))/4294967296,Q++[(c+(O.getD (i+k) default+x.l.getD i default*y.l.getD k default))%4294967296]),⟨⟨oM,?_,hQm.snoc (Nat.mod_lt _ dC),?_,pO hQ hkm hik hw⟩,?_⟩,rfl,?_,rfl,?_⟩
   ·simp[hQ]
   ·show _/_<_
    omega
   ·show y.l.length-(k+1)<y.l.length-k
    omega
   ·show [(_,_,_)]=[(_,_,_)]
    rw[hg,pN hQ hik]
   show(_:Int)=(_:Int)
   rw[hg]
  simp only at hk hQ hQm hc hw h2
  obtain rfl:k=y.l.length:=by omega
  have hpos:i+y.l.length<(gX O Q i).length:=by rw[iL oM];omega
  have hQ':(Q++[c]).length=y.l.length+1:=by simp[hQ]
  refine⟨((i+y.l.length:Nat):Int),wi,_,cu32 c,i+y.l.length,⟨rfl,by omega,show(i+y.l.length)*1<((gX O Q i).map uC).length by rw[List.length_map];omega⟩,_,⟨qK hpos,show(i+y.l.length)*1+1<=((gX O Q i).map uC).length by rw[List.length_map];omega⟩,(i+1:Nat),wi,(i+1,gX O (Q++[c]) i),⟨⟨oM,?_,aGa hLm (hQm.snoc hc),?_,?_⟩,?_⟩,rfl,?_,rfl⟩
  ·show(gX O (Q++[c]) i).length=m
   rw[iL oM];exact hO
  ·rw[eC (Nat.le_refl _)] at hw
   exact aGb (n:=0) him hQ oM hv hw
  ·exact uA hQ' oM hz
  ·show x.l.length-(i+1)<x.l.length-i
   omega
  show [(_,_,_)]=[(_,_,_)]
  rw[pN hQ oM,Nat.mod_eq_of_lt hc]
 simp only at hi hO hLm hv hz h1
 obtain rfl:i=x.l.length:=by omega
 rw[eC oM,eC (Nat.le_refl _)] at hv
 refine⟨some (λj=>[uC (O.getD j default)]),⟨⟨Nat.zero_le _,Nat.zero_lt_one⟩,?_,λj hj=>jD j (by rw[hO];exact hj),gF O⟩,λA cc _ _=>⟨[],fX ⟨A,cc,O⟩ hLm (by show O.length<=_;omega),?_,rfl,rfl,λg hg=>⟨g,?_,aN rfl rfl trivial⟩⟩⟩
 ·show m*1=_
  simp[hO]
 ·show [DV.c (.r A m cc 1 _)]=[DV.c (.r A O.length cc 1 _)]
  rw[hO]
 show g.l=_
 rw[<-hv];exact hg
theorem aOp {x s:Nat} (hs:s<32):((x/2^s:Nat):Int)=(x:Int).fdiv (2^(min (s:Int).toNat IntKind.u32.bits)):=by
 rw[Int.toNat_natCast,show min s IntKind.u32.bits=s from Nat.min_eq_left (Nat.le_of_lt hs),Int.fdiv_eq_ediv_of_nonneg _ (Int.le_of_lt (Int.pow_pos dC))]
 simp
theorem bNz (x:Nat):((x/2:Nat):Int)=(x:Int).fdiv (2^(min (1:Int).toNat IntKind.u32.bits)):=by
 have:=aOp (x:=x) (s:=1) dC
 simpa using this
theorem p1:(0:Int)<=1:=by decide
theorem bOa {s:Nat} (hs:s<32):((2^s:Nat):Int)=IntKind.u32.wrap ((1:Int)*2^(min (s:Int).toNat IntKind.u32.bits)):=by
 rw[Int.toNat_natCast,show min s IntKind.u32.bits=s from Nat.min_eq_left (Nat.le_of_lt hs),Int.one_mul]
 have h:2^s<2^32:=Nat.pow_lt_pow_right dC hs
 rw[show((2:Int)^s)=((2^s:Nat):Int) by simp]
 generalize 2^s=p at*
 rw[aCn oM]
theorem orN {a b:Nat} (ha:a<4294967296) (hb:b<4294967296):((a|||b:Nat):Int)=IntKind.u32.wrap ((BitVec.ofInt IntKind.u32.bits (a:Int)|||BitVec.ofInt IntKind.u32.bits (b:Int)).toNat:Int):=by
 show _=IntKind.u32.wrap ((BitVec.ofInt 32 (a:Int)|||BitVec.ofInt 32 (b:Int)).toNat:Int)
 rw[BitVec.ofInt_natCast,BitVec.ofInt_natCast,BitVec.toNat_or,BitVec.toNat_ofNat,BitVec.toNat_ofNat,Nat.mod_eq_of_lt oM,Nat.mod_eq_of_lt oM]
 have:=Nat.or_lt_two_pow (n:=32) ha hb
 rw[aCn oM]
theorem bOb {a:Nat} (ha:a<4294967296):((a%2:Nat):Int)=IntKind.u32.wrap ((BitVec.ofInt IntKind.u32.bits (a:Int)&&&BitVec.ofInt IntKind.u32.bits (1:Int)).toNat:Int):=by
 symm
 show IntKind.u32.wrap ((BitVec.ofInt 32 (a:Int)&&&BitVec.ofInt 32 ((1:Nat):Int)).toNat:Int)=_
 rw[BitVec.ofInt_natCast,BitVec.ofInt_natCast,BitVec.toNat_and,BitVec.toNat_ofNat,BitVec.toNat_ofNat,Nat.mod_eq_of_lt oM,Nat.mod_eq_of_lt oM,Nat.and_one_is_mod,aCn oM]
theorem quo32 {i:Nat} (h:i<=4611686018427387904):((i/32:Nat):Int)=IntKind.i64.wrap ((i:Int).tdiv 32):=by
 rw[Int.tdiv_eq_ediv_of_nonneg oM,dJ oM];omega
theorem rem32 (i:Nat):(i:Int).tmod 32=((i%32:Nat):Int):=by
 rw[Int.tmod_eq_emod_of_nonneg oM];omega
theorem quoN {a b:Nat} (h:a<18446744073709551616):((a/b:Nat):Int)=IntKind.u64.wrap ((a:Int).tdiv (b:Int)):=by
 rw[Int.tdiv_eq_ediv_of_nonneg oM,<-Int.natCast_ediv]
 have:=Nat.div_le_self a b
 generalize a/b=q at*
 exact(cX oM).symm
theorem n32:(32:Int)≠0:=by decide
abbrev aOq:FuncId:=155
theorem bHm:Ent Tryz.prog aOq:=Ent.of func155 rfl kR
theorem bHn:Tryz.prog.funcs[aOq]? =some Tryz.f155:=func155
theorem bBo (x:Sl Nat) (hx:Lm x.l) (hn:x.l.length<=1099511627776):Ctr Tryz.prog aOq [] [.c (fM x)] [] (λt:Nat=>⟨.c (iC t),[],val x.l<2^t∧t<=32*x.l.length⟩):=by
 refine aX gT bHm bHn rfl rfl rfl bL ClB.nil (aA gT mxd ⟨[],fX x hx oM,rfl,rfl,rfl,λX hX=>?_⟩)
 replace hX:X.l=aB (val x.l):=hX
 obtain⟨lX,vX⟩:=dg hX
 have hXn:X.l.length<=x.l.length:=by rw[hX];exact eG hx
 refine⟨λh=>aA gT mxd ⟨0,⟨?_,Nat.zero_le _⟩,aN rfl rfl trivial⟩,λh=>aA gT mxd ?_⟩
 ·have h0:val x.l=0:=eB.1 (by unfold len;rw[<-hX];omega)
  rw[h0];decide
 have h0:0<X.l.length:=by omega
 have htop:=lX.at (k:=X.l.length-1) oM
 refine⟨(X.l.length:Int)-1,wi,(32*(X.l.length-1):Nat),wi,(X.l.length:Int)-1,wi,X.l.length-1,⟨oM,oM⟩,?_⟩
 refine nG (rn [(3,4),(20,25)]) (λs:Nat=>[(3,.c (iC (32*(X.l.length-1)+s:Nat))),(4,.c (uC (X.l.getD (X.l.length-1) default/2^s)))]) (λ_=>[]) (·<=32) (32-·) 0 ?_
 refine⟨⟨Nat.zero_le _,rfl,rfl,?_⟩,λs hs=>aA gT mxd ⟨λh1=>aA gT mxd ?_,λh1=>aA gT mxd (aA gT mxd ?_)⟩⟩
 ·show(_:Int)=(_:Int)
  rw[Nat.pow_zero,Nat.div_one]
 ·have hs32:s<32:=by
   rcases Nat.lt_or_ge s 32 with h|h
   ·exact h
   exfalso
   rw[show s=32 by omega,Nat.div_eq_of_lt (show X.l.getD (X.l.length-1) default<2^32 from htop)] at h1
   exact absurd h1 dC
  refine⟨(32*(X.l.length-1)+(s+1):Nat),wi,p1,_,bNz _,s+1,⟨hs32,by omega⟩,rfl,rfl,rfl,?_⟩
  show(_:Int)=(_:Int)
  rw[Nat.pow_succ,<-Nat.div_div_eq_div_mul]
 have hz:X.l.getD (X.l.length-1) default/2^s=0:=by
  rcases Nat.eq_zero_or_pos (X.l.getD (X.l.length-1) default/2^s) with h|h
  ·exact h
  exact absurd (Int.natCast_pos.2 h) h1
 have hb:=aKq lX h0 hz
 rw[vX] at hb
 exact⟨_,⟨hb,by omega⟩,aN rfl rfl trivial⟩
abbrev bBp:FuncId:=156
theorem bOc:Ent Tryz.prog bBp:=Ent.of func156 rfl kR
theorem bOd:Tryz.prog.funcs[bBp]? =some Tryz.f156:=func156
theorem bHo (x:Sl Nat) (hx:Lm x.l) {i:Nat} {z:Int} (hz:z=i) (hi:i<=70368744177664):Ctr Tryz.prog bBp [] [.c (fM x),.c (iC z)] [] (λ_:Unit=>⟨.c (uC (val x.l/2^i%2)),[],True⟩):=by
 subst hz
 refine aX gT bOc bOd rfl rfl rfl bL ClB.nil (aA gT mxd ⟨n32,_,quo32 oM,⟨λh=>aA gT mxd ?_,λh=>aA gT mxd ?_⟩⟩)
 ·refine⟨(),trivial,aN ?_ rfl trivial⟩
  show(0:Int)=(_:Int)
  rw[<-xO hx,kQ oM,Nat.zero_div];rfl
 have hxi:=hx.at (k:=i/32) oM
 refine⟨n32,_,quo32 oM,i/32,⟨rfl,oM⟩,n32,((i%32:Nat):Int),wu (h:=⟨(rem32 i).symm,by rw[rem32];omega,by rw[rem32];omega⟩),show(0:Int)<=((i%32:Nat):Int) by omega,_,aOp oM,_,bOb (Nat.lt_of_le_of_lt (Nat.div_le_self _ _) hxi),(),trivial,aN ?_ rfl trivial⟩
 show(_:Int)=(_:Int)
 rw[<-xO hx,gV oM]
abbrev yU:FuncId:=132
theorem aVx:Ent Tryz.prog yU:=Ent.of func132 rfl kR
theorem aVy:Tryz.prog.funcs[yU]? =some Tryz.f132:=func132
theorem aBu (x y:Sl Nat) (hx:Lm x.l) (hy:Lm y.l) (hn:x.l.length<=549755813888) (hm:y.l.length<=549755813888):Ctr Tryz.prog yU [] [.c (fM x),.c (fM y)] [] (λg:Sl Nat×Sl Nat=>⟨.t [.c (fM g.1),.c (fM g.2),pC (val y.l≠0)],[],g.1.l=aB (val x.l/val y.l)∧g.2.l=aB (kJ (val x.l) (val y.l))⟩):=by
 refine aX gT aVx aVy rfl rfl rfl bL ClB.nil (aA gT mxd ⟨[],fX y hy oM,rfl,rfl,rfl,λY hY=>?_⟩)
 replace hY:Y.l=aB (val y.l):=hY
 obtain⟨lY,vY⟩:=dg hY
 have hYn:Y.l.length<=y.l.length:=by rw[hY];exact eG hy
 refine⟨λh=>aA gT mxd ?_,λh=>aA gT mxd ?_⟩
 ·have hy0:val y.l=0:=eB.1 (by unfold len;rw[<-hY];omega)
  refine⟨(cD,cD),⟨?_,?_⟩,aN ⟨⟨rfl,rfl,rfl⟩,⟨rfl,rfl,rfl⟩,ff (λh=>h hy0)⟩ rfl trivial⟩
  ·show []=aB _
   rw[hy0,Nat.div_zero];rfl
  show []=aB _
  rw[hy0];rfl
 have hy0:val y.l≠0:=λh0=>by have:=eB.2 h0;unfold len at this;rw[<-hY] at this;omega
 have hmz:kJ (val x.l) (val y.l)=val x.l%val y.l:=if_neg hy0
 refine⟨[],aOm x hx oM,rfl,rfl,rfl,λ_ _=>⟨[],aOm Y lY oM,rfl,rfl,rfl,λ_ _=>⟨λh64=>aA gT mxd ?_,λh64=>aA gT mxd ?_⟩⟩⟩
 ·have hd:=Nat.div_le_self (val x.l) (val y.l)
  have hd2:=Nat.mod_le (val x.l) (val y.l)
  have e1:(if val x.l<18446744073709551616 then val x.l else 0)=val x.l:=if_pos h64.1
  have e2:(if val Y.l<18446744073709551616 then val Y.l else 0)=val y.l:=by rw[if_pos h64.2,vY]
  rw[e1,e2]
  have hnz:((val y.l:Nat):Int)≠0:=by omega
  refine⟨.seq [(0,false),(1,false),(2,false),(4,false),(5,false),(6,false),(3,false),(7,false),(8,false),(9,false),(10,false)],by kernel_rfl,hnz,_,quoN h64.1,hnz,[],yT oM,rfl,rfl,rfl,λg1 h1=>⟨[],yT (n:=val x.l%val y.l) oM,rfl,rfl,rfl,λg2 h2=>⟨(g1,g2),⟨h1,by rw[hmz];exact h2⟩,aN ⟨rfl,rfl,tt hy0⟩ rfl trivial⟩⟩⟩
 refine⟨x.l.length,⟨rfl,rfl,show 4*x.l.length<=_ by omega,by simp only[maxLen];omega⟩,[],bBo x hx oM,rfl,rfl,rfl,λt ⟨ht,htl⟩=>⟨(t:Int)-1,wi,?_⟩⟩
 refine bBg (rn [(5,5),(11,13),(47,79)]) 1 (λg:Nat×Nat×Nat×List Nat×Sl Nat=>[(11,.c (iC ((g.1:Int)-1))),(5,.c (fM g.2.2.2.2))]) (λg=>[(131,1,g.2.2.2.1.map uC)]) (λg=>g.1<=t∧val x.l/2^g.1=g.2.1*val y.l+g.2.2.1∧g.2.2.1<val y.l∧g.2.2.2.1.length=x.l.length∧Lm g.2.2.2.1∧val g.2.2.2.1=g.2.1*2^g.1∧g.2.2.2.2.l=aB g.2.2.1) (λg=>g.1) (t,0,0,List.replicate x.l.length 0,cD) (λ_=>rfl) bL (λ_=>scB.cons (List.all_eq_true.2 λc hc=>iS (gF _ c hc)) scB.nil) (λ_=>rfl) ?_
 refine⟨⟨rfl,⟨Nat.le_refl _,?_,?_,by simp,Lm.zeros _,?_,rfl⟩,?_,rfl,rfl,rfl,rfl⟩,λ⟨j,Qn,r,O,R⟩ ⟨hj,hdiv,hr,hOl,hOm,hOv,hR⟩=>aA gT mxd ⟨λh1=>aA gT mxd ?_,λh1=>aA gT mxd (aA gT mxd ?_)⟩⟩
 ·show val x.l/2^t=_
  rw[Nat.div_eq_of_lt ht];simp
 ·show 0<val y.l
  omega
 ·show val (List.replicate _ 0)=0*_
  rw[rE,Nat.zero_mul]
 ·show(_,_,_)=(_,_,_)
  exact congrArg (λl=>(131,1,l)) (tF _)
 ·simp only at hj hdiv hr hOl hOm hOv hR h1
  obtain⟨i,rfl⟩:∃i,j=i+1:=⟨j-1,by omega⟩
  obtain⟨lR,vR⟩:=dg hR
  have hz:((i+1:Nat):Int)-1=i:=by omega
  have hlr:R.l.length<=Y.l.length:=by rw[hR,hY];exact cH oM
  have hb1:val x.l/2^i%2<2:=Nat.mod_lt _ dC
  have hlr2:=nS r r
  simp only[<-cJ] at hlr2
  rw[<-hR] at hlr2
  have hnx:=aKs (i:=i) hdiv
  refine⟨[],aOn R R lR lR oM oM,rfl,rfl,rfl,λR2 hR2=>⟨[],bHo x hx hz oM,rfl,rfl,rfl,λ_ _=>?_⟩⟩
  replace hR2:R2.l=aB (val R.l+val R.l):=hR2
  rw[vR] at hR2
  obtain⟨lR2,vR2⟩:=dg hR2
  rw[<-hR2] at hlr2
  refine bNk (rn [(5,5),(11,13),(47,79)]) 1 (λR3:Sl Nat=>[(11,.c (iC (((i+1:Nat):Int)-1))),(5,.c (fM R3))]) (λ_=>[(131,1,O.map uC)]) (λR3=>R3.l=aB (r+r+val x.l/2^i%2)) (λ_=>rfl) bL (λ_=>scB.cons (List.all_eq_true.2 λc hc=>iS (gF _ c hc)) scB.nil) (λ_=>rfl) ?_
  refine⟨rfl,⟨λh2=>aA gT mxd ⟨some (λj=>[uC ([1].getD j default)]),⟨⟨Nat.zero_le _,Nat.zero_lt_one⟩,rfl,λj hj=>jD (x:=[1]) j hj,gF [1]⟩,λA c _ _=>⟨yR O,[],aOn R2 ⟨A,c,[1]⟩ lR2 (λz hz=>by rw[List.mem_singleton.1 hz];decide) oM (by show 1<=_;omega),rfl,rfl,rfl,λR3 hR3=>⟨R3,?_,rfl,rfl,rfl,rfl⟩⟩⟩,λh2=>aA gT mxd ⟨R2,?_,rfl,rfl,rfl,rfl⟩⟩,λR3 hR3=>?_⟩
  ·replace hR3:R3.l=aB (val R2.l+val [1]):=hR3
   rw[hR3,vR2]
   congr 1
   show r+r+1=_
   omega
  ·rw[hR2]
   congr 1
   omega
  obtain⟨lR3,vR3⟩:=dg hR3
  have hlr3:R3.l.length<=Y.l.length+1:=by
   have h1:=cH (m:=r+r+val x.l/2^i%2) (n:=val y.l+val y.l) oM
   have h2:=nS (val y.l) (val y.l)
   simp only[<-cJ] at h1 h2
   rw[<-hY] at h2
   rw[hR3]
   omega
  refine⟨[],aOo R3 Y lR3 lY oM oM,rfl,rfl,rfl,λD hD=>⟨λh3=>aA gT mxd ?_,λh3=>aA gT mxd ?_⟩⟩
  ·replace hD:D.l=aB (val R3.l-val Y.l):=hD
   have hsb:=aZj (i:=i) hOm oM (by rw[hOv];exact Nat.mul_mod_left _ _)
   have hi32:i/32<O.length:=by omega
   refine⟨n32,((i/32:Nat):Int),(show((i/32:Nat):Int)=IntKind.i64.wrap ((((i+1:Nat):Int)-1).tdiv 32) by rw[hz];exact quo32 oM),i/32,⟨rfl,by omega,show i/32*1<(O.map uC).length by rw[List.length_map];omega⟩,_,aHd hi32,n32,((i%32:Nat):Int),wu (h:=⟨by rw[hz,rem32],by rw[hz,rem32];omega,by rw[hz,rem32];omega⟩),show(0:Int)<=((i%32:Nat):Int) by omega,_,bOa oM,_,orN (hOm.at hi32) (show 2^(i%32)<2^32 from Nat.pow_lt_pow_right dC oM),i/32,⟨rfl,by omega,show i/32*1<(O.map uC).length by rw[List.length_map];omega⟩,_,⟨qK hi32,show i/32*1+1<=(O.map uC).length by rw[List.length_map];omega⟩,(i:Int)-1,wi,(i,2*Qn+1,r+r+val x.l/2^i%2-val y.l,O.set (i/32) (O.getD (i/32) default+2^(i%32)),D),⟨⟨show i<=t by omega,?_,show r+r+val x.l/2^i%2-val y.l<val y.l by omega,?_,hOm.set hsb.2.1,?_,?_⟩,Nat.lt_succ_self i⟩,rfl,?_,rfl,rfl⟩
   ·show val x.l/2^i=(2*Qn+1)*val y.l+(r+r+val x.l/2^i%2-val y.l)
    rw[hnx,Nat.add_mul,Nat.one_mul];omega
   ·simp[hOl]
   ·show val (O.set _ _)=(2*Qn+1)*2^i
    rw[hsb.2.2,hOv,aAk,Nat.add_mul,Nat.one_mul]
   ·show D.l=aB _
    rw[hD,vR3,vY]
   show(_,_,_)=(_,_,_)
   rw[hsb.1]
  refine⟨(i:Int)-1,wi,(i,2*Qn,r+r+val x.l/2^i%2,O,R3),⟨⟨show i<=t by omega,hnx,show r+r+val x.l/2^i%2<val y.l by omega,hOl,hOm,?_,hR3⟩,Nat.lt_succ_self i⟩,rfl,rfl,rfl,rfl⟩
  show val O=2*Qn*2^i
  rw[hOv,aAk]
 simp only at hj hdiv hr hOl hOm hOv hR h1
 obtain rfl:j=0:=by omega
 rw[Nat.pow_zero,Nat.div_one] at hdiv
 rw[Nat.pow_zero,Nat.mul_one] at hOv
 obtain⟨f1,f2⟩:=xP hdiv hr
 obtain⟨lR,vR⟩:=dg hR
 have hlr:R.l.length<=Y.l.length:=by rw[hR,hY];exact cH oM
 refine⟨some (λj=>[uC (O.getD j default)]),⟨⟨Nat.zero_le _,Nat.zero_lt_one⟩,?_,λj hj=>jD j (by rw[hOl];exact hj),gF O⟩,λA cc _ _=>⟨[],fX ⟨A,cc,O⟩ hOm (by show O.length<=_;omega),?_,rfl,rfl,λg hg=>⟨[],fX R lR oM,rfl,rfl,rfl,λg2 hg2=>⟨(g,g2),⟨?_,?_⟩,aN ⟨rfl,rfl,tt hy0⟩ rfl trivial⟩⟩⟩⟩
 ·show x.l.length*1=_
  simp[hOl]
 ·show [DV.c (.r A x.l.length cc 1 _)]=[DV.c (.r A O.length cc 1 _)]
  rw[hOl]
 ·show g.l=_
  rw[<-f1,<-hOv];exact hg
 show g2.l=_
 rw[hmz,<-f2,<-vR];exact hg2
abbrev bBq:FuncId:=131
theorem bOe:Ent Tryz.prog bBq:=Ent.of func131 rfl kR
theorem bOf:Tryz.prog.funcs[bBq]? =some Tryz.f131:=func131
theorem bHp (x y:Sl Nat) (hx:Lm x.l) (hy:Lm y.l) (hn:x.l.length<=549755813888) (hm:y.l.length<=549755813888):Ctr Tryz.prog bBq [] [.c (fM x),.c (fM y)] [] (aJx (Nat.gcd (val x.l) (val y.l))):=by
 refine aX gT bOe bOf rfl rfl rfl bL ClB.nil (aA gT mxd ⟨[],fX x hx oM,rfl,rfl,rfl,λX hX=>⟨[],fX y hy oM,rfl,rfl,rfl,λY hY=>?_⟩⟩)
 have hXn:(aB (val x.l)).length<=x.l.length:=eG hx
 have hYn:(aB (val y.l)).length<=y.l.length:=eG hy
 refine nG (rn [(0,1),(5,7),(12,23)]) (λg:Nat×Nat×Sl Nat×Sl Nat=>[(0,.c (fM g.2.2.1)),(1,.c (fM g.2.2.2))]) (λ_=>[]) (λg=>g.2.2.1.l=aB g.1∧g.2.2.2.l=aB g.2.1∧Nat.gcd g.1 g.2.1=Nat.gcd (val x.l) (val y.l)∧(aB g.1).length<=549755813888∧(aB g.2.1).length<=549755813888) (λg=>g.2.1) (val x.l,val y.l,X,Y) ?_
 refine⟨⟨⟨hX,hY,rfl,Nat.le_trans hXn hn,Nat.le_trans hYn hm⟩,rfl,rfl,rfl⟩,λ⟨a,b,A,B⟩ ⟨hA,hB,hg,hla,hlb⟩=>aA gT mxd ⟨λh1=>aA gT mxd ?_,λh1=>aA gT mxd (aA gT mxd ?_)⟩⟩
 ·simp only at hA hB hg hla hlb h1
  obtain⟨lA,vA⟩:=dg hA
  obtain⟨lB,vB⟩:=dg hB
  have hb0:b≠0:=λh0=>by rw[h0] at hB;rw[hB] at h1;exact absurd h1 dC
  refine⟨[],aBu A B lA lB (by rw[hA];omega) (by rw[hB];omega),rfl,rfl,rfl,λ⟨Q,R⟩ ⟨_,hR⟩=>⟨(b,a%b,B,R),⟨⟨hB,?_,?_,hlb,?_⟩,Nat.mod_lt _ oM⟩,rfl,rfl,rfl,rfl⟩⟩
  ·show R.l=_
   replace hR:R.l=aB (kJ (val A.l) (val B.l)):=hR
   rw[hR,vA,vB,kJ,if_neg hb0]
  ·show Nat.gcd b (a%b)=_
   rw[<-hg,Nat.gcd_comm a b,Nat.gcd_rec b a,Nat.gcd_comm]
  have:=cH (Nat.le_of_lt (Nat.mod_lt a (show 0<b by omega)))
  simp only[<-cJ] at this
  exact Nat.le_trans this hlb
 simp only at hA hB hg hla hlb h1
 have hb0:b=0:=eB.1 (by unfold len;rw[<-hB];omega)
 refine⟨A,?_,aN rfl rfl trivial⟩
 show A.l=_
 rw[hA,<-hg,hb0,Nat.gcd_zero_right]
structure IntM where
 p:Prop
 d:Decidable p
 m:Sl Nat
def IntM.C (i:IntM):List CV:=[.b i.p i.d,fM i.m]
open Classical in
noncomputable def sg (p:Prop) (n:Nat):Int:=if p then-(n:Int) else n
structure In (i:IntM) (v:Int) (B:Nat):Prop where
 lm:Lm i.m.l
 ln:i.m.l.length<=B
 v:sg i.p (val i.m.l)=v
def Ci (i:IntM) (v:Int):Prop:=(i.p↔v<0)∧i.m.l=aB v.natAbs
abbrev sV (v:Int):IntM->Out:=λg=>⟨.a g.C,[],Ci g v⟩
theorem sg_t {p:Prop} {n:Nat} (h:p):sg p n=-(n:Int):=if_pos h
theorem sg_f {p:Prop} {n:Nat} (h:¬p):sg p n=n:=if_neg h
theorem sg_abs {p:Prop} {n:Nat}:(sg p n).natAbs=n:=by
 by_cases h:p
 ·rw[sg_t h];omega
 rw[sg_f h];omega
theorem yV {p:Prop} {n:Nat}:sg p n<0↔p∧0<n:=by
 by_cases h:p
 ·rw[sg_t h];exact⟨λ_=>⟨h,by omega⟩,λh=>by omega⟩
 rw[sg_f h];exact⟨λh=>by omega,λh2=>absurd h2.1 h⟩
theorem Ci.in {i:IntM} {v:Int} {B:Nat} (h:Ci i v) (hb:len v.natAbs<=B):In i v B:=by
 obtain⟨lX,vX⟩:=dg h.2
 refine⟨lX,by rw[h.2];exact hb,?_⟩
 rw[vX]
 by_cases hp:i.p
 ·rw[sg_t hp];have:=h.1.1 hp;omega
 rw[sg_f hp];have:¬v<0:=λhv=>hp (h.1.2 hv);omega
theorem In.abs {i:IntM} {v:Int} {B:Nat} (h:In i v B):val i.m.l=v.natAbs:=by rw[<-h.v,sg_abs]
theorem In.len {i:IntM} {v:Int} {B:Nat} (h:In i v B):len v.natAbs<=B:=by rw[<-h.abs];exact Nat.le_trans (eG h.lm) h.ln
theorem In.le {i:IntM} {v:Int} {B B':Nat} (h:In i v B) (hb:B<=B':=by omega):In i v B':=⟨h.lm,Nat.le_trans h.ln hb,h.v⟩
theorem aHe {n:Nat}:0<len n↔0<n:=by have:=eB (n:=n);omega
abbrev aDx:FuncId:=102
theorem bBr:Ent Tryz.prog aDx:=Ent.of func102 rfl kR
theorem bBs:Tryz.prog.funcs[aDx]? =some Tryz.f102:=func102
theorem gG (p:Prop) {hp:Decidable p} (m:Sl Nat) (hm:Lm m.l) (hn:m.l.length<=17592186044416):Ctr Tryz.prog aDx [] [.c (.b p hp),.c (fM m)] [] (sV (sg p (val m.l))):=by
 refine aX gT bBr bBs rfl rfl rfl bL ClB.nil (aA gT mxd ⟨[],fX m hm hn,rfl,rfl,rfl,λX hX=>?_⟩)
 replace hX:X.l=aB (val m.l):=hX
 refine⟨⟨p∧(0:Int)<(X.l.length:Nat),inferInstance,X⟩,⟨?_,?_⟩,aN rfl rfl trivial⟩
 ·show(p∧(0:Int)<(X.l.length:Nat))↔_
  rw[yV,hX,cJ]
  have:=aHe (n:=val m.l)
  constructor
  ·rintro⟨h1,h2⟩;exact⟨h1,this.1 oM⟩
  rintro⟨h1,h2⟩;exact⟨h1,by have:=this.2 h2;omega⟩
 show X.l=_
 rw[sg_abs];exact hX
abbrev aDy:FuncId:=98
theorem bBt:Ent Tryz.prog aDy:=Ent.of func98 rfl kR
theorem bBu:Tryz.prog.funcs[aDy]? =some Tryz.f98:=func98
theorem yW (i:IntM) {v:Int} (h:In i v 17592186044416):Ctr Tryz.prog aDy [] [.a i.C] [] (sV v):=by
 refine aX gT bBt bBu rfl rfl rfl bL ClB.nil (aA gT mxd ⟨[],gG i.p i.m h.lm h.ln,rfl,rfl,rfl,λg hg=>⟨g,?_,aN rfl rfl trivial⟩⟩)
 rw[<-h.v];exact hg
abbrev aOr:FuncId:=101
theorem bHq:Ent Tryz.prog aOr:=Ent.of func101 rfl kR
theorem bHr:Tryz.prog.funcs[aOr]? =some Tryz.f101:=func101
theorem vJ (i:IntM) {v:Int} (h:In i v 17592186044416):Ctr Tryz.prog aOr [] [.a i.C] [] (sV (-v)):=by
 refine aX gT bHq bHr rfl rfl rfl bL ClB.nil (aA gT mxd ⟨[],gG (¬i.p) i.m h.lm h.ln,rfl,rfl,rfl,λg hg=>⟨g,?_,aN rfl rfl trivial⟩⟩)
 have e:sg (¬i.p) (val i.m.l)=-v:=by
  rw[<-h.v]
  by_cases hp:i.p
  ·rw[sg_t hp,sg_f (λh=>h hp)];omega
  rw[sg_f hp,sg_t hp]
 rw[<-e];exact hg
abbrev aOs:FuncId:=133
theorem bHs:Ent Tryz.prog aOs:=Ent.of func133 rfl kR
theorem bHt:Tryz.prog.funcs[aOs]? =some Tryz.f133:=func133
theorem bBv (i:IntM) {v:Int} (h:In i v 17592186044416):Ctr Tryz.prog aOs [] [.a i.C] [] (sV v.natAbs):=by
 refine aX gT bHs bHt rfl rfl rfl bL ClB.nil (aA gT mxd ⟨[],gG (false=true) i.m h.lm h.ln,rfl,rfl,rfl,λg hg=>⟨g,?_,aN rfl rfl trivial⟩⟩)
 rw[<-h.abs,<-sg_f (p:=false=true) dC];exact hg
theorem sg_add {p q:Prop} {m n:Nat} (h:p↔q):sg p m+sg q n=sg p (m+n):=by
 by_cases hp:p
 ·rw[sg_t hp,sg_t (h.1 hp),sg_t hp];omega
 rw[sg_f hp,sg_f (λhq=>hp (h.2 hq)),sg_f hp];omega
theorem aOt {p q:Prop} {m n:Nat} (h:¬(p↔q)) (hmn:n<=m):sg p m+sg q n=sg p (m-n):=by
 by_cases hp:p
 ·rw[sg_t hp,sg_f (λhq=>h ⟨λ_=>hq,λ_=>hp⟩),sg_t hp];omega
 have hq:q:=Classical.byContradiction λhq=>h ⟨λh=>absurd h hp,λh=>absurd h hq⟩
 rw[sg_f hp,sg_t hq,sg_f hp];omega
theorem sg_mul {p q:Prop} {m n:Nat}:sg p m*sg q n=sg (¬(p↔q)) (m*n):=by
 by_cases hp:p<;>by_cases hq:q
 ·rw[sg_t hp,sg_t hq,sg_f (λh=>h ⟨λ_=>hq,λ_=>hp⟩),Int.neg_mul_neg,Int.natCast_mul]
 ·rw[sg_t hp,sg_f hq,sg_t (λh=>hq (h.1 hp)),Int.neg_mul,Int.natCast_mul]
 ·rw[sg_f hp,sg_t hq,sg_t (λh=>hp (h.2 hq)),Int.mul_neg,Int.natCast_mul]
 rw[sg_f hp,sg_f hq,sg_f (λh=>h ⟨λh=>absurd h hp,λh=>absurd h hq⟩),Int.natCast_mul]
theorem dgl {X:Sl Nat} {n B:Nat} (h:X.l=aB n) (hb:len n<=B):X.l.length<=B:=by rw[h];exact hb
theorem aHf (m n:Nat):len (m-n)<=len m:=cH (Nat.sub_le m n)
abbrev aDz:FuncId:=59
theorem bBw:Ent Tryz.prog aDz:=Ent.of func59 rfl kR
theorem bBx:Tryz.prog.funcs[aDz]? =some Tryz.f59:=func59
theorem oB {z:Int} (hz:-9223372036854775808<=z∧z<=9223372036854775807):Ctr Tryz.prog aDz [] [.c (iC z)] [] (sV z):=by
 refine aX gT bBw bBx rfl rfl rfl bL ClB.nil (aA gT mxd ⟨λh=>aA gT mxd ?_,λh=>aA gT mxd ?_⟩)
 ·have hl:=iI (n:=z.natAbs)
  refine⟨z+1,wi,0-(z+1),wi,((-(z+1)).toNat:Nat),wu,(z.natAbs:Nat),wu,[],yT (n:=z.natAbs) oM,rfl,rfl,rfl,λg hg=>?_⟩
  replace hg:g.l=aB z.natAbs:=hg
  obtain⟨lg,vg⟩:=dg hg
  refine⟨[],gG (true=true) g lg (dgl hg oM),rfl,rfl,rfl,λi hi=>⟨i,?_,aN rfl rfl trivial⟩⟩
  have e:sg (true=true) (val g.l)=z:=by rw[sg_t rfl,vg];omega
  rw[<-e];exact hi
 have hl:=iI (n:=z.natAbs)
 refine⟨(z.natAbs:Nat),wu,[],yT (n:=z.natAbs) oM,rfl,rfl,rfl,λg hg=>?_⟩
 replace hg:g.l=aB z.natAbs:=hg
 obtain⟨lg,vg⟩:=dg hg
 refine⟨[],gG (false=true) g lg (dgl hg oM),rfl,rfl,rfl,λi hi=>⟨i,?_,aN rfl rfl trivial⟩⟩
 have e:sg (false=true) (val g.l)=z:=by rw[sg_f dC,vg];omega
 rw[<-e];exact hi
def sgn (z:Int):Int:=if z<0 then-1 else if z=0 then 0 else 1
abbrev aEa:FuncId:=97
theorem bBz:Ent Tryz.prog aEa:=Ent.of func97 rfl kR
theorem bCa:Tryz.prog.funcs[aEa]? =some Tryz.f97:=func97
theorem aHg (i:IntM) {v:Int} (h:In i v 17592186044416):Ctr Tryz.prog aEa [] [.a i.C] [] (λ_:Unit=>⟨.c (iC (sgn v)),[],True⟩):=by
 refine aX gT bBz bCa rfl rfl rfl bL ClB.nil (aA gT mxd ⟨[],yW i h,rfl,rfl,rfl,λg hg=>⟨λh1=>aA gT mxd ?_,λh1=>aA gT mxd ⟨λh2=>aA gT mxd ?_,λh2=>aA gT mxd ?_⟩⟩⟩)
 all_goals replace hg:Ci g v:=hg
 ·exact⟨(),trivial,aN (show(-1:Int)=_ by unfold sgn;rw[if_pos (hg.1.1 h1)]) rfl trivial⟩
 all_goals
  have h3:¬v<0:=λh=>h1 (hg.1.2 h)
  have h4:=eB (n:=v.natAbs)
  rw[hg.2,cJ] at h2
 ·exact⟨(),trivial,aN (show(0:Int)=_ by unfold sgn;rw[if_neg h3,if_pos oM]) rfl trivial⟩
 exact⟨(),trivial,aN (show(1:Int)=_ by unfold sgn;rw[if_neg h3,if_neg oM]) rfl trivial⟩
abbrev aOu:FuncId:=71
theorem bHu:Ent Tryz.prog aOu:=Ent.of func71 rfl kR
theorem bHv:Tryz.prog.funcs[aOu]? =some Tryz.f71:=func71
theorem yX (i j:IntM) {a b:Int} (hi:In i a 1099511627776) (hj:In j b 1099511627776):Ctr Tryz.prog aOu [] [.a i.C,.a j.C] [] (sV (a+b)):=by
 have hli:=hi.ln
 have hlj:=hj.ln
 have hla:len (val i.m.l)<=1099511627776:=by rw[hi.abs];exact hi.len
 have hlb:len (val j.m.l)<=1099511627776:=by rw[hj.abs];exact hj.len
 refine aX gT bHu bHv rfl rfl rfl bL ClB.nil (aA gT mxd ⟨λh=>aA gT mxd ?_,λh=>aA gT mxd ?_⟩)
 ·refine⟨.seq [(0,false),(1,false),(2,false),(3,false),(4,false),(5,false),(6,false),(7,false),(8,true)],by kernel_rfl,[],aOn i.m j.m hi.lm hj.lm hli hlj,rfl,rfl,rfl,λg hg=>?_⟩
  replace hg:g.l=aB (val i.m.l+val j.m.l):=hg
  obtain⟨lg,vg⟩:=dg hg
  have:=nS (val i.m.l) (val j.m.l)
  refine⟨[],gG i.p g lg (dgl hg oM),rfl,rfl,rfl,λr hr=>⟨r,?_,aN rfl rfl trivial⟩⟩
  rw[<-hi.v,<-hj.v,sg_add h,<-vg];exact hr
 refine⟨[],aOo i.m j.m hi.lm hj.lm hli hlj,rfl,rfl,rfl,λg hg=>⟨λh1=>aA gT mxd ?_,λh1=>aA gT mxd ?_⟩⟩
 ·replace hg:g.l=aB (val i.m.l-val j.m.l):=hg
  obtain⟨lg,vg⟩:=dg hg
  have:=aHf (val i.m.l) (val j.m.l)
  refine⟨[],gG i.p g lg (dgl hg oM),rfl,rfl,rfl,λr hr=>⟨r,?_,aN rfl rfl trivial⟩⟩
  rw[<-hi.v,<-hj.v,aOt h h1,<-vg];exact hr
 refine⟨[],aOo j.m i.m hj.lm hi.lm hlj hli,rfl,rfl,rfl,λg hg=>?_⟩
 replace hg:g.l=aB (val j.m.l-val i.m.l):=hg
 obtain⟨lg,vg⟩:=dg hg
 have:=aHf (val j.m.l) (val i.m.l)
 refine⟨[],gG j.p g lg (dgl hg oM),rfl,rfl,rfl,λr hr=>⟨r,?_,aN rfl rfl trivial⟩⟩
 rw[<-hi.v,<-hj.v,Int.add_comm,aOt (λh'=>h h'.symm) oM,<-vg];exact hr
abbrev aOv:FuncId:=134
theorem bHw:Ent Tryz.prog aOv:=Ent.of func134 rfl kR
theorem bHx:Tryz.prog.funcs[aOv]? =some Tryz.f134:=func134
theorem bCb (i j:IntM) {a b:Int} (hi:In i a 1099511627776) (hj:In j b 1099511627776):Ctr Tryz.prog aOv [] [.a i.C,.a j.C] [] (sV (a-b)):=by
 refine aX gT bHw bHx rfl rfl rfl bL ClB.nil (aA gT mxd ⟨.seq [(0,false),(1,false),(2,false),(3,false),(4,true)],by kernel_rfl,[],vJ j hj.le,rfl,rfl,rfl,λg hg=>?_⟩)
 replace hg:Ci g (-b):=hg
 have hlb:=hj.len
 refine⟨[],yX i g hi (hg.in (by rw[Int.natAbs_neg];exact hlb)),rfl,rfl,rfl,λr hr=>⟨r,?_,aN rfl rfl trivial⟩⟩
 rw[Int.sub_eq_add_neg];exact hr
abbrev aOw:FuncId:=72
theorem bHy:Ent Tryz.prog aOw:=Ent.of func72 rfl kR
theorem bHz:Tryz.prog.funcs[aOw]? =some Tryz.f72:=func72
theorem aEb (i j:IntM) {a b:Int} (hi:In i a 1099511627776) (hj:In j b 1099511627776):Ctr Tryz.prog aOw [] [.a i.C,.a j.C] [] (sV (a*b)):=by
 have hli:=hi.ln
 have hlj:=hj.ln
 have hla:len (val i.m.l)<=1099511627776:=by rw[hi.abs];exact hi.len
 have hlb:len (val j.m.l)<=1099511627776:=by rw[hj.abs];exact hj.len
 refine aX gT bHy bHz rfl rfl rfl bL ClB.nil (aA gT mxd ⟨.seq [(0,false),(1,false),(2,false),(3,false),(4,false),(5,false),(6,false),(7,false),(8,false),(9,false),(10,false),(11,true)],by kernel_rfl,[],bHl i.m j.m hi.lm hj.lm hli hlj,rfl,rfl,rfl,λg hg=>?_⟩)
 replace hg:g.l=aB (val i.m.l*val j.m.l):=hg
 obtain⟨lg,vg⟩:=dg hg
 have:=nT (val i.m.l) (val j.m.l)
 refine⟨[],gG (¬(i.p↔j.p)) g lg (dgl hg oM),rfl,rfl,rfl,λr hr=>⟨r,?_,aN rfl rfl trivial⟩⟩
 rw[<-hi.v,<-hj.v,sg_mul,<-vg];exact hr
abbrev aOx:FuncId:=99
theorem bIa:Ent Tryz.prog aOx:=Ent.of func99 rfl kR
theorem bIb:Tryz.prog.funcs[aOx]? =some Tryz.f99:=func99
theorem aOy (i j:IntM) {a b:Int} (hi:In i a 549755813888) (hj:In j b 549755813888):Ctr Tryz.prog aOx [] [.a i.C,.a j.C] [] (sV (Int.gcd a b)):=by
 refine aX gT bIa bIb rfl rfl rfl bL ClB.nil (aA gT mxd ⟨[],bHp i.m j.m hi.lm hj.lm hi.ln hj.ln,rfl,rfl,rfl,λg hg=>?_⟩)
 replace hg:g.l=aB (Nat.gcd (val i.m.l) (val j.m.l)):=hg
 obtain⟨lg,vg⟩:=dg hg
 have hlg:len (Nat.gcd (val i.m.l) (val j.m.l))<=549755813888:=by
  rcases Nat.eq_zero_or_pos (val i.m.l) with h0|h0
  ·rw[h0,Nat.gcd_zero_left,hj.abs];exact hj.len
  exact Nat.le_trans (cH (Nat.le_of_dvd h0 (Nat.gcd_dvd_left _ _))) (by rw[hi.abs];exact hi.len)
 refine⟨[],gG (false=true) g lg (dgl hg oM),rfl,rfl,rfl,λr hr=>⟨r,?_,aN rfl rfl trivial⟩⟩
 have e:sg (false=true) (val g.l)=(Int.gcd a b:Int):=by rw[sg_f dC,vg,hi.abs,hj.abs];rfl
 rw[<-e];exact hr
theorem bCc {m n:Nat} (hn:n≠0):(m:Int)/(n:Int)=(m/n:Nat)∧(m:Int)%(n:Int)=(m%n:Nat):=⟨by rw[Int.natCast_ediv],by rw[Int.natCast_emod]⟩
theorem aOz {m n:Nat} (hn:n≠0):(-(m:Int))/(n:Int)=(if m%n=0 then-((m/n:Nat):Int) else-((m/n:Nat):Int)-1)∧(-(m:Int))%(n:Int)=if m%n=0 then 0 else (n:Int)-(m%n:Nat):=by
 have h1:=Nat.div_add_mod m n
 have h2:=Nat.mod_lt m (Nat.pos_of_ne_zero hn)
 have h3:(n:Int)*((m/n:Nat):Int)+((m%n:Nat):Int)=m:=by rw[<-Int.natCast_mul,<-Int.natCast_add,h1]
 refine(Int.ediv_emod_unique oM).2 ?_
 split
 ·next h=>rw[h] at h3;rw[Int.mul_neg];omega
 next h=>rw[Int.mul_sub,Int.mul_neg,Int.mul_one];omega
theorem aVz {p q:Prop} {m n:Nat} (hn:n≠0) (h:¬(p∧0<m%n)):sg p m/sg q n=sg (¬(p↔q)) (m/n)∧sg p m%sg q n=sg p (m%n):=by
 obtain⟨a1,a2⟩:=bCc (m:=m) hn
 obtain⟨b1,b2⟩:=aOz (m:=m) hn
 by_cases hp:p<;>by_cases hq:q
 ·have hz:m%n=0:=by have:¬0<m%n:=λh0=>h ⟨hp,h0⟩
                    omega
  rw[if_pos hz] at b1 b2
  rw[sg_t hp,sg_t hq,sg_f (λh=>h ⟨λ_=>hq,λ_=>hp⟩),sg_t hp,Int.ediv_neg,Int.emod_neg,b1,b2,hz]
  omega
 ·have hz:m%n=0:=by have:¬0<m%n:=λh0=>h ⟨hp,h0⟩
                    omega
  rw[if_pos hz] at b1 b2
  rw[sg_t hp,sg_f hq,sg_t (λh=>hq (h.1 hp)),sg_t hp,b1,b2,hz]
  omega
 ·rw[sg_f hp,sg_t hq,sg_t (λh=>hp (h.2 hq)),sg_f hp,Int.ediv_neg,Int.emod_neg,a1,a2]
  exact⟨rfl,rfl⟩
 rw[sg_f hp,sg_f hq,sg_f (λh=>h ⟨λh=>absurd h hp,λh=>absurd h hq⟩),sg_f hp,a1,a2]
 exact⟨rfl,rfl⟩
theorem aWa {p q:Prop} {m n:Nat} (hn:n≠0) (hp:p) (h:0<m%n):sg p m/sg q n=sg (¬(p↔q)) (m/n)+sg (¬q) 1∧sg p m%sg q n=sg p (m%n)+n:=by
 obtain⟨b1,b2⟩:=aOz (m:=m) hn
 rw[if_neg oM] at b1 b2
 by_cases hq:q
 ·rw[sg_t hp,sg_t hq,sg_f (λh=>h ⟨λ_=>hq,λ_=>hp⟩),sg_t hp,sg_f (λh=>h hq),Int.ediv_neg,Int.emod_neg,b1,b2]
  omega
 rw[sg_t hp,sg_f hq,sg_t (λh=>hq (h.1 hp)),sg_t hp,sg_t hq,b1,b2]
 omega
theorem bCd {p:Prop} (h:p):(p∧p)∧p:=⟨⟨h,h⟩,h⟩
def oDM:Ord:=.tree [] (tr2 0 (tr2 1 (trS [2,3,4]) 2 (trS [1,3,4])) 1 (trS [0,2,3,4]))
abbrev bCe:FuncId:=100
theorem bOg:Ent Tryz.prog bCe:=Ent.of func100 rfl kR
theorem bOh:Tryz.prog.funcs[bCe]? =some Tryz.f100:=func100
theorem oC (i j:IntM) {a b:Int} (hi:In i a 549755813888) (hj:In j b 549755813888) (hb:b≠0):Ctr Tryz.prog bCe [] [.a i.C,.a j.C] [] (λg:IntM×IntM=>⟨.t [.a g.1.C,.a g.2.C,pC True],[],Ci g.1 (a/b)∧Ci g.2 (a%b)⟩):=by
 have hla:len (val i.m.l)<=549755813888:=by rw[hi.abs];exact hi.len
 have hlb:len (val j.m.l)<=549755813888:=by rw[hj.abs];exact hj.len
 have hb0:val j.m.l≠0:=by rw[hj.abs];omega
 refine aX gT bOg bOh rfl rfl rfl bL ClB.nil (aA gT mxd ⟨[],aBu i.m j.m hi.lm hj.lm hi.ln hj.ln,rfl,rfl,rfl,λ⟨Q,R⟩ ⟨hQ,hR⟩=>⟨λh=>absurd hb0 h,λh=>aA gT mxd ?_⟩⟩)
 replace hQ:Q.l=aB (val i.m.l/val j.m.l):=hQ
 replace hR:R.l=aB (kJ (val i.m.l) (val j.m.l)):=hR
 rw[kJ,if_neg hb0] at hR
 obtain⟨lQ,vQ⟩:=dg hQ
 obtain⟨lR,vR⟩:=dg hR
 have hlq:=cH (Nat.div_le_self (val i.m.l) (val j.m.l))
 have hlr:=cH (Nat.mod_le (val i.m.l) (val j.m.l))
 have hlr2:=cH (Nat.le_of_lt (Nat.mod_lt (val i.m.l) (Nat.pos_of_ne_zero hb0)))
 refine⟨.seq [(0,false),(1,false),(2,false),(3,false),(4,false),(5,false),(7,false),(8,false),(9,false),(6,false),(10,false),(11,true),(12,true)],by kernel_rfl,[],gG (¬(i.p↔j.p)) Q lQ (dgl hQ oM),rfl,rfl,rfl,λq hq=>⟨[],gG i.p R lR (dgl hR oM),rfl,rfl,rfl,λr hr=>⟨λh1=>aA gT mxd ?_,λh1=>aA gT mxd ?_⟩⟩⟩
 all_goals
  replace hq:Ci q (sg (¬(i.p↔j.p)) (val Q.l)):=hq
  replace hr:Ci r (sg i.p (val R.l)):=hr
  rw[vQ] at hq
  rw[vR] at hr
 ·have hn:=hr.1.1 h1
  rw[yV] at hn
  obtain⟨e1,e2⟩:=aWa (q:=j.p) hb0 hn.1 hn.2
  rw[hi.v,hj.v] at e1 e2
  have hab:(b.natAbs:Int)=(val j.m.l:Nat):=by rw[hj.abs]
  refine⟨.seq [(0,false),(1,false),(2,false),(3,false),(4,true)],by kernel_rfl,[],bBv j hj.le,rfl,rfl,rfl,λab hab2=>⟨[],yX r ab (hr.in (by rw[sg_abs];omega)) (Ci.in hab2 (by rw[Int.natAbs_natCast,<-hj.abs];omega)),rfl,rfl,rfl,λr2 hr2=>?_⟩⟩
  replace hr2:Ci r2 (sg i.p (val i.m.l%val j.m.l)+b.natAbs):=hr2
  rw[hab,<-e2] at hr2
  have hq1:In q _ 1099511627776:=hq.in (by rw[sg_abs];omega)
  have l1:len (1:Int).natAbs<=1099511627776:=by decide
  refine⟨λh2=>aA gT mxd ?_,λh2=>aA gT mxd ?_⟩
  ·refine⟨.seq [(0,false),(1,false),(2,false),(3,true)],by kernel_rfl,[],oB (z:=1) dC,rfl,rfl,rfl,λone h1=>⟨[],yX q one hq1 (Ci.in h1 l1),rfl,rfl,rfl,λq2 hq2=>⟨oDM,by kernel_rfl,bCd ⟨(q2,r2),⟨?_,hr2⟩,aN ⟨rfl,rfl,tt trivial⟩ rfl trivial⟩⟩⟩⟩
   rw[sg_f (p:=¬j.p) (n:=1) (λh=>h h2)] at e1
   show Ci q2 _
   rw[e1];exact hq2
  refine⟨.seq [(0,false),(1,false),(2,false),(3,true)],by kernel_rfl,[],oB (z:=1) dC,rfl,rfl,rfl,λone h1=>⟨[],bCb q one hq1 (Ci.in h1 l1),rfl,rfl,rfl,λq2 hq2=>⟨oDM,by kernel_rfl,bCd ⟨(q2,r2),⟨?_,hr2⟩,aN ⟨rfl,rfl,tt trivial⟩ rfl trivial⟩⟩⟩⟩
  rw[sg_t (p:=¬j.p) (n:=1) h2] at e1
  show Ci q2 _
  rw[e1];exact hq2
 have hn:¬(i.p∧0<val i.m.l%val j.m.l):=λh=>h1 (hr.1.2 (yV.2 h))
 obtain⟨e1,e2⟩:=aVz (q:=j.p) hb0 hn
 rw[hi.v,hj.v] at e1 e2
 refine⟨oDM,by kernel_rfl,bCd ⟨(q,r),⟨?_,?_⟩,aN ⟨rfl,rfl,tt trivial⟩ rfl trivial⟩⟩
 ·show Ci q _
  rw[e1];exact hq
 show Ci r _
 rw[e2];exact hr
end Go.Proofs.YtlhdigjbokkbiaaGreat
namespace Go.Proofs.YtlhdigjbokkbiaaGreat
open Go.Vg _root_.Go.Proofs.Tryz
open Go.Vm hiding sg sg_t sg_f sg_abs sg_add sg_mul bF aU bG cM
open Go.Vy hiding val
structure RatM where
 n:IntM
 d:Sl Nat
def RatM.C (r:RatM):List CV:=[.b r.n.p r.n.d,fM r.n.m,fM r.d]
structure Rq (r:RatM) (q:Rat) (B:Nat):Prop where
 n:In r.n (sg r.n.p (val r.n.m.l)) B
 ld:Lm r.d.l
 bd:r.d.l.length<=B
 v:Rat.divInt (sg r.n.p (val r.n.m.l)) (val r.d.l)=q
def Cr (r:RatM) (q:Rat):Prop:=Ci r.n q.num∧r.d.l=aB q.den
abbrev jU (q:Rat):RatM->Out:=λg=>⟨.a g.C,[],Cr g q⟩
def rb (q:Rat) (B:Nat):Prop:=len q.num.natAbs<=B∧len q.den<=B
theorem Rq.rb {r:RatM} {q:Rat} {B:Nat} (h:Rq r q B) (hB:1<=B:=by decide):rb q B:=by
 have h1:=lN (a:=sg r.n.p (val r.n.m.l)) (b:=(val r.d.l:Nat))
 have h2:=lO (a:=sg r.n.p (val r.n.m.l)) (b:=(val r.d.l:Nat))
 rw[h.v] at h1 h2
 rw[Int.natAbs_natCast] at h2
 have h3:=h.n.len
 have h4:=Nat.le_trans (eG h.ld) h.bd
 refine⟨Nat.le_trans h1 h3,Nat.le_trans h2 ?_⟩
 simp only[cJ]
 omega
theorem Cr.rq {r:RatM} {q:Rat} {B:Nat} (h:Cr r q) (hb:Go.Proofs.YtlhdigjbokkbiaaGreat.rb q B):Rq r q B:=by
 obtain⟨ld,vd⟩:=dg h.2
 have h1:=h.1.in hb.1
 refine⟨⟨h1.lm,h1.ln,rfl⟩,ld,by rw[h.2];exact hb.2,?_⟩
 rw[h1.v,vd,Rat.num_divInt_den]
theorem Rq.le {r:RatM} {q:Rat} {B B':Nat} (h:Rq r q B) (hb:B<=B':=by omega):Rq r q B':=⟨h.n.le hb,h.ld,Nat.le_trans h.bd hb,h.v⟩
theorem rb.le {q:Rat} {B B':Nat} (h:rb q B) (hb:B<=B':=by omega):rb q B':=⟨Nat.le_trans h.1 hb,Nat.le_trans h.2 hb⟩
abbrev aHh:FuncId:=46
theorem bIc:Ent Tryz.prog aHh:=Ent.of func46 rfl kR
theorem bId:Tryz.prog.funcs[aHh]? =some Tryz.f46:=func46
theorem rM:Ctr Tryz.prog aHh [] [] [] (jU 0):=by
 have h0:Ctr Tryz.prog aHh [] [] [] (λ_:Unit=>⟨.a [.b (false=true) inferInstance,.s 1 0,.s 2 1],[(51,0,[.b (false=true) inferInstance,.s 1 0,.s 2 1]),(131,1,[]),(131,1,[uC 1])],True⟩):=by
  refine aX gT bIc bId rfl rfl rfl bL ClB.nil (aA gT mxd ?_)
  exact⟨(),trivial,dU rfl ⟨rfl,rfl,rfl⟩ (Nat.zero_le _) (scB.cons rfl (scB.cons rfl (scB.cons rfl scB.nil))) rfl oK⟩
 refine(CtrF.gt h0 λ_ _ _=>?_)
 refine aYl tGt 0 1 1 (λj=>[uC (([]:List Nat).getD j default)]) rfl rfl rfl rfl (λj hj=>absurd hj (Nat.not_lt_zero _)) rfl Nat.zero_lt_one (λc hc=>by cases hc) (Nat.zero_le _) λA c _ _=>⟨yR [1],?_⟩
 refine aYl tGt 0 2 2 (λj=>[uC ([1].getD j default)]) rfl rfl rfl rfl (λj hj=>jD (x:=[1]) j hj) rfl Nat.zero_lt_one (gF [1]) (Nat.zero_le _) λA2 c2 _ _=>⟨λc hc=>(by cases hc),?_⟩
 exact bA (M:=λ_=>true) (base:=[]) (chg:=λg:RatM=>[(0,.a g.C)]) (bls:=λ_=>[]) (fls:=λ_=>[]) (λt d ht=>by cases ht) ⟨⟨false=true,inferInstance,⟨A,c,[]⟩⟩,⟨A2,c2,[1]⟩⟩ ⟨⟨⟨⟨λh=>(by cases h),λh=>absurd (show(0:Int)<0 from h) dC⟩,rfl⟩,rfl⟩,oK⟩ rfl trivial trivial rfl (Nat.le_refl _) (λi T es l hi=>by cases hi) rfl
theorem dL {z:Int}:sgn z=0↔z=0:=by unfold sgn;constructor<;>intro h<;>(repeat split at*)<;>omega
theorem aPa {n:Nat} (h:aB n=[1]):n=1:=by have:=congrArg Vm.val h;rw[aW] at this;exact this
theorem aHi {a b:Int} {B:Nat} (ha:len a.natAbs<=B) (hb:len b.natAbs<=B):len (Int.gcd a b:Int).natAbs<=B:=by
 rw[Int.natAbs_natCast]
 rcases Nat.eq_zero_or_pos a.natAbs with h0|h0
 ·rw[Int.gcd,h0,Nat.gcd_zero_left];exact hb
 exact Nat.le_trans (cH (Nat.le_of_dvd h0 (Nat.gcd_dvd_left _ _))) ha
theorem tG {a b:Int} {B:Nat} (ha:len a.natAbs<=B):len (a/b).natAbs<=B:=Nat.le_trans (cH (Int.natAbs_ediv_le_natAbs a b)) ha
abbrev aEc:FuncId:=58
theorem bCf:Ent Tryz.prog aEc:=Ent.of func58 rfl kR
theorem bCg:Tryz.prog.funcs[aEc]? =some Tryz.f58:=func58
theorem tH (i j:IntM) {a b:Int} (hi:In i a 549755813888) (hj:In j b 549755813888):Ctr Tryz.prog aEc [] [.a i.C,.a j.C] [] (jU (Rat.divInt a b)):=by
 have hla:=hi.len
 have hlb:=hj.len
 refine aX gT bCf bCg rfl rfl rfl bL ClB.nil (aA gT mxd ⟨[],aHg j hj.le,rfl,rfl,rfl,λ_ _=>⟨λh=>aA gT mxd ?_,λh=>aA gT mxd ?_⟩⟩)
 ·have hb:=dL.1 h
  refine⟨[],rM,rfl,rfl,rfl,λg hg=>⟨g,?_,aN rfl rfl trivial⟩⟩
  rw[hb,Rat.divInt_zero];exact hg
 have hb:b≠0:=λe=>h (dL.2 e)
 have hml:=aAl (zx:=a) hb
 have hg0:((Int.gcd a b:Nat):Int)≠0:=by have:=Int.gcd_pos_of_ne_zero_right a hb;omega
 refine⟨[],yW j hj.le,rfl,rfl,rfl,λg hg=>?_⟩
 replace hg:Ci g b:=hg
 refine⟨λhn=>?_,λhn=>?_⟩
 ·refine⟨some (λj=>[uC ([1].getD j default)]),⟨⟨Nat.zero_le _,Nat.zero_lt_one⟩,rfl,λj hj=>jD (x:=[1]) j hj,gF [1]⟩,λA c _ _=>⟨[],yS g.m ⟨A,c,[1]⟩,rfl,rfl,rfl,λ_ _=>⟨λh1=>aA gT mxd ?_,λh1=>aA gT mxd ?_⟩⟩⟩
  ·have hb1:b=1:=by
    have e1:g.m.l=[1]:=h1
    have e2:aB b.natAbs=[1]:=hg.2▸e1
    have e3:=aPa e2
    have e4:¬b<0:=λh=>hn (hg.1.2 h)
    omega
   refine⟨.seq [(0,false),(2,false),(3,false),(1,false),(4,false),(5,true)],by kernel_rfl,[],yW i hi.le,rfl,rfl,rfl,λx hx=>⟨⟨x,g.m⟩,?_,aN rfl rfl trivial⟩⟩
   rw[hb1]
   refine⟨?_,?_⟩
   ·show Ci x _
    rw[(lS a).1];exact hx
   show g.m.l=_
   rw[(lS a).2];exact h1
  refine⟨[],aOy i j hi hj,rfl,rfl,rfl,λx hx=>?_⟩
  have hx1:=Ci.in (B:=549755813888) hx (aHi hla hlb)
  refine⟨[],oC i x hi hx1 hg0,rfl,rfl,rfl,λ⟨q1,r1⟩ ⟨hq1,_⟩=>⟨[],oC j x hj hx1 hg0,rfl,rfl,rfl,λ⟨q2,r2⟩ ⟨hq2,_⟩=>⟨λh2=>aA gT mxd ?_,λh2=>aA gT mxd ?_⟩⟩⟩
  ·obtain⟨m1,m2⟩:=hml.1 (hq2.1.1 h2)
   refine⟨.seq [(0,false),(2,false),(1,false),(3,false),(4,true),(5,true)],by kernel_rfl,[],vJ q1 (v:=a/(Int.gcd a b:Int)) (Ci.in hq1 (Nat.le_trans (tG hla) dC)),rfl,rfl,rfl,λn1 hn1=>⟨[],vJ q2 (v:=b/(Int.gcd a b:Int)) (Ci.in hq2 (Nat.le_trans (tG hlb) dC)),rfl,rfl,rfl,λd1 hd1=>⟨⟨n1,d1.m⟩,⟨?_,?_⟩,aN rfl rfl trivial⟩⟩⟩
   ·show Ci n1 _
    rw[m1];exact hn1
   show d1.m.l=_
   rw[m2];exact hd1.2
  obtain⟨m1,m2⟩:=hml.2 λh=>h2 (hq2.1.2 h)
  refine⟨⟨q1,q2.m⟩,⟨?_,?_⟩,aN rfl rfl trivial⟩
  ·show Ci q1 _
   rw[m1];exact hq1
  show q2.m.l=_
  rw[m2];exact hq2.2
 refine⟨[],aOy i j hi hj,rfl,rfl,rfl,λx hx=>?_⟩
 have hx1:=Ci.in (B:=549755813888) hx (aHi hla hlb)
 refine⟨[],oC i x hi hx1 hg0,rfl,rfl,rfl,λ⟨q1,r1⟩ ⟨hq1,_⟩=>⟨[],oC j x hj hx1 hg0,rfl,rfl,rfl,λ⟨q2,r2⟩ ⟨hq2,_⟩=>⟨λh2=>aA gT mxd ?_,λh2=>aA gT mxd ?_⟩⟩⟩
 ·obtain⟨m1,m2⟩:=hml.1 (hq2.1.1 h2)
  refine⟨.seq [(0,false),(2,false),(1,false),(3,false),(4,true),(5,true)],by kernel_rfl,[],vJ q1 (v:=a/(Int.gcd a b:Int)) (Ci.in hq1 (Nat.le_trans (tG hla) dC)),rfl,rfl,rfl,λn1 hn1=>⟨[],vJ q2 (v:=b/(Int.gcd a b:Int)) (Ci.in hq2 (Nat.le_trans (tG hlb) dC)),rfl,rfl,rfl,λd1 hd1=>⟨⟨n1,d1.m⟩,⟨?_,?_⟩,aN rfl rfl trivial⟩⟩⟩
  ·show Ci n1 _
   rw[m1];exact hn1
  show d1.m.l=_
  rw[m2];exact hd1.2
 obtain⟨m1,m2⟩:=hml.2 λh=>h2 (hq2.1.2 h)
 refine⟨⟨q1,q2.m⟩,⟨?_,?_⟩,aN rfl rfl trivial⟩
 ·show Ci q1 _
  rw[m1];exact hq1
 show q2.m.l=_
 rw[m2];exact hq2.2
def sq (n:Nat) (l:List Nat):List (Nat×Bool):=l.map λi=>(i,i==n)
theorem In.den {X:Sl Nat} {B:Nat} (hl:Lm X.l) (hb:X.l.length<=B):In ⟨false=true,inferInstance,X⟩ (val X.l) B:=⟨hl,hb,sg_f (p:=false=true) (λh=>by cases h)⟩
theorem Ci.den {X:Sl Nat} {n:Nat} (h:X.l=aB n):Ci ⟨false=true,inferInstance,X⟩ (n:Int):=⟨⟨λh=>(by cases h),λh=>by omega⟩,by rw[Int.natAbs_natCast];exact h⟩
abbrev aEd:FuncId:=70
theorem bCh:Ent Tryz.prog aEd:=Ent.of func70 rfl kR
theorem bCi:Tryz.prog.funcs[aEd]? =some Tryz.f70:=func70
theorem eE (r:RatM) {q:Rat} (h:Rq r q 549755813888):Ctr Tryz.prog aEd [] [.a r.C] [] (jU q):=by
 refine aX gT bCh bCi rfl rfl rfl bL ClB.nil (aA gT mxd ⟨[],tH r.n ⟨false=true,inferInstance,r.d⟩ h.n (In.den h.ld h.bd),rfl,rfl,rfl,λg hg=>⟨g,?_,aN rfl rfl trivial⟩⟩)
 rw[<-h.v];exact hg
abbrev aPb:FuncId:=73
theorem bIe:Ent Tryz.prog aPb:=Ent.of func73 rfl kR
theorem bIf:Tryz.prog.funcs[aPb]? =some Tryz.f73:=func73
theorem yY (r:RatM) {q:Rat} (h:Rq r q 549755813888):Ctr Tryz.prog aPb [] [.a r.C] [] (sV (q.den:Int)):=by
 refine aX gT bIe bIf rfl rfl rfl bL ClB.nil (aA gT mxd ⟨[],eE r h,rfl,rfl,rfl,λg hg=>⟨⟨false=true,inferInstance,g.d⟩,Ci.den hg.2,aN rfl rfl trivial⟩⟩)
abbrev aEe:FuncId:=28
theorem bCj:Ent Tryz.prog aEe:=Ent.of func28 rfl kR
theorem bCk:Tryz.prog.funcs[aEe]? =some Tryz.f28:=func28
theorem gZ {z:Int} (hz:-9223372036854775808<=z∧z<=9223372036854775807):Ctr Tryz.prog aEe [] [.c (iC z)] [] (jU (z:Rat)):=by
 have hl:=iI (n:=z.natAbs)
 refine aX gT bCj bCk rfl rfl rfl bL ClB.nil (aA gT mxd ⟨[],oB hz,rfl,rfl,rfl,λg hg=>⟨[],oB (z:=1) dC,rfl,rfl,rfl,λo ho=>⟨[],tH g o (Ci.in hg oM) (Ci.in ho dC),rfl,rfl,rfl,λr hr=>⟨r,?_,aN rfl rfl trivial⟩⟩⟩⟩)
 rw[<-aUc];exact hr
abbrev aEf:FuncId:=92
theorem bCl:Ent Tryz.prog aEf:=Ent.of func92 rfl kR
theorem bCm:Tryz.prog.funcs[aEf]? =some Tryz.f92:=func92
theorem aHj (r:RatM) {q:Rat} (h:Rq r q 549755813888):Ctr Tryz.prog aEf [] [.a r.C] [] (λ_:Unit=>⟨.c (iC (sgn q.num)),[],True⟩):=by
 refine aX gT bCl bCm rfl rfl rfl bL ClB.nil (aA gT mxd ⟨[],eE r h,rfl,rfl,rfl,λg hg=>⟨[],aHg g.n (Ci.in hg.1 (h.rb.le).1),rfl,rfl,rfl,λ_ _=>⟨(),trivial,aN rfl rfl trivial⟩⟩⟩)
theorem yZ {q:Rat} {B:Nat} (h:rb q B):rb (-q) B:=by
 unfold rb at h ⊢
 rw[show(-q).num=-q.num from rfl,show(-q).den=q.den from rfl,Int.natAbs_neg];exact h
theorem zB {a b:Int} {B:Nat} (ha:len a.natAbs<=B) (hb:len b.natAbs<=B):len (a*b).natAbs<=B+B:=by
 rw[Int.natAbs_mul]
 have:=nT a.natAbs b.natAbs
 omega
theorem aWb {a b:Int} {B:Nat} (ha:len a.natAbs<=B) (hb:len b.natAbs<=B):len (a+b).natAbs<=B+1:=by
 have h1:=cH (Int.natAbs_add_le a b)
 have h2:=nS a.natAbs b.natAbs
 omega
def oA:Ord:=.joinR [0,2] (.alt 1 (.alt 3 (.alt 4 (trS [5,1006,1007]) (trS [5,4,1006,1007])) (.alt 4 (.alt 3 (trS [5,1006,1007]) (trS [5,3,1006,1007])) (.alt 5 (.alt 3 (trS [4,1006,1007]) (trS [4,3,1006,1007])) .nil))) (.alt 4 (.alt 1 (.alt 3 (trS [5,1006,1007]) (trS [5,3,1006,1007])) (trS [5,1,3,1006,1007])) (.alt 5 (.alt 1 (.alt 3 (trS [4,1006,1007]) (trS [4,3,1006,1007])) (trS [4,1,3,1006,1007])) .nil)))
def rN (r s:RatM) (g:RatM×RatM):List (Nat×DV):=[(5,.c (.p 3 0)),(6,.c (.p 4 0)),(2,.c (.p 0 0)),(3,.c (.p 1 0)),(4,.c (.p 2 0))]
def pE:List CV:=[.b (false=true) inferInstance,.v (.slice none 0 0),.v (.slice none 0 0)]
def pF (r s:RatM) (g:RatM×RatM):BL:=[(51,0,r.C),(51,0,s.C),(51,0,pE),(51,0,g.1.C),(51,0,g.2.C)]
theorem gsw {nb:Nat} {s:SS} {σ:Type} {S:σ->SS} {C:σ->Prop} (i j:Nat) {bi bj:TypeId×Nat×List CV} (hbi:s.bl[i]? =some bi) (hbj:s.bl[j]? =some bj) (hni:nb<=i) (hnj:nb<=j) (hgl:s.gl=[])
 (h:aJw (swC i j) s.sl λsl'=>gR s.bl i bj λbl1=>gR bl1 j bi λbl2=>wM (swC i j) 1000000 0 bl2 λbl'=>bl'.length<=1000000∧Gt nb ⟨sl',[],bl',s.fl⟩ S C):Gt nb s S C:=aBt (X:=λt=>Gt nb t S C) tGt i j hbi hbj hni hnj hgl h
theorem g0:∀t d,cT [] t=some d->(λ_:Nat=>true) t=false:=λt d h=>by cases h
theorem scA {r s:RatM} {g:RatM×RatM}:scB (pF r s g).length (pF r s g):=scB.cons rfl (scB.cons rfl (scB.cons rfl (scB.cons rfl (scB.cons rfl scB.nil))))
abbrev aPc:FuncId:=36
theorem bIg:Ent Tryz.prog aPc:=Ent.of func36 rfl kR
theorem bIh:Tryz.prog.funcs[aPc]? =some Tryz.f36:=func36
theorem aEg (r s:RatM) {a b:Rat} (hr:Rq r a 137438953472) (hs:Rq s b 137438953472):Ctr Tryz.prog aPc [] [.a r.C,.a s.C] [] (jU (a+b)):=by
 have ha:=hr.rb
 have hb:=hs.rb
 have m1:=zB ha.1 (b:=(b.den:Int)) hb.2
 have m2:=zB hb.1 (b:=(a.den:Int)) ha.2
 have m3:=zB (a:=(a.den:Int)) (b:=(b.den:Int)) ha.2 hb.2
 have m4:=aWb m1 m2
 refine aX gT bIg bIh rfl rfl rfl bL ClB.nil (aA gT mxd ⟨oA,by kernel_rfl,RatM×RatM,λg=>⟨rN r s g++[],[],pF r s g,[]⟩,λg=>Cr g.1 a∧Cr g.2 b,⟨⟨[],eE r hr.le,rfl,rfl,rfl,λx hx=>⟨⟨[],eE s hs.le,rfl,rfl,rfl,λy hy=>⟨bA g0 (chg:=rN r s) (bls:=pF r s) (fls:=λ_=>[]) (x,y) ⟨hx,hy⟩ rfl ⟨rfl,rfl,rfl,rfl,rfl⟩ trivial ⟨rfl,rfl,rfl,rfl,rfl⟩ bL scA rfl,gsw 3 4 rfl rfl bL bL rfl ⟨bL,bA g0 (chg:=rN r s) (bls:=pF r s) (fls:=λ_=>[]) (x,y) ⟨hx,hy⟩ rfl ⟨rfl,rfl,rfl,rfl,rfl⟩ trivial ⟨rfl,rfl,rfl,rfl,rfl⟩ bL scA rfl⟩⟩⟩,⟨⟨[],eE s hs.le,rfl,rfl,rfl,λy hy=>bA g0 (chg:=rN r s) (bls:=pF r s) (fls:=λ_=>[]) (x,y) ⟨hx,hy⟩ rfl ⟨rfl,rfl,rfl,rfl,rfl⟩ trivial ⟨rfl,rfl,rfl,rfl,rfl⟩ bL scA rfl⟩,⟨[],eE s hs.le,rfl,rfl,rfl,λy hy=>bA g0 (chg:=rN r s) (bls:=pF r s) (fls:=λ_=>[]) (x,y) ⟨hx,hy⟩ rfl ⟨rfl,rfl,rfl,rfl,rfl⟩ trivial ⟨rfl,rfl,rfl,rfl,rfl⟩ bL scA rfl⟩⟩,⟨⟨[],eE s hs.le,rfl,rfl,rfl,λy hy=>gsw 3 4 rfl rfl bL bL rfl ⟨bL,bA g0 (chg:=rN r s) (bls:=pF r s) (fls:=λ_=>[]) (x,y) ⟨hx,hy⟩ rfl ⟨rfl,rfl,rfl,rfl,rfl⟩ trivial ⟨rfl,rfl,rfl,rfl,rfl⟩ bL scA rfl⟩⟩,⟨[],eE s hs.le,rfl,rfl,rfl,λy hy=>gsw 3 4 rfl rfl bL bL rfl ⟨bL,bA g0 (chg:=rN r s) (bls:=pF r s) (fls:=λ_=>[]) (x,y) ⟨hx,hy⟩ rfl ⟨rfl,rfl,rfl,rfl,rfl⟩ trivial ⟨rfl,rfl,rfl,rfl,rfl⟩ bL scA rfl⟩⟩⟩⟩⟩,⟨⟨[],eE r hr.le,rfl,rfl,rfl,λx hx=>⟨⟨[],eE s hs.le,rfl,rfl,rfl,λy hy=>bA g0 (chg:=rN r s) (bls:=pF r s) (fls:=λ_=>[]) (x,y) ⟨hx,hy⟩ rfl ⟨rfl,rfl,rfl,rfl,rfl⟩ trivial ⟨rfl,rfl,rfl,rfl,rfl⟩ bL scA rfl⟩,⟨[],eE s hs.le,rfl,rfl,rfl,λy hy=>bA g0 (chg:=rN r s) (bls:=pF r s) (fls:=λ_=>[]) (x,y) ⟨hx,hy⟩ rfl ⟨rfl,rfl,rfl,rfl,rfl⟩ trivial ⟨rfl,rfl,rfl,rfl,rfl⟩ bL scA rfl⟩⟩⟩,⟨[],eE r hr.le,rfl,rfl,rfl,λx hx=>⟨[],eE s hs.le,rfl,rfl,rfl,λy hy=>bA g0 (chg:=rN r s) (bls:=pF r s) (fls:=λ_=>[]) (x,y) ⟨hx,hy⟩ rfl ⟨rfl,rfl,rfl,rfl,rfl⟩ trivial ⟨rfl,rfl,rfl,rfl,rfl⟩ bL scA rfl⟩⟩⟩,⟨⟨[],eE r hr.le,rfl,rfl,rfl,λx hx=>⟨⟨[],eE s hs.le,rfl,rfl,rfl,λy hy=>gsw 3 4 rfl rfl bL bL rfl ⟨bL,bA g0 (chg:=rN r s) (bls:=pF r s) (fls:=λ_=>[]) (x,y) ⟨hx,hy⟩ rfl ⟨rfl,rfl,rfl,rfl,rfl⟩ trivial ⟨rfl,rfl,rfl,rfl,rfl⟩ bL scA rfl⟩⟩,⟨[],eE s hs.le,rfl,rfl,rfl,λy hy=>gsw 3 4 rfl rfl bL bL rfl ⟨bL,bA g0 (chg:=rN r s) (bls:=pF r s) (fls:=λ_=>[]) (x,y) ⟨hx,hy⟩ rfl ⟨rfl,rfl,rfl,rfl,rfl⟩ trivial ⟨rfl,rfl,rfl,rfl,rfl⟩ bL scA rfl⟩⟩⟩⟩,⟨[],eE r hr.le,rfl,rfl,rfl,λx hx=>⟨[],eE s hs.le,rfl,rfl,rfl,λy hy=>gsw 3 4 rfl rfl bL bL rfl ⟨bL,bA g0 (chg:=rN r s) (bls:=pF r s) (fls:=λ_=>[]) (x,y) ⟨hx,hy⟩ rfl ⟨rfl,rfl,rfl,rfl,rfl⟩ trivial ⟨rfl,rfl,rfl,rfl,rfl⟩ bL scA rfl⟩⟩⟩⟩⟩,λ⟨x,y⟩ ⟨hx,hy⟩=>?_⟩)
 refine⟨.seq [(0,false),(1,false),(2,false),(5,false),(6,false),(7,false),(11,false),(13,false),(3,false),(4,false),(8,false),(9,false),(10,false),(12,false),(14,false),(15,false),(16,false),(17,true)],by kernel_rfl,[],yY s hs.le,rfl,rfl,rfl,λd1 h1=>⟨[],aEb x.n d1 (a:=a.num) (Ci.in hx.1 (ha.le).1) (Ci.in h1 (hb.le).2),rfl,rfl,rfl,λp1 h2=>⟨[],yY r hr.le,rfl,rfl,rfl,λd2 h3=>⟨[],aEb y.n d2 (a:=b.num) (Ci.in hy.1 (hb.le).1) (Ci.in h3 (ha.le).2),rfl,rfl,rfl,λp2 h4=>?_⟩⟩⟩⟩
 refine⟨[],yX p1 p2 (Ci.in h2 oM) (Ci.in h4 oM),rfl,rfl,rfl,λs1 h5=>⟨[],yY r hr.le,rfl,rfl,rfl,λd3 h6=>⟨[],yY s hs.le,rfl,rfl,rfl,λd4 h7=>⟨[],aEb d3 d4 (Ci.in h6 (ha.le).2) (Ci.in h7 (hb.le).2),rfl,rfl,rfl,λp3 h8=>⟨[],tH s1 p3 (Ci.in h5 oM) (Ci.in h8 oM),rfl,rfl,rfl,λg hg=>⟨g,?_,aN rfl rfl trivial⟩⟩⟩⟩⟩⟩
 rw[<-aAm];exact hg
theorem bIi {Z:Nat->Prop} {w:World} {A:Option Addr} {n c esz:Nat} {get:Nat->List CV} {v:Value} (h:Rc Z w (.r A n c esz get) v) (hv:v= .slice A n c) (hnc:n<=c) (vals:Nat->List Value) (hg:∀j,j<n->get j=(vals j).map CV.v) (hl:∀j,j<n->(vals j).length=esz):Sc (λ_ _=>True) w esz v n ((List.range n).map vals).flatten:=by
 have fl:∀m,m<=n->(((List.range m).map vals).flatten).length=m*esz:=λm=>by
  induction m with
  |zero=>intro _;simp
  |succ m ih=>intro hm;rw[List.range_succ,List.map_append,List.flatten_append,List.length_append,ih oM,Nat.succ_mul];simp[hl m oM]
 cases h with
 |nil A c esz get hm=>exact⟨A,c,hv,Nat.zero_le _,hm,by simp,.inl rfl⟩
 |r b o n c esz get V hc hm hZ hcell hlen hel=>
  have hV:∀j,j<n->V j=vals j:=λj hj=>by
   refine List.ext_getElem? λi=>?_
   have h1:(V j).length=(vals j).length:=by rw[hlen j hj,hg j hj,List.length_map]
   by_cases hi:i<(vals j).length
   ·have h2:(V j)[i]? =some (V j)[i]:=List.getElem?_eq_getElem oM
    have h3:(get j)[i]? =some (CV.v (vals j)[i]):=by rw[hg j hj,List.getElem?_map,List.getElem?_eq_getElem hi];rfl
    have h4:=hel j hj i _ _ h3 h2
    rw[h2,List.getElem?_eq_getElem hi]
    generalize (vals j)[i]=y at h4 ⊢
    cases h4
    rfl
   rw[List.getElem?_eq_none oM,List.getElem?_eq_none oM]
  refine⟨some ⟨b,o,none⟩,c,hv,hc,hm,fl n (Nat.le_refl _),.inr ⟨b,o,rfl,kC λi u hi=>?_⟩⟩
  obtain⟨_,f2⟩:=yA (Z:=λ_=>True) (get:=get) (o:=o) (V:=vals) n (λj hj i u hu=>hcell j hj i u (by rw[hV j hj];exact hu)) (λj hj=>hl j hj)
  exact(f2 i u hi).1
theorem bIj {Z:Nat->Prop} {w:World} {A:Option Addr} {n c esz:Nat} {get:Nat->List CV} {v:Value} (h:Rc Z w (.r A n c esz get) v):n<=c:=by
 cases h with
 |nil=>exact Nat.zero_le _
 |r b o n c esz get V hc=>exact hc
theorem aEh {ρ:Pl} {n:Nat} {w:World} {x:Sl Nat} {v:Value} (h:Hc ρ n w (fM x) v):Sg (gN .u32) (λ_ _=>True) w v x.l:=by
 obtain⟨e1,hr⟩:=h.inv_r
 have hsc:=bIi (e1▸hr) e1 (bIj hr) (λj=>[gN .u32 (x.l.getD j default)]) (λj hj=>rfl) (λj hj=>rfl)
 have hfl:((List.range x.l.length).map (λj=>[gN .u32 (x.l.getD j default)])).flatten=x.l.map (gN .u32):=by
  rw[<-List.flatMap_def,<-List.map_eq_flatMap]
  refine List.ext_getElem (by simp) λi h1 h2=>?_
  simp at h1
  simp[h1]
 rw[hfl] at hsc
 exact hsc
theorem aEi {Z:Nat->Prop} {D:Nat->TypeId->Prop} {w:World} {v:Value} {xs:List Nat} (h:Sg (gN .u32) D w v xs) (hz:∀b T,D b T->b<w.heap.size->Z b):∃A c,Rc Z w (fM ⟨A,c,xs⟩) v:=by
 obtain⟨A,c,rfl,h1,h2,h3,h4⟩:=h
 refine⟨A,c,?_⟩
 by_cases hx:xs=[]
 ·subst hx
  exact Rc.nil A c 1 _ h2
 rcases h4 with h4|⟨b,o,rfl,hr⟩
 ·exact absurd (List.map_eq_nil_iff.1 h4) hx
 have hlt:Z b:=by
  rcases hr with h|⟨cs,T,fz,hh,hd,_⟩
  ·exact absurd (List.map_eq_nil_iff.1 h) hx
  exact hz b T hd (cC hh)
 refine Rc.r b o xs.length c 1 _ (λj=>[gN .u32 (xs.getD j default)]) h1 h2 hlt (λj hj i u hu=>?_) (λj hj=>rfl) (λj hj i c' u hc hu=>?_)
 ·match i,hu with
  |0,hu=>
   injection hu with hu
   subst hu
   refine⟨?_,rfl⟩
   have:=hr.cell (j:=j) (u:=gN .u32 (xs.getD j default)) (by simp[hj])
   simpa using this
 match i,hc,hu with
 |0,hc,hu=>
  injection hc with hc
  injection hu with hu
  subst hc hu
  exact Rc.v _
theorem aEj {ρ:Pl} {w w':World} (hD:DnW ρ w 0 [] ρ w) (hF:ρ.F=[]) (b:Nat) (hb:w.heap.size<=b) (hlt:b<w'.heap.size):Zf ρ 0 w' b:=⟨hlt,λi hi=>absurd hi (Nat.not_lt_zero _),hD.zz.2 b (.inl hb),λ⟨F,hf,_⟩=>by rw[hF] at hf;cases hf⟩
theorem nI {ρ:Pl} {n:Nat} {w:World} {r:RatM} {v:Value} (h:Hd ρ n w (.a r.C) v):∃vn vd,v= .agg #[.bool (@decide r.n.p r.n.d),vn,vd]∧Sg (gN .u32) (λ_ _=>True) w vn r.n.m.l∧Sg (gN .u32) (λ_ _=>True) w vd r.d.l:=by
 obtain⟨vl,rfl,hl⟩:=h.inv_a
 match vl,hl with
 |[v0,v1,v2],⟨h0,h1,h2,_⟩=>exact⟨v1,v2,by rw[h0.inv_b],aEh h1,aEh h2⟩
theorem sP {r:RatM} {q:Rat} {B:Nat} (h:Rq r q B):dE (@decide r.n.p r.n.d) (val r.n.m.l) (val r.d.l)=q:=by
 rw[<-h.v]
 unfold dE
 congr 1
 by_cases hp:r.n.p
 ·rw[sg_t hp];simp[Vm.sg,hp]
 rw[sg_f hp];simp[Vm.sg,hp]
theorem qL {ρ:Pl} {w w':World} {v:Value} {z:Rat} {p q:Prop} (hD:DnW ρ w 0 [] ρ w) (hF:ρ.F=[]) (he:Ext w w') (h:∃vn vd,v= .agg #[.bool (decide (z.num<0)),vn,vd]∧Sg (gN .u32) (λb T=>w.heap.size<=b∧T=131) w' vn (aB z.num.natAbs)∧Sg (gN .u32) (λb T=>w.heap.size<=b∧T=131) w' vd (aB z.den)∧p∧q):
 ∃g ρ',(jU z g).F.C∧DnW ρ w 0 (jU z g).F.bl ρ' w'∧Hd ρ' 0 w' (jU z g).F.d v∧ClB [] (jU z g).F.bl∧ρ'.F=(jU z g).F.fl:=by
 obtain⟨vn,vd,rfl,h1,h2,_⟩:=h
 obtain⟨A,c,r1⟩:=aEi (Z:=Zf ρ 0 w') h1 λb _ hb hlt=>aEj hD hF b hb.1 hlt
 obtain⟨A2,c2,r2⟩:=aEi (Z:=Zf ρ 0 w') h2 λb _ hb hlt=>aEj hD hF b hb.1 hlt
 exact⟨⟨⟨z.num<0,inferInstance,⟨A,c,_⟩⟩,⟨A2,c2,_⟩⟩,ρ,⟨⟨Iff.rfl,rfl⟩,rfl⟩,hD.ext he,.a (vl:=[.bool (decide (z.num<0)),vn,vd]) ⟨Rc.b _ _,Hc.of_rc r1,Hc.of_rc r2,trivial⟩,ClB.nil,hF⟩
abbrev aPd:FuncId:=67
theorem bCn:Ent Tryz.prog aPd:=Ent.of func67 rfl kR
abbrev aYm:FuncId:=80
theorem bIk:Ent Tryz.prog aYm:=Ent.of func80 rfl kR
abbrev aPe:FuncId:=44
theorem bIl:Ent Tryz.prog aPe:=Ent.of func44 rfl kR
abbrev aPf:FuncId:=41
theorem bCo:Ent Tryz.prog aPf:=Ent.of func41 rfl kR
abbrev aPg:FuncId:=64
theorem bCp:Ent Tryz.prog aPg:=Ent.of func64 rfl kR
abbrev aYn:FuncId:=145
theorem bIm:Ent Tryz.prog aYn:=Ent.of func145 rfl kR
abbrev aEk:FuncId:=137
theorem bCq:Ent Tryz.prog aEk:=Ent.of func137 rfl kR
theorem bCr:Tryz.prog.funcs[aEk]? =some Tryz.f137:=func137
theorem mD (r:RatM) {q:Rat} (h:Rq r q 17179869184):Ctr Tryz.prog aPd [] [.a r.C] [] (jU q):=by
 refine⟨bCn,ClB.nil,λρ w vals hv hD hF=>?_⟩
 match vals,hv with
 |[v1],⟨h1,_⟩=>
  obtain⟨vn,vd,rfl,s1,s2⟩:=nI h1
  exact(W.q_norm s1 h.n.lm h.n.ln s2 h.ld h.bd (sP h)).mono λe w' ⟨v,he,hp,hx⟩=>⟨v,he,qL hD hF hx hp⟩
theorem aEl (r s:RatM) {a b:Rat} (hr:Rq r a 17179869184) (hs:Rq s b 17179869184):Ctr Tryz.prog aYm [] [.a r.C,.a s.C] [] (jU (a+b)):=by
 refine⟨bIk,ClB.nil,λρ w vals hv hD hF=>?_⟩
 match vals,hv with
 |[v1,v2],⟨h1,h2,_⟩=>
  obtain⟨vn,vd,rfl,s1,s2⟩:=nI h1
  obtain⟨un,ud,rfl,t1,t2⟩:=nI h2
  exact(W.q_add s1 hr.n.lm hr.n.ln s2 hr.ld hr.bd (sP hr) t1 hs.n.lm hs.n.ln t2 hs.ld hs.bd (sP hs)).mono λe w' ⟨v,he,hp,hx⟩=>⟨v,he,qL hD hF hx hp⟩
theorem vK (r s:RatM) {a b:Rat} (hr:Rq r a 17179869184) (hs:Rq s b 17179869184):Ctr Tryz.prog aPe [] [.a r.C,.a s.C] [] (jU (a*b)):=by
 refine⟨bIl,ClB.nil,λρ w vals hv hD hF=>?_⟩
 match vals,hv with
 |[v1,v2],⟨h1,h2,_⟩=>
  obtain⟨vn,vd,rfl,s1,s2⟩:=nI h1
  obtain⟨un,ud,rfl,t1,t2⟩:=nI h2
  exact(W.q_mul s1 hr.n.lm hr.n.ln s2 hr.ld hr.bd (sP hr) t1 hs.n.lm hs.n.ln t2 hs.ld hs.bd (sP hs)).mono λe w' ⟨v,he,hp,hx⟩=>⟨v,he,qL hD hF hx hp⟩
theorem tI {z:Int} (hz:-9223372036854775808<=z∧z<=9223372036854775807):Ctr Tryz.prog aPg [] [.c (iC z)] [] (jU (z:Rat)):=by
 refine⟨bCp,ClB.nil,λρ w vals hv hD hF=>?_⟩
 match vals,hv with
 |[v1],⟨h1,_⟩=>
  have e1:=h1.inv_c.inv_v
  subst e1
  exact(W.q_from hz).mono λe w' ⟨v,he,hp,hx⟩=>⟨v,he,qL hD hF hx hp⟩
theorem vL {ρ:Pl} {w w':World} {v:Value} {z:Int} (hD:DnW ρ w 0 [] ρ w) (hF:ρ.F=[]) (he:Ext w w') (h:v= .int .i64 z):
 ∃(g:Unit) (ρ':Pl),((λ_:Unit=>(⟨.c (iC z),[],True⟩:Out)) g).F.C∧DnW ρ w 0 ((λ_:Unit=>(⟨.c (iC z),[],True⟩:Out)) g).F.bl ρ' w'∧Hd ρ' 0 w' ((λ_:Unit=>(⟨.c (iC z),[],True⟩:Out)) g).F.d v∧ClB [] ((λ_:Unit=>(⟨.c (iC z),[],True⟩:Out)) g).F.bl∧ρ'.F=((λ_:Unit=>(⟨.c (iC z),[],True⟩:Out)) g).F.fl:=by
 subst h
 exact⟨(),ρ,trivial,hD.ext he,.c (Rc.v _),ClB.nil,hF⟩
theorem aPh (z:Int):Int.sign z=sgn z:=by
 unfold sgn
 rcases Int.lt_trichotomy z 0 with h|h|h
 ·rw[if_pos h,Int.sign_eq_neg_one_of_neg h]
 ·subst h;rfl
 rw[if_neg oM,if_neg oM,Int.sign_eq_one_of_pos h]
theorem iJ (r:RatM) {q:Rat} (h:Rq r q 17179869184):Ctr Tryz.prog aPf [] [.a r.C] [] (λ_:Unit=>⟨.c (iC (sgn q.num)),[],True⟩):=by
 refine⟨bCo,ClB.nil,λρ w vals hv hD hF=>?_⟩
 match vals,hv with
 |[v1],⟨h1,_⟩=>
  obtain⟨vn,vd,rfl,s1,s2⟩:=nI h1
  exact(W.q_sign s1 h.n.lm h.n.ln s2 h.ld h.bd (sP h)).mono λe w' ⟨v,he,hp,hx⟩=>⟨v,he,vL hD hF hx (by rw[hp,aPh])⟩
abbrev aPi:FuncId:=125
theorem bCs:Ent Tryz.prog aPi:=Ent.of func125 rfl kR
theorem aWc (x:Sl Nat) (hx:Lm x.l) (hn:x.l.length<=17592186044416):Ctr Tryz.prog aPi [] [.c (fM x)] [] (aJx (val x.l)):=by
 refine⟨bCs,ClB.nil,λρ w vals hv hD hF=>?_⟩
 match vals,hv with
 |[v1],⟨h1,_⟩=>
  refine(W.n_trim (aEh h1.inv_c) hx hn).mono λe w' ⟨v,he,hp,hx⟩=>⟨v,he,?_⟩
  obtain⟨A,c,r1⟩:=aEi (Z:=Zf ρ 0 w') hp λb _ hb hlt=>aEj hD hF b hb.1 hlt
  exact⟨⟨A,c,_⟩,ρ,rfl,hD.ext hx,.c (Hc.of_rc r1),ClB.nil,hF⟩
abbrev vM:FuncId:=128
theorem aPj:Ent Tryz.prog vM:=Ent.of func128 rfl kR
theorem aPk:Tryz.prog.funcs[vM]? =some Tryz.f128:=func128
theorem aJy (p:Prop) {hp:Decidable p} (m:Sl Nat) {n:Nat} (hm:m.l=aB n):Ctr Tryz.prog vM [] [.c (.b p hp),.c (fM m)] [] (sV (sg p n)):=by
 refine aX gT aPj aPk rfl rfl rfl bL ClB.nil (aA gT mxd ⟨⟨p∧(0:Int)<(m.l.length:Nat),inferInstance,m⟩,⟨?_,?_⟩,aN rfl rfl trivial⟩)
 ·show p∧(0:Int)<(m.l.length:Nat)↔_
  rw[yV,hm]
  have:=aHe (n:=n)
  unfold len at this
  constructor
  ·rintro⟨h1,h2⟩;exact⟨h1,this.1 oM⟩
  rintro⟨h1,h2⟩;exact⟨h1,by have:=this.2 h2;omega⟩
 rw[sg_abs];exact hm
theorem aPl {p:Prop} {n:Nat}:sg (¬p) n=-sg p n:=by
 by_cases hp:p
 ·rw[sg_t hp,sg_f (λh=>h hp)];omega
 rw[sg_f hp,sg_t hp]
theorem aWd (i:IntM) {v:Int} (h:In i v 17179869184):Ctr Tryz.prog aEk [] [.a i.C] [] (sV (-v)):=by
 refine aX gT bCq bCr rfl rfl rfl bL ClB.nil (aA gT mxd ⟨.seq [(0,false),(3,false),(1,false),(2,false),(4,false),(5,false),(6,false),(7,true)],by kernel_rfl,[],aWc i.m h.lm (Nat.le_trans h.ln dC),rfl,rfl,rfl,λm hm=>⟨[],aJy (¬i.p) m hm,rfl,rfl,rfl,λg hg=>⟨g,?_,aN rfl rfl trivial⟩⟩⟩)
 rw[<-h.v,<-aPl];exact hg
abbrev aPm:FuncId:=110
theorem bIn:Ent Tryz.prog aPm:=Ent.of func110 rfl kR
theorem bIo:Tryz.prog.funcs[aPm]? =some Tryz.f110:=func110
theorem bCt (r:RatM) {q:Rat} (h:Rq r q 17179869184):Ctr Tryz.prog aPm [] [.a r.C] [] (jU (-q)):=by
 refine aX gT bIn bIo rfl rfl rfl bL ClB.nil (aA gT mxd ⟨[],mD r h,rfl,rfl,rfl,λg hg=>⟨[],aWd g.n (v:=q.num) (Ci.in hg.1 h.rb.1),rfl,rfl,rfl,λn hn=>⟨⟨n,g.d⟩,⟨?_,hg.2⟩,aN rfl rfl trivial⟩⟩⟩)
 exact hn
theorem aPn {p:Prop} {m d:Nat}:Rat.divInt (sg p d) (m:Nat)=(Rat.divInt (sg p m) (d:Nat))⁻¹:=by
 rw[Rat.inv_divInt]
 by_cases hp:p
 ·rw[sg_t hp,sg_t hp,Rat.divInt_neg']
 rw[sg_f hp,sg_f hp]
def RatM.flip (r:RatM):RatM:=⟨⟨r.n.p,r.n.d,r.d⟩,r.n.m⟩
theorem Rq.flip {r:RatM} {q:Rat} {B:Nat} (h:Rq r q B):Rq r.flip q⁻¹ B:=⟨⟨h.ld,h.bd,rfl⟩,h.n.lm,h.n.ln,by rw[<-h.v];exact aPn⟩
abbrev aPo:FuncId:=107
theorem bIp:Ent Tryz.prog aPo:=Ent.of func107 rfl kR
theorem bIq:Tryz.prog.funcs[aPo]? =some Tryz.f107:=func107
theorem bCu (r:RatM) {q:Rat} {B:Nat} (h:Rq r q 17179869184) (hB:rb q B) (hq:q≠0):Ctr Tryz.prog aPo [] [.a r.C] [] (λg:RatM=>⟨.t [.a g.C,pC True],[],Rq g q⁻¹ B⟩):=by
 refine aX gT bIp bIq rfl rfl rfl bL ClB.nil (aA gT mxd ⟨[],iJ r h,rfl,rfl,rfl,λ_ _=>⟨λh=>absurd (Rat.num_eq_zero.1 (dL.1 h)) hq,λ_=>aA gT mxd ⟨[],mD r h,rfl,rfl,rfl,λg hg=>⟨g.flip,(Cr.rq hg hB).flip,aN ⟨rfl,tt trivial⟩ rfl trivial⟩⟩⟩⟩)
abbrev aPp:FuncId:=42
theorem bIr:Ent Tryz.prog aPp:=Ent.of func42 rfl kR
theorem bIs:Tryz.prog.funcs[aPp]? =some Tryz.f42:=func42
theorem aPq (r s:RatM) {a b:Rat} (hr:Rq r a 17179869184) (hs:Rq s b 17179869184) (hb:b≠0):Ctr Tryz.prog aPp [] [.a r.C,.a s.C] [] (λg:RatM=>⟨.t [.a g.C,pC True],[],Cr g (a/b)⟩):=by
 refine aX gT bIr bIs rfl rfl rfl bL ClB.nil (aA gT mxd ⟨[],iJ s hs,rfl,rfl,rfl,λ_ _=>⟨λh=>absurd (Rat.num_eq_zero.1 (dL.1 h)) hb,λ_=>aA gT mxd ⟨[],vK r s.flip hr hs.flip,rfl,rfl,rfl,λg hg=>⟨g,?_,aN ⟨rfl,tt trivial⟩ rfl trivial⟩⟩⟩⟩)
 rw[Rat.div_def];exact hg
theorem Rq.neg {r:RatM} {q:Rat} {B:Nat} (h:Rq r q B):Rq ⟨⟨¬r.n.p,@instDecidableNot _ r.n.d,r.n.m⟩,r.d⟩ (-q) B:=⟨⟨h.n.lm,h.n.ln,rfl⟩,h.ld,h.bd,by
 rw[<-h.v]
 show Rat.divInt (sg (¬r.n.p) _) _=_
 rw[aPl,Rat.neg_divInt]⟩
abbrev aPr:FuncId:=43
theorem bIt:Ent Tryz.prog aPr:=Ent.of func43 rfl kR
theorem bIu:Tryz.prog.funcs[aPr]? =some Tryz.f43:=func43
theorem aPs (r s:RatM) {a b:Rat} (hr:Rq r a 17179869184) (hs:Rq s b 17179869184):Ctr Tryz.prog aPr [] [.a r.C,.a s.C] [] (jU (a-b)):=by
 refine aX gT bIt bIu rfl rfl rfl bL ClB.nil (aA gT mxd ⟨[],aEl r ⟨⟨¬s.n.p,@instDecidableNot _ s.n.d,s.n.m⟩,s.d⟩ hr hs.neg,rfl,rfl,rfl,λg hg=>⟨g,?_,aN rfl rfl trivial⟩⟩)
 rw[Rat.sub_eq_add_neg];exact hg
abbrev aEm:FuncId:=76
theorem bCv:Ent Tryz.prog aEm:=Ent.of func76 rfl kR
theorem bCw:Tryz.prog.funcs[aEm]? =some Tryz.f76:=func76
theorem aHk (r f s:RatM) {a q b:Rat} {B:Nat} (hr:Rq r a 17179869184) (hf:Rq f q 17179869184) (hs:Rq s b 17179869184) (hqb:rb (q*b) 17179869184) (hB:rb (a-q*b) B) (hra:Rq r a B):Ctr Tryz.prog aEm [] [.a r.C,.a f.C,.a s.C] [] (λg:RatM=>⟨.a g.C,[],Rq g (a-q*b) B⟩):=by
 refine aX gT bCv bCw rfl rfl rfl bL ClB.nil (aA gT mxd ⟨[],iJ s hs,rfl,rfl,rfl,λ_ _=>⟨λh=>aA gT mxd ⟨r,?_,aN rfl rfl trivial⟩,λh=>aA gT mxd ?_⟩⟩)
 ·rw[Rat.num_eq_zero.1 (dL.1 h),Rat.mul_zero,Rat.sub_eq_add_neg,Rat.neg_zero,Rat.add_zero];exact hra
 exact⟨.seq [(0,false),(1,false),(2,false),(3,false),(4,false),(5,true)],by kernel_rfl,[],vK f s hf hs,rfl,rfl,rfl,λm hm=>⟨[],aPs r m hr (Cr.rq hm hqb),rfl,rfl,rfl,λg hg=>⟨g,Cr.rq hg hB,aN rfl rfl trivial⟩⟩⟩
instance:Inhabited IntM:=⟨⟨false=true,inferInstance,cD⟩⟩
instance:Inhabited RatM:=⟨⟨default,cD⟩⟩
structure EntM where
 ix:Int
 v:RatM
instance:Inhabited EntM:=⟨⟨0,default⟩⟩
def EntM.C (e:EntM):List CV:=iC e.ix::e.v.C
def aO (x:Sl EntM):CV:=x.R 4 EntM.C default
structure Ev (x:List EntM) (es:List En) (B:Nat):Prop where
 ln:x.length=es.length
 e:∀k,k<es.length->(x.getD k default).ix=(es.getD k default).1∧Rq (x.getD k default).v (es.getD k default).2 B
structure Ek (x:List EntM) (es:List En):Prop where
 ln:x.length=es.length
 e:∀k,k<es.length->(x.getD k default).ix=(es.getD k default).1∧Cr (x.getD k default).v (es.getD k default).2
def rbE (es:List En) (B:Nat):Prop:=∀e∈es,rb e.2 B
theorem dW {α:Type} [Inhabited α] {l:List α} {k:Nat} (h:k<l.length):l.getD k default∈l:=by rw[gd h];exact List.getElem_mem h
theorem Ek.ev {x:List EntM} {es:List En} {B:Nat} (h:Ek x es) (hb:rbE es B):Ev x es B:=⟨h.ln,λk hk=>⟨(h.e k hk).1,(h.e k hk).2.rq (hb _ (dW hk))⟩⟩
theorem bCx {es:List En} {k:Nat} (hk:k+1<es.length) (h:(es.getD (k+1) default).1<=(es.getD k default).1):¬Asc es:=λha=>by
 have h2:=List.pairwise_iff_getElem.1 ha k (k+1) oM hk oM
 rw[gd hk,gd oM] at h
 exact absurd h (Int.not_le.2 h2)
theorem bIv {es:List En} {k:Nat} (hk:k+1<es.length) (h:(es.getD k default).1<(es.getD (k+1) default).1) (ha:Asc (es.take (k+1))):Asc (es.take (k+1+1)):=by
 have h1:es.take (k+1+1)=es.take (k+1)++[es.getD (k+1) default]:=by rw[List.take_add_one,List.getElem?_eq_getElem hk,gd hk];rfl
 have h0:es.take (k+1)=es.take k++[es.getD k default]:=by rw[List.take_add_one,List.getElem?_eq_getElem (show k<es.length by omega),gd (show k<es.length by omega)];rfl
 rw[h1]
 refine List.pairwise_append.2 ⟨ha,List.pairwise_singleton _ _,λa h2 b h3=>?_⟩
 rw[List.mem_singleton.1 h3]
 rw[h0] at h2 ha
 rcases List.mem_append.1 h2 with h2|h2
 ·exact Int.lt_trans ((List.pairwise_append.1 ha).2.2 a h2 _ (.head _)) h
 rw[List.mem_singleton.1 h2];exact h
abbrev aPt:FuncId:=87
theorem bIw:Ent Tryz.prog aPt:=Ent.of func87 rfl kR
theorem bIx:Tryz.prog.funcs[aPt]? =some Tryz.f87:=func87
theorem aPu (x:Sl EntM) {es:List En} {B:Nat} (h:Ev x.l es B):Ctr Tryz.prog aPt [] [.c (aO x)] [] (λ_:Unit=>⟨pC (Asc es),[],True⟩):=by
 have hl:=h.ln
 refine aX gT bIw bIx rfl rfl rfl bL ClB.nil (aJv 0 rfl λhn=>aA gT mxd ?_)
 refine nG (rn [(2,21)]) (λi:Nat=>[(3,.c (iC (i+1:Nat)))]) (λ_=>[]) (λi=>Asc (es.take (i+1))∧(i<es.length∨i=0)) (es.length-·) 0 ?_
 refine⟨⟨⟨?_,.inr rfl⟩,rfl,rfl⟩,λi hi=>aA gT mxd ⟨λh1=>aA gT mxd ?_,λh1=>aA gT mxd ?_⟩⟩
 ·cases es with
  |nil=>exact List.Pairwise.nil
  |cons e es=>exact List.pairwise_singleton _ _
 ·replace h1:((i+1:Nat):Int)<(x.l.length:Nat):=h1
  have hk:i+1<es.length:=by omega
  have e1:=(h.e i oM).1
  have e2:=(h.e (i+1) hk).1
  refine⟨.seq (sq 99 (List.range 12)),by kernel_rfl,(i:Int),wi,i,⟨rfl,oM⟩,i+1,⟨rfl,oM⟩,⟨λhe=>aA gT mxd ?_,λhe=>aA gT mxd ?_⟩⟩
  ·replace he:(x.l.getD (i+1) default).ix<=(x.l.getD i default).ix:=he
   exact⟨(),trivial,aN ⟨(nomatch ·),λha=>absurd ha (bCx hk oM)⟩ rfl trivial⟩
  replace he:¬(x.l.getD (i+1) default).ix<=(x.l.getD i default).ix:=he
  exact⟨(i+1+1:Nat),wi,i+1,⟨⟨bIv hk oM hi.1,.inl hk⟩,oM⟩,rfl,rfl,rfl⟩
 replace h1:¬((i+1:Nat):Int)<(x.l.length:Nat):=h1
 refine aA gT mxd ⟨(),trivial,aN ⟨λ_=>?_,λ_=>rfl⟩ rfl trivial⟩
 have:=hi.1
 rwa [List.take_of_length_le oM] at this
abbrev aPv:FuncId:=89
theorem bIy:Ent Tryz.prog aPv:=Ent.of func89 rfl kR
theorem bIz:Tryz.prog.funcs[aPv]? =some Tryz.f89:=func89
theorem zC (x:Sl EntM) {es:List En} {B:Nat} (h:Ev x.l es B) (ha:Asc es):Ctr Tryz.prog aPv [] [.c (aO x)] [] (λ_:Unit=>⟨.c (aO x),[],True⟩):=by
 refine aX gT bIy bIz rfl rfl rfl bL ClB.nil (aA gT mxd ⟨[],aPu x h,rfl,rfl,rfl,λ_ _=>⟨λ_=>aA gT mxd ⟨(),trivial,aN rfl rfl trivial⟩,λh2=>absurd ha h2⟩⟩)
abbrev aPw:FuncId:=108
theorem bJa:Ent Tryz.prog aPw:=Ent.of func108 rfl kR
theorem bJb:Tryz.prog.funcs[aPw]? =some Tryz.f108:=func108
theorem fY {es:List En} {i:Int} {B:Nat} (ha:Asc es) (hb:rbE es B) (h1:1<=B):rb (Vm.get es i) B:=by
 induction es with
 |nil=>exact⟨by show len 0<=B;rw[show len 0=0 by decide];omega,by show len 1<=B;rw[show len 1=1 by decide];omega⟩
 |cons e es ih=>
  by_cases he:e.1=i
  ·subst he;rw[eJ ha];exact hb e (.head _)
  rw[eF he];exact ih ha.tail λe he=>hb e (.tail _ he)
theorem aBv {es:List En} {i:Int} {k:Nat} (hk:k<es.length):Vm.get (es.take (k+1)) i=Vm.get (es.take k) i+(if (es.getD k default).1=i then (es.getD k default).2 else 0):=by
 rw[List.take_add_one,List.getElem?_eq_getElem hk,gd hk,gJ]
 congr 1
 show _+0=_
 rw[Rat.add_zero]
theorem aPx (x:Sl EntM) (i:Int) {es:List En} {B:Nat} (h:Ev x.l es B) (hb:rbE es B) (ha:Asc es) (h1:1<=B) (hB:B<=17179869184):Ctr Tryz.prog aPw [] [.c (aO x),.c (iC i)] [] (jU (Vm.get es i)):=by
 have hl:=h.ln
 have hgb:∀k,rb (Vm.get (es.take k) i) 17179869184:=λk=>(fY (ha.sublist (List.take_sublist _ _)) (λe he=>hb e (List.mem_of_mem_take he)) h1).le
 refine aX gT bJa bJb rfl rfl rfl bL ClB.nil (aJv 0 rfl λhn=>aA gT mxd ⟨[],tI (z:=0) dC,rfl,rfl,rfl,λz hz=>?_⟩)
 replace hn:x.l.length<=9223372036854775807:=hn
 refine bV (rn [(6,7),(11,24)]) (λg:Nat×RatM=>[(11,.c (iC g.1))]) (λg=>[(51,0,pE),(51,0,g.2.C)]) (λ_=>[]) (λg=>g.1<=es.length∧Cr g.2 (Vm.get (es.take g.1) i)) (λg=>es.length-g.1) λhM=>⟨bA hM (0,z) ⟨Nat.zero_le _,hz⟩ rfl ⟨rfl,rfl⟩ trivial rfl bL (scB.cons rfl (scB.cons rfl scB.nil)) rfl,λ⟨k,g⟩ ⟨hk,hg⟩=>aA gT mxd ⟨λh2=>aA gT mxd ?_,λh2=>aA gT mxd (aA gT mxd ?_)⟩⟩
 all_goals
  replace hk:k<=es.length:=hk
  replace hg:Cr g (Vm.get (es.take k) i):=hg
 ·replace h2:(k:Int)<(x.l.length:Nat):=h2
  have hkl:k<es.length:=by omega
  have e1:=(h.e k hkl).1
  refine⟨k,⟨rfl,by omega⟩,⟨λh3=>aA gT mxd ?_,λh3=>aA gT mxd ?_⟩⟩
  ·replace h3:(x.l.getD k default).ix=i:=h3
   refine⟨[],aEl g (x.l.getD k default).v (hg.rq (hgb k)) ((h.e k hkl).2.le hB),rfl,rfl,rfl,λs hs=>⟨(k:Int)+1,wi,bA hM (k+1,s) ⟨⟨hkl,?_⟩,show es.length-(k+1)<es.length-k by omega⟩ rfl ⟨rfl,rfl⟩ trivial rfl bL (scB.cons rfl (scB.cons rfl scB.nil)) rfl⟩⟩
   show Cr s _
   rw[aBv hkl,if_pos oM];exact hs
  replace h3:¬(x.l.getD k default).ix=i:=h3
  refine⟨(k:Int)+1,wi,bA hM (k+1,g) ⟨⟨hkl,?_⟩,show es.length-(k+1)<es.length-k by omega⟩ rfl ⟨rfl,rfl⟩ trivial rfl bL (scB.cons rfl (scB.cons rfl scB.nil)) rfl⟩
  show Cr g _
  rw[aBv hkl,if_neg oM,Rat.add_zero];exact hg
 replace h2:¬(k:Int)<(x.l.length:Nat):=h2
 refine⟨g,?_,aN rfl rfl trivial⟩
 show Cr g _
 rw[List.take_of_length_le oM] at hg
 exact hg
def VOk (es:List En) (n:Int):Prop:=Asc es∧∀e∈es,0<=e.1∧e.1<n∧e.2≠0
abbrev aPy:FuncId:=48
theorem bJc:Ent Tryz.prog aPy:=Ent.of func48 rfl kR
theorem bJd:Tryz.prog.funcs[aPy]? =some Tryz.f48:=func48
theorem aBw (x:Sl EntM) (n:Int) {es:List En} {B:Nat} (h:Ev x.l es B) (hB:B<=17179869184):Ctr Tryz.prog aPy [] [.c (aO x),.c (iC n)] [] (λ_:Unit=>⟨pC (VOk es n),[],True⟩):=by
 have hl:=h.ln
 refine aX gT bJc bJd rfl rfl rfl bL ClB.nil (aJv 0 rfl λhn=>aA gT mxd ⟨[],aPu x h,rfl,rfl,rfl,λ_ _=>⟨λh1=>aA gT mxd ?_,λh1=>aA gT mxd ?_⟩⟩)
 ·exact⟨(),trivial,aN ⟨(nomatch ·),λh2=>absurd h2.1 h1⟩ rfl trivial⟩
 replace h1:Asc es:=Classical.not_not.1 h1
 replace hn:x.l.length<=9223372036854775807:=hn
 refine bV (rn [(6,6),(12,31)]) (λk:Nat=>[(12,.c (iC k))]) (λ_=>[]) (λ_=>[]) (λk=>k<=es.length∧∀e∈es.take k,0<=e.1∧e.1<n∧e.2≠0) (λk=>es.length-k) λhM=>⟨bA hM 0 ⟨Nat.zero_le _,by simp⟩ rfl trivial trivial rfl bL scB.nil rfl,λk ⟨hk,hg⟩=>aA gT mxd ⟨λh2=>aA gT mxd ?_,λh2=>aA gT mxd (aA gT mxd ?_)⟩⟩
 ·replace h2:(k:Int)<(x.l.length:Nat):=h2
  have hkl:k<es.length:=by omega
  obtain⟨e1,e2⟩:=h.e k hkl
  have bad:¬(0<=(es.getD k default).1∧(es.getD k default).1<n∧(es.getD k default).2≠0)->¬VOk es n:=λhh hv=>hh (hv.2 _ (dW hkl))
  refine⟨k,⟨rfl,by omega⟩,⟨λh3=>?_,λh3=>?_⟩⟩
  ·replace h3:(x.l.getD k default).ix<0∨n<=(x.l.getD k default).ix:=h3
   exact⟨(),trivial,aN ⟨(nomatch ·),λhv=>absurd hv (bad oM)⟩ rfl trivial⟩
  replace h3:¬((x.l.getD k default).ix<0∨n<=(x.l.getD k default).ix):=h3
  refine⟨[],iJ (x.l.getD k default).v (e2.le hB),rfl,rfl,rfl,λ_ _=>⟨λh4=>aA gT mxd ?_,λh4=>aA gT mxd ?_⟩⟩
  ·exact⟨(),trivial,aN ⟨(nomatch ·),λhv=>absurd hv (bad λhh=>hh.2.2 (Rat.num_eq_zero.1 (dL.1 h4)))⟩ rfl trivial⟩
  refine⟨(k:Int)+1,wi,bA hM (k+1) ⟨⟨hkl,(aOh (d:=default) hkl).2 ⟨hg,by omega,by omega,λh5=>h4 (dL.2 (Rat.num_eq_zero.2 h5))⟩⟩,show es.length-(k+1)<es.length-k by omega⟩ rfl trivial trivial rfl bL scB.nil rfl⟩
 replace h2:¬(k:Int)<(x.l.length:Nat):=h2
 rw[List.take_of_length_le oM] at hg
 exact⟨(),trivial,aN ⟨λ_=>⟨h1,hg⟩,λ_=>rfl⟩ rfl trivial⟩
abbrev bCy:FuncId:=90
theorem bOi:Ent Tryz.prog bCy:=Ent.of func90 rfl kR
theorem bOj:Tryz.prog.funcs[bCy]? =some Tryz.f90:=func90
theorem aYo (x y:RatM) {a:Rat} (hx:Rq x a 17179869184):Ctr Tryz.prog bCy [] [.a x.C,.a y.C] [] (jU a):=by
 refine aX gT bOi bOj rfl rfl rfl bL ClB.nil (aA gT mxd ⟨[],mD x hx,rfl,rfl,rfl,λg hg=>⟨g,hg,aN rfl rfl trivial⟩⟩)
abbrev bCz:FuncId:=136
theorem bOk:Ent Tryz.prog bCz:=Ent.of func136 rfl kR
theorem bOl:Tryz.prog.funcs[bCz]? =some Tryz.f136:=func136
theorem bJe (f x y:RatM) {q a b:Rat} (hf:Rq f q 17179869184) (hx:Rq x a 17179869184) (hy:Rq y b 17179869184) (hb:rb (q*b) 17179869184):Ctr Tryz.prog bCz [true] [.a x.C,.a y.C,.c (.p 0 0)] [(51,0,f.C)] (λg:RatM=>⟨.a g.C,[(51,0,f.C)],Cr g (a+q*b)⟩):=by
 refine aX gT bOk bOl rfl rfl rfl bL (ClB.one rfl) (aA gT mxd ⟨[],iJ y hy,rfl,rfl,rfl,λ_ _=>⟨λh=>aA gT mxd ?_,λh=>aA gT mxd ?_⟩⟩)
 ·refine⟨[],mD x hx,rfl,rfl,rfl,λg hg=>⟨g,?_,aN rfl rfl ⟨⟨rfl,rfl,rfl,rfl⟩,trivial⟩⟩⟩
  show Cr g _
  rw[Rat.num_eq_zero.1 (dL.1 h),Rat.mul_zero,Rat.add_zero];exact hg
 exact⟨.seq [(0,false),(1,false),(2,false),(3,false),(4,false),(5,true)],by kernel_rfl,[],vK f y hf hy,rfl,rfl,rfl,λm hm=>⟨[],aEl x m hx (Cr.rq hm hb),rfl,rfl,rfl,λg hg=>⟨g,hg,aN rfl rfl ⟨⟨rfl,rfl,rfl,rfl⟩,trivial⟩⟩⟩⟩
theorem Sd.sq {P:Program} {nb N:Nat} {a b:Code} {K:Kt} {s:SS} (h:Sd P nb N a ⟨λs'=>Sd P nb N b K s',K.ext,K.ret⟩ s):Sd P nb N (.seq a b) K s:=λρ0 w0 ρ f w Q hL hD=>
 bB (h ρ0 w0 ρ f w _ ⟨λs' ρ' f' w' h' hD'=>h' ρ0 w0 ρ' f' w' Q hL hD',hL.ext,hL.ret⟩ hD)
theorem Sd.cut {P:Program} {nb N:Nat} {a b:Code} {K:Kt} {s:SS} {σ:Type} (S:σ->SS) (C:σ->Prop) (h:Sd P nb N a ⟨λs'=>Gt nb s' S C,K.ext,K.ret⟩ s) (hk:∀g,C g->Sd P nb N b K (S g)):Sd P nb N (.seq a b) K s:=λρ0 w0 ρ f w Q hL hD=>
 bB (h ρ0 w0 ρ f w _ ⟨λs' ρ' f' w' hg hD'=>by
  obtain⟨g,ρ2,hC,hD2⟩:=hg ρ0 w0 ρ' f' w' hD'
  exact hk g hC ρ0 w0 ρ2 f' w' Q hL hD2,hL.ext,hL.ret⟩ hD)
theorem Sd.blk {P:Program} {nb N id:Nat} {c:Code} {K:Kt} {s:SS} (h:Sd P nb N c ⟨K.nrm,λj s'=>bif Nat.beq j id then K.nrm s' else K.ext j s',K.ret⟩ s):Sd P nb N (.block id c) K s:=λρ0 w0 ρ f w Q hL hD=>
 cF (h ρ0 w0 ρ f w _ ⟨hL.nrm,λj s' ρ' f' w' h' hD'=>by
  have h2:(bif Nat.beq j id then K.nrm s' else K.ext j s'):=h'
  show match Nat.beq j id with|true=>Q.nrm f' w'|false=>Q.ext j f' w'
  cases hj:Nat.beq j id with
  |true=>rw[hj] at h2;exact hL.nrm s' ρ' f' w' h2 hD'
  |false=>rw[hj] at h2;exact hL.ext j s' ρ' f' w' h2 hD',hL.ret⟩ hD)
theorem cP (r:RatM):∀c∈r.C,cW c=true:=λc h2=>by
 simp only[RatM.C,List.mem_cons,List.not_mem_nil,or_false] at h2
 rcases h2 with rfl|rfl|rfl<;>rfl
def ecs (ys:List EntM):List CV:=(ys.map EntM.C).flatten
theorem dH:∀ys:List EntM,(ecs ys).length=ys.length*4
 |[]=>rfl
 |e::ys=>by
  show(e.C++ecs ys).length=_
  rw[List.length_append,dH ys,List.length_cons]
  show 4+_=_
  omega
theorem dM (ys:List EntM):∀c∈ecs ys,cW c=true:=λc hc=>by
 obtain⟨l,h1,h2⟩:=List.mem_flatten.1 hc
 obtain⟨e,_,rfl⟩:=List.mem_map.1 h1
 rcases List.mem_cons.1 h2 with rfl|h2
 ·rfl
 exact cP _ c h2
theorem iQ (ys:List EntM) (e:EntM):ecs ys++e.C=ecs (ys++[e]):=by unfold ecs;simp
theorem dN {i:Nat} {c:CV} (h:cW c=true):eX i c=false:=by cases c<;>first|rfl|cases h
theorem fA {n:Nat} (ys:List EntM):(ecs ys).all (scC n)=true:=List.all_eq_true.2 λc hc=>iS (dM ys c hc)
theorem jE (x:List EntM) (i:Nat) (A:Option Addr) (c:Nat):CV.r A ((x.drop i).length-1) c 4 (λj=>((x.drop i).getD (j+1) default).C)=aO ⟨A,c,x.drop (i+1)⟩:=by
 unfold aO Sl.R
 congr 1
 ·simp only[List.length_drop];omega
 funext j
 rw[List.getD_eq_getElem?_getD,List.getD_eq_getElem?_getD,List.getElem?_drop,List.getElem?_drop,show i+(j+1)=i+1+j by omega]
theorem qM {α:Type} [Inhabited α] {l:List α} {i:Nat} (h:i<l.length):l.drop i=l.getD i default::l.drop (i+1):=by rw[List.drop_eq_getElem_cons h,gd h]
theorem hH {x:List EntM} {i:Nat}:(x.drop i).getD 0 default=x.getD i default:=by
 rw[List.getD_eq_getElem?_getD,List.getD_eq_getElem?_getD,List.getElem?_drop,Nat.add_zero]
theorem aHl {B:Nat}:Rq default 0 B:=⟨⟨Lm.nil,Nat.zero_le _,rfl⟩,Lm.nil,Nat.zero_le _,rfl⟩
theorem aHm {B:Nat} (h:1<=B):rb 0 B:=⟨by show len 0<=B;rw[show len 0=0 by decide];omega,by show len 1<=B;rw[show len 1=1 by decide];omega⟩
structure MgR (op:Rat->Rat->Rat) (es fs rs:List En):Prop where
 a:Asc rs
 z:uM rs
 g:∀i,Vm.get rs i=op (Vm.get es i) (Vm.get fs i)
def aBx (es fs:List En) (B i j:Nat) (i' j':Nat) (ix:Int) (u v:RatM):Prop:=∃a b,Stp (es.drop i) (fs.drop j) ix a b (es.drop i') (fs.drop j')∧Rq u a B∧Rq v b B∧rb a B∧rb b B∧i'<=es.length∧j'<=fs.length∧i+j<i'+j'
section seen
variable {x y:List EntM} {es fs:List En} {B i j:Nat} (hx:Ev x es B) (hy:Ev y fs B) (bx:rbE es B) (bY:rbE fs B) (h1:1<=B) (hi:i<=es.length) (hj:j<=fs.length)
include hx bx h1 hj in
theorem aPz (h:i<es.length) (h2:j=fs.length∨(j<fs.length∧(es.getD i default).1<(fs.getD j default).1)):aBx es fs B i j (i+1) j ((x.drop i).getD 0 default).ix ((x.drop i).getD 0 default).v default:=by
 rw[hH,(hx.e i h).1]
 refine⟨_,0,?_,(hx.e i h).2,aHl,bx _ (dW h),aHm h1,h,hj,by omega⟩
 rw[qM h]
 rcases h2 with rfl|⟨h2,h3⟩
 ·rw[List.drop_length];exact .l _ _
 rw[qM h2];exact .lt _ _ _ _ h3
include hx hy bx bY in
theorem aQa (h:i<es.length) (h2:j<fs.length) (h3:(es.getD i default).1=(fs.getD j default).1):aBx es fs B i j (i+1) (j+1) ((x.drop i).getD 0 default).ix ((x.drop i).getD 0 default).v ((y.drop j).getD 0 default).v:=by
 rw[hH,hH,(hx.e i h).1]
 refine⟨_,_,?_,(hx.e i h).2,(hy.e j h2).2,bx _ (dW h),bY _ (dW h2),h,h2,by omega⟩
 rw[qM h,qM h2];exact .eq _ _ _ _ h3
include hy bY h1 hi in
theorem aQb (h2:j<fs.length) (h:i=es.length∨(i<es.length∧(fs.getD j default).1<(es.getD i default).1)):aBx es fs B i j i (j+1) ((y.drop j).getD 0 default).ix default ((y.drop j).getD 0 default).v:=by
 rw[hH,(hy.e j h2).1]
 refine⟨0,_,?_,aHl,(hy.e j h2).2,aHm h1,bY _ (dW h2),hi,h2,by omega⟩
 rw[qM h2]
 rcases h with rfl|⟨h,h3⟩
 ·rw[List.drop_length];exact .r _ _
 rw[qM h];exact .gt _ _ _ _ h3
end seen
theorem xE {get:Nat->List CV} {e:Nat}:LeC (.v (.slice none 0 0)) (.r none 0 0 e get):=λρ n w x h=>by rw[h.inv_v];exact Rc.nil none 0 e get (Nat.zero_le _)
theorem aBy:∀(k:Nat) (c c':CV),pE[k]? =some c->(default:RatM).C[k]? =some c'->LeC c c'
 |0,c,c',h1,h2=>by injection h1 with h1;injection h2 with h2;subst h1 h2;exact LeC.refl _
 |1,c,c',h1,h2=>by injection h1 with h1;injection h2 with h2;subst h1 h2;exact xE
 |2,c,c',h1,h2=>by injection h1 with h1;injection h2 with h2;subst h1 h2;exact xE
 |_+3,c,c',h1,h2=>by cases h1
theorem oD {ys:List EntM} {rs:List En} {ix:Int} {g:RatM} {q:Rat} (h:Ek ys rs) (hg:Cr g q):Ek (ys++[⟨ix,g⟩]) (rs++[(ix,q)]):=⟨by simp[h.ln],λk hk=>by
 rw[List.length_append,List.length_singleton] at hk
 have hl:=h.ln
 rcases Nat.lt_or_ge k rs.length with h1|h1
 ·have e1:(ys++[(⟨ix,g⟩:EntM)]).getD k default=ys.getD k default:=by simp[List.getElem?_append_left (show k<ys.length by omega)]
  have e2:(rs++[(ix,q)]).getD k default=rs.getD k default:=by simp[List.getElem?_append_left h1]
  rw[e1,e2];exact h.e k h1
 obtain rfl:k=rs.length:=by omega
 have e1:(ys++[(⟨ix,g⟩:EntM)]).getD rs.length default=⟨ix,g⟩:=by rw[<-hl];simp
 have e2:(rs++[(ix,q)]).getD rs.length default=(ix,q):=by simp
 rw[e1,e2];exact⟨rfl,hg⟩⟩
theorem jQ:∀(ys:List EntM) (j:Nat),j<ys.length->(ys.getD j default).C=((ecs ys).drop (j*4)).take 4
 |[],j,h=>absurd h (Nat.not_lt_zero _)
 |e::ys,0,h=>rfl
 |e::ys,j+1,h=>by
  have h1:=jQ ys j (by simpa using h)
  show(ys.getD j default).C=((e.C++ecs ys).drop ((j+1)*4)).take 4
  have e4:e.C.length=4:=rfl
  rw[h1,Nat.succ_mul,Nat.add_comm (j*4) 4,List.drop_append,e4,Nat.add_sub_cancel_left,List.drop_of_length_le (show e.C.length<=4+j*4 by rw[e4];omega),List.nil_append]
theorem gD {i:Nat} (e:EntM):∀c∈e.C,eX i c=false:=λc hc=>dN (by
 rcases List.mem_cons.1 hc with rfl|hc
 ·rfl
 exact cP _ c hc)
theorem vN {T e:Nat} {l:List CV} {r:BL} (h:∀c∈l,cW c=true):ClB [true] ((T,e,l)::r):=λi T' es' l' hi hc=>by
 cases i with
 |zero=>injection hi with hi;injection hi with _ hi;injection hi with _ hi;subst hi;exact h
 |succ i=>cases hc
abbrev aJz:FuncId:=88
theorem bJf:Ent Tryz.prog aJz:=Ent.of func88 rfl kR
theorem bJg:Tryz.prog.funcs[aJz]? =some Tryz.f88:=func88
theorem aQc (x y:Sl EntM) {es fs:List En} {B:Nat} {q:FuncId} {op:Rat->Rat->Rat} (hx:Ev x.l es B) (hy:Ev y.l fs B) (bx:rbE es B) (bY:rbE fs B) (h1:1<=B) (ax:Asc es) (ay:Asc fs) (nx:es.length<=4096) (ny:fs.length<=4096) (h0:op 0 0=0)
 (hrb:∀a b,rb a B->rb b B->rb (op a b) 17179869184)
 (hop:∀(u v:RatM) {a b:Rat},Rq u a B->Rq v b B->rb a B->rb b B->Ctr Tryz.prog q [] [.a u.C,.a v.C] [] (λg:RatM=>⟨.a g.C,[],Cr g (op a b)⟩)):
 Ctr Tryz.prog aJz [] [.c (aO x),.c (aO y),.c (.f q [] [])] [] (λys:List EntM=>⟨.c (.s 0 ys.length),[(65,4,ecs ys)],∃rs,Ek ys rs∧MgR op es fs rs⟩):=by
 have lx:=hx.ln
 have ly:=hy.ln
 refine aX gT bJf bJg rfl rfl rfl bL ClB.nil (aA gT mxd ⟨max (x.l.length) (y.l.length),⟨rfl,by show max (x.l.length:Int) (y.l.length:Int)=_;omega,by show 64*_<=_;omega,by simp only[maxLen];omega⟩,?_⟩)
 refine bV (λt=>!Nat.beq t 2) (λg:Nat×Nat×Option Addr×Nat×Option Addr×Nat×List EntM=>[(7,.c (.s 0 g.2.2.2.2.2.2.length)),(0,.c (aO ⟨g.2.2.1,g.2.2.2.1,x.l.drop g.1⟩)),(1,.c (aO ⟨g.2.2.2.2.1,g.2.2.2.2.2.1,y.l.drop g.2.1⟩))]) (λg=>[(65,4,ecs g.2.2.2.2.2.2)]) (λ_=>[]) (λg=>g.1<=es.length∧g.2.1<=fs.length∧g.2.2.2.2.2.2.length<=g.1+g.2.1∧∃rs ps,Mg op es fs (es.drop g.1) (fs.drop g.2.1) rs ps∧Ek g.2.2.2.2.2.2 rs) (λg=>es.length+fs.length-(g.1+g.2.1)) λhM=>⟨bA hM (0,0,x.A,x.c,y.A,y.c,[]) ⟨Nat.zero_le _,Nat.zero_le _,Nat.zero_le _,[],[],Mg.start ax ay,rfl,λk hk=>absurd hk (Nat.not_lt_zero _)⟩ rfl rfl trivial ⟨rfl,rfl,rfl⟩ bL (scB.cons (fA _) scB.nil) rfl,λ⟨i,j,A1,c1,A2,c2,ys⟩ ⟨hi,hj,hys,rs,ps,hmg,hek⟩=>Sd.sq (aA gT mxd ⟨λh2=>aA gT mxd (Sd.blk (Sd.sq (aA gT mxd (Sd.sq (aA gT mxd ?_))))),λh2=>aA gT mxd ?_⟩)⟩
 all_goals
  replace hi:i<=es.length:=hi
  replace hj:j<=fs.length:=hj
  replace hys:ys.length<=i+j:=hys
  replace hmg:Mg op es fs (es.drop i) (fs.drop j) rs ps:=hmg
  replace hek:Ek ys rs:=hek
  have la:(x.l.drop i).length=es.length-i:=by rw[List.length_drop,lx]
  have lb:(y.l.drop j).length=fs.length-j:=by rw[List.length_drop,ly]
 ·replace h2:(0:Int)<((x.l.drop i).length:Nat)∨(0:Int)<((y.l.drop j).length:Nat):=h2
  show Sd _ _ _ _ _ _
  refine eZ tSd (l:=pE) 1 (default:RatM).C rfl rfl aBy (eZ tSd (l:=pE) 2 (default:RatM).C rfl rfl aBy ?_)
  refine Sd.cut (σ:=Nat×Nat×Option Addr×Nat×Option Addr×Nat×Int×RatM×RatM) (λg=>⟨[(7,.c (.s 0 ys.length)),(0,.c (aO ⟨g.2.2.1,g.2.2.2.1,x.l.drop g.1⟩)),(1,.c (aO ⟨g.2.2.2.2.1,g.2.2.2.2.2.1,y.l.drop g.2.1⟩)),(8,.c (iC g.2.2.2.2.2.2.1)),(9,.c (.p 1 0)),(10,.c (.p 2 0))]++[(2,.c (.f q [] []))],[],[(65,4,ecs ys),(51,0,g.2.2.2.2.2.2.2.1.C),(51,0,g.2.2.2.2.2.2.2.2.C)],[]⟩) (λg=>aBx es fs B i j g.1 g.2.1 g.2.2.2.2.2.2.1 g.2.2.2.2.2.2.2.1 g.2.2.2.2.2.2.2.2) (aA gT mxd ?_) λ⟨i',j',A3,c3,A4,c4,ix,u,v⟩ hs=>aA gT mxd ?_
  ·refine⟨.seq (sq 99 (List.range 19)),by kernel_rfl,0,λhq=>⟨rfl,?_⟩,0,λhq=>⟨rfl,?_⟩,⟨λhc=>aA gT mxd ?_,λhc=>aA gT mxd ?_⟩⟩
   ·replace hq:((0:Int)<((x.l.drop i).length:Nat))∧¬(((y.l.drop j).length:Nat):Int)=0:=hq
    show 0<(x.l.drop i).length
    omega
   ·replace hq:((0:Int)<((x.l.drop i).length:Nat))∧¬(((y.l.drop j).length:Nat):Int)=0:=hq
    show 0<(y.l.drop j).length
    omega
   ·replace hc:(((y.l.drop j).length:Nat):Int)=0∨((0:Int)<((x.l.drop i).length:Nat))∧((x.l.drop i).getD 0 default).ix<=((y.l.drop j).getD 0 default).ix:=hc
    have hil:i<es.length:=by omega
    have l1:0<(x.l.drop i).length:=by omega
    refine⟨.seq (sq 9 (List.range 10)),by kernel_rfl,0,⟨rfl,l1⟩,0,⟨rfl,l1⟩,1,⟨rfl,l1⟩,0,λhq=>⟨rfl,?_⟩,⟨λhd=>aA gT mxd ?_,λhd=>aA gT mxd ?_⟩⟩
    ·replace hq:(0:Int)<((y.l.drop j).length:Nat):=hq
     show 0<(y.l.drop j).length
     omega
    ·replace hd:(0:Int)<((y.l.drop j).length:Nat)∧((y.l.drop j).getD 0 default).ix=((x.l.drop i).getD 0 default).ix:=hd
     have hs:=aQa hx hy bx bY (i:=i) (j:=j) hil oM (by rw[hH,hH,(hx.e i hil).1,(hy.e j oM).1] at hd;exact hd.2.symm)
     have l2:0<(y.l.drop j).length:=by omega
     exact⟨0,⟨rfl,l2⟩,1,⟨rfl,l2⟩,bA hM (chg:=λg:Nat×Nat×Option Addr×Nat×Option Addr×Nat×Int×RatM×RatM=>[(7,.c (.s 0 ys.length)),(0,.c (aO ⟨g.2.2.1,g.2.2.2.1,x.l.drop g.1⟩)),(1,.c (aO ⟨g.2.2.2.2.1,g.2.2.2.2.2.1,y.l.drop g.2.1⟩)),(8,.c (iC g.2.2.2.2.2.2.1)),(9,.c (.p 1 0)),(10,.c (.p 2 0))]) (bls:=λg:Nat×Nat×Option Addr×Nat×Option Addr×Nat×Int×RatM×RatM=>[(65,4,ecs ys),(51,0,g.2.2.2.2.2.2.2.1.C),(51,0,g.2.2.2.2.2.2.2.2.C)]) (fls:=λ_=>[]) (i+1,j+1,slA A1 c1 1 4,c1-1,slA A2 c2 1 4,c2-1,((x.l.drop i).getD 0 default).ix,((x.l.drop i).getD 0 default).v,((y.l.drop j).getD 0 default).v) hs rfl ⟨rfl,rfl,rfl⟩ trivial ⟨rfl,jE x.l i _ _,jE y.l j _ _,rfl,rfl,rfl⟩ bL (scB.cons (fA _) (scB.cons rfl (scB.cons rfl scB.nil))) rfl⟩
    replace hd:¬((0:Int)<((y.l.drop j).length:Nat)∧((y.l.drop j).getD 0 default).ix=((x.l.drop i).getD 0 default).ix):=hd
    have hs:=aPz hx bx h1 hj (i:=i) (fs:=fs) hil (by
     rcases Nat.lt_or_ge j fs.length with h|h
     ·rw[hH,hH,(hx.e i hil).1,(hy.e j h).1] at hd hc
      exact .inr ⟨h,by omega⟩
     exact .inl oM)
    exact bA hM (chg:=λg:Nat×Nat×Option Addr×Nat×Option Addr×Nat×Int×RatM×RatM=>[(7,.c (.s 0 ys.length)),(0,.c (aO ⟨g.2.2.1,g.2.2.2.1,x.l.drop g.1⟩)),(1,.c (aO ⟨g.2.2.2.2.1,g.2.2.2.2.2.1,y.l.drop g.2.1⟩)),(8,.c (iC g.2.2.2.2.2.2.1)),(9,.c (.p 1 0)),(10,.c (.p 2 0))]) (bls:=λg:Nat×Nat×Option Addr×Nat×Option Addr×Nat×Int×RatM×RatM=>[(65,4,ecs ys),(51,0,g.2.2.2.2.2.2.2.1.C),(51,0,g.2.2.2.2.2.2.2.2.C)]) (fls:=λ_=>[]) (i+1,j,slA A1 c1 1 4,c1-1,A2,c2,((x.l.drop i).getD 0 default).ix,((x.l.drop i).getD 0 default).v,default) hs rfl ⟨rfl,rfl,rfl⟩ trivial ⟨rfl,jE x.l i _ _,rfl,rfl,rfl,rfl⟩ bL (scB.cons (fA _) (scB.cons rfl (scB.cons rfl scB.nil))) rfl
   replace hc:¬((((y.l.drop j).length:Nat):Int)=0∨((0:Int)<((x.l.drop i).length:Nat))∧((x.l.drop i).getD 0 default).ix<=((y.l.drop j).getD 0 default).ix):=hc
   have hjl:j<fs.length:=by omega
   have hs:=aQb hy bY h1 hi (j:=j) (es:=es) hjl (by
    rcases Nat.lt_or_ge i es.length with h|h
    ·rw[hH,hH,(hx.e i h).1,(hy.e j hjl).1] at hc
     exact .inr ⟨h,by omega⟩
    exact .inl oM)
   have l2:0<(y.l.drop j).length:=by omega
   exact⟨.seq (sq 9 (List.range 10)),by kernel_rfl,0,⟨rfl,l2⟩,0,⟨rfl,l2⟩,1,⟨rfl,l2⟩,bA hM (chg:=λg:Nat×Nat×Option Addr×Nat×Option Addr×Nat×Int×RatM×RatM=>[(7,.c (.s 0 ys.length)),(0,.c (aO ⟨g.2.2.1,g.2.2.2.1,x.l.drop g.1⟩)),(1,.c (aO ⟨g.2.2.2.2.1,g.2.2.2.2.2.1,y.l.drop g.2.1⟩)),(8,.c (iC g.2.2.2.2.2.2.1)),(9,.c (.p 1 0)),(10,.c (.p 2 0))]) (bls:=λg:Nat×Nat×Option Addr×Nat×Option Addr×Nat×Int×RatM×RatM=>[(65,4,ecs ys),(51,0,g.2.2.2.2.2.2.2.1.C),(51,0,g.2.2.2.2.2.2.2.2.C)]) (fls:=λ_=>[]) (i,j+1,A1,c1,slA A2 c2 1 4,c2-1,((y.l.drop j).getD 0 default).ix,default,((y.l.drop j).getD 0 default).v) hs rfl ⟨rfl,rfl,rfl⟩ trivial ⟨rfl,rfl,jE y.l j _ _,rfl,rfl,rfl⟩ bL (scB.cons (fA _) (scB.cons rfl (scB.cons rfl scB.nil))) rfl⟩
  obtain⟨a,b,hst,qu,qv,ra,rb',hi',hj',hlt⟩:=hs
  replace hst:Stp (es.drop i) (fs.drop j) ix a b (es.drop i') (fs.drop j'):=hst
  replace qu:Rq u a B:=qu
  replace qv:Rq v b B:=qv
  replace hi':i'<=es.length:=hi'
  replace hj':j'<=fs.length:=hj'
  replace hlt:i+j<i'+j':=hlt
  obtain⟨m1,m2⟩:=hmg.step hst
  refine⟨[],hop u v qu qv ra rb',rfl,rfl,rfl,λg hg=>⟨[],iJ g (hg.rq (hrb a b ra rb')),rfl,rfl,rfl,λ_ _=>⟨λhz=>aA gT mxd ?_,λhz=>aA gT mxd ?_⟩⟩⟩
  ·replace hz:¬sgn (op a b).num=0:=hz
   have hne:op a b≠0:=λh=>hz (dL.2 (Rat.num_eq_zero.2 h))
   refine⟨⟨rfl,by show ys.length*4=(ecs ys).length;rw[dH],by show ys.length+1<=maxLen;simp only[maxLen];omega,by show(ys.length+1)*64<=_;omega,λc hc=>?_⟩,gD ⟨ix,g⟩,bA hM (chg:=λg:Nat×Nat×Option Addr×Nat×Option Addr×Nat×List EntM=>[(7,.c (.s 0 g.2.2.2.2.2.2.length)),(0,.c (aO ⟨g.2.2.1,g.2.2.2.1,x.l.drop g.1⟩)),(1,.c (aO ⟨g.2.2.2.2.1,g.2.2.2.2.2.1,y.l.drop g.2.1⟩))]) (bls:=λg:Nat×Nat×Option Addr×Nat×Option Addr×Nat×List EntM=>[(65,4,ecs g.2.2.2.2.2.2)]) (fls:=λ_=>[]) (i',j',A3,c3,A4,c4,ys++[⟨ix,g⟩]) ⟨⟨hi',hj',?_,_,_,m2 hne,oD hek hg⟩,?_⟩ rfl (by show(65,4,ecs ys++(⟨ix,g⟩:EntM).C)=_;rw[iQ]) trivial ⟨?_,rfl,rfl⟩ bL (scB.cons (fA _) scB.nil) rfl⟩
   ·rcases List.mem_append.1 hc with hc|hc
    ·exact dN (dM ys c hc)
    exact gD ⟨ix,g⟩ c hc
   ·show(ys++[(⟨ix,g⟩:EntM)]).length<=i'+j'
    rw[List.length_append,List.length_singleton];omega
   ·show es.length+fs.length-(i'+j')<es.length+fs.length-(i+j)
    omega
   show ys.length+1=(ys++[(⟨ix,g⟩:EntM)]).length
   rw[List.length_append,List.length_singleton]
  replace hz:¬¬sgn (op a b).num=0:=hz
  have h0':op a b=0:=Rat.num_eq_zero.1 (dL.1 (Decidable.not_not.1 hz))
  refine bA hM (chg:=λg:Nat×Nat×Option Addr×Nat×Option Addr×Nat×List EntM=>[(7,.c (.s 0 g.2.2.2.2.2.2.length)),(0,.c (aO ⟨g.2.2.1,g.2.2.2.1,x.l.drop g.1⟩)),(1,.c (aO ⟨g.2.2.2.2.1,g.2.2.2.2.2.1,y.l.drop g.2.1⟩))]) (bls:=λg:Nat×Nat×Option Addr×Nat×Option Addr×Nat×List EntM=>[(65,4,ecs g.2.2.2.2.2.2)]) (fls:=λ_=>[]) (i',j',A3,c3,A4,c4,ys) ⟨⟨hi',hj',show ys.length<=i'+j' by omega,_,_,m1 h0',hek⟩,?_⟩ rfl rfl trivial ⟨rfl,rfl,rfl⟩ bL (scB.cons (fA _) scB.nil) rfl
  show es.length+fs.length-(i'+j')<es.length+fs.length-(i+j)
  omega
 replace h2:¬((0:Int)<((x.l.drop i).length:Nat)∨(0:Int)<((y.l.drop j).length:Nat)):=h2
 obtain rfl:i=es.length:=by omega
 obtain rfl:j=fs.length:=by omega
 rw[List.drop_length,List.drop_length] at hmg
 obtain⟨f1,f2,f3⟩:=hmg.fin h0
 exact aA gT mxd ⟨ys,⟨rs,hek,f1,f2,f3⟩,dU rfl rfl bL (scB.cons (fA _) scB.nil) rfl oK⟩
theorem bDa (x y:Sl EntM) {es fs:List En} {B:Nat} {q:FuncId} {op:Rat->Rat->Rat} (hx:Ev x.l es B) (hy:Ev y.l fs B) (bx:rbE es B) (bY:rbE fs B) (h1:1<=B) (ax:Asc es) (ay:Asc fs) (nx:es.length<=4096) (ny:fs.length<=4096) (h0:op 0 0=0)
 (hrb:∀a b,rb a B->rb b B->rb (op a b) 17179869184)
 (hop:∀(u v:RatM) {a b:Rat},Rq u a B->Rq v b B->rb a B->rb b B->Ctr Tryz.prog q [] [.a u.C,.a v.C] [] (λg:RatM=>⟨.a g.C,[],Cr g (op a b)⟩)):
 Ctr Tryz.prog aJz [] [.c (aO x),.c (aO y),.c (.f q [] [])] [] (λg:Sl EntM=>⟨.c (aO g),[],∃rs,Ek g.l rs∧MgR op es fs rs⟩):=
 CtrF.gt (aQc x y hx hy bx bY h1 ax ay nx ny h0 hrb hop) λys hys _=>yP tGt 0 0 (λj=>(ys.getD j default).C) rfl rfl (jQ ys) (dH ys).symm bL (dM ys) bL λA c _ _=>bA (M:=λ_=>true) (base:=[]) (chg:=λg:Sl EntM=>[(0,.c (aO g))]) (bls:=λ_=>[]) (fls:=λ_=>[]) (λt d ht=>by cases ht) ⟨A,c,ys⟩ ⟨hys,oK⟩ rfl trivial trivial rfl bL scB.nil rfl
theorem bDb (x y:Sl EntM) (f:RatM) {es fs:List En} {B:Nat} {q:FuncId} {op:Rat->Rat->Rat} (hx:Ev x.l es B) (hy:Ev y.l fs B) (bx:rbE es B) (bY:rbE fs B) (h1:1<=B) (ax:Asc es) (ay:Asc fs) (nx:es.length<=4096) (ny:fs.length<=4096) (h0:op 0 0=0)
 (hrb:∀a b,rb a B->rb b B->rb (op a b) 17179869184)
 (hop:∀(u v:RatM) {a b:Rat},Rq u a B->Rq v b B->rb a B->rb b B->Ctr Tryz.prog q [true] [.a u.C,.a v.C,.c (.p 0 0)] [(51,0,f.C)] (λg:RatM=>⟨.a g.C,[(51,0,f.C)],Cr g (op a b)⟩)):
 Ctr Tryz.prog aJz [true] [.c (aO x),.c (aO y),.c (.f q [] [(0,0)])] [(51,0,f.C)] (λys:List EntM=>⟨.c (.s 1 ys.length),(51,0,f.C)::[(65,4,ecs ys)],∃rs,Ek ys rs∧MgR op es fs rs⟩):=by
 have lx:=hx.ln
 have ly:=hy.ln
 refine aX gT bJf bJg rfl rfl rfl bL (ClB.one rfl) (aA gT mxd ⟨max (x.l.length) (y.l.length),⟨rfl,by show max (x.l.length:Int) (y.l.length:Int)=_;omega,by show 64*_<=_;omega,by simp only[maxLen];omega⟩,?_⟩)
 refine bV (λt=>!Nat.beq t 2) (λg:Nat×Nat×Option Addr×Nat×Option Addr×Nat×List EntM=>[(7,.c (.s 1 g.2.2.2.2.2.2.length)),(0,.c (aO ⟨g.2.2.1,g.2.2.2.1,x.l.drop g.1⟩)),(1,.c (aO ⟨g.2.2.2.2.1,g.2.2.2.2.2.1,y.l.drop g.2.1⟩))]) (λg=>(51,0,f.C)::[(65,4,ecs g.2.2.2.2.2.2)]) (λ_=>[]) (λg=>g.1<=es.length∧g.2.1<=fs.length∧g.2.2.2.2.2.2.length<=g.1+g.2.1∧∃rs ps,Mg op es fs (es.drop g.1) (fs.drop g.2.1) rs ps∧Ek g.2.2.2.2.2.2 rs) (λg=>es.length+fs.length-(g.1+g.2.1)) λhM=>⟨bA hM (0,0,x.A,x.c,y.A,y.c,[]) ⟨Nat.zero_le _,Nat.zero_le _,Nat.zero_le _,[],[],Mg.start ax ay,rfl,λk hk=>absurd hk (Nat.not_lt_zero _)⟩ rfl ⟨rfl,rfl⟩ trivial ⟨rfl,rfl,rfl⟩ bL (scB.cons rfl (scB.cons (fA _) scB.nil)) rfl,λ⟨i,j,A1,c1,A2,c2,ys⟩ ⟨hi,hj,hys,rs,ps,hmg,hek⟩=>Sd.sq (aA gT mxd ⟨λh2=>aA gT mxd (Sd.blk (Sd.sq (aA gT mxd (Sd.sq (aA gT mxd ?_))))),λh2=>aA gT mxd ?_⟩)⟩
 all_goals
  replace hi:i<=es.length:=hi
  replace hj:j<=fs.length:=hj
  replace hys:ys.length<=i+j:=hys
  replace hmg:Mg op es fs (es.drop i) (fs.drop j) rs ps:=hmg
  replace hek:Ek ys rs:=hek
  have la:(x.l.drop i).length=es.length-i:=by rw[List.length_drop,lx]
  have lb:(y.l.drop j).length=fs.length-j:=by rw[List.length_drop,ly]
 ·replace h2:(0:Int)<((x.l.drop i).length:Nat)∨(0:Int)<((y.l.drop j).length:Nat):=h2
  show Sd _ _ _ _ _ _
  refine eZ tSd (l:=pE) 2 (default:RatM).C rfl rfl aBy (eZ tSd (l:=pE) 3 (default:RatM).C rfl rfl aBy ?_)
  refine Sd.cut (σ:=Nat×Nat×Option Addr×Nat×Option Addr×Nat×Int×RatM×RatM) (λg=>⟨[(7,.c (.s 1 ys.length)),(0,.c (aO ⟨g.2.2.1,g.2.2.2.1,x.l.drop g.1⟩)),(1,.c (aO ⟨g.2.2.2.2.1,g.2.2.2.2.2.1,y.l.drop g.2.1⟩)),(8,.c (iC g.2.2.2.2.2.2.1)),(9,.c (.p 2 0)),(10,.c (.p 3 0))]++[(2,.c (.f q [] [(0,0)]))],[],(51,0,f.C)::[(65,4,ecs ys),(51,0,g.2.2.2.2.2.2.2.1.C),(51,0,g.2.2.2.2.2.2.2.2.C)],[]⟩) (λg=>aBx es fs B i j g.1 g.2.1 g.2.2.2.2.2.2.1 g.2.2.2.2.2.2.2.1 g.2.2.2.2.2.2.2.2) (aA gT mxd ?_) λ⟨i',j',A3,c3,A4,c4,ix,u,v⟩ hs=>aA gT mxd ?_
  ·refine⟨.seq (sq 99 (List.range 19)),by kernel_rfl,0,λhq=>⟨rfl,?_⟩,0,λhq=>⟨rfl,?_⟩,⟨λhc=>aA gT mxd ?_,λhc=>aA gT mxd ?_⟩⟩
   ·replace hq:((0:Int)<((x.l.drop i).length:Nat))∧¬(((y.l.drop j).length:Nat):Int)=0:=hq
    show 0<(x.l.drop i).length
    omega
   ·replace hq:((0:Int)<((x.l.drop i).length:Nat))∧¬(((y.l.drop j).length:Nat):Int)=0:=hq
    show 0<(y.l.drop j).length
    omega
   ·replace hc:(((y.l.drop j).length:Nat):Int)=0∨((0:Int)<((x.l.drop i).length:Nat))∧((x.l.drop i).getD 0 default).ix<=((y.l.drop j).getD 0 default).ix:=hc
    have hil:i<es.length:=by omega
    have l1:0<(x.l.drop i).length:=by omega
    refine⟨.seq (sq 9 (List.range 10)),by kernel_rfl,0,⟨rfl,l1⟩,0,⟨rfl,l1⟩,1,⟨rfl,l1⟩,0,λhq=>⟨rfl,?_⟩,⟨λhd=>aA gT mxd ?_,λhd=>aA gT mxd ?_⟩⟩
    ·replace hq:(0:Int)<((y.l.drop j).length:Nat):=hq
     show 0<(y.l.drop j).length
     omega
    ·replace hd:(0:Int)<((y.l.drop j).length:Nat)∧((y.l.drop j).getD 0 default).ix=((x.l.drop i).getD 0 default).ix:=hd
     have hs:=aQa hx hy bx bY (i:=i) (j:=j) hil oM (by rw[hH,hH,(hx.e i hil).1,(hy.e j oM).1] at hd;exact hd.2.symm)
     have l2:0<(y.l.drop j).length:=by omega
     exact⟨0,⟨rfl,l2⟩,1,⟨rfl,l2⟩,bA hM (chg:=λg:Nat×Nat×Option Addr×Nat×Option Addr×Nat×Int×RatM×RatM=>[(7,.c (.s 1 ys.length)),(0,.c (aO ⟨g.2.2.1,g.2.2.2.1,x.l.drop g.1⟩)),(1,.c (aO ⟨g.2.2.2.2.1,g.2.2.2.2.2.1,y.l.drop g.2.1⟩)),(8,.c (iC g.2.2.2.2.2.2.1)),(9,.c (.p 2 0)),(10,.c (.p 3 0))]) (bls:=λg:Nat×Nat×Option Addr×Nat×Option Addr×Nat×Int×RatM×RatM=>(51,0,f.C)::[(65,4,ecs ys),(51,0,g.2.2.2.2.2.2.2.1.C),(51,0,g.2.2.2.2.2.2.2.2.C)]) (fls:=λ_=>[]) (i+1,j+1,slA A1 c1 1 4,c1-1,slA A2 c2 1 4,c2-1,((x.l.drop i).getD 0 default).ix,((x.l.drop i).getD 0 default).v,((y.l.drop j).getD 0 default).v) hs rfl ⟨rfl,rfl,rfl,rfl⟩ trivial ⟨rfl,jE x.l i _ _,jE y.l j _ _,rfl,rfl,rfl⟩ bL (scB.cons rfl (scB.cons (fA _) (scB.cons rfl (scB.cons rfl scB.nil)))) rfl⟩
    replace hd:¬((0:Int)<((y.l.drop j).length:Nat)∧((y.l.drop j).getD 0 default).ix=((x.l.drop i).getD 0 default).ix):=hd
    have hs:=aPz hx bx h1 hj (i:=i) (fs:=fs) hil (by
     rcases Nat.lt_or_ge j fs.length with h|h
     ·rw[hH,hH,(hx.e i hil).1,(hy.e j h).1] at hd hc
      exact .inr ⟨h,by omega⟩
     exact .inl oM)
    exact bA hM (chg:=λg:Nat×Nat×Option Addr×Nat×Option Addr×Nat×Int×RatM×RatM=>[(7,.c (.s 1 ys.length)),(0,.c (aO ⟨g.2.2.1,g.2.2.2.1,x.l.drop g.1⟩)),(1,.c (aO ⟨g.2.2.2.2.1,g.2.2.2.2.2.1,y.l.drop g.2.1⟩)),(8,.c (iC g.2.2.2.2.2.2.1)),(9,.c (.p 2 0)),(10,.c (.p 3 0))]) (bls:=λg:Nat×Nat×Option Addr×Nat×Option Addr×Nat×Int×RatM×RatM=>(51,0,f.C)::[(65,4,ecs ys),(51,0,g.2.2.2.2.2.2.2.1.C),(51,0,g.2.2.2.2.2.2.2.2.C)]) (fls:=λ_=>[]) (i+1,j,slA A1 c1 1 4,c1-1,A2,c2,((x.l.drop i).getD 0 default).ix,((x.l.drop i).getD 0 default).v,default) hs rfl ⟨rfl,rfl,rfl,rfl⟩ trivial ⟨rfl,jE x.l i _ _,rfl,rfl,rfl,rfl⟩ bL (scB.cons rfl (scB.cons (fA _) (scB.cons rfl (scB.cons rfl scB.nil)))) rfl
   replace hc:¬((((y.l.drop j).length:Nat):Int)=0∨((0:Int)<((x.l.drop i).length:Nat))∧((x.l.drop i).getD 0 default).ix<=((y.l.drop j).getD 0 default).ix):=hc
   have hjl:j<fs.length:=by omega
   have hs:=aQb hy bY h1 hi (j:=j) (es:=es) hjl (by
    rcases Nat.lt_or_ge i es.length with h|h
    ·rw[hH,hH,(hx.e i h).1,(hy.e j hjl).1] at hc
     exact .inr ⟨h,by omega⟩
    exact .inl oM)
   have l2:0<(y.l.drop j).length:=by omega
   exact⟨.seq (sq 9 (List.range 10)),by kernel_rfl,0,⟨rfl,l2⟩,0,⟨rfl,l2⟩,1,⟨rfl,l2⟩,bA hM (chg:=λg:Nat×Nat×Option Addr×Nat×Option Addr×Nat×Int×RatM×RatM=>[(7,.c (.s 1 ys.length)),(0,.c (aO ⟨g.2.2.1,g.2.2.2.1,x.l.drop g.1⟩)),(1,.c (aO ⟨g.2.2.2.2.1,g.2.2.2.2.2.1,y.l.drop g.2.1⟩)),(8,.c (iC g.2.2.2.2.2.2.1)),(9,.c (.p 2 0)),(10,.c (.p 3 0))]) (bls:=λg:Nat×Nat×Option Addr×Nat×Option Addr×Nat×Int×RatM×RatM=>(51,0,f.C)::[(65,4,ecs ys),(51,0,g.2.2.2.2.2.2.2.1.C),(51,0,g.2.2.2.2.2.2.2.2.C)]) (fls:=λ_=>[]) (i,j+1,A1,c1,slA A2 c2 1 4,c2-1,((y.l.drop j).getD 0 default).ix,default,((y.l.drop j).getD 0 default).v) hs rfl ⟨rfl,rfl,rfl,rfl⟩ trivial ⟨rfl,rfl,jE y.l j _ _,rfl,rfl,rfl⟩ bL (scB.cons rfl (scB.cons (fA _) (scB.cons rfl (scB.cons rfl scB.nil)))) rfl⟩
  obtain⟨a,b,hst,qu,qv,ra,rb',hi',hj',hlt⟩:=hs
  replace hst:Stp (es.drop i) (fs.drop j) ix a b (es.drop i') (fs.drop j'):=hst
  replace qu:Rq u a B:=qu
  replace qv:Rq v b B:=qv
  replace hi':i'<=es.length:=hi'
  replace hj':j'<=fs.length:=hj'
  replace hlt:i+j<i'+j':=hlt
  obtain⟨m1,m2⟩:=hmg.step hst
  refine⟨_,rfl,[0],hop u v qu qv ra rb',rfl,rfl,rfl,λg hg=>⟨[],iJ g (hg.rq (hrb a b ra rb')),rfl,rfl,rfl,λ_ _=>⟨λhz=>aA gT mxd ?_,λhz=>aA gT mxd ?_⟩⟩⟩
  ·replace hz:¬sgn (op a b).num=0:=hz
   have hne:op a b≠0:=λh=>hz (dL.2 (Rat.num_eq_zero.2 h))
   refine⟨⟨rfl,by show ys.length*4=(ecs ys).length;rw[dH],by show ys.length+1<=maxLen;simp only[maxLen];omega,by show(ys.length+1)*64<=_;omega,λc hc=>?_⟩,gD ⟨ix,g⟩,bA hM (chg:=λg:Nat×Nat×Option Addr×Nat×Option Addr×Nat×List EntM=>[(7,.c (.s 1 g.2.2.2.2.2.2.length)),(0,.c (aO ⟨g.2.2.1,g.2.2.2.1,x.l.drop g.1⟩)),(1,.c (aO ⟨g.2.2.2.2.1,g.2.2.2.2.2.1,y.l.drop g.2.1⟩))]) (bls:=λg:Nat×Nat×Option Addr×Nat×Option Addr×Nat×List EntM=>(51,0,f.C)::[(65,4,ecs g.2.2.2.2.2.2)]) (fls:=λ_=>[]) (i',j',A3,c3,A4,c4,ys++[⟨ix,g⟩]) ⟨⟨hi',hj',?_,_,_,m2 hne,oD hek hg⟩,?_⟩ rfl ⟨rfl,by show(65,4,ecs ys++(⟨ix,g⟩:EntM).C)=_;rw[iQ]⟩ trivial ⟨?_,rfl,rfl⟩ bL (scB.cons rfl (scB.cons (fA _) scB.nil)) rfl⟩
   ·rcases List.mem_append.1 hc with hc|hc
    ·exact dN (dM ys c hc)
    exact gD ⟨ix,g⟩ c hc
   ·show(ys++[(⟨ix,g⟩:EntM)]).length<=i'+j'
    rw[List.length_append,List.length_singleton];omega
   ·show es.length+fs.length-(i'+j')<es.length+fs.length-(i+j)
    omega
   show ys.length+1=(ys++[(⟨ix,g⟩:EntM)]).length
   rw[List.length_append,List.length_singleton]
  replace hz:¬¬sgn (op a b).num=0:=hz
  have h0':op a b=0:=Rat.num_eq_zero.1 (dL.1 (Decidable.not_not.1 hz))
  refine bA hM (chg:=λg:Nat×Nat×Option Addr×Nat×Option Addr×Nat×List EntM=>[(7,.c (.s 1 g.2.2.2.2.2.2.length)),(0,.c (aO ⟨g.2.2.1,g.2.2.2.1,x.l.drop g.1⟩)),(1,.c (aO ⟨g.2.2.2.2.1,g.2.2.2.2.2.1,y.l.drop g.2.1⟩))]) (bls:=λg:Nat×Nat×Option Addr×Nat×Option Addr×Nat×List EntM=>(51,0,f.C)::[(65,4,ecs g.2.2.2.2.2.2)]) (fls:=λ_=>[]) (i',j',A3,c3,A4,c4,ys) ⟨⟨hi',hj',show ys.length<=i'+j' by omega,_,_,m1 h0',hek⟩,?_⟩ rfl ⟨rfl,rfl⟩ trivial ⟨rfl,rfl,rfl⟩ bL (scB.cons rfl (scB.cons (fA _) scB.nil)) rfl
  show es.length+fs.length-(i'+j')<es.length+fs.length-(i+j)
  omega
 replace h2:¬((0:Int)<((x.l.drop i).length:Nat)∨(0:Int)<((y.l.drop j).length:Nat)):=h2
 obtain rfl:i=es.length:=by omega
 obtain rfl:j=fs.length:=by omega
 rw[List.drop_length,List.drop_length] at hmg
 obtain⟨f1,f2,f3⟩:=hmg.fin h0
 exact aA gT mxd ⟨ys,⟨rs,hek,f1,f2,f3⟩,dU rfl ⟨rfl,rfl⟩ bL (scB.cons rfl (scB.cons (fA _) scB.nil)) rfl (vN (cP f))⟩
theorem bDc (x y:Sl EntM) (f:RatM) {es fs:List En} {B:Nat} {q:FuncId} {op:Rat->Rat->Rat} (hx:Ev x.l es B) (hy:Ev y.l fs B) (bx:rbE es B) (bY:rbE fs B) (h1:1<=B) (ax:Asc es) (ay:Asc fs) (nx:es.length<=4096) (ny:fs.length<=4096) (h0:op 0 0=0)
 (hrb:∀a b,rb a B->rb b B->rb (op a b) 17179869184)
 (hop:∀(u v:RatM) {a b:Rat},Rq u a B->Rq v b B->rb a B->rb b B->Ctr Tryz.prog q [true] [.a u.C,.a v.C,.c (.p 0 0)] [(51,0,f.C)] (λg:RatM=>⟨.a g.C,[(51,0,f.C)],Cr g (op a b)⟩)):
 Ctr Tryz.prog aJz [true] [.c (aO x),.c (aO y),.c (.f q [] [(0,0)])] [(51,0,f.C)] (λg:Sl EntM=>⟨.c (aO g),[(51,0,f.C)],∃rs,Ek g.l rs∧MgR op es fs rs⟩):=
 CtrF.gt (bDb x y f hx hy bx bY h1 ax ay nx ny h0 hrb hop) λys hys _=>yP tGt 0 1 (λj=>(ys.getD j default).C) rfl rfl (jQ ys) (dH ys).symm bL (dM ys) bL λA c _ _=>bA (M:=λ_=>true) (base:=[]) (chg:=λg:Sl EntM=>[(0,.c (aO g))]) (bls:=λ_=>[(51,0,f.C)]) (fls:=λ_=>[]) (λt d ht=>by cases ht) ⟨A,c,ys⟩ ⟨hys,vN (cP f)⟩ rfl rfl trivial rfl bL (scB.cons rfl scB.nil) rfl
theorem gH {a b:Rat} {B B':Nat} (ha:rb a B) (hb:rb b B'):rb (a*b) (B+B'):=by
 have h:=uL a b
 simp only[cJ] at h
 obtain⟨a1,a2⟩:=ha
 obtain⟨b1,b2⟩:=hb
 exact⟨by omega,by omega⟩
theorem tJ {a b:Rat} {B B':Nat} (ha:rb a B) (hb:rb b B'):rb (a+b) (B+B'+1):=by
 have h:=kV a b
 simp only[cJ] at h
 obtain⟨a1,a2⟩:=ha
 obtain⟨b1,b2⟩:=hb
 exact⟨by omega,by omega⟩
theorem tK {a b:Rat} {B B':Nat} (ha:rb a B) (hb:rb b B'):rb (a-b) (B+B'+1):=by
 rw[Rat.sub_eq_add_neg];exact tJ ha (yZ hb)
theorem _root_.Go.Vy.CtrF.args {P:Program} {q:FuncId} {cl:List Bool} {al al':List DV} {bl:BL} {fl:List Fam} {σ:Type} {R:σ->OutF} (h:CtrF P q cl al bl fl R) (hal:∀ρ n w vals,HL ρ n w al' vals->HL ρ n w al vals):CtrF P q cl al' bl fl R:=
 ⟨h.ent,h.clb,λρ w vals hv hD hF=>h.run ρ w vals (hal _ _ _ _ hv) hD hF⟩
theorem _root_.Go.Vy.CtrF.post {P:Program} {q:FuncId} {cl:List Bool} {al:List DV} {bl:BL} {fl:List Fam} {σ τ:Type} {R:σ->OutF} {R':τ->OutF} (h:CtrF P q cl al bl fl R) (φ:σ->τ) (hp:∀g,(R g).C->(R' (φ g)).C) (hd:∀g,(R' (φ g)).d=(R g).d∧(R' (φ g)).bl=(R g).bl∧(R' (φ g)).fl=(R g).fl):CtrF P q cl al bl fl R':=
 ⟨h.ent,h.clb,λρ w vals hv hD hF=>(h.run ρ w vals hv hD hF).mono λe w' ⟨v,he,g,ρ',c1,c2,c3,c4,c5⟩=>by
  obtain⟨d1,d2,d3⟩:=hd g
  exact⟨v,he,φ g,ρ',hp g c1,by rw[d2];exact c2,by rw[d1,d2];exact c3,by rw[d2];exact c4,by rw[d3];exact c5⟩⟩
abbrev aEn:FuncId:=51
theorem bDd:Ent Tryz.prog aEn:=Ent.of func51 rfl kR
theorem bDe:Tryz.prog.funcs[aEn]? =some Tryz.f51:=func51
theorem zD (x:Sl EntM) {es:List En} {B:Nat} (h:Ev x.l es B) (hb:rbE es B) (h1:1<=B) (hB:B<=17179869184) (ha:Asc es) (hz:uM es) (hn:es.length<=4096):Ctr Tryz.prog aEn [] [.c (aO x)] [] (λg:Sl EntM=>⟨.c (aO g),[],Ek g.l es⟩):=by
 have hm:=(bDa x cD (es:=es) (fs:=[]) (op:=λa _=>a) (q:=90) h ⟨rfl,λk hk=>absurd hk (Nat.not_lt_zero _)⟩ hb (λe he=>absurd he List.not_mem_nil) h1 ha List.Pairwise.nil hn (Nat.zero_le _) rfl (λa b h _=>h.le hB) (λu v {a b} hu _ _ _=>aYo u v (hu.le hB))).args (al':=[.c (aO x),.c (.v (.slice none 0 0)),.c (.f 90 [] [])]) λρ n w vals hv=>(by
  match vals,hv with
  |[v0,v1,v2],⟨h0,h1,h2,h3⟩=>exact⟨h0,.c (xE ρ n w v1 h1.inv_c),h2,h3⟩)
 refine aX gT bDd bDe rfl rfl rfl bL ClB.nil (aA gT mxd ⟨[],zC x h ha,rfl,rfl,rfl,λ_ _=>⟨[],hm,rfl,rfl,rfl,λg ⟨rs,h2,h3⟩=>⟨g,?_,aN rfl rfl trivial⟩⟩⟩)
 have e:rs=es:=kW rs es h3.a ha h3.z hz h3.g
 rw[<-e];exact h2
abbrev aQd:FuncId:=109
theorem bJh:Ent Tryz.prog aQd:=Ent.of func109 rfl kR
theorem bJi:Tryz.prog.funcs[aQd]? =some Tryz.f109:=func109
theorem bDf (x y:Sl EntM) (f:RatM) {es fs:List En} {q:Rat} {B Q:Nat} (hx:Ev x.l es B) (hy:Ev y.l fs B) (bx:rbE es B) (bY:rbE fs B) (h1:1<=B) (hf:Rq f q Q) (hq:rb q Q) (hB:B+(Q+B)+1<=17179869184) (ax:Asc es) (ay:Asc fs) (nx:es.length<=4096) (ny:fs.length<=4096):
 Ctr Tryz.prog aQd [] [.c (aO x),.a f.C,.c (aO y)] [] (λg:Sl EntM=>⟨.c (aO g),[],∃rs,Ek g.l rs∧MgR (λa b=>a+q*b) es fs rs⟩):=by
 refine aX gT bJh bJi rfl rfl rfl bL ClB.nil (aA gT mxd ⟨[],zC x hx ax,rfl,rfl,rfl,λ_ _=>⟨[],zC y hy ay,rfl,rfl,rfl,λ_ _=>⟨[0],bDc x y f (op:=λa b=>a+q*b) hx hy bx bY h1 ax ay nx ny (by show(0:Rat)+q*0=0;rw[Rat.mul_zero,Rat.add_zero]) (λa b ha hb=>(tJ ha (gH hq hb)).le) (λu v {a b} hu hv _ rb'=>bJe f u v (hf.le) (hu.le) (hv.le) ((gH hq rb').le)),rfl,rfl,rfl,λg hg=>⟨g,hg,aN rfl rfl trivial⟩⟩⟩⟩)
def cN (x:Sl RatM):CV:=x.R 3 RatM.C default
structure Rl (x:List RatM) (qs:List Rat):Prop where
 ln:x.length=qs.length
 e:∀k,k<qs.length->Cr (x.getD k default) (qs.getD k 0)
def rbL (qs:List Rat) (B:Nat):Prop:=∀q∈qs,rb q B
theorem gD0 {qs:List Rat} {k:Nat} (h:k<qs.length):qs.getD k 0∈qs:=by rw[gd h];exact List.getElem_mem h
theorem Rl.rq {x:List RatM} {qs:List Rat} {B k:Nat} (h:Rl x qs) (hb:rbL qs B) (hk:k<qs.length):Rq (x.getD k default) (qs.getD k 0) B:=(h.e k hk).rq (hb _ (gD0 hk))
def fdF (qs:List Rat):Nat->List En
 |0=>[]
 |k+1=>if qs.getD k 0=0 then fdF qs k else fdF qs k++[((k:Int),qs.getD k 0)]
theorem rO {qs:List Rat}:∀{k:Nat},∀e∈fdF qs k,∃i:Nat,i<k∧e=((i:Int),qs.getD i 0)∧e.2≠0
 |0,e,h=>absurd h List.not_mem_nil
 |k+1,e,h=>by
  unfold fdF at h
  split at h
  ·obtain⟨i,h1,h2⟩:=rO e h;exact⟨i,by omega,h2⟩
  next hq=>
  rcases List.mem_append.1 h with h|h
  ·obtain⟨i,h1,h2⟩:=rO e h;exact⟨i,by omega,h2⟩
  rw[List.mem_singleton.1 h];exact⟨k,by omega,rfl,hq⟩
theorem tL {qs:List Rat}:∀k,(fdF qs k).length<=k
 |0=>Nat.le_refl _
 |k+1=>by
  have:=tL (qs:=qs) k
  unfold fdF
  split
  ·omega
  rw[List.length_append,List.length_singleton];omega
theorem kF {qs:List Rat}:∀k,Asc (fdF qs k)
 |0=>List.Pairwise.nil
 |k+1=>by
  unfold fdF
  split
  ·exact kF k
  refine List.pairwise_append.2 ⟨kF k,List.pairwise_singleton _ _,λa ha b hb=>?_⟩
  rw[List.mem_singleton.1 hb]
  obtain⟨i,h1,rfl,_⟩:=rO a ha
  show(i:Int)<(k:Int)
  omega
theorem qN {qs:List Rat}:∀(k:Nat) (i:Int),Vm.get (fdF qs k) i=if 0<=i∧i<k then qs.getD i.toNat 0 else 0
 |0,i=>by rw[if_neg oM];rfl
 |k+1,i=>by
  have ih:=qN (qs:=qs) k i
  unfold fdF
  split
  ·next hq=>
   rw[ih]
   by_cases hi:i=(k:Int)
   ·subst hi;rw[if_neg oM,if_pos oM,Int.toNat_natCast,hq]
   by_cases h2:0<=i∧i<(k:Int)
   ·rw[if_pos h2,if_pos oM]
   rw[if_neg h2,if_neg oM]
  next hq=>
  rw[gJ,ih]
  show _+((if (k:Int)=i then qs.getD k 0 else 0)+0)=_
  rw[Rat.add_zero]
  by_cases hi:(k:Int)=i
  ·subst hi;rw[if_neg oM,if_pos rfl,if_pos oM,Int.toNat_natCast,Rat.zero_add]
  rw[if_neg hi,Rat.add_zero]
  by_cases h2:0<=i∧i<(k:Int)
  ·rw[if_pos h2,if_pos oM]
  rw[if_neg h2,if_neg oM]
abbrev aQe:FuncId:=50
theorem bOm:Ent Tryz.prog aQe:=Ent.of func50 rfl kR
theorem bOn:Tryz.prog.funcs[aQe]? =some Tryz.f50:=func50
theorem bJj (x:Sl RatM) {qs:List Rat} {B:Nat} (h:Rl x.l qs) (hb:rbL qs B) (hB:B<=17179869184) (hn:qs.length<=4096):Ctr Tryz.prog aQe [] [.c (cN x)] [] (λys:List EntM=>⟨.c (.s 0 ys.length),[(65,4,ecs ys)],Ek ys (fdF qs qs.length)⟩):=by
 have hl:=h.ln
 refine aX gT bOm bOn rfl rfl rfl bL ClB.nil (aA gT mxd (yO 3 65 4 rfl bL ?_))
 refine bV (λ_=>true) (λg:Nat×List EntM=>[(8,.c (iC g.1)),(3,.c (.s 0 g.2.length)),(7,.c (iC (x.l.length:Nat))),(6,.c (cN x))]) (λg=>[(65,4,ecs g.2)]) (λ_=>[]) (λg=>g.1<=qs.length∧Ek g.2 (fdF qs g.1)) (λg=>qs.length-g.1) λhM=>⟨bA hM (chg:=λg:Nat×List EntM=>[(8,.c (iC g.1)),(3,.c (.s 0 g.2.length)),(7,.c (iC (x.l.length:Nat))),(6,.c (cN x))]) (bls:=λg:Nat×List EntM=>[(65,4,ecs g.2)]) (fls:=λ_=>[]) (0,[]) ⟨Nat.zero_le _,rfl,λk hk=>absurd hk (Nat.not_lt_zero _)⟩ rfl rfl trivial ⟨rfl,rfl,rfl,rfl⟩ bL (scB.cons rfl scB.nil) rfl,λ⟨k,ys⟩ ⟨hk,hy⟩=>aA gT mxd ⟨λh2=>aA gT mxd ?_,λh2=>aA gT mxd ?_⟩⟩
 all_goals
  replace hk:k<=qs.length:=hk
  replace hy:Ek ys (fdF qs k):=hy
 ·replace h2:(k:Int)<(x.l.length:Nat):=h2
  have hkl:k<qs.length:=by omega
  have hyl:ys.length<=k:=by rw[hy.ln];exact tL k
  have hq:=h.rq hb hkl
  refine⟨k,⟨rfl,by omega⟩,[],iJ (x.l.getD k default) (hq.le hB),rfl,rfl,rfl,λ_ _=>⟨λhz=>aA gT mxd ?_,λhz=>aA gT mxd ?_⟩⟩
  ·replace hz:¬sgn (qs.getD k 0).num=0:=hz
   have hne:¬qs.getD k 0=0:=λh=>hz (dL.2 (Rat.num_eq_zero.2 h))
   refine⟨[],mD (x.l.getD k default) (hq.le hB),rfl,rfl,rfl,λg hg=>⟨⟨rfl,by show ys.length*4=(ecs ys).length;rw[dH],by show ys.length+1<=maxLen;simp only[maxLen];omega,by show(ys.length+1)*64<=_;omega,λc hc=>?_⟩,gD ⟨k,g⟩,(k+1:Nat),wi,bA hM (chg:=λg:Nat×List EntM=>[(8,.c (iC g.1)),(3,.c (.s 0 g.2.length)),(7,.c (iC (x.l.length:Nat))),(6,.c (cN x))]) (bls:=λg:Nat×List EntM=>[(65,4,ecs g.2)]) (fls:=λ_=>[]) (k+1,ys++[⟨k,g⟩]) ⟨⟨hkl,?_⟩,show qs.length-(k+1)<qs.length-k by omega⟩ rfl (by show(65,4,ecs ys++(⟨k,g⟩:EntM).C)=_;rw[iQ]) trivial ⟨rfl,?_,rfl,rfl⟩ bL (scB.cons (fA _) scB.nil) rfl⟩⟩
   ·rcases List.mem_append.1 hc with hc|hc
    ·exact dN (dM ys c hc)
    exact gD ⟨k,g⟩ c hc
   ·show Ek _ (fdF qs (k+1))
    unfold fdF
    rw[if_neg hne];exact oD hy hg
   show ys.length+1=(ys++[(⟨k,g⟩:EntM)]).length
   rw[List.length_append,List.length_singleton]
  replace hz:¬¬sgn (qs.getD k 0).num=0:=hz
  have h0:qs.getD k 0=0:=Rat.num_eq_zero.1 (dL.1 (Decidable.not_not.1 hz))
  refine⟨(k+1:Nat),wi,bA hM (chg:=λg:Nat×List EntM=>[(8,.c (iC g.1)),(3,.c (.s 0 g.2.length)),(7,.c (iC (x.l.length:Nat))),(6,.c (cN x))]) (bls:=λg:Nat×List EntM=>[(65,4,ecs g.2)]) (fls:=λ_=>[]) (k+1,ys) ⟨⟨hkl,?_⟩,show qs.length-(k+1)<qs.length-k by omega⟩ rfl rfl trivial ⟨rfl,rfl,rfl,rfl⟩ bL (scB.cons (fA _) scB.nil) rfl⟩
  show Ek _ (fdF qs (k+1))
  unfold fdF
  rw[if_pos h0];exact hy
 replace h2:¬(k:Int)<(x.l.length:Nat):=h2
 obtain rfl:k=qs.length:=by omega
 exact aA gT mxd ⟨ys,hy,dU rfl rfl bL (scB.cons (fA _) scB.nil) rfl oK⟩
theorem bJk (x:Sl RatM) {qs:List Rat} {B:Nat} (h:Rl x.l qs) (hb:rbL qs B) (hB:B<=17179869184) (hn:qs.length<=4096):Ctr Tryz.prog aQe [] [.c (cN x)] [] (λg:Sl EntM=>⟨.c (aO g),[],Ek g.l (fdF qs qs.length)⟩):=
 CtrF.gt (bJj x h hb hB hn) λys hys _=>yP tGt 0 0 (λj=>(ys.getD j default).C) rfl rfl (jQ ys) (dH ys).symm bL (dM ys) bL λA c _ _=>bA (M:=λ_=>true) (base:=[]) (chg:=λg:Sl EntM=>[(0,.c (aO g))]) (bls:=λ_=>[]) (fls:=λ_=>[]) (λt d ht=>by cases ht) ⟨A,c,ys⟩ ⟨hys,oK⟩ rfl trivial trivial rfl bL scB.nil rfl
theorem jF {P:Nat->List CV} {e:Nat}:∀{n:Nat},(∀j,j<n->(P j).length=e)->(flatR n P).length=n*e
 |0,_=>by simp[flatR]
 |n+1,h=>by rw[dK,List.length_append,jF (λj hj=>h j oM),h n oM,Nat.add_mul,Nat.one_mul]
theorem fR {P Q:Nat->List CV}:∀{n:Nat},(∀j,j<n->P j=Q j)->flatR n P=flatR n Q
 |0,_=>rfl
 |n+1,h=>by rw[dK,dK,fR (λj hj=>h j oM),h n oM]
theorem zE {P:Nat->List CV} {e k:Nat}:∀{n:Nat},(∀j,j<n->(P j).length=e)->k<n->((flatR n P).drop (k*e)).take e=P k
 |0,_,hk=>absurd hk (Nat.not_lt_zero _)
 |n+1,h,hk=>by
  have hl:=jF (λj hj=>h j (Nat.lt_succ_of_lt hj):∀j,j<n->(P j).length=e)
  rw[dK]
  by_cases hkn:k<n
  ·have hm:k*e+e<=n*e:=by rw[<-Nat.succ_mul];exact Nat.mul_le_mul_right e hkn
   rw[List.drop_append_of_le_length oM,List.take_append_of_le_length (by rw[List.length_drop];omega)]
   exact zE (λj hj=>h j oM) hkn
  obtain rfl:k=n:=by omega
  rw[<-hl,List.drop_left,<-h k oM,List.take_length]
theorem zF {P:Nat->List CV} {e k:Nat} {v:List CV} (hv:v.length=e):∀{n:Nat},(∀j,j<n->(P j).length=e)->k<n->fG (flatR n P) (k*e) v=flatR n λj=>if j=k then v else P j
 |0,_,hk=>absurd hk (Nat.not_lt_zero _)
 |n+1,h,hk=>by
  have hl:=jF (λj hj=>h j (Nat.lt_succ_of_lt hj):∀j,j<n->(P j).length=e)
  rw[dK,dK]
  by_cases hkn:k<n
  ·have hm:k*e+e<=n*e:=by rw[<-Nat.succ_mul];exact Nat.mul_le_mul_right e hkn
   rw[if_neg oM,<-zF hv (λj hj=>h j oM) hkn]
   unfold fG
   rw[hv,List.take_append_of_le_length oM,List.drop_append_of_le_length oM,List.append_assoc,List.append_assoc]
  obtain rfl:k=n:=by omega
  rw[if_pos rfl,fR (Q:=P) λj hj=>if_neg oM]
  unfold fG
  rw[hv,<-hl,List.take_left,List.drop_of_length_le (by rw[List.length_append,h k oM,hl];omega),List.append_nil]
def jR (G:Nat->RatM) (k:Nat) (j:Nat):List CV:=if j<k then (G j).C else pE
theorem nJ {G:Nat->RatM} {k:Nat} (j:Nat):(jR G k j).length=3:=by unfold jR;split<;>rfl
theorem aEo {P:Nat->List CV} {n k:Nat} (h:∀j,(P j).length=3) (hk:k<n):k*3<(flatR n P).length:=by rw[jF λj _=>h j];omega
theorem bDg {P:Nat->List CV} {n k:Nat} {l:List CV} (h:∀j,(P j).length=3) (hk:k<n) (hl:P k=l):((flatR n P).drop (k*3)).take 3=l∧l.length=3:=⟨by rw[zE (λj _=>h j) hk,hl],by rw[<-hl];exact h k⟩
theorem zG {P Q:Nat->List CV} {n k:Nat} {l:List CV} (h:∀j,(P j).length=3) (hk:k<n) (hl:l.length=3) (hq:∀j,j<n->(if j=k then l else P j)=Q j):fG (flatR n P) (k*3) l=flatR n Q∧k*3+l.length<=(flatR n P).length:=⟨by rw[zF hl (λj _=>h j) hk,fR hq],by rw[jF λj _=>h j,hl];omega⟩
def vO (G:Nat->RatM) (k:Nat) (g:RatM) (j:Nat):RatM:=if j=k then g else G j
theorem aHn {G:Nat->RatM} {k:Nat} {g:RatM} (j:Nat):(if j=k then g.C else jR G k j)=jR (vO G k g) (k+1) j:=by
 unfold jR vO
 by_cases h:j=k
 ·rw[if_pos h,if_pos h,if_pos oM]
 rw[if_neg h,if_neg h]
 by_cases h2:j<k
 ·rw[if_pos h2,if_pos oM]
 rw[if_neg h2,if_neg oM]
theorem tM {z:List CV}:∀{n:Nat},flatR n (λ_=>z)=(List.replicate n z).flatten
 |0=>rfl
 |n+1=>by rw[dK,tM,List.replicate_succ',List.flatten_append,List.flatten_singleton]
theorem pG {P:Nat->List CV} (h:∀j,∀c∈P j,cW c=true):∀n,∀c∈flatR n P,cW c=true
 |0,c,hc=>by cases hc
 |n+1,c,hc=>by
  rw[dK] at hc
  rcases List.mem_append.1 hc with h1|h1
  ·exact pG h n c h1
  exact h n c h1
theorem aQf:∀c∈pE,cW c=true:=λc h2=>by
 rcases List.mem_cons.1 h2 with rfl|h2
 ·rfl
 rcases List.mem_cons.1 h2 with rfl|h2
 ·rfl
 rcases List.mem_cons.1 h2 with rfl|h2
 ·rfl
 cases h2
theorem oE {es:List En} (ha:Asc es) {e:En} (he:e∈es):Vm.get es e.1=e.2:=by
 induction es with
 |nil=>cases he
 |cons a es ih=>
  rcases List.mem_cons.1 he with rfl|he
  ·exact eJ ha
  have:=ha.head e he
  rw[eF oM];exact ih ha.tail he
def dnL (es:List En) (n:Nat):List Rat:=(List.range n).map λi=>Vm.get es (i:Nat)
theorem zH {es:List En} {n k:Nat} (h:k<n):(dnL es n).getD k 0=Vm.get es (k:Nat):=by unfold dnL;simp[h]
theorem jG {es:List En} {n:Nat}:(dnL es n).length=n:=by unfold dnL;simp
def eA (G:Nat->RatM) (n:Nat):List RatM:=(List.range n).map G
theorem aEp {G:Nat->RatM} {n k:Nat} (h:k<n):(eA G n).getD k default=G k:=by unfold eA;simp[h]
theorem tN {G:Nat->RatM} {n:Nat}:(eA G n).length=n:=by unfold eA;simp
theorem aBz {G:Nat->RatM} {n:Nat}:flatR n (jR G n)=flatR n λj=>(G j).C:=fR λj hj=>if_pos hj
theorem qO {G:Nat->RatM} {i n:Nat}:∀c∈flatR n (jR G i),cW c=true:=pG (λj=>by unfold jR;split;exact cP _;exact aQf) n
theorem aWe {G:Nat->RatM} {n:Nat} (j:Nat) (h:j<n):((eA G n).getD j default).C=((flatR n λj=>(G j).C).drop (j*3)).take 3:=by rw[aEp h];exact(zE (P:=λj=>(G j).C) (λ_ _=>rfl) h).symm
theorem bJl {G:Nat->RatM} {n c:Nat} {A:Option Addr}:CV.r A n c 3 (λj=>((eA G n).getD j default).C)=cN ⟨A,c,eA G n⟩:=by
 unfold cN Sl.R
 rw[tN]
theorem aHo {G:Nat->RatM} {n:Nat} {es:List En} (hG:∀k,k<n->Cr (G k) (Vm.get es (k:Nat))):Rl (eA G n) (dnL es n):=⟨tN.trans jG.symm,λk hk=>by
 rw[jG] at hk
 rw[aEp hk,zH hk];exact hG k hk⟩
abbrev bDh:FuncId:=49
theorem bOo:Ent Tryz.prog bDh:=Ent.of func49 rfl kR
theorem bOp:Tryz.prog.funcs[bDh]? =some Tryz.f49:=func49
theorem bJm (x:Sl EntM) (n:Nat) {es:List En} {B:Nat} (h:Ev x.l es B) (hb:rbE es B) (h1:1<=B) (hB:B<=17179869184) (hv:VOk es n) (hn:n<=4096) (he:es.length<=4096):Ctr Tryz.prog bDh [] [.c (aO x),.c (iC n)] [] (λg:Sl RatM=>⟨.t [.c (cN g),pC True],[],Rl g.l (dnL es n)⟩):=by
 have hz:uM es:=λe he=>(hv.2 e he).2.2
 refine aX gT bOo bOp rfl rfl rfl bL ClB.nil (aA gT mxd ⟨λh2=>aA gT mxd ?_,λh2=>aA gT mxd ?_⟩)
 ·replace h2:(n:Int)<0∨(16384:Int)<(n:Nat):=h2
  exact absurd h2 oM
 refine⟨[],zD x h hb h1 hB hv.1 hz he,rfl,rfl,rfl,λy hy=>⟨0,λhq=>⟨rfl,?_⟩,((y.l.length:Nat):Int)-1,λhq=>wi (h:=⟨rfl,?_,?_⟩),y.l.length-1,λhq=>⟨?_,?_⟩,⟨λh3=>aA gT mxd ?_,λh3=>aA gT mxd ?_⟩⟩⟩
 all_goals
  replace hy:Ek y.l es:=hy
  have ly:=hy.ln
 ·replace hq:(0:Int)<(y.l.length:Nat):=hq
  omega
 ·omega
 ·omega
 ·have h4:(0:Int)<(y.l.length:Nat):=by first|exact hq.1|exact hq.2
  omega
 ·have h4:(0:Int)<(y.l.length:Nat):=by first|exact hq.1|exact hq.2
  omega
 ·replace h3:(0:Int)<(y.l.length:Nat)∧((y.l.getD 0 default).ix<0∨(n:Int)<=(y.l.getD (y.l.length-1) default).ix):=h3
  have e0:=hv.2 _ (dW (show 0<es.length by omega))
  have e1:=hv.2 _ (dW (show y.l.length-1<es.length by omega))
  rw[(hy.e 0 oM).1,(hy.e (y.l.length-1) oM).1] at h3
  exact absurd h3 oM
 refine⟨n,⟨rfl,rfl,by show 56*_<=_;omega,by simp only[maxLen];omega⟩,?_⟩
 refine bV (λ_=>true) (λg:Nat×Nat×Option Addr×Nat×(Nat->RatM)=>[(42,.c (iC g.1)),(6,.c (aO ⟨g.2.2.1,g.2.2.2.1,y.l.drop g.2.1⟩)),(7,.c (.s 0 n)),(41,.c (iC n))]) (λg=>[(51,3,flatR n (jR g.2.2.2.2 g.1))]) (λ_=>[]) (λg=>(g.1<=n∧g.2.1<=es.length)∧(∀e∈es.take g.2.1,e.1<(g.1:Nat))∧(∀e∈es.drop g.2.1,((g.1:Nat):Int)<=e.1)∧∀k,k<g.1->Cr (g.2.2.2.2 k) (Vm.get es (k:Nat))) (λg=>n-g.1) λhM=>⟨bA hM (chg:=λg:Nat×Nat×Option Addr×Nat×(Nat->RatM)=>[(42,.c (iC g.1)),(6,.c (aO ⟨g.2.2.1,g.2.2.2.1,y.l.drop g.2.1⟩)),(7,.c (.s 0 n)),(41,.c (iC n))]) (bls:=λg:Nat×Nat×Option Addr×Nat×(Nat->RatM)=>[(51,3,flatR n (jR g.2.2.2.2 g.1))]) (fls:=λ_=>[]) (0,0,y.A,y.c,λ_=>default) ⟨⟨Nat.zero_le _,Nat.zero_le _⟩,λe he=>(by cases he),λe he=>(hv.2 e he).1,λk hk=>absurd hk (Nat.not_lt_zero _)⟩ rfl ?_ trivial ⟨rfl,rfl,rfl,rfl⟩ bL (scB.cons (List.all_eq_true.2 λc hc=>iS (qO c hc)) scB.nil) rfl,λ⟨i,j,A,c,G⟩ ⟨⟨hi,hj⟩,ht,hd,hG⟩=>aA gT mxd ⟨λh4=>aA gT mxd ?_,λh4=>aA gT mxd ?_⟩⟩
 ·show(_,_,_)=(_,_,_)
  congr 2
  show(List.replicate n pE).flatten=_
  rw[<-tM]
  exact fR λj _=>(if_neg (Nat.not_lt_zero _)).symm
 all_goals
  replace hi:i<=n:=hi
  replace hj:j<=es.length:=hj
  replace ht:∀e∈es.take j,e.1<(i:Nat):=ht
  replace hd:∀e∈es.drop j,(i:Int)<=e.1:=hd
  replace hG:∀k,k<i->Cr (G k) (Vm.get es (k:Nat)):=hG
 ·replace h4:(i:Int)<(n:Nat):=h4
  have hin:i<n:=by omega
  have lr:(y.l.drop j).length=es.length-j:=by rw[List.length_drop,ly]
  have hlen:i*3<(flatR n (jR G i)).length:=aEo (λj=>nJ j) hin
  have step:∀(g:RatM),Cr g (Vm.get es (i:Nat))->∀k,k<i+1->Cr (vO G i g k) (Vm.get es (k:Nat)):=λg hg k hk=>by
   unfold vO
   by_cases hki:k=i
   ·subst hki;rw[if_pos rfl];exact hg
   rw[if_neg hki];exact hG k oM
  have put:∀g:RatM,fG (flatR n (jR G i)) (i*3) g.C=flatR n (jR (vO G i g) (i+1))∧i*3+g.C.length<=(flatR n (jR G i)).length:=λg=>zG (λj=>nJ j) hin rfl λj _=>aHn j
  refine⟨0,λhq=>⟨rfl,?_⟩,⟨λh5=>aA gT mxd ?_,λh5=>aA gT mxd ?_⟩⟩
  ·replace hq:(0:Int)<((y.l.drop j).length:Nat):=hq
   show 0<(y.l.drop j).length
   omega
  ·replace h5:(0:Int)<((y.l.drop j).length:Nat)∧((y.l.drop j).getD 0 default).ix=(i:Nat):=h5
   have hjl:j<es.length:=by omega
   have l0:0<(y.l.drop j).length:=by omega
   have e1:=hy.e j hjl
   have e2:((y.l.drop j).getD 0 default).ix=(i:Nat):=h5.2
   rw[hH,e1.1] at e2
   have hg:Cr ((y.l.drop j).getD 0 default).v (Vm.get es (i:Nat)):=by
    rw[hH,<-e2,oE hv.1 (dW hjl)];exact e1.2
   refine⟨0,⟨rfl,l0⟩,i,⟨rfl,hin,hlen⟩,_,put _,1,⟨rfl,l0⟩,(i+1:Nat),wi,bA hM (chg:=λg:Nat×Nat×Option Addr×Nat×(Nat->RatM)=>[(42,.c (iC g.1)),(6,.c (aO ⟨g.2.2.1,g.2.2.2.1,y.l.drop g.2.1⟩)),(7,.c (.s 0 n)),(41,.c (iC n))]) (bls:=λg:Nat×Nat×Option Addr×Nat×(Nat->RatM)=>[(51,3,flatR n (jR g.2.2.2.2 g.1))]) (fls:=λ_=>[]) (i+1,j+1,slA A c 1 4,c-1,vO G i ((y.l.drop j).getD 0 default).v) ⟨⟨⟨hin,hjl⟩,λe he=>?_,λe he=>?_,step _ hg⟩,show n-(i+1)<n-i by omega⟩ rfl rfl trivial ⟨rfl,jE y.l j _ _,rfl,rfl⟩ bL (scB.cons (List.all_eq_true.2 λc hc=>iS (qO c hc)) scB.nil) rfl⟩
   ·show e.1<((i+1:Nat):Int)
    have he':e∈es.take (j+1):=he
    rw[List.take_add_one,List.getElem?_eq_getElem hjl] at he'
    rcases List.mem_append.1 he' with h|h
    ·have:=ht e h;omega
    have h:e=es[j]:=by simpa using h
    rw[h,<-gd (d:=default) hjl];omega
   show((i+1:Nat):Int)<=e.1
   have ha:Asc (es.drop j):=hv.1.sublist (List.drop_sublist j es)
   rw[qM hjl] at ha
   have:=ha.head e he
   have e3:(es.getD j default).1=(i:Nat):=e2
   omega
  replace h5:¬((0:Int)<((y.l.drop j).length:Nat)∧((y.l.drop j).getD 0 default).ix=(i:Nat)):=h5
  have hgt:∀e∈es.drop j,((i+1:Nat):Int)<=e.1:=λe he=>by
   have h6:=hd e he
   rcases Nat.lt_or_ge j es.length with hjl|hjl
   ·have e1:=(hy.e j hjl).1
    rw[hH,e1] at h5
    have ha:Asc (es.drop j):=hv.1.sublist (List.drop_sublist j es)
    rw[qM hjl] at ha he
    have h7:=hd (es.getD j default) (by rw[qM hjl];exact .head _)
    have l0:(0:Int)<((y.l.drop j).length:Nat):=by omega
    have h8:¬(es.getD j default).1=(i:Nat):=λh=>h5 ⟨l0,h⟩
    rcases List.mem_cons.1 he with rfl|he
    ·omega
    have:=ha.head e he;omega
   rw[List.drop_of_length_le hjl] at he;cases he
  have h0:Vm.get es (i:Nat)=0:=gA λe he h=>by
   rw[<-List.take_append_drop j es] at he
   rcases List.mem_append.1 he with h7|h7
   ·have:=ht e h7;omega
   have:=hgt e h7;omega
  refine⟨[],tI (z:=0) dC,rfl,rfl,rfl,λg hg=>⟨i,⟨rfl,hin,hlen⟩,_,put _,(i+1:Nat),wi,bA hM (chg:=λg:Nat×Nat×Option Addr×Nat×(Nat->RatM)=>[(42,.c (iC g.1)),(6,.c (aO ⟨g.2.2.1,g.2.2.2.1,y.l.drop g.2.1⟩)),(7,.c (.s 0 n)),(41,.c (iC n))]) (bls:=λg:Nat×Nat×Option Addr×Nat×(Nat->RatM)=>[(51,3,flatR n (jR g.2.2.2.2 g.1))]) (fls:=λ_=>[]) (i+1,j,A,c,vO G i g) ⟨⟨⟨hin,hj⟩,λe he=>?_,hgt,step _ (by rw[h0];exact hg)⟩,show n-(i+1)<n-i by omega⟩ rfl rfl trivial ⟨rfl,rfl,rfl,rfl⟩ bL (scB.cons (List.all_eq_true.2 λc hc=>iS (qO c hc)) scB.nil) rfl⟩⟩
  show e.1<((i+1:Nat):Int)
  have:=ht e he
  omega
 replace h4:¬(i:Int)<(n:Nat):=h4
 obtain rfl:i=n:=by omega
 refine aDu 7 0 (λj=>((eA G i).getD j default).C) rfl rfl (λj hj=>?_) ?_ bL qO (Nat.zero_le _) λA c _ _=>aA gT mxd ⟨⟨A,c,eA G i⟩,aHo hG,aN ⟨bJl,tt trivial⟩ rfl trivial⟩
 ·show _=((flatR i (jR G i)).drop (j*3)).take 3
  rw[aBz];exact aWe j hj
 show i*3=(flatR i (jR G i)).length
 rw[jF λj _=>nJ j]
structure MatM where
 r:Int
 c:Int
 d:Sl (Sl EntM)
def gQ (d:Sl (Sl EntM)):CV:=d.R 1 (λrow=>[aO row]) cD
def MatM.C (m:MatM):List CV:=[iC m.r,iC m.c,gQ m.d]
structure Mx (m:MatM) (M:Nat->List En) (n:Nat):Prop where
 r:m.r=(n:Nat)
 c:m.c=(n:Nat)
 ln:m.d.l.length=n
 row:∀i,i<n->Ek (m.d.l.getD i cD).l (M i)
 ok:∀i,i<n->VOk (M i) (n:Nat)∧(M i).length<=n
def rbM (M:Nat->List En) (n B:Nat):Prop:=∀i,i<n->rbE (M i) B
abbrev bDi:FuncId:=104
theorem bOq:Ent Tryz.prog bDi:=Ent.of func104 rfl kR
theorem bOr:Tryz.prog.funcs[bDi]? =some Tryz.f104:=func104
theorem aYp (z:Int):Ctr Tryz.prog bDi [] [.c (iC z)] [] (λ_:Unit=>⟨pC (0<=z∧z<=16384),[],True⟩):=by
 exact aX gT bOq bOr rfl rfl rfl bL ClB.nil (aA gT mxd ⟨(),trivial,aN Iff.rfl rfl trivial⟩)
abbrev aQg:FuncId:=60
theorem bJn:Ent Tryz.prog aQg:=Ent.of func60 rfl kR
theorem bJo:Tryz.prog.funcs[aQg]? =some Tryz.f60:=func60
theorem aEq (m:MatM) {M:Nat->List En} {n B:Nat} (h:Mx m M n) (hb:rbM M n B) (hB:B<=17179869184) (hn:n<=4096):Ctr Tryz.prog aQg [] [.a m.C] [] (λ_:Unit=>⟨pC True,[],True⟩):=by
 have hr:=h.r
 have hc:=h.c
 have hl:=h.ln
 refine aX gT bJn bJo rfl rfl rfl bL ClB.nil (aA gT mxd ⟨[],aYp m.r,rfl,rfl,rfl,λ_ _=>⟨λh2=>absurd h2 oM,λ_=>⟨[],aYp m.c,rfl,rfl,rfl,λ_ _=>⟨λh2=>aA gT mxd ?_,λh2=>aA gT mxd ?_⟩⟩⟩⟩)
 ·replace h2:¬(0<=m.c∧m.c<=16384)∨((m.d.l.length:Nat):Int)≠m.r:=h2
  exact absurd h2 oM
 refine bV (λ_=>true) (λk:Nat=>[(26,.c (iC k)),(1,.c (.p 0 0)),(24,.c (gQ m.d)),(25,.c (iC (m.d.l.length:Nat)))]) (λ_=>[(24,0,m.C)]) (λ_=>[]) (λk=>k<=n) (λk=>n-k) λhM=>⟨bA hM (chg:=λk:Nat=>[(26,.c (iC k)),(1,.c (.p 0 0)),(24,.c (gQ m.d)),(25,.c (iC (m.d.l.length:Nat)))]) (bls:=λ_=>[(24,0,m.C)]) (fls:=λ_=>[]) 0 (Nat.zero_le _) rfl rfl trivial ⟨rfl,rfl,rfl,rfl⟩ bL (scB.cons rfl scB.nil) rfl,λk hk=>aA gT mxd ⟨λh3=>aA gT mxd ?_,λh3=>aA gT mxd ?_⟩⟩
 ·replace h3:(k:Int)<(m.d.l.length:Nat):=h3
  have hkn:k<n:=by omega
  refine⟨k,⟨rfl,by omega⟩,[],aBw (m.d.l.getD k cD) m.c ((h.row k hkn).ev (hb k hkn)) hB,rfl,rfl,rfl,λ_ _=>⟨λh4=>aA gT mxd ?_,λh4=>aA gT mxd ?_⟩⟩
  ·replace h4:¬VOk (M k) m.c:=h4
   rw[hc] at h4
   exact absurd (h.ok k hkn).1 h4
  exact⟨(k+1:Nat),wi,bA hM (chg:=λk:Nat=>[(26,.c (iC k)),(1,.c (.p 0 0)),(24,.c (gQ m.d)),(25,.c (iC (m.d.l.length:Nat)))]) (bls:=λ_=>[(24,0,m.C)]) (fls:=λ_=>[]) (k+1) ⟨hkn,show n-(k+1)<n-k by omega⟩ rfl rfl trivial ⟨rfl,rfl,rfl,rfl⟩ bL (scB.cons rfl scB.nil) rfl⟩
 exact aA gT mxd ⟨(),trivial,aN (tt trivial) rfl trivial⟩
abbrev bDj:FuncId:=66
theorem bOs:Ent Tryz.prog bDj:=Ent.of func66 rfl kR
theorem bOt:Tryz.prog.funcs[bDj]? =some Tryz.f66:=func66
theorem aYq {x:TypeId×Nat×List CV} {T e:Nat} {l:List CV} (h:∀c∈l,cW c=true):ClB [false,true] [x,(T,e,l)]:=λi T' es' l' hi hc=>by
 match i,hi,hc with
 |0,_,hc=>cases hc
 |1,hi,_=>injection hi with hi;injection hi with _ hi;injection hi with _ hi;subst hi;exact h
theorem bJp (n k:Nat) (hn:n<=4096):Ctr Tryz.prog bDj [false,true] [.c (iC n),.c (iC k)] [] (λ_:Unit=>⟨.a [iC n,iC k,.s 1 n],[(24,0,[iC n,iC k,.s 1 n]),(54,1,List.replicate n (.v (.slice none 0 0)))],True⟩):=by
 refine aX gT bOs bOt rfl rfl rfl bL (λi T es l hi=>by cases hi) (aA gT mxd ⟨n,⟨rfl,rfl,by show 24*n<=_;omega,by simp only[maxLen];omega⟩,(),trivial,dU rfl ⟨rfl,rfl⟩ bL (scB.cons rfl (scB.cons ?_ scB.nil)) rfl (aYq λc hc=>by rw[(List.mem_replicate.1 hc).2];rfl)⟩)
 exact List.all_eq_true.2 λc hc=>by rw[(List.mem_replicate.1 hc).2];rfl
def cB (n:Nat) (P:Nat->CV):List CV:=(List.range n).map P
theorem bP {n:Nat} {P:Nat->CV}:(cB n P).length=n:=by unfold cB;simp
theorem cY {n j:Nat} {P:Nat->CV} (h:j<n):(cB n P)[j*1]? =some (P j):=by unfold cB;simp[h]
theorem cA {n j:Nat} {P:Nat->CV} (h:j<n):j*1<(cB n P).length:=by rw[bP];omega
theorem aQh {l:List CV} {j:Nat} {c:CV} (h:j<l.length):fG l (j*1) [c]=l.set j c:=by
 unfold fG
 rw[Nat.mul_one,List.set_eq_take_append_cons_drop,if_pos h]
 rfl
theorem fN {n j:Nat} {P Q:Nat->CV} {c:CV} (h:j<n) (hq:∀i,i<n->(if i=j then c else P i)=Q i):fG (cB n P) (j*1) [c]=cB n Q∧j*1+1<=(cB n P).length:=by
 refine⟨?_,by rw[bP];omega⟩
 rw[aQh (by rw[bP];exact h)]
 refine List.ext_getElem (by simp[cB]) λi h1 h2=>?_
 have hi:i<n:=by simpa[cB] using h2
 have:=hq i hi
 have e1:(cB n Q)[i]=Q i:=by simp[cB]
 rw[List.getElem_set,e1,<-this]
 by_cases e:j=i
 ·subst e;simp
 rw[if_neg e,if_neg (Ne.symm e)];simp[cB]
theorem pH {n:Nat} {P Q:Nat->CV} (h:∀i,i<n->P i=Q i):cB n P=cB n Q:=List.map_congr_left λi hi=>h i (List.mem_range.1 hi)
theorem aE {n:Nat} {P:Nat->CV} (h:∀j,j<n->cW (P j)=true):∀c∈cB n P,cW c=true:=λc hc=>by
 obtain⟨j,hj,rfl⟩:=List.mem_map.1 hc
 exact h j (List.mem_range.1 hj)
theorem aHp {φ:CV->CV} {l:List CV} (h:∀c,cW c=true->φ c=c) (hl:∀c∈l,cW c=true):l.map φ=l:=by
 induction l with
 |nil=>rfl
 |cons c l ih=>rw[List.map_cons,ih λc hc=>hl c (.tail _ hc),h c (hl c (.head _))]
theorem aQi {i:Nat} {A:Option Nat} {a:Nat} (c:CV) (h:cW c=true):iZ i A a c=c:=by cases c<;>first|rfl|cases h
theorem zI {F:Fam} {n:Nat} {P Q:Nat->CV} (h:∀j,j<n->FrC F (P j) (Q j)) (k:Nat) (c c':CV) (h1:(cB n P)[k]? =some c) (h2:(cB n Q)[k]? =some c'):c=c'∨FrC F c c':=by
 have hk:k<n:=by have:=bK h1;rwa [bP] at this
 have e1:=cY (P:=P) hk
 have e2:=cY (P:=Q) hk
 rw[Nat.mul_one] at e1 e2
 rw[h1] at e1;rw[h2] at e2
 injection e1 with e1;injection e2 with e2
 subst e1 e2
 exact .inr (h k hk)
theorem nK {F:Fam} {l:List CV} {k0:Nat} {c0 c1:CV} (hk:l[k0]? =some c0) (hf:FrC F c0 c1):∀(k:Nat) (c c':CV),l[k]? =some c->(l.set k0 c1)[k]? =some c'->c=c'∨FrC F c c':=λk c c' h1 h2=>by
 rcases fK h2 with ⟨rfl,rfl,_⟩|⟨_,h3⟩
 ·rw[hk] at h1
  injection h1 with h1
  subst h1
  exact .inr hf
 rw[h1] at h3
 injection h3 with h3
 exact .inl h3
abbrev hdP (A:Nat->Option Nat) (cap:Nat->Nat) (G:Nat->List EntM):Nat->CV:=λj=> .h (A j) (G j).length (cap j)
theorem vP {A:Nat->Option Nat} {cap:Nat->Nat} {G:Nat->List EntM} {n j:Nat} {A':Option Nat} {c':Nat} {e:EntM} (h:j<n):fG (cB n (hdP A cap G)) (j*1) [.h A' ((G j).length+1) c']=cB n (hdP (upd A j A') (upd cap j c') (upd G j (G j++[e])))∧j*1+1<=(cB n (hdP A cap G)).length:=fN h λi _=>by
 by_cases he:i=j
 ·subst he;simp only[hdP,aT,if_true,List.length_append,List.length_singleton]
 simp only[hdP,aP he,if_neg he]
theorem zJ {T n j:Nat} {A:Nat->Option Nat} {cap:Nat->Nat} {G:Nat->List EntM} {e:EntM}:(⟨T,4,n,A,cap,upd (λj=>ecs (G j)) j (ecs (G j)++e.C)⟩:Fam)=⟨T,4,n,A,cap,λi=>ecs (upd G j (G j++[e]) i)⟩:=by
 congr 1
 funext i
 by_cases he:i=j
 ·subst he;rw[aT,aT,iQ]
 rw[aP he,aP he]
def hdS (A:Nat->Option Nat) (cap:Nat->Nat) (G:Nat->List EntM) (j:Nat):Sl EntM:=⟨(A j).map λb=>⟨b,0,none⟩,cap j,G j⟩
theorem bJq {T n:Nat} {A:Nat->Option Nat} {cap:Nat->Nat} {G:Nat->List EntM} (j:Nat) (hj:j<n):FrC ⟨T,4,n,A,cap,λj=>ecs (G j)⟩ (hdP A cap G j) (aO (hdS A cap G j)):=⟨j,(G j).length,_,hj,rfl,rfl,(dH _).symm,λk hk=>jQ (G j) k hk⟩
def eT (S:Nat->Sl EntM) (n:Nat):List (Sl EntM):=(List.range n).map S
theorem lE {S:Nat->Sl EntM} {n j:Nat} (h:j<n):(eT S n).getD j cD=S j:=by unfold eT;simp[h]
theorem iH {S:Nat->Sl EntM} {n:Nat}:(eT S n).length=n:=by unfold eT;simp
theorem qP {T n c:Nat} {A:Option Nat} {S:Nat->Sl EntM}:FrC ⟨T,1,1,λ_=>A,λ_=>c,λ_=>cB n λj=>aO (S j)⟩ (.h A n c) (gQ ⟨A.map λb=>⟨b,0,none⟩,c,eT S n⟩):=⟨0,n,_,bL,rfl,by unfold gQ Sl.R;rw[iH],by rw[bP,Nat.mul_one],λk hk=>by
 show [aO ((eT S n).getD k cD)]=_
 rw[lE hk]
 have h1:=cY (P:=λj=>aO (S j)) hk
 rw[Nat.mul_one] at h1
 rw[Nat.mul_one,List.drop_eq_getElem_cons (by rw[bP];exact hk)]
 rw[List.getElem?_eq_getElem (by rw[bP];exact hk)] at h1
 injection h1 with h1
 rw[h1];rfl⟩
def lF (M:Nat->List En) (n:Nat) (j:Nat):List Rat:=(List.range n).map λi=>Vm.get (M i) (j:Nat)
theorem tO {M:Nat->List En} {n i j:Nat} (h:i<n):(lF M n j).getD i 0=Vm.get (M i) (j:Nat):=by unfold lF;simp[h]
theorem qQ {M:Nat->List En} {n j:Nat}:(lF M n j).length=n:=by unfold lF;simp
def trM (M:Nat->List En) (n:Nat) (j:Nat):List En:=fdF (lF M n j) n
theorem zK {M:Nat->List En} {n i j:Nat} (hi:i<n):Vm.get (trM M n j) (i:Nat)=Vm.get (M i) (j:Nat):=by
 unfold trM
 rw[qN,if_pos oM,Int.toNat_natCast,tO hi]
theorem vS {qs:List Rat} (n:Nat):VOk (fdF qs n) (n:Nat)∧(fdF qs n).length<=n:=⟨⟨kF n,λe he=>by
 obtain⟨i,h1,rfl,h3⟩:=rO e he
 exact⟨by show(0:Int)<=(i:Int);omega,by show(i:Int)<(n:Nat);omega,h3⟩⟩,tL n⟩
theorem nM {qs:List Rat} {B k:Nat} (h:∀i,i<k->rb (qs.getD i 0) B):rbE (fdF qs k) B:=λe he=>by
 obtain⟨i,h1,rfl,_⟩:=rO e he
 exact h i h1
open Classical in
noncomputable def lvl (es:List En) (i k j:Nat):Nat:=if ∃e∈es.take k,e.1=(j:Nat) then i+1 else i
theorem aQj {es:List En} {i j:Nat}:lvl es i 0 j=i:=if_neg λ⟨e,he,_⟩=>by cases he
theorem bDk {es:List En} {i k j:Nat} (hk:k<es.length) (h:(es.getD k default).1≠(j:Nat)):lvl es i (k+1) j=lvl es i k j:=by
 unfold lvl
 have e1:es.take (k+1)=es.take k++[es.getD k default]:=by rw[List.take_add_one,List.getElem?_eq_getElem hk,gd hk];rfl
 rw[e1]
 congr 1
 refine propext ⟨λ⟨e,he,h2⟩=>?_,λ⟨e,he,h2⟩=>⟨e,List.mem_append_left _ he,h2⟩⟩
 rcases List.mem_append.1 he with he|he
 ·exact⟨e,he,h2⟩
 rw[List.mem_singleton.1 he] at h2;exact absurd h2 h
theorem bDl {es:List En} {i k j:Nat} (ha:Asc es) (hk:k<es.length) (h:(es.getD k default).1=(j:Nat)):lvl es i k j=i∧lvl es i (k+1) j=i+1:=by
 have e1:es.take (k+1)=es.take k++[es.getD k default]:=by rw[List.take_add_one,List.getElem?_eq_getElem hk,gd hk];rfl
 refine⟨if_neg λ⟨e,he,h2⟩=>?_,if_pos ⟨es.getD k default,by rw[e1];simp,h⟩⟩
 have h3:Asc (es.take (k+1)):=ha.sublist (List.take_sublist _ _)
 rw[e1] at h3
 have:=(List.pairwise_append.1 h3).2.2 e he _ (.head _)
 omega
theorem aWf {es:List En} {i j:Nat} {qs:List Rat} (hq:qs.getD i 0=Vm.get es (j:Nat)):fdF qs (lvl es i es.length j)=fdF qs (i+1):=by
 unfold lvl
 rw[List.take_length]
 split
 ·rfl
 next h=>
 have:qs.getD i 0=0:=hq.trans (gA λe he h2=>h ⟨e,he,h2⟩)
 show _=if qs.getD i 0=0 then fdF qs i else _
 rw[if_pos this]
abbrev trB (m:MatM) (n:Nat) (H:List CV):BL:=[(24,0,m.C),(24,0,[iC 0,iC 0,.v (.slice none 0 0)]),(24,0,[iC n,iC n,.s 3 n]),(54,1,H),(24,0,[iC n,iC n,.s 3 n])]
theorem vT {m:MatM} {n:Nat} {P:Nat->CV} (h:∀j,j<n->cW (P j)=true):scB 5 (trB m n (cB n P)):=scB.cons rfl (scB.cons rfl (scB.cons rfl (scB.cons (List.all_eq_true.2 λc hc=>iS (aE h c hc)) (scB.cons rfl scB.nil))))
abbrev trF (n:Nat) (A:Nat->Option Nat) (cap:Nat->Nat) (G:Nat->List EntM):Fam:=⟨65,4,n,A,cap,λj=>ecs (G j)⟩
abbrev trO (m:MatM) (n i:Nat):List (Nat×DV):=[(21,.c (iC i)),(2,.c (.p 1 0)),(4,.c (.p 4 0)),(19,.c (gQ m.d)),(20,.c (iC (m.d.l.length:Nat)))]
abbrev trI (m:MatM) (n i k:Nat):List (Nat×DV):=(28,.c (iC k))::(5,.c (iC i))::(26,.c (aO (m.d.l.getD i cD)))::(27,.c (iC ((m.d.l.getD i cD).l.length:Nat)))::trO m n i
def oTr:Ord:=.joinX [] [2000,1,2002,3,2004,5,2006,7,2008,2010,2011,12] (.alt 9 (trS [13,2014,15,16,2017,18]) (.alt 13 (.alt 2014 (.alt 9 (trS [15,16,2017,18]) (.alt 15 (trS [9,16,2017,18]) .nil)) .nil) .nil))
abbrev aQk:FuncId:=31
theorem bOu:Ent Tryz.prog aQk:=Ent.of func31 rfl kR
theorem bOv:Tryz.prog.funcs[aQk]? =some Tryz.f31:=func31
theorem aC {i j:Nat} (c:CV) (h:cW c=true):swC i j c=c:=by cases c<;>first|rfl|cases h
theorem aZ {l:List CV} {n:Nat} (h:∀c∈l,cW c=true):l.all (scC n)=true:=List.all_eq_true.2 λc hc=>iS (h c hc)
def bOw (own:Bool) (M:Nat->List En) (n:Nat) (g:MatM×(Nat->Sl EntM)):Out:=match own with
 |true=>⟨.t [.a [iC n,iC n,.s 0 n],.c (iC 0)],[(54,1,cB n λj=>aO (g.2 j))],∀j,j<n->Ek (g.2 j).l (trM M n j)⟩
 |false=>⟨.t [.a g.1.C,.c (iC 0)],[],Mx g.1 (trM M n) n⟩
theorem aEr {i j n:Nat} {P:Nat->CV} (h:∀j,j<n->cW (P j)=true):(cB n P).map (swC i j)=cB n P:=(List.map_congr_left λc hc=>aC c (aE h c hc)).trans (List.map_id _)
theorem aYr (own:Bool) (m:MatM) {M:Nat->List En} {n B:Nat} (h:Mx m M n) (hb:rbM M n B) (hB:B<=17179869184) (hn:n<=4096):Ctr Tryz.prog aQk [true] [.a m.C] [] (bOw own M n):=by
 obtain⟨mr,mc,md⟩:=m
 obtain rfl:mr=(n:Nat):=h.r
 obtain rfl:mc=(n:Nat):=h.c
 have hl:md.l.length=n:=h.ln
 refine aX gT bOu bOv rfl rfl rfl bL (λi T es l hi=>by cases hi) (aA gT mxd ⟨[],aEq _ h hb hB hn,rfl,rfl,rfl,λ_ _=>⟨λh2=>absurd trivial h2,λ_=>aA gT mxd ⟨[],bJp n n hn,rfl,rfl,rfl,λ_ _=>?_⟩⟩⟩)
 show Sd _ _ _ _ _ _
 refine aOg tSd 65 4 n bL (eZ tSd (l:=List.replicate n (.v (.slice none 0 0))) 3 (cB n (hdP (λ_=>none) (λ_=>0) λ_=>[])) rfl (by rw[bP,List.length_replicate]) (λk c c' h1 h2=>?_) ?_)
 ·have hk:k<n:=by have:=bK h1;simpa using this
  have h3:=cY (P:=hdP (λ_=>none) (λ_=>0) λ_=>[]) hk
  rw[Nat.mul_one,h2] at h3
  injection h3 with h3
  rw[h3,(List.mem_replicate.1 (List.mem_of_getElem? h1)).2]
  exact LeC.nilh
 refine bV (λ_=>true) (λg:Nat×(Nat->Option Nat)×(Nat->Nat)×(Nat->List EntM)=>trO ⟨n,n,md⟩ n g.1) (λg=>trB ⟨n,n,md⟩ n (cB n (hdP g.2.1 g.2.2.1 g.2.2.2))) (λg=>[trF n g.2.1 g.2.2.1 g.2.2.2]) (λg=>g.1<=n∧∀j,j<n->Ek (g.2.2.2 j) (fdF (lF M n j) g.1)) (λg=>n-g.1) λhM=>⟨bA hM (chg:=λg:Nat×(Nat->Option Nat)×(Nat->Nat)×(Nat->List EntM)=>trO ⟨n,n,md⟩ n g.1) (bls:=λg=>trB ⟨n,n,md⟩ n (cB n (hdP g.2.1 g.2.2.1 g.2.2.2))) (fls:=λg=>[trF n g.2.1 g.2.2.1 g.2.2.2]) (0,λ_=>none,λ_=>0,λ_=>[]) ⟨Nat.zero_le _,λj _=>⟨rfl,λk hk=>absurd hk (Nat.not_lt_zero _)⟩⟩ rfl ⟨rfl,rfl,rfl,rfl,rfl⟩ ⟨rfl,trivial⟩ ⟨rfl,rfl,rfl,rfl,rfl⟩ bL (vT λ_ _=>rfl) rfl,λ⟨i,A,cap,G⟩ ⟨hi,hG⟩=>aA gT mxd ⟨λh2=>aA gT mxd ?_,λh2=>aA gT mxd ?_⟩⟩
 all_goals
  replace hi:i<=n:=hi
  replace hG:∀j,j<n->Ek (G j) (fdF (lF M n j) i):=hG
 ·replace h2:(i:Int)<(md.l.length:Nat):=h2
  have hin:i<n:=by omega
  refine⟨i,⟨rfl,show i<md.l.length by omega⟩,?_⟩
  show Sd _ _ _ _ _ _
  have hes:=h.row i hin
  have hok:=h.ok i hin
  have hle:(md.l.getD i cD).l.length=(M i).length:=hes.ln
  refine bV (λ_=>true) (λg:Nat×(Nat->Option Nat)×(Nat->Nat)×(Nat->List EntM)=>trI ⟨n,n,md⟩ n i g.1) (λg=>trB ⟨n,n,md⟩ n (cB n (hdP g.2.1 g.2.2.1 g.2.2.2))) (λg=>[trF n g.2.1 g.2.2.1 g.2.2.2]) (λg=>g.1<=(M i).length∧∀j,j<n->Ek (g.2.2.2 j) (fdF (lF M n j) (lvl (M i) i g.1 j))) (λg=>(M i).length-g.1) λhM2=>⟨bA hM2 (chg:=λg:Nat×(Nat->Option Nat)×(Nat->Nat)×(Nat->List EntM)=>trI ⟨n,n,md⟩ n i g.1) (bls:=λg=>trB ⟨n,n,md⟩ n (cB n (hdP g.2.1 g.2.2.1 g.2.2.2))) (fls:=λg=>[trF n g.2.1 g.2.2.1 g.2.2.2]) (0,A,cap,G) ⟨Nat.zero_le _,λj hj=>by rw[aQj];exact hG j hj⟩ rfl ⟨rfl,rfl,rfl,rfl,rfl⟩ ⟨rfl,trivial⟩ ⟨rfl,rfl,rfl,rfl,rfl,rfl,rfl,rfl,rfl⟩ bL (vT λ_ _=>rfl) rfl,λ⟨k,A,cap,G⟩ ⟨hk,hG⟩=>aA gT mxd ⟨λh3=>aA gT mxd ?_,λh3=>aA gT mxd ?_⟩⟩
  all_goals
   replace hk:k<=(M i).length:=hk
   replace hG:∀j,j<n->Ek (G j) (fdF (lF M n j) (lvl (M i) i k j)):=hG
  ·replace h3:(k:Int)<((md.l.getD i cD).l.length:Nat):=h3
   have hkl:k<(M i).length:=by omega
   have hm:=dW hkl
   have he:=hes.e k hkl
   have e0:=hok.1.2 _ hm
   obtain⟨j0,hj0⟩:∃j0:Nat,((M i).getD k default).1=(j0:Nat):=⟨((M i).getD k default).1.toNat,by omega⟩
   have hj:j0<n:=by omega
   have hix:((md.l.getD i cD).l.getD k default).ix=(j0:Nat):=he.1.trans hj0
   have hlv:=bDl (i:=i) hok.1.1 hkl hj0
   have lG:(G j0).length<=i:=by rw[(hG j0 hj).ln,hlv.1];exact tL i
   have fin:∀(g:RatM) (A':Option Nat) (c':Nat) (sl:List (Nat×DV)) (r:BL),nF (λ_=>true) [] [] [] sl->Cr g ((M i).getD k default).2->AllC sl (trI ⟨n,n,md⟩ n i k)->Gt 0 ⟨sl,[],trB ⟨n,n,md⟩ n (fG (cB n (hdP A cap G)) (j0*1) [.h A' ((G j0).length+1) c'])++r,[⟨65,4,n,upd A j0 A',upd cap j0 c',upd (λj=>ecs (G j)) j0 (ecs (G j0)++(⟨i,g⟩:EntM).C)⟩]⟩ (σ:=(Nat->Option Nat)×(Nat->Nat)×RatM) (λg=>⟨trI ⟨n,n,md⟩ n i k++[],[],trB ⟨n,n,md⟩ n (cB n (hdP g.1 g.2.1 (upd G j0 (G j0++[⟨i,g.2.2⟩])))),[trF n g.1 g.2.1 (upd G j0 (G j0++[⟨i,g.2.2⟩]))]⟩) (λg=>Cr g.2.2 ((M i).getD k default).2):=λg A' c' sl r ht hg hall=>by
    rw[(vP hj).1,zJ]
    refine @bA _ _ _ _ hM2 _ (λ_:(Nat->Option Nat)×(Nat->Nat)×RatM=>trI ⟨n,n,md⟩ n i k) (λg=>trB ⟨n,n,md⟩ n (cB n (hdP g.1 g.2.1 (upd G j0 (G j0++[⟨i,g.2.2⟩]))))) (λg=>[trF n g.1 g.2.1 (upd G j0 (G j0++[⟨i,g.2.2⟩]))]) _ (upd A j0 A',upd cap j0 c',g) ?_ ?_ ?_ ?_ ?_ ?_ ?_ ?_
    ·exact hg
    ·exact ht
    ·exact⟨rfl,rfl,rfl,rfl,rfl⟩
    ·exact⟨rfl,trivial⟩
    ·exact hall
    ·exact Nat.zero_le _
    ·exact vT λ_ _=>rfl
    rfl
   have apd:∀(g:RatM),(G j0).length+1<=maxLen∧((G j0).length+1)*64<=140737488355328∧∀c∈(⟨i,g⟩:EntM).C,cW c=true:=λg=>⟨by simp only[maxLen];omega,by omega,λc hc=>by
    rcases List.mem_cons.1 hc with rfl|hc
    ·rfl
    exact cP _ c hc⟩
   refine⟨k,⟨rfl,show k<(md.l.getD i cD).l.length by omega⟩,oTr,by kernel_rfl,(Nat->Option Nat)×(Nat->Nat)×RatM,λg=>⟨trI ⟨n,n,md⟩ n i k++[],[],trB ⟨n,n,md⟩ n (cB n (hdP g.1 g.2.1 (upd G j0 (G j0++[⟨i,g.2.2⟩])))),[trF n g.1 g.2.1 (upd G j0 (G j0++[⟨i,g.2.2⟩]))]⟩,λg=>Cr g.2.2 ((M i).getD k default).2,⟨j0,⟨hix,hj,cA hj⟩,⟨_,cY hj,rfl,?_⟩,?_⟩,λ_ _=>?_⟩
   ·exact⟨[],mD ((md.l.getD i cD).l.getD k default).v ((Cr.rq he.2 (hb i hin _ hm)).le hB),rfl,rfl,rfl,λg hg=>⟨rfl,rfl,0,j0,⟨⟨rfl,hj,rfl,rfl,(dH _).symm,(apd g).1,(apd g).2.1,(apd g).2.2⟩,λA' c'=>⟨rfl,j0,⟨hix,hj,cA hj⟩,_,⟨rfl,(vP (A':=none) (c':=0) (e:=default) hj).2⟩,rfl,fin g A' c' _ _ (by rfl) hg (by exact⟨rfl,rfl,rfl,rfl,rfl,rfl,rfl,rfl,rfl⟩)⟩⟩⟩⟩
   ·exact⟨[],mD ((md.l.getD i cD).l.getD k default).v ((Cr.rq he.2 (hb i hin _ hm)).le hB),rfl,rfl,rfl,λg hg=>⟨rfl,⟨_,cY hj,rfl,rfl,0,j0,⟨⟨rfl,hj,rfl,rfl,(dH _).symm,(apd g).1,(apd g).2.1,(apd g).2.2⟩,λA' c'=>⟨rfl,j0,⟨hix,hj,cA hj⟩,_,⟨rfl,(vP (A':=none) (c':=0) (e:=default) hj).2⟩,rfl,fin g A' c' _ _ (by rfl) hg (by exact⟨rfl,rfl,rfl,rfl,rfl,rfl,rfl,rfl,rfl⟩)⟩⟩⟩,rfl,_,cY hj,rfl,0,j0,⟨⟨rfl,hj,rfl,rfl,(dH _).symm,(apd g).1,(apd g).2.1,(apd g).2.2⟩,λA' c'=>⟨rfl,j0,⟨hix,hj,cA hj⟩,_,⟨rfl,(vP (A':=none) (c':=0) (e:=default) hj).2⟩,rfl,fin g A' c' _ _ (by rfl) hg (by exact⟨rfl,rfl,rfl,rfl,rfl,rfl,rfl,rfl,rfl⟩)⟩⟩⟩⟩
   next g hg=>
   exact⟨(k+1:Nat),wi,bA hM2 (chg:=λg:Nat×(Nat->Option Nat)×(Nat->Nat)×(Nat->List EntM)=>trI ⟨n,n,md⟩ n i g.1) (bls:=λg=>trB ⟨n,n,md⟩ n (cB n (hdP g.2.1 g.2.2.1 g.2.2.2))) (fls:=λg=>[trF n g.2.1 g.2.2.1 g.2.2.2]) (k+1,g.1,g.2.1,upd G j0 (G j0++[⟨i,g.2.2⟩])) ⟨⟨hkl,λj hjn=>by
    show Ek (upd G j0 (G j0++[⟨i,g.2.2⟩]) j) (fdF (lF M n j) (lvl (M i) i (k+1) j))
    by_cases hjj:j=j0
    ·subst hjj
     rw[aT,hlv.2]
     have hq:Vm.get (M i) (j:Nat)=((M i).getD k default).2:=by rw[<-hj0];exact oE hok.1.1 hm
     show Ek _ (if _ then _ else _)
     rw[tO hin,hq,if_neg e0.2.2]
     have:=hG j hjn
     rw[hlv.1] at this
     exact oD this hg
    rw[aP hjj,bDk hkl (by rw[hj0];omega)];exact hG j hjn⟩,show(M i).length-(k+1)<(M i).length-k by omega⟩ rfl ⟨rfl,rfl,rfl,rfl,rfl⟩ ⟨rfl,trivial⟩ ⟨rfl,rfl,rfl,rfl,rfl,rfl,rfl,rfl,rfl⟩ bL (vT λ_ _=>rfl) rfl⟩
  replace h3:¬(k:Int)<((md.l.getD i cD).l.length:Nat):=h3
  obtain rfl:k=(M i).length:=by omega
  exact⟨(i+1:Nat),wi,bA hM (chg:=λg:Nat×(Nat->Option Nat)×(Nat->Nat)×(Nat->List EntM)=>trO ⟨n,n,md⟩ n g.1) (bls:=λg=>trB ⟨n,n,md⟩ n (cB n (hdP g.2.1 g.2.2.1 g.2.2.2))) (fls:=λg=>[trF n g.2.1 g.2.2.1 g.2.2.2]) (i+1,A,cap,G) ⟨⟨hin,λj hj=>by
   have:=hG j hj
   rw[aWf (tO hin)] at this
   exact this⟩,show n-(i+1)<n-i by omega⟩ rfl ⟨rfl,rfl,rfl,rfl,rfl⟩ ⟨rfl,trivial⟩ ⟨rfl,rfl,rfl,rfl,rfl⟩ bL (vT λ_ _=>rfl) rfl⟩
 replace h2:¬(i:Int)<(md.l.length:Nat):=h2
 obtain rfl:i=n:=by omega
 show Sd _ _ _ _ _ _
 refine mL tSd 3 0 (cB i λj=>aO (hdS A cap G j)) rfl rfl rfl (by rw[bP,bP]) (zI bJq) ?_
 have hE:∀j,j<i->Ek (hdS A cap G j).l (trM M i j):=(‹_∧_›:_∧∀j,j<i->Ek (G j) (fdF (lF M i j) i)).2
 cases own with
 |true=>
  refine aBt tSd 0 3 rfl rfl bL bL rfl ⟨_,aEr λ_ _=>rfl,bL,aA gT mxd ⟨(⟨0,0,cD⟩,hdS A cap G),hE,dU ⟨rfl,rfl⟩ rfl bL (scB.cons (aZ (aE λ_ _=>rfl)) scB.nil) rfl (ClB.one (List.all_eq_true.2 (aE λ_ _=>rfl)))⟩⟩
 |false=>
  refine qJ tSd 3 rfl bL (aE λ_ _=>rfl) bL rfl λA2 c2=>?_
  refine mL tSd 4 1 [iC i,iC i,gQ ⟨A2.map λb=>⟨b,0,none⟩,c2,eT (hdS A cap G) i⟩] rfl rfl rfl rfl (nK (k0:=2) rfl qP) (aA gT mxd ⟨(⟨i,i,⟨A2.map λb=>⟨b,0,none⟩,c2,eT (hdS A cap G) i⟩⟩,λ_=>cD),⟨rfl,rfl,iH,λj hj=>?_,λj hj=>vS i⟩,aN ⟨rfl,rfl⟩ rfl trivial⟩)
  show Ek ((eT (hdS A cap G) i).getD j cD).l _
  rw[lE hj]
  exact hE j hj
theorem aHq (m:MatM) {M:Nat->List En} {n B:Nat} (h:Mx m M n) (hb:rbM M n B) (hB:B<=17179869184) (hn:n<=4096):Ctr Tryz.prog aQk [true] [.a m.C] [] (λg:MatM=>⟨.t [.a g.C,.c (iC 0)],[],Mx g (trM M n) n⟩):=(aYr false m h hb hB hn).re λg hg=>⟨g.1,hg,rfl,rfl,rfl⟩
theorem bJr (m:MatM) {M:Nat->List En} {n B:Nat} (h:Mx m M n) (hb:rbM M n B) (hB:B<=17179869184) (hn:n<=4096):Ctr Tryz.prog aQk [true] [.a m.C] [] (λg:Nat->Sl EntM=>⟨.t [.a [iC n,iC n,.s 0 n],.c (iC 0)],[(54,1,cB n λj=>aO (g j))],∀j,j<n->Ek (g j).l (trM M n j)⟩):=(aYr true m h hb hB hn).re λg hg=>⟨g.2,hg,rfl,rfl,rfl⟩
end Go.Proofs.YtlhdigjbokkbiaaGreat
