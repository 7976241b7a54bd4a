/- For every input the law UpdateUndo returns true, and what came in reads as it did. Part 1 of 7: Vga Vgb Vgc Vgd Vge Vgf Vgg Vgh Msort Mnat Mrat Ty Vgi Wa Vgj Vgk Ra Rb Rd Re Rc Msel Vgl Rf Na Mknu Nb Nc. -/
import Derived.WalkKit
import Derived.ProofKit
import Derived.OrdersHeld
import Derived.OrdersIn
import Derived.OwnWalkIn
import Derived.WalkSpells
import Derived.Maps.AppendAt
import Derived.Test.YtlhdigjbokkbiaaGreatRows
import Derived.DataReads
set_option maxHeartbeats 4000000
set_option linter.unusedVariables false
set_option linter.unusedSimpArgs false
namespace Go.Vg
theorem _root_.Go.oM {p:Prop} (h:p:=by omega):p:=h
theorem _root_.Go.dC {p:Prop} (h:p:=by decide):p:=h
theorem _root_.Go.kR {p:Prop} (h:p:=by kernel_rfl):p:=h
theorem _root_.Go.oS {p:Prop} (h:p:=by first|omega|simp):p:=h
theorem _root_.Go.bL {a b:Nat} (h:Nat.ble a b=true:=by rfl):a<=b:=Nat.le_of_ble_eq_true h
open Go.RowKit
def Fm (dl:List Deferred) (n:Nat) (f:Nat->Value) (a:Act):Prop:=a.defers=dl∧a.tmps.size=n∧∀i,a.tmps.getD i undef=f i
def st (f:Nat->Value) (d:Nat) (v:Value):Nat->Value:=λi=>match Nat.beq i d with
 |true=>v
 |false=>f i
theorem aKd {i d:Nat} (h:i≠d):Nat.beq i d=false:=by
 cases e:Nat.beq i d with
 |false=>rfl
 |true=>exact absurd (Nat.eq_of_beq_eq_true e) h
def ev (f:Nat->Value):Operand->Value
 |.tmp t=>f t
 |.const v=>v
 |.global g=> .pointer (some ⟨g,0,none⟩)
 |.func k=> .func (.func k) #[] #[]
theorem Fm.eval {n:Nat} {f:Nat->Value} {dl:List Deferred} {a:Act} (h:Fm dl n f a):a.eval=ev f:=by
 funext x
 cases x with
 |tmp t=>exact h.2.2 t
 |const v=>rfl
 |global g=>rfl
 |func k=>rfl
theorem sZ (f:Nat->Value) (d:Nat) (v:Value):st f d v d=v:=by simp[st]
theorem gS (f:Nat->Value) (d i:Nat) (v:Value) (h:i≠d):st f d v i=f i:=by
 have:Nat.beq i d=false:=aKd h
 simp[st,this]
theorem Fm.put {n:Nat} {f:Nat->Value} {dl:List Deferred} {a:Act} (h:Fm dl n f a) {d:Nat} (hd:d<n) (v:Value):Fm dl n (st f d v) (a.put (some d) v):=by
 refine⟨h.1,by simp[Act.put,h.2.1],λi=>?_⟩
 by_cases hi:i=d
 ·subst hi
  rw[sZ]
  simp[Act.put,h.2.1,hd]
 rw[gS _ _ _ _ hi,<-h.2.2 i]
 simp[Act.put,Array.getElem?_setIfInBounds_ne (Ne.symm hi)]
structure Po where
 nrm:(Nat->Value)->World->Prop
 ext:Nat->(Nat->Value)->World->Prop
 ret:(Nat->Value)->World->Prop
def up (dl:List Deferred) (n:Nat) (Q:Po):Exit->Act->World->Prop
 |.normal,a,w=>∃f,Fm dl n f a∧Q.nrm f w
 |.exit i,a,w=>∃f,Fm dl n f a∧Q.ext i f w
 |.ret,a,w=>∃f,Fm dl n f a∧Q.ret f w
 |_,_,_=>False
abbrev fen (ro:Option Nat):Fence:={fn:=λ_=>True,depth:=none,alive:=false,round:=ro}
def WP (P:Program) (n:Nat) (c:Code) (Q:Po) (f:Nat->Value) (w:World):Prop:=∀ro dl a,Fm dl n f a->c.wpIn (fen ro) 0 P (up dl n Q) a w
theorem oV {ro:Option Nat} {o:Option FuncId}:∀f,o=some f->(fen ro).fn f:=λ_ _=>trivial
section rules
variable {P:Program} {n:Nat} {Q:Po} {f:Nat->Value} {w:World}
theorem bW (h:Q.nrm f w):WP P n .skip Q f w:=λ_ dl a ha=>wpIn_skip ⟨f,ha,h⟩
theorem fB {i:Nat} (h:Q.ext i f w):WP P n (.exit i) Q f w:=λ_ dl a ha=>wpIn_exit ⟨f,ha,h⟩
theorem cE (h:Q.ret f w):WP P n .ret Q f w:=λ_ dl a ha=>wpIn_ret ⟨f,ha,h⟩
theorem aAd {c:Code} {Q':Po} (h:WP P n c Q f w) (h1:∀f w,Q.nrm f w->Q'.nrm f w) (h2:∀i f w,Q.ext i f w->Q'.ext i f w) (h3:∀f w,Q.ret f w->Q'.ret f w):WP P n c Q' f w:=
 λro dl a ha=>wpIn_mono (h ro dl a ha) λe a w hq=>by
  cases e with
  |normal=>obtain⟨f,hf,hh⟩:=hq;exact⟨f,hf,h1 f w hh⟩
  |exit i=>obtain⟨f,hf,hh⟩:=hq;exact⟨f,hf,h2 i f w hh⟩
  |ret=>obtain⟨f,hf,hh⟩:=hq;exact⟨f,hf,h3 f w hh⟩
  |goto l=>exact hq
  |panic c=>exact hq
  |outgrown=>exact hq
theorem bB {x y:Code} (h:WP P n x ⟨λf w=>WP P n y Q f w,Q.ext,Q.ret⟩ f w):WP P n (.seq x y) Q f w:=λro dl a ha=>
 wpIn_seq (wpIn_mono (h ro dl a ha) λe a w hq=>by
  cases e with
  |normal=>obtain⟨f,hf,hh⟩:=hq;exact hh ro dl a hf
  |exit i=>exact hq
  |ret=>exact hq
  |goto l=>exact hq
  |panic c=>exact hq
  |outgrown=>exact hq)
theorem oI {x y:Code} (M:(Nat->Value)->World->Prop) (h:WP P n x ⟨M,Q.ext,Q.ret⟩ f w) (h2:∀f w,M f w->WP P n y Q f w):WP P n (.seq x y) Q f w:=
 bB (aAd h h2 (λ_ _ _ h=>h) (λ_ _ h=>h))
theorem kO {c:Operand} {x y:Code} {b:Bool} (hc:ev f c= .bool b) (ht:b=true->WP P n x Q f w) (he:b=false->WP P n y Q f w):WP P n (.cond c x y) Q f w:=λro dl a ha=>
 wpIn_cond_split (t:=b) (by rw[ha.eval];exact hc) (λh=>ht h ro dl a ha) (λh=>he h ro dl a ha)
theorem lK {c:Operand} {x y:Code} (hc:ev f c= .bool true) (ht:WP P n x Q f w):WP P n (.cond c x y) Q f w:=kO hc (λ_=>ht) (λh=>by cases h)
theorem jW {c:Operand} {x y:Code} (hc:ev f c= .bool false) (he:WP P n y Q f w):WP P n (.cond c x y) Q f w:=kO hc (λh=>by cases h) (λ_=>he)
theorem cF {id:Nat} {c:Code} (h:WP P n c ⟨Q.nrm,λj f w=>match Nat.beq j id with|true=>Q.nrm f w|false=>Q.ext j f w,Q.ret⟩ f w):WP P n (.block id c) Q f w:=λro dl a ha=>
 wpIn_block (wpIn_mono (h ro dl a ha) λe a w hq=>by
  cases e with
  |normal=>exact hq
  |exit i=>
   obtain⟨f,hf,hh⟩:=hq
   show if i=id then _ else _
   by_cases hi:i=id
   ·have hb:Nat.beq i id=true:=by simpa using hi
    simp only[hb] at hh
    rw[if_pos hi]
    exact⟨f,hf,hh⟩
   have hb:Nat.beq i id=false:=aKd hi
   simp only[hb] at hh
   rw[if_neg hi]
   exact⟨f,hf,hh⟩
  |ret=>exact hq
  |goto l=>exact hq
  |panic c=>exact hq
  |outgrown=>exact hq)
theorem fU {σ:Type} {c:Code} (I:σ->(Nat->Value)->World->Prop) (μ:σ->Nat) (s0:σ) (h0:I s0 f w)
 (hr:∀s f w,I s f w->WP P n c ⟨λf' w'=>∃s',I s' f' w'∧μ s'<μ s,Q.ext,Q.ret⟩ f w):WP P n (.loop c) Q f w:=by
 intro ro dl a ha b kk cs hro hb hr0
 have key:∀k s f w a,μ s=k->I s f w->Fm dl n f a->
  ∃e a' w',up dl n Q e a' w'∧ArrivesIn (Machine.fenced P (fen ro)) P (lone (b.atR a (.code c::.inLoop c::kk)) cs w) b kk cs e a' w':=by
  intro k
  induction k using Nat.strongRecOn with
  |_ k ih=>
   intro s f w a hk hI ha
   obtain⟨e,a1,w1,hq,harr⟩:=hr s f w hI ro dl a ha b (.inLoop c::kk) cs hro hb hr0
   cases e with
   |normal=>
    obtain⟨f1,hf1,s1,hI1,hlt⟩:=hq
    obtain⟨e2,a2,w2,hq2,harr2⟩:=ih (μ s1) (hk▸hlt) s1 f1 w1 a1 rfl hI1 hf1
    exact⟨e2,a2,w2,hq2,.of_steps (StepsIn.trans harr (.one (fenced_calm hb hr0 rfl) stepR_inLoop)) harr2⟩
   |exit i=>exact⟨.exit i,a1,w1,hq,.pass (x:=.inLoop c) rfl (λ_ _=> .inl (by simp)) harr⟩
   |ret=>exact⟨.ret,a1,w1,hq,.pass (x:=.inLoop c) rfl (λ_ _=> .inl (by simp)) harr⟩
   |goto l=>exact hq.elim
   |panic ch=>exact hq.elim
   |outgrown=>exact hq.elim
 obtain⟨e,a',w',hq,harr⟩:=key _ s0 f w a rfl h0 ha
 exact⟨e,a',w',hq,.of_steps (.one (fenced_calm hb hr0 rfl) stepR_loop) harr⟩
end rules
/-! ### an operation of a round is as everywhere -/
def ndO (o:Oper):Bool:=match o.op with
 |.defer _=>false
 |_=>true
def ndA (l:List Oper):Bool:=l.all ndO
theorem xI {o:Oper} (h:ndO o=true):∀c,o.op≠.defer c:=λc hc=>by
 unfold ndO at h
 rw[hc] at h
 cases h
section round
variable {P:Program} {n:Nat} {Q:Po} {ro:Option Nat} {dl:List Deferred} {ops:Array Oper}
theorem qZ:¬LetsOut (up dl n Q):=λ⟨_,_,h⟩=>h
theorem bGk {o:Oper} {a:Act} {w:World} {K:Act->World->Prop} (hd:ndO o=true) (h:o.wp P a w K (up dl n Q)):o.wpIn (fen ro) 0 P a w K (up dl n Q):=by
 refine⟨oV,?_⟩
 rw[Oper.semAt_plain (fen ro) a.eval o (xI hd)]
 unfold Oper.wp at h
 generalize (execOp a.eval o).run P w=r at h
 cases r with
 |ok x w'=>
  cases x with
  |value v=>exact h
  |skip=>exact h
  |defer d=>exact h
  |enter f args=>
   refine⟨λhh=>(by cases hh),?_⟩
   have h2:CallsIn Fence.wide 0 P f args w' _:=callsIn_wide.2 h
   exact CallsIn.mono (F:=fen ro) (n:=0) h2 λe w'' hh=>by cases e<;>exact hh
  |row r args=>
   exact⟨λhh=>(by cases hh),λc cs _=>by
    obtain⟨v,w',r,s⟩:=(show Rows P _ _ _ _ from h) c cs
    exact⟨v,w',r,stepsIn_wide.2 s⟩⟩
  |_=>exact h.elim
 |halt x w'=>cases x<;>first|exact h|exact h.elim
theorem aCk:∀{l:List Oper} {a:Act} {w:World},ndA l=true->wpList P ops (up dl n Q) l a w->wpListIn (fen ro) 0 P ops (up dl n Q) l a w
 |[],a,w,_,h=>h
 |o::l,a,w,hd,h=>by
  simp only[ndA,List.all_cons,Bool.and_eq_true] at hd
  unfold wpList at h
  unfold wpListIn
  split
  ·next hw=>
   rw[if_pos hw] at h
   rcases h with h|h
   ·exact bGk hd.1 (Oper.wp_mono (λa w hh=>aCk hd.2 hh) h)
   exact absurd h.2 qZ
  next hw=>
  rw[if_neg hw] at h
  exact⟨oV,aCk hd.2 h⟩
theorem aFt (hd:ndA ops.toList=true):∀{fuel:Nat} {listed:Array Bool} {a:Act} {w:World},wpAny P .any ops (up dl n Q) fuel listed a w->wpAnyIn (fen ro) 0 P .any ops (up dl n Q) fuel listed a w
 |0,_,_,_,h=>h
 |fuel+1,listed,a,w,h=>by
  refine⟨h.1,λi hi=>?_⟩
  have h1:=h.2 i hi
  unfold wpOp at h1
  unfold wpOpIn
  split
  ·next hn=>simp only[hn] at h1;exact aFt hd h1
  next o ho=>
  simp only[ho] at h1
  have hdo:ndO o=true:=List.all_eq_true.1 hd o (Array.mem_toList_iff.2 (Array.mem_of_getElem? ho))
  split
  ·next hw=>
   rw[if_pos hw] at h1
   rcases h1 with h1|h1
   ·exact bGk hdo (Oper.wp_mono (λa w hh=>aFt hd hh) h1)
   exact absurd h1.2 qZ
  next hw=>
  rw[if_neg hw] at h1
  exact⟨oV,aFt hd h1⟩
end round
end Go.Vg
namespace Go.Vg
open Go.RowKit
section lists
variable {P:Program} {n:Nat} {Q:Po} {f:Nat->Value} {w w':World} {ops:Array Oper} {o:Oper} {rest:List Oper} {d:Nat} {v:Value}
def RL (P:Program) (n:Nat) (ops:Array Oper) (l:List Oper) (Q:Po) (f:Nat->Value) (w:World):Prop:=∀dl a,Fm dl n f a->wpList P ops (up dl n Q) l a w
theorem aV {id:Nat} {l:List Oper} (h:RL P n l.toArray l Q f w) (hd:ndA l=true:=by rfl):WP P n (.region id l.toArray false) Q f w:=λ_ dl a ha=>wpIn_region_lit (aCk hd (h dl a ha))
theorem RL.nil (h:Q.nrm f w):RL P n ops [] Q f w:=λ_ _ ha=>wpList_nil ⟨f,ha,h⟩
theorem RL.val (hg:o.guard=none) (hd:o.dst=some d) (hn:d<n) (hr:(execOp (ev f) o).run P w= .ok (.value v) w') (h:RL P n ops rest Q (st f d v) w'):RL P n ops (o::rest) Q f w:=λdl a ha=>
 wpList_plain hg λK hK=>by
  unfold Oper.wp
  rw[ha.eval,hr]
  exact hK _ _ (h _ _ (by rw[hd];exact ha.put hn v))
theorem RL.skip (hg:o.guard=none) (hd:o.dst=none) (hr:(execOp (ev f) o).run P w= .ok .skip w') (h:RL P n ops rest Q f w'):RL P n ops (o::rest) Q f w:=λdl a ha=>
 wpList_plain hg λK hK=>by
  unfold Oper.wp
  rw[ha.eval,hr]
  exact hK _ _ (h _ _ (by rw[hd];exact ha))
theorem RL.call {k:FuncId} {args:Array Value} {Post:Value->World->Prop} (hg:o.guard=none) (hd:o.dst=some d) (hn:d<n) (hr:(execOp (ev f) o).run P w= .ok (.enter k args) w)
 (hc:Calls P k args w λe w'=>∃v,e= .returned v∧Post v w') (h:∀v w',Post v w'->RL P n ops rest Q (st f d v) w'):RL P n ops (o::rest) Q f w:=λdl a ha=>
 wpList_plain hg λK hK=>by
  unfold Oper.wp
  rw[ha.eval,hr]
  refine hc.mono λe w1 ⟨u,he,hp⟩=>?_
  subst he
  exact hK _ _ (h u w1 hp _ _ (by rw[hd];exact ha.put hn u))
theorem aCl {dl:List Deferred} {a:Act} (ha:Fm dl n f a) {j t:Nat} {b:Bool} (hj:(ops[j]?).bind (·.dst)=some t) (hf:f t= .bool b):yielded ops a.tmps j=some b:=by
 have h:=ha.2.2 t
 rw[hf] at h
 unfold yielded
 rw[hj]
 rcases Nat.lt_or_ge t a.tmps.size with hl|hl
 ·simp only[Option.bind_some]
  simp[Array.getD,hl] at h
  simp[hl,h]
 simp[Array.getD,Nat.not_lt.2 hl,undef] at h
theorem jH {dl:List Deferred} {a:Act} (ha:Fm dl n f a) {j t:Nat} {b want:Bool} (hg:o.guard=some (j,want)) (hj:(ops[j]?).bind (·.dst)=some t) (hf:f t= .bool b):
 Region.wanted o (yielded ops a.tmps)=(b==want):=by
 unfold Region.wanted
 simp only[hg,aCl ha hj hf]
 cases b<;>cases want<;>rfl
theorem RL.gval {j t:Nat} {want:Bool} (hg:o.guard=some (j,want)) (hj:(ops[j]?).bind (·.dst)=some t) (hf:f t= .bool want) (hd:o.dst=some d) (hn:d<n)
 (hr:(execOp (ev f) o).run P w= .ok (.value v) w') (h:RL P n ops rest Q (st f d v) w'):RL P n ops (o::rest) Q f w:=λdl a ha=>
 wpList_step λK hK=>by
  have hw:=jH ha hg hj hf
  rw[hw]
  simp only[BEq.rfl,if_true]
  unfold Oper.wp
  rw[ha.eval,hr]
  exact hK _ _ (h _ _ (by rw[hd];exact ha.put hn v))
theorem RL.gno {j t:Nat} {want:Bool} (hg:o.guard=some (j,want)) (hj:(ops[j]?).bind (·.dst)=some t) (hf:f t= .bool (!want)) (hd:o.dst=some d) (hn:d<n)
 (h:RL P n ops rest Q (st f d undef) w):RL P n ops (o::rest) Q f w:=λdl a ha=>
 wpList_step λK hK=>by
  have hw:=jH ha hg hj hf
  rw[hw]
  have:((!want)==want)=false:=by cases want<;>rfl
  rw[this]
  simp only[Bool.false_eq_true,if_false]
  exact hK _ _ (h _ _ (by rw[hd];exact ha.put hn undef))
end lists
/-! ### whatever order -/
def MT:Nat:=143
def jT (o:Oper):Bool:=match o.op with
 |.load ..=>true
 |.call {callee:=.builtin .len,argTypes:=⟨[t]⟩,..}=>Nat.beq t MT
 |_=>false
def calm (o:Oper):Bool:=match o.op with
 |.move _|.assign _|.pick ..|.load ..|.binOp ..|.unOp ..|.convert ..|.field ..|.fieldAddr ..|.indexAddr ..|.index ..|.slice ..|.extract ..|.build ..|.makeFunc ..|.nilCheck _=>true
 |.call {callee:=.builtin .len,..}|.call {callee:=.builtin .cap,..}|.call {callee:=.builtin .min,..}|.call {callee:=.builtin .max,..}=>true
 |_=>false
def rA (ops:Array Oper) (j:Nat):Bool:=match ops[j]? with
 |some o=>calm o
 |none=>false
def aIs (ops:Array Oper) (j:Nat):Bool:=match ops[j]? with
 |some o=>jT o
 |none=>false
def xJ (ops:Array Oper) (i:Nat):Array Bool:=ops.foldl (λacc o=>acc.push (o.after.any λe=>Region.binds .any e&&(e.on==i||acc.getD e.on false))) #[]
def mH (ops:Array Oper) (i j:Nat):Bool:=(xJ ops i).getD j false
def aFu (ops:Array Oper) (listed:Array Bool) (i:Nat):Bool:=
 let d:=xJ ops i
 (List.range d.size).all λk=>!(d.getD k false)||(!(listed.getD k true)&&match ops[k]? with
  |some o=>o.after.any λe=>Region.binds .any e&&(e.on==i||d.getD e.on false)
  |none=>false)
def tW (ops:Array Oper) (j:Nat):Bool:=
 (List.range ops.size).all λi=>i==j||!aIs ops i||mH ops i j
def Oks (ops:Array Oper) (S:World->Prop) (j:Nat) (w w':World):Prop:=(rA ops j=true∧w'=w)∨tW ops j=true∨S w'
def dQ (P:Program) (ops:Array Oper) (Q:Exit->Act->World->Prop) (S:World->Prop):Nat->Array Bool->Act->World->Prop
 |0,listed,a,w=>Region.ready .any ops listed=[]∧Q .normal a w
 |fuel+1,listed,a,w=>
  (Region.ready .any ops listed=[]->Q .normal a w)∧
  ∀i∈Region.ready .any ops listed,wpOp P ops Q i (λa' w'=>Oks ops S i w w'∧dQ P ops Q S fuel (listed.setIfInBounds i true) a' w') a w
section any
variable {P:Program} {ops:Array Oper} {Q:Exit->Act->World->Prop} {S:World->Prop}
theorem tX:∀(fuel:Nat) (listed:Array Bool) (a:Act) (w:World),dQ P ops Q S fuel listed a w->wpAny P .any ops Q fuel listed a w
 |0,_,_,_,h=>h
 |fuel+1,_,_,_,h=>⟨h.1,λi hi=>wpOp_mono (λa' w' h'=>tX fuel _ a' w' h'.2) (h.2 i hi)⟩
theorem rZ {S':World->Prop} (hS:∀w,S' w->S w):∀(fuel:Nat) (listed:Array Bool) (a:Act) (w:World),dQ P ops Q S' fuel listed a w->dQ P ops Q S fuel listed a w
 |0,_,_,_,h=>h
 |fuel+1,_,_,_,h=>⟨h.1,λi hi=>wpOp_mono (λa' w' h'=>⟨h'.1.imp id (Or.imp id (hS w')),rZ hS fuel _ a' w' h'.2⟩) (h.2 i hi)⟩
theorem xK {i j:Nat} (hl:tW ops j=true) (hij:i≠j) (hi:i<ops.size) (hr:aIs ops i=true):mH ops i j=true:=by
 unfold tW at hl
 simp only[List.all_eq_true,List.mem_range] at hl
 have h:=hl i hi
 simpa only[hr,Bool.not_true,Bool.or_false,Bool.or_eq_true,beq_iff_eq,hij,false_or] using h
theorem tY {i k:Nat} {listed:Array Bool} (h:aFu ops listed i=true) (hk:mH ops i k=true):
 listed.getD k true=false∧∃o,ops[k]? =some o∧∃e∈o.after,Region.binds .any e=true∧(e.on=i∨mH ops i e.on=true):=by
 unfold aFu at h
 simp only[List.all_eq_true,List.mem_range] at h
 have hlt:k<(xJ ops i).size:=by
  unfold mH at hk
  rcases Nat.lt_or_ge k (xJ ops i).size with h'|h'
  ·exact h'
  simp[Array.getD,Nat.not_lt.2 h'] at hk
 have h1:=h k hlt
 unfold mH at hk
 rw[hk] at h1
 simp only[Bool.not_true,Bool.false_or,Bool.and_eq_true,Bool.not_eq_true'] at h1
 refine⟨h1.1,?_⟩
 have h2:=h1.2
 split at h2
 ·next o ho=>
  obtain⟨e,he,hb⟩:=Array.any_eq_true'.1 h2
  simp only[Bool.and_eq_true,Bool.or_eq_true,beq_iff_eq] at hb
  exact⟨o,ho,e,he,hb.1,hb.2⟩
 cases h2
theorem xL {i:Nat} {oi:Oper} {v:Value} {S0:World->Prop} (hi:ops[i]? =some oi) (hc:calm oi=true) (hS0:(∀w,S0 w)∨(jT oi=true∧∀w,S w->S0 w))
 (hcl:jT oi=true->∀k,mH ops i k=true->∃o,ops[k]? =some o∧∃e∈o.after,Region.binds .any e=true∧(e.on=i∨mH ops i e.on=true))
 (hsel:∀(j:Nat) (o:Oper) cs b,ops[j]? =some o->o.op≠.select cs b) (hQ:∀c a w,Q (.panic c) (a.put oi.dst v) w->Q (.panic c) a w):
 ∀(fuel:Nat) (listed:Array Bool) (a:Act) (w:World),
  (∀j oj,ops[j]? =some oj->j≠i->listed.getD j true=false->(∀e∈oj.after,Region.binds .any e=true->e.on≠i)->oi.apart ops oj=true)->
  (jT oi=true->∀k,mH ops i k=true->listed.getD k true=false)->
  i∈Region.ready .any ops listed->YieldsIf P ops S0 oi v a->S0 w->
  dQ P ops Q S fuel (listed.setIfInBounds i true) (a.put oi.dst v) w->dQ P ops Q S (fuel+1) listed a w:=by
 have hci:rA ops i=true:=by unfold rA;rw[hi];exact hc
 intro fuel
 induction fuel with
 |zero=>
  intro listed a w _ _ hr hy hS H
  refine⟨λh=>(by rw[h] at hr;cases hr),λj hj=>?_⟩
  by_cases hji:j=i
  ·subst hji;exact hy.wpOp hi hS ⟨.inl ⟨hci,rfl⟩,H⟩
  have:=ready_mono hj hji
  rw[H.1] at this
  cases this
 |succ fuel ih=>
  intro listed a w hfree hun hr hy hS H
  refine⟨λh=>(by rw[h] at hr;cases hr),λj hj=>?_⟩
  by_cases hji:j=i
  ·subst hji;exact hy.wpOp hi hS ⟨.inl ⟨hci,rfl⟩,H⟩
  have h1:=H.2 j (ready_mono hj hji)
  obtain⟨hjun,oj,hoj,hall⟩:=mem_ready.1 hj
  have hnot:∀e∈oj.after,Region.binds .any e=true->e.on≠i:=λe he hb heq=>by
   have h1:=hall e he hb
   have h0:=(mem_ready.1 hr).1
   rw[heq] at h1
   rcases Nat.lt_or_ge i listed.size with h'|h'
   ·simp[h'] at h0 h1;rw[h0] at h1;cases h1
   simp[Array.getElem?_eq_none h'] at h1
  have hjd:jT oi=true->mH ops i j=false:=λhrd=>by
   rcases Bool.eq_false_or_eq_true (mH ops i j) with hd|hd
   ·obtain⟨o,ho,e,he,hb,hcase⟩:=hcl hrd j hd
    rw[hoj] at ho
    injection ho with ho
    subst ho
    rcases hcase with hc|hc
    ·exact absurd hc (hnot e he hb)
    have h1:=hall e he hb
    have h0:=hun hrd e.on hc
    rcases Nat.lt_or_ge e.on listed.size with h'|h'
    ·simp[h'] at h0 h1;rw[h0] at h1;cases h1
    simp[Array.getElem?_eq_none h'] at h1
   exact hd
  have hun':jT oi=true->∀k,mH ops i k=true->(listed.setIfInBounds j true).getD k true=false:=λhrd k hk=>by
   have hjk:j≠k:=λh=>by subst h;rw[hjd hrd] at hk;cases hk
   rw[getD_set_ne true hjk]
   exact hun hrd k hk
  have h2:=wpOp_putIf hoj (hfree j oj hoj hji hjun hnot) (λcs b=>hsel i oi cs b hi) (λcs b=>hsel j oj cs b hoj) hQ hy h1
  have hfree':∀k ok,ops[k]? =some ok->k≠i->(listed.setIfInBounds j true).getD k true=false->
   (∀e∈ok.after,Region.binds .any e=true->e.on≠i)->oi.apart ops ok=true:=λk ok hk hki hun hno=>by
   refine hfree k ok hk hki ?_ hno
   by_cases hjk:j=k
   ·subst hjk;exact hjun
   rw[getD_set_ne true hjk] at hun;exact hun
  refine wpOp_mono (λa' w' h3=>?_) h2
  have hS':S0 w':=by
   rcases hS0 with hS0|⟨hrd,hS0⟩
   ·exact hS0 w'
   rcases h3.2.1 with ⟨_,he⟩|hl|hs
   ·rw[he];exact hS
   ·have hlt:i<ops.size:=(Array.getElem?_eq_some_iff.1 hi).1
    have hd:=xK hl (Ne.symm hji) hlt (by unfold aIs;rw[hi];exact hrd)
    rw[hjd hrd] at hd
    cases hd
   exact hS0 w' hs
  refine⟨h3.2.1,ih (listed.setIfInBounds j true) a' w' hfree' hun' (ready_mono hr (Ne.symm hji)) h3.1 hS' ?_⟩
  rw[Array.setIfInBounds_comm _ _ hji]
  exact h3.2.2
end any
def gI (ops:Array Oper) (listed:Array Bool) (i:Nat):Bool:=
 Region.noSelect ops&&Region.free .any ops listed i&&(Region.ready .any ops listed).contains i&&rA ops i&&(!aIs ops i||aFu ops listed i)
def RA (P:Program) (n:Nat) (ops:Array Oper) (Q:Po) (S:World->Prop) (fuel:Nat) (listed:Array Bool) (f:Nat->Value) (w:World):Prop:=
 ∀dl a,Fm dl n f a->dQ P ops (up dl n Q) S fuel listed a w
section ra
variable {P:Program} {n:Nat} {Q:Po} {f:Nat->Value} {w w':World} {ops:Array Oper} {o:Oper} {S:World->Prop} {fuel:Nat} {listed:Array Bool} {d:Nat} {v:Value}
theorem oW {id:Nat} (S:World->Prop) (hm:P.follows .mixedOrders=true) (h:RA P n ops Q S ops.size (Array.replicate ops.size false) f w.drew) (hd:ndA ops.toList=true:=by rfl):WP P n (.region id ops true) Q f w:=λ_ dl a ha=>
 wpIn_region_any hm (aFt hd (tX _ _ _ _ (h dl a ha)))
theorem fI {id:Nat} (hm:P.follows .mixedOrders=true) (h:∀w1,Below w.heap.size w w1->RA P n ops Q (λu=>Below w1.heap.size w1 u) ops.size (Array.replicate ops.size false) f w1) (hd:ndA ops.toList=true:=by rfl):WP P n (.region id ops true) Q f w:=
 oW _ hm (h w.drew (Below.drew (Below.refl _ _))) hd
theorem RA.more {S':World->Prop} (hS:∀w,S' w->S w) (h:RA P n ops Q S' fuel listed f w):RA P n ops Q S fuel listed f w:=λdl a ha=>rZ hS _ _ _ _ (h dl a ha)
theorem RA.take0 {S0:World->Prop} (i:Nat) (hi:ops[i]? =some o) (hok:gI ops listed i=true) (hS0:(∀w,S0 w)∨(jT o=true∧∀w,S w->S0 w)) (hS:S0 w) (hd:o.dst=some d) (hn:d<n)
 (hy:∀dl a,Fm dl n f a->YieldsIf P ops S0 o v a) (h:RA P n ops Q S fuel (listed.setIfInBounds i true) (st f d v) w):RA P n ops Q S (fuel+1) listed f w:=λdl a ha=>by
 unfold gI at hok
 simp only[Bool.and_eq_true] at hok
 obtain⟨⟨⟨⟨h1,h2⟩,h3⟩,h4⟩,h5⟩:=hok
 have h6:jT o=true->aFu ops listed i=true:=λhrd=>by
  have:aIs ops i=true:=by unfold aIs;rw[hi];exact hrd
  rw[this] at h5
  simpa using h5
 refine xL (i:=i) (v:=v) (S0:=S0) hi (by unfold rA at h4;rw[hi] at h4;exact h4) hS0 (λhrd k hk=>(tY (h6 hrd) hk).2) (Region.noSelect_spec h1) (λ_ _ _ h=>h) fuel listed a w (Region.free_spec hi h2) (λhrd k hk=>(tY (h6 hrd) hk).1) (by simpa using h3) (hy dl a ha) hS ?_
 exact h _ _ (by rw[hd];exact ha.put hn v)
theorem RA.take (i:Nat) (hi:ops[i]? =some o) (hok:gI ops listed i=true) (hg:o.guard=none) (hd:o.dst=some d) (hn:d<n)
 (hr:∀w,(execOp (ev f) o).run P w= .ok (.value v) w) (h:RA P n ops Q S fuel (listed.setIfInBounds i true) (st f d v) w):RA P n ops Q S (fuel+1) listed f w:=
 RA.take0 (S0:=λ_=>True) i hi hok (.inl λ_=>trivial) trivial hd hn (λdl a ha=> .inl ⟨by simp[Region.wanted,hg],λw _=>by rw[ha.eval];exact hr w⟩) h
theorem RA.rd (i:Nat) (hi:ops[i]? =some o) (hok:gI ops listed i=true) (hrd:jT o=true) (hg:o.guard=none) (hd:o.dst=some d) (hn:d<n) (hS:S w)
 (hr:∀w,S w->(execOp (ev f) o).run P w= .ok (.value v) w) (h:RA P n ops Q S fuel (listed.setIfInBounds i true) (st f d v) w):RA P n ops Q S (fuel+1) listed f w:=
 RA.take0 (S0:=S) i hi hok (.inr ⟨hrd,λ_ h=>h⟩) hS hd hn (λdl a ha=> .inl ⟨by simp[Region.wanted,hg],λw hw=>by rw[ha.eval];exact hr w hw⟩) h
theorem RA.gtake (i:Nat) {j t:Nat} {want:Bool} (hi:ops[i]? =some o) (hok:gI ops listed i=true) (hg:o.guard=some (j,want)) (hj:(ops[j]?).bind (·.dst)=some t) (hf:f t= .bool want) (hd:o.dst=some d) (hn:d<n)
 (hr:∀w,(execOp (ev f) o).run P w= .ok (.value v) w) (h:RA P n ops Q S fuel (listed.setIfInBounds i true) (st f d v) w):RA P n ops Q S (fuel+1) listed f w:=
 RA.take0 (S0:=λ_=>True) i hi hok (.inl λ_=>trivial) trivial hd hn (λdl a ha=> .inl ⟨by rw[jH ha hg hj hf];simp,λw _=>by rw[ha.eval];exact hr w⟩) h
theorem RA.grd (i:Nat) {j t:Nat} {want:Bool} (hi:ops[i]? =some o) (hok:gI ops listed i=true) (hrd:jT o=true) (hg:o.guard=some (j,want)) (hj:(ops[j]?).bind (·.dst)=some t) (hf:f t= .bool want) (hd:o.dst=some d) (hn:d<n) (hS:S w)
 (hr:∀w,S w->(execOp (ev f) o).run P w= .ok (.value v) w) (h:RA P n ops Q S fuel (listed.setIfInBounds i true) (st f d v) w):RA P n ops Q S (fuel+1) listed f w:=
 RA.take0 (S0:=S) i hi hok (.inr ⟨hrd,λ_ h=>h⟩) hS hd hn (λdl a ha=> .inl ⟨by rw[jH ha hg hj hf];simp,λw hw=>by rw[ha.eval];exact hr w hw⟩) h
theorem sA {dl:List Deferred} {a:Act} (ha:Fm dl n f a) {j t:Nat} {want:Bool} (hg:o.guard=some (j,want)) (hj:(ops[j]?).bind (·.dst)=some t) (hf:f t= .bool (!want)∨f t=undef):Region.wanted o (yielded ops a.tmps)=false:=by
 rcases hf with hf|hf
 ·rw[jH ha hg hj hf];cases want<;>rfl
 have hy:yielded ops a.tmps j=none:=by
  have h:=ha.2.2 t
  rw[hf] at h
  unfold yielded
  rw[hj]
  simp only[Option.bind_some]
  rcases Nat.lt_or_ge t a.tmps.size with hl|hl
  ·simp[Array.getD,hl] at h
   simp[hl,h,undef]
  simp[Array.getElem?_eq_none hl]
 unfold Region.wanted
 simp only[hg,hy]
 rfl
theorem RA.gno (i:Nat) {j t:Nat} {want:Bool} (hi:ops[i]? =some o) (hok:gI ops listed i=true) (hg:o.guard=some (j,want)) (hj:(ops[j]?).bind (·.dst)=some t) (hf:f t= .bool (!want)∨f t=undef) (hd:o.dst=some d) (hn:d<n)
 (h:RA P n ops Q S fuel (listed.setIfInBounds i true) (st f d undef) w):RA P n ops Q S (fuel+1) listed f w:=
 RA.take0 (S0:=λ_=>True) i hi hok (.inl λ_=>trivial) trivial hd hn (λdl a ha=> .inr ⟨sA ha hg hj hf,rfl⟩) h
theorem RA.done (hr:Region.ready .any ops listed=[]) (h:Q.nrm f w):RA P n ops Q S fuel listed f w:=λdl a ha=>by
 cases fuel with
 |zero=>exact⟨hr,f,ha,h⟩
 |succ k=>exact⟨λ_=>⟨f,ha,h⟩,by rw[hr];simp⟩
def RS (P:Program) (n:Nat) (ops:Array Oper) (Q:Po) (S:World->Prop) (fuel:Nat) (listed:Array Bool) (f:Nat->Value) (w:World) (rs:List Nat):Prop:=
 ∀i∈rs,∀dl a,Fm dl n f a->wpOp P ops (up dl n Q) i (λa' w'=>Oks ops S i w w'∧dQ P ops (up dl n Q) S fuel (listed.setIfInBounds i true) a' w') a w
theorem RA.all (rs:List Nat) (hr:Region.ready .any ops listed=rs) (hne:rs.isEmpty=false) (h:RS P n ops Q S fuel listed f w rs):RA P n ops Q S (fuel+1) listed f w:=λdl a ha=>
 ⟨λh0=>by rw[hr] at h0;subst h0;simp at hne,λi hi=>h i (by rw[<-hr];exact hi) dl a ha⟩
variable {i:Nat} {rs:List Nat}
theorem RS.nil:RS P n ops Q S fuel listed f w []:=λ_ h=>by cases h
theorem RS.val (hi:ops[i]? =some o) (hg:o.guard=none) (hd:o.dst=some d) (hn:d<n) (hr:(execOp (ev f) o).run P w= .ok (.value v) w') (hS:Oks ops S i w w')
 (h:RA P n ops Q S fuel (listed.setIfInBounds i true) (st f d v) w') (hs:RS P n ops Q S fuel listed f w rs):RS P n ops Q S fuel listed f w (i::rs):=λj hj=>by
 rcases List.mem_cons.1 hj with rfl|hj
 ·intro dl a ha
  unfold wpOp
  simp only[hi,Region.wanted,hg,if_true]
  refine .inl ?_
  unfold Oper.wp
  rw[ha.eval,hr]
  exact⟨hS,h _ _ (by rw[hd];exact ha.put hn v)⟩
 exact hs j hj
theorem RS.skip (hi:ops[i]? =some o) (hg:o.guard=none) (hd:o.dst=none) (hr:(execOp (ev f) o).run P w= .ok .skip w') (hS:Oks ops S i w w')
 (h:RA P n ops Q S fuel (listed.setIfInBounds i true) f w') (hs:RS P n ops Q S fuel listed f w rs):RS P n ops Q S fuel listed f w (i::rs):=λj hj=>by
 rcases List.mem_cons.1 hj with rfl|hj
 ·intro dl a ha
  unfold wpOp
  simp only[hi,Region.wanted,hg,if_true]
  refine .inl ?_
  unfold Oper.wp
  rw[ha.eval,hr]
  exact⟨hS,h _ _ (by rw[hd];exact ha)⟩
 exact hs j hj
theorem RS.call {k:FuncId} {args:Array Value} {Post:Value->World->Prop} (hi:ops[i]? =some o) (hg:o.guard=none) (hd:o.dst=some d) (hn:d<n) (hr:(execOp (ev f) o).run P w= .ok (.enter k args) w)
 (hc:Calls P k args w λe w'=>∃v,e= .returned v∧Post v w') (h:∀v w',Post v w'->Oks ops S i w w'∧RA P n ops Q S fuel (listed.setIfInBounds i true) (st f d v) w')
 (hs:RS P n ops Q S fuel listed f w rs):RS P n ops Q S fuel listed f w (i::rs):=λj hj=>by
 rcases List.mem_cons.1 hj with rfl|hj
 ·intro dl a ha
  unfold wpOp
  simp only[hi,Region.wanted,hg,if_true]
  refine .inl ?_
  unfold Oper.wp
  rw[ha.eval,hr]
  refine hc.mono λe w1 ⟨u,he,hp⟩=>?_
  subst he
  obtain⟨h1,h2⟩:=h u w1 hp
  exact⟨h1,h2 _ _ (by rw[hd];exact ha.put hn u)⟩
 exact hs j hj
end ra
section
variable {P:Program} {f:Nat->Value} {w:World} {dst:Option Tmp} {ty:TypeId} {pos:String} {aft:Array Edge} {g:Option (Nat×Bool)} {x y z:Operand} {t t':TypeId} {k:IntKind} {a b c:Int}
theorem aG {v:Value} (h:ev f x=v):(execOp (ev f) ⟨dst,.move x,ty,pos,aft,g⟩).run P w= .ok (.value v) w:=by rw[<-h];rfl
theorem bS {v:Value} (h:ev f x=v):(execOp (ev f) ⟨dst,.assign x,ty,pos,aft,g⟩).run P w= .ok (.value v) w:=by rw[<-h];rfl
theorem dV {v:Value} (hc:ev f x= .bool true) (h:ev f y=v):(execOp (ev f) ⟨dst,.pick x y z,ty,pos,aft,g⟩).run P w= .ok (.value v) w:=by
 simp[execOp,hc,h,asBool]
theorem eP {v:Value} (hc:ev f x= .bool false) (h:ev f z=v):(execOp (ev f) ⟨dst,.pick x y z,ty,pos,aft,g⟩).run P w= .ok (.value v) w:=by
 simp[execOp,hc,h,asBool]
theorem dP (hx:ev f x= .int k a) (hy:ev f y= .int k b) (hw:k.wrap (a+b)=c):(execOp (ev f) ⟨dst,.binOp .add t x y t',ty,pos,aft,g⟩).run P w= .ok (.value (.int k c)) w:=by
 simp[execOp,hx,hy,eqGuard,binOp,Op.intArith,hw]
theorem eH (hx:ev f x= .int k a) (hy:ev f y= .int k b) (hw:k.wrap (a-b)=c):(execOp (ev f) ⟨dst,.binOp .sub t x y t',ty,pos,aft,g⟩).run P w= .ok (.value (.int k c)) w:=by
 simp[execOp,hx,hy,eqGuard,binOp,Op.intArith,hw]
theorem jX (hx:ev f x= .int k a) (hy:ev f y= .int k b) (hw:k.wrap (a*b)=c):(execOp (ev f) ⟨dst,.binOp .mul t x y t',ty,pos,aft,g⟩).run P w= .ok (.value (.int k c)) w:=by
 simp[execOp,hx,hy,eqGuard,binOp,Op.intArith,hw]
theorem pJ (hx:ev f x= .int k a) (hy:ev f y= .int k b) (hb:b≠0) (hw:k.wrap (a.tdiv b)=c):(execOp (ev f) ⟨dst,.binOp .quo t x y t',ty,pos,aft,g⟩).run P w= .ok (.value (.int k c)) w:=by
 simp[execOp,hx,hy,eqGuard,binOp,Op.intDiv,hb,hw]
theorem sC (hx:ev f x= .int k a) (hy:ev f y= .int k b) (hb:b≠0) (hw:a.tmod b=c):(execOp (ev f) ⟨dst,.binOp .rem t x y t',ty,pos,aft,g⟩).run P w= .ok (.value (.int k c)) w:=by
 simp[execOp,hx,hy,eqGuard,binOp,Op.intDiv,hb,hw]
theorem pL {kk:IntKind} (hx:ev f x= .int k a) (hy:ev f y= .int kk b) (hb:0<=b) (hw:k.wrap (a*2^(min b.toNat k.bits))=c):(execOp (ev f) ⟨dst,.binOp .shl t x y t',ty,pos,aft,g⟩).run P w= .ok (.value (.int k c)) w:=by
 simp[execOp,hx,hy,eqGuard,binOp,Op.shift,Int.not_lt.2 hb,hw]
theorem jM {kk:IntKind} (hx:ev f x= .int k a) (hy:ev f y= .int kk b) (hb:0<=b) (hw:a.fdiv (2^(min b.toNat k.bits))=c):(execOp (ev f) ⟨dst,.binOp .shr t x y t',ty,pos,aft,g⟩).run P w= .ok (.value (.int k c)) w:=by
 simp[execOp,hx,hy,eqGuard,binOp,Op.shift,Int.not_lt.2 hb,hw]
theorem xM (hx:ev f x= .int k a) (hy:ev f y= .int k b) (hw:k.wrap ((BitVec.ofInt k.bits a|||BitVec.ofInt k.bits b).toNat:Int)=c):(execOp (ev f) ⟨dst,.binOp .or t x y t',ty,pos,aft,g⟩).run P w= .ok (.value (.int k c)) w:=by
 simp only[execOp,hx,hy,eqGuard,binOp]
 simp[Op.intBits]
 simpa using hw
theorem bGl (hx:ev f x= .int k a) (hy:ev f y= .int k b) (hw:k.wrap ((BitVec.ofInt k.bits a&&&BitVec.ofInt k.bits b).toNat:Int)=c):(execOp (ev f) ⟨dst,.binOp .and t x y t',ty,pos,aft,g⟩).run P w= .ok (.value (.int k c)) w:=by
 simp only[execOp,hx,hy,eqGuard,binOp]
 simp[Op.intBits]
 simpa using hw
theorem eQ (hx:ev f x= .int k a) (hy:ev f y= .int k b):(execOp (ev f) ⟨dst,.binOp .lss t x y t',ty,pos,aft,g⟩).run P w= .ok (.value (.bool (decide (a<b)))) w:=by
 simp[execOp,hx,hy,eqGuard,binOp,Op.intCmp]
theorem aKe (hx:ev f x= .int k a) (hy:ev f y= .int k b):(execOp (ev f) ⟨dst,.binOp .leq t x y t',ty,pos,aft,g⟩).run P w= .ok (.value (.bool (decide (a<=b)))) w:=by
 simp[execOp,hx,hy,eqGuard,binOp,Op.intCmp]
theorem oL (hx:ev f x= .int k a) (hy:ev f y= .int k b):(execOp (ev f) ⟨dst,.binOp .gtr t x y t',ty,pos,aft,g⟩).run P w= .ok (.value (.bool (decide (b<a)))) w:=by
 simp[execOp,hx,hy,eqGuard,binOp,Op.intCmp]
theorem sD (hx:ev f x= .int k a) (hy:ev f y= .int k b):(execOp (ev f) ⟨dst,.binOp .geq t x y t',ty,pos,aft,g⟩).run P w= .ok (.value (.bool (decide (b<=a)))) w:=by
 simp[execOp,hx,hy,eqGuard,binOp,Op.intCmp]
theorem iW (hx:ev f x= .int k a) (hy:ev f y= .int k b):(execOp (ev f) ⟨dst,.binOp .eql t x y t',ty,pos,aft,g⟩).run P w= .ok (.value (.bool (decide (a=b)))) w:=by
 simp[execOp,hx,hy,eqGuard,binOp,Op.intCmp]
 rfl
theorem mI (hx:ev f x= .int k a) (hy:ev f y= .int k b):(execOp (ev f) ⟨dst,.binOp .neq t x y t',ty,pos,aft,g⟩).run P w= .ok (.value (.bool (decide (a≠b)))) w:=by
 simp[execOp,hx,hy,eqGuard,binOp,Op.intCmp]
 rfl
theorem kP (d:Nat) {p q:Bool} (ht:P.underlying t=some .bool):(Op.equalIn (d+1) t (.bool p) (.bool q)).run P w= .ok (p==q) w:=by
 simp[Op.equalIn,run_underlying ht]
theorem aKf {p q:Bool} (ht:P.underlying t=some .bool) (hx:ev f x= .bool p) (hy:ev f y= .bool q):(execOp (ev f) ⟨dst,.binOp .eql t x y t',ty,pos,aft,g⟩).run P w= .ok (.value (.bool (p==q))) w:=by
 have h:=kP (P:=P) (w:=w) (t:=t) 9999 (p:=p) (q:=q) ht
 simp only[execOp,hx,hy,eqGuard,binOp]
 simp[Op.equal,Op.maxDepth,h]
theorem aKg {p q:Bool} (ht:P.underlying t=some .bool) (hx:ev f x= .bool p) (hy:ev f y= .bool q):(execOp (ev f) ⟨dst,.binOp .neq t x y t',ty,pos,aft,g⟩).run P w= .ok (.value (.bool (p !=q))) w:=by
 have h:=kP (P:=P) (w:=w) (t:=t) 9999 (p:=p) (q:=q) ht
 simp only[execOp,hx,hy,eqGuard,binOp]
 simp[Op.equal,Op.maxDepth,h]
 cases p<;>cases q<;>rfl
theorem wN {p:Bool} (hx:ev f x= .bool p):(execOp (ev f) ⟨dst,.unOp .not t x,ty,pos,aft,g⟩).run P w= .ok (.value (.bool (!p))) w:=by
 simp[execOp,hx,Op.unary]
theorem aFv (hx:ev f x= .int k a) (hw:k.wrap (0-a)=c):(execOp (ev f) ⟨dst,.unOp .neg t x,ty,pos,aft,g⟩).run P w= .ok (.value (.int k c)) w:=by
 simp only[execOp,hx,Op.unary,Op.intArith,hw]
 rfl
theorem bR {k':IntKind} {d:TypeDesc} (h1:P.underlying t=some d) (h2:P.underlying t'=some (.int k)) (hx:ev f x= .int k' a) (hw:k.wrap a=c):(execOp (ev f) ⟨dst,.convert t t' x,ty,pos,aft,g⟩).run P w= .ok (.value (.int k c)) w:=by
 simp only[execOp,hx,convert,Sem.run_bind,run_underlying h1,run_underlying h2,Result.andThen_ok]
 cases d<;>simp[Conv.intToInt,hw]
theorem aI {vs:Array Value} {i:Nat} {v:Value} (hx:ev f x= .tuple vs) (hv:vs[i]? =some v):(execOp (ev f) ⟨dst,.extract x i,ty,pos,aft,g⟩).run P w= .ok (.value v) w:=by
 simp[execOp,hx,Instr.extract,hv]
theorem cK {e:TypeId} {A:Option Addr} {n c:Nat} (ht:P.underlying t=some (.slice e)) (hx:ev f x= .slice A n c):
 (execOp (ev f) ⟨dst,.call ⟨.builtin .len,#[x],#[t]⟩,ty,pos,aft,g⟩).run P w= .ok (.value (.int .i64 n)) w:=by
 simp[execOp,resolve,invoke,builtin,Builtin.len_,run_underlying ht,hx,goInt]
theorem aZf (hx:ev f x= .int k a) (hy:ev f y= .int k b):(execOp (ev f) ⟨dst,.call ⟨.builtin .max,#[x,y],#[t,t']⟩,ty,pos,aft,g⟩).run P w= .ok (.value (.int k (if b>a then b else a))) w:=by
 simp[execOp,resolve,invoke,builtin,Builtin.max_,hx,hy,Builtin.max2]
theorem aZg (hx:ev f x= .int k a) (hy:ev f y= .int k b):(execOp (ev f) ⟨dst,.call ⟨.builtin .min,#[x,y],#[t,t']⟩,ty,pos,aft,g⟩).run P w= .ok (.value (.int k (if b<a then b else a))) w:=by
 simp[execOp,resolve,invoke,builtin,Builtin.min_,hx,hy,Builtin.min2]
def Ent (P:Program) (k:FuncId):Prop:=∀args w,(callFunc k args).run P w= .ok (.enter k args) w
theorem bO {kf:FuncId} {al:List Operand} {vl:List Value} {tys:Array TypeId} (he:Ent P kf) (ha:al.map (ev f)=vl):
 (execOp (ev f) ⟨dst,.call ⟨.value (.func kf),al.toArray,tys⟩,ty,pos,aft,g⟩).run P w= .ok (.enter kf vl.toArray) w:=by
 subst ha
 unfold Ent at he
 simp[execOp,resolve,Deferred.ofValue,ev,invoke,he]
theorem xN {kf:FuncId} {al:List Operand} {vl cl:List Value} {tys:Array TypeId} (hx:ev f x= .func (.func kf) #[] cl.toArray) (he:Ent P kf) (ha:al.map (ev f)=vl):
 (execOp (ev f) ⟨dst,.call ⟨.value x,al.toArray,tys⟩,ty,pos,aft,g⟩).run P w= .ok (.enter kf (vl++cl).toArray) w:=by
 subst ha
 unfold Ent at he
 simp[execOp,resolve,hx,Deferred.ofValue,invoke,he]
theorem aCm {fn:Fn} {cl:List Operand} {vl:List Value} (hc:cl.map (ev f)=vl):(execOp (ev f) ⟨dst,.makeFunc fn #[] cl.toArray,ty,pos,aft,g⟩).run P w= .ok (.value (.func fn #[] vl.toArray)) w:=by
 subst hc
 simp[execOp,Instr.makeFunc]
end
/-! ### a number that fits is itself -/
theorem dJ {z:Int} (h:-9223372036854775808<=z∧z<=9223372036854775807):IntKind.i64.wrap z=z:=by
 rw[IntKind.wrap_i64];omega
theorem cX {z:Int} (h:0<=z∧z<=18446744073709551615):IntKind.u64.wrap z=z:=by
 rw[IntKind.wrap_u64];omega
theorem aCn {z:Int} (h:0<=z∧z<=4294967295):IntKind.u32.wrap z=z:=by
 rw[IntKind.wrap_u32];omega
theorem aAe (z:Int):IntKind.u64.wrap z=z%18446744073709551616:=by rw[IntKind.wrap_u64]
theorem bGm (z:Int):IntKind.u32.wrap z=z%4294967296:=by rw[IntKind.wrap_u32]
/-! ### worlds -/
abbrev Ext (w w':World):Prop:=Below w.heap.size w w'
theorem Ext.trans {a b c:World} (h:Ext a b) (k:Ext b c):Ext a c:=Below.trans h (Below.mono k h.size)
theorem Ext.refl (w:World):Ext w w:=Below.refl _ _
theorem Ext.drew (w:World):Ext w w.drew:=(Below.refl _ _).drew
theorem Below.ext {B:Nat} {w0 w w':World} (h:Below B w0 w) (hB:B<=w.heap.size) (k:Ext w w'):Below B w0 w':=h.trans (k.mono hB)
structure Exc (b:Nat) (w w':World):Prop where
 os:w'.os=w.os
 tape:w'.tape=w.tape
 output:w'.output=w.output
 size:w.heap.size<=w'.heap.size
 block:∀k,k<w.heap.size->k≠b->w'.heap[k]? =w.heap[k]?
theorem Below.exc {B b:Nat} {w0 w w':World} (h:Below B w0 w) (hB:B<=w.heap.size) (k:Exc b w w') (hb:B<=b):Below B w0 w':=
 h.trans ⟨k.os,k.tape,k.output,k.size,λi hi=>k.block i oM oM⟩
theorem Exc.of_ext {b:Nat} {w w':World} (h:Ext w w'):Exc b w w':=⟨h.os,h.tape,h.output,h.size,λk hk _=>h.block k hk⟩
theorem Exc.trans {b:Nat} {a c d:World} (h:Exc b a c) (k:Exc b c d):Exc b a d:=
 ⟨k.os.trans h.os,k.tape.trans h.tape,k.output.trans h.output,Nat.le_trans h.size k.size,λi hi hb=>(k.block i (Nat.lt_of_lt_of_le hi h.size) hb).trans (h.block i hi hb)⟩
def Sm (D:Nat->TypeId->Prop) (w w':World):Prop:=∀b cs T fz,w.heap[b]? =some (.cells cs T fz)->D b T->w'.heap[b]? =some (.cells cs T fz)
theorem cC {w:World} {b:Nat} {o:Obj} (h:w.heap[b]? =some o):b<w.heap.size:=(Array.getElem?_eq_some_iff.1 h).1
theorem Sm.ext {D:Nat->TypeId->Prop} {w w':World} (h:Ext w w'):Sm D w w':=λb _ _ _ hh _=>(h.block b (cC hh)).trans hh
theorem Sm.exc {D:Nat->TypeId->Prop} {b0:Nat} {w w':World} (h:Exc b0 w w') (hD:∀cs T fz,w.heap[b0]? =some (.cells cs T fz)->¬D b0 T):Sm D w w':=λb cs T fz hh hd=>by
 have hne:b≠b0:=λe=>by subst e;exact hD cs T fz hh hd
 exact(h.block b (cC hh) hne).trans hh
def Bk (w:World) (b:Nat) (T:TypeId) (l:List Value):Prop:=w.heap[b]? =some (.cells l.toArray T (0,0))
theorem Bk.lt {w:World} {b:Nat} {T:TypeId} {l:List Value} (h:Bk w b T l):b<w.heap.size:=cC h
theorem Bk.ext {w w':World} {b:Nat} {T:TypeId} {l:List Value} (h:Bk w b T l) (e:Ext w w'):Bk w' b T l:=(e.block b h.lt).trans h
theorem Bk.exc {w w':World} {b b0:Nat} {T:TypeId} {l:List Value} (h:Bk w b T l) (e:Exc b0 w w') (hne:b≠b0):Bk w' b T l:=(e.block b h.lt hne).trans h
theorem Bk.cell {w:World} {b:Nat} {T:TypeId} {l:List Value} (h:Bk w b T l) {j:Nat} {u:Value} (hj:l[j]? =some u):w.cell? ⟨b,j,none⟩=some u:=by
 simp only[World.cell?]
 rw[show w.heap[b]? =_ from h]
 simpa using hj
theorem Bk.sm {w:World} {b:Nat} {T:TypeId} {l:List Value} {D:Nat->TypeId->Prop} {w':World} (h:Bk w b T l) (e:Exc b w w') (hD:¬D b T):Sm D w w':=
 Sm.exc e λcs T' fz hh=>by
  rw[show w.heap[b]? =_ from h] at hh
  injection hh with hh
  injection hh with _ hT _
  subst hT
  exact hD
/-! ### rows that are read -/
def Rd (D:Nat->TypeId->Prop) (w:World) (b o:Nat) (l:List Value):Prop:=l=[]∨∃cs T fz,w.heap[b]? =some (.cells cs T fz)∧D b T∧∀j u,l[j]? =some u->cs[o+j]? =some u
section rd
variable {D D':Nat->TypeId->Prop} {w w':World} {b o:Nat} {l:List Value}
theorem Rd.tr (h:Rd D w b o l) (hs:Sm D w w'):Rd D w' b o l:=by
 rcases h with h|⟨cs,T,fz,hh,hd,hc⟩
 ·exact .inl h
 exact .inr ⟨cs,T,fz,hs b cs T fz hh hd,hd,hc⟩
theorem Rd.mono (h:Rd D w b o l) (hD:∀b T,D b T->D' b T):Rd D' w b o l:=by
 rcases h with h|⟨cs,T,fz,hh,hd,hc⟩
 ·exact .inl h
 exact .inr ⟨cs,T,fz,hh,hD _ _ hd,hc⟩
theorem Rd.cell (h:Rd D w b o l) {j:Nat} {u:Value} (hj:l[j]? =some u):w.cell? ⟨b,o+j,none⟩=some u:=by
 rcases h with rfl|⟨cs,T,fz,hh,hd,hc⟩
 ·simp at hj
 simp only[World.cell?,hh]
 simpa using hc j u hj
theorem Rd.drop (h:Rd D w b o l) (k:Nat):Rd D w b (o+k) (l.drop k):=by
 rcases h with rfl|⟨cs,T,fz,hh,hd,hc⟩
 ·exact .inl (by simp)
 refine .inr ⟨cs,T,fz,hh,hd,λj u hj=>?_⟩
 rw[Nat.add_assoc]
 exact hc (k+j) u (by rw[<-hj,List.getElem?_drop])
theorem Rd.take (h:Rd D w b o l) (k:Nat):Rd D w b o (l.take k):=by
 rcases h with rfl|⟨cs,T,fz,hh,hd,hc⟩
 ·exact .inl (by simp)
 refine .inr ⟨cs,T,fz,hh,hd,λj u hj=>?_⟩
 rw[List.getElem?_take] at hj
 split at hj
 ·exact hc j u hj
 cases hj
theorem Bk.rd {T:TypeId} {m:Nat} (h:Bk w b T l) (hd:D b T):Rd D w b m (l.drop m):=
 .inr ⟨l.toArray,T,(0,0),h,hd,λj u hj=>by rw[List.getElem?_drop] at hj;simpa using hj⟩
end rd
def Sc (D:Nat->TypeId->Prop) (w:World) (size:Nat) (v:Value) (n:Nat) (l:List Value):Prop:=
 ∃A c,v= .slice A n c∧n<=c∧c<=maxLen∧l.length=n*size∧(l=[]∨∃b o,A=some ⟨b,o,none⟩∧Rd D w b o l)
section sc
variable {D D':Nat->TypeId->Prop} {w w':World} {size n:Nat} {v:Value} {l:List Value}
theorem Sc.tr (h:Sc D w size v n l) (hs:Sm D w w'):Sc D w' size v n l:=by
 obtain⟨A,c,rfl,h1,h2,h3,h4⟩:=h
 exact⟨A,c,rfl,h1,h2,h3,h4.imp id λ⟨b,o,e,r⟩=>⟨b,o,e,r.tr hs⟩⟩
theorem Sc.mono (h:Sc D w size v n l) (hD:∀b T,D b T->D' b T):Sc D' w size v n l:=by
 obtain⟨A,c,rfl,h1,h2,h3,h4⟩:=h
 exact⟨A,c,rfl,h1,h2,h3,h4.imp id λ⟨b,o,e,r⟩=>⟨b,o,e,r.mono hD⟩⟩
theorem Sc.nil:Sc D w size (.slice none 0 0) 0 []:=⟨none,0,rfl,Nat.le_refl _,by simp[maxLen],by simp,.inl rfl⟩
end sc
/-! ### types -/
structure TyI (P:Program) (e:TypeId) (size bytes:Nat) (z:Value):Prop where
 mk'::
 ex:∃i,P.info? e=some i∧i.zero=some z∧i.size=size∧i.bytes=bytes
theorem TyI.of {P:Program} {e:TypeId} {size bytes:Nat} {z:Value} (h:(P.info? e).map (λi=>(i.zero,i.size,i.bytes))=some (some z,size,bytes)):TyI P e size bytes z:=by
 obtain⟨i,h1,h2,h3,h4⟩:=info_parts h
 exact⟨i,h1,h2,h3,h4⟩
def lM (P:Program) (t:TypeId):Bool:=match P.underlying t with
 |some (.struct _)|some (.array _ _)=>true
 |_=>false
theorem jI {P:Program} {t:TypeId} {d:TypeDesc} (hu:P.underlying t=some d) (w:World):(isAgg t).run P w= .ok (lM P t) w:=by
 unfold isAgg lM
 simp only[Sem.run_bind,run_underlying hu,Result.andThen_ok,hu]
 cases d<;>rfl
section ops
variable {P:Program} {f:Nat->Value} {w:World} {dst:Option Tmp} {ty:TypeId} {pos:String} {aft:Array Edge} {g:Option (Nat×Bool)} {x y z:Operand} {t t' e:TypeId}
theorem cS (b o n:Nat):(⟨b,o,none⟩:Addr).add n=⟨b,o+n,none⟩:=by
 unfold Addr.add
 split
 ·simp_all
 rfl
theorem aY {d:TypeDesc} {p:Addr} {v:Value} (hu:P.underlying t=some d) (hb:lM P t=false) (hx:ev f x= .pointer (some p)) (hc:w.cell? p=some v):
 (execOp (ev f) ⟨dst,.load t x,ty,pos,aft,g⟩).run P w= .ok (.value v) w:=by
 simp[execOp,hx,Instr.loadAt,Instr.sureAddr,loadVar,jI hu,hb,load,Sem.run,hc]
theorem bX {d:TypeDesc} {b o:Nat} {cs:List Value} {bytes:Nat} {zz:Value} (hu:P.underlying t=some d) (hb:lM P t=true) (ht:TyI P t cs.length bytes zz) (hx:ev f x= .pointer (some ⟨b,o,none⟩)) (hc:∀j u,cs[j]? =some u->w.cell? ⟨b,o+j,none⟩=some u):
 (execOp (ev f) ⟨dst,.load t x,ty,pos,aft,g⟩).run P w= .ok (.value (.agg cs.toArray)) w:=by
 obtain⟨i,hi,_,hs,_⟩:=ht.ex
 have h:=run_loadCells_list (P:=P) w (⟨b,o,none⟩:Addr) cs (λj u hj=>by rw[cS];exact hc j u hj)
 simp[execOp,hx,Instr.loadAt,Instr.sureAddr,loadVar,jI hu,hb,sizeOf,typeInfo,hi,hs,h]
theorem aTv {d:TypeDesc} {fs:Array Field} {fl:Field} {i:Nat} {cs:Array Value} {v:Value} (hu:P.underlying t=some (.struct fs)) (hf:fs[i]? =some fl) (hd:P.underlying fl.type=some d) (hb:lM P fl.type=false)
 (hx:ev f x= .agg cs) (hc:cs[fl.offset]? =some v):(execOp (ev f) ⟨dst,.field t x i,ty,pos,aft,g⟩).run P w= .ok (.value v) w:=by
 simp[execOp,hx,Instr.field,run_underlying hu,hf,asAgg,part,jI hd,hb,hc]
theorem aKh {d:TypeDesc} {fs:Array Field} {fl:Field} {i size bytes:Nat} {zz:Value} {cs:Array Value} (hu:P.underlying t=some (.struct fs)) (hf:fs[i]? =some fl) (hd:P.underlying fl.type=some d) (hb:lM P fl.type=true) (ht:TyI P fl.type size bytes zz)
 (hx:ev f x= .agg cs):(execOp (ev f) ⟨dst,.field t x i,ty,pos,aft,g⟩).run P w= .ok (.value (.agg (cs.extract fl.offset (fl.offset+size)))) w:=by
 obtain⟨ii,hi,_,hs,_⟩:=ht.ex
 simp[execOp,hx,Instr.field,run_underlying hu,hf,asAgg,part,jI hd,hb,sizeOf,typeInfo,hi,hs]
theorem aM {fs:Array Field} {fl:Field} {i size bytes:Nat} {zz:Value} {b o:Nat} (hu:P.underlying t=some (.struct fs)) (hf:fs[i]? =some fl) (ht:TyI P fl.type (size+1) bytes zz) (hx:ev f x= .pointer (some ⟨b,o,none⟩)):
 (execOp (ev f) ⟨dst,.fieldAddr t x i,ty,pos,aft,g⟩).run P w= .ok (.value (.pointer (some ⟨b,o+fl.offset,none⟩))) w:=by
 obtain⟨ii,hi,_,hs,_⟩:=ht.ex
 simp[execOp,hx,Instr.fieldAt,Instr.sureAddr,run_underlying hu,hf,fieldPlace,sizeOf,typeInfo,hi,hs,cS]
theorem aJ {k:IntKind} {i:Int} {b o n c size bytes:Nat} {zz:Value} (hu:P.underlying t=some (.slice e)) (ht:TyI P e size bytes zz) (hx:ev f x= .slice (some ⟨b,o,none⟩) n c) (hy:ev f y= .int k i) (h0:0<=i) (h1:i<n):
 (execOp (ev f) ⟨dst,.indexAddr t x y,ty,pos,aft,g⟩).run P w= .ok (.value (.pointer (some ⟨b,o+i.toNat*size,none⟩))) w:=by
 obtain⟨ii,hi,_,hs,_⟩:=ht.ex
 simp[execOp,hx,hy,Instr.indexAt,asIntOf,run_underlying hu,sizeOf,typeInfo,hi,hs,h0,h1,cS]
theorem rB {k:IntKind} {A:Option Addr} {n c size bytes:Nat} {h:Int} {zz:Value} (hu:P.underlying t=some (.slice e)) (ht:TyI P e size bytes zz) (hx:ev f x= .slice A n c) (hy:ev f y= .int k h) (h0:0<=h) (h1:h<=c):
 (execOp (ev f) ⟨dst,.slice t x none (some y) none,ty,pos,aft,g⟩).run P w= .ok (.value (.slice A h.toNat c)) w:=by
 obtain⟨ii,hi,_,hs,_⟩:=ht.ex
 have hz:∀o:Option Addr,(o.map λa=>a.add 0)=o:=λo=>by cases o<;>simp[Addr.add]
 simp[execOp,hx,hy,Instr.sliceAt,Instr.slice,Instr.sliceBounds,Instr.sliceBound,asIntOf,run_underlying hu,sizeOf,typeInfo,hi,hs,h0,h1,hz]
theorem rC {k:IntKind} {A:Option Addr} {n c size bytes:Nat} {l:Int} {zz:Value} (hu:P.underlying t=some (.slice e)) (ht:TyI P e size bytes zz) (hx:ev f x= .slice A n c) (hy:ev f y= .int k l) (h0:0<=l) (h1:l<=n):
 (execOp (ev f) ⟨dst,.slice t x (some y) none none,ty,pos,aft,g⟩).run P w= .ok (.value (.slice (if c=l.toNat then A else A.map (·.add (l.toNat*size))) (n-l.toNat) (c-l.toNat))) w:=by
 obtain⟨ii,hi,_,hs,_⟩:=ht.ex
 simp[execOp,hx,hy,Instr.sliceAt,Instr.slice,Instr.sliceBounds,Instr.sliceBound,asIntOf,run_underlying hu,sizeOf,typeInfo,hi,hs,h0,h1]
theorem aCo {k k':IntKind} {A:Option Addr} {n c size bytes:Nat} {l h:Int} {zz:Value} (hu:P.underlying t=some (.slice e)) (ht:TyI P e size bytes zz) (hx:ev f x= .slice A n c) (hy:ev f y= .int k l) (hz:ev f z= .int k' h) (h0:0<=l) (h1:l<=h) (h2:h<=c):
 (execOp (ev f) ⟨dst,.slice t x (some y) (some z) none,ty,pos,aft,g⟩).run P w= .ok (.value (.slice (if c=l.toNat then A else A.map (·.add (l.toNat*size))) (h.toNat-l.toNat) (c-l.toNat))) w:=by
 obtain⟨ii,hi,_,hs,_⟩:=ht.ex
 have h3:0<=h:=by omega
 have h4:l<=(h.toNat:Int):=by omega
 simp[execOp,hx,hy,hz,Instr.sliceAt,Instr.slice,Instr.sliceBounds,Instr.sliceBound,asIntOf,run_underlying hu,sizeOf,typeInfo,hi,hs,h0,h1,h2,h3]
 intro hh
 omega
end ops
/-! ### operations that make or write memory -/
def Run (P:Program) (f:Nat->Value) (o:Oper) (w:World) (R:Value->World->Prop):Prop:=∃v w',(execOp (ev f) o).run P w= .ok (.value v) w'∧R v w'
def aKi (P:Program) (f:Nat->Value) (o:Oper) (w:World) (R:World->Prop):Prop:=∃w',(execOp (ev f) o).run P w= .ok .skip w'∧R w'
section
variable {P:Program} {n:Nat} {Q:Po} {f:Nat->Value} {w w':World} {ops:Array Oper} {o:Oper} {rest:List Oper} {d:Nat} {R:Value->World->Prop} {R0:World->Prop}
theorem RL.run (hg:o.guard=none) (hd:o.dst=some d) (hn:d<n) (hr:Run P f o w R) (h:∀v w',R v w'->RL P n ops rest Q (st f d v) w'):RL P n ops (o::rest) Q f w:=by
 obtain⟨v,w',hr,hR⟩:=hr
 exact RL.val hg hd hn hr (h v w' hR)
theorem RL.runs (hg:o.guard=none) (hd:o.dst=none) (hr:aKi P f o w R0) (h:∀w',R0 w'->RL P n ops rest Q f w'):RL P n ops (o::rest) Q f w:=by
 obtain⟨w',hr,hR⟩:=hr
 exact RL.skip hg hd hr (h w' hR)
variable {S:World->Prop} {fuel:Nat} {listed:Array Bool} {i:Nat} {rs:List Nat}
theorem RS.run (hi:ops[i]? =some o) (hg:o.guard=none) (hd:o.dst=some d) (hn:d<n) (hr:Run P f o w R) (h:∀v w',R v w'->Oks ops S i w w'∧RA P n ops Q S fuel (listed.setIfInBounds i true) (st f d v) w')
 (hs:RS P n ops Q S fuel listed f w rs):RS P n ops Q S fuel listed f w (i::rs):=by
 obtain⟨v,w',hr,hR⟩:=hr
 exact RS.val hi hg hd hn hr (h v w' hR).1 (h v w' hR).2 hs
theorem RS.runs (hi:ops[i]? =some o) (hg:o.guard=none) (hd:o.dst=none) (hr:aKi P f o w R0) (h:∀w',R0 w'->Oks ops S i w w'∧RA P n ops Q S fuel (listed.setIfInBounds i true) f w')
 (hs:RS P n ops Q S fuel listed f w rs):RS P n ops Q S fuel listed f w (i::rs):=by
 obtain⟨w',hr,hR⟩:=hr
 exact RS.skip hi hg hd hr (h w' hR).1 (h w' hR).2 hs
end
def spl (l:List Value) (o:Nat) (vs:List Value):List Value:=l.take o++vs++l.drop (o+vs.length)
section heavy
variable {P:Program} {f:Nat->Value} {w:World} {dst:Option Tmp} {ty:TypeId} {pos:String} {aft:Array Edge} {g:Option (Nat×Bool)} {x y z:Operand} {t t' e:TypeId}
theorem fE (w:World) (o:Obj):Ext w (w.alloc o):=(Below.refl _ _).alloc (Nat.le_refl _) o
theorem mP (w:World) (T:TypeId) (l:List Value):Bk (w.alloc (.cells l.toArray T)) w.heap.size T l:=heap_alloc_new w _
def Mk (w:World) (T:TypeId) (l:List Value) (b:Nat) (w':World):Prop:=b=w.heap.size∧Bk w' b T l∧Ext w w'
theorem fZ {vv:Value} {cs:List Value} (hx:ev f x=vv) (hc:vv.cells=cs.toArray):Run P f ⟨dst,.box t x,ty,pos,aft,g⟩ w λv w'=>∃b,v= .pointer (some ⟨b,0,none⟩)∧Mk w t cs b w':=
 ⟨_,_,by simp[execOp,hx,Instr.box,newVar,newRow,hc],_,rfl,rfl,mP w t cs,fE w _⟩
theorem cZ {size bytes:Nat} {zz:Value} {cs:List Value} (ht:TyI P t size bytes zz) (hc:zz.cells=cs.toArray):Run P f ⟨dst,.alloc t,ty,pos,aft,g⟩ w λv w'=>∃b,v= .pointer (some ⟨b,0,none⟩)∧Mk w t cs b w':=by
 obtain⟨i,hi,hz,_,_⟩:=ht.ex
 exact⟨_,_,by simp[execOp,Instr.alloc,zeroValue,typeInfo,hi,hz,newVar,newRow,hc],_,rfl,rfl,mP w t cs,fE w _⟩
theorem oX (w:World) (b:Nat) (cs:Array Value):Exc b w (w.setRow b cs):=
 ⟨rfl,rfl,rfl,by simp[World.setRow],λk _ hne=>by simp[World.setRow,Array.getElem?_modify,Ne.symm hne]⟩
theorem bQ {T:TypeId} {b o:Nat} {l:List Value} {vv:Value} {cs:List Value} {size bytes:Nat} {zz:Value} (ht:TyI P t size bytes zz) (hx:ev f x= .pointer (some ⟨b,o,none⟩)) (hy:ev f y=vv) (hc:vv.cells=cs.toArray) (hs:cs.length=size)
 (h1:∀u∈cs,u.oneCell'=true) (hb:Bk w b T l) (hfit:o+cs.length<=l.length):
 aKi P f ⟨dst,.store t x y,ty,pos,aft,g⟩ w λw'=>Bk w' b T (spl l o cs)∧Exc b w w'∧w'.heap.size=w.heap.size:=by
 obtain⟨i,hi,_,hsz,_⟩:=ht.ex
 have hst:=run_storeCells_at P b o T cs 0 l.toArray w hb (by simpa using hfit) h1
 simp only[Nat.add_zero] at hst
 refine⟨w.setRow b (spl l o cs).toArray,?_,?_,oX _ _ _,by simp[World.setRow]⟩
 ·simp[execOp,hx,hy,Instr.storeAt,Instr.sureAddr,storeVar,hc,hs,hsz,sizeOf,typeInfo,hi,hst,spl]
 exact setRow_heap w b l.toArray _ T (0,0) hb
end heavy
section calls
variable {P:Program} {n:Nat} {f:Nat->Value} {w:World}
def aZh (P:Program) (f:Nat->Value) (w:World):ResultVar->Value->Prop
 |.tmp t,v=>v=f t
 |.cell a T,v=>∃b o cs,f a= .pointer (some ⟨b,o,none⟩)∧(∃d,P.underlying T=some d)∧(∀j u,cs[j]? =some u->w.cell? ⟨b,o+j,none⟩=some u)∧
  ((lM P T=true∧(∃by' z,TyI P T cs.length by' z)∧v= .agg cs.toArray)∨(lM P T=false∧cs=[v]))
def aAf (P:Program) (f:Nat->Value) (w:World):List ResultVar->List Value->Prop
 |[],[]=>True
 |r::rs,v::vs=>aZh P f w r v∧aAf P f w rs vs
 |_,_=>False
def wI:List Value->Value
 |[v]=>v
 |vs=> .tuple vs.toArray
def rdv (tmps:Array Value):ResultVar->Sem Value
 |.tmp t=>pure (tmps.getD t undef)
 |.cell ad T=>do loadVar T (<-asAddr (tmps.getD ad undef))
theorem aKj {dl:List Deferred} {a:Act} (ha:Fm dl n f a) {r:ResultVar} {v:Value} (h:aZh P f w r v):
 (rdv a.tmps r).run P w= .ok v w:=by
 cases r with
 |tmp t=>
  have h':v=f t:=h
  rw[h',<-ha.2.2 t]
  rfl
 |cell ad T=>
  obtain⟨b,o,cs,h1,⟨d,hd⟩,h2,h3⟩:=h
  have e:=ha.2.2 ad
  rw[h1] at e
  simp only[rdv,e]
  have hl:=run_loadCells_list (P:=P) w (⟨b,o,none⟩:Addr) cs (λj u hj=>by rw[cS];exact h2 j u hj)
  rcases h3 with ⟨hb,⟨by',z,ht⟩,rfl⟩|⟨hb,rfl⟩
  ·obtain⟨i,hi,_,hs,_⟩:=ht.ex
   simp[asAddr,loadVar,jI hd,hb,sizeOf,typeInfo,hi,hs,hl]
  have hc:=h2 0 v rfl
  simp only[Nat.add_zero] at hc
  simp[asAddr,loadVar,jI hd,hb,load,Sem.run,hc]
theorem tZ {dl:List Deferred} {a:Act} (ha:Fm dl n f a):∀{rs:List ResultVar} {vs:List Value},aAf P f w rs vs->
 (rs.mapM (rdv a.tmps)).run P w= .ok vs w
 |[],[],_=>by simp
 |r::rs,v::vs,h=>by
  have h1:=aKj ha h.1
  have h2:=tZ ha h.2
  rw[List.mapM_cons]
  simp only[Sem.run_bind,h1,h2,Result.andThen_ok,Sem.run_pure]
 |[],_::_,h=>h.elim
 |_::_,[],h=>h.elim
theorem bH {k:FuncId} {fn:Func} {c:Code} {args:Array Value} {rs:List ResultVar} {R:Value->World->Prop} (hf:P.funcs[k]? =some fn) (hb:fn.body=some c) (hn:fn.ntmps=n) (hr:fn.results=rs.toArray) (hsz:args.size<=n)
 (h:WP P n c ⟨λf w=>∃vs,aAf P f w rs vs∧R (wI vs) w,λ_ _ _=>False,λf w=>∃vs,aAf P f w rs vs∧R (wI vs) w⟩ (λi=>args.getD i undef) w):
 Calls P k args w λe w'=>∃v,e= .returned v∧R v w':=by
 have ha0:Fm [] n (λi=>args.getD i undef) {tmps:=args++Array.replicate (fn.ntmps-args.size) undef,defers:=[]}:=by
  refine⟨rfl,by simp[hn];omega,λi=>?_⟩
  by_cases h1:i<args.size
  ·simp[Array.getD,h1,Array.getElem_append_left,Nat.lt_of_lt_of_le h1 (Nat.le_add_right _ _)]
  by_cases h2:i<n
  ·have h3:i<args.size+(fn.ntmps-args.size):=by omega
   simp only[Array.getD,Array.size_append,Array.size_replicate,h3,h1,dite_true,dite_false]
   simp[Array.getElem_append,h1]
  have h3:¬i<args.size+(fn.ntmps-args.size):=by omega
  simp only[Array.getD,Array.size_append,Array.size_replicate,h3,h1,dite_false]
 have fin:∀(a:Act) (f:Nat->Value) (w:World),Fm [] n f a->(∃vs,aAf P f w rs vs∧R (wI vs) w)->a.defers=[]∧∃v,(results fn a.tmps).run P w= .ok v w∧∃u,Ending.returned v= .returned u∧R u w:=by
  intro a f w ha ⟨vs,hv,hR⟩
  refine⟨ha.1,wI vs,?_,_,rfl,hR⟩
  have h1:=tZ ha hv
  have e:results fn a.tmps=(do let vs <-fn.results.mapM (rdv a.tmps);pure (if h:vs.size=1 then vs[0] else .tuple vs)):=rfl
  rw[e,hr,List.mapM_toArray]
  simp only[Sem.run_bind,Sem.run_map,h1,Result.andThen_ok,Sem.run_pure]
  congr 1
  match vs with
  |[]=>rfl
  |[v]=>rfl
  |v::u::vs=>simp[wI]
 refine calls_of_wp hf hb (wp_mono (wpIn_wide.1 (h none [] _ ha0)) λe a w hq=>?_)
 cases e with
 |normal=>obtain⟨f,hf,hh⟩:=hq;exact fin a f w hf hh
 |ret=>obtain⟨f,hf,hh⟩:=hq;exact fin a f w hf hh
 |exit i=>obtain⟨f,hf,hh⟩:=hq;exact hh.elim
 |goto l=>exact hq.elim
 |panic c=>exact hq.elim
 |outgrown=>exact hq.elim
theorem cV {c:Code} {Q:Po} (h:∀F,(∀i,F i=f i)->WP P n c Q F w):WP P n c Q f w:=h f λ_=>rfl
end calls
def rg:Nat->Nat->List Nat->List Nat
 |_,0,l=>l
 |a,n+1,l=>a::rg (a+1) n l
def Off (M:List Nat) (F f:Nat->Value):Prop:=∀i,M.contains i=false->f i=F i
theorem Off.refl (M:List Nat) (F:Nat->Value):Off M F F:=λ_ _=>rfl
theorem Off.st {M:List Nat} {F f:Nat->Value} (h:Off M F f) {d:Nat} (hd:M.contains d=true) (v:Value):Off M F (st f d v):=λi hi=>by
 have hne:i≠d:=λe=>by subst e;rw[hd] at hi;cases hi
 rw[gS _ _ _ _ hne]
 exact h i hi
theorem Off.eq {M:List Nat} {G F f:Nat->Value} (hF:∀i,F i=f i) (h:Off M G f):Off M G F:=λi hi=>(hF i).trans (h i hi)
theorem Off.via {M M':List Nat} {G F f:Nat->Value} (h':Off M' F f) (hM:(M'.all λi=>M.contains i)=true) (h:Off M G F):Off M G f:=λi hi=>by
 refine(h' i ?_).trans (h i hi)
 cases hc:M'.contains i with
 |false=>rfl
 |true=>
  have:=List.all_eq_true.1 hM i (by simpa using hc)
  rw[this] at hi
  cases hi
theorem aQ {k:IntKind} {a b:Int} (h:a=b):Value.int k a= .int k b:=by rw[h]
theorem aD {a b:Bool} (h:a=b):Value.bool a= .bool b:=by rw[h]
theorem wJ (z:Value) (n:Nat) (h:z.cells=#[z]):(madeCells z.cells n).toList=List.replicate n z:=by
 rw[h]
 apply List.ext_getElem
 ·simp[madeCells]
 intro i h1 h2
 simp[madeCells,Nat.mod_one]
theorem wO (z:Array Value) (n:Nat):(madeCells z (n*z.size)).toList=(List.replicate n z.toList).flatten:=by
 induction n with
 |zero=>simp[madeCells]
 |succ n ih=>
  rw[List.replicate_succ',List.flatten_append,<-ih]
  apply List.ext_getElem
  ·simp[madeCells,Nat.add_mul]
  intro i h1 h2
  simp only[madeCells,Array.toList_map,Array.toList_range,List.getElem_map,List.getElem_range,List.flatten_cons,List.flatten_nil,List.append_nil] at*
  by_cases hi:i<n*z.size
  ·rw[List.getElem_append_left (by simpa using hi)]
   simp
  rw[List.getElem_append_right (by simpa using hi)]
  simp only[List.length_map,List.length_range]
  have h3:i<n*z.size+z.size:=by simpa[madeCells,Nat.add_mul] using h1
  have h4:i%z.size=i-n*z.size:=by
   obtain⟨k,rfl⟩:∃k,i=n*z.size+k:=⟨i-n*z.size,by omega⟩
   rw[Nat.mul_comm,Nat.mul_add_mod,Nat.mod_eq_of_lt oM]
   omega
  rw[h4,getElem!_pos z (i-n*z.size) oM]
  simp
theorem wP {b n:Nat} (h:b*n<=281474976710656):(b:Int)*(n:Int)<=281474976710656:=by
 have:((b*n:Nat):Int)<=281474976710656:=by omega
 rwa [Int.natCast_mul] at this
section heavy
variable {P:Program} {f:Nat->Value} {w:World} {dst:Option Tmp} {ty:TypeId} {pos:String} {aft:Array Edge} {g:Option (Nat×Bool)} {x y z:Operand} {t t' e:TypeId} {D:Nat->TypeId->Prop}
theorem jY {k k':IntKind} {n:Nat} {zz:Value} {bytes:Nat} (hu:P.underlying t=some (.slice e)) (ht:TyI P e 1 bytes zz) (hz:zz.cells=#[zz]) (hx:ev f x= .int k (n:Int)) (hy:ev f y= .int k' (n:Int)) (hb:bytes*n<=281474976710656) (h63:n<=9223372036854775807):
 Run P f ⟨dst,.makeSlice t x y,ty,pos,aft,g⟩ w λv w'=>∃b,v= .slice (some ⟨b,0,none⟩) n n∧Mk w e (List.replicate n zz) b w':=by
 obtain⟨i,hi,hzi,hs,hby⟩:=ht.ex
 have hr:=run_make (P:=P) w t e i zz hu hi hzi k k' n n oM (Int.le_refl _) (by rw[hby];exact wP hb) oM
 simp only[Int.toNat_natCast,hs,Nat.mul_one] at hr
 refine⟨.slice (some ⟨w.heap.size,0,none⟩) n n,w.alloc (.cells (madeCells zz.cells n) e),by simp only[execOp,hx,hy,Sem.run_bind,hr,Result.andThen_ok,Sem.run_pure],_,rfl,rfl,?_,fE w _⟩
 have h:=mP w e (List.replicate n zz)
 rw[<-wJ zz n hz] at h ⊢
 simpa using h
theorem aKk {k k':IntKind} {n c:Nat} {zz:Value} {size bytes:Nat} (hu:P.underlying t=some (.slice e)) (ht:TyI P e size bytes zz) (hz:zz.cells.size=size) (hx:ev f x= .int k (n:Int)) (hy:ev f y= .int k' (c:Int)) (hnc:n<=c) (hb:bytes*c<=281474976710656) (h63:c<=9223372036854775807):
 Run P f ⟨dst,.makeSlice t x y,ty,pos,aft,g⟩ w λv w'=>∃b,v= .slice (some ⟨b,0,none⟩) n c∧Mk w e (List.replicate c zz.cells.toList).flatten b w':=by
 obtain⟨i,hi,hzi,hs,hby⟩:=ht.ex
 have hr:=run_make (P:=P) w t e i zz hu hi hzi k k' n c oM oM (by rw[hby];exact wP hb) oM
 simp only[Int.toNat_natCast,hs,<-hz] at hr
 refine⟨.slice (some ⟨w.heap.size,0,none⟩) n c,w.alloc (.cells (madeCells zz.cells (c*zz.cells.size)) e),by simp only[execOp,hx,hy,Sem.run_bind,hr,Result.andThen_ok,Sem.run_pure],_,rfl,rfl,?_,fE w _⟩
 have h:=mP w e (List.replicate c zz.cells.toList).flatten
 rw[<-wO] at h ⊢
 simpa using h
theorem aAg {len size bytes:Nat} {zz:Value} {al:List (Nat×Operand)} {vl:List (Nat×Value)} {cs:List Value} (hu:P.underlying t=some (.slice e)) (ht:TyI P e size bytes zz) (ha:al.map (λp=>(p.1,ev f p.2))=vl) (hbig:len*size<=16777216)
 (hf:Instr.fill (λi=>some (i*size,size)) ((Array.range (len*size)).map ((if len*size=0 then #[] else zz.cells)[·%(if len*size=0 then #[] else zz.cells).size]!)) vl=some cs.toArray):
 Run P f ⟨dst,.buildSlice t len al.toArray,ty,pos,aft,g⟩ w λv w'=>∃b,v= .slice (some ⟨b,0,none⟩) len len∧Mk w e cs b w':=by
 obtain⟨i,hi,hzi,hs,hby⟩:=ht.ex
 subst ha
 have hn:¬(16777216<len*size):=by omega
 refine⟨.slice (some ⟨w.heap.size,0,none⟩) len len,w.alloc (.cells cs.toArray e),?_,_,rfl,rfl,mP w e cs,fE w _⟩
 by_cases h0:len*size=0
 ·simp only[h0,if_true] at hf
  simp[execOp,Instr.buildSlice,run_underlying hu,sizeOf,typeInfo,hi,hs,h0,newRow]
  try simp at hf
  simp[hf]
 simp only[h0,if_false] at hf
 simp[execOp,Instr.buildSlice,run_underlying hu,sizeOf,typeInfo,hi,hs,h0,hn,zeroValue,hzi,newRow]
 try simp at hf
 simp[hf]
theorem eR {al:List (Nat×Operand)} {vl:List (Nat×Value)} {fs:Array Field} {pl:Array (Nat×Nat)} {zz:Value} {size bytes:Nat} {cs:List Value} (hu:P.underlying t=some (.struct fs)) (ht:TyI P t size bytes zz) (ha:al.map (λp=>(p.1,ev f p.2))=vl)
 (hp:∀w,(fs.mapM λ(fl:Field)=>(do pure (fl.offset,<-sizeOf fl.type):Sem (Nat×Nat))).run P w= .ok pl w) (hf:Instr.fill (pl[·]?) zz.cells vl=some cs.toArray):
 (execOp (ev f) ⟨dst,.build t al.toArray,ty,pos,aft,g⟩).run P w= .ok (.value (.agg cs.toArray)) w:=by
 obtain⟨i,hi,hzi,hs,hby⟩:=ht.ex
 subst ha
 have hzv:(zeroValue t).run P w= .ok zz w:=by simp[zeroValue,typeInfo,hi,hzi]
 simp only[execOp,Instr.build,Sem.run_bind,hzv,Result.andThen_ok,run_underlying hu,hp,List.map_toArray]
 rw[hf]
 simp
/-! append onto a slice of one's own -/
abbrev Ow (w:World) (lo:Nat) (e:TypeId) (size:Nat) (v:Value) (n:Nat) (l:List Value):Prop:=w.ownsRow lo e size v n l
theorem Ow.sc {lo size n:Nat} {v:Value} {l:List Value} (h:Ow w lo e size v n l) (hD:∀b,lo<=b->D b e):Sc D w size v n l:=by
 obtain⟨h1,h2⟩:=h
 rcases h2 with ⟨rfl,rfl⟩|⟨b,cap,cur,rfl,hb,hh,hc,hm,hs,ht⟩
 ·exact⟨none,0,rfl,Nat.le_refl _,by simp[maxLen],h1,.inl (List.eq_nil_of_length_eq_zero (by simpa using h1))⟩
 refine⟨some ⟨b,0,none⟩,cap,rfl,hc,hm,h1,.inr ⟨b,0,rfl,.inr ⟨cur,e,(0,0),hh,hD b hb,λj u hj=>?_⟩⟩⟩
 rw[<-ht,List.getElem?_take] at hj
 split at hj
 ·simpa using hj
 cases hj
theorem Ow.below {w0 w':World} {B lo size n:Nat} {v:Value} {l:List Value} (h:Ow w lo e size v n l) (hg:w.grownBy w' v.ownBlock) (hE:Below B w0 w) (hB:B<=lo) (hs:B<=w.heap.size):Below B w0 w':=
 hE.grown hg hs (λk hk=>by have:=h.lt k hk;omega)
theorem Ow.ext {w':World} {lo size n:Nat} {v:Value} {l:List Value} (h:Ow w lo e size v n l) (hE:Ext w w'):Ow w' lo e size v n l:=
 h.kept (row:=none) ⟨hE.os,hE.tape,hE.output,hE.size,λk hk _=>hE.block k hk⟩ (by cases hv:v.ownBlock<;>simp)
theorem Ow.mono {lo lo' size n:Nat} {v:Value} {l:List Value} (h:Ow w lo e size v n l) (hl:lo'<=lo):Ow w lo' e size v n l:=by
 refine⟨h.1,h.2.imp id ?_⟩
 rintro⟨b,cap,cur,h1,h2,h3⟩
 exact⟨b,cap,cur,h1,by omega,h3⟩
theorem Ow.nil (lo size:Nat):Ow w lo e size (.slice none 0 0) 0 []:=⟨by simp,.inl ⟨rfl,rfl⟩⟩
theorem aZi {b o dl dc n m size bytes:Nat} {zz v2:Value} {l cs:List Value} (hu:P.underlying t=some (.slice e)) (ht:TyI P e size bytes zz) (hx:ev f x= .slice (some ⟨b,o,none⟩) dl dc) (hy:ev f y=v2)
 (hb:Bk w b e l) (hs:Sc D w size v2 m cs) (hm:m<=dl) (hn:n=m) (h1:∀u∈cs,u.oneCell'=true) (hfit:o+cs.length<=l.length):
 Run P f ⟨dst,.call ⟨.builtin .copy,#[x,y],#[t,t']⟩,ty,pos,aft,g⟩ w λv w'=>v= .int .i64 n∧Bk w' b e (spl l o cs)∧Exc b w w':=by
 obtain⟨i,hi,hzi,hsi,hbi⟩:=ht.ex
 obtain⟨A,c,rfl,hmc,hcm,hl,hA⟩:=hs
 subst hn
 have hmin:min n dl=n:=Nat.min_eq_left hm
 refine⟨.int .i64 n,w.setRow b (spl l o cs).toArray,?_,rfl,setRow_heap w b l.toArray _ e (0,0) hb,oX _ _ _⟩
 have hst:=run_storeCells_at P b o e cs 0 l.toArray w hb (by simpa using hfit) h1
 simp only[Nat.add_zero] at hst
 have hfc:(Builtin.firstCells size n (.slice A n c)).run P w= .ok cs.toArray w:=by
  rcases hA with rfl|⟨b',o',rfl,hrd⟩
  ·cases A with
   |none=>simp[Builtin.firstCells]
   |some ad=>
    have:=run_loadCells_list (P:=P) w ad [] (by simp)
    simp only[Builtin.firstCells,<-hl]
    simpa using this
  have:=run_loadCells_list (P:=P) w ⟨b',o',none⟩ cs (λj u hj=>by rw[cS];exact hrd.cell hj)
  simp only[Builtin.firstCells,<-hl]
  exact this
 simp[execOp,resolve,invoke,builtin,Builtin.copy_,hx,hy,run_underlying hu,Builtin.lenOf,sizeOf,typeInfo,hi,hsi,hmin,hfc,hst,goInt,spl]
end heavy
end Go.Vg
namespace Go.Vg
open Go.RowKit
def Sg {α:Type} (g:α->Value) (D:Nat->TypeId->Prop) (w:World) (v:Value) (xs:List α):Prop:=Sc D w 1 v xs.length (xs.map g)
def Ar {α:Type} (g:α->Value) (w:World) (b:Nat) (T:TypeId) (o:Nat) (xs:List α) (n:Nat):Prop:=(∃pre post,pre.length=o∧Bk w b T (pre++xs.map g++post))∧xs.length=n
abbrev gN (k:IntKind):Nat->Value:=λz=> .int k (z:Int)
section
variable {α:Type} {g:α->Value} {D D':Nat->TypeId->Prop} {w w':World} {v:Value} {xs:List α} {b n:Nat} {T:TypeId}
theorem Sg.tr (h:Sg g D w v xs) (hs:Sm D w w'):Sg g D w' v xs:=Sc.tr h hs
theorem Sg.mono (h:Sg g D w v xs) (hD:∀b T,D b T->D' b T):Sg g D' w v xs:=Sc.mono h hD
theorem Sg.nil:Sg g D w (.slice none 0 0) []:=Sc.nil
theorem Sg.len (h:Sg g D w v xs):∃A c,v= .slice A xs.length c∧xs.length<=c∧c<=9223372036854775807:=by
 obtain⟨A,c,rfl,h1,h2,_⟩:=h
 exact⟨A,c,rfl,h1,by simpa[maxLen] using h2⟩
theorem Sg.ix [Inhabited α] (h:Sg g D w v xs) {i:Int} (k:Nat) (hi:i=(k:Int)) (hk:k<xs.length):
 ∃bb o c,v= .slice (some ⟨bb,o,none⟩) xs.length c∧w.cell? ⟨bb,o+i.toNat*1,none⟩=some (g (xs.getD k default)):=by
 obtain⟨A,c,rfl,h1,h2,h3,h4⟩:=h
 subst hi
 rcases h4 with h4|⟨bb,o,rfl,hr⟩
 ·have:xs=[]:=List.map_eq_nil_iff.1 h4
  subst this
  simp at hk
 refine⟨bb,o,c,rfl,?_⟩
 have:=hr.cell (j:=k) (u:=g (xs.getD k default)) (by simp[hk])
 simpa using this
theorem Sg.take (h:Sg g D w v xs) (k:Nat) (hk:k<=xs.length) {A:Option Addr} {m c:Nat} (hv:v= .slice A m c):Sg g D w (.slice A k c) (xs.take k):=by
 obtain⟨A',c',rfl,h1,h2,h3,h4⟩:=h
 injection hv with e1 e2 e3
 subst e1 e2 e3
 have hl:(xs.take k).length=k:=by simp[hk]
 refine⟨A',c',by rw[hl],by omega,h2,by simp,?_⟩
 rcases h4 with h4|⟨bb,o,rfl,hr⟩
 ·have:xs=[]:=List.map_eq_nil_iff.1 h4
  subst this
  exact .inl (by simp)
 exact .inr ⟨bb,o,rfl,by rw[List.map_take];exact hr.take k⟩
theorem Sg.drop (h:Sg g D w v xs) (k:Nat) (hk:k<=xs.length) {A:Option Addr} {m c:Nat} (hv:v= .slice A m c):Sg g D w (.slice (if c=k then A else A.map (·.add (k*1))) (m-k) (c-k)) (xs.drop k):=by
 obtain⟨A',c',rfl,h1,h2,h3,h4⟩:=h
 injection hv with e1 e2 e3
 subst e1 e2 e3
 have hl:(xs.drop k).length=xs.length-k:=by simp
 refine⟨_,_,by rw[hl],by omega,by omega,by simp,?_⟩
 by_cases hx:xs.drop k=[]
 ·exact .inl (by rw[hx];rfl)
 rcases h4 with h4|⟨bb,o,rfl,hr⟩
 ·have:xs=[]:=List.map_eq_nil_iff.1 h4
  subst this
  exact absurd (by simp) hx
 have hlt:k<xs.length:=by
  rcases Nat.lt_or_ge k xs.length with h|h
  ·exact h
  exact absurd (List.drop_of_length_le h) hx
 rw[if_neg oM]
 refine .inr ⟨bb,o+k,?_,by rw[List.map_drop];exact hr.drop k⟩
 simp[cS]
theorem Ar.ext {o:Nat} (h:Ar g w b T o xs n) (e:Ext w w'):Ar g w' b T o xs n:=by
 obtain⟨⟨pre,post,h1,h2⟩,h3⟩:=h
 exact⟨⟨pre,post,h1,h2.ext e⟩,h3⟩
theorem Ar.exc {o b0:Nat} (h:Ar g w b T o xs n) (e:Exc b0 w w') (hne:b≠b0):Ar g w' b T o xs n:=by
 obtain⟨⟨pre,post,h1,h2⟩,h3⟩:=h
 exact⟨⟨pre,post,h1,h2.exc e hne⟩,h3⟩
theorem Ar.lt {o:Nat} (h:Ar g w b T o xs n):b<w.heap.size:=by
 obtain⟨⟨pre,post,h1,h2⟩,h3⟩:=h
 exact h2.lt
theorem Ar.cell [Inhabited α] {o:Nat} (h:Ar g w b T o xs n) {i:Int} (k:Nat) (hi:i=(k:Int)) (hk:k<n):w.cell? ⟨b,o+i.toNat*1,none⟩=some (g (xs.getD k default)):=by
 obtain⟨⟨pre,post,h1,h2⟩,h3⟩:=h
 subst hi h1
 have hk':k<xs.length:=by rw[h3];exact hk
 refine h2.cell (j:=pre.length+(k:Int).toNat*1) ?_
 rw[Int.toNat_natCast,Nat.mul_one,List.append_assoc,List.getElem?_append_right oM]
 rw[Nat.add_sub_cancel_left,List.getElem?_append_left (by simpa using hk')]
 simp[hk']
theorem Ar.sc {o c:Nat} (h:Ar g w b T o xs n) (hc:n<=c) (hm:c<=9223372036854775807) (hd:D b T):Sg g D w (.slice (some ⟨b,o,none⟩) n c) xs:=by
 obtain⟨⟨pre,post,h1,h2⟩,h3⟩:=h
 refine⟨_,c,by rw[h3],by rw[h3];exact hc,by simpa[maxLen] using hm,by simp,.inr ⟨b,o,rfl,.inr ⟨_,T,(0,0),h2,hd,λj u hj=>?_⟩⟩⟩
 subst h1
 have hj':j<(xs.map g).length:=by
  rcases Nat.lt_or_ge j (xs.map g).length with h|h
  ·exact h
  rw[List.getElem?_eq_none h] at hj;cases hj
 simp only[List.getElem?_toArray]
 rw[List.append_assoc,List.getElem?_append_right oM,Nat.add_sub_cancel_left,List.getElem?_append_left hj']
 exact hj
theorem Ar.made {z:α} {zz:Value} (hb:Bk w b T (List.replicate n zz)) (hz:g z=zz):Ar g w b T 0 (List.replicate n z) n:=⟨⟨[],[],rfl,by rw[List.map_replicate,hz];simpa using hb⟩,by simp⟩
end
section
variable {P:Program} {f:Nat->Value} {w:World} {dst:Option Tmp} {ty:TypeId} {pos:String} {aft:Array Edge} {gd:Option (Nat×Bool)} {x y z:Operand} {t e:TypeId}
theorem aFw {α:Type} (g:α->Value) (pre post:List Value) (xs:List α) (k:Nat) (u:α) (hk:k<xs.length):spl (pre++xs.map g++post) (pre.length+k*1) [g u]=pre++(xs.set k u).map g++post:=by
 unfold spl
 rw[List.map_set,List.set_eq_take_append_cons_drop]
 rw[if_pos (by simpa using hk),Nat.mul_one]
 rw[List.append_assoc pre,List.take_append,List.drop_append]
 have e1:pre.take (pre.length+k)=pre:=List.take_of_length_le oM
 have e2:pre.drop (pre.length+k+[g u].length)=[]:=List.drop_of_length_le (by simp;omega)
 have e3:pre.length+k-pre.length=k:=by omega
 have e4:pre.length+k+[g u].length-pre.length=k+1:=by simp;omega
 rw[e1,e2,e3,e4,List.take_append_of_le_length (by simp;omega),List.drop_append_of_le_length (by simp;omega)]
 simp
theorem oN {α:Type} {g:α->Value} {T:TypeId} {b o n bytes:Nat} {xs:List α} {u:α} {i:Int} {vv zz:Value} (ht:TyI P t 1 bytes zz) (hx:ev f x= .pointer (some ⟨b,o+i.toNat*1,none⟩)) (hy:ev f y=vv) (hv:vv=g u) (hc:(g u).cells=#[g u]) (h1:(g u).oneCell'=true)
 (ha:Ar g w b T o xs n) (k:Nat) (hi:i=(k:Int)) (hk:k<n):
 aKi P f ⟨dst,.store t x y,ty,pos,aft,gd⟩ w λw'=>Ar g w' b T o (xs.set k u) n∧Exc b w w':=by
 obtain⟨⟨pre,post,h2,h3⟩,h4⟩:=ha
 subst hi hv h2
 have hk':k<xs.length:=by rw[h4];exact hk
 obtain⟨w',hr,h5,h6,_⟩:=bQ (P:=P) (f:=f) (dst:=dst) (ty:=ty) (pos:=pos) (aft:=aft) (g:=gd) (cs:=[g u]) ht hx hy hc rfl (by simpa using h1) h3 (by simp;omega)
 refine⟨w',hr,⟨⟨pre,post,rfl,?_⟩,by simpa using h4⟩,h6⟩
 have e:((k:Int)).toNat=k:=Int.toNat_natCast k
 rw[e,aFw g pre post xs k u hk'] at h5
 exact h5
end
end Go.Vg
namespace Go.Vg
theorem Ent.of {P:Program} {k:FuncId} {fn:Func} (hf:P.funcs[k]? =some fn) (hb:fn.body.isNone=false) (hn:(fn.name== "runtime.NumGoroutine")=false):Ent P k:=λargs w=>by
 unfold callFunc
 simp only[Sem.run_bind]
 rw[show(program).run P w= .ok P w from rfl]
 simp only[Result.andThen_ok,hf,hn,hb,Bool.false_eq_true,if_false,Sem.run_pure]
theorem Bk.cells {w:World} {b:Nat} {T:TypeId} {l:List Value} (h:Bk w b T l) {o:Nat} {cs:List Value} (hc:(l.drop o).take cs.length=cs):∀j u,cs[j]? =some u->w.cell? ⟨b,o+j,none⟩=some u:=λj u hj=>by
 refine h.cell ?_
 rw[<-hc,List.getElem?_take] at hj
 split at hj
 ·rwa [List.getElem?_drop] at hj
 cases hj
end Go.Vg
namespace Go.Vg
theorem bT {w u:World} {p:Addr} {v:Value} (hu:Ext w u) (h:w.cell? p=some v):u.cell? p=some v:=(hu.cell (World.block_lt_of_cell? w p h)).trans h
end Go.Vg
namespace Go.Vg
open Go.RowKit
def Ss {α:Type} (c:α->List Value) (size:Nat) (D:Nat->TypeId->Prop) (w:World) (v:Value) (xs:List α):Prop:=
 (0<size∧∀x∈xs,(c x).length=size)∧Sc D w size v xs.length (xs.map c).flatten
section
variable {α:Type} {c:α->List Value} {size:Nat} {D D':Nat->TypeId->Prop} {w w':World} {v:Value} {xs:List α}
theorem Ss.tr (h:Ss c size D w v xs) (hs:Sm D w w'):Ss c size D w' v xs:=⟨h.1,h.2.tr hs⟩
theorem Ss.mono (h:Ss c size D w v xs) (hD:∀b T,D b T->D' b T):Ss c size D' w v xs:=⟨h.1,h.2.mono hD⟩
theorem Ss.nil (hs:0<size):Ss c size D w (.slice none 0 0) []:=⟨⟨hs,by simp⟩,Sc.nil⟩
end
section
variable {P:Program} {f:Nat->Value} {w w':World} {dst:Option Tmp} {ty:TypeId} {pos:String} {aft:Array Edge} {gd:Option (Nat×Bool)} {x y z:Operand} {t t' e:TypeId} {D:Nat->TypeId->Prop}
theorem Bk.sc {b n size:Nat} {l:List Value} (hb:Bk w b e l) (hd:D b e) (hl:l.length=n*size) (hn:n<=9223372036854775807):Sc D w size (.slice (some ⟨b,0,none⟩) n n) n l:=
 ⟨_,n,rfl,Nat.le_refl _,by simpa[maxLen] using hn,hl,.inr ⟨b,0,rfl,by have:=hb.rd (D:=D) (m:=0) hd;simpa using this⟩⟩
theorem aKl {A:Option Addr} {n c:Nat} (ht:P.underlying t=some (.slice e)) (hx:ev f x= .slice A n c) (hy:ev f y= .slice none 0 0):(execOp (ev f) ⟨dst,.binOp .eql t x y t',ty,pos,aft,gd⟩).run P w= .ok (.value (.bool A.isNone)) w:=by
 have h:(Op.equalIn (9999+1) t (.slice A n c) (.slice none 0 0)).run P w= .ok A.isNone w:=by
  exact Lib.run_equalIn_slice_nil w 9999 t e A n c 0 0 ht
 simp only[execOp,hx,hy,eqGuard,binOp]
 simp[Op.equal,Op.maxDepth,h]
end
section
variable {D:Nat->TypeId->Prop} {w:World} {v:Value} {size n:Nat} {l:List Value}
theorem bU:∀u∈([]:List Value),u.oneCell'=true:=λ_ h=>by cases h
theorem aF {u:Value} {l:List Value} (h:u.oneCell'=true) (hl:∀u∈l,u.oneCell'=true):∀z∈u::l,z.oneCell'=true:=λz hz=>by
 rcases List.mem_cons.1 hz with rfl|hz
 ·exact h
 exact hl z hz
theorem Sc.one (h:Sc D w size v n l):v.oneCell'=true:=by
 obtain⟨A,c,rfl,_⟩:=h
 rfl
theorem Sg.one {α:Type} {g:α->Value} {xs:List α} (h:Sg g D w v xs):v.oneCell'=true:=Sc.one h
end
theorem Exc.below {b B:Nat} {w0 w:World} (h:Exc b w0 w) (hb:B<=b) (hB:B<=w0.heap.size):Below B w0 w:=⟨h.os,h.tape,h.output,h.size,λk hk=>h.block k oM oM⟩
theorem Exc.ext {b:Nat} {w0 w:World} (h:Exc b w0 w) (hb:w0.heap.size<=b):Ext w0 w:=h.below hb (Nat.le_refl _)
section
variable {D:Nat->TypeId->Prop} {w:World} {v:Value} {size n:Nat} {l:List Value}
theorem Sc.old (h:Sc D w size v n l):Sc (λb T=>D b T∧b<w.heap.size) w size v n l:=by
 obtain⟨A,c,rfl,h1,h2,h3,h4⟩:=h
 refine⟨A,c,rfl,h1,h2,h3,h4.imp id ?_⟩
 rintro⟨b,o,rfl,hr⟩
 refine⟨b,o,rfl,?_⟩
 rcases hr with hr|⟨cs,T,fz,hh,hd,hc⟩
 ·exact .inl hr
 exact .inr ⟨cs,T,fz,hh,⟨hd,cC hh⟩,hc⟩
theorem Sg.old {α:Type} {g:α->Value} {xs:List α} (h:Sg g D w v xs):Sg g (λb T=>D b T∧b<w.heap.size) w v xs:=Sc.old h
end
theorem rD {v:Value} (h:v.oneCell'=true):v.cells=#[v]:=by
 cases v<;>first|rfl|(simp[Value.oneCell'] at h)
section
variable {P:Program} {f:Nat->Value} {w:World} {dst:Option Tmp} {ty:TypeId} {pos:String} {aft:Array Edge} {gd:Option (Nat×Bool)} {x y z:Operand} {t e:TypeId}
theorem aTw {k:IntKind} {A:Option Addr} {n c size bytes kk:Nat} {h:Int} {zz:Value} (hu:P.underlying t=some (.slice e)) (ht:TyI P e size bytes zz) (hx:ev f x= .slice A n c) (hy:ev f y= .int k h) (hk:h=(kk:Int)) (h1:kk<=c):
 (execOp (ev f) ⟨dst,.slice t x none (some y) none,ty,pos,aft,gd⟩).run P w= .ok (.value (.slice A kk c)) w:=by
 have h2:=rB (P:=P) (f:=f) (w:=w) (dst:=dst) (ty:=ty) (pos:=pos) (aft:=aft) (g:=gd) hu ht hx hy oM oM
 rw[hk,Int.toNat_natCast] at h2
 exact h2
theorem bNd {k:IntKind} {A:Option Addr} {n c size bytes kk:Nat} {l:Int} {zz:Value} (hu:P.underlying t=some (.slice e)) (ht:TyI P e size bytes zz) (hx:ev f x= .slice A n c) (hy:ev f y= .int k l) (hk:l=(kk:Int)) (h1:kk<=n):
 (execOp (ev f) ⟨dst,.slice t x (some y) none none,ty,pos,aft,gd⟩).run P w= .ok (.value (.slice (if c=kk then A else A.map (·.add (kk*size))) (n-kk) (c-kk))) w:=by
 have h2:=rC (P:=P) (f:=f) (w:=w) (dst:=dst) (ty:=ty) (pos:=pos) (aft:=aft) (g:=gd) hu ht hx hy oM oM
 rw[hk,Int.toNat_natCast] at h2
 exact h2
end
end Go.Vg
namespace Go.Vg
open Go.RowKit
theorem plq {P:Program} {t:TypeId} {fs:Array Field} (h:P.underlying t=some (.struct fs)) (pl:Array (Nat×Nat)) (w:World)
 (e:((match P.underlying t with|some (.struct fs)=>fs|_=>#[]).mapM λ(fl:Field)=>(do pure (fl.offset,<-sizeOf fl.type):Sem (Nat×Nat))).run P w= .ok pl w):(fs.mapM λ(fl:Field)=>(do pure (fl.offset,<-sizeOf fl.type):Sem (Nat×Nat))).run P w= .ok pl w:=by
 rw[h] at e
 exact e
end Go.Vg
namespace Go.Vm
variable {α:Type}
def Srt (key:α->Int) (l:List α):Prop:=l.Pairwise λx y=>key x<=key y
def StE (key:α->Int) (l l':List α):Prop:=∀k:Int,l.filter (λx=>key x==k)=l'.filter (λx=>key x==k)
theorem StE.symm {key:α->Int} {l l':List α} (h:StE key l l'):StE key l' l:=λk=>(h k).symm
theorem StE.mem {key:α->Int} {l l':List α} (h:StE key l l') {x:α} (hx:x∈l):x∈l':=by
 have h1:x∈l.filter (λy=>key y==key x):=by rw[List.mem_filter];exact⟨hx,by simp⟩
 rw[h (key x),List.mem_filter] at h1
 exact h1.1
theorem StE.length {key:α->Int} {l l':List α} (h:StE key l l'):l.length=l'.length:=by
 suffices H:∀n (l l':List α),l.length<=n->StE key l l'->l.length=l'.length from H l.length l l' (Nat.le_refl _) h
 intro n
 induction n with
 |zero=>
  intro l l' hn h
  have hl:l=[]:=List.eq_nil_of_length_eq_zero oM
  subst hl
  cases l' with
  |nil=>rfl
  |cons y t=>have:=h.symm.mem (x:=y) (by simp);simp at this
 |succ n ih=>
  intro l l' hn h
  cases l with
  |nil=>
   cases l' with
   |nil=>rfl
   |cons y t=>have:=h.symm.mem (x:=y) (by simp);simp at this
  |cons x t=>
   have part:∀m:List α,m.length=(m.filter (λy=>key y==key x)).length+(m.filter (λy=>!(key y==key x))).length:=λm=>by
    induction m with
    |nil=>rfl
    |cons a m ihm=>
     by_cases ha:key a==key x
     ·simp[List.filter_cons,ha];omega
     simp[List.filter_cons,ha];omega
   rw[part (x::t),part l',h (key x)]
   congr 1
   refine ih _ _ ?_ ?_
   ·have:=List.length_filter_le (λy=>!(key y==key x)) t
    simp[List.filter_cons] at*
    omega
   intro k
   rw[List.filter_filter,List.filter_filter]
   by_cases hk:k=key x
   ·have e:∀m:List α,m.filter (λa=>(key a==k)&&!(key a==key x))=[]:=λm=>by
     rw[List.filter_eq_nil_iff];intro a _;simp;intro h1;rw[h1,hk]
    rw[e,e]
   have e:∀m:List α,m.filter (λa=>(key a==k)&&!(key a==key x))=m.filter (λa=>key a==k):=λm=>by
    apply List.filter_congr
    intro a _
    by_cases h1:key a=k
    ·simp[h1,hk]
    simp[h1]
   rw[e,e]
   exact h k
theorem Srt.nil (key:α->Int):Srt key []:=List.Pairwise.nil
theorem aIt [Inhabited α] (l:List α) (k:Nat) (h:k<l.length):l.drop k=l.getD k default::l.drop (k+1):=by
 rw[List.drop_eq_getElem_cons h]
 simp[h]
theorem wQ [Inhabited α] (l:List α) (k:Nat) (h:k<l.length):l.take (k+1)=l.take k++[l.getD k default]:=by
 rw[List.take_succ_eq_append_getElem h]
 simp[h]
theorem aKm [Inhabited α] (l:List α) (k:Nat) (h:k<l.length):l.getD k default∈l:=by simp[h]
theorem Srt.at {key:α->Int} [Inhabited α] {l:List α} (h:Srt key l) {i j:Nat} (hij:i<=j) (hj:j<l.length):key (l.getD i default)<=key (l.getD j default):=by
 rcases Nat.lt_or_ge i j with h1|h1
 ·have:=List.pairwise_iff_getElem.1 h i j oM hj h1
  simpa[hj,show i<l.length by omega] using this
 have:i=j:=by omega
 subst this
 exact Int.le_refl _
theorem Srt.take {key:α->Int} {l:List α} (h:Srt key l) (p:Nat):Srt key (l.take p):=List.Pairwise.sublist (List.take_sublist p l) h
theorem Srt.drop {key:α->Int} {l:List α} (h:Srt key l) (p:Nat):Srt key (l.drop p):=List.Pairwise.sublist (List.drop_sublist p l) h
def Blk (key:α->Int) (z:Nat) (l:List α):Prop:=∀q,Srt key ((l.drop (q*z)).take z)
theorem Blk.nil (key:α->Int) (z:Nat):Blk key z ([]:List α):=λq=>by simp;exact Srt.nil _
theorem Blk.at {key:α->Int} {z:Nat} {l:List α} (h:Blk key z l) {e:Nat} (he:∃k,e=k*z):Srt key ((l.drop e).take z):=by
 obtain⟨k,rfl⟩:=he
 exact h k
theorem Blk.rest {key:α->Int} {z:Nat} {l:List α} (h:Blk key z l) {e:Nat} (he:∃k,e=k*z) (hl:l.length<=e+z):Srt key (l.drop e):=by
 have:=h.at he
 rwa [List.take_of_length_le (by simp;omega)] at this
end Go.Vm
namespace Go.Vm
def val:List Nat->Nat
 |[]=>0
 |x::xs=>x+4294967296*val xs
def Lm (xs:List Nat):Prop:=∀x∈xs,x<4294967296
def oO:Nat->Nat->List Nat
 |0,_=>[]
 |f+1,n=>if n=0 then [] else (n%4294967296)::oO f (n/4294967296)
def aB (n:Nat):List Nat:=oO n n
def len (n:Nat):Nat:=(aB n).length
theorem wR:∀(f g n:Nat),n<=f->n<=g->oO f n=oO g n
 |0,0,_,_,_=>rfl
 |0,g+1,n,h,_=>by have:n=0:=by omega
                  subst this;simp[oO]
 |f+1,0,n,_,h=>by have:n=0:=by omega
                  subst this;simp[oO]
 |f+1,g+1,n,h1,h2=>by
  by_cases h0:n=0
  ·simp[oO,h0]
  simp only[oO,h0,if_false]
  rw[wR f g (n/4294967296) oM oM]
theorem iE:aB 0=[]:=rfl
theorem iK {n:Nat} (h:n≠0):aB n=(n%4294967296)::aB (n/4294967296):=by
 obtain⟨m,rfl⟩:∃m,n=m+1:=⟨n-1,by omega⟩
 show oO (m+1) (m+1)=_
 simp only[oO,h,if_false]
 rw[wR m ((m+1)/4294967296) _ oM oM]
 rfl
theorem aW (n:Nat):val (aB n)=n:=by
 induction n using Nat.strongRecOn with
 |ind n ih=>
  by_cases h:n=0
  ·subst h;rfl
  rw[iK h]
  show n%4294967296+4294967296*val (aB (n/4294967296))=n
  rw[ih _ oM]
  omega
theorem aR (n:Nat):Lm (aB n):=by
 induction n using Nat.strongRecOn with
 |ind n ih=>
  by_cases h:n=0
  ·subst h;intro x hx;rw[iE] at hx;cases hx
  rw[iK h]
  intro x hx
  rcases List.mem_cons.1 hx with rfl|hx
  ·exact Nat.mod_lt _ dC
  exact ih _ oM x hx
theorem fJ (a b:List Nat):val (a++b)=val a+4294967296^a.length*val b:=by
 induction a with
 |nil=>simp[val]
 |cons x a ih=>
  show x+4294967296*val (a++b)=x+4294967296*val a+4294967296^(a.length+1)*val b
  rw[ih,Nat.pow_succ,Nat.mul_add,Nat.mul_comm (4294967296^a.length) 4294967296,Nat.mul_assoc]
  omega
theorem eS (a:List Nat) (x:Nat):val (a++[x])=val a+4294967296^a.length*x:=by
 rw[fJ];simp[val]
theorem eM {a:List Nat} (h:Lm a):val a<4294967296^a.length:=by
 induction a with
 |nil=>simp[val]
 |cons x a ih=>
  have h1:=ih (λy hy=>h y (by simp[hy]))
  have h2:=h x (by simp)
  show x+4294967296*val a<4294967296^(a.length+1)
  rw[Nat.pow_succ,Nat.mul_comm]
  omega
theorem Lm.nil:Lm []:=λ_ h=>by cases h
theorem Lm.append {a b:List Nat} (ha:Lm a) (hb:Lm b):Lm (a++b):=λx hx=>by
 rcases List.mem_append.1 hx with h|h
 ·exact ha x h
 exact hb x h
theorem Lm.snoc {a:List Nat} (ha:Lm a) {x:Nat} (hx:x<4294967296):Lm (a++[x]):=ha.append λy hy=>by rw[List.mem_singleton] at hy;omega
theorem Lm.take {a:List Nat} (h:Lm a) (k:Nat):Lm (a.take k):=λx hx=>h x (List.mem_of_mem_take hx)
theorem Lm.drop {a:List Nat} (h:Lm a) (k:Nat):Lm (a.drop k):=λx hx=>h x (List.mem_of_mem_drop hx)
theorem Lm.at {a:List Nat} (h:Lm a) {k:Nat} (hk:k<a.length):a.getD k default<4294967296:=h _ (aKm _ _ hk)
theorem rE (n:Nat):val (List.replicate n 0)=0:=by
 induction n with
 |zero=>rfl
 |succ n ih=>rw[List.replicate_succ];show 0+4294967296*val _=0;rw[ih]
theorem Lm.zeros (n:Nat):Lm (List.replicate n 0):=λx hx=>by rw[List.eq_of_mem_replicate hx];decide
def Cn (a:List Nat):Prop:=a.length=0∨a.getD (a.length-1) default≠0
theorem Cn.tail {x:Nat} {a:List Nat} (h:Cn (x::a)) (ha:a≠[]):Cn a:=by
 right
 rcases h with h|h
 ·simp at h
 have:0<a.length:=List.length_pos_iff.2 ha
 rw[List.length_cons,Nat.add_sub_cancel] at h
 obtain⟨m,hm⟩:∃m,a.length=m+1:=⟨a.length-1,by omega⟩
 rw[hm] at h ⊢
 simpa using h
theorem Cn.pos {a:List Nat} (h:Cn a) (ha:a≠[]):0<val a:=by
 induction a with
 |nil=>exact absurd rfl ha
 |cons x a ih=>
  show 0<x+4294967296*val a
  by_cases h0:a=[]
  ·subst h0
   rcases h with h|h
   ·simp at h
   simp at h;omega
  have:=ih (h.tail h0) h0;omega
theorem aCp {a:List Nat} (hl:Lm a) (hc:Cn a):a=aB (val a):=by
 induction a with
 |nil=>rfl
 |cons x a ih=>
  have hx:=hl x (by simp)
  have hpos:=hc.pos (by simp)
  rw[iK oM]
  show x::a=((x+4294967296*val a)%4294967296)::aB ((x+4294967296*val a)/4294967296)
  rw[show(x+4294967296*val a)%4294967296=x by omega,show(x+4294967296*val a)/4294967296=val a by omega]
  congr 1
  by_cases h0:a=[]
  ·subst h0;rfl
  exact ih (λy hy=>hl y (by simp[hy])) (hc.tail h0)
theorem aTx (n:Nat):Cn (aB n):=by
 induction n using Nat.strongRecOn with
 |ind n ih=>
  by_cases h:n=0
  ·subst h;exact .inl rfl
  right
  rw[iK h]
  by_cases h0:n/4294967296=0
  ·rw[h0,iE]
   simp;omega
  have h1:=ih _ (show n/4294967296<n by omega)
  rcases h1 with h1|h1
  ·rw[iK h0] at h1;simp at h1
  obtain⟨m,hm⟩:∃m,(aB (n/4294967296)).length=m+1:=⟨(aB (n/4294967296)).length-1,by rw[iK h0];simp⟩
  rw[List.length_cons,Nat.add_sub_cancel,hm]
  rw[hm,Nat.add_sub_cancel] at h1
  simpa using h1
theorem rF {xs:List Nat} {n:Nat} (hx:Lm xs) (hn:n<=xs.length) (hv:val (xs.take n)=val xs) (hl:n=0∨xs.getD (n-1) default≠0):xs.take n=aB (val xs):=by
 rw[<-hv]
 refine aCp (hx.take n) ?_
 have hlen:(xs.take n).length=n:=by simp;omega
 unfold Cn
 rw[hlen]
 rcases hl with h|h
 ·exact .inl h
 by_cases h0:n=0
 ·exact .inl h0
 right
 simpa[List.getD_eq_getElem?_getD,List.getElem?_take,show n-1<n by omega] using h
theorem wS {xs:List Nat} {n:Nat} (hn:n<=xs.length) (h0:0<n) (hv:val (xs.take n)=val xs) (hz:xs.getD (n-1) default=0):val (xs.take (n-1))=val xs:=by
 obtain⟨m,rfl⟩:∃m,n=m+1:=⟨n-1,by omega⟩
 rw[Nat.add_sub_cancel] at hz ⊢
 rw[wQ xs m oM,eS,hz] at hv
 omega
theorem bI {xs:List Nat} {k:Nat} (h:k<xs.length):val (xs.take (k+1))=val (xs.take k)+4294967296^k*xs.getD k default:=by
 rw[wQ xs k h,eS,List.length_take,Nat.min_eq_left oM]
theorem eC {xs:List Nat} {k:Nat} (h:xs.length<=k):val (xs.take k)=val xs:=by rw[List.take_of_length_le h]
def dig (xs:List Nat) (k:Nat):Nat:=if k<xs.length then xs.getD k default else 0
theorem gU (xs:List Nat) (k:Nat):val (xs.take (k+1))=val (xs.take k)+4294967296^k*dig xs k:=by
 unfold dig
 split
 ·next h=>exact bI h
 rw[eC oM,eC oM];rfl
theorem gV {xs:List Nat} {k:Nat} (h:k<xs.length):dig xs k=xs.getD k default:=if_pos h
theorem kQ {xs:List Nat} {k:Nat} (h:¬k<xs.length):dig xs k=0:=if_neg h
theorem kH {xs:List Nat} (h:Lm xs) (k:Nat):dig xs k<4294967296:=by
 unfold dig
 split
 ·next hk=>exact h.at hk
 decide
theorem gL {n k:Nat} (h:n<4294967296^k):(aB n).length<=k:=by
 induction k generalizing n with
 |zero=>have:n=0:=by simpa using h
        subst this;simp[iE]
 |succ k ih=>
  by_cases h0:n=0
  ·subst h0;simp[iE]
  rw[iK h0,List.length_cons]
  have:=@ih (n/4294967296) (by rw[Nat.pow_succ] at h;exact Nat.div_lt_of_lt_mul (by rw[Nat.mul_comm];exact h))
  omega
theorem mQ (n:Nat):n<4294967296^len n:=by
 have:=eM (aR n)
 rwa [aW] at this
theorem eG {xs:List Nat} (h:Lm xs):len (val xs)<=xs.length:=gL (eM h)
theorem cJ (n:Nat):(aB n).length=len n:=rfl
theorem cH {m n:Nat} (h:m<=n):len m<=len n:=gL (Nat.lt_of_le_of_lt h (mQ n))
theorem aCq {n:Nat} (h:n≠0):4294967296^(len n-1)<=n:=by
 rcases Nat.lt_or_ge n (4294967296^(len n-1)) with h1|h1
 ·have h2:=gL h1
  rw[cJ] at h2
  have:len n≠0:=by unfold len;rw[iK h];simp
  omega
 exact h1
theorem jJ {m n:Nat} (h:len m<len n):m<n:=by
 have h1:=mQ m
 have h2:4294967296^len m<=4294967296^(len n-1):=Nat.pow_le_pow_right dC oM
 have h3:=aCq (n:=n) (λh0=>by subst h0;simp[len,iE] at h)
 omega
theorem eB {n:Nat}:len n=0↔n=0:=by
 constructor
 ·intro h;have:=mQ n;rw[h] at this;simpa using this
 rintro rfl;rfl
theorem nS (m n:Nat):len (m+n)<=max (len m) (len n)+1:=by
 refine gL ?_
 have h1:=mQ m
 have h2:=mQ n
 have h3:4294967296^len m<=4294967296^max (len m) (len n):=Nat.pow_le_pow_right dC oM
 have h4:4294967296^len n<=4294967296^max (len m) (len n):=Nat.pow_le_pow_right dC oM
 rw[Nat.pow_succ]
 omega
theorem nT (m n:Nat):len (m*n)<=len m+len n:=by
 refine gL ?_
 rw[Nat.pow_add]
 exact Nat.mul_lt_mul'' (mQ m) (mQ n)
def eY (P:List Nat) (m:Nat):List Nat:=P++List.replicate (m-P.length) 0
theorem jK (m:Nat):eY [] m=List.replicate m 0:=by simp[eY]
theorem pM {P:List Nat} {m:Nat} (h:P.length<=m):(eY P m).length=m:=by simp[eY];omega
theorem gM {P:List Nat} {m k u:Nat} (hk:P.length=k) (h:k<m):(eY P m).set k u=eY (P++[u]) m:=by
 unfold eY
 subst hk
 rw[List.set_append_right _ _ (Nat.le_refl _),Nat.sub_self]
 obtain⟨q,hq⟩:∃q,m-P.length=q+1:=⟨m-P.length-1,by omega⟩
 rw[hq,List.replicate_succ,List.length_append,show m-(P.length+[u].length)=q by simp;omega]
 simp
theorem iF {P:List Nat} {m:Nat} (h:P.length=m):eY P m=P:=by simp[eY,h]
theorem mR (p s:Nat):p*(s%4294967296)+4294967296*p*(s/4294967296)=p*s:=by
 rw[Nat.mul_comm 4294967296 p,Nat.mul_assoc,<-Nat.mul_add,Nat.mod_add_div]
theorem aAh {P:List Nat} {k c x y A B:Nat} (hP:P.length=k) (h:val P+4294967296^k*c=A+B):
 val (P++[(c+x+y)%4294967296])+4294967296^(k+1)*((c+x+y)/4294967296)=(A+4294967296^k*x)+(B+4294967296^k*y):=by
 rw[eS,hP,Nat.pow_succ]
 have h1:=mR (4294967296^k) (c+x+y)
 rw[Nat.mul_comm 4294967296] at h1
 rw[Nat.mul_add,Nat.mul_add] at h1
 omega
theorem aTy {P:List Nat} {m c A B n:Nat} (hP:P.length=m) (hm:m=n+1) (h:val P+4294967296^m*c=A+B) (hA:A<4294967296^n) (hB:B<4294967296^n):val P=A+B:=by
 have h1:4294967296^m=4294967296^n*4294967296:=by rw[hm,Nat.pow_succ]
 rcases Nat.eq_zero_or_pos c with h0|h0
 ·subst h0;omega
 have:4294967296^m*1<=4294967296^m*c:=Nat.mul_le_mul_left _ h0
 omega
theorem aAi {P:List Nat} {k c x y A B:Nat} (hP:P.length=k) (h:val P+B=A+4294967296^k*c) (hx:x<4294967296) (hy:y<4294967296) (hc:c<=1):
 val (P++[(x+4294967296-(c+y))%4294967296])+(B+4294967296^k*y)=(A+4294967296^k*x)+4294967296^(k+1)*(if x<c+y then 1 else 0):=by
 rw[eS,hP,Nat.pow_succ]
 have e:∀p:Nat,p*((x+4294967296-(c+y))%4294967296)+p*(c+y)=p*x+p*(4294967296*if x<c+y then 1 else 0):=λp=>by
  rw[<-Nat.mul_add,<-Nat.mul_add]
  congr 1
  split<;>omega
 have h1:=e (4294967296^k)
 rw[Nat.mul_add _ c y,<-Nat.mul_assoc] at h1
 omega
theorem aKn {P:List Nat} {k c o x y A:Nat} (hP:P.length=k) (h:val P+4294967296^k*c=A):
 val (P++[(c+(o+x*y))%4294967296])+4294967296^(k+1)*((c+(o+x*y))/4294967296)=A+4294967296^k*o+x*(4294967296^k*y):=by
 rw[eS,hP,Nat.pow_succ]
 have h1:=mR (4294967296^k) (c+(o+x*y))
 rw[Nat.mul_comm 4294967296] at h1
 rw[Nat.mul_add,Nat.mul_add,Nat.mul_left_comm _ x y] at h1
 omega
end Go.Vm
namespace Go.Vm
theorem gW {a:List Nat} {m:Nat} (h:m<a.length):a.drop m=a.getD m default::a.drop (m+1):=aIt a m h
theorem fF (a:List Nat) {m:Nat} (h:m<=a.length):val a=val (a.take m)+4294967296^m*val (a.drop m):=by
 have:=fJ (a.take m) (a.drop m)
 rw[List.take_append_drop,List.length_take,Nat.min_eq_left h] at this
 exact this
theorem rG {a b:List Nat} {m:Nat} (ha:Lm a) (hl:a.length=b.length) (hm:m<a.length) (hd:a.drop (m+1)=b.drop (m+1)) (hx:a.getD m default<b.getD m default):val a<val b:=by
 rw[fF a (Nat.le_of_lt hm),fF b (show m<=b.length by omega),gW hm,gW (show m<b.length by omega),hd]
 have h1:=eM (ha.take m)
 rw[List.length_take,Nat.min_eq_left oM] at h1
 show _+4294967296^m*(a.getD m default+4294967296*val (b.drop (m+1)))<_+4294967296^m*(b.getD m default+4294967296*val (b.drop (m+1)))
 have h2:4294967296^m*(a.getD m default+1+4294967296*val (b.drop (m+1)))<=4294967296^m*(b.getD m default+4294967296*val (b.drop (m+1))):=Nat.mul_le_mul_left _ oM
 rw[show a.getD m default+1+4294967296*val (b.drop (m+1))=(a.getD m default+4294967296*val (b.drop (m+1)))+1 by omega,Nat.mul_add,Nat.mul_one] at h2
 omega
theorem wT {a b:List Nat} {n:Nat} (h0:0<n) (ha:n<=a.length) (hb:n<=b.length) (hd:a.drop n=b.drop n) (hx:a.getD (n-1) default=b.getD (n-1) default):a.drop (n-1)=b.drop (n-1):=by
 obtain⟨m,rfl⟩:∃m,n=m+1:=⟨n-1,by omega⟩
 rw[Nat.add_sub_cancel] at hx ⊢
 rw[gW oM,gW (show m<b.length by omega),hx,hd]
theorem aFx (x:Nat):val [x%4294967296,x/4294967296]=x:=by simp[val];omega
theorem Lm.two {x:Nat} (h:x<18446744073709551616):Lm [x%4294967296,x/4294967296%4294967296]:=by
 intro y hy
 simp at hy
 omega
theorem iI {n:Nat}:n<18446744073709551616↔len n<=2:=by
 constructor
 ·intro h;exact gL (k:=2) oM
 intro h
 have h1:=mQ n
 have h2:4294967296^len n<=4294967296^2:=Nat.pow_le_pow_right dC h
 omega
theorem kI {a:List Nat} {n:Nat} (h0:0<n) (h:n<=a.length):val (a.drop (n-1))=a.getD (n-1) default+4294967296*val (a.drop n):=by
 obtain⟨m,rfl⟩:∃m,n=m+1:=⟨n-1,by omega⟩
 rw[Nat.add_sub_cancel,gW oM]
 rfl
theorem aKo {l m:List Nat} (hl:l.length=m.length) (h:∀j,j<l.length->l.getD j default=m.getD j default):l=m:=by
 apply List.ext_getElem hl
 intro j h1 h2
 have:=h j h1
 simpa[h1,h2] using this
end Go.Vm
namespace Go.Vm
theorem aTz {x y P:List Nat} {k c:Nat} (lx:Lm x) (ly:Lm y) (hP:P.length=k) (hk:k=max x.length y.length+1) (hv:val P+4294967296^k*c=val (x.take k)+val (y.take k)):val P=val x+val y:=by
 rw[eC oM,eC oM] at hv
 refine aTy hP hk hv ?_ ?_
 ·exact Nat.lt_of_lt_of_le (eM lx) (Nat.pow_le_pow_right dC oM)
 exact Nat.lt_of_lt_of_le (eM ly) (Nat.pow_le_pow_right dC oM)
theorem aFy {x y P:List Nat} {k c:Nat} (lP:Lm P) (hP:P.length=k) (hx:x.length<=k) (hy:y.length<=k) (hxy:val y<=val x) (hv:val P+val (y.take k)=val (x.take k)+4294967296^k*c):val P=val x-val y:=by
 rw[eC hx,eC hy] at hv
 have h1:=eM lP
 rw[hP] at h1
 rcases Nat.eq_zero_or_pos c with h0|h0
 ·subst h0;omega
 have:4294967296^k*1<=4294967296^k*c:=Nat.mul_le_mul_left _ h0
 omega
theorem mS {x y:Nat} (hx:x<4294967296) (hy:y<4294967296):x*y<=18446744065119617025:=by
 have h1:x*y<=4294967295*y:=Nat.mul_le_mul_right _ oM
 omega
def gX (O Q:List Nat) (i:Nat):List Nat:=O.take i++Q++O.drop (i+Q.length)
theorem aAj (O:List Nat) (i:Nat):gX O [] i=O:=by simp[gX]
theorem aFz {O Q:List Nat} {i k:Nat} (hQ:Q.length=k) (hi:i+k<O.length):(gX O Q i).getD (i+k) default=O.getD (i+k) default:=by
 unfold gX
 rw[List.getD_eq_getElem?_getD,List.getD_eq_getElem?_getD,List.getElem?_append_right (by simp;omega)]
 simp only[List.length_append,List.length_take,List.getElem?_drop]
 rw[hQ,show i+k+(i+k-(min i O.length+k))=i+k by omega]
theorem pN {O Q:List Nat} {i k u:Nat} (hQ:Q.length=k) (hi:i+k<O.length):(gX O Q i).set (i+k) u=gX O (Q++[u]) i:=by
 unfold gX
 rw[List.set_append_right _ _ (by simp;omega),List.append_assoc (O.take i),List.append_assoc (O.take i),List.append_assoc Q]
 congr 2
 simp only[List.length_append,List.length_take,List.length_singleton]
 rw[show i+k-(min i O.length+Q.length)=0 by omega,hQ,gW hi]
 rfl
theorem iL {O Q:List Nat} {i:Nat} (h:i+Q.length<=O.length):(gX O Q i).length=O.length:=by simp[gX];omega
theorem aGa {O Q:List Nat} {i:Nat} (hO:Lm O) (hQ:Lm Q):Lm (gX O Q i):=((hO.take i).append hQ).append (hO.drop _)
theorem aGb {O x y Q:List Nat} {i n c:Nat} (hi:i<x.length) (hQ:Q.length=y.length) (hO:O.length=x.length+y.length) (h1:val (O.take (i+y.length))=val (x.take i)*val y)
 (h2:val Q+4294967296^y.length*c=val ((O.drop i).take y.length)+x.getD i default*val y):
 val ((gX O (Q++[c]) i).take (i+1+y.length))=val (x.take (i+1))*val y:=by
 have e:(gX O (Q++[c]) i).take (i+1+y.length)=O.take i++(Q++[c]):=by
  unfold gX
  rw[List.take_append_of_le_length (by simp;omega)]
  exact List.take_of_length_le (by simp;omega)
 have e2:O.take (i+y.length)=O.take i++(O.drop i).take y.length:=by rw[List.take_add]
 rw[e2,fJ,List.length_take,Nat.min_eq_left oM] at h1
 rw[e,fJ,List.length_take,Nat.min_eq_left oM,eS,hQ,h2,Nat.mul_add,bI hi,Nat.add_mul,<-h1,Nat.mul_assoc]
 omega
theorem uA {O Q:List Nat} {i m:Nat} (hQ:Q.length=m+1) (hO:i+m<O.length) (hz:∀j,i+m<=j->j<O.length->O.getD j default=0):∀j,i+1+m<=j->j<(gX O Q i).length->(gX O Q i).getD j default=0:=by
 intro j h1 h2
 rw[iL oM] at h2
 have h3:=hz j oM h2
 unfold gX
 rw[List.getD_eq_getElem?_getD,List.getElem?_append_right (by simp;omega)]
 simp only[List.length_append,List.length_take,List.getElem?_drop]
 rw[hQ,show i+(m+1)+(j-(min i O.length+(m+1)))=j by omega]
 rw[List.getD_eq_getElem?_getD] at h3
 exact h3
end Go.Vm
namespace Go.Vm
theorem pO {O y Q:List Nat} {i k c xi:Nat} (hQ:Q.length=k) (hk:k<y.length) (hO:i+k<O.length) (h:val Q+4294967296^k*c=val ((O.drop i).take k)+xi*val (y.take k)):
 val (Q++[(c+(O.getD (i+k) default+xi*y.getD k default))%4294967296])+4294967296^(k+1)*((c+(O.getD (i+k) default+xi*y.getD k default))/4294967296)=val ((O.drop i).take (k+1))+xi*val (y.take (k+1)):=by
 have h1:=aKn (o:=O.getD (i+k) default) (x:=xi) (y:=y.getD k default) hQ h
 have h2:=bI (xs:=O.drop i) (k:=k) (by rw[List.length_drop];omega)
 rw[show(O.drop i).getD k default=O.getD (i+k) default by simp[List.getD_eq_getElem?_getD]] at h2
 rw[h1,h2,bI hk,Nat.mul_add]
 omega
end Go.Vm
namespace Go.Vm
theorem aKp (m:Nat):4294967296^m=2^(32*m):=by rw[show(4294967296:Nat)=2^32 from rfl,<-Nat.pow_mul]
theorem aKq {X:List Nat} {s:Nat} (hX:Lm X) (h0:0<X.length) (hs:X.getD (X.length-1) default/2^s=0):val X<2^(32*(X.length-1)+s):=by
 have h1:X.getD (X.length-1) default<2^s:=by
  rcases Nat.lt_or_ge (X.getD (X.length-1) default) (2^s) with h|h
  ·exact h
  have:=Nat.div_pos h (Nat.two_pow_pos s);omega
 have h2:=eM (hX.take (X.length-1))
 rw[List.length_take,Nat.min_eq_left oM] at h2
 rw[fF X (show X.length-1<=X.length by omega),gW oM,List.drop_of_length_le oM]
 show _+4294967296^(X.length-1)*(X.getD (X.length-1) default+4294967296*0)<_
 rw[Nat.pow_add,<-aKp]
 have h3:4294967296^(X.length-1)*(X.getD (X.length-1) default+1)<=4294967296^(X.length-1)*2^s:=Nat.mul_le_mul_left _ h1
 rw[Nat.mul_add,Nat.mul_one] at h3
 rw[Nat.mul_zero,Nat.add_zero]
 omega
theorem xO {x:List Nat} (hx:Lm x) (i:Nat):dig x (i/32)/2^(i%32)%2=val x/2^i%2:=by
 have hi:i=32*(i/32)+i%32:=by omega
 have hs:i%32<32:=by omega
 generalize i/32=q at*
 generalize i%32=s at*
 subst hi
 rw[Nat.pow_add,<-aKp,<-Nat.div_div_eq_div_mul]
 have h1:val x/4294967296^q=dig x q+4294967296*val (x.drop (q+1)):=by
  rcases Nat.lt_or_ge q x.length with h|h
  ·rw[fF x (Nat.le_of_lt h),gW h,gV h]
   have h2:=eM (hx.take q)
   rw[List.length_take,Nat.min_eq_left oM] at h2
   rw[Nat.add_mul_div_left _ _ (Nat.pow_pos dC),Nat.div_eq_of_lt h2,Nat.zero_add]
   rfl
  rw[kQ oM,List.drop_of_length_le oM]
  have h2:=eM hx
  have h3:4294967296^x.length<=4294967296^q:=Nat.pow_le_pow_right dC h
  rw[Nat.div_eq_of_lt oM]
  rfl
 rw[h1]
 obtain⟨t,ht⟩:∃t,32=s+1+t:=⟨31-s,by omega⟩
 have h4:(4294967296:Nat)=2^s*(2*2^t):=by
  rw[show(4294967296:Nat)=2^32 from rfl,ht,Nat.pow_add,Nat.pow_add,Nat.pow_one,Nat.mul_assoc]
 rw[h4,Nat.mul_assoc (2^s),Nat.add_mul_div_left _ _ (Nat.two_pow_pos s),Nat.mul_assoc 2]
 omega
theorem aKr {a s:Nat} (h:a/2^s%2=0):a|||2^s=a+2^s:=by
 have h1:=Nat.mod_pow_succ (b:=2) (k:=s) (x:=a)
 rw[h,Nat.mul_zero,Nat.add_zero] at h1
 have h2:a%2^(s+1)<2^s:=by rw[h1];exact Nat.mod_lt _ (Nat.two_pow_pos s)
 have h3:=Nat.div_add_mod a (2^(s+1))
 have h4:=Nat.two_pow_add_eq_or_of_lt (i:=s+1) (b:=a%2^(s+1)) (Nat.mod_lt _ (Nat.two_pow_pos _)) (a/2^(s+1))
 have h5:=Nat.two_pow_add_eq_or_of_lt (i:=s) (b:=a%2^(s+1)) h2 1
 rw[Nat.mul_one] at h5
 have h6:2^(s+1)=2^s+2^s:=by rw[Nat.pow_succ];omega
 have h7:=Nat.two_pow_add_eq_or_of_lt (i:=s+1) (b:=2^s+a%2^(s+1)) oM (a/2^(s+1))
 clear h1
 generalize 2^(s+1)*(a/2^(s+1))=A at*
 generalize a%2^(s+1)=l at*
 have e1:a|||2^s=(A|||l)|||2^s:=by rw[<-h4,h3]
 rw[e1,Nat.or_assoc,Nat.or_comm l,<-h5,<-h7]
 omega
theorem aUa {O:List Nat} {q u:Nat} (h:q<O.length):val (O.set q u)+4294967296^q*O.getD q default=val O+4294967296^q*u:=by
 have e:O.set q u=O.take q++u::O.drop (q+1):=by rw[List.set_eq_take_append_cons_drop,if_pos h]
 rw[e,fJ,List.length_take,Nat.min_eq_left oM,fF O (Nat.le_of_lt h),gW h]
 show _+4294967296^q*(u+4294967296*val (O.drop (q+1)))+_=_+4294967296^q*(O.getD q default+4294967296*val (O.drop (q+1)))+_
 rw[Nat.mul_add,Nat.mul_add]
 omega
theorem aZj {O:List Nat} {i:Nat} (hO:Lm O) (hi:i/32<O.length) (hd:val O%2^(i+1)=0):
 O.getD (i/32) default|||2^(i%32)=O.getD (i/32) default+2^(i%32)∧O.getD (i/32) default+2^(i%32)<4294967296∧val (O.set (i/32) (O.getD (i/32) default+2^(i%32)))=val O+2^i:=by
 have hb:val O/2^i%2=0:=by
  have h1:=Nat.mod_pow_succ (b:=2) (k:=i) (x:=val O)
  rw[hd] at h1
  rcases Nat.eq_zero_or_pos (val O/2^i%2) with h|h
  ·exact h
  have:2^i*1<=2^i*(val O/2^i%2):=Nat.mul_le_mul_left _ h
  have:=Nat.two_pow_pos i
  omega
 have ha:=xO hO i
 rw[hb,gV hi] at ha
 refine⟨aKr ha,?_,?_⟩
 ·have h1:=hO.at hi
  rw[<-aKr ha]
  exact Nat.or_lt_two_pow (n:=32) h1 (Nat.pow_lt_pow_right dC oM)
 have h1:=aUa (u:=O.getD (i/32) default+2^(i%32)) hi
 rw[Nat.mul_add] at h1
 have h2:2^i=4294967296^(i/32)*2^(i%32):=by rw[aKp,<-Nat.pow_add];congr 1;omega
 omega
theorem aKs {n i Qn b r:Nat} (h:n/2^(i+1)=Qn*b+r):n/2^i=2*Qn*b+(r+r+n/2^i%2):=by
 rw[Nat.pow_succ,<-Nat.div_div_eq_div_mul] at h
 have h1:2*Qn*b=Qn*b+Qn*b:=by rw[Nat.mul_assoc];omega
 omega
theorem xP {n b Qn r:Nat} (h:n=Qn*b+r) (hr:r<b):Qn=n/b∧r=n%b:=by
 subst h
 rw[Nat.mul_comm,Nat.mul_add_div oM,Nat.mul_add_mod,Nat.div_eq_of_lt hr,Nat.mod_eq_of_lt hr]
 exact⟨rfl,rfl⟩
def kJ (x y:Nat):Nat:=if y=0 then 0 else x%y
end Go.Vm
namespace Go.Vm
theorem Lm.set {O:List Nat} (h:Lm O) {q u:Nat} (hu:u<4294967296):Lm (O.set q u):=λx hx=>by
 rcases List.mem_or_eq_of_mem_set hx with hx|rfl
 ·exact h x hx
 exact hu
theorem aAk (Q i:Nat):Q*2^(i+1)=2*Q*2^i:=by
 rw[Nat.pow_succ,Nat.mul_comm (2^i) 2,<-Nat.mul_assoc,Nat.mul_comm Q 2]
end Go.Vm
namespace Go.Vm
def sg (b:Bool) (n:Nat):Int:=match b with
 |true=>-(n:Int)
 |false=>(n:Int)
theorem sg_t (n:Nat):sg true n=-(n:Int):=rfl
theorem sg_f (n:Nat):sg false n=(n:Int):=rfl
theorem sg_abs (b:Bool) (n:Nat):(sg b n).natAbs=n:=by cases b<;>simp[sg]
theorem bF (z:Int):sg (decide (z<0)) z.natAbs=z:=by
 by_cases h:z<0
 ·rw[decide_eq_true h,sg_t];omega
 rw[decide_eq_false h,sg_f];omega
theorem aU (z:Int):sg (decide (z<0)) (val (aB z.natAbs))=z:=by rw[aW,bF]
theorem sg_add (b:Bool) (m n:Nat):sg b (m+n)=sg b m+sg b n:=by cases b<;>simp only[sg]<;>omega
theorem bG (b:Bool):sg b 0=0:=by cases b<;>rfl
theorem sg_mul (a b:Bool) (m n:Nat):sg (a !=b) (m*n)=sg a m*sg b n:=by cases a<;>cases b<;>simp[sg,Int.neg_mul,Int.mul_neg]
theorem cM {b:Bool} {n:Nat}:sg b n<0↔b=true∧0<n:=by
 cases b
 ·simp only[sg,Bool.false_eq_true,false_and,iff_false];omega
 simp only[sg,true_and];omega
theorem kS {b:Bool} {x:List Nat} {z:Int} (hx:Lm x) (h:sg b (val x)=z):(aB z.natAbs).length<=x.length:=by
 rw[<-h,sg_abs];exact eG hx
theorem aKt (a b:Int):(aB (a+b).natAbs).length<=max (aB a.natAbs).length (aB b.natAbs).length+1:=
 Nat.le_trans (cH (Int.natAbs_add_le a b)) (nS _ _)
theorem oY (a b:Int):(aB (a*b).natAbs).length<=(aB a.natAbs).length+(aB b.natAbs).length:=by
 rw[Int.natAbs_mul];exact nT _ _
def dE (b:Bool) (n d:Nat):Rat:=Rat.divInt (sg b n) (d:Int)
theorem aIu {a b:Int}:(Rat.divInt a b).num.natAbs<=a.natAbs:=by
 rw[Rat.num_divInt]
 refine Nat.le_trans (Int.natAbs_ediv_le_natAbs _ _) ?_
 rw[Int.natAbs_mul]
 have:b.sign.natAbs<=1:=by
  rcases Int.lt_trichotomy b 0 with h|h|h
  ·rw[Int.sign_eq_neg_one_of_neg h];decide
  ·rw[h];decide
  rw[Int.sign_eq_one_of_pos h];decide
 calc b.sign.natAbs*a.natAbs<=1*a.natAbs:=Nat.mul_le_mul_right _ this
  _=a.natAbs:=Nat.one_mul _
theorem wK {a b:Int}:(Rat.divInt a b).den<=b.natAbs∨(Rat.divInt a b).den=1:=by
 rw[Rat.den_divInt]
 split
 ·exact .inr rfl
 exact .inl (Nat.div_le_self _ _)
theorem aUb:(aB 1).length=1:=rfl
theorem lN {a b:Int}:(aB (Rat.divInt a b).num.natAbs).length<=(aB a.natAbs).length:=cH aIu
theorem lO {a b:Int}:(aB (Rat.divInt a b).den).length<=max (aB b.natAbs).length 1:=by
 rcases wK (a:=a) (b:=b) with h|h
 ·have h2:(aB (Rat.divInt a b).den).length<=(aB b.natAbs).length:=cH h
  omega
 rw[h,aUb];omega
end Go.Vm
namespace Go.Vm
theorem bNe {s:Bool} {n:Nat} {z:Int} (h:sg s n=z) (hs:s=true):decide ((0:Int)<(((aB n).length:Nat):Int))=decide (z<0):=by
 subst hs
 rw[<-h]
 have:=eB (n:=n)
 unfold len at this
 refine decide_eq_decide.2 ?_
 rw[sg_t]
 omega
theorem bNf {s:Bool} {n:Nat} {z:Int} (h:sg s n=z) (hs:s=false):false=decide (z<0):=by
 subst hs
 rw[<-h,sg_f]
 exact(decide_eq_false oM).symm
theorem oZ {s:Bool} {n:Nat} {z:Int} (h:sg s n=z):aB n=aB z.natAbs:=by rw[<-h,sg_abs]
theorem bJ {x:List Nat} (h:Lm x):(aB (val x)).length<=x.length:=eG h
theorem aZk (a b:Nat):(aB (a+b)).length<=max (aB a).length (aB b).length+1:=nS a b
theorem uB (a b:Nat):(aB (a*b)).length<=(aB a).length+(aB b).length:=nT a b
theorem aCr (a b:Nat):(aB (a-b)).length<=(aB a).length:=cH (Nat.sub_le a b)
theorem uD (a b:Nat):(aB (a/b)).length<=(aB a).length:=cH (Nat.div_le_self a b)
theorem pP (a b:Nat):(aB (kJ a b)).length<=(aB b).length:=by
 unfold kJ
 split
 ·exact Nat.zero_le _
 exact cH (Nat.le_of_lt (Nat.mod_lt _ oM))
theorem mT (a b:Nat):(aB (kJ a b)).length<=(aB a).length:=by
 unfold kJ
 split
 ·exact Nat.zero_le _
 exact cH (Nat.mod_le _ _)
theorem aZl (a b:Nat):(aB (Nat.gcd a b)).length<=max (aB a).length (aB b).length:=by
 rcases Nat.eq_zero_or_pos a with h|h
 ·rw[h,Nat.gcd_zero_left];omega
 have:(aB (Nat.gcd a b)).length<=(aB a).length:=cH (Nat.le_of_dvd h (Nat.gcd_dvd_left a b))
 omega
end Go.Vm
namespace Go.Vm
theorem kK {n:Nat} (h:n<18446744073709551616):(aB n).length<=2:=iI.1 h
theorem aAl {zx zy:Int} (h:zy≠0):(zy/((Int.gcd zx zy:Nat):Int)<0->(Rat.divInt zx zy).num=-(zx/((Int.gcd zx zy:Nat):Int))∧(Rat.divInt zx zy).den=(-(zy/((Int.gcd zx zy:Nat):Int))).natAbs)∧
 (¬zy/((Int.gcd zx zy:Nat):Int)<0->(Rat.divInt zx zy).num=zx/((Int.gcd zx zy:Nat):Int)∧(Rat.divInt zx zy).den=(zy/((Int.gcd zx zy:Nat):Int)).natAbs):=by
 have hg:0<Int.gcd zx zy:=Int.gcd_pos_of_ne_zero_right _ h
 have hd1:((Int.gcd zx zy:Nat):Int)∣zx:=Int.gcd_dvd_left ..
 have hd2:((Int.gcd zx zy:Nat):Int)∣zy:=Int.gcd_dvd_right ..
 rw[Rat.num_divInt,Rat.den_divInt,if_neg h,Int.gcd_comm zy zx]
 obtain⟨a,ha⟩:=hd1
 obtain⟨b,hb⟩:=hd2
 generalize Int.gcd zx zy=g at*
 have hg':(g:Int)≠0:=by omega
 have e1:zx/(g:Int)=a:=by rw[ha,Int.mul_ediv_cancel_left _ hg']
 have e2:zy/(g:Int)=b:=by rw[hb,Int.mul_ediv_cancel_left _ hg']
 have e3:zy.natAbs/g=b.natAbs:=by rw[hb,Int.natAbs_mul,Int.natAbs_natCast,Nat.mul_div_cancel_left _ hg]
 rw[e1,e2,e3]
 constructor
 ·intro hn
  have hz:zy<0:=by rw[hb];exact Int.mul_neg_of_pos_of_neg oM hn
  rw[Int.sign_eq_neg_one_of_neg hz]
  refine⟨?_,by rw[Int.natAbs_neg]⟩
  rw[ha,show(-1:Int)*((g:Int)*a)=(g:Int)*(-a) by rw[Int.neg_one_mul,Int.mul_neg],Int.mul_ediv_cancel_left _ hg']
 intro hn
 have hb0:0<b:=by
  rcases Int.lt_trichotomy b 0 with h1|h1|h1
  ·exact absurd h1 hn
  ·rw[h1,Int.mul_zero] at hb;exact absurd hb h
  exact h1
 have hz:0<zy:=by rw[hb];exact Int.mul_pos oM hb0
 rw[Int.sign_eq_one_of_pos hz,Int.one_mul,ha,Int.mul_ediv_cancel_left _ hg']
 exact⟨rfl,rfl⟩
theorem lS (z:Int):(Rat.divInt z 1).num=z∧(Rat.divInt z 1).den=1:=by
 rw[Rat.num_divInt,Rat.den_divInt]
 simp
theorem aAm (a b:Rat):Rat.divInt (a.num*(b.den:Int)+b.num*(a.den:Int)) ((a.den:Int)*(b.den:Int))=a+b:=by
 have h1:(a.den:Int)≠0:=by have:=a.den_nz;omega
 have h2:(b.den:Int)≠0:=by have:=b.den_nz;omega
 rw[<-Rat.divInt_add_divInt _ _ h1 h2,Rat.num_divInt_den,Rat.num_divInt_den]
theorem aKu (a b:Rat):Rat.divInt (a.num*b.num) ((a.den:Int)*(b.den:Int))=a*b:=by
 rw[<-Rat.divInt_mul_divInt,Rat.num_divInt_den,Rat.num_divInt_den]
theorem aKv (a b:Rat):Rat.divInt (a.num*(b.den:Int)) ((a.den:Int)*b.num)=a/b:=by
 rw[Rat.div_def,Rat.inv_def,<-Rat.divInt_mul_divInt,Rat.num_divInt_den]
theorem aUc (z:Int):Rat.divInt z 1=(z:Rat):=by
 apply Rat.ext
 ·rw[(lS z).1];rfl
 rw[(lS z).2];rfl
theorem oP {b:Bool} {x d:List Nat} {q:Rat} (hx:Lm x) (hd:Lm d) (h:dE b (val x) (val d)=q):(aB q.num.natAbs).length<=x.length∧(aB q.den).length<=d.length+1:=by
 rw[<-h]
 unfold dE
 have h1:=lN (a:=sg b (val x)) (b:=((val d:Nat):Int))
 have h2:=lO (a:=sg b (val x)) (b:=((val d:Nat):Int))
 rw[sg_abs] at h1
 rw[Int.natAbs_natCast] at h2
 have h3:=bJ hx
 have h4:=bJ hd
 omega
theorem dS (q:Rat):1<=(aB q.den).length:=by
 have h:=eB (n:=q.den)
 unfold len at h
 have:=q.den_nz
 omega
end Go.Vm
namespace Go.Proofs.YtlhdigjbokkbiaaGreat.W
open Go.Vg _root_.Go.Proofs.Tryz
theorem fV:Tryz.prog.follows .mixedOrders=true:=by kernel_rfl
theorem ty4:TyI Tryz.prog 4 1 1 (.bool false):=TyI.of kR--bool
theorem ag4:lM Tryz.prog 4=false:=by kernel_rfl
theorem iM:TyI Tryz.prog 47 1 24 (.slice none 0 0):=TyI.of kR--[]uint32
theorem jA:lM Tryz.prog 47=false:=by kernel_rfl
theorem cO:TyI Tryz.prog 49 2 32 (.agg #[.bool false,.slice none 0 0]):=TyI.of kR--api.Int
theorem iB:lM Tryz.prog 49=true:=by kernel_rfl
theorem aAn {fs:Array Field} (h:Tryz.prog.underlying 49=some (.struct fs)) (w:World):(fs.mapM λ(fl:Field)=>(do pure (fl.offset,<-sizeOf fl.type):Sem (Nat×Nat))).run Tryz.prog w= .ok #[(0,1),(1,1)] w:=plq h _ w kR
theorem dF:TyI Tryz.prog 51 3 56 (.agg #[.bool false,.slice none 0 0,.slice none 0 0]):=TyI.of kR--api.Rat
theorem fH:lM Tryz.prog 51=true:=by kernel_rfl
theorem aIv {fs:Array Field} (h:Tryz.prog.underlying 51=some (.struct fs)) (w:World):(fs.mapM λ(fl:Field)=>(do pure (fl.offset,<-sizeOf fl.type):Sem (Nat×Nat))).run Tryz.prog w= .ok #[(0,2),(2,1)] w:=plq h _ w kR
theorem xQ:TyI Tryz.prog 82 1 8 (.int .u64 0):=TyI.of kR--uint64
theorem xR:lM Tryz.prog 82=false:=by kernel_rfl
theorem bM:TyI Tryz.prog 131 1 4 (.int .u32 0):=TyI.of kR--uint32
theorem dR:lM Tryz.prog 131=false:=by kernel_rfl
theorem pQ:TyI Tryz.prog 171 5 40 (.agg #[.int .u64 0,.int .u64 0,.int .u64 0,.int .u64 0,.bool false]):=TyI.of kR--natural.cofactors
theorem aYc:lM Tryz.prog 171=true:=by kernel_rfl
theorem aYd {fs:Array Field} (h:Tryz.prog.underlying 171=some (.struct fs)) (w:World):(fs.mapM λ(fl:Field)=>(do pure (fl.offset,<-sizeOf fl.type):Sem (Nat×Nat))).run Tryz.prog w= .ok #[(0,1),(1,1),(2,1),(3,1),(4,1)] w:=plq h _ w kR
theorem aGc:Ent Tryz.prog 41:=Ent.of func41 rfl kR--gridmarket/rational.Sign
theorem aYe:Ent Tryz.prog 67:=Ent.of func67 rfl kR--gridmarket/rational.Norm
theorem sF:Ent Tryz.prog 78:=Ent.of func78 rfl kR--gridmarket/rational.parts
theorem aKw:Ent Tryz.prog 79:=Ent.of func79 rfl kR--gridmarket/integer.Sign
theorem uE:Ent Tryz.prog 81:=Ent.of func81 rfl kR--gridmarket/rational.small
theorem aKx:Ent Tryz.prog 82:=Ent.of func82 rfl kR--gridmarket/rational.quotient
theorem aGd:Ent Tryz.prog 83:=Ent.of func83 rfl kR--gridmarket/rational.lowest
theorem sG:Ent Tryz.prog 84:=Ent.of func84 rfl kR--gridmarket/integer.Mul
theorem aAo:Ent Tryz.prog 85:=Ent.of func85 rfl kR--gridmarket/natural.Mul
theorem aZm:Ent Tryz.prog 111:=Ent.of func111 rfl kR--gridmarket/integer.FromInt
theorem mU:Ent Tryz.prog 120:=Ent.of func120 rfl kR--gridmarket/natural.Compare
theorem uF:Ent Tryz.prog 121:=Ent.of func121 rfl kR--gridmarket/integer.Add
theorem aKy:Ent Tryz.prog 122:=Ent.of func122 rfl kR--gridmarket/natural.Uint64
theorem kL:Ent Tryz.prog 123:=Ent.of func123 rfl kR--gridmarket/natural.FromUint64
theorem aZn:Ent Tryz.prog 124:=Ent.of func124 rfl kR--gridmarket/integer.Norm
theorem xS:Ent Tryz.prog 125:=Ent.of func125 rfl kR--gridmarket/natural.Trim
theorem aZo:Ent Tryz.prog 126:=Ent.of func126 rfl kR--gridmarket/natural.GCD
theorem uG:Ent Tryz.prog 127:=Ent.of func127 rfl kR--gridmarket/natural.DivMod
theorem pA:Ent Tryz.prog 128:=Ent.of func128 rfl kR--gridmarket/integer.signed
theorem eN:Ent Tryz.prog 129:=Ent.of func129 rfl kR--gridmarket/natural.cut
theorem aZp:Ent Tryz.prog 140:=Ent.of func140 rfl kR--cmp.Compare[int]
theorem aZq:Ent Tryz.prog 146:=Ent.of func146 rfl kR--gridmarket/natural.Add
theorem aCs:Ent Tryz.prog 147:=Ent.of func147 rfl kR--gridmarket/natural.Sub
theorem uH:Ent Tryz.prog 148:=Ent.of func148 rfl kR--gridmarket/natural.word
theorem aZr:Ent Tryz.prog 149:=Ent.of func149 rfl kR--gridmarket/natural.leading
theorem xT:Ent Tryz.prog 150:=Ent.of func150 rfl kR--gridmarket/natural.combine
theorem aZs:Ent Tryz.prog 151:=Ent.of func151 rfl kR--gridmarket/natural.divideByLimb
theorem aZt:Ent Tryz.prog 152:=Ent.of func152 rfl kR--gridmarket/natural.divideLong
theorem aKz:Ent Tryz.prog 167:=Ent.of func167 rfl kR--cmp.isNaN[int]
theorem aZu:Ent Tryz.prog 170:=Ent.of func170 rfl kR--cmp.Compare[int64]
theorem aZv:Ent Tryz.prog 171:=Ent.of func171 rfl kR--gridmarket/integer.Compare
theorem aLa:Ent Tryz.prog 172:=Ent.of func172 rfl kR--math/bits.LeadingZeros32
theorem aLb:Ent Tryz.prog 173:=Ent.of func173 rfl kR--gridmarket/natural.window
theorem aLc:Ent Tryz.prog 174:=Ent.of func174 rfl kR--gridmarket/natural.shifted
theorem aZw:Ent Tryz.prog 175:=Ent.of func175 rfl kR--gridmarket/natural.nextDigit
theorem aZx:Ent Tryz.prog 176:=Ent.of func176 rfl kR--gridmarket/natural.ShiftRight
theorem aLd:Ent Tryz.prog 185:=Ent.of func185 rfl kR--cmp.isNaN[int64]
theorem aCt:Ent Tryz.prog 186:=Ent.of func186 rfl kR--gridmarket/natural.window$1
abbrev uT2:=Tryz.underlying2
abbrev uT3:=Tryz.underlying3
abbrev uT4:=Tryz.underlying4
abbrev bE:=Tryz.underlying47
abbrev cQ:=Tryz.underlying49
abbrev dT:=Tryz.underlying51
abbrev dB:=Tryz.underlying82
abbrev bN:=Tryz.underlying131
abbrev iX:=Tryz.underlying171
end Go.Proofs.YtlhdigjbokkbiaaGreat.W
namespace Go.Vg
open Go Go.RowKit
section
variable {P:Program} {n:Nat} {f:Nat->Value} {w:World} {ops:Array Oper} {Q:Po}
theorem aZy {id:Nat} (S:World->Prop) (hm:P.follows .mixedOrders=true) (h:∀w1,Below w.heap.size w w1->RA P n ops Q S ops.size (Array.replicate ops.size false) f w1) (hd:ndA ops.toList=true:=by rfl):WP P n (.region id ops true) Q f w:=
 oW S hm (h w.drew (Below.drew (Below.refl _ _))) hd
end
section
variable {α:Type} {w:World} {e:TypeId} {D:Nat->TypeId->Prop}
theorem Ow.ss {c:α->List Value} {lo size n:Nat} {v:Value} {l:List Value} {xs:List α} (h:Ow w lo e size v n l) (hl:l=(xs.map c).flatten) (hn:n=xs.length) (hs:0<size) (hc:∀x∈xs,(c x).length=size) (hD:∀b,lo<=b->D b e):Ss c size D w v xs:=by
 subst hl hn
 exact⟨⟨hs,hc⟩,h.sc hD⟩
theorem Bk.ss {c:α->List Value} {b size n:Nat} {l:List Value} {xs:List α} (h:Bk w b e l) (hd:D b e) (hl:l=(xs.map c).flatten) (hn:n=xs.length) (hs:0<size) (hc:∀x∈xs,(c x).length=size) (hm:n<=9223372036854775807):Ss c size D w (.slice (some ⟨b,0,none⟩) n n) xs:=by
 subst hn
 refine⟨⟨hs,hc⟩,?_⟩
 rw[<-hl]
 refine h.sc hd ?_ hm
 rw[hl,List.length_flatten,List.map_map]
 rw[List.map_congr_left (f:=List.length∘c) (g:=λ_=>size) (λx hx=>hc x hx)]
 generalize xs=ys
 clear h hc hd hl hm
 induction ys with
 |nil=>simp
 |cons y ys ih=>rw[List.map_cons,List.sum_cons,ih,List.length_cons,Nat.succ_mul,Nat.add_comm]
theorem Bk.sg {g:α->Value} {b n:Nat} {l:List Value} {xs:List α} (h:Bk w b e l) (hd:D b e) (hl:l=xs.map g) (hn:n=xs.length) (hm:n<=9223372036854775807):Sg g D w (.slice (some ⟨b,0,none⟩) n n) xs:=by
 subst hn
 subst hl
 exact h.sc hd (by simp) hm
end
end Go.Vg
namespace Go.Vg
open Go Go.RowKit
section
variable {P:Program} {n:Nat} {Q:Po} {f:Nat->Value} {w w':World} {ops:Array Oper} {o:Oper} {rest:List Oper} {d:Nat} {v:Value}
theorem sE {a b:Value} (h:a=b:=by first|rfl|exact aQ oM|exact aD (by simp)):a=b:=h
abbrev iv (a:Int):Value:=.int .i64 a
abbrev bd (p:Prop) [Decidable p]:Value:=.bool (decide p)
theorem bD (p:Prop) [Decidable p]:(decide p=true∧p)∨(decide p=false∧¬p):=by by_cases h:p<;>simp[h]
theorem wcD {c:Operand} {x y:Code} {p:Prop} [Decidable p] (hc:ev f c= .bool (decide p)) (ht:decide p=true->p->WP P n x Q f w) (he:decide p=false->¬p->WP P n y Q f w):WP P n (.cond c x y) Q f w:=kO hc (λh=>ht h (of_decide_eq_true h)) (λh=>he h (of_decide_eq_false h))
theorem wsr {id:Nat} {l:List Oper} {y:Code} (h:RL P n l.toArray l ⟨λf w=>WP P n y Q f w,Q.ext,Q.ret⟩ f w) (hd:ndA l=true:=by rfl):WP P n (.seq (.region id l.toArray false) y) Q f w:=bB (aV h hd)
theorem mV {x:Operand} {ty:TypeId} {pos:String} {aft:Array Edge} (hv:ev f x=v) (h:RL P n ops rest Q (st f d v) w) (hn:d<n:=by decide):RL P n ops (⟨some d,.move x,ty,pos,aft,none⟩::rest) Q f w:=RL.val rfl rfl hn (aG hv) h
theorem aS {x:Operand} {ty:TypeId} {pos:String} {aft:Array Edge} (hv:ev f x=v) (h:RL P n ops rest Q (st f d v) w) (hn:d<n:=by decide):RL P n ops (⟨some d,.assign x,ty,pos,aft,none⟩::rest) Q f w:=RL.val rfl rfl hn (bS hv) h
theorem cL {kf:FuncId} {al:List Operand} {vl:List Value} {tys:Array TypeId} {ty:TypeId} {pos:String} {aft:Array Edge} {Post:Value->World->Prop} (he:Ent P kf) (hc:Calls P kf vl.toArray w λe w'=>∃v,e= .returned v∧Post v w') (ha:al.map (ev f)=vl) (h:∀v w',Post v w'->RL P n ops rest Q (st f d v) w') (hn:d<n:=by decide):RL P n ops (⟨some d,.call ⟨.value (.func kf),al.toArray,tys⟩,ty,pos,aft,none⟩::rest) Q f w:=RL.call rfl rfl hn (bO he ha) hc h
theorem rV {i} {ty:TypeId} {pos:String} {aft:Array Edge} (hr:(execOp (ev f) ⟨some d,i,ty,pos,aft,none⟩).run P w= .ok (.value v) w') (h:RL P n ops rest Q (st f d v) w') (hn:d<n:=by decide):RL P n ops (⟨some d,i,ty,pos,aft,none⟩::rest) Q f w:=RL.val rfl rfl hn hr h
theorem rU {i} {ty:TypeId} {pos:String} {aft:Array Edge} {Post:Value->World->Prop} (hr:Run P f ⟨some d,i,ty,pos,aft,none⟩ w Post) (h:∀v w',Post v w'->RL P n ops rest Q (st f d v) w') (hn:d<n:=by decide):RL P n ops (⟨some d,i,ty,pos,aft,none⟩::rest) Q f w:=RL.run rfl rfl hn hr h
theorem rv (hr:(execOp (ev f) o).run P w= .ok (.value v) w') (h:RL P n ops rest Q (st f d v) w') (hg:o.guard=none:=by rfl) (hd:o.dst=some d:=by rfl) (hn:d<n:=by decide):RL P n ops (o::rest) Q f w:=RL.val hg hd hn hr h
variable {S:World->Prop} {fuel:Nat} {listed:Array Bool}
theorem ra (i:Nat) (hi:ops[i]? =some o) (hr:∀w,(execOp (ev f) o).run P w= .ok (.value v) w) (h:RA P n ops Q S fuel (listed.setIfInBounds i true) (st f d v) w) (hok:gI ops listed i=true:=by kernel_rfl) (hg:o.guard=none:=by rfl) (hd:o.dst=some d:=by rfl) (hn:d<n:=by decide):RA P n ops Q S (fuel+1) listed f w:=
 RA.take i hi hok hg hd hn hr h
theorem rm {i:Nat} (he:Ext w w') (h:RA P n ops Q (λu=>Ext w' u) fuel listed f w'):Oks ops (λu=>Ext w u) i w w'∧RA P n ops Q (λu=>Ext w u) fuel listed f w':=
 ⟨.inr (.inr he),RA.more (S':=λu=>Ext w' u) (λ_ hu=>Ext.trans he hu) h⟩
end
theorem _root_.Go.RowKit.Below.nx {w0 w w':World} (h:Below w0.heap.size w0 w) (k:Ext w w'):Below w0.heap.size w0 w':=Below.ext h h.size k
theorem _root_.Go.RowKit.Below.nb {b:Nat} {w0 w w':World} (h:Below w0.heap.size w0 w) (k:Exc b w w') (hb:w0.heap.size<=b):Below w0.heap.size w0 w':=Below.exc h h.size k hb
theorem _root_.Go.RowKit.Below.ge {b:Nat} {w0 w:World} (h:Below w0.heap.size w0 w) (hs:b=w.heap.size):w0.heap.size<=b:=by rw[hs];exact h.size
end Go.Vg
namespace Go.Proofs.YtlhdigjbokkbiaaGreat.W
open Go.Vg Go.RowKit _root_.Go.Proofs.Tryz
def cmpI (x y:Int):Int:=if x<y then-1 else if y<x then 1 else 0
theorem wU {x:Int} (w:World):
 Calls Tryz.prog 167 #[(iv x)] w λe w'=>∃v,e= .returned v∧v= .bool false∧w=w':=by
 refine bH (n:=6) (rs:=[.tmp 2]) func167 rfl rfl rfl bL ?_
 refine cV λF0 hF0=>?_
 refine wsr (aS (v:=(.bool false)) rfl (RL.nil (wsr (mV (v:=(iv x)) (hF0 0) (mV (v:=(iv x)) (hF0 0) ?_)))))
 refine rV (mI (k:=.i64) (a:=x) (b:=x) rfl rfl) (aS (v:=(bd (x≠x))) rfl (RL.nil ?_))
 refine cE ?_
 refine⟨[(bd (x≠x))],⟨rfl,trivial⟩,?_⟩
 exact⟨aD (by simp),rfl⟩
theorem sH {x:Int} (w:World):
 Calls Tryz.prog 185 #[(iv x)] w λe w'=>∃v,e= .returned v∧v= .bool false∧w=w':=by
 refine bH (n:=6) (rs:=[.tmp 2]) func185 rfl rfl rfl bL ?_
 refine cV λF0 hF0=>?_
 refine wsr (aS (v:=(.bool false)) rfl (RL.nil (wsr (mV (v:=(iv x)) (hF0 0) (mV (v:=(iv x)) (hF0 0) ?_)))))
 refine rV (mI (k:=.i64) (a:=x) (b:=x) rfl rfl) (aS (v:=(bd (x≠x))) rfl (RL.nil ?_))
 refine cE ?_
 refine⟨[(bd (x≠x))],⟨rfl,trivial⟩,?_⟩
 exact⟨aD (by simp),rfl⟩
theorem aUd {x y:Int} (w:World):
 Calls Tryz.prog 140 #[(iv x),(iv y)] w λe w'=>∃v,e= .returned v∧v= .int .i64 (cmpI x y)∧w=w':=by
 refine bH (n:=20) (rs:=[.tmp 4]) func140 rfl rfl rfl bL ?_
 refine cV λF0 hF0=>?_
 refine wsr (aS (v:=(iv 0)) rfl (RL.nil (wsr (mV (v:=(iv x)) (hF0 0) ?_))))
 refine cL aKz (wU _) rfl ?_
 rintro _ _ ⟨rfl,rfl⟩
 refine aS (v:=(.bool false)) rfl (RL.nil (wsr (mV (v:=(iv y)) (hF0 1) ?_)))
 refine cL aKz (wU _) rfl ?_
 rintro _ _ ⟨rfl,rfl⟩
 refine aS (v:=(.bool false)) rfl (RL.nil (bB (wsr (mV (v:=(.bool false)) rfl (RL.nil ?_)))))
 refine jW rfl ?_
 refine bW ?_
 refine bB (wsr (mV (v:=(.bool false)) rfl (RL.nil ?_)))
 refine jW rfl ?_
 refine bW ?_
 refine bB (wsr (mV (v:=(iv x)) (hF0 0) (mV (v:=(iv y)) (hF0 1) (rV (eQ (k:=.i64) (a:=x) (b:=y) rfl rfl) (RL.nil ?_)))))
 refine wcD (p:=x<y) rfl (λhb3 hb3p=>?_) (λhb3 hb3p=>?_)
 ·refine wsr ?_
  refine aS (v:=(iv (-1))) rfl (RL.nil ?_)
  refine cE ?_
  refine⟨[(iv (-1))],⟨rfl,trivial⟩,?_⟩
  exact⟨aQ (by unfold cmpI;(repeat split)<;>omega),rfl⟩
 refine bW ?_
 refine bB (wsr (mV (v:=(iv x)) (hF0 0) (mV (v:=(iv y)) (hF0 1) (rV (oL (k:=.i64) (a:=x) (b:=y) rfl rfl) (RL.nil ?_)))))
 refine wcD (p:=y<x) rfl (λhb4 hb4p=>?_) (λhb4 hb4p=>?_)
 ·refine wsr ?_
  refine aS (v:=(iv 1)) rfl (RL.nil ?_)
  refine cE ?_
  refine⟨[(iv 1)],⟨rfl,trivial⟩,?_⟩
  exact⟨aQ (by unfold cmpI;(repeat split)<;>omega),rfl⟩
 refine bW ?_
 refine wsr (aS (v:=(iv 0)) rfl (RL.nil ?_))
 refine cE ?_
 refine⟨[(iv 0)],⟨rfl,trivial⟩,?_⟩
 exact⟨aQ (by unfold cmpI;(repeat split)<;>omega),rfl⟩
theorem aIw {x y:Int} (w:World):
 Calls Tryz.prog 170 #[(iv x),(iv y)] w λe w'=>∃v,e= .returned v∧v= .int .i64 (cmpI x y)∧w=w':=by
 refine bH (n:=20) (rs:=[.tmp 4]) func170 rfl rfl rfl bL ?_
 refine cV λF0 hF0=>?_
 refine wsr (aS (v:=(iv 0)) rfl (RL.nil (wsr (mV (v:=(iv x)) (hF0 0) ?_))))
 refine cL aLd (sH _) rfl ?_
 rintro _ _ ⟨rfl,rfl⟩
 refine aS (v:=(.bool false)) rfl (RL.nil (wsr (mV (v:=(iv y)) (hF0 1) ?_)))
 refine cL aLd (sH _) rfl ?_
 rintro _ _ ⟨rfl,rfl⟩
 refine aS (v:=(.bool false)) rfl (RL.nil (bB (wsr (mV (v:=(.bool false)) rfl (RL.nil ?_)))))
 refine jW rfl ?_
 refine bW ?_
 refine bB (wsr (mV (v:=(.bool false)) rfl (RL.nil ?_)))
 refine jW rfl ?_
 refine bW ?_
 refine bB (wsr (mV (v:=(iv x)) (hF0 0) (mV (v:=(iv y)) (hF0 1) (rV (eQ (k:=.i64) (a:=x) (b:=y) rfl rfl) (RL.nil ?_)))))
 refine wcD (p:=x<y) rfl (λhb3 hb3p=>?_) (λhb3 hb3p=>?_)
 ·refine wsr ?_
  refine aS (v:=(iv (-1))) rfl (RL.nil ?_)
  refine cE ?_
  refine⟨[(iv (-1))],⟨rfl,trivial⟩,?_⟩
  exact⟨aQ (by unfold cmpI;(repeat split)<;>omega),rfl⟩
 refine bW ?_
 refine bB (wsr (mV (v:=(iv x)) (hF0 0) (mV (v:=(iv y)) (hF0 1) (rV (oL (k:=.i64) (a:=x) (b:=y) rfl rfl) (RL.nil ?_)))))
 refine wcD (p:=y<x) rfl (λhb4 hb4p=>?_) (λhb4 hb4p=>?_)
 ·refine wsr ?_
  refine aS (v:=(iv 1)) rfl (RL.nil ?_)
  refine cE ?_
  refine⟨[(iv 1)],⟨rfl,trivial⟩,?_⟩
  exact⟨aQ (by unfold cmpI;(repeat split)<;>omega),rfl⟩
 refine bW ?_
 refine wsr (aS (v:=(iv 0)) rfl (RL.nil ?_))
 refine cE ?_
 refine⟨[(iv 0)],⟨rfl,trivial⟩,?_⟩
 exact⟨aQ (by unfold cmpI;(repeat split)<;>omega),rfl⟩
end Go.Proofs.YtlhdigjbokkbiaaGreat.W
namespace Go.Vg
open Go Go.RowKit Go.Vm
theorem cu32 (x:Nat):IntKind.u32.wrap (x:Int)=((x%4294967296:Nat):Int):=by rw[bGm];omega
theorem shr32 (x:Nat):(x:Int).fdiv (2^(min (32:Int).toNat IntKind.u64.bits))=((x/4294967296:Nat):Int):=by
 rw[Int.fdiv_eq_ediv_of_nonneg _ dC]
 show(x:Int)/(2^32:Int)=_
 omega
theorem shl32 {x:Nat} (h:x<4294967296):IntKind.u64.wrap ((x:Int)*2^(min (32:Int).toNat IntKind.u64.bits))=((x*4294967296:Nat):Int):=by
 show IntKind.u64.wrap ((x:Int)*(2^32:Int))=_
 rw[cX oM]
 omega
theorem or32 {x y:Nat} (hx:x<4294967296) (hy:y<4294967296):IntKind.u64.wrap ((BitVec.ofInt IntKind.u64.bits ((x*4294967296:Nat):Int)|||BitVec.ofInt IntKind.u64.bits (y:Int)).toNat:Int)=((x*4294967296+y:Nat):Int):=by
 show IntKind.u64.wrap ((BitVec.ofInt 64 ((x*4294967296:Nat):Int)|||BitVec.ofInt 64 (y:Int)).toNat:Int)=_
 rw[BitVec.ofInt_natCast,BitVec.ofInt_natCast,BitVec.toNat_or,BitVec.toNat_ofNat,BitVec.toNat_ofNat,Nat.mod_eq_of_lt oM,Nat.mod_eq_of_lt oM]
 have h:=Nat.two_pow_add_eq_or_of_lt (i:=32) (b:=y) oM x
 rw[Nat.mul_comm (2^32) x] at h
 rw[show x*4294967296=x*2^32 from rfl,<-h,cX oM]
end Go.Vg
namespace Go.Vg
open Go Go.RowKit Go.Vm
theorem quo32 {i:Nat} (h:i<=4611686018427387904):IntKind.i64.wrap ((i:Int).tdiv 32)=((i/32:Nat):Int):=by
 rw[Int.tdiv_eq_ediv_of_nonneg oM,dJ oM];omega
theorem rem32 (i:Nat):(i:Int).tmod 32=((i%32:Nat):Int):=by
 rw[Int.tmod_eq_emod_of_nonneg oM];omega
theorem quoN {a b:Nat} (h:a<18446744073709551616):IntKind.u64.wrap ((a:Int).tdiv (b:Int))=((a/b:Nat):Int):=by
 rw[Int.tdiv_eq_ediv_of_nonneg oM,<-Int.natCast_ediv]
 have:=Nat.div_le_self a b
 generalize a/b=q at*
 exact cX oM
theorem aIx (a b:Nat):(a:Int).tmod (b:Int)=((a%b:Nat):Int):=by
 rw[Int.tmod_eq_emod_of_nonneg oM,<-Int.natCast_emod]
end Go.Vg
namespace Go.Vg
open Go Go.RowKit Go.Vm
def isU (u:Value):Bool:=match u with
 |.int .u32 _=>true
 |_=>false
def NoU (l:List Value):Prop:=∀u∈l,isU u=false
theorem cG:NoU []:=λ_ h=>by cases h
theorem aH {u:Value} {l:List Value} (h:isU u=false) (t:NoU l):NoU (u::l):=λz hz=>by
 rcases List.mem_cons.1 hz with rfl|hz
 ·exact h
 exact t z hz
theorem Sc.nu {D:Nat->TypeId->Prop} {w:World} {size n:Nat} {v:Value} {l:List Value} (h:Sc D w size v n l):isU v=false:=by
 obtain⟨A,c,rfl,_⟩:=h
 rfl
theorem Sg.nu {α:Type} {g:α->Value} {D:Nat->TypeId->Prop} {w:World} {v:Value} {xs:List α} (h:Sg g D w v xs):isU v=false:=Sc.nu h
theorem Ss.nu {α:Type} {c:α->List Value} {size:Nat} {D:Nat->TypeId->Prop} {w:World} {v:Value} {xs:List α} (h:Ss c size D w v xs):isU v=false:=Sc.nu h.2
theorem Sg.ap {D:Nat->TypeId->Prop} {w w':World} {v:Value} {xs:List Nat} (h:Sg (gN .u32) D w v xs) {b:Nat} {T:TypeId} {l:List Value} (e:Exc b w w') (hb:Bk w b T l) (hl:NoU l):Sg (gN .u32) D w' v xs:=by
 obtain⟨A,c,rfl,h1,h2,h3,h4⟩:=h
 refine⟨A,c,rfl,h1,h2,h3,?_⟩
 by_cases hne:xs=[]
 ·exact .inl (by rw[hne];rfl)
 rcases h4 with h4|⟨b',o,rfl,hr⟩
 ·exact .inl h4
 right
 refine⟨b',o,rfl,?_⟩
 rcases hr with hr|⟨cs,T',fz,hh,hd,hc⟩
 ·exact .inl hr
 right
 refine⟨cs,T',fz,?_,hd,hc⟩
 cases xs with
 |nil=>exact absurd rfl hne
 |cons x xs=>
  have h0:=hc 0 (gN .u32 x) rfl
  by_cases hb':b'=b
  ·subst hb'
   rw[show w.heap[b']? =_ from hb] at hh
   injection hh with hh
   injection hh with hcs _ _
   subst hcs
   have hm:gN .u32 x∈l:=by
    have:l[o+0]? =some (gN .u32 x):=by simpa using h0
    exact List.mem_of_getElem? this
   have:=hl _ hm
   cases this
  exact(e.block b' (cC hh) hb').trans hh
end Go.Vg
namespace Go.Vg
open Go Go.RowKit Go.Vm
theorem Sg.fr {w0 w w':World} {U:TypeId} {v:Value} {xs:List Nat} (h:Sg (gN .u32) (λb T=>w.heap.size<=b∧T=U) w' v xs) (hE:Below w0.heap.size w0 w):Sg (gN .u32) (λb T=>w0.heap.size<=b∧T=U) w' v xs:=h.mono λ_ _ h=>⟨Nat.le_trans hE.size h.1,h.2⟩
end Go.Vg
namespace Go.Vg
open Go Go.RowKit Go.Vm
section
variable {P:Program} {f:Nat->Value} {w:World} {dst:Option Tmp} {ty:TypeId} {pos:String} {aft:Array Edge} {gd:Option (Nat×Bool)} {x y:Operand} {t t' e:TypeId} {D:Nat->TypeId->Prop}
theorem aUe {α:Type} {g:α->Value} {b n cap bytes:Nat} {zz v2:Value} {xs ys:List α} (hu:P.underlying t=some (.slice e)) (ht:TyI P e 1 bytes zz) (hx:ev f x= .slice (some ⟨b,0,none⟩) n cap) (hy:ev f y=v2)
 (ha:Ar g w b e 0 ys n) (hs:Sg g D w v2 xs) (hn:xs.length=n) (h1:∀z,(g z).oneCell'=true):
 Run P f ⟨dst,.call ⟨.builtin .copy,#[x,y],#[t,t']⟩,ty,pos,aft,gd⟩ w λv w'=>v= .int .i64 (xs.length:Nat)∧Ar g w' b e 0 xs n∧Exc b w w':=by
 obtain⟨⟨pre,post,hp,hb⟩,hl⟩:=ha
 have hp0:pre=[]:=List.eq_nil_of_length_eq_zero hp
 subst hp0
 obtain⟨v,w',hr,h2,h3,h4⟩:=aZi (P:=P) (f:=f) (dst:=dst) (ty:=ty) (pos:=pos) (aft:=aft) (g:=gd) (t':=t') (n:=xs.length) (o:=0) hu ht hx hy hb hs oM rfl (λu hu=>by obtain⟨z,-,rfl⟩:=List.mem_map.1 hu;exact h1 z) (by simp;omega)
 refine⟨v,w',hr,h2,⟨⟨[],post,rfl,?_⟩,hn⟩,h4⟩
 have e1:spl ([]++ys.map g++post) 0 (xs.map g)=[]++xs.map g++post:=by
  unfold spl
  simp only[List.take_zero,List.nil_append,Nat.zero_add,List.length_map]
  rw[List.drop_append,List.drop_of_length_le (by simp;omega)]
  simp[show xs.length-ys.length=0 by omega]
 rw[e1] at h3
 exact h3
end
end Go.Vg
namespace Go.Vg
open Go Go.RowKit Go.Vm
def Ag {α:Type} (g:α->Value) (w:World) (b:Nat) (T:TypeId) (pre:List Value) (xs:List α) (post:List Value) (n:Nat):Prop:=Bk w b T (pre++xs.map g++post)∧xs.length=n
section
variable {α:Type} {g:α->Value} {w w':World} {b n:Nat} {T:TypeId} {pre post:List Value} {xs:List α}
theorem Ag.ar (h:Ag g w b T pre xs post n):Ar g w b T pre.length xs n:=⟨⟨pre,post,rfl,h.1⟩,h.2⟩
theorem Ag.ext (h:Ag g w b T pre xs post n) (e:Ext w w'):Ag g w' b T pre xs post n:=⟨h.1.ext e,h.2⟩
theorem Ag.lt (h:Ag g w b T pre xs post n):b<w.heap.size:=h.1.lt
theorem Ag.cell [Inhabited α] (h:Ag g w b T pre xs post n) {i:Int} (k:Nat) (hi:i=(k:Int)) (hk:k<n):w.cell? ⟨b,pre.length+i.toNat*1,none⟩=some (g (xs.getD k default)):=h.ar.cell k hi hk
theorem Ag.sm {D:Nat->TypeId->Prop} (h:Ag g w b T pre xs post n) (e:Exc b w w') (hD:¬D b T):Sm D w w':=h.1.sm e hD
end
section
variable {P:Program} {f:Nat->Value} {w:World} {dst:Option Tmp} {ty:TypeId} {pos:String} {aft:Array Edge} {gd:Option (Nat×Bool)} {x y z:Operand} {t e:TypeId}
theorem xU {α:Type} {g:α->Value} {T:TypeId} {b n bytes:Nat} {pre post:List Value} {xs:List α} {u:α} {i:Int} {vv zz:Value} (ht:TyI P t 1 bytes zz) (hx:ev f x= .pointer (some ⟨b,pre.length+i.toNat*1,none⟩)) (hy:ev f y=vv) (hv:vv=g u) (hc:(g u).cells=#[g u]) (h1:(g u).oneCell'=true)
 (ha:Ag g w b T pre xs post n) (k:Nat) (hi:i=(k:Int)) (hk:k<n):
 aKi P f ⟨dst,.store t x y,ty,pos,aft,gd⟩ w λw'=>Ag g w' b T pre (xs.set k u) post n∧Exc b w w':=by
 obtain⟨h3,h4⟩:=ha
 subst hi hv
 have hk':k<xs.length:=by rw[h4];exact hk
 obtain⟨w',hr,h5,h6,_⟩:=bQ (P:=P) (f:=f) (dst:=dst) (ty:=ty) (pos:=pos) (aft:=aft) (g:=gd) (cs:=[g u]) ht hx hy hc rfl (by simpa using h1) h3 (by simp;omega)
 refine⟨w',hr,⟨?_,by simpa using h4⟩,h6⟩
 have e:((k:Int)).toNat=k:=Int.toNat_natCast k
 rw[e,aFw g pre post xs k u hk'] at h5
 exact h5
end
end Go.Vg
namespace Go.Proofs.YtlhdigjbokkbiaaGreat.W
open Go.Vg Go.RowKit _root_.Go.Proofs.Tryz
open Go.Vm
theorem cmpI_neg {a b:Int}:cmpI a b<0↔a<b:=by unfold cmpI;constructor<;>intro h<;>(repeat split at*)<;>omega
theorem kT {a b:Int}:cmpI a b=0↔a=b:=by unfold cmpI;constructor<;>intro h<;>(repeat split at*)<;>omega
end Go.Proofs.YtlhdigjbokkbiaaGreat.W
namespace Go.Vm
def bef (P:Nat->Rat) (j i:Nat):Prop:=P i<P j∨(P j=P i∧j<i)
instance (P:Nat->Rat) (j i:Nat):Decidable (bef P j i):=inferInstanceAs (Decidable (_∨_))
def Seg (P:Nat->Rat) (n:Nat) (M:List Nat):Prop:=M.Nodup∧(∀i∈M,i<n)∧∀i∈M,∀j,j<n->j∉M->bef P i j
theorem Seg.nil (P:Nat->Rat) (n:Nat):Seg P n []:=⟨List.nodup_nil,by simp,by simp⟩
def Best (P:Nat->Rat) (M:List Nat) (k:Nat) (b:Int):Prop:=(b=-1∧∀j,j<k->j∈M)∨∃c:Nat,b=(c:Int)∧c<k∧c∉M∧∀j,j<k->j∉M->j≠c->bef P c j
theorem Best.zero (P:Nat->Rat) (M:List Nat):Best P M 0 (-1):=.inl ⟨rfl,λ_ h=>absurd h (Nat.not_lt_zero _)⟩
theorem Best.take {P:Nat->Rat} {M:List Nat} {k:Nat} {b:Int} (h:Best P M k b) (hk:k∉M) (hp:b=-1∨P b.toNat<P k):Best P M (k+1) (k:Int):=by
 refine .inr ⟨k,rfl,by omega,hk,λj hj hn hc=>?_⟩
 have hj':j<k:=by omega
 rcases h with ⟨h1,h2⟩|⟨c,h1,h2,h3,h4⟩
 ·exact absurd (h2 j hj') hn
 have hp':P c<P k:=by
  rcases hp with hp|hp
  ·omega
  rw[h1,Int.toNat_natCast] at hp;exact hp
 by_cases e:j=c
 ·subst e;exact .inl hp'
 have:=h4 j hj' hn e
 unfold bef at*;grind
end Go.Vm
namespace Go.Vg
open Go Go.RowKit Go.Vm
abbrev RC:Type:=Bool×Value×Value
abbrev aUf:RC->List Value:=λc=>[.bool c.1,c.2.1,c.2.2]
def Rz (L:Nat) (D:Nat->TypeId->Prop) (w:World) (c:RC) (q:Rat):Prop:=
 ∃x d,Sg (gN .u32) D w c.2.1 x∧Lm x∧x.length<=L∧Sg (gN .u32) D w c.2.2 d∧Lm d∧d.length<=L∧dE c.1 (val x) (val d)=q
section
variable {L L':Nat} {D D':Nat->TypeId->Prop} {w w':World} {c:RC} {q:Rat} {v:Value} {qs:List Rat}
theorem Rz.tr (h:Rz L D w c q) (hs:Sm D w w'):Rz L D w' c q:=by
 obtain⟨x,d,h1,h2,h3,h4,h5⟩:=h
 exact⟨x,d,h1.tr hs,h2,h3,h4.tr hs,h5⟩
theorem Rz.mono (h:Rz L D w c q) (hD:∀b T,D b T->D' b T):Rz L D' w c q:=by
 obtain⟨x,d,h1,h2,h3,h4,h5⟩:=h
 exact⟨x,d,h1.mono hD,h2,h3,h4.mono hD,h5⟩
theorem Rz.of {s:Bool} {vn vd:Value} {x d:List Nat} (h1:Sg (gN .u32) D w vn x) (m1:Lm x) (l1:x.length<=L) (h2:Sg (gN .u32) D w vd d) (m2:Lm d) (l2:d.length<=L) (e:dE s (val x) (val d)=q):Rz L D w (s,vn,vd) q:=
 ⟨x,d,h1,m1,l1,h2,m2,l2,e⟩
def Rs (L:Nat) (D:Nat->TypeId->Prop) (w:World) (v:Value) (qs:List Rat):Prop:=
 ∃cs:List RC,Ss aUf 3 D w v cs∧cs.length=qs.length∧∀k,k<qs.length->Rz L D w (cs.getD k default) (qs.getD k default)
theorem Rs.tr (h:Rs L D w v qs) (hs:Sm D w w'):Rs L D w' v qs:=by
 obtain⟨cs,h1,h2,h3⟩:=h
 exact⟨cs,h1.tr hs,h2,λk hk=>(h3 k hk).tr hs⟩
theorem Rs.mono (h:Rs L D w v qs) (hD:∀b T,D b T->D' b T):Rs L D' w v qs:=by
 obtain⟨cs,h1,h2,h3⟩:=h
 exact⟨cs,h1.mono hD,h2,λk hk=>(h3 k hk).mono hD⟩
end
def Aa {α:Type} (c:α->List Value) (size:Nat) (w:World) (b:Nat) (T:TypeId) (xs:List α) (n:Nat):Prop:=(∀x,(c x).length=size)∧Bk w b T (xs.map c).flatten∧xs.length=n
section
variable {α:Type} {c:α->List Value} {size:Nat} {w w':World} {b n:Nat} {T:TypeId} {xs:List α}
theorem Aa.ext (h:Aa c size w b T xs n) (e:Ext w w'):Aa c size w' b T xs n:=⟨h.1,h.2.1.ext e,h.2.2⟩
theorem Aa.lt (h:Aa c size w b T xs n):b<w.heap.size:=h.2.1.lt
theorem Aa.ss {D:Nat->TypeId->Prop} (h:Aa c size w b T xs n) (hs:0<size) (hd:D b T) (hm:n<=9223372036854775807):Ss c size D w (.slice (some ⟨b,0,none⟩) n n) xs:=
 h.2.1.ss hd rfl h.2.2.symm hs (λx _=>h.1 x) hm
end
def Aq (L:Nat) (D:Nat->TypeId->Prop) (w:World) (b:Nat) (T:TypeId) (qs:List Rat) (n:Nat):Prop:=
 ∃cs:List RC,Aa aUf 3 w b T cs n∧qs.length=n∧∀k,k<n->Rz L D w (cs.getD k default) (qs.getD k default)
section
variable {L L':Nat} {D D':Nat->TypeId->Prop} {w w':World} {b n:Nat} {T:TypeId} {qs:List Rat}
theorem Aq.ext (h:Aq L D w b T qs n) (e:Ext w w'):Aq L D w' b T qs n:=by
 obtain⟨cs,h1,h2,h3⟩:=h
 exact⟨cs,h1.ext e,h2,λk hk=>(h3 k hk).tr (Sm.ext e)⟩
theorem Aq.lt (h:Aq L D w b T qs n):b<w.heap.size:=by
 obtain⟨cs,h1,h2,h3⟩:=h
 exact h1.lt
theorem Rz.zero:Rz L D w (false,.slice none 0 0,.slice none 0 0) 0:=⟨[],[],Sg.nil,Lm.nil,Nat.zero_le _,Sg.nil,Lm.nil,Nat.zero_le _,rfl⟩
end
end Go.Vg
namespace Go.Vg
open Go Go.RowKit Go.Vm
def Nb (w:World) (b:Nat):Prop:=∃T l,Bk w b T l∧NoU l
theorem Nb.of {w:World} {b:Nat} {T:TypeId} {l:List Value} (h:Bk w b T l) (hl:NoU l):Nb w b:=⟨T,l,h,hl⟩
theorem Sg.apn {D:Nat->TypeId->Prop} {w w':World} {v:Value} {xs:List Nat} (h:Sg (gN .u32) D w v xs) {b:Nat} (e:Exc b w w') (hb:Nb w b):Sg (gN .u32) D w' v xs:=by
 obtain⟨T,l,h1,h2⟩:=hb
 exact h.ap e h1 h2
def Af {α:Type} (g:α->Value) (w:World) (b:Nat) (T:TypeId) (xs:List α) (n:Nat):Prop:=Bk w b T (xs.map g)∧xs.length=n
section
variable {α:Type} {g:α->Value} {D:Nat->TypeId->Prop} {w w':World} {b n:Nat} {T:TypeId} {xs:List α}
theorem Af.ext (h:Af g w b T xs n) (e:Ext w w'):Af g w' b T xs n:=⟨h.1.ext e,h.2⟩
theorem Af.lt (h:Af g w b T xs n):b<w.heap.size:=h.1.lt
theorem Af.nb (h:Af g w b T xs n) (hg:∀x,isU (g x)=false):Nb w b:=⟨T,_,h.1,λu hu=>by obtain⟨z,-,rfl⟩:=List.mem_map.1 hu;exact hg z⟩
end
section
variable {L:Nat} {D:Nat->TypeId->Prop} {w w':World} {b n:Nat} {T:TypeId} {qs:List Rat}
theorem Aq.nb (h:Aq L D w b T qs n):Nb w b:=by
 obtain⟨cs,h1,h2,h3⟩:=h
 refine⟨T,_,h1.2.1,λu hu=>?_⟩
 obtain⟨l,hl,hul⟩:=List.mem_flatten.1 hu
 obtain⟨c,hc,rfl⟩:=List.mem_map.1 hl
 obtain⟨k,hk,rfl⟩:=List.getElem_of_mem hc
 have hkn:k<n:=by rw[<-h1.2.2];exact hk
 have hz:=h3 k hkn
 rw[show cs.getD k default=cs[k] by simp[hk]] at hz
 obtain⟨x,d,g1,_,_,g2,_⟩:=hz
 simp only[aUf,List.mem_cons,List.not_mem_nil,or_false] at hul
 rcases hul with rfl|rfl|rfl
 ·rfl
 ·exact g1.nu
 exact g2.nu
end
end Go.Vg
namespace Go.Vg
open Go Go.RowKit Go.Vm
def Oq (L:Nat) (D:Nat->TypeId->Prop) (w:World) (lo:Nat) (T:TypeId) (v:Value) (qs:List Rat):Prop:=
 ∃cs:List RC,Ow w lo T 3 v qs.length (cs.map aUf).flatten∧cs.length=qs.length∧∀k,k<qs.length->Rz L D w (cs.getD k default) (qs.getD k default)
section
variable {L:Nat} {D D':Nat->TypeId->Prop} {w w':World} {lo b:Nat} {T T':TypeId} {v:Value} {qs:List Rat} {l:List Value}
theorem Oq.nil:Oq L D w lo T (.slice none 0 0) []:=⟨[],Ow.nil lo 3,rfl,λk hk=>absurd hk (Nat.not_lt_zero _)⟩
theorem Oq.ext (h:Oq L D w lo T v qs) (e:Ext w w'):Oq L D w' lo T v qs:=by
 obtain⟨cs,h1,h2,h3⟩:=h
 exact⟨cs,h1.ext e,h2,λk hk=>(h3 k hk).tr (Sm.ext e)⟩
theorem Oq.lt (h:Oq L D w lo T v qs) (b:Nat) (hb:v.ownBlock=some b):b<w.heap.size:=by
 obtain⟨cs,h1,h2,h3⟩:=h
 exact(World.ownsRow.lt h1 b hb).2
theorem Oq.rs (h:Oq L D w lo T v qs) (h1:∀b,lo<=b->D' b T) (h2:∀b T,D b T->D' b T):Rs L D' w v qs:=by
 obtain⟨cs,g1,g2,g3⟩:=h
 exact⟨cs,g1.ss rfl g2.symm dC (λ_ _=>rfl) h1,g2,λk hk=>(g3 k hk).mono h2⟩
end
end Go.Vg
namespace Go.Proofs.YtlhdigjbokkbiaaGreat.W
open Go.Vg Go.RowKit _root_.Go.Proofs.Tryz
open Go.Vm
theorem aLe {sx sy:Bool} {x y:Nat} {zx zy:Int} (ex:sg sx x=zx) (ey:sg sy y=zy) (hs:sx≠sy) (h:y<=x):sg sx (x-y)=zx+zy:=by
 rw[<-ex,<-ey]
 cases sx<;>cases sy<;>simp[sg] at*<;>omega
theorem aLf {sx sy:Bool} {x y:Nat} {zx zy:Int} (ex:sg sx x=zx) (ey:sg sy y=zy) (hs:sx≠sy) (h:¬y<=x):sg sy (y-x)=zx+zy:=by
 rw[<-ex,<-ey]
 cases sx<;>cases sy<;>simp[sg] at*<;>omega
theorem bGn {b c:Bool} {v:Value} (h:b=c):Value.agg #[.bool b,v]= .agg #[.bool c,v]:=by rw[h]
theorem aLg {k x:Nat} (hk:k<=1) (hx:x<4294967296):IntKind.u64.wrap ((x:Int)*2^(min (((32:Int)*(k:Nat)).toNat) IntKind.u64.bits))=((4294967296^k*x:Nat):Int):=by
 rcases Nat.le_one_iff_eq_zero_or_eq_one.1 hk with rfl|rfl
 ·show IntKind.u64.wrap ((x:Int)*2^0)=_
  rw[Int.pow_zero,Int.mul_one,cX oM]
  simp
 have h:=shl32 hx
 rw[Nat.pow_one,Nat.mul_comm]
 exact h
theorem aUg {k x:Nat} {P:List Nat} (hk:k<=1) (hP:Lm P) (hl:P.length=k) (hx:x<4294967296):IntKind.u64.wrap ((BitVec.ofInt IntKind.u64.bits ((val P:Nat):Int)|||BitVec.ofInt IntKind.u64.bits ((4294967296^k*x:Nat):Int)).toNat:Int)=((val P+4294967296^k*x:Nat):Int):=by
 rcases Nat.le_one_iff_eq_zero_or_eq_one.1 hk with rfl|rfl
 ·have:P=[]:=List.eq_nil_of_length_eq_zero hl
  subst this
  have h:=or32 (x:=0) (y:=x) dC hx
  simp only[Nat.zero_mul,Nat.zero_add] at h
  rw[Nat.pow_zero,Nat.one_mul]
  exact h.trans (by simp[val])
 have hv:=eM hP
 rw[hl,Nat.pow_one] at hv
 have h:=or32 (x:=x) (y:=val P) hx hv
 rw[Nat.pow_one,Nat.mul_comm 4294967296 x,Nat.add_comm]
 rw[<-h]
 congr 2
 exact congrArg BitVec.toNat (BitVec.or_comm _ _)
theorem fW {w:World} {Dx:Nat->TypeId->Prop} {vx:Value} {x:List Nat} (hx:Sg (gN .u32) Dx w vx x) (lmx:Lm x) (lnx:x.length<=35184372088832):
 Calls Tryz.prog 129 #[vx] w λe w'=>∃v,e= .returned v∧Sg (gN .u32) Dx w' v (aB (val x))∧w=w':=by
 have hw:w=w:=rfl
 refine bH (n:=21) (rs:=[.tmp 2]) func129 rfl rfl rfl bL ?_
 refine cV λF0 hF0=>?_
 refine wsr (aS (v:=(.slice none (0) (0))) rfl (RL.nil (wsr (mV (v:=vx) (hF0 0) ?_))))
 obtain⟨A1,c2,hv3,hc4,hc5⟩:=hx.len
 refine rV (cK bE hv3) (aS (v:=(iv (x.length:Nat))) rfl (RL.nil (bB ?_)))
 refine cF ?_
 refine cV λF6 hF7=>?_
 refine fU (σ:=Nat) (λ(n:Nat) fl wl=>Off (3::(rg 6 12 [])) F6 fl∧fl 3=(iv n)∧(n<=x.length)∧(val (x.take n)=val x)∧(Sg (gN .u32) Dx wl vx x)∧(w=wl)) (λ(n:Nat)=>n) (x.length) ?_ ?_
 ·exact⟨Off.refl _ _,(hF7 3).trans (rfl),Nat.le_refl _,by rw[List.take_of_length_le (Nat.le_refl _)],hx,hw⟩
 clear hx
 rintro n f8 w9 ⟨hoff10,hs11,hn,hv,hx,hw⟩
 refine bB (wsr (mV hs11 (rV (oL (k:=.i64) (a:=(n:Int)) (b:=0) rfl rfl) (mV (v:=(bd (0<(n:Int)))) rfl ?_))))
 rcases bD (0<(n:Int)) with ⟨hb12,hb12p⟩|⟨hb12,hb12p⟩
 ·refine RL.gval rfl rfl (aD hb12) rfl dC (aG (v:=vx) ((hoff10 0 rfl).trans ((hF7 0).trans (hF0 0)))) ?_
  refine RL.gval rfl rfl (aD hb12) rfl dC (aG (v:=(iv n)) hs11) ?_
  refine RL.gval rfl rfl (aD hb12) rfl dC (eH (k:=.i64) (a:=(n:Int)) (b:=1) (c:=(n:Int)-1) rfl rfl (dJ oM)) ?_
  obtain⟨b13,o14,c15,hv16,hc17⟩:=hx.ix (i:=(n:Int)-1) (n-1) oM oM
  refine RL.gval rfl rfl (aD hb12) rfl dC (aJ (i:=(n:Int)-1) bE bM hv16 rfl oM oM) ?_
  refine RL.gval rfl rfl (aD hb12) rfl dC (aY (v:=(.int .u32 (((x.getD (n-1) default:Nat):Int)))) bN dR rfl hc17) ?_
  refine RL.gval rfl rfl (aD hb12) rfl dC (iW (k:=.u32) (a:=((x.getD (n-1) default:Nat):Int)) (b:=0) rfl rfl) ?_
  refine rV (dV (v:=(bd (((x.getD (n-1) default:Nat):Int)=0))) (aD hb12) rfl) (RL.nil ?_)
  refine wcD (p:=((x.getD (n-1) default:Nat):Int)=0) rfl (λhb18 hb18p=>?_) (λhb18 hb18p=>?_)
  ·refine bW ?_
   refine cF ?_
   refine aV (mV hs11 (rV (eH (k:=.i64) (a:=(n:Int)) (b:=1) (c:=(n:Int)-1) rfl rfl (dJ oM)) (aS (v:=(iv ((n:Int)-1))) rfl (RL.nil ?_))))
   refine⟨(n-1),⟨?_,?_,?_,?_,?_,?_⟩,?_⟩
   ·exact(by repeat (first|exact hoff10|refine Off.st ?_ dC _))
   ·first|rfl|exact aQ oM|exact aD (by simp)
   ·omega
   ·exact wS hn oM hv oM
   ·exact hx
   ·exact hw
   (try dsimp only)
   omega
  have hend:n=0∨x.getD (n-1) default≠0:=.inr oM
  refine fB ?_
  refine wsr (mV (v:=vx) ((hoff10 0 rfl).trans ((hF7 0).trans (hF0 0))) (mV hs11 ?_))
  have r19:=hx.take (n) oM hv3
  refine rV (aTw (h:=(n:Int)) (kk:=n) bE bM hv3 rfl oM oM) (aS (v:=(.slice A1 (n) (c2))) rfl (RL.nil ?_))
  refine cE ?_
  refine⟨[(.slice A1 (n) (c2))],⟨rfl,trivial⟩,?_⟩
  rw[rF lmx hn hv hend] at r19
  exact⟨r19,hw⟩
 have hend:n=0∨x.getD (n-1) default≠0:=.inl oM
 refine RL.gno rfl rfl (aD hb12) rfl dC ?_
 refine RL.gno rfl rfl (aD hb12) rfl dC ?_
 refine RL.gno rfl rfl (aD hb12) rfl dC ?_
 refine RL.gno rfl rfl (aD hb12) rfl dC ?_
 refine RL.gno rfl rfl (aD hb12) rfl dC ?_
 refine RL.gno rfl rfl (aD hb12) rfl dC ?_
 refine rV (eP (v:=(.bool false)) (aD hb12) rfl) (RL.nil ?_)
 refine jW rfl ?_
 refine fB ?_
 refine wsr (mV (v:=vx) ((hoff10 0 rfl).trans ((hF7 0).trans (hF0 0))) (mV hs11 ?_))
 have r20:=hx.take (n) oM hv3
 refine rV (aTw (h:=(n:Int)) (kk:=n) bE bM hv3 rfl oM oM) (aS (v:=(.slice A1 (n) (c2))) rfl (RL.nil ?_))
 refine cE ?_
 refine⟨[(.slice A1 (n) (c2))],⟨rfl,trivial⟩,?_⟩
 rw[rF lmx hn hv hend] at r20
 exact⟨r20,hw⟩
theorem uI {w:World} {Dx:Nat->TypeId->Prop} {vx:Value} {x:List Nat} (hx:Sg (gN .u32) Dx w vx x) (lmx:Lm x) (lnx:x.length<=2):
 Calls Tryz.prog 148 #[vx] w λe w'=>∃v,e= .returned v∧v= .int .u64 ((val x:Nat):Int)∧w=w':=by
 have hw:w=w:=rfl
 refine bH (n:=22) (rs:=[.tmp 2]) func148 rfl rfl rfl bL ?_
 refine cV λF0 hF0=>?_
 refine wsr (aS (v:=(.int .u64 0)) rfl (RL.nil (wsr (aS (v:=(.int .u64 0)) rfl (RL.nil ?_)))))
 refine bB (wsr (mV (v:=vx) (hF0 0) ?_))
 obtain⟨A1,c2,hv3,hc4,hc5⟩:=hx.len
 refine rV (cK bE hv3) (mV (v:=(iv 0)) rfl (RL.nil ?_))
 refine cF ?_
 refine cV λF6 hF7=>?_
 refine fU (σ:=Nat) (λ(k:Nat) fl wl=>Off (rg 3 3 (rg 8 13 [])) F6 fl∧fl 8=(iv k)∧fl 3=(.int .u64 (((val (x.take k):Nat):Int)))∧(k<=x.length)∧(Sg (gN .u32) Dx wl vx x)∧(w=wl)) (λ(k:Nat)=>x.length-k) (0) ?_ ?_
 ·exact⟨Off.refl _ _,(hF7 8).trans (rfl),(hF7 3).trans ((aQ (by simp[val]))),Nat.zero_le _,hx,hw⟩
 clear hx
 rintro k f8 w9 ⟨hoff10,hs11,hs12,hk,hx,hw⟩
 refine wsr (rV (eQ (k:=.i64) (a:=(k:Int)) (b:=((x.length:Nat):Int)) hs11 ((hoff10 7 rfl).trans (hF7 7))) (RL.nil (bB ?_)))
 refine wcD (p:=(k:Int)<((x.length:Nat):Int)) rfl (λhb13 hb13p=>?_) (λhb13 hb13p=>?_)
 ·refine bW ?_
  refine bB ?_
  refine cF ?_
  refine bB ?_
  have hkl:k<x.length:=by omega
  have hxk:=lmx.at hkl
  refine aV (mV hs11 ?_)
  obtain⟨b14,o15,c16,hv17,hc18⟩:=hx.ix (i:=(k:Int)) (k) oM oM
  refine rV (aJ (i:=(k:Int)) bE bM ((((hoff10 6 rfl).trans (hF7 6))).trans hv17) hs11 oM oM) (rV (aY (v:=(.int .u32 (((x.getD (k) default:Nat):Int)))) bN dR rfl hc18) (aS (v:=(iv k)) rfl (aS (v:=(.int .u32 (((x.getD (k) default:Nat):Int)))) rfl (RL.nil (aV ?_)))))
  refine mV hs12 (mV (v:=(.int .u32 (((x.getD (k) default:Nat):Int)))) rfl (rV (bR (k:=.u64) (a:=((x.getD (k) default:Nat):Int)) (c:=((x.getD (k) default:Nat):Int)) bN dB rfl (cX oM)) (mV (v:=(iv k)) rfl (rV (jX (k:=.i64) (a:=32) (b:=(k:Int)) (c:=32*(k:Int)) rfl rfl (dJ oM)) (rV (pL (k:=.u64) (a:=((x.getD (k) default:Nat):Int)) (b:=32*(k:Int)) (c:=((4294967296^k*x.getD k default:Nat):Int)) rfl rfl oM (aLg oM hxk)) ?_)))))
  refine rV (xM (k:=.u64) (a:=((val (x.take k):Nat):Int)) (b:=((4294967296^k*x.getD k default:Nat):Int)) (c:=((val (x.take k)+4294967296^k*x.getD k default:Nat):Int)) rfl rfl (aUg oM (lmx.take k) (by rw[List.length_take];omega) hxk)) (aS (v:=(.int .u64 (((val (x.take k)+4294967296^k*x.getD k default:Nat):Int)))) rfl (RL.nil (aV (rV (dP (k:=.i64) (a:=(k:Int)) (b:=1) (c:=(k:Int)+1) hs11 rfl (dJ oM)) (mV (v:=(iv ((k:Int)+1))) rfl ?_)))))
  refine RL.nil ?_
  refine⟨(k+1),⟨?_,?_,?_,?_,?_,?_⟩,?_⟩
  ·exact(by repeat (first|exact hoff10|refine Off.st ?_ dC _))
  ·first|rfl|exact aQ oM|exact aD (by simp)
  ·exact aQ (by rw[bI hkl])
  ·omega
  ·exact hx
  ·exact hw
  (try dsimp only)
  omega
 refine fB ?_
 refine wsr (mV hs12 (aS (v:=(.int .u64 (((val (x.take k):Nat):Int)))) rfl (RL.nil ?_)))
 refine cE ?_
 refine⟨[(.int .u64 (((val (x.take k):Nat):Int)))],⟨rfl,trivial⟩,?_⟩
 rw[List.take_of_length_le (show x.length<=k by omega)]
 exact⟨rfl,hw⟩
theorem n_trim {w:World} {Dx:Nat->TypeId->Prop} {vx:Value} {x:List Nat} (hx0:Sg (gN .u32) Dx w vx x) (lmx:Lm x) (lnx:x.length<=17592186044416):
 Calls Tryz.prog 125 #[vx] w λe w'=>∃v,e= .returned v∧Sg (gN .u32) (λb T=>w.heap.size<=b∧T=131) w' v (aB (val x))∧Ext w w':=by
 have hE:Below w.heap.size w w:=Below.refl _ _
 have hx:=hx0.old
 clear hx0
 have hlvx:=bJ lmx
 refine bH (n:=13) (rs:=[.tmp 2]) func125 rfl rfl rfl bL ?_
 refine cV λF0 hF0=>?_
 refine wsr (aS (v:=(.slice none (0) (0))) rfl (RL.nil (wsr (mV (v:=vx) (hF0 0) ?_))))
 refine cL eN (fW hx (by assumption) (by first|omega|(simp;done)|(simp;omega))) rfl ?_
 rintro vr2 _ ⟨hr3,rfl⟩
 have hlv4:=bJ (x:=x) (by assumption)
 refine aS (v:=vr2) rfl (RL.nil (wsr (mV (v:=vr2) rfl ?_)))
 obtain⟨A5,c6,hv7,hc8,hc9⟩:=hr3.len
 refine rV (cK bE hv7) ?_
 have hn15:((((aB (val x)).length:Nat):Int):Int)=(((aB (val x)).length:Nat):Int):=by omega
 refine rU (jY (n:=(aB (val x)).length) bE bM rfl (aQ hn15) (aQ hn15) oM oM) ?_
 rintro _ w10 ⟨b11,rfl,hs14,hb13,he12⟩
 have ge_b11:=hE.ge hs14
 replace hE:=hE.nx he12
 replace hb13:=Ar.made (g:=(gN .u32)) (z:=(0:Nat)) hb13 rfl
 have hb13l:=hb13.lt
 refine aS (v:=(.slice (some ⟨b11,0,none⟩) ((aB (val x)).length) ((aB (val x)).length))) rfl (RL.nil (wsr (mV (v:=(.slice (some ⟨b11,0,none⟩) ((aB (val x)).length) ((aB (val x)).length))) rfl (mV (v:=vr2) rfl ?_))))
 replace hr3:=hr3.tr (Sm.ext he12)
 refine rU (aUe (g:=(gN .u32)) bE bM rfl rfl hb13 hr3 oM (λ_=>rfl)) ?_
 rintro _ w16 ⟨rfl,ha17,hx18⟩
 replace hE:=hE.nb hx18 ge_b11
 replace hb13:=ha17
 refine RL.nil (wsr (mV (v:=(.slice (some ⟨b11,0,none⟩) ((aB (val x)).length) ((aB (val x)).length))) rfl (aS (v:=(.slice (some ⟨b11,0,none⟩) ((aB (val x)).length) ((aB (val x)).length))) rfl (RL.nil ?_))))
 refine cE ?_
 refine⟨[(.slice (some ⟨b11,0,none⟩) ((aB (val x)).length) ((aB (val x)).length))],⟨rfl,trivial⟩,?_⟩
 exact⟨(hb13.sc (D:=(λb T=>w.heap.size<=b∧T=131)) (Nat.le_refl _) oM ⟨ge_b11,rfl⟩),hE⟩
theorem kM {w:World} {x:Nat} (hx:x<18446744073709551616):
 Calls Tryz.prog 123 #[(.int .u64 (x:Int))] w λe w'=>∃v,e= .returned v∧Sg (gN .u32) (λb T=>w.heap.size<=b∧T=131) w' v (aB (x))∧Ext w w':=by
 have hE:Below w.heap.size w w:=Below.refl _ _
 refine bH (n:=10) (rs:=[.tmp 2]) func123 rfl rfl rfl bL ?_
 refine cV λF0 hF0=>?_
 refine wsr (aS (v:=(.slice none (0) (0))) rfl (RL.nil (wsr (mV (v:=(.int .u64 (x:Int))) (hF0 0) (rV (bR (k:=.u32) (a:=(x:Int)) (c:=((x%4294967296:Nat):Int)) dB bN rfl (cu32 _)) ?_)))))
 refine mV (v:=(.int .u64 (x:Int))) (hF0 0) (rV (jM (k:=.u64) (a:=(x:Int)) (b:=32) (c:=((x/4294967296:Nat):Int)) rfl rfl dC (shr32 _)) (rV (bR (k:=.u32) (a:=((x/4294967296:Nat):Int)) (c:=(((x/4294967296)%4294967296:Nat):Int)) dB bN rfl (cu32 _)) ?_))
 refine rU (aAg (vl:=[(0,(.int .u32 (((x%4294967296:Nat):Int)))),(1,(.int .u32 ((((x/4294967296)%4294967296:Nat):Int))))]) (cs:=[(.int .u32 (((x%4294967296:Nat):Int))),(.int .u32 ((((x/4294967296)%4294967296:Nat):Int)))]) bE bM rfl dC (by first|(simp[Instr.fill,Value.cells];done)|rfl|kernel_rfl)) ?_
 rintro _ w1 ⟨b2,rfl,hs5,hb4,he3⟩
 have ge_b2:=hE.ge hs5
 replace hE:=hE.nx he3
 have hlm:=Lm.two hx
 refine cL (vl:=[(.slice (some ⟨b2,0,none⟩) (2) (2))]) eN (fW (hb4.sg (g:=gN .u32) (D:=(λb T=>w.heap.size<=b∧T=131)) (xs:=[x%4294967296,(x/4294967296)%4294967296]) ⟨ge_b2,rfl⟩ rfl rfl dC) (by first|assumption|(intro z hz;simp at hz;omega)) (by first|omega|(simp;done)|(simp;omega))) rfl ?_
 rintro vr7 _ ⟨hr8,rfl⟩
 have hlv9:=bJ (x:=[x%4294967296,(x/4294967296)%4294967296]) (by first|assumption|(intro z hz;simp at hz;omega))
 refine aS (v:=vr7) rfl (RL.nil ?_)
 refine cE ?_
 refine⟨[vr7],⟨rfl,trivial⟩,?_⟩
 have hres:=hr8
 rw[Nat.mod_eq_of_lt (show x/4294967296<4294967296 by omega),aFx] at hres
 exact⟨hres,hE⟩
theorem aLh {w:World} {Dx:Nat->TypeId->Prop} {vx:Value} {x:List Nat} (hx0:Sg (gN .u32) Dx w vx x) (lmx:Lm x) (lnx:x.length<=1099511627776):
 Calls Tryz.prog 122 #[vx] w λe w'=>∃v,e= .returned v∧v= .tuple #[.int .u64 ((if val x<18446744073709551616 then val x else 0:Nat):Int),.bool (decide (val x<18446744073709551616))]∧Ext w w':=by
 have hE:Below w.heap.size w w:=Below.refl _ _
 have hx:=hx0.old
 clear hx0
 have hlvx:=bJ lmx
 refine bH (n:=11) (rs:=[.tmp 2,.tmp 3]) func122 rfl rfl rfl bL ?_
 refine cV λF0 hF0=>?_
 refine wsr (aS (v:=(.int .u64 0)) rfl (aS (v:=(.bool false)) rfl (RL.nil (wsr (mV (v:=vx) (hF0 0) ?_)))))
 refine cL eN (fW hx (by assumption) (by first|omega|(simp;done)|(simp;omega))) rfl ?_
 rintro vr2 _ ⟨hr3,rfl⟩
 have hlv4:=bJ (x:=x) (by assumption)
 refine aS (v:=vr2) rfl (RL.nil (bB (bB ?_)))
 have hl64:=iI (n:=val x)
 rw[<-cJ] at hl64
 refine aV (mV (v:=vr2) rfl ?_)
 obtain⟨A5,c6,hv7,hc8,hc9⟩:=hr3.len
 refine rV (cK bE hv7) (rV (oL (k:=.i64) (a:=(((aB (val x)).length:Nat):Int)) (b:=2) rfl rfl) (RL.nil ?_))
 refine wcD (p:=2<(((aB (val x)).length:Nat):Int)) rfl (λhb10 hb10p=>?_) (λhb10 hb10p=>?_)
 ·refine wsr ?_
  refine aS (v:=(.int .u64 0)) rfl (aS (v:=(.bool false)) rfl (RL.nil ?_))
  refine cE ?_
  refine⟨[(.int .u64 0),(.bool false)],⟨rfl,⟨rfl,trivial⟩⟩,?_⟩
  exact⟨by rw[if_neg oM,decide_eq_false oM];rfl,hE⟩
 refine bW ?_
 refine wsr (mV (v:=vr2) rfl ?_)
 refine cL uH (uI hr3 (aR _) oM) rfl ?_
 rintro vq13 _ ⟨hq12,rfl⟩
 rw[aW] at hq12
 subst hq12
 refine aS (v:=(.int .u64 ((((val x):Nat):Int)))) rfl (aS (v:=(.bool true)) rfl (RL.nil ?_))
 refine cE ?_
 refine⟨[(.int .u64 ((((val x):Nat):Int))),(.bool true)],⟨rfl,⟨rfl,trivial⟩⟩,?_⟩
 exact⟨by rw[if_pos oM,decide_eq_true oM];rfl,hE⟩
theorem gO {w:World} {Dx:Nat->TypeId->Prop} {vx:Value} {x:List Nat} (hx0:Sg (gN .u32) Dx w vx x) (lmx:Lm x) (lnx:x.length<=1099511627776) {Dy:Nat->TypeId->Prop} {vy:Value} {y:List Nat} (hy0:Sg (gN .u32) Dy w vy y) (lmy:Lm y) (lny:y.length<=1099511627776):
 Calls Tryz.prog 120 #[vx,vy] w λe w'=>∃v,e= .returned v∧v= .int .i64 (cmpI ((val x:Nat):Int) ((val y:Nat):Int))∧Ext w w':=by
 have hE:Below w.heap.size w w:=Below.refl _ _
 have hx:=hx0.old
 clear hx0
 have hy:=hy0.old
 clear hy0
 have hlvx:=bJ lmx
 have hlvy:=bJ lmy
 refine bH (n:=45) (rs:=[.tmp 4]) func120 rfl rfl rfl bL ?_
 refine cV λF0 hF0=>?_
 refine wsr (aS (v:=(iv 0)) rfl (RL.nil (wsr (mV (v:=vx) (hF0 0) ?_))))
 refine cL eN (fW hx (by assumption) (by first|omega|(simp;done)|(simp;omega))) rfl ?_
 rintro vr2 _ ⟨hr3,rfl⟩
 have hlv4:=bJ (x:=x) (by assumption)
 refine mV (v:=vy) (hF0 1) ?_
 refine cL eN (fW hy (by assumption) (by first|omega|(simp;done)|(simp;omega))) rfl ?_
 rintro vr6 _ ⟨hr7,rfl⟩
 have hlv8:=bJ (x:=y) (by assumption)
 refine aS (v:=vr2) rfl (aS (v:=vr6) rfl (RL.nil (bB (wsr (mV (v:=vr2) rfl ?_)))))
 obtain⟨A9,c10,hv11,hc12,hc13⟩:=hr3.len
 refine rV (cK bE hv11) (mV (v:=vr6) rfl ?_)
 obtain⟨A14,c15,hv16,hc17,hc18⟩:=hr7.len
 refine rV (cK bE hv16) (rV (mI (k:=.i64) (a:=(((aB (val x)).length:Nat):Int)) (b:=(((aB (val y)).length:Nat):Int)) rfl rfl) (RL.nil ?_))
 refine wcD (p:=(((aB (val x)).length:Nat):Int)≠(((aB (val y)).length:Nat):Int)) rfl (λhb19 hb19p=>?_) (λhb19 hb19p=>?_)
 ·refine bB ?_
  refine wsr (mV (v:=vr2) rfl (rV (cK bE hv11) (mV (v:=vr6) rfl (rV (cK bE hv16) (rV (eQ (k:=.i64) (a:=(((aB (val x)).length:Nat):Int)) (b:=(((aB (val y)).length:Nat):Int)) rfl rfl) ?_)))))
  refine RL.nil ?_
  refine wcD (p:=(((aB (val x)).length:Nat):Int)<(((aB (val y)).length:Nat):Int)) rfl (λhb20 hb20p=>?_) (λhb20 hb20p=>?_)
  ·refine wsr ?_
   refine aS (v:=(iv (-1))) rfl (RL.nil ?_)
   refine cE ?_
   refine⟨[(iv (-1))],⟨rfl,trivial⟩,?_⟩
   have hlt:val x<val y:=by first|exact jJ (by rw[<-cJ,<-cJ];omega)|(have h:=rG (a:=aB (val x)) (b:=aB (val y)) (m:=n-1) (aR (val x)) oM oM (by rw[show n-1+1=n by omega];exact hd) oM;rw[aW,aW] at h;exact h)
   exact⟨aQ (by unfold cmpI;rw[if_pos oM]),hE⟩
  refine bW ?_
  refine wsr (aS (v:=(iv 1)) rfl (RL.nil ?_))
  refine cE ?_
  refine⟨[(iv 1)],⟨rfl,trivial⟩,?_⟩
  have hlt:val y<val x:=by first|exact jJ (by rw[<-cJ,<-cJ];omega)|(have h:=rG (a:=aB (val y)) (b:=aB (val x)) (m:=n-1) (aR (val y)) oM oM (by rw[show n-1+1=n by omega];exact hd.symm) oM;rw[aW,aW] at h;exact h)
  exact⟨aQ (by unfold cmpI;rw[if_neg oM,if_pos oM]),hE⟩
 refine bW ?_
 refine bB (wsr (mV (v:=vr2) rfl (rV (cK bE hv11) (rV (eH (k:=.i64) (a:=(((aB (val x)).length:Nat):Int)) (b:=1) (c:=(((aB (val x)).length:Nat):Int)-1) rfl rfl (dJ oM)) (aS (v:=(iv ((((aB (val x)).length:Nat):Int)-1))) rfl ?_)))))
 refine RL.nil ?_
 refine cF ?_
 refine cV λF21 hF22=>?_
 refine fU (σ:=Nat) (λ(n:Nat) fl wl=>Off (rg 4 2 (rg 23 22 [])) F21 fl∧fl 5=(iv ((n:Int)-1))∧(n<=(aB (val x)).length)∧((aB (val x)).drop n=(aB (val y)).drop n)∧(Sg (gN .u32) (λb T=>Dx b T∧b<w.heap.size) wl vx x)∧(Sg (gN .u32) (λb T=>Dy b T∧b<w.heap.size) wl vy y)∧(Below w.heap.size w wl)∧(Sg (gN .u32) (λb T=>Dx b T∧b<w.heap.size) wl vr2 (aB (val x)))∧(Sg (gN .u32) (λb T=>Dy b T∧b<w.heap.size) wl vr6 (aB (val y)))) (λ(n:Nat)=>n) ((aB (val x)).length) ?_ ?_
 ·exact⟨Off.refl _ _,(hF22 5).trans (rfl),Nat.le_refl _,(by rw[List.drop_of_length_le (Nat.le_refl _),List.drop_of_length_le oM]),hx,hy,hE,hr3,hr7⟩
 clear hx hy hE hr3 hr7
 rintro n f23 w24 ⟨hoff25,hs26,hn,hd,hx,hy,hE,hr3,hr7⟩
 refine bB (wsr (mV hs26 (rV (sD (k:=.i64) (a:=(n:Int)-1) (b:=0) rfl rfl) (RL.nil ?_))))
 refine wcD (p:=0<=((n:Int)-1)) rfl (λhb27 hb27p=>?_) (λhb27 hb27p=>?_)
 ·refine bW ?_
  refine bB ?_
  refine cF ?_
  refine bB (bB ?_)
  refine fI fV λw28 he29=>?_
  replace hE:=hE.nx he29
  refine ra 0 rfl (λ_=>aG (v:=vr2) ((hoff25 0 rfl).trans (hF22 0))) ?_
  refine ra 1 rfl (λ_=>aG (v:=(iv ((n:Int)-1))) hs26) ?_
  replace hr3:=hr3.tr (Sm.ext he29)
  obtain⟨b30,o31,c32,hv33,hc34⟩:=hr3.ix (i:=(n:Int)-1) (n-1) oM oM
  refine ra 2 rfl (λ_=>aJ (i:=(n:Int)-1) bE bM hv33 rfl oM oM) ?_
  refine RA.rd 3 rfl kR rfl rfl rfl dC (Ext.refl _) (λu hu=>aY (v:=(.int .u32 ((((aB (val x)).getD (n-1) default:Nat):Int)))) bN dR rfl (bT hu hc34)) ?_
  refine ra 4 rfl (λ_=>aG (v:=vr6) ((hoff25 1 rfl).trans (hF22 1))) ?_
  refine ra 5 rfl (λ_=>aG (v:=(iv ((n:Int)-1))) hs26) ?_
  replace hr7:=hr7.tr (Sm.ext he29)
  obtain⟨b35,o36,c37,hv38,hc39⟩:=hr7.ix (i:=(n:Int)-1) (n-1) oM oM
  refine ra 6 rfl (λ_=>aJ (i:=(n:Int)-1) bE bM hv38 rfl oM oM) ?_
  refine RA.rd 7 rfl kR rfl rfl rfl dC (Ext.refl _) (λu hu=>aY (v:=(.int .u32 ((((aB (val y)).getD (n-1) default:Nat):Int)))) bN dR rfl (bT hu hc39)) ?_
  refine ra 8 rfl (λ_=>eQ (k:=.u32) (a:=(((aB (val x)).getD (n-1) default:Nat):Int)) (b:=(((aB (val y)).getD (n-1) default:Nat):Int)) rfl rfl) ?_
  refine RA.done kR ?_
  refine wcD (p:=(((aB (val x)).getD (n-1) default:Nat):Int)<(((aB (val y)).getD (n-1) default:Nat):Int)) rfl (λhb40 hb40p=>?_) (λhb40 hb40p=>?_)
  ·refine wsr ?_
   refine aS (v:=(iv (-1))) rfl (RL.nil ?_)
   refine cE ?_
   refine⟨[(iv (-1))],⟨rfl,trivial⟩,?_⟩
   have hlt:val x<val y:=by first|exact jJ (by rw[<-cJ,<-cJ];omega)|(have h:=rG (a:=aB (val x)) (b:=aB (val y)) (m:=n-1) (aR (val x)) oM oM (by rw[show n-1+1=n by omega];exact hd) oM;rw[aW,aW] at h;exact h)
   exact⟨aQ (by unfold cmpI;rw[if_pos oM]),hE⟩
  refine bW ?_
  refine bB ?_
  refine fI fV λw41 he42=>?_
  replace hE:=hE.nx he42
  refine ra 0 rfl (λ_=>aG (v:=vr2) ((hoff25 0 rfl).trans (hF22 0))) ?_
  refine ra 1 rfl (λ_=>aG (v:=(iv ((n:Int)-1))) hs26) ?_
  replace hr3:=hr3.tr (Sm.ext he42)
  obtain⟨b43,o44,c45,hv46,hc47⟩:=hr3.ix (i:=(n:Int)-1) (n-1) oM oM
  refine ra 2 rfl (λ_=>aJ (i:=(n:Int)-1) bE bM hv46 rfl oM oM) ?_
  refine RA.rd 3 rfl kR rfl rfl rfl dC (Ext.refl _) (λu hu=>aY (v:=(.int .u32 ((((aB (val x)).getD (n-1) default:Nat):Int)))) bN dR rfl (bT hu hc47)) ?_
  refine ra 4 rfl (λ_=>aG (v:=vr6) ((hoff25 1 rfl).trans (hF22 1))) ?_
  refine ra 5 rfl (λ_=>aG (v:=(iv ((n:Int)-1))) hs26) ?_
  replace hr7:=hr7.tr (Sm.ext he42)
  obtain⟨b48,o49,c50,hv51,hc52⟩:=hr7.ix (i:=(n:Int)-1) (n-1) oM oM
  refine ra 6 rfl (λ_=>aJ (i:=(n:Int)-1) bE bM hv51 rfl oM oM) ?_
  refine RA.rd 7 rfl kR rfl rfl rfl dC (Ext.refl _) (λu hu=>aY (v:=(.int .u32 ((((aB (val y)).getD (n-1) default:Nat):Int)))) bN dR rfl (bT hu hc52)) ?_
  refine ra 8 rfl (λ_=>oL (k:=.u32) (a:=(((aB (val x)).getD (n-1) default:Nat):Int)) (b:=(((aB (val y)).getD (n-1) default:Nat):Int)) rfl rfl) ?_
  refine RA.done kR ?_
  refine wcD (p:=(((aB (val y)).getD (n-1) default:Nat):Int)<(((aB (val x)).getD (n-1) default:Nat):Int)) rfl (λhb53 hb53p=>?_) (λhb53 hb53p=>?_)
  ·refine wsr ?_
   refine aS (v:=(iv 1)) rfl (RL.nil ?_)
   refine cE ?_
   refine⟨[(iv 1)],⟨rfl,trivial⟩,?_⟩
   have hlt:val y<val x:=by first|exact jJ (by rw[<-cJ,<-cJ];omega)|(have h:=rG (a:=aB (val y)) (b:=aB (val x)) (m:=n-1) (aR (val y)) oM oM (by rw[show n-1+1=n by omega];exact hd.symm) oM;rw[aW,aW] at h;exact h)
   exact⟨aQ (by unfold cmpI;rw[if_neg oM,if_pos oM]),hE⟩
  refine bW ?_
  refine aV (mV hs26 (rV (eH (k:=.i64) (a:=(n:Int)-1) (b:=1) (c:=((n:Int)-1)-1) rfl rfl (dJ oM)) (aS (v:=(iv (((n:Int)-1)-1))) rfl (RL.nil ?_))))
  replace hx:=hx.tr (Sm.ext (Ext.trans he29 he42))
  replace hy:=hy.tr (Sm.ext (Ext.trans he29 he42))
  refine⟨(n-1),⟨?_,?_,?_,?_,?_,?_,?_,?_,?_⟩,?_⟩
  ·exact(by repeat (first|exact hoff25|refine Off.st ?_ dC _))
  ·first|rfl|exact aQ oM|exact aD (by simp)
  ·omega
  ·exact wT oM hn oM hd oM
  ·exact hx
  ·exact hy
  ·exact hE
  ·exact hr3
  ·exact hr7
  (try dsimp only)
  omega
 refine fB ?_
 refine wsr (aS (v:=(iv 0)) rfl (RL.nil ?_))
 refine cE ?_
 refine⟨[(iv 0)],⟨rfl,trivial⟩,?_⟩
 have hn0:n=0:=by omega
 subst hn0
 rw[List.drop_zero,List.drop_zero] at hd
 have h:=congrArg val hd
 rw[aW,aW] at h
 exact⟨aQ (by unfold cmpI;rw[if_neg oM,if_neg oM]),hE⟩
end Go.Proofs.YtlhdigjbokkbiaaGreat.W
namespace Go.Vm
structure Kd (U V top v1 v2 u2 p lowU lowV:Nat):Prop where
 eU:U=(top*4294967296+u2)*p+lowU
 eV:V=(v1*4294967296+v2)*p+lowV
 lU:lowU<p
 lV:lowV<p
 hv:2147483648<=v1
 hv2:v2<4294967296
 hu2:u2<4294967296
 hq:U<V*4294967296
structure Kn (U V top v1 digit rest:Nat):Prop where
 e:digit*v1+rest=top
 ge:U/V<=digit
 le:digit<=4294967297
theorem Kd.pos {U V top v1 v2 u2 p lowU lowV:Nat} (H:Kd U V top v1 v2 u2 p lowU lowV):0<V:=by
 have h1:=H.hq
 rcases Nat.eq_zero_or_pos V with h|h
 ·rw[h] at h1;omega
 exact h
theorem Kd.start {U V top v1 v2 u2 p lowU lowV:Nat} (H:Kd U V top v1 v2 u2 p lowU lowV):Kn U V top v1 (top/v1) (top%v1):=by
 have hp:0<p:=Nat.lt_of_le_of_lt (Nat.zero_le _) H.lU
 refine⟨by rw[Nat.mul_comm];exact Nat.div_add_mod top v1,?_,?_⟩
 ·rw[Nat.le_div_iff_mul_le (by have:=H.hv;omega)]
  have h1:U/V*V<=U:=Nat.div_mul_le_self U V
  have h2:U/V*(v1*4294967296*p)<=U:=Nat.le_trans (Nat.mul_le_mul_left _ (by rw[H.eV,Nat.add_mul];omega)) h1
  have h3:U<(top+1)*(4294967296*p):=by
   rw[H.eU]
   have:=H.lU
   have h4:u2*p<=4294967295*p:=Nat.mul_le_mul_right _ (by have:=H.hu2;omega)
   rw[Nat.add_mul,Nat.add_mul,Nat.mul_assoc]
   omega
  have h5:(U/V*v1)*(4294967296*p)<(top+1)*(4294967296*p):=by
   rw[Nat.mul_assoc] at h2 ⊢
   exact Nat.lt_of_le_of_lt h2 h3
  have:=Nat.lt_of_mul_lt_mul_right h5
  omega
 have h1:top*(4294967296*p)<=U:=by
  rw[H.eU,Nat.add_mul,Nat.mul_assoc]
  omega
 have h2:V<(v1+1)*(4294967296*p):=by
  rw[H.eV]
  have:=H.lV
  have h4:v2*p<=4294967295*p:=Nat.mul_le_mul_right _ (by have:=H.hv2;omega)
  rw[Nat.add_mul,Nat.add_mul,Nat.mul_assoc]
  omega
 have h3:top*(4294967296*p)<((v1+1)*4294967296)*(4294967296*p):=by
  refine Nat.lt_of_le_of_lt h1 (Nat.lt_trans H.hq ?_)
  have:=Nat.mul_lt_mul_of_pos_right h2 (show 0<4294967296 by decide)
  rw[Nat.mul_right_comm] at this
  exact this
 have h4:=Nat.lt_of_mul_lt_mul_right h3
 have h5:top/v1<4294967298:=by
  rw[Nat.div_lt_iff_lt_mul (by have:=H.hv;omega)]
  have:=H.hv
  omega
 omega
theorem Kd.lt {U V top v1 v2 u2 p lowU lowV:Nat} (H:Kd U V top v1 v2 u2 p lowU lowV):U/V<4294967296:=by
 rw[Nat.div_lt_iff_lt_mul H.pos,Nat.mul_comm];exact H.hq
theorem Kd.step {U V top v1 v2 u2 p lowU lowV digit rest:Nat} (H:Kd U V top v1 v2 u2 p lowU lowV) (K:Kn U V top v1 digit rest) (h:4294967296<=digit∨rest*4294967296+u2<digit*v2):Kn U V top v1 (digit-1) (rest+v1)∧1<=digit:=by
 have hlt:U/V<digit:=by
  rcases h with h|h
  ·have:=H.lt;omega
  rcases Nat.lt_or_eq_of_le K.ge with h1|h1
  ·exact h1
  exfalso
  have h2:digit*V<=U:=by rw[<-h1];exact Nat.div_mul_le_self U V
  have h3:digit*((v1*4294967296+v2)*p)<=U:=Nat.le_trans (Nat.mul_le_mul_left _ (by rw[H.eV];omega)) h2
  have h4:(top*4294967296+u2+1)*p<=digit*((v1*4294967296+v2)*p):=by
   rw[<-Nat.mul_assoc]
   refine Nat.mul_le_mul_right _ ?_
   rw[Nat.mul_add,<-Nat.mul_assoc]
   have:=K.e
   have e2:digit*v1*4294967296+rest*4294967296=top*4294967296:=by rw[<-Nat.add_mul,this]
   omega
  have h5:=H.eU
  have h6:=H.lU
  have h7:(top*4294967296+u2+1)*p=(top*4294967296+u2)*p+p:=Nat.succ_mul _ _
  omega
 have hz:=Nat.zero_le (U/V)
 refine⟨⟨?_,by omega,by have:=K.le;omega⟩,by omega⟩
 have:=K.e
 obtain⟨d,rfl⟩:∃d,digit=d+1:=⟨digit-1,by omega⟩
 rw[Nat.add_sub_cancel,<-this,Nat.succ_mul]
 omega
theorem Kd.exit {U V top v1 v2 u2 p lowU lowV digit rest:Nat} (H:Kd U V top v1 v2 u2 p lowU lowV) (K:Kn U V top v1 digit rest) (h1:digit<4294967296) (h2:digit*v2<=rest*4294967296+u2):digit<=U/V+1:=by
 have hz:=Nat.zero_le (U/V)
 rcases Nat.eq_zero_or_pos digit with h0|h0
 ·omega
 obtain⟨d,rfl⟩:∃d,digit=d+1:=⟨digit-1,by omega⟩
 have hle:d<=U/V:=by
  rw[Nat.le_div_iff_mul_le H.pos]
  have a1:(d+1)*V=((d+1)*v1*4294967296+(d+1)*v2)*p+(d+1)*lowV:=by
   rw[H.eV,Nat.mul_add,<-Nat.mul_assoc,Nat.mul_add,<-Nat.mul_assoc]
  have a2:((d+1)*v1*4294967296+(d+1)*v2)*p<=(top*4294967296+u2)*p:=by
   refine Nat.mul_le_mul_right _ ?_
   have e2:(d+1)*v1*4294967296+rest*4294967296=top*4294967296:=by rw[<-Nat.add_mul,K.e]
   omega
  have a3:(d+1)*lowV<=4294967295*p:=Nat.le_trans (Nat.mul_le_mul_right _ oM) (Nat.mul_le_mul_left _ (Nat.le_of_lt H.lV))
  have a4:4294967296*p<=V:=by
   rw[H.eV,Nat.add_mul]
   have:1*4294967296*p<=v1*4294967296*p:=Nat.mul_le_mul_right _ (Nat.mul_le_mul_right _ (by have:=H.hv;omega))
   omega
  have a5:(d+1)*V=d*V+V:=Nat.succ_mul _ _
  have a6:=H.eU
  have hp:0<p:=Nat.lt_of_le_of_lt (Nat.zero_le _) H.lU
  omega
 omega
theorem Kd.brk {U V top v1 v2 u2 p lowU lowV digit rest:Nat} (H:Kd U V top v1 v2 u2 p lowU lowV) (K:Kn U V top v1 digit rest) (h1:digit<=4294967296) (h2:4294967296<=rest):digit<=U/V:=by
 rw[Nat.le_div_iff_mul_le H.pos]
 have a1:digit*V=digit*v1*4294967296*p+digit*(v2*p+lowV):=by
  rw[H.eV,Nat.add_mul,Nat.add_assoc,Nat.mul_add]
  rw[<-Nat.mul_assoc,<-Nat.mul_assoc]
 have a2:digit*v1*4294967296*p+rest*4294967296*p=top*4294967296*p:=by rw[<-Nat.add_mul,<-Nat.add_mul,K.e]
 have a3:v2*p+lowV<=4294967296*p:=by
  have:v2*p<=4294967295*p:=Nat.mul_le_mul_right _ (by have:=H.hv2;omega)
  have:=H.lV
  omega
 have a4:digit*(v2*p+lowV)<=4294967296*(4294967296*p):=Nat.mul_le_mul h1 a3
 have a5:4294967296*4294967296*p<=rest*4294967296*p:=Nat.mul_le_mul_right _ (Nat.mul_le_mul_right _ h2)
 have a6:=H.eU
 rw[Nat.add_mul] at a6
 omega
def sb (u c:Nat):Nat:=(u+18446744073709551616-c)%18446744073709551616
theorem aCu {u c:Nat} (hu:u<4294967296) (hc:c<4294967296):sb u c%4294967296+c=u+4294967296*(sb u c/9223372036854775808)∧sb u c/9223372036854775808<=1∧(sb u c/9223372036854775808=0↔c<=u):=by
 unfold sb
 by_cases h:c<=u
 ·rw[show u+18446744073709551616-c=(u-c)+18446744073709551616 by omega,Nat.add_mod_right,Nat.mod_eq_of_lt (show u-c<18446744073709551616 by omega)]
  omega
 rw[Nat.mod_eq_of_lt (show u+18446744073709551616-c<18446744073709551616 by omega)]
 omega
theorem aLi {dg v c u:Nat} (hd:dg<4294967296) (hv:v<4294967296) (hc:c<4294967296) (hu:u<4294967296):dg*v+c<=18446744069414584320∧(dg*v+c)/4294967296+sb u ((dg*v+c)%4294967296)/9223372036854775808<4294967296:=by
 have h1:=mS hd hv
 have h2:=aCu hu (Nat.mod_lt (dg*v+c) (show 0<4294967296 by decide))
 generalize hp:dg*v=p at*
 generalize hs:sb u ((p+c)%4294967296)=s at*
 have hs':=hs
 unfold sb at hs'
 omega
theorem aUh {P:List Nat} {k c dg u v Uk Vk:Nat} (hP:P.length=k) (h:val P+dg*Vk=Uk+4294967296^k*c) (hu:u<4294967296):
 val (P++[sb u ((dg*v+c)%4294967296)%4294967296])+dg*(Vk+4294967296^k*v)=(Uk+4294967296^k*u)+4294967296^(k+1)*((dg*v+c)/4294967296+sb u ((dg*v+c)%4294967296)/9223372036854775808):=by
 have h2:=(aCu hu (Nat.mod_lt (dg*v+c) (show 0<4294967296 by decide))).1
 have h3:=Nat.div_add_mod (dg*v+c) 4294967296
 rw[eS,hP,Nat.pow_succ]
 generalize sb u ((dg*v+c)%4294967296)=s at*
 generalize (dg*v+c)%4294967296=r at*
 generalize (dg*v+c)/4294967296=q at*
 generalize s/9223372036854775808=b at*
 generalize s%4294967296=t at*
 generalize 4294967296^k=p at*
 have e1:p*t+p*(dg*v+c)=p*u+p*(4294967296*(q+b)):=by rw[<-Nat.mul_add,<-Nat.mul_add];congr 1;omega
 rw[Nat.mul_add p (dg*v) c] at e1
 rw[Nat.mul_add dg,<-Nat.mul_assoc dg p v,Nat.mul_comm dg p,Nat.mul_assoc p dg v,Nat.mul_assoc p 4294967296]
 omega
theorem bGo {U V R Ul un c dg pn:Nat} (hV:0<V) (h:R+dg*V=Ul+pn*c) (hU:U=Ul+pn*un) (hc:c<=un) (hg:U/V<=dg):dg=U/V∧R+pn*(un-c)=U%V:=by
 have e:pn*un=pn*c+pn*(un-c):=by rw[<-Nat.mul_add];congr 1;omega
 have e2:U=dg*V+(R+pn*(un-c)):=by omega
 have h1:dg<=U/V:=(Nat.le_div_iff_mul_le hV).2 oM
 have h2:dg=U/V:=by omega
 refine⟨h2,?_⟩
 have:=Nat.div_add_mod U V
 rw[<-h2,Nat.mul_comm] at this
 omega
theorem aUi {U V R Ul un c dg pn:Nat} (hV:0<V) (h:R+dg*V=Ul+pn*c) (hU:U=Ul+pn*un) (hc:un<c) (hg:dg<=U/V+1) (hR:R<pn) (hVp:V<pn):dg=U/V+1∧c=un+1∧R+V=U%V+pn:=by
 have hdm:=Nat.div_add_mod U V
 have hlt:=Nat.mod_lt U hV
 have e:pn*c=pn*un+pn*(c-un):=by rw[<-Nat.mul_add];congr 1;omega
 have e3:pn*1<=pn*(c-un):=Nat.mul_le_mul_left _ oM
 have h1:U<dg*V:=by omega
 have h2:U/V<dg:=(Nat.div_lt_iff_lt_mul hV).2 h1
 have h3:dg=U/V+1:=by omega
 subst h3
 rw[Nat.succ_mul,Nat.mul_comm] at h
 have h4:R+V=U%V+pn*(c-un):=by omega
 have h5:c-un=1:=by
  rcases Nat.lt_or_ge (c-un) 2 with h6|h6
  ·omega
  have:=Nat.mul_le_mul_left pn h6
  omega
 rw[h5,Nat.mul_one] at h4
 exact⟨rfl,by omega,h4⟩
theorem aLj {P:List Nat} {n c R V r:Nat} (hP:P.length=n) (hl:Lm P) (h:val P+4294967296^n*c=R+V) (h2:R+V=r+4294967296^n) (hr:r<4294967296^n):c=1∧val P=r:=by
 have hv:=eM hl
 rw[hP] at hv
 generalize 4294967296^n=p at*
 have hc:c=1:=by
  rcases Nat.lt_trichotomy c 1 with h1|h1|h1
  ·have:c=0:=by omega
   subst this;omega
  ·exact h1
  have:=Nat.mul_le_mul_left p (show 2<=c by omega)
  omega
 subst hc
 omega
theorem aIy {P:List Nat} {k c u v R V:Nat} (hP:P.length=k) (h:val P+4294967296^k*c=R+V):
 val (P++[(c+(u+v))%4294967296])+4294967296^(k+1)*((c+(u+v))/4294967296)=(R+4294967296^k*u)+(V+4294967296^k*v):=by
 have h3:=Nat.div_add_mod (c+(u+v)) 4294967296
 rw[eS,hP,Nat.pow_succ]
 generalize (c+(u+v))%4294967296=r at*
 generalize (c+(u+v))/4294967296=q at*
 generalize 4294967296^k=p at*
 have e1:p*r+p*(4294967296*q)=p*c+(p*u+p*v):=by rw[<-Nat.mul_add,<-Nat.mul_add,<-Nat.mul_add];congr 1;omega
 rw[Nat.mul_assoc]
 omega
theorem aIz {a0 A A' V Q q j B':Nat} (h:a0=A+V*(B'*(4294967296*Q))) (hj:B'=4294967296^j) {low W W':Nat} (hA:A=low+B'*W) (hA':A'=low+B'*W') (hW:W=q*V+W'):a0=A'+V*(B'*(q+4294967296*Q)):=by
 rw[h,hA,hA',hW,Nat.mul_add B',Nat.mul_add B',Nat.mul_add V]
 have:B'*(q*V)=V*(B'*q):=by rw[Nat.mul_comm q V,<-Nat.mul_assoc,Nat.mul_comm B' V,Nat.mul_assoc]
 omega
end Go.Vm
namespace Go.Vm
def sb2 (x c y:Nat):Nat:=(sb x c+18446744073709551616-y)%18446744073709551616
theorem aUj {x c y:Nat} (hx:x<4294967296) (hc:c<=1) (hy:y<4294967296):sb2 x c y%4294967296=(x+4294967296-(c+y))%4294967296∧sb2 x c y/9223372036854775808=(if x<c+y then 1 else 0):=by
 unfold sb2 sb
 by_cases h1:c<=x
 ·rw[show x+18446744073709551616-c=(x-c)+18446744073709551616 by omega,Nat.add_mod_right,Nat.mod_eq_of_lt (show x-c<18446744073709551616 by omega)]
  by_cases h2:x<c+y
  ·rw[if_pos h2,Nat.mod_eq_of_lt (show x-c+18446744073709551616-y<18446744073709551616 by omega)]
   omega
  rw[if_neg h2,show x-c+18446744073709551616-y=(x-c-y)+18446744073709551616 by omega,Nat.add_mod_right,Nat.mod_eq_of_lt (show x-c-y<18446744073709551616 by omega)]
  omega
 rw[Nat.mod_eq_of_lt (show x+18446744073709551616-c<18446744073709551616 by omega),if_pos oM]
 rw[show x+18446744073709551616-c+18446744073709551616-y=(x+18446744073709551616-c-y)+18446744073709551616 by omega,Nat.add_mod_right,Nat.mod_eq_of_lt (show x+18446744073709551616-c-y<18446744073709551616 by omega)]
 omega
theorem aGe {x c:Nat}:sb x c=sb2 x c 0:=by
 unfold sb2
 rw[Nat.sub_zero,Nat.add_mod_right,Nat.mod_eq_of_lt]
 unfold sb
 exact Nat.mod_lt _ dC
theorem aLk {O x y:List Nat} {i:Nat} (hi:i<x.length) (hO:O.length=x.length+y.length) (h1:val (O.take (i+y.length))=val (x.take i)*val y) (hz:∀j,i+y.length<=j->j<O.length->O.getD j default=0) (h0:x.getD i default=0):
 val (O.take (i+1+y.length))=val (x.take (i+1))*val y:=by
 rw[show i+1+y.length=(i+y.length)+1 by omega,bI oM,hz _ (Nat.le_refl _) oM,h1,bI hi,h0]
 simp
end Go.Vm
namespace Go.Vm
theorem aUk {P:List Nat} {k c x s V:Nat} (hP:P.length=k) (h:val P+4294967296^k*c=V*2^s):
 val (P++[(c+x*2^s)%4294967296])+4294967296^(k+1)*((c+x*2^s)/4294967296)=(V+4294967296^k*x)*2^s:=by
 rw[eS,hP,Nat.pow_succ]
 have h1:=mR (4294967296^k) (c+x*2^s)
 rw[Nat.mul_comm 4294967296] at h1
 rw[Nat.mul_add,<-Nat.mul_assoc] at h1
 rw[Nat.add_mul]
 omega
theorem uJ {c x s:Nat} (hs:s<=31) (hc:c<2^s) (hx:x<4294967296):c+x*2^s<9223372036854775808∧(c+x*2^s)/4294967296<2^s∧2^s<=2147483648:=by
 have h1:2^s<=2^31:=Nat.pow_le_pow_right dC hs
 have h2:x*2^s<=4294967295*2^s:=Nat.mul_le_mul_right _ oM
 generalize 2^s=p at*
 generalize x*p=q at*
 omega
theorem aZz {c x s:Nat} (hc:c<2^s):c|||x*2^s=c+x*2^s:=by
 have h:=Nat.two_pow_add_eq_or_of_lt hc x
 rw[Nat.mul_comm] at h
 rw[Nat.or_comm,<-h,Nat.add_comm]
theorem fP (x:List Nat) (k:Nat):val (x.drop k)=dig x k+4294967296*val (x.drop (k+1)):=by
 by_cases h:k<x.length
 ·rw[gW h,gV h];rfl
 rw[kQ h,List.drop_of_length_le oM,List.drop_of_length_le oM];rfl
theorem jB {x:List Nat} (hx:Lm x) (k:Nat):val x/4294967296^k=val (x.drop k):=by
 have hk:val (x.take k)<4294967296^k:=Nat.lt_of_lt_of_le (eM (hx.take k)) (Nat.pow_le_pow_right dC (by rw[List.length_take];omega))
 by_cases h:k<=x.length
 ·rw[fF x h,Nat.add_mul_div_left _ _ (Nat.pow_pos dC),Nat.div_eq_of_lt hk,Nat.zero_add]
 rw[List.take_of_length_le oM] at hk
 rw[List.drop_of_length_le oM,Nat.div_eq_of_lt hk];rfl
theorem aAp {a r s:Nat} (B:Nat) (hB:B=2^32) (hs:s<=31):(a+B*(B*r))/2^s%B=a/2^s%B:=by
 have hp:B=2^s*2^(32-s):=by rw[hB,<-Nat.pow_add,show s+(32-s)=32 by omega]
 have e3:B*(B*r)=2^s*(B*(2^(32-s)*r)):=by
  rw[<-Nat.mul_assoc B (2^(32-s)) r,Nat.mul_comm B (2^(32-s)),Nat.mul_assoc (2^(32-s)) B r,<-Nat.mul_assoc (2^s) (2^(32-s)),<-hp]
 rw[e3,Nat.add_mul_div_left _ _ (Nat.pow_pos dC),Nat.add_mul_mod_self_left]
theorem aJa {x:List Nat} (hx:Lm x) {k s:Nat} (hs:s<=31):(dig x k+4294967296*dig x (k+1))/2^s%4294967296=val x/2^s/4294967296^k%4294967296:=by
 rw[Nat.div_div_eq_div_mul,Nat.mul_comm (2^s),<-Nat.div_div_eq_div_mul,jB hx,fP x k,fP x (k+1),Nat.mul_add,<-Nat.add_assoc]
 exact(aAp 4294967296 rfl hs).symm
theorem aLl {P:List Nat} {W k:Nat} (hP:P.length=k) (h:val P=W%4294967296^k):val (P++[W/4294967296^k%4294967296])=W%4294967296^(k+1):=by
 rw[eS,hP,h,Nat.pow_succ,Nat.mod_mul]
theorem bGp {n u:Nat} {Q:List Nat}:(List.replicate (n+1) 0++Q).set n u=List.replicate n 0++(u::Q):=by
 rw[List.replicate_succ',List.append_assoc,List.set_append_right (h:=by simp)]
 simp
theorem aJb {x:List Nat} {n d r:Nat} {Q:List Nat} (hn:n<x.length) (hd:0<d) (h:val (x.drop (n+1))=val Q*d+r):
 val (x.drop n)=val ((r*4294967296+x.getD n default)/d::Q)*d+(r*4294967296+x.getD n default)%d:=by
 have h1:=kI (a:=x) (n:=n+1) oM oM
 rw[Nat.add_sub_cancel] at h1
 rw[h1,h]
 show _=((r*4294967296+x.getD n default)/d+4294967296*val Q)*d+_
 have h2:=Nat.div_add_mod (r*4294967296+x.getD n default) d
 rw[Nat.mul_comm d] at h2
 rw[Nat.add_mul,Nat.mul_assoc]
 generalize (r*4294967296+x.getD n default)/d*d=q1 at*
 generalize (r*4294967296+x.getD n default)%d=m1 at*
 generalize val Q*d=t at*
 omega
theorem aUl {r d x:Nat} (hr:r<d) (hd:d<4294967296) (hx:x<4294967296):(r*4294967296+x)/d<4294967296∧r*4294967296+x<18446744073709551616:=by
 refine⟨(Nat.div_lt_iff_lt_mul oM).2 ?_,by omega⟩
 have:(r+1)*4294967296<=d*4294967296:=Nat.mul_le_mul_right _ hr
 rw[Nat.mul_comm 4294967296 d]
 omega
end Go.Vm
namespace Go.Vm
theorem bGq {u v:List Nat} {n:Nat} (hu:u.length=n+1) (hv:v.length=n) (hn:2<=n) (lu:Lm u) (lv:Lm v) (htop:2147483648<=v.getD (n-1) default) (hq:val u<val v*4294967296):
 Kd (val u) (val v) (u.getD n default*4294967296+u.getD (n-1) default) (v.getD (n-1) default) (v.getD (n-2) default) (u.getD (n-2) default) (4294967296^(n-2)) (val (u.take (n-2))) (val (v.take (n-2))):=by
 obtain⟨m,rfl⟩:∃m,n=m+2:=⟨n-2,by omega⟩
 have e1:=bI (xs:=u) (k:=m) oM
 have e2:=bI (xs:=u) (k:=m+1) oM
 have e3:=bI (xs:=u) (k:=m+2) oM
 rw[List.take_of_length_le (show u.length<=m+2+1 by omega)] at e3
 have f1:=bI (xs:=v) (k:=m) oM
 have f2:=bI (xs:=v) (k:=m+1) oM
 rw[List.take_of_length_le (show v.length<=m+1+1 by omega)] at f2
 have hp1:4294967296^(m+1)=4294967296^m*4294967296:=Nat.pow_succ ..
 have hp2:4294967296^(m+2)=4294967296^(m+1)*4294967296:=Nat.pow_succ ..
 have lt1:=eM (lu.take m)
 have lt2:=eM (lv.take m)
 rw[List.length_take,Nat.min_eq_left oM] at lt1 lt2
 simp only[show m+2-1=m+1 by omega,Nat.add_sub_cancel]
 rw[hp1] at e2 f2
 rw[hp2,hp1] at e3
 refine⟨?_,?_,lt1,lt2,by simpa using htop,lv.at oM,lu.at oM,hq⟩
 ·rw[e3,e2,e1,Nat.add_mul,Nat.add_mul]
  generalize 4294967296^m=p
  generalize u.getD (m+2) default=a
  generalize u.getD (m+1) default=b
  generalize u.getD m default=c
  rw[Nat.add_mul,Nat.mul_comm c p,Nat.mul_right_comm a 4294967296 4294967296,Nat.mul_assoc a 4294967296 4294967296,Nat.mul_assoc p,Nat.mul_assoc p,Nat.mul_assoc p]
  rw[Nat.mul_assoc a (4294967296*4294967296) p,Nat.mul_assoc b 4294967296 p,Nat.mul_comm (4294967296*4294967296) p,Nat.mul_comm 4294967296 p,<-Nat.mul_assoc a p,<-Nat.mul_assoc b p,Nat.mul_comm a p,Nat.mul_comm b p,Nat.mul_assoc p a,Nat.mul_assoc p b,Nat.mul_comm a,Nat.mul_comm b]
  rw[Nat.mul_assoc 4294967296 4294967296 a]
  omega
 rw[f2,f1,Nat.add_mul]
 generalize 4294967296^m=p
 generalize v.getD (m+1) default=b
 generalize v.getD m default=c
 rw[Nat.mul_comm c p,Nat.mul_assoc b 4294967296 p,Nat.mul_comm 4294967296 p,<-Nat.mul_assoc b p,Nat.mul_comm b p,Nat.mul_assoc p b,Nat.mul_assoc p 4294967296 b,Nat.mul_comm b]
 omega
theorem tA {P u:List Nat} {k:Nat} (hP:P.length=k):(P++u.drop k).getD k default=u.getD k default:=by
 subst hP
 rw[List.getD_eq_getElem?_getD,List.getD_eq_getElem?_getD,List.getElem?_append_right (Nat.le_refl _),Nat.sub_self,List.getElem?_drop,Nat.add_zero]
theorem pS {P u:List Nat} {k z:Nat} (hP:P.length=k) (hk:k<u.length):(P++u.drop k).set k z=(P++[z])++u.drop (k+1):=by
 subst hP
 rw[List.set_append_right (h:=Nat.le_refl _),Nat.sub_self,gW hk]
 simp
end Go.Vm
namespace Go.Proofs.YtlhdigjbokkbiaaGreat.W
open Go.Vg Go.RowKit _root_.Go.Proofs.Tryz
open Go.Vm
theorem bGr (u c:Nat):sb u c<18446744073709551616:=Nat.mod_lt _ dC
theorem wsb {u c:Nat} (hu:u<18446744073709551616) (hc:c<18446744073709551616):IntKind.u64.wrap ((u:Int)-(c:Int))=(((u+18446744073709551616-c)%18446744073709551616:Nat):Int):=by
 rw[aAe];omega
theorem aLm (x:Nat):(x:Int).fdiv (2^(min (63:Int).toNat IntKind.u64.bits))=((x/9223372036854775808:Nat):Int):=by
 rw[Int.fdiv_eq_ediv_of_nonneg _ dC]
 show(x:Int)/(2^63:Int)=_
 omega
theorem bGs {w:World} {Dx:Nat->TypeId->Prop} {vx:Value} {x:List Nat} (hx0:Sg (gN .u32) Dx w vx x) (lmx:Lm x) (lnx:x.length<=1099511627776) {Dy:Nat->TypeId->Prop} {vy:Value} {y:List Nat} (hy0:Sg (gN .u32) Dy w vy y) (lmy:Lm y) (lny:y.length<=1099511627776):
 Calls Tryz.prog 146 #[vx,vy] w λe w'=>∃v,e= .returned v∧Sg (gN .u32) (λb T=>w.heap.size<=b∧T=131) w' v (aB (val x+val y))∧Ext w w':=by
 have hE:Below w.heap.size w w:=Below.refl _ _
 have hx:=hx0.old
 clear hx0
 have hy:=hy0.old
 clear hy0
 have hlvx:=bJ lmx
 have hlvy:=bJ lmy
 refine bH (n:=62) (rs:=[.tmp 4]) func146 rfl rfl rfl bL ?_
 refine cV λF0 hF0=>?_
 refine wsr (aS (v:=(.slice none (0) (0))) rfl (RL.nil (wsr (mV (v:=vx) (hF0 0) ?_))))
 refine cL eN (fW hx (by assumption) (by first|omega|(simp;done)|(simp;omega))) rfl ?_
 rintro vr2 _ ⟨hr3,rfl⟩
 have hlv4:=bJ (x:=x) (by assumption)
 refine mV (v:=vy) (hF0 1) ?_
 refine cL eN (fW hy (by assumption) (by first|omega|(simp;done)|(simp;omega))) rfl ?_
 rintro vr6 _ ⟨hr7,rfl⟩
 have hlv8:=bJ (x:=y) (by assumption)
 refine aS (v:=vr2) rfl (aS (v:=vr6) rfl (RL.nil ?_))
 refine cV λF9 hF10=>?_
 refine oI (λfl wl=>∃A:List Nat,∃B:List Nat,∃va:Value,∃vb:Value,Off (rg 0 2 (rg 13 7 [])) F9 fl∧fl 0=va∧fl 1=vb∧(Lm A)∧(Lm B)∧(B.length<=A.length)∧(A.length<=1099511627776)∧(val A+val B=val x+val y)∧(Sg (gN .u32) (λb T=>(Dx b T∨Dy b T)∧b<w.heap.size) wl va A)∧(Sg (gN .u32) (λb T=>(Dx b T∨Dy b T)∧b<w.heap.size) wl vb B)∧(Sg (gN .u32) (λb T=>Dx b T∧b<w.heap.size) wl vx x)∧(Sg (gN .u32) (λb T=>Dy b T∧b<w.heap.size) wl vy y)∧(Below w.heap.size w wl)∧(Sg (gN .u32) (λb T=>Dx b T∧b<w.heap.size) wl vr2 (aB (val x)))∧(Sg (gN .u32) (λb T=>Dy b T∧b<w.heap.size) wl vr6 (aB (val y)))) ?_ ?_
 ·have hoff11:=Off.refl (rg 0 2 (rg 13 7 [])) F9
  refine wsr (mV (v:=vr2) (hF10 0) ?_)
  obtain⟨A12,c13,hv14,hc15,hc16⟩:=hr3.len
  refine rV (cK bE hv14) (mV (v:=vr6) (hF10 1) ?_)
  obtain⟨A17,c18,hv19,hc20,hc21⟩:=hr7.len
  refine rV (cK bE hv19) (rV (eQ (k:=.i64) (a:=(((aB (val x)).length:Nat):Int)) (b:=(((aB (val y)).length:Nat):Int)) rfl rfl) (RL.nil ?_))
  refine wcD (p:=(((aB (val x)).length:Nat):Int)<(((aB (val y)).length:Nat):Int)) rfl (λhb22 hb22p=>?_) (λhb22 hb22p=>?_)
  ·refine aV ?_
   refine mV (v:=vr6) (hF10 1) (mV (v:=vr2) (hF10 0) (aS (v:=vr6) rfl (aS (v:=vr2) rfl (RL.nil ?_))))
   refine⟨(aB (val y)),(aB (val x)),vr6,vr2,?_,?_,?_,?_,?_,?_,?_,?_,?_,?_,?_,?_,?_,?_,?_⟩
   ·exact(by repeat (first|exact hoff11|refine Off.st ?_ dC _))
   ·rfl
   ·rfl
   ·exact aR _
   ·exact aR _
   ·omega
   ·omega
   ·simp only[aW];try omega
   ·exact hr7.mono (λb T h=>⟨by first|exact .inl h.1|exact .inr h.1,h.2⟩)
   ·exact hr3.mono (λb T h=>⟨by first|exact .inl h.1|exact .inr h.1,h.2⟩)
   ·exact hx
   ·exact hy
   ·exact hE
   ·exact hr3
   exact hr7
  refine bW ?_
  refine⟨(aB (val x)),(aB (val y)),vr2,vr6,?_,?_,?_,?_,?_,?_,?_,?_,?_,?_,?_,?_,?_,?_,?_⟩
  ·exact(by repeat (first|exact hoff11|refine Off.st ?_ dC _))
  ·refine((hF10 0)).trans ?_
   rfl
  ·refine((hF10 1)).trans ?_
   rfl
  ·exact aR _
  ·exact aR _
  ·omega
  ·omega
  ·simp only[aW];try omega
  ·exact hr3.mono (λb T h=>⟨by first|exact .inl h.1|exact .inr h.1,h.2⟩)
  ·exact hr7.mono (λb T h=>⟨by first|exact .inl h.1|exact .inr h.1,h.2⟩)
  ·exact hx
  ·exact hy
  ·exact hE
  ·exact hr3
  exact hr7
 clear hx hy hE hr3 hr7
 rintro f23 w24 ⟨A,B,va,vb,hoff25,hs26,hs27,lmA,lmB,hBA,hlA,hsum,hA,hB,hx,hy,hE,hr3,hr7⟩
 refine wsr (mV hs26 ?_)
 obtain⟨A28,c29,hv30,hc31,hc32⟩:=hA.len
 refine rV (cK bE hv30) (rV (dP (k:=.i64) (a:=((A.length:Nat):Int)) (b:=1) (c:=((A.length:Nat):Int)+1) rfl rfl (dJ oM)) ?_)
 have hn38:(((A.length:Nat):Int)+1:Int)=((A.length+1:Nat):Int):=by omega
 refine rU (jY (n:=A.length+1) bE bM rfl (aQ hn38) (aQ hn38) oM oM) ?_
 rintro _ w33 ⟨b34,rfl,hs37,hb36,he35⟩
 have ge_b34:=hE.ge hs37
 replace hE:=hE.nx he35
 replace hb36:=Ar.made (g:=(gN .u32)) (z:=(0:Nat)) hb36 rfl
 have hb36l:=hb36.lt
 refine aS (v:=(.slice (some ⟨b34,0,none⟩) (A.length+1) (A.length+1))) rfl (RL.nil (wsr (aS (v:=(.int .u64 0)) rfl (RL.nil (bB ?_)))))
 refine wsr (mV hs26 (rV (cK bE hv30) (mV (v:=(iv 0)) rfl (RL.nil ?_))))
 refine cF ?_
 refine cV λF39 hF40=>?_
 refine fU (σ:=Nat×Nat×List Nat) (λ(s:Nat×Nat×List Nat) fl wl=>match s with|(k,c,P)=>Off (rg 6 3 (rg 26 28 [])) F39 fl∧fl 26=(iv k)∧fl 6=(.int .u64 (c:Int))∧(k<=A.length)∧(P.length=k)∧(Lm P)∧(c<=1)∧(val P+4294967296^k*c=val (A.take k)+val (B.take k))∧(Ar (gN .u32) wl b34 131 0 (eY P (A.length+1)) (A.length+1))∧(Sg (gN .u32) (λb T=>Dx b T∧b<w.heap.size) wl vx x)∧(Sg (gN .u32) (λb T=>Dy b T∧b<w.heap.size) wl vy y)∧(Below w.heap.size w wl)∧(Sg (gN .u32) (λb T=>Dx b T∧b<w.heap.size) wl vr2 (aB (val x)))∧(Sg (gN .u32) (λb T=>Dy b T∧b<w.heap.size) wl vr6 (aB (val y)))∧(Sg (gN .u32) (λb T=>(Dx b T∨Dy b T)∧b<w.heap.size) wl va A)∧(Sg (gN .u32) (λb T=>(Dx b T∨Dy b T)∧b<w.heap.size) wl vb B)) (λ(s:Nat×Nat×List Nat)=>match s with|(k,c,P)=>A.length-k) (0,0,[]) ?_ ?_
 ·replace hx:=hx.tr (Sm.ext he35)
  replace hy:=hy.tr (Sm.ext he35)
  replace hr3:=hr3.tr (Sm.ext he35)
  replace hr7:=hr7.tr (Sm.ext he35)
  replace hA:=hA.tr (Sm.ext he35)
  replace hB:=hB.tr (Sm.ext he35)
  exact⟨Off.refl _ _,(hF40 26).trans (rfl),(hF40 6).trans (rfl),Nat.zero_le _,rfl,Lm.nil,Nat.zero_le _,rfl,(by rw[jK];exact hb36),hx,hy,hE,hr3,hr7,hA,hB⟩
 clear hx hy hE hr3 hr7 hA hB hb36
 rintro⟨k,c,P⟩ f41 w42 ⟨hoff43,hs44,hs45,hk,hP,hLm,hc,hv,hb36,hx,hy,hE,hr3,hr7,hA,hB⟩
 refine wsr (rV (eQ (k:=.i64) (a:=(k:Int)) (b:=((A.length:Nat):Int)) hs44 ((hoff43 25 rfl).trans (hF40 25))) (RL.nil (bB ?_)))
 refine wcD (p:=(k:Int)<((A.length:Nat):Int)) rfl (λhb46 hb46p=>?_) (λhb46 hb46p=>?_)
 ·refine bW ?_
  refine bB ?_
  refine cF ?_
  refine bB ?_
  have hkl:k<A.length:=by omega
  have hak:=lmA.at hkl
  have hbk:=kH lmB k
  refine aV (mV hs44 ?_)
  obtain⟨b47,o48,c49,hv50,hc51⟩:=hA.ix (i:=(k:Int)) (k) oM oM
  refine rV (aJ (i:=(k:Int)) bE bM ((((hoff43 24 rfl).trans (hF40 24))).trans hv50) hs44 oM oM) (rV (aY (v:=(.int .u32 (((A.getD (k) default:Nat):Int)))) bN dR rfl hc51) (aS (v:=(iv k)) rfl (aS (v:=(.int .u32 (((A.getD (k) default:Nat):Int)))) rfl (RL.nil (wsr ?_)))))
  refine mV hs45 (mV (v:=(.int .u32 (((A.getD (k) default:Nat):Int)))) rfl (rV (bR (k:=.u64) (a:=((A.getD (k) default:Nat):Int)) (c:=((A.getD (k) default:Nat):Int)) bN dB rfl (cX oM)) (rV (dP (k:=.u64) (a:=(c:Int)) (b:=((A.getD (k) default:Nat):Int)) (c:=(c:Int)+((A.getD (k) default:Nat):Int)) rfl rfl (cX oM)) (aS (v:=(.int .u64 ((c:Int)+((A.getD (k) default:Nat):Int)))) rfl (RL.nil ?_)))))
  refine cV λF52 hF53=>?_
  refine oI (λfl wl=>Off (6::(rg 35 11 [])) F52 fl∧fl 6=(.int .u64 ((((c+A.getD k default+dig B k):Nat):Int)))∧(Sg (gN .u32) (λb T=>Dx b T∧b<w.heap.size) wl vx x)∧(Sg (gN .u32) (λb T=>Dy b T∧b<w.heap.size) wl vy y)∧(Below w.heap.size w wl)∧(Sg (gN .u32) (λb T=>Dx b T∧b<w.heap.size) wl vr2 (aB (val x)))∧(Sg (gN .u32) (λb T=>Dy b T∧b<w.heap.size) wl vr6 (aB (val y)))∧(Sg (gN .u32) (λb T=>(Dx b T∨Dy b T)∧b<w.heap.size) wl va A)∧(Sg (gN .u32) (λb T=>(Dx b T∨Dy b T)∧b<w.heap.size) wl vb B)∧(Ar (gN .u32) wl b34 131 0 (eY P (A.length+1)) (A.length+1))) ?_ ?_
  ·have hoff54:=Off.refl (6::(rg 35 11 [])) F52
   refine wsr (mV (v:=(iv k)) (hF53 7) (mV (v:=vb) ((hF53 1).trans ((hoff43 1 rfl).trans ((hF40 1).trans hs27))) ?_))
   obtain⟨A55,c56,hv57,hc58,hc59⟩:=hB.len
   refine rV (cK bE hv57) (rV (eQ (k:=.i64) (a:=(k:Int)) (b:=((B.length:Nat):Int)) rfl rfl) (RL.nil ?_))
   refine wcD (p:=(k:Int)<((B.length:Nat):Int)) rfl (λhb60 hb60p=>?_) (λhb60 hb60p=>?_)
   ·refine aV ?_
    refine mV (v:=(.int .u64 ((c:Int)+((A.getD (k) default:Nat):Int)))) (hF53 6) (mV (v:=vb) ((hF53 1).trans ((hoff43 1 rfl).trans ((hF40 1).trans hs27))) (mV (v:=(iv k)) (hF53 7) ?_))
    obtain⟨b61,o62,c63,hv64,hc65⟩:=hB.ix (i:=(k:Int)) (k) oM oM
    refine rV (aJ (i:=(k:Int)) bE bM hv64 rfl oM oM) (rV (aY (v:=(.int .u32 (((B.getD (k) default:Nat):Int)))) bN dR rfl hc65) (rV (bR (k:=.u64) (a:=((B.getD (k) default:Nat):Int)) (c:=((B.getD (k) default:Nat):Int)) bN dB rfl (cX (by have:=lmB.at (k:=k) oM;omega))) (rV (dP (k:=.u64) (a:=(c:Int)+((A.getD (k) default:Nat):Int)) (b:=((B.getD (k) default:Nat):Int)) (c:=((c:Int)+((A.getD (k) default:Nat):Int))+((B.getD (k) default:Nat):Int)) rfl rfl (cX (by have:=lmB.at (k:=k) oM;omega))) (aS (v:=(.int .u64 (((c:Int)+((A.getD (k) default:Nat):Int))+((B.getD (k) default:Nat):Int)))) rfl (RL.nil ?_)))))
    refine⟨?_,?_,?_,?_,?_,?_,?_,?_,?_,?_⟩
    ·exact(by repeat (first|exact hoff54|refine Off.st ?_ dC _|refine Off.via hoff43 dC ?_|refine Off.eq hF40 ?_|refine Off.via hoff25 dC ?_|refine Off.eq hF10 ?_))
    ·first|exact aQ (by rw[gV (xs:=B) oM];omega)|exact aQ (by rw[kQ (xs:=B) oM];omega)
    ·exact hx
    ·exact hy
    ·exact hE
    ·exact hr3
    ·exact hr7
    ·exact hA
    ·exact hB
    exact hb36
   refine bW ?_
   refine⟨?_,?_,?_,?_,?_,?_,?_,?_,?_,?_⟩
   ·exact(by repeat (first|exact hoff54|refine Off.st ?_ dC _|refine Off.via hoff43 dC ?_|refine Off.eq hF40 ?_|refine Off.via hoff25 dC ?_|refine Off.eq hF10 ?_))
   ·refine((hF53 6)).trans ?_
    first|exact aQ (by rw[gV (xs:=B) oM];omega)|exact aQ (by rw[kQ (xs:=B) oM];omega)
   ·exact hx
   ·exact hy
   ·exact hE
   ·exact hr3
   ·exact hr7
   ·exact hA
   ·exact hB
   exact hb36
  clear hx hy hE hr3 hr7 hA hB hb36
  rintro f66 w67 ⟨hoff68,hs69,hx,hy,hE,hr3,hr7,hA,hB,hb36⟩
  refine wsr (mV (v:=(.slice (some ⟨b34,0,none⟩) (A.length+1) (A.length+1))) ((hoff68 5 rfl).trans ((hF53 5).trans ((hoff43 5 rfl).trans (hF40 5)))) (mV (v:=(iv k)) ((hoff68 7 rfl).trans (hF53 7)) (mV hs69 (rV (bR (k:=.u32) (a:=(((c+A.getD k default+dig B k):Nat):Int)) (c:=(((c+A.getD k default+dig B k)%4294967296:Nat):Int)) dB bN rfl (cu32 _)) (rV (aJ (i:=(k:Int)) bE bM rfl rfl oM oM) ?_)))))
  refine RL.runs rfl rfl (oN (g:=(gN .u32)) (vv:=(.int .u32 ((((c+A.getD k default+dig B k)%4294967296:Nat):Int)))) (u:=(c+A.getD k default+dig B k)%4294967296) (i:=(k:Int)) bM rfl rfl rfl rfl rfl hb36 (k) oM oM) ?_
  rintro w70 ⟨ha71,hx72⟩
  replace hE:=hE.nb hx72 ge_b34
  replace hb36:=ha71
  refine RL.nil (aV (mV hs69 (rV (jM (k:=.u64) (a:=(((c+A.getD k default+dig B k):Nat):Int)) (b:=32) (c:=(((c+A.getD k default+dig B k)/4294967296:Nat):Int)) rfl rfl dC (shr32 _)) (aS (v:=(.int .u64 ((((c+A.getD k default+dig B k)/4294967296:Nat):Int)))) rfl (RL.nil ?_)))))
  refine aV (rV (dP (k:=.i64) (a:=(k:Int)) (b:=1) (c:=(k:Int)+1) ((hoff68 26 rfl).trans ((hF53 26).trans hs44)) rfl (dJ oM)) (mV (v:=(iv ((k:Int)+1))) rfl (RL.nil ?_)))
  replace hx:=hx.tr (Sm.exc hx72 (λ_ _ _ _ hd=>absurd hd.2 (Nat.not_lt_of_le ge_b34)))
  replace hy:=hy.tr (Sm.exc hx72 (λ_ _ _ _ hd=>absurd hd.2 (Nat.not_lt_of_le ge_b34)))
  replace hr3:=hr3.tr (Sm.exc hx72 (λ_ _ _ _ hd=>absurd hd.2 (Nat.not_lt_of_le ge_b34)))
  replace hr7:=hr7.tr (Sm.exc hx72 (λ_ _ _ _ hd=>absurd hd.2 (Nat.not_lt_of_le ge_b34)))
  replace hA:=hA.tr (Sm.exc hx72 (λ_ _ _ _ hd=>absurd hd.2 (Nat.not_lt_of_le ge_b34)))
  replace hB:=hB.tr (Sm.exc hx72 (λ_ _ _ _ hd=>absurd hd.2 (Nat.not_lt_of_le ge_b34)))
  refine⟨(k+1,(c+A.getD k default+dig B k)/4294967296,P++[(c+A.getD k default+dig B k)%4294967296]),⟨?_,?_,?_,?_,?_,?_,?_,?_,?_,?_,?_,?_,?_,?_,?_,?_⟩,?_⟩
  ·exact(by repeat (first|exact hoff43|refine Off.st ?_ dC _|refine Off.via hoff68 dC ?_|refine Off.eq hF53 ?_|refine Off.via hoff25 dC ?_|refine Off.eq hF10 ?_))
  ·first|rfl|exact aQ oM|exact aD (by simp)
  ·first|rfl|exact aQ oM|exact aD (by simp)
  ·omega
  ·rw[List.length_append,hP];rfl
  ·exact hLm.snoc (Nat.mod_lt _ dC)
  ·omega
  ·rw[bI hkl,gU];exact aAh hP hv
  ·rw[gM hP oM] at hb36;exact hb36
  ·exact hx
  ·exact hy
  ·exact hE
  ·exact hr3
  ·exact hr7
  ·exact hA
  ·exact hB
  (try dsimp only)
  omega
 refine fB ?_
 refine wsr (mV (v:=(.slice (some ⟨b34,0,none⟩) (A.length+1) (A.length+1))) ((hoff43 5 rfl).trans (hF40 5)) (mV (v:=va) ((hoff43 0 rfl).trans ((hF40 0).trans hs26)) (rV (cK bE hv30) (mV hs45 (rV (bR (k:=.u32) (a:=(c:Int)) (c:=((c%4294967296:Nat):Int)) dB bN rfl (cu32 _)) ?_)))))
 refine rV (aJ (i:=((A.length:Nat):Int)) bE bM rfl rfl oM oM) ?_
 refine RL.runs rfl rfl (oN (g:=(gN .u32)) (vv:=(.int .u32 (((c%4294967296:Nat):Int)))) (u:=c%4294967296) (i:=((A.length:Nat):Int)) bM rfl rfl rfl rfl rfl hb36 (A.length) oM oM) ?_
 rintro w73 ⟨ha74,hx75⟩
 replace hE:=hE.nb hx75 ge_b34
 replace hb36:=ha74
 refine RL.nil (bB ?_)
 have hka:k=A.length:=by omega
 rw[gM oM oM,iF (by simp;omega)] at hb36
 have hfin:val (P++[c%4294967296])=val x+val y:=by
  rw[eS,hP,hka,Nat.mod_eq_of_lt oM,<-hsum]
  rw[hka,List.take_of_length_le (Nat.le_refl _),List.take_of_length_le hBA] at hv
  exact hv
 have hPl:=hLm.snoc (x:=c%4294967296) (Nat.mod_lt _ dC)
 refine aV (mV (v:=(.slice (some ⟨b34,0,none⟩) (A.length+1) (A.length+1))) ((hoff43 5 rfl).trans (hF40 5)) ?_)
 refine cL eN (fW (hb36.sc (D:=(λb T=>w.heap.size<=b∧T=131)) (Nat.le_refl _) oM ⟨ge_b34,rfl⟩) hPl (by first|omega|(simp;done)|(simp;omega))) rfl ?_
 rintro vr77 _ ⟨hr78,rfl⟩
 have hlv79:=bJ (x:=(P++[c%4294967296])) hPl
 refine aS (v:=vr77) rfl (RL.nil ?_)
 refine cE ?_
 refine⟨[vr77],⟨rfl,trivial⟩,?_⟩
 have hres:=hr78
 rw[hfin] at hres
 exact⟨hres,hE⟩
theorem aLn {w:World} {Dx:Nat->TypeId->Prop} {vx:Value} {x:List Nat} (hx0:Sg (gN .u32) Dx w vx x) (lmx:Lm x) (lnx:x.length<=1099511627776) {Dy:Nat->TypeId->Prop} {vy:Value} {y:List Nat} (hy0:Sg (gN .u32) Dy w vy y) (lmy:Lm y) (lny:y.length<=1099511627776):
 Calls Tryz.prog 147 #[vx,vy] w λe w'=>∃v,e= .returned v∧(∃vr,v= .tuple #[vr,.bool (decide (val y<=val x))]∧Sg (gN .u32) (λb T=>w.heap.size<=b∧T=131) w' vr (aB (val x-val y)))∧Ext w w':=by
 have hE:Below w.heap.size w w:=Below.refl _ _
 have hx:=hx0.old
 clear hx0
 have hy:=hy0.old
 clear hy0
 have hlvx:=bJ lmx
 have hlvy:=bJ lmy
 refine bH (n:=54) (rs:=[.tmp 4,.tmp 5]) func147 rfl rfl rfl bL ?_
 refine cV λF0 hF0=>?_
 refine wsr (aS (v:=(.slice none (0) (0))) rfl (aS (v:=(.bool false)) rfl (RL.nil (wsr (mV (v:=vx) (hF0 0) ?_)))))
 refine cL eN (fW hx (by assumption) (by first|omega|(simp;done)|(simp;omega))) rfl ?_
 rintro vr2 _ ⟨hr3,rfl⟩
 have hlv4:=bJ (x:=x) (by assumption)
 refine mV (v:=vy) (hF0 1) ?_
 refine cL eN (fW hy (by assumption) (by first|omega|(simp;done)|(simp;omega))) rfl ?_
 rintro vr6 _ ⟨hr7,rfl⟩
 have hlv8:=bJ (x:=y) (by assumption)
 refine aS (v:=vr2) rfl (aS (v:=vr6) rfl (RL.nil (bB (wsr (mV (v:=vr2) rfl ?_)))))
 refine mV (v:=vr6) rfl ?_
 refine cL mU (gO hr3 (aR _) oS hr7 (aR _) oS) rfl ?_
 rintro vq12 w9 ⟨hq11,he10⟩
 simp only[aW] at hq11
 subst hq11
 replace hE:=hE.nx he10
 refine rV (eQ (k:=.i64) (a:=cmpI (((val x):Nat):Int) (((val y):Nat):Int)) (b:=0) rfl rfl) (RL.nil ?_)
 refine wcD (p:=(cmpI (((val x):Nat):Int) (((val y):Nat):Int))<0) rfl (λhb13 hb13p=>?_) (λhb13 hb13p=>?_)
 ·have hlt:val x<val y:=by have:=cmpI_neg.1 hb13p;omega
  refine wsr (aS (v:=(.slice none (0) (0))) rfl (aS (v:=(.bool false)) rfl (RL.nil ?_)))
  refine cE ?_
  refine⟨[(.slice none (0) (0)),(.bool false)],⟨rfl,⟨rfl,trivial⟩⟩,?_⟩
  exact⟨⟨_,by rw[decide_eq_false oM];rfl,by rw[show val x-val y=0 by omega];exact Sg.nil⟩,hE⟩
 have hge:val y<=val x:=by rcases Nat.lt_or_ge (val x) (val y) with h|h;exact absurd (cmpI_neg.2 oM) hb13p;exact h
 have hlen:(aB (val y)).length<=(aB (val x)).length:=cH hge
 refine bW ?_
 refine wsr (mV (v:=vr2) rfl ?_)
 obtain⟨A14,c15,hv16,hc17,hc18⟩:=hr3.len
 refine rV (cK bE hv16) ?_
 have hn24:((((aB (val x)).length:Nat):Int):Int)=(((aB (val x)).length:Nat):Int):=by omega
 refine rU (jY (n:=(aB (val x)).length) bE bM rfl (aQ hn24) (aQ hn24) oM oM) ?_
 rintro _ w19 ⟨b20,rfl,hs23,hb22,he21⟩
 have ge_b20:=hE.ge hs23
 replace hE:=hE.nx he21
 replace hb22:=Ar.made (g:=(gN .u32)) (z:=(0:Nat)) hb22 rfl
 have hb22l:=hb22.lt
 refine aS (v:=(.slice (some ⟨b20,0,none⟩) ((aB (val x)).length) ((aB (val x)).length))) rfl (RL.nil (wsr (aS (v:=(.int .u64 0)) rfl (RL.nil (bB ?_)))))
 refine wsr (mV (v:=vr2) rfl (rV (cK bE hv16) (mV (v:=(iv 0)) rfl (RL.nil ?_))))
 refine cF ?_
 refine cV λF25 hF26=>?_
 refine fU (σ:=Nat×Nat×List Nat) (λ(s:Nat×Nat×List Nat) fl wl=>match s with|(k,c,P)=>Off (rg 7 4 (rg 24 28 [])) F25 fl∧fl 24=(iv k)∧fl 7=(.int .u64 (c:Int))∧(k<=(aB (val x)).length)∧(P.length=k)∧(Lm P)∧(c<=1)∧(val P+val ((aB (val y)).take k)=val ((aB (val x)).take k)+4294967296^k*c)∧(Ar (gN .u32) wl b20 131 0 (eY P (aB (val x)).length) ((aB (val x)).length))∧(Sg (gN .u32) (λb T=>Dx b T∧b<w.heap.size) wl vx x)∧(Sg (gN .u32) (λb T=>Dy b T∧b<w.heap.size) wl vy y)∧(Below w.heap.size w wl)∧(Sg (gN .u32) (λb T=>Dx b T∧b<w.heap.size) wl vr2 (aB (val x)))∧(Sg (gN .u32) (λb T=>Dy b T∧b<w.heap.size) wl vr6 (aB (val y)))) (λ(s:Nat×Nat×List Nat)=>match s with|(k,c,P)=>(aB (val x)).length-k) (0,0,[]) ?_ ?_
 ·replace hx:=hx.tr (Sm.ext (Ext.trans he10 he21))
  replace hy:=hy.tr (Sm.ext (Ext.trans he10 he21))
  replace hr3:=hr3.tr (Sm.ext (Ext.trans he10 he21))
  replace hr7:=hr7.tr (Sm.ext (Ext.trans he10 he21))
  exact⟨Off.refl _ _,(hF26 24).trans (rfl),(hF26 7).trans (rfl),Nat.zero_le _,rfl,Lm.nil,Nat.zero_le _,rfl,(by rw[jK];exact hb22),hx,hy,hE,hr3,hr7⟩
 clear hx hy hE hr3 hr7 hb22
 rintro⟨k,c,P⟩ f27 w28 ⟨hoff29,hs30,hs31,hk,hP,hLm,hc,hv,hb22,hx,hy,hE,hr3,hr7⟩
 refine wsr (rV (eQ (k:=.i64) (a:=(k:Int)) (b:=(((aB (val x)).length:Nat):Int)) hs30 ((hoff29 23 rfl).trans (hF26 23))) (RL.nil (bB ?_)))
 refine wcD (p:=(k:Int)<(((aB (val x)).length:Nat):Int)) rfl (λhb32 hb32p=>?_) (λhb32 hb32p=>?_)
 ·refine bW ?_
  refine bB ?_
  refine cF ?_
  refine bB ?_
  have hxk:=(aR (val x)).at (k:=k) oM
  have hyk:=kH (aR (val y)) k
  have hsb:=aUj hxk hc hyk
  refine aV (mV hs30 ?_)
  obtain⟨b33,o34,c35,hv36,hc37⟩:=hr3.ix (i:=(k:Int)) (k) oM oM
  refine rV (aJ (i:=(k:Int)) bE bM ((((hoff29 22 rfl).trans (hF26 22))).trans hv36) hs30 oM oM) (rV (aY (v:=(.int .u32 ((((aB (val x)).getD (k) default:Nat):Int)))) bN dR rfl hc37) (aS (v:=(iv k)) rfl (aS (v:=(.int .u32 ((((aB (val x)).getD (k) default:Nat):Int)))) rfl (RL.nil (wsr ?_)))))
  refine mV (v:=(.int .u32 ((((aB (val x)).getD (k) default:Nat):Int)))) rfl (rV (bR (k:=.u64) (a:=(((aB (val x)).getD (k) default:Nat):Int)) (c:=(((aB (val x)).getD (k) default:Nat):Int)) bN dB rfl (cX oM)) (mV hs31 (rV (eH (k:=.u64) (a:=(((aB (val x)).getD (k) default:Nat):Int)) (b:=(c:Int)) (c:=((sb ((aB (val x)).getD k default) c:Nat):Int)) rfl rfl (wsb oM oM)) (aS (v:=(.int .u64 (((sb ((aB (val x)).getD k default) c:Nat):Int)))) rfl (RL.nil ?_)))))
  refine cV λF38 hF39=>?_
  refine oI (λfl wl=>Off (10::(rg 33 11 [])) F38 fl∧fl 10=(.int .u64 ((((sb2 ((aB (val x)).getD k default) c (dig (aB (val y)) k)):Nat):Int)))∧(Sg (gN .u32) (λb T=>Dx b T∧b<w.heap.size) wl vx x)∧(Sg (gN .u32) (λb T=>Dy b T∧b<w.heap.size) wl vy y)∧(Below w.heap.size w wl)∧(Sg (gN .u32) (λb T=>Dx b T∧b<w.heap.size) wl vr2 (aB (val x)))∧(Sg (gN .u32) (λb T=>Dy b T∧b<w.heap.size) wl vr6 (aB (val y)))∧(Ar (gN .u32) wl b20 131 0 (eY P (aB (val x)).length) ((aB (val x)).length))) ?_ ?_
  ·have hoff40:=Off.refl (10::(rg 33 11 [])) F38
   refine wsr (mV (v:=(iv k)) (hF39 8) (mV (v:=vr6) ((hF39 1).trans ((hoff29 1 rfl).trans (hF26 1))) ?_))
   obtain⟨A41,c42,hv43,hc44,hc45⟩:=hr7.len
   refine rV (cK bE hv43) (rV (eQ (k:=.i64) (a:=(k:Int)) (b:=(((aB (val y)).length:Nat):Int)) rfl rfl) (RL.nil ?_))
   refine wcD (p:=(k:Int)<(((aB (val y)).length:Nat):Int)) rfl (λhb46 hb46p=>?_) (λhb46 hb46p=>?_)
   ·refine aV ?_
    refine mV (v:=(.int .u64 (((sb ((aB (val x)).getD k default) c:Nat):Int)))) (hF39 10) (mV (v:=vr6) ((hF39 1).trans ((hoff29 1 rfl).trans (hF26 1))) (mV (v:=(iv k)) (hF39 8) ?_))
    obtain⟨b47,o48,c49,hv50,hc51⟩:=hr7.ix (i:=(k:Int)) (k) oM oM
    refine rV (aJ (i:=(k:Int)) bE bM hv50 rfl oM oM) (rV (aY (v:=(.int .u32 ((((aB (val y)).getD (k) default:Nat):Int)))) bN dR rfl hc51) (rV (bR (k:=.u64) (a:=(((aB (val y)).getD (k) default:Nat):Int)) (c:=(((aB (val y)).getD (k) default:Nat):Int)) bN dB rfl (cX (by have:=(aR (val y)).at (k:=k) oM;omega))) (rV (eH (k:=.u64) (a:=((sb ((aB (val x)).getD k default) c:Nat):Int)) (b:=(((aB (val y)).getD (k) default:Nat):Int)) (c:=((sb2 ((aB (val x)).getD k default) c ((aB (val y)).getD k default):Nat):Int)) rfl rfl (wsb (bGr _ _) (by have:=(aR (val y)).at (k:=k) oM;omega))) (aS (v:=(.int .u64 (((sb2 ((aB (val x)).getD k default) c ((aB (val y)).getD k default):Nat):Int)))) rfl (RL.nil ?_)))))
    refine⟨?_,?_,?_,?_,?_,?_,?_,?_⟩
    ·exact(by repeat (first|exact hoff40|refine Off.st ?_ dC _|refine Off.via hoff29 dC ?_|refine Off.eq hF26 ?_))
    ·first|exact aQ (by rw[gV (xs:=aB (val y)) oM])|exact aQ (by rw[kQ (xs:=aB (val y)) oM,aGe])
    ·exact hx
    ·exact hy
    ·exact hE
    ·exact hr3
    ·exact hr7
    exact hb22
   refine bW ?_
   refine⟨?_,?_,?_,?_,?_,?_,?_,?_⟩
   ·exact(by repeat (first|exact hoff40|refine Off.st ?_ dC _|refine Off.via hoff29 dC ?_|refine Off.eq hF26 ?_))
   ·refine((hF39 10)).trans ?_
    first|exact aQ (by rw[gV (xs:=aB (val y)) oM])|exact aQ (by rw[kQ (xs:=aB (val y)) oM,aGe])
   ·exact hx
   ·exact hy
   ·exact hE
   ·exact hr3
   ·exact hr7
   exact hb22
  clear hx hy hE hr3 hr7 hb22
  rintro f52 w53 ⟨hoff54,hs55,hx,hy,hE,hr3,hr7,hb22⟩
  refine wsr (mV (v:=(.slice (some ⟨b20,0,none⟩) ((aB (val x)).length) ((aB (val x)).length))) ((hoff54 6 rfl).trans ((hF39 6).trans ((hoff29 6 rfl).trans (hF26 6)))) (mV (v:=(iv k)) ((hoff54 8 rfl).trans (hF39 8)) (mV (v:=(.int .u64 ((((sb2 ((aB (val x)).getD k default) c (dig (aB (val y)) k)):Nat):Int)))) hs55 (rV (bR (k:=.u32) (a:=(((sb2 ((aB (val x)).getD k default) c (dig (aB (val y)) k)):Nat):Int)) (c:=(((sb2 ((aB (val x)).getD k default) c (dig (aB (val y)) k))%4294967296:Nat):Int)) dB bN rfl (cu32 _)) (rV (aJ (i:=(k:Int)) bE bM rfl rfl oM oM) ?_)))))
  refine RL.runs rfl rfl (oN (g:=(gN .u32)) (vv:=(.int .u32 ((((sb2 ((aB (val x)).getD k default) c (dig (aB (val y)) k))%4294967296:Nat):Int)))) (u:=(sb2 ((aB (val x)).getD k default) c (dig (aB (val y)) k))%4294967296) (i:=(k:Int)) bM rfl rfl rfl rfl rfl hb22 (k) oM oM) ?_
  rintro w56 ⟨ha57,hx58⟩
  replace hE:=hE.nb hx58 ge_b20
  replace hb22:=ha57
  refine RL.nil (aV (mV (v:=(.int .u64 ((((sb2 ((aB (val x)).getD k default) c (dig (aB (val y)) k)):Nat):Int)))) hs55 (rV (jM (k:=.u64) (a:=(((sb2 ((aB (val x)).getD k default) c (dig (aB (val y)) k)):Nat):Int)) (b:=63) (c:=(((sb2 ((aB (val x)).getD k default) c (dig (aB (val y)) k))/9223372036854775808:Nat):Int)) rfl rfl dC (aLm _)) (aS (v:=(.int .u64 ((((sb2 ((aB (val x)).getD k default) c (dig (aB (val y)) k))/9223372036854775808:Nat):Int)))) rfl (RL.nil ?_)))))
  refine aV (rV (dP (k:=.i64) (a:=(k:Int)) (b:=1) (c:=(k:Int)+1) ((hoff54 24 rfl).trans ((hF39 24).trans hs30)) rfl (dJ oM)) (mV (v:=(iv ((k:Int)+1))) rfl (RL.nil ?_)))
  replace hx:=hx.tr (Sm.exc hx58 (λ_ _ _ _ hd=>absurd hd.2 (Nat.not_lt_of_le ge_b20)))
  replace hy:=hy.tr (Sm.exc hx58 (λ_ _ _ _ hd=>absurd hd.2 (Nat.not_lt_of_le ge_b20)))
  replace hr3:=hr3.tr (Sm.exc hx58 (λ_ _ _ _ hd=>absurd hd.2 (Nat.not_lt_of_le ge_b20)))
  replace hr7:=hr7.tr (Sm.exc hx58 (λ_ _ _ _ hd=>absurd hd.2 (Nat.not_lt_of_le ge_b20)))
  refine⟨(k+1,(if (aB (val x)).getD k default<c+dig (aB (val y)) k then 1 else 0),P++[((aB (val x)).getD k default+4294967296-(c+dig (aB (val y)) k))%4294967296]),⟨?_,?_,?_,?_,?_,?_,?_,?_,?_,?_,?_,?_,?_,?_⟩,?_⟩
  ·exact(by repeat (first|exact hoff29|refine Off.st ?_ dC _|refine Off.via hoff54 dC ?_|refine Off.eq hF39 ?_))
  ·first|rfl|exact aQ oM|exact aD (by simp)
  ·exact aQ (by rw[hsb.2])
  ·omega
  ·rw[List.length_append,hP];rfl
  ·exact hLm.snoc (Nat.mod_lt _ dC)
  ·split<;>omega
  ·rw[gU,bI (xs:=aB (val x)) oM];exact aAi hP hv hxk hyk hc
  ·rw[hsb.1,gM hP oM] at hb22;exact hb22
  ·exact hx
  ·exact hy
  ·exact hE
  ·exact hr3
  ·exact hr7
  (try dsimp only)
  omega
 refine fB ?_
 refine bB ?_
 have hkm:k=(aB (val x)).length:=by omega
 rw[iF oM] at hb22
 have hfin:=aFy hLm hP oM oM (by rw[aW,aW];exact hge) hv
 rw[aW,aW] at hfin
 refine aV (mV (v:=(.slice (some ⟨b20,0,none⟩) ((aB (val x)).length) ((aB (val x)).length))) ((hoff29 6 rfl).trans (hF26 6)) ?_)
 refine cL eN (fW (hb22.sc (D:=(λb T=>w.heap.size<=b∧T=131)) (Nat.le_refl _) oM ⟨ge_b20,rfl⟩) hLm (by first|omega|(simp;done)|(simp;omega))) rfl ?_
 rintro vr60 _ ⟨hr61,rfl⟩
 have hlv62:=bJ (x:=P) hLm
 refine aS (v:=vr60) rfl (aS (v:=(.bool true)) rfl (RL.nil ?_))
 refine cE ?_
 refine⟨[vr60,(.bool true)],⟨rfl,⟨rfl,trivial⟩⟩,?_⟩
 have hres:=hr61
 rw[hfin] at hres
 exact⟨⟨_,by rw[decide_eq_true hge];rfl,hres⟩,hE⟩
theorem aAq {w:World} {Dx:Nat->TypeId->Prop} {vx:Value} {x:List Nat} (hx0:Sg (gN .u32) Dx w vx x) (lmx:Lm x) (lnx:x.length<=1099511627776) {Dy:Nat->TypeId->Prop} {vy:Value} {y:List Nat} (hy0:Sg (gN .u32) Dy w vy y) (lmy:Lm y) (lny:y.length<=1099511627776):
 Calls Tryz.prog 85 #[vx,vy] w λe w'=>∃v,e= .returned v∧Sg (gN .u32) (λb T=>w.heap.size<=b∧T=131) w' v (aB (val x*val y))∧Ext w w':=by
 have hE:Below w.heap.size w w:=Below.refl _ _
 have hx:=hx0.old
 clear hx0
 have hy:=hy0.old
 clear hy0
 have hlvx:=bJ lmx
 have hlvy:=bJ lmy
 refine bH (n:=81) (rs:=[.tmp 4]) func85 rfl rfl rfl bL ?_
 refine cV λF0 hF0=>?_
 refine wsr (aS (v:=(.slice none (0) (0))) rfl (RL.nil (wsr (mV (v:=vx) (hF0 0) ?_))))
 refine cL eN (fW hx (by assumption) (by first|omega|(simp;done)|(simp;omega))) rfl ?_
 rintro vr2 _ ⟨hr3,rfl⟩
 have hlv4:=bJ (x:=x) (by assumption)
 refine mV (v:=vy) (hF0 1) ?_
 refine cL eN (fW hy (by assumption) (by first|omega|(simp;done)|(simp;omega))) rfl ?_
 rintro vr6 _ ⟨hr7,rfl⟩
 have hlv8:=bJ (x:=y) (by assumption)
 refine aS (v:=vr2) rfl (aS (v:=vr6) rfl (RL.nil (bB (wsr (mV (v:=vr2) rfl ?_)))))
 obtain⟨A9,c10,hv11,hc12,hc13⟩:=hr3.len
 refine rV (cK bE hv11) (rV (iW (k:=.i64) (a:=(((aB (val x)).length:Nat):Int)) (b:=0) rfl rfl) (mV (v:=(bd ((((aB (val x)).length:Nat):Int)=0))) rfl ?_))
 rcases bD ((((aB (val x)).length:Nat):Int)=0) with ⟨hb14,hb14p⟩|⟨hb14,hb14p⟩
 ·have hxz:val x=0:=eB.1 (by unfold len;omega)
  refine RL.gno rfl rfl (aD hb14) rfl dC ?_
  refine RL.gno rfl rfl (aD hb14) rfl dC ?_
  refine RL.gno rfl rfl (aD hb14) rfl dC ?_
  refine rV (dV (v:=(.bool true)) (aD hb14) rfl) (RL.nil ?_)
  refine lK rfl ?_
  refine wsr (aS (v:=(.slice none (0) (0))) rfl (RL.nil ?_))
  refine cE ?_
  refine⟨[(.slice none (0) (0))],⟨rfl,trivial⟩,?_⟩
  rw[show val x*val y=0 by first|(rw[hxz,Nat.zero_mul])|(rw[eB.1 (show len (val y)=0 by unfold len;omega),Nat.mul_zero])]
  exact⟨Sg.nil,hE⟩
 refine RL.gval rfl rfl (aD hb14) rfl dC (aG (v:=vr6) rfl) ?_
 obtain⟨A15,c16,hv17,hc18,hc19⟩:=hr7.len
 refine RL.gval rfl rfl (aD hb14) rfl dC (cK bE hv17) ?_
 refine RL.gval rfl rfl (aD hb14) rfl dC (iW (k:=.i64) (a:=(((aB (val y)).length:Nat):Int)) (b:=0) rfl rfl) ?_
 refine rV (eP (v:=(bd ((((aB (val y)).length:Nat):Int)=0))) (aD hb14) rfl) (RL.nil ?_)
 refine wcD (p:=(((aB (val y)).length:Nat):Int)=0) rfl (λhb20 hb20p=>?_) (λhb20 hb20p=>?_)
 ·refine wsr ?_
  refine aS (v:=(.slice none (0) (0))) rfl (RL.nil ?_)
  refine cE ?_
  refine⟨[(.slice none (0) (0))],⟨rfl,trivial⟩,?_⟩
  rw[show val x*val y=0 by first|(rw[hxz,Nat.zero_mul])|(rw[eB.1 (show len (val y)=0 by unfold len;omega),Nat.mul_zero])]
  exact⟨Sg.nil,hE⟩
 refine bW ?_
 refine wsr (mV (v:=vr2) rfl (rV (cK bE hv11) (mV (v:=vr6) rfl (rV (cK bE hv17) (rV (dP (k:=.i64) (a:=(((aB (val x)).length:Nat):Int)) (b:=(((aB (val y)).length:Nat):Int)) (c:=(((aB (val x)).length:Nat):Int)+(((aB (val y)).length:Nat):Int)) rfl rfl (dJ oM)) ?_)))))
 have hn26:((((aB (val x)).length:Nat):Int)+(((aB (val y)).length:Nat):Int):Int)=(((aB (val x)).length+(aB (val y)).length:Nat):Int):=by omega
 refine rU (jY (n:=(aB (val x)).length+(aB (val y)).length) bE bM rfl (aQ hn26) (aQ hn26) oM oM) ?_
 rintro _ w21 ⟨b22,rfl,hs25,hb24,he23⟩
 have ge_b22:=hE.ge hs25
 replace hE:=hE.nx he23
 replace hb24:=Ar.made (g:=(gN .u32)) (z:=(0:Nat)) hb24 rfl
 have hb24l:=hb24.lt
 refine aS (v:=(.slice (some ⟨b22,0,none⟩) ((aB (val x)).length+(aB (val y)).length) ((aB (val x)).length+(aB (val y)).length))) rfl (RL.nil (bB (wsr (mV (v:=vr2) rfl (rV (cK bE hv11) ?_)))))
 refine mV (v:=(iv 0)) rfl (RL.nil ?_)
 refine cF ?_
 refine cV λF27 hF28=>?_
 refine fU (σ:=Nat×List Nat) (λ(s:Nat×List Nat) fl wl=>match s with|(i,O)=>Off (rg 6 5 (rg 31 48 [])) F27 fl∧fl 31=(iv i)∧(i<=(aB (val x)).length)∧(O.length=(aB (val x)).length+(aB (val y)).length)∧(Lm O)∧(∀j,i+(aB (val y)).length<=j->j<O.length->O.getD j default=0)∧(val (O.take (i+(aB (val y)).length))=val ((aB (val x)).take i)*val (aB (val y)))∧(Ar (gN .u32) wl b22 131 0 O ((aB (val x)).length+(aB (val y)).length))∧(Sg (gN .u32) (λb T=>Dx b T∧b<w.heap.size) wl vx x)∧(Sg (gN .u32) (λb T=>Dy b T∧b<w.heap.size) wl vy y)∧(Below w.heap.size w wl)∧(Sg (gN .u32) (λb T=>Dx b T∧b<w.heap.size) wl vr2 (aB (val x)))∧(Sg (gN .u32) (λb T=>Dy b T∧b<w.heap.size) wl vr6 (aB (val y)))) (λ(s:Nat×List Nat)=>match s with|(i,O)=>(aB (val x)).length-i) (0,List.replicate ((aB (val x)).length+(aB (val y)).length) 0) ?_ ?_
 ·replace hx:=hx.tr (Sm.ext he23)
  replace hy:=hy.tr (Sm.ext he23)
  replace hr3:=hr3.tr (Sm.ext he23)
  replace hr7:=hr7.tr (Sm.ext he23)
  exact⟨Off.refl _ _,(hF28 31).trans (rfl),Nat.zero_le _,by simp,Lm.zeros _,(λj _ hj=>by rw[List.getD_eq_getElem?_getD,List.getElem?_replicate];split<;>rfl),(by rw[List.take_replicate,rE];simp[val]),hb24,hx,hy,hE,hr3,hr7⟩
 clear hx hy hE hr3 hr7 hb24
 rintro⟨i,O⟩ f29 w30 ⟨hoff31,hs32,hi,hOl,hOm,hz,hv,hb24,hx,hy,hE,hr3,hr7⟩
 refine wsr (rV (eQ (k:=.i64) (a:=(i:Int)) (b:=(((aB (val x)).length:Nat):Int)) hs32 ((hoff31 30 rfl).trans (hF28 30))) (RL.nil (bB ?_)))
 refine wcD (p:=(i:Int)<(((aB (val x)).length:Nat):Int)) rfl (λhb33 hb33p=>?_) (λhb33 hb33p=>?_)
 ·refine bW ?_
  refine bB ?_
  refine cF ?_
  refine bB ?_
  have hxi:=(aR (val x)).at (k:=i) oM
  refine aV (mV hs32 ?_)
  obtain⟨b34,o35,c36,hv37,hc38⟩:=hr3.ix (i:=(i:Int)) (i) oM oM
  refine rV (aJ (i:=(i:Int)) bE bM ((((hoff31 29 rfl).trans (hF28 29))).trans hv37) hs32 oM oM) (rV (aY (v:=(.int .u32 ((((aB (val x)).getD (i) default:Nat):Int)))) bN dR rfl hc38) (aS (v:=(iv i)) rfl (aS (v:=(.int .u32 ((((aB (val x)).getD (i) default:Nat):Int)))) rfl (RL.nil (bB ?_)))))
  refine wsr (mV (v:=(.int .u32 ((((aB (val x)).getD (i) default:Nat):Int)))) rfl (rV (iW (k:=.u32) (a:=(((aB (val x)).getD (i) default:Nat):Int)) (b:=0) rfl rfl) (RL.nil ?_)))
  refine wcD (p:=(((aB (val x)).getD (i) default:Nat):Int)=0) rfl (λhb39 hb39p=>?_) (λhb39 hb39p=>?_)
  ·have hx0:(aB (val x)).getD i default=0:=by have:=hb39p;omega
   refine fB ?_
   refine aV (rV (dP (k:=.i64) (a:=(i:Int)) (b:=1) (c:=(i:Int)+1) hs32 rfl (dJ oM)) (mV (v:=(iv ((i:Int)+1))) rfl (RL.nil ?_)))
   refine⟨(i+1,O),⟨?_,?_,?_,?_,?_,?_,?_,?_,?_,?_,?_,?_,?_⟩,?_⟩
   ·exact(by repeat (first|exact hoff31|refine Off.st ?_ dC _))
   ·first|rfl|exact aQ oM|exact aD (by simp)
   ·omega
   ·exact hOl
   ·exact hOm
   ·exact λj h1 h2=>hz j oM h2
   ·exact aLk oM hOl hv hz hx0
   ·exact hb24
   ·exact hx
   ·exact hy
   ·exact hE
   ·exact hr3
   ·exact hr7
   (try dsimp only)
   omega
  refine bW ?_
  refine wsr (aS (v:=(.int .u64 0)) rfl (RL.nil (bB (wsr (mV (v:=vr6) ((hoff31 1 rfl).trans (hF28 1)) ?_)))))
  refine rV (cK bE hv17) (mV (v:=(iv 0)) rfl (RL.nil ?_))
  refine cF ?_
  refine cV λF40 hF41=>?_
  refine fU (σ:=Nat×Nat×List Nat) (λ(s:Nat×Nat×List Nat) fl wl=>match s with|(k,c,Q)=>Off (rg 8 3 (rg 40 30 [])) F40 fl∧fl 40=(iv k)∧fl 8=(.int .u64 (c:Int))∧(k<=(aB (val y)).length)∧(Q.length=k)∧(Lm Q)∧(c<4294967296)∧(val Q+4294967296^k*c=val ((O.drop i).take k)+(aB (val x)).getD i default*val ((aB (val y)).take k))∧(Ar (gN .u32) wl b22 131 0 (gX O Q i) ((aB (val x)).length+(aB (val y)).length))∧(Sg (gN .u32) (λb T=>Dx b T∧b<w.heap.size) wl vx x)∧(Sg (gN .u32) (λb T=>Dy b T∧b<w.heap.size) wl vy y)∧(Below w.heap.size w wl)∧(Sg (gN .u32) (λb T=>Dx b T∧b<w.heap.size) wl vr2 (aB (val x)))∧(Sg (gN .u32) (λb T=>Dy b T∧b<w.heap.size) wl vr6 (aB (val y)))) (λ(s:Nat×Nat×List Nat)=>match s with|(k,c,Q)=>(aB (val y)).length-k) (0,0,[]) ?_ ?_
  ·exact⟨Off.refl _ _,(hF41 40).trans (rfl),(hF41 8).trans (rfl),Nat.zero_le _,rfl,Lm.nil,by decide,rfl,(by rw[aAj];exact hb24),hx,hy,hE,hr3,hr7⟩
  clear hx hy hE hr3 hr7 hb24
  rintro⟨k,c,Q⟩ f42 w43 ⟨hoff44,hs45,hs46,hk,hQ,hQm,hc,hQv,hb24,hx,hy,hE,hr3,hr7⟩
  refine wsr (rV (eQ (k:=.i64) (a:=(k:Int)) (b:=(((aB (val y)).length:Nat):Int)) hs45 ((hoff44 39 rfl).trans (hF41 39))) (RL.nil (bB ?_)))
  refine wcD (p:=(k:Int)<(((aB (val y)).length:Nat):Int)) rfl (λhb47 hb47p=>?_) (λhb47 hb47p=>?_)
  ·refine bW ?_
   refine bB ?_
   refine cF ?_
   refine bB ?_
   have hyk:=(aR (val y)).at (k:=k) oM
   have hok:=hOm.at (k:=i+k) oM
   have hxy:=mS hxi hyk
   obtain⟨p,hp⟩:∃p,p=(aB (val x)).getD i default*(aB (val y)).getD k default:=⟨_,rfl⟩
   rw[<-hp] at hxy
   refine aV (mV hs45 ?_)
   obtain⟨b48,o49,c50,hv51,hc52⟩:=hr7.ix (i:=(k:Int)) (k) oM oM
   refine rV (aJ (i:=(k:Int)) bE bM ((((hoff44 38 rfl).trans (hF41 38))).trans hv51) hs45 oM oM) (rV (aY (v:=(.int .u32 ((((aB (val y)).getD (k) default:Nat):Int)))) bN dR rfl hc52) (aS (v:=(iv k)) rfl (aS (v:=(.int .u32 ((((aB (val y)).getD (k) default:Nat):Int)))) rfl (RL.nil (wsr ?_)))))
   refine mV hs46 (mV (v:=(.int .u32 ((((aB (val x)).getD (i) default:Nat):Int)))) ((hoff44 7 rfl).trans (hF41 7)) (rV (bR (k:=.u64) (a:=(((aB (val x)).getD (i) default:Nat):Int)) (c:=(((aB (val x)).getD (i) default:Nat):Int)) bN dB rfl (cX oM)) (mV (v:=(.int .u32 ((((aB (val y)).getD (k) default:Nat):Int)))) rfl (rV (bR (k:=.u64) (a:=(((aB (val y)).getD (k) default:Nat):Int)) (c:=(((aB (val y)).getD (k) default:Nat):Int)) bN dB rfl (cX oM)) (rV (jX (k:=.u64) (a:=(((aB (val x)).getD (i) default:Nat):Int)) (b:=(((aB (val y)).getD (k) default:Nat):Int)) (c:=(((aB (val x)).getD i default*(aB (val y)).getD k default:Nat):Int)) rfl rfl ((cX (by rw[<-Int.natCast_mul,<-hp];omega)).trans (by rw[Int.natCast_mul]))) ?_)))))
   refine mV (v:=(.slice (some ⟨b22,0,none⟩) ((aB (val x)).length+(aB (val y)).length) ((aB (val x)).length+(aB (val y)).length))) ((hoff44 5 rfl).trans ((hF41 5).trans ((hoff31 5 rfl).trans (hF28 5)))) (mV (v:=(iv i)) ((hoff44 6 rfl).trans (hF41 6)) (mV (v:=(iv k)) rfl (rV (dP (k:=.i64) (a:=(i:Int)) (b:=(k:Int)) (c:=(i:Int)+(k:Int)) rfl rfl (dJ oM)) (rV (aJ (i:=(i:Int)+(k:Int)) bE bM rfl rfl oM oM) ?_))))
   have hc53:=hb24.cell (i:=(i:Int)+(k:Int)) (i+k) oM oM
   rw[show(gX O Q i).getD (i+k) default=O.getD (i+k) default from (aFz hQ oM)] at hc53
   refine rV (aY (v:=(.int .u32 (((O.getD (i+k) default:Nat):Int)))) bN dR rfl hc53) (rV (bR (k:=.u64) (a:=((O.getD (i+k) default:Nat):Int)) (c:=((O.getD (i+k) default:Nat):Int)) bN dB rfl (cX oM)) (rV (dP (k:=.u64) (a:=(((aB (val x)).getD i default*(aB (val y)).getD k default:Nat):Int)) (b:=((O.getD (i+k) default:Nat):Int)) (c:=((O.getD (i+k) default+(aB (val x)).getD i default*(aB (val y)).getD k default:Nat):Int)) rfl rfl ((cX (by rw[<-hp];omega)).trans oM)) (rV (dP (k:=.u64) (a:=(c:Int)) (b:=((O.getD (i+k) default+(aB (val x)).getD i default*(aB (val y)).getD k default:Nat):Int)) (c:=((c+(O.getD (i+k) default+(aB (val x)).getD i default*(aB (val y)).getD k default):Nat):Int)) rfl rfl ((cX (by rw[<-hp];omega)).trans oM)) (aS (v:=(.int .u64 (((c+(O.getD (i+k) default+(aB (val x)).getD i default*(aB (val y)).getD k default):Nat):Int)))) rfl (RL.nil ?_)))))
   refine wsr (mV (v:=(.slice (some ⟨b22,0,none⟩) ((aB (val x)).length+(aB (val y)).length) ((aB (val x)).length+(aB (val y)).length))) ((hoff44 5 rfl).trans ((hF41 5).trans ((hoff31 5 rfl).trans (hF28 5)))) (mV (v:=(iv i)) ((hoff44 6 rfl).trans (hF41 6)) (mV (v:=(iv k)) rfl (rV (dP (k:=.i64) (a:=(i:Int)) (b:=(k:Int)) (c:=(i:Int)+(k:Int)) rfl rfl (dJ oM)) (mV (v:=(.int .u64 (((c+(O.getD (i+k) default+(aB (val x)).getD i default*(aB (val y)).getD k default):Nat):Int)))) rfl ?_)))))
   refine rV (bR (k:=.u32) (a:=((c+(O.getD (i+k) default+(aB (val x)).getD i default*(aB (val y)).getD k default):Nat):Int)) (c:=(((c+(O.getD (i+k) default+(aB (val x)).getD i default*(aB (val y)).getD k default))%4294967296:Nat):Int)) dB bN rfl (cu32 _)) (rV (aJ (i:=(i:Int)+(k:Int)) bE bM rfl rfl oM oM) ?_)
   refine RL.runs rfl rfl (oN (g:=(gN .u32)) (vv:=(.int .u32 ((((c+(O.getD (i+k) default+(aB (val x)).getD i default*(aB (val y)).getD k default))%4294967296:Nat):Int)))) (u:=(c+(O.getD (i+k) default+(aB (val x)).getD i default*(aB (val y)).getD k default))%4294967296) (i:=(i:Int)+(k:Int)) bM rfl rfl rfl rfl rfl hb24 (i+k) oM oM) ?_
   rintro w54 ⟨ha55,hx56⟩
   replace hE:=hE.nb hx56 ge_b22
   replace hb24:=ha55
   refine RL.nil (aV (mV (v:=(.int .u64 (((c+(O.getD (i+k) default+(aB (val x)).getD i default*(aB (val y)).getD k default):Nat):Int)))) rfl (rV (jM (k:=.u64) (a:=((c+(O.getD (i+k) default+(aB (val x)).getD i default*(aB (val y)).getD k default):Nat):Int)) (b:=32) (c:=(((c+(O.getD (i+k) default+(aB (val x)).getD i default*(aB (val y)).getD k default))/4294967296:Nat):Int)) rfl rfl dC (shr32 _)) (aS (v:=(.int .u64 ((((c+(O.getD (i+k) default+(aB (val x)).getD i default*(aB (val y)).getD k default))/4294967296:Nat):Int)))) rfl (RL.nil ?_)))))
   refine aV (rV (dP (k:=.i64) (a:=(k:Int)) (b:=1) (c:=(k:Int)+1) hs45 rfl (dJ oM)) (mV (v:=(iv ((k:Int)+1))) rfl (RL.nil ?_)))
   replace hx:=hx.tr (Sm.exc hx56 (λ_ _ _ _ hd=>absurd hd.2 (Nat.not_lt_of_le ge_b22)))
   replace hy:=hy.tr (Sm.exc hx56 (λ_ _ _ _ hd=>absurd hd.2 (Nat.not_lt_of_le ge_b22)))
   replace hr3:=hr3.tr (Sm.exc hx56 (λ_ _ _ _ hd=>absurd hd.2 (Nat.not_lt_of_le ge_b22)))
   replace hr7:=hr7.tr (Sm.exc hx56 (λ_ _ _ _ hd=>absurd hd.2 (Nat.not_lt_of_le ge_b22)))
   refine⟨(k+1,(c+(O.getD (i+k) default+(aB (val x)).getD i default*(aB (val y)).getD k default))/4294967296,Q++[(c+(O.getD (i+k) default+(aB (val x)).getD i default*(aB (val y)).getD k default))%4294967296]),⟨?_,?_,?_,?_,?_,?_,?_,?_,?_,?_,?_,?_,?_,?_⟩,?_⟩
   ·exact(by repeat (first|exact hoff44|refine Off.st ?_ dC _|refine Off.via hoff31 dC ?_|refine Off.eq hF28 ?_))
   ·first|rfl|exact aQ oM|exact aD (by simp)
   ·first|rfl|exact aQ oM|exact aD (by simp)
   ·omega
   ·rw[List.length_append,hQ];rfl
   ·exact hQm.snoc (Nat.mod_lt _ dC)
   ·omega
   ·exact pO hQ oM oM hQv
   ·rw[pN hQ oM] at hb24;exact hb24
   ·exact hx
   ·exact hy
   ·exact hE
   ·exact hr3
   ·exact hr7
   (try dsimp only)
   omega
  refine fB ?_
  have hky:k=(aB (val y)).length:=by omega
  have hQe:val Q+4294967296^(aB (val y)).length*c=val ((O.drop i).take (aB (val y)).length)+(aB (val x)).getD i default*val (aB (val y)):=by rw[hky,List.take_of_length_le (Nat.le_refl (aB (val y)).length)] at hQv;exact hQv
  refine aV (mV (v:=(.slice (some ⟨b22,0,none⟩) ((aB (val x)).length+(aB (val y)).length) ((aB (val x)).length+(aB (val y)).length))) ((hoff44 5 rfl).trans ((hF41 5).trans ((hoff31 5 rfl).trans (hF28 5)))) (mV (v:=(iv i)) ((hoff44 6 rfl).trans (hF41 6)) (mV (v:=vr6) ((hoff44 1 rfl).trans ((hF41 1).trans ((hoff31 1 rfl).trans (hF28 1)))) (rV (cK bE hv17) (rV (dP (k:=.i64) (a:=(i:Int)) (b:=(((aB (val y)).length:Nat):Int)) (c:=(i:Int)+(((aB (val y)).length:Nat):Int)) rfl rfl (dJ oM)) ?_)))))
  refine mV hs46 (rV (bR (k:=.u32) (a:=(c:Int)) (c:=((c%4294967296:Nat):Int)) dB bN rfl (cu32 _)) (rV (aJ (i:=(i:Int)+(((aB (val y)).length:Nat):Int)) bE bM rfl rfl oM oM) ?_))
  refine RL.runs rfl rfl (oN (g:=(gN .u32)) (vv:=(.int .u32 (((c%4294967296:Nat):Int)))) (u:=c) (i:=(i:Int)+(((aB (val y)).length:Nat):Int)) bM rfl rfl (aQ oM) rfl rfl hb24 (i+(aB (val y)).length) oM oM) ?_
  rintro w57 ⟨ha58,hx59⟩
  replace hE:=hE.nb hx59 ge_b22
  replace hb24:=ha58
  refine RL.nil (aV (rV (dP (k:=.i64) (a:=(i:Int)) (b:=1) (c:=(i:Int)+1) ((hoff44 31 rfl).trans ((hF41 31).trans hs32)) rfl (dJ oM)) (mV (v:=(iv ((i:Int)+1))) rfl (RL.nil ?_))))
  replace hx:=hx.tr (Sm.exc hx59 (λ_ _ _ _ hd=>absurd hd.2 (Nat.not_lt_of_le ge_b22)))
  replace hy:=hy.tr (Sm.exc hx59 (λ_ _ _ _ hd=>absurd hd.2 (Nat.not_lt_of_le ge_b22)))
  replace hr3:=hr3.tr (Sm.exc hx59 (λ_ _ _ _ hd=>absurd hd.2 (Nat.not_lt_of_le ge_b22)))
  replace hr7:=hr7.tr (Sm.exc hx59 (λ_ _ _ _ hd=>absurd hd.2 (Nat.not_lt_of_le ge_b22)))
  refine⟨(i+1,gX O (Q++[c]) i),⟨?_,?_,?_,?_,?_,?_,?_,?_,?_,?_,?_,?_,?_⟩,?_⟩
  ·exact(by repeat (first|exact hoff31|refine Off.st ?_ dC _|refine Off.via hoff44 dC ?_|refine Off.eq hF41 ?_))
  ·first|rfl|exact aQ oM|exact aD (by simp)
  ·omega
  ·rw[iL (by simp;omega)];exact hOl
  ·exact aGa hOm (hQm.snoc oM)
  ·exact uA (by simp;omega) oM hz
  ·exact aGb (n:=0) oM oM hOl hv hQe
  ·rw[pN (k:=(aB (val y)).length) oM oM] at hb24;exact hb24
  ·exact hx
  ·exact hy
  ·exact hE
  ·exact hr3
  ·exact hr7
  (try dsimp only)
  omega
 refine fB ?_
 refine bB ?_
 have hix:i=(aB (val x)).length:=by omega
 have hfin:val O=val x*val y:=by rw[hix,List.take_of_length_le oM,List.take_of_length_le (Nat.le_refl _),aW,aW] at hv;exact hv
 refine aV (mV (v:=(.slice (some ⟨b22,0,none⟩) ((aB (val x)).length+(aB (val y)).length) ((aB (val x)).length+(aB (val y)).length))) ((hoff31 5 rfl).trans (hF28 5)) ?_)
 refine cL eN (fW (hb24.sc (D:=(λb T=>w.heap.size<=b∧T=131)) (Nat.le_refl _) oM ⟨ge_b22,rfl⟩) hOm (by first|omega|(simp;done)|(simp;omega))) rfl ?_
 rintro vr61 _ ⟨hr62,rfl⟩
 have hlv63:=bJ (x:=O) hOm
 refine aS (v:=vr61) rfl (RL.nil ?_)
 refine cE ?_
 refine⟨[vr61],⟨rfl,trivial⟩,?_⟩
 have hres:=hr62
 rw[hfin] at hres
 exact⟨hres,hE⟩
end Go.Proofs.YtlhdigjbokkbiaaGreat.W
