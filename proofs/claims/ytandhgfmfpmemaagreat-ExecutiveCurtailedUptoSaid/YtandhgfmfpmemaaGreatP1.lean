/- ExecutiveCurtailed, second form: for arguments of bulk at most 1048576 the law returns true and the arguments read as before; no other condition. Part 1 of 7: Vga Vgb Vgc Vgd Vge Vgf Vgg Vgh Vya Vyb Vyc Vyd Vye Vyf Vyg Vyh. -/
import Derived.WalkKit
import Derived.ProofKit
import Derived.OrdersHeld
import Derived.WalkSpells
import Derived.Maps.AppendAt
import Derived.Laws.StructEq
set_option linter.unusedVariables false
set_option linter.unusedSimpArgs false
namespace Go.Vg
theorem _root_.Go.oM {p:Prop} (h:p:=by omega):p:=h
theorem _root_.Go.dC {p:Prop} (h:p:=by decide):p:=h
theorem _root_.Go.kR {p:Prop} (h:p:=by kernel_rfl):p:=h
theorem _root_.Go.oS {p:Prop} (h:p:=by first|omega|simp):p:=h
theorem _root_.Go.bL {a b:Nat} (h:Nat.ble a b=true:=by rfl):a≤b:=Nat.le_of_ble_eq_true h
open Go.RowKit
def Fm (n:Nat) (f:Nat→Value) (a:Act):Prop:=a.defers=[]∧a.tmps.size=n∧∀i,a.tmps.getD i undef=f i
def st (f:Nat→Value) (d:Nat) (v:Value):Nat→Value:=fun i=>match Nat.beq i d with
 |true=>v
 |false=>f i
theorem beq_no {i d:Nat} (h:i≠d):Nat.beq i d=false:=by
 cases e:Nat.beq i d with
 |false=>rfl
 |true=>exact absurd (Nat.eq_of_beq_eq_true e) h
def ev (f:Nat→Value):Operand→Value
 |.tmp t=>f t
 |.const v=>v
 |.global g=> .pointer (some ⟨g,0,none⟩)
 |.func k=> .func (.func k) #[] #[]
theorem Fm.eval {n:Nat} {f:Nat→Value} {a:Act} (h:Fm n f a):a.eval=ev f:=by
 funext x
 cases x with
 |tmp t=>exact h.2.2 t
 |const v=>rfl
 |global g=>rfl
 |func k=>rfl
theorem st_same (f:Nat→Value) (d:Nat) (v:Value):st f d v d=v:=by simp[st]
theorem st_other (f:Nat→Value) (d i:Nat) (v:Value) (h:i≠d):st f d v i=f i:=by
 have:Nat.beq i d=false:=beq_no h
 simp[st,this]
theorem Fm.put {n:Nat} {f:Nat→Value} {a:Act} (h:Fm n f a) {d:Nat} (hd:d<n) (v:Value):Fm n (st f d v) (a.put (some d) v):=by
 refine⟨h.1,by simp[Act.put,h.2.1],fun i=>?_⟩
 by_cases hi:i=d
 ·subst hi
  rw[st_same]
  simp[Act.put,h.2.1,hd]
 rw[st_other _ _ _ _ hi,←h.2.2 i]
 simp[Act.put,Array.getElem?_setIfInBounds_ne (Ne.symm hi)]
structure Po where
 nrm:(Nat→Value)→World→Prop
 ext:Nat→(Nat→Value)→World→Prop
 ret:(Nat→Value)→World→Prop
def up (n:Nat) (Q:Po):Exit→Act→World→Prop
 |.normal,a,w=>∃f,Fm n f a∧Q.nrm f w
 |.exit i,a,w=>∃f,Fm n f a∧Q.ext i f w
 |.ret,a,w=>∃f,Fm n f a∧Q.ret f w
 |_,_,_=>False
def WP (P:Program) (n:Nat) (c:Code) (Q:Po) (f:Nat→Value) (w:World):Prop:=∀a,Fm n f a→c.wp P (up n Q) a w
section rules
variable {P:Program} {n:Nat} {Q:Po} {f:Nat→Value} {w:World}
theorem wskip (h:Q.nrm f w):WP P n .skip Q f w:=fun a ha=>wp_skip ⟨f,ha,h⟩
theorem wexit {i:Nat} (h:Q.ext i f w):WP P n (.exit i) Q f w:=fun a ha=>wp_exit ⟨f,ha,h⟩
theorem wret (h:Q.ret f w):WP P n .ret Q f w:=fun a ha=>wp_ret ⟨f,ha,h⟩
theorem wmono {c:Code} {Q':Po} (h:WP P n c Q f w) (h1:∀f w,Q.nrm f w→Q'.nrm f w) (h2:∀i f w,Q.ext i f w→Q'.ext i f w) (h3:∀f w,Q.ret f w→Q'.ret f w):WP P n c Q' f w:=
 fun a ha=>wp_mono (h a ha) fun e a w hq=>by
  cases e with
  |normal=>obtain⟨f,hf,hh⟩:=hq;exact⟨f,hf,h1 f w hh⟩
  |exit i=>obtain⟨f,hf,hh⟩:=hq;exact⟨f,hf,h2 i f w hh⟩
  |ret=>obtain⟨f,hf,hh⟩:=hq;exact⟨f,hf,h3 f w hh⟩
  |goto l=>exact hq
  |panic c=>exact hq
  |outgrown=>exact hq
theorem wseq {x y:Code} (h:WP P n x ⟨fun f w=>WP P n y Q f w,Q.ext,Q.ret⟩ f w):WP P n (.seq x y) Q f w:=fun a ha=>
 wp_seq (wp_mono (h a ha) fun e a w hq=>by
  cases e with
  |normal=>obtain⟨f,hf,hh⟩:=hq;exact hh a hf
  |exit i=>exact hq
  |ret=>exact hq
  |goto l=>exact hq
  |panic c=>exact hq
  |outgrown=>exact hq)
theorem wcut {x y:Code} (M:(Nat→Value)→World→Prop) (h:WP P n x ⟨M,Q.ext,Q.ret⟩ f w) (h2:∀f w,M f w→WP P n y Q f w):WP P n (.seq x y) Q f w:=
 wseq (wmono h h2 (fun _ _ _ h=>h) (fun _ _ h=>h))
theorem wcond {c:Operand} {x y:Code} {b:Bool} (hc:ev f c= .bool b) (ht:b=true→WP P n x Q f w) (he:b=false→WP P n y Q f w):WP P n (.cond c x y) Q f w:=fun a ha=>
 wp_cond_split (t:=b) (by rw[ha.eval];exact hc) (fun h=>ht h a ha) (fun h=>he h a ha)
theorem wcond_t {c:Operand} {x y:Code} (hc:ev f c= .bool true) (ht:WP P n x Q f w):WP P n (.cond c x y) Q f w:=wcond hc (fun _=>ht) (fun h=>by cases h)
theorem wcond_f {c:Operand} {x y:Code} (hc:ev f c= .bool false) (he:WP P n y Q f w):WP P n (.cond c x y) Q f w:=wcond hc (fun h=>by cases h) (fun _=>he)
theorem wblock {id:Nat} {c:Code} (h:WP P n c ⟨Q.nrm,fun j f w=>match Nat.beq j id with|true=>Q.nrm f w|false=>Q.ext j f w,Q.ret⟩ f w):WP P n (.block id c) Q f w:=fun a ha=>
 wp_block (wp_mono (h a ha) fun e a w hq=>by
  cases e with
  |normal=>exact hq
  |exit i=>
   obtain⟨f,hf,hh⟩:=hq
   show if i=id then _ else _
   by_cases hi:i=id
   ·have hb:Nat.beq i id=true:=by simpa using hi
    simp only[hb] at hh
    rw[if_pos hi]
    exact⟨f,hf,hh⟩
   have hb:Nat.beq i id=false:=beq_no hi
   simp only[hb] at hh
   rw[if_neg hi]
   exact⟨f,hf,hh⟩
  |ret=>exact hq
  |goto l=>exact hq
  |panic c=>exact hq
  |outgrown=>exact hq)
theorem wloop {σ:Type} {c:Code} (I:σ→(Nat→Value)→World→Prop) (μ:σ→Nat) (s0:σ) (h0:I s0 f w)
 (hr:∀s f w,I s f w→WP P n c ⟨fun f' w'=>∃s',I s' f' w'∧μ s'<μ s,Q.ext,Q.ret⟩ f w):WP P n (.loop c) Q f w:=by
 intro a ha b kk cs
 have key:∀k s f w a,μ s=k→I s f w→Fm n f a→
  ∃e a' w',up n Q e a' w'∧Arrives P (lone (b.at a (.code c::.inLoop c::kk)) cs w) b kk cs e a' w':=by
  intro k
  induction k using Nat.strongRecOn with
  |_ k ih=>
   intro s f w a hk hI ha
   obtain⟨e,a1,w1,hq,harr⟩:=hr s f w hI a ha b (.inLoop c::kk) cs
   cases e with
   |normal=>
    obtain⟨f1,hf1,s1,hI1,hlt⟩:=hq
    obtain⟨e2,a2,w2,hq2,harr2⟩:=ih (μ s1) (hk▸hlt) s1 f1 w1 a1 rfl hI1 hf1
    exact⟨e2,a2,w2,hq2,.of_steps (Steps.trans harr (.one step_inLoop)) harr2⟩
   |exit i=>exact⟨.exit i,a1,w1,hq,.pass (x:=.inLoop c) rfl (fun _ _=> .inl (by simp)) harr⟩
   |ret=>exact⟨.ret,a1,w1,hq,.pass (x:=.inLoop c) rfl (fun _ _=> .inl (by simp)) harr⟩
   |goto l=>exact hq.elim
   |panic ch=>exact hq.elim
   |outgrown=>exact hq.elim
 obtain⟨e,a',w',hq,harr⟩:=key _ s0 f w a rfl h0 ha
 exact⟨e,a',w',hq,.of_steps (.one step_loop) harr⟩
end rules
end Go.Vg
namespace Go.Vg
open Go.RowKit
section lists
variable {P:Program} {n:Nat} {Q:Po} {f:Nat→Value} {w w':World} {ops:Array Oper} {o:Oper} {rest:List Oper} {d:Nat} {v:Value}
def RL (P:Program) (n:Nat) (ops:Array Oper) (l:List Oper) (Q:Po) (f:Nat→Value) (w:World):Prop:=∀a,Fm n f a→wpList P ops (up n Q) l a w
theorem wregion {id:Nat} {l:List Oper} (h:RL P n l.toArray l Q f w):WP P n (.region id l.toArray false) Q f w:=fun a ha=>wp_region_lit (h a ha)
theorem RL.nil (h:Q.nrm f w):RL P n ops [] Q f w:=fun _ ha=>wpList_nil ⟨f,ha,h⟩
theorem RL.val (hg:o.guard=none) (hd:o.dst=some d) (hn:d<n) (hr:(execOp (ev f) o).run P w= .ok (.value v) w') (h:RL P n ops rest Q (st f d v) w'):RL P n ops (o::rest) Q f w:=fun a ha=>
 wpList_plain hg fun K hK=>by
  unfold Oper.wp
  rw[ha.eval,hr]
  exact hK _ _ (h _ (by rw[hd];exact ha.put hn v))
theorem RL.skip (hg:o.guard=none) (hd:o.dst=none) (hr:(execOp (ev f) o).run P w= .ok .skip w') (h:RL P n ops rest Q f w'):RL P n ops (o::rest) Q f w:=fun a ha=>
 wpList_plain hg fun K hK=>by
  unfold Oper.wp
  rw[ha.eval,hr]
  exact hK _ _ (h _ (by rw[hd];exact ha))
theorem RL.call {k:FuncId} {args:Array Value} {Post:Value→World→Prop} (hg:o.guard=none) (hd:o.dst=some d) (hn:d<n) (hr:(execOp (ev f) o).run P w= .ok (.enter k args) w)
 (hc:Calls P k args w fun e w'=>∃v,e= .returned v∧Post v w') (h:∀v w',Post v w'→RL P n ops rest Q (st f d v) w'):RL P n ops (o::rest) Q f w:=fun a ha=>
 wpList_plain hg fun K hK=>by
  unfold Oper.wp
  rw[ha.eval,hr]
  refine hc.mono fun e w1 ⟨u,he,hp⟩=>?_
  subst he
  exact hK _ _ (h u w1 hp _ (by rw[hd];exact ha.put hn u))
theorem yielded_of {a:Act} (ha:Fm n f a) {j t:Nat} {b:Bool} (hj:(ops[j]?).bind (·.dst)=some t) (hf:f t= .bool b):yielded ops a.tmps j=some b:=by
 have h:=ha.2.2 t
 rw[hf] at h
 unfold yielded
 rw[hj]
 rcases Nat.lt_or_ge t a.tmps.size with hl|hl
 ·simp only[Option.bind_some]
  simp[Array.getD,hl] at h
  simp[hl,h]
 simp[Array.getD,Nat.not_lt.2 hl,undef] at h
theorem wanted_of {a:Act} (ha:Fm n f a) {j t:Nat} {b want:Bool} (hg:o.guard=some (j,want)) (hj:(ops[j]?).bind (·.dst)=some t) (hf:f t= .bool b):
 Region.wanted o (yielded ops a.tmps)=(b==want):=by
 unfold Region.wanted
 simp only[hg,yielded_of ha hj hf]
 cases b<;>cases want<;>rfl
theorem RL.gval {j t:Nat} {want:Bool} (hg:o.guard=some (j,want)) (hj:(ops[j]?).bind (·.dst)=some t) (hf:f t= .bool want) (hd:o.dst=some d) (hn:d<n)
 (hr:(execOp (ev f) o).run P w= .ok (.value v) w') (h:RL P n ops rest Q (st f d v) w'):RL P n ops (o::rest) Q f w:=fun a ha=>
 wpList_step fun K hK=>by
  have hw:=wanted_of ha hg hj hf
  rw[hw]
  simp only[BEq.rfl,if_true]
  unfold Oper.wp
  rw[ha.eval,hr]
  exact hK _ _ (h _ (by rw[hd];exact ha.put hn v))
theorem RL.gcall {j t:Nat} {want:Bool} {k:FuncId} {args:Array Value} {Post:Value→World→Prop} (hg:o.guard=some (j,want)) (hj:(ops[j]?).bind (·.dst)=some t) (hf:f t= .bool want) (hd:o.dst=some d) (hn:d<n)
 (hr:(execOp (ev f) o).run P w= .ok (.enter k args) w) (hc:Calls P k args w fun e w'=>∃v,e= .returned v∧Post v w') (h:∀v w',Post v w'→RL P n ops rest Q (st f d v) w'):RL P n ops (o::rest) Q f w:=fun a ha=>
 wpList_step fun K hK=>by
  have hw:=wanted_of ha hg hj hf
  rw[hw]
  simp only[BEq.rfl,if_true]
  unfold Oper.wp
  rw[ha.eval,hr]
  refine hc.mono fun e w1 ⟨u,he,hp⟩=>?_
  subst he
  exact hK _ _ (h u w1 hp _ (by rw[hd];exact ha.put hn u))
theorem RL.gno {j t:Nat} {want:Bool} (hg:o.guard=some (j,want)) (hj:(ops[j]?).bind (·.dst)=some t) (hf:f t= .bool (!want)) (hd:o.dst=some d) (hn:d<n)
 (h:RL P n ops rest Q (st f d undef) w):RL P n ops (o::rest) Q f w:=fun a ha=>
 wpList_step fun K hK=>by
  have hw:=wanted_of ha hg hj hf
  rw[hw]
  have:((!want)==want)=false:=by cases want<;>rfl
  rw[this]
  simp only[Bool.false_eq_true,if_false]
  exact hK _ _ (h _ (by rw[hd];exact ha.put hn undef))
end lists
/-! ### whatever order -/
def isRd (o:Oper):Bool:=match o.op with
 |.load ..=>true
 |_=>false
def calm (o:Oper):Bool:=match o.op with
 |.move _|.assign _|.pick ..|.load ..|.binOp ..|.unOp ..|.convert ..|.field ..|.fieldAddr ..|.indexAddr ..|.index ..|.slice ..|.extract ..|.build ..|.makeFunc ..|.nilCheck _=>true
 |.call {callee:=.builtin .len,..}|.call {callee:=.builtin .cap,..}|.call {callee:=.builtin .min,..}|.call {callee:=.builtin .max,..}=>true
 |_=>false
def calmAt (ops:Array Oper) (j:Nat):Bool:=match ops[j]? with
 |some o=>calm o
 |none=>false
def rdAt (ops:Array Oper) (j:Nat):Bool:=match ops[j]? with
 |some o=>isRd o
 |none=>false
def depArr (ops:Array Oper) (i:Nat):Array Bool:=ops.foldl (fun acc o=>acc.push (o.after.any fun e=>Region.binds .any e&&(e.on==i||acc.getD e.on false))) #[]
def depAt (ops:Array Oper) (i j:Nat):Bool:=(depArr ops i).getD j false
def depOk (ops:Array Oper) (listed:Array Bool) (i:Nat):Bool:=
 let d:=depArr ops i
 (List.range d.size).all fun k=>!(d.getD k false)||(!(listed.getD k true)&&match ops[k]? with
  |some o=>o.after.any fun e=>Region.binds .any e&&(e.on==i||d.getD e.on false)
  |none=>false)
def lastOp (ops:Array Oper) (j:Nat):Bool:=
 (List.range ops.size).all fun i=>i==j||!rdAt ops i||depAt ops i j
def Oks (ops:Array Oper) (S:World→Prop) (j:Nat) (w w':World):Prop:=(calmAt ops j=true∧w'=w)∨lastOp ops j=true∨S w'
def wpAnyF (P:Program) (ops:Array Oper) (Q:Exit→Act→World→Prop) (S:World→Prop):Nat→Array Bool→Act→World→Prop
 |0,listed,a,w=>Region.ready .any ops listed=[]∧Q .normal a w
 |fuel+1,listed,a,w=>
  (Region.ready .any ops listed=[]→Q .normal a w)∧
  ∀i∈Region.ready .any ops listed,wpOp P ops Q i (fun a' w'=>Oks ops S i w w'∧wpAnyF P ops Q S fuel (listed.setIfInBounds i true) a' w') a w
section any
variable {P:Program} {ops:Array Oper} {Q:Exit→Act→World→Prop} {S:World→Prop}
theorem wpAny_of_F:∀(fuel:Nat) (listed:Array Bool) (a:Act) (w:World),wpAnyF P ops Q S fuel listed a w→wpAny P .any ops Q fuel listed a w
 |0,_,_,_,h=>h
 |fuel+1,_,_,_,h=>⟨h.1,fun i hi=>wpOp_mono (fun a' w' h'=>wpAny_of_F fuel _ a' w' h'.2) (h.2 i hi)⟩
theorem wpAnyF_more {S':World→Prop} (hS:∀w,S' w→S w):∀(fuel:Nat) (listed:Array Bool) (a:Act) (w:World),wpAnyF P ops Q S' fuel listed a w→wpAnyF P ops Q S fuel listed a w
 |0,_,_,_,h=>h
 |fuel+1,_,_,_,h=>⟨h.1,fun i hi=>wpOp_mono (fun a' w' h'=>⟨h'.1.imp id (Or.imp id (hS w')),wpAnyF_more hS fuel _ a' w' h'.2⟩) (h.2 i hi)⟩
theorem lastOp_waits {i j:Nat} (hl:lastOp ops j=true) (hij:i≠j) (hi:i<ops.size) (hr:rdAt ops i=true):depAt ops i j=true:=by
 unfold lastOp at hl
 simp only[List.all_eq_true,List.mem_range] at hl
 have h:=hl i hi
 simpa only[hr,Bool.not_true,Bool.or_false,Bool.or_eq_true,beq_iff_eq,hij,false_or] using h
theorem depOk_spec {i k:Nat} {listed:Array Bool} (h:depOk ops listed i=true) (hk:depAt ops i k=true):
 listed.getD k true=false∧∃o,ops[k]? =some o∧∃e∈o.after,Region.binds .any e=true∧(e.on=i∨depAt ops i e.on=true):=by
 unfold depOk at h
 simp only[List.all_eq_true,List.mem_range] at h
 have hlt:k<(depArr ops i).size:=by
  unfold depAt at hk
  rcases Nat.lt_or_ge k (depArr ops i).size with h'|h'
  ·exact h'
  simp[Array.getD,Nat.not_lt.2 h'] at hk
 have h1:=h k hlt
 unfold depAt at hk
 rw[hk] at h1
 simp only[Bool.not_true,Bool.false_or,Bool.and_eq_true,Bool.not_eq_true'] at h1
 refine⟨h1.1,?_⟩
 have h2:=h1.2
 split at h2
 ·next o ho=>
  obtain⟨e,he,hb⟩:=Array.any_eq_true'.1 h2
  simp only[Bool.and_eq_true,Bool.or_eq_true,beq_iff_eq] at hb
  exact⟨o,ho,e,he,hb.1,hb.2⟩
 cases h2
theorem wpAnyF_first {i:Nat} {oi:Oper} {v:Value} {S0:World→Prop} (hi:ops[i]? =some oi) (hc:calm oi=true) (hS0:(∀w,S0 w)∨(isRd oi=true∧∀w,S w→S0 w))
 (hcl:isRd oi=true→∀k,depAt ops i k=true→∃o,ops[k]? =some o∧∃e∈o.after,Region.binds .any e=true∧(e.on=i∨depAt ops i e.on=true))
 (hsel:∀(j:Nat) (o:Oper) cs b,ops[j]? =some o→o.op≠.select cs b) (hQ:∀c a w,Q (.panic c) (a.put oi.dst v) w→Q (.panic c) a w):
 ∀(fuel:Nat) (listed:Array Bool) (a:Act) (w:World),
  (∀j oj,ops[j]? =some oj→j≠i→listed.getD j true=false→(∀e∈oj.after,Region.binds .any e=true→e.on≠i)→oi.apart ops oj=true)→
  (isRd oi=true→∀k,depAt ops i k=true→listed.getD k true=false)→
  i∈Region.ready .any ops listed→YieldsIf P ops S0 oi v a→S0 w→
  wpAnyF P ops Q S fuel (listed.setIfInBounds i true) (a.put oi.dst v) w→wpAnyF P ops Q S (fuel+1) listed a w:=by
 have hci:calmAt ops i=true:=by unfold calmAt;rw[hi];exact hc
 intro fuel
 induction fuel with
 |zero=>
  intro listed a w _ _ hr hy hS H
  refine⟨fun h=>(by rw[h] at hr;cases hr),fun j hj=>?_⟩
  by_cases hji:j=i
  ·subst hji;exact hy.wpOp hi hS ⟨.inl ⟨hci,rfl⟩,H⟩
  have:=ready_mono hj hji
  rw[H.1] at this
  cases this
 |succ fuel ih=>
  intro listed a w hfree hun hr hy hS H
  refine⟨fun h=>(by rw[h] at hr;cases hr),fun j hj=>?_⟩
  by_cases hji:j=i
  ·subst hji;exact hy.wpOp hi hS ⟨.inl ⟨hci,rfl⟩,H⟩
  have h1:=H.2 j (ready_mono hj hji)
  obtain⟨hjun,oj,hoj,hall⟩:=mem_ready.1 hj
  have hnot:∀e∈oj.after,Region.binds .any e=true→e.on≠i:=fun e he hb heq=>by
   have h1:=hall e he hb
   have h0:=(mem_ready.1 hr).1
   rw[heq] at h1
   rcases Nat.lt_or_ge i listed.size with h'|h'
   ·simp[h'] at h0 h1;rw[h0] at h1;cases h1
   simp[Array.getElem?_eq_none h'] at h1
  have hjd:isRd oi=true→depAt ops i j=false:=fun hrd=>by
   rcases Bool.eq_false_or_eq_true (depAt ops i j) with hd|hd
   ·obtain⟨o,ho,e,he,hb,hcase⟩:=hcl hrd j hd
    rw[hoj] at ho
    injection ho with ho
    subst ho
    rcases hcase with hc|hc
    ·exact absurd hc (hnot e he hb)
    have h1:=hall e he hb
    have h0:=hun hrd e.on hc
    rcases Nat.lt_or_ge e.on listed.size with h'|h'
    ·simp[h'] at h0 h1;rw[h0] at h1;cases h1
    simp[Array.getElem?_eq_none h'] at h1
   exact hd
  have hun':isRd oi=true→∀k,depAt ops i k=true→(listed.setIfInBounds j true).getD k true=false:=fun hrd k hk=>by
   have hjk:j≠k:=fun h=>by subst h;rw[hjd hrd] at hk;cases hk
   rw[getD_set_ne true hjk]
   exact hun hrd k hk
  have h2:=wpOp_putIf hoj (hfree j oj hoj hji hjun hnot) (fun cs b=>hsel i oi cs b hi) (fun cs b=>hsel j oj cs b hoj) hQ hy h1
  have hfree':∀k ok,ops[k]? =some ok→k≠i→(listed.setIfInBounds j true).getD k true=false→
   (∀e∈ok.after,Region.binds .any e=true→e.on≠i)→oi.apart ops ok=true:=fun k ok hk hki hun hno=>by
   refine hfree k ok hk hki ?_ hno
   by_cases hjk:j=k
   ·subst hjk;exact hjun
   rw[getD_set_ne true hjk] at hun;exact hun
  refine wpOp_mono (fun a' w' h3=>?_) h2
  have hS':S0 w':=by
   rcases hS0 with hS0|⟨hrd,hS0⟩
   ·exact hS0 w'
   rcases h3.2.1 with ⟨_,he⟩|hl|hs
   ·rw[he];exact hS
   ·have hlt:i<ops.size:=(Array.getElem?_eq_some_iff.1 hi).1
    have hd:=lastOp_waits hl (Ne.symm hji) hlt (by unfold rdAt;rw[hi];exact hrd)
    rw[hjd hrd] at hd
    cases hd
   exact hS0 w' hs
  refine⟨h3.2.1,ih (listed.setIfInBounds j true) a' w' hfree' hun' (ready_mono hr (Ne.symm hji)) h3.1 hS' ?_⟩
  rw[Array.setIfInBounds_comm _ _ hji]
  exact h3.2.2
end any
def takeOk (ops:Array Oper) (listed:Array Bool) (i:Nat):Bool:=
 Region.noSelect ops&&Region.free .any ops listed i&&(Region.ready .any ops listed).contains i&&calmAt ops i&&(!rdAt ops i||depOk ops listed i)
def RA (P:Program) (n:Nat) (ops:Array Oper) (Q:Po) (S:World→Prop) (fuel:Nat) (listed:Array Bool) (f:Nat→Value) (w:World):Prop:=
 ∀a,Fm n f a→wpAnyF P ops (up n Q) S fuel listed a w
section ra
variable {P:Program} {n:Nat} {Q:Po} {f:Nat→Value} {w w':World} {ops:Array Oper} {o:Oper} {S:World→Prop} {fuel:Nat} {listed:Array Bool} {d:Nat} {v:Value}
theorem wdrawS {id:Nat} (S:World→Prop) (hm:P.follows .mixedOrders=true) (h:RA P n ops Q S ops.size (Array.replicate ops.size false) f w.drew):WP P n (.region id ops true) Q f w:=fun a ha=>
 wp_region_any hm (wpAny_of_F _ _ _ _ (h a ha))
theorem wdraw {id:Nat} (hm:P.follows .mixedOrders=true) (h:∀w1,Below w.heap.size w w1→RA P n ops Q (fun u=>Below w1.heap.size w1 u) ops.size (Array.replicate ops.size false) f w1):WP P n (.region id ops true) Q f w:=
 wdrawS _ hm (h w.drew (Below.drew (Below.refl _ _)))
theorem RA.more {S':World→Prop} (hS:∀w,S' w→S w) (h:RA P n ops Q S' fuel listed f w):RA P n ops Q S fuel listed f w:=fun a ha=>wpAnyF_more hS _ _ _ _ (h a ha)
theorem RA.take0 {S0:World→Prop} (i:Nat) (hi:ops[i]? =some o) (hok:takeOk ops listed i=true) (hS0:(∀w,S0 w)∨(isRd o=true∧∀w,S w→S0 w)) (hS:S0 w) (hd:o.dst=some d) (hn:d<n)
 (hy:∀a,Fm n f a→YieldsIf P ops S0 o v a) (h:RA P n ops Q S fuel (listed.setIfInBounds i true) (st f d v) w):RA P n ops Q S (fuel+1) listed f w:=fun a ha=>by
 unfold takeOk at hok
 simp only[Bool.and_eq_true] at hok
 obtain⟨⟨⟨⟨h1,h2⟩,h3⟩,h4⟩,h5⟩:=hok
 have h6:isRd o=true→depOk ops listed i=true:=fun hrd=>by
  have:rdAt ops i=true:=by unfold rdAt;rw[hi];exact hrd
  rw[this] at h5
  simpa using h5
 refine wpAnyF_first (i:=i) (v:=v) (S0:=S0) hi (by unfold calmAt at h4;rw[hi] at h4;exact h4) hS0 (fun hrd k hk=>(depOk_spec (h6 hrd) hk).2) (Region.noSelect_spec h1) (fun _ _ _ h=>h) fuel listed a w (Region.free_spec hi h2) (fun hrd k hk=>(depOk_spec (h6 hrd) hk).1) (by simpa using h3) (hy a ha) hS ?_
 exact h _ (by rw[hd];exact ha.put hn v)
theorem RA.take (i:Nat) (hi:ops[i]? =some o) (hok:takeOk ops listed i=true) (hg:o.guard=none) (hd:o.dst=some d) (hn:d<n)
 (hr:∀w,(execOp (ev f) o).run P w= .ok (.value v) w) (h:RA P n ops Q S fuel (listed.setIfInBounds i true) (st f d v) w):RA P n ops Q S (fuel+1) listed f w:=
 RA.take0 (S0:=fun _=>True) i hi hok (.inl fun _=>trivial) trivial hd hn (fun a ha=> .inl ⟨by simp[Region.wanted,hg],fun w _=>by rw[ha.eval];exact hr w⟩) h
theorem RA.rd (i:Nat) (hi:ops[i]? =some o) (hok:takeOk ops listed i=true) (hrd:isRd o=true) (hg:o.guard=none) (hd:o.dst=some d) (hn:d<n) (hS:S w)
 (hr:∀w,S w→(execOp (ev f) o).run P w= .ok (.value v) w) (h:RA P n ops Q S fuel (listed.setIfInBounds i true) (st f d v) w):RA P n ops Q S (fuel+1) listed f w:=
 RA.take0 (S0:=S) i hi hok (.inr ⟨hrd,fun _ h=>h⟩) hS hd hn (fun a ha=> .inl ⟨by simp[Region.wanted,hg],fun w hw=>by rw[ha.eval];exact hr w hw⟩) h
theorem RA.gtake (i:Nat) {j t:Nat} {want:Bool} (hi:ops[i]? =some o) (hok:takeOk ops listed i=true) (hg:o.guard=some (j,want)) (hj:(ops[j]?).bind (·.dst)=some t) (hf:f t= .bool want) (hd:o.dst=some d) (hn:d<n)
 (hr:∀w,(execOp (ev f) o).run P w= .ok (.value v) w) (h:RA P n ops Q S fuel (listed.setIfInBounds i true) (st f d v) w):RA P n ops Q S (fuel+1) listed f w:=
 RA.take0 (S0:=fun _=>True) i hi hok (.inl fun _=>trivial) trivial hd hn (fun a ha=> .inl ⟨by rw[wanted_of ha hg hj hf];simp,fun w _=>by rw[ha.eval];exact hr w⟩) h
theorem RA.grd (i:Nat) {j t:Nat} {want:Bool} (hi:ops[i]? =some o) (hok:takeOk ops listed i=true) (hrd:isRd o=true) (hg:o.guard=some (j,want)) (hj:(ops[j]?).bind (·.dst)=some t) (hf:f t= .bool want) (hd:o.dst=some d) (hn:d<n) (hS:S w)
 (hr:∀w,S w→(execOp (ev f) o).run P w= .ok (.value v) w) (h:RA P n ops Q S fuel (listed.setIfInBounds i true) (st f d v) w):RA P n ops Q S (fuel+1) listed f w:=
 RA.take0 (S0:=S) i hi hok (.inr ⟨hrd,fun _ h=>h⟩) hS hd hn (fun a ha=> .inl ⟨by rw[wanted_of ha hg hj hf];simp,fun w hw=>by rw[ha.eval];exact hr w hw⟩) h
theorem unwanted_of {a:Act} (ha:Fm n f a) {j t:Nat} {want:Bool} (hg:o.guard=some (j,want)) (hj:(ops[j]?).bind (·.dst)=some t) (hf:f t= .bool (!want)∨f t=undef):Region.wanted o (yielded ops a.tmps)=false:=by
 rcases hf with hf|hf
 ·rw[wanted_of ha hg hj hf];cases want<;>rfl
 have hy:yielded ops a.tmps j=none:=by
  have h:=ha.2.2 t
  rw[hf] at h
  unfold yielded
  rw[hj]
  simp only[Option.bind_some]
  rcases Nat.lt_or_ge t a.tmps.size with hl|hl
  ·simp[Array.getD,hl] at h
   simp[hl,h,undef]
  simp[Array.getElem?_eq_none hl]
 unfold Region.wanted
 simp only[hg,hy]
 rfl
theorem RA.gno (i:Nat) {j t:Nat} {want:Bool} (hi:ops[i]? =some o) (hok:takeOk ops listed i=true) (hg:o.guard=some (j,want)) (hj:(ops[j]?).bind (·.dst)=some t) (hf:f t= .bool (!want)∨f t=undef) (hd:o.dst=some d) (hn:d<n)
 (h:RA P n ops Q S fuel (listed.setIfInBounds i true) (st f d undef) w):RA P n ops Q S (fuel+1) listed f w:=
 RA.take0 (S0:=fun _=>True) i hi hok (.inl fun _=>trivial) trivial hd hn (fun a ha=> .inr ⟨unwanted_of ha hg hj hf,rfl⟩) h
theorem RA.done (hr:Region.ready .any ops listed=[]) (h:Q.nrm f w):RA P n ops Q S fuel listed f w:=fun a ha=>by
 cases fuel with
 |zero=>exact⟨hr,f,ha,h⟩
 |succ k=>exact⟨fun _=>⟨f,ha,h⟩,by rw[hr];simp⟩
def RS (P:Program) (n:Nat) (ops:Array Oper) (Q:Po) (S:World→Prop) (fuel:Nat) (listed:Array Bool) (f:Nat→Value) (w:World) (rs:List Nat):Prop:=
 ∀i∈rs,∀a,Fm n f a→wpOp P ops (up n Q) i (fun a' w'=>Oks ops S i w w'∧wpAnyF P ops (up n Q) S fuel (listed.setIfInBounds i true) a' w') a w
theorem RA.all (rs:List Nat) (hr:Region.ready .any ops listed=rs) (hne:rs.isEmpty=false) (h:RS P n ops Q S fuel listed f w rs):RA P n ops Q S (fuel+1) listed f w:=fun a ha=>
 ⟨fun h0=>by rw[hr] at h0;subst h0;simp at hne,fun i hi=>h i (by rw[←hr];exact hi) a ha⟩
variable {i:Nat} {rs:List Nat}
theorem RS.nil:RS P n ops Q S fuel listed f w []:=fun _ h=>by cases h
theorem RS.val (hi:ops[i]? =some o) (hg:o.guard=none) (hd:o.dst=some d) (hn:d<n) (hr:(execOp (ev f) o).run P w= .ok (.value v) w') (hS:Oks ops S i w w')
 (h:RA P n ops Q S fuel (listed.setIfInBounds i true) (st f d v) w') (hs:RS P n ops Q S fuel listed f w rs):RS P n ops Q S fuel listed f w (i::rs):=fun j hj=>by
 rcases List.mem_cons.1 hj with rfl|hj
 ·intro a ha
  unfold wpOp
  simp only[hi,Region.wanted,hg,if_true]
  refine .inl ?_
  unfold Oper.wp
  rw[ha.eval,hr]
  exact⟨hS,h _ (by rw[hd];exact ha.put hn v)⟩
 exact hs j hj
theorem RS.skip (hi:ops[i]? =some o) (hg:o.guard=none) (hd:o.dst=none) (hr:(execOp (ev f) o).run P w= .ok .skip w') (hS:Oks ops S i w w')
 (h:RA P n ops Q S fuel (listed.setIfInBounds i true) f w') (hs:RS P n ops Q S fuel listed f w rs):RS P n ops Q S fuel listed f w (i::rs):=fun j hj=>by
 rcases List.mem_cons.1 hj with rfl|hj
 ·intro a ha
  unfold wpOp
  simp only[hi,Region.wanted,hg,if_true]
  refine .inl ?_
  unfold Oper.wp
  rw[ha.eval,hr]
  exact⟨hS,h _ (by rw[hd];exact ha)⟩
 exact hs j hj
theorem RS.call {k:FuncId} {args:Array Value} {Post:Value→World→Prop} (hi:ops[i]? =some o) (hg:o.guard=none) (hd:o.dst=some d) (hn:d<n) (hr:(execOp (ev f) o).run P w= .ok (.enter k args) w)
 (hc:Calls P k args w fun e w'=>∃v,e= .returned v∧Post v w') (h:∀v w',Post v w'→Oks ops S i w w'∧RA P n ops Q S fuel (listed.setIfInBounds i true) (st f d v) w')
 (hs:RS P n ops Q S fuel listed f w rs):RS P n ops Q S fuel listed f w (i::rs):=fun j hj=>by
 rcases List.mem_cons.1 hj with rfl|hj
 ·intro a ha
  unfold wpOp
  simp only[hi,Region.wanted,hg,if_true]
  refine .inl ?_
  unfold Oper.wp
  rw[ha.eval,hr]
  refine hc.mono fun e w1 ⟨u,he,hp⟩=>?_
  subst he
  obtain⟨h1,h2⟩:=h u w1 hp
  exact⟨h1,h2 _ (by rw[hd];exact ha.put hn u)⟩
 exact hs j hj
theorem RS.gcall {j0 t:Nat} {want:Bool} {k:FuncId} {args:Array Value} {Post:Value→World→Prop} (hi:ops[i]? =some o) (hg:o.guard=some (j0,want)) (hj0:(ops[j0]?).bind (·.dst)=some t) (hf:f t= .bool want) (hd:o.dst=some d) (hn:d<n) (hr:(execOp (ev f) o).run P w= .ok (.enter k args) w)
 (hc:Calls P k args w fun e w'=>∃v,e= .returned v∧Post v w') (h:∀v w',Post v w'→Oks ops S i w w'∧RA P n ops Q S fuel (listed.setIfInBounds i true) (st f d v) w')
 (hs:RS P n ops Q S fuel listed f w rs):RS P n ops Q S fuel listed f w (i::rs):=fun j hj=>by
 rcases List.mem_cons.1 hj with rfl|hj
 ·intro a ha
  unfold wpOp
  simp only[hi,wanted_of ha hg hj0 hf,BEq.rfl,if_true]
  refine .inl ?_
  unfold Oper.wp
  rw[ha.eval,hr]
  refine hc.mono fun e w1 ⟨u,he,hp⟩=>?_
  subst he
  obtain⟨h1,h2⟩:=h u w1 hp
  exact⟨h1,h2 _ (by rw[hd];exact ha.put hn u)⟩
 exact hs j hj
theorem RS.gno {j0 t:Nat} {want:Bool} (hi:ops[i]? =some o) (hg:o.guard=some (j0,want)) (hj0:(ops[j0]?).bind (·.dst)=some t) (hf:f t= .bool (!want)∨f t=undef) (hd:o.dst=some d) (hn:d<n) (hS:Oks ops S i w w)
 (h:RA P n ops Q S fuel (listed.setIfInBounds i true) (st f d undef) w) (hs:RS P n ops Q S fuel listed f w rs):RS P n ops Q S fuel listed f w (i::rs):=fun j hj=>by
 rcases List.mem_cons.1 hj with rfl|hj
 ·intro a ha
  unfold wpOp
  simp only[hi,unwanted_of ha hg hj0 hf,Bool.false_eq_true,if_false]
  exact⟨hS,h _ (by rw[hd];exact ha.put hn undef)⟩
 exact hs j hj
end ra
end Go.Vg
namespace Go.Vg
open Go.RowKit
section
variable {P:Program} {f:Nat→Value} {w:World} {dst:Option Tmp} {ty:TypeId} {pos:String} {aft:Array Edge} {g:Option (Nat×Bool)} {x y z:Operand} {t t':TypeId} {k:IntKind} {a b c:Int}
theorem r_move_as {v:Value} (h:ev f x=v):(execOp (ev f) ⟨dst,.move x,ty,pos,aft,g⟩).run P w= .ok (.value v) w:=by rw[←h];rfl
theorem r_assign_as {v:Value} (h:ev f x=v):(execOp (ev f) ⟨dst,.assign x,ty,pos,aft,g⟩).run P w= .ok (.value v) w:=by rw[←h];rfl
theorem r_pick_t {v:Value} (hc:ev f x= .bool true) (h:ev f y=v):(execOp (ev f) ⟨dst,.pick x y z,ty,pos,aft,g⟩).run P w= .ok (.value v) w:=by
 simp[execOp,hc,h,asBool]
theorem r_pick_f {v:Value} (hc:ev f x= .bool false) (h:ev f z=v):(execOp (ev f) ⟨dst,.pick x y z,ty,pos,aft,g⟩).run P w= .ok (.value v) w:=by
 simp[execOp,hc,h,asBool]
theorem r_add (hx:ev f x= .int k a) (hy:ev f y= .int k b) (hw:k.wrap (a+b)=c):(execOp (ev f) ⟨dst,.binOp .add t x y t',ty,pos,aft,g⟩).run P w= .ok (.value (.int k c)) w:=by
 simp[execOp,hx,hy,eqGuard,binOp,Op.intArith,hw]
theorem r_sub (hx:ev f x= .int k a) (hy:ev f y= .int k b) (hw:k.wrap (a-b)=c):(execOp (ev f) ⟨dst,.binOp .sub t x y t',ty,pos,aft,g⟩).run P w= .ok (.value (.int k c)) w:=by
 simp[execOp,hx,hy,eqGuard,binOp,Op.intArith,hw]
theorem r_mul (hx:ev f x= .int k a) (hy:ev f y= .int k b) (hw:k.wrap (a*b)=c):(execOp (ev f) ⟨dst,.binOp .mul t x y t',ty,pos,aft,g⟩).run P w= .ok (.value (.int k c)) w:=by
 simp[execOp,hx,hy,eqGuard,binOp,Op.intArith,hw]
theorem r_quo (hx:ev f x= .int k a) (hy:ev f y= .int k b) (hb:b≠0) (hw:k.wrap (a.tdiv b)=c):(execOp (ev f) ⟨dst,.binOp .quo t x y t',ty,pos,aft,g⟩).run P w= .ok (.value (.int k c)) w:=by
 simp[execOp,hx,hy,eqGuard,binOp,Op.intDiv,hb,hw]
theorem r_rem (hx:ev f x= .int k a) (hy:ev f y= .int k b) (hb:b≠0) (hw:a.tmod b=c):(execOp (ev f) ⟨dst,.binOp .rem t x y t',ty,pos,aft,g⟩).run P w= .ok (.value (.int k c)) w:=by
 simp[execOp,hx,hy,eqGuard,binOp,Op.intDiv,hb,hw]
theorem r_shl {kk:IntKind} (hx:ev f x= .int k a) (hy:ev f y= .int kk b) (hb:0≤b) (hw:k.wrap (a*2^(min b.toNat k.bits))=c):(execOp (ev f) ⟨dst,.binOp .shl t x y t',ty,pos,aft,g⟩).run P w= .ok (.value (.int k c)) w:=by
 simp[execOp,hx,hy,eqGuard,binOp,Op.shift,Int.not_lt.2 hb,hw]
theorem r_shr {kk:IntKind} (hx:ev f x= .int k a) (hy:ev f y= .int kk b) (hb:0≤b) (hw:a.fdiv (2^(min b.toNat k.bits))=c):(execOp (ev f) ⟨dst,.binOp .shr t x y t',ty,pos,aft,g⟩).run P w= .ok (.value (.int k c)) w:=by
 simp[execOp,hx,hy,eqGuard,binOp,Op.shift,Int.not_lt.2 hb,hw]
theorem r_or (hx:ev f x= .int k a) (hy:ev f y= .int k b) (hw:k.wrap ((BitVec.ofInt k.bits a|||BitVec.ofInt k.bits b).toNat:Int)=c):(execOp (ev f) ⟨dst,.binOp .or t x y t',ty,pos,aft,g⟩).run P w= .ok (.value (.int k c)) w:=by
 simp only[execOp,hx,hy,eqGuard,binOp]
 simp[Op.intBits]
 simpa using hw
theorem r_and (hx:ev f x= .int k a) (hy:ev f y= .int k b) (hw:k.wrap ((BitVec.ofInt k.bits a&&&BitVec.ofInt k.bits b).toNat:Int)=c):(execOp (ev f) ⟨dst,.binOp .and t x y t',ty,pos,aft,g⟩).run P w= .ok (.value (.int k c)) w:=by
 simp only[execOp,hx,hy,eqGuard,binOp]
 simp[Op.intBits]
 simpa using hw
theorem r_lss (hx:ev f x= .int k a) (hy:ev f y= .int k b):(execOp (ev f) ⟨dst,.binOp .lss t x y t',ty,pos,aft,g⟩).run P w= .ok (.value (.bool (decide (a<b)))) w:=by
 simp[execOp,hx,hy,eqGuard,binOp,Op.intCmp]
theorem r_leq (hx:ev f x= .int k a) (hy:ev f y= .int k b):(execOp (ev f) ⟨dst,.binOp .leq t x y t',ty,pos,aft,g⟩).run P w= .ok (.value (.bool (decide (a≤b)))) w:=by
 simp[execOp,hx,hy,eqGuard,binOp,Op.intCmp]
theorem r_gtr (hx:ev f x= .int k a) (hy:ev f y= .int k b):(execOp (ev f) ⟨dst,.binOp .gtr t x y t',ty,pos,aft,g⟩).run P w= .ok (.value (.bool (decide (b<a)))) w:=by
 simp[execOp,hx,hy,eqGuard,binOp,Op.intCmp]
theorem r_geq (hx:ev f x= .int k a) (hy:ev f y= .int k b):(execOp (ev f) ⟨dst,.binOp .geq t x y t',ty,pos,aft,g⟩).run P w= .ok (.value (.bool (decide (b≤a)))) w:=by
 simp[execOp,hx,hy,eqGuard,binOp,Op.intCmp]
theorem r_eql (hx:ev f x= .int k a) (hy:ev f y= .int k b):(execOp (ev f) ⟨dst,.binOp .eql t x y t',ty,pos,aft,g⟩).run P w= .ok (.value (.bool (decide (a=b)))) w:=by
 simp[execOp,hx,hy,eqGuard,binOp,Op.intCmp]
 rfl
theorem r_neq (hx:ev f x= .int k a) (hy:ev f y= .int k b):(execOp (ev f) ⟨dst,.binOp .neq t x y t',ty,pos,aft,g⟩).run P w= .ok (.value (.bool (decide (a≠b)))) w:=by
 simp[execOp,hx,hy,eqGuard,binOp,Op.intCmp]
 rfl
theorem run_equalIn_bool (d:Nat) {p q:Bool} (ht:P.underlying t=some .bool):(Op.equalIn (d+1) t (.bool p) (.bool q)).run P w= .ok (p==q) w:=by
 simp[Op.equalIn,run_underlying ht]
theorem r_eqlb {p q:Bool} (ht:P.underlying t=some .bool) (hx:ev f x= .bool p) (hy:ev f y= .bool q):(execOp (ev f) ⟨dst,.binOp .eql t x y t',ty,pos,aft,g⟩).run P w= .ok (.value (.bool (p==q))) w:=by
 have h:=run_equalIn_bool (P:=P) (w:=w) (t:=t) 9999 (p:=p) (q:=q) ht
 simp only[execOp,hx,hy,eqGuard,binOp]
 simp[Op.equal,Op.maxDepth,h]
theorem r_neqb {p q:Bool} (ht:P.underlying t=some .bool) (hx:ev f x= .bool p) (hy:ev f y= .bool q):(execOp (ev f) ⟨dst,.binOp .neq t x y t',ty,pos,aft,g⟩).run P w= .ok (.value (.bool (p !=q))) w:=by
 have h:=run_equalIn_bool (P:=P) (w:=w) (t:=t) 9999 (p:=p) (q:=q) ht
 simp only[execOp,hx,hy,eqGuard,binOp]
 simp[Op.equal,Op.maxDepth,h]
 cases p<;>cases q<;>rfl
theorem r_not {p:Bool} (hx:ev f x= .bool p):(execOp (ev f) ⟨dst,.unOp .not t x,ty,pos,aft,g⟩).run P w= .ok (.value (.bool (!p))) w:=by
 simp[execOp,hx,Op.unary]
theorem r_neg (hx:ev f x= .int k a) (hw:k.wrap (0-a)=c):(execOp (ev f) ⟨dst,.unOp .neg t x,ty,pos,aft,g⟩).run P w= .ok (.value (.int k c)) w:=by
 simp only[execOp,hx,Op.unary,Op.intArith,hw]
 rfl
theorem r_conv {k':IntKind} {d:TypeDesc} (h1:P.underlying t=some d) (h2:P.underlying t'=some (.int k)) (hx:ev f x= .int k' a) (hw:k.wrap a=c):(execOp (ev f) ⟨dst,.convert t t' x,ty,pos,aft,g⟩).run P w= .ok (.value (.int k c)) w:=by
 simp only[execOp,hx,convert,Sem.run_bind,run_underlying h1,run_underlying h2,Result.andThen_ok]
 cases d<;>simp[Conv.intToInt,hw]
theorem r_extract {vs:Array Value} {i:Nat} {v:Value} (hx:ev f x= .tuple vs) (hv:vs[i]? =some v):(execOp (ev f) ⟨dst,.extract x i,ty,pos,aft,g⟩).run P w= .ok (.value v) w:=by
 simp[execOp,hx,Instr.extract,hv]
theorem r_len {e:TypeId} {A:Option Addr} {n c:Nat} (ht:P.underlying t=some (.slice e)) (hx:ev f x= .slice A n c):
 (execOp (ev f) ⟨dst,.call ⟨.builtin .len,#[x],#[t]⟩,ty,pos,aft,g⟩).run P w= .ok (.value (.int .i64 n)) w:=by
 simp[execOp,resolve,invoke,builtin,Builtin.len_,run_underlying ht,hx,goInt]
theorem r_max2 (hx:ev f x= .int k a) (hy:ev f y= .int k b):(execOp (ev f) ⟨dst,.call ⟨.builtin .max,#[x,y],#[t,t']⟩,ty,pos,aft,g⟩).run P w= .ok (.value (.int k (if b>a then b else a))) w:=by
 simp[execOp,resolve,invoke,builtin,Builtin.max_,hx,hy,Builtin.max2]
theorem r_min2 (hx:ev f x= .int k a) (hy:ev f y= .int k b):(execOp (ev f) ⟨dst,.call ⟨.builtin .min,#[x,y],#[t,t']⟩,ty,pos,aft,g⟩).run P w= .ok (.value (.int k (if b<a then b else a))) w:=by
 simp[execOp,resolve,invoke,builtin,Builtin.min_,hx,hy,Builtin.min2]
def Ent (P:Program) (k:FuncId):Prop:=∀args w,(callFunc k args).run P w= .ok (.enter k args) w
theorem r_call {kf:FuncId} {al:List Operand} {vl:List Value} {tys:Array TypeId} (he:Ent P kf) (ha:al.map (ev f)=vl):
 (execOp (ev f) ⟨dst,.call ⟨.value (.func kf),al.toArray,tys⟩,ty,pos,aft,g⟩).run P w= .ok (.enter kf vl.toArray) w:=by
 subst ha
 unfold Ent at he
 simp[execOp,resolve,Deferred.ofValue,ev,invoke,he]
theorem r_callv {kf:FuncId} {al:List Operand} {vl cl:List Value} {tys:Array TypeId} (hx:ev f x= .func (.func kf) #[] cl.toArray) (he:Ent P kf) (ha:al.map (ev f)=vl):
 (execOp (ev f) ⟨dst,.call ⟨.value x,al.toArray,tys⟩,ty,pos,aft,g⟩).run P w= .ok (.enter kf (vl++cl).toArray) w:=by
 subst ha
 unfold Ent at he
 simp[execOp,resolve,hx,Deferred.ofValue,invoke,he]
theorem mpn {α β:Type} {f:α→β}:([]:List α).map f=[]:=rfl
theorem mpc {α β:Type} {f:α→β} {a:α} {b:β} {l:List α} {l':List β} (h:f a=b) (hl:l.map f=l'):(a::l).map f=b::l':=by rw[List.map_cons,h,hl]
theorem r_makeFunc {fn:Fn} {cl:List Operand} {vl:List Value} (hc:cl.map (ev f)=vl):(execOp (ev f) ⟨dst,.makeFunc fn #[] cl.toArray,ty,pos,aft,g⟩).run P w= .ok (.value (.func fn #[] vl.toArray)) w:=by
 subst hc
 simp[execOp,Instr.makeFunc]
end
/-! ### a number that fits is itself -/
theorem wi64 {z:Int} (h:-9223372036854775808≤z∧z≤9223372036854775807):IntKind.i64.wrap z=z:=by
 rw[IntKind.wrap_i64];omega
theorem wu64 {z:Int} (h:0≤z∧z≤18446744073709551615):IntKind.u64.wrap z=z:=by
 rw[IntKind.wrap_u64];omega
theorem wu32 {z:Int} (h:0≤z∧z≤4294967295):IntKind.u32.wrap z=z:=by
 rw[IntKind.wrap_u32];omega
end Go.Vg
namespace Go.Vg
open Go.RowKit
/-! ### worlds -/
abbrev Ext (w w':World):Prop:=Below w.heap.size w w'
theorem Ext.trans {a b c:World} (h:Ext a b) (k:Ext b c):Ext a c:=Below.trans h (Below.mono k h.size)
theorem Ext.refl (w:World):Ext w w:=Below.refl _ _
theorem Ext.drew (w:World):Ext w w.drew:=(Below.refl _ _).drew
theorem Below.ext {B:Nat} {w0 w w':World} (h:Below B w0 w) (hB:B≤w.heap.size) (k:Ext w w'):Below B w0 w':=h.trans (k.mono hB)
structure Exc (b:Nat) (w w':World):Prop where
 os:w'.os=w.os
 tape:w'.tape=w.tape
 output:w'.output=w.output
 size:w.heap.size≤w'.heap.size
 block:∀k,k<w.heap.size→k≠b→w'.heap[k]? =w.heap[k]?
theorem Below.exc {B b:Nat} {w0 w w':World} (h:Below B w0 w) (hB:B≤w.heap.size) (k:Exc b w w') (hb:B≤b):Below B w0 w':=
 h.trans ⟨k.os,k.tape,k.output,k.size,fun i hi=>k.block i oM oM⟩
theorem Exc.of_ext {b:Nat} {w w':World} (h:Ext w w'):Exc b w w':=⟨h.os,h.tape,h.output,h.size,fun k hk _=>h.block k hk⟩
theorem Exc.trans {b:Nat} {a c d:World} (h:Exc b a c) (k:Exc b c d):Exc b a d:=
 ⟨k.os.trans h.os,k.tape.trans h.tape,k.output.trans h.output,Nat.le_trans h.size k.size,fun i hi hb=>(k.block i (Nat.lt_of_lt_of_le hi h.size) hb).trans (h.block i hi hb)⟩
def Sm (D:Nat→TypeId→Prop) (w w':World):Prop:=∀b cs T fz,w.heap[b]? =some (.cells cs T fz)→D b T→w'.heap[b]? =some (.cells cs T fz)
theorem lt_of_heap {w:World} {b:Nat} {o:Obj} (h:w.heap[b]? =some o):b<w.heap.size:=(Array.getElem?_eq_some_iff.1 h).1
theorem Sm.refl {D:Nat→TypeId→Prop} (w:World):Sm D w w:=fun _ _ _ _ h _=>h
theorem Sm.trans {D:Nat→TypeId→Prop} {a b c:World} (h:Sm D a b) (k:Sm D b c):Sm D a c:=fun _ _ _ _ hh hd=>k _ _ _ _ (h _ _ _ _ hh hd) hd
theorem _root_.Go.RowKit.Below.sm {D:Nat→TypeId→Prop} {B:Nat} {w w':World} (h:Below B w w') (hD:∀b T,D b T→b<B):Sm D w w':=
 fun b _ T _ hh hd=>(h.block b (hD b T hd)).trans hh
theorem Sm.ext {D:Nat→TypeId→Prop} {w w':World} (h:Ext w w'):Sm D w w':=fun b _ _ _ hh _=>(h.block b (lt_of_heap hh)).trans hh
theorem Sm.exc {D:Nat→TypeId→Prop} {b0:Nat} {w w':World} (h:Exc b0 w w') (hD:∀cs T fz,w.heap[b0]? =some (.cells cs T fz)→¬D b0 T):Sm D w w':=fun b cs T fz hh hd=>by
 have hne:b≠b0:=fun e=>by subst e;exact hD cs T fz hh hd
 exact(h.block b (lt_of_heap hh) hne).trans hh
def Bk (w:World) (b:Nat) (T:TypeId) (l:List Value):Prop:=w.heap[b]? =some (.cells l.toArray T (0,0))
theorem Bk.lt {w:World} {b:Nat} {T:TypeId} {l:List Value} (h:Bk w b T l):b<w.heap.size:=lt_of_heap h
theorem Bk.ext {w w':World} {b:Nat} {T:TypeId} {l:List Value} (h:Bk w b T l) (e:Ext w w'):Bk w' b T l:=(e.block b h.lt).trans h
theorem Bk.exc {w w':World} {b b0:Nat} {T:TypeId} {l:List Value} (h:Bk w b T l) (e:Exc b0 w w') (hne:b≠b0):Bk w' b T l:=(e.block b h.lt hne).trans h
theorem Bk.cell {w:World} {b:Nat} {T:TypeId} {l:List Value} (h:Bk w b T l) {j:Nat} {u:Value} (hj:l[j]? =some u):w.cell? ⟨b,j,none⟩=some u:=by
 simp only[World.cell?]
 rw[show w.heap[b]? =_ from h]
 simpa using hj
theorem Bk.sm {w:World} {b:Nat} {T:TypeId} {l:List Value} {D:Nat→TypeId→Prop} {w':World} (h:Bk w b T l) (e:Exc b w w') (hD:¬D b T):Sm D w w':=
 Sm.exc e fun cs T' fz hh=>by
  rw[show w.heap[b]? =_ from h] at hh
  injection hh with hh
  injection hh with _ hT _
  subst hT
  exact hD
/-! ### rows that are read -/
def Rd (D:Nat→TypeId→Prop) (w:World) (b o:Nat) (l:List Value):Prop:=l=[]∨∃cs T fz,w.heap[b]? =some (.cells cs T fz)∧D b T∧∀j u,l[j]? =some u→cs[o+j]? =some u
section rd
variable {D D':Nat→TypeId→Prop} {w w':World} {b o:Nat} {l:List Value}
theorem Rd.tr (h:Rd D w b o l) (hs:Sm D w w'):Rd D w' b o l:=by
 rcases h with h|⟨cs,T,fz,hh,hd,hc⟩
 ·exact .inl h
 exact .inr ⟨cs,T,fz,hs b cs T fz hh hd,hd,hc⟩
theorem Rd.mono (h:Rd D w b o l) (hD:∀b T,D b T→D' b T):Rd D' w b o l:=by
 rcases h with h|⟨cs,T,fz,hh,hd,hc⟩
 ·exact .inl h
 exact .inr ⟨cs,T,fz,hh,hD _ _ hd,hc⟩
theorem Rd.cell (h:Rd D w b o l) {j:Nat} {u:Value} (hj:l[j]? =some u):w.cell? ⟨b,o+j,none⟩=some u:=by
 rcases h with rfl|⟨cs,T,fz,hh,hd,hc⟩
 ·simp at hj
 simp only[World.cell?,hh]
 simpa using hc j u hj
theorem Rd.drop (h:Rd D w b o l) (k:Nat):Rd D w b (o+k) (l.drop k):=by
 rcases h with rfl|⟨cs,T,fz,hh,hd,hc⟩
 ·exact .inl (by simp)
 refine .inr ⟨cs,T,fz,hh,hd,fun j u hj=>?_⟩
 rw[Nat.add_assoc]
 exact hc (k+j) u (by rw[←hj,List.getElem?_drop])
theorem Rd.take (h:Rd D w b o l) (k:Nat):Rd D w b o (l.take k):=by
 rcases h with rfl|⟨cs,T,fz,hh,hd,hc⟩
 ·exact .inl (by simp)
 refine .inr ⟨cs,T,fz,hh,hd,fun j u hj=>?_⟩
 rw[List.getElem?_take] at hj
 split at hj
 ·exact hc j u hj
 cases hj
theorem Bk.rd {T:TypeId} {m:Nat} (h:Bk w b T l) (hd:D b T):Rd D w b m (l.drop m):=
 .inr ⟨l.toArray,T,(0,0),h,hd,fun j u hj=>by rw[List.getElem?_drop] at hj;simpa using hj⟩
end rd
def Sc (D:Nat→TypeId→Prop) (w:World) (size:Nat) (v:Value) (n:Nat) (l:List Value):Prop:=
 ∃A c,v= .slice A n c∧n≤c∧c≤maxLen∧l.length=n*size∧(l=[]∨∃b o,A=some ⟨b,o,none⟩∧Rd D w b o l)
section sc
variable {D D':Nat→TypeId→Prop} {w w':World} {size n:Nat} {v:Value} {l:List Value}
theorem Sc.tr (h:Sc D w size v n l) (hs:Sm D w w'):Sc D w' size v n l:=by
 obtain⟨A,c,rfl,h1,h2,h3,h4⟩:=h
 exact⟨A,c,rfl,h1,h2,h3,h4.imp id fun⟨b,o,e,r⟩=>⟨b,o,e,r.tr hs⟩⟩
theorem Sc.mono (h:Sc D w size v n l) (hD:∀b T,D b T→D' b T):Sc D' w size v n l:=by
 obtain⟨A,c,rfl,h1,h2,h3,h4⟩:=h
 exact⟨A,c,rfl,h1,h2,h3,h4.imp id fun⟨b,o,e,r⟩=>⟨b,o,e,r.mono hD⟩⟩
theorem Sc.nil:Sc D w size (.slice none 0 0) 0 []:=⟨none,0,rfl,Nat.le_refl _,by simp[maxLen],by simp,.inl rfl⟩
end sc
/-! ### types -/
structure TyI (P:Program) (e:TypeId) (size bytes:Nat) (z:Value):Prop where
 mk'::
 ex:∃i,P.info? e=some i∧i.zero=some z∧i.size=size∧i.bytes=bytes
theorem TyI.of {P:Program} {e:TypeId} {size bytes:Nat} {z:Value} (h:(P.info? e).map (fun i=>(i.zero,i.size,i.bytes))=some (some z,size,bytes)):TyI P e size bytes z:=by
 obtain⟨i,h1,h2,h3,h4⟩:=info_parts h
 exact⟨i,h1,h2,h3,h4⟩
def aggB (P:Program) (t:TypeId):Bool:=match P.underlying t with
 |some (.struct _)|some (.array _ _)=>true
 |_=>false
theorem run_isAgg {P:Program} {t:TypeId} {d:TypeDesc} (hu:P.underlying t=some d) (w:World):(isAgg t).run P w= .ok (aggB P t) w:=by
 unfold isAgg aggB
 simp only[Sem.run_bind,run_underlying hu,Result.andThen_ok,hu]
 cases d<;>rfl
section ops
variable {P:Program} {f:Nat→Value} {w:World} {dst:Option Tmp} {ty:TypeId} {pos:String} {aft:Array Edge} {g:Option (Nat×Bool)} {x y z:Operand} {t t' e:TypeId}
theorem add_spotless (b o n:Nat):(⟨b,o,none⟩:Addr).add n=⟨b,o+n,none⟩:=by
 unfold Addr.add
 split
 ·simp_all
 rfl
theorem r_load {d:TypeDesc} {p:Addr} {v:Value} (hu:P.underlying t=some d) (hb:aggB P t=false) (hx:ev f x= .pointer (some p)) (hc:w.cell? p=some v):
 (execOp (ev f) ⟨dst,.load t x,ty,pos,aft,g⟩).run P w= .ok (.value v) w:=by
 simp[execOp,hx,Instr.loadAt,Instr.sureAddr,loadVar,run_isAgg hu,hb,load,Sem.run,hc]
theorem r_loada {d:TypeDesc} {b o:Nat} {cs:List Value} {bytes:Nat} {zz:Value} (hu:P.underlying t=some d) (hb:aggB P t=true) (ht:TyI P t cs.length bytes zz) (hx:ev f x= .pointer (some ⟨b,o,none⟩)) (hc:∀j u,cs[j]? =some u→w.cell? ⟨b,o+j,none⟩=some u):
 (execOp (ev f) ⟨dst,.load t x,ty,pos,aft,g⟩).run P w= .ok (.value (.agg cs.toArray)) w:=by
 obtain⟨i,hi,_,hs,_⟩:=ht.ex
 have h:=run_loadCells_list (P:=P) w (⟨b,o,none⟩:Addr) cs (fun j u hj=>by rw[add_spotless];exact hc j u hj)
 simp[execOp,hx,Instr.loadAt,Instr.sureAddr,loadVar,run_isAgg hu,hb,sizeOf,typeInfo,hi,hs,h]
theorem r_field {d:TypeDesc} {fs:Array Field} {fl:Field} {i:Nat} {cs:Array Value} {v:Value} (hu:P.underlying t=some (.struct fs)) (hf:fs[i]? =some fl) (hd:P.underlying fl.type=some d) (hb:aggB P fl.type=false)
 (hx:ev f x= .agg cs) (hc:cs[fl.offset]? =some v):(execOp (ev f) ⟨dst,.field t x i,ty,pos,aft,g⟩).run P w= .ok (.value v) w:=by
 simp[execOp,hx,Instr.field,run_underlying hu,hf,asAgg,part,run_isAgg hd,hb,hc]
theorem r_fielda {d:TypeDesc} {fs:Array Field} {fl:Field} {i size bytes:Nat} {zz:Value} {cs:Array Value} (hu:P.underlying t=some (.struct fs)) (hf:fs[i]? =some fl) (hd:P.underlying fl.type=some d) (hb:aggB P fl.type=true) (ht:TyI P fl.type size bytes zz)
 (hx:ev f x= .agg cs):(execOp (ev f) ⟨dst,.field t x i,ty,pos,aft,g⟩).run P w= .ok (.value (.agg (cs.extract fl.offset (fl.offset+size)))) w:=by
 obtain⟨ii,hi,_,hs,_⟩:=ht.ex
 simp[execOp,hx,Instr.field,run_underlying hu,hf,asAgg,part,run_isAgg hd,hb,sizeOf,typeInfo,hi,hs]
theorem r_fieldAddr {fs:Array Field} {fl:Field} {i size bytes:Nat} {zz:Value} {b o:Nat} (hu:P.underlying t=some (.struct fs)) (hf:fs[i]? =some fl) (ht:TyI P fl.type (size+1) bytes zz) (hx:ev f x= .pointer (some ⟨b,o,none⟩)):
 (execOp (ev f) ⟨dst,.fieldAddr t x i,ty,pos,aft,g⟩).run P w= .ok (.value (.pointer (some ⟨b,o+fl.offset,none⟩))) w:=by
 obtain⟨ii,hi,_,hs,_⟩:=ht.ex
 simp[execOp,hx,Instr.fieldAt,Instr.sureAddr,run_underlying hu,hf,fieldPlace,sizeOf,typeInfo,hi,hs,add_spotless]
theorem r_indexAddr {k:IntKind} {i:Int} {b o n c size bytes:Nat} {zz:Value} (hu:P.underlying t=some (.slice e)) (ht:TyI P e size bytes zz) (hx:ev f x= .slice (some ⟨b,o,none⟩) n c) (hy:ev f y= .int k i) (h0:0≤i) (h1:i<n):
 (execOp (ev f) ⟨dst,.indexAddr t x y,ty,pos,aft,g⟩).run P w= .ok (.value (.pointer (some ⟨b,o+i.toNat*size,none⟩))) w:=by
 obtain⟨ii,hi,_,hs,_⟩:=ht.ex
 simp[execOp,hx,hy,Instr.indexAt,asIntOf,run_underlying hu,sizeOf,typeInfo,hi,hs,h0,h1,add_spotless]
theorem r_slice_h {k:IntKind} {A:Option Addr} {n c size bytes:Nat} {h:Int} {zz:Value} (hu:P.underlying t=some (.slice e)) (ht:TyI P e size bytes zz) (hx:ev f x= .slice A n c) (hy:ev f y= .int k h) (h0:0≤h) (h1:h≤c):
 (execOp (ev f) ⟨dst,.slice t x none (some y) none,ty,pos,aft,g⟩).run P w= .ok (.value (.slice A h.toNat c)) w:=by
 obtain⟨ii,hi,_,hs,_⟩:=ht.ex
 have hz:∀o:Option Addr,(o.map fun a=>a.add 0)=o:=fun o=>by cases o<;>simp[Addr.add]
 simp[execOp,hx,hy,Instr.sliceAt,Instr.slice,Instr.sliceBounds,Instr.sliceBound,asIntOf,run_underlying hu,sizeOf,typeInfo,hi,hs,h0,h1,hz]
theorem r_slice_l {k:IntKind} {A:Option Addr} {n c size bytes:Nat} {l:Int} {zz:Value} (hu:P.underlying t=some (.slice e)) (ht:TyI P e size bytes zz) (hx:ev f x= .slice A n c) (hy:ev f y= .int k l) (h0:0≤l) (h1:l≤n):
 (execOp (ev f) ⟨dst,.slice t x (some y) none none,ty,pos,aft,g⟩).run P w= .ok (.value (.slice (if c=l.toNat then A else A.map (·.add (l.toNat*size))) (n-l.toNat) (c-l.toNat))) w:=by
 obtain⟨ii,hi,_,hs,_⟩:=ht.ex
 simp[execOp,hx,hy,Instr.sliceAt,Instr.slice,Instr.sliceBounds,Instr.sliceBound,asIntOf,run_underlying hu,sizeOf,typeInfo,hi,hs,h0,h1]
end ops
/-! ### operations that make or write memory -/
def Run (P:Program) (f:Nat→Value) (o:Oper) (w:World) (R:Value→World→Prop):Prop:=∃v w',(execOp (ev f) o).run P w= .ok (.value v) w'∧R v w'
def RunS (P:Program) (f:Nat→Value) (o:Oper) (w:World) (R:World→Prop):Prop:=∃w',(execOp (ev f) o).run P w= .ok .skip w'∧R w'
section
variable {P:Program} {n:Nat} {Q:Po} {f:Nat→Value} {w w':World} {ops:Array Oper} {o:Oper} {rest:List Oper} {d:Nat} {R:Value→World→Prop} {R0:World→Prop}
theorem RL.run (hg:o.guard=none) (hd:o.dst=some d) (hn:d<n) (hr:Run P f o w R) (h:∀v w',R v w'→RL P n ops rest Q (st f d v) w'):RL P n ops (o::rest) Q f w:=by
 obtain⟨v,w',hr,hR⟩:=hr
 exact RL.val hg hd hn hr (h v w' hR)
theorem RL.runs (hg:o.guard=none) (hd:o.dst=none) (hr:RunS P f o w R0) (h:∀w',R0 w'→RL P n ops rest Q f w'):RL P n ops (o::rest) Q f w:=by
 obtain⟨w',hr,hR⟩:=hr
 exact RL.skip hg hd hr (h w' hR)
variable {S:World→Prop} {fuel:Nat} {listed:Array Bool} {i:Nat} {rs:List Nat}
theorem RS.run (hi:ops[i]? =some o) (hg:o.guard=none) (hd:o.dst=some d) (hn:d<n) (hr:Run P f o w R) (h:∀v w',R v w'→Oks ops S i w w'∧RA P n ops Q S fuel (listed.setIfInBounds i true) (st f d v) w')
 (hs:RS P n ops Q S fuel listed f w rs):RS P n ops Q S fuel listed f w (i::rs):=by
 obtain⟨v,w',hr,hR⟩:=hr
 exact RS.val hi hg hd hn hr (h v w' hR).1 (h v w' hR).2 hs
theorem RS.runs (hi:ops[i]? =some o) (hg:o.guard=none) (hd:o.dst=none) (hr:RunS P f o w R0) (h:∀w',R0 w'→Oks ops S i w w'∧RA P n ops Q S fuel (listed.setIfInBounds i true) f w')
 (hs:RS P n ops Q S fuel listed f w rs):RS P n ops Q S fuel listed f w (i::rs):=by
 obtain⟨w',hr,hR⟩:=hr
 exact RS.skip hi hg hd hr (h w' hR).1 (h w' hR).2 hs
end
def spl (l:List Value) (o:Nat) (vs:List Value):List Value:=l.take o++vs++l.drop (o+vs.length)
section heavy
variable {P:Program} {f:Nat→Value} {w:World} {dst:Option Tmp} {ty:TypeId} {pos:String} {aft:Array Edge} {g:Option (Nat×Bool)} {x y z:Operand} {t t' e:TypeId}
theorem ext_alloc (w:World) (o:Obj):Ext w (w.alloc o):=(Below.refl _ _).alloc (Nat.le_refl _) o
theorem bk_alloc (w:World) (T:TypeId) (l:List Value):Bk (w.alloc (.cells l.toArray T)) w.heap.size T l:=heap_alloc_new w _
def Mk (w:World) (T:TypeId) (l:List Value) (b:Nat) (w':World):Prop:=b=w.heap.size∧Bk w' b T l∧Ext w w'
theorem h_box {vv:Value} {cs:List Value} (hx:ev f x=vv) (hc:vv.cells=cs.toArray):Run P f ⟨dst,.box t x,ty,pos,aft,g⟩ w fun v w'=>∃b,v= .pointer (some ⟨b,0,none⟩)∧Mk w t cs b w':=
 ⟨_,_,by simp[execOp,hx,Instr.box,newVar,newRow,hc],_,rfl,rfl,bk_alloc w t cs,ext_alloc w _⟩
theorem h_alloc {size bytes:Nat} {zz:Value} {cs:List Value} (ht:TyI P t size bytes zz) (hc:zz.cells=cs.toArray):Run P f ⟨dst,.alloc t,ty,pos,aft,g⟩ w fun v w'=>∃b,v= .pointer (some ⟨b,0,none⟩)∧Mk w t cs b w':=by
 obtain⟨i,hi,hz,_,_⟩:=ht.ex
 exact⟨_,_,by simp[execOp,Instr.alloc,zeroValue,typeInfo,hi,hz,newVar,newRow,hc],_,rfl,rfl,bk_alloc w t cs,ext_alloc w _⟩
theorem exc_setRow (w:World) (b:Nat) (cs:Array Value):Exc b w (w.setRow b cs):=
 ⟨rfl,rfl,rfl,by simp[World.setRow],fun k _ hne=>by simp[World.setRow,Array.getElem?_modify,Ne.symm hne]⟩
theorem h_store {T:TypeId} {b o:Nat} {l:List Value} {vv:Value} {cs:List Value} {size bytes:Nat} {zz:Value} (ht:TyI P t size bytes zz) (hx:ev f x= .pointer (some ⟨b,o,none⟩)) (hy:ev f y=vv) (hc:vv.cells=cs.toArray) (hs:cs.length=size)
 (h1:∀u∈cs,u.oneCell'=true) (hb:Bk w b T l) (hfit:o+cs.length≤l.length):
 RunS P f ⟨dst,.store t x y,ty,pos,aft,g⟩ w fun w'=>Bk w' b T (spl l o cs)∧Exc b w w'∧w'.heap.size=w.heap.size:=by
 obtain⟨i,hi,_,hsz,_⟩:=ht.ex
 have hst:=run_storeCells_at P b o T cs 0 l.toArray w hb (by simpa using hfit) h1
 simp only[Nat.add_zero] at hst
 refine⟨w.setRow b (spl l o cs).toArray,?_,?_,exc_setRow _ _ _,by simp[World.setRow]⟩
 ·simp[execOp,hx,hy,Instr.storeAt,Instr.sureAddr,storeVar,hc,hs,hsz,sizeOf,typeInfo,hi,hst,spl]
 exact setRow_heap w b l.toArray _ T (0,0) hb
end heavy
end Go.Vg
namespace Go.Vg
open Go.RowKit
section calls
variable {P:Program} {n:Nat} {f:Nat→Value} {w:World}
def Res1 (P:Program) (f:Nat→Value) (w:World):ResultVar→Value→Prop
 |.tmp t,v=>v=f t
 |.cell a T,v=>∃b o cs,f a= .pointer (some ⟨b,o,none⟩)∧(∃d,P.underlying T=some d)∧(∀j u,cs[j]? =some u→w.cell? ⟨b,o+j,none⟩=some u)∧
  ((aggB P T=true∧(∃by' z,TyI P T cs.length by' z)∧v= .agg cs.toArray)∨(aggB P T=false∧cs=[v]))
def Rets (P:Program) (f:Nat→Value) (w:World):List ResultVar→List Value→Prop
 |[],[]=>True
 |r::rs,v::vs=>Res1 P f w r v∧Rets P f w rs vs
 |_,_=>False
def retv:List Value→Value
 |[v]=>v
 |vs=> .tuple vs.toArray
def rdv (tmps:Array Value):ResultVar→Sem Value
 |.tmp t=>pure (tmps.getD t undef)
 |.cell ad T=>do loadVar T (←asAddr (tmps.getD ad undef))
theorem run_res1 {a:Act} (ha:Fm n f a) {r:ResultVar} {v:Value} (h:Res1 P f w r v):
 (rdv a.tmps r).run P w= .ok v w:=by
 cases r with
 |tmp t=>
  have h':v=f t:=h
  rw[h',←ha.2.2 t]
  rfl
 |cell ad T=>
  obtain⟨b,o,cs,h1,⟨d,hd⟩,h2,h3⟩:=h
  have e:=ha.2.2 ad
  rw[h1] at e
  simp only[rdv,e]
  have hl:=run_loadCells_list (P:=P) w (⟨b,o,none⟩:Addr) cs (fun j u hj=>by rw[add_spotless];exact h2 j u hj)
  rcases h3 with ⟨hb,⟨by',z,ht⟩,rfl⟩|⟨hb,rfl⟩
  ·obtain⟨i,hi,_,hs,_⟩:=ht.ex
   simp[asAddr,loadVar,run_isAgg hd,hb,sizeOf,typeInfo,hi,hs,hl]
  have hc:=h2 0 v rfl
  simp only[Nat.add_zero] at hc
  simp[asAddr,loadVar,run_isAgg hd,hb,load,Sem.run,hc]
theorem run_rets {a:Act} (ha:Fm n f a):∀{rs:List ResultVar} {vs:List Value},Rets P f w rs vs→
 (rs.mapM (rdv a.tmps)).run P w= .ok vs w
 |[],[],_=>by simp
 |r::rs,v::vs,h=>by
  have h1:=run_res1 ha h.1
  have h2:=run_rets ha h.2
  rw[List.mapM_cons]
  simp only[Sem.run_bind,h1,h2,Result.andThen_ok,Sem.run_pure]
 |[],_::_,h=>h.elim
 |_::_,[],h=>h.elim
theorem calls_of {k:FuncId} {fn:Func} {c:Code} {args:Array Value} {rs:List ResultVar} {R:Value→World→Prop} (hf:P.funcs[k]? =some fn) (hb:fn.body=some c) (hn:fn.ntmps=n) (hr:fn.results=rs.toArray) (hsz:args.size≤n)
 (h:WP P n c ⟨fun f w=>∃vs,Rets P f w rs vs∧R (retv vs) w,fun _ _ _=>False,fun f w=>∃vs,Rets P f w rs vs∧R (retv vs) w⟩ (fun i=>args.getD i undef) w):
 Calls P k args w fun e w'=>∃v,e= .returned v∧R v w':=by
 have ha0:Fm n (fun i=>args.getD i undef) {tmps:=args++Array.replicate (fn.ntmps-args.size) undef,defers:=[]}:=by
  refine⟨rfl,by simp[hn];omega,fun i=>?_⟩
  by_cases h1:i<args.size
  ·simp[Array.getD,h1,Array.getElem_append_left,Nat.lt_of_lt_of_le h1 (Nat.le_add_right _ _)]
  by_cases h2:i<n
  ·have h3:i<args.size+(fn.ntmps-args.size):=by omega
   simp only[Array.getD,Array.size_append,Array.size_replicate,h3,h1,dite_true,dite_false]
   simp[Array.getElem_append,h1]
  have h3:¬i<args.size+(fn.ntmps-args.size):=by omega
  simp only[Array.getD,Array.size_append,Array.size_replicate,h3,h1,dite_false]
 have fin:∀(a:Act) (f:Nat→Value) (w:World),Fm n f a→(∃vs,Rets P f w rs vs∧R (retv vs) w)→a.defers=[]∧∃v,(results fn a.tmps).run P w= .ok v w∧∃u,Ending.returned v= .returned u∧R u w:=by
  intro a f w ha ⟨vs,hv,hR⟩
  refine⟨ha.1,retv vs,?_,_,rfl,hR⟩
  have h1:=run_rets ha hv
  have e:results fn a.tmps=(do let vs ←fn.results.mapM (rdv a.tmps);pure (if h:vs.size=1 then vs[0] else .tuple vs)):=rfl
  rw[e,hr,List.mapM_toArray]
  simp only[Sem.run_bind,Sem.run_map,h1,Result.andThen_ok,Sem.run_pure]
  congr 1
  match vs with
  |[]=>rfl
  |[v]=>rfl
  |v::u::vs=>simp[retv]
 refine calls_of_wp hf hb (wp_mono (h _ ha0) fun e a w hq=>?_)
 cases e with
 |normal=>obtain⟨f,hf,hh⟩:=hq;exact fin a f w hf hh
 |ret=>obtain⟨f,hf,hh⟩:=hq;exact fin a f w hf hh
 |exit i=>obtain⟨f,hf,hh⟩:=hq;exact hh.elim
 |goto l=>exact hq.elim
 |panic c=>exact hq.elim
 |outgrown=>exact hq.elim
theorem wset {c:Code} {Q:Po} (h:∀F,(∀i,F i=f i)→WP P n c Q F w):WP P n c Q f w:=h f fun _=>rfl
end calls
def rg:Nat→Nat→List Nat→List Nat
 |_,0,l=>l
 |a,n+1,l=>a::rg (a+1) n l
def Off (M:List Nat) (F f:Nat→Value):Prop:=∀i,M.contains i=false→f i=F i
theorem Off.refl (M:List Nat) (F:Nat→Value):Off M F F:=fun _ _=>rfl
theorem Off.st {M:List Nat} {F f:Nat→Value} (h:Off M F f) {d:Nat} (hd:M.contains d=true) (v:Value):Off M F (st f d v):=fun i hi=>by
 have hne:i≠d:=fun e=>by subst e;rw[hd] at hi;cases hi
 rw[st_other _ _ _ _ hne]
 exact h i hi
theorem Off.eq {M:List Nat} {G F f:Nat→Value} (hF:∀i,F i=f i) (h:Off M G f):Off M G F:=fun i hi=>(hF i).trans (h i hi)
theorem Off.via {M M':List Nat} {G F f:Nat→Value} (h':Off M' F f) (hM:(M'.all fun i=>M.contains i)=true) (h:Off M G F):Off M G f:=fun i hi=>by
 refine(h' i ?_).trans (h i hi)
 cases hc:M'.contains i with
 |false=>rfl
 |true=>
  have:=List.all_eq_true.1 hM i (by simpa using hc)
  rw[this] at hi
  cases hi
theorem int_eq {k:IntKind} {a b:Int} (h:a=b):Value.int k a= .int k b:=by rw[h]
theorem bool_eq {a b:Bool} (h:a=b):Value.bool a= .bool b:=by rw[h]
end Go.Vg
namespace Go.Vg
open Go.RowKit
theorem madeCells_one (z:Value) (n:Nat) (h:z.cells=#[z]):(madeCells z.cells n).toList=List.replicate n z:=by
 rw[h]
 apply List.ext_getElem
 ·simp[madeCells]
 intro i h1 h2
 simp[madeCells,Nat.mod_one]
theorem made_flat (z:Array Value) (n:Nat):(madeCells z (n*z.size)).toList=(List.replicate n z.toList).flatten:=by
 induction n with
 |zero=>simp[madeCells]
 |succ n ih=>
  rw[List.replicate_succ',List.flatten_append,←ih]
  apply List.ext_getElem
  ·simp[madeCells,Nat.add_mul]
  intro i h1 h2
  simp only[madeCells,Array.toList_map,Array.toList_range,List.getElem_map,List.getElem_range,List.flatten_cons,List.flatten_nil,List.append_nil] at*
  by_cases hi:i<n*z.size
  ·rw[List.getElem_append_left (by simpa using hi)]
   simp
  rw[List.getElem_append_right (by simpa using hi)]
  simp only[List.length_map,List.length_range]
  have h3:i<n*z.size+z.size:=by simpa[madeCells,Nat.add_mul] using h1
  have h4:i%z.size=i-n*z.size:=by
   obtain⟨k,rfl⟩:∃k,i=n*z.size+k:=⟨i-n*z.size,by omega⟩
   rw[Nat.mul_comm,Nat.mul_add_mod,Nat.mod_eq_of_lt oM]
   omega
  rw[h4,getElem!_pos z (i-n*z.size) oM]
  simp
theorem cast_room {b n:Nat} (h:b*n≤281474976710656):(b:Int)*(n:Int)≤281474976710656:=by
 have:((b*n:Nat):Int)≤281474976710656:=by omega
 rwa [Int.natCast_mul] at this
section heavy
variable {P:Program} {f:Nat→Value} {w:World} {dst:Option Tmp} {ty:TypeId} {pos:String} {aft:Array Edge} {g:Option (Nat×Bool)} {x y z:Operand} {t t' e:TypeId} {D:Nat→TypeId→Prop}
theorem h_make1 {k k':IntKind} {n:Nat} {zz:Value} {bytes:Nat} (hu:P.underlying t=some (.slice e)) (ht:TyI P e 1 bytes zz) (hz:zz.cells=#[zz]) (hx:ev f x= .int k (n:Int)) (hy:ev f y= .int k' (n:Int)) (hb:bytes*n≤281474976710656) (h63:n≤9223372036854775807):
 Run P f ⟨dst,.makeSlice t x y,ty,pos,aft,g⟩ w fun v w'=>∃b,v= .slice (some ⟨b,0,none⟩) n n∧Mk w e (List.replicate n zz) b w':=by
 obtain⟨i,hi,hzi,hs,hby⟩:=ht.ex
 have hr:=run_make (P:=P) w t e i zz hu hi hzi k k' n n oM (Int.le_refl _) (by rw[hby];exact cast_room hb) oM
 simp only[Int.toNat_natCast,hs,Nat.mul_one] at hr
 refine⟨.slice (some ⟨w.heap.size,0,none⟩) n n,w.alloc (.cells (madeCells zz.cells n) e),by simp only[execOp,hx,hy,Sem.run_bind,hr,Result.andThen_ok,Sem.run_pure],_,rfl,rfl,?_,ext_alloc w _⟩
 have h:=bk_alloc w e (List.replicate n zz)
 rw[←madeCells_one zz n hz] at h ⊢
 simpa using h
theorem h_make {k k':IntKind} {n c:Nat} {zz:Value} {size bytes:Nat} (hu:P.underlying t=some (.slice e)) (ht:TyI P e size bytes zz) (hz:zz.cells.size=size) (hx:ev f x= .int k (n:Int)) (hy:ev f y= .int k' (c:Int)) (hnc:n≤c) (hb:bytes*c≤281474976710656) (h63:c≤9223372036854775807):
 Run P f ⟨dst,.makeSlice t x y,ty,pos,aft,g⟩ w fun v w'=>∃b,v= .slice (some ⟨b,0,none⟩) n c∧Mk w e (List.replicate c zz.cells.toList).flatten b w':=by
 obtain⟨i,hi,hzi,hs,hby⟩:=ht.ex
 have hr:=run_make (P:=P) w t e i zz hu hi hzi k k' n c oM oM (by rw[hby];exact cast_room hb) oM
 simp only[Int.toNat_natCast,hs,←hz] at hr
 refine⟨.slice (some ⟨w.heap.size,0,none⟩) n c,w.alloc (.cells (madeCells zz.cells (c*zz.cells.size)) e),by simp only[execOp,hx,hy,Sem.run_bind,hr,Result.andThen_ok,Sem.run_pure],_,rfl,rfl,?_,ext_alloc w _⟩
 have h:=bk_alloc w e (List.replicate c zz.cells.toList).flatten
 rw[←made_flat] at h ⊢
 simpa using h
theorem h_lit {len size bytes:Nat} {zz:Value} {al:List (Nat×Operand)} {vl:List (Nat×Value)} {cs:List Value} (hu:P.underlying t=some (.slice e)) (ht:TyI P e size bytes zz) (ha:al.map (fun p=>(p.1,ev f p.2))=vl) (hbig:len*size≤16777216)
 (hf:Instr.fill (fun i=>some (i*size,size)) ((Array.range (len*size)).map ((if len*size=0 then #[] else zz.cells)[·%(if len*size=0 then #[] else zz.cells).size]!)) vl=some cs.toArray):
 Run P f ⟨dst,.buildSlice t len al.toArray,ty,pos,aft,g⟩ w fun v w'=>∃b,v= .slice (some ⟨b,0,none⟩) len len∧Mk w e cs b w':=by
 obtain⟨i,hi,hzi,hs,hby⟩:=ht.ex
 subst ha
 have hn:¬(16777216<len*size):=by omega
 refine⟨.slice (some ⟨w.heap.size,0,none⟩) len len,w.alloc (.cells cs.toArray e),?_,_,rfl,rfl,bk_alloc w e cs,ext_alloc w _⟩
 by_cases h0:len*size=0
 ·simp only[h0,if_true] at hf
  simp[execOp,Instr.buildSlice,run_underlying hu,sizeOf,typeInfo,hi,hs,h0,newRow]
  try simp at hf
  simp[hf]
 simp only[h0,if_false] at hf
 simp[execOp,Instr.buildSlice,run_underlying hu,sizeOf,typeInfo,hi,hs,h0,hn,zeroValue,hzi,newRow]
 try simp at hf
 simp[hf]
theorem r_build {al:List (Nat×Operand)} {vl:List (Nat×Value)} {fs:Array Field} {pl:Array (Nat×Nat)} {zz:Value} {size bytes:Nat} {cs:List Value} (hu:P.underlying t=some (.struct fs)) (ht:TyI P t size bytes zz) (ha:al.map (fun p=>(p.1,ev f p.2))=vl)
 (hp:∀w,(fs.mapM fun(fl:Field)=>(do pure (fl.offset,←sizeOf fl.type):Sem (Nat×Nat))).run P w= .ok pl w) (hf:Instr.fill (pl[·]?) zz.cells vl=some cs.toArray):
 (execOp (ev f) ⟨dst,.build t al.toArray,ty,pos,aft,g⟩).run P w= .ok (.value (.agg cs.toArray)) w:=by
 obtain⟨i,hi,hzi,hs,hby⟩:=ht.ex
 subst ha
 have hzv:(zeroValue t).run P w= .ok zz w:=by simp[zeroValue,typeInfo,hi,hzi]
 simp only[execOp,Instr.build,Sem.run_bind,hzv,Result.andThen_ok,run_underlying hu,hp,List.map_toArray]
 rw[hf]
 simp
/-! append onto a slice of one's own -/
abbrev Ow (w:World) (lo:Nat) (e:TypeId) (size:Nat) (v:Value) (n:Nat) (l:List Value):Prop:=w.ownsRow lo e size v n l
theorem Ow.sc {lo size n:Nat} {v:Value} {l:List Value} (h:Ow w lo e size v n l) (hD:∀b,lo≤b→D b e):Sc D w size v n l:=by
 obtain⟨h1,h2⟩:=h
 rcases h2 with ⟨rfl,rfl⟩|⟨b,cap,cur,rfl,hb,hh,hc,hm,hs,ht⟩
 ·exact⟨none,0,rfl,Nat.le_refl _,by simp[maxLen],h1,.inl (List.eq_nil_of_length_eq_zero (by simpa using h1))⟩
 refine⟨some ⟨b,0,none⟩,cap,rfl,hc,hm,h1,.inr ⟨b,0,rfl,.inr ⟨cur,e,(0,0),hh,hD b hb,fun j u hj=>?_⟩⟩⟩
 rw[←ht,List.getElem?_take] at hj
 split at hj
 ·simpa using hj
 cases hj
theorem Ow.sm {w':World} {lo size n:Nat} {v:Value} {l:List Value} (h:Ow w lo e size v n l) (hg:w.grownBy w' v.ownBlock) (hD:∀b,lo≤b→¬D b e):Sm D w w':=by
 intro b cs T fz hh hd
 refine(hg.block b (lt_of_heap hh) (fun he=>?_)).trans hh
 rcases h.2 with ⟨rfl,_⟩|⟨b',cap,cur,rfl,hb,hh',_⟩
 ·simp[Value.ownBlock] at he
 simp[Value.ownBlock] at he
 subst he
 rw[hh'] at hh
 injection hh with hh
 injection hh with _ hT _
 subst hT
 exact hD _ hb hd
theorem Ow.bk {w':World} {lo size n b:Nat} {T:TypeId} {v:Value} {l l':List Value} (h:Ow w lo e size v n l) (hg:w.grownBy w' v.ownBlock) (hb:Bk w b T l') (hne:b<lo∨T≠e):Bk w' b T l':=by
 refine(hg.block b hb.lt (fun he=>?_)).trans hb
 rcases h.2 with ⟨rfl,_⟩|⟨b',cap,cur,rfl,hlo,hh',_⟩
 ·simp[Value.ownBlock] at he
 simp[Value.ownBlock] at he
 subst he
 rcases hne with h|h
 ·omega
 unfold Bk at hb
 rw[hh'] at hb
 injection hb with hb
 injection hb with _ hT _
 exact h hT.symm
theorem Ow.below {w0 w':World} {B lo size n:Nat} {v:Value} {l:List Value} (h:Ow w lo e size v n l) (hg:w.grownBy w' v.ownBlock) (hE:Below B w0 w) (hB:B≤lo) (hs:B≤w.heap.size):Below B w0 w':=
 hE.grown hg hs (fun k hk=>by have:=h.lt k hk;omega)
theorem Ow.ext {w':World} {lo size n:Nat} {v:Value} {l:List Value} (h:Ow w lo e size v n l) (hE:Ext w w'):Ow w' lo e size v n l:=
 h.kept (row:=none) ⟨hE.os,hE.tape,hE.output,hE.size,fun k hk _=>hE.block k hk⟩ (by cases hv:v.ownBlock<;>simp)
theorem Ow.exc {w':World} {lo size n b0:Nat} {v:Value} {l l0:List Value} {T0:TypeId} (h:Ow w lo e size v n l) (hE:Exc b0 w w') (hb:Bk w b0 T0 l0) (hne:b0<lo∨T0≠e):Ow w' lo e size v n l:=by
 refine h.kept (row:=some b0) ⟨hE.os,hE.tape,hE.output,hE.size,fun k hk hne=>hE.block k hk (fun he=>hne (by rw[he]))⟩ ?_
 rcases h.2 with ⟨rfl,_⟩|⟨b',cap,cur,rfl,hlo,hh',_⟩
 ·exact .inl rfl
 right
 simp only[Value.ownBlock]
 intro he
 injection he with he
 subst he
 rcases hne with h|h
 ·omega
 unfold Bk at hb
 rw[hh'] at hb
 injection hb with hb
 injection hb with _ hT _
 exact h hT.symm
theorem Ow.mono {lo lo' size n:Nat} {v:Value} {l:List Value} (h:Ow w lo e size v n l) (hl:lo'≤lo):Ow w lo' e size v n l:=by
 refine⟨h.1,h.2.imp id ?_⟩
 rintro⟨b,cap,cur,h1,h2,h3⟩
 exact⟨b,cap,cur,h1,by omega,h3⟩
theorem Ow.made {lo b n size:Nat} {l:List Value} (hb:Bk w b e l) (hlo:lo≤b) (hn:l.length=n*size) (hm:n≤maxLen):Ow w lo e size (.slice (some ⟨b,0,none⟩) n n) n l:=
 ⟨hn,.inr ⟨b,n,l.toArray,rfl,hlo,hb,Nat.le_refl _,hm,by simpa using hn,by simp[←hn]⟩⟩
theorem Ow.nil (lo size:Nat):Ow w lo e size (.slice none 0 0) 0 []:=⟨by simp,.inl ⟨rfl,rfl⟩⟩
theorem h_append {lo size bytes n m:Nat} {zz v1 v2:Value} {l news:List Value} (hu:P.underlying t=some (.slice e)) (ht:TyI P e size bytes zz) (hz:zz.cells.size=size) (hsz:0<size) (hx:ev f x=v1) (hy:ev f y=v2)
 (ho:Ow w lo e size v1 n l) (hs:Sc D w size v2 m news) (h1:∀u∈news,u.oneCell'=true) (h63:n+m≤maxLen) (hby:(n+m)*bytes≤140737488355328) (hlo:lo≤w.heap.size):
 Run P f ⟨dst,.call ⟨.builtin .append,#[x,y],#[t,t]⟩,ty,pos,aft,g⟩ w fun v w'=>Ow w' lo e size v (n+m) (l++news)∧w.grownBy w' v1.ownBlock:=by
 obtain⟨i,hi,hzi,hsi,hbi⟩:=ht.ex
 obtain⟨A,c,rfl,hmc,hcm,hl,hA⟩:=hs
 have key:∃v' w',(Builtin.append_ #[t,t] ty #[v1,.slice A m c]).run P w= .ok v' w'∧w'.ownsRow lo e size v' (n+m) (l++news)∧w.grownBy w' v1.ownBlock:=by
  rcases hA with rfl|⟨b,o,rfl,hrd⟩
  ·have hm:m=0:=by
    rcases Nat.eq_zero_or_pos m with h|h
    ·exact h
    exact absurd hl.symm (by have:=Nat.mul_pos h hsz;simp;omega)
   subst hm
   cases A with
   |none=>
    refine⟨v1,w,?_,by simpa using ho,⟨rfl,rfl,rfl,Nat.le_refl _,fun _ _ _=>rfl⟩⟩
    rcases ho.2 with ⟨rfl,rfl⟩|⟨b,cap,cur,rfl,_,_,hnc,_⟩
    ·simp[Builtin.append_,run_underlying hu,sizeOf,typeInfo,hi,Builtin.lenOf,Builtin.firstCells]
    simp[Builtin.append_,run_underlying hu,sizeOf,typeInfo,hi,Builtin.lenOf,Builtin.firstCells,hnc,storeCells]
   |some ad=>
    obtain⟨v',w',h1,h2,h3,_⟩:=run_append_own_at (P:=P) w lo t ty e i zz size bytes hu hi hzi hsi hbi hz hsz v1 n l ho ad 0 c [] (by simp) (by simp) (by simp) (by simpa using h63) (by simpa using hby) hlo
    exact⟨v',w',h1,h2,h3⟩
  obtain⟨v',w',h1,h2,h3,_⟩:=run_append_own_at (P:=P) w lo t ty e i zz size bytes hu hi hzi hsi hbi hz hsz v1 n l ho ⟨b,o,none⟩ m c news hl (fun j u hj=>by rw[add_spotless];exact hrd.cell hj) h1 h63 hby hlo
  exact⟨v',w',h1,h2,h3⟩
 obtain⟨v',w',h2,h3,h4⟩:=key
 exact⟨v',w',by simp[execOp,resolve,invoke,builtin,hx,hy,h2],h3,h4⟩
end heavy
end Go.Vg
namespace Go.Vg
open Go.RowKit
def Sg {α:Type} (g:α→Value) (D:Nat→TypeId→Prop) (w:World) (v:Value) (xs:List α):Prop:=Sc D w 1 v xs.length (xs.map g)
def Ar {α:Type} (g:α→Value) (w:World) (b:Nat) (T:TypeId) (o:Nat) (xs:List α) (n:Nat):Prop:=(∃pre post,pre.length=o∧Bk w b T (pre++xs.map g++post))∧xs.length=n
abbrev gI (k:IntKind):Int→Value:=fun z=> .int k z
abbrev gB:Bool→Value:=fun b=> .bool b
section
variable {α:Type} {g:α→Value} {D D':Nat→TypeId→Prop} {w w':World} {v:Value} {xs:List α} {b n:Nat} {T:TypeId}
theorem Sg.tr (h:Sg g D w v xs) (hs:Sm D w w'):Sg g D w' v xs:=Sc.tr h hs
theorem Sg.mono (h:Sg g D w v xs) (hD:∀b T,D b T→D' b T):Sg g D' w v xs:=Sc.mono h hD
theorem Sg.nil:Sg g D w (.slice none 0 0) []:=Sc.nil
theorem Sg.len (h:Sg g D w v xs):∃A c,v= .slice A xs.length c∧xs.length≤c∧c≤9223372036854775807:=by
 obtain⟨A,c,rfl,h1,h2,_⟩:=h
 exact⟨A,c,rfl,h1,by simpa[maxLen] using h2⟩
theorem Sg.ix [Inhabited α] (h:Sg g D w v xs) {i:Int} (k:Nat) (hi:i=(k:Int)) (hk:k<xs.length):
 ∃bb o c,v= .slice (some ⟨bb,o,none⟩) xs.length c∧w.cell? ⟨bb,o+i.toNat*1,none⟩=some (g (xs.getD k default)):=by
 obtain⟨A,c,rfl,h1,h2,h3,h4⟩:=h
 subst hi
 rcases h4 with h4|⟨bb,o,rfl,hr⟩
 ·have:xs=[]:=List.map_eq_nil_iff.1 h4
  subst this
  simp at hk
 refine⟨bb,o,c,rfl,?_⟩
 have:=hr.cell (j:=k) (u:=g (xs.getD k default)) (by simp[hk])
 simpa using this
theorem Sg.take (h:Sg g D w v xs) (k:Nat) (hk:k≤xs.length) {A:Option Addr} {m c:Nat} (hv:v= .slice A m c):Sg g D w (.slice A k c) (xs.take k):=by
 obtain⟨A',c',rfl,h1,h2,h3,h4⟩:=h
 injection hv with e1 e2 e3
 subst e1 e2 e3
 have hl:(xs.take k).length=k:=by simp[hk]
 refine⟨A',c',by rw[hl],by omega,h2,by simp,?_⟩
 rcases h4 with h4|⟨bb,o,rfl,hr⟩
 ·have:xs=[]:=List.map_eq_nil_iff.1 h4
  subst this
  exact .inl (by simp)
 exact .inr ⟨bb,o,rfl,by rw[List.map_take];exact hr.take k⟩
theorem Sg.drop (h:Sg g D w v xs) (k:Nat) (hk:k≤xs.length) {A:Option Addr} {m c:Nat} (hv:v= .slice A m c):Sg g D w (.slice (if c=k then A else A.map (·.add (k*1))) (m-k) (c-k)) (xs.drop k):=by
 obtain⟨A',c',rfl,h1,h2,h3,h4⟩:=h
 injection hv with e1 e2 e3
 subst e1 e2 e3
 have hl:(xs.drop k).length=xs.length-k:=by simp
 refine⟨_,_,by rw[hl],by omega,by omega,by simp,?_⟩
 by_cases hx:xs.drop k=[]
 ·exact .inl (by rw[hx];rfl)
 rcases h4 with h4|⟨bb,o,rfl,hr⟩
 ·have:xs=[]:=List.map_eq_nil_iff.1 h4
  subst this
  exact absurd (by simp) hx
 have hlt:k<xs.length:=by
  rcases Nat.lt_or_ge k xs.length with h|h
  ·exact h
  exact absurd (List.drop_of_length_le h) hx
 rw[if_neg oM]
 refine .inr ⟨bb,o+k,?_,by rw[List.map_drop];exact hr.drop k⟩
 simp[add_spotless]
theorem Ar.ext {o:Nat} (h:Ar g w b T o xs n) (e:Ext w w'):Ar g w' b T o xs n:=by
 obtain⟨⟨pre,post,h1,h2⟩,h3⟩:=h
 exact⟨⟨pre,post,h1,h2.ext e⟩,h3⟩
theorem Ar.exc {o b0:Nat} (h:Ar g w b T o xs n) (e:Exc b0 w w') (hne:b≠b0):Ar g w' b T o xs n:=by
 obtain⟨⟨pre,post,h1,h2⟩,h3⟩:=h
 exact⟨⟨pre,post,h1,h2.exc e hne⟩,h3⟩
theorem Ar.lt {o:Nat} (h:Ar g w b T o xs n):b<w.heap.size:=by
 obtain⟨⟨pre,post,h1,h2⟩,h3⟩:=h
 exact h2.lt
theorem Ar.cell [Inhabited α] {o:Nat} (h:Ar g w b T o xs n) {i:Int} (k:Nat) (hi:i=(k:Int)) (hk:k<n):w.cell? ⟨b,o+i.toNat*1,none⟩=some (g (xs.getD k default)):=by
 obtain⟨⟨pre,post,h1,h2⟩,h3⟩:=h
 subst hi h1
 have hk':k<xs.length:=by rw[h3];exact hk
 refine h2.cell (j:=pre.length+(k:Int).toNat*1) ?_
 rw[Int.toNat_natCast,Nat.mul_one,List.append_assoc,List.getElem?_append_right oM]
 rw[Nat.add_sub_cancel_left,List.getElem?_append_left (by simpa using hk')]
 simp[hk']
theorem Ar.sc {o c:Nat} (h:Ar g w b T o xs n) (hc:n≤c) (hm:c≤9223372036854775807) (hd:D b T):Sg g D w (.slice (some ⟨b,o,none⟩) n c) xs:=by
 obtain⟨⟨pre,post,h1,h2⟩,h3⟩:=h
 refine⟨_,c,by rw[h3],by rw[h3];exact hc,by simpa[maxLen] using hm,by simp,.inr ⟨b,o,rfl,.inr ⟨_,T,(0,0),h2,hd,fun j u hj=>?_⟩⟩⟩
 subst h1
 have hj':j<(xs.map g).length:=by
  rcases Nat.lt_or_ge j (xs.map g).length with h|h
  ·exact h
  rw[List.getElem?_eq_none h] at hj;cases hj
 simp only[List.getElem?_toArray]
 rw[List.append_assoc,List.getElem?_append_right oM,Nat.add_sub_cancel_left,List.getElem?_append_left hj']
 exact hj
theorem Ar.sm {o:Nat} (h:Ar g w b T o xs n) (e:Exc b w w') (hD:¬D b T):Sm D w w':=by
 obtain⟨⟨pre,post,h1,h2⟩,h3⟩:=h
 exact h2.sm e hD
theorem Ar.made {z:α} {zz:Value} (hb:Bk w b T (List.replicate n zz)) (hz:g z=zz):Ar g w b T 0 (List.replicate n z) n:=⟨⟨[],[],rfl,by rw[List.map_replicate,hz];simpa using hb⟩,by simp⟩
theorem Ar.bk {o:Nat} (h:Ar g w b T o xs n):∃l,Bk w b T l:=by
 obtain⟨⟨pre,post,h1,h2⟩,h3⟩:=h
 exact⟨_,h2⟩
theorem Ar.tail {o:Nat} (h:Ar g w b T o xs n) (k:Nat) (hk:k≤n):Ar g w b T (o+k) (xs.drop k) (n-k):=by
 obtain⟨⟨pre,post,h1,h2⟩,h3⟩:=h
 refine⟨⟨pre++(xs.take k).map g,post,by simp;omega,?_⟩,by simp;omega⟩
 have e:pre++(xs.take k).map g++(xs.drop k).map g++post=pre++xs.map g++post:=by
  rw[List.append_assoc pre,←List.map_append,List.take_append_drop]
 rw[e]
 exact h2
end
section
variable {P:Program} {f:Nat→Value} {w:World} {dst:Option Tmp} {ty:TypeId} {pos:String} {aft:Array Edge} {gd:Option (Nat×Bool)} {x y z:Operand} {t e:TypeId}
theorem spl_set {α:Type} (g:α→Value) (pre post:List Value) (xs:List α) (k:Nat) (u:α) (hk:k<xs.length):spl (pre++xs.map g++post) (pre.length+k*1) [g u]=pre++(xs.set k u).map g++post:=by
 unfold spl
 rw[List.map_set,List.set_eq_take_append_cons_drop]
 rw[if_pos (by simpa using hk),Nat.mul_one]
 rw[List.append_assoc pre,List.take_append,List.drop_append]
 have e1:pre.take (pre.length+k)=pre:=List.take_of_length_le oM
 have e2:pre.drop (pre.length+k+[g u].length)=[]:=List.drop_of_length_le (by simp;omega)
 have e3:pre.length+k-pre.length=k:=by omega
 have e4:pre.length+k+[g u].length-pre.length=k+1:=by simp;omega
 rw[e1,e2,e3,e4,List.take_append_of_le_length (by simp;omega),List.drop_append_of_le_length (by simp;omega)]
 simp
theorem h_set {α:Type} {g:α→Value} {T:TypeId} {b o n bytes:Nat} {xs:List α} {u:α} {i:Int} {vv zz:Value} (ht:TyI P t 1 bytes zz) (hx:ev f x= .pointer (some ⟨b,o+i.toNat*1,none⟩)) (hy:ev f y=vv) (hv:vv=g u) (hc:(g u).cells=#[g u]) (h1:(g u).oneCell'=true)
 (ha:Ar g w b T o xs n) (k:Nat) (hi:i=(k:Int)) (hk:k<n):
 RunS P f ⟨dst,.store t x y,ty,pos,aft,gd⟩ w fun w'=>Ar g w' b T o (xs.set k u) n∧Exc b w w':=by
 obtain⟨⟨pre,post,h2,h3⟩,h4⟩:=ha
 subst hi hv h2
 have hk':k<xs.length:=by rw[h4];exact hk
 obtain⟨w',hr,h5,h6,_⟩:=h_store (P:=P) (f:=f) (dst:=dst) (ty:=ty) (pos:=pos) (aft:=aft) (g:=gd) (cs:=[g u]) ht hx hy hc rfl (by simpa using h1) h3 (by simp;omega)
 refine⟨w',hr,⟨⟨pre,post,rfl,?_⟩,by simpa using h4⟩,h6⟩
 have e:((k:Int)).toNat=k:=Int.toNat_natCast k
 rw[e,spl_set g pre post xs k u hk'] at h5
 exact h5
end
end Go.Vg
namespace Go.Vg
theorem Ent.of {P:Program} {k:FuncId} {fn:Func} (hf:P.funcs[k]? =some fn) (hb:fn.body.isNone=false) (hn:(fn.name== "runtime.NumGoroutine")=false):Ent P k:=fun args w=>by
 unfold callFunc
 simp only[Sem.run_bind]
 rw[show(program).run P w= .ok P w from rfl]
 simp only[Result.andThen_ok,hf,hn,hb,Bool.false_eq_true,if_false,Sem.run_pure]
theorem Bk.cells {w:World} {b:Nat} {T:TypeId} {l:List Value} (h:Bk w b T l) {o:Nat} {cs:List Value} (hc:(l.drop o).take cs.length=cs):∀j u,cs[j]? =some u→w.cell? ⟨b,o+j,none⟩=some u:=fun j u hj=>by
 refine h.cell ?_
 rw[←hc,List.getElem?_take] at hj
 split at hj
 ·rwa [List.getElem?_drop] at hj
 cases hj
end Go.Vg
namespace Go.Vg
theorem cell_ext {w u:World} {p:Addr} {v:Value} (hu:Ext w u) (h:w.cell? p=some v):u.cell? p=some v:=(hu.cell (World.block_lt_of_cell? w p h)).trans h
end Go.Vg
namespace Go.Vg
open Go.RowKit
def Ss {α:Type} (c:α→List Value) (size:Nat) (D:Nat→TypeId→Prop) (w:World) (v:Value) (xs:List α):Prop:=
 (0<size∧∀x∈xs,(c x).length=size)∧Sc D w size v xs.length (xs.map c).flatten
section
variable {α:Type} {c:α→List Value} {size:Nat} {D D':Nat→TypeId→Prop} {w w':World} {v:Value} {xs:List α}
theorem Ss.tr (h:Ss c size D w v xs) (hs:Sm D w w'):Ss c size D w' v xs:=⟨h.1,h.2.tr hs⟩
theorem Ss.mono (h:Ss c size D w v xs) (hD:∀b T,D b T→D' b T):Ss c size D' w v xs:=⟨h.1,h.2.mono hD⟩
theorem Ss.nil (hs:0<size):Ss c size D w (.slice none 0 0) []:=⟨⟨hs,by simp⟩,Sc.nil⟩
theorem Ss.len (h:Ss c size D w v xs):∃A cap,v= .slice A xs.length cap∧xs.length≤cap∧cap≤9223372036854775807:=by
 obtain⟨A,cap,rfl,h1,h2,_⟩:=h.2
 exact⟨A,cap,rfl,h1,by simpa[maxLen] using h2⟩
theorem flat_at {xs:List α} (hc:∀x∈xs,(c x).length=size) {k j:Nat} {x:α} {u:Value} (hk:xs[k]? =some x) (hj:(c x)[j]? =some u):(xs.map c).flatten[k*size+j]? =some u:=by
 induction xs generalizing k with
 |nil=>simp at hk
 |cons y ys ih=>
  have hy:(c y).length=size:=hc y (by simp)
  cases k with
  |zero=>
   simp at hk
   subst hk
   have hjl:j<(c y).length:=by
    rcases Nat.lt_or_ge j (c y).length with h|h
    ·exact h
    rw[List.getElem?_eq_none h] at hj;cases hj
   simp[List.getElem?_append_left hjl,hj]
  |succ k=>
   have hk':ys[k]? =some x:=by simpa using hk
   have:=ih (fun z hz=>hc z (by simp[hz])) hk'
   simp only[List.map_cons,List.flatten_cons]
   rw[List.getElem?_append_right (by rw[hy,Nat.succ_mul];omega),hy]
   rw[show(k+1)*size+j-size=k*size+j by rw[Nat.succ_mul];omega]
   exact this
theorem Ss.ix [Inhabited α] (h:Ss c size D w v xs) {i:Int} (k:Nat) (hi:i=(k:Int)) (hk:k<xs.length):
 ∃bb o cap,v= .slice (some ⟨bb,o,none⟩) xs.length cap∧∀j u,(c (xs.getD k default))[j]? =some u→w.cell? ⟨bb,o+i.toNat*size+j,none⟩=some u:=by
 obtain⟨⟨hs,hc⟩,A,cap,rfl,h1,h2,h3,h4⟩:=h
 subst hi
 have hx:xs[k]? =some (xs.getD k default):=by simp[hk]
 rcases h4 with h4|⟨bb,o,rfl,hr⟩
 ·have hz:xs.length*size=0:=by rw[←h3,h4];rfl
  have:xs.length=0:=by rcases Nat.mul_eq_zero.1 hz with h|h;exact h;omega
  omega
 refine⟨bb,o,cap,rfl,fun j u hj=>?_⟩
 have:=hr.cell (flat_at hc hx hj)
 rw[Int.toNat_natCast,Nat.add_assoc]
 exact this
end
section
variable {P:Program} {f:Nat→Value} {w w':World} {dst:Option Tmp} {ty:TypeId} {pos:String} {aft:Array Edge} {gd:Option (Nat×Bool)} {x y z:Operand} {t t' e:TypeId} {D:Nat→TypeId→Prop}
theorem Bk.sc {b n size:Nat} {l:List Value} (hb:Bk w b e l) (hd:D b e) (hl:l.length=n*size) (hn:n≤9223372036854775807):Sc D w size (.slice (some ⟨b,0,none⟩) n n) n l:=
 ⟨_,n,rfl,Nat.le_refl _,by simpa[maxLen] using hn,hl,.inr ⟨b,0,rfl,by have:=hb.rd (D:=D) (m:=0) hd;simpa using this⟩⟩
theorem Ow.ar {α:Type} {g:α→Value} {lo n:Nat} {v:Value} {xs:List α} (h:Ow w lo e 1 v n (xs.map g)) (hn:0<n):∃b cap,v= .slice (some ⟨b,0,none⟩) n cap∧lo≤b∧n≤cap∧cap≤9223372036854775807∧Ar g w b e 0 xs n:=by
 obtain⟨h1,h2⟩:=h
 rcases h2 with ⟨_,rfl⟩|⟨b,cap,cur,rfl,hb,hh,hc,hm,hs,ht⟩
 ·omega
 refine⟨b,cap,rfl,hb,hc,by simpa[maxLen] using hm,⟨[],cur.toList.drop n,rfl,?_⟩,by simpa using h1⟩
 unfold Bk
 rw[hh,←ht]
 simp
theorem r_eqlnil {A:Option Addr} {n c:Nat} (ht:P.underlying t=some (.slice e)) (hx:ev f x= .slice A n c) (hy:ev f y= .slice none 0 0):(execOp (ev f) ⟨dst,.binOp .eql t x y t',ty,pos,aft,gd⟩).run P w= .ok (.value (.bool A.isNone)) w:=by
 have h:(Op.equalIn (9999+1) t (.slice A n c) (.slice none 0 0)).run P w= .ok A.isNone w:=by
  exact Lib.run_equalIn_slice_nil w 9999 t e A n c 0 0 ht
 simp only[execOp,hx,hy,eqGuard,binOp]
 simp[Op.equal,Op.maxDepth,h]
end
section
variable {D:Nat→TypeId→Prop} {w:World} {v:Value} {size n:Nat} {l:List Value}
theorem one_nil:∀u∈([]:List Value),u.oneCell'=true:=fun _ h=>by cases h
theorem one_cons {u:Value} {l:List Value} (h:u.oneCell'=true) (hl:∀u∈l,u.oneCell'=true):∀z∈u::l,z.oneCell'=true:=fun z hz=>by
 rcases List.mem_cons.1 hz with rfl|hz
 ·exact h
 exact hl z hz
theorem Sc.one (h:Sc D w size v n l):v.oneCell'=true:=by
 obtain⟨A,c,rfl,_⟩:=h
 rfl
theorem Sg.one {α:Type} {g:α→Value} {xs:List α} (h:Sg g D w v xs):v.oneCell'=true:=Sc.one h
theorem Ss.one {α:Type} {c:α→List Value} {xs:List α} (h:Ss c size D w v xs):v.oneCell'=true:=Sc.one h.2
theorem Ow.one {lo:Nat} {e:TypeId} (h:Ow w lo e size v n l):v.oneCell'=true:=by
 rcases h.2 with ⟨rfl,_⟩|⟨b,cap,cur,rfl,_⟩<;>rfl
theorem Ow.len {lo:Nat} {e:TypeId} (h:Ow w lo e size v n l):∃A cap,v= .slice A n cap∧n≤cap∧cap≤9223372036854775807:=by
 rcases h.2 with ⟨rfl,rfl⟩|⟨b,cap,cur,rfl,_,_,hc,hm,_⟩
 ·exact⟨none,0,rfl,Nat.le_refl _,by omega⟩
 exact⟨_,cap,rfl,hc,by simpa[maxLen] using hm⟩
end
theorem Sg.some_ {α:Type} {g:α→Value} {D:Nat→TypeId→Prop} {w:World} {v:Value} {xs:List α} (h:Sg g D w v xs) (hn:0<xs.length) {A:Option Addr} {n c:Nat} (hv:v= .slice A n c):A.isNone=false:=by
 obtain⟨A',c',rfl,_,_,_,h4⟩:=h
 injection hv with e1
 subst e1
 rcases h4 with h4|⟨b,o,rfl,_⟩
 ·rw[List.map_eq_nil_iff.1 h4] at hn;simp at hn
 rfl
theorem Exc.own {b b1:Nat} {w0 w w':World} (h:Exc b w0 w) (k:Exc b1 w w') (hb:w0.heap.size≤b1):Exc b w0 w':=
 ⟨k.os.trans h.os,k.tape.trans h.tape,k.output.trans h.output,Nat.le_trans h.size k.size,fun i hi hne=>(k.block i (Nat.lt_of_lt_of_le hi h.size) oM).trans (h.block i hi hne)⟩
theorem Exc.below {b B:Nat} {w0 w:World} (h:Exc b w0 w) (hb:B≤b) (hB:B≤w0.heap.size):Below B w0 w:=⟨h.os,h.tape,h.output,h.size,fun k hk=>h.block k oM oM⟩
theorem Exc.ext {b:Nat} {w0 w:World} (h:Exc b w0 w) (hb:w0.heap.size≤b):Ext w0 w:=h.below hb (Nat.le_refl _)
section
variable {D:Nat→TypeId→Prop} {w:World} {v:Value} {size n:Nat} {l:List Value}
theorem Sc.old (h:Sc D w size v n l):Sc (fun b T=>D b T∧b<w.heap.size) w size v n l:=by
 obtain⟨A,c,rfl,h1,h2,h3,h4⟩:=h
 refine⟨A,c,rfl,h1,h2,h3,h4.imp id ?_⟩
 rintro⟨b,o,rfl,hr⟩
 refine⟨b,o,rfl,?_⟩
 rcases hr with hr|⟨cs,T,fz,hh,hd,hc⟩
 ·exact .inl hr
 exact .inr ⟨cs,T,fz,hh,⟨hd,lt_of_heap hh⟩,hc⟩
theorem Sg.old {α:Type} {g:α→Value} {xs:List α} (h:Sg g D w v xs):Sg g (fun b T=>D b T∧b<w.heap.size) w v xs:=Sc.old h
theorem Ss.old {α:Type} {c:α→List Value} {xs:List α} (h:Ss c size D w v xs):Ss c size (fun b T=>D b T∧b<w.heap.size) w v xs:=⟨h.1,Sc.old h.2⟩
end
theorem cells_one {v:Value} (h:v.oneCell'=true):v.cells=#[v]:=by
 cases v<;>first|rfl|(simp[Value.oneCell'] at h)
section
variable {P:Program} {f:Nat→Value} {w:World} {dst:Option Tmp} {ty:TypeId} {pos:String} {aft:Array Edge} {gd:Option (Nat×Bool)} {x y z:Operand} {t e:TypeId}
theorem r_sh {k:IntKind} {A:Option Addr} {n c size bytes kk:Nat} {h:Int} {zz:Value} (hu:P.underlying t=some (.slice e)) (ht:TyI P e size bytes zz) (hx:ev f x= .slice A n c) (hy:ev f y= .int k h) (hk:h=(kk:Int)) (h1:kk≤c):
 (execOp (ev f) ⟨dst,.slice t x none (some y) none,ty,pos,aft,gd⟩).run P w= .ok (.value (.slice A kk c)) w:=by
 have h2:=r_slice_h (P:=P) (f:=f) (w:=w) (dst:=dst) (ty:=ty) (pos:=pos) (aft:=aft) (g:=gd) hu ht hx hy oM oM
 rw[hk,Int.toNat_natCast] at h2
 exact h2
theorem r_sl {k:IntKind} {A:Option Addr} {n c size bytes kk:Nat} {l:Int} {zz:Value} (hu:P.underlying t=some (.slice e)) (ht:TyI P e size bytes zz) (hx:ev f x= .slice A n c) (hy:ev f y= .int k l) (hk:l=(kk:Int)) (h1:kk≤n):
 (execOp (ev f) ⟨dst,.slice t x (some y) none none,ty,pos,aft,gd⟩).run P w= .ok (.value (.slice (if c=kk then A else A.map (·.add (kk*size))) (n-kk) (c-kk))) w:=by
 have h2:=r_slice_l (P:=P) (f:=f) (w:=w) (dst:=dst) (ty:=ty) (pos:=pos) (aft:=aft) (g:=gd) hu ht hx hy oM oM
 rw[hk,Int.toNat_natCast] at h2
 exact h2
end
theorem Ar.none_ {α:Type} {g:α→Value} {w:World} {b o n:Nat} {T:TypeId} {xs:List α} (h:Ar g w b T o xs n):Ar g w b T o [] 0:=by
 obtain⟨⟨pre,post,h1,h2⟩,h3⟩:=h
 exact⟨⟨pre,xs.map g++post,h1,by simpa using h2⟩,rfl⟩
end Go.Vg
namespace Go.Vg
open Go.RowKit
end Go.Vg
namespace Go.Vy
open Go.Vg Go.RowKit
inductive CV where
 |u
 |v (x:Value)
 |h (A:Option Nat) (n c:Nat)
 |hp (b o:Nat)
 |b (p:Prop) (h:Decidable p)
 |p (i o:Nat)
 |s (i n:Nat)
 |r (A:Option Addr) (n c esz:Nat) (get:Nat→List CV)
 |q (A:Option Addr) (n c esz:Nat) (get:Nat→List CV) (j o:Nat)
 |f (k:Nat) (fi ca:List (Nat×Nat))
inductive DV where
 |c (x:CV)
 |a (l:List CV)
 |t (l:List DV)
inductive Rc (Z:Nat→Prop) (w:World):CV→Value→Prop
 |u (x:Value):Rc Z w .u x
 |v (x:Value):Rc Z w (.v x) x
 |h (A:Option Nat) (n c:Nat):Rc Z w (.h A n c) (.slice (A.map fun b=>⟨b,0,none⟩) n c)
 |hp (b o:Nat):Rc Z w (.hp b o) (.pointer (some ⟨b,o,none⟩))
 |b (p:Prop) (h:Decidable p):Rc Z w (.b p h) (.bool (@decide p h))
 |nil (A:Option Addr) (c esz:Nat) (get:Nat→List CV) (hm:c≤maxLen):Rc Z w (.r A 0 c esz get) (.slice A 0 c)
 |r (b o n c esz:Nat) (get:Nat→List CV) (V:Nat→List Value) (hc:n≤c) (hm:c≤maxLen) (hZ:Z b)
    (hcell:∀(j:Nat),j<n→∀(i:Nat) (u:Value),(V j)[i]? =some u→w.cell? ⟨b,o+j*esz+i,none⟩=some u∧u.oneCell'=true)
    (hlen:∀j,j<n→(V j).length=(get j).length)
    (hel:∀(j:Nat),j<n→∀(i:Nat) (c':CV) (u:Value),(get j)[i]? =some c'→(V j)[i]? =some u→Rc Z w c' u):
    Rc Z w (.r (some ⟨b,o,none⟩) n c esz get) (.slice (some ⟨b,o,none⟩) n c)
theorem cell_of_block {w w':World} {b o:Nat} (h:w'.heap[b]? =w.heap[b]?):w'.cell? ⟨b,o,none⟩=w.cell? ⟨b,o,none⟩:=by
 unfold World.cell?
 simp only[h]
theorem Rc.mono {Z Z':Nat→Prop} {w w':World} {c:CV} {x:Value} (h:Rc Z w c x) (hZ:∀b,Z b→Z' b∧w'.heap[b]? =w.heap[b]?):Rc Z' w' c x:=by
 induction h with
 |u x=>exact .u x
 |v x=>exact .v x
 |h A n c=>exact .h A n c
 |hp b o=>exact .hp b o
 |b p h=>exact .b p h
 |nil A c esz get hm=>exact .nil A c esz get hm
 |r b o n c esz get V hc hm hZb hcell hlen hel ih=>
  refine .r b o n c esz get V hc hm (hZ b hZb).1 (fun j hj i u hu=>?_) hlen ih
  have h1:=hcell j hj i u hu
  rw[cell_of_block (hZ b hZb).2]
  exact h1
structure Fam where
 T:TypeId
 es:Nat
 N:Nat
 A:Nat→Option Nat
 cap:Nat→Nat
 get:Nat→List CV
structure Pl where
 at':Nat→Option Nat×Nat
 Z:Nat→Prop
 F:List Fam
def InL (l:List Fam) (b:Nat):Prop:=∃F∈l,∃j,j<F.N∧F.A j=some b
abbrev InF (ρ:Pl) (b:Nat):Prop:=InL ρ.F b
instance:CoeFun Pl (fun _=>Nat→Option Nat×Nat):=⟨Pl.at'⟩
structure Zf (ρ:Pl) (n:Nat) (w:World) (b:Nat):Prop where
 lt:b<w.heap.size
 no:∀i,i<n→(ρ i).1≠some b
 z:ρ.Z b
 nf:¬InF ρ b
def ptr (ρ:Pl) (p:Nat×Nat):Value:=.pointer ((ρ p.1).1.map fun b=>⟨b,p.2,none⟩)
def Hc (ρ:Pl) (n:Nat) (w:World):CV→Value→Prop
 |.p i o,x=>i<n∧∃b,(ρ i).1=some b∧x= .pointer (some ⟨b,o,none⟩)
 |.s i m,x=>i<n∧x= .slice ((ρ i).1.map fun b=>⟨b,0,none⟩) m (ρ i).2
 |.q A m c esz get j o,x=>Rc (Zf ρ n w) w (.r A m c esz get) (.slice A m c)∧j<m∧∃b o',A=some ⟨b,o',none⟩∧x= .pointer (some ⟨b,o'+j*esz+o,none⟩)
 |.f k fi ca,x=>(∀p∈fi++ca,p.1<n∧(ρ p.1).1≠none)∧x= .func (.func k) (fi.map (ptr ρ)).toArray (ca.map (ptr ρ)).toArray
 |c,x=>Rc (Zf ρ n w) w c x
def Hl (ρ:Pl) (n:Nat) (w:World):List CV→List Value→Prop
 |[],[]=>True
 |c::l,x::m=>Hc ρ n w c x∧Hl ρ n w l m
 |_,_=>False
inductive Hd (ρ:Pl) (n:Nat) (w:World):DV→Value→Prop
 |c {c:CV} {x:Value} (h:Hc ρ n w c x):Hd ρ n w (.c c) x
 |a {l:List CV} {vl:List Value} (h:Hl ρ n w l vl):Hd ρ n w (.a l) (.agg vl.toArray)
 |t {l:List DV} {vl:List Value} (h:l.length=vl.length) (hh:∀(i:Nat) (d:DV) (u:Value),l[i]? =some d→vl[i]? =some u→Hd ρ n w d u):Hd ρ n w (.t l) (.tuple vl.toArray)
section rel
variable {ρ ρ':Pl} {n n':Nat} {w w':World}
structure Kp (ρ:Pl) (n:Nat) (w:World) (ρ':Pl) (n':Nat) (w':World):Prop where
 le:n≤n'
 pl:∀i,i<n→ρ' i=ρ i
 z:∀b,Zf ρ n w b→Zf ρ' n' w' b∧w'.heap[b]? =w.heap[b]?
theorem Hc.kp {c:CV} {x:Value} (h:Hc ρ n w c x) (k:Kp ρ n w ρ' n' w'):Hc ρ' n' w' c x:=by
 cases c with
 |p i o=>obtain⟨h1,b,h2,h3⟩:=h;exact⟨Nat.lt_of_lt_of_le h1 k.le,b,by rw[k.pl i h1];exact h2,h3⟩
 |s i m=>obtain⟨h1,h2⟩:=h;exact⟨Nat.lt_of_lt_of_le h1 k.le,by rw[k.pl i h1];exact h2⟩
 |q A m c esz get j o=>obtain⟨h1,h2⟩:=h;exact⟨h1.mono k.z,h2⟩
 |f q fi ca=>
  obtain⟨h1,h2⟩:=h
  refine⟨fun p hp=>⟨Nat.lt_of_lt_of_le (h1 p hp).1 k.le,by rw[k.pl p.1 (h1 p hp).1];exact(h1 p hp).2⟩,h2.trans ?_⟩
  have e:∀p∈fi++ca,ptr ρ p=ptr ρ' p:=fun p hp=>by unfold ptr;rw[k.pl p.1 (h1 p hp).1]
  rw[List.map_congr_left fun p hp=>e p (List.mem_append_left _ hp),List.map_congr_left fun p hp=>e p (List.mem_append_right _ hp)]
 |u=>exact Rc.mono h k.z
 |v x=>exact Rc.mono h k.z
 |h A n c=>exact Rc.mono h k.z
 |hp b o=>exact Rc.mono h k.z
 |b p q=>exact Rc.mono h k.z
 |r A m c esz get=>exact Rc.mono h k.z
theorem Hl.kp {l:List CV} {m:List Value} (h:Hl ρ n w l m) (k:Kp ρ n w ρ' n' w'):Hl ρ' n' w' l m:=by
 induction l generalizing m with
 |nil=>cases m with
  |nil=>trivial
  |cons x m=>exact h
 |cons c l ih=>cases m with
  |nil=>exact h
  |cons x m=>exact⟨h.1.kp k,ih h.2⟩
theorem Hd.kp {d:DV} {x:Value} (h:Hd ρ n w d x) (k:Kp ρ n w ρ' n' w'):Hd ρ' n' w' d x:=by
 induction h with
 |c h=>exact .c (h.kp k)
 |a h=>exact .a (h.kp k)
 |t h hh ih=>exact .t h ih
theorem Hl.len {l:List CV} {m:List Value} (h:Hl ρ n w l m):l.length=m.length:=by
 induction l generalizing m with
 |nil=>cases m with
  |nil=>rfl
  |cons x m=>exact h.elim
 |cons c l ih=>cases m with
  |nil=>exact h.elim
  |cons x m=>simp only[List.length_cons,ih h.2]
theorem Hl.get {l:List CV} {m:List Value} (h:Hl ρ n w l m) {i:Nat} {c:CV} (hi:l[i]? =some c):∃x,m[i]? =some x∧Hc ρ n w c x:=by
 induction l generalizing m i with
 |nil=>cases hi
 |cons a l ih=>cases m with
  |nil=>exact h.elim
  |cons x m=>cases i with
   |zero=>injection hi with hi;subst hi;exact⟨x,rfl,h.1⟩
   |succ i=>exact ih h.2 hi
theorem Hl.append {l l2:List CV} {m m2:List Value} (h:Hl ρ n w l m) (h2:Hl ρ n w l2 m2):Hl ρ n w (l++l2) (m++m2):=by
 induction l generalizing m with
 |nil=>cases m with
  |nil=>exact h2
  |cons x m=>exact h.elim
 |cons c l ih=>cases m with
  |nil=>exact h.elim
  |cons x m=>exact⟨h.1,ih h.2⟩
theorem Hl.take {l:List CV} {m:List Value} (h:Hl ρ n w l m) (k:Nat):Hl ρ n w (l.take k) (m.take k):=by
 induction l generalizing m k with
 |nil=>cases m with
  |nil=>simp[Hl]
  |cons x m=>exact h.elim
 |cons c l ih=>cases m with
  |nil=>exact h.elim
  |cons x m=>cases k with
   |zero=>simp[Hl]
   |succ k=>exact⟨h.1,ih h.2 k⟩
theorem Hl.drop {l:List CV} {m:List Value} (h:Hl ρ n w l m) (k:Nat):Hl ρ n w (l.drop k) (m.drop k):=by
 induction l generalizing m k with
 |nil=>cases m with
  |nil=>simp[Hl]
  |cons x m=>exact h.elim
 |cons c l ih=>cases m with
  |nil=>exact h.elim
  |cons x m=>cases k with
   |zero=>exact h
   |succ k=>exact ih h.2 k
theorem Kp.refl:Kp ρ n w ρ n w:=⟨Nat.le_refl _,fun _ _=>rfl,fun _ h=>⟨h,rfl⟩⟩
theorem Kp.trans {ρ'':Pl} {n'':Nat} {w'':World} (h:Kp ρ n w ρ' n' w') (k:Kp ρ' n' w' ρ'' n'' w''):Kp ρ n w ρ'' n'' w'':=
 ⟨Nat.le_trans h.le k.le,fun i hi=>(k.pl i (Nat.lt_of_lt_of_le hi h.le)).trans (h.pl i hi),fun b hb=>⟨(k.z b (h.z b hb).1).1,(k.z b (h.z b hb).1).2.trans (h.z b hb).2⟩⟩
theorem Kp.ext (e:Ext w w'):Kp ρ n w ρ n w':=⟨Nat.le_refl _,fun _ _=>rfl,fun b h=>⟨⟨Nat.lt_of_lt_of_le h.lt e.size,h.no,h.z,h.nf⟩,e.block b h.lt⟩⟩
theorem Kp.exc {i b:Nat} (hi:i<n) (hb:(ρ i).1=some b) (e:Exc b w w'):Kp ρ n w ρ n w':=
 ⟨Nat.le_refl _,fun _ _=>rfl,fun b' h=>⟨⟨Nat.lt_of_lt_of_le h.lt e.size,h.no,h.z,h.nf⟩,e.block b' h.lt fun hh=>h.no i hi (by rw[hb,hh])⟩⟩
end rel
/-! ### states -/
abbrev Gs:=List (Nat×Bool)
structure SS where
 sl:List (Nat×DV)
 gl:List (Nat×Gs×DV)
 bl:List (TypeId×Nat×List CV)
 fl:List Fam
def getS:List (Nat×DV)→Nat→Option DV
 |[],_=>none
 |(t',d)::l,t=>bif Nat.beq t' t then some d else getS l t
def getG:List (Nat×Gs×DV)→Nat→Option (Gs×DV)
 |[],_=>none
 |(t',d)::l,t=>bif Nat.beq t' t then some d else getG l t
def sat (f:Nat→Value) (gs:Gs):Prop:=∀p∈gs,f p.1= .bool p.2
structure Fr (s:SS) (ρ:Pl) (w:World) (f:Nat→Value):Prop where
 sl:∀t d,getS s.sl t=some d→Hd ρ s.bl.length w d (f t)
 gl:∀t gs d,getG s.gl t=some (gs,d)→(sat f gs→Hd ρ s.bl.length w d (f t))∧(¬sat f gs→f t=undef)
def Bq (ρ:Pl) (n:Nat) (w:World) (i:Nat) (T:TypeId) (esz:Nat) (l:List CV):Prop:=match (ρ i).1 with
 |none=>l=[]∧(ρ i).2=0∧0<esz
 |some b=>∃vl junk,w.heap[b]? =some (.cells (vl++junk).toArray T (0,0))∧Hl ρ n w l vl∧(0<esz→(ρ i).2*esz=(vl++junk).length∧(ρ i).2≤maxLen)∧∀x∈vl,x.oneCell'=true
def Mq (Z:Nat→Prop) (w:World) (F:Fam) (j:Nat):Prop:=match F.A j with
 |none=>F.get j=[]∧F.cap j=0
 |some b=>∃(vl junk:List Value),w.heap[b]? =some (.cells (vl++junk).toArray F.T (0,0))∧vl.length=(F.get j).length∧(∀(k:Nat) (c:CV) (x:Value),(F.get j)[k]? =some c→vl[k]? =some x→Rc Z w c x)∧F.cap j*F.es=(vl++junk).length∧F.cap j≤maxLen∧∀x∈vl,x.oneCell'=true
structure FamOk (ρ:Pl) (n:Nat) (w:World):Prop where
 ok:∀F∈ρ.F,0<F.es∧∀j,j<F.N→Mq (Zf ρ n w) w F j
 own:∀i b,i<n→(ρ i).1=some b→¬InF ρ b
 inj:∀(f f':Nat) (F F':Fam) (j j' b:Nat),ρ.F[f]? =some F→ρ.F[f']? =some F'→j<F.N→j'<F'.N→F.A j=some b→F'.A j'=some b→f=f'∧j=j'
theorem Mq.lt {Z:Nat→Prop} {w:World} {F:Fam} {j b:Nat} (h:Mq Z w F j) (hb:F.A j=some b):b<w.heap.size:=by
 unfold Mq at h
 simp only[hb] at h
 obtain⟨vl,junk,h1,_⟩:=h
 exact lt_of_heap h1
theorem Mq.at {Z:Nat→Prop} {w:World} {F:Fam} {j b:Nat} (h:Mq Z w F j) (hb:F.A j=some b):∃(vl junk:List Value),w.heap[b]? =some (.cells (vl++junk).toArray F.T (0,0))∧vl.length=(F.get j).length∧(∀(k:Nat) (c:CV) (x:Value),(F.get j)[k]? =some c→vl[k]? =some x→Rc Z w c x)∧F.cap j*F.es=(vl++junk).length∧F.cap j≤maxLen∧∀x∈vl,x.oneCell'=true:=by
 unfold Mq at h
 simp only[hb] at h
 exact h
theorem FamOk.mem {ρ:Pl} {n:Nat} {w:World} (h:FamOk ρ n w) {fl:List Fam} (hl:ρ.F=fl) {f:Nat} {F:Fam} (hf:fl[f]? =some F) {j:Nat} (hj:j<F.N):Mq (Zf ρ n w) w F j:=
 (h.ok F (by rw[hl];exact List.mem_of_getElem? hf)).2 j hj
theorem Mq.mono {Z Z':Nat→Prop} {w w':World} {F:Fam} {j:Nat} (h:Mq Z w F j) (hZ:∀b,Z b→Z' b∧w'.heap[b]? =w.heap[b]?) (hb:∀b,F.A j=some b→w'.heap[b]? =w.heap[b]?):Mq Z' w' F j:=by
 unfold Mq at h ⊢
 cases ha:F.A j with
 |none=>simp only[ha] at h ⊢;exact h
 |some b=>
  simp only[ha] at h ⊢
  obtain⟨vl,junk,h1,h2,h3,h4⟩:=h
  exact⟨vl,junk,by rw[hb b ha];exact h1,h2,fun k c x hc hx=>(h3 k c x hc hx).mono hZ,h4⟩
theorem FamOk.lt {ρ:Pl} {n:Nat} {w:World} (h:FamOk ρ n w) {b:Nat} (hb:InF ρ b):b<w.heap.size:=by
 obtain⟨F,hF,j,hj,hA⟩:=hb
 exact((h.ok F hF).2 j hj).lt hA
theorem FamOk.mono {ρ ρ':Pl} {n n':Nat} {w w':World} (h:FamOk ρ n w) (hF:ρ'.F=ρ.F) (hz:∀b,Zf ρ n w b→Zf ρ' n' w' b∧w'.heap[b]? =w.heap[b]?) (hs:∀b,InF ρ b→w'.heap[b]? =w.heap[b]?) (hno:∀i b,i<n'→(ρ' i).1=some b→¬InF ρ b):FamOk ρ' n' w':=
 ⟨fun F hf=>by
  rw[hF] at hf
  exact⟨(h.ok F hf).1,fun j hj=>((h.ok F hf).2 j hj).mono hz fun b hb=>hs b ⟨F,hf,j,hj,hb⟩⟩,fun i b hi hb=>by unfold InF;rw[hF];exact hno i b hi hb,by rw[hF];exact h.inj⟩
structure Rl (w0:World) (nb:Nat) (ρ0 ρ:Pl) (w:World):Prop where
 os:w.os=w0.os
 tape:w.tape=w0.tape
 output:w.output=w0.output
 size:w0.heap.size≤w.heap.size
 block:∀k,k<w0.heap.size→(∀i,i<nb→(ρ i).1≠some k)→¬InF ρ0 k→w.heap[k]? =w0.heap[k]?
structure DnW (ρ0:Pl) (w0:World) (nb:Nat) (bl:List (TypeId×Nat×List CV)) (ρ:Pl) (w:World):Prop where
 ok:∀(i:Nat) (T:TypeId) (e:Nat) (l:List CV),bl[i]? =some (T,e,l)→Bq ρ bl.length w i T e l
 inj:∀i j b,i<bl.length→j<bl.length→(ρ i).1=some b→(ρ j).1=some b→i=j
 fr:∀i b,nb≤i→i<bl.length→(ρ i).1=some b→w0.heap.size≤b
 nbl:nb≤bl.length
 rel:Rl w0 nb ρ0 ρ w
 pl:∀i,i<nb→ρ i=ρ0 i
 zz:ρ.Z=ρ0.Z∧∀b,w0.heap.size≤b∨InF ρ0 b→ρ.Z b
 fam:FamOk ρ bl.length w
 ffr:∀b,InF ρ b→w0.heap.size≤b∨InF ρ0 b
structure Dn (ρ0:Pl) (w0:World) (nb:Nat) (s:SS) (ρ:Pl) (f:Nat→Value) (w:World):Prop where
 m:DnW ρ0 w0 nb s.bl ρ w
 f:Fr s ρ w f
 l:ρ.F=s.fl
section world
variable {w0 w w':World} {nb:Nat} {s:SS} {ρ ρ' ρ0:Pl} {f:Nat→Value} {bl:List (TypeId×Nat×List CV)}
theorem Rl.ext (h:Rl w0 nb ρ0 ρ w) (e:Ext w w'):Rl w0 nb ρ0 ρ w':=
 ⟨e.os.trans h.os,e.tape.trans h.tape,e.output.trans h.output,Nat.le_trans h.size e.size,fun k hk hn hf=>(e.block k (Nat.lt_of_lt_of_le hk h.size)).trans (h.block k hk hn hf)⟩
theorem get_lt {α:Type} {l:List α} {i:Nat} {x:α} (h:l[i]? =some x):i<l.length:=(List.getElem?_eq_some_iff.1 h).1
theorem Bq.at {n i b e:Nat} {T:TypeId} {l:List CV} (h:Bq ρ n w i T e l) (hb:(ρ i).1=some b):∃vl junk,w.heap[b]? =some (.cells (vl++junk).toArray T (0,0))∧Hl ρ n w l vl∧(0<e→(ρ i).2*e=(vl++junk).length∧(ρ i).2≤maxLen)∧∀x∈vl,x.oneCell'=true:=by
 unfold Bq at h
 rw[hb] at h
 exact h
theorem Bq.of_some {n i b e:Nat} {T:TypeId} {l:List CV} (hb:(ρ i).1=some b) (h:∃vl junk,w.heap[b]? =some (.cells (vl++junk).toArray T (0,0))∧Hl ρ n w l vl∧(0<e→(ρ i).2*e=(vl++junk).length∧(ρ i).2≤maxLen)∧∀x∈vl,x.oneCell'=true):Bq ρ n w i T e l:=by
 unfold Bq
 rw[hb]
 exact h
theorem Bq.kp {n n' i e:Nat} {T:TypeId} {l:List CV} (h:Bq ρ n w i T e l) (k:Kp ρ n w ρ' n' w') (hi:i<n) (hs:∀b,(ρ i).1=some b→w'.heap[b]? =w.heap[b]?):Bq ρ' n' w' i T e l:=by
 unfold Bq at h ⊢
 rw[k.pl i hi]
 cases hb:(ρ i).1 with
 |none=>simp only[hb] at h ⊢;exact h
 |some b=>
  simp only[hb] at h ⊢
  obtain⟨vl,junk,h1,h2,h3⟩:=h
  exact⟨vl,junk,by rw[hs b hb];exact h1,h2.kp k,h3⟩
theorem Bq.lt {n i b e:Nat} {T:TypeId} {l:List CV} (h:Bq ρ n w i T e l) (hb:(ρ i).1=some b):b<w.heap.size:=by
 obtain⟨vl,junk,h1,_⟩:=h.at hb
 exact lt_of_heap h1
theorem DnW.lt (h:DnW ρ0 w0 nb bl ρ w) {i b:Nat} (hi:i<bl.length) (hb:(ρ i).1=some b):b<w.heap.size:=
 (h.ok i (bl[i]).1 (bl[i]).2.1 (bl[i]).2.2 (List.getElem?_eq_getElem hi)).lt hb
theorem DnW.ext (h:DnW ρ0 w0 nb bl ρ w) (e:Ext w w'):DnW ρ0 w0 nb bl ρ w':=
 ⟨fun i T es l hi=>(h.ok i T es l hi).kp (Kp.ext e) (get_lt hi) fun b hb=>e.block b ((h.ok i T es l hi).lt hb),h.inj,h.fr,h.nbl,h.rel.ext e,h.pl,h.zz,h.fam.mono rfl (Kp.ext e).z (fun b hb=>e.block b (h.fam.lt hb)) h.fam.own,h.ffr⟩
theorem Fr.kp (h:Fr s ρ w f) {s':SS} (hsl:s'.sl=s.sl) (hgl:s'.gl=s.gl) (k:Kp ρ s.bl.length w ρ' s'.bl.length w'):Fr s' ρ' w' f:=
 ⟨fun t d ht=>(h.sl t d (by rw[←hsl];exact ht)).kp k,fun t gs d ht=>⟨fun hs=>((h.gl t gs d (by rw[←hgl];exact ht)).1 hs).kp k,(h.gl t gs d (by rw[←hgl];exact ht)).2⟩⟩
theorem Dn.ext (h:Dn ρ0 w0 nb s ρ f w) (e:Ext w w'):Dn ρ0 w0 nb s ρ f w':=⟨h.m.ext e,h.f.kp rfl rfl (Kp.ext e),h.l⟩
theorem set_case {α:Type} {l:List α} {i j:Nat} {x y:α} (h:(l.set i x)[j]? =some y):(j=i∧y=x∧i<l.length)∨(j≠i∧l[j]? =some y):=by
 by_cases hji:j=i
 ·subst hji
  have hlt:j<l.length:=by have:=get_lt h;simpa using this
  rw[List.getElem?_set_self hlt] at h
  injection h with h
  exact .inl ⟨rfl,h.symm,hlt⟩
 rw[List.getElem?_set_ne (Ne.symm hji)] at h
 exact .inr ⟨hji,h⟩
theorem snoc_case {α:Type} {l:List α} {j:Nat} {x y:α} (h:(l++[x])[j]? =some y):(j=l.length∧y=x)∨(j<l.length∧l[j]? =some y):=by
 by_cases hji:j<l.length
 ·rw[List.getElem?_append_left hji] at h
  exact .inr ⟨hji,h⟩
 rw[List.getElem?_append_right oM] at h
 have hz:j-l.length=0:=by
  have:=get_lt h
  simp only[List.length_singleton] at this
  omega
 rw[hz] at h
 injection h with h
 exact .inl ⟨by omega,h.symm⟩
theorem DnW.exc (h:DnW ρ0 w0 nb bl ρ w) {i b e:Nat} {T:TypeId} {l l':List CV} (hi:bl[i]? =some (T,e,l)) (hb:(ρ i).1=some b) (ex:Exc b w w') (hq:Bq ρ bl.length w' i T e l'):
 DnW ρ0 w0 nb (bl.set i (T,e,l')) ρ w':=by
 have hlt:=get_lt hi
 refine⟨fun j T2 e2 l2 hj=>?_,?_,?_,?_,?_,h.pl,h.zz,?_,h.ffr⟩
 ·rw[List.length_set]
  rcases set_case hj with ⟨rfl,h2,_⟩|⟨hne,hj'⟩
  ·injection h2 with h2 h3;injection h3 with h3 h4;subst h2 h3 h4;exact hq
  exact(h.ok j T2 e2 l2 hj').kp (Kp.exc hlt hb ex) (get_lt hj') fun b' hb'=>ex.block b' ((h.ok j T2 e2 l2 hj').lt hb') fun he=>hne (h.inj j i b (get_lt hj') hlt (by rw[hb',he]) hb)
 ·simpa using h.inj
 ·simpa using h.fr
 ·simpa using h.nbl
 ·refine⟨ex.os.trans h.rel.os,ex.tape.trans h.rel.tape,ex.output.trans h.rel.output,Nat.le_trans h.rel.size ex.size,fun k hk hn hf=>?_⟩
  refine(ex.block k (Nat.lt_of_lt_of_le hk h.rel.size) fun he=>?_).trans (h.rel.block k hk hn hf)
  by_cases hib:i<nb
  ·exact hn i hib (by rw[hb,he])
  have:=h.fr i b oM hlt hb
  omega
 rw[List.length_set]
 exact h.fam.mono rfl (Kp.exc hlt hb ex).z (fun b' hb'=>ex.block b' (h.fam.lt hb') fun he=>h.fam.own i b hlt hb (he▸hb')) h.fam.own
def grow (ρ:Pl) (n:Nat) (p:Option Nat×Nat):Pl:=⟨fun i=>if i=n then p else ρ i,ρ.Z,ρ.F⟩
theorem grow_old {n i:Nat} {p:Option Nat×Nat} (h:i<n):grow ρ n p i=ρ i:=by
 show(if i=n then p else ρ i)=ρ i
 rw[if_neg oM]
theorem grow_new {n:Nat} {p:Option Nat×Nat}:grow ρ n p n=p:=by
 show(if n=n then p else ρ n)=p
 rw[if_pos rfl]
theorem Kp.new {n:Nat} {p:Option Nat×Nat} (hp:∀b,p.1=some b→w.heap.size≤b) (e:Ext w w'):Kp ρ n w (grow ρ n p) (n+1) w':=by
 refine⟨Nat.le_succ _,fun i hi=>grow_old hi,fun b hb=>⟨⟨Nat.lt_of_lt_of_le hb.lt e.size,fun i hi=>?_,hb.z,hb.nf⟩,e.block b hb.lt⟩⟩
 by_cases hin:i=n
 ·rw[hin,grow_new]
  intro he
  have:=hp b he
  have:=hb.lt
  omega
 rw[grow_old oM]
 exact hb.no i oM
theorem DnW.new (h:DnW ρ0 w0 nb bl ρ w) {T:TypeId} {es:Nat} {l:List CV} {p:Option Nat×Nat} (hp:∀b,p.1=some b→w.heap.size≤b) (e:Ext w w') (hq:Bq (grow ρ bl.length p) (bl.length+1) w' bl.length T es l):
 DnW ρ0 w0 nb (bl++[(T,es,l)]) (grow ρ bl.length p) w':=by
 refine⟨fun j T2 e2 l2 hj=>?_,fun i j b hi hj hib hjb=>?_,fun i b hi hi2 hb=>?_,?_,?_,fun i hi=>(grow_old (by have:=h.nbl;omega)).trans (h.pl i hi),h.zz,?_,h.ffr⟩
 ·simp only[List.length_append,List.length_singleton]
  rcases snoc_case hj with ⟨rfl,h2⟩|⟨hlt,hj'⟩
  ·injection h2 with h2 h3;injection h3 with h3 h4;subst h2 h3 h4;exact hq
  exact(h.ok j T2 e2 l2 hj').kp (Kp.new hp e) hlt fun b hb=>e.block b ((h.ok j T2 e2 l2 hj').lt hb)
 ·simp only[List.length_append,List.length_singleton] at hi hj
  by_cases h1:i=bl.length<;>by_cases h2:j=bl.length
  ·omega
  ·rw[h1,grow_new] at hib
   rw[grow_old oM] at hjb
   have:=hp b hib
   have:=h.lt oM hjb
   omega
  ·rw[h2,grow_new] at hjb
   rw[grow_old oM] at hib
   have:=hp b hjb
   have:=h.lt oM hib
   omega
  rw[grow_old oM] at hib hjb
  exact h.inj i j b oM oM hib hjb
 ·simp only[List.length_append,List.length_singleton] at hi2
  by_cases h1:i=bl.length
  ·rw[h1,grow_new] at hb
   have:=hp b hb
   have:=h.rel.size
   omega
  rw[grow_old oM] at hb
  exact h.fr i b hi oM hb
 ·have:=h.nbl
  simp only[List.length_append,List.length_singleton]
  omega
 ·have hr:=h.rel.ext e
  refine⟨hr.os,hr.tape,hr.output,hr.size,fun k hk hn hf=>hr.block k hk (fun i hi=>?_) hf⟩
  have:=hn i hi
  rw[grow_old (by have:=h.nbl;omega)] at this
  exact this
 simp only[List.length_append,List.length_singleton]
 refine h.fam.mono rfl (Kp.new hp e).z (fun b hb=>e.block b (h.fam.lt hb)) fun i b hi hb hf=>?_
 by_cases h1:i=bl.length
 ·rw[h1,grow_new] at hb
  have:=hp b hb
  have:=h.fam.lt hf
  omega
 rw[grow_old oM] at hb
 exact h.fam.own i b oM hb hf
end world
end Go.Vy
namespace Go.Vy
open Go.Vg Go.RowKit
/-! ### types -/
structure FI where
 off:Nat
 ty:Nat
 size:Nat
 agg:Bool
structure TI where
 size:Nat
 agg:Bool:=false
 el:Option Nat:=none
 ar:Option (Nat×Nat×Nat):=none
 bo:Bool:=false
 str:Bool:=false
 ik:Option IntKind:=none
 fs:List FI:=[]
 ck:Nat:=0
 by':Nat
 zero:List Value
def ckF:Nat→List Value→Bool
 |1,[.int .i64 _,.int .i64 _]=>true
 |2,[.int .i64 _,.int .i64 _,.int .i64 _]=>true
 |3,[.string _,.int .i64 _,.int .i64 _,.int .i64 _,.int .i64 _,.int .i64 _,.int .i64 _,.int .i64 _,.int .i64 _]=>true
 |_,_=>false
def CkP (P:Program) (t:Nat) (vs:List Value):Prop:=P.eqGuardType P.depth t=false∧∀w,(Op.equalIn (9999+1) t (.agg vs.toArray) (.agg vs.toArray)).run P w= .ok true w
structure GoodT (P:Program) (t:Nat) (i:TI):Prop where
 un:∃d,P.underlying t=some d
 ag:aggB P t=i.agg
 ty:∃z,TyI P t i.size i.by' z∧z.cells=i.zero.toArray
 zs:i.zero.length=i.size
 z1:i.zero.all Value.oneCell'=true
 el:∀e,i.el=some e→P.underlying t=some (.slice e)
 ar:∀n e es,i.ar=some (n,e,es)→P.underlying t=some (.array n e)∧∃by' z,TyI P e es by' z
 bo:i.bo=true→P.underlying t=some .bool
 str:i.str=true→P.underlying t=some .string
 ik:∀k,i.ik=some k→P.underlying t=some (.int k)
 fs:i.fs=[]∨∃F:Array Field,P.underlying t=some (.struct F)∧i.fs.length=F.size∧∀(k:Nat) (fi:FI),i.fs[k]? =some fi→∃fl,F[k]? =some fl∧fl.offset=fi.off∧fl.type=fi.ty∧aggB P fi.ty=fi.agg∧(∃d,P.underlying fi.ty=some d)∧∃by' z,TyI P fi.ty fi.size by' z
 ck:∀vs,ckF i.ck vs=true→CkP P t vs
abbrev TT:=Nat→Option TI
def Good (P:Program) (T:TT):Prop:=∀t i,T t=some i→GoodT P t i
/-! ### operands -/
def subG (g' gs:Gs):Bool:=g'.all fun p=>gs.any fun q=>Nat.beq p.1 q.1&&(p.2==q.2)
theorem subG_ok {f:Nat→Value} {g' gs:Gs} (h:subG g' gs=true) (hs:sat f gs):sat f g':=fun p hp=>by
 have h1:=List.all_eq_true.1 h p hp
 obtain⟨q,hq,h2⟩:=List.any_eq_true.1 h1
 simp only[Bool.and_eq_true,beq_iff_eq] at h2
 have h3:=Nat.eq_of_beq_eq_true h2.1
 have:=hs q hq
 rw[h3,h2.2]
 exact this
def boolV:Value→CV
 |.bool b=> .b (b=true) inferInstance
 |v=> .v v
def constD:Value→DV
 |.agg cs=> .a (cs.toList.map boolV)
 |v=> .c (.v v)
def val (gs:Gs) (s:SS):Operand→Option DV
 |.tmp t=>match getG s.gl t with
  |some (g',d)=>bif subG g' gs then some d else none
  |none=>getS s.sl t
 |.const v=>some (constD v)
 |.func k=>some (.c (.f k [] []))
 |.global _=>none
section val
variable {s:SS} {ρ ρ0:Pl} {w:World} {f:Nat→Value} {gs:Gs} {n:Nat}
theorem boolV_ok (x:Value):Hc ρ n w (boolV x) x:=by
 cases x with
 |bool b=>
  have e:Value.bool b= .bool (decide (b=true)):=by simp
  rw[e]
  cases b<;>exact Rc.b _ _
 |_=>exact Rc.v _
theorem Hl.vs (l:List Value):Hl ρ n w (l.map boolV) l:=by
 induction l with
 |nil=>trivial
 |cons x l ih=>exact⟨boolV_ok x,ih⟩
theorem constD_ok (v:Value):Hd ρ n w (constD v) v:=by
 cases v with
 |agg cs=>exact Hd.a (vl:=cs.toList) (Hl.vs _)
 |_=>exact .c (Rc.v _)
theorem val_ok (h:Fr s ρ w f) (hg:sat f gs) {x:Operand} {d:DV} (hx:val gs s x=some d):Hd ρ s.bl.length w d (ev f x):=by
 cases x with
 |tmp t=>
  simp only[val] at hx
  cases he:getG s.gl t with
  |none=>simp only[he] at hx;exact h.sl t d hx
  |some e=>
   obtain⟨g',d'⟩:=e
   simp only[he] at hx
   cases hb:subG g' gs with
   |false=>rw[hb] at hx;cases hx
   |true=>
    rw[hb] at hx
    injection hx with hx
    subst hx
    exact(h.gl t g' d' he).1 (subG_ok hb hg)
 |const v=>injection hx with hx;subst hx;exact constD_ok v
 |func k=>
  injection hx with hx
  subst hx
  refine Hd.c (c:=.f k [] []) (And.intro (fun p hp=>?_) rfl)
  exact absurd hp List.not_mem_nil
 |global k=>cases hx
theorem Hd.inv_c {c:CV} {x:Value} (h:Hd ρ n w (.c c) x):Hc ρ n w c x:=by
 cases h with
 |c h=>exact h
theorem Hd.inv_a {l:List CV} {x:Value} (h:Hd ρ n w (.a l) x):∃vl:List Value,x= .agg vl.toArray∧Hl ρ n w l vl:=by
 cases h with
 |a h=>exact⟨_,rfl,h⟩
theorem Hd.inv_t {l:List DV} {x:Value} (h:Hd ρ n w (.t l) x):∃vl:List Value,x= .tuple vl.toArray∧l.length=vl.length∧∀(i:Nat) (d:DV) (u:Value),l[i]? =some d→vl[i]? =some u→Hd ρ n w d u:=by
 cases h with
 |t h hh=>exact⟨_,rfl,h,hh⟩
theorem Hc.inv_v {y x:Value} (h:Hc ρ n w (.v y) x):x=y:=by
 have h':Rc _ w (.v y) x:=h
 cases h'
 rfl
theorem Hc.inv_b {p:Prop} {hp:Decidable p} {x:Value} (h:Hc ρ n w (.b p hp) x):x= .bool (decide p):=by
 have h':Rc _ w (.b p hp) x:=h
 cases h'
 rfl
theorem Hc.inv_r {A:Option Addr} {m c e:Nat} {get:Nat→List CV} {x:Value} (h:Hc ρ n w (.r A m c e get) x):x= .slice A m c∧Rc (Zf ρ n w) w (.r A m c e get) (.slice A m c):=by
 have h':Rc _ w (.r A m c e get) x:=h
 have e:x= .slice A m c:=by cases h'<;>rfl
 subst e
 exact⟨rfl,h'⟩
theorem Hc.inv_h {A:Option Nat} {m c:Nat} {x:Value} (h:Hc ρ n w (.h A m c) x):x= .slice (A.map fun b=>⟨b,0,none⟩) m c:=by
 cases (show Rc _ w (.h A m c) x from h);rfl
theorem Hc.inv_hp {b o:Nat} {x:Value} (h:Hc ρ n w (.hp b o) x):x= .pointer (some ⟨b,o,none⟩):=by
 cases (show Rc _ w (.hp b o) x from h);rfl
theorem Rc.elem {Z:Nat→Prop} {A:Option Addr} {m c e:Nat} {get:Nat→List CV} {x:Value} (h:Rc Z w (.r A m c e get) x) {j:Nat} (hj:j<m):∃b o,A=some ⟨b,o,none⟩∧Z b∧∃vl:List Value,(∀(i:Nat) (u:Value),vl[i]? =some u→w.cell? ⟨b,o+j*e+i,none⟩=some u∧u.oneCell'=true)∧vl.length=(get j).length∧∀(i:Nat) (c':CV) (u:Value),(get j)[i]? =some c'→vl[i]? =some u→Rc Z w c' u:=by
 cases h with
 |nil=>omega
 |r b o n c e get V hc hm hZ hcell hlen hel=>exact⟨b,o,rfl,hZ,V j,fun i u hu=>hcell j hj i u hu,hlen j hj,hel j hj⟩
theorem Hc.of_rc {c:CV} {x:Value} (h:Rc (Zf ρ n w) w c x):Hc ρ n w c x:=by
 cases c with
 |u=>exact h
 |v y=>exact h
 |h A n c=>exact h
 |hp b o=>exact h
 |b p hp=>exact h
 |r A m c e get=>exact h
 |p i o=>cases h
 |s i m=>cases h
 |q A m c e get j o=>cases h
 |f k fi ca=>cases h
theorem Hl.of_get {l:List CV} {vl:List Value} (hlen:vl.length=l.length) (h:∀(i:Nat) (c:CV) (u:Value),l[i]? =some c→vl[i]? =some u→Hc ρ n w c u):Hl ρ n w l vl:=by
 induction l generalizing vl with
 |nil=>cases vl with
  |nil=>trivial
  |cons x vl=>cases hlen
 |cons c l ih=>cases vl with
  |nil=>cases hlen
  |cons x vl=>exact⟨h 0 c x rfl rfl,ih (by simpa using hlen) fun i c u hc hu=>h (i+1) c u hc hu⟩
end val
def Cal (P:Program) (f:Nat→Value) (o:Oper) (w:World) (ρ:Pl) (n:Nat) (d:DV):Prop:=∃v,Hd ρ n w d v∧∀u,(isRd o=true→Ext w u)→(execOp (ev f) o).run P u= .ok (.value v) u
def Pu (P:Program) (f:Nat→Value) (o:Oper) (w:World) (ρ:Pl) (n:Nat) (gs:Gs) (k:DV→Prop):Prop:=∃d,k d∧(sat f gs→Cal P f o w ρ n d)
def ob (pg:Option Prop) (p:Prop):Prop:=match pg with
 |none=>p
 |some q=>q→p
def pgOk (pg:Option Prop):Prop:=match pg with
 |none=>True
 |some q=>q
theorem ob_ok {pg:Option Prop} {p:Prop} (h:ob pg p) (hp:pgOk pg):p:=by
 cases pg with
 |none=>exact h
 |some q=>exact h hp
def takeK:Nat→List CV→(List CV→Prop)→Prop
 |0,_,k=>k []
 |n+1,c::l,k=>takeK n l fun r=>k (c::r)
 |_+1,[],_=>False
theorem takeK_ok:∀{n:Nat} {l:List CV} {k:List CV→Prop},takeK n l k→n≤l.length∧k (l.take n)
 |0,l,k,h=>⟨Nat.zero_le _,h⟩
 |n+1,[],k,h=>h.elim
 |n+1,c::l,k,h=>by
  obtain⟨h1,h2⟩:=takeK_ok (n:=n) (l:=l) h
  exact⟨Nat.succ_le_succ h1,h2⟩
/-! ### the operations -/
def eMove (gs:Gs) (s:SS) (x:Operand) (k:DV→Prop):Prop:=match val gs s x with
 |some d=>k d
 |none=>False
def eNil (gs:Gs) (s:SS) (x:Operand) (k:DV→Prop):Prop:=match val gs s x with
 |some (.c (.p i o))=>k (.c (.p i o))
 |some (.c (.q A n c e get j o))=>k (.c (.q A n c e get j o))
 |some (.c (.hp b o))=>k (.c (.hp b o))
 |_=>False
def stepK (off:Nat) (k:DV→Prop):DV→Prop
 |.c (.p i o)=>k (.c (.p i (o+off)))
 |.c (.q A n c e get j o)=>k (.c (.q A n c e get j (o+off)))
 |.c (.hp b o)=>k (.c (.hp b (o+off)))
 |_=>False
def eFld (T:TT) (gs:Gs) (s:SS) (t:Nat) (x:Operand) (i:Nat) (k:DV→Prop):Prop:=match T t with
 |some ti=>match ti.fs[i]? with
  |some fi=>bif Nat.ble 1 fi.size then (match val gs s x with
   |some d=>stepK fi.off k d
   |none=>False) else False
  |none=>False
 |none=>False
def ldK (ti:TI) (o:Nat) (l:List CV) (k:DV→Prop):Prop:=bif ti.agg then takeK ti.size (l.drop o) fun r=>k (.a r) else match l[o]? with
 |some c=>k (.c c)
 |none=>False
def ldS (pg:Option Prop) (ti:TI) (o:Nat) (l:List CV) (k:DV→Prop):Prop:=bif ti.agg then ∃r,ob pg ((l.drop o).take ti.size=r∧r.length=ti.size)∧k (.a r) else ∃c,ob pg (l[o]? =some c)∧k (.c c)
def eLoad (T:TT) (pg:Option Prop) (gs:Gs) (s:SS) (t:Nat) (x:Operand) (k:DV→Prop):Prop:=match T t with
 |some ti=>match val gs s x with
  |some (.c (.p j o))=>(match s.bl[j]? with
   |some b=>bif Nat.beq b.2.1 0 then ldK ti o b.2.2 k else ldS pg ti o b.2.2 k
   |none=>False)
  |some (.c (.q _ _ _ _ get j o))=>ldK ti o (get j) k
  |some (.c (.hp b o))=>∃f j:Nat,(match s.fl[f]? with
   |some F=>ob pg (j<F.N∧F.A j=some b)∧ldS pg ti o (F.get j) k
   |none=>False)
  |_=>False
 |none=>False
def arK (pg:Option Prop) (ka:IntKind) (z:Int) (k:DV→Prop):Prop:=∃r,ob pg (r=ka.wrap z)∧k (.c (.v (.int ka r)))
def bC (p:Prop) [h:Decidable p]:DV:=.c (.b p h)
def binI (pg:Option Prop) (op:BinOp) (ka:IntKind) (a b:Int) (k:DV→Prop):Prop:=match op with
 |.lss=>k (bC (a<b))
 |.leq=>k (bC (a≤b))
 |.gtr=>k (bC (b<a))
 |.geq=>k (bC (b≤a))
 |.eql=>k (bC (a=b))
 |.neq=>k (bC (a≠b))
 |.add=>arK pg ka (a+b) k
 |.sub=>arK pg ka (a-b) k
 |.mul=>arK pg ka (a*b) k
 |.quo=>ob pg (b≠0)∧arK pg ka (a.tdiv b) k
 |.rem=>ob pg (b≠0)∧k (.c (.v (.int ka (a.tmod b))))
 |.or=>arK pg ka (BitVec.ofInt ka.bits a|||BitVec.ofInt ka.bits b).toNat k
 |.and=>arK pg ka (BitVec.ofInt ka.bits a&&&BitVec.ofInt ka.bits b).toNat k
 |_=>False
def isSh:BinOp→Bool
 |.shl=>true
 |.shr=>true
 |_=>false
def shI (pg:Option Prop) (op:BinOp) (ka:IntKind) (a b:Int) (k:DV→Prop):Prop:=match op with
 |.shl=>ob pg (0≤b)∧arK pg ka (a*2^(min b.toNat ka.bits)) k
 |.shr=>ob pg (0≤b)∧∃r,ob pg (r=a.fdiv (2^(min b.toNat ka.bits)))∧k (.c (.v (.int ka r)))
 |_=>False
def boolE (T:TT) (t:Nat) (op:BinOp) (p q:Prop) (hp:Decidable p) (hq:Decidable q) (k:DV→Prop):Prop:=match T t with
 |some ti=>bif ti.bo then (match op with
  |.eql=>k (.c (.b (p↔q) (@instDecidableIff p q hp hq)))
  |.neq=>k (.c (.b (¬(p↔q)) (@instDecidableNot _ (@instDecidableIff p q hp hq))))
  |_=>False) else False
 |none=>False
def eBin (T:TT) (t:Nat) (pg:Option Prop) (gs:Gs) (s:SS) (op:BinOp) (x y:Operand) (k:DV→Prop):Prop:=match val gs s x,val gs s y with
 |some (.c (.v (.int ka a))),some (.c (.v (.int kb b)))=>bif isSh op then shI pg op ka a b k else bif decide (ka=kb) then binI pg op ka a b k else False
 |some (.c (.b p hp)),some (.c (.b q hq))=>boolE T t op p q hp hq k
 |some (.c (.b p hp)),some (.c (.v (.bool q)))=>boolE T t op p (q=true) hp inferInstance k
 |some (.c (.v (.bool p))),some (.c (.b q hq))=>boolE T t op (p=true) q inferInstance hq k
 |some (.c (.v (.string a))),some (.c (.v (.string b)))=>(match op with
  |.eql=>k (bC (a.toList=b.toList))
  |.neq=>k (bC (a.toList≠b.toList))
  |.add=>ob pg (a.size+b.size≤9223372036854775807)∧k (.c (.v (.string (a++b))))
  |_=>False)
 |some (.c (.r A _ _ _ _)),some (.c (.v (.slice none 0 0)))=>(match op,T t with
  |.eql,some ti=>bif ti.el.isSome then k (bC (A.isNone=true)) else False
  |_,_=>False)
 |some (.a l1),some (.a l2)=>(match op,T t with
  |.eql,some ti=>∃vs:List Value,ob pg (l1=vs.map CV.v∧l2=vs.map CV.v∧ckF ti.ck vs=true)∧k (.c (.v (.bool true)))
  |_,_=>False)
 |_,_=>False
def eUn (pg:Option Prop) (gs:Gs) (s:SS) (op:UnOp) (x:Operand) (k:DV→Prop):Prop:=match val gs s x with
 |some (.c (.b p h))=>(match op with
  |.not=>k (.c (.b (¬p) (@instDecidableNot p h)))
  |_=>False)
 |some (.c (.v (.bool b)))=>(match op with
  |.not=>k (.c (.v (.bool (!b))))
  |_=>False)
 |some (.c (.v (.int ka a)))=>(match op with
  |.neg=>arK pg ka (0-a) k
  |_=>False)
 |_=>False
def eConv (T:TT) (pg:Option Prop) (gs:Gs) (s:SS) (t t':Nat) (x:Operand) (k:DV→Prop):Prop:=match T t,T t' with
 |some _,some ti=>(match ti.ik,val gs s x with
  |some ka,some (.c (.v (.int _ a)))=>arK pg ka a k
  |_,_=>False)
 |_,_=>False
def eIdx (T:TT) (pg:Option Prop) (gs:Gs) (s:SS) (t:Nat) (x y:Operand) (k:DV→Prop):Prop:=match T t with
 |some ti=>(match ti.el with
  |some e=>(match T e,val gs s x,val gs s y with
   |some te,some (.c (.r A n c e' get)),some (.c (.v (.int _ z)))=>bif Nat.beq e' te.size then ∃m:Nat,ob pg (z=m∧m<n)∧k (.c (.q A n c e' get m 0)) else False
   |some te,some (.c (.s i n)),some (.c (.v (.int _ z)))=>(match s.bl[i]? with
    |some b=>∃m:Nat,ob pg (z=m∧m<n∧m*te.size<b.2.2.length)∧k (.c (.p i (m*te.size)))
    |none=>False)
   |some te,some (.c (.h A n _)),some (.c (.v (.int _ z)))=>∃m b:Nat,ob pg (z=m∧m<n∧A=some b)∧k (.c (.hp b (m*te.size)))
   |_,_,_=>False)
  |none=>False)
 |none=>False
def eIdxA (T:TT) (pg:Option Prop) (gs:Gs) (s:SS) (t:Nat) (x y:Operand) (k:DV→Prop):Prop:=match T t with
 |some ti=>(match ti.ar,val gs s x,val gs s y with
  |some (n,_,es),some (.c (.p i o)),some (.c (.v (.int _ z)))=>∃m:Nat,ob pg (z=m∧m<n)∧k (.c (.p i (o+m*es)))
  |some (n,_,es),some (.c (.q A nn c e' get j o)),some (.c (.v (.int _ z)))=>∃m:Nat,ob pg (z=m∧m<n)∧k (.c (.q A nn c e' get j (o+m*es)))
  |_,_,_=>False)
 |none=>False
def eByte (T:TT) (pg:Option Prop) (gs:Gs) (s:SS) (t:Nat) (x y:Operand) (k:DV→Prop):Prop:=match T t with
 |some ti=>bif ti.str then (match val gs s x,val gs s y with
  |some (.c (.v (.string a))),some (.c (.v (.int _ z)))=>∃(m:Nat) (b:UInt8),ob pg (z=m∧a[m]? =some b)∧k (.c (.v (.int .u8 b.toNat)))
  |_,_=>False) else False
 |none=>False
def slA (A:Option Addr) (c l e:Nat):Option Addr:=if c=l then A else A.map (·.add (l*e))
def eSl (T:TT) (pg:Option Prop) (gs:Gs) (s:SS) (t:Nat) (x:Operand) (lo hi:Option Operand) (k:DV→Prop):Prop:=match T t with
 |some ti=>(match ti.el with
  |some e=>(match T e,val gs s x with
   |some te,some (.c (.r A n c e' get))=>bif Nat.beq e' te.size then (match lo,hi with
    |none,some y=>(match val gs s y with
     |some (.c (.v (.int _ z)))=>∃h:Nat,ob pg (z=h∧h≤n)∧k (.c (.r A h c e' get))
     |_=>False)
    |some y,none=>(match val gs s y with
     |some (.c (.v (.int _ z)))=>∃l:Nat,ob pg (z=l∧l≤n)∧k (.c (.r (slA A c l e') (n-l) (c-l) e' fun j=>get (j+l)))
     |_=>False)
    |_,_=>False) else False
   |some te,some (.c (.s i _))=>(match s.bl[i]? with
    |some b=>bif Nat.beq b.2.1 te.size&&Nat.ble 1 te.size then (match lo,hi with
     |none,some y=>(match val gs s y with
      |some (.c (.v (.int _ z)))=>∃h:Nat,ob pg (z=h∧h*te.size≤b.2.2.length)∧k (.c (.s i h))
      |_=>False)
     |_,_=>False) else False
    |none=>False)
   |_,_=>False)
  |none=>bif ti.str then (match val gs s x,lo,hi with
   |some (.c (.v (.string a))),some y,some y'=>(match val gs s y,val gs s y' with
    |some (.c (.v (.int _ z))),some (.c (.v (.int _ z')))=>∃l h:Nat,ob pg (z=l∧z'=h∧l≤h∧h≤a.size)∧k (.c (.v (.string (a.extract l h))))
    |_,_=>False)
   |_,_,_=>False) else False)
 |none=>False
def ePart (T:TT) (gs:Gs) (s:SS) (t:Nat) (x:Operand) (i:Nat) (k:DV→Prop):Prop:=match T t with
 |some ti=>match ti.fs[i]? with
  |some fi=>match val gs s x with
   |some (.a l)=>ldK {size:=fi.size,agg:=fi.agg,by':=0,zero:=[]} fi.off l k
   |_=>False
  |none=>False
 |none=>False
def eExt (gs:Gs) (s:SS) (x:Operand) (i:Nat) (k:DV→Prop):Prop:=match val gs s x with
 |some (.t l)=>(match l[i]? with
  |some d=>k d
  |none=>False)
 |_=>False
def eLen (T:TT) (gs:Gs) (s:SS) (t:Nat) (x:Operand) (k:DV→Prop):Prop:=match T t with
 |some ti=>(match val gs s x with
  |some (.c (.r _ n _ _ _))=>bif ti.el.isSome then k (.c (.v (.int .i64 n))) else False
  |some (.c (.s _ n))=>bif ti.el.isSome then k (.c (.v (.int .i64 n))) else False
  |some (.c (.h _ n _))=>bif ti.el.isSome then k (.c (.v (.int .i64 n))) else False
  |some (.c (.v (.slice _ n _)))=>bif ti.el.isSome then k (.c (.v (.int .i64 n))) else False
  |some (.c (.v (.string a)))=>bif ti.str then k (.c (.v (.int .i64 a.size))) else False
  |_=>False)
 |none=>False
def eMm (mx:Bool) (gs:Gs) (s:SS) (x y:Operand) (k:DV→Prop):Prop:=match val gs s x,val gs s y with
 |some (.c (.v (.int ka a))),some (.c (.v (.int kb b)))=>bif decide (ka=kb) then k (.c (.v (.int ka (bif mx then max a b else min a b)))) else False
 |_,_=>False
def pickC (k:DV→Prop):DV→DV→DV→Prop
 |.c (.b p hp),.c (.b q hq),.c (.v (.bool z))=>bif z then k (.c (.b (p→q) (@instDecidableForall p q hp hq))) else k (.c (.b (p∧q) (@instDecidableAnd p q hp hq)))
 |.c (.b p hp),.c (.v (.bool y)),.c (.b q hq)=>bif y then k (.c (.b (p∨q) (@instDecidableOr p q hp hq))) else k (.c (.b (¬p∧q) (@instDecidableAnd _ q (@instDecidableNot p hp) hq)))
 |.c (.b p hp),.c (.b q hq),.c (.b r hr)=>k (.c (.b ((p∧q)∨(¬p∧r)) (@instDecidableOr _ _ (@instDecidableAnd p q hp hq) (@instDecidableAnd _ r (@instDecidableNot p hp) hr))))
 |.c (.b p hp),.c (.v (.bool y)),.c (.v (.bool z))=>bif y&&!z then k (.c (.b p hp)) else False
 |_,_,_=>False
def ePick (gs:Gs) (s:SS) (x y z:Operand) (k:DV→Prop):Prop:=match x with
 |.tmp t=>(match val gs s x with
  |some (.c (.v (.bool b)))=>bif b then eMove ((t,true)::gs) s y k else eMove ((t,false)::gs) s z k
  |some c=>(match val ((t,true)::gs) s y,val ((t,false)::gs) s z with
   |some p,some q=>pickC k c p q
   |_,_=>False)
  |none=>False)
 |_=>False
def asPs (gs:Gs) (s:SS):List Operand→(List (Nat×Nat)→Prop)→Prop
 |[],k=>k []
 |x::l,k=>match val gs s x with
  |some (.c (.p i o))=>asPs gs s l fun r=>k ((i,o)::r)
  |_=>False
def eFun (gs:Gs) (s:SS) (fn:Fn) (fi ca:List Operand) (k:DV→Prop):Prop:=match fn with
 |.func q=>asPs gs s fi fun a=>asPs gs s ca fun b=>k (.c (.f q a b))
 |_=>False
end Go.Vy
namespace Go.Vy
open Go.Vg Go.RowKit
section ops
variable {P:Program} {T:TT} (hT:Good P T) {w0 w:World} {nb:Nat} {s:SS} {ρ ρ0:Pl} {f:Nat→Value} {gs:Gs} {pg:Option Prop} {dst:Option Tmp} {ty:TypeId} {pos:String} {aft:Array Edge} {gd:Option (Nat×Bool)} {x y z:Operand} {t t':TypeId} {k:DV→Prop}
theorem eMove_ok (h:eMove gs s x k) (hF:Fr s ρ w f):Pu P f ⟨dst,.move x,ty,pos,aft,gd⟩ w ρ s.bl.length gs k∧Pu P f ⟨dst,.assign x,ty,pos,aft,gd⟩ w ρ s.bl.length gs k:=by
 unfold eMove at h
 split at h
 ·next d hx=>exact⟨⟨d,h,fun hs=>⟨_,val_ok hF hs hx,fun u _=>rfl⟩⟩,⟨d,h,fun hs=>⟨_,val_ok hF hs hx,fun u _=>rfl⟩⟩⟩
 exact h.elim
theorem r_nil {u:World} {a:Addr} (hx:ev f x= .pointer (some a)):(execOp (ev f) ⟨dst,.nilCheck x,ty,pos,aft,gd⟩).run P u= .ok (.value (.pointer (some a))) u:=by
 simp[execOp,hx,Instr.sureAddr]
theorem eNil_ok (h:eNil gs s x k) (hF:Fr s ρ w f):Pu P f ⟨dst,.nilCheck x,ty,pos,aft,gd⟩ w ρ s.bl.length gs k:=by
 unfold eNil at h
 split at h
 ·next i o hx=>
  refine⟨_,h,fun hs=>⟨_,val_ok hF hs hx,fun u _=>?_⟩⟩
  obtain⟨_,b,_,he⟩:=(val_ok hF hs hx).inv_c
  rw[he]
  exact r_nil he
 ·next A n c e get j o hx=>
  refine⟨_,h,fun hs=>⟨_,val_ok hF hs hx,fun u _=>?_⟩⟩
  obtain⟨_,_,b,o',_,he⟩:=(val_ok hF hs hx).inv_c
  rw[he]
  exact r_nil he
 ·next b o hx=>
  refine⟨_,h,fun hs=>⟨_,val_ok hF hs hx,fun u _=>?_⟩⟩
  have he:=(val_ok hF hs hx).inv_c.inv_hp
  rw[he]
  exact r_nil he
 exact h.elim
include hT in
theorem eFld_ok {i:Nat} (h:eFld T gs s t x i k) (hF:Fr s ρ w f):Pu P f ⟨dst,.fieldAddr t x i,ty,pos,aft,gd⟩ w ρ s.bl.length gs k:=by
 unfold eFld at h
 split at h
 ·next ti ht=>
  split at h
  ·next fi hfi=>
   cases hz:Nat.ble 1 fi.size with
   |false=>rw[hz] at h;exact h.elim
   |true=>
    rw[hz] at h
    have hz':=Nat.le_of_ble_eq_true hz
    simp only[cond_true] at h
    have hfs:∃F:Array Field,P.underlying t=some (.struct F)∧∃fl,F[i]? =some fl∧fl.offset=fi.off∧fl.type=fi.ty∧∃by' z,TyI P fi.ty fi.size by' z:=by
     rcases (hT t ti ht).fs with h0|⟨F,hF,_,hh⟩
     ·rw[h0] at hfi;cases hfi
     obtain⟨fl,h1,h2,h3,_,_,h4⟩:=hh i fi hfi
     exact⟨F,hF,fl,h1,h2,h3,h4⟩
    obtain⟨F,hFF,fl,h1,h2,h3,by',zz,h4⟩:=hfs
    have h5:TyI P fl.type ((fi.size-1)+1) by' zz:=by rw[h3,Nat.sub_add_cancel hz'];exact h4
    split at h
    ·next d hx=>
     unfold stepK at h
     split at h
     ·next j o=>
      refine⟨_,h,fun hs=>?_⟩
      obtain⟨hj,b,hb,he⟩:=(val_ok hF hs hx).inv_c
      refine⟨.pointer (some ⟨b,o+fi.off,none⟩),.c ⟨hj,b,hb,rfl⟩,fun u _=>?_⟩
      rw[←h2]
      exact r_fieldAddr hFF h1 h5 he
     ·next A n c e get j o=>
      refine⟨_,h,fun hs=>?_⟩
      obtain⟨hr,hj,b,o',hA,he⟩:=(val_ok hF hs hx).inv_c
      refine⟨.pointer (some ⟨b,o'+j*e+(o+fi.off),none⟩),.c ⟨hr,hj,b,o',hA,rfl⟩,fun u _=>?_⟩
      rw[←h2,←Nat.add_assoc]
      exact r_fieldAddr hFF h1 h5 he
     ·next b o=>
      refine⟨_,h,fun hs=>?_⟩
      refine⟨.pointer (some ⟨b,o+fi.off,none⟩),.c (Rc.hp _ _),fun u _=>?_⟩
      rw[←h2]
      exact r_fieldAddr hFF h1 h5 (val_ok hF hs hx).inv_c.inv_hp
     exact h.elim
    exact h.elim
  exact h.elim
 exact h.elim
theorem ldK_d {ti:TI} {o:Nat} {l:List CV} (h:ldK ti o l k):∃d,k d∧∀(ρ:Pl) (n:Nat) (w:World) (vl:List Value),Hl ρ n w l vl→∃v,Hd ρ n w d v∧((ti.agg=true∧v= .agg ((vl.drop o).take ti.size).toArray∧((vl.drop o).take ti.size).length=ti.size)∨(ti.agg=false∧vl[o]? =some v)):=by
 unfold ldK at h
 cases ha:ti.agg with
 |true=>
  rw[ha] at h
  obtain⟨h1,h2⟩:=takeK_ok (show takeK ti.size (l.drop o) _ from h)
  refine⟨_,h2,fun ρ n w vl hl=>⟨_,.a ((hl.drop o).take ti.size),.inl ⟨rfl,rfl,?_⟩⟩⟩
  have:=hl.len
  simp only[List.length_take,List.length_drop] at h1 ⊢
  omega
 |false=>
  rw[ha] at h
  simp only[cond_false] at h
  split at h
  ·next c hc=>
   refine⟨_,h,fun ρ n w vl hl=>?_⟩
   obtain⟨v,h1,h2⟩:=hl.get hc
   exact⟨v,.c h2,.inr ⟨rfl,h1⟩⟩
  exact h.elim
theorem own_cell {u:World} {b i:Nat} {T:TypeId} {vl junk:List Value} {x:Value} (h:u.heap[b]? =some (.cells (vl++junk).toArray T (0,0))) (hi:vl[i]? =some x):u.cell? ⟨b,i,none⟩=some x:=by
 unfold World.cell?
 simp only[h]
 have:=List.getElem?_append_left (l₂:=junk) (get_lt hi)
 simp[this,hi]
theorem ld_run {ti:TI} {u:World} {b p o:Nat} {vl:List Value} {v:Value} (G:GoodT P t ti) (hx:ev f x= .pointer (some ⟨b,p+o,none⟩)) (hc:∀(i:Nat) (y:Value),vl[i]? =some y→u.cell? ⟨b,p+i,none⟩=some y)
 (hv:(ti.agg=true∧v= .agg ((vl.drop o).take ti.size).toArray∧((vl.drop o).take ti.size).length=ti.size)∨(ti.agg=false∧vl[o]? =some v)):(execOp (ev f) ⟨dst,.load t x,ty,pos,aft,gd⟩).run P u= .ok (.value v) u:=by
 obtain⟨d,hun⟩:=G.un
 rcases hv with ⟨ha,rfl,hl⟩|⟨ha,hv⟩
 ·obtain⟨zz,hty,_⟩:=G.ty
  refine r_loada hun (G.ag.trans ha) (by rw[hl];exact hty) hx fun i y hi=>?_
  rw[List.getElem?_take] at hi
  split at hi
  ·rw[List.getElem?_drop] at hi
   rw[Nat.add_assoc]
   exact hc _ _ hi
  cases hi
 exact r_load hun (G.ag.trans ha) hx (hc o v hv)
include hT in
theorem eLoad_ok (h:eLoad T pg gs s t x k) (hD:Dn ρ0 w0 nb s ρ f w) (hp:sat f gs→pgOk pg):Pu P f ⟨dst,.load t x,ty,pos,aft,gd⟩ w ρ s.bl.length gs k:=by
 unfold eLoad at h
 split at h
 ·next ti ht=>
  have G:=hT t ti ht
  split at h
  ·next j o hx=>
   split at h
   ·next bb hb=>
    obtain⟨T',e,l⟩:=bb
    have h':∃d,k d∧(sat f gs→∀(ρ:Pl) (n:Nat) (w:World) (vl:List Value),Hl ρ n w l vl→∃v,Hd ρ n w d v∧((ti.agg=true∧v= .agg ((vl.drop o).take ti.size).toArray∧((vl.drop o).take ti.size).length=ti.size)∨(ti.agg=false∧vl[o]? =some v))):=by
     cases hz:Nat.beq e 0 with
     |true=>
      simp only[hz,cond_true] at h
      obtain⟨d,h1,h2⟩:=ldK_d h
      exact⟨d,h1,fun _=>h2⟩
     |false=>
      simp only[hz,cond_false] at h
      unfold ldS at h
      cases ha:ti.agg with
      |true=>
       rw[ha] at h
       obtain⟨r,h1,h2⟩:=h
       refine⟨_,h2,fun hs ρ n w vl hl=>?_⟩
       obtain⟨h3,h4⟩:=ob_ok h1 (hp hs)
       subst h3
       refine⟨_,.a ((hl.drop o).take ti.size),.inl ⟨rfl,rfl,?_⟩⟩
       have:=hl.len
       simp only[List.length_take,List.length_drop] at h4 ⊢
       omega
      |false=>
       rw[ha] at h
       obtain⟨c,h1,h2⟩:=h
       refine⟨_,h2,fun hs ρ n w vl hl=>?_⟩
       obtain⟨v,h3,h4⟩:=hl.get (ob_ok h1 (hp hs))
       exact⟨v,.c h4,.inr ⟨rfl,h3⟩⟩
    obtain⟨d,hk,hd⟩:=h'
    refine⟨d,hk,fun hs=>?_⟩
    obtain⟨hj,b,hρ,he⟩:=(val_ok hD.f hs hx).inv_c
    obtain⟨vl,junk,hh,hl,_⟩:=(hD.m.ok j T' e l hb).at hρ
    obtain⟨v,hv,hcase⟩:=hd hs ρ s.bl.length w vl hl
    refine⟨v,hv,fun u hu=>ld_run (p:=0) G (by rw[Nat.zero_add];exact he) (fun i y hi=>?_) hcase⟩
    rw[Nat.zero_add]
    exact own_cell (by rw[(hu rfl).block b (lt_of_heap hh)];exact hh) hi
   exact h.elim
  ·next A n c e get j o hx=>
   obtain⟨d,hk,hd⟩:=ldK_d h
   refine⟨d,hk,fun hs=>?_⟩
   obtain⟨hr,hj,b,o',hA,he⟩:=(val_ok hD.f hs hx).inv_c
   obtain⟨b2,o2,hA2,hZ,vl,hcell,hlen,hel⟩:=hr.elem hj
   rw[hA] at hA2
   injection hA2 with hA2
   injection hA2 with e1 e2
   subst e1 e2
   obtain⟨v,hv,hcase⟩:=hd ρ s.bl.length w vl (Hl.of_get hlen fun i c y hc hy=>Hc.of_rc (hel i c y hc hy))
   refine⟨v,hv,fun u hu=>ld_run (p:=o'+j*e) G he (fun i y hi=>?_) hcase⟩
   rw[cell_of_block ((hu rfl).block b hZ.lt)]
   exact(hcell i y hi).1
  ·next b o hx=>
   obtain⟨ff,j,h⟩:=h
   split at h
   ·next F hF=>
    obtain⟨hob,h⟩:=h
    have h':∃d,k d∧(sat f gs→∀(ρ:Pl) (n:Nat) (w:World) (vl:List Value),Hl ρ n w (F.get j) vl→∃v,Hd ρ n w d v∧((ti.agg=true∧v= .agg ((vl.drop o).take ti.size).toArray∧((vl.drop o).take ti.size).length=ti.size)∨(ti.agg=false∧vl[o]? =some v))):=by
     unfold ldS at h
     cases ha:ti.agg with
     |true=>
      rw[ha] at h
      obtain⟨r,h1,h2⟩:=h
      refine⟨_,h2,fun hs ρ n w vl hl=>?_⟩
      obtain⟨h3,h4⟩:=ob_ok h1 (hp hs)
      subst h3
      refine⟨_,.a ((hl.drop o).take ti.size),.inl ⟨rfl,rfl,?_⟩⟩
      have:=hl.len
      simp only[List.length_take,List.length_drop] at h4 ⊢
      omega
     |false=>
      rw[ha] at h
      obtain⟨c,h1,h2⟩:=h
      refine⟨_,h2,fun hs ρ n w vl hl=>?_⟩
      obtain⟨v,h3,h4⟩:=hl.get (ob_ok h1 (hp hs))
      exact⟨v,.c h4,.inr ⟨rfl,h3⟩⟩
    obtain⟨d,hk,hd⟩:=h'
    refine⟨d,hk,fun hs=>?_⟩
    obtain⟨hj,hA⟩:=ob_ok hob (hp hs)
    have he:=(val_ok hD.f hs hx).inv_c.inv_hp
    obtain⟨vl,junk,hh,hlen,hcl⟩:=(hD.m.fam.mem hD.l hF hj).at hA
    obtain⟨v,hv,hcase⟩:=hd hs ρ s.bl.length w vl (Hl.of_get hlen fun i c y hc hy=>Hc.of_rc (hcl.1 i c y hc hy))
    refine⟨v,hv,fun u hu=>ld_run (p:=0) G (by rw[Nat.zero_add];exact he) (fun i y hi=>?_) hcase⟩
    rw[Nat.zero_add]
    exact own_cell (by rw[(hu rfl).block b (lt_of_heap hh)];exact hh) hi
   exact h.elim
  exact h.elim
 exact h.elim
theorem arK_d {ka:IntKind} {zz:Int} (h:arK pg ka zz k) (hp:sat f gs→pgOk pg):∃d,k d∧(sat f gs→∃r,ka.wrap zz=r∧d= .c (.v (.int ka r))):=by
 obtain⟨r,h1,h2⟩:=h
 exact⟨_,h2,fun hs=>⟨r,(ob_ok h1 (hp hs)).symm,rfl⟩⟩
include hT in
theorem boolE_ok {op:BinOp} {p q:Prop} {ip:Decidable p} {iq:Decidable q} (h:boolE T t op p q ip iq k) (ex:sat f gs→ev f x= .bool (@decide p ip)) (ey:sat f gs→ev f y= .bool (@decide q iq)):Pu P f ⟨dst,.binOp op t x y t',ty,pos,aft,gd⟩ w ρ s.bl.length gs k:=by
 unfold boolE at h
 split at h
 ·next ti ht=>
  cases hb:ti.bo with
  |false=>rw[hb] at h;exact h.elim
  |true=>
   rw[hb] at h
   simp only[cond_true] at h
   have hu:=(hT t ti ht).bo hb
   split at h
   ·refine⟨_,h,fun hs=>⟨_,.c (Rc.b _ _),fun u _=>?_⟩⟩
    rw[r_eqlb hu (ex hs) (ey hs)]
    by_cases p<;>by_cases q<;>simp_all
   ·refine⟨_,h,fun hs=>⟨_,.c (Rc.b _ _),fun u _=>?_⟩⟩
    rw[r_neqb hu (ex hs) (ey hs)]
    by_cases p<;>by_cases q<;>simp_all
   exact h.elim
 exact h.elim
theorem Hl.inv_vs {n:Nat}:∀{vs vl:List Value},Hl ρ n w (vs.map CV.v) vl→vl=vs
 |[],[],_=>rfl
 |[],_::_,h=>h.elim
 |_::_,[],h=>h.elim
 |v::vs,x::vl,h=>by rw[h.1.inv_v,Hl.inv_vs h.2]
include hT in
theorem eBin_ok {op:BinOp} (h:eBin T t pg gs s op x y k) (hF:Fr s ρ w f) (hp:sat f gs→pgOk pg):Pu P f ⟨dst,.binOp op t x y t',ty,pos,aft,gd⟩ w ρ s.bl.length gs k:=by
 unfold eBin at h
 split at h
 ·next ka a kb b hx hy=>
  cases hsh:isSh op with
  |true=>
   rw[hsh] at h
   simp only[cond_true] at h
   have ex:sat f gs→ev f x= .int ka a:=fun hs=>(val_ok hF hs hx).inv_c.inv_v
   have ey:sat f gs→ev f y= .int kb b:=fun hs=>(val_ok hF hs hy).inv_c.inv_v
   unfold shI at h
   split at h
   ·obtain⟨h0,h⟩:=h
    obtain⟨d,hd,hh⟩:=arK_d h hp
    exact⟨d,hd,fun hs=>by obtain⟨r,hr,rfl⟩:=hh hs;exact⟨_,.c (Rc.v _),fun u _=>r_shl (ex hs) (ey hs) (ob_ok h0 (hp hs)) hr⟩⟩
   ·obtain⟨h0,r,hr,h⟩:=h
    exact⟨_,h,fun hs=>⟨_,.c (Rc.v _),fun u _=>r_shr (ex hs) (ey hs) (ob_ok h0 (hp hs)) (ob_ok hr (hp hs)).symm⟩⟩
   exact h.elim
  |false=>
  rw[hsh] at h
  simp only[cond_false] at h
  cases hk:decide (ka=kb) with
  |false=>rw[hk] at h;exact h.elim
  |true=>
   rw[hk] at h
   have hk':=of_decide_eq_true hk
   subst hk'
   simp only[cond_true] at h
   have ex:sat f gs→ev f x= .int ka a:=fun hs=>(val_ok hF hs hx).inv_c.inv_v
   have ey:sat f gs→ev f y= .int ka b:=fun hs=>(val_ok hF hs hy).inv_c.inv_v
   unfold binI at h
   split at h
   ·exact⟨_,h,fun hs=>⟨_,.c (Rc.b _ _),fun u _=>r_lss (ex hs) (ey hs)⟩⟩
   ·exact⟨_,h,fun hs=>⟨_,.c (Rc.b _ _),fun u _=>r_leq (ex hs) (ey hs)⟩⟩
   ·exact⟨_,h,fun hs=>⟨_,.c (Rc.b _ _),fun u _=>r_gtr (ex hs) (ey hs)⟩⟩
   ·exact⟨_,h,fun hs=>⟨_,.c (Rc.b _ _),fun u _=>r_geq (ex hs) (ey hs)⟩⟩
   ·exact⟨_,h,fun hs=>⟨_,.c (Rc.b _ _),fun u _=>r_eql (ex hs) (ey hs)⟩⟩
   ·exact⟨_,h,fun hs=>⟨_,.c (Rc.b _ _),fun u _=>r_neq (ex hs) (ey hs)⟩⟩
   ·obtain⟨d,hd,hh⟩:=arK_d h hp
    exact⟨d,hd,fun hs=>by obtain⟨r,hr,rfl⟩:=hh hs;exact⟨_,.c (Rc.v _),fun u _=>r_add (ex hs) (ey hs) hr⟩⟩
   ·obtain⟨d,hd,hh⟩:=arK_d h hp
    exact⟨d,hd,fun hs=>by obtain⟨r,hr,rfl⟩:=hh hs;exact⟨_,.c (Rc.v _),fun u _=>r_sub (ex hs) (ey hs) hr⟩⟩
   ·obtain⟨d,hd,hh⟩:=arK_d h hp
    exact⟨d,hd,fun hs=>by obtain⟨r,hr,rfl⟩:=hh hs;exact⟨_,.c (Rc.v _),fun u _=>r_mul (ex hs) (ey hs) hr⟩⟩
   ·obtain⟨h0,h⟩:=h
    obtain⟨d,hd,hh⟩:=arK_d h hp
    exact⟨d,hd,fun hs=>by obtain⟨r,hr,rfl⟩:=hh hs;exact⟨_,.c (Rc.v _),fun u _=>r_quo (ex hs) (ey hs) (ob_ok h0 (hp hs)) hr⟩⟩
   ·obtain⟨h0,h⟩:=h
    exact⟨_,h,fun hs=>⟨_,.c (Rc.v _),fun u _=>r_rem (ex hs) (ey hs) (ob_ok h0 (hp hs)) rfl⟩⟩
   ·obtain⟨d,hd,hh⟩:=arK_d h hp
    exact⟨d,hd,fun hs=>by obtain⟨r,hr,rfl⟩:=hh hs;exact⟨_,.c (Rc.v _),fun u _=>r_or (ex hs) (ey hs) hr⟩⟩
   ·obtain⟨d,hd,hh⟩:=arK_d h hp
    exact⟨d,hd,fun hs=>by obtain⟨r,hr,rfl⟩:=hh hs;exact⟨_,.c (Rc.v _),fun u _=>r_and (ex hs) (ey hs) hr⟩⟩
   exact h.elim
 ·next p hp' q hq' hx hy=>exact boolE_ok hT h (fun hs=>(val_ok hF hs hx).inv_c.inv_b) (fun hs=>(val_ok hF hs hy).inv_c.inv_b)
 ·next p hp' q hx hy=>exact boolE_ok hT h (fun hs=>(val_ok hF hs hx).inv_c.inv_b) (fun hs=>by rw[(val_ok hF hs hy).inv_c.inv_v];simp)
 ·next p q hq' hx hy=>exact boolE_ok hT h (fun hs=>by rw[(val_ok hF hs hx).inv_c.inv_v];simp) (fun hs=>(val_ok hF hs hy).inv_c.inv_b)
 ·next a b hx hy=>
  have ex:sat f gs→ev f x= .string a:=fun hs=>(val_ok hF hs hx).inv_c.inv_v
  have ey:sat f gs→ev f y= .string b:=fun hs=>(val_ok hF hs hy).inv_c.inv_v
  split at h
  ·refine⟨_,h,fun hs=>⟨_,.c (Rc.b _ _),fun u _=>?_⟩⟩
   simp[execOp,ex hs,ey hs,eqGuard,binOp,Op.stringOp]
   rw[Bool.eq_iff_iff]
   simp
  ·refine⟨_,h,fun hs=>⟨_,.c (Rc.b _ _),fun u _=>?_⟩⟩
   simp[execOp,ex hs,ey hs,eqGuard,binOp,Op.stringOp]
   rw[Bool.eq_iff_iff]
   simp
  ·refine⟨_,h.2,fun hs=>⟨_,.c (Rc.v _),fun u _=>?_⟩⟩
   have hsz:=ob_ok h.1 (hp hs)
   have hno:¬(9223372036854775807:Int)<(a.size:Int)+(b.size:Int):=by omega
   simp[execOp,ex hs,ey hs,eqGuard,binOp,Op.stringOp,IntKind.max,hno]
   show(a.size:Int)+(b.size:Int)≤(9223372036854775807:Int)
   omega
  exact h.elim
 ·next A n c e' get hx hy=>
  split at h
  ·next ti hti=>
   cases he:ti.el with
   |none=>rw[he] at h;exact h.elim
   |some e=>
    rw[he] at h
    refine⟨_,h,fun hs=>⟨_,.c (Rc.b _ _),fun u _=>?_⟩⟩
    rw[r_eqlnil ((hT _ _ hti).el e he) (val_ok hF hs hx).inv_c.inv_r.1 (val_ok hF hs hy).inv_c.inv_v,Bool.decide_eq_true]
  exact h.elim
 ·next l1 l2 hx hy=>
  split at h
  ·next ti hti=>
   obtain⟨vs,h0,h⟩:=h
   refine⟨_,h,fun hs=>⟨_,.c (Rc.v _),fun u _=>?_⟩⟩
   obtain⟨e1,e2,e3⟩:=ob_ok h0 (hp hs)
   obtain⟨k1,k2⟩:=(hT _ _ hti).ck vs e3
   have ex:ev f x= .agg vs.toArray:=by
    obtain⟨vl,q1,q2⟩:=(val_ok hF hs hx).inv_a
    rw[e1] at q2
    rw[q1,q2.inv_vs]
   have ey:ev f y= .agg vs.toArray:=by
    obtain⟨vl,q1,q2⟩:=(val_ok hF hs hy).inv_a
    rw[e2] at q2
    rw[q1,q2.inv_vs]
   have k3:(Op.equalIn 10000 t (.agg vs.toArray) (.agg vs.toArray)).run P u= .ok true u:=k2 u
   simp only[execOp,ex,ey,Sem.run_bind,run_eqGuard_agg u _ _ _ _ _ _ k1,Result.andThen_ok,run_eql_struct,k3,Sem.run_pure]
  exact h.elim
 exact h.elim
theorem eUn_ok {op:UnOp} (h:eUn pg gs s op x k) (hF:Fr s ρ w f) (hp:sat f gs→pgOk pg):Pu P f ⟨dst,.unOp op t x,ty,pos,aft,gd⟩ w ρ s.bl.length gs k:=by
 unfold eUn at h
 split at h
 ·next p hh hx=>
  split at h
  ·refine⟨_,h,fun hs=>⟨_,.c (Rc.b _ _),fun u _=>?_⟩⟩
   rw[r_not (val_ok hF hs hx).inv_c.inv_b]
   simp
  exact h.elim
 ·next b hx=>
  split at h
  ·exact⟨_,h,fun hs=>⟨_,.c (Rc.v _),fun u _=>r_not (val_ok hF hs hx).inv_c.inv_v⟩⟩
  exact h.elim
 ·next ka a hx=>
  split at h
  ·obtain⟨d,hd,hh⟩:=arK_d h hp
   exact⟨d,hd,fun hs=>by obtain⟨r,hr,rfl⟩:=hh hs;exact⟨_,.c (Rc.v _),fun u _=>r_neg (val_ok hF hs hx).inv_c.inv_v hr⟩⟩
  exact h.elim
 exact h.elim
include hT in
theorem eConv_ok (h:eConv T pg gs s t t' x k) (hF:Fr s ρ w f) (hp:sat f gs→pgOk pg):Pu P f ⟨dst,.convert t t' x,ty,pos,aft,gd⟩ w ρ s.bl.length gs k:=by
 unfold eConv at h
 split at h
 ·next t1 ti h1 h2=>
  split at h
  ·next ka kk a hk hx=>
   obtain⟨d0,hd0⟩:=(hT t t1 h1).un
   obtain⟨d,hd,hh⟩:=arK_d h hp
   exact⟨d,hd,fun hs=>by obtain⟨r,hr,rfl⟩:=hh hs;exact⟨_,.c (Rc.v _),fun u _=>r_conv hd0 ((hT t' ti h2).ik _ hk) (val_ok hF hs hx).inv_c.inv_v hr⟩⟩
  exact h.elim
 exact h.elim
include hT in
theorem eIdx_ok (h:eIdx T pg gs s t x y k) (hD:Dn ρ0 w0 nb s ρ f w) (hp:sat f gs→pgOk pg):Pu P f ⟨dst,.indexAddr t x y,ty,pos,aft,gd⟩ w ρ s.bl.length gs k:=by
 unfold eIdx at h
 split at h
 ·next ti ht=>
  split at h
  ·next e he=>
   have hu:=(hT t ti ht).el e he
   split at h
   ·next te A n c e' get kk zz hte hx hy=>
    obtain⟨z0,hty,_⟩:=(hT e te hte).ty
    cases hb:Nat.beq e' te.size with
    |false=>rw[hb] at h;exact h.elim
    |true=>
     rw[hb] at h
     have hb':=Nat.eq_of_beq_eq_true hb
     obtain⟨m,hm,h⟩:=(show ∃m:Nat,ob pg (zz=m∧m<n)∧k (.c (.q A n c e' get m 0)) from h)
     refine⟨_,h,fun hs=>?_⟩
     obtain⟨hm1,hm2⟩:=ob_ok hm (hp hs)
     obtain⟨h1,h2⟩:=(val_ok hD.f hs hx).inv_c.inv_r
     obtain⟨b,o,hA,_⟩:=h2.elem hm2
     refine⟨.pointer (some ⟨b,o+m*e'+0,none⟩),.c ⟨h2,hm2,b,o,hA,rfl⟩,fun u _=>?_⟩
     have hr:=r_indexAddr (P:=P) (w:=u) (dst:=dst) (ty:=ty) (pos:=pos) (aft:=aft) (g:=gd) (b:=b) (o:=o) (n:=n) (c:=c) hu hty (by rw[h1,hA]) (val_ok hD.f hs hy).inv_c.inv_v oM oM
     rw[hm1,Int.toNat_natCast,←hb'] at hr
     exact hr
   ·next te i n kk zz hte hx hy=>
    obtain⟨z0,hty,_⟩:=(hT e te hte).ty
    split at h
    ·next bb hbb=>
     obtain⟨T',es,l⟩:=bb
     obtain⟨m,hm,h⟩:=h
     refine⟨_,h,fun hs=>?_⟩
     obtain⟨hm1,hm2,hm3⟩:=ob_ok hm (hp hs)
     obtain⟨hi,he⟩:=(val_ok hD.f hs hx).inv_c
     have hq:=hD.m.ok i T' es l hbb
     cases hb:(ρ i).1 with
     |none=>
      unfold Bq at hq
      simp only[hb] at hq
      rw[hq.1] at hm3
      exact absurd hm3 (Nat.not_lt_zero _)
     |some b=>
      rw[hb] at he
      refine⟨.pointer (some ⟨b,m*te.size,none⟩),.c ⟨hi,b,hb,rfl⟩,fun u _=>?_⟩
      have hr:=r_indexAddr (P:=P) (w:=u) (dst:=dst) (ty:=ty) (pos:=pos) (aft:=aft) (g:=gd) (b:=b) (o:=0) (n:=n) (c:=(ρ i).2) hu hty he (val_ok hD.f hs hy).inv_c.inv_v oM oM
      rw[hm1,Int.toNat_natCast,Nat.zero_add] at hr
      exact hr
    exact h.elim
   ·next te A n c kk zz hte hx hy=>
    obtain⟨z0,hty,_⟩:=(hT e te hte).ty
    obtain⟨m,b,hm,h⟩:=h
    refine⟨_,h,fun hs=>?_⟩
    obtain⟨hm1,hm2,hA⟩:=ob_ok hm (hp hs)
    subst hA
    refine⟨.pointer (some ⟨b,m*te.size,none⟩),.c (Rc.hp _ _),fun u _=>?_⟩
    have hr:=r_indexAddr (P:=P) (w:=u) (dst:=dst) (ty:=ty) (pos:=pos) (aft:=aft) (g:=gd) (b:=b) (o:=0) (n:=n) (c:=c) hu hty (val_ok hD.f hs hx).inv_c.inv_h (val_ok hD.f hs hy).inv_c.inv_v oM oM
    rw[hm1,Int.toNat_natCast,Nat.zero_add] at hr
    exact hr
   exact h.elim
  exact h.elim
 exact h.elim
theorem r_indexAddrA {u:World} {kk:IntKind} {i:Int} {b o n size bytes:Nat} {zz:Value} {e:TypeId} (hu:P.underlying t=some (.array n e)) (ht:TyI P e size bytes zz) (hx:ev f x= .pointer (some ⟨b,o,none⟩)) (hy:ev f y= .int kk i) (h0:0≤i) (h1:i<n):
 (execOp (ev f) ⟨dst,.indexAddr t x y,ty,pos,aft,gd⟩).run P u= .ok (.value (.pointer (some ⟨b,o+i.toNat*size,none⟩))) u:=by
 obtain⟨ii,hi,_,hs,_⟩:=ht.ex
 simp[execOp,hx,hy,Instr.indexAt,Instr.sureAddr,asIntOf,run_underlying hu,sizeOf,typeInfo,hi,hs,h0,h1,add_spotless]
include hT in
theorem eIdxA_ok (h:eIdxA T pg gs s t x y k) (hF:Fr s ρ w f) (hp:sat f gs→pgOk pg):Pu P f ⟨dst,.indexAddr t x y,ty,pos,aft,gd⟩ w ρ s.bl.length gs k:=by
 unfold eIdxA at h
 split at h
 ·next ti ht=>
  split at h
  ·next n e es i o kk z har hx hy=>
   obtain⟨hu,by',zz,hty⟩:=(hT t ti ht).ar n e es har
   obtain⟨m,hm,h⟩:=h
   refine⟨_,h,fun hs=>?_⟩
   obtain⟨hm1,hm2⟩:=ob_ok hm (hp hs)
   obtain⟨hi,b,hb,he⟩:=(val_ok hF hs hx).inv_c
   refine⟨.pointer (some ⟨b,o+m*es,none⟩),.c ⟨hi,b,hb,rfl⟩,fun u _=>?_⟩
   have hr:=r_indexAddrA (P:=P) (u:=u) (dst:=dst) (ty:=ty) (pos:=pos) (aft:=aft) (gd:=gd) hu hty he (val_ok hF hs hy).inv_c.inv_v oM oM
   rw[hm1,Int.toNat_natCast] at hr
   exact hr
  ·next n e es A nn c e' get j o kk z har hx hy=>
   obtain⟨hu,by',zz,hty⟩:=(hT t ti ht).ar n e es har
   obtain⟨m,hm,h⟩:=h
   refine⟨_,h,fun hs=>?_⟩
   obtain⟨hm1,hm2⟩:=ob_ok hm (hp hs)
   obtain⟨hr0,hj,b,o',hA,he⟩:=(val_ok hF hs hx).inv_c
   refine⟨.pointer (some ⟨b,o'+j*e'+(o+m*es),none⟩),.c ⟨hr0,hj,b,o',hA,rfl⟩,fun u _=>?_⟩
   have hr:=r_indexAddrA (P:=P) (u:=u) (dst:=dst) (ty:=ty) (pos:=pos) (aft:=aft) (gd:=gd) hu hty he (val_ok hF hs hy).inv_c.inv_v oM oM
   rw[hm1,Int.toNat_natCast,Nat.add_assoc (o'+j*e')] at hr
   exact hr
  exact h.elim
 exact h.elim
include hT in
theorem eByte_ok (h:eByte T pg gs s t x y k) (hF:Fr s ρ w f) (hp:sat f gs→pgOk pg):Pu P f ⟨dst,.index t x y,ty,pos,aft,gd⟩ w ρ s.bl.length gs k:=by
 unfold eByte at h
 split at h
 ·next ti ht=>
  cases hb:ti.str with
  |false=>rw[hb] at h;exact h.elim
  |true=>
   rw[hb] at h
   simp only[cond_true] at h
   split at h
   ·next a kk z hx hy=>
    obtain⟨m,b,hm,h⟩:=h
    refine⟨_,h,fun hs=>?_⟩
    obtain⟨hm1,hm2⟩:=ob_ok hm (hp hs)
    refine⟨_,.c (Rc.v _),fun u _=>?_⟩
    have hx':=(val_ok hF hs hx).inv_c.inv_v
    have hy':=(val_ok hF hs hy).inv_c.inv_v
    have h0:0≤z:=by omega
    have hz:z.toNat=m:=by omega
    simp[execOp,hx',hy',Instr.index,asIntOf,run_underlying ((hT t ti ht).str hb),h0,hz,hm2]
   exact h.elim
 exact h.elim
include hT in
theorem eSl_ok {lo hi:Option Operand} (h:eSl T pg gs s t x lo hi k) (hD:Dn ρ0 w0 nb s ρ f w) (hp:sat f gs→pgOk pg):Pu P f ⟨dst,.slice t x lo hi none,ty,pos,aft,gd⟩ w ρ s.bl.length gs k:=by
 have hF:=hD.f
 unfold eSl at h
 split at h
 ·next ti ht=>
  split at h
  ·next e he=>
   have hu:=(hT t ti ht).el e he
   split at h
   ·next te A n c e' get hte hx=>
    obtain⟨zz,hty,_⟩:=(hT e te hte).ty
    cases hb:Nat.beq e' te.size with
    |false=>rw[hb] at h;exact h.elim
    |true=>
     rw[hb] at h
     simp only[cond_true] at h
     have hb':=Nat.eq_of_beq_eq_true hb
     split at h
     ·next y=>
      split at h
      ·next kk z hy=>
       obtain⟨m,hm,h⟩:=h
       refine⟨_,h,fun hs=>?_⟩
       obtain⟨hm1,hm2⟩:=ob_ok hm (hp hs)
       obtain⟨e1,e2⟩:=(val_ok hF hs hx).inv_c.inv_r
       have hcn:n≤c∧c≤maxLen:=by
        cases e2 with
        |nil A c e get hm=>exact⟨Nat.zero_le _,hm⟩
        |r b o n c e get V hc hm=>exact⟨hc,hm⟩
       refine⟨.slice A m c,.c (Hc.of_rc ?_),fun u _=>?_⟩
       ·cases e2 with
        |nil A c e get hmx=>
         have:m=0:=by omega
         subst this
         exact Rc.nil _ _ _ _ hmx
        |r b o n c e get V hc hmx hZ hcell hlen hel=>exact Rc.r b o m c e' get V oM hmx hZ (fun j hj=>hcell j oM) (fun j hj=>hlen j oM) (fun j hj=>hel j oM)
       have hr:=r_slice_h (P:=P) (w:=u) (dst:=dst) (ty:=ty) (pos:=pos) (aft:=aft) (g:=gd) hu hty e1 (val_ok hF hs hy).inv_c.inv_v oM oM
       rw[hm1,Int.toNat_natCast] at hr
       exact hr
      exact h.elim
     ·next y=>
      split at h
      ·next kk z hy=>
       obtain⟨m,hm,h⟩:=h
       refine⟨_,h,fun hs=>?_⟩
       obtain⟨hm1,hm2⟩:=ob_ok hm (hp hs)
       obtain⟨e1,e2⟩:=(val_ok hF hs hx).inv_c.inv_r
       refine⟨.slice (slA A c m e') (n-m) (c-m),.c (Hc.of_rc ?_),fun u _=>?_⟩
       ·cases e2 with
        |nil A c e get hmx=>rw[Nat.zero_sub];exact Rc.nil _ _ _ _ oM
        |r b o n c e get V hc hmx hZ hcell hlen hel=>
         by_cases h0:n-m=0
         ·rw[h0];exact Rc.nil _ _ _ _ oM
         have hA:slA (some ⟨b,o,none⟩) c m e'=some ⟨b,o+m*e',none⟩:=by
          unfold slA
          rw[if_neg oM]
          simp[add_spotless]
         rw[hA]
         refine Rc.r b (o+m*e') (n-m) (c-m) e' (fun j=>get (j+m)) (fun j=>V (j+m)) oM oM hZ (fun j hj i u hu=>?_) (fun j hj=>hlen (j+m) oM) (fun j hj=>hel (j+m) oM)
         have:=hcell (j+m) oM i u hu
         rw[show o+m*e'+j*e'+i=o+(j+m)*e'+i by rw[Nat.add_mul];omega]
         exact this
       have hr:=r_slice_l (P:=P) (w:=u) (dst:=dst) (ty:=ty) (pos:=pos) (aft:=aft) (g:=gd) hu hty e1 (val_ok hF hs hy).inv_c.inv_v oM oM
       rw[hm1,Int.toNat_natCast,←hb'] at hr
       exact hr
      exact h.elim
     exact h.elim
   ·next te i n hte hx=>
    obtain⟨zz,hty,_⟩:=(hT e te hte).ty
    split at h
    ·next bb hbb=>
     obtain⟨Tb,eb,lb⟩:=bb
     cases hb:(Nat.beq eb te.size&&Nat.ble 1 te.size) with
     |false=>simp only[hb,cond_false] at h
     |true=>
      simp only[hb,cond_true] at h
      simp only[Bool.and_eq_true] at hb
      have hb':=Nat.eq_of_beq_eq_true hb.1
      subst hb'
      have hpos:=Nat.le_of_ble_eq_true hb.2
      split at h
      ·next y=>
       split at h
       ·next kk z hy=>
        obtain⟨m,hm,h⟩:=h
        refine⟨_,h,fun hs=>?_⟩
        obtain⟨hm1,hm2⟩:=ob_ok hm (hp hs)
        obtain⟨hi,he⟩:=(val_ok hF hs hx).inv_c
        have hcap:m≤(ρ i).2:=by
         have hq:=hD.m.ok i Tb te.size lb hbb
         unfold Bq at hq
         cases hρ:(ρ i).1 with
         |none=>
          simp only[hρ] at hq
          rw[hq.1] at hm2
          have:m=0:=by
           rcases Nat.eq_zero_or_pos m with h0|h0
           ·exact h0
           have:=Nat.mul_le_mul h0 hpos;simp at hm2;omega
          omega
         |some b=>
          simp only[hρ] at hq
          obtain⟨vl,junk,_,q2,q3,_⟩:=hq
          have h1:=(q3 hpos).1
          have h2:=q2.len
          rw[List.length_append] at h1
          have h3:m*te.size≤(ρ i).2*te.size:=by omega
          exact Nat.le_of_mul_le_mul_right h3 hpos
        refine⟨.slice ((ρ i).1.map fun b=>⟨b,0,none⟩) m (ρ i).2,.c ⟨hi,rfl⟩,fun u _=>?_⟩
        have hr:=r_slice_h (P:=P) (w:=u) (dst:=dst) (ty:=ty) (pos:=pos) (aft:=aft) (g:=gd) hu hty he (val_ok hF hs hy).inv_c.inv_v oM oM
        rw[hm1,Int.toNat_natCast] at hr
        exact hr
       exact h.elim
      exact h.elim
    exact h.elim
   exact h.elim
  cases hb:ti.str with
  |false=>rw[hb] at h;exact h.elim
  |true=>
   rw[hb] at h
   simp only[cond_true] at h
   split at h
   ·next a y y' hx=>
    split at h
    ·next k1 z k2 z' hy hy'=>
     obtain⟨l,m,hm,h⟩:=h
     refine⟨_,h,fun hs=>⟨_,.c (Rc.v _),fun u _=>?_⟩⟩
     obtain⟨h1,h2,h3,h4⟩:=ob_ok hm (hp hs)
     subst h1 h2
     have e1:=(val_ok hF hs hx).inv_c.inv_v
     have e2:=(val_ok hF hs hy).inv_c.inv_v
     have e3:=(val_ok hF hs hy').inv_c.inv_v
     have hno:¬(a.size:Int)<(m:Int):=by omega
     have hno2:¬(m:Int)<(l:Int):=by omega
     simp[execOp,e1,e2,e3,Instr.sliceAt,Instr.slice,Instr.sliceBounds,Instr.sliceBound,asIntOf,run_underlying ((hT t ti ht).str hb),hno,hno2,h3,h4]
    exact h.elim
   exact h.elim
 exact h.elim
include hT in
theorem ePart_ok {i:Nat} (h:ePart T gs s t x i k) (hF:Fr s ρ w f):Pu P f ⟨dst,.field t x i,ty,pos,aft,gd⟩ w ρ s.bl.length gs k:=by
 unfold ePart at h
 split at h
 ·next ti ht=>
  split at h
  ·next fi hfi=>
   split at h
   ·next l hx=>
    rcases (hT t ti ht).fs with h0|⟨F,hFF,_,hh⟩
    ·rw[h0] at hfi;cases hfi
    obtain⟨fl,h1,h2,h3,h4,⟨dd,h5⟩,by',zz,h6⟩:=hh i fi hfi
    obtain⟨d,hk,hd⟩:=ldK_d h
    refine⟨d,hk,fun hs=>?_⟩
    obtain⟨vl,he,hl⟩:=(val_ok hF hs hx).inv_a
    obtain⟨v,hv,hcase⟩:=hd ρ s.bl.length w vl hl
    refine⟨v,hv,fun u _=>?_⟩
    rw[←h3] at h4 h5 h6
    rcases hcase with ⟨ha,rfl,hlen⟩|⟨ha,hv⟩
    ·have hr:=r_fielda (P:=P) (w:=u) (dst:=dst) (ty:=ty) (pos:=pos) (aft:=aft) (g:=gd) hFF h1 h5 (h4.trans ha) h6 he
     rw[hr,h2]
     simp
    exact r_field hFF h1 h5 (h4.trans ha) he (by rw[h2];simpa using hv)
   exact h.elim
  exact h.elim
 exact h.elim
theorem eExt_ok {i:Nat} (h:eExt gs s x i k) (hF:Fr s ρ w f):Pu P f ⟨dst,.extract x i,ty,pos,aft,gd⟩ w ρ s.bl.length gs k:=by
 unfold eExt at h
 split at h
 ·next l hx=>
  split at h
  ·next d hd=>
   refine⟨d,h,fun hs=>?_⟩
   obtain⟨vl,he,hlen,hh⟩:=(val_ok hF hs hx).inv_t
   have hlt:i<vl.length:=by rw[←hlen];exact get_lt hd
   exact⟨vl[i],hh i d _ hd (List.getElem?_eq_getElem hlt),fun u _=>r_extract he (by simp[hlt])⟩
  exact h.elim
 exact h.elim
theorem r_lens {u:World} {a:ByteArray} (ht:P.underlying t=some .string) (hx:ev f x= .string a):(execOp (ev f) ⟨dst,.call ⟨.builtin .len,#[x],#[t]⟩,ty,pos,aft,gd⟩).run P u= .ok (.value (.int .i64 a.size)) u:=by
 simp[execOp,resolve,invoke,builtin,Builtin.len_,run_underlying ht,hx,goInt]
include hT in
theorem eLen_ok (h:eLen T gs s t x k) (hF:Fr s ρ w f):Pu P f ⟨dst,.call ⟨.builtin .len,#[x],#[t]⟩,ty,pos,aft,gd⟩ w ρ s.bl.length gs k:=by
 unfold eLen at h
 split at h
 ·next ti ht=>
  have hel:∀{b:Bool} {q:Prop},(bif ti.el.isSome then q else False)→q∧∃e,P.underlying t=some (.slice e):=fun {_ q} hq=>by
   cases he:ti.el with
   |none=>rw[he] at hq;exact hq.elim
   |some e=>rw[he] at hq;exact⟨hq,e,(hT t ti ht).el e he⟩
  split at h
  ·next A n c e get hx=>
   obtain⟨h,e,hu⟩:=hel (b:=true) h
   exact⟨_,h,fun hs=>⟨_,.c (Rc.v _),fun u _=>r_len hu (val_ok hF hs hx).inv_c.inv_r.1⟩⟩
  ·next i n hx=>
   obtain⟨h,e,hu⟩:=hel (b:=true) h
   exact⟨_,h,fun hs=>⟨_,.c (Rc.v _),fun u _=>r_len hu (val_ok hF hs hx).inv_c.2⟩⟩
  ·next A n c hx=>
   obtain⟨h,e,hu⟩:=hel (b:=true) h
   exact⟨_,h,fun hs=>⟨_,.c (Rc.v _),fun u _=>r_len hu (val_ok hF hs hx).inv_c.inv_h⟩⟩
  ·next A n c hx=>
   obtain⟨h,e,hu⟩:=hel (b:=true) h
   exact⟨_,h,fun hs=>⟨_,.c (Rc.v _),fun u _=>r_len hu (val_ok hF hs hx).inv_c.inv_v⟩⟩
  ·next a hx=>
   cases hb:ti.str with
   |false=>rw[hb] at h;exact h.elim
   |true=>
    rw[hb] at h
    exact⟨_,h,fun hs=>⟨_,.c (Rc.v _),fun u _=>r_lens ((hT t ti ht).str hb) (val_ok hF hs hx).inv_c.inv_v⟩⟩
  exact h.elim
 exact h.elim
theorem eMm_ok {mx:Bool} (h:eMm mx gs s x y k) (hF:Fr s ρ w f):Pu P f ⟨dst,.call ⟨.builtin (bif mx then .max else .min),#[x,y],#[t,t']⟩,ty,pos,aft,gd⟩ w ρ s.bl.length gs k:=by
 unfold eMm at h
 split at h
 ·next ka a kb b hx hy=>
  cases hk:decide (ka=kb) with
  |false=>rw[hk] at h;exact h.elim
  |true=>
   rw[hk] at h
   have hk':=of_decide_eq_true hk
   subst hk'
   refine⟨_,h,fun hs=>⟨_,.c (Rc.v _),fun u _=>?_⟩⟩
   cases mx
   ·have:=r_min2 (P:=P) (w:=u) (dst:=dst) (ty:=ty) (pos:=pos) (aft:=aft) (g:=gd) (t:=t) (t':=t') (val_ok hF hs hx).inv_c.inv_v (val_ok hF hs hy).inv_c.inv_v
    rw[show(if b<a then b else a)=min a b by omega] at this
    exact this
   have:=r_max2 (P:=P) (w:=u) (dst:=dst) (ty:=ty) (pos:=pos) (aft:=aft) (g:=gd) (t:=t) (t':=t') (val_ok hF hs hx).inv_c.inv_v (val_ok hF hs hy).inv_c.inv_v
   rw[show(if b>a then b else a)=max a b by omega] at this
   exact this
 exact h.elim
theorem sat_cons {t:Nat} {b:Bool} (h:f t= .bool b) (hs:sat f gs):sat f ((t,b)::gs):=fun p hp=>by
 rcases List.mem_cons.1 hp with rfl|hp
 ·exact h
 exact hs p hp
theorem ePick_ok (h:ePick gs s x y z k) (hF:Fr s ρ w f):Pu P f ⟨dst,.pick x y z,ty,pos,aft,gd⟩ w ρ s.bl.length gs k:=by
 unfold ePick at h
 split at h
 ·next tt=>
  split at h
  ·next b hx=>
   cases b with
   |true=>
    simp only[cond_true] at h
    unfold eMove at h
    split at h
    ·next d hy=>
     refine⟨d,h,fun hs=>?_⟩
     have e:ev f (.tmp tt)= .bool true:=(val_ok hF hs hx).inv_c.inv_v
     exact⟨_,val_ok hF (sat_cons e hs) hy,fun u _=>r_pick_t e rfl⟩
    exact h.elim
   |false=>
    simp only[cond_false] at h
    unfold eMove at h
    split at h
    ·next d hy=>
     refine⟨d,h,fun hs=>?_⟩
     have e:ev f (.tmp tt)= .bool false:=(val_ok hF hs hx).inv_c.inv_v
     exact⟨_,val_ok hF (sat_cons e hs) hy,fun u _=>r_pick_f e rfl⟩
    exact h.elim
  ·next c hnot hx=>
   split at h
   ·next p q hy hz=>
    have key:∀(pp:Prop) (hp:Decidable pp) (d:DV),c= .c (.b pp hp)→(pp→∀v,Hd ρ s.bl.length w p v→Hd ρ s.bl.length w d v)→(¬pp→∀v,Hd ρ s.bl.length w q v→Hd ρ s.bl.length w d v)→sat f gs→Cal P f ⟨dst,.pick (.tmp tt) y z,ty,pos,aft,gd⟩ w ρ s.bl.length d:=by
     intro pp hp d hc h1 h2 hs
     subst hc
     have e:ev f (.tmp tt)= .bool (decide pp):=(val_ok hF hs hx).inv_c.inv_b
     by_cases hpp:pp
     ·rw[decide_eq_true hpp] at e
      exact⟨_,h1 hpp _ (val_ok hF (sat_cons e hs) hy),fun u _=>r_pick_t e rfl⟩
     rw[decide_eq_false hpp] at e
     exact⟨_,h2 hpp _ (val_ok hF (sat_cons e hs) hz),fun u _=>r_pick_f e rfl⟩
    have bd:∀{a b:Prop} {ha:Decidable a} {hb:Decidable b} {v:Value},(a↔b)→Hd ρ s.bl.length w (.c (.b a ha)) v→Hd ρ s.bl.length w (.c (.b b hb)) v:=fun {a b ha hb v} hab hv=>by
     have:=hv.inv_c.inv_b
     subst this
     have:decide a=decide b:=decide_eq_decide.2 hab
     rw[this]
     exact .c (Rc.b _ _)
    have bl:∀{a:Bool} {b:Prop} {hb:Decidable b} {v:Value},(a=true↔b)→Hd ρ s.bl.length w (.c (.v (.bool a))) v→Hd ρ s.bl.length w (.c (.b b hb)) v:=fun {a b hb v} hab hv=>by
     have:=hv.inv_c.inv_v
     subst this
     have:a=decide b:=by rw[Bool.eq_iff_iff,hab];simp
     rw[this]
     exact .c (Rc.b _ _)
    unfold pickC at h
    split at h
    ·next pp hp qq hq zb=>
     cases zb
     ·exact⟨_,h,key pp hp _ rfl (fun h1 v hv=>bd (by simp[h1]) hv) (fun h1 v hv=>bl (by simp[h1]) hv)⟩
     exact⟨_,h,key pp hp _ rfl (fun h1 v hv=>bd (by simp[h1]) hv) (fun h1 v hv=>bl (by simp[h1]) hv)⟩
    ·next pp hp yb qq hq=>
     cases yb
     ·exact⟨_,h,key pp hp _ rfl (fun h1 v hv=>bl (by simp[h1]) hv) (fun h1 v hv=>bd (by simp[h1]) hv)⟩
     exact⟨_,h,key pp hp _ rfl (fun h1 v hv=>bl (by simp[h1]) hv) (fun h1 v hv=>bd (by simp[h1]) hv)⟩
    ·next pp hp qq hq rr hr=>
     exact⟨_,h,key pp hp _ rfl (fun h1 v hv=>bd (by simp[h1]) hv) (fun h1 v hv=>bd (by simp[h1]) hv)⟩
    ·next pp hp yb zb=>
     cases yb<;>cases zb<;>first|exact h.elim|exact⟨_,h,key pp hp _ rfl (fun h1 v hv=>bl (by simp[h1]) hv) (fun h1 v hv=>bl (by simp[h1]) hv)⟩
    exact h.elim
   exact h.elim
  exact h.elim
 exact h.elim
theorem asPs_ok {l:List Operand} {kk:List (Nat×Nat)→Prop} (h:asPs gs s l kk) (hF:Fr s ρ w f):∃r,kk r∧(sat f gs→(∀p∈r,p.1<s.bl.length∧(ρ p.1).1≠none)∧l.map (ev f)=r.map (ptr ρ)):=by
 induction l generalizing kk with
 |nil=>exact⟨[],h,fun _=>⟨fun p hp=>absurd hp List.not_mem_nil,rfl⟩⟩
 |cons x l ih=>
  unfold asPs at h
  split at h
  ·next i o hx=>
   obtain⟨r,h1,h2⟩:=ih h
   refine⟨_,h1,fun hs=>?_⟩
   obtain⟨h3,h4⟩:=h2 hs
   obtain⟨hi,b,hb,he⟩:=(val_ok hF hs hx).inv_c
   refine⟨fun p hp=>?_,by rw[List.map_cons,List.map_cons,h4,he];simp[ptr,hb]⟩
   rcases List.mem_cons.1 hp with rfl|hp
   ·exact⟨hi,by simp[hb]⟩
   exact h3 p hp
  exact h.elim
theorem eFun_ok {fn:Fn} {fi ca:List Operand} (h:eFun gs s fn fi ca k) (hF:Fr s ρ w f):Pu P f ⟨dst,.makeFunc fn fi.toArray ca.toArray,ty,pos,aft,gd⟩ w ρ s.bl.length gs k:=by
 unfold eFun at h
 split at h
 ·next q=>
  obtain⟨a,h1,ha⟩:=asPs_ok h hF
  obtain⟨b,h2,hb⟩:=asPs_ok h1 hF
  refine⟨_,h2,fun hs=>?_⟩
  obtain⟨a1,a2⟩:=ha hs
  obtain⟨b1,b2⟩:=hb hs
  refine⟨_,.c ⟨fun p hp=>?_,rfl⟩,fun u _=>by simp[execOp,Instr.makeFunc,a2,b2]⟩
  rcases List.mem_append.1 hp with hp|hp
  ·exact a1 p hp
  exact b1 p hp
 exact h.elim
end ops
end Go.Vy
namespace Go.Vy
open Go.Vg Go.RowKit
/-! ### lists whose spine is computed at once -/
def ovK:List CV→List CV→(List CV→Prop)→Prop
 |l,[],k=>k l
 |_::l,v::vs,k=>ovK l vs fun r=>k (v::r)
 |[],_::_,_=>False
def splK:Nat→List CV→List CV→(List CV→Prop)→Prop
 |0,l,vs,k=>ovK l vs k
 |o+1,c::l,vs,k=>splK o l vs fun r=>k (c::r)
 |_+1,[],_,_=>False
def splC (l:List CV) (o:Nat) (vs:List CV):List CV:=l.take o++(vs++l.drop (o+vs.length))
theorem ovK_ok:∀{l vs:List CV} {k:List CV→Prop},ovK l vs k→vs.length≤l.length∧k (vs++l.drop vs.length)
 |l,[],k,h=>by cases l<;>exact⟨Nat.zero_le _,by simpa[ovK] using h⟩
 |[],v::vs,k,h=>h.elim
 |c::l,v::vs,k,h=>by
  obtain⟨h1,h2⟩:=ovK_ok (l:=l) (vs:=vs) h
  exact⟨Nat.succ_le_succ h1,by simpa using h2⟩
theorem splK_ok:∀{o:Nat} {l vs:List CV} {k:List CV→Prop},splK o l vs k→o+vs.length≤l.length∧k (splC l o vs)
 |0,l,vs,k,h=>by
  obtain⟨h1,h2⟩:=ovK_ok (show ovK l vs k from by cases l<;>exact h)
  exact⟨by omega,by simpa[splC] using h2⟩
 |o+1,[],vs,k,h=>h.elim
 |o+1,c::l,vs,k,h=>by
  obtain⟨h1,h2⟩:=splK_ok (o:=o) (l:=l) (vs:=vs) h
  refine⟨by simp only[List.length_cons];omega,?_⟩
  have e:splC (c::l) (o+1) vs=c::splC l o vs:=by
   simp[splC,show o+1+vs.length=(o+vs.length)+1 by omega]
  rw[e]
  exact h2
theorem splC_hl {ρ:Pl} {n:Nat} {w:World} {l vs:List CV} {vl us:List Value} (o:Nat) (h:Hl ρ n w l vl) (h2:Hl ρ n w vs us):Hl ρ n w (splC l o vs) (spl vl o us):=by
 unfold splC spl
 rw[h2.len,List.append_assoc]
 exact(h.take o).append (h2.append (h.drop _))
def snocK {α:Type}:List α→α→(List α→Prop)→Prop
 |[],x,k=>k [x]
 |a::l,x,k=>snocK l x fun r=>k (a::r)
theorem snocK_ok {α:Type}:∀{l:List α} {x:α} {k:List α→Prop},snocK l x k→k (l++[x])
 |[],x,k,h=>h
 |a::l,x,k,h=>snocK_ok (l:=l) h
def setK {α:Type}:List α→Nat→α→(List α→Prop)→Prop
 |[],_,_,k=>k []
 |_::l,0,x,k=>k (x::l)
 |a::l,i+1,x,k=>setK l i x fun r=>k (a::r)
theorem setK_ok {α:Type}:∀{l:List α} {i:Nat} {x:α} {k:List α→Prop},setK l i x k→k (l.set i x)
 |[],_,_,_,h=>h
 |_::l,0,x,k,h=>h
 |a::l,i+1,x,k,h=>setK_ok (l:=l) h
def cnt {α:Type}:List α→Nat→Nat
 |[],n=>n
 |_::l,n=>cnt l (n+1)
theorem cnt_eq {α:Type}:∀(l:List α) (n:Nat),cnt l n=n+l.length
 |[],n=>rfl
 |_::l,n=>by
  show cnt l (n+1)=_
  rw[cnt_eq l (n+1),List.length_cons]
  omega
theorem cnt_len {α:Type} (l:List α):cnt l 0=l.length:=by rw[cnt_eq,Nat.zero_add]
def cellsOf:DV→List CV
 |.a l=>l
 |.c c=>[c]
 |.t _=>[]
def oneC:CV→Bool
 |.u=>false
 |.v x=>x.oneCell'
 |_=>true
def cloC:CV→Bool
 |.u=>true
 |.v _=>true
 |.h _ _ _=>true
 |.hp _ _=>true
 |.b _ _=>true
 |.r _ _ _ _ _=>true
 |_=>false
def isT:DV→Bool
 |.t _=>true
 |_=>false
section
variable {ρ:Pl} {n:Nat} {w:World}
theorem oneC_ok {c:CV} {x:Value} (h:Hc ρ n w c x) (ho:oneC c=true):x.oneCell'=true:=by
 cases c with
 |u=>cases ho
 |v y=>rw[h.inv_v];exact ho
 |h A n c=>cases (show Rc _ w (.h A n c) x from h);rfl
 |hp b o=>cases (show Rc _ w (.hp b o) x from h);rfl
 |b p hp=>rw[h.inv_b];rfl
 |p i o=>obtain⟨_,b,_,rfl⟩:=h;rfl
 |s i m=>obtain⟨_,rfl⟩:=h;rfl
 |r A m c e get=>rw[h.inv_r.1];rfl
 |q A m c e get j o=>obtain⟨_,_,b,o',_,rfl⟩:=h;rfl
 |f k fi ca=>obtain⟨_,rfl⟩:=h;rfl
theorem Hl.one {l:List CV} {vl:List Value} (h:Hl ρ n w l vl) (ho:l.all oneC=true):∀x∈vl,x.oneCell'=true:=by
 induction l generalizing vl with
 |nil=>cases vl with
  |nil=>intro x hx;cases hx
  |cons x vl=>exact h.elim
 |cons c l ih=>cases vl with
  |nil=>exact h.elim
  |cons x vl=>
   simp only[List.all_cons,Bool.and_eq_true] at ho
   intro y hy
   rcases List.mem_cons.1 hy with rfl|hy
   ·exact oneC_ok h.1 ho.1
   exact ih h.2 ho.2 y hy
theorem cells_of_one {x:Value} (h:x.oneCell'=true):x.cells=#[x]:=by
 cases x with
 |agg cs=>cases h
 |_=>rfl
theorem cells_ok {d:DV} {x:Value} (h:Hd ρ n w d x) (ho:(cellsOf d).all oneC=true) (ht:isT d=false):∃us,x.cells=us.toArray∧Hl ρ n w (cellsOf d) us∧∀y∈us,y.oneCell'=true:=by
 cases h with
 |c h=>
  simp only[cellsOf,List.all_cons,List.all_nil,Bool.and_true] at ho
  exact⟨[x],by rw[cells_of_one (oneC_ok h ho)],⟨h,trivial⟩,fun y hy=>by rw[List.mem_singleton.1 hy];exact oneC_ok h ho⟩
 |a h=>exact⟨_,rfl,h,h.one ho⟩
 |t h hh=>cases ht
end
/-! ### what they leave -/
def Hv (ex:Bool) (P:Program) (f:Nat→Value) (o:Oper) (ρ0:Pl) (w0:World) (nb:Nat) (w:World) (k:SS→DV→Prop):Prop:=
 ∃s' d ρ' v w',k s' d∧(execOp (ev f) o).run P w= .ok (.value v) w'∧Dn ρ0 w0 nb s' ρ' f w'∧Hd ρ' s'.bl.length w' d v∧(ex=true→Ext w w')
def Hs (P:Program) (f:Nat→Value) (o:Oper) (ρ0:Pl) (w0:World) (nb:Nat) (w:World) (k:SS→Prop):Prop:=
 ∃s' ρ' w',k s'∧(execOp (ev f) o).run P w= .ok .skip w'∧Dn ρ0 w0 nb s' ρ' f w'
def upd {α:Type} (f:Nat→α) (j:Nat) (x:α):Nat→α:=fun i=>if i=j then x else f i
theorem upd_eq {α:Type} {f:Nat→α} {j:Nat} {x:α}:upd f j x j=x:=if_pos rfl
theorem upd_ne {α:Type} {f:Nat→α} {j i:Nat} {x:α} (h:i≠j):upd f j x i=f i:=if_neg h
structure Wc (A:Option Nat) (w w':World):Prop where
 os:w'.os=w.os
 tape:w'.tape=w.tape
 output:w'.output=w.output
 size:w.heap.size≤w'.heap.size
 block:∀b,b<w.heap.size→A≠some b→w'.heap[b]? =w.heap[b]?
section fset
variable {ρ ρ0:Pl} {w w' w0:World} {nb:Nat} {bl:List (TypeId×Nat×List CV)}
theorem set_get {α:Type} {l:List α} {f i:Nat} {x y:α} (h:(l.set f x)[i]? =some y) (hf:f<l.length):(i=f∧y=x)∨(i≠f∧l[i]? =some y):=by
 rcases set_case h with ⟨h1,h2,_⟩|h
 ·exact .inl ⟨h1,h2⟩
 exact .inr h
theorem DnW.fset (h:DnW ρ0 w0 nb bl ρ w) {fl:List Fam} (hl:ρ.F=fl) {f j:Nat} {F F':Fam} (hf:fl[f]? =some F) (hj:j<F.N) (hn:F'.N=F.N) (hes:F'.es=F.es) (hT:F'.T=F.T) (hA:∀i,i≠j→F'.A i=F.A i) (hc:∀i,i≠j→F'.cap i=F.cap i) (hg:∀i,i≠j→F'.get i=F.get i) (hw:Wc (F.A j) w w') (hnew:∀b,F'.A j=some b→F.A j=some b∨w.heap.size≤b)
 (hq:(∀b,Zf ρ bl.length w b→Zf ⟨ρ.at',ρ.Z,fl.set f F'⟩ bl.length w' b∧w'.heap[b]? =w.heap[b]?)→Mq (Zf ⟨ρ.at',ρ.Z,fl.set f F'⟩ bl.length w') w' F' j):DnW ρ0 w0 nb bl ⟨ρ.at',ρ.Z,fl.set f F'⟩ w'∧Kp ρ bl.length w ⟨ρ.at',ρ.Z,fl.set f F'⟩ bl.length w':=by
 have hfl:f<fl.length:=get_lt hf
 have hin:∀b,InL (fl.set f F') b→InF ρ b∨w.heap.size≤b:=fun b ⟨G,hG,i,hi,hb⟩=>by
  obtain⟨g,hg'⟩:=List.getElem?_of_mem hG
  rcases set_get hg' hfl with ⟨rfl,rfl⟩|⟨hne,h2⟩
  ·by_cases hij:i=j
   ·subst hij
    rcases hnew b hb with h1|h1
    ·exact .inl ⟨F,by rw[hl];exact List.mem_of_getElem? hf,i,by omega,h1⟩
    exact .inr h1
   rw[hA i hij] at hb
   exact .inl ⟨F,by rw[hl];exact List.mem_of_getElem? hf,i,by omega,hb⟩
  exact .inl ⟨G,by rw[hl];exact List.mem_of_getElem? h2,i,hi,hb⟩
 have hjf:∀b,F.A j=some b→InF ρ b:=fun b hb=>⟨F,by rw[hl];exact List.mem_of_getElem? hf,j,hj,hb⟩
 have hz:∀b,Zf ρ bl.length w b→Zf ⟨ρ.at',ρ.Z,fl.set f F'⟩ bl.length w' b∧w'.heap[b]? =w.heap[b]?:=fun b hb=>by
  refine⟨⟨Nat.lt_of_lt_of_le hb.lt hw.size,hb.no,hb.z,fun hi=>?_⟩,hw.block b hb.lt fun he=>hb.nf (hjf b he)⟩
  rcases hin b hi with h1|h1
  ·exact hb.nf h1
  have:=hb.lt;omega
 have kp:Kp ρ bl.length w ⟨ρ.at',ρ.Z,fl.set f F'⟩ bl.length w':=⟨Nat.le_refl _,fun _ _=>rfl,hz⟩
 refine⟨⟨fun i T es l hi=>(h.ok i T es l hi).kp kp (get_lt hi) fun b hb=>hw.block b ((h.ok i T es l hi).lt hb) fun he=>h.fam.own i b (get_lt hi) hb (hjf b he),h.inj,h.fr,h.nbl,?_,h.pl,h.zz,⟨fun G hG=>?_,fun i b hi hb hf2=>?_,fun f1 f2 F1 F2 j1 j2 b h1 h2 h3 h4 h5 h6=>?_⟩,fun b hb=>?_⟩,kp⟩
 ·refine⟨hw.os.trans h.rel.os,hw.tape.trans h.rel.tape,hw.output.trans h.rel.output,Nat.le_trans h.rel.size hw.size,fun k hk hn hf2=>(hw.block k (Nat.lt_of_lt_of_le hk h.rel.size) fun he=>?_).trans (h.rel.block k hk hn hf2)⟩
  rcases h.ffr k (hjf k he) with h1|h1
  ·omega
  exact hf2 h1
 ·obtain⟨g,hg'⟩:=List.getElem?_of_mem hG
  rcases set_get hg' hfl with ⟨rfl,rfl⟩|⟨hne,h2⟩
  ·refine⟨by rw[hes];exact(h.fam.ok F (by rw[hl];exact List.mem_of_getElem? hf)).1,fun i hi=>?_⟩
   by_cases hij:i=j
   ·subst hij;exact hq hz
   have h3:=(h.fam.mem hl hf (j:=i) oM).mono hz fun b hb=>hw.block b ((h.fam.mem hl hf (j:=i) oM).lt hb) fun he=>by
    have:=(h.fam.inj _ _ F F i j b (by rw[hl];exact hf) (by rw[hl];exact hf) oM hj hb he).2
    exact hij this
   unfold Mq at h3 ⊢
   rw[hA i hij,hc i hij,hg i hij,hes,hT]
   exact h3
  have hG2:G∈ρ.F:=by rw[hl];exact List.mem_of_getElem? h2
  refine⟨(h.fam.ok G hG2).1,fun i hi=>((h.fam.ok G hG2).2 i hi).mono hz fun b hb=>hw.block b (((h.fam.ok G hG2).2 i hi).lt hb) fun he=>?_⟩
  exact hne (h.fam.inj g f G F i j b (by rw[hl];exact h2) (by rw[hl];exact hf) hi hj hb he).1
 ·rcases hin b hf2 with h1|h1
  ·exact h.fam.own i b hi hb h1
  have:=h.lt hi hb;omega
 ·have hold:∀(g:Nat) (G:Fam) (i:Nat),(fl.set f F')[g]? =some G→i<G.N→G.A i=some b→(∃G0,ρ.F[g]? =some G0∧i<G0.N∧G0.A i=some b)∨(g=f∧i=j∧w.heap.size≤b):=fun g G i hg' hi hb=>by
   rcases set_get hg' hfl with ⟨rfl,rfl⟩|⟨hne,h2'⟩
   ·by_cases hij:i=j
    ·subst hij
     rcases hnew b hb with h7|h7
     ·exact .inl ⟨F,by rw[hl];exact hf,by omega,h7⟩
     exact .inr ⟨rfl,rfl,h7⟩
    rw[hA i hij] at hb
    exact .inl ⟨F,by rw[hl];exact hf,by omega,hb⟩
   exact .inl ⟨G,by rw[hl];exact h2',hi,hb⟩
  have hlow:∀(g:Nat) (G0:Fam) (i:Nat),ρ.F[g]? =some G0→i<G0.N→G0.A i=some b→b<w.heap.size:=fun g G0 i h7 h8 h9=>h.fam.lt ⟨G0,List.mem_of_getElem? h7,i,h8,h9⟩
  rcases hold f1 F1 j1 h1 h3 h5 with ⟨G1,a1,a2,a3⟩|⟨a1,a2,a3⟩<;>rcases hold f2 F2 j2 h2 h4 h6 with ⟨G2,c1,c2,c3⟩|⟨c1,c2,c3⟩
  ·exact h.fam.inj f1 f2 G1 G2 j1 j2 b a1 c1 a2 c2 a3 c3
  ·have:=hlow f1 G1 j1 a1 a2 a3;omega
  ·have:=hlow f2 G2 j2 c1 c2 c3;omega
  exact⟨a1.trans c1.symm,a2.trans c2.symm⟩
 rcases hin b hb with h1|h1
 ·exact h.ffr b h1
 exact .inl (Nat.le_trans h.rel.size h1)
end fset
def newB (s:SS) (T es:Nat) (l:List CV) (d:Nat→DV) (k:SS→DV→Prop):Prop:=match s with
 |⟨sl,gl,bl,fl⟩=>snocK bl (T,es,l) fun bl'=>k ⟨sl,gl,bl',fl⟩ (d (cnt bl 0))
def hAlloc (T:TT) (s:SS) (t:Nat) (k:SS→DV→Prop):Prop:=match T t with
 |some ti=>newB s t 0 (ti.zero.map boolV) (fun i=> .c (.p i 0)) k
 |none=>False
def hBox (s:SS) (t:Nat) (x:Operand) (k:SS→DV→Prop):Prop:=match val [] s x with
 |some d=>bif (cellsOf d).all oneC&&!isT d then newB s t 0 (cellsOf d) (fun i=> .c (.p i 0)) k else False
 |none=>False
def hStore (T:TT) (s:SS) (t:Nat) (x y:Operand) (k:SS→Prop):Prop:=match T t,val [] s x,val [] s y with
 |some ti,some (.c (.p i o)),some d=>(match s.bl[i]? with
  |some b=>bif Nat.beq (cellsOf d).length ti.size&&((cellsOf d).all oneC&&!isT d) then
   (bif Nat.beq b.2.1 0 then splK o b.2.2 (cellsOf d) fun l'=>setK s.bl i (b.1,b.2.1,l') fun bl'=>k ⟨s.sl,s.gl,bl',s.fl⟩
   else ∃l',(splC b.2.2 o (cellsOf d)=l'∧o+(cellsOf d).length≤b.2.2.length)∧setK s.bl i (b.1,b.2.1,l') fun bl'=>k ⟨s.sl,s.gl,bl',s.fl⟩)
   else False
  |none=>False)
 |some ti,some (.c (.hp b o)),some d=>bif Nat.beq (cellsOf d).length ti.size&&((cellsOf d).all (fun c=>oneC c&&cloC c)&&!isT d) then
  ∃f j:Nat,(match s.fl[f]? with
   |some F=>∃l',(j<F.N∧F.A j=some b∧splC (F.get j) o (cellsOf d)=l'∧o+(cellsOf d).length≤(F.get j).length)∧setK s.fl f ⟨F.T,F.es,F.N,F.A,F.cap,upd F.get j l'⟩ fun fl'=>k ⟨s.sl,s.gl,s.bl,fl'⟩
   |none=>False) else False
 |_,_,_=>False
def hMake (T:TT) (s:SS) (t:Nat) (x y:Operand) (k:SS→DV→Prop):Prop:=match T t with
 |some ti=>(match ti.el with
  |some e=>(match T e,val [] s x,val [] s y with
   |some te,some (.c (.v (.int _ z))),some (.c (.v (.int _ z')))=>∃n:Nat,(z=n∧z'=n∧te.by'*n≤281474976710656∧n≤maxLen)∧
    newB s e te.size (match te.zero with
     |[z0]=>List.replicate n (boolV z0)
     |zs=>(List.replicate n (zs.map boolV)).flatten) (fun i=> .c (.s i n)) k
   |_,_,_=>False)
  |none=>False)
 |none=>False
section ops
variable {P:Program} {T:TT} (hT:Good P T) {w0 w:World} {nb:Nat} {s:SS} {ρ ρ0:Pl} {f:Nat→Value} {dst:Option Tmp} {ty:TypeId} {pos:String} {aft:Array Edge} {gd:Option (Nat×Bool)} {x y z:Operand} {t t':TypeId} {k:SS→DV→Prop} {ks:SS→Prop}
theorem sat_nil:sat f []:=fun p hp=>absurd hp List.not_mem_nil
theorem newB_ok {T0 es b:Nat} {l:List CV} {vl:List Value} {d:Nat→DV} {o:Oper} {v:Value} {w':World} {cap:Nat} (h:newB s T0 es l d k) (hD:Dn ρ0 w0 nb s ρ f w) (hr:(execOp (ev f) o).run P w= .ok (.value v) w') (hm:Mk w T0 vl b w') (hl:Hl ρ s.bl.length w l vl) (h1:∀x∈vl,x.oneCell'=true) (hc:0<es→cap*es=vl.length∧cap≤maxLen)
 (hd:∀ρ':Pl,ρ' s.bl.length=(some b,cap)→Hd ρ' (s.bl.length+1) w' (d s.bl.length) v):Hv true P f o ρ0 w0 nb w k:=by
 obtain⟨sl,gl,bl,fl⟩:=s
 have hk:=snocK_ok (show snocK bl (T0,es,l) _ from h)
 rw[cnt_len] at hk
 obtain⟨hb,hbk,he⟩:=hm
 have hp:∀b',((some b,cap):Option Nat×Nat).1=some b'→w.heap.size≤b':=fun b' hb'=>by injection hb' with hb';omega
 have kp:Kp ρ bl.length w (grow ρ bl.length (some b,cap)) (bl.length+1) w':=Kp.new hp he
 have hn:(bl++[(T0,es,l)]).length=bl.length+1:=by simp
 refine⟨⟨sl,gl,bl++[(T0,es,l)],fl⟩,d bl.length,grow ρ bl.length (some b,cap),v,w',hk,hr,⟨hD.m.new hp he (Bq.of_some (b:=b) (by rw[grow_new]) ⟨vl,[],by rw[List.append_nil];exact hbk,hl.kp kp,?_,h1⟩),?_,hD.l⟩,?_⟩
 ·rw[grow_new,List.append_nil];exact hc
 ·exact hD.f.kp rfl rfl (by rw[hn];exact kp)
 refine⟨?_,fun _=>he⟩
 show Hd _ (bl++[(T0,es,l)]).length w' _ v
 rw[hn]
 exact hd _ grow_new
include hT in
theorem hAlloc_ok (h:hAlloc T s t k) (hD:Dn ρ0 w0 nb s ρ f w):Hv true P f ⟨dst,.alloc t,ty,pos,aft,gd⟩ ρ0 w0 nb w k:=by
 unfold hAlloc at h
 split at h
 ·next ti ht=>
  obtain⟨zz,hty,hz⟩:=(hT t ti ht).ty
  obtain⟨v,w',hr,b,rfl,hm⟩:=h_alloc (P:=P) (f:=f) (w:=w) (dst:=dst) (ty:=ty) (pos:=pos) (aft:=aft) (g:=gd) hty hz
  refine newB_ok (cap:=0) h hD hr hm (Hl.vs _) ?_ (fun h=>absurd h (Nat.lt_irrefl _)) fun ρ' hρ=> .c ⟨Nat.lt_succ_self _,b,by rw[hρ],rfl⟩
  exact fun x hx=>List.all_eq_true.1 (hT t ti ht).z1 x hx
 exact h.elim
theorem hBox_ok (h:hBox s t x k) (hD:Dn ρ0 w0 nb s ρ f w):Hv true P f ⟨dst,.box t x,ty,pos,aft,gd⟩ ρ0 w0 nb w k:=by
 unfold hBox at h
 split at h
 ·next d hx=>
  cases hb:((cellsOf d).all oneC&&!isT d) with
  |false=>rw[hb] at h;exact h.elim
  |true=>
   rw[hb] at h
   simp only[Bool.and_eq_true,Bool.not_eq_true'] at hb
   obtain⟨us,h1,h2,h3⟩:=cells_ok (val_ok hD.f sat_nil hx) hb.1 hb.2
   obtain⟨v,w',hr,b,rfl,hm⟩:=h_box (P:=P) (w:=w) (dst:=dst) (ty:=ty) (pos:=pos) (aft:=aft) (g:=gd) (t:=t) rfl h1
   simp only[cond_true] at h
   exact newB_ok (cap:=0) h hD hr hm h2 h3 (fun h=>absurd h (Nat.lt_irrefl _)) fun ρ' hρ=> .c ⟨Nat.lt_succ_self _,b,by rw[hρ],rfl⟩
 exact h.elim
theorem h_storeq {T0:TypeId} {b o:Nat} {l junk:List Value} {vv:Value} {cs:List Value} {size bytes:Nat} {zz:Value} (ht:TyI P t size bytes zz) (hx:ev f x= .pointer (some ⟨b,o,none⟩)) (hy:ev f y=vv) (hc:vv.cells=cs.toArray) (hs:cs.length=size)
 (h1:∀u∈cs,u.oneCell'=true) (hb:w.heap[b]? =some (.cells (l++junk).toArray T0 (0,0))) (hfit:o+cs.length≤l.length):
 ∃w',(execOp (ev f) ⟨dst,.store t x y,ty,pos,aft,gd⟩).run P w= .ok .skip w'∧w'.heap[b]? =some (.cells (spl l o cs++junk).toArray T0 (0,0))∧Exc b w w':=by
 obtain⟨w',hr,hn,he,_⟩:=h_store (P:=P) (dst:=dst) (ty:=ty) (pos:=pos) (aft:=aft) (g:=gd) ht hx hy hc hs h1 (l:=l++junk) hb (by simp only[List.length_append];omega)
 refine⟨w',hr,?_,he⟩
 have e:spl (l++junk) o cs=spl l o cs++junk:=by
  unfold spl
  rw[List.take_append_of_le_length oM,List.drop_append_of_le_length oM]
  simp
 unfold Bk at hn
 rw[e] at hn
 exact hn
include hT in
theorem hStore_ok (h:hStore T s t x y ks) (hD:Dn ρ0 w0 nb s ρ f w):Hs P f ⟨dst,.store t x y,ty,pos,aft,gd⟩ ρ0 w0 nb w ks:=by
 unfold hStore at h
 split at h
 ·next ti i o d ht hx hy=>
  split at h
  ·next bb hbb=>
   obtain⟨T0,es,l⟩:=bb
   cases hb:(Nat.beq (cellsOf d).length ti.size&&((cellsOf d).all oneC&&!isT d)) with
   |false=>rw[hb] at h;exact h.elim
   |true=>
    rw[hb] at h
    simp only[Bool.and_eq_true,Bool.not_eq_true'] at hb
    obtain⟨b1,b2,b3⟩:=hb
    have b1':=Nat.eq_of_beq_eq_true b1
    have key:o+(cellsOf d).length≤l.length∧ks ⟨s.sl,s.gl,s.bl.set i (T0,es,splC l o (cellsOf d)),s.fl⟩:=by
     simp only[cond_true] at h
     cases hz:Nat.beq es 0 with
     |true=>
      rw[hz] at h
      obtain⟨h1,h2⟩:=splK_ok (show splK o l (cellsOf d) _ from h)
      exact⟨h1,setK_ok h2⟩
     |false=>
      rw[hz] at h
      obtain⟨l',⟨h1,h2⟩,h3⟩:=h
      subst h1
      exact⟨h2,setK_ok h3⟩
    obtain⟨hi,b,hρ,he⟩:=(val_ok hD.f sat_nil hx).inv_c
    obtain⟨us,u1,u2,u3⟩:=cells_ok (val_ok hD.f sat_nil hy) b2 b3
    have hq:=hD.m.ok i T0 es l hbb
    obtain⟨vl,junk,hh,hl,hcap,hone⟩:=hq.at hρ
    obtain⟨zz,hty,_⟩:=(hT t ti ht).ty
    have hul:us.length=(cellsOf d).length:=u2.len.symm
    have hvl:vl.length=l.length:=hl.len.symm
    obtain⟨w',hr,hn,hex⟩:=h_storeq (P:=P) (dst:=dst) (ty:=ty) (pos:=pos) (aft:=aft) (gd:=gd) hty he rfl u1 (by rw[hul];exact b1') u3 hh (by rw[hul,hvl];exact key.1)
    have kp:Kp ρ s.bl.length w ρ s.bl.length w':=Kp.exc hi hρ hex
    refine⟨_,ρ,w',key.2,hr,⟨hD.m.exc hbb hρ hex (Bq.of_some hρ ⟨spl vl o us,junk,hn,(splC_hl o hl u2).kp kp,fun h0=>?_,fun x hx=>?_⟩),hD.f.kp rfl rfl (by simp only[List.length_set];exact kp),hD.l⟩⟩
    ·obtain⟨c1,c2⟩:=hcap h0
     refine⟨c1.trans ?_,c2⟩
     have:=key.1
     simp only[List.length_append,spl,List.length_take,List.length_drop]
     omega
    simp only[spl,List.mem_append] at hx
    rcases hx with (hx|hx)|hx
    ·exact hone x (List.mem_of_mem_take hx)
    ·exact u3 x hx
    exact hone x (List.mem_of_mem_drop hx)
  exact h.elim
 ·next ti b o d ht hx hy=>
  cases hb:(Nat.beq (cellsOf d).length ti.size&&((cellsOf d).all (fun c=>oneC c&&cloC c)&&!isT d)) with
  |false=>rw[hb] at h;exact h.elim
  |true=>
   rw[hb] at h
   simp only[Bool.and_eq_true,Bool.not_eq_true'] at hb
   obtain⟨b1,b2,b3⟩:=hb
   have b1':=Nat.eq_of_beq_eq_true b1
   have b2o:(cellsOf d).all oneC=true:=List.all_eq_true.2 fun c hc=>by
    have:=List.all_eq_true.1 b2 c hc
    simp only[Bool.and_eq_true] at this
    exact this.1
   have b2c:∀c∈cellsOf d,cloC c=true:=fun c hc=>by
    have:=List.all_eq_true.1 b2 c hc
    simp only[Bool.and_eq_true] at this
    exact this.2
   obtain⟨ff,j,h⟩:=(show ∃f j:Nat,_ from h)
   split at h
   ·next F hF=>
    obtain⟨l',⟨hj,hA,hl',hfit⟩,hk⟩:=h
    subst hl'
    have hk':=setK_ok hk
    have he:=(val_ok hD.f sat_nil hx).inv_c.inv_hp
    obtain⟨us,u1,u2,u3⟩:=cells_ok (val_ok hD.f sat_nil hy) b2o b3
    have hmq:=hD.m.fam.mem hD.l hF hj
    obtain⟨vl,junk,hh,hlen,hcl,hcap,hmx,hone⟩:=hmq.at hA
    obtain⟨zz,hty,_⟩:=(hT t ti ht).ty
    have hul:us.length=(cellsOf d).length:=u2.len.symm
    obtain⟨w',hr,hn,hex⟩:=h_storeq (P:=P) (dst:=dst) (ty:=ty) (pos:=pos) (aft:=aft) (gd:=gd) hty he rfl u1 (by rw[hul];exact b1') u3 hh (by rw[hul,hlen];exact hfit)
    obtain⟨k1,k2⟩:=hD.m.fset hD.l hF hj (F':=⟨F.T,F.es,F.N,F.A,F.cap,upd F.get j (splC (F.get j) o (cellsOf d))⟩) rfl rfl rfl (fun _ _=>rfl) (fun _ _=>rfl) (fun i hi=>upd_ne hi) (w':=w') ⟨hex.os,hex.tape,hex.output,hex.size,fun b' hb' hne=>hex.block b' hb' fun e=>hne (by rw[e];exact hA)⟩ (fun b' hb'=> .inl hb') (fun hz=>by
     unfold Mq
     simp only[hA,upd_eq]
     have hl1:Hl ρ s.bl.length w (F.get j) vl:=Hl.of_get hlen fun i c x hc hx=>Hc.of_rc (hcl i c x hc hx)
     have hl2:=splC_hl o hl1 u2
     refine⟨spl vl o us,junk,hn,hl2.len.symm,fun i c x hc hx=>?_,?_,hmx,fun x hx=>?_⟩
     ·refine Rc.mono ?_ hz
      obtain⟨x',h1,h2⟩:=hl2.get hc
      rw[hx] at h1
      injection h1 with h1
      subst h1
      have hcc:cloC c=true∨∃i':Nat,(F.get j)[i']? =some c:=by
       have hm:=List.mem_of_getElem? hc
       simp only[splC,List.mem_append] at hm
       rcases hm with hm|hm|hm
       ·exact .inr (List.getElem?_of_mem (List.mem_of_mem_take hm))
       ·exact .inl (b2c c hm)
       exact .inr (List.getElem?_of_mem (List.mem_of_mem_drop hm))
      have hc2:cloC c=true:=by
       rcases hcc with h|⟨i',hi'⟩
       ·exact h
       have hlt:=get_lt hi'
       obtain⟨x2,hx2⟩:∃x2,vl[i']? =some x2:=⟨_,List.getElem?_eq_getElem (by rw[hlen];exact hlt)⟩
       have:=hcl i' c x2 hi' hx2
       cases this<;>rfl
      cases c with
      |u=>exact h2
      |v y=>exact h2
      |h A n c=>exact h2
      |hp b o=>exact h2
      |b p q=>exact h2
      |r A m c e get=>exact h2
      |p i o=>cases hc2
      |s i m=>cases hc2
      |q A m c e get j o=>cases hc2
      |f k fi ca=>cases hc2
     ·refine hcap.trans ?_
      simp only[List.length_append,spl,List.length_take,List.length_drop]
      omega
     simp only[spl,List.mem_append] at hx
     rcases hx with (hx|hx)|hx
     ·exact hone x (List.mem_of_mem_take hx)
     ·exact u3 x hx
     exact hone x (List.mem_of_mem_drop hx))
    exact⟨_,_,w',hk',hr,⟨k1,hD.f.kp rfl rfl k2,rfl⟩⟩
   exact h.elim
 exact h.elim
theorem Hl.rep {ρ:Pl} {n:Nat} {w:World} {l:List CV} {vl:List Value} (h:Hl ρ n w l vl) (m:Nat):Hl ρ n w (List.replicate m l).flatten (List.replicate m vl).flatten:=by
 induction m with
 |zero=>trivial
 |succ m ih=>rw[List.replicate_succ,List.replicate_succ,List.flatten_cons,List.flatten_cons];exact h.append ih
theorem flat_len {α:Type} (m:Nat) (l:List α):(List.replicate m l).flatten.length=m*l.length:=by
 induction m with
 |zero=>simp
 |succ m ih=>rw[List.replicate_succ,List.flatten_cons,List.length_append,ih,Nat.add_mul,Nat.one_mul,Nat.add_comm]
theorem flat_one {α:Type} (m:Nat) (a:α):(List.replicate m [a]).flatten=List.replicate m a:=by
 induction m with
 |zero=>rfl
 |succ m ih=>rw[List.replicate_succ,List.flatten_cons,ih];rfl
include hT in
theorem hMake_ok (h:hMake T s t x y k) (hD:Dn ρ0 w0 nb s ρ f w):Hv true P f ⟨dst,.makeSlice t x y,ty,pos,aft,gd⟩ ρ0 w0 nb w k:=by
 unfold hMake at h
 split at h
 ·next ti ht=>
  split at h
  ·next e he=>
   split at h
   ·next te kx zx ky zy hte hx hy=>
    obtain⟨n,⟨h1,h2,h3,h4⟩,h⟩:=h
    subst h1 h2
    have G:=hT e te hte
    obtain⟨zz,hty,hz⟩:=G.ty
    have hzl:zz.cells.size=te.size:=by rw[hz];simpa using G.zs
    obtain⟨v,w',hr,b,rfl,hm⟩:=h_make (P:=P) (f:=f) (w:=w) (dst:=dst) (ty:=ty) (pos:=pos) (aft:=aft) (g:=gd) (n:=n) (c:=n) ((hT t ti ht).el e he) hty hzl (val_ok hD.f sat_nil hx).inv_c.inv_v (val_ok hD.f sat_nil hy).inv_c.inv_v (Nat.le_refl _) h3 (by simp only[maxLen] at h4;omega)
    rw[hz] at hm
    have hl:(List.replicate n (te.zero.map boolV)).flatten=(match te.zero with|[z0]=>List.replicate n (boolV z0)|zs=>(List.replicate n (zs.map boolV)).flatten):=by
     split
     ·next z0 hz0=>rw[hz0];exact flat_one n _
     rfl
    rw[←hl] at h
    refine newB_ok (cap:=n) (vl:=(List.replicate n te.zero).flatten) h hD hr hm ((Hl.vs te.zero).rep n) (fun x hx=>?_) (fun _=>⟨?_,h4⟩) fun ρ' hρ=> .c ⟨Nat.lt_succ_self _,by rw[hρ];rfl⟩
    ·obtain⟨l,hl1,hl2⟩:=List.mem_flatten.1 hx
     rw[(List.mem_replicate.1 hl1).2] at hl2
     exact List.all_eq_true.1 G.z1 x hl2
    rw[flat_len,G.zs]
   exact h.elim
  exact h.elim
 exact h.elim
end ops
end Go.Vy
namespace Go.Vy
open Go.Vg Go.RowKit
/-! ### literals -/
def fillK (place:Nat→Option (Nat×Nat)):List CV→List (Nat×DV)→(List CV→Prop)→Prop
 |cells,[],k=>k cells
 |cells,(i,d)::rest,k=>match place i with
  |some os=>bif Nat.beq (cellsOf d).length os.2&&((cellsOf d).all oneC&&!isT d) then splK os.1 cells (cellsOf d) fun cs=>fillK place cs rest k else False
  |none=>False
def valK (gs:Gs) (s:SS):List (Nat×Operand)→(List (Nat×DV)→Prop)→Prop
 |[],k=>k []
 |(i,x)::l,k=>match val gs s x with
  |some (.c (.v (.bool b)))=>valK gs s l fun r=>k ((i,.c (.b (b=true) inferInstance))::r)
  |some d=>valK gs s l fun r=>k ((i,d)::r)
  |none=>False
def plK:List FI→List (Nat×Nat)
 |[]=>[]
 |fi::l=>(fi.off,fi.size)::plK l
def eBuild (T:TT) (gs:Gs) (s:SS) (t:Nat) (al:List (Nat×Operand)) (k:DV→Prop):Prop:=match T t with
 |some ti=>(match ti.ar with
  |some (_,_,es)=>valK gs s al fun dl=>fillK (fun i=>some (i*es,es)) (ti.zero.map boolV) dl fun cs=>k (.a cs)
  |none=>bif ti.fs.isEmpty then False else valK gs s al fun dl=>fillK ((plK ti.fs)[·]?) (ti.zero.map boolV) dl fun cs=>k (.a cs))
 |none=>False
def hLit (T:TT) (s:SS) (t n:Nat) (al:List (Nat×Operand)) (k:SS→DV→Prop):Prop:=match T t with
 |some ti=>(match ti.el with
  |some e=>(match T e with
   |some te=>bif Nat.ble (n*te.size) 16777216&&Nat.ble 1 te.size then valK [] s al fun dl=>fillK (fun i=>some (i*te.size,te.size)) (List.replicate n (te.zero.map boolV)).flatten dl fun cs=>newB s e te.size cs (fun i=> .c (.s i n)) k else False
   |none=>False)
  |none=>False)
 |none=>False
theorem fold_set (vs:List Value):∀(off k:Nat) (cells:List Value),off+k+vs.length≤cells.length→
 (vs.zipIdx k).foldl (fun(cs:Array Value) (x:Value×Nat)=>match x with|(c,j)=>cs.setIfInBounds (off+j) c) cells.toArray=(cells.take (off+k)++(vs++cells.drop (off+k+vs.length))).toArray:=by
 induction vs with
 |nil=>intro off k cells _;simp
 |cons v vs ih=>
  intro off k cells h
  simp only[List.length_cons] at h
  rw[List.zipIdx_cons,List.foldl_cons]
  simp only[List.setIfInBounds_toArray]
  rw[ih off (k+1) (cells.set (off+k) v) (by simp only[List.length_set];omega)]
  congr 1
  have h1:(cells.set (off+k) v).take (off+(k+1))=cells.take (off+k)++[v]:=by
   rw[show off+(k+1)=(off+k)+1 by omega,List.take_add_one,List.getElem?_set_self oM,List.take_set,List.set_eq_of_length_le (by simp only[List.length_take];omega)]
   rfl
  have h2:(cells.set (off+k) v).drop (off+(k+1)+vs.length)=cells.drop (off+k+(vs.length+1)):=by
   rw[List.drop_set_of_lt oM]
   congr 1
   omega
  rw[h1,h2]
  simp
def Hp (ρ:Pl) (n:Nat) (w:World):List (Nat×DV)→List (Nat×Value)→Prop
 |[],[]=>True
 |p::l,q::m=>(p.1=q.1∧Hd ρ n w p.2 q.2)∧Hp ρ n w l m
 |_,_=>False
theorem fillK_ok {place:Nat→Option (Nat×Nat)}:∀{al:List (Nat×DV)} {cells:List CV} {k:List CV→Prop},fillK place cells al k→
 ∃cs,k cs∧cs.length=cells.length∧∀(ρ:Pl) (n:Nat) (w:World) (vc:List Value) (vl:List (Nat×Value)),Hl ρ n w cells vc→Hp ρ n w al vl→(∀x∈vc,x.oneCell'=true)→∃vs,Instr.fill place vc.toArray vl=some vs.toArray∧Hl ρ n w cs vs∧∀x∈vs,x.oneCell'=true
 |[],cells,k,h=>⟨cells,h,rfl,fun ρ n w vc vl hc hp h1=>by
    cases vl with
    |nil=>exact⟨vc,rfl,hc,h1⟩
    |cons q m=>exact hp.elim⟩
 |(i,d)::rest,cells,k,h=>by
  unfold fillK at h
  split at h
  ·next os hos=>
   obtain⟨off,size⟩:=os
   cases hb:(Nat.beq (cellsOf d).length size&&((cellsOf d).all oneC&&!isT d)) with
   |false=>simp only[hb,cond_false] at h
   |true=>
    simp only[hb,cond_true] at h
    simp only[Bool.and_eq_true,Bool.not_eq_true'] at hb
    obtain⟨b1,b2,b3⟩:=hb
    have b1':=Nat.eq_of_beq_eq_true b1
    obtain⟨h1,h2⟩:=splK_ok h
    obtain⟨cs,h3,h4,h5⟩:=fillK_ok h2
    refine⟨cs,h3,h4.trans ?_,fun ρ n w vc vl hc hp hone=>?_⟩
    ·simp only[splC,List.length_append,List.length_take,List.length_drop];omega
    cases vl with
    |nil=>exact hp.elim
    |cons q m=>
     obtain⟨⟨e1,hd⟩,hp⟩:=hp
     obtain⟨i',x⟩:=q
     simp only at e1 hd
     subst e1
     obtain⟨us,u1,u2,u3⟩:=cells_ok hd b2 b3
     have hul:us.length=size:=u2.len.symm.trans b1'
     have hvl:vc.length=cells.length:=hc.len.symm
     have hsp:=splC_hl off hc u2
     obtain⟨vs,hv1,hv2,hv3⟩:=h5 ρ n w (spl vc off us) m hsp hp (fun x hx=>by
      simp only[spl,List.mem_append] at hx
      rcases hx with (hx|hx)|hx
      ·exact hone x (List.mem_of_mem_take hx)
      ·exact u3 x hx
      exact hone x (List.mem_of_mem_drop hx))
     refine⟨vs,?_,hv2,hv3⟩
     have hz:(us.toArray.zipIdx).foldl (fun(cs:Array Value) (x:Value×Nat)=>match x with|(c,j)=>cs.setIfInBounds (off+j) c) vc.toArray=(vc.take off++(us++vc.drop (off+us.length))).toArray:=by
      rw[←Array.foldl_toList,Array.toList_zipIdx]
      exact fold_set us off 0 vc oM
     simp only[Instr.fill,hos,u1]
     rw[if_neg (by simp only[List.size_toArray,bne_iff_ne,ne_eq,Bool.or_eq_true,decide_eq_true_eq,not_or,Decidable.not_not];exact⟨hul,by omega⟩)]
     rw[←hv1,hz]
     simp[spl]
  exact h.elim
theorem valK_ok {s:SS} {ρ:Pl} {w:World} {f:Nat→Value} {gs:Gs} (hF:Fr s ρ w f):∀{al:List (Nat×Operand)} {k:List (Nat×DV)→Prop},valK gs s al k→∃dl,k dl∧(sat f gs→Hp ρ s.bl.length w dl (al.map fun p=>(p.1,ev f p.2)))
 |[],k,h=>⟨[],h,fun _=>trivial⟩
 |(i,x)::al,k,h=>by
  unfold valK at h
  split at h
  ·next b hd=>
   obtain⟨dl,h1,h2⟩:=valK_ok hF h
   exact⟨_,h1,fun hs=>⟨⟨rfl,by
    show Hd ρ s.bl.length w _ (ev f x)
    rw[(val_ok hF hs hd).inv_c.inv_v];exact .c (boolV_ok (.bool b))⟩,h2 hs⟩⟩
  ·next d hd=>
   obtain⟨dl,h1,h2⟩:=valK_ok hF h
   exact⟨_,h1,fun hs=>⟨⟨rfl,val_ok hF hs hd⟩,h2 hs⟩⟩
  exact h.elim
section ops
variable {P:Program} {T:TT} (hT:Good P T) {w0 w:World} {nb:Nat} {s:SS} {ρ ρ0:Pl} {f:Nat→Value} {gs:Gs} {dst:Option Tmp} {ty:TypeId} {pos:String} {aft:Array Edge} {gd:Option (Nat×Bool)} {x y z:Operand} {t t':TypeId} {k:SS→DV→Prop} {ke:DV→Prop}
theorem run_places {F:Array Field} {l:List FI} (hl:l.length=F.size) (h:∀(i:Nat) (fi:FI),l[i]? =some fi→∃fl,F[i]? =some fl∧fl.offset=fi.off∧fl.type=fi.ty∧∃by' z,TyI P fi.ty fi.size by' z) (u:World):
 (F.mapM fun(fl:Field)=>(do pure (fl.offset,←sizeOf fl.type):Sem (Nat×Nat))).run P u= .ok (plK l).toArray u:=by
 obtain⟨F⟩:=F
 simp only[List.size_toArray] at hl
 rw[List.mapM_toArray]
 have key:∀(F:List Field) (l:List FI),l.length=F.length→(∀(i:Nat) (fi:FI),l[i]? =some fi→∃fl,F[i]? =some fl∧fl.offset=fi.off∧fl.type=fi.ty∧∃by' z,TyI P fi.ty fi.size by' z)→
  (F.mapM fun(fl:Field)=>(do pure (fl.offset,←sizeOf fl.type):Sem (Nat×Nat))).run P u= .ok (plK l) u:=by
  intro F
  induction F with
  |nil=>intro l hl _;cases l with
   |nil=>simp[plK]
   |cons a l=>cases hl
  |cons fl F ih=>intro l hl h;cases l with
   |nil=>cases hl
   |cons fi l=>
    obtain⟨fl',h1,h2,h3,by',z,h4⟩:=h 0 fi rfl
    injection h1 with h1
    subst h1
    obtain⟨ii,hi,_,hs,_⟩:=h4.ex
    have:=ih l (by simpa using hl) fun i fi hi=>by simpa using h (i+1) fi hi
    rw[List.mapM_cons]
    have e1:(do pure (fl.offset,←sizeOf fl.type):Sem (Nat×Nat)).run P u= .ok (fi.off,fi.size) u:=by simp[sizeOf,typeInfo,h3,hi,hs,h2]
    rw[Sem.run_bind,e1,Result.andThen_ok,Sem.run_bind,this,Result.andThen_ok]
    rfl
 have:=key F l hl (fun i fi hi=>by simpa using h i fi hi)
 simp only[Sem.run_map,this]
 rfl
include hT in
theorem eBuild_ok {al:List (Nat×Operand)} (h:eBuild T gs s t al ke) (hF:Fr s ρ w f):Pu P f ⟨dst,.build t al.toArray,ty,pos,aft,gd⟩ w ρ s.bl.length gs ke:=by
 unfold eBuild at h
 split at h
 ·next ti ht=>
  have G:=hT t ti ht
  split at h
  ·next n e es har=>
   obtain⟨hu,by',z0,hte⟩:=G.ar n e es har
   obtain⟨dl,h1,h2⟩:=valK_ok hF h
   obtain⟨cs,h3,_,h5⟩:=fillK_ok h1
   refine⟨_,h3,fun hs=>?_⟩
   obtain⟨zz,hty,hz⟩:=G.ty
   obtain⟨vs,hv1,hv2,_⟩:=h5 ρ s.bl.length w ti.zero _ (Hl.vs _) (h2 hs) (fun x hx=>List.all_eq_true.1 G.z1 x hx)
   refine⟨_,.a hv2,fun u _=>?_⟩
   obtain⟨i0,hi0,hzi,hs0,_⟩:=hty.ex
   obtain⟨i1,hi1,_,hs1,_⟩:=hte.ex
   have hzv:(zeroValue t).run P u= .ok zz u:=by simp[zeroValue,typeInfo,hi0,hzi]
   rw[hz.symm] at hv1
   simp only[execOp,Instr.build,Sem.run_bind,hzv,Result.andThen_ok,run_underlying hu,sizeOf,typeInfo,hi1,List.map_toArray]
   simp[hi1,hs1,hv1]
  cases hfe:ti.fs.isEmpty with
  |true=>rw[hfe] at h;exact h.elim
  |false=>
   rw[hfe] at h
   simp only[cond_false] at h
   rcases G.fs with h0|⟨F,hFF,hsz,hh⟩
   ·rw[h0] at hfe;cases hfe
   obtain⟨dl,h1,h2⟩:=valK_ok hF h
   obtain⟨cs,h3,_,h5⟩:=fillK_ok h1
   refine⟨_,h3,fun hs=>?_⟩
   obtain⟨zz,hty,hz⟩:=G.ty
   obtain⟨vs,hv1,hv2,_⟩:=h5 ρ s.bl.length w ti.zero _ (Hl.vs _) (h2 hs) (fun x hx=>List.all_eq_true.1 G.z1 x hx)
   refine⟨_,.a hv2,fun u _=>?_⟩
   refine r_build hFF hty rfl (fun u=>run_places hsz (fun i fi hi=>?_) u) ?_
   ·obtain⟨fl,a1,a2,a3,_,_,a4⟩:=hh i fi hi
    exact⟨fl,a1,a2,a3,a4⟩
   rw[hz,←hv1]
   congr 1
   funext i
   simp
 exact h.elim
include hT in
theorem hLit_ok {n:Nat} {al:List (Nat×Operand)} (h:hLit T s t n al k) (hD:Dn ρ0 w0 nb s ρ f w):Hv true P f ⟨dst,.buildSlice t n al.toArray,ty,pos,aft,gd⟩ ρ0 w0 nb w k:=by
 unfold hLit at h
 split at h
 ·next ti ht=>
  split at h
  ·next e he=>
   split at h
   ·next te hte=>
    cases hb:(Nat.ble (n*te.size) 16777216&&Nat.ble 1 te.size) with
    |false=>rw[hb] at h;exact h.elim
    |true=>
     simp only[hb,cond_true] at h
     simp only[Bool.and_eq_true] at hb
     have b1:=Nat.le_of_ble_eq_true hb.1
     have b2:=Nat.le_of_ble_eq_true hb.2
     have G:=hT e te hte
     obtain⟨zz,hty,hz⟩:=G.ty
     obtain⟨dl,h1,h2⟩:=valK_ok hD.f h
     obtain⟨cs,h3,h4,h5⟩:=fillK_ok h1
     obtain⟨vs,hv1,hv2,hv3⟩:=h5 ρ s.bl.length w (List.replicate n te.zero).flatten _ ((Hl.vs te.zero).rep n) (h2 sat_nil) (fun x hx=>by
      obtain⟨l,hl1,hl2⟩:=List.mem_flatten.1 hx
      rw[(List.mem_replicate.1 hl1).2] at hl2
      exact List.all_eq_true.1 G.z1 x hl2)
     have hzs:zz.cells.size=te.size:=by rw[hz];simpa using G.zs
     have hlen:vs.length=n*te.size:=by
      rw[←hv2.len,h4,flat_len,List.length_map,G.zs]
     have hmk:((Array.range (n*te.size)).map ((if n*te.size=0 then #[] else zz.cells)[·%(if n*te.size=0 then #[] else zz.cells).size]!))=(List.replicate n te.zero).flatten.toArray:=by
      have hm:=made_flat zz.cells n
      rw[hzs,hz] at hm
      by_cases h0:n*te.size=0
      ·have hn:n=0:=by
        rcases Nat.eq_zero_or_pos n with h|h
        ·exact h
        have:=Nat.mul_pos h b2;omega
       subst hn
       simp
      simp only[h0,if_false]
      rw[←hm,hz,Array.toArray_toList]
      rfl
     obtain⟨v,w',hr,b,rfl,hm⟩:=h_lit (P:=P) (f:=f) (w:=w) (dst:=dst) (ty:=ty) (pos:=pos) (aft:=aft) (g:=gd) (len:=n) ((hT t ti ht).el e he) hty rfl b1 (by rw[hmk];exact hv1)
     refine newB_ok (cap:=n) h3 hD hr hm hv2 hv3 (fun _=>⟨hlen.symm,?_⟩) fun ρ' hρ=> .c ⟨Nat.lt_succ_self _,by rw[hρ];rfl⟩
     have:n*1≤n*te.size:=Nat.mul_le_mul_left n b2
     simp only[maxLen]
     omega
   exact h.elim
  exact h.elim
 exact h.elim
end ops
end Go.Vy
namespace Go.Vy
open Go.Vg Go.RowKit
/-! ### what names block i is no longer known -/
def menC (i:Nat):CV→Bool
 |.p j _=>Nat.beq j i
 |.s j _=>Nat.beq j i
 |.f _ fi ca=>(fi++ca).any fun p=>Nat.beq p.1 i
 |_=>false
def menE (i:Nat):DV→Bool
 |.c c=>menC i c
 |.a l=>l.any (menC i)
 |.t _=>true
def menD (i:Nat):DV→Bool
 |.c c=>menC i c
 |.a l=>l.any (menC i)
 |.t l=>l.any (menE i)
def killC (i:Nat) (c:CV):CV:=bif menC i c then .u else c
def mapK (i:Nat):List CV→(List CV→Prop)→Prop
 |[],k=>k []
 |c::l,k=>mapK i l fun r=>k (killC i c::r)
def kslK (i:Nat):List (Nat×DV)→(List (Nat×DV)→Prop)→Prop
 |[],k=>k []
 |(t,d)::l,k=>bif menD i d then kslK i l fun r=>k ((t,.c .u)::r) else kslK i l fun r=>k ((t,d)::r)
def kblK (i:Nat):Nat→List (TypeId×Nat×List CV)→(List (TypeId×Nat×List CV)→Prop)→Prop
 |_,[],k=>k []
 |j,(T,es,l)::r,k=>bif Nat.beq j i then kblK i (j+1) r fun r'=>k ((T,es,l)::r') else
  bif Nat.beq es 0 then mapK i l fun l'=>kblK i (j+1) r fun r'=>k ((T,es,l')::r')
  else (∀c∈l,menC i c=false)∧kblK i (j+1) r fun r'=>k ((T,es,l)::r')
def killS (i:Nat) (s:SS) (k:SS→Prop):Prop:=match s with
 |⟨sl,gl,bl,fl⟩=>bif gl.isEmpty then kslK i sl fun sl'=>kblK i 0 bl fun bl'=>k ⟨sl',[],bl',fl⟩ else False
structure Kx (i:Nat) (ρ:Pl) (n:Nat) (w:World) (ρ':Pl) (w':World):Prop where
 pl:∀j,j<n→j≠i→ρ' j=ρ j
 z:∀b,Zf ρ n w b→Zf ρ' n w' b∧w'.heap[b]? =w.heap[b]?
 ob:∀j b,j<n→j≠i→(ρ j).1=some b→w'.heap[b]? =w.heap[b]?
section kx
variable {i n:Nat} {ρ ρ' ρ0:Pl} {w w' w0:World} {nb:Nat} {f:Nat→Value} {s:SS}
theorem ne_of_beq {a b:Nat} (h:Nat.beq a b=false):a≠b:=fun e=>by subst e;rw[Nat.beq_refl] at h;cases h
theorem Hc.kx {c:CV} {x:Value} (h:Hc ρ n w c x) (k:Kx i ρ n w ρ' w') (hm:menC i c=false):Hc ρ' n w' c x:=by
 cases c with
 |p j o=>obtain⟨h1,b,h2,h3⟩:=h;exact⟨h1,b,by rw[k.pl j h1 (ne_of_beq hm)];exact h2,h3⟩
 |s j m=>obtain⟨h1,h2⟩:=h;exact⟨h1,by rw[k.pl j h1 (ne_of_beq hm)];exact h2⟩
 |q A m c esz get j o=>obtain⟨h1,h2⟩:=h;exact⟨h1.mono k.z,h2⟩
 |f q fi ca=>
  obtain⟨h1,h2⟩:=h
  have hne:∀p∈fi++ca,p.1≠i:=fun p hp he=>by
   have:=List.any_eq_false.1 hm p hp
   rw[he,Nat.beq_refl] at this
   exact this rfl
  refine⟨fun p hp=>⟨(h1 p hp).1,by rw[k.pl p.1 (h1 p hp).1 (hne p hp)];exact(h1 p hp).2⟩,h2.trans ?_⟩
  have e:∀p∈fi++ca,ptr ρ p=ptr ρ' p:=fun p hp=>by
   unfold ptr
   rw[k.pl p.1 (h1 p hp).1 (hne p hp)]
  rw[List.map_congr_left fun p hp=>e p (List.mem_append_left _ hp),List.map_congr_left fun p hp=>e p (List.mem_append_right _ hp)]
 |u=>exact Rc.mono h k.z
 |v x=>exact Rc.mono h k.z
 |h A n c=>exact Rc.mono h k.z
 |hp b o=>exact Rc.mono h k.z
 |b p q=>exact Rc.mono h k.z
 |r A m c esz get=>exact Rc.mono h k.z
theorem Hc.kill {c:CV} {x:Value} (h:Hc ρ n w c x) (k:Kx i ρ n w ρ' w'):Hc ρ' n w' (killC i c) x:=by
 unfold killC
 cases hm:menC i c with
 |true=>exact Rc.u x
 |false=>exact h.kx k hm
theorem Hl.kx {l:List CV} {vl:List Value} (h:Hl ρ n w l vl) (k:Kx i ρ n w ρ' w') (hm:∀c∈l,menC i c=false):Hl ρ' n w' l vl:=by
 induction l generalizing vl with
 |nil=>cases vl with
  |nil=>trivial
  |cons x vl=>exact h
 |cons c l ih=>cases vl with
  |nil=>exact h
  |cons x vl=>exact⟨h.1.kx k (hm c (.head _)),ih h.2 fun c hc=>hm c (.tail _ hc)⟩
theorem Hl.kill {l:List CV} {vl:List Value} (h:Hl ρ n w l vl) (k:Kx i ρ n w ρ' w'):Hl ρ' n w' (l.map (killC i)) vl:=by
 induction l generalizing vl with
 |nil=>cases vl with
  |nil=>trivial
  |cons x vl=>exact h
 |cons c l ih=>cases vl with
  |nil=>exact h
  |cons x vl=>exact⟨h.1.kill k,ih h.2⟩
theorem Hd.kx {d:DV} {x:Value} (h:Hd ρ n w d x) (k:Kx i ρ n w ρ' w') (hm:menD i d=false):Hd ρ' n w' d x:=by
 cases h with
 |c h=>exact .c (h.kx k hm)
 |a h=>exact .a (h.kx k fun c hc=>by have:=List.any_eq_false.1 (show List.any _ _=false from hm) c hc;simpa using this)
 |t h hh=>
  refine .t h fun j d u h1 h2=>?_
  have h3:menE i d=false:=by
   have:=List.any_eq_false.1 (show List.any _ _=false from hm) d (List.mem_of_getElem? h1)
   simpa using this
  cases hh j d u h1 h2 with
  |c h=>exact .c (h.kx k h3)
  |a h=>exact .a (h.kx k fun c hc=>by have:=List.any_eq_false.1 (show List.any _ _=false from h3) c hc;simpa using this)
  |t _ _=>cases h3
theorem mapK_ok:∀{l:List CV} {k:List CV→Prop},mapK i l k→k (l.map (killC i))
 |[],k,h=>h
 |c::l,k,h=>mapK_ok (l:=l) h
theorem kslK_ok (kx:Kx i ρ n w ρ' w'):∀{sl:List (Nat×DV)} {k:List (Nat×DV)→Prop},kslK i sl k→∃sl',k sl'∧∀t d',getS sl' t=some d'→∃d,getS sl t=some d∧∀x,Hd ρ n w d x→Hd ρ' n w' d' x
 |[],k,h=>⟨[],h,fun t d' h=>by cases h⟩
 |(t0,d0)::l,k,h=>by
  unfold kslK at h
  cases hm:menD i d0 with
  |true=>
   rw[hm] at h
   obtain⟨sl',h1,h2⟩:=kslK_ok kx (show kslK i l _ from h)
   refine⟨_,h1,fun t d' ht=>?_⟩
   unfold getS at ht ⊢
   cases hb:Nat.beq t0 t with
   |true=>simp only[hb,cond_true] at ht ⊢;injection ht with ht;subst ht;exact⟨d0,rfl,fun x _=> .c (Rc.u x)⟩
   |false=>simp only[hb,cond_false] at ht ⊢;exact h2 t d' ht
  |false=>
   rw[hm] at h
   obtain⟨sl',h1,h2⟩:=kslK_ok kx (show kslK i l _ from h)
   refine⟨_,h1,fun t d' ht=>?_⟩
   unfold getS at ht ⊢
   cases hb:Nat.beq t0 t with
   |true=>simp only[hb,cond_true] at ht ⊢;injection ht with ht;subst ht;exact⟨d0,rfl,fun x hx=>hx.kx kx hm⟩
   |false=>simp only[hb,cond_false] at ht ⊢;exact h2 t d' ht
theorem kblK_ok (kx:Kx i ρ n w ρ' w'):∀{bl:List (TypeId×Nat×List CV)} {j:Nat} {k:List (TypeId×Nat×List CV)→Prop},kblK i j bl k→∃bl',k bl'∧bl'.length=bl.length∧∀(m:Nat) (T:TypeId) (es:Nat) (l':List CV),bl'[m]? =some (T,es,l')→∃l,bl[m]? =some (T,es,l)∧(j+m=i→l'=l)∧(j+m≠i→∀vl,Hl ρ n w l vl→Hl ρ' n w' l' vl)∧l'.length=l.length
 |[],j,k,h=>⟨[],h,rfl,fun m T es l' h=>by cases h⟩
 |(T0,es0,l0)::r,j,k,h=>by
  have step:∀l0' r',(∀(m:Nat) (T:TypeId) (es:Nat) (l':List CV),r'[m]? =some (T,es,l')→∃l,r[m]? =some (T,es,l)∧(j+1+m=i→l'=l)∧(j+1+m≠i→∀vl,Hl ρ n w l vl→Hl ρ' n w' l' vl)∧l'.length=l.length)→
   (j=i→l0'=l0)→(j≠i→∀vl,Hl ρ n w l0 vl→Hl ρ' n w' l0' vl)→l0'.length=l0.length→
   ∀(m:Nat) (T:TypeId) (es:Nat) (l':List CV),((T0,es0,l0')::r')[m]? =some (T,es,l')→∃l,((T0,es0,l0)::r)[m]? =some (T,es,l)∧(j+m=i→l'=l)∧(j+m≠i→∀vl,Hl ρ n w l vl→Hl ρ' n w' l' vl)∧l'.length=l.length:=by
   intro l0' r' hr h1 h2 h3 m T es l' hm
   cases m with
   |zero=>
    injection hm with hm
    injection hm with e1 e2
    injection e2 with e2 e3
    subst e1 e2 e3
    exact⟨l0,rfl,by simpa using h1,by simpa using h2,h3⟩
   |succ m=>
    obtain⟨l,a1,a2,a3,a4⟩:=hr m T es l' hm
    exact⟨l,a1,fun he=>a2 oM,fun he=>a3 oM,a4⟩
  unfold kblK at h
  cases hb:Nat.beq j i with
  |true=>
   have e:=Nat.eq_of_beq_eq_true hb
   rw[hb] at h
   obtain⟨r',h1,h2,h3⟩:=kblK_ok kx (show kblK i (j+1) r _ from h)
   exact⟨_,h1,by simp[h2],step l0 r' h3 (fun _=>rfl) (fun hne=>absurd e hne) rfl⟩
  |false=>
   have hne:=ne_of_beq hb
   rw[hb] at h
   simp only[cond_false] at h
   cases hz:Nat.beq es0 0 with
   |true=>
    rw[hz] at h
    obtain⟨r',h1,h2,h3⟩:=kblK_ok kx (mapK_ok (show mapK i l0 _ from h))
    exact⟨_,h1,by simp[h2],step _ r' h3 (fun he=>absurd he hne) (fun _ vl hl=>hl.kill kx) (by simp)⟩
   |false=>
    rw[hz] at h
    obtain⟨h0,h⟩:=h
    obtain⟨r',h1,h2,h3⟩:=kblK_ok kx h
    exact⟨_,h1,by simp[h2],step l0 r' h3 (fun _=>rfl) (fun _ vl hl=>hl.kx kx h0) rfl⟩
theorem FamOk.kx (h:FamOk ρ n w) (k:Kx i ρ n w ρ' w') (hF:ρ'.F=ρ.F) (hfb:∀b,InF ρ b→w'.heap[b]? =w.heap[b]?) (hfi:∀b,(ρ' i).1=some b→¬InF ρ b):FamOk ρ' n w':=
 h.mono hF k.z hfb fun j b hj hb=>by
  by_cases hji:j=i
  ·subst hji;exact hfi b hb
  rw[k.pl j hj hji] at hb;exact h.own j b hj hb
theorem killS_ok {k:SS→Prop} (h:killS i s k) (hD:Dn ρ0 w0 nb s ρ f w) (kx:Kx i ρ s.bl.length w ρ' w') (hnb:nb≤i) (hi:i<s.bl.length) (hfr:∀b,(ρ' i).1=some b→w0.heap.size≤b) (hinj:∀j b,j<s.bl.length→j≠i→(ρ j).1=some b→(ρ' i).1≠some b) (hrl:Rl w0 nb ρ0 ρ w→Rl w0 nb ρ0 ρ w') (hZ:ρ'.Z=ρ.Z) {fl':List Fam} (hF:ρ'.F=fl') (hfam:FamOk ρ' s.bl.length w') (hffr:∀b,InF ρ' b→w0.heap.size≤b∨InF ρ0 b):
 ∃sl' bl',k ⟨sl',[],bl',s.fl⟩∧bl'.length=s.bl.length∧(∃T es l,s.bl[i]? =some (T,es,l)∧bl'[i]? =some (T,es,l))∧∀T es l,Bq ρ' s.bl.length w' i T es l→Dn ρ0 w0 nb ⟨sl',[],bl'.set i (T,es,l),fl'⟩ ρ' f w':=by
 obtain⟨sl,gl,bl,fl⟩:=s
 unfold killS at h
 simp only at h
 cases hg:gl.isEmpty with
 |false=>rw[hg] at h;exact h.elim
 |true=>
  rw[hg] at h
  obtain⟨sl',h1,h2⟩:=kslK_ok kx (show kslK i sl _ from h)
  obtain⟨bl',h3,h4,h5⟩:=kblK_ok kx h1
  refine⟨sl',bl',h3,h4,?_,fun T es l hq=>⟨⟨fun j T2 e2 l2 hj=>?_,fun a b bb ha hb hab hbb=>?_,fun j b hj hj2 hb=>?_,?_,?_,fun j hj=>(kx.pl j (Nat.lt_of_lt_of_le hj (Nat.le_trans hnb (Nat.le_of_lt hi))) oM).trans (hD.m.pl j hj),by rw[hZ];exact hD.m.zz,?_,hffr⟩,⟨?_,?_⟩,hF⟩⟩
  ·have hlt:i<bl'.length:=by rw[h4];exact hi
   obtain⟨l,e1,e2,_⟩:=h5 i (bl'[i]).1 (bl'[i]).2.1 (bl'[i]).2.2 (List.getElem?_eq_getElem hlt)
   refine⟨_,_,l,e1,?_⟩
   rw[List.getElem?_eq_getElem hlt,←e2 oM]
  ·have hn:(bl'.set i (T,es,l)).length=bl.length:=by rw[List.length_set,h4]
   show Bq ρ' (bl'.set i (T,es,l)).length w' j T2 e2 l2
   rw[hn]
   rcases set_case hj with ⟨rfl,he,_⟩|⟨hne,hj'⟩
   ·injection he with e1 e2
    injection e2 with e2 e3
    subst e1 e2 e3
    exact hq
   obtain⟨l0,a1,_,a3,a4⟩:=h5 j T2 e2 l2 hj'
   have hlt:=get_lt a1
   have hq0:=hD.m.ok j T2 e2 l0 a1
   unfold Bq at hq0 ⊢
   rw[kx.pl j hlt hne]
   cases hb:(ρ j).1 with
   |none=>
    simp only[hb] at hq0 ⊢
    refine⟨List.eq_nil_of_length_eq_zero ?_,hq0.2⟩
    rw[a4,hq0.1]
    rfl
   |some b=>
    simp only[hb] at hq0 ⊢
    obtain⟨vl,junk,q1,q2,q3⟩:=hq0
    exact⟨vl,junk,by rw[kx.ob j b hlt hne hb];exact q1,a3 oM vl q2,q3⟩
  ·simp only[List.length_set,h4] at ha hb
   by_cases hai:a=i<;>by_cases hbi:b=i
   ·omega
   ·subst hai;rw[kx.pl b hb hbi] at hbb;exact absurd hab (hinj b bb hb hbi hbb)
   ·subst hbi;rw[kx.pl a ha hai] at hab;exact absurd hbb (hinj a bb ha hai hab)
   rw[kx.pl a ha hai] at hab;rw[kx.pl b hb hbi] at hbb;exact hD.m.inj a b bb ha hb hab hbb
  ·simp only[List.length_set,h4] at hj2
   by_cases hji:j=i
   ·subst hji;exact hfr b hb
   rw[kx.pl j hj2 hji] at hb;exact hD.m.fr j b hj hj2 hb
  ·simp only[List.length_set,h4];exact hD.m.nbl
  ·have hr:=hrl hD.m.rel
   exact⟨hr.os,hr.tape,hr.output,hr.size,fun k hk hn hf=>hr.block k hk (fun j hj=>by
    have:=hn j hj
    rw[kx.pl j (Nat.lt_of_lt_of_le hj (Nat.le_trans hnb (Nat.le_of_lt hi))) oM] at this
    exact this) hf⟩
  ·simp only[List.length_set,h4]
   exact hfam
  ·intro t d' ht
   obtain⟨d,a1,a2⟩:=h2 t d' ht
   show Hd ρ' (bl'.set i (T,es,l)).length w' d' (f t)
   rw[List.length_set,h4]
   exact a2 _ (hD.f.sl t d a1)
  intro t gs d ht
  cases ht
end kx
end Go.Vy
namespace Go.Vy
open Go.Vg Go.RowKit
def flatR (m:Nat) (get:Nat→List CV):List CV:=((List.range m).map get).flatten
theorem flatR_succ (m:Nat) (get:Nat→List CV):flatR (m+1) get=flatR m get++get m:=by
 unfold flatR
 rw[List.range_succ,List.map_append,List.flatten_append]
 simp
def newsK (te:TI) (s:SS) (d:DV) (k:Nat→List CV→Prop→Prop):Prop:=match d with
 |.c (.s j m)=>(match s.bl[j]? with
  |some bj=>bif Nat.beq bj.2.1 te.size then k m bj.2.2 (m*te.size=bj.2.2.length) else False
  |none=>False)
 |.c (.r _ m _ e' get)=>bif Nat.beq e' te.size then k m (flatR m get) (∀j,j<m→(get j).length=te.size) else False
 |.c (.v (.slice none 0 0))=>k 0 [] True
 |_=>False
def hApp (T:TT) (nb:Nat) (s:SS) (t:Nat) (x y:Operand) (k:SS→DV→Prop):Prop:=match T t with
 |some ti=>(match ti.el with
  |some e=>(match T e,val [] s x,val [] s y with
   |some te,some (.c (.s i n)),some dy=>(match s.bl[i]? with
    |some bi=>bif Nat.beq bi.1 e&&(Nat.beq bi.2.1 te.size&&(Nat.ble 1 te.size&&Nat.ble nb i)) then
     newsK te s dy fun m news c=>(c∧n*te.size=bi.2.2.length∧n+m≤maxLen∧(n+m)*te.by'≤140737488355328∧∀c∈bi.2.2++news,menC i c=false)∧
      killS i s fun s'=>setK s'.bl i (bi.1,bi.2.1,bi.2.2++news) fun bl'=>k ⟨s'.sl,s'.gl,bl',s'.fl⟩ (.c (.s i (n+m)))
     else False
    |none=>False)
   |some te,some (.c (.v (.slice none 0 0))),some dy=>bif Nat.ble 1 te.size then newsK te s dy fun m news c=>(c∧m≤maxLen∧m*te.by'≤140737488355328)∧newB s e te.size news (fun i=> .c (.s i m)) k else False
   |some te,some (.c (.h A n c)),some dy=>∃f j:Nat,(match s.fl[f]? with
    |some F=>bif Nat.beq F.T e&&(Nat.beq F.es te.size&&Nat.ble 1 te.size) then
     newsK te s dy fun m news cd=>(cd∧j<F.N∧F.A j=A∧F.cap j=c∧n*te.size=(F.get j).length∧n+m≤maxLen∧(n+m)*te.by'≤140737488355328∧∀c∈news,cloC c=true)∧
      ∀A' c',setK s.fl f ⟨F.T,F.es,F.N,upd F.A j A',upd F.cap j c',upd F.get j (F.get j++news)⟩ fun fl'=>k ⟨s.sl,s.gl,s.bl,fl'⟩ (.c (.h A' (n+m) c'))
     else False
    |none=>False)
   |_,_,_=>False)
  |none=>False)
 |none=>False
section
variable {P:Program} {T:TT} (hT:Good P T) {w0 w:World} {nb:Nat} {s:SS} {ρ ρ0:Pl} {f:Nat→Value} {dst:Option Tmp} {ty:TypeId} {pos:String} {aft:Array Edge} {gd:Option (Nat×Bool)} {x y z:Operand} {t t' e:TypeId} {k:SS→DV→Prop}
theorem rd_of_cells {b o:Nat} {l:List Value} (h:∀(j:Nat) (u:Value),l[j]? =some u→w.cell? ⟨b,o+j,none⟩=some u):Go.Vg.Rd (fun _ _=>True) w b o l:=by
 cases l with
 |nil=>exact .inl rfl
 |cons a l=>
  right
  have h0:=h 0 a rfl
  have h0':=h0
  unfold World.cell? at h0'
  cases hb:w.heap[b]? with
  |none=>simp only[hb] at h0';cases h0'
  |some ob=>
   cases ob with
   |cells cs T fz=>
    refine⟨cs,T,fz,rfl,trivial,fun j u hj=>?_⟩
    have:=h j u hj
    unfold World.cell? at this
    simp only[hb] at this
    simpa using this
   |_=>simp only[hb] at h0';cases h0'
theorem app_run {size bytes n m:Nat} {zz v1 v2:Value} {l news:List Value} {D:Nat→TypeId→Prop} (hu:P.underlying t=some (.slice e)) (ht:TyI P e size bytes zz) (hz:zz.cells.size=size) (hsz:0<size) (hx:ev f x=v1) (hy:ev f y=v2)
 (ho:Ow w 0 e size v1 n l) (hs:Sc D w size v2 m news) (h1:∀u∈news,u.oneCell'=true) (h63:n+m≤maxLen) (hby:(n+m)*bytes≤140737488355328):
 ∃v w',(execOp (ev f) ⟨dst,.call ⟨.builtin .append,#[x,y],#[t,t]⟩,ty,pos,aft,gd⟩).run P w= .ok (.value v) w'∧Ow w' 0 e size v (n+m) (l++news)∧w.grownBy w' v1.ownBlock∧(v.ownBlock=v1.ownBlock∨v.ownBlock=some w.heap.size):=by
 obtain⟨i,hi,hzi,hsi,hbi⟩:=ht.ex
 obtain⟨A,c,rfl,hmc,hcm,hl,hA⟩:=hs
 have key:∃v' w',(Builtin.append_ #[t,t] ty #[v1,.slice A m c]).run P w= .ok v' w'∧w'.ownsRow 0 e size v' (n+m) (l++news)∧w.grownBy w' v1.ownBlock∧(v'.ownBlock=v1.ownBlock∨v'.ownBlock=some w.heap.size):=by
  rcases hA with rfl|⟨b,o,rfl,hrd⟩
  ·have hm:m=0:=by
    rcases Nat.eq_zero_or_pos m with h|h
    ·exact h
    exact absurd hl.symm (by have:=Nat.mul_pos h hsz;simp;omega)
   subst hm
   cases A with
   |none=>
    refine⟨v1,w,?_,by simpa using ho,⟨rfl,rfl,rfl,Nat.le_refl _,fun _ _ _=>rfl⟩,.inl rfl⟩
    rcases ho.2 with ⟨rfl,rfl⟩|⟨b,cap,cur,rfl,_,_,hnc,_⟩
    ·simp[Builtin.append_,run_underlying hu,sizeOf,typeInfo,hi,Builtin.lenOf,Builtin.firstCells]
    simp[Builtin.append_,run_underlying hu,sizeOf,typeInfo,hi,Builtin.lenOf,Builtin.firstCells,hnc,storeCells]
   |some ad=>
    obtain⟨v',w',h1,h2,h3,_,h5⟩:=run_append_own_at (P:=P) w 0 t ty e i zz size bytes hu hi hzi hsi hbi hz hsz v1 n l ho ad 0 c [] (by simp) (by simp) (by simp) (by simpa using h63) (by simpa using hby) (Nat.zero_le _)
    exact⟨v',w',h1,h2,h3,h5⟩
  obtain⟨v',w',h1,h2,h3,_,h5⟩:=run_append_own_at (P:=P) w 0 t ty e i zz size bytes hu hi hzi hsi hbi hz hsz v1 n l ho ⟨b,o,none⟩ m c news hl (fun j u hj=>by rw[add_spotless];exact hrd.cell hj) h1 h63 hby (Nat.zero_le _)
  exact⟨v',w',h1,h2,h3,h5⟩
 obtain⟨v',w',h2,h3,h4,h5⟩:=key
 exact⟨v',w',by simp[execOp,resolve,invoke,builtin,hx,hy,h2],h3,h4,h5⟩
theorem flat_rc {Z:Nat→Prop} {b o esz:Nat} {get:Nat→List CV} {V:Nat→List Value}:∀(m:Nat),(∀j,j<m→∀(i:Nat) (u:Value),(V j)[i]? =some u→w.cell? ⟨b,o+j*esz+i,none⟩=some u∧u.oneCell'=true)→(∀j,j<m→(V j).length=esz)→
 ((List.range m).map V).flatten.length=m*esz∧(∀(i:Nat) (u:Value),((List.range m).map V).flatten[i]? =some u→w.cell? ⟨b,o+i,none⟩=some u∧u.oneCell'=true)
 |0,_,_=>⟨by simp,fun i u h=>by simp at h⟩
 |m+1,hc,hl=>by
  obtain⟨h1,h2⟩:=flat_rc (Z:=Z) (get:=get) m (fun j hj=>hc j oM) (fun j hj=>hl j oM)
  have e:((List.range (m+1)).map V).flatten=((List.range m).map V).flatten++V m:=by
   rw[List.range_succ,List.map_append,List.flatten_append]
   simp
  rw[e]
  refine⟨by rw[List.length_append,h1,hl m oM,Nat.add_mul,Nat.one_mul],fun i u hi=>?_⟩
  by_cases hlt:i<m*esz
  ·rw[List.getElem?_append_left (by rw[h1];exact hlt)] at hi
   exact h2 i u hi
  rw[List.getElem?_append_right (by rw[h1];omega),h1] at hi
  have:=hc m oM _ u hi
  rw[show o+m*esz+(i-m*esz)=o+i by omega] at this
  exact this
theorem Hl.flatR {n esz:Nat} {get:Nat→List CV} {V:Nat→List Value}:∀(m:Nat),(∀j,j<m→Hl ρ n w (get j) (V j))→Hl ρ n w (Go.Vy.flatR m get) ((List.range m).map V).flatten
 |0,_=>trivial
 |m+1,h=>by
  rw[flatR_succ,List.range_succ,List.map_append,List.flatten_append]
  refine(Hl.flatR (esz:=esz) m fun j hj=>h j oM).append ?_
  simpa using h m oM
theorem newsK_ok {te:TI} {dy:DV} {kk:Nat→List CV→Prop→Prop} {v2:Value} (h:newsK te s dy kk) (hm:DnW ρ0 w0 nb s.bl ρ w) (hd:Hd ρ s.bl.length w dy v2) (hsz:0<te.size):∃m news c,kk m news c∧(c→∃vals,Sc (fun _ _=>True) w te.size v2 m vals∧Hl ρ s.bl.length w news vals∧∀x∈vals,x.oneCell'=true):=by
 unfold newsK at h
 split at h
 ·next j m=>
  split at h
  ·next bj hbj=>
   obtain⟨Tj,ej,lj⟩:=bj
   cases hb:Nat.beq ej te.size with
   |false=>simp only[hb,cond_false] at h
   |true=>
    simp only[hb,cond_true] at h
    have hb':=Nat.eq_of_beq_eq_true hb
    subst hb'
    refine⟨_,_,_,h,fun hc=>?_⟩
    obtain⟨hj,he⟩:=hd.inv_c
    have hq:=hm.ok j Tj _ lj hbj
    cases hρ:(ρ j).1 with
    |none=>
     unfold Bq at hq
     simp only[hρ] at hq
     obtain⟨h1,h2,h3⟩:=hq
     subst h1
     rw[hρ,h2] at he
     have hm0:m=0:=by
      rcases Nat.eq_zero_or_pos m with h|h
      ·exact h
      have:=Nat.mul_pos h hsz;simp at hc;omega
     subst hm0
     exact⟨[],⟨none,0,he,Nat.le_refl _,Nat.zero_le _,by simp,.inl rfl⟩,trivial,fun x hx=>by cases hx⟩
    |some b=>
     obtain⟨vl,junk,q1,q2,q3,q4⟩:=hq.at hρ
     rw[hρ] at he
     obtain⟨q5,q6⟩:=q3 hsz
     have hl:=q2.len
     have hmc:m≤(ρ j).2:=by
      rw[List.length_append] at q5
      exact Nat.le_of_mul_le_mul_right (c:=te.size) oM hsz
     exact⟨vl,⟨some ⟨b,0,none⟩,(ρ j).2,he,hmc,q6,by rw[←hl];exact hc.symm,.inr ⟨b,0,rfl,rd_of_cells fun i u hi=>by rw[Nat.zero_add];exact own_cell q1 hi⟩⟩,q2,q4⟩
  exact h.elim
 ·next A m c e' get=>
  cases hb:Nat.beq e' te.size with
  |false=>simp only[hb,cond_false] at h
  |true=>
   simp only[hb,cond_true] at h
   have hb':=Nat.eq_of_beq_eq_true hb
   subst hb'
   refine⟨_,_,_,h,fun hc=>?_⟩
   obtain⟨h1,h2⟩:=hd.inv_c.inv_r
   cases h2 with
   |nil A c e get hmx=>exact⟨[],⟨A,c,h1,Nat.zero_le _,hmx,by simp,.inl rfl⟩,trivial,fun x hx=>by cases hx⟩
   |r b o n c e get V hcn hmx hZ hcell hlen hel=>
    have hl2:∀j,j<m→(V j).length=te.size:=fun j hj=>(hlen j hj).trans (hc j hj)
    obtain⟨f1,f2⟩:=flat_rc (Z:=fun _=>True) (get:=get) (o:=o) m hcell hl2
    refine⟨_,⟨_,c,h1,hcn,hmx,f1,.inr ⟨b,o,rfl,rd_of_cells fun i u hi=>(f2 i u hi).1⟩⟩,Hl.flatR (esz:=te.size) m fun j hj=>Hl.of_get (hlen j hj) fun i c' u h1 h2=>Hc.of_rc (hel j hj i c' u h1 h2),fun x hx=>?_⟩
    obtain⟨i,hi⟩:=List.getElem?_of_mem hx
    exact(f2 i x hi).2
 ·exact⟨_,_,_,h,fun _=>⟨[],⟨none,0,hd.inv_c.inv_v,Nat.le_refl _,Nat.zero_le _,by simp,.inl rfl⟩,trivial,fun x hx=>by cases hx⟩⟩
 exact h.elim
def plOf (v:Value):Option Nat×Nat:=match v with
 |.slice (some a) _ c=>(some a.block,c)
 |_=>(none,0)
theorem ow_bq {ρ':Pl} {i n size m:Nat} {v:Value} {l:List CV} {vl:List Value} (ho:Ow w 0 e size v m vl) (hρ:ρ' i=plOf v) (hl:Hl ρ' n w l vl) (h1:∀x∈vl,x.oneCell'=true) (hsz:0<size):Bq ρ' n w i e size l∧v= .slice ((ρ' i).1.map fun b=>⟨b,0,none⟩) m (ρ' i).2:=by
 obtain⟨hlen,h⟩:=ho
 rcases h with ⟨rfl,rfl⟩|⟨g,cap,cur,rfl,_,hh,hnc,hm,hs,ht⟩
 ·have e0:ρ' i=(none,0):=hρ
  unfold Bq
  rw[e0]
  have:vl=[]:=List.eq_nil_of_length_eq_zero (by simpa using hlen)
  subst this
  have hl':=hl.len
  exact⟨⟨List.eq_nil_of_length_eq_zero (by simpa using hl'),rfl,hsz⟩,rfl⟩
 have e0:ρ' i=(some g,cap):=hρ
 refine⟨Bq.of_some (b:=g) (by rw[e0]) ⟨vl,cur.toList.drop (m*size),?_,hl,fun _=>?_,h1⟩,by rw[e0];rfl⟩
 ·rw[hh,←ht,List.take_append_drop,Array.toArray_toList]
 rw[e0,←ht,List.take_append_drop]
 exact⟨by rw[←hs];simp,hm⟩
theorem plOf_blk (v:Value):(plOf v).1=v.ownBlock:=by
 unfold plOf Value.ownBlock
 split<;>simp_all
include hT in
theorem hApp_ok (h:hApp T nb s t x y k) (hD:Dn ρ0 w0 nb s ρ f w):Hv false P f ⟨dst,.call ⟨.builtin .append,#[x,y],#[t,t]⟩,ty,pos,aft,gd⟩ ρ0 w0 nb w k:=by
 unfold hApp at h
 split at h
 ·next ti ht=>
  split at h
  ·next e he=>
   have hu:=(hT t ti ht).el e he
   split at h
   ·next te i n dy hte hx hy=>
    have G:=hT e te hte
    obtain⟨zz,hty,hz⟩:=G.ty
    have hzs:zz.cells.size=te.size:=by rw[hz];simpa using G.zs
    split at h
    ·next bi hbi=>
     obtain⟨Ti,ei,li⟩:=bi
     cases hb:(Nat.beq Ti e&&(Nat.beq ei te.size&&(Nat.ble 1 te.size&&Nat.ble nb i))) with
     |false=>simp only[hb,cond_false] at h
     |true=>
      simp only[hb,cond_true] at h
      simp only[Bool.and_eq_true] at hb
      obtain⟨b1,b2,b3,b4⟩:=hb
      have b1':=Nat.eq_of_beq_eq_true b1
      have b2':=Nat.eq_of_beq_eq_true b2
      have b3':=Nat.le_of_ble_eq_true b3
      have b4':=Nat.le_of_ble_eq_true b4
      subst b1' b2'
      obtain⟨m,news,c,⟨⟨hc,c1,c2,c3,c4⟩,hk⟩,hnews⟩:=newsK_ok h hD.m (val_ok hD.f sat_nil hy) b3'
      obtain⟨vals,hsc,hln,hon⟩:=hnews hc
      obtain⟨hi,hex⟩:=(val_ok hD.f sat_nil hx).inv_c
      have hq:=hD.m.ok i _ _ li hbi
      have how:∃vl,Ow w 0 Ti te.size (ev f x) n vl∧Hl ρ s.bl.length w li vl∧(∀x∈vl,x.oneCell'=true)∧(ev f x).ownBlock=(ρ i).1:=by
       cases hρ:(ρ i).1 with
       |none=>
        unfold Bq at hq
        simp only[hρ] at hq
        obtain⟨q1,q2,q3⟩:=hq
        subst q1
        rw[hρ,q2] at hex
        have hn0:n=0:=by
         rcases Nat.eq_zero_or_pos n with h|h
         ·exact h
         have:=Nat.mul_pos h b3';simp at c1;omega
        subst hn0
        refine⟨[],?_,trivial,fun x hx=>absurd hx List.not_mem_nil,?_⟩
        ·rw[hex];exact Ow.nil 0 _
        rw[hex];rfl
       |some b=>
        obtain⟨vl,junk,q1,q2,q3,q4⟩:=hq.at hρ
        rw[hρ] at hex
        obtain⟨q5,q6⟩:=q3 b3'
        have hl:=q2.len
        refine⟨vl,⟨by rw[←hl];exact c1.symm,.inr ⟨b,(ρ i).2,(vl++junk).toArray,hex,Nat.zero_le _,q1,?_,q6,by simpa using q5.symm,?_⟩⟩,q2,q4,by rw[hex];rfl⟩
        ·rw[List.length_append] at q5
         exact Nat.le_of_mul_le_mul_right (c:=te.size) oM b3'
        simp only[List.toList_toArray]
        rw[List.take_append_of_le_length oM,List.take_of_length_le oM]
      obtain⟨vl,how,hli,hoi,hblk⟩:=how
      obtain⟨v,w',hr,ho',hg,hown⟩:=app_run (P:=P) (dst:=dst) (ty:=ty) (pos:=pos) (aft:=aft) (gd:=gd) hu hty hzs b3' rfl rfl how hsc hon c2 c3
      rw[hblk] at hg hown
      let ρ':Pl:=⟨fun j=>if j=i then plOf v else ρ j,ρ.Z,ρ.F⟩
      have hρi:ρ' i=plOf v:=if_pos rfl
      have hρj:∀j,j≠i→ρ' j=ρ j:=fun j hj=>if_neg hj
      have hp:∀b,(ρ' i).1=some b→(ρ i).1=some b∨b=w.heap.size:=fun b hb=>by
       rw[hρi,plOf_blk] at hb
       rcases hown with h|h
       ·rw[hb] at h;exact .inl h.symm
       rw[hb] at h;injection h with h;exact .inr h
      have kx:Kx i ρ s.bl.length w ρ' w':=⟨fun j _ hj=>hρj j hj,fun b hbz=>⟨⟨Nat.lt_of_lt_of_le hbz.lt hg.size,fun j hj=>?_,hbz.z,hbz.nf⟩,hg.block b hbz.lt fun he=>hbz.no i hi he.symm⟩,fun j b hj hji hb=>hg.block b (hD.m.lt hj hb) fun he=>hji (hD.m.inj j i b hj hi hb he.symm)⟩
      ·obtain⟨sl',bl',k1,k2,⟨T3,e3,l3,k3,k4⟩,k5⟩:=killS_ok hk hD kx b4' hi (fun b hb=>by
        rcases hp b hb with h|h
        ·exact hD.m.fr i b b4' hi h
        ·have:=hD.m.rel.size;omega) (fun j b hj hji hb hb'=>by
        rcases hp b hb' with h|h
        ·exact hji (hD.m.inj j i b hj hi hb h)
        ·have:=hD.m.lt hj hb;omega) (fun hR=>⟨hg.os.trans hR.os,hg.tape.trans hR.tape,hg.output.trans hR.output,Nat.le_trans hR.size hg.size,fun q hq hn hf=>(hg.block q (Nat.lt_of_lt_of_le hq hR.size) fun he=>by
         have:=hD.m.fr i q b4' hi he.symm
         omega).trans (hR.block q hq hn hf)⟩) rfl hD.l (hD.m.fam.kx kx rfl (fun b hb=>hg.block b (hD.m.fam.lt hb) fun he=>hD.m.fam.own i b hi he.symm hb) fun b hb hf=>by
        rcases hp b hb with h|h
        ·exact hD.m.fam.own i b hi h hf
        have:=hD.m.fam.lt hf;omega) hD.m.ffr
       obtain⟨hbq,hv⟩:=ow_bq (n:=s.bl.length) (l:=li++news) ho' hρi ((hli.append hln).kx kx c4) (fun x hx=>by
        rcases List.mem_append.1 hx with h|h
        ·exact hoi x h
        exact hon x h) b3'
       refine⟨_,_,ρ',v,w',setK_ok k1,hr,k5 _ _ _ hbq,.c ⟨?_,hv⟩,fun h=>by cases h⟩
       simp only[List.length_set,k2]
       exact hi
      by_cases hji:j=i
      ·subst hji
       intro he
       rcases hp b he with h|h
       ·exact hbz.no j hi h
       have:=hbz.lt;omega
      rw[hρj j hji];exact hbz.no j hj
    exact h.elim
   ·next te dy hte hx hy=>
    have G:=hT e te hte
    obtain⟨zz,hty,hz⟩:=G.ty
    have hzs:zz.cells.size=te.size:=by rw[hz];simpa using G.zs
    cases hb:Nat.ble 1 te.size with
    |false=>simp only[hb,cond_false] at h
    |true=>
     simp only[hb,cond_true] at h
     have b3':=Nat.le_of_ble_eq_true hb
     obtain⟨m,news,c,⟨⟨hc,c2,c3⟩,hk⟩,hnews⟩:=newsK_ok h hD.m (val_ok hD.f sat_nil hy) b3'
     obtain⟨vals,hsc,hln,hon⟩:=hnews hc
     have hex:ev f x= .slice none 0 0:=(val_ok hD.f sat_nil hx).inv_c.inv_v
     obtain⟨v,w',hr,ho',hg,hown⟩:=app_run (P:=P) (dst:=dst) (ty:=ty) (pos:=pos) (aft:=aft) (gd:=gd) (n:=0) (l:=[]) hu hty hzs b3' hex rfl (Ow.nil 0 _) hsc hon oM (by simpa using c3)
     rw[Nat.zero_add,List.nil_append] at ho'
     have he:Ext w w':=⟨hg.os,hg.tape,hg.output,hg.size,fun q hq=>hg.block q hq (by simp[Value.ownBlock])⟩
     obtain⟨sl,gl,bl,fl⟩:=s
     have hk':=snocK_ok (show snocK bl (e,te.size,news) _ from hk)
     rw[cnt_len] at hk'
     have hp:∀b',(plOf v).1=some b'→w.heap.size≤b':=fun b' hb'=>by
      rw[plOf_blk] at hb'
      rcases hown with h|h
      ·rw[hb'] at h;simp[Value.ownBlock] at h
      rw[hb'] at h;injection h with h;omega
     have kp:Kp ρ bl.length w (grow ρ bl.length (plOf v)) (bl.length+1) w':=Kp.new hp he
     have hn:(bl++[(e,te.size,news)]).length=bl.length+1:=by simp
     obtain⟨hbq,hv⟩:=ow_bq (ρ':=grow ρ bl.length (plOf v)) (i:=bl.length) (n:=bl.length+1) (l:=news) ho' grow_new (hln.kp kp) hon b3'
     refine⟨_,_,grow ρ bl.length (plOf v),v,w',hk',hr,⟨hD.m.new hp he hbq,hD.f.kp rfl rfl (by rw[hn];exact kp),hD.l⟩,.c ⟨?_,hv⟩,fun h=>by cases h⟩
     show bl.length<(bl++[(e,te.size,news)]).length
     omega
   ·next te A n cc dy hte hx hy=>
    have G:=hT e te hte
    obtain⟨zz,hty,hz⟩:=G.ty
    have hzs:zz.cells.size=te.size:=by rw[hz];simpa using G.zs
    obtain⟨ff,j,h⟩:=h
    split at h
    ·next F hF=>
     cases hb:(Nat.beq F.T e&&(Nat.beq F.es te.size&&Nat.ble 1 te.size)) with
     |false=>simp only[hb,cond_false] at h
     |true=>
      simp only[hb,cond_true] at h
      simp only[Bool.and_eq_true] at hb
      obtain⟨b1,b2,b3⟩:=hb
      have b1':=Nat.eq_of_beq_eq_true b1
      have b2':=Nat.eq_of_beq_eq_true b2
      have b3':=Nat.le_of_ble_eq_true b3
      subst b1'
      obtain⟨m,news,c,⟨⟨hc,hj,hA,hcp,c1,c2,c3,c4⟩,hk⟩,hnews⟩:=newsK_ok h hD.m (val_ok hD.f sat_nil hy) b3'
      obtain⟨vals,hsc,hln,hon⟩:=hnews hc
      have hex:=(val_ok hD.f sat_nil hx).inv_c.inv_h
      have hmq:=hD.m.fam.mem hD.l hF hj
      have how:∃vl,Ow w 0 F.T te.size (ev f x) n vl∧vl.length=(F.get j).length∧(∀(i:Nat) (c:CV) (y:Value),(F.get j)[i]? =some c→vl[i]? =some y→Rc (Zf ρ s.bl.length w) w c y)∧(∀x∈vl,x.oneCell'=true)∧(ev f x).ownBlock=F.A j:=by
       subst hA
       cases hAj:F.A j with
       |none=>
        unfold Mq at hmq
        simp only[hAj] at hmq
        obtain⟨q1,q2⟩:=hmq
        rw[q1] at c1
        have hn0:n=0:=by
         rcases Nat.eq_zero_or_pos n with h|h
         ·exact h
         have:=Nat.mul_pos h b3';simp at c1;omega
        subst hn0
        rw[hAj,←hcp,q2] at hex
        refine⟨[],?_,(by rw[q1];rfl),(fun i c y hc hy=>by cases hy),(fun x hx=>absurd hx List.not_mem_nil),?_⟩
        ·rw[hex];exact Ow.nil 0 _
        rw[hex];rfl
       |some b=>
        obtain⟨vl,junk,q1,q2,q3,q4,q5,q6⟩:=hmq.at hAj
        rw[hAj,←hcp] at hex
        rw[b2'] at q4
        refine⟨vl,⟨by rw[q2];exact c1.symm,.inr ⟨b,F.cap j,(vl++junk).toArray,hex,Nat.zero_le _,q1,?_,q5,by simpa using q4.symm,?_⟩⟩,q2,q3,q6,by rw[hex];rfl⟩
        ·rw[List.length_append] at q4
         exact Nat.le_of_mul_le_mul_right (c:=te.size) oM b3'
        simp only[List.toList_toArray]
        rw[List.take_append_of_le_length oM,List.take_of_length_le oM]
      obtain⟨vl,how,hvl,hrc,hoi,hblk⟩:=how
      obtain⟨v,w',hr,ho',hg,hown⟩:=app_run (P:=P) (dst:=dst) (ty:=ty) (pos:=pos) (aft:=aft) (gd:=gd) hu hty hzs b3' rfl rfl how hsc hon c2 c3
      rw[hblk] at hg hown
      have hk':=setK_ok (hk (plOf v).1 (plOf v).2)
      obtain⟨k1,k2⟩:=hD.m.fset hD.l hF hj (F':=⟨F.T,F.es,F.N,upd F.A j (plOf v).1,upd F.cap j (plOf v).2,upd F.get j (F.get j++news)⟩) rfl rfl rfl (fun i hi=>upd_ne hi) (fun i hi=>upd_ne hi) (fun i hi=>upd_ne hi) (w':=w') ⟨hg.os,hg.tape,hg.output,hg.size,fun b hb hne=>hg.block b hb (fun e=>hne e.symm)⟩ (fun b hb=>by
       have hb':(plOf v).1=some b:=by rw[←hb];exact upd_eq.symm
       rw[plOf_blk] at hb'
       rcases hown with h|h
       ·rw[hb'] at h;exact .inl h.symm
       ·rw[hb'] at h;injection h with h;exact .inr oM) (fun hzz=>by
       unfold Mq
       simp only[upd_eq]
       obtain⟨hlen2,hcase⟩:=ho'
       rcases hcase with ⟨rfl,h0⟩|⟨g,cap,cur,rfl,_,hh,hnc,hm,hs,ht⟩
       ·have e0:plOf (.slice none 0 0)=(none,0):=rfl
        simp only[e0]
        have hv0:vl++vals=[]:=List.eq_nil_of_length_eq_zero (by rw[hlen2,h0];simp)
        have hv1:=hln.len
        have h2:=List.append_eq_nil_iff.1 hv0
        have h3:(F.get j)=[]:=List.eq_nil_of_length_eq_zero (by rw[←hvl,h2.1];rfl)
        have h4:news=[]:=List.eq_nil_of_length_eq_zero (by rw[hv1,h2.2];rfl)
        exact⟨by rw[h3,h4];rfl,trivial⟩
       have e0:plOf (.slice (some ⟨g,0,none⟩) (n+m) cap)=(some g,cap):=rfl
       simp only[e0]
       refine⟨vl++vals,cur.toList.drop ((n+m)*te.size),?_,?_,fun i c y hc hy=>?_,?_,hm,fun x hx=>?_⟩
       ·rw[hh,←ht,List.take_append_drop,Array.toArray_toList]
       ·rw[List.length_append,List.length_append,hvl,hln.len]
       ·rw[List.getElem?_append] at hc hy
        rw[hvl] at hy
        split at hc
        ·next hlt=>
         rw[if_pos hlt] at hy
         exact(hrc i c y hc hy).mono hzz
        next hlt=>
        rw[if_neg hlt] at hy
        obtain⟨y',a1,a2⟩:=hln.get hc
        rw[hy] at a1
        injection a1 with a1
        subst a1
        have hcc:=c4 c (List.mem_of_getElem? hc)
        refine Rc.mono ?_ hzz
        cases c with
        |u=>exact a2
        |v y=>exact a2
        |h A n c=>exact a2
        |hp b o=>exact a2
        |b p q=>exact a2
        |r A m c e get=>exact a2
        |p i o=>cases hcc
        |s i m=>cases hcc
        |q A m c e get j o=>cases hcc
        |f k fi ca=>cases hcc
       ·rw[←ht,List.take_append_drop,b2',←hs]
        simp
       rcases List.mem_append.1 hx with h|h
       ·exact hoi x h
       exact hon x h)
      refine⟨_,_,_,v,w',hk',hr,⟨k1,hD.f.kp rfl rfl k2,rfl⟩,.c ?_,fun h=>by cases h⟩
      have hv:v= .slice ((plOf v).1.map fun b=>⟨b,0,none⟩) (n+m) (plOf v).2:=by
       obtain⟨hlen2,hcase⟩:=ho'
       rcases hcase with ⟨rfl,h0⟩|⟨g,cap,cur,rfl,_⟩
       ·rw[h0];rfl
       rfl
      exact(congrArg (Hc _ _ _ _) hv).mpr (Rc.h _ _ _)
    exact h.elim
   exact h.elim
  exact h.elim
 exact h.elim
end
end Go.Vy
namespace Go.Vy
open Go.Vg Go.RowKit
abbrev BL:=List (TypeId×Nat×List CV)
structure Out where
 d:DV
 bl:BL
 C:Prop:=True
def ClB (cl:List Bool) (bl:BL):Prop:=∀(i:Nat) (T:TypeId) (es:Nat) (l:List CV),bl[i]? =some (T,es,l)→cl[i]? =some true→∀c∈l,cloC c=true
def HL (ρ:Pl) (n:Nat) (w:World):List DV→List Value→Prop
 |[],[]=>True
 |d::l,x::m=>Hd ρ n w d x∧HL ρ n w l m
 |_,_=>False
structure OutF where
 d:DV
 bl:BL
 fl:List Fam
 C:Prop
abbrev Out.F (o:Out):OutF:=⟨o.d,o.bl,[],o.C⟩
structure CtrF (P:Program) (q:FuncId) (cl:List Bool) (al:List DV) (bl:BL) (fl:List Fam) {σ:Type} (R:σ→OutF):Prop where
 ent:Ent P q
 clb:ClB cl bl
 run:∀(ρ:Pl) (w:World) (vals:List Value),HL ρ bl.length w al vals→DnW ρ w bl.length bl ρ w→ρ.F=fl→
  Calls P q vals.toArray w fun e w'=>∃v,e= .returned v∧∃g ρ',(R g).C∧DnW ρ w bl.length (R g).bl ρ' w'∧Hd ρ' (R g).bl.length w' (R g).d v∧ClB cl (R g).bl∧ρ'.F=(R g).fl
abbrev Ctr (P:Program) (q:FuncId) (cl:List Bool) (al:List DV) (bl:BL) {σ:Type} (R:σ→Out):Prop:=CtrF P q cl al bl [] fun g=>(R g).F
/-! ### renaming: the called function counts its blocks anew -/
def bad:CV:=.q none 0 0 0 (fun _=>[]) 0 0
def renP (m:List Nat):List (Nat×Nat)→Option (List (Nat×Nat))
 |[]=>some []
 |(j,o)::l=>match m[j]?,renP m l with
  |some i,some r=>some ((i,o)::r)
  |_,_=>none
def renC (m:List Nat):CV→CV
 |.p j o=>match m[j]? with
  |some i=> .p i o
  |none=>bad
 |.s j n=>match m[j]? with
  |some i=> .s i n
  |none=>bad
 |.f k fi ca=>match renP m fi,renP m ca with
  |some a,some b=> .f k a b
  |_,_=>bad
 |c=>c
def renD (m:List Nat):DV→DV
 |.c c=> .c (renC m c)
 |.a l=> .a (l.map (renC m))
 |.t l=> .t (renT m l)
where renT (m:List Nat):List DV→List DV
 |[]=>[]
 |d::l=>renD m d::renT m l
def renA (m:List Nat):DV→DV
 |.c c=> .c (renC m c)
 |.a l=> .a (l.map (renC m))
 |.t _=> .c bad
def renB (c:Option Bool) (m:List Nat) (l:List CV):List CV:=match c with
 |some true=>l
 |_=>l.map (renC m)
section ren
variable {ρ ρ':Pl} {n n':Nat} {w:World} {m:List Nat}
structure Rn (m:List Nat) (ρ:Pl) (n:Nat) (ρ':Pl) (n':Nat) (w:World):Prop where
 lt:∀j i,m[j]? =some i→i<n→j<n'
 pl:∀j i,m[j]? =some i→ρ' j=ρ i
 z:∀b,Zf ρ n w b→Zf ρ' n' w b
theorem renP_ok (h:Rn m ρ n ρ' n' w):∀{l r:List (Nat×Nat)},renP m l=some r→(∀p∈r,p.1<n∧(ρ p.1).1≠none)→(∀p∈l,p.1<n'∧(ρ' p.1).1≠none)∧r.map (ptr ρ)=l.map (ptr ρ')
 |[],r,hr,_=>by injection hr with hr;subst hr;exact⟨fun p hp=>absurd hp List.not_mem_nil,rfl⟩
 |(j,o)::l,r,hr,hl=>by
  unfold renP at hr
  split at hr
  ·next i r' hi hr'=>
   injection hr with hr
   subst hr
   obtain⟨h1,h2⟩:=renP_ok h hr' fun p hp=>hl p (.tail _ hp)
   refine⟨fun p hp=>?_,by rw[List.map_cons,List.map_cons,h2];simp only[ptr,h.pl j i hi]⟩
   rcases List.mem_cons.1 hp with rfl|hp
   ·exact⟨h.lt j i hi (hl _ (.head _)).1,by rw[h.pl j i hi];exact(hl _ (.head _)).2⟩
   exact h1 p hp
  cases hr
theorem bad_no {x:Value} (h:Hc ρ n w bad x):False:=absurd h.2.1 (Nat.not_lt_zero _)
theorem Hc.ren (h:Rn m ρ n ρ' n' w) {c:CV} {x:Value} (hc:Hc ρ n w (renC m c) x):Hc ρ' n' w c x:=by
 cases c with
 |p j o=>
  simp only[renC] at hc
  split at hc
  ·next i hi=>obtain⟨h1,b,h2,h3⟩:=hc;exact⟨h.lt j i hi h1,b,by rw[h.pl j i hi];exact h2,h3⟩
  exact(bad_no hc).elim
 |s j k=>
  simp only[renC] at hc
  split at hc
  ·next i hi=>obtain⟨h1,h2⟩:=hc;exact⟨h.lt j i hi h1,by rw[h.pl j i hi];exact h2⟩
  exact(bad_no hc).elim
 |f k fi ca=>
  simp only[renC] at hc
  split at hc
  ·next a b ha hb=>
   obtain⟨h1,h2⟩:=hc
   obtain⟨a1,a2⟩:=renP_ok h ha fun p hp=>h1 p (List.mem_append_left _ hp)
   obtain⟨b1,b2⟩:=renP_ok h hb fun p hp=>h1 p (List.mem_append_right _ hp)
   refine⟨fun p hp=>?_,by rw[h2,a2,b2]⟩
   rcases List.mem_append.1 hp with hp|hp
   ·exact a1 p hp
   exact b1 p hp
  exact(bad_no hc).elim
 |q A k c esz get j o=>obtain⟨h1,h2⟩:=hc;exact⟨h1.mono fun b hb=>⟨h.z b hb,rfl⟩,h2⟩
 |u=>exact Rc.mono hc fun b hb=>⟨h.z b hb,rfl⟩
 |v x=>exact Rc.mono hc fun b hb=>⟨h.z b hb,rfl⟩
 |h A n c=>exact Rc.mono hc fun b hb=>⟨h.z b hb,rfl⟩
 |hp b o=>exact Rc.mono hc fun b hb=>⟨h.z b hb,rfl⟩
 |b p q=>exact Rc.mono hc fun b hb=>⟨h.z b hb,rfl⟩
 |r A k c esz get=>exact Rc.mono hc fun b hb=>⟨h.z b hb,rfl⟩
theorem Hl.ren (h:Rn m ρ n ρ' n' w) {l:List CV} {vl:List Value} (hl:Hl ρ n w (l.map (renC m)) vl):Hl ρ' n' w l vl:=by
 induction l generalizing vl with
 |nil=>cases vl with
  |nil=>trivial
  |cons x vl=>exact hl
 |cons c l ih=>cases vl with
  |nil=>exact hl
  |cons x vl=>exact⟨hl.1.ren h,ih hl.2⟩
theorem renT_len:∀(l:List DV),(renD.renT m l).length=l.length
 |[]=>rfl
 |d::l=>by simp[renD.renT,renT_len l]
theorem Hd.ren (h:Rn m ρ n ρ' n' w) {d:DV} {x:Value} (hd:Hd ρ n w (renA m d) x):Hd ρ' n' w d x:=by
 cases d with
 |c cc=>exact .c (hd.inv_c.ren h)
 |a l=>
  obtain⟨vl,rfl,hl⟩:=hd.inv_a
  exact .a (hl.ren h)
 |t l=>exact(bad_no hd.inv_c).elim
theorem HL.ren (h:Rn m ρ n ρ' n' w):∀{l:List DV} {vl:List Value},HL ρ n w (l.map (renA m)) vl→HL ρ' n' w l vl
 |[],[],_=>trivial
 |[],_::_,hl=>hl
 |_::_,[],hl=>hl
 |d::l,x::vl,hl=>⟨hl.1.ren h,HL.ren h hl.2⟩
theorem Hc.clo {ρ ρ':Pl} {n n':Nat} {w:World} {c:CV} {x:Value} (h:Hc ρ n w c x) (hc:cloC c=true) (hz:∀b,Zf ρ n w b→Zf ρ' n' w b):Hc ρ' n' w c x:=by
 cases c with
 |u=>exact Rc.mono h fun b hb=>⟨hz b hb,rfl⟩
 |v x=>exact Rc.mono h fun b hb=>⟨hz b hb,rfl⟩
 |h A n c=>exact Rc.mono h fun b hb=>⟨hz b hb,rfl⟩
 |hp b o=>exact Rc.mono h fun b hb=>⟨hz b hb,rfl⟩
 |b p q=>exact Rc.mono h fun b hb=>⟨hz b hb,rfl⟩
 |r A k c esz get=>exact Rc.mono h fun b hb=>⟨hz b hb,rfl⟩
 |p i o=>cases hc
 |s i k=>cases hc
 |q A k c esz get j o=>cases hc
 |f k fi ca=>cases hc
theorem Hl.clo {ρ ρ':Pl} {n n':Nat} {w:World} {l:List CV} {vl:List Value} (h:Hl ρ n w l vl) (hc:∀c∈l,cloC c=true) (hz:∀b,Zf ρ n w b→Zf ρ' n' w b):Hl ρ' n' w l vl:=by
 induction l generalizing vl with
 |nil=>cases vl with
  |nil=>trivial
  |cons x vl=>exact h
 |cons c l ih=>cases vl with
  |nil=>exact h
  |cons x vl=>exact⟨h.1.clo (hc c (.head _)) hz,ih h.2 fun c h=>hc c (.tail _ h)⟩
end ren
/-! ### the other way: m is one to one -/
section back
variable {ρ ρ':Pl} {n n':Nat} {w:World} {m:List Nat}
structure Bn (m:List Nat) (ρ:Pl) (n:Nat) (ρ':Pl) (n':Nat) (w:World):Prop where
 get:∀j,j<n'→∃i,m[j]? =some i∧i<n∧ρ' j=ρ i
 z:∀b,Zf ρ' n' w b→Zf ρ n w b
theorem renP_back (h:Bn m ρ n ρ' n' w):∀{l:List (Nat×Nat)},(∀p∈l,p.1<n'∧(ρ' p.1).1≠none)→∃r,renP m l=some r∧(∀p∈r,p.1<n∧(ρ p.1).1≠none)∧l.map (ptr ρ')=r.map (ptr ρ)
 |[],_=>⟨[],rfl,fun p hp=>absurd hp List.not_mem_nil,rfl⟩
 |(j,o)::l,hl=>by
  obtain⟨r,h1,h2,h3⟩:=renP_back h fun p hp=>hl p (.tail _ hp)
  obtain⟨i,a1,a2,a3⟩:=h.get j (hl _ (.head _)).1
  refine⟨(i,o)::r,by simp only[renP,a1,h1],fun p hp=>?_,by rw[List.map_cons,List.map_cons,h3];simp only[ptr,a3]⟩
  rcases List.mem_cons.1 hp with rfl|hp
  ·exact⟨a2,by rw[←a3];exact(hl _ (.head _)).2⟩
  exact h2 p hp
theorem Hc.back (h:Bn m ρ n ρ' n' w) {c:CV} {x:Value} (hc:Hc ρ' n' w c x):Hc ρ n w (renC m c) x:=by
 cases c with
 |p j o=>
  obtain⟨h1,b,h2,h3⟩:=hc
  obtain⟨i,a1,a2,a3⟩:=h.get j h1
  simp only[renC,a1]
  exact⟨a2,b,by rw[←a3];exact h2,h3⟩
 |s j k=>
  obtain⟨h1,h2⟩:=hc
  obtain⟨i,a1,a2,a3⟩:=h.get j h1
  simp only[renC,a1]
  exact⟨a2,by rw[←a3];exact h2⟩
 |f k fi ca=>
  obtain⟨h1,h2⟩:=hc
  obtain⟨a,a1,a2,a3⟩:=renP_back h (l:=fi) fun p hp=>h1 p (List.mem_append_left _ hp)
  obtain⟨b,b1,b2,b3⟩:=renP_back h (l:=ca) fun p hp=>h1 p (List.mem_append_right _ hp)
  simp only[renC,a1,b1]
  refine⟨fun p hp=>?_,by rw[h2,a3,b3]⟩
  rcases List.mem_append.1 hp with hp|hp
  ·exact a2 p hp
  exact b2 p hp
 |q A k c esz get j o=>obtain⟨h1,h2⟩:=hc;exact⟨h1.mono fun b hb=>⟨h.z b hb,rfl⟩,h2⟩
 |u=>exact Rc.mono hc fun b hb=>⟨h.z b hb,rfl⟩
 |v x=>exact Rc.mono hc fun b hb=>⟨h.z b hb,rfl⟩
 |h A n c=>exact Rc.mono hc fun b hb=>⟨h.z b hb,rfl⟩
 |hp b o=>exact Rc.mono hc fun b hb=>⟨h.z b hb,rfl⟩
 |b p q=>exact Rc.mono hc fun b hb=>⟨h.z b hb,rfl⟩
 |r A k c esz get=>exact Rc.mono hc fun b hb=>⟨h.z b hb,rfl⟩
theorem Hl.back (h:Bn m ρ n ρ' n' w) {l:List CV} {vl:List Value} (hl:Hl ρ' n' w l vl):Hl ρ n w (l.map (renC m)) vl:=by
 induction l generalizing vl with
 |nil=>cases vl with
  |nil=>trivial
  |cons x vl=>exact hl
 |cons c l ih=>cases vl with
  |nil=>exact hl
  |cons x vl=>exact⟨hl.1.back h,ih hl.2⟩
theorem renT_inv:∀(l:List DV) (i:Nat) (d:DV),(renD.renT m l)[i]? =some d→∃d',l[i]? =some d'∧d=renD m d'
 |[],i,d,h=>by cases h
 |a::l,0,d,h=>by simp[renD.renT] at h;exact⟨a,rfl,h.symm⟩
 |a::l,i+1,d,h=>by
  obtain⟨d',h1,h2⟩:=renT_inv l i d (by simpa[renD.renT] using h)
  exact⟨d',by simpa using h1,h2⟩
theorem Hd.back (h:Bn m ρ n ρ' n' w) {d:DV} {x:Value} (hd:Hd ρ' n' w d x):Hd ρ n w (renD m d) x:=by
 induction hd with
 |c h0=>simp only[renD];exact .c (h0.back h)
 |a h0=>simp only[renD];exact .a (h0.back h)
 |t h0 hh ih=>
  simp only[renD]
  refine .t (by rw[renT_len];exact h0) fun i d u hi hu=>?_
  obtain⟨d',h1,rfl⟩:=renT_inv _ i d hi
  exact ih i d' u h1 hu
end back
end Go.Vy
