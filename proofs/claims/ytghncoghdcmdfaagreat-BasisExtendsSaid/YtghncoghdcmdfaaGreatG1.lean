/- THE STATEMENT BasisExtends of the program's law 13 is proved: for every input the law returns true; it has no conditions. Part 1 of 7: Vga Vgb Vgc Vgd Vge Vgf Vgg Vgh Msort Mnat Mknu Mlng Mleh Mwin Mrat Mquo Mvec Vya Vyb Vyc Vyd. -/
import Derived.WalkKit
import Derived.ProofKit
import Derived.OrdersHeld
import Derived.OrdersIn
import Derived.OwnWalkIn
import Derived.WalkSpells
import Derived.Maps.AppendAt
import Derived.Laws.StructEq
set_option maxHeartbeats 4000000
set_option linter.unusedVariables false
set_option linter.unusedSimpArgs false
abbrev bX := @Nat.le_of_ble_eq_true
abbrev aK := @Nat.eq_of_beq_eq_true
abbrev pI := @Array.getElem?_setIfInBounds_ne
abbrev gE := @Ne.symm
abbrev aP := @Bool.and_eq_true
abbrev aV := @List.all_eq_true
abbrev eC := @Nat.lt_or_ge
abbrev cM := @List.mem_range
abbrev jE := @Bool.not_true
abbrev iW := @Bool.or_eq_true
abbrev pW := @Bool.false_or
abbrev dO := @Bool.not_eq_true'
abbrev oZ := @Array.getElem?_eq_none
abbrev jQ := @Array.getElem?_eq_some_iff
abbrev bZ := @List.mem_cons
abbrev pQ := @Int.not_lt
abbrev aJ := @Nat.le_trans
abbrev bN := @Nat.lt_of_lt_of_le
abbrev iA := @Nat.add_assoc
abbrev dL := @List.getElem?_drop
abbrev eY := @List.getElem?_take
abbrev aI := @Nat.le_refl
abbrev gO := @Nat.add_zero
abbrev nM := @Nat.le_add_right
abbrev nE := @List.replicate_succ'
abbrev kY := @List.flatten_append
abbrev iN := @List.ext_getElem
abbrev dJ := @Nat.add_mul
abbrev pS := @List.getElem_map
abbrev mU := @List.flatten_cons
abbrev dG := @List.append_nil
abbrev tW := @List.getElem_append_left
abbrev sS := @List.getElem_append_right
abbrev aN := @List.length_map
abbrev fJ := @List.length_range
abbrev bO := @Nat.mul_comm
abbrev cS := @Nat.mod_eq_of_lt
abbrev gD := @Int.natCast_mul
abbrev cL := @Int.toNat_natCast
abbrev rA := @List.map_eq_nil_iff
abbrev tX := @List.map_take
abbrev cH := @List.drop_of_length_le
abbrev pX := @List.map_drop
abbrev bI := @Nat.mul_one
abbrev cU := @List.append_assoc
abbrev bR := @List.getElem?_append_right
abbrev fX := @Nat.add_sub_cancel_left
abbrev bA := @List.getElem?_append_left
abbrev iO := @Bool.false_eq_true
abbrev qQ := @List.mem_filter
abbrev bQ := @List.eq_nil_of_length_eq_zero
abbrev lM := @List.filter_cons
abbrev sF := @List.filter_filter
abbrev tI := @List.filter_congr
abbrev eR := @List.pairwise_append
abbrev dX := @List.drop_eq_getElem_cons
abbrev gG := @List.pairwise_iff_getElem
abbrev iE := @List.take_sublist
abbrev cB := @List.take_of_length_le
abbrev dM := @Nat.mod_lt
abbrev eD := @Nat.pow_succ
abbrev dD := @Nat.mul_add
abbrev bS := @Nat.mul_assoc
abbrev aQ := @List.mem_append
abbrev aH := @List.mem_singleton
abbrev cV := @List.mem_of_mem_take
abbrev fE := @List.mem_of_mem_drop
abbrev iZ := @List.replicate_succ
abbrev eF := @List.length_cons
abbrev fG := @Nat.add_sub_cancel
abbrev aD := @List.getD_eq_getElem?_getD
abbrev bE := @List.length_take
abbrev eH := @Nat.min_eq_left
abbrev eZ := @Nat.lt_of_le_of_lt
abbrev eI := @Nat.pow_le_pow_right
abbrev iK := @Nat.pow_add
abbrev iM := @List.set_append_right
abbrev jA := @Nat.sub_self
abbrev aE := @List.length_append
abbrev cE := @Nat.eq_zero_or_pos
abbrev cZ := @Nat.mul_le_mul_left
abbrev dR := @List.take_append_drop
abbrev eX := @Nat.le_of_lt
abbrev aZ := @Nat.mul_le_mul_right
abbrev cR := @List.length_singleton
abbrev fA := @List.take_append_of_le_length
abbrev cK := @List.length_drop
abbrev oB := @Nat.two_pow_pos
abbrev pA := @Nat.mul_zero
abbrev iF := @Nat.div_div_eq_div_mul
abbrev kM := @Nat.add_mul_div_left
abbrev gV := @Nat.pow_pos
abbrev gW := @Nat.div_eq_of_lt
abbrev eA := @Nat.zero_add
abbrev xM := @Nat.pow_one
abbrev fP := @Nat.div_add_mod
abbrev hJ := @Nat.two_pow_add_eq_or_of_lt
abbrev jW := @List.set_eq_take_append_cons_drop
abbrev qK := @Nat.pow_lt_pow_right
abbrev aC := @Nat.zero_le
abbrev mP := @Nat.le_div_iff_mul_le
abbrev jR := @Nat.lt_of_mul_lt_mul_right
abbrev rI := @Nat.lt_trans
abbrev jB := @Nat.mul_lt_mul_of_pos_right
abbrev sG := @Nat.mul_right_comm
abbrev gK := @Nat.div_lt_iff_lt_mul
abbrev cN := @Nat.lt_or_eq_of_le
abbrev dU := @Nat.succ_mul
abbrev nF := @Nat.mul_le_mul
abbrev mV := @Nat.add_mod_right
abbrev eT := @Nat.lt_trichotomy
abbrev gP := @Nat.add_comm
abbrev sH := @List.drop_drop
abbrev fB := @Nat.le_mul_of_pos_right
abbrev gJ := @List.drop_append_of_le_length
abbrev kB := @List.nil_append
abbrev qL := @Nat.div_le_div_right
abbrev lN := @Int.mul_le_mul_of_nonneg_right
abbrev qM := @Int.mul_le_mul_of_nonneg_left
abbrev xN := @Int.mul_nonneg
abbrev qR := @Int.natCast_add
abbrev xO := @Int.mul_one
abbrev tJ := @Int.neg_neg
abbrev nP := @Nat.succ_eq_add_one
abbrev mG := @Nat.sub_add_cancel
abbrev tY := @Nat.dvd_trans
abbrev jJ := @Nat.gcd_dvd_left
abbrev pT := @Nat.dvd_mul_left
abbrev pB := @Nat.gcd_dvd_right
abbrev lO := @Int.natCast_dvd_natCast
abbrev nU := @Int.dvd_trans
abbrev lS := @Int.dvd_mul_left
abbrev tK := @Int.one_mul
abbrev xP := @Int.neg_mul
abbrev qS := @Int.natCast_sub
abbrev iT := @Nat.one_mul
abbrev lT := @Int.natAbs_mul
abbrev sI := @Rat.num_divInt
abbrev sT := @Int.natAbs_ediv_le_natAbs
abbrev tL := @Int.lt_trichotomy
abbrev sJ := @Int.sign_eq_neg_one_of_neg
abbrev pD := @Int.sign_eq_one_of_pos
abbrev xQ := @Rat.den_divInt
abbrev iL := @Nat.div_le_self
abbrev qT := @Int.gcd_pos_of_ne_zero_right
abbrev iQ := @Int.mul_ediv_cancel_left
abbrev eP := @Int.natAbs_natCast
abbrev sU := @Int.mul_neg_of_pos_of_neg
abbrev sK := @Int.natAbs_neg
abbrev xR := @Int.mul_neg
abbrev xS := @Int.mul_pos
abbrev mR := @Rat.divInt_add_divInt
abbrev iP := @Rat.num_divInt_den
abbrev pM := @Rat.divInt_mul_divInt
abbrev xT := @Rat.neg_divInt
abbrev kN := @Rat.div_def
abbrev nV := @Nat.gcd_pos_of_pos_right
abbrev uP := @Int.natCast_ediv
abbrev vU := @Int.le_of_lt
abbrev fU := @Rat.zero_add
abbrev nW := @Rat.add_assoc
abbrev bP := @Rat.add_zero
abbrev sL := @List.pairwise_cons
abbrev iS := @Int.lt_trans
abbrev dQ := @Rat.zero_mul
abbrev dP := @List.map_congr_left
abbrev dK := @List.mem_append_left
abbrev dS := @List.mem_append_right
abbrev aR := @List.mem_of_getElem?
abbrev jZ := @List.getElem?_eq_some_iff
abbrev aG := @List.getElem?_eq_getElem
abbrev pE := @List.getElem?_set_self
abbrev nG := @List.getElem?_set_ne
abbrev bW := @List.length_set
abbrev dZ := @List.not_mem_nil
abbrev uQ := @Nat.succ_le_succ
abbrev qU := @Bool.eq_iff_iff
abbrev aF := @Nat.not_lt_zero
abbrev eS := @Nat.le_of_mul_le_mul_right
abbrev eQ := @List.map_cons
abbrev cT := @List.getElem?_of_mem
abbrev jF := @Nat.lt_irrefl
abbrev bF := @Nat.lt_succ_self
abbrev uR := @List.mem_flatten
abbrev gB := @List.mem_replicate
abbrev dF := @List.take_add_one
abbrev tM := @List.size_toArray
abbrev iH := @Decidable.not_not
abbrev jG := @Nat.mul_pos
abbrev fM := @Array.toArray_toList
abbrev fV := @Nat.beq_refl
abbrev pF := @List.any_eq_false
abbrev gQ := @List.range_succ
abbrev bG := @List.map_append
abbrev dW := @List.getElem?_map
abbrev kO := @List.map_map
abbrev cC := @List.mem_map
abbrev sM := @List.nodup_nil
abbrev kC := @List.nodup_cons
abbrev mW := @Array.toList_push
abbrev kP := @List.nodup_append
abbrev eN := @Array.getElem?_toList
abbrev sV := @Array.getElem?_eq_getElem
abbrev kZ := @List.filter_eq_self
abbrev lE := @Array.toList_filter
abbrev lF := @Iff.rfl
abbrev sW := @Option.isNone_iff_eq_none
abbrev sN := @List.take_zero
abbrev jS := @Int.fdiv_eq_ediv_of_nonneg
abbrev dN := @Nat.zero_lt_one
abbrev cX := @Nat.le_of_lt_succ
abbrev gC := @BitVec.ofInt_natCast
abbrev wE := @BitVec.toNat_or
abbrev gS := @BitVec.toNat_ofNat
abbrev lW := @List.drop_zero
abbrev cJ := @List.length_replicate
abbrev pG := @Nat.le_one_iff_eq_zero_or_eq_one
abbrev pH := @Nat.zero_mul
abbrev rJ := @Nat.pow_zero
abbrev cW := @List.take_length
abbrev sO := @Int.tdiv_eq_ediv_of_nonneg
abbrev sP := @Int.tmod_eq_emod_of_nonneg
abbrev jC := @Nat.gcd_comm
abbrev xU := @Nat.gcd_rec
abbrev oE := @Nat.gcd_zero_right
abbrev aT := @Classical.byContradiction
abbrev wF := @Rat.divInt_zero
abbrev jT := @Rat.sub_eq_add_neg
abbrev dH := @Rat.num_eq_zero
abbrev wG := @Rat.zero_divInt
abbrev cA := @Rat.mul_zero
abbrev jK := @List.getElem_mem
abbrev zJ := @Int.not_le
abbrev eJ := @List.pairwise_singleton
abbrev eE := @Classical.not_not
abbrev lZ := @List.drop_length
abbrev eO := @Nat.lt_succ_of_lt
abbrev xV := @List.map_id
abbrev jH := @Int.ofNat.inj
abbrev pJ := @List.eraseIdx_eq_take_drop_succ
abbrev mA := @List.length_eq_zero_iff
abbrev cO := @List.nodup_iff_pairwise_ne
abbrev fW := @List.pairwise_map
abbrev xW := @List.Perm.refl
abbrev tZ := @Rat.lt_irrefl
abbrev iU := @Rat.one_mul
abbrev mC := @List.nodup_range
abbrev sQ := @List.length_eraseIdx_of_lt
abbrev uA := @Rat.mul_assoc
abbrev jU := @Rat.inv_mul_cancel
abbrev nH := @Rat.mul_one
abbrev qV := @Rat.mul_eq_zero
abbrev mH := @Rat.mul_inv_cancel
abbrev sR := @Rat.div_mul_cancel
abbrev uB := @List.length_filterMap_le
abbrev vV := @Nat.mul_succ
abbrev rC := @List.length_reverse
abbrev wH := @Nat.min_le_left
abbrev oN := @Classical.axiomOfChoice
abbrev pN := @List.getElem?_eq_none
abbrev oC := @Option.some.inj
namespace Go.Vg
theorem _root_.Go.oM {p:Prop} (h:p:=by omega):p:=h
theorem _root_.Go.dC {p:Prop} (h:p:=by decide):p:=h
theorem _root_.Go.kR {p:Prop} (h:p:=by kernel_rfl):p:=h
theorem _root_.Go.oS {p:Prop} (h:p:=by first|omega|simp):p:=h
theorem _root_.Go.bL {a b:Nat} (h:Nat.ble a b=true:=by rfl):a<=b:=bX h
open Go.RowKit
def Fm (dl:List Deferred) (n:Nat) (f:Nat->Value) (a:Act):Prop:=a.defers=dl/\a.tmps.size=n/\∀i,a.tmps.getD i undef=f i
def st (f:Nat->Value) (d:Nat) (v:Value):Nat->Value:=λi=>match Nat.beq i d with
 |true=>v
 |false=>f i
theorem aYo {i d:Nat} (h:i≠d):Nat.beq i d=false:=by
 cases e:Nat.beq i d with
 |false=>rfl
 |true=>exact absurd (aK e) h
def ev (f:Nat->Value):Operand->Value
 |.tmp t=>f t
 |.const v=>v
 |.global g=> .pointer (some ⟨g,0,none⟩)
 |.func k=> .func (.func k) #[] #[]
theorem Fm.eval {n:Nat} {f:Nat->Value} {dl:List Deferred} {a:Act} (h:Fm dl n f a):a.eval=ev f:=by
 funext x
 cases x with
 |tmp t=>exact h.2.2 t
 |const v=>rfl
 |global g=>rfl
 |func k=>rfl
theorem aHm (f:Nat->Value) (d:Nat) (v:Value):st f d v d=v:=by simp[st]
theorem pY (f:Nat->Value) (d i:Nat) (v:Value) (h:i≠d):st f d v i=f i:=by
 have:Nat.beq i d=false:=aYo h
 simp[st,this]
theorem Fm.put {n:Nat} {f:Nat->Value} {dl:List Deferred} {a:Act} (h:Fm dl n f a) {d:Nat} (hd:d<n) (v:Value):Fm dl n (st f d v) (a.put (some d) v):=by
 refine⟨h.1,by simp[Act.put,h.2.1],λi=>?_⟩
 by_cases hi:i=d
 ·subst hi
  rw[aHm]
  simp[Act.put,h.2.1,hd]
 rw[pY _ _ _ _ hi,<-h.2.2 i]
 simp[Act.put,pI (gE hi)]
structure Po where
 nrm:(Nat->Value)->World->Prop
 ext:Nat->(Nat->Value)->World->Prop
 ret:(Nat->Value)->World->Prop
def up (dl:List Deferred) (n:Nat) (Q:Po):Exit->Act->World->Prop
 |.normal,a,w=>∃f,Fm dl n f a/\Q.nrm f w
 |.exit i,a,w=>∃f,Fm dl n f a/\Q.ext i f w
 |.ret,a,w=>∃f,Fm dl n f a/\Q.ret f w
 |_,_,_=>False
abbrev fen (ro:Option Nat):Fence:={fn:=λ_=>True,depth:=none,alive:=false,round:=ro}
def WP (P:Program) (n:Nat) (c:Code) (Q:Po) (f:Nat->Value) (w:World):Prop:=∀ro dl a,Fm dl n f a->c.wpIn (fen ro) 0 P (up dl n Q) a w
theorem aHn {ro:Option Nat} {o:Option FuncId}:∀f,o=some f->(fen ro).fn f:=λ_ _=>trivial
section rules
variable {P:Program} {n:Nat} {Q:Po} {f:Nat->Value} {w:World}
theorem cEe (h:Q.nrm f w):WP P n .skip Q f w:=λ_ dl a ha=>wpIn_skip ⟨f,ha,h⟩
theorem cEf {i:Nat} (h:Q.ext i f w):WP P n (.exit i) Q f w:=λ_ dl a ha=>wpIn_exit ⟨f,ha,h⟩
theorem cOj (h:Q.ret f w):WP P n .ret Q f w:=λ_ dl a ha=>wpIn_ret ⟨f,ha,h⟩
theorem aYp {x y:Code} (h:WP P n x ⟨λf w=>WP P n y Q f w,Q.ext,Q.ret⟩ f w):WP P n (.seq x y) Q f w:=λro dl a ha=>
 wpIn_seq (wpIn_mono (h ro dl a ha) λe a w hq=>by
  cases e with
  |normal=>obtain⟨f,hf,hh⟩:=hq;exact hh ro dl a hf
  |exit i=>exact hq
  |ret=>exact hq
  |goto l=>exact hq
  |panic c=>exact hq
  |outgrown=>exact hq)
theorem aYq {c:Operand} {x y:Code} {b:Bool} (hc:ev f c= .bool b) (ht:b=true->WP P n x Q f w) (he:b=false->WP P n y Q f w):WP P n (.cond c x y) Q f w:=λro dl a ha=>
 wpIn_cond_split (t:=b) (by rw[ha.eval];exact hc) (λh=>ht h ro dl a ha) (λh=>he h ro dl a ha)
theorem bJv {c:Operand} {x y:Code} (hc:ev f c= .bool true) (ht:WP P n x Q f w):WP P n (.cond c x y) Q f w:=aYq hc (λ_=>ht) (λh=>by cases h)
theorem bJw {c:Operand} {x y:Code} (hc:ev f c= .bool false) (he:WP P n y Q f w):WP P n (.cond c x y) Q f w:=aYq hc (λh=>by cases h) (λ_=>he)
theorem aYr {id:Nat} {c:Code} (h:WP P n c ⟨Q.nrm,λj f w=>match Nat.beq j id with|true=>Q.nrm f w|false=>Q.ext j f w,Q.ret⟩ f w):WP P n (.block id c) Q f w:=λro dl a ha=>
 wpIn_block (wpIn_mono (h ro dl a ha) λe a w hq=>by
  cases e with
  |normal=>exact hq
  |exit i=>
   obtain⟨f,hf,hh⟩:=hq
   show if i=id then _ else _
   by_cases hi:i=id
   ·have hb:Nat.beq i id=true:=by simpa using hi
    simp only[hb] at hh
    rw[if_pos hi]
    exact⟨f,hf,hh⟩
   have hb:Nat.beq i id=false:=aYo hi
   simp only[hb] at hh
   rw[if_neg hi]
   exact⟨f,hf,hh⟩
  |ret=>exact hq
  |goto l=>exact hq
  |panic c=>exact hq
  |outgrown=>exact hq)
theorem aYs {σ:Type} {c:Code} (I:σ->(Nat->Value)->World->Prop) (μ:σ->Nat) (s0:σ) (h0:I s0 f w)
 (hr:∀s f w,I s f w->WP P n c ⟨λf' w'=>∃s',I s' f' w'/\μ s'<μ s,Q.ext,Q.ret⟩ f w):WP P n (.loop c) Q f w:=by
 intro ro dl a ha b kk cs hro hb hr0
 have key:∀k s f w a,μ s=k->I s f w->Fm dl n f a->
  ∃e a' w',up dl n Q e a' w'/\ArrivesIn (Machine.fenced P (fen ro)) P (lone (b.atR a (.code c::.inLoop c::kk)) cs w) b kk cs e a' w':=by
  intro k
  induction k using Nat.strongRecOn with
  |_ k ih=>
   intro s f w a hk hI ha
   obtain⟨e,a1,w1,hq,harr⟩:=hr s f w hI ro dl a ha b (.inLoop c::kk) cs hro hb hr0
   cases e with
   |normal=>
    obtain⟨f1,hf1,s1,hI1,hlt⟩:=hq
    obtain⟨e2,a2,w2,hq2,harr2⟩:=ih (μ s1) (hk▸hlt) s1 f1 w1 a1 rfl hI1 hf1
    exact⟨e2,a2,w2,hq2,.of_steps (StepsIn.trans harr (.one (fenced_calm hb hr0 rfl) stepR_inLoop)) harr2⟩
   |exit i=>exact⟨.exit i,a1,w1,hq,.pass (x:=.inLoop c) rfl (λ_ _=> .inl (by simp)) harr⟩
   |ret=>exact⟨.ret,a1,w1,hq,.pass (x:=.inLoop c) rfl (λ_ _=> .inl (by simp)) harr⟩
   |goto l=>exact hq.elim
   |panic ch=>exact hq.elim
   |outgrown=>exact hq.elim
 obtain⟨e,a',w',hq,harr⟩:=key _ s0 f w a rfl h0 ha
 exact⟨e,a',w',hq,.of_steps (.one (fenced_calm hb hr0 rfl) stepR_loop) harr⟩
end rules
/-! ### an operation of a round is as everywhere -/
def ndO (o:Oper):Bool:=match o.op with
 |.defer _=>false
 |_=>true
def ndA (l:List Oper):Bool:=l.all ndO
theorem aYt {o:Oper} (h:ndO o=true):∀c,o.op≠.defer c:=λc hc=>by
 unfold ndO at h
 rw[hc] at h
 cases h
section round
variable {P:Program} {n:Nat} {Q:Po} {ro:Option Nat} {dl:List Deferred} {ops:Array Oper}
theorem aHo:¬LetsOut (up dl n Q):=λ⟨_,_,h⟩=>h
theorem cEg {o:Oper} {a:Act} {w:World} {K:Act->World->Prop} (hd:ndO o=true) (h:o.wp P a w K (up dl n Q)):o.wpIn (fen ro) 0 P a w K (up dl n Q):=by
 refine⟨aHn,?_⟩
 rw[Oper.semAt_plain (fen ro) a.eval o (aYt hd)]
 unfold Oper.wp at h
 generalize (execOp a.eval o).run P w=r at h
 cases r with
 |ok x w'=>
  cases x with
  |value v=>exact h
  |skip=>exact h
  |defer d=>exact h
  |enter f args=>
   refine⟨λhh=>(by cases hh),?_⟩
   have h2:CallsIn Fence.wide 0 P f args w' _:=callsIn_wide.2 h
   exact CallsIn.mono (F:=fen ro) (n:=0) h2 λe w'' hh=>by cases e<;>exact hh
  |row r args=>
   exact⟨λhh=>(by cases hh),λc cs _=>by
    obtain⟨v,w',r,s⟩:=(show Rows P _ _ _ _ from h) c cs
    exact⟨v,w',r,stepsIn_wide.2 s⟩⟩
  |_=>exact h.elim
 |halt x w'=>cases x<;>first|exact h|exact h.elim
theorem aOo:∀{l:List Oper} {a:Act} {w:World},ndA l=true->wpList P ops (up dl n Q) l a w->wpListIn (fen ro) 0 P ops (up dl n Q) l a w
 |[],a,w,_,h=>h
 |o::l,a,w,hd,h=>by
  simp only[ndA,List.all_cons,aP] at hd
  unfold wpList at h
  unfold wpListIn
  split
  ·next hw=>
   rw[if_pos hw] at h
   rcases h with h|h
   ·exact cEg hd.1 (Oper.wp_mono (λa w hh=>aOo hd.2 hh) h)
   exact absurd h.2 aHo
  next hw=>
  rw[if_neg hw] at h
  exact⟨aHn,aOo hd.2 h⟩
theorem aSr (hd:ndA ops.toList=true):∀{fuel:Nat} {listed:Array Bool} {a:Act} {w:World},wpAny P .any ops (up dl n Q) fuel listed a w->wpAnyIn (fen ro) 0 P .any ops (up dl n Q) fuel listed a w
 |0,_,_,_,h=>h
 |fuel+1,listed,a,w,h=>by
  refine⟨h.1,λi hi=>?_⟩
  have h1:=h.2 i hi
  unfold wpOp at h1
  unfold wpOpIn
  split
  ·next hn=>simp only[hn] at h1;exact aSr hd h1
  next o ho=>
  simp only[ho] at h1
  have hdo:ndO o=true:=aV.1 hd o (Array.mem_toList_iff.2 (Array.mem_of_getElem? ho))
  split
  ·next hw=>
   rw[if_pos hw] at h1
   rcases h1 with h1|h1
   ·exact cEg hdo (Oper.wp_mono (λa w hh=>aSr hd hh) h1)
   exact absurd h1.2 aHo
  next hw=>
  rw[if_neg hw] at h1
  exact⟨aHn,aSr hd h1⟩
end round
end Go.Vg
namespace Go.Vg
open Go.RowKit
section lists
variable {P:Program} {n:Nat} {Q:Po} {f:Nat->Value} {w w':World} {ops:Array Oper} {o:Oper} {rest:List Oper} {d:Nat} {v:Value}
def RL (P:Program) (n:Nat) (ops:Array Oper) (l:List Oper) (Q:Po) (f:Nat->Value) (w:World):Prop:=∀dl a,Fm dl n f a->wpList P ops (up dl n Q) l a w
theorem aSs {id:Nat} {l:List Oper} (h:RL P n l.toArray l Q f w) (hd:ndA l=true:=by rfl):WP P n (.region id l.toArray false) Q f w:=λ_ dl a ha=>wpIn_region_lit (aOo hd (h dl a ha))
theorem RL.nil (h:Q.nrm f w):RL P n ops [] Q f w:=λ_ _ ha=>wpList_nil ⟨f,ha,h⟩
theorem RL.val (hg:o.guard=none) (hd:o.dst=some d) (hn:d<n) (hr:(execOp (ev f) o).run P w= .ok (.value v) w') (h:RL P n ops rest Q (st f d v) w'):RL P n ops (o::rest) Q f w:=λdl a ha=>
 wpList_plain hg λK hK=>by
  unfold Oper.wp
  rw[ha.eval,hr]
  exact hK _ _ (h _ _ (by rw[hd];exact ha.put hn v))
theorem RL.call {k:FuncId} {args:Array Value} {Post:Value->World->Prop} (hg:o.guard=none) (hd:o.dst=some d) (hn:d<n) (hr:(execOp (ev f) o).run P w= .ok (.enter k args) w)
 (hc:Calls P k args w λe w'=>∃v,e= .returned v/\Post v w') (h:∀v w',Post v w'->RL P n ops rest Q (st f d v) w'):RL P n ops (o::rest) Q f w:=λdl a ha=>
 wpList_plain hg λK hK=>by
  unfold Oper.wp
  rw[ha.eval,hr]
  refine hc.mono λe w1 ⟨u,he,hp⟩=>?_
  subst he
  exact hK _ _ (h u w1 hp _ _ (by rw[hd];exact ha.put hn u))
theorem aOp {dl:List Deferred} {a:Act} (ha:Fm dl n f a) {j t:Nat} {b:Bool} (hj:(ops[j]?).bind (·.dst)=some t) (hf:f t= .bool b):yielded ops a.tmps j=some b:=by
 have h:=ha.2.2 t
 rw[hf] at h
 unfold yielded
 rw[hj]
 rcases eC t a.tmps.size with hl|hl
 ·simp only[Option.bind_some]
  simp[Array.getD,hl] at h
  simp[hl,h]
 simp[Array.getD,Nat.not_lt.2 hl,undef] at h
theorem aGi {dl:List Deferred} {a:Act} (ha:Fm dl n f a) {j t:Nat} {b want:Bool} (hg:o.guard=some (j,want)) (hj:(ops[j]?).bind (·.dst)=some t) (hf:f t= .bool b):
 Region.wanted o (yielded ops a.tmps)=(b==want):=by
 unfold Region.wanted
 simp only[hg,aOp ha hj hf]
 cases b<;>cases want<;>rfl
end lists
/-! ### whatever order -/
def MT:Nat:=210
def wI (o:Oper):Bool:=match o.op with
 |.load ..=>true
 |.lookup ..=>true
 |.call {callee:=.builtin .len,argTypes:=⟨[t]⟩,..}=>Nat.beq t MT
 |_=>false
def calm (o:Oper):Bool:=match o.op with
 |.move _|.assign _|.pick ..|.load ..|.lookup ..|.binOp ..|.unOp ..|.convert ..|.field ..|.fieldAddr ..|.indexAddr ..|.index ..|.slice ..|.extract ..|.build ..|.makeFunc ..|.nilCheck _=>true
 |.call {callee:=.builtin .len,..}|.call {callee:=.builtin .cap,..}|.call {callee:=.builtin .min,..}|.call {callee:=.builtin .max,..}=>true
 |_=>false
def aBa (ops:Array Oper) (j:Nat):Bool:=match ops[j]? with
 |some o=>calm o
 |none=>false
def aWw (ops:Array Oper) (j:Nat):Bool:=match ops[j]? with
 |some o=>wI o
 |none=>false
def aHp (ops:Array Oper) (i:Nat):Array Bool:=ops.foldl (λacc o=>acc.push (o.after.any λe=>Region.binds .any e&&(e.on==i||acc.getD e.on false))) #[]
def vW (ops:Array Oper) (i j:Nat):Bool:=(aHp ops i).getD j false
def aSt (ops:Array Oper) (listed:Array Bool) (i:Nat):Bool:=
 let d:=aHp ops i
 (List.range d.size).all λk=>!(d.getD k false)||(!(listed.getD k true)&&match ops[k]? with
  |some o=>o.after.any λe=>Region.binds .any e&&(e.on==i||d.getD e.on false)
  |none=>false)
def aDo (ops:Array Oper) (j:Nat):Bool:=
 (List.range ops.size).all λi=>i==j||!aWw ops i||vW ops i j
def Oks (ops:Array Oper) (S:World->Prop) (j:Nat) (w w':World):Prop:=(aBa ops j=true/\w'=w)\/aDo ops j=true\/S w'
def mX (P:Program) (ops:Array Oper) (Q:Exit->Act->World->Prop) (S:World->Prop):Nat->Array Bool->Act->World->Prop
 |0,listed,a,w=>Region.ready .any ops listed=[]/\Q .normal a w
 |fuel+1,listed,a,w=>
  (Region.ready .any ops listed=[]->Q .normal a w)/\
  ∀i∈Region.ready .any ops listed,wpOp P ops Q i (λa' w'=>Oks ops S i w w'/\mX P ops Q S fuel (listed.setIfInBounds i true) a' w') a w
section any
variable {P:Program} {ops:Array Oper} {Q:Exit->Act->World->Prop} {S:World->Prop}
theorem aDp:∀(fuel:Nat) (listed:Array Bool) (a:Act) (w:World),mX P ops Q S fuel listed a w->wpAny P .any ops Q fuel listed a w
 |0,_,_,_,h=>h
 |fuel+1,_,_,_,h=>⟨h.1,λi hi=>wpOp_mono (λa' w' h'=>aDp fuel _ a' w' h'.2) (h.2 i hi)⟩
theorem aCd {S':World->Prop} (hS:∀w,S' w->S w):∀(fuel:Nat) (listed:Array Bool) (a:Act) (w:World),mX P ops Q S' fuel listed a w->mX P ops Q S fuel listed a w
 |0,_,_,_,h=>h
 |fuel+1,_,_,_,h=>⟨h.1,λi hi=>wpOp_mono (λa' w' h'=>⟨h'.1.imp id (Or.imp id (hS w')),aCd hS fuel _ a' w' h'.2⟩) (h.2 i hi)⟩
theorem aHq {i j:Nat} (hl:aDo ops j=true) (hij:i≠j) (hi:i<ops.size) (hr:aWw ops i=true):vW ops i j=true:=by
 unfold aDo at hl
 simp only[aV,cM] at hl
 have h:=hl i hi
 simpa only[hr,jE,Bool.or_false,iW,beq_iff_eq,hij,false_or] using h
theorem aDq {i k:Nat} {listed:Array Bool} (h:aSt ops listed i=true) (hk:vW ops i k=true):
 listed.getD k true=false/\∃o,ops[k]? =some o/\∃e∈o.after,Region.binds .any e=true/\(e.on=i\/vW ops i e.on=true):=by
 unfold aSt at h
 simp only[aV,cM] at h
 have hlt:k<(aHp ops i).size:=by
  unfold vW at hk
  rcases eC k (aHp ops i).size with h'|h'
  ·exact h'
  simp[Array.getD,Nat.not_lt.2 h'] at hk
 have h1:=h k hlt
 unfold vW at hk
 rw[hk] at h1
 simp only[jE,pW,aP,dO] at h1
 refine⟨h1.1,?_⟩
 have h2:=h1.2
 split at h2
 ·next o ho=>
  obtain⟨e,he,hb⟩:=Array.any_eq_true'.1 h2
  simp only[aP,iW,beq_iff_eq] at hb
  exact⟨o,ho,e,he,hb.1,hb.2⟩
 cases h2
theorem aHr {i:Nat} {oi:Oper} {v:Value} {S0:World->Prop} (hi:ops[i]? =some oi) (hc:calm oi=true) (hS0:(∀w,S0 w)\/(wI oi=true/\∀w,S w->S0 w))
 (hcl:wI oi=true->∀k,vW ops i k=true->∃o,ops[k]? =some o/\∃e∈o.after,Region.binds .any e=true/\(e.on=i\/vW ops i e.on=true))
 (hsel:∀(j:Nat) (o:Oper) cs b,ops[j]? =some o->o.op≠.select cs b) (hQ:∀c a w,Q (.panic c) (a.put oi.dst v) w->Q (.panic c) a w):
 ∀(fuel:Nat) (listed:Array Bool) (a:Act) (w:World),
  (∀j oj,ops[j]? =some oj->j≠i->listed.getD j true=false->(∀e∈oj.after,Region.binds .any e=true->e.on≠i)->oi.apart ops oj=true)->
  (wI oi=true->∀k,vW ops i k=true->listed.getD k true=false)->
  i∈Region.ready .any ops listed->YieldsIf P ops S0 oi v a->S0 w->
  mX P ops Q S fuel (listed.setIfInBounds i true) (a.put oi.dst v) w->mX P ops Q S (fuel+1) listed a w:=by
 have hci:aBa ops i=true:=by unfold aBa;rw[hi];exact hc
 intro fuel
 induction fuel with
 |zero=>
  intro listed a w _ _ hr hy hS H
  refine⟨λh=>(by rw[h] at hr;cases hr),λj hj=>?_⟩
  by_cases hji:j=i
  ·subst hji;exact hy.wpOp hi hS ⟨.inl ⟨hci,rfl⟩,H⟩
  have:=ready_mono hj hji
  rw[H.1] at this
  cases this
 |succ fuel ih=>
  intro listed a w hfree hun hr hy hS H
  refine⟨λh=>(by rw[h] at hr;cases hr),λj hj=>?_⟩
  by_cases hji:j=i
  ·subst hji;exact hy.wpOp hi hS ⟨.inl ⟨hci,rfl⟩,H⟩
  have h1:=H.2 j (ready_mono hj hji)
  obtain⟨hjun,oj,hoj,hall⟩:=mem_ready.1 hj
  have hnot:∀e∈oj.after,Region.binds .any e=true->e.on≠i:=λe he hb heq=>by
   have h1:=hall e he hb
   have h0:=(mem_ready.1 hr).1
   rw[heq] at h1
   rcases eC i listed.size with h'|h'
   ·simp[h'] at h0 h1;rw[h0] at h1;cases h1
   simp[oZ h'] at h1
  have hjd:wI oi=true->vW ops i j=false:=λhrd=>by
   rcases Bool.eq_false_or_eq_true (vW ops i j) with hd|hd
   ·obtain⟨o,ho,e,he,hb,hcase⟩:=hcl hrd j hd
    rw[hoj] at ho
    injection ho with ho
    subst ho
    rcases hcase with hc|hc
    ·exact absurd hc (hnot e he hb)
    have h1:=hall e he hb
    have h0:=hun hrd e.on hc
    rcases eC e.on listed.size with h'|h'
    ·simp[h'] at h0 h1;rw[h0] at h1;cases h1
    simp[oZ h'] at h1
   exact hd
  have hun':wI oi=true->∀k,vW ops i k=true->(listed.setIfInBounds j true).getD k true=false:=λhrd k hk=>by
   have hjk:j≠k:=λh=>by subst h;rw[hjd hrd] at hk;cases hk
   rw[getD_set_ne true hjk]
   exact hun hrd k hk
  have h2:=wpOp_putIf hoj (hfree j oj hoj hji hjun hnot) (λcs b=>hsel i oi cs b hi) (λcs b=>hsel j oj cs b hoj) hQ hy h1
  have hfree':∀k ok,ops[k]? =some ok->k≠i->(listed.setIfInBounds j true).getD k true=false->
   (∀e∈ok.after,Region.binds .any e=true->e.on≠i)->oi.apart ops ok=true:=λk ok hk hki hun hno=>by
   refine hfree k ok hk hki ?_ hno
   by_cases hjk:j=k
   ·subst hjk;exact hjun
   rw[getD_set_ne true hjk] at hun;exact hun
  refine wpOp_mono (λa' w' h3=>?_) h2
  have hS':S0 w':=by
   rcases hS0 with hS0|⟨hrd,hS0⟩
   ·exact hS0 w'
   rcases h3.2.1 with ⟨_,he⟩|hl|hs
   ·rw[he];exact hS
   ·have hlt:i<ops.size:=(jQ.1 hi).1
    have hd:=aHq hl (gE hji) hlt (by unfold aWw;rw[hi];exact hrd)
    rw[hjd hrd] at hd
    cases hd
   exact hS0 w' hs
  refine⟨h3.2.1,ih (listed.setIfInBounds j true) a' w' hfree' hun' (ready_mono hr (gE hji)) h3.1 hS' ?_⟩
  rw[Array.setIfInBounds_comm _ _ hji]
  exact h3.2.2
end any
def wM (ops:Array Oper) (listed:Array Bool) (i:Nat):Bool:=
 Region.noSelect ops&&Region.free .any ops listed i&&(Region.ready .any ops listed).contains i&&aBa ops i&&(!aWw ops i||aSt ops listed i)
def RA (P:Program) (n:Nat) (ops:Array Oper) (Q:Po) (S:World->Prop) (fuel:Nat) (listed:Array Bool) (f:Nat->Value) (w:World):Prop:=
 ∀dl a,Fm dl n f a->mX P ops (up dl n Q) S fuel listed a w
section ra
variable {P:Program} {n:Nat} {Q:Po} {f:Nat->Value} {w w':World} {ops:Array Oper} {o:Oper} {S:World->Prop} {fuel:Nat} {listed:Array Bool} {d:Nat} {v:Value}
theorem aOq {id:Nat} (S:World->Prop) (hm:P.follows .mixedOrders=true) (h:RA P n ops Q S ops.size (Array.replicate ops.size false) f w.drew) (hd:ndA ops.toList=true:=by rfl):WP P n (.region id ops true) Q f w:=λ_ dl a ha=>
 wpIn_region_any hm (aSr hd (aDp _ _ _ _ (h dl a ha)))
theorem bQo {id:Nat} (hm:P.follows .mixedOrders=true) (h:∀w1,Below w.heap.size w w1->RA P n ops Q (λu=>Below w1.heap.size w1 u) ops.size (Array.replicate ops.size false) f w1) (hd:ndA ops.toList=true:=by rfl):WP P n (.region id ops true) Q f w:=
 aOq _ hm (h w.drew (Below.drew (Below.refl _ _))) hd
theorem RA.more {S':World->Prop} (hS:∀w,S' w->S w) (h:RA P n ops Q S' fuel listed f w):RA P n ops Q S fuel listed f w:=λdl a ha=>aCd hS _ _ _ _ (h dl a ha)
theorem RA.take0 {S0:World->Prop} (i:Nat) (hi:ops[i]? =some o) (hok:wM ops listed i=true) (hS0:(∀w,S0 w)\/(wI o=true/\∀w,S w->S0 w)) (hS:S0 w) (hd:o.dst=some d) (hn:d<n)
 (hy:∀dl a,Fm dl n f a->YieldsIf P ops S0 o v a) (h:RA P n ops Q S fuel (listed.setIfInBounds i true) (st f d v) w):RA P n ops Q S (fuel+1) listed f w:=λdl a ha=>by
 unfold wM at hok
 simp only[aP] at hok
 obtain⟨⟨⟨⟨h1,h2⟩,h3⟩,h4⟩,h5⟩:=hok
 have h6:wI o=true->aSt ops listed i=true:=λhrd=>by
  have:aWw ops i=true:=by unfold aWw;rw[hi];exact hrd
  rw[this] at h5
  simpa using h5
 refine aHr (i:=i) (v:=v) (S0:=S0) hi (by unfold aBa at h4;rw[hi] at h4;exact h4) hS0 (λhrd k hk=>(aDq (h6 hrd) hk).2) (Region.noSelect_spec h1) (λ_ _ _ h=>h) fuel listed a w (Region.free_spec hi h2) (λhrd k hk=>(aDq (h6 hrd) hk).1) (by simpa using h3) (hy dl a ha) hS ?_
 exact h _ _ (by rw[hd];exact ha.put hn v)
theorem RA.take (i:Nat) (hi:ops[i]? =some o) (hok:wM ops listed i=true) (hg:o.guard=none) (hd:o.dst=some d) (hn:d<n)
 (hr:∀w,(execOp (ev f) o).run P w= .ok (.value v) w) (h:RA P n ops Q S fuel (listed.setIfInBounds i true) (st f d v) w):RA P n ops Q S (fuel+1) listed f w:=
 RA.take0 (S0:=λ_=>True) i hi hok (.inl λ_=>trivial) trivial hd hn (λdl a ha=> .inl ⟨by simp[Region.wanted,hg],λw _=>by rw[ha.eval];exact hr w⟩) h
theorem aLr {dl:List Deferred} {a:Act} (ha:Fm dl n f a) {j t:Nat} {want:Bool} (hg:o.guard=some (j,want)) (hj:(ops[j]?).bind (·.dst)=some t) (hf:f t= .bool (!want)\/f t=undef):Region.wanted o (yielded ops a.tmps)=false:=by
 rcases hf with hf|hf
 ·rw[aGi ha hg hj hf];cases want<;>rfl
 have hy:yielded ops a.tmps j=none:=by
  have h:=ha.2.2 t
  rw[hf] at h
  unfold yielded
  rw[hj]
  simp only[Option.bind_some]
  rcases eC t a.tmps.size with hl|hl
  ·simp[Array.getD,hl] at h
   simp[hl,h,undef]
  simp[oZ hl]
 unfold Region.wanted
 simp only[hg,hy]
 rfl
theorem RA.done (hr:Region.ready .any ops listed=[]) (h:Q.nrm f w):RA P n ops Q S fuel listed f w:=λdl a ha=>by
 cases fuel with
 |zero=>exact⟨hr,f,ha,h⟩
 |succ k=>exact⟨λ_=>⟨f,ha,h⟩,by rw[hr];simp⟩
def RS (P:Program) (n:Nat) (ops:Array Oper) (Q:Po) (S:World->Prop) (fuel:Nat) (listed:Array Bool) (f:Nat->Value) (w:World) (rs:List Nat):Prop:=
 ∀i∈rs,∀dl a,Fm dl n f a->wpOp P ops (up dl n Q) i (λa' w'=>Oks ops S i w w'/\mX P ops (up dl n Q) S fuel (listed.setIfInBounds i true) a' w') a w
variable {i:Nat} {rs:List Nat}
theorem RS.nil:RS P n ops Q S fuel listed f w []:=λ_ h=>by cases h
theorem RS.val (hi:ops[i]? =some o) (hg:o.guard=none) (hd:o.dst=some d) (hn:d<n) (hr:(execOp (ev f) o).run P w= .ok (.value v) w') (hS:Oks ops S i w w')
 (h:RA P n ops Q S fuel (listed.setIfInBounds i true) (st f d v) w') (hs:RS P n ops Q S fuel listed f w rs):RS P n ops Q S fuel listed f w (i::rs):=λj hj=>by
 rcases bZ.1 hj with rfl|hj
 ·intro dl a ha
  unfold wpOp
  simp only[hi,Region.wanted,hg,if_true]
  refine .inl ?_
  unfold Oper.wp
  rw[ha.eval,hr]
  exact⟨hS,h _ _ (by rw[hd];exact ha.put hn v)⟩
 exact hs j hj
theorem RS.call {k:FuncId} {args:Array Value} {Post:Value->World->Prop} (hi:ops[i]? =some o) (hg:o.guard=none) (hd:o.dst=some d) (hn:d<n) (hr:(execOp (ev f) o).run P w= .ok (.enter k args) w)
 (hc:Calls P k args w λe w'=>∃v,e= .returned v/\Post v w') (h:∀v w',Post v w'->Oks ops S i w w'/\RA P n ops Q S fuel (listed.setIfInBounds i true) (st f d v) w')
 (hs:RS P n ops Q S fuel listed f w rs):RS P n ops Q S fuel listed f w (i::rs):=λj hj=>by
 rcases bZ.1 hj with rfl|hj
 ·intro dl a ha
  unfold wpOp
  simp only[hi,Region.wanted,hg,if_true]
  refine .inl ?_
  unfold Oper.wp
  rw[ha.eval,hr]
  refine hc.mono λe w1 ⟨u,he,hp⟩=>?_
  subst he
  obtain⟨h1,h2⟩:=h u w1 hp
  exact⟨h1,h2 _ _ (by rw[hd];exact ha.put hn u)⟩
 exact hs j hj
end ra
section
variable {P:Program} {f:Nat->Value} {w:World} {dst:Option Tmp} {ty:TypeId} {pos:String} {aft:Array Edge} {g:Option (Nat×Bool)} {x y z:Operand} {t t':TypeId} {k:IntKind} {a b c:Int}
theorem aLs {v:Value} (hc:ev f x= .bool true) (h:ev f y=v):(execOp (ev f) ⟨dst,.pick x y z,ty,pos,aft,g⟩).run P w= .ok (.value v) w:=by
 simp[execOp,hc,h,asBool]
theorem aLt {v:Value} (hc:ev f x= .bool false) (h:ev f z=v):(execOp (ev f) ⟨dst,.pick x y z,ty,pos,aft,g⟩).run P w= .ok (.value v) w:=by
 simp[execOp,hc,h,asBool]
theorem cEh (hx:ev f x= .int k a) (hy:ev f y= .int k b) (hw:k.wrap (a+b)=c):(execOp (ev f) ⟨dst,.binOp .add t x y t',ty,pos,aft,g⟩).run P w= .ok (.value (.int k c)) w:=by
 simp[execOp,hx,hy,eqGuard,binOp,Op.intArith,hw]
theorem cEi (hx:ev f x= .int k a) (hy:ev f y= .int k b) (hw:k.wrap (a-b)=c):(execOp (ev f) ⟨dst,.binOp .sub t x y t',ty,pos,aft,g⟩).run P w= .ok (.value (.int k c)) w:=by
 simp[execOp,hx,hy,eqGuard,binOp,Op.intArith,hw]
theorem cEj (hx:ev f x= .int k a) (hy:ev f y= .int k b) (hw:k.wrap (a*b)=c):(execOp (ev f) ⟨dst,.binOp .mul t x y t',ty,pos,aft,g⟩).run P w= .ok (.value (.int k c)) w:=by
 simp[execOp,hx,hy,eqGuard,binOp,Op.intArith,hw]
theorem cEk (hx:ev f x= .int k a) (hy:ev f y= .int k b) (hb:b≠0) (hw:k.wrap (a.tdiv b)=c):(execOp (ev f) ⟨dst,.binOp .quo t x y t',ty,pos,aft,g⟩).run P w= .ok (.value (.int k c)) w:=by
 simp[execOp,hx,hy,eqGuard,binOp,Op.intDiv,hb,hw]
theorem cEl (hx:ev f x= .int k a) (hy:ev f y= .int k b) (hb:b≠0) (hw:a.tmod b=c):(execOp (ev f) ⟨dst,.binOp .rem t x y t',ty,pos,aft,g⟩).run P w= .ok (.value (.int k c)) w:=by
 simp[execOp,hx,hy,eqGuard,binOp,Op.intDiv,hb,hw]
theorem cEm {kk:IntKind} (hx:ev f x= .int k a) (hy:ev f y= .int kk b) (hb:0<=b) (hw:k.wrap (a*2^(min b.toNat k.bits))=c):(execOp (ev f) ⟨dst,.binOp .shl t x y t',ty,pos,aft,g⟩).run P w= .ok (.value (.int k c)) w:=by
 simp[execOp,hx,hy,eqGuard,binOp,Op.shift,pQ.2 hb,hw]
theorem cEn {kk:IntKind} (hx:ev f x= .int k a) (hy:ev f y= .int kk b) (hb:0<=b) (hw:a.fdiv (2^(min b.toNat k.bits))=c):(execOp (ev f) ⟨dst,.binOp .shr t x y t',ty,pos,aft,g⟩).run P w= .ok (.value (.int k c)) w:=by
 simp[execOp,hx,hy,eqGuard,binOp,Op.shift,pQ.2 hb,hw]
theorem cOk (hx:ev f x= .int k a) (hy:ev f y= .int k b) (hw:k.wrap ((BitVec.ofInt k.bits a|||BitVec.ofInt k.bits b).toNat:Int)=c):(execOp (ev f) ⟨dst,.binOp .or t x y t',ty,pos,aft,g⟩).run P w= .ok (.value (.int k c)) w:=by
 simp only[execOp,hx,hy,eqGuard,binOp]
 simp[Op.intBits]
 simpa using hw
theorem cEo (hx:ev f x= .int k a) (hy:ev f y= .int k b) (hw:k.wrap ((BitVec.ofInt k.bits a&&&BitVec.ofInt k.bits b).toNat:Int)=c):(execOp (ev f) ⟨dst,.binOp .and t x y t',ty,pos,aft,g⟩).run P w= .ok (.value (.int k c)) w:=by
 simp only[execOp,hx,hy,eqGuard,binOp]
 simp[Op.intBits]
 simpa using hw
theorem cEp (hx:ev f x= .int k a) (hy:ev f y= .int k b):(execOp (ev f) ⟨dst,.binOp .lss t x y t',ty,pos,aft,g⟩).run P w= .ok (.value (.bool (decide (a<b)))) w:=by
 simp[execOp,hx,hy,eqGuard,binOp,Op.intCmp]
theorem cEq (hx:ev f x= .int k a) (hy:ev f y= .int k b):(execOp (ev f) ⟨dst,.binOp .leq t x y t',ty,pos,aft,g⟩).run P w= .ok (.value (.bool (decide (a<=b)))) w:=by
 simp[execOp,hx,hy,eqGuard,binOp,Op.intCmp]
theorem cEr (hx:ev f x= .int k a) (hy:ev f y= .int k b):(execOp (ev f) ⟨dst,.binOp .gtr t x y t',ty,pos,aft,g⟩).run P w= .ok (.value (.bool (decide (b<a)))) w:=by
 simp[execOp,hx,hy,eqGuard,binOp,Op.intCmp]
theorem cEs (hx:ev f x= .int k a) (hy:ev f y= .int k b):(execOp (ev f) ⟨dst,.binOp .geq t x y t',ty,pos,aft,g⟩).run P w= .ok (.value (.bool (decide (b<=a)))) w:=by
 simp[execOp,hx,hy,eqGuard,binOp,Op.intCmp]
theorem cEt (hx:ev f x= .int k a) (hy:ev f y= .int k b):(execOp (ev f) ⟨dst,.binOp .eql t x y t',ty,pos,aft,g⟩).run P w= .ok (.value (.bool (decide (a=b)))) w:=by
 simp[execOp,hx,hy,eqGuard,binOp,Op.intCmp]
 rfl
theorem cEu (hx:ev f x= .int k a) (hy:ev f y= .int k b):(execOp (ev f) ⟨dst,.binOp .neq t x y t',ty,pos,aft,g⟩).run P w= .ok (.value (.bool (decide (a≠b)))) w:=by
 simp[execOp,hx,hy,eqGuard,binOp,Op.intCmp]
 rfl
theorem uD (d:Nat) {p q:Bool} (ht:P.underlying t=some .bool):(Op.equalIn (d+1) t (.bool p) (.bool q)).run P w= .ok (p==q) w:=by
 simp[Op.equalIn,run_underlying ht]
theorem bSv {p q:Bool} (ht:P.underlying t=some .bool) (hx:ev f x= .bool p) (hy:ev f y= .bool q):(execOp (ev f) ⟨dst,.binOp .eql t x y t',ty,pos,aft,g⟩).run P w= .ok (.value (.bool (p==q))) w:=by
 have h:=uD (P:=P) (w:=w) (t:=t) 9999 (p:=p) (q:=q) ht
 simp only[execOp,hx,hy,eqGuard,binOp]
 simp[Op.equal,Op.maxDepth,h]
theorem bSw {p q:Bool} (ht:P.underlying t=some .bool) (hx:ev f x= .bool p) (hy:ev f y= .bool q):(execOp (ev f) ⟨dst,.binOp .neq t x y t',ty,pos,aft,g⟩).run P w= .ok (.value (.bool (p !=q))) w:=by
 have h:=uD (P:=P) (w:=w) (t:=t) 9999 (p:=p) (q:=q) ht
 simp only[execOp,hx,hy,eqGuard,binOp]
 simp[Op.equal,Op.maxDepth,h]
 cases p<;>cases q<;>rfl
theorem bQp {p:Bool} (hx:ev f x= .bool p):(execOp (ev f) ⟨dst,.unOp .not t x,ty,pos,aft,g⟩).run P w= .ok (.value (.bool (!p))) w:=by
 simp[execOp,hx,Op.unary]
theorem cEv (hx:ev f x= .int k a) (hw:k.wrap (0-a)=c):(execOp (ev f) ⟨dst,.unOp .neg t x,ty,pos,aft,g⟩).run P w= .ok (.value (.int k c)) w:=by
 simp only[execOp,hx,Op.unary,Op.intArith,hw]
 rfl
theorem bSx {k':IntKind} {d:TypeDesc} (h1:P.underlying t=some d) (h2:P.underlying t'=some (.int k)) (hx:ev f x= .int k' a) (hw:k.wrap a=c):(execOp (ev f) ⟨dst,.convert t t' x,ty,pos,aft,g⟩).run P w= .ok (.value (.int k c)) w:=by
 simp only[execOp,hx,convert,Sem.run_bind,run_underlying h1,run_underlying h2,Result.andThen_ok]
 cases d<;>simp[Conv.intToInt,hw]
theorem aWx {vs:Array Value} {i:Nat} {v:Value} (hx:ev f x= .tuple vs) (hv:vs[i]? =some v):(execOp (ev f) ⟨dst,.extract x i,ty,pos,aft,g⟩).run P w= .ok (.value v) w:=by
 simp[execOp,hx,Instr.extract,hv]
theorem aSu {e:TypeId} {A:Option Addr} {n c:Nat} (ht:P.underlying t=some (.slice e)) (hx:ev f x= .slice A n c):
 (execOp (ev f) ⟨dst,.call ⟨.builtin .len,#[x],#[t]⟩,ty,pos,aft,g⟩).run P w= .ok (.value (.int .i64 n)) w:=by
 simp[execOp,resolve,invoke,builtin,Builtin.len_,run_underlying ht,hx,goInt]
theorem bSy (hx:ev f x= .int k a) (hy:ev f y= .int k b):(execOp (ev f) ⟨dst,.call ⟨.builtin .max,#[x,y],#[t,t']⟩,ty,pos,aft,g⟩).run P w= .ok (.value (.int k (if b>a then b else a))) w:=by
 simp[execOp,resolve,invoke,builtin,Builtin.max_,hx,hy,Builtin.max2]
theorem bSz (hx:ev f x= .int k a) (hy:ev f y= .int k b):(execOp (ev f) ⟨dst,.call ⟨.builtin .min,#[x,y],#[t,t']⟩,ty,pos,aft,g⟩).run P w= .ok (.value (.int k (if b<a then b else a))) w:=by
 simp[execOp,resolve,invoke,builtin,Builtin.min_,hx,hy,Builtin.min2]
def Ent (P:Program) (k:FuncId):Prop:=∀args w,(callFunc k args).run P w= .ok (.enter k args) w
end
/-! ### a number that fits is itself -/
theorem cEw {z:Int} (h:-9223372036854775808<=z/\z<=9223372036854775807):IntKind.i64.wrap z=z:=by
 rw[IntKind.wrap_i64];omega
theorem aDr {z:Int} (h:0<=z/\z<=18446744073709551615):IntKind.u64.wrap z=z:=by
 rw[IntKind.wrap_u64];omega
theorem bTa {z:Int} (h:0<=z/\z<=4294967295):IntKind.u32.wrap z=z:=by
 rw[IntKind.wrap_u32];omega
/-! ### worlds -/
abbrev Ext (w w':World):Prop:=Below w.heap.size w w'
theorem Ext.trans {a b c:World} (h:Ext a b) (k:Ext b c):Ext a c:=Below.trans h (Below.mono k h.size)
theorem Ext.refl (w:World):Ext w w:=Below.refl _ _
theorem Ext.drew (w:World):Ext w w.drew:=(Below.refl _ _).drew
theorem Below.ext {B:Nat} {w0 w w':World} (h:Below B w0 w) (hB:B<=w.heap.size) (k:Ext w w'):Below B w0 w':=h.trans (k.mono hB)
structure Exc (b:Nat) (w w':World):Prop where
 os:w'.os=w.os
 tape:w'.tape=w.tape
 output:w'.output=w.output
 size:w.heap.size<=w'.heap.size
 block:∀k,k<w.heap.size->k≠b->w'.heap[k]? =w.heap[k]?
theorem Exc.trans {b:Nat} {a c d:World} (h:Exc b a c) (k:Exc b c d):Exc b a d:=
 ⟨k.os.trans h.os,k.tape.trans h.tape,k.output.trans h.output,aJ h.size k.size,λi hi hb=>(k.block i (bN hi h.size) hb).trans (h.block i hi hb)⟩
def Sm (D:Nat->TypeId->Prop) (w w':World):Prop:=∀b cs T fz,w.heap[b]? =some (.cells cs T fz)->D b T->w'.heap[b]? =some (.cells cs T fz)
theorem iB {w:World} {b:Nat} {o:Obj} (h:w.heap[b]? =some o):b<w.heap.size:=(jQ.1 h).1
theorem Sm.trans {D:Nat->TypeId->Prop} {a b c:World} (h:Sm D a b) (k:Sm D b c):Sm D a c:=λ_ _ _ _ hh hd=>k _ _ _ _ (h _ _ _ _ hh hd) hd
theorem Sm.ext {D:Nat->TypeId->Prop} {w w':World} (h:Ext w w'):Sm D w w':=λb _ _ _ hh _=>(h.block b (iB hh)).trans hh
def Bk (w:World) (b:Nat) (T:TypeId) (l:List Value):Prop:=w.heap[b]? =some (.cells l.toArray T (0,0))
theorem Bk.lt {w:World} {b:Nat} {T:TypeId} {l:List Value} (h:Bk w b T l):b<w.heap.size:=iB h
theorem Bk.ext {w w':World} {b:Nat} {T:TypeId} {l:List Value} (h:Bk w b T l) (e:Ext w w'):Bk w' b T l:=(e.block b h.lt).trans h
theorem Bk.cell {w:World} {b:Nat} {T:TypeId} {l:List Value} (h:Bk w b T l) {j:Nat} {u:Value} (hj:l[j]? =some u):w.cell? ⟨b,j,none⟩=some u:=by
 simp only[World.cell?]
 rw[show w.heap[b]? =_ from h]
 simpa using hj
def Rd (D:Nat->TypeId->Prop) (w:World) (b o:Nat) (l:List Value):Prop:=l=[]\/∃cs T fz,w.heap[b]? =some (.cells cs T fz)/\D b T/\∀j u,l[j]? =some u->cs[o+j]? =some u
section rd
variable {D D':Nat->TypeId->Prop} {w w':World} {b o:Nat} {l:List Value}
theorem Rd.mono (h:Rd D w b o l) (hD:∀b T,D b T->D' b T):Rd D' w b o l:=by
 rcases h with h|⟨cs,T,fz,hh,hd,hc⟩
 ·exact .inl h
 exact .inr ⟨cs,T,fz,hh,hD _ _ hd,hc⟩
theorem Rd.cell (h:Rd D w b o l) {j:Nat} {u:Value} (hj:l[j]? =some u):w.cell? ⟨b,o+j,none⟩=some u:=by
 rcases h with rfl|⟨cs,T,fz,hh,hd,hc⟩
 ·simp at hj
 simp only[World.cell?,hh]
 simpa using hc j u hj
theorem Rd.drop (h:Rd D w b o l) (k:Nat):Rd D w b (o+k) (l.drop k):=by
 rcases h with rfl|⟨cs,T,fz,hh,hd,hc⟩
 ·exact .inl (by simp)
 refine .inr ⟨cs,T,fz,hh,hd,λj u hj=>?_⟩
 rw[iA]
 exact hc (k+j) u (by rw[<-hj,dL])
theorem Rd.take (h:Rd D w b o l) (k:Nat):Rd D w b o (l.take k):=by
 rcases h with rfl|⟨cs,T,fz,hh,hd,hc⟩
 ·exact .inl (by simp)
 refine .inr ⟨cs,T,fz,hh,hd,λj u hj=>?_⟩
 rw[eY] at hj
 split at hj
 ·exact hc j u hj
 cases hj
end rd
def Sc (D:Nat->TypeId->Prop) (w:World) (size:Nat) (v:Value) (n:Nat) (l:List Value):Prop:=
 ∃A c,v= .slice A n c/\n<=c/\c<=maxLen/\l.length=n*size/\(l=[]\/∃b o,A=some ⟨b,o,none⟩/\Rd D w b o l)
section sc
variable {D D':Nat->TypeId->Prop} {w w':World} {size n:Nat} {v:Value} {l:List Value}
theorem Sc.mono (h:Sc D w size v n l) (hD:∀b T,D b T->D' b T):Sc D' w size v n l:=by
 obtain⟨A,c,rfl,h1,h2,h3,h4⟩:=h
 exact⟨A,c,rfl,h1,h2,h3,h4.imp id λ⟨b,o,e,r⟩=>⟨b,o,e,r.mono hD⟩⟩
theorem Sc.nil:Sc D w size (.slice none 0 0) 0 []:=⟨none,0,rfl,aI _,by simp[maxLen],by simp,.inl rfl⟩
end sc
/-! ### types -/
structure TyI (P:Program) (e:TypeId) (size bytes:Nat) (z:Value):Prop where
 mk'::
 ex:∃i,P.info? e=some i/\i.zero=some z/\i.size=size/\i.bytes=bytes
theorem TyI.of {P:Program} {e:TypeId} {size bytes:Nat} {z:Value} (h:(P.info? e).map (λi=>(i.zero,i.size,i.bytes))=some (some z,size,bytes)):TyI P e size bytes z:=by
 obtain⟨i,h1,h2,h3,h4⟩:=info_parts h
 exact⟨i,h1,h2,h3,h4⟩
def aCi (P:Program) (t:TypeId):Bool:=match P.underlying t with
 |some (.struct _)|some (.array _ _)=>true
 |_=>false
theorem rK {P:Program} {t:TypeId} {d:TypeDesc} (hu:P.underlying t=some d) (w:World):(isAgg t).run P w= .ok (aCi P t) w:=by
 unfold isAgg aCi
 simp only[Sem.run_bind,run_underlying hu,Result.andThen_ok,hu]
 cases d<;>rfl
section ops
variable {P:Program} {f:Nat->Value} {w:World} {dst:Option Tmp} {ty:TypeId} {pos:String} {aft:Array Edge} {g:Option (Nat×Bool)} {x y z:Operand} {t t' e:TypeId}
theorem fN (b o n:Nat):(⟨b,o,none⟩:Addr).add n=⟨b,o+n,none⟩:=by
 unfold Addr.add
 split
 ·simp_all
 rfl
theorem aOr {d:TypeDesc} {p:Addr} {v:Value} (hu:P.underlying t=some d) (hb:aCi P t=false) (hx:ev f x= .pointer (some p)) (hc:w.cell? p=some v):
 (execOp (ev f) ⟨dst,.load t x,ty,pos,aft,g⟩).run P w= .ok (.value v) w:=by
 simp[execOp,hx,Instr.loadAt,Instr.sureAddr,loadVar,rK hu,hb,load,Sem.run,hc]
theorem aSv {d:TypeDesc} {b o:Nat} {cs:List Value} {bytes:Nat} {zz:Value} (hu:P.underlying t=some d) (hb:aCi P t=true) (ht:TyI P t cs.length bytes zz) (hx:ev f x= .pointer (some ⟨b,o,none⟩)) (hc:∀j u,cs[j]? =some u->w.cell? ⟨b,o+j,none⟩=some u):
 (execOp (ev f) ⟨dst,.load t x,ty,pos,aft,g⟩).run P w= .ok (.value (.agg cs.toArray)) w:=by
 obtain⟨i,hi,_,hs,_⟩:=ht.ex
 have h:=run_loadCells_list (P:=P) w (⟨b,o,none⟩:Addr) cs (λj u hj=>by rw[fN];exact hc j u hj)
 simp[execOp,hx,Instr.loadAt,Instr.sureAddr,loadVar,rK hu,hb,sizeOf,typeInfo,hi,hs,h]
theorem bJx {d:TypeDesc} {fs:Array Field} {fl:Field} {i:Nat} {cs:Array Value} {v:Value} (hu:P.underlying t=some (.struct fs)) (hf:fs[i]? =some fl) (hd:P.underlying fl.type=some d) (hb:aCi P fl.type=false)
 (hx:ev f x= .agg cs) (hc:cs[fl.offset]? =some v):(execOp (ev f) ⟨dst,.field t x i,ty,pos,aft,g⟩).run P w= .ok (.value v) w:=by
 simp[execOp,hx,Instr.field,run_underlying hu,hf,asAgg,part,rK hd,hb,hc]
theorem aYu {d:TypeDesc} {fs:Array Field} {fl:Field} {i size bytes:Nat} {zz:Value} {cs:Array Value} (hu:P.underlying t=some (.struct fs)) (hf:fs[i]? =some fl) (hd:P.underlying fl.type=some d) (hb:aCi P fl.type=true) (ht:TyI P fl.type size bytes zz)
 (hx:ev f x= .agg cs):(execOp (ev f) ⟨dst,.field t x i,ty,pos,aft,g⟩).run P w= .ok (.value (.agg (cs.extract fl.offset (fl.offset+size)))) w:=by
 obtain⟨ii,hi,_,hs,_⟩:=ht.ex
 simp[execOp,hx,Instr.field,run_underlying hu,hf,asAgg,part,rK hd,hb,sizeOf,typeInfo,hi,hs]
theorem wN {fs:Array Field} {fl:Field} {i size bytes:Nat} {zz:Value} {b o:Nat} (hu:P.underlying t=some (.struct fs)) (hf:fs[i]? =some fl) (ht:TyI P fl.type (size+1) bytes zz) (hx:ev f x= .pointer (some ⟨b,o,none⟩)):
 (execOp (ev f) ⟨dst,.fieldAddr t x i,ty,pos,aft,g⟩).run P w= .ok (.value (.pointer (some ⟨b,o+fl.offset,none⟩))) w:=by
 obtain⟨ii,hi,_,hs,_⟩:=ht.ex
 simp[execOp,hx,Instr.fieldAt,Instr.sureAddr,run_underlying hu,hf,fieldPlace,sizeOf,typeInfo,hi,hs,fN]
theorem sX {k:IntKind} {i:Int} {b o n c size bytes:Nat} {zz:Value} (hu:P.underlying t=some (.slice e)) (ht:TyI P e size bytes zz) (hx:ev f x= .slice (some ⟨b,o,none⟩) n c) (hy:ev f y= .int k i) (h0:0<=i) (h1:i<n):
 (execOp (ev f) ⟨dst,.indexAddr t x y,ty,pos,aft,g⟩).run P w= .ok (.value (.pointer (some ⟨b,o+i.toNat*size,none⟩))) w:=by
 obtain⟨ii,hi,_,hs,_⟩:=ht.ex
 simp[execOp,hx,hy,Instr.indexAt,asIntOf,run_underlying hu,sizeOf,typeInfo,hi,hs,h0,h1,fN]
theorem aGj {k:IntKind} {A:Option Addr} {n c size bytes:Nat} {h:Int} {zz:Value} (hu:P.underlying t=some (.slice e)) (ht:TyI P e size bytes zz) (hx:ev f x= .slice A n c) (hy:ev f y= .int k h) (h0:0<=h) (h1:h<=c):
 (execOp (ev f) ⟨dst,.slice t x none (some y) none,ty,pos,aft,g⟩).run P w= .ok (.value (.slice A h.toNat c)) w:=by
 obtain⟨ii,hi,_,hs,_⟩:=ht.ex
 have hz:∀o:Option Addr,(o.map λa=>a.add 0)=o:=λo=>by cases o<;>simp[Addr.add]
 simp[execOp,hx,hy,Instr.sliceAt,Instr.slice,Instr.sliceBounds,Instr.sliceBound,asIntOf,run_underlying hu,sizeOf,typeInfo,hi,hs,h0,h1,hz]
theorem aGk {k:IntKind} {A:Option Addr} {n c size bytes:Nat} {l:Int} {zz:Value} (hu:P.underlying t=some (.slice e)) (ht:TyI P e size bytes zz) (hx:ev f x= .slice A n c) (hy:ev f y= .int k l) (h0:0<=l) (h1:l<=n):
 (execOp (ev f) ⟨dst,.slice t x (some y) none none,ty,pos,aft,g⟩).run P w= .ok (.value (.slice (if c=l.toNat then A else A.map (·.add (l.toNat*size))) (n-l.toNat) (c-l.toNat))) w:=by
 obtain⟨ii,hi,_,hs,_⟩:=ht.ex
 simp[execOp,hx,hy,Instr.sliceAt,Instr.slice,Instr.sliceBounds,Instr.sliceBound,asIntOf,run_underlying hu,sizeOf,typeInfo,hi,hs,h0,h1]
theorem aOs {k k':IntKind} {A:Option Addr} {n c size bytes:Nat} {l h:Int} {zz:Value} (hu:P.underlying t=some (.slice e)) (ht:TyI P e size bytes zz) (hx:ev f x= .slice A n c) (hy:ev f y= .int k l) (hz:ev f z= .int k' h) (h0:0<=l) (h1:l<=h) (h2:h<=c):
 (execOp (ev f) ⟨dst,.slice t x (some y) (some z) none,ty,pos,aft,g⟩).run P w= .ok (.value (.slice (if c=l.toNat then A else A.map (·.add (l.toNat*size))) (h.toNat-l.toNat) (c-l.toNat))) w:=by
 obtain⟨ii,hi,_,hs,_⟩:=ht.ex
 have h3:0<=h:=by omega
 have h4:l<=(h.toNat:Int):=by omega
 simp[execOp,hx,hy,hz,Instr.sliceAt,Instr.slice,Instr.sliceBounds,Instr.sliceBound,asIntOf,run_underlying hu,sizeOf,typeInfo,hi,hs,h0,h1,h2,h3]
 intro hh
 omega
end ops
/-! ### operations that make or write memory -/
def Run (P:Program) (f:Nat->Value) (o:Oper) (w:World) (R:Value->World->Prop):Prop:=∃v w',(execOp (ev f) o).run P w= .ok (.value v) w'/\R v w'
def cOl (P:Program) (f:Nat->Value) (o:Oper) (w:World) (R:World->Prop):Prop:=∃w',(execOp (ev f) o).run P w= .ok .skip w'/\R w'
section
variable {P:Program} {n:Nat} {Q:Po} {f:Nat->Value} {w w':World} {ops:Array Oper} {o:Oper} {rest:List Oper} {d:Nat} {R:Value->World->Prop} {R0:World->Prop}
theorem RL.run (hg:o.guard=none) (hd:o.dst=some d) (hn:d<n) (hr:Run P f o w R) (h:∀v w',R v w'->RL P n ops rest Q (st f d v) w'):RL P n ops (o::rest) Q f w:=by
 obtain⟨v,w',hr,hR⟩:=hr
 exact RL.val hg hd hn hr (h v w' hR)
variable {S:World->Prop} {fuel:Nat} {listed:Array Bool} {i:Nat} {rs:List Nat}
theorem RS.run (hi:ops[i]? =some o) (hg:o.guard=none) (hd:o.dst=some d) (hn:d<n) (hr:Run P f o w R) (h:∀v w',R v w'->Oks ops S i w w'/\RA P n ops Q S fuel (listed.setIfInBounds i true) (st f d v) w')
 (hs:RS P n ops Q S fuel listed f w rs):RS P n ops Q S fuel listed f w (i::rs):=by
 obtain⟨v,w',hr,hR⟩:=hr
 exact RS.val hi hg hd hn hr (h v w' hR).1 (h v w' hR).2 hs
end
def spl (l:List Value) (o:Nat) (vs:List Value):List Value:=l.take o++vs++l.drop (o+vs.length)
section heavy
variable {P:Program} {f:Nat->Value} {w:World} {dst:Option Tmp} {ty:TypeId} {pos:String} {aft:Array Edge} {g:Option (Nat×Bool)} {x y z:Operand} {t t' e:TypeId}
theorem oF (w:World) (o:Obj):Ext w (w.alloc o):=(Below.refl _ _).alloc (aI _) o
theorem zK (w:World) (T:TypeId) (l:List Value):Bk (w.alloc (.cells l.toArray T)) w.heap.size T l:=heap_alloc_new w _
def Mk (w:World) (T:TypeId) (l:List Value) (b:Nat) (w':World):Prop:=b=w.heap.size/\Bk w' b T l/\Ext w w'
theorem cEx {vv:Value} {cs:List Value} (hx:ev f x=vv) (hc:vv.cells=cs.toArray):Run P f ⟨dst,.box t x,ty,pos,aft,g⟩ w λv w'=>∃b,v= .pointer (some ⟨b,0,none⟩)/\Mk w t cs b w':=
 ⟨_,_,by simp[execOp,hx,Instr.box,newVar,newRow,hc],_,rfl,rfl,zK w t cs,oF w _⟩
theorem bJy {size bytes:Nat} {zz:Value} {cs:List Value} (ht:TyI P t size bytes zz) (hc:zz.cells=cs.toArray):Run P f ⟨dst,.alloc t,ty,pos,aft,g⟩ w λv w'=>∃b,v= .pointer (some ⟨b,0,none⟩)/\Mk w t cs b w':=by
 obtain⟨i,hi,hz,_,_⟩:=ht.ex
 exact⟨_,_,by simp[execOp,Instr.alloc,zeroValue,typeInfo,hi,hz,newVar,newRow,hc],_,rfl,rfl,zK w t cs,oF w _⟩
theorem uS (w:World) (b:Nat) (cs:Array Value):Exc b w (w.setRow b cs):=
 ⟨rfl,rfl,rfl,by simp[World.setRow],λk _ hne=>by simp[World.setRow,Array.getElem?_modify,gE hne]⟩
theorem bJz {T:TypeId} {b o:Nat} {l:List Value} {vv:Value} {cs:List Value} {size bytes:Nat} {zz:Value} (ht:TyI P t size bytes zz) (hx:ev f x= .pointer (some ⟨b,o,none⟩)) (hy:ev f y=vv) (hc:vv.cells=cs.toArray) (hs:cs.length=size)
 (h1:∀u∈cs,u.oneCell'=true) (hb:Bk w b T l) (hfit:o+cs.length<=l.length):
 cOl P f ⟨dst,.store t x y,ty,pos,aft,g⟩ w λw'=>Bk w' b T (spl l o cs)/\Exc b w w'/\w'.heap.size=w.heap.size:=by
 obtain⟨i,hi,_,hsz,_⟩:=ht.ex
 have hst:=run_storeCells_at P b o T cs 0 l.toArray w hb (by simpa using hfit) h1
 simp only[gO] at hst
 refine⟨w.setRow b (spl l o cs).toArray,?_,?_,uS _ _ _,by simp[World.setRow]⟩
 ·simp[execOp,hx,hy,Instr.storeAt,Instr.sureAddr,storeVar,hc,hs,hsz,sizeOf,typeInfo,hi,hst,spl]
 exact setRow_heap w b l.toArray _ T (0,0) hb
end heavy
section calls
variable {P:Program} {n:Nat} {f:Nat->Value} {w:World}
def bTb (P:Program) (f:Nat->Value) (w:World):ResultVar->Value->Prop
 |.tmp t,v=>v=f t
 |.cell a T,v=>∃b o cs,f a= .pointer (some ⟨b,o,none⟩)/\(∃d,P.underlying T=some d)/\(∀j u,cs[j]? =some u->w.cell? ⟨b,o+j,none⟩=some u)/\
  ((aCi P T=true/\(∃by' z,TyI P T cs.length by' z)/\v= .agg cs.toArray)\/(aCi P T=false/\cs=[v]))
def aOt (P:Program) (f:Nat->Value) (w:World):List ResultVar->List Value->Prop
 |[],[]=>True
 |r::rs,v::vs=>bTb P f w r v/\aOt P f w rs vs
 |_,_=>False
def aOu:List Value->Value
 |[v]=>v
 |vs=> .tuple vs.toArray
def rdv (tmps:Array Value):ResultVar->Sem Value
 |.tmp t=>pure (tmps.getD t undef)
 |.cell ad T=>do loadVar T (<-asAddr (tmps.getD ad undef))
theorem aYv {dl:List Deferred} {a:Act} (ha:Fm dl n f a) {r:ResultVar} {v:Value} (h:bTb P f w r v):
 (rdv a.tmps r).run P w= .ok v w:=by
 cases r with
 |tmp t=>
  have h':v=f t:=h
  rw[h',<-ha.2.2 t]
  rfl
 |cell ad T=>
  obtain⟨b,o,cs,h1,⟨d,hd⟩,h2,h3⟩:=h
  have e:=ha.2.2 ad
  rw[h1] at e
  simp only[rdv,e]
  have hl:=run_loadCells_list (P:=P) w (⟨b,o,none⟩:Addr) cs (λj u hj=>by rw[fN];exact h2 j u hj)
  rcases h3 with ⟨hb,⟨by',z,ht⟩,rfl⟩|⟨hb,rfl⟩
  ·obtain⟨i,hi,_,hs,_⟩:=ht.ex
   simp[asAddr,loadVar,rK hd,hb,sizeOf,typeInfo,hi,hs,hl]
  have hc:=h2 0 v rfl
  simp only[gO] at hc
  simp[asAddr,loadVar,rK hd,hb,load,Sem.run,hc]
theorem aLu {dl:List Deferred} {a:Act} (ha:Fm dl n f a):∀{rs:List ResultVar} {vs:List Value},aOt P f w rs vs->
 (rs.mapM (rdv a.tmps)).run P w= .ok vs w
 |[],[],_=>by simp
 |r::rs,v::vs,h=>by
  have h1:=aYv ha h.1
  have h2:=aLu ha h.2
  rw[List.mapM_cons]
  simp only[Sem.run_bind,h1,h2,Result.andThen_ok,Sem.run_pure]
 |[],_::_,h=>h.elim
 |_::_,[],h=>h.elim
theorem aYw {k:FuncId} {fn:Func} {c:Code} {args:Array Value} {rs:List ResultVar} {R:Value->World->Prop} (hf:P.funcs[k]? =some fn) (hb:fn.body=some c) (hn:fn.ntmps=n) (hr:fn.results=rs.toArray) (hsz:args.size<=n)
 (h:WP P n c ⟨λf w=>∃vs,aOt P f w rs vs/\R (aOu vs) w,λ_ _ _=>False,λf w=>∃vs,aOt P f w rs vs/\R (aOu vs) w⟩ (λi=>args.getD i undef) w):
 Calls P k args w λe w'=>∃v,e= .returned v/\R v w':=by
 have ha0:Fm [] n (λi=>args.getD i undef) {tmps:=args++Array.replicate (fn.ntmps-args.size) undef,defers:=[]}:=by
  refine⟨rfl,by simp[hn];omega,λi=>?_⟩
  by_cases h1:i<args.size
  ·simp[Array.getD,h1,Array.getElem_append_left,bN h1 (nM _ _)]
  by_cases h2:i<n
  ·have h3:i<args.size+(fn.ntmps-args.size):=by omega
   simp only[Array.getD,Array.size_append,Array.size_replicate,h3,h1,dite_true,dite_false]
   simp[Array.getElem_append,h1]
  have h3:¬i<args.size+(fn.ntmps-args.size):=by omega
  simp only[Array.getD,Array.size_append,Array.size_replicate,h3,h1,dite_false]
 have fin:∀(a:Act) (f:Nat->Value) (w:World),Fm [] n f a->(∃vs,aOt P f w rs vs/\R (aOu vs) w)->a.defers=[]/\∃v,(results fn a.tmps).run P w= .ok v w/\∃u,Ending.returned v= .returned u/\R u w:=by
  intro a f w ha ⟨vs,hv,hR⟩
  refine⟨ha.1,aOu vs,?_,_,rfl,hR⟩
  have h1:=aLu ha hv
  have e:results fn a.tmps=(do let vs <-fn.results.mapM (rdv a.tmps);pure (if h:vs.size=1 then vs[0] else .tuple vs)):=rfl
  rw[e,hr,List.mapM_toArray]
  simp only[Sem.run_bind,Sem.run_map,h1,Result.andThen_ok,Sem.run_pure]
  congr 1
  match vs with
  |[]=>rfl
  |[v]=>rfl
  |v::u::vs=>simp[aOu]
 refine calls_of_wp hf hb (wp_mono (wpIn_wide.1 (h none [] _ ha0)) λe a w hq=>?_)
 cases e with
 |normal=>obtain⟨f,hf,hh⟩:=hq;exact fin a f w hf hh
 |ret=>obtain⟨f,hf,hh⟩:=hq;exact fin a f w hf hh
 |exit i=>obtain⟨f,hf,hh⟩:=hq;exact hh.elim
 |goto l=>exact hq.elim
 |panic c=>exact hq.elim
 |outgrown=>exact hq.elim
end calls
def Off (M:List Nat) (F f:Nat->Value):Prop:=∀i,M.contains i=false->f i=F i
theorem Off.st {M:List Nat} {F f:Nat->Value} (h:Off M F f) {d:Nat} (hd:M.contains d=true) (v:Value):Off M F (st f d v):=λi hi=>by
 have hne:i≠d:=λe=>by subst e;rw[hd] at hi;cases hi
 rw[pY _ _ _ _ hne]
 exact h i hi
theorem Off.eq {M:List Nat} {G F f:Nat->Value} (hF:∀i,F i=f i) (h:Off M G f):Off M G F:=λi hi=>(hF i).trans (h i hi)
theorem aGl (z:Array Value) (n:Nat):(madeCells z (n*z.size)).toList=(List.replicate n z.toList).flatten:=by
 induction n with
 |zero=>simp[madeCells]
 |succ n ih=>
  rw[nE,kY,<-ih]
  apply iN
  ·simp[madeCells,dJ]
  intro i h1 h2
  simp only[madeCells,Array.toList_map,Array.toList_range,pS,List.getElem_range,mU,List.flatten_nil,dG] at*
  by_cases hi:i<n*z.size
  ·rw[tW (by simpa using hi)]
   simp
  rw[sS (by simpa using hi)]
  simp only[aN,fJ]
  have h3:i<n*z.size+z.size:=by simpa[madeCells,dJ] using h1
  have h4:i%z.size=i-n*z.size:=by
   obtain⟨k,rfl⟩:∃k,i=n*z.size+k:=⟨i-n*z.size,by omega⟩
   rw[bO,Nat.mul_add_mod,cS oM]
   omega
  rw[h4,getElem!_pos z (i-n*z.size) oM]
  simp
theorem aWy {b n:Nat} (h:b*n<=281474976710656):(b:Int)*(n:Int)<=281474976710656:=by
 have:((b*n:Nat):Int)<=281474976710656:=by omega
 rwa [gD] at this
section heavy
variable {P:Program} {f:Nat->Value} {w:World} {dst:Option Tmp} {ty:TypeId} {pos:String} {aft:Array Edge} {g:Option (Nat×Bool)} {x y z:Operand} {t t' e:TypeId} {D:Nat->TypeId->Prop}
theorem aYx {k k':IntKind} {n c:Nat} {zz:Value} {size bytes:Nat} (hu:P.underlying t=some (.slice e)) (ht:TyI P e size bytes zz) (hz:zz.cells.size=size) (hx:ev f x= .int k (n:Int)) (hy:ev f y= .int k' (c:Int)) (hnc:n<=c) (hb:bytes*c<=281474976710656) (h63:c<=9223372036854775807):
 Run P f ⟨dst,.makeSlice t x y,ty,pos,aft,g⟩ w λv w'=>∃b,v= .slice (some ⟨b,0,none⟩) n c/\Mk w e (List.replicate c zz.cells.toList).flatten b w':=by
 obtain⟨i,hi,hzi,hs,hby⟩:=ht.ex
 have hr:=run_make (P:=P) w t e i zz hu hi hzi k k' n c oM oM (by rw[hby];exact aWy hb) oM
 simp only[cL,hs,<-hz] at hr
 refine⟨.slice (some ⟨w.heap.size,0,none⟩) n c,w.alloc (.cells (madeCells zz.cells (c*zz.cells.size)) e),by simp only[execOp,hx,hy,Sem.run_bind,hr,Result.andThen_ok,Sem.run_pure],_,rfl,rfl,?_,oF w _⟩
 have h:=zK w e (List.replicate c zz.cells.toList).flatten
 rw[<-aGl] at h ⊢
 simpa using h
theorem cEy {len size bytes:Nat} {zz:Value} {al:List (Nat×Operand)} {vl:List (Nat×Value)} {cs:List Value} (hu:P.underlying t=some (.slice e)) (ht:TyI P e size bytes zz) (ha:al.map (λp=>(p.1,ev f p.2))=vl) (hbig:len*size<=16777216)
 (hf:Instr.fill (λi=>some (i*size,size)) ((Array.range (len*size)).map ((if len*size=0 then #[] else zz.cells)[·%(if len*size=0 then #[] else zz.cells).size]!)) vl=some cs.toArray):
 Run P f ⟨dst,.buildSlice t len al.toArray,ty,pos,aft,g⟩ w λv w'=>∃b,v= .slice (some ⟨b,0,none⟩) len len/\Mk w e cs b w':=by
 obtain⟨i,hi,hzi,hs,hby⟩:=ht.ex
 subst ha
 have hn:¬(16777216<len*size):=by omega
 refine⟨.slice (some ⟨w.heap.size,0,none⟩) len len,w.alloc (.cells cs.toArray e),?_,_,rfl,rfl,zK w e cs,oF w _⟩
 by_cases h0:len*size=0
 ·simp only[h0,if_true] at hf
  simp[execOp,Instr.buildSlice,run_underlying hu,sizeOf,typeInfo,hi,hs,h0,newRow]
  try simp at hf
  simp[hf]
 simp only[h0,if_false] at hf
 simp[execOp,Instr.buildSlice,run_underlying hu,sizeOf,typeInfo,hi,hs,h0,hn,zeroValue,hzi,newRow]
 try simp at hf
 simp[hf]
theorem bKa {al:List (Nat×Operand)} {vl:List (Nat×Value)} {fs:Array Field} {pl:Array (Nat×Nat)} {zz:Value} {size bytes:Nat} {cs:List Value} (hu:P.underlying t=some (.struct fs)) (ht:TyI P t size bytes zz) (ha:al.map (λp=>(p.1,ev f p.2))=vl)
 (hp:∀w,(fs.mapM λ(fl:Field)=>(do pure (fl.offset,<-sizeOf fl.type):Sem (Nat×Nat))).run P w= .ok pl w) (hf:Instr.fill (pl[·]?) zz.cells vl=some cs.toArray):
 (execOp (ev f) ⟨dst,.build t al.toArray,ty,pos,aft,g⟩).run P w= .ok (.value (.agg cs.toArray)) w:=by
 obtain⟨i,hi,hzi,hs,hby⟩:=ht.ex
 subst ha
 have hzv:(zeroValue t).run P w= .ok zz w:=by simp[zeroValue,typeInfo,hi,hzi]
 simp only[execOp,Instr.build,Sem.run_bind,hzv,Result.andThen_ok,run_underlying hu,hp,List.map_toArray]
 rw[hf]
 simp
/-! append onto a slice of one's own -/
abbrev Ow (w:World) (lo:Nat) (e:TypeId) (size:Nat) (v:Value) (n:Nat) (l:List Value):Prop:=w.ownsRow lo e size v n l
theorem Ow.below {w0 w':World} {B lo size n:Nat} {v:Value} {l:List Value} (h:Ow w lo e size v n l) (hg:w.grownBy w' v.ownBlock) (hE:Below B w0 w) (hB:B<=lo) (hs:B<=w.heap.size):Below B w0 w':=
 hE.grown hg hs (λk hk=>by have:=h.lt k hk;omega)
theorem Ow.ext {w':World} {lo size n:Nat} {v:Value} {l:List Value} (h:Ow w lo e size v n l) (hE:Ext w w'):Ow w' lo e size v n l:=
 h.kept (row:=none) ⟨hE.os,hE.tape,hE.output,hE.size,λk hk _=>hE.block k hk⟩ (by cases hv:v.ownBlock<;>simp)
theorem Ow.mono {lo lo' size n:Nat} {v:Value} {l:List Value} (h:Ow w lo e size v n l) (hl:lo'<=lo):Ow w lo' e size v n l:=by
 refine⟨h.1,h.2.imp id ?_⟩
 rintro⟨b,cap,cur,h1,h2,h3⟩
 exact⟨b,cap,cur,h1,by omega,h3⟩
theorem Ow.nil (lo size:Nat):Ow w lo e size (.slice none 0 0) 0 []:=⟨by simp,.inl ⟨rfl,rfl⟩⟩
end heavy
end Go.Vg
namespace Go.Vg
open Go.RowKit
def Sg {α:Type} (g:α->Value) (D:Nat->TypeId->Prop) (w:World) (v:Value) (xs:List α):Prop:=Sc D w 1 v xs.length (xs.map g)
def Ar {α:Type} (g:α->Value) (w:World) (b:Nat) (T:TypeId) (o:Nat) (xs:List α) (n:Nat):Prop:=(∃pre post,pre.length=o/\Bk w b T (pre++xs.map g++post))/\xs.length=n
section
variable {α:Type} {g:α->Value} {D D':Nat->TypeId->Prop} {w w':World} {v:Value} {xs:List α} {b n:Nat} {T:TypeId}
theorem Sg.mono (h:Sg g D w v xs) (hD:∀b T,D b T->D' b T):Sg g D' w v xs:=Sc.mono h hD
theorem Sg.nil:Sg g D w (.slice none 0 0) []:=Sc.nil
theorem Sg.take (h:Sg g D w v xs) (k:Nat) (hk:k<=xs.length) {A:Option Addr} {m c:Nat} (hv:v= .slice A m c):Sg g D w (.slice A k c) (xs.take k):=by
 obtain⟨A',c',rfl,h1,h2,h3,h4⟩:=h
 injection hv with e1 e2 e3
 subst e1 e2 e3
 have hl:(xs.take k).length=k:=by simp[hk]
 refine⟨A',c',by rw[hl],by omega,h2,by simp,?_⟩
 rcases h4 with h4|⟨bb,o,rfl,hr⟩
 ·have:xs=[]:=rA.1 h4
  subst this
  exact .inl (by simp)
 exact .inr ⟨bb,o,rfl,by rw[tX];exact hr.take k⟩
theorem Sg.drop (h:Sg g D w v xs) (k:Nat) (hk:k<=xs.length) {A:Option Addr} {m c:Nat} (hv:v= .slice A m c):Sg g D w (.slice (if c=k then A else A.map (·.add (k*1))) (m-k) (c-k)) (xs.drop k):=by
 obtain⟨A',c',rfl,h1,h2,h3,h4⟩:=h
 injection hv with e1 e2 e3
 subst e1 e2 e3
 have hl:(xs.drop k).length=xs.length-k:=by simp
 refine⟨_,_,by rw[hl],by omega,by omega,by simp,?_⟩
 by_cases hx:xs.drop k=[]
 ·exact .inl (by rw[hx];rfl)
 rcases h4 with h4|⟨bb,o,rfl,hr⟩
 ·have:xs=[]:=rA.1 h4
  subst this
  exact absurd (by simp) hx
 have hlt:k<xs.length:=by
  rcases eC k xs.length with h|h
  ·exact h
  exact absurd (cH h) hx
 rw[if_neg oM]
 refine .inr ⟨bb,o+k,?_,by rw[pX];exact hr.drop k⟩
 simp[fN]
theorem Ar.ext {o:Nat} (h:Ar g w b T o xs n) (e:Ext w w'):Ar g w' b T o xs n:=by
 obtain⟨⟨pre,post,h1,h2⟩,h3⟩:=h
 exact⟨⟨pre,post,h1,h2.ext e⟩,h3⟩
theorem Ar.lt {o:Nat} (h:Ar g w b T o xs n):b<w.heap.size:=by
 obtain⟨⟨pre,post,h1,h2⟩,h3⟩:=h
 exact h2.lt
theorem Ar.cell [Inhabited α] {o:Nat} (h:Ar g w b T o xs n) {i:Int} (k:Nat) (hi:i=(k:Int)) (hk:k<n):w.cell? ⟨b,o+i.toNat*1,none⟩=some (g (xs.getD k default)):=by
 obtain⟨⟨pre,post,h1,h2⟩,h3⟩:=h
 subst hi h1
 have hk':k<xs.length:=by rw[h3];exact hk
 refine h2.cell (j:=pre.length+(k:Int).toNat*1) ?_
 rw[cL,bI,cU,bR oM]
 rw[fX,bA (by simpa using hk')]
 simp[hk']
end
end Go.Vg
namespace Go.Vg
theorem Ent.of {P:Program} {k:FuncId} {fn:Func} (hf:P.funcs[k]? =some fn) (hb:fn.body.isNone=false) (hn:(fn.name== "runtime.NumGoroutine")=false):Ent P k:=λargs w=>by
 unfold callFunc
 simp only[Sem.run_bind]
 rw[show(program).run P w= .ok P w from rfl]
 simp only[Result.andThen_ok,hf,hn,hb,iO,if_false,Sem.run_pure]
theorem Bk.cells {w:World} {b:Nat} {T:TypeId} {l:List Value} (h:Bk w b T l) {o:Nat} {cs:List Value} (hc:(l.drop o).take cs.length=cs):∀j u,cs[j]? =some u->w.cell? ⟨b,o+j,none⟩=some u:=λj u hj=>by
 refine h.cell ?_
 rw[<-hc,eY] at hj
 split at hj
 ·rwa [dL] at hj
 cases hj
end Go.Vg
abbrev aU := @Go.Vg.Ent.of
namespace Go.Vg
open Go.RowKit
def Ss {α:Type} (c:α->List Value) (size:Nat) (D:Nat->TypeId->Prop) (w:World) (v:Value) (xs:List α):Prop:=
 (0<size/\∀x∈xs,(c x).length=size)/\Sc D w size v xs.length (xs.map c).flatten
section
variable {α:Type} {c:α->List Value} {size:Nat} {D D':Nat->TypeId->Prop} {w w':World} {v:Value} {xs:List α}
theorem Ss.mono (h:Ss c size D w v xs) (hD:∀b T,D b T->D' b T):Ss c size D' w v xs:=⟨h.1,h.2.mono hD⟩
theorem Ss.nil (hs:0<size):Ss c size D w (.slice none 0 0) []:=⟨⟨hs,by simp⟩,Sc.nil⟩
end
section
variable {P:Program} {f:Nat->Value} {w w':World} {dst:Option Tmp} {ty:TypeId} {pos:String} {aft:Array Edge} {gd:Option (Nat×Bool)} {x y z:Operand} {t t' e:TypeId} {D:Nat->TypeId->Prop}
theorem aYy {A:Option Addr} {n c:Nat} (ht:P.underlying t=some (.slice e)) (hx:ev f x= .slice A n c) (hy:ev f y= .slice none 0 0):(execOp (ev f) ⟨dst,.binOp .eql t x y t',ty,pos,aft,gd⟩).run P w= .ok (.value (.bool A.isNone)) w:=by
 have h:(Op.equalIn (9999+1) t (.slice A n c) (.slice none 0 0)).run P w= .ok A.isNone w:=by
  exact Lib.run_equalIn_slice_nil w 9999 t e A n c 0 0 ht
 simp only[execOp,hx,hy,eqGuard,binOp]
 simp[Op.equal,Op.maxDepth,h]
end
theorem Exc.below {b B:Nat} {w0 w:World} (h:Exc b w0 w) (hb:B<=b) (hB:B<=w0.heap.size):Below B w0 w:=⟨h.os,h.tape,h.output,h.size,λk hk=>h.block k oM oM⟩
theorem Exc.ext {b:Nat} {w0 w:World} (h:Exc b w0 w) (hb:w0.heap.size<=b):Ext w0 w:=h.below hb (aI _)
end Go.Vg
namespace Go.Vm
variable {α:Type}
def Srt (key:α->Int) (l:List α):Prop:=l.Pairwise λx y=>key x<=key y
def StE (key:α->Int) (l l':List α):Prop:=∀k:Int,l.filter (λx=>key x==k)=l'.filter (λx=>key x==k)
theorem StE.symm {key:α->Int} {l l':List α} (h:StE key l l'):StE key l' l:=λk=>(h k).symm
theorem StE.trans {key:α->Int} {a b c:List α} (h:StE key a b) (h':StE key b c):StE key a c:=λk=>(h k).trans (h' k)
theorem StE.mem {key:α->Int} {l l':List α} (h:StE key l l') {x:α} (hx:x∈l):x∈l':=by
 have h1:x∈l.filter (λy=>key y==key x):=by rw[qQ];exact⟨hx,by simp⟩
 rw[h (key x),qQ] at h1
 exact h1.1
theorem StE.length {key:α->Int} {l l':List α} (h:StE key l l'):l.length=l'.length:=by
 suffices H:∀n (l l':List α),l.length<=n->StE key l l'->l.length=l'.length from H l.length l l' (aI _) h
 intro n
 induction n with
 |zero=>
  intro l l' hn h
  have hl:l=[]:=bQ oM
  subst hl
  cases l' with
  |nil=>rfl
  |cons y t=>have:=h.symm.mem (x:=y) (by simp);simp at this
 |succ n ih=>
  intro l l' hn h
  cases l with
  |nil=>
   cases l' with
   |nil=>rfl
   |cons y t=>have:=h.symm.mem (x:=y) (by simp);simp at this
  |cons x t=>
   have part:∀m:List α,m.length=(m.filter (λy=>key y==key x)).length+(m.filter (λy=>!(key y==key x))).length:=λm=>by
    induction m with
    |nil=>rfl
    |cons a m ihm=>
     by_cases ha:key a==key x
     ·simp[lM,ha];omega
     simp[lM,ha];omega
   rw[part (x::t),part l',h (key x)]
   congr 1
   refine ih _ _ ?_ ?_
   ·have:=List.length_filter_le (λy=>!(key y==key x)) t
    simp[lM] at*
    omega
   intro k
   rw[sF,sF]
   by_cases hk:k=key x
   ·have e:∀m:List α,m.filter (λa=>(key a==k)&&!(key a==key x))=[]:=λm=>by
     rw[List.filter_eq_nil_iff];intro a _;simp;intro h1;rw[h1,hk]
    rw[e,e]
   have e:∀m:List α,m.filter (λa=>(key a==k)&&!(key a==key x))=m.filter (λa=>key a==k):=λm=>by
    apply tI
    intro a _
    by_cases h1:key a=k
    ·simp[h1,hk]
    simp[h1]
   rw[e,e]
   exact h k
theorem Srt.le {key:α->Int} {a b:List α} (h:Srt key (a++b)) {x y:α} (hx:x∈a) (hy:y∈b):key x<=key y:=(eR.1 h).2.2 x hx y hy
theorem Srt.nil (key:α->Int):Srt key []:=List.Pairwise.nil
theorem aWz [Inhabited α] (l:List α) (k:Nat) (h:k<l.length):l.drop k=l.getD k default::l.drop (k+1):=by
 rw[dX h]
 simp[h]
theorem aGm [Inhabited α] (l:List α) (k:Nat) (h:k<l.length):l.take (k+1)=l.take k++[l.getD k default]:=by
 rw[List.take_succ_eq_append_getElem h]
 simp[h]
theorem aYz [Inhabited α] (l:List α) (k:Nat) (h:k<l.length):l.getD k default∈l:=by simp[h]
theorem Srt.at {key:α->Int} [Inhabited α] {l:List α} (h:Srt key l) {i j:Nat} (hij:i<=j) (hj:j<l.length):key (l.getD i default)<=key (l.getD j default):=by
 rcases eC i j with h1|h1
 ·have:=gG.1 h i j oM hj h1
  simpa[hj,show i<l.length by omega] using this
 have:i=j:=by omega
 subst this
 exact Int.le_refl _
theorem Srt.take {key:α->Int} {l:List α} (h:Srt key l) (p:Nat):Srt key (l.take p):=List.Pairwise.sublist (iE p l) h
theorem Srt.drop {key:α->Int} {l:List α} (h:Srt key l) (p:Nat):Srt key (l.drop p):=List.Pairwise.sublist (List.drop_sublist p l) h
def Blk (key:α->Int) (z:Nat) (l:List α):Prop:=∀q,Srt key ((l.drop (q*z)).take z)
theorem Blk.nil (key:α->Int) (z:Nat):Blk key z ([]:List α):=λq=>by simp;exact Srt.nil _
theorem Blk.at {key:α->Int} {z:Nat} {l:List α} (h:Blk key z l) {e:Nat} (he:∃k,e=k*z):Srt key ((l.drop e).take z):=by
 obtain⟨k,rfl⟩:=he
 exact h k
theorem Blk.rest {key:α->Int} {z:Nat} {l:List α} (h:Blk key z l) {e:Nat} (he:∃k,e=k*z) (hl:l.length<=e+z):Srt key (l.drop e):=by
 have:=h.at he
 rwa [cB (by simp;omega)] at this
end Go.Vm
namespace Go.Vm
def val:List Nat->Nat
 |[]=>0
 |x::xs=>x+4294967296*val xs
def Lm (xs:List Nat):Prop:=∀x∈xs,x<4294967296
def yN:Nat->Nat->List Nat
 |0,_=>[]
 |f+1,n=>if n=0 then [] else (n%4294967296)::yN f (n/4294967296)
def dE (n:Nat):List Nat:=yN n n
def len (n:Nat):Nat:=(dE n).length
theorem aGn:∀(f g n:Nat),n<=f->n<=g->yN f n=yN g n
 |0,0,_,_,_=>rfl
 |0,g+1,n,h,_=>by have:n=0:=by omega
                  subst this;simp[yN]
 |f+1,0,n,_,h=>by have:n=0:=by omega
                  subst this;simp[yN]
 |f+1,g+1,n,h1,h2=>by
  by_cases h0:n=0
  ·simp[yN,h0]
  simp only[yN,h0,if_false]
  rw[aGn f g (n/4294967296) oM oM]
theorem rL:dE 0=[]:=rfl
theorem pZ {n:Nat} (h:n≠0):dE n=(n%4294967296)::dE (n/4294967296):=by
 obtain⟨m,rfl⟩:∃m,n=m+1:=⟨n-1,by omega⟩
 show yN (m+1) (m+1)=_
 simp only[yN,h,if_false]
 rw[aGn m ((m+1)/4294967296) _ oM oM]
 rfl
theorem zL (n:Nat):val (dE n)=n:=by
 induction n using Nat.strongRecOn with
 |ind n ih=>
  by_cases h:n=0
  ·subst h;rfl
  rw[pZ h]
  show n%4294967296+4294967296*val (dE (n/4294967296))=n
  rw[ih _ oM]
  omega
theorem aHs (n:Nat):Lm (dE n):=by
 induction n using Nat.strongRecOn with
 |ind n ih=>
  by_cases h:n=0
  ·subst h;intro x hx;rw[rL] at hx;cases hx
  rw[pZ h]
  intro x hx
  rcases bZ.1 hx with rfl|hx
  ·exact dM _ dC
  exact ih _ oM x hx
theorem mY (a b:List Nat):val (a++b)=val a+4294967296^a.length*val b:=by
 induction a with
 |nil=>simp[val]
 |cons x a ih=>
  show x+4294967296*val (a++b)=x+4294967296*val a+4294967296^(a.length+1)*val b
  rw[ih,eD,dD,bO (4294967296^a.length) 4294967296,bS]
  omega
theorem kD (a:List Nat) (x:Nat):val (a++[x])=val a+4294967296^a.length*x:=by
 rw[mY];simp[val]
theorem jL {a:List Nat} (h:Lm a):val a<4294967296^a.length:=by
 induction a with
 |nil=>simp[val]
 |cons x a ih=>
  have h1:=ih (λy hy=>h y (by simp[hy]))
  have h2:=h x (by simp)
  show x+4294967296*val a<4294967296^(a.length+1)
  rw[eD,bO]
  omega
theorem Lm.nil:Lm []:=λ_ h=>by cases h
theorem Lm.append {a b:List Nat} (ha:Lm a) (hb:Lm b):Lm (a++b):=λx hx=>by
 rcases aQ.1 hx with h|h
 ·exact ha x h
 exact hb x h
theorem Lm.snoc {a:List Nat} (ha:Lm a) {x:Nat} (hx:x<4294967296):Lm (a++[x]):=ha.append λy hy=>by rw[aH] at hy;omega
theorem Lm.take {a:List Nat} (h:Lm a) (k:Nat):Lm (a.take k):=λx hx=>h x (cV hx)
theorem Lm.drop {a:List Nat} (h:Lm a) (k:Nat):Lm (a.drop k):=λx hx=>h x (fE hx)
theorem Lm.at {a:List Nat} (h:Lm a) {k:Nat} (hk:k<a.length):a.getD k default<4294967296:=h _ (aYz _ _ hk)
theorem aBb (n:Nat):val (List.replicate n 0)=0:=by
 induction n with
 |zero=>rfl
 |succ n ih=>rw[iZ];show 0+4294967296*val _=0;rw[ih]
theorem Lm.zeros (n:Nat):Lm (List.replicate n 0):=λx hx=>by rw[List.eq_of_mem_replicate hx];decide
def Cn (a:List Nat):Prop:=a.length=0\/a.getD (a.length-1) default≠0
theorem Cn.tail {x:Nat} {a:List Nat} (h:Cn (x::a)) (ha:a≠[]):Cn a:=by
 right
 rcases h with h|h
 ·simp at h
 have:0<a.length:=List.length_pos_iff.2 ha
 rw[eF,fG] at h
 obtain⟨m,hm⟩:∃m,a.length=m+1:=⟨a.length-1,by omega⟩
 rw[hm] at h ⊢
 simpa using h
theorem Cn.pos {a:List Nat} (h:Cn a) (ha:a≠[]):0<val a:=by
 induction a with
 |nil=>exact absurd rfl ha
 |cons x a ih=>
  show 0<x+4294967296*val a
  by_cases h0:a=[]
  ·subst h0
   rcases h with h|h
   ·simp at h
   simp at h;omega
  have:=ih (h.tail h0) h0;omega
theorem aOv {a:List Nat} (hl:Lm a) (hc:Cn a):a=dE (val a):=by
 induction a with
 |nil=>rfl
 |cons x a ih=>
  have hx:=hl x (by simp)
  have hpos:=hc.pos (by simp)
  rw[pZ oM]
  show x::a=((x+4294967296*val a)%4294967296)::dE ((x+4294967296*val a)/4294967296)
  rw[show(x+4294967296*val a)%4294967296=x by omega,show(x+4294967296*val a)/4294967296=val a by omega]
  congr 1
  by_cases h0:a=[]
  ·subst h0;rfl
  exact ih (λy hy=>hl y (by simp[hy])) (hc.tail h0)
theorem bKb (n:Nat):Cn (dE n):=by
 induction n using Nat.strongRecOn with
 |ind n ih=>
  by_cases h:n=0
  ·subst h;exact .inl rfl
  right
  rw[pZ h]
  by_cases h0:n/4294967296=0
  ·rw[h0,rL]
   simp;omega
  have h1:=ih _ (show n/4294967296<n by omega)
  rcases h1 with h1|h1
  ·rw[pZ h0] at h1;simp at h1
  obtain⟨m,hm⟩:∃m,(dE (n/4294967296)).length=m+1:=⟨(dE (n/4294967296)).length-1,by rw[pZ h0];simp⟩
  rw[eF,fG,hm]
  rw[hm,fG] at h1
  simpa using h1
theorem aGo {xs:List Nat} {n:Nat} (hx:Lm xs) (hn:n<=xs.length) (hv:val (xs.take n)=val xs) (hl:n=0\/xs.getD (n-1) default≠0):xs.take n=dE (val xs):=by
 rw[<-hv]
 refine aOv (hx.take n) ?_
 have hlen:(xs.take n).length=n:=by simp;omega
 unfold Cn
 rw[hlen]
 rcases hl with h|h
 ·exact .inl h
 by_cases h0:n=0
 ·exact .inl h0
 right
 simpa[aD,eY,show n-1<n by omega] using h
theorem aGp {xs:List Nat} {n:Nat} (hn:n<=xs.length) (h0:0<n) (hv:val (xs.take n)=val xs) (hz:xs.getD (n-1) default=0):val (xs.take (n-1))=val xs:=by
 obtain⟨m,rfl⟩:∃m,n=m+1:=⟨n-1,by omega⟩
 rw[fG] at hz ⊢
 rw[aGm xs m oM,kD,hz] at hv
 omega
theorem dT {xs:List Nat} {k:Nat} (h:k<xs.length):val (xs.take (k+1))=val (xs.take k)+4294967296^k*xs.getD k default:=by
 rw[aGm xs k h,kD,bE,eH oM]
theorem gL {xs:List Nat} {k:Nat} (h:xs.length<=k):val (xs.take k)=val xs:=by rw[cB h]
def dig (xs:List Nat) (k:Nat):Nat:=if k<xs.length then xs.getD k default else 0
theorem oO (xs:List Nat) (k:Nat):val (xs.take (k+1))=val (xs.take k)+4294967296^k*dig xs k:=by
 unfold dig
 split
 ·next h=>exact dT h
 rw[gL oM,gL oM];rfl
theorem sY {xs:List Nat} {k:Nat} (h:k<xs.length):dig xs k=xs.getD k default:=if_pos h
theorem yO {xs:List Nat} {k:Nat} (h:¬k<xs.length):dig xs k=0:=if_neg h
theorem tN {xs:List Nat} (h:Lm xs) (k:Nat):dig xs k<4294967296:=by
 unfold dig
 split
 ·next hk=>exact h.at hk
 decide
theorem oG {n k:Nat} (h:n<4294967296^k):(dE n).length<=k:=by
 induction k generalizing n with
 |zero=>have:n=0:=by simpa using h
        subst this;simp[rL]
 |succ k ih=>
  by_cases h0:n=0
  ·subst h0;simp[rL]
  rw[pZ h0,eF]
  have:=@ih (n/4294967296) (by rw[eD] at h;exact Nat.div_lt_of_lt_mul (by rw[bO];exact h))
  omega
theorem lt_len (n:Nat):n<4294967296^len n:=by
 have:=jL (aHs n)
 rwa [zL] at this
theorem dY {xs:List Nat} (h:Lm xs):len (val xs)<=xs.length:=oG (jL h)
theorem fD (n:Nat):(dE n).length=len n:=rfl
theorem fY {m n:Nat} (h:m<=n):len m<=len n:=oG (eZ h (lt_len n))
theorem aOw {n:Nat} (h:n≠0):4294967296^(len n-1)<=n:=by
 rcases eC n (4294967296^(len n-1)) with h1|h1
 ·have h2:=oG h1
  rw[fD] at h2
  have:len n≠0:=by unfold len;rw[pZ h];simp
  omega
 exact h1
theorem xX {m n:Nat} (h:len m<len n):m<n:=by
 have h1:=lt_len m
 have h2:4294967296^len m<=4294967296^(len n-1):=eI dC oM
 have h3:=aOw (n:=n) (λh0=>by subst h0;simp[len,rL] at h)
 omega
theorem nQ {n:Nat}:len n=0↔n=0:=by
 constructor
 ·intro h;have:=lt_len n;rw[h] at this;simpa using this
 rintro rfl;rfl
theorem zM (m n:Nat):len (m+n)<=max (len m) (len n)+1:=by
 refine oG ?_
 have h1:=lt_len m
 have h2:=lt_len n
 have h3:4294967296^len m<=4294967296^max (len m) (len n):=eI dC oM
 have h4:4294967296^len n<=4294967296^max (len m) (len n):=eI dC oM
 rw[eD]
 omega
theorem pU (m n:Nat):len (m*n)<=len m+len n:=by
 refine oG ?_
 rw[iK]
 exact Nat.mul_lt_mul'' (lt_len m) (lt_len n)
def iJ (P:List Nat) (m:Nat):List Nat:=P++List.replicate (m-P.length) 0
theorem rM (m:Nat):iJ [] m=List.replicate m 0:=by simp[iJ]
theorem kE {P:List Nat} {m:Nat} (h:P.length<=m):(iJ P m).length=m:=by simp[iJ];omega
theorem oH {P:List Nat} {m k u:Nat} (hk:P.length=k) (h:k<m):(iJ P m).set k u=iJ (P++[u]) m:=by
 unfold iJ
 subst hk
 rw[iM _ _ (aI _),jA]
 obtain⟨q,hq⟩:∃q,m-P.length=q+1:=⟨m-P.length-1,by omega⟩
 rw[hq,iZ,aE,show m-(P.length+[u].length)=q by simp;omega]
 simp
theorem pO {P:List Nat} {m:Nat} (h:P.length=m):iJ P m=P:=by simp[iJ,h]
theorem wO (p s:Nat):p*(s%4294967296)+4294967296*p*(s/4294967296)=p*s:=by
 rw[bO 4294967296 p,bS,<-dD,Nat.mod_add_div]
theorem aLv {P:List Nat} {k c x y A B:Nat} (hP:P.length=k) (h:val P+4294967296^k*c=A+B):
 val (P++[(c+x+y)%4294967296])+4294967296^(k+1)*((c+x+y)/4294967296)=(A+4294967296^k*x)+(B+4294967296^k*y):=by
 rw[kD,hP,eD]
 have h1:=wO (4294967296^k) (c+x+y)
 rw[bO 4294967296] at h1
 rw[dD,dD] at h1
 omega
theorem bKc {P:List Nat} {m c A B n:Nat} (hP:P.length=m) (hm:m=n+1) (h:val P+4294967296^m*c=A+B) (hA:A<4294967296^n) (hB:B<4294967296^n):val P=A+B:=by
 have h1:4294967296^m=4294967296^n*4294967296:=by rw[hm,eD]
 rcases cE c with h0|h0
 ·subst h0;omega
 have:4294967296^m*1<=4294967296^m*c:=cZ _ h0
 omega
theorem aLw {P:List Nat} {k c x y A B:Nat} (hP:P.length=k) (h:val P+B=A+4294967296^k*c) (hx:x<4294967296) (hy:y<4294967296) (hc:c<=1):
 val (P++[(x+4294967296-(c+y))%4294967296])+(B+4294967296^k*y)=(A+4294967296^k*x)+4294967296^(k+1)*(if x<c+y then 1 else 0):=by
 rw[kD,hP,eD]
 have e:∀p:Nat,p*((x+4294967296-(c+y))%4294967296)+p*(c+y)=p*x+p*(4294967296*if x<c+y then 1 else 0):=λp=>by
  rw[<-dD,<-dD]
  congr 1
  split<;>omega
 have h1:=e (4294967296^k)
 rw[dD _ c y,<-bS] at h1
 omega
theorem aZa {P:List Nat} {k c o x y A:Nat} (hP:P.length=k) (h:val P+4294967296^k*c=A):
 val (P++[(c+(o+x*y))%4294967296])+4294967296^(k+1)*((c+(o+x*y))/4294967296)=A+4294967296^k*o+x*(4294967296^k*y):=by
 rw[kD,hP,eD]
 have h1:=wO (4294967296^k) (c+(o+x*y))
 rw[bO 4294967296] at h1
 rw[dD,dD,Nat.mul_left_comm _ x y] at h1
 omega
end Go.Vm
namespace Go.Vm
theorem oP {a:List Nat} {m:Nat} (h:m<a.length):a.drop m=a.getD m default::a.drop (m+1):=aWz a m h
theorem mN (a:List Nat) {m:Nat} (h:m<=a.length):val a=val (a.take m)+4294967296^m*val (a.drop m):=by
 have:=mY (a.take m) (a.drop m)
 rw[dR,bE,eH h] at this
 exact this
theorem aHt {a b:List Nat} {m:Nat} (ha:Lm a) (hl:a.length=b.length) (hm:m<a.length) (hd:a.drop (m+1)=b.drop (m+1)) (hx:a.getD m default<b.getD m default):val a<val b:=by
 rw[mN a (eX hm),mN b (show m<=b.length by omega),oP hm,oP (show m<b.length by omega),hd]
 have h1:=jL (ha.take m)
 rw[bE,eH oM] at h1
 show _+4294967296^m*(a.getD m default+4294967296*val (b.drop (m+1)))<_+4294967296^m*(b.getD m default+4294967296*val (b.drop (m+1)))
 have h2:4294967296^m*(a.getD m default+1+4294967296*val (b.drop (m+1)))<=4294967296^m*(b.getD m default+4294967296*val (b.drop (m+1))):=cZ _ oM
 rw[show a.getD m default+1+4294967296*val (b.drop (m+1))=(a.getD m default+4294967296*val (b.drop (m+1)))+1 by omega,dD,bI] at h2
 omega
theorem aGq {a b:List Nat} {n:Nat} (h0:0<n) (ha:n<=a.length) (hb:n<=b.length) (hd:a.drop n=b.drop n) (hx:a.getD (n-1) default=b.getD (n-1) default):a.drop (n-1)=b.drop (n-1):=by
 obtain⟨m,rfl⟩:∃m,n=m+1:=⟨n-1,by omega⟩
 rw[fG] at hx ⊢
 rw[oP oM,oP (show m<b.length by omega),hx,hd]
theorem aSw (x:Nat):val [x%4294967296,x/4294967296]=x:=by simp[val];omega
theorem Lm.two {x:Nat} (h:x<18446744073709551616):Lm [x%4294967296,x/4294967296%4294967296]:=by
 intro y hy
 simp at hy
 omega
theorem rD {n:Nat}:n<18446744073709551616↔len n<=2:=by
 constructor
 ·intro h;exact oG (k:=2) oM
 intro h
 have h1:=lt_len n
 have h2:4294967296^len n<=4294967296^2:=eI dC h
 omega
theorem aGr {a:List Nat} (ha:Lm a) (h:a.length<=2):val a<18446744073709551616:=by
 have h1:=jL ha
 have h2:4294967296^a.length<=4294967296^2:=eI dC h
 omega
theorem tO {a:List Nat} {n:Nat} (h0:0<n) (h:n<=a.length):val (a.drop (n-1))=a.getD (n-1) default+4294967296*val (a.drop n):=by
 obtain⟨m,rfl⟩:∃m,n=m+1:=⟨n-1,by omega⟩
 rw[fG,oP oM]
 rfl
theorem aZb {l m:List Nat} (hl:l.length=m.length) (h:∀j,j<l.length->l.getD j default=m.getD j default):l=m:=by
 apply iN hl
 intro j h1 h2
 have:=h j h1
 simpa[h1,h2] using this
end Go.Vm
namespace Go.Vm
theorem bKd {x y P:List Nat} {k c:Nat} (lx:Lm x) (ly:Lm y) (hP:P.length=k) (hk:k=max x.length y.length+1) (hv:val P+4294967296^k*c=val (x.take k)+val (y.take k)):val P=val x+val y:=by
 rw[gL oM,gL oM] at hv
 refine bKc hP hk hv ?_ ?_
 ·exact bN (jL lx) (eI dC oM)
 exact bN (jL ly) (eI dC oM)
theorem aSx {x y P:List Nat} {k c:Nat} (lP:Lm P) (hP:P.length=k) (hx:x.length<=k) (hy:y.length<=k) (hxy:val y<=val x) (hv:val P+val (y.take k)=val (x.take k)+4294967296^k*c):val P=val x-val y:=by
 rw[gL hx,gL hy] at hv
 have h1:=jL lP
 rw[hP] at h1
 rcases cE c with h0|h0
 ·subst h0;omega
 have:4294967296^k*1<=4294967296^k*c:=cZ _ h0
 omega
theorem wP {x y:Nat} (hx:x<4294967296) (hy:y<4294967296):x*y<=18446744065119617025:=by
 have h1:x*y<=4294967295*y:=aZ _ oM
 omega
def mZ (O Q:List Nat) (i:Nat):List Nat:=O.take i++Q++O.drop (i+Q.length)
theorem aLx (O:List Nat) (i:Nat):mZ O [] i=O:=by simp[mZ]
theorem aSy {O Q:List Nat} {i k:Nat} (hQ:Q.length=k) (hi:i+k<O.length):(mZ O Q i).getD (i+k) default=O.getD (i+k) default:=by
 unfold mZ
 rw[aD,aD,bR (by simp;omega)]
 simp only[aE,bE,dL]
 rw[hQ,show i+k+(i+k-(min i O.length+k))=i+k by omega]
theorem zN {O Q:List Nat} {i k u:Nat} (hQ:Q.length=k) (hi:i+k<O.length):(mZ O Q i).set (i+k) u=mZ O (Q++[u]) i:=by
 unfold mZ
 rw[iM _ _ (by simp;omega),cU (O.take i),cU (O.take i),cU Q]
 congr 2
 simp only[aE,bE,cR]
 rw[show i+k-(min i O.length+Q.length)=0 by omega,hQ,oP hi]
 rfl
theorem nA {O Q:List Nat} {i:Nat} (h:i+Q.length<=O.length):(mZ O Q i).length=O.length:=by simp[mZ];omega
theorem aSz {O Q:List Nat} {i:Nat} (hO:Lm O) (hQ:Lm Q):Lm (mZ O Q i):=((hO.take i).append hQ).append (hO.drop _)
theorem aTa {O x y Q:List Nat} {i n c:Nat} (hi:i<x.length) (hQ:Q.length=y.length) (hO:O.length=x.length+y.length) (h1:val (O.take (i+y.length))=val (x.take i)*val y)
 (h2:val Q+4294967296^y.length*c=val ((O.drop i).take y.length)+x.getD i default*val y):
 val ((mZ O (Q++[c]) i).take (i+1+y.length))=val (x.take (i+1))*val y:=by
 have e:(mZ O (Q++[c]) i).take (i+1+y.length)=O.take i++(Q++[c]):=by
  unfold mZ
  rw[fA (by simp;omega)]
  exact cB (by simp;omega)
 have e2:O.take (i+y.length)=O.take i++(O.drop i).take y.length:=by rw[List.take_add]
 rw[e2,mY,bE,eH oM] at h1
 rw[e,mY,bE,eH oM,kD,hQ,h2,dD,dT hi,dJ,<-h1,bS]
 omega
theorem aDs {O Q:List Nat} {i m:Nat} (hQ:Q.length=m+1) (hO:i+m<O.length) (hz:∀j,i+m<=j->j<O.length->O.getD j default=0):∀j,i+1+m<=j->j<(mZ O Q i).length->(mZ O Q i).getD j default=0:=by
 intro j h1 h2
 rw[nA oM] at h2
 have h3:=hz j oM h2
 unfold mZ
 rw[aD,bR (by simp;omega)]
 simp only[aE,bE,dL]
 rw[hQ,show i+(m+1)+(j-(min i O.length+(m+1)))=j by omega]
 rw[aD] at h3
 exact h3
end Go.Vm
namespace Go.Vm
theorem zO {O y Q:List Nat} {i k c xi:Nat} (hQ:Q.length=k) (hk:k<y.length) (hO:i+k<O.length) (h:val Q+4294967296^k*c=val ((O.drop i).take k)+xi*val (y.take k)):
 val (Q++[(c+(O.getD (i+k) default+xi*y.getD k default))%4294967296])+4294967296^(k+1)*((c+(O.getD (i+k) default+xi*y.getD k default))/4294967296)=val ((O.drop i).take (k+1))+xi*val (y.take (k+1)):=by
 have h1:=aZa (o:=O.getD (i+k) default) (x:=xi) (y:=y.getD k default) hQ h
 have h2:=dT (xs:=O.drop i) (k:=k) (by rw[cK];omega)
 rw[show(O.drop i).getD k default=O.getD (i+k) default by simp[aD]] at h2
 rw[h1,h2,dT hk,dD]
 omega
end Go.Vm
namespace Go.Vm
theorem aZc (m:Nat):4294967296^m=2^(32*m):=by rw[show(4294967296:Nat)=2^32 from rfl,<-Nat.pow_mul]
theorem aZd {X:List Nat} {s:Nat} (hX:Lm X) (h0:0<X.length) (hs:X.getD (X.length-1) default/2^s=0):val X<2^(32*(X.length-1)+s):=by
 have h1:X.getD (X.length-1) default<2^s:=by
  rcases eC (X.getD (X.length-1) default) (2^s) with h|h
  ·exact h
  have:=Nat.div_pos h (oB s);omega
 have h2:=jL (hX.take (X.length-1))
 rw[bE,eH oM] at h2
 rw[mN X (show X.length-1<=X.length by omega),oP oM,cH oM]
 show _+4294967296^(X.length-1)*(X.getD (X.length-1) default+4294967296*0)<_
 rw[iK,<-aZc]
 have h3:4294967296^(X.length-1)*(X.getD (X.length-1) default+1)<=4294967296^(X.length-1)*2^s:=cZ _ h1
 rw[dD,bI] at h3
 rw[pA,gO]
 omega
theorem aHu {x:List Nat} (hx:Lm x) (i:Nat):dig x (i/32)/2^(i%32)%2=val x/2^i%2:=by
 have hi:i=32*(i/32)+i%32:=by omega
 have hs:i%32<32:=by omega
 generalize i/32=q at*
 generalize i%32=s at*
 subst hi
 rw[iK,<-aZc,<-iF]
 have h1:val x/4294967296^q=dig x q+4294967296*val (x.drop (q+1)):=by
  rcases eC q x.length with h|h
  ·rw[mN x (eX h),oP h,sY h]
   have h2:=jL (hx.take q)
   rw[bE,eH oM] at h2
   rw[kM _ _ (gV dC),gW h2,eA]
   rfl
  rw[yO oM,cH oM]
  have h2:=jL hx
  have h3:4294967296^x.length<=4294967296^q:=eI dC h
  rw[gW oM]
  rfl
 rw[h1]
 obtain⟨t,ht⟩:∃t,32=s+1+t:=⟨31-s,by omega⟩
 have h4:(4294967296:Nat)=2^s*(2*2^t):=by
  rw[show(4294967296:Nat)=2^32 from rfl,ht,iK,iK,xM,bS]
 rw[h4,bS (2^s),kM _ _ (oB s),bS 2]
 omega
theorem aZe {a s:Nat} (h:a/2^s%2=0):a|||2^s=a+2^s:=by
 have h1:=Nat.mod_pow_succ (b:=2) (k:=s) (x:=a)
 rw[h,pA,gO] at h1
 have h2:a%2^(s+1)<2^s:=by rw[h1];exact dM _ (oB s)
 have h3:=fP a (2^(s+1))
 have h4:=hJ (i:=s+1) (b:=a%2^(s+1)) (dM _ (oB _)) (a/2^(s+1))
 have h5:=hJ (i:=s) (b:=a%2^(s+1)) h2 1
 rw[bI] at h5
 have h6:2^(s+1)=2^s+2^s:=by rw[eD];omega
 have h7:=hJ (i:=s+1) (b:=2^s+a%2^(s+1)) oM (a/2^(s+1))
 clear h1
 generalize 2^(s+1)*(a/2^(s+1))=A at*
 generalize a%2^(s+1)=l at*
 have e1:a|||2^s=(A|||l)|||2^s:=by rw[<-h4,h3]
 rw[e1,Nat.or_assoc,Nat.or_comm l,<-h5,<-h7]
 omega
theorem bKe {O:List Nat} {q u:Nat} (h:q<O.length):val (O.set q u)+4294967296^q*O.getD q default=val O+4294967296^q*u:=by
 have e:O.set q u=O.take q++u::O.drop (q+1):=by rw[jW,if_pos h]
 rw[e,mY,bE,eH oM,mN O (eX h),oP h]
 show _+4294967296^q*(u+4294967296*val (O.drop (q+1)))+_=_+4294967296^q*(O.getD q default+4294967296*val (O.drop (q+1)))+_
 rw[dD,dD]
 omega
theorem bTc {O:List Nat} {i:Nat} (hO:Lm O) (hi:i/32<O.length) (hd:val O%2^(i+1)=0):
 O.getD (i/32) default|||2^(i%32)=O.getD (i/32) default+2^(i%32)/\O.getD (i/32) default+2^(i%32)<4294967296/\val (O.set (i/32) (O.getD (i/32) default+2^(i%32)))=val O+2^i:=by
 have hb:val O/2^i%2=0:=by
  have h1:=Nat.mod_pow_succ (b:=2) (k:=i) (x:=val O)
  rw[hd] at h1
  rcases cE (val O/2^i%2) with h|h
  ·exact h
  have:2^i*1<=2^i*(val O/2^i%2):=cZ _ h
  have:=oB i
  omega
 have ha:=aHu hO i
 rw[hb,sY hi] at ha
 refine⟨aZe ha,?_,?_⟩
 ·have h1:=hO.at hi
  rw[<-aZe ha]
  exact Nat.or_lt_two_pow (n:=32) h1 (qK dC oM)
 have h1:=bKe (u:=O.getD (i/32) default+2^(i%32)) hi
 rw[dD] at h1
 have h2:2^i=4294967296^(i/32)*2^(i%32):=by rw[aZc,<-iK];congr 1;omega
 omega
theorem aZf {n i Qn b r:Nat} (h:n/2^(i+1)=Qn*b+r):n/2^i=2*Qn*b+(r+r+n/2^i%2):=by
 rw[eD,<-iF] at h
 have h1:2*Qn*b=Qn*b+Qn*b:=by rw[bS];omega
 omega
theorem aHv {n b Qn r:Nat} (h:n=Qn*b+r) (hr:r<b):Qn=n/b/\r=n%b:=by
 subst h
 rw[bO,Nat.mul_add_div oM,Nat.mul_add_mod,gW hr,cS hr]
 exact⟨rfl,rfl⟩
def aFx (x y:Nat):Nat:=if y=0 then 0 else x%y
end Go.Vm
namespace Go.Vm
theorem Lm.set {O:List Nat} (h:Lm O) {q u:Nat} (hu:u<4294967296):Lm (O.set q u):=λx hx=>by
 rcases List.mem_or_eq_of_mem_set hx with hx|rfl
 ·exact h x hx
 exact hu
theorem aLy (Q i:Nat):Q*2^(i+1)=2*Q*2^i:=by
 rw[eD,bO (2^i) 2,<-bS,bO Q 2]
end Go.Vm
namespace Go.Vm
structure Kd (U V top v1 v2 u2 p lowU lowV:Nat):Prop where
 eU:U=(top*4294967296+u2)*p+lowU
 eV:V=(v1*4294967296+v2)*p+lowV
 lU:lowU<p
 lV:lowV<p
 hv:2147483648<=v1
 hv2:v2<4294967296
 hu2:u2<4294967296
 hq:U<V*4294967296
structure Kn (U V top v1 digit rest:Nat):Prop where
 e:digit*v1+rest=top
 ge:U/V<=digit
 le:digit<=4294967297
theorem Kd.pos {U V top v1 v2 u2 p lowU lowV:Nat} (H:Kd U V top v1 v2 u2 p lowU lowV):0<V:=by
 have h1:=H.hq
 rcases cE V with h|h
 ·rw[h] at h1;omega
 exact h
theorem Kd.start {U V top v1 v2 u2 p lowU lowV:Nat} (H:Kd U V top v1 v2 u2 p lowU lowV):Kn U V top v1 (top/v1) (top%v1):=by
 have hp:0<p:=eZ (aC _) H.lU
 refine⟨by rw[bO];exact fP top v1,?_,?_⟩
 ·rw[mP (by have:=H.hv;omega)]
  have h1:U/V*V<=U:=Nat.div_mul_le_self U V
  have h2:U/V*(v1*4294967296*p)<=U:=aJ (cZ _ (by rw[H.eV,dJ];omega)) h1
  have h3:U<(top+1)*(4294967296*p):=by
   rw[H.eU]
   have:=H.lU
   have h4:u2*p<=4294967295*p:=aZ _ (by have:=H.hu2;omega)
   rw[dJ,dJ,bS]
   omega
  have h5:(U/V*v1)*(4294967296*p)<(top+1)*(4294967296*p):=by
   rw[bS] at h2 ⊢
   exact eZ h2 h3
  have:=jR h5
  omega
 have h1:top*(4294967296*p)<=U:=by
  rw[H.eU,dJ,bS]
  omega
 have h2:V<(v1+1)*(4294967296*p):=by
  rw[H.eV]
  have:=H.lV
  have h4:v2*p<=4294967295*p:=aZ _ (by have:=H.hv2;omega)
  rw[dJ,dJ,bS]
  omega
 have h3:top*(4294967296*p)<((v1+1)*4294967296)*(4294967296*p):=by
  refine eZ h1 (rI H.hq ?_)
  have:=jB h2 (show 0<4294967296 by decide)
  rw[sG] at this
  exact this
 have h4:=jR h3
 have h5:top/v1<4294967298:=by
  rw[gK (by have:=H.hv;omega)]
  have:=H.hv
  omega
 omega
theorem Kd.lt {U V top v1 v2 u2 p lowU lowV:Nat} (H:Kd U V top v1 v2 u2 p lowU lowV):U/V<4294967296:=by
 rw[gK H.pos,bO];exact H.hq
theorem Kd.step {U V top v1 v2 u2 p lowU lowV digit rest:Nat} (H:Kd U V top v1 v2 u2 p lowU lowV) (K:Kn U V top v1 digit rest) (h:4294967296<=digit\/rest*4294967296+u2<digit*v2):Kn U V top v1 (digit-1) (rest+v1)/\1<=digit:=by
 have hlt:U/V<digit:=by
  rcases h with h|h
  ·have:=H.lt;omega
  rcases cN K.ge with h1|h1
  ·exact h1
  exfalso
  have h2:digit*V<=U:=by rw[<-h1];exact Nat.div_mul_le_self U V
  have h3:digit*((v1*4294967296+v2)*p)<=U:=aJ (cZ _ (by rw[H.eV];omega)) h2
  have h4:(top*4294967296+u2+1)*p<=digit*((v1*4294967296+v2)*p):=by
   rw[<-bS]
   refine aZ _ ?_
   rw[dD,<-bS]
   have:=K.e
   have e2:digit*v1*4294967296+rest*4294967296=top*4294967296:=by rw[<-dJ,this]
   omega
  have h5:=H.eU
  have h6:=H.lU
  have h7:(top*4294967296+u2+1)*p=(top*4294967296+u2)*p+p:=dU _ _
  omega
 have hz:=aC (U/V)
 refine⟨⟨?_,by omega,by have:=K.le;omega⟩,by omega⟩
 have:=K.e
 obtain⟨d,rfl⟩:∃d,digit=d+1:=⟨digit-1,by omega⟩
 rw[fG,<-this,dU]
 omega
theorem Kd.exit {U V top v1 v2 u2 p lowU lowV digit rest:Nat} (H:Kd U V top v1 v2 u2 p lowU lowV) (K:Kn U V top v1 digit rest) (h1:digit<4294967296) (h2:digit*v2<=rest*4294967296+u2):digit<=U/V+1:=by
 have hz:=aC (U/V)
 rcases cE digit with h0|h0
 ·omega
 obtain⟨d,rfl⟩:∃d,digit=d+1:=⟨digit-1,by omega⟩
 have hle:d<=U/V:=by
  rw[mP H.pos]
  have a1:(d+1)*V=((d+1)*v1*4294967296+(d+1)*v2)*p+(d+1)*lowV:=by
   rw[H.eV,dD,<-bS,dD,<-bS]
  have a2:((d+1)*v1*4294967296+(d+1)*v2)*p<=(top*4294967296+u2)*p:=by
   refine aZ _ ?_
   have e2:(d+1)*v1*4294967296+rest*4294967296=top*4294967296:=by rw[<-dJ,K.e]
   omega
  have a3:(d+1)*lowV<=4294967295*p:=aJ (aZ _ oM) (cZ _ (eX H.lV))
  have a4:4294967296*p<=V:=by
   rw[H.eV,dJ]
   have:1*4294967296*p<=v1*4294967296*p:=aZ _ (aZ _ (by have:=H.hv;omega))
   omega
  have a5:(d+1)*V=d*V+V:=dU _ _
  have a6:=H.eU
  have hp:0<p:=eZ (aC _) H.lU
  omega
 omega
theorem Kd.brk {U V top v1 v2 u2 p lowU lowV digit rest:Nat} (H:Kd U V top v1 v2 u2 p lowU lowV) (K:Kn U V top v1 digit rest) (h1:digit<=4294967296) (h2:4294967296<=rest):digit<=U/V:=by
 rw[mP H.pos]
 have a1:digit*V=digit*v1*4294967296*p+digit*(v2*p+lowV):=by
  rw[H.eV,dJ,iA,dD]
  rw[<-bS,<-bS]
 have a2:digit*v1*4294967296*p+rest*4294967296*p=top*4294967296*p:=by rw[<-dJ,<-dJ,K.e]
 have a3:v2*p+lowV<=4294967296*p:=by
  have:v2*p<=4294967295*p:=aZ _ (by have:=H.hv2;omega)
  have:=H.lV
  omega
 have a4:digit*(v2*p+lowV)<=4294967296*(4294967296*p):=nF h1 a3
 have a5:4294967296*4294967296*p<=rest*4294967296*p:=aZ _ (aZ _ h2)
 have a6:=H.eU
 rw[dJ] at a6
 omega
def sb (u c:Nat):Nat:=(u+18446744073709551616-c)%18446744073709551616
theorem aOx {u c:Nat} (hu:u<4294967296) (hc:c<4294967296):sb u c%4294967296+c=u+4294967296*(sb u c/9223372036854775808)/\sb u c/9223372036854775808<=1/\(sb u c/9223372036854775808=0↔c<=u):=by
 unfold sb
 by_cases h:c<=u
 ·rw[show u+18446744073709551616-c=(u-c)+18446744073709551616 by omega,mV,cS (show u-c<18446744073709551616 by omega)]
  omega
 rw[cS (show u+18446744073709551616-c<18446744073709551616 by omega)]
 omega
theorem aZg {dg v c u:Nat} (hd:dg<4294967296) (hv:v<4294967296) (hc:c<4294967296) (hu:u<4294967296):dg*v+c<=18446744069414584320/\(dg*v+c)/4294967296+sb u ((dg*v+c)%4294967296)/9223372036854775808<4294967296:=by
 have h1:=wP hd hv
 have h2:=aOx hu (dM (dg*v+c) (show 0<4294967296 by decide))
 generalize hp:dg*v=p at*
 generalize hs:sb u ((p+c)%4294967296)=s at*
 have hs':=hs
 unfold sb at hs'
 omega
theorem bKf {P:List Nat} {k c dg u v Uk Vk:Nat} (hP:P.length=k) (h:val P+dg*Vk=Uk+4294967296^k*c) (hu:u<4294967296):
 val (P++[sb u ((dg*v+c)%4294967296)%4294967296])+dg*(Vk+4294967296^k*v)=(Uk+4294967296^k*u)+4294967296^(k+1)*((dg*v+c)/4294967296+sb u ((dg*v+c)%4294967296)/9223372036854775808):=by
 have h2:=(aOx hu (dM (dg*v+c) (show 0<4294967296 by decide))).1
 have h3:=fP (dg*v+c) 4294967296
 rw[kD,hP,eD]
 generalize sb u ((dg*v+c)%4294967296)=s at*
 generalize (dg*v+c)%4294967296=r at*
 generalize (dg*v+c)/4294967296=q at*
 generalize s/9223372036854775808=b at*
 generalize s%4294967296=t at*
 generalize 4294967296^k=p at*
 have e1:p*t+p*(dg*v+c)=p*u+p*(4294967296*(q+b)):=by rw[<-dD,<-dD];congr 1;omega
 rw[dD p (dg*v) c] at e1
 rw[dD dg,<-bS dg p v,bO dg p,bS p dg v,bS p 4294967296]
 omega
theorem cEz {U V R Ul un c dg pn:Nat} (hV:0<V) (h:R+dg*V=Ul+pn*c) (hU:U=Ul+pn*un) (hc:c<=un) (hg:U/V<=dg):dg=U/V/\R+pn*(un-c)=U%V:=by
 have e:pn*un=pn*c+pn*(un-c):=by rw[<-dD];congr 1;omega
 have e2:U=dg*V+(R+pn*(un-c)):=by omega
 have h1:dg<=U/V:=(mP hV).2 oM
 have h2:dg=U/V:=by omega
 refine⟨h2,?_⟩
 have:=fP U V
 rw[<-h2,bO] at this
 omega
theorem bKg {U V R Ul un c dg pn:Nat} (hV:0<V) (h:R+dg*V=Ul+pn*c) (hU:U=Ul+pn*un) (hc:un<c) (hg:dg<=U/V+1) (hR:R<pn) (hVp:V<pn):dg=U/V+1/\c=un+1/\R+V=U%V+pn:=by
 have hdm:=fP U V
 have hlt:=dM U hV
 have e:pn*c=pn*un+pn*(c-un):=by rw[<-dD];congr 1;omega
 have e3:pn*1<=pn*(c-un):=cZ _ oM
 have h1:U<dg*V:=by omega
 have h2:U/V<dg:=(gK hV).2 h1
 have h3:dg=U/V+1:=by omega
 subst h3
 rw[dU,bO] at h
 have h4:R+V=U%V+pn*(c-un):=by omega
 have h5:c-un=1:=by
  rcases eC (c-un) 2 with h6|h6
  ·omega
  have:=cZ pn h6
  omega
 rw[h5,bI] at h4
 exact⟨rfl,by omega,h4⟩
theorem aZh {P:List Nat} {n c R V r:Nat} (hP:P.length=n) (hl:Lm P) (h:val P+4294967296^n*c=R+V) (h2:R+V=r+4294967296^n) (hr:r<4294967296^n):c=1/\val P=r:=by
 have hv:=jL hl
 rw[hP] at hv
 generalize 4294967296^n=p at*
 have hc:c=1:=by
  rcases eT c 1 with h1|h1|h1
  ·have:c=0:=by omega
   subst this;omega
  ·exact h1
  have:=cZ p (show 2<=c by omega)
  omega
 subst hc
 omega
theorem aXa {P:List Nat} {k c u v R V:Nat} (hP:P.length=k) (h:val P+4294967296^k*c=R+V):
 val (P++[(c+(u+v))%4294967296])+4294967296^(k+1)*((c+(u+v))/4294967296)=(R+4294967296^k*u)+(V+4294967296^k*v):=by
 have h3:=fP (c+(u+v)) 4294967296
 rw[kD,hP,eD]
 generalize (c+(u+v))%4294967296=r at*
 generalize (c+(u+v))/4294967296=q at*
 generalize 4294967296^k=p at*
 have e1:p*r+p*(4294967296*q)=p*c+(p*u+p*v):=by rw[<-dD,<-dD,<-dD];congr 1;omega
 rw[bS]
 omega
theorem aXb {a0 A A' V Q q j B':Nat} (h:a0=A+V*(B'*(4294967296*Q))) (hj:B'=4294967296^j) {low W W':Nat} (hA:A=low+B'*W) (hA':A'=low+B'*W') (hW:W=q*V+W'):a0=A'+V*(B'*(q+4294967296*Q)):=by
 rw[h,hA,hA',hW,dD B',dD B',dD V]
 have:B'*(q*V)=V*(B'*q):=by rw[bO q V,<-bS,bO B' V,bS]
 omega
end Go.Vm
namespace Go.Vm
def sb2 (x c y:Nat):Nat:=(sb x c+18446744073709551616-y)%18446744073709551616
theorem bKh {x c y:Nat} (hx:x<4294967296) (hc:c<=1) (hy:y<4294967296):sb2 x c y%4294967296=(x+4294967296-(c+y))%4294967296/\sb2 x c y/9223372036854775808=(if x<c+y then 1 else 0):=by
 unfold sb2 sb
 by_cases h1:c<=x
 ·rw[show x+18446744073709551616-c=(x-c)+18446744073709551616 by omega,mV,cS (show x-c<18446744073709551616 by omega)]
  by_cases h2:x<c+y
  ·rw[if_pos h2,cS (show x-c+18446744073709551616-y<18446744073709551616 by omega)]
   omega
  rw[if_neg h2,show x-c+18446744073709551616-y=(x-c-y)+18446744073709551616 by omega,mV,cS (show x-c-y<18446744073709551616 by omega)]
  omega
 rw[cS (show x+18446744073709551616-c<18446744073709551616 by omega),if_pos oM]
 rw[show x+18446744073709551616-c+18446744073709551616-y=(x+18446744073709551616-c-y)+18446744073709551616 by omega,mV,cS (show x+18446744073709551616-c-y<18446744073709551616 by omega)]
 omega
theorem bKi {x c:Nat}:sb x c=sb2 x c 0:=by
 unfold sb2
 rw[Nat.sub_zero,mV,cS]
 unfold sb
 exact dM _ dC
theorem aZi {O x y:List Nat} {i:Nat} (hi:i<x.length) (hO:O.length=x.length+y.length) (h1:val (O.take (i+y.length))=val (x.take i)*val y) (hz:∀j,i+y.length<=j->j<O.length->O.getD j default=0) (h0:x.getD i default=0):
 val (O.take (i+1+y.length))=val (x.take (i+1))*val y:=by
 rw[show i+1+y.length=(i+y.length)+1 by omega,dT oM,hz _ (aI _) oM,h1,dT hi,h0]
 simp
end Go.Vm
namespace Go.Vm
theorem bKj {P:List Nat} {k c x s V:Nat} (hP:P.length=k) (h:val P+4294967296^k*c=V*2^s):
 val (P++[(c+x*2^s)%4294967296])+4294967296^(k+1)*((c+x*2^s)/4294967296)=(V+4294967296^k*x)*2^s:=by
 rw[kD,hP,eD]
 have h1:=wO (4294967296^k) (c+x*2^s)
 rw[bO 4294967296] at h1
 rw[dD,<-bS] at h1
 rw[dJ]
 omega
theorem aLz {c x s:Nat} (hs:s<=31) (hc:c<2^s) (hx:x<4294967296):c+x*2^s<9223372036854775808/\(c+x*2^s)/4294967296<2^s/\2^s<=2147483648:=by
 have h1:2^s<=2^31:=eI dC hs
 have h2:x*2^s<=4294967295*2^s:=aZ _ oM
 generalize 2^s=p at*
 generalize x*p=q at*
 omega
theorem aZj {c x s:Nat} (hc:c<2^s):c|||x*2^s=c+x*2^s:=by
 have h:=hJ hc x
 rw[bO] at h
 rw[Nat.or_comm,<-h,gP]
theorem nI (x:List Nat) (k:Nat):val (x.drop k)=dig x k+4294967296*val (x.drop (k+1)):=by
 by_cases h:k<x.length
 ·rw[oP h,sY h];rfl
 rw[yO h,cH oM,cH oM];rfl
theorem rE {x:List Nat} (hx:Lm x) (k:Nat):val x/4294967296^k=val (x.drop k):=by
 have hk:val (x.take k)<4294967296^k:=bN (jL (hx.take k)) (eI dC (by rw[bE];omega))
 by_cases h:k<=x.length
 ·rw[mN x h,kM _ _ (gV dC),gW hk,eA]
 rw[cB oM] at hk
 rw[cH oM,gW hk];rfl
theorem aMa {a r s:Nat} (B:Nat) (hB:B=2^32) (hs:s<=31):(a+B*(B*r))/2^s%B=a/2^s%B:=by
 have hp:B=2^s*2^(32-s):=by rw[hB,<-iK,show s+(32-s)=32 by omega]
 have e3:B*(B*r)=2^s*(B*(2^(32-s)*r)):=by
  rw[<-bS B (2^(32-s)) r,bO B (2^(32-s)),bS (2^(32-s)) B r,<-bS (2^s) (2^(32-s)),<-hp]
 rw[e3,kM _ _ (gV dC),Nat.add_mul_mod_self_left]
theorem aXc {x:List Nat} (hx:Lm x) {k s:Nat} (hs:s<=31):(dig x k+4294967296*dig x (k+1))/2^s%4294967296=val x/2^s/4294967296^k%4294967296:=by
 rw[iF,bO (2^s),<-iF,rE hx,nI x k,nI x (k+1),dD,<-iA]
 exact(aMa 4294967296 rfl hs).symm
theorem aZk {P:List Nat} {W k:Nat} (hP:P.length=k) (h:val P=W%4294967296^k):val (P++[W/4294967296^k%4294967296])=W%4294967296^(k+1):=by
 rw[kD,hP,h,eD,Nat.mod_mul]
theorem cFa {n u:Nat} {Q:List Nat}:(List.replicate (n+1) 0++Q).set n u=List.replicate n 0++(u::Q):=by
 rw[nE,cU,iM (h:=by simp)]
 simp
theorem aXd {x:List Nat} {n d r:Nat} {Q:List Nat} (hn:n<x.length) (hd:0<d) (h:val (x.drop (n+1))=val Q*d+r):
 val (x.drop n)=val ((r*4294967296+x.getD n default)/d::Q)*d+(r*4294967296+x.getD n default)%d:=by
 have h1:=tO (a:=x) (n:=n+1) oM oM
 rw[fG] at h1
 rw[h1,h]
 show _=((r*4294967296+x.getD n default)/d+4294967296*val Q)*d+_
 have h2:=fP (r*4294967296+x.getD n default) d
 rw[bO d] at h2
 rw[dJ,bS]
 generalize (r*4294967296+x.getD n default)/d*d=q1 at*
 generalize (r*4294967296+x.getD n default)%d=m1 at*
 generalize val Q*d=t at*
 omega
theorem bKk {r d x:Nat} (hr:r<d) (hd:d<4294967296) (hx:x<4294967296):(r*4294967296+x)/d<4294967296/\r*4294967296+x<18446744073709551616:=by
 refine⟨(gK oM).2 ?_,by omega⟩
 have:(r+1)*4294967296<=d*4294967296:=aZ _ hr
 rw[bO 4294967296 d]
 omega
end Go.Vm
namespace Go.Vm
theorem cFb {u v:List Nat} {n:Nat} (hu:u.length=n+1) (hv:v.length=n) (hn:2<=n) (lu:Lm u) (lv:Lm v) (htop:2147483648<=v.getD (n-1) default) (hq:val u<val v*4294967296):
 Kd (val u) (val v) (u.getD n default*4294967296+u.getD (n-1) default) (v.getD (n-1) default) (v.getD (n-2) default) (u.getD (n-2) default) (4294967296^(n-2)) (val (u.take (n-2))) (val (v.take (n-2))):=by
 obtain⟨m,rfl⟩:∃m,n=m+2:=⟨n-2,by omega⟩
 have e1:=dT (xs:=u) (k:=m) oM
 have e2:=dT (xs:=u) (k:=m+1) oM
 have e3:=dT (xs:=u) (k:=m+2) oM
 rw[cB (show u.length<=m+2+1 by omega)] at e3
 have f1:=dT (xs:=v) (k:=m) oM
 have f2:=dT (xs:=v) (k:=m+1) oM
 rw[cB (show v.length<=m+1+1 by omega)] at f2
 have hp1:4294967296^(m+1)=4294967296^m*4294967296:=eD ..
 have hp2:4294967296^(m+2)=4294967296^(m+1)*4294967296:=eD ..
 have lt1:=jL (lu.take m)
 have lt2:=jL (lv.take m)
 rw[bE,eH oM] at lt1 lt2
 simp only[show m+2-1=m+1 by omega,fG]
 rw[hp1] at e2 f2
 rw[hp2,hp1] at e3
 refine⟨?_,?_,lt1,lt2,by simpa using htop,lv.at oM,lu.at oM,hq⟩
 ·rw[e3,e2,e1,dJ,dJ]
  generalize 4294967296^m=p
  generalize u.getD (m+2) default=a
  generalize u.getD (m+1) default=b
  generalize u.getD m default=c
  rw[dJ,bO c p,sG a 4294967296 4294967296,bS a 4294967296 4294967296,bS p,bS p,bS p]
  rw[bS a (4294967296*4294967296) p,bS b 4294967296 p,bO (4294967296*4294967296) p,bO 4294967296 p,<-bS a p,<-bS b p,bO a p,bO b p,bS p a,bS p b,bO a,bO b]
  rw[bS 4294967296 4294967296 a]
  omega
 rw[f2,f1,dJ]
 generalize 4294967296^m=p
 generalize v.getD (m+1) default=b
 generalize v.getD m default=c
 rw[bO c p,bS b 4294967296 p,bO 4294967296 p,<-bS b p,bO b p,bS p b,bS p 4294967296 b,bO b]
 omega
theorem aCt {P u:List Nat} {k:Nat} (hP:P.length=k):(P++u.drop k).getD k default=u.getD k default:=by
 subst hP
 rw[aD,aD,bR (aI _),jA,dL,gO]
theorem zP {P u:List Nat} {k z:Nat} (hP:P.length=k) (hk:k<u.length):(P++u.drop k).set k z=(P++[z])++u.drop (k+1):=by
 subst hP
 rw[iM (h:=aI _),jA,oP hk]
 simp
end Go.Vm
namespace Go.Vm
theorem aOy {a m n s V:Nat} {U:List Nat} (hl:U.length=m+1) (hU:Lm U) (hv:val U=a*2^s) (ha:a<4294967296^m) (hs:s<=31) (hn:n<=m) (h1:1<=n) (hV:2147483648*4294967296^(n-1)<=V):val (U.drop (m+1-n))<V:=by
 have hd:=rE hU (m+1-n)
 rw[<-hd,hv]
 refine bN ?_ hV
 refine(gK (gV dC)).2 ?_
 have e:4294967296^(n-1)*4294967296^(m+1-n)=4294967296^m:=by rw[<-iK];congr 1;omega
 rw[bS,e,bO a]
 have h31:2^s<=2147483648:=aJ (eI dC hs) dC
 exact bN (Nat.mul_lt_mul_of_pos_left ha (gV dC)) (aZ _ h31)
theorem aZl {u:List Nat} {j n V:Nat} (lu:Lm u) (hl:j+n+1<=u.length) (hV:V<4294967296^n) (h:val (u.drop (j+1))<V):val ((u.drop j).take (n+1))<V*4294967296/\val (u.drop (j+(n+1)))=0:=by
 have h1:=tO (a:=u) (n:=j+1) (Nat.succ_pos _) oM
 rw[fG] at h1
 have hj:=lu.at (k:=j) oM
 have h2:=mN (u.drop j) (m:=n+1) (by rw[cK];omega)
 rw[sH] at h2
 have hlt:val (u.drop j)<V*4294967296:=by rw[h1];omega
 have hz:val (u.drop (j+(n+1)))=0:=by
  rcases cE (val (u.drop (j+(n+1)))) with h|h
  ·exact h
  have h3:4294967296^(n+1)<=4294967296^(n+1)*val (u.drop (j+(n+1))):=fB _ h
  have h4:V*4294967296<4294967296^(n+1):=by rw[eD];exact jB hV dC
  omega
 exact⟨by rw[hz,pA,gO] at h2;omega,hz⟩
theorem aXe {u mid Q:List Nat} {j n V A q:Nat} (hl:j+n+1<=u.length) (hm:mid.length=n+1) (hz:val (u.drop (j+(n+1)))=0) (hq:q=val ((u.drop j).take (n+1))/V) (hr:val mid=val ((u.drop j).take (n+1))%V) (hV:0<V)
 (h:A=val u+V*(4294967296^(j+1)*val Q)):A=val (u.take j++mid++u.drop (j+(n+1)))+V*(4294967296^j*val (q::Q))/\val ((u.take j++mid++u.drop (j+(n+1))).drop j)<V/\(u.take j++mid++u.drop (j+(n+1))).length=u.length:=by
 have htl:(u.take j).length=j:=by rw[bE];omega
 have e1:val (u.take j++mid++u.drop (j+(n+1)))=val (u.take j)+4294967296^j*val mid:=by
  rw[cU,mY,mY,hz,htl];simp
 have e2:val u=val (u.take j)+4294967296^j*val ((u.drop j).take (n+1)):=by
  have h2:=mN u (m:=j) oM
  have h3:=mN (u.drop j) (m:=n+1) (by rw[cK];omega)
  rw[sH,hz,pA,gO] at h3
  rw[h2,h3]
 have e3:val ((u.take j++mid++u.drop (j+(n+1))).drop j)=val mid:=by
  have h5:((u.take j++mid++u.drop (j+(n+1))).drop j)=mid++u.drop (j+(n+1)):=by
   rw[cU,gJ oM,cH oM,kB]
  rw[h5,mY,hz];simp
 refine⟨?_,?_,?_⟩
 ·refine(aXb (A:=val u) (Q:=val Q) (low:=val (u.take j)) (W:=val ((u.drop j).take (n+1))) (W':=val mid) (V:=V) (j:=j) (q:=q) (B':=4294967296^j) ?_ rfl e2 e1 ?_).trans ?_
  ·rw[h,eD,bS (4294967296^j)]
  ·rw[hq,hr,bO];exact(fP _ _).symm
  rfl
 ·rw[e3,hr];exact dM _ hV
 simp only[aE,cK,htl,hm];omega
theorem aZm {a b s A V R Q:Nat} (hA:A=a*2^s) (hV:V=b*2^s) (h:A=R+V*Q) (hR:R<V):Q=a/b/\R/2^s=a%b:=by
 have hp:0<2^s:=gV dC
 have h1:=aHv (n:=A) (b:=V) (Qn:=Q) (r:=R) (by rw[h,bO];omega) hR
 refine⟨?_,?_⟩
 ·rw[h1.1,hA,hV,Nat.mul_div_mul_right _ _ hp]
 rw[h1.2,hA,hV,Nat.mul_mod_mul_right,Nat.mul_div_cancel _ hp]
theorem aZn {Y:List Nat} {V n s:Nat} (lY:Lm Y) (hs:s<=31) (hn:2<=n) (hl:Y.length=n) (hV:V=val Y*2^s) (h1:2147483648<=Y.getD (n-1) default*2^s) (h2:Y.getD (n-1) default*2^s<4294967296):2147483648*4294967296^(n-1)<=V/\V<4294967296^n:=by
 have e:=dT (xs:=Y) (k:=n-1) oM
 rw[show n-1+1=n by omega,cB oM] at e
 have hlt:=jL (lY.take (n-1))
 rw[bE,show min (n-1) Y.length=n-1 by omega] at hlt
 have ep:4294967296^n=4294967296^(n-1)*4294967296:=by rw[<-eD];congr 1;omega
 have ek:4294967296=2^(32-s)*2^s:=by rw[<-iK,show 32-s+s=32 by omega]
 have hk:0<2^s:=gV dC
 generalize Y.getD (n-1) default=t at*
 generalize val (Y.take (n-1))=lo at*
 have h3:(t+1)*2^s<=4294967296:=by
  rw[ek] at h2 ⊢
  exact aZ _ (jR h2)
 clear ek
 generalize 4294967296^(n-1)=p at*
 generalize 2^s=k at*
 subst hV
 rw[e,ep]
 refine⟨?_,?_⟩
 ·have h4:=cZ p h1
  have h5:p*(t*k)<=(lo+p*t)*k:=by rw[dJ,bS];exact Nat.le_add_left _ _
  rw[bO p] at h4
  exact aJ h4 h5
 have h4:=cZ p h3
 refine bN ?_ h4
 rw[<-bS,dD,bI]
 exact jB oM hk
theorem bKl {L:List Nat} {n:Nat} (hn:1<=n) (hl:L.length=n) (hL:Lm L) (h:2147483648*4294967296^(n-1)<=val L):2147483648<=L.getD (n-1) default:=by
 have e:=dT (xs:=L) (k:=n-1) oM
 rw[show n-1+1=n by omega,cB oM] at e
 have hlt:=jL (hL.take (n-1))
 rw[bE,show min (n-1) L.length=n-1 by omega] at hlt
 rw[e] at h
 generalize 4294967296^(n-1)=p at*
 generalize L.getD (n-1) default=t at*
 rcases eC t 2147483648 with h6|h6
 ·have h7:p*(t+1)<=p*2147483648:=cZ p h6
  rw[dD,bI] at h7
  omega
 exact h6
theorem aMb {L:List Nat} {n:Nat} (hl:n<=L.length) (h:val L<4294967296^n):val (L.take n)=val L:=by
 have e:=mN L hl
 rcases cE (val (L.drop n)) with h0|h0
 ·rw[h0] at e;omega
 have:=fB (4294967296^n) h0;omega
def sgn (e:Bool):Int:=match e with
 |true=>1
 |false=>-1
theorem sZ (e:Bool):sgn (!e)=-sgn e:=by cases e<;>rfl
theorem aZo (e:Bool):sgn e*sgn e=1:=by cases e<;>rfl
structure Leh (A B h X Y x y u0 u1 u2 v0 v1 v2:Nat) (e:Bool):Prop where
 fx:A/h=X
 fy:B/h=Y
 hh:0<h
 i1:v2*x+v1*y=X
 i2:u2*x+u1*y=Y
 s1:(x:Int)=-sgn e*(u1*X-v1*Y)
 s2:(y:Int)=sgn e*(u2*X-v2*Y)
 le2:u2<=v2
 les:u1+u2<=v1+v2
 pos:1<=v2
 yx:y<=x
 det:(u1:Int)*v2-u2*v1=-sgn e
 st:(e=false/\u0=0/\v0=0/\u1=1/\v1=0/\u2=0/\v2=1)\/((u0:Int)*v1-u1*v0=sgn e/\0<=-sgn e*(u1*A-v1*B)/\-sgn e*(u1*A-v1*B)<=B/\
  (v0=0\/(-sgn e*(u1*A-v1*B)<sgn e*(u0*A-v0*B)/\sgn e*(u0*A-v0*B)<=B)))
theorem Leh.start {A B h:Nat} (hh:0<h) (hAB:B<=A):Leh A B h (A/h) (B/h) (A/h) (B/h) 0 1 0 0 0 1 false:=by
 refine⟨rfl,rfl,hh,by omega,by omega,?_,?_,by omega,by omega,by omega,qL hAB,rfl,.inl ⟨rfl,rfl,rfl,rfl,rfl,rfl,rfl⟩⟩
 ·simp[sgn]
 simp[sgn]
theorem aTb {u v α β h:Int} (e:Bool) (hu:0<=u) (huv:u<=v) (ha:0<=α) (ha':α<=h-1) (hb:0<=β) (hb':β<=h-1):-(v*(h-1))<=sgn e*(u*α-v*β):=by
 have h1:u*α<=v*(h-1):=Int.le_trans (lN huv ha) (qM ha' oM)
 have h2:v*β<=v*(h-1):=qM hb' oM
 have h3:0<=u*α:=xN hu ha
 have h4:0<=v*β:=xN oM hb
 cases e<;>simp only[sgn]<;>omega
theorem Leh.bounds {A B h X Y x y u0 u1 u2 v0 v1 v2:Nat} {e:Bool} (H:Leh A B h X Y x y u0 u1 u2 v0 v1 v2 e) (hy:1<=y):v1+v2<=X/\u1+u2<=Y/\v2<=X/\u2<=Y:=by
 have h1:=H.i1
 have h2:=H.i2
 have hx:1<=x:=aJ hy H.yx
 have a1:=fB v2 hx
 have a2:=fB v1 hy
 have a3:=fB u2 hx
 have a4:=fB u1 hy
 omega
theorem Leh.step {A B h X Y x y u0 u1 u2 v0 v1 v2:Nat} {e:Bool} (H:Leh A B h X Y x y u0 u1 u2 v0 v1 v2 e) (c1:v2<=y) (c2:v1+v2<=x-y):
 Leh A B h X Y y (x%y) u1 u2 (u1+x/y*u2) v1 v2 (v1+x/y*v2) (!e)/\x%y<y/\v1+x/y*v2<=X/\u1+x/y*u2<=Y:=by
 have hy:1<=y:=aJ H.pos c1
 have hdm:=fP x y
 have hlt:=dM x hy
 have hx:=H.yx
 have hq:1<=x/y:=(Nat.one_le_div_iff hy).2 hx
 generalize hqq:x/y=q at*
 generalize hrr:x%y=r at*
 have hxr:(x:Int)=y*q+r:=by exact_mod_cast hdm.symm
 obtain⟨α,hα,hα1⟩:∃α:Int,(A:Int)=X*h+α/\0<=α/\α<=h-1:=by
  refine⟨(A%h:Nat),?_,by omega,by have:=dM A H.hh;omega⟩
  have:=fP A h
  rw[H.fx] at this
  rw[<-gD,<-qR,bO,this]
 obtain⟨β,hβ,hβ1⟩:∃β:Int,(B:Int)=Y*h+β/\0<=β/\β<=h-1:=by
  refine⟨(B%h:Nat),?_,by omega,by have:=dM B H.hh;omega⟩
  have:=fP B h
  rw[H.fy] at this
  rw[<-gD,<-qR,bO,this]
 have hhI:(1:Int)<=h:=by have:=H.hh;omega
 have n1:sgn e*(u2*A-v2*B)=y*h+sgn e*(u2*α-v2*β):=by
  rw[hα,hβ,H.s2]
  grind
 have n0:-sgn e*(u1*A-v1*B)-sgn e*(u2*A-v2*B)=(x-y)*h+sgn (!e)*((u1+u2)*α-(v1+v2)*β):=by
  rw[hα,hβ,sZ]
  have t1:=H.s1
  have t2:=H.s2
  rw[Int.sub_mul,t1,t2]
  grind
 have l1:=aTb (u:=u2) (v:=v2) (α:=α) (β:=β) (h:=h) e oM (by have:=H.le2;omega) hα1.1 hα1.2 hβ1.1 hβ1.2
 have l0:=aTb (u:=u1+u2) (v:=v1+v2) (α:=α) (β:=β) (h:=h) (!e) oM (by have:=H.les;omega) hα1.1 hα1.2 hβ1.1 hβ1.2
 have m1:(v2:Int)*h<=y*h:=lN oM oM
 have m0:((v1:Int)+v2)*h<=(x-y)*h:=lN oM oM
 have e1:(v2:Int)*(h-1)=v2*h-v2:=by rw[Int.mul_sub,xO]
 have e0:((v1:Int)+v2)*(h-1)=(v1+v2)*h-(v1+v2):=by rw[Int.mul_sub,xO]
 have hp:=H.pos
 have p1:0<=sgn e*(u2*A-v2*B):=by rw[n1];omega
 have p0:sgn e*(u2*A-v2*B)< -sgn e*(u1*A-v1*B):=by omega
 have H':Leh A B h X Y y r u1 u2 (u1+q*u2) v1 v2 (v1+q*v2) (!e):=by
  refine⟨H.fx,H.fy,H.hh,?_,?_,?_,?_,?_,?_,?_,by omega,?_,?_⟩
  ·have:=H.i1;grind
  ·have:=H.i2;grind
  ·rw[sZ,tJ];exact H.s2
  ·have t1:=H.s1
   have t2:=H.s2
   rw[sZ]
   have:(r:Int)=x-y*q:=by omega
   rw[this,t1]
   have t3:(y:Int)*q=sgn e*(u2*X-v2*Y)*q:=by rw[<-t2]
   rw[t3]
   push_cast
   grind
  ·have a:=H.le2
   have b:=H.les
   have c:=cZ (q-1) a
   have d1:q*u2=(q-1)*u2+u2:=by rw[<-dU,nP,mG hq]
   have d2:q*v2=(q-1)*v2+v2:=by rw[<-dU,nP,mG hq]
   omega
  ·have a:=H.le2
   have b:=H.les
   have c:=cZ (q-1) a
   have d1:q*u2=(q-1)*u2+u2:=by rw[<-dU,nP,mG hq]
   have d2:q*v2=(q-1)*v2+v2:=by rw[<-dU,nP,mG hq]
   omega
  ·have:=Nat.le_mul_of_pos_left v2 hq
   omega
  ·have:=H.det
   rw[sZ]
   push_cast
   grind
  right
  refine⟨by rw[sZ];exact H.det,by rw[sZ,tJ];exact p1,?_,?_⟩
  ·rw[sZ,tJ]
   rcases H.st with ⟨he,_,_,_,_,hu2,hv2⟩|⟨_,_,h3,_⟩
   ·subst he hu2 hv2
    simp[sgn]
   omega
  rcases H.st with ⟨_,_,_,_,hv1,_,_⟩|⟨_,_,h3,_⟩
  ·exact .inl hv1
  right
  rw[sZ,tJ]
  exact⟨p0,h3⟩
 refine⟨H',hlt,?_,?_⟩
 ·have t:=H'.i1
  have:=fB (v1+q*v2) hy
  omega
 have t:=H'.i2
 have:=fB (u1+q*u2) hy
 omega
theorem Leh.fin {A B h X Y x y u0 u1 u2 v0 v1 v2:Nat} {e:Bool} (H:Leh A B h X Y x y u0 u1 u2 v0 v1 v2 e) (hv:v0≠0):
 (e=true->v0*B<=u0*A/\u1*A<=v1*B/\Nat.gcd (u0*A-v0*B) (v1*B-u1*A)=Nat.gcd A B/\v1*B-u1*A<u0*A-v0*B/\u0*A-v0*B<=B)/\
 (e=false->u0*A<=v0*B/\v1*B<=u1*A/\Nat.gcd (v0*B-u0*A) (u1*A-v1*B)=Nat.gcd A B/\u1*A-v1*B<v0*B-u0*A/\v0*B-u0*A<=B):=by
 rcases H.st with ⟨_,_,h,_⟩|⟨hd,h1,h2,h3⟩
 ·exact absurd h hv
 have h3:=h3.resolve_left hv
 have key:∀a b:Nat,(a:Int)=sgn e*(u0*A-v0*B)->(b:Int)=-sgn e*(u1*A-v1*B)->Nat.gcd a b=Nat.gcd A B:=by
  intro a b ha hb
  have k1:A=v1*a+v0*b:=by
   have:(A:Int)=v1*a+v0*b:=by
    rw[ha,hb]
    have:=aZo e
    have e2:(v1:Int)*(sgn e*(u0*A-v0*B))+v0*(-sgn e*(u1*A-v1*B))=sgn e*A*(u0*v1-u1*v0):=by grind
    rw[e2,hd]
    grind
   exact_mod_cast this
  have k2:B=u1*a+u0*b:=by
   have:(B:Int)=u1*a+u0*b:=by
    rw[ha,hb]
    have:=aZo e
    have e2:(u1:Int)*(sgn e*(u0*A-v0*B))+u0*(-sgn e*(u1*A-v1*B))=sgn e*B*(u0*v1-u1*v0):=by grind
    rw[e2,hd]
    grind
   exact_mod_cast this
  apply Nat.dvd_antisymm
  ·refine Nat.dvd_gcd ?_ ?_
   ·rw[k1];exact Nat.dvd_add (tY (jJ a b) (pT ..)) (tY (pB a b) (pT ..))
   rw[k2];exact Nat.dvd_add (tY (jJ a b) (pT ..)) (tY (pB a b) (pT ..))
  have hA:((Nat.gcd A B:Nat):Int)∣(A:Int):=lO.2 (jJ A B)
  have hB:((Nat.gcd A B:Nat):Int)∣(B:Int):=lO.2 (pB A B)
  refine Nat.dvd_gcd ?_ ?_
  ·rw[<-lO,ha]
   exact nU (Int.dvd_sub (nU hA (lS ..)) (nU hB (lS ..))) (lS ..)
  rw[<-lO,hb]
  exact nU (Int.dvd_sub (nU hA (lS ..)) (nU hB (lS ..))) (lS ..)
 constructor
 ·intro he
  subst he
  simp only[sgn,tK,xP] at h1 h2 h3 key
  have c1:v0*B<=u0*A:=by
   have:(v0:Int)*B<=u0*A:=by omega
   exact_mod_cast this
  have c2:u1*A<=v1*B:=by
   have:(u1:Int)*A<=v1*B:=by omega
   exact_mod_cast this
  have w1:((u0*A-v0*B:Nat):Int)=u0*A-v0*B:=by rw[qS c1];push_cast;rfl
  have w2:((v1*B-u1*A:Nat):Int)=v1*B-u1*A:=by rw[qS c2];push_cast;rfl
  refine⟨c1,c2,key _ _ w1 (by rw[w2];omega),?_,?_⟩
  ·have:((v1*B-u1*A:Nat):Int)<((u0*A-v0*B:Nat):Int):=by rw[w1,w2];omega
   exact_mod_cast this
  have:((u0*A-v0*B:Nat):Int)<=(B:Int):=by rw[w1];omega
  exact_mod_cast this
 intro he
 subst he
 simp only[sgn,tK,xP,tJ] at h1 h2 h3 key
 have c1:u0*A<=v0*B:=by
  have:(u0:Int)*A<=v0*B:=by omega
  exact_mod_cast this
 have c2:v1*B<=u1*A:=by
  have:(v1:Int)*B<=u1*A:=by omega
  exact_mod_cast this
 have w1:((v0*B-u0*A:Nat):Int)=v0*B-u0*A:=by rw[qS c1];push_cast;rfl
 have w2:((u1*A-v1*B:Nat):Int)=u1*A-v1*B:=by rw[qS c2];push_cast;rfl
 refine⟨c1,c2,key _ _ (by rw[w1];omega) w2,?_,?_⟩
 ·have:((u1*A-v1*B:Nat):Int)<((v0*B-u0*A:Nat):Int):=by rw[w1,w2];omega
  exact_mod_cast this
 have:((v0*B-u0*A:Nat):Int)<=(B:Int):=by rw[w1];omega
 exact_mod_cast this
theorem bKm {x:List Nat} {n s:Nat} (lm:Lm x) (hn:3<=n) (hl:x.length<=n) (hs:s<=31):val x/(4294967296^(n-3)*2^(32-s))=(dig x (n-1)*4294967296+dig x (n-2))*2^s+dig x (n-3)/2^(32-s):=by
 rw[<-iF,rE lm,nI,show n-3+1=n-2 by omega,nI x (n-2),show n-2+1=n-1 by omega,nI x (n-1),cH oM]
 have e:(4294967296:Nat)=2^(32-s)*2^s:=by rw[<-iK,show 32-s+s=32 by omega]
 have hp:0<2^(32-s):=gV dC
 simp only[val,pA,gO]
 have e2:dig x (n-3)+4294967296*(dig x (n-2)+4294967296*dig x (n-1))=dig x (n-3)+2^(32-s)*((dig x (n-1)*4294967296+dig x (n-2))*2^s):=by
  congr 1
  rw[gP (dig x (n-2)),bO 4294967296 (dig x (n-1)),bO ((dig x (n-1)*4294967296+dig x (n-2))) (2^s),<-bS,<-e]
 rw[e2,kM _ _ hp,gP]
theorem bKn {d1 d2 d3 s:Nat} (hs:s<=31) (h1:d1*2^s<4294967296) (h2:d2<4294967296) (h3:d3<4294967296):(d1*4294967296+d2)*2^s+d3/2^(32-s)<18446744073709551616/\(d1*4294967296+d2)*2^s<18446744073709551616/\d3/2^(32-s)<2^s:=by
 have e:(4294967296:Nat)=2^(32-s)*2^s:=by rw[<-iK,show 32-s+s=32 by omega]
 have hp:0<2^(32-s):=gV dC
 have h5:d3/2^(32-s)<2^s:=(gK hp).2 (by rw[bO,<-e];exact h3)
 have h4:(d1+1)*2^s<=4294967296:=by
  rw[e] at h1 ⊢
  exact aZ _ (jR h1)
 have h6:(d1*4294967296+d2+1)*2^s<=18446744073709551616:=by
  have h7:(d1*4294967296+d2+1)*2^s<=((d1+1)*4294967296)*2^s:=aZ _ oM
  have h8:((d1+1)*4294967296)*2^s=((d1+1)*2^s)*4294967296:=by rw[sG]
  omega
 rw[dJ,iT] at h6
 generalize d3/2^(32-s)=r at*
 exact⟨by omega,by omega,h5⟩
theorem aTc {x:List Nat} {n:Nat} (lm:Lm x) (h1:1<=n) (hl:x.length<=n):dig x (n-1)=val x/4294967296^(n-1):=by
 rw[rE lm,nI,show n-1+1=n by omega,cH hl]
 simp[val]
theorem aZp {x y:List Nat} {n:Nat} (lx:Lm x) (ly:Lm y) (h1:1<=n) (hx:x.length<=n) (hy:y.length<=n) (h:val y<=val x):dig y (n-1)<=dig x (n-1):=by
 rw[aTc lx h1 hx,aTc ly h1 hy]
 exact qL h
end Go.Vm
namespace Go.Vm
theorem bTd (a b:Int):(dE (a+b).natAbs).length<=max (dE a.natAbs).length (dE b.natAbs).length+1:=
 aJ (fY (Int.natAbs_add_le a b)) (zM _ _)
theorem aDt (a b:Int):(dE (a*b).natAbs).length<=(dE a.natAbs).length+(dE b.natAbs).length:=by
 rw[lT];exact pU _ _
theorem aXf {a b:Int}:(Rat.divInt a b).num.natAbs<=a.natAbs:=by
 rw[sI]
 refine aJ (sT _ _) ?_
 rw[lT]
 have:b.sign.natAbs<=1:=by
  rcases tL b 0 with h|h|h
  ·rw[sJ h];decide
  ·rw[h];decide
  rw[pD h];decide
 calc b.sign.natAbs*a.natAbs<=1*a.natAbs:=aZ _ this
  _=a.natAbs:=iT _
theorem aFy {a b:Int}:(Rat.divInt a b).den<=b.natAbs\/(Rat.divInt a b).den=1:=by
 rw[xQ]
 split
 ·exact .inr rfl
 exact .inl (iL _ _)
theorem bKo:(dE 1).length=1:=rfl
theorem aBc {a b:Int}:(dE (Rat.divInt a b).num.natAbs).length<=(dE a.natAbs).length:=fY aXf
theorem aBd {a b:Int}:(dE (Rat.divInt a b).den).length<=max (dE b.natAbs).length 1:=by
 rcases aFy (a:=a) (b:=b) with h|h
 ·have h2:(dE (Rat.divInt a b).den).length<=(dE b.natAbs).length:=fY h
  omega
 rw[h,bKo];omega
end Go.Vm
namespace Go.Vm
theorem aMc {zx zy:Int} (h:zy≠0):(zy/((Int.gcd zx zy:Nat):Int)<0->(Rat.divInt zx zy).num=-(zx/((Int.gcd zx zy:Nat):Int))/\(Rat.divInt zx zy).den=(-(zy/((Int.gcd zx zy:Nat):Int))).natAbs)/\
 (¬zy/((Int.gcd zx zy:Nat):Int)<0->(Rat.divInt zx zy).num=zx/((Int.gcd zx zy:Nat):Int)/\(Rat.divInt zx zy).den=(zy/((Int.gcd zx zy:Nat):Int)).natAbs):=by
 have hg:0<Int.gcd zx zy:=qT _ h
 have hd1:((Int.gcd zx zy:Nat):Int)∣zx:=Int.gcd_dvd_left ..
 have hd2:((Int.gcd zx zy:Nat):Int)∣zy:=Int.gcd_dvd_right ..
 rw[sI,xQ,if_neg h,Int.gcd_comm zy zx]
 obtain⟨a,ha⟩:=hd1
 obtain⟨b,hb⟩:=hd2
 generalize Int.gcd zx zy=g at*
 have hg':(g:Int)≠0:=by omega
 have e1:zx/(g:Int)=a:=by rw[ha,iQ _ hg']
 have e2:zy/(g:Int)=b:=by rw[hb,iQ _ hg']
 have e3:zy.natAbs/g=b.natAbs:=by rw[hb,lT,eP,Nat.mul_div_cancel_left _ hg]
 rw[e1,e2,e3]
 constructor
 ·intro hn
  have hz:zy<0:=by rw[hb];exact sU oM hn
  rw[sJ hz]
  refine⟨?_,by rw[sK]⟩
  rw[ha,show(-1:Int)*((g:Int)*a)=(g:Int)*(-a) by rw[Int.neg_one_mul,xR],iQ _ hg']
 intro hn
 have hb0:0<b:=by
  rcases tL b 0 with h1|h1|h1
  ·exact absurd h1 hn
  ·rw[h1,Int.mul_zero] at hb;exact absurd hb h
  exact h1
 have hz:0<zy:=by rw[hb];exact xS oM hb0
 rw[pD hz,tK,ha,iQ _ hg']
 exact⟨rfl,rfl⟩
theorem uT (z:Int):(Rat.divInt z 1).num=z/\(Rat.divInt z 1).den=1:=by
 rw[sI,xQ]
 simp
theorem aMd (a b:Rat):Rat.divInt (a.num*(b.den:Int)+b.num*(a.den:Int)) ((a.den:Int)*(b.den:Int))=a+b:=by
 have h1:(a.den:Int)≠0:=by have:=a.den_nz;omega
 have h2:(b.den:Int)≠0:=by have:=b.den_nz;omega
 rw[<-mR _ _ h1 h2,iP,iP]
theorem aMe (a b:Rat):Rat.divInt (a.num*b.num) ((a.den:Int)*(b.den:Int))=a*b:=by
 rw[<-pM,iP,iP]
theorem aZq (a:Rat):Rat.divInt (-a.num) (a.den:Int)=-a:=by
 rw[<-xT,iP]
theorem aMf (a b:Rat):Rat.divInt (a.num*(b.den:Int)) ((a.den:Int)*b.num)=a/b:=by
 rw[kN,Rat.inv_def,<-pM,iP]
theorem bKp (z:Int):Rat.divInt z 1=(z:Rat):=by
 apply Rat.ext
 ·rw[(uT z).1];rfl
 rw[(uT z).2];rfl
theorem aTd (q:Rat):1<=(dE q.den).length:=by
 have h:=nQ (n:=q.den)
 unfold len at h
 have:=q.den_nz
 omega
end Go.Vm
namespace Go.Vm
theorem aHw {z:Int} {d:Nat} (hd:d≠0):(Rat.divInt z (d:Int)).num.natAbs=z.natAbs/Nat.gcd z.natAbs d/\(Rat.divInt z (d:Int)).den=d/Nat.gcd z.natAbs d/\((Rat.divInt z (d:Int)).num<0↔z<0):=by
 have hz:(d:Int)≠0:=by omega
 have hlaw:=(aMc (zx:=z) hz).2
 have hg:Int.gcd z (d:Int)=Nat.gcd z.natAbs d:=rfl
 rw[hg] at hlaw
 have hgp:0<Nat.gcd z.natAbs d:=nV _ oM
 have hn:¬((d:Int)/((Nat.gcd z.natAbs d:Nat):Int)<0):=by
  have:=Int.ediv_nonneg (a:=(d:Int)) (b:=((Nat.gcd z.natAbs d:Nat):Int)) oM oM
  omega
 obtain⟨h1,h2⟩:=hlaw hn
 have hdv:((Nat.gcd z.natAbs d:Nat):Int)∣z:=Int.ofNat_dvd_left.2 (jJ _ _)
 refine⟨?_,?_,?_⟩
 ·rw[h1,Int.natAbs_ediv_of_dvd hdv,eP]
 ·rw[h2,<-uP,eP]
 rw[h1]
 obtain⟨k,hk⟩:=hdv
 generalize hG:((Nat.gcd z.natAbs d:Nat):Int)=G at*
 have hGp:0<G:=by omega
 rw[hk,iQ _ oM]
 constructor
 ·intro h;exact sU hGp h
 intro h
 rcases Int.lt_or_le k 0 with h3|h3
 ·exact h3
 have:=xN (vU hGp) h3;omega
theorem cFc {a b:Int} (ha:-2147483648<a/\a<2147483648) (hb:-2147483648<b/\b<2147483648):-4611686018427387904<a*b/\a*b<4611686018427387904:=by
 have h:(a*b).natAbs<=2147483647*2147483647:=by rw[lT];exact nF oM oM
 omega
theorem aDu {a b c d:Int} {p q:Rat} (hc:0<c) (hd:0<d) (h1:Rat.divInt a c=p) (h2:Rat.divInt b d=q):Rat.divInt (a*d+b*c) (c*d)=p+q:=by
 rw[<-h1,<-h2,mR _ _ oM oM]
theorem aDv {a b c d:Int} {p q:Rat} (h1:Rat.divInt a c=p) (h2:Rat.divInt b d=q):Rat.divInt (a*b) (c*d)=p*q:=by
 rw[<-h1,<-h2,pM]
theorem aXg {a b c:Int} {p q:Rat} (hc:c≠0) (h1:Rat.divInt a c=p) (h2:Rat.divInt b c=q):Rat.divInt (a+b) c=p+q:=by
 rw[<-h1,<-h2,mR _ _ hc hc,<-Int.add_mul,Rat.divInt_mul_right hc]
theorem aZr {a:Int} {c:Int} (hc:0<c):(Rat.divInt a c<0↔a<0):=by
 have h:=aHw (z:=a) (d:=c.natAbs) oM
 rw[show((c.natAbs:Nat):Int)=c by omega] at h
 rw[<-h.2.2]
 have:=Rat.num_nonneg (q:=Rat.divInt a c)
 constructor
 ·intro h1
  rcases Int.lt_or_le (Rat.divInt a c).num 0 with h2|h2
  ·exact h2
  have:=this.1 h2;grind
 intro h1
 rcases Rat.le_total (a:=0) (b:=Rat.divInt a c) with h2|h2
 ·have:=this.2 h2;omega
 rcases Classical.em (Rat.divInt a c=0) with h3|h3
 ·rw[h3] at h1;exact absurd h1 dC
 grind
theorem aTe {a b c d:Int} {p q:Rat} (hc:0<c) (hd:0<d) (h1:Rat.divInt a c=p) (h2:Rat.divInt b d=q):(a*d<b*c↔p<q):=by
 have h3:Rat.divInt (-b) d=-q:=by rw[<-xT,h2]
 have h4:=aDu hc hd h1 h3
 have h5:=aZr (a:=a*d+ -b*c) (c:=c*d) (xS hc hd)
 rw[h4] at h5
 rw[xP] at h5
 constructor
 ·intro h;have:=h5.2 oM;grind
 intro h;have:=h5.1 (by grind);omega
theorem aZs (p q:Rat):(dE (p+q).num.natAbs).length<=max ((dE p.num.natAbs).length+(dE q.den).length) ((dE q.num.natAbs).length+(dE p.den).length)+1/\(dE (p+q).den).length<=(dE p.den).length+(dE q.den).length:=by
 rw[<-aMd p q]
 have h1:=aBc (a:=p.num*(q.den:Int)+q.num*(p.den:Int)) (b:=(p.den:Int)*(q.den:Int))
 have h2:=aBd (a:=p.num*(q.den:Int)+q.num*(p.den:Int)) (b:=(p.den:Int)*(q.den:Int))
 have h3:=bTd (p.num*(q.den:Int)) (q.num*(p.den:Int))
 have h4:=aDt p.num (q.den:Int)
 have h5:=aDt q.num (p.den:Int)
 have h6:=aDt (p.den:Int) (q.den:Int)
 have h7:=aTd p
 rw[eP] at h4 h5
 rw[eP,eP] at h6
 exact⟨by omega,by omega⟩
theorem aZt (p q:Rat):(dE (p*q).num.natAbs).length<=(dE p.num.natAbs).length+(dE q.num.natAbs).length/\(dE (p*q).den).length<=(dE p.den).length+(dE q.den).length:=by
 rw[<-aMe p q]
 have h1:=aBc (a:=p.num*q.num) (b:=(p.den:Int)*(q.den:Int))
 have h2:=aBd (a:=p.num*q.num) (b:=(p.den:Int)*(q.den:Int))
 have h4:=aDt p.num q.num
 have h6:=aDt (p.den:Int) (q.den:Int)
 have h7:=aTd p
 rw[eP,eP] at h6
 exact⟨by omega,by omega⟩
abbrev En:Type:=Int×Rat
def get:List En->Int->Rat
 |[],_=>0
 |e::es,i=>(if e.1=i then e.2 else 0)+get es i
def Asc (es:List En):Prop:=es.Pairwise λa b=>a.1<b.1
def aFz (es:List En):Prop:=∀e∈es,e.2≠0
theorem get_append (a b:List En) (i:Int):get (a++b) i=get a i+get b i:=by
 induction a with
 |nil=>rw[kB];show get b i=0+get b i;rw[fU]
 |cons e a ih=>show _+get (a++b) i=_+get a i+get b i;rw[ih,nW]
theorem get_perm {a b:List En} (h:a.Perm b) (i:Int):get a i=get b i:=by
 induction h with
 |nil=>rfl
 |cons e h ih=>show _+_=_+_;rw[ih]
 |swap x y l=>
  show(if y.1=i then y.2 else 0)+((if x.1=i then x.2 else 0)+get l i)=(if x.1=i then x.2 else 0)+((if y.1=i then y.2 else 0)+get l i)
  rw[<-nW,<-nW,Rat.add_comm (if y.1=i then y.2 else 0)]
 |trans h1 h2 a b=>rw[a,b]
theorem get_none {a:List En} {i:Int} (h:∀e∈a,e.1≠i):get a i=0:=by
 induction a with
 |nil=>rfl
 |cons e a ih=>
  show(if e.1=i then e.2 else 0)+get a i=0
  rw[if_neg (h e (by simp)),ih (λe he=>h e (by simp[he])),bP]
theorem Asc.tail {e:En} {a:List En} (h:Asc (e::a)):Asc a:=(sL.1 h).2
theorem Asc.head {e:En} {a:List En} (h:Asc (e::a)):∀x∈a,e.1<x.1:=(sL.1 h).1
theorem get_head {e:En} {a:List En} (h:Asc (e::a)):get (e::a) e.1=e.2:=by
 show(if e.1=e.1 then e.2 else 0)+get a e.1=e.2
 rw[if_pos rfl,get_none (λx hx=>by have:=h.head x hx;omega),bP]
theorem oI {a:List En} {i:Int} (h:∀x∈a,i<x.1):get a i=0:=get_none λe he=>by have:=h e he;omega
theorem jD {e:En} {a:List En} {i:Int} (h:e.1≠i):get (e::a) i=get a i:=by
 show(if e.1=i then e.2 else 0)+get a i=get a i
 rw[if_neg h,fU]
theorem canon_ext:∀(a b:List En),Asc a->Asc b->aFz a->aFz b->(∀i,get a i=get b i)->a=b
 |[],[],_,_,_,_,_=>rfl
 |[],y::b,_,hb,_,zb,h=>by have:=h y.1;rw[get_head hb] at this;exact absurd this.symm (zb y (by simp))
 |x::a,[],ha,_,za,_,h=>by have:=h x.1;rw[get_head ha] at this;exact absurd this (za x (by simp))
 |x::a,y::b,ha,hb,za,zb,h=>by
  have hx:=h x.1
  have hy:=h y.1
  rw[get_head ha] at hx
  rw[get_head hb] at hy
  have hxy:x.1=y.1:=by
   rcases tL x.1 y.1 with h1|h1|h1
   ·rw[oI (a:=y::b) (λz hz=>by rcases bZ.1 hz with rfl|hz;exact h1;exact iS h1 (hb.head z hz))] at hx
    exact absurd hx (za x (by simp))
   ·exact h1
   rw[oI (a:=x::a) (λz hz=>by rcases bZ.1 hz with rfl|hz;exact h1;exact iS h1 (ha.head z hz))] at hy
   exact absurd hy.symm (zb y (by simp))
  have e1:x.2=y.2:=by rw[hx,hxy,get_head hb]
  have e2:x=y:=Prod.ext hxy e1
  subst e2
  congr 1
  refine canon_ext a b ha.tail hb.tail (λe he=>za e (by simp[he])) (λe he=>zb e (by simp[he])) λi=>?_
  by_cases hi:x.1=i
  ·subst hi
   rw[oI ha.head,oI hb.head]
  have:=h i
  rwa [jD hi,jD hi] at this
inductive Stp:List En->List En->Int->Rat->Rat->List En->List En->Prop
 |l (x:En) (a:List En):Stp (x::a) [] x.1 x.2 0 a []
 |r (y:En) (b:List En):Stp [] (y::b) y.1 0 y.2 [] b
 |eq (x y:En) (a b:List En) (h:x.1=y.1):Stp (x::a) (y::b) x.1 x.2 y.2 a b
 |lt (x y:En) (a b:List En) (h:x.1<y.1):Stp (x::a) (y::b) x.1 x.2 0 a (y::b)
 |gt (x y:En) (a b:List En) (h:y.1<x.1):Stp (x::a) (y::b) y.1 0 y.2 (x::a) b
theorem Stp.law {a b a' b':List En} {i:Int} {p q:Rat} (h:Stp a b i p q a' b') (ha:Asc a) (hb:Asc b):
 Asc a'/\Asc b'/\(∀e∈a',i<e.1)/\(∀e∈b',i<e.1)/\get a i=p/\get b i=q/\(∀j,j≠i->get a j=get a' j/\get b j=get b' j)/\a'.length+b'.length<a.length+b.length/\(∀z,(∀e∈a,z<e.1)->(∀e∈b,z<e.1)->z<i):=by
 cases h with
 |l x=>exact⟨ha.tail,hb,ha.head,by simp,get_head ha,rfl,λj hj=>⟨jD (gE hj),rfl⟩,by simp,λz h1 _=>h1 x (by simp)⟩
 |r y=>exact⟨ha,hb.tail,by simp,hb.head,rfl,get_head hb,λj hj=>⟨rfl,jD (gE hj)⟩,by simp,λz _ h1=>h1 y (by simp)⟩
 |eq x y a b h=>exact⟨ha.tail,hb.tail,ha.head,by rw[h];exact hb.head,get_head ha,by rw[h];exact get_head hb,λj hj=>⟨jD (gE hj),jD (by rw[<-h];exact gE hj)⟩,by simp;omega,λz h1 _=>h1 x (by simp)⟩
 |lt x y a b h=>exact⟨ha.tail,hb,ha.head,λe he=>by rcases bZ.1 he with rfl|he;exact h;exact iS h (hb.head e he),get_head ha,oI (λe he=>by rcases bZ.1 he with rfl|he;exact h;exact iS h (hb.head e he)),λj hj=>⟨jD (gE hj),rfl⟩,by simp,λz h1 _=>h1 x (by simp)⟩
 |gt x y a b h=>exact⟨ha,hb.tail,λe he=>by rcases bZ.1 he with rfl|he;exact h;exact iS h (ha.head e he),hb.head,oI (λe he=>by rcases bZ.1 he with rfl|he;exact h;exact iS h (ha.head e he)),get_head hb,λj hj=>⟨rfl,jD (gE hj)⟩,by simp,λz _ h1=>h1 y (by simp)⟩
def aMg:List (Rat×Rat)->Rat
 |[]=>0
 |x::l=>x.1*x.2+aMg l
def dtF:List En->List En->Rat
 |[],_=>0
 |e::a,b=>e.2*get b e.1+dtF a b
theorem aXh (l:List (Rat×Rat)) (p q:Rat):aMg (l++[(p,q)])=aMg l+p*q:=by
 induction l with
 |nil=>show p*q+0=0+p*q;rw[bP,fU]
 |cons x l ih=>show _+aMg (l++[(p,q)])=_+aMg l+p*q;rw[ih,nW]
theorem aXi {a b b':List En} (h:∀e∈a,get b e.1=get b' e.1):dtF a b=dtF a b':=by
 induction a with
 |nil=>rfl
 |cons e a ih=>show _*_+_=_*_+_;rw[h e (by simp),ih (λe he=>h e (by simp[he]))]
theorem Stp.dt {a b a' b':List En} {i:Int} {p q:Rat} (h:Stp a b i p q a' b') (ha:Asc a) (hb:Asc b):dtF a b=p*q+dtF a' b':=by
 obtain⟨h1,h2,h3,h4,h5,h6,h7,_⟩:=h.law ha hb
 have hc:dtF a' b=dtF a' b':=aXi λe he=>(h7 e.1 (by have:=h3 e he;omega)).2
 cases h with
 |l x=>show x.2*get [] x.1+dtF a' []=x.2*0+dtF a' [];rfl
 |r y=>show(0:Rat)=0*y.2+0;rw[dQ,bP]
 |eq x y=>show x.2*get (y::b') x.1+dtF a' (y::b')=_;rw[h6,hc]
 |lt x y=>show x.2*get (y::_) x.1+dtF a' (y::_)=_;rw[h6]
 |gt x y=>rw[hc,dQ,fU]
structure Mg (op:Rat->Rat->Rat) (a0 b0 a b rs:List En) (ps:List (Rat×Rat)):Prop where
 aa:Asc a
 ab:Asc b
 ar:Asc rs
 nz:aFz rs
 lo:∀e∈rs,(∀x∈a,e.1<x.1)/\(∀x∈b,e.1<x.1)
 gt:∀j,(get a j=get a0 j/\get b j=get b0 j/\get rs j=0)\/(get a j=0/\get b j=0/\get rs j=op (get a0 j) (get b0 j)/\(∀x∈a,j<x.1)/\(∀x∈b,j<x.1))
 dt:aMg ps+dtF a b=dtF a0 b0
theorem aCe {rs:List En} {i j:Int} {q:Rat} (h:j≠i):get (rs++[(i,q)]) j=get rs j:=by
 rw[get_append];show get rs j+((if i=j then q else 0)+0)=get rs j
 rw[if_neg (gE h),bP,bP]
theorem aMh {rs:List En} {i:Int} {q:Rat} (h:get rs i=0):get (rs++[(i,q)]) i=q:=by
 rw[get_append,h];show 0+((if i=i then q else 0)+0)=q
 rw[if_pos rfl,bP,fU]
theorem Mg.start {op:Rat->Rat->Rat} {a b:List En} (ha:Asc a) (hb:Asc b):Mg op a b a b [] []:=
 ⟨ha,hb,List.Pairwise.nil,(λ_ h=>by cases h),(λ_ h=>by cases h),λ_=> .inl ⟨rfl,rfl,rfl⟩,by show 0+_=_;rw[fU]⟩
theorem Mg.step {op:Rat->Rat->Rat} {a0 b0 a b rs a' b':List En} {ps:List (Rat×Rat)} {i:Int} {p q:Rat} (H:Mg op a0 b0 a b rs ps) (h:Stp a b i p q a' b'):
 (op p q=0->Mg op a0 b0 a' b' rs (ps++[(p,q)]))/\(op p q≠0->Mg op a0 b0 a' b' (rs++[(i,op p q)]) (ps++[(p,q)])):=by
 obtain⟨h1,h2,h3,h4,h5,h6,h7,h8,h9⟩:=h.law H.aa H.ab
 have hlo:∀e∈rs,e.1<i:=λe he=>h9 e.1 (H.lo e he).1 (H.lo e he).2
 have hri:get rs i=0:=get_none λe he=>by have:=hlo e he;omega
 have ga':get a' i=0:=oI h3
 have gb':get b' i=0:=oI h4
 have hi':get a0 i=p/\get b0 i=q:=by
  rcases H.gt i with ⟨g1,g2,g3⟩|⟨g1,g2,g3,g4,g5⟩
  ·exact⟨by rw[<-g1,h5],by rw[<-g2,h6]⟩
  have:=h9 i g4 g5
  omega
 have sub:∀e∈rs,(∀x∈a',e.1<x.1)/\(∀x∈b',e.1<x.1):=λe he=>⟨λx hx=>iS (hlo e he) (h3 x hx),λx hx=>iS (hlo e he) (h4 x hx)⟩
 have low:∀j,(∀x∈a,j<x.1)->(∀x∈b,j<x.1)->(∀x∈a',j<x.1)/\(∀x∈b',j<x.1):=λj g4 g5=>by
  have:=h9 j g4 g5
  exact⟨λx hx=>iS this (h3 x hx),λx hx=>iS this (h4 x hx)⟩
 have hdt:aMg (ps++[(p,q)])+dtF a' b'=dtF a0 b0:=by rw[aXh,nW,<-h.dt H.aa H.ab];exact H.dt
 constructor
 ·intro hz
  refine⟨h1,h2,H.ar,H.nz,sub,λj=>?_,hdt⟩
  by_cases hj:j=i
  ·subst hj
   exact .inr ⟨ga',gb',by rw[hri,hi'.1,hi'.2,hz],h3,h4⟩
  obtain⟨e1,e2⟩:=h7 j hj
  rcases H.gt j with ⟨g1,g2,g3⟩|⟨g1,g2,g3,g4,g5⟩
  ·exact .inl ⟨by rw[<-e1,g1],by rw[<-e2,g2],g3⟩
  exact .inr ⟨by rw[<-e1,g1],by rw[<-e2,g2],g3,(low j g4 g5).1,(low j g4 g5).2⟩
 intro hz
 refine⟨h1,h2,eR.2 ⟨H.ar,by simp,λx hx y hy=>by rw[aH.1 hy];exact hlo x hx⟩,λe he=>?_,λe he=>?_,λj=>?_,hdt⟩
 ·rcases aQ.1 he with he|he
  ·exact H.nz e he
  rw[aH.1 he];exact hz
 ·rcases aQ.1 he with he|he
  ·exact sub e he
  rw[aH.1 he];exact⟨h3,h4⟩
 by_cases hj:j=i
 ·subst hj
  exact .inr ⟨ga',gb',by rw[aMh hri,hi'.1,hi'.2],h3,h4⟩
 obtain⟨e1,e2⟩:=h7 j hj
 rcases H.gt j with ⟨g1,g2,g3⟩|⟨g1,g2,g3,g4,g5⟩
 ·exact .inl ⟨by rw[<-e1,g1],by rw[<-e2,g2],by rw[aCe hj,g3]⟩
 exact .inr ⟨by rw[<-e1,g1],by rw[<-e2,g2],by rw[aCe hj,g3],(low j g4 g5).1,(low j g4 g5).2⟩
theorem Mg.fin {op:Rat->Rat->Rat} {a0 b0 rs:List En} {ps:List (Rat×Rat)} (H:Mg op a0 b0 [] [] rs ps) (h0:op 0 0=0):Asc rs/\aFz rs/\∀i,get rs i=op (get a0 i) (get b0 i):=by
 refine⟨H.ar,H.nz,λi=>?_⟩
 rcases H.gt i with ⟨g1,g2,g3⟩|⟨g1,g2,g3,_⟩
 ·rw[g3,<-g1,<-g2];exact h0.symm
 exact g3
theorem Mg.sum {op:Rat->Rat->Rat} {a0 b0 rs:List En} {ps:List (Rat×Rat)} (H:Mg op a0 b0 [] [] rs ps):aMg ps=dtF a0 b0:=by
 rw[<-H.dt];show _=_+0;rw[bP]
end Go.Vm
namespace Go.Vy
open Go.Vg Go.RowKit
inductive CV where
 |u
 |v (x:Value)
 |h (A:Option Nat) (n c:Nat)
 |hp (b o:Nat)
 |b (p:Prop) (h:Decidable p)
 |p (i o:Nat)
 |s (i n:Nat)
 |r (A:Option Addr) (n c esz:Nat) (get:Nat->List CV)
 |q (A:Option Addr) (n c esz:Nat) (get:Nat->List CV) (j o:Nat)
 |t (i o n:Nat)
 |f (k:Nat) (fi ca:List (Nat×Nat))
inductive DV where
 |c (x:CV)
 |a (l:List CV)
 |t (l:List DV)
inductive Rc (Z:Nat->Prop) (w:World):CV->Value->Prop
 |u (x:Value):Rc Z w .u x
 |v (x:Value):Rc Z w (.v x) x
 |h (A:Option Nat) (n c:Nat):Rc Z w (.h A n c) (.slice (A.map λb=>⟨b,0,none⟩) n c)
 |hp (b o:Nat):Rc Z w (.hp b o) (.pointer (some ⟨b,o,none⟩))
 |b (p:Prop) (h:Decidable p):Rc Z w (.b p h) (.bool (@decide p h))
 |nil (A:Option Addr) (c esz:Nat) (get:Nat->List CV) (hm:c<=maxLen):Rc Z w (.r A 0 c esz get) (.slice A 0 c)
 |r (b o n c esz:Nat) (get:Nat->List CV) (V:Nat->List Value) (hc:n<=c) (hm:c<=maxLen) (hZ:Z b)
    (hcell:∀(j:Nat),j<n->∀(i:Nat) (u:Value),(V j)[i]? =some u->w.cell? ⟨b,o+j*esz+i,none⟩=some u/\u.oneCell'=true)
    (hlen:∀j,j<n->(V j).length=(get j).length)
    (hel:∀(j:Nat),j<n->∀(i:Nat) (c':CV) (u:Value),(get j)[i]? =some c'->(V j)[i]? =some u->Rc Z w c' u):
    Rc Z w (.r (some ⟨b,o,none⟩) n c esz get) (.slice (some ⟨b,o,none⟩) n c)
theorem yP {w w':World} {b o:Nat} (h:w'.heap[b]? =w.heap[b]?):w'.cell? ⟨b,o,none⟩=w.cell? ⟨b,o,none⟩:=by
 unfold World.cell?
 simp only[h]
theorem Rc.mono {Z Z':Nat->Prop} {w w':World} {c:CV} {x:Value} (h:Rc Z w c x) (hZ:∀b,Z b->Z' b/\w'.heap[b]? =w.heap[b]?):Rc Z' w' c x:=by
 induction h with
 |u x=>exact .u x
 |v x=>exact .v x
 |h A n c=>exact .h A n c
 |hp b o=>exact .hp b o
 |b p h=>exact .b p h
 |nil A c esz get hm=>exact .nil A c esz get hm
 |r b o n c esz get V hc hm hZb hcell hlen hel ih=>
  refine .r b o n c esz get V hc hm (hZ b hZb).1 (λj hj i u hu=>?_) hlen ih
  have h1:=hcell j hj i u hu
  rw[yP (hZ b hZb).2]
  exact h1
structure Fam where
 T:TypeId
 es:Nat
 N:Nat
 A:Nat->Option Nat
 cap:Nat->Nat
 get:Nat->List CV
structure Pl where
 at':Nat->Option Nat×Nat
 Z:Nat->Prop
 F:List Fam
def InL (l:List Fam) (b:Nat):Prop:=∃F∈l,∃j,j<F.N/\F.A j=some b
abbrev InF (ρ:Pl) (b:Nat):Prop:=InL ρ.F b
instance:CoeFun Pl (λ_=>Nat->Option Nat×Nat):=⟨Pl.at'⟩
structure Zf (ρ:Pl) (n:Nat) (w:World) (b:Nat):Prop where
 lt:b<w.heap.size
 no:∀i,i<n->(ρ i).1≠some b
 z:ρ.Z b
 nf:¬InF ρ b
def ptr (ρ:Pl) (p:Nat×Nat):Value:=.pointer ((ρ p.1).1.map λb=>⟨b,p.2,none⟩)
def Hc (ρ:Pl) (n:Nat) (w:World):CV->Value->Prop
 |.p i o,x=>i<n/\∃b,(ρ i).1=some b/\x= .pointer (some ⟨b,o,none⟩)
 |.s i m,x=>i<n/\x= .slice ((ρ i).1.map λb=>⟨b,0,none⟩) m (ρ i).2
 |.q A m c esz get j o,x=>Rc (Zf ρ n w) w (.r A m c esz get) (.slice A m c)/\j<m/\∃b o',A=some ⟨b,o',none⟩/\x= .pointer (some ⟨b,o'+j*esz+o,none⟩)
 |.t i o m,x=>i<n/\∃A c,m<=c/\c<=maxLen/\x= .slice A m c/\(m=0\/∃b,(ρ i).1=some b/\A=some ⟨b,o,none⟩)
 |.f k fi ca,x=>(∀p∈fi++ca,p.1<n/\(ρ p.1).1≠none)/\x= .func (.func k) (fi.map (ptr ρ)).toArray (ca.map (ptr ρ)).toArray
 |c,x=>Rc (Zf ρ n w) w c x
def Hl (ρ:Pl) (n:Nat) (w:World):List CV->List Value->Prop
 |[],[]=>True
 |c::l,x::m=>Hc ρ n w c x/\Hl ρ n w l m
 |_,_=>False
inductive Hd (ρ:Pl) (n:Nat) (w:World):DV->Value->Prop
 |c {c:CV} {x:Value} (h:Hc ρ n w c x):Hd ρ n w (.c c) x
 |a {l:List CV} {vl:List Value} (h:Hl ρ n w l vl):Hd ρ n w (.a l) (.agg vl.toArray)
 |t {l:List DV} {vl:List Value} (h:l.length=vl.length) (hh:∀(i:Nat) (d:DV) (u:Value),l[i]? =some d->vl[i]? =some u->Hd ρ n w d u):Hd ρ n w (.t l) (.tuple vl.toArray)
section rel
variable {ρ ρ':Pl} {n n':Nat} {w w':World}
structure Kp (ρ:Pl) (n:Nat) (w:World) (ρ':Pl) (n':Nat) (w':World):Prop where
 le:n<=n'
 pl:∀i,i<n->ρ' i=ρ i
 z:∀b,Zf ρ n w b->Zf ρ' n' w' b/\w'.heap[b]? =w.heap[b]?
theorem Hc.kp {c:CV} {x:Value} (h:Hc ρ n w c x) (k:Kp ρ n w ρ' n' w'):Hc ρ' n' w' c x:=by
 cases c with
 |p i o=>obtain⟨h1,b,h2,h3⟩:=h;exact⟨bN h1 k.le,b,by rw[k.pl i h1];exact h2,h3⟩
 |s i m=>obtain⟨h1,h2⟩:=h;exact⟨bN h1 k.le,by rw[k.pl i h1];exact h2⟩
 |q A m c esz get j o=>obtain⟨h1,h2⟩:=h;exact⟨h1.mono k.z,h2⟩
 |t i o m=>obtain⟨h1,h2⟩:=h;exact⟨bN h1 k.le,by rw[k.pl i h1];exact h2⟩
 |f q fi ca=>
  obtain⟨h1,h2⟩:=h
  refine⟨λp hp=>⟨bN (h1 p hp).1 k.le,by rw[k.pl p.1 (h1 p hp).1];exact(h1 p hp).2⟩,h2.trans ?_⟩
  have e:∀p∈fi++ca,ptr ρ p=ptr ρ' p:=λp hp=>by unfold ptr;rw[k.pl p.1 (h1 p hp).1]
  rw[dP λp hp=>e p (dK _ hp),dP λp hp=>e p (dS _ hp)]
 |u=>exact Rc.mono h k.z
 |v x=>exact Rc.mono h k.z
 |h A n c=>exact Rc.mono h k.z
 |hp b o=>exact Rc.mono h k.z
 |b p q=>exact Rc.mono h k.z
 |r A m c esz get=>exact Rc.mono h k.z
theorem Hl.kp {l:List CV} {m:List Value} (h:Hl ρ n w l m) (k:Kp ρ n w ρ' n' w'):Hl ρ' n' w' l m:=by
 induction l generalizing m with
 |nil=>cases m with
  |nil=>trivial
  |cons x m=>exact h
 |cons c l ih=>cases m with
  |nil=>exact h
  |cons x m=>exact⟨h.1.kp k,ih h.2⟩
theorem Hd.kp {d:DV} {x:Value} (h:Hd ρ n w d x) (k:Kp ρ n w ρ' n' w'):Hd ρ' n' w' d x:=by
 induction h with
 |c h=>exact .c (h.kp k)
 |a h=>exact .a (h.kp k)
 |t h hh ih=>exact .t h ih
theorem Hl.len {l:List CV} {m:List Value} (h:Hl ρ n w l m):l.length=m.length:=by
 induction l generalizing m with
 |nil=>cases m with
  |nil=>rfl
  |cons x m=>exact h.elim
 |cons c l ih=>cases m with
  |nil=>exact h.elim
  |cons x m=>simp only[eF,ih h.2]
theorem Hl.get {l:List CV} {m:List Value} (h:Hl ρ n w l m) {i:Nat} {c:CV} (hi:l[i]? =some c):∃x,m[i]? =some x/\Hc ρ n w c x:=by
 induction l generalizing m i with
 |nil=>cases hi
 |cons a l ih=>cases m with
  |nil=>exact h.elim
  |cons x m=>cases i with
   |zero=>injection hi with hi;subst hi;exact⟨x,rfl,h.1⟩
   |succ i=>exact ih h.2 hi
theorem Hl.append {l l2:List CV} {m m2:List Value} (h:Hl ρ n w l m) (h2:Hl ρ n w l2 m2):Hl ρ n w (l++l2) (m++m2):=by
 induction l generalizing m with
 |nil=>cases m with
  |nil=>exact h2
  |cons x m=>exact h.elim
 |cons c l ih=>cases m with
  |nil=>exact h.elim
  |cons x m=>exact⟨h.1,ih h.2⟩
theorem Hl.take {l:List CV} {m:List Value} (h:Hl ρ n w l m) (k:Nat):Hl ρ n w (l.take k) (m.take k):=by
 induction l generalizing m k with
 |nil=>cases m with
  |nil=>simp[Hl]
  |cons x m=>exact h.elim
 |cons c l ih=>cases m with
  |nil=>exact h.elim
  |cons x m=>cases k with
   |zero=>simp[Hl]
   |succ k=>exact⟨h.1,ih h.2 k⟩
theorem Hl.drop {l:List CV} {m:List Value} (h:Hl ρ n w l m) (k:Nat):Hl ρ n w (l.drop k) (m.drop k):=by
 induction l generalizing m k with
 |nil=>cases m with
  |nil=>simp[Hl]
  |cons x m=>exact h.elim
 |cons c l ih=>cases m with
  |nil=>exact h.elim
  |cons x m=>cases k with
   |zero=>exact h
   |succ k=>exact ih h.2 k
theorem Kp.refl:Kp ρ n w ρ n w:=⟨aI _,λ_ _=>rfl,λ_ h=>⟨h,rfl⟩⟩
theorem Kp.trans {ρ'':Pl} {n'':Nat} {w'':World} (h:Kp ρ n w ρ' n' w') (k:Kp ρ' n' w' ρ'' n'' w''):Kp ρ n w ρ'' n'' w'':=
 ⟨aJ h.le k.le,λi hi=>(k.pl i (bN hi h.le)).trans (h.pl i hi),λb hb=>⟨(k.z b (h.z b hb).1).1,(k.z b (h.z b hb).1).2.trans (h.z b hb).2⟩⟩
theorem Kp.ext (e:Ext w w'):Kp ρ n w ρ n w':=⟨aI _,λ_ _=>rfl,λb h=>⟨⟨bN h.lt e.size,h.no,h.z,h.nf⟩,e.block b h.lt⟩⟩
theorem Kp.exc {i b:Nat} (hi:i<n) (hb:(ρ i).1=some b) (e:Exc b w w'):Kp ρ n w ρ n w':=
 ⟨aI _,λ_ _=>rfl,λb' h=>⟨⟨bN h.lt e.size,h.no,h.z,h.nf⟩,e.block b' h.lt λhh=>h.no i hi (by rw[hb,hh])⟩⟩
end rel
/-! ### states -/
abbrev Gs:=List (Nat×Bool)
structure SS where
 sl:List (Nat×DV)
 gl:List (Nat×Gs×DV)
 bl:List (TypeId×Nat×List CV)
 fl:List Fam
def fZ:List (Nat×DV)->Nat->Option DV
 |[],_=>none
 |(t',d)::l,t=>bif Nat.beq t' t then some d else fZ l t
def yL:List (Nat×Gs×DV)->Nat->Option (Gs×DV)
 |[],_=>none
 |(t',d)::l,t=>bif Nat.beq t' t then some d else yL l t
def sat (f:Nat->Value) (gs:Gs):Prop:=∀p∈gs,f p.1= .bool p.2
structure Fr (s:SS) (ρ:Pl) (w:World) (f:Nat->Value):Prop where
 sl:∀t d,fZ s.sl t=some d->Hd ρ s.bl.length w d (f t)
 gl:∀t gs d,yL s.gl t=some (gs,d)->(sat f gs->Hd ρ s.bl.length w d (f t))/\(¬sat f gs->f t=undef)
def Bq (ρ:Pl) (n:Nat) (w:World) (i:Nat) (T:TypeId) (esz:Nat) (l:List CV):Prop:=match (ρ i).1 with
 |none=>l=[]/\(ρ i).2=0/\0<esz
 |some b=>∃vl junk,w.heap[b]? =some (.cells (vl++junk).toArray T (0,0))/\Hl ρ n w l vl/\(0<esz->(ρ i).2*esz=(vl++junk).length/\(ρ i).2<=maxLen)/\∀x∈vl,x.oneCell'=true
def wQ (e:MapEntry):CV:=match e.key with
 |.int .i64 z=> .h (some e.born) z.toNat 0
 |_=> .u
def aGs:CV->Nat
 |.h (some b) _ _=>b
 |_=>0
def nR:CV->Nat
 |.h _ n _=>n
 |_=>0
structure MapL (es:Array MapEntry) (clock:Nat) (l:List CV):Prop where
 en:es.toList.map wQ=l
 ky:∀e∈es.toList,(∃n:Nat,e.key= .int .i64 n)/\e.val= .bool true/\e.born<clock
 nd:(es.toList.map (·.key)).Nodup
 nb:(es.toList.map (·.born)).Nodup
structure ItL (since:Nat) (seen:Array Nat) (st:Nat) (g:Nat->List CV):Prop where
 le:since<=st
 lt:∀c∈g 1,aGs c<since
 rest:g 0=(g 1).filter λc=>!seen.contains (aGs c)
 cur:∀c,g 2=[c]->seen.back? =some (aGs c)
def MpV (Z:Nat->Prop) (w:World):List MapEntry->List CV->Prop
 |[],[]=>True
 |e::es,k::c::l=>(∃n:Nat,e.key= .int .i64 n/\k= .v (.int .i64 n))/\Rc Z w c e.val/\MpV Z w es l
 |_,_=>False
theorem MpV.mono {Z Z':Nat->Prop} {w w':World} (hZ:∀b,Z b->Z' b/\w'.heap[b]? =w.heap[b]?):∀{es:List MapEntry} {l:List CV},MpV Z w es l->MpV Z' w' es l
 |[],[],_=>trivial
 |e::es,k::c::l,h=>⟨h.1,h.2.1.mono hZ,MpV.mono hZ h.2.2⟩
 |[],_::_,h=>h.elim
 |_::_,[],h=>h.elim
 |_::_,[_],h=>h.elim
def ObR (Z:Nat->Prop) (w:World) (T cap:Nat) (l:List CV) (ob:Obj):Prop:=bif Nat.beq T 1000000 then ∃es,ob= .map es cap/\MapL es cap l
 else bif Nat.beq T 1000001 then ∃m since seen st g,l=[.r none 0 m st g]/\ob= .mapIter (some m) since seen st/\ItL since seen st g
 else ∃es c,ob= .map es c/\MpV Z w es.toList l
theorem ObR.mono {Z Z':Nat->Prop} {w w':World} {T cap:Nat} {l:List CV} {ob:Obj} (h:ObR Z w T cap l ob) (hZ:∀b,Z b->Z' b/\w'.heap[b]? =w.heap[b]?):ObR Z' w' T cap l ob:=by
 unfold ObR at h ⊢
 cases h1:Nat.beq T 1000000 with
 |true=>rw[h1] at h;exact h
 |false=>
  rw[h1] at h
  simp only[cond_false] at h ⊢
  cases h2:Nat.beq T 1000001 with
  |true=>rw[h2] at h;exact h
  |false=>
   rw[h2] at h
   simp only[cond_false] at h ⊢
   obtain⟨es,c,h3,h4⟩:=h
   exact⟨es,c,h3,h4.mono hZ⟩
def Mq (Z:Nat->Prop) (w:World) (F:Fam) (j:Nat):Prop:=match F.A j with
 |none=>F.get j=[]/\F.cap j=0
 |some b=>bif Nat.ble F.T 999999 then ∃(vl junk:List Value),w.heap[b]? =some (.cells (vl++junk).toArray F.T (0,0))/\vl.length=(F.get j).length/\(∀(k:Nat) (c:CV) (x:Value),(F.get j)[k]? =some c->vl[k]? =some x->Rc Z w c x)/\F.cap j*F.es=(vl++junk).length/\F.cap j<=maxLen/\∀x∈vl,x.oneCell'=true
  else ∃ob,w.heap[b]? =some ob/\ObR Z w F.T (F.cap j) (F.get j) ob
structure FamOk (ρ:Pl) (n:Nat) (w:World):Prop where
 ok:∀F∈ρ.F,0<F.es/\∀j,j<F.N->Mq (Zf ρ n w) w F j
 own:∀i b,i<n->(ρ i).1=some b->¬InF ρ b
 inj:∀(f f':Nat) (F F':Fam) (j j' b:Nat),ρ.F[f]? =some F->ρ.F[f']? =some F'->j<F.N->j'<F'.N->F.A j=some b->F'.A j'=some b->f=f'/\j=j'
theorem Mq.lt {Z:Nat->Prop} {w:World} {F:Fam} {j b:Nat} (h:Mq Z w F j) (hb:F.A j=some b):b<w.heap.size:=by
 unfold Mq at h
 simp only[hb] at h
 cases ht:Nat.ble F.T 999999 with
 |true=>rw[ht] at h;obtain⟨vl,junk,h1,_⟩:=h;exact iB h1
 |false=>rw[ht] at h;obtain⟨ob,h1,_⟩:=h;exact iB h1
theorem Mq.at {Z:Nat->Prop} {w:World} {F:Fam} {j b:Nat} (h:Mq Z w F j) (hb:F.A j=some b) (ht:Nat.ble F.T 999999=true):∃(vl junk:List Value),w.heap[b]? =some (.cells (vl++junk).toArray F.T (0,0))/\vl.length=(F.get j).length/\(∀(k:Nat) (c:CV) (x:Value),(F.get j)[k]? =some c->vl[k]? =some x->Rc Z w c x)/\F.cap j*F.es=(vl++junk).length/\F.cap j<=maxLen/\∀x∈vl,x.oneCell'=true:=by
 unfold Mq at h
 simp only[hb,ht,cond_true] at h
 exact h
theorem Mq.ob {Z:Nat->Prop} {w:World} {F:Fam} {j b:Nat} (h:Mq Z w F j) (hb:F.A j=some b) (ht:Nat.ble F.T 999999=false):∃ob,w.heap[b]? =some ob/\ObR Z w F.T (F.cap j) (F.get j) ob:=by
 unfold Mq at h
 simp only[hb,ht,cond_false] at h
 exact h
theorem FamOk.mem {ρ:Pl} {n:Nat} {w:World} (h:FamOk ρ n w) {fl:List Fam} (hl:ρ.F=fl) {f:Nat} {F:Fam} (hf:fl[f]? =some F) {j:Nat} (hj:j<F.N):Mq (Zf ρ n w) w F j:=
 (h.ok F (by rw[hl];exact aR hf)).2 j hj
theorem Mq.mono {Z Z':Nat->Prop} {w w':World} {F:Fam} {j:Nat} (h:Mq Z w F j) (hZ:∀b,Z b->Z' b/\w'.heap[b]? =w.heap[b]?) (hb:∀b,F.A j=some b->w'.heap[b]? =w.heap[b]?):Mq Z' w' F j:=by
 unfold Mq at h ⊢
 cases ha:F.A j with
 |none=>simp only[ha] at h ⊢;exact h
 |some b=>
  simp only[ha] at h ⊢
  cases ht:Nat.ble F.T 999999 with
  |true=>
   rw[ht] at h
   obtain⟨vl,junk,h1,h2,h3,h4⟩:=h
   exact⟨vl,junk,by rw[hb b ha];exact h1,h2,λk c x hc hx=>(h3 k c x hc hx).mono hZ,h4⟩
  |false=>
   rw[ht] at h
   obtain⟨ob,h1,h2⟩:=h
   exact⟨ob,by rw[hb b ha];exact h1,h2.mono hZ⟩
theorem FamOk.lt {ρ:Pl} {n:Nat} {w:World} (h:FamOk ρ n w) {b:Nat} (hb:InF ρ b):b<w.heap.size:=by
 obtain⟨F,hF,j,hj,hA⟩:=hb
 exact((h.ok F hF).2 j hj).lt hA
theorem FamOk.mono {ρ ρ':Pl} {n n':Nat} {w w':World} (h:FamOk ρ n w) (hF:ρ'.F=ρ.F) (hz:∀b,Zf ρ n w b->Zf ρ' n' w' b/\w'.heap[b]? =w.heap[b]?) (hs:∀b,InF ρ b->w'.heap[b]? =w.heap[b]?) (hno:∀i b,i<n'->(ρ' i).1=some b->¬InF ρ b):FamOk ρ' n' w':=
 ⟨λF hf=>by
  rw[hF] at hf
  exact⟨(h.ok F hf).1,λj hj=>((h.ok F hf).2 j hj).mono hz λb hb=>hs b ⟨F,hf,j,hj,hb⟩⟩,λi b hi hb=>by unfold InF;rw[hF];exact hno i b hi hb,by rw[hF];exact h.inj⟩
structure Rl (w0:World) (nb:Nat) (ρ0 ρ:Pl) (w:World):Prop where
 os:w.os=w0.os
 tape:w.tape=w0.tape
 output:w.output=w0.output
 size:w0.heap.size<=w.heap.size
 block:∀k,k<w0.heap.size->(∀i,i<nb->(ρ i).1≠some k)->¬InF ρ0 k->w.heap[k]? =w0.heap[k]?
structure DnW (ρ0:Pl) (w0:World) (nb:Nat) (bl:List (TypeId×Nat×List CV)) (ρ:Pl) (w:World):Prop where
 ok:∀(i:Nat) (T:TypeId) (e:Nat) (l:List CV),bl[i]? =some (T,e,l)->Bq ρ bl.length w i T e l
 inj:∀i j b,i<bl.length->j<bl.length->(ρ i).1=some b->(ρ j).1=some b->i=j
 fr:∀i b,nb<=i->i<bl.length->(ρ i).1=some b->w0.heap.size<=b
 nbl:nb<=bl.length
 rel:Rl w0 nb ρ0 ρ w
 pl:∀i,i<nb->ρ i=ρ0 i
 zz:ρ.Z=ρ0.Z/\∀b,w0.heap.size<=b\/InF ρ0 b->ρ.Z b
 fam:FamOk ρ bl.length w
 ffr:∀b,InF ρ b->w0.heap.size<=b\/InF ρ0 b
structure Dn (ρ0:Pl) (w0:World) (nb:Nat) (s:SS) (ρ:Pl) (f:Nat->Value) (w:World):Prop where
 m:DnW ρ0 w0 nb s.bl ρ w
 f:Fr s ρ w f
 l:ρ.F=s.fl
section world
variable {w0 w w':World} {nb:Nat} {s:SS} {ρ ρ' ρ0:Pl} {f:Nat->Value} {bl:List (TypeId×Nat×List CV)}
theorem Rl.ext (h:Rl w0 nb ρ0 ρ w) (e:Ext w w'):Rl w0 nb ρ0 ρ w':=
 ⟨e.os.trans h.os,e.tape.trans h.tape,e.output.trans h.output,aJ h.size e.size,λk hk hn hf=>(e.block k (bN hk h.size)).trans (h.block k hk hn hf)⟩
theorem eG {α:Type} {l:List α} {i:Nat} {x:α} (h:l[i]? =some x):i<l.length:=(jZ.1 h).1
theorem Bq.at {n i b e:Nat} {T:TypeId} {l:List CV} (h:Bq ρ n w i T e l) (hb:(ρ i).1=some b):∃vl junk,w.heap[b]? =some (.cells (vl++junk).toArray T (0,0))/\Hl ρ n w l vl/\(0<e->(ρ i).2*e=(vl++junk).length/\(ρ i).2<=maxLen)/\∀x∈vl,x.oneCell'=true:=by
 unfold Bq at h
 rw[hb] at h
 exact h
theorem Bq.of_some {n i b e:Nat} {T:TypeId} {l:List CV} (hb:(ρ i).1=some b) (h:∃vl junk,w.heap[b]? =some (.cells (vl++junk).toArray T (0,0))/\Hl ρ n w l vl/\(0<e->(ρ i).2*e=(vl++junk).length/\(ρ i).2<=maxLen)/\∀x∈vl,x.oneCell'=true):Bq ρ n w i T e l:=by
 unfold Bq
 rw[hb]
 exact h
theorem Bq.kp {n n' i e:Nat} {T:TypeId} {l:List CV} (h:Bq ρ n w i T e l) (k:Kp ρ n w ρ' n' w') (hi:i<n) (hs:∀b,(ρ i).1=some b->w'.heap[b]? =w.heap[b]?):Bq ρ' n' w' i T e l:=by
 unfold Bq at h ⊢
 rw[k.pl i hi]
 cases hb:(ρ i).1 with
 |none=>simp only[hb] at h ⊢;exact h
 |some b=>
  simp only[hb] at h ⊢
  obtain⟨vl,junk,h1,h2,h3⟩:=h
  exact⟨vl,junk,by rw[hs b hb];exact h1,h2.kp k,h3⟩
theorem Bq.lt {n i b e:Nat} {T:TypeId} {l:List CV} (h:Bq ρ n w i T e l) (hb:(ρ i).1=some b):b<w.heap.size:=by
 obtain⟨vl,junk,h1,_⟩:=h.at hb
 exact iB h1
theorem DnW.lt (h:DnW ρ0 w0 nb bl ρ w) {i b:Nat} (hi:i<bl.length) (hb:(ρ i).1=some b):b<w.heap.size:=
 (h.ok i (bl[i]).1 (bl[i]).2.1 (bl[i]).2.2 (aG hi)).lt hb
theorem DnW.ext (h:DnW ρ0 w0 nb bl ρ w) (e:Ext w w'):DnW ρ0 w0 nb bl ρ w':=
 ⟨λi T es l hi=>(h.ok i T es l hi).kp (Kp.ext e) (eG hi) λb hb=>e.block b ((h.ok i T es l hi).lt hb),h.inj,h.fr,h.nbl,h.rel.ext e,h.pl,h.zz,h.fam.mono rfl (Kp.ext e).z (λb hb=>e.block b (h.fam.lt hb)) h.fam.own,h.ffr⟩
theorem Fr.kp (h:Fr s ρ w f) {s':SS} (hsl:s'.sl=s.sl) (hgl:s'.gl=s.gl) (k:Kp ρ s.bl.length w ρ' s'.bl.length w'):Fr s' ρ' w' f:=
 ⟨λt d ht=>(h.sl t d (by rw[<-hsl];exact ht)).kp k,λt gs d ht=>⟨λhs=>((h.gl t gs d (by rw[<-hgl];exact ht)).1 hs).kp k,(h.gl t gs d (by rw[<-hgl];exact ht)).2⟩⟩
theorem Dn.ext (h:Dn ρ0 w0 nb s ρ f w) (e:Ext w w'):Dn ρ0 w0 nb s ρ f w':=⟨h.m.ext e,h.f.kp rfl rfl (Kp.ext e),h.l⟩
theorem lH {α:Type} {l:List α} {i j:Nat} {x y:α} (h:(l.set i x)[j]? =some y):(j=i/\y=x/\i<l.length)\/(j≠i/\l[j]? =some y):=by
 by_cases hji:j=i
 ·subst hji
  have hlt:j<l.length:=by have:=eG h;simpa using this
  rw[pE hlt] at h
  injection h with h
  exact .inl ⟨rfl,h.symm,hlt⟩
 rw[nG (gE hji)] at h
 exact .inr ⟨hji,h⟩
theorem rN {α:Type} {l:List α} {j:Nat} {x y:α} (h:(l++[x])[j]? =some y):(j=l.length/\y=x)\/(j<l.length/\l[j]? =some y):=by
 by_cases hji:j<l.length
 ·rw[bA hji] at h
  exact .inr ⟨hji,h⟩
 rw[bR oM] at h
 have hz:j-l.length=0:=by
  have:=eG h
  simp only[cR] at this
  omega
 rw[hz] at h
 injection h with h
 exact .inl ⟨by omega,h.symm⟩
theorem DnW.exc (h:DnW ρ0 w0 nb bl ρ w) {i b e:Nat} {T:TypeId} {l l':List CV} (hi:bl[i]? =some (T,e,l)) (hb:(ρ i).1=some b) (ex:Exc b w w') (hq:Bq ρ bl.length w' i T e l'):
 DnW ρ0 w0 nb (bl.set i (T,e,l')) ρ w':=by
 have hlt:=eG hi
 refine⟨λj T2 e2 l2 hj=>?_,?_,?_,?_,?_,h.pl,h.zz,?_,h.ffr⟩
 ·rw[bW]
  rcases lH hj with ⟨rfl,h2,_⟩|⟨hne,hj'⟩
  ·injection h2 with h2 h3;injection h3 with h3 h4;subst h2 h3 h4;exact hq
  exact(h.ok j T2 e2 l2 hj').kp (Kp.exc hlt hb ex) (eG hj') λb' hb'=>ex.block b' ((h.ok j T2 e2 l2 hj').lt hb') λhe=>hne (h.inj j i b (eG hj') hlt (by rw[hb',he]) hb)
 ·simpa using h.inj
 ·simpa using h.fr
 ·simpa using h.nbl
 ·refine⟨ex.os.trans h.rel.os,ex.tape.trans h.rel.tape,ex.output.trans h.rel.output,aJ h.rel.size ex.size,λk hk hn hf=>?_⟩
  refine(ex.block k (bN hk h.rel.size) λhe=>?_).trans (h.rel.block k hk hn hf)
  by_cases hib:i<nb
  ·exact hn i hib (by rw[hb,he])
  have:=h.fr i b oM hlt hb
  omega
 rw[bW]
 exact h.fam.mono rfl (Kp.exc hlt hb ex).z (λb' hb'=>ex.block b' (h.fam.lt hb') λhe=>h.fam.own i b hlt hb (he▸hb')) h.fam.own
def wJ (ρ:Pl) (n:Nat) (p:Option Nat×Nat):Pl:=⟨λi=>if i=n then p else ρ i,ρ.Z,ρ.F⟩
theorem oQ {n i:Nat} {p:Option Nat×Nat} (h:i<n):wJ ρ n p i=ρ i:=by
 show(if i=n then p else ρ i)=ρ i
 rw[if_neg oM]
theorem jM {n:Nat} {p:Option Nat×Nat}:wJ ρ n p n=p:=by
 show(if n=n then p else ρ n)=p
 rw[if_pos rfl]
theorem Kp.new {n:Nat} {p:Option Nat×Nat} (hp:∀b,p.1=some b->w.heap.size<=b) (e:Ext w w'):Kp ρ n w (wJ ρ n p) (n+1) w':=by
 refine⟨Nat.le_succ _,λi hi=>oQ hi,λb hb=>⟨⟨bN hb.lt e.size,λi hi=>?_,hb.z,hb.nf⟩,e.block b hb.lt⟩⟩
 by_cases hin:i=n
 ·rw[hin,jM]
  intro he
  have:=hp b he
  have:=hb.lt
  omega
 rw[oQ oM]
 exact hb.no i oM
theorem DnW.new (h:DnW ρ0 w0 nb bl ρ w) {T:TypeId} {es:Nat} {l:List CV} {p:Option Nat×Nat} (hp:∀b,p.1=some b->w.heap.size<=b) (e:Ext w w') (hq:Bq (wJ ρ bl.length p) (bl.length+1) w' bl.length T es l):
 DnW ρ0 w0 nb (bl++[(T,es,l)]) (wJ ρ bl.length p) w':=by
 refine⟨λj T2 e2 l2 hj=>?_,λi j b hi hj hib hjb=>?_,λi b hi hi2 hb=>?_,?_,?_,λi hi=>(oQ (by have:=h.nbl;omega)).trans (h.pl i hi),h.zz,?_,h.ffr⟩
 ·simp only[aE,cR]
  rcases rN hj with ⟨rfl,h2⟩|⟨hlt,hj'⟩
  ·injection h2 with h2 h3;injection h3 with h3 h4;subst h2 h3 h4;exact hq
  exact(h.ok j T2 e2 l2 hj').kp (Kp.new hp e) hlt λb hb=>e.block b ((h.ok j T2 e2 l2 hj').lt hb)
 ·simp only[aE,cR] at hi hj
  by_cases h1:i=bl.length<;>by_cases h2:j=bl.length
  ·omega
  ·rw[h1,jM] at hib
   rw[oQ oM] at hjb
   have:=hp b hib
   have:=h.lt oM hjb
   omega
  ·rw[h2,jM] at hjb
   rw[oQ oM] at hib
   have:=hp b hjb
   have:=h.lt oM hib
   omega
  rw[oQ oM] at hib hjb
  exact h.inj i j b oM oM hib hjb
 ·simp only[aE,cR] at hi2
  by_cases h1:i=bl.length
  ·rw[h1,jM] at hb
   have:=hp b hb
   have:=h.rel.size
   omega
  rw[oQ oM] at hb
  exact h.fr i b hi oM hb
 ·have:=h.nbl
  simp only[aE,cR]
  omega
 ·have hr:=h.rel.ext e
  refine⟨hr.os,hr.tape,hr.output,hr.size,λk hk hn hf=>hr.block k hk (λi hi=>?_) hf⟩
  have:=hn i hi
  rw[oQ (by have:=h.nbl;omega)] at this
  exact this
 simp only[aE,cR]
 refine h.fam.mono rfl (Kp.new hp e).z (λb hb=>e.block b (h.fam.lt hb)) λi b hi hb hf=>?_
 by_cases h1:i=bl.length
 ·rw[h1,jM] at hb
  have:=hp b hb
  have:=h.fam.lt hf
  omega
 rw[oQ oM] at hb
 exact h.fam.own i b oM hb hf
end world
/-! ### types -/
structure FI where
 off:Nat
 ty:Nat
 size:Nat
 agg:Bool
structure TI where
 size:Nat
 agg:Bool:=false
 el:Option Nat:=none
 ar:Option (Nat×Nat×Nat):=none
 bo:Bool:=false
 str:Bool:=false
 ik:Option IntKind:=none
 fs:List FI:=[]
 ck:Nat:=0
 mp:Bool:=false
 mv:Option Value:=none
 pt:Bool:=false
 by':Nat
 zero:List Value
def ckF:Nat->List Value->Bool
 |1,[.int .i64 _,.int .i64 _]=>true
 |2,[.int .i64 _,.int .i64 _,.int .i64 _]=>true
 |3,[.string _,.int .i64 _,.int .i64 _,.int .i64 _,.int .i64 _,.int .i64 _,.int .i64 _,.int .i64 _,.int .i64 _]=>true
 |_,_=>false
def CkP (P:Program) (t:Nat) (vs:List Value):Prop:=P.eqGuardType P.depth t=false/\∀w,(Op.equalIn (9999+1) t (.agg vs.toArray) (.agg vs.toArray)).run P w= .ok true w
structure GoodT (P:Program) (t:Nat) (i:TI):Prop where
 un:∃d,P.underlying t=some d
 ag:aCi P t=i.agg
 ty:∃z,TyI P t i.size i.by' z/\z.cells=i.zero.toArray
 zs:i.zero.length=i.size
 z1:i.zero.all Value.oneCell'=true
 el:∀e,i.el=some e->P.underlying t=some (.slice e)
 ar:∀n e es,i.ar=some (n,e,es)->P.underlying t=some (.array n e)/\∃by' z,TyI P e es by' z
 bo:i.bo=true->P.underlying t=some .bool
 str:i.str=true->P.underlying t=some .string
 ik:∀k,i.ik=some k->P.underlying t=some (.int k)
 fs:i.fs=[]\/∃F:Array Field,P.underlying t=some (.struct F)/\i.fs.length=F.size/\∀(k:Nat) (fi:FI),i.fs[k]? =some fi->∃fl,F[k]? =some fl/\fl.offset=fi.off/\fl.type=fi.ty/\aCi P fi.ty=fi.agg/\(∃d,P.underlying fi.ty=some d)/\∃by' z,TyI P fi.ty fi.size by' z
 ck:∀vs,ckF i.ck vs=true->CkP P t vs
 mp:i.mp=true->∃k e,P.underlying t=some (.map k e)/\P.underlying k=some (.int .i64)
 pt:i.pt=true->∃e,P.underlying t=some (.pointer e)
 mv:∀z,i.mv=some z->∃k e b,P.underlying t=some (.map k e)/\P.underlying k=some (.int .i64)/\TyI P e 1 b z
abbrev TT:=Nat->Option TI
def Good (P:Program) (T:TT):Prop:=∀t i,T t=some i->GoodT P t i
/-! ### operands -/
def bTe (g' gs:Gs):Bool:=g'.all λp=>gs.any λq=>Nat.beq p.1 q.1&&(p.2==q.2)
theorem bKq {f:Nat->Value} {g' gs:Gs} (h:bTe g' gs=true) (hs:sat f gs):sat f g':=λp hp=>by
 have h1:=aV.1 h p hp
 obtain⟨q,hq,h2⟩:=List.any_eq_true.1 h1
 simp only[aP,beq_iff_eq] at h2
 have h3:=aK h2.1
 have:=hs q hq
 rw[h3,h2.2]
 exact this
def rQ:Value->CV
 |.bool b=> .b (b=true) inferInstance
 |v=> .v v
def aZu:Value->DV
 |.agg cs=> .a (cs.toList.map rQ)
 |v=> .c (.v v)
def val (gs:Gs) (s:SS):Operand->Option DV
 |.tmp t=>match yL s.gl t with
  |some (g',d)=>bif bTe g' gs then some d else none
  |none=>fZ s.sl t
 |.const v=>some (aZu v)
 |.func k=>some (.c (.f k [] []))
 |.global _=>none
section val
variable {s:SS} {ρ ρ0:Pl} {w:World} {f:Nat->Value} {gs:Gs} {n:Nat}
theorem aMi (x:Value):Hc ρ n w (rQ x) x:=by
 cases x with
 |bool b=>
  have e:Value.bool b= .bool (decide (b=true)):=by simp
  rw[e]
  cases b<;>exact Rc.b _ _
 |_=>exact Rc.v _
theorem Hl.vs (l:List Value):Hl ρ n w (l.map rQ) l:=by
 induction l with
 |nil=>trivial
 |cons x l ih=>exact⟨aMi x,ih⟩
theorem aXj (v:Value):Hd ρ n w (aZu v) v:=by
 cases v with
 |agg cs=>exact Hd.a (vl:=cs.toList) (Hl.vs _)
 |_=>exact .c (Rc.v _)
theorem bT (h:Fr s ρ w f) (hg:sat f gs) {x:Operand} {d:DV} (hx:val gs s x=some d):Hd ρ s.bl.length w d (ev f x):=by
 cases x with
 |tmp t=>
  simp only[val] at hx
  cases he:yL s.gl t with
  |none=>simp only[he] at hx;exact h.sl t d hx
  |some e=>
   obtain⟨g',d'⟩:=e
   simp only[he] at hx
   cases hb:bTe g' gs with
   |false=>rw[hb] at hx;cases hx
   |true=>
    rw[hb] at hx
    injection hx with hx
    subst hx
    exact(h.gl t g' d' he).1 (bKq hb hg)
 |const v=>injection hx with hx;subst hx;exact aXj v
 |func k=>
  injection hx with hx
  subst hx
  refine Hd.c (c:=.f k [] []) (And.intro (λp hp=>?_) rfl)
  exact absurd hp dZ
 |global k=>cases hx
theorem Hd.inv_c {c:CV} {x:Value} (h:Hd ρ n w (.c c) x):Hc ρ n w c x:=by
 cases h with
 |c h=>exact h
theorem Hd.inv_a {l:List CV} {x:Value} (h:Hd ρ n w (.a l) x):∃vl:List Value,x= .agg vl.toArray/\Hl ρ n w l vl:=by
 cases h with
 |a h=>exact⟨_,rfl,h⟩
theorem Hd.inv_t {l:List DV} {x:Value} (h:Hd ρ n w (.t l) x):∃vl:List Value,x= .tuple vl.toArray/\l.length=vl.length/\∀(i:Nat) (d:DV) (u:Value),l[i]? =some d->vl[i]? =some u->Hd ρ n w d u:=by
 cases h with
 |t h hh=>exact⟨_,rfl,h,hh⟩
theorem Hc.inv_v {y x:Value} (h:Hc ρ n w (.v y) x):x=y:=by
 have h':Rc _ w (.v y) x:=h
 cases h'
 rfl
theorem Hc.inv_b {p:Prop} {hp:Decidable p} {x:Value} (h:Hc ρ n w (.b p hp) x):x= .bool (decide p):=by
 have h':Rc _ w (.b p hp) x:=h
 cases h'
 rfl
theorem Hc.inv_r {A:Option Addr} {m c e:Nat} {get:Nat->List CV} {x:Value} (h:Hc ρ n w (.r A m c e get) x):x= .slice A m c/\Rc (Zf ρ n w) w (.r A m c e get) (.slice A m c):=by
 have h':Rc _ w (.r A m c e get) x:=h
 have e:x= .slice A m c:=by cases h'<;>rfl
 subst e
 exact⟨rfl,h'⟩
theorem Hc.inv_h {A:Option Nat} {m c:Nat} {x:Value} (h:Hc ρ n w (.h A m c) x):x= .slice (A.map λb=>⟨b,0,none⟩) m c:=by
 cases (show Rc _ w (.h A m c) x from h);rfl
theorem Hc.inv_hp {b o:Nat} {x:Value} (h:Hc ρ n w (.hp b o) x):x= .pointer (some ⟨b,o,none⟩):=by
 cases (show Rc _ w (.hp b o) x from h);rfl
theorem Rc.elem {Z:Nat->Prop} {A:Option Addr} {m c e:Nat} {get:Nat->List CV} {x:Value} (h:Rc Z w (.r A m c e get) x) {j:Nat} (hj:j<m):∃b o,A=some ⟨b,o,none⟩/\Z b/\∃vl:List Value,(∀(i:Nat) (u:Value),vl[i]? =some u->w.cell? ⟨b,o+j*e+i,none⟩=some u/\u.oneCell'=true)/\vl.length=(get j).length/\∀(i:Nat) (c':CV) (u:Value),(get j)[i]? =some c'->vl[i]? =some u->Rc Z w c' u:=by
 cases h with
 |nil=>omega
 |r b o n c e get V hc hm hZ hcell hlen hel=>exact⟨b,o,rfl,hZ,V j,λi u hu=>hcell j hj i u hu,hlen j hj,hel j hj⟩
theorem Hc.of_rc {c:CV} {x:Value} (h:Rc (Zf ρ n w) w c x):Hc ρ n w c x:=by
 cases c with
 |u=>exact h
 |v y=>exact h
 |h A n c=>exact h
 |hp b o=>exact h
 |b p hp=>exact h
 |r A m c e get=>exact h
 |p i o=>cases h
 |s i m=>cases h
 |q A m c e get j o=>cases h
 |t i o m=>cases h
 |f k fi ca=>cases h
theorem Hl.of_get {l:List CV} {vl:List Value} (hlen:vl.length=l.length) (h:∀(i:Nat) (c:CV) (u:Value),l[i]? =some c->vl[i]? =some u->Hc ρ n w c u):Hl ρ n w l vl:=by
 induction l generalizing vl with
 |nil=>cases vl with
  |nil=>trivial
  |cons x vl=>cases hlen
 |cons c l ih=>cases vl with
  |nil=>cases hlen
  |cons x vl=>exact⟨h 0 c x rfl rfl,ih (by simpa using hlen) λi c u hc hu=>h (i+1) c u hc hu⟩
end val
def Cal (P:Program) (f:Nat->Value) (o:Oper) (w:World) (ρ:Pl) (n:Nat) (d:DV):Prop:=∃v,Hd ρ n w d v/\∀u,(wI o=true->Ext w u)->(execOp (ev f) o).run P u= .ok (.value v) u
def Pu (P:Program) (f:Nat->Value) (o:Oper) (w:World) (ρ:Pl) (n:Nat) (gs:Gs) (k:DV->Prop):Prop:=∃d,k d/\(sat f gs->Cal P f o w ρ n d)
def ob (pg:Option Prop) (p:Prop):Prop:=match pg with
 |none=>p
 |some q=>q->p
def aBe (pg:Option Prop):Prop:=match pg with
 |none=>True
 |some q=>q
theorem kF {pg:Option Prop} {p:Prop} (h:ob pg p) (hp:aBe pg):p:=by
 cases pg with
 |none=>exact h
 |some q=>exact h hp
def aTf:Nat->List CV->(List CV->Prop)->Prop
 |0,_,k=>k []
 |n+1,c::l,k=>aTf n l λr=>k (c::r)
 |_+1,[],_=>False
theorem aMj:∀{n:Nat} {l:List CV} {k:List CV->Prop},aTf n l k->n<=l.length/\k (l.take n)
 |0,l,k,h=>⟨aC _,h⟩
 |n+1,[],k,h=>h.elim
 |n+1,c::l,k,h=>by
  obtain⟨h1,h2⟩:=aMj (n:=n) (l:=l) h
  exact⟨uQ h1,h2⟩
/-! ### the operations -/
def aCf (gs:Gs) (s:SS) (x:Operand) (k:DV->Prop):Prop:=match val gs s x with
 |some d=>k d
 |none=>False
def bTf (gs:Gs) (s:SS) (x:Operand) (k:DV->Prop):Prop:=match val gs s x with
 |some (.c (.p i o))=>k (.c (.p i o))
 |some (.c (.q A n c e get j o))=>k (.c (.q A n c e get j o))
 |some (.c (.hp b o))=>k (.c (.hp b o))
 |_=>False
def bQq (off:Nat) (k:DV->Prop):DV->Prop
 |.c (.p i o)=>k (.c (.p i (o+off)))
 |.c (.q A n c e get j o)=>k (.c (.q A n c e get j (o+off)))
 |.c (.hp b o)=>k (.c (.hp b (o+off)))
 |_=>False
def bTg (T:TT) (gs:Gs) (s:SS) (t:Nat) (x:Operand) (i:Nat) (k:DV->Prop):Prop:=match T t with
 |some ti=>match ti.fs[i]? with
  |some fi=>bif Nat.ble 1 fi.size then (match val gs s x with
   |some d=>bQq fi.off k d
   |none=>False) else False
  |none=>False
 |none=>False
def ldK (ti:TI) (o:Nat) (l:List CV) (k:DV->Prop):Prop:=bif ti.agg then aTf ti.size (l.drop o) λr=>k (.a r) else match l[o]? with
 |some c=>k (.c c)
 |none=>False
def ldS (pg:Option Prop) (ti:TI) (o:Nat) (l:List CV) (k:DV->Prop):Prop:=bif ti.agg then ∃r,ob pg ((l.drop o).take ti.size=r/\r.length=ti.size)/\k (.a r) else ∃c,ob pg (l[o]? =some c)/\k (.c c)
def aZv (T:TT) (pg:Option Prop) (gs:Gs) (s:SS) (t:Nat) (x:Operand) (k:DV->Prop):Prop:=match T t with
 |some ti=>match val gs s x with
  |some (.c (.p j o))=>(match s.bl[j]? with
   |some b=>bif Nat.beq b.2.1 0 then ldK ti o b.2.2 k else ldS pg ti o b.2.2 k
   |none=>False)
  |some (.c (.q _ _ _ _ get j o))=>ldK ti o (get j) k
  |some (.c (.hp b o))=>∃f j:Nat,(match s.fl[f]? with
   |some F=>bif Nat.ble F.T 999999 then ob pg (j<F.N/\F.A j=some b)/\ldS pg ti o (F.get j) k else False
   |none=>False)
  |_=>False
 |none=>False
def arK (pg:Option Prop) (ka:IntKind) (z:Int) (k:DV->Prop):Prop:=∃r,ob pg (r=ka.wrap z)/\k (.c (.v (.int ka r)))
def bC (p:Prop) [h:Decidable p]:DV:=.c (.b p h)
def cFd (pg:Option Prop) (op:BinOp) (ka:IntKind) (a b:Int) (k:DV->Prop):Prop:=match op with
 |.lss=>k (bC (a<b))
 |.leq=>k (bC (a<=b))
 |.gtr=>k (bC (b<a))
 |.geq=>k (bC (b<=a))
 |.eql=>k (bC (a=b))
 |.neq=>k (bC (a≠b))
 |.add=>arK pg ka (a+b) k
 |.sub=>arK pg ka (a-b) k
 |.mul=>arK pg ka (a*b) k
 |.quo=>ob pg (b≠0)/\arK pg ka (a.tdiv b) k
 |.rem=>ob pg (b≠0)/\k (.c (.v (.int ka (a.tmod b))))
 |.or=>arK pg ka (BitVec.ofInt ka.bits a|||BitVec.ofInt ka.bits b).toNat k
 |.and=>arK pg ka (BitVec.ofInt ka.bits a&&&BitVec.ofInt ka.bits b).toNat k
 |_=>False
def cFe:BinOp->Bool
 |.shl=>true
 |.shr=>true
 |_=>false
def shI (pg:Option Prop) (op:BinOp) (ka:IntKind) (a b:Int) (k:DV->Prop):Prop:=match op with
 |.shl=>ob pg (0<=b)/\arK pg ka (a*2^(min b.toNat ka.bits)) k
 |.shr=>ob pg (0<=b)/\∃r,ob pg (r=a.fdiv (2^(min b.toNat ka.bits)))/\k (.c (.v (.int ka r)))
 |_=>False
def aMk (T:TT) (t:Nat) (op:BinOp) (p q:Prop) (hp:Decidable p) (hq:Decidable q) (k:DV->Prop):Prop:=match T t with
 |some ti=>bif ti.bo then (match op with
  |.eql=>k (.c (.b (p↔q) (@instDecidableIff p q hp hq)))
  |.neq=>k (.c (.b (¬(p↔q)) (@instDecidableNot _ (@instDecidableIff p q hp hq))))
  |_=>False) else False
 |none=>False
def bTh (T:TT) (t:Nat) (pg:Option Prop) (gs:Gs) (s:SS) (op:BinOp) (x y:Operand) (k:DV->Prop):Prop:=match val gs s x,val gs s y with
 |some (.c (.v (.int ka a))),some (.c (.v (.int kb b)))=>bif cFe op then shI pg op ka a b k else bif decide (ka=kb) then cFd pg op ka a b k else False
 |some (.c (.b p hp)),some (.c (.b q hq))=>aMk T t op p q hp hq k
 |some (.c (.b p hp)),some (.c (.v (.bool q)))=>aMk T t op p (q=true) hp inferInstance k
 |some (.c (.v (.bool p))),some (.c (.b q hq))=>aMk T t op (p=true) q inferInstance hq k
 |some (.c (.v (.string a))),some (.c (.v (.string b)))=>(match op with
  |.eql=>k (bC (a.toList=b.toList))
  |.neq=>k (bC (a.toList≠b.toList))
  |.add=>ob pg (a.size+b.size<=9223372036854775807)/\k (.c (.v (.string (a++b))))
  |_=>False)
 |some (.c (.r A _ _ _ _)),some (.c (.v (.slice none 0 0)))=>(match op,T t with
  |.eql,some ti=>bif ti.el.isSome then k (bC (A.isNone=true)) else False
  |_,_=>False)
 |some (.c (.p _ _)),some (.c (.v (.pointer none)))=>(match op,T t with
  |.eql,some ti=>bif ti.pt then k (.c (.v (.bool false))) else False
  |.neq,some ti=>bif ti.pt then k (.c (.v (.bool true))) else False
  |_,_=>False)
 |some (.c (.v (.pointer none))),some (.c (.v (.pointer none)))=>(match op,T t with
  |.eql,some ti=>bif ti.pt then k (.c (.v (.bool true))) else False
  |.neq,some ti=>bif ti.pt then k (.c (.v (.bool false))) else False
  |_,_=>False)
 |some (.a l1),some (.a l2)=>(match op,T t with
  |.eql,some ti=>∃vs:List Value,ob pg (l1=vs.map CV.v/\l2=vs.map CV.v/\ckF ti.ck vs=true)/\k (.c (.v (.bool true)))
  |_,_=>False)
 |_,_=>False
def eUn (pg:Option Prop) (gs:Gs) (s:SS) (op:UnOp) (x:Operand) (k:DV->Prop):Prop:=match val gs s x with
 |some (.c (.b p h))=>(match op with
  |.not=>k (.c (.b (¬p) (@instDecidableNot p h)))
  |_=>False)
 |some (.c (.v (.bool b)))=>(match op with
  |.not=>k (.c (.v (.bool (!b))))
  |_=>False)
 |some (.c (.v (.int ka a)))=>(match op with
  |.neg=>arK pg ka (0-a) k
  |_=>False)
 |_=>False
def aZw (T:TT) (pg:Option Prop) (gs:Gs) (s:SS) (t t':Nat) (x:Operand) (k:DV->Prop):Prop:=match T t,T t' with
 |some _,some ti=>(match ti.ik,val gs s x with
  |some ka,some (.c (.v (.int _ a)))=>arK pg ka a k
  |_,_=>False)
 |_,_=>False
def bTi (T:TT) (pg:Option Prop) (gs:Gs) (s:SS) (t:Nat) (x y:Operand) (k:DV->Prop):Prop:=match T t with
 |some ti=>(match ti.el with
  |some e=>(match T e,val gs s x,val gs s y with
   |some te,some (.c (.r A n c e' get)),some (.c (.v (.int _ z)))=>bif Nat.beq e' te.size then ∃m:Nat,ob pg (z=m/\m<n)/\k (.c (.q A n c e' get m 0)) else False
   |some te,some (.c (.s i n)),some (.c (.v (.int _ z)))=>(match s.bl[i]? with
    |some b=>∃m:Nat,ob pg (z=m/\m<n/\m*te.size<b.2.2.length)/\k (.c (.p i (m*te.size)))
    |none=>False)
   |some te,some (.c (.h A n _)),some (.c (.v (.int _ z)))=>∃m b:Nat,ob pg (z=m/\m<n/\A=some b)/\k (.c (.hp b (m*te.size)))
   |some te,some (.c (.t i o n)),some (.c (.v (.int _ z)))=>∃m:Nat,ob pg (z=m/\m<n)/\k (.c (.p i (o+m*te.size)))
   |_,_,_=>False)
  |none=>False)
 |none=>False
def aZx (T:TT) (pg:Option Prop) (gs:Gs) (s:SS) (t:Nat) (x y:Operand) (k:DV->Prop):Prop:=match T t with
 |some ti=>(match ti.ar,val gs s x,val gs s y with
  |some (n,_,es),some (.c (.p i o)),some (.c (.v (.int _ z)))=>∃m:Nat,ob pg (z=m/\m<n)/\k (.c (.p i (o+m*es)))
  |some (n,_,es),some (.c (.q A nn c e' get j o)),some (.c (.v (.int _ z)))=>∃m:Nat,ob pg (z=m/\m<n)/\k (.c (.q A nn c e' get j (o+m*es)))
  |_,_,_=>False)
 |none=>False
def aZy (T:TT) (pg:Option Prop) (gs:Gs) (s:SS) (t:Nat) (x y:Operand) (k:DV->Prop):Prop:=match T t with
 |some ti=>bif ti.str then (match val gs s x,val gs s y with
  |some (.c (.v (.string a))),some (.c (.v (.int _ z)))=>∃(m:Nat) (b:UInt8),ob pg (z=m/\a[m]? =some b)/\k (.c (.v (.int .u8 b.toNat)))
  |_,_=>False) else False
 |none=>False
def slA (A:Option Addr) (c l e:Nat):Option Addr:=if c=l then A else A.map (·.add (l*e))
def eSl (T:TT) (pg:Option Prop) (gs:Gs) (s:SS) (t:Nat) (x:Operand) (lo hi:Option Operand) (k:DV->Prop):Prop:=match T t with
 |some ti=>(match ti.el with
  |some e=>(match T e,val gs s x with
   |some te,some (.c (.r A n c e' get))=>bif Nat.beq e' te.size then (match lo,hi with
    |none,some y=>(match val gs s y with
     |some (.c (.v (.int _ z)))=>∃h:Nat,ob pg (z=h/\h<=n)/\k (.c (.r A h c e' get))
     |_=>False)
    |some y,none=>(match val gs s y with
     |some (.c (.v (.int _ z)))=>∃l:Nat,ob pg (z=l/\l<=n)/\k (.c (.r (slA A c l e') (n-l) (c-l) e' λj=>get (j+l)))
     |_=>False)
    |_,_=>False) else False
   |some te,some (.c (.s i n))=>(match s.bl[i]? with
    |some b=>bif Nat.beq b.2.1 te.size&&Nat.ble 1 te.size then (match lo,hi with
     |none,some y=>(match val gs s y with
      |some (.c (.v (.int _ z)))=>∃h:Nat,ob pg (z=h/\h*te.size<=b.2.2.length)/\k (.c (.s i h))
      |_=>False)
     |some y,none=>(match val gs s y with
      |some (.c (.v (.int _ z)))=>∃l:Nat,ob pg (z=l/\l<=n/\n*te.size<=b.2.2.length)/\k (.c (.t i (l*te.size) (n-l)))
      |_=>False)
     |some y,some y'=>(match val gs s y,val gs s y' with
      |some (.c (.v (.int _ z))),some (.c (.v (.int _ z')))=>∃l h:Nat,ob pg ((z=l/\z'=h)/\l<=h/\h<=n/\n*te.size<=b.2.2.length)/\k (.c (.t i (l*te.size) (h-l)))
      |_,_=>False)
     |_,_=>False) else False
    |none=>False)
   |_,_=>False)
  |none=>bif ti.str then (match val gs s x,lo,hi with
   |some (.c (.v (.string a))),some y,some y'=>(match val gs s y,val gs s y' with
    |some (.c (.v (.int _ z))),some (.c (.v (.int _ z')))=>∃l h:Nat,ob pg (z=l/\z'=h/\l<=h/\h<=a.size)/\k (.c (.v (.string (a.extract l h))))
    |_,_=>False)
   |_,_,_=>False) else False)
 |none=>False
def aZz (T:TT) (gs:Gs) (s:SS) (t:Nat) (x:Operand) (i:Nat) (k:DV->Prop):Prop:=match T t with
 |some ti=>match ti.fs[i]? with
  |some fi=>match val gs s x with
   |some (.a l)=>ldK {size:=fi.size,agg:=fi.agg,by':=0,zero:=[]} fi.off l k
   |_=>False
  |none=>False
 |none=>False
def bTj (gs:Gs) (s:SS) (x:Operand) (i:Nat) (k:DV->Prop):Prop:=match val gs s x with
 |some (.t l)=>(match l[i]? with
  |some d=>k d
  |none=>False)
 |_=>False
def bTk (T:TT) (gs:Gs) (s:SS) (t:Nat) (x:Operand) (k:DV->Prop):Prop:=match T t with
 |some ti=>(match val gs s x with
  |some (.c (.r _ n _ _ _))=>bif ti.el.isSome then k (.c (.v (.int .i64 n))) else False
  |some (.c (.s _ n))=>bif ti.el.isSome then k (.c (.v (.int .i64 n))) else False
  |some (.c (.h _ n _))=>bif ti.el.isSome then k (.c (.v (.int .i64 n))) else False
  |some (.c (.v (.slice _ n _)))=>bif ti.el.isSome then k (.c (.v (.int .i64 n))) else False
  |some (.c (.v (.string a)))=>bif ti.str then k (.c (.v (.int .i64 a.size))) else False
  |_=>False)
 |none=>False
def eMm (mx:Bool) (gs:Gs) (s:SS) (x y:Operand) (k:DV->Prop):Prop:=match val gs s x,val gs s y with
 |some (.c (.v (.int ka a))),some (.c (.v (.int kb b)))=>bif decide (ka=kb) then k (.c (.v (.int ka (bif mx then max a b else min a b)))) else False
 |_,_=>False
def bQr (k:DV->Prop):DV->DV->DV->Prop
 |.c (.b p hp),.c (.b q hq),.c (.v (.bool z))=>bif z then k (.c (.b (p->q) (@instDecidableForall p q hp hq))) else k (.c (.b (p/\q) (@instDecidableAnd p q hp hq)))
 |.c (.b p hp),.c (.v (.bool y)),.c (.b q hq)=>bif y then k (.c (.b (p\/q) (@instDecidableOr p q hp hq))) else k (.c (.b (¬p/\q) (@instDecidableAnd _ q (@instDecidableNot p hp) hq)))
 |.c (.b p hp),.c (.b q hq),.c (.b r hr)=>k (.c (.b ((p/\q)\/(¬p/\r)) (@instDecidableOr _ _ (@instDecidableAnd p q hp hq) (@instDecidableAnd _ r (@instDecidableNot p hp) hr))))
 |.c (.b p hp),.c (.v (.bool y)),.c (.v (.bool z))=>bif y then (bif z then k (.c (.v (.bool true))) else k (.c (.b p hp))) else False
 |_,_,_=>False
def bAa (gs:Gs) (s:SS) (x y z:Operand) (k:DV->Prop):Prop:=match x with
 |.tmp t=>(match val gs s x with
  |some (.c (.v (.bool b)))=>bif b then aCf ((t,true)::gs) s y k else aCf ((t,false)::gs) s z k
  |some c=>(match val ((t,true)::gs) s y,val ((t,false)::gs) s z with
   |some p,some q=>bQr k c p q
   |_,_=>False)
  |none=>False)
 |_=>False
def bAb (gs:Gs) (s:SS):List Operand->(List (Nat×Nat)->Prop)->Prop
 |[],k=>k []
 |x::l,k=>match val gs s x with
  |some (.c (.p i o))=>bAb gs s l λr=>k ((i,o)::r)
  |_=>False
def bTl (gs:Gs) (s:SS) (fn:Fn) (fi ca:List Operand) (k:DV->Prop):Prop:=match fn with
 |.func q=>bAb gs s fi λa=>bAb gs s ca λb=>k (.c (.f q a b))
 |_=>False
section ops
variable {P:Program} {T:TT} (hT:Good P T) {w0 w:World} {nb:Nat} {s:SS} {ρ ρ0:Pl} {f:Nat->Value} {gs:Gs} {pg:Option Prop} {dst:Option Tmp} {ty:TypeId} {pos:String} {aft:Array Edge} {gd:Option (Nat×Bool)} {x y z:Operand} {t t':TypeId} {k:DV->Prop}
theorem aMl (h:aCf gs s x k) (hF:Fr s ρ w f):Pu P f ⟨dst,.move x,ty,pos,aft,gd⟩ w ρ s.bl.length gs k/\Pu P f ⟨dst,.assign x,ty,pos,aft,gd⟩ w ρ s.bl.length gs k:=by
 unfold aCf at h
 split at h
 ·next d hx=>exact⟨⟨d,h,λhs=>⟨_,bT hF hs hx,λu _=>rfl⟩⟩,⟨d,h,λhs=>⟨_,bT hF hs hx,λu _=>rfl⟩⟩⟩
 exact h.elim
theorem bAc {u:World} {a:Addr} (hx:ev f x= .pointer (some a)):(execOp (ev f) ⟨dst,.nilCheck x,ty,pos,aft,gd⟩).run P u= .ok (.value (.pointer (some a))) u:=by
 simp[execOp,hx,Instr.sureAddr]
theorem bKr (h:bTf gs s x k) (hF:Fr s ρ w f):Pu P f ⟨dst,.nilCheck x,ty,pos,aft,gd⟩ w ρ s.bl.length gs k:=by
 unfold bTf at h
 split at h
 ·next i o hx=>
  refine⟨_,h,λhs=>⟨_,bT hF hs hx,λu _=>?_⟩⟩
  obtain⟨_,b,_,he⟩:=(bT hF hs hx).inv_c
  rw[he]
  exact bAc he
 ·next A n c e get j o hx=>
  refine⟨_,h,λhs=>⟨_,bT hF hs hx,λu _=>?_⟩⟩
  obtain⟨_,_,b,o',_,he⟩:=(bT hF hs hx).inv_c
  rw[he]
  exact bAc he
 ·next b o hx=>
  refine⟨_,h,λhs=>⟨_,bT hF hs hx,λu _=>?_⟩⟩
  have he:=(bT hF hs hx).inv_c.inv_hp
  rw[he]
  exact bAc he
 exact h.elim
include hT in
theorem bKs {i:Nat} (h:bTg T gs s t x i k) (hF:Fr s ρ w f):Pu P f ⟨dst,.fieldAddr t x i,ty,pos,aft,gd⟩ w ρ s.bl.length gs k:=by
 unfold bTg at h
 split at h
 ·next ti ht=>
  split at h
  ·next fi hfi=>
   cases hz:Nat.ble 1 fi.size with
   |false=>rw[hz] at h;exact h.elim
   |true=>
    rw[hz] at h
    have hz':=bX hz
    simp only[cond_true] at h
    have hfs:∃F:Array Field,P.underlying t=some (.struct F)/\∃fl,F[i]? =some fl/\fl.offset=fi.off/\fl.type=fi.ty/\∃by' z,TyI P fi.ty fi.size by' z:=by
     rcases (hT t ti ht).fs with h0|⟨F,hF,_,hh⟩
     ·rw[h0] at hfi;cases hfi
     obtain⟨fl,h1,h2,h3,_,_,h4⟩:=hh i fi hfi
     exact⟨F,hF,fl,h1,h2,h3,h4⟩
    obtain⟨F,hFF,fl,h1,h2,h3,by',zz,h4⟩:=hfs
    have h5:TyI P fl.type ((fi.size-1)+1) by' zz:=by rw[h3,mG hz'];exact h4
    split at h
    ·next d hx=>
     unfold bQq at h
     split at h
     ·next j o=>
      refine⟨_,h,λhs=>?_⟩
      obtain⟨hj,b,hb,he⟩:=(bT hF hs hx).inv_c
      refine⟨.pointer (some ⟨b,o+fi.off,none⟩),.c ⟨hj,b,hb,rfl⟩,λu _=>?_⟩
      rw[<-h2]
      exact wN hFF h1 h5 he
     ·next A n c e get j o=>
      refine⟨_,h,λhs=>?_⟩
      obtain⟨hr,hj,b,o',hA,he⟩:=(bT hF hs hx).inv_c
      refine⟨.pointer (some ⟨b,o'+j*e+(o+fi.off),none⟩),.c ⟨hr,hj,b,o',hA,rfl⟩,λu _=>?_⟩
      rw[<-h2,<-iA]
      exact wN hFF h1 h5 he
     ·next b o=>
      refine⟨_,h,λhs=>?_⟩
      refine⟨.pointer (some ⟨b,o+fi.off,none⟩),.c (Rc.hp _ _),λu _=>?_⟩
      rw[<-h2]
      exact wN hFF h1 h5 (bT hF hs hx).inv_c.inv_hp
     exact h.elim
    exact h.elim
  exact h.elim
 exact h.elim
theorem aTg {ti:TI} {o:Nat} {l:List CV} (h:ldK ti o l k):∃d,k d/\∀(ρ:Pl) (n:Nat) (w:World) (vl:List Value),Hl ρ n w l vl->∃v,Hd ρ n w d v/\((ti.agg=true/\v= .agg ((vl.drop o).take ti.size).toArray/\((vl.drop o).take ti.size).length=ti.size)\/(ti.agg=false/\vl[o]? =some v)):=by
 unfold ldK at h
 cases ha:ti.agg with
 |true=>
  rw[ha] at h
  obtain⟨h1,h2⟩:=aMj (show aTf ti.size (l.drop o) _ from h)
  refine⟨_,h2,λρ n w vl hl=>⟨_,.a ((hl.drop o).take ti.size),.inl ⟨rfl,rfl,?_⟩⟩⟩
  have:=hl.len
  simp only[bE,cK] at h1 ⊢
  omega
 |false=>
  rw[ha] at h
  simp only[cond_false] at h
  split at h
  ·next c hc=>
   refine⟨_,h,λρ n w vl hl=>?_⟩
   obtain⟨v,h1,h2⟩:=hl.get hc
   exact⟨v,.c h2,.inr ⟨rfl,h1⟩⟩
  exact h.elim
theorem nC {u:World} {b i:Nat} {T:TypeId} {vl junk:List Value} {x:Value} (h:u.heap[b]? =some (.cells (vl++junk).toArray T (0,0))) (hi:vl[i]? =some x):u.cell? ⟨b,i,none⟩=some x:=by
 unfold World.cell?
 simp only[h]
 have:=bA (l₂:=junk) (eG hi)
 simp[this,hi]
theorem aOz {ti:TI} {u:World} {b p o:Nat} {vl:List Value} {v:Value} (G:GoodT P t ti) (hx:ev f x= .pointer (some ⟨b,p+o,none⟩)) (hc:∀(i:Nat) (y:Value),vl[i]? =some y->u.cell? ⟨b,p+i,none⟩=some y)
 (hv:(ti.agg=true/\v= .agg ((vl.drop o).take ti.size).toArray/\((vl.drop o).take ti.size).length=ti.size)\/(ti.agg=false/\vl[o]? =some v)):(execOp (ev f) ⟨dst,.load t x,ty,pos,aft,gd⟩).run P u= .ok (.value v) u:=by
 obtain⟨d,hun⟩:=G.un
 rcases hv with ⟨ha,rfl,hl⟩|⟨ha,hv⟩
 ·obtain⟨zz,hty,_⟩:=G.ty
  refine aSv hun (G.ag.trans ha) (by rw[hl];exact hty) hx λi y hi=>?_
  rw[eY] at hi
  split at hi
  ·rw[dL] at hi
   rw[iA]
   exact hc _ _ hi
  cases hi
 exact aOr hun (G.ag.trans ha) hx (hc o v hv)
include hT in
theorem bAd (h:aZv T pg gs s t x k) (hD:Dn ρ0 w0 nb s ρ f w) (hp:sat f gs->aBe pg):Pu P f ⟨dst,.load t x,ty,pos,aft,gd⟩ w ρ s.bl.length gs k:=by
 unfold aZv at h
 split at h
 ·next ti ht=>
  have G:=hT t ti ht
  split at h
  ·next j o hx=>
   split at h
   ·next bb hb=>
    obtain⟨T',e,l⟩:=bb
    have h':∃d,k d/\(sat f gs->∀(ρ:Pl) (n:Nat) (w:World) (vl:List Value),Hl ρ n w l vl->∃v,Hd ρ n w d v/\((ti.agg=true/\v= .agg ((vl.drop o).take ti.size).toArray/\((vl.drop o).take ti.size).length=ti.size)\/(ti.agg=false/\vl[o]? =some v))):=by
     cases hz:Nat.beq e 0 with
     |true=>
      simp only[hz,cond_true] at h
      obtain⟨d,h1,h2⟩:=aTg h
      exact⟨d,h1,λ_=>h2⟩
     |false=>
      simp only[hz,cond_false] at h
      unfold ldS at h
      cases ha:ti.agg with
      |true=>
       rw[ha] at h
       obtain⟨r,h1,h2⟩:=h
       refine⟨_,h2,λhs ρ n w vl hl=>?_⟩
       obtain⟨h3,h4⟩:=kF h1 (hp hs)
       subst h3
       refine⟨_,.a ((hl.drop o).take ti.size),.inl ⟨rfl,rfl,?_⟩⟩
       have:=hl.len
       simp only[bE,cK] at h4 ⊢
       omega
      |false=>
       rw[ha] at h
       obtain⟨c,h1,h2⟩:=h
       refine⟨_,h2,λhs ρ n w vl hl=>?_⟩
       obtain⟨v,h3,h4⟩:=hl.get (kF h1 (hp hs))
       exact⟨v,.c h4,.inr ⟨rfl,h3⟩⟩
    obtain⟨d,hk,hd⟩:=h'
    refine⟨d,hk,λhs=>?_⟩
    obtain⟨hj,b,hρ,he⟩:=(bT hD.f hs hx).inv_c
    obtain⟨vl,junk,hh,hl,_⟩:=(hD.m.ok j T' e l hb).at hρ
    obtain⟨v,hv,hcase⟩:=hd hs ρ s.bl.length w vl hl
    refine⟨v,hv,λu hu=>aOz (p:=0) G (by rw[eA];exact he) (λi y hi=>?_) hcase⟩
    rw[eA]
    exact nC (by rw[(hu rfl).block b (iB hh)];exact hh) hi
   exact h.elim
  ·next A n c e get j o hx=>
   obtain⟨d,hk,hd⟩:=aTg h
   refine⟨d,hk,λhs=>?_⟩
   obtain⟨hr,hj,b,o',hA,he⟩:=(bT hD.f hs hx).inv_c
   obtain⟨b2,o2,hA2,hZ,vl,hcell,hlen,hel⟩:=hr.elem hj
   rw[hA] at hA2
   injection hA2 with hA2
   injection hA2 with e1 e2
   subst e1 e2
   obtain⟨v,hv,hcase⟩:=hd ρ s.bl.length w vl (Hl.of_get hlen λi c y hc hy=>Hc.of_rc (hel i c y hc hy))
   refine⟨v,hv,λu hu=>aOz (p:=o'+j*e) G he (λi y hi=>?_) hcase⟩
   rw[yP ((hu rfl).block b hZ.lt)]
   exact(hcell i y hi).1
  ·next b o hx=>
   obtain⟨ff,j,h⟩:=h
   split at h
   ·next F hF=>
    cases hft:Nat.ble F.T 999999 with
    |false=>rw[hft] at h;exact h.elim
    |true=>
    rw[hft] at h
    obtain⟨hob,h⟩:=h
    have h':∃d,k d/\(sat f gs->∀(ρ:Pl) (n:Nat) (w:World) (vl:List Value),Hl ρ n w (F.get j) vl->∃v,Hd ρ n w d v/\((ti.agg=true/\v= .agg ((vl.drop o).take ti.size).toArray/\((vl.drop o).take ti.size).length=ti.size)\/(ti.agg=false/\vl[o]? =some v))):=by
     unfold ldS at h
     cases ha:ti.agg with
     |true=>
      rw[ha] at h
      obtain⟨r,h1,h2⟩:=h
      refine⟨_,h2,λhs ρ n w vl hl=>?_⟩
      obtain⟨h3,h4⟩:=kF h1 (hp hs)
      subst h3
      refine⟨_,.a ((hl.drop o).take ti.size),.inl ⟨rfl,rfl,?_⟩⟩
      have:=hl.len
      simp only[bE,cK] at h4 ⊢
      omega
     |false=>
      rw[ha] at h
      obtain⟨c,h1,h2⟩:=h
      refine⟨_,h2,λhs ρ n w vl hl=>?_⟩
      obtain⟨v,h3,h4⟩:=hl.get (kF h1 (hp hs))
      exact⟨v,.c h4,.inr ⟨rfl,h3⟩⟩
    obtain⟨d,hk,hd⟩:=h'
    refine⟨d,hk,λhs=>?_⟩
    obtain⟨hj,hA⟩:=kF hob (hp hs)
    have he:=(bT hD.f hs hx).inv_c.inv_hp
    obtain⟨vl,junk,hh,hlen,hcl⟩:=(hD.m.fam.mem hD.l hF hj).at hA hft
    obtain⟨v,hv,hcase⟩:=hd hs ρ s.bl.length w vl (Hl.of_get hlen λi c y hc hy=>Hc.of_rc (hcl.1 i c y hc hy))
    refine⟨v,hv,λu hu=>aOz (p:=0) G (by rw[eA];exact he) (λi y hi=>?_) hcase⟩
    rw[eA]
    exact nC (by rw[(hu rfl).block b (iB hh)];exact hh) hi
   exact h.elim
  exact h.elim
 exact h.elim
theorem zQ {ka:IntKind} {zz:Int} (h:arK pg ka zz k) (hp:sat f gs->aBe pg):∃d,k d/\(sat f gs->∃r,ka.wrap zz=r/\d= .c (.v (.int ka r))):=by
 obtain⟨r,h1,h2⟩:=h
 exact⟨_,h2,λhs=>⟨r,(kF h1 (hp hs)).symm,rfl⟩⟩
include hT in
theorem aDw {op:BinOp} {p q:Prop} {ip:Decidable p} {iq:Decidable q} (h:aMk T t op p q ip iq k) (ex:sat f gs->ev f x= .bool (@decide p ip)) (ey:sat f gs->ev f y= .bool (@decide q iq)):Pu P f ⟨dst,.binOp op t x y t',ty,pos,aft,gd⟩ w ρ s.bl.length gs k:=by
 unfold aMk at h
 split at h
 ·next ti ht=>
  cases hb:ti.bo with
  |false=>rw[hb] at h;exact h.elim
  |true=>
   rw[hb] at h
   simp only[cond_true] at h
   have hu:=(hT t ti ht).bo hb
   split at h
   ·refine⟨_,h,λhs=>⟨_,.c (Rc.b _ _),λu _=>?_⟩⟩
    rw[bSv hu (ex hs) (ey hs)]
    by_cases p<;>by_cases q<;>simp_all
   ·refine⟨_,h,λhs=>⟨_,.c (Rc.b _ _),λu _=>?_⟩⟩
    rw[bSw hu (ex hs) (ey hs)]
    by_cases p<;>by_cases q<;>simp_all
   exact h.elim
 exact h.elim
theorem Hl.inv_vs {n:Nat}:∀{vs vl:List Value},Hl ρ n w (vs.map CV.v) vl->vl=vs
 |[],[],_=>rfl
 |[],_::_,h=>h.elim
 |_::_,[],h=>h.elim
 |v::vs,x::vl,h=>by rw[h.1.inv_v,Hl.inv_vs h.2]
theorem aGt {P:Program} (w:World) (d:Nat) (t e:TypeId) (h:P.underlying t=some (.pointer e)):(Op.equalIn (d+1) t (.pointer none) (.pointer none)).run P w= .ok true w:=by
 simp[Op.equalIn,run_underlying h]
theorem aGu {P:Program} (w:World) (d:Nat) (t e:TypeId) (a:Addr) (h:P.underlying t=some (.pointer e)):(Op.equalIn (d+1) t (.pointer (some a)) (.pointer none)).run P w= .ok false w:=by
 simp[Op.equalIn,run_underlying h]
include hT in
theorem bKt {op:BinOp} (h:bTh T t pg gs s op x y k) (hF:Fr s ρ w f) (hp:sat f gs->aBe pg):Pu P f ⟨dst,.binOp op t x y t',ty,pos,aft,gd⟩ w ρ s.bl.length gs k:=by
 unfold bTh at h
 split at h
 ·next ka a kb b hx hy=>
  cases hsh:cFe op with
  |true=>
   rw[hsh] at h
   simp only[cond_true] at h
   have ex:sat f gs->ev f x= .int ka a:=λhs=>(bT hF hs hx).inv_c.inv_v
   have ey:sat f gs->ev f y= .int kb b:=λhs=>(bT hF hs hy).inv_c.inv_v
   unfold shI at h
   split at h
   ·obtain⟨h0,h⟩:=h
    obtain⟨d,hd,hh⟩:=zQ h hp
    exact⟨d,hd,λhs=>by obtain⟨r,hr,rfl⟩:=hh hs;exact⟨_,.c (Rc.v _),λu _=>cEm (ex hs) (ey hs) (kF h0 (hp hs)) hr⟩⟩
   ·obtain⟨h0,r,hr,h⟩:=h
    exact⟨_,h,λhs=>⟨_,.c (Rc.v _),λu _=>cEn (ex hs) (ey hs) (kF h0 (hp hs)) (kF hr (hp hs)).symm⟩⟩
   exact h.elim
  |false=>
  rw[hsh] at h
  simp only[cond_false] at h
  cases hk:decide (ka=kb) with
  |false=>rw[hk] at h;exact h.elim
  |true=>
   rw[hk] at h
   have hk':=of_decide_eq_true hk
   subst hk'
   simp only[cond_true] at h
   have ex:sat f gs->ev f x= .int ka a:=λhs=>(bT hF hs hx).inv_c.inv_v
   have ey:sat f gs->ev f y= .int ka b:=λhs=>(bT hF hs hy).inv_c.inv_v
   unfold cFd at h
   split at h
   ·exact⟨_,h,λhs=>⟨_,.c (Rc.b _ _),λu _=>cEp (ex hs) (ey hs)⟩⟩
   ·exact⟨_,h,λhs=>⟨_,.c (Rc.b _ _),λu _=>cEq (ex hs) (ey hs)⟩⟩
   ·exact⟨_,h,λhs=>⟨_,.c (Rc.b _ _),λu _=>cEr (ex hs) (ey hs)⟩⟩
   ·exact⟨_,h,λhs=>⟨_,.c (Rc.b _ _),λu _=>cEs (ex hs) (ey hs)⟩⟩
   ·exact⟨_,h,λhs=>⟨_,.c (Rc.b _ _),λu _=>cEt (ex hs) (ey hs)⟩⟩
   ·exact⟨_,h,λhs=>⟨_,.c (Rc.b _ _),λu _=>cEu (ex hs) (ey hs)⟩⟩
   ·obtain⟨d,hd,hh⟩:=zQ h hp
    exact⟨d,hd,λhs=>by obtain⟨r,hr,rfl⟩:=hh hs;exact⟨_,.c (Rc.v _),λu _=>cEh (ex hs) (ey hs) hr⟩⟩
   ·obtain⟨d,hd,hh⟩:=zQ h hp
    exact⟨d,hd,λhs=>by obtain⟨r,hr,rfl⟩:=hh hs;exact⟨_,.c (Rc.v _),λu _=>cEi (ex hs) (ey hs) hr⟩⟩
   ·obtain⟨d,hd,hh⟩:=zQ h hp
    exact⟨d,hd,λhs=>by obtain⟨r,hr,rfl⟩:=hh hs;exact⟨_,.c (Rc.v _),λu _=>cEj (ex hs) (ey hs) hr⟩⟩
   ·obtain⟨h0,h⟩:=h
    obtain⟨d,hd,hh⟩:=zQ h hp
    exact⟨d,hd,λhs=>by obtain⟨r,hr,rfl⟩:=hh hs;exact⟨_,.c (Rc.v _),λu _=>cEk (ex hs) (ey hs) (kF h0 (hp hs)) hr⟩⟩
   ·obtain⟨h0,h⟩:=h
    exact⟨_,h,λhs=>⟨_,.c (Rc.v _),λu _=>cEl (ex hs) (ey hs) (kF h0 (hp hs)) rfl⟩⟩
   ·obtain⟨d,hd,hh⟩:=zQ h hp
    exact⟨d,hd,λhs=>by obtain⟨r,hr,rfl⟩:=hh hs;exact⟨_,.c (Rc.v _),λu _=>cOk (ex hs) (ey hs) hr⟩⟩
   ·obtain⟨d,hd,hh⟩:=zQ h hp
    exact⟨d,hd,λhs=>by obtain⟨r,hr,rfl⟩:=hh hs;exact⟨_,.c (Rc.v _),λu _=>cEo (ex hs) (ey hs) hr⟩⟩
   exact h.elim
 ·next p hp' q hq' hx hy=>exact aDw hT h (λhs=>(bT hF hs hx).inv_c.inv_b) (λhs=>(bT hF hs hy).inv_c.inv_b)
 ·next p hp' q hx hy=>exact aDw hT h (λhs=>(bT hF hs hx).inv_c.inv_b) (λhs=>by rw[(bT hF hs hy).inv_c.inv_v];simp)
 ·next p q hq' hx hy=>exact aDw hT h (λhs=>by rw[(bT hF hs hx).inv_c.inv_v];simp) (λhs=>(bT hF hs hy).inv_c.inv_b)
 ·next a b hx hy=>
  have ex:sat f gs->ev f x= .string a:=λhs=>(bT hF hs hx).inv_c.inv_v
  have ey:sat f gs->ev f y= .string b:=λhs=>(bT hF hs hy).inv_c.inv_v
  split at h
  ·refine⟨_,h,λhs=>⟨_,.c (Rc.b _ _),λu _=>?_⟩⟩
   simp[execOp,ex hs,ey hs,eqGuard,binOp,Op.stringOp]
   rw[qU]
   simp
  ·refine⟨_,h,λhs=>⟨_,.c (Rc.b _ _),λu _=>?_⟩⟩
   simp[execOp,ex hs,ey hs,eqGuard,binOp,Op.stringOp]
   rw[qU]
   simp
  ·refine⟨_,h.2,λhs=>⟨_,.c (Rc.v _),λu _=>?_⟩⟩
   have hsz:=kF h.1 (hp hs)
   have hno:¬(9223372036854775807:Int)<(a.size:Int)+(b.size:Int):=by omega
   simp[execOp,ex hs,ey hs,eqGuard,binOp,Op.stringOp,IntKind.max,hno]
   show(a.size:Int)+(b.size:Int)<=(9223372036854775807:Int)
   omega
  exact h.elim
 ·next A n c e' get hx hy=>
  split at h
  ·next ti hti=>
   cases he:ti.el with
   |none=>rw[he] at h;exact h.elim
   |some e=>
    rw[he] at h
    refine⟨_,h,λhs=>⟨_,.c (Rc.b _ _),λu _=>?_⟩⟩
    rw[aYy ((hT _ _ hti).el e he) (bT hF hs hx).inv_c.inv_r.1 (bT hF hs hy).inv_c.inv_v,Bool.decide_eq_true]
  exact h.elim
 ·next j o hx hy=>
  split at h
  ·next ti hti=>
   cases he:ti.pt with
   |false=>rw[he] at h;exact h.elim
   |true=>
    rw[he] at h
    obtain⟨e,hu⟩:=(hT _ _ hti).pt he
    refine⟨_,h,λhs=>⟨_,.c (Rc.v _),λu _=>?_⟩⟩
    obtain⟨-,b,-,ex⟩:=(bT hF hs hx).inv_c
    have ey:=(bT hF hs hy).inv_c.inv_v
    have h1:(Op.equalIn (9999+1) t (.pointer (some ⟨b,o,none⟩)) (.pointer none)).run P u= .ok false u:=aGu u 9999 t e _ hu
    simp only[execOp,ex,ey,eqGuard,binOp]
    simp[Op.equal,Op.maxDepth,h1]
  ·next ti hti=>
   cases he:ti.pt with
   |false=>rw[he] at h;exact h.elim
   |true=>
    rw[he] at h
    obtain⟨e,hu⟩:=(hT _ _ hti).pt he
    refine⟨_,h,λhs=>⟨_,.c (Rc.v _),λu _=>?_⟩⟩
    obtain⟨-,b,-,ex⟩:=(bT hF hs hx).inv_c
    have ey:=(bT hF hs hy).inv_c.inv_v
    have h1:(Op.equalIn (9999+1) t (.pointer (some ⟨b,o,none⟩)) (.pointer none)).run P u= .ok false u:=aGu u 9999 t e _ hu
    simp only[execOp,ex,ey,eqGuard,binOp]
    simp[Op.equal,Op.maxDepth,h1]
  exact h.elim
 ·next hx hy=>
  split at h
  ·next ti hti=>
   cases he:ti.pt with
   |false=>rw[he] at h;exact h.elim
   |true=>
    rw[he] at h
    obtain⟨e,hu⟩:=(hT _ _ hti).pt he
    refine⟨_,h,λhs=>⟨_,.c (Rc.v _),λu _=>?_⟩⟩
    have ex:=(bT hF hs hx).inv_c.inv_v
    have ey:=(bT hF hs hy).inv_c.inv_v
    have h1:(Op.equalIn (9999+1) t (.pointer none) (.pointer none)).run P u= .ok true u:=aGt u 9999 t e hu
    simp only[execOp,ex,ey,eqGuard,binOp]
    simp[Op.equal,Op.maxDepth,h1]
  ·next ti hti=>
   cases he:ti.pt with
   |false=>rw[he] at h;exact h.elim
   |true=>
    rw[he] at h
    obtain⟨e,hu⟩:=(hT _ _ hti).pt he
    refine⟨_,h,λhs=>⟨_,.c (Rc.v _),λu _=>?_⟩⟩
    have ex:=(bT hF hs hx).inv_c.inv_v
    have ey:=(bT hF hs hy).inv_c.inv_v
    have h1:(Op.equalIn (9999+1) t (.pointer none) (.pointer none)).run P u= .ok true u:=aGt u 9999 t e hu
    simp only[execOp,ex,ey,eqGuard,binOp]
    simp[Op.equal,Op.maxDepth,h1]
  exact h.elim
 ·next l1 l2 hx hy=>
  split at h
  ·next ti hti=>
   obtain⟨vs,h0,h⟩:=h
   refine⟨_,h,λhs=>⟨_,.c (Rc.v _),λu _=>?_⟩⟩
   obtain⟨e1,e2,e3⟩:=kF h0 (hp hs)
   obtain⟨k1,k2⟩:=(hT _ _ hti).ck vs e3
   have ex:ev f x= .agg vs.toArray:=by
    obtain⟨vl,q1,q2⟩:=(bT hF hs hx).inv_a
    rw[e1] at q2
    rw[q1,q2.inv_vs]
   have ey:ev f y= .agg vs.toArray:=by
    obtain⟨vl,q1,q2⟩:=(bT hF hs hy).inv_a
    rw[e2] at q2
    rw[q1,q2.inv_vs]
   have k3:(Op.equalIn 10000 t (.agg vs.toArray) (.agg vs.toArray)).run P u= .ok true u:=k2 u
   simp only[execOp,ex,ey,Sem.run_bind,run_eqGuard_agg u _ _ _ _ _ _ k1,Result.andThen_ok,run_eql_struct,k3,Sem.run_pure]
  exact h.elim
 exact h.elim
theorem bTm {op:UnOp} (h:eUn pg gs s op x k) (hF:Fr s ρ w f) (hp:sat f gs->aBe pg):Pu P f ⟨dst,.unOp op t x,ty,pos,aft,gd⟩ w ρ s.bl.length gs k:=by
 unfold eUn at h
 split at h
 ·next p hh hx=>
  split at h
  ·refine⟨_,h,λhs=>⟨_,.c (Rc.b _ _),λu _=>?_⟩⟩
   rw[bQp (bT hF hs hx).inv_c.inv_b]
   simp
  exact h.elim
 ·next b hx=>
  split at h
  ·exact⟨_,h,λhs=>⟨_,.c (Rc.v _),λu _=>bQp (bT hF hs hx).inv_c.inv_v⟩⟩
  exact h.elim
 ·next ka a hx=>
  split at h
  ·obtain⟨d,hd,hh⟩:=zQ h hp
   exact⟨d,hd,λhs=>by obtain⟨r,hr,rfl⟩:=hh hs;exact⟨_,.c (Rc.v _),λu _=>cEv (bT hF hs hx).inv_c.inv_v hr⟩⟩
  exact h.elim
 exact h.elim
include hT in
theorem bAe (h:aZw T pg gs s t t' x k) (hF:Fr s ρ w f) (hp:sat f gs->aBe pg):Pu P f ⟨dst,.convert t t' x,ty,pos,aft,gd⟩ w ρ s.bl.length gs k:=by
 unfold aZw at h
 split at h
 ·next t1 ti h1 h2=>
  split at h
  ·next ka kk a hk hx=>
   obtain⟨d0,hd0⟩:=(hT t t1 h1).un
   obtain⟨d,hd,hh⟩:=zQ h hp
   exact⟨d,hd,λhs=>by obtain⟨r,hr,rfl⟩:=hh hs;exact⟨_,.c (Rc.v _),λu _=>bSx hd0 ((hT t' ti h2).ik _ hk) (bT hF hs hx).inv_c.inv_v hr⟩⟩
  exact h.elim
 exact h.elim
include hT in
theorem bKu (h:bTi T pg gs s t x y k) (hD:Dn ρ0 w0 nb s ρ f w) (hp:sat f gs->aBe pg):Pu P f ⟨dst,.indexAddr t x y,ty,pos,aft,gd⟩ w ρ s.bl.length gs k:=by
 unfold bTi at h
 split at h
 ·next ti ht=>
  split at h
  ·next e he=>
   have hu:=(hT t ti ht).el e he
   split at h
   ·next te A n c e' get kk zz hte hx hy=>
    obtain⟨z0,hty,_⟩:=(hT e te hte).ty
    cases hb:Nat.beq e' te.size with
    |false=>rw[hb] at h;exact h.elim
    |true=>
     rw[hb] at h
     have hb':=aK hb
     obtain⟨m,hm,h⟩:=(show ∃m:Nat,ob pg (zz=m/\m<n)/\k (.c (.q A n c e' get m 0)) from h)
     refine⟨_,h,λhs=>?_⟩
     obtain⟨hm1,hm2⟩:=kF hm (hp hs)
     obtain⟨h1,h2⟩:=(bT hD.f hs hx).inv_c.inv_r
     obtain⟨b,o,hA,_⟩:=h2.elem hm2
     refine⟨.pointer (some ⟨b,o+m*e'+0,none⟩),.c ⟨h2,hm2,b,o,hA,rfl⟩,λu _=>?_⟩
     have hr:=sX (P:=P) (w:=u) (dst:=dst) (ty:=ty) (pos:=pos) (aft:=aft) (g:=gd) (b:=b) (o:=o) (n:=n) (c:=c) hu hty (by rw[h1,hA]) (bT hD.f hs hy).inv_c.inv_v oM oM
     rw[hm1,cL,<-hb'] at hr
     exact hr
   ·next te i n kk zz hte hx hy=>
    obtain⟨z0,hty,_⟩:=(hT e te hte).ty
    split at h
    ·next bb hbb=>
     obtain⟨T',es,l⟩:=bb
     obtain⟨m,hm,h⟩:=h
     refine⟨_,h,λhs=>?_⟩
     obtain⟨hm1,hm2,hm3⟩:=kF hm (hp hs)
     obtain⟨hi,he⟩:=(bT hD.f hs hx).inv_c
     have hq:=hD.m.ok i T' es l hbb
     cases hb:(ρ i).1 with
     |none=>
      unfold Bq at hq
      simp only[hb] at hq
      rw[hq.1] at hm3
      exact absurd hm3 (aF _)
     |some b=>
      rw[hb] at he
      refine⟨.pointer (some ⟨b,m*te.size,none⟩),.c ⟨hi,b,hb,rfl⟩,λu _=>?_⟩
      have hr:=sX (P:=P) (w:=u) (dst:=dst) (ty:=ty) (pos:=pos) (aft:=aft) (g:=gd) (b:=b) (o:=0) (n:=n) (c:=(ρ i).2) hu hty he (bT hD.f hs hy).inv_c.inv_v oM oM
      rw[hm1,cL,eA] at hr
      exact hr
    exact h.elim
   ·next te A n c kk zz hte hx hy=>
    obtain⟨z0,hty,_⟩:=(hT e te hte).ty
    obtain⟨m,b,hm,h⟩:=h
    refine⟨_,h,λhs=>?_⟩
    obtain⟨hm1,hm2,hA⟩:=kF hm (hp hs)
    subst hA
    refine⟨.pointer (some ⟨b,m*te.size,none⟩),.c (Rc.hp _ _),λu _=>?_⟩
    have hr:=sX (P:=P) (w:=u) (dst:=dst) (ty:=ty) (pos:=pos) (aft:=aft) (g:=gd) (b:=b) (o:=0) (n:=n) (c:=c) hu hty (bT hD.f hs hx).inv_c.inv_h (bT hD.f hs hy).inv_c.inv_v oM oM
    rw[hm1,cL,eA] at hr
    exact hr
   ·next te i o n kk zz hte hx hy=>
    obtain⟨z0,hty,_⟩:=(hT e te hte).ty
    obtain⟨m,hm,h⟩:=h
    refine⟨_,h,λhs=>?_⟩
    obtain⟨hm1,hm2⟩:=kF hm (hp hs)
    obtain⟨hi,A,c,hc1,hc2,rfl',hA⟩:=(bT hD.f hs hx).inv_c
    rcases hA with h0|⟨b,hb,hA⟩
    ·omega
    subst hA
    refine⟨.pointer (some ⟨b,o+m*te.size,none⟩),.c ⟨hi,b,hb,rfl⟩,λu _=>?_⟩
    have hr:=sX (P:=P) (w:=u) (dst:=dst) (ty:=ty) (pos:=pos) (aft:=aft) (g:=gd) (b:=b) (o:=o) (n:=n) (c:=c) hu hty rfl' (bT hD.f hs hy).inv_c.inv_v oM oM
    rw[hm1,cL] at hr
    exact hr
   exact h.elim
  exact h.elim
 exact h.elim
theorem zR {u:World} {kk:IntKind} {i:Int} {b o n size bytes:Nat} {zz:Value} {e:TypeId} (hu:P.underlying t=some (.array n e)) (ht:TyI P e size bytes zz) (hx:ev f x= .pointer (some ⟨b,o,none⟩)) (hy:ev f y= .int kk i) (h0:0<=i) (h1:i<n):
 (execOp (ev f) ⟨dst,.indexAddr t x y,ty,pos,aft,gd⟩).run P u= .ok (.value (.pointer (some ⟨b,o+i.toNat*size,none⟩))) u:=by
 obtain⟨ii,hi,_,hs,_⟩:=ht.ex
 simp[execOp,hx,hy,Instr.indexAt,Instr.sureAddr,asIntOf,run_underlying hu,sizeOf,typeInfo,hi,hs,h0,h1,fN]
include hT in
theorem bAf (h:aZx T pg gs s t x y k) (hF:Fr s ρ w f) (hp:sat f gs->aBe pg):Pu P f ⟨dst,.indexAddr t x y,ty,pos,aft,gd⟩ w ρ s.bl.length gs k:=by
 unfold aZx at h
 split at h
 ·next ti ht=>
  split at h
  ·next n e es i o kk z har hx hy=>
   obtain⟨hu,by',zz,hty⟩:=(hT t ti ht).ar n e es har
   obtain⟨m,hm,h⟩:=h
   refine⟨_,h,λhs=>?_⟩
   obtain⟨hm1,hm2⟩:=kF hm (hp hs)
   obtain⟨hi,b,hb,he⟩:=(bT hF hs hx).inv_c
   refine⟨.pointer (some ⟨b,o+m*es,none⟩),.c ⟨hi,b,hb,rfl⟩,λu _=>?_⟩
   have hr:=zR (P:=P) (u:=u) (dst:=dst) (ty:=ty) (pos:=pos) (aft:=aft) (gd:=gd) hu hty he (bT hF hs hy).inv_c.inv_v oM oM
   rw[hm1,cL] at hr
   exact hr
  ·next n e es A nn c e' get j o kk z har hx hy=>
   obtain⟨hu,by',zz,hty⟩:=(hT t ti ht).ar n e es har
   obtain⟨m,hm,h⟩:=h
   refine⟨_,h,λhs=>?_⟩
   obtain⟨hm1,hm2⟩:=kF hm (hp hs)
   obtain⟨hr0,hj,b,o',hA,he⟩:=(bT hF hs hx).inv_c
   refine⟨.pointer (some ⟨b,o'+j*e'+(o+m*es),none⟩),.c ⟨hr0,hj,b,o',hA,rfl⟩,λu _=>?_⟩
   have hr:=zR (P:=P) (u:=u) (dst:=dst) (ty:=ty) (pos:=pos) (aft:=aft) (gd:=gd) hu hty he (bT hF hs hy).inv_c.inv_v oM oM
   rw[hm1,cL,iA (o'+j*e')] at hr
   exact hr
  exact h.elim
 exact h.elim
include hT in
theorem bAg (h:aZy T pg gs s t x y k) (hF:Fr s ρ w f) (hp:sat f gs->aBe pg):Pu P f ⟨dst,.index t x y,ty,pos,aft,gd⟩ w ρ s.bl.length gs k:=by
 unfold aZy at h
 split at h
 ·next ti ht=>
  cases hb:ti.str with
  |false=>rw[hb] at h;exact h.elim
  |true=>
   rw[hb] at h
   simp only[cond_true] at h
   split at h
   ·next a kk z hx hy=>
    obtain⟨m,b,hm,h⟩:=h
    refine⟨_,h,λhs=>?_⟩
    obtain⟨hm1,hm2⟩:=kF hm (hp hs)
    refine⟨_,.c (Rc.v _),λu _=>?_⟩
    have hx':=(bT hF hs hx).inv_c.inv_v
    have hy':=(bT hF hs hy).inv_c.inv_v
    have h0:0<=z:=by omega
    have hz:z.toNat=m:=by omega
    simp[execOp,hx',hy',Instr.index,asIntOf,run_underlying ((hT t ti ht).str hb),h0,hz,hm2]
   exact h.elim
 exact h.elim
theorem cFf {i n e:Nat} {Tb:TypeId} {lb:List CV} (hD:Dn ρ0 w0 nb s ρ f w) (hbb:s.bl[i]? =some (Tb,e,lb)) (hpos:0<e) (hm3:n*e<=lb.length):n<=(ρ i).2/\(ρ i).2<=maxLen/\(n≠0->∃b,(ρ i).1=some b):=by
 have hq:=hD.m.ok i Tb e lb hbb
 unfold Bq at hq
 cases hρ:(ρ i).1 with
 |none=>
  simp only[hρ] at hq
  rw[hq.1] at hm3
  have:n=0:=by
   rcases cE n with h0|h0
   ·exact h0
   have:=nF h0 hpos;simp at hm3;omega
  exact⟨by omega,by rw[hq.2.1];exact aC _,λh=>absurd this h⟩
 |some b=>
  simp only[hρ] at hq
  obtain⟨vl,junk,_,q2,q3,_⟩:=hq
  have h1:=(q3 hpos).1
  have h2:=q2.len
  rw[aE] at h1
  have h3:n*e<=(ρ i).2*e:=by omega
  exact⟨eS h3 hpos,(q3 hpos).2,λ_=>⟨b,rfl⟩⟩
include hT in
theorem bTn {lo hi:Option Operand} (h:eSl T pg gs s t x lo hi k) (hD:Dn ρ0 w0 nb s ρ f w) (hp:sat f gs->aBe pg):Pu P f ⟨dst,.slice t x lo hi none,ty,pos,aft,gd⟩ w ρ s.bl.length gs k:=by
 have hF:=hD.f
 unfold eSl at h
 split at h
 ·next ti ht=>
  split at h
  ·next e he=>
   have hu:=(hT t ti ht).el e he
   split at h
   ·next te A n c e' get hte hx=>
    obtain⟨zz,hty,_⟩:=(hT e te hte).ty
    cases hb:Nat.beq e' te.size with
    |false=>rw[hb] at h;exact h.elim
    |true=>
     rw[hb] at h
     simp only[cond_true] at h
     have hb':=aK hb
     split at h
     ·next y=>
      split at h
      ·next kk z hy=>
       obtain⟨m,hm,h⟩:=h
       refine⟨_,h,λhs=>?_⟩
       obtain⟨hm1,hm2⟩:=kF hm (hp hs)
       obtain⟨e1,e2⟩:=(bT hF hs hx).inv_c.inv_r
       have hcn:n<=c/\c<=maxLen:=by
        cases e2 with
        |nil A c e get hm=>exact⟨aC _,hm⟩
        |r b o n c e get V hc hm=>exact⟨hc,hm⟩
       refine⟨.slice A m c,.c (Hc.of_rc ?_),λu _=>?_⟩
       ·cases e2 with
        |nil A c e get hmx=>
         have:m=0:=by omega
         subst this
         exact Rc.nil _ _ _ _ hmx
        |r b o n c e get V hc hmx hZ hcell hlen hel=>exact Rc.r b o m c e' get V oM hmx hZ (λj hj=>hcell j oM) (λj hj=>hlen j oM) (λj hj=>hel j oM)
       have hr:=aGj (P:=P) (w:=u) (dst:=dst) (ty:=ty) (pos:=pos) (aft:=aft) (g:=gd) hu hty e1 (bT hF hs hy).inv_c.inv_v oM oM
       rw[hm1,cL] at hr
       exact hr
      exact h.elim
     ·next y=>
      split at h
      ·next kk z hy=>
       obtain⟨m,hm,h⟩:=h
       refine⟨_,h,λhs=>?_⟩
       obtain⟨hm1,hm2⟩:=kF hm (hp hs)
       obtain⟨e1,e2⟩:=(bT hF hs hx).inv_c.inv_r
       refine⟨.slice (slA A c m e') (n-m) (c-m),.c (Hc.of_rc ?_),λu _=>?_⟩
       ·cases e2 with
        |nil A c e get hmx=>rw[Nat.zero_sub];exact Rc.nil _ _ _ _ oM
        |r b o n c e get V hc hmx hZ hcell hlen hel=>
         by_cases h0:n-m=0
         ·rw[h0];exact Rc.nil _ _ _ _ oM
         have hA:slA (some ⟨b,o,none⟩) c m e'=some ⟨b,o+m*e',none⟩:=by
          unfold slA
          rw[if_neg oM]
          simp[fN]
         rw[hA]
         refine Rc.r b (o+m*e') (n-m) (c-m) e' (λj=>get (j+m)) (λj=>V (j+m)) oM oM hZ (λj hj i u hu=>?_) (λj hj=>hlen (j+m) oM) (λj hj=>hel (j+m) oM)
         have:=hcell (j+m) oM i u hu
         rw[show o+m*e'+j*e'+i=o+(j+m)*e'+i by rw[dJ];omega]
         exact this
       have hr:=aGk (P:=P) (w:=u) (dst:=dst) (ty:=ty) (pos:=pos) (aft:=aft) (g:=gd) hu hty e1 (bT hF hs hy).inv_c.inv_v oM oM
       rw[hm1,cL,<-hb'] at hr
       exact hr
      exact h.elim
     exact h.elim
   ·next te i n hte hx=>
    obtain⟨zz,hty,_⟩:=(hT e te hte).ty
    split at h
    ·next bb hbb=>
     obtain⟨Tb,eb,lb⟩:=bb
     cases hb:(Nat.beq eb te.size&&Nat.ble 1 te.size) with
     |false=>simp only[hb,cond_false] at h
     |true=>
      simp only[hb,cond_true] at h
      simp only[aP] at hb
      have hb':=aK hb.1
      subst hb'
      have hpos:=bX hb.2
      split at h
      ·next y=>
       split at h
       ·next kk z hy=>
        obtain⟨m,hm,h⟩:=h
        refine⟨_,h,λhs=>?_⟩
        obtain⟨hm1,hm2⟩:=kF hm (hp hs)
        obtain⟨hi,he⟩:=(bT hF hs hx).inv_c
        have hcap:m<=(ρ i).2:=by
         have hq:=hD.m.ok i Tb te.size lb hbb
         unfold Bq at hq
         cases hρ:(ρ i).1 with
         |none=>
          simp only[hρ] at hq
          rw[hq.1] at hm2
          have:m=0:=by
           rcases cE m with h0|h0
           ·exact h0
           have:=nF h0 hpos;simp at hm2;omega
          omega
         |some b=>
          simp only[hρ] at hq
          obtain⟨vl,junk,_,q2,q3,_⟩:=hq
          have h1:=(q3 hpos).1
          have h2:=q2.len
          rw[aE] at h1
          have h3:m*te.size<=(ρ i).2*te.size:=by omega
          exact eS h3 hpos
        refine⟨.slice ((ρ i).1.map λb=>⟨b,0,none⟩) m (ρ i).2,.c ⟨hi,rfl⟩,λu _=>?_⟩
        have hr:=aGj (P:=P) (w:=u) (dst:=dst) (ty:=ty) (pos:=pos) (aft:=aft) (g:=gd) hu hty he (bT hF hs hy).inv_c.inv_v oM oM
        rw[hm1,cL] at hr
        exact hr
       exact h.elim
      ·next y=>
       split at h
       ·next kk z hy=>
        obtain⟨l,hm,h⟩:=h
        refine⟨_,h,λhs=>?_⟩
        obtain⟨hm1,hm2,hm3⟩:=kF hm (hp hs)
        obtain⟨hi,he⟩:=(bT hF hs hx).inv_c
        have hcap:=cFf hD hbb hpos hm3
        refine⟨.slice (if (ρ i).2=l then (ρ i).1.map (λb=>(⟨b,0,none⟩:Addr)) else ((ρ i).1.map λb=>(⟨b,0,none⟩:Addr)).map (·.add (l*te.size))) (n-l) ((ρ i).2-l),.c ⟨hi,_,_,by omega,by omega,rfl,?_⟩,λu _=>?_⟩
        ·by_cases h0:n-l=0
         ·exact .inl h0
         obtain⟨b,hb⟩:=hcap.2.2 oM
         refine .inr ⟨b,hb,?_⟩
         rw[if_neg oM,hb]
         simp[fN]
        have hr:=aGk (P:=P) (w:=u) (dst:=dst) (ty:=ty) (pos:=pos) (aft:=aft) (g:=gd) hu hty he (bT hF hs hy).inv_c.inv_v oM oM
        rw[hm1,cL] at hr
        exact hr
       exact h.elim
      ·next y y'=>
       split at h
       ·next kk z kk' z' hy hy'=>
        obtain⟨l,g,hm,h⟩:=h
        refine⟨_,h,λhs=>?_⟩
        obtain⟨⟨hm1,hm4⟩,hm2,hm5,hm3⟩:=kF hm (hp hs)
        obtain⟨hi,he⟩:=(bT hF hs hx).inv_c
        obtain⟨hcap,hcap2,hcap3⟩:=cFf hD hbb hpos hm3
        refine⟨.slice (if (ρ i).2=l then (ρ i).1.map (λb=>(⟨b,0,none⟩:Addr)) else ((ρ i).1.map λb=>(⟨b,0,none⟩:Addr)).map (·.add (l*te.size))) (g-l) ((ρ i).2-l),.c ⟨hi,_,_,by omega,by omega,rfl,?_⟩,λu _=>?_⟩
        ·by_cases h0:g-l=0
         ·exact .inl h0
         obtain⟨b,hb⟩:=hcap3 oM
         refine .inr ⟨b,hb,?_⟩
         rw[if_neg oM,hb]
         simp[fN]
        have hr:=aOs (P:=P) (w:=u) (dst:=dst) (ty:=ty) (pos:=pos) (aft:=aft) (g:=gd) hu hty he (bT hF hs hy).inv_c.inv_v (bT hF hs hy').inv_c.inv_v oM oM oM
        rw[hm1,hm4,cL,cL] at hr
        exact hr
       exact h.elim
      exact h.elim
    exact h.elim
   exact h.elim
  cases hb:ti.str with
  |false=>rw[hb] at h;exact h.elim
  |true=>
   rw[hb] at h
   simp only[cond_true] at h
   split at h
   ·next a y y' hx=>
    split at h
    ·next k1 z k2 z' hy hy'=>
     obtain⟨l,m,hm,h⟩:=h
     refine⟨_,h,λhs=>⟨_,.c (Rc.v _),λu _=>?_⟩⟩
     obtain⟨h1,h2,h3,h4⟩:=kF hm (hp hs)
     subst h1 h2
     have e1:=(bT hF hs hx).inv_c.inv_v
     have e2:=(bT hF hs hy).inv_c.inv_v
     have e3:=(bT hF hs hy').inv_c.inv_v
     have hno:¬(a.size:Int)<(m:Int):=by omega
     have hno2:¬(m:Int)<(l:Int):=by omega
     simp[execOp,e1,e2,e3,Instr.sliceAt,Instr.slice,Instr.sliceBounds,Instr.sliceBound,asIntOf,run_underlying ((hT t ti ht).str hb),hno,hno2,h3,h4]
    exact h.elim
   exact h.elim
 exact h.elim
include hT in
theorem bAh {i:Nat} (h:aZz T gs s t x i k) (hF:Fr s ρ w f):Pu P f ⟨dst,.field t x i,ty,pos,aft,gd⟩ w ρ s.bl.length gs k:=by
 unfold aZz at h
 split at h
 ·next ti ht=>
  split at h
  ·next fi hfi=>
   split at h
   ·next l hx=>
    rcases (hT t ti ht).fs with h0|⟨F,hFF,_,hh⟩
    ·rw[h0] at hfi;cases hfi
    obtain⟨fl,h1,h2,h3,h4,⟨dd,h5⟩,by',zz,h6⟩:=hh i fi hfi
    obtain⟨d,hk,hd⟩:=aTg h
    refine⟨d,hk,λhs=>?_⟩
    obtain⟨vl,he,hl⟩:=(bT hF hs hx).inv_a
    obtain⟨v,hv,hcase⟩:=hd ρ s.bl.length w vl hl
    refine⟨v,hv,λu _=>?_⟩
    rw[<-h3] at h4 h5 h6
    rcases hcase with ⟨ha,rfl,hlen⟩|⟨ha,hv⟩
    ·have hr:=aYu (P:=P) (w:=u) (dst:=dst) (ty:=ty) (pos:=pos) (aft:=aft) (g:=gd) hFF h1 h5 (h4.trans ha) h6 he
     rw[hr,h2]
     simp
    exact bJx hFF h1 h5 (h4.trans ha) he (by rw[h2];simpa using hv)
   exact h.elim
  exact h.elim
 exact h.elim
theorem bKv {i:Nat} (h:bTj gs s x i k) (hF:Fr s ρ w f):Pu P f ⟨dst,.extract x i,ty,pos,aft,gd⟩ w ρ s.bl.length gs k:=by
 unfold bTj at h
 split at h
 ·next l hx=>
  split at h
  ·next d hd=>
   refine⟨d,h,λhs=>?_⟩
   obtain⟨vl,he,hlen,hh⟩:=(bT hF hs hx).inv_t
   have hlt:i<vl.length:=by rw[<-hlen];exact eG hd
   exact⟨vl[i],hh i d _ hd (aG hlt),λu _=>aWx he (by simp[hlt])⟩
  exact h.elim
 exact h.elim
theorem bTo {u:World} {a:ByteArray} (ht:P.underlying t=some .string) (hx:ev f x= .string a):(execOp (ev f) ⟨dst,.call ⟨.builtin .len,#[x],#[t]⟩,ty,pos,aft,gd⟩).run P u= .ok (.value (.int .i64 a.size)) u:=by
 simp[execOp,resolve,invoke,builtin,Builtin.len_,run_underlying ht,hx,goInt]
include hT in
theorem bKw (h:bTk T gs s t x k) (hF:Fr s ρ w f):Pu P f ⟨dst,.call ⟨.builtin .len,#[x],#[t]⟩,ty,pos,aft,gd⟩ w ρ s.bl.length gs k:=by
 unfold bTk at h
 split at h
 ·next ti ht=>
  have hel:∀{b:Bool} {q:Prop},(bif ti.el.isSome then q else False)->q/\∃e,P.underlying t=some (.slice e):=λ{_ q} hq=>by
   cases he:ti.el with
   |none=>rw[he] at hq;exact hq.elim
   |some e=>rw[he] at hq;exact⟨hq,e,(hT t ti ht).el e he⟩
  split at h
  ·next A n c e get hx=>
   obtain⟨h,e,hu⟩:=hel (b:=true) h
   exact⟨_,h,λhs=>⟨_,.c (Rc.v _),λu _=>aSu hu (bT hF hs hx).inv_c.inv_r.1⟩⟩
  ·next i n hx=>
   obtain⟨h,e,hu⟩:=hel (b:=true) h
   exact⟨_,h,λhs=>⟨_,.c (Rc.v _),λu _=>aSu hu (bT hF hs hx).inv_c.2⟩⟩
  ·next A n c hx=>
   obtain⟨h,e,hu⟩:=hel (b:=true) h
   exact⟨_,h,λhs=>⟨_,.c (Rc.v _),λu _=>aSu hu (bT hF hs hx).inv_c.inv_h⟩⟩
  ·next A n c hx=>
   obtain⟨h,e,hu⟩:=hel (b:=true) h
   exact⟨_,h,λhs=>⟨_,.c (Rc.v _),λu _=>aSu hu (bT hF hs hx).inv_c.inv_v⟩⟩
  ·next a hx=>
   cases hb:ti.str with
   |false=>rw[hb] at h;exact h.elim
   |true=>
    rw[hb] at h
    exact⟨_,h,λhs=>⟨_,.c (Rc.v _),λu _=>bTo ((hT t ti ht).str hb) (bT hF hs hx).inv_c.inv_v⟩⟩
  exact h.elim
 exact h.elim
theorem bAi {mx:Bool} (h:eMm mx gs s x y k) (hF:Fr s ρ w f):Pu P f ⟨dst,.call ⟨.builtin (bif mx then .max else .min),#[x,y],#[t,t']⟩,ty,pos,aft,gd⟩ w ρ s.bl.length gs k:=by
 unfold eMm at h
 split at h
 ·next ka a kb b hx hy=>
  cases hk:decide (ka=kb) with
  |false=>rw[hk] at h;exact h.elim
  |true=>
   rw[hk] at h
   have hk':=of_decide_eq_true hk
   subst hk'
   refine⟨_,h,λhs=>⟨_,.c (Rc.v _),λu _=>?_⟩⟩
   cases mx
   ·have:=bSz (P:=P) (w:=u) (dst:=dst) (ty:=ty) (pos:=pos) (aft:=aft) (g:=gd) (t:=t) (t':=t') (bT hF hs hx).inv_c.inv_v (bT hF hs hy).inv_c.inv_v
    rw[show(if b<a then b else a)=min a b by omega] at this
    exact this
   have:=bSy (P:=P) (w:=u) (dst:=dst) (ty:=ty) (pos:=pos) (aft:=aft) (g:=gd) (t:=t) (t':=t') (bT hF hs hx).inv_c.inv_v (bT hF hs hy).inv_c.inv_v
   rw[show(if b>a then b else a)=max a b by omega] at this
   exact this
 exact h.elim
theorem uE {t:Nat} {b:Bool} (h:f t= .bool b) (hs:sat f gs):sat f ((t,b)::gs):=λp hp=>by
 rcases bZ.1 hp with rfl|hp
 ·exact h
 exact hs p hp
theorem bAj (h:bAa gs s x y z k) (hF:Fr s ρ w f):Pu P f ⟨dst,.pick x y z,ty,pos,aft,gd⟩ w ρ s.bl.length gs k:=by
 unfold bAa at h
 split at h
 ·next tt=>
  split at h
  ·next b hx=>
   cases b with
   |true=>
    simp only[cond_true] at h
    unfold aCf at h
    split at h
    ·next d hy=>
     refine⟨d,h,λhs=>?_⟩
     have e:ev f (.tmp tt)= .bool true:=(bT hF hs hx).inv_c.inv_v
     exact⟨_,bT hF (uE e hs) hy,λu _=>aLs e rfl⟩
    exact h.elim
   |false=>
    simp only[cond_false] at h
    unfold aCf at h
    split at h
    ·next d hy=>
     refine⟨d,h,λhs=>?_⟩
     have e:ev f (.tmp tt)= .bool false:=(bT hF hs hx).inv_c.inv_v
     exact⟨_,bT hF (uE e hs) hy,λu _=>aLt e rfl⟩
    exact h.elim
  ·next c hnot hx=>
   split at h
   ·next p q hy hz=>
    have key:∀(pp:Prop) (hp:Decidable pp) (d:DV),c= .c (.b pp hp)->(pp->∀v,Hd ρ s.bl.length w p v->Hd ρ s.bl.length w d v)->(¬pp->∀v,Hd ρ s.bl.length w q v->Hd ρ s.bl.length w d v)->sat f gs->Cal P f ⟨dst,.pick (.tmp tt) y z,ty,pos,aft,gd⟩ w ρ s.bl.length d:=by
     intro pp hp d hc h1 h2 hs
     subst hc
     have e:ev f (.tmp tt)= .bool (decide pp):=(bT hF hs hx).inv_c.inv_b
     by_cases hpp:pp
     ·rw[decide_eq_true hpp] at e
      exact⟨_,h1 hpp _ (bT hF (uE e hs) hy),λu _=>aLs e rfl⟩
     rw[decide_eq_false hpp] at e
     exact⟨_,h2 hpp _ (bT hF (uE e hs) hz),λu _=>aLt e rfl⟩
    have bd:∀{a b:Prop} {ha:Decidable a} {hb:Decidable b} {v:Value},(a↔b)->Hd ρ s.bl.length w (.c (.b a ha)) v->Hd ρ s.bl.length w (.c (.b b hb)) v:=λ{a b ha hb v} hab hv=>by
     have:=hv.inv_c.inv_b
     subst this
     have:decide a=decide b:=decide_eq_decide.2 hab
     rw[this]
     exact .c (Rc.b _ _)
    have bl:∀{a:Bool} {b:Prop} {hb:Decidable b} {v:Value},(a=true↔b)->Hd ρ s.bl.length w (.c (.v (.bool a))) v->Hd ρ s.bl.length w (.c (.b b hb)) v:=λ{a b hb v} hab hv=>by
     have:=hv.inv_c.inv_v
     subst this
     have:a=decide b:=by rw[qU,hab];simp
     rw[this]
     exact .c (Rc.b _ _)
    unfold bQr at h
    split at h
    ·next pp hp qq hq zb=>
     cases zb
     ·exact⟨_,h,key pp hp _ rfl (λh1 v hv=>bd (by simp[h1]) hv) (λh1 v hv=>bl (by simp[h1]) hv)⟩
     exact⟨_,h,key pp hp _ rfl (λh1 v hv=>bd (by simp[h1]) hv) (λh1 v hv=>bl (by simp[h1]) hv)⟩
    ·next pp hp yb qq hq=>
     cases yb
     ·exact⟨_,h,key pp hp _ rfl (λh1 v hv=>bl (by simp[h1]) hv) (λh1 v hv=>bd (by simp[h1]) hv)⟩
     exact⟨_,h,key pp hp _ rfl (λh1 v hv=>bl (by simp[h1]) hv) (λh1 v hv=>bd (by simp[h1]) hv)⟩
    ·next pp hp qq hq rr hr=>
     exact⟨_,h,key pp hp _ rfl (λh1 v hv=>bd (by simp[h1]) hv) (λh1 v hv=>bd (by simp[h1]) hv)⟩
    ·next pp hp yb zb=>
     cases yb<;>cases zb<;>first|exact h.elim|exact⟨_,h,key pp hp _ rfl (λ_ v hv=>hv) (λ_ v hv=>hv)⟩|exact⟨_,h,key pp hp _ rfl (λh1 v hv=>bl (by simp[h1]) hv) (λh1 v hv=>bl (by simp[h1]) hv)⟩
    exact h.elim
   exact h.elim
  exact h.elim
 exact h.elim
theorem aTh {l:List Operand} {kk:List (Nat×Nat)->Prop} (h:bAb gs s l kk) (hF:Fr s ρ w f):∃r,kk r/\(sat f gs->(∀p∈r,p.1<s.bl.length/\(ρ p.1).1≠none)/\l.map (ev f)=r.map (ptr ρ)):=by
 induction l generalizing kk with
 |nil=>exact⟨[],h,λ_=>⟨λp hp=>absurd hp dZ,rfl⟩⟩
 |cons x l ih=>
  unfold bAb at h
  split at h
  ·next i o hx=>
   obtain⟨r,h1,h2⟩:=ih h
   refine⟨_,h1,λhs=>?_⟩
   obtain⟨h3,h4⟩:=h2 hs
   obtain⟨hi,b,hb,he⟩:=(bT hF hs hx).inv_c
   refine⟨λp hp=>?_,by rw[eQ,eQ,h4,he];simp[ptr,hb]⟩
   rcases bZ.1 hp with rfl|hp
   ·exact⟨hi,by simp[hb]⟩
   exact h3 p hp
  exact h.elim
theorem bKx {fn:Fn} {fi ca:List Operand} (h:bTl gs s fn fi ca k) (hF:Fr s ρ w f):Pu P f ⟨dst,.makeFunc fn fi.toArray ca.toArray,ty,pos,aft,gd⟩ w ρ s.bl.length gs k:=by
 unfold bTl at h
 split at h
 ·next q=>
  obtain⟨a,h1,ha⟩:=aTh h hF
  obtain⟨b,h2,hb⟩:=aTh h1 hF
  refine⟨_,h2,λhs=>?_⟩
  obtain⟨a1,a2⟩:=ha hs
  obtain⟨b1,b2⟩:=hb hs
  refine⟨_,.c ⟨λp hp=>?_,rfl⟩,λu _=>by simp[execOp,Instr.makeFunc,a2,b2]⟩
  rcases aQ.1 hp with hp|hp
  ·exact a1 p hp
  exact b1 p hp
 exact h.elim
end ops
/-! ### lists whose spine is computed at once -/
def ovK:List CV->List CV->(List CV->Prop)->Prop
 |l,[],k=>k l
 |_::l,v::vs,k=>ovK l vs λr=>k (v::r)
 |[],_::_,_=>False
def bAk:Nat->List CV->List CV->(List CV->Prop)->Prop
 |0,l,vs,k=>ovK l vs k
 |o+1,c::l,vs,k=>bAk o l vs λr=>k (c::r)
 |_+1,[],_,_=>False
def mD (l:List CV) (o:Nat) (vs:List CV):List CV:=l.take o++(vs++l.drop (o+vs.length))
theorem bAl:∀{l vs:List CV} {k:List CV->Prop},ovK l vs k->vs.length<=l.length/\k (vs++l.drop vs.length)
 |l,[],k,h=>by cases l<;>exact⟨aC _,by simpa[ovK] using h⟩
 |[],v::vs,k,h=>h.elim
 |c::l,v::vs,k,h=>by
  obtain⟨h1,h2⟩:=bAl (l:=l) (vs:=vs) h
  exact⟨uQ h1,by simpa using h2⟩
theorem aHx:∀{o:Nat} {l vs:List CV} {k:List CV->Prop},bAk o l vs k->o+vs.length<=l.length/\k (mD l o vs)
 |0,l,vs,k,h=>by
  obtain⟨h1,h2⟩:=bAl (show ovK l vs k from by cases l<;>exact h)
  exact⟨by omega,by simpa[mD] using h2⟩
 |o+1,[],vs,k,h=>h.elim
 |o+1,c::l,vs,k,h=>by
  obtain⟨h1,h2⟩:=aHx (o:=o) (l:=l) (vs:=vs) h
  refine⟨by simp only[eF];omega,?_⟩
  have e:mD (c::l) (o+1) vs=c::mD l o vs:=by
   simp[mD,show o+1+vs.length=(o+vs.length)+1 by omega]
  rw[e]
  exact h2
theorem aHy {ρ:Pl} {n:Nat} {w:World} {l vs:List CV} {vl us:List Value} (o:Nat) (h:Hl ρ n w l vl) (h2:Hl ρ n w vs us):Hl ρ n w (mD l o vs) (spl vl o us):=by
 unfold mD spl
 rw[h2.len,cU]
 exact(h.take o).append (h2.append (h.drop _))
def qW {α:Type}:List α->α->(List α->Prop)->Prop
 |[],x,k=>k [x]
 |a::l,x,k=>qW l x λr=>k (a::r)
theorem mI {α:Type}:∀{l:List α} {x:α} {k:List α->Prop},qW l x k->k (l++[x])
 |[],x,k,h=>h
 |a::l,x,k,h=>mI (l:=l) h
def mO {α:Type}:List α->Nat->α->(List α->Prop)->Prop
 |[],_,_,k=>k []
 |_::l,0,x,k=>k (x::l)
 |a::l,i+1,x,k=>mO l i x λr=>k (a::r)
theorem gI {α:Type}:∀{l:List α} {i:Nat} {x:α} {k:List α->Prop},mO l i x k->k (l.set i x)
 |[],_,_,_,h=>h
 |_::l,0,x,k,h=>h
 |a::l,i+1,x,k,h=>gI (l:=l) h
def cnt {α:Type}:List α->Nat->Nat
 |[],n=>n
 |_::l,n=>cnt l (n+1)
theorem bAm {α:Type}:∀(l:List α) (n:Nat),cnt l n=n+l.length
 |[],n=>rfl
 |_::l,n=>by
  show cnt l (n+1)=_
  rw[bAm l (n+1),eF]
  omega
theorem xY {α:Type} (l:List α):cnt l 0=l.length:=by rw[bAm,eA]
def cellsOf:DV->List CV
 |.a l=>l
 |.c c=>[c]
 |.t _=>[]
def aCj:CV->Bool
 |.u=>false
 |.t _ _ _=>false
 |.v x=>x.oneCell'
 |_=>true
def fK:CV->Bool
 |.u=>true
 |.v _=>true
 |.h _ _ _=>true
 |.hp _ _=>true
 |.b _ _=>true
 |.r _ _ _ _ _=>true
 |_=>false
def isT:DV->Bool
 |.t _=>true
 |_=>false
section
variable {ρ:Pl} {n:Nat} {w:World}
theorem aHz {c:CV} {x:Value} (h:Hc ρ n w c x) (ho:aCj c=true):x.oneCell'=true:=by
 cases c with
 |u=>cases ho
 |v y=>rw[h.inv_v];exact ho
 |h A n c=>cases (show Rc _ w (.h A n c) x from h);rfl
 |hp b o=>cases (show Rc _ w (.hp b o) x from h);rfl
 |b p hp=>rw[h.inv_b];rfl
 |p i o=>obtain⟨_,b,_,rfl⟩:=h;rfl
 |s i m=>obtain⟨_,rfl⟩:=h;rfl
 |r A m c e get=>rw[h.inv_r.1];rfl
 |q A m c e get j o=>obtain⟨_,_,b,o',_,rfl⟩:=h;rfl
 |t i o m=>cases ho
 |f k fi ca=>obtain⟨_,rfl⟩:=h;rfl
theorem Hl.one {l:List CV} {vl:List Value} (h:Hl ρ n w l vl) (ho:l.all aCj=true):∀x∈vl,x.oneCell'=true:=by
 induction l generalizing vl with
 |nil=>cases vl with
  |nil=>intro x hx;cases hx
  |cons x vl=>exact h.elim
 |cons c l ih=>cases vl with
  |nil=>exact h.elim
  |cons x vl=>
   simp only[List.all_cons,aP] at ho
   intro y hy
   rcases bZ.1 hy with rfl|hy
   ·exact aHz h.1 ho.1
   exact ih h.2 ho.2 y hy
theorem zS {x:Value} (h:x.oneCell'=true):x.cells=#[x]:=by
 cases x with
 |agg cs=>cases h
 |_=>rfl
theorem zU {d:DV} {x:Value} (h:Hd ρ n w d x) (ho:(cellsOf d).all aCj=true) (ht:isT d=false):∃us,x.cells=us.toArray/\Hl ρ n w (cellsOf d) us/\∀y∈us,y.oneCell'=true:=by
 cases h with
 |c h=>
  simp only[cellsOf,List.all_cons,List.all_nil,Bool.and_true] at ho
  exact⟨[x],by rw[zS (aHz h ho)],⟨h,trivial⟩,λy hy=>by rw[aH.1 hy];exact aHz h ho⟩
 |a h=>exact⟨_,rfl,h,h.one ho⟩
 |t h hh=>cases ht
end
/-! ### what they leave -/
def Hv (ex:Bool) (P:Program) (f:Nat->Value) (o:Oper) (ρ0:Pl) (w0:World) (nb:Nat) (w:World) (k:SS->DV->Prop):Prop:=
 ∃s' d ρ' v w',k s' d/\(execOp (ev f) o).run P w= .ok (.value v) w'/\Dn ρ0 w0 nb s' ρ' f w'/\Hd ρ' s'.bl.length w' d v/\(ex=true->Ext w w')
def Hs (P:Program) (f:Nat->Value) (o:Oper) (ρ0:Pl) (w0:World) (nb:Nat) (w:World) (k:SS->Prop):Prop:=
 ∃s' ρ' w',k s'/\(execOp (ev f) o).run P w= .ok .skip w'/\Dn ρ0 w0 nb s' ρ' f w'
def upd {α:Type} (f:Nat->α) (j:Nat) (x:α):Nat->α:=λi=>if i=j then x else f i
theorem bJ {α:Type} {f:Nat->α} {j:Nat} {x:α}:upd f j x j=x:=if_pos rfl
theorem bD {α:Type} {f:Nat->α} {j i:Nat} {x:α} (h:i≠j):upd f j x i=f i:=if_neg h
structure Wc (A:Option Nat) (w w':World):Prop where
 os:w'.os=w.os
 tape:w'.tape=w.tape
 output:w'.output=w.output
 size:w.heap.size<=w'.heap.size
 block:∀b,b<w.heap.size->A≠some b->w'.heap[b]? =w.heap[b]?
section fset
variable {ρ ρ0:Pl} {w w' w0:World} {nb:Nat} {bl:List (TypeId×Nat×List CV)}
theorem rF {α:Type} {l:List α} {f i:Nat} {x y:α} (h:(l.set f x)[i]? =some y) (hf:f<l.length):(i=f/\y=x)\/(i≠f/\l[i]? =some y):=by
 rcases lH h with ⟨h1,h2,_⟩|h
 ·exact .inl ⟨h1,h2⟩
 exact .inr h
theorem DnW.fset (h:DnW ρ0 w0 nb bl ρ w) {fl:List Fam} (hl:ρ.F=fl) {f j:Nat} {F F':Fam} (hf:fl[f]? =some F) (hj:j<F.N) (hn:F'.N=F.N) (hes:F'.es=F.es) (hT:F'.T=F.T) (hA:∀i,i≠j->F'.A i=F.A i) (hc:∀i,i≠j->F'.cap i=F.cap i) (hg:∀i,i≠j->F'.get i=F.get i) (hw:Wc (F.A j) w w') (hnew:∀b,F'.A j=some b->F.A j=some b\/w.heap.size<=b)
 (hq:(∀b,Zf ρ bl.length w b->Zf ⟨ρ.at',ρ.Z,fl.set f F'⟩ bl.length w' b/\w'.heap[b]? =w.heap[b]?)->Mq (Zf ⟨ρ.at',ρ.Z,fl.set f F'⟩ bl.length w') w' F' j):DnW ρ0 w0 nb bl ⟨ρ.at',ρ.Z,fl.set f F'⟩ w'/\Kp ρ bl.length w ⟨ρ.at',ρ.Z,fl.set f F'⟩ bl.length w':=by
 have hfl:f<fl.length:=eG hf
 have hin:∀b,InL (fl.set f F') b->InF ρ b\/w.heap.size<=b:=λb ⟨G,hG,i,hi,hb⟩=>by
  obtain⟨g,hg'⟩:=cT hG
  rcases rF hg' hfl with ⟨rfl,rfl⟩|⟨hne,h2⟩
  ·by_cases hij:i=j
   ·subst hij
    rcases hnew b hb with h1|h1
    ·exact .inl ⟨F,by rw[hl];exact aR hf,i,by omega,h1⟩
    exact .inr h1
   rw[hA i hij] at hb
   exact .inl ⟨F,by rw[hl];exact aR hf,i,by omega,hb⟩
  exact .inl ⟨G,by rw[hl];exact aR h2,i,hi,hb⟩
 have hjf:∀b,F.A j=some b->InF ρ b:=λb hb=>⟨F,by rw[hl];exact aR hf,j,hj,hb⟩
 have hz:∀b,Zf ρ bl.length w b->Zf ⟨ρ.at',ρ.Z,fl.set f F'⟩ bl.length w' b/\w'.heap[b]? =w.heap[b]?:=λb hb=>by
  refine⟨⟨bN hb.lt hw.size,hb.no,hb.z,λhi=>?_⟩,hw.block b hb.lt λhe=>hb.nf (hjf b he)⟩
  rcases hin b hi with h1|h1
  ·exact hb.nf h1
  have:=hb.lt;omega
 have kp:Kp ρ bl.length w ⟨ρ.at',ρ.Z,fl.set f F'⟩ bl.length w':=⟨aI _,λ_ _=>rfl,hz⟩
 refine⟨⟨λi T es l hi=>(h.ok i T es l hi).kp kp (eG hi) λb hb=>hw.block b ((h.ok i T es l hi).lt hb) λhe=>h.fam.own i b (eG hi) hb (hjf b he),h.inj,h.fr,h.nbl,?_,h.pl,h.zz,⟨λG hG=>?_,λi b hi hb hf2=>?_,λf1 f2 F1 F2 j1 j2 b h1 h2 h3 h4 h5 h6=>?_⟩,λb hb=>?_⟩,kp⟩
 ·refine⟨hw.os.trans h.rel.os,hw.tape.trans h.rel.tape,hw.output.trans h.rel.output,aJ h.rel.size hw.size,λk hk hn hf2=>(hw.block k (bN hk h.rel.size) λhe=>?_).trans (h.rel.block k hk hn hf2)⟩
  rcases h.ffr k (hjf k he) with h1|h1
  ·omega
  exact hf2 h1
 ·obtain⟨g,hg'⟩:=cT hG
  rcases rF hg' hfl with ⟨rfl,rfl⟩|⟨hne,h2⟩
  ·refine⟨by rw[hes];exact(h.fam.ok F (by rw[hl];exact aR hf)).1,λi hi=>?_⟩
   by_cases hij:i=j
   ·subst hij;exact hq hz
   have h3:=(h.fam.mem hl hf (j:=i) oM).mono hz λb hb=>hw.block b ((h.fam.mem hl hf (j:=i) oM).lt hb) λhe=>by
    have:=(h.fam.inj _ _ F F i j b (by rw[hl];exact hf) (by rw[hl];exact hf) oM hj hb he).2
    exact hij this
   unfold Mq at h3 ⊢
   rw[hA i hij,hc i hij,hg i hij,hes,hT]
   exact h3
  have hG2:G∈ρ.F:=by rw[hl];exact aR h2
  refine⟨(h.fam.ok G hG2).1,λi hi=>((h.fam.ok G hG2).2 i hi).mono hz λb hb=>hw.block b (((h.fam.ok G hG2).2 i hi).lt hb) λhe=>?_⟩
  exact hne (h.fam.inj g f G F i j b (by rw[hl];exact h2) (by rw[hl];exact hf) hi hj hb he).1
 ·rcases hin b hf2 with h1|h1
  ·exact h.fam.own i b hi hb h1
  have:=h.lt hi hb;omega
 ·have hold:∀(g:Nat) (G:Fam) (i:Nat),(fl.set f F')[g]? =some G->i<G.N->G.A i=some b->(∃G0,ρ.F[g]? =some G0/\i<G0.N/\G0.A i=some b)\/(g=f/\i=j/\w.heap.size<=b):=λg G i hg' hi hb=>by
   rcases rF hg' hfl with ⟨rfl,rfl⟩|⟨hne,h2'⟩
   ·by_cases hij:i=j
    ·subst hij
     rcases hnew b hb with h7|h7
     ·exact .inl ⟨F,by rw[hl];exact hf,by omega,h7⟩
     exact .inr ⟨rfl,rfl,h7⟩
    rw[hA i hij] at hb
    exact .inl ⟨F,by rw[hl];exact hf,by omega,hb⟩
   exact .inl ⟨G,by rw[hl];exact h2',hi,hb⟩
  have hlow:∀(g:Nat) (G0:Fam) (i:Nat),ρ.F[g]? =some G0->i<G0.N->G0.A i=some b->b<w.heap.size:=λg G0 i h7 h8 h9=>h.fam.lt ⟨G0,aR h7,i,h8,h9⟩
  rcases hold f1 F1 j1 h1 h3 h5 with ⟨G1,a1,a2,a3⟩|⟨a1,a2,a3⟩<;>rcases hold f2 F2 j2 h2 h4 h6 with ⟨G2,c1,c2,c3⟩|⟨c1,c2,c3⟩
  ·exact h.fam.inj f1 f2 G1 G2 j1 j2 b a1 c1 a2 c2 a3 c3
  ·have:=hlow f1 G1 j1 a1 a2 a3;omega
  ·have:=hlow f2 G2 j2 c1 c2 c3;omega
  exact⟨a1.trans c1.symm,a2.trans c2.symm⟩
 rcases hin b hb with h1|h1
 ·exact h.ffr b h1
 exact .inl (aJ h.rel.size h1)
end fset
def aPa (s:SS) (T es:Nat) (l:List CV) (d:Nat->DV) (k:SS->DV->Prop):Prop:=match s with
 |⟨sl,gl,bl,fl⟩=>qW bl (T,es,l) λbl'=>k ⟨sl,gl,bl',fl⟩ (d (cnt bl 0))
def aPb (T:TT) (s:SS) (t:Nat) (k:SS->DV->Prop):Prop:=match T t with
 |some ti=>aPa s t 0 (ti.zero.map rQ) (λi=> .c (.p i 0)) k
 |none=>False
def bTp (s:SS) (t:Nat) (x:Operand) (k:SS->DV->Prop):Prop:=match val [] s x with
 |some d=>bif (cellsOf d).all aCj&&!isT d then aPa s t 0 (cellsOf d) (λi=> .c (.p i 0)) k else False
 |none=>False
def aPc (T:TT) (s:SS) (t:Nat) (x y:Operand) (k:SS->Prop):Prop:=match T t,val [] s x,val [] s y with
 |some ti,some (.c (.p i o)),some d=>(match s.bl[i]? with
  |some b=>bif Nat.beq (cellsOf d).length ti.size&&((cellsOf d).all aCj&&!isT d) then
   (bif Nat.beq b.2.1 0 then bAk o b.2.2 (cellsOf d) λl'=>mO s.bl i (b.1,b.2.1,l') λbl'=>k ⟨s.sl,s.gl,bl',s.fl⟩
   else ∃l',(mD b.2.2 o (cellsOf d)=l'/\o+(cellsOf d).length<=b.2.2.length)/\mO s.bl i (b.1,b.2.1,l') λbl'=>k ⟨s.sl,s.gl,bl',s.fl⟩)
   else False
  |none=>False)
 |some ti,some (.c (.hp b o)),some d=>bif Nat.beq (cellsOf d).length ti.size&&((cellsOf d).all (λc=>aCj c&&fK c)&&!isT d) then
  ∃f j:Nat,(match s.fl[f]? with
   |some F=>bif !Nat.ble F.T 999999 then False else ∃l',(j<F.N/\F.A j=some b/\mD (F.get j) o (cellsOf d)=l'/\o+(cellsOf d).length<=(F.get j).length)/\mO s.fl f ⟨F.T,F.es,F.N,F.A,F.cap,upd F.get j l'⟩ λfl'=>k ⟨s.sl,s.gl,s.bl,fl'⟩
   |none=>False) else False
 |_,_,_=>False
def isZ:Operand->Bool
 |.const (.int _ 0)=>true
 |_=>false
def bAn (T:TT) (s:SS) (t:Nat) (x y:Operand) (k:SS->DV->Prop):Prop:=match T t with
 |some ti=>(match ti.el with
  |some e=>(match T e,val [] s x,val [] s y with
   |some te,some (.c (.v (.int _ z))),some (.c (.v (.int _ z')))=>bif isZ x&&!isZ y then ∃n:Nat,(z=0/\z'=n/\te.by'*n<=281474976710656/\n<=maxLen)/\aPa s e te.size [] (λi=> .c (.s i 0)) k else ∃n:Nat,(z=n/\z'=n/\te.by'*n<=281474976710656/\n<=maxLen)/\
    aPa s e te.size (match te.zero with
     |[z0]=>List.replicate n (rQ z0)
     |zs=>(List.replicate n (zs.map rQ)).flatten) (λi=> .c (.s i n)) k
   |_,_,_=>False)
  |none=>False)
 |none=>False
section ops
variable {P:Program} {T:TT} (hT:Good P T) {w0 w:World} {nb:Nat} {s:SS} {ρ ρ0:Pl} {f:Nat->Value} {dst:Option Tmp} {ty:TypeId} {pos:String} {aft:Array Edge} {gd:Option (Nat×Bool)} {x y z:Operand} {t t':TypeId} {k:SS->DV->Prop} {ks:SS->Prop}
theorem dV:sat f []:=λp hp=>absurd hp dZ
theorem zV {T0 es b:Nat} {l:List CV} {vl:List Value} {junk:List Value} {d:Nat->DV} {o:Oper} {v:Value} {w':World} {cap:Nat} (h:aPa s T0 es l d k) (hD:Dn ρ0 w0 nb s ρ f w) (hr:(execOp (ev f) o).run P w= .ok (.value v) w') (hm:Mk w T0 (vl++junk) b w') (hl:Hl ρ s.bl.length w l vl) (h1:∀x∈vl,x.oneCell'=true) (hc:0<es->cap*es=(vl++junk).length/\cap<=maxLen)
 (hd:∀ρ':Pl,ρ' s.bl.length=(some b,cap)->Hd ρ' (s.bl.length+1) w' (d s.bl.length) v):Hv true P f o ρ0 w0 nb w k:=by
 obtain⟨sl,gl,bl,fl⟩:=s
 have hk:=mI (show qW bl (T0,es,l) _ from h)
 rw[xY] at hk
 obtain⟨hb,hbk,he⟩:=hm
 have hp:∀b',((some b,cap):Option Nat×Nat).1=some b'->w.heap.size<=b':=λb' hb'=>by injection hb' with hb';omega
 have kp:Kp ρ bl.length w (wJ ρ bl.length (some b,cap)) (bl.length+1) w':=Kp.new hp he
 have hn:(bl++[(T0,es,l)]).length=bl.length+1:=by simp
 refine⟨⟨sl,gl,bl++[(T0,es,l)],fl⟩,d bl.length,wJ ρ bl.length (some b,cap),v,w',hk,hr,⟨hD.m.new hp he (Bq.of_some (b:=b) (by rw[jM]) ⟨vl,junk,hbk,hl.kp kp,?_,h1⟩),?_,hD.l⟩,?_⟩
 ·rw[jM];exact hc
 ·exact hD.f.kp rfl rfl (by rw[hn];exact kp)
 refine⟨?_,λ_=>he⟩
 show Hd _ (bl++[(T0,es,l)]).length w' _ v
 rw[hn]
 exact hd _ jM
include hT in
theorem aXk (h:aPb T s t k) (hD:Dn ρ0 w0 nb s ρ f w):Hv true P f ⟨dst,.alloc t,ty,pos,aft,gd⟩ ρ0 w0 nb w k:=by
 unfold aPb at h
 split at h
 ·next ti ht=>
  obtain⟨zz,hty,hz⟩:=(hT t ti ht).ty
  obtain⟨v,w',hr,b,rfl,hm⟩:=bJy (P:=P) (f:=f) (w:=w) (dst:=dst) (ty:=ty) (pos:=pos) (aft:=aft) (g:=gd) hty hz
  refine zV (junk:=[]) (cap:=0) h hD hr (by rw[dG];exact hm) (Hl.vs _) ?_ (λh=>absurd h (jF _)) λρ' hρ=> .c ⟨bF _,b,by rw[hρ],rfl⟩
  exact λx hx=>aV.1 (hT t ti ht).z1 x hx
 exact h.elim
theorem bKy (h:bTp s t x k) (hD:Dn ρ0 w0 nb s ρ f w):Hv true P f ⟨dst,.box t x,ty,pos,aft,gd⟩ ρ0 w0 nb w k:=by
 unfold bTp at h
 split at h
 ·next d hx=>
  cases hb:((cellsOf d).all aCj&&!isT d) with
  |false=>rw[hb] at h;exact h.elim
  |true=>
   rw[hb] at h
   simp only[aP,dO] at hb
   obtain⟨us,h1,h2,h3⟩:=zU (bT hD.f dV hx) hb.1 hb.2
   obtain⟨v,w',hr,b,rfl,hm⟩:=cEx (P:=P) (w:=w) (dst:=dst) (ty:=ty) (pos:=pos) (aft:=aft) (g:=gd) (t:=t) rfl h1
   simp only[cond_true] at h
   exact zV (junk:=[]) (cap:=0) h hD hr (by rw[dG];exact hm) h2 h3 (λh=>absurd h (jF _)) λρ' hρ=> .c ⟨bF _,b,by rw[hρ],rfl⟩
 exact h.elim
theorem aMm {T0:TypeId} {b o:Nat} {l junk:List Value} {vv:Value} {cs:List Value} {size bytes:Nat} {zz:Value} (ht:TyI P t size bytes zz) (hx:ev f x= .pointer (some ⟨b,o,none⟩)) (hy:ev f y=vv) (hc:vv.cells=cs.toArray) (hs:cs.length=size)
 (h1:∀u∈cs,u.oneCell'=true) (hb:w.heap[b]? =some (.cells (l++junk).toArray T0 (0,0))) (hfit:o+cs.length<=l.length):
 ∃w',(execOp (ev f) ⟨dst,.store t x y,ty,pos,aft,gd⟩).run P w= .ok .skip w'/\w'.heap[b]? =some (.cells (spl l o cs++junk).toArray T0 (0,0))/\Exc b w w':=by
 obtain⟨w',hr,hn,he,_⟩:=bJz (P:=P) (dst:=dst) (ty:=ty) (pos:=pos) (aft:=aft) (g:=gd) ht hx hy hc hs h1 (l:=l++junk) hb (by simp only[aE];omega)
 refine⟨w',hr,?_,he⟩
 have e:spl (l++junk) o cs=spl l o cs++junk:=by
  unfold spl
  rw[fA oM,gJ oM]
  simp
 unfold Bk at hn
 rw[e] at hn
 exact hn
include hT in
theorem aXl (h:aPc T s t x y ks) (hD:Dn ρ0 w0 nb s ρ f w):Hs P f ⟨dst,.store t x y,ty,pos,aft,gd⟩ ρ0 w0 nb w ks:=by
 unfold aPc at h
 split at h
 ·next ti i o d ht hx hy=>
  split at h
  ·next bb hbb=>
   obtain⟨T0,es,l⟩:=bb
   cases hb:(Nat.beq (cellsOf d).length ti.size&&((cellsOf d).all aCj&&!isT d)) with
   |false=>rw[hb] at h;exact h.elim
   |true=>
    rw[hb] at h
    simp only[aP,dO] at hb
    obtain⟨b1,b2,b3⟩:=hb
    have b1':=aK b1
    have key:o+(cellsOf d).length<=l.length/\ks ⟨s.sl,s.gl,s.bl.set i (T0,es,mD l o (cellsOf d)),s.fl⟩:=by
     simp only[cond_true] at h
     cases hz:Nat.beq es 0 with
     |true=>
      rw[hz] at h
      obtain⟨h1,h2⟩:=aHx (show bAk o l (cellsOf d) _ from h)
      exact⟨h1,gI h2⟩
     |false=>
      rw[hz] at h
      obtain⟨l',⟨h1,h2⟩,h3⟩:=h
      subst h1
      exact⟨h2,gI h3⟩
    obtain⟨hi,b,hρ,he⟩:=(bT hD.f dV hx).inv_c
    obtain⟨us,u1,u2,u3⟩:=zU (bT hD.f dV hy) b2 b3
    have hq:=hD.m.ok i T0 es l hbb
    obtain⟨vl,junk,hh,hl,hcap,hone⟩:=hq.at hρ
    obtain⟨zz,hty,_⟩:=(hT t ti ht).ty
    have hul:us.length=(cellsOf d).length:=u2.len.symm
    have hvl:vl.length=l.length:=hl.len.symm
    obtain⟨w',hr,hn,hex⟩:=aMm (P:=P) (dst:=dst) (ty:=ty) (pos:=pos) (aft:=aft) (gd:=gd) hty he rfl u1 (by rw[hul];exact b1') u3 hh (by rw[hul,hvl];exact key.1)
    have kp:Kp ρ s.bl.length w ρ s.bl.length w':=Kp.exc hi hρ hex
    refine⟨_,ρ,w',key.2,hr,⟨hD.m.exc hbb hρ hex (Bq.of_some hρ ⟨spl vl o us,junk,hn,(aHy o hl u2).kp kp,λh0=>?_,λx hx=>?_⟩),hD.f.kp rfl rfl (by simp only[bW];exact kp),hD.l⟩⟩
    ·obtain⟨c1,c2⟩:=hcap h0
     refine⟨c1.trans ?_,c2⟩
     have:=key.1
     simp only[aE,spl,bE,cK]
     omega
    simp only[spl,aQ] at hx
    rcases hx with (hx|hx)|hx
    ·exact hone x (cV hx)
    ·exact u3 x hx
    exact hone x (fE hx)
  exact h.elim
 ·next ti b o d ht hx hy=>
  cases hb:(Nat.beq (cellsOf d).length ti.size&&((cellsOf d).all (λc=>aCj c&&fK c)&&!isT d)) with
  |false=>rw[hb] at h;exact h.elim
  |true=>
   rw[hb] at h
   simp only[aP,dO] at hb
   obtain⟨b1,b2,b3⟩:=hb
   have b1':=aK b1
   have b2o:(cellsOf d).all aCj=true:=aV.2 λc hc=>by
    have:=aV.1 b2 c hc
    simp only[aP] at this
    exact this.1
   have b2c:∀c∈cellsOf d,fK c=true:=λc hc=>by
    have:=aV.1 b2 c hc
    simp only[aP] at this
    exact this.2
   obtain⟨ff,j,h⟩:=(show ∃f j:Nat,_ from h)
   split at h
   ·next F hF=>
    cases hft:Nat.ble F.T 999999 with
    |false=>rw[hft] at h;exact h.elim
    |true=>
    rw[hft] at h
    obtain⟨l',⟨hj,hA,hl',hfit⟩,hk⟩:=h
    subst hl'
    have hk':=gI hk
    have he:=(bT hD.f dV hx).inv_c.inv_hp
    obtain⟨us,u1,u2,u3⟩:=zU (bT hD.f dV hy) b2o b3
    have hmq:=hD.m.fam.mem hD.l hF hj
    obtain⟨vl,junk,hh,hlen,hcl,hcap,hmx,hone⟩:=hmq.at hA hft
    obtain⟨zz,hty,_⟩:=(hT t ti ht).ty
    have hul:us.length=(cellsOf d).length:=u2.len.symm
    obtain⟨w',hr,hn,hex⟩:=aMm (P:=P) (dst:=dst) (ty:=ty) (pos:=pos) (aft:=aft) (gd:=gd) hty he rfl u1 (by rw[hul];exact b1') u3 hh (by rw[hul,hlen];exact hfit)
    obtain⟨k1,k2⟩:=hD.m.fset hD.l hF hj (F':=⟨F.T,F.es,F.N,F.A,F.cap,upd F.get j (mD (F.get j) o (cellsOf d))⟩) rfl rfl rfl (λ_ _=>rfl) (λ_ _=>rfl) (λi hi=>bD hi) (w':=w') ⟨hex.os,hex.tape,hex.output,hex.size,λb' hb' hne=>hex.block b' hb' λe=>hne (by rw[e];exact hA)⟩ (λb' hb'=> .inl hb') (λhz=>by
     unfold Mq
     simp only[hA,bJ,hft,cond_true]
     have hl1:Hl ρ s.bl.length w (F.get j) vl:=Hl.of_get hlen λi c x hc hx=>Hc.of_rc (hcl i c x hc hx)
     have hl2:=aHy o hl1 u2
     refine⟨spl vl o us,junk,hn,hl2.len.symm,λi c x hc hx=>?_,?_,hmx,λx hx=>?_⟩
     ·refine Rc.mono ?_ hz
      obtain⟨x',h1,h2⟩:=hl2.get hc
      rw[hx] at h1
      injection h1 with h1
      subst h1
      have hcc:fK c=true\/∃i':Nat,(F.get j)[i']? =some c:=by
       have hm:=aR hc
       simp only[mD,aQ] at hm
       rcases hm with hm|hm|hm
       ·exact .inr (cT (cV hm))
       ·exact .inl (b2c c hm)
       exact .inr (cT (fE hm))
      have hc2:fK c=true:=by
       rcases hcc with h|⟨i',hi'⟩
       ·exact h
       have hlt:=eG hi'
       obtain⟨x2,hx2⟩:∃x2,vl[i']? =some x2:=⟨_,aG (by rw[hlen];exact hlt)⟩
       have:=hcl i' c x2 hi' hx2
       cases this<;>rfl
      cases c with
      |u=>exact h2
      |v y=>exact h2
      |h A n c=>exact h2
      |hp b o=>exact h2
      |b p q=>exact h2
      |r A m c e get=>exact h2
      |p i o=>cases hc2
      |s i m=>cases hc2
      |q A m c e get j o=>cases hc2
      |t i o m=>cases hc2
      |f k fi ca=>cases hc2
     ·refine hcap.trans ?_
      simp only[aE,spl,bE,cK]
      omega
     simp only[spl,aQ] at hx
     rcases hx with (hx|hx)|hx
     ·exact hone x (cV hx)
     ·exact u3 x hx
     exact hone x (fE hx))
    exact⟨_,_,w',hk',hr,⟨k1,hD.f.kp rfl rfl k2,rfl⟩⟩
   exact h.elim
 exact h.elim
theorem Hl.rep {ρ:Pl} {n:Nat} {w:World} {l:List CV} {vl:List Value} (h:Hl ρ n w l vl) (m:Nat):Hl ρ n w (List.replicate m l).flatten (List.replicate m vl).flatten:=by
 induction m with
 |zero=>trivial
 |succ m ih=>rw[iZ,iZ,mU,mU];exact h.append ih
theorem aDx {α:Type} (m:Nat) (l:List α):(List.replicate m l).flatten.length=m*l.length:=by
 induction m with
 |zero=>simp
 |succ m ih=>rw[iZ,mU,aE,ih,dJ,iT,gP]
theorem bAo {α:Type} (m:Nat) (a:α):(List.replicate m [a]).flatten=List.replicate m a:=by
 induction m with
 |zero=>rfl
 |succ m ih=>rw[iZ,mU,ih];rfl
include hT in
theorem bAp (h:bAn T s t x y k) (hD:Dn ρ0 w0 nb s ρ f w):Hv true P f ⟨dst,.makeSlice t x y,ty,pos,aft,gd⟩ ρ0 w0 nb w k:=by
 unfold bAn at h
 split at h
 ·next ti ht=>
  split at h
  ·next e he=>
   split at h
   ·next te kx zx ky zy hte hx hy=>
    have G:=hT e te hte
    cases hz0:(isZ x&&!isZ y) with
    |true=>
     rw[hz0] at h
     obtain⟨n,⟨h1,h2,h3,h4⟩,h⟩:=h
     subst h1 h2
     obtain⟨zz,hty,hz⟩:=G.ty
     have hzl:zz.cells.size=te.size:=by rw[hz];simpa using G.zs
     obtain⟨v,w',hr,b,rfl,hm⟩:=aYx (P:=P) (f:=f) (w:=w) (dst:=dst) (ty:=ty) (pos:=pos) (aft:=aft) (g:=gd) (n:=0) (c:=n) ((hT t ti ht).el e he) hty hzl (bT hD.f dV hx).inv_c.inv_v (bT hD.f dV hy).inv_c.inv_v (aC _) h3 (by simpa[maxLen] using h4)
     rw[hz] at hm
     exact zV (vl:=[]) (junk:=(List.replicate n te.zero).flatten) (cap:=n) h hD hr hm trivial (λx hx=>absurd hx dZ) (λ_=>⟨by rw[kB,aDx,G.zs],h4⟩) λρ' hρ=> .c ⟨bF _,by rw[hρ];rfl⟩
    |false=>
    rw[hz0] at h
    obtain⟨n,⟨h1,h2,h3,h4⟩,h⟩:=h
    subst h1 h2
    obtain⟨zz,hty,hz⟩:=G.ty
    have hzl:zz.cells.size=te.size:=by rw[hz];simpa using G.zs
    obtain⟨v,w',hr,b,rfl,hm⟩:=aYx (P:=P) (f:=f) (w:=w) (dst:=dst) (ty:=ty) (pos:=pos) (aft:=aft) (g:=gd) (n:=n) (c:=n) ((hT t ti ht).el e he) hty hzl (bT hD.f dV hx).inv_c.inv_v (bT hD.f dV hy).inv_c.inv_v (aI _) h3 (by simp only[maxLen] at h4;omega)
    rw[hz] at hm
    have hl:(List.replicate n (te.zero.map rQ)).flatten=(match te.zero with|[z0]=>List.replicate n (rQ z0)|zs=>(List.replicate n (zs.map rQ)).flatten):=by
     split
     ·next z0 hz0=>rw[hz0];exact bAo n _
     rfl
    rw[<-hl] at h
    refine zV (junk:=[]) (cap:=n) (vl:=(List.replicate n te.zero).flatten) h hD hr (by rw[dG];exact hm) ((Hl.vs te.zero).rep n) (λx hx=>?_) (λ_=>⟨?_,h4⟩) λρ' hρ=> .c ⟨bF _,by rw[hρ];rfl⟩
    ·obtain⟨l,hl1,hl2⟩:=uR.1 hx
     rw[(gB.1 hl1).2] at hl2
     exact aV.1 G.z1 x hl2
    rw[dG,aDx,G.zs]
   exact h.elim
  exact h.elim
 exact h.elim
end ops
end Go.Vy
