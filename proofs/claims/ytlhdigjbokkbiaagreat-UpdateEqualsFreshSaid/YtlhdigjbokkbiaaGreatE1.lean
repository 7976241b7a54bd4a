/- For every input the law UpdateEqualsFresh returns true, and what came in reads as it did. Part 1 of 7: Vga Vgb Vgc Vgd Vge Vgf Vgg Vgh Msort Mnat Mrat Ty Vgi Wa Vgj Vgk Ra Rb Rd Re Rc Msel Vgl Rf Na Mknu Nb Nc. -/
import Derived.WalkKit
import Derived.ProofKit
import Derived.OrdersHeld
import Derived.OrdersIn
import Derived.OwnWalkIn
import Derived.WalkSpells
import Derived.Maps.AppendAt
import Derived.Test.YtlhdigjbokkbiaaGreatRows
import Derived.DataReads
set_option maxHeartbeats 4000000
set_option linter.unusedVariables false
set_option linter.unusedSimpArgs false
abbrev bN := @Nat.le_of_ble_eq_true
abbrev aO := @Nat.eq_of_beq_eq_true
abbrev rH := @Array.getElem?_setIfInBounds_ne
abbrev iQ := @Ne.symm
abbrev aQ := @Bool.and_eq_true
abbrev aZ := @List.all_eq_true
abbrev eY := @Nat.lt_or_ge
abbrev iD := @Bool.false_eq_true
abbrev eA := @List.mem_range
abbrev lM := @Bool.not_true
abbrev kY := @Bool.or_eq_true
abbrev rZ := @Bool.false_or
abbrev dL := @Bool.not_eq_true'
abbrev qZ := @Array.getElem?_eq_none
abbrev iJ := @Bool.eq_false_or_eq_true
abbrev oY := @Array.getElem?_eq_some_iff
abbrev bJ := @List.mem_cons
abbrev aBc := @Int.not_lt
abbrev bA := @Nat.le_trans
abbrev bH := @Nat.lt_of_lt_of_le
abbrev kO := @Nat.add_assoc
abbrev eQ := @List.getElem?_drop
abbrev iE := @List.getElem?_take
abbrev aI := @Nat.le_refl
abbrev jG := @Nat.add_zero
abbrev uK := @Array.getElem_append_left
abbrev wS := @Nat.le_add_right
abbrev rA := @Array.size_append
abbrev oZ := @Array.size_replicate
abbrev vC := @List.mapM_toArray
abbrev nK := @List.ext_getElem
abbrev sK := @List.replicate_succ'
abbrev lC := @List.flatten_append
abbrev dW := @Nat.add_mul
abbrev wT := @List.getElem_map
abbrev oJ := @List.flatten_cons
abbrev gB := @List.append_nil
abbrev bV := @List.length_map
abbrev oK := @List.length_range
abbrev bO := @Nat.mul_comm
abbrev cW := @Nat.mod_eq_of_lt
abbrev dH := @Int.natCast_mul
abbrev bP := @Int.toNat_natCast
abbrev dF := @Nat.mul_one
abbrev bX := @List.eq_nil_of_length_eq_zero
abbrev fI := @Nat.min_eq_left
abbrev lD := @List.map_eq_nil_iff
abbrev cB := @List.drop_of_length_le
abbrev sA := @List.map_drop
abbrev eF := @List.append_assoc
abbrev cO := @List.getElem?_append_right
abbrev nM := @Nat.add_sub_cancel_left
abbrev bW := @List.getElem?_append_left
abbrev rJ := @List.getElem?_eq_none
abbrev jR := @List.set_eq_take_append_cons_drop
abbrev wU := @List.drop_append
abbrev bU := @List.take_of_length_le
abbrev fM := @List.take_append_of_le_length
abbrev jB := @List.drop_append_of_le_length
abbrev qB := @List.mem_filter
abbrev nN := @List.filter_cons
abbrev uD := @List.filter_filter
abbrev vD := @List.filter_congr
abbrev fR := @List.drop_eq_getElem_cons
abbrev iZ := @List.pairwise_iff_getElem
abbrev kV := @List.take_sublist
abbrev vE := @List.drop_sublist
abbrev dM := @Nat.mod_lt
abbrev eZ := @Nat.pow_succ
abbrev dN := @Nat.mul_add
abbrev bQ := @Nat.mul_assoc
abbrev bB := @List.mem_append
abbrev aT := @List.mem_singleton
abbrev eG := @List.mem_of_mem_take
abbrev gZ := @List.mem_of_mem_drop
abbrev lE := @List.replicate_succ
abbrev eI := @List.length_cons
abbrev gL := @Nat.add_sub_cancel
abbrev bF := @List.getD_eq_getElem?_getD
abbrev cC := @List.length_take
abbrev gM := @Nat.lt_of_le_of_lt
abbrev fN := @Nat.pow_le_pow_right
abbrev kB := @Nat.pow_add
abbrev mI := @List.set_append_right
abbrev jW := @Nat.sub_self
abbrev aP := @List.length_append
abbrev dB := @Nat.eq_zero_or_pos
abbrev dZ := @Nat.mul_le_mul_left
abbrev fG := @List.take_append_drop
abbrev gQ := @Nat.le_of_lt
abbrev bK := @Nat.mul_le_mul_right
abbrev cU := @List.length_singleton
abbrev dP := @List.length_drop
abbrev qC := @Nat.two_pow_pos
abbrev nV := @Nat.mul_zero
abbrev jX := @Nat.div_div_eq_div_mul
abbrev mU := @Nat.add_mul_div_left
abbrev jC := @Nat.pow_pos
abbrev jM := @Nat.div_eq_of_lt
abbrev fK := @Nat.zero_add
abbrev yZ := @Nat.pow_one
abbrev iI := @Nat.div_add_mod
abbrev iO := @Nat.two_pow_add_eq_or_of_lt
abbrev sL := @Nat.pow_lt_pow_right
abbrev vF := @Int.neg_mul
abbrev vG := @Int.mul_neg
abbrev pA := @Int.natAbs_mul
abbrev zB := @Rat.num_divInt
abbrev uL := @Int.natAbs_ediv_le_natAbs
abbrev gW := @Int.lt_trichotomy
abbrev fO := @Int.sign_eq_neg_one_of_neg
abbrev gJ := @Int.sign_eq_one_of_pos
abbrev lN := @Nat.one_mul
abbrev zC := @Rat.den_divInt
abbrev iT := @Nat.div_le_self
abbrev aF := @Nat.zero_le
abbrev aBd := @Nat.mod_le
abbrev vH := @Nat.gcd_zero_left
abbrev vZ := @Nat.le_of_dvd
abbrev kG := @Nat.gcd_dvd_left
abbrev sS := @Int.gcd_pos_of_ne_zero_right
abbrev kP := @Int.mul_ediv_cancel_left
abbrev eD := @Int.natAbs_natCast
abbrev uM := @Int.mul_neg_of_pos_of_neg
abbrev zD := @Int.natAbs_neg
abbrev vI := @Int.mul_pos
abbrev zE := @Int.one_mul
abbrev rK := @Rat.divInt_add_divInt
abbrev mC := @Rat.num_divInt_den
abbrev rL := @Rat.divInt_mul_divInt
abbrev jN := @Rat.div_def
abbrev nW := @List.map_map
abbrev fV := @List.map_congr_left
abbrev eT := @List.map_cons
abbrev eN := @Nat.succ_mul
abbrev jY := @Nat.add_comm
abbrev iS := @Int.fdiv_eq_ediv_of_nonneg
abbrev gK := @BitVec.ofInt_natCast
abbrev sT := @BitVec.toNat_or
abbrev iF := @BitVec.toNat_ofNat
abbrev mD := @Int.tdiv_eq_ediv_of_nonneg
abbrev mE := @Int.tmod_eq_emod_of_nonneg
abbrev rP := @Int.natCast_ediv
abbrev aX := @List.mem_of_getElem?
abbrev cP := @List.mem_map
abbrev zF := @List.take_zero
abbrev kC := @List.nil_append
abbrev rB := @List.nodup_nil
abbrev aV := @Nat.not_lt_zero
abbrev rQ := @List.mem_flatten
abbrev fA := @List.not_mem_nil
abbrev rC := @Nat.le_one_iff_eq_zero_or_eq_one
abbrev zG := @Int.mul_one
abbrev lH := @Nat.zero_mul
abbrev tL := @Nat.pow_zero
abbrev zH := @BitVec.or_comm
abbrev mF := @List.drop_zero
abbrev oI := @Nat.le_div_iff_mul_le
abbrev mG := @Nat.lt_of_mul_lt_mul_right
abbrev aY := @Nat.lt_trans
abbrev lI := @Nat.mul_lt_mul_of_pos_right
abbrev uE := @Nat.mul_right_comm
abbrev jD := @Nat.div_lt_iff_lt_mul
abbrev uF := @Nat.mul_le_mul
abbrev oL := @Nat.add_mod_right
abbrev bS := @Nat.not_lt_of_le
abbrev tM := @Int.le_of_lt
abbrev vJ := @Nat.le_succ_of_le
abbrev zI := @List.drop_drop
abbrev gV := @Nat.le_mul_of_pos_right
abbrev xS := @Nat.le_add_left
abbrev dI := @List.map_append
abbrev mW := @Nat.mul_pos
abbrev cG := @Nat.lt_of_lt_of_eq
abbrev lJ := @Nat.ne_of_gt
abbrev bR := @Nat.ne_of_lt
abbrev nO := @Int.mul_le_mul_of_nonneg_right
abbrev sM := @Int.mul_le_mul_of_nonneg_left
abbrev zJ := @Int.mul_nonneg
abbrev sU := @Int.natCast_add
abbrev vK := @Int.neg_neg
abbrev pP := @Nat.succ_eq_add_one
abbrev nZ := @Nat.sub_add_cancel
abbrev wA := @Nat.dvd_trans
abbrev rR := @Nat.dvd_mul_left
abbrev vL := @Nat.gcd_dvd_right
abbrev nP := @Int.natCast_dvd_natCast
abbrev pV := @Int.dvd_trans
abbrev nQ := @Int.dvd_mul_left
abbrev sV := @Int.natCast_sub
abbrev kQ := @Nat.gcd_comm
abbrev zK := @Nat.gcd_rec
abbrev qG := @Nat.gcd_zero_right
abbrev uN := @Int.sign_eq_zero_iff_zero
abbrev nB := @Nat.gcd_pos_of_pos_right
abbrev dU := @Rat.num_eq_zero
abbrev rS := @Nat.succ_le_succ
abbrev zL := @Nat.div_one
abbrev xT := @Rat.num_intCast
abbrev fY := @Rat.zero_add
abbrev cE := @Rat.add_zero
abbrev pW := @Rat.add_assoc
abbrev uG := @List.pairwise_cons
abbrev kS := @Int.lt_trans
abbrev fZ := @Rat.zero_mul
abbrev hH := @List.pairwise_append
abbrev dS := @List.mem_append_left
abbrev eJ := @List.mem_append_right
abbrev pN := @List.getElem?_eq_some_iff
abbrev aK := @List.getElem?_eq_getElem
abbrev oB := @List.getElem?_set_self
abbrev mX := @List.getElem?_set_ne
abbrev bT := @List.length_set
abbrev sW := @Bool.eq_iff_iff
abbrev gD := @Nat.le_of_mul_le_mul_right
abbrev dD := @List.getElem?_of_mem
abbrev wB := @Nat.lt_irrefl
abbrev dK := @Nat.lt_succ_self
abbrev jJ := @List.mem_replicate
abbrev eH := @List.take_add_one
abbrev rD := @List.size_toArray
abbrev jZ := @Decidable.not_not
abbrev hJ := @Array.toArray_toList
abbrev iX := @Nat.beq_refl
abbrev rE := @List.any_eq_false
abbrev kD := @List.range_succ
abbrev fQ := @List.getElem?_map
abbrev mN := @List.nodup_cons
abbrev rF := @Array.toList_push
abbrev mY := @List.nodup_append
abbrev dO := @Array.getElem?_toList
abbrev uO := @Array.getElem?_eq_getElem
abbrev nE := @List.filter_eq_self
abbrev nF := @Array.toList_filter
abbrev qD := @Iff.rfl
abbrev xM := @Nat.succ.inj
abbrev uP := @Option.isNone_iff_eq_none
abbrev gR := @Nat.zero_lt_one
abbrev eK := @List.length_replicate
abbrev fS := @Classical.byContradiction
abbrev oC := @Rat.sub_eq_add_neg
abbrev iH := @Rat.mul_zero
abbrev nR := @List.getElem_mem
abbrev gG := @List.pairwise_singleton
abbrev vM := @Classical.not_not
abbrev nS := @List.drop_length
abbrev oN := @Nat.lt_succ_of_lt
abbrev dE := @List.take_length
abbrev lO := @Int.ofNat.inj
abbrev rI := @List.eraseIdx_eq_take_drop_succ
abbrev eB := @List.nodup_iff_pairwise_ne
abbrev kA := @List.pairwise_map
abbrev zM := @List.Perm.refl
abbrev qN := @Rat.one_mul
abbrev rT := @List.nodup_range
abbrev uH := @List.length_eraseIdx_of_lt
abbrev pX := @Rat.mul_assoc
abbrev qH := @Rat.inv_mul_cancel
abbrev nT := @Rat.mul_one
abbrev sZ := @Rat.mul_eq_zero
abbrev mH := @Rat.mul_inv_cancel
abbrev tN := @Rat.mul_comm
namespace Go.Vg
theorem _root_.Go.oM {p:Prop} (h:p:=by omega):p:=h
theorem _root_.Go.dC {p:Prop} (h:p:=by decide):p:=h
theorem _root_.Go.kR {p:Prop} (h:p:=by kernel_rfl):p:=h
theorem _root_.Go.oS {p:Prop} (h:p:=by first|omega|simp):p:=h
theorem _root_.Go.bL {a b:Nat} (h:Nat.ble a b=true:=by rfl):a<=b:=bN h
open Go.RowKit
def Fm (dl:List Deferred) (n:Nat) (f:Nat->Value) (a:Act):Prop:=a.defers=dl/\a.tmps.size=n/\∀i,a.tmps.getD i undef=f i
def st (f:Nat->Value) (d:Nat) (v:Value):Nat->Value:=λi=>match Nat.beq i d with
 |true=>v
 |false=>f i
theorem aWn {i d:Nat} (h:i≠d):Nat.beq i d=false:=by
 cases e:Nat.beq i d with
 |false=>rfl
 |true=>exact absurd (aO e) h
def ev (f:Nat->Value):Operand->Value
 |.tmp t=>f t
 |.const v=>v
 |.global g=> .pointer (some ⟨g,0,none⟩)
 |.func k=> .func (.func k) #[] #[]
theorem Fm.eval {n:Nat} {f:Nat->Value} {dl:List Deferred} {a:Act} (h:Fm dl n f a):a.eval=ev f:=by
 funext x
 cases x with
 |tmp t=>exact h.2.2 t
 |const v=>rfl
 |global g=>rfl
 |func k=>rfl
theorem aEs (f:Nat->Value) (d:Nat) (v:Value):st f d v d=v:=by simp[st]
theorem qO (f:Nat->Value) (d i:Nat) (v:Value) (h:i≠d):st f d v i=f i:=by
 have:Nat.beq i d=false:=aWn h
 simp[st,this]
theorem Fm.put {n:Nat} {f:Nat->Value} {dl:List Deferred} {a:Act} (h:Fm dl n f a) {d:Nat} (hd:d<n) (v:Value):Fm dl n (st f d v) (a.put (some d) v):=by
 refine⟨h.1,by simp[Act.put,h.2.1],λi=>?_⟩
 by_cases hi:i=d
 ·subst hi
  rw[aEs]
  simp[Act.put,h.2.1,hd]
 rw[qO _ _ _ _ hi,<-h.2.2 i]
 simp[Act.put,rH (iQ hi)]
structure Po where
 nrm:(Nat->Value)->World->Prop
 ext:Nat->(Nat->Value)->World->Prop
 ret:(Nat->Value)->World->Prop
def up (dl:List Deferred) (n:Nat) (Q:Po):Exit->Act->World->Prop
 |.normal,a,w=>∃f,Fm dl n f a/\Q.nrm f w
 |.exit i,a,w=>∃f,Fm dl n f a/\Q.ext i f w
 |.ret,a,w=>∃f,Fm dl n f a/\Q.ret f w
 |_,_,_=>False
abbrev fen (ro:Option Nat):Fence:={fn:=λ_=>True,depth:=none,alive:=false,round:=ro}
def WP (P:Program) (n:Nat) (c:Code) (Q:Po) (f:Nat->Value) (w:World):Prop:=∀ro dl a,Fm dl n f a->c.wpIn (fen ro) 0 P (up dl n Q) a w
theorem aAn {ro:Option Nat} {o:Option FuncId}:∀f,o=some f->(fen ro).fn f:=λ_ _=>trivial
section rules
variable {P:Program} {n:Nat} {Q:Po} {f:Nat->Value} {w:World}
theorem fL (h:Q.nrm f w):WP P n .skip Q f w:=λ_ dl a ha=>wpIn_skip ⟨f,ha,h⟩
theorem nG {i:Nat} (h:Q.ext i f w):WP P n (.exit i) Q f w:=λ_ dl a ha=>wpIn_exit ⟨f,ha,h⟩
theorem gH (h:Q.ret f w):WP P n .ret Q f w:=λ_ dl a ha=>wpIn_ret ⟨f,ha,h⟩
theorem aDv {c:Code} {Q':Po} (h:WP P n c Q f w) (h1:∀f w,Q.nrm f w->Q'.nrm f w) (h2:∀i f w,Q.ext i f w->Q'.ext i f w) (h3:∀f w,Q.ret f w->Q'.ret f w):WP P n c Q' f w:=
 λro dl a ha=>wpIn_mono (h ro dl a ha) λe a w hq=>by
  cases e with
  |normal=>obtain⟨f,hf,hh⟩:=hq;exact⟨f,hf,h1 f w hh⟩
  |exit i=>obtain⟨f,hf,hh⟩:=hq;exact⟨f,hf,h2 i f w hh⟩
  |ret=>obtain⟨f,hf,hh⟩:=hq;exact⟨f,hf,h3 f w hh⟩
  |goto l=>exact hq
  |panic c=>exact hq
  |outgrown=>exact hq
theorem dV {x y:Code} (h:WP P n x ⟨λf w=>WP P n y Q f w,Q.ext,Q.ret⟩ f w):WP P n (.seq x y) Q f w:=λro dl a ha=>
 wpIn_seq (wpIn_mono (h ro dl a ha) λe a w hq=>by
  cases e with
  |normal=>obtain⟨f,hf,hh⟩:=hq;exact hh ro dl a hf
  |exit i=>exact hq
  |ret=>exact hq
  |goto l=>exact hq
  |panic c=>exact hq
  |outgrown=>exact hq)
theorem vN {x y:Code} (M:(Nat->Value)->World->Prop) (h:WP P n x ⟨M,Q.ext,Q.ret⟩ f w) (h2:∀f w,M f w->WP P n y Q f w):WP P n (.seq x y) Q f w:=
 dV (aDv h h2 (λ_ _ _ h=>h) (λ_ _ h=>h))
theorem uQ {c:Operand} {x y:Code} {b:Bool} (hc:ev f c= .bool b) (ht:b=true->WP P n x Q f w) (he:b=false->WP P n y Q f w):WP P n (.cond c x y) Q f w:=λro dl a ha=>
 wpIn_cond_split (t:=b) (by rw[ha.eval];exact hc) (λh=>ht h ro dl a ha) (λh=>he h ro dl a ha)
theorem wV {c:Operand} {x y:Code} (hc:ev f c= .bool true) (ht:WP P n x Q f w):WP P n (.cond c x y) Q f w:=uQ hc (λ_=>ht) (λh=>by cases h)
theorem tE {c:Operand} {x y:Code} (hc:ev f c= .bool false) (he:WP P n y Q f w):WP P n (.cond c x y) Q f w:=uQ hc (λh=>by cases h) (λ_=>he)
theorem gC {id:Nat} {c:Code} (h:WP P n c ⟨Q.nrm,λj f w=>match Nat.beq j id with|true=>Q.nrm f w|false=>Q.ext j f w,Q.ret⟩ f w):WP P n (.block id c) Q f w:=λro dl a ha=>
 wpIn_block (wpIn_mono (h ro dl a ha) λe a w hq=>by
  cases e with
  |normal=>exact hq
  |exit i=>
   obtain⟨f,hf,hh⟩:=hq
   show if i=id then _ else _
   by_cases hi:i=id
   ·have hb:Nat.beq i id=true:=by simpa using hi
    simp only[hb] at hh
    rw[if_pos hi]
    exact⟨f,hf,hh⟩
   have hb:Nat.beq i id=false:=aWn hi
   simp only[hb] at hh
   rw[if_neg hi]
   exact⟨f,hf,hh⟩
  |ret=>exact hq
  |goto l=>exact hq
  |panic c=>exact hq
  |outgrown=>exact hq)
theorem oP {σ:Type} {c:Code} (I:σ->(Nat->Value)->World->Prop) (μ:σ->Nat) (s0:σ) (h0:I s0 f w)
 (hr:∀s f w,I s f w->WP P n c ⟨λf' w'=>∃s',I s' f' w'/\μ s'<μ s,Q.ext,Q.ret⟩ f w):WP P n (.loop c) Q f w:=by
 intro ro dl a ha b kk cs hro hb hr0
 have key:∀k s f w a,μ s=k->I s f w->Fm dl n f a->
  ∃e a' w',up dl n Q e a' w'/\ArrivesIn (Machine.fenced P (fen ro)) P (lone (b.atR a (.code c::.inLoop c::kk)) cs w) b kk cs e a' w':=by
  intro k
  induction k using Nat.strongRecOn with
  |_ k ih=>
   intro s f w a hk hI ha
   obtain⟨e,a1,w1,hq,harr⟩:=hr s f w hI ro dl a ha b (.inLoop c::kk) cs hro hb hr0
   cases e with
   |normal=>
    obtain⟨f1,hf1,s1,hI1,hlt⟩:=hq
    obtain⟨e2,a2,w2,hq2,harr2⟩:=ih (μ s1) (hk▸hlt) s1 f1 w1 a1 rfl hI1 hf1
    exact⟨e2,a2,w2,hq2,.of_steps (StepsIn.trans harr (.one (fenced_calm hb hr0 rfl) stepR_inLoop)) harr2⟩
   |exit i=>exact⟨.exit i,a1,w1,hq,.pass (x:=.inLoop c) rfl (λ_ _=> .inl (by simp)) harr⟩
   |ret=>exact⟨.ret,a1,w1,hq,.pass (x:=.inLoop c) rfl (λ_ _=> .inl (by simp)) harr⟩
   |goto l=>exact hq.elim
   |panic ch=>exact hq.elim
   |outgrown=>exact hq.elim
 obtain⟨e,a',w',hq,harr⟩:=key _ s0 f w a rfl h0 ha
 exact⟨e,a',w',hq,.of_steps (.one (fenced_calm hb hr0 rfl) stepR_loop) harr⟩
end rules
/-! ### an operation of a round is as everywhere -/
def ndO (o:Oper):Bool:=match o.op with
 |.defer _=>false
 |_=>true
def ndA (l:List Oper):Bool:=l.all ndO
theorem aIz {o:Oper} (h:ndO o=true):∀c,o.op≠.defer c:=λc hc=>by
 unfold ndO at h
 rw[hc] at h
 cases h
section round
variable {P:Program} {n:Nat} {Q:Po} {ro:Option Nat} {dl:List Deferred} {ops:Array Oper}
theorem aCw:¬LetsOut (up dl n Q):=λ⟨_,_,h⟩=>h
theorem bTj {o:Oper} {a:Act} {w:World} {K:Act->World->Prop} (hd:ndO o=true) (h:o.wp P a w K (up dl n Q)):o.wpIn (fen ro) 0 P a w K (up dl n Q):=by
 refine⟨aAn,?_⟩
 rw[Oper.semAt_plain (fen ro) a.eval o (aIz hd)]
 unfold Oper.wp at h
 generalize (execOp a.eval o).run P w=r at h
 cases r with
 |ok x w'=>
  cases x with
  |value v=>exact h
  |skip=>exact h
  |defer d=>exact h
  |enter f args=>
   refine⟨λhh=>(by cases hh),?_⟩
   have h2:CallsIn Fence.wide 0 P f args w' _:=callsIn_wide.2 h
   exact CallsIn.mono (F:=fen ro) (n:=0) h2 λe w'' hh=>by cases e<;>exact hh
  |row r args=>
   exact⟨λhh=>(by cases hh),λc cs _=>by
    obtain⟨v,w',r,s⟩:=(show Rows P _ _ _ _ from h) c cs
    exact⟨v,w',r,stepsIn_wide.2 s⟩⟩
  |_=>exact h.elim
 |halt x w'=>cases x<;>first|exact h|exact h.elim
theorem aOh:∀{l:List Oper} {a:Act} {w:World},ndA l=true->wpList P ops (up dl n Q) l a w->wpListIn (fen ro) 0 P ops (up dl n Q) l a w
 |[],a,w,_,h=>h
 |o::l,a,w,hd,h=>by
  simp only[ndA,List.all_cons,aQ] at hd
  unfold wpList at h
  unfold wpListIn
  split
  ·next hw=>
   rw[if_pos hw] at h
   rcases h with h|h
   ·exact bTj hd.1 (Oper.wp_mono (λa w hh=>aOh hd.2 hh) h)
   exact absurd h.2 aCw
  next hw=>
  rw[if_neg hw] at h
  exact⟨aAn,aOh hd.2 h⟩
theorem aRt (hd:ndA ops.toList=true):∀{fuel:Nat} {listed:Array Bool} {a:Act} {w:World},wpAny P .any ops (up dl n Q) fuel listed a w->wpAnyIn (fen ro) 0 P .any ops (up dl n Q) fuel listed a w
 |0,_,_,_,h=>h
 |fuel+1,listed,a,w,h=>by
  refine⟨h.1,λi hi=>?_⟩
  have h1:=h.2 i hi
  unfold wpOp at h1
  unfold wpOpIn
  split
  ·next hn=>simp only[hn] at h1;exact aRt hd h1
  next o ho=>
  simp only[ho] at h1
  have hdo:ndO o=true:=aZ.1 hd o (Array.mem_toList_iff.2 (Array.mem_of_getElem? ho))
  split
  ·next hw=>
   rw[if_pos hw] at h1
   rcases h1 with h1|h1
   ·exact bTj hdo (Oper.wp_mono (λa w hh=>aRt hd hh) h1)
   exact absurd h1.2 aCw
  next hw=>
  rw[if_neg hw] at h1
  exact⟨aAn,aRt hd h1⟩
end round
end Go.Vg
namespace Go.Vg
open Go.RowKit
section lists
variable {P:Program} {n:Nat} {Q:Po} {f:Nat->Value} {w w':World} {ops:Array Oper} {o:Oper} {rest:List Oper} {d:Nat} {v:Value}
def RL (P:Program) (n:Nat) (ops:Array Oper) (l:List Oper) (Q:Po) (f:Nat->Value) (w:World):Prop:=∀dl a,Fm dl n f a->wpList P ops (up dl n Q) l a w
theorem cV {id:Nat} {l:List Oper} (h:RL P n l.toArray l Q f w) (hd:ndA l=true:=by rfl):WP P n (.region id l.toArray false) Q f w:=λ_ dl a ha=>wpIn_region_lit (aOh hd (h dl a ha))
theorem RL.nil (h:Q.nrm f w):RL P n ops [] Q f w:=λ_ _ ha=>wpList_nil ⟨f,ha,h⟩
theorem RL.val (hg:o.guard=none) (hd:o.dst=some d) (hn:d<n) (hr:(execOp (ev f) o).run P w= .ok (.value v) w') (h:RL P n ops rest Q (st f d v) w'):RL P n ops (o::rest) Q f w:=λdl a ha=>
 wpList_plain hg λK hK=>by
  unfold Oper.wp
  rw[ha.eval,hr]
  exact hK _ _ (h _ _ (by rw[hd];exact ha.put hn v))
theorem RL.skip (hg:o.guard=none) (hd:o.dst=none) (hr:(execOp (ev f) o).run P w= .ok .skip w') (h:RL P n ops rest Q f w'):RL P n ops (o::rest) Q f w:=λdl a ha=>
 wpList_plain hg λK hK=>by
  unfold Oper.wp
  rw[ha.eval,hr]
  exact hK _ _ (h _ _ (by rw[hd];exact ha))
theorem RL.call {k:FuncId} {args:Array Value} {Post:Value->World->Prop} (hg:o.guard=none) (hd:o.dst=some d) (hn:d<n) (hr:(execOp (ev f) o).run P w= .ok (.enter k args) w)
 (hc:Calls P k args w λe w'=>∃v,e= .returned v/\Post v w') (h:∀v w',Post v w'->RL P n ops rest Q (st f d v) w'):RL P n ops (o::rest) Q f w:=λdl a ha=>
 wpList_plain hg λK hK=>by
  unfold Oper.wp
  rw[ha.eval,hr]
  refine hc.mono λe w1 ⟨u,he,hp⟩=>?_
  subst he
  exact hK _ _ (h u w1 hp _ _ (by rw[hd];exact ha.put hn u))
theorem aOi {dl:List Deferred} {a:Act} (ha:Fm dl n f a) {j t:Nat} {b:Bool} (hj:(ops[j]?).bind (·.dst)=some t) (hf:f t= .bool b):yielded ops a.tmps j=some b:=by
 have h:=ha.2.2 t
 rw[hf] at h
 unfold yielded
 rw[hj]
 rcases eY t a.tmps.size with hl|hl
 ·simp only[Option.bind_some]
  simp[Array.getD,hl] at h
  simp[hl,h]
 simp[Array.getD,Nat.not_lt.2 hl,undef] at h
theorem tO {dl:List Deferred} {a:Act} (ha:Fm dl n f a) {j t:Nat} {b want:Bool} (hg:o.guard=some (j,want)) (hj:(ops[j]?).bind (·.dst)=some t) (hf:f t= .bool b):
 Region.wanted o (yielded ops a.tmps)=(b==want):=by
 unfold Region.wanted
 simp only[hg,aOi ha hj hf]
 cases b<;>cases want<;>rfl
theorem RL.gval {j t:Nat} {want:Bool} (hg:o.guard=some (j,want)) (hj:(ops[j]?).bind (·.dst)=some t) (hf:f t= .bool want) (hd:o.dst=some d) (hn:d<n)
 (hr:(execOp (ev f) o).run P w= .ok (.value v) w') (h:RL P n ops rest Q (st f d v) w'):RL P n ops (o::rest) Q f w:=λdl a ha=>
 wpList_step λK hK=>by
  have hw:=tO ha hg hj hf
  rw[hw]
  simp only[BEq.rfl,if_true]
  unfold Oper.wp
  rw[ha.eval,hr]
  exact hK _ _ (h _ _ (by rw[hd];exact ha.put hn v))
theorem RL.gno {j t:Nat} {want:Bool} (hg:o.guard=some (j,want)) (hj:(ops[j]?).bind (·.dst)=some t) (hf:f t= .bool (!want)) (hd:o.dst=some d) (hn:d<n)
 (h:RL P n ops rest Q (st f d undef) w):RL P n ops (o::rest) Q f w:=λdl a ha=>
 wpList_step λK hK=>by
  have hw:=tO ha hg hj hf
  rw[hw]
  have:((!want)==want)=false:=by cases want<;>rfl
  rw[this]
  simp only[iD,if_false]
  exact hK _ _ (h _ _ (by rw[hd];exact ha.put hn undef))
end lists
/-! ### whatever order -/
def MT:Nat:=143
def tT (o:Oper):Bool:=match o.op with
 |.load ..=>true
 |.call {callee:=.builtin .len,argTypes:=⟨[t]⟩,..}=>Nat.beq t MT
 |_=>false
def calm (o:Oper):Bool:=match o.op with
 |.move _|.assign _|.pick ..|.load ..|.binOp ..|.unOp ..|.convert ..|.field ..|.fieldAddr ..|.indexAddr ..|.index ..|.slice ..|.extract ..|.build ..|.makeFunc ..|.nilCheck _=>true
 |.call {callee:=.builtin .len,..}|.call {callee:=.builtin .cap,..}|.call {callee:=.builtin .min,..}|.call {callee:=.builtin .max,..}=>true
 |_=>false
def aCx (ops:Array Oper) (j:Nat):Bool:=match ops[j]? with
 |some o=>calm o
 |none=>false
def aVa (ops:Array Oper) (j:Nat):Bool:=match ops[j]? with
 |some o=>tT o
 |none=>false
def aJa (ops:Array Oper) (i:Nat):Array Bool:=ops.foldl (λacc o=>acc.push (o.after.any λe=>Region.binds .any e&&(e.on==i||acc.getD e.on false))) #[]
def xN (ops:Array Oper) (i j:Nat):Bool:=(aJa ops i).getD j false
def aRu (ops:Array Oper) (listed:Array Bool) (i:Nat):Bool:=
 let d:=aJa ops i
 (List.range d.size).all λk=>!(d.getD k false)||(!(listed.getD k true)&&match ops[k]? with
  |some o=>o.after.any λe=>Region.binds .any e&&(e.on==i||d.getD e.on false)
  |none=>false)
def aFo (ops:Array Oper) (j:Nat):Bool:=
 (List.range ops.size).all λi=>i==j||!aVa ops i||xN ops i j
def Oks (ops:Array Oper) (S:World->Prop) (j:Nat) (w w':World):Prop:=(aCx ops j=true/\w'=w)\/aFo ops j=true\/S w'
def kF (P:Program) (ops:Array Oper) (Q:Exit->Act->World->Prop) (S:World->Prop):Nat->Array Bool->Act->World->Prop
 |0,listed,a,w=>Region.ready .any ops listed=[]/\Q .normal a w
 |fuel+1,listed,a,w=>
  (Region.ready .any ops listed=[]->Q .normal a w)/\
  ∀i∈Region.ready .any ops listed,wpOp P ops Q i (λa' w'=>Oks ops S i w w'/\kF P ops Q S fuel (listed.setIfInBounds i true) a' w') a w
section any
variable {P:Program} {ops:Array Oper} {Q:Exit->Act->World->Prop} {S:World->Prop}
theorem aFp:∀(fuel:Nat) (listed:Array Bool) (a:Act) (w:World),kF P ops Q S fuel listed a w->wpAny P .any ops Q fuel listed a w
 |0,_,_,_,h=>h
 |fuel+1,_,_,_,h=>⟨h.1,λi hi=>wpOp_mono (λa' w' h'=>aFp fuel _ a' w' h'.2) (h.2 i hi)⟩
theorem aDw {S':World->Prop} (hS:∀w,S' w->S w):∀(fuel:Nat) (listed:Array Bool) (a:Act) (w:World),kF P ops Q S' fuel listed a w->kF P ops Q S fuel listed a w
 |0,_,_,_,h=>h
 |fuel+1,_,_,_,h=>⟨h.1,λi hi=>wpOp_mono (λa' w' h'=>⟨h'.1.imp id (Or.imp id (hS w')),aDw hS fuel _ a' w' h'.2⟩) (h.2 i hi)⟩
theorem aJb {i j:Nat} (hl:aFo ops j=true) (hij:i≠j) (hi:i<ops.size) (hr:aVa ops i=true):xN ops i j=true:=by
 unfold aFo at hl
 simp only[aZ,eA] at hl
 have h:=hl i hi
 simpa only[hr,lM,Bool.or_false,kY,beq_iff_eq,hij,false_or] using h
theorem aFq {i k:Nat} {listed:Array Bool} (h:aRu ops listed i=true) (hk:xN ops i k=true):
 listed.getD k true=false/\∃o,ops[k]? =some o/\∃e∈o.after,Region.binds .any e=true/\(e.on=i\/xN ops i e.on=true):=by
 unfold aRu at h
 simp only[aZ,eA] at h
 have hlt:k<(aJa ops i).size:=by
  unfold xN at hk
  rcases eY k (aJa ops i).size with h'|h'
  ·exact h'
  simp[Array.getD,Nat.not_lt.2 h'] at hk
 have h1:=h k hlt
 unfold xN at hk
 rw[hk] at h1
 simp only[lM,rZ,aQ,dL] at h1
 refine⟨h1.1,?_⟩
 have h2:=h1.2
 split at h2
 ·next o ho=>
  obtain⟨e,he,hb⟩:=Array.any_eq_true'.1 h2
  simp only[aQ,kY,beq_iff_eq] at hb
  exact⟨o,ho,e,he,hb.1,hb.2⟩
 cases h2
theorem aJc {i:Nat} {oi:Oper} {v:Value} {S0:World->Prop} (hi:ops[i]? =some oi) (hc:calm oi=true) (hS0:(∀w,S0 w)\/(tT oi=true/\∀w,S w->S0 w))
 (hcl:tT oi=true->∀k,xN ops i k=true->∃o,ops[k]? =some o/\∃e∈o.after,Region.binds .any e=true/\(e.on=i\/xN ops i e.on=true))
 (hsel:∀(j:Nat) (o:Oper) cs b,ops[j]? =some o->o.op≠.select cs b) (hQ:∀c a w,Q (.panic c) (a.put oi.dst v) w->Q (.panic c) a w):
 ∀(fuel:Nat) (listed:Array Bool) (a:Act) (w:World),
  (∀j oj,ops[j]? =some oj->j≠i->listed.getD j true=false->(∀e∈oj.after,Region.binds .any e=true->e.on≠i)->oi.apart ops oj=true)->
  (tT oi=true->∀k,xN ops i k=true->listed.getD k true=false)->
  i∈Region.ready .any ops listed->YieldsIf P ops S0 oi v a->S0 w->
  kF P ops Q S fuel (listed.setIfInBounds i true) (a.put oi.dst v) w->kF P ops Q S (fuel+1) listed a w:=by
 have hci:aCx ops i=true:=by unfold aCx;rw[hi];exact hc
 intro fuel
 induction fuel with
 |zero=>
  intro listed a w _ _ hr hy hS H
  refine⟨λh=>(by rw[h] at hr;cases hr),λj hj=>?_⟩
  by_cases hji:j=i
  ·subst hji;exact hy.wpOp hi hS ⟨.inl ⟨hci,rfl⟩,H⟩
  have:=ready_mono hj hji
  rw[H.1] at this
  cases this
 |succ fuel ih=>
  intro listed a w hfree hun hr hy hS H
  refine⟨λh=>(by rw[h] at hr;cases hr),λj hj=>?_⟩
  by_cases hji:j=i
  ·subst hji;exact hy.wpOp hi hS ⟨.inl ⟨hci,rfl⟩,H⟩
  have h1:=H.2 j (ready_mono hj hji)
  obtain⟨hjun,oj,hoj,hall⟩:=mem_ready.1 hj
  have hnot:∀e∈oj.after,Region.binds .any e=true->e.on≠i:=λe he hb heq=>by
   have h1:=hall e he hb
   have h0:=(mem_ready.1 hr).1
   rw[heq] at h1
   rcases eY i listed.size with h'|h'
   ·simp[h'] at h0 h1;rw[h0] at h1;cases h1
   simp[qZ h'] at h1
  have hjd:tT oi=true->xN ops i j=false:=λhrd=>by
   rcases iJ (xN ops i j) with hd|hd
   ·obtain⟨o,ho,e,he,hb,hcase⟩:=hcl hrd j hd
    rw[hoj] at ho
    injection ho with ho
    subst ho
    rcases hcase with hc|hc
    ·exact absurd hc (hnot e he hb)
    have h1:=hall e he hb
    have h0:=hun hrd e.on hc
    rcases eY e.on listed.size with h'|h'
    ·simp[h'] at h0 h1;rw[h0] at h1;cases h1
    simp[qZ h'] at h1
   exact hd
  have hun':tT oi=true->∀k,xN ops i k=true->(listed.setIfInBounds j true).getD k true=false:=λhrd k hk=>by
   have hjk:j≠k:=λh=>by subst h;rw[hjd hrd] at hk;cases hk
   rw[getD_set_ne true hjk]
   exact hun hrd k hk
  have h2:=wpOp_putIf hoj (hfree j oj hoj hji hjun hnot) (λcs b=>hsel i oi cs b hi) (λcs b=>hsel j oj cs b hoj) hQ hy h1
  have hfree':∀k ok,ops[k]? =some ok->k≠i->(listed.setIfInBounds j true).getD k true=false->
   (∀e∈ok.after,Region.binds .any e=true->e.on≠i)->oi.apart ops ok=true:=λk ok hk hki hun hno=>by
   refine hfree k ok hk hki ?_ hno
   by_cases hjk:j=k
   ·subst hjk;exact hjun
   rw[getD_set_ne true hjk] at hun;exact hun
  refine wpOp_mono (λa' w' h3=>?_) h2
  have hS':S0 w':=by
   rcases hS0 with hS0|⟨hrd,hS0⟩
   ·exact hS0 w'
   rcases h3.2.1 with ⟨_,he⟩|hl|hs
   ·rw[he];exact hS
   ·have hlt:i<ops.size:=(oY.1 hi).1
    have hd:=aJb hl (iQ hji) hlt (by unfold aVa;rw[hi];exact hrd)
    rw[hjd hrd] at hd
    cases hd
   exact hS0 w' hs
  refine⟨h3.2.1,ih (listed.setIfInBounds j true) a' w' hfree' hun' (ready_mono hr (iQ hji)) h3.1 hS' ?_⟩
  rw[Array.setIfInBounds_comm _ _ hji]
  exact h3.2.2
end any
def nH (ops:Array Oper) (listed:Array Bool) (i:Nat):Bool:=
 Region.noSelect ops&&Region.free .any ops listed i&&(Region.ready .any ops listed).contains i&&aCx ops i&&(!aVa ops i||aRu ops listed i)
def RA (P:Program) (n:Nat) (ops:Array Oper) (Q:Po) (S:World->Prop) (fuel:Nat) (listed:Array Bool) (f:Nat->Value) (w:World):Prop:=
 ∀dl a,Fm dl n f a->kF P ops (up dl n Q) S fuel listed a w
section ra
variable {P:Program} {n:Nat} {Q:Po} {f:Nat->Value} {w w':World} {ops:Array Oper} {o:Oper} {S:World->Prop} {fuel:Nat} {listed:Array Bool} {d:Nat} {v:Value}
theorem aAo {id:Nat} (S:World->Prop) (hm:P.follows .mixedOrders=true) (h:RA P n ops Q S ops.size (Array.replicate ops.size false) f w.drew) (hd:ndA ops.toList=true:=by rfl):WP P n (.region id ops true) Q f w:=λ_ dl a ha=>
 wpIn_region_any hm (aRt hd (aFp _ _ _ _ (h dl a ha)))
theorem oQ {id:Nat} (hm:P.follows .mixedOrders=true) (h:∀w1,Below w.heap.size w w1->RA P n ops Q (λu=>Below w1.heap.size w1 u) ops.size (Array.replicate ops.size false) f w1) (hd:ndA ops.toList=true:=by rfl):WP P n (.region id ops true) Q f w:=
 aAo _ hm (h w.drew (Below.drew (Below.refl _ _))) hd
theorem RA.more {S':World->Prop} (hS:∀w,S' w->S w) (h:RA P n ops Q S' fuel listed f w):RA P n ops Q S fuel listed f w:=λdl a ha=>aDw hS _ _ _ _ (h dl a ha)
theorem RA.take0 {S0:World->Prop} (i:Nat) (hi:ops[i]? =some o) (hok:nH ops listed i=true) (hS0:(∀w,S0 w)\/(tT o=true/\∀w,S w->S0 w)) (hS:S0 w) (hd:o.dst=some d) (hn:d<n)
 (hy:∀dl a,Fm dl n f a->YieldsIf P ops S0 o v a) (h:RA P n ops Q S fuel (listed.setIfInBounds i true) (st f d v) w):RA P n ops Q S (fuel+1) listed f w:=λdl a ha=>by
 unfold nH at hok
 simp only[aQ] at hok
 obtain⟨⟨⟨⟨h1,h2⟩,h3⟩,h4⟩,h5⟩:=hok
 have h6:tT o=true->aRu ops listed i=true:=λhrd=>by
  have:aVa ops i=true:=by unfold aVa;rw[hi];exact hrd
  rw[this] at h5
  simpa using h5
 refine aJc (i:=i) (v:=v) (S0:=S0) hi (by unfold aCx at h4;rw[hi] at h4;exact h4) hS0 (λhrd k hk=>(aFq (h6 hrd) hk).2) (Region.noSelect_spec h1) (λ_ _ _ h=>h) fuel listed a w (Region.free_spec hi h2) (λhrd k hk=>(aFq (h6 hrd) hk).1) (by simpa using h3) (hy dl a ha) hS ?_
 exact h _ _ (by rw[hd];exact ha.put hn v)
theorem RA.take (i:Nat) (hi:ops[i]? =some o) (hok:nH ops listed i=true) (hg:o.guard=none) (hd:o.dst=some d) (hn:d<n)
 (hr:∀w,(execOp (ev f) o).run P w= .ok (.value v) w) (h:RA P n ops Q S fuel (listed.setIfInBounds i true) (st f d v) w):RA P n ops Q S (fuel+1) listed f w:=
 RA.take0 (S0:=λ_=>True) i hi hok (.inl λ_=>trivial) trivial hd hn (λdl a ha=> .inl ⟨by simp[Region.wanted,hg],λw _=>by rw[ha.eval];exact hr w⟩) h
theorem RA.rd (i:Nat) (hi:ops[i]? =some o) (hok:nH ops listed i=true) (hrd:tT o=true) (hg:o.guard=none) (hd:o.dst=some d) (hn:d<n) (hS:S w)
 (hr:∀w,S w->(execOp (ev f) o).run P w= .ok (.value v) w) (h:RA P n ops Q S fuel (listed.setIfInBounds i true) (st f d v) w):RA P n ops Q S (fuel+1) listed f w:=
 RA.take0 (S0:=S) i hi hok (.inr ⟨hrd,λ_ h=>h⟩) hS hd hn (λdl a ha=> .inl ⟨by simp[Region.wanted,hg],λw hw=>by rw[ha.eval];exact hr w hw⟩) h
theorem RA.gtake (i:Nat) {j t:Nat} {want:Bool} (hi:ops[i]? =some o) (hok:nH ops listed i=true) (hg:o.guard=some (j,want)) (hj:(ops[j]?).bind (·.dst)=some t) (hf:f t= .bool want) (hd:o.dst=some d) (hn:d<n)
 (hr:∀w,(execOp (ev f) o).run P w= .ok (.value v) w) (h:RA P n ops Q S fuel (listed.setIfInBounds i true) (st f d v) w):RA P n ops Q S (fuel+1) listed f w:=
 RA.take0 (S0:=λ_=>True) i hi hok (.inl λ_=>trivial) trivial hd hn (λdl a ha=> .inl ⟨by rw[tO ha hg hj hf];simp,λw _=>by rw[ha.eval];exact hr w⟩) h
theorem RA.grd (i:Nat) {j t:Nat} {want:Bool} (hi:ops[i]? =some o) (hok:nH ops listed i=true) (hrd:tT o=true) (hg:o.guard=some (j,want)) (hj:(ops[j]?).bind (·.dst)=some t) (hf:f t= .bool want) (hd:o.dst=some d) (hn:d<n) (hS:S w)
 (hr:∀w,S w->(execOp (ev f) o).run P w= .ok (.value v) w) (h:RA P n ops Q S fuel (listed.setIfInBounds i true) (st f d v) w):RA P n ops Q S (fuel+1) listed f w:=
 RA.take0 (S0:=S) i hi hok (.inr ⟨hrd,λ_ h=>h⟩) hS hd hn (λdl a ha=> .inl ⟨by rw[tO ha hg hj hf];simp,λw hw=>by rw[ha.eval];exact hr w hw⟩) h
theorem aDx {dl:List Deferred} {a:Act} (ha:Fm dl n f a) {j t:Nat} {want:Bool} (hg:o.guard=some (j,want)) (hj:(ops[j]?).bind (·.dst)=some t) (hf:f t= .bool (!want)\/f t=undef):Region.wanted o (yielded ops a.tmps)=false:=by
 rcases hf with hf|hf
 ·rw[tO ha hg hj hf];cases want<;>rfl
 have hy:yielded ops a.tmps j=none:=by
  have h:=ha.2.2 t
  rw[hf] at h
  unfold yielded
  rw[hj]
  simp only[Option.bind_some]
  rcases eY t a.tmps.size with hl|hl
  ·simp[Array.getD,hl] at h
   simp[hl,h,undef]
  simp[qZ hl]
 unfold Region.wanted
 simp only[hg,hy]
 rfl
theorem RA.gno (i:Nat) {j t:Nat} {want:Bool} (hi:ops[i]? =some o) (hok:nH ops listed i=true) (hg:o.guard=some (j,want)) (hj:(ops[j]?).bind (·.dst)=some t) (hf:f t= .bool (!want)\/f t=undef) (hd:o.dst=some d) (hn:d<n)
 (h:RA P n ops Q S fuel (listed.setIfInBounds i true) (st f d undef) w):RA P n ops Q S (fuel+1) listed f w:=
 RA.take0 (S0:=λ_=>True) i hi hok (.inl λ_=>trivial) trivial hd hn (λdl a ha=> .inr ⟨aDx ha hg hj hf,rfl⟩) h
theorem RA.done (hr:Region.ready .any ops listed=[]) (h:Q.nrm f w):RA P n ops Q S fuel listed f w:=λdl a ha=>by
 cases fuel with
 |zero=>exact⟨hr,f,ha,h⟩
 |succ k=>exact⟨λ_=>⟨f,ha,h⟩,by rw[hr];simp⟩
def RS (P:Program) (n:Nat) (ops:Array Oper) (Q:Po) (S:World->Prop) (fuel:Nat) (listed:Array Bool) (f:Nat->Value) (w:World) (rs:List Nat):Prop:=
 ∀i∈rs,∀dl a,Fm dl n f a->wpOp P ops (up dl n Q) i (λa' w'=>Oks ops S i w w'/\kF P ops (up dl n Q) S fuel (listed.setIfInBounds i true) a' w') a w
theorem RA.all (rs:List Nat) (hr:Region.ready .any ops listed=rs) (hne:rs.isEmpty=false) (h:RS P n ops Q S fuel listed f w rs):RA P n ops Q S (fuel+1) listed f w:=λdl a ha=>
 ⟨λh0=>by rw[hr] at h0;subst h0;simp at hne,λi hi=>h i (by rw[<-hr];exact hi) dl a ha⟩
variable {i:Nat} {rs:List Nat}
theorem RS.nil:RS P n ops Q S fuel listed f w []:=λ_ h=>by cases h
theorem RS.val (hi:ops[i]? =some o) (hg:o.guard=none) (hd:o.dst=some d) (hn:d<n) (hr:(execOp (ev f) o).run P w= .ok (.value v) w') (hS:Oks ops S i w w')
 (h:RA P n ops Q S fuel (listed.setIfInBounds i true) (st f d v) w') (hs:RS P n ops Q S fuel listed f w rs):RS P n ops Q S fuel listed f w (i::rs):=λj hj=>by
 rcases bJ.1 hj with rfl|hj
 ·intro dl a ha
  unfold wpOp
  simp only[hi,Region.wanted,hg,if_true]
  refine .inl ?_
  unfold Oper.wp
  rw[ha.eval,hr]
  exact⟨hS,h _ _ (by rw[hd];exact ha.put hn v)⟩
 exact hs j hj
theorem RS.skip (hi:ops[i]? =some o) (hg:o.guard=none) (hd:o.dst=none) (hr:(execOp (ev f) o).run P w= .ok .skip w') (hS:Oks ops S i w w')
 (h:RA P n ops Q S fuel (listed.setIfInBounds i true) f w') (hs:RS P n ops Q S fuel listed f w rs):RS P n ops Q S fuel listed f w (i::rs):=λj hj=>by
 rcases bJ.1 hj with rfl|hj
 ·intro dl a ha
  unfold wpOp
  simp only[hi,Region.wanted,hg,if_true]
  refine .inl ?_
  unfold Oper.wp
  rw[ha.eval,hr]
  exact⟨hS,h _ _ (by rw[hd];exact ha)⟩
 exact hs j hj
theorem RS.call {k:FuncId} {args:Array Value} {Post:Value->World->Prop} (hi:ops[i]? =some o) (hg:o.guard=none) (hd:o.dst=some d) (hn:d<n) (hr:(execOp (ev f) o).run P w= .ok (.enter k args) w)
 (hc:Calls P k args w λe w'=>∃v,e= .returned v/\Post v w') (h:∀v w',Post v w'->Oks ops S i w w'/\RA P n ops Q S fuel (listed.setIfInBounds i true) (st f d v) w')
 (hs:RS P n ops Q S fuel listed f w rs):RS P n ops Q S fuel listed f w (i::rs):=λj hj=>by
 rcases bJ.1 hj with rfl|hj
 ·intro dl a ha
  unfold wpOp
  simp only[hi,Region.wanted,hg,if_true]
  refine .inl ?_
  unfold Oper.wp
  rw[ha.eval,hr]
  refine hc.mono λe w1 ⟨u,he,hp⟩=>?_
  subst he
  obtain⟨h1,h2⟩:=h u w1 hp
  exact⟨h1,h2 _ _ (by rw[hd];exact ha.put hn u)⟩
 exact hs j hj
end ra
end Go.Vg
abbrev aE := @Go.Vg.RL.nil
namespace Go.Vg
open Go.RowKit
section
variable {P:Program} {f:Nat->Value} {w:World} {dst:Option Tmp} {ty:TypeId} {pos:String} {aft:Array Edge} {g:Option (Nat×Bool)} {x y z:Operand} {t t':TypeId} {k:IntKind} {a b c:Int}
theorem gS {v:Value} (h:ev f x=v):(execOp (ev f) ⟨dst,.move x,ty,pos,aft,g⟩).run P w= .ok (.value v) w:=by rw[<-h];rfl
theorem aDy {v:Value} (h:ev f x=v):(execOp (ev f) ⟨dst,.assign x,ty,pos,aft,g⟩).run P w= .ok (.value v) w:=by rw[<-h];rfl
theorem kT {v:Value} (hc:ev f x= .bool true) (h:ev f y=v):(execOp (ev f) ⟨dst,.pick x y z,ty,pos,aft,g⟩).run P w= .ok (.value v) w:=by
 simp[execOp,hc,h,asBool]
theorem mO {v:Value} (hc:ev f x= .bool false) (h:ev f z=v):(execOp (ev f) ⟨dst,.pick x y z,ty,pos,aft,g⟩).run P w= .ok (.value v) w:=by
 simp[execOp,hc,h,asBool]
theorem kE (hx:ev f x= .int k a) (hy:ev f y= .int k b) (hw:k.wrap (a+b)=c):(execOp (ev f) ⟨dst,.binOp .add t x y t',ty,pos,aft,g⟩).run P w= .ok (.value (.int k c)) w:=by
 simp[execOp,hx,hy,eqGuard,binOp,Op.intArith,hw]
theorem lT (hx:ev f x= .int k a) (hy:ev f y= .int k b) (hw:k.wrap (a-b)=c):(execOp (ev f) ⟨dst,.binOp .sub t x y t',ty,pos,aft,g⟩).run P w= .ok (.value (.int k c)) w:=by
 simp[execOp,hx,hy,eqGuard,binOp,Op.intArith,hw]
theorem uR (hx:ev f x= .int k a) (hy:ev f y= .int k b) (hw:k.wrap (a*b)=c):(execOp (ev f) ⟨dst,.binOp .mul t x y t',ty,pos,aft,g⟩).run P w= .ok (.value (.int k c)) w:=by
 simp[execOp,hx,hy,eqGuard,binOp,Op.intArith,hw]
theorem aBe (hx:ev f x= .int k a) (hy:ev f y= .int k b) (hb:b≠0) (hw:k.wrap (a.tdiv b)=c):(execOp (ev f) ⟨dst,.binOp .quo t x y t',ty,pos,aft,g⟩).run P w= .ok (.value (.int k c)) w:=by
 simp[execOp,hx,hy,eqGuard,binOp,Op.intDiv,hb,hw]
theorem aDz (hx:ev f x= .int k a) (hy:ev f y= .int k b) (hb:b≠0) (hw:a.tmod b=c):(execOp (ev f) ⟨dst,.binOp .rem t x y t',ty,pos,aft,g⟩).run P w= .ok (.value (.int k c)) w:=by
 simp[execOp,hx,hy,eqGuard,binOp,Op.intDiv,hb,hw]
theorem aBf {kk:IntKind} (hx:ev f x= .int k a) (hy:ev f y= .int kk b) (hb:0<=b) (hw:k.wrap (a*2^(min b.toNat k.bits))=c):(execOp (ev f) ⟨dst,.binOp .shl t x y t',ty,pos,aft,g⟩).run P w= .ok (.value (.int k c)) w:=by
 simp[execOp,hx,hy,eqGuard,binOp,Op.shift,aBc.2 hb,hw]
theorem tU {kk:IntKind} (hx:ev f x= .int k a) (hy:ev f y= .int kk b) (hb:0<=b) (hw:a.fdiv (2^(min b.toNat k.bits))=c):(execOp (ev f) ⟨dst,.binOp .shr t x y t',ty,pos,aft,g⟩).run P w= .ok (.value (.int k c)) w:=by
 simp[execOp,hx,hy,eqGuard,binOp,Op.shift,aBc.2 hb,hw]
theorem aJd (hx:ev f x= .int k a) (hy:ev f y= .int k b) (hw:k.wrap ((BitVec.ofInt k.bits a|||BitVec.ofInt k.bits b).toNat:Int)=c):(execOp (ev f) ⟨dst,.binOp .or t x y t',ty,pos,aft,g⟩).run P w= .ok (.value (.int k c)) w:=by
 simp only[execOp,hx,hy,eqGuard,binOp]
 simp[Op.intBits]
 simpa using hw
theorem bTk (hx:ev f x= .int k a) (hy:ev f y= .int k b) (hw:k.wrap ((BitVec.ofInt k.bits a&&&BitVec.ofInt k.bits b).toNat:Int)=c):(execOp (ev f) ⟨dst,.binOp .and t x y t',ty,pos,aft,g⟩).run P w= .ok (.value (.int k c)) w:=by
 simp only[execOp,hx,hy,eqGuard,binOp]
 simp[Op.intBits]
 simpa using hw
theorem mP (hx:ev f x= .int k a) (hy:ev f y= .int k b):(execOp (ev f) ⟨dst,.binOp .lss t x y t',ty,pos,aft,g⟩).run P w= .ok (.value (.bool (decide (a<b)))) w:=by
 simp[execOp,hx,hy,eqGuard,binOp,Op.intCmp]
theorem aWo (hx:ev f x= .int k a) (hy:ev f y= .int k b):(execOp (ev f) ⟨dst,.binOp .leq t x y t',ty,pos,aft,g⟩).run P w= .ok (.value (.bool (decide (a<=b)))) w:=by
 simp[execOp,hx,hy,eqGuard,binOp,Op.intCmp]
theorem aAf (hx:ev f x= .int k a) (hy:ev f y= .int k b):(execOp (ev f) ⟨dst,.binOp .gtr t x y t',ty,pos,aft,g⟩).run P w= .ok (.value (.bool (decide (b<a)))) w:=by
 simp[execOp,hx,hy,eqGuard,binOp,Op.intCmp]
theorem aEa (hx:ev f x= .int k a) (hy:ev f y= .int k b):(execOp (ev f) ⟨dst,.binOp .geq t x y t',ty,pos,aft,g⟩).run P w= .ok (.value (.bool (decide (b<=a)))) w:=by
 simp[execOp,hx,hy,eqGuard,binOp,Op.intCmp]
theorem tA (hx:ev f x= .int k a) (hy:ev f y= .int k b):(execOp (ev f) ⟨dst,.binOp .eql t x y t',ty,pos,aft,g⟩).run P w= .ok (.value (.bool (decide (a=b)))) w:=by
 simp[execOp,hx,hy,eqGuard,binOp,Op.intCmp]
 rfl
theorem xO (hx:ev f x= .int k a) (hy:ev f y= .int k b):(execOp (ev f) ⟨dst,.binOp .neq t x y t',ty,pos,aft,g⟩).run P w= .ok (.value (.bool (decide (a≠b)))) w:=by
 simp[execOp,hx,hy,eqGuard,binOp,Op.intCmp]
 rfl
theorem wD (d:Nat) {p q:Bool} (ht:P.underlying t=some .bool):(Op.equalIn (d+1) t (.bool p) (.bool q)).run P w= .ok (p==q) w:=by
 simp[Op.equalIn,run_underlying ht]
theorem aWp {p q:Bool} (ht:P.underlying t=some .bool) (hx:ev f x= .bool p) (hy:ev f y= .bool q):(execOp (ev f) ⟨dst,.binOp .eql t x y t',ty,pos,aft,g⟩).run P w= .ok (.value (.bool (p==q))) w:=by
 have h:=wD (P:=P) (w:=w) (t:=t) 9999 (p:=p) (q:=q) ht
 simp only[execOp,hx,hy,eqGuard,binOp]
 simp[Op.equal,Op.maxDepth,h]
theorem aWq {p q:Bool} (ht:P.underlying t=some .bool) (hx:ev f x= .bool p) (hy:ev f y= .bool q):(execOp (ev f) ⟨dst,.binOp .neq t x y t',ty,pos,aft,g⟩).run P w= .ok (.value (.bool (p !=q))) w:=by
 have h:=wD (P:=P) (w:=w) (t:=t) 9999 (p:=p) (q:=q) ht
 simp only[execOp,hx,hy,eqGuard,binOp]
 simp[Op.equal,Op.maxDepth,h]
 cases p<;>cases q<;>rfl
theorem aFr {p:Bool} (hx:ev f x= .bool p):(execOp (ev f) ⟨dst,.unOp .not t x,ty,pos,aft,g⟩).run P w= .ok (.value (.bool (!p))) w:=by
 simp[execOp,hx,Op.unary]
theorem aRv (hx:ev f x= .int k a) (hw:k.wrap (0-a)=c):(execOp (ev f) ⟨dst,.unOp .neg t x,ty,pos,aft,g⟩).run P w= .ok (.value (.int k c)) w:=by
 simp only[execOp,hx,Op.unary,Op.intArith,hw]
 rfl
theorem fE {k':IntKind} {d:TypeDesc} (h1:P.underlying t=some d) (h2:P.underlying t'=some (.int k)) (hx:ev f x= .int k' a) (hw:k.wrap a=c):(execOp (ev f) ⟨dst,.convert t t' x,ty,pos,aft,g⟩).run P w= .ok (.value (.int k c)) w:=by
 simp only[execOp,hx,convert,Sem.run_bind,run_underlying h1,run_underlying h2,Result.andThen_ok]
 cases d<;>simp[Conv.intToInt,hw]
theorem bZ {vs:Array Value} {i:Nat} {v:Value} (hx:ev f x= .tuple vs) (hv:vs[i]? =some v):(execOp (ev f) ⟨dst,.extract x i,ty,pos,aft,g⟩).run P w= .ok (.value v) w:=by
 simp[execOp,hx,Instr.extract,hv]
theorem gX {e:TypeId} {A:Option Addr} {n c:Nat} (ht:P.underlying t=some (.slice e)) (hx:ev f x= .slice A n c):
 (execOp (ev f) ⟨dst,.call ⟨.builtin .len,#[x],#[t]⟩,ty,pos,aft,g⟩).run P w= .ok (.value (.int .i64 n)) w:=by
 simp[execOp,resolve,invoke,builtin,Builtin.len_,run_underlying ht,hx,goInt]
theorem bMd (hx:ev f x= .int k a) (hy:ev f y= .int k b):(execOp (ev f) ⟨dst,.call ⟨.builtin .max,#[x,y],#[t,t']⟩,ty,pos,aft,g⟩).run P w= .ok (.value (.int k (if b>a then b else a))) w:=by
 simp[execOp,resolve,invoke,builtin,Builtin.max_,hx,hy,Builtin.max2]
theorem bMe (hx:ev f x= .int k a) (hy:ev f y= .int k b):(execOp (ev f) ⟨dst,.call ⟨.builtin .min,#[x,y],#[t,t']⟩,ty,pos,aft,g⟩).run P w= .ok (.value (.int k (if b<a then b else a))) w:=by
 simp[execOp,resolve,invoke,builtin,Builtin.min_,hx,hy,Builtin.min2]
def Ent (P:Program) (k:FuncId):Prop:=∀args w,(callFunc k args).run P w= .ok (.enter k args) w
theorem gI {kf:FuncId} {al:List Operand} {vl:List Value} {tys:Array TypeId} (he:Ent P kf) (ha:al.map (ev f)=vl):
 (execOp (ev f) ⟨dst,.call ⟨.value (.func kf),al.toArray,tys⟩,ty,pos,aft,g⟩).run P w= .ok (.enter kf vl.toArray) w:=by
 subst ha
 unfold Ent at he
 simp[execOp,resolve,Deferred.ofValue,ev,invoke,he]
theorem aJe {kf:FuncId} {al:List Operand} {vl cl:List Value} {tys:Array TypeId} (hx:ev f x= .func (.func kf) #[] cl.toArray) (he:Ent P kf) (ha:al.map (ev f)=vl):
 (execOp (ev f) ⟨dst,.call ⟨.value x,al.toArray,tys⟩,ty,pos,aft,g⟩).run P w= .ok (.enter kf (vl++cl).toArray) w:=by
 subst ha
 unfold Ent at he
 simp[execOp,resolve,hx,Deferred.ofValue,invoke,he]
theorem aOj {fn:Fn} {cl:List Operand} {vl:List Value} (hc:cl.map (ev f)=vl):(execOp (ev f) ⟨dst,.makeFunc fn #[] cl.toArray,ty,pos,aft,g⟩).run P w= .ok (.value (.func fn #[] vl.toArray)) w:=by
 subst hc
 simp[execOp,Instr.makeFunc]
end
/-! ### a number that fits is itself -/
theorem jS {z:Int} (h:-9223372036854775808<=z/\z<=9223372036854775807):IntKind.i64.wrap z=z:=by
 rw[IntKind.wrap_i64];omega
theorem iV {z:Int} (h:0<=z/\z<=18446744073709551615):IntKind.u64.wrap z=z:=by
 rw[IntKind.wrap_u64];omega
theorem aOk {z:Int} (h:0<=z/\z<=4294967295):IntKind.u32.wrap z=z:=by
 rw[IntKind.wrap_u32];omega
theorem aMb (z:Int):IntKind.u64.wrap z=z%18446744073709551616:=by rw[IntKind.wrap_u64]
theorem bTl (z:Int):IntKind.u32.wrap z=z%4294967296:=by rw[IntKind.wrap_u32]
/-! ### worlds -/
abbrev Ext (w w':World):Prop:=Below w.heap.size w w'
theorem Ext.trans {a b c:World} (h:Ext a b) (k:Ext b c):Ext a c:=Below.trans h (Below.mono k h.size)
theorem Ext.refl (w:World):Ext w w:=Below.refl _ _
theorem Ext.drew (w:World):Ext w w.drew:=(Below.refl _ _).drew
theorem Below.ext {B:Nat} {w0 w w':World} (h:Below B w0 w) (hB:B<=w.heap.size) (k:Ext w w'):Below B w0 w':=h.trans (k.mono hB)
structure Exc (b:Nat) (w w':World):Prop where
 os:w'.os=w.os
 tape:w'.tape=w.tape
 output:w'.output=w.output
 size:w.heap.size<=w'.heap.size
 block:∀k,k<w.heap.size->k≠b->w'.heap[k]? =w.heap[k]?
theorem Below.exc {B b:Nat} {w0 w w':World} (h:Below B w0 w) (hB:B<=w.heap.size) (k:Exc b w w') (hb:B<=b):Below B w0 w':=
 h.trans ⟨k.os,k.tape,k.output,k.size,λi hi=>k.block i oM oM⟩
theorem Exc.of_ext {b:Nat} {w w':World} (h:Ext w w'):Exc b w w':=⟨h.os,h.tape,h.output,h.size,λk hk _=>h.block k hk⟩
theorem Exc.trans {b:Nat} {a c d:World} (h:Exc b a c) (k:Exc b c d):Exc b a d:=
 ⟨k.os.trans h.os,k.tape.trans h.tape,k.output.trans h.output,bA h.size k.size,λi hi hb=>(k.block i (bH hi h.size) hb).trans (h.block i hi hb)⟩
def Sm (D:Nat->TypeId->Prop) (w w':World):Prop:=∀b cs T fz,w.heap[b]? =some (.cells cs T fz)->D b T->w'.heap[b]? =some (.cells cs T fz)
theorem fW {w:World} {b:Nat} {o:Obj} (h:w.heap[b]? =some o):b<w.heap.size:=(oY.1 h).1
theorem Sm.ext {D:Nat->TypeId->Prop} {w w':World} (h:Ext w w'):Sm D w w':=λb _ _ _ hh _=>(h.block b (fW hh)).trans hh
theorem Sm.exc {D:Nat->TypeId->Prop} {b0:Nat} {w w':World} (h:Exc b0 w w') (hD:∀cs T fz,w.heap[b0]? =some (.cells cs T fz)->¬D b0 T):Sm D w w':=λb cs T fz hh hd=>by
 have hne:b≠b0:=λe=>by subst e;exact hD cs T fz hh hd
 exact(h.block b (fW hh) hne).trans hh
def Bk (w:World) (b:Nat) (T:TypeId) (l:List Value):Prop:=w.heap[b]? =some (.cells l.toArray T (0,0))
theorem Bk.lt {w:World} {b:Nat} {T:TypeId} {l:List Value} (h:Bk w b T l):b<w.heap.size:=fW h
theorem Bk.ext {w w':World} {b:Nat} {T:TypeId} {l:List Value} (h:Bk w b T l) (e:Ext w w'):Bk w' b T l:=(e.block b h.lt).trans h
theorem Bk.exc {w w':World} {b b0:Nat} {T:TypeId} {l:List Value} (h:Bk w b T l) (e:Exc b0 w w') (hne:b≠b0):Bk w' b T l:=(e.block b h.lt hne).trans h
theorem Bk.cell {w:World} {b:Nat} {T:TypeId} {l:List Value} (h:Bk w b T l) {j:Nat} {u:Value} (hj:l[j]? =some u):w.cell? ⟨b,j,none⟩=some u:=by
 simp only[World.cell?]
 rw[show w.heap[b]? =_ from h]
 simpa using hj
theorem Bk.sm {w:World} {b:Nat} {T:TypeId} {l:List Value} {D:Nat->TypeId->Prop} {w':World} (h:Bk w b T l) (e:Exc b w w') (hD:¬D b T):Sm D w w':=
 Sm.exc e λcs T' fz hh=>by
  rw[show w.heap[b]? =_ from h] at hh
  injection hh with hh
  injection hh with _ hT _
  subst hT
  exact hD
/-! ### rows that are read -/
def Rd (D:Nat->TypeId->Prop) (w:World) (b o:Nat) (l:List Value):Prop:=l=[]\/∃cs T fz,w.heap[b]? =some (.cells cs T fz)/\D b T/\∀j u,l[j]? =some u->cs[o+j]? =some u
section rd
variable {D D':Nat->TypeId->Prop} {w w':World} {b o:Nat} {l:List Value}
theorem Rd.tr (h:Rd D w b o l) (hs:Sm D w w'):Rd D w' b o l:=by
 rcases h with h|⟨cs,T,fz,hh,hd,hc⟩
 ·exact .inl h
 exact .inr ⟨cs,T,fz,hs b cs T fz hh hd,hd,hc⟩
theorem Rd.mono (h:Rd D w b o l) (hD:∀b T,D b T->D' b T):Rd D' w b o l:=by
 rcases h with h|⟨cs,T,fz,hh,hd,hc⟩
 ·exact .inl h
 exact .inr ⟨cs,T,fz,hh,hD _ _ hd,hc⟩
theorem Rd.cell (h:Rd D w b o l) {j:Nat} {u:Value} (hj:l[j]? =some u):w.cell? ⟨b,o+j,none⟩=some u:=by
 rcases h with rfl|⟨cs,T,fz,hh,hd,hc⟩
 ·simp at hj
 simp only[World.cell?,hh]
 simpa using hc j u hj
theorem Rd.drop (h:Rd D w b o l) (k:Nat):Rd D w b (o+k) (l.drop k):=by
 rcases h with rfl|⟨cs,T,fz,hh,hd,hc⟩
 ·exact .inl (by simp)
 refine .inr ⟨cs,T,fz,hh,hd,λj u hj=>?_⟩
 rw[kO]
 exact hc (k+j) u (by rw[<-hj,eQ])
theorem Rd.take (h:Rd D w b o l) (k:Nat):Rd D w b o (l.take k):=by
 rcases h with rfl|⟨cs,T,fz,hh,hd,hc⟩
 ·exact .inl (by simp)
 refine .inr ⟨cs,T,fz,hh,hd,λj u hj=>?_⟩
 rw[iE] at hj
 split at hj
 ·exact hc j u hj
 cases hj
theorem Bk.rd {T:TypeId} {m:Nat} (h:Bk w b T l) (hd:D b T):Rd D w b m (l.drop m):=
 .inr ⟨l.toArray,T,(0,0),h,hd,λj u hj=>by rw[eQ] at hj;simpa using hj⟩
end rd
def Sc (D:Nat->TypeId->Prop) (w:World) (size:Nat) (v:Value) (n:Nat) (l:List Value):Prop:=
 ∃A c,v= .slice A n c/\n<=c/\c<=maxLen/\l.length=n*size/\(l=[]\/∃b o,A=some ⟨b,o,none⟩/\Rd D w b o l)
section sc
variable {D D':Nat->TypeId->Prop} {w w':World} {size n:Nat} {v:Value} {l:List Value}
theorem Sc.tr (h:Sc D w size v n l) (hs:Sm D w w'):Sc D w' size v n l:=by
 obtain⟨A,c,rfl,h1,h2,h3,h4⟩:=h
 exact⟨A,c,rfl,h1,h2,h3,h4.imp id λ⟨b,o,e,r⟩=>⟨b,o,e,r.tr hs⟩⟩
theorem Sc.mono (h:Sc D w size v n l) (hD:∀b T,D b T->D' b T):Sc D' w size v n l:=by
 obtain⟨A,c,rfl,h1,h2,h3,h4⟩:=h
 exact⟨A,c,rfl,h1,h2,h3,h4.imp id λ⟨b,o,e,r⟩=>⟨b,o,e,r.mono hD⟩⟩
theorem Sc.nil:Sc D w size (.slice none 0 0) 0 []:=⟨none,0,rfl,aI _,by simp[maxLen],by simp,.inl rfl⟩
end sc
/-! ### types -/
structure TyI (P:Program) (e:TypeId) (size bytes:Nat) (z:Value):Prop where
 mk'::
 ex:∃i,P.info? e=some i/\i.zero=some z/\i.size=size/\i.bytes=bytes
theorem TyI.of {P:Program} {e:TypeId} {size bytes:Nat} {z:Value} (h:(P.info? e).map (λi=>(i.zero,i.size,i.bytes))=some (some z,size,bytes)):TyI P e size bytes z:=by
 obtain⟨i,h1,h2,h3,h4⟩:=info_parts h
 exact⟨i,h1,h2,h3,h4⟩
def wW (P:Program) (t:TypeId):Bool:=match P.underlying t with
 |some (.struct _)|some (.array _ _)=>true
 |_=>false
theorem tP {P:Program} {t:TypeId} {d:TypeDesc} (hu:P.underlying t=some d) (w:World):(isAgg t).run P w= .ok (wW P t) w:=by
 unfold isAgg wW
 simp only[Sem.run_bind,run_underlying hu,Result.andThen_ok,hu]
 cases d<;>rfl
section ops
variable {P:Program} {f:Nat->Value} {w:World} {dst:Option Tmp} {ty:TypeId} {pos:String} {aft:Array Edge} {g:Option (Nat×Bool)} {x y z:Operand} {t t' e:TypeId}
theorem iA (b o n:Nat):(⟨b,o,none⟩:Addr).add n=⟨b,o+n,none⟩:=by
 unfold Addr.add
 split
 ·simp_all
 rfl
theorem dJ {d:TypeDesc} {p:Addr} {v:Value} (hu:P.underlying t=some d) (hb:wW P t=false) (hx:ev f x= .pointer (some p)) (hc:w.cell? p=some v):
 (execOp (ev f) ⟨dst,.load t x,ty,pos,aft,g⟩).run P w= .ok (.value v) w:=by
 simp[execOp,hx,Instr.loadAt,Instr.sureAddr,loadVar,tP hu,hb,load,Sem.run,hc]
theorem fT {d:TypeDesc} {b o:Nat} {cs:List Value} {bytes:Nat} {zz:Value} (hu:P.underlying t=some d) (hb:wW P t=true) (ht:TyI P t cs.length bytes zz) (hx:ev f x= .pointer (some ⟨b,o,none⟩)) (hc:∀j u,cs[j]? =some u->w.cell? ⟨b,o+j,none⟩=some u):
 (execOp (ev f) ⟨dst,.load t x,ty,pos,aft,g⟩).run P w= .ok (.value (.agg cs.toArray)) w:=by
 obtain⟨i,hi,_,hs,_⟩:=ht.ex
 have h:=run_loadCells_list (P:=P) w (⟨b,o,none⟩:Addr) cs (λj u hj=>by rw[iA];exact hc j u hj)
 simp[execOp,hx,Instr.loadAt,Instr.sureAddr,loadVar,tP hu,hb,sizeOf,typeInfo,hi,hs,h]
theorem bGm {d:TypeDesc} {fs:Array Field} {fl:Field} {i:Nat} {cs:Array Value} {v:Value} (hu:P.underlying t=some (.struct fs)) (hf:fs[i]? =some fl) (hd:P.underlying fl.type=some d) (hb:wW P fl.type=false)
 (hx:ev f x= .agg cs) (hc:cs[fl.offset]? =some v):(execOp (ev f) ⟨dst,.field t x i,ty,pos,aft,g⟩).run P w= .ok (.value v) w:=by
 simp[execOp,hx,Instr.field,run_underlying hu,hf,asAgg,part,tP hd,hb,hc]
theorem aWr {d:TypeDesc} {fs:Array Field} {fl:Field} {i size bytes:Nat} {zz:Value} {cs:Array Value} (hu:P.underlying t=some (.struct fs)) (hf:fs[i]? =some fl) (hd:P.underlying fl.type=some d) (hb:wW P fl.type=true) (ht:TyI P fl.type size bytes zz)
 (hx:ev f x= .agg cs):(execOp (ev f) ⟨dst,.field t x i,ty,pos,aft,g⟩).run P w= .ok (.value (.agg (cs.extract fl.offset (fl.offset+size)))) w:=by
 obtain⟨ii,hi,_,hs,_⟩:=ht.ex
 simp[execOp,hx,Instr.field,run_underlying hu,hf,asAgg,part,tP hd,hb,sizeOf,typeInfo,hi,hs]
theorem cI {fs:Array Field} {fl:Field} {i size bytes:Nat} {zz:Value} {b o:Nat} (hu:P.underlying t=some (.struct fs)) (hf:fs[i]? =some fl) (ht:TyI P fl.type (size+1) bytes zz) (hx:ev f x= .pointer (some ⟨b,o,none⟩)):
 (execOp (ev f) ⟨dst,.fieldAddr t x i,ty,pos,aft,g⟩).run P w= .ok (.value (.pointer (some ⟨b,o+fl.offset,none⟩))) w:=by
 obtain⟨ii,hi,_,hs,_⟩:=ht.ex
 simp[execOp,hx,Instr.fieldAt,Instr.sureAddr,run_underlying hu,hf,fieldPlace,sizeOf,typeInfo,hi,hs,iA]
theorem cA {k:IntKind} {i:Int} {b o n c size bytes:Nat} {zz:Value} (hu:P.underlying t=some (.slice e)) (ht:TyI P e size bytes zz) (hx:ev f x= .slice (some ⟨b,o,none⟩) n c) (hy:ev f y= .int k i) (h0:0<=i) (h1:i<n):
 (execOp (ev f) ⟨dst,.indexAddr t x y,ty,pos,aft,g⟩).run P w= .ok (.value (.pointer (some ⟨b,o+i.toNat*size,none⟩))) w:=by
 obtain⟨ii,hi,_,hs,_⟩:=ht.ex
 simp[execOp,hx,hy,Instr.indexAt,asIntOf,run_underlying hu,sizeOf,typeInfo,hi,hs,h0,h1,iA]
theorem aCy {k:IntKind} {A:Option Addr} {n c size bytes:Nat} {h:Int} {zz:Value} (hu:P.underlying t=some (.slice e)) (ht:TyI P e size bytes zz) (hx:ev f x= .slice A n c) (hy:ev f y= .int k h) (h0:0<=h) (h1:h<=c):
 (execOp (ev f) ⟨dst,.slice t x none (some y) none,ty,pos,aft,g⟩).run P w= .ok (.value (.slice A h.toNat c)) w:=by
 obtain⟨ii,hi,_,hs,_⟩:=ht.ex
 have hz:∀o:Option Addr,(o.map λa=>a.add 0)=o:=λo=>by cases o<;>simp[Addr.add]
 simp[execOp,hx,hy,Instr.sliceAt,Instr.slice,Instr.sliceBounds,Instr.sliceBound,asIntOf,run_underlying hu,sizeOf,typeInfo,hi,hs,h0,h1,hz]
theorem aCz {k:IntKind} {A:Option Addr} {n c size bytes:Nat} {l:Int} {zz:Value} (hu:P.underlying t=some (.slice e)) (ht:TyI P e size bytes zz) (hx:ev f x= .slice A n c) (hy:ev f y= .int k l) (h0:0<=l) (h1:l<=n):
 (execOp (ev f) ⟨dst,.slice t x (some y) none none,ty,pos,aft,g⟩).run P w= .ok (.value (.slice (if c=l.toNat then A else A.map (·.add (l.toNat*size))) (n-l.toNat) (c-l.toNat))) w:=by
 obtain⟨ii,hi,_,hs,_⟩:=ht.ex
 simp[execOp,hx,hy,Instr.sliceAt,Instr.slice,Instr.sliceBounds,Instr.sliceBound,asIntOf,run_underlying hu,sizeOf,typeInfo,hi,hs,h0,h1]
theorem aOl {k k':IntKind} {A:Option Addr} {n c size bytes:Nat} {l h:Int} {zz:Value} (hu:P.underlying t=some (.slice e)) (ht:TyI P e size bytes zz) (hx:ev f x= .slice A n c) (hy:ev f y= .int k l) (hz:ev f z= .int k' h) (h0:0<=l) (h1:l<=h) (h2:h<=c):
 (execOp (ev f) ⟨dst,.slice t x (some y) (some z) none,ty,pos,aft,g⟩).run P w= .ok (.value (.slice (if c=l.toNat then A else A.map (·.add (l.toNat*size))) (h.toNat-l.toNat) (c-l.toNat))) w:=by
 obtain⟨ii,hi,_,hs,_⟩:=ht.ex
 have h3:0<=h:=by omega
 have h4:l<=(h.toNat:Int):=by omega
 simp[execOp,hx,hy,hz,Instr.sliceAt,Instr.slice,Instr.sliceBounds,Instr.sliceBound,asIntOf,run_underlying hu,sizeOf,typeInfo,hi,hs,h0,h1,h2,h3]
 intro hh
 omega
end ops
/-! ### operations that make or write memory -/
def Run (P:Program) (f:Nat->Value) (o:Oper) (w:World) (R:Value->World->Prop):Prop:=∃v w',(execOp (ev f) o).run P w= .ok (.value v) w'/\R v w'
def aVb (P:Program) (f:Nat->Value) (o:Oper) (w:World) (R:World->Prop):Prop:=∃w',(execOp (ev f) o).run P w= .ok .skip w'/\R w'
section
variable {P:Program} {n:Nat} {Q:Po} {f:Nat->Value} {w w':World} {ops:Array Oper} {o:Oper} {rest:List Oper} {d:Nat} {R:Value->World->Prop} {R0:World->Prop}
theorem RL.run (hg:o.guard=none) (hd:o.dst=some d) (hn:d<n) (hr:Run P f o w R) (h:∀v w',R v w'->RL P n ops rest Q (st f d v) w'):RL P n ops (o::rest) Q f w:=by
 obtain⟨v,w',hr,hR⟩:=hr
 exact RL.val hg hd hn hr (h v w' hR)
theorem RL.runs (hg:o.guard=none) (hd:o.dst=none) (hr:aVb P f o w R0) (h:∀w',R0 w'->RL P n ops rest Q f w'):RL P n ops (o::rest) Q f w:=by
 obtain⟨w',hr,hR⟩:=hr
 exact RL.skip hg hd hr (h w' hR)
variable {S:World->Prop} {fuel:Nat} {listed:Array Bool} {i:Nat} {rs:List Nat}
theorem RS.run (hi:ops[i]? =some o) (hg:o.guard=none) (hd:o.dst=some d) (hn:d<n) (hr:Run P f o w R) (h:∀v w',R v w'->Oks ops S i w w'/\RA P n ops Q S fuel (listed.setIfInBounds i true) (st f d v) w')
 (hs:RS P n ops Q S fuel listed f w rs):RS P n ops Q S fuel listed f w (i::rs):=by
 obtain⟨v,w',hr,hR⟩:=hr
 exact RS.val hi hg hd hn hr (h v w' hR).1 (h v w' hR).2 hs
theorem RS.runs (hi:ops[i]? =some o) (hg:o.guard=none) (hd:o.dst=none) (hr:aVb P f o w R0) (h:∀w',R0 w'->Oks ops S i w w'/\RA P n ops Q S fuel (listed.setIfInBounds i true) f w')
 (hs:RS P n ops Q S fuel listed f w rs):RS P n ops Q S fuel listed f w (i::rs):=by
 obtain⟨w',hr,hR⟩:=hr
 exact RS.skip hi hg hd hr (h w' hR).1 (h w' hR).2 hs
end
def spl (l:List Value) (o:Nat) (vs:List Value):List Value:=l.take o++vs++l.drop (o+vs.length)
section heavy
variable {P:Program} {f:Nat->Value} {w:World} {dst:Option Tmp} {ty:TypeId} {pos:String} {aft:Array Edge} {g:Option (Nat×Bool)} {x y z:Operand} {t t' e:TypeId}
theorem oE (w:World) (o:Obj):Ext w (w.alloc o):=(Below.refl _ _).alloc (aI _) o
theorem xX (w:World) (T:TypeId) (l:List Value):Bk (w.alloc (.cells l.toArray T)) w.heap.size T l:=heap_alloc_new w _
def Mk (w:World) (T:TypeId) (l:List Value) (b:Nat) (w':World):Prop:=b=w.heap.size/\Bk w' b T l/\Ext w w'
theorem aWs {vv:Value} {cs:List Value} (hx:ev f x=vv) (hc:vv.cells=cs.toArray):Run P f ⟨dst,.box t x,ty,pos,aft,g⟩ w λv w'=>∃b,v= .pointer (some ⟨b,0,none⟩)/\Mk w t cs b w':=
 ⟨_,_,by simp[execOp,hx,Instr.box,newVar,newRow,hc],_,rfl,rfl,xX w t cs,oE w _⟩
theorem jA {size bytes:Nat} {zz:Value} {cs:List Value} (ht:TyI P t size bytes zz) (hc:zz.cells=cs.toArray):Run P f ⟨dst,.alloc t,ty,pos,aft,g⟩ w λv w'=>∃b,v= .pointer (some ⟨b,0,none⟩)/\Mk w t cs b w':=by
 obtain⟨i,hi,hz,_,_⟩:=ht.ex
 exact⟨_,_,by simp[execOp,Instr.alloc,zeroValue,typeInfo,hi,hz,newVar,newRow,hc],_,rfl,rfl,xX w t cs,oE w _⟩
theorem wX (w:World) (b:Nat) (cs:Array Value):Exc b w (w.setRow b cs):=
 ⟨rfl,rfl,rfl,by simp[World.setRow],λk _ hne=>by simp[World.setRow,Array.getElem?_modify,iQ hne]⟩
theorem zN {T:TypeId} {b o:Nat} {l:List Value} {vv:Value} {cs:List Value} {size bytes:Nat} {zz:Value} (ht:TyI P t size bytes zz) (hx:ev f x= .pointer (some ⟨b,o,none⟩)) (hy:ev f y=vv) (hc:vv.cells=cs.toArray) (hs:cs.length=size)
 (h1:∀u∈cs,u.oneCell'=true) (hb:Bk w b T l) (hfit:o+cs.length<=l.length):
 aVb P f ⟨dst,.store t x y,ty,pos,aft,g⟩ w λw'=>Bk w' b T (spl l o cs)/\Exc b w w'/\w'.heap.size=w.heap.size:=by
 obtain⟨i,hi,_,hsz,_⟩:=ht.ex
 have hst:=run_storeCells_at P b o T cs 0 l.toArray w hb (by simpa using hfit) h1
 simp only[jG] at hst
 refine⟨w.setRow b (spl l o cs).toArray,?_,?_,wX _ _ _,by simp[World.setRow]⟩
 ·simp[execOp,hx,hy,Instr.storeAt,Instr.sureAddr,storeVar,hc,hs,hsz,sizeOf,typeInfo,hi,hst,spl]
 exact setRow_heap w b l.toArray _ T (0,0) hb
end heavy
end Go.Vg
abbrev aB := @Go.Vg.Ext.trans
abbrev gE := @Go.Vg.Ext.refl
abbrev aH := @Go.Vg.Sm.ext
abbrev fC := @Go.Vg.RL.runs
namespace Go.Vg
open Go.RowKit
section calls
variable {P:Program} {n:Nat} {f:Nat->Value} {w:World}
def bMf (P:Program) (f:Nat->Value) (w:World):ResultVar->Value->Prop
 |.tmp t,v=>v=f t
 |.cell a T,v=>∃b o cs,f a= .pointer (some ⟨b,o,none⟩)/\(∃d,P.underlying T=some d)/\(∀j u,cs[j]? =some u->w.cell? ⟨b,o+j,none⟩=some u)/\
  ((wW P T=true/\(∃by' z,TyI P T cs.length by' z)/\v= .agg cs.toArray)\/(wW P T=false/\cs=[v]))
def aJf (P:Program) (f:Nat->Value) (w:World):List ResultVar->List Value->Prop
 |[],[]=>True
 |r::rs,v::vs=>bMf P f w r v/\aJf P f w rs vs
 |_,_=>False
def aFs:List Value->Value
 |[v]=>v
 |vs=> .tuple vs.toArray
def rdv (tmps:Array Value):ResultVar->Sem Value
 |.tmp t=>pure (tmps.getD t undef)
 |.cell ad T=>do loadVar T (<-asAddr (tmps.getD ad undef))
theorem aWt {dl:List Deferred} {a:Act} (ha:Fm dl n f a) {r:ResultVar} {v:Value} (h:bMf P f w r v):
 (rdv a.tmps r).run P w= .ok v w:=by
 cases r with
 |tmp t=>
  have h':v=f t:=h
  rw[h',<-ha.2.2 t]
  rfl
 |cell ad T=>
  obtain⟨b,o,cs,h1,⟨d,hd⟩,h2,h3⟩:=h
  have e:=ha.2.2 ad
  rw[h1] at e
  simp only[rdv,e]
  have hl:=run_loadCells_list (P:=P) w (⟨b,o,none⟩:Addr) cs (λj u hj=>by rw[iA];exact h2 j u hj)
  rcases h3 with ⟨hb,⟨by',z,ht⟩,rfl⟩|⟨hb,rfl⟩
  ·obtain⟨i,hi,_,hs,_⟩:=ht.ex
   simp[asAddr,loadVar,tP hd,hb,sizeOf,typeInfo,hi,hs,hl]
  have hc:=h2 0 v rfl
  simp only[jG] at hc
  simp[asAddr,loadVar,tP hd,hb,load,Sem.run,hc]
theorem aFt {dl:List Deferred} {a:Act} (ha:Fm dl n f a):∀{rs:List ResultVar} {vs:List Value},aJf P f w rs vs->
 (rs.mapM (rdv a.tmps)).run P w= .ok vs w
 |[],[],_=>by simp
 |r::rs,v::vs,h=>by
  have h1:=aWt ha h.1
  have h2:=aFt ha h.2
  rw[List.mapM_cons]
  simp only[Sem.run_bind,h1,h2,Result.andThen_ok,Sem.run_pure]
 |[],_::_,h=>h.elim
 |_::_,[],h=>h.elim
theorem eE {k:FuncId} {fn:Func} {c:Code} {args:Array Value} {rs:List ResultVar} {R:Value->World->Prop} (hf:P.funcs[k]? =some fn) (hb:fn.body=some c) (hn:fn.ntmps=n) (hr:fn.results=rs.toArray) (hsz:args.size<=n)
 (h:WP P n c ⟨λf w=>∃vs,aJf P f w rs vs/\R (aFs vs) w,λ_ _ _=>False,λf w=>∃vs,aJf P f w rs vs/\R (aFs vs) w⟩ (λi=>args.getD i undef) w):
 Calls P k args w λe w'=>∃v,e= .returned v/\R v w':=by
 have ha0:Fm [] n (λi=>args.getD i undef) {tmps:=args++Array.replicate (fn.ntmps-args.size) undef,defers:=[]}:=by
  refine⟨rfl,by simp[hn];omega,λi=>?_⟩
  by_cases h1:i<args.size
  ·simp[Array.getD,h1,uK,bH h1 (wS _ _)]
  by_cases h2:i<n
  ·have h3:i<args.size+(fn.ntmps-args.size):=by omega
   simp only[Array.getD,rA,oZ,h3,h1,dite_true,dite_false]
   simp[Array.getElem_append,h1]
  have h3:¬i<args.size+(fn.ntmps-args.size):=by omega
  simp only[Array.getD,rA,oZ,h3,h1,dite_false]
 have fin:∀(a:Act) (f:Nat->Value) (w:World),Fm [] n f a->(∃vs,aJf P f w rs vs/\R (aFs vs) w)->a.defers=[]/\∃v,(results fn a.tmps).run P w= .ok v w/\∃u,Ending.returned v= .returned u/\R u w:=by
  intro a f w ha ⟨vs,hv,hR⟩
  refine⟨ha.1,aFs vs,?_,_,rfl,hR⟩
  have h1:=aFt ha hv
  have e:results fn a.tmps=(do let vs <-fn.results.mapM (rdv a.tmps);pure (if h:vs.size=1 then vs[0] else .tuple vs)):=rfl
  rw[e,hr,vC]
  simp only[Sem.run_bind,Sem.run_map,h1,Result.andThen_ok,Sem.run_pure]
  congr 1
  match vs with
  |[]=>rfl
  |[v]=>rfl
  |v::u::vs=>simp[aFs]
 refine calls_of_wp hf hb (wp_mono (wpIn_wide.1 (h none [] _ ha0)) λe a w hq=>?_)
 cases e with
 |normal=>obtain⟨f,hf,hh⟩:=hq;exact fin a f w hf hh
 |ret=>obtain⟨f,hf,hh⟩:=hq;exact fin a f w hf hh
 |exit i=>obtain⟨f,hf,hh⟩:=hq;exact hh.elim
 |goto l=>exact hq.elim
 |panic c=>exact hq.elim
 |outgrown=>exact hq.elim
theorem iU {c:Code} {Q:Po} (h:∀F,(∀i,F i=f i)->WP P n c Q F w):WP P n c Q f w:=h f λ_=>rfl
end calls
def rg:Nat->Nat->List Nat->List Nat
 |_,0,l=>l
 |a,n+1,l=>a::rg (a+1) n l
def Off (M:List Nat) (F f:Nat->Value):Prop:=∀i,M.contains i=false->f i=F i
theorem Off.refl (M:List Nat) (F:Nat->Value):Off M F F:=λ_ _=>rfl
theorem Off.st {M:List Nat} {F f:Nat->Value} (h:Off M F f) {d:Nat} (hd:M.contains d=true) (v:Value):Off M F (st f d v):=λi hi=>by
 have hne:i≠d:=λe=>by subst e;rw[hd] at hi;cases hi
 rw[qO _ _ _ _ hne]
 exact h i hi
theorem Off.eq {M:List Nat} {G F f:Nat->Value} (hF:∀i,F i=f i) (h:Off M G f):Off M G F:=λi hi=>(hF i).trans (h i hi)
theorem Off.via {M M':List Nat} {G F f:Nat->Value} (h':Off M' F f) (hM:(M'.all λi=>M.contains i)=true) (h:Off M G F):Off M G f:=λi hi=>by
 refine(h' i ?_).trans (h i hi)
 cases hc:M'.contains i with
 |false=>rfl
 |true=>
  have:=aZ.1 hM i (by simpa using hc)
  rw[this] at hi
  cases hi
theorem cQ {k:IntKind} {a b:Int} (h:a=b):Value.int k a= .int k b:=by rw[h]
theorem aW {a b:Bool} (h:a=b):Value.bool a= .bool b:=by rw[h]
theorem aHy (z:Value) (n:Nat) (h:z.cells=#[z]):(madeCells z.cells n).toList=List.replicate n z:=by
 rw[h]
 apply nK
 ·simp[madeCells]
 intro i h1 h2
 simp[madeCells,Nat.mod_one]
theorem aIe (z:Array Value) (n:Nat):(madeCells z (n*z.size)).toList=(List.replicate n z.toList).flatten:=by
 induction n with
 |zero=>simp[madeCells]
 |succ n ih=>
  rw[sK,lC,<-ih]
  apply nK
  ·simp[madeCells,dW]
  intro i h1 h2
  simp only[madeCells,Array.toList_map,Array.toList_range,wT,List.getElem_range,oJ,List.flatten_nil,gB] at*
  by_cases hi:i<n*z.size
  ·rw[List.getElem_append_left (by simpa using hi)]
   simp
  rw[List.getElem_append_right (by simpa using hi)]
  simp only[bV,oK]
  have h3:i<n*z.size+z.size:=by simpa[madeCells,dW] using h1
  have h4:i%z.size=i-n*z.size:=by
   obtain⟨k,rfl⟩:∃k,i=n*z.size+k:=⟨i-n*z.size,by omega⟩
   rw[bO,Nat.mul_add_mod,cW oM]
   omega
  rw[h4,getElem!_pos z (i-n*z.size) oM]
  simp
theorem aIf {b n:Nat} (h:b*n<=281474976710656):(b:Int)*(n:Int)<=281474976710656:=by
 have:((b*n:Nat):Int)<=281474976710656:=by omega
 rwa [dH] at this
section heavy
variable {P:Program} {f:Nat->Value} {w:World} {dst:Option Tmp} {ty:TypeId} {pos:String} {aft:Array Edge} {g:Option (Nat×Bool)} {x y z:Operand} {t t' e:TypeId} {D:Nat->TypeId->Prop}
theorem uS {k k':IntKind} {n:Nat} {zz:Value} {bytes:Nat} (hu:P.underlying t=some (.slice e)) (ht:TyI P e 1 bytes zz) (hz:zz.cells=#[zz]) (hx:ev f x= .int k (n:Int)) (hy:ev f y= .int k' (n:Int)) (hb:bytes*n<=281474976710656) (h63:n<=9223372036854775807):
 Run P f ⟨dst,.makeSlice t x y,ty,pos,aft,g⟩ w λv w'=>∃b,v= .slice (some ⟨b,0,none⟩) n n/\Mk w e (List.replicate n zz) b w':=by
 obtain⟨i,hi,hzi,hs,hby⟩:=ht.ex
 have hr:=run_make (P:=P) w t e i zz hu hi hzi k k' n n oM (Int.le_refl _) (by rw[hby];exact aIf hb) oM
 simp only[bP,hs,dF] at hr
 refine⟨.slice (some ⟨w.heap.size,0,none⟩) n n,w.alloc (.cells (madeCells zz.cells n) e),by simp only[execOp,hx,hy,Sem.run_bind,hr,Result.andThen_ok,Sem.run_pure],_,rfl,rfl,?_,oE w _⟩
 have h:=xX w e (List.replicate n zz)
 rw[<-aHy zz n hz] at h ⊢
 simpa using h
theorem aWu {k k':IntKind} {n c:Nat} {zz:Value} {size bytes:Nat} (hu:P.underlying t=some (.slice e)) (ht:TyI P e size bytes zz) (hz:zz.cells.size=size) (hx:ev f x= .int k (n:Int)) (hy:ev f y= .int k' (c:Int)) (hnc:n<=c) (hb:bytes*c<=281474976710656) (h63:c<=9223372036854775807):
 Run P f ⟨dst,.makeSlice t x y,ty,pos,aft,g⟩ w λv w'=>∃b,v= .slice (some ⟨b,0,none⟩) n c/\Mk w e (List.replicate c zz.cells.toList).flatten b w':=by
 obtain⟨i,hi,hzi,hs,hby⟩:=ht.ex
 have hr:=run_make (P:=P) w t e i zz hu hi hzi k k' n c oM oM (by rw[hby];exact aIf hb) oM
 simp only[bP,hs,<-hz] at hr
 refine⟨.slice (some ⟨w.heap.size,0,none⟩) n c,w.alloc (.cells (madeCells zz.cells (c*zz.cells.size)) e),by simp only[execOp,hx,hy,Sem.run_bind,hr,Result.andThen_ok,Sem.run_pure],_,rfl,rfl,?_,oE w _⟩
 have h:=xX w e (List.replicate c zz.cells.toList).flatten
 rw[<-aIe] at h ⊢
 simpa using h
theorem aMc {len size bytes:Nat} {zz:Value} {al:List (Nat×Operand)} {vl:List (Nat×Value)} {cs:List Value} (hu:P.underlying t=some (.slice e)) (ht:TyI P e size bytes zz) (ha:al.map (λp=>(p.1,ev f p.2))=vl) (hbig:len*size<=16777216)
 (hf:Instr.fill (λi=>some (i*size,size)) ((Array.range (len*size)).map ((if len*size=0 then #[] else zz.cells)[·%(if len*size=0 then #[] else zz.cells).size]!)) vl=some cs.toArray):
 Run P f ⟨dst,.buildSlice t len al.toArray,ty,pos,aft,g⟩ w λv w'=>∃b,v= .slice (some ⟨b,0,none⟩) len len/\Mk w e cs b w':=by
 obtain⟨i,hi,hzi,hs,hby⟩:=ht.ex
 subst ha
 have hn:¬(16777216<len*size):=by omega
 refine⟨.slice (some ⟨w.heap.size,0,none⟩) len len,w.alloc (.cells cs.toArray e),?_,_,rfl,rfl,xX w e cs,oE w _⟩
 by_cases h0:len*size=0
 ·simp only[h0,if_true] at hf
  simp[execOp,Instr.buildSlice,run_underlying hu,sizeOf,typeInfo,hi,hs,h0,newRow]
  try simp at hf
  simp[hf]
 simp only[h0,if_false] at hf
 simp[execOp,Instr.buildSlice,run_underlying hu,sizeOf,typeInfo,hi,hs,h0,hn,zeroValue,hzi,newRow]
 try simp at hf
 simp[hf]
theorem mQ {al:List (Nat×Operand)} {vl:List (Nat×Value)} {fs:Array Field} {pl:Array (Nat×Nat)} {zz:Value} {size bytes:Nat} {cs:List Value} (hu:P.underlying t=some (.struct fs)) (ht:TyI P t size bytes zz) (ha:al.map (λp=>(p.1,ev f p.2))=vl)
 (hp:∀w,(fs.mapM λ(fl:Field)=>(do pure (fl.offset,<-sizeOf fl.type):Sem (Nat×Nat))).run P w= .ok pl w) (hf:Instr.fill (pl[·]?) zz.cells vl=some cs.toArray):
 (execOp (ev f) ⟨dst,.build t al.toArray,ty,pos,aft,g⟩).run P w= .ok (.value (.agg cs.toArray)) w:=by
 obtain⟨i,hi,hzi,hs,hby⟩:=ht.ex
 subst ha
 have hzv:(zeroValue t).run P w= .ok zz w:=by simp[zeroValue,typeInfo,hi,hzi]
 simp only[execOp,Instr.build,Sem.run_bind,hzv,Result.andThen_ok,run_underlying hu,hp,List.map_toArray]
 rw[hf]
 simp
/-! append onto a slice of one's own -/
abbrev Ow (w:World) (lo:Nat) (e:TypeId) (size:Nat) (v:Value) (n:Nat) (l:List Value):Prop:=w.ownsRow lo e size v n l
theorem Ow.sc {lo size n:Nat} {v:Value} {l:List Value} (h:Ow w lo e size v n l) (hD:∀b,lo<=b->D b e):Sc D w size v n l:=by
 obtain⟨h1,h2⟩:=h
 rcases h2 with ⟨rfl,rfl⟩|⟨b,cap,cur,rfl,hb,hh,hc,hm,hs,ht⟩
 ·exact⟨none,0,rfl,aI _,by simp[maxLen],h1,.inl (bX (by simpa using h1))⟩
 refine⟨some ⟨b,0,none⟩,cap,rfl,hc,hm,h1,.inr ⟨b,0,rfl,.inr ⟨cur,e,(0,0),hh,hD b hb,λj u hj=>?_⟩⟩⟩
 rw[<-ht,iE] at hj
 split at hj
 ·simpa using hj
 cases hj
theorem Ow.below {w0 w':World} {B lo size n:Nat} {v:Value} {l:List Value} (h:Ow w lo e size v n l) (hg:w.grownBy w' v.ownBlock) (hE:Below B w0 w) (hB:B<=lo) (hs:B<=w.heap.size):Below B w0 w':=
 hE.grown hg hs (λk hk=>by have:=h.lt k hk;omega)
theorem Ow.ext {w':World} {lo size n:Nat} {v:Value} {l:List Value} (h:Ow w lo e size v n l) (hE:Ext w w'):Ow w' lo e size v n l:=
 h.kept (row:=none) ⟨hE.os,hE.tape,hE.output,hE.size,λk hk _=>hE.block k hk⟩ (by cases hv:v.ownBlock<;>simp)
theorem Ow.mono {lo lo' size n:Nat} {v:Value} {l:List Value} (h:Ow w lo e size v n l) (hl:lo'<=lo):Ow w lo' e size v n l:=by
 refine⟨h.1,h.2.imp id ?_⟩
 rintro⟨b,cap,cur,h1,h2,h3⟩
 exact⟨b,cap,cur,h1,by omega,h3⟩
theorem Ow.nil (lo size:Nat):Ow w lo e size (.slice none 0 0) 0 []:=⟨by simp,.inl ⟨rfl,rfl⟩⟩
theorem bMg {b o dl dc n m size bytes:Nat} {zz v2:Value} {l cs:List Value} (hu:P.underlying t=some (.slice e)) (ht:TyI P e size bytes zz) (hx:ev f x= .slice (some ⟨b,o,none⟩) dl dc) (hy:ev f y=v2)
 (hb:Bk w b e l) (hs:Sc D w size v2 m cs) (hm:m<=dl) (hn:n=m) (h1:∀u∈cs,u.oneCell'=true) (hfit:o+cs.length<=l.length):
 Run P f ⟨dst,.call ⟨.builtin .copy,#[x,y],#[t,t']⟩,ty,pos,aft,g⟩ w λv w'=>v= .int .i64 n/\Bk w' b e (spl l o cs)/\Exc b w w':=by
 obtain⟨i,hi,hzi,hsi,hbi⟩:=ht.ex
 obtain⟨A,c,rfl,hmc,hcm,hl,hA⟩:=hs
 subst hn
 have hmin:min n dl=n:=fI hm
 refine⟨.int .i64 n,w.setRow b (spl l o cs).toArray,?_,rfl,setRow_heap w b l.toArray _ e (0,0) hb,wX _ _ _⟩
 have hst:=run_storeCells_at P b o e cs 0 l.toArray w hb (by simpa using hfit) h1
 simp only[jG] at hst
 have hfc:(Builtin.firstCells size n (.slice A n c)).run P w= .ok cs.toArray w:=by
  rcases hA with rfl|⟨b',o',rfl,hrd⟩
  ·cases A with
   |none=>simp[Builtin.firstCells]
   |some ad=>
    have:=run_loadCells_list (P:=P) w ad [] (by simp)
    simp only[Builtin.firstCells,<-hl]
    simpa using this
  have:=run_loadCells_list (P:=P) w ⟨b',o',none⟩ cs (λj u hj=>by rw[iA];exact hrd.cell hj)
  simp only[Builtin.firstCells,<-hl]
  exact this
 simp[execOp,resolve,invoke,builtin,Builtin.copy_,hx,hy,run_underlying hu,Builtin.lenOf,sizeOf,typeInfo,hi,hsi,hmin,hfc,hst,goInt,spl]
end heavy
end Go.Vg
namespace Go.Vg
open Go.RowKit
def Sg {α:Type} (g:α->Value) (D:Nat->TypeId->Prop) (w:World) (v:Value) (xs:List α):Prop:=Sc D w 1 v xs.length (xs.map g)
def Ar {α:Type} (g:α->Value) (w:World) (b:Nat) (T:TypeId) (o:Nat) (xs:List α) (n:Nat):Prop:=(∃pre post,pre.length=o/\Bk w b T (pre++xs.map g++post))/\xs.length=n
abbrev gN (k:IntKind):Nat->Value:=λz=> .int k (z:Int)
section
variable {α:Type} {g:α->Value} {D D':Nat->TypeId->Prop} {w w':World} {v:Value} {xs:List α} {b n:Nat} {T:TypeId}
theorem Sg.tr (h:Sg g D w v xs) (hs:Sm D w w'):Sg g D w' v xs:=Sc.tr h hs
theorem Sg.mono (h:Sg g D w v xs) (hD:∀b T,D b T->D' b T):Sg g D' w v xs:=Sc.mono h hD
theorem Sg.nil:Sg g D w (.slice none 0 0) []:=Sc.nil
theorem Sg.len (h:Sg g D w v xs):∃A c,v= .slice A xs.length c/\xs.length<=c/\c<=9223372036854775807:=by
 obtain⟨A,c,rfl,h1,h2,_⟩:=h
 exact⟨A,c,rfl,h1,by simpa[maxLen] using h2⟩
theorem Sg.ix [Inhabited α] (h:Sg g D w v xs) {i:Int} (k:Nat) (hi:i=(k:Int)) (hk:k<xs.length):
 ∃bb o c,v= .slice (some ⟨bb,o,none⟩) xs.length c/\w.cell? ⟨bb,o+i.toNat*1,none⟩=some (g (xs.getD k default)):=by
 obtain⟨A,c,rfl,h1,h2,h3,h4⟩:=h
 subst hi
 rcases h4 with h4|⟨bb,o,rfl,hr⟩
 ·have:xs=[]:=lD.1 h4
  subst this
  simp at hk
 refine⟨bb,o,c,rfl,?_⟩
 have:=hr.cell (j:=k) (u:=g (xs.getD k default)) (by simp[hk])
 simpa using this
theorem Sg.take (h:Sg g D w v xs) (k:Nat) (hk:k<=xs.length) {A:Option Addr} {m c:Nat} (hv:v= .slice A m c):Sg g D w (.slice A k c) (xs.take k):=by
 obtain⟨A',c',rfl,h1,h2,h3,h4⟩:=h
 injection hv with e1 e2 e3
 subst e1 e2 e3
 have hl:(xs.take k).length=k:=by simp[hk]
 refine⟨A',c',by rw[hl],by omega,h2,by simp,?_⟩
 rcases h4 with h4|⟨bb,o,rfl,hr⟩
 ·have:xs=[]:=lD.1 h4
  subst this
  exact .inl (by simp)
 exact .inr ⟨bb,o,rfl,by rw[List.map_take];exact hr.take k⟩
theorem Sg.drop (h:Sg g D w v xs) (k:Nat) (hk:k<=xs.length) {A:Option Addr} {m c:Nat} (hv:v= .slice A m c):Sg g D w (.slice (if c=k then A else A.map (·.add (k*1))) (m-k) (c-k)) (xs.drop k):=by
 obtain⟨A',c',rfl,h1,h2,h3,h4⟩:=h
 injection hv with e1 e2 e3
 subst e1 e2 e3
 have hl:(xs.drop k).length=xs.length-k:=by simp
 refine⟨_,_,by rw[hl],by omega,by omega,by simp,?_⟩
 by_cases hx:xs.drop k=[]
 ·exact .inl (by rw[hx];rfl)
 rcases h4 with h4|⟨bb,o,rfl,hr⟩
 ·have:xs=[]:=lD.1 h4
  subst this
  exact absurd (by simp) hx
 have hlt:k<xs.length:=by
  rcases eY k xs.length with h|h
  ·exact h
  exact absurd (cB h) hx
 rw[if_neg oM]
 refine .inr ⟨bb,o+k,?_,by rw[sA];exact hr.drop k⟩
 simp[iA]
theorem Ar.ext {o:Nat} (h:Ar g w b T o xs n) (e:Ext w w'):Ar g w' b T o xs n:=by
 obtain⟨⟨pre,post,h1,h2⟩,h3⟩:=h
 exact⟨⟨pre,post,h1,h2.ext e⟩,h3⟩
theorem Ar.exc {o b0:Nat} (h:Ar g w b T o xs n) (e:Exc b0 w w') (hne:b≠b0):Ar g w' b T o xs n:=by
 obtain⟨⟨pre,post,h1,h2⟩,h3⟩:=h
 exact⟨⟨pre,post,h1,h2.exc e hne⟩,h3⟩
theorem Ar.lt {o:Nat} (h:Ar g w b T o xs n):b<w.heap.size:=by
 obtain⟨⟨pre,post,h1,h2⟩,h3⟩:=h
 exact h2.lt
theorem Ar.cell [Inhabited α] {o:Nat} (h:Ar g w b T o xs n) {i:Int} (k:Nat) (hi:i=(k:Int)) (hk:k<n):w.cell? ⟨b,o+i.toNat*1,none⟩=some (g (xs.getD k default)):=by
 obtain⟨⟨pre,post,h1,h2⟩,h3⟩:=h
 subst hi h1
 have hk':k<xs.length:=by rw[h3];exact hk
 refine h2.cell (j:=pre.length+(k:Int).toNat*1) ?_
 rw[bP,dF,eF,cO oM]
 rw[nM,bW (by simpa using hk')]
 simp[hk']
theorem Ar.sc {o c:Nat} (h:Ar g w b T o xs n) (hc:n<=c) (hm:c<=9223372036854775807) (hd:D b T):Sg g D w (.slice (some ⟨b,o,none⟩) n c) xs:=by
 obtain⟨⟨pre,post,h1,h2⟩,h3⟩:=h
 refine⟨_,c,by rw[h3],by rw[h3];exact hc,by simpa[maxLen] using hm,by simp,.inr ⟨b,o,rfl,.inr ⟨_,T,(0,0),h2,hd,λj u hj=>?_⟩⟩⟩
 subst h1
 have hj':j<(xs.map g).length:=by
  rcases eY j (xs.map g).length with h|h
  ·exact h
  rw[rJ h] at hj;cases hj
 simp only[List.getElem?_toArray]
 rw[eF,cO oM,nM,bW hj']
 exact hj
theorem Ar.made {z:α} {zz:Value} (hb:Bk w b T (List.replicate n zz)) (hz:g z=zz):Ar g w b T 0 (List.replicate n z) n:=⟨⟨[],[],rfl,by rw[List.map_replicate,hz];simpa using hb⟩,by simp⟩
end
section
variable {P:Program} {f:Nat->Value} {w:World} {dst:Option Tmp} {ty:TypeId} {pos:String} {aft:Array Edge} {gd:Option (Nat×Bool)} {x y z:Operand} {t e:TypeId}
theorem aRw {α:Type} (g:α->Value) (pre post:List Value) (xs:List α) (k:Nat) (u:α) (hk:k<xs.length):spl (pre++xs.map g++post) (pre.length+k*1) [g u]=pre++(xs.set k u).map g++post:=by
 unfold spl
 rw[List.map_set,jR]
 rw[if_pos (by simpa using hk),dF]
 rw[eF pre,List.take_append,wU]
 have e1:pre.take (pre.length+k)=pre:=bU oM
 have e2:pre.drop (pre.length+k+[g u].length)=[]:=cB (by simp;omega)
 have e3:pre.length+k-pre.length=k:=by omega
 have e4:pre.length+k+[g u].length-pre.length=k+1:=by simp;omega
 rw[e1,e2,e3,e4,fM (by simp;omega),jB (by simp;omega)]
 simp
theorem aAg {α:Type} {g:α->Value} {T:TypeId} {b o n bytes:Nat} {xs:List α} {u:α} {i:Int} {vv zz:Value} (ht:TyI P t 1 bytes zz) (hx:ev f x= .pointer (some ⟨b,o+i.toNat*1,none⟩)) (hy:ev f y=vv) (hv:vv=g u) (hc:(g u).cells=#[g u]) (h1:(g u).oneCell'=true)
 (ha:Ar g w b T o xs n) (k:Nat) (hi:i=(k:Int)) (hk:k<n):
 aVb P f ⟨dst,.store t x y,ty,pos,aft,gd⟩ w λw'=>Ar g w' b T o (xs.set k u) n/\Exc b w w':=by
 obtain⟨⟨pre,post,h2,h3⟩,h4⟩:=ha
 subst hi hv h2
 have hk':k<xs.length:=by rw[h4];exact hk
 obtain⟨w',hr,h5,h6,_⟩:=zN (P:=P) (f:=f) (dst:=dst) (ty:=ty) (pos:=pos) (aft:=aft) (g:=gd) (cs:=[g u]) ht hx hy hc rfl (by simpa using h1) h3 (by simp;omega)
 refine⟨w',hr,⟨⟨pre,post,rfl,?_⟩,by simpa using h4⟩,h6⟩
 have e:((k:Int)).toNat=k:=bP k
 rw[e,aRw g pre post xs k u hk'] at h5
 exact h5
end
end Go.Vg
namespace Go.Vg
theorem Ent.of {P:Program} {k:FuncId} {fn:Func} (hf:P.funcs[k]? =some fn) (hb:fn.body.isNone=false) (hn:(fn.name== "runtime.NumGoroutine")=false):Ent P k:=λargs w=>by
 unfold callFunc
 simp only[Sem.run_bind]
 rw[show(program).run P w= .ok P w from rfl]
 simp only[Result.andThen_ok,hf,hn,hb,iD,if_false,Sem.run_pure]
theorem Bk.cells {w:World} {b:Nat} {T:TypeId} {l:List Value} (h:Bk w b T l) {o:Nat} {cs:List Value} (hc:(l.drop o).take cs.length=cs):∀j u,cs[j]? =some u->w.cell? ⟨b,o+j,none⟩=some u:=λj u hj=>by
 refine h.cell ?_
 rw[<-hc,iE] at hj
 split at hj
 ·rwa [eQ] at hj
 cases hj
end Go.Vg
namespace Go.Vg
theorem fH {w u:World} {p:Addr} {v:Value} (hu:Ext w u) (h:w.cell? p=some v):u.cell? p=some v:=(hu.cell (World.block_lt_of_cell? w p h)).trans h
end Go.Vg
abbrev bI := @Go.Vg.Ent.of
namespace Go.Vg
open Go.RowKit
def Ss {α:Type} (c:α->List Value) (size:Nat) (D:Nat->TypeId->Prop) (w:World) (v:Value) (xs:List α):Prop:=
 (0<size/\∀x∈xs,(c x).length=size)/\Sc D w size v xs.length (xs.map c).flatten
section
variable {α:Type} {c:α->List Value} {size:Nat} {D D':Nat->TypeId->Prop} {w w':World} {v:Value} {xs:List α}
theorem Ss.tr (h:Ss c size D w v xs) (hs:Sm D w w'):Ss c size D w' v xs:=⟨h.1,h.2.tr hs⟩
theorem Ss.mono (h:Ss c size D w v xs) (hD:∀b T,D b T->D' b T):Ss c size D' w v xs:=⟨h.1,h.2.mono hD⟩
theorem Ss.nil (hs:0<size):Ss c size D w (.slice none 0 0) []:=⟨⟨hs,by simp⟩,Sc.nil⟩
end
section
variable {P:Program} {f:Nat->Value} {w w':World} {dst:Option Tmp} {ty:TypeId} {pos:String} {aft:Array Edge} {gd:Option (Nat×Bool)} {x y z:Operand} {t t' e:TypeId} {D:Nat->TypeId->Prop}
theorem Bk.sc {b n size:Nat} {l:List Value} (hb:Bk w b e l) (hd:D b e) (hl:l.length=n*size) (hn:n<=9223372036854775807):Sc D w size (.slice (some ⟨b,0,none⟩) n n) n l:=
 ⟨_,n,rfl,aI _,by simpa[maxLen] using hn,hl,.inr ⟨b,0,rfl,by have:=hb.rd (D:=D) (m:=0) hd;simpa using this⟩⟩
theorem aWv {A:Option Addr} {n c:Nat} (ht:P.underlying t=some (.slice e)) (hx:ev f x= .slice A n c) (hy:ev f y= .slice none 0 0):(execOp (ev f) ⟨dst,.binOp .eql t x y t',ty,pos,aft,gd⟩).run P w= .ok (.value (.bool A.isNone)) w:=by
 have h:(Op.equalIn (9999+1) t (.slice A n c) (.slice none 0 0)).run P w= .ok A.isNone w:=by
  exact Lib.run_equalIn_slice_nil w 9999 t e A n c 0 0 ht
 simp only[execOp,hx,hy,eqGuard,binOp]
 simp[Op.equal,Op.maxDepth,h]
end
section
variable {D:Nat->TypeId->Prop} {w:World} {v:Value} {size n:Nat} {l:List Value}
theorem fJ:∀u∈([]:List Value),u.oneCell'=true:=λ_ h=>by cases h
theorem bG {u:Value} {l:List Value} (h:u.oneCell'=true) (hl:∀u∈l,u.oneCell'=true):∀z∈u::l,z.oneCell'=true:=λz hz=>by
 rcases bJ.1 hz with rfl|hz
 ·exact h
 exact hl z hz
theorem Sc.one (h:Sc D w size v n l):v.oneCell'=true:=by
 obtain⟨A,c,rfl,_⟩:=h
 rfl
theorem Sg.one {α:Type} {g:α->Value} {xs:List α} (h:Sg g D w v xs):v.oneCell'=true:=Sc.one h
end
theorem Exc.below {b B:Nat} {w0 w:World} (h:Exc b w0 w) (hb:B<=b) (hB:B<=w0.heap.size):Below B w0 w:=⟨h.os,h.tape,h.output,h.size,λk hk=>h.block k oM oM⟩
theorem Exc.ext {b:Nat} {w0 w:World} (h:Exc b w0 w) (hb:w0.heap.size<=b):Ext w0 w:=h.below hb (aI _)
section
variable {D:Nat->TypeId->Prop} {w:World} {v:Value} {size n:Nat} {l:List Value}
theorem Sc.old (h:Sc D w size v n l):Sc (λb T=>D b T/\b<w.heap.size) w size v n l:=by
 obtain⟨A,c,rfl,h1,h2,h3,h4⟩:=h
 refine⟨A,c,rfl,h1,h2,h3,h4.imp id ?_⟩
 rintro⟨b,o,rfl,hr⟩
 refine⟨b,o,rfl,?_⟩
 rcases hr with hr|⟨cs,T,fz,hh,hd,hc⟩
 ·exact .inl hr
 exact .inr ⟨cs,T,fz,hh,⟨hd,fW hh⟩,hc⟩
theorem Sg.old {α:Type} {g:α->Value} {xs:List α} (h:Sg g D w v xs):Sg g (λb T=>D b T/\b<w.heap.size) w v xs:=Sc.old h
end
theorem aDa {v:Value} (h:v.oneCell'=true):v.cells=#[v]:=by
 cases v<;>first|rfl|(simp[Value.oneCell'] at h)
section
variable {P:Program} {f:Nat->Value} {w:World} {dst:Option Tmp} {ty:TypeId} {pos:String} {aft:Array Edge} {gd:Option (Nat×Bool)} {x y z:Operand} {t e:TypeId}
theorem bGn {k:IntKind} {A:Option Addr} {n c size bytes kk:Nat} {h:Int} {zz:Value} (hu:P.underlying t=some (.slice e)) (ht:TyI P e size bytes zz) (hx:ev f x= .slice A n c) (hy:ev f y= .int k h) (hk:h=(kk:Int)) (h1:kk<=c):
 (execOp (ev f) ⟨dst,.slice t x none (some y) none,ty,pos,aft,gd⟩).run P w= .ok (.value (.slice A kk c)) w:=by
 have h2:=aCy (P:=P) (f:=f) (w:=w) (dst:=dst) (ty:=ty) (pos:=pos) (aft:=aft) (g:=gd) hu ht hx hy oM oM
 rw[hk,bP] at h2
 exact h2
theorem cAl {k:IntKind} {A:Option Addr} {n c size bytes kk:Nat} {l:Int} {zz:Value} (hu:P.underlying t=some (.slice e)) (ht:TyI P e size bytes zz) (hx:ev f x= .slice A n c) (hy:ev f y= .int k l) (hk:l=(kk:Int)) (h1:kk<=n):
 (execOp (ev f) ⟨dst,.slice t x (some y) none none,ty,pos,aft,gd⟩).run P w= .ok (.value (.slice (if c=kk then A else A.map (·.add (kk*size))) (n-kk) (c-kk))) w:=by
 have h2:=aCz (P:=P) (f:=f) (w:=w) (dst:=dst) (ty:=ty) (pos:=pos) (aft:=aft) (g:=gd) hu ht hx hy oM oM
 rw[hk,bP] at h2
 exact h2
end
end Go.Vg
namespace Go.Vg
open Go.RowKit
theorem plq {P:Program} {t:TypeId} {fs:Array Field} (h:P.underlying t=some (.struct fs)) (pl:Array (Nat×Nat)) (w:World)
 (e:((match P.underlying t with|some (.struct fs)=>fs|_=>#[]).mapM λ(fl:Field)=>(do pure (fl.offset,<-sizeOf fl.type):Sem (Nat×Nat))).run P w= .ok pl w):(fs.mapM λ(fl:Field)=>(do pure (fl.offset,<-sizeOf fl.type):Sem (Nat×Nat))).run P w= .ok pl w:=by
 rw[h] at e
 exact e
end Go.Vg
namespace Go.Vm
variable {α:Type}
def Srt (key:α->Int) (l:List α):Prop:=l.Pairwise λx y=>key x<=key y
def StE (key:α->Int) (l l':List α):Prop:=∀k:Int,l.filter (λx=>key x==k)=l'.filter (λx=>key x==k)
theorem StE.symm {key:α->Int} {l l':List α} (h:StE key l l'):StE key l' l:=λk=>(h k).symm
theorem StE.mem {key:α->Int} {l l':List α} (h:StE key l l') {x:α} (hx:x∈l):x∈l':=by
 have h1:x∈l.filter (λy=>key y==key x):=by rw[qB];exact⟨hx,by simp⟩
 rw[h (key x),qB] at h1
 exact h1.1
theorem StE.length {key:α->Int} {l l':List α} (h:StE key l l'):l.length=l'.length:=by
 suffices H:∀n (l l':List α),l.length<=n->StE key l l'->l.length=l'.length from H l.length l l' (aI _) h
 intro n
 induction n with
 |zero=>
  intro l l' hn h
  have hl:l=[]:=bX oM
  subst hl
  cases l' with
  |nil=>rfl
  |cons y t=>have:=h.symm.mem (x:=y) (by simp);simp at this
 |succ n ih=>
  intro l l' hn h
  cases l with
  |nil=>
   cases l' with
   |nil=>rfl
   |cons y t=>have:=h.symm.mem (x:=y) (by simp);simp at this
  |cons x t=>
   have part:∀m:List α,m.length=(m.filter (λy=>key y==key x)).length+(m.filter (λy=>!(key y==key x))).length:=λm=>by
    induction m with
    |nil=>rfl
    |cons a m ihm=>
     by_cases ha:key a==key x
     ·simp[nN,ha];omega
     simp[nN,ha];omega
   rw[part (x::t),part l',h (key x)]
   congr 1
   refine ih _ _ ?_ ?_
   ·have:=List.length_filter_le (λy=>!(key y==key x)) t
    simp[nN] at*
    omega
   intro k
   rw[uD,uD]
   by_cases hk:k=key x
   ·have e:∀m:List α,m.filter (λa=>(key a==k)&&!(key a==key x))=[]:=λm=>by
     rw[List.filter_eq_nil_iff];intro a _;simp;intro h1;rw[h1,hk]
    rw[e,e]
   have e:∀m:List α,m.filter (λa=>(key a==k)&&!(key a==key x))=m.filter (λa=>key a==k):=λm=>by
    apply vD
    intro a _
    by_cases h1:key a=k
    ·simp[h1,hk]
    simp[h1]
   rw[e,e]
   exact h k
theorem Srt.nil (key:α->Int):Srt key []:=List.Pairwise.nil
theorem aVc [Inhabited α] (l:List α) (k:Nat) (h:k<l.length):l.drop k=l.getD k default::l.drop (k+1):=by
 rw[fR h]
 simp[h]
theorem aIg [Inhabited α] (l:List α) (k:Nat) (h:k<l.length):l.take (k+1)=l.take k++[l.getD k default]:=by
 rw[List.take_succ_eq_append_getElem h]
 simp[h]
theorem aWw [Inhabited α] (l:List α) (k:Nat) (h:k<l.length):l.getD k default∈l:=by simp[h]
theorem Srt.at {key:α->Int} [Inhabited α] {l:List α} (h:Srt key l) {i j:Nat} (hij:i<=j) (hj:j<l.length):key (l.getD i default)<=key (l.getD j default):=by
 rcases eY i j with h1|h1
 ·have:=iZ.1 h i j oM hj h1
  simpa[hj,show i<l.length by omega] using this
 have:i=j:=by omega
 subst this
 exact Int.le_refl _
theorem Srt.take {key:α->Int} {l:List α} (h:Srt key l) (p:Nat):Srt key (l.take p):=List.Pairwise.sublist (kV p l) h
theorem Srt.drop {key:α->Int} {l:List α} (h:Srt key l) (p:Nat):Srt key (l.drop p):=List.Pairwise.sublist (vE p l) h
def Blk (key:α->Int) (z:Nat) (l:List α):Prop:=∀q,Srt key ((l.drop (q*z)).take z)
theorem Blk.nil (key:α->Int) (z:Nat):Blk key z ([]:List α):=λq=>by simp;exact Srt.nil _
theorem Blk.at {key:α->Int} {z:Nat} {l:List α} (h:Blk key z l) {e:Nat} (he:∃k,e=k*z):Srt key ((l.drop e).take z):=by
 obtain⟨k,rfl⟩:=he
 exact h k
theorem Blk.rest {key:α->Int} {z:Nat} {l:List α} (h:Blk key z l) {e:Nat} (he:∃k,e=k*z) (hl:l.length<=e+z):Srt key (l.drop e):=by
 have:=h.at he
 rwa [bU (by simp;omega)] at this
end Go.Vm
namespace Go.Vm
def val:List Nat->Nat
 |[]=>0
 |x::xs=>x+4294967296*val xs
def Lm (xs:List Nat):Prop:=∀x∈xs,x<4294967296
def aAh:Nat->Nat->List Nat
 |0,_=>[]
 |f+1,n=>if n=0 then [] else (n%4294967296)::aAh f (n/4294967296)
def aJ (n:Nat):List Nat:=aAh n n
def len (n:Nat):Nat:=(aJ n).length
theorem aIh:∀(f g n:Nat),n<=f->n<=g->aAh f n=aAh g n
 |0,0,_,_,_=>rfl
 |0,g+1,n,h,_=>by have:n=0:=by omega
                  subst this;simp[aAh]
 |f+1,0,n,_,h=>by have:n=0:=by omega
                  subst this;simp[aAh]
 |f+1,g+1,n,h1,h2=>by
  by_cases h0:n=0
  ·simp[aAh,h0]
  simp only[aAh,h0,if_false]
  rw[aIh f g (n/4294967296) oM oM]
theorem rM:aJ 0=[]:=rfl
theorem sC {n:Nat} (h:n≠0):aJ n=(n%4294967296)::aJ (n/4294967296):=by
 obtain⟨m,rfl⟩:∃m,n=m+1:=⟨n-1,by omega⟩
 show aAh (m+1) (m+1)=_
 simp only[aAh,h,if_false]
 rw[aIh m ((m+1)/4294967296) _ oM oM]
 rfl
theorem cX (n:Nat):val (aJ n)=n:=by
 induction n using Nat.strongRecOn with
 |ind n ih=>
  by_cases h:n=0
  ·subst h;rfl
  rw[sC h]
  show n%4294967296+4294967296*val (aJ (n/4294967296))=n
  rw[ih _ oM]
  omega
theorem cT (n:Nat):Lm (aJ n):=by
 induction n using Nat.strongRecOn with
 |ind n ih=>
  by_cases h:n=0
  ·subst h;intro x hx;rw[rM] at hx;cases hx
  rw[sC h]
  intro x hx
  rcases bJ.1 hx with rfl|hx
  ·exact dM _ dC
  exact ih _ oM x hx
theorem oR (a b:List Nat):val (a++b)=val a+4294967296^a.length*val b:=by
 induction a with
 |nil=>simp[val]
 |cons x a ih=>
  show x+4294967296*val (a++b)=x+4294967296*val a+4294967296^(a.length+1)*val b
  rw[ih,eZ,dN,bO (4294967296^a.length) 4294967296,bQ]
  omega
theorem mR (a:List Nat) (x:Nat):val (a++[x])=val a+4294967296^a.length*x:=by
 rw[oR];simp[val]
theorem mJ {a:List Nat} (h:Lm a):val a<4294967296^a.length:=by
 induction a with
 |nil=>simp[val]
 |cons x a ih=>
  have h1:=ih (λy hy=>h y (by simp[hy]))
  have h2:=h x (by simp)
  show x+4294967296*val a<4294967296^(a.length+1)
  rw[eZ,bO]
  omega
theorem Lm.nil:Lm []:=λ_ h=>by cases h
theorem Lm.append {a b:List Nat} (ha:Lm a) (hb:Lm b):Lm (a++b):=λx hx=>by
 rcases bB.1 hx with h|h
 ·exact ha x h
 exact hb x h
theorem Lm.snoc {a:List Nat} (ha:Lm a) {x:Nat} (hx:x<4294967296):Lm (a++[x]):=ha.append λy hy=>by rw[aT] at hy;omega
theorem Lm.take {a:List Nat} (h:Lm a) (k:Nat):Lm (a.take k):=λx hx=>h x (eG hx)
theorem Lm.drop {a:List Nat} (h:Lm a) (k:Nat):Lm (a.drop k):=λx hx=>h x (gZ hx)
theorem Lm.at {a:List Nat} (h:Lm a) {k:Nat} (hk:k<a.length):a.getD k default<4294967296:=h _ (aWw _ _ hk)
theorem aDb (n:Nat):val (List.replicate n 0)=0:=by
 induction n with
 |zero=>rfl
 |succ n ih=>rw[lE];show 0+4294967296*val _=0;rw[ih]
theorem Lm.zeros (n:Nat):Lm (List.replicate n 0):=λx hx=>by rw[List.eq_of_mem_replicate hx];decide
def Cn (a:List Nat):Prop:=a.length=0\/a.getD (a.length-1) default≠0
theorem Cn.tail {x:Nat} {a:List Nat} (h:Cn (x::a)) (ha:a≠[]):Cn a:=by
 right
 rcases h with h|h
 ·simp at h
 have:0<a.length:=List.length_pos_iff.2 ha
 rw[eI,gL] at h
 obtain⟨m,hm⟩:∃m,a.length=m+1:=⟨a.length-1,by omega⟩
 rw[hm] at h ⊢
 simpa using h
theorem Cn.pos {a:List Nat} (h:Cn a) (ha:a≠[]):0<val a:=by
 induction a with
 |nil=>exact absurd rfl ha
 |cons x a ih=>
  show 0<x+4294967296*val a
  by_cases h0:a=[]
  ·subst h0
   rcases h with h|h
   ·simp at h
   simp at h;omega
  have:=ih (h.tail h0) h0;omega
theorem aOm {a:List Nat} (hl:Lm a) (hc:Cn a):a=aJ (val a):=by
 induction a with
 |nil=>rfl
 |cons x a ih=>
  have hx:=hl x (by simp)
  have hpos:=hc.pos (by simp)
  rw[sC oM]
  show x::a=((x+4294967296*val a)%4294967296)::aJ ((x+4294967296*val a)/4294967296)
  rw[show(x+4294967296*val a)%4294967296=x by omega,show(x+4294967296*val a)/4294967296=val a by omega]
  congr 1
  by_cases h0:a=[]
  ·subst h0;rfl
  exact ih (λy hy=>hl y (by simp[hy])) (hc.tail h0)
theorem bGo (n:Nat):Cn (aJ n):=by
 induction n using Nat.strongRecOn with
 |ind n ih=>
  by_cases h:n=0
  ·subst h;exact .inl rfl
  right
  rw[sC h]
  by_cases h0:n/4294967296=0
  ·rw[h0,rM]
   simp;omega
  have h1:=ih _ (show n/4294967296<n by omega)
  rcases h1 with h1|h1
  ·rw[sC h0] at h1;simp at h1
  obtain⟨m,hm⟩:∃m,(aJ (n/4294967296)).length=m+1:=⟨(aJ (n/4294967296)).length-1,by rw[sC h0];simp⟩
  rw[eI,gL,hm]
  rw[hm,gL] at h1
  simpa using h1
theorem aDc {xs:List Nat} {n:Nat} (hx:Lm xs) (hn:n<=xs.length) (hv:val (xs.take n)=val xs) (hl:n=0\/xs.getD (n-1) default≠0):xs.take n=aJ (val xs):=by
 rw[<-hv]
 refine aOm (hx.take n) ?_
 have hlen:(xs.take n).length=n:=by simp;omega
 unfold Cn
 rw[hlen]
 rcases hl with h|h
 ·exact .inl h
 by_cases h0:n=0
 ·exact .inl h0
 right
 simpa[bF,iE,show n-1<n by omega] using h
theorem aIi {xs:List Nat} {n:Nat} (hn:n<=xs.length) (h0:0<n) (hv:val (xs.take n)=val xs) (hz:xs.getD (n-1) default=0):val (xs.take (n-1))=val xs:=by
 obtain⟨m,rfl⟩:∃m,n=m+1:=⟨n-1,by omega⟩
 rw[gL] at hz ⊢
 rw[aIg xs m oM,mR,hz] at hv
 omega
theorem eM {xs:List Nat} {k:Nat} (h:k<xs.length):val (xs.take (k+1))=val (xs.take k)+4294967296^k*xs.getD k default:=by
 rw[aIg xs k h,mR,cC,fI oM]
theorem lF {xs:List Nat} {k:Nat} (h:xs.length<=k):val (xs.take k)=val xs:=by rw[bU h]
def dig (xs:List Nat) (k:Nat):Nat:=if k<xs.length then xs.getD k default else 0
theorem qP (xs:List Nat) (k:Nat):val (xs.take (k+1))=val (xs.take k)+4294967296^k*dig xs k:=by
 unfold dig
 split
 ·next h=>exact eM h
 rw[lF oM,lF oM];rfl
theorem qQ {xs:List Nat} {k:Nat} (h:k<xs.length):dig xs k=xs.getD k default:=if_pos h
theorem wE {xs:List Nat} {k:Nat} (h:¬k<xs.length):dig xs k=0:=if_neg h
theorem vO {xs:List Nat} (h:Lm xs) (k:Nat):dig xs k<4294967296:=by
 unfold dig
 split
 ·next hk=>exact h.at hk
 decide
theorem qI {n k:Nat} (h:n<4294967296^k):(aJ n).length<=k:=by
 induction k generalizing n with
 |zero=>have:n=0:=by simpa using h
        subst this;simp[rM]
 |succ k ih=>
  by_cases h0:n=0
  ·subst h0;simp[rM]
  rw[sC h0,eI]
  have:=@ih (n/4294967296) (by rw[eZ] at h;exact Nat.div_lt_of_lt_mul (by rw[bO];exact h))
  omega
theorem xY (n:Nat):n<4294967296^len n:=by
 have:=mJ (cT n)
 rwa [cX] at this
theorem lS {xs:List Nat} (h:Lm xs):len (val xs)<=xs.length:=qI (mJ h)
theorem gU (n:Nat):(aJ n).length=len n:=rfl
theorem gO {m n:Nat} (h:m<=n):len m<=len n:=qI (gM h (xY n))
theorem aOn {n:Nat} (h:n≠0):4294967296^(len n-1)<=n:=by
 rcases eY n (4294967296^(len n-1)) with h1|h1
 ·have h2:=qI h1
  rw[gU] at h2
  have:len n≠0:=by unfold len;rw[sC h];simp
  omega
 exact h1
theorem tQ {m n:Nat} (h:len m<len n):m<n:=by
 have h1:=xY m
 have h2:4294967296^len m<=4294967296^(len n-1):=fN dC oM
 have h3:=aOn (n:=n) (λh0=>by subst h0;simp[len,rM] at h)
 omega
theorem kZ {n:Nat}:len n=0↔n=0:=by
 constructor
 ·intro h;have:=xY n;rw[h] at this;simpa using this
 rintro rfl;rfl
theorem zO (m n:Nat):len (m+n)<=max (len m) (len n)+1:=by
 refine qI ?_
 have h1:=xY m
 have h2:=xY n
 have h3:4294967296^len m<=4294967296^max (len m) (len n):=fN dC oM
 have h4:4294967296^len n<=4294967296^max (len m) (len n):=fN dC oM
 rw[eZ]
 omega
theorem zP (m n:Nat):len (m*n)<=len m+len n:=by
 refine qI ?_
 rw[kB]
 exact Nat.mul_lt_mul'' (xY m) (xY n)
def nC (P:List Nat) (m:Nat):List Nat:=P++List.replicate (m-P.length) 0
theorem tR (m:Nat):nC [] m=List.replicate m 0:=by simp[nC]
theorem aBg {P:List Nat} {m:Nat} (h:P.length<=m):(nC P m).length=m:=by simp[nC];omega
theorem qJ {P:List Nat} {m k u:Nat} (hk:P.length=k) (h:k<m):(nC P m).set k u=nC (P++[u]) m:=by
 unfold nC
 subst hk
 rw[mI _ _ (aI _),jW]
 obtain⟨q,hq⟩:∃q,m-P.length=q+1:=⟨m-P.length-1,by omega⟩
 rw[hq,lE,aP,show m-(P.length+[u].length)=q by simp;omega]
 simp
theorem rN {P:List Nat} {m:Nat} (h:P.length=m):nC P m=P:=by simp[nC,h]
theorem xZ (p s:Nat):p*(s%4294967296)+4294967296*p*(s/4294967296)=p*s:=by
 rw[bO 4294967296 p,bQ,<-dN,Nat.mod_add_div]
theorem aMd {P:List Nat} {k c x y A B:Nat} (hP:P.length=k) (h:val P+4294967296^k*c=A+B):
 val (P++[(c+x+y)%4294967296])+4294967296^(k+1)*((c+x+y)/4294967296)=(A+4294967296^k*x)+(B+4294967296^k*y):=by
 rw[mR,hP,eZ]
 have h1:=xZ (4294967296^k) (c+x+y)
 rw[bO 4294967296] at h1
 rw[dN,dN] at h1
 omega
theorem bGp {P:List Nat} {m c A B n:Nat} (hP:P.length=m) (hm:m=n+1) (h:val P+4294967296^m*c=A+B) (hA:A<4294967296^n) (hB:B<4294967296^n):val P=A+B:=by
 have h1:4294967296^m=4294967296^n*4294967296:=by rw[hm,eZ]
 rcases dB c with h0|h0
 ·subst h0;omega
 have:4294967296^m*1<=4294967296^m*c:=dZ _ h0
 omega
theorem aMe {P:List Nat} {k c x y A B:Nat} (hP:P.length=k) (h:val P+B=A+4294967296^k*c) (hx:x<4294967296) (hy:y<4294967296) (hc:c<=1):
 val (P++[(x+4294967296-(c+y))%4294967296])+(B+4294967296^k*y)=(A+4294967296^k*x)+4294967296^(k+1)*(if x<c+y then 1 else 0):=by
 rw[mR,hP,eZ]
 have e:∀p:Nat,p*((x+4294967296-(c+y))%4294967296)+p*(c+y)=p*x+p*(4294967296*if x<c+y then 1 else 0):=λp=>by
  rw[<-dN,<-dN]
  congr 1
  split<;>omega
 have h1:=e (4294967296^k)
 rw[dN _ c y,<-bQ] at h1
 omega
theorem aWx {P:List Nat} {k c o x y A:Nat} (hP:P.length=k) (h:val P+4294967296^k*c=A):
 val (P++[(c+(o+x*y))%4294967296])+4294967296^(k+1)*((c+(o+x*y))/4294967296)=A+4294967296^k*o+x*(4294967296^k*y):=by
 rw[mR,hP,eZ]
 have h1:=xZ (4294967296^k) (c+(o+x*y))
 rw[bO 4294967296] at h1
 rw[dN,dN,Nat.mul_left_comm _ x y] at h1
 omega
end Go.Vm
namespace Go.Vm
theorem qR {a:List Nat} {m:Nat} (h:m<a.length):a.drop m=a.getD m default::a.drop (m+1):=aVc a m h
theorem oF (a:List Nat) {m:Nat} (h:m<=a.length):val a=val (a.take m)+4294967296^m*val (a.drop m):=by
 have:=oR (a.take m) (a.drop m)
 rw[fG,cC,fI h] at this
 exact this
theorem aDd {a b:List Nat} {m:Nat} (ha:Lm a) (hl:a.length=b.length) (hm:m<a.length) (hd:a.drop (m+1)=b.drop (m+1)) (hx:a.getD m default<b.getD m default):val a<val b:=by
 rw[oF a (gQ hm),oF b (show m<=b.length by omega),qR hm,qR (show m<b.length by omega),hd]
 have h1:=mJ (ha.take m)
 rw[cC,fI oM] at h1
 show _+4294967296^m*(a.getD m default+4294967296*val (b.drop (m+1)))<_+4294967296^m*(b.getD m default+4294967296*val (b.drop (m+1)))
 have h2:4294967296^m*(a.getD m default+1+4294967296*val (b.drop (m+1)))<=4294967296^m*(b.getD m default+4294967296*val (b.drop (m+1))):=dZ _ oM
 rw[show a.getD m default+1+4294967296*val (b.drop (m+1))=(a.getD m default+4294967296*val (b.drop (m+1)))+1 by omega,dN,dF] at h2
 omega
theorem aIj {a b:List Nat} {n:Nat} (h0:0<n) (ha:n<=a.length) (hb:n<=b.length) (hd:a.drop n=b.drop n) (hx:a.getD (n-1) default=b.getD (n-1) default):a.drop (n-1)=b.drop (n-1):=by
 obtain⟨m,rfl⟩:∃m,n=m+1:=⟨n-1,by omega⟩
 rw[gL] at hx ⊢
 rw[qR oM,qR (show m<b.length by omega),hx,hd]
theorem aRx (x:Nat):val [x%4294967296,x/4294967296]=x:=by simp[val];omega
theorem Lm.two {x:Nat} (h:x<18446744073709551616):Lm [x%4294967296,x/4294967296%4294967296]:=by
 intro y hy
 simp at hy
 omega
theorem rW {n:Nat}:n<18446744073709551616↔len n<=2:=by
 constructor
 ·intro h;exact qI (k:=2) oM
 intro h
 have h1:=xY n
 have h2:4294967296^len n<=4294967296^2:=fN dC h
 omega
theorem vP {a:List Nat} {n:Nat} (h0:0<n) (h:n<=a.length):val (a.drop (n-1))=a.getD (n-1) default+4294967296*val (a.drop n):=by
 obtain⟨m,rfl⟩:∃m,n=m+1:=⟨n-1,by omega⟩
 rw[gL,qR oM]
 rfl
theorem aWy {l m:List Nat} (hl:l.length=m.length) (h:∀j,j<l.length->l.getD j default=m.getD j default):l=m:=by
 apply nK hl
 intro j h1 h2
 have:=h j h1
 simpa[h1,h2] using this
end Go.Vm
namespace Go.Vm
theorem bGq {x y P:List Nat} {k c:Nat} (lx:Lm x) (ly:Lm y) (hP:P.length=k) (hk:k=max x.length y.length+1) (hv:val P+4294967296^k*c=val (x.take k)+val (y.take k)):val P=val x+val y:=by
 rw[lF oM,lF oM] at hv
 refine bGp hP hk hv ?_ ?_
 ·exact bH (mJ lx) (fN dC oM)
 exact bH (mJ ly) (fN dC oM)
theorem aRy {x y P:List Nat} {k c:Nat} (lP:Lm P) (hP:P.length=k) (hx:x.length<=k) (hy:y.length<=k) (hxy:val y<=val x) (hv:val P+val (y.take k)=val (x.take k)+4294967296^k*c):val P=val x-val y:=by
 rw[lF hx,lF hy] at hv
 have h1:=mJ lP
 rw[hP] at h1
 rcases dB c with h0|h0
 ·subst h0;omega
 have:4294967296^k*1<=4294967296^k*c:=dZ _ h0
 omega
theorem yA {x y:Nat} (hx:x<4294967296) (hy:y<4294967296):x*y<=18446744065119617025:=by
 have h1:x*y<=4294967295*y:=bK _ oM
 omega
def qS (O Q:List Nat) (i:Nat):List Nat:=O.take i++Q++O.drop (i+Q.length)
theorem aMf (O:List Nat) (i:Nat):qS O [] i=O:=by simp[qS]
theorem aRz {O Q:List Nat} {i k:Nat} (hQ:Q.length=k) (hi:i+k<O.length):(qS O Q i).getD (i+k) default=O.getD (i+k) default:=by
 unfold qS
 rw[bF,bF,cO (by simp;omega)]
 simp only[aP,cC,eQ]
 rw[hQ,show i+k+(i+k-(min i O.length+k))=i+k by omega]
theorem aBh {O Q:List Nat} {i k u:Nat} (hQ:Q.length=k) (hi:i+k<O.length):(qS O Q i).set (i+k) u=qS O (Q++[u]) i:=by
 unfold qS
 rw[mI _ _ (by simp;omega),eF (O.take i),eF (O.take i),eF Q]
 congr 2
 simp only[aP,cC,cU]
 rw[show i+k-(min i O.length+Q.length)=0 by omega,hQ,qR hi]
 rfl
theorem sD {O Q:List Nat} {i:Nat} (h:i+Q.length<=O.length):(qS O Q i).length=O.length:=by simp[qS];omega
theorem aSa {O Q:List Nat} {i:Nat} (hO:Lm O) (hQ:Lm Q):Lm (qS O Q i):=((hO.take i).append hQ).append (hO.drop _)
theorem aSb {O x y Q:List Nat} {i n c:Nat} (hi:i<x.length) (hQ:Q.length=y.length) (hO:O.length=x.length+y.length) (h1:val (O.take (i+y.length))=val (x.take i)*val y)
 (h2:val Q+4294967296^y.length*c=val ((O.drop i).take y.length)+x.getD i default*val y):
 val ((qS O (Q++[c]) i).take (i+1+y.length))=val (x.take (i+1))*val y:=by
 have e:(qS O (Q++[c]) i).take (i+1+y.length)=O.take i++(Q++[c]):=by
  unfold qS
  rw[fM (by simp;omega)]
  exact bU (by simp;omega)
 have e2:O.take (i+y.length)=O.take i++(O.drop i).take y.length:=by rw[List.take_add]
 rw[e2,oR,cC,fI oM] at h1
 rw[e,oR,cC,fI oM,mR,hQ,h2,dN,eM hi,dW,<-h1,bQ]
 omega
theorem aFu {O Q:List Nat} {i m:Nat} (hQ:Q.length=m+1) (hO:i+m<O.length) (hz:∀j,i+m<=j->j<O.length->O.getD j default=0):∀j,i+1+m<=j->j<(qS O Q i).length->(qS O Q i).getD j default=0:=by
 intro j h1 h2
 rw[sD oM] at h2
 have h3:=hz j oM h2
 unfold qS
 rw[bF,cO (by simp;omega)]
 simp only[aP,cC,eQ]
 rw[hQ,show i+(m+1)+(j-(min i O.length+(m+1)))=j by omega]
 rw[bF] at h3
 exact h3
end Go.Vm
namespace Go.Vm
theorem aBi {O y Q:List Nat} {i k c xi:Nat} (hQ:Q.length=k) (hk:k<y.length) (hO:i+k<O.length) (h:val Q+4294967296^k*c=val ((O.drop i).take k)+xi*val (y.take k)):
 val (Q++[(c+(O.getD (i+k) default+xi*y.getD k default))%4294967296])+4294967296^(k+1)*((c+(O.getD (i+k) default+xi*y.getD k default))/4294967296)=val ((O.drop i).take (k+1))+xi*val (y.take (k+1)):=by
 have h1:=aWx (o:=O.getD (i+k) default) (x:=xi) (y:=y.getD k default) hQ h
 have h2:=eM (xs:=O.drop i) (k:=k) (by rw[dP];omega)
 rw[show(O.drop i).getD k default=O.getD (i+k) default by simp[bF]] at h2
 rw[h1,h2,eM hk,dN]
 omega
end Go.Vm
namespace Go.Vm
theorem aWz (m:Nat):4294967296^m=2^(32*m):=by rw[show(4294967296:Nat)=2^32 from rfl,<-Nat.pow_mul]
theorem aXa {X:List Nat} {s:Nat} (hX:Lm X) (h0:0<X.length) (hs:X.getD (X.length-1) default/2^s=0):val X<2^(32*(X.length-1)+s):=by
 have h1:X.getD (X.length-1) default<2^s:=by
  rcases eY (X.getD (X.length-1) default) (2^s) with h|h
  ·exact h
  have:=Nat.div_pos h (qC s);omega
 have h2:=mJ (hX.take (X.length-1))
 rw[cC,fI oM] at h2
 rw[oF X (show X.length-1<=X.length by omega),qR oM,cB oM]
 show _+4294967296^(X.length-1)*(X.getD (X.length-1) default+4294967296*0)<_
 rw[kB,<-aWz]
 have h3:4294967296^(X.length-1)*(X.getD (X.length-1) default+1)<=4294967296^(X.length-1)*2^s:=dZ _ h1
 rw[dN,dF] at h3
 rw[nV,jG]
 omega
theorem aJg {x:List Nat} (hx:Lm x) (i:Nat):dig x (i/32)/2^(i%32)%2=val x/2^i%2:=by
 have hi:i=32*(i/32)+i%32:=by omega
 have hs:i%32<32:=by omega
 generalize i/32=q at*
 generalize i%32=s at*
 subst hi
 rw[kB,<-aWz,<-jX]
 have h1:val x/4294967296^q=dig x q+4294967296*val (x.drop (q+1)):=by
  rcases eY q x.length with h|h
  ·rw[oF x (gQ h),qR h,qQ h]
   have h2:=mJ (hx.take q)
   rw[cC,fI oM] at h2
   rw[mU _ _ (jC dC),jM h2,fK]
   rfl
  rw[wE oM,cB oM]
  have h2:=mJ hx
  have h3:4294967296^x.length<=4294967296^q:=fN dC h
  rw[jM oM]
  rfl
 rw[h1]
 obtain⟨t,ht⟩:∃t,32=s+1+t:=⟨31-s,by omega⟩
 have h4:(4294967296:Nat)=2^s*(2*2^t):=by
  rw[show(4294967296:Nat)=2^32 from rfl,ht,kB,kB,yZ,bQ]
 rw[h4,bQ (2^s),mU _ _ (qC s),bQ 2]
 omega
theorem aXb {a s:Nat} (h:a/2^s%2=0):a|||2^s=a+2^s:=by
 have h1:=Nat.mod_pow_succ (b:=2) (k:=s) (x:=a)
 rw[h,nV,jG] at h1
 have h2:a%2^(s+1)<2^s:=by rw[h1];exact dM _ (qC s)
 have h3:=iI a (2^(s+1))
 have h4:=iO (i:=s+1) (b:=a%2^(s+1)) (dM _ (qC _)) (a/2^(s+1))
 have h5:=iO (i:=s) (b:=a%2^(s+1)) h2 1
 rw[dF] at h5
 have h6:2^(s+1)=2^s+2^s:=by rw[eZ];omega
 have h7:=iO (i:=s+1) (b:=2^s+a%2^(s+1)) oM (a/2^(s+1))
 clear h1
 generalize 2^(s+1)*(a/2^(s+1))=A at*
 generalize a%2^(s+1)=l at*
 have e1:a|||2^s=(A|||l)|||2^s:=by rw[<-h4,h3]
 rw[e1,Nat.or_assoc,Nat.or_comm l,<-h5,<-h7]
 omega
theorem bGr {O:List Nat} {q u:Nat} (h:q<O.length):val (O.set q u)+4294967296^q*O.getD q default=val O+4294967296^q*u:=by
 have e:O.set q u=O.take q++u::O.drop (q+1):=by rw[jR,if_pos h]
 rw[e,oR,cC,fI oM,oF O (gQ h),qR h]
 show _+4294967296^q*(u+4294967296*val (O.drop (q+1)))+_=_+4294967296^q*(O.getD q default+4294967296*val (O.drop (q+1)))+_
 rw[dN,dN]
 omega
theorem bMh {O:List Nat} {i:Nat} (hO:Lm O) (hi:i/32<O.length) (hd:val O%2^(i+1)=0):
 O.getD (i/32) default|||2^(i%32)=O.getD (i/32) default+2^(i%32)/\O.getD (i/32) default+2^(i%32)<4294967296/\val (O.set (i/32) (O.getD (i/32) default+2^(i%32)))=val O+2^i:=by
 have hb:val O/2^i%2=0:=by
  have h1:=Nat.mod_pow_succ (b:=2) (k:=i) (x:=val O)
  rw[hd] at h1
  rcases dB (val O/2^i%2) with h|h
  ·exact h
  have:2^i*1<=2^i*(val O/2^i%2):=dZ _ h
  have:=qC i
  omega
 have ha:=aJg hO i
 rw[hb,qQ hi] at ha
 refine⟨aXb ha,?_,?_⟩
 ·have h1:=hO.at hi
  rw[<-aXb ha]
  exact Nat.or_lt_two_pow (n:=32) h1 (sL dC oM)
 have h1:=bGr (u:=O.getD (i/32) default+2^(i%32)) hi
 rw[dN] at h1
 have h2:2^i=4294967296^(i/32)*2^(i%32):=by rw[aWz,<-kB];congr 1;omega
 omega
theorem aXc {n i Qn b r:Nat} (h:n/2^(i+1)=Qn*b+r):n/2^i=2*Qn*b+(r+r+n/2^i%2):=by
 rw[eZ,<-jX] at h
 have h1:2*Qn*b=Qn*b+Qn*b:=by rw[bQ];omega
 omega
theorem aJh {n b Qn r:Nat} (h:n=Qn*b+r) (hr:r<b):Qn=n/b/\r=n%b:=by
 subst h
 rw[bO,Nat.mul_add_div oM,Nat.mul_add_mod,jM hr,cW hr]
 exact⟨rfl,rfl⟩
def vS (x y:Nat):Nat:=if y=0 then 0 else x%y
end Go.Vm
namespace Go.Vm
theorem Lm.set {O:List Nat} (h:Lm O) {q u:Nat} (hu:u<4294967296):Lm (O.set q u):=λx hx=>by
 rcases List.mem_or_eq_of_mem_set hx with hx|rfl
 ·exact h x hx
 exact hu
theorem aMg (Q i:Nat):Q*2^(i+1)=2*Q*2^i:=by
 rw[eZ,bO (2^i) 2,<-bQ,bO Q 2]
end Go.Vm
namespace Go.Vm
def sg (b:Bool) (n:Nat):Int:=match b with
 |true=>-(n:Int)
 |false=>(n:Int)
theorem sg_t (n:Nat):sg true n=-(n:Int):=rfl
theorem sg_f (n:Nat):sg false n=(n:Int):=rfl
theorem sg_abs (b:Bool) (n:Nat):(sg b n).natAbs=n:=by cases b<;>simp[sg]
theorem dQ (z:Int):sg (decide (z<0)) z.natAbs=z:=by
 by_cases h:z<0
 ·rw[decide_eq_true h,sg_t];omega
 rw[decide_eq_false h,sg_f];omega
theorem cK (z:Int):sg (decide (z<0)) (val (aJ z.natAbs))=z:=by rw[cX,dQ]
theorem sg_add (b:Bool) (m n:Nat):sg b (m+n)=sg b m+sg b n:=by cases b<;>simp only[sg]<;>omega
theorem dR (b:Bool):sg b 0=0:=by cases b<;>rfl
theorem sg_mul (a b:Bool) (m n:Nat):sg (a !=b) (m*n)=sg a m*sg b n:=by cases a<;>cases b<;>simp[sg,vF,vG]
theorem gF {b:Bool} {n:Nat}:sg b n<0↔b=true/\0<n:=by
 cases b
 ·simp only[sg,iD,false_and,iff_false];omega
 simp only[sg,true_and];omega
theorem wF {b:Bool} {x:List Nat} {z:Int} (hx:Lm x) (h:sg b (val x)=z):(aJ z.natAbs).length<=x.length:=by
 rw[<-h,sg_abs];exact lS hx
theorem aXd (a b:Int):(aJ (a+b).natAbs).length<=max (aJ a.natAbs).length (aJ b.natAbs).length+1:=
 bA (gO (Int.natAbs_add_le a b)) (zO _ _)
theorem aAp (a b:Int):(aJ (a*b).natAbs).length<=(aJ a.natAbs).length+(aJ b.natAbs).length:=by
 rw[pA];exact zP _ _
def jH (b:Bool) (n d:Nat):Rat:=Rat.divInt (sg b n) (d:Int)
theorem aVd {a b:Int}:(Rat.divInt a b).num.natAbs<=a.natAbs:=by
 rw[zB]
 refine bA (uL _ _) ?_
 rw[pA]
 have:b.sign.natAbs<=1:=by
  rcases gW b 0 with h|h|h
  ·rw[fO h];decide
  ·rw[h];decide
  rw[gJ h];decide
 calc b.sign.natAbs*a.natAbs<=1*a.natAbs:=bK _ this
  _=a.natAbs:=lN _
theorem aHz {a b:Int}:(Rat.divInt a b).den<=b.natAbs\/(Rat.divInt a b).den=1:=by
 rw[zC]
 split
 ·exact .inr rfl
 exact .inl (iT _ _)
theorem bGs:(aJ 1).length=1:=rfl
theorem wY {a b:Int}:(aJ (Rat.divInt a b).num.natAbs).length<=(aJ a.natAbs).length:=gO aVd
theorem wZ {a b:Int}:(aJ (Rat.divInt a b).den).length<=max (aJ b.natAbs).length 1:=by
 rcases aHz (a:=a) (b:=b) with h|h
 ·have h2:(aJ (Rat.divInt a b).den).length<=(aJ b.natAbs).length:=gO h
  omega
 rw[h,bGs];omega
end Go.Vm
namespace Go.Vm
theorem cAm {s:Bool} {n:Nat} {z:Int} (h:sg s n=z) (hs:s=true):decide ((0:Int)<(((aJ n).length:Nat):Int))=decide (z<0):=by
 subst hs
 rw[<-h]
 have:=kZ (n:=n)
 unfold len at this
 refine decide_eq_decide.2 ?_
 rw[sg_t]
 omega
theorem cAn {s:Bool} {n:Nat} {z:Int} (h:sg s n=z) (hs:s=false):false=decide (z<0):=by
 subst hs
 rw[<-h,sg_f]
 exact(decide_eq_false oM).symm
theorem aAq {s:Bool} {n:Nat} {z:Int} (h:sg s n=z):aJ n=aJ z.natAbs:=by rw[<-h,sg_abs]
theorem eO {x:List Nat} (h:Lm x):(aJ (val x)).length<=x.length:=lS h
theorem bMi (a b:Nat):(aJ (a+b)).length<=max (aJ a).length (aJ b).length+1:=zO a b
theorem aFv (a b:Nat):(aJ (a*b)).length<=(aJ a).length+(aJ b).length:=zP a b
theorem aOo (a b:Nat):(aJ (a-b)).length<=(aJ a).length:=gO (Nat.sub_le a b)
theorem aFw (a b:Nat):(aJ (a/b)).length<=(aJ a).length:=gO (iT a b)
theorem aBj (a b:Nat):(aJ (vS a b)).length<=(aJ b).length:=by
 unfold vS
 split
 ·exact aF _
 exact gO (gQ (dM _ oM))
theorem yB (a b:Nat):(aJ (vS a b)).length<=(aJ a).length:=by
 unfold vS
 split
 ·exact aF _
 exact gO (aBd _ _)
theorem bMj (a b:Nat):(aJ (Nat.gcd a b)).length<=max (aJ a).length (aJ b).length:=by
 rcases dB a with h|h
 ·rw[h,vH];omega
 have:(aJ (Nat.gcd a b)).length<=(aJ a).length:=gO (vZ h (kG a b))
 omega
end Go.Vm
namespace Go.Vm
theorem vT {n:Nat} (h:n<18446744073709551616):(aJ n).length<=2:=rW.1 h
theorem aMh {zx zy:Int} (h:zy≠0):(zy/((Int.gcd zx zy:Nat):Int)<0->(Rat.divInt zx zy).num=-(zx/((Int.gcd zx zy:Nat):Int))/\(Rat.divInt zx zy).den=(-(zy/((Int.gcd zx zy:Nat):Int))).natAbs)/\
 (¬zy/((Int.gcd zx zy:Nat):Int)<0->(Rat.divInt zx zy).num=zx/((Int.gcd zx zy:Nat):Int)/\(Rat.divInt zx zy).den=(zy/((Int.gcd zx zy:Nat):Int)).natAbs):=by
 have hg:0<Int.gcd zx zy:=sS _ h
 have hd1:((Int.gcd zx zy:Nat):Int)∣zx:=Int.gcd_dvd_left ..
 have hd2:((Int.gcd zx zy:Nat):Int)∣zy:=Int.gcd_dvd_right ..
 rw[zB,zC,if_neg h,Int.gcd_comm zy zx]
 obtain⟨a,ha⟩:=hd1
 obtain⟨b,hb⟩:=hd2
 generalize Int.gcd zx zy=g at*
 have hg':(g:Int)≠0:=by omega
 have e1:zx/(g:Int)=a:=by rw[ha,kP _ hg']
 have e2:zy/(g:Int)=b:=by rw[hb,kP _ hg']
 have e3:zy.natAbs/g=b.natAbs:=by rw[hb,pA,eD,Nat.mul_div_cancel_left _ hg]
 rw[e1,e2,e3]
 constructor
 ·intro hn
  have hz:zy<0:=by rw[hb];exact uM oM hn
  rw[fO hz]
  refine⟨?_,by rw[zD]⟩
  rw[ha,show(-1:Int)*((g:Int)*a)=(g:Int)*(-a) by rw[Int.neg_one_mul,vG],kP _ hg']
 intro hn
 have hb0:0<b:=by
  rcases gW b 0 with h1|h1|h1
  ·exact absurd h1 hn
  ·rw[h1,Int.mul_zero] at hb;exact absurd hb h
  exact h1
 have hz:0<zy:=by rw[hb];exact vI oM hb0
 rw[gJ hz,zE,ha,kP _ hg']
 exact⟨rfl,rfl⟩
theorem xA (z:Int):(Rat.divInt z 1).num=z/\(Rat.divInt z 1).den=1:=by
 rw[zB,zC]
 simp
theorem aMi (a b:Rat):Rat.divInt (a.num*(b.den:Int)+b.num*(a.den:Int)) ((a.den:Int)*(b.den:Int))=a+b:=by
 have h1:(a.den:Int)≠0:=by have:=a.den_nz;omega
 have h2:(b.den:Int)≠0:=by have:=b.den_nz;omega
 rw[<-rK _ _ h1 h2,mC,mC]
theorem aMj (a b:Rat):Rat.divInt (a.num*b.num) ((a.den:Int)*(b.den:Int))=a*b:=by
 rw[<-rL,mC,mC]
theorem aXe (a b:Rat):Rat.divInt (a.num*(b.den:Int)) ((a.den:Int)*b.num)=a/b:=by
 rw[jN,Rat.inv_def,<-rL,mC]
theorem bGt (z:Int):Rat.divInt z 1=(z:Rat):=by
 apply Rat.ext
 ·rw[(xA z).1];rfl
 rw[(xA z).2];rfl
theorem aAi {b:Bool} {x d:List Nat} {q:Rat} (hx:Lm x) (hd:Lm d) (h:jH b (val x) (val d)=q):(aJ q.num.natAbs).length<=x.length/\(aJ q.den).length<=d.length+1:=by
 rw[<-h]
 unfold jH
 have h1:=wY (a:=sg b (val x)) (b:=((val d:Nat):Int))
 have h2:=wZ (a:=sg b (val x)) (b:=((val d:Nat):Int))
 rw[sg_abs] at h1
 rw[eD] at h2
 have h3:=eO hx
 have h4:=eO hd
 omega
theorem kJ (q:Rat):1<=(aJ q.den).length:=by
 have h:=kZ (n:=q.den)
 unfold len at h
 have:=q.den_nz
 omega
end Go.Vm
namespace Go.Proofs.YtlhdigjbokkbiaaGreat.W
open Go.Vg _root_.Go.Proofs.Tryz
theorem pJ:Tryz.prog.follows .mixedOrders=true:=by kernel_rfl
theorem ty4:TyI Tryz.prog 4 1 1 (.bool false):=TyI.of kR--bool
theorem ag4:wW Tryz.prog 4=false:=by kernel_rfl
theorem sF:TyI Tryz.prog 47 1 24 (.slice none 0 0):=TyI.of kR--[]uint32
theorem tF:wW Tryz.prog 47=false:=by kernel_rfl
theorem iB:TyI Tryz.prog 49 2 32 (.agg #[.bool false,.slice none 0 0]):=TyI.of kR--api.Int
theorem rG:wW Tryz.prog 49=true:=by kernel_rfl
theorem aMk {fs:Array Field} (h:Tryz.prog.underlying 49=some (.struct fs)) (w:World):(fs.mapM λ(fl:Field)=>(do pure (fl.offset,<-sizeOf fl.type):Sem (Nat×Nat))).run Tryz.prog w= .ok #[(0,1),(1,1)] w:=plq h _ w kR
theorem jI:TyI Tryz.prog 51 3 56 (.agg #[.bool false,.slice none 0 0,.slice none 0 0]):=TyI.of kR--api.Rat
theorem oO:wW Tryz.prog 51=true:=by kernel_rfl
theorem aVe {fs:Array Field} (h:Tryz.prog.underlying 51=some (.struct fs)) (w:World):(fs.mapM λ(fl:Field)=>(do pure (fl.offset,<-sizeOf fl.type):Sem (Nat×Nat))).run Tryz.prog w= .ok #[(0,2),(2,1)] w:=plq h _ w kR
theorem aJi:TyI Tryz.prog 82 1 8 (.int .u64 0):=TyI.of kR--uint64
theorem aJj:wW Tryz.prog 82=false:=by kernel_rfl
theorem eR:TyI Tryz.prog 131 1 4 (.int .u32 0):=TyI.of kR--uint32
theorem kH:wW Tryz.prog 131=false:=by kernel_rfl
theorem aBk:TyI Tryz.prog 171 5 40 (.agg #[.int .u64 0,.int .u64 0,.int .u64 0,.int .u64 0,.bool false]):=TyI.of kR--natural.cofactors
theorem bKx:wW Tryz.prog 171=true:=by kernel_rfl
theorem bKy {fs:Array Field} (h:Tryz.prog.underlying 171=some (.struct fs)) (w:World):(fs.mapM λ(fl:Field)=>(do pure (fl.offset,<-sizeOf fl.type):Sem (Nat×Nat))).run Tryz.prog w= .ok #[(0,1),(1,1),(2,1),(3,1),(4,1)] w:=plq h _ w kR
theorem aSc:Ent Tryz.prog 41:=bI func41 rfl kR--gridmarket/rational.Sign
theorem bKz:Ent Tryz.prog 67:=bI func67 rfl kR--gridmarket/rational.Norm
theorem aEb:Ent Tryz.prog 78:=bI func78 rfl kR--gridmarket/rational.parts
theorem aXf:Ent Tryz.prog 79:=bI func79 rfl kR--gridmarket/integer.Sign
theorem aFx:Ent Tryz.prog 81:=bI func81 rfl kR--gridmarket/rational.small
theorem aXg:Ent Tryz.prog 82:=bI func82 rfl kR--gridmarket/rational.quotient
theorem aSd:Ent Tryz.prog 83:=bI func83 rfl kR--gridmarket/rational.lowest
theorem aEc:Ent Tryz.prog 84:=bI func84 rfl kR--gridmarket/integer.Mul
theorem aMl:Ent Tryz.prog 85:=bI func85 rfl kR--gridmarket/natural.Mul
theorem bMk:Ent Tryz.prog 111:=bI func111 rfl kR--gridmarket/integer.FromInt
theorem yC:Ent Tryz.prog 120:=bI func120 rfl kR--gridmarket/natural.Compare
theorem aFy:Ent Tryz.prog 121:=bI func121 rfl kR--gridmarket/integer.Add
theorem aXh:Ent Tryz.prog 122:=bI func122 rfl kR--gridmarket/natural.Uint64
theorem vU:Ent Tryz.prog 123:=bI func123 rfl kR--gridmarket/natural.FromUint64
theorem bMl:Ent Tryz.prog 124:=bI func124 rfl kR--gridmarket/integer.Norm
theorem aJk:Ent Tryz.prog 125:=bI func125 rfl kR--gridmarket/natural.Trim
theorem bMm:Ent Tryz.prog 126:=bI func126 rfl kR--gridmarket/natural.GCD
theorem aFz:Ent Tryz.prog 127:=bI func127 rfl kR--gridmarket/natural.DivMod
theorem aAr:Ent Tryz.prog 128:=bI func128 rfl kR--gridmarket/integer.signed
theorem mK:Ent Tryz.prog 129:=bI func129 rfl kR--gridmarket/natural.cut
theorem bMn:Ent Tryz.prog 140:=bI func140 rfl kR--cmp.Compare[int]
theorem bMo:Ent Tryz.prog 146:=bI func146 rfl kR--gridmarket/natural.Add
theorem aOp:Ent Tryz.prog 147:=bI func147 rfl kR--gridmarket/natural.Sub
theorem aGa:Ent Tryz.prog 148:=bI func148 rfl kR--gridmarket/natural.word
theorem bMp:Ent Tryz.prog 149:=bI func149 rfl kR--gridmarket/natural.leading
theorem aJl:Ent Tryz.prog 150:=bI func150 rfl kR--gridmarket/natural.combine
theorem bMq:Ent Tryz.prog 151:=bI func151 rfl kR--gridmarket/natural.divideByLimb
theorem bMr:Ent Tryz.prog 152:=bI func152 rfl kR--gridmarket/natural.divideLong
theorem aXi:Ent Tryz.prog 167:=bI func167 rfl kR--cmp.isNaN[int]
theorem bMs:Ent Tryz.prog 170:=bI func170 rfl kR--cmp.Compare[int64]
theorem bMt:Ent Tryz.prog 171:=bI func171 rfl kR--gridmarket/integer.Compare
theorem aXj:Ent Tryz.prog 172:=bI func172 rfl kR--math/bits.LeadingZeros32
theorem aXk:Ent Tryz.prog 173:=bI func173 rfl kR--gridmarket/natural.window
theorem aXl:Ent Tryz.prog 174:=bI func174 rfl kR--gridmarket/natural.shifted
theorem bMu:Ent Tryz.prog 175:=bI func175 rfl kR--gridmarket/natural.nextDigit
theorem bMv:Ent Tryz.prog 176:=bI func176 rfl kR--gridmarket/natural.ShiftRight
theorem aXm:Ent Tryz.prog 185:=bI func185 rfl kR--cmp.isNaN[int64]
theorem aOq:Ent Tryz.prog 186:=bI func186 rfl kR--gridmarket/natural.window$1
abbrev uT2:=Tryz.underlying2
abbrev uT3:=Tryz.underlying3
abbrev uT4:=Tryz.underlying4
abbrev eC:=Tryz.underlying47
abbrev iK:=Tryz.underlying49
abbrev kK:=Tryz.underlying51
abbrev jE:=Tryz.underlying82
abbrev eS:=Tryz.underlying131
abbrev tB:=Tryz.underlying171
end Go.Proofs.YtlhdigjbokkbiaaGreat.W
namespace Go.Vg
open Go Go.RowKit
section
variable {P:Program} {n:Nat} {f:Nat->Value} {w:World} {ops:Array Oper} {Q:Po}
theorem bMw {id:Nat} (S:World->Prop) (hm:P.follows .mixedOrders=true) (h:∀w1,Below w.heap.size w w1->RA P n ops Q S ops.size (Array.replicate ops.size false) f w1) (hd:ndA ops.toList=true:=by rfl):WP P n (.region id ops true) Q f w:=
 aAo S hm (h w.drew (Below.drew (Below.refl _ _))) hd
end
section
variable {α:Type} {w:World} {e:TypeId} {D:Nat->TypeId->Prop}
theorem Ow.ss {c:α->List Value} {lo size n:Nat} {v:Value} {l:List Value} {xs:List α} (h:Ow w lo e size v n l) (hl:l=(xs.map c).flatten) (hn:n=xs.length) (hs:0<size) (hc:∀x∈xs,(c x).length=size) (hD:∀b,lo<=b->D b e):Ss c size D w v xs:=by
 subst hl hn
 exact⟨⟨hs,hc⟩,h.sc hD⟩
theorem Bk.ss {c:α->List Value} {b size n:Nat} {l:List Value} {xs:List α} (h:Bk w b e l) (hd:D b e) (hl:l=(xs.map c).flatten) (hn:n=xs.length) (hs:0<size) (hc:∀x∈xs,(c x).length=size) (hm:n<=9223372036854775807):Ss c size D w (.slice (some ⟨b,0,none⟩) n n) xs:=by
 subst hn
 refine⟨⟨hs,hc⟩,?_⟩
 rw[<-hl]
 refine h.sc hd ?_ hm
 rw[hl,List.length_flatten,nW]
 rw[fV (f:=List.length∘c) (g:=λ_=>size) (λx hx=>hc x hx)]
 generalize xs=ys
 clear h hc hd hl hm
 induction ys with
 |nil=>simp
 |cons y ys ih=>rw[eT,List.sum_cons,ih,eI,eN,jY]
theorem Bk.sg {g:α->Value} {b n:Nat} {l:List Value} {xs:List α} (h:Bk w b e l) (hd:D b e) (hl:l=xs.map g) (hn:n=xs.length) (hm:n<=9223372036854775807):Sg g D w (.slice (some ⟨b,0,none⟩) n n) xs:=by
 subst hn
 subst hl
 exact h.sc hd (by simp) hm
end
end Go.Vg
namespace Go.Vg
open Go Go.RowKit
section
variable {P:Program} {n:Nat} {Q:Po} {f:Nat->Value} {w w':World} {ops:Array Oper} {o:Oper} {rest:List Oper} {d:Nat} {v:Value}
theorem sE {a b:Value} (h:a=b:=by first|rfl|exact cQ oM|exact aW (by simp)):a=b:=h
abbrev iv (a:Int):Value:=.int .i64 a
abbrev bd (p:Prop) [Decidable p]:Value:=.bool (decide p)
theorem bD (p:Prop) [Decidable p]:(decide p=true/\p)\/(decide p=false/\¬p):=by by_cases h:p<;>simp[h]
theorem wcD {c:Operand} {x y:Code} {p:Prop} [Decidable p] (hc:ev f c= .bool (decide p)) (ht:decide p=true->p->WP P n x Q f w) (he:decide p=false->¬p->WP P n y Q f w):WP P n (.cond c x y) Q f w:=uQ hc (λh=>ht h (of_decide_eq_true h)) (λh=>he h (of_decide_eq_false h))
theorem wsr {id:Nat} {l:List Oper} {y:Code} (h:RL P n l.toArray l ⟨λf w=>WP P n y Q f w,Q.ext,Q.ret⟩ f w) (hd:ndA l=true:=by rfl):WP P n (.seq (.region id l.toArray false) y) Q f w:=dV (cV h hd)
theorem mV {x:Operand} {ty:TypeId} {pos:String} {aft:Array Edge} (hv:ev f x=v) (h:RL P n ops rest Q (st f d v) w) (hn:d<n:=by decide):RL P n ops (⟨some d,.move x,ty,pos,aft,none⟩::rest) Q f w:=RL.val rfl rfl hn (gS hv) h
theorem aS {x:Operand} {ty:TypeId} {pos:String} {aft:Array Edge} (hv:ev f x=v) (h:RL P n ops rest Q (st f d v) w) (hn:d<n:=by decide):RL P n ops (⟨some d,.assign x,ty,pos,aft,none⟩::rest) Q f w:=RL.val rfl rfl hn (aDy hv) h
theorem cL {kf:FuncId} {al:List Operand} {vl:List Value} {tys:Array TypeId} {ty:TypeId} {pos:String} {aft:Array Edge} {Post:Value->World->Prop} (he:Ent P kf) (hc:Calls P kf vl.toArray w λe w'=>∃v,e= .returned v/\Post v w') (ha:al.map (ev f)=vl) (h:∀v w',Post v w'->RL P n ops rest Q (st f d v) w') (hn:d<n:=by decide):RL P n ops (⟨some d,.call ⟨.value (.func kf),al.toArray,tys⟩,ty,pos,aft,none⟩::rest) Q f w:=RL.call rfl rfl hn (gI he ha) hc h
theorem rV {i} {ty:TypeId} {pos:String} {aft:Array Edge} (hr:(execOp (ev f) ⟨some d,i,ty,pos,aft,none⟩).run P w= .ok (.value v) w') (h:RL P n ops rest Q (st f d v) w') (hn:d<n:=by decide):RL P n ops (⟨some d,i,ty,pos,aft,none⟩::rest) Q f w:=RL.val rfl rfl hn hr h
theorem rU {i} {ty:TypeId} {pos:String} {aft:Array Edge} {Post:Value->World->Prop} (hr:Run P f ⟨some d,i,ty,pos,aft,none⟩ w Post) (h:∀v w',Post v w'->RL P n ops rest Q (st f d v) w') (hn:d<n:=by decide):RL P n ops (⟨some d,i,ty,pos,aft,none⟩::rest) Q f w:=RL.run rfl rfl hn hr h
theorem rv (hr:(execOp (ev f) o).run P w= .ok (.value v) w') (h:RL P n ops rest Q (st f d v) w') (hg:o.guard=none:=by rfl) (hd:o.dst=some d:=by rfl) (hn:d<n:=by decide):RL P n ops (o::rest) Q f w:=RL.val hg hd hn hr h
variable {S:World->Prop} {fuel:Nat} {listed:Array Bool}
theorem ra (i:Nat) (hi:ops[i]? =some o) (hr:∀w,(execOp (ev f) o).run P w= .ok (.value v) w) (h:RA P n ops Q S fuel (listed.setIfInBounds i true) (st f d v) w) (hok:nH ops listed i=true:=by kernel_rfl) (hg:o.guard=none:=by rfl) (hd:o.dst=some d:=by rfl) (hn:d<n:=by decide):RA P n ops Q S (fuel+1) listed f w:=
 RA.take i hi hok hg hd hn hr h
theorem aM (i:Nat) {x:Operand} {ty:TypeId} {pos:String} {aft:Array Edge} (hi:ops[i]? =some ⟨some d,.move x,ty,pos,aft,none⟩) (hv:ev f x=v) (h:RA P n ops Q S fuel (listed.setIfInBounds i true) (st f d v) w) (hok:nH ops listed i=true:=by kernel_rfl) (hn:d<n:=by decide):RA P n ops Q S (fuel+1) listed f w:=RA.take i hi hok rfl rfl hn (λ_=>gS hv) h
theorem aA (i:Nat) {x:Operand} {ty:TypeId} {pos:String} {aft:Array Edge} (hi:ops[i]? =some ⟨some d,.assign x,ty,pos,aft,none⟩) (hv:ev f x=v) (h:RA P n ops Q S fuel (listed.setIfInBounds i true) (st f d v) w) (hok:nH ops listed i=true:=by kernel_rfl) (hn:d<n:=by decide):RA P n ops Q S (fuel+1) listed f w:=RA.take i hi hok rfl rfl hn (λ_=>aDy hv) h
theorem aR (i:Nat) {op:Op} {ty:TypeId} {pos:String} {aft:Array Edge} (hi:ops[i]? =some ⟨some d,op,ty,pos,aft,none⟩) (hr:∀u,S u->(execOp (ev f) ⟨some d,op,ty,pos,aft,none⟩).run P u= .ok (.value v) u) (h:RA P n ops Q S fuel (listed.setIfInBounds i true) (st f d v) w) (hS:S w:=by exact gE _) (hok:nH ops listed i=true:=by kernel_rfl) (hrd:tT ⟨some d,op,ty,pos,aft,none⟩=true:=by rfl) (hn:d<n:=by decide):RA P n ops Q S (fuel+1) listed f w:=RA.rd i hi hok hrd rfl rfl hn hS hr h
theorem aG (i:Nat) {j t:Nat} {want:Bool} {op:Op} {ty:TypeId} {pos:String} {aft:Array Edge} (hi:ops[i]? =some ⟨some d,op,ty,pos,aft,some (j,want)⟩) (hj:(ops[j]?).bind (·.dst)=some t) (hf:f t= .bool want) (hr:∀w,(execOp (ev f) ⟨some d,op,ty,pos,aft,some (j,want)⟩).run P w= .ok (.value v) w) (h:RA P n ops Q S fuel (listed.setIfInBounds i true) (st f d v) w) (hok:nH ops listed i=true:=by kernel_rfl) (hn:d<n:=by decide):RA P n ops Q S (fuel+1) listed f w:=RA.gtake i hi hok rfl hj hf rfl hn hr h
theorem aN (i:Nat) {j t:Nat} {want:Bool} {op:Op} {ty:TypeId} {pos:String} {aft:Array Edge} (hi:ops[i]? =some ⟨some d,op,ty,pos,aft,some (j,want)⟩) (hj:(ops[j]?).bind (·.dst)=some t) (hf:f t= .bool (!want)\/f t=undef) (h:RA P n ops Q S fuel (listed.setIfInBounds i true) (st f d undef) w) (hok:nH ops listed i=true:=by kernel_rfl) (hn:d<n:=by decide):RA P n ops Q S (fuel+1) listed f w:=RA.gno i hi hok rfl hj hf rfl hn h
theorem cS {i:Nat} {rs:List Nat} {kf:FuncId} {al:List Operand} {vl:List Value} {tys:Array TypeId} {ty:TypeId} {pos:String} {aft:Array Edge} {Post:Value->World->Prop} (he:Ent P kf) (hc:Calls P kf vl.toArray w λe w'=>∃v,e= .returned v/\Post v w') (hi:ops[i]? =some ⟨some d,.call ⟨.value (.func kf),al.toArray,tys⟩,ty,pos,aft,none⟩) (ha:al.map (ev f)=vl) (h:∀v w',Post v w'->Oks ops S i w w'/\RA P n ops Q S fuel (listed.setIfInBounds i true) (st f d v) w') (hs:RS P n ops Q S fuel listed f w rs) (hn:d<n:=by decide):RS P n ops Q S fuel listed f w (i::rs):=RS.call hi rfl rfl hn (gI he ha) hc h hs
theorem rm {i:Nat} (he:Ext w w') (h:RA P n ops Q (λu=>Ext w' u) fuel listed f w'):Oks ops (λu=>Ext w u) i w w'/\RA P n ops Q (λu=>Ext w u) fuel listed f w':=
 ⟨.inr (.inr he),RA.more (S':=λu=>Ext w' u) (λ_ hu=>aB he hu) h⟩
end
section
variable {P:Program} {f:Nat->Value} {w:World} {dst:Option Tmp} {ty:TypeId} {pos:String} {aft:Array Edge} {g:Option (Nat×Bool)} {x y:Operand} {t:TypeId}
theorem jK {T:TypeId} {b o:Nat} {l:List Value} {cs:List Value} {size bytes:Nat} {zz:Value} (ht:TyI P t size bytes zz) (hx:ev f x= .pointer (some ⟨b,o,none⟩)) (hy:ev f y= .agg cs.toArray) (hc:(Value.agg cs.toArray).cells=cs.toArray) (hs:cs.length=size) (h1:∀u∈cs,u.oneCell'=true) (hb:Bk w b T l) (hfit:o+cs.length<=l.length):aVb P f ⟨dst,.store t x y,ty,pos,aft,g⟩ w λw'=>Bk w' b T (spl l o cs)/\Exc b w w'/\w'.heap.size=w.heap.size:=zN ht hx hy hc hs h1 hb hfit
theorem qT {cs:List Value} (hx:ev f x= .agg cs.toArray) (hc:(Value.agg cs.toArray).cells=cs.toArray):Run P f ⟨dst,.box t x,ty,pos,aft,g⟩ w λv w'=>∃b,v= .pointer (some ⟨b,0,none⟩)/\Mk w t cs b w':=aWs hx hc
end
theorem _root_.Go.RowKit.Below.nx {w0 w w':World} (h:Below w0.heap.size w0 w) (k:Ext w w'):Below w0.heap.size w0 w':=Below.ext h h.size k
theorem _root_.Go.RowKit.Below.nb {b:Nat} {w0 w w':World} (h:Below w0.heap.size w0 w) (k:Exc b w w') (hb:w0.heap.size<=b):Below w0.heap.size w0 w':=Below.exc h h.size k hb
theorem _root_.Go.RowKit.Below.ge {b:Nat} {w0 w:World} (h:Below w0.heap.size w0 w) (hs:b=w.heap.size):w0.heap.size<=b:=by rw[hs];exact h.size
end Go.Vg
namespace Go.Proofs.YtlhdigjbokkbiaaGreat.W
open Go.Vg Go.RowKit _root_.Go.Proofs.Tryz
def cmpI (x y:Int):Int:=if x<y then-1 else if y<x then 1 else 0
theorem aIk {x:Int} (w:World):
 Calls Tryz.prog 167 #[(iv x)] w λe w'=>∃v,e= .returned v/\v= .bool false/\w=w':=by
 refine eE (n:=6) (rs:=[.tmp 2]) func167 rfl rfl rfl bL ?_
 refine iU λF0 hF0=>?_
 refine wsr (aS (v:=(.bool false)) rfl (aE (wsr (mV (v:=(iv x)) (hF0 0) (mV (v:=(iv x)) (hF0 0) (rV (xO (k:=.i64) (a:=x) (b:=x) rfl rfl) (aS (v:=(bd (x≠x))) rfl (aE ?_))))))))
 refine gH ?_
 refine⟨[(bd (x≠x))],⟨rfl,trivial⟩,?_⟩
 exact⟨aW (by simp),rfl⟩
theorem aEd {x:Int} (w:World):
 Calls Tryz.prog 185 #[(iv x)] w λe w'=>∃v,e= .returned v/\v= .bool false/\w=w':=by
 refine eE (n:=6) (rs:=[.tmp 2]) func185 rfl rfl rfl bL ?_
 refine iU λF0 hF0=>?_
 refine wsr (aS (v:=(.bool false)) rfl (aE (wsr (mV (v:=(iv x)) (hF0 0) (mV (v:=(iv x)) (hF0 0) (rV (xO (k:=.i64) (a:=x) (b:=x) rfl rfl) (aS (v:=(bd (x≠x))) rfl (aE ?_))))))))
 refine gH ?_
 refine⟨[(bd (x≠x))],⟨rfl,trivial⟩,?_⟩
 exact⟨aW (by simp),rfl⟩
theorem bGu {x y:Int} (w:World):
 Calls Tryz.prog 140 #[(iv x),(iv y)] w λe w'=>∃v,e= .returned v/\v= .int .i64 (cmpI x y)/\w=w':=by
 refine eE (n:=20) (rs:=[.tmp 4]) func140 rfl rfl rfl bL ?_
 refine iU λF0 hF0=>?_
 refine wsr (aS (v:=(iv 0)) rfl (aE (wsr (mV (v:=(iv x)) (hF0 0) ?_))))
 refine cL aXi (aIk _) rfl ?_
 rintro _ _ ⟨rfl,rfl⟩
 refine aS (v:=(.bool false)) rfl (aE (wsr (mV (v:=(iv y)) (hF0 1) ?_)))
 refine cL aXi (aIk _) rfl ?_
 rintro _ _ ⟨rfl,rfl⟩
 refine aS (v:=(.bool false)) rfl (aE (dV (wsr (mV (v:=(.bool false)) rfl (aE ?_)))))
 refine tE rfl ?_
 refine fL ?_
 refine dV (wsr (mV (v:=(.bool false)) rfl (aE ?_)))
 refine tE rfl ?_
 refine fL ?_
 refine dV (wsr (mV (v:=(iv x)) (hF0 0) (mV (v:=(iv y)) (hF0 1) (rV (mP (k:=.i64) (a:=x) (b:=y) rfl rfl) (aE ?_)))))
 refine wcD (p:=x<y) rfl (λhb3 hb3p=>?_) (λhb3 hb3p=>?_)
 ·refine wsr ?_
  refine aS (v:=(iv (-1))) rfl (aE ?_)
  refine gH ?_
  refine⟨[(iv (-1))],⟨rfl,trivial⟩,?_⟩
  exact⟨cQ (by unfold cmpI;(repeat split)<;>omega),rfl⟩
 refine fL ?_
 refine dV (wsr (mV (v:=(iv x)) (hF0 0) (mV (v:=(iv y)) (hF0 1) (rV (aAf (k:=.i64) (a:=x) (b:=y) rfl rfl) (aE ?_)))))
 refine wcD (p:=y<x) rfl (λhb4 hb4p=>?_) (λhb4 hb4p=>?_)
 ·refine wsr ?_
  refine aS (v:=(iv 1)) rfl (aE ?_)
  refine gH ?_
  refine⟨[(iv 1)],⟨rfl,trivial⟩,?_⟩
  exact⟨cQ (by unfold cmpI;(repeat split)<;>omega),rfl⟩
 refine fL ?_
 refine wsr (aS (v:=(iv 0)) rfl (aE ?_))
 refine gH ?_
 refine⟨[(iv 0)],⟨rfl,trivial⟩,?_⟩
 exact⟨cQ (by unfold cmpI;(repeat split)<;>omega),rfl⟩
theorem aVf {x y:Int} (w:World):
 Calls Tryz.prog 170 #[(iv x),(iv y)] w λe w'=>∃v,e= .returned v/\v= .int .i64 (cmpI x y)/\w=w':=by
 refine eE (n:=20) (rs:=[.tmp 4]) func170 rfl rfl rfl bL ?_
 refine iU λF0 hF0=>?_
 refine wsr (aS (v:=(iv 0)) rfl (aE (wsr (mV (v:=(iv x)) (hF0 0) ?_))))
 refine cL aXm (aEd _) rfl ?_
 rintro _ _ ⟨rfl,rfl⟩
 refine aS (v:=(.bool false)) rfl (aE (wsr (mV (v:=(iv y)) (hF0 1) ?_)))
 refine cL aXm (aEd _) rfl ?_
 rintro _ _ ⟨rfl,rfl⟩
 refine aS (v:=(.bool false)) rfl (aE (dV (wsr (mV (v:=(.bool false)) rfl (aE ?_)))))
 refine tE rfl ?_
 refine fL ?_
 refine dV (wsr (mV (v:=(.bool false)) rfl (aE ?_)))
 refine tE rfl ?_
 refine fL ?_
 refine dV (wsr (mV (v:=(iv x)) (hF0 0) (mV (v:=(iv y)) (hF0 1) (rV (mP (k:=.i64) (a:=x) (b:=y) rfl rfl) (aE ?_)))))
 refine wcD (p:=x<y) rfl (λhb3 hb3p=>?_) (λhb3 hb3p=>?_)
 ·refine wsr ?_
  refine aS (v:=(iv (-1))) rfl (aE ?_)
  refine gH ?_
  refine⟨[(iv (-1))],⟨rfl,trivial⟩,?_⟩
  exact⟨cQ (by unfold cmpI;(repeat split)<;>omega),rfl⟩
 refine fL ?_
 refine dV (wsr (mV (v:=(iv x)) (hF0 0) (mV (v:=(iv y)) (hF0 1) (rV (aAf (k:=.i64) (a:=x) (b:=y) rfl rfl) (aE ?_)))))
 refine wcD (p:=y<x) rfl (λhb4 hb4p=>?_) (λhb4 hb4p=>?_)
 ·refine wsr ?_
  refine aS (v:=(iv 1)) rfl (aE ?_)
  refine gH ?_
  refine⟨[(iv 1)],⟨rfl,trivial⟩,?_⟩
  exact⟨cQ (by unfold cmpI;(repeat split)<;>omega),rfl⟩
 refine fL ?_
 refine wsr (aS (v:=(iv 0)) rfl (aE ?_))
 refine gH ?_
 refine⟨[(iv 0)],⟨rfl,trivial⟩,?_⟩
 exact⟨cQ (by unfold cmpI;(repeat split)<;>omega),rfl⟩
end Go.Proofs.YtlhdigjbokkbiaaGreat.W
namespace Go.Vg
open Go Go.RowKit Go.Vm
theorem cu32 (x:Nat):IntKind.u32.wrap (x:Int)=((x%4294967296:Nat):Int):=by rw[bTl];omega
theorem shr32 (x:Nat):(x:Int).fdiv (2^(min (32:Int).toNat IntKind.u64.bits))=((x/4294967296:Nat):Int):=by
 rw[iS _ dC]
 show(x:Int)/(2^32:Int)=_
 omega
theorem shl32 {x:Nat} (h:x<4294967296):IntKind.u64.wrap ((x:Int)*2^(min (32:Int).toNat IntKind.u64.bits))=((x*4294967296:Nat):Int):=by
 show IntKind.u64.wrap ((x:Int)*(2^32:Int))=_
 rw[iV oM]
 omega
theorem or32 {x y:Nat} (hx:x<4294967296) (hy:y<4294967296):IntKind.u64.wrap ((BitVec.ofInt IntKind.u64.bits ((x*4294967296:Nat):Int)|||BitVec.ofInt IntKind.u64.bits (y:Int)).toNat:Int)=((x*4294967296+y:Nat):Int):=by
 show IntKind.u64.wrap ((BitVec.ofInt 64 ((x*4294967296:Nat):Int)|||BitVec.ofInt 64 (y:Int)).toNat:Int)=_
 rw[gK,gK,sT,iF,iF,cW oM,cW oM]
 have h:=iO (i:=32) (b:=y) oM x
 rw[bO (2^32) x] at h
 rw[show x*4294967296=x*2^32 from rfl,<-h,iV oM]
end Go.Vg
namespace Go.Vg
open Go Go.RowKit Go.Vm
theorem quo32 {i:Nat} (h:i<=4611686018427387904):IntKind.i64.wrap ((i:Int).tdiv 32)=((i/32:Nat):Int):=by
 rw[mD oM,jS oM];omega
theorem rem32 (i:Nat):(i:Int).tmod 32=((i%32:Nat):Int):=by
 rw[mE oM];omega
theorem quoN {a b:Nat} (h:a<18446744073709551616):IntKind.u64.wrap ((a:Int).tdiv (b:Int))=((a/b:Nat):Int):=by
 rw[mD oM,<-rP]
 have:=iT a b
 generalize a/b=q at*
 exact iV oM
theorem aVg (a b:Nat):(a:Int).tmod (b:Int)=((a%b:Nat):Int):=by
 rw[mE oM,<-Int.natCast_emod]
end Go.Vg
namespace Go.Vg
open Go Go.RowKit Go.Vm
def isU (u:Value):Bool:=match u with
 |.int .u32 _=>true
 |_=>false
def NoU (l:List Value):Prop:=∀u∈l,isU u=false
theorem iL:NoU []:=λ_ h=>by cases h
theorem cH {u:Value} {l:List Value} (h:isU u=false) (t:NoU l):NoU (u::l):=λz hz=>by
 rcases bJ.1 hz with rfl|hz
 ·exact h
 exact t z hz
theorem Sc.nu {D:Nat->TypeId->Prop} {w:World} {size n:Nat} {v:Value} {l:List Value} (h:Sc D w size v n l):isU v=false:=by
 obtain⟨A,c,rfl,_⟩:=h
 rfl
theorem Sg.nu {α:Type} {g:α->Value} {D:Nat->TypeId->Prop} {w:World} {v:Value} {xs:List α} (h:Sg g D w v xs):isU v=false:=Sc.nu h
theorem Ss.nu {α:Type} {c:α->List Value} {size:Nat} {D:Nat->TypeId->Prop} {w:World} {v:Value} {xs:List α} (h:Ss c size D w v xs):isU v=false:=Sc.nu h.2
theorem Sg.ap {D:Nat->TypeId->Prop} {w w':World} {v:Value} {xs:List Nat} (h:Sg (gN .u32) D w v xs) {b:Nat} {T:TypeId} {l:List Value} (e:Exc b w w') (hb:Bk w b T l) (hl:NoU l):Sg (gN .u32) D w' v xs:=by
 obtain⟨A,c,rfl,h1,h2,h3,h4⟩:=h
 refine⟨A,c,rfl,h1,h2,h3,?_⟩
 by_cases hne:xs=[]
 ·exact .inl (by rw[hne];rfl)
 rcases h4 with h4|⟨b',o,rfl,hr⟩
 ·exact .inl h4
 right
 refine⟨b',o,rfl,?_⟩
 rcases hr with hr|⟨cs,T',fz,hh,hd,hc⟩
 ·exact .inl hr
 right
 refine⟨cs,T',fz,?_,hd,hc⟩
 cases xs with
 |nil=>exact absurd rfl hne
 |cons x xs=>
  have h0:=hc 0 (gN .u32 x) rfl
  by_cases hb':b'=b
  ·subst hb'
   rw[show w.heap[b']? =_ from hb] at hh
   injection hh with hh
   injection hh with hcs _ _
   subst hcs
   have hm:gN .u32 x∈l:=by
    have:l[o+0]? =some (gN .u32 x):=by simpa using h0
    exact aX this
   have:=hl _ hm
   cases this
  exact(e.block b' (fW hh) hb').trans hh
end Go.Vg
namespace Go.Vg
open Go Go.RowKit Go.Vm
theorem Sg.fr {w0 w w':World} {U:TypeId} {v:Value} {xs:List Nat} (h:Sg (gN .u32) (λb T=>w.heap.size<=b/\T=U) w' v xs) (hE:Below w0.heap.size w0 w):Sg (gN .u32) (λb T=>w0.heap.size<=b/\T=U) w' v xs:=h.mono λ_ _ h=>⟨bA hE.size h.1,h.2⟩
end Go.Vg
namespace Go.Vg
open Go Go.RowKit Go.Vm
section
variable {P:Program} {f:Nat->Value} {w:World} {dst:Option Tmp} {ty:TypeId} {pos:String} {aft:Array Edge} {gd:Option (Nat×Bool)} {x y:Operand} {t t' e:TypeId} {D:Nat->TypeId->Prop}
theorem bGv {α:Type} {g:α->Value} {b n cap bytes:Nat} {zz v2:Value} {xs ys:List α} (hu:P.underlying t=some (.slice e)) (ht:TyI P e 1 bytes zz) (hx:ev f x= .slice (some ⟨b,0,none⟩) n cap) (hy:ev f y=v2)
 (ha:Ar g w b e 0 ys n) (hs:Sg g D w v2 xs) (hn:xs.length=n) (h1:∀z,(g z).oneCell'=true):
 Run P f ⟨dst,.call ⟨.builtin .copy,#[x,y],#[t,t']⟩,ty,pos,aft,gd⟩ w λv w'=>v= .int .i64 (xs.length:Nat)/\Ar g w' b e 0 xs n/\Exc b w w':=by
 obtain⟨⟨pre,post,hp,hb⟩,hl⟩:=ha
 have hp0:pre=[]:=bX hp
 subst hp0
 obtain⟨v,w',hr,h2,h3,h4⟩:=bMg (P:=P) (f:=f) (dst:=dst) (ty:=ty) (pos:=pos) (aft:=aft) (g:=gd) (t':=t') (n:=xs.length) (o:=0) hu ht hx hy hb hs oM rfl (λu hu=>by obtain⟨z,-,rfl⟩:=cP.1 hu;exact h1 z) (by simp;omega)
 refine⟨v,w',hr,h2,⟨⟨[],post,rfl,?_⟩,hn⟩,h4⟩
 have e1:spl ([]++ys.map g++post) 0 (xs.map g)=[]++xs.map g++post:=by
  unfold spl
  simp only[zF,kC,fK,bV]
  rw[wU,cB (by simp;omega)]
  simp[show xs.length-ys.length=0 by omega]
 rw[e1] at h3
 exact h3
end
end Go.Vg
namespace Go.Vg
open Go Go.RowKit Go.Vm
def Ag {α:Type} (g:α->Value) (w:World) (b:Nat) (T:TypeId) (pre:List Value) (xs:List α) (post:List Value) (n:Nat):Prop:=Bk w b T (pre++xs.map g++post)/\xs.length=n
section
variable {α:Type} {g:α->Value} {w w':World} {b n:Nat} {T:TypeId} {pre post:List Value} {xs:List α}
theorem Ag.ar (h:Ag g w b T pre xs post n):Ar g w b T pre.length xs n:=⟨⟨pre,post,rfl,h.1⟩,h.2⟩
theorem Ag.ext (h:Ag g w b T pre xs post n) (e:Ext w w'):Ag g w' b T pre xs post n:=⟨h.1.ext e,h.2⟩
theorem Ag.lt (h:Ag g w b T pre xs post n):b<w.heap.size:=h.1.lt
theorem Ag.cell [Inhabited α] (h:Ag g w b T pre xs post n) {i:Int} (k:Nat) (hi:i=(k:Int)) (hk:k<n):w.cell? ⟨b,pre.length+i.toNat*1,none⟩=some (g (xs.getD k default)):=h.ar.cell k hi hk
theorem Ag.sm {D:Nat->TypeId->Prop} (h:Ag g w b T pre xs post n) (e:Exc b w w') (hD:¬D b T):Sm D w w':=h.1.sm e hD
end
section
variable {P:Program} {f:Nat->Value} {w:World} {dst:Option Tmp} {ty:TypeId} {pos:String} {aft:Array Edge} {gd:Option (Nat×Bool)} {x y z:Operand} {t e:TypeId}
theorem aJm {α:Type} {g:α->Value} {T:TypeId} {b n bytes:Nat} {pre post:List Value} {xs:List α} {u:α} {i:Int} {vv zz:Value} (ht:TyI P t 1 bytes zz) (hx:ev f x= .pointer (some ⟨b,pre.length+i.toNat*1,none⟩)) (hy:ev f y=vv) (hv:vv=g u) (hc:(g u).cells=#[g u]) (h1:(g u).oneCell'=true)
 (ha:Ag g w b T pre xs post n) (k:Nat) (hi:i=(k:Int)) (hk:k<n):
 aVb P f ⟨dst,.store t x y,ty,pos,aft,gd⟩ w λw'=>Ag g w' b T pre (xs.set k u) post n/\Exc b w w':=by
 obtain⟨h3,h4⟩:=ha
 subst hi hv
 have hk':k<xs.length:=by rw[h4];exact hk
 obtain⟨w',hr,h5,h6,_⟩:=zN (P:=P) (f:=f) (dst:=dst) (ty:=ty) (pos:=pos) (aft:=aft) (g:=gd) (cs:=[g u]) ht hx hy hc rfl (by simpa using h1) h3 (by simp;omega)
 refine⟨w',hr,⟨?_,by simpa using h4⟩,h6⟩
 have e:((k:Int)).toNat=k:=bP k
 rw[e,aRw g pre post xs k u hk'] at h5
 exact h5
end
end Go.Vg
namespace Go.Proofs.YtlhdigjbokkbiaaGreat.W
open Go.Vg Go.RowKit _root_.Go.Proofs.Tryz
open Go.Vm
theorem cmpI_neg {a b:Int}:cmpI a b<0↔a<b:=by unfold cmpI;constructor<;>intro h<;>(repeat split at*)<;>omega
theorem wG {a b:Int}:cmpI a b=0↔a=b:=by unfold cmpI;constructor<;>intro h<;>(repeat split at*)<;>omega
end Go.Proofs.YtlhdigjbokkbiaaGreat.W
namespace Go.Vm
def bef (P:Nat->Rat) (j i:Nat):Prop:=P i<P j\/(P j=P i/\j<i)
instance (P:Nat->Rat) (j i:Nat):Decidable (bef P j i):=inferInstanceAs (Decidable (_\/_))
def Seg (P:Nat->Rat) (n:Nat) (M:List Nat):Prop:=M.Nodup/\(∀i∈M,i<n)/\∀i∈M,∀j,j<n->j∉M->bef P i j
theorem Seg.nil (P:Nat->Rat) (n:Nat):Seg P n []:=⟨rB,by simp,by simp⟩
def Best (P:Nat->Rat) (M:List Nat) (k:Nat) (b:Int):Prop:=(b=-1/\∀j,j<k->j∈M)\/∃c:Nat,b=(c:Int)/\c<k/\c∉M/\∀j,j<k->j∉M->j≠c->bef P c j
theorem Best.zero (P:Nat->Rat) (M:List Nat):Best P M 0 (-1):=.inl ⟨rfl,λ_ h=>absurd h (aV _)⟩
theorem Best.take {P:Nat->Rat} {M:List Nat} {k:Nat} {b:Int} (h:Best P M k b) (hk:k∉M) (hp:b=-1\/P b.toNat<P k):Best P M (k+1) (k:Int):=by
 refine .inr ⟨k,rfl,by omega,hk,λj hj hn hc=>?_⟩
 have hj':j<k:=by omega
 rcases h with ⟨h1,h2⟩|⟨c,h1,h2,h3,h4⟩
 ·exact absurd (h2 j hj') hn
 have hp':P c<P k:=by
  rcases hp with hp|hp
  ·omega
  rw[h1,bP] at hp;exact hp
 by_cases e:j=c
 ·subst e;exact .inl hp'
 have:=h4 j hj' hn e
 unfold bef at*;grind
end Go.Vm
namespace Go.Vg
open Go Go.RowKit Go.Vm
abbrev RC:Type:=Bool×Value×Value
abbrev bGw:RC->List Value:=λc=>[.bool c.1,c.2.1,c.2.2]
def Rz (L:Nat) (D:Nat->TypeId->Prop) (w:World) (c:RC) (q:Rat):Prop:=
 ∃x d,Sg (gN .u32) D w c.2.1 x/\Lm x/\x.length<=L/\Sg (gN .u32) D w c.2.2 d/\Lm d/\d.length<=L/\jH c.1 (val x) (val d)=q
section
variable {L L':Nat} {D D':Nat->TypeId->Prop} {w w':World} {c:RC} {q:Rat} {v:Value} {qs:List Rat}
theorem Rz.tr (h:Rz L D w c q) (hs:Sm D w w'):Rz L D w' c q:=by
 obtain⟨x,d,h1,h2,h3,h4,h5⟩:=h
 exact⟨x,d,h1.tr hs,h2,h3,h4.tr hs,h5⟩
theorem Rz.mono (h:Rz L D w c q) (hD:∀b T,D b T->D' b T):Rz L D' w c q:=by
 obtain⟨x,d,h1,h2,h3,h4,h5⟩:=h
 exact⟨x,d,h1.mono hD,h2,h3,h4.mono hD,h5⟩
theorem Rz.of {s:Bool} {vn vd:Value} {x d:List Nat} (h1:Sg (gN .u32) D w vn x) (m1:Lm x) (l1:x.length<=L) (h2:Sg (gN .u32) D w vd d) (m2:Lm d) (l2:d.length<=L) (e:jH s (val x) (val d)=q):Rz L D w (s,vn,vd) q:=
 ⟨x,d,h1,m1,l1,h2,m2,l2,e⟩
def Rs (L:Nat) (D:Nat->TypeId->Prop) (w:World) (v:Value) (qs:List Rat):Prop:=
 ∃cs:List RC,Ss bGw 3 D w v cs/\cs.length=qs.length/\∀k,k<qs.length->Rz L D w (cs.getD k default) (qs.getD k default)
theorem Rs.tr (h:Rs L D w v qs) (hs:Sm D w w'):Rs L D w' v qs:=by
 obtain⟨cs,h1,h2,h3⟩:=h
 exact⟨cs,h1.tr hs,h2,λk hk=>(h3 k hk).tr hs⟩
theorem Rs.mono (h:Rs L D w v qs) (hD:∀b T,D b T->D' b T):Rs L D' w v qs:=by
 obtain⟨cs,h1,h2,h3⟩:=h
 exact⟨cs,h1.mono hD,h2,λk hk=>(h3 k hk).mono hD⟩
end
def Aa {α:Type} (c:α->List Value) (size:Nat) (w:World) (b:Nat) (T:TypeId) (xs:List α) (n:Nat):Prop:=(∀x,(c x).length=size)/\Bk w b T (xs.map c).flatten/\xs.length=n
section
variable {α:Type} {c:α->List Value} {size:Nat} {w w':World} {b n:Nat} {T:TypeId} {xs:List α}
theorem Aa.ext (h:Aa c size w b T xs n) (e:Ext w w'):Aa c size w' b T xs n:=⟨h.1,h.2.1.ext e,h.2.2⟩
theorem Aa.lt (h:Aa c size w b T xs n):b<w.heap.size:=h.2.1.lt
theorem Aa.ss {D:Nat->TypeId->Prop} (h:Aa c size w b T xs n) (hs:0<size) (hd:D b T) (hm:n<=9223372036854775807):Ss c size D w (.slice (some ⟨b,0,none⟩) n n) xs:=
 h.2.1.ss hd rfl h.2.2.symm hs (λx _=>h.1 x) hm
end
def Aq (L:Nat) (D:Nat->TypeId->Prop) (w:World) (b:Nat) (T:TypeId) (qs:List Rat) (n:Nat):Prop:=
 ∃cs:List RC,Aa bGw 3 w b T cs n/\qs.length=n/\∀k,k<n->Rz L D w (cs.getD k default) (qs.getD k default)
section
variable {L L':Nat} {D D':Nat->TypeId->Prop} {w w':World} {b n:Nat} {T:TypeId} {qs:List Rat}
theorem Aq.ext (h:Aq L D w b T qs n) (e:Ext w w'):Aq L D w' b T qs n:=by
 obtain⟨cs,h1,h2,h3⟩:=h
 exact⟨cs,h1.ext e,h2,λk hk=>(h3 k hk).tr (aH e)⟩
theorem Aq.lt (h:Aq L D w b T qs n):b<w.heap.size:=by
 obtain⟨cs,h1,h2,h3⟩:=h
 exact h1.lt
theorem Rz.zero:Rz L D w (false,.slice none 0 0,.slice none 0 0) 0:=⟨[],[],Sg.nil,Lm.nil,aF _,Sg.nil,Lm.nil,aF _,rfl⟩
end
end Go.Vg
namespace Go.Vg
open Go Go.RowKit Go.Vm
def Nb (w:World) (b:Nat):Prop:=∃T l,Bk w b T l/\NoU l
theorem Nb.of {w:World} {b:Nat} {T:TypeId} {l:List Value} (h:Bk w b T l) (hl:NoU l):Nb w b:=⟨T,l,h,hl⟩
theorem Sg.apn {D:Nat->TypeId->Prop} {w w':World} {v:Value} {xs:List Nat} (h:Sg (gN .u32) D w v xs) {b:Nat} (e:Exc b w w') (hb:Nb w b):Sg (gN .u32) D w' v xs:=by
 obtain⟨T,l,h1,h2⟩:=hb
 exact h.ap e h1 h2
def Af {α:Type} (g:α->Value) (w:World) (b:Nat) (T:TypeId) (xs:List α) (n:Nat):Prop:=Bk w b T (xs.map g)/\xs.length=n
section
variable {α:Type} {g:α->Value} {D:Nat->TypeId->Prop} {w w':World} {b n:Nat} {T:TypeId} {xs:List α}
theorem Af.ext (h:Af g w b T xs n) (e:Ext w w'):Af g w' b T xs n:=⟨h.1.ext e,h.2⟩
theorem Af.lt (h:Af g w b T xs n):b<w.heap.size:=h.1.lt
theorem Af.nb (h:Af g w b T xs n) (hg:∀x,isU (g x)=false):Nb w b:=⟨T,_,h.1,λu hu=>by obtain⟨z,-,rfl⟩:=cP.1 hu;exact hg z⟩
end
section
variable {L:Nat} {D:Nat->TypeId->Prop} {w w':World} {b n:Nat} {T:TypeId} {qs:List Rat}
theorem Aq.nb (h:Aq L D w b T qs n):Nb w b:=by
 obtain⟨cs,h1,h2,h3⟩:=h
 refine⟨T,_,h1.2.1,λu hu=>?_⟩
 obtain⟨l,hl,hul⟩:=rQ.1 hu
 obtain⟨c,hc,rfl⟩:=cP.1 hl
 obtain⟨k,hk,rfl⟩:=List.getElem_of_mem hc
 have hkn:k<n:=by rw[<-h1.2.2];exact hk
 have hz:=h3 k hkn
 rw[show cs.getD k default=cs[k] by simp[hk]] at hz
 obtain⟨x,d,g1,_,_,g2,_⟩:=hz
 simp only[bGw,bJ,fA,or_false] at hul
 rcases hul with rfl|rfl|rfl
 ·rfl
 ·exact g1.nu
 exact g2.nu
end
end Go.Vg
namespace Go.Vg
open Go Go.RowKit Go.Vm
def Oq (L:Nat) (D:Nat->TypeId->Prop) (w:World) (lo:Nat) (T:TypeId) (v:Value) (qs:List Rat):Prop:=
 ∃cs:List RC,Ow w lo T 3 v qs.length (cs.map bGw).flatten/\cs.length=qs.length/\∀k,k<qs.length->Rz L D w (cs.getD k default) (qs.getD k default)
section
variable {L:Nat} {D D':Nat->TypeId->Prop} {w w':World} {lo b:Nat} {T T':TypeId} {v:Value} {qs:List Rat} {l:List Value}
theorem Oq.nil:Oq L D w lo T (.slice none 0 0) []:=⟨[],Ow.nil lo 3,rfl,λk hk=>absurd hk (aV _)⟩
theorem Oq.ext (h:Oq L D w lo T v qs) (e:Ext w w'):Oq L D w' lo T v qs:=by
 obtain⟨cs,h1,h2,h3⟩:=h
 exact⟨cs,h1.ext e,h2,λk hk=>(h3 k hk).tr (aH e)⟩
theorem Oq.lt (h:Oq L D w lo T v qs) (b:Nat) (hb:v.ownBlock=some b):b<w.heap.size:=by
 obtain⟨cs,h1,h2,h3⟩:=h
 exact(World.ownsRow.lt h1 b hb).2
theorem Oq.rs (h:Oq L D w lo T v qs) (h1:∀b,lo<=b->D' b T) (h2:∀b T,D b T->D' b T):Rs L D' w v qs:=by
 obtain⟨cs,g1,g2,g3⟩:=h
 exact⟨cs,g1.ss rfl g2.symm dC (λ_ _=>rfl) h1,g2,λk hk=>(g3 k hk).mono h2⟩
end
end Go.Vg
namespace Go.Proofs.YtlhdigjbokkbiaaGreat.W
open Go.Vg Go.RowKit _root_.Go.Proofs.Tryz
open Go.Vm
theorem aXn {sx sy:Bool} {x y:Nat} {zx zy:Int} (ex:sg sx x=zx) (ey:sg sy y=zy) (hs:sx≠sy) (h:y<=x):sg sx (x-y)=zx+zy:=by
 rw[<-ex,<-ey]
 cases sx<;>cases sy<;>simp[sg] at*<;>omega
theorem aXo {sx sy:Bool} {x y:Nat} {zx zy:Int} (ex:sg sx x=zx) (ey:sg sy y=zy) (hs:sx≠sy) (h:¬y<=x):sg sy (y-x)=zx+zy:=by
 rw[<-ex,<-ey]
 cases sx<;>cases sy<;>simp[sg] at*<;>omega
theorem bTm {b c:Bool} {v:Value} (h:b=c):Value.agg #[.bool b,v]= .agg #[.bool c,v]:=by rw[h]
theorem aXp {k x:Nat} (hk:k<=1) (hx:x<4294967296):IntKind.u64.wrap ((x:Int)*2^(min (((32:Int)*(k:Nat)).toNat) IntKind.u64.bits))=((4294967296^k*x:Nat):Int):=by
 rcases rC.1 hk with rfl|rfl
 ·show IntKind.u64.wrap ((x:Int)*2^0)=_
  rw[Int.pow_zero,zG,iV oM]
  simp
 have h:=shl32 hx
 rw[yZ,bO]
 exact h
theorem bGx {k x:Nat} {P:List Nat} (hk:k<=1) (hP:Lm P) (hl:P.length=k) (hx:x<4294967296):IntKind.u64.wrap ((BitVec.ofInt IntKind.u64.bits ((val P:Nat):Int)|||BitVec.ofInt IntKind.u64.bits ((4294967296^k*x:Nat):Int)).toNat:Int)=((val P+4294967296^k*x:Nat):Int):=by
 rcases rC.1 hk with rfl|rfl
 ·have:P=[]:=bX hl
  subst this
  have h:=or32 (x:=0) (y:=x) dC hx
  simp only[lH,fK] at h
  rw[tL,lN]
  exact h.trans (by simp[val])
 have hv:=mJ hP
 rw[hl,yZ] at hv
 have h:=or32 (x:=x) (y:=val P) hx hv
 rw[yZ,bO 4294967296 x,jY]
 rw[<-h]
 congr 2
 exact congrArg BitVec.toNat (zH _ _)
theorem pL {w:World} {Dx:Nat->TypeId->Prop} {vx:Value} {x:List Nat} (hx:Sg (gN .u32) Dx w vx x) (lmx:Lm x) (lnx:x.length<=35184372088832):
 Calls Tryz.prog 129 #[vx] w λe w'=>∃v,e= .returned v/\Sg (gN .u32) Dx w' v (aJ (val x))/\w=w':=by
 have hw:w=w:=rfl
 refine eE (n:=21) (rs:=[.tmp 2]) func129 rfl rfl rfl bL ?_
 refine iU λF0 hF0=>?_
 refine wsr (aS (v:=(.slice none (0) (0))) rfl (aE (wsr (mV (v:=vx) (hF0 0) ?_))))
 obtain⟨A1,c2,hv3,hc4,hc5⟩:=hx.len
 refine rV (gX eC hv3) (aS (v:=(iv (x.length:Nat))) rfl (aE (dV ?_)))
 refine gC ?_
 refine iU λF6 hF7=>?_
 refine oP (σ:=Nat) (λ(n:Nat) fl wl=>Off (3::(rg 6 12 [])) F6 fl/\fl 3=(iv n)/\(n<=x.length)/\(val (x.take n)=val x)/\(Sg (gN .u32) Dx wl vx x)/\(w=wl)) (λ(n:Nat)=>n) (x.length) ?_ ?_
 ·exact⟨Off.refl _ _,(hF7 3).trans (rfl),aI _,by rw[bU (aI _)],hx,hw⟩
 clear hx
 rintro n f8 w9 ⟨G10,hs11,hn,hv,hx,hw⟩
 refine dV (wsr (mV hs11 (rV (aAf (k:=.i64) (a:=(n:Int)) (b:=0) rfl rfl) (mV (v:=(bd (0<(n:Int)))) rfl ?_))))
 rcases bD (0<(n:Int)) with ⟨hb12,hb12p⟩|⟨hb12,hb12p⟩
 ·refine RL.gval rfl rfl (aW hb12) rfl dC (gS (v:=vx) ((G10 0 rfl).trans ((hF7 0).trans (hF0 0)))) ?_
  refine RL.gval rfl rfl (aW hb12) rfl dC (gS (v:=(iv n)) hs11) ?_
  refine RL.gval rfl rfl (aW hb12) rfl dC (lT (k:=.i64) (a:=(n:Int)) (b:=1) (c:=(n:Int)-1) rfl rfl (jS oM)) ?_
  obtain⟨b13,o14,c15,hv16,hc17⟩:=hx.ix (i:=(n:Int)-1) (n-1) oM oM
  refine RL.gval rfl rfl (aW hb12) rfl dC (cA (i:=(n:Int)-1) eC eR hv16 rfl oM oM) ?_
  refine RL.gval rfl rfl (aW hb12) rfl dC (dJ (v:=(.int .u32 (((x.getD (n-1) default:Nat):Int)))) eS kH rfl hc17) ?_
  refine RL.gval rfl rfl (aW hb12) rfl dC (tA (k:=.u32) (a:=((x.getD (n-1) default:Nat):Int)) (b:=0) rfl rfl) ?_
  refine rV (kT (v:=(bd (((x.getD (n-1) default:Nat):Int)=0))) (aW hb12) rfl) (aE ?_)
  refine wcD (p:=((x.getD (n-1) default:Nat):Int)=0) rfl (λhb18 hb18p=>?_) (λhb18 hb18p=>?_)
  ·refine fL ?_
   refine gC ?_
   refine cV (mV hs11 (rV (lT (k:=.i64) (a:=(n:Int)) (b:=1) (c:=(n:Int)-1) rfl rfl (jS oM)) (aS (v:=(iv ((n:Int)-1))) rfl (aE ?_))))
   refine⟨(n-1),⟨?_,?_,?_,?_,?_,?_⟩,?_⟩
   ·exact(by repeat (first|exact G10|refine Off.st ?_ dC _))
   ·first|rfl|exact cQ oM|exact aW (by simp)
   ·omega
   ·exact aIi hn oM hv oM
   ·exact hx
   ·exact hw
   (try dsimp only)
   omega
  have hend:n=0\/x.getD (n-1) default≠0:=.inr oM
  refine nG ?_
  refine wsr (mV (v:=vx) ((G10 0 rfl).trans ((hF7 0).trans (hF0 0))) (mV hs11 ?_))
  have r19:=hx.take (n) oM hv3
  refine rV (bGn (h:=(n:Int)) (kk:=n) eC eR hv3 rfl oM oM) (aS (v:=(.slice A1 (n) (c2))) rfl (aE ?_))
  refine gH ?_
  refine⟨[(.slice A1 (n) (c2))],⟨rfl,trivial⟩,?_⟩
  rw[aDc lmx hn hv hend] at r19
  exact⟨r19,hw⟩
 have hend:n=0\/x.getD (n-1) default≠0:=.inl oM
 refine RL.gno rfl rfl (aW hb12) rfl dC ?_
 refine RL.gno rfl rfl (aW hb12) rfl dC ?_
 refine RL.gno rfl rfl (aW hb12) rfl dC ?_
 refine RL.gno rfl rfl (aW hb12) rfl dC ?_
 refine RL.gno rfl rfl (aW hb12) rfl dC ?_
 refine RL.gno rfl rfl (aW hb12) rfl dC ?_
 refine rV (mO (v:=(.bool false)) (aW hb12) rfl) (aE ?_)
 refine tE rfl ?_
 refine nG ?_
 refine wsr (mV (v:=vx) ((G10 0 rfl).trans ((hF7 0).trans (hF0 0))) (mV hs11 ?_))
 have r20:=hx.take (n) oM hv3
 refine rV (bGn (h:=(n:Int)) (kk:=n) eC eR hv3 rfl oM oM) (aS (v:=(.slice A1 (n) (c2))) rfl (aE ?_))
 refine gH ?_
 refine⟨[(.slice A1 (n) (c2))],⟨rfl,trivial⟩,?_⟩
 rw[aDc lmx hn hv hend] at r20
 exact⟨r20,hw⟩
theorem aGb {w:World} {Dx:Nat->TypeId->Prop} {vx:Value} {x:List Nat} (hx:Sg (gN .u32) Dx w vx x) (lmx:Lm x) (lnx:x.length<=2):
 Calls Tryz.prog 148 #[vx] w λe w'=>∃v,e= .returned v/\v= .int .u64 ((val x:Nat):Int)/\w=w':=by
 have hw:w=w:=rfl
 refine eE (n:=22) (rs:=[.tmp 2]) func148 rfl rfl rfl bL ?_
 refine iU λF0 hF0=>?_
 refine wsr (aS (v:=(.int .u64 0)) rfl (aE (wsr (aS (v:=(.int .u64 0)) rfl (aE (dV (wsr (mV (v:=vx) (hF0 0) ?_))))))))
 obtain⟨A1,c2,hv3,hc4,hc5⟩:=hx.len
 refine rV (gX eC hv3) (mV (v:=(iv 0)) rfl (aE ?_))
 refine gC ?_
 refine iU λF6 hF7=>?_
 refine oP (σ:=Nat) (λ(k:Nat) fl wl=>Off (rg 3 3 (rg 8 13 [])) F6 fl/\fl 8=(iv k)/\fl 3=(.int .u64 (((val (x.take k):Nat):Int)))/\(k<=x.length)/\(Sg (gN .u32) Dx wl vx x)/\(w=wl)) (λ(k:Nat)=>x.length-k) (0) ?_ ?_
 ·exact⟨Off.refl _ _,(hF7 8).trans (rfl),(hF7 3).trans ((cQ (by simp[val]))),aF _,hx,hw⟩
 clear hx
 rintro k f8 w9 ⟨G10,hs11,hs12,hk,hx,hw⟩
 refine wsr (rV (mP (k:=.i64) (a:=(k:Int)) (b:=((x.length:Nat):Int)) hs11 ((G10 7 rfl).trans (hF7 7))) (aE (dV ?_)))
 refine wcD (p:=(k:Int)<((x.length:Nat):Int)) rfl (λhb13 hb13p=>?_) (λhb13 hb13p=>?_)
 ·refine fL ?_
  refine dV ?_
  refine gC ?_
  refine dV ?_
  have hkl:k<x.length:=by omega
  have hxk:=lmx.at hkl
  refine cV (mV hs11 ?_)
  obtain⟨b14,o15,c16,hv17,hc18⟩:=hx.ix (i:=(k:Int)) (k) oM oM
  refine rV (cA (i:=(k:Int)) eC eR ((((G10 6 rfl).trans (hF7 6))).trans hv17) hs11 oM oM) (rV (dJ (v:=(.int .u32 (((x.getD (k) default:Nat):Int)))) eS kH rfl hc18) (aS (v:=(iv k)) rfl (aS (v:=(.int .u32 (((x.getD (k) default:Nat):Int)))) rfl (aE (cV (mV hs12 (mV (v:=(.int .u32 (((x.getD (k) default:Nat):Int)))) rfl (rV (fE (k:=.u64) (a:=((x.getD (k) default:Nat):Int)) (c:=((x.getD (k) default:Nat):Int)) eS jE rfl (iV oM)) (mV (v:=(iv k)) rfl (rV (uR (k:=.i64) (a:=32) (b:=(k:Int)) (c:=32*(k:Int)) rfl rfl (jS oM)) (rV (aBf (k:=.u64) (a:=((x.getD (k) default:Nat):Int)) (b:=32*(k:Int)) (c:=((4294967296^k*x.getD k default:Nat):Int)) rfl rfl oM (aXp oM hxk)) (rV (aJd (k:=.u64) (a:=((val (x.take k):Nat):Int)) (b:=((4294967296^k*x.getD k default:Nat):Int)) (c:=((val (x.take k)+4294967296^k*x.getD k default:Nat):Int)) rfl rfl (bGx oM (lmx.take k) (by rw[cC];omega) hxk)) (aS (v:=(.int .u64 (((val (x.take k)+4294967296^k*x.getD k default:Nat):Int)))) rfl (aE (cV (rV (kE (k:=.i64) (a:=(k:Int)) (b:=1) (c:=(k:Int)+1) hs11 rfl (jS oM)) (mV (v:=(iv ((k:Int)+1))) rfl (aE ?_))))))))))))))))))
  refine⟨(k+1),⟨?_,?_,?_,?_,?_,?_⟩,?_⟩
  ·exact(by repeat (first|exact G10|refine Off.st ?_ dC _))
  ·first|rfl|exact cQ oM|exact aW (by simp)
  ·exact cQ (by rw[eM hkl])
  ·omega
  ·exact hx
  ·exact hw
  (try dsimp only)
  omega
 refine nG ?_
 refine wsr (mV hs12 (aS (v:=(.int .u64 (((val (x.take k):Nat):Int)))) rfl (aE ?_)))
 refine gH ?_
 refine⟨[(.int .u64 (((val (x.take k):Nat):Int)))],⟨rfl,trivial⟩,?_⟩
 rw[bU (show x.length<=k by omega)]
 exact⟨rfl,hw⟩
theorem n_trim {w:World} {Dx:Nat->TypeId->Prop} {vx:Value} {x:List Nat} (hx0:Sg (gN .u32) Dx w vx x) (lmx:Lm x) (lnx:x.length<=17592186044416):
 Calls Tryz.prog 125 #[vx] w λe w'=>∃v,e= .returned v/\Sg (gN .u32) (λb T=>w.heap.size<=b/\T=131) w' v (aJ (val x))/\Ext w w':=by
 have hE:Below w.heap.size w w:=Below.refl _ _
 have hx:=hx0.old
 clear hx0
 have hlvx:=eO lmx
 refine eE (n:=13) (rs:=[.tmp 2]) func125 rfl rfl rfl bL ?_
 refine iU λF0 hF0=>?_
 refine wsr (aS (v:=(.slice none (0) (0))) rfl (aE (wsr (mV (v:=vx) (hF0 0) ?_))))
 refine cL mK (pL hx (by assumption) (by first|omega|(simp;done)|(simp;omega))) rfl ?_
 rintro vr2 _ ⟨hr3,rfl⟩
 have hlv4:=eO (x:=x) (by assumption)
 refine aS (v:=vr2) rfl (aE (wsr (mV (v:=vr2) rfl ?_)))
 obtain⟨A5,c6,hv7,hc8,hc9⟩:=hr3.len
 refine rV (gX eC hv7) ?_
 have hn15:((((aJ (val x)).length:Nat):Int):Int)=(((aJ (val x)).length:Nat):Int):=by omega
 refine rU (uS (n:=(aJ (val x)).length) eC eR rfl (cQ hn15) (cQ hn15) oM oM) ?_
 rintro _ w10 ⟨b11,rfl,hs14,hb13,he12⟩
 have ge_b11:=hE.ge hs14
 replace hb13:=Ar.made (g:=(gN .u32)) (z:=(0:Nat)) hb13 rfl
 have hb13l:=hb13.lt
 refine aS (v:=(.slice (some ⟨b11,0,none⟩) ((aJ (val x)).length) ((aJ (val x)).length))) rfl (aE (wsr (mV (v:=(.slice (some ⟨b11,0,none⟩) ((aJ (val x)).length) ((aJ (val x)).length))) rfl (mV (v:=vr2) rfl ?_))))
 replace hr3:=hr3.tr (aH he12)
 refine rU (bGv (g:=(gN .u32)) eC eR rfl rfl hb13 hr3 oM (λ_=>rfl)) ?_
 rintro _ w16 ⟨rfl,ha17,hx18⟩
 replace hE:=(hE.nx he12).nb hx18 ge_b11
 replace hb13:=ha17
 refine aE (wsr (mV (v:=(.slice (some ⟨b11,0,none⟩) ((aJ (val x)).length) ((aJ (val x)).length))) rfl (aS (v:=(.slice (some ⟨b11,0,none⟩) ((aJ (val x)).length) ((aJ (val x)).length))) rfl (aE ?_))))
 refine gH ?_
 refine⟨[(.slice (some ⟨b11,0,none⟩) ((aJ (val x)).length) ((aJ (val x)).length))],⟨rfl,trivial⟩,?_⟩
 exact⟨(hb13.sc (D:=(λb T=>w.heap.size<=b/\T=131)) (aI _) oM ⟨ge_b11,rfl⟩),hE⟩
theorem vV {w:World} {x:Nat} (hx:x<18446744073709551616):
 Calls Tryz.prog 123 #[(.int .u64 (x:Int))] w λe w'=>∃v,e= .returned v/\Sg (gN .u32) (λb T=>w.heap.size<=b/\T=131) w' v (aJ (x))/\Ext w w':=by
 have hE:Below w.heap.size w w:=Below.refl _ _
 refine eE (n:=10) (rs:=[.tmp 2]) func123 rfl rfl rfl bL ?_
 refine iU λF0 hF0=>?_
 refine wsr (aS (v:=(.slice none (0) (0))) rfl (aE (wsr (mV (v:=(.int .u64 (x:Int))) (hF0 0) (rV (fE (k:=.u32) (a:=(x:Int)) (c:=((x%4294967296:Nat):Int)) jE eS rfl (cu32 _)) (mV (v:=(.int .u64 (x:Int))) (hF0 0) (rV (tU (k:=.u64) (a:=(x:Int)) (b:=32) (c:=((x/4294967296:Nat):Int)) rfl rfl dC (shr32 _)) (rV (fE (k:=.u32) (a:=((x/4294967296:Nat):Int)) (c:=(((x/4294967296)%4294967296:Nat):Int)) jE eS rfl (cu32 _)) ?_))))))))
 refine rU (aMc (vl:=[(0,(.int .u32 (((x%4294967296:Nat):Int)))),(1,(.int .u32 ((((x/4294967296)%4294967296:Nat):Int))))]) (cs:=[(.int .u32 (((x%4294967296:Nat):Int))),(.int .u32 ((((x/4294967296)%4294967296:Nat):Int)))]) eC eR rfl dC (by first|(simp[Instr.fill,Value.cells];done)|rfl|kernel_rfl)) ?_
 rintro _ w1 ⟨b2,rfl,hs5,hb4,he3⟩
 have ge_b2:=hE.ge hs5
 replace hE:=hE.nx he3
 have hlm:=Lm.two hx
 refine cL (vl:=[(.slice (some ⟨b2,0,none⟩) (2) (2))]) mK (pL (hb4.sg (g:=gN .u32) (D:=(λb T=>w.heap.size<=b/\T=131)) (xs:=[x%4294967296,(x/4294967296)%4294967296]) ⟨ge_b2,rfl⟩ rfl rfl dC) (by first|assumption|(intro z hz;simp at hz;omega)) (by first|omega|(simp;done)|(simp;omega))) rfl ?_
 rintro vr7 _ ⟨hr8,rfl⟩
 have hlv9:=eO (x:=[x%4294967296,(x/4294967296)%4294967296]) (by first|assumption|(intro z hz;simp at hz;omega))
 refine aS (v:=vr7) rfl (aE ?_)
 refine gH ?_
 refine⟨[vr7],⟨rfl,trivial⟩,?_⟩
 have hres:=hr8
 rw[cW (show x/4294967296<4294967296 by omega),aRx] at hres
 exact⟨hres,hE⟩
theorem aXq {w:World} {Dx:Nat->TypeId->Prop} {vx:Value} {x:List Nat} (hx0:Sg (gN .u32) Dx w vx x) (lmx:Lm x) (lnx:x.length<=1099511627776):
 Calls Tryz.prog 122 #[vx] w λe w'=>∃v,e= .returned v/\v= .tuple #[.int .u64 ((if val x<18446744073709551616 then val x else 0:Nat):Int),.bool (decide (val x<18446744073709551616))]/\Ext w w':=by
 have hE:Below w.heap.size w w:=Below.refl _ _
 have hx:=hx0.old
 clear hx0
 have hlvx:=eO lmx
 refine eE (n:=11) (rs:=[.tmp 2,.tmp 3]) func122 rfl rfl rfl bL ?_
 refine iU λF0 hF0=>?_
 refine wsr (aS (v:=(.int .u64 0)) rfl (aS (v:=(.bool false)) rfl (aE (wsr (mV (v:=vx) (hF0 0) ?_)))))
 refine cL mK (pL hx (by assumption) (by first|omega|(simp;done)|(simp;omega))) rfl ?_
 rintro vr2 _ ⟨hr3,rfl⟩
 have hlv4:=eO (x:=x) (by assumption)
 refine aS (v:=vr2) rfl (aE (dV (dV ?_)))
 have hl64:=rW (n:=val x)
 rw[<-gU] at hl64
 refine cV (mV (v:=vr2) rfl ?_)
 obtain⟨A5,c6,hv7,hc8,hc9⟩:=hr3.len
 refine rV (gX eC hv7) (rV (aAf (k:=.i64) (a:=(((aJ (val x)).length:Nat):Int)) (b:=2) rfl rfl) (aE ?_))
 refine wcD (p:=2<(((aJ (val x)).length:Nat):Int)) rfl (λhb10 hb10p=>?_) (λhb10 hb10p=>?_)
 ·refine wsr ?_
  refine aS (v:=(.int .u64 0)) rfl (aS (v:=(.bool false)) rfl (aE ?_))
  refine gH ?_
  refine⟨[(.int .u64 0),(.bool false)],⟨rfl,⟨rfl,trivial⟩⟩,?_⟩
  exact⟨by rw[if_neg oM,decide_eq_false oM];rfl,hE⟩
 refine fL ?_
 refine wsr (mV (v:=vr2) rfl ?_)
 refine cL aGa (aGb hr3 (cT _) oM) rfl ?_
 rintro vq13 _ ⟨hq12,rfl⟩
 rw[cX] at hq12
 subst hq12
 refine aS (v:=(.int .u64 ((((val x):Nat):Int)))) rfl (aS (v:=(.bool true)) rfl (aE ?_))
 refine gH ?_
 refine⟨[(.int .u64 ((((val x):Nat):Int))),(.bool true)],⟨rfl,⟨rfl,trivial⟩⟩,?_⟩
 exact⟨by rw[if_pos oM,decide_eq_true oM];rfl,hE⟩
theorem qK {w:World} {Dx:Nat->TypeId->Prop} {vx:Value} {x:List Nat} (hx0:Sg (gN .u32) Dx w vx x) (lmx:Lm x) (lnx:x.length<=1099511627776) {Dy:Nat->TypeId->Prop} {vy:Value} {y:List Nat} (hy0:Sg (gN .u32) Dy w vy y) (lmy:Lm y) (lny:y.length<=1099511627776):
 Calls Tryz.prog 120 #[vx,vy] w λe w'=>∃v,e= .returned v/\v= .int .i64 (cmpI ((val x:Nat):Int) ((val y:Nat):Int))/\Ext w w':=by
 have hE:Below w.heap.size w w:=Below.refl _ _
 have hx:=hx0.old
 clear hx0
 have hy:=hy0.old
 clear hy0
 have hlvx:=eO lmx
 have hlvy:=eO lmy
 refine eE (n:=45) (rs:=[.tmp 4]) func120 rfl rfl rfl bL ?_
 refine iU λF0 hF0=>?_
 refine wsr (aS (v:=(iv 0)) rfl (aE (wsr (mV (v:=vx) (hF0 0) ?_))))
 refine cL mK (pL hx (by assumption) (by first|omega|(simp;done)|(simp;omega))) rfl ?_
 rintro vr2 _ ⟨hr3,rfl⟩
 have hlv4:=eO (x:=x) (by assumption)
 refine mV (v:=vy) (hF0 1) ?_
 refine cL mK (pL hy (by assumption) (by first|omega|(simp;done)|(simp;omega))) rfl ?_
 rintro vr6 _ ⟨hr7,rfl⟩
 have hlv8:=eO (x:=y) (by assumption)
 refine aS (v:=vr2) rfl (aS (v:=vr6) rfl (aE (dV (wsr (mV (v:=vr2) rfl ?_)))))
 obtain⟨A9,c10,hv11,hc12,hc13⟩:=hr3.len
 refine rV (gX eC hv11) (mV (v:=vr6) rfl ?_)
 obtain⟨A14,c15,hv16,hc17,hc18⟩:=hr7.len
 refine rV (gX eC hv16) (rV (xO (k:=.i64) (a:=(((aJ (val x)).length:Nat):Int)) (b:=(((aJ (val y)).length:Nat):Int)) rfl rfl) (aE ?_))
 refine wcD (p:=(((aJ (val x)).length:Nat):Int)≠(((aJ (val y)).length:Nat):Int)) rfl (λhb19 hb19p=>?_) (λhb19 hb19p=>?_)
 ·refine dV ?_
  refine wsr (mV (v:=vr2) rfl (rV (gX eC hv11) (mV (v:=vr6) rfl (rV (gX eC hv16) (rV (mP (k:=.i64) (a:=(((aJ (val x)).length:Nat):Int)) (b:=(((aJ (val y)).length:Nat):Int)) rfl rfl) (aE ?_))))))
  refine wcD (p:=(((aJ (val x)).length:Nat):Int)<(((aJ (val y)).length:Nat):Int)) rfl (λhb20 hb20p=>?_) (λhb20 hb20p=>?_)
  ·refine wsr ?_
   refine aS (v:=(iv (-1))) rfl (aE ?_)
   refine gH ?_
   refine⟨[(iv (-1))],⟨rfl,trivial⟩,?_⟩
   have hlt:val x<val y:=by first|exact tQ (by rw[<-gU,<-gU];omega)|(have h:=aDd (a:=aJ (val x)) (b:=aJ (val y)) (m:=n-1) (cT (val x)) oM oM (by rw[show n-1+1=n by omega];exact hd) oM;rw[cX,cX] at h;exact h)
   exact⟨cQ (by unfold cmpI;rw[if_pos oM]),hE⟩
  refine fL ?_
  refine wsr (aS (v:=(iv 1)) rfl (aE ?_))
  refine gH ?_
  refine⟨[(iv 1)],⟨rfl,trivial⟩,?_⟩
  have hlt:val y<val x:=by first|exact tQ (by rw[<-gU,<-gU];omega)|(have h:=aDd (a:=aJ (val y)) (b:=aJ (val x)) (m:=n-1) (cT (val y)) oM oM (by rw[show n-1+1=n by omega];exact hd.symm) oM;rw[cX,cX] at h;exact h)
  exact⟨cQ (by unfold cmpI;rw[if_neg oM,if_pos oM]),hE⟩
 refine fL ?_
 refine dV (wsr (mV (v:=vr2) rfl (rV (gX eC hv11) (rV (lT (k:=.i64) (a:=(((aJ (val x)).length:Nat):Int)) (b:=1) (c:=(((aJ (val x)).length:Nat):Int)-1) rfl rfl (jS oM)) (aS (v:=(iv ((((aJ (val x)).length:Nat):Int)-1))) rfl (aE ?_))))))
 refine gC ?_
 refine iU λF21 hF22=>?_
 refine oP (σ:=Nat) (λ(n:Nat) fl wl=>Off (rg 4 2 (rg 23 22 [])) F21 fl/\fl 5=(iv ((n:Int)-1))/\(n<=(aJ (val x)).length)/\((aJ (val x)).drop n=(aJ (val y)).drop n)/\(Sg (gN .u32) (λb T=>Dx b T/\b<w.heap.size) wl vx x)/\(Sg (gN .u32) (λb T=>Dy b T/\b<w.heap.size) wl vy y)/\(Below w.heap.size w wl)/\(Sg (gN .u32) (λb T=>Dx b T/\b<w.heap.size) wl vr2 (aJ (val x)))/\(Sg (gN .u32) (λb T=>Dy b T/\b<w.heap.size) wl vr6 (aJ (val y)))) (λ(n:Nat)=>n) ((aJ (val x)).length) ?_ ?_
 ·exact⟨Off.refl _ _,(hF22 5).trans (rfl),aI _,(by rw[cB (aI _),cB oM]),hx,hy,hE,hr3,hr7⟩
 clear hx hy hE hr3 hr7
 rintro n f23 w24 ⟨G25,hs26,hn,hd,hx,hy,hE,hr3,hr7⟩
 refine dV (wsr (mV hs26 (rV (aEa (k:=.i64) (a:=(n:Int)-1) (b:=0) rfl rfl) (aE ?_))))
 refine wcD (p:=0<=((n:Int)-1)) rfl (λhb27 hb27p=>?_) (λhb27 hb27p=>?_)
 ·refine fL ?_
  refine dV ?_
  refine gC ?_
  refine dV (dV ?_)
  refine oQ pJ λw28 he29=>?_
  replace hE:=hE.nx he29
  refine aM 0 rfl (v:=vr2) ((G25 0 rfl).trans (hF22 0)) ?_
  refine aM 1 rfl (v:=(iv ((n:Int)-1))) hs26 ?_
  replace hr3:=hr3.tr (aH he29)
  obtain⟨b30,o31,c32,hv33,hc34⟩:=hr3.ix (i:=(n:Int)-1) (n-1) oM oM
  refine ra 2 rfl (λ_=>cA (i:=(n:Int)-1) eC eR hv33 rfl oM oM) ?_
  refine aR 3 rfl (λu hu=>dJ (v:=(.int .u32 ((((aJ (val x)).getD (n-1) default:Nat):Int)))) eS kH rfl (fH hu hc34)) ?_
  refine aM 4 rfl (v:=vr6) ((G25 1 rfl).trans (hF22 1)) ?_
  refine aM 5 rfl (v:=(iv ((n:Int)-1))) hs26 ?_
  replace hr7:=hr7.tr (aH he29)
  obtain⟨b35,o36,c37,hv38,hc39⟩:=hr7.ix (i:=(n:Int)-1) (n-1) oM oM
  refine ra 6 rfl (λ_=>cA (i:=(n:Int)-1) eC eR hv38 rfl oM oM) ?_
  refine aR 7 rfl (λu hu=>dJ (v:=(.int .u32 ((((aJ (val y)).getD (n-1) default:Nat):Int)))) eS kH rfl (fH hu hc39)) ?_
  refine ra 8 rfl (λ_=>mP (k:=.u32) (a:=(((aJ (val x)).getD (n-1) default:Nat):Int)) (b:=(((aJ (val y)).getD (n-1) default:Nat):Int)) rfl rfl) ?_
  refine RA.done kR ?_
  refine wcD (p:=(((aJ (val x)).getD (n-1) default:Nat):Int)<(((aJ (val y)).getD (n-1) default:Nat):Int)) rfl (λhb40 hb40p=>?_) (λhb40 hb40p=>?_)
  ·refine wsr ?_
   refine aS (v:=(iv (-1))) rfl (aE ?_)
   refine gH ?_
   refine⟨[(iv (-1))],⟨rfl,trivial⟩,?_⟩
   have hlt:val x<val y:=by first|exact tQ (by rw[<-gU,<-gU];omega)|(have h:=aDd (a:=aJ (val x)) (b:=aJ (val y)) (m:=n-1) (cT (val x)) oM oM (by rw[show n-1+1=n by omega];exact hd) oM;rw[cX,cX] at h;exact h)
   exact⟨cQ (by unfold cmpI;rw[if_pos oM]),hE⟩
  refine fL ?_
  refine dV ?_
  refine oQ pJ λw41 he42=>?_
  replace hE:=hE.nx he42
  refine aM 0 rfl (v:=vr2) ((G25 0 rfl).trans (hF22 0)) ?_
  refine aM 1 rfl (v:=(iv ((n:Int)-1))) hs26 ?_
  replace hr3:=hr3.tr (aH he42)
  obtain⟨b43,o44,c45,hv46,hc47⟩:=hr3.ix (i:=(n:Int)-1) (n-1) oM oM
  refine ra 2 rfl (λ_=>cA (i:=(n:Int)-1) eC eR hv46 rfl oM oM) ?_
  refine aR 3 rfl (λu hu=>dJ (v:=(.int .u32 ((((aJ (val x)).getD (n-1) default:Nat):Int)))) eS kH rfl (fH hu hc47)) ?_
  refine aM 4 rfl (v:=vr6) ((G25 1 rfl).trans (hF22 1)) ?_
  refine aM 5 rfl (v:=(iv ((n:Int)-1))) hs26 ?_
  replace hr7:=hr7.tr (aH he42)
  obtain⟨b48,o49,c50,hv51,hc52⟩:=hr7.ix (i:=(n:Int)-1) (n-1) oM oM
  refine ra 6 rfl (λ_=>cA (i:=(n:Int)-1) eC eR hv51 rfl oM oM) ?_
  refine aR 7 rfl (λu hu=>dJ (v:=(.int .u32 ((((aJ (val y)).getD (n-1) default:Nat):Int)))) eS kH rfl (fH hu hc52)) ?_
  refine ra 8 rfl (λ_=>aAf (k:=.u32) (a:=(((aJ (val x)).getD (n-1) default:Nat):Int)) (b:=(((aJ (val y)).getD (n-1) default:Nat):Int)) rfl rfl) ?_
  refine RA.done kR ?_
  refine wcD (p:=(((aJ (val y)).getD (n-1) default:Nat):Int)<(((aJ (val x)).getD (n-1) default:Nat):Int)) rfl (λhb53 hb53p=>?_) (λhb53 hb53p=>?_)
  ·refine wsr ?_
   refine aS (v:=(iv 1)) rfl (aE ?_)
   refine gH ?_
   refine⟨[(iv 1)],⟨rfl,trivial⟩,?_⟩
   have hlt:val y<val x:=by first|exact tQ (by rw[<-gU,<-gU];omega)|(have h:=aDd (a:=aJ (val y)) (b:=aJ (val x)) (m:=n-1) (cT (val y)) oM oM (by rw[show n-1+1=n by omega];exact hd.symm) oM;rw[cX,cX] at h;exact h)
   exact⟨cQ (by unfold cmpI;rw[if_neg oM,if_pos oM]),hE⟩
  refine fL ?_
  refine cV (mV hs26 (rV (lT (k:=.i64) (a:=(n:Int)-1) (b:=1) (c:=((n:Int)-1)-1) rfl rfl (jS oM)) (aS (v:=(iv (((n:Int)-1)-1))) rfl (aE ?_))))
  replace hx:=hx.tr (aH (aB he29 he42))
  replace hy:=hy.tr (aH (aB he29 he42))
  refine⟨(n-1),⟨?_,?_,?_,?_,?_,?_,?_,?_,?_⟩,?_⟩
  ·exact(by repeat (first|exact G25|refine Off.st ?_ dC _))
  ·first|rfl|exact cQ oM|exact aW (by simp)
  ·omega
  ·exact aIj oM hn oM hd oM
  ·exact hx
  ·exact hy
  ·exact hE
  ·exact hr3
  ·exact hr7
  (try dsimp only)
  omega
 refine nG ?_
 refine wsr (aS (v:=(iv 0)) rfl (aE ?_))
 refine gH ?_
 refine⟨[(iv 0)],⟨rfl,trivial⟩,?_⟩
 have hn0:n=0:=by omega
 subst hn0
 rw[mF,mF] at hd
 have h:=congrArg val hd
 rw[cX,cX] at h
 exact⟨cQ (by unfold cmpI;rw[if_neg oM,if_neg oM]),hE⟩
end Go.Proofs.YtlhdigjbokkbiaaGreat.W
namespace Go.Vm
structure Kd (U V top v1 v2 u2 p lowU lowV:Nat):Prop where
 eU:U=(top*4294967296+u2)*p+lowU
 eV:V=(v1*4294967296+v2)*p+lowV
 lU:lowU<p
 lV:lowV<p
 hv:2147483648<=v1
 hv2:v2<4294967296
 hu2:u2<4294967296
 hq:U<V*4294967296
structure Kn (U V top v1 digit rest:Nat):Prop where
 e:digit*v1+rest=top
 ge:U/V<=digit
 le:digit<=4294967297
theorem Kd.pos {U V top v1 v2 u2 p lowU lowV:Nat} (H:Kd U V top v1 v2 u2 p lowU lowV):0<V:=by
 have h1:=H.hq
 rcases dB V with h|h
 ·rw[h] at h1;omega
 exact h
theorem Kd.start {U V top v1 v2 u2 p lowU lowV:Nat} (H:Kd U V top v1 v2 u2 p lowU lowV):Kn U V top v1 (top/v1) (top%v1):=by
 have hp:0<p:=gM (aF _) H.lU
 refine⟨by rw[bO];exact iI top v1,?_,?_⟩
 ·rw[oI (by have:=H.hv;omega)]
  have h1:U/V*V<=U:=Nat.div_mul_le_self U V
  have h2:U/V*(v1*4294967296*p)<=U:=bA (dZ _ (by rw[H.eV,dW];omega)) h1
  have h3:U<(top+1)*(4294967296*p):=by
   rw[H.eU]
   have:=H.lU
   have h4:u2*p<=4294967295*p:=bK _ (by have:=H.hu2;omega)
   rw[dW,dW,bQ]
   omega
  have h5:(U/V*v1)*(4294967296*p)<(top+1)*(4294967296*p):=by
   rw[bQ] at h2 ⊢
   exact gM h2 h3
  have:=mG h5
  omega
 have h1:top*(4294967296*p)<=U:=by
  rw[H.eU,dW,bQ]
  omega
 have h2:V<(v1+1)*(4294967296*p):=by
  rw[H.eV]
  have:=H.lV
  have h4:v2*p<=4294967295*p:=bK _ (by have:=H.hv2;omega)
  rw[dW,dW,bQ]
  omega
 have h3:top*(4294967296*p)<((v1+1)*4294967296)*(4294967296*p):=by
  refine gM h1 (aY H.hq ?_)
  have:=lI h2 (show 0<4294967296 by decide)
  rw[uE] at this
  exact this
 have h4:=mG h3
 have h5:top/v1<4294967298:=by
  rw[jD (by have:=H.hv;omega)]
  have:=H.hv
  omega
 omega
theorem Kd.lt {U V top v1 v2 u2 p lowU lowV:Nat} (H:Kd U V top v1 v2 u2 p lowU lowV):U/V<4294967296:=by
 rw[jD H.pos,bO];exact H.hq
theorem Kd.step {U V top v1 v2 u2 p lowU lowV digit rest:Nat} (H:Kd U V top v1 v2 u2 p lowU lowV) (K:Kn U V top v1 digit rest) (h:4294967296<=digit\/rest*4294967296+u2<digit*v2):Kn U V top v1 (digit-1) (rest+v1)/\1<=digit:=by
 have hlt:U/V<digit:=by
  rcases h with h|h
  ·have:=H.lt;omega
  rcases Nat.lt_or_eq_of_le K.ge with h1|h1
  ·exact h1
  exfalso
  have h2:digit*V<=U:=by rw[<-h1];exact Nat.div_mul_le_self U V
  have h3:digit*((v1*4294967296+v2)*p)<=U:=bA (dZ _ (by rw[H.eV];omega)) h2
  have h4:(top*4294967296+u2+1)*p<=digit*((v1*4294967296+v2)*p):=by
   rw[<-bQ]
   refine bK _ ?_
   rw[dN,<-bQ]
   have:=K.e
   have e2:digit*v1*4294967296+rest*4294967296=top*4294967296:=by rw[<-dW,this]
   omega
  have h5:=H.eU
  have h6:=H.lU
  have h7:(top*4294967296+u2+1)*p=(top*4294967296+u2)*p+p:=eN _ _
  omega
 have hz:=aF (U/V)
 refine⟨⟨?_,by omega,by have:=K.le;omega⟩,by omega⟩
 have:=K.e
 obtain⟨d,rfl⟩:∃d,digit=d+1:=⟨digit-1,by omega⟩
 rw[gL,<-this,eN]
 omega
theorem Kd.exit {U V top v1 v2 u2 p lowU lowV digit rest:Nat} (H:Kd U V top v1 v2 u2 p lowU lowV) (K:Kn U V top v1 digit rest) (h1:digit<4294967296) (h2:digit*v2<=rest*4294967296+u2):digit<=U/V+1:=by
 have hz:=aF (U/V)
 rcases dB digit with h0|h0
 ·omega
 obtain⟨d,rfl⟩:∃d,digit=d+1:=⟨digit-1,by omega⟩
 have hle:d<=U/V:=by
  rw[oI H.pos]
  have a1:(d+1)*V=((d+1)*v1*4294967296+(d+1)*v2)*p+(d+1)*lowV:=by
   rw[H.eV,dN,<-bQ,dN,<-bQ]
  have a2:((d+1)*v1*4294967296+(d+1)*v2)*p<=(top*4294967296+u2)*p:=by
   refine bK _ ?_
   have e2:(d+1)*v1*4294967296+rest*4294967296=top*4294967296:=by rw[<-dW,K.e]
   omega
  have a3:(d+1)*lowV<=4294967295*p:=bA (bK _ oM) (dZ _ (gQ H.lV))
  have a4:4294967296*p<=V:=by
   rw[H.eV,dW]
   have:1*4294967296*p<=v1*4294967296*p:=bK _ (bK _ (by have:=H.hv;omega))
   omega
  have a5:(d+1)*V=d*V+V:=eN _ _
  have a6:=H.eU
  have hp:0<p:=gM (aF _) H.lU
  omega
 omega
theorem Kd.brk {U V top v1 v2 u2 p lowU lowV digit rest:Nat} (H:Kd U V top v1 v2 u2 p lowU lowV) (K:Kn U V top v1 digit rest) (h1:digit<=4294967296) (h2:4294967296<=rest):digit<=U/V:=by
 rw[oI H.pos]
 have a1:digit*V=digit*v1*4294967296*p+digit*(v2*p+lowV):=by
  rw[H.eV,dW,kO,dN]
  rw[<-bQ,<-bQ]
 have a2:digit*v1*4294967296*p+rest*4294967296*p=top*4294967296*p:=by rw[<-dW,<-dW,K.e]
 have a3:v2*p+lowV<=4294967296*p:=by
  have:v2*p<=4294967295*p:=bK _ (by have:=H.hv2;omega)
  have:=H.lV
  omega
 have a4:digit*(v2*p+lowV)<=4294967296*(4294967296*p):=uF h1 a3
 have a5:4294967296*4294967296*p<=rest*4294967296*p:=bK _ (bK _ h2)
 have a6:=H.eU
 rw[dW] at a6
 omega
def sb (u c:Nat):Nat:=(u+18446744073709551616-c)%18446744073709551616
theorem aOr {u c:Nat} (hu:u<4294967296) (hc:c<4294967296):sb u c%4294967296+c=u+4294967296*(sb u c/9223372036854775808)/\sb u c/9223372036854775808<=1/\(sb u c/9223372036854775808=0↔c<=u):=by
 unfold sb
 by_cases h:c<=u
 ·rw[show u+18446744073709551616-c=(u-c)+18446744073709551616 by omega,oL,cW (show u-c<18446744073709551616 by omega)]
  omega
 rw[cW (show u+18446744073709551616-c<18446744073709551616 by omega)]
 omega
theorem aXr {dg v c u:Nat} (hd:dg<4294967296) (hv:v<4294967296) (hc:c<4294967296) (hu:u<4294967296):dg*v+c<=18446744069414584320/\(dg*v+c)/4294967296+sb u ((dg*v+c)%4294967296)/9223372036854775808<4294967296:=by
 have h1:=yA hd hv
 have h2:=aOr hu (dM (dg*v+c) (show 0<4294967296 by decide))
 generalize hp:dg*v=p at*
 generalize hs:sb u ((p+c)%4294967296)=s at*
 have hs':=hs
 unfold sb at hs'
 omega
theorem bGy {P:List Nat} {k c dg u v Uk Vk:Nat} (hP:P.length=k) (h:val P+dg*Vk=Uk+4294967296^k*c) (hu:u<4294967296):
 val (P++[sb u ((dg*v+c)%4294967296)%4294967296])+dg*(Vk+4294967296^k*v)=(Uk+4294967296^k*u)+4294967296^(k+1)*((dg*v+c)/4294967296+sb u ((dg*v+c)%4294967296)/9223372036854775808):=by
 have h2:=(aOr hu (dM (dg*v+c) (show 0<4294967296 by decide))).1
 have h3:=iI (dg*v+c) 4294967296
 rw[mR,hP,eZ]
 generalize sb u ((dg*v+c)%4294967296)=s at*
 generalize (dg*v+c)%4294967296=r at*
 generalize (dg*v+c)/4294967296=q at*
 generalize s/9223372036854775808=b at*
 generalize s%4294967296=t at*
 generalize 4294967296^k=p at*
 have e1:p*t+p*(dg*v+c)=p*u+p*(4294967296*(q+b)):=by rw[<-dN,<-dN];congr 1;omega
 rw[dN p (dg*v) c] at e1
 rw[dN dg,<-bQ dg p v,bO dg p,bQ p dg v,bQ p 4294967296]
 omega
theorem bTn {U V R Ul un c dg pn:Nat} (hV:0<V) (h:R+dg*V=Ul+pn*c) (hU:U=Ul+pn*un) (hc:c<=un) (hg:U/V<=dg):dg=U/V/\R+pn*(un-c)=U%V:=by
 have e:pn*un=pn*c+pn*(un-c):=by rw[<-dN];congr 1;omega
 have e2:U=dg*V+(R+pn*(un-c)):=by omega
 have h1:dg<=U/V:=(oI hV).2 oM
 have h2:dg=U/V:=by omega
 refine⟨h2,?_⟩
 have:=iI U V
 rw[<-h2,bO] at this
 omega
theorem bGz {U V R Ul un c dg pn:Nat} (hV:0<V) (h:R+dg*V=Ul+pn*c) (hU:U=Ul+pn*un) (hc:un<c) (hg:dg<=U/V+1) (hR:R<pn) (hVp:V<pn):dg=U/V+1/\c=un+1/\R+V=U%V+pn:=by
 have hdm:=iI U V
 have hlt:=dM U hV
 have e:pn*c=pn*un+pn*(c-un):=by rw[<-dN];congr 1;omega
 have e3:pn*1<=pn*(c-un):=dZ _ oM
 have h1:U<dg*V:=by omega
 have h2:U/V<dg:=(jD hV).2 h1
 have h3:dg=U/V+1:=by omega
 subst h3
 rw[eN,bO] at h
 have h4:R+V=U%V+pn*(c-un):=by omega
 have h5:c-un=1:=by
  rcases eY (c-un) 2 with h6|h6
  ·omega
  have:=dZ pn h6
  omega
 rw[h5,dF] at h4
 exact⟨rfl,by omega,h4⟩
theorem aXs {P:List Nat} {n c R V r:Nat} (hP:P.length=n) (hl:Lm P) (h:val P+4294967296^n*c=R+V) (h2:R+V=r+4294967296^n) (hr:r<4294967296^n):c=1/\val P=r:=by
 have hv:=mJ hl
 rw[hP] at hv
 generalize 4294967296^n=p at*
 have hc:c=1:=by
  rcases Nat.lt_trichotomy c 1 with h1|h1|h1
  ·have:c=0:=by omega
   subst this;omega
  ·exact h1
  have:=dZ p (show 2<=c by omega)
  omega
 subst hc
 omega
theorem aVh {P:List Nat} {k c u v R V:Nat} (hP:P.length=k) (h:val P+4294967296^k*c=R+V):
 val (P++[(c+(u+v))%4294967296])+4294967296^(k+1)*((c+(u+v))/4294967296)=(R+4294967296^k*u)+(V+4294967296^k*v):=by
 have h3:=iI (c+(u+v)) 4294967296
 rw[mR,hP,eZ]
 generalize (c+(u+v))%4294967296=r at*
 generalize (c+(u+v))/4294967296=q at*
 generalize 4294967296^k=p at*
 have e1:p*r+p*(4294967296*q)=p*c+(p*u+p*v):=by rw[<-dN,<-dN,<-dN];congr 1;omega
 rw[bQ]
 omega
theorem aVi {a0 A A' V Q q j B':Nat} (h:a0=A+V*(B'*(4294967296*Q))) (hj:B'=4294967296^j) {low W W':Nat} (hA:A=low+B'*W) (hA':A'=low+B'*W') (hW:W=q*V+W'):a0=A'+V*(B'*(q+4294967296*Q)):=by
 rw[h,hA,hA',hW,dN B',dN B',dN V]
 have:B'*(q*V)=V*(B'*q):=by rw[bO q V,<-bQ,bO B' V,bQ]
 omega
end Go.Vm
namespace Go.Vm
def sb2 (x c y:Nat):Nat:=(sb x c+18446744073709551616-y)%18446744073709551616
theorem bHa {x c y:Nat} (hx:x<4294967296) (hc:c<=1) (hy:y<4294967296):sb2 x c y%4294967296=(x+4294967296-(c+y))%4294967296/\sb2 x c y/9223372036854775808=(if x<c+y then 1 else 0):=by
 unfold sb2 sb
 by_cases h1:c<=x
 ·rw[show x+18446744073709551616-c=(x-c)+18446744073709551616 by omega,oL,cW (show x-c<18446744073709551616 by omega)]
  by_cases h2:x<c+y
  ·rw[if_pos h2,cW (show x-c+18446744073709551616-y<18446744073709551616 by omega)]
   omega
  rw[if_neg h2,show x-c+18446744073709551616-y=(x-c-y)+18446744073709551616 by omega,oL,cW (show x-c-y<18446744073709551616 by omega)]
  omega
 rw[cW (show x+18446744073709551616-c<18446744073709551616 by omega),if_pos oM]
 rw[show x+18446744073709551616-c+18446744073709551616-y=(x+18446744073709551616-c-y)+18446744073709551616 by omega,oL,cW (show x+18446744073709551616-c-y<18446744073709551616 by omega)]
 omega
theorem aSe {x c:Nat}:sb x c=sb2 x c 0:=by
 unfold sb2
 rw[Nat.sub_zero,oL,cW]
 unfold sb
 exact dM _ dC
theorem aXt {O x y:List Nat} {i:Nat} (hi:i<x.length) (hO:O.length=x.length+y.length) (h1:val (O.take (i+y.length))=val (x.take i)*val y) (hz:∀j,i+y.length<=j->j<O.length->O.getD j default=0) (h0:x.getD i default=0):
 val (O.take (i+1+y.length))=val (x.take (i+1))*val y:=by
 rw[show i+1+y.length=(i+y.length)+1 by omega,eM oM,hz _ (aI _) oM,h1,eM hi,h0]
 simp
end Go.Vm
namespace Go.Vm
theorem bHb {P:List Nat} {k c x s V:Nat} (hP:P.length=k) (h:val P+4294967296^k*c=V*2^s):
 val (P++[(c+x*2^s)%4294967296])+4294967296^(k+1)*((c+x*2^s)/4294967296)=(V+4294967296^k*x)*2^s:=by
 rw[mR,hP,eZ]
 have h1:=xZ (4294967296^k) (c+x*2^s)
 rw[bO 4294967296] at h1
 rw[dN,<-bQ] at h1
 rw[dW]
 omega
theorem aGc {c x s:Nat} (hs:s<=31) (hc:c<2^s) (hx:x<4294967296):c+x*2^s<9223372036854775808/\(c+x*2^s)/4294967296<2^s/\2^s<=2147483648:=by
 have h1:2^s<=2^31:=fN dC hs
 have h2:x*2^s<=4294967295*2^s:=bK _ oM
 generalize 2^s=p at*
 generalize x*p=q at*
 omega
theorem bMx {c x s:Nat} (hc:c<2^s):c|||x*2^s=c+x*2^s:=by
 have h:=iO hc x
 rw[bO] at h
 rw[Nat.or_comm,<-h,jY]
theorem pB (x:List Nat) (k:Nat):val (x.drop k)=dig x k+4294967296*val (x.drop (k+1)):=by
 by_cases h:k<x.length
 ·rw[qR h,qQ h];rfl
 rw[wE h,cB oM,cB oM];rfl
theorem tG {x:List Nat} (hx:Lm x) (k:Nat):val x/4294967296^k=val (x.drop k):=by
 have hk:val (x.take k)<4294967296^k:=bH (mJ (hx.take k)) (fN dC (by rw[cC];omega))
 by_cases h:k<=x.length
 ·rw[oF x h,mU _ _ (jC dC),jM hk,fK]
 rw[bU oM] at hk
 rw[cB oM,jM hk];rfl
theorem aMm {a r s:Nat} (B:Nat) (hB:B=2^32) (hs:s<=31):(a+B*(B*r))/2^s%B=a/2^s%B:=by
 have hp:B=2^s*2^(32-s):=by rw[hB,<-kB,show s+(32-s)=32 by omega]
 have e3:B*(B*r)=2^s*(B*(2^(32-s)*r)):=by
  rw[<-bQ B (2^(32-s)) r,bO B (2^(32-s)),bQ (2^(32-s)) B r,<-bQ (2^s) (2^(32-s)),<-hp]
 rw[e3,mU _ _ (jC dC),Nat.add_mul_mod_self_left]
theorem aVj {x:List Nat} (hx:Lm x) {k s:Nat} (hs:s<=31):(dig x k+4294967296*dig x (k+1))/2^s%4294967296=val x/2^s/4294967296^k%4294967296:=by
 rw[jX,bO (2^s),<-jX,tG hx,pB x k,pB x (k+1),dN,<-kO]
 exact(aMm 4294967296 rfl hs).symm
theorem aXu {P:List Nat} {W k:Nat} (hP:P.length=k) (h:val P=W%4294967296^k):val (P++[W/4294967296^k%4294967296])=W%4294967296^(k+1):=by
 rw[mR,hP,h,eZ,Nat.mod_mul]
theorem bTo {n u:Nat} {Q:List Nat}:(List.replicate (n+1) 0++Q).set n u=List.replicate n 0++(u::Q):=by
 rw[sK,eF,mI (h:=by simp)]
 simp
theorem aVk {x:List Nat} {n d r:Nat} {Q:List Nat} (hn:n<x.length) (hd:0<d) (h:val (x.drop (n+1))=val Q*d+r):
 val (x.drop n)=val ((r*4294967296+x.getD n default)/d::Q)*d+(r*4294967296+x.getD n default)%d:=by
 have h1:=vP (a:=x) (n:=n+1) oM oM
 rw[gL] at h1
 rw[h1,h]
 show _=((r*4294967296+x.getD n default)/d+4294967296*val Q)*d+_
 have h2:=iI (r*4294967296+x.getD n default) d
 rw[bO d] at h2
 rw[dW,bQ]
 generalize (r*4294967296+x.getD n default)/d*d=q1 at*
 generalize (r*4294967296+x.getD n default)%d=m1 at*
 generalize val Q*d=t at*
 omega
theorem bHc {r d x:Nat} (hr:r<d) (hd:d<4294967296) (hx:x<4294967296):(r*4294967296+x)/d<4294967296/\r*4294967296+x<18446744073709551616:=by
 refine⟨(jD oM).2 ?_,by omega⟩
 have:(r+1)*4294967296<=d*4294967296:=bK _ hr
 rw[bO 4294967296 d]
 omega
end Go.Vm
namespace Go.Vm
theorem bTp {u v:List Nat} {n:Nat} (hu:u.length=n+1) (hv:v.length=n) (hn:2<=n) (lu:Lm u) (lv:Lm v) (htop:2147483648<=v.getD (n-1) default) (hq:val u<val v*4294967296):
 Kd (val u) (val v) (u.getD n default*4294967296+u.getD (n-1) default) (v.getD (n-1) default) (v.getD (n-2) default) (u.getD (n-2) default) (4294967296^(n-2)) (val (u.take (n-2))) (val (v.take (n-2))):=by
 obtain⟨m,rfl⟩:∃m,n=m+2:=⟨n-2,by omega⟩
 have e1:=eM (xs:=u) (k:=m) oM
 have e2:=eM (xs:=u) (k:=m+1) oM
 have e3:=eM (xs:=u) (k:=m+2) oM
 rw[bU (show u.length<=m+2+1 by omega)] at e3
 have f1:=eM (xs:=v) (k:=m) oM
 have f2:=eM (xs:=v) (k:=m+1) oM
 rw[bU (show v.length<=m+1+1 by omega)] at f2
 have hp1:4294967296^(m+1)=4294967296^m*4294967296:=eZ ..
 have hp2:4294967296^(m+2)=4294967296^(m+1)*4294967296:=eZ ..
 have lt1:=mJ (lu.take m)
 have lt2:=mJ (lv.take m)
 rw[cC,fI oM] at lt1 lt2
 simp only[show m+2-1=m+1 by omega,gL]
 rw[hp1] at e2 f2
 rw[hp2,hp1] at e3
 refine⟨?_,?_,lt1,lt2,by simpa using htop,lv.at oM,lu.at oM,hq⟩
 ·rw[e3,e2,e1,dW,dW]
  generalize 4294967296^m=p
  generalize u.getD (m+2) default=a
  generalize u.getD (m+1) default=b
  generalize u.getD m default=c
  rw[dW,bO c p,uE a 4294967296 4294967296,bQ a 4294967296 4294967296,bQ p,bQ p,bQ p]
  rw[bQ a (4294967296*4294967296) p,bQ b 4294967296 p,bO (4294967296*4294967296) p,bO 4294967296 p,<-bQ a p,<-bQ b p,bO a p,bO b p,bQ p a,bQ p b,bO a,bO b]
  rw[bQ 4294967296 4294967296 a]
  omega
 rw[f2,f1,dW]
 generalize 4294967296^m=p
 generalize v.getD (m+1) default=b
 generalize v.getD m default=c
 rw[bO c p,bQ b 4294967296 p,bO 4294967296 p,<-bQ b p,bO b p,bQ p b,bQ p 4294967296 b,bO b]
 omega
theorem aEt {P u:List Nat} {k:Nat} (hP:P.length=k):(P++u.drop k).getD k default=u.getD k default:=by
 subst hP
 rw[bF,bF,cO (aI _),jW,eQ,jG]
theorem aBl {P u:List Nat} {k z:Nat} (hP:P.length=k) (hk:k<u.length):(P++u.drop k).set k z=(P++[z])++u.drop (k+1):=by
 subst hP
 rw[mI (h:=aI _),jW,qR hk]
 simp
end Go.Vm
namespace Go.Proofs.YtlhdigjbokkbiaaGreat.W
open Go.Vg Go.RowKit _root_.Go.Proofs.Tryz
open Go.Vm
theorem bTq (u c:Nat):sb u c<18446744073709551616:=dM _ dC
theorem wsb {u c:Nat} (hu:u<18446744073709551616) (hc:c<18446744073709551616):IntKind.u64.wrap ((u:Int)-(c:Int))=(((u+18446744073709551616-c)%18446744073709551616:Nat):Int):=by
 rw[aMb];omega
theorem aXv (x:Nat):(x:Int).fdiv (2^(min (63:Int).toNat IntKind.u64.bits))=((x/9223372036854775808:Nat):Int):=by
 rw[iS _ dC]
 show(x:Int)/(2^63:Int)=_
 omega
theorem bTr {w:World} {Dx:Nat->TypeId->Prop} {vx:Value} {x:List Nat} (hx0:Sg (gN .u32) Dx w vx x) (lmx:Lm x) (lnx:x.length<=1099511627776) {Dy:Nat->TypeId->Prop} {vy:Value} {y:List Nat} (hy0:Sg (gN .u32) Dy w vy y) (lmy:Lm y) (lny:y.length<=1099511627776):
 Calls Tryz.prog 146 #[vx,vy] w λe w'=>∃v,e= .returned v/\Sg (gN .u32) (λb T=>w.heap.size<=b/\T=131) w' v (aJ (val x+val y))/\Ext w w':=by
 have hE:Below w.heap.size w w:=Below.refl _ _
 have hx:=hx0.old
 clear hx0
 have hy:=hy0.old
 clear hy0
 have hlvx:=eO lmx
 have hlvy:=eO lmy
 refine eE (n:=62) (rs:=[.tmp 4]) func146 rfl rfl rfl bL ?_
 refine iU λF0 hF0=>?_
 refine wsr (aS (v:=(.slice none (0) (0))) rfl (aE (wsr (mV (v:=vx) (hF0 0) ?_))))
 refine cL mK (pL hx (by assumption) (by first|omega|(simp;done)|(simp;omega))) rfl ?_
 rintro vr2 _ ⟨hr3,rfl⟩
 have hlv4:=eO (x:=x) (by assumption)
 refine mV (v:=vy) (hF0 1) ?_
 refine cL mK (pL hy (by assumption) (by first|omega|(simp;done)|(simp;omega))) rfl ?_
 rintro vr6 _ ⟨hr7,rfl⟩
 have hlv8:=eO (x:=y) (by assumption)
 refine aS (v:=vr2) rfl (aS (v:=vr6) rfl (aE ?_))
 refine iU λF9 hF10=>?_
 refine vN (λfl wl=>∃A:List Nat,∃B:List Nat,∃va:Value,∃vb:Value,Off (rg 0 2 (rg 13 7 [])) F9 fl/\fl 0=va/\fl 1=vb/\(Lm A)/\(Lm B)/\(B.length<=A.length)/\(A.length<=1099511627776)/\(val A+val B=val x+val y)/\(Sg (gN .u32) (λb T=>(Dx b T\/Dy b T)/\b<w.heap.size) wl va A)/\(Sg (gN .u32) (λb T=>(Dx b T\/Dy b T)/\b<w.heap.size) wl vb B)/\(Sg (gN .u32) (λb T=>Dx b T/\b<w.heap.size) wl vx x)/\(Sg (gN .u32) (λb T=>Dy b T/\b<w.heap.size) wl vy y)/\(Below w.heap.size w wl)/\(Sg (gN .u32) (λb T=>Dx b T/\b<w.heap.size) wl vr2 (aJ (val x)))/\(Sg (gN .u32) (λb T=>Dy b T/\b<w.heap.size) wl vr6 (aJ (val y)))) ?_ ?_
 ·have G11:=Off.refl (rg 0 2 (rg 13 7 [])) F9
  refine wsr (mV (v:=vr2) (hF10 0) ?_)
  obtain⟨A12,c13,hv14,hc15,hc16⟩:=hr3.len
  refine rV (gX eC hv14) (mV (v:=vr6) (hF10 1) ?_)
  obtain⟨A17,c18,hv19,hc20,hc21⟩:=hr7.len
  refine rV (gX eC hv19) (rV (mP (k:=.i64) (a:=(((aJ (val x)).length:Nat):Int)) (b:=(((aJ (val y)).length:Nat):Int)) rfl rfl) (aE ?_))
  refine wcD (p:=(((aJ (val x)).length:Nat):Int)<(((aJ (val y)).length:Nat):Int)) rfl (λhb22 hb22p=>?_) (λhb22 hb22p=>?_)
  ·refine cV ?_
   refine mV (v:=vr6) (hF10 1) (mV (v:=vr2) (hF10 0) (aS (v:=vr6) rfl (aS (v:=vr2) rfl (aE ?_))))
   refine⟨(aJ (val y)),(aJ (val x)),vr6,vr2,?_,?_,?_,?_,?_,?_,?_,?_,?_,?_,?_,?_,?_,?_,?_⟩
   ·exact(by repeat (first|exact G11|refine Off.st ?_ dC _))
   ·rfl
   ·rfl
   ·exact cT _
   ·exact cT _
   ·omega
   ·omega
   ·simp only[cX];try omega
   ·exact hr7.mono (λb T h=>⟨by first|exact .inl h.1|exact .inr h.1,h.2⟩)
   ·exact hr3.mono (λb T h=>⟨by first|exact .inl h.1|exact .inr h.1,h.2⟩)
   ·exact hx
   ·exact hy
   ·exact hE
   ·exact hr3
   exact hr7
  refine fL ?_
  refine⟨(aJ (val x)),(aJ (val y)),vr2,vr6,?_,?_,?_,?_,?_,?_,?_,?_,?_,?_,?_,?_,?_,?_,?_⟩
  ·exact(by repeat (first|exact G11|refine Off.st ?_ dC _))
  ·refine((hF10 0)).trans ?_
   rfl
  ·refine((hF10 1)).trans ?_
   rfl
  ·exact cT _
  ·exact cT _
  ·omega
  ·omega
  ·simp only[cX];try omega
  ·exact hr3.mono (λb T h=>⟨by first|exact .inl h.1|exact .inr h.1,h.2⟩)
  ·exact hr7.mono (λb T h=>⟨by first|exact .inl h.1|exact .inr h.1,h.2⟩)
  ·exact hx
  ·exact hy
  ·exact hE
  ·exact hr3
  exact hr7
 clear hx hy hE hr3 hr7
 rintro f23 w24 ⟨A,B,va,vb,G25,hs26,hs27,lmA,lmB,hBA,hlA,hsum,hA,hB,hx,hy,hE,hr3,hr7⟩
 refine wsr (mV hs26 ?_)
 obtain⟨A28,c29,hv30,hc31,hc32⟩:=hA.len
 refine rV (gX eC hv30) (rV (kE (k:=.i64) (a:=((A.length:Nat):Int)) (b:=1) (c:=((A.length:Nat):Int)+1) rfl rfl (jS oM)) ?_)
 have hn38:(((A.length:Nat):Int)+1:Int)=((A.length+1:Nat):Int):=by omega
 refine rU (uS (n:=A.length+1) eC eR rfl (cQ hn38) (cQ hn38) oM oM) ?_
 rintro _ w33 ⟨b34,rfl,hs37,hb36,he35⟩
 have ge_b34:=hE.ge hs37
 replace hE:=hE.nx he35
 replace hb36:=Ar.made (g:=(gN .u32)) (z:=(0:Nat)) hb36 rfl
 have hb36l:=hb36.lt
 refine aS (v:=(.slice (some ⟨b34,0,none⟩) (A.length+1) (A.length+1))) rfl (aE (wsr (aS (v:=(.int .u64 0)) rfl (aE (dV (wsr (mV hs26 (rV (gX eC hv30) (mV (v:=(iv 0)) rfl (aE ?_))))))))))
 refine gC ?_
 refine iU λF39 hF40=>?_
 refine oP (σ:=Nat×Nat×List Nat) (λ(s:Nat×Nat×List Nat) fl wl=>match s with|(k,c,P)=>Off (rg 6 3 (rg 26 28 [])) F39 fl/\fl 26=(iv k)/\fl 6=(.int .u64 (c:Int))/\(k<=A.length)/\(P.length=k)/\(Lm P)/\(c<=1)/\(val P+4294967296^k*c=val (A.take k)+val (B.take k))/\(Ar (gN .u32) wl b34 131 0 (nC P (A.length+1)) (A.length+1))/\(Sg (gN .u32) (λb T=>Dx b T/\b<w.heap.size) wl vx x)/\(Sg (gN .u32) (λb T=>Dy b T/\b<w.heap.size) wl vy y)/\(Below w.heap.size w wl)/\(Sg (gN .u32) (λb T=>Dx b T/\b<w.heap.size) wl vr2 (aJ (val x)))/\(Sg (gN .u32) (λb T=>Dy b T/\b<w.heap.size) wl vr6 (aJ (val y)))/\(Sg (gN .u32) (λb T=>(Dx b T\/Dy b T)/\b<w.heap.size) wl va A)/\(Sg (gN .u32) (λb T=>(Dx b T\/Dy b T)/\b<w.heap.size) wl vb B)) (λ(s:Nat×Nat×List Nat)=>match s with|(k,c,P)=>A.length-k) (0,0,[]) ?_ ?_
 ·replace hx:=hx.tr (aH he35)
  replace hy:=hy.tr (aH he35)
  replace hr3:=hr3.tr (aH he35)
  replace hr7:=hr7.tr (aH he35)
  replace hA:=hA.tr (aH he35)
  replace hB:=hB.tr (aH he35)
  exact⟨Off.refl _ _,(hF40 26).trans (rfl),(hF40 6).trans (rfl),aF _,rfl,Lm.nil,aF _,rfl,(by rw[tR];exact hb36),hx,hy,hE,hr3,hr7,hA,hB⟩
 clear hx hy hE hr3 hr7 hA hB hb36
 rintro⟨k,c,P⟩ f41 w42 ⟨G43,hs44,hs45,hk,hP,hLm,hc,hv,hb36,hx,hy,hE,hr3,hr7,hA,hB⟩
 refine wsr (rV (mP (k:=.i64) (a:=(k:Int)) (b:=((A.length:Nat):Int)) hs44 ((G43 25 rfl).trans (hF40 25))) (aE (dV ?_)))
 refine wcD (p:=(k:Int)<((A.length:Nat):Int)) rfl (λhb46 hb46p=>?_) (λhb46 hb46p=>?_)
 ·refine fL ?_
  refine dV ?_
  refine gC ?_
  refine dV ?_
  have hkl:k<A.length:=by omega
  have hak:=lmA.at hkl
  have hbk:=vO lmB k
  refine cV (mV hs44 ?_)
  obtain⟨b47,o48,c49,hv50,hc51⟩:=hA.ix (i:=(k:Int)) (k) oM oM
  refine rV (cA (i:=(k:Int)) eC eR ((((G43 24 rfl).trans (hF40 24))).trans hv50) hs44 oM oM) (rV (dJ (v:=(.int .u32 (((A.getD (k) default:Nat):Int)))) eS kH rfl hc51) (aS (v:=(iv k)) rfl (aS (v:=(.int .u32 (((A.getD (k) default:Nat):Int)))) rfl (aE (wsr (mV hs45 (mV (v:=(.int .u32 (((A.getD (k) default:Nat):Int)))) rfl (rV (fE (k:=.u64) (a:=((A.getD (k) default:Nat):Int)) (c:=((A.getD (k) default:Nat):Int)) eS jE rfl (iV oM)) (rV (kE (k:=.u64) (a:=(c:Int)) (b:=((A.getD (k) default:Nat):Int)) (c:=(c:Int)+((A.getD (k) default:Nat):Int)) rfl rfl (iV oM)) (aS (v:=(.int .u64 ((c:Int)+((A.getD (k) default:Nat):Int)))) rfl (aE ?_)))))))))))
  refine iU λF52 hF53=>?_
  refine vN (λfl wl=>Off (6::(rg 35 11 [])) F52 fl/\fl 6=(.int .u64 ((((c+A.getD k default+dig B k):Nat):Int)))/\(Sg (gN .u32) (λb T=>Dx b T/\b<w.heap.size) wl vx x)/\(Sg (gN .u32) (λb T=>Dy b T/\b<w.heap.size) wl vy y)/\(Below w.heap.size w wl)/\(Sg (gN .u32) (λb T=>Dx b T/\b<w.heap.size) wl vr2 (aJ (val x)))/\(Sg (gN .u32) (λb T=>Dy b T/\b<w.heap.size) wl vr6 (aJ (val y)))/\(Sg (gN .u32) (λb T=>(Dx b T\/Dy b T)/\b<w.heap.size) wl va A)/\(Sg (gN .u32) (λb T=>(Dx b T\/Dy b T)/\b<w.heap.size) wl vb B)/\(Ar (gN .u32) wl b34 131 0 (nC P (A.length+1)) (A.length+1))) ?_ ?_
  ·have G54:=Off.refl (6::(rg 35 11 [])) F52
   refine wsr (mV (v:=(iv k)) (hF53 7) (mV (v:=vb) ((hF53 1).trans ((G43 1 rfl).trans ((hF40 1).trans hs27))) ?_))
   obtain⟨A55,c56,hv57,hc58,hc59⟩:=hB.len
   refine rV (gX eC hv57) (rV (mP (k:=.i64) (a:=(k:Int)) (b:=((B.length:Nat):Int)) rfl rfl) (aE ?_))
   refine wcD (p:=(k:Int)<((B.length:Nat):Int)) rfl (λhb60 hb60p=>?_) (λhb60 hb60p=>?_)
   ·refine cV ?_
    refine mV (v:=(.int .u64 ((c:Int)+((A.getD (k) default:Nat):Int)))) (hF53 6) (mV (v:=vb) ((hF53 1).trans ((G43 1 rfl).trans ((hF40 1).trans hs27))) (mV (v:=(iv k)) (hF53 7) ?_))
    obtain⟨b61,o62,c63,hv64,hc65⟩:=hB.ix (i:=(k:Int)) (k) oM oM
    refine rV (cA (i:=(k:Int)) eC eR hv64 rfl oM oM) (rV (dJ (v:=(.int .u32 (((B.getD (k) default:Nat):Int)))) eS kH rfl hc65) (rV (fE (k:=.u64) (a:=((B.getD (k) default:Nat):Int)) (c:=((B.getD (k) default:Nat):Int)) eS jE rfl (iV (by have:=lmB.at (k:=k) oM;omega))) (rV (kE (k:=.u64) (a:=(c:Int)+((A.getD (k) default:Nat):Int)) (b:=((B.getD (k) default:Nat):Int)) (c:=((c:Int)+((A.getD (k) default:Nat):Int))+((B.getD (k) default:Nat):Int)) rfl rfl (iV (by have:=lmB.at (k:=k) oM;omega))) (aS (v:=(.int .u64 (((c:Int)+((A.getD (k) default:Nat):Int))+((B.getD (k) default:Nat):Int)))) rfl (aE ?_)))))
    refine⟨?_,?_,?_,?_,?_,?_,?_,?_,?_,?_⟩
    ·exact(by repeat (first|exact G54|refine Off.st ?_ dC _|refine Off.via G43 dC ?_|refine Off.eq hF40 ?_|refine Off.via G25 dC ?_|refine Off.eq hF10 ?_))
    ·first|exact cQ (by rw[qQ (xs:=B) oM];omega)|exact cQ (by rw[wE (xs:=B) oM];omega)
    ·exact hx
    ·exact hy
    ·exact hE
    ·exact hr3
    ·exact hr7
    ·exact hA
    ·exact hB
    exact hb36
   refine fL ?_
   refine⟨?_,?_,?_,?_,?_,?_,?_,?_,?_,?_⟩
   ·exact(by repeat (first|exact G54|refine Off.st ?_ dC _|refine Off.via G43 dC ?_|refine Off.eq hF40 ?_|refine Off.via G25 dC ?_|refine Off.eq hF10 ?_))
   ·refine((hF53 6)).trans ?_
    first|exact cQ (by rw[qQ (xs:=B) oM];omega)|exact cQ (by rw[wE (xs:=B) oM];omega)
   ·exact hx
   ·exact hy
   ·exact hE
   ·exact hr3
   ·exact hr7
   ·exact hA
   ·exact hB
   exact hb36
  clear hx hy hE hr3 hr7 hA hB hb36
  rintro f66 w67 ⟨G68,hs69,hx,hy,hE,hr3,hr7,hA,hB,hb36⟩
  refine wsr (mV (v:=(.slice (some ⟨b34,0,none⟩) (A.length+1) (A.length+1))) ((G68 5 rfl).trans ((hF53 5).trans ((G43 5 rfl).trans (hF40 5)))) (mV (v:=(iv k)) ((G68 7 rfl).trans (hF53 7)) (mV hs69 (rV (fE (k:=.u32) (a:=(((c+A.getD k default+dig B k):Nat):Int)) (c:=(((c+A.getD k default+dig B k)%4294967296:Nat):Int)) jE eS rfl (cu32 _)) (rV (cA (i:=(k:Int)) eC eR rfl rfl oM oM) ?_)))))
  refine fC rfl rfl (aAg (g:=(gN .u32)) (vv:=(.int .u32 ((((c+A.getD k default+dig B k)%4294967296:Nat):Int)))) (u:=(c+A.getD k default+dig B k)%4294967296) (i:=(k:Int)) eR rfl rfl rfl rfl rfl hb36 (k) oM oM) ?_
  rintro w70 ⟨ha71,hx72⟩
  replace hE:=hE.nb hx72 ge_b34
  replace hb36:=ha71
  refine aE (cV (mV hs69 (rV (tU (k:=.u64) (a:=(((c+A.getD k default+dig B k):Nat):Int)) (b:=32) (c:=(((c+A.getD k default+dig B k)/4294967296:Nat):Int)) rfl rfl dC (shr32 _)) (aS (v:=(.int .u64 ((((c+A.getD k default+dig B k)/4294967296:Nat):Int)))) rfl (aE (cV (rV (kE (k:=.i64) (a:=(k:Int)) (b:=1) (c:=(k:Int)+1) ((G68 26 rfl).trans ((hF53 26).trans hs44)) rfl (jS oM)) (mV (v:=(iv ((k:Int)+1))) rfl (aE ?_)))))))))
  replace hx:=hx.tr (Sm.exc hx72 (λ_ _ _ _ hd=>absurd hd.2 (bS ge_b34)))
  replace hy:=hy.tr (Sm.exc hx72 (λ_ _ _ _ hd=>absurd hd.2 (bS ge_b34)))
  replace hr3:=hr3.tr (Sm.exc hx72 (λ_ _ _ _ hd=>absurd hd.2 (bS ge_b34)))
  replace hr7:=hr7.tr (Sm.exc hx72 (λ_ _ _ _ hd=>absurd hd.2 (bS ge_b34)))
  replace hA:=hA.tr (Sm.exc hx72 (λ_ _ _ _ hd=>absurd hd.2 (bS ge_b34)))
  replace hB:=hB.tr (Sm.exc hx72 (λ_ _ _ _ hd=>absurd hd.2 (bS ge_b34)))
  refine⟨(k+1,(c+A.getD k default+dig B k)/4294967296,P++[(c+A.getD k default+dig B k)%4294967296]),⟨?_,?_,?_,?_,?_,?_,?_,?_,?_,?_,?_,?_,?_,?_,?_,?_⟩,?_⟩
  ·exact(by repeat (first|exact G43|refine Off.st ?_ dC _|refine Off.via G68 dC ?_|refine Off.eq hF53 ?_|refine Off.via G25 dC ?_|refine Off.eq hF10 ?_))
  ·first|rfl|exact cQ oM|exact aW (by simp)
  ·first|rfl|exact cQ oM|exact aW (by simp)
  ·omega
  ·rw[aP,hP];rfl
  ·exact hLm.snoc (dM _ dC)
  ·omega
  ·rw[eM hkl,qP];exact aMd hP hv
  ·rw[qJ hP oM] at hb36;exact hb36
  ·exact hx
  ·exact hy
  ·exact hE
  ·exact hr3
  ·exact hr7
  ·exact hA
  ·exact hB
  (try dsimp only)
  omega
 refine nG ?_
 refine wsr (mV (v:=(.slice (some ⟨b34,0,none⟩) (A.length+1) (A.length+1))) ((G43 5 rfl).trans (hF40 5)) (mV (v:=va) ((G43 0 rfl).trans ((hF40 0).trans hs26)) (rV (gX eC hv30) (mV hs45 (rV (fE (k:=.u32) (a:=(c:Int)) (c:=((c%4294967296:Nat):Int)) jE eS rfl (cu32 _)) (rV (cA (i:=((A.length:Nat):Int)) eC eR rfl rfl oM oM) ?_))))))
 refine fC rfl rfl (aAg (g:=(gN .u32)) (vv:=(.int .u32 (((c%4294967296:Nat):Int)))) (u:=c%4294967296) (i:=((A.length:Nat):Int)) eR rfl rfl rfl rfl rfl hb36 (A.length) oM oM) ?_
 rintro w73 ⟨ha74,hx75⟩
 replace hE:=hE.nb hx75 ge_b34
 replace hb36:=ha74
 refine aE (dV ?_)
 have hka:k=A.length:=by omega
 rw[qJ oM oM,rN (by simp;omega)] at hb36
 have hfin:val (P++[c%4294967296])=val x+val y:=by
  rw[mR,hP,hka,cW oM,<-hsum]
  rw[hka,bU (aI _),bU hBA] at hv
  exact hv
 have hPl:=hLm.snoc (x:=c%4294967296) (dM _ dC)
 refine cV (mV (v:=(.slice (some ⟨b34,0,none⟩) (A.length+1) (A.length+1))) ((G43 5 rfl).trans (hF40 5)) ?_)
 refine cL mK (pL (hb36.sc (D:=(λb T=>w.heap.size<=b/\T=131)) (aI _) oM ⟨ge_b34,rfl⟩) hPl (by first|omega|(simp;done)|(simp;omega))) rfl ?_
 rintro vr77 _ ⟨hr78,rfl⟩
 have hlv79:=eO (x:=(P++[c%4294967296])) hPl
 refine aS (v:=vr77) rfl (aE ?_)
 refine gH ?_
 refine⟨[vr77],⟨rfl,trivial⟩,?_⟩
 have hres:=hr78
 rw[hfin] at hres
 exact⟨hres,hE⟩
theorem aXw {w:World} {Dx:Nat->TypeId->Prop} {vx:Value} {x:List Nat} (hx0:Sg (gN .u32) Dx w vx x) (lmx:Lm x) (lnx:x.length<=1099511627776) {Dy:Nat->TypeId->Prop} {vy:Value} {y:List Nat} (hy0:Sg (gN .u32) Dy w vy y) (lmy:Lm y) (lny:y.length<=1099511627776):
 Calls Tryz.prog 147 #[vx,vy] w λe w'=>∃v,e= .returned v/\(∃vr,v= .tuple #[vr,.bool (decide (val y<=val x))]/\Sg (gN .u32) (λb T=>w.heap.size<=b/\T=131) w' vr (aJ (val x-val y)))/\Ext w w':=by
 have hE:Below w.heap.size w w:=Below.refl _ _
 have hx:=hx0.old
 clear hx0
 have hy:=hy0.old
 clear hy0
 have hlvx:=eO lmx
 have hlvy:=eO lmy
 refine eE (n:=54) (rs:=[.tmp 4,.tmp 5]) func147 rfl rfl rfl bL ?_
 refine iU λF0 hF0=>?_
 refine wsr (aS (v:=(.slice none (0) (0))) rfl (aS (v:=(.bool false)) rfl (aE (wsr (mV (v:=vx) (hF0 0) ?_)))))
 refine cL mK (pL hx (by assumption) (by first|omega|(simp;done)|(simp;omega))) rfl ?_
 rintro vr2 _ ⟨hr3,rfl⟩
 have hlv4:=eO (x:=x) (by assumption)
 refine mV (v:=vy) (hF0 1) ?_
 refine cL mK (pL hy (by assumption) (by first|omega|(simp;done)|(simp;omega))) rfl ?_
 rintro vr6 _ ⟨hr7,rfl⟩
 have hlv8:=eO (x:=y) (by assumption)
 refine aS (v:=vr2) rfl (aS (v:=vr6) rfl (aE (dV (wsr (mV (v:=vr2) rfl (mV (v:=vr6) rfl ?_))))))
 refine cL yC (qK hr3 (cT _) oS hr7 (cT _) oS) rfl ?_
 rintro vq12 w9 ⟨hq11,he10⟩
 simp only[cX] at hq11
 subst hq11
 replace hE:=hE.nx he10
 refine rV (mP (k:=.i64) (a:=cmpI (((val x):Nat):Int) (((val y):Nat):Int)) (b:=0) rfl rfl) (aE ?_)
 refine wcD (p:=(cmpI (((val x):Nat):Int) (((val y):Nat):Int))<0) rfl (λhb13 hb13p=>?_) (λhb13 hb13p=>?_)
 ·have hlt:val x<val y:=by have:=cmpI_neg.1 hb13p;omega
  refine wsr (aS (v:=(.slice none (0) (0))) rfl (aS (v:=(.bool false)) rfl (aE ?_)))
  refine gH ?_
  refine⟨[(.slice none (0) (0)),(.bool false)],⟨rfl,⟨rfl,trivial⟩⟩,?_⟩
  exact⟨⟨_,by rw[decide_eq_false oM];rfl,by rw[show val x-val y=0 by omega];exact Sg.nil⟩,hE⟩
 have hge:val y<=val x:=by rcases eY (val x) (val y) with h|h;exact absurd (cmpI_neg.2 oM) hb13p;exact h
 have hlen:(aJ (val y)).length<=(aJ (val x)).length:=gO hge
 refine fL ?_
 refine wsr (mV (v:=vr2) rfl ?_)
 obtain⟨A14,c15,hv16,hc17,hc18⟩:=hr3.len
 refine rV (gX eC hv16) ?_
 have hn24:((((aJ (val x)).length:Nat):Int):Int)=(((aJ (val x)).length:Nat):Int):=by omega
 refine rU (uS (n:=(aJ (val x)).length) eC eR rfl (cQ hn24) (cQ hn24) oM oM) ?_
 rintro _ w19 ⟨b20,rfl,hs23,hb22,he21⟩
 have ge_b20:=hE.ge hs23
 replace hE:=hE.nx he21
 replace hb22:=Ar.made (g:=(gN .u32)) (z:=(0:Nat)) hb22 rfl
 have hb22l:=hb22.lt
 refine aS (v:=(.slice (some ⟨b20,0,none⟩) ((aJ (val x)).length) ((aJ (val x)).length))) rfl (aE (wsr (aS (v:=(.int .u64 0)) rfl (aE (dV (wsr (mV (v:=vr2) rfl (rV (gX eC hv16) (mV (v:=(iv 0)) rfl (aE ?_))))))))))
 refine gC ?_
 refine iU λF25 hF26=>?_
 refine oP (σ:=Nat×Nat×List Nat) (λ(s:Nat×Nat×List Nat) fl wl=>match s with|(k,c,P)=>Off (rg 7 4 (rg 24 28 [])) F25 fl/\fl 24=(iv k)/\fl 7=(.int .u64 (c:Int))/\(k<=(aJ (val x)).length)/\(P.length=k)/\(Lm P)/\(c<=1)/\(val P+val ((aJ (val y)).take k)=val ((aJ (val x)).take k)+4294967296^k*c)/\(Ar (gN .u32) wl b20 131 0 (nC P (aJ (val x)).length) ((aJ (val x)).length))/\(Sg (gN .u32) (λb T=>Dx b T/\b<w.heap.size) wl vx x)/\(Sg (gN .u32) (λb T=>Dy b T/\b<w.heap.size) wl vy y)/\(Below w.heap.size w wl)/\(Sg (gN .u32) (λb T=>Dx b T/\b<w.heap.size) wl vr2 (aJ (val x)))/\(Sg (gN .u32) (λb T=>Dy b T/\b<w.heap.size) wl vr6 (aJ (val y)))) (λ(s:Nat×Nat×List Nat)=>match s with|(k,c,P)=>(aJ (val x)).length-k) (0,0,[]) ?_ ?_
 ·replace hx:=hx.tr (aH (aB he10 he21))
  replace hy:=hy.tr (aH (aB he10 he21))
  replace hr3:=hr3.tr (aH (aB he10 he21))
  replace hr7:=hr7.tr (aH (aB he10 he21))
  exact⟨Off.refl _ _,(hF26 24).trans (rfl),(hF26 7).trans (rfl),aF _,rfl,Lm.nil,aF _,rfl,(by rw[tR];exact hb22),hx,hy,hE,hr3,hr7⟩
 clear hx hy hE hr3 hr7 hb22
 rintro⟨k,c,P⟩ f27 w28 ⟨G29,hs30,hs31,hk,hP,hLm,hc,hv,hb22,hx,hy,hE,hr3,hr7⟩
 refine wsr (rV (mP (k:=.i64) (a:=(k:Int)) (b:=(((aJ (val x)).length:Nat):Int)) hs30 ((G29 23 rfl).trans (hF26 23))) (aE (dV ?_)))
 refine wcD (p:=(k:Int)<(((aJ (val x)).length:Nat):Int)) rfl (λhb32 hb32p=>?_) (λhb32 hb32p=>?_)
 ·refine fL ?_
  refine dV ?_
  refine gC ?_
  refine dV ?_
  have hxk:=(cT (val x)).at (k:=k) oM
  have hyk:=vO (cT (val y)) k
  have hsb:=bHa hxk hc hyk
  refine cV (mV hs30 ?_)
  obtain⟨b33,o34,c35,hv36,hc37⟩:=hr3.ix (i:=(k:Int)) (k) oM oM
  refine rV (cA (i:=(k:Int)) eC eR ((((G29 22 rfl).trans (hF26 22))).trans hv36) hs30 oM oM) (rV (dJ (v:=(.int .u32 ((((aJ (val x)).getD (k) default:Nat):Int)))) eS kH rfl hc37) (aS (v:=(iv k)) rfl (aS (v:=(.int .u32 ((((aJ (val x)).getD (k) default:Nat):Int)))) rfl (aE (wsr (mV (v:=(.int .u32 ((((aJ (val x)).getD (k) default:Nat):Int)))) rfl (rV (fE (k:=.u64) (a:=(((aJ (val x)).getD (k) default:Nat):Int)) (c:=(((aJ (val x)).getD (k) default:Nat):Int)) eS jE rfl (iV oM)) (mV hs31 (rV (lT (k:=.u64) (a:=(((aJ (val x)).getD (k) default:Nat):Int)) (b:=(c:Int)) (c:=((sb ((aJ (val x)).getD k default) c:Nat):Int)) rfl rfl (wsb oM oM)) (aS (v:=(.int .u64 (((sb ((aJ (val x)).getD k default) c:Nat):Int)))) rfl (aE ?_)))))))))))
  refine iU λF38 hF39=>?_
  refine vN (λfl wl=>Off (10::(rg 33 11 [])) F38 fl/\fl 10=(.int .u64 ((((sb2 ((aJ (val x)).getD k default) c (dig (aJ (val y)) k)):Nat):Int)))/\(Sg (gN .u32) (λb T=>Dx b T/\b<w.heap.size) wl vx x)/\(Sg (gN .u32) (λb T=>Dy b T/\b<w.heap.size) wl vy y)/\(Below w.heap.size w wl)/\(Sg (gN .u32) (λb T=>Dx b T/\b<w.heap.size) wl vr2 (aJ (val x)))/\(Sg (gN .u32) (λb T=>Dy b T/\b<w.heap.size) wl vr6 (aJ (val y)))/\(Ar (gN .u32) wl b20 131 0 (nC P (aJ (val x)).length) ((aJ (val x)).length))) ?_ ?_
  ·have G40:=Off.refl (10::(rg 33 11 [])) F38
   refine wsr (mV (v:=(iv k)) (hF39 8) (mV (v:=vr6) ((hF39 1).trans ((G29 1 rfl).trans (hF26 1))) ?_))
   obtain⟨A41,c42,hv43,hc44,hc45⟩:=hr7.len
   refine rV (gX eC hv43) (rV (mP (k:=.i64) (a:=(k:Int)) (b:=(((aJ (val y)).length:Nat):Int)) rfl rfl) (aE ?_))
   refine wcD (p:=(k:Int)<(((aJ (val y)).length:Nat):Int)) rfl (λhb46 hb46p=>?_) (λhb46 hb46p=>?_)
   ·refine cV ?_
    refine mV (v:=(.int .u64 (((sb ((aJ (val x)).getD k default) c:Nat):Int)))) (hF39 10) (mV (v:=vr6) ((hF39 1).trans ((G29 1 rfl).trans (hF26 1))) (mV (v:=(iv k)) (hF39 8) ?_))
    obtain⟨b47,o48,c49,hv50,hc51⟩:=hr7.ix (i:=(k:Int)) (k) oM oM
    refine rV (cA (i:=(k:Int)) eC eR hv50 rfl oM oM) (rV (dJ (v:=(.int .u32 ((((aJ (val y)).getD (k) default:Nat):Int)))) eS kH rfl hc51) (rV (fE (k:=.u64) (a:=(((aJ (val y)).getD (k) default:Nat):Int)) (c:=(((aJ (val y)).getD (k) default:Nat):Int)) eS jE rfl (iV (by have:=(cT (val y)).at (k:=k) oM;omega))) (rV (lT (k:=.u64) (a:=((sb ((aJ (val x)).getD k default) c:Nat):Int)) (b:=(((aJ (val y)).getD (k) default:Nat):Int)) (c:=((sb2 ((aJ (val x)).getD k default) c ((aJ (val y)).getD k default):Nat):Int)) rfl rfl (wsb (bTq _ _) (by have:=(cT (val y)).at (k:=k) oM;omega))) (aS (v:=(.int .u64 (((sb2 ((aJ (val x)).getD k default) c ((aJ (val y)).getD k default):Nat):Int)))) rfl (aE ?_)))))
    refine⟨?_,?_,?_,?_,?_,?_,?_,?_⟩
    ·exact(by repeat (first|exact G40|refine Off.st ?_ dC _|refine Off.via G29 dC ?_|refine Off.eq hF26 ?_))
    ·first|exact cQ (by rw[qQ (xs:=aJ (val y)) oM])|exact cQ (by rw[wE (xs:=aJ (val y)) oM,aSe])
    ·exact hx
    ·exact hy
    ·exact hE
    ·exact hr3
    ·exact hr7
    exact hb22
   refine fL ?_
   refine⟨?_,?_,?_,?_,?_,?_,?_,?_⟩
   ·exact(by repeat (first|exact G40|refine Off.st ?_ dC _|refine Off.via G29 dC ?_|refine Off.eq hF26 ?_))
   ·refine((hF39 10)).trans ?_
    first|exact cQ (by rw[qQ (xs:=aJ (val y)) oM])|exact cQ (by rw[wE (xs:=aJ (val y)) oM,aSe])
   ·exact hx
   ·exact hy
   ·exact hE
   ·exact hr3
   ·exact hr7
   exact hb22
  clear hx hy hE hr3 hr7 hb22
  rintro f52 w53 ⟨G54,hs55,hx,hy,hE,hr3,hr7,hb22⟩
  refine wsr (mV (v:=(.slice (some ⟨b20,0,none⟩) ((aJ (val x)).length) ((aJ (val x)).length))) ((G54 6 rfl).trans ((hF39 6).trans ((G29 6 rfl).trans (hF26 6)))) (mV (v:=(iv k)) ((G54 8 rfl).trans (hF39 8)) (mV (v:=(.int .u64 ((((sb2 ((aJ (val x)).getD k default) c (dig (aJ (val y)) k)):Nat):Int)))) hs55 (rV (fE (k:=.u32) (a:=(((sb2 ((aJ (val x)).getD k default) c (dig (aJ (val y)) k)):Nat):Int)) (c:=(((sb2 ((aJ (val x)).getD k default) c (dig (aJ (val y)) k))%4294967296:Nat):Int)) jE eS rfl (cu32 _)) (rV (cA (i:=(k:Int)) eC eR rfl rfl oM oM) ?_)))))
  refine fC rfl rfl (aAg (g:=(gN .u32)) (vv:=(.int .u32 ((((sb2 ((aJ (val x)).getD k default) c (dig (aJ (val y)) k))%4294967296:Nat):Int)))) (u:=(sb2 ((aJ (val x)).getD k default) c (dig (aJ (val y)) k))%4294967296) (i:=(k:Int)) eR rfl rfl rfl rfl rfl hb22 (k) oM oM) ?_
  rintro w56 ⟨ha57,hx58⟩
  replace hE:=hE.nb hx58 ge_b20
  replace hb22:=ha57
  refine aE (cV (mV (v:=(.int .u64 ((((sb2 ((aJ (val x)).getD k default) c (dig (aJ (val y)) k)):Nat):Int)))) hs55 (rV (tU (k:=.u64) (a:=(((sb2 ((aJ (val x)).getD k default) c (dig (aJ (val y)) k)):Nat):Int)) (b:=63) (c:=(((sb2 ((aJ (val x)).getD k default) c (dig (aJ (val y)) k))/9223372036854775808:Nat):Int)) rfl rfl dC (aXv _)) (aS (v:=(.int .u64 ((((sb2 ((aJ (val x)).getD k default) c (dig (aJ (val y)) k))/9223372036854775808:Nat):Int)))) rfl (aE (cV (rV (kE (k:=.i64) (a:=(k:Int)) (b:=1) (c:=(k:Int)+1) ((G54 24 rfl).trans ((hF39 24).trans hs30)) rfl (jS oM)) (mV (v:=(iv ((k:Int)+1))) rfl (aE ?_)))))))))
  replace hx:=hx.tr (Sm.exc hx58 (λ_ _ _ _ hd=>absurd hd.2 (bS ge_b20)))
  replace hy:=hy.tr (Sm.exc hx58 (λ_ _ _ _ hd=>absurd hd.2 (bS ge_b20)))
  replace hr3:=hr3.tr (Sm.exc hx58 (λ_ _ _ _ hd=>absurd hd.2 (bS ge_b20)))
  replace hr7:=hr7.tr (Sm.exc hx58 (λ_ _ _ _ hd=>absurd hd.2 (bS ge_b20)))
  refine⟨(k+1,(if (aJ (val x)).getD k default<c+dig (aJ (val y)) k then 1 else 0),P++[((aJ (val x)).getD k default+4294967296-(c+dig (aJ (val y)) k))%4294967296]),⟨?_,?_,?_,?_,?_,?_,?_,?_,?_,?_,?_,?_,?_,?_⟩,?_⟩
  ·exact(by repeat (first|exact G29|refine Off.st ?_ dC _|refine Off.via G54 dC ?_|refine Off.eq hF39 ?_))
  ·first|rfl|exact cQ oM|exact aW (by simp)
  ·exact cQ (by rw[hsb.2])
  ·omega
  ·rw[aP,hP];rfl
  ·exact hLm.snoc (dM _ dC)
  ·split<;>omega
  ·rw[qP,eM (xs:=aJ (val x)) oM];exact aMe hP hv hxk hyk hc
  ·rw[hsb.1,qJ hP oM] at hb22;exact hb22
  ·exact hx
  ·exact hy
  ·exact hE
  ·exact hr3
  ·exact hr7
  (try dsimp only)
  omega
 refine nG ?_
 refine dV ?_
 have hkm:k=(aJ (val x)).length:=by omega
 rw[rN oM] at hb22
 have hfin:=aRy hLm hP oM oM (by rw[cX,cX];exact hge) hv
 rw[cX,cX] at hfin
 refine cV (mV (v:=(.slice (some ⟨b20,0,none⟩) ((aJ (val x)).length) ((aJ (val x)).length))) ((G29 6 rfl).trans (hF26 6)) ?_)
 refine cL mK (pL (hb22.sc (D:=(λb T=>w.heap.size<=b/\T=131)) (aI _) oM ⟨ge_b20,rfl⟩) hLm (by first|omega|(simp;done)|(simp;omega))) rfl ?_
 rintro vr60 _ ⟨hr61,rfl⟩
 have hlv62:=eO (x:=P) hLm
 refine aS (v:=vr60) rfl (aS (v:=(.bool true)) rfl (aE ?_))
 refine gH ?_
 refine⟨[vr60,(.bool true)],⟨rfl,⟨rfl,trivial⟩⟩,?_⟩
 have hres:=hr61
 rw[hfin] at hres
 exact⟨⟨_,by rw[decide_eq_true hge];rfl,hres⟩,hE⟩
theorem aMn {w:World} {Dx:Nat->TypeId->Prop} {vx:Value} {x:List Nat} (hx0:Sg (gN .u32) Dx w vx x) (lmx:Lm x) (lnx:x.length<=1099511627776) {Dy:Nat->TypeId->Prop} {vy:Value} {y:List Nat} (hy0:Sg (gN .u32) Dy w vy y) (lmy:Lm y) (lny:y.length<=1099511627776):
 Calls Tryz.prog 85 #[vx,vy] w λe w'=>∃v,e= .returned v/\Sg (gN .u32) (λb T=>w.heap.size<=b/\T=131) w' v (aJ (val x*val y))/\Ext w w':=by
 have hE:Below w.heap.size w w:=Below.refl _ _
 have hx:=hx0.old
 clear hx0
 have hy:=hy0.old
 clear hy0
 have hlvx:=eO lmx
 have hlvy:=eO lmy
 refine eE (n:=81) (rs:=[.tmp 4]) func85 rfl rfl rfl bL ?_
 refine iU λF0 hF0=>?_
 refine wsr (aS (v:=(.slice none (0) (0))) rfl (aE (wsr (mV (v:=vx) (hF0 0) ?_))))
 refine cL mK (pL hx (by assumption) (by first|omega|(simp;done)|(simp;omega))) rfl ?_
 rintro vr2 _ ⟨hr3,rfl⟩
 have hlv4:=eO (x:=x) (by assumption)
 refine mV (v:=vy) (hF0 1) ?_
 refine cL mK (pL hy (by assumption) (by first|omega|(simp;done)|(simp;omega))) rfl ?_
 rintro vr6 _ ⟨hr7,rfl⟩
 have hlv8:=eO (x:=y) (by assumption)
 refine aS (v:=vr2) rfl (aS (v:=vr6) rfl (aE (dV (wsr (mV (v:=vr2) rfl ?_)))))
 obtain⟨A9,c10,hv11,hc12,hc13⟩:=hr3.len
 refine rV (gX eC hv11) (rV (tA (k:=.i64) (a:=(((aJ (val x)).length:Nat):Int)) (b:=0) rfl rfl) (mV (v:=(bd ((((aJ (val x)).length:Nat):Int)=0))) rfl ?_))
 rcases bD ((((aJ (val x)).length:Nat):Int)=0) with ⟨hb14,hb14p⟩|⟨hb14,hb14p⟩
 ·have hxz:val x=0:=kZ.1 (by unfold len;omega)
  refine RL.gno rfl rfl (aW hb14) rfl dC ?_
  refine RL.gno rfl rfl (aW hb14) rfl dC ?_
  refine RL.gno rfl rfl (aW hb14) rfl dC ?_
  refine rV (kT (v:=(.bool true)) (aW hb14) rfl) (aE ?_)
  refine wV rfl ?_
  refine wsr (aS (v:=(.slice none (0) (0))) rfl (aE ?_))
  refine gH ?_
  refine⟨[(.slice none (0) (0))],⟨rfl,trivial⟩,?_⟩
  rw[show val x*val y=0 by first|(rw[hxz,lH])|(rw[kZ.1 (show len (val y)=0 by unfold len;omega),nV])]
  exact⟨Sg.nil,hE⟩
 refine RL.gval rfl rfl (aW hb14) rfl dC (gS (v:=vr6) rfl) ?_
 obtain⟨A15,c16,hv17,hc18,hc19⟩:=hr7.len
 refine RL.gval rfl rfl (aW hb14) rfl dC (gX eC hv17) ?_
 refine RL.gval rfl rfl (aW hb14) rfl dC (tA (k:=.i64) (a:=(((aJ (val y)).length:Nat):Int)) (b:=0) rfl rfl) ?_
 refine rV (mO (v:=(bd ((((aJ (val y)).length:Nat):Int)=0))) (aW hb14) rfl) (aE ?_)
 refine wcD (p:=(((aJ (val y)).length:Nat):Int)=0) rfl (λhb20 hb20p=>?_) (λhb20 hb20p=>?_)
 ·refine wsr ?_
  refine aS (v:=(.slice none (0) (0))) rfl (aE ?_)
  refine gH ?_
  refine⟨[(.slice none (0) (0))],⟨rfl,trivial⟩,?_⟩
  rw[show val x*val y=0 by first|(rw[hxz,lH])|(rw[kZ.1 (show len (val y)=0 by unfold len;omega),nV])]
  exact⟨Sg.nil,hE⟩
 refine fL ?_
 refine wsr (mV (v:=vr2) rfl (rV (gX eC hv11) (mV (v:=vr6) rfl (rV (gX eC hv17) (rV (kE (k:=.i64) (a:=(((aJ (val x)).length:Nat):Int)) (b:=(((aJ (val y)).length:Nat):Int)) (c:=(((aJ (val x)).length:Nat):Int)+(((aJ (val y)).length:Nat):Int)) rfl rfl (jS oM)) ?_)))))
 have hn26:((((aJ (val x)).length:Nat):Int)+(((aJ (val y)).length:Nat):Int):Int)=(((aJ (val x)).length+(aJ (val y)).length:Nat):Int):=by omega
 refine rU (uS (n:=(aJ (val x)).length+(aJ (val y)).length) eC eR rfl (cQ hn26) (cQ hn26) oM oM) ?_
 rintro _ w21 ⟨b22,rfl,hs25,hb24,he23⟩
 have ge_b22:=hE.ge hs25
 replace hE:=hE.nx he23
 replace hb24:=Ar.made (g:=(gN .u32)) (z:=(0:Nat)) hb24 rfl
 have hb24l:=hb24.lt
 refine aS (v:=(.slice (some ⟨b22,0,none⟩) ((aJ (val x)).length+(aJ (val y)).length) ((aJ (val x)).length+(aJ (val y)).length))) rfl (aE (dV (wsr (mV (v:=vr2) rfl (rV (gX eC hv11) (mV (v:=(iv 0)) rfl (aE ?_)))))))
 refine gC ?_
 refine iU λF27 hF28=>?_
 refine oP (σ:=Nat×List Nat) (λ(s:Nat×List Nat) fl wl=>match s with|(i,O)=>Off (rg 6 5 (rg 31 48 [])) F27 fl/\fl 31=(iv i)/\(i<=(aJ (val x)).length)/\(O.length=(aJ (val x)).length+(aJ (val y)).length)/\(Lm O)/\(∀j,i+(aJ (val y)).length<=j->j<O.length->O.getD j default=0)/\(val (O.take (i+(aJ (val y)).length))=val ((aJ (val x)).take i)*val (aJ (val y)))/\(Ar (gN .u32) wl b22 131 0 O ((aJ (val x)).length+(aJ (val y)).length))/\(Sg (gN .u32) (λb T=>Dx b T/\b<w.heap.size) wl vx x)/\(Sg (gN .u32) (λb T=>Dy b T/\b<w.heap.size) wl vy y)/\(Below w.heap.size w wl)/\(Sg (gN .u32) (λb T=>Dx b T/\b<w.heap.size) wl vr2 (aJ (val x)))/\(Sg (gN .u32) (λb T=>Dy b T/\b<w.heap.size) wl vr6 (aJ (val y)))) (λ(s:Nat×List Nat)=>match s with|(i,O)=>(aJ (val x)).length-i) (0,List.replicate ((aJ (val x)).length+(aJ (val y)).length) 0) ?_ ?_
 ·replace hx:=hx.tr (aH he23)
  replace hy:=hy.tr (aH he23)
  replace hr3:=hr3.tr (aH he23)
  replace hr7:=hr7.tr (aH he23)
  exact⟨Off.refl _ _,(hF28 31).trans (rfl),aF _,by simp,Lm.zeros _,(λj _ hj=>by rw[bF,List.getElem?_replicate];split<;>rfl),(by rw[List.take_replicate,aDb];simp[val]),hb24,hx,hy,hE,hr3,hr7⟩
 clear hx hy hE hr3 hr7 hb24
 rintro⟨i,O⟩ f29 w30 ⟨G31,hs32,hi,hOl,hOm,hz,hv,hb24,hx,hy,hE,hr3,hr7⟩
 refine wsr (rV (mP (k:=.i64) (a:=(i:Int)) (b:=(((aJ (val x)).length:Nat):Int)) hs32 ((G31 30 rfl).trans (hF28 30))) (aE (dV ?_)))
 refine wcD (p:=(i:Int)<(((aJ (val x)).length:Nat):Int)) rfl (λhb33 hb33p=>?_) (λhb33 hb33p=>?_)
 ·refine fL ?_
  refine dV ?_
  refine gC ?_
  refine dV ?_
  have hxi:=(cT (val x)).at (k:=i) oM
  refine cV (mV hs32 ?_)
  obtain⟨b34,o35,c36,hv37,hc38⟩:=hr3.ix (i:=(i:Int)) (i) oM oM
  refine rV (cA (i:=(i:Int)) eC eR ((((G31 29 rfl).trans (hF28 29))).trans hv37) hs32 oM oM) (rV (dJ (v:=(.int .u32 ((((aJ (val x)).getD (i) default:Nat):Int)))) eS kH rfl hc38) (aS (v:=(iv i)) rfl (aS (v:=(.int .u32 ((((aJ (val x)).getD (i) default:Nat):Int)))) rfl (aE (dV (wsr (mV (v:=(.int .u32 ((((aJ (val x)).getD (i) default:Nat):Int)))) rfl (rV (tA (k:=.u32) (a:=(((aJ (val x)).getD (i) default:Nat):Int)) (b:=0) rfl rfl) (aE ?_)))))))))
  refine wcD (p:=(((aJ (val x)).getD (i) default:Nat):Int)=0) rfl (λhb39 hb39p=>?_) (λhb39 hb39p=>?_)
  ·have hx0:(aJ (val x)).getD i default=0:=by have:=hb39p;omega
   refine nG ?_
   refine cV (rV (kE (k:=.i64) (a:=(i:Int)) (b:=1) (c:=(i:Int)+1) hs32 rfl (jS oM)) (mV (v:=(iv ((i:Int)+1))) rfl (aE ?_)))
   refine⟨(i+1,O),⟨?_,?_,?_,?_,?_,?_,?_,?_,?_,?_,?_,?_,?_⟩,?_⟩
   ·exact(by repeat (first|exact G31|refine Off.st ?_ dC _))
   ·first|rfl|exact cQ oM|exact aW (by simp)
   ·omega
   ·exact hOl
   ·exact hOm
   ·exact λj h1 h2=>hz j oM h2
   ·exact aXt oM hOl hv hz hx0
   ·exact hb24
   ·exact hx
   ·exact hy
   ·exact hE
   ·exact hr3
   ·exact hr7
   (try dsimp only)
   omega
  refine fL ?_
  refine wsr (aS (v:=(.int .u64 0)) rfl (aE (dV (wsr (mV (v:=vr6) ((G31 1 rfl).trans (hF28 1)) (rV (gX eC hv17) (mV (v:=(iv 0)) rfl (aE ?_))))))))
  refine gC ?_
  refine iU λF40 hF41=>?_
  refine oP (σ:=Nat×Nat×List Nat) (λ(s:Nat×Nat×List Nat) fl wl=>match s with|(k,c,Q)=>Off (rg 8 3 (rg 40 30 [])) F40 fl/\fl 40=(iv k)/\fl 8=(.int .u64 (c:Int))/\(k<=(aJ (val y)).length)/\(Q.length=k)/\(Lm Q)/\(c<4294967296)/\(val Q+4294967296^k*c=val ((O.drop i).take k)+(aJ (val x)).getD i default*val ((aJ (val y)).take k))/\(Ar (gN .u32) wl b22 131 0 (qS O Q i) ((aJ (val x)).length+(aJ (val y)).length))/\(Sg (gN .u32) (λb T=>Dx b T/\b<w.heap.size) wl vx x)/\(Sg (gN .u32) (λb T=>Dy b T/\b<w.heap.size) wl vy y)/\(Below w.heap.size w wl)/\(Sg (gN .u32) (λb T=>Dx b T/\b<w.heap.size) wl vr2 (aJ (val x)))/\(Sg (gN .u32) (λb T=>Dy b T/\b<w.heap.size) wl vr6 (aJ (val y)))) (λ(s:Nat×Nat×List Nat)=>match s with|(k,c,Q)=>(aJ (val y)).length-k) (0,0,[]) ?_ ?_
  ·exact⟨Off.refl _ _,(hF41 40).trans (rfl),(hF41 8).trans (rfl),aF _,rfl,Lm.nil,by decide,rfl,(by rw[aMf];exact hb24),hx,hy,hE,hr3,hr7⟩
  clear hx hy hE hr3 hr7 hb24
  rintro⟨k,c,Q⟩ f42 w43 ⟨G44,hs45,hs46,hk,hQ,hQm,hc,hQv,hb24,hx,hy,hE,hr3,hr7⟩
  refine wsr (rV (mP (k:=.i64) (a:=(k:Int)) (b:=(((aJ (val y)).length:Nat):Int)) hs45 ((G44 39 rfl).trans (hF41 39))) (aE (dV ?_)))
  refine wcD (p:=(k:Int)<(((aJ (val y)).length:Nat):Int)) rfl (λhb47 hb47p=>?_) (λhb47 hb47p=>?_)
  ·refine fL ?_
   refine dV ?_
   refine gC ?_
   refine dV ?_
   have hyk:=(cT (val y)).at (k:=k) oM
   have hok:=hOm.at (k:=i+k) oM
   have hxy:=yA hxi hyk
   obtain⟨p,hp⟩:∃p,p=(aJ (val x)).getD i default*(aJ (val y)).getD k default:=⟨_,rfl⟩
   rw[<-hp] at hxy
   refine cV (mV hs45 ?_)
   obtain⟨b48,o49,c50,hv51,hc52⟩:=hr7.ix (i:=(k:Int)) (k) oM oM
   refine rV (cA (i:=(k:Int)) eC eR ((((G44 38 rfl).trans (hF41 38))).trans hv51) hs45 oM oM) (rV (dJ (v:=(.int .u32 ((((aJ (val y)).getD (k) default:Nat):Int)))) eS kH rfl hc52) (aS (v:=(iv k)) rfl (aS (v:=(.int .u32 ((((aJ (val y)).getD (k) default:Nat):Int)))) rfl (aE (wsr (mV hs46 (mV (v:=(.int .u32 ((((aJ (val x)).getD (i) default:Nat):Int)))) ((G44 7 rfl).trans (hF41 7)) (rV (fE (k:=.u64) (a:=(((aJ (val x)).getD (i) default:Nat):Int)) (c:=(((aJ (val x)).getD (i) default:Nat):Int)) eS jE rfl (iV oM)) (mV (v:=(.int .u32 ((((aJ (val y)).getD (k) default:Nat):Int)))) rfl (rV (fE (k:=.u64) (a:=(((aJ (val y)).getD (k) default:Nat):Int)) (c:=(((aJ (val y)).getD (k) default:Nat):Int)) eS jE rfl (iV oM)) (rV (uR (k:=.u64) (a:=(((aJ (val x)).getD (i) default:Nat):Int)) (b:=(((aJ (val y)).getD (k) default:Nat):Int)) (c:=(((aJ (val x)).getD i default*(aJ (val y)).getD k default:Nat):Int)) rfl rfl ((iV (by rw[<-dH,<-hp];omega)).trans (by rw[dH]))) (mV (v:=(.slice (some ⟨b22,0,none⟩) ((aJ (val x)).length+(aJ (val y)).length) ((aJ (val x)).length+(aJ (val y)).length))) ((G44 5 rfl).trans ((hF41 5).trans ((G31 5 rfl).trans (hF28 5)))) (mV (v:=(iv i)) ((G44 6 rfl).trans (hF41 6)) (mV (v:=(iv k)) rfl (rV (kE (k:=.i64) (a:=(i:Int)) (b:=(k:Int)) (c:=(i:Int)+(k:Int)) rfl rfl (jS oM)) (rV (cA (i:=(i:Int)+(k:Int)) eC eR rfl rfl oM oM) ?_))))))))))))))))
   have hc53:=hb24.cell (i:=(i:Int)+(k:Int)) (i+k) oM oM
   rw[show(qS O Q i).getD (i+k) default=O.getD (i+k) default from (aRz hQ oM)] at hc53
   refine rV (dJ (v:=(.int .u32 (((O.getD (i+k) default:Nat):Int)))) eS kH rfl hc53) (rV (fE (k:=.u64) (a:=((O.getD (i+k) default:Nat):Int)) (c:=((O.getD (i+k) default:Nat):Int)) eS jE rfl (iV oM)) (rV (kE (k:=.u64) (a:=(((aJ (val x)).getD i default*(aJ (val y)).getD k default:Nat):Int)) (b:=((O.getD (i+k) default:Nat):Int)) (c:=((O.getD (i+k) default+(aJ (val x)).getD i default*(aJ (val y)).getD k default:Nat):Int)) rfl rfl ((iV (by rw[<-hp];omega)).trans oM)) (rV (kE (k:=.u64) (a:=(c:Int)) (b:=((O.getD (i+k) default+(aJ (val x)).getD i default*(aJ (val y)).getD k default:Nat):Int)) (c:=((c+(O.getD (i+k) default+(aJ (val x)).getD i default*(aJ (val y)).getD k default):Nat):Int)) rfl rfl ((iV (by rw[<-hp];omega)).trans oM)) (aS (v:=(.int .u64 (((c+(O.getD (i+k) default+(aJ (val x)).getD i default*(aJ (val y)).getD k default):Nat):Int)))) rfl (aE (wsr (mV (v:=(.slice (some ⟨b22,0,none⟩) ((aJ (val x)).length+(aJ (val y)).length) ((aJ (val x)).length+(aJ (val y)).length))) ((G44 5 rfl).trans ((hF41 5).trans ((G31 5 rfl).trans (hF28 5)))) (mV (v:=(iv i)) ((G44 6 rfl).trans (hF41 6)) (mV (v:=(iv k)) rfl (rV (kE (k:=.i64) (a:=(i:Int)) (b:=(k:Int)) (c:=(i:Int)+(k:Int)) rfl rfl (jS oM)) (mV (v:=(.int .u64 (((c+(O.getD (i+k) default+(aJ (val x)).getD i default*(aJ (val y)).getD k default):Nat):Int)))) rfl (rV (fE (k:=.u32) (a:=((c+(O.getD (i+k) default+(aJ (val x)).getD i default*(aJ (val y)).getD k default):Nat):Int)) (c:=(((c+(O.getD (i+k) default+(aJ (val x)).getD i default*(aJ (val y)).getD k default))%4294967296:Nat):Int)) jE eS rfl (cu32 _)) (rV (cA (i:=(i:Int)+(k:Int)) eC eR rfl rfl oM oM) ?_)))))))))))))
   refine fC rfl rfl (aAg (g:=(gN .u32)) (vv:=(.int .u32 ((((c+(O.getD (i+k) default+(aJ (val x)).getD i default*(aJ (val y)).getD k default))%4294967296:Nat):Int)))) (u:=(c+(O.getD (i+k) default+(aJ (val x)).getD i default*(aJ (val y)).getD k default))%4294967296) (i:=(i:Int)+(k:Int)) eR rfl rfl rfl rfl rfl hb24 (i+k) oM oM) ?_
   rintro w54 ⟨ha55,hx56⟩
   replace hE:=hE.nb hx56 ge_b22
   replace hb24:=ha55
   refine aE (cV (mV (v:=(.int .u64 (((c+(O.getD (i+k) default+(aJ (val x)).getD i default*(aJ (val y)).getD k default):Nat):Int)))) rfl (rV (tU (k:=.u64) (a:=((c+(O.getD (i+k) default+(aJ (val x)).getD i default*(aJ (val y)).getD k default):Nat):Int)) (b:=32) (c:=(((c+(O.getD (i+k) default+(aJ (val x)).getD i default*(aJ (val y)).getD k default))/4294967296:Nat):Int)) rfl rfl dC (shr32 _)) (aS (v:=(.int .u64 ((((c+(O.getD (i+k) default+(aJ (val x)).getD i default*(aJ (val y)).getD k default))/4294967296:Nat):Int)))) rfl (aE (cV (rV (kE (k:=.i64) (a:=(k:Int)) (b:=1) (c:=(k:Int)+1) hs45 rfl (jS oM)) (mV (v:=(iv ((k:Int)+1))) rfl (aE ?_)))))))))
   replace hx:=hx.tr (Sm.exc hx56 (λ_ _ _ _ hd=>absurd hd.2 (bS ge_b22)))
   replace hy:=hy.tr (Sm.exc hx56 (λ_ _ _ _ hd=>absurd hd.2 (bS ge_b22)))
   replace hr3:=hr3.tr (Sm.exc hx56 (λ_ _ _ _ hd=>absurd hd.2 (bS ge_b22)))
   replace hr7:=hr7.tr (Sm.exc hx56 (λ_ _ _ _ hd=>absurd hd.2 (bS ge_b22)))
   refine⟨(k+1,(c+(O.getD (i+k) default+(aJ (val x)).getD i default*(aJ (val y)).getD k default))/4294967296,Q++[(c+(O.getD (i+k) default+(aJ (val x)).getD i default*(aJ (val y)).getD k default))%4294967296]),⟨?_,?_,?_,?_,?_,?_,?_,?_,?_,?_,?_,?_,?_,?_⟩,?_⟩
   ·exact(by repeat (first|exact G44|refine Off.st ?_ dC _|refine Off.via G31 dC ?_|refine Off.eq hF28 ?_))
   ·first|rfl|exact cQ oM|exact aW (by simp)
   ·first|rfl|exact cQ oM|exact aW (by simp)
   ·omega
   ·rw[aP,hQ];rfl
   ·exact hQm.snoc (dM _ dC)
   ·omega
   ·exact aBi hQ oM oM hQv
   ·rw[aBh hQ oM] at hb24;exact hb24
   ·exact hx
   ·exact hy
   ·exact hE
   ·exact hr3
   ·exact hr7
   (try dsimp only)
   omega
  refine nG ?_
  have hky:k=(aJ (val y)).length:=by omega
  have hQe:val Q+4294967296^(aJ (val y)).length*c=val ((O.drop i).take (aJ (val y)).length)+(aJ (val x)).getD i default*val (aJ (val y)):=by rw[hky,bU (aI (aJ (val y)).length)] at hQv;exact hQv
  refine cV (mV (v:=(.slice (some ⟨b22,0,none⟩) ((aJ (val x)).length+(aJ (val y)).length) ((aJ (val x)).length+(aJ (val y)).length))) ((G44 5 rfl).trans ((hF41 5).trans ((G31 5 rfl).trans (hF28 5)))) (mV (v:=(iv i)) ((G44 6 rfl).trans (hF41 6)) (mV (v:=vr6) ((G44 1 rfl).trans ((hF41 1).trans ((G31 1 rfl).trans (hF28 1)))) (rV (gX eC hv17) (rV (kE (k:=.i64) (a:=(i:Int)) (b:=(((aJ (val y)).length:Nat):Int)) (c:=(i:Int)+(((aJ (val y)).length:Nat):Int)) rfl rfl (jS oM)) (mV hs46 (rV (fE (k:=.u32) (a:=(c:Int)) (c:=((c%4294967296:Nat):Int)) jE eS rfl (cu32 _)) (rV (cA (i:=(i:Int)+(((aJ (val y)).length:Nat):Int)) eC eR rfl rfl oM oM) ?_))))))))
  refine fC rfl rfl (aAg (g:=(gN .u32)) (vv:=(.int .u32 (((c%4294967296:Nat):Int)))) (u:=c) (i:=(i:Int)+(((aJ (val y)).length:Nat):Int)) eR rfl rfl (cQ oM) rfl rfl hb24 (i+(aJ (val y)).length) oM oM) ?_
  rintro w57 ⟨ha58,hx59⟩
  replace hE:=hE.nb hx59 ge_b22
  replace hb24:=ha58
  refine aE (cV (rV (kE (k:=.i64) (a:=(i:Int)) (b:=1) (c:=(i:Int)+1) ((G44 31 rfl).trans ((hF41 31).trans hs32)) rfl (jS oM)) (mV (v:=(iv ((i:Int)+1))) rfl (aE ?_))))
  replace hx:=hx.tr (Sm.exc hx59 (λ_ _ _ _ hd=>absurd hd.2 (bS ge_b22)))
  replace hy:=hy.tr (Sm.exc hx59 (λ_ _ _ _ hd=>absurd hd.2 (bS ge_b22)))
  replace hr3:=hr3.tr (Sm.exc hx59 (λ_ _ _ _ hd=>absurd hd.2 (bS ge_b22)))
  replace hr7:=hr7.tr (Sm.exc hx59 (λ_ _ _ _ hd=>absurd hd.2 (bS ge_b22)))
  refine⟨(i+1,qS O (Q++[c]) i),⟨?_,?_,?_,?_,?_,?_,?_,?_,?_,?_,?_,?_,?_⟩,?_⟩
  ·exact(by repeat (first|exact G31|refine Off.st ?_ dC _|refine Off.via G44 dC ?_|refine Off.eq hF41 ?_))
  ·first|rfl|exact cQ oM|exact aW (by simp)
  ·omega
  ·rw[sD (by simp;omega)];exact hOl
  ·exact aSa hOm (hQm.snoc oM)
  ·exact aFu (by simp;omega) oM hz
  ·exact aSb (n:=0) oM oM hOl hv hQe
  ·rw[aBh (k:=(aJ (val y)).length) oM oM] at hb24;exact hb24
  ·exact hx
  ·exact hy
  ·exact hE
  ·exact hr3
  ·exact hr7
  (try dsimp only)
  omega
 refine nG ?_
 refine dV ?_
 have hix:i=(aJ (val x)).length:=by omega
 have hfin:val O=val x*val y:=by rw[hix,bU oM,bU (aI _),cX,cX] at hv;exact hv
 refine cV (mV (v:=(.slice (some ⟨b22,0,none⟩) ((aJ (val x)).length+(aJ (val y)).length) ((aJ (val x)).length+(aJ (val y)).length))) ((G31 5 rfl).trans (hF28 5)) ?_)
 refine cL mK (pL (hb24.sc (D:=(λb T=>w.heap.size<=b/\T=131)) (aI _) oM ⟨ge_b22,rfl⟩) hOm (by first|omega|(simp;done)|(simp;omega))) rfl ?_
 rintro vr61 _ ⟨hr62,rfl⟩
 have hlv63:=eO (x:=O) hOm
 refine aS (v:=vr61) rfl (aE ?_)
 refine gH ?_
 refine⟨[vr61],⟨rfl,trivial⟩,?_⟩
 have hres:=hr62
 rw[hfin] at hres
 exact⟨hres,hE⟩
end Go.Proofs.YtlhdigjbokkbiaaGreat.W
