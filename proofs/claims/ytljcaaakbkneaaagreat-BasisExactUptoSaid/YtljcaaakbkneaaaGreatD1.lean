/- BasisExact, second form: for arguments of bulk at most 1048576 the law returns true and what came in reads as it did. Part 1 of 7: Vga Vgb Vgc Vgd Vge Vgf Vgg Vgh Msort Mnat Mknu Mlng Mleh Mwin Mrat Mquo Mvec Vya Vyb Vyc Vyd. -/
import Derived.WalkKit
import Derived.ProofKit
import Derived.OrdersHeld
import Derived.OrdersIn
import Derived.OwnWalkIn
import Derived.WalkSpells
import Derived.Maps.AppendAt
import Derived.Laws.StructEq
set_option maxHeartbeats 4000000
set_option linter.unusedVariables false
set_option linter.unusedSimpArgs false
theorem U.{u} {α:Sort u}{a:α}:a=a:=.refl a
theorem Uc {p:Prop}(h:p:=by omega):p:=h
theorem U0 {p:Prop}(h:p:=by kernel_rfl):p:=h
theorem U1:True:=⟨⟩
abbrev U2:=@if_neg
abbrev U3:=@if_pos
abbrev U4:=@absurd
abbrev U5:=@congrArg
abbrev U6.{u} {α:Sort u}[Inhabited α]:α:=default
abbrev bT := @Nat.le_of_ble_eq_true
abbrev aM := @Nat.eq_of_beq_eq_true
abbrev qA := @Array.getElem?_setIfInBounds_ne
abbrev gU := @Ne.symm
abbrev aQ := @Bool.and_eq_true
abbrev aX := @List.all_eq_true
abbrev eE := @Nat.lt_or_ge
abbrev cJ := @List.mem_range
abbrev jX := @Bool.not_true
abbrev jP := @Bool.or_eq_true
abbrev qL := @Bool.false_or
abbrev dP := @Bool.not_eq_true'
abbrev pS := @Array.getElem?_eq_none
abbrev kG := @Array.getElem?_eq_some_iff
abbrev bW := @List.mem_cons
abbrev qJ := @Int.not_lt
abbrev aJ := @Nat.le_trans
abbrev bM := @Nat.lt_of_lt_of_le
abbrev jF := @Nat.add_assoc
abbrev dN := @List.getElem?_drop
abbrev fK := @List.getElem?_take
abbrev aH := @Nat.le_refl
abbrev iS := @Nat.add_zero
abbrev nU := @List.replicate_succ'
abbrev lN := @List.flatten_append
abbrev jZ := @List.ext_getElem
abbrev dE := @Nat.add_mul
abbrev vN := @List.getElem_map
abbrev nH := @List.flatten_cons
abbrev dW := @List.append_nil
abbrev aK := @List.length_map
abbrev fJ := @List.length_range
abbrev bP := @Nat.mul_comm
abbrev cM := @Nat.mod_eq_of_lt
abbrev gQ := @Int.natCast_mul
abbrev cN := @Int.toNat_natCast
abbrev rR := @List.map_eq_nil_iff
abbrev uP := @List.map_take
abbrev cK := @List.drop_of_length_le
abbrev qM := @List.map_drop
abbrev bE := @Nat.mul_one
abbrev cW := @List.append_assoc
abbrev bH := @List.getElem?_append_right
abbrev fP := @Nat.add_sub_cancel_left
abbrev aV := @List.getElem?_append_left
abbrev jB := @Bool.false_eq_true
abbrev rJ := @List.mem_filter
abbrev bQ := @List.eq_nil_of_length_eq_zero
abbrev mA := @List.filter_cons
abbrev sW := @List.filter_filter
abbrev uA := @List.filter_congr
abbrev eR := @List.pairwise_append
abbrev dK := @List.drop_eq_getElem_cons
abbrev gW := @List.pairwise_iff_getElem
abbrev iT := @List.take_sublist
abbrev cE := @List.take_of_length_le
abbrev dG := @Nat.mod_lt
abbrev dJ := @Nat.pow_succ
abbrev cZ := @Nat.mul_add
abbrev bO := @Nat.mul_assoc
abbrev aO := @List.mem_append
abbrev aE := @List.mem_singleton
abbrev cH := @List.mem_of_mem_take
abbrev fU := @List.mem_of_mem_drop
abbrev jR := @List.replicate_succ
abbrev eG := @List.length_cons
abbrev fL := @Nat.add_sub_cancel
abbrev aC := @List.getD_eq_getElem?_getD
abbrev bI := @List.length_take
abbrev eZ := @Nat.min_eq_left
abbrev fB := @Nat.lt_of_le_of_lt
abbrev eB := @Nat.pow_le_pow_right
abbrev iW := @Nat.pow_add
abbrev jA := @List.set_append_right
abbrev gH := @Nat.sub_self
abbrev aD := @List.length_append
abbrev cL := @Nat.eq_zero_or_pos
abbrev dM := @Nat.mul_le_mul_left
abbrev dT := @List.take_append_drop
abbrev eT := @Nat.le_of_lt
abbrev aT := @Nat.mul_le_mul_right
abbrev cO := @List.length_singleton
abbrev fC := @List.take_append_of_le_length
abbrev cP := @List.length_drop
abbrev oT := @Nat.two_pow_pos
abbrev pT := @Nat.mul_zero
abbrev fX := @Nat.div_div_eq_div_mul
abbrev lF := @Nat.add_mul_div_left
abbrev gN := @Nat.pow_pos
abbrev iI := @Nat.div_eq_of_lt
abbrev eP := @Nat.zero_add
abbrev yO := @Nat.pow_one
abbrev fG := @Nat.div_add_mod
abbrev iM := @Nat.two_pow_add_eq_or_of_lt
abbrev kK := @List.set_eq_take_append_cons_drop
abbrev nV := @Nat.pow_lt_pow_right
abbrev aB := @Nat.zero_le
abbrev nD := @Nat.le_div_iff_mul_le
abbrev kH := @Nat.lt_of_mul_lt_mul_right
abbrev sD := @Nat.lt_trans
abbrev iN := @Nat.mul_lt_mul_of_pos_right
abbrev sX := @Nat.mul_right_comm
abbrev fO := @Nat.div_lt_iff_lt_mul
abbrev bR := @Nat.lt_or_eq_of_le
abbrev dH := @Nat.succ_mul
abbrev gB := @Nat.mul_le_mul
abbrev nI := @Nat.add_mod_right
abbrev eF := @Nat.lt_trichotomy
abbrev iD := @Nat.add_comm
abbrev jU := @Nat.succ_pos
abbrev sY := @List.drop_drop
abbrev eJ := @Nat.le_mul_of_pos_right
abbrev jK := @List.drop_append_of_le_length
abbrev mX := @List.nil_append
abbrev rC := @Nat.div_le_div_right
abbrev mC := @Int.mul_le_mul_of_nonneg_right
abbrev rD := @Int.mul_le_mul_of_nonneg_left
abbrev yP := @Int.mul_nonneg
abbrev rK := @Int.natCast_add
abbrev yQ := @Int.mul_sub
abbrev yR := @Int.mul_one
abbrev uB := @Int.neg_neg
abbrev oG := @Nat.succ_eq_add_one
abbrev mL := @Nat.sub_add_cancel
abbrev pU := @Nat.le_mul_of_pos_left
abbrev qN := @Nat.dvd_trans
abbrev kA := @Nat.gcd_dvd_left
abbrev oD := @Nat.dvd_mul_left
abbrev pV := @Nat.gcd_dvd_right
abbrev mD := @Int.natCast_dvd_natCast
abbrev oL := @Int.dvd_trans
abbrev mE := @Int.dvd_mul_left
abbrev uD := @Int.one_mul
abbrev yS := @Int.neg_mul
abbrev rL := @Int.natCast_sub
abbrev iX := @Nat.one_mul
abbrev jL := @Int.natAbs_mul
abbrev sZ := @Rat.num_divInt
abbrev tI := @Int.natAbs_ediv_le_natAbs
abbrev uE := @Int.lt_trichotomy
abbrev tA := @Int.sign_eq_neg_one_of_neg
abbrev pW := @Int.sign_eq_one_of_pos
abbrev yT := @Rat.den_divInt
abbrev iE := @Nat.div_le_self
abbrev rM := @Int.gcd_pos_of_ne_zero_right
abbrev jG := @Int.mul_ediv_cancel_left
abbrev dX := @Int.natAbs_natCast
abbrev tJ := @Int.mul_neg_of_pos_of_neg
abbrev tB := @Int.natAbs_neg
abbrev yU := @Int.mul_neg
abbrev yV := @Int.mul_pos
abbrev nE := @Rat.divInt_add_divInt
abbrev jC := @Rat.num_divInt_den
abbrev qE := @Rat.divInt_mul_divInt
abbrev yW := @Rat.neg_divInt
abbrev iJ := @Rat.div_def
abbrev oN := @Nat.gcd_pos_of_pos_right
abbrev vO := @Int.natCast_ediv
abbrev wU := @Int.le_of_lt
abbrev fY := @Rat.zero_add
abbrev oO := @Rat.add_assoc
abbrev bK := @Rat.add_zero
abbrev tC := @List.pairwise_cons
abbrev jH := @Int.lt_trans
abbrev dL := @Rat.zero_mul
abbrev dR := @List.map_congr_left
abbrev cX := @List.mem_append_left
abbrev dU := @List.mem_append_right
abbrev aR := @List.mem_of_getElem?
abbrev oE := @List.getElem?_eq_some_iff
abbrev aG := @List.getElem?_eq_getElem
abbrev pX := @List.getElem?_set_self
abbrev nW := @List.getElem?_set_ne
abbrev cC := @List.length_set
abbrev dI := @List.not_mem_nil
abbrev vP := @Nat.succ_le_succ
abbrev rN := @Bool.eq_iff_iff
abbrev aF := @Nat.not_lt_zero
abbrev eS := @Nat.le_of_mul_le_mul_right
abbrev eQ := @List.map_cons
abbrev cV := @List.getElem?_of_mem
abbrev gC := @Nat.lt_irrefl
abbrev aS := @Nat.lt_succ_self
abbrev vS := @List.mem_flatten
abbrev gO := @List.mem_replicate
abbrev dF := @List.take_add_one
abbrev uF := @List.size_toArray
abbrev iU := @Decidable.not_not
abbrev jM := @Nat.mul_pos
abbrev fV := @Array.toArray_toList
abbrev gV := @Nat.beq_refl
abbrev pY := @List.any_eq_false
abbrev gR := @List.range_succ
abbrev bA := @List.map_append
abbrev dQ := @List.getElem?_map
abbrev lH := @List.map_map
abbrev bZ := @List.mem_map
abbrev tD := @List.nodup_nil
abbrev kN := @List.nodup_cons
abbrev nJ := @Array.toList_push
abbrev lI := @List.nodup_append
abbrev eM := @Array.getElem?_toList
abbrev tK := @Array.getElem?_eq_getElem
abbrev lO := @List.filter_eq_self
abbrev lS := @Array.toList_filter
abbrev iO := @Iff.rfl
abbrev tL := @Option.isNone_iff_eq_none
abbrev kI := @Int.fdiv_eq_ediv_of_nonneg
abbrev dO := @Nat.zero_lt_one
abbrev cB := @Nat.le_of_lt_succ
abbrev gP := @BitVec.ofInt_natCast
abbrev xD := @BitVec.toNat_or
abbrev iF := @BitVec.toNat_ofNat
abbrev mF := @List.drop_zero
abbrev cU := @List.length_replicate
abbrev yX := @List.take_zero
abbrev pZ := @Nat.le_one_iff_eq_zero_or_eq_one
abbrev mM := @Nat.pow_zero
abbrev cQ := @List.take_length
abbrev tE := @Int.tdiv_eq_ediv_of_nonneg
abbrev tF := @Int.tmod_eq_emod_of_nonneg
abbrev uG := @Nat.div_one
abbrev jV := @Nat.gcd_comm
abbrev yY := @Nat.gcd_rec
abbrev oW := @Nat.gcd_zero_right
abbrev aN := @Classical.byContradiction
abbrev mN := @Nat.sub_le
abbrev xE := @Rat.divInt_zero
abbrev jD := @Rat.sub_eq_add_neg
abbrev cY := @Rat.num_eq_zero
abbrev xF := @Rat.zero_divInt
abbrev bU := @Rat.mul_zero
abbrev kB := @List.getElem_mem
abbrev aAq := @Int.not_le
abbrev eK := @List.pairwise_singleton
abbrev cR := @Classical.not_not
abbrev mG := @List.drop_length
abbrev dY := @Nat.lt_succ_of_lt
abbrev yZ := @List.map_id
abbrev jY := @Int.ofNat.inj
abbrev qB := @List.eraseIdx_eq_take_drop_succ
abbrev iK := @List.length_eq_zero_iff
abbrev cT := @List.nodup_iff_pairwise_ne
abbrev gI := @List.pairwise_map
abbrev zB := @List.Perm.refl
abbrev uQ := @Rat.lt_irrefl
abbrev iY := @Rat.one_mul
abbrev mH := @List.nodup_range
abbrev tG := @List.length_eraseIdx_of_lt
abbrev qO := @Rat.mul_assoc
abbrev fM := @Rat.inv_mul_cancel
abbrev nX := @Rat.mul_one
abbrev oU := @Rat.mul_eq_zero
abbrev mO := @Rat.mul_inv_cancel
abbrev tH := @Rat.div_mul_cancel
abbrev uR := @List.length_filterMap_le
abbrev rT := @List.getElem_of_mem
abbrev pD := @Classical.axiomOfChoice
abbrev rU := @List.length_reverse
abbrev xG := @Nat.min_le_left
abbrev qF := @List.getElem?_eq_none
abbrev tM := @List.getElem?_eq_none_iff
abbrev oV := @Option.some.inj
namespace Go.Vg
theorem _root_.Go.oM {p:Prop} (h:p:=by omega):p:=h
theorem _root_.Go.dC {p:Prop} (h:p:=by decide):p:=h
theorem _root_.Go.kR {p:Prop} (h:p:=by kernel_rfl):p:=h
theorem _root_.Go.oS {p:Prop} (h:p:=by first|omega|simp):p:=h
theorem _root_.Go.bL {a b:Nat} (h:Nat.ble a b=true:=by rfl):a<=b:=bT h
open Go.RowKit
def Fm (dl:List Deferred) (n:Nat) (f:Nat->Value) (a:Act):Prop:=a.defers=dl/\a.tmps.size=n/\∀i,a.tmps.getD i undef=f i
def st (f:Nat->Value) (d:Nat) (v:Value):Nat->Value:=λi=>match Nat.beq i d with
 |true=>v
 |false=>f i
theorem aXs {i d:Nat} (h:i≠d):Nat.beq i d=false:=by
 cases e:Nat.beq i d with
 |false=>rfl
 |true=>exact U4 (aM e) h
def ev (f:Nat->Value):Operand->Value
 |.tmp t=>f t
 |.const v=>v
 |.global g=> .pointer (some ⟨g,0,none⟩)
 |.func k=> .func (.func k) #[] #[]
theorem Fm.eval {n:Nat} {f:Nat->Value} {dl:List Deferred} {a:Act} (h:Fm dl n f a):a.eval=ev f:=by
 funext x
 cases x with
 |tmp t=>exact h.2.2 t
 |const v=>rfl
 |global g=>rfl
 |func k=>rfl
theorem aIv (f:Nat->Value) (d:Nat) (v:Value):st f d v d=v:=by simp[st]
theorem qP (f:Nat->Value) (d i:Nat) (v:Value) (h:i≠d):st f d v i=f i:=by
 have:Nat.beq i d=false:=aXs h
 simp[st,this]
theorem Fm.put {n:Nat} {f:Nat->Value} {dl:List Deferred} {a:Act} (h:Fm dl n f a) {d:Nat} (hd:d<n) (v:Value):Fm dl n (st f d v) (a.put (some d) v):=by
 refine⟨h.1,by simp[Act.put,h.2.1],λi=>?_⟩
 by_cases hi:i=d
 ·subst hi
  rw[aIv]
  simp[Act.put,h.2.1,hd]
 rw[qP _ _ _ _ hi,<-h.2.2 i]
 simp[Act.put,qA (gU hi)]
structure Po where
 nrm:(Nat->Value)->World->Prop
 ext:Nat->(Nat->Value)->World->Prop
 ret:(Nat->Value)->World->Prop
def up (dl:List Deferred) (n:Nat) (Q:Po):Exit->Act->World->Prop
 |.normal,a,w=>∃f,Fm dl n f a/\Q.nrm f w
 |.exit i,a,w=>∃f,Fm dl n f a/\Q.ext i f w
 |.ret,a,w=>∃f,Fm dl n f a/\Q.ret f w
 |_,_,_=>False
abbrev fen (ro:Option Nat):Fence:={fn:=λ_=>True,depth:=none,alive:=false,round:=ro}
def WP (P:Program) (n:Nat) (c:Code) (Q:Po) (f:Nat->Value) (w:World):Prop:=∀ro dl a,Fm dl n f a->c.wpIn (fen ro) 0 P (up dl n Q) a w
theorem aIw {ro:Option Nat} {o:Option FuncId}:∀f,o=some f->(fen ro).fn f:=λ_ _=>trivial
section rules
variable {P:Program} {n:Nat} {Q:Po} {f:Nat->Value} {w:World}
theorem bVi (h:Q.nrm f w):WP P n .skip Q f w:=λ_ dl a ha=>wpIn_skip ⟨f,ha,h⟩
theorem bVj {i:Nat} (h:Q.ext i f w):WP P n (.exit i) Q f w:=λ_ dl a ha=>wpIn_exit ⟨f,ha,h⟩
theorem cAv (h:Q.ret f w):WP P n .ret Q f w:=λ_ dl a ha=>wpIn_ret ⟨f,ha,h⟩
theorem aXt {x y:Code} (h:WP P n x ⟨λf w=>WP P n y Q f w,Q.ext,Q.ret⟩ f w):WP P n (.seq x y) Q f w:=λro dl a ha=>
 wpIn_seq (wpIn_mono (h ro dl a ha) λe a w hq=>by
  cases e with
  |normal=>obtain⟨f,hf,hh⟩:=hq;exact hh ro dl a hf
  |exit i=>exact hq
  |ret=>exact hq
  |goto l=>exact hq
  |panic c=>exact hq
  |outgrown=>exact hq)
theorem aXu {c:Operand} {x y:Code} {b:Bool} (hc:ev f c= .bool b) (ht:b=true->WP P n x Q f w) (he:b=false->WP P n y Q f w):WP P n (.cond c x y) Q f w:=λro dl a ha=>
 wpIn_cond_split (t:=b) (by rw[ha.eval];exact hc) (λh=>ht h ro dl a ha) (λh=>he h ro dl a ha)
theorem bHc {c:Operand} {x y:Code} (hc:ev f c= .bool true) (ht:WP P n x Q f w):WP P n (.cond c x y) Q f w:=aXu hc (λ_=>ht) (λh=>by cases h)
theorem bHd {c:Operand} {x y:Code} (hc:ev f c= .bool false) (he:WP P n y Q f w):WP P n (.cond c x y) Q f w:=aXu hc (λh=>by cases h) (λ_=>he)
theorem aXv {id:Nat} {c:Code} (h:WP P n c ⟨Q.nrm,λj f w=>match Nat.beq j id with|true=>Q.nrm f w|false=>Q.ext j f w,Q.ret⟩ f w):WP P n (.block id c) Q f w:=λro dl a ha=>
 wpIn_block (wpIn_mono (h ro dl a ha) λe a w hq=>by
  cases e with
  |normal=>exact hq
  |exit i=>
   obtain⟨f,hf,hh⟩:=hq
   show if i=id then _ else _
   by_cases hi:i=id
   ·have hb:Nat.beq i id=true:=by simpa using hi
    simp only[hb] at hh
    rw[U3 hi]
    exact⟨f,hf,hh⟩
   have hb:Nat.beq i id=false:=aXs hi
   simp only[hb] at hh
   rw[U2 hi]
   exact⟨f,hf,hh⟩
  |ret=>exact hq
  |goto l=>exact hq
  |panic c=>exact hq
  |outgrown=>exact hq)
theorem aMu {σ:Type} {c:Code} (U8:σ->(Nat->Value)->World->Prop) (μ:σ->Nat) (s0:σ) (h0:U8 s0 f w)
 (hr:∀s f w,U8 s f w->WP P n c ⟨λf' w'=>∃s',U8 s' f' w'/\μ s'<μ s,Q.ext,Q.ret⟩ f w):WP P n (.loop c) Q f w:=by
 intro ro dl a ha b kk cs hro hb hr0
 have key:∀k s f w a,μ s=k->U8 s f w->Fm dl n f a->
  ∃e a' w',up dl n Q e a' w'/\ArrivesIn (Machine.fenced P (fen ro)) P (lone (b.atR a (.code c::.inLoop c::kk)) cs w) b kk cs e a' w':=by
  intro k
  induction k using Nat.strongRecOn with
  |_ k ih=>
   intro s f w a hk hI ha
   obtain⟨e,a1,w1,hq,harr⟩:=hr s f w hI ro dl a ha b (.inLoop c::kk) cs hro hb hr0
   cases e with
   |normal=>
    obtain⟨f1,hf1,s1,hI1,hlt⟩:=hq
    obtain⟨e2,a2,w2,hq2,harr2⟩:=ih (μ s1) (hk▸hlt) s1 f1 w1 a1 U hI1 hf1
    exact⟨e2,a2,w2,hq2,.of_steps (StepsIn.trans harr (.one (fenced_calm hb hr0 U) stepR_inLoop)) harr2⟩
   |exit i=>exact⟨.exit i,a1,w1,hq,.pass (x:=.inLoop c) U (λ_ _=> .inl (by simp)) harr⟩
   |ret=>exact⟨.ret,a1,w1,hq,.pass (x:=.inLoop c) U (λ_ _=> .inl (by simp)) harr⟩
   |goto l=>exact hq.elim
   |panic ch=>exact hq.elim
   |outgrown=>exact hq.elim
 obtain⟨e,a',w',hq,harr⟩:=key _ s0 f w a U h0 ha
 exact⟨e,a',w',hq,.of_steps (.one (fenced_calm hb hr0 U) stepR_loop) harr⟩
end rules
/-! ### an operation of a round is as everywhere -/
def ndO (o:Oper):Bool:=match o.op with
 |.defer _=>false
 |_=>true
def ndA (l:List Oper):Bool:=l.all ndO
theorem aXw {o:Oper} (h:ndO o=true):∀c,o.op≠.defer c:=λc hc=>by
 unfold ndO at h
 rw[hc] at h
 cases h
section round
variable {P:Program} {n:Nat} {Q:Po} {ro:Option Nat} {dl:List Deferred} {ops:Array Oper}
theorem aIx:¬LetsOut (up dl n Q):=λ⟨_,_,h⟩=>h
theorem bVk {o:Oper} {a:Act} {w:World} {K:Act->World->Prop} (hd:ndO o=true) (h:o.wp P a w K (up dl n Q)):o.wpIn (fen ro) 0 P a w K (up dl n Q):=by
 refine⟨aIw,?_⟩
 rw[Oper.semAt_plain (fen ro) a.eval o (aXw hd)]
 unfold Oper.wp at h
 generalize (execOp a.eval o).run P w=r at h
 cases r with
 |ok x w'=>
  cases x with
  |value v=>exact h
  |skip=>exact h
  |defer d=>exact h
  |enter f args=>
   refine⟨λhh=>(by cases hh),?_⟩
   have h2:CallsIn Fence.wide 0 P f args w' _:=callsIn_wide.2 h
   exact CallsIn.mono (F:=fen ro) (n:=0) h2 λe w'' hh=>by cases e<;>exact hh
  |row r args=>
   exact⟨λhh=>(by cases hh),λc cs _=>by
    obtain⟨v,w',r,s⟩:=(show Rows P _ _ _ _ from h) c cs
    exact⟨v,w',r,stepsIn_wide.2 s⟩⟩
  |_=>exact h.elim
 |halt x w'=>cases x<;>first|exact h|exact h.elim
theorem aPw:∀{l:List Oper} {a:Act} {w:World},ndA l=true->wpList P ops (up dl n Q) l a w->wpListIn (fen ro) 0 P ops (up dl n Q) l a w
 |[],a,w,_,h=>h
 |o::l,a,w,hd,h=>by
  simp only[ndA,List.all_cons,aQ] at hd
  unfold wpList at h
  unfold wpListIn
  split
  ·next hw=>
   rw[U3 hw] at h
   rcases h with h|h
   ·exact bVk hd.1 (Oper.wp_mono (λa w hh=>aPw hd.2 hh) h)
   exact U4 h.2 aIx
  next hw=>
  rw[U2 hw] at h
  exact⟨aIw,aPw hd.2 h⟩
theorem aSj (hd:ndA ops.toList=true):∀{fuel:Nat} {listed:Array Bool} {a:Act} {w:World},wpAny P .any ops (up dl n Q) fuel listed a w->wpAnyIn (fen ro) 0 P .any ops (up dl n Q) fuel listed a w
 |0,_,_,_,h=>h
 |fuel+1,listed,a,w,h=>by
  refine⟨h.1,λi hi=>?_⟩
  have h1:=h.2 i hi
  unfold wpOp at h1
  unfold wpOpIn
  split
  ·next hn=>simp only[hn] at h1;exact aSj hd h1
  next o ho=>
  simp only[ho] at h1
  have hdo:ndO o=true:=aX.1 hd o (Array.mem_toList_iff.2 (Array.mem_of_getElem? ho))
  split
  ·next hw=>
   rw[U3 hw] at h1
   rcases h1 with h1|h1
   ·exact bVk hdo (Oper.wp_mono (λa w hh=>aSj hd hh) h1)
   exact U4 h1.2 aIx
  next hw=>
  rw[U2 hw] at h1
  exact⟨aIw,aSj hd h1⟩
end round
end Go.Vg
namespace Go.Vg
open Go.RowKit
section lists
variable {P:Program} {n:Nat} {Q:Po} {f:Nat->Value} {w w':World} {ops:Array Oper} {o:Oper} {rest:List Oper} {d:Nat} {v:Value}
def RL (P:Program) (n:Nat) (ops:Array Oper) (l:List Oper) (Q:Po) (f:Nat->Value) (w:World):Prop:=∀dl a,Fm dl n f a->wpList P ops (up dl n Q) l a w
theorem aSk {id:Nat} {l:List Oper} (h:RL P n l.toArray l Q f w) (hd:ndA l=true:=by rfl):WP P n (.region id l.toArray false) Q f w:=λ_ dl a ha=>wpIn_region_lit (aPw hd (h dl a ha))
theorem RL.nil (h:Q.nrm f w):RL P n ops [] Q f w:=λ_ _ ha=>wpList_nil ⟨f,ha,h⟩
theorem RL.val (hg:o.guard=none) (hd:o.dst=some d) (hn:d<n) (hr:(execOp (ev f) o).run P w= .ok (.value v) w') (h:RL P n ops rest Q (st f d v) w'):RL P n ops (o::rest) Q f w:=λdl a ha=>
 wpList_plain hg λK hK=>by
  unfold Oper.wp
  rw[ha.eval,hr]
  exact hK _ _ (h _ _ (by rw[hd];exact ha.put hn v))
theorem RL.call {k:FuncId} {args:Array Value} {Post:Value->World->Prop} (hg:o.guard=none) (hd:o.dst=some d) (hn:d<n) (hr:(execOp (ev f) o).run P w= .ok (.enter k args) w)
 (hc:Calls P k args w λe w'=>∃v,e= .returned v/\Post v w') (h:∀v w',Post v w'->RL P n ops rest Q (st f d v) w'):RL P n ops (o::rest) Q f w:=λdl a ha=>
 wpList_plain hg λK hK=>by
  unfold Oper.wp
  rw[ha.eval,hr]
  refine hc.mono λe w1 ⟨u,he,hp⟩=>?_
  subst he
  exact hK _ _ (h u w1 hp _ _ (by rw[hd];exact ha.put hn u))
theorem aPx {dl:List Deferred} {a:Act} (ha:Fm dl n f a) {j t:Nat} {b:Bool} (hj:(ops[j]?).bind (·.dst)=some t) (hf:f t= .bool b):yielded ops a.tmps j=some b:=by
 have h:=ha.2.2 t
 rw[hf] at h
 unfold yielded
 rw[hj]
 rcases eE t a.tmps.size with hl|hl
 ·simp only[Option.bind_some]
  simp[Array.getD,hl] at h
  simp[hl,h]
 simp[Array.getD,Nat.not_lt.2 hl,undef] at h
theorem aHp {dl:List Deferred} {a:Act} (ha:Fm dl n f a) {j t:Nat} {b want:Bool} (hg:o.guard=some (j,want)) (hj:(ops[j]?).bind (·.dst)=some t) (hf:f t= .bool b):
 Region.wanted o (yielded ops a.tmps)=(b==want):=by
 unfold Region.wanted
 simp only[hg,aPx ha hj hf]
 cases b<;>cases want<;>rfl
end lists
/-! ### whatever order -/
def MT:Nat:=203
def xH (o:Oper):Bool:=match o.op with
 |.load ..=>true
 |.lookup ..=>true
 |.call {callee:=.builtin .len,argTypes:=⟨[t]⟩,..}=>Nat.beq t MT
 |_=>false
def calm (o:Oper):Bool:=match o.op with
 |.move _|.assign _|.pick ..|.load ..|.lookup ..|.binOp ..|.unOp ..|.convert ..|.field ..|.fieldAddr ..|.indexAddr ..|.index ..|.slice ..|.extract ..|.build ..|.makeFunc ..|.nilCheck _=>true
 |.call {callee:=.builtin .len,..}|.call {callee:=.builtin .cap,..}|.call {callee:=.builtin .min,..}|.call {callee:=.builtin .max,..}=>true
 |_=>false
def aCg (ops:Array Oper) (j:Nat):Bool:=match ops[j]? with
 |some o=>calm o
 |none=>false
def aWf (ops:Array Oper) (j:Nat):Bool:=match ops[j]? with
 |some o=>xH o
 |none=>false
def aIy (ops:Array Oper) (i:Nat):Array Bool:=ops.foldl (λacc o=>acc.push (o.after.any λe=>Region.binds .any e&&(e.on==i||acc.getD e.on false))) #[]
def wV (ops:Array Oper) (i j:Nat):Bool:=(aIy ops i).getD j false
def aSl (ops:Array Oper) (listed:Array Bool) (i:Nat):Bool:=
 let d:=aIy ops i
 (List.range d.size).all λk=>!(d.getD k false)||(!(listed.getD k true)&&match ops[k]? with
  |some o=>o.after.any λe=>Region.binds .any e&&(e.on==i||d.getD e.on false)
  |none=>false)
def aEz (ops:Array Oper) (j:Nat):Bool:=
 (List.range ops.size).all λi=>i==j||!aWf ops i||wV ops i j
def Oks (ops:Array Oper) (S:World->Prop) (j:Nat) (w w':World):Prop:=(aCg ops j=true/\w'=w)\/aEz ops j=true\/S w'
def nM (P:Program) (ops:Array Oper) (Q:Exit->Act->World->Prop) (S:World->Prop):Nat->Array Bool->Act->World->Prop
 |0,listed,a,w=>Region.ready .any ops listed=[]/\Q .normal a w
 |fuel+1,listed,a,w=>
  (Region.ready .any ops listed=[]->Q .normal a w)/\
  ∀i∈Region.ready .any ops listed,wpOp P ops Q i (λa' w'=>Oks ops S i w w'/\nM P ops Q S fuel (listed.setIfInBounds i true) a' w') a w
section any
variable {P:Program} {ops:Array Oper} {Q:Exit->Act->World->Prop} {S:World->Prop}
theorem aFa:∀(fuel:Nat) (listed:Array Bool) (a:Act) (w:World),nM P ops Q S fuel listed a w->wpAny P .any ops Q fuel listed a w
 |0,_,_,_,h=>h
 |fuel+1,_,_,_,h=>⟨h.1,λi hi=>wpOp_mono (λa' w' h'=>aFa fuel _ a' w' h'.2) (h.2 i hi)⟩
theorem aDn {S':World->Prop} (hS:∀w,S' w->S w):∀(fuel:Nat) (listed:Array Bool) (a:Act) (w:World),nM P ops Q S' fuel listed a w->nM P ops Q S fuel listed a w
 |0,_,_,_,h=>h
 |fuel+1,_,_,_,h=>⟨h.1,λi hi=>wpOp_mono (λa' w' h'=>⟨h'.1.imp id (Or.imp id (hS w')),aDn hS fuel _ a' w' h'.2⟩) (h.2 i hi)⟩
theorem aIz {i j:Nat} (hl:aEz ops j=true) (hij:i≠j) (hi:i<ops.size) (hr:aWf ops i=true):wV ops i j=true:=by
 unfold aEz at hl
 simp only[aX,cJ] at hl
 have h:=hl i hi
 simpa only[hr,jX,Bool.or_false,jP,beq_iff_eq,hij,false_or] using h
theorem aFb {i k:Nat} {listed:Array Bool} (h:aSl ops listed i=true) (hk:wV ops i k=true):
 listed.getD k true=false/\∃o,ops[k]? =some o/\∃e∈o.after,Region.binds .any e=true/\(e.on=i\/wV ops i e.on=true):=by
 unfold aSl at h
 simp only[aX,cJ] at h
 have hlt:k<(aIy ops i).size:=by
  unfold wV at hk
  rcases eE k (aIy ops i).size with h'|h'
  ·exact h'
  simp[Array.getD,Nat.not_lt.2 h'] at hk
 have h1:=h k hlt
 unfold wV at hk
 rw[hk] at h1
 simp only[jX,qL,aQ,dP] at h1
 refine⟨h1.1,?_⟩
 have h2:=h1.2
 split at h2
 ·next o ho=>
  obtain⟨e,he,hb⟩:=Array.any_eq_true'.1 h2
  simp only[aQ,jP,beq_iff_eq] at hb
  exact⟨o,ho,e,he,hb.1,hb.2⟩
 cases h2
theorem aJa {i:Nat} {oi:Oper} {v:Value} {S0:World->Prop} (hi:ops[i]? =some oi) (hc:calm oi=true) (hS0:(∀w,S0 w)\/(xH oi=true/\∀w,S w->S0 w))
 (hcl:xH oi=true->∀k,wV ops i k=true->∃o,ops[k]? =some o/\∃e∈o.after,Region.binds .any e=true/\(e.on=i\/wV ops i e.on=true))
 (hsel:∀(j:Nat) (o:Oper) cs b,ops[j]? =some o->o.op≠.select cs b) (hQ:∀c a w,Q (.panic c) (a.put oi.dst v) w->Q (.panic c) a w):
 ∀(fuel:Nat) (listed:Array Bool) (a:Act) (w:World),
  (∀j oj,ops[j]? =some oj->j≠i->listed.getD j true=false->(∀e∈oj.after,Region.binds .any e=true->e.on≠i)->oi.apart ops oj=true)->
  (xH oi=true->∀k,wV ops i k=true->listed.getD k true=false)->
  i∈Region.ready .any ops listed->YieldsIf P ops S0 oi v a->S0 w->
  nM P ops Q S fuel (listed.setIfInBounds i true) (a.put oi.dst v) w->nM P ops Q S (fuel+1) listed a w:=by
 have hci:aCg ops i=true:=by unfold aCg;rw[hi];exact hc
 intro fuel
 induction fuel with
 |zero=>
  intro listed a w _ _ hr hy hS H
  refine⟨λh=>(by rw[h] at hr;cases hr),λj hj=>?_⟩
  by_cases hji:j=i
  ·subst hji;exact hy.wpOp hi hS ⟨.inl ⟨hci,U⟩,H⟩
  have:=ready_mono hj hji
  rw[H.1] at this
  cases this
 |succ fuel ih=>
  intro listed a w hfree hun hr hy hS H
  refine⟨λh=>(by rw[h] at hr;cases hr),λj hj=>?_⟩
  by_cases hji:j=i
  ·subst hji;exact hy.wpOp hi hS ⟨.inl ⟨hci,U⟩,H⟩
  have h1:=H.2 j (ready_mono hj hji)
  obtain⟨hjun,oj,hoj,hall⟩:=mem_ready.1 hj
  have hnot:∀e∈oj.after,Region.binds .any e=true->e.on≠i:=λe he hb heq=>by
   have h1:=hall e he hb
   have h0:=(mem_ready.1 hr).1
   rw[heq] at h1
   rcases eE i listed.size with h'|h'
   ·simp[h'] at h0 h1;rw[h0] at h1;cases h1
   simp[pS h'] at h1
  have hjd:xH oi=true->wV ops i j=false:=λhrd=>by
   rcases Bool.eq_false_or_eq_true (wV ops i j) with hd|hd
   ·obtain⟨o,ho,e,he,hb,hcase⟩:=hcl hrd j hd
    rw[hoj] at ho
    injection ho with ho
    subst ho
    rcases hcase with hc|hc
    ·exact U4 hc (hnot e he hb)
    have h1:=hall e he hb
    have h0:=hun hrd e.on hc
    rcases eE e.on listed.size with h'|h'
    ·simp[h'] at h0 h1;rw[h0] at h1;cases h1
    simp[pS h'] at h1
   exact hd
  have hun':xH oi=true->∀k,wV ops i k=true->(listed.setIfInBounds j true).getD k true=false:=λhrd k hk=>by
   have hjk:j≠k:=λh=>by subst h;rw[hjd hrd] at hk;cases hk
   rw[getD_set_ne true hjk]
   exact hun hrd k hk
  have h2:=wpOp_putIf hoj (hfree j oj hoj hji hjun hnot) (λcs b=>hsel i oi cs b hi) (λcs b=>hsel j oj cs b hoj) hQ hy h1
  have hfree':∀k ok,ops[k]? =some ok->k≠i->(listed.setIfInBounds j true).getD k true=false->
   (∀e∈ok.after,Region.binds .any e=true->e.on≠i)->oi.apart ops ok=true:=λk ok hk hki hun hno=>by
   refine hfree k ok hk hki ?_ hno
   by_cases hjk:j=k
   ·subst hjk;exact hjun
   rw[getD_set_ne true hjk] at hun;exact hun
  refine wpOp_mono (λa' w' h3=>?_) h2
  have hS':S0 w':=by
   rcases hS0 with hS0|⟨hrd,hS0⟩
   ·exact hS0 w'
   rcases h3.2.1 with ⟨_,he⟩|hl|hs
   ·rw[he];exact hS
   ·have hlt:i<ops.size:=(kG.1 hi).1
    have hd:=aIz hl (gU hji) hlt (by unfold aWf;rw[hi];exact hrd)
    rw[hjd hrd] at hd
    cases hd
   exact hS0 w' hs
  refine⟨h3.2.1,ih (listed.setIfInBounds j true) a' w' hfree' hun' (ready_mono hr (gU hji)) h3.1 hS' ?_⟩
  rw[Array.setIfInBounds_comm _ _ hji]
  exact h3.2.2
end any
def xL (ops:Array Oper) (listed:Array Bool) (i:Nat):Bool:=
 Region.noSelect ops&&Region.free .any ops listed i&&(Region.ready .any ops listed).contains i&&aCg ops i&&(!aWf ops i||aSl ops listed i)
def RA (P:Program) (n:Nat) (ops:Array Oper) (Q:Po) (S:World->Prop) (fuel:Nat) (listed:Array Bool) (f:Nat->Value) (w:World):Prop:=
 ∀dl a,Fm dl n f a->nM P ops (up dl n Q) S fuel listed a w
section ra
variable {P:Program} {n:Nat} {Q:Po} {f:Nat->Value} {w w':World} {ops:Array Oper} {o:Oper} {S:World->Prop} {fuel:Nat} {listed:Array Bool} {d:Nat} {v:Value}
theorem aPy {id:Nat} (S:World->Prop) (hm:P.follows .mixedOrders=true) (h:RA P n ops Q S ops.size (Array.replicate ops.size false) f w.drew) (hd:ndA ops.toList=true:=by rfl):WP P n (.region id ops true) Q f w:=λ_ dl a ha=>
 wpIn_region_any hm (aSj hd (aFa _ _ _ _ (h dl a ha)))
theorem bMo {id:Nat} (hm:P.follows .mixedOrders=true) (h:∀w1,Below w.heap.size w w1->RA P n ops Q (λu=>Below w1.heap.size w1 u) ops.size (Array.replicate ops.size false) f w1) (hd:ndA ops.toList=true:=by rfl):WP P n (.region id ops true) Q f w:=
 aPy _ hm (h w.drew (Below.drew (Below.refl _ _))) hd
theorem RA.more {S':World->Prop} (hS:∀w,S' w->S w) (h:RA P n ops Q S' fuel listed f w):RA P n ops Q S fuel listed f w:=λdl a ha=>aDn hS _ _ _ _ (h dl a ha)
theorem RA.take0 {S0:World->Prop} (i:Nat) (hi:ops[i]? =some o) (hok:xL ops listed i=true) (hS0:(∀w,S0 w)\/(xH o=true/\∀w,S w->S0 w)) (hS:S0 w) (hd:o.dst=some d) (hn:d<n)
 (hy:∀dl a,Fm dl n f a->YieldsIf P ops S0 o v a) (h:RA P n ops Q S fuel (listed.setIfInBounds i true) (st f d v) w):RA P n ops Q S (fuel+1) listed f w:=λdl a ha=>by
 unfold xL at hok
 simp only[aQ] at hok
 obtain⟨⟨⟨⟨h1,h2⟩,h3⟩,h4⟩,h5⟩:=hok
 have h6:xH o=true->aSl ops listed i=true:=λhrd=>by
  have:aWf ops i=true:=by unfold aWf;rw[hi];exact hrd
  rw[this] at h5
  simpa using h5
 refine aJa (i:=i) (v:=v) (S0:=S0) hi (by unfold aCg at h4;rw[hi] at h4;exact h4) hS0 (λhrd k hk=>(aFb (h6 hrd) hk).2) (Region.noSelect_spec h1) (λ_ _ _ h=>h) fuel listed a w (Region.free_spec hi h2) (λhrd k hk=>(aFb (h6 hrd) hk).1) (by simpa using h3) (hy dl a ha) hS ?_
 exact h _ _ (by rw[hd];exact ha.put hn v)
theorem RA.take (i:Nat) (hi:ops[i]? =some o) (hok:xL ops listed i=true) (hg:o.guard=none) (hd:o.dst=some d) (hn:d<n)
 (hr:∀w,(execOp (ev f) o).run P w= .ok (.value v) w) (h:RA P n ops Q S fuel (listed.setIfInBounds i true) (st f d v) w):RA P n ops Q S (fuel+1) listed f w:=
 RA.take0 (S0:=λ_=>True) i hi hok (.inl λ_=>trivial) trivial hd hn (λdl a ha=> .inl ⟨by simp[Region.wanted,hg],λw _=>by rw[ha.eval];exact hr w⟩) h
theorem aMv {dl:List Deferred} {a:Act} (ha:Fm dl n f a) {j t:Nat} {want:Bool} (hg:o.guard=some (j,want)) (hj:(ops[j]?).bind (·.dst)=some t) (hf:f t= .bool (!want)\/f t=undef):Region.wanted o (yielded ops a.tmps)=false:=by
 rcases hf with hf|hf
 ·rw[aHp ha hg hj hf];cases want<;>rfl
 have hy:yielded ops a.tmps j=none:=by
  have h:=ha.2.2 t
  rw[hf] at h
  unfold yielded
  rw[hj]
  simp only[Option.bind_some]
  rcases eE t a.tmps.size with hl|hl
  ·simp[Array.getD,hl] at h
   simp[hl,h,undef]
  simp[pS hl]
 unfold Region.wanted
 simp only[hg,hy]
 rfl
theorem RA.done (hr:Region.ready .any ops listed=[]) (h:Q.nrm f w):RA P n ops Q S fuel listed f w:=λdl a ha=>by
 cases fuel with
 |zero=>exact⟨hr,f,ha,h⟩
 |succ k=>exact⟨λ_=>⟨f,ha,h⟩,by rw[hr];simp⟩
def RS (P:Program) (n:Nat) (ops:Array Oper) (Q:Po) (S:World->Prop) (fuel:Nat) (listed:Array Bool) (f:Nat->Value) (w:World) (rs:List Nat):Prop:=
 ∀i∈rs,∀dl a,Fm dl n f a->wpOp P ops (up dl n Q) i (λa' w'=>Oks ops S i w w'/\nM P ops (up dl n Q) S fuel (listed.setIfInBounds i true) a' w') a w
theorem RA.all (rs:List Nat) (hr:Region.ready .any ops listed=rs) (hne:rs.isEmpty=false) (h:RS P n ops Q S fuel listed f w rs):RA P n ops Q S (fuel+1) listed f w:=λdl a ha=>
 ⟨λh0=>by rw[hr] at h0;subst h0;simp at hne,λi hi=>h i (by rw[<-hr];exact hi) dl a ha⟩
variable {i:Nat} {rs:List Nat}
theorem RS.nil:RS P n ops Q S fuel listed f w []:=λ_ h=>by cases h
theorem RS.val (hi:ops[i]? =some o) (hg:o.guard=none) (hd:o.dst=some d) (hn:d<n) (hr:(execOp (ev f) o).run P w= .ok (.value v) w') (hS:Oks ops S i w w')
 (h:RA P n ops Q S fuel (listed.setIfInBounds i true) (st f d v) w') (hs:RS P n ops Q S fuel listed f w rs):RS P n ops Q S fuel listed f w (i::rs):=λj hj=>by
 rcases bW.1 hj with rfl|hj
 ·intro dl a ha
  unfold wpOp
  simp only[hi,Region.wanted,hg,if_true]
  refine .inl ?_
  unfold Oper.wp
  rw[ha.eval,hr]
  exact⟨hS,h _ _ (by rw[hd];exact ha.put hn v)⟩
 exact hs j hj
theorem RS.call {k:FuncId} {args:Array Value} {Post:Value->World->Prop} (hi:ops[i]? =some o) (hg:o.guard=none) (hd:o.dst=some d) (hn:d<n) (hr:(execOp (ev f) o).run P w= .ok (.enter k args) w)
 (hc:Calls P k args w λe w'=>∃v,e= .returned v/\Post v w') (h:∀v w',Post v w'->Oks ops S i w w'/\RA P n ops Q S fuel (listed.setIfInBounds i true) (st f d v) w')
 (hs:RS P n ops Q S fuel listed f w rs):RS P n ops Q S fuel listed f w (i::rs):=λj hj=>by
 rcases bW.1 hj with rfl|hj
 ·intro dl a ha
  unfold wpOp
  simp only[hi,Region.wanted,hg,if_true]
  refine .inl ?_
  unfold Oper.wp
  rw[ha.eval,hr]
  refine hc.mono λe w1 ⟨u,he,hp⟩=>?_
  subst he
  obtain⟨h1,h2⟩:=h u w1 hp
  exact⟨h1,h2 _ _ (by rw[hd];exact ha.put hn u)⟩
 exact hs j hj
end ra
section
variable {P:Program} {f:Nat->Value} {w:World} {dst:Option Tmp} {ty:TypeId} {pos:String} {aft:Array Edge} {g:Option (Nat×Bool)} {x y z:Operand} {t t':TypeId} {k:IntKind} {a b c:Int}
theorem aMw {v:Value} (hc:ev f x= .bool true) (h:ev f y=v):(execOp (ev f) ⟨dst,.pick x y z,ty,pos,aft,g⟩).run P w= .ok (.value v) w:=by
 simp[execOp,hc,h,asBool]
theorem aMx {v:Value} (hc:ev f x= .bool false) (h:ev f z=v):(execOp (ev f) ⟨dst,.pick x y z,ty,pos,aft,g⟩).run P w= .ok (.value v) w:=by
 simp[execOp,hc,h,asBool]
theorem bVl (hx:ev f x= .int k a) (hy:ev f y= .int k b) (hw:k.wrap (a+b)=c):(execOp (ev f) ⟨dst,.binOp .add t x y t',ty,pos,aft,g⟩).run P w= .ok (.value (.int k c)) w:=by
 simp[execOp,hx,hy,eqGuard,binOp,Op.intArith,hw]
theorem bVm (hx:ev f x= .int k a) (hy:ev f y= .int k b) (hw:k.wrap (a-b)=c):(execOp (ev f) ⟨dst,.binOp .sub t x y t',ty,pos,aft,g⟩).run P w= .ok (.value (.int k c)) w:=by
 simp[execOp,hx,hy,eqGuard,binOp,Op.intArith,hw]
theorem bVn (hx:ev f x= .int k a) (hy:ev f y= .int k b) (hw:k.wrap (a*b)=c):(execOp (ev f) ⟨dst,.binOp .mul t x y t',ty,pos,aft,g⟩).run P w= .ok (.value (.int k c)) w:=by
 simp[execOp,hx,hy,eqGuard,binOp,Op.intArith,hw]
theorem bVo (hx:ev f x= .int k a) (hy:ev f y= .int k b) (hb:b≠0) (hw:k.wrap (a.tdiv b)=c):(execOp (ev f) ⟨dst,.binOp .quo t x y t',ty,pos,aft,g⟩).run P w= .ok (.value (.int k c)) w:=by
 simp[execOp,hx,hy,eqGuard,binOp,Op.intDiv,hb,hw]
theorem bVp (hx:ev f x= .int k a) (hy:ev f y= .int k b) (hb:b≠0) (hw:a.tmod b=c):(execOp (ev f) ⟨dst,.binOp .rem t x y t',ty,pos,aft,g⟩).run P w= .ok (.value (.int k c)) w:=by
 simp[execOp,hx,hy,eqGuard,binOp,Op.intDiv,hb,hw]
theorem bVq {kk:IntKind} (hx:ev f x= .int k a) (hy:ev f y= .int kk b) (hb:0<=b) (hw:k.wrap (a*2^(min b.toNat k.bits))=c):(execOp (ev f) ⟨dst,.binOp .shl t x y t',ty,pos,aft,g⟩).run P w= .ok (.value (.int k c)) w:=by
 simp[execOp,hx,hy,eqGuard,binOp,Op.shift,qJ.2 hb,hw]
theorem bVr {kk:IntKind} (hx:ev f x= .int k a) (hy:ev f y= .int kk b) (hb:0<=b) (hw:a.fdiv (2^(min b.toNat k.bits))=c):(execOp (ev f) ⟨dst,.binOp .shr t x y t',ty,pos,aft,g⟩).run P w= .ok (.value (.int k c)) w:=by
 simp[execOp,hx,hy,eqGuard,binOp,Op.shift,qJ.2 hb,hw]
theorem cAw (hx:ev f x= .int k a) (hy:ev f y= .int k b) (hw:k.wrap ((BitVec.ofInt k.bits a|||BitVec.ofInt k.bits b).toNat:Int)=c):(execOp (ev f) ⟨dst,.binOp .or t x y t',ty,pos,aft,g⟩).run P w= .ok (.value (.int k c)) w:=by
 simp only[execOp,hx,hy,eqGuard,binOp]
 simp[Op.intBits]
 simpa using hw
theorem bVs (hx:ev f x= .int k a) (hy:ev f y= .int k b) (hw:k.wrap ((BitVec.ofInt k.bits a&&&BitVec.ofInt k.bits b).toNat:Int)=c):(execOp (ev f) ⟨dst,.binOp .and t x y t',ty,pos,aft,g⟩).run P w= .ok (.value (.int k c)) w:=by
 simp only[execOp,hx,hy,eqGuard,binOp]
 simp[Op.intBits]
 simpa using hw
theorem bVt (hx:ev f x= .int k a) (hy:ev f y= .int k b):(execOp (ev f) ⟨dst,.binOp .lss t x y t',ty,pos,aft,g⟩).run P w= .ok (.value (.bool (decide (a<b)))) w:=by
 simp[execOp,hx,hy,eqGuard,binOp,Op.intCmp]
theorem bVu (hx:ev f x= .int k a) (hy:ev f y= .int k b):(execOp (ev f) ⟨dst,.binOp .leq t x y t',ty,pos,aft,g⟩).run P w= .ok (.value (.bool (decide (a<=b)))) w:=by
 simp[execOp,hx,hy,eqGuard,binOp,Op.intCmp]
theorem bVv (hx:ev f x= .int k a) (hy:ev f y= .int k b):(execOp (ev f) ⟨dst,.binOp .gtr t x y t',ty,pos,aft,g⟩).run P w= .ok (.value (.bool (decide (b<a)))) w:=by
 simp[execOp,hx,hy,eqGuard,binOp,Op.intCmp]
theorem bVw (hx:ev f x= .int k a) (hy:ev f y= .int k b):(execOp (ev f) ⟨dst,.binOp .geq t x y t',ty,pos,aft,g⟩).run P w= .ok (.value (.bool (decide (b<=a)))) w:=by
 simp[execOp,hx,hy,eqGuard,binOp,Op.intCmp]
theorem bVx (hx:ev f x= .int k a) (hy:ev f y= .int k b):(execOp (ev f) ⟨dst,.binOp .eql t x y t',ty,pos,aft,g⟩).run P w= .ok (.value (.bool (decide (a=b)))) w:=by
 simp[execOp,hx,hy,eqGuard,binOp,Op.intCmp]
 rfl
theorem bVy (hx:ev f x= .int k a) (hy:ev f y= .int k b):(execOp (ev f) ⟨dst,.binOp .neq t x y t',ty,pos,aft,g⟩).run P w= .ok (.value (.bool (decide (a≠b)))) w:=by
 simp[execOp,hx,hy,eqGuard,binOp,Op.intCmp]
 rfl
theorem uS (d:Nat) {p q:Bool} (ht:P.underlying t=some .bool):(Op.equalIn (d+1) t (.bool p) (.bool q)).run P w= .ok (p==q) w:=by
 simp[Op.equalIn,run_underlying ht]
theorem bPj {p q:Bool} (ht:P.underlying t=some .bool) (hx:ev f x= .bool p) (hy:ev f y= .bool q):(execOp (ev f) ⟨dst,.binOp .eql t x y t',ty,pos,aft,g⟩).run P w= .ok (.value (.bool (p==q))) w:=by
 have h:=uS (P:=P) (w:=w) (t:=t) 9999 (p:=p) (q:=q) ht
 simp only[execOp,hx,hy,eqGuard,binOp]
 simp[Op.equal,Op.maxDepth,h]
theorem bPk {p q:Bool} (ht:P.underlying t=some .bool) (hx:ev f x= .bool p) (hy:ev f y= .bool q):(execOp (ev f) ⟨dst,.binOp .neq t x y t',ty,pos,aft,g⟩).run P w= .ok (.value (.bool (p !=q))) w:=by
 have h:=uS (P:=P) (w:=w) (t:=t) 9999 (p:=p) (q:=q) ht
 simp only[execOp,hx,hy,eqGuard,binOp]
 simp[Op.equal,Op.maxDepth,h]
 cases p<;>cases q<;>rfl
theorem bMp {p:Bool} (hx:ev f x= .bool p):(execOp (ev f) ⟨dst,.unOp .not t x,ty,pos,aft,g⟩).run P w= .ok (.value (.bool (!p))) w:=by
 simp[execOp,hx,Op.unary]
theorem bVz (hx:ev f x= .int k a) (hw:k.wrap (0-a)=c):(execOp (ev f) ⟨dst,.unOp .neg t x,ty,pos,aft,g⟩).run P w= .ok (.value (.int k c)) w:=by
 simp only[execOp,hx,Op.unary,Op.intArith,hw]
 rfl
theorem bPl {k':IntKind} {d:TypeDesc} (h1:P.underlying t=some d) (h2:P.underlying t'=some (.int k)) (hx:ev f x= .int k' a) (hw:k.wrap a=c):(execOp (ev f) ⟨dst,.convert t t' x,ty,pos,aft,g⟩).run P w= .ok (.value (.int k c)) w:=by
 simp only[execOp,hx,convert,Sem.run_bind,run_underlying h1,run_underlying h2,Result.andThen_ok]
 cases d<;>simp[Conv.intToInt,hw]
theorem aWg {vs:Array Value} {i:Nat} {v:Value} (hx:ev f x= .tuple vs) (hv:vs[i]? =some v):(execOp (ev f) ⟨dst,.extract x i,ty,pos,aft,g⟩).run P w= .ok (.value v) w:=by
 simp[execOp,hx,Instr.extract,hv]
theorem aSm {e:TypeId} {A:Option Addr} {n c:Nat} (ht:P.underlying t=some (.slice e)) (hx:ev f x= .slice A n c):
 (execOp (ev f) ⟨dst,.call ⟨.builtin .len,#[x],#[t]⟩,ty,pos,aft,g⟩).run P w= .ok (.value (.int .i64 n)) w:=by
 simp[execOp,resolve,invoke,builtin,Builtin.len_,run_underlying ht,hx,goInt]
theorem bPm (hx:ev f x= .int k a) (hy:ev f y= .int k b):(execOp (ev f) ⟨dst,.call ⟨.builtin .max,#[x,y],#[t,t']⟩,ty,pos,aft,g⟩).run P w= .ok (.value (.int k (if b>a then b else a))) w:=by
 simp[execOp,resolve,invoke,builtin,Builtin.max_,hx,hy,Builtin.max2]
theorem bPn (hx:ev f x= .int k a) (hy:ev f y= .int k b):(execOp (ev f) ⟨dst,.call ⟨.builtin .min,#[x,y],#[t,t']⟩,ty,pos,aft,g⟩).run P w= .ok (.value (.int k (if b<a then b else a))) w:=by
 simp[execOp,resolve,invoke,builtin,Builtin.min_,hx,hy,Builtin.min2]
def Ent (P:Program) (k:FuncId):Prop:=∀args w,(callFunc k args).run P w= .ok (.enter k args) w
end
/-! ### a number that fits is itself -/
theorem bWa {z:Int} (h:-9223372036854775808<=z/\z<=9223372036854775807):IntKind.i64.wrap z=z:=by
 rw[IntKind.wrap_i64];omega
theorem aFc {z:Int} (h:0<=z/\z<=18446744073709551615):IntKind.u64.wrap z=z:=by
 rw[IntKind.wrap_u64];omega
theorem bPo {z:Int} (h:0<=z/\z<=4294967295):IntKind.u32.wrap z=z:=by
 rw[IntKind.wrap_u32];omega
/-! ### worlds -/
abbrev Ext (w w':World):Prop:=Below w.heap.size w w'
theorem Ext.trans {a b c:World} (h:Ext a b) (k:Ext b c):Ext a c:=Below.trans h (Below.mono k h.size)
theorem Ext.refl (w:World):Ext w w:=Below.refl _ _
theorem Ext.drew (w:World):Ext w w.drew:=(Below.refl _ _).drew
theorem Below.ext {B:Nat} {w0 w w':World} (h:Below B w0 w) (hB:B<=w.heap.size) (k:Ext w w'):Below B w0 w':=h.trans (k.mono hB)
structure Exc (b:Nat) (w w':World):Prop where
 os:w'.os=w.os
 tape:w'.tape=w.tape
 output:w'.output=w.output
 size:w.heap.size<=w'.heap.size
 block:∀k,k<w.heap.size->k≠b->w'.heap[k]? =w.heap[k]?
theorem Exc.trans {b:Nat} {a c d:World} (h:Exc b a c) (k:Exc b c d):Exc b a d:=
 ⟨k.os.trans h.os,k.tape.trans h.tape,k.output.trans h.output,aJ h.size k.size,λi hi hb=>(k.block i (bM hi h.size) hb).trans (h.block i hi hb)⟩
def Sm (U7:Nat->TypeId->Prop) (w w':World):Prop:=∀b cs T fz,w.heap[b]? =some (.cells cs T fz)->U7 b T->w'.heap[b]? =some (.cells cs T fz)
theorem iQ {w:World} {b:Nat} {o:Obj} (h:w.heap[b]? =some o):b<w.heap.size:=(kG.1 h).1
theorem Sm.trans {U7:Nat->TypeId->Prop} {a b c:World} (h:Sm U7 a b) (k:Sm U7 b c):Sm U7 a c:=λ_ _ _ _ hh hd=>k _ _ _ _ (h _ _ _ _ hh hd) hd
theorem Sm.ext {U7:Nat->TypeId->Prop} {w w':World} (h:Ext w w'):Sm U7 w w':=λb _ _ _ hh _=>(h.block b (iQ hh)).trans hh
def Bk (w:World) (b:Nat) (T:TypeId) (l:List Value):Prop:=w.heap[b]? =some (.cells l.toArray T (0,0))
theorem Bk.lt {w:World} {b:Nat} {T:TypeId} {l:List Value} (h:Bk w b T l):b<w.heap.size:=iQ h
theorem Bk.ext {w w':World} {b:Nat} {T:TypeId} {l:List Value} (h:Bk w b T l) (e:Ext w w'):Bk w' b T l:=(e.block b h.lt).trans h
theorem Bk.cell {w:World} {b:Nat} {T:TypeId} {l:List Value} (h:Bk w b T l) {j:Nat} {u:Value} (hj:l[j]? =some u):w.cell? ⟨b,j,none⟩=some u:=by
 simp only[World.cell?]
 rw[show w.heap[b]? =_ from h]
 simpa using hj
def Rd (U7:Nat->TypeId->Prop) (w:World) (b o:Nat) (l:List Value):Prop:=l=[]\/∃cs T fz,w.heap[b]? =some (.cells cs T fz)/\U7 b T/\∀j u,l[j]? =some u->cs[o+j]? =some u
section rd
variable {U7 D':Nat->TypeId->Prop} {w w':World} {b o:Nat} {l:List Value}
theorem Rd.mono (h:Rd U7 w b o l) (hD:∀b T,U7 b T->D' b T):Rd D' w b o l:=by
 rcases h with h|⟨cs,T,fz,hh,hd,hc⟩
 ·exact .inl h
 exact .inr ⟨cs,T,fz,hh,hD _ _ hd,hc⟩
theorem Rd.cell (h:Rd U7 w b o l) {j:Nat} {u:Value} (hj:l[j]? =some u):w.cell? ⟨b,o+j,none⟩=some u:=by
 rcases h with rfl|⟨cs,T,fz,hh,hd,hc⟩
 ·simp at hj
 simp only[World.cell?,hh]
 simpa using hc j u hj
theorem Rd.drop (h:Rd U7 w b o l) (k:Nat):Rd U7 w b (o+k) (l.drop k):=by
 rcases h with rfl|⟨cs,T,fz,hh,hd,hc⟩
 ·exact .inl (by simp)
 refine .inr ⟨cs,T,fz,hh,hd,λj u hj=>?_⟩
 rw[jF]
 exact hc (k+j) u (by rw[<-hj,dN])
theorem Rd.take (h:Rd U7 w b o l) (k:Nat):Rd U7 w b o (l.take k):=by
 rcases h with rfl|⟨cs,T,fz,hh,hd,hc⟩
 ·exact .inl (by simp)
 refine .inr ⟨cs,T,fz,hh,hd,λj u hj=>?_⟩
 rw[fK] at hj
 split at hj
 ·exact hc j u hj
 cases hj
end rd
def Sc (U7:Nat->TypeId->Prop) (w:World) (size:Nat) (v:Value) (n:Nat) (l:List Value):Prop:=
 ∃A c,v= .slice A n c/\n<=c/\c<=maxLen/\l.length=n*size/\(l=[]\/∃b o,A=some ⟨b,o,none⟩/\Rd U7 w b o l)
section sc
variable {U7 D':Nat->TypeId->Prop} {w w':World} {size n:Nat} {v:Value} {l:List Value}
theorem Sc.mono (h:Sc U7 w size v n l) (hD:∀b T,U7 b T->D' b T):Sc D' w size v n l:=by
 obtain⟨A,c,rfl,h1,h2,h3,h4⟩:=h
 exact⟨A,c,U,h1,h2,h3,h4.imp id λ⟨b,o,e,r⟩=>⟨b,o,e,r.mono hD⟩⟩
theorem Sc.nil:Sc U7 w size (.slice none 0 0) 0 []:=⟨none,0,U,aH _,by simp[maxLen],by simp,.inl rfl⟩
end sc
/-! ### types -/
structure TyI (P:Program) (e:TypeId) (size bytes:Nat) (z:Value):Prop where
 mk'::
 ex:∃i,P.info? e=some i/\i.zero=some z/\i.size=size/\i.bytes=bytes
theorem TyI.of {P:Program} {e:TypeId} {size bytes:Nat} {z:Value} (h:(P.info? e).map (λi=>(i.zero,i.size,i.bytes))=some (some z,size,bytes)):TyI P e size bytes z:=by
 obtain⟨i,h1,h2,h3,h4⟩:=info_parts h
 exact⟨i,h1,h2,h3,h4⟩
def aDv (P:Program) (t:TypeId):Bool:=match P.underlying t with
 |some (.struct _)|some (.array _ _)=>true
 |_=>false
theorem sE {P:Program} {t:TypeId} {d:TypeDesc} (hu:P.underlying t=some d) (w:World):(isAgg t).run P w= .ok (aDv P t) w:=by
 unfold isAgg aDv
 simp only[Sem.run_bind,run_underlying hu,Result.andThen_ok,hu]
 cases d<;>rfl
section ops
variable {P:Program} {f:Nat->Value} {w:World} {dst:Option Tmp} {ty:TypeId} {pos:String} {aft:Array Edge} {g:Option (Nat×Bool)} {x y z:Operand} {t t' e:TypeId}
theorem gD (b o n:Nat):(⟨b,o,none⟩:Addr).add n=⟨b,o+n,none⟩:=by
 unfold Addr.add
 split
 ·simp_all
 rfl
theorem aPz {d:TypeDesc} {p:Addr} {v:Value} (hu:P.underlying t=some d) (hb:aDv P t=false) (hx:ev f x= .pointer (some p)) (hc:w.cell? p=some v):
 (execOp (ev f) ⟨dst,.load t x,ty,pos,aft,g⟩).run P w= .ok (.value v) w:=by
 simp[execOp,hx,Instr.loadAt,Instr.sureAddr,loadVar,sE hu,hb,load,Sem.run,hc]
theorem aSn {d:TypeDesc} {b o:Nat} {cs:List Value} {bytes:Nat} {zz:Value} (hu:P.underlying t=some d) (hb:aDv P t=true) (ht:TyI P t cs.length bytes zz) (hx:ev f x= .pointer (some ⟨b,o,none⟩)) (hc:∀j u,cs[j]? =some u->w.cell? ⟨b,o+j,none⟩=some u):
 (execOp (ev f) ⟨dst,.load t x,ty,pos,aft,g⟩).run P w= .ok (.value (.agg cs.toArray)) w:=by
 obtain⟨i,hi,_,hs,_⟩:=ht.ex
 have h:=run_loadCells_list (P:=P) w (⟨b,o,none⟩:Addr) cs (λj u hj=>by rw[gD];exact hc j u hj)
 simp[execOp,hx,Instr.loadAt,Instr.sureAddr,loadVar,sE hu,hb,sizeOf,typeInfo,hi,hs,h]
theorem bHe {d:TypeDesc} {fs:Array Field} {fl:Field} {i:Nat} {cs:Array Value} {v:Value} (hu:P.underlying t=some (.struct fs)) (hf:fs[i]? =some fl) (hd:P.underlying fl.type=some d) (hb:aDv P fl.type=false)
 (hx:ev f x= .agg cs) (hc:cs[fl.offset]? =some v):(execOp (ev f) ⟨dst,.field t x i,ty,pos,aft,g⟩).run P w= .ok (.value v) w:=by
 simp[execOp,hx,Instr.field,run_underlying hu,hf,asAgg,part,sE hd,hb,hc]
theorem aXx {d:TypeDesc} {fs:Array Field} {fl:Field} {i size bytes:Nat} {zz:Value} {cs:Array Value} (hu:P.underlying t=some (.struct fs)) (hf:fs[i]? =some fl) (hd:P.underlying fl.type=some d) (hb:aDv P fl.type=true) (ht:TyI P fl.type size bytes zz)
 (hx:ev f x= .agg cs):(execOp (ev f) ⟨dst,.field t x i,ty,pos,aft,g⟩).run P w= .ok (.value (.agg (cs.extract fl.offset (fl.offset+size)))) w:=by
 obtain⟨ii,hi,_,hs,_⟩:=ht.ex
 simp[execOp,hx,Instr.field,run_underlying hu,hf,asAgg,part,sE hd,hb,sizeOf,typeInfo,hi,hs]
theorem xM {fs:Array Field} {fl:Field} {i size bytes:Nat} {zz:Value} {b o:Nat} (hu:P.underlying t=some (.struct fs)) (hf:fs[i]? =some fl) (ht:TyI P fl.type (size+1) bytes zz) (hx:ev f x= .pointer (some ⟨b,o,none⟩)):
 (execOp (ev f) ⟨dst,.fieldAddr t x i,ty,pos,aft,g⟩).run P w= .ok (.value (.pointer (some ⟨b,o+fl.offset,none⟩))) w:=by
 obtain⟨ii,hi,_,hs,_⟩:=ht.ex
 simp[execOp,hx,Instr.fieldAt,Instr.sureAddr,run_underlying hu,hf,fieldPlace,sizeOf,typeInfo,hi,hs,gD]
theorem tN {k:IntKind} {i:Int} {b o n c size bytes:Nat} {zz:Value} (hu:P.underlying t=some (.slice e)) (ht:TyI P e size bytes zz) (hx:ev f x= .slice (some ⟨b,o,none⟩) n c) (hy:ev f y= .int k i) (h0:0<=i) (h1:i<n):
 (execOp (ev f) ⟨dst,.indexAddr t x y,ty,pos,aft,g⟩).run P w= .ok (.value (.pointer (some ⟨b,o+i.toNat*size,none⟩))) w:=by
 obtain⟨ii,hi,_,hs,_⟩:=ht.ex
 simp[execOp,hx,hy,Instr.indexAt,asIntOf,run_underlying hu,sizeOf,typeInfo,hi,hs,h0,h1,gD]
theorem aHq {k:IntKind} {A:Option Addr} {n c size bytes:Nat} {h:Int} {zz:Value} (hu:P.underlying t=some (.slice e)) (ht:TyI P e size bytes zz) (hx:ev f x= .slice A n c) (hy:ev f y= .int k h) (h0:0<=h) (h1:h<=c):
 (execOp (ev f) ⟨dst,.slice t x none (some y) none,ty,pos,aft,g⟩).run P w= .ok (.value (.slice A h.toNat c)) w:=by
 obtain⟨ii,hi,_,hs,_⟩:=ht.ex
 have hz:∀o:Option Addr,(o.map λa=>a.add 0)=o:=λo=>by cases o<;>simp[Addr.add]
 simp[execOp,hx,hy,Instr.sliceAt,Instr.slice,Instr.sliceBounds,Instr.sliceBound,asIntOf,run_underlying hu,sizeOf,typeInfo,hi,hs,h0,h1,hz]
theorem aHr {k:IntKind} {A:Option Addr} {n c size bytes:Nat} {l:Int} {zz:Value} (hu:P.underlying t=some (.slice e)) (ht:TyI P e size bytes zz) (hx:ev f x= .slice A n c) (hy:ev f y= .int k l) (h0:0<=l) (h1:l<=n):
 (execOp (ev f) ⟨dst,.slice t x (some y) none none,ty,pos,aft,g⟩).run P w= .ok (.value (.slice (if c=l.toNat then A else A.map (·.add (l.toNat*size))) (n-l.toNat) (c-l.toNat))) w:=by
 obtain⟨ii,hi,_,hs,_⟩:=ht.ex
 simp[execOp,hx,hy,Instr.sliceAt,Instr.slice,Instr.sliceBounds,Instr.sliceBound,asIntOf,run_underlying hu,sizeOf,typeInfo,hi,hs,h0,h1]
theorem aQa {k k':IntKind} {A:Option Addr} {n c size bytes:Nat} {l h:Int} {zz:Value} (hu:P.underlying t=some (.slice e)) (ht:TyI P e size bytes zz) (hx:ev f x= .slice A n c) (hy:ev f y= .int k l) (hz:ev f z= .int k' h) (h0:0<=l) (h1:l<=h) (h2:h<=c):
 (execOp (ev f) ⟨dst,.slice t x (some y) (some z) none,ty,pos,aft,g⟩).run P w= .ok (.value (.slice (if c=l.toNat then A else A.map (·.add (l.toNat*size))) (h.toNat-l.toNat) (c-l.toNat))) w:=by
 obtain⟨ii,hi,_,hs,_⟩:=ht.ex
 have h3:0<=h:=Uc
 have h4:l<=(h.toNat:Int):=Uc
 simp[execOp,hx,hy,hz,Instr.sliceAt,Instr.slice,Instr.sliceBounds,Instr.sliceBound,asIntOf,run_underlying hu,sizeOf,typeInfo,hi,hs,h0,h1,h2,h3]
 intro hh
 omega
end ops
/-! ### operations that make or write memory -/
def Run (P:Program) (f:Nat->Value) (o:Oper) (w:World) (R:Value->World->Prop):Prop:=∃v w',(execOp (ev f) o).run P w= .ok (.value v) w'/\R v w'
def cAx (P:Program) (f:Nat->Value) (o:Oper) (w:World) (R:World->Prop):Prop:=∃w',(execOp (ev f) o).run P w= .ok .skip w'/\R w'
section
variable {P:Program} {n:Nat} {Q:Po} {f:Nat->Value} {w w':World} {ops:Array Oper} {o:Oper} {rest:List Oper} {d:Nat} {R:Value->World->Prop} {R0:World->Prop}
theorem RL.run (hg:o.guard=none) (hd:o.dst=some d) (hn:d<n) (hr:Run P f o w R) (h:∀v w',R v w'->RL P n ops rest Q (st f d v) w'):RL P n ops (o::rest) Q f w:=by
 obtain⟨v,w',hr,hR⟩:=hr
 exact RL.val hg hd hn hr (h v w' hR)
variable {S:World->Prop} {fuel:Nat} {listed:Array Bool} {i:Nat} {rs:List Nat}
theorem RS.run (hi:ops[i]? =some o) (hg:o.guard=none) (hd:o.dst=some d) (hn:d<n) (hr:Run P f o w R) (h:∀v w',R v w'->Oks ops S i w w'/\RA P n ops Q S fuel (listed.setIfInBounds i true) (st f d v) w')
 (hs:RS P n ops Q S fuel listed f w rs):RS P n ops Q S fuel listed f w (i::rs):=by
 obtain⟨v,w',hr,hR⟩:=hr
 exact RS.val hi hg hd hn hr (h v w' hR).1 (h v w' hR).2 hs
end
def spl (l:List Value) (o:Nat) (vs:List Value):List Value:=l.take o++vs++l.drop (o+vs.length)
section heavy
variable {P:Program} {f:Nat->Value} {w:World} {dst:Option Tmp} {ty:TypeId} {pos:String} {aft:Array Edge} {g:Option (Nat×Bool)} {x y z:Operand} {t t' e:TypeId}
theorem oX (w:World) (o:Obj):Ext w (w.alloc o):=(Below.refl _ _).alloc (aH _) o
theorem aAr (w:World) (T:TypeId) (l:List Value):Bk (w.alloc (.cells l.toArray T)) w.heap.size T l:=heap_alloc_new w _
def Mk (w:World) (T:TypeId) (l:List Value) (b:Nat) (w':World):Prop:=b=w.heap.size/\Bk w' b T l/\Ext w w'
theorem bWb {vv:Value} {cs:List Value} (hx:ev f x=vv) (hc:vv.cells=cs.toArray):Run P f ⟨dst,.box t x,ty,pos,aft,g⟩ w λv w'=>∃b,v= .pointer (some ⟨b,0,none⟩)/\Mk w t cs b w':=
 ⟨_,_,by simp[execOp,hx,Instr.box,newVar,newRow,hc],_,U,U,aAr w t cs,oX w _⟩
theorem bHf {size bytes:Nat} {zz:Value} {cs:List Value} (ht:TyI P t size bytes zz) (hc:zz.cells=cs.toArray):Run P f ⟨dst,.alloc t,ty,pos,aft,g⟩ w λv w'=>∃b,v= .pointer (some ⟨b,0,none⟩)/\Mk w t cs b w':=by
 obtain⟨i,hi,hz,_,_⟩:=ht.ex
 exact⟨_,_,by simp[execOp,Instr.alloc,zeroValue,typeInfo,hi,hz,newVar,newRow,hc],_,U,U,aAr w t cs,oX w _⟩
theorem zY (w:World) (b:Nat) (cs:Array Value):Exc b w (w.setRow b cs):=
 ⟨U,U,U,by simp[World.setRow],λk _ hne=>by simp[World.setRow,Array.getElem?_modify,gU hne]⟩
theorem bHg {T:TypeId} {b o:Nat} {l:List Value} {vv:Value} {cs:List Value} {size bytes:Nat} {zz:Value} (ht:TyI P t size bytes zz) (hx:ev f x= .pointer (some ⟨b,o,none⟩)) (hy:ev f y=vv) (hc:vv.cells=cs.toArray) (hs:cs.length=size)
 (h1:∀u∈cs,u.oneCell'=true) (hb:Bk w b T l) (hfit:o+cs.length<=l.length):
 cAx P f ⟨dst,.store t x y,ty,pos,aft,g⟩ w λw'=>Bk w' b T (spl l o cs)/\Exc b w w'/\w'.heap.size=w.heap.size:=by
 obtain⟨i,hi,_,hsz,_⟩:=ht.ex
 have hst:=run_storeCells_at P b o T cs 0 l.toArray w hb (by simpa using hfit) h1
 simp only[iS] at hst
 refine⟨w.setRow b (spl l o cs).toArray,?_,?_,zY _ _ _,by simp[World.setRow]⟩
 ·simp[execOp,hx,hy,Instr.storeAt,Instr.sureAddr,storeVar,hc,hs,hsz,sizeOf,typeInfo,hi,hst,spl]
 exact setRow_heap w b l.toArray _ T (0,0) hb
end heavy
section calls
variable {P:Program} {n:Nat} {f:Nat->Value} {w:World}
def bPp (P:Program) (f:Nat->Value) (w:World):ResultVar->Value->Prop
 |.tmp t,v=>v=f t
 |.cell a T,v=>∃b o cs,f a= .pointer (some ⟨b,o,none⟩)/\(∃d,P.underlying T=some d)/\(∀j u,cs[j]? =some u->w.cell? ⟨b,o+j,none⟩=some u)/\
  ((aDv P T=true/\(∃by' z,TyI P T cs.length by' z)/\v= .agg cs.toArray)\/(aDv P T=false/\cs=[v]))
def aQb (P:Program) (f:Nat->Value) (w:World):List ResultVar->List Value->Prop
 |[],[]=>True
 |r::rs,v::vs=>bPp P f w r v/\aQb P f w rs vs
 |_,_=>False
def aQc:List Value->Value
 |[v]=>v
 |vs=> .tuple vs.toArray
def rdv (tmps:Array Value):ResultVar->Sem Value
 |.tmp t=>pure (tmps.getD t undef)
 |.cell ad T=>do loadVar T (<-asAddr (tmps.getD ad undef))
theorem aXy {dl:List Deferred} {a:Act} (ha:Fm dl n f a) {r:ResultVar} {v:Value} (h:bPp P f w r v):
 (rdv a.tmps r).run P w= .ok v w:=by
 cases r with
 |tmp t=>
  have h':v=f t:=h
  rw[h',<-ha.2.2 t]
  rfl
 |cell ad T=>
  obtain⟨b,o,cs,h1,⟨d,hd⟩,h2,h3⟩:=h
  have e:=ha.2.2 ad
  rw[h1] at e
  simp only[rdv,e]
  have hl:=run_loadCells_list (P:=P) w (⟨b,o,none⟩:Addr) cs (λj u hj=>by rw[gD];exact h2 j u hj)
  rcases h3 with ⟨hb,⟨by',z,ht⟩,rfl⟩|⟨hb,rfl⟩
  ·obtain⟨i,hi,_,hs,_⟩:=ht.ex
   simp[asAddr,loadVar,sE hd,hb,sizeOf,typeInfo,hi,hs,hl]
  have hc:=h2 0 v U
  simp only[iS] at hc
  simp[asAddr,loadVar,sE hd,hb,load,Sem.run,hc]
theorem aMy {dl:List Deferred} {a:Act} (ha:Fm dl n f a):∀{rs:List ResultVar} {vs:List Value},aQb P f w rs vs->
 (rs.mapM (rdv a.tmps)).run P w= .ok vs w
 |[],[],_=>by simp
 |r::rs,v::vs,h=>by
  have h1:=aXy ha h.1
  have h2:=aMy ha h.2
  rw[List.mapM_cons]
  simp only[Sem.run_bind,h1,h2,Result.andThen_ok,Sem.run_pure]
 |[],_::_,h=>h.elim
 |_::_,[],h=>h.elim
theorem aXz {k:FuncId} {fn:Func} {c:Code} {args:Array Value} {rs:List ResultVar} {R:Value->World->Prop} (hf:P.funcs[k]? =some fn) (hb:fn.body=some c) (hn:fn.ntmps=n) (hr:fn.results=rs.toArray) (hsz:args.size<=n)
 (h:WP P n c ⟨λf w=>∃vs,aQb P f w rs vs/\R (aQc vs) w,λ_ _ _=>False,λf w=>∃vs,aQb P f w rs vs/\R (aQc vs) w⟩ (λi=>args.getD i undef) w):
 Calls P k args w λe w'=>∃v,e= .returned v/\R v w':=by
 have ha0:Fm [] n (λi=>args.getD i undef) {tmps:=args++Array.replicate (fn.ntmps-args.size) undef,defers:=[]}:=by
  refine⟨U,by simp[hn];omega,λi=>?_⟩
  by_cases h1:i<args.size
  ·simp[Array.getD,h1,Array.getElem_append_left,bM h1 (Nat.le_add_right _ _)]
  by_cases h2:i<n
  ·have h3:i<args.size+(fn.ntmps-args.size):=Uc
   simp only[Array.getD,Array.size_append,Array.size_replicate,h3,h1,dite_true,dite_false]
   simp[Array.getElem_append,h1]
  have h3:¬i<args.size+(fn.ntmps-args.size):=Uc
  simp only[Array.getD,Array.size_append,Array.size_replicate,h3,h1,dite_false]
 have fin:∀(a:Act) (f:Nat->Value) (w:World),Fm [] n f a->(∃vs,aQb P f w rs vs/\R (aQc vs) w)->a.defers=[]/\∃v,(results fn a.tmps).run P w= .ok v w/\∃u,Ending.returned v= .returned u/\R u w:=by
  intro a f w ha ⟨vs,hv,hR⟩
  refine⟨ha.1,aQc vs,?_,_,U,hR⟩
  have h1:=aMy ha hv
  have e:results fn a.tmps=(do let vs <-fn.results.mapM (rdv a.tmps);pure (if h:vs.size=1 then vs[0] else .tuple vs)):=rfl
  rw[e,hr,List.mapM_toArray]
  simp only[Sem.run_bind,Sem.run_map,h1,Result.andThen_ok,Sem.run_pure]
  congr 1
  match vs with
  |[]=>rfl
  |[v]=>rfl
  |v::u::vs=>simp[aQc]
 refine calls_of_wp hf hb (wp_mono (wpIn_wide.1 (h none [] _ ha0)) λe a w hq=>?_)
 cases e with
 |normal=>obtain⟨f,hf,hh⟩:=hq;exact fin a f w hf hh
 |ret=>obtain⟨f,hf,hh⟩:=hq;exact fin a f w hf hh
 |exit i=>obtain⟨f,hf,hh⟩:=hq;exact hh.elim
 |goto l=>exact hq.elim
 |panic c=>exact hq.elim
 |outgrown=>exact hq.elim
end calls
def Off (M:List Nat) (F f:Nat->Value):Prop:=∀i,M.contains i=false->f i=F i
theorem Off.st {M:List Nat} {F f:Nat->Value} (h:Off M F f) {d:Nat} (hd:M.contains d=true) (v:Value):Off M F (st f d v):=λi hi=>by
 have hne:i≠d:=λe=>by subst e;rw[hd] at hi;cases hi
 rw[qP _ _ _ _ hne]
 exact h i hi
theorem Off.eq {M:List Nat} {G F f:Nat->Value} (hF:∀i,F i=f i) (h:Off M G f):Off M G F:=λi hi=>(hF i).trans (h i hi)
theorem aHs (z:Array Value) (n:Nat):(madeCells z (n*z.size)).toList=(List.replicate n z.toList).flatten:=by
 induction n with
 |zero=>simp[madeCells]
 |succ n ih=>
  rw[nU,lN,<-ih]
  apply jZ
  ·simp[madeCells,dE]
  intro i h1 h2
  simp only[madeCells,Array.toList_map,Array.toList_range,vN,List.getElem_range,nH,List.flatten_nil,dW] at*
  by_cases hi:i<n*z.size
  ·rw[List.getElem_append_left (by simpa using hi)]
   simp
  rw[List.getElem_append_right (by simpa using hi)]
  simp only[aK,fJ]
  have h3:i<n*z.size+z.size:=by simpa[madeCells,dE] using h1
  have h4:i%z.size=i-n*z.size:=by
   obtain⟨k,rfl⟩:∃k,i=n*z.size+k:=⟨i-n*z.size,Uc⟩
   rw[bP,Nat.mul_add_mod,cM oM]
   omega
  rw[h4,getElem!_pos z (i-n*z.size) oM]
  simp
theorem aWh {b n:Nat} (h:b*n<=281474976710656):(b:Int)*(n:Int)<=281474976710656:=by
 have:((b*n:Nat):Int)<=281474976710656:=Uc
 rwa [gQ] at this
section heavy
variable {P:Program} {f:Nat->Value} {w:World} {dst:Option Tmp} {ty:TypeId} {pos:String} {aft:Array Edge} {g:Option (Nat×Bool)} {x y z:Operand} {t t' e:TypeId} {U7:Nat->TypeId->Prop}
theorem aYa {k k':IntKind} {n c:Nat} {zz:Value} {size bytes:Nat} (hu:P.underlying t=some (.slice e)) (ht:TyI P e size bytes zz) (hz:zz.cells.size=size) (hx:ev f x= .int k (n:Int)) (hy:ev f y= .int k' (c:Int)) (hnc:n<=c) (hb:bytes*c<=281474976710656) (h63:c<=9223372036854775807):
 Run P f ⟨dst,.makeSlice t x y,ty,pos,aft,g⟩ w λv w'=>∃b,v= .slice (some ⟨b,0,none⟩) n c/\Mk w e (List.replicate c zz.cells.toList).flatten b w':=by
 obtain⟨i,hi,hzi,hs,hby⟩:=ht.ex
 have hr:=run_make (P:=P) w t e i zz hu hi hzi k k' n c oM oM (by rw[hby];exact aWh hb) oM
 simp only[cN,hs,<-hz] at hr
 refine⟨.slice (some ⟨w.heap.size,0,none⟩) n c,w.alloc (.cells (madeCells zz.cells (c*zz.cells.size)) e),by simp only[execOp,hx,hy,Sem.run_bind,hr,Result.andThen_ok,Sem.run_pure],_,U,U,?_,oX w _⟩
 have h:=aAr w e (List.replicate c zz.cells.toList).flatten
 rw[<-aHs] at h ⊢
 simpa using h
theorem bWc {len size bytes:Nat} {zz:Value} {al:List (Nat×Operand)} {vl:List (Nat×Value)} {cs:List Value} (hu:P.underlying t=some (.slice e)) (ht:TyI P e size bytes zz) (ha:al.map (λp=>(p.1,ev f p.2))=vl) (hbig:len*size<=16777216)
 (hf:Instr.fill (λi=>some (i*size,size)) ((Array.range (len*size)).map ((if len*size=0 then #[] else zz.cells)[·%(if len*size=0 then #[] else zz.cells).size]!)) vl=some cs.toArray):
 Run P f ⟨dst,.buildSlice t len al.toArray,ty,pos,aft,g⟩ w λv w'=>∃b,v= .slice (some ⟨b,0,none⟩) len len/\Mk w e cs b w':=by
 obtain⟨i,hi,hzi,hs,hby⟩:=ht.ex
 subst ha
 have hn:¬(16777216<len*size):=Uc
 refine⟨.slice (some ⟨w.heap.size,0,none⟩) len len,w.alloc (.cells cs.toArray e),?_,_,U,U,aAr w e cs,oX w _⟩
 by_cases h0:len*size=0
 ·simp only[h0,if_true] at hf
  simp[execOp,Instr.buildSlice,run_underlying hu,sizeOf,typeInfo,hi,hs,h0,newRow]
  try simp at hf
  simp[hf]
 simp only[h0,if_false] at hf
 simp[execOp,Instr.buildSlice,run_underlying hu,sizeOf,typeInfo,hi,hs,h0,hn,zeroValue,hzi,newRow]
 try simp at hf
 simp[hf]
theorem bHh {al:List (Nat×Operand)} {vl:List (Nat×Value)} {fs:Array Field} {pl:Array (Nat×Nat)} {zz:Value} {size bytes:Nat} {cs:List Value} (hu:P.underlying t=some (.struct fs)) (ht:TyI P t size bytes zz) (ha:al.map (λp=>(p.1,ev f p.2))=vl)
 (hp:∀w,(fs.mapM λ(fl:Field)=>(do pure (fl.offset,<-sizeOf fl.type):Sem (Nat×Nat))).run P w= .ok pl w) (hf:Instr.fill (pl[·]?) zz.cells vl=some cs.toArray):
 (execOp (ev f) ⟨dst,.build t al.toArray,ty,pos,aft,g⟩).run P w= .ok (.value (.agg cs.toArray)) w:=by
 obtain⟨i,hi,hzi,hs,hby⟩:=ht.ex
 subst ha
 have hzv:(zeroValue t).run P w= .ok zz w:=by simp[zeroValue,typeInfo,hi,hzi]
 simp only[execOp,Instr.build,Sem.run_bind,hzv,Result.andThen_ok,run_underlying hu,hp,List.map_toArray]
 rw[hf]
 simp
/-! append onto a slice of one's own -/
abbrev Ow (w:World) (lo:Nat) (e:TypeId) (size:Nat) (v:Value) (n:Nat) (l:List Value):Prop:=w.ownsRow lo e size v n l
theorem Ow.below {w0 w':World} {B lo size n:Nat} {v:Value} {l:List Value} (h:Ow w lo e size v n l) (hg:w.grownBy w' v.ownBlock) (hE:Below B w0 w) (hB:B<=lo) (hs:B<=w.heap.size):Below B w0 w':=
 hE.grown hg hs (λk hk=>by have:=h.lt k hk;omega)
theorem Ow.ext {w':World} {lo size n:Nat} {v:Value} {l:List Value} (h:Ow w lo e size v n l) (hE:Ext w w'):Ow w' lo e size v n l:=
 h.kept (row:=none) ⟨hE.os,hE.tape,hE.output,hE.size,λk hk _=>hE.block k hk⟩ (by cases hv:v.ownBlock<;>simp)
theorem Ow.mono {lo lo' size n:Nat} {v:Value} {l:List Value} (h:Ow w lo e size v n l) (hl:lo'<=lo):Ow w lo' e size v n l:=by
 refine⟨h.1,h.2.imp id ?_⟩
 rintro⟨b,cap,cur,h1,h2,h3⟩
 exact⟨b,cap,cur,h1,Uc,h3⟩
theorem Ow.nil (lo size:Nat):Ow w lo e size (.slice none 0 0) 0 []:=⟨by simp,.inl ⟨U,U⟩⟩
end heavy
end Go.Vg
namespace Go.Vg
open Go.RowKit
def Sg {I:Type} (g:I->Value) (U7:Nat->TypeId->Prop) (w:World) (v:Value) (xs:List I):Prop:=Sc U7 w 1 v xs.length (xs.map g)
def Ar {I:Type} (g:I->Value) (w:World) (b:Nat) (T:TypeId) (o:Nat) (xs:List I) (n:Nat):Prop:=(∃pre post,pre.length=o/\Bk w b T (pre++xs.map g++post))/\xs.length=n
section
variable {I:Type} {g:I->Value} {U7 D':Nat->TypeId->Prop} {w w':World} {v:Value} {xs:List I} {b n:Nat} {T:TypeId}
theorem Sg.mono (h:Sg g U7 w v xs) (hD:∀b T,U7 b T->D' b T):Sg g D' w v xs:=Sc.mono h hD
theorem Sg.nil:Sg g U7 w (.slice none 0 0) []:=Sc.nil
theorem Sg.take (h:Sg g U7 w v xs) (k:Nat) (hk:k<=xs.length) {A:Option Addr} {m c:Nat} (hv:v= .slice A m c):Sg g U7 w (.slice A k c) (xs.take k):=by
 obtain⟨A',c',rfl,h1,h2,h3,h4⟩:=h
 injection hv with e1 e2 e3
 subst e1 e2 e3
 have hl:(xs.take k).length=k:=by simp[hk]
 refine⟨A',c',by rw[hl],Uc,h2,by simp,?_⟩
 rcases h4 with h4|⟨bb,o,rfl,hr⟩
 ·have:xs=[]:=rR.1 h4
  subst this
  exact .inl (by simp)
 exact .inr ⟨bb,o,U,by rw[uP];exact hr.take k⟩
theorem Sg.drop (h:Sg g U7 w v xs) (k:Nat) (hk:k<=xs.length) {A:Option Addr} {m c:Nat} (hv:v= .slice A m c):Sg g U7 w (.slice (if c=k then A else A.map (·.add (k*1))) (m-k) (c-k)) (xs.drop k):=by
 obtain⟨A',c',rfl,h1,h2,h3,h4⟩:=h
 injection hv with e1 e2 e3
 subst e1 e2 e3
 have hl:(xs.drop k).length=xs.length-k:=by simp
 refine⟨_,_,by rw[hl],Uc,Uc,by simp,?_⟩
 by_cases hx:xs.drop k=[]
 ·exact .inl (by rw[hx];rfl)
 rcases h4 with h4|⟨bb,o,rfl,hr⟩
 ·have:xs=[]:=rR.1 h4
  subst this
  exact U4 (by simp) hx
 have hlt:k<xs.length:=by
  rcases eE k xs.length with h|h
  ·exact h
  exact U4 (cK h) hx
 rw[U2 oM]
 refine .inr ⟨bb,o+k,?_,by rw[qM];exact hr.drop k⟩
 simp[gD]
theorem Ar.ext {o:Nat} (h:Ar g w b T o xs n) (e:Ext w w'):Ar g w' b T o xs n:=by
 obtain⟨⟨pre,post,h1,h2⟩,h3⟩:=h
 exact⟨⟨pre,post,h1,h2.ext e⟩,h3⟩
theorem Ar.lt {o:Nat} (h:Ar g w b T o xs n):b<w.heap.size:=by
 obtain⟨⟨pre,post,h1,h2⟩,h3⟩:=h
 exact h2.lt
theorem Ar.cell [Inhabited I] {o:Nat} (h:Ar g w b T o xs n) {i:Int} (k:Nat) (hi:i=(k:Int)) (hk:k<n):w.cell? ⟨b,o+i.toNat*1,none⟩=some (g (xs.getD k U6)):=by
 obtain⟨⟨pre,post,h1,h2⟩,h3⟩:=h
 subst hi h1
 have hk':k<xs.length:=by rw[h3];exact hk
 refine h2.cell (j:=pre.length+(k:Int).toNat*1) ?_
 rw[cN,bE,cW,bH oM]
 rw[fP,aV (by simpa using hk')]
 simp[hk']
end
end Go.Vg
namespace Go.Vg
theorem Ent.of {P:Program} {k:FuncId} {fn:Func} (hf:P.funcs[k]? =some fn) (hb:fn.body.isNone=false) (hn:(fn.name== "runtime.NumGoroutine")=false):Ent P k:=λargs w=>by
 unfold callFunc
 simp only[Sem.run_bind]
 rw[show(program).run P w= .ok P w from U]
 simp only[Result.andThen_ok,hf,hn,hb,jB,if_false,Sem.run_pure]
theorem Bk.cells {w:World} {b:Nat} {T:TypeId} {l:List Value} (h:Bk w b T l) {o:Nat} {cs:List Value} (hc:(l.drop o).take cs.length=cs):∀j u,cs[j]? =some u->w.cell? ⟨b,o+j,none⟩=some u:=λj u hj=>by
 refine h.cell ?_
 rw[<-hc,fK] at hj
 split at hj
 ·rwa [dN] at hj
 cases hj
end Go.Vg
namespace Go.Vg
open Go.RowKit
def Ss {I:Type} (c:I->List Value) (size:Nat) (U7:Nat->TypeId->Prop) (w:World) (v:Value) (xs:List I):Prop:=
 (0<size/\∀x∈xs,(c x).length=size)/\Sc U7 w size v xs.length (xs.map c).flatten
section
variable {I:Type} {c:I->List Value} {size:Nat} {U7 D':Nat->TypeId->Prop} {w w':World} {v:Value} {xs:List I}
theorem Ss.mono (h:Ss c size U7 w v xs) (hD:∀b T,U7 b T->D' b T):Ss c size D' w v xs:=⟨h.1,h.2.mono hD⟩
theorem Ss.nil (hs:0<size):Ss c size U7 w (.slice none 0 0) []:=⟨⟨hs,by simp⟩,Sc.nil⟩
end
section
variable {P:Program} {f:Nat->Value} {w w':World} {dst:Option Tmp} {ty:TypeId} {pos:String} {aft:Array Edge} {gd:Option (Nat×Bool)} {x y z:Operand} {t t' e:TypeId} {U7:Nat->TypeId->Prop}
theorem aYb {A:Option Addr} {n c:Nat} (ht:P.underlying t=some (.slice e)) (hx:ev f x= .slice A n c) (hy:ev f y= .slice none 0 0):(execOp (ev f) ⟨dst,.binOp .eql t x y t',ty,pos,aft,gd⟩).run P w= .ok (.value (.bool A.isNone)) w:=by
 have h:(Op.equalIn (9999+1) t (.slice A n c) (.slice none 0 0)).run P w= .ok A.isNone w:=by
  exact Lib.run_equalIn_slice_nil w 9999 t e A n c 0 0 ht
 simp only[execOp,hx,hy,eqGuard,binOp]
 simp[Op.equal,Op.maxDepth,h]
end
theorem Exc.below {b B:Nat} {w0 w:World} (h:Exc b w0 w) (hb:B<=b) (hB:B<=w0.heap.size):Below B w0 w:=⟨h.os,h.tape,h.output,h.size,λk hk=>h.block k oM oM⟩
theorem Exc.ext {b:Nat} {w0 w:World} (h:Exc b w0 w) (hb:w0.heap.size<=b):Ext w0 w:=h.below hb (aH _)
end Go.Vg
namespace Go.Vm
variable {I:Type}
def Srt (key:I->Int) (l:List I):Prop:=l.Pairwise λx y=>key x<=key y
def StE (key:I->Int) (l l':List I):Prop:=∀k:Int,l.filter (λx=>key x==k)=l'.filter (λx=>key x==k)
theorem StE.symm {key:I->Int} {l l':List I} (h:StE key l l'):StE key l' l:=λk=>(h k).symm
theorem StE.trans {key:I->Int} {a b c:List I} (h:StE key a b) (h':StE key b c):StE key a c:=λk=>(h k).trans (h' k)
theorem StE.mem {key:I->Int} {l l':List I} (h:StE key l l') {x:I} (hx:x∈l):x∈l':=by
 have h1:x∈l.filter (λy=>key y==key x):=by rw[rJ];exact⟨hx,by simp⟩
 rw[h (key x),rJ] at h1
 exact h1.1
theorem StE.length {key:I->Int} {l l':List I} (h:StE key l l'):l.length=l'.length:=by
 suffices H:∀n (l l':List I),l.length<=n->StE key l l'->l.length=l'.length from H l.length l l' (aH _) h
 intro n
 induction n with
 |zero=>
  intro l l' hn h
  have hl:l=[]:=bQ oM
  subst hl
  cases l' with
  |nil=>rfl
  |cons y t=>have:=h.symm.mem (x:=y) (by simp);simp at this
 |succ n ih=>
  intro l l' hn h
  cases l with
  |nil=>
   cases l' with
   |nil=>rfl
   |cons y t=>have:=h.symm.mem (x:=y) (by simp);simp at this
  |cons x t=>
   have part:∀m:List I,m.length=(m.filter (λy=>key y==key x)).length+(m.filter (λy=>!(key y==key x))).length:=λm=>by
    induction m with
    |nil=>rfl
    |cons a m ihm=>
     by_cases ha:key a==key x
     ·simp[mA,ha];omega
     simp[mA,ha];omega
   rw[part (x::t),part l',h (key x)]
   congr 1
   refine ih _ _ ?_ ?_
   ·have:=List.length_filter_le (λy=>!(key y==key x)) t
    simp[mA] at*
    omega
   intro k
   rw[sW,sW]
   by_cases hk:k=key x
   ·have e:∀m:List I,m.filter (λa=>(key a==k)&&!(key a==key x))=[]:=λm=>by
     rw[List.filter_eq_nil_iff];intro a _;simp;intro h1;rw[h1,hk]
    rw[e,e]
   have e:∀m:List I,m.filter (λa=>(key a==k)&&!(key a==key x))=m.filter (λa=>key a==k):=λm=>by
    apply uA
    intro a _
    by_cases h1:key a=k
    ·simp[h1,hk]
    simp[h1]
   rw[e,e]
   exact h k
theorem Srt.le {key:I->Int} {a b:List I} (h:Srt key (a++b)) {x y:I} (hx:x∈a) (hy:y∈b):key x<=key y:=(eR.1 h).2.2 x hx y hy
theorem Srt.nil (key:I->Int):Srt key []:=List.Pairwise.nil
theorem aWi [Inhabited I] (l:List I) (k:Nat) (h:k<l.length):l.drop k=l.getD k U6::l.drop (k+1):=by
 rw[dK h]
 simp[h]
theorem aHt [Inhabited I] (l:List I) (k:Nat) (h:k<l.length):l.take (k+1)=l.take k++[l.getD k U6]:=by
 rw[List.take_succ_eq_append_getElem h]
 simp[h]
theorem aYc [Inhabited I] (l:List I) (k:Nat) (h:k<l.length):l.getD k U6∈l:=by simp[h]
theorem Srt.at {key:I->Int} [Inhabited I] {l:List I} (h:Srt key l) {i j:Nat} (hij:i<=j) (hj:j<l.length):key (l.getD i U6)<=key (l.getD j U6):=by
 rcases eE i j with h1|h1
 ·have:=gW.1 h i j oM hj h1
  simpa[hj,show i<l.length by omega] using this
 have:i=j:=Uc
 subst this
 exact Int.le_refl _
theorem Srt.take {key:I->Int} {l:List I} (h:Srt key l) (p:Nat):Srt key (l.take p):=List.Pairwise.sublist (iT p l) h
theorem Srt.drop {key:I->Int} {l:List I} (h:Srt key l) (p:Nat):Srt key (l.drop p):=List.Pairwise.sublist (List.drop_sublist p l) h
def Blk (key:I->Int) (z:Nat) (l:List I):Prop:=∀q,Srt key ((l.drop (q*z)).take z)
theorem Blk.nil (key:I->Int) (z:Nat):Blk key z ([]:List I):=λq=>by simp;exact Srt.nil _
theorem Blk.at {key:I->Int} {z:Nat} {l:List I} (h:Blk key z l) {e:Nat} (he:∃k,e=k*z):Srt key ((l.drop e).take z):=by
 obtain⟨k,rfl⟩:=he
 exact h k
theorem Blk.rest {key:I->Int} {z:Nat} {l:List I} (h:Blk key z l) {e:Nat} (he:∃k,e=k*z) (hl:l.length<=e+z):Srt key (l.drop e):=by
 have:=h.at he
 rwa [cE (by simp;omega)] at this
theorem Blk.all {key:I->Int} {z:Nat} {l:List I} (h:Blk key z l) (hl:l.length<=z):Srt key l:=by
 have:=h.rest (e:=0) ⟨0,by simp⟩ oM
 simpa using this
end Go.Vm
namespace Go.Vm
def val:List Nat->Nat
 |[]=>0
 |x::xs=>x+4294967296*val xs
def Lm (xs:List Nat):Prop:=∀x∈xs,x<4294967296
def zU:Nat->Nat->List Nat
 |0,_=>[]
 |f+1,n=>if n=0 then [] else (n%4294967296)::zU f (n/4294967296)
def dB (n:Nat):List Nat:=zU n n
def len (n:Nat):Nat:=(dB n).length
theorem aHu:∀(f g n:Nat),n<=f->n<=g->zU f n=zU g n
 |0,0,_,_,_=>rfl
 |0,g+1,n,h,_=>by have:n=0:=Uc
                  subst this;simp[zU]
 |f+1,0,n,_,h=>by have:n=0:=Uc
                  subst this;simp[zU]
 |f+1,g+1,n,h1,h2=>by
  by_cases h0:n=0
  ·simp[zU,h0]
  simp only[zU,h0,if_false]
  rw[aHu f g (n/4294967296) oM oM]
theorem sF:dB 0=[]:=rfl
theorem qQ {n:Nat} (h:n≠0):dB n=(n%4294967296)::dB (n/4294967296):=by
 obtain⟨m,rfl⟩:∃m,n=m+1:=⟨n-1,Uc⟩
 show zU (m+1) (m+1)=_
 simp only[zU,h,if_false]
 rw[aHu m ((m+1)/4294967296) _ oM oM]
 rfl
theorem aAs (n:Nat):val (dB n)=n:=by
 induction n using Nat.strongRecOn with
 |ind n ih=>
  by_cases h:n=0
  ·subst h;rfl
  rw[qQ h]
  show n%4294967296+4294967296*val (dB (n/4294967296))=n
  rw[ih _ oM]
  omega
theorem aJb (n:Nat):Lm (dB n):=by
 induction n using Nat.strongRecOn with
 |ind n ih=>
  by_cases h:n=0
  ·subst h;intro x hx;rw[sF] at hx;cases hx
  rw[qQ h]
  intro x hx
  rcases bW.1 hx with rfl|hx
  ·exact dG _ dC
  exact ih _ oM x hx
theorem nN (a b:List Nat):val (a++b)=val a+4294967296^a.length*val b:=by
 induction a with
 |nil=>simp[val]
 |cons x a ih=>
  show x+4294967296*val (a++b)=x+4294967296*val a+4294967296^(a.length+1)*val b
  rw[ih,dJ,cZ,bP (4294967296^a.length) 4294967296,bO]
  omega
theorem kO (a:List Nat) (x:Nat):val (a++[x])=val a+4294967296^a.length*x:=by
 rw[nN];simp[val]
theorem kC {a:List Nat} (h:Lm a):val a<4294967296^a.length:=by
 induction a with
 |nil=>simp[val]
 |cons x a ih=>
  have h1:=ih (λy hy=>h y (by simp[hy]))
  have h2:=h x (by simp)
  show x+4294967296*val a<4294967296^(a.length+1)
  rw[dJ,bP]
  omega
theorem Lm.nil:Lm []:=λ_ h=>by cases h
theorem Lm.append {a b:List Nat} (ha:Lm a) (hb:Lm b):Lm (a++b):=λx hx=>by
 rcases aO.1 hx with h|h
 ·exact ha x h
 exact hb x h
theorem Lm.snoc {a:List Nat} (ha:Lm a) {x:Nat} (hx:x<4294967296):Lm (a++[x]):=ha.append λy hy=>by rw[aE] at hy;omega
theorem Lm.take {a:List Nat} (h:Lm a) (k:Nat):Lm (a.take k):=λx hx=>h x (cH hx)
theorem Lm.drop {a:List Nat} (h:Lm a) (k:Nat):Lm (a.drop k):=λx hx=>h x (fU hx)
theorem Lm.at {a:List Nat} (h:Lm a) {k:Nat} (hk:k<a.length):a.getD k U6<4294967296:=h _ (aYc _ _ hk)
theorem aCh (n:Nat):val (List.replicate n 0)=0:=by
 induction n with
 |zero=>rfl
 |succ n ih=>rw[jR];show 0+4294967296*val _=0;rw[ih]
theorem Lm.zeros (n:Nat):Lm (List.replicate n 0):=λx hx=>by rw[List.eq_of_mem_replicate hx];decide
def Cn (a:List Nat):Prop:=a.length=0\/a.getD (a.length-1) U6≠0
theorem Cn.tail {x:Nat} {a:List Nat} (h:Cn (x::a)) (ha:a≠[]):Cn a:=by
 right
 rcases h with h|h
 ·simp at h
 have:0<a.length:=List.length_pos_iff.2 ha
 rw[eG,fL] at h
 obtain⟨m,hm⟩:∃m,a.length=m+1:=⟨a.length-1,Uc⟩
 rw[hm] at h ⊢
 simpa using h
theorem Cn.pos {a:List Nat} (h:Cn a) (ha:a≠[]):0<val a:=by
 induction a with
 |nil=>exact U4 U ha
 |cons x a ih=>
  show 0<x+4294967296*val a
  by_cases h0:a=[]
  ·subst h0
   rcases h with h|h
   ·simp at h
   simp at h;omega
  have:=ih (h.tail h0) h0;omega
theorem aQd {a:List Nat} (hl:Lm a) (hc:Cn a):a=dB (val a):=by
 induction a with
 |nil=>rfl
 |cons x a ih=>
  have hx:=hl x (by simp)
  have hpos:=hc.pos (by simp)
  rw[qQ oM]
  show x::a=((x+4294967296*val a)%4294967296)::dB ((x+4294967296*val a)/4294967296)
  rw[show(x+4294967296*val a)%4294967296=x by omega,show(x+4294967296*val a)/4294967296=val a by omega]
  congr 1
  by_cases h0:a=[]
  ·subst h0;rfl
  exact ih (λy hy=>hl y (by simp[hy])) (hc.tail h0)
theorem bHi (n:Nat):Cn (dB n):=by
 induction n using Nat.strongRecOn with
 |ind n ih=>
  by_cases h:n=0
  ·subst h;exact .inl rfl
  right
  rw[qQ h]
  by_cases h0:n/4294967296=0
  ·rw[h0,sF]
   simp;omega
  have h1:=ih _ (show n/4294967296<n by omega)
  rcases h1 with h1|h1
  ·rw[qQ h0] at h1;simp at h1
  obtain⟨m,hm⟩:∃m,(dB (n/4294967296)).length=m+1:=⟨(dB (n/4294967296)).length-1,by rw[qQ h0];simp⟩
  rw[eG,fL,hm]
  rw[hm,fL] at h1
  simpa using h1
theorem aHv {xs:List Nat} {n:Nat} (hx:Lm xs) (hn:n<=xs.length) (hv:val (xs.take n)=val xs) (hl:n=0\/xs.getD (n-1) U6≠0):xs.take n=dB (val xs):=by
 rw[<-hv]
 refine aQd (hx.take n) ?_
 have hlen:(xs.take n).length=n:=by simp;omega
 unfold Cn
 rw[hlen]
 rcases hl with h|h
 ·exact .inl h
 by_cases h0:n=0
 ·exact .inl h0
 right
 simpa[aC,fK,show n-1<n by omega] using h
theorem aHw {xs:List Nat} {n:Nat} (hn:n<=xs.length) (h0:0<n) (hv:val (xs.take n)=val xs) (hz:xs.getD (n-1) U6=0):val (xs.take (n-1))=val xs:=by
 obtain⟨m,rfl⟩:∃m,n=m+1:=⟨n-1,Uc⟩
 rw[fL] at hz ⊢
 rw[aHt xs m oM,kO,hz] at hv
 omega
theorem dV {xs:List Nat} {k:Nat} (h:k<xs.length):val (xs.take (k+1))=val (xs.take k)+4294967296^k*xs.getD k U6:=by
 rw[aHt xs k h,kO,bI,eZ oM]
theorem hJ {xs:List Nat} {k:Nat} (h:xs.length<=k):val (xs.take k)=val xs:=by rw[cE h]
def dig (xs:List Nat) (k:Nat):Nat:=if k<xs.length then xs.getD k U6 else 0
theorem pE (xs:List Nat) (k:Nat):val (xs.take (k+1))=val (xs.take k)+4294967296^k*dig xs k:=by
 unfold dig
 split
 ·next h=>exact dV h
 rw[hJ oM,hJ oM];rfl
theorem tO {xs:List Nat} {k:Nat} (h:k<xs.length):dig xs k=xs.getD k U6:=U3 h
theorem zV {xs:List Nat} {k:Nat} (h:¬k<xs.length):dig xs k=0:=U2 h
theorem uH {xs:List Nat} (h:Lm xs) (k:Nat):dig xs k<4294967296:=by
 unfold dig
 split
 ·next hk=>exact h.at hk
 decide
theorem nO {n k:Nat} (h:n<4294967296^k):(dB n).length<=k:=by
 induction k generalizing n with
 |zero=>have:n=0:=by simpa using h
        subst this;simp[sF]
 |succ k ih=>
  by_cases h0:n=0
  ·subst h0;simp[sF]
  rw[qQ h0,eG]
  have:=@ih (n/4294967296) (by rw[dJ] at h;exact Nat.div_lt_of_lt_mul (by rw[bP];exact h))
  omega
theorem lt_len (n:Nat):n<4294967296^len n:=by
 have:=kC (aJb n)
 rwa [aAs] at this
theorem dZ {xs:List Nat} (h:Lm xs):len (val xs)<=xs.length:=nO (kC h)
theorem fD (n:Nat):(dB n).length=len n:=rfl
theorem fR {m n:Nat} (h:m<=n):len m<=len n:=nO (fB h (lt_len n))
theorem aQe {n:Nat} (h:n≠0):4294967296^(len n-1)<=n:=by
 rcases eE n (4294967296^(len n-1)) with h1|h1
 ·have h2:=nO h1
  rw[fD] at h2
  have:len n≠0:=by unfold len;rw[qQ h];simp
  omega
 exact h1
theorem zC {m n:Nat} (h:len m<len n):m<n:=by
 have h1:=lt_len m
 have h2:4294967296^len m<=4294967296^(len n-1):=eB dC oM
 have h3:=aQe (n:=n) (λh0=>by subst h0;simp[len,sF] at h)
 omega
theorem oH {n:Nat}:len n=0↔n=0:=by
 constructor
 ·intro h;have:=lt_len n;rw[h] at this;simpa using this
 rintro rfl;rfl
theorem aAt (m n:Nat):len (m+n)<=max (len m) (len n)+1:=by
 refine nO ?_
 have h1:=lt_len m
 have h2:=lt_len n
 have h3:4294967296^len m<=4294967296^max (len m) (len n):=eB dC oM
 have h4:4294967296^len n<=4294967296^max (len m) (len n):=eB dC oM
 rw[dJ]
 omega
theorem nF (m n:Nat):len (m*n)<=len m+len n:=by
 refine nO ?_
 rw[iW]
 exact Nat.mul_lt_mul'' (lt_len m) (lt_len n)
def iV (P:List Nat) (m:Nat):List Nat:=P++List.replicate (m-P.length) 0
theorem sG (m:Nat):iV [] m=List.replicate m 0:=by simp[iV]
theorem kP {P:List Nat} {m:Nat} (h:P.length<=m):(iV P m).length=m:=by simp[iV];omega
theorem oY {P:List Nat} {m k u:Nat} (hk:P.length=k) (h:k<m):(iV P m).set k u=iV (P++[u]) m:=by
 unfold iV
 subst hk
 rw[jA _ _ (aH _),gH]
 obtain⟨q,hq⟩:∃q,m-P.length=q+1:=⟨m-P.length-1,Uc⟩
 rw[hq,jR,aD,show m-(P.length+[u].length)=q by simp;omega]
 simp
theorem qG {P:List Nat} {m:Nat} (h:P.length=m):iV P m=P:=by simp[iV,h]
theorem xN (p s:Nat):p*(s%4294967296)+4294967296*p*(s/4294967296)=p*s:=by
 rw[bP 4294967296 p,bO,<-cZ,Nat.mod_add_div]
theorem aMz {P:List Nat} {k c x y A B:Nat} (hP:P.length=k) (h:val P+4294967296^k*c=A+B):
 val (P++[(c+x+y)%4294967296])+4294967296^(k+1)*((c+x+y)/4294967296)=(A+4294967296^k*x)+(B+4294967296^k*y):=by
 rw[kO,hP,dJ]
 have h1:=xN (4294967296^k) (c+x+y)
 rw[bP 4294967296] at h1
 rw[cZ,cZ] at h1
 omega
theorem bHj {P:List Nat} {m c A B n:Nat} (hP:P.length=m) (hm:m=n+1) (h:val P+4294967296^m*c=A+B) (hA:A<4294967296^n) (hB:B<4294967296^n):val P=A+B:=by
 have h1:4294967296^m=4294967296^n*4294967296:=by rw[hm,dJ]
 rcases cL c with h0|h0
 ·subst h0;omega
 have:4294967296^m*1<=4294967296^m*c:=dM _ h0
 omega
theorem aNa {P:List Nat} {k c x y A B:Nat} (hP:P.length=k) (h:val P+B=A+4294967296^k*c) (hx:x<4294967296) (hy:y<4294967296) (hc:c<=1):
 val (P++[(x+4294967296-(c+y))%4294967296])+(B+4294967296^k*y)=(A+4294967296^k*x)+4294967296^(k+1)*(if x<c+y then 1 else 0):=by
 rw[kO,hP,dJ]
 have e:∀p:Nat,p*((x+4294967296-(c+y))%4294967296)+p*(c+y)=p*x+p*(4294967296*if x<c+y then 1 else 0):=λp=>by
  rw[<-cZ,<-cZ]
  congr 1
  split<;>omega
 have h1:=e (4294967296^k)
 rw[cZ _ c y,<-bO] at h1
 omega
theorem aYd {P:List Nat} {k c o x y A:Nat} (hP:P.length=k) (h:val P+4294967296^k*c=A):
 val (P++[(c+(o+x*y))%4294967296])+4294967296^(k+1)*((c+(o+x*y))/4294967296)=A+4294967296^k*o+x*(4294967296^k*y):=by
 rw[kO,hP,dJ]
 have h1:=xN (4294967296^k) (c+(o+x*y))
 rw[bP 4294967296] at h1
 rw[cZ,cZ,Nat.mul_left_comm _ x y] at h1
 omega
end Go.Vm
namespace Go.Vm
theorem pF {a:List Nat} {m:Nat} (h:m<a.length):a.drop m=a.getD m U6::a.drop (m+1):=aWi a m h
theorem mY (a:List Nat) {m:Nat} (h:m<=a.length):val a=val (a.take m)+4294967296^m*val (a.drop m):=by
 have:=nN (a.take m) (a.drop m)
 rw[dT,bI,eZ h] at this
 exact this
theorem aJc {a b:List Nat} {m:Nat} (ha:Lm a) (hl:a.length=b.length) (hm:m<a.length) (hd:a.drop (m+1)=b.drop (m+1)) (hx:a.getD m U6<b.getD m U6):val a<val b:=by
 rw[mY a (eT hm),mY b (show m<=b.length by omega),pF hm,pF (show m<b.length by omega),hd]
 have h1:=kC (ha.take m)
 rw[bI,eZ oM] at h1
 show _+4294967296^m*(a.getD m U6+4294967296*val (b.drop (m+1)))<_+4294967296^m*(b.getD m U6+4294967296*val (b.drop (m+1)))
 have h2:4294967296^m*(a.getD m U6+1+4294967296*val (b.drop (m+1)))<=4294967296^m*(b.getD m U6+4294967296*val (b.drop (m+1))):=dM _ oM
 rw[show a.getD m U6+1+4294967296*val (b.drop (m+1))=(a.getD m U6+4294967296*val (b.drop (m+1)))+1 by omega,cZ,bE] at h2
 omega
theorem aHx {a b:List Nat} {n:Nat} (h0:0<n) (ha:n<=a.length) (hb:n<=b.length) (hd:a.drop n=b.drop n) (hx:a.getD (n-1) U6=b.getD (n-1) U6):a.drop (n-1)=b.drop (n-1):=by
 obtain⟨m,rfl⟩:∃m,n=m+1:=⟨n-1,Uc⟩
 rw[fL] at hx ⊢
 rw[pF oM,pF (show m<b.length by omega),hx,hd]
theorem aSo (x:Nat):val [x%4294967296,x/4294967296]=x:=by simp[val];omega
theorem Lm.two {x:Nat} (h:x<18446744073709551616):Lm [x%4294967296,x/4294967296%4294967296]:=by
 intro y hy
 simp at hy
 omega
theorem rV {n:Nat}:n<18446744073709551616↔len n<=2:=by
 constructor
 ·intro h;exact nO (k:=2) oM
 intro h
 have h1:=lt_len n
 have h2:4294967296^len n<=4294967296^2:=eB dC h
 omega
theorem aHy {a:List Nat} (ha:Lm a) (h:a.length<=2):val a<18446744073709551616:=by
 have h1:=kC ha
 have h2:4294967296^a.length<=4294967296^2:=eB dC h
 omega
theorem uI {a:List Nat} {n:Nat} (h0:0<n) (h:n<=a.length):val (a.drop (n-1))=a.getD (n-1) U6+4294967296*val (a.drop n):=by
 obtain⟨m,rfl⟩:∃m,n=m+1:=⟨n-1,Uc⟩
 rw[fL,pF oM]
 rfl
theorem aYe {l m:List Nat} (hl:l.length=m.length) (h:∀j,j<l.length->l.getD j U6=m.getD j U6):l=m:=by
 apply jZ hl
 intro j h1 h2
 have:=h j h1
 simpa[h1,h2] using this
end Go.Vm
namespace Go.Vm
theorem bHk {x y P:List Nat} {k c:Nat} (lx:Lm x) (ly:Lm y) (hP:P.length=k) (hk:k=max x.length y.length+1) (hv:val P+4294967296^k*c=val (x.take k)+val (y.take k)):val P=val x+val y:=by
 rw[hJ oM,hJ oM] at hv
 refine bHj hP hk hv ?_ ?_
 ·exact bM (kC lx) (eB dC oM)
 exact bM (kC ly) (eB dC oM)
theorem aSp {x y P:List Nat} {k c:Nat} (lP:Lm P) (hP:P.length=k) (hx:x.length<=k) (hy:y.length<=k) (hxy:val y<=val x) (hv:val P+val (y.take k)=val (x.take k)+4294967296^k*c):val P=val x-val y:=by
 rw[hJ hx,hJ hy] at hv
 have h1:=kC lP
 rw[hP] at h1
 rcases cL c with h0|h0
 ·subst h0;omega
 have:4294967296^k*1<=4294967296^k*c:=dM _ h0
 omega
theorem xO {x y:Nat} (hx:x<4294967296) (hy:y<4294967296):x*y<=18446744065119617025:=by
 have h1:x*y<=4294967295*y:=aT _ oM
 omega
def nP (O Q:List Nat) (i:Nat):List Nat:=O.take i++Q++O.drop (i+Q.length)
theorem aNb (O:List Nat) (i:Nat):nP O [] i=O:=by simp[nP]
theorem aSq {O Q:List Nat} {i k:Nat} (hQ:Q.length=k) (hi:i+k<O.length):(nP O Q i).getD (i+k) U6=O.getD (i+k) U6:=by
 unfold nP
 rw[aC,aC,bH (by simp;omega)]
 simp only[aD,bI,dN]
 rw[hQ,show i+k+(i+k-(min i O.length+k))=i+k by omega]
theorem aAu {O Q:List Nat} {i k u:Nat} (hQ:Q.length=k) (hi:i+k<O.length):(nP O Q i).set (i+k) u=nP O (Q++[u]) i:=by
 unfold nP
 rw[jA _ _ (by simp;omega),cW (O.take i),cW (O.take i),cW Q]
 congr 2
 simp only[aD,bI,cO]
 rw[show i+k-(min i O.length+Q.length)=0 by omega,hQ,pF hi]
 rfl
theorem nQ {O Q:List Nat} {i:Nat} (h:i+Q.length<=O.length):(nP O Q i).length=O.length:=by simp[nP];omega
theorem aSr {O Q:List Nat} {i:Nat} (hO:Lm O) (hQ:Lm Q):Lm (nP O Q i):=((hO.take i).append hQ).append (hO.drop _)
theorem aSs {O x y Q:List Nat} {i n c:Nat} (hi:i<x.length) (hQ:Q.length=y.length) (hO:O.length=x.length+y.length) (h1:val (O.take (i+y.length))=val (x.take i)*val y)
 (h2:val Q+4294967296^y.length*c=val ((O.drop i).take y.length)+x.getD i U6*val y):
 val ((nP O (Q++[c]) i).take (i+1+y.length))=val (x.take (i+1))*val y:=by
 have e:(nP O (Q++[c]) i).take (i+1+y.length)=O.take i++(Q++[c]):=by
  unfold nP
  rw[fC (by simp;omega)]
  exact cE (by simp;omega)
 have e2:O.take (i+y.length)=O.take i++(O.drop i).take y.length:=by rw[List.take_add]
 rw[e2,nN,bI,eZ oM] at h1
 rw[e,nN,bI,eZ oM,kO,hQ,h2,cZ,dV hi,dE,<-h1,bO]
 omega
theorem aFd {O Q:List Nat} {i m:Nat} (hQ:Q.length=m+1) (hO:i+m<O.length) (hz:∀j,i+m<=j->j<O.length->O.getD j U6=0):∀j,i+1+m<=j->j<(nP O Q i).length->(nP O Q i).getD j U6=0:=by
 intro j h1 h2
 rw[nQ oM] at h2
 have h3:=hz j oM h2
 unfold nP
 rw[aC,bH (by simp;omega)]
 simp only[aD,bI,dN]
 rw[hQ,show i+(m+1)+(j-(min i O.length+(m+1)))=j by omega]
 rw[aC] at h3
 exact h3
end Go.Vm
namespace Go.Vm
theorem aAv {O y Q:List Nat} {i k c xi:Nat} (hQ:Q.length=k) (hk:k<y.length) (hO:i+k<O.length) (h:val Q+4294967296^k*c=val ((O.drop i).take k)+xi*val (y.take k)):
 val (Q++[(c+(O.getD (i+k) U6+xi*y.getD k U6))%4294967296])+4294967296^(k+1)*((c+(O.getD (i+k) U6+xi*y.getD k U6))/4294967296)=val ((O.drop i).take (k+1))+xi*val (y.take (k+1)):=by
 have h1:=aYd (o:=O.getD (i+k) U6) (x:=xi) (y:=y.getD k U6) hQ h
 have h2:=dV (xs:=O.drop i) (k:=k) (by rw[cP];omega)
 rw[show(O.drop i).getD k U6=O.getD (i+k) U6 by simp[aC]] at h2
 rw[h1,h2,dV hk,cZ]
 omega
end Go.Vm
namespace Go.Vm
theorem aYf (m:Nat):4294967296^m=2^(32*m):=by rw[show(4294967296:Nat)=2^32 from U,<-Nat.pow_mul]
theorem aYg {X:List Nat} {s:Nat} (hX:Lm X) (h0:0<X.length) (hs:X.getD (X.length-1) U6/2^s=0):val X<2^(32*(X.length-1)+s):=by
 have h1:X.getD (X.length-1) U6<2^s:=by
  rcases eE (X.getD (X.length-1) U6) (2^s) with h|h
  ·exact h
  have:=Nat.div_pos h (oT s);omega
 have h2:=kC (hX.take (X.length-1))
 rw[bI,eZ oM] at h2
 rw[mY X (show X.length-1<=X.length by omega),pF oM,cK oM]
 show _+4294967296^(X.length-1)*(X.getD (X.length-1) U6+4294967296*0)<_
 rw[iW,<-aYf]
 have h3:4294967296^(X.length-1)*(X.getD (X.length-1) U6+1)<=4294967296^(X.length-1)*2^s:=dM _ h1
 rw[cZ,bE] at h3
 rw[pT,iS]
 omega
theorem aJd {x:List Nat} (hx:Lm x) (i:Nat):dig x (i/32)/2^(i%32)%2=val x/2^i%2:=by
 have hi:i=32*(i/32)+i%32:=Uc
 have hs:i%32<32:=Uc
 generalize i/32=q at*
 generalize i%32=s at*
 subst hi
 rw[iW,<-aYf,<-fX]
 have h1:val x/4294967296^q=dig x q+4294967296*val (x.drop (q+1)):=by
  rcases eE q x.length with h|h
  ·rw[mY x (eT h),pF h,tO h]
   have h2:=kC (hx.take q)
   rw[bI,eZ oM] at h2
   rw[lF _ _ (gN dC),iI h2,eP]
   rfl
  rw[zV oM,cK oM]
  have h2:=kC hx
  have h3:4294967296^x.length<=4294967296^q:=eB dC h
  rw[iI oM]
  rfl
 rw[h1]
 obtain⟨t,ht⟩:∃t,32=s+1+t:=⟨31-s,Uc⟩
 have h4:(4294967296:Nat)=2^s*(2*2^t):=by
  rw[show(4294967296:Nat)=2^32 from U,ht,iW,iW,yO,bO]
 rw[h4,bO (2^s),lF _ _ (oT s),bO 2]
 omega
theorem aYh {a s:Nat} (h:a/2^s%2=0):a|||2^s=a+2^s:=by
 have h1:=Nat.mod_pow_succ (b:=2) (k:=s) (x:=a)
 rw[h,pT,iS] at h1
 have h2:a%2^(s+1)<2^s:=by rw[h1];exact dG _ (oT s)
 have h3:=fG a (2^(s+1))
 have h4:=iM (i:=s+1) (b:=a%2^(s+1)) (dG _ (oT _)) (a/2^(s+1))
 have h5:=iM (i:=s) (b:=a%2^(s+1)) h2 1
 rw[bE] at h5
 have h6:2^(s+1)=2^s+2^s:=by rw[dJ];omega
 have h7:=iM (i:=s+1) (b:=2^s+a%2^(s+1)) oM (a/2^(s+1))
 clear h1
 generalize 2^(s+1)*(a/2^(s+1))=A at*
 generalize a%2^(s+1)=l at*
 have e1:a|||2^s=(A|||l)|||2^s:=by rw[<-h4,h3]
 rw[e1,Nat.or_assoc,Nat.or_comm l,<-h5,<-h7]
 omega
theorem bHl {O:List Nat} {q u:Nat} (h:q<O.length):val (O.set q u)+4294967296^q*O.getD q U6=val O+4294967296^q*u:=by
 have e:O.set q u=O.take q++u::O.drop (q+1):=by rw[kK,U3 h]
 rw[e,nN,bI,eZ oM,mY O (eT h),pF h]
 show _+4294967296^q*(u+4294967296*val (O.drop (q+1)))+_=_+4294967296^q*(O.getD q U6+4294967296*val (O.drop (q+1)))+_
 rw[cZ,cZ]
 omega
theorem bPq {O:List Nat} {i:Nat} (hO:Lm O) (hi:i/32<O.length) (hd:val O%2^(i+1)=0):
 O.getD (i/32) U6|||2^(i%32)=O.getD (i/32) U6+2^(i%32)/\O.getD (i/32) U6+2^(i%32)<4294967296/\val (O.set (i/32) (O.getD (i/32) U6+2^(i%32)))=val O+2^i:=by
 have hb:val O/2^i%2=0:=by
  have h1:=Nat.mod_pow_succ (b:=2) (k:=i) (x:=val O)
  rw[hd] at h1
  rcases cL (val O/2^i%2) with h|h
  ·exact h
  have:2^i*1<=2^i*(val O/2^i%2):=dM _ h
  have:=oT i
  omega
 have ha:=aJd hO i
 rw[hb,tO hi] at ha
 refine⟨aYh ha,?_,?_⟩
 ·have h1:=hO.at hi
  rw[<-aYh ha]
  exact Nat.or_lt_two_pow (n:=32) h1 (nV dC oM)
 have h1:=bHl (u:=O.getD (i/32) U6+2^(i%32)) hi
 rw[cZ] at h1
 have h2:2^i=4294967296^(i/32)*2^(i%32):=by rw[aYf,<-iW];congr 1;omega
 omega
theorem aYi {n i Qn b r:Nat} (h:n/2^(i+1)=Qn*b+r):n/2^i=2*Qn*b+(r+r+n/2^i%2):=by
 rw[dJ,<-fX] at h
 have h1:2*Qn*b=Qn*b+Qn*b:=by rw[bO];omega
 omega
theorem aJe {n b Qn r:Nat} (h:n=Qn*b+r) (hr:r<b):Qn=n/b/\r=n%b:=by
 subst h
 rw[bP,Nat.mul_add_div oM,Nat.mul_add_mod,iI hr,cM hr]
 exact⟨U,U⟩
def aHg (x y:Nat):Nat:=if y=0 then 0 else x%y
end Go.Vm
namespace Go.Vm
theorem Lm.set {O:List Nat} (h:Lm O) {q u:Nat} (hu:u<4294967296):Lm (O.set q u):=λx hx=>by
 rcases List.mem_or_eq_of_mem_set hx with hx|rfl
 ·exact h x hx
 exact hu
theorem aNc (Q i:Nat):Q*2^(i+1)=2*Q*2^i:=by
 rw[dJ,bP (2^i) 2,<-bO,bP Q 2]
end Go.Vm
namespace Go.Vm
structure Kd (Ub V top v1 v2 u2 p lowU lowV:Nat):Prop where
 eU:Ub=(top*4294967296+u2)*p+lowU
 eV:V=(v1*4294967296+v2)*p+lowV
 lU:lowU<p
 lV:lowV<p
 hv:2147483648<=v1
 hv2:v2<4294967296
 hu2:u2<4294967296
 hq:Ub<V*4294967296
structure Kn (Ub V top v1 digit rest:Nat):Prop where
 e:digit*v1+rest=top
 ge:Ub/V<=digit
 le:digit<=4294967297
theorem Kd.pos {Ub V top v1 v2 u2 p lowU lowV:Nat} (H:Kd Ub V top v1 v2 u2 p lowU lowV):0<V:=by
 have h1:=H.hq
 rcases cL V with h|h
 ·rw[h] at h1;omega
 exact h
theorem Kd.start {Ub V top v1 v2 u2 p lowU lowV:Nat} (H:Kd Ub V top v1 v2 u2 p lowU lowV):Kn Ub V top v1 (top/v1) (top%v1):=by
 have hp:0<p:=fB (aB _) H.lU
 refine⟨by rw[bP];exact fG top v1,?_,?_⟩
 ·rw[nD (by have:=H.hv;omega)]
  have h1:Ub/V*V<=Ub:=Nat.div_mul_le_self Ub V
  have h2:Ub/V*(v1*4294967296*p)<=Ub:=aJ (dM _ (by rw[H.eV,dE];omega)) h1
  have h3:Ub<(top+1)*(4294967296*p):=by
   rw[H.eU]
   have:=H.lU
   have h4:u2*p<=4294967295*p:=aT _ (by have:=H.hu2;omega)
   rw[dE,dE,bO]
   omega
  have h5:(Ub/V*v1)*(4294967296*p)<(top+1)*(4294967296*p):=by
   rw[bO] at h2 ⊢
   exact fB h2 h3
  have:=kH h5
  omega
 have h1:top*(4294967296*p)<=Ub:=by
  rw[H.eU,dE,bO]
  omega
 have h2:V<(v1+1)*(4294967296*p):=by
  rw[H.eV]
  have:=H.lV
  have h4:v2*p<=4294967295*p:=aT _ (by have:=H.hv2;omega)
  rw[dE,dE,bO]
  omega
 have h3:top*(4294967296*p)<((v1+1)*4294967296)*(4294967296*p):=by
  refine fB h1 (sD H.hq ?_)
  have:=iN h2 (show 0<4294967296 by decide)
  rw[sX] at this
  exact this
 have h4:=kH h3
 have h5:top/v1<4294967298:=by
  rw[fO (by have:=H.hv;omega)]
  have:=H.hv
  omega
 omega
theorem Kd.lt {Ub V top v1 v2 u2 p lowU lowV:Nat} (H:Kd Ub V top v1 v2 u2 p lowU lowV):Ub/V<4294967296:=by
 rw[fO H.pos,bP];exact H.hq
theorem Kd.step {Ub V top v1 v2 u2 p lowU lowV digit rest:Nat} (H:Kd Ub V top v1 v2 u2 p lowU lowV) (K:Kn Ub V top v1 digit rest) (h:4294967296<=digit\/rest*4294967296+u2<digit*v2):Kn Ub V top v1 (digit-1) (rest+v1)/\1<=digit:=by
 have hlt:Ub/V<digit:=by
  rcases h with h|h
  ·have:=H.lt;omega
  rcases bR K.ge with h1|h1
  ·exact h1
  exfalso
  have h2:digit*V<=Ub:=by rw[<-h1];exact Nat.div_mul_le_self Ub V
  have h3:digit*((v1*4294967296+v2)*p)<=Ub:=aJ (dM _ (by rw[H.eV];omega)) h2
  have h4:(top*4294967296+u2+1)*p<=digit*((v1*4294967296+v2)*p):=by
   rw[<-bO]
   refine aT _ ?_
   rw[cZ,<-bO]
   have:=K.e
   have e2:digit*v1*4294967296+rest*4294967296=top*4294967296:=by rw[<-dE,this]
   omega
  have h5:=H.eU
  have h6:=H.lU
  have h7:(top*4294967296+u2+1)*p=(top*4294967296+u2)*p+p:=dH _ _
  omega
 have hz:=aB (Ub/V)
 refine⟨⟨?_,Uc,by have:=K.le;omega⟩,Uc⟩
 have:=K.e
 obtain⟨d,rfl⟩:∃d,digit=d+1:=⟨digit-1,Uc⟩
 rw[fL,<-this,dH]
 omega
theorem Kd.exit {Ub V top v1 v2 u2 p lowU lowV digit rest:Nat} (H:Kd Ub V top v1 v2 u2 p lowU lowV) (K:Kn Ub V top v1 digit rest) (h1:digit<4294967296) (h2:digit*v2<=rest*4294967296+u2):digit<=Ub/V+1:=by
 have hz:=aB (Ub/V)
 rcases cL digit with h0|h0
 ·omega
 obtain⟨d,rfl⟩:∃d,digit=d+1:=⟨digit-1,Uc⟩
 have hle:d<=Ub/V:=by
  rw[nD H.pos]
  have a1:(d+1)*V=((d+1)*v1*4294967296+(d+1)*v2)*p+(d+1)*lowV:=by
   rw[H.eV,cZ,<-bO,cZ,<-bO]
  have a2:((d+1)*v1*4294967296+(d+1)*v2)*p<=(top*4294967296+u2)*p:=by
   refine aT _ ?_
   have e2:(d+1)*v1*4294967296+rest*4294967296=top*4294967296:=by rw[<-dE,K.e]
   omega
  have a3:(d+1)*lowV<=4294967295*p:=aJ (aT _ oM) (dM _ (eT H.lV))
  have a4:4294967296*p<=V:=by
   rw[H.eV,dE]
   have:1*4294967296*p<=v1*4294967296*p:=aT _ (aT _ (by have:=H.hv;omega))
   omega
  have a5:(d+1)*V=d*V+V:=dH _ _
  have a6:=H.eU
  have hp:0<p:=fB (aB _) H.lU
  omega
 omega
theorem Kd.brk {Ub V top v1 v2 u2 p lowU lowV digit rest:Nat} (H:Kd Ub V top v1 v2 u2 p lowU lowV) (K:Kn Ub V top v1 digit rest) (h1:digit<=4294967296) (h2:4294967296<=rest):digit<=Ub/V:=by
 rw[nD H.pos]
 have a1:digit*V=digit*v1*4294967296*p+digit*(v2*p+lowV):=by
  rw[H.eV,dE,jF,cZ]
  rw[<-bO,<-bO]
 have a2:digit*v1*4294967296*p+rest*4294967296*p=top*4294967296*p:=by rw[<-dE,<-dE,K.e]
 have a3:v2*p+lowV<=4294967296*p:=by
  have:v2*p<=4294967295*p:=aT _ (by have:=H.hv2;omega)
  have:=H.lV
  omega
 have a4:digit*(v2*p+lowV)<=4294967296*(4294967296*p):=gB h1 a3
 have a5:4294967296*4294967296*p<=rest*4294967296*p:=aT _ (aT _ h2)
 have a6:=H.eU
 rw[dE] at a6
 omega
def sb (u c:Nat):Nat:=(u+18446744073709551616-c)%18446744073709551616
theorem aQf {u c:Nat} (hu:u<4294967296) (hc:c<4294967296):sb u c%4294967296+c=u+4294967296*(sb u c/9223372036854775808)/\sb u c/9223372036854775808<=1/\(sb u c/9223372036854775808=0↔c<=u):=by
 unfold sb
 by_cases h:c<=u
 ·rw[show u+18446744073709551616-c=(u-c)+18446744073709551616 by omega,nI,cM (show u-c<18446744073709551616 by omega)]
  omega
 rw[cM (show u+18446744073709551616-c<18446744073709551616 by omega)]
 omega
theorem aYj {dg v c u:Nat} (hd:dg<4294967296) (hv:v<4294967296) (hc:c<4294967296) (hu:u<4294967296):dg*v+c<=18446744069414584320/\(dg*v+c)/4294967296+sb u ((dg*v+c)%4294967296)/9223372036854775808<4294967296:=by
 have h1:=xO hd hv
 have h2:=aQf hu (dG (dg*v+c) (show 0<4294967296 by decide))
 generalize hp:dg*v=p at*
 generalize hs:sb u ((p+c)%4294967296)=s at*
 have hs':=hs
 unfold sb at hs'
 omega
theorem bHm {P:List Nat} {k c dg u v Uk Vk:Nat} (hP:P.length=k) (h:val P+dg*Vk=Uk+4294967296^k*c) (hu:u<4294967296):
 val (P++[sb u ((dg*v+c)%4294967296)%4294967296])+dg*(Vk+4294967296^k*v)=(Uk+4294967296^k*u)+4294967296^(k+1)*((dg*v+c)/4294967296+sb u ((dg*v+c)%4294967296)/9223372036854775808):=by
 have h2:=(aQf hu (dG (dg*v+c) (show 0<4294967296 by decide))).1
 have h3:=fG (dg*v+c) 4294967296
 rw[kO,hP,dJ]
 generalize sb u ((dg*v+c)%4294967296)=s at*
 generalize (dg*v+c)%4294967296=r at*
 generalize (dg*v+c)/4294967296=q at*
 generalize s/9223372036854775808=b at*
 generalize s%4294967296=t at*
 generalize 4294967296^k=p at*
 have e1:p*t+p*(dg*v+c)=p*u+p*(4294967296*(q+b)):=by rw[<-cZ,<-cZ];congr 1;omega
 rw[cZ p (dg*v) c] at e1
 rw[cZ dg,<-bO dg p v,bP dg p,bO p dg v,bO p 4294967296]
 omega
theorem bWd {Ub V R Ul un c dg pn:Nat} (hV:0<V) (h:R+dg*V=Ul+pn*c) (hU:Ub=Ul+pn*un) (hc:c<=un) (hg:Ub/V<=dg):dg=Ub/V/\R+pn*(un-c)=Ub%V:=by
 have e:pn*un=pn*c+pn*(un-c):=by rw[<-cZ];congr 1;omega
 have e2:Ub=dg*V+(R+pn*(un-c)):=Uc
 have h1:dg<=Ub/V:=(nD hV).2 oM
 have h2:dg=Ub/V:=Uc
 refine⟨h2,?_⟩
 have:=fG Ub V
 rw[<-h2,bP] at this
 omega
theorem bHn {Ub V R Ul un c dg pn:Nat} (hV:0<V) (h:R+dg*V=Ul+pn*c) (hU:Ub=Ul+pn*un) (hc:un<c) (hg:dg<=Ub/V+1) (hR:R<pn) (hVp:V<pn):dg=Ub/V+1/\c=un+1/\R+V=Ub%V+pn:=by
 have hdm:=fG Ub V
 have hlt:=dG Ub hV
 have e:pn*c=pn*un+pn*(c-un):=by rw[<-cZ];congr 1;omega
 have e3:pn*1<=pn*(c-un):=dM _ oM
 have h1:Ub<dg*V:=Uc
 have h2:Ub/V<dg:=(fO hV).2 h1
 have h3:dg=Ub/V+1:=Uc
 subst h3
 rw[dH,bP] at h
 have h4:R+V=Ub%V+pn*(c-un):=Uc
 have h5:c-un=1:=by
  rcases eE (c-un) 2 with h6|h6
  ·omega
  have:=dM pn h6
  omega
 rw[h5,bE] at h4
 exact⟨U,Uc,h4⟩
theorem aYk {P:List Nat} {n c R V r:Nat} (hP:P.length=n) (hl:Lm P) (h:val P+4294967296^n*c=R+V) (h2:R+V=r+4294967296^n) (hr:r<4294967296^n):c=1/\val P=r:=by
 have hv:=kC hl
 rw[hP] at hv
 generalize 4294967296^n=p at*
 have hc:c=1:=by
  rcases eF c 1 with h1|h1|h1
  ·have:c=0:=Uc
   subst this;omega
  ·exact h1
  have:=dM p (show 2<=c by omega)
  omega
 subst hc
 omega
theorem aWj {P:List Nat} {k c u v R V:Nat} (hP:P.length=k) (h:val P+4294967296^k*c=R+V):
 val (P++[(c+(u+v))%4294967296])+4294967296^(k+1)*((c+(u+v))/4294967296)=(R+4294967296^k*u)+(V+4294967296^k*v):=by
 have h3:=fG (c+(u+v)) 4294967296
 rw[kO,hP,dJ]
 generalize (c+(u+v))%4294967296=r at*
 generalize (c+(u+v))/4294967296=q at*
 generalize 4294967296^k=p at*
 have e1:p*r+p*(4294967296*q)=p*c+(p*u+p*v):=by rw[<-cZ,<-cZ,<-cZ];congr 1;omega
 rw[bO]
 omega
theorem aWk {a0 A A' V Q q j B':Nat} (h:a0=A+V*(B'*(4294967296*Q))) (hj:B'=4294967296^j) {low W W':Nat} (hA:A=low+B'*W) (hA':A'=low+B'*W') (hW:W=q*V+W'):a0=A'+V*(B'*(q+4294967296*Q)):=by
 rw[h,hA,hA',hW,cZ B',cZ B',cZ V]
 have:B'*(q*V)=V*(B'*q):=by rw[bP q V,<-bO,bP B' V,bO]
 omega
end Go.Vm
namespace Go.Vm
def sb2 (x c y:Nat):Nat:=(sb x c+18446744073709551616-y)%18446744073709551616
theorem bHo {x c y:Nat} (hx:x<4294967296) (hc:c<=1) (hy:y<4294967296):sb2 x c y%4294967296=(x+4294967296-(c+y))%4294967296/\sb2 x c y/9223372036854775808=(if x<c+y then 1 else 0):=by
 unfold sb2 sb
 by_cases h1:c<=x
 ·rw[show x+18446744073709551616-c=(x-c)+18446744073709551616 by omega,nI,cM (show x-c<18446744073709551616 by omega)]
  by_cases h2:x<c+y
  ·rw[U3 h2,cM (show x-c+18446744073709551616-y<18446744073709551616 by omega)]
   omega
  rw[U2 h2,show x-c+18446744073709551616-y=(x-c-y)+18446744073709551616 by omega,nI,cM (show x-c-y<18446744073709551616 by omega)]
  omega
 rw[cM (show x+18446744073709551616-c<18446744073709551616 by omega),U3 oM]
 rw[show x+18446744073709551616-c+18446744073709551616-y=(x+18446744073709551616-c-y)+18446744073709551616 by omega,nI,cM (show x+18446744073709551616-c-y<18446744073709551616 by omega)]
 omega
theorem bHp {x c:Nat}:sb x c=sb2 x c 0:=by
 unfold sb2
 rw[Nat.sub_zero,nI,cM]
 unfold sb
 exact dG _ dC
theorem aYl {O x y:List Nat} {i:Nat} (hi:i<x.length) (hO:O.length=x.length+y.length) (h1:val (O.take (i+y.length))=val (x.take i)*val y) (hz:∀j,i+y.length<=j->j<O.length->O.getD j U6=0) (h0:x.getD i U6=0):
 val (O.take (i+1+y.length))=val (x.take (i+1))*val y:=by
 rw[show i+1+y.length=(i+y.length)+1 by omega,dV oM,hz _ (aH _) oM,h1,dV hi,h0]
 simp
end Go.Vm
namespace Go.Vm
theorem bHq {P:List Nat} {k c x s V:Nat} (hP:P.length=k) (h:val P+4294967296^k*c=V*2^s):
 val (P++[(c+x*2^s)%4294967296])+4294967296^(k+1)*((c+x*2^s)/4294967296)=(V+4294967296^k*x)*2^s:=by
 rw[kO,hP,dJ]
 have h1:=xN (4294967296^k) (c+x*2^s)
 rw[bP 4294967296] at h1
 rw[cZ,<-bO] at h1
 rw[dE]
 omega
theorem aNd {c x s:Nat} (hs:s<=31) (hc:c<2^s) (hx:x<4294967296):c+x*2^s<9223372036854775808/\(c+x*2^s)/4294967296<2^s/\2^s<=2147483648:=by
 have h1:2^s<=2^31:=eB dC hs
 have h2:x*2^s<=4294967295*2^s:=aT _ oM
 generalize 2^s=p at*
 generalize x*p=q at*
 omega
theorem aYm {c x s:Nat} (hc:c<2^s):c|||x*2^s=c+x*2^s:=by
 have h:=iM hc x
 rw[bP] at h
 rw[Nat.or_comm,<-h,iD]
theorem nY (x:List Nat) (k:Nat):val (x.drop k)=dig x k+4294967296*val (x.drop (k+1)):=by
 by_cases h:k<x.length
 ·rw[pF h,tO h];rfl
 rw[zV h,cK oM,cK oM];rfl
theorem rW {x:List Nat} (hx:Lm x) (k:Nat):val x/4294967296^k=val (x.drop k):=by
 have hk:val (x.take k)<4294967296^k:=bM (kC (hx.take k)) (eB dC (by rw[bI];omega))
 by_cases h:k<=x.length
 ·rw[mY x h,lF _ _ (gN dC),iI hk,eP]
 rw[cE oM] at hk
 rw[cK oM,iI hk];rfl
theorem aNe {a r s:Nat} (B:Nat) (hB:B=2^32) (hs:s<=31):(a+B*(B*r))/2^s%B=a/2^s%B:=by
 have hp:B=2^s*2^(32-s):=by rw[hB,<-iW,show s+(32-s)=32 by omega]
 have e3:B*(B*r)=2^s*(B*(2^(32-s)*r)):=by
  rw[<-bO B (2^(32-s)) r,bP B (2^(32-s)),bO (2^(32-s)) B r,<-bO (2^s) (2^(32-s)),<-hp]
 rw[e3,lF _ _ (gN dC),Nat.add_mul_mod_self_left]
theorem aWl {x:List Nat} (hx:Lm x) {k s:Nat} (hs:s<=31):(dig x k+4294967296*dig x (k+1))/2^s%4294967296=val x/2^s/4294967296^k%4294967296:=by
 rw[fX,bP (2^s),<-fX,rW hx,nY x k,nY x (k+1),cZ,<-jF]
 exact(aNe 4294967296 U hs).symm
theorem aYn {P:List Nat} {W k:Nat} (hP:P.length=k) (h:val P=W%4294967296^k):val (P++[W/4294967296^k%4294967296])=W%4294967296^(k+1):=by
 rw[kO,hP,h,dJ,Nat.mod_mul]
theorem bWe {n u:Nat} {Q:List Nat}:(List.replicate (n+1) 0++Q).set n u=List.replicate n 0++(u::Q):=by
 rw[nU,cW,jA (h:=by simp)]
 simp
theorem aWm {x:List Nat} {n d r:Nat} {Q:List Nat} (hn:n<x.length) (hd:0<d) (h:val (x.drop (n+1))=val Q*d+r):
 val (x.drop n)=val ((r*4294967296+x.getD n U6)/d::Q)*d+(r*4294967296+x.getD n U6)%d:=by
 have h1:=uI (a:=x) (n:=n+1) oM oM
 rw[fL] at h1
 rw[h1,h]
 show _=((r*4294967296+x.getD n U6)/d+4294967296*val Q)*d+_
 have h2:=fG (r*4294967296+x.getD n U6) d
 rw[bP d] at h2
 rw[dE,bO]
 generalize (r*4294967296+x.getD n U6)/d*d=q1 at*
 generalize (r*4294967296+x.getD n U6)%d=m1 at*
 generalize val Q*d=t at*
 omega
theorem bHr {r d x:Nat} (hr:r<d) (hd:d<4294967296) (hx:x<4294967296):(r*4294967296+x)/d<4294967296/\r*4294967296+x<18446744073709551616:=by
 refine⟨(fO oM).2 ?_,Uc⟩
 have:(r+1)*4294967296<=d*4294967296:=aT _ hr
 rw[bP 4294967296 d]
 omega
end Go.Vm
namespace Go.Vm
theorem bWf {u v:List Nat} {n:Nat} (hu:u.length=n+1) (hv:v.length=n) (hn:2<=n) (lu:Lm u) (lv:Lm v) (htop:2147483648<=v.getD (n-1) U6) (hq:val u<val v*4294967296):
 Kd (val u) (val v) (u.getD n U6*4294967296+u.getD (n-1) U6) (v.getD (n-1) U6) (v.getD (n-2) U6) (u.getD (n-2) U6) (4294967296^(n-2)) (val (u.take (n-2))) (val (v.take (n-2))):=by
 obtain⟨m,rfl⟩:∃m,n=m+2:=⟨n-2,Uc⟩
 have e1:=dV (xs:=u) (k:=m) oM
 have e2:=dV (xs:=u) (k:=m+1) oM
 have e3:=dV (xs:=u) (k:=m+2) oM
 rw[cE (show u.length<=m+2+1 by omega)] at e3
 have f1:=dV (xs:=v) (k:=m) oM
 have f2:=dV (xs:=v) (k:=m+1) oM
 rw[cE (show v.length<=m+1+1 by omega)] at f2
 have hp1:4294967296^(m+1)=4294967296^m*4294967296:=dJ ..
 have hp2:4294967296^(m+2)=4294967296^(m+1)*4294967296:=dJ ..
 have lt1:=kC (lu.take m)
 have lt2:=kC (lv.take m)
 rw[bI,eZ oM] at lt1 lt2
 simp only[show m+2-1=m+1 by omega,fL]
 rw[hp1] at e2 f2
 rw[hp2,hp1] at e3
 refine⟨?_,?_,lt1,lt2,by simpa using htop,lv.at oM,lu.at oM,hq⟩
 ·rw[e3,e2,e1,dE,dE]
  generalize 4294967296^m=p
  generalize u.getD (m+2) U6=a
  generalize u.getD (m+1) U6=b
  generalize u.getD m U6=c
  rw[dE,bP c p,sX a 4294967296 4294967296,bO a 4294967296 4294967296,bO p,bO p,bO p]
  rw[bO a (4294967296*4294967296) p,bO b 4294967296 p,bP (4294967296*4294967296) p,bP 4294967296 p,<-bO a p,<-bO b p,bP a p,bP b p,bO p a,bO p b,bP a,bP b]
  rw[bO 4294967296 4294967296 a]
  omega
 rw[f2,f1,dE]
 generalize 4294967296^m=p
 generalize v.getD (m+1) U6=b
 generalize v.getD m U6=c
 rw[bP c p,bO b 4294967296 p,bP 4294967296 p,<-bO b p,bP b p,bO p b,bO p 4294967296 b,bP b]
 omega
theorem aEb {P u:List Nat} {k:Nat} (hP:P.length=k):(P++u.drop k).getD k U6=u.getD k U6:=by
 subst hP
 rw[aC,aC,bH (aH _),gH,dN,iS]
theorem aAw {P u:List Nat} {k z:Nat} (hP:P.length=k) (hk:k<u.length):(P++u.drop k).set k z=(P++[z])++u.drop (k+1):=by
 subst hP
 rw[jA (h:=aH _),gH,pF hk]
 simp
end Go.Vm
namespace Go.Vm
theorem aQg {a m n s V:Nat} {Ub:List Nat} (hl:Ub.length=m+1) (hU:Lm Ub) (hv:val Ub=a*2^s) (ha:a<4294967296^m) (hs:s<=31) (hn:n<=m) (h1:1<=n) (hV:2147483648*4294967296^(n-1)<=V):val (Ub.drop (m+1-n))<V:=by
 have hd:=rW hU (m+1-n)
 rw[<-hd,hv]
 refine bM ?_ hV
 refine(fO (gN dC)).2 ?_
 have e:4294967296^(n-1)*4294967296^(m+1-n)=4294967296^m:=by rw[<-iW];congr 1;omega
 rw[bO,e,bP a]
 have h31:2^s<=2147483648:=aJ (eB dC hs) dC
 exact bM (Nat.mul_lt_mul_of_pos_left ha (gN dC)) (aT _ h31)
theorem aYo {u:List Nat} {j n V:Nat} (lu:Lm u) (hl:j+n+1<=u.length) (hV:V<4294967296^n) (h:val (u.drop (j+1))<V):val ((u.drop j).take (n+1))<V*4294967296/\val (u.drop (j+(n+1)))=0:=by
 have h1:=uI (a:=u) (n:=j+1) (jU _) oM
 rw[fL] at h1
 have hj:=lu.at (k:=j) oM
 have h2:=mY (u.drop j) (m:=n+1) (by rw[cP];omega)
 rw[sY] at h2
 have hlt:val (u.drop j)<V*4294967296:=by rw[h1];omega
 have hz:val (u.drop (j+(n+1)))=0:=by
  rcases cL (val (u.drop (j+(n+1)))) with h|h
  ·exact h
  have h3:4294967296^(n+1)<=4294967296^(n+1)*val (u.drop (j+(n+1))):=eJ _ h
  have h4:V*4294967296<4294967296^(n+1):=by rw[dJ];exact iN hV dC
  omega
 exact⟨by rw[hz,pT,iS] at h2;omega,hz⟩
theorem aWn {u mid Q:List Nat} {j n V A q:Nat} (hl:j+n+1<=u.length) (hm:mid.length=n+1) (hz:val (u.drop (j+(n+1)))=0) (hq:q=val ((u.drop j).take (n+1))/V) (hr:val mid=val ((u.drop j).take (n+1))%V) (hV:0<V)
 (h:A=val u+V*(4294967296^(j+1)*val Q)):A=val (u.take j++mid++u.drop (j+(n+1)))+V*(4294967296^j*val (q::Q))/\val ((u.take j++mid++u.drop (j+(n+1))).drop j)<V/\(u.take j++mid++u.drop (j+(n+1))).length=u.length:=by
 have htl:(u.take j).length=j:=by rw[bI];omega
 have e1:val (u.take j++mid++u.drop (j+(n+1)))=val (u.take j)+4294967296^j*val mid:=by
  rw[cW,nN,nN,hz,htl];simp
 have e2:val u=val (u.take j)+4294967296^j*val ((u.drop j).take (n+1)):=by
  have h2:=mY u (m:=j) oM
  have h3:=mY (u.drop j) (m:=n+1) (by rw[cP];omega)
  rw[sY,hz,pT,iS] at h3
  rw[h2,h3]
 have e3:val ((u.take j++mid++u.drop (j+(n+1))).drop j)=val mid:=by
  have h5:((u.take j++mid++u.drop (j+(n+1))).drop j)=mid++u.drop (j+(n+1)):=by
   rw[cW,jK oM,cK oM,mX]
  rw[h5,nN,hz];simp
 refine⟨?_,?_,?_⟩
 ·refine(aWk (A:=val u) (Q:=val Q) (low:=val (u.take j)) (W:=val ((u.drop j).take (n+1))) (W':=val mid) (V:=V) (j:=j) (q:=q) (B':=4294967296^j) ?_ rfl e2 e1 ?_).trans ?_
  ·rw[h,dJ,bO (4294967296^j)]
  ·rw[hq,hr,bP];exact(fG _ _).symm
  rfl
 ·rw[e3,hr];exact dG _ hV
 simp only[aD,cP,htl,hm];omega
theorem aYp {a b s A V R Q:Nat} (hA:A=a*2^s) (hV:V=b*2^s) (h:A=R+V*Q) (hR:R<V):Q=a/b/\R/2^s=a%b:=by
 have hp:0<2^s:=gN dC
 have h1:=aJe (n:=A) (b:=V) (Qn:=Q) (r:=R) (by rw[h,bP];omega) hR
 refine⟨?_,?_⟩
 ·rw[h1.1,hA,hV,Nat.mul_div_mul_right _ _ hp]
 rw[h1.2,hA,hV,Nat.mul_mod_mul_right,Nat.mul_div_cancel _ hp]
theorem aYq {Y:List Nat} {V n s:Nat} (lY:Lm Y) (hs:s<=31) (hn:2<=n) (hl:Y.length=n) (hV:V=val Y*2^s) (h1:2147483648<=Y.getD (n-1) U6*2^s) (h2:Y.getD (n-1) U6*2^s<4294967296):2147483648*4294967296^(n-1)<=V/\V<4294967296^n:=by
 have e:=dV (xs:=Y) (k:=n-1) oM
 rw[show n-1+1=n by omega,cE oM] at e
 have hlt:=kC (lY.take (n-1))
 rw[bI,show min (n-1) Y.length=n-1 by omega] at hlt
 have ep:4294967296^n=4294967296^(n-1)*4294967296:=by rw[<-dJ];congr 1;omega
 have ek:4294967296=2^(32-s)*2^s:=by rw[<-iW,show 32-s+s=32 by omega]
 have hk:0<2^s:=gN dC
 generalize Y.getD (n-1) U6=t at*
 generalize val (Y.take (n-1))=lo at*
 have h3:(t+1)*2^s<=4294967296:=by
  rw[ek] at h2 ⊢
  exact aT _ (kH h2)
 clear ek
 generalize 4294967296^(n-1)=p at*
 generalize 2^s=k at*
 subst hV
 rw[e,ep]
 refine⟨?_,?_⟩
 ·have h4:=dM p h1
  have h5:p*(t*k)<=(lo+p*t)*k:=by rw[dE,bO];exact Nat.le_add_left _ _
  rw[bP p] at h4
  exact aJ h4 h5
 have h4:=dM p h3
 refine bM ?_ h4
 rw[<-bO,cZ,bE]
 exact iN oM hk
theorem bHs {L:List Nat} {n:Nat} (hn:1<=n) (hl:L.length=n) (hL:Lm L) (h:2147483648*4294967296^(n-1)<=val L):2147483648<=L.getD (n-1) U6:=by
 have e:=dV (xs:=L) (k:=n-1) oM
 rw[show n-1+1=n by omega,cE oM] at e
 have hlt:=kC (hL.take (n-1))
 rw[bI,show min (n-1) L.length=n-1 by omega] at hlt
 rw[e] at h
 generalize 4294967296^(n-1)=p at*
 generalize L.getD (n-1) U6=t at*
 rcases eE t 2147483648 with h6|h6
 ·have h7:p*(t+1)<=p*2147483648:=dM p h6
  rw[cZ,bE] at h7
  omega
 exact h6
theorem aNf {L:List Nat} {n:Nat} (hl:n<=L.length) (h:val L<4294967296^n):val (L.take n)=val L:=by
 have e:=mY L hl
 rcases cL (val (L.drop n)) with h0|h0
 ·rw[h0] at e;omega
 have:=eJ (4294967296^n) h0;omega
def sgn (e:Bool):Int:=match e with
 |true=>1
 |false=>-1
theorem tP (e:Bool):sgn (!e)=-sgn e:=by cases e<;>rfl
theorem aYr (e:Bool):sgn e*sgn e=1:=by cases e<;>rfl
structure Leh (A B h X Y x y u0 u1 u2 v0 v1 v2:Nat) (e:Bool):Prop where
 fx:A/h=X
 fy:B/h=Y
 hh:0<h
 i1:v2*x+v1*y=X
 i2:u2*x+u1*y=Y
 s1:(x:Int)=-sgn e*(u1*X-v1*Y)
 s2:(y:Int)=sgn e*(u2*X-v2*Y)
 le2:u2<=v2
 les:u1+u2<=v1+v2
 pos:1<=v2
 yx:y<=x
 det:(u1:Int)*v2-u2*v1=-sgn e
 st:(e=false/\u0=0/\v0=0/\u1=1/\v1=0/\u2=0/\v2=1)\/((u0:Int)*v1-u1*v0=sgn e/\0<=-sgn e*(u1*A-v1*B)/\-sgn e*(u1*A-v1*B)<=B/\
  (v0=0\/(-sgn e*(u1*A-v1*B)<sgn e*(u0*A-v0*B)/\sgn e*(u0*A-v0*B)<=B)))
theorem Leh.start {A B h:Nat} (hh:0<h) (hAB:B<=A):Leh A B h (A/h) (B/h) (A/h) (B/h) 0 1 0 0 0 1 false:=by
 refine⟨U,U,hh,Uc,Uc,?_,?_,Uc,Uc,Uc,rC hAB,U,.inl ⟨U,U,U,U,U,U,U⟩⟩
 ·simp[sgn]
 simp[sgn]
theorem aSt {u v I β h:Int} (e:Bool) (hu:0<=u) (huv:u<=v) (ha:0<=I) (ha':I<=h-1) (hb:0<=β) (hb':β<=h-1):-(v*(h-1))<=sgn e*(u*I-v*β):=by
 have h1:u*I<=v*(h-1):=Int.le_trans (mC huv ha) (rD ha' oM)
 have h2:v*β<=v*(h-1):=rD hb' oM
 have h3:0<=u*I:=yP hu ha
 have h4:0<=v*β:=yP oM hb
 cases e<;>simp only[sgn]<;>omega
theorem Leh.bounds {A B h X Y x y u0 u1 u2 v0 v1 v2:Nat} {e:Bool} (H:Leh A B h X Y x y u0 u1 u2 v0 v1 v2 e) (hy:1<=y):v1+v2<=X/\u1+u2<=Y/\v2<=X/\u2<=Y:=by
 have h1:=H.i1
 have h2:=H.i2
 have hx:1<=x:=aJ hy H.yx
 have a1:=eJ v2 hx
 have a2:=eJ v1 hy
 have a3:=eJ u2 hx
 have a4:=eJ u1 hy
 omega
theorem Leh.step {A B h X Y x y u0 u1 u2 v0 v1 v2:Nat} {e:Bool} (H:Leh A B h X Y x y u0 u1 u2 v0 v1 v2 e) (c1:v2<=y) (c2:v1+v2<=x-y):
 Leh A B h X Y y (x%y) u1 u2 (u1+x/y*u2) v1 v2 (v1+x/y*v2) (!e)/\x%y<y/\v1+x/y*v2<=X/\u1+x/y*u2<=Y:=by
 have hy:1<=y:=aJ H.pos c1
 have hdm:=fG x y
 have hlt:=dG x hy
 have hx:=H.yx
 have hq:1<=x/y:=(Nat.one_le_div_iff hy).2 hx
 generalize hqq:x/y=q at*
 generalize hrr:x%y=r at*
 have hxr:(x:Int)=y*q+r:=by exact_mod_cast hdm.symm
 obtain⟨I,hα,hα1⟩:∃I:Int,(A:Int)=X*h+I/\0<=I/\I<=h-1:=by
  refine⟨(A%h:Nat),?_,Uc,by have:=dG A H.hh;omega⟩
  have:=fG A h
  rw[H.fx] at this
  rw[<-gQ,<-rK,bP,this]
 obtain⟨β,hβ,hβ1⟩:∃β:Int,(B:Int)=Y*h+β/\0<=β/\β<=h-1:=by
  refine⟨(B%h:Nat),?_,Uc,by have:=dG B H.hh;omega⟩
  have:=fG B h
  rw[H.fy] at this
  rw[<-gQ,<-rK,bP,this]
 have hhI:(1:Int)<=h:=by have:=H.hh;omega
 have n1:sgn e*(u2*A-v2*B)=y*h+sgn e*(u2*I-v2*β):=by
  rw[hα,hβ,H.s2]
  grind
 have n0:-sgn e*(u1*A-v1*B)-sgn e*(u2*A-v2*B)=(x-y)*h+sgn (!e)*((u1+u2)*I-(v1+v2)*β):=by
  rw[hα,hβ,tP]
  have t1:=H.s1
  have t2:=H.s2
  rw[Int.sub_mul,t1,t2]
  grind
 have l1:=aSt (u:=u2) (v:=v2) (I:=I) (β:=β) (h:=h) e oM (by have:=H.le2;omega) hα1.1 hα1.2 hβ1.1 hβ1.2
 have l0:=aSt (u:=u1+u2) (v:=v1+v2) (I:=I) (β:=β) (h:=h) (!e) oM (by have:=H.les;omega) hα1.1 hα1.2 hβ1.1 hβ1.2
 have m1:(v2:Int)*h<=y*h:=mC oM oM
 have m0:((v1:Int)+v2)*h<=(x-y)*h:=mC oM oM
 have e1:(v2:Int)*(h-1)=v2*h-v2:=by rw[yQ,yR]
 have e0:((v1:Int)+v2)*(h-1)=(v1+v2)*h-(v1+v2):=by rw[yQ,yR]
 have hp:=H.pos
 have p1:0<=sgn e*(u2*A-v2*B):=by rw[n1];omega
 have p0:sgn e*(u2*A-v2*B)< -sgn e*(u1*A-v1*B):=Uc
 have H':Leh A B h X Y y r u1 u2 (u1+q*u2) v1 v2 (v1+q*v2) (!e):=by
  refine⟨H.fx,H.fy,H.hh,?_,?_,?_,?_,?_,?_,?_,Uc,?_,?_⟩
  ·have:=H.i1;grind
  ·have:=H.i2;grind
  ·rw[tP,uB];exact H.s2
  ·have t1:=H.s1
   have t2:=H.s2
   rw[tP]
   have:(r:Int)=x-y*q:=Uc
   rw[this,t1]
   have t3:(y:Int)*q=sgn e*(u2*X-v2*Y)*q:=by rw[<-t2]
   rw[t3]
   push_cast
   grind
  ·have a:=H.le2
   have b:=H.les
   have c:=dM (q-1) a
   have d1:q*u2=(q-1)*u2+u2:=by rw[<-dH,oG,mL hq]
   have d2:q*v2=(q-1)*v2+v2:=by rw[<-dH,oG,mL hq]
   omega
  ·have a:=H.le2
   have b:=H.les
   have c:=dM (q-1) a
   have d1:q*u2=(q-1)*u2+u2:=by rw[<-dH,oG,mL hq]
   have d2:q*v2=(q-1)*v2+v2:=by rw[<-dH,oG,mL hq]
   omega
  ·have:=pU v2 hq
   omega
  ·have:=H.det
   rw[tP]
   push_cast
   grind
  right
  refine⟨by rw[tP];exact H.det,by rw[tP,uB];exact p1,?_,?_⟩
  ·rw[tP,uB]
   rcases H.st with ⟨he,_,_,_,_,hu2,hv2⟩|⟨_,_,h3,_⟩
   ·subst he hu2 hv2
    simp[sgn]
   omega
  rcases H.st with ⟨_,_,_,_,hv1,_,_⟩|⟨_,_,h3,_⟩
  ·exact .inl hv1
  right
  rw[tP,uB]
  exact⟨p0,h3⟩
 refine⟨H',hlt,?_,?_⟩
 ·have t:=H'.i1
  have:=eJ (v1+q*v2) hy
  omega
 have t:=H'.i2
 have:=eJ (u1+q*u2) hy
 omega
theorem Leh.fin {A B h X Y x y u0 u1 u2 v0 v1 v2:Nat} {e:Bool} (H:Leh A B h X Y x y u0 u1 u2 v0 v1 v2 e) (hv:v0≠0):
 (e=true->v0*B<=u0*A/\u1*A<=v1*B/\Nat.gcd (u0*A-v0*B) (v1*B-u1*A)=Nat.gcd A B/\v1*B-u1*A<u0*A-v0*B/\u0*A-v0*B<=B)/\
 (e=false->u0*A<=v0*B/\v1*B<=u1*A/\Nat.gcd (v0*B-u0*A) (u1*A-v1*B)=Nat.gcd A B/\u1*A-v1*B<v0*B-u0*A/\v0*B-u0*A<=B):=by
 rcases H.st with ⟨_,_,h,_⟩|⟨hd,h1,h2,h3⟩
 ·exact U4 h hv
 have h3:=h3.resolve_left hv
 have key:∀a b:Nat,(a:Int)=sgn e*(u0*A-v0*B)->(b:Int)=-sgn e*(u1*A-v1*B)->Nat.gcd a b=Nat.gcd A B:=by
  intro a b ha hb
  have k1:A=v1*a+v0*b:=by
   have:(A:Int)=v1*a+v0*b:=by
    rw[ha,hb]
    have:=aYr e
    have e2:(v1:Int)*(sgn e*(u0*A-v0*B))+v0*(-sgn e*(u1*A-v1*B))=sgn e*A*(u0*v1-u1*v0):=by grind
    rw[e2,hd]
    grind
   exact_mod_cast this
  have k2:B=u1*a+u0*b:=by
   have:(B:Int)=u1*a+u0*b:=by
    rw[ha,hb]
    have:=aYr e
    have e2:(u1:Int)*(sgn e*(u0*A-v0*B))+u0*(-sgn e*(u1*A-v1*B))=sgn e*B*(u0*v1-u1*v0):=by grind
    rw[e2,hd]
    grind
   exact_mod_cast this
  apply Nat.dvd_antisymm
  ·refine Nat.dvd_gcd ?_ ?_
   ·rw[k1];exact Nat.dvd_add (qN (kA a b) (oD ..)) (qN (pV a b) (oD ..))
   rw[k2];exact Nat.dvd_add (qN (kA a b) (oD ..)) (qN (pV a b) (oD ..))
  have hA:((Nat.gcd A B:Nat):Int)∣(A:Int):=mD.2 (kA A B)
  have hB:((Nat.gcd A B:Nat):Int)∣(B:Int):=mD.2 (pV A B)
  refine Nat.dvd_gcd ?_ ?_
  ·rw[<-mD,ha]
   exact oL (Int.dvd_sub (oL hA (mE ..)) (oL hB (mE ..))) (mE ..)
  rw[<-mD,hb]
  exact oL (Int.dvd_sub (oL hA (mE ..)) (oL hB (mE ..))) (mE ..)
 constructor
 ·intro he
  subst he
  simp only[sgn,uD,yS] at h1 h2 h3 key
  have c1:v0*B<=u0*A:=by
   have:(v0:Int)*B<=u0*A:=Uc
   exact_mod_cast this
  have c2:u1*A<=v1*B:=by
   have:(u1:Int)*A<=v1*B:=Uc
   exact_mod_cast this
  have w1:((u0*A-v0*B:Nat):Int)=u0*A-v0*B:=by rw[rL c1];push_cast;rfl
  have w2:((v1*B-u1*A:Nat):Int)=v1*B-u1*A:=by rw[rL c2];push_cast;rfl
  refine⟨c1,c2,key _ _ w1 (by rw[w2];omega),?_,?_⟩
  ·have:((v1*B-u1*A:Nat):Int)<((u0*A-v0*B:Nat):Int):=by rw[w1,w2];omega
   exact_mod_cast this
  have:((u0*A-v0*B:Nat):Int)<=(B:Int):=by rw[w1];omega
  exact_mod_cast this
 intro he
 subst he
 simp only[sgn,uD,yS,uB] at h1 h2 h3 key
 have c1:u0*A<=v0*B:=by
  have:(u0:Int)*A<=v0*B:=Uc
  exact_mod_cast this
 have c2:v1*B<=u1*A:=by
  have:(v1:Int)*B<=u1*A:=Uc
  exact_mod_cast this
 have w1:((v0*B-u0*A:Nat):Int)=v0*B-u0*A:=by rw[rL c1];push_cast;rfl
 have w2:((u1*A-v1*B:Nat):Int)=u1*A-v1*B:=by rw[rL c2];push_cast;rfl
 refine⟨c1,c2,key _ _ (by rw[w1];omega) w2,?_,?_⟩
 ·have:((u1*A-v1*B:Nat):Int)<((v0*B-u0*A:Nat):Int):=by rw[w1,w2];omega
  exact_mod_cast this
 have:((v0*B-u0*A:Nat):Int)<=(B:Int):=by rw[w1];omega
 exact_mod_cast this
theorem bHt {x:List Nat} {n s:Nat} (lm:Lm x) (hn:3<=n) (hl:x.length<=n) (hs:s<=31):val x/(4294967296^(n-3)*2^(32-s))=(dig x (n-1)*4294967296+dig x (n-2))*2^s+dig x (n-3)/2^(32-s):=by
 rw[<-fX,rW lm,nY,show n-3+1=n-2 by omega,nY x (n-2),show n-2+1=n-1 by omega,nY x (n-1),cK oM]
 have e:(4294967296:Nat)=2^(32-s)*2^s:=by rw[<-iW,show 32-s+s=32 by omega]
 have hp:0<2^(32-s):=gN dC
 simp only[val,pT,iS]
 have e2:dig x (n-3)+4294967296*(dig x (n-2)+4294967296*dig x (n-1))=dig x (n-3)+2^(32-s)*((dig x (n-1)*4294967296+dig x (n-2))*2^s):=by
  congr 1
  rw[iD (dig x (n-2)),bP 4294967296 (dig x (n-1)),bP ((dig x (n-1)*4294967296+dig x (n-2))) (2^s),<-bO,<-e]
 rw[e2,lF _ _ hp,iD]
theorem bHu {d1 d2 d3 s:Nat} (hs:s<=31) (h1:d1*2^s<4294967296) (h2:d2<4294967296) (h3:d3<4294967296):(d1*4294967296+d2)*2^s+d3/2^(32-s)<18446744073709551616/\(d1*4294967296+d2)*2^s<18446744073709551616/\d3/2^(32-s)<2^s:=by
 have e:(4294967296:Nat)=2^(32-s)*2^s:=by rw[<-iW,show 32-s+s=32 by omega]
 have hp:0<2^(32-s):=gN dC
 have h5:d3/2^(32-s)<2^s:=(fO hp).2 (by rw[bP,<-e];exact h3)
 have h4:(d1+1)*2^s<=4294967296:=by
  rw[e] at h1 ⊢
  exact aT _ (kH h1)
 have h6:(d1*4294967296+d2+1)*2^s<=18446744073709551616:=by
  have h7:(d1*4294967296+d2+1)*2^s<=((d1+1)*4294967296)*2^s:=aT _ oM
  have h8:((d1+1)*4294967296)*2^s=((d1+1)*2^s)*4294967296:=by rw[sX]
  omega
 rw[dE,iX] at h6
 generalize d3/2^(32-s)=r at*
 exact⟨Uc,Uc,h5⟩
theorem aSu {x:List Nat} {n:Nat} (lm:Lm x) (h1:1<=n) (hl:x.length<=n):dig x (n-1)=val x/4294967296^(n-1):=by
 rw[rW lm,nY,show n-1+1=n by omega,cK hl]
 simp[val]
theorem aYs {x y:List Nat} {n:Nat} (lx:Lm x) (ly:Lm y) (h1:1<=n) (hx:x.length<=n) (hy:y.length<=n) (h:val y<=val x):dig y (n-1)<=dig x (n-1):=by
 rw[aSu lx h1 hx,aSu ly h1 hy]
 exact rC h
end Go.Vm
namespace Go.Vm
theorem bPr (a b:Int):(dB (a+b).natAbs).length<=max (dB a.natAbs).length (dB b.natAbs).length+1:=
 aJ (fR (Int.natAbs_add_le a b)) (aAt _ _)
theorem aFe (a b:Int):(dB (a*b).natAbs).length<=(dB a.natAbs).length+(dB b.natAbs).length:=by
 rw[jL];exact nF _ _
theorem aWo {a b:Int}:(Rat.divInt a b).num.natAbs<=a.natAbs:=by
 rw[sZ]
 refine aJ (tI _ _) ?_
 rw[jL]
 have:b.sign.natAbs<=1:=by
  rcases uE b 0 with h|h|h
  ·rw[tA h];decide
  ·rw[h];decide
  rw[pW h];decide
 calc b.sign.natAbs*a.natAbs<=1*a.natAbs:=aT _ this
  _=a.natAbs:=iX _
theorem aHh {a b:Int}:(Rat.divInt a b).den<=b.natAbs\/(Rat.divInt a b).den=1:=by
 rw[yT]
 split
 ·exact .inr rfl
 exact .inl (iE _ _)
theorem bHv:(dB 1).length=1:=rfl
theorem zZ {a b:Int}:(dB (Rat.divInt a b).num.natAbs).length<=(dB a.natAbs).length:=fR aWo
theorem aAa {a b:Int}:(dB (Rat.divInt a b).den).length<=max (dB b.natAbs).length 1:=by
 rcases aHh (a:=a) (b:=b) with h|h
 ·have h2:(dB (Rat.divInt a b).den).length<=(dB b.natAbs).length:=fR h
  omega
 rw[h,bHv];omega
end Go.Vm
namespace Go.Vm
theorem aNg {zx zy:Int} (h:zy≠0):(zy/((Int.gcd zx zy:Nat):Int)<0->(Rat.divInt zx zy).num=-(zx/((Int.gcd zx zy:Nat):Int))/\(Rat.divInt zx zy).den=(-(zy/((Int.gcd zx zy:Nat):Int))).natAbs)/\
 (¬zy/((Int.gcd zx zy:Nat):Int)<0->(Rat.divInt zx zy).num=zx/((Int.gcd zx zy:Nat):Int)/\(Rat.divInt zx zy).den=(zy/((Int.gcd zx zy:Nat):Int)).natAbs):=by
 have hg:0<Int.gcd zx zy:=rM _ h
 have hd1:((Int.gcd zx zy:Nat):Int)∣zx:=Int.gcd_dvd_left ..
 have hd2:((Int.gcd zx zy:Nat):Int)∣zy:=Int.gcd_dvd_right ..
 rw[sZ,yT,U2 h,Int.gcd_comm zy zx]
 obtain⟨a,ha⟩:=hd1
 obtain⟨b,hb⟩:=hd2
 generalize Int.gcd zx zy=g at*
 have hg':(g:Int)≠0:=Uc
 have e1:zx/(g:Int)=a:=by rw[ha,jG _ hg']
 have e2:zy/(g:Int)=b:=by rw[hb,jG _ hg']
 have e3:zy.natAbs/g=b.natAbs:=by rw[hb,jL,dX,Nat.mul_div_cancel_left _ hg]
 rw[e1,e2,e3]
 constructor
 ·intro hn
  have hz:zy<0:=by rw[hb];exact tJ oM hn
  rw[tA hz]
  refine⟨?_,by rw[tB]⟩
  rw[ha,show(-1:Int)*((g:Int)*a)=(g:Int)*(-a) by rw[Int.neg_one_mul,yU],jG _ hg']
 intro hn
 have hb0:0<b:=by
  rcases uE b 0 with h1|h1|h1
  ·exact U4 h1 hn
  ·rw[h1,Int.mul_zero] at hb;exact U4 hb h
  exact h1
 have hz:0<zy:=by rw[hb];exact yV oM hb0
 rw[pW hz,uD,ha,jG _ hg']
 exact⟨U,U⟩
theorem vT (z:Int):(Rat.divInt z 1).num=z/\(Rat.divInt z 1).den=1:=by
 rw[sZ,yT]
 simp
theorem aFf (a b:Rat):Rat.divInt (a.num*(b.den:Int)+b.num*(a.den:Int)) ((a.den:Int)*(b.den:Int))=a+b:=by
 have h1:(a.den:Int)≠0:=by have:=a.den_nz;omega
 have h2:(b.den:Int)≠0:=by have:=b.den_nz;omega
 rw[<-nE _ _ h1 h2,jC,jC]
theorem aNh (a b:Rat):Rat.divInt (a.num*b.num) ((a.den:Int)*(b.den:Int))=a*b:=by
 rw[<-qE,jC,jC]
theorem aYt (a:Rat):Rat.divInt (-a.num) (a.den:Int)=-a:=by
 rw[<-yW,jC]
theorem aNi (a b:Rat):Rat.divInt (a.num*(b.den:Int)) ((a.den:Int)*b.num)=a/b:=by
 rw[iJ,Rat.inv_def,<-qE,jC]
theorem bHw (z:Int):Rat.divInt z 1=(z:Rat):=by
 apply Rat.ext
 ·rw[(vT z).1];rfl
 rw[(vT z).2];rfl
theorem aSv (q:Rat):1<=(dB q.den).length:=by
 have h:=oH (n:=q.den)
 unfold len at h
 have:=q.den_nz
 omega
end Go.Vm
namespace Go.Vm
theorem aJf {z:Int} {d:Nat} (hd:d≠0):(Rat.divInt z (d:Int)).num.natAbs=z.natAbs/Nat.gcd z.natAbs d/\(Rat.divInt z (d:Int)).den=d/Nat.gcd z.natAbs d/\((Rat.divInt z (d:Int)).num<0↔z<0):=by
 have hz:(d:Int)≠0:=Uc
 have hlaw:=(aNg (zx:=z) hz).2
 have hg:Int.gcd z (d:Int)=Nat.gcd z.natAbs d:=rfl
 rw[hg] at hlaw
 have hgp:0<Nat.gcd z.natAbs d:=oN _ oM
 have hn:¬((d:Int)/((Nat.gcd z.natAbs d:Nat):Int)<0):=by
  have:=Int.ediv_nonneg (a:=(d:Int)) (b:=((Nat.gcd z.natAbs d:Nat):Int)) oM oM
  omega
 obtain⟨h1,h2⟩:=hlaw hn
 have hdv:((Nat.gcd z.natAbs d:Nat):Int)∣z:=Int.ofNat_dvd_left.2 (kA _ _)
 refine⟨?_,?_,?_⟩
 ·rw[h1,Int.natAbs_ediv_of_dvd hdv,dX]
 ·rw[h2,<-vO,dX]
 rw[h1]
 obtain⟨k,hk⟩:=hdv
 generalize hG:((Nat.gcd z.natAbs d:Nat):Int)=G at*
 have hGp:0<G:=Uc
 rw[hk,jG _ oM]
 constructor
 ·intro h;exact tJ hGp h
 intro h
 rcases Int.lt_or_le k 0 with h3|h3
 ·exact h3
 have:=yP (wU hGp) h3;omega
theorem bWg {a b:Int} (ha:-2147483648<a/\a<2147483648) (hb:-2147483648<b/\b<2147483648):-4611686018427387904<a*b/\a*b<4611686018427387904:=by
 have h:(a*b).natAbs<=2147483647*2147483647:=by rw[jL];exact gB oM oM
 omega
theorem aFg {a b c d:Int} {p q:Rat} (hc:0<c) (hd:0<d) (h1:Rat.divInt a c=p) (h2:Rat.divInt b d=q):Rat.divInt (a*d+b*c) (c*d)=p+q:=by
 rw[<-h1,<-h2,nE _ _ oM oM]
theorem aFh {a b c d:Int} {p q:Rat} (h1:Rat.divInt a c=p) (h2:Rat.divInt b d=q):Rat.divInt (a*b) (c*d)=p*q:=by
 rw[<-h1,<-h2,qE]
theorem aWp {a b c:Int} {p q:Rat} (hc:c≠0) (h1:Rat.divInt a c=p) (h2:Rat.divInt b c=q):Rat.divInt (a+b) c=p+q:=by
 rw[<-h1,<-h2,nE _ _ hc hc,<-Int.add_mul,Rat.divInt_mul_right hc]
theorem aYu {a:Int} {c:Int} (hc:0<c):(Rat.divInt a c<0↔a<0):=by
 have h:=aJf (z:=a) (d:=c.natAbs) oM
 rw[show((c.natAbs:Nat):Int)=c by omega] at h
 rw[<-h.2.2]
 have:=Rat.num_nonneg (q:=Rat.divInt a c)
 constructor
 ·intro h1
  rcases Int.lt_or_le (Rat.divInt a c).num 0 with h2|h2
  ·exact h2
  have:=this.1 h2;grind
 intro h1
 rcases Rat.le_total (a:=0) (b:=Rat.divInt a c) with h2|h2
 ·have:=this.2 h2;omega
 rcases Classical.em (Rat.divInt a c=0) with h3|h3
 ·rw[h3] at h1;exact U4 h1 dC
 grind
theorem aSw {a b c d:Int} {p q:Rat} (hc:0<c) (hd:0<d) (h1:Rat.divInt a c=p) (h2:Rat.divInt b d=q):(a*d<b*c↔p<q):=by
 have h3:Rat.divInt (-b) d=-q:=by rw[<-yW,h2]
 have h4:=aFg hc hd h1 h3
 have h5:=aYu (a:=a*d+ -b*c) (c:=c*d) (yV hc hd)
 rw[h4] at h5
 rw[yS] at h5
 constructor
 ·intro h;have:=h5.2 oM;grind
 intro h;have:=h5.1 (by grind);omega
theorem aYv (p q:Rat):(dB (p+q).num.natAbs).length<=max ((dB p.num.natAbs).length+(dB q.den).length) ((dB q.num.natAbs).length+(dB p.den).length)+1/\(dB (p+q).den).length<=(dB p.den).length+(dB q.den).length:=by
 rw[<-aFf p q]
 have h1:=zZ (a:=p.num*(q.den:Int)+q.num*(p.den:Int)) (b:=(p.den:Int)*(q.den:Int))
 have h2:=aAa (a:=p.num*(q.den:Int)+q.num*(p.den:Int)) (b:=(p.den:Int)*(q.den:Int))
 have h3:=bPr (p.num*(q.den:Int)) (q.num*(p.den:Int))
 have h4:=aFe p.num (q.den:Int)
 have h5:=aFe q.num (p.den:Int)
 have h6:=aFe (p.den:Int) (q.den:Int)
 have h7:=aSv p
 rw[dX] at h4 h5
 rw[dX,dX] at h6
 exact⟨Uc,Uc⟩
theorem aYw (p q:Rat):(dB (p*q).num.natAbs).length<=(dB p.num.natAbs).length+(dB q.num.natAbs).length/\(dB (p*q).den).length<=(dB p.den).length+(dB q.den).length:=by
 rw[<-aNh p q]
 have h1:=zZ (a:=p.num*q.num) (b:=(p.den:Int)*(q.den:Int))
 have h2:=aAa (a:=p.num*q.num) (b:=(p.den:Int)*(q.den:Int))
 have h4:=aFe p.num q.num
 have h6:=aFe (p.den:Int) (q.den:Int)
 have h7:=aSv p
 rw[dX,dX] at h6
 exact⟨Uc,Uc⟩
abbrev En:Type:=Int×Rat
def get:List En->Int->Rat
 |[],_=>0
 |e::es,i=>(if e.1=i then e.2 else 0)+get es i
def Asc (es:List En):Prop:=es.Pairwise λa b=>a.1<b.1
def aHi (es:List En):Prop:=∀e∈es,e.2≠0
theorem get_append (a b:List En) (i:Int):get (a++b) i=get a i+get b i:=by
 induction a with
 |nil=>rw[mX];show get b i=0+get b i;rw[fY]
 |cons e a ih=>show _+get (a++b) i=_+get a i+get b i;rw[ih,oO]
theorem get_perm {a b:List En} (h:a.Perm b) (i:Int):get a i=get b i:=by
 induction h with
 |nil=>rfl
 |cons e h ih=>show _+_=_+_;rw[ih]
 |swap x y l=>
  show(if y.1=i then y.2 else 0)+((if x.1=i then x.2 else 0)+get l i)=(if x.1=i then x.2 else 0)+((if y.1=i then y.2 else 0)+get l i)
  rw[<-oO,<-oO,Rat.add_comm (if y.1=i then y.2 else 0)]
 |trans h1 h2 a b=>rw[a,b]
theorem get_none {a:List En} {i:Int} (h:∀e∈a,e.1≠i):get a i=0:=by
 induction a with
 |nil=>rfl
 |cons e a ih=>
  show(if e.1=i then e.2 else 0)+get a i=0
  rw[U2 (h e (by simp)),ih (λe he=>h e (by simp[he])),bK]
theorem Asc.tail {e:En} {a:List En} (h:Asc (e::a)):Asc a:=(tC.1 h).2
theorem Asc.head {e:En} {a:List En} (h:Asc (e::a)):∀x∈a,e.1<x.1:=(tC.1 h).1
theorem get_head {e:En} {a:List En} (h:Asc (e::a)):get (e::a) e.1=e.2:=by
 show(if e.1=e.1 then e.2 else 0)+get a e.1=e.2
 rw[U3 U,get_none (λx hx=>by have:=h.head x hx;omega),bK]
theorem oZ {a:List En} {i:Int} (h:∀x∈a,i<x.1):get a i=0:=get_none λe he=>by have:=h e he;omega
theorem jW {e:En} {a:List En} {i:Int} (h:e.1≠i):get (e::a) i=get a i:=by
 show(if e.1=i then e.2 else 0)+get a i=get a i
 rw[U2 h,fY]
theorem canon_ext:∀(a b:List En),Asc a->Asc b->aHi a->aHi b->(∀i,get a i=get b i)->a=b
 |[],[],_,_,_,_,_=>rfl
 |[],y::b,_,hb,_,zb,h=>by have:=h y.1;rw[get_head hb] at this;exact U4 this.symm (zb y (by simp))
 |x::a,[],ha,_,za,_,h=>by have:=h x.1;rw[get_head ha] at this;exact U4 this (za x (by simp))
 |x::a,y::b,ha,hb,za,zb,h=>by
  have hx:=h x.1
  have hy:=h y.1
  rw[get_head ha] at hx
  rw[get_head hb] at hy
  have hxy:x.1=y.1:=by
   rcases uE x.1 y.1 with h1|h1|h1
   ·rw[oZ (a:=y::b) (λz hz=>by rcases bW.1 hz with rfl|hz;exact h1;exact jH h1 (hb.head z hz))] at hx
    exact U4 hx (za x (by simp))
   ·exact h1
   rw[oZ (a:=x::a) (λz hz=>by rcases bW.1 hz with rfl|hz;exact h1;exact jH h1 (ha.head z hz))] at hy
   exact U4 hy.symm (zb y (by simp))
  have e1:x.2=y.2:=by rw[hx,hxy,get_head hb]
  have e2:x=y:=Prod.ext hxy e1
  subst e2
  congr 1
  refine canon_ext a b ha.tail hb.tail (λe he=>za e (by simp[he])) (λe he=>zb e (by simp[he])) λi=>?_
  by_cases hi:x.1=i
  ·subst hi
   rw[oZ ha.head,oZ hb.head]
  have:=h i
  rwa [jW hi,jW hi] at this
inductive Stp:List En->List En->Int->Rat->Rat->List En->List En->Prop
 |l (x:En) (a:List En):Stp (x::a) [] x.1 x.2 0 a []
 |r (y:En) (b:List En):Stp [] (y::b) y.1 0 y.2 [] b
 |eq (x y:En) (a b:List En) (h:x.1=y.1):Stp (x::a) (y::b) x.1 x.2 y.2 a b
 |lt (x y:En) (a b:List En) (h:x.1<y.1):Stp (x::a) (y::b) x.1 x.2 0 a (y::b)
 |gt (x y:En) (a b:List En) (h:y.1<x.1):Stp (x::a) (y::b) y.1 0 y.2 (x::a) b
theorem Stp.law {a b a' b':List En} {i:Int} {p q:Rat} (h:Stp a b i p q a' b') (ha:Asc a) (hb:Asc b):
 Asc a'/\Asc b'/\(∀e∈a',i<e.1)/\(∀e∈b',i<e.1)/\get a i=p/\get b i=q/\(∀j,j≠i->get a j=get a' j/\get b j=get b' j)/\a'.length+b'.length<a.length+b.length/\(∀z,(∀e∈a,z<e.1)->(∀e∈b,z<e.1)->z<i):=by
 cases h with
 |l x=>exact⟨ha.tail,hb,ha.head,by simp,get_head ha,U,λj hj=>⟨jW (gU hj),U⟩,by simp,λz h1 _=>h1 x (by simp)⟩
 |r y=>exact⟨ha,hb.tail,by simp,hb.head,U,get_head hb,λj hj=>⟨U,jW (gU hj)⟩,by simp,λz _ h1=>h1 y (by simp)⟩
 |eq x y a b h=>exact⟨ha.tail,hb.tail,ha.head,by rw[h];exact hb.head,get_head ha,by rw[h];exact get_head hb,λj hj=>⟨jW (gU hj),jW (by rw[<-h];exact gU hj)⟩,by simp;omega,λz h1 _=>h1 x (by simp)⟩
 |lt x y a b h=>exact⟨ha.tail,hb,ha.head,λe he=>by rcases bW.1 he with rfl|he;exact h;exact jH h (hb.head e he),get_head ha,oZ (λe he=>by rcases bW.1 he with rfl|he;exact h;exact jH h (hb.head e he)),λj hj=>⟨jW (gU hj),U⟩,by simp,λz h1 _=>h1 x (by simp)⟩
 |gt x y a b h=>exact⟨ha,hb.tail,λe he=>by rcases bW.1 he with rfl|he;exact h;exact jH h (ha.head e he),hb.head,oZ (λe he=>by rcases bW.1 he with rfl|he;exact h;exact jH h (ha.head e he)),get_head hb,λj hj=>⟨U,jW (gU hj)⟩,by simp,λz _ h1=>h1 y (by simp)⟩
def aNj:List (Rat×Rat)->Rat
 |[]=>0
 |x::l=>x.1*x.2+aNj l
def dtF:List En->List En->Rat
 |[],_=>0
 |e::a,b=>e.2*get b e.1+dtF a b
theorem aWq (l:List (Rat×Rat)) (p q:Rat):aNj (l++[(p,q)])=aNj l+p*q:=by
 induction l with
 |nil=>show p*q+0=0+p*q;rw[bK,fY]
 |cons x l ih=>show _+aNj (l++[(p,q)])=_+aNj l+p*q;rw[ih,oO]
theorem aWr {a b b':List En} (h:∀e∈a,get b e.1=get b' e.1):dtF a b=dtF a b':=by
 induction a with
 |nil=>rfl
 |cons e a ih=>show _*_+_=_*_+_;rw[h e (by simp),ih (λe he=>h e (by simp[he]))]
theorem Stp.dt {a b a' b':List En} {i:Int} {p q:Rat} (h:Stp a b i p q a' b') (ha:Asc a) (hb:Asc b):dtF a b=p*q+dtF a' b':=by
 obtain⟨h1,h2,h3,h4,h5,h6,h7,_⟩:=h.law ha hb
 have hc:dtF a' b=dtF a' b':=aWr λe he=>(h7 e.1 (by have:=h3 e he;omega)).2
 cases h with
 |l x=>show x.2*get [] x.1+dtF a' []=x.2*0+dtF a' [];rfl
 |r y=>show(0:Rat)=0*y.2+0;rw[dL,bK]
 |eq x y=>show x.2*get (y::b') x.1+dtF a' (y::b')=_;rw[h6,hc]
 |lt x y=>show x.2*get (y::_) x.1+dtF a' (y::_)=_;rw[h6]
 |gt x y=>rw[hc,dL,fY]
structure Mg (op:Rat->Rat->Rat) (a0 b0 a b rs:List En) (ps:List (Rat×Rat)):Prop where
 aa:Asc a
 ab:Asc b
 ar:Asc rs
 nz:aHi rs
 lo:∀e∈rs,(∀x∈a,e.1<x.1)/\(∀x∈b,e.1<x.1)
 gt:∀j,(get a j=get a0 j/\get b j=get b0 j/\get rs j=0)\/(get a j=0/\get b j=0/\get rs j=op (get a0 j) (get b0 j)/\(∀x∈a,j<x.1)/\(∀x∈b,j<x.1))
 dt:aNj ps+dtF a b=dtF a0 b0
theorem aDo {rs:List En} {i j:Int} {q:Rat} (h:j≠i):get (rs++[(i,q)]) j=get rs j:=by
 rw[get_append];show get rs j+((if i=j then q else 0)+0)=get rs j
 rw[U2 (gU h),bK,bK]
theorem aNk {rs:List En} {i:Int} {q:Rat} (h:get rs i=0):get (rs++[(i,q)]) i=q:=by
 rw[get_append,h];show 0+((if i=i then q else 0)+0)=q
 rw[U3 U,bK,fY]
theorem Mg.start {op:Rat->Rat->Rat} {a b:List En} (ha:Asc a) (hb:Asc b):Mg op a b a b [] []:=
 ⟨ha,hb,List.Pairwise.nil,(λ_ h=>by cases h),(λ_ h=>by cases h),λ_=> .inl ⟨U,U,U⟩,by show 0+_=_;rw[fY]⟩
theorem Mg.step {op:Rat->Rat->Rat} {a0 b0 a b rs a' b':List En} {ps:List (Rat×Rat)} {i:Int} {p q:Rat} (H:Mg op a0 b0 a b rs ps) (h:Stp a b i p q a' b'):
 (op p q=0->Mg op a0 b0 a' b' rs (ps++[(p,q)]))/\(op p q≠0->Mg op a0 b0 a' b' (rs++[(i,op p q)]) (ps++[(p,q)])):=by
 obtain⟨h1,h2,h3,h4,h5,h6,h7,h8,h9⟩:=h.law H.aa H.ab
 have hlo:∀e∈rs,e.1<i:=λe he=>h9 e.1 (H.lo e he).1 (H.lo e he).2
 have hri:get rs i=0:=get_none λe he=>by have:=hlo e he;omega
 have ga':get a' i=0:=oZ h3
 have gb':get b' i=0:=oZ h4
 have hi':get a0 i=p/\get b0 i=q:=by
  rcases H.gt i with ⟨g1,g2,g3⟩|⟨g1,g2,g3,g4,g5⟩
  ·exact⟨by rw[<-g1,h5],by rw[<-g2,h6]⟩
  have:=h9 i g4 g5
  omega
 have sub:∀e∈rs,(∀x∈a',e.1<x.1)/\(∀x∈b',e.1<x.1):=λe he=>⟨λx hx=>jH (hlo e he) (h3 x hx),λx hx=>jH (hlo e he) (h4 x hx)⟩
 have low:∀j,(∀x∈a,j<x.1)->(∀x∈b,j<x.1)->(∀x∈a',j<x.1)/\(∀x∈b',j<x.1):=λj g4 g5=>by
  have:=h9 j g4 g5
  exact⟨λx hx=>jH this (h3 x hx),λx hx=>jH this (h4 x hx)⟩
 have hdt:aNj (ps++[(p,q)])+dtF a' b'=dtF a0 b0:=by rw[aWq,oO,<-h.dt H.aa H.ab];exact H.dt
 constructor
 ·intro hz
  refine⟨h1,h2,H.ar,H.nz,sub,λj=>?_,hdt⟩
  by_cases hj:j=i
  ·subst hj
   exact .inr ⟨ga',gb',by rw[hri,hi'.1,hi'.2,hz],h3,h4⟩
  obtain⟨e1,e2⟩:=h7 j hj
  rcases H.gt j with ⟨g1,g2,g3⟩|⟨g1,g2,g3,g4,g5⟩
  ·exact .inl ⟨by rw[<-e1,g1],by rw[<-e2,g2],g3⟩
  exact .inr ⟨by rw[<-e1,g1],by rw[<-e2,g2],g3,(low j g4 g5).1,(low j g4 g5).2⟩
 intro hz
 refine⟨h1,h2,eR.2 ⟨H.ar,by simp,λx hx y hy=>by rw[aE.1 hy];exact hlo x hx⟩,λe he=>?_,λe he=>?_,λj=>?_,hdt⟩
 ·rcases aO.1 he with he|he
  ·exact H.nz e he
  rw[aE.1 he];exact hz
 ·rcases aO.1 he with he|he
  ·exact sub e he
  rw[aE.1 he];exact⟨h3,h4⟩
 by_cases hj:j=i
 ·subst hj
  exact .inr ⟨ga',gb',by rw[aNk hri,hi'.1,hi'.2],h3,h4⟩
 obtain⟨e1,e2⟩:=h7 j hj
 rcases H.gt j with ⟨g1,g2,g3⟩|⟨g1,g2,g3,g4,g5⟩
 ·exact .inl ⟨by rw[<-e1,g1],by rw[<-e2,g2],by rw[aDo hj,g3]⟩
 exact .inr ⟨by rw[<-e1,g1],by rw[<-e2,g2],by rw[aDo hj,g3],(low j g4 g5).1,(low j g4 g5).2⟩
theorem Mg.fin {op:Rat->Rat->Rat} {a0 b0 rs:List En} {ps:List (Rat×Rat)} (H:Mg op a0 b0 [] [] rs ps) (h0:op 0 0=0):Asc rs/\aHi rs/\∀i,get rs i=op (get a0 i) (get b0 i):=by
 refine⟨H.ar,H.nz,λi=>?_⟩
 rcases H.gt i with ⟨g1,g2,g3⟩|⟨g1,g2,g3,_⟩
 ·rw[g3,<-g1,<-g2];exact h0.symm
 exact g3
theorem Mg.sum {op:Rat->Rat->Rat} {a0 b0 rs:List En} {ps:List (Rat×Rat)} (H:Mg op a0 b0 [] [] rs ps):aNj ps=dtF a0 b0:=by
 rw[<-H.dt];show _=_+0;rw[bK]
end Go.Vm
namespace Go.Vy
open Go.Vg Go.RowKit
inductive CV where
 |u
 |v (x:Value)
 |h (A:Option Nat) (n c:Nat)
 |hp (b o:Nat)
 |b (p:Prop) (h:Decidable p)
 |p (i o:Nat)
 |s (i n:Nat)
 |r (A:Option Addr) (n c esz:Nat) (get:Nat->List CV)
 |q (A:Option Addr) (n c esz:Nat) (get:Nat->List CV) (j o:Nat)
 |t (i o n:Nat)
 |f (k:Nat) (fi ca:List (Nat×Nat))
inductive DV where
 |c (x:CV)
 |a (l:List CV)
 |t (l:List DV)
inductive Rc (Z:Nat->Prop) (w:World):CV->Value->Prop
 |u (x:Value):Rc Z w .u x
 |v (x:Value):Rc Z w (.v x) x
 |h (A:Option Nat) (n c:Nat):Rc Z w (.h A n c) (.slice (A.map λb=>⟨b,0,none⟩) n c)
 |hp (b o:Nat):Rc Z w (.hp b o) (.pointer (some ⟨b,o,none⟩))
 |b (p:Prop) (h:Decidable p):Rc Z w (.b p h) (.bool (@decide p h))
 |nil (A:Option Addr) (c esz:Nat) (get:Nat->List CV) (hm:c<=maxLen):Rc Z w (.r A 0 c esz get) (.slice A 0 c)
 |r (b o n c esz:Nat) (get:Nat->List CV) (V:Nat->List Value) (hc:n<=c) (hm:c<=maxLen) (hZ:Z b)
    (hcell:∀(j:Nat),j<n->∀(i:Nat) (u:Value),(V j)[i]? =some u->w.cell? ⟨b,o+j*esz+i,none⟩=some u/\u.oneCell'=true)
    (hlen:∀j,j<n->(V j).length=(get j).length)
    (hel:∀(j:Nat),j<n->∀(i:Nat) (c':CV) (u:Value),(get j)[i]? =some c'->(V j)[i]? =some u->Rc Z w c' u):
    Rc Z w (.r (some ⟨b,o,none⟩) n c esz get) (.slice (some ⟨b,o,none⟩) n c)
theorem zW {w w':World} {b o:Nat} (h:w'.heap[b]? =w.heap[b]?):w'.cell? ⟨b,o,none⟩=w.cell? ⟨b,o,none⟩:=by
 unfold World.cell?
 simp only[h]
theorem Rc.mono {Z Z':Nat->Prop} {w w':World} {c:CV} {x:Value} (h:Rc Z w c x) (hZ:∀b,Z b->Z' b/\w'.heap[b]? =w.heap[b]?):Rc Z' w' c x:=by
 induction h with
 |u x=>exact .u x
 |v x=>exact .v x
 |h A n c=>exact .h A n c
 |hp b o=>exact .hp b o
 |b p h=>exact .b p h
 |nil A c esz get hm=>exact .nil A c esz get hm
 |r b o n c esz get V hc hm hZb hcell hlen hel ih=>
  refine .r b o n c esz get V hc hm (hZ b hZb).1 (λj hj i u hu=>?_) hlen ih
  have h1:=hcell j hj i u hu
  rw[zW (hZ b hZb).2]
  exact h1
structure Fam where
 T:TypeId
 es:Nat
 N:Nat
 A:Nat->Option Nat
 cap:Nat->Nat
 get:Nat->List CV
structure Pl where
 at':Nat->Option Nat×Nat
 Z:Nat->Prop
 F:List Fam
def InL (l:List Fam) (b:Nat):Prop:=∃F∈l,∃j,j<F.N/\F.A j=some b
abbrev InF (D:Pl) (b:Nat):Prop:=InL D.F b
instance:CoeFun Pl (λ_=>Nat->Option Nat×Nat):=⟨Pl.at'⟩
structure Zf (D:Pl) (n:Nat) (w:World) (b:Nat):Prop where
 lt:b<w.heap.size
 no:∀i,i<n->(D i).1≠some b
 z:D.Z b
 nf:¬InF D b
def ptr (D:Pl) (p:Nat×Nat):Value:=.pointer ((D p.1).1.map λb=>⟨b,p.2,none⟩)
def Hc (D:Pl) (n:Nat) (w:World):CV->Value->Prop
 |.p i o,x=>i<n/\∃b,(D i).1=some b/\x= .pointer (some ⟨b,o,none⟩)
 |.s i m,x=>i<n/\x= .slice ((D i).1.map λb=>⟨b,0,none⟩) m (D i).2
 |.q A m c esz get j o,x=>Rc (Zf D n w) w (.r A m c esz get) (.slice A m c)/\j<m/\∃b o',A=some ⟨b,o',none⟩/\x= .pointer (some ⟨b,o'+j*esz+o,none⟩)
 |.t i o m,x=>i<n/\∃A c,m<=c/\c<=maxLen/\x= .slice A m c/\(m=0\/∃b,(D i).1=some b/\A=some ⟨b,o,none⟩)
 |.f k fi ca,x=>(∀p∈fi++ca,p.1<n/\(D p.1).1≠none)/\x= .func (.func k) (fi.map (ptr D)).toArray (ca.map (ptr D)).toArray
 |c,x=>Rc (Zf D n w) w c x
def Hl (D:Pl) (n:Nat) (w:World):List CV->List Value->Prop
 |[],[]=>True
 |c::l,x::m=>Hc D n w c x/\Hl D n w l m
 |_,_=>False
inductive Hd (D:Pl) (n:Nat) (w:World):DV->Value->Prop
 |c {c:CV} {x:Value} (h:Hc D n w c x):Hd D n w (.c c) x
 |a {l:List CV} {vl:List Value} (h:Hl D n w l vl):Hd D n w (.a l) (.agg vl.toArray)
 |t {l:List DV} {vl:List Value} (h:l.length=vl.length) (hh:∀(i:Nat) (d:DV) (u:Value),l[i]? =some d->vl[i]? =some u->Hd D n w d u):Hd D n w (.t l) (.tuple vl.toArray)
section rel
variable {D ρ':Pl} {n n':Nat} {w w':World}
structure Kp (D:Pl) (n:Nat) (w:World) (ρ':Pl) (n':Nat) (w':World):Prop where
 le:n<=n'
 pl:∀i,i<n->ρ' i=D i
 z:∀b,Zf D n w b->Zf ρ' n' w' b/\w'.heap[b]? =w.heap[b]?
theorem Hc.kp {c:CV} {x:Value} (h:Hc D n w c x) (k:Kp D n w ρ' n' w'):Hc ρ' n' w' c x:=by
 cases c with
 |p i o=>obtain⟨h1,b,h2,h3⟩:=h;exact⟨bM h1 k.le,b,by rw[k.pl i h1];exact h2,h3⟩
 |s i m=>obtain⟨h1,h2⟩:=h;exact⟨bM h1 k.le,by rw[k.pl i h1];exact h2⟩
 |q A m c esz get j o=>obtain⟨h1,h2⟩:=h;exact⟨h1.mono k.z,h2⟩
 |t i o m=>obtain⟨h1,h2⟩:=h;exact⟨bM h1 k.le,by rw[k.pl i h1];exact h2⟩
 |f q fi ca=>
  obtain⟨h1,h2⟩:=h
  refine⟨λp hp=>⟨bM (h1 p hp).1 k.le,by rw[k.pl p.1 (h1 p hp).1];exact(h1 p hp).2⟩,h2.trans ?_⟩
  have e:∀p∈fi++ca,ptr D p=ptr ρ' p:=λp hp=>by unfold ptr;rw[k.pl p.1 (h1 p hp).1]
  rw[dR λp hp=>e p (cX _ hp),dR λp hp=>e p (dU _ hp)]
 |u=>exact Rc.mono h k.z
 |v x=>exact Rc.mono h k.z
 |h A n c=>exact Rc.mono h k.z
 |hp b o=>exact Rc.mono h k.z
 |b p q=>exact Rc.mono h k.z
 |r A m c esz get=>exact Rc.mono h k.z
theorem Hl.kp {l:List CV} {m:List Value} (h:Hl D n w l m) (k:Kp D n w ρ' n' w'):Hl ρ' n' w' l m:=by
 induction l generalizing m with
 |nil=>cases m with
  |nil=>trivial
  |cons x m=>exact h
 |cons c l ih=>cases m with
  |nil=>exact h
  |cons x m=>exact⟨h.1.kp k,ih h.2⟩
theorem Hd.kp {d:DV} {x:Value} (h:Hd D n w d x) (k:Kp D n w ρ' n' w'):Hd ρ' n' w' d x:=by
 induction h with
 |c h=>exact .c (h.kp k)
 |a h=>exact .a (h.kp k)
 |t h hh ih=>exact .t h ih
theorem Hl.len {l:List CV} {m:List Value} (h:Hl D n w l m):l.length=m.length:=by
 induction l generalizing m with
 |nil=>cases m with
  |nil=>rfl
  |cons x m=>exact h.elim
 |cons c l ih=>cases m with
  |nil=>exact h.elim
  |cons x m=>simp only[eG,ih h.2]
theorem Hl.get {l:List CV} {m:List Value} (h:Hl D n w l m) {i:Nat} {c:CV} (hi:l[i]? =some c):∃x,m[i]? =some x/\Hc D n w c x:=by
 induction l generalizing m i with
 |nil=>cases hi
 |cons a l ih=>cases m with
  |nil=>exact h.elim
  |cons x m=>cases i with
   |zero=>injection hi with hi;subst hi;exact⟨x,U,h.1⟩
   |succ i=>exact ih h.2 hi
theorem Hl.append {l l2:List CV} {m m2:List Value} (h:Hl D n w l m) (h2:Hl D n w l2 m2):Hl D n w (l++l2) (m++m2):=by
 induction l generalizing m with
 |nil=>cases m with
  |nil=>exact h2
  |cons x m=>exact h.elim
 |cons c l ih=>cases m with
  |nil=>exact h.elim
  |cons x m=>exact⟨h.1,ih h.2⟩
theorem Hl.take {l:List CV} {m:List Value} (h:Hl D n w l m) (k:Nat):Hl D n w (l.take k) (m.take k):=by
 induction l generalizing m k with
 |nil=>cases m with
  |nil=>simp[Hl]
  |cons x m=>exact h.elim
 |cons c l ih=>cases m with
  |nil=>exact h.elim
  |cons x m=>cases k with
   |zero=>simp[Hl]
   |succ k=>exact⟨h.1,ih h.2 k⟩
theorem Hl.drop {l:List CV} {m:List Value} (h:Hl D n w l m) (k:Nat):Hl D n w (l.drop k) (m.drop k):=by
 induction l generalizing m k with
 |nil=>cases m with
  |nil=>simp[Hl]
  |cons x m=>exact h.elim
 |cons c l ih=>cases m with
  |nil=>exact h.elim
  |cons x m=>cases k with
   |zero=>exact h
   |succ k=>exact ih h.2 k
theorem Kp.refl:Kp D n w D n w:=⟨aH _,λ_ _=>U,λ_ h=>⟨h,U⟩⟩
theorem Kp.trans {ρ'':Pl} {n'':Nat} {w'':World} (h:Kp D n w ρ' n' w') (k:Kp ρ' n' w' ρ'' n'' w''):Kp D n w ρ'' n'' w'':=
 ⟨aJ h.le k.le,λi hi=>(k.pl i (bM hi h.le)).trans (h.pl i hi),λb hb=>⟨(k.z b (h.z b hb).1).1,(k.z b (h.z b hb).1).2.trans (h.z b hb).2⟩⟩
theorem Kp.ext (e:Ext w w'):Kp D n w D n w':=⟨aH _,λ_ _=>U,λb h=>⟨⟨bM h.lt e.size,h.no,h.z,h.nf⟩,e.block b h.lt⟩⟩
theorem Kp.exc {i b:Nat} (hi:i<n) (hb:(D i).1=some b) (e:Exc b w w'):Kp D n w D n w':=
 ⟨aH _,λ_ _=>U,λb' h=>⟨⟨bM h.lt e.size,h.no,h.z,h.nf⟩,e.block b' h.lt λhh=>h.no i hi (by rw[hb,hh])⟩⟩
end rel
/-! ### states -/
abbrev Gs:=List (Nat×Bool)
structure SS where
 sl:List (Nat×DV)
 gl:List (Nat×Gs×DV)
 bl:List (TypeId×Nat×List CV)
 fl:List Fam
def gK:List (Nat×DV)->Nat->Option DV
 |[],_=>none
 |(t',d)::l,t=>bif Nat.beq t' t then some d else gK l t
def zQ:List (Nat×Gs×DV)->Nat->Option (Gs×DV)
 |[],_=>none
 |(t',d)::l,t=>bif Nat.beq t' t then some d else zQ l t
def sat (f:Nat->Value) (gs:Gs):Prop:=∀p∈gs,f p.1= .bool p.2
structure Fr (s:SS) (D:Pl) (w:World) (f:Nat->Value):Prop where
 sl:∀t d,gK s.sl t=some d->Hd D s.bl.length w d (f t)
 gl:∀t gs d,zQ s.gl t=some (gs,d)->(sat f gs->Hd D s.bl.length w d (f t))/\(¬sat f gs->f t=undef)
def Bq (D:Pl) (n:Nat) (w:World) (i:Nat) (T:TypeId) (esz:Nat) (l:List CV):Prop:=match (D i).1 with
 |none=>l=[]/\(D i).2=0/\0<esz
 |some b=>∃vl junk,w.heap[b]? =some (.cells (vl++junk).toArray T (0,0))/\Hl D n w l vl/\(0<esz->(D i).2*esz=(vl++junk).length/\(D i).2<=maxLen)/\∀x∈vl,x.oneCell'=true
def xP (e:MapEntry):CV:=match e.key with
 |.int .i64 z=> .h (some e.born) z.toNat 0
 |_=> .u
def aHz:CV->Nat
 |.h (some b) _ _=>b
 |_=>0
def oI:CV->Nat
 |.h _ n _=>n
 |_=>0
structure MapL (es:Array MapEntry) (clock:Nat) (l:List CV):Prop where
 en:es.toList.map xP=l
 ky:∀e∈es.toList,(∃n:Nat,e.key= .int .i64 n)/\e.val= .bool true/\e.born<clock
 nd:(es.toList.map (·.key)).Nodup
 nb:(es.toList.map (·.born)).Nodup
structure ItL (since:Nat) (seen:Array Nat) (st:Nat) (g:Nat->List CV):Prop where
 le:since<=st
 lt:∀c∈g 1,aHz c<since
 rest:g 0=(g 1).filter λc=>!seen.contains (aHz c)
 cur:∀c,g 2=[c]->seen.back? =some (aHz c)
def MpV (Z:Nat->Prop) (w:World):List MapEntry->List CV->Prop
 |[],[]=>True
 |e::es,k::c::l=>(∃n:Nat,e.key= .int .i64 n/\k= .v (.int .i64 n))/\Rc Z w c e.val/\MpV Z w es l
 |_,_=>False
theorem MpV.mono {Z Z':Nat->Prop} {w w':World} (hZ:∀b,Z b->Z' b/\w'.heap[b]? =w.heap[b]?):∀{es:List MapEntry} {l:List CV},MpV Z w es l->MpV Z' w' es l
 |[],[],_=>trivial
 |e::es,k::c::l,h=>⟨h.1,h.2.1.mono hZ,MpV.mono hZ h.2.2⟩
 |[],_::_,h=>h.elim
 |_::_,[],h=>h.elim
 |_::_,[_],h=>h.elim
def ObR (Z:Nat->Prop) (w:World) (T cap:Nat) (l:List CV) (ob:Obj):Prop:=bif Nat.beq T 1000000 then ∃es,ob= .map es cap/\MapL es cap l
 else bif Nat.beq T 1000001 then ∃m since seen st g,l=[.r none 0 m st g]/\ob= .mapIter (some m) since seen st/\ItL since seen st g
 else ∃es c,ob= .map es c/\MpV Z w es.toList l
theorem ObR.mono {Z Z':Nat->Prop} {w w':World} {T cap:Nat} {l:List CV} {ob:Obj} (h:ObR Z w T cap l ob) (hZ:∀b,Z b->Z' b/\w'.heap[b]? =w.heap[b]?):ObR Z' w' T cap l ob:=by
 unfold ObR at h ⊢
 cases h1:Nat.beq T 1000000 with
 |true=>rw[h1] at h;exact h
 |false=>
  rw[h1] at h
  simp only[cond_false] at h ⊢
  cases h2:Nat.beq T 1000001 with
  |true=>rw[h2] at h;exact h
  |false=>
   rw[h2] at h
   simp only[cond_false] at h ⊢
   obtain⟨es,c,h3,h4⟩:=h
   exact⟨es,c,h3,h4.mono hZ⟩
def Mq (Z:Nat->Prop) (w:World) (F:Fam) (j:Nat):Prop:=match F.A j with
 |none=>F.get j=[]/\F.cap j=0
 |some b=>bif Nat.ble F.T 999999 then ∃(vl junk:List Value),w.heap[b]? =some (.cells (vl++junk).toArray F.T (0,0))/\vl.length=(F.get j).length/\(∀(k:Nat) (c:CV) (x:Value),(F.get j)[k]? =some c->vl[k]? =some x->Rc Z w c x)/\F.cap j*F.es=(vl++junk).length/\F.cap j<=maxLen/\∀x∈vl,x.oneCell'=true
  else ∃ob,w.heap[b]? =some ob/\ObR Z w F.T (F.cap j) (F.get j) ob
structure FamOk (D:Pl) (n:Nat) (w:World):Prop where
 ok:∀F∈D.F,0<F.es/\∀j,j<F.N->Mq (Zf D n w) w F j
 own:∀i b,i<n->(D i).1=some b->¬InF D b
 inj:∀(f f':Nat) (F F':Fam) (j j' b:Nat),D.F[f]? =some F->D.F[f']? =some F'->j<F.N->j'<F'.N->F.A j=some b->F'.A j'=some b->f=f'/\j=j'
theorem Mq.lt {Z:Nat->Prop} {w:World} {F:Fam} {j b:Nat} (h:Mq Z w F j) (hb:F.A j=some b):b<w.heap.size:=by
 unfold Mq at h
 simp only[hb] at h
 cases ht:Nat.ble F.T 999999 with
 |true=>rw[ht] at h;obtain⟨vl,junk,h1,_⟩:=h;exact iQ h1
 |false=>rw[ht] at h;obtain⟨ob,h1,_⟩:=h;exact iQ h1
theorem Mq.at {Z:Nat->Prop} {w:World} {F:Fam} {j b:Nat} (h:Mq Z w F j) (hb:F.A j=some b) (ht:Nat.ble F.T 999999=true):∃(vl junk:List Value),w.heap[b]? =some (.cells (vl++junk).toArray F.T (0,0))/\vl.length=(F.get j).length/\(∀(k:Nat) (c:CV) (x:Value),(F.get j)[k]? =some c->vl[k]? =some x->Rc Z w c x)/\F.cap j*F.es=(vl++junk).length/\F.cap j<=maxLen/\∀x∈vl,x.oneCell'=true:=by
 unfold Mq at h
 simp only[hb,ht,cond_true] at h
 exact h
theorem Mq.ob {Z:Nat->Prop} {w:World} {F:Fam} {j b:Nat} (h:Mq Z w F j) (hb:F.A j=some b) (ht:Nat.ble F.T 999999=false):∃ob,w.heap[b]? =some ob/\ObR Z w F.T (F.cap j) (F.get j) ob:=by
 unfold Mq at h
 simp only[hb,ht,cond_false] at h
 exact h
theorem FamOk.mem {D:Pl} {n:Nat} {w:World} (h:FamOk D n w) {fl:List Fam} (hl:D.F=fl) {f:Nat} {F:Fam} (hf:fl[f]? =some F) {j:Nat} (hj:j<F.N):Mq (Zf D n w) w F j:=
 (h.ok F (by rw[hl];exact aR hf)).2 j hj
theorem Mq.mono {Z Z':Nat->Prop} {w w':World} {F:Fam} {j:Nat} (h:Mq Z w F j) (hZ:∀b,Z b->Z' b/\w'.heap[b]? =w.heap[b]?) (hb:∀b,F.A j=some b->w'.heap[b]? =w.heap[b]?):Mq Z' w' F j:=by
 unfold Mq at h ⊢
 cases ha:F.A j with
 |none=>simp only[ha] at h ⊢;exact h
 |some b=>
  simp only[ha] at h ⊢
  cases ht:Nat.ble F.T 999999 with
  |true=>
   rw[ht] at h
   obtain⟨vl,junk,h1,h2,h3,h4⟩:=h
   exact⟨vl,junk,by rw[hb b ha];exact h1,h2,λk c x hc hx=>(h3 k c x hc hx).mono hZ,h4⟩
  |false=>
   rw[ht] at h
   obtain⟨ob,h1,h2⟩:=h
   exact⟨ob,by rw[hb b ha];exact h1,h2.mono hZ⟩
theorem FamOk.lt {D:Pl} {n:Nat} {w:World} (h:FamOk D n w) {b:Nat} (hb:InF D b):b<w.heap.size:=by
 obtain⟨F,hF,j,hj,hA⟩:=hb
 exact((h.ok F hF).2 j hj).lt hA
theorem FamOk.mono {D ρ':Pl} {n n':Nat} {w w':World} (h:FamOk D n w) (hF:ρ'.F=D.F) (hz:∀b,Zf D n w b->Zf ρ' n' w' b/\w'.heap[b]? =w.heap[b]?) (hs:∀b,InF D b->w'.heap[b]? =w.heap[b]?) (hno:∀i b,i<n'->(ρ' i).1=some b->¬InF D b):FamOk ρ' n' w':=
 ⟨λF hf=>by
  rw[hF] at hf
  exact⟨(h.ok F hf).1,λj hj=>((h.ok F hf).2 j hj).mono hz λb hb=>hs b ⟨F,hf,j,hj,hb⟩⟩,λi b hi hb=>by unfold InF;rw[hF];exact hno i b hi hb,by rw[hF];exact h.inj⟩
structure Rl (w0:World) (nb:Nat) (ρ0 D:Pl) (w:World):Prop where
 os:w.os=w0.os
 tape:w.tape=w0.tape
 output:w.output=w0.output
 size:w0.heap.size<=w.heap.size
 block:∀k,k<w0.heap.size->(∀i,i<nb->(D i).1≠some k)->¬InF ρ0 k->w.heap[k]? =w0.heap[k]?
structure DnW (ρ0:Pl) (w0:World) (nb:Nat) (bl:List (TypeId×Nat×List CV)) (D:Pl) (w:World):Prop where
 ok:∀(i:Nat) (T:TypeId) (e:Nat) (l:List CV),bl[i]? =some (T,e,l)->Bq D bl.length w i T e l
 inj:∀i j b,i<bl.length->j<bl.length->(D i).1=some b->(D j).1=some b->i=j
 fr:∀i b,nb<=i->i<bl.length->(D i).1=some b->w0.heap.size<=b
 nbl:nb<=bl.length
 rel:Rl w0 nb ρ0 D w
 pl:∀i,i<nb->D i=ρ0 i
 zz:D.Z=ρ0.Z/\∀b,w0.heap.size<=b\/InF ρ0 b->D.Z b
 fam:FamOk D bl.length w
 ffr:∀b,InF D b->w0.heap.size<=b\/InF ρ0 b
structure Dn (ρ0:Pl) (w0:World) (nb:Nat) (s:SS) (D:Pl) (f:Nat->Value) (w:World):Prop where
 m:DnW ρ0 w0 nb s.bl D w
 f:Fr s D w f
 l:D.F=s.fl
section world
variable {w0 w w':World} {nb:Nat} {s:SS} {D ρ' ρ0:Pl} {f:Nat->Value} {bl:List (TypeId×Nat×List CV)}
theorem Rl.ext (h:Rl w0 nb ρ0 D w) (e:Ext w w'):Rl w0 nb ρ0 D w':=
 ⟨e.os.trans h.os,e.tape.trans h.tape,e.output.trans h.output,aJ h.size e.size,λk hk hn hf=>(e.block k (bM hk h.size)).trans (h.block k hk hn hf)⟩
theorem eH {I:Type} {l:List I} {i:Nat} {x:I} (h:l[i]? =some x):i<l.length:=(oE.1 h).1
theorem Bq.at {n i b e:Nat} {T:TypeId} {l:List CV} (h:Bq D n w i T e l) (hb:(D i).1=some b):∃vl junk,w.heap[b]? =some (.cells (vl++junk).toArray T (0,0))/\Hl D n w l vl/\(0<e->(D i).2*e=(vl++junk).length/\(D i).2<=maxLen)/\∀x∈vl,x.oneCell'=true:=by
 unfold Bq at h
 rw[hb] at h
 exact h
theorem Bq.of_some {n i b e:Nat} {T:TypeId} {l:List CV} (hb:(D i).1=some b) (h:∃vl junk,w.heap[b]? =some (.cells (vl++junk).toArray T (0,0))/\Hl D n w l vl/\(0<e->(D i).2*e=(vl++junk).length/\(D i).2<=maxLen)/\∀x∈vl,x.oneCell'=true):Bq D n w i T e l:=by
 unfold Bq
 rw[hb]
 exact h
theorem Bq.kp {n n' i e:Nat} {T:TypeId} {l:List CV} (h:Bq D n w i T e l) (k:Kp D n w ρ' n' w') (hi:i<n) (hs:∀b,(D i).1=some b->w'.heap[b]? =w.heap[b]?):Bq ρ' n' w' i T e l:=by
 unfold Bq at h ⊢
 rw[k.pl i hi]
 cases hb:(D i).1 with
 |none=>simp only[hb] at h ⊢;exact h
 |some b=>
  simp only[hb] at h ⊢
  obtain⟨vl,junk,h1,h2,h3⟩:=h
  exact⟨vl,junk,by rw[hs b hb];exact h1,h2.kp k,h3⟩
theorem Bq.lt {n i b e:Nat} {T:TypeId} {l:List CV} (h:Bq D n w i T e l) (hb:(D i).1=some b):b<w.heap.size:=by
 obtain⟨vl,junk,h1,_⟩:=h.at hb
 exact iQ h1
theorem DnW.lt (h:DnW ρ0 w0 nb bl D w) {i b:Nat} (hi:i<bl.length) (hb:(D i).1=some b):b<w.heap.size:=
 (h.ok i (bl[i]).1 (bl[i]).2.1 (bl[i]).2.2 (aG hi)).lt hb
theorem DnW.ext (h:DnW ρ0 w0 nb bl D w) (e:Ext w w'):DnW ρ0 w0 nb bl D w':=
 ⟨λi T es l hi=>(h.ok i T es l hi).kp (Kp.ext e) (eH hi) λb hb=>e.block b ((h.ok i T es l hi).lt hb),h.inj,h.fr,h.nbl,h.rel.ext e,h.pl,h.zz,h.fam.mono U (Kp.ext e).z (λb hb=>e.block b (h.fam.lt hb)) h.fam.own,h.ffr⟩
theorem Fr.kp (h:Fr s D w f) {s':SS} (hsl:s'.sl=s.sl) (hgl:s'.gl=s.gl) (k:Kp D s.bl.length w ρ' s'.bl.length w'):Fr s' ρ' w' f:=
 ⟨λt d ht=>(h.sl t d (by rw[<-hsl];exact ht)).kp k,λt gs d ht=>⟨λhs=>((h.gl t gs d (by rw[<-hgl];exact ht)).1 hs).kp k,(h.gl t gs d (by rw[<-hgl];exact ht)).2⟩⟩
theorem Dn.ext (h:Dn ρ0 w0 nb s D f w) (e:Ext w w'):Dn ρ0 w0 nb s D f w':=⟨h.m.ext e,h.f.kp U U (Kp.ext e),h.l⟩
theorem lT {I:Type} {l:List I} {i j:Nat} {x y:I} (h:(l.set i x)[j]? =some y):(j=i/\y=x/\i<l.length)\/(j≠i/\l[j]? =some y):=by
 by_cases hji:j=i
 ·subst hji
  have hlt:j<l.length:=by have:=eH h;simpa using this
  rw[pX hlt] at h
  injection h with h
  exact .inl ⟨U,h.symm,hlt⟩
 rw[nW (gU hji)] at h
 exact .inr ⟨hji,h⟩
theorem sH {I:Type} {l:List I} {j:Nat} {x y:I} (h:(l++[x])[j]? =some y):(j=l.length/\y=x)\/(j<l.length/\l[j]? =some y):=by
 by_cases hji:j<l.length
 ·rw[aV hji] at h
  exact .inr ⟨hji,h⟩
 rw[bH oM] at h
 have hz:j-l.length=0:=by
  have:=eH h
  simp only[cO] at this
  omega
 rw[hz] at h
 injection h with h
 exact .inl ⟨Uc,h.symm⟩
theorem DnW.exc (h:DnW ρ0 w0 nb bl D w) {i b e:Nat} {T:TypeId} {l l':List CV} (hi:bl[i]? =some (T,e,l)) (hb:(D i).1=some b) (ex:Exc b w w') (hq:Bq D bl.length w' i T e l'):
 DnW ρ0 w0 nb (bl.set i (T,e,l')) D w':=by
 have hlt:=eH hi
 refine⟨λj T2 e2 l2 hj=>?_,?_,?_,?_,?_,h.pl,h.zz,?_,h.ffr⟩
 ·rw[cC]
  rcases lT hj with ⟨rfl,h2,_⟩|⟨hne,hj'⟩
  ·injection h2 with h2 h3;injection h3 with h3 h4;subst h2 h3 h4;exact hq
  exact(h.ok j T2 e2 l2 hj').kp (Kp.exc hlt hb ex) (eH hj') λb' hb'=>ex.block b' ((h.ok j T2 e2 l2 hj').lt hb') λhe=>hne (h.inj j i b (eH hj') hlt (by rw[hb',he]) hb)
 ·simpa using h.inj
 ·simpa using h.fr
 ·simpa using h.nbl
 ·refine⟨ex.os.trans h.rel.os,ex.tape.trans h.rel.tape,ex.output.trans h.rel.output,aJ h.rel.size ex.size,λk hk hn hf=>?_⟩
  refine(ex.block k (bM hk h.rel.size) λhe=>?_).trans (h.rel.block k hk hn hf)
  by_cases hib:i<nb
  ·exact hn i hib (by rw[hb,he])
  have:=h.fr i b oM hlt hb
  omega
 rw[cC]
 exact h.fam.mono U (Kp.exc hlt hb ex).z (λb' hb'=>ex.block b' (h.fam.lt hb') λhe=>h.fam.own i b hlt hb (he▸hb')) h.fam.own
def xI (D:Pl) (n:Nat) (p:Option Nat×Nat):Pl:=⟨λi=>if i=n then p else D i,D.Z,D.F⟩
theorem pG {n i:Nat} {p:Option Nat×Nat} (h:i<n):xI D n p i=D i:=by
 show(if i=n then p else D i)=D i
 rw[U2 oM]
theorem kD {n:Nat} {p:Option Nat×Nat}:xI D n p n=p:=by
 show(if n=n then p else D n)=p
 rw[U3 U]
theorem Kp.new {n:Nat} {p:Option Nat×Nat} (hp:∀b,p.1=some b->w.heap.size<=b) (e:Ext w w'):Kp D n w (xI D n p) (n+1) w':=by
 refine⟨Nat.le_succ _,λi hi=>pG hi,λb hb=>⟨⟨bM hb.lt e.size,λi hi=>?_,hb.z,hb.nf⟩,e.block b hb.lt⟩⟩
 by_cases hin:i=n
 ·rw[hin,kD]
  intro he
  have:=hp b he
  have:=hb.lt
  omega
 rw[pG oM]
 exact hb.no i oM
theorem DnW.new (h:DnW ρ0 w0 nb bl D w) {T:TypeId} {es:Nat} {l:List CV} {p:Option Nat×Nat} (hp:∀b,p.1=some b->w.heap.size<=b) (e:Ext w w') (hq:Bq (xI D bl.length p) (bl.length+1) w' bl.length T es l):
 DnW ρ0 w0 nb (bl++[(T,es,l)]) (xI D bl.length p) w':=by
 refine⟨λj T2 e2 l2 hj=>?_,λi j b hi hj hib hjb=>?_,λi b hi hi2 hb=>?_,?_,?_,λi hi=>(pG (by have:=h.nbl;omega)).trans (h.pl i hi),h.zz,?_,h.ffr⟩
 ·simp only[aD,cO]
  rcases sH hj with ⟨rfl,h2⟩|⟨hlt,hj'⟩
  ·injection h2 with h2 h3;injection h3 with h3 h4;subst h2 h3 h4;exact hq
  exact(h.ok j T2 e2 l2 hj').kp (Kp.new hp e) hlt λb hb=>e.block b ((h.ok j T2 e2 l2 hj').lt hb)
 ·simp only[aD,cO] at hi hj
  by_cases h1:i=bl.length<;>by_cases h2:j=bl.length
  ·omega
  ·rw[h1,kD] at hib
   rw[pG oM] at hjb
   have:=hp b hib
   have:=h.lt oM hjb
   omega
  ·rw[h2,kD] at hjb
   rw[pG oM] at hib
   have:=hp b hjb
   have:=h.lt oM hib
   omega
  rw[pG oM] at hib hjb
  exact h.inj i j b oM oM hib hjb
 ·simp only[aD,cO] at hi2
  by_cases h1:i=bl.length
  ·rw[h1,kD] at hb
   have:=hp b hb
   have:=h.rel.size
   omega
  rw[pG oM] at hb
  exact h.fr i b hi oM hb
 ·have:=h.nbl
  simp only[aD,cO]
  omega
 ·have hr:=h.rel.ext e
  refine⟨hr.os,hr.tape,hr.output,hr.size,λk hk hn hf=>hr.block k hk (λi hi=>?_) hf⟩
  have:=hn i hi
  rw[pG (by have:=h.nbl;omega)] at this
  exact this
 simp only[aD,cO]
 refine h.fam.mono U (Kp.new hp e).z (λb hb=>e.block b (h.fam.lt hb)) λi b hi hb hf=>?_
 by_cases h1:i=bl.length
 ·rw[h1,kD] at hb
  have:=hp b hb
  have:=h.fam.lt hf
  omega
 rw[pG oM] at hb
 exact h.fam.own i b oM hb hf
end world
/-! ### types -/
structure FI where
 off:Nat
 ty:Nat
 size:Nat
 agg:Bool
structure TI where
 size:Nat
 agg:Bool:=false
 el:Option Nat:=none
 ar:Option (Nat×Nat×Nat):=none
 bo:Bool:=false
 str:Bool:=false
 ik:Option IntKind:=none
 fs:List FI:=[]
 ck:Nat:=0
 mp:Bool:=false
 mv:Option Value:=none
 pt:Bool:=false
 by':Nat
 zero:List Value
def ckF:Nat->List Value->Bool
 |1,[.int .i64 _,.int .i64 _]=>true
 |2,[.int .i64 _,.int .i64 _,.int .i64 _]=>true
 |3,[.string _,.int .i64 _,.int .i64 _,.int .i64 _,.int .i64 _,.int .i64 _,.int .i64 _,.int .i64 _,.int .i64 _]=>true
 |_,_=>false
def CkP (P:Program) (t:Nat) (vs:List Value):Prop:=P.eqGuardType P.depth t=false/\∀w,(Op.equalIn (9999+1) t (.agg vs.toArray) (.agg vs.toArray)).run P w= .ok true w
structure GoodT (P:Program) (t:Nat) (i:TI):Prop where
 un:∃d,P.underlying t=some d
 ag:aDv P t=i.agg
 ty:∃z,TyI P t i.size i.by' z/\z.cells=i.zero.toArray
 zs:i.zero.length=i.size
 z1:i.zero.all Value.oneCell'=true
 el:∀e,i.el=some e->P.underlying t=some (.slice e)
 ar:∀n e es,i.ar=some (n,e,es)->P.underlying t=some (.array n e)/\∃by' z,TyI P e es by' z
 bo:i.bo=true->P.underlying t=some .bool
 str:i.str=true->P.underlying t=some .string
 ik:∀k,i.ik=some k->P.underlying t=some (.int k)
 fs:i.fs=[]\/∃F:Array Field,P.underlying t=some (.struct F)/\i.fs.length=F.size/\∀(k:Nat) (fi:FI),i.fs[k]? =some fi->∃fl,F[k]? =some fl/\fl.offset=fi.off/\fl.type=fi.ty/\aDv P fi.ty=fi.agg/\(∃d,P.underlying fi.ty=some d)/\∃by' z,TyI P fi.ty fi.size by' z
 ck:∀vs,ckF i.ck vs=true->CkP P t vs
 mp:i.mp=true->∃k e,P.underlying t=some (.map k e)/\P.underlying k=some (.int .i64)
 pt:i.pt=true->∃e,P.underlying t=some (.pointer e)
 mv:∀z,i.mv=some z->∃k e b,P.underlying t=some (.map k e)/\P.underlying k=some (.int .i64)/\TyI P e 1 b z
abbrev TT:=Nat->Option TI
def Good (P:Program) (T:TT):Prop:=∀t i,T t=some i->GoodT P t i
/-! ### operands -/
def bPs (g' gs:Gs):Bool:=g'.all λp=>gs.any λq=>Nat.beq p.1 q.1&&(p.2==q.2)
theorem bHx {f:Nat->Value} {g' gs:Gs} (h:bPs g' gs=true) (hs:sat f gs):sat f g':=λp hp=>by
 have h1:=aX.1 h p hp
 obtain⟨q,hq,h2⟩:=List.any_eq_true.1 h1
 simp only[aQ,beq_iff_eq] at h2
 have h3:=aM h2.1
 have:=hs q hq
 rw[h3,h2.2]
 exact this
def sL:Value->CV
 |.bool b=> .b (b=true) inferInstance
 |v=> .v v
def aYx:Value->DV
 |.agg cs=> .a (cs.toList.map sL)
 |v=> .c (.v v)
def val (gs:Gs) (s:SS):Operand->Option DV
 |.tmp t=>match zQ s.gl t with
  |some (g',d)=>bif bPs g' gs then some d else none
  |none=>gK s.sl t
 |.const v=>some (aYx v)
 |.func k=>some (.c (.f k [] []))
 |.global _=>none
section val
variable {s:SS} {D ρ0:Pl} {w:World} {f:Nat->Value} {gs:Gs} {n:Nat}
theorem aNl (x:Value):Hc D n w (sL x) x:=by
 cases x with
 |bool b=>
  have e:Value.bool b= .bool (decide (b=true)):=by simp
  rw[e]
  cases b<;>exact Rc.b _ _
 |_=>exact Rc.v _
theorem Hl.vs (l:List Value):Hl D n w (l.map sL) l:=by
 induction l with
 |nil=>trivial
 |cons x l ih=>exact⟨aNl x,ih⟩
theorem aWs (v:Value):Hd D n w (aYx v) v:=by
 cases v with
 |agg cs=>exact Hd.a (vl:=cs.toList) (Hl.vs _)
 |_=>exact .c (Rc.v _)
theorem bS (h:Fr s D w f) (hg:sat f gs) {x:Operand} {d:DV} (hx:val gs s x=some d):Hd D s.bl.length w d (ev f x):=by
 cases x with
 |tmp t=>
  simp only[val] at hx
  cases he:zQ s.gl t with
  |none=>simp only[he] at hx;exact h.sl t d hx
  |some e=>
   obtain⟨g',d'⟩:=e
   simp only[he] at hx
   cases hb:bPs g' gs with
   |false=>rw[hb] at hx;cases hx
   |true=>
    rw[hb] at hx
    injection hx with hx
    subst hx
    exact(h.gl t g' d' he).1 (bHx hb hg)
 |const v=>injection hx with hx;subst hx;exact aWs v
 |func k=>
  injection hx with hx
  subst hx
  refine Hd.c (c:=.f k [] []) (And.intro (λp hp=>?_) U)
  exact U4 hp dI
 |global k=>cases hx
theorem Hd.inv_c {c:CV} {x:Value} (h:Hd D n w (.c c) x):Hc D n w c x:=by
 cases h with
 |c h=>exact h
theorem Hd.inv_a {l:List CV} {x:Value} (h:Hd D n w (.a l) x):∃vl:List Value,x= .agg vl.toArray/\Hl D n w l vl:=by
 cases h with
 |a h=>exact⟨_,U,h⟩
theorem Hd.inv_t {l:List DV} {x:Value} (h:Hd D n w (.t l) x):∃vl:List Value,x= .tuple vl.toArray/\l.length=vl.length/\∀(i:Nat) (d:DV) (u:Value),l[i]? =some d->vl[i]? =some u->Hd D n w d u:=by
 cases h with
 |t h hh=>exact⟨_,U,h,hh⟩
theorem Hc.inv_v {y x:Value} (h:Hc D n w (.v y) x):x=y:=by
 have h':Rc _ w (.v y) x:=h
 cases h'
 rfl
theorem Hc.inv_b {p:Prop} {hp:Decidable p} {x:Value} (h:Hc D n w (.b p hp) x):x= .bool (decide p):=by
 have h':Rc _ w (.b p hp) x:=h
 cases h'
 rfl
theorem Hc.inv_r {A:Option Addr} {m c e:Nat} {get:Nat->List CV} {x:Value} (h:Hc D n w (.r A m c e get) x):x= .slice A m c/\Rc (Zf D n w) w (.r A m c e get) (.slice A m c):=by
 have h':Rc _ w (.r A m c e get) x:=h
 have e:x= .slice A m c:=by cases h'<;>rfl
 subst e
 exact⟨U,h'⟩
theorem Hc.inv_h {A:Option Nat} {m c:Nat} {x:Value} (h:Hc D n w (.h A m c) x):x= .slice (A.map λb=>⟨b,0,none⟩) m c:=by
 cases (show Rc _ w (.h A m c) x from h);rfl
theorem Hc.inv_hp {b o:Nat} {x:Value} (h:Hc D n w (.hp b o) x):x= .pointer (some ⟨b,o,none⟩):=by
 cases (show Rc _ w (.hp b o) x from h);rfl
theorem Rc.elem {Z:Nat->Prop} {A:Option Addr} {m c e:Nat} {get:Nat->List CV} {x:Value} (h:Rc Z w (.r A m c e get) x) {j:Nat} (hj:j<m):∃b o,A=some ⟨b,o,none⟩/\Z b/\∃vl:List Value,(∀(i:Nat) (u:Value),vl[i]? =some u->w.cell? ⟨b,o+j*e+i,none⟩=some u/\u.oneCell'=true)/\vl.length=(get j).length/\∀(i:Nat) (c':CV) (u:Value),(get j)[i]? =some c'->vl[i]? =some u->Rc Z w c' u:=by
 cases h with
 |nil=>omega
 |r b o n c e get V hc hm hZ hcell hlen hel=>exact⟨b,o,U,hZ,V j,λi u hu=>hcell j hj i u hu,hlen j hj,hel j hj⟩
theorem Hc.of_rc {c:CV} {x:Value} (h:Rc (Zf D n w) w c x):Hc D n w c x:=by
 cases c with
 |u=>exact h
 |v y=>exact h
 |h A n c=>exact h
 |hp b o=>exact h
 |b p hp=>exact h
 |r A m c e get=>exact h
 |p i o=>cases h
 |s i m=>cases h
 |q A m c e get j o=>cases h
 |t i o m=>cases h
 |f k fi ca=>cases h
theorem Hl.of_get {l:List CV} {vl:List Value} (hlen:vl.length=l.length) (h:∀(i:Nat) (c:CV) (u:Value),l[i]? =some c->vl[i]? =some u->Hc D n w c u):Hl D n w l vl:=by
 induction l generalizing vl with
 |nil=>cases vl with
  |nil=>trivial
  |cons x vl=>cases hlen
 |cons c l ih=>cases vl with
  |nil=>cases hlen
  |cons x vl=>exact⟨h 0 c x U U,ih (by simpa using hlen) λi c u hc hu=>h (i+1) c u hc hu⟩
end val
def Cal (P:Program) (f:Nat->Value) (o:Oper) (w:World) (D:Pl) (n:Nat) (d:DV):Prop:=∃v,Hd D n w d v/\∀u,(xH o=true->Ext w u)->(execOp (ev f) o).run P u= .ok (.value v) u
def Pu (P:Program) (f:Nat->Value) (o:Oper) (w:World) (D:Pl) (n:Nat) (gs:Gs) (k:DV->Prop):Prop:=∃d,k d/\(sat f gs->Cal P f o w D n d)
def ob (pg:Option Prop) (p:Prop):Prop:=match pg with
 |none=>p
 |some q=>q->p
def aCi (pg:Option Prop):Prop:=match pg with
 |none=>True
 |some q=>q
theorem kQ {pg:Option Prop} {p:Prop} (h:ob pg p) (hp:aCi pg):p:=by
 cases pg with
 |none=>exact h
 |some q=>exact h hp
def aSx:Nat->List CV->(List CV->Prop)->Prop
 |0,_,k=>k []
 |n+1,c::l,k=>aSx n l λr=>k (c::r)
 |_+1,[],_=>False
theorem aNm:∀{n:Nat} {l:List CV} {k:List CV->Prop},aSx n l k->n<=l.length/\k (l.take n)
 |0,l,k,h=>⟨aB _,h⟩
 |n+1,[],k,h=>h.elim
 |n+1,c::l,k,h=>by
  obtain⟨h1,h2⟩:=aNm (n:=n) (l:=l) h
  exact⟨vP h1,h2⟩
/-! ### the operations -/
def aDp (gs:Gs) (s:SS) (x:Operand) (k:DV->Prop):Prop:=match val gs s x with
 |some d=>k d
 |none=>False
def bPt (gs:Gs) (s:SS) (x:Operand) (k:DV->Prop):Prop:=match val gs s x with
 |some (.c (.p i o))=>k (.c (.p i o))
 |some (.c (.q A n c e get j o))=>k (.c (.q A n c e get j o))
 |some (.c (.hp b o))=>k (.c (.hp b o))
 |_=>False
def bMq (off:Nat) (k:DV->Prop):DV->Prop
 |.c (.p i o)=>k (.c (.p i (o+off)))
 |.c (.q A n c e get j o)=>k (.c (.q A n c e get j (o+off)))
 |.c (.hp b o)=>k (.c (.hp b (o+off)))
 |_=>False
def bPu (T:TT) (gs:Gs) (s:SS) (t:Nat) (x:Operand) (i:Nat) (k:DV->Prop):Prop:=match T t with
 |some ti=>match ti.fs[i]? with
  |some fi=>bif Nat.ble 1 fi.size then (match val gs s x with
   |some d=>bMq fi.off k d
   |none=>False) else False
  |none=>False
 |none=>False
def ldK (ti:TI) (o:Nat) (l:List CV) (k:DV->Prop):Prop:=bif ti.agg then aSx ti.size (l.drop o) λr=>k (.a r) else match l[o]? with
 |some c=>k (.c c)
 |none=>False
def ldS (pg:Option Prop) (ti:TI) (o:Nat) (l:List CV) (k:DV->Prop):Prop:=bif ti.agg then ∃r,ob pg ((l.drop o).take ti.size=r/\r.length=ti.size)/\k (.a r) else ∃c,ob pg (l[o]? =some c)/\k (.c c)
def aYy (T:TT) (pg:Option Prop) (gs:Gs) (s:SS) (t:Nat) (x:Operand) (k:DV->Prop):Prop:=match T t with
 |some ti=>match val gs s x with
  |some (.c (.p j o))=>(match s.bl[j]? with
   |some b=>bif Nat.beq b.2.1 0 then ldK ti o b.2.2 k else ldS pg ti o b.2.2 k
   |none=>False)
  |some (.c (.q _ _ _ _ get j o))=>ldK ti o (get j) k
  |some (.c (.hp b o))=>∃f j:Nat,(match s.fl[f]? with
   |some F=>bif Nat.ble F.T 999999 then ob pg (j<F.N/\F.A j=some b)/\ldS pg ti o (F.get j) k else False
   |none=>False)
  |_=>False
 |none=>False
def arK (pg:Option Prop) (ka:IntKind) (z:Int) (k:DV->Prop):Prop:=∃r,ob pg (r=ka.wrap z)/\k (.c (.v (.int ka r)))
def bC (p:Prop) [h:Decidable p]:DV:=.c (.b p h)
def bWh (pg:Option Prop) (op:BinOp) (ka:IntKind) (a b:Int) (k:DV->Prop):Prop:=match op with
 |.lss=>k (bC (a<b))
 |.leq=>k (bC (a<=b))
 |.gtr=>k (bC (b<a))
 |.geq=>k (bC (b<=a))
 |.eql=>k (bC (a=b))
 |.neq=>k (bC (a≠b))
 |.add=>arK pg ka (a+b) k
 |.sub=>arK pg ka (a-b) k
 |.mul=>arK pg ka (a*b) k
 |.quo=>ob pg (b≠0)/\arK pg ka (a.tdiv b) k
 |.rem=>ob pg (b≠0)/\k (.c (.v (.int ka (a.tmod b))))
 |.or=>arK pg ka (BitVec.ofInt ka.bits a|||BitVec.ofInt ka.bits b).toNat k
 |.and=>arK pg ka (BitVec.ofInt ka.bits a&&&BitVec.ofInt ka.bits b).toNat k
 |_=>False
def bWi:BinOp->Bool
 |.shl=>true
 |.shr=>true
 |_=>false
def shI (pg:Option Prop) (op:BinOp) (ka:IntKind) (a b:Int) (k:DV->Prop):Prop:=match op with
 |.shl=>ob pg (0<=b)/\arK pg ka (a*2^(min b.toNat ka.bits)) k
 |.shr=>ob pg (0<=b)/\∃r,ob pg (r=a.fdiv (2^(min b.toNat ka.bits)))/\k (.c (.v (.int ka r)))
 |_=>False
def aNn (T:TT) (t:Nat) (op:BinOp) (p q:Prop) (hp:Decidable p) (hq:Decidable q) (k:DV->Prop):Prop:=match T t with
 |some ti=>bif ti.bo then (match op with
  |.eql=>k (.c (.b (p↔q) (@instDecidableIff p q hp hq)))
  |.neq=>k (.c (.b (¬(p↔q)) (@instDecidableNot _ (@instDecidableIff p q hp hq))))
  |_=>False) else False
 |none=>False
def bPv (T:TT) (t:Nat) (pg:Option Prop) (gs:Gs) (s:SS) (op:BinOp) (x y:Operand) (k:DV->Prop):Prop:=match val gs s x,val gs s y with
 |some (.c (.v (.int ka a))),some (.c (.v (.int kb b)))=>bif bWi op then shI pg op ka a b k else bif decide (ka=kb) then bWh pg op ka a b k else False
 |some (.c (.b p hp)),some (.c (.b q hq))=>aNn T t op p q hp hq k
 |some (.c (.b p hp)),some (.c (.v (.bool q)))=>aNn T t op p (q=true) hp inferInstance k
 |some (.c (.v (.bool p))),some (.c (.b q hq))=>aNn T t op (p=true) q inferInstance hq k
 |some (.c (.v (.string a))),some (.c (.v (.string b)))=>(match op with
  |.eql=>k (bC (a.toList=b.toList))
  |.neq=>k (bC (a.toList≠b.toList))
  |.add=>ob pg (a.size+b.size<=9223372036854775807)/\k (.c (.v (.string (a++b))))
  |_=>False)
 |some (.c (.r A _ _ _ _)),some (.c (.v (.slice none 0 0)))=>(match op,T t with
  |.eql,some ti=>bif ti.el.isSome then k (bC (A.isNone=true)) else False
  |_,_=>False)
 |some (.c (.p _ _)),some (.c (.v (.pointer none)))=>(match op,T t with
  |.eql,some ti=>bif ti.pt then k (.c (.v (.bool false))) else False
  |.neq,some ti=>bif ti.pt then k (.c (.v (.bool true))) else False
  |_,_=>False)
 |some (.c (.v (.pointer none))),some (.c (.v (.pointer none)))=>(match op,T t with
  |.eql,some ti=>bif ti.pt then k (.c (.v (.bool true))) else False
  |.neq,some ti=>bif ti.pt then k (.c (.v (.bool false))) else False
  |_,_=>False)
 |some (.a l1),some (.a l2)=>(match op,T t with
  |.eql,some ti=>∃vs:List Value,ob pg (l1=vs.map CV.v/\l2=vs.map CV.v/\ckF ti.ck vs=true)/\k (.c (.v (.bool true)))
  |_,_=>False)
 |_,_=>False
def eUn (pg:Option Prop) (gs:Gs) (s:SS) (op:UnOp) (x:Operand) (k:DV->Prop):Prop:=match val gs s x with
 |some (.c (.b p h))=>(match op with
  |.not=>k (.c (.b (¬p) (@instDecidableNot p h)))
  |_=>False)
 |some (.c (.v (.bool b)))=>(match op with
  |.not=>k (.c (.v (.bool (!b))))
  |_=>False)
 |some (.c (.v (.int ka a)))=>(match op with
  |.neg=>arK pg ka (0-a) k
  |_=>False)
 |_=>False
def aYz (T:TT) (pg:Option Prop) (gs:Gs) (s:SS) (t t':Nat) (x:Operand) (k:DV->Prop):Prop:=match T t,T t' with
 |some _,some ti=>(match ti.ik,val gs s x with
  |some ka,some (.c (.v (.int _ a)))=>arK pg ka a k
  |_,_=>False)
 |_,_=>False
def bPw (T:TT) (pg:Option Prop) (gs:Gs) (s:SS) (t:Nat) (x y:Operand) (k:DV->Prop):Prop:=match T t with
 |some ti=>(match ti.el with
  |some e=>(match T e,val gs s x,val gs s y with
   |some te,some (.c (.r A n c e' get)),some (.c (.v (.int _ z)))=>bif Nat.beq e' te.size then ∃m:Nat,ob pg (z=m/\m<n)/\k (.c (.q A n c e' get m 0)) else False
   |some te,some (.c (.s i n)),some (.c (.v (.int _ z)))=>(match s.bl[i]? with
    |some b=>∃m:Nat,ob pg (z=m/\m<n/\m*te.size<b.2.2.length)/\k (.c (.p i (m*te.size)))
    |none=>False)
   |some te,some (.c (.h A n _)),some (.c (.v (.int _ z)))=>∃m b:Nat,ob pg (z=m/\m<n/\A=some b)/\k (.c (.hp b (m*te.size)))
   |some te,some (.c (.t i o n)),some (.c (.v (.int _ z)))=>∃m:Nat,ob pg (z=m/\m<n)/\k (.c (.p i (o+m*te.size)))
   |_,_,_=>False)
  |none=>False)
 |none=>False
def aZa (T:TT) (pg:Option Prop) (gs:Gs) (s:SS) (t:Nat) (x y:Operand) (k:DV->Prop):Prop:=match T t with
 |some ti=>(match ti.ar,val gs s x,val gs s y with
  |some (n,_,es),some (.c (.p i o)),some (.c (.v (.int _ z)))=>∃m:Nat,ob pg (z=m/\m<n)/\k (.c (.p i (o+m*es)))
  |some (n,_,es),some (.c (.q A nn c e' get j o)),some (.c (.v (.int _ z)))=>∃m:Nat,ob pg (z=m/\m<n)/\k (.c (.q A nn c e' get j (o+m*es)))
  |_,_,_=>False)
 |none=>False
def aZb (T:TT) (pg:Option Prop) (gs:Gs) (s:SS) (t:Nat) (x y:Operand) (k:DV->Prop):Prop:=match T t with
 |some ti=>bif ti.str then (match val gs s x,val gs s y with
  |some (.c (.v (.string a))),some (.c (.v (.int _ z)))=>∃(m:Nat) (b:UInt8),ob pg (z=m/\a[m]? =some b)/\k (.c (.v (.int .u8 b.toNat)))
  |_,_=>False) else False
 |none=>False
def slA (A:Option Addr) (c l e:Nat):Option Addr:=if c=l then A else A.map (·.add (l*e))
def eSl (T:TT) (pg:Option Prop) (gs:Gs) (s:SS) (t:Nat) (x:Operand) (lo hi:Option Operand) (k:DV->Prop):Prop:=match T t with
 |some ti=>(match ti.el with
  |some e=>(match T e,val gs s x with
   |some te,some (.c (.r A n c e' get))=>bif Nat.beq e' te.size then (match lo,hi with
    |none,some y=>(match val gs s y with
     |some (.c (.v (.int _ z)))=>∃h:Nat,ob pg (z=h/\h<=n)/\k (.c (.r A h c e' get))
     |_=>False)
    |some y,none=>(match val gs s y with
     |some (.c (.v (.int _ z)))=>∃l:Nat,ob pg (z=l/\l<=n)/\k (.c (.r (slA A c l e') (n-l) (c-l) e' λj=>get (j+l)))
     |_=>False)
    |_,_=>False) else False
   |some te,some (.c (.s i n))=>(match s.bl[i]? with
    |some b=>bif Nat.beq b.2.1 te.size&&Nat.ble 1 te.size then (match lo,hi with
     |none,some y=>(match val gs s y with
      |some (.c (.v (.int _ z)))=>∃h:Nat,ob pg (z=h/\h*te.size<=b.2.2.length)/\k (.c (.s i h))
      |_=>False)
     |some y,none=>(match val gs s y with
      |some (.c (.v (.int _ z)))=>∃l:Nat,ob pg (z=l/\l<=n/\n*te.size<=b.2.2.length)/\k (.c (.t i (l*te.size) (n-l)))
      |_=>False)
     |some y,some y'=>(match val gs s y,val gs s y' with
      |some (.c (.v (.int _ z))),some (.c (.v (.int _ z')))=>∃l h:Nat,ob pg ((z=l/\z'=h)/\l<=h/\h<=n/\n*te.size<=b.2.2.length)/\k (.c (.t i (l*te.size) (h-l)))
      |_,_=>False)
     |_,_=>False) else False
    |none=>False)
   |_,_=>False)
  |none=>bif ti.str then (match val gs s x,lo,hi with
   |some (.c (.v (.string a))),some y,some y'=>(match val gs s y,val gs s y' with
    |some (.c (.v (.int _ z))),some (.c (.v (.int _ z')))=>∃l h:Nat,ob pg (z=l/\z'=h/\l<=h/\h<=a.size)/\k (.c (.v (.string (a.extract l h))))
    |_,_=>False)
   |_,_,_=>False) else False)
 |none=>False
def aZc (T:TT) (gs:Gs) (s:SS) (t:Nat) (x:Operand) (i:Nat) (k:DV->Prop):Prop:=match T t with
 |some ti=>match ti.fs[i]? with
  |some fi=>match val gs s x with
   |some (.a l)=>ldK {size:=fi.size,agg:=fi.agg,by':=0,zero:=[]} fi.off l k
   |_=>False
  |none=>False
 |none=>False
def bPx (gs:Gs) (s:SS) (x:Operand) (i:Nat) (k:DV->Prop):Prop:=match val gs s x with
 |some (.t l)=>(match l[i]? with
  |some d=>k d
  |none=>False)
 |_=>False
def bPy (T:TT) (gs:Gs) (s:SS) (t:Nat) (x:Operand) (k:DV->Prop):Prop:=match T t with
 |some ti=>(match val gs s x with
  |some (.c (.r _ n _ _ _))=>bif ti.el.isSome then k (.c (.v (.int .i64 n))) else False
  |some (.c (.s _ n))=>bif ti.el.isSome then k (.c (.v (.int .i64 n))) else False
  |some (.c (.h _ n _))=>bif ti.el.isSome then k (.c (.v (.int .i64 n))) else False
  |some (.c (.v (.slice _ n _)))=>bif ti.el.isSome then k (.c (.v (.int .i64 n))) else False
  |some (.c (.v (.string a)))=>bif ti.str then k (.c (.v (.int .i64 a.size))) else False
  |_=>False)
 |none=>False
def eMm (mx:Bool) (gs:Gs) (s:SS) (x y:Operand) (k:DV->Prop):Prop:=match val gs s x,val gs s y with
 |some (.c (.v (.int ka a))),some (.c (.v (.int kb b)))=>bif decide (ka=kb) then k (.c (.v (.int ka (bif mx then max a b else min a b)))) else False
 |_,_=>False
def bMr (k:DV->Prop):DV->DV->DV->Prop
 |.c (.b p hp),.c (.b q hq),.c (.v (.bool z))=>bif z then k (.c (.b (p->q) (@instDecidableForall p q hp hq))) else k (.c (.b (p/\q) (@instDecidableAnd p q hp hq)))
 |.c (.b p hp),.c (.v (.bool y)),.c (.b q hq)=>bif y then k (.c (.b (p\/q) (@instDecidableOr p q hp hq))) else k (.c (.b (¬p/\q) (@instDecidableAnd _ q (@instDecidableNot p hp) hq)))
 |.c (.b p hp),.c (.b q hq),.c (.b r hr)=>k (.c (.b ((p/\q)\/(¬p/\r)) (@instDecidableOr _ _ (@instDecidableAnd p q hp hq) (@instDecidableAnd _ r (@instDecidableNot p hp) hr))))
 |.c (.b p hp),.c (.v (.bool y)),.c (.v (.bool z))=>bif y then (bif z then k (.c (.v (.bool true))) else k (.c (.b p hp))) else False
 |_,_,_=>False
def aZd (gs:Gs) (s:SS) (x y z:Operand) (k:DV->Prop):Prop:=match x with
 |.tmp t=>(match val gs s x with
  |some (.c (.v (.bool b)))=>bif b then aDp ((t,true)::gs) s y k else aDp ((t,false)::gs) s z k
  |some c=>(match val ((t,true)::gs) s y,val ((t,false)::gs) s z with
   |some p,some q=>bMr k c p q
   |_,_=>False)
  |none=>False)
 |_=>False
def aZe (gs:Gs) (s:SS):List Operand->(List (Nat×Nat)->Prop)->Prop
 |[],k=>k []
 |x::l,k=>match val gs s x with
  |some (.c (.p i o))=>aZe gs s l λr=>k ((i,o)::r)
  |_=>False
def bPz (gs:Gs) (s:SS) (fn:Fn) (fi ca:List Operand) (k:DV->Prop):Prop:=match fn with
 |.func q=>aZe gs s fi λa=>aZe gs s ca λb=>k (.c (.f q a b))
 |_=>False
section ops
variable {P:Program} {T:TT} (hT:Good P T) {w0 w:World} {nb:Nat} {s:SS} {D ρ0:Pl} {f:Nat->Value} {gs:Gs} {pg:Option Prop} {dst:Option Tmp} {ty:TypeId} {pos:String} {aft:Array Edge} {gd:Option (Nat×Bool)} {x y z:Operand} {t t':TypeId} {k:DV->Prop}
theorem aNo (h:aDp gs s x k) (hF:Fr s D w f):Pu P f ⟨dst,.move x,ty,pos,aft,gd⟩ w D s.bl.length gs k/\Pu P f ⟨dst,.assign x,ty,pos,aft,gd⟩ w D s.bl.length gs k:=by
 unfold aDp at h
 split at h
 ·next d hx=>exact⟨⟨d,h,λhs=>⟨_,bS hF hs hx,λu _=>U⟩⟩,⟨d,h,λhs=>⟨_,bS hF hs hx,λu _=>U⟩⟩⟩
 exact h.elim
theorem aZf {u:World} {a:Addr} (hx:ev f x= .pointer (some a)):(execOp (ev f) ⟨dst,.nilCheck x,ty,pos,aft,gd⟩).run P u= .ok (.value (.pointer (some a))) u:=by
 simp[execOp,hx,Instr.sureAddr]
theorem bHy (h:bPt gs s x k) (hF:Fr s D w f):Pu P f ⟨dst,.nilCheck x,ty,pos,aft,gd⟩ w D s.bl.length gs k:=by
 unfold bPt at h
 split at h
 ·next i o hx=>
  refine⟨_,h,λhs=>⟨_,bS hF hs hx,λu _=>?_⟩⟩
  obtain⟨_,b,_,he⟩:=(bS hF hs hx).inv_c
  rw[he]
  exact aZf he
 ·next A n c e get j o hx=>
  refine⟨_,h,λhs=>⟨_,bS hF hs hx,λu _=>?_⟩⟩
  obtain⟨_,_,b,o',_,he⟩:=(bS hF hs hx).inv_c
  rw[he]
  exact aZf he
 ·next b o hx=>
  refine⟨_,h,λhs=>⟨_,bS hF hs hx,λu _=>?_⟩⟩
  have he:=(bS hF hs hx).inv_c.inv_hp
  rw[he]
  exact aZf he
 exact h.elim
include hT in
theorem bHz {i:Nat} (h:bPu T gs s t x i k) (hF:Fr s D w f):Pu P f ⟨dst,.fieldAddr t x i,ty,pos,aft,gd⟩ w D s.bl.length gs k:=by
 unfold bPu at h
 split at h
 ·next ti ht=>
  split at h
  ·next fi hfi=>
   cases hz:Nat.ble 1 fi.size with
   |false=>rw[hz] at h;exact h.elim
   |true=>
    rw[hz] at h
    have hz':=bT hz
    simp only[cond_true] at h
    have hfs:∃F:Array Field,P.underlying t=some (.struct F)/\∃fl,F[i]? =some fl/\fl.offset=fi.off/\fl.type=fi.ty/\∃by' z,TyI P fi.ty fi.size by' z:=by
     rcases (hT t ti ht).fs with h0|⟨F,hF,_,hh⟩
     ·rw[h0] at hfi;cases hfi
     obtain⟨fl,h1,h2,h3,_,_,h4⟩:=hh i fi hfi
     exact⟨F,hF,fl,h1,h2,h3,h4⟩
    obtain⟨F,hFF,fl,h1,h2,h3,by',zz,h4⟩:=hfs
    have h5:TyI P fl.type ((fi.size-1)+1) by' zz:=by rw[h3,mL hz'];exact h4
    split at h
    ·next d hx=>
     unfold bMq at h
     split at h
     ·next j o=>
      refine⟨_,h,λhs=>?_⟩
      obtain⟨hj,b,hb,he⟩:=(bS hF hs hx).inv_c
      refine⟨.pointer (some ⟨b,o+fi.off,none⟩),.c ⟨hj,b,hb,U⟩,λu _=>?_⟩
      rw[<-h2]
      exact xM hFF h1 h5 he
     ·next A n c e get j o=>
      refine⟨_,h,λhs=>?_⟩
      obtain⟨hr,hj,b,o',hA,he⟩:=(bS hF hs hx).inv_c
      refine⟨.pointer (some ⟨b,o'+j*e+(o+fi.off),none⟩),.c ⟨hr,hj,b,o',hA,U⟩,λu _=>?_⟩
      rw[<-h2,<-jF]
      exact xM hFF h1 h5 he
     ·next b o=>
      refine⟨_,h,λhs=>?_⟩
      refine⟨.pointer (some ⟨b,o+fi.off,none⟩),.c (Rc.hp _ _),λu _=>?_⟩
      rw[<-h2]
      exact xM hFF h1 h5 (bS hF hs hx).inv_c.inv_hp
     exact h.elim
    exact h.elim
  exact h.elim
 exact h.elim
theorem aSy {ti:TI} {o:Nat} {l:List CV} (h:ldK ti o l k):∃d,k d/\∀(D:Pl) (n:Nat) (w:World) (vl:List Value),Hl D n w l vl->∃v,Hd D n w d v/\((ti.agg=true/\v= .agg ((vl.drop o).take ti.size).toArray/\((vl.drop o).take ti.size).length=ti.size)\/(ti.agg=false/\vl[o]? =some v)):=by
 unfold ldK at h
 cases ha:ti.agg with
 |true=>
  rw[ha] at h
  obtain⟨h1,h2⟩:=aNm (show aSx ti.size (l.drop o) _ from h)
  refine⟨_,h2,λD n w vl hl=>⟨_,.a ((hl.drop o).take ti.size),.inl ⟨U,U,?_⟩⟩⟩
  have:=hl.len
  simp only[bI,cP] at h1 ⊢
  omega
 |false=>
  rw[ha] at h
  simp only[cond_false] at h
  split at h
  ·next c hc=>
   refine⟨_,h,λD n w vl hl=>?_⟩
   obtain⟨v,h1,h2⟩:=hl.get hc
   exact⟨v,.c h2,.inr ⟨U,h1⟩⟩
  exact h.elim
theorem nR {u:World} {b i:Nat} {T:TypeId} {vl junk:List Value} {x:Value} (h:u.heap[b]? =some (.cells (vl++junk).toArray T (0,0))) (hi:vl[i]? =some x):u.cell? ⟨b,i,none⟩=some x:=by
 unfold World.cell?
 simp only[h]
 have:=aV (l₂:=junk) (eH hi)
 simp[this,hi]
theorem aQh {ti:TI} {u:World} {b p o:Nat} {vl:List Value} {v:Value} (G:GoodT P t ti) (hx:ev f x= .pointer (some ⟨b,p+o,none⟩)) (hc:∀(i:Nat) (y:Value),vl[i]? =some y->u.cell? ⟨b,p+i,none⟩=some y)
 (hv:(ti.agg=true/\v= .agg ((vl.drop o).take ti.size).toArray/\((vl.drop o).take ti.size).length=ti.size)\/(ti.agg=false/\vl[o]? =some v)):(execOp (ev f) ⟨dst,.load t x,ty,pos,aft,gd⟩).run P u= .ok (.value v) u:=by
 obtain⟨d,hun⟩:=G.un
 rcases hv with ⟨ha,rfl,hl⟩|⟨ha,hv⟩
 ·obtain⟨zz,hty,_⟩:=G.ty
  refine aSn hun (G.ag.trans ha) (by rw[hl];exact hty) hx λi y hi=>?_
  rw[fK] at hi
  split at hi
  ·rw[dN] at hi
   rw[jF]
   exact hc _ _ hi
  cases hi
 exact aPz hun (G.ag.trans ha) hx (hc o v hv)
include hT in
theorem aZg (h:aYy T pg gs s t x k) (hD:Dn ρ0 w0 nb s D f w) (hp:sat f gs->aCi pg):Pu P f ⟨dst,.load t x,ty,pos,aft,gd⟩ w D s.bl.length gs k:=by
 unfold aYy at h
 split at h
 ·next ti ht=>
  have G:=hT t ti ht
  split at h
  ·next j o hx=>
   split at h
   ·next bb hb=>
    obtain⟨T',e,l⟩:=bb
    have h':∃d,k d/\(sat f gs->∀(D:Pl) (n:Nat) (w:World) (vl:List Value),Hl D n w l vl->∃v,Hd D n w d v/\((ti.agg=true/\v= .agg ((vl.drop o).take ti.size).toArray/\((vl.drop o).take ti.size).length=ti.size)\/(ti.agg=false/\vl[o]? =some v))):=by
     cases hz:Nat.beq e 0 with
     |true=>
      simp only[hz,cond_true] at h
      obtain⟨d,h1,h2⟩:=aSy h
      exact⟨d,h1,λ_=>h2⟩
     |false=>
      simp only[hz,cond_false] at h
      unfold ldS at h
      cases ha:ti.agg with
      |true=>
       rw[ha] at h
       obtain⟨r,h1,h2⟩:=h
       refine⟨_,h2,λhs D n w vl hl=>?_⟩
       obtain⟨h3,h4⟩:=kQ h1 (hp hs)
       subst h3
       refine⟨_,.a ((hl.drop o).take ti.size),.inl ⟨U,U,?_⟩⟩
       have:=hl.len
       simp only[bI,cP] at h4 ⊢
       omega
      |false=>
       rw[ha] at h
       obtain⟨c,h1,h2⟩:=h
       refine⟨_,h2,λhs D n w vl hl=>?_⟩
       obtain⟨v,h3,h4⟩:=hl.get (kQ h1 (hp hs))
       exact⟨v,.c h4,.inr ⟨U,h3⟩⟩
    obtain⟨d,hk,hd⟩:=h'
    refine⟨d,hk,λhs=>?_⟩
    obtain⟨hj,b,hρ,he⟩:=(bS hD.f hs hx).inv_c
    obtain⟨vl,junk,hh,hl,_⟩:=(hD.m.ok j T' e l hb).at hρ
    obtain⟨v,hv,hcase⟩:=hd hs D s.bl.length w vl hl
    refine⟨v,hv,λu hu=>aQh (p:=0) G (by rw[eP];exact he) (λi y hi=>?_) hcase⟩
    rw[eP]
    exact nR (by rw[(hu U).block b (iQ hh)];exact hh) hi
   exact h.elim
  ·next A n c e get j o hx=>
   obtain⟨d,hk,hd⟩:=aSy h
   refine⟨d,hk,λhs=>?_⟩
   obtain⟨hr,hj,b,o',hA,he⟩:=(bS hD.f hs hx).inv_c
   obtain⟨b2,o2,hA2,hZ,vl,hcell,hlen,hel⟩:=hr.elem hj
   rw[hA] at hA2
   injection hA2 with hA2
   injection hA2 with e1 e2
   subst e1 e2
   obtain⟨v,hv,hcase⟩:=hd D s.bl.length w vl (Hl.of_get hlen λi c y hc hy=>Hc.of_rc (hel i c y hc hy))
   refine⟨v,hv,λu hu=>aQh (p:=o'+j*e) G he (λi y hi=>?_) hcase⟩
   rw[zW ((hu U).block b hZ.lt)]
   exact(hcell i y hi).1
  ·next b o hx=>
   obtain⟨ff,j,h⟩:=h
   split at h
   ·next F hF=>
    cases hft:Nat.ble F.T 999999 with
    |false=>rw[hft] at h;exact h.elim
    |true=>
    rw[hft] at h
    obtain⟨hob,h⟩:=h
    have h':∃d,k d/\(sat f gs->∀(D:Pl) (n:Nat) (w:World) (vl:List Value),Hl D n w (F.get j) vl->∃v,Hd D n w d v/\((ti.agg=true/\v= .agg ((vl.drop o).take ti.size).toArray/\((vl.drop o).take ti.size).length=ti.size)\/(ti.agg=false/\vl[o]? =some v))):=by
     unfold ldS at h
     cases ha:ti.agg with
     |true=>
      rw[ha] at h
      obtain⟨r,h1,h2⟩:=h
      refine⟨_,h2,λhs D n w vl hl=>?_⟩
      obtain⟨h3,h4⟩:=kQ h1 (hp hs)
      subst h3
      refine⟨_,.a ((hl.drop o).take ti.size),.inl ⟨U,U,?_⟩⟩
      have:=hl.len
      simp only[bI,cP] at h4 ⊢
      omega
     |false=>
      rw[ha] at h
      obtain⟨c,h1,h2⟩:=h
      refine⟨_,h2,λhs D n w vl hl=>?_⟩
      obtain⟨v,h3,h4⟩:=hl.get (kQ h1 (hp hs))
      exact⟨v,.c h4,.inr ⟨U,h3⟩⟩
    obtain⟨d,hk,hd⟩:=h'
    refine⟨d,hk,λhs=>?_⟩
    obtain⟨hj,hA⟩:=kQ hob (hp hs)
    have he:=(bS hD.f hs hx).inv_c.inv_hp
    obtain⟨vl,junk,hh,hlen,hcl⟩:=(hD.m.fam.mem hD.l hF hj).at hA hft
    obtain⟨v,hv,hcase⟩:=hd hs D s.bl.length w vl (Hl.of_get hlen λi c y hc hy=>Hc.of_rc (hcl.1 i c y hc hy))
    refine⟨v,hv,λu hu=>aQh (p:=0) G (by rw[eP];exact he) (λi y hi=>?_) hcase⟩
    rw[eP]
    exact nR (by rw[(hu U).block b (iQ hh)];exact hh) hi
   exact h.elim
  exact h.elim
 exact h.elim
theorem aAx {ka:IntKind} {zz:Int} (h:arK pg ka zz k) (hp:sat f gs->aCi pg):∃d,k d/\(sat f gs->∃r,ka.wrap zz=r/\d= .c (.v (.int ka r))):=by
 obtain⟨r,h1,h2⟩:=h
 exact⟨_,h2,λhs=>⟨r,(kQ h1 (hp hs)).symm,U⟩⟩
include hT in
theorem aFi {op:BinOp} {p q:Prop} {ip:Decidable p} {iq:Decidable q} (h:aNn T t op p q ip iq k) (ex:sat f gs->ev f x= .bool (@decide p ip)) (ey:sat f gs->ev f y= .bool (@decide q iq)):Pu P f ⟨dst,.binOp op t x y t',ty,pos,aft,gd⟩ w D s.bl.length gs k:=by
 unfold aNn at h
 split at h
 ·next ti ht=>
  cases hb:ti.bo with
  |false=>rw[hb] at h;exact h.elim
  |true=>
   rw[hb] at h
   simp only[cond_true] at h
   have hu:=(hT t ti ht).bo hb
   split at h
   ·refine⟨_,h,λhs=>⟨_,.c (Rc.b _ _),λu _=>?_⟩⟩
    rw[bPj hu (ex hs) (ey hs)]
    by_cases p<;>by_cases q<;>simp_all
   ·refine⟨_,h,λhs=>⟨_,.c (Rc.b _ _),λu _=>?_⟩⟩
    rw[bPk hu (ex hs) (ey hs)]
    by_cases p<;>by_cases q<;>simp_all
   exact h.elim
 exact h.elim
theorem Hl.inv_vs {n:Nat}:∀{vs vl:List Value},Hl D n w (vs.map CV.v) vl->vl=vs
 |[],[],_=>rfl
 |[],_::_,h=>h.elim
 |_::_,[],h=>h.elim
 |v::vs,x::vl,h=>by rw[h.1.inv_v,Hl.inv_vs h.2]
theorem aIa {P:Program} (w:World) (d:Nat) (t e:TypeId) (h:P.underlying t=some (.pointer e)):(Op.equalIn (d+1) t (.pointer none) (.pointer none)).run P w= .ok true w:=by
 simp[Op.equalIn,run_underlying h]
theorem aIb {P:Program} (w:World) (d:Nat) (t e:TypeId) (a:Addr) (h:P.underlying t=some (.pointer e)):(Op.equalIn (d+1) t (.pointer (some a)) (.pointer none)).run P w= .ok false w:=by
 simp[Op.equalIn,run_underlying h]
include hT in
theorem bIa {op:BinOp} (h:bPv T t pg gs s op x y k) (hF:Fr s D w f) (hp:sat f gs->aCi pg):Pu P f ⟨dst,.binOp op t x y t',ty,pos,aft,gd⟩ w D s.bl.length gs k:=by
 unfold bPv at h
 split at h
 ·next ka a kb b hx hy=>
  cases hsh:bWi op with
  |true=>
   rw[hsh] at h
   simp only[cond_true] at h
   have ex:sat f gs->ev f x= .int ka a:=λhs=>(bS hF hs hx).inv_c.inv_v
   have ey:sat f gs->ev f y= .int kb b:=λhs=>(bS hF hs hy).inv_c.inv_v
   unfold shI at h
   split at h
   ·obtain⟨h0,h⟩:=h
    obtain⟨d,hd,hh⟩:=aAx h hp
    exact⟨d,hd,λhs=>by obtain⟨r,hr,rfl⟩:=hh hs;exact⟨_,.c (Rc.v _),λu _=>bVq (ex hs) (ey hs) (kQ h0 (hp hs)) hr⟩⟩
   ·obtain⟨h0,r,hr,h⟩:=h
    exact⟨_,h,λhs=>⟨_,.c (Rc.v _),λu _=>bVr (ex hs) (ey hs) (kQ h0 (hp hs)) (kQ hr (hp hs)).symm⟩⟩
   exact h.elim
  |false=>
  rw[hsh] at h
  simp only[cond_false] at h
  cases hk:decide (ka=kb) with
  |false=>rw[hk] at h;exact h.elim
  |true=>
   rw[hk] at h
   have hk':=of_decide_eq_true hk
   subst hk'
   simp only[cond_true] at h
   have ex:sat f gs->ev f x= .int ka a:=λhs=>(bS hF hs hx).inv_c.inv_v
   have ey:sat f gs->ev f y= .int ka b:=λhs=>(bS hF hs hy).inv_c.inv_v
   unfold bWh at h
   split at h
   ·exact⟨_,h,λhs=>⟨_,.c (Rc.b _ _),λu _=>bVt (ex hs) (ey hs)⟩⟩
   ·exact⟨_,h,λhs=>⟨_,.c (Rc.b _ _),λu _=>bVu (ex hs) (ey hs)⟩⟩
   ·exact⟨_,h,λhs=>⟨_,.c (Rc.b _ _),λu _=>bVv (ex hs) (ey hs)⟩⟩
   ·exact⟨_,h,λhs=>⟨_,.c (Rc.b _ _),λu _=>bVw (ex hs) (ey hs)⟩⟩
   ·exact⟨_,h,λhs=>⟨_,.c (Rc.b _ _),λu _=>bVx (ex hs) (ey hs)⟩⟩
   ·exact⟨_,h,λhs=>⟨_,.c (Rc.b _ _),λu _=>bVy (ex hs) (ey hs)⟩⟩
   ·obtain⟨d,hd,hh⟩:=aAx h hp
    exact⟨d,hd,λhs=>by obtain⟨r,hr,rfl⟩:=hh hs;exact⟨_,.c (Rc.v _),λu _=>bVl (ex hs) (ey hs) hr⟩⟩
   ·obtain⟨d,hd,hh⟩:=aAx h hp
    exact⟨d,hd,λhs=>by obtain⟨r,hr,rfl⟩:=hh hs;exact⟨_,.c (Rc.v _),λu _=>bVm (ex hs) (ey hs) hr⟩⟩
   ·obtain⟨d,hd,hh⟩:=aAx h hp
    exact⟨d,hd,λhs=>by obtain⟨r,hr,rfl⟩:=hh hs;exact⟨_,.c (Rc.v _),λu _=>bVn (ex hs) (ey hs) hr⟩⟩
   ·obtain⟨h0,h⟩:=h
    obtain⟨d,hd,hh⟩:=aAx h hp
    exact⟨d,hd,λhs=>by obtain⟨r,hr,rfl⟩:=hh hs;exact⟨_,.c (Rc.v _),λu _=>bVo (ex hs) (ey hs) (kQ h0 (hp hs)) hr⟩⟩
   ·obtain⟨h0,h⟩:=h
    exact⟨_,h,λhs=>⟨_,.c (Rc.v _),λu _=>bVp (ex hs) (ey hs) (kQ h0 (hp hs)) U⟩⟩
   ·obtain⟨d,hd,hh⟩:=aAx h hp
    exact⟨d,hd,λhs=>by obtain⟨r,hr,rfl⟩:=hh hs;exact⟨_,.c (Rc.v _),λu _=>cAw (ex hs) (ey hs) hr⟩⟩
   ·obtain⟨d,hd,hh⟩:=aAx h hp
    exact⟨d,hd,λhs=>by obtain⟨r,hr,rfl⟩:=hh hs;exact⟨_,.c (Rc.v _),λu _=>bVs (ex hs) (ey hs) hr⟩⟩
   exact h.elim
 ·next p hp' q hq' hx hy=>exact aFi hT h (λhs=>(bS hF hs hx).inv_c.inv_b) (λhs=>(bS hF hs hy).inv_c.inv_b)
 ·next p hp' q hx hy=>exact aFi hT h (λhs=>(bS hF hs hx).inv_c.inv_b) (λhs=>by rw[(bS hF hs hy).inv_c.inv_v];simp)
 ·next p q hq' hx hy=>exact aFi hT h (λhs=>by rw[(bS hF hs hx).inv_c.inv_v];simp) (λhs=>(bS hF hs hy).inv_c.inv_b)
 ·next a b hx hy=>
  have ex:sat f gs->ev f x= .string a:=λhs=>(bS hF hs hx).inv_c.inv_v
  have ey:sat f gs->ev f y= .string b:=λhs=>(bS hF hs hy).inv_c.inv_v
  split at h
  ·refine⟨_,h,λhs=>⟨_,.c (Rc.b _ _),λu _=>?_⟩⟩
   simp[execOp,ex hs,ey hs,eqGuard,binOp,Op.stringOp]
   rw[rN]
   simp
  ·refine⟨_,h,λhs=>⟨_,.c (Rc.b _ _),λu _=>?_⟩⟩
   simp[execOp,ex hs,ey hs,eqGuard,binOp,Op.stringOp]
   rw[rN]
   simp
  ·refine⟨_,h.2,λhs=>⟨_,.c (Rc.v _),λu _=>?_⟩⟩
   have hsz:=kQ h.1 (hp hs)
   have hno:¬(9223372036854775807:Int)<(a.size:Int)+(b.size:Int):=Uc
   simp[execOp,ex hs,ey hs,eqGuard,binOp,Op.stringOp,IntKind.max,hno]
   show(a.size:Int)+(b.size:Int)<=(9223372036854775807:Int)
   omega
  exact h.elim
 ·next A n c e' get hx hy=>
  split at h
  ·next ti hti=>
   cases he:ti.el with
   |none=>rw[he] at h;exact h.elim
   |some e=>
    rw[he] at h
    refine⟨_,h,λhs=>⟨_,.c (Rc.b _ _),λu _=>?_⟩⟩
    rw[aYb ((hT _ _ hti).el e he) (bS hF hs hx).inv_c.inv_r.1 (bS hF hs hy).inv_c.inv_v,Bool.decide_eq_true]
  exact h.elim
 ·next j o hx hy=>
  split at h
  ·next ti hti=>
   cases he:ti.pt with
   |false=>rw[he] at h;exact h.elim
   |true=>
    rw[he] at h
    obtain⟨e,hu⟩:=(hT _ _ hti).pt he
    refine⟨_,h,λhs=>⟨_,.c (Rc.v _),λu _=>?_⟩⟩
    obtain⟨-,b,-,ex⟩:=(bS hF hs hx).inv_c
    have ey:=(bS hF hs hy).inv_c.inv_v
    have h1:(Op.equalIn (9999+1) t (.pointer (some ⟨b,o,none⟩)) (.pointer none)).run P u= .ok false u:=aIb u 9999 t e _ hu
    simp only[execOp,ex,ey,eqGuard,binOp]
    simp[Op.equal,Op.maxDepth,h1]
  ·next ti hti=>
   cases he:ti.pt with
   |false=>rw[he] at h;exact h.elim
   |true=>
    rw[he] at h
    obtain⟨e,hu⟩:=(hT _ _ hti).pt he
    refine⟨_,h,λhs=>⟨_,.c (Rc.v _),λu _=>?_⟩⟩
    obtain⟨-,b,-,ex⟩:=(bS hF hs hx).inv_c
    have ey:=(bS hF hs hy).inv_c.inv_v
    have h1:(Op.equalIn (9999+1) t (.pointer (some ⟨b,o,none⟩)) (.pointer none)).run P u= .ok false u:=aIb u 9999 t e _ hu
    simp only[execOp,ex,ey,eqGuard,binOp]
    simp[Op.equal,Op.maxDepth,h1]
  exact h.elim
 ·next hx hy=>
  split at h
  ·next ti hti=>
   cases he:ti.pt with
   |false=>rw[he] at h;exact h.elim
   |true=>
    rw[he] at h
    obtain⟨e,hu⟩:=(hT _ _ hti).pt he
    refine⟨_,h,λhs=>⟨_,.c (Rc.v _),λu _=>?_⟩⟩
    have ex:=(bS hF hs hx).inv_c.inv_v
    have ey:=(bS hF hs hy).inv_c.inv_v
    have h1:(Op.equalIn (9999+1) t (.pointer none) (.pointer none)).run P u= .ok true u:=aIa u 9999 t e hu
    simp only[execOp,ex,ey,eqGuard,binOp]
    simp[Op.equal,Op.maxDepth,h1]
  ·next ti hti=>
   cases he:ti.pt with
   |false=>rw[he] at h;exact h.elim
   |true=>
    rw[he] at h
    obtain⟨e,hu⟩:=(hT _ _ hti).pt he
    refine⟨_,h,λhs=>⟨_,.c (Rc.v _),λu _=>?_⟩⟩
    have ex:=(bS hF hs hx).inv_c.inv_v
    have ey:=(bS hF hs hy).inv_c.inv_v
    have h1:(Op.equalIn (9999+1) t (.pointer none) (.pointer none)).run P u= .ok true u:=aIa u 9999 t e hu
    simp only[execOp,ex,ey,eqGuard,binOp]
    simp[Op.equal,Op.maxDepth,h1]
  exact h.elim
 ·next l1 l2 hx hy=>
  split at h
  ·next ti hti=>
   obtain⟨vs,h0,h⟩:=h
   refine⟨_,h,λhs=>⟨_,.c (Rc.v _),λu _=>?_⟩⟩
   obtain⟨e1,e2,e3⟩:=kQ h0 (hp hs)
   obtain⟨k1,k2⟩:=(hT _ _ hti).ck vs e3
   have ex:ev f x= .agg vs.toArray:=by
    obtain⟨vl,q1,q2⟩:=(bS hF hs hx).inv_a
    rw[e1] at q2
    rw[q1,q2.inv_vs]
   have ey:ev f y= .agg vs.toArray:=by
    obtain⟨vl,q1,q2⟩:=(bS hF hs hy).inv_a
    rw[e2] at q2
    rw[q1,q2.inv_vs]
   have k3:(Op.equalIn 10000 t (.agg vs.toArray) (.agg vs.toArray)).run P u= .ok true u:=k2 u
   simp only[execOp,ex,ey,Sem.run_bind,run_eqGuard_agg u _ _ _ _ _ _ k1,Result.andThen_ok,run_eql_struct,k3,Sem.run_pure]
  exact h.elim
 exact h.elim
theorem bQa {op:UnOp} (h:eUn pg gs s op x k) (hF:Fr s D w f) (hp:sat f gs->aCi pg):Pu P f ⟨dst,.unOp op t x,ty,pos,aft,gd⟩ w D s.bl.length gs k:=by
 unfold eUn at h
 split at h
 ·next p hh hx=>
  split at h
  ·refine⟨_,h,λhs=>⟨_,.c (Rc.b _ _),λu _=>?_⟩⟩
   rw[bMp (bS hF hs hx).inv_c.inv_b]
   simp
  exact h.elim
 ·next b hx=>
  split at h
  ·exact⟨_,h,λhs=>⟨_,.c (Rc.v _),λu _=>bMp (bS hF hs hx).inv_c.inv_v⟩⟩
  exact h.elim
 ·next ka a hx=>
  split at h
  ·obtain⟨d,hd,hh⟩:=aAx h hp
   exact⟨d,hd,λhs=>by obtain⟨r,hr,rfl⟩:=hh hs;exact⟨_,.c (Rc.v _),λu _=>bVz (bS hF hs hx).inv_c.inv_v hr⟩⟩
  exact h.elim
 exact h.elim
include hT in
theorem aZh (h:aYz T pg gs s t t' x k) (hF:Fr s D w f) (hp:sat f gs->aCi pg):Pu P f ⟨dst,.convert t t' x,ty,pos,aft,gd⟩ w D s.bl.length gs k:=by
 unfold aYz at h
 split at h
 ·next t1 ti h1 h2=>
  split at h
  ·next ka kk a hk hx=>
   obtain⟨d0,hd0⟩:=(hT t t1 h1).un
   obtain⟨d,hd,hh⟩:=aAx h hp
   exact⟨d,hd,λhs=>by obtain⟨r,hr,rfl⟩:=hh hs;exact⟨_,.c (Rc.v _),λu _=>bPl hd0 ((hT t' ti h2).ik _ hk) (bS hF hs hx).inv_c.inv_v hr⟩⟩
  exact h.elim
 exact h.elim
include hT in
theorem bIb (h:bPw T pg gs s t x y k) (hD:Dn ρ0 w0 nb s D f w) (hp:sat f gs->aCi pg):Pu P f ⟨dst,.indexAddr t x y,ty,pos,aft,gd⟩ w D s.bl.length gs k:=by
 unfold bPw at h
 split at h
 ·next ti ht=>
  split at h
  ·next e he=>
   have hu:=(hT t ti ht).el e he
   split at h
   ·next te A n c e' get kk zz hte hx hy=>
    obtain⟨z0,hty,_⟩:=(hT e te hte).ty
    cases hb:Nat.beq e' te.size with
    |false=>rw[hb] at h;exact h.elim
    |true=>
     rw[hb] at h
     have hb':=aM hb
     obtain⟨m,hm,h⟩:=(show ∃m:Nat,ob pg (zz=m/\m<n)/\k (.c (.q A n c e' get m 0)) from h)
     refine⟨_,h,λhs=>?_⟩
     obtain⟨hm1,hm2⟩:=kQ hm (hp hs)
     obtain⟨h1,h2⟩:=(bS hD.f hs hx).inv_c.inv_r
     obtain⟨b,o,hA,_⟩:=h2.elem hm2
     refine⟨.pointer (some ⟨b,o+m*e'+0,none⟩),.c ⟨h2,hm2,b,o,hA,U⟩,λu _=>?_⟩
     have hr:=tN (P:=P) (w:=u) (dst:=dst) (ty:=ty) (pos:=pos) (aft:=aft) (g:=gd) (b:=b) (o:=o) (n:=n) (c:=c) hu hty (by rw[h1,hA]) (bS hD.f hs hy).inv_c.inv_v oM oM
     rw[hm1,cN,<-hb'] at hr
     exact hr
   ·next te i n kk zz hte hx hy=>
    obtain⟨z0,hty,_⟩:=(hT e te hte).ty
    split at h
    ·next bb hbb=>
     obtain⟨T',es,l⟩:=bb
     obtain⟨m,hm,h⟩:=h
     refine⟨_,h,λhs=>?_⟩
     obtain⟨hm1,hm2,hm3⟩:=kQ hm (hp hs)
     obtain⟨hi,he⟩:=(bS hD.f hs hx).inv_c
     have hq:=hD.m.ok i T' es l hbb
     cases hb:(D i).1 with
     |none=>
      unfold Bq at hq
      simp only[hb] at hq
      rw[hq.1] at hm3
      exact U4 hm3 (aF _)
     |some b=>
      rw[hb] at he
      refine⟨.pointer (some ⟨b,m*te.size,none⟩),.c ⟨hi,b,hb,U⟩,λu _=>?_⟩
      have hr:=tN (P:=P) (w:=u) (dst:=dst) (ty:=ty) (pos:=pos) (aft:=aft) (g:=gd) (b:=b) (o:=0) (n:=n) (c:=(D i).2) hu hty he (bS hD.f hs hy).inv_c.inv_v oM oM
      rw[hm1,cN,eP] at hr
      exact hr
    exact h.elim
   ·next te A n c kk zz hte hx hy=>
    obtain⟨z0,hty,_⟩:=(hT e te hte).ty
    obtain⟨m,b,hm,h⟩:=h
    refine⟨_,h,λhs=>?_⟩
    obtain⟨hm1,hm2,hA⟩:=kQ hm (hp hs)
    subst hA
    refine⟨.pointer (some ⟨b,m*te.size,none⟩),.c (Rc.hp _ _),λu _=>?_⟩
    have hr:=tN (P:=P) (w:=u) (dst:=dst) (ty:=ty) (pos:=pos) (aft:=aft) (g:=gd) (b:=b) (o:=0) (n:=n) (c:=c) hu hty (bS hD.f hs hx).inv_c.inv_h (bS hD.f hs hy).inv_c.inv_v oM oM
    rw[hm1,cN,eP] at hr
    exact hr
   ·next te i o n kk zz hte hx hy=>
    obtain⟨z0,hty,_⟩:=(hT e te hte).ty
    obtain⟨m,hm,h⟩:=h
    refine⟨_,h,λhs=>?_⟩
    obtain⟨hm1,hm2⟩:=kQ hm (hp hs)
    obtain⟨hi,A,c,hc1,hc2,rfl',hA⟩:=(bS hD.f hs hx).inv_c
    rcases hA with h0|⟨b,hb,hA⟩
    ·omega
    subst hA
    refine⟨.pointer (some ⟨b,o+m*te.size,none⟩),.c ⟨hi,b,hb,U⟩,λu _=>?_⟩
    have hr:=tN (P:=P) (w:=u) (dst:=dst) (ty:=ty) (pos:=pos) (aft:=aft) (g:=gd) (b:=b) (o:=o) (n:=n) (c:=c) hu hty rfl' (bS hD.f hs hy).inv_c.inv_v oM oM
    rw[hm1,cN] at hr
    exact hr
   exact h.elim
  exact h.elim
 exact h.elim
theorem aAy {u:World} {kk:IntKind} {i:Int} {b o n size bytes:Nat} {zz:Value} {e:TypeId} (hu:P.underlying t=some (.array n e)) (ht:TyI P e size bytes zz) (hx:ev f x= .pointer (some ⟨b,o,none⟩)) (hy:ev f y= .int kk i) (h0:0<=i) (h1:i<n):
 (execOp (ev f) ⟨dst,.indexAddr t x y,ty,pos,aft,gd⟩).run P u= .ok (.value (.pointer (some ⟨b,o+i.toNat*size,none⟩))) u:=by
 obtain⟨ii,hi,_,hs,_⟩:=ht.ex
 simp[execOp,hx,hy,Instr.indexAt,Instr.sureAddr,asIntOf,run_underlying hu,sizeOf,typeInfo,hi,hs,h0,h1,gD]
include hT in
theorem aZi (h:aZa T pg gs s t x y k) (hF:Fr s D w f) (hp:sat f gs->aCi pg):Pu P f ⟨dst,.indexAddr t x y,ty,pos,aft,gd⟩ w D s.bl.length gs k:=by
 unfold aZa at h
 split at h
 ·next ti ht=>
  split at h
  ·next n e es i o kk z har hx hy=>
   obtain⟨hu,by',zz,hty⟩:=(hT t ti ht).ar n e es har
   obtain⟨m,hm,h⟩:=h
   refine⟨_,h,λhs=>?_⟩
   obtain⟨hm1,hm2⟩:=kQ hm (hp hs)
   obtain⟨hi,b,hb,he⟩:=(bS hF hs hx).inv_c
   refine⟨.pointer (some ⟨b,o+m*es,none⟩),.c ⟨hi,b,hb,U⟩,λu _=>?_⟩
   have hr:=aAy (P:=P) (u:=u) (dst:=dst) (ty:=ty) (pos:=pos) (aft:=aft) (gd:=gd) hu hty he (bS hF hs hy).inv_c.inv_v oM oM
   rw[hm1,cN] at hr
   exact hr
  ·next n e es A nn c e' get j o kk z har hx hy=>
   obtain⟨hu,by',zz,hty⟩:=(hT t ti ht).ar n e es har
   obtain⟨m,hm,h⟩:=h
   refine⟨_,h,λhs=>?_⟩
   obtain⟨hm1,hm2⟩:=kQ hm (hp hs)
   obtain⟨hr0,hj,b,o',hA,he⟩:=(bS hF hs hx).inv_c
   refine⟨.pointer (some ⟨b,o'+j*e'+(o+m*es),none⟩),.c ⟨hr0,hj,b,o',hA,U⟩,λu _=>?_⟩
   have hr:=aAy (P:=P) (u:=u) (dst:=dst) (ty:=ty) (pos:=pos) (aft:=aft) (gd:=gd) hu hty he (bS hF hs hy).inv_c.inv_v oM oM
   rw[hm1,cN,jF (o'+j*e')] at hr
   exact hr
  exact h.elim
 exact h.elim
include hT in
theorem aZj (h:aZb T pg gs s t x y k) (hF:Fr s D w f) (hp:sat f gs->aCi pg):Pu P f ⟨dst,.index t x y,ty,pos,aft,gd⟩ w D s.bl.length gs k:=by
 unfold aZb at h
 split at h
 ·next ti ht=>
  cases hb:ti.str with
  |false=>rw[hb] at h;exact h.elim
  |true=>
   rw[hb] at h
   simp only[cond_true] at h
   split at h
   ·next a kk z hx hy=>
    obtain⟨m,b,hm,h⟩:=h
    refine⟨_,h,λhs=>?_⟩
    obtain⟨hm1,hm2⟩:=kQ hm (hp hs)
    refine⟨_,.c (Rc.v _),λu _=>?_⟩
    have hx':=(bS hF hs hx).inv_c.inv_v
    have hy':=(bS hF hs hy).inv_c.inv_v
    have h0:0<=z:=Uc
    have hz:z.toNat=m:=Uc
    simp[execOp,hx',hy',Instr.index,asIntOf,run_underlying ((hT t ti ht).str hb),h0,hz,hm2]
   exact h.elim
 exact h.elim
theorem bWj {i n e:Nat} {Tb:TypeId} {lb:List CV} (hD:Dn ρ0 w0 nb s D f w) (hbb:s.bl[i]? =some (Tb,e,lb)) (hpos:0<e) (hm3:n*e<=lb.length):n<=(D i).2/\(D i).2<=maxLen/\(n≠0->∃b,(D i).1=some b):=by
 have hq:=hD.m.ok i Tb e lb hbb
 unfold Bq at hq
 cases hρ:(D i).1 with
 |none=>
  simp only[hρ] at hq
  rw[hq.1] at hm3
  have:n=0:=by
   rcases cL n with h0|h0
   ·exact h0
   have:=gB h0 hpos;simp at hm3;omega
  exact⟨Uc,by rw[hq.2.1];exact aB _,λh=>U4 this h⟩
 |some b=>
  simp only[hρ] at hq
  obtain⟨vl,junk,_,q2,q3,_⟩:=hq
  have h1:=(q3 hpos).1
  have h2:=q2.len
  rw[aD] at h1
  have h3:n*e<=(D i).2*e:=Uc
  exact⟨eS h3 hpos,(q3 hpos).2,λ_=>⟨b,U⟩⟩
include hT in
theorem bQb {lo hi:Option Operand} (h:eSl T pg gs s t x lo hi k) (hD:Dn ρ0 w0 nb s D f w) (hp:sat f gs->aCi pg):Pu P f ⟨dst,.slice t x lo hi none,ty,pos,aft,gd⟩ w D s.bl.length gs k:=by
 have hF:=hD.f
 unfold eSl at h
 split at h
 ·next ti ht=>
  split at h
  ·next e he=>
   have hu:=(hT t ti ht).el e he
   split at h
   ·next te A n c e' get hte hx=>
    obtain⟨zz,hty,_⟩:=(hT e te hte).ty
    cases hb:Nat.beq e' te.size with
    |false=>rw[hb] at h;exact h.elim
    |true=>
     rw[hb] at h
     simp only[cond_true] at h
     have hb':=aM hb
     split at h
     ·next y=>
      split at h
      ·next kk z hy=>
       obtain⟨m,hm,h⟩:=h
       refine⟨_,h,λhs=>?_⟩
       obtain⟨hm1,hm2⟩:=kQ hm (hp hs)
       obtain⟨e1,e2⟩:=(bS hF hs hx).inv_c.inv_r
       have hcn:n<=c/\c<=maxLen:=by
        cases e2 with
        |nil A c e get hm=>exact⟨aB _,hm⟩
        |r b o n c e get V hc hm=>exact⟨hc,hm⟩
       refine⟨.slice A m c,.c (Hc.of_rc ?_),λu _=>?_⟩
       ·cases e2 with
        |nil A c e get hmx=>
         have:m=0:=Uc
         subst this
         exact Rc.nil _ _ _ _ hmx
        |r b o n c e get V hc hmx hZ hcell hlen hel=>exact Rc.r b o m c e' get V oM hmx hZ (λj hj=>hcell j oM) (λj hj=>hlen j oM) (λj hj=>hel j oM)
       have hr:=aHq (P:=P) (w:=u) (dst:=dst) (ty:=ty) (pos:=pos) (aft:=aft) (g:=gd) hu hty e1 (bS hF hs hy).inv_c.inv_v oM oM
       rw[hm1,cN] at hr
       exact hr
      exact h.elim
     ·next y=>
      split at h
      ·next kk z hy=>
       obtain⟨m,hm,h⟩:=h
       refine⟨_,h,λhs=>?_⟩
       obtain⟨hm1,hm2⟩:=kQ hm (hp hs)
       obtain⟨e1,e2⟩:=(bS hF hs hx).inv_c.inv_r
       refine⟨.slice (slA A c m e') (n-m) (c-m),.c (Hc.of_rc ?_),λu _=>?_⟩
       ·cases e2 with
        |nil A c e get hmx=>rw[Nat.zero_sub];exact Rc.nil _ _ _ _ oM
        |r b o n c e get V hc hmx hZ hcell hlen hel=>
         by_cases h0:n-m=0
         ·rw[h0];exact Rc.nil _ _ _ _ oM
         have hA:slA (some ⟨b,o,none⟩) c m e'=some ⟨b,o+m*e',none⟩:=by
          unfold slA
          rw[U2 oM]
          simp[gD]
         rw[hA]
         refine Rc.r b (o+m*e') (n-m) (c-m) e' (λj=>get (j+m)) (λj=>V (j+m)) oM oM hZ (λj hj i u hu=>?_) (λj hj=>hlen (j+m) oM) (λj hj=>hel (j+m) oM)
         have:=hcell (j+m) oM i u hu
         rw[show o+m*e'+j*e'+i=o+(j+m)*e'+i by rw[dE];omega]
         exact this
       have hr:=aHr (P:=P) (w:=u) (dst:=dst) (ty:=ty) (pos:=pos) (aft:=aft) (g:=gd) hu hty e1 (bS hF hs hy).inv_c.inv_v oM oM
       rw[hm1,cN,<-hb'] at hr
       exact hr
      exact h.elim
     exact h.elim
   ·next te i n hte hx=>
    obtain⟨zz,hty,_⟩:=(hT e te hte).ty
    split at h
    ·next bb hbb=>
     obtain⟨Tb,eb,lb⟩:=bb
     cases hb:(Nat.beq eb te.size&&Nat.ble 1 te.size) with
     |false=>simp only[hb,cond_false] at h
     |true=>
      simp only[hb,cond_true] at h
      simp only[aQ] at hb
      have hb':=aM hb.1
      subst hb'
      have hpos:=bT hb.2
      split at h
      ·next y=>
       split at h
       ·next kk z hy=>
        obtain⟨m,hm,h⟩:=h
        refine⟨_,h,λhs=>?_⟩
        obtain⟨hm1,hm2⟩:=kQ hm (hp hs)
        obtain⟨hi,he⟩:=(bS hF hs hx).inv_c
        have hcap:m<=(D i).2:=by
         have hq:=hD.m.ok i Tb te.size lb hbb
         unfold Bq at hq
         cases hρ:(D i).1 with
         |none=>
          simp only[hρ] at hq
          rw[hq.1] at hm2
          have:m=0:=by
           rcases cL m with h0|h0
           ·exact h0
           have:=gB h0 hpos;simp at hm2;omega
          omega
         |some b=>
          simp only[hρ] at hq
          obtain⟨vl,junk,_,q2,q3,_⟩:=hq
          have h1:=(q3 hpos).1
          have h2:=q2.len
          rw[aD] at h1
          have h3:m*te.size<=(D i).2*te.size:=Uc
          exact eS h3 hpos
        refine⟨.slice ((D i).1.map λb=>⟨b,0,none⟩) m (D i).2,.c ⟨hi,U⟩,λu _=>?_⟩
        have hr:=aHq (P:=P) (w:=u) (dst:=dst) (ty:=ty) (pos:=pos) (aft:=aft) (g:=gd) hu hty he (bS hF hs hy).inv_c.inv_v oM oM
        rw[hm1,cN] at hr
        exact hr
       exact h.elim
      ·next y=>
       split at h
       ·next kk z hy=>
        obtain⟨l,hm,h⟩:=h
        refine⟨_,h,λhs=>?_⟩
        obtain⟨hm1,hm2,hm3⟩:=kQ hm (hp hs)
        obtain⟨hi,he⟩:=(bS hF hs hx).inv_c
        have hcap:=bWj hD hbb hpos hm3
        refine⟨.slice (if (D i).2=l then (D i).1.map (λb=>(⟨b,0,none⟩:Addr)) else ((D i).1.map λb=>(⟨b,0,none⟩:Addr)).map (·.add (l*te.size))) (n-l) ((D i).2-l),.c ⟨hi,_,_,Uc,Uc,U,?_⟩,λu _=>?_⟩
        ·by_cases h0:n-l=0
         ·exact .inl h0
         obtain⟨b,hb⟩:=hcap.2.2 oM
         refine .inr ⟨b,hb,?_⟩
         rw[U2 oM,hb]
         simp[gD]
        have hr:=aHr (P:=P) (w:=u) (dst:=dst) (ty:=ty) (pos:=pos) (aft:=aft) (g:=gd) hu hty he (bS hF hs hy).inv_c.inv_v oM oM
        rw[hm1,cN] at hr
        exact hr
       exact h.elim
      ·next y y'=>
       split at h
       ·next kk z kk' z' hy hy'=>
        obtain⟨l,g,hm,h⟩:=h
        refine⟨_,h,λhs=>?_⟩
        obtain⟨⟨hm1,hm4⟩,hm2,hm5,hm3⟩:=kQ hm (hp hs)
        obtain⟨hi,he⟩:=(bS hF hs hx).inv_c
        obtain⟨hcap,hcap2,hcap3⟩:=bWj hD hbb hpos hm3
        refine⟨.slice (if (D i).2=l then (D i).1.map (λb=>(⟨b,0,none⟩:Addr)) else ((D i).1.map λb=>(⟨b,0,none⟩:Addr)).map (·.add (l*te.size))) (g-l) ((D i).2-l),.c ⟨hi,_,_,Uc,Uc,U,?_⟩,λu _=>?_⟩
        ·by_cases h0:g-l=0
         ·exact .inl h0
         obtain⟨b,hb⟩:=hcap3 oM
         refine .inr ⟨b,hb,?_⟩
         rw[U2 oM,hb]
         simp[gD]
        have hr:=aQa (P:=P) (w:=u) (dst:=dst) (ty:=ty) (pos:=pos) (aft:=aft) (g:=gd) hu hty he (bS hF hs hy).inv_c.inv_v (bS hF hs hy').inv_c.inv_v oM oM oM
        rw[hm1,hm4,cN,cN] at hr
        exact hr
       exact h.elim
      exact h.elim
    exact h.elim
   exact h.elim
  cases hb:ti.str with
  |false=>rw[hb] at h;exact h.elim
  |true=>
   rw[hb] at h
   simp only[cond_true] at h
   split at h
   ·next a y y' hx=>
    split at h
    ·next k1 z k2 z' hy hy'=>
     obtain⟨l,m,hm,h⟩:=h
     refine⟨_,h,λhs=>⟨_,.c (Rc.v _),λu _=>?_⟩⟩
     obtain⟨h1,h2,h3,h4⟩:=kQ hm (hp hs)
     subst h1 h2
     have e1:=(bS hF hs hx).inv_c.inv_v
     have e2:=(bS hF hs hy).inv_c.inv_v
     have e3:=(bS hF hs hy').inv_c.inv_v
     have hno:¬(a.size:Int)<(m:Int):=Uc
     have hno2:¬(m:Int)<(l:Int):=Uc
     simp[execOp,e1,e2,e3,Instr.sliceAt,Instr.slice,Instr.sliceBounds,Instr.sliceBound,asIntOf,run_underlying ((hT t ti ht).str hb),hno,hno2,h3,h4]
    exact h.elim
   exact h.elim
 exact h.elim
include hT in
theorem aZk {i:Nat} (h:aZc T gs s t x i k) (hF:Fr s D w f):Pu P f ⟨dst,.field t x i,ty,pos,aft,gd⟩ w D s.bl.length gs k:=by
 unfold aZc at h
 split at h
 ·next ti ht=>
  split at h
  ·next fi hfi=>
   split at h
   ·next l hx=>
    rcases (hT t ti ht).fs with h0|⟨F,hFF,_,hh⟩
    ·rw[h0] at hfi;cases hfi
    obtain⟨fl,h1,h2,h3,h4,⟨dd,h5⟩,by',zz,h6⟩:=hh i fi hfi
    obtain⟨d,hk,hd⟩:=aSy h
    refine⟨d,hk,λhs=>?_⟩
    obtain⟨vl,he,hl⟩:=(bS hF hs hx).inv_a
    obtain⟨v,hv,hcase⟩:=hd D s.bl.length w vl hl
    refine⟨v,hv,λu _=>?_⟩
    rw[<-h3] at h4 h5 h6
    rcases hcase with ⟨ha,rfl,hlen⟩|⟨ha,hv⟩
    ·have hr:=aXx (P:=P) (w:=u) (dst:=dst) (ty:=ty) (pos:=pos) (aft:=aft) (g:=gd) hFF h1 h5 (h4.trans ha) h6 he
     rw[hr,h2]
     simp
    exact bHe hFF h1 h5 (h4.trans ha) he (by rw[h2];simpa using hv)
   exact h.elim
  exact h.elim
 exact h.elim
theorem bIc {i:Nat} (h:bPx gs s x i k) (hF:Fr s D w f):Pu P f ⟨dst,.extract x i,ty,pos,aft,gd⟩ w D s.bl.length gs k:=by
 unfold bPx at h
 split at h
 ·next l hx=>
  split at h
  ·next d hd=>
   refine⟨d,h,λhs=>?_⟩
   obtain⟨vl,he,hlen,hh⟩:=(bS hF hs hx).inv_t
   have hlt:i<vl.length:=by rw[<-hlen];exact eH hd
   exact⟨vl[i],hh i d _ hd (aG hlt),λu _=>aWg he (by simp[hlt])⟩
  exact h.elim
 exact h.elim
theorem bQc {u:World} {a:ByteArray} (ht:P.underlying t=some .string) (hx:ev f x= .string a):(execOp (ev f) ⟨dst,.call ⟨.builtin .len,#[x],#[t]⟩,ty,pos,aft,gd⟩).run P u= .ok (.value (.int .i64 a.size)) u:=by
 simp[execOp,resolve,invoke,builtin,Builtin.len_,run_underlying ht,hx,goInt]
include hT in
theorem bId (h:bPy T gs s t x k) (hF:Fr s D w f):Pu P f ⟨dst,.call ⟨.builtin .len,#[x],#[t]⟩,ty,pos,aft,gd⟩ w D s.bl.length gs k:=by
 unfold bPy at h
 split at h
 ·next ti ht=>
  have hel:∀{b:Bool} {q:Prop},(bif ti.el.isSome then q else False)->q/\∃e,P.underlying t=some (.slice e):=λ{_ q} hq=>by
   cases he:ti.el with
   |none=>rw[he] at hq;exact hq.elim
   |some e=>rw[he] at hq;exact⟨hq,e,(hT t ti ht).el e he⟩
  split at h
  ·next A n c e get hx=>
   obtain⟨h,e,hu⟩:=hel (b:=true) h
   exact⟨_,h,λhs=>⟨_,.c (Rc.v _),λu _=>aSm hu (bS hF hs hx).inv_c.inv_r.1⟩⟩
  ·next i n hx=>
   obtain⟨h,e,hu⟩:=hel (b:=true) h
   exact⟨_,h,λhs=>⟨_,.c (Rc.v _),λu _=>aSm hu (bS hF hs hx).inv_c.2⟩⟩
  ·next A n c hx=>
   obtain⟨h,e,hu⟩:=hel (b:=true) h
   exact⟨_,h,λhs=>⟨_,.c (Rc.v _),λu _=>aSm hu (bS hF hs hx).inv_c.inv_h⟩⟩
  ·next A n c hx=>
   obtain⟨h,e,hu⟩:=hel (b:=true) h
   exact⟨_,h,λhs=>⟨_,.c (Rc.v _),λu _=>aSm hu (bS hF hs hx).inv_c.inv_v⟩⟩
  ·next a hx=>
   cases hb:ti.str with
   |false=>rw[hb] at h;exact h.elim
   |true=>
    rw[hb] at h
    exact⟨_,h,λhs=>⟨_,.c (Rc.v _),λu _=>bQc ((hT t ti ht).str hb) (bS hF hs hx).inv_c.inv_v⟩⟩
  exact h.elim
 exact h.elim
theorem aZl {mx:Bool} (h:eMm mx gs s x y k) (hF:Fr s D w f):Pu P f ⟨dst,.call ⟨.builtin (bif mx then .max else .min),#[x,y],#[t,t']⟩,ty,pos,aft,gd⟩ w D s.bl.length gs k:=by
 unfold eMm at h
 split at h
 ·next ka a kb b hx hy=>
  cases hk:decide (ka=kb) with
  |false=>rw[hk] at h;exact h.elim
  |true=>
   rw[hk] at h
   have hk':=of_decide_eq_true hk
   subst hk'
   refine⟨_,h,λhs=>⟨_,.c (Rc.v _),λu _=>?_⟩⟩
   cases mx
   ·have:=bPn (P:=P) (w:=u) (dst:=dst) (ty:=ty) (pos:=pos) (aft:=aft) (g:=gd) (t:=t) (t':=t') (bS hF hs hx).inv_c.inv_v (bS hF hs hy).inv_c.inv_v
    rw[show(if b<a then b else a)=min a b by omega] at this
    exact this
   have:=bPm (P:=P) (w:=u) (dst:=dst) (ty:=ty) (pos:=pos) (aft:=aft) (g:=gd) (t:=t) (t':=t') (bS hF hs hx).inv_c.inv_v (bS hF hs hy).inv_c.inv_v
   rw[show(if b>a then b else a)=max a b by omega] at this
   exact this
 exact h.elim
theorem uT {t:Nat} {b:Bool} (h:f t= .bool b) (hs:sat f gs):sat f ((t,b)::gs):=λp hp=>by
 rcases bW.1 hp with rfl|hp
 ·exact h
 exact hs p hp
theorem aZm (h:aZd gs s x y z k) (hF:Fr s D w f):Pu P f ⟨dst,.pick x y z,ty,pos,aft,gd⟩ w D s.bl.length gs k:=by
 unfold aZd at h
 split at h
 ·next tt=>
  split at h
  ·next b hx=>
   cases b with
   |true=>
    simp only[cond_true] at h
    unfold aDp at h
    split at h
    ·next d hy=>
     refine⟨d,h,λhs=>?_⟩
     have e:ev f (.tmp tt)= .bool true:=(bS hF hs hx).inv_c.inv_v
     exact⟨_,bS hF (uT e hs) hy,λu _=>aMw e U⟩
    exact h.elim
   |false=>
    simp only[cond_false] at h
    unfold aDp at h
    split at h
    ·next d hy=>
     refine⟨d,h,λhs=>?_⟩
     have e:ev f (.tmp tt)= .bool false:=(bS hF hs hx).inv_c.inv_v
     exact⟨_,bS hF (uT e hs) hy,λu _=>aMx e U⟩
    exact h.elim
  ·next c hnot hx=>
   split at h
   ·next p q hy hz=>
    have key:∀(pp:Prop) (hp:Decidable pp) (d:DV),c= .c (.b pp hp)->(pp->∀v,Hd D s.bl.length w p v->Hd D s.bl.length w d v)->(¬pp->∀v,Hd D s.bl.length w q v->Hd D s.bl.length w d v)->sat f gs->Cal P f ⟨dst,.pick (.tmp tt) y z,ty,pos,aft,gd⟩ w D s.bl.length d:=by
     intro pp hp d hc h1 h2 hs
     subst hc
     have e:ev f (.tmp tt)= .bool (decide pp):=(bS hF hs hx).inv_c.inv_b
     by_cases hpp:pp
     ·rw[decide_eq_true hpp] at e
      exact⟨_,h1 hpp _ (bS hF (uT e hs) hy),λu _=>aMw e U⟩
     rw[decide_eq_false hpp] at e
     exact⟨_,h2 hpp _ (bS hF (uT e hs) hz),λu _=>aMx e U⟩
    have bd:∀{a b:Prop} {ha:Decidable a} {hb:Decidable b} {v:Value},(a↔b)->Hd D s.bl.length w (.c (.b a ha)) v->Hd D s.bl.length w (.c (.b b hb)) v:=λ{a b ha hb v} hab hv=>by
     have:=hv.inv_c.inv_b
     subst this
     have:decide a=decide b:=decide_eq_decide.2 hab
     rw[this]
     exact .c (Rc.b _ _)
    have bl:∀{a:Bool} {b:Prop} {hb:Decidable b} {v:Value},(a=true↔b)->Hd D s.bl.length w (.c (.v (.bool a))) v->Hd D s.bl.length w (.c (.b b hb)) v:=λ{a b hb v} hab hv=>by
     have:=hv.inv_c.inv_v
     subst this
     have:a=decide b:=by rw[rN,hab];simp
     rw[this]
     exact .c (Rc.b _ _)
    unfold bMr at h
    split at h
    ·next pp hp qq hq zb=>
     cases zb
     ·exact⟨_,h,key pp hp _ U (λh1 v hv=>bd (by simp[h1]) hv) (λh1 v hv=>bl (by simp[h1]) hv)⟩
     exact⟨_,h,key pp hp _ U (λh1 v hv=>bd (by simp[h1]) hv) (λh1 v hv=>bl (by simp[h1]) hv)⟩
    ·next pp hp yb qq hq=>
     cases yb
     ·exact⟨_,h,key pp hp _ U (λh1 v hv=>bl (by simp[h1]) hv) (λh1 v hv=>bd (by simp[h1]) hv)⟩
     exact⟨_,h,key pp hp _ U (λh1 v hv=>bl (by simp[h1]) hv) (λh1 v hv=>bd (by simp[h1]) hv)⟩
    ·next pp hp qq hq rr hr=>
     exact⟨_,h,key pp hp _ U (λh1 v hv=>bd (by simp[h1]) hv) (λh1 v hv=>bd (by simp[h1]) hv)⟩
    ·next pp hp yb zb=>
     cases yb<;>cases zb<;>first|exact h.elim|exact⟨_,h,key pp hp _ U (λ_ v hv=>hv) (λ_ v hv=>hv)⟩|exact⟨_,h,key pp hp _ U (λh1 v hv=>bl (by simp[h1]) hv) (λh1 v hv=>bl (by simp[h1]) hv)⟩
    exact h.elim
   exact h.elim
  exact h.elim
 exact h.elim
theorem aSz {l:List Operand} {kk:List (Nat×Nat)->Prop} (h:aZe gs s l kk) (hF:Fr s D w f):∃r,kk r/\(sat f gs->(∀p∈r,p.1<s.bl.length/\(D p.1).1≠none)/\l.map (ev f)=r.map (ptr D)):=by
 induction l generalizing kk with
 |nil=>exact⟨[],h,λ_=>⟨λp hp=>U4 hp dI,U⟩⟩
 |cons x l ih=>
  unfold aZe at h
  split at h
  ·next i o hx=>
   obtain⟨r,h1,h2⟩:=ih h
   refine⟨_,h1,λhs=>?_⟩
   obtain⟨h3,h4⟩:=h2 hs
   obtain⟨hi,b,hb,he⟩:=(bS hF hs hx).inv_c
   refine⟨λp hp=>?_,by rw[eQ,eQ,h4,he];simp[ptr,hb]⟩
   rcases bW.1 hp with rfl|hp
   ·exact⟨hi,by simp[hb]⟩
   exact h3 p hp
  exact h.elim
theorem bIe {fn:Fn} {fi ca:List Operand} (h:bPz gs s fn fi ca k) (hF:Fr s D w f):Pu P f ⟨dst,.makeFunc fn fi.toArray ca.toArray,ty,pos,aft,gd⟩ w D s.bl.length gs k:=by
 unfold bPz at h
 split at h
 ·next q=>
  obtain⟨a,h1,ha⟩:=aSz h hF
  obtain⟨b,h2,hb⟩:=aSz h1 hF
  refine⟨_,h2,λhs=>?_⟩
  obtain⟨a1,a2⟩:=ha hs
  obtain⟨b1,b2⟩:=hb hs
  refine⟨_,.c ⟨λp hp=>?_,U⟩,λu _=>by simp[execOp,Instr.makeFunc,a2,b2]⟩
  rcases aO.1 hp with hp|hp
  ·exact a1 p hp
  exact b1 p hp
 exact h.elim
end ops
/-! ### lists whose spine is computed at once -/
def ovK:List CV->List CV->(List CV->Prop)->Prop
 |l,[],k=>k l
 |_::l,v::vs,k=>ovK l vs λr=>k (v::r)
 |[],_::_,_=>False
def aZn:Nat->List CV->List CV->(List CV->Prop)->Prop
 |0,l,vs,k=>ovK l vs k
 |o+1,c::l,vs,k=>aZn o l vs λr=>k (c::r)
 |_+1,[],_,_=>False
def mJ (l:List CV) (o:Nat) (vs:List CV):List CV:=l.take o++(vs++l.drop (o+vs.length))
theorem aZo:∀{l vs:List CV} {k:List CV->Prop},ovK l vs k->vs.length<=l.length/\k (vs++l.drop vs.length)
 |l,[],k,h=>by cases l<;>exact⟨aB _,by simpa[ovK] using h⟩
 |[],v::vs,k,h=>h.elim
 |c::l,v::vs,k,h=>by
  obtain⟨h1,h2⟩:=aZo (l:=l) (vs:=vs) h
  exact⟨vP h1,by simpa using h2⟩
theorem aJg:∀{o:Nat} {l vs:List CV} {k:List CV->Prop},aZn o l vs k->o+vs.length<=l.length/\k (mJ l o vs)
 |0,l,vs,k,h=>by
  obtain⟨h1,h2⟩:=aZo (show ovK l vs k from by cases l<;>exact h)
  exact⟨Uc,by simpa[mJ] using h2⟩
 |o+1,[],vs,k,h=>h.elim
 |o+1,c::l,vs,k,h=>by
  obtain⟨h1,h2⟩:=aJg (o:=o) (l:=l) (vs:=vs) h
  refine⟨by simp only[eG];omega,?_⟩
  have e:mJ (c::l) (o+1) vs=c::mJ l o vs:=by
   simp[mJ,show o+1+vs.length=(o+vs.length)+1 by omega]
  rw[e]
  exact h2
theorem aJh {D:Pl} {n:Nat} {w:World} {l vs:List CV} {vl us:List Value} (o:Nat) (h:Hl D n w l vl) (h2:Hl D n w vs us):Hl D n w (mJ l o vs) (spl vl o us):=by
 unfold mJ spl
 rw[h2.len,cW]
 exact(h.take o).append (h2.append (h.drop _))
def rO {I:Type}:List I->I->(List I->Prop)->Prop
 |[],x,k=>k [x]
 |a::l,x,k=>rO l x λr=>k (a::r)
theorem mP {I:Type}:∀{l:List I} {x:I} {k:List I->Prop},rO l x k->k (l++[x])
 |[],x,k,h=>h
 |a::l,x,k,h=>mP (l:=l) h
def nK {I:Type}:List I->Nat->I->(List I->Prop)->Prop
 |[],_,_,k=>k []
 |_::l,0,x,k=>k (x::l)
 |a::l,i+1,x,k=>nK l i x λr=>k (a::r)
theorem iL {I:Type}:∀{l:List I} {i:Nat} {x:I} {k:List I->Prop},nK l i x k->k (l.set i x)
 |[],_,_,_,h=>h
 |_::l,0,x,k,h=>h
 |a::l,i+1,x,k,h=>iL (l:=l) h
def cnt {I:Type}:List I->Nat->Nat
 |[],n=>n
 |_::l,n=>cnt l (n+1)
theorem aZp {I:Type}:∀(l:List I) (n:Nat),cnt l n=n+l.length
 |[],n=>rfl
 |_::l,n=>by
  show cnt l (n+1)=_
  rw[aZp l (n+1),eG]
  omega
theorem zD {I:Type} (l:List I):cnt l 0=l.length:=by rw[aZp,eP]
def cellsOf:DV->List CV
 |.a l=>l
 |.c c=>[c]
 |.t _=>[]
def aDw:CV->Bool
 |.u=>false
 |.t _ _ _=>false
 |.v x=>x.oneCell'
 |_=>true
def fS:CV->Bool
 |.u=>true
 |.v _=>true
 |.h _ _ _=>true
 |.hp _ _=>true
 |.b _ _=>true
 |.r _ _ _ _ _=>true
 |_=>false
def isT:DV->Bool
 |.t _=>true
 |_=>false
section
variable {D:Pl} {n:Nat} {w:World}
theorem aJi {c:CV} {x:Value} (h:Hc D n w c x) (ho:aDw c=true):x.oneCell'=true:=by
 cases c with
 |u=>cases ho
 |v y=>rw[h.inv_v];exact ho
 |h A n c=>cases (show Rc _ w (.h A n c) x from h);rfl
 |hp b o=>cases (show Rc _ w (.hp b o) x from h);rfl
 |b p hp=>rw[h.inv_b];rfl
 |p i o=>obtain⟨_,b,_,rfl⟩:=h;rfl
 |s i m=>obtain⟨_,rfl⟩:=h;rfl
 |r A m c e get=>rw[h.inv_r.1];rfl
 |q A m c e get j o=>obtain⟨_,_,b,o',_,rfl⟩:=h;rfl
 |t i o m=>cases ho
 |f k fi ca=>obtain⟨_,rfl⟩:=h;rfl
theorem Hl.one {l:List CV} {vl:List Value} (h:Hl D n w l vl) (ho:l.all aDw=true):∀x∈vl,x.oneCell'=true:=by
 induction l generalizing vl with
 |nil=>cases vl with
  |nil=>intro x hx;cases hx
  |cons x vl=>exact h.elim
 |cons c l ih=>cases vl with
  |nil=>exact h.elim
  |cons x vl=>
   simp only[List.all_cons,aQ] at ho
   intro y hy
   rcases bW.1 hy with rfl|hy
   ·exact aJi h.1 ho.1
   exact ih h.2 ho.2 y hy
theorem aAz {x:Value} (h:x.oneCell'=true):x.cells=#[x]:=by
 cases x with
 |agg cs=>cases h
 |_=>rfl
theorem aBa {d:DV} {x:Value} (h:Hd D n w d x) (ho:(cellsOf d).all aDw=true) (ht:isT d=false):∃us,x.cells=us.toArray/\Hl D n w (cellsOf d) us/\∀y∈us,y.oneCell'=true:=by
 cases h with
 |c h=>
  simp only[cellsOf,List.all_cons,List.all_nil,Bool.and_true] at ho
  exact⟨[x],by rw[aAz (aJi h ho)],⟨h,U1⟩,λy hy=>by rw[aE.1 hy];exact aJi h ho⟩
 |a h=>exact⟨_,U,h,h.one ho⟩
 |t h hh=>cases ht
end
/-! ### what they leave -/
def Hv (ex:Bool) (P:Program) (f:Nat->Value) (o:Oper) (ρ0:Pl) (w0:World) (nb:Nat) (w:World) (k:SS->DV->Prop):Prop:=
 ∃s' d ρ' v w',k s' d/\(execOp (ev f) o).run P w= .ok (.value v) w'/\Dn ρ0 w0 nb s' ρ' f w'/\Hd ρ' s'.bl.length w' d v/\(ex=true->Ext w w')
def Hs (P:Program) (f:Nat->Value) (o:Oper) (ρ0:Pl) (w0:World) (nb:Nat) (w:World) (k:SS->Prop):Prop:=
 ∃s' ρ' w',k s'/\(execOp (ev f) o).run P w= .ok .skip w'/\Dn ρ0 w0 nb s' ρ' f w'
def upd {I:Type} (f:Nat->I) (j:Nat) (x:I):Nat->I:=λi=>if i=j then x else f i
theorem bF {I:Type} {f:Nat->I} {j:Nat} {x:I}:upd f j x j=x:=U3 U
theorem aY {I:Type} {f:Nat->I} {j i:Nat} {x:I} (h:i≠j):upd f j x i=f i:=U2 h
structure Wc (A:Option Nat) (w w':World):Prop where
 os:w'.os=w.os
 tape:w'.tape=w.tape
 output:w'.output=w.output
 size:w.heap.size<=w'.heap.size
 block:∀b,b<w.heap.size->A≠some b->w'.heap[b]? =w.heap[b]?
section fset
variable {D ρ0:Pl} {w w' w0:World} {nb:Nat} {bl:List (TypeId×Nat×List CV)}
theorem rX {I:Type} {l:List I} {f i:Nat} {x y:I} (h:(l.set f x)[i]? =some y) (hf:f<l.length):(i=f/\y=x)\/(i≠f/\l[i]? =some y):=by
 rcases lT h with ⟨h1,h2,_⟩|h
 ·exact .inl ⟨h1,h2⟩
 exact .inr h
theorem DnW.fset (h:DnW ρ0 w0 nb bl D w) {fl:List Fam} (hl:D.F=fl) {f j:Nat} {F F':Fam} (hf:fl[f]? =some F) (hj:j<F.N) (hn:F'.N=F.N) (hes:F'.es=F.es) (hT:F'.T=F.T) (hA:∀i,i≠j->F'.A i=F.A i) (hc:∀i,i≠j->F'.cap i=F.cap i) (hg:∀i,i≠j->F'.get i=F.get i) (hw:Wc (F.A j) w w') (hnew:∀b,F'.A j=some b->F.A j=some b\/w.heap.size<=b)
 (hq:(∀b,Zf D bl.length w b->Zf ⟨D.at',D.Z,fl.set f F'⟩ bl.length w' b/\w'.heap[b]? =w.heap[b]?)->Mq (Zf ⟨D.at',D.Z,fl.set f F'⟩ bl.length w') w' F' j):DnW ρ0 w0 nb bl ⟨D.at',D.Z,fl.set f F'⟩ w'/\Kp D bl.length w ⟨D.at',D.Z,fl.set f F'⟩ bl.length w':=by
 have hfl:f<fl.length:=eH hf
 have hin:∀b,InL (fl.set f F') b->InF D b\/w.heap.size<=b:=λb ⟨G,hG,i,hi,hb⟩=>by
  obtain⟨g,hg'⟩:=cV hG
  rcases rX hg' hfl with ⟨rfl,rfl⟩|⟨hne,h2⟩
  ·by_cases hij:i=j
   ·subst hij
    rcases hnew b hb with h1|h1
    ·exact .inl ⟨F,by rw[hl];exact aR hf,i,Uc,h1⟩
    exact .inr h1
   rw[hA i hij] at hb
   exact .inl ⟨F,by rw[hl];exact aR hf,i,Uc,hb⟩
  exact .inl ⟨G,by rw[hl];exact aR h2,i,hi,hb⟩
 have hjf:∀b,F.A j=some b->InF D b:=λb hb=>⟨F,by rw[hl];exact aR hf,j,hj,hb⟩
 have hz:∀b,Zf D bl.length w b->Zf ⟨D.at',D.Z,fl.set f F'⟩ bl.length w' b/\w'.heap[b]? =w.heap[b]?:=λb hb=>by
  refine⟨⟨bM hb.lt hw.size,hb.no,hb.z,λhi=>?_⟩,hw.block b hb.lt λhe=>hb.nf (hjf b he)⟩
  rcases hin b hi with h1|h1
  ·exact hb.nf h1
  have:=hb.lt;omega
 have kp:Kp D bl.length w ⟨D.at',D.Z,fl.set f F'⟩ bl.length w':=⟨aH _,λ_ _=>U,hz⟩
 refine⟨⟨λi T es l hi=>(h.ok i T es l hi).kp kp (eH hi) λb hb=>hw.block b ((h.ok i T es l hi).lt hb) λhe=>h.fam.own i b (eH hi) hb (hjf b he),h.inj,h.fr,h.nbl,?_,h.pl,h.zz,⟨λG hG=>?_,λi b hi hb hf2=>?_,λf1 f2 F1 F2 j1 j2 b h1 h2 h3 h4 h5 h6=>?_⟩,λb hb=>?_⟩,kp⟩
 ·refine⟨hw.os.trans h.rel.os,hw.tape.trans h.rel.tape,hw.output.trans h.rel.output,aJ h.rel.size hw.size,λk hk hn hf2=>(hw.block k (bM hk h.rel.size) λhe=>?_).trans (h.rel.block k hk hn hf2)⟩
  rcases h.ffr k (hjf k he) with h1|h1
  ·omega
  exact hf2 h1
 ·obtain⟨g,hg'⟩:=cV hG
  rcases rX hg' hfl with ⟨rfl,rfl⟩|⟨hne,h2⟩
  ·refine⟨by rw[hes];exact(h.fam.ok F (by rw[hl];exact aR hf)).1,λi hi=>?_⟩
   by_cases hij:i=j
   ·subst hij;exact hq hz
   have h3:=(h.fam.mem hl hf (j:=i) oM).mono hz λb hb=>hw.block b ((h.fam.mem hl hf (j:=i) oM).lt hb) λhe=>by
    have:=(h.fam.inj _ _ F F i j b (by rw[hl];exact hf) (by rw[hl];exact hf) oM hj hb he).2
    exact hij this
   unfold Mq at h3 ⊢
   rw[hA i hij,hc i hij,hg i hij,hes,hT]
   exact h3
  have hG2:G∈D.F:=by rw[hl];exact aR h2
  refine⟨(h.fam.ok G hG2).1,λi hi=>((h.fam.ok G hG2).2 i hi).mono hz λb hb=>hw.block b (((h.fam.ok G hG2).2 i hi).lt hb) λhe=>?_⟩
  exact hne (h.fam.inj g f G F i j b (by rw[hl];exact h2) (by rw[hl];exact hf) hi hj hb he).1
 ·rcases hin b hf2 with h1|h1
  ·exact h.fam.own i b hi hb h1
  have:=h.lt hi hb;omega
 ·have hold:∀(g:Nat) (G:Fam) (i:Nat),(fl.set f F')[g]? =some G->i<G.N->G.A i=some b->(∃G0,D.F[g]? =some G0/\i<G0.N/\G0.A i=some b)\/(g=f/\i=j/\w.heap.size<=b):=λg G i hg' hi hb=>by
   rcases rX hg' hfl with ⟨rfl,rfl⟩|⟨hne,h2'⟩
   ·by_cases hij:i=j
    ·subst hij
     rcases hnew b hb with h7|h7
     ·exact .inl ⟨F,by rw[hl];exact hf,Uc,h7⟩
     exact .inr ⟨U,U,h7⟩
    rw[hA i hij] at hb
    exact .inl ⟨F,by rw[hl];exact hf,Uc,hb⟩
   exact .inl ⟨G,by rw[hl];exact h2',hi,hb⟩
  have hlow:∀(g:Nat) (G0:Fam) (i:Nat),D.F[g]? =some G0->i<G0.N->G0.A i=some b->b<w.heap.size:=λg G0 i h7 h8 h9=>h.fam.lt ⟨G0,aR h7,i,h8,h9⟩
  rcases hold f1 F1 j1 h1 h3 h5 with ⟨G1,a1,a2,a3⟩|⟨a1,a2,a3⟩<;>rcases hold f2 F2 j2 h2 h4 h6 with ⟨G2,c1,c2,c3⟩|⟨c1,c2,c3⟩
  ·exact h.fam.inj f1 f2 G1 G2 j1 j2 b a1 c1 a2 c2 a3 c3
  ·have:=hlow f1 G1 j1 a1 a2 a3;omega
  ·have:=hlow f2 G2 j2 c1 c2 c3;omega
  exact⟨a1.trans c1.symm,a2.trans c2.symm⟩
 rcases hin b hb with h1|h1
 ·exact h.ffr b h1
 exact .inl (aJ h.rel.size h1)
end fset
def aQi (s:SS) (T es:Nat) (l:List CV) (d:Nat->DV) (k:SS->DV->Prop):Prop:=match s with
 |⟨sl,gl,bl,fl⟩=>rO bl (T,es,l) λbl'=>k ⟨sl,gl,bl',fl⟩ (d (cnt bl 0))
def aQj (T:TT) (s:SS) (t:Nat) (k:SS->DV->Prop):Prop:=match T t with
 |some ti=>aQi s t 0 (ti.zero.map sL) (λi=> .c (.p i 0)) k
 |none=>False
def bQd (s:SS) (t:Nat) (x:Operand) (k:SS->DV->Prop):Prop:=match val [] s x with
 |some d=>bif (cellsOf d).all aDw&&!isT d then aQi s t 0 (cellsOf d) (λi=> .c (.p i 0)) k else False
 |none=>False
def aQk (T:TT) (s:SS) (t:Nat) (x y:Operand) (k:SS->Prop):Prop:=match T t,val [] s x,val [] s y with
 |some ti,some (.c (.p i o)),some d=>(match s.bl[i]? with
  |some b=>bif Nat.beq (cellsOf d).length ti.size&&((cellsOf d).all aDw&&!isT d) then
   (bif Nat.beq b.2.1 0 then aZn o b.2.2 (cellsOf d) λl'=>nK s.bl i (b.1,b.2.1,l') λbl'=>k ⟨s.sl,s.gl,bl',s.fl⟩
   else ∃l',(mJ b.2.2 o (cellsOf d)=l'/\o+(cellsOf d).length<=b.2.2.length)/\nK s.bl i (b.1,b.2.1,l') λbl'=>k ⟨s.sl,s.gl,bl',s.fl⟩)
   else False
  |none=>False)
 |some ti,some (.c (.hp b o)),some d=>bif Nat.beq (cellsOf d).length ti.size&&((cellsOf d).all (λc=>aDw c&&fS c)&&!isT d) then
  ∃f j:Nat,(match s.fl[f]? with
   |some F=>bif !Nat.ble F.T 999999 then False else ∃l',(j<F.N/\F.A j=some b/\mJ (F.get j) o (cellsOf d)=l'/\o+(cellsOf d).length<=(F.get j).length)/\nK s.fl f ⟨F.T,F.es,F.N,F.A,F.cap,upd F.get j l'⟩ λfl'=>k ⟨s.sl,s.gl,s.bl,fl'⟩
   |none=>False) else False
 |_,_,_=>False
def isZ:Operand->Bool
 |.const (.int _ 0)=>true
 |_=>false
def aZq (T:TT) (s:SS) (t:Nat) (x y:Operand) (k:SS->DV->Prop):Prop:=match T t with
 |some ti=>(match ti.el with
  |some e=>(match T e,val [] s x,val [] s y with
   |some te,some (.c (.v (.int _ z))),some (.c (.v (.int _ z')))=>bif isZ x&&!isZ y then ∃n:Nat,(z=0/\z'=n/\te.by'*n<=281474976710656/\n<=maxLen)/\aQi s e te.size [] (λi=> .c (.s i 0)) k else ∃n:Nat,(z=n/\z'=n/\te.by'*n<=281474976710656/\n<=maxLen)/\
    aQi s e te.size (match te.zero with
     |[z0]=>List.replicate n (sL z0)
     |zs=>(List.replicate n (zs.map sL)).flatten) (λi=> .c (.s i n)) k
   |_,_,_=>False)
  |none=>False)
 |none=>False
section ops
variable {P:Program} {T:TT} (hT:Good P T) {w0 w:World} {nb:Nat} {s:SS} {D ρ0:Pl} {f:Nat->Value} {dst:Option Tmp} {ty:TypeId} {pos:String} {aft:Array Edge} {gd:Option (Nat×Bool)} {x y z:Operand} {t t':TypeId} {k:SS->DV->Prop} {ks:SS->Prop}
theorem eC:sat f []:=λp hp=>U4 hp dI
theorem aBb {T0 es b:Nat} {l:List CV} {vl:List Value} {junk:List Value} {d:Nat->DV} {o:Oper} {v:Value} {w':World} {cap:Nat} (h:aQi s T0 es l d k) (hD:Dn ρ0 w0 nb s D f w) (hr:(execOp (ev f) o).run P w= .ok (.value v) w') (hm:Mk w T0 (vl++junk) b w') (hl:Hl D s.bl.length w l vl) (h1:∀x∈vl,x.oneCell'=true) (hc:0<es->cap*es=(vl++junk).length/\cap<=maxLen)
 (hd:∀ρ':Pl,ρ' s.bl.length=(some b,cap)->Hd ρ' (s.bl.length+1) w' (d s.bl.length) v):Hv true P f o ρ0 w0 nb w k:=by
 obtain⟨sl,gl,bl,fl⟩:=s
 have hk:=mP (show rO bl (T0,es,l) _ from h)
 rw[zD] at hk
 obtain⟨hb,hbk,he⟩:=hm
 have hp:∀b',((some b,cap):Option Nat×Nat).1=some b'->w.heap.size<=b':=λb' hb'=>by injection hb' with hb';omega
 have kp:Kp D bl.length w (xI D bl.length (some b,cap)) (bl.length+1) w':=Kp.new hp he
 have hn:(bl++[(T0,es,l)]).length=bl.length+1:=by simp
 refine⟨⟨sl,gl,bl++[(T0,es,l)],fl⟩,d bl.length,xI D bl.length (some b,cap),v,w',hk,hr,⟨hD.m.new hp he (Bq.of_some (b:=b) (by rw[kD]) ⟨vl,junk,hbk,hl.kp kp,?_,h1⟩),?_,hD.l⟩,?_⟩
 ·rw[kD];exact hc
 ·exact hD.f.kp U U (by rw[hn];exact kp)
 refine⟨?_,λ_=>he⟩
 show Hd _ (bl++[(T0,es,l)]).length w' _ v
 rw[hn]
 exact hd _ kD
include hT in
theorem aWt (h:aQj T s t k) (hD:Dn ρ0 w0 nb s D f w):Hv true P f ⟨dst,.alloc t,ty,pos,aft,gd⟩ ρ0 w0 nb w k:=by
 unfold aQj at h
 split at h
 ·next ti ht=>
  obtain⟨zz,hty,hz⟩:=(hT t ti ht).ty
  obtain⟨v,w',hr,b,rfl,hm⟩:=bHf (P:=P) (f:=f) (w:=w) (dst:=dst) (ty:=ty) (pos:=pos) (aft:=aft) (g:=gd) hty hz
  refine aBb (junk:=[]) (cap:=0) h hD hr (by rw[dW];exact hm) (Hl.vs _) ?_ (λh=>U4 h (gC _)) λρ' hρ=> .c ⟨aS _,b,by rw[hρ],U⟩
  exact λx hx=>aX.1 (hT t ti ht).z1 x hx
 exact h.elim
theorem bIf (h:bQd s t x k) (hD:Dn ρ0 w0 nb s D f w):Hv true P f ⟨dst,.box t x,ty,pos,aft,gd⟩ ρ0 w0 nb w k:=by
 unfold bQd at h
 split at h
 ·next d hx=>
  cases hb:((cellsOf d).all aDw&&!isT d) with
  |false=>rw[hb] at h;exact h.elim
  |true=>
   rw[hb] at h
   simp only[aQ,dP] at hb
   obtain⟨us,h1,h2,h3⟩:=aBa (bS hD.f eC hx) hb.1 hb.2
   obtain⟨v,w',hr,b,rfl,hm⟩:=bWb (P:=P) (w:=w) (dst:=dst) (ty:=ty) (pos:=pos) (aft:=aft) (g:=gd) (t:=t) U h1
   simp only[cond_true] at h
   exact aBb (junk:=[]) (cap:=0) h hD hr (by rw[dW];exact hm) h2 h3 (λh=>U4 h (gC _)) λρ' hρ=> .c ⟨aS _,b,by rw[hρ],U⟩
 exact h.elim
theorem aNp {T0:TypeId} {b o:Nat} {l junk:List Value} {vv:Value} {cs:List Value} {size bytes:Nat} {zz:Value} (ht:TyI P t size bytes zz) (hx:ev f x= .pointer (some ⟨b,o,none⟩)) (hy:ev f y=vv) (hc:vv.cells=cs.toArray) (hs:cs.length=size)
 (h1:∀u∈cs,u.oneCell'=true) (hb:w.heap[b]? =some (.cells (l++junk).toArray T0 (0,0))) (hfit:o+cs.length<=l.length):
 ∃w',(execOp (ev f) ⟨dst,.store t x y,ty,pos,aft,gd⟩).run P w= .ok .skip w'/\w'.heap[b]? =some (.cells (spl l o cs++junk).toArray T0 (0,0))/\Exc b w w':=by
 obtain⟨w',hr,hn,he,_⟩:=bHg (P:=P) (dst:=dst) (ty:=ty) (pos:=pos) (aft:=aft) (g:=gd) ht hx hy hc hs h1 (l:=l++junk) hb (by simp only[aD];omega)
 refine⟨w',hr,?_,he⟩
 have e:spl (l++junk) o cs=spl l o cs++junk:=by
  unfold spl
  rw[fC oM,jK oM]
  simp
 unfold Bk at hn
 rw[e] at hn
 exact hn
include hT in
theorem aWu (h:aQk T s t x y ks) (hD:Dn ρ0 w0 nb s D f w):Hs P f ⟨dst,.store t x y,ty,pos,aft,gd⟩ ρ0 w0 nb w ks:=by
 unfold aQk at h
 split at h
 ·next ti i o d ht hx hy=>
  split at h
  ·next bb hbb=>
   obtain⟨T0,es,l⟩:=bb
   cases hb:(Nat.beq (cellsOf d).length ti.size&&((cellsOf d).all aDw&&!isT d)) with
   |false=>rw[hb] at h;exact h.elim
   |true=>
    rw[hb] at h
    simp only[aQ,dP] at hb
    obtain⟨b1,b2,b3⟩:=hb
    have b1':=aM b1
    have key:o+(cellsOf d).length<=l.length/\ks ⟨s.sl,s.gl,s.bl.set i (T0,es,mJ l o (cellsOf d)),s.fl⟩:=by
     simp only[cond_true] at h
     cases hz:Nat.beq es 0 with
     |true=>
      rw[hz] at h
      obtain⟨h1,h2⟩:=aJg (show aZn o l (cellsOf d) _ from h)
      exact⟨h1,iL h2⟩
     |false=>
      rw[hz] at h
      obtain⟨l',⟨h1,h2⟩,h3⟩:=h
      subst h1
      exact⟨h2,iL h3⟩
    obtain⟨hi,b,hρ,he⟩:=(bS hD.f eC hx).inv_c
    obtain⟨us,u1,u2,u3⟩:=aBa (bS hD.f eC hy) b2 b3
    have hq:=hD.m.ok i T0 es l hbb
    obtain⟨vl,junk,hh,hl,hcap,hone⟩:=hq.at hρ
    obtain⟨zz,hty,_⟩:=(hT t ti ht).ty
    have hul:us.length=(cellsOf d).length:=u2.len.symm
    have hvl:vl.length=l.length:=hl.len.symm
    obtain⟨w',hr,hn,hex⟩:=aNp (P:=P) (dst:=dst) (ty:=ty) (pos:=pos) (aft:=aft) (gd:=gd) hty he U u1 (by rw[hul];exact b1') u3 hh (by rw[hul,hvl];exact key.1)
    have kp:Kp D s.bl.length w D s.bl.length w':=Kp.exc hi hρ hex
    refine⟨_,D,w',key.2,hr,⟨hD.m.exc hbb hρ hex (Bq.of_some hρ ⟨spl vl o us,junk,hn,(aJh o hl u2).kp kp,λh0=>?_,λx hx=>?_⟩),hD.f.kp U U (by simp only[cC];exact kp),hD.l⟩⟩
    ·obtain⟨c1,c2⟩:=hcap h0
     refine⟨c1.trans ?_,c2⟩
     have:=key.1
     simp only[aD,spl,bI,cP]
     omega
    simp only[spl,aO] at hx
    rcases hx with (hx|hx)|hx
    ·exact hone x (cH hx)
    ·exact u3 x hx
    exact hone x (fU hx)
  exact h.elim
 ·next ti b o d ht hx hy=>
  cases hb:(Nat.beq (cellsOf d).length ti.size&&((cellsOf d).all (λc=>aDw c&&fS c)&&!isT d)) with
  |false=>rw[hb] at h;exact h.elim
  |true=>
   rw[hb] at h
   simp only[aQ,dP] at hb
   obtain⟨b1,b2,b3⟩:=hb
   have b1':=aM b1
   have b2o:(cellsOf d).all aDw=true:=aX.2 λc hc=>by
    have:=aX.1 b2 c hc
    simp only[aQ] at this
    exact this.1
   have b2c:∀c∈cellsOf d,fS c=true:=λc hc=>by
    have:=aX.1 b2 c hc
    simp only[aQ] at this
    exact this.2
   obtain⟨ff,j,h⟩:=(show ∃f j:Nat,_ from h)
   split at h
   ·next F hF=>
    cases hft:Nat.ble F.T 999999 with
    |false=>rw[hft] at h;exact h.elim
    |true=>
    rw[hft] at h
    obtain⟨l',⟨hj,hA,hl',hfit⟩,hk⟩:=h
    subst hl'
    have hk':=iL hk
    have he:=(bS hD.f eC hx).inv_c.inv_hp
    obtain⟨us,u1,u2,u3⟩:=aBa (bS hD.f eC hy) b2o b3
    have hmq:=hD.m.fam.mem hD.l hF hj
    obtain⟨vl,junk,hh,hlen,hcl,hcap,hmx,hone⟩:=hmq.at hA hft
    obtain⟨zz,hty,_⟩:=(hT t ti ht).ty
    have hul:us.length=(cellsOf d).length:=u2.len.symm
    obtain⟨w',hr,hn,hex⟩:=aNp (P:=P) (dst:=dst) (ty:=ty) (pos:=pos) (aft:=aft) (gd:=gd) hty he U u1 (by rw[hul];exact b1') u3 hh (by rw[hul,hlen];exact hfit)
    obtain⟨k1,k2⟩:=hD.m.fset hD.l hF hj (F':=⟨F.T,F.es,F.N,F.A,F.cap,upd F.get j (mJ (F.get j) o (cellsOf d))⟩) U U U (λ_ _=>U) (λ_ _=>U) (λi hi=>aY hi) (w':=w') ⟨hex.os,hex.tape,hex.output,hex.size,λb' hb' hne=>hex.block b' hb' λe=>hne (by rw[e];exact hA)⟩ (λb' hb'=> .inl hb') (λhz=>by
     unfold Mq
     simp only[hA,bF,hft,cond_true]
     have hl1:Hl D s.bl.length w (F.get j) vl:=Hl.of_get hlen λi c x hc hx=>Hc.of_rc (hcl i c x hc hx)
     have hl2:=aJh o hl1 u2
     refine⟨spl vl o us,junk,hn,hl2.len.symm,λi c x hc hx=>?_,?_,hmx,λx hx=>?_⟩
     ·refine Rc.mono ?_ hz
      obtain⟨x',h1,h2⟩:=hl2.get hc
      rw[hx] at h1
      injection h1 with h1
      subst h1
      have hcc:fS c=true\/∃i':Nat,(F.get j)[i']? =some c:=by
       have hm:=aR hc
       simp only[mJ,aO] at hm
       rcases hm with hm|hm|hm
       ·exact .inr (cV (cH hm))
       ·exact .inl (b2c c hm)
       exact .inr (cV (fU hm))
      have hc2:fS c=true:=by
       rcases hcc with h|⟨i',hi'⟩
       ·exact h
       have hlt:=eH hi'
       obtain⟨x2,hx2⟩:∃x2,vl[i']? =some x2:=⟨_,aG (by rw[hlen];exact hlt)⟩
       have:=hcl i' c x2 hi' hx2
       cases this<;>rfl
      cases c with
      |u=>exact h2
      |v y=>exact h2
      |h A n c=>exact h2
      |hp b o=>exact h2
      |b p q=>exact h2
      |r A m c e get=>exact h2
      |p i o=>cases hc2
      |s i m=>cases hc2
      |q A m c e get j o=>cases hc2
      |t i o m=>cases hc2
      |f k fi ca=>cases hc2
     ·refine hcap.trans ?_
      simp only[aD,spl,bI,cP]
      omega
     simp only[spl,aO] at hx
     rcases hx with (hx|hx)|hx
     ·exact hone x (cH hx)
     ·exact u3 x hx
     exact hone x (fU hx))
    exact⟨_,_,w',hk',hr,⟨k1,hD.f.kp U U k2,U⟩⟩
   exact h.elim
 exact h.elim
theorem Hl.rep {D:Pl} {n:Nat} {w:World} {l:List CV} {vl:List Value} (h:Hl D n w l vl) (m:Nat):Hl D n w (List.replicate m l).flatten (List.replicate m vl).flatten:=by
 induction m with
 |zero=>trivial
 |succ m ih=>rw[jR,jR,nH,nH];exact h.append ih
theorem aFj {I:Type} (m:Nat) (l:List I):(List.replicate m l).flatten.length=m*l.length:=by
 induction m with
 |zero=>simp
 |succ m ih=>rw[jR,nH,aD,ih,dE,iX,iD]
theorem aZr {I:Type} (m:Nat) (a:I):(List.replicate m [a]).flatten=List.replicate m a:=by
 induction m with
 |zero=>rfl
 |succ m ih=>rw[jR,nH,ih];rfl
include hT in
theorem aZs (h:aZq T s t x y k) (hD:Dn ρ0 w0 nb s D f w):Hv true P f ⟨dst,.makeSlice t x y,ty,pos,aft,gd⟩ ρ0 w0 nb w k:=by
 unfold aZq at h
 split at h
 ·next ti ht=>
  split at h
  ·next e he=>
   split at h
   ·next te kx zx ky zy hte hx hy=>
    have G:=hT e te hte
    cases hz0:(isZ x&&!isZ y) with
    |true=>
     rw[hz0] at h
     obtain⟨n,⟨h1,h2,h3,h4⟩,h⟩:=h
     subst h1 h2
     obtain⟨zz,hty,hz⟩:=G.ty
     have hzl:zz.cells.size=te.size:=by rw[hz];simpa using G.zs
     obtain⟨v,w',hr,b,rfl,hm⟩:=aYa (P:=P) (f:=f) (w:=w) (dst:=dst) (ty:=ty) (pos:=pos) (aft:=aft) (g:=gd) (n:=0) (c:=n) ((hT t ti ht).el e he) hty hzl (bS hD.f eC hx).inv_c.inv_v (bS hD.f eC hy).inv_c.inv_v (aB _) h3 (by simpa[maxLen] using h4)
     rw[hz] at hm
     exact aBb (vl:=[]) (junk:=(List.replicate n te.zero).flatten) (cap:=n) h hD hr hm trivial (λx hx=>U4 hx dI) (λ_=>⟨by rw[mX,aFj,G.zs],h4⟩) λρ' hρ=> .c ⟨aS _,by rw[hρ];rfl⟩
    |false=>
    rw[hz0] at h
    obtain⟨n,⟨h1,h2,h3,h4⟩,h⟩:=h
    subst h1 h2
    obtain⟨zz,hty,hz⟩:=G.ty
    have hzl:zz.cells.size=te.size:=by rw[hz];simpa using G.zs
    obtain⟨v,w',hr,b,rfl,hm⟩:=aYa (P:=P) (f:=f) (w:=w) (dst:=dst) (ty:=ty) (pos:=pos) (aft:=aft) (g:=gd) (n:=n) (c:=n) ((hT t ti ht).el e he) hty hzl (bS hD.f eC hx).inv_c.inv_v (bS hD.f eC hy).inv_c.inv_v (aH _) h3 (by simp only[maxLen] at h4;omega)
    rw[hz] at hm
    have hl:(List.replicate n (te.zero.map sL)).flatten=(match te.zero with|[z0]=>List.replicate n (sL z0)|zs=>(List.replicate n (zs.map sL)).flatten):=by
     split
     ·next z0 hz0=>rw[hz0];exact aZr n _
     rfl
    rw[<-hl] at h
    refine aBb (junk:=[]) (cap:=n) (vl:=(List.replicate n te.zero).flatten) h hD hr (by rw[dW];exact hm) ((Hl.vs te.zero).rep n) (λx hx=>?_) (λ_=>⟨?_,h4⟩) λρ' hρ=> .c ⟨aS _,by rw[hρ];rfl⟩
    ·obtain⟨l,hl1,hl2⟩:=vS.1 hx
     rw[(gO.1 hl1).2] at hl2
     exact aX.1 G.z1 x hl2
    rw[dW,aFj,G.zs]
   exact h.elim
  exact h.elim
 exact h.elim
end ops
end Go.Vy
