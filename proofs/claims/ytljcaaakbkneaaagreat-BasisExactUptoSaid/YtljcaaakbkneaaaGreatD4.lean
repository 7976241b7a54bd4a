/- BasisExact, second form: for arguments of bulk at most 1048576 the law returns true and what came in reads as it did. Part 4 of 7: Dg Ph Pi Ud Ue Uf Ug Uh Ui Uj Uk Ul Um Un Uo Up Uq Ur Us Ut Uu Uv Uw Ux Uy Uz Sa Sb Sc Sd Sx Se Pj Sf Sg. -/
import Derived.Shelf.Small.Bits
import Derived.Test.YtljcaaakbkneaaaGreatD3
set_option maxHeartbeats 4000000
set_option linter.unusedVariables false
set_option linter.unusedSimpArgs false
namespace Go.Proofs.YtljcaaakbkneaaaGreat
open Go.Vg _root_.Go.Proofs.Tryz
open Go.Vm
open Go.Vy hiding val
def sq (n:Nat) (l:List Nat):List (Nat×Bool):=l.map λi=>(i,i==n)
theorem In.den {X:Sl Nat} {B:Nat} (hl:Lm X.l) (hb:X.l.length<=B):In ⟨false=true,inferInstance,X⟩ (val X.l) B:=⟨hl,hb,lZ (p:=false=true) (λh=>by cases h)⟩
theorem Ci.den {X:Sl Nat} {n:Nat} (h:X.l=dB n):Ci ⟨false=true,inferInstance,X⟩ (n:Int):=⟨⟨λh=>(by cases h),λh=>Uc⟩,by rw[dX];exact h⟩
theorem gE (r:RatM) {q:Rat} (h:Rq r q 13194139533312):Ctr pgQ 72 [] [.a r.C] [] (rY q):=by
 refine cw func72 (⟨[],wG r.n ⟨false=true,inferInstance,r.d⟩ h.n (In.den h.ld h.bd),U,U,U,λg hg=>⟨g,?_,aI U U tV⟩⟩)
 rw[<-h.v];exact hg
theorem wH (r:RatM) {q:Rat} (h:Rq r q 13194139533312):Ctr pgQ 126 [] [.a r.C] [] (zR (q.den:Int)):=by
 refine cw func126 (⟨[],gE r h,U,U,U,λg hg=>⟨⟨false=true,inferInstance,g.d⟩,Ci.den hg.2,aI U U tV⟩⟩)
theorem tS {z:Int} (hz:-9223372036854775808<=z/\z<=9223372036854775807):Ctr pgQ 18 [] [.c (iC z)] [] (rY (z:Rat)):=by
 have hl:=rV (n:=z.natAbs)
 refine cw func18 (⟨[],zH hz,U,U,U,λg hg=>⟨[],zH (z:=1) dC,U,U,U,λo ho=>⟨[],wG g o (Ci.in hg oM) (Ci.in ho dC),U,U,U,λr hr=>⟨r,?_,aI U U tV⟩⟩⟩⟩)
 rw[<-bHw];exact hr
theorem tT (r:RatM) {q:Rat} (h:Rq r q 13194139533312):Ctr pgQ 70 [] [.a r.C] [] (λ_:Unit=>⟨.c (iC (sgn q.num)),[],True⟩):=by
 refine cw func70 (⟨[],gE r h,U,U,U,λg hg=>⟨[],aTx g.n (Ci.in hg.1 (h.rb.le).1),U,U,U,λ_ _=>⟨(),tV,aI U U tV⟩⟩⟩)
theorem uL {q:Rat} {B:Nat} (h:rb q B):rb (-q) B:=by
 unfold rb at h ⊢
 rw[show(-q).num=-q.num from U,show(-q).den=q.den from U,tB];exact h
theorem bRj (r:RatM) {q:Rat} (h:Rq r q 13194139533312):Ctr pgQ 117 [] [.a r.C] [] (rY (-q)):=by
 have hb:=h.rb
 refine cw func117 (⟨.seq [(0,false),(4,false),(1,false),(2,false),(3,false),(5,false),(6,false),(7,true)],U0,[],gE r h,U,U,U,λg hg=>⟨[],aCp g.n (v:=q.num) (Ci.in hg.1 (hb.le).1),U,U,U,λn hn=>⟨[],wH r h,U,U,U,λd hd=>⟨[],wG n d (Ci.in hn (by rw[tB];exact hb.1)) (Ci.in hd hb.2),U,U,U,λx hx=>⟨x,?_,aI U U tV⟩⟩⟩⟩⟩)
 rw[<-aYt];exact hx
theorem qK {a b:Int} {B:Nat} (ha:len a.natAbs<=B) (hb:len b.natAbs<=B):len (a*b).natAbs<=B+B:=by
 rw[jL]
 have:=nF a.natAbs b.natAbs
 omega
theorem aEh {a b:Int} {B:Nat} (ha:len a.natAbs<=B) (hb:len b.natAbs<=B):len (a+b).natAbs<=B+1:=by
 have h1:=fR (Int.natAbs_add_le a b)
 have h2:=aAt a.natAbs b.natAbs
 omega
theorem bRk {a b:Rat} {B:Nat} (ha:rb a B) (hb:rb b B) (hB:1<=B:=by decide):rb (a+b) (B+B+1):=by
 have h1:=zZ (a:=a.num*(b.den:Int)+b.num*(a.den:Int)) (b:=(a.den:Int)*(b.den:Int))
 have h2:=aAa (a:=a.num*(b.den:Int)+b.num*(a.den:Int)) (b:=(a.den:Int)*(b.den:Int))
 rw[aFf] at h1 h2
 have h3:=aEh (qK ha.1 (b:=(b.den:Int)) hb.2) (qK hb.1 (b:=(a.den:Int)) ha.2)
 have h4:=qK (a:=(a.den:Int)) (b:=(b.den:Int)) ha.2 hb.2
 simp only[fD] at h1 h2
 exact⟨Uc,Uc⟩
def oA:Ord:=.joinX [] [0,2] (.alt 1 (.alt 3 (.alt 4 (trS [5,1006,1007]) (trS [5,4,1006,1007])) (.alt 4 (.alt 3 (trS [5,1006,1007]) (trS [5,3,1006,1007])) (.alt 5 (.alt 3 (trS [4,1006,1007]) (trS [4,3,1006,1007])) .nil))) (.alt 4 (.alt 1 (.alt 3 (trS [5,1006,1007]) (trS [5,3,1006,1007])) (trS [5,1,3,1006,1007])) (.alt 5 (.alt 1 (.alt 3 (trS [4,1006,1007]) (trS [4,3,1006,1007])) (trS [4,1,3,1006,1007])) .nil)))
def aCq (r s:RatM) (g:RatM×RatM):List (Nat×DV):=[(5,.c (.p 3 0)),(6,.c (.p 4 0)),(2,.c (.p 0 0)),(3,.c (.p 1 0)),(4,.c (.p 2 0))]
def vG:List CV:=[.b (false=true) inferInstance,.v (.slice none 0 0),.v (.slice none 0 0)]
def aAe (r s:RatM) (g:RatM×RatM):BL:=[(53,0,r.C),(53,0,s.C),(53,0,vG),(53,0,g.1.C),(53,0,g.2.C)]
theorem gsw {nb:Nat} {s:SS} {σ:Type} {S:σ->SS} {C:σ->Prop} (i j:Nat) {bi bj:TypeId×Nat×List CV} (hbi:s.bl[i]? =some bi) (hbj:s.bl[j]? =some bj) (hni:nb<=i) (hnj:nb<=j) (hgl:s.gl=[])
 (h:aXe (swC i j) s.sl λsl'=>nK s.bl i bj λbl1=>nK bl1 j bi λbl2=>aHl (swC i j) 1000000 0 bl2 λbl'=>bl'.length<=1000000/\Gt nb ⟨sl',[],bl',s.fl⟩ S C):Gt nb s S C:=aTq (X:=λt=>Gt nb t S C) tGt i j hbi hbj hni hnj hgl h
theorem g0:∀t d,gK [] t=some d->(λ_:Nat=>true) t=false:=λt d h=>by cases h
theorem scA {r s:RatM} {g:RatM×RatM}:scB (aAe r s g).length (aAe r s g):=aA U (aA U (aA U (aA U (aA U aU))))
theorem aGh (r s:RatM) {a b:Rat} (hr:Rq r a 4398046511104) (hs:Rq s b 4398046511104):Ctr pgQ 81 [] [.a r.C,.a s.C] [] (rY (a+b)):=by
 have ha:=hr.rb
 have hb:=hs.rb
 have m1:=qK ha.1 (b:=(b.den:Int)) hb.2
 have m2:=qK hb.1 (b:=(a.den:Int)) ha.2
 have m3:=qK (a:=(a.den:Int)) (b:=(b.den:Int)) ha.2 hb.2
 have m4:=aEh m1 m2
 refine cw func81 (⟨oA,U0,RatM×RatM,λg=>⟨aCq r s g++[],[],aAe r s g,[]⟩,λg=>Cr g.1 a/\Cr g.2 b,⟨⟨[],gE r hr.le,U,U,U,λx hx=>⟨U,⟨⟨[],gE s hs.le,U,U,U,λy hy=>⟨U,⟨⟨U,⟨U,iP g0 (chg:=aCq r s) (bls:=aAe r s) (fls:=λ_=>[]) (x,y) ⟨hx,hy⟩ U rS trivial rS bL scA U⟩⟩,⟨U,⟨U,gsw 3 4 U U bL bL U ⟨bL,iP g0 (chg:=aCq r s) (bls:=aAe r s) (fls:=λ_=>[]) (x,y) ⟨hx,hy⟩ U rS trivial rS bL scA U⟩⟩⟩⟩⟩⟩,⟨⟨U,⟨⟨[],gE s hs.le,U,U,U,λy hy=>⟨U,⟨U,iP g0 (chg:=aCq r s) (bls:=aAe r s) (fls:=λ_=>[]) (x,y) ⟨hx,hy⟩ U rS trivial rS bL scA U⟩⟩⟩,⟨U,⟨[],gE s hs.le,U,U,U,λy hy=>⟨U,iP g0 (chg:=aCq r s) (bls:=aAe r s) (fls:=λ_=>[]) (x,y) ⟨hx,hy⟩ U rS trivial rS bL scA U⟩⟩⟩⟩⟩,⟨U,⟨⟨[],gE s hs.le,U,U,U,λy hy=>⟨U,⟨U,gsw 3 4 U U bL bL U ⟨bL,iP g0 (chg:=aCq r s) (bls:=aAe r s) (fls:=λ_=>[]) (x,y) ⟨hx,hy⟩ U rS trivial rS bL scA U⟩⟩⟩⟩,⟨U,⟨[],gE s hs.le,U,U,U,λy hy=>⟨U,gsw 3 4 U U bL bL U ⟨bL,iP g0 (chg:=aCq r s) (bls:=aAe r s) (fls:=λ_=>[]) (x,y) ⟨hx,hy⟩ U rS trivial rS bL scA U⟩⟩⟩⟩⟩⟩⟩⟩⟩⟩,⟨⟨U,⟨⟨[],gE r hr.le,U,U,U,λx hx=>⟨U,⟨⟨[],gE s hs.le,U,U,U,λy hy=>⟨U,⟨U,iP g0 (chg:=aCq r s) (bls:=aAe r s) (fls:=λ_=>[]) (x,y) ⟨hx,hy⟩ U rS trivial rS bL scA U⟩⟩⟩,⟨U,⟨[],gE s hs.le,U,U,U,λy hy=>⟨U,iP g0 (chg:=aCq r s) (bls:=aAe r s) (fls:=λ_=>[]) (x,y) ⟨hx,hy⟩ U rS trivial rS bL scA U⟩⟩⟩⟩⟩⟩,⟨U,⟨[],gE r hr.le,U,U,U,λx hx=>⟨U,⟨[],gE s hs.le,U,U,U,λy hy=>⟨U,iP g0 (chg:=aCq r s) (bls:=aAe r s) (fls:=λ_=>[]) (x,y) ⟨hx,hy⟩ U rS trivial rS bL scA U⟩⟩⟩⟩⟩⟩⟩,⟨U,⟨⟨[],gE r hr.le,U,U,U,λx hx=>⟨U,⟨⟨[],gE s hs.le,U,U,U,λy hy=>⟨U,⟨U,gsw 3 4 U U bL bL U ⟨bL,iP g0 (chg:=aCq r s) (bls:=aAe r s) (fls:=λ_=>[]) (x,y) ⟨hx,hy⟩ U rS trivial rS bL scA U⟩⟩⟩⟩,⟨U,⟨[],gE s hs.le,U,U,U,λy hy=>⟨U,gsw 3 4 U U bL bL U ⟨bL,iP g0 (chg:=aCq r s) (bls:=aAe r s) (fls:=λ_=>[]) (x,y) ⟨hx,hy⟩ U rS trivial rS bL scA U⟩⟩⟩⟩⟩⟩⟩,⟨U,⟨[],gE r hr.le,U,U,U,λx hx=>⟨U,⟨[],gE s hs.le,U,U,U,λy hy=>⟨U,gsw 3 4 U U bL bL U ⟨bL,iP g0 (chg:=aCq r s) (bls:=aAe r s) (fls:=λ_=>[]) (x,y) ⟨hx,hy⟩ U rS trivial rS bL scA U⟩⟩⟩⟩⟩⟩⟩⟩⟩⟩,λ⟨x,y⟩ ⟨hx,hy⟩=>?_⟩)
 refine⟨.seq [(0,false),(1,false),(2,false),(5,false),(6,false),(7,false),(11,false),(13,false),(3,false),(4,false),(8,false),(9,false),(10,false),(12,false),(14,false),(15,false),(16,false),(17,true)],U0,[],wH s hs.le,U,U,U,λd1 h1=>⟨[],aAd x.n d1 (a:=a.num) (Ci.in hx.1 (ha.le).1) (Ci.in h1 (hb.le).2),U,U,U,λp1 h2=>⟨[],wH r hr.le,U,U,U,λd2 h3=>⟨[],aAd y.n d2 (a:=b.num) (Ci.in hy.1 (hb.le).1) (Ci.in h3 (ha.le).2),U,U,U,λp2 h4=>?_⟩⟩⟩⟩
 refine⟨[],aKk p1 p2 (Ci.in h2 oM) (Ci.in h4 oM),U,U,U,λs1 h5=>⟨[],wH r hr.le,U,U,U,λd3 h6=>⟨[],wH s hs.le,U,U,U,λd4 h7=>⟨[],aAd d3 d4 (Ci.in h6 (ha.le).2) (Ci.in h7 (hb.le).2),U,U,U,λp3 h8=>⟨[],wG s1 p3 (Ci.in h5 oM) (Ci.in h8 oM),U,U,U,λg hg=>⟨g,?_,aI U U tV⟩⟩⟩⟩⟩⟩
 rw[<-aFf];exact hg
theorem aGi (r s:RatM) {a b:Rat} (hr:Rq r a 4398046511104) (hs:Rq s b 4398046511104):Ctr pgQ 74 [] [.a r.C,.a s.C] [] (rY (a-b)):=by
 refine cw func74 (⟨.seq [(0,false),(1,false),(2,false),(3,false),(4,true)],U0,[],bRj s hs.le,U,U,U,λn hn=>⟨[],aGh r n hr (Cr.rq hn (uL hs.rb)),U,U,U,λg hg=>⟨g,?_,aI U U tV⟩⟩⟩)
 rw[jD];exact hg
theorem bRl (r s:RatM) {a b:Rat} (hr:Rq r a 4398046511104) (hs:Rq s b 4398046511104) (hb0:b≠0):Ctr pgQ 164 [] [.a r.C,.a s.C] [] (λg:RatM=>⟨.t [.a g.C,pC True],[],Cr g (a/b)⟩):=by
 have ha:=hr.rb
 have hb:=hs.rb
 have m1:=qK ha.1 (b:=(b.den:Int)) hb.2
 have m2:=qK (a:=(a.den:Int)) (b:=b.num) ha.2 hb.1
 refine cw func164 (⟨[],tT s hs.le,U,U,U,λ_ _=>⟨λh=>U4 (cY.1 (fT.1 h)) hb0,λh=>vk ?_⟩⟩)
 refine⟨.seq [(0,false),(3,false),(6,false),(8,false),(1,false),(2,false),(4,false),(5,false),(7,false),(9,false),(10,false),(11,false),(12,false),(13,true),(14,false)],U0,[],gE r hr.le,U,U,U,λx hx=>⟨[],wH s hs.le,U,U,U,λd1 h1=>⟨[],aAd x.n d1 (a:=a.num) (Ci.in hx.1 (ha.le).1) (Ci.in h1 (hb.le).2),U,U,U,λp1 h2=>⟨[],wH r hr.le,U,U,U,λd2 h3=>⟨[],gE s hs.le,U,U,U,λy hy=>⟨[],aAd d2 y.n (b:=b.num) (Ci.in h3 (ha.le).2) (Ci.in hy.1 (hb.le).1),U,U,U,λp2 h4=>⟨[],wG p1 p2 (Ci.in h2 oM) (Ci.in h4 oM),U,U,U,λg hg=>⟨g,?_,aI ⟨U,tt tV⟩ U tV⟩⟩⟩⟩⟩⟩⟩⟩
 show Cr g _
 rw[<-aNi];exact hg
theorem aKl (r s:RatM) {a b:Rat} (hr:Rq r a 4398046511104) (hs:Rq s b 4398046511104) (hb0:b≠0):Ctr pgQ 120 [] [.a r.C,.a s.C] [] (rY (a/b)):=
 cw func120 (⟨[],bRl r s hr hs hb0,U,U,U,λg hg=>⟨g,hg,aI U U tV⟩⟩)
theorem aCr (r s:RatM) {a b:Rat} (hr:Rq r a 4398046511104) (hs:Rq s b 4398046511104):Ctr pgQ 71 [] [.a r.C,.a s.C] [] (λ_:Unit=>⟨.c (iC (sgn (a-b).num)),[],True⟩):=by
 refine cw func71 (⟨[],aGi r s hr hs,U,U,U,λg hg=>⟨[],tT g (Cr.rq hg ((jD a b▸bRk hr.rb (uL hs.rb)).le)),U,U,U,λ_ _=>⟨(),tV,aI U U tV⟩⟩⟩)
end Go.Proofs.YtljcaaakbkneaaaGreat
namespace Go.Proofs.YtljcaaakbkneaaaGreat
open Go.Vg _root_.Go.Proofs.Tryz
open Go.Vm hiding sgn
open Go.Vy hiding val
theorem bRm {nb:Nat} {X:SS->Prop} {s:SS} (hX:Tgt nb X) (t i:Nat) (ht:gK s.sl t=some (.c (.s i 1))) (hb:s.bl[i]? =some (98,1,[uC 1])) (hnb:nb<=i)
 (h:∀g:Sl Nat,g.l=[1]->xQ i s λs'=>nK s'.bl i (98,1,[]) λbl'=>X ⟨(t,.c (eI g))::s'.sl,[],bl',s'.fl⟩):X s:=
 aOe hX t i (λj=>[uC ([1].getD j U6)]) ht hb (λj hj=>nG (x:=[1]) j hj) U dO (jN [1]) hnb λA c _ _=>h ⟨A,c,[1]⟩ U
theorem bNc {D:Pl} {n:Nat} {w:World} {e:Nat} {get:Nat->List CV} {v:Value} (h:Hc D n w (.v (.slice none 0 0)) v):Hc D n w (.r none 0 0 e get) v:=(Hd.nilr v (.c h)).inv_c
theorem sO (r:RatM) {q:Rat} (h:Rq r q 17592186044416):Ctr pgQ 127 [] [.a r.C] [] (λg:Int×Int×Prop=>⟨.t [.c (iC g.1),.c (iC g.2.1),pC g.2.2],[],g.2.2->(-2147483648<g.1/\g.1<2147483648)/\(0<g.2.1/\g.2.1<2147483648)/\Rat.divInt g.1 g.2.1=q⟩):=by
 have hv:=h.v
 refine cw func127 (⟨[],aTr r.n.m h.n.lm (aJ h.n.ln dC),U,U,U,λ_ _=>⟨[],aTr r.d h.ld (aJ h.bd dC),U,U,U,λ_ _=>⟨λh1=>vk ?_,λh1=>vk ?_⟩⟩⟩)
 ·exact⟨(0,0,False),λh=>h.elim,aI ⟨U,U,ff λh=>h⟩ U tV⟩
 have k1:val r.n.m.l<18446744073709551616:=aN λh=>h1 (.inl (.inl (.inl h)))
 have k2:val r.d.l<18446744073709551616:=aN λh=>h1 (.inl (.inl (.inr h)))
 have k3:=λh=>h1 (.inl (.inr h))
 have k4:=λh=>h1 (.inr h)
 rw[U3 k1] at k3
 rw[U3 k2] at k4
 replace k3:¬(2147483648:Int)<=(val r.n.m.l:Nat):=k3
 replace k4:¬(2147483648:Int)<=(val r.d.l:Nat):=k4
 rw[U3 k1,U3 k2]
 refine⟨λh2=>vk ?_,λh2=>vk ⟨λh3=>vk ?_,λh3=>vk ?_⟩⟩
 ·refine⟨(0,1,True),λ_=>⟨⟨by decide,by decide⟩,⟨by decide,by decide⟩,?_⟩,aI ⟨U,U,tt tV⟩ U tV⟩
  replace h2:((val r.d.l:Nat):Int)=0:=h2
  rw[<-hv,h2,xE,xF]
 all_goals
  replace h2:¬((val r.d.l:Nat):Int)=0:=h2
  have b1:(0:Int)<(val r.d.l:Nat)/\((val r.d.l:Nat):Int)<2147483648:=⟨Uc,Uc⟩
  have b2:(-2147483648:Int)<(val r.n.m.l:Nat)/\((val r.n.m.l:Nat):Int)<2147483648:=⟨Uc,Uc⟩
  have b3:(-2147483648:Int)< -(val r.n.m.l:Nat)/\(-(val r.n.m.l:Nat):Int)<2147483648:=⟨Uc,Uc⟩
 ·refine⟨(val r.n.m.l:Nat),wi,-(val r.n.m.l:Nat),wi,(val r.d.l:Nat),wi,(-(val r.n.m.l:Nat),(val r.d.l:Nat),True),λ_=>⟨b3,b1,?_⟩,aI ⟨U,U,tt tV⟩ U tV⟩
  rw[lW h3] at hv;exact hv
 refine⟨(val r.n.m.l:Nat),wi,(val r.d.l:Nat),wi,((val r.n.m.l:Nat),(val r.d.l:Nat),True),λ_=>⟨b2,b1,?_⟩,aI ⟨U,U,tt tV⟩ U tV⟩
 rw[lZ h3] at hv;exact hv
theorem aKm {n d:Int} (hd:0<d/\d<=9223372036854775807) (hn:-9223372036854775807<=n/\n<=9223372036854775807):Ctr pgQ 128 [] [.c (iC n),.c (iC d)] [] (rY (Rat.divInt n d)):=by
 have hlaw:=aJf (z:=n) (d:=d.toNat) oM
 rw[show((d.toNat:Nat):Int)=d by omega] at hlaw
 refine cw func128 (⟨(if n<0 then 18446744073709551616-n.natAbs else n.natAbs:Nat),?_,?_⟩)
 ·show _=_
  rw[IntKind.wrap_u64];split<;>omega
 refine vjn (λ_=>true) (λ_:Unit=>[(0,.c (iC n)),(1,.c (iC d)),(4,.c (.p 0 0)),(5,.c (wC n.natAbs))]) (λ_=>[(53,0,vG)]) (λ_=>True) ?_
 refine⟨⟨λh=>vk ⟨(n.natAbs:Nat),?_,(),tV,U,U,U,U,U,U⟩,λh=>vk ⟨(),tV,U,U,U,U,U,?_⟩⟩,λ_ _=>?_⟩
 ·show _=_
  rw[IntKind.wrap_u64,U3 h];omega
 ·show(_:Int)=(_:Int)
  rw[U2 h]
 refine⟨(d.toNat:Nat),wu,?_⟩
 refine lJ (rn [(6,7),(17,22)]) (λg:Nat×Nat=>[(6,.c (wC g.1)),(7,.c (wC g.2))]) (λ_=>[(53,0,vG)]) (λg=>Nat.gcd g.1 g.2=Nat.gcd n.natAbs d.toNat/\g.1<18446744073709551616/\g.2<18446744073709551616) (λg=>g.2) (d.toNat,n.natAbs) ?_
 have l1:d.toNat<18446744073709551616:=Uc
 have l2:n.natAbs<18446744073709551616:=Uc
 refine⟨⟨⟨jV _ _,l1,l2⟩,U,U,U⟩,λ⟨a,b⟩ ⟨hcd,hc,hb⟩=>vk ⟨λh3=>vk ?_,λh3=>vk (vk ?_)⟩⟩
 all_goals simp only at hcd hc hb
 ·replace h3:(b:Int)≠0:=h3
  have hlt:=dG a (show 0<b by omega)
  refine⟨.seq [(0,false),(1,false),(2,false),(3,false),(4,false),(5,false)],U0,h3,(b,a%b),⟨⟨?_,hb,by show a%b<_;omega⟩,hlt⟩,U,U,U,?_⟩
  ·show Nat.gcd b (a%b)=_
   rw[<-hcd,jV,<-yY,jV]
  show(_:Int).tmod (_:Int)=(_:Int)
  rfl
 obtain rfl:b=0:=by
  replace h3:¬(b:Int)≠0:=h3
  omega
 rw[oW] at hcd
 subst hcd
 have hg:((Nat.gcd n.natAbs d.toNat:Nat):Int)≠0:=by
  have:=oN n.natAbs (show 0<d.toNat by omega)
  omega
 have d1:=iE n.natAbs (Nat.gcd n.natAbs d.toNat)
 have d2:=iE d.toNat (Nat.gcd n.natAbs d.toNat)
 refine⟨.seq [(0,false),(1,false),(2,false),(3,false),(4,false),(7,false),(8,false),(9,false),(10,false),(5,true),(6,false),(11,true),(12,false),(13,true)],U0,hg,_,aRa l2,(d.toNat:Nat),wu,hg,_,aRa l1,[],oJ (fB d1 l2),U,U,U,λm hm=>⟨[],oJ (fB d2 l1),U,U,U,λe he=>⟨⟨⟨n<0,inferInstance,m⟩,e⟩,⟨⟨hlaw.2.2.symm,?_⟩,?_⟩,aI U U tV⟩⟩⟩
 ·show m.l=_
  rw[hlaw.1];exact hm
 show e.l=_
 rw[hlaw.2.1];exact he
theorem qU (r:RatM) {q:Rat} {B:Nat} (h:Rq r q B) (h1:1<=B) (hB:B<=35184372088832):Ctr pgQ 111 [] [.a r.C] [] (λg:RatM=>⟨.t [.a g.n.C,.c (eI g.d)],[],Rq g q B/\val g.d.l≠0⟩):=by
 refine cw func111 (⟨[],aTy r.d h.ld (aJ h.bd hB),U,U,U,λ_ _=>⟨λh2=>Sd.sq (vk ?_),λh2=>vk ?_⟩⟩)
 ·have hz:=bBz.1 h2
  show Sd _ _ _ _ _ _
  refine bRm tSd 3 2 U U bL λd hd=>?_
  show Sd _ _ _ _ _ _
  refine gJ tSd 1 [.b (false=true) inferInstance,eI cG] U U (λk c c' k1 k2=>?_) (vk ⟨⟨⟨false=true,inferInstance,cG⟩,d⟩,⟨⟨⟨Lm.nil,aB _,U⟩,?_,?_,?_⟩,?_⟩,aI ⟨U,U⟩ U tV⟩)
  ·match k,k1,k2 with
   |0,k1,k2=>injection k1 with k1;injection k2 with k2;rw[<-k1,<-k2];exact fE _
   |1,k1,k2=>injection k1 with k1;injection k2 with k2;rw[<-k1,<-k2];exact λD n w x h=>bNc h
  ·show Lm d.l
   rw[hd];exact λz hz=>by rw[aE.1 hz];decide
  ·show d.l.length<=B
   rw[hd];exact h1
  ·show Rat.divInt _ (val d.l:Nat)=q
   rw[<-h.v,hz,hd]
   show Rat.divInt (sg (false=true) 0) _=_
   rw[lZ dC]
   exact(xF _).trans (xE _).symm
  show val d.l≠0
  rw[hd];decide
 have hz:val r.d.l≠0:=λh=>h2 (bBz.2 h)
 exact⟨.treeX [] [2000,1,2002,3] (trS [4,2005]),U0,U,r,⟨h,hz⟩,aI ⟨U,U⟩ U tV⟩
theorem bRn {c0 c1 c2:CV} {k:Nat} {c c':CV} (k1:[c0,.v (.slice none 0 0),c2][k]? =some c) (k2:[c0,eI cG,c2][k]? =some c'):LeC c c':=by
 match k,k1,k2 with
 |0,k1,k2=>injection k1 with k1;injection k2 with k2;rw[<-k1,<-k2];exact fE _
 |1,k1,k2=>injection k1 with k1;injection k2 with k2;rw[<-k1,<-k2];exact λD n w x h=>bNc h
 |2,k1,k2=>injection k1 with k1;injection k2 with k2;rw[<-k1,<-k2];exact fE _
theorem aUb {z:Int} {d:Nat} {q:Rat} (hd:d≠0) (h:Rat.divInt z (d:Int)=q):q.num.natAbs=z.natAbs/Nat.gcd z.natAbs d/\q.den=d/Nat.gcd z.natAbs d/\(q.num<0↔z<0)/\(q.num=0↔z=0):=by
 subst h
 obtain⟨h1,h2,h3⟩:=aJf (z:=z) hd
 refine⟨h1,h2,h3,λh=>?_,λh=>by rw[h,xF];rfl⟩
 rw[h] at h1
 have hdv:Nat.gcd z.natAbs d∣z.natAbs:=kA _ _
 have h4:=Nat.div_mul_cancel hdv
 rw[<-h1] at h4
 simp at h4
 omega
theorem aKn (i:IntM) (d:Sl Nat) {a:Int} (hi:In i a 17592186044416) (ld:Lm d.l) (hn:d.l.length<=17592186044416) (hd:val d.l≠0):Ctr pgQ 129 [] [.a i.C,.c (eI d)] [] (rY (Rat.divInt a (val d.l:Nat))):=by
 obtain⟨q,hq⟩:∃q,q=Rat.divInt a (val d.l:Nat):=⟨_,U⟩
 obtain⟨e1,e2,e3,e4⟩:=aUb hd hq.symm
 rw[<-hq]
 refine cw func129 (⟨[],bBy i hi.le,U,U,U,λn hn'=>⟨[],aBo d ld oM,U,U,U,λe he=>?_⟩⟩)
 replace hn':Ci n a:=hn'
 replace he:e.l=dB (val d.l):=he
 have hal:=hi.len
 have hel:e.l.length<=17592186044416:=by rw[he];exact aJ (dZ ld) hn
 have hnl:n.m.l.length<=17592186044416:=by rw[hn'.2];exact hal
 obtain⟨le,ve⟩:=dg he
 obtain⟨lm,vm⟩:=dg hn'.2
 have hz0:=oH (n:=a.natAbs)
 unfold len at hz0
 rw[<-hn'.2] at hz0
 refine⟨λh=>Sd.sq (Sd.rg gT (l:=[_,_,_]) [_] [_,_] U U ?_),λh=>vk ?_⟩
 ·replace h:((n.m.l.length:Nat):Int)=0:=h
  have ha:a=0:=by have:=hz0.1 oM;omega
  have hq0:q=0:=cY.1 (e4.2 ha)
  show Sdl _ _ _ _ _ _ _
  refine bRm bRa 14 2 U U bL λg hg=>Sdl.go gT ?_
  show Sd _ _ _ _ _ _
  refine gJ tSd 1 [.b (false=true) inferInstance,eI cG,eI g] U U (λk c c' k1 k2=>bRn (c1:=.u) k1 k2) (vk ⟨⟨⟨false=true,inferInstance,cG⟩,g⟩,?_,aI U U tV⟩)
  subst hq0
  exact⟨⟨⟨λh=>(by cases h),λh=>U4 (show(0:Int)<0 from h) dC⟩,U⟩,hg⟩
 refine⟨[],bRe n.m e lm le hnl hel,U,U,U,λg hg=>?_⟩
 replace hg:g.l=dB (Nat.gcd (val n.m.l) (val e.l)):=hg
 rw[vm,ve] at hg
 obtain⟨lg,vg⟩:=dg hg
 obtain⟨G,hG⟩:∃G,G=Nat.gcd a.natAbs (val d.l):=⟨_,U⟩
 rw[<-hG] at hg vg e1 e2
 have hGp:0<G:=by rw[hG];exact oN _ oM
 have hgl:g.l.length<=17592186044416:=by
  rw[hg]
  exact aJ (fR (Nat.le_of_dvd oM (by rw[hG];exact pV _ _))) (aJ (dZ ld) hn)
 refine⟨0,λh=>⟨U,?_⟩,?_⟩
 ·replace h:¬((g.l.length:Nat):Int)≠1:=h
  omega
 refine vjn (λ_=>true) (λg:Sl Nat×Sl Nat=>[(1,.c (eI g.2)),(2,.c (.p 0 0)),(4,.c (.p 1 0))]) (λg=>[(51,0,[.b n.p n.d,eI g.1]),(53,0,vG)]) (λg=>g.1.l=dB q.num.natAbs/\g.2.l=dB q.den) ?_
 refine⟨⟨λh1=>vk ⟨[],bBr n.m g lm lg hnl hgl,U,U,U,λu hu=>⟨[],bBr e g le lg hel hgl,U,U,U,λv hv=>⟨(u.1,v.1),⟨?_,?_⟩,U,U,U,U,U⟩⟩⟩,λh1=>vk ⟨(n.m,e),?_,U,U,U,U,U⟩⟩,λg hg=>?_⟩
 ·show u.1.l=_
  rw[hu.1,vm,vg,e1]
 ·show v.1.l=_
  rw[hv.1,ve,vg,e2]
 ·have hg1:G=1:=by
   have hl1:g.l.length=1:=aN λh=>h1 (.inl (by show((g.l.length:Nat):Int)≠1;omega))
   obtain⟨o1,-⟩:=aTu hg hl1
   exact aN λh=>h1 (.inr (by show((g.l.getD 0 U6:Nat):Int)≠1;omega))
  rw[hg1,uG] at e1 e2
  exact⟨by rw[e1];exact hn'.2,by rw[e2];exact he⟩
 refine⟨⟨⟨n.p,n.d,g.1⟩,g.2⟩,⟨⟨?_,hg.1⟩,hg.2⟩,aI U U tV⟩
 rw[e3];exact hn'.1
theorem oR (r:RatM) {q:Rat} (h:Rq r q 4398046511104):Ctr pgQ 83 [] [.a r.C] [] (rY q):=by
 refine cw func83 (⟨[],sO r h.le,U,U,U,λs hs=>⟨λh1=>vk ?_,λh1=>vk ?_⟩⟩)
 ·obtain⟨b1,b2,b3⟩:=hs h1
  refine⟨[],aKm (n:=s.1) (d:=s.2.1) ⟨b2.1,Uc⟩ ⟨Uc,Uc⟩,U,U,U,λg hg=>⟨g,?_,aI U U tV⟩⟩
  rw[<-b3];exact hg
 refine⟨[],qU r h bL bL,U,U,U,λg ⟨hg,hz⟩=>⟨[],aKn g.n g.d (hg.n.le bL) hg.ld (aJ hg.bd bL) hz,U,U,U,λx hx=>⟨x,?_,aI U U tV⟩⟩⟩
 rw[<-hg.v];exact hx
theorem kV (r:RatM) {q:Rat} (h:Rq r q 4398046511104):Ctr pgQ 62 [] [.a r.C] [] (λ_:Unit=>⟨.c (iC (sgn q.num)),[],True⟩):=by
 refine cw func62 (⟨[],qU r h bL bL,U,U,U,λg ⟨hg,hz⟩=>⟨[],aGg g.n (hg.n.le bL),U,U,U,λ_ _=>⟨(),tV,aI ?_ rfl tV⟩⟩⟩)
 obtain⟨-,-,e3,e4⟩:=aUb hz hg.v
 show sgn _=sgn _
 unfold sgn
 simp only[e3,e4]
theorem zJ {z:Int} (hz:-9223372036854775808<=z/\z<=9223372036854775807):Ctr pgQ 84 [] [.c (iC z)] [] (rY (z:Rat)):=by
 refine gA gT (eo func84) func84 U U U bL ClB.nil (Sd.sq (vk (Sd.sq (Sd.rg gT (l:=[_,_,_,_,_]) [_,_,_] [_,_] U U ⟨[],bCa hz,U,U,U,λn hn=>?_⟩))))
 show Sdl _ _ _ _ _ _ _
 refine bRm bRa 5 1 U U bL λg hg=>Sdl.go gT (vk ⟨⟨n,g⟩,⟨?_,?_⟩,aI U U tV⟩)
 ·exact hn
 show g.l=_
 rw[hg];rfl
theorem bWy {a b:Nat}:sN (a:Int) (b:Int)=0↔a=b:=by unfold sN;constructor<;>intro h<;>(repeat split at*)<;>omega
theorem aAf {a b:Int} (ha:-2147483648<a/\a<2147483648) (hb:-2147483648<b/\b<2147483648):a*b=IntKind.i64.wrap (a*b)/\-4611686018427387904<a*b/\a*b<4611686018427387904:=by
 have:=bWg ha hb
 exact⟨wi (h:=⟨U,Uc,Uc⟩),this⟩
def den (X:Sl Nat):IntM:=⟨false=true,inferInstance,X⟩
theorem aKo {X:Sl Nat} {B:Nat} (hl:Lm X.l) (hb:X.l.length<=B):In (den X) (val X.l:Nat) B:=In.den hl hb
theorem yA {a b:Int} {B C:Nat} (ha:len a.natAbs<=B) (hb:len b.natAbs<=C):len (a*b).natAbs<=B+C:=by
 rw[jL]
 have:=nF a.natAbs b.natAbs
 omega
def oPA:Ord:=.joinX [] [0,2001,2002,4,2005,2006] (.alt 3 (.alt 7 (.alt 8 (trS [9,1010]) (.alt 9 (trS [8,1010]) .nil)) (.alt 9 (trS [7,8,1010]) .nil)) (.alt 9 (trS [3,7,8,1010]) .nil))
abbrev paG (x y:RatM):List (Nat×DV):=[(15,.c (.p 5 0)),(14,.c (eI y.d)),(12,.c (eI x.d)),(4,.c (.p 2 0))]
abbrev paB (r s x y:RatM) (n:IntM):BL:=[(53,0,r.C),(53,0,s.C),(53,0,vG),(51,0,x.n.C),(51,0,y.n.C),(51,0,n.C)]
theorem aKp {r s x y:RatM} {n:IntM}:scB 6 (paB r s x y n):=aA U (aA U (aA U (aA U (aA U (aA U aU)))))
theorem aKq (r s:RatM) {a b:Rat} (hr:Rq r a 4398046511104) (hs:Rq s b 4398046511104):Ctr pgQ 131 [] [.a r.C,.a s.C] [] (rY (a+b)):=by
 refine cw func131 (⟨[],kV r hr.le,U,U,U,λ_ _=>⟨λh=>vk ?_,λ_=>vk ⟨[],kV s hs.le,U,U,U,λ_ _=>⟨λh=>vk ?_,λ_=>vk ?_⟩⟩⟩⟩)
 ·refine⟨[],oR s hs.le,U,U,U,λg hg=>⟨g,?_,aI U U tV⟩⟩
  rw[cY.1 (fT.1 h),fY];exact hg
 ·refine⟨[],oR r hr.le,U,U,U,λg hg=>⟨g,?_,aI U U tV⟩⟩
  rw[cY.1 (fT.1 h),bK];exact hg
 refine⟨[],sO r hr.le,U,U,U,λu hu=>⟨[],sO s hs.le,U,U,U,λv hv=>⟨λh=>vk ?_,λ_=>vk ?_⟩⟩⟩
 ·obtain⟨u1,u2,u3⟩:=hu h.1
  obtain⟨v1,v2,v3⟩:=hv h.2
  have m1:=aAf u1 (b:=v.2.1) ⟨Uc,v2.2⟩
  have m2:=aAf v1 (b:=u.2.1) ⟨Uc,u2.2⟩
  have m3:=aAf (a:=u.2.1) (b:=v.2.1) ⟨Uc,u2.2⟩ ⟨Uc,v2.2⟩
  have m4:=yV u2.1 v2.1
  refine⟨_,m1.1,_,m2.1,_,wi (h:=⟨U,Uc,Uc⟩),_,m3.1,[],aKm ⟨m4,Uc⟩ ⟨Uc,Uc⟩,U,U,U,λg hg=>⟨g,?_,aI U U tV⟩⟩
  rw[<-aFg u2.1 v2.1 u3 v3];exact hg
 refine⟨[],qU r hr bL bL,U,U,U,λx ⟨hx,hxz⟩=>⟨[],qU s hs bL bL,U,U,U,λy ⟨hy,hyz⟩=>?_⟩⟩
 have lx:=hx.n.len
 have ly:=hy.n.len
 have ldx:=aJ (dZ hx.ld) hx.bd
 have ldy:=aJ (dZ hy.ld) hy.bd
 refine⟨[],wD x.d y.d hx.ld hy.ld (aJ hx.bd bL) (aJ hy.bd bL),U,U,U,λ_ _=>⟨λh=>vk ?_,λ_=>vk ?_⟩⟩
 ·have e:=bWy.1 h
  refine⟨[],aTz x.n y.n (hx.n.le bL) (hy.n.le bL),U,U,U,λn hn=>?_⟩
  have l1:=aEh lx ly
  refine⟨[],aKn n x.d (Ci.in hn (aJ l1 bL)) hx.ld (aJ hx.bd bL) hxz,U,U,U,λg hg=>⟨g,?_,aI U U tV⟩⟩
  rw[<-aWp (c:=(val x.d.l:Nat)) oM hx.v (e▸hy.v)];exact hg
 have c1:=aBq x.n (den y.d) (hx.n.le bL) (aKo hy.ld (aJ hy.bd bL))
 have c2:=aBq y.n (den x.d) (hy.n.le bL) (aKo hx.ld (aJ hx.bd bL))
 have l1:=yA lx (b:=(val y.d.l:Nat)) ldy
 have l2:=yA ly (b:=(val x.d.l:Nat)) ldx
 have l3:=aEh l1 l2
 have c3:∀p1 p2:IntM,Ci p1 _->Ci p2 _->_:=λp1 p2 h1 h2=>aTz p1 p2 (Ci.in h1 (aJ l1 bL)) (Ci.in h2 (aJ l2 bL))
 refine⟨oPA,U0,IntM,λn=>⟨paG x y++[],[],paB r s x y n,[]⟩,λn=>Ci n (sg x.n.p (val x.n.m.l)*(val y.d.l:Nat)+sg y.n.p (val y.n.m.l)*(val x.d.l:Nat)),?_,λn hn=>?_⟩
 ·exact⟨⟨[],c1,U,U,U,λp hp=>⟨U,⟨⟨[],c2,U,U,U,λo ho=>⟨U,⟨⟨[],c3 p o hp ho,U,U,U,λn hn=>⟨U,⟨U,iP g0 (chg:=λ_=>paG x y) (bls:=paB r s x y) (fls:=λ_=>[]) n hn U rS trivial rS bL aKp U⟩⟩⟩,⟨U,⟨[],c3 p o hp ho,U,U,U,λn hn=>⟨U,iP g0 (chg:=λ_=>paG x y) (bls:=paB r s x y) (fls:=λ_=>[]) n hn U rS trivial rS bL aKp U⟩⟩⟩⟩⟩⟩,⟨U,⟨[],c2,U,U,U,λo ho=>⟨U,⟨[],c3 p o hp ho,U,U,U,λn hn=>⟨U,iP g0 (chg:=λ_=>paG x y) (bls:=paB r s x y) (fls:=λ_=>[]) n hn U rS trivial rS bL aKp U⟩⟩⟩⟩⟩⟩⟩⟩,⟨U,⟨[],c1,U,U,U,λp hp=>⟨U,⟨[],c2,U,U,U,λo ho=>⟨U,⟨[],c3 p o hp ho,U,U,U,λn hn=>⟨U,iP g0 (chg:=λ_=>paG x y) (bls:=paB r s x y) (fls:=λ_=>[]) n hn U rS trivial rS bL aKp U⟩⟩⟩⟩⟩⟩⟩⟩
 have l4:=nF (val x.d.l) (val y.d.l)
 refine⟨.seq [(0,false),(1,false),(2,false),(3,false),(4,true),(5,true)],U0,[],aBp x.d y.d hx.ld hy.ld (aJ hx.bd bL) (aJ hy.bd bL),U,U,U,λz hz=>?_⟩
 replace hz:z.l=dB (val x.d.l*val y.d.l):=hz
 obtain⟨lz,vz⟩:=dg hz
 refine⟨[],aKn n z (Ci.in hn (aJ l3 bL)) lz (dgl hz oM) (by rw[vz];exact Nat.mul_ne_zero hxz hyz),U,U,U,λg hg=>⟨g,?_,aI U U tV⟩⟩
 rw[<-hx.v,<-hy.v,nE _ _ oM oM,<-gQ,<-vz];exact hg
theorem yB (r s:RatM) {a b:Rat} (hr:Rq r a 4398046511104) (hs:Rq s b 4398046511104):Ctr pgQ 86 [] [.a r.C,.a s.C] [] (rY (a*b)):=by
 refine cw func86 (⟨[],sO r hr.le,U,U,U,λu hu=>⟨[],sO s hs.le,U,U,U,λv hv=>⟨λh=>vk ?_,λ_=>vk ?_⟩⟩⟩)
 ·obtain⟨u1,u2,u3⟩:=hu h.1
  obtain⟨v1,v2,v3⟩:=hv h.2
  have m1:=aAf u1 v1
  have m3:=aAf (a:=u.2.1) (b:=v.2.1) ⟨Uc,u2.2⟩ ⟨Uc,v2.2⟩
  have m4:=yV u2.1 v2.1
  refine⟨_,m1.1,_,m3.1,[],aKm ⟨m4,Uc⟩ ⟨Uc,Uc⟩,U,U,U,λg hg=>⟨g,?_,aI U U tV⟩⟩
  rw[<-aFh u3 v3];exact hg
 refine⟨[],qU r hr bL bL,U,U,U,λx ⟨hx,hxz⟩=>⟨[],qU s hs bL bL,U,U,U,λy ⟨hy,hyz⟩=>?_⟩⟩
 have l1:=yA hx.n.len hy.n.len
 have l4:=nF (val x.d.l) (val y.d.l)
 have ldx:=aJ (dZ hx.ld) hx.bd
 have ldy:=aJ (dZ hy.ld) hy.bd
 refine⟨[],aBq x.n y.n (hx.n.le bL) (hy.n.le bL),U,U,U,λn hn=>⟨[],aBp x.d y.d hx.ld hy.ld (aJ hx.bd bL) (aJ hy.bd bL),U,U,U,λz hz=>?_⟩⟩
 replace hz:z.l=dB (val x.d.l*val y.d.l):=hz
 obtain⟨lz,vz⟩:=dg hz
 refine⟨[],aKn n z (Ci.in hn (aJ l1 bL)) lz (dgl hz oM) (by rw[vz];exact Nat.mul_ne_zero hxz hyz),U,U,U,λg hg=>⟨g,?_,aI U U tV⟩⟩
 rw[<-aFh hx.v hy.v,<-gQ,<-vz];exact hg
theorem bCc (r:RatM) {q:Rat} (h:Rq r q 4398046511104):Ctr pgQ 141 [] [.a r.C] [] (rY (-q)):=by
 refine cw func141 (⟨[],oR r h,U,U,U,λg hg=>⟨[],bJn g.n (v:=q.num) (Ci.in hg.1 (aJ h.rb.1 bL)),U,U,U,λn hn=>⟨⟨n,g.d⟩,⟨?_,hg.2⟩,aI U U tV⟩⟩⟩)
 exact hn
theorem bCd {p:Prop} {m d:Nat}:Rat.divInt (sg p d) (m:Nat)=(Rat.divInt (sg p m) (d:Nat))⁻¹:=by
 rw[Rat.inv_divInt]
 by_cases hp:p
 ·rw[lW hp,lW hp,Rat.divInt_neg']
 rw[lZ hp,lZ hp]
def RatM.flip (r:RatM):RatM:=⟨⟨r.n.p,r.n.d,r.d⟩,r.n.m⟩
theorem Rq.flip {r:RatM} {q:Rat} {B:Nat} (h:Rq r q B):Rq r.flip q⁻¹ B:=⟨⟨h.ld,h.bd,U⟩,h.n.lm,h.n.ln,by rw[<-h.v];exact bCd⟩
theorem bRo (r:RatM) {q:Rat} {B:Nat} (h:Rq r q 4398046511104) (hB:rb q B) (hq:q≠0):Ctr pgQ 193 [] [.a r.C] [] (λg:RatM=>⟨.t [.a g.C,pC True],[],Rq g q⁻¹ B⟩):=by
 refine cw func193 (⟨[],kV r h,U,U,U,λ_ _=>⟨λh=>U4 (cY.1 (fT.1 h)) hq,λ_=>vk ⟨[],oR r h,U,U,U,λg hg=>⟨g.flip,(Cr.rq hg hB).flip,aI ⟨U,tt tV⟩ U tV⟩⟩⟩⟩)
theorem aRd (r s:RatM) {a b:Rat} (hr:Rq r a 4398046511104) (hs:Rq s b 4398046511104) (hb:b≠0):Ctr pgQ 136 [] [.a r.C,.a s.C] [] (λg:RatM=>⟨.t [.a g.C,pC True],[],Cr g (a/b)⟩):=by
 refine cw func136 (⟨[],kV s hs,U,U,U,λ_ _=>⟨λh=>U4 (cY.1 (fT.1 h)) hb,λ_=>vk ⟨[],yB r s.flip hr hs.flip,U,U,U,λg hg=>⟨g,?_,aI ⟨U,tt tV⟩ U tV⟩⟩⟩⟩)
 rw[iJ];exact hg
theorem Rq.neg {r:RatM} {q:Rat} {B:Nat} (h:Rq r q B):Rq ⟨⟨¬r.n.p,@instDecidableNot _ r.n.d,r.n.m⟩,r.d⟩ (-q) B:=⟨⟨h.n.lm,h.n.ln,U⟩,h.ld,h.bd,by
 rw[<-h.v]
 show Rat.divInt (sg (¬r.n.p) _) _=_
 rw[bBx,yW]⟩
theorem aKr (r s:RatM) {a b:Rat} (hr:Rq r a 4398046511104) (hs:Rq s b 4398046511104):Ctr pgQ 85 [] [.a r.C,.a s.C] [] (rY (a-b)):=by
 refine cw func85 (⟨[],aKq r ⟨⟨¬s.n.p,@instDecidableNot _ s.n.d,s.n.m⟩,s.d⟩ hr hs.neg,U,U,U,λg hg=>⟨g,?_,aI U U tV⟩⟩)
 rw[jD];exact hg
theorem aKs (r f s:RatM) {a q b:Rat} {B:Nat} (hr:Rq r a 4398046511104) (hf:Rq f q 4398046511104) (hs:Rq s b 4398046511104) (hqb:rb (q*b) 4398046511104) (hB:rb (a-q*b) B) (hra:Rq r a B):Ctr pgQ 135 [] [.a r.C,.a f.C,.a s.C] [] (λg:RatM=>⟨.a g.C,[],Rq g (a-q*b) B⟩):=by
 refine cw func135 (⟨[],kV s hs,U,U,U,λ_ _=>⟨λh=>vk ⟨r,?_,aI U U tV⟩,λh=>vk ?_⟩⟩)
 ·rw[cY.1 (fT.1 h),bU,jD,Rat.neg_zero,bK];exact hra
 exact⟨.seq [(0,false),(1,false),(2,false),(3,false),(4,false),(5,true)],U0,[],yB f s hf hs,U,U,U,λm hm=>⟨[],aKr r m hr (Cr.rq hm hqb),U,U,U,λg hg=>⟨g,Cr.rq hg hB,aI U U tV⟩⟩⟩
end Go.Proofs.YtljcaaakbkneaaaGreat
namespace Go.Proofs.YtljcaaakbkneaaaGreat
open Go.Vg _root_.Go.Proofs.Tryz
open Go.Vm
open Go.Vy hiding val
instance:Inhabited IntM:=⟨⟨false=true,inferInstance,cG⟩⟩
instance:Inhabited RatM:=⟨⟨U6,cG⟩⟩
structure EntM where
 ix:Int
 v:RatM
instance:Inhabited EntM:=⟨⟨0,U6⟩⟩
def EntM.C (e:EntM):List CV:=iC e.ix::e.v.C
def cF (x:Sl EntM):CV:=x.R 4 EntM.C U6
structure Ev (x:List EntM) (es:List En) (B:Nat):Prop where
 ln:x.length=es.length
 e:∀k,k<es.length->(x.getD k U6).ix=(es.getD k U6).1/\Rq (x.getD k U6).v (es.getD k U6).2 B
structure Ek (x:List EntM) (es:List En):Prop where
 ln:x.length=es.length
 e:∀k,k<es.length->(x.getD k U6).ix=(es.getD k U6).1/\Cr (x.getD k U6).v (es.getD k U6).2
def rbE (es:List En) (B:Nat):Prop:=∀e∈es,rb e.2 B
theorem fN {I:Type} [Inhabited I] {l:List I} {k:Nat} (h:k<l.length):l.getD k U6∈l:=by rw[gd h];exact kB h
theorem Ek.ev {x:List EntM} {es:List En} {B:Nat} (h:Ek x es) (hb:rbE es B):Ev x es B:=⟨h.ln,λk hk=>⟨(h.e k hk).1,(h.e k hk).2.rq (hb _ (fN hk))⟩⟩
theorem Ev.le {x:List EntM} {es:List En} {B B':Nat} (h:Ev x es B) (hb:B<=B'):Ev x es B':=⟨h.ln,λk hk=>⟨(h.e k hk).1,(h.e k hk).2.le hb⟩⟩
theorem bRp {es:List En} {k:Nat} (hk:k+1<es.length) (h:(es.getD (k+1) U6).1<=(es.getD k U6).1):¬Asc es:=λha=>by
 have h2:=gW.1 ha k (k+1) oM hk oM
 rw[gd hk,gd oM] at h
 exact U4 h (aAq.2 h2)
theorem bNd {es:List En} {k:Nat} (hk:k+1<es.length) (h:(es.getD k U6).1<(es.getD (k+1) U6).1) (ha:Asc (es.take (k+1))):Asc (es.take (k+1+1)):=by
 have h1:es.take (k+1+1)=es.take (k+1)++[es.getD (k+1) U6]:=by rw[dF,aG hk,gd hk];rfl
 have h0:es.take (k+1)=es.take k++[es.getD k U6]:=by rw[dF,aG (show k<es.length by omega),gd (show k<es.length by omega)];rfl
 rw[h1]
 refine eR.2 ⟨ha,eK _ _,λa h2 b h3=>?_⟩
 rw[aE.1 h3]
 rw[h0] at h2 ha
 rcases aO.1 h2 with h2|h2
 ·exact jH ((eR.1 ha).2.2 a h2 _ (.head _)) h
 rw[aE.1 h2];exact h
theorem bCe (x:Sl EntM) {es:List En} {B:Nat} (h:Ev x.l es B):Ctr pgQ 137 [] [.c (cF x)] [] (λ_:Unit=>⟨pC (Asc es),[],True⟩):=by
 have hl:=h.ln
 refine gA gT (eo func137) func137 U U U bL ClB.nil (aXc 0 U λhn=>vk ?_)
 refine lJ (rn [(2,21)]) (λi:Nat=>[(3,.c (iC (i+1:Nat)))]) (λ_=>[]) (λi=>Asc (es.take (i+1))/\(i<es.length\/i=0)) (es.length-·) 0 ?_
 refine⟨⟨⟨?_,.inr rfl⟩,U,U⟩,λi hi=>vk ⟨λh1=>vk ?_,λh1=>vk ?_⟩⟩
 ·cases es with
  |nil=>exact List.Pairwise.nil
  |cons e es=>exact eK _ _
 ·replace h1:((i+1:Nat):Int)<(x.l.length:Nat):=h1
  have hk:i+1<es.length:=Uc
  have e1:=(h.e i oM).1
  have e2:=(h.e (i+1) hk).1
  refine⟨.seq (sq 99 (List.range 12)),U0,(i:Int),wi,i,⟨U,oM⟩,i+1,⟨U,oM⟩,⟨λhe=>vk ?_,λhe=>vk ?_⟩⟩
  ·replace he:(x.l.getD (i+1) U6).ix<=(x.l.getD i U6).ix:=he
   exact⟨(),tV,aI ⟨(nomatch ·),λha=>U4 ha (bRp hk oM)⟩ U tV⟩
  replace he:¬(x.l.getD (i+1) U6).ix<=(x.l.getD i U6).ix:=he
  exact⟨(i+1+1:Nat),wi,i+1,⟨⟨bNd hk oM hi.1,.inl hk⟩,oM⟩,U,U,U⟩
 replace h1:¬((i+1:Nat):Int)<(x.l.length:Nat):=h1
 refine vk ⟨(),tV,aI ⟨λ_=>?_,λ_=>U⟩ U tV⟩
 have:=hi.1
 rwa [cE oM] at this
theorem aKt (x:Sl EntM) {es:List En} {B:Nat} (h:Ev x.l es B) (ha:Asc es):Ctr pgQ 184 [] [.c (cF x)] [] (λ_:Unit=>⟨.c (cF x),[],True⟩):=by
 refine cw func184 (⟨[],bCe x h,U,U,U,λ_ _=>⟨λ_=>vk ⟨(),tV,aI U U tV⟩,λh2=>U4 ha h2⟩⟩)
theorem mK {es:List En} {i:Int} {B:Nat} (ha:Asc es) (hb:rbE es B) (h1:1<=B):rb (Vm.get es i) B:=by
 induction es with
 |nil=>exact⟨by show len 0<=B;rw[show len 0=0 by decide];omega,by show len 1<=B;rw[show len 1=1 by decide];omega⟩
 |cons e es ih=>
  by_cases he:e.1=i
  ·subst he;rw[get_head ha];exact hb e (.head _)
  rw[jW he];exact ih ha.tail λe he=>hb e (.tail _ he)
theorem aOj {es:List En} {i:Int} {k:Nat} (hk:k<es.length):Vm.get (es.take (k+1)) i=Vm.get (es.take k) i+(if (es.getD k U6).1=i then (es.getD k U6).2 else 0):=by
 rw[dF,aG hk,gd hk,get_append]
 congr 1
 show _+0=_
 rw[bK]
theorem bCf (x:Sl EntM) (i:Int) {es:List En} {B:Nat} (h:Ev x.l es B) (hb:rbE es B) (ha:Asc es) (h1:1<=B) (hB:B<=4398046511104):Ctr pgQ 194 [] [.c (cF x),.c (iC i)] [] (rY (Vm.get es i)):=by
 have hl:=h.ln
 have hgb:∀k,rb (Vm.get (es.take k) i) 4398046511104:=λk=>(mK (ha.sublist (iT _ _)) (λe he=>hb e (cH he)) h1).le
 refine gA gT (eo func194) func194 U U U bL ClB.nil (aXc 0 U λhn=>vk ⟨[],zJ (z:=0) dC,U,U,U,λz hz=>?_⟩)
 replace hn:x.l.length<=9223372036854775807:=hn
 refine bX (rn [(6,7),(11,24)]) (λg:Nat×RatM=>[(11,.c (iC g.1))]) (λg=>[(53,0,vG),(53,0,g.2.C)]) (λ_=>[]) (λg=>g.1<=es.length/\Cr g.2 (Vm.get (es.take g.1) i)) (λg=>es.length-g.1) λhM=>⟨hM (0,z) ⟨aB _,hz⟩ U ⟨U,U⟩ U1 U bL (aA U (aA U aU)) U,λ⟨k,g⟩ ⟨hk,hg⟩=>vk ⟨λh2=>vk ?_,λh2=>vk (vk ?_)⟩⟩
 all_goals
  replace hk:k<=es.length:=hk
  replace hg:Cr g (Vm.get (es.take k) i):=hg
 ·replace h2:(k:Int)<(x.l.length:Nat):=h2
  have hkl:k<es.length:=Uc
  have e1:=(h.e k hkl).1
  refine⟨k,⟨U,Uc⟩,⟨λh3=>vk ?_,λh3=>vk ?_⟩⟩
  ·replace h3:(x.l.getD k U6).ix=i:=h3
   refine⟨[],aKq g (x.l.getD k U6).v (hg.rq (hgb k)) ((h.e k hkl).2.le hB),U,U,U,λs hs=>⟨(k:Int)+1,wi,hM (k+1,s) ⟨⟨hkl,?_⟩,show es.length-(k+1)<es.length-k by omega⟩ U ⟨U,U⟩ U1 U bL (aA U (aA U aU)) U⟩⟩
   show Cr s _
   rw[aOj hkl,U3 oM];exact hs
  replace h3:¬(x.l.getD k U6).ix=i:=h3
  refine⟨(k:Int)+1,wi,hM (k+1,g) ⟨⟨hkl,?_⟩,show es.length-(k+1)<es.length-k by omega⟩ U ⟨U,U⟩ U1 U bL (aA U (aA U aU)) U⟩
  show Cr g _
  rw[aOj hkl,U2 oM,bK];exact hg
 replace h2:¬(k:Int)<(x.l.length:Nat):=h2
 refine⟨g,?_,aI U U tV⟩
 show Cr g _
 rw[cE oM] at hg
 exact hg
def VOk (es:List En) (n:Int):Prop:=Asc es/\∀e∈es,0<=e.1/\e.1<n/\e.2≠0
theorem aOk (x:Sl EntM) (n:Int) {es:List En} {B:Nat} (h:Ev x.l es B) (hB:B<=4398046511104):Ctr pgQ 90 [] [.c (cF x),.c (iC n)] [] (λ_:Unit=>⟨pC (VOk es n),[],True⟩):=by
 have hl:=h.ln
 refine gA gT (eo func90) func90 U U U bL ClB.nil (aXc 0 U λhn=>vk ⟨[],bCe x h,U,U,U,λ_ _=>⟨λh1=>vk ?_,λh1=>vk ?_⟩⟩)
 ·exact⟨(),tV,aI ⟨(nomatch ·),λh2=>U4 h2.1 h1⟩ U tV⟩
 replace h1:Asc es:=cR.1 h1
 replace hn:x.l.length<=9223372036854775807:=hn
 refine bX (rn [(6,6),(12,31)]) (λk:Nat=>[(12,.c (iC k))]) (λ_=>[]) (λ_=>[]) (λk=>k<=es.length/\∀e∈es.take k,0<=e.1/\e.1<n/\e.2≠0) (λk=>es.length-k) λhM=>⟨hM 0 ⟨aB _,by simp⟩ U trivial trivial U bL aU U,λk ⟨hk,hg⟩=>vk ⟨λh2=>vk ?_,λh2=>vk (vk ?_)⟩⟩
 ·replace h2:(k:Int)<(x.l.length:Nat):=h2
  have hkl:k<es.length:=Uc
  obtain⟨e1,e2⟩:=h.e k hkl
  have bad:¬(0<=(es.getD k U6).1/\(es.getD k U6).1<n/\(es.getD k U6).2≠0)->¬VOk es n:=λhh hv=>hh (hv.2 _ (fN hkl))
  refine⟨k,⟨U,Uc⟩,⟨λh3=>?_,λh3=>?_⟩⟩
  ·replace h3:(x.l.getD k U6).ix<0\/n<=(x.l.getD k U6).ix:=h3
   exact⟨(),tV,aI ⟨(nomatch ·),λhv=>U4 hv (bad oM)⟩ U tV⟩
  replace h3:¬((x.l.getD k U6).ix<0\/n<=(x.l.getD k U6).ix):=h3
  refine⟨[],kV (x.l.getD k U6).v (e2.le hB),U,U,U,λ_ _=>⟨λh4=>vk ?_,λh4=>vk ?_⟩⟩
  ·exact⟨(),tV,aI ⟨(nomatch ·),λhv=>U4 hv (bad λhh=>hh.2.2 (cY.1 (fT.1 h4)))⟩ U tV⟩
  refine⟨(k:Int)+1,wi,hM (k+1) ⟨⟨hkl,(aOh (d:=U6) hkl).2 ⟨hg,Uc,Uc,λh5=>h4 (fT.2 (cY.2 h5))⟩⟩,show es.length-(k+1)<es.length-k by omega⟩ U trivial trivial U bL aU U⟩
 replace h2:¬(k:Int)<(x.l.length:Nat):=h2
 rw[cE oM] at hg
 exact⟨(),tV,aI ⟨λ_=>⟨h1,hg⟩,λ_=>U⟩ U tV⟩
theorem bNe (x y:RatM) {a:Rat} (hx:Rq x a 4398046511104):Ctr pgQ 211 [] [.a x.C,.a y.C] [] (rY a):=by
 refine cw func211 (⟨[],oR x hx,U,U,U,λg hg=>⟨g,hg,aI U U tV⟩⟩)
theorem bWz (f x y:RatM) {q a b:Rat} (hf:Rq f q 4398046511104) (hx:Rq x a 4398046511104) (hy:Rq y b 4398046511104) (hb:rb (q*b) 4398046511104):Ctr pgQ 185 [true] [.a x.C,.a y.C,.c (.p 0 0)] [(53,0,f.C)] (λg:RatM=>⟨.a g.C,[(53,0,f.C)],Cr g (a+q*b)⟩):=by
 refine gA gT (eo func185) func185 U U U bL (eW U) (vk ⟨[],kV y hy,U,U,U,λ_ _=>⟨λh=>vk ?_,λh=>vk ?_⟩⟩)
 ·refine⟨[],oR x hx,U,U,U,λg hg=>⟨g,?_,aI U U ⟨rS,tV⟩⟩⟩
  show Cr g _
  rw[cY.1 (fT.1 h),bU,bK];exact hg
 exact⟨.seq [(0,false),(1,false),(2,false),(3,false),(4,false),(5,true)],U0,[],yB f y hf hy,U,U,U,λm hm=>⟨[],aKq x m hx (Cr.rq hm hb),U,U,U,λg hg=>⟨g,hg,aI U U ⟨rS,tV⟩⟩⟩⟩
theorem Sd.sq {P:Program} {nb N:Nat} {a b:Code} {K:Kt} {s:SS} (h:Sd P nb N a ⟨λs'=>Sd P nb N b K s',K.ext,K.ret⟩ s):Sd P nb N (.seq a b) K s:=λρ0 w0 D f w Q hL hD=>
 aXt (h ρ0 w0 D f w _ ⟨λs' ρ' f' w' h' hD'=>h' ρ0 w0 ρ' f' w' Q hL hD',hL.ext,hL.ret⟩ hD)
theorem Sd.cut {P:Program} {nb N:Nat} {a b:Code} {K:Kt} {s:SS} {σ:Type} (S:σ->SS) (C:σ->Prop) (h:Sd P nb N a ⟨λs'=>Gt nb s' S C,K.ext,K.ret⟩ s) (hk:∀g,C g->Sd P nb N b K (S g)):Sd P nb N (.seq a b) K s:=λρ0 w0 D f w Q hL hD=>
 aXt (h ρ0 w0 D f w _ ⟨λs' ρ' f' w' hg hD'=>by
  obtain⟨g,ρ2,hC,hD2⟩:=hg ρ0 w0 ρ' f' w' hD'
  exact hk g hC ρ0 w0 ρ2 f' w' Q hL hD2,hL.ext,hL.ret⟩ hD)
theorem Sd.blk {P:Program} {nb N id:Nat} {c:Code} {K:Kt} {s:SS} (h:Sd P nb N c ⟨K.nrm,λj s'=>bif Nat.beq j id then K.nrm s' else K.ext j s',K.ret⟩ s):Sd P nb N (.block id c) K s:=λρ0 w0 D f w Q hL hD=>
 aXv (h ρ0 w0 D f w _ ⟨hL.nrm,λj s' ρ' f' w' h' hD'=>by
  have h2:(bif Nat.beq j id then K.nrm s' else K.ext j s'):=h'
  show match Nat.beq j id with|true=>Q.nrm f' w'|false=>Q.ext j f' w'
  cases hj:Nat.beq j id with
  |true=>rw[hj] at h2;exact hL.nrm s' ρ' f' w' h2 hD'
  |false=>rw[hj] at h2;exact hL.ext j s' ρ' f' w' h2 hD',hL.ret⟩ hD)
theorem gF (r:RatM):∀c∈r.C,fS c=true:=λc h2=>by
 simp only[RatM.C,bW,dI,or_false] at h2
 rcases h2 with rfl|rfl|rfl<;>rfl
def ecs (ys:List EntM):List CV:=(ys.map EntM.C).flatten
theorem iA:∀ys:List EntM,(ecs ys).length=ys.length*4
 |[]=>rfl
 |e::ys=>by
  show(e.C++ecs ys).length=_
  rw[aD,iA ys,eG]
  show 4+_=_
  omega
theorem iB (ys:List EntM):∀c∈ecs ys,fS c=true:=λc hc=>by
 obtain⟨l,h1,h2⟩:=vS.1 hc
 obtain⟨e,_,rfl⟩:=bZ.1 h1
 rcases bW.1 h2 with rfl|h2
 ·rfl
 exact gF _ c h2
theorem qV (ys:List EntM) (e:EntM):ecs ys++e.C=ecs (ys++[e]):=by unfold ecs;simp
theorem bJ {i:Nat} {c:CV} (h:fS c=true):kS i c=false:=by cases c<;>first|rfl|cases h
theorem nT {n:Nat} (ys:List EntM):(ecs ys).all (scC n)=true:=aX.2 λc hc=>sM (iB ys c hc)
theorem tU (x:List EntM) (i:Nat) (A:Option Addr) (c:Nat):CV.r A ((x.drop i).length-1) c 4 (λj=>((x.drop i).getD (j+1) U6).C)=cF ⟨A,c,x.drop (i+1)⟩:=by
 unfold cF Sl.R
 congr 1
 ·simp only[cP];omega
 funext j
 rw[aC,aC,dN,dN,show i+(j+1)=i+1+j by omega]
theorem aIh {I:Type} [Inhabited I] {l:List I} {i:Nat} (h:i<l.length):l.drop i=l.getD i U6::l.drop (i+1):=by rw[dK h,gd h]
theorem rQ {x:List EntM} {i:Nat}:(x.drop i).getD 0 U6=x.getD i U6:=by
 rw[aC,aC,dN,iS]
theorem wI {B:Nat}:Rq U6 0 B:=⟨⟨Lm.nil,aB _,U⟩,Lm.nil,aB _,U⟩
theorem wJ {B:Nat} (h:1<=B):rb 0 B:=⟨by show len 0<=B;rw[show len 0=0 by decide];omega,by show len 1<=B;rw[show len 1=1 by decide];omega⟩
structure MgR (op:Rat->Rat->Rat) (es fs rs:List En):Prop where
 a:Asc rs
 z:aHi rs
 g:∀i,Vm.get rs i=op (Vm.get es i) (Vm.get fs i)
def aOl (es fs:List En) (B i j:Nat) (i' j':Nat) (ix:Int) (u v:RatM):Prop:=∃a b,Stp (es.drop i) (fs.drop j) ix a b (es.drop i') (fs.drop j')/\Rq u a B/\Rq v b B/\rb a B/\rb b B/\i'<=es.length/\j'<=fs.length/\i+j<i'+j'
section seen
variable {x y:List EntM} {es fs:List En} {B i j:Nat} (hx:Ev x es B) (hy:Ev y fs B) (bx:rbE es B) (bY:rbE fs B) (h1:1<=B) (hi:i<=es.length) (hj:j<=fs.length)
include hx bx h1 hj in
theorem bCg (h:i<es.length) (h2:j=fs.length\/(j<fs.length/\(es.getD i U6).1<(fs.getD j U6).1)):aOl es fs B i j (i+1) j ((x.drop i).getD 0 U6).ix ((x.drop i).getD 0 U6).v U6:=by
 rw[rQ,(hx.e i h).1]
 refine⟨_,0,?_,(hx.e i h).2,wI,bx _ (fN h),wJ h1,h,hj,Uc⟩
 rw[aIh h]
 rcases h2 with rfl|⟨h2,h3⟩
 ·rw[mG];exact .l _ _
 rw[aIh h2];exact .lt _ _ _ _ h3
include hx hy bx bY in
theorem bCh (h:i<es.length) (h2:j<fs.length) (h3:(es.getD i U6).1=(fs.getD j U6).1):aOl es fs B i j (i+1) (j+1) ((x.drop i).getD 0 U6).ix ((x.drop i).getD 0 U6).v ((y.drop j).getD 0 U6).v:=by
 rw[rQ,rQ,(hx.e i h).1]
 refine⟨_,_,?_,(hx.e i h).2,(hy.e j h2).2,bx _ (fN h),bY _ (fN h2),h,h2,Uc⟩
 rw[aIh h,aIh h2];exact .eq _ _ _ _ h3
include hy bY h1 hi in
theorem bCi (h2:j<fs.length) (h:i=es.length\/(i<es.length/\(fs.getD j U6).1<(es.getD i U6).1)):aOl es fs B i j i (j+1) ((y.drop j).getD 0 U6).ix U6 ((y.drop j).getD 0 U6).v:=by
 rw[rQ,(hy.e j h2).1]
 refine⟨0,_,?_,wI,(hy.e j h2).2,wJ h1,bY _ (fN h2),hi,h2,Uc⟩
 rw[aIh h2]
 rcases h with rfl|⟨h,h3⟩
 ·rw[mG];exact .r _ _
 rw[aIh h];exact .gt _ _ _ _ h3
end seen
theorem qW {get:Nat->List CV} {e:Nat}:LeC (.v (.slice none 0 0)) (.r none 0 0 e get):=λD n w x h=>by rw[h.inv_v];exact Rc.nil none 0 e get (aB _)
theorem aOm:∀(k:Nat) (c c':CV),vG[k]? =some c->(U6:RatM).C[k]? =some c'->LeC c c'
 |0,c,c',h1,h2=>by injection h1 with h1;injection h2 with h2;subst h1 h2;exact fE _
 |1,c,c',h1,h2=>by injection h1 with h1;injection h2 with h2;subst h1 h2;exact qW
 |2,c,c',h1,h2=>by injection h1 with h1;injection h2 with h2;subst h1 h2;exact qW
 |_+3,c,c',h1,h2=>by cases h1
theorem wK {ys:List EntM} {rs:List En} {ix:Int} {g:RatM} {q:Rat} (h:Ek ys rs) (hg:Cr g q):Ek (ys++[⟨ix,g⟩]) (rs++[(ix,q)]):=⟨by simp[h.ln],λk hk=>by
 rw[aD,cO] at hk
 have hl:=h.ln
 rcases eE k rs.length with h1|h1
 ·have e1:(ys++[(⟨ix,g⟩:EntM)]).getD k U6=ys.getD k U6:=by simp[aV (show k<ys.length by omega)]
  have e2:(rs++[(ix,q)]).getD k U6=rs.getD k U6:=by simp[aV h1]
  rw[e1,e2];exact h.e k h1
 obtain rfl:k=rs.length:=Uc
 have e1:(ys++[(⟨ix,g⟩:EntM)]).getD rs.length U6=⟨ix,g⟩:=by rw[<-hl];simp
 have e2:(rs++[(ix,q)]).getD rs.length U6=(ix,q):=by simp
 rw[e1,e2];exact⟨U,hg⟩⟩
theorem sP:∀(ys:List EntM) (j:Nat),j<ys.length->(ys.getD j U6).C=((ecs ys).drop (j*4)).take 4
 |[],j,h=>U4 h (aF _)
 |e::ys,0,h=>rfl
 |e::ys,j+1,h=>by
  have h1:=sP ys j (by simpa using h)
  show(ys.getD j U6).C=((e.C++ecs ys).drop ((j+1)*4)).take 4
  have e4:e.C.length=4:=rfl
  rw[h1,dH,iD (j*4) 4,List.drop_append,e4,fP,cK (show e.C.length<=4+j*4 by rw[e4];omega),mX]
theorem mT {i:Nat} (e:EntM):∀c∈e.C,kS i c=false:=λc hc=>bJ (by
 rcases bW.1 hc with rfl|hc
 ·rfl
 exact gF _ c hc)
theorem aAg {T e:Nat} {l:List CV} {r:BL} (h:∀c∈l,fS c=true):ClB [true] ((T,e,l)::r):=λi T' es' l' hi hc=>by
 cases i with
 |zero=>injection hi with hi;injection hi with _ hi;injection hi with _ hi;subst hi;exact h
 |succ i=>cases hc
theorem bCj (x y:Sl EntM) {es fs:List En} {B:Nat} {q:FuncId} {op:Rat->Rat->Rat} (hx:Ev x.l es B) (hy:Ev y.l fs B) (bx:rbE es B) (bY:rbE fs B) (h1:1<=B) (ax:Asc es) (ay:Asc fs) (nx:es.length<=4096) (ny:fs.length<=4096) (h0:op 0 0=0)
 (hrb:∀a b,rb a B->rb b B->rb (op a b) 4398046511104)
 (hop:∀(u v:RatM) {a b:Rat},Rq u a B->Rq v b B->rb a B->rb b B->Ctr pgQ q [] [.a u.C,.a v.C] [] (λg:RatM=>⟨.a g.C,[],Cr g (op a b)⟩)):
 Ctr pgQ 183 [] [.c (cF x),.c (cF y),.c (.f q [] [])] [] (λys:List EntM=>⟨.c (.s 0 ys.length),[(75,4,ecs ys)],∃rs,Ek ys rs/\MgR op es fs rs⟩):=by
 have lx:=hx.ln
 have ly:=hy.ln
 refine cw func183 (⟨max (x.l.length) (y.l.length),⟨U,by show max (x.l.length:Int) (y.l.length:Int)=_;omega,by show 64*_<=_;omega,by simp only[maxLen];omega⟩,?_⟩)
 refine bBf (λt=>!Nat.beq t 2) (λg:Nat×Nat×Option Addr×Nat×Option Addr×Nat×List EntM=>[(7,.c (.s 0 g.2.2.2.2.2.2.length)),(0,.c (cF ⟨g.2.2.1,g.2.2.2.1,x.l.drop g.1⟩)),(1,.c (cF ⟨g.2.2.2.2.1,g.2.2.2.2.2.1,y.l.drop g.2.1⟩))]) (λg=>[(75,4,ecs g.2.2.2.2.2.2)]) (λ_=>[]) (λg=>g.1<=es.length/\g.2.1<=fs.length/\g.2.2.2.2.2.2.length<=g.1+g.2.1/\∃rs ps,Mg op es fs (es.drop g.1) (fs.drop g.2.1) rs ps/\Ek g.2.2.2.2.2.2 rs) (λg=>es.length+fs.length-(g.1+g.2.1)) λhM=>⟨iP hM (0,0,x.A,x.c,y.A,y.c,[]) ⟨aB _,aB _,aB _,[],[],Mg.start ax ay,U,λk hk=>U4 hk (aF _)⟩ U U trivial ⟨U,U,U⟩ bL (aA (nT _) aU) U,λ⟨i,j,A1,c1,A2,c2,ys⟩ ⟨hi,hj,hys,rs,ps,hmg,hek⟩=>Sd.sq (vk ⟨λh2=>vk (Sd.blk (Sd.sq (vk (Sd.sq (vk ?_))))),λh2=>vk ?_⟩)⟩
 all_goals
  replace hi:i<=es.length:=hi
  replace hj:j<=fs.length:=hj
  replace hys:ys.length<=i+j:=hys
  replace hmg:Mg op es fs (es.drop i) (fs.drop j) rs ps:=hmg
  replace hek:Ek ys rs:=hek
  have la:(x.l.drop i).length=es.length-i:=by rw[cP,lx]
  have lb:(y.l.drop j).length=fs.length-j:=by rw[cP,ly]
 ·replace h2:(0:Int)<((x.l.drop i).length:Nat)\/(0:Int)<((y.l.drop j).length:Nat):=h2
  show Sd _ _ _ _ _ _
  refine gJ tSd (l:=vG) 1 (U6:RatM).C rfl U aOm (gJ tSd (l:=vG) 2 (U6:RatM).C rfl U aOm ?_)
  refine Sd.cut (σ:=Nat×Nat×Option Addr×Nat×Option Addr×Nat×Int×RatM×RatM) (λg=>⟨[(7,.c (.s 0 ys.length)),(0,.c (cF ⟨g.2.2.1,g.2.2.2.1,x.l.drop g.1⟩)),(1,.c (cF ⟨g.2.2.2.2.1,g.2.2.2.2.2.1,y.l.drop g.2.1⟩)),(8,.c (iC g.2.2.2.2.2.2.1)),(9,.c (.p 1 0)),(10,.c (.p 2 0))]++[(2,.c (.f q [] []))],[],[(75,4,ecs ys),(53,0,g.2.2.2.2.2.2.2.1.C),(53,0,g.2.2.2.2.2.2.2.2.C)],[]⟩) (λg=>aOl es fs B i j g.1 g.2.1 g.2.2.2.2.2.2.1 g.2.2.2.2.2.2.2.1 g.2.2.2.2.2.2.2.2) (vk ?_) λ⟨i',j',A3,c3,A4,c4,ix,u,v⟩ hs=>vk ?_
  ·refine⟨.seq (sq 99 (List.range 19)),U0,0,λhq=>⟨U,?_⟩,0,λhq=>⟨U,?_⟩,⟨λhc=>vk ?_,λhc=>vk ?_⟩⟩
   ·replace hq:((0:Int)<((x.l.drop i).length:Nat))/\¬(((y.l.drop j).length:Nat):Int)=0:=hq
    show 0<(x.l.drop i).length
    omega
   ·replace hq:((0:Int)<((x.l.drop i).length:Nat))/\¬(((y.l.drop j).length:Nat):Int)=0:=hq
    show 0<(y.l.drop j).length
    omega
   ·replace hc:(((y.l.drop j).length:Nat):Int)=0\/((0:Int)<((x.l.drop i).length:Nat))/\((x.l.drop i).getD 0 U6).ix<=((y.l.drop j).getD 0 U6).ix:=hc
    have hil:i<es.length:=Uc
    have l1:0<(x.l.drop i).length:=Uc
    refine⟨.seq (sq 9 (List.range 10)),U0,0,⟨U,l1⟩,0,⟨U,l1⟩,1,⟨U,l1⟩,0,λhq=>⟨U,?_⟩,⟨λhd=>vk ?_,λhd=>vk ?_⟩⟩
    ·replace hq:(0:Int)<((y.l.drop j).length:Nat):=hq
     show 0<(y.l.drop j).length
     omega
    ·replace hd:(0:Int)<((y.l.drop j).length:Nat)/\((y.l.drop j).getD 0 U6).ix=((x.l.drop i).getD 0 U6).ix:=hd
     have hs:=bCh hx hy bx bY (i:=i) (j:=j) hil oM (by rw[rQ,rQ,(hx.e i hil).1,(hy.e j oM).1] at hd;exact hd.2.symm)
     have l2:0<(y.l.drop j).length:=Uc
     exact⟨0,⟨U,l2⟩,1,⟨U,l2⟩,iP hM (chg:=λg:Nat×Nat×Option Addr×Nat×Option Addr×Nat×Int×RatM×RatM=>[(7,.c (.s 0 ys.length)),(0,.c (cF ⟨g.2.2.1,g.2.2.2.1,x.l.drop g.1⟩)),(1,.c (cF ⟨g.2.2.2.2.1,g.2.2.2.2.2.1,y.l.drop g.2.1⟩)),(8,.c (iC g.2.2.2.2.2.2.1)),(9,.c (.p 1 0)),(10,.c (.p 2 0))]) (bls:=λg:Nat×Nat×Option Addr×Nat×Option Addr×Nat×Int×RatM×RatM=>[(75,4,ecs ys),(53,0,g.2.2.2.2.2.2.2.1.C),(53,0,g.2.2.2.2.2.2.2.2.C)]) (fls:=λ_=>[]) (i+1,j+1,slA A1 c1 1 4,c1-1,slA A2 c2 1 4,c2-1,((x.l.drop i).getD 0 U6).ix,((x.l.drop i).getD 0 U6).v,((y.l.drop j).getD 0 U6).v) hs U ⟨U,U,U⟩ U1 ⟨U,tU x.l i _ _,tU y.l j _ _,U,U,U⟩ bL (aA (nT _) (aA U (aA U aU))) U⟩
    replace hd:¬((0:Int)<((y.l.drop j).length:Nat)/\((y.l.drop j).getD 0 U6).ix=((x.l.drop i).getD 0 U6).ix):=hd
    have hs:=bCg hx bx h1 hj (i:=i) (fs:=fs) hil (by
     rcases eE j fs.length with h|h
     ·rw[rQ,rQ,(hx.e i hil).1,(hy.e j h).1] at hd hc
      exact .inr ⟨h,Uc⟩
     exact .inl oM)
    exact iP hM (chg:=λg:Nat×Nat×Option Addr×Nat×Option Addr×Nat×Int×RatM×RatM=>[(7,.c (.s 0 ys.length)),(0,.c (cF ⟨g.2.2.1,g.2.2.2.1,x.l.drop g.1⟩)),(1,.c (cF ⟨g.2.2.2.2.1,g.2.2.2.2.2.1,y.l.drop g.2.1⟩)),(8,.c (iC g.2.2.2.2.2.2.1)),(9,.c (.p 1 0)),(10,.c (.p 2 0))]) (bls:=λg:Nat×Nat×Option Addr×Nat×Option Addr×Nat×Int×RatM×RatM=>[(75,4,ecs ys),(53,0,g.2.2.2.2.2.2.2.1.C),(53,0,g.2.2.2.2.2.2.2.2.C)]) (fls:=λ_=>[]) (i+1,j,slA A1 c1 1 4,c1-1,A2,c2,((x.l.drop i).getD 0 U6).ix,((x.l.drop i).getD 0 U6).v,U6) hs U ⟨U,U,U⟩ U1 ⟨U,tU x.l i _ _,U,U,U,U⟩ bL (aA (nT _) (aA U (aA U aU))) U
   replace hc:¬((((y.l.drop j).length:Nat):Int)=0\/((0:Int)<((x.l.drop i).length:Nat))/\((x.l.drop i).getD 0 U6).ix<=((y.l.drop j).getD 0 U6).ix):=hc
   have hjl:j<fs.length:=Uc
   have hs:=bCi hy bY h1 hi (j:=j) (es:=es) hjl (by
    rcases eE i es.length with h|h
    ·rw[rQ,rQ,(hx.e i h).1,(hy.e j hjl).1] at hc
     exact .inr ⟨h,Uc⟩
    exact .inl oM)
   have l2:0<(y.l.drop j).length:=Uc
   exact⟨.seq (sq 9 (List.range 10)),U0,0,⟨U,l2⟩,0,⟨U,l2⟩,1,⟨U,l2⟩,iP hM (chg:=λg:Nat×Nat×Option Addr×Nat×Option Addr×Nat×Int×RatM×RatM=>[(7,.c (.s 0 ys.length)),(0,.c (cF ⟨g.2.2.1,g.2.2.2.1,x.l.drop g.1⟩)),(1,.c (cF ⟨g.2.2.2.2.1,g.2.2.2.2.2.1,y.l.drop g.2.1⟩)),(8,.c (iC g.2.2.2.2.2.2.1)),(9,.c (.p 1 0)),(10,.c (.p 2 0))]) (bls:=λg:Nat×Nat×Option Addr×Nat×Option Addr×Nat×Int×RatM×RatM=>[(75,4,ecs ys),(53,0,g.2.2.2.2.2.2.2.1.C),(53,0,g.2.2.2.2.2.2.2.2.C)]) (fls:=λ_=>[]) (i,j+1,A1,c1,slA A2 c2 1 4,c2-1,((y.l.drop j).getD 0 U6).ix,U6,((y.l.drop j).getD 0 U6).v) hs U ⟨U,U,U⟩ U1 ⟨U,U,tU y.l j _ _,U,U,U⟩ bL (aA (nT _) (aA U (aA U aU))) U⟩
  obtain⟨a,b,hst,qu,qv,ra,rb',hi',hj',hlt⟩:=hs
  replace hst:Stp (es.drop i) (fs.drop j) ix a b (es.drop i') (fs.drop j'):=hst
  replace qu:Rq u a B:=qu
  replace qv:Rq v b B:=qv
  replace hi':i'<=es.length:=hi'
  replace hj':j'<=fs.length:=hj'
  replace hlt:i+j<i'+j':=hlt
  obtain⟨m1,m2⟩:=hmg.step hst
  refine⟨[],hop u v qu qv ra rb',U,U,U,λg hg=>⟨[],kV g (hg.rq (hrb a b ra rb')),U,U,U,λ_ _=>⟨λhz=>vk ?_,λhz=>vk ?_⟩⟩⟩
  ·replace hz:¬sgn (op a b).num=0:=hz
   have hne:op a b≠0:=λh=>hz (fT.2 (cY.2 h))
   refine⟨⟨U,by show ys.length*4=(ecs ys).length;rw[iA],by show ys.length+1<=maxLen;simp only[maxLen];omega,by show(ys.length+1)*64<=_;omega,λc hc=>?_⟩,mT ⟨ix,g⟩,iP hM (chg:=λg:Nat×Nat×Option Addr×Nat×Option Addr×Nat×List EntM=>[(7,.c (.s 0 g.2.2.2.2.2.2.length)),(0,.c (cF ⟨g.2.2.1,g.2.2.2.1,x.l.drop g.1⟩)),(1,.c (cF ⟨g.2.2.2.2.1,g.2.2.2.2.2.1,y.l.drop g.2.1⟩))]) (bls:=λg:Nat×Nat×Option Addr×Nat×Option Addr×Nat×List EntM=>[(75,4,ecs g.2.2.2.2.2.2)]) (fls:=λ_=>[]) (i',j',A3,c3,A4,c4,ys++[⟨ix,g⟩]) ⟨⟨hi',hj',?_,_,_,m2 hne,wK hek hg⟩,?_⟩ U (by show(75,4,ecs ys++(⟨ix,g⟩:EntM).C)=_;rw[qV]) trivial ⟨?_,U,U⟩ bL (aA (nT _) aU) U⟩
   ·rcases aO.1 hc with hc|hc
    ·exact bJ (iB ys c hc)
    exact mT ⟨ix,g⟩ c hc
   ·show(ys++[(⟨ix,g⟩:EntM)]).length<=i'+j'
    rw[aD,cO];omega
   ·show es.length+fs.length-(i'+j')<es.length+fs.length-(i+j)
    omega
   show ys.length+1=(ys++[(⟨ix,g⟩:EntM)]).length
   rw[aD,cO]
  replace hz:¬¬sgn (op a b).num=0:=hz
  have h0':op a b=0:=cY.1 (fT.1 (iU.1 hz))
  refine iP hM (chg:=λg:Nat×Nat×Option Addr×Nat×Option Addr×Nat×List EntM=>[(7,.c (.s 0 g.2.2.2.2.2.2.length)),(0,.c (cF ⟨g.2.2.1,g.2.2.2.1,x.l.drop g.1⟩)),(1,.c (cF ⟨g.2.2.2.2.1,g.2.2.2.2.2.1,y.l.drop g.2.1⟩))]) (bls:=λg:Nat×Nat×Option Addr×Nat×Option Addr×Nat×List EntM=>[(75,4,ecs g.2.2.2.2.2.2)]) (fls:=λ_=>[]) (i',j',A3,c3,A4,c4,ys) ⟨⟨hi',hj',show ys.length<=i'+j' by omega,_,_,m1 h0',hek⟩,?_⟩ U U trivial ⟨U,U,U⟩ bL (aA (nT _) aU) U
  show es.length+fs.length-(i'+j')<es.length+fs.length-(i+j)
  omega
 replace h2:¬((0:Int)<((x.l.drop i).length:Nat)\/(0:Int)<((y.l.drop j).length:Nat)):=h2
 obtain rfl:i=es.length:=Uc
 obtain rfl:j=fs.length:=Uc
 rw[mG,mG] at hmg
 obtain⟨f1,f2,f3⟩:=hmg.fin h0
 exact vk ⟨ys,⟨rs,hek,f1,f2,f3⟩,fH U U bL (aA (nT _) aU) U aDy⟩
theorem bRq (x y:Sl EntM) {es fs:List En} {B:Nat} {q:FuncId} {op:Rat->Rat->Rat} (hx:Ev x.l es B) (hy:Ev y.l fs B) (bx:rbE es B) (bY:rbE fs B) (h1:1<=B) (ax:Asc es) (ay:Asc fs) (nx:es.length<=4096) (ny:fs.length<=4096) (h0:op 0 0=0)
 (hrb:∀a b,rb a B->rb b B->rb (op a b) 4398046511104)
 (hop:∀(u v:RatM) {a b:Rat},Rq u a B->Rq v b B->rb a B->rb b B->Ctr pgQ q [] [.a u.C,.a v.C] [] (λg:RatM=>⟨.a g.C,[],Cr g (op a b)⟩)):
 Ctr pgQ 183 [] [.c (cF x),.c (cF y),.c (.f q [] [])] [] (λg:Sl EntM=>⟨.c (cF g),[],∃rs,Ek g.l rs/\MgR op es fs rs⟩):=
 CtrF.gt (bCj x y hx hy bx bY h1 ax ay nx ny h0 hrb hop) λys hys _=>aOe tGt 0 0 (λj=>(ys.getD j U6).C) U U (sP ys) (iA ys).symm bL (iB ys) bL λA c _ _=>iP (M:=λ_=>true) (base:=[]) (chg:=λg:Sl EntM=>[(0,.c (cF g))]) (bls:=λ_=>[]) (fls:=λ_=>[]) (λt d ht=>by cases ht) ⟨A,c,ys⟩ ⟨hys,aDy⟩ U trivial trivial U bL aU U
theorem bRr (x y:Sl EntM) (f:RatM) {es fs:List En} {B:Nat} {q:FuncId} {op:Rat->Rat->Rat} (hx:Ev x.l es B) (hy:Ev y.l fs B) (bx:rbE es B) (bY:rbE fs B) (h1:1<=B) (ax:Asc es) (ay:Asc fs) (nx:es.length<=4096) (ny:fs.length<=4096) (h0:op 0 0=0)
 (hrb:∀a b,rb a B->rb b B->rb (op a b) 4398046511104)
 (hop:∀(u v:RatM) {a b:Rat},Rq u a B->Rq v b B->rb a B->rb b B->Ctr pgQ q [true] [.a u.C,.a v.C,.c (.p 0 0)] [(53,0,f.C)] (λg:RatM=>⟨.a g.C,[(53,0,f.C)],Cr g (op a b)⟩)):
 Ctr pgQ 183 [true] [.c (cF x),.c (cF y),.c (.f q [] [(0,0)])] [(53,0,f.C)] (λys:List EntM=>⟨.c (.s 1 ys.length),(53,0,f.C)::[(75,4,ecs ys)],∃rs,Ek ys rs/\MgR op es fs rs⟩):=by
 have lx:=hx.ln
 have ly:=hy.ln
 refine gA gT (eo func183) func183 U U U bL (eW U) (vk ⟨max (x.l.length) (y.l.length),⟨U,by show max (x.l.length:Int) (y.l.length:Int)=_;omega,by show 64*_<=_;omega,by simp only[maxLen];omega⟩,?_⟩)
 refine bBf (λt=>!Nat.beq t 2) (λg:Nat×Nat×Option Addr×Nat×Option Addr×Nat×List EntM=>[(7,.c (.s 1 g.2.2.2.2.2.2.length)),(0,.c (cF ⟨g.2.2.1,g.2.2.2.1,x.l.drop g.1⟩)),(1,.c (cF ⟨g.2.2.2.2.1,g.2.2.2.2.2.1,y.l.drop g.2.1⟩))]) (λg=>(53,0,f.C)::[(75,4,ecs g.2.2.2.2.2.2)]) (λ_=>[]) (λg=>g.1<=es.length/\g.2.1<=fs.length/\g.2.2.2.2.2.2.length<=g.1+g.2.1/\∃rs ps,Mg op es fs (es.drop g.1) (fs.drop g.2.1) rs ps/\Ek g.2.2.2.2.2.2 rs) (λg=>es.length+fs.length-(g.1+g.2.1)) λhM=>⟨iP hM (0,0,x.A,x.c,y.A,y.c,[]) ⟨aB _,aB _,aB _,[],[],Mg.start ax ay,U,λk hk=>U4 hk (aF _)⟩ U ⟨U,U⟩ U1 ⟨U,U,U⟩ bL (aA U (aA (nT _) aU)) U,λ⟨i,j,A1,c1,A2,c2,ys⟩ ⟨hi,hj,hys,rs,ps,hmg,hek⟩=>Sd.sq (vk ⟨λh2=>vk (Sd.blk (Sd.sq (vk (Sd.sq (vk ?_))))),λh2=>vk ?_⟩)⟩
 all_goals
  replace hi:i<=es.length:=hi
  replace hj:j<=fs.length:=hj
  replace hys:ys.length<=i+j:=hys
  replace hmg:Mg op es fs (es.drop i) (fs.drop j) rs ps:=hmg
  replace hek:Ek ys rs:=hek
  have la:(x.l.drop i).length=es.length-i:=by rw[cP,lx]
  have lb:(y.l.drop j).length=fs.length-j:=by rw[cP,ly]
 ·replace h2:(0:Int)<((x.l.drop i).length:Nat)\/(0:Int)<((y.l.drop j).length:Nat):=h2
  show Sd _ _ _ _ _ _
  refine gJ tSd (l:=vG) 2 (U6:RatM).C rfl U aOm (gJ tSd (l:=vG) 3 (U6:RatM).C rfl U aOm ?_)
  refine Sd.cut (σ:=Nat×Nat×Option Addr×Nat×Option Addr×Nat×Int×RatM×RatM) (λg=>⟨[(7,.c (.s 1 ys.length)),(0,.c (cF ⟨g.2.2.1,g.2.2.2.1,x.l.drop g.1⟩)),(1,.c (cF ⟨g.2.2.2.2.1,g.2.2.2.2.2.1,y.l.drop g.2.1⟩)),(8,.c (iC g.2.2.2.2.2.2.1)),(9,.c (.p 2 0)),(10,.c (.p 3 0))]++[(2,.c (.f q [] [(0,0)]))],[],(53,0,f.C)::[(75,4,ecs ys),(53,0,g.2.2.2.2.2.2.2.1.C),(53,0,g.2.2.2.2.2.2.2.2.C)],[]⟩) (λg=>aOl es fs B i j g.1 g.2.1 g.2.2.2.2.2.2.1 g.2.2.2.2.2.2.2.1 g.2.2.2.2.2.2.2.2) (vk ?_) λ⟨i',j',A3,c3,A4,c4,ix,u,v⟩ hs=>vk ?_
  ·refine⟨.seq (sq 99 (List.range 19)),U0,0,λhq=>⟨U,?_⟩,0,λhq=>⟨U,?_⟩,⟨λhc=>vk ?_,λhc=>vk ?_⟩⟩
   ·replace hq:((0:Int)<((x.l.drop i).length:Nat))/\¬(((y.l.drop j).length:Nat):Int)=0:=hq
    show 0<(x.l.drop i).length
    omega
   ·replace hq:((0:Int)<((x.l.drop i).length:Nat))/\¬(((y.l.drop j).length:Nat):Int)=0:=hq
    show 0<(y.l.drop j).length
    omega
   ·replace hc:(((y.l.drop j).length:Nat):Int)=0\/((0:Int)<((x.l.drop i).length:Nat))/\((x.l.drop i).getD 0 U6).ix<=((y.l.drop j).getD 0 U6).ix:=hc
    have hil:i<es.length:=Uc
    have l1:0<(x.l.drop i).length:=Uc
    refine⟨.seq (sq 9 (List.range 10)),U0,0,⟨U,l1⟩,0,⟨U,l1⟩,1,⟨U,l1⟩,0,λhq=>⟨U,?_⟩,⟨λhd=>vk ?_,λhd=>vk ?_⟩⟩
    ·replace hq:(0:Int)<((y.l.drop j).length:Nat):=hq
     show 0<(y.l.drop j).length
     omega
    ·replace hd:(0:Int)<((y.l.drop j).length:Nat)/\((y.l.drop j).getD 0 U6).ix=((x.l.drop i).getD 0 U6).ix:=hd
     have hs:=bCh hx hy bx bY (i:=i) (j:=j) hil oM (by rw[rQ,rQ,(hx.e i hil).1,(hy.e j oM).1] at hd;exact hd.2.symm)
     have l2:0<(y.l.drop j).length:=Uc
     exact⟨0,⟨U,l2⟩,1,⟨U,l2⟩,iP hM (chg:=λg:Nat×Nat×Option Addr×Nat×Option Addr×Nat×Int×RatM×RatM=>[(7,.c (.s 1 ys.length)),(0,.c (cF ⟨g.2.2.1,g.2.2.2.1,x.l.drop g.1⟩)),(1,.c (cF ⟨g.2.2.2.2.1,g.2.2.2.2.2.1,y.l.drop g.2.1⟩)),(8,.c (iC g.2.2.2.2.2.2.1)),(9,.c (.p 2 0)),(10,.c (.p 3 0))]) (bls:=λg:Nat×Nat×Option Addr×Nat×Option Addr×Nat×Int×RatM×RatM=>(53,0,f.C)::[(75,4,ecs ys),(53,0,g.2.2.2.2.2.2.2.1.C),(53,0,g.2.2.2.2.2.2.2.2.C)]) (fls:=λ_=>[]) (i+1,j+1,slA A1 c1 1 4,c1-1,slA A2 c2 1 4,c2-1,((x.l.drop i).getD 0 U6).ix,((x.l.drop i).getD 0 U6).v,((y.l.drop j).getD 0 U6).v) hs U rS trivial ⟨U,tU x.l i _ _,tU y.l j _ _,U,U,U⟩ bL (aA U (aA (nT _) (aA U (aA U aU)))) U⟩
    replace hd:¬((0:Int)<((y.l.drop j).length:Nat)/\((y.l.drop j).getD 0 U6).ix=((x.l.drop i).getD 0 U6).ix):=hd
    have hs:=bCg hx bx h1 hj (i:=i) (fs:=fs) hil (by
     rcases eE j fs.length with h|h
     ·rw[rQ,rQ,(hx.e i hil).1,(hy.e j h).1] at hd hc
      exact .inr ⟨h,Uc⟩
     exact .inl oM)
    exact iP hM (chg:=λg:Nat×Nat×Option Addr×Nat×Option Addr×Nat×Int×RatM×RatM=>[(7,.c (.s 1 ys.length)),(0,.c (cF ⟨g.2.2.1,g.2.2.2.1,x.l.drop g.1⟩)),(1,.c (cF ⟨g.2.2.2.2.1,g.2.2.2.2.2.1,y.l.drop g.2.1⟩)),(8,.c (iC g.2.2.2.2.2.2.1)),(9,.c (.p 2 0)),(10,.c (.p 3 0))]) (bls:=λg:Nat×Nat×Option Addr×Nat×Option Addr×Nat×Int×RatM×RatM=>(53,0,f.C)::[(75,4,ecs ys),(53,0,g.2.2.2.2.2.2.2.1.C),(53,0,g.2.2.2.2.2.2.2.2.C)]) (fls:=λ_=>[]) (i+1,j,slA A1 c1 1 4,c1-1,A2,c2,((x.l.drop i).getD 0 U6).ix,((x.l.drop i).getD 0 U6).v,U6) hs U rS trivial ⟨U,tU x.l i _ _,U,U,U,U⟩ bL (aA U (aA (nT _) (aA U (aA U aU)))) U
   replace hc:¬((((y.l.drop j).length:Nat):Int)=0\/((0:Int)<((x.l.drop i).length:Nat))/\((x.l.drop i).getD 0 U6).ix<=((y.l.drop j).getD 0 U6).ix):=hc
   have hjl:j<fs.length:=Uc
   have hs:=bCi hy bY h1 hi (j:=j) (es:=es) hjl (by
    rcases eE i es.length with h|h
    ·rw[rQ,rQ,(hx.e i h).1,(hy.e j hjl).1] at hc
     exact .inr ⟨h,Uc⟩
    exact .inl oM)
   have l2:0<(y.l.drop j).length:=Uc
   exact⟨.seq (sq 9 (List.range 10)),U0,0,⟨U,l2⟩,0,⟨U,l2⟩,1,⟨U,l2⟩,iP hM (chg:=λg:Nat×Nat×Option Addr×Nat×Option Addr×Nat×Int×RatM×RatM=>[(7,.c (.s 1 ys.length)),(0,.c (cF ⟨g.2.2.1,g.2.2.2.1,x.l.drop g.1⟩)),(1,.c (cF ⟨g.2.2.2.2.1,g.2.2.2.2.2.1,y.l.drop g.2.1⟩)),(8,.c (iC g.2.2.2.2.2.2.1)),(9,.c (.p 2 0)),(10,.c (.p 3 0))]) (bls:=λg:Nat×Nat×Option Addr×Nat×Option Addr×Nat×Int×RatM×RatM=>(53,0,f.C)::[(75,4,ecs ys),(53,0,g.2.2.2.2.2.2.2.1.C),(53,0,g.2.2.2.2.2.2.2.2.C)]) (fls:=λ_=>[]) (i,j+1,A1,c1,slA A2 c2 1 4,c2-1,((y.l.drop j).getD 0 U6).ix,U6,((y.l.drop j).getD 0 U6).v) hs U rS trivial ⟨U,U,tU y.l j _ _,U,U,U⟩ bL (aA U (aA (nT _) (aA U (aA U aU)))) U⟩
  obtain⟨a,b,hst,qu,qv,ra,rb',hi',hj',hlt⟩:=hs
  replace hst:Stp (es.drop i) (fs.drop j) ix a b (es.drop i') (fs.drop j'):=hst
  replace qu:Rq u a B:=qu
  replace qv:Rq v b B:=qv
  replace hi':i'<=es.length:=hi'
  replace hj':j'<=fs.length:=hj'
  replace hlt:i+j<i'+j':=hlt
  obtain⟨m1,m2⟩:=hmg.step hst
  refine⟨_,U,[0],hop u v qu qv ra rb',U,U,U,λg hg=>⟨[],kV g (hg.rq (hrb a b ra rb')),U,U,U,λ_ _=>⟨λhz=>vk ?_,λhz=>vk ?_⟩⟩⟩
  ·replace hz:¬sgn (op a b).num=0:=hz
   have hne:op a b≠0:=λh=>hz (fT.2 (cY.2 h))
   refine⟨⟨U,by show ys.length*4=(ecs ys).length;rw[iA],by show ys.length+1<=maxLen;simp only[maxLen];omega,by show(ys.length+1)*64<=_;omega,λc hc=>?_⟩,mT ⟨ix,g⟩,iP hM (chg:=λg:Nat×Nat×Option Addr×Nat×Option Addr×Nat×List EntM=>[(7,.c (.s 1 g.2.2.2.2.2.2.length)),(0,.c (cF ⟨g.2.2.1,g.2.2.2.1,x.l.drop g.1⟩)),(1,.c (cF ⟨g.2.2.2.2.1,g.2.2.2.2.2.1,y.l.drop g.2.1⟩))]) (bls:=λg:Nat×Nat×Option Addr×Nat×Option Addr×Nat×List EntM=>(53,0,f.C)::[(75,4,ecs g.2.2.2.2.2.2)]) (fls:=λ_=>[]) (i',j',A3,c3,A4,c4,ys++[⟨ix,g⟩]) ⟨⟨hi',hj',?_,_,_,m2 hne,wK hek hg⟩,?_⟩ U ⟨U,by show(75,4,ecs ys++(⟨ix,g⟩:EntM).C)=_;rw[qV]⟩ U1 ⟨?_,U,U⟩ bL (aA U (aA (nT _) aU)) U⟩
   ·rcases aO.1 hc with hc|hc
    ·exact bJ (iB ys c hc)
    exact mT ⟨ix,g⟩ c hc
   ·show(ys++[(⟨ix,g⟩:EntM)]).length<=i'+j'
    rw[aD,cO];omega
   ·show es.length+fs.length-(i'+j')<es.length+fs.length-(i+j)
    omega
   show ys.length+1=(ys++[(⟨ix,g⟩:EntM)]).length
   rw[aD,cO]
  replace hz:¬¬sgn (op a b).num=0:=hz
  have h0':op a b=0:=cY.1 (fT.1 (iU.1 hz))
  refine iP hM (chg:=λg:Nat×Nat×Option Addr×Nat×Option Addr×Nat×List EntM=>[(7,.c (.s 1 g.2.2.2.2.2.2.length)),(0,.c (cF ⟨g.2.2.1,g.2.2.2.1,x.l.drop g.1⟩)),(1,.c (cF ⟨g.2.2.2.2.1,g.2.2.2.2.2.1,y.l.drop g.2.1⟩))]) (bls:=λg:Nat×Nat×Option Addr×Nat×Option Addr×Nat×List EntM=>(53,0,f.C)::[(75,4,ecs g.2.2.2.2.2.2)]) (fls:=λ_=>[]) (i',j',A3,c3,A4,c4,ys) ⟨⟨hi',hj',show ys.length<=i'+j' by omega,_,_,m1 h0',hek⟩,?_⟩ U ⟨U,U⟩ U1 ⟨U,U,U⟩ bL (aA U (aA (nT _) aU)) U
  show es.length+fs.length-(i'+j')<es.length+fs.length-(i+j)
  omega
 replace h2:¬((0:Int)<((x.l.drop i).length:Nat)\/(0:Int)<((y.l.drop j).length:Nat)):=h2
 obtain rfl:i=es.length:=Uc
 obtain rfl:j=fs.length:=Uc
 rw[mG,mG] at hmg
 obtain⟨f1,f2,f3⟩:=hmg.fin h0
 exact vk ⟨ys,⟨rs,hek,f1,f2,f3⟩,fH U ⟨U,U⟩ bL (aA U (aA (nT _) aU)) U (aAg (gF f))⟩
theorem bRs (x y:Sl EntM) (f:RatM) {es fs:List En} {B:Nat} {q:FuncId} {op:Rat->Rat->Rat} (hx:Ev x.l es B) (hy:Ev y.l fs B) (bx:rbE es B) (bY:rbE fs B) (h1:1<=B) (ax:Asc es) (ay:Asc fs) (nx:es.length<=4096) (ny:fs.length<=4096) (h0:op 0 0=0)
 (hrb:∀a b,rb a B->rb b B->rb (op a b) 4398046511104)
 (hop:∀(u v:RatM) {a b:Rat},Rq u a B->Rq v b B->rb a B->rb b B->Ctr pgQ q [true] [.a u.C,.a v.C,.c (.p 0 0)] [(53,0,f.C)] (λg:RatM=>⟨.a g.C,[(53,0,f.C)],Cr g (op a b)⟩)):
 Ctr pgQ 183 [true] [.c (cF x),.c (cF y),.c (.f q [] [(0,0)])] [(53,0,f.C)] (λg:Sl EntM=>⟨.c (cF g),[(53,0,f.C)],∃rs,Ek g.l rs/\MgR op es fs rs⟩):=
 CtrF.gt (bRr x y f hx hy bx bY h1 ax ay nx ny h0 hrb hop) λys hys _=>aOe tGt 0 1 (λj=>(ys.getD j U6).C) U U (sP ys) (iA ys).symm bL (iB ys) bL λA c _ _=>iP (M:=λ_=>true) (base:=[]) (chg:=λg:Sl EntM=>[(0,.c (cF g))]) (bls:=λ_=>[(53,0,f.C)]) (fls:=λ_=>[]) (λt d ht=>by cases ht) ⟨A,c,ys⟩ ⟨hys,aAg (gF f)⟩ U U trivial U bL (aA U aU) U
theorem fW {a b:Rat} {B B':Nat} (ha:rb a B) (hb:rb b B'):rb (a*b) (B+B'):=by
 have h:=aYw a b
 simp only[fD] at h
 obtain⟨a1,a2⟩:=ha
 obtain⟨b1,b2⟩:=hb
 exact⟨Uc,Uc⟩
theorem wL {a b:Rat} {B B':Nat} (ha:rb a B) (hb:rb b B'):rb (a+b) (B+B'+1):=by
 have h:=aYv a b
 simp only[fD] at h
 obtain⟨a1,a2⟩:=ha
 obtain⟨b1,b2⟩:=hb
 exact⟨Uc,Uc⟩
theorem pJ {a b:Rat} {B B':Nat} (ha:rb a B) (hb:rb b B'):rb (a-b) (B+B'+1):=by
 rw[jD];exact wL ha (uL hb)
theorem _root_.Go.Vy.CtrF.args {P:Program} {q:FuncId} {cl:List Bool} {al al':List DV} {bl:BL} {fl:List Fam} {σ:Type} {R:σ->OutF} (h:CtrF P q cl al bl fl R) (hal:∀D n w vals,HL D n w al' vals->HL D n w al vals):CtrF P q cl al' bl fl R:=
 ⟨h.ent,h.clb,λD w vals hv hD hF=>h.run D w vals (hal _ _ _ _ hv) hD hF⟩
theorem _root_.Go.Vy.CtrF.post {P:Program} {q:FuncId} {cl:List Bool} {al:List DV} {bl:BL} {fl:List Fam} {σ τ:Type} {R:σ->OutF} {R':τ->OutF} (h:CtrF P q cl al bl fl R) (φ:σ->τ) (hp:∀g,(R g).C->(R' (φ g)).C) (hd:∀g,(R' (φ g)).d=(R g).d/\(R' (φ g)).bl=(R g).bl/\(R' (φ g)).fl=(R g).fl):CtrF P q cl al bl fl R':=
 ⟨h.ent,h.clb,λD w vals hv hD hF=>(h.run D w vals hv hD hF).mono λe w' ⟨v,he,g,ρ',c1,c2,c3,c4,c5⟩=>by
  obtain⟨d1,d2,d3⟩:=hd g
  exact⟨v,he,φ g,ρ',hp g c1,by rw[d2];exact c2,by rw[d1,d2];exact c3,by rw[d2];exact c4,by rw[d3];exact c5⟩⟩
theorem bJo (x:Sl EntM) {es:List En} {B:Nat} (h:Ev x.l es B) (hb:rbE es B) (h1:1<=B) (hB:B<=4398046511104) (ha:Asc es) (hz:aHi es) (hn:es.length<=4096):Ctr pgQ 181 [] [.c (cF x)] [] (λg:Sl EntM=>⟨.c (cF g),[],Ek g.l es⟩):=by
 have hm:=(bRq x cG (es:=es) (fs:=[]) (op:=λa _=>a) (q:=211) h ⟨U,λk hk=>U4 hk (aF _)⟩ hb (λe he=>U4 he dI) h1 ha List.Pairwise.nil hn (aB _) U (λa b h _=>h.le hB) (λu v {a b} hu _ _ _=>bNe u v (hu.le hB))).args (al':=[.c (cF x),.c (.v (.slice none 0 0)),.c (.f 211 [] [])]) λD n w vals hv=>(by
  match vals,hv with
  |[v0,v1,v2],⟨h0,h1,h2,h3⟩=>exact⟨h0,.c (qW D n w v1 h1.inv_c),h2,h3⟩)
 refine cw func181 (⟨[],aKt x h ha,U,U,U,λ_ _=>⟨[],hm,U,U,U,λg ⟨rs,h2,h3⟩=>⟨g,?_,aI U U tV⟩⟩⟩)
 have e:rs=es:=canon_ext rs es h3.a ha h3.z hz h3.g
 rw[<-e];exact h2
theorem bCk (x y:Sl EntM) (f:RatM) {es fs:List En} {q:Rat} {B Q:Nat} (hx:Ev x.l es B) (hy:Ev y.l fs B) (bx:rbE es B) (bY:rbE fs B) (h1:1<=B) (hf:Rq f q Q) (hq:rb q Q) (hB:B+(Q+B)+1<=4398046511104) (ax:Asc es) (ay:Asc fs) (nx:es.length<=4096) (ny:fs.length<=4096):
 Ctr pgQ 140 [] [.c (cF x),.a f.C,.c (cF y)] [] (λg:Sl EntM=>⟨.c (cF g),[],∃rs,Ek g.l rs/\MgR (λa b=>a+q*b) es fs rs⟩):=by
 refine cw func140 (⟨[],aKt x hx ax,U,U,U,λ_ _=>⟨[],aKt y hy ay,U,U,U,λ_ _=>⟨[0],bRs x y f (op:=λa b=>a+q*b) hx hy bx bY h1 ax ay nx ny (by show(0:Rat)+q*0=0;rw[bU,bK]) (λa b ha hb=>(wL ha (fW hq hb)).le) (λu v {a b} hu hv _ rb'=>bWz f u v (hf.le) (hu.le) (hv.le) ((fW hq rb').le)),U,U,U,λg hg=>⟨g,hg,aI U U tV⟩⟩⟩⟩)
def dS (x:Sl RatM):CV:=x.R 3 RatM.C U6
structure Rl (x:List RatM) (qs:List Rat):Prop where
 ln:x.length=qs.length
 e:∀k,k<qs.length->Cr (x.getD k U6) (qs.getD k 0)
def rbL (qs:List Rat) (B:Nat):Prop:=∀q∈qs,rb q B
theorem gD0 {qs:List Rat} {k:Nat} (h:k<qs.length):qs.getD k 0∈qs:=by rw[gd h];exact kB h
theorem Rl.rq {x:List RatM} {qs:List Rat} {B k:Nat} (h:Rl x qs) (hb:rbL qs B) (hk:k<qs.length):Rq (x.getD k U6) (qs.getD k 0) B:=(h.e k hk).rq (hb _ (gD0 hk))
def fdF (qs:List Rat):Nat->List En
 |0=>[]
 |k+1=>if qs.getD k 0=0 then fdF qs k else fdF qs k++[((k:Int),qs.getD k 0)]
theorem aGj {qs:List Rat}:∀{k:Nat},∀e∈fdF qs k,∃i:Nat,i<k/\e=((i:Int),qs.getD i 0)/\e.2≠0
 |0,e,h=>U4 h dI
 |k+1,e,h=>by
  unfold fdF at h
  split at h
  ·obtain⟨i,h1,h2⟩:=aGj e h;exact⟨i,Uc,h2⟩
  next hq=>
  rcases aO.1 h with h|h
  ·obtain⟨i,h1,h2⟩:=aGj e h;exact⟨i,Uc,h2⟩
  rw[aE.1 h];exact⟨k,Uc,U,hq⟩
theorem aKu {qs:List Rat}:∀k,(fdF qs k).length<=k
 |0=>aH _
 |k+1=>by
  have:=aKu (qs:=qs) k
  unfold fdF
  split
  ·omega
  rw[aD,cO];omega
theorem aKv {qs:List Rat}:∀k,Asc (fdF qs k)
 |0=>List.Pairwise.nil
 |k+1=>by
  unfold fdF
  split
  ·exact aKv k
  refine eR.2 ⟨aKv k,eK _ _,λa ha b hb=>?_⟩
  rw[aE.1 hb]
  obtain⟨i,h1,rfl,_⟩:=aGj a ha
  show(i:Int)<(k:Int)
  omega
theorem aBr {qs:List Rat}:∀(k:Nat) (i:Int),Vm.get (fdF qs k) i=if 0<=i/\i<k then qs.getD i.toNat 0 else 0
 |0,i=>by rw[U2 oM];rfl
 |k+1,i=>by
  have ih:=aBr (qs:=qs) k i
  unfold fdF
  split
  ·next hq=>
   rw[ih]
   by_cases hi:i=(k:Int)
   ·subst hi;rw[U2 oM,U3 oM,cN,hq]
   by_cases h2:0<=i/\i<(k:Int)
   ·rw[U3 h2,U3 oM]
   rw[U2 h2,U2 oM]
  next hq=>
  rw[get_append,ih]
  show _+((if (k:Int)=i then qs.getD k 0 else 0)+0)=_
  rw[bK]
  by_cases hi:(k:Int)=i
  ·subst hi;rw[U2 oM,U3 U,U3 oM,cN,fY]
  rw[U2 hi,bK]
  by_cases h2:0<=i/\i<(k:Int)
  ·rw[U3 h2,U3 oM]
  rw[U2 h2,U2 oM]
theorem jE {P:Nat->List CV} {e:Nat}:∀{n:Nat},(∀j,j<n->(P j).length=e)->(flatR n P).length=n*e
 |0,_=>by simp[flatR]
 |n+1,h=>by rw[gL,aD,jE (λj hj=>h j oM),h n oM,dE,iX]
theorem mZ {P Q:Nat->List CV}:∀{n:Nat},(∀j,j<n->P j=Q j)->flatR n P=flatR n Q
 |0,_=>rfl
 |n+1,h=>by rw[gL,gL,mZ (λj hj=>h j oM),h n oM]
theorem aKw {P:Nat->List CV} {e k:Nat}:∀{n:Nat},(∀j,j<n->(P j).length=e)->k<n->((flatR n P).drop (k*e)).take e=P k
 |0,_,hk=>U4 hk (aF _)
 |n+1,h,hk=>by
  have hl:=jE (λj hj=>h j (dY hj):∀j,j<n->(P j).length=e)
  rw[gL]
  by_cases hkn:k<n
  ·have hm:k*e+e<=n*e:=by rw[<-dH];exact aT e hkn
   rw[jK oM,fC (by rw[cP];omega)]
   exact aKw (λj hj=>h j oM) hkn
  obtain rfl:k=n:=Uc
  rw[<-hl,List.drop_left,<-h k oM,cQ]
theorem aKx {P:Nat->List CV} {e k:Nat} {v:List CV} (hv:v.length=e):∀{n:Nat},(∀j,j<n->(P j).length=e)->k<n->mJ (flatR n P) (k*e) v=flatR n λj=>if j=k then v else P j
 |0,_,hk=>U4 hk (aF _)
 |n+1,h,hk=>by
  have hl:=jE (λj hj=>h j (dY hj):∀j,j<n->(P j).length=e)
  rw[gL,gL]
  by_cases hkn:k<n
  ·have hm:k*e+e<=n*e:=by rw[<-dH];exact aT e hkn
   rw[U2 oM,<-aKx hv (λj hj=>h j oM) hkn]
   unfold mJ
   rw[hv,fC oM,jK oM,cW,cW]
  obtain rfl:k=n:=Uc
  rw[U3 U,mZ (Q:=P) λj hj=>U2 oM]
  unfold mJ
  rw[hv,<-hl,List.take_left,cK (by rw[aD,h k oM,hl];omega),dW]
def aCs (G:Nat->RatM) (k:Nat) (j:Nat):List CV:=if j<k then (G j).C else vG
theorem aOn {G:Nat->RatM} {k:Nat} (j:Nat):(aCs G k j).length=3:=by unfold aCs;split<;>rfl
theorem bCl {P:Nat->List CV} {n k:Nat} (h:∀j,(P j).length=3) (hk:k<n):k*3<(flatR n P).length:=by rw[jE λj _=>h j];omega
theorem bRt {P:Nat->List CV} {n k:Nat} {l:List CV} (h:∀j,(P j).length=3) (hk:k<n) (hl:P k=l):((flatR n P).drop (k*3)).take 3=l/\l.length=3:=⟨by rw[aKw (λj _=>h j) hk,hl],by rw[<-hl];exact h k⟩
theorem aUc {P Q:Nat->List CV} {n k:Nat} {l:List CV} (h:∀j,(P j).length=3) (hk:k<n) (hl:l.length=3) (hq:∀j,j<n->(if j=k then l else P j)=Q j):mJ (flatR n P) (k*3) l=flatR n Q/\k*3+l.length<=(flatR n P).length:=⟨by rw[aKx hl (λj _=>h j) hk,mZ hq],by rw[jE λj _=>h j,hl];omega⟩
def aXh (G:Nat->RatM) (k:Nat) (g:RatM) (j:Nat):RatM:=if j=k then g else G j
theorem bJp {G:Nat->RatM} {k:Nat} {g:RatM} (j:Nat):(if j=k then g.C else aCs G k j)=aCs (aXh G k g) (k+1) j:=by
 unfold aCs aXh
 by_cases h:j=k
 ·rw[U3 h,U3 h,U3 oM]
 rw[U2 h,U2 h]
 by_cases h2:j<k
 ·rw[U3 h2,U3 oM]
 rw[U2 h2,U2 oM]
theorem aKy {z:List CV}:∀{n:Nat},flatR n (λ_=>z)=(List.replicate n z).flatten
 |0=>rfl
 |n+1=>by rw[gL,aKy,nU,lN,List.flatten_singleton]
theorem aAh {P:Nat->List CV} (h:∀j,∀c∈P j,fS c=true):∀n,∀c∈flatR n P,fS c=true
 |0,c,hc=>by cases hc
 |n+1,c,hc=>by
  rw[gL] at hc
  rcases aO.1 hc with h1|h1
  ·exact aAh h n c h1
  exact h n c h1
theorem bCm:∀c∈vG,fS c=true:=λc h2=>by
 rcases bW.1 h2 with rfl|h2
 ·rfl
 rcases bW.1 h2 with rfl|h2
 ·rfl
 rcases bW.1 h2 with rfl|h2
 ·rfl
 cases h2
theorem rZ {es:List En} (ha:Asc es) {e:En} (he:e∈es):Vm.get es e.1=e.2:=by
 induction es with
 |nil=>cases he
 |cons a es ih=>
  rcases bW.1 he with rfl|he
  ·exact get_head ha
  have:=ha.head e he
  rw[jW oM];exact ih ha.tail he
def dnL (es:List En) (n:Nat):List Rat:=(List.range n).map λi=>Vm.get es (i:Nat)
theorem aRe {es:List En} {n k:Nat} (h:k<n):(dnL es n).getD k 0=Vm.get es (k:Nat):=by unfold dnL;simp[h]
theorem sA {es:List En} {n:Nat}:(dnL es n).length=n:=by unfold dnL;simp
def fZ (G:Nat->RatM) (n:Nat):List RatM:=(List.range n).map G
theorem nC {G:Nat->RatM} {n k:Nat} (h:k<n):(fZ G n).getD k U6=G k:=by unfold fZ;simp[h]
theorem jS {G:Nat->RatM} {n:Nat}:(fZ G n).length=n:=by unfold fZ;simp
theorem bCn {G:Nat->RatM} {n:Nat}:flatR n (aCs G n)=flatR n λj=>(G j).C:=mZ λj hj=>U3 hj
theorem bJq {G:Nat->RatM} {i n:Nat}:∀c∈flatR n (aCs G i),fS c=true:=aAh (λj=>by unfold aCs;split;exact gF _;exact bCm) n
theorem nZ {G:Nat->RatM} {n:Nat} (j:Nat) (h:j<n):((fZ G n).getD j U6).C=((flatR n λj=>(G j).C).drop (j*3)).take 3:=by rw[nC h];exact(aKw (P:=λj=>(G j).C) (λ_ _=>U) h).symm
theorem bJr {G:Nat->RatM} {n:Nat} {es:List En} (hG:∀k,k<n->Cr (G k) (Vm.get es (k:Nat))):Rl (fZ G n) (dnL es n):=⟨jS.trans sA.symm,λk hk=>by
 rw[sA] at hk
 rw[nC hk,aRe hk];exact hG k hk⟩
structure MatM where
 r:Int
 c:Int
 d:Sl (Sl EntM)
def mU (d:Sl (Sl EntM)):CV:=d.R 1 (λrow=>[cF row]) cG
def MatM.C (m:MatM):List CV:=[iC m.r,iC m.c,mU m.d]
structure Mk (m:MatM) (M:Nat->List En) (a b:Nat):Prop where
 r:m.r=(a:Nat)
 c:m.c=(b:Nat)
 ln:m.d.l.length=a
 row:∀i,i<a->Ek (m.d.l.getD i cG).l (M i)
 ok:∀i,i<a->VOk (M i) (b:Nat)/\(M i).length<=b
abbrev Mx (m:MatM) (M:Nat->List En) (n:Nat):Prop:=Mk m M n n
structure Mr (m:MatM) (M:Nat->List En) (a b B:Nat):Prop where
 r:m.r=(a:Nat)
 c:m.c=(b:Nat)
 ln:m.d.l.length=a
 row:∀i,i<a->Ev (m.d.l.getD i cG).l (M i) B
 ok:∀i,i<a->VOk (M i) (b:Nat)/\(M i).length<=b
def Mg (m:MatM) (M:Nat->List En) (B:Nat):Prop:=∀i,i<m.d.l.length->Ev (m.d.l.getD i cG).l (M i) B
def MOk (m:MatM) (M:Nat->List En):Prop:=(0<=m.r/\m.r<=16384)/\(0<=m.c/\m.c<=16384)/\((m.d.l.length:Nat):Int)=m.r/\∀i,i<m.d.l.length->VOk (M i) m.c
def rbM (M:Nat->List En) (n B:Nat):Prop:=∀i,i<n->rbE (M i) B
theorem Mk.mr {m:MatM} {M:Nat->List En} {a b B:Nat} (h:Mk m M a b) (hb:rbM M a B):Mr m M a b B:=⟨h.r,h.c,h.ln,λi hi=>(h.row i hi).ev (hb i hi),h.ok⟩
theorem Mr.mg {m:MatM} {M:Nat->List En} {a b B:Nat} (h:Mr m M a b B):Mg m M B:=λi hi=>h.row i (by have:=h.ln;omega)
theorem Mr.mok {m:MatM} {M:Nat->List En} {a b B:Nat} (h:Mr m M a b B) (ha:a<=4096) (hb:b<=4096):MOk m M:=by
 have h1:=h.r
 have h2:=h.c
 have h3:=h.ln
 exact⟨⟨Uc,Uc⟩,⟨Uc,Uc⟩,Uc,λi hi=>by rw[h2];exact(h.ok i oM).1⟩
theorem bCo (z:Int):Ctr pgQ 138 [] [.c (iC z)] [] (λ_:Unit=>⟨pC (0<=z/\z<=16384),[],True⟩):=by
 exact cw func138 (⟨(),tV,aI iO U tV⟩)
abbrev mvG (m:MatM) (k:Nat):List (Nat×DV):=[(26,.c (iC k)),(1,.c (.p 0 0)),(24,.c (mU m.d)),(25,.c (iC (m.d.l.length:Nat)))]
theorem bRu (m:MatM) {M:Nat->List En} {B:Nat} (h:Mg m M B) (hB:B<=4398046511104) (hn:m.d.l.length<=4611686018427387904):Ctr pgQ 91 [] [.a m.C] [] (λ_:Unit=>⟨pC (MOk m M),[],True⟩):=by
 refine cw func91 (⟨[],bCo m.r,U,U,U,λ_ _=>⟨λh2=>?_,λh1=>⟨[],bCo m.c,U,U,U,λ_ _=>⟨λh2=>vk ?_,λh2=>vk ?_⟩⟩⟩⟩)
 ·exact⟨(),tV,aI (ff λh3=>h2 h3.1) U tV⟩
 ·replace h2:¬(0<=m.c/\m.c<=16384)\/((m.d.l.length:Nat):Int)≠m.r:=h2
  exact⟨(),tV,aI (ff λh3=>h2.elim (λh4=>h4 h3.2.1) λh4=>h4 h3.2.2.1) U tV⟩
 replace h2:¬(¬(0<=m.c/\m.c<=16384)\/((m.d.l.length:Nat):Int)≠m.r):=h2
 refine bX (λ_=>true) (mvG m) (λ_=>[(78,0,m.C)]) (λ_=>[]) (λk=>k<=m.d.l.length/\∀i,i<k->VOk (M i) m.c) (λk=>m.d.l.length-k) λhM=>⟨hM 0 ⟨aB _,λi hi=>U4 hi (aF _)⟩ U U trivial rS bL (aA U aU) U,λk ⟨hk,hv⟩=>vk ⟨λh3=>vk ?_,λh3=>vk ?_⟩⟩
 ·replace h3:(k:Int)<(m.d.l.length:Nat):=h3
  have hkn:k<m.d.l.length:=Uc
  refine⟨k,⟨U,hkn⟩,[],aOk (m.d.l.getD k cG) m.c (h k hkn) hB,U,U,U,λ_ _=>⟨λh4=>vk ?_,λh4=>vk ?_⟩⟩
  ·exact⟨(),tV,aI (ff λh5=>h4 (h5.2.2.2 k hkn)) U tV⟩
  refine⟨(k+1:Nat),wi,hM (k+1) ⟨⟨hkn,λi hi=>?_⟩,show m.d.l.length-(k+1)<m.d.l.length-k by omega⟩ U U trivial rS bL (aA U aU) U⟩
  rcases bR (cB hi) with h5|rfl
  ·exact hv i h5
  exact cR.1 h4
 replace h3:¬(k:Int)<(m.d.l.length:Nat):=h3
 exact vk ⟨(),tV,aI (tt ⟨cR.1 h1,aN λh4=>h2 (.inl h4),aN λh4=>h2 (.inr h4),λi hi=>hv i oM⟩) U tV⟩
theorem aGk (m:MatM) {M:Nat->List En} {a b B:Nat} (h:Mr m M a b B) (hB:B<=4398046511104) (ha:a<=4096) (hb:b<=4096):Ctr pgQ 91 [] [.a m.C] [] (λ_:Unit=>⟨pC True,[],True⟩):=
 (bRu m h.mg hB (by rw[h.ln];omega)).lo λ_ _=>⟨(),tV,λD n w v hv=>by
  have h2:=hv.tt (h.mok ha hb)
  exact .c (by rw[h2.inv_c.inv_v,<-decide_true (h:=Classical.propDecidable True)];exact Rc.b _ _),U,U⟩
theorem bNf {x:TypeId×Nat×List CV} {T e:Nat} {l:List CV} (h:∀c∈l,fS c=true):ClB [false,true] [x,(T,e,l)]:=λi T' es' l' hi hc=>by
 match i,hi,hc with
 |0,_,hc=>cases hc
 |1,hi,_=>injection hi with hi;injection hi with _ hi;injection hi with _ hi;subst hi;exact h
theorem bNg (n k:Nat) (hn:n<=4096):Ctr pgQ 145 [false,true] [.c (iC n),.c (iC k)] [] (λ_:Unit=>⟨.a [iC n,iC k,.s 1 n],[(78,0,[iC n,iC k,.s 1 n]),(57,1,List.replicate n (.v (.slice none 0 0)))],True⟩):=by
 refine gA gT (eo func145) func145 U U U bL (λi T es l hi=>by cases hi) (vk ⟨n,⟨U,U,by show 24*n<=_;omega,by simp only[maxLen];omega⟩,(),tV,fH U ⟨U,U⟩ bL (aA U (aA ?_ aU)) U (bNf λc hc=>by rw[(gO.1 hc).2];rfl)⟩)
 exact aX.2 λc hc=>by rw[(gO.1 hc).2];rfl
def eA (n:Nat) (P:Nat->CV):List CV:=(List.range n).map P
theorem dD {n:Nat} {P:Nat->CV}:(eA n P).length=n:=by unfold eA;simp
theorem eD {n j:Nat} {P:Nat->CV} (h:j<n):(eA n P)[j*1]? =some (P j):=by unfold eA;simp[h]
theorem cS {n j:Nat} {P:Nat->CV} (h:j<n):j*1<(eA n P).length:=by rw[dD];omega
theorem bCp {l:List CV} {j:Nat} {c:CV} (h:j<l.length):mJ l (j*1) [c]=l.set j c:=by
 unfold mJ
 rw[bE,kK,U3 h]
 rfl
theorem gX {n j:Nat} {P Q:Nat->CV} {c:CV} (h:j<n) (hq:∀i,i<n->(if i=j then c else P i)=Q i):mJ (eA n P) (j*1) [c]=eA n Q/\j*1+1<=(eA n P).length:=by
 refine⟨?_,by rw[dD];omega⟩
 rw[bCp (by rw[dD];exact h)]
 refine jZ (by simp[eA]) λi h1 h2=>?_
 have hi:i<n:=by simpa[eA] using h2
 have:=hq i hi
 have e1:(eA n Q)[i]=Q i:=by simp[eA]
 rw[List.getElem_set,e1,<-this]
 by_cases e:j=i
 ·subst e;simp
 rw[U2 e,U2 (gU e)];simp[eA]
theorem gM {n:Nat} {P Q:Nat->CV} (h:∀i,i<n->P i=Q i):eA n P=eA n Q:=dR λi hi=>h i (cJ.1 hi)
theorem aBs {n:Nat} {c:CV}:List.replicate n c=eA n λ_=>c:=by
 unfold eA
 refine jZ (by simp) λi h1 h2=>by simp
theorem bD {n:Nat} {P:Nat->CV} (h:∀j,j<n->fS (P j)=true):∀c∈eA n P,fS c=true:=λc hc=>by
 obtain⟨j,hj,rfl⟩:=bZ.1 hc
 exact h j (cJ.1 hj)
theorem lM {φ:CV->CV} {l:List CV} (h:∀c,fS c=true->φ c=c) (hl:∀c∈l,fS c=true):l.map φ=l:=by
 induction l with
 |nil=>rfl
 |cons c l ih=>rw[eQ,ih λc hc=>hl c (.tail _ hc),h c (hl c (.head _))]
theorem kE {i:Nat} {A:Option Nat} {a:Nat} (c:CV) (h:fS c=true):qC i A a c=c:=by cases c<;>first|rfl|cases h
theorem aCt {F:Fam} {n:Nat} {P Q:Nat->CV} (h:∀j,j<n->FrC F (P j) (Q j)) (k:Nat) (c c':CV) (h1:(eA n P)[k]? =some c) (h2:(eA n Q)[k]? =some c'):c=c'\/FrC F c c':=by
 have hk:k<n:=by have:=eH h1;rwa [dD] at this
 have e1:=eD (P:=P) hk
 have e2:=eD (P:=Q) hk
 rw[bE] at e1 e2
 rw[h1] at e1;rw[h2] at e2
 injection e1 with e1;injection e2 with e2
 subst e1 e2
 exact .inr (h k hk)
theorem wM {F:Fam} {l:List CV} {k0:Nat} {c0 c1:CV} (hk:l[k0]? =some c0) (hf:FrC F c0 c1):∀(k:Nat) (c c':CV),l[k]? =some c->(l.set k0 c1)[k]? =some c'->c=c'\/FrC F c c':=λk c c' h1 h2=>by
 rcases lT h2 with ⟨rfl,rfl,_⟩|⟨_,h3⟩
 ·rw[hk] at h1
  injection h1 with h1
  subst h1
  exact .inr hf
 rw[h1] at h3
 injection h3 with h3
 exact .inl h3
abbrev hdP (A:Nat->Option Nat) (cap:Nat->Nat) (G:Nat->List EntM):Nat->CV:=λj=> .h (A j) (G j).length (cap j)
theorem aCu {A:Nat->Option Nat} {cap:Nat->Nat} {G:Nat->List EntM} {n j:Nat} {A':Option Nat} {c':Nat} {e:EntM} (h:j<n):mJ (eA n (hdP A cap G)) (j*1) [.h A' ((G j).length+1) c']=eA n (hdP (upd A j A') (upd cap j c') (upd G j (G j++[e])))/\j*1+1<=(eA n (hdP A cap G)).length:=gX h λi _=>by
 by_cases he:i=j
 ·subst he;simp only[hdP,bF,if_true,aD,cO]
 simp only[hdP,aY he,U2 he]
theorem aEi {T n j:Nat} {A:Nat->Option Nat} {cap:Nat->Nat} {G:Nat->List EntM} {e:EntM}:(⟨T,4,n,A,cap,upd (λj=>ecs (G j)) j (ecs (G j)++e.C)⟩:Fam)=⟨T,4,n,A,cap,λi=>ecs (upd G j (G j++[e]) i)⟩:=by
 congr 1
 funext i
 by_cases he:i=j
 ·subst he;rw[bF,bF,qV]
 rw[aY he,aY he]
def hdS (A:Nat->Option Nat) (cap:Nat->Nat) (G:Nat->List EntM) (j:Nat):Sl EntM:=⟨(A j).map λb=>⟨b,0,none⟩,cap j,G j⟩
theorem bNh {T n:Nat} {A:Nat->Option Nat} {cap:Nat->Nat} {G:Nat->List EntM} (j:Nat) (hj:j<n):FrC ⟨T,4,n,A,cap,λj=>ecs (G j)⟩ (hdP A cap G j) (cF (hdS A cap G j)):=⟨j,(G j).length,_,hj,U,U,(iA _).symm,λk hk=>sP (G j) k hk⟩
def lK (S:Nat->Sl EntM) (n:Nat):List (Sl EntM):=(List.range n).map S
theorem qX {S:Nat->Sl EntM} {n j:Nat} (h:j<n):(lK S n).getD j cG=S j:=by unfold lK;simp[h]
theorem oB {S:Nat->Sl EntM} {n:Nat}:(lK S n).length=n:=by unfold lK;simp
theorem wN {T n c:Nat} {A:Option Nat} {S:Nat->Sl EntM}:FrC ⟨T,1,1,λ_=>A,λ_=>c,λ_=>eA n λj=>cF (S j)⟩ (.h A n c) (mU ⟨A.map λb=>⟨b,0,none⟩,c,lK S n⟩):=⟨0,n,_,bL,U,by unfold mU Sl.R;rw[oB],by rw[dD,bE],λk hk=>by
 show [cF ((lK S n).getD k cG)]=_
 rw[qX hk]
 have h1:=eD (P:=λj=>cF (S j)) hk
 rw[bE] at h1
 rw[bE,dK (by rw[dD];exact hk)]
 rw[aG (by rw[dD];exact hk)] at h1
 injection h1 with h1
 rw[h1];rfl⟩
def aHn (M:Nat->List En) (n:Nat) (j:Nat):List Rat:=(List.range n).map λi=>Vm.get (M i) (j:Nat)
theorem aEj {M:Nat->List En} {n i j:Nat} (h:i<n):(aHn M n j).getD i 0=Vm.get (M i) (j:Nat):=by unfold aHn;simp[h]
def trM (M:Nat->List En) (n:Nat) (j:Nat):List En:=fdF (aHn M n j) n
theorem aUd {M:Nat->List En} {n i j:Nat} (hi:i<n):Vm.get (trM M n j) (i:Nat)=Vm.get (M i) (j:Nat):=by
 unfold trM
 rw[aBr,U3 oM,cN,aEj hi]
theorem aCv {qs:List Rat} (n:Nat):VOk (fdF qs n) (n:Nat)/\(fdF qs n).length<=n:=⟨⟨aKv n,λe he=>by
 obtain⟨i,h1,rfl,h3⟩:=aGj e he
 exact⟨by show(0:Int)<=(i:Int);omega,by show(i:Int)<(n:Nat);omega,h3⟩⟩,aKu n⟩
theorem aKz {qs:List Rat} {B k:Nat} (h:∀i,i<k->rb (qs.getD i 0) B):rbE (fdF qs k) B:=λe he=>by
 obtain⟨i,h1,rfl,_⟩:=aGj e he
 exact h i h1
theorem aLa {M:Nat->List En} {n B j:Nat} (h1:1<=B) (hb:rbM M n B) (ha:∀i,i<n->Asc (M i)):rbE (trM M n j) B:=aKz λi hi=>by rw[aEj hi];exact mK (ha i hi) (hb i hi) h1
open Classical in
noncomputable def lvl (es:List En) (i k j:Nat):Nat:=if ∃e∈es.take k,e.1=(j:Nat) then i+1 else i
theorem bCq {es:List En} {i j:Nat}:lvl es i 0 j=i:=U2 λ⟨e,he,_⟩=>by cases he
theorem bRv {es:List En} {i k j:Nat} (hk:k<es.length) (h:(es.getD k U6).1≠(j:Nat)):lvl es i (k+1) j=lvl es i k j:=by
 unfold lvl
 have e1:es.take (k+1)=es.take k++[es.getD k U6]:=by rw[dF,aG hk,gd hk];rfl
 rw[e1]
 congr 1
 refine propext ⟨λ⟨e,he,h2⟩=>?_,λ⟨e,he,h2⟩=>⟨e,cX _ he,h2⟩⟩
 rcases aO.1 he with he|he
 ·exact⟨e,he,h2⟩
 rw[aE.1 he] at h2;exact U4 h2 h
theorem bRw {es:List En} {i k j:Nat} (ha:Asc es) (hk:k<es.length) (h:(es.getD k U6).1=(j:Nat)):lvl es i k j=i/\lvl es i (k+1) j=i+1:=by
 have e1:es.take (k+1)=es.take k++[es.getD k U6]:=by rw[dF,aG hk,gd hk];rfl
 refine⟨U2 λ⟨e,he,h2⟩=>?_,U3 ⟨es.getD k U6,by rw[e1];simp,h⟩⟩
 have h3:Asc (es.take (k+1)):=ha.sublist (iT _ _)
 rw[e1] at h3
 have:=(eR.1 h3).2.2 e he _ (.head _)
 omega
theorem bJs {es:List En} {i j:Nat} {qs:List Rat} (hq:qs.getD i 0=Vm.get es (j:Nat)):fdF qs (lvl es i es.length j)=fdF qs (i+1):=by
 unfold lvl
 rw[cQ]
 split
 ·rfl
 next h=>
 have:qs.getD i 0=0:=hq.trans (get_none λe he h2=>h ⟨e,he,h2⟩)
 show _=if qs.getD i 0=0 then fdF qs i else _
 rw[U3 this]
abbrev trB (m:MatM) (a b:Nat) (H:List CV):BL:=[(78,0,m.C),(78,0,[iC 0,iC 0,.v (.slice none 0 0)]),(78,0,[iC b,iC a,.s 3 b]),(57,1,H),(78,0,[iC b,iC a,.s 3 b])]
theorem aGl {m:MatM} {a b:Nat} {P:Nat->CV} (h:∀j,j<b->fS (P j)=true):scB 5 (trB m a b (eA b P)):=aA U (aA U (aA U (aA (aX.2 λc hc=>sM (bD h c hc)) (aA U aU))))
abbrev trF (n:Nat) (A:Nat->Option Nat) (cap:Nat->Nat) (G:Nat->List EntM):Fam:=⟨75,4,n,A,cap,λj=>ecs (G j)⟩
abbrev trO (m:MatM) (n i:Nat):List (Nat×DV):=[(21,.c (iC i)),(2,.c (.p 1 0)),(4,.c (.p 4 0)),(19,.c (mU m.d)),(20,.c (iC (m.d.l.length:Nat)))]
abbrev trI (m:MatM) (n i k:Nat):List (Nat×DV):=(28,.c (iC k))::(5,.c (iC i))::(26,.c (cF (m.d.l.getD i cG)))::(27,.c (iC ((m.d.l.getD i cG).l.length:Nat)))::trO m n i
def oTr:Ord:=.joinX [] [2000,1,2002,3,2004,5,2006,7,2008,2010,2011,12] (.alt 9 (trS [13,2014,15,16,2017,18]) (.alt 13 (.alt 2014 (.alt 9 (trS [15,16,2017,18]) (.alt 15 (trS [9,16,2017,18]) .nil)) .nil) .nil))
theorem aP {i j:Nat} (c:CV) (h:fS c=true):swC i j c=c:=by cases c<;>first|rfl|cases h
theorem bG {l:List CV} {n:Nat} (h:∀c∈l,fS c=true):l.all (scC n)=true:=aX.2 λc hc=>sM (h c hc)
def cBo (own:Bool) (M:Nat->List En) (a b:Nat) (g:MatM×(Nat->Sl EntM)):Out:=match own with
 |true=>⟨.t [.a [iC b,iC a,.s 0 b],.c (iC 0)],[(57,1,eA b λj=>cF (g.2 j))],∀j,j<b->Ek (g.2 j).l (trM M a j)⟩
 |false=>⟨.t [.a g.1.C,.c (iC 0)],[],Mk g.1 (trM M a) b a⟩
theorem bRx {i j n:Nat} {P:Nat->CV} (h:∀j,j<n->fS (P j)=true):(eA n P).map (swC i j)=eA n P:=(dR λc hc=>aP c (bD h c hc)).trans (yZ _)
theorem bNi (own:Bool) (m:MatM) {M:Nat->List En} {a b B:Nat} (h:Mr m M a b B) (hB:B<=4398046511104) (ha:a<=4096) (hb:b<=4096):Ctr pgQ 95 [true] [.a m.C] [] (cBo own M a b):=by
 obtain⟨mr,mc,md⟩:=m
 obtain rfl:mr=(a:Nat):=h.r
 obtain rfl:mc=(b:Nat):=h.c
 have hl:md.l.length=a:=h.ln
 refine gA gT (eo func95) func95 U U U bL (λi T es l hi=>by cases hi) (vk ⟨[],aGk _ h hB ha hb,U,U,U,λ_ _=>⟨λh2=>U4 trivial h2,λ_=>vk ⟨[],bNg b a hb,U,U,U,λ_ _=>?_⟩⟩⟩)
 show Sd _ _ _ _ _ _
 refine aXd tSd 75 4 b bL (gJ tSd (l:=List.replicate b (.v (.slice none 0 0))) 3 (eA b (hdP (λ_=>none) (λ_=>0) λ_=>[])) U (by rw[dD,cU]) (λk c c' h1 h2=>?_) ?_)
 ·have hk:k<b:=by have:=eH h1;simpa using this
  have h3:=eD (P:=hdP (λ_=>none) (λ_=>0) λ_=>[]) hk
  rw[bE,h2] at h3
  injection h3 with h3
  rw[h3,(gO.1 (aR h1)).2]
  exact LeC.nilh
 refine bX (λ_=>true) (λg:Nat×(Nat->Option Nat)×(Nat->Nat)×(Nat->List EntM)=>trO ⟨a,b,md⟩ b g.1) (λg=>trB ⟨a,b,md⟩ a b (eA b (hdP g.2.1 g.2.2.1 g.2.2.2))) (λg=>[trF b g.2.1 g.2.2.1 g.2.2.2]) (λg=>g.1<=a/\∀j,j<b->Ek (g.2.2.2 j) (fdF (aHn M a j) g.1)) (λg=>a-g.1) λhM=>⟨hM (0,λ_=>none,λ_=>0,λ_=>[]) ⟨aB _,λj _=>⟨U,λk hk=>U4 hk (aF _)⟩⟩ U rS ⟨U,tV⟩ rS bL (aGl λ_ _=>U) U,λ⟨i,A,cap,G⟩ ⟨hi,hG⟩=>vk ⟨λh2=>vk ?_,λh2=>vk ?_⟩⟩
 all_goals
  replace hi:i<=a:=hi
  replace hG:∀j,j<b->Ek (G j) (fdF (aHn M a j) i):=hG
 ·replace h2:(i:Int)<(md.l.length:Nat):=h2
  have hin:i<a:=Uc
  refine⟨i,⟨U,show i<md.l.length by omega⟩,?_⟩
  show Sd _ _ _ _ _ _
  have hes:=h.row i hin
  have hok:=h.ok i hin
  have hle:(md.l.getD i cG).l.length=(M i).length:=hes.ln
  refine bX (λ_=>true) (λg:Nat×(Nat->Option Nat)×(Nat->Nat)×(Nat->List EntM)=>trI ⟨a,b,md⟩ b i g.1) (λg=>trB ⟨a,b,md⟩ a b (eA b (hdP g.2.1 g.2.2.1 g.2.2.2))) (λg=>[trF b g.2.1 g.2.2.1 g.2.2.2]) (λg=>g.1<=(M i).length/\∀j,j<b->Ek (g.2.2.2 j) (fdF (aHn M a j) (lvl (M i) i g.1 j))) (λg=>(M i).length-g.1) λhM2=>⟨hM2 (0,A,cap,G) ⟨aB _,λj hj=>by rw[bCq];exact hG j hj⟩ U rS ⟨U,tV⟩ rS bL (aGl λ_ _=>U) U,λ⟨k,A,cap,G⟩ ⟨hk,hG⟩=>vk ⟨λh3=>vk ?_,λh3=>vk ?_⟩⟩
  all_goals
   replace hk:k<=(M i).length:=hk
   replace hG:∀j,j<b->Ek (G j) (fdF (aHn M a j) (lvl (M i) i k j)):=hG
  ·replace h3:(k:Int)<((md.l.getD i cG).l.length:Nat):=h3
   have hkl:k<(M i).length:=Uc
   have hm:=fN hkl
   have he:=hes.e k hkl
   have e0:=hok.1.2 _ hm
   obtain⟨j0,hj0⟩:∃j0:Nat,((M i).getD k U6).1=(j0:Nat):=⟨((M i).getD k U6).1.toNat,Uc⟩
   have hj:j0<b:=Uc
   have hix:((md.l.getD i cG).l.getD k U6).ix=(j0:Nat):=he.1.trans hj0
   have hlv:=bRw (i:=i) hok.1.1 hkl hj0
   have lG:(G j0).length<=i:=by rw[(hG j0 hj).ln,hlv.1];exact aKu i
   have fin:∀(g:RatM) (A':Option Nat) (c':Nat) (sl:List (Nat×DV)) (r:BL),wZ (λ_=>true) [] [] [] sl->Cr g ((M i).getD k U6).2->AllC sl (trI ⟨a,b,md⟩ b i k)->Gt 0 ⟨sl,[],trB ⟨a,b,md⟩ a b (mJ (eA b (hdP A cap G)) (j0*1) [.h A' ((G j0).length+1) c'])++r,[⟨75,4,b,upd A j0 A',upd cap j0 c',upd (λj=>ecs (G j)) j0 (ecs (G j0)++(⟨i,g⟩:EntM).C)⟩]⟩ (σ:=(Nat->Option Nat)×(Nat->Nat)×RatM) (λg=>⟨trI ⟨a,b,md⟩ b i k++[],[],trB ⟨a,b,md⟩ a b (eA b (hdP g.1 g.2.1 (upd G j0 (G j0++[⟨i,g.2.2⟩])))),[trF b g.1 g.2.1 (upd G j0 (G j0++[⟨i,g.2.2⟩]))]⟩) (λg=>Cr g.2.2 ((M i).getD k U6).2):=λg A' c' sl r ht hg hall=>by
    rw[(aCu hj).1,aEi]
    refine @iP _ _ (λ_=>true) [] (λt d ht=>by cases ht) _ (λ_:(Nat->Option Nat)×(Nat->Nat)×RatM=>trI ⟨a,b,md⟩ b i k) (λg=>trB ⟨a,b,md⟩ a b (eA b (hdP g.1 g.2.1 (upd G j0 (G j0++[⟨i,g.2.2⟩]))))) (λg=>[trF b g.1 g.2.1 (upd G j0 (G j0++[⟨i,g.2.2⟩]))]) _ (upd A j0 A',upd cap j0 c',g) ?_ ?_ ?_ ?_ ?_ ?_ ?_ ?_
    ·exact hg
    ·exact ht
    ·exact rS
    ·exact⟨U,tV⟩
    ·exact hall
    ·exact aB _
    ·exact aGl λ_ _=>U
    rfl
   have apd:∀(g:RatM),(G j0).length+1<=maxLen/\((G j0).length+1)*64<=140737488355328/\∀c∈(⟨i,g⟩:EntM).C,fS c=true:=λg=>⟨by simp only[maxLen];omega,Uc,λc hc=>by
    rcases bW.1 hc with rfl|hc
    ·rfl
    exact gF _ c hc⟩
   refine⟨k,⟨U,show k<(md.l.getD i cG).l.length by omega⟩,oTr,U0,(Nat->Option Nat)×(Nat->Nat)×RatM,λg=>⟨trI ⟨a,b,md⟩ b i k++[],[],trB ⟨a,b,md⟩ a b (eA b (hdP g.1 g.2.1 (upd G j0 (G j0++[⟨i,g.2.2⟩])))),[trF b g.1 g.2.1 (upd G j0 (G j0++[⟨i,g.2.2⟩]))]⟩,λg=>Cr g.2.2 ((M i).getD k U6).2,⟨j0,⟨hix,hj,cS hj⟩,⟨_,eD hj,U,?_⟩,?_⟩,λ_ _=>?_⟩
   ·exact⟨[],oR ((md.l.getD i cG).l.getD k U6).v (he.2.le hB),U,U,U,λg hg=>⟨U,U,0,j0,⟨⟨U,hj,U,U,(iA _).symm,(apd g).1,(apd g).2.1,(apd g).2.2⟩,λA' c'=>⟨U,j0,⟨hix,hj,cS hj⟩,_,⟨U,(aCu (A':=none) (c':=0) (e:=U6) hj).2⟩,U,fin g A' c' _ _ (by rfl) hg (by exact rS)⟩⟩⟩⟩
   ·exact⟨[],oR ((md.l.getD i cG).l.getD k U6).v (he.2.le hB),U,U,U,λg hg=>⟨U,⟨_,eD hj,U,U,0,j0,⟨⟨U,hj,U,U,(iA _).symm,(apd g).1,(apd g).2.1,(apd g).2.2⟩,λA' c'=>⟨U,j0,⟨hix,hj,cS hj⟩,_,⟨U,(aCu (A':=none) (c':=0) (e:=U6) hj).2⟩,U,fin g A' c' _ _ (by rfl) hg (by exact rS)⟩⟩⟩,U,_,eD hj,U,0,j0,⟨⟨U,hj,U,U,(iA _).symm,(apd g).1,(apd g).2.1,(apd g).2.2⟩,λA' c'=>⟨U,j0,⟨hix,hj,cS hj⟩,_,⟨U,(aCu (A':=none) (c':=0) (e:=U6) hj).2⟩,U,fin g A' c' _ _ (by rfl) hg (by exact rS)⟩⟩⟩⟩
   next g hg=>
   exact⟨(k+1:Nat),wi,hM2 (k+1,g.1,g.2.1,upd G j0 (G j0++[⟨i,g.2.2⟩])) ⟨⟨hkl,λj hjn=>by
    show Ek (upd G j0 (G j0++[⟨i,g.2.2⟩]) j) (fdF (aHn M a j) (lvl (M i) i (k+1) j))
    by_cases hjj:j=j0
    ·subst hjj
     rw[bF,hlv.2]
     have hq:Vm.get (M i) (j:Nat)=((M i).getD k U6).2:=by rw[<-hj0];exact rZ hok.1.1 hm
     show Ek _ (if _ then _ else _)
     rw[aEj hin,hq,U2 e0.2.2]
     have:=hG j hjn
     rw[hlv.1] at this
     exact wK this hg
    rw[aY hjj,bRv hkl (by rw[hj0];omega)];exact hG j hjn⟩,show(M i).length-(k+1)<(M i).length-k by omega⟩ U rS ⟨U,tV⟩ rS bL (aGl λ_ _=>U) U⟩
  replace h3:¬(k:Int)<((md.l.getD i cG).l.length:Nat):=h3
  obtain rfl:k=(M i).length:=Uc
  exact⟨(i+1:Nat),wi,hM (i+1,A,cap,G) ⟨⟨hin,λj hj=>by
   have:=hG j hj
   rw[bJs (aEj hin)] at this
   exact this⟩,show a-(i+1)<a-i by omega⟩ U rS ⟨U,tV⟩ rS bL (aGl λ_ _=>U) U⟩
 replace h2:¬(i:Int)<(md.l.length:Nat):=h2
 obtain rfl:i=a:=Uc
 show Sd _ _ _ _ _ _
 refine jQ tSd 3 0 (eA b λj=>cF (hdS A cap G j)) U U U (by rw[dD,dD]) (aCt bNh) ?_
 have hE:∀j,j<b->Ek (hdS A cap G j).l (trM M i j):=(‹_/\_›:_/\∀j,j<b->Ek (G j) (fdF (aHn M i j) i)).2
 cases own with
 |true=>
  refine aTq tSd 0 3 U U bL bL U ⟨_,bRx λ_ _=>U,bL,vk ⟨(⟨0,0,cG⟩,hdS A cap G),hE,fH ⟨U,U⟩ U bL (aA (bG (bD λ_ _=>U)) aU) U (eW (aX.2 (bD λ_ _=>U)))⟩⟩
 |false=>
  refine kT tSd 3 U bL (bD λ_ _=>U) bL U λA2 c2=>?_
  refine jQ tSd 4 1 [iC b,iC i,mU ⟨A2.map λb=>⟨b,0,none⟩,c2,lK (hdS A cap G) b⟩] U U U U (wM (k0:=2) U wN) (vk ⟨(⟨b,i,⟨A2.map λb=>⟨b,0,none⟩,c2,lK (hdS A cap G) b⟩⟩,λ_=>cG),⟨U,U,oB,λj hj=>?_,λj hj=>aCv i⟩,aI ⟨U,U⟩ U tV⟩)
  show Ek ((lK (hdS A cap G) b).getD j cG).l _
  rw[qX hj]
  exact hE j hj
theorem bXa (m:MatM) {M:Nat->List En} {a b B:Nat} (h:Mr m M a b B) (hB:B<=4398046511104) (ha:a<=4096) (hb:b<=4096):Ctr pgQ 95 [true] [.a m.C] [] (λg:MatM=>⟨.t [.a g.C,.c (iC 0)],[],Mk g (trM M a) b a⟩):=(bNi false m h hB ha hb).re λg hg=>⟨g.1,hg,U,U,U⟩
theorem bXb (m:MatM) {M:Nat->List En} {a b B:Nat} (h:Mr m M a b B) (hB:B<=4398046511104) (ha:a<=4096) (hb:b<=4096):Ctr pgQ 95 [true] [.a m.C] [] (λg:Nat->Sl EntM=>⟨.t [.a [iC b,iC a,.s 0 b],.c (iC 0)],[(57,1,eA b λj=>cF (g j))],∀j,j<b->Ek (g j).l (trM M a j)⟩):=(bNi true m h hB ha hb).re λg hg=>⟨g.2,hg,U,U,U⟩
section
variable {I:Type} {f:I->List CV} {d:I} {L:List I} {e:Nat}
def fl (f:I->List CV) (d:I) (L:List I):List CV:=flatR L.length λj=>f (L.getD j d)
theorem aLb {x:I}:fl f d L++f x=fl f d (L++[x]):=by
 unfold fl
 rw[aD,cO,gL]
 have h1:(L++[x]).getD L.length d=x:=by simp[List.getD]
 rw[h1,mZ (Q:=λj=>f ((L++[x]).getD j d)) λj hj=>by simp[List.getD,aV hj]]
theorem xA (h:∀x,∀c∈f x,fS c=true):∀c∈fl f d L,fS c=true:=aAh (λ_=>h _) _
theorem aAi (h:∀x,(f x).length=e):(fl f d L).length=L.length*e:=jE λ_ _=>h _
theorem bCr (h:∀x,(f x).length=e) (j:Nat) (hj:j<L.length):f (L.getD j d)=((fl f d L).drop (j*e)).take e:=(aKw (P:=λj=>f (L.getD j d)) (λ_ _=>h _) hj).symm
end
theorem bXc (a n:Int) (hn:0<n) (hn2:n<=1000000):Ctr pgQ 39 [] [.c (iC a),.c (iC n)] [] (λr:Int=>⟨.c (iC r),[],0<=r/\r<n⟩):=by
 have hu:0<=a%18446744073709551616:=Int.emod_nonneg _ dC
 have e:(a%18446744073709551616).tmod n=a%18446744073709551616%n:=tF hu
 have h1:=Int.emod_nonneg (a%18446744073709551616) (show n≠0 by omega)
 have h2:=Int.emod_lt_of_pos (a%18446744073709551616) hn
 refine cw func39 (⟨a%18446744073709551616,?_,n,?_,(show n≠0 by omega),a%18446744073709551616%n,?_,a%18446744073709551616%n,⟨h1,h2⟩,aI U U tV⟩)
 ·rfl
 ·show n=n%18446744073709551616
  omega
 rw[e]
 refine wi (z:=a%18446744073709551616%n) (h:=⟨U,Uc,Uc⟩)
abbrev tpB (d:Sl Int) (p:Nat):BL:=[(39,0,[cI d,iC p])]
theorem aRf (d:Sl Int):Ctr pgQ 5 [] [.c (cI d)] [] (λ_:Unit=>⟨.c (.p 0 0),tpB d 0,True⟩):=
 cw func5 (⟨(),tV,fH U U (aB _) (aA U aU) U aDy⟩)
theorem oC (d:Sl Int) (p:Nat) (n:Int) (hd:d.l.length<=9223372036854775807) (hp:p<=d.l.length) (hn:0<n) (hn2:n<=1000000):Ctr pgQ 12 [true] [.c (.p 0 0),.c (iC n)] (tpB d p) (λg:Int×Nat=>⟨.c (iC g.1),tpB d g.2,(0<=g.1/\g.1<n)/\g.2<=d.l.length⟩):=by
 refine gA gT (eo func12) func12 U U U bL (eW U) (vk ⟨.seq (sq 99 (List.range 10)),U0,⟨λh=>vk ⟨(0,p),⟨⟨Int.le_refl 0,hn⟩,hp⟩,fH U U bL (aA U aU) U (eW U)⟩,λh=>vk ?_⟩⟩)
 have hpl:p<d.l.length:=by replace h:¬(p:Int)≥(d.l.length:Nat):=h;omega
 exact⟨(p+1:Nat),wi,.seq (sq 99 (List.range 14)),U0,p,wi,p,⟨U,hpl⟩,[],bXc _ n hn hn2,U,U,U,λr hr=>⟨(r,p+1),⟨hr,hpl⟩,fH U U bL (aA U aU) U (eW U)⟩⟩
theorem aOo {a b:Int} (ha:a.natAbs<=1000) (hb:b.natAbs<=1000):rb (Rat.divInt a b) 1:=by
 have h1:=zZ (a:=a) (b:=b)
 have h2:=aAa (a:=a) (b:=b)
 have h3:∀{z:Int},z.natAbs<=1000->len z.natAbs<=1:=λ{z} hz=>aJ (fR hz) dC
 simp only[fD] at h1 h2
 exact⟨by have:=h3 ha;omega,by have:=h3 hb;omega⟩
theorem bCs {a b:Int} (ha:a.natAbs<=1000) (hb:b.natAbs<=1000):Ctr pgQ 123 [] [.c (iC a),.c (iC b)] [] (rY (Rat.divInt a b)):=by
 have hl:=rV (n:=a.natAbs)
 refine cw func123 (⟨[],zH oM,U,U,U,λg hg=>⟨[],zH oM,U,U,U,λo ho=>⟨[],wG g o (Ci.in hg oM) (Ci.in ho (by have:=rV (n:=b.natAbs);omega)),U,U,U,λr hr=>⟨r,hr,aI U U tV⟩⟩⟩⟩)
theorem aRg (d:Sl Int) (p:Nat) (hd:d.l.length<=9223372036854775807) (hp:p<=d.l.length):Ctr pgQ 80 [true] [.c (.p 0 0)] (tpB d p) (λg:RatM×Rat×Nat=>⟨.a g.1.C,tpB d g.2.2,(Cr g.1 g.2.1/\rb g.2.1 1)/\g.2.2<=d.l.length⟩):=by
 refine gA gT (eo func80) func80 U U U bL (eW U) (vk ⟨[0],oC d p 13 hd hp dC dC,U,U,U,λr hr=>⟨r.1-6,wi (h:=⟨U,by have:=hr.1;omega,by have:=hr.1;omega⟩),[0],oC d r.2 4 hd hr.2 dC dC,U,U,U,λs hs=>⟨1+s.1,wi (h:=⟨U,by have:=hs.1;omega,by have:=hs.1;omega⟩),[],bCs (by have:=hr.1;omega) (by have:=hs.1;omega),U,U,U,λg hg=>⟨(g,Rat.divInt (r.1-6) (1+s.1),s.2),⟨⟨hg,aOo (by have:=hr.1;omega) (by have:=hs.1;omega)⟩,hs.2⟩,fH U U bL (aA U aU) U (eW U)⟩⟩⟩⟩)
theorem bJt {x:List RatM} {qs:List Rat} {g:RatM} {q:Rat} (h:Rl x qs) (hg:Cr g q):Rl (x++[g]) (qs++[q]):=⟨by simp[h.ln],λk hk=>by
 have hl:=h.ln
 rw[aD,cO] at hk
 by_cases h1:k<qs.length
 ·have:=h.e k h1
  simp only[List.getD,aV (show k<x.length by omega),aV h1]
  exact this
 obtain rfl:k=qs.length:=Uc
 simp only[List.getD,bH (show x.length<=qs.length by omega),bH (aH _),hl,gH]
 exact hg⟩
theorem aOp {i:Nat} (g:RatM):∀c∈g.C,kS i c=false:=λc hc=>bJ (gF g c hc)
theorem bXd (x y:IntM) {z:Int} (hx:Ci x z) (hy:Ci y z):Ctr pgQ 99 [] [.a x.C,.a y.C] [] (λ_:Unit=>⟨pC True,[],True⟩):=by
 have hp:x.p↔y.p:=hx.1.trans hy.1.symm
 have hm:x.m.l=y.m.l:=hx.2.trans hy.2.symm
 exact cw func99 (⟨λ_=>⟨[],aKa x.m y.m,U,U,U,λ_ _=>⟨(),tV,aI ⟨λ_=>tV,λ_=>hm⟩ U tV⟩⟩,λh=>U4 hp h⟩)
theorem bNj (x y:RatM) {q:Rat} (hx:Cr x q) (hy:Cr y q):Ctr pgQ 55 [] [.a x.C,.a y.C] [] (λ_:Unit=>⟨pC True,[],True⟩):=by
 have hm:x.d.l=y.d.l:=hx.2.trans hy.2.symm
 refine cw func55 (⟨[],bXd x.n y.n hx.1 hy.1,U,U,U,λ_ _=>⟨λ_=>⟨[],aKa x.d y.d,U,U,U,λ_ _=>⟨(),tV,aI ⟨λ_=>tV,λ_=>hm⟩ U tV⟩⟩,λh=>U4 trivial h⟩⟩)
theorem bCt (x:RatM) {q:Rat} (hx:Cr x q) (hb:rb q 13194139533312):Ctr pgQ 54 [] [.a x.C] [] (λ_:Unit=>⟨pC True,[],True⟩):=by
 refine cw func54 (⟨.seq (sq 99 (List.range 5)),U0,[],gE x (hx.rq hb),U,U,U,λg hg=>⟨[],bNj x g hx hg,U,U,U,λ_ _=>⟨(),tV,aI iO U tV⟩⟩⟩)
theorem aUe (x y:Sl RatM) {qs:List Rat} (hx:Rl x.l qs) (hy:Rl y.l qs) (hb:rbL qs 13194139533312) (hn:qs.length<=4096):Ctr pgQ 17 [] [.c (dS x),.c (dS y)] [] (λ_:Unit=>⟨pC True,[],True⟩):=by
 have lx:=hx.ln
 have ly:=hy.ln
 refine cw func17 (⟨λh=>vk ?_,λ_=>vk ?_⟩)
 ·replace h:((x.l.length:Nat):Int)≠(y.l.length:Nat):=h
  omega
 refine bX (λ_=>true) (λk:Nat=>[(5,.c (iC k)),(0,.c (dS x)),(1,.c (dS y))]) (λ_=>[]) (λ_=>[]) (λk=>k<=qs.length) (λk=>qs.length-k) λhM=>⟨hM 0 (aB _) U trivial trivial ⟨U,U,U⟩ bL aU U,λk hk=>vk ⟨λh1=>vk ?_,λh1=>vk ?_⟩⟩
 all_goals replace hk:k<=qs.length:=hk
 ·have hkl:k<qs.length:=by replace h1:(k:Int)<(x.l.length:Nat):=h1;omega
  have kx:k<x.l.length:=Uc
  have ky:k<y.l.length:=Uc
  have no:∀{p:Prop},¬True->p:=λh=>U4 trivial h
  exact⟨.seq (sq 99 (List.range 26)),U0,k,⟨U,kx⟩,[],bCt _ (hx.e k hkl) (hb _ (gD0 hkl)),U,U,U,λ_ _=>⟨k,λ_=>⟨U,ky⟩,λh=>U4 trivial h,λ_=>⟨[],bCt _ (hy.e k hkl) (hb _ (gD0 hkl)),U,U,U,λ_ _=>⟨k,λ_=>⟨U,kx⟩,k,λ_=>⟨U,ky⟩,λh=>U4 trivial h,λ_=>⟨[],bNj _ _ (hx.e k hkl) (hy.e k hkl),U,U,U,λ_ _=>⟨λh=>U4 trivial h,λ_=>vk ⟨(k+1:Nat),wi,hM (k+1) ⟨hkl,show qs.length-(k+1)<qs.length-k by omega⟩ U trivial trivial ⟨U,U,U⟩ bL aU U⟩⟩⟩⟩⟩⟩⟩
 exact vk ⟨(),tV,aI (tt tV) U tV⟩
theorem bRy {es:List En} {k:Nat} {i:Int} (hk:k<es.length):Vm.get (es.take (k+1)) i=Vm.get (es.take k) i+(if (es.getD k U6).1=i then (es.getD k U6).2 else 0):=by
 have e1:es.take (k+1)=es.take k++[es.getD k U6]:=by rw[dF,aG hk,gd hk];rfl
 rw[e1,get_append]
 show _+(_+0)=_
 rw[bK]
theorem bRz {es:List En} {k B:Nat} (h:rbE es B):rbE (es.take k) B:=λe he=>h e (cH he)
abbrev geG (x:Sl EntM) (i:Int) (k:Nat):List (Nat×DV):=[(6,.c (iC k)),(0,.c (cF x)),(1,.c (iC i)),(4,.c (.p 0 0)),(5,.c (.p 1 0))]
abbrev geB (g:RatM):BL:=[(53,0,vG),(53,0,g.C)]
theorem aRh {g:RatM}:scB 2 (geB g):=aA U (aA U aU)
theorem aGm (x:Sl EntM) (i:Int) {es:List En} {B:Nat} (h:Ev x.l es B) (ha:Asc es) (hb:rbE es B) (h1:1<=B) (hB:B<=4398046511104) (hn:es.length<=4096):Ctr pgQ 73 [] [.c (cF x),.c (iC i)] [] (rY (Vm.get es i)):=by
 have hl:=h.ln
 refine cw func73 (⟨[],xZ,U,U,U,λz hz=>?_⟩)
 refine bX (λ_=>true) (λg:Nat×RatM=>geG x i g.1) (λg=>geB g.2) (λ_=>[]) (λg=>g.1<=es.length/\Cr g.2 (Vm.get (es.take g.1) i)) (λg=>es.length-g.1) λhM=>⟨hM (0,z) ⟨aB _,hz⟩ U ⟨U,U⟩ U1 rS bL aRh U,λ⟨k,g⟩ ⟨hk,hg⟩=>vk ⟨λh2=>vk ?_,λh2=>vk ?_⟩⟩
 all_goals
  replace hk:k<=es.length:=hk
  replace hg:Cr g (Vm.get (es.take k) i):=hg
 ·have hkl:k<es.length:=by replace h2:(k:Int)<(x.l.length:Nat):=h2;omega
  have kx:k<x.l.length:=Uc
  have he:=h.e k hkl
  have e1:=bRy (i:=i) hkl
  have rq:∀{r:RatM} {q:Rat},Cr r q->rb q B->Rq r q 4398046511104:=λhr hb=>(Cr.rq hr hb).le hB
  refine⟨k,⟨U,kx⟩,λh3=>vk ?_,λh3=>vk ?_⟩
  ·replace h3:(x.l.getD k U6).ix=i:=h3
   rw[he.1] at h3
   rw[U3 h3] at e1
   exact⟨.seq (sq 7 (List.range 8)),U0,k,⟨U,kx⟩,[],aGh g (x.l.getD k U6).v (rq hg (mK (ha.sublist (iT k es)) (bRz hb) h1)) (he.2.le hB),U,U,U,λr hr=>⟨(k+1:Nat),wi,hM (k+1,r) ⟨⟨hkl,by show Cr r (Vm.get (es.take (k+1)) i);rw[e1];exact hr⟩,show es.length-(k+1)<es.length-k by omega⟩ U ⟨U,U⟩ U1 rS bL aRh U⟩⟩
  replace h3:¬(x.l.getD k U6).ix=i:=h3
  rw[he.1] at h3
  rw[U2 h3,bK] at e1
  exact⟨(k+1:Nat),wi,hM (k+1,g) ⟨⟨hkl,by show Cr g (Vm.get (es.take (k+1)) i);rw[e1];exact hg⟩,show es.length-(k+1)<es.length-k by omega⟩ U ⟨U,U⟩ U1 rS bL aRh U⟩
 replace h2:¬(k:Int)<(x.l.length:Nat):=h2
 obtain rfl:k=es.length:=Uc
 rw[cQ] at hg
 exact vk ⟨g,hg,aI U U tV⟩
theorem bCu {es:List En} (h:Asc es) {i j:Nat} (hij:i<j) (hj:j<es.length):(es.getD i U6).1<(es.getD j U6).1:=by
 have:=gW.1 h i j oM hj hij
 rwa [gd oM,gd hj]
abbrev vaG (x:Sl EntM) (m:Int) (k:Nat):List (Nat×DV):=[(5,.c (iC k)),(0,.c (cF x)),(1,.c (iC m))]
theorem aRi (x:Sl EntM) (m:Int) {es:List En} {B:Nat} (hx:Ev x.l es B) (hB:B<=13194139533312) (hn:es.length<=4611686018427387904):Ctr pgQ 113 [] [.c (cF x),.c (iC m)] [] (λ_:Unit=>⟨pC (VOk es m),[],True⟩):=by
 have lx:=hx.ln
 refine cw func113 (?_)
 refine bX (λ_=>true) (vaG x m) (λ_=>[]) (λ_=>[]) (λk=>k<=es.length/\VOk (es.take k) m) (λk=>es.length-k) λhM=>⟨hM 0 ⟨aB _,List.Pairwise.nil,λe he=>by cases he⟩ U trivial trivial ⟨U,U,U⟩ bL aU U,λk ⟨hk,hv⟩=>vk ⟨λh1=>vk ?_,λh1=>vk ?_⟩⟩
 all_goals
  replace hk:k<=es.length:=hk
  replace hv:VOk (es.take k) m:=hv
 ·have hkl:k<es.length:=by replace h1:(k:Int)<(x.l.length:Nat):=h1;omega
  have kx:k<x.l.length:=Uc
  have ex:=hx.e k hkl
  have hmem:=fN hkl
  have hno:¬(0<=(es.getD k U6).1/\(es.getD k U6).1<m/\(es.getD k U6).2≠0)->¬VOk es m:=λhh h=>hh (h.2 _ hmem)
  refine⟨.seq (sq 99 (List.range 42)),U0,k,⟨U,kx⟩,k,λ_=>⟨U,kx⟩,k,λ_=>⟨U,kx⟩,(k:Int)-1,λ_=>wi (h:=⟨U,Uc,Uc⟩),k-1,λhq=>⟨?_,?_⟩,k,λ_=>⟨U,kx⟩,λh=>?_,λh=>⟨[],tT _ (ex.2.le hB),U,U,U,λ_ _=>⟨λh4=>?_,λh4=>vk ⟨(k+1:Nat),wi,hM (k+1) ⟨⟨hkl,?_⟩,show es.length-(k+1)<es.length-k by omega⟩ U trivial trivial ⟨U,U,U⟩ bL aU U⟩⟩⟩⟩
  ·have:=hq.1;omega
  ·omega
  ·refine⟨(),tV,aI (ff λhV=>?_) U tV⟩
   rcases h with h|⟨h,h5⟩
   ·rw[ex.1] at h
    exact hno oM hV
   have h6:=bCu hV.1 (i:=k-1) (j:=k) oM hkl
   rw[ex.1,(hx.e (k-1) oM).1] at h5
   omega
  ·exact vk ⟨(),tV,aI (ff (hno λhh=>hh.2.2 (cY.1 (fT.1 h4)))) U tV⟩
  have e1:es.take (k+1)=es.take k++[es.getD k U6]:=by rw[dF,aG hkl,gd hkl];rfl
  have h5:0<=(es.getD k U6).1/\(es.getD k U6).1<m/\(es.getD k U6).2≠0:=by
   refine⟨?_,?_,λhz=>h4 (fT.2 (cY.2 hz))⟩
   ·exact qJ.1 λhh=>h (.inl (by first|exact .inl (by show(x.l.getD k U6).ix<0;omega)|(show _\/_;omega)))
   exact aAq.1 λhh=>h (.inl (by first|exact .inr (by show m<=(x.l.getD k U6).ix;omega)|(show _\/_;omega)))
  refine⟨?_,(aOh (d:=U6) hkl).2 ⟨hv.2,h5⟩⟩
  rcases cL k with rfl|h0
  ·rw[e1];exact eK _ _
  obtain⟨j,rfl⟩:∃j,k=j+1:=⟨k-1,Uc⟩
  refine bNd hkl (aAq.1 λhh=>h (.inr ⟨by show(0:Int)<((j+1:Nat):Int);omega,?_⟩)) hv.1
  show(x.l.getD (j+1) U6).ix<=(x.l.getD (j+1-1) U6).ix
  rw[ex.1,(hx.e (j+1-1) oM).1]
  exact hh
 replace h1:¬(k:Int)<(x.l.length:Nat):=h1
 rw[cE oM] at hv
 exact vk ⟨(),tV,aI (tt hv) U tV⟩
theorem bCv {P:Program} {q:FuncId} {cl:List Bool} {al:List DV} {bl:BL} {p:Prop} (h:Ctr P q cl al bl (λ_:Unit=>⟨pC p,bl,True⟩)) (hp:p):Ctr P q cl al bl (λ_:Unit=>⟨pC True,bl,True⟩):=
 h.lo λ_ _=>⟨(),tV,λD n w v hv=>by
  have h2:=hv.tt hp
  exact .c (by rw[h2.inv_c.inv_v,<-decide_true (h:=Classical.propDecidable True)];exact Rc.b _ _),U,U⟩
theorem bSa (x:Sl EntM) (m:Int) {es:List En} {B:Nat} (hx:Ev x.l es B) (hv:VOk es m) (hB:B<=13194139533312) (hn:es.length<=4611686018427387904):Ctr pgQ 113 [] [.c (cF x),.c (iC m)] [] (λ_:Unit=>⟨pC True,[],True⟩):=bCv (aRi x m hx hB hn) hv
def ixL (es:List En) (k:Nat):List Int:=(es.take k).map (·.1)
theorem aEk {es:List En} {k:Nat} (h:k<=es.length):(ixL es k).length=k:=by unfold ixL;rw[aK,bI];omega
theorem bCw {es:List En} {k:Nat} (h:k<es.length):ixL es (k+1)=ixL es k++[(es.getD k U6).1]:=by
 unfold ixL
 rw[dF,aG h,gd h,bA];rfl
theorem aRj {es:List En} {j k:Nat} (hj:j<k) (h:k<=es.length):(ixL es k).getD j 0=(es.getD j U6).1:=by
 unfold ixL
 simp only[List.getD,dQ,fK,U3 hj,aG (show j<es.length by omega)]
 rfl
theorem bCx {es:List En} {k:Nat} {c:CV} (h:k<es.length) (hc:c=iC (es.getD k U6).1):((ixL es k).map iC++[c]).take ((0+k+1)*1)++((ixL es k).map iC).drop (k*1)=(ixL es (k+1)).map iC:=by
 have lk:((ixL es k).map iC).length=k:=by rw[aK];exact aEk (eT h)
 rw[cE (by rw[aD,cO];omega),cK oM,dW,bCw h,bA,hc];rfl
abbrev inB (L:List Int):BL:=[(3,1,L.map iC)]
theorem aCw {L:List Int}:scB 1 (inB L):=aA (bG (aW L)) aU
abbrev inO (d:Sl (Sl EntM)) (j n:Nat):List (Nat×DV):=[(11,.c (iC j)),(3,.c (.s 0 n)),(9,.c (mU d)),(10,.c (iC 1))]
abbrev inK (x:Sl EntM) (d:Sl (Sl EntM)) (k:Nat):List (Nat×DV):=(6,.c (iC k))::(5,.c (cF x))::inO d 0 k
abbrev inP (x:Sl EntM) (d:Sl (Sl EntM)) (k p:Nat):List (Nat×DV):=(7,.c (iC p))::inK x d k
theorem bSb (x:Sl EntM) (A:Option Addr) (c:Nat) {es:List En} {B:Nat} (h:Ev x.l es B) (ha:Asc es) (hn:es.length<=4096):Ctr pgQ 200 [] [.c (mU ⟨A,c,[x]⟩)] [] (λg:Sl Int=>⟨.c (cI g),[],g.l=ixL es es.length⟩):=by
 have hl:=h.ln
 refine cw func200 ((vW 3 3 1 U bL (vk ?_)))
 refine bX (λ_=>true) (λg:Nat×List Int=>inO ⟨A,c,[x]⟩ g.1 g.2.length) (λg=>inB g.2) (λ_=>[]) (λg=>(g.1=0/\g.2=[])\/(g.1=1/\g.2=ixL es es.length)) (λg=>1-g.1) λhM=>⟨hM (0,[]) (.inl ⟨U,U⟩) U U trivial rS bL aCw U,λ⟨i,L⟩ hL=>vk ⟨λh1=>vk ?_,λh1=>vk ?_⟩⟩
 ·replace h1:(i:Int)<1:=h1
  have hi0:i=0/\L=[]:=by rcases hL with h|h;exact h;have:=h.1;dsimp only at this;omega
  obtain⟨rfl,rfl⟩:=hi0
  refine⟨0,⟨U,dO⟩,?_⟩
  show Sd _ _ _ _ _ _
  refine bX (λ_=>true) (λk:Nat=>inK x ⟨A,c,[x]⟩ k) (λk=>inB (ixL es k)) (λ_=>[]) (λk=>k<=es.length) (λk=>es.length-k) λhM2=>⟨hM2 0 (aB _) U U trivial rS bL aCw U,λk hk=>vk ⟨λh2=>vk ?_,λh2=>vk ?_⟩⟩
  all_goals replace hk:k<=es.length:=hk
  ·have hkl:k<es.length:=by replace h2:(k:Int)<(x.l.length:Nat):=h2;omega
   have kx:k<x.l.length:=Uc
   have hik:=aEk (eT hkl)
   have hx:=(h.e k hkl).1
   show Sd _ _ _ _ _ _
   refine bX (λ_=>true) (λp:Nat=>inP x ⟨A,c,[x]⟩ k p) (λ_=>inB (ixL es k)) (λ_=>[]) (λp=>p<=k) (λp=>k-p) λhM3=>⟨hM3 0 (aB _) U U trivial rS bL aCw U,λp hp=>vk ⟨.seq (sq 99 (List.range 16)),U0,?_⟩⟩
   replace hp:p<=k:=hp
   have hcell:∀{q:Nat},q<k->((ixL es k).map iC)[q*1]? =some (iC (es.getD q U6).1):=λ{q} hq=>by
    rw[bE,dQ,aG (show q<(ixL es k).length by omega),<-aRj hq (eT hkl),gd (show q<(ixL es k).length by omega)];rfl
   have hlen:∀{q:Nat},q<k->q*1<((ixL es k).map iC).length:=λ{q} hq=>by rw[aK];omega
   refine⟨p,λhq=>⟨U,?_,?_⟩,iC (es.getD p U6).1,λhq=>?_,k,λ_=>⟨U,kx⟩,λh3=>vk ?_,λh3=>vk ?_⟩
   ·replace hq:(p:Int)<(k:Nat):=hq
    omega
   ·exact hlen (by replace hq:(p:Int)<(k:Nat):=hq;omega)
   ·exact hcell (by replace hq:(p:Int)<(k:Nat):=hq;omega)
   ·replace h3:(p:Int)<(k:Nat)/\(es.getD p U6).1<(x.l.getD k U6).ix:=h3
    have hpk:p<k:=Uc
    exact⟨(p+1:Nat),wi,hM3 (p+1) ⟨hpk,show k-(p+1)<k-p by omega⟩ U U trivial rS bL aCw U⟩
   replace h3:¬((p:Int)<(k:Nat)/\(es.getD p U6).1<(x.l.getD k U6).ix):=h3
   have hpk:k=p:=aN λhne=>h3 ⟨Uc,by rw[hx];exact bCu ha oM hkl⟩
   subst hpk
   have no:∀{p:Prop},(k:Int)<(k:Nat)->p:=λh=>U4 h oM
   refine vk ⟨.seq (sq 99 (List.range 16)),U0,k,λhq=>no hq,iC 0,λhq=>no hq,k,λ_=>⟨U,kx⟩,λh4=>no h4.1,λh4=>vk ?_⟩
   have lk:((ixL es k).map iC).length=k:=by rw[aK];exact hik
   have mn:∀{i:Nat},∀c∈(ixL es k).map iC,kS i c=false:=λc hc=>bJ (aW _ c hc)
   have mn2:∀{i:Nat},∀c∈(ixL es k).map iC++[iC (x.l.getD k U6).ix],kS i c=false:=λc hc=>(aO.1 hc).elim (mn c) (bJb c)
   have mn3:∀{i m m':Nat},∀c∈((ixL es k).map iC++[iC (x.l.getD k U6).ix]).take m++((ixL es k).map iC).drop m',kS i c=false:=λc hc=>(aO.1 hc).elim (λh=>mn2 c (cH h)) λh=>mn c (fU h)
   refine⟨k,⟨U,by show k*1<=((ixL es k).map iC).length;omega⟩,⟨⟨by show k*1=((ixL es k).map iC).length;omega,U,by simp only[maxLen];omega,by show(0+k)*8<=_;omega,mn⟩,mn,?_⟩⟩
   refine⟨k,⟨U,kx⟩,⟨⟨U,by show(0+k)*1=((ixL es k).map iC).length;omega,by simp only[maxLen];omega,by show(0+k+1)*8<=_;omega,mn2⟩,mn,bJb,?_⟩⟩
   refine⟨k,⟨U,aH _,by show k*1<=((ixL es k).map iC).length;omega⟩,⟨⟨by show k*1+(k-k)*1=((ixL es k).map iC).length;omega,by show(0+k+1)*1<=((ixL es k).map iC++[iC (x.l.getD k U6).ix]).length;rw[aD,cO];omega,by simp only[maxLen];omega,by show(0+k+1+(k-k))*8<=_;omega,mn3⟩,mn,bJb,?_⟩⟩
   have cl:∀c∈(ixL es k).map iC++[iC (x.l.getD k U6).ix],fS c=true:=λc hc=>(aO.1 hc).elim (aW _ c) λh=>by rw[aE.1 h];rfl
   have cl3:∀{m m':Nat},∀c∈((ixL es k).map iC++[iC (x.l.getD k U6).ix]).take m++((ixL es k).map iC).drop m',fS c=true:=λc hc=>(aO.1 hc).elim (λh=>cl c (cH h)) λh=>aW _ c (fU h)
   refine⟨(k+1:Nat),wi,gsw 0 1 U U bL bL U ⟨_,lM aP cl3,_,lM aP (aW _),_,U,bL,hM2 (k+1) ⟨hkl,show es.length-(k+1)<es.length-k by omega⟩ U ?_ trivial ⟨U,U,U,?_,U,U⟩ bL aCw U⟩⟩
   ·exact U5 (λl:List CV=>((3,1,l):TypeId×Nat×List CV)) (bCx hkl (U5 iC hx))
   show 0+k+1+(k-k)=k+1
   omega
  replace h2:¬(k:Int)<(x.l.length:Nat):=h2
  obtain rfl:k=es.length:=Uc
  exact⟨((0+1:Nat):Int),wi,hM (1,ixL es es.length) ⟨.inr ⟨U,U⟩,dO⟩ U U trivial ⟨U,by show es.length=(ixL es es.length).length;exact(aEk (aH _)).symm,U,U⟩ bL aCw U⟩
 have hL1:L=ixL es es.length:=by
  rcases hL with h|h
  ·exact U4 (show(i:Int)<1 by have:i=0:=h.1;omega) h1
  exact h.2
 exact nS 3 0 (λj=>[iC (L.getD j 0)]) U U (λj hj=>mS j hj) (by show L.length*1=(L.map iC).length;rw[aK,bE]) bL (aW L) bL λA c _ _=>vk ⟨(⟨A,c,L⟩:Sl Int),hL1,aI U U tV⟩
def nzL (es:List En):Nat->List En
 |0=>[]
 |k+1=>if (es.getD k U6).2=0 then nzL es k else nzL es k++[es.getD k U6]
theorem aUf {es:List En}:∀k,(nzL es k).length<=k
 |0=>aH _
 |k+1=>by
  unfold nzL
  have:=aUf (es:=es) k
  split
  ·omega
  rw[aD,cO];omega
theorem aUg {es:List En} (h:aHi es):∀k,k<=es.length->nzL es k=es.take k
 |0,_=>rfl
 |k+1,hk=>by
  unfold nzL
  rw[U2 (h _ (fN hk)),aUg h k oM,dF,aG hk,gd hk];rfl
theorem bSc {es:List En} (h:aHi es):nzL es es.length=es:=by rw[aUg h _ (aH _),cQ]
theorem bSd {x:Sl EntM}:∀j,j<1->[cF (([x]:List (Sl EntM)).getD j cG)]=([cF x].drop (j*1)).take 1
 |0,_=>rfl
 |_+1,h=>U4 h oM
abbrev nrG (x:Sl EntM) (g:Sl Int) (m k n:Nat):List (Nat×DV):=[(11,.c (iC k)),(3,.c (.s 1 n)),(0,.c (cF x)),(9,.c (cI g)),(10,.c (iC m))]
abbrev nrB (ys:List EntM):BL:=[(57,1,[]),(75,4,ecs ys)]
theorem aRk {ys:List EntM}:scB 2 (nrB ys):=aA U (aA (nT _) aU)
theorem bCy (x:Sl EntM) {es:List En} {B:Nat} (h:Ev x.l es B) (ha:Asc es) (hb:rbE es B) (h1:1<=B) (hB:B<=4398046511104) (hn:es.length<=4096):Ctr pgQ 165 [] [.c (cF x)] [] (λg:Sl EntM=>⟨.c (cF g),[],Ek g.l (nzL es es.length)⟩):=by
 have hl:=h.ln
 refine cw func165 (⟨some (λj=>[cF (([x]:List (Sl EntM)).getD j cG)]),⟨⟨aH _,dO⟩,U,bSd,λc hc=>by rw[aE.1 hc];rfl⟩,λA c _ _=>⟨[],bSb x A c h ha hn,U,U,U,λg hg=>vW 3 75 4 U bL ?_⟩⟩)
 replace hg:g.l=ixL es es.length:=hg
 have lg:g.l.length=es.length:=by rw[hg];exact aEk (aH _)
 refine bX (λ_=>true) (λu:Nat×List EntM=>nrG x g g.l.length u.1 u.2.length) (λu=>nrB u.2) (λ_=>[]) (λu=>u.1<=es.length/\Ek u.2 (nzL es u.1)) (λu=>es.length-u.1) λhM=>⟨hM (0,[]) ⟨aB _,U,λk hk=>U4 hk (aF _)⟩ U ⟨U,U⟩ U1 rS bL aRk U,λ⟨k,ys⟩ ⟨hk,hy⟩=>vk ⟨λh2=>vk ?_,λh2=>vk ?_⟩⟩
 all_goals
  replace hk:k<=es.length:=hk
  replace hy:Ek ys (nzL es k):=hy
  have ly:ys.length<=k:=by rw[hy.ln];exact aUf k
 ·have hkl:k<es.length:=by replace h2:(k:Int)<(g.l.length:Nat):=h2;omega
  have hv:Vm.get es (g.l.getD k 0)=(es.getD k U6).2:=by rw[hg,aRj hkl (aH _)];exact rZ ha (fN hkl)
  have hbk:=hb _ (fN hkl)
  refine⟨k,⟨U,show k<g.l.length by omega⟩,[],aGm x (g.l.getD k 0) h ha hb h1 hB hn,U,U,U,λr hr=>?_⟩
  replace hr:Cr r (Vm.get es (g.l.getD k 0)):=hr
  rw[hv] at hr
  refine⟨[],tT r ((hr.rq hbk).le oM),U,U,U,λ_ _=>⟨λh3=>vk ?_,λh3=>vk ?_⟩⟩
  ·replace h3:¬sgn (es.getD k U6).2.num=0:=h3
   have h4:¬(es.getD k U6).2=0:=λe=>h3 (fT.2 (cY.2 e))
   refine⟨⟨U,by show ys.length*4=(ecs ys).length;rw[iA],by show ys.length+1<=maxLen;simp only[maxLen];omega,by show(ys.length+1)*64<=_;omega,λc hc=>?_⟩,λc hc=>(by cases hc),mT ⟨g.l.getD k 0,r⟩,(k+1:Nat),wi,hM (k+1,ys++[⟨g.l.getD k 0,r⟩]) ⟨⟨hkl,?_⟩,show es.length-(k+1)<es.length-k by omega⟩ U ⟨U,by show(75,4,ecs ys++(⟨g.l.getD k 0,r⟩:EntM).C)=_;rw[qV]⟩ U1 ⟨U,?_,U,U,U⟩ bL aRk U⟩
   ·exact(aO.1 hc).elim (λh=>bJ (iB ys c h)) (mT ⟨g.l.getD k 0,r⟩ c)
   ·show Ek _ (if _ then _ else _)
    rw[U2 h4]
    have:=wK (ix:=(es.getD k U6).1) hy hr
    rwa [show g.l.getD k 0=(es.getD k U6).1 by rw[hg];exact aRj hkl (aH _)]
   show ys.length+1=(ys++[(⟨g.l.getD k 0,r⟩:EntM)]).length
   simp
  replace h3:¬¬sgn (es.getD k U6).2.num=0:=h3
  have h4:(es.getD k U6).2=0:=cY.1 (fT.1 (iU.1 h3))
  exact⟨(k+1:Nat),wi,hM (k+1,ys) ⟨⟨hkl,by show Ek ys (if _ then _ else _);rw[U3 h4];exact hy⟩,show es.length-(k+1)<es.length-k by omega⟩ U ⟨U,U⟩ U1 rS bL aRk U⟩
 replace h2:¬(k:Int)<(g.l.length:Nat):=h2
 obtain rfl:k=es.length:=Uc
 exact nS 3 1 (λj=>(ys.getD j U6).C) U U (λj hj=>sP ys j hj) (iA ys).symm bL (iB ys) bL λA c _ _=>⟨λc hc=>(by cases hc),vk ⟨(⟨A,c,ys⟩:Sl EntM),hy,aI U U tV⟩⟩
def fuL (qs:List Rat) (k:Nat):List En:=(List.range k).map λi:Nat=>((i:Int),qs.getD i 0)
theorem aLc {qs:List Rat} {k:Nat}:(fuL qs k).length=k:=by unfold fuL;simp
theorem aOq {qs:List Rat} {k:Nat}:fuL qs (k+1)=fuL qs k++[((k:Int),qs.getD k 0)]:=by unfold fuL;rw[gR,bA];rfl
theorem bSe {qs:List Rat} {i k:Nat} (h:i<k):(fuL qs k).getD i U6=((i:Int),qs.getD i 0):=by unfold fuL;simp[h]
theorem aUh {qs:List Rat}:∀k,Asc (fuL qs k)
 |0=> .nil
 |k+1=>by
  rw[aOq]
  refine eR.2 ⟨aUh k,eK _ _,λa ha b hb=>?_⟩
  rw[aE.1 hb]
  obtain⟨i,hi,rfl⟩:=bZ.1 ha
  have:=cJ.1 hi
  show(i:Int)<(k:Int)
  omega
theorem bCz {qs:List Rat} {n:Nat}:∀k,k<=n->nzL (fuL qs n) k=fdF qs k
 |0,_=>rfl
 |k+1,h=>by
  unfold nzL fdF
  rw[bSe h,bCz k oM]
theorem bDa {qs:List Rat} {k B:Nat} (h:rbL qs B) (hk:k<=qs.length):rbE (fuL qs k) B:=λe he=>by
 obtain⟨i,hi,rfl⟩:=bZ.1 he
 exact h _ (gD0 (by have:=cJ.1 hi;omega))
abbrev fdG (x:Sl RatM) (k n:Nat):List (Nat×DV):=[(4,.c (iC k)),(3,.c (.s 0 n)),(0,.c (dS x))]
abbrev fdB (ys:List EntM):BL:=[(75,4,ecs ys)]
theorem bDb {ys:List EntM}:scB 1 (fdB ys):=aA (nT _) aU
theorem bXe (x:Sl RatM) {qs:List Rat} {B:Nat} (h:Rl x.l qs) (hb:rbL qs B) (h1:1<=B) (hB:B<=4398046511104) (hn:qs.length<=4096):Ctr pgQ 121 [] [.c (dS x)] [] (λg:Sl EntM=>⟨.c (cF g),[],Ek g.l (fdF qs qs.length)⟩):=by
 have hl:=h.ln
 refine cw func121 ((vW 3 75 4 U bL ?_))
 refine bX (λ_=>true) (λu:Nat×List EntM=>fdG x u.1 u.2.length) (λu=>fdB u.2) (λ_=>[]) (λu=>u.1<=qs.length/\Ek u.2 (fuL qs u.1)) (λu=>qs.length-u.1) λhM=>⟨hM (0,[]) ⟨aB _,U,λk hk=>U4 hk (aF _)⟩ U U trivial ⟨U,U,U⟩ bL bDb U,λ⟨k,ys⟩ ⟨hk,hy⟩=>vk ⟨λh2=>vk ?_,λh2=>vk ?_⟩⟩
 all_goals
  replace hk:k<=qs.length:=hk
  replace hy:Ek ys (fuL qs k):=hy
  have ly:ys.length=k:=hy.ln.trans aLc
 ·have hkl:k<qs.length:=by replace h2:(k:Int)<(x.l.length:Nat):=h2;omega
  refine⟨k,⟨U,show k<x.l.length by omega⟩,⟨U,by show ys.length*4=(ecs ys).length;rw[iA],by show ys.length+1<=maxLen;simp only[maxLen];omega,by show(ys.length+1)*64<=_;omega,λc hc=>?_⟩,mT ⟨k,x.l.getD k U6⟩,(k+1:Nat),wi,hM (k+1,ys++[⟨k,x.l.getD k U6⟩]) ⟨⟨hkl,?_⟩,show qs.length-(k+1)<qs.length-k by omega⟩ U (by show(75,4,ecs ys++(⟨k,x.l.getD k U6⟩:EntM).C)=_;rw[qV]) trivial ⟨U,?_,U⟩ bL bDb U⟩
  ·exact(aO.1 hc).elim (λh=>bJ (iB ys c h)) (mT ⟨k,x.l.getD k U6⟩ c)
  ·show Ek _ (fuL qs (k+1))
   rw[aOq]
   exact wK hy (h.e k hkl)
  show ys.length+1=(ys++[(⟨k,x.l.getD k U6⟩:EntM)]).length
  simp
 replace h2:¬(k:Int)<(x.l.length:Nat):=h2
 obtain rfl:k=qs.length:=Uc
 refine vk ⟨some (λj=>(ys.getD j U6).C),⟨⟨aB _,by decide⟩,(iA ys).symm,λj hj=>sP ys j hj,iB ys⟩,λA c _ _=>⟨[],bCy ⟨A,c,ys⟩ (hy.ev (bDa hb (aH _))) (aUh _) (bDa hb (aH _)) h1 hB (by rw[aLc];exact hn),U,U,U,λg hg=>⟨g,?_,aI U U tV⟩⟩⟩
 replace hg:Ek g.l (nzL (fuL qs qs.length) (fuL qs qs.length).length):=hg
 rw[aLc,bCz _ (aH _)] at hg
 exact hg
abbrev dnG (x:Sl EntM) (n k:Nat):List (Nat×DV):=[(7,.c (iC k)),(0,.c (cF x)),(1,.c (iC n)),(6,.c (.s 0 n))]
abbrev dnB (G:Nat->RatM) (n k:Nat):BL:=[(53,3,flatR n (aCs G k))]
theorem bDc {G:Nat->RatM} {n k:Nat}:scB 1 (dnB G n k):=aA (aX.2 λc hc=>sM (bJq c hc)) aU
theorem bXf (x:Sl EntM) (n:Nat) {es:List En} {B:Nat} (h:Ev x.l es B) (hb:rbE es B) (h1:1<=B) (hB:B<=4398046511104) (hv:VOk es n) (hn:n<=4096) (he:es.length<=4096):Ctr pgQ 163 [true] [.c (cF x),.c (iC n)] [] (λG:Nat->RatM=>⟨.t [.c (.s 0 n),pC True],[(53,3,flatR n λj=>(G j).C)],∀k,k<n->Cr (G k) (Vm.get es (k:Nat))⟩):=by
 have hz:aHi es:=λe he=>(hv.2 e he).2.2
 have hl:=h.ln
 refine gA gT (eo func163) func163 U U U bL (λi T es l hi=>by cases hi) (vk ⟨λh2=>?_,λ_=>⟨[],bCy x h hv.1 hb h1 hB he,U,U,U,λy hy=>?_⟩⟩)
 ·replace h2:(n:Int)<0\/(16384:Int)<(n:Nat):=h2
  omega
 replace hy:Ek y.l (nzL es es.length):=hy
 rw[bSc hz] at hy
 have tk:∀k,Asc (es.take k):=λk=>hv.1.sublist (iT k es)
 refine⟨[],bSa y n (hy.ev hb) hv oM oM,U,U,U,λ_ _=>⟨λh2=>U4 trivial h2,λ_=>vk ⟨n,⟨U,U,by show 56*_<=_;omega,by simp only[maxLen];omega⟩,?_⟩⟩⟩
 refine bX (λ_=>true) (λg:Nat×(Nat->RatM)=>dnG x n g.1) (λg=>dnB g.2 n g.1) (λ_=>[]) (λg=>g.1<=n/\∀k,k<g.1->Cr (g.2 k) (Vm.get es (k:Nat))) (λg=>n-g.1) λhM=>⟨hM (0,λ_=>U6) ⟨aB _,λk hk=>U4 hk (aF _)⟩ U ?_ trivial rS bL bDc U,λ⟨i,G⟩ ⟨hi,hG⟩=>vk ⟨λh4=>vk ?_,λh4=>vk ?_⟩⟩
 ·show(_,_,_)=(_,_,_)
  congr 2
  show(List.replicate n vG).flatten=_
  rw[<-aKy]
  exact mZ λj _=>(U2 (aF _)).symm
 all_goals
  replace hi:i<=n:=hi
  replace hG:∀k,k<i->Cr (G k) (Vm.get es (k:Nat)):=hG
 ·have hin:i<n:=by replace h4:(i:Int)<(n:Nat):=h4;omega
  have hlen:i*3<(flatR n (aCs G i)).length:=bCl (λj=>aOn j) hin
  have put:∀g:RatM,mJ (flatR n (aCs G i)) (i*3) g.C=flatR n (aCs (aXh G i g) (i+1))/\i*3+g.C.length<=(flatR n (aCs G i)).length:=λg=>aUc (λj=>aOn j) hin U λj _=>bJp j
  exact⟨[],aGm x i h hv.1 hb h1 hB he,U,U,U,λg hg=>⟨i,⟨U,hin,hlen⟩,_,put _,(i+1:Nat),wi,hM (i+1,aXh G i g) ⟨⟨hin,λk hk=>by
   show Cr (aXh G i g k) _
   unfold aXh
   by_cases hki:k=i
   ·subst hki;rw[U3 U];exact hg
   rw[U2 hki];exact hG k (by have:k<i+1:=hk;omega)⟩,show n-(i+1)<n-i by omega⟩ U U trivial rS bL bDc U⟩⟩
 replace h4:¬(i:Int)<(n:Nat):=h4
 obtain rfl:i=n:=Uc
 exact vk ⟨G,hG,fH ⟨U,tt tV⟩ (U5 (λl:List CV=>((53,3,l):TypeId×Nat×List CV)) bCn) bL (aA (bG (aAh (λj=>gF (G j)) _)) aU) U (eW (aX.2 (aAh (λj=>gF (G j)) _)))⟩
abbrev mB (m:MatM):BL:=[(78,0,m.C)]
theorem bNk {m:MatM}:scB 1 (mB m):=aA U aU
abbrev xvG (k:Nat):List (Nat×DV):=[(3,.c (iC k)),(1,.c (.p 0 0))]
set_option maxRecDepth 8000 in
theorem bSf (m:MatM) {M:Nat->List En} {B:Nat} (h:Mg m M B) (hB:B<=13194139533312) (hn:m.d.l.length<=4611686018427387904) (hr:∀i,i<m.d.l.length->(M i).length<=4611686018427387904):Ctr pgQ 166 [] [.a m.C] [] (λ_:Unit=>⟨pC (MOk m M),[],True⟩):=by
 refine cw func166 (⟨λh2=>?_,λh2=>vk ?_⟩)
 ·replace h2:(((m.r<0\/16384<m.r)\/m.c<0)\/16384<m.c)\/((m.d.l.length:Nat):Int)≠m.r:=h2
  exact vk ⟨(),tV,aI (ff λ⟨h3,h4,h5,_⟩=>by omega) U tV⟩
 replace h2:¬((((m.r<0\/16384<m.r)\/m.c<0)\/16384<m.c)\/((m.d.l.length:Nat):Int)≠m.r):=h2
 have hl:m.r=(m.d.l.length:Nat):=Uc
 refine bX (λ_=>true) xvG (λ_=>mB m) (λ_=>[]) (λk=>k<=m.d.l.length/\∀i,i<k->VOk (M i) m.c) (λk=>m.d.l.length-k) λhM=>⟨hM 0 ⟨aB _,λi hi=>U4 hi (aF _)⟩ U U trivial ⟨U,U⟩ bL bNk U,λk ⟨hk,hv⟩=>vk ⟨λh1=>vk ?_,λh1=>vk (vk ?_)⟩⟩
 all_goals
  replace hk:k<=m.d.l.length:=hk
  replace hv:∀i,i<k->VOk (M i) m.c:=hv
 rotate_left
 ·replace h1:¬(k:Int)<m.r:=h1
  exact⟨(),tV,aI (tt ⟨⟨Uc,Uc⟩,⟨Uc,Uc⟩,hl.symm,λi hi=>hv i oM⟩) U tV⟩
 have hkn:k<m.d.l.length:=by replace h1:(k:Int)<m.r:=h1;omega
 have hrow:=h k hkn
 refine⟨.seq (sq 99 (List.range 9)),U0,k,⟨U,hkn⟩,[],aRi (m.d.l.getD k cG) m.c hrow hB (hr k hkn),U,U,U,λ_ _=>⟨λh=>vk ?_,λh=>vk ⟨(k+1:Nat),wi,hM (k+1) ⟨⟨hkn,λi hi=>?_⟩,show m.d.l.length-(k+1)<m.d.l.length-k by omega⟩ U U trivial ⟨U,U⟩ bL bNk U⟩⟩⟩
 ·exact⟨(),tV,aI (ff λh5=>h (h5.2.2.2 k hkn)) U tV⟩
 rcases bR (cB hi) with h5|rfl
 ·exact hv i h5
 exact cR.1 h
theorem bSg (m:MatM) {M:Nat->List En} {a b B:Nat} (h:Mr m M a b B) (hB:B<=13194139533312) (ha:a<=4096) (hb:b<=4096):Ctr pgQ 166 [] [.a m.C] [] (λ_:Unit=>⟨pC True,[],True⟩):=
 bCv (bSf m h.mg hB (by rw[h.ln];omega) λi hi=>by have:=(h.ok i (by have:=h.ln;omega)).2;omega) (h.mok ha hb)
def yC (d:Sl (Sl RatM)):CV:=d.R 1 (λrow=>[dS row]) cG
structure Rr (d:Sl (Sl RatM)) (Q:Nat->List Rat) (r n:Nat):Prop where
 ln:d.l.length=r
 row:∀i,i<r->Rl (d.l.getD i cG).l (Q i)/\(Q i).length=n
theorem aCx {n:Nat} {P:Nat->CV}:eA (n+1) P=eA n P++[P n]:=by unfold eA;rw[gR,bA];rfl
abbrev mkG (d:Sl (Sl RatM)) (n k:Nat):List (Nat×DV):=[(6,.c (iC k)),(0,.c (yC d)),(5,.c (.p 1 0)),(4,.c (.p 0 0))]
abbrev mkB (r n k:Nat) (S:Nat->Sl EntM):BL:=[(78,0,[iC 0,iC 0,.v (.slice none 0 0)]),(78,0,[iC r,iC n,.s 2 k]),(57,1,eA k λj=>cF (S j))]
theorem bDd {r n k:Nat} {S:Nat->Sl EntM}:scB 3 (mkB r n k S):=aA U (aA U (aA (bG (bD λ_ _=>U)) aU))
def oMk:Ord:=.treeX [] [2000,1,2002,2003,2004,5] (trS [6,7,1008,2009,1010])
theorem bDe (d:Sl (Sl RatM)) {Q:Nat->List Rat} {r n B:Nat} (h:Rr d Q r n) (hb:∀i,i<r->rbL (Q i) B) (h1:1<=B) (hB:B<=4398046511104) (hr:r<=4096) (hn:n<=4096):Ctr pgQ 77 [] [.c (yC d),.c (iC n)] [] (λg:MatM=>⟨.a g.C,[],Mk g (λi=>fdF (Q i) n) r n⟩):=by
 have hl:=h.ln
 obtain⟨dA,dc,dl⟩:=d
 replace hl:dl.length=r:=hl
 subst hl
 refine cw func77 (?_)
 show Sd _ _ _ _ _ _
 refine bMx tSd 1 2 57 1 U U bL U ?_
 refine bX (λ_=>true) (λu:Nat×(Nat->Sl EntM)=>mkG ⟨dA,dc,dl⟩ n u.1) (λu=>mkB dl.length n u.1 u.2) (λ_=>[]) (λu=>u.1<=dl.length/\∀j,j<u.1->Ek (u.2 j).l (fdF (Q j) n)) (λu=>dl.length-u.1) λhM=>⟨hM (0,λ_=>cG) ⟨aB _,λj hj=>U4 hj (aF _)⟩ U ⟨U,U,U⟩ U1 rS bL bDd U,λ⟨k,S⟩ ⟨hk,hS⟩=>vk ⟨λh2=>vk ?_,λh2=>?_⟩⟩
 all_goals
  replace hk:k<=dl.length:=hk
  replace hS:∀j,j<k->Ek (S j).l (fdF (Q j) n):=hS
 ·have hkn:k<dl.length:=by replace h2:(k:Int)<(dl.length:Nat):=h2;omega
  refine⟨oMk,U0,k,⟨U,hkn⟩,[],bXe (dl.getD k cG) (h.row k hkn).1 (hb k hkn) h1 hB (by rw[(h.row k hkn).2];exact hn),U,U,U,λg hg=>⟨U,U,?_⟩⟩
  replace hg:Ek g.l (fdF (Q k) (Q k).length):=hg
  rw[(h.row k hkn).2] at hg
  have mg:∀{i:Nat},∀c∈[cF g],kS i c=false:=λc hc=>by rw[aE.1 hc];rfl
  have hc2:eA k (λj=>cF (S j))++[cF g]=eA (k+1) λj=>cF (upd S k g j):=by
   rw[aCx,gM (Q:=λj=>cF (upd S k g j)) λj hj=>by rw[aY oM]]
   simp only[bF]
  exact⟨⟨U,by show k*1=(eA k λj=>cF (S j)).length;rw[dD,bE],by show k+1<=maxLen;simp only[maxLen];omega,by show(k+1)*24<=_;omega,λc hc=>(aO.1 hc).elim (λh=>bJ (bD (λ_ _=>U) c h)) (mg c)⟩,mg,(k+1:Nat),wi,hM (k+1,upd S k g) ⟨⟨hkn,λj hj=>by
   show Ek (upd S k g j).l _
   by_cases hjk:j=k
   ·subst hjk;rw[bF];exact hg
   rw[aY hjk];exact hS j (by have:j<k+1:=hj;omega)⟩,show dl.length-(k+1)<dl.length-k by omega⟩ U ⟨U,U,U5 (λl:List CV=>((57,1,l):TypeId×Nat×List CV)) hc2⟩ U1 rS bL bDd U⟩
 replace h2:¬(k:Int)<(dl.length:Nat):=h2
 obtain rfl:k=dl.length:=Uc
 refine vk ?_
 show Sd _ _ _ _ _ _
 refine kT tSd 2 U bL (bD λ_ _=>U) bL U λA2 c2=>?_
 refine jQ tSd 1 0 [iC dl.length,iC n,mU ⟨A2.map λb=>⟨b,0,none⟩,c2,lK S dl.length⟩] U U U U (wM (k0:=2) U wN) (vk ⟨⟨dl.length,n,⟨A2.map λb=>⟨b,0,none⟩,c2,lK S dl.length⟩⟩,⟨U,U,oB,λj hj=>?_,λj hj=>aCv _⟩,aI U U tV⟩)
 show Ek ((lK S dl.length).getD j cG).l _
 rw[qX hj]
 exact hS j hj
abbrev hdR (A:Nat->Option Nat) (cap:Nat->Nat) (R:Nat->List RatM):Nat->CV:=λj=> .h (A j) (R j).length (cap j)
abbrev elF (n:Nat) (A:Nat->Option Nat) (cap:Nat->Nat) (R:Nat->List RatM):Fam:=⟨53,3,n,A,cap,λj=>fl RatM.C U6 (R j)⟩
abbrev elB (m:MatM) (n:Nat) (H:List CV):BL:=[(78,0,m.C),(42,1,H)]
theorem aRl {m:MatM} {n:Nat} {P:Nat->CV} (h:∀j,j<n->fS (P j)=true):scB 2 (elB m n (eA n P)):=aA U (aA (bG (bD h)) aU)
theorem bJu {G:Nat->RatM} {n:Nat}:flatR n (λj=>(G j).C)=fl RatM.C U6 (fZ G n):=by
 unfold fl
 rw[jS]
 exact mZ λj hj=>by rw[nC hj]
theorem bSh {G:Nat->RatM} {n:Nat} {es:List En} (h:∀k,k<n->Cr (G k) (Vm.get es (k:Nat))):Rl (fZ G n) (dnL es n):=bJr h
theorem bJv {A:Nat->Option Nat} {cap:Nat->Nat} {R:Nat->List RatM} {G:Nat->RatM} {n b k:Nat} {Aa:Option Nat} {aa:Nat}:(eA n λj=>if j=k then .s 2 b else hdR A cap R j).map (qC 2 Aa aa)=eA n (hdR (upd A k Aa) (upd cap k aa) (upd R k (fZ G b))):=by
 unfold eA
 rw[lH]
 refine dR λj _=>?_
 show qC 2 Aa aa (if j=k then .s 2 b else hdR A cap R j)=_
 by_cases h:j=k
 ·subst h;simp only[if_true,hdR,bF,jS];rfl
 simp only[U2 h,hdR,aY h];rfl
theorem bSi {T n k:Nat} {A:Nat->Option Nat} {cap:Nat->Nat} {R:Nat->List RatM} {G:Nat->RatM} {b:Nat}:(⟨T,3,n,A,cap,upd (λj=>fl RatM.C U6 (R j)) k (flatR b λj=>(G j).C)⟩:Fam)=⟨T,3,n,A,cap,λi=>fl RatM.C U6 (upd R k (fZ G b) i)⟩:=by
 congr 1
 funext i
 by_cases h:i=k
 ·subst h;rw[bF,bF,bJu]
 rw[aY h,aY h]
abbrev elG (n k:Nat):List (Nat×DV):=[(4,.c (iC k)),(1,.c (.p 0 0)),(3,.c (.s 1 n))]
def oEl:Ord:=.treeX [] [2000,2001,2002,3,2004,2005,6,2007,8] (trS [9,2010,2011,2012,2013,1014])
theorem bNl (m:MatM) {M:Nat->List En} {a b B:Nat} (h:Mr m M a b B) (hb:rbM M a B) (h1:1<=B) (hB:B<=4398046511104) (ha:a<=4096) (hbn:b<=4096):CtrF pgQ 118 [false,true] [.a m.C] [] [] (λg:(Nat->Option Nat)×(Nat->Nat)×(Nat->List RatM)=>⟨.c (.s 1 a),elB m a (eA a (hdR g.1 g.2.1 g.2.2)),[elF a g.1 g.2.1 g.2.2],∀i,i<a->Rl (g.2.2 i) (dnL (M i) b)⟩):=by
 obtain⟨mr,mc,md⟩:=m
 obtain rfl:mr=(a:Nat):=h.r
 obtain rfl:mc=(b:Nat):=h.c
 have hl:md.l.length=a:=h.ln
 refine oP gT (eo func118) func118 U U U bL (λi T es l hi=>by cases hi) (vk ⟨a,⟨U,U,by show 24*a<=_;omega,by simp only[maxLen];omega⟩,?_⟩)
 show Sd _ _ _ _ _ _
 refine aXd tSd 53 3 a bL (gJ tSd (l:=List.replicate a (.v (.slice none 0 0))) 1 (eA a (hdR (λ_=>none) (λ_=>0) λ_=>[])) U (by rw[dD,cU]) (λk c c' h1 h2=>?_) ?_)
 ·have hk:k<a:=by have:=eH h1;simpa using this
  have h3:=eD (P:=hdR (λ_=>none) (λ_=>0) λ_=>[]) hk
  rw[bE,h2] at h3
  injection h3 with h3
  rw[h3,(gO.1 (aR h1)).2]
  exact LeC.nilh
 refine bX (λ_=>true) (λg:Nat×(Nat->Option Nat)×(Nat->Nat)×(Nat->List RatM)=>elG a g.1) (λg=>elB ⟨a,b,md⟩ a (eA a (hdR g.2.1 g.2.2.1 g.2.2.2))) (λg=>[elF a g.2.1 g.2.2.1 g.2.2.2]) (λg=>g.1<=a/\(∀j,j<g.1->Rl (g.2.2.2 j) (dnL (M j) b))/\∀j,g.1<=j->g.2.1 j=none) (λg=>a-g.1) λhM=>⟨hM (0,λ_=>none,λ_=>0,λ_=>[]) ⟨aB _,λj hj=>U4 hj (aF _),λ_ _=>U⟩ U ⟨U,U⟩ ⟨U,tV⟩ ⟨U,U,U⟩ bL (aRl λ_ _=>U) U,λ⟨k,A,cap,R⟩ ⟨hk,hR,hA⟩=>vk ⟨λh2=>vk ?_,λh2=>?_⟩⟩
 all_goals
  replace hk:k<=a:=hk
  replace hR:∀j,j<k->Rl (R j) (dnL (M j) b):=hR
  replace hA:∀j,k<=j->A j=none:=hA
 ·have hkn:k<a:=by replace h2:(k:Int)<(a:Nat):=h2;omega
  have hok:=h.ok k hkn
  refine⟨oEl,U0,k,⟨U,show k<md.l.length by omega⟩,[],bXf (md.l.getD k cG) b (h.row k hkn) (hb k hkn) h1 hB hok.1 hbn (by have:=hok.2;omega),U,U,U,λG hG=>⟨U,k,⟨U,hkn,cS hkn⟩,_,gX (c:=.s 2 b) (Q:=λj=>if j=k then .s 2 b else hdR A cap R j) hkn λj _=>U,(k+1:Nat),wi,kT tGt 2 U bL (aAh (λj=>gF (G j)) b) bL U λAa aa=>⟨_,bJv (G:=G),bQy tGt 0 1 k U U U hkn (hA k (aH _)) bL U U (hM (k+1,upd A k Aa,upd cap k aa,upd R k (fZ G b)) ⟨⟨hkn,λj hj=>?_,λj hj=>?_⟩,show a-(k+1)<a-k by omega⟩ U ⟨U,U⟩ ⟨bSi,tV⟩ ⟨U,U,U⟩ bL (aRl λ_ _=>U) U)⟩⟩⟩
  ·show Rl (upd R k (fZ G b) j) _
   by_cases hjk:j=k
   ·subst hjk;rw[bF];exact bSh hG
   rw[aY hjk];exact hR j (by have:j<k+1:=hj;omega)
  have hj':k+1<=j:=hj
  exact(aY oM).trans (hA j oM)
 replace h2:¬(k:Int)<(a:Nat):=h2
 obtain rfl:k=a:=Uc
 refine vk ?_
 exact vk ⟨(A,cap,R),hR,kU U ⟨U,U⟩ ⟨U,tV⟩ bL (aRl λ_ _=>U) U (bNf (bD λ_ _=>U))⟩
def rwS (A:Nat->Option Nat) (cap:Nat->Nat) (R:Nat->List RatM) (j:Nat):Sl RatM:=⟨(A j).map λb=>⟨b,0,none⟩,cap j,R j⟩
theorem bDf {n:Nat} {A:Nat->Option Nat} {cap:Nat->Nat} {R:Nat->List RatM} (j:Nat) (hj:j<n):FrC (elF n A cap R) (hdR A cap R j) (dS (rwS A cap R j)):=⟨j,(R j).length,_,hj,U,U,(aAi (f:=RatM.C) (d:=U6) (L:=R j) (e:=3) λ_=>U).symm,λk hk=>bCr (f:=RatM.C) (d:=U6) (L:=R j) (e:=3) (λ_=>U) k hk⟩
def sQ {I:Type} (S:Nat->I) (n:Nat):List I:=(List.range n).map S
theorem yD {I:Type} {S:Nat->I} {n j:Nat} {d:I} (h:j<n):(sQ S n).getD j d=S j:=by unfold sQ;simp[h]
theorem zK {I:Type} {S:Nat->I} {n:Nat}:(sQ S n).length=n:=by unfold sQ;simp
theorem aLd {n:Nat} {S:Nat->Sl RatM} (j:Nat) (hj:j<n):[dS ((sQ S n).getD j cG)]=((eA n λj=>dS (S j)).drop (j*1)).take 1:=by
 rw[yD hj]
 have h1:=eD (P:=λj=>dS (S j)) hj
 rw[bE] at h1 ⊢
 rw[dK (by rw[dD];exact hj)]
 rw[aG (by rw[dD];exact hj)] at h1
 injection h1 with h1
 rw[h1];rfl
theorem aLe {A:Option Addr} {c n:Nat} {S:Nat->Sl RatM}:CV.r A n c 1 (λj=>[dS ((sQ S n).getD j cG)])=yC ⟨A,c,sQ S n⟩:=by
 unfold yC Sl.R
 rw[zK]
theorem bSj (m:MatM) {M:Nat->List En} {n b B:Nat} (h:Mr m M n b B) (hb:rbM M n B) (h1:1<=B) (hB:B<=4398046511104) (hn:n<=4096) (hbn:b<=4096):Ctr pgQ 118 [false,true] [.a m.C] [] (λg:Sl (Sl RatM)=>⟨.c (yC g),[],Rr g (λi=>dnL (M i) b) n b⟩):=by
 refine CtrF.gt (bNl m h hb h1 hB hn hbn) λ⟨A,cap,R⟩ hC _=>?_
 refine jQ tGt 1 0 (eA n λj=>dS (rwS A cap R j)) U U U (by rw[dD,dD]) (aCt bDf) ?_
 refine aOe tGt 0 1 (λj=>[dS ((sQ (rwS A cap R) n).getD j cG)]) U U aLd (by rw[dD,bE]) bL (bD λ_ _=>U) bL λA2 c2 _ _=>?_
 refine iP (M:=λ_=>true) (base:=[]) (chg:=λg':Sl (Sl RatM)=>[(0,.c (yC g'))]) (bls:=λ_=>[]) (fls:=λ_=>[]) (λt d ht=>by cases ht) (⟨A2,c2,sQ (rwS A cap R) n⟩:Sl (Sl RatM)) ⟨⟨zK,λi hi=>?_⟩,λi T es l h=>by cases h⟩ U trivial trivial ?_ (aH _) (λi T es l hi=>by cases hi) U
 ·rw[yD hi]
  exact⟨hC i hi,sA⟩
 exact aLe
theorem Mk.congr {m:MatM} {M M':Nat->List En} {n b:Nat} (h:Mk m M n b) (he:∀i,i<n->M i=M' i):Mk m M' n b:=⟨h.r,h.c,h.ln,λi hi=>by rw[<-he i hi];exact h.row i hi,λi hi=>by rw[<-he i hi];exact h.ok i hi⟩
theorem bXg:rb (0:Rat) 1:=⟨by decide,by decide⟩
theorem aUi {I:Type} {f:I->List CV} {d:I} {L:List I} {e k:Nat} {x:I} (h:∀x,(f x).length=e) (hk:k<L.length):mJ (fl f d L) (k*e) (f x)=fl f d (L.set k x)/\k*e+(f x).length<=(fl f d L).length:=by
 refine⟨?_,by rw[aAi h,h,<-dH];exact aT _ hk⟩
 unfold fl
 rw[aKx (h x) (λ_ _=>h _) hk,cC]
 refine mZ λj hj=>?_
 by_cases e:j=k
 ·subst e;simp[hk]
 rw[U2 e];simp[List.getD,nW (gU e)]
set_option maxRecDepth 20000
structure El where
 R:Nat->Sl EntM
 LA:Nat->Option Nat
 Lc:Nat->Nat
 L:Nat->List EntM
 CA:Nat->Option Nat
 Cc:Nat->Nat
 U8:Nat->List CV
abbrev mpC (CA:Nat->Option Nat):Nat->CV:=λj=> .v (.map (CA j))
abbrev kW (l:List CV):List Nat:=l.map oI
abbrev elE (i1 i2 i3 i4 n a:Nat):TypeId×Nat×List CV:=(181,0,[.s i1 n,.s i2 n,.s i3 n,.s i4 a])
abbrev elR (n:Nat) (x:El):TypeId×Nat×List CV:=(57,1,eA n λj=>cF (x.R j))
abbrev elL (n:Nat) (x:El):TypeId×Nat×List CV:=(57,1,eA n (hdP x.LA x.Lc x.L))
abbrev elC (n:Nat) (x:El):TypeId×Nat×List CV:=(203,1,eA n (mpC x.CA))
abbrev elA (A:List Int):TypeId×Nat×List CV:=(3,1,A.map iC)
abbrev LF (n:Nat) (x:El):Fam:=⟨75,4,n,x.LA,x.Lc,λj=>ecs (x.L j)⟩
abbrev CF (n:Nat) (x:El):Fam:=⟨1000000,1,n,x.CA,x.Cc,x.U8⟩
structure ElOk (x:El) (n:Nat) (es lw:Nat->List En) (used:Nat->Prop):Prop where
 row:∀i,i<n->Ek (x.R i).l (es i)
 ok:∀i,i<n->VOk (es i) (n:Nat)/\(es i).length<=n
 low:∀i,i<n->Ek (x.L i) (lw i)
 ca:∀j,j<n->∃b,x.CA j=some b
 nd:∀j,j<n->(kW (x.U8 j)).Nodup
 mem:∀j,j<n->∀i,i∈kW (x.U8 j)↔(i<n/\¬used i)/\Vm.get (es i) (j:Nat)≠0
theorem rpm {φ:CV->CV} {n:Nat} {c:CV} (h:∀c,fS c=true->φ c=c) (hc:fS c=true):(List.replicate n c).map φ=List.replicate n c:=by rw[List.map_replicate,h c hc]
theorem rF {n:Nat} {c:CV} (hc:fS c=true):∀x∈List.replicate n c,fS x=true:=λx hx=>by rw[(gO.1 hx).2];exact hc
theorem aUj {l:List CV} {c n i:Nat}:i∈kW (xS l c n).1↔i=n\/i∈kW l:=by
 unfold xS
 split
 ·next h=>exact⟨.inr,λh'=>h'.elim (λe=>e▸h) id⟩
 unfold kW
 rw[bA,aO]
 show i∈_\/i∈[n]↔_
 rw[aE]
 exact Or.comm
theorem bDg {l:List CV} {c n:Nat} (h:(kW l).Nodup):(kW (xS l c n).1).Nodup:=by
 unfold xS
 split
 ·exact h
 next hn=>
 unfold kW
 rw[bA,lI]
 refine⟨h,by simp,λa ha b hb he=>?_⟩
 have hb':b=n:=aE.1 (show b∈[n] from hb)
 exact hn (by rw[<-hb',<-he];exact ha)
theorem aOr {l:List CV} {n:Nat}:kW (aDx l n)=(kW l).filter λi=>!Nat.beq i n:=by
 unfold kW aDx
 rw[List.filter_map]
 rfl
theorem bJw {l:List CV} {n i:Nat}:i∈kW (aDx l n)↔i∈kW l/\i≠n:=by
 rw[aOr,rJ]
 refine and_congr_right λ_=>?_
 cases h:Nat.beq i n with
 |true=>have:=aM h;simp[this]
 |false=>have:=pA h;simp[this]
theorem bSk {l:List CV} {n:Nat} (h:(kW l).Nodup):(kW (aDx l n)).Nodup:=by
 rw[aOr];exact h.filter _
def aL (n j:Nat):List Int:=(List.range n).map λi=>if i<j then (i:Int) else 0
theorem aGn {n j:Nat}:(aL n j).map iC=eA n λi=>iC (if i<j then (i:Int) else 0):=by unfold aL eA;rw[lH];rfl
theorem bXh {n j k:Nat} (h:j<n):j*1<((aL n k).map iC).length:=by rw[aGn];exact cS h
theorem bSl {n j:Nat} (h:j<n):mJ ((aL n j).map iC) (j*1) [iC (j:Int)]=(aL n (j+1)).map iC/\j*1+1<=((aL n j).map iC).length:=by
 rw[aGn,aGn]
 exact gX h λi _=>by
  by_cases e:i=j
  ·subst e;rw[U3 U,U3 (aS _)]
  rw[U2 e]
  by_cases e2:i<j
  ·rw[U3 e2,U3 oM]
  rw[U2 e2,U2 oM]
theorem bDh {n:Nat}:aL n n=(List.range n).map λi:Nat=>(i:Int):=dR λi hi=>U3 (cJ.1 hi)
theorem uM {n:Nat} {c:CV} {P:Nat->CV} (h:∀j,j<n->LeC c (P j)) (k:Nat) (c1 c2:CV) (h1:(List.replicate n c)[k]? =some c1) (h2:(eA n P)[k]? =some c2):LeC c1 c2:=by
 have hk:k<n:=by have:=eH h1;simpa using this
 have h3:=eD (P:=P) hk
 rw[bE,h2] at h3
 injection h3 with h3
 rw[h3,(gO.1 (aR h1)).2]
 exact h k hk
abbrev stX (R:Nat->Sl EntM) (CA:Nat->Option Nat) (Cc:Nat->Nat) (U8:Nat->List CV):El:=⟨R,λ_=>none,λ_=>0,λ_=>[],CA,Cc,U8⟩
abbrev stB (m:MatM) (n:Nat) (x:El) (A:List Int):BL:=[(78,0,m.C),elR n x,elL n x,elC n x,elA A,elE 1 2 3 4 n n]
theorem aAj {m:MatM} {n:Nat} {x:El} {A:List Int}:scB 6 (stB m n x A):=aA U (aA (bG (bD λ_ _=>U)) (aA (bG (bD λ_ _=>U)) (aA (bG (bD λ_ _=>U)) (aA (bG (aW _)) (aA U aU)))))
theorem gG {c:Bool} {cl:List Bool} {T:TypeId} {es:Nat} {l:List CV} {bl:BL} (h:c=true->∀x∈l,fS x=true) (hr:ClB cl bl):ClB (c::cl) ((T,es,l)::bl):=λi T' es' l' hi hc=>by
 cases i with
 |zero=>
  injection hi with hi
  injection hi with _ hi
  injection hi with _ hi
  subst hi
  injection hc with hc
  exact h hc
 |succ i=>exact hr i T' es' l' hi hc
theorem bJx {m:MatM}:∀c∈m.C,fS c=true:=λc hc=>by
 rcases bW.1 hc with rfl|hc
 ·rfl
 rcases bW.1 hc with rfl|hc
 ·rfl
 rw[aE.1 hc];rfl
theorem bSm {m:MatM} {n:Nat} {x:El} {A:List Int}:ClB [true,true,true,true,true,false] (stB m n x A):=gG (λ_=>bJx) (gG (λ_=>bD λ_ _=>U) (gG (λ_=>bD λ_ _=>U) (gG (λ_=>bD λ_ _=>U) (gG (λ_=>aW _) (gG (λh=>by cases h) aDy)))))
theorem bDi {I:Type} {f:Nat->I} {j:Nat} {x:I} (h:f j=x):upd f j x=f:=funext λi=>by
 by_cases e:i=j
 ·subst e;rw[bF,h]
 rw[aY e]
def KI (M:Nat->List En) (n i k:Nat) (U8:Nat->List CV):Prop:=∀j,j<n->(kW (U8 j)).Nodup/\∀r,r∈kW (U8 j)↔(r<i/\Vm.get (M r) (j:Nat)≠0)\/(r=i/\∃e∈(M i).take k,e.1=(j:Nat))
theorem uN {es:List En} {n:Int} (h:VOk es n) (j:Int):Vm.get es j≠0↔∃e∈es,e.1=j:=by
 constructor
 ·intro hne
  refine aN λhh=>hne (get_none λe he h2=>hh ⟨e,he,h2⟩)
 rintro⟨e,he,rfl⟩
 rw[rZ h.1 he]
 exact(h.2 e he).2.2
theorem KI.next {M:Nat->List En} {n i k j0:Nat} {U8:Nat->List CV} {c:Nat} (h:KI M n i k U8) (hk:k<(M i).length) (hj:((M i).getD k U6).1=(j0:Nat)):KI M n i (k+1) (upd U8 j0 (xS (U8 j0) c i).1):=λj hjn=>by
 have e1:(M i).take (k+1)=(M i).take k++[(M i).getD k U6]:=by rw[dF,aG hk,gd hk];rfl
 obtain⟨h1,h2⟩:=h j hjn
 rw[e1]
 by_cases e:j=j0
 ·subst e
  rw[bF]
  refine⟨bDg h1,λr=>?_⟩
  rw[aUj,h2 r]
  constructor
  ·rintro(rfl|h3|⟨h3,e,he,h4⟩)
   ·exact .inr ⟨U,_,dU _ (.head _),hj⟩
   ·exact .inl h3
   exact .inr ⟨h3,e,cX _ he,h4⟩
  rintro(h3|⟨h3,_⟩)
  ·exact .inr (.inl h3)
  exact .inl h3
 rw[aY e]
 refine⟨h1,λr=>?_⟩
 rw[h2 r]
 refine or_congr_right (and_congr_right λ_=>⟨λ⟨e',he,h4⟩=>⟨e',cX _ he,h4⟩,λ⟨e',he,h4⟩=>?_⟩)
 rcases aO.1 he with he|he
 ·exact⟨e',he,h4⟩
 rw[aE.1 he,hj] at h4;exact U4 (jY h4).symm e
theorem KI.row {M:Nat->List En} {n i:Nat} {U8:Nat->List CV} (h:KI M n i (M i).length U8) (hv:VOk (M i) (n:Nat)):KI M n (i+1) 0 U8:=λj hj=>by
 obtain⟨h1,h2⟩:=h j hj
 refine⟨h1,λr=>?_⟩
 rw[h2 r,cQ]
 constructor
 ·rintro(⟨h3,h4⟩|⟨rfl,h4⟩)
  ·exact .inl ⟨Uc,h4⟩
  exact .inl ⟨Uc,(uN hv _).2 h4⟩
 rintro(⟨h3,h4⟩|⟨_,e,he,_⟩)
 ·by_cases e:r=i
  ·subst e;exact .inr ⟨U,(uN hv _).1 h4⟩
  exact .inl ⟨Uc,h4⟩
 cases he
abbrev st1 (n j:Nat):List (Nat×DV):=[(25,.c (iC j)),(3,.c (.p 5 0)),(1,.c (.p 0 0)),(24,.c (iC n))]
abbrev st2 (m:MatM) (i:Nat):List (Nat×DV):=[(46,.c (iC i)),(3,.c (.p 5 0)),(1,.c (.p 0 0)),(44,.c (mU m.d)),(45,.c (iC (m.d.l.length:Nat)))]
abbrev st3 (m:MatM) (i k:Nat):List (Nat×DV):=(61,.c (iC k))::(5,.c (iC i))::(59,.c (cF (m.d.l.getD i cG)))::(60,.c (iC ((m.d.l.getD i cG).l.length:Nat)))::st2 m i
def bXi:Ord:=.treeX [] [2000,2001,2002,3,2004,2005] (trS [6,2007,1008])
def bXj:Ord:=.treeX [] [2000,2001,2002,3,2004,5,2006,1007,2008] (trS [1009])
def oSt:Ord:=.joinX [] [2000,1,2003,4,2006,7,2009,10] (.alt 2 (.alt 5 (.alt 8 (.alt 11 (trS [2012,1013,2014]) .nil) (.alt 11 (.alt 8 (trS [2012,1013,2014]) .nil) .nil)) (.alt 8 (.alt 5 (.alt 11 (trS [2012,1013,2014]) .nil) (.alt 11 (.alt 5 (trS [2012,1013,2014]) .nil) .nil)) (.alt 11 (.alt 5 (.alt 8 (trS [2012,1013,2014]) .nil) (.alt 8 (.alt 5 (trS [2012,1013,2014]) .nil) .nil)) .nil))) (.alt 5 (.alt 2 (.alt 8 (.alt 11 (trS [2012,1013,2014]) .nil) (.alt 11 (.alt 8 (trS [2012,1013,2014]) .nil) .nil)) (.alt 8 (.alt 2 (.alt 11 (trS [2012,1013,2014]) .nil) (.alt 11 (.alt 2 (trS [2012,1013,2014]) .nil) .nil)) (.alt 11 (.alt 2 (.alt 8 (trS [2012,1013,2014]) .nil) (.alt 8 (.alt 2 (trS [2012,1013,2014]) .nil) .nil)) .nil))) (.alt 8 (.alt 2 (.alt 5 (.alt 11 (trS [2012,1013,2014]) .nil) (.alt 11 (.alt 5 (trS [2012,1013,2014]) .nil) .nil)) (.alt 5 (.alt 2 (.alt 11 (trS [2012,1013,2014]) .nil) (.alt 11 (.alt 2 (trS [2012,1013,2014]) .nil) .nil)) (.alt 11 (.alt 2 (.alt 5 (trS [2012,1013,2014]) .nil) (.alt 5 (.alt 2 (trS [2012,1013,2014]) .nil) .nil)) .nil))) (.alt 11 (.alt 2 (.alt 5 (.alt 8 (trS [2012,1013,2014]) .nil) (.alt 8 (.alt 5 (trS [2012,1013,2014]) .nil) .nil)) (.alt 5 (.alt 2 (.alt 8 (trS [2012,1013,2014]) .nil) (.alt 8 (.alt 2 (trS [2012,1013,2014]) .nil) .nil)) (.alt 8 (.alt 2 (.alt 5 (trS [2012,1013,2014]) .nil) (.alt 5 (.alt 2 (trS [2012,1013,2014]) .nil) .nil)) .nil))) .nil))))
theorem bJy (m:MatM) {M:Nat->List En} {n B:Nat} (h:Mr m M n n B) (hb:rbM M n B) (h1:1<=B) (hB:B<=4398046511104) (hn:n<=4096):CtrF pgQ 149 [true,true,true,true,true,false] [.a m.C] [] [] (λx:El=>⟨.c (.p 5 0),[(78,0,m.C),elR n x,elL n x,elC n x,elA (aL n n),elE 1 2 3 4 n n],[LF n x,CF n x],ElOk x n M (λ_=>[]) (λ_=>False)⟩):=by
 obtain⟨mr,mc,md⟩:=m
 obtain rfl:mr=(n:Nat):=h.r
 obtain rfl:mc=(n:Nat):=h.c
 have hl:md.l.length=n:=h.ln
 have mk1:n<=maxLen:=by simp only[maxLen];omega
 have nilc:fS (.v (.slice none 0 0))=true:=rfl
 refine oP gT (eo func149) func149 U U U bL (λi T es l hi=>by cases hi) (vk ?_)
 have fin1:∀(sl:List (Nat×DV)),wZ (λ_=>true) [] [] [] sl->AllC sl [(3,.c (.p 5 0)),(1,.c (.p 0 0))]->Gt 0 ⟨sl,[],[(78,0,(⟨n,n,md⟩:MatM).C),(57,1,List.replicate n (.v (.slice none 0 0))),(57,1,List.replicate n (.v (.slice none 0 0))),(203,1,List.replicate n (.v (.map none))),(3,1,List.replicate n (iC 0)),elE 1 2 3 4 n n],[]⟩ (σ:=Unit) (λ_=>⟨[(3,.c (.p 5 0)),(1,.c (.p 0 0))]++[],[],[(78,0,(⟨n,n,md⟩:MatM).C),(57,1,List.replicate n (.v (.slice none 0 0))),(57,1,List.replicate n (.v (.slice none 0 0))),(203,1,List.replicate n (.v (.map none))),(3,1,List.replicate n (iC 0)),elE 1 2 3 4 n n],[]⟩) (λ_=>True):=λsl ht ha=>by
  refine @iP 0 _ (λ_=>true) [] (λt d ht=>by cases ht) Unit (λ_=>[(3,.c (.p 5 0)),(1,.c (.p 0 0))]) (λ_=>[(78,0,(⟨n,n,md⟩:MatM).C),(57,1,List.replicate n (.v (.slice none 0 0))),(57,1,List.replicate n (.v (.slice none 0 0))),(203,1,List.replicate n (.v (.map none))),(3,1,List.replicate n (iC 0)),elE 1 2 3 4 n n]) (λ_=>[]) _ () trivial ht ?_ trivial ha (aB _) ?_ rfl
  ·exact rS
  exact aA U (aA (bG (rF U)) (aA (bG (rF U)) (aA (bG (rF U)) (aA (bG (rF U)) (aA U aU)))))
 refine⟨oSt,U0,Unit,λ_=>⟨[(3,.c (.p 5 0)),(1,.c (.p 0 0))]++[],[],[(78,0,(⟨n,n,md⟩:MatM).C),(57,1,List.replicate n (.v (.slice none 0 0))),(57,1,List.replicate n (.v (.slice none 0 0))),(203,1,List.replicate n (.v (.map none))),(3,1,List.replicate n (iC 0)),elE 1 2 3 4 n n],[]⟩,λ_=>True,?_,λ_ _=>?_⟩
 ·exact⟨⟨n,⟨U,U,by show 24*n<=_;omega,mk1⟩,U,⟨⟨n,⟨U,U,by show 24*n<=_;omega,mk1⟩,U,⟨⟨n,⟨U,U,by show 8*n<=_;omega,mk1⟩,U,⟨n,⟨U,U,by show 8*n<=_;omega,mk1⟩,U,fin1 _ (by rfl) (by exact⟨U,U⟩)⟩⟩,⟨n,⟨U,U,by show 8*n<=_;omega,mk1⟩,U,⟨n,⟨U,U,by show 8*n<=_;omega,mk1⟩,U,gsw 3 4 U U bL bL U ⟨_,rpm aP U,_,rpm aP U,_,rpm aP U,_,rpm aP U,bL,fin1 _ (by rfl) (by exact⟨U,U⟩)⟩⟩⟩⟩⟩,⟨n,⟨U,U,by show 8*n<=_;omega,mk1⟩,U,⟨⟨n,⟨U,U,by show 24*n<=_;omega,mk1⟩,U,⟨n,⟨U,U,by show 8*n<=_;omega,mk1⟩,U,gsw 2 3 U U bL bL U ⟨_,rpm aP U,_,rpm aP U,_,rpm aP U,_,rpm aP U,bL,fin1 _ (by rfl) (by exact⟨U,U⟩)⟩⟩⟩,⟨n,⟨U,U,by show 8*n<=_;omega,mk1⟩,U,⟨n,⟨U,U,by show 24*n<=_;omega,mk1⟩,U,gsw 2 4 U U bL bL U ⟨_,rpm aP U,_,rpm aP U,_,rpm aP U,_,rpm aP U,bL,gsw 3 4 U U bL bL U ⟨_,rpm aP U,_,rpm aP U,_,rpm aP U,_,rpm aP U,bL,fin1 _ (by rfl) (by exact⟨U,U⟩)⟩⟩⟩⟩⟩⟩,⟨n,⟨U,U,by show 8*n<=_;omega,mk1⟩,U,⟨⟨n,⟨U,U,by show 24*n<=_;omega,mk1⟩,U,⟨n,⟨U,U,by show 8*n<=_;omega,mk1⟩,U,gsw 2 3 U U bL bL U ⟨_,rpm aP U,_,rpm aP U,_,rpm aP U,_,rpm aP U,bL,gsw 3 4 U U bL bL U ⟨_,rpm aP U,_,rpm aP U,_,rpm aP U,_,rpm aP U,bL,fin1 _ (by rfl) (by exact⟨U,U⟩)⟩⟩⟩⟩,⟨n,⟨U,U,by show 8*n<=_;omega,mk1⟩,U,⟨n,⟨U,U,by show 24*n<=_;omega,mk1⟩,U,gsw 2 4 U U bL bL U ⟨_,rpm aP U,_,rpm aP U,_,rpm aP U,_,rpm aP U,bL,fin1 _ (by rfl) (by exact⟨U,U⟩)⟩⟩⟩⟩⟩⟩⟩,⟨n,⟨U,U,by show 24*n<=_;omega,mk1⟩,U,⟨⟨n,⟨U,U,by show 24*n<=_;omega,mk1⟩,U,⟨⟨n,⟨U,U,by show 8*n<=_;omega,mk1⟩,U,⟨n,⟨U,U,by show 8*n<=_;omega,mk1⟩,U,gsw 1 2 U U bL bL U ⟨_,rpm aP U,_,rpm aP U,_,rpm aP U,_,rpm aP U,bL,fin1 _ (by rfl) (by exact⟨U,U⟩)⟩⟩⟩,⟨n,⟨U,U,by show 8*n<=_;omega,mk1⟩,U,⟨n,⟨U,U,by show 8*n<=_;omega,mk1⟩,U,gsw 1 2 U U bL bL U ⟨_,rpm aP U,_,rpm aP U,_,rpm aP U,_,rpm aP U,bL,gsw 3 4 U U bL bL U ⟨_,rpm aP U,_,rpm aP U,_,rpm aP U,_,rpm aP U,bL,fin1 _ (by rfl) (by exact⟨U,U⟩)⟩⟩⟩⟩⟩⟩,⟨n,⟨U,U,by show 8*n<=_;omega,mk1⟩,U,⟨⟨n,⟨U,U,by show 24*n<=_;omega,mk1⟩,U,⟨n,⟨U,U,by show 8*n<=_;omega,mk1⟩,U,gsw 1 3 U U bL bL U ⟨_,rpm aP U,_,rpm aP U,_,rpm aP U,_,rpm aP U,bL,gsw 2 3 U U bL bL U ⟨_,rpm aP U,_,rpm aP U,_,rpm aP U,_,rpm aP U,bL,fin1 _ (by rfl) (by exact⟨U,U⟩)⟩⟩⟩⟩,⟨n,⟨U,U,by show 8*n<=_;omega,mk1⟩,U,⟨n,⟨U,U,by show 24*n<=_;omega,mk1⟩,U,gsw 1 4 U U bL bL U ⟨_,rpm aP U,_,rpm aP U,_,rpm aP U,_,rpm aP U,bL,gsw 2 4 U U bL bL U ⟨_,rpm aP U,_,rpm aP U,_,rpm aP U,_,rpm aP U,bL,gsw 3 4 U U bL bL U ⟨_,rpm aP U,_,rpm aP U,_,rpm aP U,_,rpm aP U,bL,fin1 _ (by rfl) (by exact⟨U,U⟩)⟩⟩⟩⟩⟩⟩⟩,⟨n,⟨U,U,by show 8*n<=_;omega,mk1⟩,U,⟨⟨n,⟨U,U,by show 24*n<=_;omega,mk1⟩,U,⟨n,⟨U,U,by show 8*n<=_;omega,mk1⟩,U,gsw 1 3 U U bL bL U ⟨_,rpm aP U,_,rpm aP U,_,rpm aP U,_,rpm aP U,bL,gsw 2 3 U U bL bL U ⟨_,rpm aP U,_,rpm aP U,_,rpm aP U,_,rpm aP U,bL,gsw 3 4 U U bL bL U ⟨_,rpm aP U,_,rpm aP U,_,rpm aP U,_,rpm aP U,bL,fin1 _ (by rfl) (by exact⟨U,U⟩)⟩⟩⟩⟩⟩,⟨n,⟨U,U,by show 8*n<=_;omega,mk1⟩,U,⟨n,⟨U,U,by show 24*n<=_;omega,mk1⟩,U,gsw 1 4 U U bL bL U ⟨_,rpm aP U,_,rpm aP U,_,rpm aP U,_,rpm aP U,bL,gsw 2 4 U U bL bL U ⟨_,rpm aP U,_,rpm aP U,_,rpm aP U,_,rpm aP U,bL,fin1 _ (by rfl) (by exact⟨U,U⟩)⟩⟩⟩⟩⟩⟩⟩⟩,⟨n,⟨U,U,by show 8*n<=_;omega,mk1⟩,U,⟨⟨n,⟨U,U,by show 24*n<=_;omega,mk1⟩,U,⟨⟨n,⟨U,U,by show 24*n<=_;omega,mk1⟩,U,⟨n,⟨U,U,by show 8*n<=_;omega,mk1⟩,U,gsw 1 2 U U bL bL U ⟨_,rpm aP U,_,rpm aP U,_,rpm aP U,_,rpm aP U,bL,gsw 2 3 U U bL bL U ⟨_,rpm aP U,_,rpm aP U,_,rpm aP U,_,rpm aP U,bL,fin1 _ (by rfl) (by exact⟨U,U⟩)⟩⟩⟩⟩,⟨n,⟨U,U,by show 8*n<=_;omega,mk1⟩,U,⟨n,⟨U,U,by show 24*n<=_;omega,mk1⟩,U,gsw 1 2 U U bL bL U ⟨_,rpm aP U,_,rpm aP U,_,rpm aP U,_,rpm aP U,bL,gsw 2 4 U U bL bL U ⟨_,rpm aP U,_,rpm aP U,_,rpm aP U,_,rpm aP U,bL,gsw 3 4 U U bL bL U ⟨_,rpm aP U,_,rpm aP U,_,rpm aP U,_,rpm aP U,bL,fin1 _ (by rfl) (by exact⟨U,U⟩)⟩⟩⟩⟩⟩⟩⟩,⟨n,⟨U,U,by show 24*n<=_;omega,mk1⟩,U,⟨⟨n,⟨U,U,by show 24*n<=_;omega,mk1⟩,U,⟨n,⟨U,U,by show 8*n<=_;omega,mk1⟩,U,gsw 1 3 U U bL bL U ⟨_,rpm aP U,_,rpm aP U,_,rpm aP U,_,rpm aP U,bL,fin1 _ (by rfl) (by exact⟨U,U⟩)⟩⟩⟩,⟨n,⟨U,U,by show 8*n<=_;omega,mk1⟩,U,⟨n,⟨U,U,by show 24*n<=_;omega,mk1⟩,U,gsw 1 4 U U bL bL U ⟨_,rpm aP U,_,rpm aP U,_,rpm aP U,_,rpm aP U,bL,gsw 3 4 U U bL bL U ⟨_,rpm aP U,_,rpm aP U,_,rpm aP U,_,rpm aP U,bL,fin1 _ (by rfl) (by exact⟨U,U⟩)⟩⟩⟩⟩⟩⟩,⟨n,⟨U,U,by show 8*n<=_;omega,mk1⟩,U,⟨⟨n,⟨U,U,by show 24*n<=_;omega,mk1⟩,U,⟨n,⟨U,U,by show 24*n<=_;omega,mk1⟩,U,gsw 1 3 U U bL bL U ⟨_,rpm aP U,_,rpm aP U,_,rpm aP U,_,rpm aP U,bL,gsw 2 4 U U bL bL U ⟨_,rpm aP U,_,rpm aP U,_,rpm aP U,_,rpm aP U,bL,fin1 _ (by rfl) (by exact⟨U,U⟩)⟩⟩⟩⟩,⟨n,⟨U,U,by show 24*n<=_;omega,mk1⟩,U,⟨n,⟨U,U,by show 24*n<=_;omega,mk1⟩,U,gsw 1 4 U U bL bL U ⟨_,rpm aP U,_,rpm aP U,_,rpm aP U,_,rpm aP U,bL,gsw 2 3 U U bL bL U ⟨_,rpm aP U,_,rpm aP U,_,rpm aP U,_,rpm aP U,bL,gsw 3 4 U U bL bL U ⟨_,rpm aP U,_,rpm aP U,_,rpm aP U,_,rpm aP U,bL,fin1 _ (by rfl) (by exact⟨U,U⟩)⟩⟩⟩⟩⟩⟩⟩⟩⟩,⟨n,⟨U,U,by show 8*n<=_;omega,mk1⟩,U,⟨⟨n,⟨U,U,by show 24*n<=_;omega,mk1⟩,U,⟨⟨n,⟨U,U,by show 24*n<=_;omega,mk1⟩,U,⟨n,⟨U,U,by show 8*n<=_;omega,mk1⟩,U,gsw 1 2 U U bL bL U ⟨_,rpm aP U,_,rpm aP U,_,rpm aP U,_,rpm aP U,bL,gsw 2 3 U U bL bL U ⟨_,rpm aP U,_,rpm aP U,_,rpm aP U,_,rpm aP U,bL,gsw 3 4 U U bL bL U ⟨_,rpm aP U,_,rpm aP U,_,rpm aP U,_,rpm aP U,bL,fin1 _ (by rfl) (by exact⟨U,U⟩)⟩⟩⟩⟩⟩,⟨n,⟨U,U,by show 8*n<=_;omega,mk1⟩,U,⟨n,⟨U,U,by show 24*n<=_;omega,mk1⟩,U,gsw 1 2 U U bL bL U ⟨_,rpm aP U,_,rpm aP U,_,rpm aP U,_,rpm aP U,bL,gsw 2 4 U U bL bL U ⟨_,rpm aP U,_,rpm aP U,_,rpm aP U,_,rpm aP U,bL,fin1 _ (by rfl) (by exact⟨U,U⟩)⟩⟩⟩⟩⟩⟩,⟨n,⟨U,U,by show 24*n<=_;omega,mk1⟩,U,⟨⟨n,⟨U,U,by show 24*n<=_;omega,mk1⟩,U,⟨n,⟨U,U,by show 8*n<=_;omega,mk1⟩,U,gsw 1 3 U U bL bL U ⟨_,rpm aP U,_,rpm aP U,_,rpm aP U,_,rpm aP U,bL,gsw 3 4 U U bL bL U ⟨_,rpm aP U,_,rpm aP U,_,rpm aP U,_,rpm aP U,bL,fin1 _ (by rfl) (by exact⟨U,U⟩)⟩⟩⟩⟩,⟨n,⟨U,U,by show 8*n<=_;omega,mk1⟩,U,⟨n,⟨U,U,by show 24*n<=_;omega,mk1⟩,U,gsw 1 4 U U bL bL U ⟨_,rpm aP U,_,rpm aP U,_,rpm aP U,_,rpm aP U,bL,fin1 _ (by rfl) (by exact⟨U,U⟩)⟩⟩⟩⟩⟩,⟨n,⟨U,U,by show 8*n<=_;omega,mk1⟩,U,⟨⟨n,⟨U,U,by show 24*n<=_;omega,mk1⟩,U,⟨n,⟨U,U,by show 24*n<=_;omega,mk1⟩,U,gsw 1 3 U U bL bL U ⟨_,rpm aP U,_,rpm aP U,_,rpm aP U,_,rpm aP U,bL,gsw 2 4 U U bL bL U ⟨_,rpm aP U,_,rpm aP U,_,rpm aP U,_,rpm aP U,bL,gsw 3 4 U U bL bL U ⟨_,rpm aP U,_,rpm aP U,_,rpm aP U,_,rpm aP U,bL,fin1 _ (by rfl) (by exact⟨U,U⟩)⟩⟩⟩⟩⟩,⟨n,⟨U,U,by show 24*n<=_;omega,mk1⟩,U,⟨n,⟨U,U,by show 24*n<=_;omega,mk1⟩,U,gsw 1 4 U U bL bL U ⟨_,rpm aP U,_,rpm aP U,_,rpm aP U,_,rpm aP U,bL,gsw 2 3 U U bL bL U ⟨_,rpm aP U,_,rpm aP U,_,rpm aP U,_,rpm aP U,bL,fin1 _ (by rfl) (by exact⟨U,U⟩)⟩⟩⟩⟩⟩⟩⟩⟩⟩
 show Sd _ _ _ _ _ _
 refine gJ tSd 1 (eA n λ_=>cF cG) U (by rw[dD,cU]) (uM λ_ _=>qW) ?_
 refine gJ tSd 2 (eA n (hdP (λ_=>none) (λ_=>0) λ_=>[])) U (by rw[dD,cU]) (uM λ_ _=>LeC.nilh) ?_
 refine gJ tSd 3 (eA n (mpC λ_=>none)) U (by rw[dD,cU]) (uM λ_ _=>fE _) ?_
 refine gJ tSd 4 ((aL n 0).map iC) U (by rw[aGn,dD,cU]) (by rw[aGn];exact uM λ_ _=>fE _) ?_
 refine aXd tSd 75 4 n bL (aXd tSd 1000000 1 n bL ?_)
 refine bX (λ_=>true) (λg:Nat×(Nat->Option Nat)=>st1 n g.1) (λg=>stB ⟨n,n,md⟩ n (stX (λ_=>cG) g.2 (λ_=>0) λ_=>[]) (aL n g.1)) (λg=>[LF n (stX (λ_=>cG) g.2 (λ_=>0) λ_=>[]),CF n (stX (λ_=>cG) g.2 (λ_=>0) λ_=>[])]) (λg=>g.1<=n/\(∀i,i<g.1->∃b,g.2 i=some b)/\∀i,g.1<=i->g.2 i=none) (λg=>n-g.1) λhM=>⟨hM (0,λ_=>none) ⟨aB _,λi hi=>U4 hi (aF _),λ_ _=>U⟩ U rS ⟨U,U,tV⟩ rS bL aAj U,λ⟨j,CA⟩ ⟨hj,hA,hN⟩=>vk ⟨λh2=>vk ?_,λh2=>vk ?_⟩⟩
 all_goals
  replace hj:j<=n:=hj
  replace hA:∀i,i<j->∃b,CA i=some b:=hA
  replace hN:∀i,j<=i->CA i=none:=hN
 ·have hjn:j<n:=by replace h2:(j:Int)<(n:Nat):=h2;omega
  refine λb=>⟨j,⟨U,hjn,cS hjn⟩,_,gX (c:=.v (.map (some b))) (Q:=mpC (upd CA j (some b))) hjn λi _=>?_,?_⟩
  ·by_cases e:i=j
   ·subst e;rw[U3 U];show _=CV.v (.map _);rw[bF]
   rw[U2 e];show _=CV.v (.map _);rw[aY e]
  refine⟨j,⟨U,hjn,bXh hjn⟩,_,bSl hjn,(j+1:Nat),wi,bQy tGt 1 2 j U U U hjn (hN j (aH _)) bL U U (hM (j+1,upd CA j (some b)) ⟨⟨hjn,λi hi=>?_,λi hi=>?_⟩,show n-(j+1)<n-j by omega⟩ U rS ⟨U,?_,tV⟩ rS bL aAj U)⟩
  ·show ∃b',upd CA j (some b) i=some b'
   by_cases e:i=j
   ·subst e;exact⟨b,bF⟩
   rw[aY e];exact hA i (by have:i<j+1:=hi;omega)
  ·show upd CA j (some b) i=none
   have hi':j+1<=i:=hi
   rw[aY oM];exact hN i oM
  show(⟨1000000,1,n,upd CA j (some b),upd (λ_=>0) j 0,upd (λ_=>[]) j []⟩:Fam)=_
  rw[bDi (f:=λ_=>(0:Nat)) U,bDi (f:=λ_=>([]:List CV)) U]
 replace h2:¬(j:Int)<(n:Nat):=h2
 obtain rfl:j=n:=Uc
 refine vk ?_
 show Sd _ _ _ _ _ _
 refine bX (λ_=>true) (λg:Nat×(Nat->Sl EntM)×(Nat->Nat)×(Nat->List CV)=>st2 ⟨j,j,md⟩ g.1) (λg=>stB ⟨j,j,md⟩ j (stX g.2.1 CA g.2.2.1 g.2.2.2) (aL j j)) (λg=>[LF j (stX g.2.1 CA g.2.2.1 g.2.2.2),CF j (stX g.2.1 CA g.2.2.1 g.2.2.2)]) (λg=>g.1<=j/\(∀i,i<g.1->Ek (g.2.1 i).l (M i))/\KI M j g.1 0 g.2.2.2) (λg=>j-g.1) λhM2=>⟨hM2 (0,λ_=>cG,λ_=>0,λ_=>[]) ⟨aB _,λi hi=>U4 hi (aF _),λi hi=>⟨tD,λr=>⟨λhr=>U4 hr dI,λhr=>by
  rcases hr with ⟨hr,_⟩|⟨_,e,he,_⟩
  ·exact U4 hr (aF _)
  cases he⟩⟩⟩ U rS ⟨U,U,tV⟩ rS bL aAj U,λ⟨i,R,Cc,U8⟩ ⟨hi,hR,hI⟩=>vk ⟨λh3=>vk ?_,λh3=>vk ?_⟩⟩
 all_goals
  replace hi:i<=j:=hi
  replace hR:∀k,k<i->Ek (R k).l (M k):=hR
  replace hI:KI M j i 0 U8:=hI
 ·replace h3:(i:Int)<(md.l.length:Nat):=h3
  have hin:i<j:=Uc
  have hes:=h.row i hin
  have hok:=h.ok i hin
  have hle:(md.l.getD i cG).l.length=(M i).length:=hes.ln
  refine⟨i,⟨U,show i<md.l.length by omega⟩,bXi,U0,[],bJo (md.l.getD i cG) hes (hb i hin) h1 hB hok.1.1 (λe he=>(hok.1.2 e he).2.2) oM,U,U,U,λg hg=>⟨U,i,⟨U,hin,cS hin⟩,_,gX (c:=cF g) (Q:=λk=>cF (upd R i g k)) hin (λk _=>?_),?_⟩⟩
  ·by_cases e:k=i
   ·subst e;rw[U3 U,bF]
   rw[U2 e,aY e]
  show Sd _ _ _ _ _ _
  refine bX (λ_=>true) (λg':Nat×(Nat->Nat)×(Nat->List CV)=>st3 ⟨j,j,md⟩ i g'.1) (λg'=>stB ⟨j,j,md⟩ j (stX (upd R i g) CA g'.2.1 g'.2.2) (aL j j)) (λg'=>[LF j (stX (upd R i g) CA g'.2.1 g'.2.2),CF j (stX (upd R i g) CA g'.2.1 g'.2.2)]) (λg'=>g'.1<=(M i).length/\KI M j i g'.1 g'.2.2) (λg'=>(M i).length-g'.1) λhM3=>⟨hM3 (0,Cc,U8) ⟨aB _,hI⟩ U rS ⟨U,U,tV⟩ rS bL aAj U,λ⟨k,Cc,U8⟩ ⟨hk,hI⟩=>vk ⟨λh4=>vk ?_,λh4=>vk ?_⟩⟩
  all_goals
   replace hk:k<=(M i).length:=hk
   replace hI:KI M j i k U8:=hI
  ·replace h4:(k:Int)<((md.l.getD i cG).l.length:Nat):=h4
   have hkl:k<(M i).length:=Uc
   have he:=hes.e k hkl
   have e0:=hok.1.2 _ (fN hkl)
   obtain⟨j0,hj0⟩:∃j0:Nat,((M i).getD k U6).1=(j0:Nat):=⟨((M i).getD k U6).1.toNat,Uc⟩
   have hjn:j0<j:=Uc
   have hix:((md.l.getD i cG).l.getD k U6).ix=(j0:Nat):=he.1.trans hj0
   obtain⟨b,hbj⟩:=hA j0 hjn
   have hcell:(eA j (mpC CA))[j0*1]? =some (.v (.map (some b))):=by rw[eD hjn];exact U5 (λo=>some (CV.v (.map o))) hbj
   refine⟨k,⟨U,show k<(md.l.getD i cG).l.length by omega⟩,bXj,U0,j0,⟨hix,hjn,cS hjn⟩,_,_,⟨hcell,U⟩,1,j0,i,⟨hjn,hbj,U⟩,(k+1:Nat),wi,?_⟩
   exact hM3 (k+1,upd Cc j0 (xS (U8 j0) (Cc j0) i).2,upd U8 j0 (xS (U8 j0) (Cc j0) i).1) ⟨⟨hkl,hI.next hkl hj0⟩,show(M i).length-(k+1)<(M i).length-k by omega⟩ U rS ⟨U,U,tV⟩ rS bL aAj U
  replace h4:¬(k:Int)<((md.l.getD i cG).l.length:Nat):=h4
  obtain rfl:k=(M i).length:=Uc
  refine⟨(i+1:Nat),wi,hM2 (i+1,upd R i g,Cc,U8) ⟨⟨hin,λk' hk'=>?_,hI.row hok.1⟩,show j-(i+1)<j-i by omega⟩ U rS ⟨U,U,tV⟩ rS bL aAj U⟩
  show Ek (upd R i g k').l (M k')
  by_cases e:k'=i
  ·subst e;rw[bF];exact hg
  rw[aY e];exact hR k' (by have:k'<i+1:=hk';omega)
 replace h3:¬(i:Int)<(md.l.length:Nat):=h3
 obtain rfl:i=j:=Uc
 refine vk ?_
 exact⟨stX R CA Cc U8,⟨hR,h.ok,λ_ _=>⟨U,λk hk=>U4 hk (aF _)⟩,hA,λc hc=>(hI c hc).1,λc hc r=>by
  rw[(hI c hc).2 r]
  refine⟨λhr=>?_,λ⟨⟨a,_⟩,b⟩=> .inl ⟨a,b⟩⟩
  rcases hr with ⟨a,b⟩|⟨_,e,he,_⟩
  ·exact⟨⟨a,id⟩,b⟩
  cases he⟩,kU U rS ⟨U,U,tV⟩ bL aAj U bSm⟩
theorem bXk {P:Program} {nb N:Nat} {c:Code} {K:Kt} {s:SS} (id:Nat) {σ:Type} (S:σ->SS) (C:σ->Prop) (h:Sd P nb N c ⟨K.nrm,λj s'=>bif Nat.beq j id then Gt nb s' S C else K.ext j s',K.ret⟩ s) (hr:∀g,C g->K.ext id (S g)):Sd P nb N c K s:=λρ0 w0 D f w Q hL hD=>by
 refine h ρ0 w0 D f w Q ⟨hL.nrm,λj s' ρ' f' w' hh hD'=>?_,hL.ret⟩ hD
 cases hb:Nat.beq j id with
 |false=>simp only[hb,cond_false] at hh;exact hL.ext j s' ρ' f' w' hh hD'
 |true=>
  simp only[hb,cond_true] at hh
  obtain⟨g,ρ2,h1,h2⟩:=hh ρ0 w0 ρ' f' w' hD'
  have e:=aM hb
  subst e
  exact hL.ext j _ ρ2 f' w' (hr g h1) h2
theorem bDj {A:List Int} {k:Nat} (h:k<A.length):(A.map iC)[k*1]? =some (iC (A.getD k 0)):=by rw[bE,dQ,aG h,gd h];rfl
theorem bDk {A:List Int} {k:Nat} (h:k<A.length):k*1<(A.map iC).length:=by simpa using h
theorem aBt {n c b:Nat} {CA:Nat->Option Nat} (hc:c<n) (hb:CA c=some b):(eA n (mpC CA))[c*1]? =some (.v (.map (some b))):=by rw[eD hc];exact U5 (λo=>some (CV.v (.map o))) hb
abbrev cnB (n a:Nat) (x:El) (A:List Int):BL:=[(174,0,[.p 1 0]),elE 2 3 4 5 n a,elR n x,elL n x,elC n x,elA A]
theorem bSn {n a:Nat} {x:El} {A:List Int}:scB 6 (cnB n a x A):=aA U (aA U (aA (bG (bD λ_ _=>U)) (aA (bG (bD λ_ _=>U)) (aA (bG (bD λ_ _=>U)) (aA (bG (aW _)) aU)))))
abbrev cnL:List Bool:=[false,false,true,true,true,true]
theorem bDl {n a:Nat} {x:El} {A:List Int}:ClB cnL (cnB n a x A):=gG (λh=>by cases h) (gG (λh=>by cases h) (gG (λ_=>bD λ_ _=>U) (gG (λ_=>bD λ_ _=>U) (gG (λ_=>bD λ_ _=>U) (gG (λ_=>aW _) aDy)))))
theorem aEl (x:El) {n c b k:Nat} {A:List Int} (hk:k<A.length) (hA:A.getD k 0=(c:Nat)) (hc:c<n) (hb:x.CA c=some b):CtrF pgQ 191 cnL [.c (iC k),.c (.p 0 0)] (cnB n A.length x A) [CF n x] (λ_:Unit=>⟨.c (iC (x.U8 c).length),cnB n A.length x A,[CF n x],True⟩):=by
 refine oP gT (eo func191) func191 U U U bL bDl (vk ?_)
 refine⟨.seq (sq 99 (List.range 15)),U0,k,⟨U,hk,bDk hk⟩,_,bDj hk,c,⟨hA,hc,cS hc⟩,_,aBt hc hb,0,c,⟨hc,hb⟩,(),tV,kU U rS ⟨U,tV⟩ bL bSn U bDl⟩
abbrev chB (n a:Nat) (x:El) (A:List Int):BL:=[elE 1 2 3 4 n a,elR n x,elL n x,elC n x,elA A]
abbrev aRm (n a:Nat) (x:El) (A:List Int):BL:=[elE 1 2 3 4 n a,elR n x,elL n x,elC n x,elA A,(174,0,[.p 0 0])]
abbrev chL:List Bool:=[false,true,true,true,true]
theorem aGo {n a:Nat} {x:El} {A:List Int}:ClB chL (chB n a x A):=gG (λh=>by cases h) (gG (λ_=>bD λ_ _=>U) (gG (λ_=>bD λ_ _=>U) (gG (λ_=>bD λ_ _=>U) (gG (λ_=>aW _) aDy))))
theorem aRn {n a:Nat} {x:El} {A:List Int}:scB 5 (chB n a x A):=aA U (aA (bG (bD λ_ _=>U)) (aA (bG (bD λ_ _=>U)) (aA (bG (bD λ_ _=>U)) (aA (bG (aW _)) aU))))
theorem wO {n a:Nat} {x:El} {A:List Int}:scB 6 (aRm n a x A):=aA U (aA (bG (bD λ_ _=>U)) (aA (bG (bD λ_ _=>U)) (aA (bG (bD λ_ _=>U)) (aA (bG (aW _)) (aA U aU)))))
abbrev bDm (best:Nat):List (Nat×DV):=[(5,.c (iC best)),(6,.c (.f 191 [] [(5,0)])),(1,.c (.p 5 0))]
abbrev cBp (r0:Nat) (c:Nat) (ro:Int):List (Nat×DV):=[(2,.c (iC ro)),(66,.c (.hp r0 0)),(1,.c (.p 5 0)),(3,.c (iC c))]
abbrev itF (r0:Nat) (G:Nat->List CV):Fam:=⟨1000001,1,1,λ_=>some r0,λ_=>0,G⟩
def bXl:Ord:=.treeX [] [0,1,2002,2003,4,2005,2006,7,2008,2009,10,2011,2012,2013] (trS [14,2015,2016,1017])
theorem bSo {A:List Int} {p:Nat} (h:p<A.length):(A.map iC).take (p*1)++(A.map iC).drop ((p+1)*1)=(A.eraseIdx p).map iC:=by
 rw[bE,bE,qB,bA,uP,qM]
def chR (n:Nat) (x:El) (A:List Int):Option (Nat×Nat×Nat)->OutF
 |none=>⟨.t [.c (iC 0),.c (iC 0),.c (.v (.bool false))],chB n A.length x A,[CF n x],∃c:Nat,c<n/\(c:Int)∈A/\x.U8 c=[]⟩
 |some (r,c,p)=>⟨.t [.c (iC r),.c (iC c),.c (.v (.bool true))],chB n (A.length-1) x (A.eraseIdx p),[CF n x],(p<A.length/\A.getD p 0=(c:Nat))/\c<n/\r∈kW (x.U8 c)⟩
theorem bDn (x:El) {n:Nat} {A:List Int} {es lw:Nat->List En} {used:Nat->Prop} (h:ElOk x n es lw used) (h0:0<A.length) (hl:A.length<=4096) (hA:∀a∈A,0<=a/\a<(n:Nat)):CtrF pgQ 150 chL [.c (.p 0 0)] (chB n A.length x A) [CF n x] (chR n x A):=by
 have hin:∀k,k<A.length->∃c,A.getD k 0=(c:Nat)/\c<n/\∃b,x.CA c=some b:=λk hk=>by
  have hm:A.getD k 0∈A:=by rw[gd hk];exact kB hk
  have h2:=hA _ hm
  obtain⟨c,hc⟩:∃c:Nat,A.getD k 0=(c:Nat):=⟨(A.getD k 0).toNat,Uc⟩
  have hcn:c<n:=Uc
  exact⟨c,hc,hcn,h.ca c hcn⟩
 refine oP gT (eo func150) func150 U U U bL aGo (vk ?_)
 show Sd _ _ _ _ _ _
 refine bXk 0 (σ:=Nat) (λbest=>⟨bDm best++[],[],aRm n A.length x A,[CF n x]⟩) (λbest=>best<A.length) ?_ (λbest hb=>?_)
 ·refine bX (λ_=>true) (λg:Nat×Nat=>(15,.c (iC g.1))::(14,.c (iC (A.length:Nat)))::bDm g.2) (λ_=>aRm n A.length x A) (λ_=>[CF n x]) (λg=>g.1<=A.length/\g.2<A.length) (λg=>A.length-g.1) λhM=>⟨hM (0,0) ⟨aB _,h0⟩ U rS ⟨U,tV⟩ rS bL wO U,λ⟨k,best⟩ ⟨hk,hb⟩=>vk ⟨λh2=>vk ?_,λh2=>vk ?_⟩⟩
  all_goals
   replace hk:k<=A.length:=hk
   replace hb:best<A.length:=hb
  ·have hkl:k<A.length:=by replace h2:(k:Int)<(A.length:Nat):=h2;omega
   obtain⟨c,c1,c2,b,c3⟩:=hin k hkl
   obtain⟨d,d1,d2,e,d3⟩:=hin best hb
   refine⟨_,U,[5,0,1,2,3,4,1000],aEl x hkl c1 c2 c3,U,U,U,λ_ _=>⟨_,U,[5,0,1,2,3,4,1000],aEl x hb d1 d2 d3,U,U,U,λ_ _=>?_⟩⟩
   refine vjn (λ_=>true) (λb':Nat=>(15,.c (iC k))::(14,.c (iC (A.length:Nat)))::bDm b') (λ_=>aRm n A.length x A) (λb'=>b'<A.length) ?_
   refine⟨⟨λh3=>vk ⟨k,hkl,U,U,U,U,U,U,U⟩,λh3=>vk ⟨best,hb,U,U,U,U,U,U,U⟩⟩,λb' hb'=>?_⟩
   obtain⟨f,f1,f2,g,f3⟩:=hin b' hb'
   refine⟨_,U,[5,0,1,2,3,4,1000],aEl x hb' f1 f2 f3,U,U,U,λ_ _=>⟨λh4=>vk ?_,λh4=>vk ⟨(k+1:Nat),wi,?_⟩⟩⟩
   ·show Gt _ _ _ _
    exact iP (M:=λ_=>true) (base:=[]) (λt d ht=>by cases ht) (chg:=bDm) (bls:=λ_=>aRm n A.length x A) (fls:=λ_=>[CF n x]) b' hb' U rS ⟨U,tV⟩ ⟨U,U,U⟩ bL wO U
   exact hM (k+1,b') ⟨⟨hkl,hb'⟩,show A.length-(k+1)<A.length-k by omega⟩ U rS ⟨U,tV⟩ rS bL wO U
  show Gt _ _ _ _
  exact iP (M:=λ_=>true) (base:=[]) (λt d ht=>by cases ht) (chg:=bDm) (bls:=λ_=>aRm n A.length x A) (fls:=λ_=>[CF n x]) best hb U rS ⟨U,tV⟩ ⟨U,U,U⟩ bL wO U
 replace hb:best<A.length:=hb
 obtain⟨c,c1,c2,b,c3⟩:=hin best hb
 refine vk ⟨_,U,[5,0,1,2,3,4,1000],aEl x hb c1 c2 c3,U,U,U,λ_ _=>⟨λh5=>vk ⟨none,⟨c,c2,by rw[<-c1,gd hb];exact kB hb,iK.1 (by replace h5:((x.U8 c).length:Int)=0:=h5;omega)⟩,kU ⟨U,U,U⟩ rS ⟨U,tV⟩ bL aRn U aGo⟩,λh5=>vk ?_⟩⟩
 replace h5:¬((x.U8 c).length:Int)=0:=h5
 have w1:best*1<=(A.map iC).length:=by rw[aK];omega
 have w2:A.length*1<=(A.map iC).length:=by rw[aK];omega
 have w3:(best+1)*1+(A.length-(best+1))*1=(A.map iC).length:=by rw[aK];omega
 have w4:best*1+(A.length-(best+1))*1<=(A.map iC).length:=by rw[aK];omega
 have w5:0<(A.map iC).length:=by rw[aK];omega
 refine⟨best,⟨U,hb,bDk hb⟩,_,(bDj hb).trans (U5 (λz=>some (iC z)) c1),?_⟩
 refine⟨bXl,U0,best,⟨U,w1⟩,(best+1:Nat),wi,best+1,⟨U,hb,w2⟩,?_⟩
 refine⟨⟨w3,w4,w5⟩,U,?_⟩
 refine⟨c,⟨U,c2,cS c2⟩,_,aBt c2 c3,0,c,⟨c2,c3⟩,λr0=>?_⟩
 show Sd _ _ _ _ _ _
 have hne:x.U8 c≠[]:=λhe=>h5 (by rw[he];rfl)
 have ha1:best+(A.length-(best+1))=A.length-1:=Uc
 have kin:∀k∈x.U8 c,oI k<n:=λk hk=>((h.mem c c2 (oI k)).1 (bZ.2 ⟨k,hk,U⟩)).1.1
 refine bX (λ_=>true) (λg:Int×(Nat->List CV)×Nat×(Nat->List CV)=>cBp r0 c g.1) (λ_=>aRm n (A.length-1) x (A.eraseIdx best)) (λg=>[CF n x,itF r0 g.2.2.2]) (λg=>(g.2.1 1=x.U8 c/\g.2.2.1<=x.Cc c/\g.2.2.2 0=[.r none 0 b g.2.2.1 g.2.1]/\∀k∈g.2.1 0,k∈x.U8 c)/\(0<=g.1->∃r:Nat,g.1=(r:Nat)/\r∈kW (x.U8 c))/\(0<=g.1\/g.2.1 0=x.U8 c)) (λg=>(g.2.1 0).length) λhM2=>⟨hM2 (-1,aQr (x.U8 c),x.Cc c,λ_=>[.r none 0 b (x.Cc c) (aQr (x.U8 c))]) ⟨⟨U,aH _,U,λk hk=>hk⟩,λhh=>U4 (show(0:Int)<=-1 from hh) dC,.inr rfl⟩ U ⟨U5 (λk=>elE 1 2 3 4 n k) ha1,U,U,U,U5 (λl:List CV=>((3,1,l):TypeId×Nat×List CV)) (bSo hb),U⟩ ⟨U,U,tV⟩ rS bL wO U,λ⟨ro,gg,st,G⟩ ⟨⟨i1,i2,iG,i3⟩,hro,hex⟩=>vk ⟨1,0,c,b,st,gg,⟨bL,U,iG,c2,c3,i1,i2⟩,λh6=>?_,λp k q h6=>?_⟩⟩
 all_goals
  replace i1:gg 1=x.U8 c:=i1
  replace i2:st<=x.Cc c:=i2
  replace iG:G 0=[.r none 0 b st gg]:=iG
  replace i3:∀k∈gg 0,k∈x.U8 c:=i3
  replace hro:0<=ro->∃r:Nat,ro=(r:Nat)/\r∈kW (x.U8 c):=hro
  replace hex:0<=ro\/gg 0=x.U8 c:=hex
 ·have h7:0<=ro:=hex.resolve_right λhe=>hne (he.symm.trans h6)
  obtain⟨r,rfl,hr⟩:=hro h7
  exact vk ⟨some (r,c,best),⟨⟨hb,c1⟩,c2,hr⟩,kU ⟨U,U,U⟩ rS ⟨U,tV⟩ bL aRn U aGo⟩
 have hk:k∈x.U8 c:=i3 k (by rw[h6];exact dU _ (.head _))
 have hkn:=kin k hk
 have hmea:(p++q).length<(gg 0).length:=by rw[h6];simp
 have hsub:∀k'∈p++q,k'∈x.U8 c:=λk' hk'=>i3 k' (by
  rw[h6]
  rcases aO.1 hk' with hh|hh
  ·exact cX _ hh
  exact dU _ (.tail _ hh))
 have hrr:¬ro<0->ro=(ro.toNat:Nat)/\ro.toNat<n:=λhn=>by
  obtain⟨r,rfl,hr⟩:=hro oM
  refine⟨U,?_⟩
  obtain⟨k',hk',rfl⟩:=bZ.1 hr
  exact kin k' hk'
 have hG':upd G 0 [CV.r none 0 b (x.Cc c) (aBg p q (x.U8 c) k)] 0=[CV.r none 0 b (x.Cc c) (aBg p q (x.U8 c) k)]:=bF
 refine⟨1,0,c,b,k,aBg p q (x.U8 c) k,⟨bL,U,hG',c2,c3,U,hk⟩,?_⟩
 refine⟨.seq (sq 99 (List.range 45)),U0,oI k,λ_=>⟨U,hkn,cS hkn⟩,_,λ_=>eD hkn,ro.toNat,λhq=>⟨(hrr hq).1,(hrr hq).2,cS (hrr hq).2⟩,cF (x.R ro.toNat),λhq=>eD (hrr hq).2,oI k,λ_=>⟨U,hkn,cS hkn⟩,_,λ_=>eD hkn,ro.toNat,λhq=>⟨(hrr λhn=>hq (.inl hn)).1,(hrr λhn=>hq (.inl hn)).2,cS (hrr λhn=>hq (.inl hn)).2⟩,cF (x.R ro.toNat),λhq=>eD (hrr λhn=>hq (.inl hn)).2,?_⟩
 refine⟨λh8=>vk ?_,λh8=>vk ?_⟩
 ·exact hM2 ((oI k:Nat),aBg p q (x.U8 c) k,x.Cc c,upd G 0 [.r none 0 b (x.Cc c) (aBg p q (x.U8 c) k)]) ⟨⟨⟨U,aH _,hG',hsub⟩,λ_=>⟨oI k,U,bZ.2 ⟨k,hk,U⟩⟩,.inl (Int.natCast_nonneg _)⟩,hmea⟩ U rS ⟨U,U,tV⟩ rS bL wO U
 have h9:0<=ro:=qJ.1 λhn=>h8 (.inl (.inl hn))
 exact hM2 (ro,aBg p q (x.U8 c) k,x.Cc c,upd G 0 [.r none 0 b (x.Cc c) (aBg p q (x.U8 c) k)]) ⟨⟨⟨U,aH _,hG',hsub⟩,hro,.inl h9⟩,hmea⟩ U rS ⟨U,U,tV⟩ rS bL wO U
abbrev El.maps (x:El) (U8:Nat->List CV):El:=⟨x.R,x.LA,x.Lc,x.L,x.CA,x.Cc,U8⟩
def DI (ps:List En) (n i k:Nat) (I0 U8:Nat->List CV):Prop:=∀j,j<n->((kW (I0 j)).Nodup->(kW (U8 j)).Nodup)/\∀r,r∈kW (U8 j)↔r∈kW (I0 j)/\¬(r=i/\∃e∈ps.take k,e.1=(j:Nat))
theorem aCy {I:Type} [Inhabited I] {l:List I} {k:Nat} (h:k<l.length):l.take (k+1)=l.take k++[l.getD k U6]:=by rw[dF,aG h,gd h];rfl
theorem bJz {ps:List En} {k:Nat} {j j0:Nat} (hk:k<ps.length) (hj:(ps.getD k U6).1=(j0:Nat)):(∃e∈ps.take (k+1),e.1=(j:Nat))↔(∃e∈ps.take k,e.1=(j:Nat))\/j=j0:=by
 rw[aCy hk]
 constructor
 ·rintro⟨e,he,h⟩
  rcases aO.1 he with he|he
  ·exact .inl ⟨e,he,h⟩
  rw[aE.1 he,hj] at h;exact .inr (jY h).symm
 rintro(⟨e,he,h⟩|rfl)
 ·exact⟨e,cX _ he,h⟩
 exact⟨_,dU _ (.head _),hj⟩
theorem DI.start {ps:List En} {n i:Nat} {U8:Nat->List CV}:DI ps n i 0 U8 U8:=λj _=>⟨id,λr=>⟨λh=>⟨h,λ⟨_,e,he,_⟩=>by cases he⟩,λh=>h.1⟩⟩
theorem DI.next {ps:List En} {n i k j0:Nat} {I0 U8:Nat->List CV} (h:DI ps n i k I0 U8) (hk:k<ps.length) (hj:(ps.getD k U6).1=(j0:Nat)):DI ps n i (k+1) I0 (upd U8 j0 (aDx (U8 j0) i)):=λj hjn=>by
 obtain⟨h1,h2⟩:=h j hjn
 by_cases e:j=j0
 ·subst e
  rw[bF]
  refine⟨λhn=>bSk (h1 hn),λr=>?_⟩
  rw[bJw,h2 r,bJz hk hj]
  constructor
  ·rintro⟨⟨h3,h4⟩,h5⟩;exact⟨h3,λ⟨h6,_⟩=>h5 h6⟩
  rintro⟨h3,h4⟩;exact⟨⟨h3,λ⟨h5,h6⟩=>h4 ⟨h5,.inl h6⟩⟩,λh5=>h4 ⟨h5,.inr rfl⟩⟩
 rw[aY e]
 refine⟨h1,λr=>?_⟩
 rw[h2 r,bJz hk hj]
 exact and_congr_right λ_=>not_congr (and_congr_right λ_=>⟨.inl,λh=>h.elim id λh=>U4 h e⟩)
abbrev lvB (n a:Nat) (x:El) (A:List Int) (pv:Sl EntM):BL:=[(57,0,[cF pv]),(174,0,[.p 2 0]),elE 3 4 5 6 n a,elR n x,elL n x,elC n x,elA A]
theorem aRo {n a:Nat} {x:El} {A:List Int} {pv:Sl EntM}:scB 7 (lvB n a x A pv):=aA U (aA U (aA U (aA (bG (bD λ_ _=>U)) (aA (bG (bD λ_ _=>U)) (aA (bG (bD λ_ _=>U)) (aA (bG (aW _)) aU))))))
abbrev lvL:List Bool:=[true,false,false,true,true,true,true]
theorem bDo {n a:Nat} {x:El} {A:List Int} {pv:Sl EntM}:ClB lvL (lvB n a x A pv):=gG (λ_ c hc=>by rw[aE.1 hc];rfl) (gG (λh=>by cases h) (gG (λh=>by cases h) (gG (λ_=>bD λ_ _=>U) (gG (λ_=>bD λ_ _=>U) (gG (λ_=>bD λ_ _=>U) (gG (λ_=>aW _) aDy))))))
abbrev lvG (pv:Sl EntM) (i k:Nat):List (Nat×DV):=[(8,.c (iC k)),(6,.c (cF pv)),(7,.c (iC (pv.l.length:Nat))),(0,.c (iC i)),(2,.c (.p 1 0))]
def oLv:Ord:=.treeX [] [0,2001,2002,3,2004,5,2006,1007,2008] (trS [1009])
theorem aUk (x:El) (pv:Sl EntM) {ps:List En} {n i:Nat} {A:List Int} (hp:Ek pv.l ps) (hv:VOk ps (n:Nat)) (hl:ps.length<=n) (hn:n<=4096) (ca:∀j,j<n->∃b,x.CA j=some b):CtrF pgQ 192 lvL [.c (iC i),.c (.p 0 0),.c (.p 1 0)] (lvB n A.length x A pv) [CF n x] (λU8:Nat->List CV=>⟨.t [],lvB n A.length x A pv,[CF n (x.maps U8)],DI ps n i ps.length x.U8 U8⟩):=by
 have hln:=hp.ln
 refine oP gT (eo func192) func192 U U U bL bDo (vk ?_)
 show Sd _ _ _ _ _ _
 refine bX (λ_=>true) (λg:Nat×(Nat->List CV)=>lvG pv i g.1) (λ_=>lvB n A.length x A pv) (λg=>[CF n (x.maps g.2)]) (λg=>g.1<=ps.length/\DI ps n i g.1 x.U8 g.2) (λg=>ps.length-g.1) λhM=>⟨hM (0,x.U8) ⟨aB _,DI.start⟩ U rS ⟨U,tV⟩ rS bL aRo U,λ⟨k,U8⟩ ⟨hk,hI⟩=>vk ⟨λh2=>vk ?_,λh2=>vk ?_⟩⟩
 all_goals
  replace hk:k<=ps.length:=hk
  replace hI:DI ps n i k x.U8 U8:=hI
 ·have hkl:k<ps.length:=by replace h2:(k:Int)<(pv.l.length:Nat):=h2;omega
  have he:=hp.e k hkl
  have e0:=hv.2 _ (fN hkl)
  obtain⟨j0,hj0⟩:∃j0:Nat,(ps.getD k U6).1=(j0:Nat):=⟨(ps.getD k U6).1.toNat,Uc⟩
  have hjn:j0<n:=Uc
  have hix:(pv.l.getD k U6).ix=(j0:Nat):=he.1.trans hj0
  obtain⟨b,hb⟩:=ca j0 hjn
  refine⟨k,⟨U,show k<pv.l.length by omega⟩,oLv,U0,j0,⟨hix,hjn,cS hjn⟩,_,_,⟨aBt hjn hb,U⟩,0,j0,i,⟨hjn,hb,U⟩,(k+1:Nat),wi,?_⟩
  exact hM (k+1,upd U8 j0 (aDx (U8 j0) i)) ⟨⟨hkl,hI.next hkl hj0⟩,show ps.length-(k+1)<ps.length-k by omega⟩ U rS ⟨U,tV⟩ rS bL aRo U
 obtain rfl:k=ps.length:=by replace h2:¬(k:Int)<(pv.l.length:Nat):=h2;omega
 exact⟨U8,hI,kU U rS ⟨U,tV⟩ bL aRo U bDo⟩
def fac (es:Nat->List En) (r c i:Nat):Rat:=Vm.get (es i) (c:Nat)*(Vm.get (es r) (c:Nat))⁻¹
structure StR (r c kk:Nat) (es lw es' lw':Nat->List En) (P:Nat->Prop):Prop where
 yes:∀i,P i->(∀j:Int,Vm.get (es' i) j=Vm.get (es i) j+(-(fac es r c i))*Vm.get (es r) j)/\lw' i=lw i++[((kk:Int),fac es r c i)]
 no:∀i,¬P i->es' i=es i/\lw' i=lw i
theorem qY:∀{n:Nat} {l:List Nat},l.Nodup->(∀i∈l,i<n)->l.length<=n
 |0,[],_,_=>aH _
 |0,i::l,_,h=>U4 (h i (.head _)) (aF _)
 |n+1,l,hd,h=>by
  by_cases hn:n∈l
  ·have h1:=qY (n:=n) (hd.erase n) λi hi=>by
    have h2:=(hd.mem_erase_iff).1 hi
    have:=h i h2.2
    have:=h2.1
    omega
   rw[List.length_erase_of_mem hn] at h1
   omega
  have:=qY (n:=n) hd λi hi=>by
   have:=h i hi
   have:i≠n:=λe=>hn (e▸hi)
   omega
  omega
theorem kY {es:List En} {n:Nat} (h:VOk es (n:Nat)):es.length<=n:=by
 have h1:(es.map λe=>e.1.toNat).Nodup:=by
  rw[cT,gI]
  exact h.1.imp_of_mem λ{a b} ha hb hab he=>by
   have:=h.2 a ha
   have:=h.2 b hb
   have:a.1<b.1:=hab
   omega
 have:=qY (n:=n) h1 λi hi=>by
  obtain⟨e,he,rfl⟩:=bZ.1 hi
  have:=h.2 e he
  omega
 rwa [aK] at this
theorem aRp {es fs rs:List En} {q:Rat} {n:Int} (h:MgR (λa b=>a+q*b) es fs rs) (he:VOk es n) (hf:VOk fs n):VOk rs n:=⟨h.a,λe hm=>by
 have hz:e.2≠0:=h.z e hm
 have hg:=h.g e.1
 rw[rZ h.a hm] at hg
 by_cases h1:Vm.get es e.1=0
 ·have h2:Vm.get fs e.1≠0:=λh2=>hz (by rw[hg];show Vm.get es e.1+q*Vm.get fs e.1=0;rw[h1,h2,bU,bK])
  obtain⟨e',he',h3⟩:=(uN hf _).1 h2
  have:=hf.2 e' he'
  rw[h3] at this
  exact⟨this.1,this.2.1,hz⟩
 obtain⟨e',he',h3⟩:=(uN he _).1 h1
 have:=he.2 e' he'
 rw[h3] at this
 exact⟨this.1,this.2.1,hz⟩⟩
theorem bNm {es fs rs:List En} {q:Rat} {B Q:Nat} (h:MgR (λa b=>a+q*b) es fs rs) (he:Asc es) (hf:Asc fs) (h1:1<=B) (be:rbE es B) (bf:rbE fs B) (hq:rb q Q):rbE rs (B+(Q+B)+1):=λe hm=>by
 have hg:=h.g e.1
 rw[rZ h.a hm] at hg
 rw[hg]
 exact wL (mK he be h1) (fW hq (mK hf bf h1))
def AI (rs:List En) (n i k:Nat) (I0 U8:Nat->List CV):Prop:=∀j,j<n->((kW (I0 j)).Nodup->(kW (U8 j)).Nodup)/\∀r,r∈kW (U8 j)↔r∈kW (I0 j)\/(r=i/\∃e∈rs.take k,e.1=(j:Nat))
theorem AI.start {rs:List En} {n i:Nat} {U8:Nat->List CV}:AI rs n i 0 U8 U8:=λj _=>⟨id,λr=>⟨.inl,λh=>h.elim id λ⟨_,e,he,_⟩=>by cases he⟩⟩
theorem AI.next {rs:List En} {n i k j0 c:Nat} {I0 U8:Nat->List CV} (h:AI rs n i k I0 U8) (hk:k<rs.length) (hj:(rs.getD k U6).1=(j0:Nat)):AI rs n i (k+1) I0 (upd U8 j0 (xS (U8 j0) c i).1):=λj hjn=>by
 obtain⟨h1,h2⟩:=h j hjn
 by_cases e:j=j0
 ·subst e
  rw[bF]
  refine⟨λhn=>bDg (h1 hn),λr=>?_⟩
  rw[aUj,h2 r,bJz hk hj]
  constructor
  ·rintro(h3|h3|⟨h3,h4⟩)
   ·exact .inr ⟨h3,.inr rfl⟩
   ·exact .inl h3
   exact .inr ⟨h3,.inl h4⟩
  rintro(h3|⟨h3,_⟩)
  ·exact .inr (.inl h3)
  exact .inl h3
 rw[aY e]
 refine⟨h1,λr=>?_⟩
 rw[h2 r,bJz hk hj]
 exact or_congr_right (and_congr_right λ_=>⟨.inl,λh=>h.elim id λh=>U4 h e⟩)
theorem bDp {G:List EntM} {lw:List En} {e:EntM} {z:En} (h:Ek G lw) (h1:e.ix=z.1) (h2:Cr e.v z.2):Ek (G++[e]) (lw++[z]):=⟨by rw[aD,aD,h.ln];rfl,λk hk=>by
 rw[aD,cO] at hk
 by_cases e1:k<lw.length
 ·have e2:k<G.length:=by rw[h.ln];exact e1
  rw[List.getD,List.getD,aV e2,aV e1]
  exact h.e k e1
 obtain rfl:k=lw.length:=Uc
 have e2:¬lw.length<G.length:=by rw[h.ln];omega
 rw[List.getD,List.getD,bH oM,bH (aH _),h.ln]
 simp only[gH,List.getElem?_cons_zero,Option.getD_some]
 exact⟨h1,h2⟩⟩
theorem bDq {x:El} {n r c kk i:Nat} {es' lw':Nat->List En} {used:Nat->Prop} {rs:List En} {q:Rat} {g:Sl EntM} {LA':Option Nat} {Lc':Nat} {e:EntM} {z:En} {Cc':Nat->Nat} {I1 I2:Nat->List CV}
 (h:ElOk x n es' lw' used) (hr:r<n) (hin:i<n) (hui:¬used i) (hg:Ek g.l rs) (hm:MgR (λa b=>a+q*b) (es' i) (es' r) rs) (h1:e.ix=z.1) (h2:Cr e.v z.2)
 (hD:DI (es' r) n i (es' r).length x.U8 I1) (hA:AI rs n i rs.length I1 I2):
 ElOk ⟨upd x.R i g,upd x.LA i LA',upd x.Lc i Lc',upd x.L i (x.L i++[e]),x.CA,Cc',I2⟩ n (upd es' i rs) (upd lw' i (lw' i++[z])) used:=by
 have hv:=aRp hm (h.ok i hin).1 (h.ok r hr).1
 refine⟨λk hk=>?_,λk hk=>?_,λk hk=>?_,h.ca,λj hj=>(hA j hj).1 ((hD j hj).1 (h.nd j hj)),λj hj k=>?_⟩
 ·show Ek (upd x.R i g k).l (upd es' i rs k)
  by_cases e:k=i
  ·subst e;rw[bF,bF];exact hg
  rw[aY e,aY e];exact h.row k hk
 ·by_cases e:k=i
  ·subst e;rw[bF];exact⟨hv,kY hv⟩
  rw[aY e];exact h.ok k hk
 ·show Ek (upd x.L i (x.L i++[e]) k) (upd lw' i (lw' i++[z]) k)
  by_cases e:k=i
  ·subst e;rw[bF,bF];exact bDp (h.low k hk) h1 h2
  rw[aY e,aY e];exact h.low k hk
 show k∈kW (I2 j)↔_
 rw[(hA j hj).2 k,(hD j hj).2 k,h.mem j hj k,cQ,cQ]
 by_cases e:k=i
 ·subst e
  rw[bF]
  have hgj:Vm.get rs (j:Nat)=Vm.get (es' k) (j:Nat)+q*Vm.get (es' r) (j:Nat):=hm.g _
  constructor
  ·rintro(⟨⟨h3,h4⟩,h5⟩|⟨_,h5⟩)
   ·have h6:Vm.get (es' r) (j:Nat)=0:=aN λh6=>h5 ⟨U,(uN (h.ok r hr).1 _).1 h6⟩
    rw[h6,bU,bK] at hgj
    exact⟨h3,by rw[hgj];exact h4⟩
   exact⟨⟨hin,hui⟩,(uN hv _).2 h5⟩
  rintro⟨_,h4⟩
  exact .inr ⟨U,(uN hv _).1 h4⟩
 rw[aY e]
 constructor
 ·rintro(⟨h3,_⟩|⟨h3,_⟩)
  ·exact h3
  exact U4 h3 e
 intro h3;exact .inl ⟨h3,λ⟨h4,_⟩=>e h4⟩
theorem StR.next {r c kk k:Nat} {es lw es' lw':Nat->List En} {O:List Nat} {rs:List En} (h:StR r c kk es lw es' lw' (·∈O.take k)) (hk:k<O.length) (hO:O.Nodup) (hm:MgR (λa b=>a+(-(fac es r c (O.getD k 0)))*b) (es (O.getD k 0)) (es r) rs):es' (O.getD k 0)=es (O.getD k 0)/\lw' (O.getD k 0)=lw (O.getD k 0)/\StR r c kk es lw (upd es' (O.getD k 0) rs) (upd lw' (O.getD k 0) (lw (O.getD k 0)++[((kk:Int),fac es r c (O.getD k 0))])) (·∈O.take (k+1)):=by
 have ht:O.take (k+1)=O.take k++[O.getD k 0]:=by rw[dF,aG hk,gd hk];rfl
 have hno:O.getD k 0∉O.take k:=λhh=>by
  have h1:(O.take k++[O.getD k 0]).Nodup:=by rw[<-ht];exact hO.sublist (iT _ _)
  exact(lI.1 h1).2.2 _ hh _ (.head _) U
 obtain⟨a1,a2⟩:=h.no _ hno
 refine⟨a1,a2,λi hi=>?_,λi hi=>?_⟩
 ·by_cases e:i=O.getD k 0
  ·subst e;rw[bF,bF];exact⟨hm.g,U⟩
  rw[aY e,aY e]
  replace hi:i∈O.take (k+1):=hi
  rw[ht] at hi
  exact h.yes i ((aO.1 hi).resolve_right λhh=>e (aE.1 hh))
 have e:i≠O.getD k 0:=λe=>hi (by show i∈O.take (k+1);rw[ht,e];simp)
 rw[aY e,aY e]
 exact h.no i λhh=>hi (by show i∈O.take (k+1);rw[ht];exact cX _ hh)
def aGp (O:List Nat):List Int:=O.map λi:Nat=>(i:Int)
theorem bKa {O:List Nat} {k:Nat} (h:k<O.length):((aGp O).map iC)[k*1]? =some (iC (O.getD k 0:Nat)):=by
 unfold aGp
 rw[bE,lH,dQ,aG h,gd h];rfl
theorem aOs {O:List Nat}:(aGp O).length=O.length:=by unfold aGp;simp
theorem aIi {O:List Nat} {i:Nat}:(aGp O).map iC++[iC (i:Nat)]=(aGp (O++[i])).map iC:=by unfold aGp;simp
theorem aXi {O:List Nat} {p q:List CV} {k:CV} {l:List Nat} (h:(O++kW (p++k::q)).Perm l):((O++[oI k])++kW (p++q)).Perm l:=by
 refine List.Perm.trans ?_ h
 unfold kW
 rw[cW,bA,bA,eQ]
 have h2:(oI k::(List.map oI p++List.map oI q)).Perm (List.map oI p++oI k::List.map oI q):=List.perm_middle.symm
 exact List.Perm.append_left _ h2
abbrev seB (n a:Nat) (x:El) (A:List Int) (pv:Sl EntM) (inv:RatM) (O:List Nat):BL:=[elE 1 2 3 4 n a,elR n x,elL n x,elC n x,elA A,(174,0,[.p 0 0]),(57,0,[cF pv]),(53,0,inv.C),(3,1,(aGp O).map iC)]
theorem aCz {n a:Nat} {x:El} {A:List Int} {pv:Sl EntM} {inv:RatM} {O:List Nat}:scB 9 (seB n a x A pv inv O):=aA U (aA (bG (bD λ_ _=>U)) (aA (bG (bD λ_ _=>U)) (aA (bG (bD λ_ _=>U)) (aA (bG (aW _)) (aA U (aA U (aA U (aA (bG (aW _)) aU))))))))
theorem aGq {n a:Nat} {x:El} {A:List Int} {pv:Sl EntM} {inv:RatM} {O:List Nat} (f:RatM):scB 10 (seB n a x A pv inv O++[(53,0,f.C)]):=aA U (aA (bG (bD λ_ _=>U)) (aA (bG (bD λ_ _=>U)) (aA (bG (bD λ_ _=>U)) (aA (bG (aW _)) (aA U (aA U (aA U (aA (bG (aW _)) (aA U aU)))))))))
abbrev seG (c kk:Nat) (r0:Nat) (l:Nat):List (Nat×DV):=[(12,.c (.s 8 l)),(44,.c (.hp r0 0)),(9,.c (.f 192 [] [(6,0),(5,0)])),(4,.c (.p 5 0)),(10,.c (.p 7 0)),(8,.c (.p 6 0)),(1,.c (iC kk)),(3,.c (iC c))]
theorem ck {I:Type} {a b:I} {l m:List I} (h:a=b) (h':l=m):a::l=b::m:=by rw[h,h']
theorem ElOk.leave {x:El} {n r c:Nat} {es lw:Nat->List En} {used:Nat->Prop} {U8:Nat->List CV} (h:ElOk x n es lw used) (hr:r<n) (hI:DI (es r) n r (es r).length x.U8 U8):ElOk (x.maps U8) n es lw (λi=>used i\/i=r):=
 ⟨h.row,h.ok,h.low,h.ca,λj hj=>(hI j hj).1 (h.nd j hj),λj hj i=>by
  show i∈kW (U8 j)↔_
  rw[(hI j hj).2 i,h.mem j hj i,cQ]
  constructor
  ·rintro⟨⟨⟨a1,a2⟩,a3⟩,a4⟩
   exact⟨⟨a1,λa=>a.elim a2 λe=>a4 ⟨e,(uN (h.ok r hr).1 _).1 (e▸a3)⟩⟩,a3⟩
  rintro⟨⟨a1,a2⟩,a3⟩
  exact⟨⟨⟨a1,λa=>a2 (.inl a)⟩,a3⟩,λ⟨e,_⟩=>a2 (.inr e)⟩⟩
def bXm:Ord:=.joinX [] [0,2001,2002,3,2004,2005,1006,2007,9] (.alt 8 (.alt 10 (trS [11,1012]) (.alt 11 (trS [10,1012]) .nil)) (.alt 11 (trS [8,10,1012]) .nil))
def bXn:Ord:=.treeX [] [0,2001,2002,3,2004,5,2006,2007,8,2009,2010,1011,2012,13,2014] (trS [15,16,2017,1018])
def bXo:Ord:=.treeX [] [0,2001,2002,3,2004,5,2006,2007,8,2009,2010,1011,12,14] (trS [13,15,2016,1017])
abbrev bSp (c kk l k:Nat):List (Nat×DV):=[(55,.c (iC k)),(53,.c (.s 8 l)),(54,.c (iC l)),(9,.c (.f 192 [] [(6,0),(5,0)])),(4,.c (.p 5 0)),(10,.c (.p 7 0)),(8,.c (.p 6 0)),(1,.c (iC kk)),(3,.c (iC c))]
abbrev bKb (c kk l k i:Nat):List (Nat×DV):=(16,.c (.p 9 0))::(15,.c (iC i))::bSp c kk l k
abbrev cBq (c kk l k i:Nat) (g:Sl EntM) (k2:Nat):List (Nat×DV):=(116,.c (iC k2))::(114,.c (cF g))::(115,.c (iC (g.l.length:Nat)))::(15,.c (iC i))::bSp c kk l k
abbrev seY (y:El) (i kk:Nat) (g:Sl EntM) (A':Option Nat) (c':Nat) (f:RatM) (Cc:Nat->Nat) (U8:Nat->List CV):El:=⟨upd y.R i g,upd y.LA i A',upd y.Lc i c',upd y.L i (y.L i++[⟨kk,f⟩]),y.CA,Cc,U8⟩
theorem bSq (x:El) {n B r c kk:Nat} {A:List Int} {es lw:Nat->List En} {used:Nat->Prop} (h:ElOk x n es lw used) (hn:n<=4096) (hr:r<n) (hu:¬used r) (hc:c<n) (hp:Vm.get (es r) (c:Nat)≠0) (hb:rbM es n B) (hbl:rbM lw n B) (h1:1<=B) (hB:B<=4398046511104) (hBo:∀i,i<n->¬used i->i≠r->4*B+1<=4398046511104) (hkk:kk<=4096) (hlw:∀i,i<n->(lw i).length<=4096):
 CtrF pgQ 151 chL [.c (.p 0 0),.c (iC kk),.c (iC r),.c (iC c)] (chB n A.length x A) [LF n x,CF n x] (λg:El×(Nat->List En)×(Nat->List En)=>⟨.t [],chB n A.length g.1 A,[LF n g.1,CF n g.1],(ElOk g.1 n g.2.1 g.2.2 (λi=>used i\/i=r)/\StR r c kk es lw g.2.1 g.2.2 λi=>(i<n/\¬used i/\i≠r)/\Vm.get (es i) (c:Nat)≠0)/\rbM g.2.1 n (4*B+1)/\rbM g.2.2 n (4*B+1)⟩):=by
 have hrk:=h.row r hr
 have hro:=h.ok r hr
 have hev:=hrk.ev (hb r hr)
 obtain⟨b,hbc⟩:=h.ca c hc
 refine oP gT (eo func151) func151 U U U bL aGo (vk ?_)
 refine⟨r,⟨U,hr,cS hr⟩,_,eD hr,_,U,[6,5,0,1,2,3,4,1001],aUk x (x.R r) (A:=A) (i:=r) hrk hro.1 hro.2 hn h.ca,U,U,U,λU8 hI=>?_⟩
 replace hI:DI (es r) n r (es r).length x.U8 U8:=hI
 refine⟨[],bCf (x.R r) (c:Nat) hev (hb r hr) hro.1.1 h1 oM,U,U,U,λpg hpg=>⟨[],bRo pg ((Cr.rq hpg (mK hro.1.1 (hb r hr) h1)).le) (mK hro.1.1 (hb r hr) h1) hp,U,U,U,λinv hinv=>?_⟩⟩
 replace hinv:Rq inv (Vm.get (es r) (c:Nat))⁻¹ B:=hinv
 refine⟨c,⟨U,hc,cS hc⟩,_,aBt hc hbc,1,c,⟨hc,hbc⟩,λr0=>?_⟩
 show Sd _ _ _ _ _ _
 refine aDs tSd 12 3 1 U bL U ?_
 have cl1:∀{i:Nat},∀c∈(elR n x).2.2,kS i c=false:=λc hc=>bJ (bD (λ_ _=>U) c hc)
 have cl2:∀{i:Nat},∀c∈(elL n x).2.2,kS i c=false:=λc hc=>bJ (bD (λ_ _=>U) c hc)
 have cl3:∀{i:Nat},∀c∈(elC n x).2.2,kS i c=false:=λc hc=>bJ (bD (λ_ _=>U) c hc)
 have cl4:∀{i:Nat},∀c∈A.map iC,kS i c=false:=λc hc=>bJ (aW A c hc)
 have hkI:∀i,i∈kW (U8 c)↔(i<n/\¬used i/\i≠r)/\Vm.get (es i) (c:Nat)≠0:=λi=>by
  rw[(hI c hc).2 i,h.mem c hc i,cQ]
  constructor
  ·rintro⟨⟨⟨a1,a2⟩,a3⟩,a4⟩
   exact⟨⟨a1,a2,λe=>a4 ⟨e,(uN hro.1 _).1 hp⟩⟩,a3⟩
  rintro⟨⟨a1,a2,a4⟩,a3⟩
  exact⟨⟨⟨a1,a2⟩,a3⟩,λ⟨e,_⟩=>a4 e⟩
 have hkd:(kW (U8 c)).Nodup:=(hI c hc).1 (h.nd c hc)
 have hkl:(kW (U8 c)).length<=n:=qY hkd λi hi=>((hkI i).1 hi).1.1
 refine bX (λ_=>true) (λg:List Nat×(Nat->List CV)×Nat×(Nat->List CV)=>seG c kk r0 g.1.length) (λg=>seB n A.length x A (x.R r) inv g.1) (λg=>[LF n x,CF n (x.maps U8),itF r0 g.2.2.2]) (λg=>(g.2.1 1=U8 c/\g.2.2.1<=x.Cc c/\g.2.2.2 0=[.r none 0 b g.2.2.1 g.2.1])/\(g.1++kW (g.2.1 0)).Perm (kW (U8 c))/\∀k∈g.2.1 0,k∈U8 c) (λg=>(g.2.1 0).length) λhM=>⟨hM ([],aQr (U8 c),x.Cc c,λ_=>[.r none 0 b (x.Cc c) (aQr (U8 c))]) ⟨⟨U,aH _,U⟩,zB _,λk hk=>hk⟩ U rS ⟨U,U,U,tV⟩ rS bL aCz U,λ⟨O,gg,st,G⟩ ⟨⟨i1,i2,iG⟩,hO,hg0⟩=>vk ⟨2,1,c,b,st,gg,⟨bL,U,iG,hc,hbc,i1,i2⟩,λh6=>?_,λp k q h6=>?_⟩⟩
 all_goals
  replace i1:gg 1=U8 c:=i1
  replace i2:st<=x.Cc c:=i2
  replace iG:G 0=[.r none 0 b st gg]:=iG
  replace hO:(O++kW (gg 0)).Perm (kW (U8 c)):=hO
  replace hg0:∀k∈gg 0,k∈U8 c:=hg0
  have hOl:O.length+(gg 0).length<=n:=by
   have:=hO.length_eq
   rw[aD,aK] at this
   omega
 ·have hOk:O.Perm (kW (U8 c)):=by
   have h7:=hO
   rw[h6] at h7
   simpa[kW] using h7
  have hOm:∀i,i∈O↔(i<n/\¬used i/\i≠r)/\Vm.get (es i) (c:Nat)≠0:=λi=>hOk.mem_iff.trans (hkI i)
  have hOd:O.Nodup:=hOk.nodup_iff.2 hkd
  have hE0:=h.leave (c:=c) hr hI
  refine vk ?_
  show Sd _ _ _ _ _ _
  refine bX (λ_=>true) (λg:Nat×El×(Nat->List En)×(Nat->List En)=>bSp c kk O.length g.1) (λg=>seB n A.length g.2.1 A (x.R r) inv O) (λg=>[LF n g.2.1,CF n g.2.1]) (λg=>g.1<=O.length/\ElOk g.2.1 n g.2.2.1 g.2.2.2 (λi=>used i\/i=r)/\StR r c kk es lw g.2.2.1 g.2.2.2 (·∈O.take g.1)/\rbM g.2.2.1 n (4*B+1)/\rbM g.2.2.2 n (4*B+1)) (λg=>O.length-g.1) λhM=>⟨hM (0,x.maps U8,es,lw) ⟨aB _,hE0,⟨λi hi=>U4 hi dI,λi _=>⟨U,U⟩⟩,λi hi e he=>(hb i hi e he).le,λi hi e he=>(hbl i hi e he).le⟩ U rS ⟨U,U,tV⟩ rS bL aCz U,λ⟨k,y,es',lw'⟩ ⟨hk,hE,hS,hb',hbl'⟩=>vk ⟨λh7=>vk ?_,λh7=>vk ?_⟩⟩
  all_goals
   replace hk:k<=O.length:=hk
   replace hE:ElOk y n es' lw' (λi=>used i\/i=r):=hE
   replace hS:StR r c kk es lw es' lw' (·∈O.take k):=hS
   replace hb':rbM es' n (4*B+1):=hb'
   replace hbl':rbM lw' n (4*B+1):=hbl'
  ·replace h7:(k:Int)<(O.length:Nat):=h7
   have hkl:k<O.length:=Uc
   obtain⟨i,hi⟩:∃i,i=O.getD k 0:=⟨_,U⟩
   have hiO:i∈O:=by rw[hi,gd hkl];exact kB hkl
   obtain⟨⟨hin,hui,hir⟩,hgi⟩:=(hOm i).1 hiO
   have hB4:=hBo i hin hui hir
   have hrO:r∉O.take k:=λhh=>((hOm r).1 (cH hh)).1.2.2 rfl
   obtain⟨er,-⟩:=hS.no r hrO
   have hni:i∉O.take k:=λhh=>by
    have h1:(O.take k++[O.getD k 0]).Nodup:=by
     have ht:O.take (k+1)=O.take k++[O.getD k 0]:=by rw[dF,aG hkl,gd hkl];rfl
     rw[<-ht];exact hOd.sublist (iT _ _)
    exact(lI.1 h1).2.2 _ hh _ (by rw[hi];exact .head _) U
   obtain⟨ei,el⟩:=hS.no i hni
   have hrow:=hE.row i hin
   rw[ei] at hrow
   have hoi:=h.ok i hin
   have hlo:=hE.low i hin
   rw[el] at hlo
   have hli:=hlw i hin
   have hll:(y.L i).length=(lw i).length:=hlo.ln
   have hci:(eA n λj=>cF (y.R j))[i*1]? =some (cF (y.R i)):=eD hin
   have hci2:(eA n (hdP y.LA y.Lc y.L))[i*1]? =some (.h (y.LA i) (y.L i).length (y.Lc i)):=eD hin
   have rg:=mK hoi.1.1 (hb i hin) h1 (i:=(c:Nat))
   have rv:rb (Vm.get (es r) (c:Nat))⁻¹ B:=hinv.rb h1
   have rf:rb (fac es r c i) (B+B):=fW rg rv
   have cg:=bCf (y.R i) (c:Nat) (hrow.ev (hb i hin)) (hb i hin) hoi.1.1 h1 oM
   have ix1:k*1<((aGp O).map iC).length:=by rw[aK,aOs];omega
   refine⟨k,⟨U,hkl,ix1⟩,_,(bKa hkl).trans (by rw[<-hi]),?_⟩
   refine⟨bXm,U0,RatM,λf=>⟨bKb c kk O.length k i++[],[],seB n A.length y A (x.R r) inv O++[(53,0,f.C)],[LF n y,CF n y]⟩,λf=>Cr f (fac es r c i),⟨i,⟨U,hin,cS hin⟩,_,_,⟨hci,U⟩,?_⟩,λf hf=>?_⟩
   ·have cm:∀g:RatM,Cr g (Vm.get (es i) (c:Nat))->Ctr pgQ 86 [] [.a g.C,.a inv.C] [] (rY (fac es r c i)):=λg hg=>yB g inv ((Cr.rq hg rg).le) hinv.le
    exact⟨⟨[],cg,U,U,U,λg hg=>⟨ck U (ck U (ck U (ck (U5 uJ hci) (ck U (ck U U))))),⟨[],cm g hg,U,U,U,λf hf=>⟨ck U (ck U (ck U (ck (U5 uJ hci) (ck U (ck U U))))),ck U (ck U (ck U (ck (U5 uJ hci) (ck U (ck U U))))),iP (M:=λ_=>true) (base:=[]) (λt d ht=>by cases ht) (chg:=λ_:RatM=>bKb c kk O.length k i) (bls:=λf=>seB n A.length y A (x.R r) inv O++[(53,0,f.C)]) (fls:=λ_=>[LF n y,CF n y]) f hf U rS ⟨U,U,tV⟩ rS bL (aGq f) U⟩⟩,ck U (ck U (ck U (ck (U5 uJ hci) (ck U (ck U U))))),[],cm g hg,U,U,U,λf hf=>⟨ck U (ck U (ck U (ck (U5 uJ hci) (ck U (ck U U))))),iP (M:=λ_=>true) (base:=[]) (λt d ht=>by cases ht) (chg:=λ_:RatM=>bKb c kk O.length k i) (bls:=λf=>seB n A.length y A (x.R r) inv O++[(53,0,f.C)]) (fls:=λ_=>[LF n y,CF n y]) f hf U rS ⟨U,U,tV⟩ rS bL (aGq f) U⟩⟩⟩,ck U (ck U (ck U (ck (U5 uJ hci) (ck U (ck U U))))),[],cg,U,U,U,λg hg=>⟨ck U (ck U (ck U (ck (U5 uJ hci) (ck U (ck U U))))),[],cm g hg,U,U,U,λf hf=>⟨ck U (ck U (ck U (ck (U5 uJ hci) (ck U (ck U U))))),iP (M:=λ_=>true) (base:=[]) (λt d ht=>by cases ht) (chg:=λ_:RatM=>bKb c kk O.length k i) (bls:=λf=>seB n A.length y A (x.R r) inv O++[(53,0,f.C)]) (fls:=λ_=>[LF n y,CF n y]) f hf U rS ⟨U,U,tV⟩ rS bL (aGq f) U⟩⟩⟩
   replace hf:Cr f (fac es r c i):=hf
   have hcl:∀c'∈(⟨kk,f⟩:EntM).C,fS c'=true:=λc' hc'=>by
    rcases bW.1 hc' with rfl|hc'
    ·rfl
    exact gF _ c' hc'
   refine⟨bXn,U0,i,⟨U,hin,cS hin⟩,_,_,⟨hci2,U⟩,ck U (ck U (ck U (ck (U5 uJ hci2) (ck U (ck U (ck U (ck U U))))))),0,i,⟨U,hin,U,U,(iA _).symm,by show(y.L i).length+1<=maxLen;simp only[maxLen];omega,by show((y.L i).length+1)*64<=_;omega,hcl⟩,λA' c'=>⟨ck U (ck U (ck U (ck (U5 uJ hci2) (ck U (ck U (ck U (ck U U))))))),i,⟨U,hin,cS hin⟩,_,aCu (e:=⟨kk,f⟩) hin,?_⟩⟩
   refine⟨bXo,U0,i,⟨U,hin,cS hin⟩,_,_,⟨hci,U⟩,[],bCc f ((Cr.rq hf rf).le),U,U,U,λq hq=>⟨ck U (ck U (ck U (ck U (ck (U5 uJ hci) (ck U (ck U (ck U (ck U U)))))))),[],bCk (y.R i) (x.R r) q (hrow.ev (hb i hin)) hev (hb i hin) (hb r hr) h1 (Cr.rq hq (uL rf)) (uL rf) oM hoi.1.1 hro.1.1 (by have:=hoi.2;omega) (by have:=hro.2;omega),U,U,U,λg hg=>⟨ck U (ck U (ck U (ck U (ck (U5 uJ hci) (ck U (ck U (ck U (ck U U)))))))),i,⟨U,hin,cS hin⟩,_,gX (c:=cF g) (Q:=λk=>cF (upd y.R i g k)) hin (λj _=>?_),?_⟩⟩⟩
   ·by_cases e:j=i
    ·subst e;rw[U3 U,bF]
    rw[U2 e,aY e]
   obtain⟨rs,hgr,hm⟩:=hg
   have hv:=aRp hm hoi.1 hro.1
   have hvl:=kY hv
   have hgl:=hgr.ln
   have hci3:(eA n λj=>cF (upd y.R i g j))[i*1]? =some (cF g):=(eD hin).trans (U5 (λz=>some (cF z)) bF)
   refine⟨_,U,[6,5,0,1,2,3,4,1001],aUk (seY y i kk g A' c' f y.Cc y.U8) (x.R r) (A:=A) (i:=i) hrk hro.1 hro.2 hn hE.ca,U,U,U,λI2 hI2=>?_⟩
   replace hI2:DI (es r) n i (es r).length y.U8 I2:=hI2
   refine⟨i,⟨U,hin,cS hin⟩,_,hci3,?_⟩
   show Sd _ _ _ _ _ _
   refine bX (λ_=>true) (λu:Nat×(Nat->Nat)×(Nat->List CV)=>cBq c kk O.length k i g u.1) (λu=>seB n A.length (seY y i kk g A' c' f u.2.1 u.2.2) A (x.R r) inv O) (λu=>[LF n (seY y i kk g A' c' f u.2.1 u.2.2),CF n (seY y i kk g A' c' f u.2.1 u.2.2)]) (λu=>u.1<=rs.length/\AI rs n i u.1 I2 u.2.2) (λu=>rs.length-u.1) λhM2=>⟨hM2 (0,y.Cc,I2) ⟨aB _,AI.start⟩ U rS ⟨aEi (T:=75) (n:=n) (A:=upd y.LA i A') (cap:=upd y.Lc i c') (G:=y.L) (j:=i) (e:=⟨kk,f⟩),U,tV⟩ rS bL aCz U,λ⟨k2,Cc,I3⟩ ⟨hk2,hA⟩=>vk ⟨λh8=>vk ?_,λh8=>vk ?_⟩⟩
   all_goals
    replace hk2:k2<=rs.length:=hk2
    replace hA:AI rs n i k2 I2 I3:=hA
   ·have hk2l:k2<rs.length:=by replace h8:(k2:Int)<(g.l.length:Nat):=h8;omega
    have he:=hgr.e k2 hk2l
    have e0:=hv.2 _ (fN hk2l)
    obtain⟨j0,hj0⟩:∃j0:Nat,(rs.getD k2 U6).1=(j0:Nat):=⟨(rs.getD k2 U6).1.toNat,Uc⟩
    have hjn:j0<n:=Uc
    have hix:(g.l.getD k2 U6).ix=(j0:Nat):=he.1.trans hj0
    obtain⟨bb,hbj⟩:=hE.ca j0 hjn
    refine⟨k2,⟨U,show k2<g.l.length by omega⟩,oLv,U0,j0,⟨hix,hjn,cS hjn⟩,_,_,⟨aBt hjn hbj,U⟩,1,j0,i,⟨hjn,hbj,U⟩,(k2+1:Nat),wi,?_⟩
    exact hM2 (k2+1,upd Cc j0 (xS (I3 j0) (Cc j0) i).2,upd I3 j0 (xS (I3 j0) (Cc j0) i).1) ⟨⟨hk2l,hA.next hk2l hj0⟩,show rs.length-(k2+1)<rs.length-k2 by omega⟩ U rS ⟨U,U,tV⟩ rS bL aCz U
   obtain rfl:k2=rs.length:=by replace h8:¬(k2:Int)<(g.l.length:Nat):=h8;omega
   have hSn:=hS.next hkl hOd (rs:=rs) (by rw[<-hi];exact hm)
   rw[<-hi] at hSn
   obtain⟨-,-,hS2⟩:=hSn
   have hE2:=bDq (c:=c) (kk:=kk) (LA':=A') (Lc':=c') (Cc':=Cc) (e:=⟨kk,f⟩) (z:=((kk:Int),fac es r c i)) hE hr hin (λhh=>hh.elim hui hir) hgr (by rw[ei,er];exact hm) U hf (by rw[er];exact hI2) hA
   rw[el] at hE2
   have hbr:=bNm hm hoi.1.1 hro.1.1 h1 (hb i hin) (hb r hr) (uL rf)
   refine⟨(k+1:Nat),wi,hM (k+1,seY y i kk g A' c' f Cc I3,upd es' i rs,upd lw' i (lw i++[((kk:Int),fac es r c i)])) ⟨⟨hkl,hE2,hS2,λj hj=>?_,λj hj=>?_⟩,show O.length-(k+1)<O.length-k by omega⟩ U rS ⟨U,U,tV⟩ rS bL aCz U⟩
   ·show rbE (upd es' i rs j) _
    by_cases e:j=i
    ·subst e;rw[bF];exact λe' he'=>(hbr e' he').le
    rw[aY e];exact hb' j hj
   show rbE (upd lw' i _ j) _
   by_cases e:j=i
   ·subst e
    rw[bF]
    intro e' he'
    rcases aO.1 he' with he'|he'
    ·exact(hbl j hin e' he').le
    rw[aE.1 he'];exact rf.le
   rw[aY e];exact hbl' j hj
  replace h7:¬(k:Int)<(O.length:Nat):=h7
  obtain rfl:k=O.length:=Uc
  rw[cQ] at hS
  exact⟨(y,es',lw'),⟨⟨hE,λi hi=>hS.yes i ((hOm i).2 hi),λi hi=>hS.no i λhh=>hi ((hOm i).1 hh)⟩,hb',hbl'⟩,kU U rS ⟨U,U,tV⟩ bL aRn U aGo⟩
 have hG':upd G 0 [CV.r none 0 b (x.Cc c) (aBg p q (U8 c) k)] 0=[CV.r none 0 b (x.Cc c) (aBg p q (U8 c) k)]:=bF
 have hk:k∈U8 c:=hg0 k (by rw[h6];exact dU _ (.head _))
 have hmea:(p++q).length<(gg 0).length:=by rw[h6];simp
 refine⟨2,1,c,b,k,aBg p q (U8 c) k,⟨bL,U,hG',hc,hbc,U,hk⟩,?_⟩
 have m8:∀{i:Nat},∀c∈(aGp O).map iC++[iC (oI k:Nat)],kS i c=false:=λc hc=>by rw[aIi] at hc;exact bJ (aW _ c hc)
 have l8:O.length*1=((aGp O).map iC).length:=by rw[aK,aOs];omega
 refine⟨⟨U,l8,by show O.length+1<=maxLen;simp only[maxLen];omega,by show(O.length+1)*8<=_;omega,m8⟩,cl1,cl2,cl3,cl4,bJb,?_⟩
 exact iP (M:=λ_=>true) (base:=[]) (λt d ht=>by cases ht) (chg:=λg:List Nat×(Nat->List CV)×Nat×(Nat->List CV)=>seG c kk r0 g.1.length) (bls:=λg=>seB n A.length x A (x.R r) inv g.1) (fls:=λg=>[LF n x,CF n (x.maps U8),itF r0 g.2.2.2]) (O++[oI k],aBg p q (U8 c) k,x.Cc c,upd G 0 [.r none 0 b (x.Cc c) (aBg p q (U8 c) k)]) ⟨⟨⟨U,aH _,hG'⟩,aXi (h6▸hO),λk' hk'=>hg0 k' (by
  rw[h6]
  rcases aO.1 hk' with hh|hh
  ·exact cX _ hh
  exact dU _ (.tail _ hh))⟩,hmea⟩ U ⟨U,U,U,U,U,U,U,U,U5 (λl:List CV=>((3,1,l):TypeId×Nat×List CV)) aIi⟩ ⟨U,U,U,tV⟩ ⟨by show O.length+1=(O++[oI k]).length;simp,U,U,U,U,U,U,U⟩ bL aCz U
end Go.Proofs.YtljcaaakbkneaaaGreat
namespace Go.Proofs.YtljcaaakbkneaaaGreat
open Go.Vg _root_.Go.Proofs.Tryz
open Go.Vm hiding sgn
open Go.Vy hiding val
set_option maxRecDepth 8000
def cmE (x y:Int):Int:=if x<y then-1 else if y<x then 1 else 0
theorem bDr {x y:Int}:cmE x y<0↔x<y:=by unfold cmE;split<;>(try split)<;>omega
theorem bNn (x:Int):Ctr pgQ 190 [] [.c (iC x)] [] (λ_:Unit=>⟨pC False,[],True⟩):=by
 refine cw func190 (⟨(),tV,aI (show(x≠x↔False) from ⟨λh=>h U,λh=>h.elim⟩) U tV⟩)
theorem bDs (x y:Int):Ctr pgQ 148 [] [.c (iC x),.c (iC y)] [] (λ_:Unit=>⟨.c (iC (cmE x y)),[],True⟩):=by
 refine cw func148 (⟨[],bNn x,U,U,U,λ_ _=>⟨[],bNn y,U,U,U,λ_ _=>⟨λh=>U4 h id,λ_=>vk ⟨λh=>U4 h id,λ_=>vk ⟨λh1=>vk ?_,λh1=>vk ⟨λh2=>vk ?_,λh2=>vk ?_⟩⟩⟩⟩⟩⟩)
 ·replace h1:x<y:=h1
  exact⟨(),tV,aI (show-1=cmE x y by unfold cmE;rw[U3 h1]) U tV⟩
 ·replace h1:¬x<y:=h1
  replace h2:y<x:=h2
  exact⟨(),tV,aI (show 1=cmE x y by unfold cmE;rw[U2 h1,U3 h2]) U tV⟩
 replace h1:¬x<y:=h1
 replace h2:¬y<x:=h2
 exact⟨(),tV,aI (show 0=cmE x y by unfold cmE;rw[U2 h1,U2 h2]) U tV⟩
theorem bDt (x:Int):Ctr pgQ 199 [] [.c (iC x)] [] (λ_:Unit=>⟨pC False,[],True⟩):=by
 refine cw func199 (⟨(),tV,aI (show(x≠x↔False) from ⟨λh=>h U,λh=>h.elim⟩) U tV⟩)
theorem bXp (x y:Int):Ctr pgQ 159 [] [.c (iC x),.c (iC y)] [] (λ_:Unit=>⟨.c (iC (cmE x y)),[],True⟩):=by
 refine cw func159 (⟨[],bDt x,U,U,U,λ_ _=>⟨[],bDt y,U,U,U,λ_ _=>⟨λh=>U4 h id,λ_=>vk ⟨λh=>U4 h id,λ_=>vk ⟨λh1=>vk ?_,λh1=>vk ⟨λh2=>vk ?_,λh2=>vk ?_⟩⟩⟩⟩⟩⟩)
 ·replace h1:x<y:=h1
  exact⟨(),tV,aI (show-1=cmE x y by unfold cmE;rw[U3 h1]) U tV⟩
 ·replace h1:¬x<y:=h1
  replace h2:y<x:=h2
  exact⟨(),tV,aI (show 1=cmE x y by unfold cmE;rw[U2 h1,U3 h2]) U tV⟩
 replace h1:¬x<y:=h1
 replace h2:¬y<x:=h2
 exact⟨(),tV,aI (show 0=cmE x y by unfold cmE;rw[U2 h1,U2 h2]) U tV⟩
theorem bKc (i j:IntM) {a b:Int} (hi:In i a 35184372088832) (hj:In j b 35184372088832):Ctr pgQ 160 [] [.a i.C,.a j.C] [] (λ_:Unit=>⟨.c (iC (cmE a b)),[],True⟩):=by
 have ha:=hi.abs
 have hb:=hj.abs
 refine cw func160 (⟨.seq [(0,false),(2,false),(1,false),(3,true),(4,false),(5,false)],U0,[],aGg i hi,U,U,U,λ_ _=>⟨[],aGg j hj,U,U,U,λ_ _=>⟨λh=>vk ?_,λh=>vk ⟨λh2=>vk ?_,λh2=>vk ⟨λh3=>vk ?_,λh3=>vk ?_⟩⟩⟩⟩⟩)
 ·replace h:sgn a<sgn b:=h
  refine⟨(),tV,aI ?_ rfl tV⟩
  show(-1:Int)=cmE a b
  unfold sgn at h;unfold cmE
  (repeat split at*)<;>omega
 all_goals replace h:¬sgn a<sgn b:=h
 ·replace h2:sgn b<sgn a:=h2
  refine⟨(),tV,aI ?_ rfl tV⟩
  show(1:Int)=cmE a b
  unfold sgn at h h2;unfold cmE
  (repeat split at*)<;>omega
 all_goals replace h2:¬sgn b<sgn a:=h2
 ·replace h3:sgn a<0:=h3
  refine⟨[],wD j.m i.m hj.lm hi.lm hj.ln hi.ln,U,U,U,λ_ _=>⟨(),tV,aI ?_ rfl tV⟩⟩
  show sN (val j.m.l) (val i.m.l)=cmE a b
  rw[ha,hb]
  unfold sgn at h h2 h3;unfold cmE sN
  (repeat split at*)<;>omega
 replace h3:¬sgn a<0:=h3
 refine⟨[],wD i.m j.m hi.lm hj.lm hi.ln hj.ln,U,U,U,λ_ _=>⟨(),tV,aI ?_ rfl tV⟩⟩
 show sN (val i.m.l) (val j.m.l)=cmE a b
 rw[ha,hb]
 unfold sgn at h h2 h3;unfold cmE sN
 (repeat split at*)<;>omega
def cmQ (a b:Rat):Int:=if a<b then-1 else if b<a then 1 else 0
theorem bDu (q:Rat):sgn q.num=cmQ q 0:=by
 have h1:q<0↔q.num<0:=by
  have:=Rat.num_nonneg (q:=q)
  grind
 have h2:q.num=0↔q=0:=cY
 unfold sgn cmQ
 (repeat split)<;>grind
theorem sC (a b:Rat):sgn (a-b).num=cmQ a b:=by
 rw[bDu]
 unfold cmQ
 (repeat split)<;>grind
theorem bKd {a b:Rat} (h:sgn a.num≠sgn b.num):cmE (sgn a.num) (sgn b.num)=cmQ a b:=by
 rw[bDu,bDu] at*
 unfold cmE
 unfold cmQ at*
 (repeat split at*)<;>grind
theorem bDv {a b c d:Int} {p q:Rat} (hc:0<c) (hd:0<d) (h1:Rat.divInt a c=p) (h2:Rat.divInt b d=q):cmE (a*d) (b*c)=cmQ p q:=by
 have e1:=aSw hc hd h1 h2
 have e2:=aSw hd hc h2 h1
 unfold cmE cmQ
 simp only[e1,e2]
theorem wP (r s:RatM) {a b:Rat} (hr:Rq r a 4398046511104) (hs:Rq s b 4398046511104):Ctr pgQ 110 [] [.a r.C,.a s.C] [] (λ_:Unit=>⟨.c (iC (cmQ a b)),[],True⟩):=by
 refine cw func110 (⟨.seq [(0,false),(2,false),(1,false),(3,true),(4,false),(5,false)],U0,[],kV r hr.le,U,U,U,λ_ _=>⟨[],kV s hs.le,U,U,U,λ_ _=>⟨λh=>vk ?_,λh=>vk ?_⟩⟩⟩)
 ·exact⟨[],bDs _ _,U,U,U,λ_ _=>⟨(),tV,aI (bKd h) U tV⟩⟩
 refine⟨[],sO r hr.le,U,U,U,λu hu=>⟨[],sO s hs.le,U,U,U,λv hv=>⟨λh=>vk ?_,λ_=>vk ?_⟩⟩⟩
 ·obtain⟨u1,u2,u3⟩:=hu h.1
  obtain⟨v1,v2,v3⟩:=hv h.2
  have m1:=aAf u1 (b:=v.2.1) ⟨Uc,v2.2⟩
  have m2:=aAf v1 (b:=u.2.1) ⟨Uc,u2.2⟩
  exact⟨_,m1.1,_,m2.1,[],bXp _ _,U,U,U,λ_ _=>⟨(),tV,aI (bDv u2.1 v2.1 u3 v3) U tV⟩⟩
 refine⟨[],qU r hr bL bL,U,U,U,λx ⟨hx,hxz⟩=>⟨[],qU s hs bL bL,U,U,U,λy ⟨hy,hyz⟩=>?_⟩⟩
 have ldx:=aJ (dZ hx.ld) hx.bd
 have ldy:=aJ (dZ hy.ld) hy.bd
 have l1:=yA hx.n.len (b:=(val y.d.l:Nat)) ldy
 have l2:=yA hy.n.len (b:=(val x.d.l:Nat)) ldx
 refine⟨.seq [(0,false),(1,false),(2,false),(4,false),(5,false),(6,false),(3,false),(7,true),(8,true),(9,false)],U0,[],aBq x.n (den y.d) (hx.n.le bL) (aKo hy.ld (aJ hy.bd bL)),U,U,U,λp hp=>⟨[],aBq y.n (den x.d) (hy.n.le bL) (aKo hx.ld (aJ hx.bd bL)),U,U,U,λq hq=>⟨[],bKc p q (Ci.in hp (aJ l1 bL)) (Ci.in hq (aJ l2 bL)),U,U,U,λ_ _=>⟨(),tV,aI (bDv oM oM hx.v hy.v) U tV⟩⟩⟩⟩
theorem bSr (r s:RatM) {a:Rat} (hr:Rq r a 4398046511104) (hs:Rq s a 4398046511104):Ctr pgQ 110 [] [.a r.C,.a s.C] [] (λ_:Unit=>⟨.c (iC 0),[],True⟩):=by
 have h:=wP r s hr hs
 rw[show cmQ a a=0 by unfold cmQ;rw[U2 uQ,U2 uQ]] at h
 exact h
end Go.Proofs.YtljcaaakbkneaaaGreat
namespace Go.Proofs.YtljcaaakbkneaaaGreat
open Go.Vg _root_.Go.Proofs.Tryz
open Go.Vm
open Go.Vy hiding val
set_option maxRecDepth 20000
section bits
open Go.RowKit Go.Shelf
def cBr:Ren:=⟨λn=>if n=125 then 189 else if n=128 then 221 else if n=129 then 222 else 0,λn=>if n=3 then 3 else if n=4 then 4 else if n=5 then 5 else if n=9 then 9 else if n=46 then 185 else if n=51 then 98 else if n=53 then 118 else 0,λx=>x⟩
theorem bKe:Lays.n125 pgQ cBr:=by
 constructor<;>first|kernel_rfl|(intro w;kernel_rfl)
end bits
theorem bDw (ys:List EntM):ecs ys=fl EntM.C U6 ys:=by
 have h:∀n,n<=ys.length->ecs (ys.take n)=flatR n λj=>(ys.getD j U6).C:=λn=>by
  induction n with
  |zero=>intro _;rfl
  |succ n ih=>
   intro h
   rw[gL,<-ih oM,dF,aG h,gd h]
   exact(qV _ _).symm
 have h2:=h ys.length (aH _)
 rw[cQ] at h2
 exact h2
theorem aUl {ys:List EntM} {k:Nat} {e:EntM} (h:k<ys.length):mJ (ecs ys) (k*4) e.C=ecs (ys.set k e)/\k*4+e.C.length<=(ecs ys).length:=by
 rw[bDw,bDw]
 exact aUi (f:=EntM.C) (e:=4) (λ_=>U) h
theorem aGr {ys:List EntM} {k:Nat} (h:k<ys.length):((ecs ys).drop (k*4)).take 4=(ys.getD k U6).C/\(ys.getD k U6).C.length=4:=⟨(sP ys k h).symm,U⟩
theorem yE {ys:List EntM} {k:Nat} (h:k<ys.length):k*4<(ecs ys).length:=by rw[iA];omega
def SrE (ys:List EntM) (m:Nat):Prop:=∀a b,a<b->b<m->(ys.getD a U6).ix<=(ys.getD b U6).ix
def SwE (ys:List EntM) (j:Nat):List EntM:=(ys.set j (ys.getD (j-1) U6)).set (j-1) (ys.getD j U6)
theorem aUm {ys:List EntM} {j k:Nat} (h:j<ys.length):(SwE ys j).getD k U6=if k=j-1 then ys.getD j U6 else if k=j then ys.getD (j-1) U6 else ys.getD k U6:=by
 unfold SwE
 simp only[aC,List.getElem?_set,cC]
 by_cases h1:k=j-1
 ·subst h1;rw[U3 U,U3 U,U3 oM];rfl
 rw[U2 h1,U2 (gU h1)]
 by_cases h2:k=j
 ·subst h2;rw[U3 U,U3 U,U3 h];rfl
 rw[U2 h2,U2 (gU h2)]
theorem bSs {ys:List EntM} {j:Nat}:(SwE ys j).length=ys.length:=by unfold SwE;rw[cC,cC]
theorem bKf {ys:List EntM} {j:Nat} (h:j<ys.length):(SwE ys j).Perm ys:=by
 unfold SwE
 have h1:j-1<ys.length:=Uc
 rw[gd h,gd h1]
 exact List.set_set_perm h h1
def SnE (ys:List EntM) (i j:Nat):Prop:=(∀a b,a<b->b<=i->a≠j->b≠j->(ys.getD a U6).ix<=(ys.getD b U6).ix)/\∀b,j<b->b<=i->(ys.getD j U6).ix<(ys.getD b U6).ix
theorem SnE.start {ys:List EntM} {i:Nat} (h:SrE ys i):SnE ys i i:=⟨λa b h1 h2 _ h4=>h a b h1 oM,λb h1 h2=>Uc⟩
theorem SnE.stop {ys:List EntM} {i j:Nat} (h:SnE ys i j) (he:¬(0<j/\(ys.getD j U6).ix<(ys.getD (j-1) U6).ix)):SrE ys (i+1):=λa b h1 h2=>by
 by_cases ha:a=j
 ·subst ha;exact wU (h.2 b h1 oM)
 by_cases hb:b=j
 ·subst hb
  have h3:(ys.getD (b-1) U6).ix<=(ys.getD b U6).ix:=qJ.1 λhh=>he ⟨Uc,hh⟩
  by_cases h4:a=b-1
  ·subst h4;exact h3
  exact Int.le_trans (h.1 a (b-1) oM oM ha oM) h3
 exact h.1 a b h1 oM ha hb
theorem SnE.next {ys:List EntM} {i j:Nat} (h:SnE ys i j) (hi:i<ys.length) (hj:j<=i) (h0:0<j) (he:(ys.getD j U6).ix<(ys.getD (j-1) U6).ix):SnE (SwE ys j) i (j-1):=by
 have hjl:j<ys.length:=Uc
 refine⟨λa b h1 h2 h3 h4=>?_,λb h1 h2=>?_⟩
 ·rw[aUm hjl,aUm hjl,U2 h3,U2 h4]
  by_cases ha:a=j
  ·rw[U3 ha,U2 oM]
   exact h.1 (j-1) b oM h2 oM oM
  rw[U2 ha]
  by_cases hb:b=j
  ·rw[U3 hb];exact h.1 a (j-1) oM oM ha oM
  rw[U2 hb];exact h.1 a b h1 h2 ha hb
 rw[aUm hjl,aUm hjl,U3 U,U2 oM]
 by_cases hb:b=j
 ·rw[U3 hb];exact he
 rw[U2 hb];exact h.2 b oM h2
theorem bXq {x:Int} (h0:0<=x) (h1:x<=18446744073709551615):Ctr pgQ 189 [] [.c (.v (.int .u64 x))] [] (λ_:Unit=>⟨.c (iC (Go.Lib.bitLen x.toNat:Nat)),[],True⟩):=by
 refine⟨(eo func189),ClB.nil,λD w vals hv hD hF=>?_⟩
 match vals,hv with
 |[v1],⟨h2,_⟩=>
  have e1:=h2.inv_c.inv_v
  subst e1
  exact(Go.Proofs.Any.bits_Len bKe x w h0 h1).mono λe w' ⟨he,hw⟩=>⟨_,he,bBp hD hF (hw▸Ext.refl w) U⟩
theorem cBs (e f:EntM):Ctr pgQ 182 [] [.a e.C,.a f.C] [] (λ_:Unit=>⟨.c (iC (cmE e.ix f.ix)),[],True⟩):=by
 refine cw func182 (⟨[],bDs e.ix f.ix,U,U,U,λ_ _=>⟨(),tV,aI U U tV⟩⟩)
abbrev isG (q:FuncId) (n i:Nat):List (Nat×DV):=[(8,.c (iC i)),(0,.c (.s 0 n)),(1,.c (iC (0:Nat))),(2,.c (iC n)),(3,.c (.f q [] []))]
abbrev isB (ys:List EntM):BL:=[(75,4,ecs ys)]
theorem rG {ys:List EntM}:scB 1 (isB ys):=aA (nT _) aU
theorem bXr {q:FuncId} (hcq:∀e f:EntM,Ctr pgQ q [] [.a e.C,.a f.C] [] (λ_:Unit=>⟨.c (iC (cmE e.ix f.ix)),[],True⟩)) (ys:List EntM) (hn:ys.length<=4096):CtrF pgQ 213 [true] [.c (.s 0 ys.length),.c (iC (0:Nat)),.c (iC (ys.length:Nat)),.c (.f q [] [])] (isB ys) [] (λzs:List EntM=>⟨.t [],isB zs,[],zs.Perm ys/\SrE zs ys.length⟩):=by
 refine oP gT (eo func213) func213 U U U bL (aAg (iB ys)) (vk ⟨(1:Nat),by rfl,?_⟩)
 show Sd _ _ _ _ _ _
 refine bX (λ_=>true) (λg:Nat×List EntM=>isG q ys.length g.1) (λg=>isB g.2) (λ_=>[]) (λg=>(g.1<=ys.length\/g.1=1)/\g.2.length=ys.length/\g.2.Perm ys/\SrE g.2 g.1) (λg=>ys.length+1-g.1) λhM=>⟨hM (1,ys) ⟨.inr rfl,U,zB _,λa b h1 h2=>by have h3:b<1:=h2;omega⟩ U U trivial rS bL rG U,λ⟨i,xs⟩ ⟨hi,hl,hp,hs⟩=>vk ⟨λh2=>vk ?_,λh2=>vk ?_⟩⟩
 all_goals
  replace hi:i<=ys.length\/i=1:=hi
  replace hl:xs.length=ys.length:=hl
  replace hp:xs.Perm ys:=hp
  replace hs:SrE xs i:=hs
 ·replace h2:(i:Int)<(ys.length:Nat):=h2
  have hin:i<ys.length:=Uc
  show Sd _ _ _ _ _ _
  refine bX (λ_=>true) (λg:Nat×List EntM=>(9,.c (iC g.1))::isG q ys.length i) (λg=>isB g.2) (λ_=>[]) (λg=>g.1<=i/\g.2.length=ys.length/\g.2.Perm ys/\SnE g.2 i g.1) (λg=>g.1) λhM2=>⟨hM2 (i,xs) ⟨aH _,hl,hp,SnE.start hs⟩ U U trivial rS bL rG U,λ⟨j,zs⟩ ⟨hj,hzl,hzp,hz⟩=>vk ?_⟩
  replace hj:j<=i:=hj
  replace hzl:zs.length=ys.length:=hzl
  replace hzp:zs.Perm ys:=hzp
  replace hz:SnE zs i j:=hz
  have hjl:j<zs.length:=Uc
  have hjl1:j-1<zs.length:=Uc
  refine⟨.seq (sq 14 (List.range 17)),U0,?_⟩
  have hjy:j<ys.length:=Uc
  have hj1:0<j->((j-1:Nat):Int)=(j:Int)-1:=λhq=>Uc
  refine⟨j,λhq=>⟨U,hjy,yE hjl⟩,(zs.getD j U6).C,λhq=>aGr hjl,(j-1:Nat),λhq=>?_,j-1,λhq=>⟨U,Uc,yE hjl1⟩,(zs.getD (j-1) U6).C,λhq=>aGr hjl1,λhq=>⟨[],hcq (zs.getD j U6) (zs.getD (j-1) U6),U,U,U,λ_ _=>⟨λh3=>vk ?_,λh3=>vk ?_⟩⟩,λhq=>?_⟩
  ·replace hq:((0:Nat):Int)<(j:Nat):=hq
   exact wi (by show((j-1:Nat):Int)=(j:Int)-1/\-9223372036854775808<=(j:Int)-1/\(j:Int)-1<=9223372036854775807;omega)
  ·replace hq:((0:Nat):Int)<(j:Nat):=hq
   have h0:0<j:=Uc
   have hlt:=bDr.1 h3
   have hjs:j-1<(zs.set j (zs.getD (j-1) U6)).length:=by rw[cC];omega
   refine⟨.seq ((List.range 18).map λi=>(i,i==15||i==17)),U0,(j-1:Nat),?_,(j-1:Nat),?_,j-1,⟨U,Uc,yE hjl1⟩,_,aGr hjl1,j,⟨U,hjy,yE hjl⟩,_,aGr hjl,j,⟨U,hjy,yE hjl⟩,_,aUl hjl,j-1,⟨U,Uc,yE hjs⟩,_,aUl hjs,(j-1:Nat),?_,?_⟩
   ·exact wi (by show((j-1:Nat):Int)=(j:Int)-1/\-9223372036854775808<=(j:Int)-1/\(j:Int)-1<=9223372036854775807;omega)
   ·exact wi (by show((j-1:Nat):Int)=(j:Int)-1/\-9223372036854775808<=(j:Int)-1/\(j:Int)-1<=9223372036854775807;omega)
   ·exact wi (by show((j-1:Nat):Int)=(j:Int)-1/\-9223372036854775808<=(j:Int)-1/\(j:Int)-1<=9223372036854775807;omega)
   exact hM2 (j-1,SwE zs j) ⟨⟨show j-1<=i by omega,bSs.trans hzl,(bKf hjl).trans hzp,hz.next oM hj h0 hlt⟩,show j-1<j by omega⟩ U U trivial rS bL rG U
  ·replace hq:((0:Nat):Int)<(j:Nat):=hq
   refine⟨(i+1:Nat),wi,hM (i+1,zs) ⟨⟨.inl hin,hzl,hzp,hz.stop ?_⟩,show ys.length+1-(i+1)<ys.length+1-i by omega⟩ U U trivial rS bL rG U⟩
   exact λhh=>h3 (bDr.2 hh.2)
  replace hq:¬((0:Nat):Int)<(j:Nat):=hq
  refine⟨(i+1:Nat),wi,hM (i+1,zs) ⟨⟨.inl hin,hzl,hzp,hz.stop ?_⟩,show ys.length+1-(i+1)<ys.length+1-i by omega⟩ U U trivial rS bL rG U⟩
  exact λhh=>hq oM
 replace h2:¬(i:Int)<(ys.length:Nat):=h2
 exact⟨xs,⟨hp,λa b h3 h4=>hs a b h3 oM⟩,kU U U trivial bL rG U (aAg (iB xs))⟩
abbrev pqG (q:FuncId) (n:Nat):List (Nat×DV):=[(0,.c (.s 0 n)),(1,.c (iC (0:Nat))),(2,.c (iC n)),(4,.c (.f q [] []))]
theorem bXs {q:FuncId} (hcq:∀e f:EntM,Ctr pgQ q [] [.a e.C,.a f.C] [] (λ_:Unit=>⟨.c (iC (cmE e.ix f.ix)),[],True⟩)) (ys:List EntM) (m:Nat) (hn:ys.length<=12):CtrF pgQ 188 [true] [.c (.s 0 ys.length),.c (iC (0:Nat)),.c (iC (ys.length:Nat)),.c (iC m),.c (.f q [] [])] (isB ys) [] (λzs:List EntM=>⟨.t [],isB zs,[],zs.Perm ys/\SrE zs ys.length⟩):=by
 refine oP gT (eo func188) func188 U U U bL (aAg (iB ys)) (vk ?_)
 show Sd _ _ _ _ _ _
 refine bX (λ_=>true) (λ_:Unit=>pqG q ys.length) (λ_=>isB ys) (λ_=>[]) (λ_=>True) (λ_=>0) λhM=>⟨hM () trivial U U trivial rS bL rG U,λ_ _=>vk ⟨(ys.length:Nat),?_,⟨λh2=>vk ?_,λh2=>vk ?_⟩⟩⟩
 ·exact wi (by show((ys.length:Nat):Int)=(ys.length:Nat)-((0:Nat):Int)/\-9223372036854775808<=((ys.length:Nat):Int)-((0:Nat):Int)/\((ys.length:Nat):Int)-((0:Nat):Int)<=9223372036854775807;omega)
 ·exact⟨none,[0],bXr hcq ys oM,U,U,U,λzs hz=>⟨zs,hz,kU U U trivial bL rG U (aAg (iB zs))⟩⟩
 replace h2:¬((ys.length:Nat):Int)<=12:=h2
 omega
theorem bNo {q:FuncId} (hcq:∀e f:EntM,Ctr pgQ q [] [.a e.C,.a f.C] [] (λ_:Unit=>⟨.c (iC (cmE e.ix f.ix)),[],True⟩)) (ys:List EntM) {m:Nat} (hm:ys.length=m) (hn:m<=12):CtrF pgQ 146 [true] [.c (.s 0 m),.c (.f q [] [])] (isB ys) [] (λzs:List EntM=>⟨.t [],isB zs,[],zs.Perm ys/\SrE zs m⟩):=by
 obtain rfl:=hm
 have hw:IntKind.u64.wrap ((ys.length:Nat):Int)=(ys.length:Nat):=aFc oM
 refine oP gT (eo func146) func146 U U U bL (aAg (iB ys)) (vk ⟨((ys.length:Nat):Int),hw.symm,[],bXq (x:=(ys.length:Nat)) oM oM,U,U,U,λ_ _=>⟨none,[0],bXs hcq ys _ hn,U,U,U,λzs hz=>⟨zs,hz,kU U U trivial bL rG U (aAg (iB zs))⟩⟩⟩)
theorem bXt (ys:List EntM) {m:Nat} (hm:ys.length=m) (hn:m<=12):CtrF pgQ 146 [true] [.c (.s 0 m),.c (.f 182 [] [])] (isB ys) [] (λzs:List EntM=>⟨.t [],isB zs,[],zs.Perm ys/\SrE zs m⟩):=bNo cBs ys hm hn
structure PmL (p:List Int) (n:Nat):Prop where
 ln:p.length=n
 at':∀i,i<n->∃m:Nat,p.getD i 0=(m:Nat)/\m<n
 inj:∀i j,i<n->j<n->p.getD i 0=p.getD j 0->i=j
def bw (s:Nat->Bool):Nat->CV:=λj=>bif s j then .v (.bool true) else sL (.bool false)
theorem bSt {s:Nat->Bool} (n j:Nat) (_:j<n):fS (bw s j)=true:=by unfold bw;cases s j<;>rfl
theorem bDx {s:Nat->Bool} {n j:Nat} (h:j<n):mJ (eA n (bw s)) (j*1) [.v (.bool true)]=eA n (bw (upd s j true))/\j*1+1<=(eA n (bw s)).length:=gX h λi _=>by
 by_cases e:i=j
 ·subst e;rw[U3 U];unfold bw;rw[bF];rfl
 rw[U2 e];unfold bw;rw[aY e]
def SnP (p:List Int) (k:Nat) (s:Nat->Bool):Prop:=∀j,s j=true->∃i,i<k/\p.getD i 0=(j:Nat)
theorem SnP.next {p:List Int} {k m:Nat} {s:Nat->Bool} (h:SnP p k s) (hm:p.getD k 0=(m:Nat)):SnP p (k+1) (upd s m true):=λj hj=>by
 by_cases e:j=m
 ·subst e;exact⟨k,aS _,hm⟩
 rw[aY e] at hj
 obtain⟨i,h1,h2⟩:=h j hj
 exact⟨i,Uc,h2⟩
theorem SnP.not {p:List Int} {k m n:Nat} {s:Nat->Bool} (h:SnP p k s) (hp:PmL p n) (hk:k<n) (hm:p.getD k 0=(m:Nat)):s m=false:=by
 cases e:s m with
 |false=>rfl
 |true=>
  obtain⟨i,h1,h2⟩:=h m e
  have:=hp.inj i k oM hk (h2.trans hm.symm)
  omega
abbrev ipG (g:Sl Int) (n k:Nat):List (Nat×DV):=[(11,.c (iC k)),(9,.c (cI g)),(10,.c (iC n)),(0,.c (cI g)),(3,.c (.s 0 n))]
abbrev ipB (n:Nat) (s:Nat->Bool):BL:=[(4,1,eA n (bw s))]
theorem aLf {n:Nat} {s:Nat->Bool}:scB 1 (ipB n s):=aA (bG (bD (bSt n))) aU
theorem bSu (g:Sl Int) {n:Nat} (hp:PmL g.l n) (hn:n<=4096):Ctr pgQ 180 [] [.c (cI g)] [] (λ_:Unit=>⟨.c (.v (.bool true)),[],True⟩):=by
 obtain rfl:g.l.length=n:=hp.ln
 refine cw func180 (⟨g.l.length,⟨U,U,by show 1*g.l.length<=_;omega,by simp only[maxLen];omega⟩,?_⟩)
 show Sd _ _ _ _ _ _
 refine gJ tSd 0 (eA g.l.length (bw λ_=>false)) U (by rw[dD,cU]) (uM λ_ _=>fE _) ?_
 refine bX (λ_=>true) (λu:Nat×(Nat->Bool)=>ipG g g.l.length u.1) (λu=>ipB g.l.length u.2) (λ_=>[]) (λu=>u.1<=g.l.length/\SnP g.l u.1 u.2) (λu=>g.l.length-u.1) λhM=>⟨hM (0,λ_=>false) ⟨aB _,λj hj=>by cases hj⟩ U U trivial rS bL aLf U,λ⟨k,s⟩ ⟨hk,hs⟩=>vk ⟨λh2=>vk ?_,λh2=>vk ?_⟩⟩
 all_goals
  replace hk:k<=g.l.length:=hk
  replace hs:SnP g.l k s:=hs
 ·replace h2:(k:Int)<(g.l.length:Nat):=h2
  have hkl:k<g.l.length:=Uc
  obtain⟨m,hm,hmn⟩:=hp.at' k hkl
  have hf:=hs.not hp hkl hm
  have hc:(eA g.l.length (bw s))[m*1]? =some (sL (.bool false)):=(eD hmn).trans (by unfold bw;rw[hf];rfl)
  refine⟨k,⟨U,hkl⟩,m,λhq=>⟨hm,hmn,cS hmn⟩,_,λhq=>hc,?_⟩
  refine⟨λh3=>?_,λh3=>vk ⟨m,⟨hm,hmn,cS hmn⟩,_,bDx hmn,(k+1:Nat),wi,hM (k+1,upd s m true) ⟨⟨hkl,hs.next hm⟩,show g.l.length-(k+1)<g.l.length-k by omega⟩ U U trivial rS bL aLf U⟩⟩
  replace h3:(g.l.getD k 0<0\/((g.l.length:Nat):Int)<=g.l.getD k 0)\/(false=true):=h3
  rcases h3 with h3|h3
  ·omega
  cases h3
 exact vk ⟨(),tV,aI U U tV⟩
theorem aOt:∀(ys:List EntM) (k:Nat) (z:Int),k<ys.length->mJ (ecs ys) (k*4) [iC z]=ecs (ys.set k ⟨z,(ys.getD k U6).v⟩)/\k*4+1<=(ecs ys).length
 |[],k,z,h=>U4 h (aF _)
 |e::ys,0,z,h=>⟨U,by rw[iA];simp;omega⟩
 |e::ys,k+1,z,h=>by
  obtain⟨h1,h2⟩:=aOt ys k z (by simpa using h)
  refine⟨?_,by rw[iA];simp at h;simp;omega⟩
  show mJ (e.C++ecs ys) ((k+1)*4) [iC z]=e.C++ecs (ys.set k ⟨z,(ys.getD k U6).v⟩)
  rw[<-h1]
  unfold mJ
  have e4:(k+1)*4=e.C.length+k*4:=by rw[dH,iD];rfl
  rw[e4,List.take_length_add_append,jF,List.drop_length_add_append,cW]
def reE (f:EntM->EntM) (ys:List EntM) (k:Nat):List EntM:=(ys.take k).map f++ys.drop k
theorem aUn {f:EntM->EntM} {ys:List EntM} {k:Nat} (h:k<=ys.length):(reE f ys k).length=ys.length:=by unfold reE;simp;omega
theorem bDy {f:EntM->EntM} {ys:List EntM} {k:Nat} (h:k<ys.length):(reE f ys k).getD k U6=ys.getD k U6:=by
 unfold reE
 rw[aC,bH (by simp;omega),dN,aC]
 simp only[aK,bI]
 congr 2
 omega
theorem bKg {f:EntM->EntM} {ys:List EntM} {k:Nat} (h:k<ys.length):(reE f ys k).set k (f (ys.getD k U6))=reE f ys (k+1):=by
 unfold reE
 have h1:((ys.take k).map f).length=k:=by simp;omega
 rw[jA _ _ oM,h1,gH,dK h,List.set_cons_zero,dF,aG h,gd h,bA,cW]
 rfl
theorem bKh {f:EntM->EntM} {ys:List EntM}:reE f ys ys.length=ys.map f:=by unfold reE;simp
theorem aUo {ys zs:List EntM} (h:zs.Perm ys):∀{es:List En},Ek ys es->∃rs:List En,Ek zs rs/\rs.Perm es:=by
 have cons:∀{e:EntM} {ys:List EntM} {z:En} {es:List En},Ek (e::ys) (z::es)↔(e.ix=z.1/\Cr e.v z.2)/\Ek ys es:=λ{e ys z es}=>by
  constructor
  ·intro h
   refine⟨h.e 0 (by simp),by simpa using h.ln,λk hk=>h.e (k+1) (by simpa using hk)⟩
  rintro⟨h1,h2⟩
  refine⟨by simpa using h2.ln,λk hk=>?_⟩
  match k,hk with
  |0,_=>exact h1
  |k+1,hk=>exact h2.e k (by simpa using hk)
 induction h with
 |nil=>intro es h;exact⟨es,h,zB _⟩
 |cons e hp ih=>
  intro es h
  match es,h with
  |[],h=>have:=h.ln;simp at this
  |z::es,h=>
   obtain⟨h1,h2⟩:=cons.1 h
   obtain⟨rs,h3,h4⟩:=ih h2
   exact⟨z::rs,cons.2 ⟨h1,h3⟩,h4.cons z⟩
 |swap a b l=>
  intro es h
  match es,h with
  |[],h=>have:=h.ln;simp at this
  |[z],h=>have:=h.ln;simp at this
  |z::z'::es,h=>
   obtain⟨h1,h2⟩:=cons.1 h
   obtain⟨h3,h4⟩:=cons.1 h2
   exact⟨z'::z::es,cons.2 ⟨h3,cons.2 ⟨h1,h4⟩⟩,List.Perm.swap _ _ _⟩
 |trans _ _ ih1 ih2=>
  intro es h
  obtain⟨rs,h1,h2⟩:=ih2 h
  obtain⟨ts,h3,h4⟩:=ih1 h1
  exact⟨ts,h3,h4.trans h2⟩
def rnE (p:List Int) (e:En):En:=(p.getD e.1.toNat 0,e.2)
def rnM (p:List Int) (e:EntM):EntM:=⟨p.getD e.ix.toNat 0,e.v⟩
theorem bSv {ys:List EntM} {es:List En} {p:List Int} (h:Ek ys es):Ek (ys.map (rnM p)) (es.map (rnE p)):=⟨by rw[aK,aK];exact h.ln,λk hk=>by
 rw[aK] at hk
 have hk':k<ys.length:=by rw[h.ln];exact hk
 have h1:=h.e k hk
 rw[gd (by rwa [aK]),gd (by rwa [aK]),vN,vN,<-gd (d:=U6) hk,<-gd (d:=U6) hk']
 exact⟨by show p.getD _ 0=p.getD _ 0;rw[h1.1],h1.2⟩⟩
theorem bDz {zs:List EntM} {rs es:List En} {p:List Int} {n:Nat} (hz:Ek zs rs) (hs:SrE zs zs.length) (hp:rs.Perm (es.map (rnE p))) (ho:VOk es (n:Nat)) (hP:PmL p n):Asc rs:=by
 have hnd:(rs.map λe=>e.1).Nodup:=by
  refine((hp.map λe=>e.1).nodup_iff).2 ?_
  rw[lH,cT,gI]
  refine ho.1.imp_of_mem λ{a b} ha hb hab he=>?_
  have h1:=ho.2 a ha
  have h2:=ho.2 b hb
  have h3:a.1<b.1:=hab
  have:=hP.inj a.1.toNat b.1.toNat oM oM he
  omega
 refine gW.2 λi j hi hj hij=>?_
 have h1:=hs i j hij (by rw[hz.ln];exact hj)
 have hi':=hz.e i hi
 have hj':=hz.e j hj
 rw[hi'.1,hj'.1,gd hi,gd hj] at h1
 have h2:rs[i].1≠rs[j].1:=λe=>by
  have:=(cT.1 hnd)
  rw[gI,gW] at this
  exact this i j hi hj hij e
 show rs[i].1<rs[j].1
 omega
theorem _root_.Go.Vy.CtrF.clo {P:Program} {q:FuncId} {cl:List Bool} {al:List DV} {fl:List Fam} {σ:Type} {R:σ->OutF} (h:CtrF P q [] al [] fl R) (hc:∀g,(R g).C->ClB cl (R g).bl):CtrF P q cl al [] fl R:=⟨h.ent,λi T es l hi=>(by cases hi),λD w vals hv hD hF=>(h.run D w vals hv hD hF).mono λe w' ⟨v,he,g,ρ',c1,c2,c3,_,c5⟩=>⟨v,he,g,ρ',c1,c2,c3,hc g c1,c5⟩⟩
theorem bKi (x:Sl EntM) {es:List En} {B:Nat} (h:Ev x.l es B) (hb:rbE es B) (h1:1<=B) (hB:B<=4398046511104) (ha:Asc es) (hz:aHi es) (hn:es.length<=4096):Ctr pgQ 181 [true] [.c (cF x)] [] (λys:List EntM=>⟨.c (.s 0 ys.length),isB ys,Ek ys es⟩):=by
 have hm:=(bCj x cG (es:=es) (fs:=[]) (op:=λa _=>a) (q:=211) h ⟨U,λk hk=>U4 hk (aF _)⟩ hb (λe he=>U4 he dI) h1 ha List.Pairwise.nil hn (aB _) U (λa b h _=>h.le hB) (λu v {a b} hu _ _ _=>bNe u v (hu.le hB))).args (al':=[.c (cF x),.c (.v (.slice none 0 0)),.c (.f 211 [] [])]) λD n w vals hv=>(by
  match vals,hv with
  |[v0,v1,v2],⟨h0,h1,h2,h3⟩=>exact⟨h0,.c (qW D n w v1 h1.inv_c),h2,h3⟩)
 replace hm:=hm.clo (cl:=[true]) λys _=>aAg (iB ys)
 refine gA gT (eo func181) func181 U U U bL (λi T es l hi=>by cases hi) (vk ⟨[],aKt x h ha,U,U,U,λ_ _=>⟨[],hm,U,U,U,λg ⟨rs,h2,h3⟩=>⟨g,?_,fH U U bL rG U (aAg (iB g))⟩⟩⟩)
 have e:rs=es:=canon_ext rs es h3.a ha h3.z hz h3.g
 rw[<-e];exact h2
abbrev prG (g:Sl Int) (m k:Nat):List (Nat×DV):=[(16,.c (iC k)),(14,.c (.s 0 m)),(15,.c (iC m)),(6,.c (.s 0 m)),(1,.c (cI g))]
theorem bEa (x:Sl EntM) (g:Sl Int) {es:List En} {B n:Nat} (h:Ek x.l es) (hb:rbE es B) (h1:1<=B) (hB:B<=4398046511104) (ho:VOk es (n:Nat)) (hn:n<=12) (hg:PmL g.l n):Ctr pgQ 139 [] [.c (cF x),.c (cI g)] [] (λy:Sl EntM=>⟨.t [.c (cF y),.c (.v (.bool true))],[],∃rs,Ek y.l rs/\Asc rs/\rs.Perm (es.map (rnE g.l))⟩):=by
 have hel:es.length<=n:=kY ho
 have hgl:=hg.ln
 refine cw func139 (⟨[],bSu g hg oM,U,U,U,λ_ _=>⟨[],bKi x (h.ev hb) hb h1 hB ho.1 (λe he=>(ho.2 e he).2.2) oM,U,U,U,λys hys=>?_⟩⟩)
 replace hys:Ek ys es:=hys
 have hyl:=hys.ln
 show Sd _ _ _ _ _ _
 refine bX (λ_=>true) (λk:Nat=>prG g ys.length k) (λk=>isB (reE (rnM g.l) ys k)) (λ_=>[]) (λk=>k<=ys.length) (λk=>ys.length-k) λhM=>⟨hM 0 (aB _) U U trivial rS bL rG U,λk hk=>vk ⟨λh2=>vk ?_,λh2=>vk ?_⟩⟩
 all_goals
  replace hk:k<=ys.length:=hk
 ·replace h2:(k:Int)<(ys.length:Nat):=h2
  have hkl:k<ys.length:=Uc
  have hr:=aUn (f:=rnM g.l) hk
  have hkr:k<(reE (rnM g.l) ys k).length:=Uc
  have he:=hys.e k oM
  have hv:=ho.2 _ (fN (l:=es) (k:=k) oM)
  obtain⟨m,hm⟩:∃m:Nat,(ys.getD k U6).ix=(m:Nat):=⟨(ys.getD k U6).ix.toNat,Uc⟩
  have hmn:m<n:=Uc
  refine⟨k,⟨U,hkl,yE hkr⟩,_,aGr hkr,?_⟩
  rw[bDy hkl]
  refine⟨λh3=>?_,λh3=>vk ?_⟩
  ·replace h3:(ys.getD k U6).ix<0\/((g.l.length:Nat):Int)<=(ys.getD k U6).ix:=h3
   omega
  have hst:mJ (ecs (reE (rnM g.l) ys k)) (k*4) [iC (g.l.getD m 0)]=ecs (reE (rnM g.l) ys (k+1))/\k*4+1<=(ecs (reE (rnM g.l) ys k)).length:=by
   obtain⟨e1,e2⟩:=aOt (reE (rnM g.l) ys k) k (g.l.getD m 0) hkr
   refine⟨e1.trans (U5 ecs ?_),e2⟩
   rw[<-bKg hkl,bDy hkl]
   unfold rnM
   rw[hm]
   rfl
  exact⟨m,⟨hm,Uc⟩,k,⟨U,hkl,yE hkr⟩,_,hst,(k+1:Nat),wi,hM (k+1) ⟨hkl,show ys.length-(k+1)<ys.length-k by omega⟩ U U trivial rS bL rG U⟩
 replace h2:¬(k:Int)<(ys.length:Nat):=h2
 obtain rfl:k=ys.length:=Uc
 have hr:=aUn (f:=rnM g.l) (aH ys.length)
 show Sd _ _ _ _ _ _
 refine Sd.sq (vk ⟨none,[0],bXt _ hr oM,U,U,U,λzs hz=>nS 6 0 (λj=>(zs.getD j U6).C) U U (λj hj=>?_) ?_ bL (iB zs) bL λA c _ _=>vk ?_⟩)
 all_goals
  obtain⟨hz1,hz2⟩:=hz
  have hzl:zs.length=ys.length:=hz1.length_eq.trans hr
 ·exact sP zs j oM
 ·rw[iA,hzl]
 rw[bKh] at hz1
 obtain⟨rs,r1,r2⟩:=aUo hz1 (bSv hys)
 exact⟨⟨A,c,zs⟩,⟨rs,r1,bDz r1 (hzl▸hz2) r2 ho hg,r2⟩,aI ⟨U5 (λm=>CV.r A m c 4 λj=>(zs.getD j U6).C) hzl.symm,U⟩ U tV⟩
end Go.Proofs.YtljcaaakbkneaaaGreat
