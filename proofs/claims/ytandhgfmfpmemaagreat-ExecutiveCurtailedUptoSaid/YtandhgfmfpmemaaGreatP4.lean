/- ExecutiveCurtailed, second form: for arguments of bulk at most 1048576 the law returns true and the arguments read as before; no other condition. Part 4 of 7: Dg Dh Msel Di Mrem Mdiv Mcut Mref Mreg Dj Dk Misl Ed Ee Ef Eg Eh Vyq Fa Fb. -/
import Derived.Test.YtandhgfmfpmemaaGreatP3
set_option linter.unusedVariables false
set_option linter.unusedSimpArgs false
namespace Go.Proofs.YtandhgfmfpmemaaGreat
open Go.Vg _root_.Go.Proofs.Tryz
open Go.Vm hiding sg sg_t sg_f sg_abs sg_neg sg_add sg_mul sg_self sg_canon sg_pos sg_zero sg_eq_zero sg_lt
open Go.Vy hiding val
set_option maxHeartbeats 1000000
def sq (n:Nat) (l:List Nat):List (Nat×Bool):=l.map fun i=>(i,i==n)
theorem In.den {X:Sl Nat} {B:Nat} (hl:Lm X.l) (hb:X.l.length≤B):In ⟨false=true,inferInstance,X⟩ (val X.l) B:=⟨hl,hb,sg_f (p:=false=true) (fun h=>by cases h)⟩
theorem Ci.den {X:Sl Nat} {n:Nat} (h:X.l=digs n):Ci ⟨false=true,inferInstance,X⟩ (n:Int):=⟨⟨fun h=>(by cases h),fun h=>by omega⟩,by rw[Int.natAbs_natCast];exact h⟩
abbrev fRNorm:FuncId:=132
theorem eRNorm:Ent Tryz.prog fRNorm:=Ent.of func132 rfl kR
theorem bRNorm:Tryz.prog.funcs[fRNorm]? =some Tryz.f132:=func132
theorem rnorm_c (r:RatM) {q:Rat} (h:Rq r q 549755813888):Ctr Tryz.prog fRNorm [] [.a r.C] [] (RatR q):=by
 refine ctr_of gT eRNorm bRNorm rfl rfl rfl bL ClB.nil (VC_ok gT mxd ⟨[],rmake_c r.n ⟨false=true,inferInstance,r.d⟩ h.n (In.den h.ld h.bd),rfl,rfl,rfl,fun g hg=>⟨g,?_,fin_of rfl rfl trivial⟩⟩)
 rw[←h.v];exact hg
abbrev fRDen:FuncId:=133
theorem eRDen:Ent Tryz.prog fRDen:=Ent.of func133 rfl kR
theorem bRDen:Tryz.prog.funcs[fRDen]? =some Tryz.f133:=func133
theorem rden_c (r:RatM) {q:Rat} (h:Rq r q 549755813888):Ctr Tryz.prog fRDen [] [.a r.C] [] (IntR (q.den:Int)):=by
 refine ctr_of gT eRDen bRDen rfl rfl rfl bL ClB.nil (VC_ok gT mxd ⟨[],rnorm_c r h,rfl,rfl,rfl,fun g hg=>⟨⟨false=true,inferInstance,g.d⟩,Ci.den hg.2,fin_of rfl rfl trivial⟩⟩)
abbrev fRFrom:FuncId:=70
theorem eRFrom:Ent Tryz.prog fRFrom:=Ent.of func70 rfl kR
theorem bRFrom:Tryz.prog.funcs[fRFrom]? =some Tryz.f70:=func70
theorem rfrom_c {z:Int} (hz:-9223372036854775808≤z∧z≤9223372036854775807):Ctr Tryz.prog fRFrom [] [.c (iC z)] [] (RatR (z:Rat)):=by
 have hl:=len_u64 (n:=z.natAbs)
 refine ctr_of gT eRFrom bRFrom rfl rfl rfl bL ClB.nil (VC_ok gT mxd ⟨[],ifrom_c hz,rfl,rfl,rfl,fun g hg=>⟨[],ifrom_c (z:=1) dC,rfl,rfl,rfl,fun o ho=>⟨[],rmake_c g o (Ci.in hg oM) (Ci.in ho dC),rfl,rfl,rfl,fun r hr=>⟨r,?_,fin_of rfl rfl trivial⟩⟩⟩⟩)
 rw[←int_law];exact hr
abbrev fRSign:FuncId:=124
theorem eRSign:Ent Tryz.prog fRSign:=Ent.of func124 rfl kR
theorem bRSign:Tryz.prog.funcs[fRSign]? =some Tryz.f124:=func124
theorem rsign_c (r:RatM) {q:Rat} (h:Rq r q 549755813888):Ctr Tryz.prog fRSign [] [.a r.C] [] (fun _:Unit=>⟨.c (iC (sgn q.num)),[],True⟩):=by
 refine ctr_of gT eRSign bRSign rfl rfl rfl bL ClB.nil (VC_ok gT mxd ⟨[],rnorm_c r h,rfl,rfl,rfl,fun g hg=>⟨[],isign_c g.n (Ci.in hg.1 (h.rb.le).1),rfl,rfl,rfl,fun _ _=>⟨(),trivial,fin_of rfl rfl trivial⟩⟩⟩)
theorem rb_neg {q:Rat} {B:Nat} (h:rb q B):rb (-q) B:=by
 unfold rb at h ⊢
 rw[show(-q).num=-q.num from rfl,show(-q).den=q.den from rfl,Int.natAbs_neg];exact h
abbrev fRNeg:FuncId:=142
theorem eRNeg:Ent Tryz.prog fRNeg:=Ent.of func142 rfl kR
theorem bRNeg:Tryz.prog.funcs[fRNeg]? =some Tryz.f142:=func142
theorem rneg_c (r:RatM) {q:Rat} (h:Rq r q 549755813888):Ctr Tryz.prog fRNeg [] [.a r.C] [] (RatR (-q)):=by
 have hb:=h.rb
 refine ctr_of gT eRNeg bRNeg rfl rfl rfl bL ClB.nil (VC_ok gT mxd ⟨.seq [(0,false),(4,false),(1,false),(2,false),(3,false),(5,false),(6,false),(7,true)],by kernel_rfl,[],rnorm_c r h,rfl,rfl,rfl,fun g hg=>⟨[],ineg_c g.n (v:=q.num) (Ci.in hg.1 (hb.le).1),rfl,rfl,rfl,fun n hn=>⟨[],rden_c r h,rfl,rfl,rfl,fun d hd=>⟨[],rmake_c n d (Ci.in hn (by rw[Int.natAbs_neg];exact hb.1)) (Ci.in hd hb.2),rfl,rfl,rfl,fun x hx=>⟨x,?_,fin_of rfl rfl trivial⟩⟩⟩⟩⟩)
 rw[←rneg_law];exact hx
theorem mul_len {a b:Int} {B:Nat} (ha:len a.natAbs≤B) (hb:len b.natAbs≤B):len (a*b).natAbs≤B+B:=by
 rw[Int.natAbs_mul]
 have:=len_mul a.natAbs b.natAbs
 omega
theorem add_len {a b:Int} {B:Nat} (ha:len a.natAbs≤B) (hb:len b.natAbs≤B):len (a+b).natAbs≤B+1:=by
 have h1:=len_mono (Int.natAbs_add_le a b)
 have h2:=len_add a.natAbs b.natAbs
 omega
theorem rb_add {a b:Rat} {B:Nat} (ha:rb a B) (hb:rb b B) (hB:1≤B:=by decide):rb (a+b) (B+B+1):=by
 have h1:=rl_num (a:=a.num*(b.den:Int)+b.num*(a.den:Int)) (b:=(a.den:Int)*(b.den:Int))
 have h2:=rl_den (a:=a.num*(b.den:Int)+b.num*(a.den:Int)) (b:=(a.den:Int)*(b.den:Int))
 rw[radd_law] at h1 h2
 have h3:=add_len (mul_len ha.1 (b:=(b.den:Int)) hb.2) (mul_len hb.1 (b:=(a.den:Int)) ha.2)
 have h4:=mul_len (a:=(a.den:Int)) (b:=(b.den:Int)) ha.2 hb.2
 simp only[len_digs] at h1 h2
 exact⟨by omega,by omega⟩
def oA:Ord:=.joinR [0,2] (.alt 1 (.alt 3 (.alt 4 (trS [5,1006,1007]) (trS [5,4,1006,1007])) (.alt 4 (.alt 3 (trS [5,1006,1007]) (trS [5,3,1006,1007])) (.alt 5 (.alt 3 (trS [4,1006,1007]) (trS [4,3,1006,1007])) .nil))) (.alt 4 (.alt 1 (.alt 3 (trS [5,1006,1007]) (trS [5,3,1006,1007])) (trS [5,1,3,1006,1007])) (.alt 5 (.alt 1 (.alt 3 (trS [4,1006,1007]) (trS [4,3,1006,1007])) (trS [4,1,3,1006,1007])) .nil)))
def chgA (r s:RatM) (g:RatM×RatM):List (Nat×DV):=[(5,.c (.p 3 0)),(6,.c (.p 4 0)),(2,.c (.p 0 0)),(3,.c (.p 1 0)),(4,.c (.p 2 0))]
def ratZ:List CV:=[.b (false=true) inferInstance,.v (.slice none 0 0),.v (.slice none 0 0)]
def blsA (r s:RatM) (g:RatM×RatM):BL:=[(120,0,r.C),(120,0,s.C),(120,0,ratZ),(120,0,g.1.C),(120,0,g.2.C)]
theorem gsw {nb:Nat} {s:SS} {σ:Type} {S:σ→SS} {C:σ→Prop} (i j:Nat) {bi bj:TypeId×Nat×List CV} (hbi:s.bl[i]? =some bi) (hbj:s.bl[j]? =some bj) (hni:nb≤i) (hnj:nb≤j) (hgl:s.gl=[])
 (h:sslK (swC i j) s.sl fun sl'=>setK s.bl i bj fun bl1=>setK bl1 j bi fun bl2=>sblK (swC i j) 1000000 0 bl2 fun bl'=>bl'.length≤1000000∧Gt nb ⟨sl',[],bl',s.fl⟩ S C):Gt nb s S C:=gswap (X:=fun t=>Gt nb t S C) tGt i j hbi hbj hni hnj hgl h
theorem g0:∀t d,getS [] t=some d→(fun _:Nat=>true) t=false:=fun t d h=>by cases h
theorem scA {r s:RatM} {g:RatM×RatM}:scB (blsA r s g).length (blsA r s g):=scB.cons rfl (scB.cons rfl (scB.cons rfl (scB.cons rfl (scB.cons rfl scB.nil))))
abbrev fRAdd:FuncId:=143
theorem eRAdd:Ent Tryz.prog fRAdd:=Ent.of func143 rfl kR
theorem bRAdd:Tryz.prog.funcs[fRAdd]? =some Tryz.f143:=func143
theorem radd_c (r s:RatM) {a b:Rat} (hr:Rq r a 137438953472) (hs:Rq s b 137438953472):Ctr Tryz.prog fRAdd [] [.a r.C,.a s.C] [] (RatR (a+b)):=by
 have ha:=hr.rb
 have hb:=hs.rb
 have m1:=mul_len ha.1 (b:=(b.den:Int)) hb.2
 have m2:=mul_len hb.1 (b:=(a.den:Int)) ha.2
 have m3:=mul_len (a:=(a.den:Int)) (b:=(b.den:Int)) ha.2 hb.2
 have m4:=add_len m1 m2
 refine ctr_of gT eRAdd bRAdd rfl rfl rfl bL ClB.nil (VC_ok gT mxd ⟨oA,by kernel_rfl,RatM×RatM,fun g=>⟨chgA r s g++[],[],blsA r s g,[]⟩,fun g=>Cr g.1 a∧Cr g.2 b,⟨⟨[],rnorm_c r hr.le,rfl,rfl,rfl,fun x hx=>⟨⟨[],rnorm_c s hs.le,rfl,rfl,rfl,fun y hy=>⟨gfin g0 (chg:=chgA r s) (bls:=blsA r s) (fls:=fun _=>[]) (x,y) ⟨hx,hy⟩ rfl ⟨rfl,rfl,rfl,rfl,rfl⟩ trivial ⟨rfl,rfl,rfl,rfl,rfl⟩ bL scA rfl,gsw 3 4 rfl rfl bL bL rfl ⟨bL,gfin g0 (chg:=chgA r s) (bls:=blsA r s) (fls:=fun _=>[]) (x,y) ⟨hx,hy⟩ rfl ⟨rfl,rfl,rfl,rfl,rfl⟩ trivial ⟨rfl,rfl,rfl,rfl,rfl⟩ bL scA rfl⟩⟩⟩,⟨⟨[],rnorm_c s hs.le,rfl,rfl,rfl,fun y hy=>gfin g0 (chg:=chgA r s) (bls:=blsA r s) (fls:=fun _=>[]) (x,y) ⟨hx,hy⟩ rfl ⟨rfl,rfl,rfl,rfl,rfl⟩ trivial ⟨rfl,rfl,rfl,rfl,rfl⟩ bL scA rfl⟩,⟨[],rnorm_c s hs.le,rfl,rfl,rfl,fun y hy=>gfin g0 (chg:=chgA r s) (bls:=blsA r s) (fls:=fun _=>[]) (x,y) ⟨hx,hy⟩ rfl ⟨rfl,rfl,rfl,rfl,rfl⟩ trivial ⟨rfl,rfl,rfl,rfl,rfl⟩ bL scA rfl⟩⟩,⟨⟨[],rnorm_c s hs.le,rfl,rfl,rfl,fun y hy=>gsw 3 4 rfl rfl bL bL rfl ⟨bL,gfin g0 (chg:=chgA r s) (bls:=blsA r s) (fls:=fun _=>[]) (x,y) ⟨hx,hy⟩ rfl ⟨rfl,rfl,rfl,rfl,rfl⟩ trivial ⟨rfl,rfl,rfl,rfl,rfl⟩ bL scA rfl⟩⟩,⟨[],rnorm_c s hs.le,rfl,rfl,rfl,fun y hy=>gsw 3 4 rfl rfl bL bL rfl ⟨bL,gfin g0 (chg:=chgA r s) (bls:=blsA r s) (fls:=fun _=>[]) (x,y) ⟨hx,hy⟩ rfl ⟨rfl,rfl,rfl,rfl,rfl⟩ trivial ⟨rfl,rfl,rfl,rfl,rfl⟩ bL scA rfl⟩⟩⟩⟩⟩,⟨⟨[],rnorm_c r hr.le,rfl,rfl,rfl,fun x hx=>⟨⟨[],rnorm_c s hs.le,rfl,rfl,rfl,fun y hy=>gfin g0 (chg:=chgA r s) (bls:=blsA r s) (fls:=fun _=>[]) (x,y) ⟨hx,hy⟩ rfl ⟨rfl,rfl,rfl,rfl,rfl⟩ trivial ⟨rfl,rfl,rfl,rfl,rfl⟩ bL scA rfl⟩,⟨[],rnorm_c s hs.le,rfl,rfl,rfl,fun y hy=>gfin g0 (chg:=chgA r s) (bls:=blsA r s) (fls:=fun _=>[]) (x,y) ⟨hx,hy⟩ rfl ⟨rfl,rfl,rfl,rfl,rfl⟩ trivial ⟨rfl,rfl,rfl,rfl,rfl⟩ bL scA rfl⟩⟩⟩,⟨[],rnorm_c r hr.le,rfl,rfl,rfl,fun x hx=>⟨[],rnorm_c s hs.le,rfl,rfl,rfl,fun y hy=>gfin g0 (chg:=chgA r s) (bls:=blsA r s) (fls:=fun _=>[]) (x,y) ⟨hx,hy⟩ rfl ⟨rfl,rfl,rfl,rfl,rfl⟩ trivial ⟨rfl,rfl,rfl,rfl,rfl⟩ bL scA rfl⟩⟩⟩,⟨⟨[],rnorm_c r hr.le,rfl,rfl,rfl,fun x hx=>⟨⟨[],rnorm_c s hs.le,rfl,rfl,rfl,fun y hy=>gsw 3 4 rfl rfl bL bL rfl ⟨bL,gfin g0 (chg:=chgA r s) (bls:=blsA r s) (fls:=fun _=>[]) (x,y) ⟨hx,hy⟩ rfl ⟨rfl,rfl,rfl,rfl,rfl⟩ trivial ⟨rfl,rfl,rfl,rfl,rfl⟩ bL scA rfl⟩⟩,⟨[],rnorm_c s hs.le,rfl,rfl,rfl,fun y hy=>gsw 3 4 rfl rfl bL bL rfl ⟨bL,gfin g0 (chg:=chgA r s) (bls:=blsA r s) (fls:=fun _=>[]) (x,y) ⟨hx,hy⟩ rfl ⟨rfl,rfl,rfl,rfl,rfl⟩ trivial ⟨rfl,rfl,rfl,rfl,rfl⟩ bL scA rfl⟩⟩⟩⟩,⟨[],rnorm_c r hr.le,rfl,rfl,rfl,fun x hx=>⟨[],rnorm_c s hs.le,rfl,rfl,rfl,fun y hy=>gsw 3 4 rfl rfl bL bL rfl ⟨bL,gfin g0 (chg:=chgA r s) (bls:=blsA r s) (fls:=fun _=>[]) (x,y) ⟨hx,hy⟩ rfl ⟨rfl,rfl,rfl,rfl,rfl⟩ trivial ⟨rfl,rfl,rfl,rfl,rfl⟩ bL scA rfl⟩⟩⟩⟩⟩,fun⟨x,y⟩ ⟨hx,hy⟩=>?_⟩)
 refine⟨.seq [(0,false),(1,false),(2,false),(5,false),(6,false),(7,false),(11,false),(13,false),(3,false),(4,false),(8,false),(9,false),(10,false),(12,false),(14,false),(15,false),(16,false),(17,true)],by kernel_rfl,[],rden_c s hs.le,rfl,rfl,rfl,fun d1 h1=>⟨[],imul_c x.n d1 (a:=a.num) (Ci.in hx.1 (ha.le).1) (Ci.in h1 (hb.le).2),rfl,rfl,rfl,fun p1 h2=>⟨[],rden_c r hr.le,rfl,rfl,rfl,fun d2 h3=>⟨[],imul_c y.n d2 (a:=b.num) (Ci.in hy.1 (hb.le).1) (Ci.in h3 (ha.le).2),rfl,rfl,rfl,fun p2 h4=>?_⟩⟩⟩⟩
 refine⟨[],iadd_c p1 p2 (Ci.in h2 oM) (Ci.in h4 oM),rfl,rfl,rfl,fun s1 h5=>⟨[],rden_c r hr.le,rfl,rfl,rfl,fun d3 h6=>⟨[],rden_c s hs.le,rfl,rfl,rfl,fun d4 h7=>⟨[],imul_c d3 d4 (Ci.in h6 (ha.le).2) (Ci.in h7 (hb.le).2),rfl,rfl,rfl,fun p3 h8=>⟨[],rmake_c s1 p3 (Ci.in h5 oM) (Ci.in h8 oM),rfl,rfl,rfl,fun g hg=>⟨g,?_,fin_of rfl rfl trivial⟩⟩⟩⟩⟩⟩
 rw[←radd_law];exact hg
abbrev fRSub:FuncId:=123
theorem eRSub:Ent Tryz.prog fRSub:=Ent.of func123 rfl kR
theorem bRSub:Tryz.prog.funcs[fRSub]? =some Tryz.f123:=func123
theorem rsub_c (r s:RatM) {a b:Rat} (hr:Rq r a 137438953472) (hs:Rq s b 137438953472):Ctr Tryz.prog fRSub [] [.a r.C,.a s.C] [] (RatR (a-b)):=by
 refine ctr_of gT eRSub bRSub rfl rfl rfl bL ClB.nil (VC_ok gT mxd ⟨.seq [(0,false),(1,false),(2,false),(3,false),(4,true)],by kernel_rfl,[],rneg_c s hs.le,rfl,rfl,rfl,fun n hn=>⟨[],radd_c r n hr (Cr.rq hn (rb_neg hs.rb)),rfl,rfl,rfl,fun g hg=>⟨g,?_,fin_of rfl rfl trivial⟩⟩⟩)
 rw[Rat.sub_eq_add_neg];exact hg
abbrev fRDiv:FuncId:=115
theorem eRDiv:Ent Tryz.prog fRDiv:=Ent.of func115 rfl kR
theorem bRDiv:Tryz.prog.funcs[fRDiv]? =some Tryz.f115:=func115
theorem rdiv_c (r s:RatM) {a b:Rat} (hr:Rq r a 137438953472) (hs:Rq s b 137438953472) (hb0:b≠0):Ctr Tryz.prog fRDiv [] [.a r.C,.a s.C] [] (fun g:RatM=>⟨.t [.a g.C,pC True],[],Cr g (a/b)⟩):=by
 have ha:=hr.rb
 have hb:=hs.rb
 have m1:=mul_len ha.1 (b:=(b.den:Int)) hb.2
 have m2:=mul_len (a:=(a.den:Int)) (b:=b.num) ha.2 hb.1
 refine ctr_of gT eRDiv bRDiv rfl rfl rfl bL ClB.nil (VC_ok gT mxd ⟨[],rsign_c s hs.le,rfl,rfl,rfl,fun _ _=>⟨fun h=>absurd (Rat.num_eq_zero.1 (sgn_zero.1 h)) hb0,fun h=>VC_ok gT mxd ?_⟩⟩)
 refine⟨.seq [(0,false),(3,false),(6,false),(8,false),(1,false),(2,false),(4,false),(5,false),(7,false),(9,false),(10,false),(11,false),(12,false),(13,true),(14,false)],by kernel_rfl,[],rnorm_c r hr.le,rfl,rfl,rfl,fun x hx=>⟨[],rden_c s hs.le,rfl,rfl,rfl,fun d1 h1=>⟨[],imul_c x.n d1 (a:=a.num) (Ci.in hx.1 (ha.le).1) (Ci.in h1 (hb.le).2),rfl,rfl,rfl,fun p1 h2=>⟨[],rden_c r hr.le,rfl,rfl,rfl,fun d2 h3=>⟨[],rnorm_c s hs.le,rfl,rfl,rfl,fun y hy=>⟨[],imul_c d2 y.n (b:=b.num) (Ci.in h3 (ha.le).2) (Ci.in hy.1 (hb.le).1),rfl,rfl,rfl,fun p2 h4=>⟨[],rmake_c p1 p2 (Ci.in h2 oM) (Ci.in h4 oM),rfl,rfl,rfl,fun g hg=>⟨g,?_,fin_of ⟨rfl,tt trivial⟩ rfl trivial⟩⟩⟩⟩⟩⟩⟩⟩
 show Cr g _
 rw[←rdiv_law];exact hg
abbrev fROver:FuncId:=69
theorem eROver:Ent Tryz.prog fROver:=Ent.of func69 rfl kR
theorem bROver:Tryz.prog.funcs[fROver]? =some Tryz.f69:=func69
abbrev fRCmp:FuncId:=118
theorem eRCmp:Ent Tryz.prog fRCmp:=Ent.of func118 rfl kR
theorem bRCmp:Tryz.prog.funcs[fRCmp]? =some Tryz.f118:=func118
theorem rcmp_c (r s:RatM) {a b:Rat} (hr:Rq r a 137438953472) (hs:Rq s b 137438953472):Ctr Tryz.prog fRCmp [] [.a r.C,.a s.C] [] (fun _:Unit=>⟨.c (iC (sgn (a-b).num)),[],True⟩):=by
 refine ctr_of gT eRCmp bRCmp rfl rfl rfl bL ClB.nil (VC_ok gT mxd ⟨[],rsub_c r s hr hs,rfl,rfl,rfl,fun g hg=>⟨[],rsign_c g (Cr.rq hg ((Rat.sub_eq_add_neg a b▸rb_add hr.rb (rb_neg hs.rb)).le)),rfl,rfl,rfl,fun _ _=>⟨(),trivial,fin_of rfl rfl trivial⟩⟩⟩)
end Go.Proofs.YtandhgfmfpmemaaGreat
namespace Go.Proofs.YtandhgfmfpmemaaGreat
open Go.Vg _root_.Go.Proofs.Tryz
open Go.Vm hiding sg sg_t sg_f sg_abs sg_neg sg_add sg_mul sg_self sg_canon sg_pos sg_zero sg_eq_zero sg_lt
open Go.Vy hiding val
set_option maxHeartbeats 1000000
def intZ:List CV:=[.b (false=true) inferInstance,.v (.slice none 0 0)]
def chgF:IntM×IntM→List (Nat×DV):=fun _=>[(3,.c (.p 2 0)),(2,.c (.p 1 0))]
def blsF (r:RatM) (g:IntM×IntM):BL:=[(120,0,r.C),(118,0,intZ),(118,0,g.1.C),(118,0,g.2.C)]
theorem scF {r:RatM} {g:IntM×IntM}:scB (blsF r g).length (blsF r g):=scB.cons rfl (scB.cons rfl (scB.cons rfl (scB.cons rfl scB.nil)))
def oFl:Ord:=.joinR [0,3] (.alt 1 (.alt 2002 (.alt 4 (.alt 5 (.alt 2006 (.alt 2007 (.alt 2008 (.alt 2009 (.alt 10 (.alt 11 (.alt 1012 (.alt 1013 (.alt 2014 .nil .nil) .nil) .nil) .nil) (.alt 11 (.alt 10 (.alt 1012 (.alt 1013 (.alt 2014 .nil .nil) .nil) .nil) .nil) .nil)) .nil) .nil) .nil) .nil) (.alt 10 (.alt 5 (.alt 2006 (.alt 2007 (.alt 2008 (.alt 2009 (.alt 11 (.alt 1012 (.alt 1013 (.alt 2014 .nil .nil) .nil) .nil) .nil) .nil) .nil) .nil) .nil) (.alt 11 (.alt 5 (.alt 2006 (.alt 2007 (.alt 2008 (.alt 2009 (.alt 1012 (.alt 1013 (.alt 2014 .nil .nil) .nil) .nil) .nil) .nil) .nil) .nil) .nil) .nil)) (.alt 11 (.alt 5 (.alt 2006 (.alt 2007 (.alt 2008 (.alt 2009 (.alt 10 (.alt 1012 (.alt 1013 (.alt 2014 .nil .nil) .nil) .nil) .nil) .nil) .nil) .nil) .nil) (.alt 10 (.alt 5 (.alt 2006 (.alt 2007 (.alt 2008 (.alt 2009 (.alt 1012 (.alt 1013 (.alt 2014 .nil .nil) .nil) .nil) .nil) .nil) .nil) .nil) .nil) .nil)) .nil))) (.alt 10 (.alt 4 (.alt 5 (.alt 2006 (.alt 2007 (.alt 2008 (.alt 2009 (.alt 11 (.alt 1012 (.alt 1013 (.alt 2014 .nil .nil) .nil) .nil) .nil) .nil) .nil) .nil) .nil) (.alt 11 (.alt 5 (.alt 2006 (.alt 2007 (.alt 2008 (.alt 2009 (.alt 1012 (.alt 1013 (.alt 2014 .nil .nil) .nil) .nil) .nil) .nil) .nil) .nil) .nil) .nil)) (.alt 11 (.alt 4 (.alt 5 (.alt 2006 (.alt 2007 (.alt 2008 (.alt 2009 (.alt 1012 (.alt 1013 (.alt 2014 .nil .nil) .nil) .nil) .nil) .nil) .nil) .nil) .nil) .nil) .nil)) (.alt 11 (.alt 4 (.alt 5 (.alt 2006 (.alt 2007 (.alt 2008 (.alt 2009 (.alt 10 (.alt 1012 (.alt 1013 (.alt 2014 .nil .nil) .nil) .nil) .nil) .nil) .nil) .nil) .nil) (.alt 10 (.alt 5 (.alt 2006 (.alt 2007 (.alt 2008 (.alt 2009 (.alt 1012 (.alt 1013 (.alt 2014 .nil .nil) .nil) .nil) .nil) .nil) .nil) .nil) .nil) .nil)) (.alt 10 (.alt 4 (.alt 5 (.alt 2006 (.alt 2007 (.alt 2008 (.alt 2009 (.alt 1012 (.alt 1013 (.alt 2014 .nil .nil) .nil) .nil) .nil) .nil) .nil) .nil) .nil) .nil) .nil)) .nil))) .nil) (.alt 10 (.alt 1 (.alt 2002 (.alt 4 (.alt 5 (.alt 2006 (.alt 2007 (.alt 2008 (.alt 2009 (.alt 11 (.alt 1012 (.alt 1013 (.alt 2014 .nil .nil) .nil) .nil) .nil) .nil) .nil) .nil) .nil) (.alt 11 (.alt 5 (.alt 2006 (.alt 2007 (.alt 2008 (.alt 2009 (.alt 1012 (.alt 1013 (.alt 2014 .nil .nil) .nil) .nil) .nil) .nil) .nil) .nil) .nil) .nil)) (.alt 11 (.alt 4 (.alt 5 (.alt 2006 (.alt 2007 (.alt 2008 (.alt 2009 (.alt 1012 (.alt 1013 (.alt 2014 .nil .nil) .nil) .nil) .nil) .nil) .nil) .nil) .nil) .nil) .nil)) .nil) (.alt 11 (.alt 1 (.alt 2002 (.alt 4 (.alt 5 (.alt 2006 (.alt 2007 (.alt 2008 (.alt 2009 (.alt 1012 (.alt 1013 (.alt 2014 .nil .nil) .nil) .nil) .nil) .nil) .nil) .nil) .nil) .nil) .nil) .nil) .nil)) (.alt 11 (.alt 1 (.alt 2002 (.alt 4 (.alt 5 (.alt 2006 (.alt 2007 (.alt 2008 (.alt 2009 (.alt 10 (.alt 1012 (.alt 1013 (.alt 2014 .nil .nil) .nil) .nil) .nil) .nil) .nil) .nil) .nil) (.alt 10 (.alt 5 (.alt 2006 (.alt 2007 (.alt 2008 (.alt 2009 (.alt 1012 (.alt 1013 (.alt 2014 .nil .nil) .nil) .nil) .nil) .nil) .nil) .nil) .nil) .nil)) (.alt 10 (.alt 4 (.alt 5 (.alt 2006 (.alt 2007 (.alt 2008 (.alt 2009 (.alt 1012 (.alt 1013 (.alt 2014 .nil .nil) .nil) .nil) .nil) .nil) .nil) .nil) .nil) .nil) .nil)) .nil) (.alt 10 (.alt 1 (.alt 2002 (.alt 4 (.alt 5 (.alt 2006 (.alt 2007 (.alt 2008 (.alt 2009 (.alt 1012 (.alt 1013 (.alt 2014 .nil .nil) .nil) .nil) .nil) .nil) .nil) .nil) .nil) .nil) .nil) .nil) .nil)) .nil)))
abbrev fRFloor:FuncId:=122
theorem eRFloor:Ent Tryz.prog fRFloor:=Ent.of func122 rfl kR
theorem bRFloor:Tryz.prog.funcs[fRFloor]? =some Tryz.f122:=func122
theorem rfloor_c (r:RatM) {q:Rat} (h:Rq r q 549755813888):Ctr Tryz.prog fRFloor [] [.a r.C] [] (IntR q.floor):=by
 have hb:=h.rb
 have K3:∀(x:RatM) (d:IntM),Cr x q→Ci d (q.den:Int)→Ctr Tryz.prog fIDM [] [.a x.n.C,.a d.C] [] (fun g:IntM×IntM=>⟨.t [.a g.1.C,.a g.2.C,pC True],[],Ci g.1 (q.num/(q.den:Int))∧Ci g.2 (q.num%(q.den:Int))⟩):=fun x d hx hd=>
  idivmod_c x.n d (Ci.in hx.1 (hb.le).1) (Ci.in hd (hb.le).2) (by have:=q.den_pos;omega)
 refine ctr_of gT eRFloor bRFloor rfl rfl rfl bL ClB.nil (VC_ok gT mxd ⟨oFl,by kernel_rfl,IntM×IntM,fun g=>⟨chgF g++[],[],blsF r g,[]⟩,fun g=>Ci g.1 (q.num/(q.den:Int))∧Ci g.2 (q.num%(q.den:Int)),⟨⟨[],rnorm_c r h,rfl,rfl,rfl,fun x hx=>⟨⟨[],rden_c r h,rfl,rfl,rfl,fun d hd=>⟨⟨[],(K3 x d hx hd),rfl,rfl,rfl,fun g hg=>⟨gfin g0 (chg:=chgF) (bls:=blsF r) (fls:=fun _=>[]) g hg rfl ⟨rfl,rfl,rfl,rfl⟩ trivial ⟨rfl,rfl⟩ bL scF rfl,gsw 2 3 rfl rfl bL bL rfl ⟨bL,gfin g0 (chg:=chgF) (bls:=blsF r) (fls:=fun _=>[]) g hg rfl ⟨rfl,rfl,rfl,rfl⟩ trivial ⟨rfl,rfl⟩ bL scF rfl⟩⟩⟩,⟨⟨[],(K3 x d hx hd),rfl,rfl,rfl,fun g hg=>gfin g0 (chg:=chgF) (bls:=blsF r) (fls:=fun _=>[]) g hg rfl ⟨rfl,rfl,rfl,rfl⟩ trivial ⟨rfl,rfl⟩ bL scF rfl⟩,⟨[],(K3 x d hx hd),rfl,rfl,rfl,fun g hg=>gfin g0 (chg:=chgF) (bls:=blsF r) (fls:=fun _=>[]) g hg rfl ⟨rfl,rfl,rfl,rfl⟩ trivial ⟨rfl,rfl⟩ bL scF rfl⟩⟩,⟨⟨[],(K3 x d hx hd),rfl,rfl,rfl,fun g hg=>gsw 2 3 rfl rfl bL bL rfl ⟨bL,gfin g0 (chg:=chgF) (bls:=blsF r) (fls:=fun _=>[]) g hg rfl ⟨rfl,rfl,rfl,rfl⟩ trivial ⟨rfl,rfl⟩ bL scF rfl⟩⟩,⟨[],(K3 x d hx hd),rfl,rfl,rfl,fun g hg=>gsw 2 3 rfl rfl bL bL rfl ⟨bL,gfin g0 (chg:=chgF) (bls:=blsF r) (fls:=fun _=>[]) g hg rfl ⟨rfl,rfl,rfl,rfl⟩ trivial ⟨rfl,rfl⟩ bL scF rfl⟩⟩⟩⟩⟩,⟨⟨[],rden_c r h,rfl,rfl,rfl,fun d hd=>⟨⟨[],(K3 x d hx hd),rfl,rfl,rfl,fun g hg=>gfin g0 (chg:=chgF) (bls:=blsF r) (fls:=fun _=>[]) g hg rfl ⟨rfl,rfl,rfl,rfl⟩ trivial ⟨rfl,rfl⟩ bL scF rfl⟩,⟨[],(K3 x d hx hd),rfl,rfl,rfl,fun g hg=>gfin g0 (chg:=chgF) (bls:=blsF r) (fls:=fun _=>[]) g hg rfl ⟨rfl,rfl,rfl,rfl⟩ trivial ⟨rfl,rfl⟩ bL scF rfl⟩⟩⟩,⟨[],rden_c r h,rfl,rfl,rfl,fun d hd=>⟨[],(K3 x d hx hd),rfl,rfl,rfl,fun g hg=>gfin g0 (chg:=chgF) (bls:=blsF r) (fls:=fun _=>[]) g hg rfl ⟨rfl,rfl,rfl,rfl⟩ trivial ⟨rfl,rfl⟩ bL scF rfl⟩⟩⟩,⟨⟨[],rden_c r h,rfl,rfl,rfl,fun d hd=>⟨⟨[],(K3 x d hx hd),rfl,rfl,rfl,fun g hg=>gsw 2 3 rfl rfl bL bL rfl ⟨bL,gfin g0 (chg:=chgF) (bls:=blsF r) (fls:=fun _=>[]) g hg rfl ⟨rfl,rfl,rfl,rfl⟩ trivial ⟨rfl,rfl⟩ bL scF rfl⟩⟩,⟨[],(K3 x d hx hd),rfl,rfl,rfl,fun g hg=>gsw 2 3 rfl rfl bL bL rfl ⟨bL,gfin g0 (chg:=chgF) (bls:=blsF r) (fls:=fun _=>[]) g hg rfl ⟨rfl,rfl,rfl,rfl⟩ trivial ⟨rfl,rfl⟩ bL scF rfl⟩⟩⟩⟩,⟨[],rden_c r h,rfl,rfl,rfl,fun d hd=>⟨[],(K3 x d hx hd),rfl,rfl,rfl,fun g hg=>gsw 2 3 rfl rfl bL bL rfl ⟨bL,gfin g0 (chg:=chgF) (bls:=blsF r) (fls:=fun _=>[]) g hg rfl ⟨rfl,rfl,rfl,rfl⟩ trivial ⟨rfl,rfl⟩ bL scF rfl⟩⟩⟩⟩⟩⟩,⟨⟨[],rnorm_c r h,rfl,rfl,rfl,fun x hx=>⟨⟨[],rden_c r h,rfl,rfl,rfl,fun d hd=>⟨⟨[],(K3 x d hx hd),rfl,rfl,rfl,fun g hg=>gfin g0 (chg:=chgF) (bls:=blsF r) (fls:=fun _=>[]) g hg rfl ⟨rfl,rfl,rfl,rfl⟩ trivial ⟨rfl,rfl⟩ bL scF rfl⟩,⟨[],(K3 x d hx hd),rfl,rfl,rfl,fun g hg=>gfin g0 (chg:=chgF) (bls:=blsF r) (fls:=fun _=>[]) g hg rfl ⟨rfl,rfl,rfl,rfl⟩ trivial ⟨rfl,rfl⟩ bL scF rfl⟩⟩⟩,⟨[],rden_c r h,rfl,rfl,rfl,fun d hd=>⟨[],(K3 x d hx hd),rfl,rfl,rfl,fun g hg=>gfin g0 (chg:=chgF) (bls:=blsF r) (fls:=fun _=>[]) g hg rfl ⟨rfl,rfl,rfl,rfl⟩ trivial ⟨rfl,rfl⟩ bL scF rfl⟩⟩⟩⟩,⟨[],rnorm_c r h,rfl,rfl,rfl,fun x hx=>⟨[],rden_c r h,rfl,rfl,rfl,fun d hd=>⟨[],(K3 x d hx hd),rfl,rfl,rfl,fun g hg=>gfin g0 (chg:=chgF) (bls:=blsF r) (fls:=fun _=>[]) g hg rfl ⟨rfl,rfl,rfl,rfl⟩ trivial ⟨rfl,rfl⟩ bL scF rfl⟩⟩⟩⟩,⟨⟨[],rnorm_c r h,rfl,rfl,rfl,fun x hx=>⟨⟨[],rden_c r h,rfl,rfl,rfl,fun d hd=>⟨⟨[],(K3 x d hx hd),rfl,rfl,rfl,fun g hg=>gsw 2 3 rfl rfl bL bL rfl ⟨bL,gfin g0 (chg:=chgF) (bls:=blsF r) (fls:=fun _=>[]) g hg rfl ⟨rfl,rfl,rfl,rfl⟩ trivial ⟨rfl,rfl⟩ bL scF rfl⟩⟩,⟨[],(K3 x d hx hd),rfl,rfl,rfl,fun g hg=>gsw 2 3 rfl rfl bL bL rfl ⟨bL,gfin g0 (chg:=chgF) (bls:=blsF r) (fls:=fun _=>[]) g hg rfl ⟨rfl,rfl,rfl,rfl⟩ trivial ⟨rfl,rfl⟩ bL scF rfl⟩⟩⟩⟩,⟨[],rden_c r h,rfl,rfl,rfl,fun d hd=>⟨[],(K3 x d hx hd),rfl,rfl,rfl,fun g hg=>gsw 2 3 rfl rfl bL bL rfl ⟨bL,gfin g0 (chg:=chgF) (bls:=blsF r) (fls:=fun _=>[]) g hg rfl ⟨rfl,rfl,rfl,rfl⟩ trivial ⟨rfl,rfl⟩ bL scF rfl⟩⟩⟩⟩⟩,⟨[],rnorm_c r h,rfl,rfl,rfl,fun x hx=>⟨[],rden_c r h,rfl,rfl,rfl,fun d hd=>⟨[],(K3 x d hx hd),rfl,rfl,rfl,fun g hg=>gsw 2 3 rfl rfl bL bL rfl ⟨bL,gfin g0 (chg:=chgF) (bls:=blsF r) (fls:=fun _=>[]) g hg rfl ⟨rfl,rfl,rfl,rfl⟩ trivial ⟨rfl,rfl⟩ bL scF rfl⟩⟩⟩⟩⟩⟩,fun g hg=>⟨g.1,?_,fin_of rfl rfl trivial⟩⟩)
 rw[Rat.floor_def];exact hg.1
theorem num_neg {q:Rat} (h:q.num<0):q<0:=Rat.not_le.1 fun h2=>Int.not_lt.2 (Rat.num_nonneg.2 h2) h
abbrev fRAbs:FuncId:=119
theorem eRAbs:Ent Tryz.prog fRAbs:=Ent.of func119 rfl kR
theorem bRAbs:Tryz.prog.funcs[fRAbs]? =some Tryz.f119:=func119
theorem rabs_c (r:RatM) {q:Rat} {B:Nat} (h:Rq r q B) (h1:1≤B) (hB:B≤549755813888):Ctr Tryz.prog fRAbs [] [.a r.C] [] (fun g:RatM=>⟨.a g.C,[],Rq g q.abs B⟩):=by
 refine ctr_of gT eRAbs bRAbs rfl rfl rfl bL ClB.nil (VC_ok gT mxd ⟨[],rsign_c r (h.le hB),rfl,rfl,rfl,fun _ _=>⟨fun h1=>VC_ok gT mxd ?_,fun h1=>VC_ok gT mxd ?_⟩⟩)
 ·refine⟨[],rneg_c r (h.le hB),rfl,rfl,rfl,fun g hg=>⟨g,?_,fin_of rfl rfl trivial⟩⟩
  have e:q.abs=-q:=Rat.abs_of_nonpos (Rat.le_of_lt (num_neg (sgn_neg.1 h1)))
  show Rq g q.abs _
  rw[e];exact Cr.rq hg (rb_neg (h.rb (by assumption)))
 refine⟨r,?_,fin_of rfl rfl trivial⟩
 have e:q.abs=q:=Rat.abs_of_nonneg (Rat.num_nonneg.1 (Int.not_lt.1 fun h2=>h1 (sgn_neg.2 h2)))
 show Rq r q.abs _
 rw[e];exact h
abbrev fIVal:FuncId:=121
theorem eIVal:Ent Tryz.prog fIVal:=Ent.of func121 rfl kR
theorem bIVal:Tryz.prog.funcs[fIVal]? =some Tryz.f121:=func121
theorem ival_c (i:IntM) {v:Int} (h:In i v 1099511627776) (hv:-9223372036854775808≤v∧v≤9223372036854775807):Ctr Tryz.prog fIVal [] [.a i.C] [] (fun _:Unit=>⟨.t [.c (iC v),pC True],[],True⟩):=by
 refine ctr_of gT eIVal bIVal rfl rfl rfl bL ClB.nil (VC_ok gT mxd ⟨[],inorm_c i h.le,rfl,rfl,rfl,fun g hg=>?_⟩)
 obtain⟨lX,vX⟩:=dg hg.2
 have hm:val g.m.l<18446744073709551616:=by rw[vX];omega
 have hp:=hg.1
 refine⟨[],uint_c g.m lX (by rw[hg.2];exact Nat.le_trans h.len dC),rfl,rfl,rfl,fun _ _=>⟨fun h1=>absurd hm h1,fun h1=>VC_ok gT mxd ?_⟩⟩
 have e0:((if val g.m.l<18446744073709551616 then val g.m.l else 0:Nat):Int)=(v.natAbs:Nat):=by rw[if_pos hm,vX]
 refine⟨fun h2=>VC_ok gT mxd ?_,fun h2=>VC_ok gT mxd ⟨fun h3=>VC_ok gT mxd ?_,fun h3=>?_⟩⟩
 ·rw[e0,hp] at h2
  refine⟨(v.natAbs:Int)-1,wu (h:=by rw[e0];omega),(v.natAbs:Int)-1,wi,-((v.natAbs:Int)-1),wi,v,wi,(),trivial,fin_of ⟨rfl,tt trivial⟩ rfl trivial⟩
 ·rw[e0,hp] at h3
  refine⟨v,wi (h:=by rw[e0];omega),(),trivial,fin_of ⟨rfl,tt trivial⟩ rfl trivial⟩
 rw[e0,hp] at h2 h3
 omega
end Go.Proofs.YtandhgfmfpmemaaGreat
namespace Go.Vm
theorem sub_len {α:Type} [DecidableEq α]:∀{a b:List α},a.Nodup→(∀x∈a,x∈b)→a.length≤b.length
 |[],_,_,_=>Nat.zero_le _
 |x::t,b,hn,hs=>by
  have hx:x∈b:=hs x (List.mem_cons_self ..)
  have hn':=List.nodup_cons.1 hn
  have h:=sub_len (a:=t) (b:=b.erase x) hn'.2 fun y hy=>(List.mem_erase_of_ne (fun e=>hn'.1 (by rw[←e];exact hy))).2 (hs y (List.mem_cons_of_mem _ hy))
  rw[List.length_erase_of_mem hx] at h
  have:0<b.length:=List.length_pos_of_mem hx
  simp only[List.length_cons]
  omega
theorem snocInd {α:Type} {p:List α→Prop} (h0:p []) (h1:∀l x,p l→p (l++[x])):∀l,p l:=by
 intro l
 rw[←l.reverse_reverse]
 induction l.reverse with
 |nil=>exact h0
 |cons x t ih=>rw[List.reverse_cons];exact h1 _ _ ih
def bef (P:Nat→Rat) (j i:Nat):Prop:=P i<P j∨(P j=P i∧j<i)
instance (P:Nat→Rat) (j i:Nat):Decidable (bef P j i):=inferInstanceAs (Decidable (_∨_))
theorem bef_asymm {P:Nat→Rat} {i j:Nat} (h:bef P i j) (k:bef P j i):False:=by
 unfold bef at*
 grind
def rk (P:Nat→Rat) (n i:Nat):Nat:=((List.range n).filter fun j=>decide (bef P j i)).length
def Seg (P:Nat→Rat) (n:Nat) (M:List Nat):Prop:=M.Nodup∧(∀i∈M,i<n)∧∀i∈M,∀j,j<n→j∉M→bef P i j
theorem Seg.nil (P:Nat→Rat) (n:Nat):Seg P n []:=⟨List.nodup_nil,by simp,by simp⟩
theorem Seg.ex {P:Nat→Rat} {n:Nat} {M:List Nat} (_h:Seg P n M) (hl:M.length<n):∃i,i<n∧i∉M:=by
 by_cases hx:∃i,i<n∧i∉M
 ·exact hx
 exfalso
 have:=sub_len (a:=List.range n) (b:=M) List.nodup_range fun x hx'=>by
  by_cases hm:x∈M
  ·exact hm
  exact absurd ⟨x,List.mem_range.1 hx',hm⟩ hx
 rw[List.length_range] at this
 omega
theorem Seg.snoc {P:Nat→Rat} {n b:Nat} {M:List Nat} (h:Seg P n M) (hb:b<n) (hm:b∉M) (hf:∀j,j<n→j∉M→j≠b→bef P b j):Seg P n (M++[b]):=by
 refine⟨?_,?_,?_⟩
 ·rw[List.nodup_append]
  refine⟨h.1,by simp,fun a ha c hc=>?_⟩
  rw[List.mem_singleton] at hc
  intro e;subst e;subst hc;exact hm ha
 ·intro i hi
  rcases List.mem_append.1 hi with hi|hi
  ·exact h.2.1 i hi
  rw[List.mem_singleton] at hi;omega
 intro i hi j hj hn
 have hn1:j∉M:=fun e=>hn (List.mem_append.2 (.inl e))
 have hn2:j≠b:=fun e=>hn (List.mem_append.2 (.inr (by rw[e];simp)))
 rcases List.mem_append.1 hi with hi|hi
 ·exact h.2.2 i hi j hj hn1
 rw[List.mem_singleton] at hi;subst hi;exact hf j hj hn1 hn2
theorem Seg.rank {P:Nat→Rat} {n i:Nat} {M:List Nat} (h:Seg P n M) (hi:i<n):i∈M↔rk P n i<M.length:=by
 constructor
 ·intro hm
  have hs:=sub_len (a:=(List.range n).filter fun j=>decide (bef P j i)) (b:=M.erase i) (List.nodup_range.filter _) fun x hx=>by
   obtain⟨hx1,hx2⟩:=List.mem_filter.1 hx
   have hx3:bef P x i:=of_decide_eq_true hx2
   have hne:x≠i:=fun e=>by subst e;exact bef_asymm hx3 hx3
   refine(List.mem_erase_of_ne hne).2 ?_
   by_cases hxm:x∈M
   ·exact hxm
   exact(bef_asymm hx3 (h.2.2 i hm x (List.mem_range.1 hx1) hxm)).elim
  rw[List.length_erase_of_mem hm] at hs
  have:0<M.length:=List.length_pos_of_mem hm
  unfold rk
  omega
 intro hr
 by_cases hm:i∈M
 ·exact hm
 exfalso
 have hs:=sub_len (a:=M) (b:=(List.range n).filter fun j=>decide (bef P j i)) h.1 fun x hx=>
  List.mem_filter.2 ⟨List.mem_range.2 (h.2.1 x hx),decide_eq_true (h.2.2 x hx i hi hm)⟩
 unfold rk at hr
 omega
def Best (P:Nat→Rat) (M:List Nat) (k:Nat) (b:Int):Prop:=(b=-1∧∀j,j<k→j∈M)∨∃c:Nat,b=(c:Int)∧c<k∧c∉M∧∀j,j<k→j∉M→j≠c→bef P c j
theorem Best.zero (P:Nat→Rat) (M:List Nat):Best P M 0 (-1):=.inl ⟨rfl,fun _ h=>absurd h (Nat.not_lt_zero _)⟩
theorem Best.skip {P:Nat→Rat} {M:List Nat} {k:Nat} {b:Int} (h:Best P M k b) (hk:k∈M):Best P M (k+1) b:=by
 rcases h with ⟨h1,h2⟩|⟨c,h1,h2,h3,h4⟩
 ·exact .inl ⟨h1,fun j hj=>by rcases Nat.lt_or_eq_of_le (Nat.le_of_lt_succ hj) with h|rfl;exact h2 j h;exact hk⟩
 exact .inr ⟨c,h1,by omega,h3,fun j hj hn hc=>by
  rcases Nat.lt_or_eq_of_le (Nat.le_of_lt_succ hj) with h|rfl
  ·exact h4 j h hn hc
  exact absurd hk hn⟩
theorem Best.keep {P:Nat→Rat} {M:List Nat} {k c:Nat} (h:Best P M k (c:Int)) (hp:¬P c<P k):Best P M (k+1) (c:Int):=by
 rcases h with ⟨h1,h2⟩|⟨c',h1,h2,h3,h4⟩
 ·omega
 have e:c=c':=by omega
 subst e
 refine .inr ⟨c,rfl,by omega,h3,fun j hj hn hc=>?_⟩
 rcases Nat.lt_or_eq_of_le (Nat.le_of_lt_succ hj) with h|rfl
 ·exact h4 j h hn hc
 unfold bef;grind
theorem Best.take {P:Nat→Rat} {M:List Nat} {k:Nat} {b:Int} (h:Best P M k b) (hk:k∉M) (hp:b=-1∨P b.toNat<P k):Best P M (k+1) (k:Int):=by
 refine .inr ⟨k,rfl,by omega,hk,fun j hj hn hc=>?_⟩
 have hj':j<k:=by omega
 rcases h with ⟨h1,h2⟩|⟨c,h1,h2,h3,h4⟩
 ·exact absurd (h2 j hj') hn
 have hp':P c<P k:=by
  rcases hp with hp|hp
  ·omega
  rw[h1,Int.toNat_natCast] at hp;exact hp
 by_cases e:j=c
 ·subst e;exact .inl hp'
 have:=h4 j hj' hn e
 unfold bef at*;grind
theorem Best.fin {P:Nat→Rat} {M:List Nat} {n:Nat} {b:Int} (h:Best P M n b) (hs:Seg P n M) (hl:M.length<n):∃c:Nat,b=(c:Int)∧c<n∧c∉M∧Seg P n (M++[c]):=by
 obtain⟨i,hi,hm⟩:=hs.ex hl
 rcases h with ⟨h1,h2⟩|⟨c,h1,h2,h3,h4⟩
 ·exact absurd (h2 i hi) hm
 exact⟨c,h1,h2,h3,hs.snoc h2 h3 h4⟩
def rsum (l:List Rat):Rat:=l.foldl (·+·) 0
theorem rsum_snoc (l:List Rat) (x:Rat):rsum (l++[x])=rsum l+x:=by simp[rsum]
def fr (q:Rat):Rat:=q-(q.floor:Rat)
theorem fr_nonneg (q:Rat):0≤fr q:=by
 have:=Rat.floor_le q
 unfold fr;grind
theorem fr_lt (q:Rat):fr q<1:=by
 have:=Rat.lt_floor_add_one q
 unfold fr
 rw[Rat.intCast_add] at this
 grind
def flsum (l:List Rat):Int:=(l.map Rat.floor).sum
theorem flsum_snoc (l:List Rat) (x:Rat):flsum (l++[x])=flsum l+x.floor:=by simp[flsum]
theorem missing:∀l:List Rat,(flsum l:Rat)≤rsum l∧rsum l≤(flsum l:Rat)+(l.length:Rat):=by
 refine snocInd (by constructor<;>simp[flsum,rsum]<;>try grind) fun l x ih=>?_
 have h1:=Rat.floor_le x
 have h2:=fr_lt x
 unfold fr at h2
 rw[rsum_snoc,flsum_snoc,List.length_append,List.length_singleton]
 rw[Rat.intCast_add,Rat.natCast_add]
 grind
theorem missing_int {l:List Rat} {t:Int} (h:rsum l=(t:Rat)):0≤t-flsum l∧t-flsum l≤l.length:=by
 have⟨h1,h2⟩:=missing l
 rw[h] at h1 h2
 have h3:flsum l≤t:=Rat.intCast_le_intCast.1 h1
 have h4:t≤flsum l+l.length:=Rat.intCast_le_intCast.1 (by rw[Rat.intCast_add,Rat.intCast_natCast];exact h2)
 omega
def appF (l:List Rat) (t:Int) (i:Nat):Int:=(l.getD i default).floor+if (rk (fun j=>fr (l.getD j default)) l.length i:Int)<t-flsum l then 1 else 0
end Go.Vm
namespace Go.Vm
def preK {α:Type} (f:Nat→α) (z:α) (n k:Nat):List α:=(List.range n).map fun j=>if j<k then f j else z
theorem length_preK {α:Type} (f:Nat→α) (z:α) (n k:Nat):(preK f z n k).length=n:=by simp[preK]
def byR {α:Type} (f:Nat→α) (n:Nat):List α:=(List.range n).map f
theorem length_byR {α:Type} (f:Nat→α) (n:Nat):(byR f n).length=n:=by simp[byR]
section
variable {α:Type} [Inhabited α] {f:Nat→α} {z:α} {n k:Nat}
theorem preK_at {j:Nat} (h:j<n):(preK f z n k).getD j default=if j<k then f j else z:=by simp[preK,h]
theorem list_ext {a b:List α} (hl:a.length=b.length) (h:∀j,j<a.length→a.getD j default=b.getD j default):a=b:=by
 apply List.ext_getElem hl
 intro j h1 h2
 have:=h j h1
 simpa[List.getD_eq_getElem?_getD,List.getElem?_eq_getElem h1,List.getElem?_eq_getElem h2] using this
theorem set_at {l:List α} {k j:Nat} {x:α} (h:j<l.length):(l.set k x).getD j default=if k=j then x else l.getD j default:=by
 by_cases e:k=j
 ·subst e;simp[h]
 rw[if_neg e];simp[List.getElem?_set_ne e]
theorem preK_zero:preK f z n 0=List.replicate n z:=list_ext (by simp[preK]) fun j hj=>by
 rw[length_preK] at hj
 rw[preK_at hj];simp[hj]
theorem preK_set {x:α} (h:k<n) (hx:x=f k):(preK f z n k).set k x=preK f z n (k+1):=list_ext (by simp[preK]) fun j hj=>by
 rw[List.length_set,length_preK] at hj
 rw[set_at (by rw[length_preK];exact hj),preK_at hj,preK_at hj]
 by_cases e:k=j
 ·subst e;rw[if_pos rfl,if_pos oM];exact hx
 rw[if_neg e]
 by_cases h2:j<k
 ·rw[if_pos h2,if_pos oM]
 rw[if_neg h2,if_neg oM]
theorem byR_at {j:Nat} (h:j<n):(byR f n).getD j default=f j:=by simp[byR,h]
theorem byR_ext {l:List α} (hl:l.length=n) (h:∀j,j<n→l.getD j default=f j):l=byR f n:=list_ext (by rw[length_byR];exact hl) fun j hj=>by rw[byR_at oM];exact h j oM
theorem preK_full:preK f z n n=byR f n:=byR_ext (length_preK ..) fun j hj=>by rw[preK_at hj,if_pos hj]
end
def outF (qs:List Rat) (M:List Nat) (j:Nat):Int:=(qs.getD j default).floor+if j∈M then 1 else 0
def parF (qs:List Rat) (M:List Nat) (j:Nat):Rat:=if j∈M then ((-1:Int):Rat) else fr (qs.getD j default)
theorem out_nil (qs:List Rat):preK (fun j=>(qs.getD j default).floor) 0 qs.length qs.length=byR (outF qs []) qs.length:=by
 rw[preK_full];unfold byR outF;simp
theorem out_set {qs:List Rat} {M:List Nat} {c:Nat} {x:Int} (hc:c<qs.length) (hm:c∉M) (hx:x=(qs.getD c default).floor+1):(byR (outF qs M) qs.length).set c x=byR (outF qs (M++[c])) qs.length:=by
 refine byR_ext (by simp[length_byR]) fun j hj=>?_
 rw[set_at (by rw[length_byR];exact hj),byR_at hj]
 unfold outF
 by_cases e:c=j
 ·subst e
  rw[if_pos rfl,if_pos (by simp),hx]
 rw[if_neg e]
 congr 1
 have:(j∈M++[c])↔j∈M:=by simp[Ne.symm e]
 simp only[this]
theorem par_set {qs:List Rat} {M:List Nat} {c:Nat} (_hc:c<qs.length):(byR (parF qs M) qs.length).set c ((-1:Int):Rat)=byR (parF qs (M++[c])) qs.length:=by
 refine byR_ext (by simp[length_byR]) fun j hj=>?_
 rw[set_at (by rw[length_byR];exact hj),byR_at hj]
 unfold parF
 by_cases e:c=j
 ·subst e
  rw[if_pos rfl,if_pos (by simp)]
 rw[if_neg e]
 have:(j∈M++[c])↔j∈M:=by simp[Ne.symm e]
 simp only[this]
theorem par_sign {qs:List Rat} {M:List Nat} {k:Nat} (hk:k<qs.length):0≤Int.sign ((byR (parF qs M) qs.length).getD k default).num↔k∉M:=by
 rw[byR_at hk]
 unfold parF
 by_cases h:k∈M
 ·simp only[h,if_true,not_true_eq_false,iff_false]
  show ¬0≤Int.sign (-1)
  decide
 simp only[h,if_false,not_false_eq_true,iff_true]
 exact Int.sign_nonneg_iff.2 (Rat.num_nonneg.2 (fr_nonneg _))
theorem app_end {qs:List Rat} {M:List Nat} {t:Int} (hS:Seg (fun j=>fr (qs.getD j default)) qs.length M) (hM:(M.length:Int)=t-flsum qs):byR (outF qs M) qs.length=byR (appF qs t) qs.length:=by
 refine byR_ext (length_byR ..) fun j hj=>?_
 rw[byR_at hj]
 unfold outF appF
 congr 1
 have:=hS.rank hj
 by_cases h:j∈M
 ·rw[if_pos h,if_pos (by have:=this.1 h;omega)]
 rw[if_neg h,if_neg (fun h2=>h (this.2 oM))]
theorem flsum_next {qs:List Rat} {k:Nat} (h:k<qs.length):flsum (qs.take (k+1))=flsum (qs.take k)+(qs.getD k default).floor:=by
 rw[List.take_succ_eq_append_getElem h,flsum_snoc]
 simp[List.getD_eq_getElem?_getD,h]
theorem floor_bd {q:Rat} {B:Int} (h:0≤q∧q≤((B:Int):Rat)):0≤q.floor∧q.floor≤B:=by
 refine⟨Rat.le_floor_iff.2 h.1,?_⟩
 have:=Rat.floor_monotone h.2
 rw[Rat.floor_intCast] at this
 exact this
end Go.Vm
namespace Go.Proofs.YtandhgfmfpmemaaGreat
open Go.Vg _root_.Go.Proofs.Tryz
open Go.Vm hiding sg sg_t sg_f sg_abs sg_neg sg_add sg_mul sg_self sg_canon sg_pos sg_zero sg_eq_zero sg_lt
open Go.Vy hiding val
set_option maxHeartbeats 1000000
instance:Inhabited IntM:=⟨⟨false=true,inferInstance,nilS⟩⟩
instance:Inhabited RatM:=⟨⟨default,nilS⟩⟩
def ratsS (x:Sl RatM):CV:=x.R 3 RatM.C default
structure Rqs (x:Sl RatM) (qs:List Rat) (B:Nat):Prop where
 ln:x.l.length=qs.length
 q:∀k,k<qs.length→Rq (x.l.getD k default) (qs.getD k default) B
theorem rb_add2 {a b:Rat} {B B':Nat} (ha:rb a B) (hb:rb b B') (hB:1≤B):rb (a+b) (B+B'+1):=by
 have h1:=rl_num (a:=a.num*(b.den:Int)+b.num*(a.den:Int)) (b:=(a.den:Int)*(b.den:Int))
 have h2:=rl_den (a:=a.num*(b.den:Int)+b.num*(a.den:Int)) (b:=(a.den:Int)*(b.den:Int))
 rw[radd_law] at h1 h2
 have p1:=len_mul a.num.natAbs (b.den:Int).natAbs
 have p2:=len_mul b.num.natAbs (a.den:Int).natAbs
 have p3:=len_mul (a.den:Int).natAbs (b.den:Int).natAbs
 rw[←Int.natAbs_mul] at p1 p2 p3
 have h3:=len_mono (Int.natAbs_add_le (a.num*(b.den:Int)) (b.num*(a.den:Int)))
 have h4:=len_add (a.num*(b.den:Int)).natAbs (b.num*(a.den:Int)).natAbs
 simp only[Int.natAbs_natCast] at p1 p2 p3
 simp only[len_digs] at h1 h2
 obtain⟨a1,a2⟩:=ha
 obtain⟨b1,b2⟩:=hb
 exact⟨by omega,by omega⟩
theorem rb_zero:rb 0 1:=⟨by decide,by decide⟩
theorem take_snr {qs:List Rat} {k:Nat} (h:k<qs.length):qs.take (k+1)=qs.take k++[qs.getD k default]:=by
 rw[List.take_add_one,List.getElem?_eq_getElem h,gd h];rfl
theorem rsum_next {qs:List Rat} {k:Nat} (h:k<qs.length):rsum (qs.take (k+1))=rsum (qs.take k)+qs.getD k default:=by rw[take_snr h,rsum_snoc]
theorem rb_sum {x:Sl RatM} {qs:List Rat} {L:Nat} (h:Rqs x qs L) (hL:1≤L):∀k,k≤qs.length→rb (rsum (qs.take k)) (k*(L+1)+1)
 |0,_=>(by rw[Nat.zero_mul];exact rb_zero)
 |k+1,hk=>by
  have ih:=rb_sum h hL k oM
  have:=rb_add2 ih ((h.q k oM).rb hL) oM
  rw[←rsum_next oM] at this
  refine this.le ?_
  rw[Nat.add_mul];omega
abbrev fRSum:FuncId:=120
theorem eRSum:Ent Tryz.prog fRSum:=Ent.of func120 rfl kR
theorem bRSum:Tryz.prog.funcs[fRSum]? =some Tryz.f120:=func120
theorem rsum_c (x:Sl RatM) {qs:List Rat} {L:Nat} (h:Rqs x qs L) (hL:1≤L) (hL2:L≤67108864) (hn:qs.length≤128):Ctr Tryz.prog fRSum [] [.c (ratsS x)] [] (RatR (rsum qs)):=by
 have hkb:∀k,k≤qs.length→rb (rsum (qs.take k)) 137438953472:=fun k hk=>(rb_sum h hL k hk).le (by
  have:k*(L+1)≤128*67108865:=Nat.mul_le_mul oM oM
  omega)
 have hl:=h.ln
 refine ctr_of gT eRSum bRSum rfl rfl rfl bL ClB.nil (VC_ok gT mxd ⟨[],zero_c,rfl,rfl,rfl,fun z hz=>?_⟩)
 refine vloop (rn [(4,4),(6,17)]) (fun g:Nat×RatM=>[(4,.c (iC g.1))]) (fun g=>[(120,0,ratZ),(120,0,g.2.C)]) (fun g=>g.1≤qs.length∧Cr g.2 (rsum (qs.take g.1))) (fun g=>qs.length-g.1) (0,z) ?_
 refine⟨⟨⟨Nat.zero_le _,hz⟩,rfl,rfl⟩,fun⟨k,g⟩ ⟨hk,hg⟩=>VC_ok gT mxd ⟨fun h1=>VC_ok gT mxd ?_,fun h1=>VC_ok gT mxd (VC_ok gT mxd ?_)⟩⟩
 all_goals
  replace hk:k≤qs.length:=hk
  replace hg:Cr g (rsum (qs.take k)):=hg
 ·replace h1:(k:Int)<(x.l.length:Nat):=h1
  have hkl:k<qs.length:=by omega
  refine⟨.seq [(0,false),(1,false),(2,false),(3,false),(4,false),(5,false),(6,true)],by kernel_rfl,k,⟨rfl,by omega⟩,[],radd_c g (x.l.getD k default) (hg.rq (hkb k hk)) ((h.q k hkl).le),rfl,rfl,rfl,fun s hs=>⟨(k:Int)+1,wi,(k+1,s),⟨⟨hkl,?_⟩,?_⟩,rfl,rfl,?_⟩⟩
  ·show Cr s _
   rw[rsum_next hkl];exact hs
  ·show qs.length-(k+1)<qs.length-k
   omega
  rfl
 replace h1:¬(k:Int)<(x.l.length:Nat):=h1
 refine⟨g,?_,fin_of rfl rfl trivial⟩
 show Cr g _
 rw[List.take_of_length_le oM] at hg
 exact hg
/-! ### own fractions in a row -/
theorem flR_len {P:Nat→List CV} {e:Nat}:∀{n:Nat},(∀j,j<n→(P j).length=e)→(flatR n P).length=n*e
 |0,_=>by simp[flatR]
 |n+1,h=>by rw[flatR_succ,List.length_append,flR_len (fun j hj=>h j oM),h n oM,Nat.add_mul,Nat.one_mul]
theorem flR_congr {P Q:Nat→List CV}:∀{n:Nat},(∀j,j<n→P j=Q j)→flatR n P=flatR n Q
 |0,_=>rfl
 |n+1,h=>by rw[flatR_succ,flatR_succ,flR_congr (fun j hj=>h j oM),h n oM]
theorem flR_at {P:Nat→List CV} {e k:Nat}:∀{n:Nat},(∀j,j<n→(P j).length=e)→k<n→((flatR n P).drop (k*e)).take e=P k
 |0,_,hk=>absurd hk (Nat.not_lt_zero _)
 |n+1,h,hk=>by
  have hl:=flR_len (fun j hj=>h j (Nat.lt_succ_of_lt hj):∀j,j<n→(P j).length=e)
  rw[flatR_succ]
  by_cases hkn:k<n
  ·have hm:k*e+e≤n*e:=by rw[←Nat.succ_mul];exact Nat.mul_le_mul_right e hkn
   rw[List.drop_append_of_le_length oM,List.take_append_of_le_length (by rw[List.length_drop];omega)]
   exact flR_at (fun j hj=>h j oM) hkn
  obtain rfl:k=n:=by omega
  rw[←hl,List.drop_left,←h k oM,List.take_length]
theorem flR_set {P:Nat→List CV} {e k:Nat} {v:List CV} (hv:v.length=e):∀{n:Nat},(∀j,j<n→(P j).length=e)→k<n→splC (flatR n P) (k*e) v=flatR n fun j=>if j=k then v else P j
 |0,_,hk=>absurd hk (Nat.not_lt_zero _)
 |n+1,h,hk=>by
  have hl:=flR_len (fun j hj=>h j (Nat.lt_succ_of_lt hj):∀j,j<n→(P j).length=e)
  rw[flatR_succ,flatR_succ]
  by_cases hkn:k<n
  ·have hm:k*e+e≤n*e:=by rw[←Nat.succ_mul];exact Nat.mul_le_mul_right e hkn
   rw[if_neg oM,←flR_set hv (fun j hj=>h j oM) hkn]
   unfold splC
   rw[hv,List.take_append_of_le_length oM,List.drop_append_of_le_length oM,List.append_assoc,List.append_assoc]
  obtain rfl:k=n:=by omega
  rw[if_pos rfl,flR_congr (Q:=P) fun j hj=>if_neg oM]
  unfold splC
  rw[hv,←hl,List.take_left,List.drop_of_length_le (by rw[List.length_append,h k oM,hl];omega),List.append_nil]
theorem rb_fr {q:Rat} {B:Nat} (hb:rb q B) (h1:1≤B) (hq:0≤q∧q≤((35184372088832:Int):Rat)):rb (fr q) (B+3):=by
 have hf:=floor_bd hq
 have h2:rb (-((q.floor:Int):Rat)) 2:=by
  refine rb_neg ⟨?_,?_⟩
  ·show len (q.floor).natAbs≤2
   exact len_u64.1 oM
  show len 1≤2
  decide
 unfold fr
 rw[Rat.sub_eq_add_neg]
 exact rb_add2 hb h2 h1
theorem rb_one:rb ((-1:Int):Rat) 1:=⟨by decide,by decide⟩
theorem rb_par {x:Sl RatM} {qs:List Rat} {L:Nat} (h:Rqs x qs L) (hL:1≤L) (hqs:∀k,k<qs.length→0≤qs.getD k default∧qs.getD k default≤((35184372088832:Int):Rat)) {M:List Nat} {j:Nat} (hj:j<qs.length):rb (parF qs M j) (L+3):=by
 unfold parF
 split
 ·exact rb_one.le oM
 exact rb_fr ((h.q j hj).rb hL) hL (hqs j hj)
def numG (G:Nat→RatM) (k:Nat) (j:Nat):List CV:=if j<k then (G j).C else ratZ
theorem numG_len {G:Nat→RatM} {k:Nat} (j:Nat):(numG G k j).length=3:=by unfold numG;split<;>rfl
theorem own_ix {x:List Int} {k:Nat} (h:k<x.length):k*1<(x.map iC).length:=by rw[List.length_map];omega
theorem own_put {x y:List Int} {k:Nat} {z:Int} (h:k<x.length) (hy:x.set k z=y):splC (x.map iC) (k*1) [iC z]=y.map iC∧k*1+1≤(x.map iC).length:=⟨by rw[splC_set h,hy],by rw[List.length_map];omega⟩
theorem own_ld {x:List Int} {k:Nat} {z:Int} (h:k<x.length) (hz:x.getD k 0=z):(x.map iC)[k*1]? =some (iC z):=by rw[own_get h,hz]
theorem rat_ix {P:Nat→List CV} {n k:Nat} (h:∀j,(P j).length=3) (hk:k<n):k*3<(flatR n P).length:=by rw[flR_len fun j _=>h j];omega
theorem rat_ld {P:Nat→List CV} {n k:Nat} {l:List CV} (h:∀j,(P j).length=3) (hk:k<n) (hl:P k=l):((flatR n P).drop (k*3)).take 3=l∧l.length=3:=⟨by rw[flR_at (fun j _=>h j) hk,hl],by rw[←hl];exact h k⟩
theorem rat_put {P Q:Nat→List CV} {n k:Nat} {l:List CV} (h:∀j,(P j).length=3) (hk:k<n) (hl:l.length=3) (hq:∀j,j<n→(if j=k then l else P j)=Q j):splC (flatR n P) (k*3) l=flatR n Q∧k*3+l.length≤(flatR n P).length:=⟨by rw[flR_set hl (fun j _=>h j) hk,flR_congr hq],by rw[flR_len fun j _=>h j,hl];omega⟩
theorem best_keep {P:Nat→Rat} {M:List Nat} {k:Nat} {b:Int} (h:Best P M k b) (hb:¬b<0) (hp:¬P b.toNat<P k):Best P M (k+1) b:=by
 obtain⟨c,rfl⟩:∃c:Nat,b=(c:Int):=⟨b.toNat,by omega⟩
 exact h.keep hp
def setG (G:Nat→RatM) (k:Nat) (g:RatM) (j:Nat):RatM:=if j=k then g else G j
theorem num_put {G:Nat→RatM} {k:Nat} {g:RatM} (j:Nat):(if j=k then g.C else numG G k j)=numG (setG G k g) (k+1) j:=by
 unfold numG setG
 by_cases h:j=k
 ·rw[if_pos h,if_pos h,if_pos oM]
 rw[if_neg h,if_neg h]
 by_cases h2:j<k
 ·rw[if_pos h2,if_pos oM]
 rw[if_neg h2,if_neg oM]
theorem fl_bd {qs:List Rat} (hqs:∀k,k<qs.length→0≤qs.getD k default∧qs.getD k default≤((35184372088832:Int):Rat)):∀k:Nat,k≤qs.length→0≤flsum (qs.take k)∧flsum (qs.take k)≤k*35184372088832
 |0,_=>⟨Int.le_refl 0,Int.le_refl 0⟩
 |k+1,h=>by
  have h1:=fl_bd hqs k oM
  have h2:=floor_bd (hqs k h)
  rw[flsum_next h]
  omega
theorem len_fl {z:Int} (h:0≤z∧z≤35184372088832):len z.natAbs≤1099511627776:=Nat.le_trans (len_u64.1 oM) dC
theorem len_i64 {z:Int} (h:-9223372036854775808≤z∧z≤9223372036854775807):len z.natAbs≤2:=len_u64.1 oM
theorem rb_i64 {z:Int} (h:-9223372036854775808≤z∧z≤9223372036854775807):rb (z:Rat) 2:=⟨len_i64 h,show len 1≤2 by decide⟩
theorem num_pos {q:Rat}:0<q.num↔0<q:=by
 have h:=Rat.num_nonneg (q:=-q)
 rw[show(-q).num=-q.num from rfl] at h
 have h2:0≤-q↔¬0<q:=by rw[Rat.not_lt];constructor<;>intro h<;>grind
 exact⟨fun h1=>Classical.byContradiction fun h3=>absurd (h.2 (h2.2 h3)) oM,fun h1=>Classical.byContradiction fun h3=>h2.1 (h.1 oM) h1⟩
theorem sgn_pos {z:Int}:0<sgn z↔0<z:=by unfold sgn;constructor<;>intro h<;>(repeat split at*)<;>omega
theorem sgn_gt {a b:Rat}:0<sgn (a-b).num↔b<a:=by rw[sgn_pos,num_pos,←Rat.lt_iff_sub_pos]
theorem sgn_eq {a b:Rat}:sgn (a-b).num=0↔a=b:=by
 rw[sgn_zero,Rat.num_eq_zero]
 constructor<;>intro h<;>grind
def oMk:Ord:=.joinR [0,1,3,4] (.alt 2 (.alt 2006 (.alt 5 (.alt 2007 .nil .nil) .nil) .nil) (.alt 5 (.alt 2 (.alt 2006 (.alt 2007 .nil .nil) .nil) .nil) .nil))
def chgM (x:Sl RatM) (n:Nat) (t:Int):List (Nat×DV):=[(0,.c (ratsS x)),(9,.c (.s 2 n)),(8,.c (.s 1 n)),(6,.c (iC t)),(5,.c (.p 0 0))]
def blsM (s:RatM) (n:Nat):BL:=[(120,0,s.C),(3,1,(List.replicate n 0).map iC),(120,3,flatR n fun _=>ratZ)]
theorem flR_rep {z:List CV}:∀{n:Nat},flatR n (fun _=>z)=(List.replicate n z).flatten
 |0=>rfl
 |n+1=>by rw[flatR_succ,flR_rep,List.replicate_succ',List.flatten_append,List.flatten_singleton]
theorem map_sw {i j:Nat} {l:List CV} (h:∀c∈l,cloC c=true):l.map (swC i j)=l:=by
 induction l with
 |nil=>rfl
 |cons c l ih=>
  rw[List.map_cons,ih fun c hc=>h c (.tail _ hc)]
  congr 1
  have:=h c (.head _)
  cases c<;>first|rfl|cases this
theorem rep_clo {z:CV} {n:Nat} (h:cloC z=true):∀c∈List.replicate n z,cloC c=true:=fun c hc=>by rw[(List.mem_replicate.1 hc).2];exact h
theorem fl_clo {P:Nat→List CV} (h:∀j,∀c∈P j,cloC c=true):∀n,∀c∈flatR n P,cloC c=true
 |0,c,hc=>by cases hc
 |n+1,c,hc=>by
  rw[flatR_succ] at hc
  rcases List.mem_append.1 hc with h1|h1
  ·exact fl_clo h n c h1
  exact h n c h1
theorem ratZ_clo:∀c∈ratZ,cloC c=true:=fun c h2=>by
 rcases List.mem_cons.1 h2 with rfl|h2
 ·rfl
 rcases List.mem_cons.1 h2 with rfl|h2
 ·rfl
 rcases List.mem_cons.1 h2 with rfl|h2
 ·rfl
 cases h2
theorem rat_clo (n:Nat):∀c∈flatR n fun _=>ratZ,cloC c=true:=fl_clo (fun _=>ratZ_clo) n
theorem ratC_clo (r:RatM):∀c∈r.C,cloC c=true:=fun c h2=>by
 rcases List.mem_cons.1 h2 with rfl|h2
 ·rfl
 rcases List.mem_cons.1 h2 with rfl|h2
 ·rfl
 rcases List.mem_cons.1 h2 with rfl|h2
 ·rfl
 cases h2
theorem scM {s:RatM} {n:Nat}:scB (blsM s n).length (blsM s n):=scB.cons rfl (scB.cons (List.all_eq_true.2 fun c hc=>clo_sc (clo_ints _ c hc)) (scB.cons (List.all_eq_true.2 fun c hc=>clo_sc (rat_clo _ c hc)) scB.nil))
abbrev fAppo:FuncId:=71
theorem eAppo:Ent Tryz.prog fAppo:=Ent.of func71 rfl kR
theorem bAppo:Tryz.prog.funcs[fAppo]? =some Tryz.f71:=func71
theorem apportion_o (x:Sl RatM) {qs:List Rat} {L:Nat} (h:Rqs x qs L) (hL:1≤L) (hL2:L≤1048576) (hn:qs.length≤128) {t:Int} (ht:rsum qs=((t:Int):Rat)) (htr:-1152921504606846976≤t∧t≤1152921504606846976)
 (hqs:∀k,k<qs.length→0≤qs.getD k default∧qs.getD k default≤((35184372088832:Int):Rat)):Ctr Tryz.prog fAppo [] [.c (ratsS x)] [] (fun g:RatM=>⟨.t [.c (.s 1 qs.length),.c (iC 0)],[(120,0,g.C),(3,1,(byR (appF qs t) qs.length).map iC)],True⟩):=by
 have hl:=h.ln
 have hlc:(x.l.length:Int)=qs.length:=by rw[hl]
 refine ctr_of gT eAppo bAppo rfl rfl rfl bL ClB.nil (VC_ok gT mxd ⟨fun h1=>absurd (show(x.l.length:Int)>128 from h1) oM,fun h1=>VC_ok gT mxd ?_⟩)
 refine vloop (rn [(4,4),(16,29)]) (fun k:Nat=>[(4,.c (iC k))]) (fun _=>[]) (·≤qs.length) (qs.length-·) 0 ?_
 refine⟨⟨Nat.zero_le _,rfl,rfl⟩,fun k hk=>VC_ok gT mxd ⟨fun h2=>VC_ok gT mxd ?_,fun h2=>VC_ok gT mxd (VC_ok gT mxd ?_)⟩⟩
 ·replace h2:(k:Int)<(x.l.length:Nat):=h2
  have hkl:k<qs.length:=by omega
  have hq:=h.q k hkl
  refine⟨k,⟨rfl,by omega⟩,[],rabs_c (x.l.getD k default) hq hL oM,rfl,rfl,rfl,fun a ha=>⟨[],rfrom_c (z:=281474976710656) dC,rfl,rfl,rfl,fun b hb=>⟨[],rcmp_c a b (Rq.le ha oM) (Cr.rq hb ⟨by decide,by decide⟩),rfl,rfl,rfl,fun _ _=>⟨fun h3=>?_,fun h3=>VC_ok gT mxd ⟨(k:Int)+1,wi,k+1,⟨?_,?_⟩,rfl,rfl,rfl⟩⟩⟩⟩⟩
  ·have h4:=sgn_gt.1 h3
   have h5:=hqs k hkl
   rw[Rat.abs_of_nonneg h5.1] at h4
   have h6:=Rat.intCast_lt_intCast.1 (Std.lt_of_lt_of_le h4 h5.2)
   omega
  ·exact hkl
  show qs.length-(k+1)<qs.length-k
  omega
 replace h2:¬(k:Int)<(x.l.length:Nat):=h2
 refine⟨[],rsum_c x h hL oM hn,rfl,rfl,rfl,fun s hs=>?_⟩
 have hfl:(rsum qs).floor=t:=by rw[ht,Rat.floor_intCast]
 have hsb:rb (rsum qs) 137438953472:=by
  have:=rb_sum h hL qs.length (Nat.le_refl _)
  rw[List.take_length] at this
  refine this.le ?_
  have:qs.length*(L+1)≤128*1048577:=Nat.mul_le_mul oM oM
  omega
 refine⟨[],rfloor_c s (hs.rq hsb).le,rfl,rfl,rfl,fun f hf=>⟨[],ival_c f (v:=t) (Ci.in (hfl▸hf) (Nat.le_trans (len_i64 oM) dC)) oM,rfl,rfl,rfl,fun _ _=>?_⟩⟩
 refine⟨.seq [(0,false),(1,false),(2,false),(3,false),(4,false),(5,false),(6,false),(7,false),(8,false)],by kernel_rfl,fun h=>absurd trivial h,fun _=>⟨[],rfrom_c (z:=t) oM,rfl,rfl,rfl,fun g2 hg2=>⟨[],rcmp_c s g2 (hs.rq hsb) (Cr.rq hg2 ((rb_i64 oM).le oM)),rfl,rfl,rfl,fun _ _=>⟨fun h3=>absurd (sgn_eq.2 ht) h3,fun h3=>VC_ok gT mxd ?_⟩⟩⟩⟩
 refine⟨oMk,by kernel_rfl,Unit,fun _=>⟨chgM x qs.length t++[],[],blsM s qs.length,[]⟩,fun _=>True,⟨⟨qs.length,⟨hlc,hlc,show 8*qs.length≤_ by omega,by simp only[maxLen];omega⟩,qs.length,⟨hlc,hlc,show 56*qs.length≤_ by omega,by simp only[maxLen];omega⟩,?_⟩,⟨qs.length,⟨hlc,hlc,show 56*qs.length≤_ by omega,by simp only[maxLen];omega⟩,qs.length,⟨hlc,hlc,show 8*qs.length≤_ by omega,by simp only[maxLen];omega⟩,?_⟩⟩,fun _ _=>?_⟩
 ·refine gfin g0 (chg:=fun _:Unit=>chgM x qs.length t) (bls:=fun _=>blsM s qs.length) (fls:=fun _=>[]) () trivial rfl ⟨rfl,?_,?_⟩ trivial ⟨rfl,rfl,rfl,rfl,rfl⟩ (Nat.zero_le _) scM rfl
  ·show _=_
   rw[List.map_replicate];rfl
  show _=_
  rw[flR_rep];rfl
 ·refine gsw 1 2 rfl rfl bL bL rfl ⟨_,map_sw (rep_clo rfl),_,map_sw (fun c hc=>?_),bL,?_⟩
  ·replace hc:c∈(List.replicate qs.length ratZ).flatten:=hc
   rw[←flR_rep] at hc
   exact rat_clo _ _ hc
  refine gfin g0 (chg:=fun _:Unit=>chgM x qs.length t) (bls:=fun _=>blsM s qs.length) (fls:=fun _=>[]) () trivial rfl ⟨rfl,?_,?_⟩ trivial ⟨rfl,rfl,rfl,rfl,rfl⟩ (Nat.zero_le _) scM rfl
  ·show _=_
   rw[List.map_replicate];rfl
  show _=_
  rw[flR_rep];rfl
 refine vloop (rn [(6,6),(10,10),(53,89)]) (fun g:Nat×(Nat→RatM)=>[(6,.c (iC (t-flsum (qs.take g.1)))),(10,.c (iC g.1))]) (fun g=>[(120,0,s.C),(3,1,(preK (fun j=>(qs.getD j default).floor) 0 qs.length g.1).map iC),(120,3,flatR qs.length (numG g.2 g.1))])
  (fun g=>g.1≤qs.length∧∀j,j<g.1→Cr (g.2 j) (fr (qs.getD j default))) (fun g=>qs.length-g.1) (0,fun _=>default) ?_
 refine⟨⟨⟨Nat.zero_le _,fun j hj=>absurd hj (Nat.not_lt_zero _)⟩,?_,?_⟩,fun⟨k,G⟩ ⟨hk,hG⟩=>VC_ok gT mxd ⟨fun h4=>VC_ok gT mxd ?_,fun h4=>VC_ok gT mxd (VC_ok gT mxd ?_)⟩⟩
 ·show blsM s qs.length=_
  unfold blsM
  rw[flR_congr (P:=fun _=>ratZ) (Q:=numG (fun _=>default) 0) fun j hj=>(if_neg (Nat.not_lt_zero _)).symm,←preK_zero (f:=fun j=>(qs.getD j default).floor)]
 ·refine⟨?_,rfl⟩
  show t=t-0
  omega
 all_goals
  replace hk:k≤qs.length:=hk
  replace hG:∀j,j<k→Cr (G j) (fr (qs.getD j default)):=hG
 ·replace h4:(k:Int)<(x.l.length:Nat):=h4
  have hkl:k<qs.length:=by omega
  have hq:=h.q k hkl
  have hfb:=floor_bd (hqs k hkl)
  have hpk:k<(preK (fun j=>(qs.getD j default).floor) 0 qs.length k).length:=by rw[length_preK];exact hkl
  have hpk2:k<(preK (fun j=>(qs.getD j default).floor) 0 qs.length (k+1)).length:=by rw[length_preK];exact hkl
  have hfs:=fl_bd hqs k hk
  refine⟨k,⟨rfl,by omega⟩,[],rfloor_c (x.l.getD k default) hq.le,rfl,rfl,rfl,fun f hf=>⟨[],ival_c f (v:=(qs.getD k default).floor) (hf.in (len_fl hfb)) oM,rfl,rfl,rfl,fun _ _=>?_⟩⟩
  refine⟨k,⟨rfl,hkl,own_ix hpk⟩,(preK (fun j=>(qs.getD j default).floor) 0 qs.length (k+1)).map iC,own_put hpk (preK_set hkl rfl),?_⟩
  have hld:(preK (fun j=>(qs.getD j default).floor) 0 qs.length (k+1)).getD k 0=(qs.getD k default).floor:=by
   have:=preK_at (f:=fun j=>(qs.getD j default).floor) (z:=0) (k:=k+1) hkl
   rw[if_pos oM] at this
   exact this
  refine⟨.seq [(0,false),(1,false),(2,false),(3,false),(4,false),(5,false),(6,false),(7,false),(8,false),(9,false),(10,false),(11,false),(12,false),(13,true)],by kernel_rfl,k,⟨rfl,by omega⟩,k,⟨rfl,hkl,own_ix hpk2⟩,iC (qs.getD k default).floor,own_ld hpk2 hld,?_⟩
  refine⟨[],rfrom_c (z:=(qs.getD k default).floor) oM,rfl,rfl,rfl,fun o ho=>⟨[],rsub_c (x.l.getD k default) o hq.le (Cr.rq ho ((rb_i64 oM).le oM)),rfl,rfl,rfl,fun g hg=>?_⟩⟩
  refine⟨k,⟨rfl,hkl,rat_ix (numG_len (G:=G) (k:=k)) hkl⟩,flatR qs.length (numG (setG G k g) (k+1)),rat_put numG_len hkl rfl fun j _=>num_put j,?_⟩
  refine⟨k,⟨rfl,hkl,own_ix hpk2⟩,iC (qs.getD k default).floor,own_ld hpk2 hld,t-flsum (qs.take k)-(qs.getD k default).floor,wi (z:=t-flsum (qs.take k)-(qs.getD k default).floor) (h:=⟨rfl,by omega,by omega⟩),(k:Int)+1,wi,(k+1,setG G k g),⟨⟨hkl,fun j hj=>?_⟩,?_⟩,rfl,rfl,?_⟩
  ·show Cr (setG G k g j) (fr (qs.getD j default))
   replace hj:j<k+1:=hj
   unfold setG
   split
   ·next e=>rw[e];exact hg
   exact hG j oM
  ·show qs.length-(k+1)<qs.length-k
   omega
  refine⟨?_,rfl⟩
  show _=t-flsum (qs.take (k+1))
  rw[flsum_next hkl];omega
 replace h4:¬(k:Int)<(x.l.length:Nat):=h4
 obtain rfl:k=qs.length:=by omega
 have hmis:=missing_int ht
 refine vloop (rn [(6,6),(11,12),(90,132)]) (fun g:List Nat×(Nat→RatM)=>[(6,.c (iC (t-flsum qs-(g.1.length:Nat))))]) (fun g=>[(120,0,s.C),(3,1,(byR (outF qs g.1) qs.length).map iC),(120,3,flatR qs.length fun j=>(g.2 j).C)])
  (fun g=>Seg (fun j=>fr (qs.getD j default)) qs.length g.1∧((g.1.length:Nat):Int)≤t-flsum qs∧∀j,j<qs.length→Cr (g.2 j) (parF qs g.1 j)) (fun g=>(t-flsum qs-(g.1.length:Nat)).toNat) ([],G) ?_
 refine⟨⟨⟨Seg.nil _ _,by simpa using hmis.1,fun j hj=>?_⟩,?_,?_⟩,fun⟨M,G⟩ ⟨hS,hM,hG⟩=>VC_ok gT mxd ⟨fun h5=>VC_ok gT mxd ?_,fun h5=>VC_ok gT mxd (VC_ok gT mxd ?_)⟩⟩
 ·show Cr (G j) (parF qs [] j)
  unfold parF
  rw[if_neg (by simp)]
  exact hG j hj
 ·show [_,(3,1,(preK (fun j=>(qs.getD j default).floor) 0 qs.length qs.length).map iC),(120,3,flatR qs.length (numG G qs.length))]=_
  rw[out_nil,flR_congr (P:=numG G qs.length) (Q:=fun j=>(G j).C) fun j hj=>if_pos hj]
 ·show t-flsum (qs.take qs.length)=t-flsum qs-((0:Nat):Int)
  rw[List.take_length];omega
 all_goals
  replace hS:Seg (fun j=>fr (qs.getD j default)) qs.length M:=hS
  replace hM:((M.length:Nat):Int)≤t-flsum qs:=hM
  replace hG:∀j,j<qs.length→Cr (G j) (parF qs M j):=hG
 ·have hpb:∀{j},j<qs.length→rb (parF qs M j) 137438953472:=fun hj=>(rb_par h hL hqs hj).le oM
  refine vloop (rn [(11,12),(94,122)]) (fun g:Nat×Int=>[(12,.c (iC g.1)),(11,.c (iC g.2))]) (fun _=>[(120,0,s.C),(3,1,(byR (outF qs M) qs.length).map iC),(120,3,flatR qs.length fun j=>(G j).C)])
   (fun g=>g.1≤qs.length∧Best (fun j=>fr (qs.getD j default)) M g.1 g.2) (fun g=>qs.length-g.1) (0,-1) ?_
  refine⟨⟨⟨Nat.zero_le _,Best.zero _ _⟩,rfl,⟨rfl,rfl⟩⟩,fun⟨k,b⟩ ⟨hk,hB⟩=>VC_ok gT mxd ⟨fun h6=>VC_ok gT mxd ?_,fun h6=>VC_ok gT mxd (VC_ok gT mxd ?_)⟩⟩
  all_goals
   replace hk:k≤qs.length:=hk
   replace hB:Best (fun j=>fr (qs.getD j default)) M k b:=hB
  ·replace h6:(k:Int)<(x.l.length:Nat):=h6
   have hkl:k<qs.length:=by omega
   refine⟨.seq (sq 99 (List.range 22)),by kernel_rfl,k,⟨rfl,hkl,rat_ix (fun _=>rfl) hkl⟩,(G k).C,rat_ld (fun _=>rfl) hkl rfl,[],rsign_c (G k) (Cr.rq (hG k hkl) ((hpb hkl).le)),rfl,rfl,rfl,fun _ _=>?_⟩
   have hbr:¬b<0→b=((b.toNat:Nat):Int)∧b.toNat<k:=fun hb=>by
    rcases hB with ⟨h1,_⟩|⟨c,h1,h2,h3,_⟩
    ·omega
    subst h1;rw[Int.toNat_natCast];exact⟨rfl,h2⟩
   have hbn:b<0→b=-1:=fun hb=>by
    rcases hB with ⟨h1,_⟩|⟨c,h1,h2,h3,_⟩<;>omega
   have hsg:0≤sgn (parF qs M k).num↔k∉M:=by
    have h1:=par_sign (M:=M) hkl
    rw[byR_at hkl] at h1
    have h2:=sgn_neg (z:=(parF qs M k).num)
    have h3:0≤(parF qs M k).num.sign↔0≤(parF qs M k).num:=Int.sign_nonneg_iff
    rw[←h1,h3]
    omega
   have hlt:¬b<0→k∉M→(parF qs M b.toNat<parF qs M k↔fr (qs.getD b.toNat default)<fr (qs.getD k default)):=fun hb hk=>by
    rcases hB with ⟨h1,_⟩|⟨c,h1,h2,h3,_⟩
    ·omega
    subst h1
    unfold parF
    rw[Int.toNat_natCast,if_neg h3,if_neg hk]
   refine⟨k,fun _=>⟨rfl,hkl,rat_ix (fun _=>rfl) hkl⟩,(G k).C,fun _=>rat_ld (fun _=>rfl) hkl rfl,b.toNat,fun q=>⟨(hbr q.1).1,Nat.lt_trans (hbr q.1).2 hkl,rat_ix (fun _=>rfl) (Nat.lt_trans (hbr q.1).2 hkl)⟩,(G b.toNat).C,fun q=>rat_ld (fun _=>rfl) (Nat.lt_trans (hbr q.1).2 hkl) rfl,fun h7=>⟨fun h8=>?_,fun h8=>⟨[],rcmp_c (G k) (G b.toNat) (Cr.rq (hG k hkl) (hpb hkl)) (Cr.rq (hG _ (Nat.lt_trans (hbr h8).2 hkl)) (hpb (Nat.lt_trans (hbr h8).2 hkl))),rfl,rfl,rfl,fun _ _=>⟨fun h9=>VC_ok gT mxd ?_,fun h9=>VC_ok gT mxd ?_⟩⟩⟩,fun h7=>?_⟩
   ·exact⟨(k:Int)+1,wi,(k+1,(k:Int)),⟨⟨hkl,hB.take (hsg.1 h7) (.inl (hbn h8))⟩,show qs.length-(k+1)<qs.length-k by omega⟩,rfl,rfl,⟨rfl,rfl⟩⟩
   ·exact⟨(k:Int)+1,wi,(k+1,(k:Int)),⟨⟨hkl,hB.take (hsg.1 h7) (.inr ((hlt h8 (hsg.1 h7)).1 (sgn_gt.1 h9)))⟩,show qs.length-(k+1)<qs.length-k by omega⟩,rfl,rfl,⟨rfl,rfl⟩⟩
   ·exact⟨(k:Int)+1,wi,(k+1,b),⟨⟨hkl,best_keep hB h8 fun h=>h9 (sgn_gt.2 ((hlt h8 (hsg.1 h7)).2 h))⟩,show qs.length-(k+1)<qs.length-k by omega⟩,rfl,rfl,⟨rfl,rfl⟩⟩
   exact⟨(k:Int)+1,wi,(k+1,b),⟨⟨hkl,hB.skip (Classical.byContradiction fun h=>h7 (hsg.2 h))⟩,show qs.length-(k+1)<qs.length-k by omega⟩,rfl,rfl,⟨rfl,rfl⟩⟩
  replace h6:¬(k:Int)<(x.l.length:Nat):=h6
  obtain rfl:k=qs.length:=by omega
  obtain⟨c,rfl,hc1,hc2,hS2⟩:=hB.fin hS (by replace h5:0<t-flsum qs-((M.length:Nat):Int):=h5;omega)
  have hfb:=floor_bd (hqs c hc1)
  have hcl:c<(byR (outF qs M) qs.length).length:=by rw[length_byR];exact hc1
  have hld:(byR (outF qs M) qs.length).getD c 0=(qs.getD c default).floor:=by
   have:=byR_at (f:=outF qs M) hc1
   unfold outF at this
   rw[if_neg hc2] at this
   exact this.trans (Int.add_zero _)
  refine⟨c,⟨rfl,hc1,own_ix hcl⟩,iC (qs.getD c default).floor,own_ld hcl hld,(qs.getD c default).floor+1,wi,?_⟩
  refine⟨c,⟨rfl,hc1,own_ix hcl⟩,(byR (outF qs (M++[c])) qs.length).map iC,own_put hcl (out_set hc1 hc2 rfl),?_⟩
  refine⟨[],rfrom_c (z:=-1) dC,rfl,rfl,rfl,fun g hg=>⟨c,⟨rfl,hc1,rat_ix (fun _=>rfl) hc1⟩,flatR qs.length (fun j=>(setG G c g j).C),rat_put (fun _=>rfl) hc1 rfl (fun j _=>?_),t-flsum qs-(M.length:Nat)-1,wi (z:=t-flsum qs-(M.length:Nat)-1) (h:=⟨rfl,by omega,by omega⟩),(M++[c],setG G c g),⟨⟨hS2,?_,fun j hj=>?_⟩,?_⟩,rfl,rfl,?_⟩⟩
  ·show(if j=c then g.C else (G j).C)=(setG G c g j).C
   unfold setG
   split<;>rfl
  ·replace h5:0<t-flsum qs-((M.length:Nat):Int):=h5
   show(((M++[c]).length:Nat):Int)≤_
   rw[List.length_append,List.length_singleton];omega
  ·show Cr (setG G c g j) (parF qs (M++[c]) j)
   have hp:=par_set (M:=M) hc1
   have hp2:=byR_at (f:=parF qs (M++[c])) hj
   rw[←hp,set_at (by rw[length_byR];exact hj),byR_at hj] at hp2
   rw[←hp2]
   unfold setG
   by_cases e:j=c
   ·rw[if_pos e,if_pos e.symm];exact hg
   rw[if_neg e,if_neg (fun h=>e h.symm)];exact hG j hj
  ·replace h5:0<t-flsum qs-((M.length:Nat):Int):=h5
   show(t-flsum qs-((M++[c]).length:Nat)).toNat<(t-flsum qs-(M.length:Nat)).toNat
   rw[List.length_append,List.length_singleton];omega
  show _=t-flsum qs-(((M++[c]).length:Nat):Int)
  rw[List.length_append,List.length_singleton];omega
 replace h5:¬0<t-flsum qs-((M.length:Nat):Int):=h5
 refine⟨s,trivial,fin_own ⟨rfl,rfl⟩ ⟨rfl,?_⟩ (Nat.zero_le _) ?_ rfl clB0⟩
 ·show(3,1,(byR (outF qs M) qs.length).map iC)=_
  rw[app_end (t:=t) hS oM]
 exact scB.cons rfl (scB.cons (List.all_eq_true.2 fun c hc=>clo_sc (clo_ints _ c hc)) scB.nil)
end Go.Proofs.YtandhgfmfpmemaaGreat
namespace Go.Proofs.YtandhgfmfpmemaaGreat
open Go.Vm Go.Vg
def remF (ls:List (Int×Int)) (part amount x:Int):Int:=(part*(ls.getD x.toNat default).1)%amount
theorem mul_bound {a b:Int} (ha:0≤a∧a≤33554432) (hb:0≤b∧b≤1048576):0≤a*b∧a*b≤35184372088832:=by
 refine⟨Int.mul_nonneg ha.1 hb.1,?_⟩
 have h1:a*b≤33554432*b:=Int.mul_le_mul_of_nonneg_right ha.2 hb.1
 omega
end Go.Proofs.YtandhgfmfpmemaaGreat
namespace Go.Proofs.YtandhgfmfpmemaaGreat
open Go.Vm Go.Vg
def qF (ls:List (Int×Int)) (part amount x:Int):Int:=(part*(ls.getD x.toNat default).1)/amount
def sumQ (ls:List (Int×Int)) (part amount:Int) (G:List Int):Int:=(G.map (qF ls part amount)).sum
def sumA (ls:List (Int×Int)) (G:List Int):Int:=(G.map fun i=>(ls.getD i.toNat default).1).sum
def sets (C:List Int) (G:List Int) (q:Int→Int):List Int:=G.foldl (fun c i=>c.set i.toNat (q i)) C
def incs (C:List Int) (P:List Int):List Int:=P.foldl (fun c i=>c.set i.toNat (c.getD i.toNat default+1)) C
def DivSpec (ls:List (Int×Int)) (G:List Int) (part amount:Int) (C C':List Int):Prop:=
 (amount=0∧C'=C)∨(0<amount∧∃P,Srt (fun i=>-(remF ls part amount i)) P∧StE (fun i=>-(remF ls part amount i)) G P∧C'=incs (sets C G (qF ls part amount)) (P.take (part-sumQ ls part amount G).toNat))
theorem sumQ_snoc (ls:List (Int×Int)) (part amount:Int) (G:List Int) (g:Int):sumQ ls part amount (G++[g])=sumQ ls part amount G+qF ls part amount g:=by simp[sumQ]
theorem sets_snoc (C G:List Int) (q:Int→Int) (g:Int):sets C (G++[g]) q=(sets C G q).set g.toNat (q g):=by simp[sets]
theorem incs_snoc (C P:List Int) (g:Int):incs C (P++[g])=(incs C P).set g.toNat ((incs C P).getD g.toNat default+1):=by simp[incs]
theorem getD_set_self {α:Type} [Inhabited α] (l:List α) (k:Nat) (x:α) (h:k<l.length):(l.set k x).getD k default=x:=by simp[h]
theorem div_bound {a b:Int} (ha:0≤a∧a≤35184372088832) (hb:0<b∧b≤33554432):0≤a/b∧a/b≤35184372088832:=
 ⟨Int.ediv_nonneg ha.1 oM,Int.le_trans (Int.ediv_le_self _ ha.1) ha.2⟩
theorem q_bd {ls:List (Int×Int)} {part amount:Int} (hls:∀p∈ls,0≤p.1∧p.1≤1048576) (hp:0≤part∧part≤33554432) (ham:0<amount∧amount≤33554432) {i:Int} (hi:0≤i∧i<(ls.length:Int)):0≤qF ls part amount i∧qF ls part amount i≤35184372088832:=
 div_bound (mul_bound hp (hls _ (getD_mem _ _ oM))) ham
theorem sets_bd {C G:List Int} {q:Int→Int} {Bd:Nat} (hCb:∀x∈C,0≤x∧x≤(Bd:Int)) (hq:∀i∈G,0≤q i∧q i≤35184372088832) (hB:35184372088832≤Bd):∀x∈sets C G q,0≤x∧x≤(Bd:Int):=by
 induction G generalizing C with
 |nil=>exact hCb
 |cons g G ih=>
  refine ih (C:=C.set g.toNat (q g)) ?_ fun i hi=>hq i (by simp[hi])
  intro x hx
  rcases List.mem_or_eq_of_mem_set hx with h|h
  ·exact hCb x h
  have:=hq g (by simp);rw[h];omega
theorem incs_all {C P:List Int} {Bd:Nat} (hCb:∀x∈C,0≤x∧x≤(Bd:Int)) {m:Nat} (hm:P.length≤m) {x:Int} (hx:x∈incs C P):0≤x∧x≤((Bd+m:Nat):Int):=by
 induction P generalizing C Bd m with
 |nil=>have:=hCb x hx;omega
 |cons g P ih=>
  have hm':P.length≤m-1:=by simp at hm;omega
  have:=ih (C:=C.set g.toNat (C.getD g.toNat default+1)) (Bd:=Bd+1) ?_ hm' hx
  ·simp at hm;omega
  intro y hy
  rcases List.mem_or_eq_of_mem_set hy with h|h
  ·have:=hCb y h;omega
  by_cases hl:g.toNat<C.length
  ·have:=hCb (C.getD g.toNat default) (getD_mem _ _ hl);omega
  have e:C.getD g.toNat default=0:=by simp[List.getD_eq_getElem?_getD,List.getElem?_eq_none (Nat.le_of_not_lt hl)]
  rw[h,e];omega
theorem incs_bd {C P:List Int} {Bd:Nat} (hCb:∀x∈C,0≤x∧x≤(Bd:Int)) (hm:P.length≤32) {k:Nat} (hk:k<(incs C P).length):0≤(incs C P).getD k default∧(incs C P).getD k default≤((Bd+32:Nat):Int):=
 incs_all hCb hm (getD_mem _ _ hk)
theorem sum_div (ls:List (Int×Int)) (part amount:Int) (G:List Int):amount*sumQ ls part amount G+(G.map (remF ls part amount)).sum=part*sumA ls G:=by
 induction G with
 |nil=>simp[sumQ,sumA]
 |cons g G ih=>
  simp only[sumQ,sumA,List.map_cons,List.sum_cons] at*
  have h:=Int.mul_ediv_add_emod (part*(ls.getD g.toNat default).1) amount
  rw[Int.mul_add,Int.mul_add]
  unfold qF remF at*
  omega
theorem rem_sum {ls:List (Int×Int)} {part amount:Int} (ham:0<amount) (G:List Int):0≤(G.map (remF ls part amount)).sum∧(G.map (remF ls part amount)).sum≤amount*G.length-G.length:=by
 induction G with
 |nil=>simp
 |cons g G ih=>
  have h1:0≤remF ls part amount g:=Int.emod_nonneg _ oM
  have h2:remF ls part amount g<amount:=Int.emod_lt_of_pos _ ham
  simp only[List.map_cons,List.sum_cons,List.length_cons]
  rw[Int.natCast_add,Int.mul_add]
  omega
theorem div_missing {ls:List (Int×Int)} {G:List Int} {part amount:Int} (hGr:∀i∈G,0≤i∧i<(ls.length:Int)) (hls:∀p∈ls,0≤p.1∧p.1≤1048576) (ham:0<amount∧amount≤33554432) (hp:0≤part∧part≤33554432) (hsum:amount=sumA ls G) (hpa:part≤amount):
 ∃M:Nat,(M:Int)=part-sumQ ls part amount G∧M≤G.length:=by
 have h1:=sum_div ls part amount G
 have h2:=rem_sum (ls:=ls) (part:=part) ham.1 G
 rw[←hsum] at h1
 obtain⟨s,hs⟩:∃s,s=sumQ ls part amount G:=⟨_,rfl⟩
 obtain⟨r,hr⟩:∃r,r=(G.map (remF ls part amount)).sum:=⟨_,rfl⟩
 rw[←hs,←hr] at h1
 rw[←hr] at h2
 rw[←hs]
 have h3:amount*(part-s)=r:=by rw[Int.mul_sub,Int.mul_comm amount part];omega
 have h4:0≤part-s:=by
  rcases Int.lt_or_le (part-s) 0 with h|h
  ·have:amount*(part-s)<0:=Int.mul_neg_of_pos_of_neg ham.1 h;omega
  exact h
 have h5:part-s≤G.length:=by
  rcases Int.lt_or_le (G.length:Int) (part-s) with h|h
  ·have:amount*(G.length:Int)<amount*(part-s):=Int.mul_lt_mul_of_pos_left h ham.1
   omega
  exact h
 exact⟨(part-s).toNat,by omega,by omega⟩
end Go.Proofs.YtandhgfmfpmemaaGreat
namespace Go.Proofs.YtandhgfmfpmemaaGreat
open Go.Vm Go.Vg
def me (ls:List (Int×Int)) (i:Int):Int:=(ls.getD i.toNat default).2
def am (ls:List (Int×Int)) (i:Int):Int:=(ls.getD i.toNat default).1
def idx (n:Nat):List Int:=(List.range n).map fun k:Nat=>(k:Int)
def grp (ls:List (Int×Int)) (m:Int):List Int:=(idx ls.length).filter fun i=>me ls i==m
def below (ls:List (Int×Int)) (m:Int):Int:=sumA ls ((idx ls.length).filter fun i=>decide (me ls i<m))
def partOf (ls:List (Int×Int)) (need m:Int):Int:=max 0 (min (need-below ls m) (sumA ls (grp ls m)))
def rankF (ls:List (Int×Int)) (G:List Int) (part S i:Int):Nat:=(G.filter fun j=>decide (remF ls part S i<remF ls part S j∨(remF ls part S j=remF ls part S i∧j<i))).length
def cutG (ls:List (Int×Int)) (G:List Int) (part i:Int):Int:=qF ls part (sumA ls G) i+if (rankF ls G part (sumA ls G) i:Int)<part-sumQ ls part (sumA ls G) G then 1 else 0
def cutF (ls:List (Int×Int)) (need i:Int):Int:=cutG ls (grp ls (me ls i)) (partOf ls need (me ls i)) i
def curtF (ls:List (Int×Int)) (need:Int):List Int:=(idx ls.length).map (cutF ls need)
theorem mem_idx {n:Nat} {i:Int}:i∈idx n↔0≤i∧i<(n:Int):=by
 simp only[idx,List.mem_map,List.mem_range]
 constructor
 ·rintro⟨k,hk,rfl⟩;omega
 intro h;exact⟨i.toNat,by omega,by omega⟩
theorem idx_asc (n:Nat):(idx n).Pairwise (·<·):=by
 unfold idx
 rw[List.pairwise_map]
 exact List.Pairwise.imp (by intro a b h;omega) List.pairwise_lt_range
theorem length_idx (n:Nat):(idx n).length=n:=by simp[idx]
theorem length_sets (C G:List Int) (q:Int→Int):(sets C G q).length=C.length:=by
 induction G generalizing C with
 |nil=>rfl
 |cons g G ih=>show(sets (C.set g.toNat (q g)) G q).length=_;rw[ih];simp
theorem getD_set_ne {α:Type} [Inhabited α] (l:List α) (k j:Nat) (x:α) (h:k≠j):(l.set k x).getD j default=l.getD j default:=by
 simp[List.getD_eq_getElem?_getD,List.getElem?_set_ne h]
theorem sets_pt {C G:List Int} {q:Int→Int} (hr:∀i∈G,0≤i∧i<(C.length:Int)) {i:Int} (hi:0≤i∧i<(C.length:Int)):(sets C G q).getD i.toNat default=if i∈G then q i else C.getD i.toNat default:=by
 induction G generalizing C with
 |nil=>simp[sets]
 |cons g G ih=>
  show(sets (C.set g.toNat (q g)) G q).getD i.toNat default=_
  have hg:=hr g (by simp)
  rw[ih (C:=C.set g.toNat (q g)) (fun j hj=>by have:=hr j (by simp[hj]);simpa using this) (by simpa using hi)]
  by_cases hiG:i∈G
  ·simp[hiG]
  by_cases hig:i=g
  ·subst hig
   rw[if_neg hiG,if_pos (by simp),getD_set_self _ _ _ oM]
  rw[if_neg hiG,if_neg (by simp[hig,hiG]),getD_set_ne _ _ _ _ oM]
theorem incs_pt {C P:List Int} (hn:P.Nodup) (hr:∀i∈P,0≤i∧i<(C.length:Int)) {i:Int} (hi:0≤i∧i<(C.length:Int)):(incs C P).getD i.toNat default=C.getD i.toNat default+if i∈P then 1 else 0:=by
 induction P generalizing C with
 |nil=>simp[incs]
 |cons g P ih=>
  show(incs (C.set g.toNat (C.getD g.toNat default+1)) P).getD i.toNat default=_
  have hg:=hr g (by simp)
  rw[List.nodup_cons] at hn
  rw[ih (C:=C.set g.toNat (C.getD g.toNat default+1)) hn.2 (fun j hj=>by have:=hr j (by simp[hj]);simpa using this) (by simpa using hi)]
  by_cases hig:i=g
  ·subst hig
   rw[getD_set_self _ _ _ oM,if_neg hn.1,if_pos (by simp)]
   omega
  rw[getD_set_ne _ _ _ _ oM]
  by_cases hiP:i∈P
  ·simp[hiP]
  simp[hiP,hig]
theorem nodup_of_asc {l:List Int} (h:l.Pairwise (·<·)):l.Nodup:=List.Pairwise.imp (fun h=>by omega) h
theorem rank_take {key:Int→Int} {G P:List Int} (hG:G.Pairwise (·<·)) (hs:Srt key P) (he:StE key G P) {i:Int} (hi:i∈G) (M:Nat):
 i∈P.take M↔(G.filter fun j=>decide (key j<key i∨(key j=key i∧j<i))).length<M:=by
 have hperm:G.Perm P:=he.perm
 have hPn:P.Nodup:=hperm.nodup_iff.1 (nodup_of_asc hG)
 obtain⟨P1,P2,hP⟩:=List.append_of_mem (he.mem hi)
 have hn:=hPn
 rw[hP,List.nodup_append] at hn
 have hi2:i∉P2:=(List.nodup_cons.1 hn.2.1).1
 have hi1:i∉P1:=fun h=>hn.2.2 i h i (by simp) rfl
 --those of the key of i stand in ascending order
 have hasc:((P1++i::P2).filter fun x=>key x==key i).Pairwise (·<·):=by
  rw[←hP,←he (key i)];exact List.Pairwise.filter _ hG
 rw[List.filter_append,List.filter_cons_of_pos (by simp)] at hasc
 have ha:=List.pairwise_append.1 hasc
 have h1:∀j∈P1,key j<key i∨(key j=key i∧j<i):=fun j hj=>by
  have hle:key j≤key i:=by rw[hP] at hs;exact hs.le hj (by simp)
  rcases Int.lt_or_eq_of_le hle with h|h
  ·exact .inl h
  exact .inr ⟨h,ha.2.2 j (by rw[List.mem_filter];exact⟨hj,by simp[h]⟩) i (by simp)⟩
 have h2:∀j∈i::P2,¬(key j<key i∨(key j=key i∧j<i)):=fun j hj=>by
  rcases List.mem_cons.1 hj with rfl|hj
  ·omega
  have hle:key i≤key j:=by rw[hP] at hs;exact(List.pairwise_cons.1 hs.right).1 j hj
  rintro(h|⟨h,h'⟩)
  ·omega
  have:=(List.pairwise_cons.1 ha.2.1).1 j (by rw[List.mem_filter];exact⟨hj,by simp[h]⟩)
  omega
 have hlen:(G.filter fun j=>decide (key j<key i∨(key j=key i∧j<i))).length=P1.length:=by
  rw[(hperm.filter _).length_eq,hP,List.filter_append,List.filter_eq_self.2 (fun j hj=>by simpa using h1 j hj),List.filter_eq_nil_iff.2 (fun j hj=>by simpa using h2 j hj)]
  simp
 rw[hlen,hP]
 constructor
 ·intro h
  rcases Nat.lt_or_ge P1.length M with hM|hM
  ·exact hM
  rw[List.take_append_of_le_length hM] at h
  exact absurd (List.mem_of_mem_take h) hi1
 intro h
 rw[List.take_append,List.take_of_length_le oM]
 obtain⟨d,hd⟩:∃d,M-P1.length=d+1:=⟨M-P1.length-1,by omega⟩
 rw[hd]
 simp
theorem div_pt {ls:List (Int×Int)} {G C C':List Int} {part:Int} (h:DivSpec ls G part (sumA ls G) C C') (hG:G.Pairwise (·<·)) (hr:∀i∈G,0≤i∧i<(C.length:Int)) (hz:∀i∈G,C.getD i.toNat default=0) (hp:0≤part) (hpS:part≤sumA ls G) {i:Int} (hi:0≤i∧i<(C.length:Int)):
 C'.getD i.toNat default=if i∈G then cutG ls G part i else C.getD i.toNat default:=by
 rcases h with ⟨h0,rfl⟩|⟨h0,P,hs,he,rfl⟩
 ·by_cases hiG:i∈G
  ·rw[if_pos hiG,hz i hiG]
   have hp0:part=0:=by omega
   subst hp0
   have hq:∀j,qF ls 0 (sumA ls G) j=0:=fun j=>by simp[qF]
   have hsq:sumQ ls 0 (sumA ls G) G=0:=by
    unfold sumQ
    rw[List.map_congr_left (g:=fun _=>(0:Int)) (fun j _=>hq j)]
    generalize G=G'
    induction G' with
    |nil=>rfl
    |cons a G' ih=>simpa using ih
   unfold cutG
   rw[hq,hsq,if_neg oM]
   rfl
  rw[if_neg hiG]
 have hperm:G.Perm P:=he.perm
 have hPn:P.Nodup:=hperm.nodup_iff.1 (nodup_of_asc hG)
 have hPr:∀j∈P.take (part-sumQ ls part (sumA ls G) G).toNat,0≤j∧j<((sets C G (qF ls part (sumA ls G))).length:Int):=fun j hj=>by
  rw[length_sets];exact hr j (he.symm.mem (List.mem_of_mem_take hj))
 rw[incs_pt (List.Nodup.sublist (List.take_sublist _ _) hPn) hPr (by rw[length_sets];exact hi),sets_pt hr hi]
 by_cases hiG:i∈G
 ·rw[if_pos hiG,if_pos hiG]
  unfold cutG
  congr 1
  have hrk:=rank_take hG hs he hiG (part-sumQ ls part (sumA ls G) G).toNat
  have e:(G.filter fun j=>decide (-(remF ls part (sumA ls G) j)< -(remF ls part (sumA ls G) i)∨(-(remF ls part (sumA ls G) j)=-(remF ls part (sumA ls G) i)∧j<i))).length=rankF ls G part (sumA ls G) i:=by
   unfold rankF
   congr 1
   apply List.filter_congr
   intro j _
   rw[decide_eq_decide]
   constructor<;>rintro(h|h)<;>omega
  rw[e] at hrk
  by_cases hc:(rankF ls G part (sumA ls G) i:Int)<part-sumQ ls part (sumA ls G) G
  ·rw[if_pos hc,if_pos (hrk.2 oM)]
  rw[if_neg hc,if_neg (fun h=>hc (by have:=hrk.1 h;omega))]
 rw[if_neg hiG,if_neg hiG,if_neg (fun h=>hiG (he.symm.mem (List.mem_of_mem_take h)))]
 omega
theorem sumA_append (ls:List (Int×Int)) (a b:List Int):sumA ls (a++b)=sumA ls a+sumA ls b:=by simp[sumA]
theorem sumA_perm {ls:List (Int×Int)} {a b:List Int} (h:a.Perm b):sumA ls a=sumA ls b:=by
 unfold sumA
 induction h with
 |nil=>rfl
 |cons x _ ih=>simp only[List.map_cons,List.sum_cons,ih]
 |swap x y l=>simp only[List.map_cons,List.sum_cons];omega
 |trans _ _ h1 h2=>exact h1.trans h2
theorem sumA_nonneg {ls:List (Int×Int)} (hls:∀p∈ls,0≤p.1∧p.1≤1048576) {G:List Int} (hG:∀i∈G,0≤i∧i<(ls.length:Int)):0≤sumA ls G∧sumA ls G≤1048576*G.length:=by
 induction G with
 |nil=>simp[sumA]
 |cons g G ih=>
  have h1:=ih fun i hi=>hG i (by simp[hi])
  have hg:=hG g (by simp)
  have h2:=hls (ls.getD g.toNat default) (getD_mem _ _ oM)
  simp only[sumA,List.map_cons,List.sum_cons,List.length_cons] at*
  omega
theorem cut_zero (ls:List (Int×Int)) (G:List Int) (i:Int):cutG ls G 0 i=0:=by
 have hq:∀j,qF ls 0 (sumA ls G) j=0:=fun j=>by simp[qF]
 have hsq:sumQ ls 0 (sumA ls G) G=0:=by
  unfold sumQ
  rw[List.map_congr_left (g:=fun _=>(0:Int)) (fun j _=>hq j)]
  generalize G=G'
  induction G' with
  |nil=>rfl
  |cons a G' ih=>simpa using ih
 unfold cutG
 rw[hq,hsq,if_neg oM]
 rfl
theorem grp_eq {ls:List (Int×Int)} {Dn R:List Int} (hs:Srt (me ls) (Dn++R)) (he:StE (me ls) (idx ls.length) (Dn++R)) (hB:∀i∈Dn,∀j∈R,me ls i<me ls j) {k:Nat} (hk:0<k) (hkR:k≤R.length) (hsame:∀j∈R.take k,me ls j=me ls (R.getD 0 default)) (hend:k=R.length∨me ls (R.getD k default)≠me ls (R.getD 0 default)):
 R.take k=grp ls (me ls (R.getD 0 default))∧∀j∈R.drop k,me ls (R.getD 0 default)<me ls j:=by
 have hR0:R.getD 0 default∈R:=getD_mem _ _ oM
 have hdrop:∀j∈R.drop k,me ls (R.getD 0 default)<me ls j:=fun j hj=>by
  obtain⟨q,hq,hql,rfl⟩:=mem_drop_at hj
  rcases hend with h|h
  ·omega
  have h1:=hs.right.at (i:=0) (j:=k) oM oM
  have h2:=hs.right.at (i:=k) (j:=q) hq hql
  omega
 refine⟨?_,hdrop⟩
 unfold grp
 rw[he (me ls (R.getD 0 default)),List.filter_append]
 have e1:Dn.filter (fun x=>me ls x==me ls (R.getD 0 default))=[]:=by
  rw[List.filter_eq_nil_iff];intro i hi h;have:=hB i hi _ hR0;rw[beq_iff_eq] at h;omega
 have e2:R.filter (fun x=>me ls x==me ls (R.getD 0 default))=R.take k:=by
  rw[←List.take_append_drop k R,List.filter_append]
  rw[List.take_append_drop]
  rw[List.filter_eq_self.2 (fun j hj=>by rw[beq_iff_eq];exact hsame j hj),List.filter_eq_nil_iff.2 (fun j hj h=>by have:=hdrop j hj;rw[beq_iff_eq] at h;omega)]
  simp
 rw[e1,e2,List.nil_append]
theorem below_eq {ls:List (Int×Int)} {Dn R:List Int} (he:StE (me ls) (idx ls.length) (Dn++R)) {m:Int} (h1:∀i∈Dn,me ls i<m):sumA ls Dn+sumA ls (R.filter fun i=>decide (me ls i<m))=below ls m:=by
 unfold below
 have e:Dn.filter (fun i=>decide (me ls i<m))=Dn:=List.filter_eq_self.2 (fun i hi=>by simpa using h1 i hi)
 rw[sumA_perm (he.perm.filter _),List.filter_append,sumA_append,e]
theorem part_eq {need nd b S:Int} (hnd:nd=max 0 (need-b)) (h0:0<nd) (hS:0≤S):(if S<nd then S else nd)=max 0 (min (need-b) S):=by
 split<;>omega
theorem curt_all {ls:List (Int×Int)} {need:Int} {C:List Int} (hl:C.length=ls.length) (h:∀i,0≤i→i<(ls.length:Int)→C.getD i.toNat default=cutF ls need i):C=curtF ls need:=by
 apply List.ext_getElem
 ·simp[curtF,idx,hl]
 intro k h1 h2
 have:=h (k:Int) oM oM
 simp[h1] at this
 simp[curtF,idx,this]
def sumP (l:List (Int×Int)):Int:=(l.map (·.1)).sum
theorem sumP_snoc (l:List (Int×Int)) (p:Int×Int):sumP (l++[p])=sumP l+p.1:=by simp[sumP]
open Classical in
noncomputable def curtE (ls:List (Int×Int)) (need:Int):Int:=if 32<ls.length then 8 else if (∀p∈ls,0≤p.1∧p.1≤1048576) then (if need<0∨sumP ls<need then 3 else 0) else 3
def fillI (n k:Nat):List Int:=idx k++List.replicate (n-k) 0
theorem idx_succ (k:Nat):idx (k+1)=idx k++[(k:Int)]:=by simp[idx,List.range_succ]
theorem fill_set (n k:Nat) (h:k<n):(fillI n k).set k (k:Int)=fillI n (k+1):=by
 unfold fillI
 rw[List.set_append_right _ _ (by rw[length_idx];exact Nat.le_refl _),length_idx,Nat.sub_self,idx_succ]
 obtain⟨m,hm⟩:∃m,n-k=m+1:=⟨n-k-1,by omega⟩
 rw[hm,List.replicate_succ,show n-(k+1)=m by omega]
 simp
theorem fill_all (n:Nat):fillI n n=idx n:=by simp[fillI]
theorem sumA_idx (ls:List (Int×Int)):sumA ls (idx ls.length)=sumP ls:=by
 unfold sumA sumP idx
 rw[List.map_map]
 congr 1
 apply List.ext_getElem
 ·simp
 intro k h1 h2
 simp at h1 h2
 simp[h2]
theorem curt_step {ls:List (Int×Int)} {need nd pt:Int} {Dn R C C':List Int} {k:Nat} (hls:∀p∈ls,0≤p.1∧p.1≤1048576) (hs:Srt (me ls) (Dn++R)) (he:StE (me ls) (idx ls.length) (Dn++R)) (hB:∀i∈Dn,∀j∈R,me ls i<me ls j)
 (hk:0<k) (hkR:k≤R.length) (hsame:∀j∈R.take k,me ls j=me ls (R.getD 0 default)) (hend:k=R.length∨me ls (R.getD k default)≠me ls (R.getD 0 default))
 (hnd:nd=max 0 (need-sumA ls Dn)) (hnd0:0<nd) (hpt:pt=if sumA ls (R.take k)<nd then sumA ls (R.take k) else nd) (hCl:C.length=ls.length) (hC:∀i,0≤i→i<(ls.length:Int)→C.getD i.toNat default=if i∈Dn then cutF ls need i else 0)
 (hd:DivSpec ls (R.take k) pt (sumA ls (R.take k)) C C'):
 (∀i∈Dn++R.take k,∀j∈R.drop k,me ls i<me ls j)∧nd-pt=max 0 (need-sumA ls (Dn++R.take k))∧∀i,0≤i→i<(ls.length:Int)→C'.getD i.toNat default=if i∈Dn++R.take k then cutF ls need i else 0:=by
 obtain⟨hg,hdrop⟩:=grp_eq hs he hB hk hkR hsame hend
 have hin:∀i∈Dn++R,0≤i∧i<(ls.length:Int):=fun i hi=>mem_idx.1 (he.symm.mem hi)
 have hGin:∀i∈R.take k,0≤i∧i<(ls.length:Int):=fun i hi=>hin i (List.mem_append_right _ (List.mem_of_mem_take hi))
 have hS:=(sumA_nonneg hls hGin).1
 have hR0:R.getD 0 default∈R:=getD_mem _ _ oM
 have hbel:=below_eq he (m:=me ls (R.getD 0 default)) (fun i hi=>hB i hi _ hR0)
 have hRf:R.filter (fun i=>decide (me ls i<me ls (R.getD 0 default)))=[]:=by
  rw[List.filter_eq_nil_iff]
  intro j hj h
  obtain⟨q,hq,rfl⟩:=List.mem_iff_getElem.1 hj
  have h1:=hs.right.at (i:=0) (j:=q) oM hq
  rw[decide_eq_true_eq] at h
  simp[hq] at h1
  simp at h
  omega
 rw[hRf] at hbel
 have hbel':below ls (me ls (R.getD 0 default))=sumA ls Dn:=by rw[←hbel];simp[sumA]
 have hpart:pt=partOf ls need (me ls (R.getD 0 default)):=by
  unfold partOf
  rw[hbel',←hg,hpt]
  exact part_eq hnd hnd0 hS
 refine⟨fun i hi j hj=>?_,?_,fun i h0 h1=>?_⟩
 ·rcases List.mem_append.1 hi with hi|hi
  ·exact hB i hi j (List.mem_of_mem_drop hj)
  rw[hsame i hi];exact hdrop j hj
 ·rw[sumA_append,hpt];split<;>omega
 have hasc:(R.take k).Pairwise (·<·):=by rw[hg];exact List.Pairwise.filter _ (idx_asc _)
 have hnot:∀j∈R.take k,j∉Dn:=fun j hj hD=>by have:=hB j hD j (List.mem_of_mem_take hj);omega
 rw[div_pt hd hasc (fun j hj=>by rw[hCl];exact hGin j hj) (fun j hj=>by have:=hGin j hj;rw[hC j this.1 this.2,if_neg (hnot j hj)]) (by rw[hpt];split<;>omega) (by rw[hpt];split<;>omega) (by rw[hCl];exact⟨h0,h1⟩)]
 by_cases hi:i∈R.take k
 ·rw[if_pos hi,if_pos (List.mem_append_right _ hi)]
  unfold cutF
  rw[hsame i hi,←hg,←hpart]
 rw[if_neg hi,hC i h0 h1]
 by_cases hD:i∈Dn
 ·rw[if_pos hD,if_pos (List.mem_append_left _ hD)]
 rw[if_neg hD,if_neg (by simp[hD,hi])]
theorem curt_end {ls:List (Int×Int)} {need nd:Int} {Dn R C:List Int} (hls:∀p∈ls,0≤p.1∧p.1≤1048576) (he:StE (me ls) (idx ls.length) (Dn++R)) (hB:∀i∈Dn,∀j∈R,me ls i<me ls j)
 (hnd:nd=max 0 (need-sumA ls Dn)) (hfin:R=[]∨nd≤0) (hCl:C.length=ls.length) (hC:∀i,0≤i→i<(ls.length:Int)→C.getD i.toNat default=if i∈Dn then cutF ls need i else 0):C=curtF ls need:=by
 refine curt_all hCl fun i h0 h1=>?_
 rw[hC i h0 h1]
 by_cases hD:i∈Dn
 ·rw[if_pos hD]
 rw[if_neg hD]
 have hi:i∈Dn++R:=he.mem (mem_idx.2 ⟨h0,h1⟩)
 have hiR:i∈R:=(List.mem_append.1 hi).resolve_left hD
 have hnd0:nd≤0:=by
  rcases hfin with rfl|h
  ·cases hiR
  exact h
 have hbel:=below_eq he (m:=me ls i) (fun j hj=>hB j hj i hiR)
 have hpos:=(sumA_nonneg hls (G:=R.filter fun j=>decide (me ls j<me ls i)) (fun j hj=>mem_idx.1 (he.symm.mem (List.mem_append_right _ (List.mem_filter.1 hj).1)))).1
 have hp0:partOf ls need (me ls i)=0:=by unfold partOf;omega
 unfold cutF
 rw[hp0,cut_zero]
end Go.Proofs.YtandhgfmfpmemaaGreat
namespace Go.Proofs.YtandhgfmfpmemaaGreat
open Go.Vm Go.Vg
def partL (ls:List (Int×Int)) (m cut:Int):List Rat:=(List.range ls.length).map fun(i:Nat)=>if me ls i=m then ((cut*am ls i:Int):Rat)/((sumA ls (grp ls m):Int):Rat) else 0
theorem length_partL (ls:List (Int×Int)) (m cut:Int):(partL ls m cut).length=ls.length:=by simp[partL]
theorem partL_at {ls:List (Int×Int)} {m cut:Int} {i:Nat} (hi:i<ls.length):(partL ls m cut).getD i default=if me ls i=m then ((cut*am ls i:Int):Rat)/((sumA ls (grp ls m):Int):Rat) else 0:=by
 simp[partL,hi]
theorem floor_div {a b:Int} (hb:0<b):((a:Rat)/(b:Rat)).floor=a/b:=by
 have e:((a:Rat)/(b:Rat))=((a/b:Int):Rat)+((a%b:Int):Rat)/(b:Rat):=by
  have hb':(b:Rat)≠0:=fun h=>by have:=(Rat.intCast_eq_zero_iff).1 h;omega
  have h:((a:Int):Rat)=(b:Rat)*((a/b:Int):Rat)+((a%b:Int):Rat):=by
   rw[←Rat.intCast_mul,←Rat.intCast_add,Int.mul_ediv_add_emod]
  rw[h]
  grind
 have hb0:(0:Rat)<(b:Rat):=Rat.intCast_lt_intCast (a:=0).2 hb
 have h1:(0:Rat)≤((a%b:Int):Rat):=Rat.intCast_le_intCast (a:=0).2 (Int.emod_nonneg _ oM)
 have h2:((a%b:Int):Rat)<(b:Rat):=Rat.intCast_lt_intCast.2 (Int.emod_lt_of_pos _ hb)
 have h3:0≤((a%b:Int):Rat)/(b:Rat):=by
  rw[Rat.div_def];exact Rat.mul_nonneg h1 (Rat.le_of_lt (Rat.inv_pos.2 hb0))
 have h4:((a%b:Int):Rat)/(b:Rat)<1:=(Rat.div_lt_iff hb0).2 (by rw[Rat.one_mul];exact h2)
 have h5:(a/b)≤((a:Rat)/(b:Rat)).floor:=Rat.le_floor_iff.2 (by rw[e];grind)
 have h6:((a:Rat)/(b:Rat)).floor<a/b+1:=Rat.intCast_lt_intCast.1 (by
  have:=Rat.floor_le ((a:Rat)/(b:Rat))
  rw[Rat.intCast_add]
  rw[e] at this ⊢
  grind)
 omega
theorem fr_div {a b:Int} (hb:0<b):fr ((a:Rat)/(b:Rat))=((a%b:Int):Rat)/(b:Rat):=by
 unfold fr
 rw[floor_div hb]
 have hb':(b:Rat)≠0:=fun h=>by have:=(Rat.intCast_eq_zero_iff).1 h;omega
 have h:((a:Int):Rat)=(b:Rat)*((a/b:Int):Rat)+((a%b:Int):Rat):=by
  rw[←Rat.intCast_mul,←Rat.intCast_add,Int.mul_ediv_add_emod]
 rw[h]
 grind
theorem fr_lt_iff {a c b:Int} (hb:0<b):((a:Int):Rat)/(b:Rat)<((c:Int):Rat)/(b:Rat)↔a<c:=by
 have hb0:(0:Rat)<(b:Rat):=Rat.intCast_lt_intCast (a:=0).2 hb
 rw[Rat.div_lt_iff hb0,Rat.div_mul_cancel (Rat.ne_of_gt hb0)]
 exact Rat.intCast_lt_intCast
theorem fr_eq_iff {a c b:Int} (hb:0<b):((a:Int):Rat)/(b:Rat)=((c:Int):Rat)/(b:Rat)↔a=c:=by
 constructor
 ·intro h
  rcases Int.lt_trichotomy a c with h1|h1|h1
  ·have:=(fr_lt_iff hb).2 h1;grind
  ·exact h1
  have:=(fr_lt_iff hb).2 h1;grind
 intro h;rw[h]
theorem zero_div' (b:Rat):(0:Rat)/b=0:=by rw[Rat.div_def,Rat.zero_mul]
def gN' (ls:List (Int×Int)) (m:Int) (n:Nat):List Nat:=(List.range n).filter fun j:Nat=>me ls j==m
theorem grp_map (ls:List (Int×Int)) (m:Int) (n:Nat):((idx n).filter fun i=>me ls i==m)=(gN' ls m n).map fun k:Nat=>(k:Int):=by
 unfold idx gN'
 rw[List.filter_map]
 rfl
theorem gN_succ (ls:List (Int×Int)) (m:Int) (n:Nat):gN' ls m (n+1)=gN' ls m n++if me ls n=m then [n] else []:=by
 unfold gN'
 rw[List.range_succ,List.filter_append]
 congr 1
 by_cases h:me ls n=m<;>simp[h]
theorem part_take {ls:List (Int×Int)} {m cut:Int} {k:Nat} (hk:k<ls.length):(partL ls m cut).take (k+1)=(partL ls m cut).take k++[(partL ls m cut).getD k default]:=by
 rw[List.take_succ_eq_append_getElem (by rw[length_partL];exact hk)]
 congr 2
 simp[List.getD_eq_getElem?_getD,length_partL,hk]
theorem part_sums {ls:List (Int×Int)} {m cut S:Int} (hS:S=sumA ls (grp ls m)) (h0:0<S):∀k,k≤ls.length→
 rsum ((partL ls m cut).take k)=((cut*sumA ls ((gN' ls m k).map fun k:Nat=>(k:Int)):Int):Rat)/(S:Rat)∧flsum ((partL ls m cut).take k)=sumQ ls cut S ((gN' ls m k).map fun k:Nat=>(k:Int)):=by
 have hS0:(S:Rat)≠0:=fun h=>by have:=(Rat.intCast_eq_zero_iff).1 h;omega
 intro k
 induction k with
 |zero=>intro _;constructor<;>simp[gN',sumA,sumQ,flsum,rsum,zero_div']
 |succ k ih=>
  intro hk
  obtain⟨h1,h2⟩:=ih oM
  rw[part_take oM,rsum_snoc,flsum_snoc,h1,h2,partL_at oM,gN_succ,←hS]
  by_cases hm:me ls k=m
  ·rw[if_pos hm,if_pos hm,List.map_append,sumA_append,floor_div h0]
   constructor
   ·rw[Int.mul_add,Rat.intCast_add]
    have e:sumA ls (List.map (fun k:Nat=>(k:Int)) [k])=am ls k:=by simp[sumA,am]
    rw[e]
    grind
   simp[sumQ,qF,am]
  rw[if_neg hm,if_neg hm,List.append_nil]
  refine⟨by grind,?_⟩
  have:(0:Rat).floor=0:=rfl
  omega
def posN (ls:List (Int×Int)) (m cut S:Int) (n:Nat):Nat:=((gN' ls m n).filter fun j=>decide (0<remF ls cut S (j:Nat))).length
theorem rem_pos {ls:List (Int×Int)} {m cut S:Int} (h0:0<S) (G:List Nat):((G.map fun k:Nat=>(k:Int)).map (remF ls cut S)).sum≤S*((G.filter fun j=>decide (0<remF ls cut S (j:Nat))).length:Nat):=by
 induction G with
 |nil=>simp
 |cons g G ih=>
  have h1:0≤remF ls cut S g:=Int.emod_nonneg _ oM
  have h2:remF ls cut S g<S:=Int.emod_lt_of_pos _ h0
  simp only[List.map_cons,List.sum_cons,List.filter_cons]
  by_cases hp:0<remF ls cut S g
  ·rw[decide_eq_true hp,if_pos rfl,List.length_cons,Int.natCast_add,Int.mul_add]
   omega
  rw[decide_eq_false hp,if_neg (by simp)]
  omega
theorem miss_pos {ls:List (Int×Int)} {m cut S:Int} (hS:S=sumA ls (grp ls m)) (h0:0<S):cut-sumQ ls cut S (grp ls m)≤posN ls m cut S ls.length:=by
 have h1:=sum_div ls cut S (grp ls m)
 rw[←hS] at h1
 have h2:=rem_pos (ls:=ls) (m:=m) (cut:=cut) h0 (gN' ls m ls.length)
 rw[←grp_map] at h2
 change ((grp ls m).map (remF ls cut S)).sum≤S*(posN ls m cut S ls.length:Nat) at h2
 generalize ((grp ls m).map (remF ls cut S)).sum=r at*
 generalize sumQ ls cut S (grp ls m)=q at*
 generalize (posN ls m cut S ls.length:Nat)=p at*
 have h3:S*(cut-q)≤S*(p:Int):=by rw[Int.mul_sub,Int.mul_comm S cut];omega
 exact Int.le_of_mul_le_mul_left h3 h0
section
variable {ls:List (Int×Int)} {m cut S:Int}
theorem P_at (hS:S=sumA ls (grp ls m)) (h0:0<S) {j:Nat} (hj:j<ls.length):fr ((partL ls m cut).getD j default)=if me ls j=m then ((remF ls cut S j:Int):Rat)/(S:Rat) else 0:=by
 rw[partL_at hj,←hS]
 split
 ·rw[fr_div h0];rfl
 have:(0:Rat).floor=0:=rfl
 unfold fr;rw[this];grind
theorem pos_le_rk (hS:S=sumA ls (grp ls m)) (h0:0<S) {i:Nat} (hz:fr ((partL ls m cut).getD i default)=0):posN ls m cut S ls.length≤rk (fun j=>fr ((partL ls m cut).getD j default)) ls.length i:=by
 unfold posN rk gN'
 rw[List.filter_filter]
 refine sub_len (List.nodup_range.filter _) fun x hx=>?_
 obtain⟨hx1,hx2⟩:=List.mem_filter.1 hx
 rw[Bool.and_eq_true,decide_eq_true_eq,beq_iff_eq] at hx2
 refine List.mem_filter.2 ⟨hx1,decide_eq_true (.inl ?_)⟩
 show fr ((partL ls m cut).getD i default)<fr ((partL ls m cut).getD x default)
 rw[hz,P_at hS h0 (List.mem_range.1 hx1),if_pos hx2.2]
 have:=(fr_lt_iff (a:=0) (c:=remF ls cut S x) h0).2 hx2.1
 rw[show((0:Int):Rat)=0 from rfl,zero_div'] at this
 exact this
theorem rank_grp (hS:S=sumA ls (grp ls m)) (h0:0<S) {i:Nat} (hi:i<ls.length) (hm:me ls i=m):
 (rk (fun j=>fr ((partL ls m cut).getD j default)) ls.length i:Int)<cut-sumQ ls cut S (grp ls m)↔(rankF ls (grp ls m) cut S i:Int)<cut-sumQ ls cut S (grp ls m):=by
 have hK:=miss_pos (cut:=cut) hS h0
 have hr0:0≤remF ls cut S i:=Int.emod_nonneg _ oM
 have hPi:=P_at (cut:=cut) hS h0 hi
 rw[if_pos hm] at hPi
 by_cases hz:remF ls cut S i=0
 ·have h1:=pos_le_rk (i:=i) (cut:=cut) hS h0 (by rw[hPi,hz,show((0:Int):Rat)=0 from rfl,zero_div'])
  have h2:posN ls m cut S ls.length≤rankF ls (grp ls m) cut S i:=by
   unfold rankF
   unfold grp
   rw[grp_map,List.filter_map,List.length_map]
   unfold posN
   refine sub_len ((List.nodup_range.filter _).filter _) fun x hx=>?_
   obtain⟨hx1,hx2⟩:=List.mem_filter.1 hx
   refine List.mem_filter.2 ⟨hx1,?_⟩
   have:=of_decide_eq_true hx2
   simp only[Function.comp]
   exact decide_eq_true (.inl (by rw[hz];exact this))
  omega
 have e:rk (fun j=>fr ((partL ls m cut).getD j default)) ls.length i=rankF ls (grp ls m) cut S i:=by
  unfold rk rankF
  unfold grp
  rw[grp_map,List.filter_map,List.length_map]
  unfold gN'
  rw[List.filter_filter]
  congr 1
  refine List.filter_congr fun x hx=>?_
  have hx':=List.mem_range.1 hx
  have hPx:=P_at (cut:=cut) hS h0 hx'
  have hbef:bef (fun j=>fr ((partL ls m cut).getD j default)) x i↔(remF ls cut S i<remF ls cut S x∨remF ls cut S x=remF ls cut S i∧x<i)∧me ls x=m:=by
   unfold bef
   simp only[hPi,hPx]
   by_cases hmx:me ls x=m
   ·simp only[hmx,if_true,fr_lt_iff h0,fr_eq_iff h0,and_true]
   simp only[hmx,if_false,and_false,iff_false]
   have hp:=(fr_lt_iff (a:=0) (c:=remF ls cut S i) h0).2 oM
   rw[show((0:Int):Rat)=0 from rfl,zero_div'] at hp
   rintro(h|⟨h,_⟩)
   ·grind
   grind
  simp only[Function.comp]
  by_cases hb:bef (fun j=>fr ((partL ls m cut).getD j default)) x i
  ·rw[decide_eq_true hb]
   obtain⟨h1,h2⟩:=hbef.1 hb
   rw[decide_eq_true (by rcases h1 with h1|h1;exact .inl h1;exact .inr ⟨h1.1,by omega⟩)]
   simp[h2]
  rw[decide_eq_false hb]
  symm
  rw[Bool.and_eq_false_iff]
  by_cases hmx:me ls x=m
  ·left
   refine decide_eq_false fun h=>hb (hbef.2 ⟨?_,hmx⟩)
   rcases h with h|h
   ·exact .inl h
   exact .inr ⟨h.1,by omega⟩
  right
  simpa using hmx
 rw[e]
theorem app_cut (hS:S=sumA ls (grp ls m)) (hS0:0≤S) (hc0:0≤cut) (hcS:cut≤S) {i:Nat} (hi:i<ls.length):
 rsum (partL ls m cut)=(cut:Rat)∧appF (partL ls m cut) cut i=if me ls i=m then cutG ls (grp ls m) cut i else 0:=by
 by_cases h0:0<S
 ·obtain⟨h1,h2⟩:=part_sums (cut:=cut) hS h0 ls.length (Nat.le_refl _)
  rw[←grp_map] at h1 h2
  change rsum ((partL ls m cut).take ls.length)=((cut*sumA ls (grp ls m):Int):Rat)/(S:Rat) at h1
  change _=sumQ ls cut S (grp ls m) at h2
  rw[List.take_of_length_le (by rw[length_partL];exact Nat.le_refl _)] at h1 h2
  have hS1:(S:Rat)≠0:=fun h=>by have:=(Rat.intCast_eq_zero_iff).1 h;omega
  refine⟨by rw[h1,←hS,Rat.intCast_mul];grind,?_⟩
  unfold appF
  rw[h2,length_partL,partL_at hi,←hS]
  by_cases hm:me ls i=m
  ·rw[if_pos hm,if_pos hm,floor_div h0]
   unfold cutG
   rw[←hS]
   have e:cut*am ls i/S=qF ls cut S i:=rfl
   rw[e]
   congr 1
   simp only[rank_grp hS h0 hi hm]
  rw[if_neg hm,if_neg hm]
  have hz:fr ((partL ls m cut).getD i default)=0:=by rw[P_at hS h0 hi,if_neg hm]
  have h3:=pos_le_rk (cut:=cut) hS h0 hz
  have h4:=miss_pos (cut:=cut) hS h0
  have:(0:Rat).floor=0:=rfl
  rw[this,if_neg oM]
  rfl
 have hS':S=0:=by omega
 have hcut:cut=0:=by omega
 have hall:∀j,(partL ls m cut).getD j default=0:=fun j=>by
  by_cases hj:j<ls.length
  ·rw[partL_at hj,hcut]
   split
   ·rw[Int.zero_mul,show((0:Int):Rat)=0 from rfl,zero_div']
   rfl
  rw[List.getD_eq_getElem?_getD,List.getElem?_eq_none (show(partL ls m cut).length≤j by rw[length_partL];omega)];rfl
 have hrep:partL ls m cut=List.replicate ls.length 0:=by
  apply List.ext_getElem
  ·simp[length_partL]
  intro j h1 h2
  have:=hall j
  simp only[List.getD_eq_getElem?_getD,List.getElem?_eq_getElem h1,Option.getD_some] at this
  simp[this]
 have hs:∀n:Nat,rsum (List.replicate n 0)=0∧flsum (List.replicate n 0)=0:=by
  intro n
  induction n with
  |zero=>exact⟨rfl,rfl⟩
  |succ n ih=>
   rw[List.replicate_succ',rsum_snoc,flsum_snoc,ih.1,ih.2]
   exact⟨by grind,rfl⟩
 refine⟨by rw[hrep,(hs _).1,hcut];rfl,?_⟩
 unfold appF
 rw[hall i,show flsum (partL ls m cut)=0 by rw[hrep];exact(hs _).2]
 have:(0:Rat).floor=0:=rfl
 rw[this,hcut,if_neg oM,cut_zero]
 split<;>rfl
end
end Go.Proofs.YtandhgfmfpmemaaGreat
namespace Go.Proofs.YtandhgfmfpmemaaGreat
open Go.Vm Go.Vg
def dS (ls:List (Int×Int)) (dn:List Bool):Int:=sumA ls ((idx ls.length).filter fun i=>dn.getD i.toNat default)
def Lst (ls:List (Int×Int)) (dn:List Bool) (k:Nat) (b:Int):Prop:=(b=-1∧∀j,j<k→dn.getD j default=true)∨∃c:Nat,b=(c:Int)∧c<k∧dn.getD c default=false∧∀j,j<k→dn.getD j default=false→me ls c≤me ls j
theorem Lst.zero (ls:List (Int×Int)) (dn:List Bool):Lst ls dn 0 (-1):=.inl ⟨rfl,fun _ h=>absurd h (Nat.not_lt_zero _)⟩
theorem Lst.skip {ls:List (Int×Int)} {dn:List Bool} {k:Nat} {b:Int} (h:Lst ls dn k b) (hk:dn.getD k default=true):Lst ls dn (k+1) b:=by
 rcases h with ⟨h1,h2⟩|⟨c,h1,h2,h3,h4⟩
 ·exact .inl ⟨h1,fun j hj=>by rcases Nat.lt_or_eq_of_le (Nat.le_of_lt_succ hj) with h|rfl;exact h2 j h;exact hk⟩
 exact .inr ⟨c,h1,by omega,h3,fun j hj hn=>by
  rcases Nat.lt_or_eq_of_le (Nat.le_of_lt_succ hj) with h|rfl
  ·exact h4 j h hn
  rw[hk] at hn;cases hn⟩
theorem Lst.keep {ls:List (Int×Int)} {dn:List Bool} {k c:Nat} (h:Lst ls dn k (c:Int)) (hp:¬me ls k<me ls c):Lst ls dn (k+1) (c:Int):=by
 rcases h with ⟨h1,h2⟩|⟨c',h1,h2,h3,h4⟩
 ·omega
 have e:c=c':=by omega
 subst e
 refine .inr ⟨c,rfl,by omega,h3,fun j hj hn=>?_⟩
 rcases Nat.lt_or_eq_of_le (Nat.le_of_lt_succ hj) with h|rfl
 ·exact h4 j h hn
 omega
theorem Lst.take {ls:List (Int×Int)} {dn:List Bool} {k:Nat} {b:Int} (h:Lst ls dn k b) (hk:dn.getD k default=false) (hp:b=-1∨me ls k<me ls b):Lst ls dn (k+1) (k:Int):=by
 refine .inr ⟨k,rfl,by omega,hk,fun j hj hn=>?_⟩
 by_cases e:j=k
 ·subst e;omega
 have hj':j<k:=by omega
 rcases h with ⟨h1,h2⟩|⟨c,h1,h2,h3,h4⟩
 ·rw[h2 j hj'] at hn;cases hn
 have:=h4 j hj' hn
 rcases hp with hp|hp
 ·omega
 rw[h1] at hp;omega
theorem dS_le {ls:List (Int×Int)} {dn:List Bool} (h:∀j,j<ls.length→dn.getD j default=true):dS ls dn=sumP ls:=by
 unfold dS
 rw[List.filter_eq_self.2,sumA_idx]
 intro i hi
 obtain⟨h0,h1⟩:=mem_idx.1 hi
 exact h i.toNat oM
theorem Lst.fin {ls:List (Int×Int)} {dn:List Bool} {b:Int} {need nd:Int} (h:Lst ls dn ls.length b) (hnd:nd=max 0 (need-dS ls dn)) (h0:0<nd) (hn:need≤sumP ls):∃c:Nat,b=(c:Int)∧c<ls.length∧dn.getD c default=false∧∀j,j<ls.length→dn.getD j default=false→me ls c≤me ls j:=by
 rcases h with ⟨h1,h2⟩|h
 ·rw[dS_le h2] at hnd;omega
 exact h
def mark (ls:List (Int×Int)) (m:Int) (dn:List Bool) (k:Nat):List Bool:=(List.range dn.length).map fun j=>dn.getD j default||(decide (j<k)&&me ls j==m)
theorem length_mark (ls:List (Int×Int)) (m:Int) (dn:List Bool) (k:Nat):(mark ls m dn k).length=dn.length:=by simp[mark]
theorem mark_at {ls:List (Int×Int)} {m:Int} {dn:List Bool} {k j:Nat} (hj:j<dn.length):(mark ls m dn k).getD j default=(dn.getD j default||(decide (j<k)&&me ls j==m)):=by
 simp[mark,hj]
theorem extG {α:Type} [Inhabited α] {a b:List α} (hl:a.length=b.length) (h:∀j,j<a.length→a.getD j default=b.getD j default):a=b:=by
 apply List.ext_getElem hl
 intro j h1 h2
 have:=h j h1
 simpa[List.getD_eq_getElem?_getD,List.getElem?_eq_getElem h1,List.getElem?_eq_getElem h2] using this
theorem mark_zero (ls:List (Int×Int)) (m:Int) (dn:List Bool):mark ls m dn 0=dn:=by
 refine extG (length_mark ..) fun j hj=>?_
 rw[length_mark] at hj
 rw[mark_at hj]
 simp
theorem mark_set {ls:List (Int×Int)} {m:Int} {dn:List Bool} {k:Nat} (hk:k<dn.length) (hm:me ls k=m):(mark ls m dn k).set k true=mark ls m dn (k+1):=by
 refine extG (by simp[length_mark]) fun j hj=>?_
 rw[List.length_set,length_mark] at hj
 rw[mark_at hj]
 by_cases e:k=j
 ·subst e
  rw[getD_set_self _ _ _ (by rw[length_mark];exact hk)]
  simp[hm]
 rw[getD_set_ne _ _ _ _ e,mark_at hj]
 congr 2
 exact decide_eq_decide.2 oM
theorem mark_skip {ls:List (Int×Int)} {m:Int} {dn:List Bool} {k:Nat} (hm:me ls k≠m):mark ls m dn (k+1)=mark ls m dn k:=by
 refine extG (by simp[length_mark]) fun j hj=>?_
 rw[length_mark] at hj
 rw[mark_at hj,mark_at hj]
 by_cases e:j=k
 ·subst e
  have:(me ls j==m)=false:=by simpa using hm
  simp[this]
 congr 2
 exact decide_eq_decide.2 oM
def sK (ls:List (Int×Int)) (m:Int) (k:Nat):Int:=sumA ls ((idx k).filter fun i=>me ls i==m)
theorem sK_succ (ls:List (Int×Int)) (m:Int) (k:Nat):sK ls m (k+1)=sK ls m k+if me ls k=m then am ls k else 0:=by
 unfold sK
 rw[idx_succ,List.filter_append,sumA_append]
 congr 1
 by_cases h:me ls k=m
 ·simp[h,sumA,am]
 simp[h,sumA]
theorem sK_bd {ls:List (Int×Int)} (hls:∀p∈ls,0≤p.1∧p.1≤1048576) {m:Int} {k:Nat} (hk:k≤ls.length):0≤sK ls m k∧sK ls m k≤1048576*k:=by
 have h:=sumA_nonneg hls (G:=(idx k).filter fun i=>me ls i==m) fun i hi=>by
  have:=mem_idx.1 (List.mem_filter.1 hi).1
  omega
 have hl:((idx k).filter fun i=>me ls i==m).length≤k:=Nat.le_trans (List.length_filter_le _ _) (by rw[length_idx];exact Nat.le_refl _)
 unfold sK
 omega
structure Rnd (ls:List (Int×Int)) (need nd:Int) (dn:List Bool) (C:List Int):Prop where
 ldn:dn.length=ls.length
 lC:C.length=ls.length
 ord:∀i j,i<ls.length→j<ls.length→dn.getD i default=true→dn.getD j default=false→me ls i<me ls j
 left:nd=max 0 (need-dS ls dn)
 at_:∀i,i<ls.length→C.getD i default=if dn.getD i default then cutF ls need i else 0
theorem Rnd.start {ls:List (Int×Int)} {need:Int} (h0:0≤need):Rnd ls need need (List.replicate ls.length false) (List.replicate ls.length 0):=by
 have hf:∀j,(List.replicate ls.length false).getD j default=false:=fun j=>by
  rw[List.getD_eq_getElem?_getD,List.getElem?_replicate];split<;>rfl
 refine⟨by simp,by simp,fun i j _ _ h=>absurd h (by rw[hf];decide),?_,fun i hi=>?_⟩
 ·have:dS ls (List.replicate ls.length false)=0:=by
   unfold dS
   rw[List.filter_eq_nil_iff.2 fun i _=>by rw[hf];decide]
   rfl
  omega
 rw[hf]
 simp[hi]
theorem Rnd.sum_bd {ls:List (Int×Int)} (hls:∀p∈ls,0≤p.1∧p.1≤1048576) (dn:List Bool):0≤dS ls dn∧dS ls dn≤1048576*ls.length:=by
 have h:=sumA_nonneg hls (G:=(idx ls.length).filter fun i=>dn.getD i.toNat default) fun i hi=>mem_idx.1 (List.mem_filter.1 hi).1
 have hl:((idx ls.length).filter fun i=>dn.getD i.toNat default).length≤ls.length:=Nat.le_trans (List.length_filter_le _ _) (by rw[length_idx];exact Nat.le_refl _)
 unfold dS
 omega
theorem sumA_split (ls:List (Int×Int)) (p q:Int→Bool) (h:∀i,¬(p i=true∧q i=true)):∀G:List Int,sumA ls (G.filter fun i=>p i||q i)=sumA ls (G.filter p)+sumA ls (G.filter q):=by
 intro G
 induction G with
 |nil=>rfl
 |cons g G ih=>
  simp only[List.filter_cons]
  cases hp:p g<;>cases hq:q g
  ·simpa using ih
  ·simp[sumA] at ih ⊢;omega
  ·simp[sumA] at ih ⊢;omega
  exact absurd ⟨hp,hq⟩ (h g)
theorem Rnd.step {ls:List (Int×Int)} {need nd cut:Int} {dn:List Bool} {C C':List Int} {c:Nat} (hls:∀p∈ls,0≤p.1∧p.1≤1048576) (h:Rnd ls need nd dn C) (h0:0<nd) (hc:c<ls.length) (hcd:dn.getD c default=false) (hmin:∀j,j<ls.length→dn.getD j default=false→me ls c≤me ls j)
 (hcut:cut=if sumA ls (grp ls (me ls c))<nd then sumA ls (grp ls (me ls c)) else nd) (hl:C'.length=ls.length) (hC:∀i,i<ls.length→C'.getD i default=C.getD i default+if me ls i=me ls c then cutG ls (grp ls (me ls c)) cut i else 0):
 Rnd ls need (nd-cut) (mark ls (me ls c) dn ls.length) C'∧cut=partOf ls need (me ls c):=by
 have hbelow:below ls (me ls c)=dS ls dn:=by
  unfold below dS
  congr 1
  refine List.filter_congr fun i hi=>?_
  obtain⟨hi0,hi1⟩:=mem_idx.1 hi
  cases hd:dn.getD i.toNat default with
  |true=>
   refine decide_eq_true ?_
   have:=h.ord i.toNat c oM hc hd hcd
   rwa [Int.toNat_of_nonneg hi0] at this
  |false=>
   refine decide_eq_false ?_
   have:=hmin i.toNat oM hd
   rw[Int.toNat_of_nonneg hi0] at this
   omega
 have hS0:0≤sumA ls (grp ls (me ls c)):=(sumA_nonneg hls (fun i hi=>mem_idx.1 (List.mem_filter.1 hi).1)).1
 have hpart:cut=partOf ls need (me ls c):=by
  rw[hcut]
  unfold partOf
  exact part_eq (by rw[hbelow];exact h.left) h0 hS0
 have hmk:∀i,i<ls.length→(mark ls (me ls c) dn ls.length).getD i default=(dn.getD i default||me ls i==me ls c):=fun i hi=>by
  rw[mark_at (by rw[h.ldn];exact hi)]
  simp[hi]
 have hdis:∀i,i<ls.length→me ls i=me ls c→dn.getD i default=false:=fun i hi hm=>by
  cases hd:dn.getD i default with
  |false=>rfl
  |true=>have:=h.ord i c hi hc hd hcd;omega
 have hdS:dS ls (mark ls (me ls c) dn ls.length)=dS ls dn+sumA ls (grp ls (me ls c)):=by
  unfold dS grp
  have e:((idx ls.length).filter fun i=>(mark ls (me ls c) dn ls.length).getD i.toNat default)=(idx ls.length).filter fun i=>(decide (0≤i∧i<(ls.length:Int))&&dn.getD i.toNat default)||(decide (0≤i∧i<(ls.length:Int))&&me ls i==me ls c):=by
   refine List.filter_congr fun i hi=>?_
   have hi':=mem_idx.1 hi
   rw[hmk i.toNat oM,Int.toNat_of_nonneg hi'.1]
   simp[hi'.1,hi'.2]
  rw[e,sumA_split]
  ·congr 2
   ·refine List.filter_congr fun i hi=>?_
    have hi':=mem_idx.1 hi
    simp[hi'.1,hi'.2]
   refine List.filter_congr fun i hi=>?_
   have hi':=mem_idx.1 hi
   simp[hi'.1,hi'.2]
  rintro i ⟨hp,hq⟩
  simp only[Bool.and_eq_true,decide_eq_true_eq,beq_iff_eq] at hp hq
  have:=hdis i.toNat oM (by rw[Int.toNat_of_nonneg hp.1.1];exact hq.2)
  rw[this] at hp
  exact absurd hp.2 dC
 refine⟨⟨by rw[length_mark,h.ldn],hl,?_,?_,?_⟩,hpart⟩
 ·intro i j hi hj hi1 hj1
  rw[hmk i hi] at hi1
  rw[hmk j hj] at hj1
  rw[Bool.or_eq_false_iff] at hj1
  have hj2:me ls j≠me ls c:=by simpa using hj1.2
  have hj3:=hmin j hj hj1.1
  rcases (Bool.or_eq_true _ _▸hi1:_∨_) with hi1|hi1
  ·exact h.ord i j hi hj hi1 hj1.1
  have:me ls i=me ls c:=by simpa using hi1
  omega
 ·rw[hdS]
  have:=h.left
  split at hcut<;>omega
 intro i hi
 rw[hC i hi,h.at_ i hi,hmk i hi]
 by_cases hm:me ls i=me ls c
 ·rw[hdis i hi hm]
  have e:(me ls i==me ls c)=true:=by simpa using hm
  rw[e,if_pos hm,hpart]
  simp only[Bool.false_eq_true,if_false,Bool.or_true,if_true]
  unfold cutF
  rw[hm]
  omega
 have e:(me ls i==me ls c)=false:=by simpa using hm
 rw[e,if_neg hm]
 simp
theorem Rnd.fin {ls:List (Int×Int)} {need nd:Int} {dn:List Bool} {C:List Int} (hls:∀p∈ls,0≤p.1∧p.1≤1048576) (h:Rnd ls need nd dn C) (h0:¬0<nd):C=curtF ls need:=by
 refine curt_all h.lC fun i hi0 hi1=>?_
 rw[h.at_ i.toNat oM]
 cases hd:dn.getD i.toNat default with
 |true=>rw[if_pos rfl,Int.toNat_of_nonneg hi0]
 |false=>
  rw[if_neg dC]
  have hb:dS ls dn≤below ls (me ls i):=by
   have key:∀G:List Int,(∀j∈G,0≤j∧j<(ls.length:Int))→sumA ls (G.filter fun i=>dn.getD i.toNat default)≤sumA ls (G.filter fun j=>decide (me ls j<me ls i)):=by
    intro G
    induction G with
    |nil=>intro _;exact Int.le_refl _
    |cons g G ih=>
     intro hG
     have hg:=hG g (by simp)
     have ih':=ih fun j hj=>hG j (by simp[hj])
     have hg0:0≤(ls.getD g.toNat default).1:=by
      have:ls.getD g.toNat default∈ls:=by
       rw[List.getD_eq_getElem?_getD,List.getElem?_eq_getElem (show g.toNat<ls.length by omega)]
       exact List.getElem_mem _
      exact(hls _ this).1
     simp only[List.filter_cons]
     cases hdg:dn.getD g.toNat default with
     |true=>
      have hlt:=h.ord g.toNat i.toNat oM oM hdg hd
      rw[Int.toNat_of_nonneg hg.1,Int.toNat_of_nonneg hi0] at hlt
      rw[decide_eq_true hlt]
      simp only[if_true]
      simp only[sumA,List.map_cons,List.sum_cons] at ih' ⊢
      omega
     |false=>
      simp only[Bool.false_eq_true,if_false]
      split
      ·simp only[sumA,List.map_cons,List.sum_cons] at ih' ⊢
       omega
      exact ih'
   exact key _ fun j hj=>mem_idx.1 hj
  have hS0:0≤sumA ls (grp ls (me ls i)):=(sumA_nonneg hls (fun i hi=>mem_idx.1 (List.mem_filter.1 hi).1)).1
  have hp:partOf ls need (me ls i)=0:=by
   unfold partOf
   have:=h.left
   omega
  unfold cutF
  rw[hp,cut_zero]
def addK (C A:List Int) (k:Nat):List Int:=(List.range C.length).map fun j=>C.getD j default+if j<k then A.getD j default else 0
theorem length_addK (C A:List Int) (k:Nat):(addK C A k).length=C.length:=by simp[addK]
theorem addK_at {C A:List Int} {k j:Nat} (hj:j<C.length):(addK C A k).getD j default=C.getD j default+if j<k then A.getD j default else 0:=by simp[addK,hj]
theorem addK_zero (C A:List Int):addK C A 0=C:=extG (length_addK ..) fun j hj=>by
 rw[length_addK] at hj
 rw[addK_at hj];simp
theorem addK_set {C A:List Int} {k:Nat} (hk:k<C.length):(addK C A k).set k (C.getD k default+A.getD k default)=addK C A (k+1):=by
 refine extG (by simp[length_addK]) fun j hj=>?_
 rw[List.length_set,length_addK] at hj
 rw[addK_at hj]
 by_cases e:k=j
 ·subst e
  rw[getD_set_self _ _ _ (by rw[length_addK];exact hk),if_pos oM]
 rw[getD_set_ne _ _ _ _ e,addK_at hj]
 congr 1
 by_cases h:j<k
 ·rw[if_pos h,if_pos oM]
 rw[if_neg h,if_neg oM]
end Go.Proofs.YtandhgfmfpmemaaGreat
namespace Go.Proofs.YtandhgfmfpmemaaGreat
open Go.Vm Go.Vg
def leftN (dn:List Bool):Nat:=((List.range dn.length).filter fun j=>!dn.getD j default).length
theorem left_mark {ls:List (Int×Int)} {dn:List Bool} {c:Nat} (hl:dn.length=ls.length) (hc:c<ls.length) (hd:dn.getD c default=false):leftN (mark ls (me ls c) dn ls.length)<leftN dn:=by
 unfold leftN
 rw[length_mark]
 have hmem:c∈(List.range dn.length).filter fun j=>!dn.getD j default:=List.mem_filter.2 ⟨List.mem_range.2 oM,by rw[hd];rfl⟩
 have h:=sub_len (a:=(List.range dn.length).filter fun j=>!(mark ls (me ls c) dn ls.length).getD j default) (b:=((List.range dn.length).filter fun j=>!dn.getD j default).erase c) (List.nodup_range.filter _) fun x hx=>by
  obtain⟨hx1,hx2⟩:=List.mem_filter.1 hx
  have hx1':=List.mem_range.1 hx1
  rw[mark_at hx1'] at hx2
  have hxl:x<ls.length:=by omega
  simp only[hxl,decide_true,Bool.true_and,Bool.not_or,Bool.and_eq_true,Bool.not_eq_true',beq_eq_false_iff_ne,ne_eq] at hx2
  refine(List.mem_erase_of_ne (fun e=>hx2.2 (by rw[e]))).2 (List.mem_filter.2 ⟨hx1,by rw[hx2.1];rfl⟩)
 rw[List.length_erase_of_mem hmem] at h
 have:=List.length_pos_of_mem hmem
 omega
theorem cutG_bd {ls:List (Int×Int)} (hls:∀p∈ls,0≤p.1∧p.1≤1048576) (hn:ls.length≤32) {m part i:Int} (hp:0≤part∧part≤33554432) (hi:0≤i∧i<(ls.length:Int)):0≤cutG ls (grp ls m) part i∧cutG ls (grp ls m) part i≤35184372088833:=by
 have hS:=sumA_nonneg hls (G:=grp ls m) fun i hi=>mem_idx.1 (List.mem_filter.1 hi).1
 have hl:(grp ls m).length≤ls.length:=Nat.le_trans (List.length_filter_le _ _) (by rw[length_idx];exact Nat.le_refl _)
 have hq:0≤qF ls part (sumA ls (grp ls m)) i∧qF ls part (sumA ls (grp ls m)) i≤35184372088832:=by
  by_cases h0:0<sumA ls (grp ls m)
  ·exact q_bd hls hp ⟨h0,by omega⟩ hi
  have:sumA ls (grp ls m)=0:=by omega
  unfold qF
  rw[this,Int.ediv_zero]
  omega
 unfold cutG
 split<;>omega
theorem part_bd {ls:List (Int×Int)} (hls:∀p∈ls,0≤p.1∧p.1≤1048576) {m cut:Int} (hc:0≤cut∧cut≤33554432) {k:Nat} (hk:k<(partL ls m cut).length):0≤(partL ls m cut).getD k default∧(partL ls m cut).getD k default≤((35184372088832:Int):Rat):=by
 rw[length_partL] at hk
 rw[partL_at hk]
 have hz:(0:Rat)≤((35184372088832:Int):Rat):=Rat.intCast_le_intCast (a:=0).2 dC
 split
 ·have ham:0≤am ls k∧am ls k≤1048576:=by
   have:ls.getD k default∈ls:=by
    rw[List.getD_eq_getElem?_getD,List.getElem?_eq_getElem hk];exact List.getElem_mem _
   exact hls _ this
  have hm:=mul_bound hc ham
  have hS:=sumA_nonneg hls (G:=grp ls m) fun i hi=>mem_idx.1 (List.mem_filter.1 hi).1
  have h1:(0:Rat)≤((cut*am ls k:Int):Rat):=Rat.intCast_le_intCast (a:=0).2 hm.1
  have h2:((cut*am ls k:Int):Rat)≤((35184372088832:Int):Rat):=Rat.intCast_le_intCast.2 hm.2
  generalize cut*am ls k=z at*
  by_cases h0:0<sumA ls (grp ls m)
  ·have hb0:(1:Rat)≤((sumA ls (grp ls m):Int):Rat):=Rat.intCast_le_intCast (a:=1).2 h0
   have hbp:(0:Rat)<((sumA ls (grp ls m):Int):Rat):=by grind
   refine⟨by rw[Rat.div_def];exact Rat.mul_nonneg h1 (Rat.le_of_lt (Rat.inv_pos.2 hbp)),?_⟩
   have h3:=Rat.mul_le_mul_of_nonneg_left hb0 hz
   rw[Rat.mul_one] at h3
   have h4:=Rat.le_trans h2 h3
   refine Rat.not_lt.1 fun h=>?_
   have h5:=Rat.mul_lt_mul_of_pos_right h hbp
   rw[Rat.div_mul_cancel (Rat.ne_of_gt hbp)] at h5
   grind
  have:sumA ls (grp ls m)=0:=by omega
  rw[this,show((0:Int):Rat)=0 from rfl,Rat.div_def,Rat.inv_zero,Rat.mul_zero]
  exact⟨Rat.le_refl,hz⟩
 exact⟨Rat.le_refl,hz⟩
end Go.Proofs.YtandhgfmfpmemaaGreat
namespace Go.Proofs.YtandhgfmfpmemaaGreat
open Go.Vg _root_.Go.Proofs.Tryz
open Go.Vm hiding sg sg_t sg_f sg_abs sg_neg sg_add sg_mul sg_self sg_canon sg_pos sg_zero sg_eq_zero sg_lt
open Go.Vy hiding val
set_option maxHeartbeats 1000000
def loadsS (x:Sl (Int×Int)):CV:=x.R 2 (fun p=>[iC p.1,iC p.2]) default
def bC' (b:Bool):CV:=.b (b=true) inferInstance
theorem bl_clo (l:List Bool):∀c∈l.map bC',cloC c=true:=fun c hc=>by
 obtain⟨z,_,rfl⟩:=List.mem_map.1 hc
 rfl
theorem bl_ix {x:List Bool} {k:Nat} (h:k<x.length):k*1<(x.map bC').length:=by rw[List.length_map];omega
theorem bl_ld {x:List Bool} {k:Nat} (h:k<x.length):(x.map bC')[k*1]? =some (bC' (x.getD k default)):=by
 rw[Nat.mul_one,List.getElem?_map,List.getElem?_eq_getElem h,gd h];rfl
theorem lst_rng {ls:List (Int×Int)} {dn:List Bool} {k:Nat} {b:Int} (h:Lst ls dn k b):-1≤b∧b<k:=by
 rcases h with ⟨h1,_⟩|⟨c,h1,h2,_⟩<;>omega
theorem lst_in {ls:List (Int×Int)} {dn:List Bool} {k:Nat} {b:Int} (h:Lst ls dn k b) (hb:¬b<0):b=((b.toNat:Nat):Int)∧b.toNat<k:=by
 rcases h with ⟨h1,_⟩|⟨c,h1,h2,_⟩<;>omega
theorem part_rng {ls:List (Int×Int)} (hls:∀p∈ls,0≤p.1∧p.1≤1048576) (hn:ls.length≤32) (need m:Int):0≤partOf ls need m∧partOf ls need m≤33554432:=by
 have hS:=sumA_nonneg hls (G:=grp ls m) fun i hi=>mem_idx.1 (List.mem_filter.1 hi).1
 have hl:(grp ls m).length≤ls.length:=Nat.le_trans (List.length_filter_le _ _) (by rw[length_idx];exact Nat.le_refl _)
 unfold partOf
 omega
theorem rnd_bd {ls:List (Int×Int)} {need nd:Int} {dn:List Bool} {C:List Int} {k:Nat} (hls:∀p∈ls,0≤p.1∧p.1≤1048576) (hn:ls.length≤32) (h:Rnd ls need nd dn C) (hk:k<ls.length):0≤C.getD k default∧C.getD k default≤35184372088833:=by
 rw[h.at_ k hk]
 by_cases hd:dn.getD k default=true
 ·rw[if_pos hd];unfold cutF;exact cutG_bd hls hn (part_rng hls hn need _) oM
 rw[if_neg hd];omega
theorem al_bd {ls:List (Int×Int)} {x m cut:Int} {k:Nat} (hls:∀p∈ls,0≤p.1∧p.1≤1048576) (hn:ls.length≤32) (h:x=if me ls (k:Int)=m then cutG ls (grp ls m) cut k else 0) (hc:0≤cut∧cut≤33554432) (hk:k<ls.length):0≤x∧x≤35184372088833:=by
 rw[h]
 by_cases hd:me ls (k:Int)=m
 ·rw[if_pos hd];exact cutG_bd hls hn hc oM
 rw[if_neg hd];omega
noncomputable abbrev CurR (ls:List (Int×Int)) (need:Int):Sl Int→Out:=fun g=>⟨.t [.c (intsR g),.c (iC (curtE ls need))],[],g.l=if curtE ls need=0 then curtF ls need else []⟩
theorem cur_bad {ls:List (Int×Int)} {need e:Int} (h:curtE ls need=e) (he:e≠0):(CurR ls need nilS).C:=by
 show []=_
 rw[if_neg oM]
def chgN (x:Sl (Int×Int)) (need:Int) (n:Nat):List (Nat×DV):=[(1,.c (iC need)),(0,.c (loadsS x)),(9,.c (.s 1 n)),(8,.c (.s 0 n))]
def blsN (n:Nat):BL:=[(3,1,(List.replicate n 0).map iC),(4,1,(List.replicate n false).map bC')]
theorem scN {C:List Int} {dn:List Bool} {n:Nat}:scB n [(3,1,C.map iC),(4,1,dn.map bC')]:=scB.cons (List.all_eq_true.2 fun c hc=>clo_sc (clo_ints _ c hc)) (scB.cons (List.all_eq_true.2 fun c hc=>clo_sc (bl_clo _ c hc)) scB.nil)
theorem take_snoc' (ls:List (Int×Int)) {k:Nat} (h:k<ls.length):ls.take (k+1)=ls.take k++[ls.getD k default]:=by
 rw[List.take_add_one,List.getElem?_eq_getElem h,gd h];rfl
theorem rb_div {a b:Rat} {B B':Nat} (ha:rb a B) (hb:rb b B') (hB:1≤B):rb (a/b) (B+B'):=by
 have h1:=rl_num (a:=a.num*(b.den:Int)) (b:=(a.den:Int)*b.num)
 have h2:=rl_den (a:=a.num*(b.den:Int)) (b:=(a.den:Int)*b.num)
 rw[rdiv_law] at h1 h2
 have p1:=len_mul a.num.natAbs (b.den:Int).natAbs
 have p2:=len_mul (a.den:Int).natAbs b.num.natAbs
 rw[←Int.natAbs_mul] at p1 p2
 simp only[Int.natAbs_natCast] at p1 p2
 simp only[len_digs] at h1 h2
 obtain⟨a1,a2⟩:=ha
 obtain⟨b1,b2⟩:=hb
 exact⟨by omega,by omega⟩
theorem CtrF.ld {P:Program} {q:FuncId} {cl:List Bool} {al:List DV} {bl:BL} {fl:List Fam} {σ τ:Type} {R:σ→OutF} {R':τ→OutF} (h:CtrF P q cl al bl fl R) (hp:∀g,(R g).C→∃g',(R' g').C∧(∀ρ n w v,Hd ρ n w (R g).d v→Hd ρ n w (R' g').d v)∧(R' g').bl=(R g).bl∧(R' g').fl=(R g).fl):CtrF P q cl al bl fl R':=
 ⟨h.ent,h.clb,fun ρ w vals hv hD hF=>(h.run ρ w vals hv hD hF).mono fun e w' ⟨v,he,g,ρ',hC,hDr,hdv,hclr,hFr⟩=>by
  obtain⟨g',h1,h2,h3,h4⟩:=hp g hC
  exact⟨v,he,g',ρ',h1,by rw[h3];exact hDr,by rw[h3];exact h2 _ _ _ _ hdv,by rw[h3];exact hclr,by rw[h4];exact hFr⟩⟩
theorem nil_r {ρ:Pl} {n:Nat} {w:World} {e:Nat} {get:Nat→List CV} {v:Value} (h:Hc ρ n w (.v (.slice none 0 0)) v):Hc ρ n w (.r none 0 0 e get) v:=(Hd.nilr v (.c h)).inv_c
theorem rz_le {ρ:Pl} {n:Nat} {w:World} {v:Value} (h:Hd ρ n w (.a ratZ) v):Hd ρ n w (.a (default:RatM).C) v:=by
 cases h with
 |a h=>
  next vl=>
  match vl,h with
  |[a,b,c],⟨h1,h2,h3,_⟩=>exact .a (l:=(default:RatM).C) (vl:=[a,b,c]) ⟨h1,nil_r h2,nil_r h3,trivial⟩
theorem rdiv0_c (r s:RatM) {b:Rat} (hs:Rq s b 137438953472) (hb0:b=0):Ctr Tryz.prog fRDiv [] [.a r.C,.a s.C] [] (fun _:Unit=>⟨.t [.a ratZ,pC False],[],True⟩):=by
 refine ctr_of gT eRDiv bRDiv rfl rfl rfl bL ClB.nil (VC_ok gT mxd ⟨[],rsign_c s hs.le,rfl,rfl,rfl,fun _ _=>⟨fun h=>VC_ok gT mxd ?_,fun h=>absurd (sgn_zero.2 (Rat.num_eq_zero.2 hb0)) h⟩⟩)
 exact⟨(),trivial,fin_of ⟨rfl,ff (fun h=>h)⟩ rfl trivial⟩
theorem rover_i (r s:RatM) {a b:Rat} (hr:Cr r a) (hs:Cr s b) (ha:rb a 2) (hb:rb b 2):Ctr Tryz.prog fROver [] [.a r.C,.a s.C] [] (fun g:RatM=>⟨.a g.C,[],Rq g (a/b) 8⟩):=by
 by_cases hb0:b=0
 ·have h0:Ctr Tryz.prog fROver [] [.a r.C,.a s.C] [] (fun _:Unit=>⟨.a ratZ,[],True⟩):=ctr_of gT eROver bROver rfl rfl rfl bL ClB.nil (VC_ok gT mxd ⟨[],rdiv0_c r s (hs.rq (hb.le)) hb0,rfl,rfl,rfl,fun _ _=>⟨(),trivial,fin_of rfl rfl trivial⟩⟩)
  refine CtrF.ld h0 fun _ _=>⟨default,?_,fun ρ n w v hv=>rz_le hv,rfl,rfl⟩
  refine⟨⟨fun x hx=>(by cases hx),by decide,rfl⟩,fun x hx=>(by cases hx),by decide,?_⟩
  rw[hb0,Rat.div_def,Rat.inv_zero,Rat.mul_zero]
  show Rat.divInt 0 0=0
  exact Rat.divInt_zero _
 refine ctr_of gT eROver bROver rfl rfl rfl bL ClB.nil (VC_ok gT mxd ⟨[],rdiv_c r s (hr.rq ha.le) (hs.rq hb.le) hb0,rfl,rfl,rfl,fun g hg=>⟨g,?_,fin_of rfl rfl trivial⟩⟩)
 exact Cr.rq hg ((rb_div ha hb dC).le)
theorem LeC.bit (b:Bool):LeC (.v (.bool b)) (bC' b):=fun ρ n w x h=>by
 rw[h.inv_v]
 have:=Rc.b (Z:=Zf ρ n w) (w:=w) (b=true) inferInstance
 rwa [Bool.decide_eq_true] at this
theorem gbit {nb:Nat} {s:SS} {σ:Type} {S:σ→SS} {Q:σ→Prop} (i:Nat) {T k:Nat} {xs ys:List Bool} (hb:s.bl[i]? =some (T,1,splC (xs.map bC') (k*1) [.v (.bool true)])) (hk:k<xs.length) (hy:xs.set k true=ys) (h:setK s.bl i (T,1,ys.map bC') fun bl'=>Gt nb ⟨s.sl,s.gl,bl',s.fl⟩ S Q):Gt nb s S Q:=by
 have e:splC (xs.map bC') (k*1) [.v (.bool true)]=(xs.map bC').set k (.v (.bool true)):=by
  unfold splC
  rw[Nat.mul_one,List.set_eq_take_append_cons_drop,if_pos (by rw[List.length_map];exact hk)]
  rfl
 refine gcells (X:=fun t=>Gt nb t S Q) tGt i (ys.map bC') hb (by rw[e,←hy];simp) (fun j c c' h1 h2=>?_) h
 rw[e] at h1
 rw[←hy,List.map_set] at h2
 by_cases hj:k=j
 ·subst hj
  rw[List.getElem?_set_self (by rw[List.length_map];exact hk)] at h1 h2
  injection h1 with h1
  injection h2 with h2
  subst h1 h2
  exact LeC.bit true
 rw[List.getElem?_set_ne hj] at h1 h2
 rw[h1] at h2
 injection h2 with h2
 subst h2
 exact LeC.refl c
theorem flat_snoc {G:Nat→RatM} {k:Nat} {g:RatM}:flatR k (fun j=>(G j).C)++g.C=flatR (k+1) fun j=>(setG G k g j).C:=by
 rw[flatR_succ,flR_congr (P:=fun j=>(G j).C) (Q:=fun j=>(setG G k g j).C) fun j hj=>by unfold setG;rw[if_neg oM]]
 unfold setG
 rw[if_pos rfl]
theorem flG_men {G:Nat→RatM} {k i:Nat} {g:RatM}:∀c∈flatR k (fun j=>(G j).C)++g.C,menC i c=false:=fun c hc=>by
 rw[flat_snoc] at hc
 have:=fl_clo (P:=fun j=>(setG G k g j).C) (fun j=>ratC_clo _) _ c hc
 cases c<;>first|rfl|cases this
theorem scN3 {C:List Int} {dn:List Bool} {G:Nat→RatM} {n k:Nat}:scB n [(3,1,C.map iC),(4,1,dn.map bC'),(120,3,flatR k fun j=>(G j).C)]:=scB.cons (List.all_eq_true.2 fun c hc=>clo_sc (clo_ints _ c hc)) (scB.cons (List.all_eq_true.2 fun c hc=>clo_sc (bl_clo _ c hc)) (scB.cons (List.all_eq_true.2 fun c hc=>clo_sc (fl_clo (fun _=>ratC_clo _) _ c hc)) scB.nil))
theorem map_ren {m:List Nat} {l:List CV} (h:∀c∈l,cloC c=true):l.map (renC m)=l:=by
 induction l with
 |nil=>rfl
 |cons c l ih=>
  rw[List.map_cons,ih fun c hc=>h c (.tail _ hc)]
  congr 1
  have:=h c (.head _)
  cases c<;>first|rfl|cases this
theorem int_get {x:List Int} (j:Nat) (h:j<x.length):[iC (x.getD j 0)]=((x.map iC).drop (j*1)).take 1:=by
 have hd:(x.map iC).drop j=iC x[j]::(x.drop (j+1)).map iC:=by rw[←List.map_drop,List.drop_eq_getElem_cons h,List.map_cons]
 rw[Nat.mul_one,hd,show x.getD j 0=x[j] from gd h]
 rfl
theorem clo_men {i:Nat} {c:CV} (h:cloC c=true):menC i c=false:=by cases c<;>first|rfl|cases h
theorem ints_men {i:Nat} {l:List Int}:∀c∈l.map iC,menC i c=false:=fun c hc=>clo_men (clo_ints _ c hc)
theorem bits_men {i:Nat} {l:List Bool}:∀c∈l.map bC',menC i c=false:=fun c hc=>clo_men (bl_clo _ c hc)
theorem ratC_men {i:Nat} {r:RatM}:∀c∈r.C,menC i c=false:=fun c hc=>clo_men (ratC_clo _ c hc)
abbrev fRCur:FuncId:=23
theorem eRCur:Ent Tryz.prog fRCur:=Ent.of func23 rfl kR
theorem bRCur:Tryz.prog.funcs[fRCur]? =some Tryz.f23:=func23
theorem rcur_c (x:Sl (Int×Int)) (need:Int):Ctr Tryz.prog fRCur [] [.c (loadsS x),.c (iC need)] [] (CurR x.l need):=by
 refine ctr_of gT eRCur bRCur rfl rfl rfl bL ClB.nil (VC_ok gT mxd ⟨fun h1=>VC_ok gT mxd ?_,fun h1=>VC_ok gT mxd ?_⟩)
 ·have hce:curtE x.l need=8:=if_pos (by replace h1:(x.l.length:Int)>32:=h1;omega)
  exact⟨nilS,cur_bad hce dC,fin_of ⟨⟨rfl,rfl,rfl⟩,hce.symm⟩ rfl trivial⟩
 have hn:x.l.length≤32:=by replace h1:¬(x.l.length:Int)>32:=h1;omega
 refine vloop (rn [(6,7),(25,51)]) (fun k:Nat=>[(7,.c (iC k)),(6,.c (iC (sumP (x.l.take k))))]) (fun _=>[]) (fun k=>k≤x.l.length∧(∀p∈x.l.take k,0≤p.1∧p.1≤1048576)∧0≤sumP (x.l.take k)∧sumP (x.l.take k)≤k*1048576) (x.l.length-·) 0 ?_
 refine⟨⟨⟨Nat.zero_le _,fun p hp=>(by simp at hp),by simp[sumP],by simp[sumP]⟩,rfl,⟨rfl,rfl⟩⟩,fun k ⟨hk,hls,hs1,hs2⟩=>VC_ok gT mxd ⟨fun h2=>VC_ok gT mxd ?_,fun h2=>VC_ok gT mxd (VC_ok gT mxd ?_)⟩⟩
 ·have hkl:k<x.l.length:=by replace h2:(k:Int)<(x.l.length:Nat):=h2;omega
  have hmem:=getD_mem x.l k hkl
  refine⟨k,⟨rfl,hkl⟩,k,fun _=>⟨rfl,hkl⟩,⟨fun h3=>VC_ok gT mxd ?_,fun h3=>VC_ok gT mxd ?_⟩⟩
  ·have hce:curtE x.l need=3:=by
    unfold curtE
    rw[if_neg oM]
    split
    ·next h=>have:=h _ hmem;replace h3:(x.l.getD k default).1<0∨1048576<(x.l.getD k default).1:=h3;omega
    rfl
   exact⟨nilS,cur_bad hce dC,fin_of ⟨⟨rfl,rfl,rfl⟩,hce.symm⟩ rfl trivial⟩
  replace h3:¬((x.l.getD k default).1<0∨1048576<(x.l.getD k default).1):=h3
  have hsn:sumP (x.l.take k)+(x.l.getD k default).1=sumP (x.l.take (k+1)):=by rw[take_snoc' _ hkl,sumP_snoc]
  refine⟨k,⟨rfl,hkl⟩,sumP (x.l.take (k+1)),wi (z:=sumP (x.l.take k)+(x.l.getD k default).1) (h:=⟨hsn.symm,by omega,by omega⟩),(k:Int)+1,wi,k+1,⟨⟨hkl,fun p hp=>?_,by omega,?_⟩,?_⟩,rfl,rfl,⟨rfl,rfl⟩⟩
  ·rw[take_snoc' _ hkl] at hp
   rcases List.mem_append.1 hp with hp|hp
   ·exact hls p hp
   rw[List.mem_singleton.1 hp];omega
  ·show sumP (x.l.take (k+1))≤((k+1:Nat):Int)*1048576
   omega
  show x.l.length-(k+1)<x.l.length-k
  omega
 replace h2:¬(k:Int)<(x.l.length:Nat):=h2
 obtain rfl:k=x.l.length:=by omega
 rw[List.take_length] at hls hs1 hs2
 have hsP:sumP (x.l.take x.l.length)=sumP x.l:=by rw[List.take_length]
 refine⟨fun h3=>VC_ok gT mxd ?_,fun h3=>VC_ok gT mxd ?_⟩
 ·have hce:curtE x.l need=3:=by
   unfold curtE
   rw[if_neg oM,if_pos hls,if_pos]
   rw[hsP] at h3
   exact h3
  exact⟨nilS,cur_bad hce dC,fin_of ⟨⟨rfl,rfl,rfl⟩,hce.symm⟩ rfl trivial⟩
 replace h3:¬(need<0∨sumP x.l<need):=by rw[hsP] at h3;exact h3
 have hce:curtE x.l need=0:=by
  unfold curtE
  rw[if_neg oM,if_pos hls,if_neg h3]
 refine⟨oMk,by kernel_rfl,Unit,fun _=>⟨chgN x need x.l.length++[],[],blsN x.l.length,[]⟩,fun _=>True,⟨⟨x.l.length,⟨rfl,rfl,show 8*x.l.length≤_ by omega,by simp only[maxLen];omega⟩,x.l.length,⟨rfl,rfl,show 1*x.l.length≤_ by omega,by simp only[maxLen];omega⟩,?_⟩,⟨x.l.length,⟨rfl,rfl,show 1*x.l.length≤_ by omega,by simp only[maxLen];omega⟩,x.l.length,⟨rfl,rfl,show 8*x.l.length≤_ by omega,by simp only[maxLen];omega⟩,?_⟩⟩,fun _ _=>?_⟩
 ·refine gfin g0 (chg:=fun _:Unit=>chgN x need x.l.length) (bls:=fun _=>blsN x.l.length) (fls:=fun _=>[]) () trivial rfl ⟨?_,?_⟩ trivial ⟨rfl,rfl,rfl,rfl⟩ (Nat.zero_le _) scN rfl
  ·show _=_
   rw[List.map_replicate];rfl
  show _=_
  rw[List.map_replicate];rfl
 ·refine gsw 0 1 rfl rfl bL bL rfl ⟨_,map_sw (rep_clo rfl),_,map_sw (rep_clo rfl),bL,?_⟩
  refine gfin g0 (chg:=fun _:Unit=>chgN x need x.l.length) (bls:=fun _=>blsN x.l.length) (fls:=fun _=>[]) () trivial rfl ⟨?_,?_⟩ trivial ⟨rfl,rfl,rfl,rfl⟩ (Nat.zero_le _) scN rfl
  ·show _=_
   rw[List.map_replicate];rfl
  show _=_
  rw[List.map_replicate];rfl
 refine vloopG (rn [(1,1),(10,21),(65,179)]) (fun g:Int×List Bool×List Int=>[(1,.c (iC g.1))]) (fun g=>[(3,1,g.2.2.map iC),(4,1,g.2.1.map bC')]) (fun _=>[]) (fun g=>Rnd x.l need g.1 g.2.1 g.2.2) (fun g=>leftN g.2.1) fun hb=>⟨gfin hb (need,List.replicate x.l.length false,List.replicate x.l.length 0) (Rnd.start oM) rfl ⟨rfl,rfl⟩ trivial rfl (Nat.zero_le _) scN rfl,fun⟨nd,dn,C⟩ hR=>VC_ok gT mxd ⟨fun h4=>VC_ok gT mxd ?_,fun h4=>?_⟩⟩
 all_goals replace hR:Rnd x.l need nd dn C:=hR
 ·replace h4:0<nd:=h4
  have hdl:∀{k},k<x.l.length→k<dn.length:=fun h=>by rw[hR.ldn];exact h
  refine vloop (rn [(10,11),(67,95)]) (fun g:Nat×Int=>[(11,.c (iC g.1)),(10,.c (iC g.2))]) (fun _=>[(3,1,C.map iC),(4,1,dn.map bC')]) (fun g=>g.1≤x.l.length∧Lst x.l dn g.1 g.2) (fun g=>x.l.length-g.1) (0,-1) ?_
  refine⟨⟨⟨Nat.zero_le _,Lst.zero _ _⟩,rfl,⟨rfl,rfl⟩⟩,fun⟨k,b⟩ ⟨hk,hL⟩=>VC_ok gT mxd ⟨fun h5=>VC_ok gT mxd ?_,fun h5=>VC_ok gT mxd (VC_ok gT mxd ?_)⟩⟩
  all_goals
   replace hk:k≤x.l.length:=hk
   replace hL:Lst x.l dn k b:=hL
  ·replace h5:(k:Int)<(x.l.length:Nat):=h5
   have hkl:k<x.l.length:=by omega
   refine⟨.seq (sq 99 (List.range 22)),by kernel_rfl,k,⟨rfl,hkl,bl_ix (hdl hkl)⟩,_,bl_ld (hdl hkl),k,fun _=>⟨rfl,hkl⟩,b.toNat,fun q=>⟨(lst_in hL q.1).1,Nat.lt_trans (lst_in hL q.1).2 hkl⟩,⟨fun h6=>VC_ok gT mxd ?_,fun h6=>VC_ok gT mxd ?_⟩⟩
   ·replace h6:¬dn.getD k default=true∧(b<0∨me x.l (k:Int)<me x.l b):=h6
    have hdk:dn.getD k default=false:=by simpa using h6.1
    exact⟨(k:Int)+1,wi,(k+1,(k:Int)),⟨⟨hkl,hL.take hdk (h6.2.imp (fun h=>by have:=lst_rng hL;omega) fun h=>h)⟩,show x.l.length-(k+1)<x.l.length-k by omega⟩,rfl,rfl,⟨rfl,rfl⟩⟩
   replace h6:¬(¬dn.getD k default=true∧(b<0∨me x.l (k:Int)<me x.l b)):=h6
   have hkeep:Lst x.l dn (k+1) b:=by
    cases hdk:dn.getD k default with
    |true=>exact hL.skip hdk
    |false=>
     have hb0:¬b<0:=fun h=>h6 ⟨by rw[hdk];decide,.inl h⟩
     have hbt:=(lst_in hL hb0).1
     rw[hbt] at hL ⊢
     exact hL.keep (by rw[←hbt];exact fun h=>h6 ⟨by rw[hdk];decide,.inr h⟩)
   exact⟨(k:Int)+1,wi,(k+1,b),⟨⟨hkl,hkeep⟩,show x.l.length-(k+1)<x.l.length-k by omega⟩,rfl,rfl,⟨rfl,rfl⟩⟩
  replace h5:¬(k:Int)<(x.l.length:Nat):=h5
  obtain rfl:k=x.l.length:=by omega
  obtain⟨c,rfl,hcl,hcd,hmin⟩:=hL.fin hR.left h4 oM
  refine⟨c,⟨rfl,hcl⟩,?_⟩
  have scM2:∀k,scB 2 [(3,1,C.map iC),(4,1,(mark x.l (me x.l (c:Int)) dn k).map bC')]:=fun k=>scN
  refine vloopG (rn [(13,14),(101,123)]) (fun k:Nat=>[(14,.c (iC k)),(13,.c (iC (sK x.l (me x.l (c:Int)) k)))]) (fun k=>[(3,1,C.map iC),(4,1,(mark x.l (me x.l (c:Int)) dn k).map bC')]) (fun _=>[]) (fun k=>k≤x.l.length) (x.l.length-·) fun hb2=>⟨gfin hb2 (chg:=fun k:Nat=>[(14,.c (iC k)),(13,.c (iC (sK x.l (me x.l (c:Int)) k)))]) (bls:=fun k=>[(3,1,C.map iC),(4,1,(mark x.l (me x.l (c:Int)) dn k).map bC')]) (fls:=fun _=>[]) 0 (Nat.zero_le _) rfl ⟨rfl,by rw[mark_zero];rfl⟩ trivial ⟨rfl,rfl⟩ (Nat.zero_le _) (scM2 0) rfl,fun k hk=>VC_ok gT mxd ⟨fun h6=>VC_ok gT mxd ?_,fun h6=>VC_ok gT mxd (VC_ok gT mxd ?_)⟩⟩
  ·replace h6:(k:Int)<(x.l.length:Nat):=h6
   have hkl:k<x.l.length:=by omega
   have hmk:∀{j},k<(mark x.l (me x.l (c:Int)) dn j).length:=by intro j;rw[length_mark];exact hdl hkl
   have hskb:=sK_bd hls (m:=me x.l (c:Int)) (k:=k) oM
   have hamk:0≤am x.l (k:Int)∧am x.l (k:Int)≤1048576:=hls _ (getD_mem _ _ hkl)
   refine⟨k,⟨rfl,hkl⟩,⟨fun h7=>VC_ok gT mxd ?_,fun h7=>VC_ok gT mxd ?_⟩⟩
   ·replace h7:me x.l (k:Int)=me x.l (c:Int):=h7
    refine⟨k,⟨rfl,hkl⟩,sK x.l (me x.l (c:Int)) (k+1),wi (z:=sK x.l (me x.l (c:Int)) k+am x.l (k:Int)) (h:=⟨by rw[sK_succ,if_pos h7],by omega,by omega⟩),k,⟨rfl,hkl,bl_ix hmk⟩,_,⟨rfl,show k*1+1≤((mark x.l (me x.l (c:Int)) dn k).map bC').length by rw[List.length_map,Nat.mul_one];exact hmk⟩,(k:Int)+1,wi,?_⟩
    refine gbit 1 rfl hmk (mark_set (hdl hkl) h7) ?_
    exact gfin hb2 (chg:=fun k:Nat=>[(14,.c (iC k)),(13,.c (iC (sK x.l (me x.l (c:Int)) k)))]) (bls:=fun k=>[(3,1,C.map iC),(4,1,(mark x.l (me x.l (c:Int)) dn k).map bC')]) (fls:=fun _=>[]) (k+1) ⟨hkl,show x.l.length-(k+1)<x.l.length-k by omega⟩ rfl ⟨rfl,rfl⟩ trivial ⟨rfl,rfl⟩ (Nat.zero_le _) (scM2 (k+1)) rfl
   replace h7:¬me x.l (k:Int)=me x.l (c:Int):=h7
   refine⟨(k:Int)+1,wi,gfin hb2 (chg:=fun k:Nat=>[(14,.c (iC k)),(13,.c (iC (sK x.l (me x.l (c:Int)) k)))]) (bls:=fun k=>[(3,1,C.map iC),(4,1,(mark x.l (me x.l (c:Int)) dn k).map bC')]) (fls:=fun _=>[]) (k+1) ⟨hkl,show x.l.length-(k+1)<x.l.length-k by omega⟩ rfl ⟨rfl,?_⟩ trivial ⟨rfl,?_⟩ (Nat.zero_le _) (scM2 (k+1)) rfl⟩
   ·rw[mark_skip h7];rfl
   show _=_
   rw[sK_succ,if_neg h7,Int.add_zero]
  replace h6:¬(k:Int)<(x.l.length:Nat):=h6
  obtain rfl:k=x.l.length:=by omega
  have hSb:=sK_bd hls (m:=me x.l (c:Int)) (k:=x.l.length) (Nat.le_refl _)
  have hnb:nd≤33554432:=by have:=hR.left;have:=(Rnd.sum_bd hls dn).1;omega
  obtain⟨cut,hcut⟩:∃z,z=if sK x.l (me x.l (c:Int)) x.l.length<nd then sK x.l (me x.l (c:Int)) x.l.length else nd:=⟨_,rfl⟩
  have hcb:0≤cut∧cut≤33554432∧cut≤sK x.l (me x.l (c:Int)) x.l.length:=by rw[hcut];split<;>omega
  have hcm:min nd (sK x.l (me x.l (c:Int)) x.l.length)=cut:=by rw[hcut];split<;>omega
  refine vnil 16 120 3 rfl bL ?_
  refine vloopG (rn [(15,18),(127,155)]) (fun g:Nat×(Nat→RatM)=>[(17,.c (iC g.1)),(16,.c (.s 2 g.1)),(15,.c (iC cut))]) (fun g=>[(3,1,C.map iC),(4,1,(mark x.l (me x.l (c:Int)) dn x.l.length).map bC'),(120,3,flatR g.1 fun j=>(g.2 j).C)]) (fun _=>[]) (fun g=>g.1≤x.l.length∧∀j,j<g.1→Rq (g.2 j) ((partL x.l (me x.l (c:Int)) cut).getD j default) 8) (fun g=>x.l.length-g.1) fun hb3=>⟨gfin hb3 (chg:=fun g:Nat×(Nat→RatM)=>[(17,.c (iC g.1)),(16,.c (.s 2 g.1)),(15,.c (iC cut))]) (bls:=fun g=>[(3,1,C.map iC),(4,1,(mark x.l (me x.l (c:Int)) dn x.l.length).map bC'),(120,3,flatR g.1 fun j=>(g.2 j).C)]) (fls:=fun _=>[]) (0,fun _=>default) ⟨Nat.zero_le _,fun j hj=>absurd hj (Nat.not_lt_zero _)⟩ rfl ⟨rfl,rfl,rfl⟩ trivial ⟨rfl,rfl,hcm⟩ (Nat.zero_le _) scN3 rfl,fun⟨k,G⟩ ⟨hk,hG⟩=>VC_ok gT mxd ⟨fun h7=>VC_ok gT mxd ?_,fun h7=>VC_ok gT mxd (VC_ok gT mxd ?_)⟩⟩
  all_goals
   replace hk:k≤x.l.length:=hk
   replace hG:∀j,j<k→Rq (G j) ((partL x.l (me x.l (c:Int)) cut).getD j default) 8:=hG
  ·replace h7:(k:Int)<(x.l.length:Nat):=h7
   have hkl:k<x.l.length:=by omega
   have hmb:=mul_bound (a:=cut) (b:=am x.l (k:Int)) ⟨hcb.1,hcb.2.1⟩ (hls _ (getD_mem _ _ hkl))
   have hpk:=partL_at (ls:=x.l) (m:=me x.l (c:Int)) (cut:=cut) hkl
   refine⟨[],zero_c,rfl,rfl,rfl,fun z hz=>⟨k,⟨rfl,hkl⟩,⟨fun h8=>VC_ok gT mxd ?_,fun h8=>VC_ok gT mxd ?_⟩⟩⟩
   ·replace h8:me x.l (k:Int)=me x.l (c:Int):=h8
    refine⟨k,⟨rfl,hkl⟩,cut*am x.l (k:Int),wi (z:=cut*am x.l (k:Int)) (h:=⟨rfl,by omega,by omega⟩),[],rfrom_c (z:=cut*am x.l (k:Int)) oM,rfl,rfl,rfl,fun p hp=>⟨[],rfrom_c (z:=sK x.l (me x.l (c:Int)) x.l.length) oM,rfl,rfl,rfl,fun q hq=>⟨[],rover_i p q hp hq (rb_i64 oM) (rb_i64 oM),rfl,rfl,rfl,fun g hg=>?_⟩⟩⟩
    refine⟨⟨rfl,(flR_len (e:=3) (P:=fun j=>(G j).C) fun _ _=>rfl).symm,show k+1≤_ by simp only[maxLen];omega,show(k+1)*56≤_ by omega,flG_men (g:=g)⟩,ints_men,bits_men,ratC_men,(k:Int)+1,wi,gfin hb3 (chg:=fun g:Nat×(Nat→RatM)=>[(17,.c (iC g.1)),(16,.c (.s 2 g.1)),(15,.c (iC cut))]) (bls:=fun g=>[(3,1,C.map iC),(4,1,(mark x.l (me x.l (c:Int)) dn x.l.length).map bC'),(120,3,flatR g.1 fun j=>(g.2 j).C)]) (fls:=fun _=>[]) (k+1,setG G k g) ⟨⟨hkl,fun j hj=>?_⟩,show x.l.length-(k+1)<x.l.length-k by omega⟩ rfl ⟨rfl,rfl,?_⟩ trivial ⟨rfl,rfl,rfl⟩ (Nat.zero_le _) scN3 rfl⟩
    ·replace hj:j<k+1:=hj
     show Rq (setG G k g j) _ 8
     unfold setG
     split
     ·next e=>rw[e,hpk];rw[if_pos h8];exact hg
     exact hG j oM
    show(120,3,flatR k (fun j=>(G j).C)++g.C)=_
    rw[flat_snoc]
   replace h8:¬me x.l (k:Int)=me x.l (c:Int):=h8
   refine⟨⟨rfl,(flR_len (e:=3) (P:=fun j=>(G j).C) fun _ _=>rfl).symm,show k+1≤_ by simp only[maxLen];omega,show(k+1)*56≤_ by omega,flG_men (g:=z)⟩,ints_men,bits_men,ratC_men,(k:Int)+1,wi,gfin hb3 (chg:=fun g:Nat×(Nat→RatM)=>[(17,.c (iC g.1)),(16,.c (.s 2 g.1)),(15,.c (iC cut))]) (bls:=fun g=>[(3,1,C.map iC),(4,1,(mark x.l (me x.l (c:Int)) dn x.l.length).map bC'),(120,3,flatR g.1 fun j=>(g.2 j).C)]) (fls:=fun _=>[]) (k+1,setG G k z) ⟨⟨hkl,fun j hj=>?_⟩,show x.l.length-(k+1)<x.l.length-k by omega⟩ rfl ⟨rfl,rfl,?_⟩ trivial ⟨rfl,rfl,rfl⟩ (Nat.zero_le _) scN3 rfl⟩
   ·replace hj:j<k+1:=hj
    show Rq (setG G k z j) _ 8
    unfold setG
    split
    ·next e=>rw[e,hpk];rw[if_neg h8];exact Cr.rq hz (rb_zero.le)
    exact hG j oM
   show(120,3,flatR k (fun j=>(G j).C)++z.C)=_
   rw[flat_snoc]
  replace h7:¬(k:Int)<(x.l.length:Nat):=h7
  obtain rfl:k=x.l.length:=by omega
  have hpl:(partL x.l (me x.l (c:Int)) cut).length=x.l.length:=length_partL ..
  have hsum:rsum (partL x.l (me x.l (c:Int)) cut)=((cut:Int):Rat):=(app_cut (S:=sumA x.l (grp x.l (me x.l (c:Int)))) (i:=c) rfl hSb.1 hcb.1 hcb.2.2 hcl).1
  have hel:∀k,k<(partL x.l (me x.l (c:Int)) cut).length→0≤(partL x.l (me x.l (c:Int)) cut).getD k default∧(partL x.l (me x.l (c:Int)) cut).getD k default≤((35184372088832:Int):Rat):=fun k hk=>part_bd hls ⟨hcb.1,hcb.2.1⟩ hk
  obtain⟨AL,hAL⟩:∃z,z=byR (appF (partL x.l (me x.l (c:Int)) cut) cut) x.l.length:=⟨_,rfl⟩
  have hALl:AL.length=x.l.length:=by rw[hAL,length_byR]
  have hALk:∀i,i<x.l.length→AL.getD i default=if me x.l (i:Int)=me x.l (c:Int) then cutG x.l (grp x.l (me x.l (c:Int))) cut i else 0:=fun i hi=>by
   rw[hAL,byR_at hi];exact(app_cut (S:=sumA x.l (grp x.l (me x.l (c:Int)))) rfl hSb.1 hcb.1 hcb.2.2 hi).2
  have K:∀A cp,Ctr Tryz.prog fAppo [] [.c (.r A x.l.length cp 3 fun j=>((byR G x.l.length).getD j default).C)] [] (fun g:RatM=>⟨.t [.c (.s 1 x.l.length),.c (iC 0)],[(120,0,g.C),(3,1,AL.map iC)],True⟩):=fun A cp=>by
   have h0:=apportion_o ⟨A,cp,byR G x.l.length⟩ (qs:=partL x.l (me x.l (c:Int)) cut) (L:=8) ⟨by rw[hpl];exact length_byR ..,fun k hk=>by
    show Rq ((byR G x.l.length).getD k default) _ 8
    rw[byR_at oM];exact hG k oM⟩ dC dC oM hsum oM hel
   rw[hpl,←hAL] at h0
   unfold ratsS Sl.R at h0
   rw[length_byR] at h0
   exact h0
  refine⟨some fun j=>((byR G x.l.length).getD j default).C,⟨⟨Nat.zero_le _,Nat.le_of_ble_eq_true rfl⟩,(flR_len (e:=3) (P:=fun j=>(G j).C) fun _ _=>rfl).symm,fun j hj=>?_,fl_clo (fun _=>ratC_clo _) _⟩,fun A cp _ _=>⟨ints_men,bits_men,[],K A cp,rfl,rfl,rfl,fun rs hrs=>?_⟩⟩
  ·replace hj:j<x.l.length:=hj
   show((byR G x.l.length).getD j default).C=_
   rw[byR_at hj];exact(flR_at (e:=3) (P:=fun j=>(G j).C) (fun _ _=>rfl) hj).symm
  refine vloop (rn [(21,21),(161,176)]) (fun k:Nat=>[(21,.c (iC k))]) (fun k=>[(3,1,(addK C AL k).map iC),(4,1,(mark x.l (me x.l (c:Int)) dn x.l.length).map bC'),(120,3,[]),(120,0,rs.C),(3,1,AL.map iC)]) (·≤x.l.length) (x.l.length-·) 0 ?_
  refine⟨⟨Nat.zero_le _,?_,rfl⟩,fun k hk=>VC_ok gT mxd ⟨fun h8=>VC_ok gT mxd ?_,fun h8=>VC_ok gT mxd (VC_ok gT mxd ?_)⟩⟩
  ·rw[addK_zero]
   exact congrArg (fun z=>[(3,1,C.map iC),(4,1,(mark x.l (me x.l (c:Int)) dn x.l.length).map bC'),(120,3,[]),(120,0,rs.C),(3,1,z)]) (map_ren (clo_ints AL))
  ·replace h8:(k:Int)<(x.l.length:Nat):=h8
   have hkl:k<x.l.length:=by omega
   have hCk:=rnd_bd hls oM hR hkl
   have hAk:=al_bd hls oM (hALk k hkl) ⟨hcb.1,hcb.2.1⟩ hkl
   have hkC:k<C.length:=by rw[hR.lC];exact hkl
   have hka:k<(addK C AL k).length:=by rw[length_addK];exact hkC
   have hld:(addK C AL k).getD k 0=C.getD k default:=by
    have:=addK_at (A:=AL) (k:=k) hkC
    rw[if_neg oM,Int.add_zero] at this
    exact this
   refine⟨.seq (sq 10 (List.range 11)),by kernel_rfl,k,⟨rfl,hkl,own_ix hka⟩,iC (C.getD k default),own_ld hka hld,k,⟨rfl,hkl,own_ix oM⟩,iC (AL.getD k default),own_ld oM rfl,C.getD k default+AL.getD k default,wi (z:=C.getD k default+AL.getD k default) (h:=⟨rfl,by omega,by omega⟩),k,⟨rfl,hkl,own_ix hka⟩,(addK C AL (k+1)).map iC,own_put hka (addK_set hkC),(k:Int)+1,wi,k+1,⟨hkl,show x.l.length-(k+1)<x.l.length-k by omega⟩,rfl,rfl,rfl⟩
  replace h8:¬(k:Int)<(x.l.length:Nat):=h8
  obtain rfl:k=x.l.length:=by omega
  have hstep:=hR.step (C':=addK C AL x.l.length) (cut:=cut) hls h4 hcl hcd hmin hcut (by rw[length_addK,hR.lC]) (fun i hi=>by rw[addK_at (by rw[hR.lC];exact hi),if_pos hi,hALk i hi])
  exact⟨nd-cut,wi (z:=nd-cut) (h:=⟨rfl,by omega,by omega⟩),gfin hb (chg:=fun g:Int×List Bool×List Int=>[(1,.c (iC g.1))]) (bls:=fun g=>[(3,1,g.2.2.map iC),(4,1,g.2.1.map bC')]) (fls:=fun _=>[]) (nd-cut,mark x.l (me x.l (c:Int)) dn x.l.length,addK C AL x.l.length) ⟨hstep.1,left_mark hR.ldn hcl hcd⟩ rfl ⟨rfl,rfl⟩ trivial rfl (Nat.zero_le _) scN rfl⟩
 replace h4:¬0<nd:=h4
 have hC:=hR.fin hls h4
 refine gfrz tSd 8 0 (fun j=>[iC (C.getD j 0)]) rfl rfl (fun j hj=>int_get j (by rw[hR.lC];exact hj)) (by rw[Nat.mul_one,List.length_map,hR.lC]) Nat.zero_lt_one (clo_ints _) (Nat.zero_le _) fun A cp _ _=>⟨bits_men,VC_ok gT mxd (VC_ok gT mxd ⟨⟨A,cp,C⟩,?_,fin_of ⟨?_,hce.symm⟩ rfl trivial⟩)⟩
 ·show C=if curtE x.l need=0 then _ else _
  rw[if_pos hce];exact hC
 show CV.r A x.l.length cp 1 _=CV.r A C.length cp 1 _
 rw[hR.lC]
end Go.Proofs.YtandhgfmfpmemaaGreat
namespace Go.Proofs.YtandhgfmfpmemaaGreat
open Go.Vg
open Go.Vm hiding sg sg_t sg_f sg_abs sg_neg sg_add sg_mul sg_self sg_canon sg_pos sg_zero sg_eq_zero sg_lt
open Go.Vy hiding val
set_option maxHeartbeats 1000000
end Go.Proofs.YtandhgfmfpmemaaGreat
namespace Go.Isl
abbrev Edg:=List (Nat×Nat)
inductive Con (E:Edg):Nat→Nat→Prop
 |refl (a:Nat):Con E a a
 |fwd {a b c:Nat} (h:Con E a b) (e:(b,c)∈E):Con E a c
 |bwd {a b c:Nat} (h:Con E a b) (e:(c,b)∈E):Con E a c
section
variable {E E':Edg} {a b c u v:Nat}
theorem Con.trans (h:Con E a b) (k:Con E b c):Con E a c:=by
 induction k with
 |refl=>exact h
 |fwd _ e ih=>exact .fwd ih e
 |bwd _ e ih=>exact .bwd ih e
theorem Con.symm (h:Con E a b):Con E b a:=by
 induction h with
 |refl=>exact .refl _
 |fwd _ e ih=>exact(Con.bwd (.refl _) e).trans ih
 |bwd _ e ih=>exact(Con.fwd (.refl _) e).trans ih
theorem Con.mono (hs:∀p∈E,p∈E') (h:Con E a b):Con E' a b:=by
 induction h with
 |refl=>exact .refl _
 |fwd _ e ih=>exact .fwd ih (hs _ e)
 |bwd _ e ih=>exact .bwd ih (hs _ e)
theorem Con.edge (h:(a,b)∈E):Con E a b:=.fwd (.refl _) h
theorem con_snoc:Con (E++[(u,v)]) a b↔Con E a b∨(Con E a u∧Con E v b)∨(Con E a v∧Con E u b):=by
 constructor
 ·intro h
  induction h with
  |refl=>exact .inl (.refl _)
  |fwd _ e ih=>
   rcases List.mem_append.1 e with e|e
   ·rcases ih with h|⟨h1,h2⟩|⟨h1,h2⟩
    ·exact .inl (.fwd h e)
    ·exact .inr (.inl ⟨h1,.fwd h2 e⟩)
    exact .inr (.inr ⟨h1,.fwd h2 e⟩)
   have e:=List.mem_singleton.1 e
   injection e with e1 e2
   subst e1 e2
   rcases ih with h|⟨h1,h2⟩|⟨h1,h2⟩
   ·exact .inr (.inl ⟨h,.refl _⟩)
   ·exact .inr (.inl ⟨h1,.refl _⟩)
   exact .inl h1
  |bwd _ e ih=>
   rcases List.mem_append.1 e with e|e
   ·rcases ih with h|⟨h1,h2⟩|⟨h1,h2⟩
    ·exact .inl (.bwd h e)
    ·exact .inr (.inl ⟨h1,.bwd h2 e⟩)
    exact .inr (.inr ⟨h1,.bwd h2 e⟩)
   have e:=List.mem_singleton.1 e
   injection e with e1 e2
   subst e1 e2
   rcases ih with h|⟨h1,h2⟩|⟨h1,h2⟩
   ·exact .inr (.inr ⟨h,.refl _⟩)
   ·exact .inl h1
   exact .inr (.inr ⟨h1,.refl _⟩)
 have hm:∀p∈E,p∈E++[(u,v)]:=fun p hp=>List.mem_append_left _ hp
 have he:Con (E++[(u,v)]) u v:=.edge (List.mem_append_right _ (.head _))
 rintro(h|⟨h1,h2⟩|⟨h1,h2⟩)
 ·exact h.mono hm
 ·exact((h1.mono hm).trans he).trans (h2.mono hm)
 exact((h1.mono hm).trans he.symm).trans (h2.mono hm)
end
def rep (E:Edg) (b:Nat):Prop:=∀a,a<b→¬Con E a b
noncomputable instance (E:Edg) (b:Nat):Decidable (rep E b):=Classical.propDecidable _
noncomputable def cnt (E:Edg) (n:Nat):Nat:=(List.range n).countP fun b=>decide (rep E b)
theorem exists_rep (E:Edg) (u:Nat):∃r,r≤u∧rep E r∧Con E r u:=by
 induction u using Nat.strongRecOn with
 |ind u ih=>
  by_cases h:rep E u
  ·exact⟨u,Nat.le_refl _,h,.refl _⟩
  obtain⟨a,ha⟩:=Classical.not_forall.1 h
  obtain⟨h1,h2⟩:=Classical.not_imp.1 ha
  obtain⟨r,h3,h4,h5⟩:=ih a h1
  exact⟨r,by omega,h4,h5.trans (Classical.not_not.1 h2)⟩
theorem rep_uniq {E:Edg} {r s:Nat} (hr:rep E r) (hs:rep E s) (h:Con E r s):r=s:=by
 rcases Nat.lt_trichotomy r s with h1|h1|h1
 ·exact absurd h (hs r h1)
 ·exact h1
 exact absurd h.symm (hr s h1)
theorem countP_less {p q:Nat→Bool} {r:Nat} (hp:p r=true) (h:∀z,q z=(p z&&decide (z≠r))):∀n,(List.range n).countP p=(List.range n).countP q+(if r<n then 1 else 0)
 |0=>rfl
 |n+1=>by
  rw[List.range_succ,List.countP_append,List.countP_append,countP_less hp h n]
  simp only[List.countP_cons,List.countP_nil,h n]
  by_cases hn:n=r
  ·subst hn
   simp[hp]
  by_cases h2:r<n
  ·simp[hn,h2,show r<n+1 by omega];omega
  simp[hn,h2,show ¬r<n+1 by omega]
theorem cnt_same {E E':Edg} {n:Nat} (h:∀a b,Con E a b↔Con E' a b):cnt E n=cnt E' n:=by
 refine List.countP_congr fun b _=>?_
 rw[decide_eq_true_iff,decide_eq_true_iff]
 unfold rep
 simp only[h]
theorem cnt_join {E:Edg} {u v n:Nat} (hu:u<n) (hv:v<n):cnt E n=cnt (E++[(u,v)]) n+(open Classical in if Con E u v then 0 else 1):=by
 by_cases h:Con E u v
 ·rw[if_pos h]
  refine cnt_same fun a b=>⟨fun k=>con_snoc.2 (.inl k),fun k=>?_⟩
  rcases con_snoc.1 k with k|⟨k1,k2⟩|⟨k1,k2⟩
  ·exact k
  ·exact(k1.trans h).trans k2
  exact(k1.trans h.symm).trans k2
 rw[if_neg h]
 obtain⟨r,r1,r2,r3⟩:=exists_rep E u
 obtain⟨s,s1,s2,s3⟩:=exists_rep E v
 have hne:r≠s:=fun e=>h (by subst e;exact r3.symm.trans s3)
 have key:∀{m k:Nat},m<k→((m=r∧k=s)∨(m=s∧k=r))→∀z,rep (E++[(u,v)]) z↔rep E z∧z≠k:=fun {m k} hmk hc z=>by
  have hjoin:Con (E++[(u,v)]) m k:=by
   rcases hc with ⟨rfl,rfl⟩|⟨rfl,rfl⟩
   ·exact con_snoc.2 (.inr (.inl ⟨r3,s3.symm⟩))
   exact con_snoc.2 (.inr (.inr ⟨s3,r3.symm⟩))
  constructor
  ·intro hz
   exact⟨fun a ha hca=>hz a ha (con_snoc.2 (.inl hca)),fun e=>hz m oM (by subst e;exact hjoin)⟩
  rintro⟨hz,hzk⟩ a ha hca
  rcases con_snoc.1 hca with k1|⟨k1,k2⟩|⟨k1,k2⟩
  ·exact hz a ha k1
  ·have e1:s=z:=rep_uniq s2 hz (s3.trans k2)
   have hra:r≤a:=by
    rcases Nat.lt_or_ge a r with h1|h1
    ·exact absurd (k1.trans r3.symm) (r2 a h1)
    exact h1
   rcases hc with ⟨rfl,rfl⟩|⟨rfl,rfl⟩
   ·exact hzk e1.symm
   omega
  have e1:r=z:=rep_uniq r2 hz (r3.trans k2)
  have hra:s≤a:=by
   rcases Nat.lt_or_ge a s with h1|h1
   ·exact absurd (k1.trans s3.symm) (s2 a h1)
   exact h1
  rcases hc with ⟨rfl,rfl⟩|⟨rfl,rfl⟩
  ·omega
  exact hzk e1.symm
 have fin:∀{m k:Nat},m<k→((m=r∧k=s)∨(m=s∧k=r))→k<n→rep E k→cnt E n=cnt (E++[(u,v)]) n+1:=fun {m k} hmk hc hk hrk=>by
  have:=countP_less (p:=fun b=>decide (rep E b)) (q:=fun b=>decide (rep (E++[(u,v)]) b)) (r:=k) (decide_eq_true hrk) (fun z=>by
   have hz:=key hmk hc z
   by_cases h1:rep E z<;>by_cases h2:z=k<;>simp[h1,h2] at hz ⊢<;>simp_all) n
  rw[if_pos hk] at this
  exact this
 rcases Nat.lt_or_gt_of_ne hne with h1|h1
 ·exact fin h1 (.inl ⟨rfl,rfl⟩) oM s2
 exact fin h1 (.inr ⟨rfl,rfl⟩) oM r2
theorem countP_le {p q:Nat→Bool} (l:List Nat) (h:∀z,p z=true→q z=true):l.countP p≤l.countP q:=List.countP_mono_left fun z _=>h z
theorem cnt_le {E E':Edg} {n:Nat} (h:∀p∈E,p∈E'):cnt E' n≤cnt E n:=countP_le _ fun z hz=>by
 have hz:=of_decide_eq_true hz
 exact decide_eq_true fun a ha hc=>hz a ha (hc.mono h)
theorem cnt_nil (n:Nat):cnt [] n=n:=by
 unfold cnt
 refine(List.countP_eq_length.2 fun b _=>decide_eq_true (p:=rep [] b) fun a ha h=>?_).trans List.length_range
 have:∀x y,Con [] x y→x=y:=fun x y h=>by
  induction h with
  |refl=>rfl
  |fwd _ e _=>cases e
  |bwd _ e _=>cases e
 have:=this a b h
 omega
structure Lab (E:Edg) (n:Nat) (f:Nat→Int):Prop where
 iff:∀a b,a<n→b<n→(f a=f b↔Con E a b)
theorem Lab.join {E:Edg} {n u v:Nat} {f:Nat→Int} (h:Lab E n f) (hu:u<n) (hv:v<n):Lab (E++[(u,v)]) n fun b=>if f b=f v then f u else f b:=⟨fun a b ha hb=>by
 rw[con_snoc,←h.iff a b ha hb,←h.iff a u ha hu,←h.iff v b hv hb,←h.iff a v ha hv,←h.iff u b hu hb]
 by_cases h1:f a=f v<;>by_cases h2:f b=f v<;>simp only[h1,h2,if_true,if_false]<;>grind⟩
structure Lst (E:Edg) (n:Nat) (L:Nat→Int):Prop where
 le:∀b,b<n→0≤L b∧L b≤b
 con:∀b,b<n→Con E b (L b).toNat
theorem Lst.count {E:Edg} {n:Nat} {L:Nat→Int} (h:Lst E n L) (hf:∀p∈E,L p.1=L p.2):(List.range n).countP (fun b=>decide (L b=b))=cnt E n:=by
 have hc:∀a b,Con E a b→L a=L b:=fun a b k=>by
  induction k with
  |refl=>rfl
  |fwd _ e ih=>exact ih.trans (hf _ e)
  |bwd _ e ih=>exact ih.trans (hf _ e).symm
 unfold cnt
 refine List.countP_congr fun b hb=>?_
 have hb:=List.mem_range.1 hb
 have h1:=h.le b hb
 have h2:=h.con b hb
 rw[decide_eq_true_iff,decide_eq_true_iff]
 constructor
 ·intro e a ha k
  have h3:=hc a b k
  have h4:=h.le a oM
  omega
 intro hr
 by_cases e:L b=b
 ·exact e
 exact absurd h2.symm (hr _ oM)
end Go.Isl
namespace Go.Proofs.YtandhgfmfpmemaaGreat
open Go.Vg _root_.Go.Proofs.Tryz
open Go.Vm hiding sg sg_t sg_f sg_abs sg_neg sg_add sg_mul sg_self sg_canon sg_pos sg_zero sg_eq_zero sg_lt
open Go.Vy hiding val
open Go.Isl hiding cnt Lst
set_option maxHeartbeats 1000000
abbrev fHas:FuncId:=66
theorem eHas:Ent Tryz.prog fHas:=Ent.of func66 rfl kR
theorem bHas:Tryz.prog.funcs[fHas]? =some Tryz.f66:=func66
theorem has_c (l:Sl Int) (z:Int):Ctr Tryz.prog fHas [] [.c (intsR l),.c (iC z)] [] (fun _:Unit=>⟨pC (z∈l.l),[],True⟩):=by
 refine ctr_of gT eHas bHas rfl rfl rfl bL ClB.nil (lenr 0 rfl fun hn=>VC_ok gT mxd ?_)
 refine vloop (rn [(4,17)]) (fun i:Nat=>[(5,.c (iC i))]) (fun _=>[]) (fun i=>i≤l.l.length∧∀y∈l.l.take i,¬y=z) (l.l.length-·) 0 ?_
 refine⟨⟨⟨Nat.zero_le _,by simp⟩,rfl,rfl⟩,fun i hi=>VC_ok gT mxd ⟨fun h=>VC_ok gT mxd ?_,fun h=>VC_ok gT mxd (VC_ok gT mxd ?_)⟩⟩
 ·refine⟨i,⟨rfl,oM⟩,⟨fun he=>VC_ok gT mxd ?_,fun he=>VC_ok gT mxd ?_⟩⟩
  ·refine⟨(),trivial,fin_of ⟨fun _=>?_,fun _=>rfl⟩ rfl trivial⟩
   have hl:i<l.l.length:=oM
   rw[←he,gd hl]
   exact List.getElem_mem hl
  exact⟨(i+1:Nat),wi,i+1,⟨⟨oM,(all_take oM).2 ⟨hi.2,he⟩⟩,oM⟩,rfl,rfl,rfl⟩
 refine⟨(),trivial,fin_of ⟨(nomatch ·),fun hz=>?_⟩ rfl trivial⟩
 have:=hi.2
 rw[List.take_of_length_le oM] at this
 exact absurd rfl (this z hz)
abbrev fInServ:FuncId:=112
theorem eInServ:Ent Tryz.prog fInServ:=Ent.of func112 rfl kR
theorem bInServ:Tryz.prog.funcs[fInServ]? =some Tryz.f112:=func112
theorem inserv_c (C:CaseM) (h:Int) (hL:C.lines.l.length≤1000):Ctr Tryz.prog fInServ [] [.a (C.C []),.c (iC h)] [] (fun g:Option Addr×Nat=>⟨.c (intsR ⟨g.1,g.2,act C h C.lines.l.length⟩),[],True⟩):=by
 refine ctr_of gT eInServ bInServ rfl rfl rfl bL ClB.nil (VC_ok gT mxd (vnil 5 3 1 rfl bL ?_))
 refine vloopD (rn [(5,26)]) 2 (fun i:Nat=>[(6,.c (iC i)),(5,.c (.s 1 (act C h i).length))]) (fun i=>[(30,0,C.C []),(3,1,(act C h i).map iC)]) (·≤C.lines.l.length) (C.lines.l.length-·) 0 (fun _=>rfl) bL (fun _=>scB.cons rfl (scB.cons (sc_ints _) scB.nil)) (fun _=>rfl) ?_
 refine⟨⟨rfl,Nat.zero_le _,⟨rfl,rfl⟩,⟨rfl,rfl⟩⟩,fun i hi=>VC_ok gT mxd ⟨fun h1=>VC_ok gT mxd ?_,fun h1=>VC_ok gT mxd ?_⟩⟩
 ·refine⟨i,⟨rfl,oM⟩,[],has_c _ h,rfl,rfl,rfl,fun _ _=>⟨fun h2=>VC_ok gT mxd ?_,fun h2=>VC_ok gT mxd ?_⟩⟩
  ·refine⟨apI (by have:=act_len C h i;omega),men1,(i+1:Nat),wi,i+1,⟨oM,oM⟩,rfl,⟨rfl,?_⟩,rfl,?_⟩
   ·rw[act,if_neg h2,List.map_append];rfl
   rw[act,if_neg h2,List.length_append];rfl
  refine⟨(i+1:Nat),wi,i+1,⟨oM,oM⟩,rfl,⟨rfl,?_⟩,rfl,?_⟩
  ·rw[act,if_pos (Decidable.not_not.1 h2)];rfl
  show _=_
  rw[act,if_pos (Decidable.not_not.1 h2)]
 obtain rfl:i=C.lines.l.length:=by omega
 refine vfrz 5 1 (fun j=>[iC ((act C h C.lines.l.length).getD j 0)]) rfl rfl (fun j hj=>ints_get j hj) (by simp) bL (clo_ints _) bL fun A c h1 h2=>?_
 refine VC_ok gT mxd ?_
 exact⟨(A,c),trivial,fin_of rfl rfl trivial⟩
/-! ### pairs -/
def prs (x:Sl (Nat×Nat)):CV:=x.R 2 (fun p=>[iC p.1,iC p.2]) (0,0)
def pC2 (E:Edg) (j:Nat):List CV:=[iC (E.getD j (0,0)).1,iC (E.getD j (0,0)).2]
def pL (E:Edg):List CV:=flatR E.length (pC2 E)
theorem pL_len (E:Edg):E.length*2=(pL E).length:=(flR_len (P:=pC2 E) (e:=2) fun j _=>rfl).symm
theorem pL_get {E:Edg} {j:Nat} (h:j<E.length):pC2 E j=((pL E).drop (j*2)).take 2:=(flR_at (P:=pC2 E) (e:=2) (fun j _=>rfl) h).symm
theorem pL_snoc (E:Edg) (p:Nat×Nat):pL (E++[p])=pL E++[iC p.1,iC p.2]:=by
 unfold pL
 rw[List.length_append,List.length_singleton,flatR_succ,flR_congr (P:=pC2 (E++[p])) (Q:=pC2 E) fun j hj=>by unfold pC2;simp only[List.getD,List.getElem?_append_left hj]]
 congr 1
 unfold pC2
 simp[List.getD]
theorem pL_clo (E:Edg):∀c∈pL E,cloC c=true:=fl_clo (fun j c hc=>by
 rcases List.mem_cons.1 hc with rfl|hc
 ·rfl
 rw[List.mem_singleton.1 hc];rfl) _
theorem pL_sc {n:Nat} (E:Edg):(pL E).all (scC n)=true:=List.all_eq_true.2 fun c hc=>clo_sc (pL_clo E c hc)
theorem men2 {a b:Int} {i:Nat}:∀c∈[iC a,iC b],menC i c=false:=fun c hc=>by
 rcases List.mem_cons.1 hc with rfl|hc
 ·rfl
 rw[List.mem_singleton.1 hc];rfl
theorem apP {E:Edg} {a b:Int} {i:Nat} (h:E.length≤1000000):1*2=[iC a,iC b].length∧E.length*2=(pL E).length∧E.length+1≤maxLen∧(E.length+1)*16≤140737488355328∧∀c∈pL E++[iC a,iC b],menC i c=false:=
 ⟨rfl,pL_len E,by simp only[maxLen];omega,by omega,fun c hc=>by
  rcases List.mem_append.1 hc with hc|hc
  ·exact clo_men (pL_clo E c hc)
  exact men2 c hc⟩
def edge (C:CaseM) (l:Int):Nat×Nat:=((C.lines.l.getD l.toNat line0).fro.toNat,(C.lines.l.getD l.toNat line0).to.toNat)
def edg (C:CaseM) (ls:List Int):Edg:=ls.map (edge C)
theorem edg_ok {C:CaseM} (hf:LinesOk C) {ls:List Int} (hv:∀l∈ls,0≤l∧l<C.lines.l.length):∀p∈edg C ls,p.1<C.buses.l.length∧p.2<C.buses.l.length:=fun p hp=>by
 obtain⟨l,hl,rfl⟩:=List.mem_map.1 hp
 have h1:=hv l hl
 have h2:=hf (C.lines.l.getD l.toNat line0) (by rw[gd oM];exact List.getElem_mem _)
 unfold edge
 simp only
 omega
abbrev fPairs:FuncId:=65
theorem ePairs:Ent Tryz.prog fPairs:=Ent.of func65 rfl kR
theorem bPairs:Tryz.prog.funcs[fPairs]? =some Tryz.f65:=func65
theorem pairs_c (C:CaseM) (h:Int) (hL:C.lines.l.length≤1000) (hf:LinesOk C):Ctr Tryz.prog fPairs [] [.a (C.C []),.c (iC h)] [] (fun g:(Option Addr×Nat)×(Option Addr×Nat)=>⟨.t [.c (prs ⟨g.1.1,g.1.2,edg C (act C h C.lines.l.length)⟩),.c (intsR ⟨g.2.1,g.2.2,act C h C.lines.l.length⟩)],[],True⟩):=by
 have hLn:=act_len C h C.lines.l.length
 have hin:=act_in C h C.lines.l.length
 refine ctr_of gT ePairs bPairs rfl rfl rfl bL ClB.nil (VC_ok gT mxd ⟨[],inserv_c C h hL,rfl,rfl,rfl,fun g _=>vnil 7 157 2 rfl bL ?_⟩)
 generalize hA:act C h C.lines.l.length=L at hLn hin
 refine vloopD (rn [(7,7),(9,9),(15,35)]) 2 (fun i:Nat=>[(15,.c (iC i)),(7,.c (.s 1 ((edg C L).take i).length))]) (fun i=>[(30,0,C.C []),(157,2,pL ((edg C L).take i))]) (·≤L.length) (L.length-·) 0 (fun _=>rfl) bL (fun _=>scB.cons rfl (scB.cons (pL_sc _) scB.nil)) (fun _=>rfl) ?_
 refine⟨⟨rfl,Nat.zero_le _,⟨rfl,rfl⟩,⟨rfl,rfl⟩⟩,fun i hi=>VC_ok gT mxd ⟨fun h1=>VC_ok gT mxd ?_,fun h1=>VC_ok gT mxd ?_⟩⟩
 ·have hil:i<L.length:=by replace h1:(i:Int)<(L.length:Nat):=h1;omega
  have hz:=hin (L.getD i 0) (by rw[gd hil];exact List.getElem_mem hil)
  have hx:=hf (C.lines.l.getD (L.getD i 0).toNat line0) (by rw[gd oM];exact List.getElem_mem _)
  have hel:i<(edg C L).length:=by unfold edg;rw[List.length_map];exact hil
  have hnx:(edg C L).take (i+1)=(edg C L).take i++[edge C (L.getD i 0)]:=by
   rw[List.take_add_one,List.getElem?_eq_getElem hel]
   simp[edg,hil]
  have hce:[iC ((edge C (L.getD i 0)).1:Nat),iC ((edge C (L.getD i 0)).2:Nat)]=[iC (C.lines.l.getD (L.getD i 0).toNat line0).fro,iC (C.lines.l.getD (L.getD i 0).toNat line0).to]:=by
   unfold edge
   simp only
   rw[Int.toNat_of_nonneg hx.1.1,Int.toNat_of_nonneg hx.2.1]
  refine⟨i,⟨rfl,hil⟩,.seq (sq 15 (List.range 17)),by kernel_rfl,(L.getD i 0).toNat,⟨(Int.toNat_of_nonneg hz.1).symm,by omega⟩,(L.getD i 0).toNat,⟨(Int.toNat_of_nonneg hz.1).symm,by omega⟩,apP (by rw[List.length_take];omega),men2,(i+1:Nat),wi,i+1,⟨hil,by omega⟩,rfl,⟨rfl,?_⟩,rfl,?_⟩
  ·show _=(_,_,_)
   rw[hnx,pL_snoc,hce]
   rfl
  show _=_
  rw[hnx,List.length_append]
  rfl
 obtain rfl:i=L.length:=by replace h1:¬(i:Int)<(L.length:Nat):=h1;replace hi:i≤L.length:=hi;omega
 have hel:(edg C L).length=L.length:=by unfold edg;rw[List.length_map]
 rw[List.take_of_length_le oM]
 refine vfrz 7 1 (pC2 (edg C L)) rfl rfl (fun j hj=>pL_get hj) (pL_len _) bL (pL_clo _) bL fun A c h1 h2=>?_
 refine VC_ok gT mxd ?_
 exact⟨((A,c),g),trivial,fin_of ⟨rfl,rfl⟩ rfl trivial⟩
abbrev fCount:FuncId:=113
theorem eCount:Ent Tryz.prog fCount:=Ent.of func113 rfl kR
theorem bCount:Tryz.prog.funcs[fCount]? =some Tryz.f113:=func113
theorem count_c (l:Sl Int):Ctr Tryz.prog fCount [] [.c (intsR l)] [] (fun _:Unit=>⟨.c (iC ((List.range l.l.length).countP fun b=>decide (l.l.getD b 0=b):Nat)),[],True⟩):=by
 refine ctr_of gT eCount bCount rfl rfl rfl bL ClB.nil (lenr 0 rfl fun hn=>VC_ok gT mxd ?_)
 have hle:∀i,(List.range i).countP (fun b=>decide (l.l.getD b 0=b))≤i:=fun i=>by have:=List.countP_le_length (p:=fun b:Nat=>decide (l.l.getD b 0=b)) (l:=List.range i);rwa [List.length_range] at this
 refine vloop (rn [(3,18)]) (fun i:Nat=>[(3,.c (iC ((List.range i).countP fun b=>decide (l.l.getD b 0=b):Nat))),(4,.c (iC i))]) (fun _=>[]) (·≤l.l.length) (l.l.length-·) 0 ?_
 refine⟨⟨Nat.zero_le _,rfl,rfl,rfl⟩,fun i hi=>VC_ok gT mxd ⟨fun h=>VC_ok gT mxd ?_,fun h=>VC_ok gT mxd (VC_ok gT mxd ?_)⟩⟩
 ·have hs:=hle i
  refine⟨i,⟨rfl,oM⟩,⟨fun he=>VC_ok gT mxd ⟨((List.range i).countP (fun b=>decide (l.l.getD b 0=b))+1:Nat),wi,(i+1:Nat),wi,i+1,⟨oM,oM⟩,rfl,rfl,?_,rfl⟩,fun he=>VC_ok gT mxd ⟨(i+1:Nat),wi,i+1,⟨oM,oM⟩,rfl,rfl,?_,rfl⟩⟩⟩
  ·show _=_
   rw[List.range_succ,List.countP_append,List.countP_singleton,if_pos (decide_eq_true he)]
  show _=_
  rw[List.range_succ,List.countP_append,List.countP_singleton,if_neg (by rw[decide_eq_true_iff];exact he)]
  rfl
 obtain rfl:i=l.l.length:=by omega
 exact⟨(),trivial,fin_of rfl rfl trivial⟩
end Go.Proofs.YtandhgfmfpmemaaGreat
namespace Go.Proofs.YtandhgfmfpmemaaGreat
open Go.Vg _root_.Go.Proofs.Tryz
open Go.Vm hiding sg sg_t sg_f sg_abs sg_neg sg_add sg_mul sg_self sg_canon sg_pos sg_zero sg_eq_zero sg_lt
open Go.Vy hiding val
open Go.Isl hiding cnt Lst
set_option maxHeartbeats 1000000
theorem sum_set:∀{L:List Int} {k:Nat} {v:Int},k<L.length→(L.set k v).sum=L.sum-L.getD k 0+v
 |a::L,0,v,_=>by simp[List.getD];omega
 |a::L,k+1,v,h=>by
  have:=sum_set (L:=L) (k:=k) (v:=v) (by simpa using h)
  simp[List.getD] at this ⊢
  omega
theorem getD_set {L:List Int} {k j:Nat} {v:Int} (h:k<L.length):(L.set k v).getD j 0=if j=k then v else L.getD j 0:=by
 simp only[List.getD,List.getElem?_set]
 by_cases hj:j=k
 ·subst hj;simp[h]
 simp[hj,Ne.symm hj]
theorem set_self {L:List Int} {k:Nat} {v:Int} (h:k<L.length) (hv:L.getD k 0=v):L.set k v=L:=by
 rw[gd h] at hv
 rw[←hv,List.set_getElem_self]
theorem sum_nn:∀{L:List Int},(∀b,b<L.length→0≤L.getD b 0)→0≤L.sum
 |[],_=>by simp
 |a::L,h=>by
  have h1:=h 0 (by simp)
  have h2:=sum_nn (L:=L) fun b hb=>by simpa[List.getD] using h (b+1) (by simpa using hb)
  simp[List.getD] at h1 ⊢
  omega
structure IsS (E:Edg) (n:Nat) (L:List Int):Prop where
 ln:L.length=n
 lst:Isl.Lst E n fun b=>L.getD b 0
theorem IsS.nn {E:Edg} {n:Nat} {L:List Int} (h:IsS E n L):0≤L.sum:=sum_nn fun b hb=>(h.lst.le b (h.ln▸hb)).1
theorem ids_is (E:Edg) (n:Nat):IsS E n (idsT n n):=by
 have hg:∀b,b<n→(idsT n n).getD b 0=b:=fun b hb=>by simp[idsT,List.getD,hb]
 exact⟨idsT_len n n,⟨fun b hb=>by rw[hg b hb];omega,fun b hb=>by rw[hg b hb];exact .refl b⟩⟩
theorem IsS.step {E:Edg} {n:Nat} {L:List Int} (h:IsS E n L) {p:Nat×Nat} (hp:p∈E) (h1:p.1<n) (h2:p.2<n) {m:Int} (hm:m=min (L.getD p.1 0) (L.getD p.2 0)):IsS E n ((L.set p.1 m).set p.2 m)∧((L.set p.1 m).set p.2 m).sum≤L.sum∧(L.getD p.1 0≠m∨L.getD p.2 0≠m→((L.set p.1 m).set p.2 m).sum<L.sum)∧(L.getD p.1 0=m→L.getD p.2 0=m→(L.set p.1 m).set p.2 m=L):=by
 have hl:=h.ln
 have k1:p.1<L.length:=by omega
 have k2:p.2<(L.set p.1 m).length:=by rw[List.length_set];omega
 have l1:=h.lst.le p.1 h1
 have l2:=h.lst.le p.2 h2
 have c1:=h.lst.con p.1 h1
 have c2:=h.lst.con p.2 h2
 have he:Con E p.1 p.2:=.edge hp
 have hmm:(m=L.getD p.1 0∨m=L.getD p.2 0)∧m≤L.getD p.1 0∧m≤L.getD p.2 0:=by omega
 have hc1:Con E p.1 m.toNat:=by
  rcases hmm.1 with h|h
  ·rw[h];exact c1
  rw[h];exact he.trans c2
 have hc2:Con E p.2 m.toNat:=he.symm.trans hc1
 have hg:∀j,((L.set p.1 m).set p.2 m).getD j 0=if j=p.2 then m else if j=p.1 then m else L.getD j 0:=fun j=>by rw[getD_set k2,getD_set k1]
 have hs:((L.set p.1 m).set p.2 m).sum=L.sum-L.getD p.1 0+m-(if p.2=p.1 then m else L.getD p.2 0)+m:=by rw[sum_set k2,sum_set k1,getD_set k1]
 refine⟨⟨by rw[List.length_set,List.length_set,hl],fun b hb=>?_,fun b hb=>?_⟩,?_,fun hne=>?_,fun e1 e2=>?_⟩
 ·simp only[hg]
  split
  ·next e=>subst e;omega
  split
  ·next e=>subst e;omega
  exact h.lst.le b hb
 ·simp only[hg]
  split
  ·next e=>subst e;exact hc2
  split
  ·next e=>subst e;exact hc1
  exact h.lst.con b hb
 ·rw[hs];split<;>omega
 ·rw[hs]
  split
  ·next e=>rw[e] at hne hmm;omega
  omega
 rw[set_self k1 e1]
 exact set_self oM e2
def oIs:Ord:=.tree [0,1,3,4,6,7] (tr2 2 (tr2 5 (trS [8,9,10,11]) 8 (tr2 5 (trS [9,10,11]) 9 (trS [5,10,11]))) 5 (trS [2,8,9,10,11]))
abbrev fIslF:FuncId:=114
theorem eIslF:Ent Tryz.prog fIslF:=Ent.of func114 rfl kR
theorem bIslF:Tryz.prog.funcs[fIslF]? =some Tryz.f114:=func114
theorem islands_c (n:Nat) (x:Sl (Nat×Nat)) (hn:n≤1000) (hE:∀p∈x.l,p.1<n∧p.2<n):Ctr Tryz.prog fIslF [] [.c (iC n),.c (prs x)] [] (fun g:Sl Int=>⟨.c (intsR g),[],g.l.length=n∧Isl.Lst x.l n (fun b=>g.l.getD b 0)∧∀p∈x.l,g.l.getD p.1 0=g.l.getD p.2 0⟩):=by
 refine ctr_of gT eIslF bIslF rfl rfl rfl bL ClB.nil (lenr 1 rfl fun hxn=>VC_ok gT mxd ⟨n,⟨rfl,rfl,show 8*n≤281474976710656 by omega,by simp only[maxLen];omega⟩,?_⟩)
 refine vloop (rn [(6,6),(13,21)]) (fun i:Nat=>[(6,.c (iC i))]) (fun i=>[(3,1,(idsT n i).map iC)]) (·≤n) (n-·) 0 ?_
 refine⟨⟨Nat.zero_le _,by rw[idsT_0,List.map_replicate];rfl,rfl⟩,fun i hi=>VC_ok gT mxd ⟨fun h=>VC_ok gT mxd ?_,fun h=>VC_ok gT mxd (VC_ok gT mxd ?_)⟩⟩
 ·have hl:i<(idsT n i).length:=by rw[idsT_len];omega
  exact⟨i,⟨rfl,oM,own_ix hl⟩,_,own_put hl idsT_set,(i+1:Nat),wi,i+1,⟨oM,oM⟩,rfl,rfl,rfl⟩
 obtain rfl:i=n:=by omega
 refine vloop (rn [(7,7),(9,10),(22,69)]) (fun g:List Int×Bool=>[(7,.c (bC' g.2))]) (fun g=>[(3,1,g.1.map iC)]) (fun g=>IsS x.l i g.1∧(g.2=false→∀p∈x.l,g.1.getD p.1 0=g.1.getD p.2 0)) (fun g=>2*g.1.sum.toNat+(if g.2 then 1 else 0)) (idsT i i,true) ?_
 refine⟨⟨⟨ids_is _ _,(nomatch ·)⟩,rfl,tt rfl⟩,fun⟨L,ag⟩ ⟨hL,hag⟩=>VC_ok gT mxd ⟨fun h1=>VC_ok gT mxd ?_,fun h1=>VC_ok gT mxd ?_⟩⟩
 all_goals
  replace hL:IsS x.l i L:=hL
  replace hag:ag=false→∀p∈x.l,L.getD p.1 0=L.getD p.2 0:=hag
 ·replace h1:ag=true:=h1
  subst h1
  refine vloopD (rn [(7,7),(9,10),(25,69)]) 1 (fun g:Nat×List Int×Bool=>[(25,.c (iC g.1)),(7,.c (bC' g.2.2))]) (fun g=>[(3,1,g.2.1.map iC)]) (fun g=>g.1≤x.l.length∧IsS x.l i g.2.1∧g.2.1.sum≤L.sum∧(g.2.2=true→g.2.1.sum<L.sum)∧(g.2.2=false→g.2.1=L∧∀k,k<g.1→L.getD (x.l.getD k (0,0)).1 0=L.getD (x.l.getD k (0,0)).2 0)) (fun g=>x.l.length-g.1) (0,L,false) (fun _=>rfl) bL (fun _=>scB.cons (sc_ints _) scB.nil) (fun _=>rfl) ?_
  refine⟨⟨rfl,⟨Nat.zero_le _,hL,Int.le_refl _,(nomatch ·),fun _=>⟨rfl,fun k hk=>absurd hk (Nat.not_lt_zero _)⟩⟩,rfl,rfl,ff (fun h=>Bool.noConfusion (show false=true from h))⟩,fun⟨k,M,a2⟩ ⟨hk,hM,hs1,hs2,hs3⟩=>VC_ok gT mxd ⟨fun h2=>VC_ok gT mxd ?_,fun h2=>VC_ok gT mxd ?_⟩⟩
  all_goals
   replace hk:k≤x.l.length:=hk
   replace hM:IsS x.l i M:=hM
   replace hs1:M.sum≤L.sum:=hs1
   replace hs2:a2=true→M.sum<L.sum:=hs2
   replace hs3:a2=false→M=L∧∀j,j<k→L.getD (x.l.getD j (0,0)).1 0=L.getD (x.l.getD j (0,0)).2 0:=hs3
  ·have hkl:k<x.l.length:=by replace h2:(k:Int)<(x.l.length:Nat):=h2;omega
   generalize hp:x.l.getD k (0,0)=p
   have hpE:p∈x.l:=by rw[←hp,gd hkl];exact List.getElem_mem hkl
   obtain⟨q1,q2⟩:=hE p hpE
   have hml:=hM.ln
   have r1:p.1<M.length:=by omega
   have r2:p.2<M.length:=by omega
   have r3:p.2<(M.set p.1 (min (M.getD p.1 0) (M.getD p.2 0))).length:=by rw[List.length_set];omega
   obtain⟨s1,s2,s3,s4⟩:=hM.step hpE q1 q2 rfl
   have i1:((p.1:Nat):Int)=(p.1:Nat)∧p.1<i∧p.1*1<(M.map iC).length:=⟨rfl,q1,own_ix r1⟩
   have i2:((p.2:Nat):Int)=(p.2:Nat)∧p.2<i∧p.2*1<(M.map iC).length:=⟨rfl,q2,own_ix r2⟩
   have i3:((p.2:Nat):Int)=(p.2:Nat)∧p.2<i∧p.2*1<((M.set p.1 (min (M.getD p.1 0) (M.getD p.2 0))).map iC).length:=⟨rfl,q2,own_ix r3⟩
   have hC:k+1≤x.l.length∧IsS x.l i ((M.set p.1 (min (M.getD p.1 0) (M.getD p.2 0))).set p.2 (min (M.getD p.1 0) (M.getD p.2 0)))∧((M.set p.1 (min (M.getD p.1 0) (M.getD p.2 0))).set p.2 (min (M.getD p.1 0) (M.getD p.2 0))).sum≤L.sum∧(decide ((a2=true∨M.getD p.1 0≠min (M.getD p.1 0) (M.getD p.2 0))∨M.getD p.2 0≠min (M.getD p.1 0) (M.getD p.2 0))=true→((M.set p.1 (min (M.getD p.1 0) (M.getD p.2 0))).set p.2 (min (M.getD p.1 0) (M.getD p.2 0))).sum<L.sum)∧(decide ((a2=true∨M.getD p.1 0≠min (M.getD p.1 0) (M.getD p.2 0))∨M.getD p.2 0≠min (M.getD p.1 0) (M.getD p.2 0))=false→(M.set p.1 (min (M.getD p.1 0) (M.getD p.2 0))).set p.2 (min (M.getD p.1 0) (M.getD p.2 0))=L∧∀j,j<k+1→L.getD (x.l.getD j (0,0)).1 0=L.getD (x.l.getD j (0,0)).2 0):=by
    refine⟨hkl,s1,Int.le_trans s2 hs1,fun h=>?_,fun h=>?_⟩
    ·rcases of_decide_eq_true h with (h|h)|h
     ·have:=hs2 h;omega
     ·have:=s3 (.inl h);omega
     have:=s3 (.inr h);omega
    have h:=of_decide_eq_false h
    have e1:M.getD p.1 0=min (M.getD p.1 0) (M.getD p.2 0):=Decidable.not_not.1 fun e=>h (.inl (.inr e))
    have e2:M.getD p.2 0=min (M.getD p.1 0) (M.getD p.2 0):=Decidable.not_not.1 fun e=>h (.inr e)
    have ea:a2=false:=by cases a2 with
     |true=>exact absurd (.inl (.inl rfl)) h
     |false=>rfl
    obtain⟨f1,f2⟩:=hs3 ea
    refine⟨(s4 e1 e2).trans f1,fun j hj=>?_⟩
    by_cases hjk:j=k
    ·subst hjk
     rw[hp,←f1]
     exact e1.trans e2.symm
    exact f2 j oM
   refine⟨k,⟨rfl,hkl⟩,.seq (sq 99 (List.range 12)),by kernel_rfl,0,⟨rfl,bL⟩,p.1,?_⟩
   rw[hp]
   refine⟨i1,iC (M.getD p.1 0),own_ld r1 rfl,1,⟨rfl,bL⟩,p.2,i2,iC (M.getD p.2 0),own_ld r2 rfl,?_⟩
   refine⟨0,fun _=>⟨rfl,bL⟩,p.1,fun _=>i1,iC (M.getD p.1 0),fun _=>own_ld r1 rfl,1,fun _=>⟨rfl,bL⟩,p.2,fun _=>i2,iC (M.getD p.2 0),fun _=>own_ld r2 rfl,oIs,by kernel_rfl,0,⟨rfl,bL⟩,1,⟨rfl,bL⟩,?_⟩
   refine⟨⟨⟨p.1,i1,_,own_put r1 rfl,p.2,i3,_,own_put r3 rfl,(k+1:Nat),wi,(k+1,(M.set p.1 (min (M.getD p.1 0) (M.getD p.2 0))).set p.2 (min (M.getD p.1 0) (M.getD p.2 0)),decide ((a2=true∨M.getD p.1 0≠min (M.getD p.1 0) (M.getD p.2 0))∨M.getD p.2 0≠min (M.getD p.1 0) (M.getD p.2 0))),⟨hC,show x.l.length-(k+1)<x.l.length-k by omega⟩,rfl,rfl,rfl,decide_eq_true_iff.symm⟩,⟨p.1,i1,⟨⟨_,own_put r1 rfl,p.2,i3,_,own_put r3 rfl,(k+1:Nat),wi,(k+1,(M.set p.1 (min (M.getD p.1 0) (M.getD p.2 0))).set p.2 (min (M.getD p.1 0) (M.getD p.2 0)),decide ((a2=true∨M.getD p.1 0≠min (M.getD p.1 0) (M.getD p.2 0))∨M.getD p.2 0≠min (M.getD p.1 0) (M.getD p.2 0))),⟨hC,show x.l.length-(k+1)<x.l.length-k by omega⟩,rfl,rfl,rfl,decide_eq_true_iff.symm⟩,⟨_,own_put r1 rfl,p.2,i3,_,own_put r3 rfl,(k+1:Nat),wi,(k+1,(M.set p.1 (min (M.getD p.1 0) (M.getD p.2 0))).set p.2 (min (M.getD p.1 0) (M.getD p.2 0)),decide ((a2=true∨M.getD p.1 0≠min (M.getD p.1 0) (M.getD p.2 0))∨M.getD p.2 0≠min (M.getD p.1 0) (M.getD p.2 0))),⟨hC,show x.l.length-(k+1)<x.l.length-k by omega⟩,rfl,rfl,rfl,decide_eq_true_iff.symm⟩⟩⟩⟩,⟨p.1,i1,_,own_put r1 rfl,p.2,i3,_,own_put r3 rfl,(k+1:Nat),wi,(k+1,(M.set p.1 (min (M.getD p.1 0) (M.getD p.2 0))).set p.2 (min (M.getD p.1 0) (M.getD p.2 0)),decide ((a2=true∨M.getD p.1 0≠min (M.getD p.1 0) (M.getD p.2 0))∨M.getD p.2 0≠min (M.getD p.1 0) (M.getD p.2 0))),⟨hC,show x.l.length-(k+1)<x.l.length-k by omega⟩,rfl,rfl,rfl,decide_eq_true_iff.symm⟩⟩
  obtain rfl:k=x.l.length:=by replace h2:¬(k:Int)<(x.l.length:Nat):=h2;omega
  refine⟨(M,a2),⟨⟨hM,fun h p hp=>?_⟩,?_⟩,rfl,rfl,Iff.rfl⟩
  ·obtain⟨f1,f2⟩:=hs3 h
   obtain⟨j,hj,rfl⟩:=List.getElem_of_mem hp
   have:=f2 j hj
   rw[gd hj] at this
   show M.getD _ 0=M.getD _ 0
   rw[f1]
   exact this
  show 2*M.sum.toNat+(if a2 then 1 else 0)<2*L.sum.toNat+1
  have:=hM.nn
  cases a2 with
  |true=>have:=hs2 rfl;simp;omega
  |false=>simp;omega
 have hf:=hag (by cases ag with
  |true=>exact absurd rfl h1
  |false=>rfl)
 have hl:=hL.ln
 refine vfrz 5 0 (fun j=>[iC (L.getD j 0)]) rfl rfl (fun j hj=>ints_get j oM) (by simp[hl]) bL (clo_ints _) bL fun A c h1 h2=>?_
 refine VC_ok gT mxd ?_
 refine⟨⟨A,c,L⟩,⟨hl,hL.lst,hf⟩,fin_of ?_ rfl trivial⟩
 subst hl
 rfl
end Go.Proofs.YtandhgfmfpmemaaGreat
namespace Go.Proofs.YtandhgfmfpmemaaGreat
open Go.Vg _root_.Go.Proofs.Tryz
open Go.Vm hiding sg sg_t sg_f sg_abs sg_neg sg_add sg_mul sg_self sg_canon sg_pos sg_zero sg_eq_zero sg_lt
open Go.Vy hiding val
open Go.Isl hiding cnt Lst
set_option maxHeartbeats 1000000
open Classical in
noncomputable def rsE (E:Edg) (G:List Int):Nat→Edg
 |0=>[]
 |k+1=>if (k:Int)∈G then rsE E G k else rsE E G k++[E.getD k (0,0)]
theorem rsE_len (E:Edg) (G:List Int):∀k,(rsE E G k).length≤k
 |0=>Nat.le_refl _
 |k+1=>by
  have:=rsE_len E G k
  unfold rsE
  split
  ·omega
  simp;omega
theorem rsE_in (E:Edg) (G:List Int):∀k,k≤E.length→∀p∈rsE E G k,p∈E
 |0,_,p,hp=>by cases hp
 |k+1,hk,p,hp=>by
  unfold rsE at hp
  split at hp
  ·exact rsE_in E G k oM p hp
  rcases List.mem_append.1 hp with hp|hp
  ·exact rsE_in E G k oM p hp
  rw[List.mem_singleton.1 hp]
  simp[List.getD,show k<E.length by omega]
abbrev fSep:FuncId:=67
theorem eSep:Ent Tryz.prog fSep:=Ent.of func67 rfl kR
theorem bSep:Tryz.prog.funcs[fSep]? =some Tryz.f67:=func67
theorem sep_c (n:Nat) (x:Sl (Nat×Nat)) (G:Sl Int) (hn:n≤1000) (hxl:x.l.length≤1000000) (hE:∀p∈x.l,p.1<n∧p.2<n):Ctr Tryz.prog fSep [] [.c (iC n),.c (prs x),.c (intsR G)] [] (fun _:Unit=>⟨pC (Isl.cnt x.l n<Isl.cnt (rsE x.l G.l x.l.length) n),[],True⟩):=by
 refine ctr_of gT eSep bSep rfl rfl rfl bL ClB.nil (VC_ok gT mxd (vnil 7 157 2 rfl bL ?_))
 refine vloopD (rn [(7,25)]) 1 (fun k:Nat=>[(8,.c (iC k)),(7,.c (.s 0 (rsE x.l G.l k).length))]) (fun k=>[(157,2,pL (rsE x.l G.l k))]) (·≤x.l.length) (x.l.length-·) 0 (fun _=>rfl) bL (fun _=>scB.cons (pL_sc _) scB.nil) (fun _=>rfl) ?_
 refine⟨⟨rfl,Nat.zero_le _,rfl,rfl,rfl⟩,fun k hk=>VC_ok gT mxd ⟨fun h1=>VC_ok gT mxd ?_,fun h1=>VC_ok gT mxd ?_⟩⟩
 ·have hkl:k<x.l.length:=by replace h1:(k:Int)<(x.l.length:Nat):=h1;omega
  refine⟨[],has_c G k,rfl,rfl,rfl,fun _ _=>⟨fun h2=>VC_ok gT mxd ?_,fun h2=>VC_ok gT mxd ?_⟩⟩
  ·refine⟨k,⟨rfl,hkl⟩,apP (by have:=rsE_len x.l G.l k;omega),men2,(k+1:Nat),wi,k+1,⟨hkl,by omega⟩,rfl,?_,rfl,?_⟩
   ·show(_,_,_)=(_,_,_)
    rw[rsE,if_neg h2,pL_snoc]
    rfl
   show _=_
   rw[rsE,if_neg h2,List.length_append]
   rfl
  refine⟨(k+1:Nat),wi,k+1,⟨hkl,by omega⟩,rfl,?_,rfl,?_⟩
  ·show _=(_,_,_)
   rw[rsE,if_pos (Decidable.not_not.1 h2)]
  show _=_
  rw[rsE,if_pos (Decidable.not_not.1 h2)]
 obtain rfl:k=x.l.length:=by replace h1:¬(k:Int)<(x.l.length:Nat):=h1;replace hk:k≤x.l.length:=hk;omega
 have hE2:∀p∈rsE x.l G.l x.l.length,p.1<n∧p.2<n:=fun p hp=>hE p (rsE_in _ _ _ (Nat.le_refl _) p hp)
 refine vfrz 7 0 (pC2 (rsE x.l G.l x.l.length)) rfl rfl (fun j hj=>pL_get hj) (pL_len _) bL (pL_clo _) bL fun A c h1 h2=>?_
 refine VC_ok gT mxd ?_
 refine⟨[],islands_c n ⟨A,c,rsE x.l G.l x.l.length⟩ hn hE2,rfl,rfl,rfl,fun g1 hg1=>⟨[],count_c g1,rfl,rfl,rfl,fun _ _=>⟨[],islands_c n x hn hE,rfl,rfl,rfl,fun g2 hg2=>⟨[],count_c g2,rfl,rfl,rfl,fun _ _=>⟨(),trivial,fin_of ?_ rfl trivial⟩⟩⟩⟩⟩
 obtain⟨a1,a2,a3⟩:=hg1
 obtain⟨b1,b2,b3⟩:=hg2
 show(_<_)↔_
 rw[a1,b1,Isl.Lst.count a2 a3,Isl.Lst.count b2 b3]
 exact Int.ofNat_lt
/-! ### outages -/
abbrev g2 (a b:Int):Nat→List CV:=fun j=>[iC ([a,b].getD j 0)]
theorem fz2 {nb i:Nat} (h:nb≤i) (a b:Int):(nb≤i∧0<1)∧2*1=[iC a,iC b].length∧(∀j,j<2→g2 a b j=([iC a,iC b].drop (j*1)).take 1)∧∀c∈[iC a,iC b],cloC c=true:=
 ⟨⟨h,Nat.zero_lt_one⟩,rfl,fun j hj=>(by rcases (show j=0∨j=1 by omega) with rfl|rfl<;>rfl),fun c hc=>by
   rcases List.mem_cons.1 hc with rfl|hc
   ·rfl
   rw[List.mem_singleton.1 hc];rfl⟩
theorem apI2 {x:List Int} {z:Int} {i:Nat} (h:x.length≤4000000):1*1=[iC z].length∧x.length*1=(x.map iC).length∧x.length+1≤maxLen∧(x.length+1)*8≤140737488355328∧∀c∈x.map iC++[iC z],menC i c=false:=
 ⟨rfl,by simp,by simp only[maxLen];omega,by omega,fun c hc=>by
  rcases List.mem_append.1 hc with hc|hc
  ·exact men_ints x c hc
  rw[List.mem_singleton.1 hc];rfl⟩
abbrev mvU (x:OutM):List Int:=x.moves.l.map (·.unit)
noncomputable def rOut0 (C:CaseM) (i:Nat) (S:St):St:=
 let x:=C.outs.l.getD i out0
 (((((S.nm (fun i=>(C.outs.l.getD i out0).name) 6 i).nr (1≤(x.lines.l.length:Int)∧(x.lines.l.length:Int)≤2) 6 i 1 4).nr (Btw 0 ((C.lines.l.length:Int)-1) x.lines.l) 6 i 1 12).nr (Asc x.lines.l) 6 i 1 11).nr (x.corr=true∨(x.moves.l.length:Int)=0) 6 i 3 16).nr ((x.moves.l.length:Int)≤16) 6 i 3 8
noncomputable def rOut1 (C:CaseM) (i:Nat) (S:St):St:=
 let x:=C.outs.l.getD i out0
 (S.nr (Btw 0 ((C.units.l.length:Int)-1) (mvU x)) 6 i 3 12).nr (Asc (mvU x)) 6 i 3 11
noncomputable def rOut (C:CaseM) (i:Nat) (S:St):St:=(rOut1 C i (rOut0 C i S)).nr (∀m∈(C.outs.l.getD i out0).moves.l,Btw 0 1048576 [m.up,m.down]) 6 i 3 3
abbrev fdO (C:CaseM) (x:OutM) (l:List CV) (S:St):BL:=[(102,0,[iC S.k,iC S.x,iC S.f,iC S.e]),(30,0,C.C []),(47,0,x.C),(3,1,[iC x.lines.l.length]),(3,1,l)]
theorem fdO_sc {C:CaseM} {x:OutM} {l:List CV} {S:St} (h:l.all (scC 5)=true):scB 5 (fdO C x l S):=scB.cons rfl (scB.cons rfl (scB.cons rfl (scB.cons rfl (scB.cons h scB.nil))))
abbrev fROut:FuncId:=64
theorem eROut:Ent Tryz.prog fROut:=Ent.of func64 rfl kR
theorem bROut:Tryz.prog.funcs[fROut]? =some Tryz.f64:=func64
set_option maxRecDepth 4000 in
theorem routage_c (C:CaseM) (hS:Sh C) {i:Nat} (hi:i<C.outs.l.length) (S:St):Ctr Tryz.prog fROut [true] [.c (.p 0 0),.a (C.C []),.c (iC i)] (fdB S) (FdR (rOut C i S)):=by
 have hm2:=hS.m (C.outs.l.getD i out0) (by rw[gd hi];exact List.getElem_mem hi)
 have hb2:=hS.l
 have hb3:=hS.u
 refine ctr_of gT eROut bROut rfl rfl rfl bL (ClB.one rfl) (VC_ok gT mxd ?_)
 refine⟨i,⟨rfl,hi⟩,⟨[0],fname_c (names6_c C hS.o) hi hS.o S,rfl,rfl,rfl,fun _ _=>⟨none,[3],between1_c 1 2 _,rfl,rfl,rfl,fun _ _=>⟨[0],fneed_c _ 6 i 1 4,rfl,rfl,rfl,fun _ _=>⟨(C.lines.l.length:Int)-1,wi,⟨[],between_c 0 _ _,rfl,rfl,rfl,fun _ _=>⟨[0],fneed_c _ 6 i 1 12,rfl,rfl,rfl,fun _ _=>⟨[],rising_c _,rfl,rfl,rfl,fun _ _=>⟨[0],fneed_c _ 6 i 1 11,rfl,rfl,rfl,fun _ _=>⟨[0],fneed_c _ 6 i 3 16,rfl,rfl,rfl,fun _ _=>⟨[0],fneed_c _ 6 i 3 8,rfl,rfl,rfl,fun _ _=>?_⟩⟩⟩⟩⟩⟩⟩⟩⟩⟩⟩
 refine vnil 8 3 1 rfl bL ?_
 refine vloopD (rn [(8,8),(10,10),(73,82)]) 5 (fun j:Nat=>[(73,.c (iC j)),(8,.c (.s 4 (((C.outs.l.getD i out0).moves.l.take j).map (·.unit)).length))]) (fun j=>fdO C (C.outs.l.getD i out0) ((((C.outs.l.getD i out0).moves.l.take j).map (·.unit)).map iC) (rOut0 C i S)) (·≤(C.outs.l.getD i out0).moves.l.length) ((C.outs.l.getD i out0).moves.l.length-·) 0 (fun _=>rfl) bL (fun _=>fdO_sc (sc_ints _)) (fun _=>rfl) ?_
 refine⟨⟨rfl,Nat.zero_le _,⟨rfl,rfl,rfl,rfl,rfl⟩,⟨rfl,rfl⟩⟩,fun j hj=>VC_ok gT mxd ⟨fun h=>VC_ok gT mxd ?_,fun h=>VC_ok gT mxd ?_⟩⟩
 ·have hjl:j<(C.outs.l.getD i out0).moves.l.length:=by replace h:(j:Int)<((C.outs.l.getD i out0).moves.l.length:Nat):=h;omega
  refine⟨j,⟨rfl,hjl⟩,apI2 (by rw[List.length_map,List.length_take];omega),men1,men1,(j+1:Nat),wi,j+1,⟨hjl,by omega⟩,rfl,⟨rfl,rfl,rfl,rfl,?_⟩,rfl,?_⟩
  ·show _=(_,_,_)
   rw[map_take (d:=⟨0,0,0⟩) hjl,List.map_append]
   rfl
  show _=_
  rw[map_take (d:=⟨0,0,0⟩) hjl,List.length_append]
  rfl
 obtain rfl:j=(C.outs.l.getD i out0).moves.l.length:=by replace h:¬(j:Int)<((C.outs.l.getD i out0).moves.l.length:Nat):=h;replace hj:j≤(C.outs.l.getD i out0).moves.l.length:=hj;omega
 rw[List.take_length]
 refine vfrz 8 4 (fun j=>[iC ((mvU (C.outs.l.getD i out0)).getD j 0)]) rfl rfl (fun j hj=>ints_get j hj) (by simp) bL (clo_ints _) bL fun A c h1 h2=>⟨men1,VC_ok gT mxd ?_⟩
 refine⟨(C.units.l.length:Int)-1,wi,⟨[],between_c 0 ((C.units.l.length:Int)-1) ⟨A,c,mvU (C.outs.l.getD i out0)⟩,rfl,rfl,rfl,fun _ _=>⟨[0],fneed_c _ 6 i 3 12,rfl,rfl,rfl,fun _ _=>⟨[],rising_c ⟨A,c,mvU (C.outs.l.getD i out0)⟩,rfl,rfl,rfl,fun _ _=>⟨[0],fneed_c _ 6 i 3 11,rfl,rfl,rfl,fun _ _=>?_⟩⟩⟩⟩⟩
 refine vloopD (rn [(12,12),(102,116)]) 5 (fun j:Nat=>[(102,.c (iC j))]) (fun j=>fdO C (C.outs.l.getD i out0) [] ((rOut1 C i (rOut0 C i S)).nr (∀m∈(C.outs.l.getD i out0).moves.l.take j,Btw 0 1048576 [m.up,m.down]) 6 i 3 3)) (·≤(C.outs.l.getD i out0).moves.l.length) ((C.outs.l.getD i out0).moves.l.length-·) 0 (fun _=>rfl) bL (fun _=>fdO_sc rfl) (fun _=>rfl) ?_
 refine⟨⟨rfl,Nat.zero_le _,⟨congrArg (fun S:St=>(102,0,[iC S.k,iC S.x,iC S.f,iC S.e])) (St.nr_true (p:=∀m∈(C.outs.l.getD i out0).moves.l.take 0,Btw 0 1048576 [m.up,m.down]) fun m hm=>absurd hm (by simp)).symm,rfl,rfl,rfl,rfl⟩,rfl⟩,fun j hj=>VC_ok gT mxd ⟨fun h=>VC_ok gT mxd ?_,fun h=>VC_ok gT mxd ?_⟩⟩
 ·have hjl:j<(C.outs.l.getD i out0).moves.l.length:=by replace h:(j:Int)<((C.outs.l.getD i out0).moves.l.length:Nat):=h;omega
  refine⟨j,⟨rfl,hjl⟩,some (g2 _ _),fz2 bL _ _,fun A' c' _ _=>⟨men1,men0,[],between_c 0 1048576 ⟨A',c',[((C.outs.l.getD i out0).moves.l.getD j ⟨0,0,0⟩).up,((C.outs.l.getD i out0).moves.l.getD j ⟨0,0,0⟩).down]⟩,rfl,rfl,rfl,fun _ _=>⟨[0],fneed_c _ 6 i 3 3,rfl,rfl,rfl,fun _ _=>⟨(j+1:Nat),wi,j+1,⟨hjl,by omega⟩,rfl,⟨congrArg (fun S:St=>(102,0,[iC S.k,iC S.x,iC S.f,iC S.e])) ?_,rfl,rfl,rfl,rfl⟩,rfl⟩⟩⟩⟩
  exact St.nr_take (P:=fun m:MoveM=>Btw 0 1048576 [m.up,m.down]) (d:=⟨0,0,0⟩) dC hjl
 obtain rfl:j=(C.outs.l.getD i out0).moves.l.length:=by replace h:¬(j:Int)<((C.outs.l.getD i out0).moves.l.length:Nat):=h;replace hj:j≤(C.outs.l.getD i out0).moves.l.length:=hj;omega
 rw[List.take_length]
 exact⟨(),trivial,finF rfl rfl⟩
end Go.Proofs.YtandhgfmfpmemaaGreat
namespace Go.Proofs.YtandhgfmfpmemaaGreat
open Go.Vg _root_.Go.Proofs.Tryz
open Go.Vm hiding sg sg_t sg_f sg_abs sg_neg sg_add sg_mul sg_self sg_canon sg_pos sg_zero sg_eq_zero sg_lt
open Go.Vy hiding val
open Go.Isl hiding cnt Lst
set_option maxHeartbeats 1000000
noncomputable def rBus (C:CaseM) (i:Nat) (S:St):St:=
 let x:=C.buses.l.getD i bus0
 ((S.nm (fun i=>(C.buses.l.getD i bus0).name) 1 i).hr C x.demand.l 0 1048576 1 i 1).nr (0≤x.shed∧x.shed≤1048576) 1 i 2 3
open Classical in
noncomputable def gnT (L G:List Int):Nat→List Int
 |0=>[]
 |k+1=>if L.getD k 0∈G then gnT L G k++[(k:Int)] else gnT L G k
theorem gnT_len (L G:List Int):∀k,(gnT L G k).length≤k
 |0=>Nat.le_refl _
 |k+1=>by
  have:=gnT_len L G k
  unfold gnT
  split
  ·simp;omega
  omega
noncomputable abbrev actA (C:CaseM) (h:Int):List Int:=act C h C.lines.l.length
noncomputable def rIso (C:CaseM) (h:Nat) (i:Nat) (S:St):St:=S.nr (¬Isl.cnt (edg C (actA C h)) C.buses.l.length<Isl.cnt (rsE (edg C (actA C h)) (gnT (actA C h) (C.outs.l.getD i out0).lines.l (actA C h).length) (edg C (actA C h)).length) C.buses.l.length) 6 i h 13
noncomputable def rIsl (C:CaseM) (h:Nat) (S:St):St:=iter C.outs.l.length (rIso C h) S
noncomputable def rstgF (C:CaseM):Nat→St→St
 |0,S=>frm C S
 |1,S=>iter C.buses.l.length (rBus C) S
 |2,S=>iter C.lines.l.length (rLine C) S
 |3,S=>iter C.units.l.length (rUnit C) S
 |4,S=>iter C.stores.l.length (rStore C) S
 |5,S=>iter C.ties.l.length (rTie C) S
 |6,S=>iter C.outs.l.length (rOut C) S
 |_,S=>iter C.hours.toNat (rIsl C) S
noncomputable def rstg (C:CaseM) (n:Nat):St:=iter n (rstgF C) ⟨0,0,0,0⟩
theorem rBus_bad {C:CaseM} (i:Nat) (S:St) (h:S.e≠0):rBus C i S=S:=by simp only[rBus,St.nm,St.hr,St.nr_bad h]
theorem rLine_bad {C:CaseM} (i:Nat) (S:St) (h:S.e≠0):rLine C i S=S:=by simp only[rLine,St.nm,St.aw,St.nr_bad h]
theorem rUnit_bad {C:CaseM} (i:Nat) (S:St) (h:S.e≠0):rUnit C i S=S:=by simp only[rUnit,St.nm,St.sg,St.aw,St.nr_bad h,ite_self]
theorem rStore_bad {C:CaseM} (i:Nat) (S:St) (h:S.e≠0):rStore C i S=S:=by simp only[rStore,St.nm,St.nr_bad h]
theorem rTie_bad {C:CaseM} (i:Nat) (S:St) (h:S.e≠0):rTie C i S=S:=by simp only[rTie,St.nm,St.hr,St.nr_bad h]
theorem rOut_bad {C:CaseM} (i:Nat) (S:St) (h:S.e≠0):rOut C i S=S:=by simp only[rOut,rOut0,rOut1,St.nm,St.nr_bad h]
theorem rIsl_bad {C:CaseM} (i:Nat) (S:St) (h:S.e≠0):rIsl C i S=S:=iter_skip (fun i S h=>by simp only[rIso,St.nr_bad h]) h _
theorem frm_bad {C:CaseM} (S:St) (h:S.e≠0):frm C S=S:=by
 have h0:frm0 C S=S:=by simp only[frm0,St.hr,St.nr_bad h]
 unfold frm
 rw[h0]
 exact iter_skip (fun i S h=>by
  match i with
  |0=>exact St.nr_bad h
  |1=>exact St.nr_bad h
  |2=>exact St.nr_bad h
  |3=>exact St.nr_bad h
  |_+4=>exact St.nr_bad h) h _
theorem rstgF_bad {C:CaseM} (n:Nat) (S:St) (h:S.e≠0):rstgF C n S=S:=by
 match n with
 |0=>exact frm_bad S h
 |1=>exact iter_skip rBus_bad h _
 |2=>exact iter_skip rLine_bad h _
 |3=>exact iter_skip rUnit_bad h _
 |4=>exact iter_skip rStore_bad h _
 |5=>exact iter_skip rTie_bad h _
 |6=>exact iter_skip rOut_bad h _
 |_+7=>exact iter_skip rIsl_bad h _
theorem rstg_ok {C:CaseM} {i n:Nat} (h:(rstg C n).e=0) (hi:i≤n):(rstg C i).e=0:=by
 by_cases he:(rstg C i).e=0
 ·exact he
 rw[show rstg C n=rstg C i from iter_bad rstgF_bad he n hi] at h;exact absurd h he
theorem iter_e0 {f:Nat→St→St} (hf:∀i S,S.e≠0→f i S=S) {S:St} {n:Nat} (h:(iter n f S).e=0):S.e=0:=by
 by_cases he:S.e=0
 ·exact he
 rw[iter_skip hf he n] at h;exact absurd h he
theorem iter_exit {f:Nat→St→St} (hf:∀i S,S.e≠0→f i S=S) {S:St} {i n:Nat} (hi:i≤n) (h:¬((i:Int)<(n:Nat)∧(iter i f S).e=0)):iter i f S=iter n f S:=by
 by_cases he:(iter i f S).e=0
 ·rw[show i=n from Classical.byContradiction fun hn=>h ⟨by omega,he⟩]
 exact(iter_bad hf he n hi).symm
theorem hours_ok {C:CaseM} (h:(rstg C 1).e=0):1≤C.hours∧C.hours≤24:=by
 have h1:(frm0 C ⟨0,0,0,0⟩).e=0:=iter_e0 (fun i S h=>by
  match i with
  |0=>exact St.nr_bad h
  |1=>exact St.nr_bad h
  |2=>exact St.nr_bad h
  |3=>exact St.nr_bad h
  |_+4=>exact St.nr_bad h) h
 exact(St.nr_ok (St.nr_ok (St.nr_ok (St.nr_ok h1 dC).1 dC).1 dC).1 dC).2
theorem rlines_ok {C:CaseM} (h:(rstg C 3).e=0):LinesOk C:=fun x hx=>by
 obtain⟨i,hi,rfl⟩:=List.getElem_of_mem hx
 have h1:=iter_ok (S:=rstg C 2) rLine_bad h hi
 have h2:=St.nr_ok (St.nr_ok h1 dC).1 dC
 have h3:=St.nr_ok h2.1 dC
 have h4:=St.nr_ok h3.1 dC
 have h5:=St.nr_ok h4.1 dC
 have h6:=St.nr_ok h5.1 dC
 have h7:=St.nr_ok h6.1 dC
 have h8:=St.nr_ok h7.1 dC
 have h9:=St.nr_ok h8.1 dC
 have h10:=St.nr_ok h9.1 dC
 have a:=h9.2 _ (.head _)
 have b:=h10.2 _ (.head _)
 simp only[gd hi] at a b
 omega
abbrev fdK (C:CaseM) (S:St):BL:=[(30,0,C.C []),(50,0,[iC 0,iC 0,iC 0]),(102,0,[iC S.k,iC S.x,iC S.f,iC S.e])]
theorem fdK_sc {C:CaseM} {S:St}:scB 3 (fdK C S):=scB.cons rfl (scB.cons rfl (scB.cons rfl scB.nil))
theorem gnT_next {L G:List Int} {k:Nat} (h:L.getD k 0∈G):gnT L G (k+1)=gnT L G k++[(k:Int)]:=by rw[gnT,if_pos h]
theorem gnT_skip {L G:List Int} {k:Nat} (h:¬L.getD k 0∈G):gnT L G (k+1)=gnT L G k:=by rw[gnT,if_neg h]
abbrev fRCheck:FuncId:=21
theorem eRCheck:Ent Tryz.prog fRCheck:=Ent.of func21 rfl kR
theorem bRCheck:Tryz.prog.funcs[fRCheck]? =some Tryz.f21:=func21
set_option maxRecDepth 4000 in
theorem rcheck_c (C:CaseM) (hS:Sh C):Ctr Tryz.prog fRCheck [] [.a (C.C [])] [] (fun g:Int×Int×Int=>⟨.t [.a [iC g.1,iC g.2.1,iC g.2.2],.c (iC (rstg C 8).e)],[],True⟩):=by
 have sb:=hS.b
 have sl:=hS.l
 have su:=hS.u
 have ss:=hS.s
 have st:=hS.t
 have so:=hS.o
 refine ctr_of gT eRCheck bRCheck rfl rfl rfl bL ClB.nil (VC_ok gT mxd ⟨[2],frame_c C hS ⟨0,0,0,0⟩,rfl,rfl,rfl,fun _ _=>?_⟩)
 refine vloopD (rn [(5,5),(22,60)]) 3 (fun i:Nat=>[(5,.c (iC i))]) (fun i=>fdK C (iter i (rBus C) (rstg C 1))) (·≤C.buses.l.length) (C.buses.l.length-·) 0 (fun _=>rfl) bL (fun _=>fdK_sc) (fun _=>rfl) ?_
 refine⟨⟨rfl,Nat.zero_le _,⟨rfl,rfl,rfl⟩,rfl⟩,fun i hi=>VC_ok gT mxd ⟨fun h=>VC_ok gT mxd ?_,fun h=>VC_ok gT mxd ?_⟩⟩
 ·have hil:i<C.buses.l.length:=by
   have h1:(i:Int)<(C.buses.l.length:Nat):=h.1
   omega
  have h2:(iter i (rBus C) (rstg C 1)).e=0:=h.2
  exact⟨[2],fname_c (names1_c C hS.b) hil hS.b _,rfl,rfl,rfl,fun _ _=>⟨.seq (sq 9 (List.range 10)),by kernel_rfl,i,⟨rfl,hil⟩,⟨[2],fhourly_c C _ _ 0 1048576 1 i 1,rfl,rfl,rfl,fun _ _=>⟨i,⟨rfl,hil⟩,⟨none,[3],between1_c 0 1048576 _,rfl,rfl,rfl,fun _ _=>⟨[2],fneed_c _ 1 i 2 3,rfl,rfl,rfl,fun _ _=>⟨(i+1:Nat),wi,i+1,⟨hil,by omega⟩,rfl,⟨rfl,rfl,rfl⟩,rfl⟩⟩⟩⟩⟩⟩⟩
 rw[iter_exit rBus_bad hi h]
 refine VC_ok gT mxd ?_
 refine vloopD (rn [(6,6),(61,78)]) 3 (fun i:Nat=>[(6,.c (iC i))]) (fun i=>fdK C (iter i (rLine C) (rstg C 2))) (·≤C.lines.l.length) (C.lines.l.length-·) 0 (fun _=>rfl) bL (fun _=>fdK_sc) (fun _=>rfl) ?_
 refine⟨⟨rfl,Nat.zero_le _,⟨rfl,rfl,rfl⟩,rfl⟩,fun i hi=>VC_ok gT mxd ⟨fun h=>VC_ok gT mxd ?_,fun h=>VC_ok gT mxd ?_⟩⟩
 ·have hil:i<C.lines.l.length:=by
   have h1:(i:Int)<(C.lines.l.length:Nat):=h.1
   omega
  have h2:(iter i (rLine C) (rstg C 2)).e=0:=h.2
  have hC:=hours_ok (rstg_ok (i:=1) (n:=2) (iter_e0 rLine_bad h2) bL)
  exact⟨[2],rline_c C hS hC hil _,rfl,rfl,rfl,fun _ _=>⟨(i+1:Nat),wi,i+1,⟨hil,by omega⟩,rfl,⟨rfl,rfl,rfl⟩,rfl⟩⟩
 rw[iter_exit rLine_bad hi h]
 refine VC_ok gT mxd ?_
 refine vloopD (rn [(7,7),(79,96)]) 3 (fun i:Nat=>[(7,.c (iC i))]) (fun i=>fdK C (iter i (rUnit C) (rstg C 3))) (·≤C.units.l.length) (C.units.l.length-·) 0 (fun _=>rfl) bL (fun _=>fdK_sc) (fun _=>rfl) ?_
 refine⟨⟨rfl,Nat.zero_le _,⟨rfl,rfl,rfl⟩,rfl⟩,fun i hi=>VC_ok gT mxd ⟨fun h=>VC_ok gT mxd ?_,fun h=>VC_ok gT mxd ?_⟩⟩
 ·have hil:i<C.units.l.length:=by
   have h1:(i:Int)<(C.units.l.length:Nat):=h.1
   omega
  have h2:(iter i (rUnit C) (rstg C 3)).e=0:=h.2
  have hC:=hours_ok (rstg_ok (i:=1) (n:=3) (iter_e0 rUnit_bad h2) bL)
  exact⟨[2],runit_c C hS hC hil _,rfl,rfl,rfl,fun _ _=>⟨(i+1:Nat),wi,i+1,⟨hil,by omega⟩,rfl,⟨rfl,rfl,rfl⟩,rfl⟩⟩
 rw[iter_exit rUnit_bad hi h]
 refine VC_ok gT mxd ?_
 refine vloopD (rn [(8,8),(97,114)]) 3 (fun i:Nat=>[(8,.c (iC i))]) (fun i=>fdK C (iter i (rStore C) (rstg C 4))) (·≤C.stores.l.length) (C.stores.l.length-·) 0 (fun _=>rfl) bL (fun _=>fdK_sc) (fun _=>rfl) ?_
 refine⟨⟨rfl,Nat.zero_le _,⟨rfl,rfl,rfl⟩,rfl⟩,fun i hi=>VC_ok gT mxd ⟨fun h=>VC_ok gT mxd ?_,fun h=>VC_ok gT mxd ?_⟩⟩
 ·have hil:i<C.stores.l.length:=by
   have h1:(i:Int)<(C.stores.l.length:Nat):=h.1
   omega
  have h2:(iter i (rStore C) (rstg C 4)).e=0:=h.2
  exact⟨[2],rstore_c C hS hil _,rfl,rfl,rfl,fun _ _=>⟨(i+1:Nat),wi,i+1,⟨hil,by omega⟩,rfl,⟨rfl,rfl,rfl⟩,rfl⟩⟩
 rw[iter_exit rStore_bad hi h]
 refine VC_ok gT mxd ?_
 refine vloopD (rn [(9,9),(115,132)]) 3 (fun i:Nat=>[(9,.c (iC i))]) (fun i=>fdK C (iter i (rTie C) (rstg C 5))) (·≤C.ties.l.length) (C.ties.l.length-·) 0 (fun _=>rfl) bL (fun _=>fdK_sc) (fun _=>rfl) ?_
 refine⟨⟨rfl,Nat.zero_le _,⟨rfl,rfl,rfl⟩,rfl⟩,fun i hi=>VC_ok gT mxd ⟨fun h=>VC_ok gT mxd ?_,fun h=>VC_ok gT mxd ?_⟩⟩
 ·have hil:i<C.ties.l.length:=by
   have h1:(i:Int)<(C.ties.l.length:Nat):=h.1
   omega
  have h2:(iter i (rTie C) (rstg C 5)).e=0:=h.2
  exact⟨[2],rtie_c C hS hil _,rfl,rfl,rfl,fun _ _=>⟨(i+1:Nat),wi,i+1,⟨hil,by omega⟩,rfl,⟨rfl,rfl,rfl⟩,rfl⟩⟩
 rw[iter_exit rTie_bad hi h]
 refine VC_ok gT mxd ?_
 refine vloopD (rn [(10,10),(133,150)]) 3 (fun i:Nat=>[(10,.c (iC i))]) (fun i=>fdK C (iter i (rOut C) (rstg C 6))) (·≤C.outs.l.length) (C.outs.l.length-·) 0 (fun _=>rfl) bL (fun _=>fdK_sc) (fun _=>rfl) ?_
 refine⟨⟨rfl,Nat.zero_le _,⟨rfl,rfl,rfl⟩,rfl⟩,fun i hi=>VC_ok gT mxd ⟨fun h=>VC_ok gT mxd ?_,fun h=>VC_ok gT mxd ?_⟩⟩
 ·have hil:i<C.outs.l.length:=by
   have h1:(i:Int)<(C.outs.l.length:Nat):=h.1
   omega
  have h2:(iter i (rOut C) (rstg C 6)).e=0:=h.2
  exact⟨[2],routage_c C hS hil _,rfl,rfl,rfl,fun _ _=>⟨(i+1:Nat),wi,i+1,⟨hil,by omega⟩,rfl,⟨rfl,rfl,rfl⟩,rfl⟩⟩
 rw[iter_exit rOut_bad hi h]
 refine VC_ok gT mxd ?_
 have k1:(rstg C 7).e=0→(1≤C.hours∧C.hours≤24)∧LinesOk C:=fun h=>⟨hours_ok (rstg_ok h bL),rlines_ok (rstg_ok h bL)⟩
 have k2:rstg C 8=iter C.hours.toNat (rIsl C) (rstg C 7):=rfl
 rw[show iter C.outs.l.length (rOut C) (rstg C 6)=rstg C 7 from rfl]
 generalize rstg C 7=S7 at k1 k2 ⊢
 have hAl:∀h:Int,(act C h C.lines.l.length).length≤1000:=fun h=>Nat.le_trans (act_len C h _) hS.l
 obtain⟨U,hU0,hU1,hU2⟩:∃U:Nat→St,S7=U 0∧(∀h,U (h+1)=iter C.outs.l.length (rIso C h) (U h))∧∀h,U h=iter h (rIsl C) S7:=⟨fun h=>iter h (rIsl C) S7,rfl,fun _=>rfl,fun _=>rfl⟩
 rw[hU0]
 refine vloopD (rn [(11,16),(151,208)]) 3 (fun h:Nat=>[(11,.c (iC h))]) (fun h=>fdK C (U h)) (fun h=>h≤C.hours.toNat) (C.hours.toNat-·) 0 (fun _=>rfl) bL (fun _=>fdK_sc) (fun _=>rfl) ?_
 refine⟨⟨rfl,Nat.zero_le _,⟨rfl,rfl,rfl⟩,rfl⟩,fun h hh=>VC_ok gT mxd ⟨fun h1=>VC_ok gT mxd ?_,fun h1=>VC_ok gT mxd (VC_ok gT mxd ?_)⟩⟩
 all_goals
  replace hh:h≤C.hours.toNat:=hh
 ·have e0:(U h).e=0:=h1.2
  have hlt:(h:Int)<C.hours:=h1.1
  obtain⟨hC,hf⟩:=k1 (iter_e0 rIsl_bad (hU2 h▸e0))
  have hE:∀p∈edg C (act C h C.lines.l.length),p.1<C.buses.l.length∧p.2<C.buses.l.length:=edg_ok hf (act_in C h _)
  have hA:=hAl h
  have hnx:=hU1 h
  obtain⟨V,hV0,hV1,hV2⟩:∃V:Nat→St,U h=V 0∧(∀i,V (i+1)=rIso C h i (V i))∧V C.outs.l.length=U (h+1):=⟨fun i=>iter i (rIso C h) (U h),rfl,fun _=>rfl,hnx.symm⟩
  have hiso:∀i S,rIso C h i S=S.nr (¬Isl.cnt (edg C (act C h C.lines.l.length)) C.buses.l.length<Isl.cnt (rsE (edg C (act C h C.lines.l.length)) (gnT (act C h C.lines.l.length) (C.outs.l.getD i out0).lines.l (act C h C.lines.l.length).length) (edg C (act C h C.lines.l.length)).length) C.buses.l.length) 6 i h 13:=fun _ _=>rfl
  simp only[hiso] at hV1
  have hp:=pairs_c C h hS.l hf
  generalize act C h C.lines.l.length=L at hE hA hV1 hp
  have hEl:(edg C L).length=L.length:=by unfold edg;rw[List.length_map]
  rw[hV0]
  refine⟨[],hp,rfl,rfl,rfl,fun g _=>?_⟩
  refine vloopD (rn [(14,16),(170,208)]) 3 (fun i:Nat=>[(14,.c (iC i))]) (fun i=>fdK C (V i)) (·≤C.outs.l.length) (C.outs.l.length-·) 0 (fun _=>rfl) bL (fun _=>fdK_sc) (fun _=>rfl) ?_
  refine⟨⟨rfl,Nat.zero_le _,⟨rfl,rfl,rfl⟩,rfl⟩,fun i hi=>VC_ok gT mxd ⟨fun h2=>VC_ok gT mxd (vnil 15 3 1 rfl bL ?_),fun h2=>VC_ok gT mxd ?_⟩⟩
  ·have hil:i<C.outs.l.length:=by replace h2:(i:Int)<(C.outs.l.length:Nat):=h2;omega
   have hni:=hV1 i
   refine vloopD (rn [(15,16),(177,197)]) 4 (fun k:Nat=>[(16,.c (iC k)),(15,.c (.s 3 (gnT L (C.outs.l.getD i out0).lines.l k).length))]) (fun k=>fdK C (V i)++[(3,1,(gnT L (C.outs.l.getD i out0).lines.l k).map iC)]) (·≤L.length) (L.length-·) 0 (fun _=>rfl) bL (fun _=>scB.cons rfl (scB.cons rfl (scB.cons rfl (scB.cons (sc_ints _) scB.nil)))) (fun _=>rfl) ?_
   refine⟨⟨rfl,Nat.zero_le _,⟨rfl,rfl,rfl,rfl⟩,⟨rfl,rfl⟩⟩,fun k hk=>VC_ok gT mxd ⟨fun h3=>VC_ok gT mxd ?_,fun h3=>VC_ok gT mxd ?_⟩⟩
   ·have hkl:k<L.length:=by replace h3:(k:Int)<(L.length:Nat):=h3;omega
    refine⟨.seq (sq 99 (List.range 11)),by kernel_rfl,i,⟨rfl,hil⟩,k,⟨rfl,hkl⟩,[],has_c _ _,rfl,rfl,rfl,fun _ _=>⟨fun h4=>VC_ok gT mxd ?_,fun h4=>VC_ok gT mxd ?_⟩⟩
    ·refine⟨apI (by have:=gnT_len L (C.outs.l.getD i out0).lines.l k;omega),men1,(k+1:Nat),wi,k+1,⟨hkl,by omega⟩,rfl,⟨rfl,rfl,rfl,?_⟩,rfl,?_⟩
     ·show _=(_,_,_)
      rw[gnT_next h4,List.map_append]
      rfl
     show _=_
     rw[gnT_next h4,List.length_append]
     rfl
    refine⟨(k+1:Nat),wi,k+1,⟨hkl,by omega⟩,rfl,⟨rfl,rfl,rfl,?_⟩,rfl,?_⟩
    ·show _=(_,_,_)
     rw[gnT_skip h4]
    show _=_
    rw[gnT_skip h4]
   have hkk:k=L.length:=by replace h3:¬(k:Int)<(L.length:Nat):=h3;replace hk:k≤L.length:=hk;omega
   rw[←hkk] at hni
   refine vfrz 15 3 (fun j=>[iC ((gnT L (C.outs.l.getD i out0).lines.l k).getD j 0)]) rfl rfl (fun j hj=>ints_get j hj) (by simp) bL (clo_ints _) bL fun A c _ _=>?_
   refine VC_ok gT mxd ?_
   refine⟨[],sep_c C.buses.l.length ⟨g.1.1,g.1.2,edg C L⟩ ⟨A,c,gnT L (C.outs.l.getD i out0).lines.l k⟩ sb (by show(edg C L).length≤_;omega) hE,rfl,rfl,rfl,fun _ _=>⟨[2],fneed_c _ 6 i h 13,rfl,rfl,rfl,fun _ _=>⟨(i+1:Nat),wi,i+1,⟨hil,by omega⟩,rfl,⟨rfl,rfl,congrArg (fun S:St=>(102,0,[iC S.k,iC S.x,iC S.f,iC S.e])) hni.symm⟩,rfl⟩⟩⟩
  have hii:i=C.outs.l.length:=by replace h2:¬(i:Int)<(C.outs.l.length:Nat):=h2;replace hi:i≤C.outs.l.length:=hi;omega
  rw[←hii] at hV2
  refine⟨(h+1:Nat),wi,h+1,⟨by omega,by omega⟩,rfl,⟨rfl,rfl,congrArg (fun S:St=>(102,0,[iC S.k,iC S.x,iC S.f,iC S.e])) hV2⟩,rfl⟩
 have hx:U h=rstg C 8:=by
  rw[k2,hU2]
  by_cases he:(iter h (rIsl C) S7).e=0
  ·have hn:h=C.hours.toNat:=by
    have:¬(h:Int)<C.hours:=fun hl=>h1 ⟨hl,by rw[hU2];exact he⟩
    omega
   rw[hn]
  exact(iter_bad rIsl_bad he C.hours.toNat hh).symm
 generalize rstg C 8=S8 at hx ⊢
 rw[hx]
 exact⟨oC,by kernel_rfl,⟨⟨⟨(S8.k,S8.x,S8.f),trivial,fin_of ⟨rfl,rfl⟩ rfl trivial⟩,(S8.k,S8.x,S8.f),trivial,fin_of ⟨rfl,rfl⟩ rfl trivial⟩,(S8.k,S8.x,S8.f),trivial,fin_of ⟨rfl,rfl⟩ rfl trivial⟩⟩
end Go.Proofs.YtandhgfmfpmemaaGreat
namespace Go.Proofs.YtandhgfmfpmemaaGreat
open Go.Isl hiding cnt Lst
set_option maxHeartbeats 1000000
open Classical in
noncomputable def ned (p:Prop) (er e:Int):Int:=if e=0∧¬p then er else e
theorem St.nr_e {p:Prop} {k x f er:Int} {S:St}:(S.nr p k x f er).e=ned p er S.e:=by unfold St.nr ned;split<;>rfl
theorem St.need_ee {p:Prop} {f er:Int} {S:St}:(S.need p f er).e=ned p er S.e:=by unfold St.need ned;split<;>rfl
theorem St.at_e {k x:Int} {S:St}:(S.at k x).e=S.e:=by
 unfold St.at
 split
 ·next h=>exact h.symm
 rfl
theorem ned2 {p q:Prop} {er e e':Int} (he:e=e') (h:e'=0→(p↔q)):ned p er e=ned q er e':=by
 subst he
 unfold ned
 by_cases h0:e=0
 ·rw[propext (h h0)]
 rw[if_neg fun hh=>h0 hh.1,if_neg fun hh=>h0 hh.1]
theorem ned_ok {p:Prop} {er e:Int} (h:ned p er e=0) (he:er≠0):e=0∧p:=by
 unfold ned at h
 by_cases h0:e=0
 ·by_cases hp:p
  ·exact⟨h0,hp⟩
  rw[if_pos ⟨h0,hp⟩] at h;exact absurd h he
 rw[if_neg fun hh=>h0 hh.1] at h;exact absurd h h0
theorem btw1 {lo hi z:Int}:Btw lo hi [z]↔lo≤z∧z≤hi:=⟨fun h=>h z (.head _),fun h y hy=>by rw[List.mem_singleton.1 hy];exact h⟩
theorem btwn {n z:Int}:Btw 0 (n-1) [z]↔0≤z∧z<n:=by rw[btw1];omega
theorem frok {f:FracM}:FrOk f↔f.ok:=by unfold FrOk FracM.ok;rw[btw1,btw1];omega
theorem iter_e {f g:Nat→St→St} {n:Nat} (h:∀i,i<n→∀S S':St,S.e=S'.e→(f i S).e=(g i S').e) {S S':St} (hS:S.e=S'.e):(iter n f S).e=(iter n g S').e:=by
 induction n with
 |zero=>exact hS
 |succ n ih=>exact h n oM _ _ (ih fun i hi=>h i oM)
theorem bus_e (C:CaseM) (i:Nat) (S S':St) (h:S.e=S'.e):(rBus C i S).e=(busS C i S').e:=by
 simp only[rBus,busS,St.nm,St.hr,St.name,St.hourly,St.nr_e,St.need_ee,St.at_e,h]
theorem line_e (C:CaseM) (i:Nat) (S S':St) (h:S.e=S'.e):(rLine C i S).e=((lineS C i S').away C (C.lines.l.getD i line0).away 8).e:=by
 simp only[rLine,lineS,St.nm,St.aw,St.name,St.away,St.nr_e,St.need_ee,St.at_e,h,btwn,frok,ne_comm]
theorem store_e (C:CaseM) (i:Nat) (S S':St) (h:S.e=S'.e):(rStore C i S).e=(storeS C i S').e:=by
 simp only[rStore,storeS,St.nm,St.name,St.nr_e,St.need_ee,St.at_e,h,btwn,frok]
theorem tie_e (C:CaseM) (i:Nat) (S S':St) (h:S.e=S'.e):(rTie C i S).e=(tieS C i S').e:=by
 simp only[rTie,tieS,St.nm,St.hr,St.name,St.hourly,St.nr_e,St.need_ee,St.at_e,h,btwn]
theorem btwm {n:Int} {l:List MoveM}:Btw 0 (n-1) (l.map (·.unit))↔∀m∈l,0≤m.unit∧m.unit<n:=by
 constructor
 ·intro h m hm
  have:=h m.unit (List.mem_map.2 ⟨m,hm,rfl⟩)
  omega
 intro h z hz
 obtain⟨m,hm,rfl⟩:=List.mem_map.1 hz
 have:=h m hm
 omega
theorem btwl {n:Int} {l:List Int}:Btw 0 (n-1) l↔∀z∈l,0≤z∧z<n:=by
 constructor
 ·intro h m hm
  have:=h m hm
  omega
 intro h z hz
 have:=h z hz
 omega
theorem btw2 {lo hi a b:Int}:Btw lo hi [a,b]↔(lo≤a∧a≤hi)∧(lo≤b∧b≤hi):=⟨fun h=>⟨h a (.head _),h b (.tail _ (.head _))⟩,fun h y hy=>by
 rcases List.mem_cons.1 hy with rfl|hy
 ·exact h.1
 rw[List.mem_singleton.1 hy];exact h.2⟩
theorem out_e (C:CaseM) (i:Nat) (S S':St) (h:S.e=S'.e):(rOut C i S).e=(outS C i S').e:=by
 simp only[rOut,rOut0,rOut1,outS,outA,outB,St.moves,St.mvA,St.mvB,St.nm,St.name,St.nr_e,St.need_ee,St.at_e,h,btwm,btwl,btw2,mvU]
 refine ned2 (ned2 (ned2 (ned2 (ned2 (ned2 (ned2 (ned2 rfl ?_) ?_) ?_) ?_) ?_) ?_) ?_) ?_<;>intro _<;>first|exact Iff.rfl|omega|exact or_comm
theorem unit_e (C:CaseM) (i:Nat) (S S':St) (h:S.e=S'.e):(rUnit C i S).e=(unitS C i S').e:=by
 have hi:∀(p:Prop) (a b:St) [Decidable p],(if p then a else b).e=if p then a.e else b.e:=fun p a b _=>by split<;>rfl
 simp only[rUnit,unitS,unitD,unitC,unitB,unitA,St.segs,St.sg,St.nm,St.aw,St.name,St.away,hi,St.nr_e,St.need_ee,St.at_e,h,btwn]
 have hs:∀{e:Int},ned ((0≤(C.units.l.getD i unit0).startTime∧(C.units.l.getD i unit0).startTime≤24)) 3 e=0→0≤(C.units.l.getD i unit0).startTime:=fun h=>(ned_ok h dC).2.1
 split
 all_goals
  refine ned2 (ned2 (ned2 (ned2 (ned2 rfl ?_) ?_) ?_) ?_) ?_<;>intro h0<;>first|exact Iff.rfl|omega|skip
 have h1:=hs (ned_ok (ned_ok (ned_ok (ned_ok (ned_ok (ned_ok (ned_ok (ned_ok h0 dC).1 dC).1 dC).1 dC).1 dC).1 dC).1 dC).1 dC).1
 omega
theorem frm_e (C:CaseM) (S S':St) (h:S.e=S'.e):(frm C S).e=(wholeS C S').e:=by
 simp only[frm,frm0,iter,frmK,wholeS,St.hr,St.hourly,St.nr_e,St.need_ee,St.at_e,h]
/-! ### islands -/
open Go.Isl in
theorem prt_lab {C:CaseM} (hf:LinesOk C) {ls:List Int} (hv:∀l∈ls,0≤l∧l<C.lines.l.length) (G:List Int) [DecidablePred fun l:Int=>l∉G]:∀k,k≤ls.length→Lab (edg C ((ls.take k).filter fun l=>decide (l∉G))) C.buses.l.length (fun b=>(prt C G (ls.take k)).1.getD b 0)∧(prt C G (ls.take k)).2=(Isl.cnt (edg C ((ls.take k).filter fun l=>decide (l∉G))) C.buses.l.length:Nat)
 |0,_=>by
  refine⟨⟨fun a b ha hb=>?_⟩,?_⟩
  ·have hg:∀b,b<C.buses.l.length→(idsT C.buses.l.length C.buses.l.length).getD b 0=b:=fun b hb=>by simp[idsT,List.getD,hb]
   show(idsT C.buses.l.length C.buses.l.length).getD a 0=(idsT C.buses.l.length C.buses.l.length).getD b 0↔_
   rw[hg a ha,hg b hb]
   have hn:∀x y,Con [] x y→x=y:=fun x y h=>by
    induction h with
    |refl=>rfl
    |fwd _ e _=>cases e
    |bwd _ e _=>cases e
   constructor
   ·intro h
    have:a=b:=by omega
    subst this
    exact .refl _
   intro h
   rw[hn a b h]
  show((C.buses.l.length:Nat):Int)=(Isl.cnt [] _:Nat)
  rw[cnt_nil]
 |k+1,hk=>by
  obtain⟨ih1,ih2⟩:=prt_lab hf hv G k oM
  have hl:k<ls.length:=by omega
  have hz:=hv (ls.getD k 0) (by rw[gd hl];exact List.getElem_mem hl)
  have hx:=hf (C.lines.l.getD (ls.getD k 0).toNat line0) (by rw[gd oM];exact List.getElem_mem _)
  have hpl:=(prt_len C G (ls.take k)).1
  rw[prt_take hl,List.take_add_one,List.getElem?_eq_getElem hl,List.filter_append,←gd (d:=0) hl]
  generalize ls.getD k 0=z at hz hx ⊢
  generalize prt C G (ls.take k)=p at ih1 ih2 hpl ⊢
  by_cases hG:z∈G
  ·have hp:pstep C G p z=p:=by simp only[pstep];rw[if_pos (.inr hG)]
   rw[hp,show(List.filter (fun l=>decide (l∉G)) (some z).toList)=[] by simp[hG],List.append_nil]
   exact⟨ih1,ih2⟩
  have he:edg C ((ls.take k).filter (fun l=>decide (l∉G))++List.filter (fun l=>decide (l∉G)) (some z).toList)=edg C ((ls.take k).filter fun l=>decide (l∉G))++[edge C z]:=by simp[edg,hG]
  rw[he]
  have hu:(edge C z).1<C.buses.l.length:=by unfold edge;simp only;omega
  have hw:(edge C z).2<C.buses.l.length:=by unfold edge;simp only;omega
  have hj:=ih1.join hu hw
  have hc:=cnt_join (E:=edg C ((ls.take k).filter fun l=>decide (l∉G))) hu hw
  have hiff:=ih1.iff _ _ hu hw
  have hps:pstep C G p z=if p.1.getD (edge C z).1 0=p.1.getD (edge C z).2 0 then p else (relT (p.1.getD (edge C z).1 0) (p.1.getD (edge C z).2 0) p.1 p.1.length,p.2-1):=by
   by_cases h:p.1.getD (edge C z).1 0=p.1.getD (edge C z).2 0
   ·rw[if_pos h]
    exact if_pos (.inl h)
   rw[if_neg h]
   exact if_neg fun hh=>hh.elim h hG
  rw[hps]
  by_cases h1:p.1.getD (edge C z).1 0=p.1.getD (edge C z).2 0
  ·rw[if_pos h1]
   rw[if_pos (hiff.1 h1)] at hc
   refine⟨?_,by rw[ih2,hc,Nat.add_zero]⟩
   have:(fun b=>if p.1.getD b 0=p.1.getD (edge C z).2 0 then p.1.getD (edge C z).1 0 else p.1.getD b 0)=fun b=>p.1.getD b 0:=by
    funext b
    split
    ·next h=>rw[h,h1]
    rfl
   rw[this] at hj
   exact hj
  rw[if_neg h1]
  rw[if_neg fun h=>h1 (hiff.2 h)] at hc
  refine⟨⟨fun a b ha hb=>?_⟩,?_⟩
  ·have hr:∀b,b<C.buses.l.length→(relT (p.1.getD (edge C z).1 0) (p.1.getD (edge C z).2 0) p.1 p.1.length).getD b 0=if p.1.getD b 0=p.1.getD (edge C z).2 0 then p.1.getD (edge C z).1 0 else p.1.getD b 0:=fun b hb=>by
    have hbl:b<p.1.length:=by omega
    unfold relT
    rw[List.take_length,List.drop_length,List.append_nil,gd (by rw[List.length_map];exact hbl),List.getElem_map,←gd (d:=0) hbl]
   show(relT _ _ _ _).getD a 0=(relT _ _ _ _).getD b 0↔_
   rw[hr a ha,hr b hb]
   exact hj.iff a b ha hb
  show p.2-1=_
  rw[show [edge C z]=[((edge C z).1,(edge C z).2)] from rfl,ih2,hc]
  omega
theorem rsE_filter {C:CaseM} {L G gone:List Int} [DecidablePred fun l:Int=>l∉G] (hg:∀k:Nat,k<L.length→((k:Int)∈gone↔L.getD k 0∈G)):∀k,k≤L.length→rsE (edg C L) gone k=edg C ((L.take k).filter fun l=>decide (l∉G))
 |0,_=>rfl
 |k+1,hk=>by
  have hl:k<L.length:=by omega
  have he:(edg C L).getD k (0,0)=edge C (L.getD k 0):=by simp[edg,List.getD,hl]
  rw[rsE,rsE_filter hg k oM,he,List.take_add_one,List.getElem?_eq_getElem hl,List.filter_append,←gd (d:=0) hl]
  have hgk:=hg k hl
  generalize L.getD k 0=z at hgk ⊢
  by_cases h:(k:Int)∈gone
  ·have:=hgk.1 h
   rw[if_pos h,show List.filter (fun l=>decide (l∉G)) (some z).toList=[] by simp[this],List.append_nil]
  have:¬z∈G:=fun hh=>h (hgk.2 hh)
  rw[if_neg h,show List.filter (fun l=>decide (l∉G)) (some z).toList=[z] by simp[this],edg,edg,List.map_append]
  rfl
theorem gnT_mem {L G:List Int}:∀k (j:Int),j∈gnT L G k↔0≤j∧j<k∧L.getD j.toNat 0∈G
 |0,j=>⟨(nomatch ·),fun h=>by omega⟩
 |k+1,j=>by
  by_cases h:L.getD k 0∈G
  ·rw[gnT_next h,List.mem_append,gnT_mem k j,List.mem_singleton]
   constructor
   ·rintro(⟨h1,h2,h3⟩|rfl)
    ·exact⟨h1,by omega,h3⟩
    exact⟨by omega,by omega,by rwa [Int.toNat_natCast]⟩
   rintro⟨h1,h2,h3⟩
   by_cases hj:j=k
   ·exact .inr hj
   exact .inl ⟨h1,by omega,h3⟩
  rw[gnT_skip h,gnT_mem k j]
  constructor
  ·rintro⟨h1,h2,h3⟩
   exact⟨h1,by omega,h3⟩
  rintro⟨h1,h2,h3⟩
  by_cases hj:j=k
  ·rw[hj,Int.toNat_natCast] at h3
   exact absurd h3 h
  exact⟨h1,by omega,h3⟩
open Classical in
theorem iso_iff {C:CaseM} (hf:LinesOk C) {L:List Int} (hv:∀l∈L,0≤l∧l<C.lines.l.length) (G:List Int):(¬Isl.cnt (edg C L) C.buses.l.length<Isl.cnt (rsE (edg C L) (gnT L G L.length) (edg C L).length) C.buses.l.length)↔(prt C G L).2=(prt C [] L).2:=by
 have h1:=(prt_lab hf hv G L.length (Nat.le_refl _)).2
 have h2:=(prt_lab hf hv [] L.length (Nat.le_refl _)).2
 rw[List.take_length] at h1 h2
 have h3:L.filter (fun l=>decide (l∉([]:List Int)))=L:=List.filter_eq_self.2 fun l _=>by simp
 rw[h3] at h2
 have hl:(edg C L).length=L.length:=by unfold edg;rw[List.length_map]
 rw[hl,rsE_filter (G:=G) (fun k hk=>by rw[gnT_mem,Int.toNat_natCast];constructor
                                       ·exact fun h=>h.2.2
                                       exact fun h=>⟨by omega,by omega,h⟩) L.length (Nat.le_refl _),List.take_length,h1,h2]
 have h4:Isl.cnt (edg C L) C.buses.l.length≤Isl.cnt (edg C (L.filter fun l=>decide (l∉G))) C.buses.l.length:=Isl.cnt_le fun p hp=>by
  obtain⟨l,hl,rfl⟩:=List.mem_map.1 hp
  exact List.mem_map.2 ⟨l,(List.mem_filter.1 hl).1,rfl⟩
 omega
theorem isl_e {C:CaseM} (hf:LinesOk C) (h:Nat) (S S':St) (hS:S.e=S'.e):(rIsl C h S).e=(islS C h S').e:=iter_e (fun i _ S S' hS=>by
 simp only[rIso,islO,St.nr_e,St.need_ee,St.at_e,hS,iso_iff hf (act_in C h _)]) hS
theorem stg7_e (C:CaseM):(rstg C 7).e=(stg C 7).e:=iter_e (fun i hi S S' h=>by
 rcases (show i=0∨i=1∨i=2∨i=3∨i=4∨i=5∨i=6 by omega) with rfl|rfl|rfl|rfl|rfl|rfl|rfl
 ·exact frm_e C S S' h
 ·exact iter_e (fun i _ S S' h=>bus_e C i S S' h) h
 ·exact iter_e (fun i _ S S' h=>line_e C i S S' h) h
 ·exact iter_e (fun i _ S S' h=>unit_e C i S S' h) h
 ·exact iter_e (fun i _ S S' h=>store_e C i S S' h) h
 ·exact iter_e (fun i _ S S' h=>tie_e C i S S' h) h
 exact iter_e (fun i _ S S' h=>out_e C i S S' h) h) rfl
theorem chk_ref (C:CaseM):(rstg C 8).e=chkE C:=by
 have h7:=stg7_e C
 show(rstgF C 7 (rstg C 7)).e=(stgF C 7 (stg C 7)).e
 by_cases he:(rstg C 7).e=0
 ·have hf:=rlines_ok (rstg_ok (i:=3) he dC)
  exact iter_e (fun i _ S S' h=>isl_e hf i S S' h) h7
 rw[rstgF_bad 7 _ he,stgF_bad 7 _ (h7▸he),h7]
end Go.Proofs.YtandhgfmfpmemaaGreat
namespace Go.Vy
open Go.Vg Go.RowKit
section
variable {nb:Nat} {X:SS→Prop} {s:SS}
theorem gvnil (hX:Tgt nb X) (t:Nat) (T es:Nat) (ht:getS s.sl t=some (.c (.v (.slice none 0 0)))) (hes:0<es) (hgl:s.gl=[]) (h:snocK s.bl (T,es,[]) fun bl'=>X ⟨(t,.c (.s (cnt s.bl 0) 0))::s.sl,[],bl',s.fl⟩):X s:=by
 have h':=snocK_ok h
 rw[cnt_len] at h'
 refine hX.one (fun ρ0 w0 ρ f w hD=>?_) h'
 have hp:∀b,((none,0):Option Nat×Nat).1=some b→w.heap.size≤b:=fun b hb=>by cases hb
 have kp:Kp ρ s.bl.length w (grow ρ s.bl.length (none,0)) (s.bl.length+1) w:=Kp.new hp (Ext.refl w)
 have hn:(s.bl++[(T,es,[])]).length=s.bl.length+1:=by simp
 refine⟨grow ρ s.bl.length (none,0),⟨hD.m.new hp (Ext.refl w) ?_,⟨fun t' d ht'=>?_,fun t' gs d ht'=>by cases ht'⟩,hD.l⟩⟩
 ·unfold Bq
  rw[grow_new]
  exact⟨rfl,rfl,hes⟩
 show Hd _ (s.bl++[(T,es,[])]).length w d (f t')
 rw[hn]
 simp only[getS] at ht'
 cases hb:Nat.beq t t' with
 |true=>
  rw[hb] at ht'
  injection ht' with ht'
  subst ht'
  have:=Nat.eq_of_beq_eq_true hb
  subst this
  have he:=(hD.f.sl t _ ht).inv_c.inv_v
  refine .c ⟨Nat.lt_succ_self _,?_⟩
  rw[grow_new,he]
  rfl
 |false=>rw[hb] at ht';exact(hD.f.sl t' d ht').kp kp
theorem rnil {P:Program} {N:Nat} {cd:Code} {K:Kt} (t:Nat) {A:Option Addr} {n c e:Nat} {get:Nat→List CV} (ht:getS s.sl t=some (.c (.r A n c e get))) (h:(A.isNone=true→n=0)→Sd P nb N cd K s):Sd P nb N cd K s:=fun ρ0 w0 ρ f w Q hL hD=>by
 have:=(hD.f.sl t _ ht).inv_c.inv_r.2
 refine h ?_ ρ0 w0 ρ f w Q hL hD
 cases this with
 |nil=>exact fun _=>rfl
 |r b o n c e get V hc hm=>exact fun h=>by cases h
theorem fin_ownF {cl:List Bool} {d:DV} {o:OutF} (hd:EqD d o.d) (hb:preK s.bl o.bl) (hf:preF s.fl o.fl) (hnb:nb≤o.bl.length) (hsc:scB o.bl.length o.bl) (hsd:scD o.bl.length o.d=true) (hcl:ClB cl o.bl):FinF cl nb s d o:=fun ρ0 w0 ρ w v hD0 hF0 hv0=>by
 have hs0:∀t d',getS [(0,d)] t=some d'→Hd ρ s.bl.length w d' v:=fun t d' ht=>by
  simp only[getS] at ht
  cases hb:Nat.beq 0 t with
  |true=>rw[hb] at ht;injection ht with ht;subst ht;exact hv0
  |false=>rw[hb] at ht;cases ht
 have hq:Dn ρ0 w0 nb ⟨[(0,d)],[],s.bl,s.fl⟩ ρ (fun _=>v) w:=⟨hD0,⟨hs0,fun t gs d ht=>by cases ht⟩,hF0⟩
 obtain⟨_,ρ',_,h⟩:=gfin (s:=⟨[(0,d)],[],s.bl,s.fl⟩) (M:=fun _=>true) (base:=[]) (chg:=fun _:Unit=>[(0,o.d)]) (bls:=fun _=>o.bl) (fls:=fun _=>o.fl) (C:=fun _=>True) (fun t d ht=>by cases ht) () trivial (show([],[])=([],[]) from rfl) hb hf (show AllC [(0,d)] [(0,o.d)] from hd) hnb hsc (by simpa using hsd) _ _ _ _ _ hq
 exact⟨ρ',h.m,h.f.sl 0 _ rfl,hcl,h.l⟩
end
theorem frset {F:Fam} {l:List CV} {k0:Nat} {c0 c1:CV} (hk:l[k0]? =some c0) (hf:FrC F c0 c1):∀(k:Nat) (c c':CV),l[k]? =some c→(l.set k0 c1)[k]? =some c'→c=c'∨FrC F c c':=fun k c c' h1 h2=>by
 rcases set_case h2 with ⟨rfl,rfl,_⟩|⟨_,h3⟩
 ·rw[hk] at h1
  injection h1 with h1
  subst h1
  exact .inr hf
 rw[h1] at h3
 injection h3 with h3
 exact .inl h3
end Go.Vy
namespace Go.Proofs.YtandhgfmfpmemaaGreat
open Go.Vg _root_.Go.Proofs.Tryz
open Go.Vm hiding sg sg_t sg_f sg_abs sg_neg sg_add sg_mul sg_self sg_canon sg_pos sg_zero sg_eq_zero sg_lt
open Go.Vy hiding val
set_option maxHeartbeats 1000000
theorem flR_split {P P':Nat→List CV} {k:Nat} (hne:∀j,j≠k→P' j=P j):∀{n:Nat},k<n→∃post,flatR n P=flatR k P++(P k++post)∧flatR n P'=flatR k P++(P' k++post)
 |0,h=>absurd h (Nat.not_lt_zero _)
 |n+1,h=>by
  by_cases hk:k<n
  ·obtain⟨post,h1,h2⟩:=flR_split hne hk
   refine⟨post++P n,?_,?_⟩
   ·rw[flatR_succ,h1];simp
   rw[flatR_succ,h2,hne n oM];simp
  obtain rfl:k=n:=by omega
  refine⟨[],?_,?_⟩
  ·rw[flatR_succ,List.append_nil]
  rw[flatR_succ,List.append_nil,flR_congr (P:=P') (Q:=P) fun j hj=>hne j oM]
theorem splC_mid {pre mid post v:List CV} {o:Nat} (h:o+v.length≤mid.length):splC (pre++(mid++post)) (pre.length+o) v=pre++(splC mid o v++post):=by
 unfold splC
 rw[List.take_append,List.take_of_length_le (Nat.le_add_right _ _),Nat.add_sub_cancel_left,List.take_append_of_le_length oM,Nat.add_assoc,List.drop_append,List.drop_of_length_le (Nat.le_add_right _ _),Nat.add_sub_cancel_left,List.drop_append_of_le_length oM]
 simp
theorem flR_sub {P:Nat→List CV} {e k o n:Nat} {v:List CV} (hl:∀j,(P j).length=e) (hk:k<n) (ho:o+v.length≤e):splC (flatR n P) (k*e+o) v=flatR n fun j=>if j=k then splC (P k) o v else P j:=by
 obtain⟨post,h1,h2⟩:=flR_split (P:=P) (P':=fun j=>if j=k then splC (P k) o v else P j) (k:=k) (fun j hj=>if_neg hj) hk
 have hlen:(flatR k P).length=k*e:=flR_len fun j _=>hl j
 rw[h1,h2,if_pos rfl,←hlen,splC_mid (by rw[hl k];exact ho)]
theorem flR_ix {P:Nat→List CV} {e:Nat} (he:0<e):∀{n:Nat},(∀j,(P j).length=e)→∀{k:Nat} {c:CV},(flatR n P)[k]? =some c→k/e<n∧(P (k/e))[k%e]? =some c
 |0,_,k,c,h=>by simp[flatR] at h
 |n+1,hl,k,c,h=>by
  have hlen:(flatR n P).length=n*e:=flR_len fun j _=>hl j
  rw[flatR_succ] at h
  by_cases hk:k<n*e
  ·rw[List.getElem?_append_left oM] at h
   obtain⟨h1,h2⟩:=flR_ix he hl h
   exact⟨by omega,h2⟩
  rw[List.getElem?_append_right oM,hlen] at h
  have h3:=get_lt h
  rw[hl n] at h3
  have h4:k/e=n:=by
   rw[show k=(k-n*e)+n*e by omega,Nat.add_mul_div_right _ _ he,Nat.div_eq_of_lt h3,Nat.zero_add]
  have h5:k%e=k-n*e:=by
   have:=Nat.div_add_mod k e
   rw[h4,Nat.mul_comm] at this
   omega
  rw[h4,h5]
  exact⟨by omega,h⟩
theorem flat_one {f:Nat→CV}:∀{n:Nat},flatR n (fun j=>[f j])=(List.range n).map f
 |0=>rfl
 |n+1=>by rw[flatR_succ,flat_one,List.range_succ,List.map_append];rfl
theorem flat_ints (l:List Int):flatR l.length (fun j=>[iC (l.getD j 0)])=l.map iC:=by
 rw[flat_one]
 refine List.ext_getElem (by simp) fun i h1 h2=>?_
 simp at h1
 simp[h1]
theorem clo_men' {l:List CV} {i:Nat} (h:∀c∈l,cloC c=true):∀c∈l,menC i c=false:=fun c hc=>clo_men (h c hc)
theorem all_clo {l:List CV} (h:l.all cloC=true):∀c∈l,cloC c=true:=fun c hc=>List.all_eq_true.1 h c hc
theorem clB1 {T es:Nat} {l:List CV} (h:∀c∈l,cloC c=true):ClB [true] [(T,es,l)]:=ClB.one (List.all_eq_true.2 h)
theorem clBn {cl:List Bool}:ClB cl []:=fun i T es l h=>by cases h
theorem frzC {P:Program} {q:FuncId} {cl:List Bool} {al:List DV} {σ:Type} {n T es:σ→Nat} {l:σ→List CV} {C:σ→Prop} (h:Ctr P q cl al [] (fun g:σ=>⟨.c (.s 0 (n g)),[(T g,es g,l g)],C g⟩)) (get:σ→Nat→List CV) (hp:∀g,C g→(∀j,j<n g→get g j=((l g).drop (j*es g)).take (es g))∧n g*es g=(l g).length∧0<es g∧∀c∈l g,cloC c=true):
 Ctr P q cl al [] (fun g:σ×Option Addr×Nat=>⟨.c (.r g.2.1 (n g.1) g.2.2 (es g.1) (get g.1)),[],C g.1⟩):=by
 refine CtrF.gt h fun g hC _=>?_
 obtain⟨h1,h2,h3,h4⟩:=hp g hC
 refine gfrz tGt 0 0 (get g) rfl rfl h1 h2 h3 h4 (Nat.le_refl _) fun A c _ _=>?_
 exact gfin (M:=fun _=>true) (base:=[]) (chg:=fun g':σ×Option Addr×Nat=>[(0,.c (.r g'.2.1 (n g'.1) g'.2.2 (es g'.1) (get g'.1)))]) (bls:=fun _=>[]) (fls:=fun _=>[]) (fun t d ht=>by cases ht) (g,A,c) ⟨hC,clBn⟩ rfl trivial trivial rfl (Nat.le_refl _) (fun i T es l hi=>by cases hi) rfl
theorem sc_clo {l:List CV} {n:Nat} (h:∀c∈l,cloC c=true):l.all (scC n)=true:=List.all_eq_true.2 fun c hc=>clo_sc (h c hc)
abbrev fClI:FuncId:=42
theorem eClI:Ent Tryz.prog fClI:=Ent.of func42 rfl kR
theorem bClI:Tryz.prog.funcs[fClI]? =some Tryz.f42:=func42
theorem clI_o {A:Option Addr} {n c:Nat} {get:Nat→List CV} (hl:∀j,(get j).length=1) (hc:∀j,∀c∈get j,cloC c=true) (hn:n≤4000000):Ctr Tryz.prog fClI [true] [.c (.r A n c 1 get)] [] (fun _:Unit=>⟨.c (.s 0 n),[(3,1,flatR n get)],True⟩):=by
 have hcl:=fl_clo (P:=get) (fun j c hc'=>hc j c hc') n
 refine CtrF.gt (R:=fun b:Bool=>(bif b then (⟨.c (.v (.slice none 0 0)),[],n=0⟩:Out) else ⟨.c (.s 0 n),[(3,1,flatR n get)],True⟩).F) (ctr_of gT eClI bClI rfl rfl rfl bL clBn (rnil 0 rfl fun hA=>VC_ok gT mxd ⟨fun h=>VC_ok gT mxd ⟨true,hA h,fin_of rfl rfl trivial⟩,fun h=>VC_ok gT mxd ⟨⟨fun j _=>hl j,rfl,by simp only[maxLen];omega,show(0+n)*8≤140737488355328 by omega,fun c hc'=>clo_men (hcl c hc')⟩,false,trivial,fin_own ?_ ?_ (Nat.zero_le _) (scB.cons (sc_clo hcl) scB.nil) rfl (clB1 hcl)⟩⟩)) fun b hb _=>?_
 ·exact Nat.zero_add n
 ·rfl
 match b,hb with
 |true,hb=>
  obtain rfl:n=0:=hb
  exact gvnil tGt 0 3 1 rfl bL rfl (gfin (M:=fun _=>true) (base:=[]) (chg:=fun _:Unit=>[(0,.c (.s 0 0))]) (bls:=fun _=>[(3,1,flatR 0 get)]) (fls:=fun _=>[]) (fun t d ht=>by cases ht) () ⟨trivial,clB1 (all_clo rfl)⟩ rfl rfl trivial rfl (Nat.zero_le _) (scB.cons rfl scB.nil) rfl)
 |false,_=>exact gfin (M:=fun _=>true) (base:=[]) (chg:=fun _:Unit=>[(0,.c (.s 0 n))]) (bls:=fun _=>[(3,1,flatR n get)]) (fls:=fun _=>[]) (fun t d ht=>by cases ht) () ⟨trivial,clB1 hcl⟩ rfl rfl trivial rfl (Nat.zero_le _) (scB.cons (sc_clo hcl) scB.nil) rfl
theorem clI_r {A:Option Addr} {n c:Nat} {get:Nat→List CV} (hl:∀j,(get j).length=1) (hc:∀j,∀c∈get j,cloC c=true) (hn:n≤4000000):Ctr Tryz.prog fClI [true] [.c (.r A n c 1 get)] [] (fun g:Unit×Option Addr×Nat=>⟨.c (.r g.2.1 n g.2.2 1 get),[],True⟩):=
 frzC (clI_o hl hc hn) (fun _=>get) fun _ _=>⟨fun j hj=>(flR_at (fun j _=>hl j) hj).symm,(flR_len fun j _=>hl j).symm,bL,fl_clo (fun j c hc'=>hc j c hc') n⟩
abbrev fClB:FuncId:=43
theorem eClB:Ent Tryz.prog fClB:=Ent.of func43 rfl kR
theorem bClB:Tryz.prog.funcs[fClB]? =some Tryz.f43:=func43
theorem clB_o {A:Option Addr} {n c:Nat} {get:Nat→List CV} (hl:∀j,(get j).length=3) (hc:∀j,∀c∈get j,cloC c=true) (hn:n≤4000000):Ctr Tryz.prog fClB [true] [.c (.r A n c 3 get)] [] (fun _:Unit=>⟨.c (.s 0 n),[(59,3,flatR n get)],True⟩):=by
 have hcl:=fl_clo (P:=get) (fun j c hc'=>hc j c hc') n
 refine CtrF.gt (R:=fun b:Bool=>(bif b then (⟨.c (.v (.slice none 0 0)),[],n=0⟩:Out) else ⟨.c (.s 0 n),[(59,3,flatR n get)],True⟩).F) (ctr_of gT eClB bClB rfl rfl rfl bL clBn (rnil 0 rfl fun hA=>VC_ok gT mxd ⟨fun h=>VC_ok gT mxd ⟨true,hA h,fin_of rfl rfl trivial⟩,fun h=>VC_ok gT mxd ⟨⟨fun j _=>hl j,rfl,by simp only[maxLen];omega,show(0+n)*48≤140737488355328 by omega,fun c hc'=>clo_men (hcl c hc')⟩,false,trivial,fin_own ?_ ?_ (Nat.zero_le _) (scB.cons (sc_clo hcl) scB.nil) rfl (clB1 hcl)⟩⟩)) fun b hb _=>?_
 ·exact Nat.zero_add n
 ·rfl
 match b,hb with
 |true,hb=>
  obtain rfl:n=0:=hb
  exact gvnil tGt 0 59 3 rfl bL rfl (gfin (M:=fun _=>true) (base:=[]) (chg:=fun _:Unit=>[(0,.c (.s 0 0))]) (bls:=fun _=>[(59,3,flatR 0 get)]) (fls:=fun _=>[]) (fun t d ht=>by cases ht) () ⟨trivial,clB1 (all_clo rfl)⟩ rfl rfl trivial rfl (Nat.zero_le _) (scB.cons rfl scB.nil) rfl)
 |false,_=>exact gfin (M:=fun _=>true) (base:=[]) (chg:=fun _:Unit=>[(0,.c (.s 0 n))]) (bls:=fun _=>[(59,3,flatR n get)]) (fls:=fun _=>[]) (fun t d ht=>by cases ht) () ⟨trivial,clB1 hcl⟩ rfl rfl trivial rfl (Nat.zero_le _) (scB.cons (sc_clo hcl) scB.nil) rfl
abbrev fClL:FuncId:=44
theorem eClL:Ent Tryz.prog fClL:=Ent.of func44 rfl kR
theorem bClL:Tryz.prog.funcs[fClL]? =some Tryz.f44:=func44
theorem clL_o {A:Option Addr} {n c:Nat} {get:Nat→List CV} (hl:∀j,(get j).length=12) (hc:∀j,∀c∈get j,cloC c=true) (hn:n≤4000000):Ctr Tryz.prog fClL [true] [.c (.r A n c 12 get)] [] (fun _:Unit=>⟨.c (.s 0 n),[(71,12,flatR n get)],True⟩):=by
 have hcl:=fl_clo (P:=get) (fun j c hc'=>hc j c hc') n
 refine CtrF.gt (R:=fun b:Bool=>(bif b then (⟨.c (.v (.slice none 0 0)),[],n=0⟩:Out) else ⟨.c (.s 0 n),[(71,12,flatR n get)],True⟩).F) (ctr_of gT eClL bClL rfl rfl rfl bL clBn (rnil 0 rfl fun hA=>VC_ok gT mxd ⟨fun h=>VC_ok gT mxd ⟨true,hA h,fin_of rfl rfl trivial⟩,fun h=>VC_ok gT mxd ⟨⟨fun j _=>hl j,rfl,by simp only[maxLen];omega,show(0+n)*120≤140737488355328 by omega,fun c hc'=>clo_men (hcl c hc')⟩,false,trivial,fin_own ?_ ?_ (Nat.zero_le _) (scB.cons (sc_clo hcl) scB.nil) rfl (clB1 hcl)⟩⟩)) fun b hb _=>?_
 ·exact Nat.zero_add n
 ·rfl
 match b,hb with
 |true,hb=>
  obtain rfl:n=0:=hb
  exact gvnil tGt 0 71 12 rfl bL rfl (gfin (M:=fun _=>true) (base:=[]) (chg:=fun _:Unit=>[(0,.c (.s 0 0))]) (bls:=fun _=>[(71,12,flatR 0 get)]) (fls:=fun _=>[]) (fun t d ht=>by cases ht) () ⟨trivial,clB1 (all_clo rfl)⟩ rfl rfl trivial rfl (Nat.zero_le _) (scB.cons rfl scB.nil) rfl)
 |false,_=>exact gfin (M:=fun _=>true) (base:=[]) (chg:=fun _:Unit=>[(0,.c (.s 0 n))]) (bls:=fun _=>[(71,12,flatR n get)]) (fls:=fun _=>[]) (fun t d ht=>by cases ht) () ⟨trivial,clB1 hcl⟩ rfl rfl trivial rfl (Nat.zero_le _) (scB.cons (sc_clo hcl) scB.nil) rfl
abbrev fClU:FuncId:=45
theorem eClU:Ent Tryz.prog fClU:=Ent.of func45 rfl kR
theorem bClU:Tryz.prog.funcs[fClU]? =some Tryz.f45:=func45
theorem clU_o {A:Option Addr} {n c:Nat} {get:Nat→List CV} (hl:∀j,(get j).length=22) (hc:∀j,∀c∈get j,cloC c=true) (hn:n≤4000000):Ctr Tryz.prog fClU [true] [.c (.r A n c 22 get)] [] (fun _:Unit=>⟨.c (.s 0 n),[(42,22,flatR n get)],True⟩):=by
 have hcl:=fl_clo (P:=get) (fun j c hc'=>hc j c hc') n
 refine CtrF.gt (R:=fun b:Bool=>(bif b then (⟨.c (.v (.slice none 0 0)),[],n=0⟩:Out) else ⟨.c (.s 0 n),[(42,22,flatR n get)],True⟩).F) (ctr_of gT eClU bClU rfl rfl rfl bL clBn (rnil 0 rfl fun hA=>VC_ok gT mxd ⟨fun h=>VC_ok gT mxd ⟨true,hA h,fin_of rfl rfl trivial⟩,fun h=>VC_ok gT mxd ⟨⟨fun j _=>hl j,rfl,by simp only[maxLen];omega,show(0+n)*216≤140737488355328 by omega,fun c hc'=>clo_men (hcl c hc')⟩,false,trivial,fin_own ?_ ?_ (Nat.zero_le _) (scB.cons (sc_clo hcl) scB.nil) rfl (clB1 hcl)⟩⟩)) fun b hb _=>?_
 ·exact Nat.zero_add n
 ·rfl
 match b,hb with
 |true,hb=>
  obtain rfl:n=0:=hb
  exact gvnil tGt 0 42 22 rfl bL rfl (gfin (M:=fun _=>true) (base:=[]) (chg:=fun _:Unit=>[(0,.c (.s 0 0))]) (bls:=fun _=>[(42,22,flatR 0 get)]) (fls:=fun _=>[]) (fun t d ht=>by cases ht) () ⟨trivial,clB1 (all_clo rfl)⟩ rfl rfl trivial rfl (Nat.zero_le _) (scB.cons rfl scB.nil) rfl)
 |false,_=>exact gfin (M:=fun _=>true) (base:=[]) (chg:=fun _:Unit=>[(0,.c (.s 0 n))]) (bls:=fun _=>[(42,22,flatR n get)]) (fls:=fun _=>[]) (fun t d ht=>by cases ht) () ⟨trivial,clB1 hcl⟩ rfl rfl trivial rfl (Nat.zero_le _) (scB.cons (sc_clo hcl) scB.nil) rfl
abbrev fClS:FuncId:=46
theorem eClS:Ent Tryz.prog fClS:=Ent.of func46 rfl kR
theorem bClS:Tryz.prog.funcs[fClS]? =some Tryz.f46:=func46
theorem clS_o {A:Option Addr} {n c:Nat} {get:Nat→List CV} (hl:∀j,(get j).length=2) (hc:∀j,∀c∈get j,cloC c=true) (hn:n≤4000000):Ctr Tryz.prog fClS [true] [.c (.r A n c 2 get)] [] (fun _:Unit=>⟨.c (.s 0 n),[(93,2,flatR n get)],True⟩):=by
 have hcl:=fl_clo (P:=get) (fun j c hc'=>hc j c hc') n
 refine CtrF.gt (R:=fun b:Bool=>(bif b then (⟨.c (.v (.slice none 0 0)),[],n=0⟩:Out) else ⟨.c (.s 0 n),[(93,2,flatR n get)],True⟩).F) (ctr_of gT eClS bClS rfl rfl rfl bL clBn (rnil 0 rfl fun hA=>VC_ok gT mxd ⟨fun h=>VC_ok gT mxd ⟨true,hA h,fin_of rfl rfl trivial⟩,fun h=>VC_ok gT mxd ⟨⟨fun j _=>hl j,rfl,by simp only[maxLen];omega,show(0+n)*16≤140737488355328 by omega,fun c hc'=>clo_men (hcl c hc')⟩,false,trivial,fin_own ?_ ?_ (Nat.zero_le _) (scB.cons (sc_clo hcl) scB.nil) rfl (clB1 hcl)⟩⟩)) fun b hb _=>?_
 ·exact Nat.zero_add n
 ·rfl
 match b,hb with
 |true,hb=>
  obtain rfl:n=0:=hb
  exact gvnil tGt 0 93 2 rfl bL rfl (gfin (M:=fun _=>true) (base:=[]) (chg:=fun _:Unit=>[(0,.c (.s 0 0))]) (bls:=fun _=>[(93,2,flatR 0 get)]) (fls:=fun _=>[]) (fun t d ht=>by cases ht) () ⟨trivial,clB1 (all_clo rfl)⟩ rfl rfl trivial rfl (Nat.zero_le _) (scB.cons rfl scB.nil) rfl)
 |false,_=>exact gfin (M:=fun _=>true) (base:=[]) (chg:=fun _:Unit=>[(0,.c (.s 0 n))]) (bls:=fun _=>[(93,2,flatR n get)]) (fls:=fun _=>[]) (fun t d ht=>by cases ht) () ⟨trivial,clB1 hcl⟩ rfl rfl trivial rfl (Nat.zero_le _) (scB.cons (sc_clo hcl) scB.nil) rfl
theorem clS_r {A:Option Addr} {n c:Nat} {get:Nat→List CV} (hl:∀j,(get j).length=2) (hc:∀j,∀c∈get j,cloC c=true) (hn:n≤4000000):Ctr Tryz.prog fClS [true] [.c (.r A n c 2 get)] [] (fun g:Unit×Option Addr×Nat=>⟨.c (.r g.2.1 n g.2.2 2 get),[],True⟩):=
 frzC (clS_o hl hc hn) (fun _=>get) fun _ _=>⟨fun j hj=>(flR_at (fun j _=>hl j) hj).symm,(flR_len fun j _=>hl j).symm,bL,fl_clo (fun j c hc'=>hc j c hc') n⟩
abbrev fClT:FuncId:=47
theorem eClT:Ent Tryz.prog fClT:=Ent.of func47 rfl kR
theorem bClT:Tryz.prog.funcs[fClT]? =some Tryz.f47:=func47
theorem clT_o {A:Option Addr} {n c:Nat} {get:Nat→List CV} (hl:∀j,(get j).length=9) (hc:∀j,∀c∈get j,cloC c=true) (hn:n≤4000000):Ctr Tryz.prog fClT [true] [.c (.r A n c 9 get)] [] (fun _:Unit=>⟨.c (.s 0 n),[(75,9,flatR n get)],True⟩):=by
 have hcl:=fl_clo (P:=get) (fun j c hc'=>hc j c hc') n
 refine CtrF.gt (R:=fun b:Bool=>(bif b then (⟨.c (.v (.slice none 0 0)),[],n=0⟩:Out) else ⟨.c (.s 0 n),[(75,9,flatR n get)],True⟩).F) (ctr_of gT eClT bClT rfl rfl rfl bL clBn (rnil 0 rfl fun hA=>VC_ok gT mxd ⟨fun h=>VC_ok gT mxd ⟨true,hA h,fin_of rfl rfl trivial⟩,fun h=>VC_ok gT mxd ⟨⟨fun j _=>hl j,rfl,by simp only[maxLen];omega,show(0+n)*80≤140737488355328 by omega,fun c hc'=>clo_men (hcl c hc')⟩,false,trivial,fin_own ?_ ?_ (Nat.zero_le _) (scB.cons (sc_clo hcl) scB.nil) rfl (clB1 hcl)⟩⟩)) fun b hb _=>?_
 ·exact Nat.zero_add n
 ·rfl
 match b,hb with
 |true,hb=>
  obtain rfl:n=0:=hb
  exact gvnil tGt 0 75 9 rfl bL rfl (gfin (M:=fun _=>true) (base:=[]) (chg:=fun _:Unit=>[(0,.c (.s 0 0))]) (bls:=fun _=>[(75,9,flatR 0 get)]) (fls:=fun _=>[]) (fun t d ht=>by cases ht) () ⟨trivial,clB1 (all_clo rfl)⟩ rfl rfl trivial rfl (Nat.zero_le _) (scB.cons rfl scB.nil) rfl)
 |false,_=>exact gfin (M:=fun _=>true) (base:=[]) (chg:=fun _:Unit=>[(0,.c (.s 0 n))]) (bls:=fun _=>[(75,9,flatR n get)]) (fls:=fun _=>[]) (fun t d ht=>by cases ht) () ⟨trivial,clB1 hcl⟩ rfl rfl trivial rfl (Nat.zero_le _) (scB.cons (sc_clo hcl) scB.nil) rfl
theorem clT_r {A:Option Addr} {n c:Nat} {get:Nat→List CV} (hl:∀j,(get j).length=9) (hc:∀j,∀c∈get j,cloC c=true) (hn:n≤4000000):Ctr Tryz.prog fClT [true] [.c (.r A n c 9 get)] [] (fun g:Unit×Option Addr×Nat=>⟨.c (.r g.2.1 n g.2.2 9 get),[],True⟩):=
 frzC (clT_o hl hc hn) (fun _=>get) fun _ _=>⟨fun j hj=>(flR_at (fun j _=>hl j) hj).symm,(flR_len fun j _=>hl j).symm,bL,fl_clo (fun j c hc'=>hc j c hc') n⟩
abbrev fClE:FuncId:=48
theorem eClE:Ent Tryz.prog fClE:=Ent.of func48 rfl kR
theorem bClE:Tryz.prog.funcs[fClE]? =some Tryz.f48:=func48
theorem clE_o {A:Option Addr} {n c:Nat} {get:Nat→List CV} (hl:∀j,(get j).length=5) (hc:∀j,∀c∈get j,cloC c=true) (hn:n≤4000000):Ctr Tryz.prog fClE [true] [.c (.r A n c 5 get)] [] (fun _:Unit=>⟨.c (.s 0 n),[(77,5,flatR n get)],True⟩):=by
 have hcl:=fl_clo (P:=get) (fun j c hc'=>hc j c hc') n
 refine CtrF.gt (R:=fun b:Bool=>(bif b then (⟨.c (.v (.slice none 0 0)),[],n=0⟩:Out) else ⟨.c (.s 0 n),[(77,5,flatR n get)],True⟩).F) (ctr_of gT eClE bClE rfl rfl rfl bL clBn (rnil 0 rfl fun hA=>VC_ok gT mxd ⟨fun h=>VC_ok gT mxd ⟨true,hA h,fin_of rfl rfl trivial⟩,fun h=>VC_ok gT mxd ⟨⟨fun j _=>hl j,rfl,by simp only[maxLen];omega,show(0+n)*96≤140737488355328 by omega,fun c hc'=>clo_men (hcl c hc')⟩,false,trivial,fin_own ?_ ?_ (Nat.zero_le _) (scB.cons (sc_clo hcl) scB.nil) rfl (clB1 hcl)⟩⟩)) fun b hb _=>?_
 ·exact Nat.zero_add n
 ·rfl
 match b,hb with
 |true,hb=>
  obtain rfl:n=0:=hb
  exact gvnil tGt 0 77 5 rfl bL rfl (gfin (M:=fun _=>true) (base:=[]) (chg:=fun _:Unit=>[(0,.c (.s 0 0))]) (bls:=fun _=>[(77,5,flatR 0 get)]) (fls:=fun _=>[]) (fun t d ht=>by cases ht) () ⟨trivial,clB1 (all_clo rfl)⟩ rfl rfl trivial rfl (Nat.zero_le _) (scB.cons rfl scB.nil) rfl)
 |false,_=>exact gfin (M:=fun _=>true) (base:=[]) (chg:=fun _:Unit=>[(0,.c (.s 0 n))]) (bls:=fun _=>[(77,5,flatR n get)]) (fls:=fun _=>[]) (fun t d ht=>by cases ht) () ⟨trivial,clB1 hcl⟩ rfl rfl trivial rfl (Nat.zero_le _) (scB.cons (sc_clo hcl) scB.nil) rfl
abbrev fClO:FuncId:=49
theorem eClO:Ent Tryz.prog fClO:=Ent.of func49 rfl kR
theorem bClO:Tryz.prog.funcs[fClO]? =some Tryz.f49:=func49
theorem clO_o {A:Option Addr} {n c:Nat} {get:Nat→List CV} (hl:∀j,(get j).length=4) (hc:∀j,∀c∈get j,cloC c=true) (hn:n≤4000000):Ctr Tryz.prog fClO [true] [.c (.r A n c 4 get)] [] (fun _:Unit=>⟨.c (.s 0 n),[(47,4,flatR n get)],True⟩):=by
 have hcl:=fl_clo (P:=get) (fun j c hc'=>hc j c hc') n
 refine CtrF.gt (R:=fun b:Bool=>(bif b then (⟨.c (.v (.slice none 0 0)),[],n=0⟩:Out) else ⟨.c (.s 0 n),[(47,4,flatR n get)],True⟩).F) (ctr_of gT eClO bClO rfl rfl rfl bL clBn (rnil 0 rfl fun hA=>VC_ok gT mxd ⟨fun h=>VC_ok gT mxd ⟨true,hA h,fin_of rfl rfl trivial⟩,fun h=>VC_ok gT mxd ⟨⟨fun j _=>hl j,rfl,by simp only[maxLen];omega,show(0+n)*72≤140737488355328 by omega,fun c hc'=>clo_men (hcl c hc')⟩,false,trivial,fin_own ?_ ?_ (Nat.zero_le _) (scB.cons (sc_clo hcl) scB.nil) rfl (clB1 hcl)⟩⟩)) fun b hb _=>?_
 ·exact Nat.zero_add n
 ·rfl
 match b,hb with
 |true,hb=>
  obtain rfl:n=0:=hb
  exact gvnil tGt 0 47 4 rfl bL rfl (gfin (M:=fun _=>true) (base:=[]) (chg:=fun _:Unit=>[(0,.c (.s 0 0))]) (bls:=fun _=>[(47,4,flatR 0 get)]) (fls:=fun _=>[]) (fun t d ht=>by cases ht) () ⟨trivial,clB1 (all_clo rfl)⟩ rfl rfl trivial rfl (Nat.zero_le _) (scB.cons rfl scB.nil) rfl)
 |false,_=>exact gfin (M:=fun _=>true) (base:=[]) (chg:=fun _:Unit=>[(0,.c (.s 0 n))]) (bls:=fun _=>[(47,4,flatR n get)]) (fls:=fun _=>[]) (fun t d ht=>by cases ht) () ⟨trivial,clB1 hcl⟩ rfl rfl trivial rfl (Nat.zero_le _) (scB.cons (sc_clo hcl) scB.nil) rfl
abbrev fClM:FuncId:=50
theorem eClM:Ent Tryz.prog fClM:=Ent.of func50 rfl kR
theorem bClM:Tryz.prog.funcs[fClM]? =some Tryz.f50:=func50
theorem clM_o {A:Option Addr} {n c:Nat} {get:Nat→List CV} (hl:∀j,(get j).length=3) (hc:∀j,∀c∈get j,cloC c=true) (hn:n≤4000000):Ctr Tryz.prog fClM [true] [.c (.r A n c 3 get)] [] (fun _:Unit=>⟨.c (.s 0 n),[(82,3,flatR n get)],True⟩):=by
 have hcl:=fl_clo (P:=get) (fun j c hc'=>hc j c hc') n
 refine CtrF.gt (R:=fun b:Bool=>(bif b then (⟨.c (.v (.slice none 0 0)),[],n=0⟩:Out) else ⟨.c (.s 0 n),[(82,3,flatR n get)],True⟩).F) (ctr_of gT eClM bClM rfl rfl rfl bL clBn (rnil 0 rfl fun hA=>VC_ok gT mxd ⟨fun h=>VC_ok gT mxd ⟨true,hA h,fin_of rfl rfl trivial⟩,fun h=>VC_ok gT mxd ⟨⟨fun j _=>hl j,rfl,by simp only[maxLen];omega,show(0+n)*24≤140737488355328 by omega,fun c hc'=>clo_men (hcl c hc')⟩,false,trivial,fin_own ?_ ?_ (Nat.zero_le _) (scB.cons (sc_clo hcl) scB.nil) rfl (clB1 hcl)⟩⟩)) fun b hb _=>?_
 ·exact Nat.zero_add n
 ·rfl
 match b,hb with
 |true,hb=>
  obtain rfl:n=0:=hb
  exact gvnil tGt 0 82 3 rfl bL rfl (gfin (M:=fun _=>true) (base:=[]) (chg:=fun _:Unit=>[(0,.c (.s 0 0))]) (bls:=fun _=>[(82,3,flatR 0 get)]) (fls:=fun _=>[]) (fun t d ht=>by cases ht) () ⟨trivial,clB1 (all_clo rfl)⟩ rfl rfl trivial rfl (Nat.zero_le _) (scB.cons rfl scB.nil) rfl)
 |false,_=>exact gfin (M:=fun _=>true) (base:=[]) (chg:=fun _:Unit=>[(0,.c (.s 0 n))]) (bls:=fun _=>[(82,3,flatR n get)]) (fls:=fun _=>[]) (fun t d ht=>by cases ht) () ⟨trivial,clB1 hcl⟩ rfl rfl trivial rfl (Nat.zero_le _) (scB.cons (sc_clo hcl) scB.nil) rfl
theorem clM_r {A:Option Addr} {n c:Nat} {get:Nat→List CV} (hl:∀j,(get j).length=3) (hc:∀j,∀c∈get j,cloC c=true) (hn:n≤4000000):Ctr Tryz.prog fClM [true] [.c (.r A n c 3 get)] [] (fun g:Unit×Option Addr×Nat=>⟨.c (.r g.2.1 n g.2.2 3 get),[],True⟩):=
 frzC (clM_o hl hc hn) (fun _=>get) fun _ _=>⟨fun j hj=>(flR_at (fun j _=>hl j) hj).symm,(flR_len fun j _=>hl j).symm,bL,fl_clo (fun j c hc'=>hc j c hc') n⟩
end Go.Proofs.YtandhgfmfpmemaaGreat
namespace Go.Proofs.YtandhgfmfpmemaaGreat
open Go.Vg _root_.Go.Proofs.Tryz
open Go.Vm hiding sg sg_t sg_f sg_abs sg_neg sg_add sg_mul sg_self sg_canon sg_pos sg_zero sg_eq_zero sg_lt
open Go.Vy hiding val
set_option maxHeartbeats 1000000
structure Bd (C:CaseM):Prop where
 r:C.reserve.l.length≤2000000
 b:C.buses.l.length≤2000000
 bd:∀j,(C.buses.l.getD j bus0).demand.l.length≤2000000
 l:C.lines.l.length≤2000000
 la:∀j,(C.lines.l.getD j line0).away.l.length≤2000000
 u:C.units.l.length≤2000000
 us:∀j,(C.units.l.getD j unit0).segs.l.length≤2000000
 ua:∀j,(C.units.l.getD j unit0).away.l.length≤2000000
 s:C.stores.l.length≤2000000
 t:C.ties.l.length≤2000000
 ti:∀j,(C.ties.l.getD j tie0).imp.l.length≤2000000
 te:∀j,(C.ties.l.getD j tie0).exp.l.length≤2000000
 tp:∀j,(C.ties.l.getD j tie0).price.l.length≤2000000
 o:C.outs.l.length≤2000000
 ol:∀j,(C.outs.l.getD j out0).lines.l.length≤2000000
 om:∀j,(C.outs.l.getD j out0).moves.l.length≤2000000
abbrev gB (C:CaseM) (j:Nat):BusM:=C.buses.l.getD j bus0
abbrev gL (C:CaseM) (j:Nat):LineM:=C.lines.l.getD j line0
abbrev gU (C:CaseM) (j:Nat):UnitM:=C.units.l.getD j unit0
abbrev gE (C:CaseM) (j:Nat):TieM:=C.ties.l.getD j tie0
abbrev gO (C:CaseM) (j:Nat):OutM:=C.outs.l.getD j out0
def dem (C:CaseM) (j:Nat):List CV:=flatR (gB C j).demand.l.length fun k=>[iC ((gB C j).demand.l.getD k 0)]
def demT (C:CaseM) (i j:Nat):List CV:=if j<i then dem C j else []
def busT (C:CaseM) (A:Nat→Option Nat) (cap:Nat→Nat) (i j:Nat):List CV:=if j<i then [sC (gB C j).name,.h (A j) (gB C j).demand.l.length (cap j),iC (gB C j).shed] else (gB C j).C
abbrev famD (C:CaseM) (A:Nat→Option Nat) (cap:Nat→Nat) (i:Nat):Fam:=⟨3,1,C.buses.l.length,A,cap,demT C i⟩
theorem busT_len {C:CaseM} {A:Nat→Option Nat} {cap:Nat→Nat} {i:Nat} (j:Nat):(busT C A cap i j).length=3:=by unfold busT;split<;>rfl
theorem busT_clo {C:CaseM} {A:Nat→Option Nat} {cap:Nat→Nat} {i:Nat} (j:Nat):∀c∈busT C A cap i j,cloC c=true:=by unfold busT;split<;>exact all_clo rfl
theorem dem_clo (C:CaseM) (j:Nat):∀c∈dem C j,cloC c=true:=fl_clo (fun _=>all_clo rfl) _
theorem int_clo (l:List Int):∀j,∀c∈(fun j=>[iC (l.getD j 0)]) j,cloC c=true:=fun _=>all_clo rfl
theorem flR_map {P:Nat→List CV} {φ:CV→CV}:∀{n:Nat},(flatR n P).map φ=flatR n fun j=>(P j).map φ
 |0=>rfl
 |n+1=>by rw[flatR_succ,flatR_succ,List.map_append,flR_map]
theorem map_id' {φ:CV→CV} {l:List CV} (h:∀c,cloC c=true→φ c=c) (hl:∀c∈l,cloC c=true):l.map φ=l:=by
 induction l with
 |nil=>rfl
 |cons c l ih=>rw[List.map_cons,ih fun c hc=>hl c (.tail _ hc),h c (hl c (.head _))]
theorem sink_clo {i:Nat} {A:Option Nat} {a:Nat} (c:CV) (h:cloC c=true):sinkC i A a c=c:=by cases c<;>first|rfl|cases h
def zC:List CV:=[iC 0,.v (.slice none 0 0),.v (.slice none 0 0),.v (.slice none 0 0),.v (.slice none 0 0),.v (.slice none 0 0),.v (.slice none 0 0),.v (.slice none 0 0)]
abbrev fClone:FuncId:=18
theorem eClone:Ent Tryz.prog fClone:=Ent.of func18 rfl kR
theorem bClone:Tryz.prog.funcs[fClone]? =some Tryz.f18:=func18
abbrev blC (C:CaseM) (d:List CV) (B:List CV):BL:=[(30,0,C.C []),(30,0,zC),(30,0,d),(3,1,flatR C.reserve.l.length fun j=>[iC (C.reserve.l.getD j 0)]),(59,3,B)]
abbrev dC1 (C:CaseM):List CV:=[iC C.hours,.s 3 C.reserve.l.length,.s 4 C.buses.l.length,C.lines.R 12 LineM.C line0,C.units.R 22 UnitM.C unit0,C.stores.R 9 StoreM.C store0,C.ties.R 5 TieM.C tie0,C.outs.R 4 OutM.C out0]
abbrev resF (C:CaseM):List CV:=flatR C.reserve.l.length fun j=>[iC (C.reserve.l.getD j 0)]
theorem resF_clo (C:CaseM):∀c∈resF C,cloC c=true:=fl_clo (int_clo _) _
theorem busF_clo {C:CaseM} {A:Nat→Option Nat} {cap:Nat→Nat} {i n:Nat}:∀c∈flatR n (busT C A cap i),cloC c=true:=fl_clo (fun j=>busT_clo j) _
theorem demT_next {C:CaseM} {i:Nat}:upd (demT C i) i (dem C i)=demT C (i+1):=by
 funext j
 by_cases h:j=i
 ·subst h;rw[upd_eq,demT,if_pos oM]
 rw[upd_ne h]
 unfold demT
 by_cases h2:j<i
 ·rw[if_pos h2,if_pos oM]
 rw[if_neg h2,if_neg oM]
theorem fam_next {C:CaseM} {A:Nat→Option Nat} {cap:Nat→Nat} {i:Nat} {Aa:Option Nat} {aa:Nat}:(⟨3,1,C.buses.l.length,upd A i Aa,upd cap i aa,upd (demT C i) i (dem C i)⟩:Fam)=famD C (upd A i Aa) (upd cap i aa) (i+1):=by rw[demT_next]
theorem bus_next {C:CaseM} {A:Nat→Option Nat} {cap:Nat→Nat} {i k:Nat} {Aa:Option Nat} {aa:Nat}:(flatR C.buses.l.length fun j=>if j=i then splC (busT C A cap i i) 1 [.s k (gB C i).demand.l.length] else busT C A cap i j).map (sinkC k Aa aa)=flatR C.buses.l.length (busT C (upd A i Aa) (upd cap i aa) (i+1)):=by
 rw[flR_map]
 refine flR_congr fun j hj=>?_
 by_cases h:j=i
 ·subst h
  rw[if_pos rfl]
  unfold busT
  rw[if_neg oM,if_pos oM,upd_eq,upd_eq]
  show [sC _,sinkC k Aa aa (.s k _),iC _]=_
  simp only[sinkC,Nat.beq_refl,cond_true]
 rw[if_neg h,map_id' sink_clo (busT_clo j)]
 unfold busT
 by_cases h2:j<i
 ·rw[if_pos h2,if_pos oM,upd_ne h,upd_ne h]
 rw[if_neg h2,if_neg oM]
end Go.Proofs.YtandhgfmfpmemaaGreat
