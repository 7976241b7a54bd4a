/- ExecutiveCurtailed, second form: for arguments of bulk at most 1048576 the law returns true and the arguments read as before; no other condition. Part 7 of 7: Lk Ll La Lm Oa Zk. -/
import Derived.Test.YtandhgfmfpmemaaGreatRows
import Derived.Deep.SlicePairs
import Derived.WalkKit
import Derived.ProofKit
import Derived.OpenShut
import Derived.JoinedCond
import Derived.ShutString
import Derived.ChangeOld
import Derived.Below
import Derived.Test.YtandhgfmfpmemaaGreatP6
set_option linter.unusedVariables false
set_option linter.unusedSimpArgs false
namespace Go.Proofs.YtandhgfmfpmemaaGreat
open Go.Vg _root_.Go.Proofs.Tryz
open Go.Vm hiding sg sg_t sg_f sg_abs sg_neg sg_add sg_mul sg_self sg_canon sg_pos sg_zero sg_eq_zero sg_lt
open Go.Vy hiding val
set_option maxHeartbeats 4000000
structure CR where
 h:Nat
 R:Sl Int
 B:Sl BusM
 U:List UnitM
 S:List StoreM
 T:List TieM
abbrev lkC (w:CR) (l:CV) (u s t:Nat) (o:CV):List CV:=[iC w.h,intsR w.R,w.B.R 3 BusM.C bus0,l,.s u w.U.length,.s s w.S.length,.s t w.T.length,o]
abbrev lkA (w:CR) (L:Sl LineM) (u s t:Nat) (O:Sl OutM):List CV:=lkC w (L.R 12 LineM.C line0) u s t (O.R 4 OutM.C out0)
abbrev lkL (w:CR):BL:=[(42,22,fl UnitM.C unit0 w.U),(75,9,fl StoreM.C store0 w.S),(77,5,fl TieM.C tie0 w.T)]
theorem lkL_sc {n:Nat} {w:CR}:scB n (lkL w):=scB.cons (sc_clo (fl_cl cU)) (scB.cons (sc_clo (fl_cl cS)) (scB.cons (sc_clo (fl_cl cT)) scB.nil))
theorem lkL_cl {w:CR}:ClB [true,true,true] (lkL w):=ClB.cons (fun _=>List.all_eq_true.2 (fl_cl cU)) (ClB.cons (fun _=>List.all_eq_true.2 (fl_cl cS)) (ClB.cons (fun _=>List.all_eq_true.2 (fl_cl cT)) ClB.nil))
abbrev lkB (w:CR) (L2:List LineM) (O:Sl OutM) (O2:List OutM):BL:=[(42,22,fl UnitM.C unit0 w.U),(75,9,fl StoreM.C store0 w.S),(77,5,fl TieM.C tie0 w.T),(30,0,lkC w (.s 5 L2.length) 0 1 2 (O.R 4 OutM.C out0)),(30,0,zCs),(71,12,fl LineM.C line0 L2),(47,4,fl OutM.C out0 O2)]
abbrev lkB2 (w:CR) (L2:List LineM) (O:Sl OutM) (O2:List OutM) (x:OutM) (LS:List Int):BL:=[(42,22,fl UnitM.C unit0 w.U),(75,9,fl StoreM.C store0 w.S),(77,5,fl TieM.C tie0 w.T),(30,0,lkC w (.s 5 L2.length) 0 1 2 (O.R 4 OutM.C out0)),(30,0,zCs),(71,12,fl LineM.C line0 L2),(47,4,fl OutM.C out0 O2),(47,0,x.C),(3,1,LS.map iC)]
theorem lkB_sc {w:CR} {L2:List LineM} {O:Sl OutM} {O2:List OutM}:scB 7 (lkB w L2 O O2):=scB.cons (sc_clo (fl_cl cU)) (scB.cons (sc_clo (fl_cl cS)) (scB.cons (sc_clo (fl_cl cT)) (scB.cons rfl (scB.cons rfl (scB.cons (sc_clo (fl_cl cL)) (scB.cons (sc_clo (fl_cl cO)) scB.nil))))))
theorem lkB2_sc {w:CR} {L2:List LineM} {O:Sl OutM} {O2:List OutM} {x:OutM} {LS:List Int}:scB 9 (lkB2 w L2 O O2 x LS):=scB.cons (sc_clo (fl_cl cU)) (scB.cons (sc_clo (fl_cl cS)) (scB.cons (sc_clo (fl_cl cT)) (scB.cons rfl (scB.cons rfl (scB.cons (sc_clo (fl_cl cL)) (scB.cons (sc_clo (fl_cl cO)) (scB.cons rfl (scB.cons (sc_clo (clo_ints _)) scB.nil))))))))
abbrev cutAt {α:Type} (l:List α) (i:Nat):List α:=l.take i++l.drop (i+1)
theorem fl_cutAt {α:Type} {f:α→List CV} {d:α} {l:List α} {i:Nat} (hi:i<l.length):flatR i (fun j=>f (l.getD j d))++flatR (l.length-(i+1)) (fun j=>f (l.getD (j+(i+1)) d))=fl f d (cutAt l i):=by
 rw[fl_append]
 unfold fl
 congr 1
 ·rw[List.length_take,Nat.min_eq_left oM]
  exact flR_congr fun j hj=>by simp[List.getD,List.getElem?_take,hj]
 rw[List.length_drop]
 exact flR_congr fun j hj=>by simp[List.getD,Nat.add_comm]
theorem cutAt_len {α:Type} {l:List α} {i:Nat} (hi:i<l.length):(cutAt l i).length+1=l.length:=by simp;omega
theorem mem_cutAt {α:Type} {l:List α} {i:Nat} {x:α} (h:x∈cutAt l i):x∈l:=by
 rcases List.mem_append.1 h with h|h
 ·exact List.mem_of_mem_take h
 exact List.mem_of_mem_drop h
theorem apTwo {e b i m k:Nat} {P Q:Nat→List CV} (hP:∀j,(P j).length=e) (hQ:∀j,(Q j).length=e) (cP:∀j,∀c∈P j,cloC c=true) (cQ:∀j,∀c∈Q j,cloC c=true) (hi:i≤1000) (hm:m≤1000) (hb:b≤1000):(∀j,j<m→(Q j).length=e)∧(0+i)*e=([]++flatR i P).length∧0+i+m≤maxLen∧(0+i+m)*b≤140737488355328∧∀c∈([]++flatR i P)++flatR m Q,menC k c=false:=
 ⟨fun j _=>hQ j,by rw[Nat.zero_add];exact(flR_len fun j _=>hP j).symm,by simp only[maxLen];omega,by
  have:(0+i+m)*b≤2000*1000:=Nat.mul_le_mul oM hb
  omega,fun c hc=>by
  rcases List.mem_append.1 hc with hc|hc
  ·exact clo_men (fl_clo cP i c hc)
  exact clo_men (fl_clo cQ m c hc)⟩
theorem decI {p:Prop}:p↔(@decide p (Classical.propDecidable p)=true):=(@decide_eq_true_iff p (Classical.propDecidable p)).symm
abbrev fLineless:FuncId:=15
theorem eLineless:Ent Tryz.prog fLineless:=Ent.of func15 rfl kR
theorem bLineless:Tryz.prog.funcs[fLineless]? =some Tryz.f15:=func15
def oN1:Ord:=.treeX [] [2001,2,2003,2004,2006,7,2008,2009,2010] (trS [0,5,11,2012,1013])
theorem lineless_c (w:CR) (L:Sl LineM) (O:Sl OutM) (i:Nat) (hi:i<L.l.length) (hL:L.l.length≤10) (hO:O.l.length≤10) (ho:∀x∈O.l,x.lines.l.length≤2∧x.moves.l.length≤10):Ctr Tryz.prog fLineless [true,true,true] [.a (lkA w L 0 1 2 O),.c (iC i)] (lkL w) (fun g:Sl LineM×Sl OutM=>⟨.a (lkA w g.1 0 1 2 g.2),lkL w,(g.1.l.length+1=L.l.length∧∀x∈g.1.l,x∈L.l)∧g.2.l.length≤O.l.length∧∀x∈g.2.l,x.lines.l.length≤2∧x.moves.l.length≤10⟩):=by
 refine ctr_of gT eLineless bLineless rfl rfl rfl bL lkL_cl (Sd.sq (VC_ok gT mxd (Sd.sq (VC_ok gT mxd ⟨oN1,by kernel_rfl,i,⟨rfl,by show i≤L.l.length;omega⟩,((i+1:Nat):Int),wi,i+1,⟨rfl,hi⟩,rfl,ap0 (get:=fun j=>LineM.C (L.l.getD j line0)) (fun _=>rfl) (fun _=>cL _) (show i≤2000000 by omega) bL,clo_men' (fl_cl cU),clo_men' (fl_cl cS),clo_men' (fl_cl cT),rfl,apTwo (P:=fun j=>LineM.C (L.l.getD j line0)) (Q:=fun j=>LineM.C (L.l.getD (j+(i+1)) line0)) (fun _=>rfl) (fun _=>rfl) (fun _=>cL _) (fun _=>cL _) oM (show L.l.length-(i+1)≤1000 by omega) bL,clo_men' (fl_cl cU),clo_men' (fl_cl cS),clo_men' (fl_cl cT),rfl,Sd.sq (VC_ok gT mxd (Sd.sq (VC_ok gT mxd (gvnilS 5 47 4 rfl bL rfl ?_))))⟩))))
 have hcl:=cutAt_len hi
 refine vloopG (rn [(5,10),(24,84)]) (fun(g:Nat×List OutM)=>[(6,.c (iC g.1)),(5,.c (.s 6 g.2.length))]) (fun(g:Nat×List OutM)=>lkB w (cutAt L.l i) O g.2) (fun _=>[]) (fun g=>g.1≤O.l.length∧g.2.length≤g.1∧∀x∈g.2,x.lines.l.length≤2∧x.moves.l.length≤10) (fun g=>O.l.length-g.1) fun hM=>⟨gfin hM (chg:=fun(g:Nat×List OutM)=>[(6,.c (iC g.1)),(5,.c (.s 6 g.2.length))]) (bls:=fun(g:Nat×List OutM)=>lkB w (cutAt L.l i) O g.2) (fls:=fun _=>[]) (0,[]) ⟨Nat.zero_le _,Nat.le_refl 0,(fun _ h=>nomatch h)⟩ rfl ⟨rfl,rfl,rfl,(by show(_,_,_)=(_,_,[_,_,_,CV.s 5 (cutAt L.l i).length,_,_,_,_]);rw[show(cutAt L.l i).length=0+i+(L.l.length-(i+1)) by omega];rfl),rfl,(by show(_,_,_++_)=(_,_,_);rw[←fl_cutAt (f:=LineM.C) (d:=line0) hi];rfl),rfl⟩ trivial ⟨rfl,rfl⟩ bL lkB_sc rfl,fun⟨q,O2⟩ hI=>VC_ok gT mxd ⟨fun h6=>VC_ok gT mxd ?_,fun h6=>VC_ok gT mxd ?_⟩⟩
 all_goals obtain⟨hq,hq2,ho2⟩:=(show q≤O.l.length∧O2.length≤q∧∀x∈O2,x.lines.l.length≤2∧x.moves.l.length≤10 from hI)
 ·have hql:q<O.l.length:=by replace h6:(q:Int)<(O.l.length:Nat):=h6;omega
  have hx:=ho (O.l.getD q out0) (gD_mem hql)
  refine⟨q,⟨rfl,hql⟩,gvnilS 9 3 1 rfl bL rfl (vloopD (rn [(8,10),(36,76)]) 9 (fun g:Nat×List Int×Bool=>[(10,.c (iC g.1)),(9,.c (.s 8 g.2.1.length)),(8,.c (.b (g.2.2=true) inferInstance))]) (fun g=>lkB2 w (cutAt L.l i) O O2 (O.l.getD q out0) g.2.1) (fun g=>g.1≤(O.l.getD q out0).lines.l.length∧g.2.1.length≤g.1) (fun g=>(O.l.getD q out0).lines.l.length-g.1) (0,[],false) (fun _=>rfl) bL (fun _=>lkB2_sc) (fun _=>rfl) ⟨⟨rfl,⟨Nat.zero_le _,Nat.le_refl 0⟩,⟨rfl,rfl,rfl,rfl,rfl,rfl,rfl,rfl,rfl⟩,⟨rfl,rfl,Iff.rfl⟩⟩,fun⟨k,LS,b⟩ hK=>VC_ok gT mxd ⟨fun h7=>VC_ok gT mxd ?_,fun h7=>VC_ok gT mxd ?_⟩⟩)⟩
  all_goals obtain⟨hk,hm⟩:=(show k≤(O.l.getD q out0).lines.l.length∧LS.length≤k from hK)
  ·have hkl:k<(O.l.getD q out0).lines.l.length:=by replace h7:(k:Int)<((O.l.getD q out0).lines.l.length:Nat):=h7;omega
   exact⟨k,fun _=>⟨rfl,hkl⟩,k,⟨rfl,hkl⟩,⟨fun _=>VC_ok gT mxd ⟨k,⟨rfl,hkl⟩,IntKind.i64.wrap ((O.l.getD q out0).lines.l.getD k 0-1),rfl,apI2 (x:=LS) oM,clo_men' (fl_cl cU),clo_men' (fl_cl cS),clo_men' (fl_cl cT),clo_men' (fl_cl cL),clo_men' (fl_cl cO),men1,(k+1:Nat),wi,(k+1,LS++[IntKind.i64.wrap ((O.l.getD q out0).lines.l.getD k 0-1)],@decide (b=true∨(O.l.getD q out0).lines.l.getD k 0=i) (Classical.propDecidable _)),⟨⟨hkl,by show(LS++[_]).length≤k+1;simp;omega⟩,show(O.l.getD q out0).lines.l.length-(k+1)<(O.l.getD q out0).lines.l.length-k by omega⟩,rfl,⟨rfl,rfl,rfl,rfl,rfl,rfl,rfl,rfl,(by show(_,_,_)=(_,_,(LS++[_]).map iC);rw[List.map_append];rfl)⟩,⟨rfl,(by show _=(LS++[_]).length;simp),decI⟩⟩,fun _=>VC_ok gT mxd ⟨k,⟨rfl,hkl⟩,apI2 (x:=LS) oM,clo_men' (fl_cl cU),clo_men' (fl_cl cS),clo_men' (fl_cl cT),clo_men' (fl_cl cL),clo_men' (fl_cl cO),men1,(k+1:Nat),wi,(k+1,LS++[(O.l.getD q out0).lines.l.getD k 0],@decide (b=true∨(O.l.getD q out0).lines.l.getD k 0=i) (Classical.propDecidable _)),⟨⟨hkl,by show(LS++[_]).length≤k+1;simp;omega⟩,show(O.l.getD q out0).lines.l.length-(k+1)<(O.l.getD q out0).lines.l.length-k by omega⟩,rfl,⟨rfl,rfl,rfl,rfl,rfl,rfl,rfl,rfl,(by show(_,_,_)=(_,_,(LS++[_]).map iC);rw[List.map_append];rfl)⟩,⟨rfl,(by show _=(LS++[_]).length;simp),decI⟩⟩⟩⟩
  refine vfrz 9 8 (fun j=>[iC (LS.getD j 0)]) rfl rfl (fun j hj=>ints_at LS j hj) (by simp) bL (clo_ints _) bL fun A c _ _=>⟨clo_men' (fl_cl cU),clo_men' (fl_cl cS),clo_men' (fl_cl cT),clo_men' (fl_cl cL),clo_men' (fl_cl cO),VC_ok gT mxd ⟨fun _=>VC_ok gT mxd ⟨apF (L:=O2) (d:=out0) (fun _=>rfl) cO rfl (clo_men' (cO ⟨(O.l.getD q out0).name,⟨A,c,LS⟩,(O.l.getD q out0).corr,(O.l.getD q out0).moves⟩)) oM bL,clo_men' (fl_cl cU),clo_men' (fl_cl cS),clo_men' (fl_cl cT),clo_men' (fl_cl cL),men0,clo_men' (cO ⟨(O.l.getD q out0).name,⟨A,c,LS⟩,(O.l.getD q out0).corr,(O.l.getD q out0).moves⟩),(q+1:Nat),wi,gfin hM (chg:=fun(g:Nat×List OutM)=>[(6,.c (iC g.1)),(5,.c (.s 6 g.2.length))]) (bls:=fun(g:Nat×List OutM)=>lkB w (cutAt L.l i) O g.2) (fls:=fun _=>[]) (q+1,O2++[⟨(O.l.getD q out0).name,⟨A,c,LS⟩,(O.l.getD q out0).corr,(O.l.getD q out0).moves⟩]) ⟨⟨hql,by show(O2++[_]).length≤q+1;simp;omega,mem_snoc ho2 ⟨show LS.length≤2 by omega,hx.2⟩⟩,show O.l.length-(q+1)<O.l.length-q by omega⟩ rfl ⟨rfl,rfl,rfl,rfl,rfl,rfl,(by show(_,_,_)=(_,_,_);rw[←fl_snoc];rfl)⟩ trivial ⟨rfl,(by show _=(O2++[_]).length;simp)⟩ bL lkB_sc rfl⟩,fun _=>VC_ok gT mxd ⟨(q+1:Nat),wi,gfin hM (chg:=fun(g:Nat×List OutM)=>[(6,.c (iC g.1)),(5,.c (.s 6 g.2.length))]) (bls:=fun(g:Nat×List OutM)=>lkB w (cutAt L.l i) O g.2) (fls:=fun _=>[]) (q+1,O2) ⟨⟨hql,by show O2.length≤q+1;omega,ho2⟩,show O.l.length-(q+1)<O.l.length-q by omega⟩ rfl ⟨rfl,rfl,rfl,rfl,rfl,rfl,rfl⟩ trivial ⟨rfl,rfl⟩ bL lkB_sc rfl⟩⟩⟩
 have hqe:O2.length≤O.l.length:=by omega
 refine vfrz 5 6 (fun j=>OutM.C (O2.getD j out0)) rfl rfl (fun j hj=>fl_at (f:=OutM.C) (d:=out0) (L:=O2) (e:=4) (fun _=>rfl) j hj) (fl_len (f:=OutM.C) (d:=out0) (L:=O2) (e:=4) fun _=>rfl).symm bL (fl_cl cO) bL fun A c _ _=>⟨clo_men' (fl_cl cU),clo_men' (fl_cl cS),clo_men' (fl_cl cT),clo_men' (fl_cl cL),gsink tSd 5 rfl bL (fl_cl cL) bL rfl fun A2 a2=>⟨_,map_id' sink_clo (fl_cl cU),_,map_id' sink_clo (fl_cl cS),_,map_id' sink_clo (fl_cl cT),_,rfl,gfree tSd 3 0 (lkC w (.r (A2.map fun b=>⟨b,0,none⟩) (cutAt L.l i).length a2 12 fun j=>LineM.C ((cutAt L.l i).getD j line0)) 0 1 2 (O.R 4 OutM.C out0)) rfl rfl rfl rfl (frset (k0:=3) rfl (frcF fun _=>rfl)) ?_⟩⟩
 exact VC_ok gT mxd ⟨(⟨A2.map fun b=>⟨b,0,none⟩,a2,cutAt L.l i⟩,⟨A,c,O2⟩),⟨⟨hcl,fun x hx=>mem_cutAt hx⟩,hqe,ho2⟩,fin_own rfl ⟨rfl,rfl,rfl⟩ bL lkL_sc rfl lkL_cl⟩
end Go.Proofs.YtandhgfmfpmemaaGreat
namespace Go.Proofs.YtandhgfmfpmemaaGreat
open Go.Vg _root_.Go.Proofs.Tryz
open Go.Vm hiding sg sg_t sg_f sg_abs sg_neg sg_add sg_mul sg_self sg_canon sg_pos sg_zero sg_eq_zero sg_lt
open Go.Vy hiding val
set_option maxHeartbeats 4000000
theorem leCutR {α:Type} {f:α→List CV} {d:α} {e:Nat} {s:Sl α} {h:Nat} (hh:h≤s.l.length):LeC (.r s.A h s.c e fun j=>f (s.l.getD j d)) ((⟨s.A,s.c,s.l.take h⟩:Sl α).R e f d):=fun ρ n w x hx=>by
 obtain⟨A,c,l⟩:=s
 replace hh:h≤l.length:=hh
 have hl:(l.take h).length=h:=by rw[List.length_take];omega
 show Rc (Zf ρ n w) w (.r A (l.take h).length c e fun j=>f ((l.take h).getD j d)) x
 rw[hl]
 have hg:∀j,j<h→f ((l.take h).getD j d)=f (l.getD j d):=fun j hj=>by simp[List.getD,List.getElem?_take,hj]
 replace hx:Rc (Zf ρ n w) w (.r A h c e fun j=>f (l.getD j d)) x:=hx
 clear hh hl
 cases hx with
 |nil A c e get hm=>exact Rc.nil _ _ _ _ hm
 |r b o n c e get V hc hm hZ hcell hlen hel=>exact Rc.r b o _ _ e _ V hc hm hZ hcell (fun j hj=>by rw[hlen j hj,hg j hj]) fun j hj i c' u h1 h2=>hel j hj i c' u (by rw[hg j hj] at h1;exact h1) h2
def UnitM.sb (x:UnitM) (z:Int):UnitM:=⟨x.name,z,x.min,x.max,x.segs,x.noLoad,x.rampUp,x.rampDown,x.startRamp,x.stopRamp,x.upTime,x.downTime,x.startTime,x.hotCost,x.coldCost,x.hotHours,x.reserve,x.reservePrice,x.away,x.state,x.hours,x.output⟩
def StoreM.sb (x:StoreM) (z:Int):StoreM:=⟨x.name,z,x.cap,x.init,x.fin,x.charge,x.dis,x.eff⟩
def TieM.sb (x:TieM) (z:Int):TieM:=⟨x.name,z,x.imp,x.exp,x.price⟩
theorem unitSb (x:UnitM) (z:Int):(x.sb z).C=x.C.set 1 (iC z):=rfl
theorem storeSb (x:StoreM) (z:Int):(x.sb z).C=x.C.set 1 (iC z):=rfl
theorem tieSb (x:TieM) (z:Int):(x.sb z).C=x.C.set 1 (iC z):=rfl
structure IwR (w:CR) (L:Sl LineM) (O:Sl OutM):Prop where
 r:w.R.l.length≤3
 b:∀x∈w.B.l,x.demand.l.length≤3
 bn:0<w.B.l.length∧w.B.l.length≤4
 l:∀x∈L.l,x.away.l.length≤1
 ln:L.l.length≤10
 u:∀x∈w.U,x.away.l.length≤1∧x.segs.l.length≤2
 un:w.U.length≤10
 sn:w.S.length≤10
 t:∀x∈w.T,x.imp.l.length≤3∧x.exp.l.length≤3∧x.price.l.length≤3
 tn:w.T.length≤10
 o:∀x∈O.l,x.lines.l.length≤2∧x.moves.l.length≤10
 on:O.l.length≤10
abbrev buB (w:CR) (L:Sl LineM) (O:Sl OutM):BL:=[(42,22,fl UnitM.C unit0 w.U),(75,9,fl StoreM.C store0 w.S),(77,5,fl TieM.C tie0 w.T),(30,0,lkA w L 0 1 2 O),(30,0,zCs)]
theorem buB_sc {w:CR} {L:Sl LineM} {O:Sl OutM}:scB 5 (buB w L O):=scB.cons (sc_clo (fl_cl cU)) (scB.cons (sc_clo (fl_cl cS)) (scB.cons (sc_clo (fl_cl cT)) (scB.cons rfl (scB.cons rfl scB.nil))))
abbrev fBusless:FuncId:=14
theorem eBusless:Ent Tryz.prog fBusless:=Ent.of func14 rfl kR
theorem bBusless:Tryz.prog.funcs[fBusless]? =some Tryz.f14:=func14
theorem busless_c (w:CR) (L:Sl LineM) (O:Sl OutM) (hI:IwR w L O) (h2:1<w.B.l.length):Ctr Tryz.prog fBusless [true,true,true] [.a (lkA w L 0 1 2 O)] (lkL w) (fun g:CR×Sl LineM×Sl OutM=>⟨.a (lkA g.1 g.2.1 0 1 2 g.2.2),lkL g.1,IwR g.1 g.2.1 g.2.2∧g.1.B.l.length+1=w.B.l.length⟩):=by
 obtain⟨hr,hb,hbn,hl,hln,hu,hun,hsn,ht,htn,ho,hon⟩:=hI
 obtain⟨h,R,B,U,S,T⟩:=w
 obtain⟨n,hn⟩:∃n,B.l.length=n+1:=⟨B.l.length-1,by replace h2:1<B.l.length:=h2;omega⟩
 replace h2:1<B.l.length:=h2
 have hn0:(n:Int)≠0:=by omega
 refine ctr_of gT eBusless bBusless rfl rfl rfl bL lkL_cl (Sd.sq (VC_ok gT mxd (Sd.sq (VC_ok gT mxd ⟨(n:Int),wj (by show(n:Int)=(B.l.length:Int)-1;omega) (by have:=hbn.2;replace this:B.l.length≤4:=this;omega),Sd.sq (VC_ok gT mxd ⟨n,⟨rfl,by show n≤B.l.length;omega⟩,?_⟩)⟩))))
 refine gcells tSd 3 (lkA ⟨h,R,⟨B.A,B.c,B.l.take n⟩,U,S,T⟩ L 0 1 2 O) rfl rfl (leSet (k:=2) rfl (leCutR (f:=BusM.C) (d:=bus0) (s:=B) oM)) (Sd.sq (VC_ok gT mxd ⟨(L.l.length:Int)-1,wj (by rfl) oM,?_⟩))
 refine vloopG (rn [(4,4),(21,45)]) (fun(g:Int×Sl LineM×Sl OutM)=>[(4,.c (iC g.1))]) (fun(g:Int×Sl LineM×Sl OutM)=>buB ⟨h,R,⟨B.A,B.c,B.l.take n⟩,U,S,T⟩ g.2.1 g.2.2) (fun _=>[]) (fun g=>(-1≤g.1∧g.1+1≤(g.2.1.l.length:Int)∧g.2.1.l.length≤L.l.length∧∀x∈g.2.1.l,x.away.l.length≤1)∧g.2.2.l.length≤O.l.length∧∀x∈g.2.2.l,x.lines.l.length≤2∧x.moves.l.length≤10) (fun g=>(g.1+1).toNat) fun hM=>⟨gfin hM ((L.l.length:Int)-1,L,O) ⟨⟨by show-1≤(L.l.length:Int)-1;omega,by show(L.l.length:Int)-1+1≤L.l.length;omega,Nat.le_refl _,hl⟩,Nat.le_refl _,ho⟩ rfl ⟨rfl,rfl,rfl,rfl,rfl⟩ trivial rfl bL buB_sc rfl,fun⟨k,X,Y⟩ hI=>VC_ok gT mxd ⟨fun h6=>VC_ok gT mxd ?_,fun h6=>VC_ok gT mxd ?_⟩⟩
 all_goals obtain⟨⟨hk1,hk2,hx,hxa⟩,hy,hyo⟩:=(show(-1≤k∧k+1≤(X.l.length:Int)∧X.l.length≤L.l.length∧∀x∈X.l,x.away.l.length≤1)∧Y.l.length≤O.l.length∧∀x∈Y.l,x.lines.l.length≤2∧x.moves.l.length≤10 from hI)
 ·obtain⟨m,rfl⟩:∃m:Nat,k=m:=⟨k.toNat,by replace h6:k≥0:=h6;omega⟩
  have hm:m<X.l.length:=by omega
  exact⟨m,⟨rfl,hm⟩,m,fun _=>⟨rfl,hm⟩,⟨fun _=>VC_ok gT mxd ⟨[0,1,2],lineless_c ⟨h,R,⟨B.A,B.c,B.l.take n⟩,U,S,T⟩ X Y m hm (Nat.le_trans hx hln) (Nat.le_trans hy hon) hyo,rfl,rfl,rfl,fun g hg=>⟨(m:Int)-1,wj,gfin hM ((m:Int)-1,g.1,g.2) ⟨⟨⟨by show-1≤(m:Int)-1;omega,by have:=hg.1.1;show(m:Int)-1+1≤(g.1.l.length:Int);omega,by have:=hg.1.1;show g.1.l.length≤L.l.length;omega,fun x hx=>hxa x (hg.1.2 x hx)⟩,Nat.le_trans hg.2.1 hy,hg.2.2⟩,show((m:Int)-1+1).toNat<((m:Int)+1).toNat by omega⟩ rfl ⟨rfl,rfl,rfl,rfl,rfl⟩ trivial rfl bL buB_sc rfl⟩⟩,fun _=>VC_ok gT mxd ⟨(m:Int)-1,wj,gfin hM ((m:Int)-1,X,Y) ⟨⟨⟨by show-1≤(m:Int)-1;omega,by show(m:Int)-1+1≤(X.l.length:Int);omega,hx,hxa⟩,hy,hyo⟩,show((m:Int)-1+1).toNat<((m:Int)+1).toNat by omega⟩ rfl ⟨rfl,rfl,rfl,rfl,rfl⟩ trivial rfl bL buB_sc rfl⟩⟩⟩
 clear h6 hI hM hk1 hk2
 refine Sd.sq (VC_ok gT mxd (vloopG (rn [(5,5),(46,65)]) (fun(g:Nat×List UnitM)=>[(5,.c (iC g.1))]) (fun(g:Nat×List UnitM)=>buB ⟨h,R,⟨B.A,B.c,B.l.take n⟩,g.2,S,T⟩ X Y) (fun _=>[]) (fun g=>pI unit0 (fun x:UnitM=>x.away.l.length≤1∧x.segs.l.length≤2) (fun x:UnitM=>x.away.l.length≤1∧x.segs.l.length≤2) U.length g.1 g.2) (fun g=>U.length-g.1) fun hM=>⟨gfin hM (0,U) (pI_0 hu) rfl ⟨rfl,rfl,rfl,rfl,rfl⟩ trivial rfl bL buB_sc rfl,fun⟨i,Z⟩ hI=>VC_ok gT mxd ⟨fun h6=>VC_ok gT mxd ?_,fun h6=>VC_ok gT mxd ?_⟩⟩))
 ·have hX:i<Z.length:=by replace h6:(i:Int)<(Z.length:Nat):=h6;omega
  have hi:i<U.length:=by rw[←hI.2.1];exact hX
  exact⟨.seq (sq 13 (List.range 14)),by kernel_rfl,i,⟨rfl,hX,fl_ix0 (f:=UnitM.C) (d:=unit0) (e:=22) (fun _=>rfl) hX dC⟩,iC (Z.getD i unit0).bus,fl_get (f:=UnitM.C) (d:=unit0) (e:=22) (fun _=>rfl) (o:=1) hX dC,hn0,i,⟨rfl,hX,fl_ix0 (f:=UnitM.C) (d:=unit0) (e:=22) (fun _=>rfl) hX dC⟩,fl UnitM.C unit0 (Z.set i ((Z.getD i unit0).sb ((Z.getD i unit0).bus.tmod n))),fl_put' (f:=UnitM.C) (d:=unit0) (e:=22) (fun _=>rfl) (o:=1) hX dC (unitSb _ _),(i+1:Nat),wi,gfin hM (i+1,Z.set i ((Z.getD i unit0).sb ((Z.getD i unit0).bus.tmod n))) ⟨pI_next hI hi (hI.2.2.2 i (Nat.le_refl i) hi),show U.length-(i+1)<U.length-i by omega⟩ rfl ⟨rfl,rfl,rfl,(by show(_,_,_)=(_,_,[_,_,_,_,CV.s 0 (Z.set i _).length,_,_,_]);rw[List.length_set]<;>rfl),rfl⟩ trivial rfl bL buB_sc rfl⟩
 have hU2:=pI_end (show pI unit0 (fun x:UnitM=>x.away.l.length≤1∧x.segs.l.length≤2) (fun x:UnitM=>x.away.l.length≤1∧x.segs.l.length≤2) U.length i Z from hI) (by replace h6:¬(i:Int)<(Z.length:Nat):=h6;have:=hI.2.1;replace this:Z.length=U.length:=this;omega)
 have hU3:Z.length=U.length:=hI.2.1
 clear h6 hI hM
 obtain⟨U2,rfl⟩:∃U2,U2=Z:=⟨_,rfl⟩
 refine Sd.sq (VC_ok gT mxd (vloopG (rn [(6,6),(66,85)]) (fun(g:Nat×List StoreM)=>[(6,.c (iC g.1))]) (fun(g:Nat×List StoreM)=>buB ⟨h,R,⟨B.A,B.c,B.l.take n⟩,U2,g.2,T⟩ X Y) (fun _=>[]) (fun g=>pI store0 (fun _:StoreM=>True) (fun _:StoreM=>True) S.length g.1 g.2) (fun g=>S.length-g.1) fun hM=>⟨gfin hM (0,S) (pI_0 (fun _ _=>trivial)) rfl ⟨rfl,rfl,rfl,rfl,rfl⟩ trivial rfl bL buB_sc rfl,fun⟨i,Z⟩ hI=>VC_ok gT mxd ⟨fun h6=>VC_ok gT mxd ?_,fun h6=>VC_ok gT mxd ?_⟩⟩))
 ·have hX:i<Z.length:=by replace h6:(i:Int)<(Z.length:Nat):=h6;omega
  have hi:i<S.length:=by rw[←hI.2.1];exact hX
  exact⟨.seq (sq 13 (List.range 14)),by kernel_rfl,i,⟨rfl,hX,fl_ix0 (f:=StoreM.C) (d:=store0) (e:=9) (fun _=>rfl) hX dC⟩,iC (Z.getD i store0).bus,fl_get (f:=StoreM.C) (d:=store0) (e:=9) (fun _=>rfl) (o:=1) hX dC,hn0,i,⟨rfl,hX,fl_ix0 (f:=StoreM.C) (d:=store0) (e:=9) (fun _=>rfl) hX dC⟩,fl StoreM.C store0 (Z.set i ((Z.getD i store0).sb ((Z.getD i store0).bus.tmod n))),fl_put' (f:=StoreM.C) (d:=store0) (e:=9) (fun _=>rfl) (o:=1) hX dC (storeSb _ _),(i+1:Nat),wi,gfin hM (i+1,Z.set i ((Z.getD i store0).sb ((Z.getD i store0).bus.tmod n))) ⟨pI_next hI hi (hI.2.2.2 i (Nat.le_refl i) hi),show S.length-(i+1)<S.length-i by omega⟩ rfl ⟨rfl,rfl,rfl,(by show(_,_,_)=(_,_,[_,_,_,_,_,CV.s 1 (Z.set i _).length,_,_]);rw[List.length_set]<;>rfl),rfl⟩ trivial rfl bL buB_sc rfl⟩
 have hS2:=pI_end (show pI store0 (fun _:StoreM=>True) (fun _:StoreM=>True) S.length i Z from hI) (by replace h6:¬(i:Int)<(Z.length:Nat):=h6;have:=hI.2.1;replace this:Z.length=S.length:=this;omega)
 have hS3:Z.length=S.length:=hI.2.1
 clear h6 hI hM
 obtain⟨S2,rfl⟩:∃S2,S2=Z:=⟨_,rfl⟩
 refine Sd.sq (VC_ok gT mxd (vloopG (rn [(7,7),(86,105)]) (fun(g:Nat×List TieM)=>[(7,.c (iC g.1))]) (fun(g:Nat×List TieM)=>buB ⟨h,R,⟨B.A,B.c,B.l.take n⟩,U2,S2,g.2⟩ X Y) (fun _=>[]) (fun g=>pI tie0 (fun x:TieM=>x.imp.l.length≤3∧x.exp.l.length≤3∧x.price.l.length≤3) (fun x:TieM=>x.imp.l.length≤3∧x.exp.l.length≤3∧x.price.l.length≤3) T.length g.1 g.2) (fun g=>T.length-g.1) fun hM=>⟨gfin hM (0,T) (pI_0 ht) rfl ⟨rfl,rfl,rfl,rfl,rfl⟩ trivial rfl bL buB_sc rfl,fun⟨i,Z⟩ hI=>VC_ok gT mxd ⟨fun h6=>VC_ok gT mxd ?_,fun h6=>VC_ok gT mxd ?_⟩⟩))
 ·have hX:i<Z.length:=by replace h6:(i:Int)<(Z.length:Nat):=h6;omega
  have hi:i<T.length:=by rw[←hI.2.1];exact hX
  exact⟨.seq (sq 13 (List.range 14)),by kernel_rfl,i,⟨rfl,hX,fl_ix0 (f:=TieM.C) (d:=tie0) (e:=5) (fun _=>rfl) hX dC⟩,iC (Z.getD i tie0).bus,fl_get (f:=TieM.C) (d:=tie0) (e:=5) (fun _=>rfl) (o:=1) hX dC,hn0,i,⟨rfl,hX,fl_ix0 (f:=TieM.C) (d:=tie0) (e:=5) (fun _=>rfl) hX dC⟩,fl TieM.C tie0 (Z.set i ((Z.getD i tie0).sb ((Z.getD i tie0).bus.tmod n))),fl_put' (f:=TieM.C) (d:=tie0) (e:=5) (fun _=>rfl) (o:=1) hX dC (tieSb _ _),(i+1:Nat),wi,gfin hM (i+1,Z.set i ((Z.getD i tie0).sb ((Z.getD i tie0).bus.tmod n))) ⟨pI_next hI hi (hI.2.2.2 i (Nat.le_refl i) hi),show T.length-(i+1)<T.length-i by omega⟩ rfl ⟨rfl,rfl,rfl,(by show(_,_,_)=(_,_,[_,_,_,_,_,_,CV.s 2 (Z.set i _).length,_]);rw[List.length_set]<;>rfl),rfl⟩ trivial rfl bL buB_sc rfl⟩
 have hT2:=pI_end (show pI tie0 (fun x:TieM=>x.imp.l.length≤3∧x.exp.l.length≤3∧x.price.l.length≤3) (fun x:TieM=>x.imp.l.length≤3∧x.exp.l.length≤3∧x.price.l.length≤3) T.length i Z from hI) (by replace h6:¬(i:Int)<(Z.length:Nat):=h6;have:=hI.2.1;replace this:Z.length=T.length:=this;omega)
 have hT3:Z.length=T.length:=hI.2.1
 clear h6 hI hM
 obtain⟨T2,rfl⟩:∃T2,T2=Z:=⟨_,rfl⟩
 replace hbn:0<B.l.length∧B.l.length≤4:=hbn
 have hBl:(B.l.take n).length=n:=by rw[List.length_take];omega
 exact VC_ok gT mxd ⟨(⟨h,R,⟨B.A,B.c,B.l.take n⟩,U2,S2,T2⟩,X,Y),⟨⟨hr,fun x hx=>hb x (List.mem_of_mem_take hx),by show 0<(B.l.take n).length∧(B.l.take n).length≤4;omega,hxa,Nat.le_trans hx hln,hU2,by rw[←hU3] at hun;exact hun,by rw[←hS3] at hsn;exact hsn,hT2,by rw[←hT3] at htn;exact htn,hyo,Nat.le_trans hy hon⟩,by show(B.l.take n).length+1=B.l.length;omega⟩,fin_own rfl ⟨rfl,rfl,rfl⟩ bL lkL_sc rfl lkL_cl⟩
end Go.Proofs.YtandhgfmfpmemaaGreat
namespace Go.Proofs.YtandhgfmfpmemaaGreat
open Go.Vg _root_.Go.Proofs.Tryz
open Go.Vm hiding sg sg_t sg_f sg_abs sg_neg sg_add sg_mul sg_self sg_canon sg_pos sg_zero sg_eq_zero sg_lt
open Go.Vy hiding val
set_option maxHeartbeats 1000000
def caseZ:CaseM:=⟨0,nilS,nilS,nilS,nilS,nilS,nilS,nilS⟩
theorem zHd {ρ:Pl} {n:Nat} {w:World} (v:Value) (h:Hd ρ n w (.a zC) v):Hd ρ n w (.a (caseZ.C [])) v:=by
 cases h with
 |a h=>
  next vl=>
  match vl,h with
  |[_,_,_,_,_,_,_,_],⟨h0,h1,h2,h3,h4,h5,h6,h7,h8⟩=>exact .a ⟨h0,nil_r h1,nil_r h2,nil_r h3,nil_r h4,nil_r h5,nil_r h6,nil_r h7,h8⟩
theorem bdZ:Bd caseZ:=by constructor<;>(try intro j)<;>simp[caseZ,nilS,bus0,line0,unit0,tie0,out0]
theorem contZ:Cont caseZ 0 caseZ:=⟨rfl,rfl,⟨fun _=>(none,0),rfl⟩,⟨fun _=>(none,0),rfl⟩,⟨fun _=>((none,0),(none,0)),rfl⟩,rfl,⟨fun _=>((none,0),(none,0),(none,0)),rfl⟩,⟨fun _=>((none,0),(none,0)),rfl⟩⟩
theorem eqZ:Ctr Tryz.prog fEq18 [] [.a zC,.a zC] [] ptR:=Ctr.arg (cont_eq bdZ contZ contZ) fun ρ n w=>HL.cons (fun v h=>zHd v h) (HL.cons (fun v h=>zHd v h) fun _ h=>h)
abbrev fSCase:FuncId:=5
theorem eSCase:Ent Tryz.prog fSCase:=Ent.of func5 rfl kR
theorem bSCase:Tryz.prog.funcs[fSCase]? =some Tryz.f5:=func5
abbrev fLaw:FuncId:=3
theorem eLaw:Ent Tryz.prog fLaw:=Ent.of func3 rfl kR
theorem bLaw:Tryz.prog.funcs[fLaw]? =some Tryz.f3:=func3
def CaseOk (d:Sl Int):Prop:=Ctr Tryz.prog fSCase [] [.c (intsR d)] [] (fun D:CaseM=>⟨.a (D.C []),[],Sh D∧Bd D⟩)
theorem law_near (C:CaseM) (d:Sl Int) (L:Int) (hK:d.l.length≤200→CaseOk d):Ctr Tryz.prog fLaw [] [.a (C.C []),.c (intsR d),.c (iC L),.c (.v (.bool true))] [] ptR:=by
 refine ctr_of gT eLaw bLaw rfl rfl rfl bL ClB.nil (VC_ok gT mxd ⟨[],tiny_c C,rfl,rfl,rfl,fun g hg=>⟨fun _=>VC_ok gT mxd ⟨(),trivial,fin_of (tt trivial) rfl trivial⟩,fun h=>VC_ok gT mxd ⟨[],hK (Nat.le_of_not_lt fun hn=>h (.inr (show((d.l.length:Nat):Int)>200 by omega))),rfl,rfl,rfl,fun D hD=>⟨[],mod_c L,rfl,rfl,rfl,fun r hr=>⟨r-1,wi,?_⟩⟩⟩⟩⟩)
 obtain⟨hS,hB⟩:=hD
 by_cases hc:chkE D=0
 ·by_cases hL:0≤(r-1)∧(r-1)≤100
  ·exact⟨[],cud_c D (r-1) hB hc hL,rfl,rfl,rfl,fun X hX=>⟨[],c43_c D (r-1) hB hS hc hL,rfl,rfl,rfl,fun Y hY=>⟨[],awake_c,rfl,rfl,rfl,fun _ _=>⟨fun _=>⟨[],cont_eq hB hX hY,rfl,rfl,rfl,fun _ _=>⟨(),trivial,fin_of Iff.rfl rfl trivial⟩⟩,fun h=>absurd rfl h⟩⟩⟩⟩
  have hL2:(r-1)<0∨100<(r-1):=by omega
  exact⟨[],cud_level D (r-1) hc hL2,rfl,rfl,rfl,fun _ _=>⟨[],c43_level D (r-1) hS hc hL2,rfl,rfl,rfl,fun _ _=>⟨[],awake_c,rfl,rfl,rfl,fun _ _=>⟨fun _=>⟨[],eqZ,rfl,rfl,rfl,fun _ _=>⟨(),trivial,fin_of Iff.rfl rfl trivial⟩⟩,fun h=>absurd rfl h⟩⟩⟩⟩
 exact⟨[],cud_bad D (r-1) hc,rfl,rfl,rfl,fun _ _=>⟨[],c43_bad D (r-1) hS hc,rfl,rfl,rfl,fun _ _=>⟨[],awake_c,rfl,rfl,rfl,fun _ _=>⟨fun _=>⟨[],eqZ,rfl,rfl,rfl,fun _ _=>⟨(),trivial,fin_of Iff.rfl rfl trivial⟩⟩,fun h=>absurd rfl h⟩⟩⟩⟩
theorem law_far (C:CaseM) (d:Sl Int) (L:Int) (hB:Bd C):Ctr Tryz.prog fLaw [] [.a (C.C []),.c (intsR d),.c (iC L),.c (.v (.bool false))] [] ptR:=by
 refine ctr_of gT eLaw bLaw rfl rfl rfl bL ClB.nil (VC_ok gT mxd ⟨[],tiny_c C,rfl,rfl,rfl,fun g hg=>⟨fun _=>VC_ok gT mxd ⟨(),trivial,fin_of (tt trivial) rfl trivial⟩,fun h=>VC_ok gT mxd ?_⟩⟩)
 have hT:TinyOk C:=hg (Classical.byContradiction fun hn=>h (.inl hn))
 have hS:Sh C:=⟨Nat.le_trans hT.b dC,Nat.le_trans hT.l dC,Nat.le_trans hT.u dC,Nat.le_trans hT.s dC,Nat.le_trans hT.t dC,Nat.le_trans hT.o dC,fun x hx=>by
  obtain⟨j,hj,rfl⟩:=List.getElem_of_mem hx
  have:=hB.om j
  simpa[List.getD,hj] using this⟩
 by_cases hc:chkE C=0
 ·by_cases hL:0≤L∧L≤100
  ·exact⟨[],cud_c C L hB hc hL,rfl,rfl,rfl,fun X hX=>⟨[],c43_c C L hB hS hc hL,rfl,rfl,rfl,fun Y hY=>⟨[],awake_c,rfl,rfl,rfl,fun _ _=>⟨fun _=>⟨[],cont_eq hB hX hY,rfl,rfl,rfl,fun _ _=>⟨(),trivial,fin_of Iff.rfl rfl trivial⟩⟩,fun h=>absurd rfl h⟩⟩⟩⟩
  have hL2:L<0∨100<L:=by omega
  exact⟨[],cud_level C L hc hL2,rfl,rfl,rfl,fun _ _=>⟨[],c43_level C L hS hc hL2,rfl,rfl,rfl,fun _ _=>⟨[],awake_c,rfl,rfl,rfl,fun _ _=>⟨fun _=>⟨[],eqZ,rfl,rfl,rfl,fun _ _=>⟨(),trivial,fin_of Iff.rfl rfl trivial⟩⟩,fun h=>absurd rfl h⟩⟩⟩⟩
 exact⟨[],cud_bad C L hc,rfl,rfl,rfl,fun _ _=>⟨[],c43_bad C L hS hc,rfl,rfl,rfl,fun _ _=>⟨[],awake_c,rfl,rfl,rfl,fun _ _=>⟨fun _=>⟨[],eqZ,rfl,rfl,rfl,fun _ _=>⟨(),trivial,fin_of Iff.rfl rfl trivial⟩⟩,fun h=>absurd rfl h⟩⟩⟩⟩
end Go.Proofs.YtandhgfmfpmemaaGreat
namespace Go.Proofs.YtandhgfmfpmemaaGreat
open Go.Vg _root_.Go.Proofs.Tryz
open Go.Vm hiding sg sg_t sg_f sg_abs sg_neg sg_add sg_mul sg_self sg_canon sg_pos sg_zero sg_eq_zero sg_lt
open Go.Vy hiding val
set_option maxHeartbeats 4000000
abbrev fGood:FuncId:=16
theorem eGood:Ent Tryz.prog fGood:=Ent.of func16 rfl kR
theorem bGood:Tryz.prog.funcs[fGood]? =some Tryz.f16:=func16
theorem good_c (D:CaseM) (hS:Sh D):Ctr Tryz.prog fGood [] [.a (D.C [])] [] (fun _:Unit=>⟨pC (chkE D=0),[],True⟩):=
 ctr_of gT eGood bGood rfl rfl rfl bL ClB.nil (VC_ok gT mxd ⟨[],rck_c D hS,rfl,rfl,rfl,fun _ _=>⟨(),trivial,fin_of Iff.rfl rfl trivial⟩⟩)
abbrev uuC:List CV:=[.u,.u,.u,.u,.u,.u,.u,.u]
theorem leU (c:CV):LeC c .u:=fun _ _ _ x _=>Rc.u x
theorem leUs {l:List CV}:LeL l uuC:=fun k c c' _ h=>by
 have:c'= .u:=by
  match k,h with
  |0,h|1,h|2,h|3,h|4,h|5,h|6,h|7,h=>injection h with h;exact h.symm
 rw[this]
 exact leU c
theorem leNil {e:Nat} {get:Nat→List CV}:LeC nilC (.r none 0 0 e get):=fun ρ n w x h=>by
 rw[h.inv_v]
 exact Rc.nil _ _ _ _ (Nat.zero_le _)
abbrev stA (tp:List CV) (w:CW):BL:=[(30,0,zCs),(30,0,uuC),(132,0,tp),(30,0,uuC),(59,3,fl BusM.C bus0 w.B),(71,12,fl LineM.C line0 w.L),(42,22,fl UnitM.C unit0 w.U),(75,9,fl StoreM.C store0 w.S),(77,5,fl TieM.C tie0 w.T),(47,4,fl OutM.C out0 w.O),(30,0,caA w 4 5 6 7 8 9)]
theorem stA_sc {a b:CV} {w:CW} (h:[a,b].all (scC 11)=true):scB 11 (stA [a,b] w):=scB.cons rfl (scB.cons rfl (scB.cons h (scB.cons rfl (scB.cons (sc_clo (fl_cl cB)) (scB.cons (sc_clo (fl_cl cL)) (scB.cons (sc_clo (fl_cl cU)) (scB.cons (sc_clo (fl_cl cS)) (scB.cons (sc_clo (fl_cl cT)) (scB.cons (sc_clo (fl_cl cO)) (scB.cons rfl scB.nil))))))))))
abbrev stC (tp:List CV) (w:CR) (L:Sl LineM) (O:Sl OutM):BL:=[(30,0,zCs),(30,0,uuC),(132,0,tp),(30,0,uuC),(59,3,[]),(71,12,[]),(42,22,fl UnitM.C unit0 w.U),(75,9,fl StoreM.C store0 w.S),(77,5,fl TieM.C tie0 w.T),(47,4,[]),(30,0,lkA w L 6 7 8 O)]
theorem stC_sc {a b:CV} {w:CR} {L:Sl LineM} {O:Sl OutM} (h:[a,b].all (scC 11)=true):scB 11 (stC [a,b] w L O):=scB.cons rfl (scB.cons rfl (scB.cons h (scB.cons rfl (scB.cons rfl (scB.cons rfl (scB.cons (sc_clo (fl_cl cU)) (scB.cons (sc_clo (fl_cl cS)) (scB.cons (sc_clo (fl_cl cT)) (scB.cons rfl (scB.cons rfl scB.nil))))))))))
abbrev stE (tp:List CV) (D:CaseM):BL:=[(30,0,zCs),(30,0,uuC),(132,0,tp),(30,0,uuC),(59,3,[]),(71,12,[]),(42,22,[]),(75,9,[]),(77,5,[]),(47,4,[]),(30,0,D.C [])]
abbrev stE1 (tp:List CV) (D D2:CaseM):BL:=[(30,0,zCs),(30,0,uuC),(132,0,tp),(30,0,uuC),(59,3,[]),(71,12,[]),(42,22,[]),(75,9,[]),(77,5,[]),(47,4,[]),(30,0,D.C []),(30,0,D2.C [])]
theorem stE_sc {a b:CV} {D:CaseM} (h:[a,b].all (scC 11)=true):scB 11 (stE [a,b] D):=scB.cons rfl (scB.cons rfl (scB.cons h (scB.cons rfl (scB.cons rfl (scB.cons rfl (scB.cons rfl (scB.cons rfl (scB.cons rfl (scB.cons rfl (scB.cons rfl scB.nil))))))))))
theorem stE1_sc {d:Sl Int} {q:Nat} {D D2:CaseM}:scB 12 (stE1 [intsR d,iC q] D D2):=scB.cons rfl (scB.cons rfl (scB.cons rfl (scB.cons rfl (scB.cons rfl (scB.cons rfl (scB.cons rfl (scB.cons rfl (scB.cons rfl (scB.cons rfl (scB.cons rfl (scB.cons rfl scB.nil)))))))))))
theorem gcellsS {P:Program} {nb N:Nat} {cd:Code} {K:Kt} {s:SS} (i:Nat) {T es:Nat} {l:List CV} (l':List CV) (hb:s.bl[i]? =some (T,es,l)) (hl:l'.length=l.length) (hc:LeL l l') (h:setK s.bl i (T,es,l') fun bl'=>Sd P nb N cd K ⟨s.sl,s.gl,bl',s.fl⟩):Sd P nb N cd K s:=gcells tSd i l' hb hl hc h
theorem gDl {α:Type} {L:List α} {d:α} {p:α→Nat} (h:∀x∈L,p x≤2000000) (h0:p d≤2000000:=by decide):∀j,p (L.getD j d)≤2000000:=fun j=>by
 by_cases hj:j<L.length
 ·exact h _ (gD_mem hj)
 rw[List.getD_eq_getElem?_getD,List.getElem?_eq_none oM];exact h0
theorem clO2 {O:List OutM} {x:OutM}:∀c∈flatR O.length (fun j=>OutM.C (O.getD j out0))++x.C,cloC c=true:=clO1
theorem apO2 {O:List OutM} {x:OutM} {i:Nat} (h:O.length≤2):1*4=x.C.length∧(0+O.length)*4=(flatR O.length fun j=>OutM.C (O.getD j out0)).length∧0+O.length+1≤maxLen∧(0+O.length+1)*72≤140737488355328∧∀c∈(flatR O.length fun j=>OutM.C (O.getD j out0))++x.C,menC i c=false:=apO1 oM
theorem frcO {T:Nat} {A:Option Nat} {a:Nat} {O:List OutM} {x:OutM}:FrC ⟨T,4,1,fun _=>A,fun _=>a,fun _=>flatR O.length (fun j=>OutM.C (O.getD j out0))++x.C⟩ (.h A (0+O.length+1) a) ((⟨A.map fun b=>⟨b,0,none⟩,a,O++[x]⟩:Sl OutM).R 4 OutM.C out0):=by
 have h:flatR O.length (fun j=>OutM.C (O.getD j out0))++x.C=fl OutM.C out0 (O++[x]):=fl_snoc
 have h2:0+O.length+1=(O++[x]).length:=by simp
 rw[h,h2]
 exact frcF fun _=>rfl
def oE16:Ord:=.joinX [] [2001,2,2004,2005,2006,7] (.alt 0 (.alt 3 (.alt 8 (.alt 1009 (.alt 2010 (.alt 1011 .nil .nil) .nil) .nil) .nil) (.alt 8 (.alt 3 (.alt 1009 (.alt 2010 (.alt 1011 .nil .nil) .nil) .nil) .nil) .nil)) (.alt 8 (.alt 0 (.alt 3 (.alt 1009 (.alt 2010 (.alt 1011 .nil .nil) .nil) .nil) .nil) .nil) .nil))
theorem scase_c (d:Sl Int) (hd:d.l.length≤1000000):CaseOk d:=by
 refine ctr_of gT eSCase bSCase rfl rfl rfl bL ClB.nil (Sd.sq (VC_ok gT mxd (Sd.sq (VC_ok gT mxd ⟨[],mcase_c d hd,rfl,rfl,rfl,fun⟨w,q⟩ hw=>?_⟩))))
 refine gcells tSd 1 uuC rfl rfl leUs (gcells tSd 3 uuC rfl rfl leUs ?_)
 refine Sd.sq (VC_ok gT mxd (vloopG (rn [(9,13)]) (fun(g:CW)=>[]) (fun(g:CW)=>stA [intsR d,iC q] g) (fun _=>[]) (fun(g:CW)=>IwM g) (fun(g:CW)=>g.h) fun hM=>⟨gfin hM (chg:=fun(g:CW)=>[]) (bls:=fun(g:CW)=>stA [intsR d,iC q] g) (fls:=fun _=>[]) w hw rfl ⟨rfl,rfl,rfl,rfl,rfl,rfl,rfl,rfl,rfl,rfl,rfl⟩ trivial trivial bL (stA_sc rfl) rfl,fun v hI=>VC_ok gT mxd ⟨fun h6=>VC_ok gT mxd ?_,fun h6=>VC_ok gT mxd ?_⟩⟩))
 ·exact⟨[4,5,6,7,8,9],shorter_c v hI (by replace h6:(v.h:Int)>2:=h6;omega),rfl,rfl,rfl,fun x hx=>gfin hM (chg:=fun(g:CW)=>[]) (bls:=fun(g:CW)=>stA [intsR d,iC q] g) (fls:=fun _=>[]) x ⟨hx.1,by have:=hx.2;omega⟩ rfl ⟨rfl,rfl,rfl,rfl,rfl,rfl,rfl,rfl,rfl,rfl,rfl⟩ trivial trivial bL (stA_sc rfl) rfl⟩
 clear h6 hM hw
 refine Sd.sq (VC_ok gT mxd (vloopG (rn [(14,19)]) (fun(g:CW)=>[]) (fun(g:CW)=>stA [intsR d,iC q] g) (fun _=>[]) (fun(g:CW)=>IwM g) (fun(g:CW)=>g.U.length) fun hM=>⟨gfin hM (chg:=fun(g:CW)=>[]) (bls:=fun(g:CW)=>stA [intsR d,iC q] g) (fls:=fun _=>[]) v hI rfl ⟨rfl,rfl,rfl,rfl,rfl,rfl,rfl,rfl,rfl,rfl,rfl⟩ trivial trivial bL (stA_sc rfl) rfl,fun w2 hI=>VC_ok gT mxd ⟨fun h6=>VC_ok gT mxd ?_,fun h6=>VC_ok gT mxd ?_⟩⟩))
 ·exact⟨[4,5,6,7,8,9],unitless_c w2 hI (by replace h6:(w2.U.length:Int)>2:=h6;omega),rfl,rfl,rfl,fun x hx=>gfin hM (chg:=fun(g:CW)=>[]) (bls:=fun(g:CW)=>stA [intsR d,iC q] g) (fls:=fun _=>[]) x ⟨hx.1,by have:=hx.2.1;omega⟩ rfl ⟨rfl,rfl,rfl,rfl,rfl,rfl,rfl,rfl,rfl,rfl,rfl⟩ trivial trivial bL (stA_sc rfl) rfl⟩
 clear h6 hM
 obtain⟨h,R,B,L,U,S,T,O⟩:=w2
 refine gsink tSd 4 rfl bL (fl_cl cB) bL rfl fun A1 a1=>⟨_,map_id' sink_clo (fl_cl cL),_,map_id' sink_clo (fl_cl cU),_,map_id' sink_clo (fl_cl cS),_,map_id' sink_clo (fl_cl cT),_,map_id' sink_clo (fl_cl cO),gfree tSd 10 0 [iC (h:Nat),intsR R,((⟨A1.map fun b=>⟨b,0,none⟩,a1,B⟩:Sl BusM).R 3 BusM.C bus0),.s 5 L.length,.s 6 U.length,.s 7 S.length,.s 8 T.length,.s 9 O.length] rfl rfl rfl rfl (frset (k0:=2) rfl (frcF fun _=>rfl)) (gsink tSd 5 rfl bL (fl_cl cL) bL rfl fun A2 a2=>⟨_,rfl,_,map_id' sink_clo (fl_cl cU),_,map_id' sink_clo (fl_cl cS),_,map_id' sink_clo (fl_cl cT),_,map_id' sink_clo (fl_cl cO),gfree tSd 10 1 [iC (h:Nat),intsR R,((⟨A1.map fun b=>⟨b,0,none⟩,a1,B⟩:Sl BusM).R 3 BusM.C bus0),((⟨A2.map fun b=>⟨b,0,none⟩,a2,L⟩:Sl LineM).R 12 LineM.C line0),.s 6 U.length,.s 7 S.length,.s 8 T.length,.s 9 O.length] rfl rfl rfl rfl (frset (k0:=3) rfl (frcF fun _=>rfl)) (gsink tSd 9 rfl bL (fl_cl cO) bL rfl fun A3 a3=>⟨_,rfl,_,rfl,_,map_id' sink_clo (fl_cl cU),_,map_id' sink_clo (fl_cl cS),_,map_id' sink_clo (fl_cl cT),gfree tSd 10 2 [iC (h:Nat),intsR R,((⟨A1.map fun b=>⟨b,0,none⟩,a1,B⟩:Sl BusM).R 3 BusM.C bus0),((⟨A2.map fun b=>⟨b,0,none⟩,a2,L⟩:Sl LineM).R 12 LineM.C line0),.s 6 U.length,.s 7 S.length,.s 8 T.length,((⟨A3.map fun b=>⟨b,0,none⟩,a3,O⟩:Sl OutM).R 4 OutM.C out0)] rfl rfl rfl rfl (frset (k0:=7) rfl (frcF fun _=>rfl)) (?_)⟩)⟩)⟩
 have hR:IwR ⟨h,R,⟨A1.map fun b=>⟨b,0,none⟩,a1,B⟩,U,S,T⟩ ⟨A2.map fun b=>⟨b,0,none⟩,a2,L⟩ ⟨A3.map fun b=>⟨b,0,none⟩,a3,O⟩:=⟨by have:=hI.r;have h8:=hI.h.2;replace this:R.l.length=h:=this;replace h8:h≤3:=h8;show R.l.length≤3;omega,fun x hx=>by have:=hI.b x hx;have h8:=hI.h.2;replace this:x.demand.l.length=h:=this;replace h8:h≤3:=h8;omega,hI.bn,hI.l,hI.ln,hI.u,hI.un,hI.sn,fun x hx=>by have:=hI.t x hx;have h8:=hI.h.2;replace this:x.imp.l.length=h∧x.exp.l.length=h∧x.price.l.length=h:=this;replace h8:h≤3:=h8;omega,hI.tn,hI.o,hI.on⟩
 clear hI
 refine Sd.sq (VC_ok gT mxd (vloopG (rn [(20,25)]) (fun(g:CR×Sl LineM×Sl OutM)=>[]) (fun(g:CR×Sl LineM×Sl OutM)=>stC [intsR d,iC q] g.1 g.2.1 g.2.2) (fun _=>[]) (fun(g:CR×Sl LineM×Sl OutM)=>IwR g.1 g.2.1 g.2.2) (fun(g:CR×Sl LineM×Sl OutM)=>g.1.B.l.length) fun hM=>⟨gfin hM (chg:=fun(g:CR×Sl LineM×Sl OutM)=>[]) (bls:=fun(g:CR×Sl LineM×Sl OutM)=>stC [intsR d,iC q] g.1 g.2.1 g.2.2) (fls:=fun _=>[]) (⟨h,R,⟨A1.map fun b=>⟨b,0,none⟩,a1,B⟩,U,S,T⟩,⟨A2.map fun b=>⟨b,0,none⟩,a2,L⟩,⟨A3.map fun b=>⟨b,0,none⟩,a3,O⟩) hR rfl ⟨rfl,rfl,rfl,rfl,rfl,rfl,rfl,rfl,rfl,rfl,rfl⟩ trivial trivial bL (stC_sc rfl) rfl,fun⟨w,X,Y⟩ hI=>VC_ok gT mxd ⟨fun h6=>VC_ok gT mxd ?_,fun h6=>VC_ok gT mxd ?_⟩⟩))
 ·exact⟨[6,7,8],busless_c w X Y hI (by replace h6:(w.B.l.length:Int)>3:=h6;omega),rfl,rfl,rfl,fun x hx=>gfin hM (chg:=fun(g:CR×Sl LineM×Sl OutM)=>[]) (bls:=fun(g:CR×Sl LineM×Sl OutM)=>stC [intsR d,iC q] g.1 g.2.1 g.2.2) (fls:=fun _=>[]) x ⟨hx.1,by have:=hx.2;show x.1.B.l.length<w.B.l.length;omega⟩ rfl ⟨rfl,rfl,rfl,rfl,rfl,rfl,rfl,rfl,rfl,rfl,rfl⟩ trivial trivial bL (stC_sc rfl) rfl⟩
 clear h6 hM hR
 refine Sd.sq (VC_ok gT mxd (vloopG (rn [(26,35)]) (fun(g:Sl LineM×Sl OutM)=>[]) (fun(g:Sl LineM×Sl OutM)=>stC [intsR d,iC q] w g.1 g.2) (fun _=>[]) (fun(g:Sl LineM×Sl OutM)=>IwR w g.1 g.2) (fun(g:Sl LineM×Sl OutM)=>g.1.l.length) fun hM=>⟨gfin hM (chg:=fun(g:Sl LineM×Sl OutM)=>[]) (bls:=fun(g:Sl LineM×Sl OutM)=>stC [intsR d,iC q] w g.1 g.2) (fls:=fun _=>[]) (X,Y) hI rfl ⟨rfl,rfl,rfl,rfl,rfl,rfl,rfl,rfl,rfl,rfl,rfl⟩ trivial trivial bL (stC_sc rfl) rfl,fun⟨X2,Y2⟩ hI=>VC_ok gT mxd ⟨fun h6=>VC_ok gT mxd ?_,fun h6=>VC_ok gT mxd ?_⟩⟩))
 ·replace hI:IwR w X2 Y2:=hI
  have hX:4<X2.l.length:=by replace h6:(X2.l.length:Int)>4:=h6;omega
  have hI2:=hI
  obtain⟨e1,e2,e3,e4,e5,e6,e7,e8,e9,e10,e11,e12⟩:=hI2
  exact⟨((X2.l.length-1:Nat):Int),wj (by show((X2.l.length-1:Nat):Int)=(X2.l.length:Int)-1;omega),[6,7,8],lineless_c w X2 Y2 (X2.l.length-1) oM e5 e12 e11,rfl,rfl,rfl,fun x hx=>gfin hM (chg:=fun(g:Sl LineM×Sl OutM)=>[]) (bls:=fun(g:Sl LineM×Sl OutM)=>stC [intsR d,iC q] w g.1 g.2) (fls:=fun _=>[]) x ⟨⟨e1,e2,e3,fun y hy=>e4 y (hx.1.2 y hy),by have:=hx.1.1;omega,e6,e7,e8,e9,e10,hx.2.2,Nat.le_trans hx.2.1 e12⟩,by have:=hx.1.1;show x.1.l.length<X2.l.length;omega⟩ rfl ⟨rfl,rfl,rfl,rfl,rfl,rfl,rfl,rfl,rfl,rfl,rfl⟩ trivial trivial bL (stC_sc rfl) rfl⟩
 replace hI:IwR w X2 Y2:=hI
 obtain⟨h,R,B,U,S,T⟩:=w
 clear h6 hM
 refine gsink tSd 6 rfl bL (fl_cl cU) bL rfl fun A4 a4=>⟨_,rfl,_,rfl,_,map_id' sink_clo (fl_cl cS),_,map_id' sink_clo (fl_cl cT),_,rfl,gfree tSd 10 0 [iC (h:Nat),intsR R,(B.R 3 BusM.C bus0),(X2.R 12 LineM.C line0),((⟨A4.map fun b=>⟨b,0,none⟩,a4,U⟩:Sl UnitM).R 22 UnitM.C unit0),.s 7 S.length,.s 8 T.length,(Y2.R 4 OutM.C out0)] rfl rfl rfl rfl (frset (k0:=4) rfl (frcF fun _=>rfl)) (gsink tSd 7 rfl bL (fl_cl cS) bL rfl fun A5 a5=>⟨_,rfl,_,rfl,_,rfl,_,map_id' sink_clo (fl_cl cT),_,rfl,gfree tSd 10 1 [iC (h:Nat),intsR R,(B.R 3 BusM.C bus0),(X2.R 12 LineM.C line0),((⟨A4.map fun b=>⟨b,0,none⟩,a4,U⟩:Sl UnitM).R 22 UnitM.C unit0),((⟨A5.map fun b=>⟨b,0,none⟩,a5,S⟩:Sl StoreM).R 9 StoreM.C store0),.s 8 T.length,(Y2.R 4 OutM.C out0)] rfl rfl rfl rfl (frset (k0:=5) rfl (frcF fun _=>rfl)) (gsink tSd 8 rfl bL (fl_cl cT) bL rfl fun A6 a6=>⟨_,rfl,_,rfl,_,rfl,_,rfl,_,rfl,gfree tSd 10 2 [iC (h:Nat),intsR R,(B.R 3 BusM.C bus0),(X2.R 12 LineM.C line0),((⟨A4.map fun b=>⟨b,0,none⟩,a4,U⟩:Sl UnitM).R 22 UnitM.C unit0),((⟨A5.map fun b=>⟨b,0,none⟩,a5,S⟩:Sl StoreM).R 9 StoreM.C store0),((⟨A6.map fun b=>⟨b,0,none⟩,a6,T⟩:Sl TieM).R 5 TieM.C tie0),(Y2.R 4 OutM.C out0)] rfl rfl rfl rfl (frset (k0:=6) rfl (frcF fun _=>rfl)) (?_)⟩)⟩)⟩
 obtain⟨e1,e2,e3,e4,e5,e6,e7,e8,e9,e10,e11,e12⟩:=hI
 have hSh:∀Y:Sl OutM,(Y.l.length≤10∧∀x∈Y.l,x.lines.l.length≤2∧x.moves.l.length≤10)→Sh (⟨h,R,B,X2,⟨A4.map fun b=>⟨b,0,none⟩,a4,U⟩,⟨A5.map fun b=>⟨b,0,none⟩,a5,S⟩,⟨A6.map fun b=>⟨b,0,none⟩,a6,T⟩,Y⟩:CaseM)∧Bd (⟨h,R,B,X2,⟨A4.map fun b=>⟨b,0,none⟩,a4,U⟩,⟨A5.map fun b=>⟨b,0,none⟩,a5,S⟩,⟨A6.map fun b=>⟨b,0,none⟩,a6,T⟩,Y⟩:CaseM):=fun Y hY=>⟨⟨by have:=e3.2;show B.l.length≤1000;replace this:B.l.length≤4:=this;omega,by show X2.l.length≤1000;omega,by show U.length≤1000;have:U.length≤10:=e7;omega,by show S.length≤1000;have:S.length≤10:=e8;omega,by show T.length≤1000;have:T.length≤10:=e10;omega,by show Y.l.length≤1000;omega,fun x hx=>by have:=(hY.2 x hx).2;omega⟩,⟨Nat.le_trans e1 dC,Nat.le_trans e3.2 dC,gDl fun x hx=>Nat.le_trans (e2 x hx) dC,Nat.le_trans e5 dC,gDl fun x hx=>Nat.le_trans (e4 x hx) dC,Nat.le_trans e7 dC,gDl fun x hx=>Nat.le_trans (e6 x hx).2 dC,gDl fun x hx=>Nat.le_trans (e6 x hx).1 dC,Nat.le_trans e8 dC,Nat.le_trans e10 dC,gDl fun x hx=>Nat.le_trans (e9 x hx).1 dC,gDl fun x hx=>Nat.le_trans (e9 x hx).2.1 dC,gDl fun x hx=>Nat.le_trans (e9 x hx).2.2 dC,Nat.le_trans hY.1 dC,gDl fun x hx=>Nat.le_trans (hY.2 x hx).1 dC,gDl fun x hx=>Nat.le_trans (hY.2 x hx).2 dC⟩⟩
 refine Sd.sq (VC_ok gT mxd (Sd.sq (VC_ok gT mxd (Sd.sq (VC_ok gT mxd (gcellsS 10 ((⟨h,R,B,X2,⟨A4.map fun b=>⟨b,0,none⟩,a4,U⟩,⟨A5.map fun b=>⟨b,0,none⟩,a5,S⟩,⟨A6.map fun b=>⟨b,0,none⟩,a6,T⟩,nilS⟩:CaseM).C []) rfl rfl (leSet (k:=7) rfl leNil) (vloopG (rn [(5,6),(39,65)]) (fun(g:Nat×Sl OutM)=>[(5,.c (iC g.1))]) (fun(g:Nat×Sl OutM)=>stE [intsR d,iC q] ⟨h,R,B,X2,⟨A4.map fun b=>⟨b,0,none⟩,a4,U⟩,⟨A5.map fun b=>⟨b,0,none⟩,a5,S⟩,⟨A6.map fun b=>⟨b,0,none⟩,a6,T⟩,g.2⟩) (fun _=>[]) (fun(g:Nat×Sl OutM)=>g.1≤Y2.l.length∧g.2.l.length≤2∧∀x∈g.2.l,x.lines.l.length≤2∧x.moves.l.length≤10) (fun(g:Nat×Sl OutM)=>Y2.l.length-g.1) fun hM=>⟨gfin hM (chg:=fun(g:Nat×Sl OutM)=>[(5,.c (iC g.1))]) (bls:=fun(g:Nat×Sl OutM)=>stE [intsR d,iC q] ⟨h,R,B,X2,⟨A4.map fun b=>⟨b,0,none⟩,a4,U⟩,⟨A5.map fun b=>⟨b,0,none⟩,a5,S⟩,⟨A6.map fun b=>⟨b,0,none⟩,a6,T⟩,g.2⟩) (fls:=fun _=>[]) (0,nilS) ⟨Nat.zero_le _,Nat.zero_le 2,(fun _ h=>nomatch h)⟩ rfl ⟨rfl,rfl,rfl,rfl,rfl,rfl,rfl,rfl,rfl,rfl,rfl⟩ trivial rfl bL (stE_sc rfl) rfl,fun⟨i,Y⟩ hI=>VC_ok gT mxd ⟨fun h6=>VC_ok gT mxd ?_,fun h6=>VC_ok gT mxd ?_⟩⟩)))))))
 all_goals obtain⟨hi,hY2,hYo⟩:=(show i≤Y2.l.length∧Y.l.length≤2∧∀x∈Y.l,x.lines.l.length≤2∧x.moves.l.length≤10 from hI)
 ·obtain⟨h7,h8⟩:=(show(i:Int)<(Y2.l.length:Nat)∧((Y.l.length:Nat):Int)<2 from h6)
  have hil:i<Y2.l.length:=by omega
  have hx:=e11 (Y2.l.getD i out0) (gD_mem hil)
  refine⟨oE16,by kernel_rfl,_,_,fun _=>True,⟨i,⟨rfl,hil⟩,⟨⟨rfl,⟨ap0 (get:=fun j=>OutM.C (Y.l.getD j out0)) (fun _=>rfl) (fun _=>cO _) (show Y.l.length≤2000000 by omega) bL,men0,men0,men0,men0,men0,men0,rfl,rfl,apO2 (O:=Y.l) (x:=(Y2.l.getD i out0)) hY2,men0,men0,men0,men0,men0,men0,clo_men' (cO (Y2.l.getD i out0)),gsG 12 rfl bL clO2 bL rfl fun A a=>⟨_,rfl,_,rfl,_,rfl,_,rfl,_,rfl,_,rfl,_,map_id' sink_clo (cO (Y2.l.getD i out0)),gfree tGt 11 0 ((⟨h,R,B,X2,⟨A4.map fun b=>⟨b,0,none⟩,a4,U⟩,⟨A5.map fun b=>⟨b,0,none⟩,a5,S⟩,⟨A6.map fun b=>⟨b,0,none⟩,a6,T⟩,⟨A.map fun b=>⟨b,0,none⟩,a,Y.l++[(Y2.l.getD i out0)]⟩⟩:CaseM).C []) rfl rfl rfl rfl (frset (k0:=7) rfl frcO) (gfin hM (chg:=fun(g:Option Nat×Nat)=>[(6,.c (.p 11 0)),(5,.c (iC i))]) (bls:=fun(g:Option Nat×Nat)=>stE1 [intsR d,iC q] ⟨h,R,B,X2,⟨A4.map fun b=>⟨b,0,none⟩,a4,U⟩,⟨A5.map fun b=>⟨b,0,none⟩,a5,S⟩,⟨A6.map fun b=>⟨b,0,none⟩,a6,T⟩,Y⟩ ⟨h,R,B,X2,⟨A4.map fun b=>⟨b,0,none⟩,a4,U⟩,⟨A5.map fun b=>⟨b,0,none⟩,a5,S⟩,⟨A6.map fun b=>⟨b,0,none⟩,a6,T⟩,⟨g.1.map fun b=>⟨b,0,none⟩,g.2,Y.l++[(Y2.l.getD i out0)]⟩⟩) (fls:=fun _=>[]) (A,a) trivial rfl ⟨rfl,rfl,rfl,rfl,rfl,rfl,rfl,rfl,rfl,rfl,rfl,rfl⟩ trivial ⟨rfl,rfl⟩ bL stE1_sc rfl)⟩⟩,rfl,ap0 (get:=fun j=>OutM.C (Y.l.getD j out0)) (fun _=>rfl) (fun _=>cO _) (show Y.l.length≤2000000 by omega) bL,men0,men0,men0,men0,men0,men0,clo_men' (cO (Y2.l.getD i out0)),rfl,apO2 (O:=Y.l) (x:=(Y2.l.getD i out0)) hY2,men0,men0,men0,men0,men0,men0,clo_men' (cO (Y2.l.getD i out0)),gsG 12 rfl bL clO2 bL rfl fun A a=>⟨_,rfl,_,rfl,_,rfl,_,rfl,_,rfl,_,rfl,_,map_id' sink_clo (cO (Y2.l.getD i out0)),gfree tGt 11 0 ((⟨h,R,B,X2,⟨A4.map fun b=>⟨b,0,none⟩,a4,U⟩,⟨A5.map fun b=>⟨b,0,none⟩,a5,S⟩,⟨A6.map fun b=>⟨b,0,none⟩,a6,T⟩,⟨A.map fun b=>⟨b,0,none⟩,a,Y.l++[(Y2.l.getD i out0)]⟩⟩:CaseM).C []) rfl rfl rfl rfl (frset (k0:=7) rfl frcO) (gfin hM (chg:=fun(g:Option Nat×Nat)=>[(6,.c (.p 11 0)),(5,.c (iC i))]) (bls:=fun(g:Option Nat×Nat)=>stE1 [intsR d,iC q] ⟨h,R,B,X2,⟨A4.map fun b=>⟨b,0,none⟩,a4,U⟩,⟨A5.map fun b=>⟨b,0,none⟩,a5,S⟩,⟨A6.map fun b=>⟨b,0,none⟩,a6,T⟩,Y⟩ ⟨h,R,B,X2,⟨A4.map fun b=>⟨b,0,none⟩,a4,U⟩,⟨A5.map fun b=>⟨b,0,none⟩,a5,S⟩,⟨A6.map fun b=>⟨b,0,none⟩,a6,T⟩,⟨g.1.map fun b=>⟨b,0,none⟩,g.2,Y.l++[(Y2.l.getD i out0)]⟩⟩) (fls:=fun _=>[]) (A,a) trivial rfl ⟨rfl,rfl,rfl,rfl,rfl,rfl,rfl,rfl,rfl,rfl,rfl,rfl⟩ trivial ⟨rfl,rfl⟩ bL stE1_sc rfl)⟩⟩,rfl,rfl,ap0 (get:=fun j=>OutM.C (Y.l.getD j out0)) (fun _=>rfl) (fun _=>cO _) (show Y.l.length≤2000000 by omega) bL,men0,men0,men0,men0,men0,men0,clo_men' (cO (Y2.l.getD i out0)),rfl,apO2 (O:=Y.l) (x:=(Y2.l.getD i out0)) hY2,men0,men0,men0,men0,men0,men0,clo_men' (cO (Y2.l.getD i out0)),gsw (nb:=0) 12 13 rfl rfl bL bL rfl ⟨_,rfl,_,rfl,_,rfl,_,rfl,_,rfl,_,rfl,_,map_sw clO2,_,map_sw (cO (Y2.l.getD i out0)),bL,gsG 12 rfl bL clO2 bL rfl fun A a=>⟨_,rfl,_,rfl,_,rfl,_,rfl,_,rfl,_,rfl,_,map_id' sink_clo (cO (Y2.l.getD i out0)),gfree tGt 11 0 ((⟨h,R,B,X2,⟨A4.map fun b=>⟨b,0,none⟩,a4,U⟩,⟨A5.map fun b=>⟨b,0,none⟩,a5,S⟩,⟨A6.map fun b=>⟨b,0,none⟩,a6,T⟩,⟨A.map fun b=>⟨b,0,none⟩,a,Y.l++[(Y2.l.getD i out0)]⟩⟩:CaseM).C []) rfl rfl rfl rfl (frset (k0:=7) rfl frcO) (gfin hM (chg:=fun(g:Option Nat×Nat)=>[(6,.c (.p 11 0)),(5,.c (iC i))]) (bls:=fun(g:Option Nat×Nat)=>stE1 [intsR d,iC q] ⟨h,R,B,X2,⟨A4.map fun b=>⟨b,0,none⟩,a4,U⟩,⟨A5.map fun b=>⟨b,0,none⟩,a5,S⟩,⟨A6.map fun b=>⟨b,0,none⟩,a6,T⟩,Y⟩ ⟨h,R,B,X2,⟨A4.map fun b=>⟨b,0,none⟩,a4,U⟩,⟨A5.map fun b=>⟨b,0,none⟩,a5,S⟩,⟨A6.map fun b=>⟨b,0,none⟩,a6,T⟩,⟨g.1.map fun b=>⟨b,0,none⟩,g.2,Y.l++[(Y2.l.getD i out0)]⟩⟩) (fls:=fun _=>[]) (A,a) trivial rfl ⟨rfl,rfl,rfl,rfl,rfl,rfl,rfl,rfl,rfl,rfl,rfl,rfl⟩ trivial ⟨rfl,rfl⟩ bL stE1_sc rfl)⟩⟩⟩⟩,fun⟨A,a⟩ _=>⟨[],good_c (⟨h,R,B,X2,⟨A4.map fun b=>⟨b,0,none⟩,a4,U⟩,⟨A5.map fun b=>⟨b,0,none⟩,a5,S⟩,⟨A6.map fun b=>⟨b,0,none⟩,a6,T⟩,⟨A.map fun b=>⟨b,0,none⟩,a,Y.l++[(Y2.l.getD i out0)]⟩⟩:CaseM) (hSh ⟨A.map fun b=>⟨b,0,none⟩,a,Y.l++[(Y2.l.getD i out0)]⟩ ⟨by show(Y.l++[_]).length≤10;simp;omega,mem_snoc hYo hx⟩).1,rfl,rfl,rfl,fun _ _=>⟨fun _=>VC_ok gT mxd ⟨(i+1:Nat),wi,gfin hM (chg:=fun(g:Nat×Sl OutM)=>[(5,.c (iC g.1))]) (bls:=fun(g:Nat×Sl OutM)=>stE [intsR d,iC q] ⟨h,R,B,X2,⟨A4.map fun b=>⟨b,0,none⟩,a4,U⟩,⟨A5.map fun b=>⟨b,0,none⟩,a5,S⟩,⟨A6.map fun b=>⟨b,0,none⟩,a6,T⟩,g.2⟩) (fls:=fun _=>[]) (i+1,⟨A.map fun b=>⟨b,0,none⟩,a,Y.l++[(Y2.l.getD i out0)]⟩) ⟨⟨hil,by show(Y.l++[_]).length≤2;simp;omega,mem_snoc hYo hx⟩,show Y2.l.length-(i+1)<Y2.l.length-i by omega⟩ rfl ⟨rfl,rfl,rfl,rfl,rfl,rfl,rfl,rfl,rfl,rfl,rfl⟩ trivial rfl bL (stE_sc rfl) rfl⟩,fun _=>VC_ok gT mxd ⟨(i+1:Nat),wi,gfin hM (chg:=fun(g:Nat×Sl OutM)=>[(5,.c (iC g.1))]) (bls:=fun(g:Nat×Sl OutM)=>stE [intsR d,iC q] ⟨h,R,B,X2,⟨A4.map fun b=>⟨b,0,none⟩,a4,U⟩,⟨A5.map fun b=>⟨b,0,none⟩,a5,S⟩,⟨A6.map fun b=>⟨b,0,none⟩,a6,T⟩,g.2⟩) (fls:=fun _=>[]) (i+1,Y) ⟨⟨hil,hY2,hYo⟩,show Y2.l.length-(i+1)<Y2.l.length-i by omega⟩ rfl ⟨rfl,rfl,rfl,rfl,rfl,rfl,rfl,rfl,rfl,rfl,rfl⟩ trivial rfl bL (stE_sc rfl) rfl⟩⟩⟩⟩
 exact VC_ok gT mxd ⟨(⟨h,R,B,X2,⟨A4.map fun b=>⟨b,0,none⟩,a4,U⟩,⟨A5.map fun b=>⟨b,0,none⟩,a5,S⟩,⟨A6.map fun b=>⟨b,0,none⟩,a6,T⟩,Y⟩:CaseM),hSh Y ⟨by omega,hYo⟩,fin_of rfl rfl trivial⟩
end Go.Proofs.YtandhgfmfpmemaaGreat
namespace Go.Proofs.YtandhgfmfpmemaaGreat
open Go.Vg Go.RowKit _root_.Go.Proofs.Tryz
open Go.Vm hiding sg sg_t sg_f sg_abs sg_neg sg_add sg_mul sg_self sg_canon sg_pos sg_zero sg_eq_zero sg_lt
open Go.Vy hiding val
open Go.ChangeShapes Go.WideShapes
set_option maxHeartbeats 4000000
namespace bulks
theorem one_le {H:Type} (d:DataW H):1≤Rows.uptoBulk d:=by
 cases d with
 |lit l=>cases l<;>simp[Rows.uptoBulk]
 |nil=>simp[Rows.uptoBulk]
 |ptr d=>simp[Rows.uptoBulk]
 |slice elems spare=>simp[Rows.uptoBulk]
 |agg parts=>simp[Rows.uptoBulk]
 |iface t d=>simp[Rows.uptoBulk]
 |map entries=>simp[Rows.uptoBulk]
 |held h=>simp[Rows.uptoBulk]
theorem part_le {H:Type} {d:DataW H} {l:List (DataW H)} (h:d∈l):Rows.uptoBulk d≤Rows.uptoBulkAll l:=by
 induction l with
 |nil=>cases h
 |cons x r ih=>
  simp only[Rows.uptoBulkAll]
  cases List.mem_cons.1 h with
  |inl e=>subst e;omega
  |inr e=>have:=ih e;omega
theorem length_le {H:Type} (l:List (DataW H)):l.length≤Rows.uptoBulkAll l:=by
 induction l with
 |nil=>simp[Rows.uptoBulkAll]
 |cons x r ih=>have:=one_le x;simp only[Rows.uptoBulkAll,List.length_cons];omega
end bulks
def ρA:Pl:=⟨fun _=>(none,0),fun _=>True,[]⟩
section
variable {H:Type} {enc:TypeId×Value→H} {w:World} {base:Nat} {spare:Nat→Bool} {held:Bool}
theorem zA {b:Nat} (h:b<w.heap.size):Zf ρA 0 w b:=⟨h,fun i hi=>absurd hi (Nat.not_lt_zero _),trivial,fun⟨F,hF,_⟩=>by cases hF⟩
def Opn (H:Type) (enc:TypeId×Value→H) (w:World) (base:Nat) (spare:Nat→Bool) (held:Bool) (T:TypeId) {α:Type} (C:α→List CV) (B:Nat→α→Prop):Prop:=
 ∀fuel cs x,DataW.trod enc Tryz.prog w base spare held fuel T cs=some x→∃a:α,(Hl ρA 0 w (C a) cs∧∀u∈cs,u.oneCell'=true)∧B (Rows.uptoBulk x.1) a
theorem opn_int:Opn H enc w base spare held 3 (fun z:Int=>[iC z]) fun _ _=>True:=fun fuel cs x h=>by
 obtain⟨n,rfl,_,_⟩:=DataW.trod_int underlying3 h
 exact⟨n,⟨⟨Rc.v _,trivial⟩,fun u hu=>by rw[List.mem_singleton.1 hu];rfl⟩,trivial⟩
theorem opn_str:Opn H enc w base spare held 9 (fun s:ByteArray=>[sC s]) fun _ _=>True:=fun fuel cs x h=>by
 obtain⟨s,rfl,_,_⟩:=DataW.trod_string underlying9 h
 exact⟨s,⟨⟨Rc.v _,trivial⟩,fun u hu=>by rw[List.mem_singleton.1 hu];rfl⟩,trivial⟩
theorem opn_bool:Opn H enc w base spare held 4 (fun b:Bool=>[.b (b=true) inferInstance]) fun _ _=>True:=fun fuel cs x h=>by
 obtain⟨b,rfl,_⟩:=DataW.trod_bool underlying4 h
 have h1:Rc (Zf ρA 0 w) w (.b (b=true) inferInstance) (.bool (decide (b=true))):=Rc.b _ _
 have h2:decide (b=true)=b:=by cases b<;>rfl
 rw[h2] at h1
 exact⟨b,⟨⟨h1,trivial⟩,fun u hu=>by rw[List.mem_singleton.1 hu];rfl⟩,trivial⟩
theorem rgetD {α:Type} {f:Nat→α} {n j:Nat} {d:α} (h:j<n):((List.range n).map f).getD j d=f j:=by simp[List.getD,h]
theorem opn_sl {T E e:Nat} {α:Type} {C:α→List CV} {B:Nat→α→Prop} (hT:Tryz.prog.underlying T=some (.slice E)) (hE:Tryz.prog.cellsOf E=e) (he:0<e) (hC:∀a,(C a).length=e) (hcl:∀a,∀c∈C a,cloC c=true) (d:α) (hO:Opn H enc w base spare held E C B) (hB:∀m n a,m≤n→B m a→B n a):
 Opn H enc w base spare held T (fun s:Sl α=>[s.R e C d]) fun n s=>s.l.length≤n∧∀x∈s.l,B n x:=fun fuel cs x h=>by
 rcases Go.Deep.open_slice hT h with ⟨rfl,rfl⟩|⟨a,len,cap,m,n,D,Pl,rfl,hb,hl,hm,hmm,rfl,hx⟩
 ·exact⟨nilS,⟨⟨Rc.nil _ _ _ _ (Nat.zero_le _),trivial⟩,fun u hu=>by rw[List.mem_singleton.1 hu];rfl⟩,Nat.zero_le _,fun _ h=>nomatch h⟩
 rw[hE] at hx
 have hlm:len≤m:=by rw[hmm];split<;>omega
 have each:∀i,i<len→∃q:α×List Value,w.cells? base (a.add (i*e)) e=some q.2∧(Hl ρA 0 w (C q.1) q.2∧∀u∈q.2,u.oneCell'=true)∧B (Rows.uptoBulk (D i)) q.1:=fun i hi=>by
  obtain⟨cs',h1,h2⟩:=hx i oM
  obtain⟨y,h3,h4⟩:=hO _ _ _ h2
  exact⟨(y,cs'),h1,h3,h4⟩
 have hlb:len≤Rows.uptoBulkAll ((List.range len).map D):=by
  have:=bulks.length_le ((List.range len).map D)
  rwa [List.length_map,List.length_range] at this
 by_cases h0:len=0
 ·subst h0
  exact⟨⟨some a,cap,[]⟩,⟨⟨Rc.nil _ _ _ _ hm,trivial⟩,fun u hu=>by rw[List.mem_singleton.1 hu];rfl⟩,Nat.zero_le _,fun _ h=>nomatch h⟩
 haveI:Inhabited (α×List Value):=⟨(d,[])⟩
 obtain⟨q,hq⟩:=Go.Deep.choose_lt each
 have cell:∀i,i<len→∀j (u:Value),((q i).2)[j]? =some u→w.cell? (a.add (i*e+j))=some u:=fun i hi j u hu=>by
  obtain⟨_,h2,h3⟩:=World.cells?_some (hq i hi).1
  have h4:=h3 j (by rw[←h2];exact get_lt hu)
  rw[Go.Deep.add_add,hu] at h4
  exact h4
 have l0:0<((q 0).2).length:=by rw[←(hq 0 oM).2.1.1.len,hC];exact he
 have c0:=cell 0 oM 0 _ (List.getElem?_eq_getElem l0)
 obtain⟨b,o,spot⟩:=a
 have hspot:spot=none:=by simpa[Addr.add] using World.cell?_spot c0
 subst hspot
 have hlt:b<w.heap.size:=by
  rw[add_spotless] at c0
  unfold World.cell? at c0
  cases hh:w.heap[b]? with
  |none=>rw[show((⟨b,o+(0*e+0),none⟩:Addr).block)=b from rfl,hh] at c0;cases c0
  |some ob=>exact(Array.getElem?_eq_some_iff.1 hh).1
 refine⟨⟨some ⟨b,o,none⟩,cap,(List.range len).map fun i=>(q i).1⟩,⟨⟨?_,trivial⟩,fun u hu=>by rw[List.mem_singleton.1 hu];rfl⟩,?_,fun x hx=>?_⟩
 ·show Rc (Zf ρA 0 w) w (.r (some ⟨b,o,none⟩) ((List.range len).map fun i=>(q i).1).length cap e fun j=>C (((List.range len).map fun i=>(q i).1).getD j d)) (.slice (some ⟨b,o,none⟩) len cap)
  rw[List.length_map,List.length_range]
  refine Rc.r b o len cap e _ (fun i=>(q i).2) hl hm (zA hlt) (fun j hj i u hu=>⟨?_,(hq j hj).2.1.2 u (List.mem_of_getElem? hu)⟩) (fun j hj=>?_) fun j hj i c u h1 h2=>?_
  ·have:=cell j hj i u hu
   rw[add_spotless] at this
   rw[Nat.add_assoc]
   exact this
  ·rw[rgetD hj]
   exact(hq j hj).2.1.1.len.symm
  rw[rgetD hj] at h1
  obtain⟨y,h3,h4⟩:=(hq j hj).2.1.1.get h1
  rw[h2] at h3
  injection h3 with h3
  subst h3
  exact rc_of h4 (hcl _ c (List.mem_of_getElem? h1))
 ·show((List.range len).map fun i=>(q i).1).length≤_
  rw[List.length_map,List.length_range]
  simp only[Rows.uptoBulk]
  omega
 obtain⟨i,hi,rfl⟩:=List.mem_map.1 hx
 rw[List.mem_range] at hi
 have h5:=bulks.part_le (d:=D i) (l:=(List.range len).map D) (List.mem_map.2 ⟨i,List.mem_range.2 hi,rfl⟩)
 exact hB _ _ _ (by simp only[Rows.uptoBulk];omega) (hq i hi).2.2
theorem fld {fs:Array Field} {cs:List Value} {xs:List (DataW H×List MemPlace)} {n:Nat} (hf:∀(i:Nat) (f:Field),fs[i]? =some f→DataW.trod enc Tryz.prog w base spare held n f.type ((cs.drop f.offset).take (Tryz.prog.cellsOf f.type))=xs[i]?) (hx:xs.length=fs.size) (i:Nat) {f:Field} (hi:fs[i]? =some f) (t o k:Nat) (hk:Tryz.prog.cellsOf t=k) (ht:f.type=t:=by rfl) (ho:f.offset=o:=by rfl) {α:Type} {C:α→List CV} {B:Nat→α→Prop} (hO:Opn H enc w base spare held t C B) (hB:∀m n a,m≤n→B m a→B n a):
 ∃a:α,(Hl ρA 0 w (C a) ((cs.drop o).take k)∧∀u∈(cs.drop o).take k,u.oneCell'=true)∧B (Rows.uptoBulk (.agg (xs.map (·.1)))) a:=by
 have h:=hf i f hi
 rw[ht,ho,hk] at h
 have hlt:i<xs.length:=by rw[hx];exact(Array.getElem?_eq_some_iff.1 hi).1
 rw[List.getElem?_eq_getElem hlt] at h
 obtain⟨a,h1,h2⟩:=hO _ _ _ h
 have h3:=bulks.part_le (d:=xs[i].1) (l:=xs.map (·.1)) (List.mem_map.2 ⟨xs[i],List.getElem_mem hlt,rfl⟩)
 exact⟨a,h1,hB _ _ a (by simp only[Rows.uptoBulk];omega) h2⟩
theorem hlS {l r:List CV} {cs:List Value} {o k:Nat} (h1:Hl ρA 0 w l ((cs.drop o).take k)∧∀u∈(cs.drop o).take k,u.oneCell'=true) (h2:Hl ρA 0 w r (cs.drop (o+k))∧∀u∈cs.drop (o+k),u.oneCell'=true):Hl ρA 0 w (l++r) (cs.drop o)∧∀u∈cs.drop o,u.oneCell'=true:=by
 have e:(cs.drop o).take k++cs.drop (o+k)=cs.drop o:=by rw[←List.drop_drop,List.take_append_drop]
 rw[←e]
 refine⟨h1.1.append h2.1,fun u hu=>?_⟩
 rcases List.mem_append.1 hu with hu|hu
 ·exact h1.2 u hu
 exact h2.2 u hu
theorem hl0 {cs:List Value} {o:Nat} (h:cs.length=o):Hl ρA 0 w [] (cs.drop o)∧∀u∈cs.drop o,u.oneCell'=true:=by
 rw[List.drop_eq_nil_of_le oM]
 exact⟨trivial,fun _ h=>nomatch h⟩
def FracM.C (f:FracM):List CV:=[iC f.num,iC f.den]
theorem opn_frac:Opn H enc w base spare held 69 (FracM.C) fun _ _=>True:=fun fuel cs x h=>by
 obtain⟨xs,n,_,rfl,hl,hxl,hf⟩:=DataW.trod_struct underlying69 h
 obtain⟨a0,h0,b0⟩:=fld hf hxl 0 rfl 3 0 1 kR (hO:=opn_int) (hB:=(fun _ _ _ _ _=>trivial))
 obtain⟨a1,h1,b1⟩:=fld hf hxl 1 rfl 3 1 1 kR (hO:=opn_int) (hB:=(fun _ _ _ _ _=>trivial))
 have hl2:cs.length=2:=hl.trans kR
 exact⟨⟨a0,a1⟩,hlS h0 (hlS h1 (hl0 hl2)),trivial⟩
theorem opn_bus:Opn H enc w base spare held 59 (BusM.C) fun n b=>b.demand.l.length≤n:=fun fuel cs x h=>by
 obtain⟨xs,n,_,rfl,hl,hxl,hf⟩:=DataW.trod_struct underlying59 h
 obtain⟨a0,h0,b0⟩:=fld hf hxl 0 rfl 9 0 1 kR (hO:=opn_str) (hB:=(fun _ _ _ _ _=>trivial))
 obtain⟨a1,h1,b1⟩:=fld hf hxl 1 rfl 22 1 1 kR (hO:=(opn_sl (e:=1) (C:=(fun z:Int=>[iC z])) underlying22 kR bL (fun _=>rfl) (fun _=>all_clo rfl) 0 opn_int (fun _ _ _ _ _=>trivial))) (hB:=(fun m n a h1 h2=>⟨Nat.le_trans h2.1 h1,fun x hx=>(fun _ _ _ _ _=>trivial) m n x h1 (h2.2 x hx)⟩))
 obtain⟨a2,h2,b2⟩:=fld hf hxl 2 rfl 3 2 1 kR (hO:=opn_int) (hB:=(fun _ _ _ _ _=>trivial))
 have hl2:cs.length=3:=hl.trans kR
 exact⟨⟨a0,a1,a2⟩,hlS h0 (hlS h1 (hlS h2 (hl0 hl2))),b1.1⟩
theorem opn_line:Opn H enc w base spare held 71 (LineM.C) fun n b=>b.away.l.length≤n:=fun fuel cs x h=>by
 obtain⟨xs,n,_,rfl,hl,hxl,hf⟩:=DataW.trod_struct underlying71 h
 obtain⟨a0,h0,b0⟩:=fld hf hxl 0 rfl 9 0 1 kR (hO:=opn_str) (hB:=(fun _ _ _ _ _=>trivial))
 obtain⟨a1,h1,b1⟩:=fld hf hxl 1 rfl 3 1 1 kR (hO:=opn_int) (hB:=(fun _ _ _ _ _=>trivial))
 obtain⟨a2,h2,b2⟩:=fld hf hxl 2 rfl 3 2 1 kR (hO:=opn_int) (hB:=(fun _ _ _ _ _=>trivial))
 obtain⟨a3,h3,b3⟩:=fld hf hxl 3 rfl 69 3 2 kR (hO:=opn_frac) (hB:=(fun _ _ _ _ _=>trivial))
 obtain⟨a4,h4,b4⟩:=fld hf hxl 4 rfl 69 5 2 kR (hO:=opn_frac) (hB:=(fun _ _ _ _ _=>trivial))
 obtain⟨a5,h5,b5⟩:=fld hf hxl 5 rfl 69 7 2 kR (hO:=opn_frac) (hB:=(fun _ _ _ _ _=>trivial))
 obtain⟨a6,h6,b6⟩:=fld hf hxl 6 rfl 3 9 1 kR (hO:=opn_int) (hB:=(fun _ _ _ _ _=>trivial))
 obtain⟨a7,h7,b7⟩:=fld hf hxl 7 rfl 3 10 1 kR (hO:=opn_int) (hB:=(fun _ _ _ _ _=>trivial))
 obtain⟨a8,h8,b8⟩:=fld hf hxl 8 rfl 22 11 1 kR (hO:=(opn_sl (e:=1) (C:=(fun z:Int=>[iC z])) underlying22 kR bL (fun _=>rfl) (fun _=>all_clo rfl) 0 opn_int (fun _ _ _ _ _=>trivial))) (hB:=(fun m n a h1 h2=>⟨Nat.le_trans h2.1 h1,fun x hx=>(fun _ _ _ _ _=>trivial) m n x h1 (h2.2 x hx)⟩))
 have hl2:cs.length=12:=hl.trans kR
 exact⟨⟨a0,a1,a2,a3,a4,a5,a6,a7,a8⟩,hlS h0 (hlS h1 (hlS h2 (hlS h3 (hlS h4 (hlS h5 (hlS h6 (hlS h7 (hlS h8 (hl0 hl2))))))))),b8.1⟩
theorem opn_seg:Opn H enc w base spare held 93 (SegM.C) fun _ _=>True:=fun fuel cs x h=>by
 obtain⟨xs,n,_,rfl,hl,hxl,hf⟩:=DataW.trod_struct underlying93 h
 obtain⟨a0,h0,b0⟩:=fld hf hxl 0 rfl 3 0 1 kR (hO:=opn_int) (hB:=(fun _ _ _ _ _=>trivial))
 obtain⟨a1,h1,b1⟩:=fld hf hxl 1 rfl 3 1 1 kR (hO:=opn_int) (hB:=(fun _ _ _ _ _=>trivial))
 have hl2:cs.length=2:=hl.trans kR
 exact⟨⟨a0,a1⟩,hlS h0 (hlS h1 (hl0 hl2)),trivial⟩
theorem opn_unit:Opn H enc w base spare held 42 (UnitM.C) fun n b=>b.segs.l.length≤n∧b.away.l.length≤n:=fun fuel cs x h=>by
 obtain⟨xs,n,_,rfl,hl,hxl,hf⟩:=DataW.trod_struct underlying42 h
 obtain⟨a0,h0,b0⟩:=fld hf hxl 0 rfl 9 0 1 kR (hO:=opn_str) (hB:=(fun _ _ _ _ _=>trivial))
 obtain⟨a1,h1,b1⟩:=fld hf hxl 1 rfl 3 1 1 kR (hO:=opn_int) (hB:=(fun _ _ _ _ _=>trivial))
 obtain⟨a2,h2,b2⟩:=fld hf hxl 2 rfl 3 2 1 kR (hO:=opn_int) (hB:=(fun _ _ _ _ _=>trivial))
 obtain⟨a3,h3,b3⟩:=fld hf hxl 3 rfl 3 3 1 kR (hO:=opn_int) (hB:=(fun _ _ _ _ _=>trivial))
 obtain⟨a4,h4,b4⟩:=fld hf hxl 4 rfl 40 4 1 kR (hO:=(opn_sl (e:=2) (C:=SegM.C) underlying40 kR bL (fun _=>rfl) (fun _=>all_clo rfl) ⟨0,0⟩ opn_seg (fun _ _ _ _ _=>trivial))) (hB:=(fun m n a h1 h2=>⟨Nat.le_trans h2.1 h1,fun x hx=>(fun _ _ _ _ _=>trivial) m n x h1 (h2.2 x hx)⟩))
 obtain⟨a5,h5,b5⟩:=fld hf hxl 5 rfl 3 5 1 kR (hO:=opn_int) (hB:=(fun _ _ _ _ _=>trivial))
 obtain⟨a6,h6,b6⟩:=fld hf hxl 6 rfl 3 6 1 kR (hO:=opn_int) (hB:=(fun _ _ _ _ _=>trivial))
 obtain⟨a7,h7,b7⟩:=fld hf hxl 7 rfl 3 7 1 kR (hO:=opn_int) (hB:=(fun _ _ _ _ _=>trivial))
 obtain⟨a8,h8,b8⟩:=fld hf hxl 8 rfl 3 8 1 kR (hO:=opn_int) (hB:=(fun _ _ _ _ _=>trivial))
 obtain⟨a9,h9,b9⟩:=fld hf hxl 9 rfl 3 9 1 kR (hO:=opn_int) (hB:=(fun _ _ _ _ _=>trivial))
 obtain⟨a10,h10,b10⟩:=fld hf hxl 10 rfl 3 10 1 kR (hO:=opn_int) (hB:=(fun _ _ _ _ _=>trivial))
 obtain⟨a11,h11,b11⟩:=fld hf hxl 11 rfl 3 11 1 kR (hO:=opn_int) (hB:=(fun _ _ _ _ _=>trivial))
 obtain⟨a12,h12,b12⟩:=fld hf hxl 12 rfl 3 12 1 kR (hO:=opn_int) (hB:=(fun _ _ _ _ _=>trivial))
 obtain⟨a13,h13,b13⟩:=fld hf hxl 13 rfl 3 13 1 kR (hO:=opn_int) (hB:=(fun _ _ _ _ _=>trivial))
 obtain⟨a14,h14,b14⟩:=fld hf hxl 14 rfl 3 14 1 kR (hO:=opn_int) (hB:=(fun _ _ _ _ _=>trivial))
 obtain⟨a15,h15,b15⟩:=fld hf hxl 15 rfl 3 15 1 kR (hO:=opn_int) (hB:=(fun _ _ _ _ _=>trivial))
 obtain⟨a16,h16,b16⟩:=fld hf hxl 16 rfl 3 16 1 kR (hO:=opn_int) (hB:=(fun _ _ _ _ _=>trivial))
 obtain⟨a17,h17,b17⟩:=fld hf hxl 17 rfl 3 17 1 kR (hO:=opn_int) (hB:=(fun _ _ _ _ _=>trivial))
 obtain⟨a18,h18,b18⟩:=fld hf hxl 18 rfl 22 18 1 kR (hO:=(opn_sl (e:=1) (C:=(fun z:Int=>[iC z])) underlying22 kR bL (fun _=>rfl) (fun _=>all_clo rfl) 0 opn_int (fun _ _ _ _ _=>trivial))) (hB:=(fun m n a h1 h2=>⟨Nat.le_trans h2.1 h1,fun x hx=>(fun _ _ _ _ _=>trivial) m n x h1 (h2.2 x hx)⟩))
 obtain⟨a19,h19,b19⟩:=fld hf hxl 19 rfl 3 19 1 kR (hO:=opn_int) (hB:=(fun _ _ _ _ _=>trivial))
 obtain⟨a20,h20,b20⟩:=fld hf hxl 20 rfl 3 20 1 kR (hO:=opn_int) (hB:=(fun _ _ _ _ _=>trivial))
 obtain⟨a21,h21,b21⟩:=fld hf hxl 21 rfl 3 21 1 kR (hO:=opn_int) (hB:=(fun _ _ _ _ _=>trivial))
 have hl2:cs.length=22:=hl.trans kR
 exact⟨⟨a0,a1,a2,a3,a4,a5,a6,a7,a8,a9,a10,a11,a12,a13,a14,a15,a16,a17,a18,a19,a20,a21⟩,hlS h0 (hlS h1 (hlS h2 (hlS h3 (hlS h4 (hlS h5 (hlS h6 (hlS h7 (hlS h8 (hlS h9 (hlS h10 (hlS h11 (hlS h12 (hlS h13 (hlS h14 (hlS h15 (hlS h16 (hlS h17 (hlS h18 (hlS h19 (hlS h20 (hlS h21 (hl0 hl2)))))))))))))))))))))),⟨b4.1,b18.1⟩⟩
theorem opn_store:Opn H enc w base spare held 75 (StoreM.C) fun _ _=>True:=fun fuel cs x h=>by
 obtain⟨xs,n,_,rfl,hl,hxl,hf⟩:=DataW.trod_struct underlying75 h
 obtain⟨a0,h0,b0⟩:=fld hf hxl 0 rfl 9 0 1 kR (hO:=opn_str) (hB:=(fun _ _ _ _ _=>trivial))
 obtain⟨a1,h1,b1⟩:=fld hf hxl 1 rfl 3 1 1 kR (hO:=opn_int) (hB:=(fun _ _ _ _ _=>trivial))
 obtain⟨a2,h2,b2⟩:=fld hf hxl 2 rfl 3 2 1 kR (hO:=opn_int) (hB:=(fun _ _ _ _ _=>trivial))
 obtain⟨a3,h3,b3⟩:=fld hf hxl 3 rfl 3 3 1 kR (hO:=opn_int) (hB:=(fun _ _ _ _ _=>trivial))
 obtain⟨a4,h4,b4⟩:=fld hf hxl 4 rfl 3 4 1 kR (hO:=opn_int) (hB:=(fun _ _ _ _ _=>trivial))
 obtain⟨a5,h5,b5⟩:=fld hf hxl 5 rfl 3 5 1 kR (hO:=opn_int) (hB:=(fun _ _ _ _ _=>trivial))
 obtain⟨a6,h6,b6⟩:=fld hf hxl 6 rfl 3 6 1 kR (hO:=opn_int) (hB:=(fun _ _ _ _ _=>trivial))
 obtain⟨a7,h7,b7⟩:=fld hf hxl 7 rfl 69 7 2 kR (hO:=opn_frac) (hB:=(fun _ _ _ _ _=>trivial))
 have hl2:cs.length=9:=hl.trans kR
 exact⟨⟨a0,a1,a2,a3,a4,a5,a6,a7⟩,hlS h0 (hlS h1 (hlS h2 (hlS h3 (hlS h4 (hlS h5 (hlS h6 (hlS h7 (hl0 hl2)))))))),trivial⟩
theorem opn_tie:Opn H enc w base spare held 77 (TieM.C) fun n b=>b.imp.l.length≤n∧b.exp.l.length≤n∧b.price.l.length≤n:=fun fuel cs x h=>by
 obtain⟨xs,n,_,rfl,hl,hxl,hf⟩:=DataW.trod_struct underlying77 h
 obtain⟨a0,h0,b0⟩:=fld hf hxl 0 rfl 9 0 1 kR (hO:=opn_str) (hB:=(fun _ _ _ _ _=>trivial))
 obtain⟨a1,h1,b1⟩:=fld hf hxl 1 rfl 3 1 1 kR (hO:=opn_int) (hB:=(fun _ _ _ _ _=>trivial))
 obtain⟨a2,h2,b2⟩:=fld hf hxl 2 rfl 22 2 1 kR (hO:=(opn_sl (e:=1) (C:=(fun z:Int=>[iC z])) underlying22 kR bL (fun _=>rfl) (fun _=>all_clo rfl) 0 opn_int (fun _ _ _ _ _=>trivial))) (hB:=(fun m n a h1 h2=>⟨Nat.le_trans h2.1 h1,fun x hx=>(fun _ _ _ _ _=>trivial) m n x h1 (h2.2 x hx)⟩))
 obtain⟨a3,h3,b3⟩:=fld hf hxl 3 rfl 22 3 1 kR (hO:=(opn_sl (e:=1) (C:=(fun z:Int=>[iC z])) underlying22 kR bL (fun _=>rfl) (fun _=>all_clo rfl) 0 opn_int (fun _ _ _ _ _=>trivial))) (hB:=(fun m n a h1 h2=>⟨Nat.le_trans h2.1 h1,fun x hx=>(fun _ _ _ _ _=>trivial) m n x h1 (h2.2 x hx)⟩))
 obtain⟨a4,h4,b4⟩:=fld hf hxl 4 rfl 22 4 1 kR (hO:=(opn_sl (e:=1) (C:=(fun z:Int=>[iC z])) underlying22 kR bL (fun _=>rfl) (fun _=>all_clo rfl) 0 opn_int (fun _ _ _ _ _=>trivial))) (hB:=(fun m n a h1 h2=>⟨Nat.le_trans h2.1 h1,fun x hx=>(fun _ _ _ _ _=>trivial) m n x h1 (h2.2 x hx)⟩))
 have hl2:cs.length=5:=hl.trans kR
 exact⟨⟨a0,a1,a2,a3,a4⟩,hlS h0 (hlS h1 (hlS h2 (hlS h3 (hlS h4 (hl0 hl2))))),⟨b2.1,b3.1,b4.1⟩⟩
theorem opn_move:Opn H enc w base spare held 82 (MoveM.C) fun _ _=>True:=fun fuel cs x h=>by
 obtain⟨xs,n,_,rfl,hl,hxl,hf⟩:=DataW.trod_struct underlying82 h
 obtain⟨a0,h0,b0⟩:=fld hf hxl 0 rfl 3 0 1 kR (hO:=opn_int) (hB:=(fun _ _ _ _ _=>trivial))
 obtain⟨a1,h1,b1⟩:=fld hf hxl 1 rfl 3 1 1 kR (hO:=opn_int) (hB:=(fun _ _ _ _ _=>trivial))
 obtain⟨a2,h2,b2⟩:=fld hf hxl 2 rfl 3 2 1 kR (hO:=opn_int) (hB:=(fun _ _ _ _ _=>trivial))
 have hl2:cs.length=3:=hl.trans kR
 exact⟨⟨a0,a1,a2⟩,hlS h0 (hlS h1 (hlS h2 (hl0 hl2))),trivial⟩
theorem opn_out:Opn H enc w base spare held 47 (OutM.C) fun n b=>b.lines.l.length≤n∧b.moves.l.length≤n:=fun fuel cs x h=>by
 obtain⟨xs,n,_,rfl,hl,hxl,hf⟩:=DataW.trod_struct underlying47 h
 obtain⟨a0,h0,b0⟩:=fld hf hxl 0 rfl 9 0 1 kR (hO:=opn_str) (hB:=(fun _ _ _ _ _=>trivial))
 obtain⟨a1,h1,b1⟩:=fld hf hxl 1 rfl 22 1 1 kR (hO:=(opn_sl (e:=1) (C:=(fun z:Int=>[iC z])) underlying22 kR bL (fun _=>rfl) (fun _=>all_clo rfl) 0 opn_int (fun _ _ _ _ _=>trivial))) (hB:=(fun m n a h1 h2=>⟨Nat.le_trans h2.1 h1,fun x hx=>(fun _ _ _ _ _=>trivial) m n x h1 (h2.2 x hx)⟩))
 obtain⟨a2,h2,b2⟩:=fld hf hxl 2 rfl 4 2 1 kR (hO:=opn_bool) (hB:=(fun _ _ _ _ _=>trivial))
 obtain⟨a3,h3,b3⟩:=fld hf hxl 3 rfl 45 3 1 kR (hO:=(opn_sl (e:=3) (C:=MoveM.C) underlying45 kR bL (fun _=>rfl) (fun _=>all_clo rfl) ⟨0,0,0⟩ opn_move (fun _ _ _ _ _=>trivial))) (hB:=(fun m n a h1 h2=>⟨Nat.le_trans h2.1 h1,fun x hx=>(fun _ _ _ _ _=>trivial) m n x h1 (h2.2 x hx)⟩))
 have hl2:cs.length=4:=hl.trans kR
 exact⟨⟨a0,a1,a2,a3⟩,hlS h0 (hlS h1 (hlS h2 (hlS h3 (hl0 hl2)))),⟨b1.1,b3.1⟩⟩
theorem opn_case:Opn H enc w base spare held 30 (fun C:CaseM=>C.C []) fun n C=>C.reserve.l.length≤n∧(C.buses.l.length≤n∧∀x∈C.buses.l,x.demand.l.length≤n)∧(C.lines.l.length≤n∧∀x∈C.lines.l,x.away.l.length≤n)∧(C.units.l.length≤n∧∀x∈C.units.l,x.segs.l.length≤n∧x.away.l.length≤n)∧C.stores.l.length≤n∧(C.ties.l.length≤n∧∀x∈C.ties.l,x.imp.l.length≤n∧x.exp.l.length≤n∧x.price.l.length≤n)∧C.outs.l.length≤n∧∀x∈C.outs.l,x.lines.l.length≤n∧x.moves.l.length≤n:=fun fuel cs x h=>by
 obtain⟨xs,n,_,rfl,hl,hxl,hf⟩:=DataW.trod_struct underlying30 h
 obtain⟨a0,h0,b0⟩:=fld hf hxl 0 rfl 3 0 1 kR (hO:=opn_int) (hB:=(fun _ _ _ _ _=>trivial))
 obtain⟨a1,h1,b1⟩:=fld hf hxl 1 rfl 22 1 1 kR (hO:=(opn_sl (e:=1) (C:=(fun z:Int=>[iC z])) underlying22 kR bL (fun _=>rfl) (fun _=>all_clo rfl) 0 opn_int (fun _ _ _ _ _=>trivial))) (hB:=(fun m n a h1 h2=>⟨Nat.le_trans h2.1 h1,fun x hx=>(fun _ _ _ _ _=>trivial) m n x h1 (h2.2 x hx)⟩))
 obtain⟨a2,h2,b2⟩:=fld hf hxl 2 rfl 23 2 1 kR (hO:=(opn_sl (e:=3) (C:=BusM.C) underlying23 kR bL (fun _=>rfl) (fun _=>all_clo rfl) bus0 opn_bus (fun m n a h1 h2=>Nat.le_trans h2 h1))) (hB:=(fun m n a h1 h2=>⟨Nat.le_trans h2.1 h1,fun x hx=>(fun m n a h1 h2=>Nat.le_trans h2 h1) m n x h1 (h2.2 x hx)⟩))
 obtain⟨a3,h3,b3⟩:=fld hf hxl 3 rfl 24 3 1 kR (hO:=(opn_sl (e:=12) (C:=LineM.C) underlying24 kR bL (fun _=>rfl) (fun _=>all_clo rfl) line0 opn_line (fun m n a h1 h2=>Nat.le_trans h2 h1))) (hB:=(fun m n a h1 h2=>⟨Nat.le_trans h2.1 h1,fun x hx=>(fun m n a h1 h2=>Nat.le_trans h2 h1) m n x h1 (h2.2 x hx)⟩))
 obtain⟨a4,h4,b4⟩:=fld hf hxl 4 rfl 25 4 1 kR (hO:=(opn_sl (e:=22) (C:=UnitM.C) underlying25 kR bL (fun _=>rfl) (fun _=>all_clo rfl) unit0 opn_unit (fun m n a h1 h2=>⟨Nat.le_trans h2.1 h1,Nat.le_trans h2.2 h1⟩))) (hB:=(fun m n a h1 h2=>⟨Nat.le_trans h2.1 h1,fun x hx=>(fun m n a h1 h2=>⟨Nat.le_trans h2.1 h1,Nat.le_trans h2.2 h1⟩) m n x h1 (h2.2 x hx)⟩))
 obtain⟨a5,h5,b5⟩:=fld hf hxl 5 rfl 26 5 1 kR (hO:=(opn_sl (e:=9) (C:=StoreM.C) underlying26 kR bL (fun _=>rfl) (fun _=>all_clo rfl) store0 opn_store (fun _ _ _ _ _=>trivial))) (hB:=(fun m n a h1 h2=>⟨Nat.le_trans h2.1 h1,fun x hx=>(fun _ _ _ _ _=>trivial) m n x h1 (h2.2 x hx)⟩))
 obtain⟨a6,h6,b6⟩:=fld hf hxl 6 rfl 27 6 1 kR (hO:=(opn_sl (e:=5) (C:=TieM.C) underlying27 kR bL (fun _=>rfl) (fun _=>all_clo rfl) tie0 opn_tie (fun m n a h1 h2=>⟨Nat.le_trans h2.1 h1,Nat.le_trans h2.2.1 h1,Nat.le_trans h2.2.2 h1⟩))) (hB:=(fun m n a h1 h2=>⟨Nat.le_trans h2.1 h1,fun x hx=>(fun m n a h1 h2=>⟨Nat.le_trans h2.1 h1,Nat.le_trans h2.2.1 h1,Nat.le_trans h2.2.2 h1⟩) m n x h1 (h2.2 x hx)⟩))
 obtain⟨a7,h7,b7⟩:=fld hf hxl 7 rfl 28 7 1 kR (hO:=(opn_sl (e:=4) (C:=OutM.C) underlying28 kR bL (fun _=>rfl) (fun _=>all_clo rfl) out0 opn_out (fun m n a h1 h2=>⟨Nat.le_trans h2.1 h1,Nat.le_trans h2.2 h1⟩))) (hB:=(fun m n a h1 h2=>⟨Nat.le_trans h2.1 h1,fun x hx=>(fun m n a h1 h2=>⟨Nat.le_trans h2.1 h1,Nat.le_trans h2.2 h1⟩) m n x h1 (h2.2 x hx)⟩))
 have hl2:cs.length=8:=hl.trans kR
 exact⟨⟨a0,a1,a2,a3,a4,a5,a6,a7⟩,hlS h0 (hlS h1 (hlS h2 (hlS h3 (hlS h4 (hlS h5 (hlS h6 (hlS h7 (hl0 hl2)))))))),⟨b1.1,b2,b3,b4,b5.1,b6,b7⟩⟩
end
end Go.Proofs.YtandhgfmfpmemaaGreat
namespace Go.Proofs.YtandhgfmfpmemaaGreat
open Go.Vg Go.RowKit _root_.Go.Proofs.Tryz
open Go.Vm hiding sg sg_t sg_f sg_abs sg_neg sg_add sg_mul sg_self sg_canon sg_pos sg_zero sg_eq_zero sg_lt
open Go.Vy hiding val
set_option linter.unusedVariables false
theorem law_all (C:CaseM) (d:Sl Int) (L:Int) (near:Bool) (hB:Bd C):Ctr Tryz.prog fLaw [] [.a (C.C []),.c (intsR d),.c (iC L),.c (.v (.bool near))] [] ptR:=by
 cases near with
 |false=>exact law_far C d L hB
 |true=>exact law_near C d L fun h=>scase_c d (by omega)
theorem gDn {α:Type} {L:List α} {d:α} {p:α→Nat} {n:Nat} (h:∀x∈L,p x≤n) (hn:n≤2000000) (h0:p d≤2000000:=by decide) (j:Nat):p (L.getD j d)≤2000000:=gDl (fun x hx=>Nat.le_trans (h x hx) hn) h0 j
namespace executiveCurtailedDone
open Go.ChangeShapes Go.WideShapes Go.ChangeAt
theorem own:ownKnob Tryz.prog.godebug=none:=by kernel_rfl
theorem laidOut:laidOutB Tryz.prog=true:=by kernel_rfl
set_option maxRecDepth 100000 in
theorem contract (H:Type) (enc:TypeId×Value→H) (W:World) (base:Nat) (args:Array Value) (ds gs:List (DataW H)) (before:List MemPlace)
 (hval0:∀(j:Nat) t v,Tryz.f3.params[j]? =some t→args[j]? =some v→Value.okWide Tryz.prog W .any base t v)
 (hW:DataW.Whole enc Tryz.prog Tryz.f3.params.toList Rows.executiveCurtailedSpec.vars false W args.toList ds gs before) (hk:Rows.uptoSmall H (ds++gs)=true):
 Calls Tryz.prog 3 args W fun e W'=>∃v,e= .returned v∧Rows.executiveCurtailedSpec.post enc Tryz.prog Tryz.f3 false true false false W args v W':=by
 have hval:∀(j:Nat) t v,Tryz.f3.params[j]? =some t→args[j]? =some v→Value.okWide Tryz.prog W .any base t v:=hval0
 have hW':=hW
 obtain⟨p,q,hA0,hV,rfl,hfz,hnd⟩:=hW
 have hA:DataW.TrodAll enc Tryz.prog W 0 (fun _=>true) true Tryz.f3.params.toList args.toList ds p:=hA0
 rw[Tryz.params3] at hA hval
 obtain⟨v0,vs0,d0,ds0,p0,q0,hargs,rfl,rfl,h0,r0⟩:=trodAll_cons hA
 obtain⟨v1,vs1,d1,ds1,p1,q1,rfl,rfl,rfl,h1,r1⟩:=trodAll_cons r0
 obtain⟨v2,vs2,d2,ds2,p2,q2,rfl,rfl,rfl,h2,r2⟩:=trodAll_cons r1
 obtain⟨v3,vs3,d3,ds3,p3,q3,rfl,rfl,rfl,h3,r3⟩:=trodAll_cons r2
 obtain⟨rfl,rfl,rfl⟩:=trodAll_nil r3
 obtain rfl:args=#[v0,v1,v2,v3]:=by cases args;simp_all
 obtain⟨rfl,rfl⟩:=trodVars_none hV
 have hbk:Rows.uptoBulkAll [d0,d1,d2,d3]≤1048576:=by
  simp only[List.append_nil] at hk
  exact of_decide_eq_true hk
 simp only[Rows.uptoBulkAll] at hbk
 obtain⟨cs0,rfl,hcs0⟩:=okWide_struct underlying30 (hval 0 30 v0 rfl rfl)
 have k0:=h0
 have lt0:∀x∈p0,x.block<W.heap.size:=by obtain⟨m,hm⟩:=k0;exact DataW.trod_lt m _ _ _ hm
 obtain⟨C,hC,hB⟩:∃C:CaseM,Hd ρA 0 W (.a (C.C [])) (.agg cs0)∧Bd C:=by
  obtain⟨fuel,hf⟩:=h0
  obtain⟨C,⟨hl,_⟩,b1,⟨b2,b2'⟩,⟨b3,b3'⟩,⟨b4,b4'⟩,b5,⟨b6,b6'⟩,b7,b7'⟩:=opn_case _ _ _ hf
  have hn:Rows.uptoBulk d0≤2000000:=by omega
  refine⟨C,?_,⟨Nat.le_trans b1 hn,Nat.le_trans b2 hn,gDn b2' hn,Nat.le_trans b3 hn,gDn b3' hn,Nat.le_trans b4 hn,gDn (fun x hx=>(b4' x hx).1) hn,gDn (fun x hx=>(b4' x hx).2) hn,Nat.le_trans b5 hn,Nat.le_trans b6 hn,gDn (fun x hx=>(b6' x hx).1) hn,gDn (fun x hx=>(b6' x hx).2.1) hn,gDn (fun x hx=>(b6' x hx).2.2) hn,Nat.le_trans b7 hn,gDn (fun x hx=>(b7' x hx).1) hn,gDn (fun x hx=>(b7' x hx).2) hn⟩⟩
  obtain⟨l0⟩:=cs0
  exact .a hl
 obtain⟨a1,len1,cap1,rfl⟩:=okWide_slice underlying22 (hval 1 22 v1 rfl rfl)
 have k1:=h1
 have lt1:∀x∈p1,x.block<W.heap.size:=by obtain⟨m,hm⟩:=k1;exact DataW.trod_lt m _ _ _ hm
 obtain⟨D,hD⟩:∃D:Sl Int,Hd ρA 0 W (.c (intsR D)) (.slice a1 len1 cap1):=by
  obtain⟨fuel,hf⟩:=h1
  obtain⟨D,⟨hl,_⟩,_⟩:=opn_sl (e:=1) (C:=fun z:Int=>[iC z]) underlying22 (by kernel_rfl) bL (fun _=>rfl) (fun _=>all_clo rfl) 0 opn_int (fun _ _ _ _ _=>trivial) _ _ _ hf
  exact⟨D,.c hl.1⟩
 obtain⟨a2,rfl,rfl,rfl,w2⟩:=open_int underlying3 (hval 2 3 v2 rfl rfl) h2
 obtain⟨a3,rfl,rfl,rfl⟩:=open_bool underlying4 (hval 3 4 v3 rfl rfl) h3
 clear hA0 hval0
 refine((law_all C D a2 a3 hB).run ρA W [.agg cs0,.slice a1 len1 cap1,.int .i64 a2,.bool a3] ⟨hC,hD,.c (Rc.v _),.c (Rc.v _),trivial⟩ ⟨fun i T es l hi=>(by cases hi),fun i j b hi=>absurd hi (Nat.not_lt_zero _),fun i b _ hi=>absurd hi (Nat.not_lt_zero _),Nat.le_refl _,⟨rfl,rfl,rfl,Nat.le_refl _,fun _ _ _ _=>rfl⟩,fun i hi=>rfl,⟨rfl,fun _ _=>trivial⟩,FamOk.nil,fun b hb=> .inr hb⟩ rfl).mono fun e W' ⟨v,he,g,ρ',_,hDr,hdv,_,_⟩=>?_
 have hr:=hDr.rel
 have bel:Below W.heap.size W W':=⟨hr.os,hr.tape,hr.output,hr.size,fun k hk=>hr.block k hk (fun i hi=>absurd hi (Nat.not_lt_zero _)) fun⟨F,hF,_⟩=>by cases hF⟩
 have hv:v= .bool true:=by
  have h5:=hdv.inv_c.inv_b
  rw[h5]
  simp
 subst he hv
 exact⟨_,rfl,_,_,_,[],_,[],hW',trodAll_mk1 (shut_bool underlying4 _),(trodAll_cons_mk (Below.trod laidOut (by kernel_rfl) (of_decide_eq_true (by kernel_rfl)) k0 bel lt0) (trodAll_cons_mk (Below.trod laidOut (by kernel_rfl) (of_decide_eq_true (by kernel_rfl)) k1 bel lt1) (trodAll_cons_mk (shut_int underlying3 w2) (trodAll_cons_mk (shut_bool underlying4 _) trodAll_mk0)))),rfl,bel.frame _,fun h=>by cases h⟩
set_option maxRecDepth 100000 in
theorem lifted (os:Os) (started:os.Started) (H:Type) (enc:TypeId×Value→H) (F:Stop.Interp):
 ReturnsInHanded {} Tryz.checked os 3 .any ((Rows.OpenSpec.upto Rows.executiveCurtailedSpec).pre6 enc Tryz.prog Tryz.f3 Rows.executiveCurtailedUptoRow.domain false) (((Rows.OpenSpec.upto Rows.executiveCurtailedSpec).at F).post enc Tryz.prog Tryz.f3 false true false false):=by
 refine returnsInHanded_of_cond (C:=Tryz.checked) (s:=Rows.OpenSpec.upto Rows.executiveCurtailedSpec) (k:=Rows.uptoSmall) rfl own started (by kernel_rfl) func3
  (OpenSpec.witness (enc:=enc) (C:=Tryz.checked) (s:=Rows.OpenSpec.upto Rows.executiveCurtailedSpec) (k:=Rows.uptoSmall) rfl false ⟨#[],#[.agg #[.int .i64 0,.slice none 0 0,.slice none 0 0,.slice none 0 0,.slice none 0 0,.slice none 0 0,.slice none 0 0,.slice none 0 0],.slice none 0 0,.int .i64 0,.bool false],[]⟩ 8 (by kernel_rfl) (by kernel_rfl) (by kernel_rfl)
   (x:=([.agg [.lit (.int .i64 0),.nil,.nil,.nil,.nil,.nil,.nil,.nil],.nil,.lit (.int .i64 0),.lit (.bool false)],[],[])) (by kernel_rfl) rfl (by kernel_rfl)) ?_
 intro W base args ds gs before hval hW _ hk _
 exact contract H enc W base args ds gs before hval hW hk
theorem proved:Rows.ExecutiveCurtailedUptoSaid:=
 OpenClaim.holds_of_cond 3 Tryz.f3 rfl rfl rfl rfl rfl rfl rfl ⟨rfl,rfl,rfl,rfl,rfl⟩ rfl rfl rfl rfl rfl (by kernel_rfl) func3 (by kernel_rfl)
  (of_decide_eq_true (by kernel_rfl)) (by unfold Func.isWrapper;first|(rw[if_pos (by decide+kernel)];kernel_rfl)|(rw[if_neg (by decide+kernel)];exact⟨rfl,rfl⟩))
  (fun os started H enc _ F=>lifted os started H enc F)
#print axioms proved
end executiveCurtailedDone
end Go.Proofs.YtandhgfmfpmemaaGreat
