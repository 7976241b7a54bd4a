/- ExecutiveCurtailed, second form: for arguments of bulk at most 1048576 the law returns true and the arguments read as before; no other condition. Part 6 of 7: Id Ie Gc Ja Lb Lc Ha Ld Le Vys Lf Lg Lh Li Hb Hc Lj. -/
import Derived.Test.YtandhgfmfpmemaaGreatP5
set_option linter.unusedVariables false
set_option linter.unusedSimpArgs false
namespace Go.Proofs.YtandhgfmfpmemaaGreat
open Go.Vg _root_.Go.Proofs.Tryz
open Go.Vm hiding sg sg_t sg_f sg_abs sg_neg sg_add sg_mul sg_self sg_canon sg_pos sg_zero sg_eq_zero sg_lt
open Go.Vy hiding val
set_option maxHeartbeats 1000000
abbrev trow (g:Nat→TieM) (F:Nat→(Option Addr×Nat)×(Option Addr×Nat)×(Option Addr×Nat)):Nat→List CV:=fun j=>(modE (g j) (F j)).C
abbrev fST17:FuncId:=77
theorem eST17:Ent Tryz.prog fST17:=Ent.of func77 rfl kR
theorem bST17:Tryz.prog.funcs[fST17]? =some Tryz.f77:=func77
set_option maxRecDepth 4000 in
theorem st17_c (g:Nat→TieM) (F F':Nat→(Option Addr×Nat)×(Option Addr×Nat)×(Option Addr×Nat)) (A A':Option Addr) (n c c':Nat) (hx:n≤2000000) (hi:∀j,(g j).imp.l.length≤2000000) (he:∀j,(g j).exp.l.length≤2000000) (hp:∀j,(g j).price.l.length≤2000000):Ctr Tryz.prog fST17 [] [.c (.r A n c 5 (trow g F)),.c (.r A' n c' 5 (trow g F'))] [] ptR:=by
 refine ctr_of gT eST17 bST17 rfl rfl rfl bL ClB.nil (VC_ok gT mxd ?_)
 refine vloopG (rn [(5,8),(14,63)]) (fun k:Nat=>[(6,.c (iC k)),(5,pC True)]) (fun _=>[]) (fun _=>[]) (·≤n) (n-·) fun hM=>⟨gfin hM (chg:=fun k:Nat=>[(6,.c (iC k)),(5,pC True)]) (bls:=fun _=>[]) (fls:=fun _=>[]) 0 (Nat.zero_le _) rfl trivial trivial ⟨rfl,iff_of_true rfl trivial⟩ bL scB.nil rfl,fun k hk=>VC_ok gT mxd ⟨fun h1=>VC_ok gT mxd ?_,fun h1=>VC_ok gT mxd ?_⟩⟩
 ·have hkl:k<n:=by replace h1:(k:Int)<(n:Nat)∧True:=h1;omega
  refine⟨oTwo,by kernel_rfl,_,_,fun _=>True,⟨k,⟨rfl,hkl⟩,k,⟨rfl,hkl⟩,⟨rfl,rfl,rfl,gfin hM (chg:=fun _:Unit=>[(7,.c (.p 0 0)),(8,.c (.p 1 0)),(6,.c (iC k))]) (bls:=fun _=>[(77,0,trow g F k),(77,0,trow g F' k)]) (fls:=fun _=>[]) () trivial rfl ⟨rfl,rfl⟩ trivial ⟨rfl,rfl,rfl⟩ (Nat.zero_le _) (scB.cons rfl (scB.cons rfl scB.nil)) rfl⟩,rfl,rfl,rfl,gsw (nb:=0) 0 1 rfl rfl bL bL rfl ⟨bL,gfin hM (chg:=fun _:Unit=>[(7,.c (.p 0 0)),(8,.c (.p 1 0)),(6,.c (iC k))]) (bls:=fun _=>[(77,0,trow g F k),(77,0,trow g F' k)]) (fls:=fun _=>[]) () trivial rfl ⟨rfl,rfl⟩ trivial ⟨rfl,rfl,rfl⟩ (Nat.zero_le _) (scB.cons rfl (scB.cons rfl scB.nil)) rfl⟩⟩,fun _ _=>?_⟩
  exact⟨fun h2=>⟨[],ints17_c (modE (g k) (F k)).imp (modE (g k) (F' k)).imp rfl (hi k),rfl,rfl,rfl,fun _ _=>⟨[],ints17_c (modE (g k) (F k)).exp (modE (g k) (F' k)).exp rfl (he k),rfl,rfl,rfl,fun _ _=>⟨[],ints17_c (modE (g k) (F k)).price (modE (g k) (F' k)).price rfl (hp k),rfl,rfl,rfl,fun _ _=>⟨(k+1:Nat),wi,gfin hM (chg:=fun k:Nat=>[(6,.c (iC k)),(5,pC True)]) (bls:=fun _=>[]) (fls:=fun _=>[]) (k+1) ⟨hkl,show n-(k+1)<n-k by omega⟩ rfl trivial trivial ⟨rfl,tt trivial⟩ bL scB.nil rfl⟩⟩⟩⟩,fun h2=>absurd ⟨rfl,rfl⟩ h2⟩
 exact VC_ok gT mxd ⟨(),trivial,fin_of Iff.rfl rfl trivial⟩
abbrev orow (g:Nat→OutM) (F:Nat→(Option Addr×Nat)×(Option Addr×Nat)):Nat→List CV:=fun j=>(modO (g j) (F j)).C
abbrev fSO17:FuncId:=78
theorem eSO17:Ent Tryz.prog fSO17:=Ent.of func78 rfl kR
theorem bSO17:Tryz.prog.funcs[fSO17]? =some Tryz.f78:=func78
set_option maxRecDepth 4000 in
theorem so17_c (g:Nat→OutM) (F F':Nat→(Option Addr×Nat)×(Option Addr×Nat)) (A A':Option Addr) (n c c':Nat) (hx:n≤2000000) (hl:∀j,(g j).lines.l.length≤2000000) (hs:∀j,(g j).moves.l.length≤2000000):Ctr Tryz.prog fSO17 [] [.c (.r A n c 4 (orow g F)),.c (.r A' n c' 4 (orow g F'))] [] ptR:=by
 refine ctr_of gT eSO17 bSO17 rfl rfl rfl bL ClB.nil (VC_ok gT mxd ?_)
 refine vloopG (rn [(5,9),(15,80)]) (fun k:Nat=>[(6,.c (iC k)),(5,pC True)]) (fun _=>[]) (fun _=>[]) (·≤n) (n-·) fun hM=>⟨gfin hM (chg:=fun k:Nat=>[(6,.c (iC k)),(5,pC True)]) (bls:=fun _=>[]) (fls:=fun _=>[]) 0 (Nat.zero_le _) rfl trivial trivial ⟨rfl,iff_of_true rfl trivial⟩ bL scB.nil rfl,fun k hk=>VC_ok gT mxd ⟨fun h1=>VC_ok gT mxd ?_,fun h1=>VC_ok gT mxd ?_⟩⟩
 ·have hkl:k<n:=by replace h1:(k:Int)<(n:Nat)∧True:=h1;omega
  refine⟨oTwo,by kernel_rfl,_,_,fun _=>True,⟨k,⟨rfl,hkl⟩,k,⟨rfl,hkl⟩,⟨rfl,rfl,rfl,gfin hM (chg:=fun _:Unit=>[(7,.c (.p 0 0)),(8,.c (.p 1 0)),(6,.c (iC k))]) (bls:=fun _=>[(47,0,orow g F k),(47,0,orow g F' k)]) (fls:=fun _=>[]) () trivial rfl ⟨rfl,rfl⟩ trivial ⟨rfl,rfl,rfl⟩ (Nat.zero_le _) (scB.cons rfl (scB.cons rfl scB.nil)) rfl⟩,rfl,rfl,rfl,gsw (nb:=0) 0 1 rfl rfl bL bL rfl ⟨bL,gfin hM (chg:=fun _:Unit=>[(7,.c (.p 0 0)),(8,.c (.p 1 0)),(6,.c (iC k))]) (bls:=fun _=>[(47,0,orow g F k),(47,0,orow g F' k)]) (fls:=fun _=>[]) () trivial rfl ⟨rfl,rfl⟩ trivial ⟨rfl,rfl,rfl⟩ (Nat.zero_le _) (scB.cons rfl (scB.cons rfl scB.nil)) rfl⟩⟩,fun _ _=>?_⟩
  refine⟨fun h2=>⟨[],ints17_c (modO (g k) (F k)).lines (modO (g k) (F' k)).lines rfl (hl k),rfl,rfl,rfl,fun _ _=>?_⟩,fun h2=>absurd rfl h2⟩
  refine vloopG (rn [(5,5),(9,9),(60,80)]) (fun q:Nat=>[(9,.c (iC q)),(5,pC True)]) (fun _=>[(47,0,orow g F k),(47,0,orow g F' k)]) (fun _=>[]) (·≤(g k).moves.l.length) ((g k).moves.l.length-·) fun hM2=>⟨gfin hM2 (chg:=fun q:Nat=>[(9,.c (iC q)),(5,pC True)]) (bls:=fun _=>[(47,0,orow g F k),(47,0,orow g F' k)]) (fls:=fun _=>[]) 0 (Nat.zero_le _) rfl ⟨rfl,rfl⟩ trivial ⟨rfl,iff_of_true ⟨Iff.rfl,rfl⟩ trivial⟩ bL (scB.cons rfl (scB.cons rfl scB.nil)) rfl,fun q hq=>VC_ok gT mxd ⟨fun h3=>VC_ok gT mxd ?_,fun h3=>VC_ok gT mxd ?_⟩⟩
  ·have hql:q<(g k).moves.l.length:=by replace h3:(q:Int)<((g k).moves.l.length:Nat)∧True:=h3;omega
   have hqb:=hs k
   exact⟨.seq (sq 99 (List.range 12)),by kernel_rfl,q,⟨rfl,hql⟩,q,⟨rfl,hql⟩,[.int .i64 ((g k).moves.l.getD q ⟨0,0,0⟩).unit,.int .i64 ((g k).moves.l.getD q ⟨0,0,0⟩).up,.int .i64 ((g k).moves.l.getD q ⟨0,0,0⟩).down],⟨rfl,rfl,rfl⟩,(q+1:Nat),wi,gfin hM2 (chg:=fun q:Nat=>[(9,.c (iC q)),(5,pC True)]) (bls:=fun _=>[(47,0,orow g F k),(47,0,orow g F' k)]) (fls:=fun _=>[]) (q+1) ⟨hql,show(g k).moves.l.length-(q+1)<(g k).moves.l.length-q by omega⟩ rfl ⟨rfl,rfl⟩ trivial ⟨rfl,tt trivial⟩ bL (scB.cons rfl (scB.cons rfl scB.nil)) rfl⟩
  exact⟨(k+1:Nat),wi,gfin hM (chg:=fun k:Nat=>[(6,.c (iC k)),(5,pC True)]) (bls:=fun _=>[]) (fls:=fun _=>[]) (k+1) ⟨hkl,show n-(k+1)<n-k by omega⟩ rfl trivial trivial ⟨rfl,Iff.rfl⟩ bL scB.nil rfl⟩
 exact VC_ok gT mxd ⟨(),trivial,fin_of Iff.rfl rfl trivial⟩
end Go.Proofs.YtandhgfmfpmemaaGreat
namespace Go.Proofs.YtandhgfmfpmemaaGreat
open Go.Vg _root_.Go.Proofs.Tryz
open Go.Vm hiding sg sg_t sg_f sg_abs sg_neg sg_add sg_mul sg_self sg_canon sg_pos sg_zero sg_eq_zero sg_lt
open Go.Vy hiding val
set_option maxHeartbeats 1000000
abbrev fEq17:FuncId:=25
theorem eEq17:Ent Tryz.prog fEq17:=Ent.of func25 rfl kR
theorem bEq17:Tryz.prog.funcs[fEq17]? =some Tryz.f25:=func25
set_option maxRecDepth 4000 in
theorem eq17_c (X Y:CaseM) (hh:X.hours=Y.hours) (hI:Ctr Tryz.prog fInts17 [] [.c (intsR X.reserve),.c (intsR Y.reserve)] [] ttR) (hB:Ctr Tryz.prog fSB17 [] [.c (X.buses.R 3 BusM.C bus0),.c (Y.buses.R 3 BusM.C bus0)] [] ptR) (hL:Ctr Tryz.prog fSL17 [] [.c (X.lines.R 12 LineM.C line0),.c (Y.lines.R 12 LineM.C line0)] [] ptR) (hU:Ctr Tryz.prog fSU17 [] [.c (X.units.R 22 UnitM.C unit0),.c (Y.units.R 22 UnitM.C unit0)] [] ptR) (hS:Ctr Tryz.prog fSS17 [] [.c (X.stores.R 9 StoreM.C store0),.c (Y.stores.R 9 StoreM.C store0)] [] ptR) (hT:Ctr Tryz.prog fST17 [] [.c (X.ties.R 5 TieM.C tie0),.c (Y.ties.R 5 TieM.C tie0)] [] ptR) (hO:Ctr Tryz.prog fSO17 [] [.c (X.outs.R 4 OutM.C out0),.c (Y.outs.R 4 OutM.C out0)] [] ptR):Ctr Tryz.prog fEq17 [] [.a (X.C []),.a (Y.C [])] [] ptR:=by
 refine ctr_of gT eEq17 bEq17 rfl rfl rfl bL ClB.nil (VC_ok gT mxd ⟨fun _=>⟨[],hI,rfl,rfl,rfl,fun _ _=>⟨[],hB,rfl,rfl,rfl,fun _ _=>?_⟩⟩,fun h=>absurd hh h⟩)
 exact⟨fun _=>⟨[],hL,rfl,rfl,rfl,fun _ _=>⟨fun _=>⟨[],hU,rfl,rfl,rfl,fun _ _=>⟨fun _=>⟨[],hS,rfl,rfl,rfl,fun _ _=>⟨fun _=>⟨[],hT,rfl,rfl,rfl,fun _ _=>⟨fun _=>⟨[],hO,rfl,rfl,rfl,fun _ _=>⟨(),trivial,fin_of Iff.rfl rfl trivial⟩⟩,fun h=>absurd trivial h⟩⟩,fun h=>absurd trivial h⟩⟩,fun h=>absurd trivial h⟩⟩,fun h=>absurd trivial h⟩⟩,fun h=>absurd trivial h⟩
abbrev fEq18:FuncId:=10
theorem eEq18:Ent Tryz.prog fEq18:=Ent.of func10 rfl kR
theorem bEq18:Tryz.prog.funcs[fEq18]? =some Tryz.f10:=func10
theorem eq18_c {X Y:CaseM} (h:Ctr Tryz.prog fEq17 [] [.a (X.C []),.a (Y.C [])] [] ptR):Ctr Tryz.prog fEq18 [] [.a (X.C []),.a (Y.C [])] [] ptR:=by
 refine ctr_of gT eEq18 bEq18 rfl rfl rfl bL ClB.nil (VC_ok gT mxd ⟨[],h,rfl,rfl,rfl,fun _ _=>⟨(),trivial,fin_of Iff.rfl rfl trivial⟩⟩)
abbrev fInts18:FuncId:=24
theorem eInts18:Ent Tryz.prog fInts18:=Ent.of func24 rfl kR
theorem bInts18:Tryz.prog.funcs[fInts18]? =some Tryz.f24:=func24
theorem ints18_c (x y:Sl Int) (he:x.l=y.l) (hx:x.l.length≤2000000):Ctr Tryz.prog fInts18 [] [.c (intsR x),.c (intsR y)] [] ttR:=by
 refine ctr_of gT eInts18 bInts18 rfl rfl rfl bL ClB.nil (VC_ok gT mxd ⟨[],ints17_c x y he hx,rfl,rfl,rfl,fun _ _=>⟨(),trivial,fin_of rfl rfl trivial⟩⟩)
theorem rowL_eq {C:CaseM} {F:_} {s:Sl LineM} (h:s.l=lstL C F):s.R 12 LineM.C line0= .r s.A C.lines.l.length s.c 12 (lrow (gL C) fun j=>if j<C.lines.l.length then F j else (none,0)):=by
 have hn:s.l.length=C.lines.l.length:=by rw[h];simp[lstL]
 unfold Sl.R
 rw[hn]
 congr 1
 funext j
 rw[h]
 by_cases hj:j<C.lines.l.length
 ·show _=(modL (gL C j) (if j<C.lines.l.length then F j else (none,0))).C
  rw[if_pos hj]
  simp[lstL,List.getD,hj]
 show _=(modL (gL C j) (if j<C.lines.l.length then F j else (none,0))).C
 rw[if_neg hj]
 have e:gL C j=line0:=by simp[List.getD,List.getElem?_eq_none (Nat.le_of_not_lt hj)]
 rw[e]
 simp[lstL,List.getD,hj]
 rfl
theorem rowU_eq {C:CaseM} {F:_} {s:Sl UnitM} (h:s.l=lstU C F):s.R 22 UnitM.C unit0= .r s.A C.units.l.length s.c 22 (urow (gU C) fun j=>if j<C.units.l.length then F j else ((none,0),(none,0))):=by
 have hn:s.l.length=C.units.l.length:=by rw[h];simp[lstU]
 unfold Sl.R
 rw[hn]
 congr 1
 funext j
 rw[h]
 by_cases hj:j<C.units.l.length
 ·show _=(modU (gU C j) (if j<C.units.l.length then F j else ((none,0),(none,0)))).C
  rw[if_pos hj]
  simp[lstU,List.getD,hj]
 show _=(modU (gU C j) (if j<C.units.l.length then F j else ((none,0),(none,0)))).C
 rw[if_neg hj]
 have e:gU C j=unit0:=by simp[List.getD,List.getElem?_eq_none (Nat.le_of_not_lt hj)]
 rw[e]
 simp[lstU,List.getD,hj]
 rfl
theorem rowE_eq {C:CaseM} {F:_} {s:Sl TieM} (h:s.l=lstE C F):s.R 5 TieM.C tie0= .r s.A C.ties.l.length s.c 5 (trow (gE C) fun j=>if j<C.ties.l.length then F j else ((none,0),(none,0),(none,0))):=by
 have hn:s.l.length=C.ties.l.length:=by rw[h];simp[lstE]
 unfold Sl.R
 rw[hn]
 congr 1
 funext j
 rw[h]
 by_cases hj:j<C.ties.l.length
 ·show _=(modE (gE C j) (if j<C.ties.l.length then F j else ((none,0),(none,0),(none,0)))).C
  rw[if_pos hj]
  simp[lstE,List.getD,hj]
 show _=(modE (gE C j) (if j<C.ties.l.length then F j else ((none,0),(none,0),(none,0)))).C
 rw[if_neg hj]
 have e:gE C j=tie0:=by simp[List.getD,List.getElem?_eq_none (Nat.le_of_not_lt hj)]
 rw[e]
 simp[lstE,List.getD,hj]
 rfl
theorem rowO_eq {C:CaseM} {F:_} {s:Sl OutM} (h:s.l=lstO C F):s.R 4 OutM.C out0= .r s.A C.outs.l.length s.c 4 (orow (gO C) fun j=>if j<C.outs.l.length then F j else ((none,0),(none,0))):=by
 have hn:s.l.length=C.outs.l.length:=by rw[h];simp[lstO]
 unfold Sl.R
 rw[hn]
 congr 1
 funext j
 rw[h]
 by_cases hj:j<C.outs.l.length
 ·show _=(modO (gO C j) (if j<C.outs.l.length then F j else ((none,0),(none,0)))).C
  rw[if_pos hj]
  simp[lstO,List.getD,hj]
 show _=(modO (gO C j) (if j<C.outs.l.length then F j else ((none,0),(none,0)))).C
 rw[if_neg hj]
 have e:gO C j=out0:=by simp[List.getD,List.getElem?_eq_none (Nat.le_of_not_lt hj)]
 rw[e]
 simp[lstO,List.getD,hj]
 rfl
theorem cont_eq {C D D':CaseM} {L:Int} (hB:Bd C) (h:Cont C L D) (h':Cont C L D'):Ctr Tryz.prog fEq18 [] [.a (D.C []),.a (D'.C [])] [] ptR:=by
 obtain⟨Fb,hb⟩:=h.b
 obtain⟨Fb',hb'⟩:=h'.b
 obtain⟨Fl,hl⟩:=h.l
 obtain⟨Fl',hl'⟩:=h'.l
 obtain⟨Fu,hu⟩:=h.u
 obtain⟨Fu',hu'⟩:=h'.u
 obtain⟨Ft,ht⟩:=h.t
 obtain⟨Ft',ht'⟩:=h'.t
 obtain⟨Fo,ho⟩:=h.o
 obtain⟨Fo',ho'⟩:=h'.o
 refine eq18_c (eq17_c D D' (h.h.trans h'.h.symm) (ints17_c _ _ (h.r.trans h'.r.symm) (by rw[h.r];simp;exact hB.r)) (sb17_c _ _ (by rw[hb,hb'];simp) (by rw[hb];simp;exact hB.b) (fun j=>?_) fun j hj=>?_) ?_ ?_ (ss17_c _ _ (h.s.trans h'.s.symm) (by rw[h.s];exact hB.s)) ?_ ?_)
 ·rw[hb]
  by_cases hj:j<C.buses.l.length
  ·simp[List.getD,hj]
   have:=hB.bd j
   simpa[List.getD,hj] using this
  simp[List.getD,hj]
  exact Nat.zero_le _
 ·rw[hb] at hj ⊢
  rw[hb']
  have hj:j<C.buses.l.length:=by simpa using hj
  simp only[List.getD,List.getElem?_map,List.getElem?_range hj,Option.map_some,Option.getD_some]
  exact⟨rfl,rfl,rfl⟩
 ·rw[rowL_eq hl,rowL_eq hl']
  exact sl17_c _ _ _ _ _ _ _ _ hB.l hB.la
 ·rw[rowU_eq hu,rowU_eq hu']
  exact su17_c _ _ _ _ _ _ _ _ hB.u hB.ua hB.us
 ·rw[rowE_eq ht,rowE_eq ht']
  exact st17_c _ _ _ _ _ _ _ _ hB.t hB.ti hB.te hB.tp
 rw[rowO_eq ho,rowO_eq ho']
 exact so17_c _ _ _ _ _ _ _ _ hB.o hB.ol hB.om
end Go.Proofs.YtandhgfmfpmemaaGreat
namespace Go.Proofs.YtandhgfmfpmemaaGreat
open Go.Vg _root_.Go.Proofs.Tryz
open Go.Vm hiding sg sg_t sg_f sg_abs sg_neg sg_add sg_mul sg_self sg_canon sg_pos sg_zero sg_eq_zero sg_lt
open Go.Vy hiding val
set_option maxHeartbeats 4000000
abbrev fCud:FuncId:=7
theorem eCud:Ent Tryz.prog fCud:=Ent.of func7 rfl kR
theorem bCud:Tryz.prog.funcs[fCud]? =some Tryz.f7:=func7
theorem cud_bad (C:CaseM) (L:Int) (h:chkE C≠0):Ctr Tryz.prog fCud [] [.a (C.C []),.c (iC L)] [] (fun _:Unit=>⟨.t [.a zC,.c (iC (chkE C))],[],True⟩):=by
 refine ctr_of gT eCud bCud rfl rfl rfl bL clBn (VC_ok gT mxd ⟨[],check_c C,rfl,rfl,rfl,fun g _=>⟨fun _=>VC_ok gT mxd ⟨(),trivial,fin_of ⟨rfl,rfl⟩ rfl trivial⟩,fun h1=>absurd h h1⟩⟩)
theorem cud_level (C:CaseM) (L:Int) (h:chkE C=0) (hL:L<0∨100<L):Ctr Tryz.prog fCud [] [.a (C.C []),.c (iC L)] [] (fun _:Unit=>⟨.t [.a zC,.c (iC 3)],[],True⟩):=by
 refine ctr_of gT eCud bCud rfl rfl rfl bL clBn (VC_ok gT mxd ⟨[],check_c C,rfl,rfl,rfl,fun g _=>⟨fun h1=>absurd h h1,fun _=>VC_ok gT mxd ⟨fun _=>VC_ok gT mxd ⟨(),trivial,fin_of ⟨rfl,rfl⟩ rfl trivial⟩,fun h1=>absurd hL h1⟩⟩⟩)
abbrev dcQ (C D:CaseM):List CV:=iC C.hours::.s 6 C.reserve.l.length::.s 7 C.buses.l.length::dcT C D
abbrev blX (C:CaseM) (w:Int×Int×Int) (g:CloG) (L:Int) (h:Nat):BL:=[(30,0,C.C []),(30,0,zC),(50,0,[iC w.1,iC w.2.1,iC w.2.2]),(30,0,C.C []),(30,0,dcQ C g.D),(30,0,dcQ C g.D),(3,1,resX C L h),(59,3,flatR C.buses.l.length (busT C g.A g.cap C.buses.l.length)),(30,0,dcQ C g.D)]
theorem blX_sc {C:CaseM} {w:Int×Int×Int} {g:CloG} {L:Int} {h:Nat}:scB 9 (blX C w g L h):=scB.cons rfl (scB.cons rfl (scB.cons rfl (scB.cons rfl (scB.cons rfl (scB.cons rfl (scB.cons (sc_clo resX_clo) (scB.cons (sc_clo busF_clo) (scB.cons rfl scB.nil))))))))
theorem cC_eq {D:CaseM} {nR nB nL nU nS nT nO:Nat} (h1:D.reserve.l.length=nR) (h2:D.buses.l.length=nB) (h3:D.lines.l.length=nL) (h4:D.units.l.length=nU) (h5:D.stores.l.length=nS) (h6:D.ties.l.length=nT) (h7:D.outs.l.length=nO):[iC D.hours,.r D.reserve.A nR D.reserve.c 1 (fun j=>[iC (D.reserve.l.getD j 0)]),.r D.buses.A nB D.buses.c 3 (fun j=>BusM.C (D.buses.l.getD j bus0)),.r D.lines.A nL D.lines.c 12 (fun j=>LineM.C (D.lines.l.getD j line0)),.r D.units.A nU D.units.c 22 (fun j=>UnitM.C (D.units.l.getD j unit0)),.r D.stores.A nS D.stores.c 9 (fun j=>StoreM.C (D.stores.l.getD j store0)),.r D.ties.A nT D.ties.c 5 (fun j=>TieM.C (D.ties.l.getD j tie0)),.r D.outs.A nO D.outs.c 4 (fun j=>OutM.C (D.outs.l.getD j out0))]=D.C []:=by
 subst h1 h2 h3 h4 h5 h6 h7
 rfl
def resL (C:CaseM) (L:Int):List Int:=(List.range C.reserve.l.length).map (newR C L)
def demL (C:CaseM) (L:Int) (j:Nat):List Int:=(List.range (gB C j).demand.l.length).map fun k=>newD C L k j
def busL (C:CaseM) (L:Int) (F:Nat→Option Addr×Nat):List BusM:=(List.range C.buses.l.length).map fun j=>⟨(gB C j).name,⟨(F j).1,(F j).2,demL C L j⟩,(gB C j).shed⟩
def busZ (C:CaseM) (L:Int) (A:Nat→Option Nat) (cap:Nat→Nat) (j:Nat):List CV:=[sC (gB C j).name,.r ((A j).map fun b=>⟨b,0,none⟩) (gB C j).demand.l.length (cap j) 1 (fun k=>[iC ((demL C L j).getD k 0)]),iC (gB C j).shed]
theorem busZ_at {C:CaseM} {L:Int} {A:Nat→Option Nat} {cap:Nat→Nat} {j:Nat} (hj:j<C.buses.l.length):((busL C L fun j=>((A j).map fun b=>⟨b,0,none⟩,cap j)).getD j bus0).C=busZ C L A cap j:=by
 have e:(busL C L fun j=>((A j).map fun b=>⟨b,0,none⟩,cap j)).getD j bus0=⟨(gB C j).name,⟨(A j).map fun b=>⟨b,0,none⟩,cap j,demL C L j⟩,(gB C j).shed⟩:=by simp[busL,List.getD,hj]
 rw[e]
 unfold busZ BusM.C intsR Sl.R
 rw[show(demL C L j).length=(gB C j).demand.l.length by simp[demL]]
theorem mra {f:Nat→Int} {n q:Nat} (h:q<n):((List.range n).map f).getD q 0=f q:=by simp[List.getD,h]
theorem fr_dem {C:CaseM} {L:Int} {A:Nat→Option Nat} {cap:Nat→Nat} {h:Nat} (hn:∀j,j<C.buses.l.length→(gB C j).demand.l.length=h):∀(k:Nat) (c c':CV),(flatR C.buses.l.length (busT C A cap C.buses.l.length))[k]? =some c→(flatR C.buses.l.length (busZ C L A cap))[k]? =some c'→c=c'∨FrC (famX C L A cap h 0) c c':=fun k c c' h1 h2=>by
 obtain⟨hj,a1⟩:=flR_ix (e:=3) bL busT_len h1
 obtain⟨_,a2⟩:=flR_ix (P:=busZ C L A cap) (e:=3) bL (fun _=>rfl) h2
 generalize k/3=j at hj a1 a2
 have ho:k%3<3:=Nat.mod_lt _ bL
 generalize k%3=o at ho a1 a2
 rw[busT,if_pos hj] at a1
 rcases (show o=0∨o=1∨o=2 by omega) with rfl|rfl|rfl
 ·injection a1 with a1;injection a2 with a2
  exact .inl (a1.symm.trans a2)
 ·injection a1 with a1;injection a2 with a2
  have e:getX C L h 0 j=demX C L h j:=by rw[getX,if_pos hj,if_neg (Nat.not_lt_zero _)]
  refine .inr ⟨j,(gB C j).demand.l.length,fun k=>[iC ((demL C L j).getD k 0)],hj,a1.symm,a2.symm,?_,fun q hq=>?_⟩
  ·show _=(getX C L h 0 j).length
   rw[e]
   exact(flR_len (e:=1) fun _ _=>rfl).symm
  show _=((getX C L h 0 j).drop (q*1)).take 1
  rw[e]
  refine Eq.trans ?_ (flR_at (e:=1) (fun _ _=>rfl) hq).symm
  rw[if_pos (by have:=hn j hj;omega)]
  exact congrArg (fun z=>[iC z]) (mra hq)
 injection a1 with a1;injection a2 with a2
 exact .inl (a1.symm.trans a2)
set_option maxRecDepth 4000 in
theorem cud_c (C:CaseM) (L:Int) (hB:Bd C) (h:chkE C=0) (hL:0≤L∧L≤100):Ctr Tryz.prog fCud [] [.a (C.C []),.c (iC L)] [] (fun D:CaseM=>⟨.t [.a (D.C []),.c (iC 0)],[],Cont C L D⟩):=by
 have hV:=val_of h
 refine ctr_of gT eCud bCud rfl rfl rfl bL clBn (VC_ok gT mxd ⟨[],check_c C,rfl,rfl,rfl,fun w _=>⟨fun h1=>absurd h h1,fun _=>VC_ok gT mxd ⟨fun h1=>?_,fun _=>VC_ok gT mxd ⟨[],clone_c C hB,rfl,rfl,rfl,fun g hR=>?_⟩⟩⟩⟩)
 ·replace h1:L<0∨100<L:=h1
  omega
 have hHh:=hV.h
 have hn32:=hV.n
 refine vloopG (rn [(9,15),(36,93)]) (fun h:Nat=>[(36,.c (iC h))]) (fun h=>blX C w g L h) (fun h=>[famX C L g.A g.cap h 0]) (fun h=>h≤C.hours.toNat) (fun h=>C.hours.toNat-h) fun hM=>⟨gfin hM (chg:=fun h:Nat=>[(36,.c (iC h))]) (bls:=fun h=>blX C w g L h) (fls:=fun h=>[famX C L g.A g.cap h 0]) 0 (Nat.zero_le _) rfl ⟨rfl,rfl,rfl,rfl,rfl,rfl,?_,rfl,rfl⟩ ⟨?_,trivial⟩ rfl (Nat.zero_le _) blX_sc rfl,fun h hh=>gall tSd 0 rfl fun hall=>VC_ok gT mxd ⟨fun h1=>VC_ok gT mxd ?_,fun h1=>VC_ok gT mxd ?_⟩⟩
 ·show(_,_,_)=(_,_,_)
  rw[←resX_0]
 ·show(⟨_,_,_,_,_,_⟩:Fam)=⟨_,_,_,_,_,_⟩
  rw[getX_dem]
 ·have hlt:(h:Int)<C.hours:=h1
  have hv:=hV.hr hlt
  have hnd:=nd_bd hv hL
  have hs:=sum_bd hv
  have hce:=curt_ok hv hL
  have hcl:=cut_len (C:=C) (h:=h) (L:=L)
  have hall':∀j,j<C.buses.l.length→∃b,g.A j=some b:=fun j hj=>hall j hj (fun he=>by
   have h2:(getX C L h 0 j).length=0:=by rw[show getX C L h 0 j=[] from he];rfl
   rw[getX,if_pos hj,demX,flR_len (e:=1) fun _ _=>rfl] at h2
   have:=(hV.b j hj).1
   omega)
  refine⟨[],loadsof_c C hv,rfl,rfl,rfl,fun a _=>⟨sumP (ldsOf C h)*L,wi (h:=⟨rfl,by omega,by omega⟩),sumP (ldsOf C h)*L+100,wi,sumP (ldsOf C h)*L+99,wi,(show(100:Int)≠0 by decide),ndH C L h,wi (z:=ndH C L h) (h:=⟨rfl,by omega,by omega⟩),[],cur_c ⟨a.1,a.2,ldsOf C h⟩ (ndH C L h),rfl,rfl,rfl,fun u hu=>⟨fun h2=>absurd hce h2,fun _=>VC_ok gT mxd ?_⟩⟩⟩
  have hul:u.l=curtF (ldsOf C h) (ndH C L h):=by
   have h3:u.l=if curtE (ldsOf C h) (ndH C L h)=0 then curtF (ldsOf C h) (ndH C L h) else []:=hu
   rwa [if_pos hce] at h3
  have hun:u.l.length=C.buses.l.length:=by rw[hul];exact hcl
  refine vloopG (rn [(14,15),(62,79)]) (fun b:Nat=>[(62,.c (iC b))]) (fun _=>blX C w g L h) (fun b=>[famX C L g.A g.cap h b]) (fun b=>b≤u.l.length) (fun b=>u.l.length-b) fun hM2=>⟨gfin hM2 (chg:=fun b:Nat=>[(62,.c (iC b))]) (bls:=fun _=>blX C w g L h) (fls:=fun b=>[famX C L g.A g.cap h b]) 0 (Nat.zero_le _) rfl ⟨rfl,rfl,rfl,rfl,rfl,rfl,rfl,rfl,rfl⟩ ⟨rfl,trivial⟩ rfl (Nat.zero_le _) blX_sc rfl,fun b hb=>VC_ok gT mxd ⟨fun h3=>VC_ok gT mxd ?_,fun h3=>VC_ok gT mxd (VC_ok gT mxd ?_)⟩⟩
  ·have hbu:b<u.l.length:=by replace h3:(b:Int)<(u.l.length:Nat):=h3;omega
   have hbn:b<C.buses.l.length:=by omega
   obtain⟨bb,hbb⟩:=hall' b hbn
   have hd:=hv.d (gB C b) (gB_mem hbn)
   have hcb:=cut_bd (L:=L) hv hbn
   have hcut:u.l.getD b 0=cutH C L h b:=by rw[hul];rfl
   have hput:=flR1_put (f:=fun k=>iC (if k<h then newD C L k b else (gB C b).demand.l.getD k 0)) (g:=fun k=>iC (if k<h+1 then newD C L k b else (gB C b).demand.l.getD k 0)) (c:=iC (newD C L h b)) hd.1 (fun j hj=>by
    by_cases e:j=h
    ·subst e;rw[if_pos rfl,if_pos oM]
    rw[if_neg e]
    by_cases h2:j<h
    ·rw[if_pos h2,if_pos oM]
    rw[if_neg h2,if_neg oM])
   refine⟨b,⟨rfl,hbu⟩,b,⟨rfl,hbn,by rw[flR_len fun j _=>busT_len j];show b*3<_;omega⟩,.h (g.A b) (gB C b).demand.l.length (g.cap b),(flR_get (P:=busT C g.A g.cap C.buses.l.length) (e:=3) (o:=1) busT_len hbn dC).trans (by rw[busT,if_pos hbn];rfl),h,bb,⟨rfl,hd.1,hbb⟩,0,b,⟨hbn,hbb⟩,iC ((gB C b).demand.l.getD h 0),?_,newD C L h b,wi (z:=(gB C b).demand.l.getD h 0-u.l.getD b 0) (h:=⟨by rw[hcut];rfl,by omega,by omega⟩),h,bb,⟨rfl,hd.1,hbb⟩,0,b,demX C L (h+1) b,⟨hbn,hbb,?_,?_⟩,(b+1:Nat),wi,gfin hM2 (chg:=fun b:Nat=>[(62,.c (iC b))]) (bls:=fun _=>blX C w g L h) (fls:=fun b=>[famX C L g.A g.cap h b]) (b+1) ⟨hbu,show u.l.length-(b+1)<u.l.length-b by omega⟩ rfl ⟨rfl,rfl,rfl,rfl,rfl,rfl,rfl,rfl,rfl⟩ ⟨?_,trivial⟩ rfl (Nat.zero_le _) blX_sc rfl⟩
   ·show(getX C L h b b)[_]? =_
    rw[getX_at hbn]
    exact(flR1 hd.1).trans (by rw[if_neg (Nat.lt_irrefl _)])
   ·show splC (getX C L h b b) _ _=_
    rw[getX_at hbn]
    exact hput.1
   ·show _≤(getX C L h b b).length
    rw[getX_at hbn]
    exact hput.2
   show(⟨_,_,_,_,_,_⟩:Fam)=⟨_,_,_,_,_,_⟩
   rw[←getX_bus hbn]
  have hbq:b=C.buses.l.length:=by replace h3:¬(b:Int)<(u.l.length:Nat):=h3;replace hb:b≤u.l.length:=hb;omega
  have hrl:h<C.reserve.l.length:=by have:=hV.rl;omega
  have hr0:=hV.rr (C.reserve.l.getD h 0) (by rw[gd hrl];exact List.getElem_mem hrl)
  have m1:0≤C.reserve.l.getD h 0*(100-L):=Int.mul_nonneg hr0.1 oM
  have m2:C.reserve.l.getD h 0*(100-L)≤C.reserve.l.getD h 0*100:=Int.mul_le_mul_of_nonneg_left oM hr0.1
  have e:newR C L h=C.reserve.l.getD h 0*(100-L)/100:=Int.tdiv_eq_ediv_of_nonneg m1
  have hput:=flR1_put (f:=fun k=>iC (if k<h then newR C L k else C.reserve.l.getD k 0)) (g:=fun k=>iC (if k<h+1 then newR C L k else C.reserve.l.getD k 0)) (c:=iC (newR C L h)) hrl (fun j hj=>by
   by_cases e:j=h
   ·subst e;rw[if_pos rfl,if_pos oM]
   rw[if_neg e]
   by_cases h2:j<h
   ·rw[if_pos h2,if_pos oM]
   rw[if_neg h2,if_neg oM])
  refine⟨.seq (sq 13 (List.range 14)),by kernel_rfl,h,⟨rfl,hrl,flR1_len hrl⟩,iC (C.reserve.l.getD h 0),(flR1 hrl).trans (by rw[if_neg (Nat.lt_irrefl _)]),100-L,wi,C.reserve.l.getD h 0*(100-L),wi (h:=⟨rfl,by omega,by omega⟩),(show(100:Int)≠0 by decide),newR C L h,wi (z:=newR C L h) (h:=⟨rfl,by omega,by omega⟩),h,⟨rfl,hrl,flR1_len hrl⟩,resX C L (h+1),hput,(h+1:Nat),wi,gfin hM (chg:=fun h:Nat=>[(36,.c (iC h))]) (bls:=fun h=>blX C w g L h) (fls:=fun h=>[famX C L g.A g.cap h 0]) (h+1) ⟨by omega,show C.hours.toNat-(h+1)<C.hours.toNat-h by omega⟩ rfl ⟨rfl,rfl,rfl,rfl,rfl,rfl,rfl,rfl,rfl⟩ ⟨?_,trivial⟩ rfl (Nat.zero_le _) blX_sc rfl⟩
  show(⟨_,_,_,_,_,_⟩:Fam)=⟨_,_,_,_,_,_⟩
  rw[hbq,getX_hour]
 have hhq:(h:Int)=C.hours:=by replace h1:¬(h:Int)<C.hours:=h1;replace hh:h≤C.hours.toNat:=hh;omega
 have hdl:∀j,j<C.buses.l.length→(gB C j).demand.l.length=h:=fun j hj=>by have:=(hV.b j hj).1;omega
 have hrl:C.reserve.l.length=h:=by have:=hV.rl;omega
 obtain⟨⟨FL,kL⟩,⟨FU,kU⟩,kS,⟨FE,kE⟩,⟨FO,kO⟩⟩:=hR
 refine gsink tSd 6 rfl bL resX_clo bL rfl fun A6 a6=>⟨_,map_id' sink_clo busF_clo,gfree tSd 8 1 (iC C.hours::.r (A6.map fun b=>⟨b,0,none⟩) C.reserve.l.length a6 1 (fun j=>[iC ((resL C L).getD j 0)])::.s 7 C.buses.l.length::dcT C g.D) rfl rfl rfl rfl (frset (k0:=1) rfl ⟨0,C.reserve.l.length,_,bL,rfl,rfl,(flR_len (e:=1) fun _ _=>rfl).symm,fun q hq=>?_⟩) (gfree tSd 7 0 (flatR C.buses.l.length (busZ C L g.A g.cap)) rfl rfl rfl ?_ (fr_dem hdl) (gsink tSd 7 rfl bL (fl_clo (fun _=>all_clo rfl) _) bL rfl fun A7 a7=>⟨_,rfl,gfree tSd 8 2 (iC C.hours::.r (A6.map fun b=>⟨b,0,none⟩) C.reserve.l.length a6 1 (fun j=>[iC ((resL C L).getD j 0)])::.r (A7.map fun b=>⟨b,0,none⟩) C.buses.l.length a7 3 (fun j=>BusM.C ((busL C L fun j=>((g.A j).map fun b=>⟨b,0,none⟩,g.cap j)).getD j bus0))::dcT C g.D) rfl rfl rfl rfl (frset (k0:=2) rfl ⟨0,C.buses.l.length,_,bL,rfl,rfl,(flR_len (P:=busZ C L g.A g.cap) (e:=3) fun _ _=>rfl).symm,fun q hq=>(busZ_at hq).trans (flR_at (P:=busZ C L g.A g.cap) (e:=3) (fun _ _=>rfl) hq).symm⟩) (VC_ok gT mxd ?_)⟩))⟩
 ·refine Eq.trans ?_ (flR_at (e:=1) (fun _ _=>rfl) hq).symm
  rw[if_pos oM]
  exact congrArg (fun z=>[iC z]) (mra hq)
 ·rw[flR_len (P:=busZ C L g.A g.cap) (e:=3) fun _ _=>rfl,flR_len fun j _=>busT_len j]
 refine⟨⟨C.hours,⟨A6.map fun b=>⟨b,0,none⟩,a6,resL C L⟩,⟨A7.map fun b=>⟨b,0,none⟩,a7,busL C L fun j=>((g.A j).map fun b=>⟨b,0,none⟩,g.cap j)⟩,g.D.lines,g.D.units,g.D.stores,g.D.ties,g.D.outs⟩,⟨rfl,rfl,⟨_,rfl⟩,⟨FL,kL⟩,⟨FU,kU⟩,kS,⟨FE,kE⟩,⟨FO,kO⟩⟩,fin_of ⟨?_,rfl⟩ rfl trivial⟩
 refine congrArg DV.a (cC_eq (D:=⟨C.hours,⟨A6.map fun b=>⟨b,0,none⟩,a6,resL C L⟩,⟨A7.map fun b=>⟨b,0,none⟩,a7,busL C L fun j=>((g.A j).map fun b=>⟨b,0,none⟩,g.cap j)⟩,g.D.lines,g.D.units,g.D.stores,g.D.ties,g.D.outs⟩) (nR:=C.reserve.l.length) (nB:=C.buses.l.length) (nL:=C.lines.l.length) (nU:=C.units.l.length) (nS:=C.stores.l.length) (nT:=C.ties.l.length) (nO:=C.outs.l.length) (by simp[resL]) (by simp[busL]) (by rw[kL];simp[lstL]) (by rw[kU];simp[lstU]) (by rw[kS]) (by rw[kE];simp[lstE]) (by rw[kO];simp[lstO]))
end Go.Proofs.YtandhgfmfpmemaaGreat
namespace Go.Proofs.YtandhgfmfpmemaaGreat
open Go.Vg _root_.Go.Proofs.Tryz
open Go.Vm hiding sg sg_t sg_f sg_abs sg_neg sg_add sg_mul sg_self sg_canon sg_pos sg_zero sg_eq_zero sg_lt
open Go.Vy hiding val
set_option maxHeartbeats 1000000
theorem Sd.sq {P:Program} {nb N:Nat} {a b:Code} {K:Kt} {s:SS} (h:Sd P nb N a ⟨fun s'=>Sd P nb N b K s',K.ext,K.ret⟩ s):Sd P nb N (.seq a b) K s:=fun ρ0 w0 ρ f w Q hL hD=>
 wseq (h ρ0 w0 ρ f w _ ⟨fun s' ρ' f' w' h' hD'=>h' ρ0 w0 ρ' f' w' Q hL hD',hL.ext,hL.ret⟩ hD)
abbrev ls3:List (Int×Int):=[(10,1),(20,2),(10,2)]
theorem ls3_at (j:Nat) (h:j<3):lC2 ls3 j=(([iC 10,iC 1,iC 20,iC 2,iC 10,iC 2]:List CV).drop (j*2)).take 2:=by
 match j,h with
 |0,_|1,_|2,_=>rfl
 |j+3,h=>exact absurd h oM
theorem ls3_e (z:Int) (h0:0≤z) (h:z≤40):curtE ls3 z=0:=by
 have hs:sumP ls3=40:=by decide
 unfold curtE
 rw[if_neg dC,if_pos dC,if_neg (by rw[hs];omega)]
theorem ls3_a:curtF ls3 19=[10,6,3]:=by decide
theorem ls3_b:curtF ls3 20=[10,7,3]:=by decide
theorem i3_at {a b c:Int} (j:Nat) (h:j<3):[iC (([a,b,c]:List Int).getD j 0)]=(([iC a,iC b,iC c]:List CV).drop (j*1)).take 1:=by
 match j,h with
 |0,_|1,_|2,_=>rfl
 |j+3,h=>exact absurd h oM
abbrev fAwake:FuncId:=9
theorem eAwake:Ent Tryz.prog fAwake:=Ent.of func9 rfl kR
theorem bAwake:Tryz.prog.funcs[fAwake]? =some Tryz.f9:=func9
set_option maxRecDepth 4000 in
theorem awake_c:Ctr Tryz.prog fAwake [] [] [] ttR:=by
 refine ctr_of gT eAwake bAwake rfl rfl rfl bL ClB.nil (Sd.sq (VC_ok gT mxd (Sd.sq (VC_ok gT mxd ?_))))
 refine vfrz 1 0 (lC2 ls3) rfl rfl ls3_at rfl bL (all_clo rfl) (Nat.zero_le _) fun A c _ _=>VC_ok gT mxd ⟨[],cur_c ⟨A,c,ls3⟩ 19,rfl,rfl,rfl,fun u hu=>⟨[],cur_c ⟨A,c,ls3⟩ 20,rfl,rfl,rfl,fun v hv=>?_⟩⟩
 have hu':u.l=[10,6,3]:=by
  have h3:u.l=if curtE ls3 19=0 then curtF ls3 19 else []:=hu
  rw[if_pos (ls3_e 19 dC dC),ls3_a] at h3
  exact h3
 have hv':v.l=[10,7,3]:=by
  have h3:v.l=if curtE ls3 20=0 then curtF ls3 20 else []:=hv
  rw[if_pos (ls3_e 20 dC dC),ls3_b] at h3
  exact h3
 refine⟨fun _=>⟨some (fun j=>[iC (([10,6,3]:List Int).getD j 0)]),⟨⟨Nat.zero_le _,Nat.zero_lt_one⟩,rfl,i3_at,all_clo rfl⟩,fun A1 c1 _ _=>⟨men0,[],ints18_c u ⟨A1,c1,[10,6,3]⟩ hu' (by rw[hu'];decide),rfl,rfl,rfl,fun _ _=>⟨some (fun j=>[iC (([10,7,3]:List Int).getD j 0)]),⟨⟨Nat.zero_le _,Nat.zero_lt_one⟩,rfl,i3_at,all_clo rfl⟩,fun A2 c2 _ _=>⟨men0,men0,[],ints18_c v ⟨A2,c2,[10,7,3]⟩ hv' (by rw[hv'];decide),rfl,rfl,rfl,fun _ _=>⟨(),trivial,fin_of rfl rfl trivial⟩⟩⟩⟩⟩,fun h=>absurd ⟨ls3_e 19 dC dC,ls3_e 20 dC dC⟩ h⟩
end Go.Proofs.YtandhgfmfpmemaaGreat
namespace Go.Proofs.YtandhgfmfpmemaaGreat
open Go.Vg _root_.Go.Proofs.Tryz
open Go.Vm hiding sg sg_t sg_f sg_abs sg_neg sg_add sg_mul sg_self sg_canon sg_pos sg_zero sg_eq_zero sg_lt
open Go.Vy hiding val
set_option maxHeartbeats 1000000
theorem mod_n (a n:Int) (hn:0<n) (hn2:n≤1000000):Ctr Tryz.prog fMod [] [.c (iC a),.c (iC n)] [] (fun r:Int=>⟨.c (iC r),[],0≤r∧r<n⟩):=by
 have hu:0≤a%18446744073709551616:=Int.emod_nonneg _ dC
 have e:(a%18446744073709551616).tmod n=a%18446744073709551616%n:=Int.tmod_eq_emod_of_nonneg hu
 have h1:=Int.emod_nonneg (a%18446744073709551616) (show n≠0 by omega)
 have h2:=Int.emod_lt_of_pos (a%18446744073709551616) hn
 refine ctr_of gT eMod bMod rfl rfl rfl bL ClB.nil (VC_ok gT mxd ⟨a%18446744073709551616,?_,n,?_,(show n≠0 by omega),a%18446744073709551616%n,?_,a%18446744073709551616%n,⟨h1,h2⟩,fin_of rfl rfl trivial⟩)
 ·rfl
 ·show n=n%18446744073709551616
  omega
 rw[e]
 refine wi (z:=a%18446744073709551616%n) (h:=⟨rfl,by omega,by omega⟩)
abbrev tpB (d:Sl Int) (p:Nat):BL:=[(132,0,[intsR d,iC p])]
abbrev fTNext:FuncId:=27
theorem eTNext:Ent Tryz.prog fTNext:=Ent.of func27 rfl kR
theorem bTNext:Tryz.prog.funcs[fTNext]? =some Tryz.f27:=func27
theorem tnext_c (d:Sl Int) (p:Nat) (n:Int) (hd:d.l.length≤1000000) (hp:p≤d.l.length) (hn:0<n) (hn2:n≤1000000):Ctr Tryz.prog fTNext [true] [.c (.p 0 0),.c (iC n)] (tpB d p) (fun g:Int×Nat=>⟨.c (iC g.1),tpB d g.2,(0≤g.1∧g.1<n)∧g.2≤d.l.length⟩):=by
 refine ctr_of gT eTNext bTNext rfl rfl rfl bL (ClB.one rfl) (VC_ok gT mxd ⟨.seq (sq 99 (List.range 10)),by kernel_rfl,⟨fun h=>VC_ok gT mxd ⟨(0,p),⟨⟨Int.le_refl 0,hn⟩,hp⟩,fin_own rfl rfl bL (scB.cons rfl scB.nil) rfl (ClB.one rfl)⟩,fun h=>VC_ok gT mxd ?_⟩⟩)
 have hpl:p<d.l.length:=by replace h:¬(p:Int)≥(d.l.length:Nat):=h;omega
 exact⟨(p+1:Nat),wi,.seq (sq 99 (List.range 14)),by kernel_rfl,p,wi,p,⟨rfl,hpl⟩,[],mod_n _ n hn hn2,rfl,rfl,rfl,fun r hr=>⟨(r,p+1),⟨hr,hpl⟩,fin_own rfl rfl bL (scB.cons rfl scB.nil) rfl (ClB.one rfl)⟩⟩
abbrev hrB (d:Sl Int) (p:Nat) (L:List Int):BL:=[(132,0,[intsR d,iC p]),(3,1,L.map iC)]
theorem ints_at (L:List Int) (j:Nat) (h:j<L.length):[iC (L.getD j 0)]=((L.map iC).drop (j*1)).take 1:=by
 rw[←flat_ints]
 exact(flR_at (P:=fun j=>[iC (L.getD j 0)]) (e:=1) (fun _ _=>rfl) h).symm
abbrev fTHours:FuncId:=28
theorem eTHours:Ent Tryz.prog fTHours:=Ent.of func28 rfl kR
theorem bTHours:Tryz.prog.funcs[fTHours]? =some Tryz.f28:=func28
theorem thours_c (d:Sl Int) (p m:Nat) (k:Int) (hd:d.l.length≤1000000) (hp:p≤d.l.length) (hm:m≤1000) (hn:0<k) (hn2:k≤1000000):Ctr Tryz.prog fTHours [true] [.c (.p 0 0),.c (iC m),.c (iC k)] (tpB d p) (fun g:Sl Int×Nat=>⟨.c (intsR g.1),tpB d g.2,g.1.l.length=m∧g.2≤d.l.length⟩):=by
 refine ctr_of gT eTHours bTHours rfl rfl rfl bL (ClB.one rfl) (VC_ok gT mxd (vnil 7 3 1 rfl bL ?_))
 refine vloopD (rn [(7,8),(9,19)]) 2 (fun g:Nat×List Int×Nat=>[(8,.c (iC g.1)),(7,.c (.s 1 g.2.1.length))]) (fun g=>hrB d g.2.2 g.2.1) (fun g=>g.1≤m∧g.2.1.length=g.1∧g.2.2≤d.l.length) (fun g=>m-g.1) (0,[],p) (fun _=>rfl) bL (fun g=>scB.cons rfl (scB.cons (sc_clo (clo_ints _)) scB.nil)) (fun _=>rfl) ?_
 refine⟨⟨rfl,⟨Nat.zero_le _,rfl,hp⟩,⟨rfl,rfl⟩,⟨rfl,rfl⟩⟩,fun⟨i,L,q⟩ ⟨hi,hL,hq⟩=>VC_ok gT mxd ⟨fun h1=>VC_ok gT mxd ?_,fun h1=>VC_ok gT mxd ?_⟩⟩
 all_goals
  replace hi:i≤m:=hi
  replace hL:L.length=i:=hL
  replace hq:q≤d.l.length:=hq
 ·have him:i<m:=by replace h1:(i:Int)<(m:Nat):=h1;omega
  refine⟨[0],tnext_c d q k hd hq hn hn2,rfl,rfl,rfl,fun r hr=>⟨apI2 oM,men1,(i+1:Nat),wi,(i+1,L++[r.1],r.2),⟨⟨him,by simp[hL],hr.2⟩,show m-(i+1)<m-i by omega⟩,rfl,⟨rfl,?_⟩,⟨rfl,?_⟩⟩⟩
  ·show(_,_,_)=(_,_,_)
   rw[List.map_append]
   rfl
  show _=_
  simp
 have hii:i=m:=by replace h1:¬(i:Int)<(m:Nat):=h1;omega
 refine vfrz 7 1 (fun j=>[iC (L.getD j 0)]) rfl rfl (fun j hj=>ints_at L j hj) (by simp) bL (clo_ints _) bL fun A c _ _=>VC_ok gT mxd ?_
 exact⟨(⟨A,c,L⟩,q),⟨hL.trans hii,hq⟩,fin_own rfl rfl bL (scB.cons rfl scB.nil) rfl (ClB.one rfl)⟩
abbrev fTAway:FuncId:=79
theorem eTAway:Ent Tryz.prog fTAway:=Ent.of func79 rfl kR
theorem bTAway:Tryz.prog.funcs[fTAway]? =some Tryz.f79:=func79
theorem taway_c (d:Sl Int) (p:Nat) (n:Int) (hd:d.l.length≤1000000) (hp:p≤d.l.length) (hn:0<n) (hn2:n≤1000000):Ctr Tryz.prog fTAway [true] [.c (.p 0 0),.c (iC n)] (tpB d p) (fun g:Sl Int×Nat=>⟨.c (intsR g.1),tpB d g.2,g.1.l.length≤1∧g.2≤d.l.length⟩):=by
 refine ctr_of gT eTAway bTAway rfl rfl rfl bL (ClB.one rfl) (VC_ok gT mxd ⟨[0],tnext_c d p 6 hd hp dC dC,rfl,rfl,rfl,fun r hr=>⟨fun h=>Sd.sq (VC_ok gT mxd ⟨[0],tnext_c d r.2 n hd hr.2 hn hn2,rfl,rfl,rfl,fun q hq=>vfrz 4 1 (g1 q.1) rfl rfl (fz1 (nb:=0) (Nat.zero_le 0) q.1).2.2.1 rfl bL (fz1 (nb:=0) (Nat.zero_le 0) q.1).2.2.2 bL fun A c _ _=>VC_ok gT mxd ⟨(⟨A,c,[q.1]⟩,q.2),⟨Nat.le_refl 1,hq.2⟩,fin_own rfl rfl bL (scB.cons rfl scB.nil) rfl (ClB.one rfl)⟩⟩),fun h=>VC_ok gT mxd ⟨(nilS,r.2),⟨Nat.zero_le 1,hr.2⟩,fin_own ⟨rfl,rfl,rfl⟩ rfl bL (scB.cons rfl scB.nil) rfl (ClB.one rfl)⟩⟩⟩)
end Go.Proofs.YtandhgfmfpmemaaGreat
namespace Go.Proofs.YtandhgfmfpmemaaGreat
open Go.Vg _root_.Go.Proofs.Tryz
open Go.Vm hiding sg sg_t sg_f sg_abs sg_neg sg_add sg_mul sg_self sg_canon sg_pos sg_zero sg_eq_zero sg_lt
open Go.Vy hiding val
set_option maxHeartbeats 1000000
abbrev fNam:FuncId:=29
theorem eNam:Ent Tryz.prog fNam:=Ent.of func29 rfl kR
theorem bNam:Tryz.prog.funcs[fNam]? =some Tryz.f29:=func29
theorem nam_c (k:ByteArray) (i:Nat) (hk:k.size≤100) (hi:i≤1000000):Ctr Tryz.prog fNam [] [.c (.v (.string k)),.c (iC i)] [] (fun g:ByteArray=>⟨.c (sC g),[],True⟩):=by
 have e:((i:Int)).tmod 16=((i%16:Nat):Int):=by rw[Int.tmod_eq_emod_of_nonneg oM];omega
 refine ctr_of gT eNam bNam rfl rfl rfl bL ClB.nil (VC_ok gT mxd ⟨(show(16:Int)≠0 by decide),(show(16:Int)≠0 by decide),((i%16+1:Nat):Int),wi (h:=⟨by rw[e];rfl,by omega,by omega⟩),i%16,i%16+1,⟨e,rfl,by omega,?_⟩,?_,_,trivial,fin_of rfl rfl trivial⟩)
 ·show i%16+1≤16
  omega
 have:∀a:ByteArray,a.size≤100→k.size+a.size≤9223372036854775807:=fun a h=>by omega
 refine this _ ?_
 rw[ByteArray.size_extract]
 omega
abbrev fTNew:FuncId:=26
theorem eTNew:Ent Tryz.prog fTNew:=Ent.of func26 rfl kR
theorem bTNew:Tryz.prog.funcs[fTNew]? =some Tryz.f26:=func26
theorem tnew_c (d:Sl Int):Ctr Tryz.prog fTNew [] [.c (intsR d)] [] (fun _:Unit=>⟨.c (.p 0 0),tpB d 0,True⟩):=
 ctr_of gT eTNew bTNew rfl rfl rfl bL ClB.nil (VC_ok gT mxd ⟨(),trivial,fin_own rfl rfl (Nat.zero_le _) (scB.cons rfl scB.nil) rfl clB0⟩)
abbrev fTLine:FuncId:=30
theorem eTLine:Ent Tryz.prog fTLine:=Ent.of func30 rfl kR
theorem bTLine:Tryz.prog.funcs[fTLine]? =some Tryz.f30:=func30
def oLi:Ord:=.treeX [] [2000,1] (trS [2002,3,2004,2005,1006])
theorem tline_c (d:Sl Int) (p i m:Nat) (a b:Int) (hd:d.l.length≤1000000) (hp:p≤d.l.length) (hi:i≤1000000) (hm:0<m) (hm2:m≤1000000):Ctr Tryz.prog fTLine [true] [.c (.p 0 0),.c (iC i),.c (iC a),.c (iC b),.c (iC m)] (tpB d p) (fun g:LineM×Nat=>⟨.a g.1.C,tpB d g.2,g.1.away.l.length≤1∧g.2≤d.l.length⟩):=by
 refine ctr_of gT eTLine bTLine rfl rfl rfl bL (ClB.one rfl) (VC_ok gT mxd ⟨[],nam_c ⟨#[108]⟩ i bL hi,rfl,rfl,rfl,fun nm _=>⟨[0],tnext_c d p 4 hd hp dC dC,rfl,rfl,rfl,fun r1 h1=>⟨1+r1.1,wi,[0],tnext_c d r1.2 2 hd h1.2 dC dC,rfl,rfl,rfl,fun r2 h2=>⟨1+r2.1,wi,[0],tnext_c d r2.2 40 hd h2.2 dC dC,rfl,rfl,rfl,fun r3 h3=>⟨4+r3.1,wi,oLi,by kernel_rfl,[0],tnext_c d r3.2 20 hd h3.2 dC dC,rfl,rfl,rfl,fun r4 h4=>⟨rfl,4+r3.1+r4.1,wi,[0],tnext_c d r4.2 5 hd h4.2 dC dC,rfl,rfl,rfl,fun r5 h5=>⟨fun _=>VC_ok gT mxd ?_,fun _=>VC_ok gT mxd ?_⟩⟩⟩⟩⟩⟩⟩)
 ·exact⟨[0],tnext_c d r5.2 4 hd h5.2 dC dC,rfl,rfl,rfl,fun r6 h6=>⟨-r6.1,wi,[0],tnext_c d r6.2 2 hd h6.2 dC dC,rfl,rfl,rfl,fun r7 h7=>⟨1+r7.1,wi,[0],tnext_c d r7.2 4 hd h7.2 dC dC,rfl,rfl,rfl,fun r8 h8=>⟨[0],taway_c d r8.2 m hd h8.2 oM oM,rfl,rfl,rfl,fun r9 h9=>⟨(⟨nm,a,b,⟨1+r1.1,1+r2.1⟩,⟨-r6.1,1+r7.1⟩,⟨r8.1,1⟩,4+r3.1,4+r3.1+r4.1,r9.1⟩,r9.2),h9,fin_own rfl rfl bL (scB.cons rfl scB.nil) rfl (ClB.one rfl)⟩⟩⟩⟩⟩
 exact⟨[0],taway_c d r5.2 m hd h5.2 oM oM,rfl,rfl,rfl,fun r9 h9=>⟨(⟨nm,a,b,⟨1+r1.1,1+r2.1⟩,⟨0,1⟩,⟨0,1⟩,4+r3.1,4+r3.1+r4.1,r9.1⟩,r9.2),h9,fin_own rfl rfl bL (scB.cons rfl scB.nil) rfl (ClB.one rfl)⟩⟩
end Go.Proofs.YtandhgfmfpmemaaGreat
namespace Go.Proofs.YtandhgfmfpmemaaGreat
open Go.Vg
open Go.Vm hiding sg sg_t sg_f sg_abs sg_neg sg_add sg_mul sg_self sg_canon sg_pos sg_zero sg_eq_zero sg_lt
open Go.Vy hiding val
set_option maxHeartbeats 1000000
theorem ap0 {m sz b i:Nat} {get:Nat→List CV} (hl:∀j,(get j).length=sz) (hc:∀j,∀c∈get j,cloC c=true) (hm:m≤2000000) (hb:b≤1000):(∀j,j<m→(get j).length=sz)∧0*sz=([]:List CV).length∧0+m≤maxLen∧(0+m)*b≤140737488355328∧∀c∈[]++flatR m get,menC i c=false:=
 ⟨fun j _=>hl j,by simp,by simp only[maxLen];omega,by
  have:(0+m)*b≤2000000*1000:=Nat.mul_le_mul oM hb
  omega,clo_men' (fl_clo hc m)⟩
theorem ap1 {n e b i:Nat} {P:Nat→List CV} {row:List CV} (hr:row.length=e) (hl:∀j,(P j).length=e) (hc:∀j,∀c∈P j,cloC c=true) (hn:n<2000000) (hb:b≤1000) (hm:∀c∈row,menC i c=false):1*e=row.length∧n*e=(flatR n P).length∧n+1≤maxLen∧(n+1)*b≤140737488355328∧∀c∈flatR n P++row,menC i c=false:=
 ⟨by omega,(flR_len fun j _=>hl j).symm,by simp only[maxLen];omega,by
  have:(n+1)*b≤2000000*1000:=Nat.mul_le_mul oM hb
  omega,fun c h=>by
  rcases List.mem_append.1 h with h|h
  ·exact clo_men (fl_clo hc n c h)
  exact hm c h⟩
theorem bus_grow {C:CaseM} {A:Nat→Option Nat} {cap:Nat→Nat} {i k:Nat} {Aa:Option Nat} {aa:Nat}:(flatR i (busT C A cap i)++[sC (gB C i).name,.s k (0+(gB C i).demand.l.length),iC (gB C i).shed]).map (sinkC k Aa aa)=flatR (i+1) (busT C (upd A i Aa) (upd cap i aa) (i+1)):=by
 rw[List.map_append,flR_map,flatR_succ]
 congr 1
 ·refine flR_congr fun j hj=>?_
  rw[map_id' sink_clo (busT_clo j)]
  unfold busT
  rw[if_pos hj,if_pos oM,upd_ne oM,upd_ne oM]
 unfold busT
 rw[if_pos oM,upd_eq,upd_eq]
 show [sC _,sinkC k Aa aa (.s k _),iC _]=_
 simp only[sinkC,Nat.beq_refl,cond_true,Nat.zero_add]
abbrev blK (C:CaseM) (d B L U S E O:List CV):BL:=[(30,0,C.C []),(30,0,zC),(30,0,d),(3,1,resF C),(59,3,B),(71,12,L),(42,22,U),(75,9,S),(77,5,E),(47,4,O)]
abbrev dK (C:CaseM) (b l u s e o:Nat):List CV:=[iC C.hours,.s 3 C.reserve.l.length,.s 4 b,.s 5 l,.s 6 u,.s 7 s,.s 8 e,.s 9 o]
theorem blK_sc {C:CaseM} {d B L U S E O:List CV} (hd:d.all (scC 10)=true) (hB:∀c∈B,cloC c=true) (hL:∀c∈L,cloC c=true) (hU:∀c∈U,cloC c=true) (hS:∀c∈S,cloC c=true) (hE:∀c∈E,cloC c=true) (hO:∀c∈O,cloC c=true):scB 10 (blK C d B L U S E O):=
 scB.cons rfl (scB.cons rfl (scB.cons hd (scB.cons (sc_clo (resF_clo C)) (scB.cons (sc_clo hB) (scB.cons (sc_clo hL) (scB.cons (sc_clo hU) (scB.cons (sc_clo hS) (scB.cons (sc_clo hE) (scB.cons (sc_clo hO) scB.nil)))))))))
theorem zB (C:CaseM) (n:Nat):((30,0,[iC C.hours,.s 3 (0+n),.s 4 0,.s 5 0,.s 6 0,.s 7 0,.s 8 0,.s 9 0]):TypeId×Nat×List CV)=(30,0,[iC C.hours,.s 3 n,.s 4 0,.s 5 0,.s 6 0,.s 7 0,.s 8 0,.s 9 0]):=by rw[Nat.zero_add]
theorem row_men {i:Nat} {l:List CV} (h:(l.all fun c=>!menC i c)=true):∀c∈l,menC i c=false:=fun c hc=>by simpa using List.all_eq_true.1 h c hc
abbrev blJ (C:CaseM) (d B L U S E O:List CV) (T:Nat) (row:List CV):BL:=[(30,0,C.C []),(30,0,zC),(30,0,d),(3,1,resF C),(59,3,B),(71,12,L),(42,22,U),(75,9,S),(77,5,E),(47,4,O),(T,0,row)]
theorem blJ_sc {C:CaseM} {d B L U S E O row:List CV} {T:Nat} (hd:d.all (scC 11)=true) (hB:∀c∈B,cloC c=true) (hL:∀c∈L,cloC c=true) (hU:∀c∈U,cloC c=true) (hS:∀c∈S,cloC c=true) (hE:∀c∈E,cloC c=true) (hO:∀c∈O,cloC c=true) (hr:row.all (scC 11)=true):scB 11 (blJ C d B L U S E O T row):=
 scB.cons rfl (scB.cons rfl (scB.cons hd (scB.cons (sc_clo (resF_clo C)) (scB.cons (sc_clo hB) (scB.cons (sc_clo hL) (scB.cons (sc_clo hU) (scB.cons (sc_clo hS) (scB.cons (sc_clo hE) (scB.cons (sc_clo hO) (scB.cons hr scB.nil))))))))))
theorem gsG {nb:Nat} {s:SS} {σ:Type} {S:σ→SS} {C:σ→Prop} (i:Nat) {T es:Nat} {l:List CV} (hb:s.bl[i]? =some (T,es,l)) (hes:0<es) (hclo:∀c∈l,cloC c=true) (hnb:nb≤i) (hgl:s.gl=[])
 (h:∀A a,sslK (sinkC i A a) s.sl fun sl'=>sblK (sinkC i A a) i 0 s.bl fun bl'=>snocK s.fl ⟨T,es,1,fun _=>A,fun _=>a,fun _=>l⟩ fun fl'=>Gt nb ⟨sl',[],bl',fl'⟩ S C):Gt nb s S C:=gsink tGt i hb hes hclo hnb hgl h
theorem dcR_eq {C D:CaseM} {i nL nU nE nO:Nat} (hi:i=C.buses.l.length) (hL:nL=C.lines.l.length) (hU:nU=C.units.l.length) (hE:nE=C.ties.l.length) (hO:nO=C.outs.l.length):[iC C.hours,.s 3 C.reserve.l.length,.s 4 i,.r D.lines.A nL D.lines.c 12 (fun j=>LineM.C (D.lines.l.getD j line0)),.r D.units.A nU D.units.c 22 (fun j=>UnitM.C (D.units.l.getD j unit0)),.r D.stores.A (0+C.stores.l.length) D.stores.c 9 (fun j=>StoreM.C (D.stores.l.getD j store0)),.r D.ties.A nE D.ties.c 5 (fun j=>TieM.C (D.ties.l.getD j tie0)),.r D.outs.A nO D.outs.c 4 (fun j=>OutM.C (D.outs.l.getD j out0))]=dcR C D:=by
 rw[Nat.zero_add,hi,hL,hU,hE,hO]
theorem no_clo:∀c∈([]:List CV),cloC c=true:=fun _ h=>nomatch h
theorem prow_len {e:Nat} {P:Nat→List CV} {n:Nat} (h:∀j,(P j).length=e) {q:Nat}:n*e+q=(flatR n P).length+q:=by rw[flR_len fun j _=>h j]
theorem row_at {n e q:Nat} {P:Nat→List CV} {row:List CV} (h:∀j,(P j).length=e):(flatR n P++row)[n*e+q]? =row[q]?:=by
 rw[prow_len h,List.getElem?_append_right (Nat.le_add_right _ _),Nat.add_sub_cancel_left]
theorem row_set {n e q:Nat} {P:Nat→List CV} {row:List CV} {c:CV} (h:∀j,(P j).length=e):(flatR n P++row).set (n*e+q) c=flatR n P++row.set q c:=by
 rw[prow_len h,List.set_append_right _ _ (Nat.le_add_right _ _),Nat.add_sub_cancel_left]
theorem sink_row {n i:Nat} {A:Option Nat} {a:Nat} {P:Nat→List CV} {row:List CV} (h:∀j,∀c∈P j,cloC c=true):(flatR n P++row).map (sinkC i A a)=flatR n P++row.map (sinkC i A a):=by rw[List.map_append,map_id' sink_clo (fl_clo h n)]
theorem fr_grow {F:Fam} {n e q:Nat} {P:Nat→List CV} {row:List CV} {c0 c1:CV} {l':List CV} (h:∀j,(P j).length=e) (hk:row[q]? =some c0) (hf:FrC F c0 c1) (he:flatR n P++row.set q c1=l'):∀(k:Nat) (c c':CV),(flatR n P++row)[k]? =some c→l'[k]? =some c'→c=c'∨FrC F c c':=by
 rw[←he,←row_set h]
 exact frset ((row_at h).trans hk) hf
theorem grow_len {n q:Nat} {P:Nat→List CV} {row:List CV} {c1:CV} {l':List CV} (he:flatR n P++row.set q c1=l'):l'.length=(flatR n P++row).length:=by rw[←he];simp
theorem frc {T e m:Nat} {A:Option Nat} {a:Nat} {P:Nat→List CV} (he:0<e) (hP:∀j,(P j).length=e):FrC ⟨T,e,1,fun _=>A,fun _=>a,fun _=>flatR m P⟩ (.h A (0+m) a) (.r (A.map fun b=>⟨b,0,none⟩) (0+m) a e P):=
 ⟨0,0+m,P,bL,rfl,rfl,by rw[Nat.zero_add];exact(flR_len fun j _=>hP j).symm,fun q hq=>(flR_at (fun j _=>hP j) oM).symm⟩
abbrev rowL (C:CaseM) (k:Nat) (a:Option Addr×Nat):List CV:=((gL C k).C.set 11 (.r a.1 (0+(gL C k).away.l.length) a.2 1 fun j=>[iC ((gL C k).away.l.getD j 0)]))
theorem growL {C:CaseM} {F:Nat→Option Addr×Nat} {k:Nat} {a:Option Addr×Nat}:flatR k (celL C F k)++rowL C k a=flatR (k+1) (celL C (upd F k a) (k+1)):=by
 rw[flatR_succ]
 congr 1
 ·refine flR_congr fun j hj=>?_
  unfold celL
  rw[if_pos hj,if_pos oM,upd_ne oM]
 unfold celL
 rw[if_pos oM,upd_eq]
 unfold rowL
 simp only[Nat.zero_add]
 rfl
abbrev rowU (C:CaseM) (k:Nat) (a:(Option Addr×Nat)×(Option Addr×Nat)):List CV:=(((gU C k).C.set 4 (.r a.1.1 (0+(gU C k).segs.l.length) a.1.2 2 fun j=>SegM.C ((gU C k).segs.l.getD j ⟨0,0⟩))).set 18 (.r a.2.1 (0+(gU C k).away.l.length) a.2.2 1 fun j=>[iC ((gU C k).away.l.getD j 0)]))
theorem growU {C:CaseM} {F:Nat→(Option Addr×Nat)×(Option Addr×Nat)} {k:Nat} {a:(Option Addr×Nat)×(Option Addr×Nat)}:flatR k (celU C F k)++rowU C k a=flatR (k+1) (celU C (upd F k a) (k+1)):=by
 rw[flatR_succ]
 congr 1
 ·refine flR_congr fun j hj=>?_
  unfold celU
  rw[if_pos hj,if_pos oM,upd_ne oM]
 unfold celU
 rw[if_pos oM,upd_eq]
 unfold rowU
 simp only[Nat.zero_add]
 rfl
abbrev rowE (C:CaseM) (k:Nat) (a:(Option Addr×Nat)×(Option Addr×Nat)×(Option Addr×Nat)):List CV:=((((gE C k).C.set 2 (.r a.1.1 (0+(gE C k).imp.l.length) a.1.2 1 fun j=>[iC ((gE C k).imp.l.getD j 0)])).set 3 (.r a.2.1.1 (0+(gE C k).exp.l.length) a.2.1.2 1 fun j=>[iC ((gE C k).exp.l.getD j 0)])).set 4 (.r a.2.2.1 (0+(gE C k).price.l.length) a.2.2.2 1 fun j=>[iC ((gE C k).price.l.getD j 0)]))
theorem growE {C:CaseM} {F:Nat→(Option Addr×Nat)×(Option Addr×Nat)×(Option Addr×Nat)} {k:Nat} {a:(Option Addr×Nat)×(Option Addr×Nat)×(Option Addr×Nat)}:flatR k (celE C F k)++rowE C k a=flatR (k+1) (celE C (upd F k a) (k+1)):=by
 rw[flatR_succ]
 congr 1
 ·refine flR_congr fun j hj=>?_
  unfold celE
  rw[if_pos hj,if_pos oM,upd_ne oM]
 unfold celE
 rw[if_pos oM,upd_eq]
 unfold rowE
 simp only[Nat.zero_add]
 rfl
abbrev rowO (C:CaseM) (k:Nat) (a:(Option Addr×Nat)×(Option Addr×Nat)):List CV:=(((gO C k).C.set 1 (.r a.1.1 (0+(gO C k).lines.l.length) a.1.2 1 fun j=>[iC ((gO C k).lines.l.getD j 0)])).set 3 (.r a.2.1 (0+(gO C k).moves.l.length) a.2.2 3 fun j=>MoveM.C ((gO C k).moves.l.getD j ⟨0,0,0⟩)))
theorem growO {C:CaseM} {F:Nat→(Option Addr×Nat)×(Option Addr×Nat)} {k:Nat} {a:(Option Addr×Nat)×(Option Addr×Nat)}:flatR k (celO C F k)++rowO C k a=flatR (k+1) (celO C (upd F k a) (k+1)):=by
 rw[flatR_succ]
 congr 1
 ·refine flR_congr fun j hj=>?_
  unfold celO
  rw[if_pos hj,if_pos oM,upd_ne oM]
 unfold celO
 rw[if_pos oM,upd_eq]
 unfold rowO
 simp only[Nat.zero_add]
 rfl
def o43U:Ord:=.joinX [1,5] [2,6] (.alt 0 (.alt 3 (.alt 2008 (.alt 4 (.alt 7 (.alt 1009 (.alt 2010 (.alt 1011 .nil .nil) .nil) .nil) .nil) .nil) .nil) (.alt 4 (.alt 3 (.alt 2008 (.alt 7 (.alt 1009 (.alt 2010 (.alt 1011 .nil .nil) .nil) .nil) .nil) .nil) .nil) .nil)) (.alt 4 (.alt 0 (.alt 3 (.alt 2008 (.alt 7 (.alt 1009 (.alt 2010 (.alt 1011 .nil .nil) .nil) .nil) .nil) .nil) .nil) .nil) .nil))
def o43E:Ord:=.joinX [1,5,9] [2,6,10] (.alt 0 (.alt 3 (.alt 2012 (.alt 4 (.alt 7 (.alt 8 (.alt 11 (.alt 1013 (.alt 2014 (.alt 1015 (.alt 2016 (.alt 1017 .nil .nil) .nil) .nil) .nil) .nil) .nil) .nil) (.alt 8 (.alt 7 (.alt 11 (.alt 1013 (.alt 2014 (.alt 1015 (.alt 2016 (.alt 1017 .nil .nil) .nil) .nil) .nil) .nil) .nil) .nil) .nil)) (.alt 8 (.alt 4 (.alt 7 (.alt 11 (.alt 1013 (.alt 2014 (.alt 1015 (.alt 2016 (.alt 1017 .nil .nil) .nil) .nil) .nil) .nil) .nil) .nil) .nil) .nil)) .nil) (.alt 4 (.alt 3 (.alt 2012 (.alt 7 (.alt 8 (.alt 11 (.alt 1013 (.alt 2014 (.alt 1015 (.alt 2016 (.alt 1017 .nil .nil) .nil) .nil) .nil) .nil) .nil) .nil) (.alt 8 (.alt 7 (.alt 11 (.alt 1013 (.alt 2014 (.alt 1015 (.alt 2016 (.alt 1017 .nil .nil) .nil) .nil) .nil) .nil) .nil) .nil) .nil)) .nil) (.alt 8 (.alt 3 (.alt 2012 (.alt 7 (.alt 11 (.alt 1013 (.alt 2014 (.alt 1015 (.alt 2016 (.alt 1017 .nil .nil) .nil) .nil) .nil) .nil) .nil) .nil) .nil) .nil) .nil)) (.alt 8 (.alt 3 (.alt 2012 (.alt 4 (.alt 7 (.alt 11 (.alt 1013 (.alt 2014 (.alt 1015 (.alt 2016 (.alt 1017 .nil .nil) .nil) .nil) .nil) .nil) .nil) .nil) .nil) .nil) (.alt 4 (.alt 3 (.alt 2012 (.alt 7 (.alt 11 (.alt 1013 (.alt 2014 (.alt 1015 (.alt 2016 (.alt 1017 .nil .nil) .nil) .nil) .nil) .nil) .nil) .nil) .nil) .nil) .nil)) .nil))) (.alt 4 (.alt 0 (.alt 3 (.alt 2012 (.alt 7 (.alt 8 (.alt 11 (.alt 1013 (.alt 2014 (.alt 1015 (.alt 2016 (.alt 1017 .nil .nil) .nil) .nil) .nil) .nil) .nil) .nil) (.alt 8 (.alt 7 (.alt 11 (.alt 1013 (.alt 2014 (.alt 1015 (.alt 2016 (.alt 1017 .nil .nil) .nil) .nil) .nil) .nil) .nil) .nil) .nil)) .nil) (.alt 8 (.alt 3 (.alt 2012 (.alt 7 (.alt 11 (.alt 1013 (.alt 2014 (.alt 1015 (.alt 2016 (.alt 1017 .nil .nil) .nil) .nil) .nil) .nil) .nil) .nil) .nil) .nil) .nil)) (.alt 8 (.alt 0 (.alt 3 (.alt 2012 (.alt 7 (.alt 11 (.alt 1013 (.alt 2014 (.alt 1015 (.alt 2016 (.alt 1017 .nil .nil) .nil) .nil) .nil) .nil) .nil) .nil) .nil) .nil) .nil) .nil)) (.alt 8 (.alt 0 (.alt 3 (.alt 2012 (.alt 4 (.alt 7 (.alt 11 (.alt 1013 (.alt 2014 (.alt 1015 (.alt 2016 (.alt 1017 .nil .nil) .nil) .nil) .nil) .nil) .nil) .nil) .nil) .nil) (.alt 4 (.alt 3 (.alt 2012 (.alt 7 (.alt 11 (.alt 1013 (.alt 2014 (.alt 1015 (.alt 2016 (.alt 1017 .nil .nil) .nil) .nil) .nil) .nil) .nil) .nil) .nil) .nil) .nil)) (.alt 4 (.alt 0 (.alt 3 (.alt 2012 (.alt 7 (.alt 11 (.alt 1013 (.alt 2014 (.alt 1015 (.alt 2016 (.alt 1017 .nil .nil) .nil) .nil) .nil) .nil) .nil) .nil) .nil) .nil) .nil) .nil)) .nil)))
def o43O:Ord:=.joinX [1,5] [2,6] (.alt 0 (.alt 3 (.alt 2008 (.alt 4 (.alt 7 (.alt 1009 (.alt 2010 (.alt 1011 .nil .nil) .nil) .nil) .nil) .nil) .nil) (.alt 4 (.alt 3 (.alt 2008 (.alt 7 (.alt 1009 (.alt 2010 (.alt 1011 .nil .nil) .nil) .nil) .nil) .nil) .nil) .nil)) (.alt 4 (.alt 0 (.alt 3 (.alt 2008 (.alt 7 (.alt 1009 (.alt 2010 (.alt 1011 .nil .nil) .nil) .nil) .nil) .nil) .nil) .nil) .nil))
end Go.Proofs.YtandhgfmfpmemaaGreat
namespace Go.Proofs.YtandhgfmfpmemaaGreat
open Go.Vg _root_.Go.Proofs.Tryz
open Go.Vm hiding sg sg_t sg_f sg_abs sg_neg sg_add sg_mul sg_self sg_canon sg_pos sg_zero sg_eq_zero sg_lt
open Go.Vy hiding val
set_option maxHeartbeats 1000000
section
variable {α:Type} {f:α→List CV} {d:α} {L:List α} {e:Nat}
def fl (f:α→List CV) (d:α) (L:List α):List CV:=flatR L.length fun j=>f (L.getD j d)
theorem fl_snoc {x:α}:fl f d L++f x=fl f d (L++[x]):=by
 unfold fl
 rw[List.length_append,List.length_singleton,flatR_succ]
 have h1:(L++[x]).getD L.length d=x:=by simp[List.getD]
 rw[h1,flR_congr (Q:=fun j=>f ((L++[x]).getD j d)) fun j hj=>by simp[List.getD,List.getElem?_append_left hj]]
theorem fl_cl (h:∀x,∀c∈f x,cloC c=true):∀c∈fl f d L,cloC c=true:=fl_clo (fun _=>h _) _
theorem fl_len (h:∀x,(f x).length=e):(fl f d L).length=L.length*e:=flR_len fun _ _=>h _
theorem apF {b i:Nat} {row:List CV} (hf:∀x,(f x).length=e) (hc:∀x,∀c∈f x,cloC c=true) (hr:row.length=e) (hm:∀c∈row,menC i c=false) (hn:L.length<2000000) (hb:b≤1000):1*e=row.length∧L.length*e=(fl f d L).length∧L.length+1≤maxLen∧(L.length+1)*b≤140737488355328∧∀c∈fl f d L++row,menC i c=false:=ap1 hr (fun _=>hf _) (fun _=>hc _) hn hb hm
theorem frcF {T:Nat} {A:Option Nat} {a:Nat} (hf:∀x,(f x).length=e):FrC ⟨T,e,1,fun _=>A,fun _=>a,fun _=>fl f d L⟩ (.h A L.length a) (.r (A.map fun b=>⟨b,0,none⟩) L.length a e fun j=>f (L.getD j d)):=
 ⟨0,L.length,_,bL,rfl,rfl,(fl_len hf).symm,fun q hq=>(flR_at (P:=fun j=>f (L.getD j d)) (fun _ _=>hf _) hq).symm⟩
end
abbrev fTUnit:FuncId:=31
theorem eTUnit:Ent Tryz.prog fTUnit:=Ent.of func31 rfl kR
theorem bTUnit:Tryz.prog.funcs[fTUnit]? =some Tryz.f31:=func31
def oU11:Ord:=.treeX [] [2000,1,2002,2003,4,2005,6,2007,2008,2011,12,2013,2014,15,2016,17,2018,2019] (trS [9,2010,2022,20,2021,1023,2024,1025])
def oU21:Ord:=.treeX [] [2000,1,2002,2003,4,2005,6,2007,2008] (trS [9,2010,2011,1012])
def oU17:Ord:=.joinX [] [2001,2002,3,2004,2008] (.alt 0 (.alt 5 (.alt 2006 (.alt 7 (.alt 2011 (.alt 9 (.alt 2010 (.alt 1012 (.alt 2013 (.alt 1014 .nil .nil) .nil) .nil) .nil) .nil) .nil) (.alt 9 (.alt 2010 (.alt 7 (.alt 2011 (.alt 1012 (.alt 2013 (.alt 1014 .nil .nil) .nil) .nil) .nil) .nil) .nil) .nil)) .nil) .nil) (.alt 5 (.alt 0 (.alt 2006 (.alt 7 (.alt 2011 (.alt 9 (.alt 2010 (.alt 1012 (.alt 2013 (.alt 1014 .nil .nil) .nil) .nil) .nil) .nil) .nil) (.alt 9 (.alt 2010 (.alt 7 (.alt 2011 (.alt 1012 (.alt 2013 (.alt 1014 .nil .nil) .nil) .nil) .nil) .nil) .nil) .nil)) .nil) (.alt 9 (.alt 2010 (.alt 0 (.alt 2006 (.alt 7 (.alt 2011 (.alt 1012 (.alt 2013 (.alt 1014 .nil .nil) .nil) .nil) .nil) .nil) .nil) .nil) .nil) .nil)) .nil))
def stV (m:Nat):Int:=if m=0 then 0 else if m=1 then 2 else 1
theorem st_ix {m:Nat} (h:m<3):m<3∧m*1<([iC 0,iC 2,iC 1]:List CV).length:=⟨h,by simpa using h⟩
theorem st_at {m:Nat} (h:m<3):([iC 0,iC 2,iC 1]:List CV)[m*1]? =some (iC (stV m)):=by
 match m,h with
 |0,_=>rfl
 |1,_=>rfl
 |2,_=>rfl
theorem wj {a z:Int} (e:a=z:=by rfl) (h:-9223372036854775808≤a∧a≤9223372036854775807:=by omega):a=IntKind.i64.wrap z:=wi (h:=⟨e,e▸h⟩)
def oU9:Ord:=.treeX [] [2000,1,2002,3] (trS [2004,2005,2006,2009,7,2008,1010,2011])
abbrev seg0:SegM:=⟨0,0⟩
abbrev unR (nm:ByteArray) (bus mn mx:Int) (sg:CV) (nl:Int):List CV:=[sC nm,iC bus,iC mn,iC mx,sg,iC nl,iC 0,iC 0,iC 0,iC 0,iC 0,iC 0,iC 0,iC 0,iC 0,iC 0,iC 0,iC 0,.v (.slice none 0 0),iC 0,iC 0,iC 0]
abbrev unB (d:Sl Int) (q:Nat) (nm:ByteArray) (bus mn mx nl:Int) (L:List SegM):BL:=[(132,0,[intsR d,iC q]),(42,0,unR ⟨#[]⟩ 0 0 0 (.v (.slice none 0 0)) 0),(42,0,unR nm bus mn mx (.s 3 L.length) nl),(93,2,fl SegM.C seg0 L)]
theorem unB_sc {d:Sl Int} {q:Nat} {nm:ByteArray} {bus mn mx nl:Int} {L:List SegM}:scB 4 (unB d q nm bus mn mx nl L):=scB.cons rfl (scB.cons rfl (scB.cons rfl (scB.cons (sc_clo (fl_cl fun _=>all_clo rfl)) scB.nil)))
def unI (d:Sl Int) (mn k:Int) (L:List SegM) (mx pr:Int) (q:Nat):Prop:=(0≤k∧(L.length:Int)+k≤2)∧(mn≤mx∧mx≤mn+15*L.length)∧(-2≤pr∧pr≤20+10*L.length)∧q≤d.l.length
theorem tunit_c (d:Sl Int) (p i n m:Nat) (hd:d.l.length≤1000000) (hp:p≤d.l.length) (hi:i≤1000000) (hn:0<n) (hn2:n≤1000000) (hm:0<m) (hm2:m≤1000000):Ctr Tryz.prog fTUnit [true] [.c (.p 0 0),.c (iC i),.c (iC n),.c (iC m)] (tpB d p) (fun g:UnitM×Nat=>⟨.a g.1.C,tpB d g.2,(g.1.away.l.length≤1∧g.1.segs.l.length≤2)∧g.2≤d.l.length⟩):=by
 refine ctr_of gT eTUnit bTUnit rfl rfl rfl bL (ClB.one rfl) (VC_ok gT mxd ⟨[],nam_c ⟨#[117]⟩ i bL hi,rfl,rfl,rfl,fun nm _=>⟨[0],tnext_c d p n hd hp oM oM,rfl,rfl,rfl,fun r1 h1=>⟨[0],tnext_c d r1.2 8 hd h1.2 dC dC,rfl,rfl,rfl,fun r2 h2=>⟨[0],tnext_c d r2.2 20 hd h2.2 dC dC,rfl,rfl,rfl,fun r3 h3=>⟨[0],tnext_c d r3.2 20 hd h3.2 dC dC,rfl,rfl,rfl,fun r4 h4=>⟨r4.1-2,wi,[0],tnext_c d r4.2 2 hd h4.2 dC dC,rfl,rfl,rfl,fun r5 h5=>⟨1+r5.1,wi,gcnil tSd 2 4 93 2 rfl rfl bL rfl ?_⟩⟩⟩⟩⟩⟩⟩)
 refine vloopD (rn [(10,12),(32,56)]) 4 (fun g:Int×List SegM×Int×Int×Nat=>[(10,.c (iC g.2.2.2.1)),(11,.c (iC g.1))]) (fun g=>unB d g.2.2.2.2 nm r1.1 r2.1 g.2.2.1 r3.1 g.2.1) (fun g=>unI d r2.1 g.1 g.2.1 g.2.2.1 g.2.2.2.1 g.2.2.2.2) (fun g=>g.1.toNat) (1+r5.1,[],r2.1,r4.1-2,r5.2) (fun _=>rfl) bL (fun _=>unB_sc) (fun _=>rfl) ?_
 refine⟨⟨rfl,show unI d r2.1 (1+r5.1) [] r2.1 (r4.1-2) r5.2 from ⟨⟨by omega,by simp;omega⟩,⟨by omega,by simp⟩,⟨by omega,by simp;omega⟩,h5.2⟩,⟨rfl,rfl,rfl,rfl⟩,⟨rfl,rfl⟩⟩,fun⟨k,L,mx,pr,q⟩ hI=>VC_ok gT mxd ⟨fun h6=>VC_ok gT mxd ?_,fun h6=>VC_ok gT mxd ?_⟩⟩
 all_goals
  obtain⟨⟨hk,hl⟩,⟨hx1,hx2⟩,⟨hp1,hp2⟩,hq⟩:=(show unI d r2.1 k L mx pr q from hI)
 ·replace h6:k>0:=h6
  refine⟨[0],tnext_c d q 15 hd hq dC dC,rfl,rfl,rfl,fun r6 h7=>⟨1+r6.1,wi,apF (L:=L) (fun _=>rfl) (fun _=>all_clo rfl) rfl men2 oM bL,men2,oU9,by kernel_rfl,mx+(1+r6.1),wj,[0],tnext_c d r6.2 10 hd h7.2 dC dC,rfl,rfl,rfl,fun r7 h8=>⟨rfl,pr+r7.1,wj,k-1,wj,(k-1,L++[⟨1+r6.1,pr⟩],mx+(1+r6.1),pr+r7.1,r7.2),⟨show unI d r2.1 (k-1) (L++[⟨1+r6.1,pr⟩]) (mx+(1+r6.1)) (pr+r7.1) r7.2 from ?_,show(k-1).toNat<k.toNat by omega⟩,rfl,⟨rfl,rfl,?_,?_⟩,⟨rfl,rfl⟩⟩⟩⟩
  ·have:((L++[(⟨1+r6.1,pr⟩:SegM)]).length:Int)=L.length+1:=by simp
   unfold unI
   omega
  ·show(_,_,_)=(_,_,unR _ _ _ _ (.s 3 (L++[_]).length) _)
   rw[List.length_append]
   rfl
  show(_,_,_)=(_,_,_)
  rw[←fl_snoc]
  rfl
 have hk0:k≤0:=by replace h6:¬k>0:=h6;omega
 have hmx:r2.1≤mx∧mx≤r2.1+30:=by omega
 refine gsink tSd 3 rfl bL (fl_cl fun _=>all_clo rfl) bL rfl fun A a=>gfree tSd 2 0 [sC nm,iC r1.1,iC r2.1,iC mx,.r (A.map fun b=>⟨b,0,none⟩) L.length a 2 fun j=>SegM.C (L.getD j seg0),iC r3.1,iC 0,iC 0,iC 0,iC 0,iC 0,iC 0,iC 0,iC 0,iC 0,iC 0,iC 0,iC 0,.v (.slice none 0 0),iC 0,iC 0,iC 0] rfl rfl rfl rfl (frset (k0:=4) rfl (frcF fun _=>rfl)) (VC_ok gT mxd ?_)
 refine⟨[0],tnext_c d q 20 hd hq dC dC,rfl,rfl,rfl,fun a1 e1=>⟨[0],tnext_c d a1.2 20 hd e1.2 dC dC,rfl,rfl,rfl,fun a2 e2=>⟨oU11,by kernel_rfl,mx-r2.1,wj,mx-r2.1+1,wj,mx-r2.1,wj,mx-r2.1+1,wj,[0],tnext_c d a2.2 (mx-r2.1+1) hd e2.2 oM oM,rfl,rfl,rfl,fun a3 e3=>⟨rfl,r2.1+a3.1,wj,[0],tnext_c d a3.2 (mx-r2.1+1) hd e3.2 oM oM,rfl,rfl,rfl,fun a4 e4=>⟨rfl,r2.1+a4.1,wj,[0],tnext_c d a4.2 3 hd e4.2 dC dC,rfl,rfl,rfl,fun a5 e5=>⟨[0],tnext_c d a5.2 3 hd e5.2 dC dC,rfl,rfl,rfl,fun a6 e6=>⟨[0],tnext_c d a6.2 2 hd e6.2 dC dC,rfl,rfl,rfl,fun a7 e7=>⟨[0],tnext_c d a7.2 30 hd e7.2 dC dC,rfl,rfl,rfl,fun a8 e8=>⟨oLi,by kernel_rfl,[0],tnext_c d a8.2 30 hd e8.2 dC dC,rfl,rfl,rfl,fun a9 e9=>⟨rfl,a8.1+a9.1,wj,[0],tnext_c d a9.2 4 hd e9.2 dC dC,rfl,rfl,rfl,fun b1 f1=>⟨[0],tnext_c d b1.2 8 hd f1.2 dC dC,rfl,rfl,rfl,fun b2 f2=>⟨[0],tnext_c d b2.2 4 hd f2.2 dC dC,rfl,rfl,rfl,fun b3 f3=>⟨[0],taway_c d b3.2 m hd f3.2 oM oM,rfl,rfl,rfl,fun b4 f4=>?_⟩⟩⟩⟩⟩⟩⟩⟩⟩⟩⟩⟩⟩
 let UX:Int→Int→Int→UnitM:=fun st h o=>(⟨nm,r1.1,r2.1,mx,⟨A.map fun b=>⟨b,0,none⟩,a,L⟩,r3.1,a1.1,a2.1,r2.1+a3.1,r2.1+a4.1,a5.1,a6.1,a7.1,a8.1,a8.1+a9.1,b1.1,b2.1,b3.1,b4.1,st,h,o⟩:UnitM)
 refine⟨oU17,by kernel_rfl,_,_,fun g=>g.2.2≤d.l.length,⟨2+a7.1,wj,⟨⟨rfl,⟨[0],tnext_c d b4.2 (2+a7.1) hd f4.2 oM oM,rfl,rfl,rfl,fun s1 w1=>⟨rfl,⟨s1.1.toNat,⟨show s1.1=_ by omega,st_ix oM⟩,⟨⟨_,st_at (m:=s1.1.toNat) oM,rfl,⟨[0],tnext_c d s1.2 4 hd w1.2 dC dC,rfl,rfl,rfl,fun s2 w2=>⟨rfl,⟨1+s2.1,wj,gfin g0 (chg:=fun _:Int×Int×Nat=>[(0,.c (.p 0 0)),(8,.c (.p 1 0)),(9,.c (.p 2 0))]) (bls:=fun g=>[(132,0,[intsR d,iC g.2.2]),(42,0,unR ⟨#[]⟩ 0 0 0 (.v (.slice none 0 0)) 0),(42,0,(UX g.1 g.2.1 0).C)]) (fls:=fun _=>[]) (stV s1.1.toNat,1+s2.1,s2.2) w2.2 rfl ⟨rfl,rfl,rfl⟩ trivial ⟨rfl,rfl,rfl⟩ bL (scB.cons rfl (scB.cons rfl (scB.cons rfl scB.nil))) rfl⟩⟩⟩⟩,⟨[0],tnext_c d s1.2 4 hd w1.2 dC dC,rfl,rfl,rfl,fun s2 w2=>⟨rfl,⟨1+s2.1,wj,⟨_,st_at (m:=s1.1.toNat) oM,rfl,gfin g0 (chg:=fun _:Int×Int×Nat=>[(0,.c (.p 0 0)),(8,.c (.p 1 0)),(9,.c (.p 2 0))]) (bls:=fun g=>[(132,0,[intsR d,iC g.2.2]),(42,0,unR ⟨#[]⟩ 0 0 0 (.v (.slice none 0 0)) 0),(42,0,(UX g.1 g.2.1 0).C)]) (fls:=fun _=>[]) (stV s1.1.toNat,1+s2.1,s2.2) w2.2 rfl ⟨rfl,rfl,rfl⟩ trivial ⟨rfl,rfl,rfl⟩ bL (scB.cons rfl (scB.cons rfl (scB.cons rfl scB.nil))) rfl⟩⟩⟩⟩⟩⟩⟩⟩⟩,⟨[0],tnext_c d b4.2 (2+a7.1) hd f4.2 oM oM,rfl,rfl,rfl,fun s1 w1=>⟨rfl,⟨⟨rfl,⟨s1.1.toNat,⟨show s1.1=_ by omega,st_ix oM⟩,⟨⟨_,st_at (m:=s1.1.toNat) oM,rfl,⟨[0],tnext_c d s1.2 4 hd w1.2 dC dC,rfl,rfl,rfl,fun s2 w2=>⟨rfl,⟨1+s2.1,wj,gfin g0 (chg:=fun _:Int×Int×Nat=>[(0,.c (.p 0 0)),(8,.c (.p 1 0)),(9,.c (.p 2 0))]) (bls:=fun g=>[(132,0,[intsR d,iC g.2.2]),(42,0,unR ⟨#[]⟩ 0 0 0 (.v (.slice none 0 0)) 0),(42,0,(UX g.1 g.2.1 0).C)]) (fls:=fun _=>[]) (stV s1.1.toNat,1+s2.1,s2.2) w2.2 rfl ⟨rfl,rfl,rfl⟩ trivial ⟨rfl,rfl,rfl⟩ bL (scB.cons rfl (scB.cons rfl (scB.cons rfl scB.nil))) rfl⟩⟩⟩⟩,⟨[0],tnext_c d s1.2 4 hd w1.2 dC dC,rfl,rfl,rfl,fun s2 w2=>⟨rfl,⟨1+s2.1,wj,⟨_,st_at (m:=s1.1.toNat) oM,rfl,gfin g0 (chg:=fun _:Int×Int×Nat=>[(0,.c (.p 0 0)),(8,.c (.p 1 0)),(9,.c (.p 2 0))]) (bls:=fun g=>[(132,0,[intsR d,iC g.2.2]),(42,0,unR ⟨#[]⟩ 0 0 0 (.v (.slice none 0 0)) 0),(42,0,(UX g.1 g.2.1 0).C)]) (fls:=fun _=>[]) (stV s1.1.toNat,1+s2.1,s2.2) w2.2 rfl ⟨rfl,rfl,rfl⟩ trivial ⟨rfl,rfl,rfl⟩ bL (scB.cons rfl (scB.cons rfl (scB.cons rfl scB.nil))) rfl⟩⟩⟩⟩⟩⟩⟩,⟨[0],tnext_c d s1.2 4 hd w1.2 dC dC,rfl,rfl,rfl,fun s2 w2=>⟨rfl,⟨1+s2.1,wj,⟨rfl,⟨s1.1.toNat,⟨show s1.1=_ by omega,st_ix oM⟩,⟨_,st_at (m:=s1.1.toNat) oM,rfl,gfin g0 (chg:=fun _:Int×Int×Nat=>[(0,.c (.p 0 0)),(8,.c (.p 1 0)),(9,.c (.p 2 0))]) (bls:=fun g=>[(132,0,[intsR d,iC g.2.2]),(42,0,unR ⟨#[]⟩ 0 0 0 (.v (.slice none 0 0)) 0),(42,0,(UX g.1 g.2.1 0).C)]) (fls:=fun _=>[]) (stV s1.1.toNat,1+s2.1,s2.2) w2.2 rfl ⟨rfl,rfl,rfl⟩ trivial ⟨rfl,rfl,rfl⟩ bL (scB.cons rfl (scB.cons rfl (scB.cons rfl scB.nil))) rfl⟩⟩⟩⟩⟩⟩⟩⟩⟩⟩⟩,fun⟨st,h,q2⟩ hq2=>⟨fun _=>VC_ok gT mxd ⟨fun _=>VC_ok gT mxd ?_,fun _=>VC_ok gT mxd ?_⟩,fun _=>VC_ok gT mxd ⟨fun _=>VC_ok gT mxd ?_,fun _=>VC_ok gT mxd ?_⟩⟩⟩
 ·exact⟨oU21,by kernel_rfl,mx-r2.1,wj,mx-r2.1+1,wj,[0],tnext_c d q2 (mx-r2.1+1) hd hq2 oM oM,rfl,rfl,rfl,fun c1 g1=>⟨rfl,r2.1+c1.1,wj,⟨(UX st 1 (r2.1+c1.1),c1.2),⟨⟨f4.1,show L.length≤2 by omega⟩,g1.2⟩,fin_own rfl rfl bL (scB.cons rfl scB.nil) rfl (ClB.one rfl)⟩⟩⟩
 ·exact⟨(UX st 1 0,q2),⟨⟨f4.1,show L.length≤2 by omega⟩,hq2⟩,fin_own rfl rfl bL (scB.cons rfl scB.nil) rfl (ClB.one rfl)⟩
 ·exact⟨oU21,by kernel_rfl,mx-r2.1,wj,mx-r2.1+1,wj,[0],tnext_c d q2 (mx-r2.1+1) hd hq2 oM oM,rfl,rfl,rfl,fun c1 g1=>⟨rfl,r2.1+c1.1,wj,⟨(UX st h (r2.1+c1.1),c1.2),⟨⟨f4.1,show L.length≤2 by omega⟩,g1.2⟩,fin_own rfl rfl bL (scB.cons rfl scB.nil) rfl (ClB.one rfl)⟩⟩⟩
 exact⟨(UX st h 0,q2),⟨⟨f4.1,show L.length≤2 by omega⟩,hq2⟩,fin_own rfl rfl bL (scB.cons rfl scB.nil) rfl (ClB.one rfl)⟩
end Go.Proofs.YtandhgfmfpmemaaGreat
namespace Go.Proofs.YtandhgfmfpmemaaGreat
open Go.Vg _root_.Go.Proofs.Tryz
open Go.Vm hiding sg sg_t sg_f sg_abs sg_neg sg_add sg_mul sg_self sg_canon sg_pos sg_zero sg_eq_zero sg_lt
open Go.Vy hiding val
set_option maxHeartbeats 1000000
theorem Sd.cut {P:Program} {nb N:Nat} {a b:Code} {K:Kt} {s:SS} {σ:Type} (S:σ→SS) (C:σ→Prop) (h:Sd P nb N a ⟨fun s'=>Gt nb s' S C,K.ext,K.ret⟩ s) (hk:∀g,C g→Sd P nb N b K (S g)):Sd P nb N (.seq a b) K s:=fun ρ0 w0 ρ f w Q hL hD=>
 wseq (h ρ0 w0 ρ f w _ ⟨fun s' ρ' f' w' hg hD'=>by
  obtain⟨g,ρ2,hC,hD2⟩:=hg ρ0 w0 ρ' f' w' hD'
  exact hk g hC ρ0 w0 ρ2 f' w' Q hL hD2,hL.ext,hL.ret⟩ hD)
theorem leBit (b:Bool):LeC (.v (.bool b)) (.b (b=true) inferInstance):=fun ρ n w x h=>by
 rw[h.inv_v]
 have h1:Rc (Zf ρ n w) w (.b (b=true) inferInstance) (.bool (decide (b=true))):=Rc.b _ _
 have h2:decide (b=true)=b:=by cases b<;>rfl
 rw[h2] at h1
 exact h1
theorem leSet {l:List CV} {k:Nat} {c c':CV} (hk:l[k]? =some c) (h:LeC c c'):∀(i:Nat) (x y:CV),l[i]? =some x→(l.set k c')[i]? =some y→LeC x y:=fun i x y h1 h2=>by
 rcases set_case h2 with ⟨rfl,rfl,_⟩|⟨_,h3⟩
 ·rw[hk] at h1
  injection h1 with h1
  subst h1
  exact h
 rw[h1] at h3
 injection h3 with h3
 subst h3
 exact LeC.refl _
theorem men3 {a b c:Int} {i:Nat}:∀x∈[iC a,iC b,iC c],menC i x=false:=clo_men' (all_clo rfl)
theorem frcI {T:Nat} {A:Option Nat} {a:Nat} {L:List Int}:FrC ⟨T,1,1,fun _=>A,fun _=>a,fun _=>L.map iC⟩ (.h A L.length a) (.r (A.map fun b=>⟨b,0,none⟩) L.length a 1 fun j=>[iC (L.getD j 0)]):=by
 rw[←flat_ints]
 exact frcF (f:=fun z:Int=>[iC z]) (d:=0) fun _=>rfl
abbrev fTOut:FuncId:=32
theorem eTOut:Ent Tryz.prog fTOut:=Ent.of func32 rfl kR
theorem bTOut:Tryz.prog.funcs[fTOut]? =some Tryz.f32:=func32
abbrev nilC:CV:=.v (.slice none 0 0)
abbrev mov0:MoveM:=⟨0,0,0⟩
abbrev ouB (d:Sl Int) (q:Nat) (nm:ByteArray) (LS:List Int) (c m:CV):BL:=[(132,0,[intsR d,iC q]),(47,0,[sC ⟨#[]⟩,nilC,bC' false,nilC]),(3,1,LS.map iC),(47,0,[sC nm,.s 2 LS.length,c,m])]
theorem ouB_sc {d:Sl Int} {q:Nat} {nm:ByteArray} {LS:List Int} {b:Bool}:scB 4 (ouB d q nm LS (bC' b) nilC):=scB.cons rfl (scB.cons rfl (scB.cons (sc_clo (clo_ints _)) (scB.cons rfl scB.nil)))
abbrev ouM (d:Sl Int) (q:Nat) (nm:ByteArray) (LS:List Int) (b:Bool) (Ms:List MoveM):BL:=[(132,0,[intsR d,iC q]),(47,0,[sC ⟨#[]⟩,nilC,bC' false,nilC]),(3,1,LS.map iC),(47,0,[sC nm,.s 2 LS.length,bC' b,.s 4 Ms.length]),(82,3,fl MoveM.C mov0 Ms)]
abbrev ouT (d:Sl Int) (q:Nat) (nm:ByteArray) (LS:List Int) (Ms:List MoveM):BL:=[(132,0,[intsR d,iC q]),(47,0,[sC ⟨#[]⟩,nilC,bC' false,nilC]),(3,1,LS.map iC),(47,0,[sC nm,.s 2 LS.length,.v (.bool true),.s 4 Ms.length]),(82,3,fl MoveM.C mov0 Ms)]
theorem ouM_sc {d:Sl Int} {q:Nat} {nm:ByteArray} {LS:List Int} {b:Bool} {Ms:List MoveM}:scB 5 (ouM d q nm LS b Ms):=scB.cons rfl (scB.cons rfl (scB.cons (sc_clo (clo_ints _)) (scB.cons rfl (scB.cons (sc_clo (fl_cl fun _=>all_clo rfl)) scB.nil))))
theorem ouT_sc {d:Sl Int} {q:Nat} {nm:ByteArray} {LS:List Int} {Ms:List MoveM}:scB 5 (ouT d q nm LS Ms):=scB.cons rfl (scB.cons rfl (scB.cons (sc_clo (clo_ints _)) (scB.cons rfl (scB.cons (sc_clo (fl_cl fun _=>all_clo rfl)) scB.nil))))
def oO11:Ord:=.treeX [] [2000,1,2002,2003,2005] (trS [4,6,2007,8,1009,2010,1011])
theorem tout_c (d:Sl Int) (p i n m:Nat) (hd:d.l.length≤1000000) (hp:p≤d.l.length) (hi:i≤1000000) (hn:0<n) (hn2:n≤1000000) (hm:m≤1000):Ctr Tryz.prog fTOut [true] [.c (.p 0 0),.c (iC i),.c (iC n),.c (iC m)] (tpB d p) (fun g:OutM×Nat=>⟨.a g.1.C,tpB d g.2,(g.1.lines.l.length≤2∧g.1.moves.l.length≤m)∧g.2≤d.l.length⟩):=by
 refine ctr_of gT eTOut bTOut rfl rfl rfl bL (ClB.one rfl) (Sd.sq (VC_ok gT mxd (Sd.sq (VC_ok gT mxd ⟨[],nam_c ⟨#[111]⟩ i bL hi,rfl,rfl,rfl,fun nm _=>⟨[0],tnext_c d p n hd hp oM oM,rfl,rfl,rfl,fun r1 h1=>Sd.cut (σ:=List Int×Nat) (fun g=>⟨[(0,.c (.p 0 0)),(3,.c (iC m)),(8,.c (.p 1 0)),(9,.c (.p 3 0))]++[],[],ouB d g.2 nm g.1 (bC' false) nilC,[]⟩) (fun g=>g.1.length≤2∧g.2≤d.l.length) ?_ fun g hg=>?_⟩⟩))))
 ·exact VC_ok gT mxd ⟨[0],tnext_c d r1.2 n hd h1.2 oM oM,rfl,rfl,rfl,fun r2 h2=>⟨0,⟨rfl,bL,bL⟩,_,rfl,fun _=>⟨[0],tnext_c d r2.2 3 hd h2.2 dC dC,rfl,rfl,rfl,fun r3 h3=>⟨fun _=>VC_ok gT mxd ⟨apI2 (x:=[r1.1]) bL,men1,gfin g0 (chg:=fun _:List Int×Nat=>[(0,.c (.p 0 0)),(3,.c (iC m)),(8,.c (.p 1 0)),(9,.c (.p 3 0))]) (bls:=fun g=>ouB d g.2 nm g.1 (bC' false) nilC) (fls:=fun _=>[]) ([r1.1,r2.1],r3.2) ⟨Nat.le_refl 2,h3.2⟩ rfl ⟨rfl,rfl,rfl,rfl⟩ trivial ⟨rfl,rfl,rfl,rfl⟩ bL ouB_sc rfl⟩,fun _=>VC_ok gT mxd (gfin g0 (chg:=fun _:List Int×Nat=>[(0,.c (.p 0 0)),(3,.c (iC m)),(8,.c (.p 1 0)),(9,.c (.p 3 0))]) (bls:=fun g=>ouB d g.2 nm g.1 (bC' false) nilC) (fls:=fun _=>[]) ([r1.1],r3.2) ⟨Nat.le_succ 1,h3.2⟩ rfl ⟨rfl,rfl,rfl,rfl⟩ trivial ⟨rfl,rfl,rfl,rfl⟩ bL ouB_sc rfl)⟩⟩,fun _=>gfin g0 (chg:=fun _:List Int×Nat=>[(0,.c (.p 0 0)),(3,.c (iC m)),(8,.c (.p 1 0)),(9,.c (.p 3 0))]) (bls:=fun g=>ouB d g.2 nm g.1 (bC' false) nilC) (fls:=fun _=>[]) ([r1.1],r2.2) ⟨Nat.le_succ 1,h2.2⟩ rfl ⟨rfl,rfl,rfl,rfl⟩ trivial ⟨rfl,rfl,rfl,rfl⟩ bL ouB_sc rfl⟩⟩
 obtain⟨LS,q⟩:=g
 obtain⟨hLS,hq⟩:=hg
 replace hLS:LS.length≤2:=hLS
 replace hq:q≤d.l.length:=hq
 refine gcnil tSd 3 3 82 3 rfl rfl bL rfl ?_
 refine Sd.cut (σ:=Bool×List MoveM×Nat) (fun g=>⟨[(8,.c (.p 1 0)),(9,.c (.p 3 0))]++[],[],ouM d g.2.2 nm LS g.1 g.2.1,[]⟩) (fun g=>g.2.1.length≤m∧g.2.2≤d.l.length) ?_ fun g hg=>?_
 ·refine VC_ok gT mxd ⟨[0],tnext_c d q 2 hd hq dC dC,rfl,rfl,rfl,fun r1 h1=>⟨fun _=>VC_ok gT mxd ?_,fun _=>VC_ok gT mxd (gfin g0 (chg:=fun _:Bool×List MoveM×Nat=>[(8,.c (.p 1 0)),(9,.c (.p 3 0))]) (bls:=fun g=>ouM d g.2.2 nm LS g.1 g.2.1) (fls:=fun _=>[]) (false,[],r1.2) ⟨Nat.zero_le m,h1.2⟩ rfl ⟨rfl,rfl,rfl,rfl,rfl⟩ trivial ⟨rfl,rfl⟩ bL ouM_sc rfl)⟩⟩
  refine vloopD (rn [(11,11),(43,61)]) 5 (fun g:Nat×List MoveM×Nat=>[(11,.c (iC g.1))]) (fun g=>ouT d g.2.2 nm LS g.2.1) (fun g=>(g.1≤m∧g.2.1.length≤g.1)∧g.2.2≤d.l.length) (fun g=>m-g.1) (0,[],r1.2) (fun _=>rfl) bL (fun _=>ouT_sc) (fun _=>rfl) ⟨⟨rfl,⟨⟨Nat.zero_le m,Nat.le_refl 0⟩,h1.2⟩,⟨rfl,rfl,rfl,rfl,rfl⟩,rfl⟩,fun⟨k,Ms,q2⟩ hI=>VC_ok gT mxd ⟨fun h6=>VC_ok gT mxd ?_,fun h6=>VC_ok gT mxd ?_⟩⟩
  all_goals
   obtain⟨⟨hk,hl⟩,hq2⟩:=hI
   replace hk:k≤m:=hk
   replace hl:Ms.length≤k:=hl
   replace hq2:q2≤d.l.length:=hq2
  ·have hkm:k<m:=by replace h6:(k:Int)<(m:Nat):=h6;omega
   refine⟨[0],tnext_c d q2 2 hd hq2 dC dC,rfl,rfl,rfl,fun r3 h3=>⟨fun _=>VC_ok gT mxd ⟨oO11,by kernel_rfl,[0],tnext_c d r3.2 8 hd h3.2 dC dC,rfl,rfl,rfl,fun r4 h4=>⟨rfl,[0],tnext_c d r4.2 8 hd h4.2 dC dC,rfl,rfl,rfl,fun r5 h5=>⟨rfl,rfl,apF (L:=Ms) (fun _=>rfl) (fun _=>all_clo rfl) rfl men3 oM bL,clo_men' (clo_ints _),men3,(k+1:Nat),wi,(k+1,Ms++[⟨(k:Int),r4.1,r5.1⟩],r5.2),⟨⟨⟨hkm,show(Ms++[_]).length≤k+1 by simp;omega⟩,h5.2⟩,show m-(k+1)<m-k by omega⟩,rfl,⟨rfl,rfl,rfl,?_,?_⟩,rfl⟩⟩⟩,fun _=>VC_ok gT mxd ⟨(k+1:Nat),wi,(k+1,Ms,r3.2),⟨⟨⟨hkm,show Ms.length≤k+1 by omega⟩,h3.2⟩,show m-(k+1)<m-k by omega⟩,rfl,⟨rfl,rfl,rfl,rfl,rfl⟩,rfl⟩⟩⟩
   ·show(_,_,_)=(_,_,[_,_,_,CV.s 4 (Ms++[_]).length])
    rw[List.length_append]
    rfl
   show(_,_,_)=(_,_,_)
   rw[←fl_snoc]
   rfl
  exact gcells tGt 3 [sC nm,.s 2 LS.length,bC' true,.s 4 Ms.length] rfl rfl (leSet (k:=2) rfl (leBit true)) (gfin g0 (chg:=fun _:Bool×List MoveM×Nat=>[(8,.c (.p 1 0)),(9,.c (.p 3 0))]) (bls:=fun g=>ouM d g.2.2 nm LS g.1 g.2.1) (fls:=fun _=>[]) (true,Ms,q2) ⟨show Ms.length≤m by omega,hq2⟩ rfl ⟨rfl,rfl,rfl,rfl,rfl⟩ trivial ⟨rfl,rfl⟩ bL ouM_sc rfl)
 obtain⟨b,Ms,q2⟩:=g
 refine gsink tSd 4 rfl bL (fl_cl fun _=>all_clo rfl) bL rfl fun A a=>⟨_,map_id' sink_clo (clo_ints _),gfree tSd 3 0 [sC nm,.s 2 LS.length,bC' b,.r (A.map fun b=>⟨b,0,none⟩) Ms.length a 3 fun j=>MoveM.C (Ms.getD j mov0)] rfl rfl rfl rfl (frset (k0:=3) rfl (frcF fun _=>rfl)) ?_⟩
 refine gsink tSd 2 rfl bL (clo_ints _) bL rfl fun A2 a2=>⟨_,rfl,gfree tSd 3 1 [sC nm,.r (A2.map fun b=>⟨b,0,none⟩) LS.length a2 1 fun j=>[iC (LS.getD j 0)],bC' b,.r (A.map fun b=>⟨b,0,none⟩) Ms.length a 3 fun j=>MoveM.C (Ms.getD j mov0)] rfl rfl rfl rfl (frset (k0:=1) rfl frcI) ?_⟩
 exact VC_ok gT mxd ⟨(⟨nm,⟨A2.map fun b=>⟨b,0,none⟩,a2,LS⟩,b,⟨A.map fun b=>⟨b,0,none⟩,a,Ms⟩⟩,q2),⟨⟨hLS,hg.1⟩,hg.2⟩,fin_own rfl rfl bL (scB.cons rfl scB.nil) rfl (ClB.one rfl)⟩
end Go.Proofs.YtandhgfmfpmemaaGreat
namespace Go.Vy
open Go.Vg Go.RowKit
def PlD (d:DV):Prop:=∀ρ n w v,Hd ρ n w d v→∀ρ' n' w',Hd ρ' n' w' d v
theorem FamOk.nil {at':Nat→Option Nat×Nat} {Z:Nat→Prop} {n:Nat} {w:World}:FamOk ⟨at',Z,[]⟩ n w:=
 {ok:=fun F hF=>nomatch hF
  own:=fun i b _ _ hf=>by
   obtain⟨F,hF,_⟩:=hf
   cases hF
  inj:=fun f f' F F' j j' b h1=>nomatch h1}
theorem Ctr.lend {P:Program} {q:FuncId} {τ σ:Type} {al:τ→List DV} {X:τ→Prop} {R:σ→Out} (he:Ent P q) (h:∀t,X t→Ctr P q [] (al t) [] R) (hpl:∀g,PlD (R g).d) {cl:List Bool} {bl:BL} {al':List DV} (hcl:ClB cl bl)
 (ha:∀ρ w vals,DnW ρ w bl.length bl ρ w→HL ρ bl.length w al' vals→∃t,X t∧HL ⟨ρ.at',fun _=>True,[]⟩ 0 w (al t) vals):Ctr P q cl al' bl (fun g=>⟨(R g).d,bl,(R g).C⟩):=
 ⟨he,hcl,fun ρ w vals hv hD hF=>by
  obtain⟨t,ht,hv'⟩:=ha ρ w vals hD hv
  refine((h t ht).run ⟨ρ.at',fun _=>True,[]⟩ w vals hv' ⟨fun i T es l hi=>(by cases hi),fun i j b hi=>absurd hi (Nat.not_lt_zero _),fun i b _ hi=>absurd hi (Nat.not_lt_zero _),Nat.le_refl _,⟨rfl,rfl,rfl,Nat.le_refl _,fun _ _ _ _=>rfl⟩,fun i hi=>rfl,⟨rfl,fun _ _=>trivial⟩,FamOk.nil,fun b hb=> .inr hb⟩ rfl).mono fun e w' ⟨v,hev,g,ρ',hC,hDr,hdv,hclr,hFr⟩=>?_
  have hr:=hDr.rel
  have hx:Ext w w':=⟨hr.os,hr.tape,hr.output,hr.size,fun k hk=>hr.block k hk (fun i hi=>absurd hi (Nat.not_lt_zero _)) fun⟨F,hF,_⟩=>by cases hF⟩
  exact⟨v,hev,g,ρ,hC,hD.ext hx,hpl g _ _ _ _ hdv _ _ _,hcl,hF⟩⟩
end Go.Vy
namespace Go.Proofs.YtandhgfmfpmemaaGreat
open Go.Vg
open Go.Vm hiding sg sg_t sg_f sg_abs sg_neg sg_add sg_mul sg_self sg_canon sg_pos sg_zero sg_eq_zero sg_lt
open Go.Vy hiding val
set_option maxHeartbeats 1000000
theorem rc_of {ρ:Pl} {n:Nat} {w:World} {c:CV} {x:Value} (h:Hc ρ n w c x) (hc:cloC c=true):Rc (Zf ρ n w) w c x:=by
 cases c<;>first|exact h|cases hc
theorem own_rd {ρ:Pl} {n i T e m:Nat} {w:World} {l:List CV} {Z:Nat→Prop} {get:Nat→List CV} (hq:Bq ρ n w i T e l) (he:0<e) (hl:m*e=l.length) (hg:∀j,j<m→get j=(l.drop (j*e)).take e) (hc:∀c∈l,cloC c=true) (hZ:∀b,(ρ i).1=some b→Z b) (hz:∀b,Zf ρ n w b→Z b):
 Rc Z w (.r ((ρ i).1.map fun b=>⟨b,0,none⟩) m (ρ i).2 e get) (.slice ((ρ i).1.map fun b=>⟨b,0,none⟩) m (ρ i).2):=by
 unfold Bq at hq
 cases hb:(ρ i).1 with
 |none=>
  simp only[hb] at hq
  rw[hq.1] at hl
  have h0:m=0:=by
   rcases Nat.eq_zero_or_pos m with h|h
   ·exact h
   have:=Nat.mul_le_mul h he;simp at hl;omega
  subst h0
  rw[hq.2.1]
  exact Rc.nil _ _ _ _ (Nat.zero_le _)
 |some b=>
  simp only[hb] at hq
  obtain⟨vl,junk,h1,h2,h3,h4⟩:=hq
  obtain⟨h5,h6⟩:=h3 he
  have hlen:=h2.len
  have hml:m*e≤(ρ i).2*e:=by rw[h5,List.length_append,←hlen];omega
  have hmc:m≤(ρ i).2:=Nat.le_of_mul_le_mul_right hml he
  have hjb:∀j,j<m→j*e+e≤l.length:=fun j hj=>by
   rw[←hl]
   have:(j+1)*e≤m*e:=Nat.mul_le_mul_right e hj
   rw[Nat.succ_mul] at this
   exact this
  refine Rc.r b 0 m (ρ i).2 e get (fun j=>(vl.drop (j*e)).take e) hmc h6 (hZ b hb) (fun j hj q u hu=>?_) (fun j hj=>?_) fun j hj q c u hcq hu=>?_
  ·rw[List.getElem?_take] at hu
   split at hu
   ·rw[List.getElem?_drop] at hu
    exact⟨by rw[Nat.zero_add];exact own_cell h1 hu,h4 u (List.mem_of_getElem? hu)⟩
   cases hu
  ·rw[hg j hj,List.length_take,List.length_take,List.length_drop,List.length_drop,hlen]
  rw[hg j hj] at hcq
  rw[List.getElem?_take] at hcq hu
  split at hu
  ·next hqe=>
   rw[if_pos hqe,List.getElem?_drop] at hcq
   rw[List.getElem?_drop] at hu
   obtain⟨x,h7,h8⟩:=h2.get hcq
   rw[hu] at h7
   injection h7 with h7
   subst h7
   have hcl:=hc c (List.mem_of_getElem? hcq)
   have h9:Rc (Zf ρ n w) w c u:=rc_of h8 hcl
   exact h9.mono fun b hb=>⟨hz b hb,rfl⟩
  cases hu
structure CW where
 h:Nat
 R:Sl Int
 B:List BusM
 L:List LineM
 U:List UnitM
 S:List StoreM
 T:List TieM
 O:List OutM
abbrev caA (w:CW) (b l u s t o:Nat):List CV:=[iC w.h,intsR w.R,.s b w.B.length,.s l w.L.length,.s u w.U.length,.s s w.S.length,.s t w.T.length,.s o w.O.length]
abbrev caL (w:CW):BL:=[(59,3,fl BusM.C bus0 w.B),(71,12,fl LineM.C line0 w.L),(42,22,fl UnitM.C unit0 w.U),(75,9,fl StoreM.C store0 w.S),(77,5,fl TieM.C tie0 w.T),(47,4,fl OutM.C out0 w.O)]
theorem cB:∀x:BusM,∀c∈x.C,cloC c=true:=fun _=>all_clo rfl
theorem cL:∀x:LineM,∀c∈x.C,cloC c=true:=fun _=>all_clo rfl
theorem cU:∀x:UnitM,∀c∈x.C,cloC c=true:=fun _=>all_clo rfl
theorem cS:∀x:StoreM,∀c∈x.C,cloC c=true:=fun _=>all_clo rfl
theorem cT:∀x:TieM,∀c∈x.C,cloC c=true:=fun _=>all_clo rfl
theorem cO:∀x:OutM,∀c∈x.C,cloC c=true:=fun _=>all_clo rfl
theorem fl_at {α:Type} {f:α→List CV} {d:α} {L:List α} {e:Nat} (hf:∀x,(f x).length=e) (j:Nat) (hj:j<L.length):f (L.getD j d)=((fl f d L).drop (j*e)).take e:=(flR_at (P:=fun j=>f (L.getD j d)) (fun _ _=>hf _) hj).symm
theorem own_fl {α:Type} {f:α→List CV} {d:α} {L:List α} {e T i n:Nat} {ρ:Pl} {w:World} {x:Value} {Z:Nat→Prop} (hf:∀x,(f x).length=e) (hc:∀x,∀c∈f x,cloC c=true) (he:0<e) (hq:Bq ρ n w i T e (fl f d L)) (hx:Hc ρ n w (.s i L.length) x) (hZ:∀b,(ρ i).1=some b→Z b) (hz:∀b,Zf ρ n w b→Z b):
 Rc Z w ((⟨(ρ i).1.map fun b=>⟨b,0,none⟩,(ρ i).2,L⟩:Sl α).R e f d) x:=by
 rw[hx.2]
 exact own_rd hq he (fl_len hf).symm (fun j hj=>fl_at hf j hj) (fl_cl hc) hZ hz
def CW.toC (w:CW) (ρ:Pl):CaseM:=⟨w.h,w.R,⟨(ρ 0).1.map fun b=>⟨b,0,none⟩,(ρ 0).2,w.B⟩,⟨(ρ 1).1.map fun b=>⟨b,0,none⟩,(ρ 1).2,w.L⟩,⟨(ρ 2).1.map fun b=>⟨b,0,none⟩,(ρ 2).2,w.U⟩,⟨(ρ 3).1.map fun b=>⟨b,0,none⟩,(ρ 3).2,w.S⟩,⟨(ρ 4).1.map fun b=>⟨b,0,none⟩,(ρ 4).2,w.T⟩,⟨(ρ 5).1.map fun b=>⟨b,0,none⟩,(ρ 5).2,w.O⟩⟩
structure ShW (w:CW):Prop where
 b:w.B.length≤1000
 l:w.L.length≤1000
 u:w.U.length≤1000
 s:w.S.length≤1000
 t:w.T.length≤1000
 o:w.O.length≤1000
 m:∀x∈w.O,x.moves.l.length≤2000000
theorem rckL (v:CW) (hS:ShW v):Ctr Tryz.prog fRCheck [true,true,true,true,true,true] [.a (caA v 0 1 2 3 4 5)] (caL v) (fun g:Int×Int×Int×Int=>⟨.t [.a [iC g.1,iC g.2.1,iC g.2.2.1],.c (iC g.2.2.2)],caL v,True⟩):=by
 refine Ctr.lend (τ:=CaseM) (al:=fun C=>[.a (C.C [])]) (X:=Sh) (R:=fun g:Int×Int×Int×Int=>⟨.t [.a [iC g.1,iC g.2.1,iC g.2.2.1],.c (iC g.2.2.2)],[],True⟩) eRCheck (fun C hC=>CtrF.re (rcheck_c C hC) fun g _=>⟨(g.1,g.2.1,g.2.2,_),trivial,rfl,rfl,rfl⟩) ?_ ?_ ?_
 ·intro g ρ n w x h ρ' n' w'
  cases h with
  |t hl hh=>
   next vl=>
   match vl,hl with
   |[x,y],_=>
    have hx:=hh 0 _ x rfl rfl
    have hy:=hh 1 _ y rfl rfl
    refine .t rfl fun i dd u hd hu=>?_
    match i with
    |0=>
     injection hd with hd
     injection hu with hu
     subst hd hu
     obtain⟨vl,rfl,h⟩:=hx.inv_a
     match vl,h with
     |[_,_,_],⟨h0,h1,h2,h3⟩=>
      rw[h0.inv_v,h1.inv_v,h2.inv_v]
      exact .a ⟨Rc.v _,Rc.v _,Rc.v _,trivial⟩
    |1=>
     injection hd with hd
     injection hu with hu
     subst hd hu
     rw[hy.inv_c.inv_v]
     exact .c (Rc.v _)
    |_+2=>cases hd
 ·exact ClB.cons (fun _=>List.all_eq_true.2 (fl_cl cB)) (ClB.cons (fun _=>List.all_eq_true.2 (fl_cl cL)) (ClB.cons (fun _=>List.all_eq_true.2 (fl_cl cU)) (ClB.cons (fun _=>List.all_eq_true.2 (fl_cl cS)) (ClB.cons (fun _=>List.all_eq_true.2 (fl_cl cT)) (ClB.cons (fun _=>List.all_eq_true.2 (fl_cl cO)) ClB.nil)))))
 intro ρ w vals hD hv
 match vals,hv with
 |[x],⟨hx,_⟩=>
  have hz:∀b,Zf ρ 6 w b→Zf ⟨ρ.at',fun _=>True,[]⟩ 0 w b:=fun b hb=>⟨hb.lt,fun i hi=>absurd hi (Nat.not_lt_zero _),trivial,fun⟨F,hF,_⟩=>by cases hF⟩
  have hZ:∀i,i<6→∀b,(ρ i).1=some b→Zf ⟨ρ.at',fun _=>True,[]⟩ 0 w b:=fun i hi b hb=>⟨hD.lt (i:=i) hi hb,fun i hi=>absurd hi (Nat.not_lt_zero _),trivial,fun⟨F,hF,_⟩=>by cases hF⟩
  refine⟨v.toC ρ,⟨hS.b,hS.l,hS.u,hS.s,hS.t,hS.o,hS.m⟩,?_,trivial⟩
  cases hx with
  |a h=>
   next vl=>
   match vl,h with
   |[_,_,_,_,_,_,_,_],⟨h0,h1,h2,h3,h4,h5,h6,h7,_⟩=>
    exact .a ⟨(rc_of h0 rfl).mono fun b hb=>⟨hz b hb,rfl⟩,(rc_of h1 rfl).mono fun b hb=>⟨hz b hb,rfl⟩,own_fl (fun _=>rfl) cB bL (hD.ok 0 _ _ _ rfl) h2 (hZ 0 bL) hz,own_fl (fun _=>rfl) cL bL (hD.ok 1 _ _ _ rfl) h3 (hZ 1 bL) hz,own_fl (fun _=>rfl) cU bL (hD.ok 2 _ _ _ rfl) h4 (hZ 2 bL) hz,own_fl (fun _=>rfl) cS bL (hD.ok 3 _ _ _ rfl) h5 (hZ 3 bL) hz,own_fl (fun _=>rfl) cT bL (hD.ok 4 _ _ _ rfl) h6 (hZ 4 bL) hz,own_fl (fun _=>rfl) cO bL (hD.ok 5 _ _ _ rfl) h7 (hZ 5 bL) hz,trivial⟩
end Go.Proofs.YtandhgfmfpmemaaGreat
namespace Go.Proofs.YtandhgfmfpmemaaGreat
open Go.Vg _root_.Go.Proofs.Tryz
open Go.Vm hiding sg sg_t sg_f sg_abs sg_neg sg_add sg_mul sg_self sg_canon sg_pos sg_zero sg_eq_zero sg_lt
open Go.Vy hiding val
set_option maxHeartbeats 4000000
abbrev fMCase:FuncId:=11
theorem eMCase:Ent Tryz.prog fMCase:=Ent.of func11 rfl kR
theorem bMCase:Tryz.prog.funcs[fMCase]? =some Tryz.f11:=func11
abbrev ckB (d:Sl Int) (q:Nat) (w:CW) (z:List CV):BL:=[(30,0,z),(132,0,[intsR d,iC q]),(30,0,caA w 3 4 5 6 7 8),(59,3,fl BusM.C bus0 w.B),(71,12,fl LineM.C line0 w.L),(42,22,fl UnitM.C unit0 w.U),(75,9,fl StoreM.C store0 w.S),(77,5,fl TieM.C tie0 w.T),(47,4,fl OutM.C out0 w.O)]
abbrev ckB1 (d:Sl Int) (q:Nat) (w:CW) (z:List CV) (x:TypeId×Nat×List CV):BL:=[(30,0,z),(132,0,[intsR d,iC q]),(30,0,caA w 3 4 5 6 7 8),(59,3,fl BusM.C bus0 w.B),(71,12,fl LineM.C line0 w.L),(42,22,fl UnitM.C unit0 w.U),(75,9,fl StoreM.C store0 w.S),(77,5,fl TieM.C tie0 w.T),(47,4,fl OutM.C out0 w.O),x]
abbrev zCs:List CV:=[iC 0,nilC,nilC,nilC,nilC,nilC,nilC,nilC]
theorem ckB_sc {d:Sl Int} {q:Nat} {w:CW}:scB 9 (ckB d q w zCs):=scB.cons rfl (scB.cons rfl (scB.cons rfl (scB.cons (sc_clo (fl_cl cB)) (scB.cons (sc_clo (fl_cl cL)) (scB.cons (sc_clo (fl_cl cU)) (scB.cons (sc_clo (fl_cl cS)) (scB.cons (sc_clo (fl_cl cT)) (scB.cons (sc_clo (fl_cl cO)) scB.nil))))))))
theorem ckB1_sc {d:Sl Int} {q:Nat} {w:CW} {x:TypeId×Nat×List CV} (hx:x.2.2.all (scC 10)=true):scB 10 (ckB1 d q w zCs x):=scB.cons rfl (scB.cons rfl (scB.cons rfl (scB.cons (sc_clo (fl_cl cB)) (scB.cons (sc_clo (fl_cl cL)) (scB.cons (sc_clo (fl_cl cU)) (scB.cons (sc_clo (fl_cl cS)) (scB.cons (sc_clo (fl_cl cT)) (scB.cons (sc_clo (fl_cl cO)) (scB.cons hx scB.nil)))))))))
theorem flE {α:Type} {f:α→List CV} {d:α} {L:List α} {T:TypeId} {e:Nat} {x:α}:((T,e,fl f d L++f x):TypeId×Nat×List CV)=(T,e,fl f d (L++[x])):=by rw[fl_snoc]
theorem ckC_sc {d:Sl Int} {q:Nat} {w v:CW}:scB 9 (ckB d q w (caA v 3 4 5 6 7 8)):=scB.cons rfl (scB.cons rfl (scB.cons rfl (scB.cons (sc_clo (fl_cl cB)) (scB.cons (sc_clo (fl_cl cL)) (scB.cons (sc_clo (fl_cl cU)) (scB.cons (sc_clo (fl_cl cS)) (scB.cons (sc_clo (fl_cl cT)) (scB.cons (sc_clo (fl_cl cO)) scB.nil))))))))
abbrev clMk:List Bool:=[false,true,false,true,true,true,true,true,true]
theorem ckC_cl {d:Sl Int} {q:Nat} {w v:CW}:ClB clMk (ckB d q w (caA v 3 4 5 6 7 8)):=ClB.cons (fun h=>nomatch h) (ClB.cons (fun _=>rfl) (ClB.cons (fun h=>nomatch h) (ClB.cons (fun _=>List.all_eq_true.2 (fl_cl cB)) (ClB.cons (fun _=>List.all_eq_true.2 (fl_cl cL)) (ClB.cons (fun _=>List.all_eq_true.2 (fl_cl cU)) (ClB.cons (fun _=>List.all_eq_true.2 (fl_cl cS)) (ClB.cons (fun _=>List.all_eq_true.2 (fl_cl cT)) (ClB.cons (fun _=>List.all_eq_true.2 (fl_cl cO)) (clBn)))))))))
structure IwM (w:CW):Prop where
 h:0<w.h∧w.h≤3
 r:w.R.l.length=w.h
 b:∀x∈w.B,x.demand.l.length=w.h
 bn:0<w.B.length∧w.B.length≤4
 l:∀x∈w.L,x.away.l.length≤1
 ln:w.L.length≤10
 u:∀x∈w.U,x.away.l.length≤1∧x.segs.l.length≤2
 un:w.U.length≤10
 sn:w.S.length≤10
 t:∀x∈w.T,x.imp.l.length=w.h∧x.exp.l.length=w.h∧x.price.l.length=w.h
 tn:w.T.length≤10
 o:∀x∈w.O,x.lines.l.length≤2∧x.moves.l.length≤10
 on:w.O.length≤10
theorem mem_snoc {α:Type} {p:α→Prop} {L:List α} {y:α} (h:∀x∈L,p x) (hy:p y):∀x∈L++[y],p x:=fun x hx=>by
 rcases List.mem_append.1 hx with hx|hx
 ·exact h x hx
 rw[List.mem_singleton.1 hx];exact hy
def gI {α:Type} (p:α→Prop) (d:Sl Int) (n k:Int) (L:List α) (q:Nat):Prop:=(0≤k∧(L.length:Int)+k≤n)∧(∀x∈L,p x)∧q≤d.l.length
theorem gI_next {α:Type} {p:α→Prop} {d:Sl Int} {n k:Int} {L:List α} {q q':Nat} {y:α} (hI:gI p d n k L q) (hk:0<k) (hy:p y) (hq:q'≤d.l.length):gI p d n (k-1) (L++[y]) q':=by
 obtain⟨⟨h1,h2⟩,h3,_⟩:=hI
 exact⟨⟨by omega,by simp;omega⟩,mem_snoc h3 hy,hq⟩
theorem gI_keep {α:Type} {p:α→Prop} {d:Sl Int} {n k:Int} {L:List α} {q q':Nat} (hI:gI p d n k L q) (hk:0<k) (hq:q'≤d.l.length):gI p d n (k-1) L q':=by
 obtain⟨⟨h1,h2⟩,h3,_⟩:=hI
 exact⟨⟨by omega,by omega⟩,h3,hq⟩
theorem apO {O:List OutM} {i:Nat} (h:O.length≤4):O.length*4=(fl OutM.C out0 O).length∧0*4=([]:List CV).length∧0+O.length≤maxLen∧(0+O.length)*72≤140737488355328∧∀c∈[]++fl OutM.C out0 O,menC i c=false:=
 ⟨(fl_len (f:=OutM.C) (d:=out0) (e:=4) fun _=>rfl).symm,rfl,by simp only[maxLen];omega,by omega,clo_men' (fl_cl cO)⟩
theorem clO1 {O:List OutM} {x:OutM}:∀c∈fl OutM.C out0 O++x.C,cloC c=true:=by
 rw[fl_snoc]
 exact fl_cl cO
theorem apO1 {O:List OutM} {x:OutM} {i:Nat} (h:O.length≤4):1*4=x.C.length∧(0+O.length)*4=(fl OutM.C out0 O).length∧0+O.length+1≤maxLen∧(0+O.length+1)*72≤140737488355328∧∀c∈fl OutM.C out0 O++x.C,menC i c=false:=
 ⟨rfl,by rw[Nat.zero_add];exact(fl_len (f:=OutM.C) (d:=out0) (e:=4) fun _=>rfl).symm,by simp only[maxLen];omega,by omega,clo_men' clO1⟩
def bI (d:Sl Int) (h:Nat) (n k:Int) (B:List BusM) (q:Nat):Prop:=(0≤k∧(B.length:Int)+k=n)∧(∀b∈B,b.demand.l.length=h)∧q≤d.l.length
def oC7:Ord:=.joinX [] [2000,1,2002,2004,2005,6] (.alt 3 (.alt 7 (.alt 2008 (.alt 9 (.alt 1010 .nil .nil) .nil) .nil) (.alt 9 (.alt 7 (.alt 2008 (.alt 1010 .nil .nil) .nil) .nil) .nil)) (.alt 9 (.alt 3 (.alt 7 (.alt 2008 (.alt 1010 .nil .nil) .nil) .nil) .nil) .nil))
theorem bI_next {d:Sl Int} {h:Nat} {n k:Int} {B:List BusM} {q q':Nat} {b:BusM} (hI:bI d h n k B q) (hk:0<k) (hb:b.demand.l.length=h) (hq:q'≤d.l.length):bI d h n (k-1) (B++[b]) q':=by
 obtain⟨⟨h1,h2⟩,h3,_⟩:=hI
 exact⟨⟨by omega,by simp;omega⟩,mem_snoc h3 hb,hq⟩
def oC15:Ord:=.treeX [] [2000,1,2002,2003,4,2005,2006,2007,2009,2010,11] (trS [8,12,13,1014,2015,1016])
def oC20:Ord:=.treeX [] [2000,1,2002,2003,4,2005,2006,2007,2008,2009,2010,2011,2014,2016,17] (trS [12,2013,2015,18,19,1020,2021,1022])
def oC24:Ord:=.treeX [] [2000,1,2002,2003,4,2005,2006,2007,8] (trS [9,10,1011,2012,1013])
def oC27:Ord:=.treeX [] [2000,2001,2,2003,2005,2006,7,2008] (trS [4,2010,9,1011,2012,1013])
def oC30:Ord:=.treeX [] [2000,1,2002,2003,2005,2006,7,2009,2010,11,2013,2014,15] (trS [4,8,12,16,2017,18,1019,2020,1021])
def oC36:Ord:=.joinX [] [2001,2,4] (.alt 0 (.alt 3 (.alt 5 (.alt 1006 (.alt 2007 (.alt 1008 .nil .nil) .nil) .nil) .nil) (.alt 5 (.alt 3 (.alt 1006 (.alt 2007 (.alt 1008 .nil .nil) .nil) .nil) .nil) .nil)) (.alt 5 (.alt 0 (.alt 3 (.alt 1006 (.alt 2007 (.alt 1008 .nil .nil) .nil) .nil) .nil) .nil) .nil))
theorem mcase_c (d:Sl Int) (hd:d.l.length≤1000000):Ctr Tryz.prog fMCase clMk [.c (intsR d)] [] (fun g:CW×Nat=>⟨.a (caA g.1 3 4 5 6 7 8),ckB d g.2 g.1 (caA g.1 3 4 5 6 7 8),IwM g.1⟩):=by
 refine ctr_of gT eMCase bMCase rfl rfl rfl bL clBn (Sd.sq (VC_ok gT mxd (Sd.sq (VC_ok gT mxd ⟨[],tnew_c d,rfl,rfl,rfl,fun _ _=>Sd.sq (VC_ok gT mxd ⟨[1],tnext_c d 0 3 hd (Nat.zero_le _) dC dC,rfl,rfl,rfl,fun⟨z,q1⟩ h1=>?_⟩)⟩))))
 obtain⟨m,rfl⟩:∃m:Nat,z=m:=⟨z.toNat,by have:=h1.1.1;replace this:0≤z:=this;omega⟩
 have hm:m<3:=by have:=h1.1.2;replace this:(m:Int)<3:=this;omega
 refine⟨((1+m:Nat):Int),wj (by show((1+m:Nat):Int)=1+(m:Int);omega),Sd.sq (VC_ok gT mxd ⟨[1],thours_c d q1 (1+m) 5 hd h1.2 oM dC dC,rfl,rfl,rfl,fun⟨R,q2⟩ h2=>Sd.sq (VC_ok gT mxd ⟨[1],tnext_c d q2 4 hd h2.2 dC dC,rfl,rfl,rfl,fun r3 h3=>⟨1+r3.1,wj,?_⟩⟩)⟩)⟩
 refine gcnil tSd 2 2 59 3 rfl rfl bL rfl (gcnil tSd 2 3 71 12 rfl rfl bL rfl (gcnil tSd 2 4 42 22 rfl rfl bL rfl (gcnil tSd 2 5 75 9 rfl rfl bL rfl (gcnil tSd 2 6 77 5 rfl rfl bL rfl (gcnil tSd 2 7 47 4 rfl rfl bL rfl ?_)))))
 refine vloopG (rn [(5,6),(32,57)]) (fun(g:Int×List BusM×Nat)=>[(5,.c (iC g.1))]) (fun(g:Int×List BusM×Nat)=>ckB d g.2.2 ⟨1+m,R,g.2.1,[],[],[],[],[]⟩ zCs) (fun _=>[]) (fun g=>bI d (1+m) (1+r3.1) g.1 g.2.1 g.2.2) (fun g=>g.1.toNat) fun hM=>⟨gfin hM (chg:=fun(g:Int×List BusM×Nat)=>[(5,.c (iC g.1))]) (bls:=fun(g:Int×List BusM×Nat)=>ckB d g.2.2 ⟨1+m,R,g.2.1,[],[],[],[],[]⟩ zCs) (fls:=fun _=>[]) (1+r3.1,[],r3.2) (show bI d (1+m) (1+r3.1) (1+r3.1) [] r3.2 from ⟨⟨by omega,by simp⟩,(fun _ h=>nomatch h),h3.2⟩) rfl ⟨rfl,rfl,rfl,rfl,rfl,rfl,rfl,rfl,rfl⟩ trivial rfl bL ckB_sc rfl,fun⟨k,B,q⟩ hI=>VC_ok gT mxd ⟨fun h6=>VC_ok gT mxd ?_,fun h6=>VC_ok gT mxd ?_⟩⟩
 all_goals obtain⟨⟨hk,hl⟩,hb,hq⟩:=(show bI d (1+m) (1+r3.1) k B q from hI)
 ·replace h6:k>0:=h6
  refine⟨oC7,by kernel_rfl,_,_,fun g=>g.1.demand.l.length=1+m∧g.2≤d.l.length,⟨⟨[],nam_c ⟨#[98]⟩ B.length bL oM,rfl,rfl,rfl,fun nm _=>⟨rfl,⟨⟨[1],thours_c d q (1+m) 14 hd hq oM dC dC,rfl,rfl,rfl,fun r2 e2=>⟨rfl,⟨rfl,gfin hM (chg:=fun(g:BusM×Nat)=>[(6,.c (.p 9 0)),(5,.c (iC k))]) (bls:=fun(g:BusM×Nat)=>ckB1 d g.2 ⟨1+m,R,B,[],[],[],[],[]⟩ zCs (59,0,g.1.C)) (fls:=fun _=>[]) (⟨nm,r2.1,0⟩,r2.2) e2 rfl ⟨rfl,rfl,rfl,rfl,rfl,rfl,rfl,rfl,rfl,rfl⟩ trivial ⟨rfl,rfl⟩ bL (ckB1_sc rfl) rfl⟩⟩⟩,⟨rfl,⟨[1],thours_c d q (1+m) 14 hd hq oM dC dC,rfl,rfl,rfl,fun r2 e2=>⟨rfl,gfin hM (chg:=fun(g:BusM×Nat)=>[(6,.c (.p 9 0)),(5,.c (iC k))]) (bls:=fun(g:BusM×Nat)=>ckB1 d g.2 ⟨1+m,R,B,[],[],[],[],[]⟩ zCs (59,0,g.1.C)) (fls:=fun _=>[]) (⟨nm,r2.1,0⟩,r2.2) e2 rfl ⟨rfl,rfl,rfl,rfl,rfl,rfl,rfl,rfl,rfl,rfl⟩ trivial ⟨rfl,rfl⟩ bL (ckB1_sc rfl) rfl⟩⟩⟩⟩⟩⟩,⟨rfl,⟨[],nam_c ⟨#[98]⟩ B.length bL oM,rfl,rfl,rfl,fun nm _=>⟨rfl,⟨[1],thours_c d q (1+m) 14 hd hq oM dC dC,rfl,rfl,rfl,fun r2 e2=>⟨rfl,gfin hM (chg:=fun(g:BusM×Nat)=>[(6,.c (.p 9 0)),(5,.c (iC k))]) (bls:=fun(g:BusM×Nat)=>ckB1 d g.2 ⟨1+m,R,B,[],[],[],[],[]⟩ zCs (59,0,g.1.C)) (fls:=fun _=>[]) (⟨nm,r2.1,0⟩,r2.2) e2 rfl ⟨rfl,rfl,rfl,rfl,rfl,rfl,rfl,rfl,rfl,rfl⟩ trivial ⟨rfl,rfl⟩ bL (ckB1_sc rfl) rfl⟩⟩⟩⟩⟩⟩,fun⟨b,q4⟩ hb4=>?_⟩
  exact⟨[1],tnext_c d q4 2 hd hb4.2 dC dC,rfl,rfl,rfl,fun r5 e5=>⟨fun _=>VC_ok gT mxd ⟨[1],tnext_c d r5.2 200 hd e5.2 dC dC,rfl,rfl,rfl,fun r6 e6=>⟨100+r6.1,wj,apF (L:=B) (fun _=>rfl) cB rfl (clo_men' (cB ⟨b.name,b.demand,100+r6.1⟩)) oM bL,clo_men' (fl_cl cL),clo_men' (fl_cl cU),clo_men' (fl_cl cS),clo_men' (fl_cl cT),clo_men' (fl_cl cO),clo_men' (cB ⟨b.name,b.demand,100+r6.1⟩),k-1,wj,gfin hM (chg:=fun(g:Int×List BusM×Nat)=>[(5,.c (iC g.1))]) (bls:=fun(g:Int×List BusM×Nat)=>ckB d g.2.2 ⟨1+m,R,g.2.1,[],[],[],[],[]⟩ zCs) (fls:=fun _=>[]) (k-1,B++[⟨b.name,b.demand,100+r6.1⟩],r6.2) ⟨bI_next hI h6 hb4.1 e6.2,show(k-1).toNat<k.toNat by omega⟩ rfl ⟨rfl,rfl,(by show(_,_,_)=(_,_,[_,_,CV.s 3 (B++[_]).length,_,_,_,_,_]);rw[List.length_append];rfl),flE (x:=(⟨b.name,b.demand,100+r6.1⟩:BusM)),rfl,rfl,rfl,rfl,rfl⟩ trivial rfl bL ckB_sc rfl⟩⟩,fun _=>VC_ok gT mxd ⟨apF (L:=B) (fun _=>rfl) cB rfl (clo_men' (cB ⟨b.name,b.demand,b.shed⟩)) oM bL,clo_men' (fl_cl cL),clo_men' (fl_cl cU),clo_men' (fl_cl cS),clo_men' (fl_cl cT),clo_men' (fl_cl cO),clo_men' (cB ⟨b.name,b.demand,b.shed⟩),k-1,wj,gfin hM (chg:=fun(g:Int×List BusM×Nat)=>[(5,.c (iC g.1))]) (bls:=fun(g:Int×List BusM×Nat)=>ckB d g.2.2 ⟨1+m,R,g.2.1,[],[],[],[],[]⟩ zCs) (fls:=fun _=>[]) (k-1,B++[⟨b.name,b.demand,b.shed⟩],r5.2) ⟨bI_next hI h6 hb4.1 e5.2,show(k-1).toNat<k.toNat by omega⟩ rfl ⟨rfl,rfl,(by show(_,_,_)=(_,_,[_,_,CV.s 3 (B++[_]).length,_,_,_,_,_]);rw[List.length_append];rfl),flE (x:=(⟨b.name,b.demand,b.shed⟩:BusM)),rfl,rfl,rfl,rfl,rfl⟩ trivial rfl bL ckB_sc rfl⟩⟩⟩
 replace h6:¬k>0:=h6
 have hB0:0<B.length:=by omega
 have hB4:B.length≤4:=by omega
 clear hI hk hl h6 hM
 refine Sd.sq (VC_ok gT mxd (Sd.sq (VC_ok gT mxd (vloopG (rn [(8,8),(61,81)]) (fun(g:Nat×List LineM×Nat)=>[(8,.c (iC g.1))]) (fun(g:Nat×List LineM×Nat)=>ckB d g.2.2 ⟨1+m,R,B,g.2.1,[],[],[],[]⟩ zCs) (fun _=>[]) (fun g=>(1≤g.1∧g.1≤B.length∧g.2.1.length≤g.1)∧(∀x∈g.2.1,x.away.l.length≤1)∧g.2.2≤d.l.length) (fun g=>B.length-g.1) fun hM=>⟨gfin hM (chg:=fun(g:Nat×List LineM×Nat)=>[(8,.c (iC g.1))]) (bls:=fun(g:Nat×List LineM×Nat)=>ckB d g.2.2 ⟨1+m,R,B,g.2.1,[],[],[],[]⟩ zCs) (fls:=fun _=>[]) (1,[],q) ⟨⟨Nat.le_refl 1,hB0,Nat.zero_le 1⟩,(fun _ h=>nomatch h),hq⟩ rfl ⟨rfl,rfl,rfl,rfl,rfl,rfl,rfl,rfl,rfl⟩ trivial rfl bL ckB_sc rfl,fun⟨i,L,q1⟩ hI=>VC_ok gT mxd ⟨fun h6=>VC_ok gT mxd ?_,fun h6=>VC_ok gT mxd ?_⟩⟩))))
 all_goals obtain⟨⟨hi1,hi2,hl⟩,ha,hq1⟩:=(show(1≤i∧i≤B.length∧L.length≤i)∧(∀x∈L,x.away.l.length≤1)∧q1≤d.l.length from hI)
 ·have hi3:i<B.length:=by replace h6:(i:Int)<(B.length:Nat):=h6;omega
  exact⟨oC15,by kernel_rfl,[1],tnext_c d q1 i hd hq1 oM oM,rfl,rfl,rfl,fun r5 e5=>⟨rfl,[1],tline_c d r5.2 L.length (1+m) r5.1 i hd e5.2 oM oM oM,rfl,rfl,rfl,fun⟨x,q6⟩ e6=>⟨rfl,rfl,apF (L:=L) (fun _=>rfl) cL rfl (clo_men' (cL x)) oM bL,clo_men' (fl_cl cB),clo_men' (fl_cl cU),clo_men' (fl_cl cS),clo_men' (fl_cl cT),clo_men' (fl_cl cO),clo_men' (cL x),(i+1:Nat),wi,gfin hM (chg:=fun(g:Nat×List LineM×Nat)=>[(8,.c (iC g.1))]) (bls:=fun(g:Nat×List LineM×Nat)=>ckB d g.2.2 ⟨1+m,R,B,g.2.1,[],[],[],[]⟩ zCs) (fls:=fun _=>[]) (i+1,L++[x],q6) ⟨⟨⟨Nat.le_add_left 1 i,hi3,show(L++[x]).length≤i+1 by simp;omega⟩,mem_snoc ha e6.1,e6.2⟩,show B.length-(i+1)<B.length-i by omega⟩ rfl ⟨rfl,rfl,(by show(_,_,_)=(_,_,[_,_,_,CV.s 4 (L++[_]).length,_,_,_,_]);rw[List.length_append];rfl),rfl,flE (x:=(x:LineM)),rfl,rfl,rfl,rfl⟩ trivial rfl bL ckB_sc rfl⟩⟩⟩
 replace h6:¬(i:Int)<(B.length:Nat):=h6
 have hL4:L.length≤4:=by omega
 clear hI h6 hM hi1 hi2 hl
 refine Sd.sq (VC_ok gT mxd ⟨[1],tnext_c d q1 5 hd hq1 dC dC,rfl,rfl,rfl,fun r5 e5=>?_⟩)
 refine vloopG (rn [(9,10),(84,116)]) (fun(g:Int×List LineM×Nat)=>[(9,.c (iC g.1))]) (fun(g:Int×List LineM×Nat)=>ckB d g.2.2 ⟨1+m,R,B,g.2.1,[],[],[],[]⟩ zCs) (fun _=>[]) (fun g=>gI (fun x:LineM=>x.away.l.length≤1) d 8 g.1 g.2.1 g.2.2) (fun g=>g.1.toNat) fun hM=>⟨gfin hM (chg:=fun(g:Int×List LineM×Nat)=>[(9,.c (iC g.1))]) (bls:=fun(g:Int×List LineM×Nat)=>ckB d g.2.2 ⟨1+m,R,B,g.2.1,[],[],[],[]⟩ zCs) (fls:=fun _=>[]) (r5.1,L,r5.2) (show gI (fun x:LineM=>x.away.l.length≤1) d 8 r5.1 L r5.2 from ⟨⟨by omega,by omega⟩,ha,e5.2⟩) rfl ⟨rfl,rfl,rfl,rfl,rfl,rfl,rfl,rfl,rfl⟩ trivial rfl bL ckB_sc rfl,fun⟨k,L2,q2⟩ hI=>VC_ok gT mxd ⟨fun h6=>VC_ok gT mxd ?_,fun h6=>VC_ok gT mxd ?_⟩⟩
 all_goals obtain⟨⟨hk,hl⟩,ha2,hq2⟩:=(show gI (fun x:LineM=>x.away.l.length≤1) d 8 k L2 q2 from hI)
 ·obtain⟨h7,h8⟩:=(show k>0∧((B.length:Nat):Int)>1 from h6)
  exact⟨[1],tnext_c d q2 B.length hd hq2 oM oM,rfl,rfl,rfl,fun r6 e6=>⟨oC20,by kernel_rfl,r6.1+1,wj,((B.length:Nat):Int)-1,wj,[1],tnext_c d r6.2 (((B.length:Nat):Int)-1) hd e6.2 oM oM,rfl,rfl,rfl,fun r7 e7=>⟨rfl,r6.1+1+r7.1,wj,(show((B.length:Nat):Int)≠0 by omega),[1],tline_c d r7.2 L2.length (1+m) r6.1 ((r6.1+1+r7.1).tmod B.length) hd e7.2 oM oM oM,rfl,rfl,rfl,fun⟨x,q8⟩ e8=>⟨rfl,rfl,apF (L:=L2) (fun _=>rfl) cL rfl (clo_men' (cL x)) oM bL,clo_men' (fl_cl cB),clo_men' (fl_cl cU),clo_men' (fl_cl cS),clo_men' (fl_cl cT),clo_men' (fl_cl cO),clo_men' (cL x),k-1,wj,gfin hM (chg:=fun(g:Int×List LineM×Nat)=>[(9,.c (iC g.1))]) (bls:=fun(g:Int×List LineM×Nat)=>ckB d g.2.2 ⟨1+m,R,B,g.2.1,[],[],[],[]⟩ zCs) (fls:=fun _=>[]) (k-1,L2++[x],q8) ⟨gI_next hI h7 e8.1 e8.2,show(k-1).toNat<k.toNat by omega⟩ rfl ⟨rfl,rfl,(by show(_,_,_)=(_,_,[_,_,_,CV.s 4 (L2++[_]).length,_,_,_,_]);rw[List.length_append];rfl),rfl,flE (x:=(x:LineM)),rfl,rfl,rfl,rfl⟩ trivial rfl bL ckB_sc rfl⟩⟩⟩⟩
 have hL8:L2.length≤8:=by omega
 clear hI hk hl h6 hM
 refine Sd.sq (VC_ok gT mxd ⟨[1],tnext_c d q2 3 hd hq2 dC dC,rfl,rfl,rfl,fun r6 e6=>⟨1+r6.1,wj,?_⟩⟩)
 refine vloopG (rn [(11,11),(120,136)]) (fun(g:Int×List UnitM×Nat)=>[(11,.c (iC g.1))]) (fun(g:Int×List UnitM×Nat)=>ckB d g.2.2 ⟨1+m,R,B,L2,g.2.1,[],[],[]⟩ zCs) (fun _=>[]) (fun g=>gI (fun x:UnitM=>x.away.l.length≤1∧x.segs.l.length≤2) d 3 g.1 g.2.1 g.2.2) (fun g=>g.1.toNat) fun hM=>⟨gfin hM (chg:=fun(g:Int×List UnitM×Nat)=>[(11,.c (iC g.1))]) (bls:=fun(g:Int×List UnitM×Nat)=>ckB d g.2.2 ⟨1+m,R,B,L2,g.2.1,[],[],[]⟩ zCs) (fls:=fun _=>[]) (1+r6.1,[],r6.2) (show gI (fun x:UnitM=>x.away.l.length≤1∧x.segs.l.length≤2) d 3 (1+r6.1) [] r6.2 from ⟨⟨by omega,by simp;omega⟩,(fun _ h=>nomatch h),e6.2⟩) rfl ⟨rfl,rfl,rfl,rfl,rfl,rfl,rfl,rfl,rfl⟩ trivial rfl bL ckB_sc rfl,fun⟨k,U,q3⟩ hI=>VC_ok gT mxd ⟨fun h6=>VC_ok gT mxd ?_,fun h6=>VC_ok gT mxd ?_⟩⟩
 all_goals obtain⟨⟨hk,hl⟩,hu,hq3⟩:=(show gI (fun x:UnitM=>x.away.l.length≤1∧x.segs.l.length≤2) d 3 k U q3 from hI)
 ·replace h6:k>0:=h6
  exact⟨oC24,by kernel_rfl,[1],tunit_c d q3 U.length B.length (1+m) hd hq3 oM oM oM oM oM,rfl,rfl,rfl,fun⟨x,q8⟩ e8=>⟨rfl,rfl,apF (L:=U) (fun _=>rfl) cU rfl (clo_men' (cU x)) oM bL,clo_men' (fl_cl cB),clo_men' (fl_cl cL),clo_men' (fl_cl cS),clo_men' (fl_cl cT),clo_men' (fl_cl cO),clo_men' (cU x),k-1,wj,gfin hM (chg:=fun(g:Int×List UnitM×Nat)=>[(11,.c (iC g.1))]) (bls:=fun(g:Int×List UnitM×Nat)=>ckB d g.2.2 ⟨1+m,R,B,L2,g.2.1,[],[],[]⟩ zCs) (fls:=fun _=>[]) (k-1,U++[x],q8) ⟨gI_next hI h6 e8.1 e8.2,show(k-1).toNat<k.toNat by omega⟩ rfl ⟨rfl,rfl,(by show(_,_,_)=(_,_,[_,_,_,_,CV.s 5 (U++[_]).length,_,_,_]);rw[List.length_append];rfl),rfl,rfl,flE (x:=(x:UnitM)),rfl,rfl,rfl⟩ trivial rfl bL ckB_sc rfl⟩⟩
 have hU3:U.length≤3:=by omega
 clear hI hk hl h6 hM
 refine Sd.cut (σ:=List StoreM×Nat) (fun g=>⟨[(2,.c (.p 0 0)),(3,.c (.p 1 0)),(4,.c (.p 2 0)),(7,.c (iC (B.length:Nat)))]++[],[],ckB d g.2 ⟨1+m,R,B,L2,U,g.1,[],[]⟩ zCs,[]⟩) (fun g=>g.1.length≤1∧g.2≤d.l.length) ?_ fun g hg=>?_
 ·exact VC_ok gT mxd ⟨[1],tnext_c d q3 3 hd hq3 dC dC,rfl,rfl,rfl,fun r5 e5=>⟨fun _=>VC_ok gT mxd ⟨[1],tnext_c d r5.2 B.length hd e5.2 oM oM,rfl,rfl,rfl,fun a1 f1=>⟨[1],tnext_c d a1.2 20 hd f1.2 dC dC,rfl,rfl,rfl,fun a2 f2=>⟨[1],tnext_c d a2.2 8 hd f2.2 dC dC,rfl,rfl,rfl,fun a3 f3=>⟨[1],tnext_c d a3.2 8 hd f3.2 dC dC,rfl,rfl,rfl,fun a4 f4=>⟨[1],tnext_c d a4.2 4 hd f4.2 dC dC,rfl,rfl,rfl,fun a5 f5=>⟨1+a5.1,wj,oC27,by kernel_rfl,a2.1+1,wj,a2.1+1,wj,[1],tnext_c d a5.2 (a2.1+1) hd f5.2 oM oM,rfl,rfl,rfl,fun a6 f6=>⟨rfl,[1],tnext_c d a6.2 (a2.1+1) hd f6.2 oM oM,rfl,rfl,rfl,fun a7 f7=>⟨rfl,apF (L:=([]:List StoreM)) (d:=store0) (fun _=>rfl) cS rfl (clo_men' (cS (⟨⟨#[115,48]⟩,a1.1,a2.1,a6.1,a7.1,a3.1,a4.1,⟨1+a5.1,4⟩⟩:StoreM))) bL bL,clo_men' (fl_cl cB),clo_men' (fl_cl cL),clo_men' (fl_cl cU),clo_men' (fl_cl cT),clo_men' (fl_cl cO),clo_men' (cS (⟨⟨#[115,48]⟩,a1.1,a2.1,a6.1,a7.1,a3.1,a4.1,⟨1+a5.1,4⟩⟩:StoreM)),gfin g0 (chg:=fun(g:List StoreM×Nat)=>[(2,.c (.p 0 0)),(3,.c (.p 1 0)),(4,.c (.p 2 0)),(7,.c (iC (B.length:Nat)))]) (bls:=fun(g:List StoreM×Nat)=>ckB d g.2 ⟨1+m,R,B,L2,U,g.1,[],[]⟩ zCs) (fls:=fun _=>[]) ([(⟨⟨#[115,48]⟩,a1.1,a2.1,a6.1,a7.1,a3.1,a4.1,⟨1+a5.1,4⟩⟩:StoreM)],a7.2) ⟨Nat.le_refl 1,f7.2⟩ rfl ⟨rfl,rfl,rfl,rfl,rfl,rfl,rfl,rfl,rfl⟩ trivial ⟨rfl,rfl,rfl,rfl⟩ bL ckB_sc rfl⟩⟩⟩⟩⟩⟩⟩⟩,fun _=>VC_ok gT mxd (gfin g0 (chg:=fun(g:List StoreM×Nat)=>[(2,.c (.p 0 0)),(3,.c (.p 1 0)),(4,.c (.p 2 0)),(7,.c (iC (B.length:Nat)))]) (bls:=fun(g:List StoreM×Nat)=>ckB d g.2 ⟨1+m,R,B,L2,U,g.1,[],[]⟩ zCs) (fls:=fun _=>[]) ([],r5.2) ⟨Nat.zero_le 1,e5.2⟩ rfl ⟨rfl,rfl,rfl,rfl,rfl,rfl,rfl,rfl,rfl⟩ trivial ⟨rfl,rfl,rfl,rfl⟩ bL ckB_sc rfl)⟩⟩
 obtain⟨S,q4⟩:=g
 obtain⟨hS1,hq4⟩:=hg
 replace hS1:S.length≤1:=hS1
 replace hq4:q4≤d.l.length:=hq4
 refine Sd.cut (σ:=List TieM×Nat) (fun g=>⟨[(2,.c (.p 0 0)),(3,.c (.p 1 0)),(4,.c (.p 2 0)),(7,.c (iC (B.length:Nat)))]++[],[],ckB d g.2 ⟨1+m,R,B,L2,U,S,g.1,[]⟩ zCs,[]⟩) (fun g=>g.1.length≤1∧(∀x∈g.1,x.imp.l.length=1+m∧x.exp.l.length=1+m∧x.price.l.length=1+m)∧g.2≤d.l.length) ?_ fun g hg=>?_
 ·exact VC_ok gT mxd ⟨[1],tnext_c d q4 3 hd hq4 dC dC,rfl,rfl,rfl,fun r5 e5=>⟨fun _=>VC_ok gT mxd ⟨oC30,by kernel_rfl,[1],tnext_c d r5.2 B.length hd e5.2 oM oM,rfl,rfl,rfl,fun a1 f1=>⟨rfl,[1],thours_c d a1.2 (1+m) 12 hd f1.2 oM dC dC,rfl,rfl,rfl,fun a2 f2=>⟨rfl,[1],thours_c d a2.2 (1+m) 12 hd f2.2 oM dC dC,rfl,rfl,rfl,fun a3 f3=>⟨rfl,[1],thours_c d a3.2 (1+m) 40 hd f3.2 oM dC dC,rfl,rfl,rfl,fun a4 f4=>⟨rfl,rfl,apF (L:=([]:List TieM)) (d:=tie0) (fun _=>rfl) cT rfl (clo_men' (cT (⟨⟨#[116,48]⟩,a1.1,a2.1,a3.1,a4.1⟩:TieM))) bL bL,clo_men' (fl_cl cB),clo_men' (fl_cl cL),clo_men' (fl_cl cU),clo_men' (fl_cl cS),clo_men' (fl_cl cO),clo_men' (cT (⟨⟨#[116,48]⟩,a1.1,a2.1,a3.1,a4.1⟩:TieM)),gfin g0 (chg:=fun(g:List TieM×Nat)=>[(2,.c (.p 0 0)),(3,.c (.p 1 0)),(4,.c (.p 2 0)),(7,.c (iC (B.length:Nat)))]) (bls:=fun(g:List TieM×Nat)=>ckB d g.2 ⟨1+m,R,B,L2,U,S,g.1,[]⟩ zCs) (fls:=fun _=>[]) ([(⟨⟨#[116,48]⟩,a1.1,a2.1,a3.1,a4.1⟩:TieM)],a4.2) ⟨Nat.le_refl 1,(fun x hx=>by rw[List.mem_singleton.1 hx];exact⟨f2.1,f3.1,f4.1⟩),f4.2⟩ rfl ⟨rfl,rfl,rfl,rfl,rfl,rfl,rfl,rfl,rfl⟩ trivial ⟨rfl,rfl,rfl,rfl⟩ bL ckB_sc rfl⟩⟩⟩⟩⟩,fun _=>VC_ok gT mxd (gfin g0 (chg:=fun(g:List TieM×Nat)=>[(2,.c (.p 0 0)),(3,.c (.p 1 0)),(4,.c (.p 2 0)),(7,.c (iC (B.length:Nat)))]) (bls:=fun(g:List TieM×Nat)=>ckB d g.2 ⟨1+m,R,B,L2,U,S,g.1,[]⟩ zCs) (fls:=fun _=>[]) ([],r5.2) ⟨Nat.zero_le 1,(fun _ h=>nomatch h),e5.2⟩ rfl ⟨rfl,rfl,rfl,rfl,rfl,rfl,rfl,rfl,rfl⟩ trivial ⟨rfl,rfl,rfl,rfl⟩ bL ckB_sc rfl)⟩⟩
 obtain⟨T,q5⟩:=g
 obtain⟨hT1,hTt,hq5⟩:=hg
 replace hT1:T.length≤1:=hT1
 replace hTt:(∀x∈T,x.imp.l.length=1+m∧x.exp.l.length=1+m∧x.price.l.length=1+m):=hTt
 replace hq5:q5≤d.l.length:=hq5
 refine Sd.sq (VC_ok gT mxd ⟨[1],tnext_c d q5 4 hd hq5 dC dC,rfl,rfl,rfl,fun r6 e6=>?_⟩)
 refine vloopG (rn [(13,17),(198,235)]) (fun(g:Int×List OutM×Nat)=>[(13,.c (iC g.1))]) (fun(g:Int×List OutM×Nat)=>ckB d g.2.2 ⟨1+m,R,B,L2,U,S,T,g.2.1⟩ zCs) (fun _=>[]) (fun g=>gI (fun x:OutM=>x.lines.l.length≤2∧x.moves.l.length≤10) d 4 g.1 g.2.1 g.2.2) (fun g=>g.1.toNat) fun hM=>⟨gfin hM (chg:=fun(g:Int×List OutM×Nat)=>[(13,.c (iC g.1))]) (bls:=fun(g:Int×List OutM×Nat)=>ckB d g.2.2 ⟨1+m,R,B,L2,U,S,T,g.2.1⟩ zCs) (fls:=fun _=>[]) (r6.1,[],r6.2) (show gI (fun x:OutM=>x.lines.l.length≤2∧x.moves.l.length≤10) d 4 r6.1 [] r6.2 from ⟨⟨by omega,by simp;omega⟩,(fun _ h=>nomatch h),e6.2⟩) rfl ⟨rfl,rfl,rfl,rfl,rfl,rfl,rfl,rfl,rfl⟩ trivial rfl bL ckB_sc rfl,fun⟨k,O,q6⟩ hI=>VC_ok gT mxd ⟨fun h6=>VC_ok gT mxd ?_,fun h6=>VC_ok gT mxd ?_⟩⟩
 all_goals obtain⟨⟨hk,hl⟩,ho,hq6⟩:=(show gI (fun x:OutM=>x.lines.l.length≤2∧x.moves.l.length≤10) d 4 k O q6 from hI)
 ·obtain⟨h7,h8⟩:=(show k>0∧((L2.length:Nat):Int)>0 from h6)
  have hO4:O.length≤4:=by omega
  refine⟨[1],tout_c d q6 O.length L2.length U.length hd hq6 oM oM oM oM,rfl,rfl,rfl,fun⟨x,q7⟩ e7=>⟨oC36,by kernel_rfl,_,_,fun _=>True,⟨⟨rfl,⟨apO hO4,clo_men' (fl_cl cB),clo_men' (fl_cl cL),clo_men' (fl_cl cU),clo_men' (fl_cl cS),clo_men' (fl_cl cT),clo_men' (fl_cl cO),rfl,rfl,apO1 (x:=x) hO4,clo_men' (fl_cl cB),clo_men' (fl_cl cL),clo_men' (fl_cl cU),clo_men' (fl_cl cS),clo_men' (fl_cl cT),clo_men' (fl_cl cO),clo_men' (cO x),gfin hM (chg:=fun _:Unit=>[(15,.c (.p 10 0)),(13,.c (iC k))]) (bls:=fun _:Unit=>[(30,0,zCs),(132,0,[intsR d,iC q7]),(30,0,caA ⟨1+m,R,B,L2,U,S,T,O⟩ 3 4 5 6 7 8),(59,3,fl BusM.C bus0 B),(71,12,fl LineM.C line0 L2),(42,22,fl UnitM.C unit0 U),(75,9,fl StoreM.C store0 S),(77,5,fl TieM.C tie0 T),(47,4,fl OutM.C out0 O),(47,0,x.C),(30,0,caA ⟨1+m,R,B,L2,U,S,T,O++[x]⟩ 3 4 5 6 7 11),(47,4,fl OutM.C out0 (O++[x]))]) (fls:=fun _=>[]) () trivial rfl ⟨rfl,rfl,rfl,rfl,rfl,rfl,rfl,rfl,rfl,rfl,(by show(_,_,_)=(_,_,[_,_,_,_,_,_,_,CV.s 11 (O++[x]).length]);rw[show(O++[x]).length=0+O.length+1 by simp];rfl),flE (x:=x)⟩ trivial ⟨rfl,rfl⟩ bL (scB.cons rfl (scB.cons rfl (scB.cons rfl (scB.cons (sc_clo (fl_cl cB)) (scB.cons (sc_clo (fl_cl cL)) (scB.cons (sc_clo (fl_cl cU)) (scB.cons (sc_clo (fl_cl cS)) (scB.cons (sc_clo (fl_cl cT)) (scB.cons (sc_clo (fl_cl cO)) (scB.cons rfl (scB.cons rfl (scB.cons (sc_clo (fl_cl cO)) scB.nil)))))))))))) rfl⟩,rfl,apO hO4,clo_men' (fl_cl cB),clo_men' (fl_cl cL),clo_men' (fl_cl cU),clo_men' (fl_cl cS),clo_men' (fl_cl cT),clo_men' (fl_cl cO),clo_men' (cO x),rfl,apO1 (x:=x) hO4,clo_men' (fl_cl cB),clo_men' (fl_cl cL),clo_men' (fl_cl cU),clo_men' (fl_cl cS),clo_men' (fl_cl cT),clo_men' (fl_cl cO),clo_men' (cO x),gfin hM (chg:=fun _:Unit=>[(15,.c (.p 10 0)),(13,.c (iC k))]) (bls:=fun _:Unit=>[(30,0,zCs),(132,0,[intsR d,iC q7]),(30,0,caA ⟨1+m,R,B,L2,U,S,T,O⟩ 3 4 5 6 7 8),(59,3,fl BusM.C bus0 B),(71,12,fl LineM.C line0 L2),(42,22,fl UnitM.C unit0 U),(75,9,fl StoreM.C store0 S),(77,5,fl TieM.C tie0 T),(47,4,fl OutM.C out0 O),(47,0,x.C),(30,0,caA ⟨1+m,R,B,L2,U,S,T,O++[x]⟩ 3 4 5 6 7 11),(47,4,fl OutM.C out0 (O++[x]))]) (fls:=fun _=>[]) () trivial rfl ⟨rfl,rfl,rfl,rfl,rfl,rfl,rfl,rfl,rfl,rfl,(by show(_,_,_)=(_,_,[_,_,_,_,_,_,_,CV.s 11 (O++[x]).length]);rw[show(O++[x]).length=0+O.length+1 by simp];rfl),flE (x:=x)⟩ trivial ⟨rfl,rfl⟩ bL (scB.cons rfl (scB.cons rfl (scB.cons rfl (scB.cons (sc_clo (fl_cl cB)) (scB.cons (sc_clo (fl_cl cL)) (scB.cons (sc_clo (fl_cl cU)) (scB.cons (sc_clo (fl_cl cS)) (scB.cons (sc_clo (fl_cl cT)) (scB.cons (sc_clo (fl_cl cO)) (scB.cons rfl (scB.cons rfl (scB.cons (sc_clo (fl_cl cO)) scB.nil)))))))))))) rfl⟩,rfl,rfl,apO hO4,clo_men' (fl_cl cB),clo_men' (fl_cl cL),clo_men' (fl_cl cU),clo_men' (fl_cl cS),clo_men' (fl_cl cT),clo_men' (fl_cl cO),clo_men' (cO x),rfl,apO1 (x:=x) hO4,clo_men' (fl_cl cB),clo_men' (fl_cl cL),clo_men' (fl_cl cU),clo_men' (fl_cl cS),clo_men' (fl_cl cT),clo_men' (fl_cl cO),clo_men' (cO x),gsw (nb:=0) 11 12 rfl rfl bL bL rfl ⟨_,map_sw (fl_cl cB),_,map_sw (fl_cl cL),_,map_sw (fl_cl cU),_,map_sw (fl_cl cS),_,map_sw (fl_cl cT),_,map_sw (fl_cl cO),_,map_sw clO1,_,map_sw (cO x),bL,gfin hM (chg:=fun _:Unit=>[(15,.c (.p 10 0)),(13,.c (iC k))]) (bls:=fun _:Unit=>[(30,0,zCs),(132,0,[intsR d,iC q7]),(30,0,caA ⟨1+m,R,B,L2,U,S,T,O⟩ 3 4 5 6 7 8),(59,3,fl BusM.C bus0 B),(71,12,fl LineM.C line0 L2),(42,22,fl UnitM.C unit0 U),(75,9,fl StoreM.C store0 S),(77,5,fl TieM.C tie0 T),(47,4,fl OutM.C out0 O),(47,0,x.C),(30,0,caA ⟨1+m,R,B,L2,U,S,T,O++[x]⟩ 3 4 5 6 7 11),(47,4,fl OutM.C out0 (O++[x]))]) (fls:=fun _=>[]) () trivial rfl ⟨rfl,rfl,rfl,rfl,rfl,rfl,rfl,rfl,rfl,rfl,(by show(_,_,_)=(_,_,[_,_,_,_,_,_,_,CV.s 11 (O++[x]).length]);rw[show(O++[x]).length=0+O.length+1 by simp];rfl),flE (x:=x)⟩ trivial ⟨rfl,rfl⟩ bL (scB.cons rfl (scB.cons rfl (scB.cons rfl (scB.cons (sc_clo (fl_cl cB)) (scB.cons (sc_clo (fl_cl cL)) (scB.cons (sc_clo (fl_cl cU)) (scB.cons (sc_clo (fl_cl cS)) (scB.cons (sc_clo (fl_cl cT)) (scB.cons (sc_clo (fl_cl cO)) (scB.cons rfl (scB.cons rfl (scB.cons (sc_clo (fl_cl cO)) scB.nil)))))))))))) rfl⟩⟩,fun _ _=>?_⟩⟩
  obtain⟨hx1,hx2⟩:=(show x.lines.l.length≤2∧x.moves.l.length≤U.length from e7.1)
  refine⟨[3,4,5,6,7,11],rckL ⟨1+m,R,B,L2,U,S,T,O++[x]⟩ ⟨by show B.length≤1000;omega,by show L2.length≤1000;omega,by show U.length≤1000;omega,by show S.length≤1000;omega,by show T.length≤1000;omega,by show(O++[x]).length≤1000;simp;omega,mem_snoc (fun y hy=>by have:=(ho y hy).2;omega) (show x.moves.l.length≤2000000 by omega)⟩,rfl,rfl,rfl,fun e _=>⟨fun _=>VC_ok gT mxd ⟨k-1,wj,gsw (nb:=0) 8 11 rfl rfl bL bL rfl ⟨_,map_sw (fl_cl cB),_,map_sw (fl_cl cL),_,map_sw (fl_cl cU),_,map_sw (fl_cl cS),_,map_sw (fl_cl cT),_,map_sw (fl_cl cO),_,map_sw (fl_cl cO),bL,gfin hM (chg:=fun(g:Int×List OutM×Nat)=>[(13,.c (iC g.1))]) (bls:=fun(g:Int×List OutM×Nat)=>ckB d g.2.2 ⟨1+m,R,B,L2,U,S,T,g.2.1⟩ zCs) (fls:=fun _=>[]) (k-1,O++[x],q7) ⟨gI_next hI h7 ⟨hx1,show x.moves.l.length≤10 by omega⟩ e7.2,show(k-1).toNat<k.toNat by omega⟩ rfl ⟨rfl,rfl,rfl,rfl,rfl,rfl,rfl,rfl,rfl⟩ trivial rfl bL ckB_sc rfl⟩⟩,fun _=>VC_ok gT mxd ⟨k-1,wj,gfin hM (chg:=fun(g:Int×List OutM×Nat)=>[(13,.c (iC g.1))]) (bls:=fun(g:Int×List OutM×Nat)=>ckB d g.2.2 ⟨1+m,R,B,L2,U,S,T,g.2.1⟩ zCs) (fls:=fun _=>[]) (k-1,O,q7) ⟨gI_keep hI h7 e7.2,show(k-1).toNat<k.toNat by omega⟩ rfl ⟨rfl,rfl,rfl,rfl,rfl,rfl,rfl,rfl,rfl⟩ trivial rfl bL ckB_sc rfl⟩⟩⟩
 clear hI h6 hM
 have hO4:O.length≤4:=by omega
 exact VC_ok gT mxd ⟨(⟨1+m,R,B,L2,U,S,T,O⟩,q6),⟨by show 0<1+m∧1+m≤3;omega,h2.1,hb,⟨hB0,hB4⟩,ha2,by show L2.length≤10;omega,hu,by show U.length≤10;omega,by show S.length≤10;omega,hTt,by show T.length≤10;omega,ho,by show O.length≤10;omega⟩,fin_own rfl ⟨rfl,rfl,rfl,rfl,rfl,rfl,rfl,rfl,rfl⟩ bL ckC_sc rfl ckC_cl⟩
end Go.Proofs.YtandhgfmfpmemaaGreat
namespace Go.Proofs.YtandhgfmfpmemaaGreat
open Go.Vg _root_.Go.Proofs.Tryz
open Go.Vm hiding sg sg_t sg_f sg_abs sg_neg sg_add sg_mul sg_self sg_canon sg_pos sg_zero sg_eq_zero sg_lt
open Go.Vy hiding val
set_option maxHeartbeats 4000000
abbrev fBelow:FuncId:=33
theorem eBelow:Ent Tryz.prog fBelow:=Ent.of func33 rfl kR
theorem bBelow:Tryz.prog.funcs[fBelow]? =some Tryz.f33:=func33
theorem below_c (l:Sl Int) (h:Int) (hl:l.l.length≤1000):Ctr Tryz.prog fBelow [] [.c (intsR l),.c (iC h)] [] (fun g:Sl Int=>⟨.c (intsR g),[],g.l.length≤l.l.length⟩):=by
 refine ctr_of gT eBelow bBelow rfl rfl rfl bL ClB.nil (VC_ok gT mxd (vnil 5 3 1 rfl bL ?_))
 refine vloopD (rn [(5,6),(7,25)]) 1 (fun g:Nat×List Int=>[(6,.c (iC g.1)),(5,.c (.s 0 g.2.length))]) (fun g=>[(3,1,g.2.map iC)]) (fun g=>g.1≤l.l.length∧g.2.length≤g.1) (fun g=>l.l.length-g.1) (0,[]) (fun _=>rfl) bL (fun g=>scB.cons (sc_clo (clo_ints _)) scB.nil) (fun _=>rfl) ?_
 refine⟨⟨rfl,⟨Nat.zero_le _,Nat.le_refl 0⟩,rfl,⟨rfl,rfl⟩⟩,fun⟨i,L⟩ hI=>VC_ok gT mxd ⟨fun h1=>VC_ok gT mxd ?_,fun h1=>VC_ok gT mxd ?_⟩⟩
 all_goals obtain⟨hi,hL⟩:=(show i≤l.l.length∧L.length≤i from hI)
 ·have hil:i<l.l.length:=by replace h1:(i:Int)<(l.l.length:Nat):=h1;omega
  exact⟨i,⟨rfl,hil⟩,⟨fun _=>VC_ok gT mxd ⟨i,⟨rfl,hil⟩,apI2 (x:=L) oM,men1,(i+1:Nat),wi,(i+1,L++[l.l.getD i 0]),⟨⟨hil,by show(L++[_]).length≤i+1;simp;omega⟩,show l.l.length-(i+1)<l.l.length-i by omega⟩,rfl,(by show(_,_,_)=(_,_,(L++[_]).map iC);rw[List.map_append];rfl),⟨rfl,(by show _=(L++[_]).length;simp)⟩⟩,fun _=>VC_ok gT mxd ⟨(i+1:Nat),wi,(i+1,L),⟨⟨hil,by show L.length≤i+1;omega⟩,show l.l.length-(i+1)<l.l.length-i by omega⟩,rfl,rfl,⟨rfl,rfl⟩⟩⟩⟩
 exact vfrz 5 0 (fun j=>[iC (L.getD j 0)]) rfl rfl (fun j hj=>ints_at L j hj) (by simp) bL (clo_ints _) bL fun A c _ _=>VC_ok gT mxd ⟨⟨A,c,L⟩,show L.length≤l.l.length by omega,fin_of rfl rfl trivial⟩
section
variable {α:Type} {f:α→List CV} {d:α} {L:List α} {e:Nat}
theorem splC_one {l:List CV} {k:Nat} {c:CV} (h:k<l.length):splC l k [c]=l.set k c:=by
 unfold splC
 rw[List.set_eq_take_append_cons_drop,if_pos h]
 rfl
theorem fl_ix (hf:∀x,(f x).length=e) {i o:Nat} (hi:i<L.length) (ho:o<e):i*e+o<(fl f d L).length:=by
 rw[fl_len hf]
 have:(i+1)*e≤L.length*e:=Nat.mul_le_mul_right e hi
 rw[Nat.succ_mul] at this
 omega
theorem fl_get (hf:∀x,(f x).length=e) {i o:Nat} (hi:i<L.length) (ho:o<e):(fl f d L)[i*e+o]? =(f (L.getD i d))[o]?:=by
 have h:=fl_at (f:=f) (d:=d) hf i hi
 rw[h,List.getElem?_take,if_pos ho,List.getElem?_drop]
theorem fl_set (hf:∀x,(f x).length=e) {i o:Nat} {c:CV} {x:α} (hi:i<L.length) (ho:o<e) (hx:f x=(f (L.getD i d)).set o c):fl f d (L.set i x)=(fl f d L).set (i*e+o) c:=by
 have h:=flR_sub (P:=fun j=>f (L.getD j d)) (n:=L.length) (k:=i) (o:=o) (v:=[c]) (fun _=>hf _) hi ho
 have h2:splC (fl f d L) (i*e+o) [c]=(fl f d L).set (i*e+o) c:=splC_one (fl_ix hf hi ho)
 rw[←h2]
 unfold fl
 rw[h,List.length_set]
 refine flR_congr fun j hj=>?_
 by_cases hji:j=i
 ·subst hji
  rw[if_pos rfl,splC_one (by rw[hf];exact ho),←hx]
  simp[List.getD,hj]
 rw[if_neg hji]
 simp[List.getD,List.getElem?_set_ne (Ne.symm hji)]
theorem fl_put (hf:∀x,(f x).length=e) {i o:Nat} {c:CV} (hi:i<L.length) (ho:o<e):splC (fl f d L) (i*e+o) [c]=(fl f d L).set (i*e+o) c∧i*e+o+1≤(fl f d L).length:=⟨splC_one (fl_ix hf hi ho),fl_ix hf hi ho⟩
end
abbrev LeL (l l':List CV):Prop:=∀(k:Nat) (c c':CV),l[k]? =some c→l'[k]? =some c'→LeC c c'
theorem LeL.refl (l:List CV):LeL l l:=fun k c c' h1 h2=>by rw[h1] at h2;injection h2 with h2;subst h2;exact LeC.refl _
theorem LeL.set {l l':List CV} {p:Nat} {c c':CV} (h:LeL l l') (hc:LeC c c'):LeL (l.set p c) (l'.set p c'):=fun k a a' h1 h2=>by
 rcases set_case h1 with ⟨rfl,rfl,hp⟩|⟨hne,h3⟩
 ·rcases set_case h2 with ⟨_,rfl,_⟩|⟨hn,_⟩
  ·exact hc
  exact absurd rfl hn
 rcases set_case h2 with ⟨hn,_⟩|⟨_,h4⟩
 ·exact absurd hn hne
 exact h k a a' h3 h4
theorem leCut {s:Sl Int} {h:Nat} (hh:h≤s.l.length):LeC (.r s.A h s.c 1 fun j=>[iC (s.l.getD j 0)]) (intsR ⟨s.A,s.c,s.l.take h⟩):=fun ρ n w x hx=>by
 obtain⟨A,c,l⟩:=s
 replace hh:h≤l.length:=hh
 have hl:(l.take h).length=h:=by rw[List.length_take];omega
 show Rc (Zf ρ n w) w (.r A (l.take h).length c 1 fun j=>[iC ((l.take h).getD j 0)]) x
 rw[hl]
 have hg:∀j,j<h→[iC ((l.take h).getD j 0)]=[iC (l.getD j 0)]:=fun j hj=>by simp[List.getD,List.getElem?_take,hj]
 replace hx:Rc (Zf ρ n w) w (.r A h c 1 fun j=>[iC (l.getD j 0)]) x:=hx
 clear hh hl
 cases hx with
 |nil A c e get hm=>exact Rc.nil _ _ _ _ hm
 |r b o n c e get V hc hm hZ hcell hlen hel=>exact Rc.r b o _ _ 1 _ V hc hm hZ hcell (fun j hj=>by rw[hlen j hj];rfl) fun j hj i c' u h1 h2=>hel j hj i c' u (by rw[hg j hj] at h1;exact h1) h2
end Go.Proofs.YtandhgfmfpmemaaGreat
namespace Go.Proofs.YtandhgfmfpmemaaGreat
open Go.Vg _root_.Go.Proofs.Tryz
open Go.Vm hiding sg sg_t sg_f sg_abs sg_neg sg_add sg_mul sg_self sg_canon sg_pos sg_zero sg_eq_zero sg_lt
open Go.Vy hiding val
set_option maxHeartbeats 4000000
def pI {α:Type} (d:α) (p q:α→Prop) (n i:Nat) (L:List α):Prop:=i≤n∧L.length=n∧(∀j,j<i→p (L.getD j d))∧∀j,i≤j→j<n→q (L.getD j d)
section
variable {α:Type} {d:α} {p q:α→Prop} {n i:Nat} {L:List α} {x:α}
theorem gD_mem {j:Nat} (h:j<L.length):L.getD j d∈L:=by simp[List.getD,h]
theorem pI_0 (h:∀x∈L,q x):pI d p q L.length 0 L:=⟨Nat.zero_le _,rfl,fun j hj=>absurd hj (Nat.not_lt_zero _),fun j _ hj=>h _ (gD_mem hj)⟩
theorem pI_next (h:pI d p q n i L) (hi:i<n) (hx:p x):pI d p q n (i+1) (L.set i x):=by
 obtain⟨_,h2,h3,h4⟩:=h
 refine⟨hi,by rw[List.length_set];exact h2,fun j hj=>?_,fun j hj hjn=>?_⟩
 ·by_cases e:j=i
  ·subst e;simpa[List.getD,h2,hi] using hx
  have:=h3 j oM
  simpa[List.getD,List.getElem?_set_ne (Ne.symm e)] using this
 have:=h4 j oM hjn
 simpa[List.getD,List.getElem?_set_ne (show i≠j by omega)] using this
theorem pI_end (h:pI d p q n i L) (hi:n≤i):∀x∈L,p x:=fun x hx=>by
 obtain⟨h1,h2,h3,_⟩:=h
 obtain⟨j,hj,rfl⟩:=List.getElem_of_mem hx
 have:=h3 j oM
 simpa[List.getD,hj] using this
end
section
variable {α:Type} {f:α→List CV} {d:α} {L:List α} {e:Nat}
theorem spl1 {l:List CV} {k:Nat} {c:CV} (h:k<l.length):splC l k [c]=l.set k c∧k+1≤l.length:=⟨splC_one h,h⟩
theorem fl_put' (hf:∀x,(f x).length=e) {i o:Nat} {c:CV} {x:α} (hi:i<L.length) (ho:o<e) (hx:f x=(f (L.getD i d)).set o c):splC (fl f d L) (i*e+o) [c]=fl f d (L.set i x)∧i*e+o+1≤(fl f d L).length:=by
 rw[fl_set hf hi ho hx]
 exact fl_put hf hi ho
theorem put_le (hf:∀x,(f x).length=e) {i o:Nat} {c c':CV} {x:α} (hi:i<L.length) (ho:o<e) (hx:f x=(f (L.getD i d)).set o c') (hc:LeC c c'):LeL ((fl f d L).set (i*e+o) c) (fl f d (L.set i x)):=by
 rw[fl_set hf hi ho hx]
 exact(LeL.refl _).set hc
theorem putL {i k:Nat} {c:CV} {x:α} (hf:∀x,(f x).length=e):(fl f d (L.set i x)).length=((fl f d L).set k c).length:=by rw[List.length_set,fl_len hf,fl_len hf,List.length_set]
end
theorem caL_sc {n:Nat} {v:CW}:scB n (caL v):=scB.cons (sc_clo (fl_cl cB)) (scB.cons (sc_clo (fl_cl cL)) (scB.cons (sc_clo (fl_cl cU)) (scB.cons (sc_clo (fl_cl cS)) (scB.cons (sc_clo (fl_cl cT)) (scB.cons (sc_clo (fl_cl cO)) scB.nil)))))
theorem caL_cl {v:CW}:ClB [true,true,true,true,true,true] (caL v):=ClB.cons (fun _=>List.all_eq_true.2 (fl_cl cB)) (ClB.cons (fun _=>List.all_eq_true.2 (fl_cl cL)) (ClB.cons (fun _=>List.all_eq_true.2 (fl_cl cU)) (ClB.cons (fun _=>List.all_eq_true.2 (fl_cl cS)) (ClB.cons (fun _=>List.all_eq_true.2 (fl_cl cT)) (ClB.cons (fun _=>List.all_eq_true.2 (fl_cl cO)) ClB.nil)))))
abbrev shB (w:CW):BL:=[(59,3,fl BusM.C bus0 w.B),(71,12,fl LineM.C line0 w.L),(42,22,fl UnitM.C unit0 w.U),(75,9,fl StoreM.C store0 w.S),(77,5,fl TieM.C tie0 w.T),(47,4,fl OutM.C out0 w.O),(30,0,caA w 0 1 2 3 4 5),(30,0,zCs)]
theorem shB_sc {w:CW}:scB 8 (shB w):=scB.cons (sc_clo (fl_cl cB)) (scB.cons (sc_clo (fl_cl cL)) (scB.cons (sc_clo (fl_cl cU)) (scB.cons (sc_clo (fl_cl cS)) (scB.cons (sc_clo (fl_cl cT)) (scB.cons (sc_clo (fl_cl cO)) (scB.cons rfl (scB.cons rfl scB.nil)))))))
def BusM.cut (x:BusM) (h:Nat):BusM:=⟨x.name,⟨x.demand.A,x.demand.c,x.demand.l.take h⟩,x.shed⟩
def TieM.cut (x:TieM) (h:Nat):TieM:=⟨x.name,x.bus,⟨x.imp.A,x.imp.c,x.imp.l.take h⟩,⟨x.exp.A,x.exp.c,x.exp.l.take h⟩,⟨x.price.A,x.price.c,x.price.l.take h⟩⟩
def LineM.aw (x:LineM) (r:Sl Int):LineM:=⟨x.name,x.fro,x.to,x.rea,x.smin,x.smax,x.lim,x.eme,r⟩
def UnitM.aw (x:UnitM) (r:Sl Int):UnitM:=⟨x.name,x.bus,x.min,x.max,x.segs,x.noLoad,x.rampUp,x.rampDown,x.startRamp,x.stopRamp,x.upTime,x.downTime,x.startTime,x.hotCost,x.coldCost,x.hotHours,x.reserve,x.reservePrice,r,x.state,x.hours,x.output⟩
theorem lineAw (x:LineM) (r:Sl Int):(x.aw r).C=x.C.set 11 (intsR r):=rfl
theorem unitAw (x:UnitM) (r:Sl Int):(x.aw r).C=x.C.set 18 (intsR r):=rfl
theorem fl_ix0 {α:Type} {f:α→List CV} {d:α} {L:List α} {e:Nat} (hf:∀x,(f x).length=e) {i:Nat} (hi:i<L.length) (he:0<e):i*e<(fl f d L).length:=by
 have:=fl_ix (f:=f) (d:=d) hf (o:=0) hi he
 omega
theorem tie_set {T:List TieM} {i:Nat} (hi:i<T.length) (a b c:Sl Int):fl TieM.C tie0 (T.set i ⟨(T.getD i tie0).name,(T.getD i tie0).bus,a,b,c⟩)=(((fl TieM.C tie0 T).set (i*5+2) (intsR a)).set (i*5+3) (intsR b)).set (i*5+4) (intsR c):=by
 have h1:=fl_set (f:=TieM.C) (d:=tie0) (e:=5) (fun _=>rfl) (o:=2) (c:=intsR a) (x:=⟨(T.getD i tie0).name,(T.getD i tie0).bus,a,(T.getD i tie0).exp,(T.getD i tie0).price⟩) hi dC rfl
 have g1:∀x:TieM,(T.set i x).getD i tie0=x:=fun x=>by simp[List.getD,hi]
 have h2:=fl_set (f:=TieM.C) (d:=tie0) (e:=5) (L:=T.set i ⟨(T.getD i tie0).name,(T.getD i tie0).bus,a,(T.getD i tie0).exp,(T.getD i tie0).price⟩) (fun _=>rfl) (i:=i) (o:=3) (c:=intsR b) (x:=⟨(T.getD i tie0).name,(T.getD i tie0).bus,a,b,(T.getD i tie0).price⟩) (by rw[List.length_set];exact hi) dC (by rw[g1];rfl)
 have h3:=fl_set (f:=TieM.C) (d:=tie0) (e:=5) (L:=T.set i ⟨(T.getD i tie0).name,(T.getD i tie0).bus,a,b,(T.getD i tie0).price⟩) (fun _=>rfl) (i:=i) (o:=4) (c:=intsR c) (x:=⟨(T.getD i tie0).name,(T.getD i tie0).bus,a,b,c⟩) (by rw[List.length_set];exact hi) dC (by rw[g1];rfl)
 rw[List.set_set] at h2 h3
 rw[h3,h2,h1]
abbrev fShorter:FuncId:=12
theorem eShorter:Ent Tryz.prog fShorter:=Ent.of func12 rfl kR
theorem bShorter:Tryz.prog.funcs[fShorter]? =some Tryz.f12:=func12
def oS11:Ord:=.joinX [] [2000,2001,2002,2003,2004,2005,2007,8,2010,2011,2012,2014,15,2017,2018,2019,2021,22] (.alt 6 (.alt 2009 (.alt 13 (.alt 2016 (.alt 20 (.alt 2023 (.alt 2024 (.alt 2025 (.alt 26 (.alt 2027 (.alt 2028 (.alt 29 (.alt 2030 (.alt 2031 (.alt 1032 .nil .nil) .nil) .nil) .nil) .nil) .nil) .nil) .nil) .nil) .nil) .nil) .nil) (.alt 20 (.alt 2023 (.alt 13 (.alt 2016 (.alt 2024 (.alt 2025 (.alt 26 (.alt 2027 (.alt 2028 (.alt 29 (.alt 2030 (.alt 2031 (.alt 1032 .nil .nil) .nil) .nil) .nil) .nil) .nil) .nil) .nil) .nil) .nil) .nil) .nil) .nil)) .nil) (.alt 13 (.alt 2016 (.alt 6 (.alt 2009 (.alt 20 (.alt 2023 (.alt 2024 (.alt 2025 (.alt 26 (.alt 2027 (.alt 2028 (.alt 29 (.alt 2030 (.alt 2031 (.alt 1032 .nil .nil) .nil) .nil) .nil) .nil) .nil) .nil) .nil) .nil) .nil) .nil) .nil) (.alt 20 (.alt 2023 (.alt 6 (.alt 2009 (.alt 2024 (.alt 2025 (.alt 26 (.alt 2027 (.alt 2028 (.alt 29 (.alt 2030 (.alt 2031 (.alt 1032 .nil .nil) .nil) .nil) .nil) .nil) .nil) .nil) .nil) .nil) .nil) .nil) .nil) .nil)) .nil) (.alt 20 (.alt 2023 (.alt 6 (.alt 2009 (.alt 13 (.alt 2016 (.alt 2024 (.alt 2025 (.alt 26 (.alt 2027 (.alt 2028 (.alt 29 (.alt 2030 (.alt 2031 (.alt 1032 .nil .nil) .nil) .nil) .nil) .nil) .nil) .nil) .nil) .nil) .nil) .nil) .nil) (.alt 13 (.alt 2016 (.alt 6 (.alt 2009 (.alt 2024 (.alt 2025 (.alt 26 (.alt 2027 (.alt 2028 (.alt 29 (.alt 2030 (.alt 2031 (.alt 1032 .nil .nil) .nil) .nil) .nil) .nil) .nil) .nil) .nil) .nil) .nil) .nil) .nil) .nil)) .nil) .nil)))
def oS15:Ord:=.treeX [] [2000,1,2002,2003,4,2005,2009,10] (trS [2006,2007,8,11,2012,2013,1014])
theorem shorter_c (w:CW) (hI:IwM w) (h2:2<w.h):Ctr Tryz.prog fShorter [true,true,true,true,true,true] [.a (caA w 0 1 2 3 4 5)] (caL w) (fun v:CW=>⟨.a (caA v 0 1 2 3 4 5),caL v,IwM v∧v.h+1=w.h⟩):=by
 obtain⟨hh,hr,hb,hbn,hl,hln,hu,hun,hsn,ht,htn,ho,hon⟩:=hI
 obtain⟨h1,R,B,L,U,S,T,O⟩:=w
 obtain⟨h,rfl⟩:∃h,h1=h+1:=⟨h1-1,by replace h2:2<h1:=h2;omega⟩
 replace hh:0<h+1∧h+1≤3:=hh
 replace h2:2<h+1:=h2
 replace hr:R.l.length=h+1:=hr
 replace hb:∀x∈B,x.demand.l.length=h+1:=hb
 replace ht:∀x∈T,x.imp.l.length=h+1∧x.exp.l.length=h+1∧x.price.l.length=h+1:=ht
 replace hl:∀x∈L,x.away.l.length≤1:=hl
 replace hu:∀x∈U,x.away.l.length≤1∧x.segs.l.length≤2:=hu
 refine ctr_of gT eShorter bShorter rfl rfl rfl bL caL_cl (Sd.sq (VC_ok gT mxd (Sd.sq (VC_ok gT mxd ⟨(h:Int),wj (by show(h:Int)=((h+1:Nat):Int)-1;omega),Sd.sq (VC_ok gT mxd ⟨h,⟨rfl,by show h≤R.l.length;omega⟩,?_⟩)⟩))))
 obtain⟨R2,hR2⟩:∃R2:Sl Int,R2=⟨R.A,R.c,R.l.take h⟩:=⟨_,rfl⟩
 refine gcells tSd 6 [iC (h:Nat),intsR R2,.s 0 B.length,.s 1 L.length,.s 2 U.length,.s 3 S.length,.s 4 T.length,.s 5 O.length] rfl rfl (leSet (k:=1) rfl (by rw[hR2];exact leCut (s:=R) oM)) (Sd.sq (VC_ok gT mxd ?_))
 have hR3:R2.l.length=h:=by rw[hR2];show(R.l.take h).length=h;rw[List.length_take];omega
 clear hR2 hr
 refine vloopG (rn [(3,3),(18,38)]) (fun(g:Nat×List BusM)=>[(3,.c (iC g.1))]) (fun(g:Nat×List BusM)=>shB ⟨h,R2,g.2,L,U,S,T,O⟩) (fun _=>[]) (fun g=>pI bus0 (fun x:BusM=>x.demand.l.length=h) (fun x:BusM=>x.demand.l.length=h+1) B.length g.1 g.2) (fun g=>B.length-g.1) fun hM=>⟨gfin hM (chg:=fun(g:Nat×List BusM)=>[(3,.c (iC g.1))]) (bls:=fun(g:Nat×List BusM)=>shB ⟨h,R2,g.2,L,U,S,T,O⟩) (fls:=fun _=>[]) (0,B) (pI_0 hb) rfl ⟨rfl,rfl,rfl,rfl,rfl,rfl,rfl,rfl⟩ trivial rfl bL shB_sc rfl,fun⟨i,X⟩ hI=>VC_ok gT mxd ⟨fun h6=>VC_ok gT mxd ?_,fun h6=>VC_ok gT mxd ?_⟩⟩
 ·have hX:i<X.length:=by replace h6:(i:Int)<(X.length:Nat):=h6;omega
  have hi:i<B.length:=by rw[←hI.2.1];exact hX
  have hq:(X.getD i bus0).demand.l.length=h+1:=hI.2.2.2 i (Nat.le_refl i) hi
  exact⟨.seq (sq 14 (List.range 15)),by kernel_rfl,i,⟨rfl,hX,fl_ix0 (f:=BusM.C) (d:=bus0) (e:=3) (fun _=>rfl) hX dC⟩,intsR (X.getD i bus0).demand,fl_get (f:=BusM.C) (d:=bus0) (e:=3) (fun _=>rfl) (o:=1) hX dC,h,⟨rfl,by show h≤(X.getD i bus0).demand.l.length;omega⟩,i,⟨rfl,hX,fl_ix0 (f:=BusM.C) (d:=bus0) (e:=3) (fun _=>rfl) hX dC⟩,_,fl_put (f:=BusM.C) (d:=bus0) (L:=X) (e:=3) (fun _=>rfl) (o:=1) hX dC,(i+1:Nat),wi,gcells tGt 0 (fl BusM.C bus0 (X.set i ((X.getD i bus0).cut h))) rfl (putL (f:=BusM.C) (d:=bus0) (e:=3) fun _=>rfl) (put_le (f:=BusM.C) (d:=bus0) (L:=X) (e:=3) (o:=1) (fun _=>rfl) hX dC rfl (leCut (s:=(X.getD i bus0).demand) oM)) (gfin hM (chg:=fun(g:Nat×List BusM)=>[(3,.c (iC g.1))]) (bls:=fun(g:Nat×List BusM)=>shB ⟨h,R2,g.2,L,U,S,T,O⟩) (fls:=fun _=>[]) (i+1,X.set i ((X.getD i bus0).cut h)) ⟨pI_next hI hi (show(List.take h _).length=h by rw[List.length_take];omega),show B.length-(i+1)<B.length-i by omega⟩ rfl ⟨rfl,rfl,rfl,rfl,rfl,rfl,(by show(_,_,_)=(_,_,[_,_,CV.s 0 (X.set i ((X.getD i bus0).cut h)).length,_,_,_,_,_]);rw[List.length_set]),rfl⟩ trivial rfl bL shB_sc rfl)⟩
 have hb2:=pI_end (show pI bus0 (fun x:BusM=>x.demand.l.length=h) (fun x:BusM=>x.demand.l.length=h+1) B.length i X from hI) (by replace h6:¬(i:Int)<(X.length:Nat):=h6;have:=hI.2.1;replace this:X.length=B.length:=this;omega)
 have hb3:X.length=B.length:=hI.2.1
 clear h6 hI hM hb
 obtain⟨B2,rfl⟩:∃B2,B2=X:=⟨_,rfl⟩
 refine Sd.sq (VC_ok gT mxd (vloopG (rn [(4,5),(39,79)]) (fun(g:Nat×List TieM)=>[(4,.c (iC g.1))]) (fun(g:Nat×List TieM)=>shB ⟨h,R2,B2,L,U,S,g.2,O⟩) (fun _=>[]) (fun g=>pI tie0 (fun x:TieM=>x.imp.l.length=h∧x.exp.l.length=h∧x.price.l.length=h) (fun x:TieM=>x.imp.l.length=h+1∧x.exp.l.length=h+1∧x.price.l.length=h+1) T.length g.1 g.2) (fun g=>T.length-g.1) fun hM=>⟨gfin hM (chg:=fun(g:Nat×List TieM)=>[(4,.c (iC g.1))]) (bls:=fun(g:Nat×List TieM)=>shB ⟨h,R2,B2,L,U,S,g.2,O⟩) (fls:=fun _=>[]) (0,T) (pI_0 ht) rfl ⟨rfl,rfl,rfl,rfl,rfl,rfl,rfl,rfl⟩ trivial rfl bL shB_sc rfl,fun⟨i,X⟩ hI=>VC_ok gT mxd ⟨fun h6=>VC_ok gT mxd ?_,fun h6=>VC_ok gT mxd ?_⟩⟩))
 ·have hX:i<X.length:=by replace h6:(i:Int)<(X.length:Nat):=h6;omega
  have hi:i<T.length:=by rw[←hI.2.1];exact hX
  obtain⟨hq1,hq2,hq3⟩:h≤(X.getD i tie0).imp.l.length∧h≤(X.getD i tie0).exp.l.length∧h≤(X.getD i tie0).price.l.length:=by have:=hI.2.2.2 i (Nat.le_refl i) hi;replace this:(X.getD i tie0).imp.l.length=h+1∧(X.getD i tie0).exp.l.length=h+1∧(X.getD i tie0).price.l.length=h+1:=this;omega
  exact⟨i,⟨rfl,hX,fl_ix0 (f:=TieM.C) (d:=tie0) (e:=5) (fun _=>rfl) hX dC⟩,oS11,by kernel_rfl,_,_,fun _=>True,⟨⟨intsR (X.getD i tie0).imp,fl_get (f:=TieM.C) (d:=tie0) (e:=5) (fun _=>rfl) (o:=2) hX dC,rfl,⟨h,⟨rfl,hq1⟩,⟨⟨intsR (X.getD i tie0).exp,fl_get (f:=TieM.C) (d:=tie0) (e:=5) (fun _=>rfl) (o:=3) hX dC,rfl,⟨h,⟨rfl,hq2⟩,⟨intsR (X.getD i tie0).price,fl_get (f:=TieM.C) (d:=tie0) (e:=5) (fun _=>rfl) (o:=4) hX dC,rfl,⟨h,⟨rfl,hq3⟩,⟨_,spl1 (fl_ix (f:=TieM.C) (d:=tie0) (e:=5) (L:=X) (fun _=>rfl) (o:=2) hX dC),rfl,⟨_,spl1 (by rw[List.length_set];exact fl_ix (f:=TieM.C) (d:=tie0) (e:=5) (L:=X) (fun _=>rfl) (o:=3) hX dC),rfl,⟨_,spl1 (by rw[List.length_set];rw[List.length_set];exact fl_ix (f:=TieM.C) (d:=tie0) (e:=5) (L:=X) (fun _=>rfl) (o:=4) hX dC),gcells tGt 4 (fl TieM.C tie0 (X.set i ((X.getD i tie0).cut h))) rfl (by unfold TieM.cut;rw[tie_set hX];simp) (by unfold TieM.cut;rw[tie_set hX];exact(((LeL.refl _).set (leCut (s:=(X.getD i tie0).imp) hq1)).set (leCut (s:=(X.getD i tie0).exp) hq2)).set (leCut (s:=(X.getD i tie0).price) hq3)) (gfin hM (chg:=fun(_:Unit)=>[(4,.c (iC i))]) (bls:=fun(_:Unit)=>shB ⟨h,R2,B2,L,U,S,(X.set i ((X.getD i tie0).cut h)),O⟩) (fls:=fun _=>[]) () trivial rfl ⟨rfl,rfl,rfl,rfl,rfl,rfl,(by show(_,_,_)=(_,_,[_,_,_,_,_,_,CV.s 4 (X.set i ((X.getD i tie0).cut h)).length,_]);rw[List.length_set]),rfl⟩ trivial rfl bL shB_sc rfl)⟩⟩⟩⟩⟩⟩⟩,⟨intsR (X.getD i tie0).price,fl_get (f:=TieM.C) (d:=tie0) (e:=5) (fun _=>rfl) (o:=4) hX dC,rfl,⟨h,⟨rfl,hq3⟩,⟨intsR (X.getD i tie0).exp,fl_get (f:=TieM.C) (d:=tie0) (e:=5) (fun _=>rfl) (o:=3) hX dC,rfl,⟨h,⟨rfl,hq2⟩,⟨_,spl1 (fl_ix (f:=TieM.C) (d:=tie0) (e:=5) (L:=X) (fun _=>rfl) (o:=2) hX dC),rfl,⟨_,spl1 (by rw[List.length_set];exact fl_ix (f:=TieM.C) (d:=tie0) (e:=5) (L:=X) (fun _=>rfl) (o:=3) hX dC),rfl,⟨_,spl1 (by rw[List.length_set];rw[List.length_set];exact fl_ix (f:=TieM.C) (d:=tie0) (e:=5) (L:=X) (fun _=>rfl) (o:=4) hX dC),gcells tGt 4 (fl TieM.C tie0 (X.set i ((X.getD i tie0).cut h))) rfl (by unfold TieM.cut;rw[tie_set hX];simp) (by unfold TieM.cut;rw[tie_set hX];exact(((LeL.refl _).set (leCut (s:=(X.getD i tie0).imp) hq1)).set (leCut (s:=(X.getD i tie0).exp) hq2)).set (leCut (s:=(X.getD i tie0).price) hq3)) (gfin hM (chg:=fun(_:Unit)=>[(4,.c (iC i))]) (bls:=fun(_:Unit)=>shB ⟨h,R2,B2,L,U,S,(X.set i ((X.getD i tie0).cut h)),O⟩) (fls:=fun _=>[]) () trivial rfl ⟨rfl,rfl,rfl,rfl,rfl,rfl,(by show(_,_,_)=(_,_,[_,_,_,_,_,_,CV.s 4 (X.set i ((X.getD i tie0).cut h)).length,_]);rw[List.length_set]),rfl⟩ trivial rfl bL shB_sc rfl)⟩⟩⟩⟩⟩⟩⟩⟩⟩⟩,⟨intsR (X.getD i tie0).exp,fl_get (f:=TieM.C) (d:=tie0) (e:=5) (fun _=>rfl) (o:=3) hX dC,rfl,⟨h,⟨rfl,hq2⟩,⟨⟨intsR (X.getD i tie0).imp,fl_get (f:=TieM.C) (d:=tie0) (e:=5) (fun _=>rfl) (o:=2) hX dC,rfl,⟨h,⟨rfl,hq1⟩,⟨intsR (X.getD i tie0).price,fl_get (f:=TieM.C) (d:=tie0) (e:=5) (fun _=>rfl) (o:=4) hX dC,rfl,⟨h,⟨rfl,hq3⟩,⟨_,spl1 (fl_ix (f:=TieM.C) (d:=tie0) (e:=5) (L:=X) (fun _=>rfl) (o:=2) hX dC),rfl,⟨_,spl1 (by rw[List.length_set];exact fl_ix (f:=TieM.C) (d:=tie0) (e:=5) (L:=X) (fun _=>rfl) (o:=3) hX dC),rfl,⟨_,spl1 (by rw[List.length_set];rw[List.length_set];exact fl_ix (f:=TieM.C) (d:=tie0) (e:=5) (L:=X) (fun _=>rfl) (o:=4) hX dC),gcells tGt 4 (fl TieM.C tie0 (X.set i ((X.getD i tie0).cut h))) rfl (by unfold TieM.cut;rw[tie_set hX];simp) (by unfold TieM.cut;rw[tie_set hX];exact(((LeL.refl _).set (leCut (s:=(X.getD i tie0).imp) hq1)).set (leCut (s:=(X.getD i tie0).exp) hq2)).set (leCut (s:=(X.getD i tie0).price) hq3)) (gfin hM (chg:=fun(_:Unit)=>[(4,.c (iC i))]) (bls:=fun(_:Unit)=>shB ⟨h,R2,B2,L,U,S,(X.set i ((X.getD i tie0).cut h)),O⟩) (fls:=fun _=>[]) () trivial rfl ⟨rfl,rfl,rfl,rfl,rfl,rfl,(by show(_,_,_)=(_,_,[_,_,_,_,_,_,CV.s 4 (X.set i ((X.getD i tie0).cut h)).length,_]);rw[List.length_set]),rfl⟩ trivial rfl bL shB_sc rfl)⟩⟩⟩⟩⟩⟩⟩,⟨intsR (X.getD i tie0).price,fl_get (f:=TieM.C) (d:=tie0) (e:=5) (fun _=>rfl) (o:=4) hX dC,rfl,⟨h,⟨rfl,hq3⟩,⟨intsR (X.getD i tie0).imp,fl_get (f:=TieM.C) (d:=tie0) (e:=5) (fun _=>rfl) (o:=2) hX dC,rfl,⟨h,⟨rfl,hq1⟩,⟨_,spl1 (fl_ix (f:=TieM.C) (d:=tie0) (e:=5) (L:=X) (fun _=>rfl) (o:=2) hX dC),rfl,⟨_,spl1 (by rw[List.length_set];exact fl_ix (f:=TieM.C) (d:=tie0) (e:=5) (L:=X) (fun _=>rfl) (o:=3) hX dC),rfl,⟨_,spl1 (by rw[List.length_set];rw[List.length_set];exact fl_ix (f:=TieM.C) (d:=tie0) (e:=5) (L:=X) (fun _=>rfl) (o:=4) hX dC),gcells tGt 4 (fl TieM.C tie0 (X.set i ((X.getD i tie0).cut h))) rfl (by unfold TieM.cut;rw[tie_set hX];simp) (by unfold TieM.cut;rw[tie_set hX];exact(((LeL.refl _).set (leCut (s:=(X.getD i tie0).imp) hq1)).set (leCut (s:=(X.getD i tie0).exp) hq2)).set (leCut (s:=(X.getD i tie0).price) hq3)) (gfin hM (chg:=fun(_:Unit)=>[(4,.c (iC i))]) (bls:=fun(_:Unit)=>shB ⟨h,R2,B2,L,U,S,(X.set i ((X.getD i tie0).cut h)),O⟩) (fls:=fun _=>[]) () trivial rfl ⟨rfl,rfl,rfl,rfl,rfl,rfl,(by show(_,_,_)=(_,_,[_,_,_,_,_,_,CV.s 4 (X.set i ((X.getD i tie0).cut h)).length,_]);rw[List.length_set]),rfl⟩ trivial rfl bL shB_sc rfl)⟩⟩⟩⟩⟩⟩⟩⟩⟩⟩,⟨intsR (X.getD i tie0).price,fl_get (f:=TieM.C) (d:=tie0) (e:=5) (fun _=>rfl) (o:=4) hX dC,rfl,⟨h,⟨rfl,hq3⟩,⟨⟨intsR (X.getD i tie0).imp,fl_get (f:=TieM.C) (d:=tie0) (e:=5) (fun _=>rfl) (o:=2) hX dC,rfl,⟨h,⟨rfl,hq1⟩,⟨intsR (X.getD i tie0).exp,fl_get (f:=TieM.C) (d:=tie0) (e:=5) (fun _=>rfl) (o:=3) hX dC,rfl,⟨h,⟨rfl,hq2⟩,⟨_,spl1 (fl_ix (f:=TieM.C) (d:=tie0) (e:=5) (L:=X) (fun _=>rfl) (o:=2) hX dC),rfl,⟨_,spl1 (by rw[List.length_set];exact fl_ix (f:=TieM.C) (d:=tie0) (e:=5) (L:=X) (fun _=>rfl) (o:=3) hX dC),rfl,⟨_,spl1 (by rw[List.length_set];rw[List.length_set];exact fl_ix (f:=TieM.C) (d:=tie0) (e:=5) (L:=X) (fun _=>rfl) (o:=4) hX dC),gcells tGt 4 (fl TieM.C tie0 (X.set i ((X.getD i tie0).cut h))) rfl (by unfold TieM.cut;rw[tie_set hX];simp) (by unfold TieM.cut;rw[tie_set hX];exact(((LeL.refl _).set (leCut (s:=(X.getD i tie0).imp) hq1)).set (leCut (s:=(X.getD i tie0).exp) hq2)).set (leCut (s:=(X.getD i tie0).price) hq3)) (gfin hM (chg:=fun(_:Unit)=>[(4,.c (iC i))]) (bls:=fun(_:Unit)=>shB ⟨h,R2,B2,L,U,S,(X.set i ((X.getD i tie0).cut h)),O⟩) (fls:=fun _=>[]) () trivial rfl ⟨rfl,rfl,rfl,rfl,rfl,rfl,(by show(_,_,_)=(_,_,[_,_,_,_,_,_,CV.s 4 (X.set i ((X.getD i tie0).cut h)).length,_]);rw[List.length_set]),rfl⟩ trivial rfl bL shB_sc rfl)⟩⟩⟩⟩⟩⟩⟩,⟨intsR (X.getD i tie0).exp,fl_get (f:=TieM.C) (d:=tie0) (e:=5) (fun _=>rfl) (o:=3) hX dC,rfl,⟨h,⟨rfl,hq2⟩,⟨intsR (X.getD i tie0).imp,fl_get (f:=TieM.C) (d:=tie0) (e:=5) (fun _=>rfl) (o:=2) hX dC,rfl,⟨h,⟨rfl,hq1⟩,⟨_,spl1 (fl_ix (f:=TieM.C) (d:=tie0) (e:=5) (L:=X) (fun _=>rfl) (o:=2) hX dC),rfl,⟨_,spl1 (by rw[List.length_set];exact fl_ix (f:=TieM.C) (d:=tie0) (e:=5) (L:=X) (fun _=>rfl) (o:=3) hX dC),rfl,⟨_,spl1 (by rw[List.length_set];rw[List.length_set];exact fl_ix (f:=TieM.C) (d:=tie0) (e:=5) (L:=X) (fun _=>rfl) (o:=4) hX dC),gcells tGt 4 (fl TieM.C tie0 (X.set i ((X.getD i tie0).cut h))) rfl (by unfold TieM.cut;rw[tie_set hX];simp) (by unfold TieM.cut;rw[tie_set hX];exact(((LeL.refl _).set (leCut (s:=(X.getD i tie0).imp) hq1)).set (leCut (s:=(X.getD i tie0).exp) hq2)).set (leCut (s:=(X.getD i tie0).price) hq3)) (gfin hM (chg:=fun(_:Unit)=>[(4,.c (iC i))]) (bls:=fun(_:Unit)=>shB ⟨h,R2,B2,L,U,S,(X.set i ((X.getD i tie0).cut h)),O⟩) (fls:=fun _=>[]) () trivial rfl ⟨rfl,rfl,rfl,rfl,rfl,rfl,(by show(_,_,_)=(_,_,[_,_,_,_,_,_,CV.s 4 (X.set i ((X.getD i tie0).cut h)).length,_]);rw[List.length_set]),rfl⟩ trivial rfl bL shB_sc rfl)⟩⟩⟩⟩⟩⟩⟩⟩⟩⟩⟩,fun _ _=>⟨(i+1:Nat),wi,gfin hM (chg:=fun(g:Nat×List TieM)=>[(4,.c (iC g.1))]) (bls:=fun(g:Nat×List TieM)=>shB ⟨h,R2,B2,L,U,S,g.2,O⟩) (fls:=fun _=>[]) (i+1,X.set i ((X.getD i tie0).cut h)) ⟨pI_next hI hi ⟨show(List.take h _).length=h by rw[List.length_take];omega,show(List.take h _).length=h by rw[List.length_take];omega,show(List.take h _).length=h by rw[List.length_take];omega⟩,show T.length-(i+1)<T.length-i by omega⟩ rfl ⟨rfl,rfl,rfl,rfl,rfl,rfl,rfl,rfl⟩ trivial rfl bL shB_sc rfl⟩⟩
 have ht2:=pI_end (show pI tie0 (fun x:TieM=>x.imp.l.length=h∧x.exp.l.length=h∧x.price.l.length=h) (fun x:TieM=>x.imp.l.length=h+1∧x.exp.l.length=h+1∧x.price.l.length=h+1) T.length i X from hI) (by replace h6:¬(i:Int)<(X.length:Nat):=h6;have:=hI.2.1;replace this:X.length=T.length:=this;omega)
 have ht3:X.length=T.length:=hI.2.1
 clear h6 hI hM ht
 obtain⟨T2,rfl⟩:∃T2,T2=X:=⟨_,rfl⟩
 refine Sd.sq (VC_ok gT mxd (vloopG (rn [(6,6),(80,100)]) (fun(g:Nat×List LineM)=>[(6,.c (iC g.1))]) (fun(g:Nat×List LineM)=>shB ⟨h,R2,B2,g.2,U,S,T2,O⟩) (fun _=>[]) (fun g=>pI line0 (fun x:LineM=>x.away.l.length≤1) (fun x:LineM=>x.away.l.length≤1) L.length g.1 g.2) (fun g=>L.length-g.1) fun hM=>⟨gfin hM (chg:=fun(g:Nat×List LineM)=>[(6,.c (iC g.1))]) (bls:=fun(g:Nat×List LineM)=>shB ⟨h,R2,B2,g.2,U,S,T2,O⟩) (fls:=fun _=>[]) (0,L) (pI_0 hl) rfl ⟨rfl,rfl,rfl,rfl,rfl,rfl,rfl,rfl⟩ trivial rfl bL shB_sc rfl,fun⟨i,X⟩ hI=>VC_ok gT mxd ⟨fun h6=>VC_ok gT mxd ?_,fun h6=>VC_ok gT mxd ?_⟩⟩))
 ·have hX:i<X.length:=by replace h6:(i:Int)<(X.length:Nat):=h6;omega
  have hi:i<L.length:=by rw[←hI.2.1];exact hX
  have hq:=hI.2.2.2 i (Nat.le_refl i) hi
  replace hq:(X.getD i line0).away.l.length≤1:=hq
  exact⟨oS15,by kernel_rfl,i,⟨rfl,hX,fl_ix0 (f:=LineM.C) (d:=line0) (e:=12) (fun _=>rfl) hX dC⟩,intsR (X.getD i line0).away,fl_get (f:=LineM.C) (d:=line0) (e:=12) (fun _=>rfl) (o:=11) hX dC,rfl,[],below_c (X.getD i line0).away h oM,rfl,rfl,rfl,fun r hr=>⟨rfl,i,⟨rfl,hX,fl_ix0 (f:=LineM.C) (d:=line0) (e:=12) (fun _=>rfl) hX dC⟩,fl LineM.C line0 (X.set i ((X.getD i line0).aw r)),fl_put' (f:=LineM.C) (d:=line0) (e:=12) (fun _=>rfl) (o:=11) hX dC (lineAw _ _),(i+1:Nat),wi,gfin hM (chg:=fun(g:Nat×List LineM)=>[(6,.c (iC g.1))]) (bls:=fun(g:Nat×List LineM)=>shB ⟨h,R2,B2,g.2,U,S,T2,O⟩) (fls:=fun _=>[]) (i+1,X.set i ((X.getD i line0).aw r)) ⟨pI_next hI hi (Nat.le_trans hr hq),show L.length-(i+1)<L.length-i by omega⟩ rfl ⟨rfl,rfl,rfl,rfl,rfl,rfl,(by show(_,_,_)=(_,_,[_,_,_,CV.s 1 (X.set i ((X.getD i line0).aw r)).length,_,_,_,_]);rw[List.length_set]),rfl⟩ trivial rfl bL shB_sc rfl⟩⟩
 have hl2:=pI_end (show pI line0 (fun x:LineM=>x.away.l.length≤1) (fun x:LineM=>x.away.l.length≤1) L.length i X from hI) (by replace h6:¬(i:Int)<(X.length:Nat):=h6;have:=hI.2.1;replace this:X.length=L.length:=this;omega)
 have hl3:X.length=L.length:=hI.2.1
 clear h6 hI hM hl
 obtain⟨L2,rfl⟩:∃L2,L2=X:=⟨_,rfl⟩
 refine Sd.sq (VC_ok gT mxd (vloopG (rn [(7,7),(101,121)]) (fun(g:Nat×List UnitM)=>[(7,.c (iC g.1))]) (fun(g:Nat×List UnitM)=>shB ⟨h,R2,B2,L2,g.2,S,T2,O⟩) (fun _=>[]) (fun g=>pI unit0 (fun x:UnitM=>x.away.l.length≤1∧x.segs.l.length≤2) (fun x:UnitM=>x.away.l.length≤1∧x.segs.l.length≤2) U.length g.1 g.2) (fun g=>U.length-g.1) fun hM=>⟨gfin hM (chg:=fun(g:Nat×List UnitM)=>[(7,.c (iC g.1))]) (bls:=fun(g:Nat×List UnitM)=>shB ⟨h,R2,B2,L2,g.2,S,T2,O⟩) (fls:=fun _=>[]) (0,U) (pI_0 hu) rfl ⟨rfl,rfl,rfl,rfl,rfl,rfl,rfl,rfl⟩ trivial rfl bL shB_sc rfl,fun⟨i,X⟩ hI=>VC_ok gT mxd ⟨fun h6=>VC_ok gT mxd ?_,fun h6=>VC_ok gT mxd ?_⟩⟩))
 ·have hX:i<X.length:=by replace h6:(i:Int)<(X.length:Nat):=h6;omega
  have hi:i<U.length:=by rw[←hI.2.1];exact hX
  have hq:=hI.2.2.2 i (Nat.le_refl i) hi
  replace hq:(X.getD i unit0).away.l.length≤1∧(X.getD i unit0).segs.l.length≤2:=hq
  exact⟨oS15,by kernel_rfl,i,⟨rfl,hX,fl_ix0 (f:=UnitM.C) (d:=unit0) (e:=22) (fun _=>rfl) hX dC⟩,intsR (X.getD i unit0).away,fl_get (f:=UnitM.C) (d:=unit0) (e:=22) (fun _=>rfl) (o:=18) hX dC,rfl,[],below_c (X.getD i unit0).away h oM,rfl,rfl,rfl,fun r hr=>⟨rfl,i,⟨rfl,hX,fl_ix0 (f:=UnitM.C) (d:=unit0) (e:=22) (fun _=>rfl) hX dC⟩,fl UnitM.C unit0 (X.set i ((X.getD i unit0).aw r)),fl_put' (f:=UnitM.C) (d:=unit0) (e:=22) (fun _=>rfl) (o:=18) hX dC (unitAw _ _),(i+1:Nat),wi,gfin hM (chg:=fun(g:Nat×List UnitM)=>[(7,.c (iC g.1))]) (bls:=fun(g:Nat×List UnitM)=>shB ⟨h,R2,B2,L2,g.2,S,T2,O⟩) (fls:=fun _=>[]) (i+1,X.set i ((X.getD i unit0).aw r)) ⟨pI_next hI hi ⟨Nat.le_trans hr hq.1,hq.2⟩,show U.length-(i+1)<U.length-i by omega⟩ rfl ⟨rfl,rfl,rfl,rfl,rfl,rfl,(by show(_,_,_)=(_,_,[_,_,_,_,CV.s 2 (X.set i ((X.getD i unit0).aw r)).length,_,_,_]);rw[List.length_set]),rfl⟩ trivial rfl bL shB_sc rfl⟩⟩
 have hu2:=pI_end (show pI unit0 (fun x:UnitM=>x.away.l.length≤1∧x.segs.l.length≤2) (fun x:UnitM=>x.away.l.length≤1∧x.segs.l.length≤2) U.length i X from hI) (by replace h6:¬(i:Int)<(X.length:Nat):=h6;have:=hI.2.1;replace this:X.length=U.length:=this;omega)
 have hu3:X.length=U.length:=hI.2.1
 clear h6 hI hM hu
 obtain⟨U2,rfl⟩:∃U2,U2=X:=⟨_,rfl⟩
 exact VC_ok gT mxd ⟨⟨h,R2,B2,L2,U2,S,T2,O⟩,⟨⟨⟨by show 0<h;omega,by show h≤3;omega⟩,hR3,hb2,by rw[←hb3] at hbn;exact hbn,hl2,by rw[←hl3] at hln;exact hln,hu2,by rw[←hu3] at hun;exact hun,hsn,ht2,by rw[←ht3] at htn;exact htn,ho,hon⟩,rfl⟩,fin_own rfl ⟨rfl,rfl,rfl,rfl,rfl,rfl⟩ bL caL_sc rfl caL_cl⟩
end Go.Proofs.YtandhgfmfpmemaaGreat
namespace Go.Proofs.YtandhgfmfpmemaaGreat
open Go.Vg _root_.Go.Proofs.Tryz
open Go.Vm hiding sg sg_t sg_f sg_abs sg_neg sg_add sg_mul sg_self sg_canon sg_pos sg_zero sg_eq_zero sg_lt
open Go.Vy hiding val
set_option maxHeartbeats 4000000
abbrev fClo43:FuncId:=22
theorem eClo43:Ent Tryz.prog fClo43:=Ent.of func22 rfl kR
theorem bClo43:Tryz.prog.funcs[fClo43]? =some Tryz.f22:=func22
set_option maxRecDepth 4000 in
theorem clone43_c (C:CaseM) (hB:Bd C):CtrF Tryz.prog fClo43 [true,false,false,true,true] [.a (C.C [])] [] [] (CloR C):=by
 refine ctrF_of gT eClo43 bClo43 rfl rfl rfl bL clBn (VC_ok gT mxd ?_)
 have hbb:=hB.b
 refine⟨ap0 (fun _=>rfl) (int_clo _) hB.r bL,gcnil tSd 2 2 59 3 rfl rfl bL rfl (gcnil tSd 2 3 71 12 rfl rfl bL rfl (gcnil tSd 2 4 42 22 rfl rfl bL rfl (gcnil tSd 2 5 75 9 rfl rfl bL rfl (gcnil tSd 2 6 77 5 rfl rfl bL rfl (gcnil tSd 2 7 47 4 rfl rfl bL rfl (gnew tSd 3 1 C.buses.l.length bL ?_))))))⟩
 refine vloopG (rn [(4,5),(26,48)]) (fun g:Nat×(Nat→Option Nat)×(Nat→Nat)=>[(4,.c (iC g.1))]) (fun g=>blK C (dK C g.1 0 0 0 0 0) (flatR g.1 (busT C g.2.1 g.2.2 g.1)) [] [] [] [] []) (fun g=>[famD C g.2.1 g.2.2 g.1]) (fun g=>g.1≤C.buses.l.length∧∀j,g.1≤j→g.2.1 j=none) (fun g=>C.buses.l.length-g.1) fun hM=>⟨gfin hM (chg:=fun g:Nat×(Nat→Option Nat)×(Nat→Nat)=>[(4,.c (iC g.1))]) (bls:=fun g=>blK C (dK C g.1 0 0 0 0 0) (flatR g.1 (busT C g.2.1 g.2.2 g.1)) [] [] [] [] []) (fls:=fun g=>[famD C g.2.1 g.2.2 g.1]) (0,fun _=>none,fun _=>0) ⟨Nat.zero_le _,fun _ _=>rfl⟩ rfl ⟨rfl,rfl,zB C _,rfl,rfl,rfl,rfl,rfl,rfl,rfl⟩ ⟨?_,trivial⟩ rfl (Nat.zero_le _) (blK_sc rfl busF_clo no_clo no_clo no_clo no_clo no_clo) rfl,fun⟨i,A,cap⟩ ⟨hi,hA⟩=>VC_ok gT mxd ⟨fun h=>VC_ok gT mxd ?_,fun h=>VC_ok gT mxd ?_⟩⟩
 ·show(⟨_,_,_,_,_,_⟩:Fam)=⟨_,_,_,_,_,_⟩
  congr 1
 all_goals
  replace hi:i≤C.buses.l.length:=hi
  replace hA:∀j,i≤j→A j=none:=hA
 ·have hil:i<C.buses.l.length:=by replace h:(i:Int)<(C.buses.l.length:Nat):=h;omega
  refine⟨i,⟨rfl,hil⟩,ap0 (fun _=>rfl) (int_clo _) (hB.bd i) bL,clo_men' (resF_clo C),clo_men' busF_clo,men0,men0,men0,men0,men0,ap1 rfl busT_len busT_clo oM bL (row_men rfl),clo_men' (resF_clo C),men0,men0,men0,men0,men0,clo_men' (dem_clo C i),row_men rfl,(i+1:Nat),wi,gsink tGt 11 rfl bL (dem_clo C i) bL rfl fun Aa aa=>⟨_,map_id' sink_clo (resF_clo C),_,bus_grow,_,rfl,_,rfl,_,rfl,_,rfl,_,rfl,_,rfl,gput tGt 0 1 i rfl rfl rfl hil (hA i (Nat.le_refl _)) bL rfl rfl (gfin hM (chg:=fun g:Nat×(Nat→Option Nat)×(Nat→Nat)=>[(4,.c (iC g.1))]) (bls:=fun g=>blK C (dK C g.1 0 0 0 0 0) (flatR g.1 (busT C g.2.1 g.2.2 g.1)) [] [] [] [] []) (fls:=fun g=>[famD C g.2.1 g.2.2 g.1]) (i+1,upd A i Aa,upd cap i aa) ⟨⟨hil,fun j hj=>?_⟩,?_⟩ rfl ⟨rfl,rfl,rfl,rfl,rfl,rfl,rfl,rfl,rfl,rfl⟩ ⟨fam_next,trivial⟩ rfl (Nat.zero_le _) (blK_sc rfl busF_clo no_clo no_clo no_clo no_clo no_clo) rfl)⟩⟩
  ·have hj':i+1≤j:=hj
   exact(upd_ne oM).trans (hA j oM)
  show C.buses.l.length-(i+1)<C.buses.l.length-i
  omega
 have hii:i=C.buses.l.length:=by replace h:¬(i:Int)<(C.buses.l.length:Nat):=h;omega
 refine VC_ok gT mxd ?_
 refine vloopG (rn [(6,7),(49,71)]) (fun g:Nat×(Nat→Option Addr×Nat)=>[(6,.c (iC g.1))]) (fun g=>blK C [iC C.hours,.s 3 C.reserve.l.length,.s 4 i,.s 5 g.1,.s 6 0,.s 7 0,.s 8 0,.s 9 0] (flatR i (busT C A cap i)) (flatR g.1 (celL C g.2 g.1)) [] [] [] []) (fun _=>[famD C A cap i]) (fun g=>g.1≤C.lines.l.length) (fun g=>C.lines.l.length-g.1) fun hML=>⟨gfin hML (chg:=fun g:Nat×(Nat→Option Addr×Nat)=>[(6,.c (iC g.1))]) (bls:=fun g=>blK C [iC C.hours,.s 3 C.reserve.l.length,.s 4 i,.s 5 g.1,.s 6 0,.s 7 0,.s 8 0,.s 9 0] (flatR i (busT C A cap i)) (flatR g.1 (celL C g.2 g.1)) [] [] [] []) (fls:=fun _=>[famD C A cap i]) (0,fun _=>(none,0)) (Nat.zero_le _) rfl ⟨rfl,rfl,rfl,rfl,rfl,rfl,rfl,rfl,rfl,rfl⟩ ⟨rfl,trivial⟩ rfl (Nat.zero_le _) (blK_sc rfl busF_clo (fl_clo celL_clo _) no_clo no_clo no_clo no_clo) rfl,fun⟨kL,FL⟩ hkL=>VC_ok gT mxd ⟨fun hL=>VC_ok gT mxd ?_,fun hL=>VC_ok gT mxd ?_⟩⟩
 all_goals
  replace hkL:kL≤C.lines.l.length:=hkL
 ·have hkl:kL<C.lines.l.length:=by replace hL:(kL:Int)<(C.lines.l.length:Nat):=hL;omega
  have hbn:=hB.l
  exact⟨kL,⟨rfl,hkl⟩,ap0 (fun _=>rfl) (int_clo _) (hB.la kL) bL,clo_men' (resF_clo C),clo_men' busF_clo,clo_men' (fl_clo celL_clo _),men0,men0,men0,men0,ap1 rfl (fun j=>celL_len j) celL_clo oM bL (row_men rfl),clo_men' (resF_clo C),clo_men' busF_clo,men0,men0,men0,men0,clo_men' (fl_clo (int_clo _) _),row_men rfl,(kL+1:Nat),wi,gsink tGt 11 rfl bL (fl_clo (int_clo _) _) bL rfl fun A0 a0=>⟨_,map_id' sink_clo (resF_clo C),_,map_id' sink_clo busF_clo,_,sink_row celL_clo,_,rfl,_,rfl,_,rfl,_,rfl,_,rfl,gfree tGt 5 1 (flatR (kL+1) (celL C (upd FL kL (A0.map fun b=>⟨b,0,none⟩,a0)) (kL+1))) rfl rfl rfl (grow_len (q:=11) (growL (C:=C) (F:=FL) (k:=kL) (a:=(A0.map fun b=>⟨b,0,none⟩,a0)))) (fr_grow (fun j=>celL_len j) (q:=11) rfl (frc bL fun _=>rfl) (growL (C:=C) (F:=FL) (k:=kL) (a:=(A0.map fun b=>⟨b,0,none⟩,a0)))) (gfin hML (chg:=fun g:Nat×(Nat→Option Addr×Nat)=>[(6,.c (iC g.1))]) (bls:=fun g=>blK C [iC C.hours,.s 3 C.reserve.l.length,.s 4 i,.s 5 g.1,.s 6 0,.s 7 0,.s 8 0,.s 9 0] (flatR i (busT C A cap i)) (flatR g.1 (celL C g.2 g.1)) [] [] [] []) (fls:=fun _=>[famD C A cap i]) (kL+1,upd FL kL (A0.map fun b=>⟨b,0,none⟩,a0)) ⟨hkl,show C.lines.l.length-(kL+1)<C.lines.l.length-kL by omega⟩ rfl ⟨rfl,rfl,rfl,rfl,rfl,rfl,rfl,rfl,rfl,rfl⟩ ⟨rfl,trivial⟩ rfl (Nat.zero_le _) (blK_sc rfl busF_clo (fl_clo celL_clo _) no_clo no_clo no_clo no_clo) rfl)⟩⟩
 have hqL:kL=C.lines.l.length:=by replace hL:¬(kL:Int)<(C.lines.l.length:Nat):=hL;omega
 refine gsink tSd 5 rfl bL (fl_clo celL_clo _) bL rfl fun AL aL=>⟨_,map_id' sink_clo (resF_clo C),_,map_id' sink_clo busF_clo,_,rfl,_,rfl,_,rfl,_,rfl,gfree tSd 2 1 [iC C.hours,.s 3 C.reserve.l.length,.s 4 i,.r (AL.map fun b=>⟨b,0,none⟩) kL aL 12 (fun j=>LineM.C ((lstL C FL).getD j line0)),.s 6 0,.s 7 0,.s 8 0,.s 9 0] rfl rfl rfl rfl (frset (k0:=3) rfl ⟨0,kL,_,bL,rfl,rfl,(flR_len fun j _=>celL_len j).symm,fun q hq=>(lstL_at oM).trans ?_⟩) (VC_ok gT mxd ?_)⟩
 ·rw[←hqL]
  exact(flR_at (fun j _=>celL_len j) hq).symm
 refine vloopG (rn [(8,9),(72,99)]) (fun g:Nat×(Nat→(Option Addr×Nat)×(Option Addr×Nat))=>[(8,.c (iC g.1))]) (fun g=>blK C [iC C.hours,.s 3 C.reserve.l.length,.s 4 i,.r (AL.map fun b=>⟨b,0,none⟩) kL aL 12 (fun j=>LineM.C ((lstL C FL).getD j line0)),.s 6 g.1,.s 7 0,.s 8 0,.s 9 0] (flatR i (busT C A cap i)) [] (flatR g.1 (celU C g.2 g.1)) [] [] []) (fun _=>[famD C A cap i]) (fun g=>g.1≤C.units.l.length) (fun g=>C.units.l.length-g.1) fun hMU=>⟨gfin hMU (chg:=fun g:Nat×(Nat→(Option Addr×Nat)×(Option Addr×Nat))=>[(8,.c (iC g.1))]) (bls:=fun g=>blK C [iC C.hours,.s 3 C.reserve.l.length,.s 4 i,.r (AL.map fun b=>⟨b,0,none⟩) kL aL 12 (fun j=>LineM.C ((lstL C FL).getD j line0)),.s 6 g.1,.s 7 0,.s 8 0,.s 9 0] (flatR i (busT C A cap i)) [] (flatR g.1 (celU C g.2 g.1)) [] [] []) (fls:=fun _=>[famD C A cap i]) (0,fun _=>((none,0),(none,0))) (Nat.zero_le _) rfl ⟨rfl,rfl,rfl,rfl,rfl,rfl,rfl,rfl,rfl,rfl⟩ ⟨rfl,trivial⟩ rfl (Nat.zero_le _) (blK_sc rfl busF_clo no_clo (fl_clo celU_clo _) no_clo no_clo no_clo) rfl,fun⟨kU,FU⟩ hkU=>VC_ok gT mxd ⟨fun hU=>VC_ok gT mxd ?_,fun hU=>VC_ok gT mxd ?_⟩⟩
 all_goals
  replace hkU:kU≤C.units.l.length:=hkU
 ·have hkl:kU<C.units.l.length:=by replace hU:(kU:Int)<(C.units.l.length:Nat):=hU;omega
  have hbn:=hB.u
  refine⟨kU,⟨rfl,hkl⟩,o43U,by kernel_rfl,_,_,fun _=>True,⟨⟨rfl,⟨⟨ap0 (fun _=>rfl) (int_clo _) (hB.ua kU) bL,clo_men' (resF_clo C),clo_men' busF_clo,men0,clo_men' (fl_clo celU_clo _),men0,men0,men0,rfl,⟨rfl,⟨ap0 (fun _=>rfl) (fun _=>all_clo rfl) (hB.us kU) bL,clo_men' (resF_clo C),clo_men' busF_clo,men0,clo_men' (fl_clo celU_clo _),men0,men0,men0,clo_men' (fl_clo (int_clo _) _),rfl,gsG (nb:=0) 12 rfl bL (fl_clo (fun _=>all_clo rfl) _) bL rfl fun A0 a0=>⟨_,map_id' sink_clo (resF_clo C),_,map_id' sink_clo busF_clo,_,rfl,_,map_id' sink_clo (fl_clo celU_clo _),_,rfl,_,rfl,_,rfl,_,map_id' sink_clo (fl_clo (int_clo _) _),gsG (nb:=0) 11 rfl bL (fl_clo (int_clo _) _) bL rfl fun A1 a1=>⟨_,map_id' sink_clo (resF_clo C),_,map_id' sink_clo busF_clo,_,rfl,_,map_id' sink_clo (fl_clo celU_clo _),_,rfl,_,rfl,_,rfl,_,rfl,gfree tGt 10 1 (((gU C kU).C.set 4 (.r (A0.map fun b=>⟨b,0,none⟩) (0+(gU C kU).segs.l.length) a0 2 fun j=>SegM.C ((gU C kU).segs.l.getD j ⟨0,0⟩))).set 18 (.h A1 (0+(gU C kU).away.l.length) a1)) rfl rfl rfl rfl (frset (k0:=4) rfl (frc bL fun _=>rfl)) (gfree tGt 10 2 (rowU C kU ((A0.map fun b=>⟨b,0,none⟩,a0),(A1.map fun b=>⟨b,0,none⟩,a1))) rfl rfl rfl rfl (frset (k0:=18) rfl (frc bL fun _=>rfl)) (gfin hMU (chg:=fun _:(Option Addr×Nat)×(Option Addr×Nat)=>[(9,.c (.p 10 0)),(8,.c (iC kU))]) (bls:=fun a=>blJ C [iC C.hours,.s 3 C.reserve.l.length,.s 4 i,.r (AL.map fun b=>⟨b,0,none⟩) kL aL 12 (fun j=>LineM.C ((lstL C FL).getD j line0)),.s 6 kU,.s 7 0,.s 8 0,.s 9 0] (flatR i (busT C A cap i)) [] (flatR kU (celU C FU kU)) [] [] [] 42 (rowU C kU a)) (fls:=fun _=>[famD C A cap i]) ((A0.map fun b=>⟨b,0,none⟩,a0),(A1.map fun b=>⟨b,0,none⟩,a1)) trivial rfl ⟨rfl,rfl,rfl,rfl,rfl,rfl,rfl,rfl,rfl,rfl,rfl⟩ ⟨rfl,trivial⟩ ⟨rfl,rfl⟩ (Nat.zero_le _) (blJ_sc rfl busF_clo no_clo (fl_clo celU_clo _) no_clo no_clo no_clo rfl) rfl))⟩⟩⟩⟩⟩,⟨rfl,⟨ap0 (fun _=>rfl) (int_clo _) (hB.ua kU) bL,clo_men' (resF_clo C),clo_men' busF_clo,men0,clo_men' (fl_clo celU_clo _),men0,men0,men0,men0,rfl,⟨ap0 (fun _=>rfl) (fun _=>all_clo rfl) (hB.us kU) bL,clo_men' (resF_clo C),clo_men' busF_clo,men0,clo_men' (fl_clo celU_clo _),men0,men0,men0,clo_men' (fl_clo (int_clo _) _),rfl,gsG (nb:=0) 12 rfl bL (fl_clo (fun _=>all_clo rfl) _) bL rfl fun A0 a0=>⟨_,map_id' sink_clo (resF_clo C),_,map_id' sink_clo busF_clo,_,rfl,_,map_id' sink_clo (fl_clo celU_clo _),_,rfl,_,rfl,_,rfl,_,map_id' sink_clo (fl_clo (int_clo _) _),gsG (nb:=0) 11 rfl bL (fl_clo (int_clo _) _) bL rfl fun A1 a1=>⟨_,map_id' sink_clo (resF_clo C),_,map_id' sink_clo busF_clo,_,rfl,_,map_id' sink_clo (fl_clo celU_clo _),_,rfl,_,rfl,_,rfl,_,rfl,gfree tGt 10 1 (((gU C kU).C.set 4 (.r (A0.map fun b=>⟨b,0,none⟩) (0+(gU C kU).segs.l.length) a0 2 fun j=>SegM.C ((gU C kU).segs.l.getD j ⟨0,0⟩))).set 18 (.h A1 (0+(gU C kU).away.l.length) a1)) rfl rfl rfl rfl (frset (k0:=4) rfl (frc bL fun _=>rfl)) (gfree tGt 10 2 (rowU C kU ((A0.map fun b=>⟨b,0,none⟩,a0),(A1.map fun b=>⟨b,0,none⟩,a1))) rfl rfl rfl rfl (frset (k0:=18) rfl (frc bL fun _=>rfl)) (gfin hMU (chg:=fun _:(Option Addr×Nat)×(Option Addr×Nat)=>[(9,.c (.p 10 0)),(8,.c (iC kU))]) (bls:=fun a=>blJ C [iC C.hours,.s 3 C.reserve.l.length,.s 4 i,.r (AL.map fun b=>⟨b,0,none⟩) kL aL 12 (fun j=>LineM.C ((lstL C FL).getD j line0)),.s 6 kU,.s 7 0,.s 8 0,.s 9 0] (flatR i (busT C A cap i)) [] (flatR kU (celU C FU kU)) [] [] [] 42 (rowU C kU a)) (fls:=fun _=>[famD C A cap i]) ((A0.map fun b=>⟨b,0,none⟩,a0),(A1.map fun b=>⟨b,0,none⟩,a1)) trivial rfl ⟨rfl,rfl,rfl,rfl,rfl,rfl,rfl,rfl,rfl,rfl,rfl⟩ ⟨rfl,trivial⟩ ⟨rfl,rfl⟩ (Nat.zero_le _) (blJ_sc rfl busF_clo no_clo (fl_clo celU_clo _) no_clo no_clo no_clo rfl) rfl))⟩⟩⟩⟩⟩⟩⟩,⟨rfl,⟨rfl,⟨ap0 (fun _=>rfl) (int_clo _) (hB.ua kU) bL,clo_men' (resF_clo C),clo_men' busF_clo,men0,clo_men' (fl_clo celU_clo _),men0,men0,men0,men0,rfl,⟨ap0 (fun _=>rfl) (fun _=>all_clo rfl) (hB.us kU) bL,clo_men' (resF_clo C),clo_men' busF_clo,men0,clo_men' (fl_clo celU_clo _),men0,men0,men0,clo_men' (fl_clo (int_clo _) _),rfl,gsG (nb:=0) 11 rfl bL (fl_clo (fun _=>all_clo rfl) _) bL rfl fun A0 a0=>⟨_,map_id' sink_clo (resF_clo C),_,map_id' sink_clo busF_clo,_,rfl,_,map_id' sink_clo (fl_clo celU_clo _),_,rfl,_,rfl,_,rfl,_,map_id' sink_clo (fl_clo (int_clo _) _),gsG (nb:=0) 12 rfl bL (fl_clo (int_clo _) _) bL rfl fun A1 a1=>⟨_,map_id' sink_clo (resF_clo C),_,map_id' sink_clo busF_clo,_,rfl,_,map_id' sink_clo (fl_clo celU_clo _),_,rfl,_,rfl,_,rfl,_,rfl,gfree tGt 10 1 (((gU C kU).C.set 4 (.r (A0.map fun b=>⟨b,0,none⟩) (0+(gU C kU).segs.l.length) a0 2 fun j=>SegM.C ((gU C kU).segs.l.getD j ⟨0,0⟩))).set 18 (.h A1 (0+(gU C kU).away.l.length) a1)) rfl rfl rfl rfl (frset (k0:=4) rfl (frc bL fun _=>rfl)) (gfree tGt 10 2 (rowU C kU ((A0.map fun b=>⟨b,0,none⟩,a0),(A1.map fun b=>⟨b,0,none⟩,a1))) rfl rfl rfl rfl (frset (k0:=18) rfl (frc bL fun _=>rfl)) (gfin hMU (chg:=fun _:(Option Addr×Nat)×(Option Addr×Nat)=>[(9,.c (.p 10 0)),(8,.c (iC kU))]) (bls:=fun a=>blJ C [iC C.hours,.s 3 C.reserve.l.length,.s 4 i,.r (AL.map fun b=>⟨b,0,none⟩) kL aL 12 (fun j=>LineM.C ((lstL C FL).getD j line0)),.s 6 kU,.s 7 0,.s 8 0,.s 9 0] (flatR i (busT C A cap i)) [] (flatR kU (celU C FU kU)) [] [] [] 42 (rowU C kU a)) (fls:=fun _=>[famD C A cap i]) ((A0.map fun b=>⟨b,0,none⟩,a0),(A1.map fun b=>⟨b,0,none⟩,a1)) trivial rfl ⟨rfl,rfl,rfl,rfl,rfl,rfl,rfl,rfl,rfl,rfl,rfl⟩ ⟨rfl,trivial⟩ ⟨rfl,rfl⟩ (Nat.zero_le _) (blJ_sc rfl busF_clo no_clo (fl_clo celU_clo _) no_clo no_clo no_clo rfl) rfl))⟩⟩⟩⟩⟩⟩⟩,fun a _=>⟨ap1 rfl (fun j=>celU_len j) celU_clo oM bL (row_men rfl),clo_men' (resF_clo C),clo_men' busF_clo,men0,men0,men0,men0,row_men rfl,(kU+1:Nat),wi,gfin hMU (chg:=fun g:Nat×(Nat→(Option Addr×Nat)×(Option Addr×Nat))=>[(8,.c (iC g.1))]) (bls:=fun g=>blK C [iC C.hours,.s 3 C.reserve.l.length,.s 4 i,.r (AL.map fun b=>⟨b,0,none⟩) kL aL 12 (fun j=>LineM.C ((lstL C FL).getD j line0)),.s 6 g.1,.s 7 0,.s 8 0,.s 9 0] (flatR i (busT C A cap i)) [] (flatR g.1 (celU C g.2 g.1)) [] [] []) (fls:=fun _=>[famD C A cap i]) (kU+1,upd FU kU a) ⟨hkl,show C.units.l.length-(kU+1)<C.units.l.length-kU by omega⟩ rfl ⟨rfl,rfl,rfl,rfl,rfl,rfl,congrArg (fun l=>(42,22,l)) (growU (C:=C) (F:=FU) (k:=kU) (a:=a)),rfl,rfl,rfl⟩ ⟨rfl,trivial⟩ rfl (Nat.zero_le _) (blK_sc rfl busF_clo no_clo (fl_clo celU_clo _) no_clo no_clo no_clo) rfl⟩⟩
 have hqU:kU=C.units.l.length:=by replace hU:¬(kU:Int)<(C.units.l.length:Nat):=hU;omega
 refine gsink tSd 6 rfl bL (fl_clo celU_clo _) bL rfl fun AU aU=>⟨_,map_id' sink_clo (resF_clo C),_,map_id' sink_clo busF_clo,_,rfl,_,rfl,_,rfl,_,rfl,gfree tSd 2 1 [iC C.hours,.s 3 C.reserve.l.length,.s 4 i,.r (AL.map fun b=>⟨b,0,none⟩) kL aL 12 (fun j=>LineM.C ((lstL C FL).getD j line0)),.r (AU.map fun b=>⟨b,0,none⟩) kU aU 22 (fun j=>UnitM.C ((lstU C FU).getD j unit0)),.s 7 0,.s 8 0,.s 9 0] rfl rfl rfl rfl (frset (k0:=4) rfl ⟨0,kU,_,bL,rfl,rfl,(flR_len fun j _=>celU_len j).symm,fun q hq=>(lstU_at oM).trans ?_⟩) (VC_ok gT mxd ?_)⟩
 ·rw[←hqU]
  exact(flR_at (fun j _=>celU_len j) hq).symm
 refine⟨ap0 (fun _=>rfl) (fun _=>all_clo rfl) hB.s bL,clo_men' (resF_clo C),clo_men' busF_clo,men0,men0,men0,men0,gsink tSd 7 rfl bL (fl_clo (fun _=>all_clo rfl) _) bL rfl fun AS aS=>⟨_,map_id' sink_clo (resF_clo C),_,map_id' sink_clo busF_clo,_,rfl,_,rfl,_,rfl,_,rfl,gfree tSd 2 2 [iC C.hours,.s 3 C.reserve.l.length,.s 4 i,.r (AL.map fun b=>⟨b,0,none⟩) kL aL 12 (fun j=>LineM.C ((lstL C FL).getD j line0)),.r (AU.map fun b=>⟨b,0,none⟩) kU aU 22 (fun j=>UnitM.C ((lstU C FU).getD j unit0)),.r (AS.map fun b=>⟨b,0,none⟩) (0+C.stores.l.length) aS 9 (fun j=>StoreM.C (C.stores.l.getD j store0)),.s 8 0,.s 9 0] rfl rfl rfl rfl (frset (k0:=5) rfl (frc bL fun _=>rfl)) ?_⟩⟩
 refine vloopG (rn [(10,11),(106,138)]) (fun g:Nat×(Nat→(Option Addr×Nat)×(Option Addr×Nat)×(Option Addr×Nat))=>[(10,.c (iC g.1))]) (fun g=>blK C [iC C.hours,.s 3 C.reserve.l.length,.s 4 i,.r (AL.map fun b=>⟨b,0,none⟩) kL aL 12 (fun j=>LineM.C ((lstL C FL).getD j line0)),.r (AU.map fun b=>⟨b,0,none⟩) kU aU 22 (fun j=>UnitM.C ((lstU C FU).getD j unit0)),.r (AS.map fun b=>⟨b,0,none⟩) (0+C.stores.l.length) aS 9 (fun j=>StoreM.C (C.stores.l.getD j store0)),.s 8 g.1,.s 9 0] (flatR i (busT C A cap i)) [] [] [] (flatR g.1 (celE C g.2 g.1)) []) (fun _=>[famD C A cap i]) (fun g=>g.1≤C.ties.l.length) (fun g=>C.ties.l.length-g.1) fun hME=>⟨gfin hME (chg:=fun g:Nat×(Nat→(Option Addr×Nat)×(Option Addr×Nat)×(Option Addr×Nat))=>[(10,.c (iC g.1))]) (bls:=fun g=>blK C [iC C.hours,.s 3 C.reserve.l.length,.s 4 i,.r (AL.map fun b=>⟨b,0,none⟩) kL aL 12 (fun j=>LineM.C ((lstL C FL).getD j line0)),.r (AU.map fun b=>⟨b,0,none⟩) kU aU 22 (fun j=>UnitM.C ((lstU C FU).getD j unit0)),.r (AS.map fun b=>⟨b,0,none⟩) (0+C.stores.l.length) aS 9 (fun j=>StoreM.C (C.stores.l.getD j store0)),.s 8 g.1,.s 9 0] (flatR i (busT C A cap i)) [] [] [] (flatR g.1 (celE C g.2 g.1)) []) (fls:=fun _=>[famD C A cap i]) (0,fun _=>((none,0),(none,0),(none,0))) (Nat.zero_le _) rfl ⟨rfl,rfl,rfl,rfl,rfl,rfl,rfl,rfl,rfl,rfl⟩ ⟨rfl,trivial⟩ rfl (Nat.zero_le _) (blK_sc rfl busF_clo no_clo no_clo no_clo (fl_clo celE_clo _) no_clo) rfl,fun⟨kE,FE⟩ hkE=>VC_ok gT mxd ⟨fun hE=>VC_ok gT mxd ?_,fun hE=>VC_ok gT mxd ?_⟩⟩
 all_goals
  replace hkE:kE≤C.ties.l.length:=hkE
 ·have hkl:kE<C.ties.l.length:=by replace hE:(kE:Int)<(C.ties.l.length:Nat):=hE;omega
  have hbn:=hB.t
  refine⟨kE,⟨rfl,hkl⟩,o43E,by kernel_rfl,_,_,fun _=>True,⟨⟨rfl,⟨⟨ap0 (fun _=>rfl) (int_clo _) (hB.ti kE) bL,clo_men' (resF_clo C),clo_men' busF_clo,men0,men0,men0,clo_men' (fl_clo celE_clo _),men0,rfl,⟨⟨rfl,⟨⟨ap0 (fun _=>rfl) (int_clo _) (hB.te kE) bL,clo_men' (resF_clo C),clo_men' busF_clo,men0,men0,men0,clo_men' (fl_clo celE_clo _),men0,clo_men' (fl_clo (int_clo _) _),rfl,⟨rfl,⟨ap0 (fun _=>rfl) (int_clo _) (hB.tp kE) bL,clo_men' (resF_clo C),clo_men' busF_clo,men0,men0,men0,clo_men' (fl_clo celE_clo _),men0,clo_men' (fl_clo (int_clo _) _),clo_men' (fl_clo (int_clo _) _),rfl,gsG (nb:=0) 11 rfl bL (fl_clo (int_clo _) _) bL rfl fun A0 a0=>⟨_,map_id' sink_clo (resF_clo C),_,map_id' sink_clo busF_clo,_,rfl,_,rfl,_,rfl,_,map_id' sink_clo (fl_clo celE_clo _),_,rfl,_,map_id' sink_clo (fl_clo (int_clo _) _),_,map_id' sink_clo (fl_clo (int_clo _) _),gsG (nb:=0) 12 rfl bL (fl_clo (int_clo _) _) bL rfl fun A1 a1=>⟨_,map_id' sink_clo (resF_clo C),_,map_id' sink_clo busF_clo,_,rfl,_,rfl,_,rfl,_,map_id' sink_clo (fl_clo celE_clo _),_,rfl,_,rfl,_,map_id' sink_clo (fl_clo (int_clo _) _),gsG (nb:=0) 13 rfl bL (fl_clo (int_clo _) _) bL rfl fun A2 a2=>⟨_,map_id' sink_clo (resF_clo C),_,map_id' sink_clo busF_clo,_,rfl,_,rfl,_,rfl,_,map_id' sink_clo (fl_clo celE_clo _),_,rfl,_,rfl,_,rfl,gfree tGt 10 1 ((((gE C kE).C.set 2 (.r (A0.map fun b=>⟨b,0,none⟩) (0+(gE C kE).imp.l.length) a0 1 fun j=>[iC ((gE C kE).imp.l.getD j 0)])).set 3 (.h A1 (0+(gE C kE).exp.l.length) a1)).set 4 (.h A2 (0+(gE C kE).price.l.length) a2)) rfl rfl rfl rfl (frset (k0:=2) rfl (frc bL fun _=>rfl)) (gfree tGt 10 2 ((((gE C kE).C.set 2 (.r (A0.map fun b=>⟨b,0,none⟩) (0+(gE C kE).imp.l.length) a0 1 fun j=>[iC ((gE C kE).imp.l.getD j 0)])).set 3 (.r (A1.map fun b=>⟨b,0,none⟩) (0+(gE C kE).exp.l.length) a1 1 fun j=>[iC ((gE C kE).exp.l.getD j 0)])).set 4 (.h A2 (0+(gE C kE).price.l.length) a2)) rfl rfl rfl rfl (frset (k0:=3) rfl (frc bL fun _=>rfl)) (gfree tGt 10 3 (rowE C kE ((A0.map fun b=>⟨b,0,none⟩,a0),(A1.map fun b=>⟨b,0,none⟩,a1),(A2.map fun b=>⟨b,0,none⟩,a2))) rfl rfl rfl rfl (frset (k0:=4) rfl (frc bL fun _=>rfl)) (gfin hME (chg:=fun _:(Option Addr×Nat)×(Option Addr×Nat)×(Option Addr×Nat)=>[(11,.c (.p 10 0)),(10,.c (iC kE))]) (bls:=fun a=>blJ C [iC C.hours,.s 3 C.reserve.l.length,.s 4 i,.r (AL.map fun b=>⟨b,0,none⟩) kL aL 12 (fun j=>LineM.C ((lstL C FL).getD j line0)),.r (AU.map fun b=>⟨b,0,none⟩) kU aU 22 (fun j=>UnitM.C ((lstU C FU).getD j unit0)),.r (AS.map fun b=>⟨b,0,none⟩) (0+C.stores.l.length) aS 9 (fun j=>StoreM.C (C.stores.l.getD j store0)),.s 8 kE,.s 9 0] (flatR i (busT C A cap i)) [] [] [] (flatR kE (celE C FE kE)) [] 77 (rowE C kE a)) (fls:=fun _=>[famD C A cap i]) ((A0.map fun b=>⟨b,0,none⟩,a0),(A1.map fun b=>⟨b,0,none⟩,a1),(A2.map fun b=>⟨b,0,none⟩,a2)) trivial rfl ⟨rfl,rfl,rfl,rfl,rfl,rfl,rfl,rfl,rfl,rfl,rfl⟩ ⟨rfl,trivial⟩ ⟨rfl,rfl⟩ (Nat.zero_le _) (blJ_sc rfl busF_clo no_clo no_clo no_clo (fl_clo celE_clo _) no_clo rfl) rfl)))⟩⟩⟩⟩⟩⟩,⟨rfl,⟨ap0 (fun _=>rfl) (int_clo _) (hB.te kE) bL,clo_men' (resF_clo C),clo_men' busF_clo,men0,men0,men0,clo_men' (fl_clo celE_clo _),men0,clo_men' (fl_clo (int_clo _) _),men0,rfl,⟨ap0 (fun _=>rfl) (int_clo _) (hB.tp kE) bL,clo_men' (resF_clo C),clo_men' busF_clo,men0,men0,men0,clo_men' (fl_clo celE_clo _),men0,clo_men' (fl_clo (int_clo _) _),clo_men' (fl_clo (int_clo _) _),rfl,gsG (nb:=0) 11 rfl bL (fl_clo (int_clo _) _) bL rfl fun A0 a0=>⟨_,map_id' sink_clo (resF_clo C),_,map_id' sink_clo busF_clo,_,rfl,_,rfl,_,rfl,_,map_id' sink_clo (fl_clo celE_clo _),_,rfl,_,map_id' sink_clo (fl_clo (int_clo _) _),_,map_id' sink_clo (fl_clo (int_clo _) _),gsG (nb:=0) 12 rfl bL (fl_clo (int_clo _) _) bL rfl fun A1 a1=>⟨_,map_id' sink_clo (resF_clo C),_,map_id' sink_clo busF_clo,_,rfl,_,rfl,_,rfl,_,map_id' sink_clo (fl_clo celE_clo _),_,rfl,_,rfl,_,map_id' sink_clo (fl_clo (int_clo _) _),gsG (nb:=0) 13 rfl bL (fl_clo (int_clo _) _) bL rfl fun A2 a2=>⟨_,map_id' sink_clo (resF_clo C),_,map_id' sink_clo busF_clo,_,rfl,_,rfl,_,rfl,_,map_id' sink_clo (fl_clo celE_clo _),_,rfl,_,rfl,_,rfl,gfree tGt 10 1 ((((gE C kE).C.set 2 (.r (A0.map fun b=>⟨b,0,none⟩) (0+(gE C kE).imp.l.length) a0 1 fun j=>[iC ((gE C kE).imp.l.getD j 0)])).set 3 (.h A1 (0+(gE C kE).exp.l.length) a1)).set 4 (.h A2 (0+(gE C kE).price.l.length) a2)) rfl rfl rfl rfl (frset (k0:=2) rfl (frc bL fun _=>rfl)) (gfree tGt 10 2 ((((gE C kE).C.set 2 (.r (A0.map fun b=>⟨b,0,none⟩) (0+(gE C kE).imp.l.length) a0 1 fun j=>[iC ((gE C kE).imp.l.getD j 0)])).set 3 (.r (A1.map fun b=>⟨b,0,none⟩) (0+(gE C kE).exp.l.length) a1 1 fun j=>[iC ((gE C kE).exp.l.getD j 0)])).set 4 (.h A2 (0+(gE C kE).price.l.length) a2)) rfl rfl rfl rfl (frset (k0:=3) rfl (frc bL fun _=>rfl)) (gfree tGt 10 3 (rowE C kE ((A0.map fun b=>⟨b,0,none⟩,a0),(A1.map fun b=>⟨b,0,none⟩,a1),(A2.map fun b=>⟨b,0,none⟩,a2))) rfl rfl rfl rfl (frset (k0:=4) rfl (frc bL fun _=>rfl)) (gfin hME (chg:=fun _:(Option Addr×Nat)×(Option Addr×Nat)×(Option Addr×Nat)=>[(11,.c (.p 10 0)),(10,.c (iC kE))]) (bls:=fun a=>blJ C [iC C.hours,.s 3 C.reserve.l.length,.s 4 i,.r (AL.map fun b=>⟨b,0,none⟩) kL aL 12 (fun j=>LineM.C ((lstL C FL).getD j line0)),.r (AU.map fun b=>⟨b,0,none⟩) kU aU 22 (fun j=>UnitM.C ((lstU C FU).getD j unit0)),.r (AS.map fun b=>⟨b,0,none⟩) (0+C.stores.l.length) aS 9 (fun j=>StoreM.C (C.stores.l.getD j store0)),.s 8 kE,.s 9 0] (flatR i (busT C A cap i)) [] [] [] (flatR kE (celE C FE kE)) [] 77 (rowE C kE a)) (fls:=fun _=>[famD C A cap i]) ((A0.map fun b=>⟨b,0,none⟩,a0),(A1.map fun b=>⟨b,0,none⟩,a1),(A2.map fun b=>⟨b,0,none⟩,a2)) trivial rfl ⟨rfl,rfl,rfl,rfl,rfl,rfl,rfl,rfl,rfl,rfl,rfl⟩ ⟨rfl,trivial⟩ ⟨rfl,rfl⟩ (Nat.zero_le _) (blJ_sc rfl busF_clo no_clo no_clo no_clo (fl_clo celE_clo _) no_clo rfl) rfl)))⟩⟩⟩⟩⟩⟩⟩⟩,⟨rfl,⟨rfl,⟨ap0 (fun _=>rfl) (int_clo _) (hB.te kE) bL,clo_men' (resF_clo C),clo_men' busF_clo,men0,men0,men0,clo_men' (fl_clo celE_clo _),men0,clo_men' (fl_clo (int_clo _) _),men0,rfl,⟨ap0 (fun _=>rfl) (int_clo _) (hB.tp kE) bL,clo_men' (resF_clo C),clo_men' busF_clo,men0,men0,men0,clo_men' (fl_clo celE_clo _),men0,clo_men' (fl_clo (int_clo _) _),clo_men' (fl_clo (int_clo _) _),rfl,gsG (nb:=0) 11 rfl bL (fl_clo (int_clo _) _) bL rfl fun A0 a0=>⟨_,map_id' sink_clo (resF_clo C),_,map_id' sink_clo busF_clo,_,rfl,_,rfl,_,rfl,_,map_id' sink_clo (fl_clo celE_clo _),_,rfl,_,map_id' sink_clo (fl_clo (int_clo _) _),_,map_id' sink_clo (fl_clo (int_clo _) _),gsG (nb:=0) 13 rfl bL (fl_clo (int_clo _) _) bL rfl fun A1 a1=>⟨_,map_id' sink_clo (resF_clo C),_,map_id' sink_clo busF_clo,_,rfl,_,rfl,_,rfl,_,map_id' sink_clo (fl_clo celE_clo _),_,rfl,_,rfl,_,map_id' sink_clo (fl_clo (int_clo _) _),gsG (nb:=0) 12 rfl bL (fl_clo (int_clo _) _) bL rfl fun A2 a2=>⟨_,map_id' sink_clo (resF_clo C),_,map_id' sink_clo busF_clo,_,rfl,_,rfl,_,rfl,_,map_id' sink_clo (fl_clo celE_clo _),_,rfl,_,rfl,_,rfl,gfree tGt 10 1 ((((gE C kE).C.set 2 (.r (A0.map fun b=>⟨b,0,none⟩) (0+(gE C kE).imp.l.length) a0 1 fun j=>[iC ((gE C kE).imp.l.getD j 0)])).set 3 (.h A1 (0+(gE C kE).exp.l.length) a1)).set 4 (.h A2 (0+(gE C kE).price.l.length) a2)) rfl rfl rfl rfl (frset (k0:=2) rfl (frc bL fun _=>rfl)) (gfree tGt 10 2 ((((gE C kE).C.set 2 (.r (A0.map fun b=>⟨b,0,none⟩) (0+(gE C kE).imp.l.length) a0 1 fun j=>[iC ((gE C kE).imp.l.getD j 0)])).set 3 (.r (A1.map fun b=>⟨b,0,none⟩) (0+(gE C kE).exp.l.length) a1 1 fun j=>[iC ((gE C kE).exp.l.getD j 0)])).set 4 (.h A2 (0+(gE C kE).price.l.length) a2)) rfl rfl rfl rfl (frset (k0:=3) rfl (frc bL fun _=>rfl)) (gfree tGt 10 3 (rowE C kE ((A0.map fun b=>⟨b,0,none⟩,a0),(A1.map fun b=>⟨b,0,none⟩,a1),(A2.map fun b=>⟨b,0,none⟩,a2))) rfl rfl rfl rfl (frset (k0:=4) rfl (frc bL fun _=>rfl)) (gfin hME (chg:=fun _:(Option Addr×Nat)×(Option Addr×Nat)×(Option Addr×Nat)=>[(11,.c (.p 10 0)),(10,.c (iC kE))]) (bls:=fun a=>blJ C [iC C.hours,.s 3 C.reserve.l.length,.s 4 i,.r (AL.map fun b=>⟨b,0,none⟩) kL aL 12 (fun j=>LineM.C ((lstL C FL).getD j line0)),.r (AU.map fun b=>⟨b,0,none⟩) kU aU 22 (fun j=>UnitM.C ((lstU C FU).getD j unit0)),.r (AS.map fun b=>⟨b,0,none⟩) (0+C.stores.l.length) aS 9 (fun j=>StoreM.C (C.stores.l.getD j store0)),.s 8 kE,.s 9 0] (flatR i (busT C A cap i)) [] [] [] (flatR kE (celE C FE kE)) [] 77 (rowE C kE a)) (fls:=fun _=>[famD C A cap i]) ((A0.map fun b=>⟨b,0,none⟩,a0),(A1.map fun b=>⟨b,0,none⟩,a1),(A2.map fun b=>⟨b,0,none⟩,a2)) trivial rfl ⟨rfl,rfl,rfl,rfl,rfl,rfl,rfl,rfl,rfl,rfl,rfl⟩ ⟨rfl,trivial⟩ ⟨rfl,rfl⟩ (Nat.zero_le _) (blJ_sc rfl busF_clo no_clo no_clo no_clo (fl_clo celE_clo _) no_clo rfl) rfl)))⟩⟩⟩⟩⟩⟩⟩⟩⟩,⟨rfl,⟨⟨ap0 (fun _=>rfl) (int_clo _) (hB.ti kE) bL,clo_men' (resF_clo C),clo_men' busF_clo,men0,men0,men0,clo_men' (fl_clo celE_clo _),men0,men0,rfl,⟨⟨ap0 (fun _=>rfl) (int_clo _) (hB.te kE) bL,clo_men' (resF_clo C),clo_men' busF_clo,men0,men0,men0,clo_men' (fl_clo celE_clo _),men0,clo_men' (fl_clo (int_clo _) _),rfl,⟨rfl,⟨ap0 (fun _=>rfl) (int_clo _) (hB.tp kE) bL,clo_men' (resF_clo C),clo_men' busF_clo,men0,men0,men0,clo_men' (fl_clo celE_clo _),men0,clo_men' (fl_clo (int_clo _) _),clo_men' (fl_clo (int_clo _) _),rfl,gsG (nb:=0) 11 rfl bL (fl_clo (int_clo _) _) bL rfl fun A0 a0=>⟨_,map_id' sink_clo (resF_clo C),_,map_id' sink_clo busF_clo,_,rfl,_,rfl,_,rfl,_,map_id' sink_clo (fl_clo celE_clo _),_,rfl,_,map_id' sink_clo (fl_clo (int_clo _) _),_,map_id' sink_clo (fl_clo (int_clo _) _),gsG (nb:=0) 12 rfl bL (fl_clo (int_clo _) _) bL rfl fun A1 a1=>⟨_,map_id' sink_clo (resF_clo C),_,map_id' sink_clo busF_clo,_,rfl,_,rfl,_,rfl,_,map_id' sink_clo (fl_clo celE_clo _),_,rfl,_,rfl,_,map_id' sink_clo (fl_clo (int_clo _) _),gsG (nb:=0) 13 rfl bL (fl_clo (int_clo _) _) bL rfl fun A2 a2=>⟨_,map_id' sink_clo (resF_clo C),_,map_id' sink_clo busF_clo,_,rfl,_,rfl,_,rfl,_,map_id' sink_clo (fl_clo celE_clo _),_,rfl,_,rfl,_,rfl,gfree tGt 10 1 ((((gE C kE).C.set 2 (.r (A0.map fun b=>⟨b,0,none⟩) (0+(gE C kE).imp.l.length) a0 1 fun j=>[iC ((gE C kE).imp.l.getD j 0)])).set 3 (.h A1 (0+(gE C kE).exp.l.length) a1)).set 4 (.h A2 (0+(gE C kE).price.l.length) a2)) rfl rfl rfl rfl (frset (k0:=2) rfl (frc bL fun _=>rfl)) (gfree tGt 10 2 ((((gE C kE).C.set 2 (.r (A0.map fun b=>⟨b,0,none⟩) (0+(gE C kE).imp.l.length) a0 1 fun j=>[iC ((gE C kE).imp.l.getD j 0)])).set 3 (.r (A1.map fun b=>⟨b,0,none⟩) (0+(gE C kE).exp.l.length) a1 1 fun j=>[iC ((gE C kE).exp.l.getD j 0)])).set 4 (.h A2 (0+(gE C kE).price.l.length) a2)) rfl rfl rfl rfl (frset (k0:=3) rfl (frc bL fun _=>rfl)) (gfree tGt 10 3 (rowE C kE ((A0.map fun b=>⟨b,0,none⟩,a0),(A1.map fun b=>⟨b,0,none⟩,a1),(A2.map fun b=>⟨b,0,none⟩,a2))) rfl rfl rfl rfl (frset (k0:=4) rfl (frc bL fun _=>rfl)) (gfin hME (chg:=fun _:(Option Addr×Nat)×(Option Addr×Nat)×(Option Addr×Nat)=>[(11,.c (.p 10 0)),(10,.c (iC kE))]) (bls:=fun a=>blJ C [iC C.hours,.s 3 C.reserve.l.length,.s 4 i,.r (AL.map fun b=>⟨b,0,none⟩) kL aL 12 (fun j=>LineM.C ((lstL C FL).getD j line0)),.r (AU.map fun b=>⟨b,0,none⟩) kU aU 22 (fun j=>UnitM.C ((lstU C FU).getD j unit0)),.r (AS.map fun b=>⟨b,0,none⟩) (0+C.stores.l.length) aS 9 (fun j=>StoreM.C (C.stores.l.getD j store0)),.s 8 kE,.s 9 0] (flatR i (busT C A cap i)) [] [] [] (flatR kE (celE C FE kE)) [] 77 (rowE C kE a)) (fls:=fun _=>[famD C A cap i]) ((A0.map fun b=>⟨b,0,none⟩,a0),(A1.map fun b=>⟨b,0,none⟩,a1),(A2.map fun b=>⟨b,0,none⟩,a2)) trivial rfl ⟨rfl,rfl,rfl,rfl,rfl,rfl,rfl,rfl,rfl,rfl,rfl⟩ ⟨rfl,trivial⟩ ⟨rfl,rfl⟩ (Nat.zero_le _) (blJ_sc rfl busF_clo no_clo no_clo no_clo (fl_clo celE_clo _) no_clo rfl) rfl)))⟩⟩⟩⟩⟩⟩,⟨rfl,⟨ap0 (fun _=>rfl) (int_clo _) (hB.te kE) bL,clo_men' (resF_clo C),clo_men' busF_clo,men0,men0,men0,clo_men' (fl_clo celE_clo _),men0,clo_men' (fl_clo (int_clo _) _),men0,rfl,⟨ap0 (fun _=>rfl) (int_clo _) (hB.tp kE) bL,clo_men' (resF_clo C),clo_men' busF_clo,men0,men0,men0,clo_men' (fl_clo celE_clo _),men0,clo_men' (fl_clo (int_clo _) _),clo_men' (fl_clo (int_clo _) _),rfl,gsG (nb:=0) 11 rfl bL (fl_clo (int_clo _) _) bL rfl fun A0 a0=>⟨_,map_id' sink_clo (resF_clo C),_,map_id' sink_clo busF_clo,_,rfl,_,rfl,_,rfl,_,map_id' sink_clo (fl_clo celE_clo _),_,rfl,_,map_id' sink_clo (fl_clo (int_clo _) _),_,map_id' sink_clo (fl_clo (int_clo _) _),gsG (nb:=0) 12 rfl bL (fl_clo (int_clo _) _) bL rfl fun A1 a1=>⟨_,map_id' sink_clo (resF_clo C),_,map_id' sink_clo busF_clo,_,rfl,_,rfl,_,rfl,_,map_id' sink_clo (fl_clo celE_clo _),_,rfl,_,rfl,_,map_id' sink_clo (fl_clo (int_clo _) _),gsG (nb:=0) 13 rfl bL (fl_clo (int_clo _) _) bL rfl fun A2 a2=>⟨_,map_id' sink_clo (resF_clo C),_,map_id' sink_clo busF_clo,_,rfl,_,rfl,_,rfl,_,map_id' sink_clo (fl_clo celE_clo _),_,rfl,_,rfl,_,rfl,gfree tGt 10 1 ((((gE C kE).C.set 2 (.r (A0.map fun b=>⟨b,0,none⟩) (0+(gE C kE).imp.l.length) a0 1 fun j=>[iC ((gE C kE).imp.l.getD j 0)])).set 3 (.h A1 (0+(gE C kE).exp.l.length) a1)).set 4 (.h A2 (0+(gE C kE).price.l.length) a2)) rfl rfl rfl rfl (frset (k0:=2) rfl (frc bL fun _=>rfl)) (gfree tGt 10 2 ((((gE C kE).C.set 2 (.r (A0.map fun b=>⟨b,0,none⟩) (0+(gE C kE).imp.l.length) a0 1 fun j=>[iC ((gE C kE).imp.l.getD j 0)])).set 3 (.r (A1.map fun b=>⟨b,0,none⟩) (0+(gE C kE).exp.l.length) a1 1 fun j=>[iC ((gE C kE).exp.l.getD j 0)])).set 4 (.h A2 (0+(gE C kE).price.l.length) a2)) rfl rfl rfl rfl (frset (k0:=3) rfl (frc bL fun _=>rfl)) (gfree tGt 10 3 (rowE C kE ((A0.map fun b=>⟨b,0,none⟩,a0),(A1.map fun b=>⟨b,0,none⟩,a1),(A2.map fun b=>⟨b,0,none⟩,a2))) rfl rfl rfl rfl (frset (k0:=4) rfl (frc bL fun _=>rfl)) (gfin hME (chg:=fun _:(Option Addr×Nat)×(Option Addr×Nat)×(Option Addr×Nat)=>[(11,.c (.p 10 0)),(10,.c (iC kE))]) (bls:=fun a=>blJ C [iC C.hours,.s 3 C.reserve.l.length,.s 4 i,.r (AL.map fun b=>⟨b,0,none⟩) kL aL 12 (fun j=>LineM.C ((lstL C FL).getD j line0)),.r (AU.map fun b=>⟨b,0,none⟩) kU aU 22 (fun j=>UnitM.C ((lstU C FU).getD j unit0)),.r (AS.map fun b=>⟨b,0,none⟩) (0+C.stores.l.length) aS 9 (fun j=>StoreM.C (C.stores.l.getD j store0)),.s 8 kE,.s 9 0] (flatR i (busT C A cap i)) [] [] [] (flatR kE (celE C FE kE)) [] 77 (rowE C kE a)) (fls:=fun _=>[famD C A cap i]) ((A0.map fun b=>⟨b,0,none⟩,a0),(A1.map fun b=>⟨b,0,none⟩,a1),(A2.map fun b=>⟨b,0,none⟩,a2)) trivial rfl ⟨rfl,rfl,rfl,rfl,rfl,rfl,rfl,rfl,rfl,rfl,rfl⟩ ⟨rfl,trivial⟩ ⟨rfl,rfl⟩ (Nat.zero_le _) (blJ_sc rfl busF_clo no_clo no_clo no_clo (fl_clo celE_clo _) no_clo rfl) rfl)))⟩⟩⟩⟩⟩⟩⟩⟩,⟨rfl,⟨ap0 (fun _=>rfl) (int_clo _) (hB.ti kE) bL,clo_men' (resF_clo C),clo_men' busF_clo,men0,men0,men0,clo_men' (fl_clo celE_clo _),men0,men0,men0,rfl,⟨ap0 (fun _=>rfl) (int_clo _) (hB.te kE) bL,clo_men' (resF_clo C),clo_men' busF_clo,men0,men0,men0,clo_men' (fl_clo celE_clo _),men0,clo_men' (fl_clo (int_clo _) _),men0,rfl,⟨ap0 (fun _=>rfl) (int_clo _) (hB.tp kE) bL,clo_men' (resF_clo C),clo_men' busF_clo,men0,men0,men0,clo_men' (fl_clo celE_clo _),men0,clo_men' (fl_clo (int_clo _) _),clo_men' (fl_clo (int_clo _) _),rfl,gsG (nb:=0) 11 rfl bL (fl_clo (int_clo _) _) bL rfl fun A0 a0=>⟨_,map_id' sink_clo (resF_clo C),_,map_id' sink_clo busF_clo,_,rfl,_,rfl,_,rfl,_,map_id' sink_clo (fl_clo celE_clo _),_,rfl,_,map_id' sink_clo (fl_clo (int_clo _) _),_,map_id' sink_clo (fl_clo (int_clo _) _),gsG (nb:=0) 12 rfl bL (fl_clo (int_clo _) _) bL rfl fun A1 a1=>⟨_,map_id' sink_clo (resF_clo C),_,map_id' sink_clo busF_clo,_,rfl,_,rfl,_,rfl,_,map_id' sink_clo (fl_clo celE_clo _),_,rfl,_,rfl,_,map_id' sink_clo (fl_clo (int_clo _) _),gsG (nb:=0) 13 rfl bL (fl_clo (int_clo _) _) bL rfl fun A2 a2=>⟨_,map_id' sink_clo (resF_clo C),_,map_id' sink_clo busF_clo,_,rfl,_,rfl,_,rfl,_,map_id' sink_clo (fl_clo celE_clo _),_,rfl,_,rfl,_,rfl,gfree tGt 10 1 ((((gE C kE).C.set 2 (.r (A0.map fun b=>⟨b,0,none⟩) (0+(gE C kE).imp.l.length) a0 1 fun j=>[iC ((gE C kE).imp.l.getD j 0)])).set 3 (.h A1 (0+(gE C kE).exp.l.length) a1)).set 4 (.h A2 (0+(gE C kE).price.l.length) a2)) rfl rfl rfl rfl (frset (k0:=2) rfl (frc bL fun _=>rfl)) (gfree tGt 10 2 ((((gE C kE).C.set 2 (.r (A0.map fun b=>⟨b,0,none⟩) (0+(gE C kE).imp.l.length) a0 1 fun j=>[iC ((gE C kE).imp.l.getD j 0)])).set 3 (.r (A1.map fun b=>⟨b,0,none⟩) (0+(gE C kE).exp.l.length) a1 1 fun j=>[iC ((gE C kE).exp.l.getD j 0)])).set 4 (.h A2 (0+(gE C kE).price.l.length) a2)) rfl rfl rfl rfl (frset (k0:=3) rfl (frc bL fun _=>rfl)) (gfree tGt 10 3 (rowE C kE ((A0.map fun b=>⟨b,0,none⟩,a0),(A1.map fun b=>⟨b,0,none⟩,a1),(A2.map fun b=>⟨b,0,none⟩,a2))) rfl rfl rfl rfl (frset (k0:=4) rfl (frc bL fun _=>rfl)) (gfin hME (chg:=fun _:(Option Addr×Nat)×(Option Addr×Nat)×(Option Addr×Nat)=>[(11,.c (.p 10 0)),(10,.c (iC kE))]) (bls:=fun a=>blJ C [iC C.hours,.s 3 C.reserve.l.length,.s 4 i,.r (AL.map fun b=>⟨b,0,none⟩) kL aL 12 (fun j=>LineM.C ((lstL C FL).getD j line0)),.r (AU.map fun b=>⟨b,0,none⟩) kU aU 22 (fun j=>UnitM.C ((lstU C FU).getD j unit0)),.r (AS.map fun b=>⟨b,0,none⟩) (0+C.stores.l.length) aS 9 (fun j=>StoreM.C (C.stores.l.getD j store0)),.s 8 kE,.s 9 0] (flatR i (busT C A cap i)) [] [] [] (flatR kE (celE C FE kE)) [] 77 (rowE C kE a)) (fls:=fun _=>[famD C A cap i]) ((A0.map fun b=>⟨b,0,none⟩,a0),(A1.map fun b=>⟨b,0,none⟩,a1),(A2.map fun b=>⟨b,0,none⟩,a2)) trivial rfl ⟨rfl,rfl,rfl,rfl,rfl,rfl,rfl,rfl,rfl,rfl,rfl⟩ ⟨rfl,trivial⟩ ⟨rfl,rfl⟩ (Nat.zero_le _) (blJ_sc rfl busF_clo no_clo no_clo no_clo (fl_clo celE_clo _) no_clo rfl) rfl)))⟩⟩⟩⟩⟩⟩⟩⟩⟩,⟨rfl,⟨⟨ap0 (fun _=>rfl) (int_clo _) (hB.ti kE) bL,clo_men' (resF_clo C),clo_men' busF_clo,men0,men0,men0,clo_men' (fl_clo celE_clo _),men0,men0,rfl,⟨rfl,⟨ap0 (fun _=>rfl) (int_clo _) (hB.te kE) bL,clo_men' (resF_clo C),clo_men' busF_clo,men0,men0,men0,clo_men' (fl_clo celE_clo _),men0,clo_men' (fl_clo (int_clo _) _),men0,rfl,⟨ap0 (fun _=>rfl) (int_clo _) (hB.tp kE) bL,clo_men' (resF_clo C),clo_men' busF_clo,men0,men0,men0,clo_men' (fl_clo celE_clo _),men0,clo_men' (fl_clo (int_clo _) _),clo_men' (fl_clo (int_clo _) _),rfl,gsG (nb:=0) 11 rfl bL (fl_clo (int_clo _) _) bL rfl fun A0 a0=>⟨_,map_id' sink_clo (resF_clo C),_,map_id' sink_clo busF_clo,_,rfl,_,rfl,_,rfl,_,map_id' sink_clo (fl_clo celE_clo _),_,rfl,_,map_id' sink_clo (fl_clo (int_clo _) _),_,map_id' sink_clo (fl_clo (int_clo _) _),gsG (nb:=0) 13 rfl bL (fl_clo (int_clo _) _) bL rfl fun A1 a1=>⟨_,map_id' sink_clo (resF_clo C),_,map_id' sink_clo busF_clo,_,rfl,_,rfl,_,rfl,_,map_id' sink_clo (fl_clo celE_clo _),_,rfl,_,rfl,_,map_id' sink_clo (fl_clo (int_clo _) _),gsG (nb:=0) 12 rfl bL (fl_clo (int_clo _) _) bL rfl fun A2 a2=>⟨_,map_id' sink_clo (resF_clo C),_,map_id' sink_clo busF_clo,_,rfl,_,rfl,_,rfl,_,map_id' sink_clo (fl_clo celE_clo _),_,rfl,_,rfl,_,rfl,gfree tGt 10 1 ((((gE C kE).C.set 2 (.r (A0.map fun b=>⟨b,0,none⟩) (0+(gE C kE).imp.l.length) a0 1 fun j=>[iC ((gE C kE).imp.l.getD j 0)])).set 3 (.h A1 (0+(gE C kE).exp.l.length) a1)).set 4 (.h A2 (0+(gE C kE).price.l.length) a2)) rfl rfl rfl rfl (frset (k0:=2) rfl (frc bL fun _=>rfl)) (gfree tGt 10 2 ((((gE C kE).C.set 2 (.r (A0.map fun b=>⟨b,0,none⟩) (0+(gE C kE).imp.l.length) a0 1 fun j=>[iC ((gE C kE).imp.l.getD j 0)])).set 3 (.r (A1.map fun b=>⟨b,0,none⟩) (0+(gE C kE).exp.l.length) a1 1 fun j=>[iC ((gE C kE).exp.l.getD j 0)])).set 4 (.h A2 (0+(gE C kE).price.l.length) a2)) rfl rfl rfl rfl (frset (k0:=3) rfl (frc bL fun _=>rfl)) (gfree tGt 10 3 (rowE C kE ((A0.map fun b=>⟨b,0,none⟩,a0),(A1.map fun b=>⟨b,0,none⟩,a1),(A2.map fun b=>⟨b,0,none⟩,a2))) rfl rfl rfl rfl (frset (k0:=4) rfl (frc bL fun _=>rfl)) (gfin hME (chg:=fun _:(Option Addr×Nat)×(Option Addr×Nat)×(Option Addr×Nat)=>[(11,.c (.p 10 0)),(10,.c (iC kE))]) (bls:=fun a=>blJ C [iC C.hours,.s 3 C.reserve.l.length,.s 4 i,.r (AL.map fun b=>⟨b,0,none⟩) kL aL 12 (fun j=>LineM.C ((lstL C FL).getD j line0)),.r (AU.map fun b=>⟨b,0,none⟩) kU aU 22 (fun j=>UnitM.C ((lstU C FU).getD j unit0)),.r (AS.map fun b=>⟨b,0,none⟩) (0+C.stores.l.length) aS 9 (fun j=>StoreM.C (C.stores.l.getD j store0)),.s 8 kE,.s 9 0] (flatR i (busT C A cap i)) [] [] [] (flatR kE (celE C FE kE)) [] 77 (rowE C kE a)) (fls:=fun _=>[famD C A cap i]) ((A0.map fun b=>⟨b,0,none⟩,a0),(A1.map fun b=>⟨b,0,none⟩,a1),(A2.map fun b=>⟨b,0,none⟩,a2)) trivial rfl ⟨rfl,rfl,rfl,rfl,rfl,rfl,rfl,rfl,rfl,rfl,rfl⟩ ⟨rfl,trivial⟩ ⟨rfl,rfl⟩ (Nat.zero_le _) (blJ_sc rfl busF_clo no_clo no_clo no_clo (fl_clo celE_clo _) no_clo rfl) rfl)))⟩⟩⟩⟩⟩⟩⟩,⟨rfl,⟨ap0 (fun _=>rfl) (int_clo _) (hB.ti kE) bL,clo_men' (resF_clo C),clo_men' busF_clo,men0,men0,men0,clo_men' (fl_clo celE_clo _),men0,men0,men0,rfl,⟨ap0 (fun _=>rfl) (int_clo _) (hB.te kE) bL,clo_men' (resF_clo C),clo_men' busF_clo,men0,men0,men0,clo_men' (fl_clo celE_clo _),men0,clo_men' (fl_clo (int_clo _) _),men0,rfl,⟨ap0 (fun _=>rfl) (int_clo _) (hB.tp kE) bL,clo_men' (resF_clo C),clo_men' busF_clo,men0,men0,men0,clo_men' (fl_clo celE_clo _),men0,clo_men' (fl_clo (int_clo _) _),clo_men' (fl_clo (int_clo _) _),rfl,gsG (nb:=0) 11 rfl bL (fl_clo (int_clo _) _) bL rfl fun A0 a0=>⟨_,map_id' sink_clo (resF_clo C),_,map_id' sink_clo busF_clo,_,rfl,_,rfl,_,rfl,_,map_id' sink_clo (fl_clo celE_clo _),_,rfl,_,map_id' sink_clo (fl_clo (int_clo _) _),_,map_id' sink_clo (fl_clo (int_clo _) _),gsG (nb:=0) 13 rfl bL (fl_clo (int_clo _) _) bL rfl fun A1 a1=>⟨_,map_id' sink_clo (resF_clo C),_,map_id' sink_clo busF_clo,_,rfl,_,rfl,_,rfl,_,map_id' sink_clo (fl_clo celE_clo _),_,rfl,_,rfl,_,map_id' sink_clo (fl_clo (int_clo _) _),gsG (nb:=0) 12 rfl bL (fl_clo (int_clo _) _) bL rfl fun A2 a2=>⟨_,map_id' sink_clo (resF_clo C),_,map_id' sink_clo busF_clo,_,rfl,_,rfl,_,rfl,_,map_id' sink_clo (fl_clo celE_clo _),_,rfl,_,rfl,_,rfl,gfree tGt 10 1 ((((gE C kE).C.set 2 (.r (A0.map fun b=>⟨b,0,none⟩) (0+(gE C kE).imp.l.length) a0 1 fun j=>[iC ((gE C kE).imp.l.getD j 0)])).set 3 (.h A1 (0+(gE C kE).exp.l.length) a1)).set 4 (.h A2 (0+(gE C kE).price.l.length) a2)) rfl rfl rfl rfl (frset (k0:=2) rfl (frc bL fun _=>rfl)) (gfree tGt 10 2 ((((gE C kE).C.set 2 (.r (A0.map fun b=>⟨b,0,none⟩) (0+(gE C kE).imp.l.length) a0 1 fun j=>[iC ((gE C kE).imp.l.getD j 0)])).set 3 (.r (A1.map fun b=>⟨b,0,none⟩) (0+(gE C kE).exp.l.length) a1 1 fun j=>[iC ((gE C kE).exp.l.getD j 0)])).set 4 (.h A2 (0+(gE C kE).price.l.length) a2)) rfl rfl rfl rfl (frset (k0:=3) rfl (frc bL fun _=>rfl)) (gfree tGt 10 3 (rowE C kE ((A0.map fun b=>⟨b,0,none⟩,a0),(A1.map fun b=>⟨b,0,none⟩,a1),(A2.map fun b=>⟨b,0,none⟩,a2))) rfl rfl rfl rfl (frset (k0:=4) rfl (frc bL fun _=>rfl)) (gfin hME (chg:=fun _:(Option Addr×Nat)×(Option Addr×Nat)×(Option Addr×Nat)=>[(11,.c (.p 10 0)),(10,.c (iC kE))]) (bls:=fun a=>blJ C [iC C.hours,.s 3 C.reserve.l.length,.s 4 i,.r (AL.map fun b=>⟨b,0,none⟩) kL aL 12 (fun j=>LineM.C ((lstL C FL).getD j line0)),.r (AU.map fun b=>⟨b,0,none⟩) kU aU 22 (fun j=>UnitM.C ((lstU C FU).getD j unit0)),.r (AS.map fun b=>⟨b,0,none⟩) (0+C.stores.l.length) aS 9 (fun j=>StoreM.C (C.stores.l.getD j store0)),.s 8 kE,.s 9 0] (flatR i (busT C A cap i)) [] [] [] (flatR kE (celE C FE kE)) [] 77 (rowE C kE a)) (fls:=fun _=>[famD C A cap i]) ((A0.map fun b=>⟨b,0,none⟩,a0),(A1.map fun b=>⟨b,0,none⟩,a1),(A2.map fun b=>⟨b,0,none⟩,a2)) trivial rfl ⟨rfl,rfl,rfl,rfl,rfl,rfl,rfl,rfl,rfl,rfl,rfl⟩ ⟨rfl,trivial⟩ ⟨rfl,rfl⟩ (Nat.zero_le _) (blJ_sc rfl busF_clo no_clo no_clo no_clo (fl_clo celE_clo _) no_clo rfl) rfl)))⟩⟩⟩⟩⟩⟩⟩⟩⟩⟩⟩,⟨rfl,⟨⟨rfl,⟨⟨ap0 (fun _=>rfl) (int_clo _) (hB.ti kE) bL,clo_men' (resF_clo C),clo_men' busF_clo,men0,men0,men0,clo_men' (fl_clo celE_clo _),men0,men0,rfl,⟨⟨ap0 (fun _=>rfl) (int_clo _) (hB.te kE) bL,clo_men' (resF_clo C),clo_men' busF_clo,men0,men0,men0,clo_men' (fl_clo celE_clo _),men0,clo_men' (fl_clo (int_clo _) _),rfl,⟨rfl,⟨ap0 (fun _=>rfl) (int_clo _) (hB.tp kE) bL,clo_men' (resF_clo C),clo_men' busF_clo,men0,men0,men0,clo_men' (fl_clo celE_clo _),men0,clo_men' (fl_clo (int_clo _) _),clo_men' (fl_clo (int_clo _) _),rfl,gsG (nb:=0) 12 rfl bL (fl_clo (int_clo _) _) bL rfl fun A0 a0=>⟨_,map_id' sink_clo (resF_clo C),_,map_id' sink_clo busF_clo,_,rfl,_,rfl,_,rfl,_,map_id' sink_clo (fl_clo celE_clo _),_,rfl,_,map_id' sink_clo (fl_clo (int_clo _) _),_,map_id' sink_clo (fl_clo (int_clo _) _),gsG (nb:=0) 11 rfl bL (fl_clo (int_clo _) _) bL rfl fun A1 a1=>⟨_,map_id' sink_clo (resF_clo C),_,map_id' sink_clo busF_clo,_,rfl,_,rfl,_,rfl,_,map_id' sink_clo (fl_clo celE_clo _),_,rfl,_,rfl,_,map_id' sink_clo (fl_clo (int_clo _) _),gsG (nb:=0) 13 rfl bL (fl_clo (int_clo _) _) bL rfl fun A2 a2=>⟨_,map_id' sink_clo (resF_clo C),_,map_id' sink_clo busF_clo,_,rfl,_,rfl,_,rfl,_,map_id' sink_clo (fl_clo celE_clo _),_,rfl,_,rfl,_,rfl,gfree tGt 10 1 ((((gE C kE).C.set 2 (.r (A0.map fun b=>⟨b,0,none⟩) (0+(gE C kE).imp.l.length) a0 1 fun j=>[iC ((gE C kE).imp.l.getD j 0)])).set 3 (.h A1 (0+(gE C kE).exp.l.length) a1)).set 4 (.h A2 (0+(gE C kE).price.l.length) a2)) rfl rfl rfl rfl (frset (k0:=2) rfl (frc bL fun _=>rfl)) (gfree tGt 10 2 ((((gE C kE).C.set 2 (.r (A0.map fun b=>⟨b,0,none⟩) (0+(gE C kE).imp.l.length) a0 1 fun j=>[iC ((gE C kE).imp.l.getD j 0)])).set 3 (.r (A1.map fun b=>⟨b,0,none⟩) (0+(gE C kE).exp.l.length) a1 1 fun j=>[iC ((gE C kE).exp.l.getD j 0)])).set 4 (.h A2 (0+(gE C kE).price.l.length) a2)) rfl rfl rfl rfl (frset (k0:=3) rfl (frc bL fun _=>rfl)) (gfree tGt 10 3 (rowE C kE ((A0.map fun b=>⟨b,0,none⟩,a0),(A1.map fun b=>⟨b,0,none⟩,a1),(A2.map fun b=>⟨b,0,none⟩,a2))) rfl rfl rfl rfl (frset (k0:=4) rfl (frc bL fun _=>rfl)) (gfin hME (chg:=fun _:(Option Addr×Nat)×(Option Addr×Nat)×(Option Addr×Nat)=>[(11,.c (.p 10 0)),(10,.c (iC kE))]) (bls:=fun a=>blJ C [iC C.hours,.s 3 C.reserve.l.length,.s 4 i,.r (AL.map fun b=>⟨b,0,none⟩) kL aL 12 (fun j=>LineM.C ((lstL C FL).getD j line0)),.r (AU.map fun b=>⟨b,0,none⟩) kU aU 22 (fun j=>UnitM.C ((lstU C FU).getD j unit0)),.r (AS.map fun b=>⟨b,0,none⟩) (0+C.stores.l.length) aS 9 (fun j=>StoreM.C (C.stores.l.getD j store0)),.s 8 kE,.s 9 0] (flatR i (busT C A cap i)) [] [] [] (flatR kE (celE C FE kE)) [] 77 (rowE C kE a)) (fls:=fun _=>[famD C A cap i]) ((A0.map fun b=>⟨b,0,none⟩,a0),(A1.map fun b=>⟨b,0,none⟩,a1),(A2.map fun b=>⟨b,0,none⟩,a2)) trivial rfl ⟨rfl,rfl,rfl,rfl,rfl,rfl,rfl,rfl,rfl,rfl,rfl⟩ ⟨rfl,trivial⟩ ⟨rfl,rfl⟩ (Nat.zero_le _) (blJ_sc rfl busF_clo no_clo no_clo no_clo (fl_clo celE_clo _) no_clo rfl) rfl)))⟩⟩⟩⟩⟩⟩,⟨rfl,⟨ap0 (fun _=>rfl) (int_clo _) (hB.te kE) bL,clo_men' (resF_clo C),clo_men' busF_clo,men0,men0,men0,clo_men' (fl_clo celE_clo _),men0,clo_men' (fl_clo (int_clo _) _),men0,rfl,⟨ap0 (fun _=>rfl) (int_clo _) (hB.tp kE) bL,clo_men' (resF_clo C),clo_men' busF_clo,men0,men0,men0,clo_men' (fl_clo celE_clo _),men0,clo_men' (fl_clo (int_clo _) _),clo_men' (fl_clo (int_clo _) _),rfl,gsG (nb:=0) 12 rfl bL (fl_clo (int_clo _) _) bL rfl fun A0 a0=>⟨_,map_id' sink_clo (resF_clo C),_,map_id' sink_clo busF_clo,_,rfl,_,rfl,_,rfl,_,map_id' sink_clo (fl_clo celE_clo _),_,rfl,_,map_id' sink_clo (fl_clo (int_clo _) _),_,map_id' sink_clo (fl_clo (int_clo _) _),gsG (nb:=0) 11 rfl bL (fl_clo (int_clo _) _) bL rfl fun A1 a1=>⟨_,map_id' sink_clo (resF_clo C),_,map_id' sink_clo busF_clo,_,rfl,_,rfl,_,rfl,_,map_id' sink_clo (fl_clo celE_clo _),_,rfl,_,rfl,_,map_id' sink_clo (fl_clo (int_clo _) _),gsG (nb:=0) 13 rfl bL (fl_clo (int_clo _) _) bL rfl fun A2 a2=>⟨_,map_id' sink_clo (resF_clo C),_,map_id' sink_clo busF_clo,_,rfl,_,rfl,_,rfl,_,map_id' sink_clo (fl_clo celE_clo _),_,rfl,_,rfl,_,rfl,gfree tGt 10 1 ((((gE C kE).C.set 2 (.r (A0.map fun b=>⟨b,0,none⟩) (0+(gE C kE).imp.l.length) a0 1 fun j=>[iC ((gE C kE).imp.l.getD j 0)])).set 3 (.h A1 (0+(gE C kE).exp.l.length) a1)).set 4 (.h A2 (0+(gE C kE).price.l.length) a2)) rfl rfl rfl rfl (frset (k0:=2) rfl (frc bL fun _=>rfl)) (gfree tGt 10 2 ((((gE C kE).C.set 2 (.r (A0.map fun b=>⟨b,0,none⟩) (0+(gE C kE).imp.l.length) a0 1 fun j=>[iC ((gE C kE).imp.l.getD j 0)])).set 3 (.r (A1.map fun b=>⟨b,0,none⟩) (0+(gE C kE).exp.l.length) a1 1 fun j=>[iC ((gE C kE).exp.l.getD j 0)])).set 4 (.h A2 (0+(gE C kE).price.l.length) a2)) rfl rfl rfl rfl (frset (k0:=3) rfl (frc bL fun _=>rfl)) (gfree tGt 10 3 (rowE C kE ((A0.map fun b=>⟨b,0,none⟩,a0),(A1.map fun b=>⟨b,0,none⟩,a1),(A2.map fun b=>⟨b,0,none⟩,a2))) rfl rfl rfl rfl (frset (k0:=4) rfl (frc bL fun _=>rfl)) (gfin hME (chg:=fun _:(Option Addr×Nat)×(Option Addr×Nat)×(Option Addr×Nat)=>[(11,.c (.p 10 0)),(10,.c (iC kE))]) (bls:=fun a=>blJ C [iC C.hours,.s 3 C.reserve.l.length,.s 4 i,.r (AL.map fun b=>⟨b,0,none⟩) kL aL 12 (fun j=>LineM.C ((lstL C FL).getD j line0)),.r (AU.map fun b=>⟨b,0,none⟩) kU aU 22 (fun j=>UnitM.C ((lstU C FU).getD j unit0)),.r (AS.map fun b=>⟨b,0,none⟩) (0+C.stores.l.length) aS 9 (fun j=>StoreM.C (C.stores.l.getD j store0)),.s 8 kE,.s 9 0] (flatR i (busT C A cap i)) [] [] [] (flatR kE (celE C FE kE)) [] 77 (rowE C kE a)) (fls:=fun _=>[famD C A cap i]) ((A0.map fun b=>⟨b,0,none⟩,a0),(A1.map fun b=>⟨b,0,none⟩,a1),(A2.map fun b=>⟨b,0,none⟩,a2)) trivial rfl ⟨rfl,rfl,rfl,rfl,rfl,rfl,rfl,rfl,rfl,rfl,rfl⟩ ⟨rfl,trivial⟩ ⟨rfl,rfl⟩ (Nat.zero_le _) (blJ_sc rfl busF_clo no_clo no_clo no_clo (fl_clo celE_clo _) no_clo rfl) rfl)))⟩⟩⟩⟩⟩⟩⟩⟩,⟨rfl,⟨ap0 (fun _=>rfl) (int_clo _) (hB.ti kE) bL,clo_men' (resF_clo C),clo_men' busF_clo,men0,men0,men0,clo_men' (fl_clo celE_clo _),men0,men0,men0,rfl,⟨ap0 (fun _=>rfl) (int_clo _) (hB.te kE) bL,clo_men' (resF_clo C),clo_men' busF_clo,men0,men0,men0,clo_men' (fl_clo celE_clo _),men0,clo_men' (fl_clo (int_clo _) _),men0,rfl,⟨ap0 (fun _=>rfl) (int_clo _) (hB.tp kE) bL,clo_men' (resF_clo C),clo_men' busF_clo,men0,men0,men0,clo_men' (fl_clo celE_clo _),men0,clo_men' (fl_clo (int_clo _) _),clo_men' (fl_clo (int_clo _) _),rfl,gsG (nb:=0) 12 rfl bL (fl_clo (int_clo _) _) bL rfl fun A0 a0=>⟨_,map_id' sink_clo (resF_clo C),_,map_id' sink_clo busF_clo,_,rfl,_,rfl,_,rfl,_,map_id' sink_clo (fl_clo celE_clo _),_,rfl,_,map_id' sink_clo (fl_clo (int_clo _) _),_,map_id' sink_clo (fl_clo (int_clo _) _),gsG (nb:=0) 11 rfl bL (fl_clo (int_clo _) _) bL rfl fun A1 a1=>⟨_,map_id' sink_clo (resF_clo C),_,map_id' sink_clo busF_clo,_,rfl,_,rfl,_,rfl,_,map_id' sink_clo (fl_clo celE_clo _),_,rfl,_,rfl,_,map_id' sink_clo (fl_clo (int_clo _) _),gsG (nb:=0) 13 rfl bL (fl_clo (int_clo _) _) bL rfl fun A2 a2=>⟨_,map_id' sink_clo (resF_clo C),_,map_id' sink_clo busF_clo,_,rfl,_,rfl,_,rfl,_,map_id' sink_clo (fl_clo celE_clo _),_,rfl,_,rfl,_,rfl,gfree tGt 10 1 ((((gE C kE).C.set 2 (.r (A0.map fun b=>⟨b,0,none⟩) (0+(gE C kE).imp.l.length) a0 1 fun j=>[iC ((gE C kE).imp.l.getD j 0)])).set 3 (.h A1 (0+(gE C kE).exp.l.length) a1)).set 4 (.h A2 (0+(gE C kE).price.l.length) a2)) rfl rfl rfl rfl (frset (k0:=2) rfl (frc bL fun _=>rfl)) (gfree tGt 10 2 ((((gE C kE).C.set 2 (.r (A0.map fun b=>⟨b,0,none⟩) (0+(gE C kE).imp.l.length) a0 1 fun j=>[iC ((gE C kE).imp.l.getD j 0)])).set 3 (.r (A1.map fun b=>⟨b,0,none⟩) (0+(gE C kE).exp.l.length) a1 1 fun j=>[iC ((gE C kE).exp.l.getD j 0)])).set 4 (.h A2 (0+(gE C kE).price.l.length) a2)) rfl rfl rfl rfl (frset (k0:=3) rfl (frc bL fun _=>rfl)) (gfree tGt 10 3 (rowE C kE ((A0.map fun b=>⟨b,0,none⟩,a0),(A1.map fun b=>⟨b,0,none⟩,a1),(A2.map fun b=>⟨b,0,none⟩,a2))) rfl rfl rfl rfl (frset (k0:=4) rfl (frc bL fun _=>rfl)) (gfin hME (chg:=fun _:(Option Addr×Nat)×(Option Addr×Nat)×(Option Addr×Nat)=>[(11,.c (.p 10 0)),(10,.c (iC kE))]) (bls:=fun a=>blJ C [iC C.hours,.s 3 C.reserve.l.length,.s 4 i,.r (AL.map fun b=>⟨b,0,none⟩) kL aL 12 (fun j=>LineM.C ((lstL C FL).getD j line0)),.r (AU.map fun b=>⟨b,0,none⟩) kU aU 22 (fun j=>UnitM.C ((lstU C FU).getD j unit0)),.r (AS.map fun b=>⟨b,0,none⟩) (0+C.stores.l.length) aS 9 (fun j=>StoreM.C (C.stores.l.getD j store0)),.s 8 kE,.s 9 0] (flatR i (busT C A cap i)) [] [] [] (flatR kE (celE C FE kE)) [] 77 (rowE C kE a)) (fls:=fun _=>[famD C A cap i]) ((A0.map fun b=>⟨b,0,none⟩,a0),(A1.map fun b=>⟨b,0,none⟩,a1),(A2.map fun b=>⟨b,0,none⟩,a2)) trivial rfl ⟨rfl,rfl,rfl,rfl,rfl,rfl,rfl,rfl,rfl,rfl,rfl⟩ ⟨rfl,trivial⟩ ⟨rfl,rfl⟩ (Nat.zero_le _) (blJ_sc rfl busF_clo no_clo no_clo no_clo (fl_clo celE_clo _) no_clo rfl) rfl)))⟩⟩⟩⟩⟩⟩⟩⟩⟩,⟨rfl,⟨rfl,⟨ap0 (fun _=>rfl) (int_clo _) (hB.ti kE) bL,clo_men' (resF_clo C),clo_men' busF_clo,men0,men0,men0,clo_men' (fl_clo celE_clo _),men0,men0,men0,rfl,⟨ap0 (fun _=>rfl) (int_clo _) (hB.te kE) bL,clo_men' (resF_clo C),clo_men' busF_clo,men0,men0,men0,clo_men' (fl_clo celE_clo _),men0,men0,clo_men' (fl_clo (int_clo _) _),rfl,⟨ap0 (fun _=>rfl) (int_clo _) (hB.tp kE) bL,clo_men' (resF_clo C),clo_men' busF_clo,men0,men0,men0,clo_men' (fl_clo celE_clo _),men0,clo_men' (fl_clo (int_clo _) _),clo_men' (fl_clo (int_clo _) _),rfl,gsG (nb:=0) 13 rfl bL (fl_clo (int_clo _) _) bL rfl fun A0 a0=>⟨_,map_id' sink_clo (resF_clo C),_,map_id' sink_clo busF_clo,_,rfl,_,rfl,_,rfl,_,map_id' sink_clo (fl_clo celE_clo _),_,rfl,_,map_id' sink_clo (fl_clo (int_clo _) _),_,map_id' sink_clo (fl_clo (int_clo _) _),gsG (nb:=0) 11 rfl bL (fl_clo (int_clo _) _) bL rfl fun A1 a1=>⟨_,map_id' sink_clo (resF_clo C),_,map_id' sink_clo busF_clo,_,rfl,_,rfl,_,rfl,_,map_id' sink_clo (fl_clo celE_clo _),_,rfl,_,map_id' sink_clo (fl_clo (int_clo _) _),_,rfl,gsG (nb:=0) 12 rfl bL (fl_clo (int_clo _) _) bL rfl fun A2 a2=>⟨_,map_id' sink_clo (resF_clo C),_,map_id' sink_clo busF_clo,_,rfl,_,rfl,_,rfl,_,map_id' sink_clo (fl_clo celE_clo _),_,rfl,_,rfl,_,rfl,gfree tGt 10 1 ((((gE C kE).C.set 2 (.r (A0.map fun b=>⟨b,0,none⟩) (0+(gE C kE).imp.l.length) a0 1 fun j=>[iC ((gE C kE).imp.l.getD j 0)])).set 3 (.h A1 (0+(gE C kE).exp.l.length) a1)).set 4 (.h A2 (0+(gE C kE).price.l.length) a2)) rfl rfl rfl rfl (frset (k0:=2) rfl (frc bL fun _=>rfl)) (gfree tGt 10 2 ((((gE C kE).C.set 2 (.r (A0.map fun b=>⟨b,0,none⟩) (0+(gE C kE).imp.l.length) a0 1 fun j=>[iC ((gE C kE).imp.l.getD j 0)])).set 3 (.r (A1.map fun b=>⟨b,0,none⟩) (0+(gE C kE).exp.l.length) a1 1 fun j=>[iC ((gE C kE).exp.l.getD j 0)])).set 4 (.h A2 (0+(gE C kE).price.l.length) a2)) rfl rfl rfl rfl (frset (k0:=3) rfl (frc bL fun _=>rfl)) (gfree tGt 10 3 (rowE C kE ((A0.map fun b=>⟨b,0,none⟩,a0),(A1.map fun b=>⟨b,0,none⟩,a1),(A2.map fun b=>⟨b,0,none⟩,a2))) rfl rfl rfl rfl (frset (k0:=4) rfl (frc bL fun _=>rfl)) (gfin hME (chg:=fun _:(Option Addr×Nat)×(Option Addr×Nat)×(Option Addr×Nat)=>[(11,.c (.p 10 0)),(10,.c (iC kE))]) (bls:=fun a=>blJ C [iC C.hours,.s 3 C.reserve.l.length,.s 4 i,.r (AL.map fun b=>⟨b,0,none⟩) kL aL 12 (fun j=>LineM.C ((lstL C FL).getD j line0)),.r (AU.map fun b=>⟨b,0,none⟩) kU aU 22 (fun j=>UnitM.C ((lstU C FU).getD j unit0)),.r (AS.map fun b=>⟨b,0,none⟩) (0+C.stores.l.length) aS 9 (fun j=>StoreM.C (C.stores.l.getD j store0)),.s 8 kE,.s 9 0] (flatR i (busT C A cap i)) [] [] [] (flatR kE (celE C FE kE)) [] 77 (rowE C kE a)) (fls:=fun _=>[famD C A cap i]) ((A0.map fun b=>⟨b,0,none⟩,a0),(A1.map fun b=>⟨b,0,none⟩,a1),(A2.map fun b=>⟨b,0,none⟩,a2)) trivial rfl ⟨rfl,rfl,rfl,rfl,rfl,rfl,rfl,rfl,rfl,rfl,rfl⟩ ⟨rfl,trivial⟩ ⟨rfl,rfl⟩ (Nat.zero_le _) (blJ_sc rfl busF_clo no_clo no_clo no_clo (fl_clo celE_clo _) no_clo rfl) rfl)))⟩⟩⟩⟩⟩⟩⟩⟩⟩⟩,⟨rfl,⟨⟨rfl,⟨⟨ap0 (fun _=>rfl) (int_clo _) (hB.ti kE) bL,clo_men' (resF_clo C),clo_men' busF_clo,men0,men0,men0,clo_men' (fl_clo celE_clo _),men0,men0,rfl,⟨rfl,⟨ap0 (fun _=>rfl) (int_clo _) (hB.te kE) bL,clo_men' (resF_clo C),clo_men' busF_clo,men0,men0,men0,clo_men' (fl_clo celE_clo _),men0,men0,clo_men' (fl_clo (int_clo _) _),rfl,⟨ap0 (fun _=>rfl) (int_clo _) (hB.tp kE) bL,clo_men' (resF_clo C),clo_men' busF_clo,men0,men0,men0,clo_men' (fl_clo celE_clo _),men0,clo_men' (fl_clo (int_clo _) _),clo_men' (fl_clo (int_clo _) _),rfl,gsG (nb:=0) 12 rfl bL (fl_clo (int_clo _) _) bL rfl fun A0 a0=>⟨_,map_id' sink_clo (resF_clo C),_,map_id' sink_clo busF_clo,_,rfl,_,rfl,_,rfl,_,map_id' sink_clo (fl_clo celE_clo _),_,rfl,_,map_id' sink_clo (fl_clo (int_clo _) _),_,map_id' sink_clo (fl_clo (int_clo _) _),gsG (nb:=0) 13 rfl bL (fl_clo (int_clo _) _) bL rfl fun A1 a1=>⟨_,map_id' sink_clo (resF_clo C),_,map_id' sink_clo busF_clo,_,rfl,_,rfl,_,rfl,_,map_id' sink_clo (fl_clo celE_clo _),_,rfl,_,map_id' sink_clo (fl_clo (int_clo _) _),_,rfl,gsG (nb:=0) 11 rfl bL (fl_clo (int_clo _) _) bL rfl fun A2 a2=>⟨_,map_id' sink_clo (resF_clo C),_,map_id' sink_clo busF_clo,_,rfl,_,rfl,_,rfl,_,map_id' sink_clo (fl_clo celE_clo _),_,rfl,_,rfl,_,rfl,gfree tGt 10 1 ((((gE C kE).C.set 2 (.r (A0.map fun b=>⟨b,0,none⟩) (0+(gE C kE).imp.l.length) a0 1 fun j=>[iC ((gE C kE).imp.l.getD j 0)])).set 3 (.h A1 (0+(gE C kE).exp.l.length) a1)).set 4 (.h A2 (0+(gE C kE).price.l.length) a2)) rfl rfl rfl rfl (frset (k0:=2) rfl (frc bL fun _=>rfl)) (gfree tGt 10 2 ((((gE C kE).C.set 2 (.r (A0.map fun b=>⟨b,0,none⟩) (0+(gE C kE).imp.l.length) a0 1 fun j=>[iC ((gE C kE).imp.l.getD j 0)])).set 3 (.r (A1.map fun b=>⟨b,0,none⟩) (0+(gE C kE).exp.l.length) a1 1 fun j=>[iC ((gE C kE).exp.l.getD j 0)])).set 4 (.h A2 (0+(gE C kE).price.l.length) a2)) rfl rfl rfl rfl (frset (k0:=3) rfl (frc bL fun _=>rfl)) (gfree tGt 10 3 (rowE C kE ((A0.map fun b=>⟨b,0,none⟩,a0),(A1.map fun b=>⟨b,0,none⟩,a1),(A2.map fun b=>⟨b,0,none⟩,a2))) rfl rfl rfl rfl (frset (k0:=4) rfl (frc bL fun _=>rfl)) (gfin hME (chg:=fun _:(Option Addr×Nat)×(Option Addr×Nat)×(Option Addr×Nat)=>[(11,.c (.p 10 0)),(10,.c (iC kE))]) (bls:=fun a=>blJ C [iC C.hours,.s 3 C.reserve.l.length,.s 4 i,.r (AL.map fun b=>⟨b,0,none⟩) kL aL 12 (fun j=>LineM.C ((lstL C FL).getD j line0)),.r (AU.map fun b=>⟨b,0,none⟩) kU aU 22 (fun j=>UnitM.C ((lstU C FU).getD j unit0)),.r (AS.map fun b=>⟨b,0,none⟩) (0+C.stores.l.length) aS 9 (fun j=>StoreM.C (C.stores.l.getD j store0)),.s 8 kE,.s 9 0] (flatR i (busT C A cap i)) [] [] [] (flatR kE (celE C FE kE)) [] 77 (rowE C kE a)) (fls:=fun _=>[famD C A cap i]) ((A0.map fun b=>⟨b,0,none⟩,a0),(A1.map fun b=>⟨b,0,none⟩,a1),(A2.map fun b=>⟨b,0,none⟩,a2)) trivial rfl ⟨rfl,rfl,rfl,rfl,rfl,rfl,rfl,rfl,rfl,rfl,rfl⟩ ⟨rfl,trivial⟩ ⟨rfl,rfl⟩ (Nat.zero_le _) (blJ_sc rfl busF_clo no_clo no_clo no_clo (fl_clo celE_clo _) no_clo rfl) rfl)))⟩⟩⟩⟩⟩⟩⟩,⟨rfl,⟨ap0 (fun _=>rfl) (int_clo _) (hB.ti kE) bL,clo_men' (resF_clo C),clo_men' busF_clo,men0,men0,men0,clo_men' (fl_clo celE_clo _),men0,men0,men0,rfl,⟨ap0 (fun _=>rfl) (int_clo _) (hB.te kE) bL,clo_men' (resF_clo C),clo_men' busF_clo,men0,men0,men0,clo_men' (fl_clo celE_clo _),men0,men0,clo_men' (fl_clo (int_clo _) _),rfl,⟨ap0 (fun _=>rfl) (int_clo _) (hB.tp kE) bL,clo_men' (resF_clo C),clo_men' busF_clo,men0,men0,men0,clo_men' (fl_clo celE_clo _),men0,clo_men' (fl_clo (int_clo _) _),clo_men' (fl_clo (int_clo _) _),rfl,gsG (nb:=0) 12 rfl bL (fl_clo (int_clo _) _) bL rfl fun A0 a0=>⟨_,map_id' sink_clo (resF_clo C),_,map_id' sink_clo busF_clo,_,rfl,_,rfl,_,rfl,_,map_id' sink_clo (fl_clo celE_clo _),_,rfl,_,map_id' sink_clo (fl_clo (int_clo _) _),_,map_id' sink_clo (fl_clo (int_clo _) _),gsG (nb:=0) 13 rfl bL (fl_clo (int_clo _) _) bL rfl fun A1 a1=>⟨_,map_id' sink_clo (resF_clo C),_,map_id' sink_clo busF_clo,_,rfl,_,rfl,_,rfl,_,map_id' sink_clo (fl_clo celE_clo _),_,rfl,_,map_id' sink_clo (fl_clo (int_clo _) _),_,rfl,gsG (nb:=0) 11 rfl bL (fl_clo (int_clo _) _) bL rfl fun A2 a2=>⟨_,map_id' sink_clo (resF_clo C),_,map_id' sink_clo busF_clo,_,rfl,_,rfl,_,rfl,_,map_id' sink_clo (fl_clo celE_clo _),_,rfl,_,rfl,_,rfl,gfree tGt 10 1 ((((gE C kE).C.set 2 (.r (A0.map fun b=>⟨b,0,none⟩) (0+(gE C kE).imp.l.length) a0 1 fun j=>[iC ((gE C kE).imp.l.getD j 0)])).set 3 (.h A1 (0+(gE C kE).exp.l.length) a1)).set 4 (.h A2 (0+(gE C kE).price.l.length) a2)) rfl rfl rfl rfl (frset (k0:=2) rfl (frc bL fun _=>rfl)) (gfree tGt 10 2 ((((gE C kE).C.set 2 (.r (A0.map fun b=>⟨b,0,none⟩) (0+(gE C kE).imp.l.length) a0 1 fun j=>[iC ((gE C kE).imp.l.getD j 0)])).set 3 (.r (A1.map fun b=>⟨b,0,none⟩) (0+(gE C kE).exp.l.length) a1 1 fun j=>[iC ((gE C kE).exp.l.getD j 0)])).set 4 (.h A2 (0+(gE C kE).price.l.length) a2)) rfl rfl rfl rfl (frset (k0:=3) rfl (frc bL fun _=>rfl)) (gfree tGt 10 3 (rowE C kE ((A0.map fun b=>⟨b,0,none⟩,a0),(A1.map fun b=>⟨b,0,none⟩,a1),(A2.map fun b=>⟨b,0,none⟩,a2))) rfl rfl rfl rfl (frset (k0:=4) rfl (frc bL fun _=>rfl)) (gfin hME (chg:=fun _:(Option Addr×Nat)×(Option Addr×Nat)×(Option Addr×Nat)=>[(11,.c (.p 10 0)),(10,.c (iC kE))]) (bls:=fun a=>blJ C [iC C.hours,.s 3 C.reserve.l.length,.s 4 i,.r (AL.map fun b=>⟨b,0,none⟩) kL aL 12 (fun j=>LineM.C ((lstL C FL).getD j line0)),.r (AU.map fun b=>⟨b,0,none⟩) kU aU 22 (fun j=>UnitM.C ((lstU C FU).getD j unit0)),.r (AS.map fun b=>⟨b,0,none⟩) (0+C.stores.l.length) aS 9 (fun j=>StoreM.C (C.stores.l.getD j store0)),.s 8 kE,.s 9 0] (flatR i (busT C A cap i)) [] [] [] (flatR kE (celE C FE kE)) [] 77 (rowE C kE a)) (fls:=fun _=>[famD C A cap i]) ((A0.map fun b=>⟨b,0,none⟩,a0),(A1.map fun b=>⟨b,0,none⟩,a1),(A2.map fun b=>⟨b,0,none⟩,a2)) trivial rfl ⟨rfl,rfl,rfl,rfl,rfl,rfl,rfl,rfl,rfl,rfl,rfl⟩ ⟨rfl,trivial⟩ ⟨rfl,rfl⟩ (Nat.zero_le _) (blJ_sc rfl busF_clo no_clo no_clo no_clo (fl_clo celE_clo _) no_clo rfl) rfl)))⟩⟩⟩⟩⟩⟩⟩⟩⟩,⟨rfl,⟨rfl,⟨ap0 (fun _=>rfl) (int_clo _) (hB.ti kE) bL,clo_men' (resF_clo C),clo_men' busF_clo,men0,men0,men0,clo_men' (fl_clo celE_clo _),men0,men0,men0,rfl,⟨ap0 (fun _=>rfl) (int_clo _) (hB.te kE) bL,clo_men' (resF_clo C),clo_men' busF_clo,men0,men0,men0,clo_men' (fl_clo celE_clo _),men0,men0,clo_men' (fl_clo (int_clo _) _),rfl,⟨ap0 (fun _=>rfl) (int_clo _) (hB.tp kE) bL,clo_men' (resF_clo C),clo_men' busF_clo,men0,men0,men0,clo_men' (fl_clo celE_clo _),men0,clo_men' (fl_clo (int_clo _) _),clo_men' (fl_clo (int_clo _) _),rfl,gsG (nb:=0) 13 rfl bL (fl_clo (int_clo _) _) bL rfl fun A0 a0=>⟨_,map_id' sink_clo (resF_clo C),_,map_id' sink_clo busF_clo,_,rfl,_,rfl,_,rfl,_,map_id' sink_clo (fl_clo celE_clo _),_,rfl,_,map_id' sink_clo (fl_clo (int_clo _) _),_,map_id' sink_clo (fl_clo (int_clo _) _),gsG (nb:=0) 12 rfl bL (fl_clo (int_clo _) _) bL rfl fun A1 a1=>⟨_,map_id' sink_clo (resF_clo C),_,map_id' sink_clo busF_clo,_,rfl,_,rfl,_,rfl,_,map_id' sink_clo (fl_clo celE_clo _),_,rfl,_,map_id' sink_clo (fl_clo (int_clo _) _),_,rfl,gsG (nb:=0) 11 rfl bL (fl_clo (int_clo _) _) bL rfl fun A2 a2=>⟨_,map_id' sink_clo (resF_clo C),_,map_id' sink_clo busF_clo,_,rfl,_,rfl,_,rfl,_,map_id' sink_clo (fl_clo celE_clo _),_,rfl,_,rfl,_,rfl,gfree tGt 10 1 ((((gE C kE).C.set 2 (.r (A0.map fun b=>⟨b,0,none⟩) (0+(gE C kE).imp.l.length) a0 1 fun j=>[iC ((gE C kE).imp.l.getD j 0)])).set 3 (.h A1 (0+(gE C kE).exp.l.length) a1)).set 4 (.h A2 (0+(gE C kE).price.l.length) a2)) rfl rfl rfl rfl (frset (k0:=2) rfl (frc bL fun _=>rfl)) (gfree tGt 10 2 ((((gE C kE).C.set 2 (.r (A0.map fun b=>⟨b,0,none⟩) (0+(gE C kE).imp.l.length) a0 1 fun j=>[iC ((gE C kE).imp.l.getD j 0)])).set 3 (.r (A1.map fun b=>⟨b,0,none⟩) (0+(gE C kE).exp.l.length) a1 1 fun j=>[iC ((gE C kE).exp.l.getD j 0)])).set 4 (.h A2 (0+(gE C kE).price.l.length) a2)) rfl rfl rfl rfl (frset (k0:=3) rfl (frc bL fun _=>rfl)) (gfree tGt 10 3 (rowE C kE ((A0.map fun b=>⟨b,0,none⟩,a0),(A1.map fun b=>⟨b,0,none⟩,a1),(A2.map fun b=>⟨b,0,none⟩,a2))) rfl rfl rfl rfl (frset (k0:=4) rfl (frc bL fun _=>rfl)) (gfin hME (chg:=fun _:(Option Addr×Nat)×(Option Addr×Nat)×(Option Addr×Nat)=>[(11,.c (.p 10 0)),(10,.c (iC kE))]) (bls:=fun a=>blJ C [iC C.hours,.s 3 C.reserve.l.length,.s 4 i,.r (AL.map fun b=>⟨b,0,none⟩) kL aL 12 (fun j=>LineM.C ((lstL C FL).getD j line0)),.r (AU.map fun b=>⟨b,0,none⟩) kU aU 22 (fun j=>UnitM.C ((lstU C FU).getD j unit0)),.r (AS.map fun b=>⟨b,0,none⟩) (0+C.stores.l.length) aS 9 (fun j=>StoreM.C (C.stores.l.getD j store0)),.s 8 kE,.s 9 0] (flatR i (busT C A cap i)) [] [] [] (flatR kE (celE C FE kE)) [] 77 (rowE C kE a)) (fls:=fun _=>[famD C A cap i]) ((A0.map fun b=>⟨b,0,none⟩,a0),(A1.map fun b=>⟨b,0,none⟩,a1),(A2.map fun b=>⟨b,0,none⟩,a2)) trivial rfl ⟨rfl,rfl,rfl,rfl,rfl,rfl,rfl,rfl,rfl,rfl,rfl⟩ ⟨rfl,trivial⟩ ⟨rfl,rfl⟩ (Nat.zero_le _) (blJ_sc rfl busF_clo no_clo no_clo no_clo (fl_clo celE_clo _) no_clo rfl) rfl)))⟩⟩⟩⟩⟩⟩⟩⟩⟩⟩⟩,fun a _=>⟨ap1 rfl (fun j=>celE_len j) celE_clo oM bL (row_men rfl),clo_men' (resF_clo C),clo_men' busF_clo,men0,men0,men0,men0,row_men rfl,(kE+1:Nat),wi,gfin hME (chg:=fun g:Nat×(Nat→(Option Addr×Nat)×(Option Addr×Nat)×(Option Addr×Nat))=>[(10,.c (iC g.1))]) (bls:=fun g=>blK C [iC C.hours,.s 3 C.reserve.l.length,.s 4 i,.r (AL.map fun b=>⟨b,0,none⟩) kL aL 12 (fun j=>LineM.C ((lstL C FL).getD j line0)),.r (AU.map fun b=>⟨b,0,none⟩) kU aU 22 (fun j=>UnitM.C ((lstU C FU).getD j unit0)),.r (AS.map fun b=>⟨b,0,none⟩) (0+C.stores.l.length) aS 9 (fun j=>StoreM.C (C.stores.l.getD j store0)),.s 8 g.1,.s 9 0] (flatR i (busT C A cap i)) [] [] [] (flatR g.1 (celE C g.2 g.1)) []) (fls:=fun _=>[famD C A cap i]) (kE+1,upd FE kE a) ⟨hkl,show C.ties.l.length-(kE+1)<C.ties.l.length-kE by omega⟩ rfl ⟨rfl,rfl,rfl,rfl,rfl,rfl,rfl,rfl,congrArg (fun l=>(77,5,l)) (growE (C:=C) (F:=FE) (k:=kE) (a:=a)),rfl⟩ ⟨rfl,trivial⟩ rfl (Nat.zero_le _) (blK_sc rfl busF_clo no_clo no_clo no_clo (fl_clo celE_clo _) no_clo) rfl⟩⟩
 have hqE:kE=C.ties.l.length:=by replace hE:¬(kE:Int)<(C.ties.l.length:Nat):=hE;omega
 refine gsink tSd 8 rfl bL (fl_clo celE_clo _) bL rfl fun AE aE=>⟨_,map_id' sink_clo (resF_clo C),_,map_id' sink_clo busF_clo,_,rfl,_,rfl,_,rfl,_,rfl,gfree tSd 2 1 [iC C.hours,.s 3 C.reserve.l.length,.s 4 i,.r (AL.map fun b=>⟨b,0,none⟩) kL aL 12 (fun j=>LineM.C ((lstL C FL).getD j line0)),.r (AU.map fun b=>⟨b,0,none⟩) kU aU 22 (fun j=>UnitM.C ((lstU C FU).getD j unit0)),.r (AS.map fun b=>⟨b,0,none⟩) (0+C.stores.l.length) aS 9 (fun j=>StoreM.C (C.stores.l.getD j store0)),.r (AE.map fun b=>⟨b,0,none⟩) kE aE 5 (fun j=>TieM.C ((lstE C FE).getD j tie0)),.s 9 0] rfl rfl rfl rfl (frset (k0:=6) rfl ⟨0,kE,_,bL,rfl,rfl,(flR_len fun j _=>celE_len j).symm,fun q hq=>(lstE_at oM).trans ?_⟩) (VC_ok gT mxd ?_)⟩
 ·rw[←hqE]
  exact(flR_at (fun j _=>celE_len j) hq).symm
 refine vloopG (rn [(12,13),(139,166)]) (fun g:Nat×(Nat→(Option Addr×Nat)×(Option Addr×Nat))=>[(12,.c (iC g.1))]) (fun g=>blK C [iC C.hours,.s 3 C.reserve.l.length,.s 4 i,.r (AL.map fun b=>⟨b,0,none⟩) kL aL 12 (fun j=>LineM.C ((lstL C FL).getD j line0)),.r (AU.map fun b=>⟨b,0,none⟩) kU aU 22 (fun j=>UnitM.C ((lstU C FU).getD j unit0)),.r (AS.map fun b=>⟨b,0,none⟩) (0+C.stores.l.length) aS 9 (fun j=>StoreM.C (C.stores.l.getD j store0)),.r (AE.map fun b=>⟨b,0,none⟩) kE aE 5 (fun j=>TieM.C ((lstE C FE).getD j tie0)),.s 9 g.1] (flatR i (busT C A cap i)) [] [] [] [] (flatR g.1 (celO C g.2 g.1))) (fun _=>[famD C A cap i]) (fun g=>g.1≤C.outs.l.length) (fun g=>C.outs.l.length-g.1) fun hMO=>⟨gfin hMO (chg:=fun g:Nat×(Nat→(Option Addr×Nat)×(Option Addr×Nat))=>[(12,.c (iC g.1))]) (bls:=fun g=>blK C [iC C.hours,.s 3 C.reserve.l.length,.s 4 i,.r (AL.map fun b=>⟨b,0,none⟩) kL aL 12 (fun j=>LineM.C ((lstL C FL).getD j line0)),.r (AU.map fun b=>⟨b,0,none⟩) kU aU 22 (fun j=>UnitM.C ((lstU C FU).getD j unit0)),.r (AS.map fun b=>⟨b,0,none⟩) (0+C.stores.l.length) aS 9 (fun j=>StoreM.C (C.stores.l.getD j store0)),.r (AE.map fun b=>⟨b,0,none⟩) kE aE 5 (fun j=>TieM.C ((lstE C FE).getD j tie0)),.s 9 g.1] (flatR i (busT C A cap i)) [] [] [] [] (flatR g.1 (celO C g.2 g.1))) (fls:=fun _=>[famD C A cap i]) (0,fun _=>((none,0),(none,0))) (Nat.zero_le _) rfl ⟨rfl,rfl,rfl,rfl,rfl,rfl,rfl,rfl,rfl,rfl⟩ ⟨rfl,trivial⟩ rfl (Nat.zero_le _) (blK_sc rfl busF_clo no_clo no_clo no_clo no_clo (fl_clo celO_clo _)) rfl,fun⟨kO,FO⟩ hkO=>VC_ok gT mxd ⟨fun hO=>VC_ok gT mxd ?_,fun hO=>VC_ok gT mxd ?_⟩⟩
 all_goals
  replace hkO:kO≤C.outs.l.length:=hkO
 ·have hkl:kO<C.outs.l.length:=by replace hO:(kO:Int)<(C.outs.l.length:Nat):=hO;omega
  have hbn:=hB.o
  refine⟨kO,⟨rfl,hkl⟩,o43O,by kernel_rfl,_,_,fun _=>True,⟨⟨rfl,⟨⟨ap0 (fun _=>rfl) (int_clo _) (hB.ol kO) bL,clo_men' (resF_clo C),clo_men' busF_clo,men0,men0,men0,men0,clo_men' (fl_clo celO_clo _),rfl,⟨rfl,⟨ap0 (fun _=>rfl) (fun _=>all_clo rfl) (hB.om kO) bL,clo_men' (resF_clo C),clo_men' busF_clo,men0,men0,men0,men0,clo_men' (fl_clo celO_clo _),clo_men' (fl_clo (int_clo _) _),rfl,gsG (nb:=0) 11 rfl bL (fl_clo (int_clo _) _) bL rfl fun A0 a0=>⟨_,map_id' sink_clo (resF_clo C),_,map_id' sink_clo busF_clo,_,rfl,_,rfl,_,rfl,_,rfl,_,map_id' sink_clo (fl_clo celO_clo _),_,map_id' sink_clo (fl_clo (fun _=>all_clo rfl) _),gsG (nb:=0) 12 rfl bL (fl_clo (fun _=>all_clo rfl) _) bL rfl fun A1 a1=>⟨_,map_id' sink_clo (resF_clo C),_,map_id' sink_clo busF_clo,_,rfl,_,rfl,_,rfl,_,rfl,_,map_id' sink_clo (fl_clo celO_clo _),_,rfl,gfree tGt 10 1 (((gO C kO).C.set 1 (.r (A0.map fun b=>⟨b,0,none⟩) (0+(gO C kO).lines.l.length) a0 1 fun j=>[iC ((gO C kO).lines.l.getD j 0)])).set 3 (.h A1 (0+(gO C kO).moves.l.length) a1)) rfl rfl rfl rfl (frset (k0:=1) rfl (frc bL fun _=>rfl)) (gfree tGt 10 2 (rowO C kO ((A0.map fun b=>⟨b,0,none⟩,a0),(A1.map fun b=>⟨b,0,none⟩,a1))) rfl rfl rfl rfl (frset (k0:=3) rfl (frc bL fun _=>rfl)) (gfin hMO (chg:=fun _:(Option Addr×Nat)×(Option Addr×Nat)=>[(13,.c (.p 10 0)),(12,.c (iC kO))]) (bls:=fun a=>blJ C [iC C.hours,.s 3 C.reserve.l.length,.s 4 i,.r (AL.map fun b=>⟨b,0,none⟩) kL aL 12 (fun j=>LineM.C ((lstL C FL).getD j line0)),.r (AU.map fun b=>⟨b,0,none⟩) kU aU 22 (fun j=>UnitM.C ((lstU C FU).getD j unit0)),.r (AS.map fun b=>⟨b,0,none⟩) (0+C.stores.l.length) aS 9 (fun j=>StoreM.C (C.stores.l.getD j store0)),.r (AE.map fun b=>⟨b,0,none⟩) kE aE 5 (fun j=>TieM.C ((lstE C FE).getD j tie0)),.s 9 kO] (flatR i (busT C A cap i)) [] [] [] [] (flatR kO (celO C FO kO)) 47 (rowO C kO a)) (fls:=fun _=>[famD C A cap i]) ((A0.map fun b=>⟨b,0,none⟩,a0),(A1.map fun b=>⟨b,0,none⟩,a1)) trivial rfl ⟨rfl,rfl,rfl,rfl,rfl,rfl,rfl,rfl,rfl,rfl,rfl⟩ ⟨rfl,trivial⟩ ⟨rfl,rfl⟩ (Nat.zero_le _) (blJ_sc rfl busF_clo no_clo no_clo no_clo no_clo (fl_clo celO_clo _) rfl) rfl))⟩⟩⟩⟩⟩,⟨rfl,⟨ap0 (fun _=>rfl) (int_clo _) (hB.ol kO) bL,clo_men' (resF_clo C),clo_men' busF_clo,men0,men0,men0,men0,clo_men' (fl_clo celO_clo _),men0,rfl,⟨ap0 (fun _=>rfl) (fun _=>all_clo rfl) (hB.om kO) bL,clo_men' (resF_clo C),clo_men' busF_clo,men0,men0,men0,men0,clo_men' (fl_clo celO_clo _),clo_men' (fl_clo (int_clo _) _),rfl,gsG (nb:=0) 11 rfl bL (fl_clo (int_clo _) _) bL rfl fun A0 a0=>⟨_,map_id' sink_clo (resF_clo C),_,map_id' sink_clo busF_clo,_,rfl,_,rfl,_,rfl,_,rfl,_,map_id' sink_clo (fl_clo celO_clo _),_,map_id' sink_clo (fl_clo (fun _=>all_clo rfl) _),gsG (nb:=0) 12 rfl bL (fl_clo (fun _=>all_clo rfl) _) bL rfl fun A1 a1=>⟨_,map_id' sink_clo (resF_clo C),_,map_id' sink_clo busF_clo,_,rfl,_,rfl,_,rfl,_,rfl,_,map_id' sink_clo (fl_clo celO_clo _),_,rfl,gfree tGt 10 1 (((gO C kO).C.set 1 (.r (A0.map fun b=>⟨b,0,none⟩) (0+(gO C kO).lines.l.length) a0 1 fun j=>[iC ((gO C kO).lines.l.getD j 0)])).set 3 (.h A1 (0+(gO C kO).moves.l.length) a1)) rfl rfl rfl rfl (frset (k0:=1) rfl (frc bL fun _=>rfl)) (gfree tGt 10 2 (rowO C kO ((A0.map fun b=>⟨b,0,none⟩,a0),(A1.map fun b=>⟨b,0,none⟩,a1))) rfl rfl rfl rfl (frset (k0:=3) rfl (frc bL fun _=>rfl)) (gfin hMO (chg:=fun _:(Option Addr×Nat)×(Option Addr×Nat)=>[(13,.c (.p 10 0)),(12,.c (iC kO))]) (bls:=fun a=>blJ C [iC C.hours,.s 3 C.reserve.l.length,.s 4 i,.r (AL.map fun b=>⟨b,0,none⟩) kL aL 12 (fun j=>LineM.C ((lstL C FL).getD j line0)),.r (AU.map fun b=>⟨b,0,none⟩) kU aU 22 (fun j=>UnitM.C ((lstU C FU).getD j unit0)),.r (AS.map fun b=>⟨b,0,none⟩) (0+C.stores.l.length) aS 9 (fun j=>StoreM.C (C.stores.l.getD j store0)),.r (AE.map fun b=>⟨b,0,none⟩) kE aE 5 (fun j=>TieM.C ((lstE C FE).getD j tie0)),.s 9 kO] (flatR i (busT C A cap i)) [] [] [] [] (flatR kO (celO C FO kO)) 47 (rowO C kO a)) (fls:=fun _=>[famD C A cap i]) ((A0.map fun b=>⟨b,0,none⟩,a0),(A1.map fun b=>⟨b,0,none⟩,a1)) trivial rfl ⟨rfl,rfl,rfl,rfl,rfl,rfl,rfl,rfl,rfl,rfl,rfl⟩ ⟨rfl,trivial⟩ ⟨rfl,rfl⟩ (Nat.zero_le _) (blJ_sc rfl busF_clo no_clo no_clo no_clo no_clo (fl_clo celO_clo _) rfl) rfl))⟩⟩⟩⟩⟩⟩⟩,⟨rfl,⟨rfl,⟨ap0 (fun _=>rfl) (int_clo _) (hB.ol kO) bL,clo_men' (resF_clo C),clo_men' busF_clo,men0,men0,men0,men0,clo_men' (fl_clo celO_clo _),men0,rfl,⟨ap0 (fun _=>rfl) (fun _=>all_clo rfl) (hB.om kO) bL,clo_men' (resF_clo C),clo_men' busF_clo,men0,men0,men0,men0,clo_men' (fl_clo celO_clo _),clo_men' (fl_clo (int_clo _) _),rfl,gsG (nb:=0) 12 rfl bL (fl_clo (int_clo _) _) bL rfl fun A0 a0=>⟨_,map_id' sink_clo (resF_clo C),_,map_id' sink_clo busF_clo,_,rfl,_,rfl,_,rfl,_,rfl,_,map_id' sink_clo (fl_clo celO_clo _),_,map_id' sink_clo (fl_clo (fun _=>all_clo rfl) _),gsG (nb:=0) 11 rfl bL (fl_clo (fun _=>all_clo rfl) _) bL rfl fun A1 a1=>⟨_,map_id' sink_clo (resF_clo C),_,map_id' sink_clo busF_clo,_,rfl,_,rfl,_,rfl,_,rfl,_,map_id' sink_clo (fl_clo celO_clo _),_,rfl,gfree tGt 10 1 (((gO C kO).C.set 1 (.r (A0.map fun b=>⟨b,0,none⟩) (0+(gO C kO).lines.l.length) a0 1 fun j=>[iC ((gO C kO).lines.l.getD j 0)])).set 3 (.h A1 (0+(gO C kO).moves.l.length) a1)) rfl rfl rfl rfl (frset (k0:=1) rfl (frc bL fun _=>rfl)) (gfree tGt 10 2 (rowO C kO ((A0.map fun b=>⟨b,0,none⟩,a0),(A1.map fun b=>⟨b,0,none⟩,a1))) rfl rfl rfl rfl (frset (k0:=3) rfl (frc bL fun _=>rfl)) (gfin hMO (chg:=fun _:(Option Addr×Nat)×(Option Addr×Nat)=>[(13,.c (.p 10 0)),(12,.c (iC kO))]) (bls:=fun a=>blJ C [iC C.hours,.s 3 C.reserve.l.length,.s 4 i,.r (AL.map fun b=>⟨b,0,none⟩) kL aL 12 (fun j=>LineM.C ((lstL C FL).getD j line0)),.r (AU.map fun b=>⟨b,0,none⟩) kU aU 22 (fun j=>UnitM.C ((lstU C FU).getD j unit0)),.r (AS.map fun b=>⟨b,0,none⟩) (0+C.stores.l.length) aS 9 (fun j=>StoreM.C (C.stores.l.getD j store0)),.r (AE.map fun b=>⟨b,0,none⟩) kE aE 5 (fun j=>TieM.C ((lstE C FE).getD j tie0)),.s 9 kO] (flatR i (busT C A cap i)) [] [] [] [] (flatR kO (celO C FO kO)) 47 (rowO C kO a)) (fls:=fun _=>[famD C A cap i]) ((A0.map fun b=>⟨b,0,none⟩,a0),(A1.map fun b=>⟨b,0,none⟩,a1)) trivial rfl ⟨rfl,rfl,rfl,rfl,rfl,rfl,rfl,rfl,rfl,rfl,rfl⟩ ⟨rfl,trivial⟩ ⟨rfl,rfl⟩ (Nat.zero_le _) (blJ_sc rfl busF_clo no_clo no_clo no_clo no_clo (fl_clo celO_clo _) rfl) rfl))⟩⟩⟩⟩⟩⟩⟩,fun a _=>⟨ap1 rfl (fun j=>celO_len j) celO_clo oM bL (row_men rfl),clo_men' (resF_clo C),clo_men' busF_clo,men0,men0,men0,men0,row_men rfl,(kO+1:Nat),wi,gfin hMO (chg:=fun g:Nat×(Nat→(Option Addr×Nat)×(Option Addr×Nat))=>[(12,.c (iC g.1))]) (bls:=fun g=>blK C [iC C.hours,.s 3 C.reserve.l.length,.s 4 i,.r (AL.map fun b=>⟨b,0,none⟩) kL aL 12 (fun j=>LineM.C ((lstL C FL).getD j line0)),.r (AU.map fun b=>⟨b,0,none⟩) kU aU 22 (fun j=>UnitM.C ((lstU C FU).getD j unit0)),.r (AS.map fun b=>⟨b,0,none⟩) (0+C.stores.l.length) aS 9 (fun j=>StoreM.C (C.stores.l.getD j store0)),.r (AE.map fun b=>⟨b,0,none⟩) kE aE 5 (fun j=>TieM.C ((lstE C FE).getD j tie0)),.s 9 g.1] (flatR i (busT C A cap i)) [] [] [] [] (flatR g.1 (celO C g.2 g.1))) (fls:=fun _=>[famD C A cap i]) (kO+1,upd FO kO a) ⟨hkl,show C.outs.l.length-(kO+1)<C.outs.l.length-kO by omega⟩ rfl ⟨rfl,rfl,rfl,rfl,rfl,rfl,rfl,rfl,rfl,congrArg (fun l=>(47,4,l)) (growO (C:=C) (F:=FO) (k:=kO) (a:=a))⟩ ⟨rfl,trivial⟩ rfl (Nat.zero_le _) (blK_sc rfl busF_clo no_clo no_clo no_clo no_clo (fl_clo celO_clo _)) rfl⟩⟩
 have hqO:kO=C.outs.l.length:=by replace hO:¬(kO:Int)<(C.outs.l.length:Nat):=hO;omega
 refine gsink tSd 9 rfl bL (fl_clo celO_clo _) bL rfl fun AO aO=>⟨_,map_id' sink_clo (resF_clo C),_,map_id' sink_clo busF_clo,_,rfl,_,rfl,_,rfl,_,rfl,gfree tSd 2 1 [iC C.hours,.s 3 C.reserve.l.length,.s 4 i,.r (AL.map fun b=>⟨b,0,none⟩) kL aL 12 (fun j=>LineM.C ((lstL C FL).getD j line0)),.r (AU.map fun b=>⟨b,0,none⟩) kU aU 22 (fun j=>UnitM.C ((lstU C FU).getD j unit0)),.r (AS.map fun b=>⟨b,0,none⟩) (0+C.stores.l.length) aS 9 (fun j=>StoreM.C (C.stores.l.getD j store0)),.r (AE.map fun b=>⟨b,0,none⟩) kE aE 5 (fun j=>TieM.C ((lstE C FE).getD j tie0)),.r (AO.map fun b=>⟨b,0,none⟩) kO aO 4 (fun j=>OutM.C ((lstO C FO).getD j out0))] rfl rfl rfl rfl (frset (k0:=7) rfl ⟨0,kO,_,bL,rfl,rfl,(flR_len fun j _=>celO_len j).symm,fun q hq=>(lstO_at oM).trans ?_⟩) (VC_ok gT mxd ?_)⟩
 ·rw[←hqO]
  exact(flR_at (fun j _=>celO_len j) hq).symm
 have hdc:=dcR_eq (C:=C) (D:=⟨0,nilS,nilS,⟨AL.map fun b=>⟨b,0,none⟩,aL,lstL C FL⟩,⟨AU.map fun b=>⟨b,0,none⟩,aU,lstU C FU⟩,⟨AS.map fun b=>⟨b,0,none⟩,aS,C.stores.l⟩,⟨AE.map fun b=>⟨b,0,none⟩,aE,lstE C FE⟩,⟨AO.map fun b=>⟨b,0,none⟩,aO,lstO C FO⟩⟩) hii hqL hqU hqE hqO
 refine⟨⟨A,cap,⟨0,nilS,nilS,⟨AL.map fun b=>⟨b,0,none⟩,aL,lstL C FL⟩,⟨AU.map fun b=>⟨b,0,none⟩,aU,lstU C FU⟩,⟨AS.map fun b=>⟨b,0,none⟩,aS,C.stores.l⟩,⟨AE.map fun b=>⟨b,0,none⟩,aE,lstE C FE⟩,⟨AO.map fun b=>⟨b,0,none⟩,aO,lstO C FO⟩⟩⟩,⟨⟨_,rfl⟩,⟨_,rfl⟩,rfl,⟨_,rfl⟩,⟨_,rfl⟩⟩,fin_ownF (congrArg DV.a hdc) ⟨rfl,congrArg (fun l=>(30,0,l)) hdc,congrArg (fun l=>(30,0,l)) hdc,rfl,?_⟩ ⟨?_,trivial⟩ bL (scB.cons rfl (scB.cons rfl (scB.cons rfl (scB.cons (sc_clo (resF_clo C)) (scB.cons (sc_clo busF_clo) scB.nil))))) rfl (ClB.cons (fun _=>rfl) (ClB.cons (nomatch ·) (ClB.cons (nomatch ·) (ClB.cons (fun _=>List.all_eq_true.2 (resF_clo C)) (ClB.one (List.all_eq_true.2 busF_clo))))))⟩
 ·show(_,_,_)=(_,_,_)
  rw[hii]
 show famD C A cap i=famD C A cap _
 rw[hii]
end Go.Proofs.YtandhgfmfpmemaaGreat
namespace Go.Proofs.YtandhgfmfpmemaaGreat
open Go.Vg _root_.Go.Proofs.Tryz
open Go.Vm hiding sg sg_t sg_f sg_abs sg_neg sg_add sg_mul sg_self sg_canon sg_pos sg_zero sg_eq_zero sg_lt
open Go.Vy hiding val
set_option maxHeartbeats 4000000
abbrev fC43:FuncId:=8
theorem eC43:Ent Tryz.prog fC43:=Ent.of func8 rfl kR
theorem bC43:Tryz.prog.funcs[fC43]? =some Tryz.f8:=func8
theorem rck_c (C:CaseM) (hS:Sh C):Ctr Tryz.prog fRCheck [] [.a (C.C [])] [] (fun g:Int×Int×Int=>⟨.t [.a [iC g.1,iC g.2.1,iC g.2.2],.c (iC (chkE C))],[],True⟩):=by
 rw[←chk_ref C]
 exact rcheck_c C hS
theorem c43_bad (C:CaseM) (L:Int) (hS:Sh C) (h:chkE C≠0):Ctr Tryz.prog fC43 [] [.a (C.C []),.c (iC L)] [] (fun _:Unit=>⟨.t [.a zC,.c (iC (chkE C))],[],True⟩):=by
 refine ctr_of gT eC43 bC43 rfl rfl rfl bL clBn (VC_ok gT mxd ⟨[],rck_c C hS,rfl,rfl,rfl,fun g _=>⟨fun _=>VC_ok gT mxd ⟨(),trivial,fin_of ⟨rfl,rfl⟩ rfl trivial⟩,fun h1=>absurd h h1⟩⟩)
theorem c43_level (C:CaseM) (L:Int) (hS:Sh C) (h:chkE C=0) (hL:L<0∨100<L):Ctr Tryz.prog fC43 [] [.a (C.C []),.c (iC L)] [] (fun _:Unit=>⟨.t [.a zC,.c (iC 3)],[],True⟩):=by
 refine ctr_of gT eC43 bC43 rfl rfl rfl bL clBn (VC_ok gT mxd ⟨[],rck_c C hS,rfl,rfl,rfl,fun g _=>⟨fun h1=>absurd h h1,fun _=>VC_ok gT mxd ⟨fun _=>VC_ok gT mxd ⟨(),trivial,fin_of ⟨rfl,rfl⟩ rfl trivial⟩,fun h1=>absurd hL h1⟩⟩⟩)
abbrev blXL (C:CaseM) (w:Int×Int×Int) (g:CloG) (L:Int) (h:Nat) (E:List (Int×Int)):BL:=[(30,0,C.C []),(30,0,zC),(50,0,[iC w.1,iC w.2.1,iC w.2.2]),(30,0,C.C []),(30,0,dcQ C g.D),(30,0,dcQ C g.D),(3,1,resX C L h),(59,3,flatR C.buses.l.length (busT C g.A g.cap C.buses.l.length)),(30,0,dcQ C g.D),(61,2,lL E)]
theorem blXL_sc {C:CaseM} {w:Int×Int×Int} {g:CloG} {L:Int} {h:Nat} {E:List (Int×Int)}:scB 10 (blXL C w g L h E):=scB.cons rfl (scB.cons rfl (scB.cons rfl (scB.cons rfl (scB.cons rfl (scB.cons rfl (scB.cons (sc_clo resX_clo) (scB.cons (sc_clo busF_clo) (scB.cons rfl (scB.cons (sc_clo (lL_clo E)) scB.nil)))))))))
def shedE (C:CaseM) (k:Nat):Int:=if (gB C k).shed=0 then 1048577 else (gB C k).shed
theorem gvnilS {P:Program} {nb N:Nat} {cd:Code} {K:Kt} {s:SS} (t:Nat) (T es:Nat) (ht:getS s.sl t=some (.c (.v (.slice none 0 0)))) (hes:0<es) (hgl:s.gl=[]) (h:snocK s.bl (T,es,[]) fun bl'=>Sd P nb N cd K ⟨(t,.c (.s (cnt s.bl 0) 0))::s.sl,[],bl',s.fl⟩):Sd P nb N cd K s:=gvnil tSd t T es ht hes hgl h
def oLd:Ord:=.treeX [] [2000,2001,2,2003,2004,2005,6,2007,2008,9,2010,2011,2014,2015,16,2017,2018,2019,20,2021,2022,23,2024] (.alt 12 (.alt 13 (.alt 2025 (.alt 2026 .nil .nil) .nil) .nil) .nil)
set_option maxRecDepth 4000 in
theorem c43_c (C:CaseM) (L:Int) (hB:Bd C) (hS:Sh C) (h:chkE C=0) (hL:0≤L∧L≤100):Ctr Tryz.prog fC43 [] [.a (C.C []),.c (iC L)] [] (fun D:CaseM=>⟨.t [.a (D.C []),.c (iC 0)],[],Cont C L D⟩):=by
 have hV:=val_of h
 refine ctr_of gT eC43 bC43 rfl rfl rfl bL clBn (VC_ok gT mxd ⟨[],rck_c C hS,rfl,rfl,rfl,fun w _=>⟨fun h1=>absurd h h1,fun _=>VC_ok gT mxd ⟨fun h1=>?_,fun _=>VC_ok gT mxd ⟨[],clone43_c C hB,rfl,rfl,rfl,fun g hR=>?_⟩⟩⟩⟩)
 ·replace h1:L<0∨100<L:=h1
  omega
 have hHh:=hV.h
 have hn32:=hV.n
 refine vloopG (rn [(9,16),(35,125)]) (fun h:Nat=>[(9,.c (iC h))]) (fun h=>blX C w g L h) (fun h=>[famX C L g.A g.cap h 0]) (fun h=>h≤C.hours.toNat) (fun h=>C.hours.toNat-h) fun hM=>⟨gfin hM (chg:=fun h:Nat=>[(9,.c (iC h))]) (bls:=fun h=>blX C w g L h) (fls:=fun h=>[famX C L g.A g.cap h 0]) 0 (Nat.zero_le _) rfl ⟨rfl,rfl,rfl,rfl,rfl,rfl,?_,rfl,rfl⟩ ⟨?_,trivial⟩ rfl (Nat.zero_le _) blX_sc rfl,fun h hh=>gall tSd 0 rfl fun hall=>VC_ok gT mxd ⟨fun h1=>VC_ok gT mxd ?_,fun h1=>VC_ok gT mxd ?_⟩⟩
 ·show(_,_,_)=(_,_,_)
  rw[←resX_0]
 ·show(⟨_,_,_,_,_,_⟩:Fam)=⟨_,_,_,_,_,_⟩
  rw[getX_dem]
 ·have hlt:(h:Int)<C.hours:=h1
  have hv:=hV.hr hlt
  have hnd:=nd_bd hv hL
  have hs:=sum_bd hv
  have hce:=curt_ok hv hL
  have hcl:=cut_len (C:=C) (h:=h) (L:=L)
  have hall':∀j,j<C.buses.l.length→∃b,g.A j=some b:=fun j hj=>hall j hj (fun he=>by
   have h2:(getX C L h 0 j).length=0:=by rw[show getX C L h 0 j=[] from he];rfl
   rw[getX,if_pos hj,demX,flR_len (e:=1) fun _ _=>rfl] at h2
   have:=(hV.b j hj).1
   omega)
  refine gvnilS 10 61 2 rfl bL rfl (vloopG (rn [(10,13),(41,80)]) (fun k:Nat=>[(12,.c (iC k)),(10,.c (.s 9 ((ldsOf C h).take k).length)),(11,.c (iC (sumP ((ldsOf C h).take k))))]) (fun k=>blXL C w g L h ((ldsOf C h).take k)) (fun _=>[famX C L g.A g.cap h 0]) (·≤C.buses.l.length) (C.buses.l.length-·) fun hM3=>⟨gfin hM3 (chg:=fun k:Nat=>[(12,.c (iC k)),(10,.c (.s 9 ((ldsOf C h).take k).length)),(11,.c (iC (sumP ((ldsOf C h).take k))))]) (bls:=fun k=>blXL C w g L h ((ldsOf C h).take k)) (fls:=fun _=>[famX C L g.A g.cap h 0]) 0 (Nat.zero_le _) rfl ⟨rfl,rfl,rfl,rfl,rfl,rfl,rfl,rfl,rfl,rfl⟩ ⟨rfl,trivial⟩ ⟨rfl,rfl,rfl⟩ (Nat.zero_le _) blXL_sc rfl,fun k hk=>VC_ok gT mxd ⟨fun h2=>VC_ok gT mxd ?_,fun h2=>VC_ok gT mxd ?_⟩⟩)
  ·have hkl:k<C.buses.l.length:=by replace h2:(k:Int)<(C.buses.l.length:Nat):=h2;omega
   have hb:=hv.d (gB C k) (gB_mem hkl)
   have hs0:=lds_sum hv k hk
   have hs1:=lds_sum hv (k+1) hkl
   have hs2:sumP ((ldsOf C h).take (k+1))=sumP ((ldsOf C h).take k)+(gB C k).demand.l.getD h 0:=by rw[lds_take hkl,sumP_snoc];rfl
   have hln:((ldsOf C h).take k).length≤1000000:=by rw[List.length_take];omega
   have hl:ldOf (gB C k) h=((gB C k).demand.l.getD h 0,shedE C k):=rfl
   refine⟨k,⟨rfl,hkl⟩,vjnD (rn [(13,13),(54,55)]) 10 (fun _:Unit=>[(13,.c (iC (shedE C k)))]) (fun _=>blXL C w g L h ((ldsOf C h).take k)) (fun _=>True) (fun _=>rfl) bL (fun _=>blXL_sc) (fun _=>rfl) ?_⟩
   refine⟨rfl,⟨fun h3=>VC_ok gT mxd ⟨(),trivial,rfl,⟨rfl,rfl,rfl,rfl,rfl,rfl,rfl,rfl,rfl,rfl⟩,show(1048577:Int)=shedE C k from (if_pos h3).symm⟩,fun h3=>VC_ok gT mxd ⟨(),trivial,rfl,⟨rfl,rfl,rfl,rfl,rfl,rfl,rfl,rfl,rfl,rfl⟩,show(gB C k).shed=shedE C k from (if_neg h3).symm⟩⟩,fun _ _=>?_⟩
   refine⟨oLd,by kernel_rfl,k,⟨rfl,hkl⟩,h,⟨rfl,hb.1⟩,k,⟨rfl,hkl⟩,h,⟨rfl,hb.1⟩,sumP ((ldsOf C h).take (k+1)),wi (z:=sumP ((ldsOf C h).take k)+(gB C k).demand.l.getD h 0) (h:=⟨hs2,by omega,by omega⟩),rfl,apL hln,clo_men' resX_clo,clo_men' busF_clo,men2,rfl,(k+1:Nat),wi,gfin hM3 (chg:=fun k:Nat=>[(12,.c (iC k)),(10,.c (.s 9 ((ldsOf C h).take k).length)),(11,.c (iC (sumP ((ldsOf C h).take k))))]) (bls:=fun k=>blXL C w g L h ((ldsOf C h).take k)) (fls:=fun _=>[famX C L g.A g.cap h 0]) (k+1) ⟨hkl,show C.buses.l.length-(k+1)<C.buses.l.length-k by omega⟩ rfl ⟨rfl,rfl,rfl,rfl,rfl,rfl,rfl,rfl,rfl,?_⟩ ⟨rfl,trivial⟩ ⟨rfl,?_,rfl⟩ (Nat.zero_le _) blXL_sc rfl⟩
   ·show _=(_,_,_)
    rw[lds_take hkl,lL_snoc,hl]
    rfl
   show _=_
   rw[lds_take hkl,List.length_append]
   rfl
  have hkk:k=C.buses.l.length:=by replace h2:¬(k:Int)<(C.buses.l.length:Nat):=h2;replace hk:k≤C.buses.l.length:=hk;omega
  have ht:(ldsOf C h).take k=ldsOf C h:=List.take_of_length_le (by rw[lds_len];omega)
  rw[ht]
  refine vfrz 10 9 (lC2 (ldsOf C h)) rfl rfl (fun j hj=>lL_get hj) (lL_len _) bL (lL_clo _) bL fun A c q1 q2=>⟨clo_men' resX_clo,clo_men' busF_clo,VC_ok gT mxd ?_⟩
  refine⟨sumP (ldsOf C h)*L,wi (h:=⟨rfl,by omega,by omega⟩),sumP (ldsOf C h)*L+99,wi,(show(100:Int)≠0 by decide),ndH C L h,wi (z:=ndH C L h) (h:=⟨rfl,by omega,by omega⟩),[],rcur_c ⟨A,c,ldsOf C h⟩ (ndH C L h),rfl,rfl,rfl,fun u hu=>?_⟩
  have hul:u.l=curtF (ldsOf C h) (ndH C L h):=by
   have h3:u.l=if curtE (ldsOf C h) (ndH C L h)=0 then curtF (ldsOf C h) (ndH C L h) else []:=hu
   rwa [if_pos hce] at h3
  have hun:u.l.length=C.buses.l.length:=by rw[hul];exact hcl
  refine vloopG (rn [(16,16),(91,112)]) (fun b:Nat=>[(16,.c (iC b))]) (fun _=>blX C w g L h) (fun b=>[famX C L g.A g.cap h b]) (fun b=>b≤C.buses.l.length) (fun b=>C.buses.l.length-b) fun hM2=>⟨gfin hM2 (chg:=fun b:Nat=>[(16,.c (iC b))]) (bls:=fun _=>blX C w g L h) (fls:=fun b=>[famX C L g.A g.cap h b]) 0 (Nat.zero_le _) rfl ⟨rfl,rfl,rfl,rfl,rfl,rfl,rfl,rfl,rfl⟩ ⟨rfl,trivial⟩ rfl (Nat.zero_le _) blX_sc rfl,fun b hb=>VC_ok gT mxd ⟨fun h3=>VC_ok gT mxd ?_,fun h3=>VC_ok gT mxd (VC_ok gT mxd ?_)⟩⟩
  ·have hbn:b<C.buses.l.length:=by replace h3:(b:Int)<(C.buses.l.length:Nat):=h3;omega
   have hbu:b<u.l.length:=by omega
   obtain⟨bb,hbb⟩:=hall' b hbn
   have hd:=hv.d (gB C b) (gB_mem hbn)
   have hcb:=cut_bd (L:=L) hv hbn
   have hcut:u.l.getD b 0=cutH C L h b:=by rw[hul];rfl
   have hput:=flR1_put (f:=fun k=>iC (if k<h then newD C L k b else (gB C b).demand.l.getD k 0)) (g:=fun k=>iC (if k<h+1 then newD C L k b else (gB C b).demand.l.getD k 0)) (c:=iC (newD C L h b)) hd.1 (fun j hj=>by
    by_cases e:j=h
    ·subst e;rw[if_pos rfl,if_pos oM]
    rw[if_neg e]
    by_cases h2:j<h
    ·rw[if_pos h2,if_pos oM]
    rw[if_neg h2,if_neg oM])
   refine⟨.seq (sq 15 (List.range 16)),by kernel_rfl,b,⟨rfl,hbn,by rw[flR_len fun j _=>busT_len j];show b*3<_;omega⟩,.h (g.A b) (gB C b).demand.l.length (g.cap b),(flR_get (P:=busT C g.A g.cap C.buses.l.length) (e:=3) (o:=1) busT_len hbn dC).trans (by rw[busT,if_pos hbn];rfl),h,bb,⟨rfl,hd.1,hbb⟩,0,b,⟨hbn,hbb⟩,iC ((gB C b).demand.l.getD h 0),?_,b,⟨rfl,hbu⟩,newD C L h b,wi (z:=(gB C b).demand.l.getD h 0-u.l.getD b 0) (h:=⟨by rw[hcut];rfl,by omega,by omega⟩),h,bb,⟨rfl,hd.1,hbb⟩,0,b,demX C L (h+1) b,⟨hbn,hbb,?_,?_⟩,(b+1:Nat),wi,gfin hM2 (chg:=fun b:Nat=>[(16,.c (iC b))]) (bls:=fun _=>blX C w g L h) (fls:=fun b=>[famX C L g.A g.cap h b]) (b+1) ⟨hbn,show C.buses.l.length-(b+1)<C.buses.l.length-b by omega⟩ rfl ⟨rfl,rfl,rfl,rfl,rfl,rfl,rfl,rfl,rfl⟩ ⟨?_,trivial⟩ rfl (Nat.zero_le _) blX_sc rfl⟩
   ·show(getX C L h b b)[_]? =_
    rw[getX_at hbn]
    exact(flR1 hd.1).trans (by rw[if_neg (Nat.lt_irrefl _)])
   ·show splC (getX C L h b b) _ _=_
    rw[getX_at hbn]
    exact hput.1
   ·show _≤(getX C L h b b).length
    rw[getX_at hbn]
    exact hput.2
   show(⟨_,_,_,_,_,_⟩:Fam)=⟨_,_,_,_,_,_⟩
   rw[←getX_bus hbn]
  have hbq:b=C.buses.l.length:=by replace h3:¬(b:Int)<(C.buses.l.length:Nat):=h3;replace hb:b≤C.buses.l.length:=hb;omega
  have hrl:h<C.reserve.l.length:=by have:=hV.rl;omega
  have hr0:=hV.rr (C.reserve.l.getD h 0) (by rw[gd hrl];exact List.getElem_mem hrl)
  have m1:0≤C.reserve.l.getD h 0*(100-L):=Int.mul_nonneg hr0.1 oM
  have m2:C.reserve.l.getD h 0*(100-L)≤C.reserve.l.getD h 0*100:=Int.mul_le_mul_of_nonneg_left oM hr0.1
  have e:newR C L h=C.reserve.l.getD h 0*(100-L)/100:=Int.tdiv_eq_ediv_of_nonneg m1
  have hput:=flR1_put (f:=fun k=>iC (if k<h then newR C L k else C.reserve.l.getD k 0)) (g:=fun k=>iC (if k<h+1 then newR C L k else C.reserve.l.getD k 0)) (c:=iC (newR C L h)) hrl (fun j hj=>by
   by_cases e:j=h
   ·subst e;rw[if_pos rfl,if_pos oM]
   rw[if_neg e]
   by_cases h2:j<h
   ·rw[if_pos h2,if_pos oM]
   rw[if_neg h2,if_neg oM])
  refine⟨.seq (sq 13 (List.range 14)),by kernel_rfl,h,⟨rfl,hrl⟩,100-L,wi,C.reserve.l.getD h 0*(100-L),wi (h:=⟨rfl,by omega,by omega⟩),(show(100:Int)≠0 by decide),newR C L h,wi (z:=newR C L h) (h:=⟨rfl,by omega,by omega⟩),h,⟨rfl,hrl,flR1_len hrl⟩,resX C L (h+1),hput,(h+1:Nat),wi,gfin hM (chg:=fun h:Nat=>[(9,.c (iC h))]) (bls:=fun h=>blX C w g L h) (fls:=fun h=>[famX C L g.A g.cap h 0]) (h+1) ⟨by omega,show C.hours.toNat-(h+1)<C.hours.toNat-h by omega⟩ rfl ⟨rfl,rfl,rfl,rfl,rfl,rfl,rfl,rfl,rfl⟩ ⟨?_,trivial⟩ rfl (Nat.zero_le _) blX_sc rfl⟩
  show(⟨_,_,_,_,_,_⟩:Fam)=⟨_,_,_,_,_,_⟩
  rw[hbq,getX_hour]
 have hhq:(h:Int)=C.hours:=by replace h1:¬(h:Int)<C.hours:=h1;replace hh:h≤C.hours.toNat:=hh;omega
 have hdl:∀j,j<C.buses.l.length→(gB C j).demand.l.length=h:=fun j hj=>by have:=(hV.b j hj).1;omega
 have hrl:C.reserve.l.length=h:=by have:=hV.rl;omega
 obtain⟨⟨FL,kL⟩,⟨FU,kU⟩,kS,⟨FE,kE⟩,⟨FO,kO⟩⟩:=hR
 refine gsink tSd 6 rfl bL resX_clo bL rfl fun A6 a6=>⟨_,map_id' sink_clo busF_clo,gfree tSd 8 1 (iC C.hours::.r (A6.map fun b=>⟨b,0,none⟩) C.reserve.l.length a6 1 (fun j=>[iC ((resL C L).getD j 0)])::.s 7 C.buses.l.length::dcT C g.D) rfl rfl rfl rfl (frset (k0:=1) rfl ⟨0,C.reserve.l.length,_,bL,rfl,rfl,(flR_len (e:=1) fun _ _=>rfl).symm,fun q hq=>?_⟩) (gfree tSd 7 0 (flatR C.buses.l.length (busZ C L g.A g.cap)) rfl rfl rfl ?_ (fr_dem hdl) (gsink tSd 7 rfl bL (fl_clo (fun _=>all_clo rfl) _) bL rfl fun A7 a7=>⟨_,rfl,gfree tSd 8 2 (iC C.hours::.r (A6.map fun b=>⟨b,0,none⟩) C.reserve.l.length a6 1 (fun j=>[iC ((resL C L).getD j 0)])::.r (A7.map fun b=>⟨b,0,none⟩) C.buses.l.length a7 3 (fun j=>BusM.C ((busL C L fun j=>((g.A j).map fun b=>⟨b,0,none⟩,g.cap j)).getD j bus0))::dcT C g.D) rfl rfl rfl rfl (frset (k0:=2) rfl ⟨0,C.buses.l.length,_,bL,rfl,rfl,(flR_len (P:=busZ C L g.A g.cap) (e:=3) fun _ _=>rfl).symm,fun q hq=>(busZ_at hq).trans (flR_at (P:=busZ C L g.A g.cap) (e:=3) (fun _ _=>rfl) hq).symm⟩) (VC_ok gT mxd ?_)⟩))⟩
 ·refine Eq.trans ?_ (flR_at (e:=1) (fun _ _=>rfl) hq).symm
  rw[if_pos oM]
  exact congrArg (fun z=>[iC z]) (mra hq)
 ·rw[flR_len (P:=busZ C L g.A g.cap) (e:=3) fun _ _=>rfl,flR_len fun j _=>busT_len j]
 refine⟨⟨C.hours,⟨A6.map fun b=>⟨b,0,none⟩,a6,resL C L⟩,⟨A7.map fun b=>⟨b,0,none⟩,a7,busL C L fun j=>((g.A j).map fun b=>⟨b,0,none⟩,g.cap j)⟩,g.D.lines,g.D.units,g.D.stores,g.D.ties,g.D.outs⟩,⟨rfl,rfl,⟨_,rfl⟩,⟨FL,kL⟩,⟨FU,kU⟩,kS,⟨FE,kE⟩,⟨FO,kO⟩⟩,fin_of ⟨?_,rfl⟩ rfl trivial⟩
 refine congrArg DV.a (cC_eq (D:=⟨C.hours,⟨A6.map fun b=>⟨b,0,none⟩,a6,resL C L⟩,⟨A7.map fun b=>⟨b,0,none⟩,a7,busL C L fun j=>((g.A j).map fun b=>⟨b,0,none⟩,g.cap j)⟩,g.D.lines,g.D.units,g.D.stores,g.D.ties,g.D.outs⟩) (nR:=C.reserve.l.length) (nB:=C.buses.l.length) (nL:=C.lines.l.length) (nU:=C.units.l.length) (nS:=C.stores.l.length) (nT:=C.ties.l.length) (nO:=C.outs.l.length) (by simp[resL]) (by simp[busL]) (by rw[kL];simp[lstL]) (by rw[kU];simp[lstU]) (by rw[kS]) (by rw[kE];simp[lstE]) (by rw[kO];simp[lstO]))
end Go.Proofs.YtandhgfmfpmemaaGreat
namespace Go.Proofs.YtandhgfmfpmemaaGreat
open Go.Vg _root_.Go.Proofs.Tryz
open Go.Vm hiding sg sg_t sg_f sg_abs sg_neg sg_add sg_mul sg_self sg_canon sg_pos sg_zero sg_eq_zero sg_lt
open Go.Vy hiding val
set_option maxHeartbeats 4000000
theorem fl_append {α:Type} {f:α→List CV} {d:α} (A B:List α):fl f d (A++B)=fl f d A++fl f d B:=by
 induction B generalizing A with
 |nil=>simp[fl,flatR]
 |cons b B ih=>
  have h1:fl f d (b::B)=f b++fl f d B:=by
   have h2:=ih [b]
   have h3:fl f d [b]=f b:=by simp[fl,flatR]
   rw[h3] at h2
   exact h2
  rw[show A++b::B=(A++[b])++B by simp,ih,←fl_snoc,h1,List.append_assoc]
theorem fl_take {α:Type} {f:α→List CV} {d:α} {L:List α} {e m:Nat} (hf:∀x,(f x).length=e) (hm:m≤L.length):(fl f d L).take (m*e)=fl f d (L.take m):=by
 have hl:(L.take m).length=m:=by rw[List.length_take];omega
 have h:fl f d L=fl f d (L.take m)++fl f d (L.drop m):=by rw[←fl_append,List.take_append_drop]
 have h2:(fl f d (L.take m)).length=m*e:=by rw[fl_len hf,hl]
 rw[h,List.take_append_of_le_length oM,List.take_of_length_le oM]
theorem cM:∀x:MoveM,∀c∈x.C,cloC c=true:=fun _=>all_clo rfl
def OutM.mv (x:OutM) (m:Sl MoveM):OutM:=⟨x.name,x.lines,x.corr,m⟩
theorem outMv (x:OutM) (m:Sl MoveM):(x.mv m).C=x.C.set 3 (m.R 3 MoveM.C mov0):=rfl
abbrev shB1 (w:CW) (x:TypeId×Nat×List CV):BL:=[(59,3,fl BusM.C bus0 w.B),(71,12,fl LineM.C line0 w.L),(42,22,fl UnitM.C unit0 w.U),(75,9,fl StoreM.C store0 w.S),(77,5,fl TieM.C tie0 w.T),(47,4,fl OutM.C out0 w.O),(30,0,caA w 0 1 2 3 4 5),(30,0,zCs),x]
theorem shB1_sc {w:CW} {x:TypeId×Nat×List CV} (h:x.2.2.all (scC 9)=true):scB 9 (shB1 w x):=scB.cons (sc_clo (fl_cl cB)) (scB.cons (sc_clo (fl_cl cL)) (scB.cons (sc_clo (fl_cl cU)) (scB.cons (sc_clo (fl_cl cS)) (scB.cons (sc_clo (fl_cl cT)) (scB.cons (sc_clo (fl_cl cO)) (scB.cons rfl (scB.cons rfl (scB.cons h scB.nil))))))))
abbrev fUnitless:FuncId:=13
theorem eUnitless:Ent Tryz.prog fUnitless:=Ent.of func13 rfl kR
theorem bUnitless:Tryz.prog.funcs[fUnitless]? =some Tryz.f13:=func13
theorem unitless_c (w:CW) (hI:IwM w) (h2:0<w.U.length):Ctr Tryz.prog fUnitless [true,true,true,true,true,true] [.a (caA w 0 1 2 3 4 5)] (caL w) (fun v:CW=>⟨.a (caA v 0 1 2 3 4 5),caL v,IwM v∧v.U.length+1=w.U.length∧v.h=w.h⟩):=by
 obtain⟨hh,hr,hb,hbn,hl,hln,hu,hun,hsn,ht,htn,ho,hon⟩:=hI
 obtain⟨h,R,B,L,U,S,T,O⟩:=w
 obtain⟨u,hu1⟩:∃u,U.length=u+1:=⟨U.length-1,by replace h2:0<U.length:=h2;omega⟩
 replace hun:U.length≤10:=hun
 have hUl:(U.take u).length=u:=by rw[List.length_take];omega
 replace ho:∀x∈O,x.lines.l.length≤2∧x.moves.l.length≤10:=ho
 refine ctr_of gT eUnitless bUnitless rfl rfl rfl bL caL_cl (Sd.sq (VC_ok gT mxd (Sd.sq (VC_ok gT mxd ⟨(u:Int),wj (by show(u:Int)=(U.length:Int)-1;omega),Sd.sq (VC_ok gT mxd ⟨u,⟨rfl,by show u*22≤(fl UnitM.C unit0 U).length;rw[fl_len (f:=UnitM.C) (d:=unit0) (e:=22) fun _=>rfl];omega⟩,?_⟩)⟩))))
 refine gtrim tSd 2 (u*22) rfl bL (Sd.sq (VC_ok gT mxd ?_))
 refine vloopG (rn [(4,6),(16,63)]) (fun(g:Nat×List OutM)=>[(4,.c (iC g.1))]) (fun(g:Nat×List OutM)=>shB ⟨h,R,B,L,U.take u,S,T,g.2⟩) (fun _=>[]) (fun g=>pI out0 (fun x:OutM=>x.lines.l.length≤2∧x.moves.l.length≤10) (fun x:OutM=>x.lines.l.length≤2∧x.moves.l.length≤10) O.length g.1 g.2) (fun g=>O.length-g.1) fun hM=>⟨gfin hM (chg:=fun(g:Nat×List OutM)=>[(4,.c (iC g.1))]) (bls:=fun(g:Nat×List OutM)=>shB ⟨h,R,B,L,U.take u,S,T,g.2⟩) (fls:=fun _=>[]) (0,O) (pI_0 ho) rfl ⟨rfl,rfl,(by show(_,_,(fl UnitM.C unit0 U).take (u*22))=(_,_,_);rw[fl_take (f:=UnitM.C) (d:=unit0) (e:=22) (fun _=>rfl) oM]),rfl,rfl,rfl,(by show(_,_,_)=(_,_,[_,_,_,_,CV.s 2 (U.take u).length,_,_,_]);rw[hUl]),rfl⟩ trivial rfl bL shB_sc rfl,fun⟨i,X⟩ hI=>VC_ok gT mxd ⟨fun h6=>VC_ok gT mxd ?_,fun h6=>VC_ok gT mxd ?_⟩⟩
 ·have hX:i<X.length:=by replace h6:(i:Int)<(X.length:Nat):=h6;omega
  have hi:i<O.length:=by rw[←hI.2.1];exact hX
  obtain⟨hq1,hq2⟩:=(show(X.getD i out0).lines.l.length≤2∧(X.getD i out0).moves.l.length≤10 from hI.2.2.2 i (Nat.le_refl i) hi)
  refine gvnilS 5 82 3 rfl bL rfl (vloopD (rn [(5,6),(23,57)]) 9 (fun g:Nat×List MoveM=>[(6,.c (iC g.1)),(5,.c (.s 8 g.2.length))]) (fun g=>shB1 ⟨h,R,B,L,U.take u,S,T,X⟩ (82,3,fl MoveM.C mov0 g.2)) (fun g=>g.1≤(X.getD i out0).moves.l.length∧g.2.length≤g.1) (fun g=>(X.getD i out0).moves.l.length-g.1) (0,[]) (fun _=>rfl) bL (fun _=>shB1_sc (sc_clo (fl_cl cM))) (fun _=>rfl) ⟨⟨rfl,⟨Nat.zero_le _,Nat.le_refl 0⟩,⟨rfl,rfl,rfl,rfl,rfl,rfl,rfl,rfl,rfl⟩,⟨rfl,rfl⟩⟩,fun⟨k,Ms⟩ hK=>VC_ok gT mxd ⟨i,⟨rfl,hX,fl_ix0 (f:=OutM.C) (d:=out0) (e:=4) (fun _=>rfl) hX dC⟩,(X.getD i out0).moves.R 3 MoveM.C mov0,fl_get (f:=OutM.C) (d:=out0) (e:=4) (fun _=>rfl) (o:=3) hX dC,⟨fun h7=>VC_ok gT mxd ?_,fun h7=>VC_ok gT mxd ?_⟩⟩⟩)
  all_goals obtain⟨hk,hm⟩:=(show k≤(X.getD i out0).moves.l.length∧Ms.length≤k from hK)
  ·have hkl:k<(X.getD i out0).moves.l.length:=by replace h7:(k:Int)<((X.getD i out0).moves.l.length:Nat):=h7;omega
   exact⟨i,⟨rfl,hX,fl_ix0 (f:=OutM.C) (d:=out0) (e:=4) (fun _=>rfl) hX dC⟩,(X.getD i out0).moves.R 3 MoveM.C mov0,fl_get (f:=OutM.C) (d:=out0) (e:=4) (fun _=>rfl) (o:=3) hX dC,k,⟨rfl,hkl⟩,⟨fun _=>VC_ok gT mxd ⟨i,⟨rfl,hX,fl_ix0 (f:=OutM.C) (d:=out0) (e:=4) (fun _=>rfl) hX dC⟩,(X.getD i out0).moves.R 3 MoveM.C mov0,fl_get (f:=OutM.C) (d:=out0) (e:=4) (fun _=>rfl) (o:=3) hX dC,k,⟨rfl,hkl⟩,apF (L:=Ms) (d:=mov0) (fun _=>rfl) cM rfl (clo_men' (cM ((X.getD i out0).moves.l.getD k mov0))) oM bL,clo_men' (fl_cl cB),clo_men' (fl_cl cL),clo_men' (fl_cl cU),clo_men' (fl_cl cS),clo_men' (fl_cl cT),clo_men' (fl_cl cO),clo_men' (cM ((X.getD i out0).moves.l.getD k mov0)),(k+1:Nat),wi,(k+1,Ms++[(X.getD i out0).moves.l.getD k mov0]),⟨⟨hkl,by show(Ms++[_]).length≤k+1;simp;omega⟩,show(X.getD i out0).moves.l.length-(k+1)<(X.getD i out0).moves.l.length-k by omega⟩,rfl,⟨rfl,rfl,rfl,rfl,rfl,rfl,rfl,rfl,flE (x:=(X.getD i out0).moves.l.getD k mov0)⟩,⟨rfl,(by show _=(Ms++[_]).length;simp)⟩⟩,fun _=>VC_ok gT mxd ⟨(k+1:Nat),wi,(k+1,Ms),⟨⟨hkl,by show Ms.length≤k+1;omega⟩,show(X.getD i out0).moves.l.length-(k+1)<(X.getD i out0).moves.l.length-k by omega⟩,rfl,⟨rfl,rfl,rfl,rfl,rfl,rfl,rfl,rfl,rfl⟩,⟨rfl,rfl⟩⟩⟩⟩
  refine vfrz 5 8 (fun j=>MoveM.C (Ms.getD j mov0)) rfl rfl (fun j hj=>fl_at (f:=MoveM.C) (d:=mov0) (L:=Ms) (e:=3) (fun _=>rfl) j hj) (fl_len (f:=MoveM.C) (d:=mov0) (L:=Ms) (e:=3) fun _=>rfl).symm bL (fl_cl cM) bL fun A c _ _=>⟨clo_men' (fl_cl cB),clo_men' (fl_cl cL),clo_men' (fl_cl cU),clo_men' (fl_cl cS),clo_men' (fl_cl cT),clo_men' (fl_cl cO),VC_ok gT mxd ?_⟩
  exact⟨i,⟨rfl,hX,fl_ix0 (f:=OutM.C) (d:=out0) (e:=4) (fun _=>rfl) hX dC⟩,fl OutM.C out0 (X.set i ((X.getD i out0).mv ⟨A,c,Ms⟩)),fl_put' (f:=OutM.C) (d:=out0) (e:=4) (fun _=>rfl) (o:=3) hX dC (outMv _ _),(i+1:Nat),wi,gfin hM (chg:=fun(g:Nat×List OutM)=>[(4,.c (iC g.1))]) (bls:=fun(g:Nat×List OutM)=>shB ⟨h,R,B,L,U.take u,S,T,g.2⟩) (fls:=fun _=>[]) (i+1,X.set i ((X.getD i out0).mv ⟨A,c,Ms⟩)) ⟨pI_next hI hi ⟨hq1,show Ms.length≤10 by omega⟩,show O.length-(i+1)<O.length-i by omega⟩ rfl ⟨rfl,rfl,rfl,rfl,rfl,rfl,(by show(_,_,_)=(_,_,[_,_,_,_,_,_,_,CV.s 5 (X.set i _).length]);rw[List.length_set]<;>rfl),rfl⟩ trivial rfl bL shB_sc rfl⟩
 have ho2:=pI_end (show pI out0 (fun x:OutM=>x.lines.l.length≤2∧x.moves.l.length≤10) (fun x:OutM=>x.lines.l.length≤2∧x.moves.l.length≤10) O.length i X from hI) (by replace h6:¬(i:Int)<(X.length:Nat):=h6;have:=hI.2.1;replace this:X.length=O.length:=this;omega)
 have ho3:X.length=O.length:=hI.2.1
 exact VC_ok gT mxd ⟨⟨h,R,B,L,U.take u,S,T,X⟩,⟨⟨hh,hr,hb,hbn,hl,hln,fun x hx=>hu x (List.mem_of_mem_take hx),by show(U.take u).length≤10;have:U.length≤10:=hun;omega,hsn,ht,htn,ho2,by show X.length≤10;have:O.length≤10:=hon;omega⟩,by show(U.take u).length+1=U.length;omega,rfl⟩,fin_own rfl ⟨rfl,rfl,rfl,rfl,rfl,rfl⟩ bL caL_sc rfl caL_cl⟩
end Go.Proofs.YtandhgfmfpmemaaGreat
