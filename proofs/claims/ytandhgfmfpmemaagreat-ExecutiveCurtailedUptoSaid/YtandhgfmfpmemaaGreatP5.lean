/- ExecutiveCurtailed, second form: for arguments of bulk at most 1048576 the law returns true and the arguments read as before; no other condition. Part 5 of 7: Fc Fd Ty Vgi Wa Ws Wt Wu Wv Wc Wd We Dl Ga Gb Ka Ia Vyr Ib Ic. -/
import Derived.Test.YtandhgfmfpmemaaGreatRows
import Derived.Test.YtandhgfmfpmemaaGreatP4
set_option linter.unusedVariables false
set_option linter.unusedSimpArgs false
namespace Go.Proofs.YtandhgfmfpmemaaGreat
open Go.Vg
open Go.Vm hiding sg sg_t sg_f sg_abs sg_neg sg_add sg_mul sg_self sg_canon sg_pos sg_zero sg_eq_zero sg_lt
open Go.Vy hiding val
set_option maxHeartbeats 1000000
theorem splC_len {l v:List CV} {o:Nat} (h:o+v.length≤l.length):(splC l o v).length=l.length:=by
 unfold splC
 simp only[List.length_append,List.length_take,List.length_drop]
 omega
theorem put_len {P:Nat→List CV} {e k o:Nat} {v:List CV} (hl:∀j,(P j).length=e) (ho:o+v.length≤e) (j:Nat):(if j=k then splC (P k) o v else P j).length=e:=by
 split
 ·rw[splC_len (by rw[hl k];exact ho),hl k]
 exact hl j
def modL (x:LineM) (a:Option Addr×Nat):LineM:={x with away:=⟨a.1,a.2,x.away.l⟩}
def celL (C:CaseM) (F:Nat→Option Addr×Nat) (i j:Nat):List CV:=(if j<i then modL (gL C j) (F j) else gL C j).C
theorem celL_len {C:CaseM} {F:Nat→Option Addr×Nat} {i:Nat} (j:Nat):(celL C F i j).length=12:=rfl
theorem celL_clo {C:CaseM} {F:Nat→Option Addr×Nat} {i:Nat} (j:Nat):∀c∈celL C F i j,cloC c=true:=all_clo rfl
theorem celL_next {C:CaseM} {F:Nat→Option Addr×Nat} {k n:Nat} (a:Option Addr×Nat):flatR n (fun j=>if j=k then splC ((celL C F k) k) 11 [intsR ⟨a.1,a.2,(gL C k).away.l⟩] else (celL C F k) j)=flatR n (celL C (upd F k a) (k+1)):=by
 refine flR_congr fun j hj=>?_
 by_cases h:j=k
 ·subst h
  simp only[if_true]
  unfold celL
  rw[if_neg (Nat.lt_irrefl _),if_pos (Nat.lt_succ_self _),upd_eq]
  rfl
 simp only[if_neg h]
 unfold celL
 rw[upd_ne h]
 by_cases h2:j<k
 ·rw[if_pos h2,if_pos oM]
 rw[if_neg h2,if_neg oM]
def lstL (C:CaseM) (F:Nat→Option Addr×Nat):List LineM:=(List.range C.lines.l.length).map fun j=>modL (gL C j) (F j)
theorem lstL_at {C:CaseM} {F:Nat→Option Addr×Nat} {j:Nat} (h:j<C.lines.l.length):((lstL C F).getD j line0).C=celL C F C.lines.l.length j:=by
 unfold lstL celL
 rw[if_pos h]
 simp[List.getD,h]
def modU (x:UnitM) (a:(Option Addr×Nat)×(Option Addr×Nat)):UnitM:={x with segs:=⟨a.1.1,a.1.2,x.segs.l⟩,away:=⟨a.2.1,a.2.2,x.away.l⟩}
def celU (C:CaseM) (F:Nat→(Option Addr×Nat)×(Option Addr×Nat)) (i j:Nat):List CV:=(if j<i then modU (gU C j) (F j) else gU C j).C
theorem celU_len {C:CaseM} {F:Nat→(Option Addr×Nat)×(Option Addr×Nat)} {i:Nat} (j:Nat):(celU C F i j).length=22:=rfl
theorem celU_clo {C:CaseM} {F:Nat→(Option Addr×Nat)×(Option Addr×Nat)} {i:Nat} (j:Nat):∀c∈celU C F i j,cloC c=true:=all_clo rfl
theorem celU_next {C:CaseM} {F:Nat→(Option Addr×Nat)×(Option Addr×Nat)} {k n:Nat} (a:(Option Addr×Nat)×(Option Addr×Nat)):flatR n (fun j=>if j=k then splC (((fun j=>if j=k then splC ((celU C F k) k) 4 [(⟨a.1.1,a.1.2,(gU C k).segs.l⟩:Sl SegM).R 2 SegM.C ⟨0,0⟩] else (celU C F k) j)) k) 18 [intsR ⟨a.2.1,a.2.2,(gU C k).away.l⟩] else ((fun j=>if j=k then splC ((celU C F k) k) 4 [(⟨a.1.1,a.1.2,(gU C k).segs.l⟩:Sl SegM).R 2 SegM.C ⟨0,0⟩] else (celU C F k) j)) j)=flatR n (celU C (upd F k a) (k+1)):=by
 refine flR_congr fun j hj=>?_
 by_cases h:j=k
 ·subst h
  simp only[if_true]
  unfold celU
  rw[if_neg (Nat.lt_irrefl _),if_pos (Nat.lt_succ_self _),upd_eq]
  rfl
 simp only[if_neg h]
 unfold celU
 rw[upd_ne h]
 by_cases h2:j<k
 ·rw[if_pos h2,if_pos oM]
 rw[if_neg h2,if_neg oM]
def lstU (C:CaseM) (F:Nat→(Option Addr×Nat)×(Option Addr×Nat)):List UnitM:=(List.range C.units.l.length).map fun j=>modU (gU C j) (F j)
theorem lstU_at {C:CaseM} {F:Nat→(Option Addr×Nat)×(Option Addr×Nat)} {j:Nat} (h:j<C.units.l.length):((lstU C F).getD j unit0).C=celU C F C.units.l.length j:=by
 unfold lstU celU
 rw[if_pos h]
 simp[List.getD,h]
def modE (x:TieM) (a:(Option Addr×Nat)×(Option Addr×Nat)×(Option Addr×Nat)):TieM:={x with imp:=⟨a.1.1,a.1.2,x.imp.l⟩,exp:=⟨a.2.1.1,a.2.1.2,x.exp.l⟩,price:=⟨a.2.2.1,a.2.2.2,x.price.l⟩}
def celE (C:CaseM) (F:Nat→(Option Addr×Nat)×(Option Addr×Nat)×(Option Addr×Nat)) (i j:Nat):List CV:=(if j<i then modE (gE C j) (F j) else gE C j).C
theorem celE_len {C:CaseM} {F:Nat→(Option Addr×Nat)×(Option Addr×Nat)×(Option Addr×Nat)} {i:Nat} (j:Nat):(celE C F i j).length=5:=rfl
theorem celE_clo {C:CaseM} {F:Nat→(Option Addr×Nat)×(Option Addr×Nat)×(Option Addr×Nat)} {i:Nat} (j:Nat):∀c∈celE C F i j,cloC c=true:=all_clo rfl
theorem celE_next {C:CaseM} {F:Nat→(Option Addr×Nat)×(Option Addr×Nat)×(Option Addr×Nat)} {k n:Nat} (a:(Option Addr×Nat)×(Option Addr×Nat)×(Option Addr×Nat)):flatR n (fun j=>if j=k then splC (((fun j=>if j=k then splC (((fun j=>if j=k then splC ((celE C F k) k) 2 [intsR ⟨a.1.1,a.1.2,(gE C k).imp.l⟩] else (celE C F k) j)) k) 3 [intsR ⟨a.2.1.1,a.2.1.2,(gE C k).exp.l⟩] else ((fun j=>if j=k then splC ((celE C F k) k) 2 [intsR ⟨a.1.1,a.1.2,(gE C k).imp.l⟩] else (celE C F k) j)) j)) k) 4 [intsR ⟨a.2.2.1,a.2.2.2,(gE C k).price.l⟩] else ((fun j=>if j=k then splC (((fun j=>if j=k then splC ((celE C F k) k) 2 [intsR ⟨a.1.1,a.1.2,(gE C k).imp.l⟩] else (celE C F k) j)) k) 3 [intsR ⟨a.2.1.1,a.2.1.2,(gE C k).exp.l⟩] else ((fun j=>if j=k then splC ((celE C F k) k) 2 [intsR ⟨a.1.1,a.1.2,(gE C k).imp.l⟩] else (celE C F k) j)) j)) j)=flatR n (celE C (upd F k a) (k+1)):=by
 refine flR_congr fun j hj=>?_
 by_cases h:j=k
 ·subst h
  simp only[if_true]
  unfold celE
  rw[if_neg (Nat.lt_irrefl _),if_pos (Nat.lt_succ_self _),upd_eq]
  rfl
 simp only[if_neg h]
 unfold celE
 rw[upd_ne h]
 by_cases h2:j<k
 ·rw[if_pos h2,if_pos oM]
 rw[if_neg h2,if_neg oM]
def lstE (C:CaseM) (F:Nat→(Option Addr×Nat)×(Option Addr×Nat)×(Option Addr×Nat)):List TieM:=(List.range C.ties.l.length).map fun j=>modE (gE C j) (F j)
theorem lstE_at {C:CaseM} {F:Nat→(Option Addr×Nat)×(Option Addr×Nat)×(Option Addr×Nat)} {j:Nat} (h:j<C.ties.l.length):((lstE C F).getD j tie0).C=celE C F C.ties.l.length j:=by
 unfold lstE celE
 rw[if_pos h]
 simp[List.getD,h]
def modO (x:OutM) (a:(Option Addr×Nat)×(Option Addr×Nat)):OutM:={x with lines:=⟨a.1.1,a.1.2,x.lines.l⟩,moves:=⟨a.2.1,a.2.2,x.moves.l⟩}
def celO (C:CaseM) (F:Nat→(Option Addr×Nat)×(Option Addr×Nat)) (i j:Nat):List CV:=(if j<i then modO (gO C j) (F j) else gO C j).C
theorem celO_len {C:CaseM} {F:Nat→(Option Addr×Nat)×(Option Addr×Nat)} {i:Nat} (j:Nat):(celO C F i j).length=4:=rfl
theorem celO_clo {C:CaseM} {F:Nat→(Option Addr×Nat)×(Option Addr×Nat)} {i:Nat} (j:Nat):∀c∈celO C F i j,cloC c=true:=all_clo rfl
theorem celO_next {C:CaseM} {F:Nat→(Option Addr×Nat)×(Option Addr×Nat)} {k n:Nat} (a:(Option Addr×Nat)×(Option Addr×Nat)):flatR n (fun j=>if j=k then splC (((fun j=>if j=k then splC ((celO C F k) k) 1 [intsR ⟨a.1.1,a.1.2,(gO C k).lines.l⟩] else (celO C F k) j)) k) 3 [(⟨a.2.1,a.2.2,(gO C k).moves.l⟩:Sl MoveM).R 3 MoveM.C ⟨0,0,0⟩] else ((fun j=>if j=k then splC ((celO C F k) k) 1 [intsR ⟨a.1.1,a.1.2,(gO C k).lines.l⟩] else (celO C F k) j)) j)=flatR n (celO C (upd F k a) (k+1)):=by
 refine flR_congr fun j hj=>?_
 by_cases h:j=k
 ·subst h
  simp only[if_true]
  unfold celO
  rw[if_neg (Nat.lt_irrefl _),if_pos (Nat.lt_succ_self _),upd_eq]
  rfl
 simp only[if_neg h]
 unfold celO
 rw[upd_ne h]
 by_cases h2:j<k
 ·rw[if_pos h2,if_pos oM]
 rw[if_neg h2,if_neg oM]
def lstO (C:CaseM) (F:Nat→(Option Addr×Nat)×(Option Addr×Nat)):List OutM:=(List.range C.outs.l.length).map fun j=>modO (gO C j) (F j)
theorem lstO_at {C:CaseM} {F:Nat→(Option Addr×Nat)×(Option Addr×Nat)} {j:Nat} (h:j<C.outs.l.length):((lstO C F).getD j out0).C=celO C F C.outs.l.length j:=by
 unfold lstO celO
 rw[if_pos h]
 simp[List.getD,h]
end Go.Proofs.YtandhgfmfpmemaaGreat
namespace Go.Proofs.YtandhgfmfpmemaaGreat
open Go.Vg
open Go.Vm hiding sg sg_t sg_f sg_abs sg_neg sg_add sg_mul sg_self sg_canon sg_pos sg_zero sg_eq_zero sg_lt
open Go.Vy hiding val
set_option maxHeartbeats 4000000
theorem bl1 (o e:Nat) (h:Nat.ble (o+1) e=true):o+1≤e:=Nat.le_of_ble_eq_true h
structure CloG where
 A:Nat→Option Nat
 cap:Nat→Nat
 D:CaseM
structure Rest (C D:CaseM):Prop where
 l:∃F,D.lines.l=lstL C F
 u:∃F,D.units.l=lstU C F
 s:D.stores.l=C.stores.l
 t:∃F,D.ties.l=lstE C F
 o:∃F,D.outs.l=lstO C F
abbrev dcT (C D:CaseM):List CV:=[.r D.lines.A C.lines.l.length D.lines.c 12 (fun j=>LineM.C (D.lines.l.getD j line0)),.r D.units.A C.units.l.length D.units.c 22 (fun j=>UnitM.C (D.units.l.getD j unit0)),.r D.stores.A C.stores.l.length D.stores.c 9 (fun j=>StoreM.C (D.stores.l.getD j store0)),.r D.ties.A C.ties.l.length D.ties.c 5 (fun j=>TieM.C (D.ties.l.getD j tie0)),.r D.outs.A C.outs.l.length D.outs.c 4 (fun j=>OutM.C (D.outs.l.getD j out0))]
abbrev dcR (C D:CaseM):List CV:=iC C.hours::.s 3 C.reserve.l.length::.s 4 C.buses.l.length::dcT C D
abbrev blR (C:CaseM) (g:CloG):BL:=[(30,0,C.C []),(30,0,dcR C g.D),(30,0,dcR C g.D),(3,1,resF C),(59,3,flatR C.buses.l.length (busT C g.A g.cap C.buses.l.length))]
abbrev CloR (C:CaseM):CloG→OutF:=fun g=>⟨.a (dcR C g.D),blR C g,[famD C g.A g.cap C.buses.l.length],Rest C g.D⟩
set_option maxRecDepth 4000 in
theorem clone_c (C:CaseM) (hB:Bd C):CtrF Tryz.prog fClone [true,false,false,true,true] [.a (C.C [])] [] [] (CloR C):=by
 refine ctrF_of gT eClone bClone rfl rfl rfl bL clBn (VC_ok gT mxd ?_)
 refine⟨[],clI_o (fun _=>rfl) (int_clo _) (Nat.le_trans hB.r bL),rfl,rfl,rfl,fun _ _=>⟨[],clB_o (fun _=>rfl) (fun _=>all_clo rfl) (Nat.le_trans hB.b bL),rfl,rfl,rfl,fun _ _=>gnew tSd 3 1 C.buses.l.length bL ?_⟩⟩
 have hbb:=hB.b
 refine vloopG (rn [(4,5),(26,39)]) (fun g:Nat×(Nat→Option Nat)×(Nat→Nat)=>[(26,.c (iC g.1))]) (fun g=>blC C (dC1 C) (flatR C.buses.l.length (busT C g.2.1 g.2.2 g.1))) (fun g=>[famD C g.2.1 g.2.2 g.1]) (fun g=>g.1≤C.buses.l.length∧∀j,g.1≤j→g.2.1 j=none) (fun g=>C.buses.l.length-g.1) fun hM=>⟨gfin hM (chg:=fun g:Nat×(Nat→Option Nat)×(Nat→Nat)=>[(26,.c (iC g.1))]) (bls:=fun g=>blC C (dC1 C) (flatR C.buses.l.length (busT C g.2.1 g.2.2 g.1))) (fls:=fun g=>[famD C g.2.1 g.2.2 g.1]) (0,fun _=>none,fun _=>0) ⟨Nat.zero_le _,fun _ _=>rfl⟩ rfl ⟨rfl,rfl,rfl,rfl,?_⟩ ⟨?_,trivial⟩ rfl (Nat.zero_le _) (scB.cons rfl (scB.cons rfl (scB.cons rfl (scB.cons (sc_clo (resF_clo C)) (scB.cons (sc_clo busF_clo) scB.nil))))) rfl,fun⟨i,A,cap⟩ ⟨hi,hA⟩=>VC_ok gT mxd ⟨fun h=>VC_ok gT mxd ?_,fun h=>VC_ok gT mxd ?_⟩⟩
 ·show(_,_,_)=(_,_,_)
  rw[flR_congr (P:=busT C (fun _=>none) (fun _=>0) 0) (Q:=fun j=>(gB C j).C) fun j _=>if_neg (Nat.not_lt_zero _)]
 ·show(⟨_,_,_,_,_,_⟩:Fam)=⟨_,_,_,_,_,_⟩
  congr 1
 all_goals
  replace hi:i≤C.buses.l.length:=hi
  replace hA:∀j,i≤j→A j=none:=hA
 ·have hil:i<C.buses.l.length:=by replace h:(i:Int)<(C.buses.l.length:Nat):=h;omega
  refine⟨i,⟨rfl,hil,by rw[flR_len fun j _=>busT_len j];show i*3<_;omega⟩,(gB C i).C,⟨(flR_at (fun j _=>busT_len j) hil).trans (if_neg (Nat.lt_irrefl _)),rfl⟩,?_⟩
  refine⟨.seq (sq 8 (List.range 9)),by kernel_rfl,[],clI_o (fun _=>rfl) (int_clo _) (Nat.le_trans (hB.bd i) bL),rfl,rfl,rfl,fun _ _=>?_⟩
  refine⟨i,⟨rfl,hil,by rw[flR_len fun j _=>busT_len j];show i*3<_;omega⟩,_,⟨flR_sub busT_len hil bL,by rw[flR_len fun j _=>busT_len j];show i*3+1+1≤_;omega⟩,(i+1:Nat),wi,gsink tGt 6 rfl bL (dem_clo C i) bL rfl fun Aa aa=>⟨_,map_id' sink_clo (resF_clo C),_,bus_next,gput tGt 0 1 i rfl rfl rfl hil (hA i (Nat.le_refl _)) bL rfl rfl (gfin hM (chg:=fun g:Nat×(Nat→Option Nat)×(Nat→Nat)=>[(26,.c (iC g.1))]) (bls:=fun g=>blC C (dC1 C) (flatR C.buses.l.length (busT C g.2.1 g.2.2 g.1))) (fls:=fun g=>[famD C g.2.1 g.2.2 g.1]) (i+1,upd A i Aa,upd cap i aa) ⟨⟨hil,fun j hj=>?_⟩,?_⟩ rfl ⟨rfl,rfl,rfl,rfl,rfl⟩ ⟨fam_next,trivial⟩ rfl (Nat.zero_le _) (scB.cons rfl (scB.cons rfl (scB.cons rfl (scB.cons (sc_clo (resF_clo C)) (scB.cons (sc_clo busF_clo) scB.nil))))) rfl)⟩⟩
  ·have hj':i+1≤j:=hj
   exact(upd_ne oM).trans (hA j oM)
  show C.buses.l.length-(i+1)<C.buses.l.length-i
  omega
 have hii:i=C.buses.l.length:=by replace h:¬(i:Int)<(C.buses.l.length:Nat):=h;omega
 refine VC_ok gT mxd ?_
 refine⟨[],clL_o (fun _=>rfl) (fun _=>all_clo rfl) (Nat.le_trans hB.l bL),rfl,rfl,rfl,fun _ _=>?_⟩
 refine vloopD (rn [(6,7),(47,60)]) 6 (fun g:Nat×(Nat→Option Addr×Nat)=>[(47,.c (iC g.1))]) (fun g=>blC C [iC C.hours,.s 3 C.reserve.l.length,.s 4 C.buses.l.length,.s 5 C.lines.l.length,C.units.R 22 UnitM.C unit0,C.stores.R 9 StoreM.C store0,C.ties.R 5 TieM.C tie0,C.outs.R 4 OutM.C out0] (flatR C.buses.l.length (busT C A cap i))++[(71,12,flatR C.lines.l.length (celL C g.2 g.1))]) (fun g=>g.1≤C.lines.l.length) (fun g=>C.lines.l.length-g.1) (0,fun _=>(none,0)) (fun _=>rfl) bL (fun _=>scB.cons rfl (scB.cons rfl (scB.cons rfl (scB.cons (sc_clo (resF_clo C)) (scB.cons (sc_clo busF_clo) (scB.cons (sc_clo (fl_clo celL_clo _)) scB.nil)))))) (fun _=>rfl) ?_
 refine⟨⟨rfl,Nat.zero_le _,⟨rfl,rfl,rfl,rfl,rfl,rfl⟩,rfl⟩,fun⟨kL,FL⟩ hkL=>VC_ok gT mxd ⟨fun h=>VC_ok gT mxd ?_,fun hL=>VC_ok gT mxd ?_⟩⟩
 all_goals
  replace hkL:kL≤C.lines.l.length:=hkL
 ·have hkl:kL<C.lines.l.length:=by replace h:(kL:Int)<(C.lines.l.length:Nat):=h;omega
  have hbn:=hB.l
  have ix:∀{P:Nat→List CV},(∀j,(P j).length=12)→kL*12<(flatR C.lines.l.length P).length:=fun hl=>by rw[flR_len fun j _=>hl j];omega
  have fit:∀{P:Nat→List CV} {o:Nat},(∀j,(P j).length=12)→o+1≤12→kL*12+o+1≤(flatR C.lines.l.length P).length:=fun hl ho=>by rw[flR_len fun j _=>hl j];omega
  refine⟨kL,⟨rfl,hkl,ix celL_len⟩,(gL C kL).C,⟨(flR_at (fun j _=>celL_len j) hkl).trans (by unfold celL;rw[if_neg (Nat.lt_irrefl _)]),rfl⟩,.seq (sq 8 (List.range 9)),by kernel_rfl,[],clI_r (fun _=>rfl) (int_clo _) (Nat.le_trans (hB.la kL) bL),rfl,rfl,rfl,fun g0 _=>⟨kL,⟨rfl,hkl,ix (celL_len)⟩,_,⟨flR_sub (celL_len) hkl (bl1 11 12 rfl),fit (celL_len) (bl1 11 12 rfl)⟩,(kL+1:Nat),wi,(kL+1,upd FL kL g0.2),⟨hkl,show C.lines.l.length-(kL+1)<C.lines.l.length-kL by omega⟩,rfl,⟨rfl,rfl,rfl,rfl,rfl,?_⟩,rfl⟩⟩
  exact congrArg (fun l=>(71,12,l)) (celL_next g0.2)
 have hqL:kL=C.lines.l.length:=by replace hL:¬(kL:Int)<(C.lines.l.length:Nat):=hL;omega
 refine gsink tSd 5 rfl bL (fl_clo celL_clo _) bL rfl fun AL aL=>⟨_,map_id' sink_clo (resF_clo C),_,map_id' sink_clo busF_clo,gfree tSd 2 1 [iC C.hours,.s 3 C.reserve.l.length,.s 4 C.buses.l.length,.r (AL.map fun b=>⟨b,0,none⟩) C.lines.l.length aL 12 (fun j=>LineM.C ((lstL C FL).getD j line0)),C.units.R 22 UnitM.C unit0,C.stores.R 9 StoreM.C store0,C.ties.R 5 TieM.C tie0,C.outs.R 4 OutM.C out0] rfl rfl rfl rfl (frset (k0:=3) rfl ⟨0,C.lines.l.length,_,bL,rfl,rfl,(flR_len fun j _=>celL_len j).symm,fun q hq=>(lstL_at hq).trans ?_⟩) (VC_ok gT mxd ?_)⟩
 ·rw[←hqL]
  exact(flR_at (fun j _=>celL_len j) oM).symm
 refine⟨[],clU_o (fun _=>rfl) (fun _=>all_clo rfl) (Nat.le_trans hB.u bL),rfl,rfl,rfl,fun _ _=>?_⟩
 refine vloopD (rn [(8,9),(68,89)]) 7 (fun g:Nat×(Nat→(Option Addr×Nat)×(Option Addr×Nat))=>[(68,.c (iC g.1))]) (fun g=>blC C [iC C.hours,.s 3 C.reserve.l.length,.s 4 C.buses.l.length,.r (AL.map fun b=>⟨b,0,none⟩) C.lines.l.length aL 12 (fun j=>LineM.C ((lstL C FL).getD j line0)),.s 6 C.units.l.length,C.stores.R 9 StoreM.C store0,C.ties.R 5 TieM.C tie0,C.outs.R 4 OutM.C out0] (flatR C.buses.l.length (busT C A cap i))++[(71,12,[]),(42,22,flatR C.units.l.length (celU C g.2 g.1))]) (fun g=>g.1≤C.units.l.length) (fun g=>C.units.l.length-g.1) (0,fun _=>((none,0),(none,0))) (fun _=>rfl) bL (fun _=>scB.cons rfl (scB.cons rfl (scB.cons rfl (scB.cons (sc_clo (resF_clo C)) (scB.cons (sc_clo busF_clo) (scB.cons rfl (scB.cons (sc_clo (fl_clo celU_clo _)) scB.nil))))))) (fun _=>rfl) ?_
 refine⟨⟨rfl,Nat.zero_le _,⟨rfl,rfl,rfl,rfl,rfl,rfl,rfl⟩,rfl⟩,fun⟨kU,FU⟩ hkU=>VC_ok gT mxd ⟨fun h=>VC_ok gT mxd ?_,fun hU=>VC_ok gT mxd ?_⟩⟩
 all_goals
  replace hkU:kU≤C.units.l.length:=hkU
 ·have hkl:kU<C.units.l.length:=by replace h:(kU:Int)<(C.units.l.length:Nat):=h;omega
  have hbn:=hB.u
  have ix:∀{P:Nat→List CV},(∀j,(P j).length=22)→kU*22<(flatR C.units.l.length P).length:=fun hl=>by rw[flR_len fun j _=>hl j];omega
  have fit:∀{P:Nat→List CV} {o:Nat},(∀j,(P j).length=22)→o+1≤22→kU*22+o+1≤(flatR C.units.l.length P).length:=fun hl ho=>by rw[flR_len fun j _=>hl j];omega
  refine⟨kU,⟨rfl,hkl,ix celU_len⟩,(gU C kU).C,⟨(flR_at (fun j _=>celU_len j) hkl).trans (by unfold celU;rw[if_neg (Nat.lt_irrefl _)]),rfl⟩,.seq (sq 8 (List.range 9)),by kernel_rfl,[],clS_r (fun _=>rfl) (fun _=>all_clo rfl) (Nat.le_trans (hB.us kU) bL),rfl,rfl,rfl,fun g0 _=>⟨kU,⟨rfl,hkl,ix (celU_len)⟩,_,⟨flR_sub (celU_len) hkl (bl1 4 22 rfl),fit (celU_len) (bl1 4 22 rfl)⟩,.seq (sq 8 (List.range 9)),by kernel_rfl,[],clI_r (fun _=>rfl) (int_clo _) (Nat.le_trans (hB.ua kU) bL),rfl,rfl,rfl,fun g1 _=>⟨kU,⟨rfl,hkl,ix (put_len (celU_len) (bl1 4 22 rfl))⟩,_,⟨flR_sub (put_len (celU_len) (bl1 4 22 rfl)) hkl (bl1 18 22 rfl),fit (put_len (celU_len) (bl1 4 22 rfl)) (bl1 18 22 rfl)⟩,(kU+1:Nat),wi,(kU+1,upd FU kU (g0.2,g1.2)),⟨hkl,show C.units.l.length-(kU+1)<C.units.l.length-kU by omega⟩,rfl,⟨rfl,rfl,rfl,rfl,rfl,rfl,?_⟩,rfl⟩⟩⟩
  exact congrArg (fun l=>(42,22,l)) (celU_next (g0.2,g1.2))
 have hqU:kU=C.units.l.length:=by replace hU:¬(kU:Int)<(C.units.l.length:Nat):=hU;omega
 refine gsink tSd 6 rfl bL (fl_clo celU_clo _) bL rfl fun AU aU=>⟨_,map_id' sink_clo (resF_clo C),_,map_id' sink_clo busF_clo,_,rfl,gfree tSd 2 2 [iC C.hours,.s 3 C.reserve.l.length,.s 4 C.buses.l.length,.r (AL.map fun b=>⟨b,0,none⟩) C.lines.l.length aL 12 (fun j=>LineM.C ((lstL C FL).getD j line0)),.r (AU.map fun b=>⟨b,0,none⟩) C.units.l.length aU 22 (fun j=>UnitM.C ((lstU C FU).getD j unit0)),C.stores.R 9 StoreM.C store0,C.ties.R 5 TieM.C tie0,C.outs.R 4 OutM.C out0] rfl rfl rfl rfl (frset (k0:=4) rfl ⟨0,C.units.l.length,_,bL,rfl,rfl,(flR_len fun j _=>celU_len j).symm,fun q hq=>(lstU_at hq).trans ?_⟩) (VC_ok gT mxd ?_)⟩
 ·rw[←hqU]
  exact(flR_at (fun j _=>celU_len j) oM).symm
 refine⟨[],clT_r (fun _=>rfl) (fun _=>all_clo rfl) (Nat.le_trans hB.s bL),rfl,rfl,rfl,fun gSt _=>⟨[],clE_o (fun _=>rfl) (fun _=>all_clo rfl) (Nat.le_trans hB.t bL),rfl,rfl,rfl,fun _ _=>?_⟩⟩
 refine vloopD (rn [(10,11),(101,130)]) 8 (fun g:Nat×(Nat→(Option Addr×Nat)×(Option Addr×Nat)×(Option Addr×Nat))=>[(101,.c (iC g.1))]) (fun g=>blC C [iC C.hours,.s 3 C.reserve.l.length,.s 4 C.buses.l.length,.r (AL.map fun b=>⟨b,0,none⟩) C.lines.l.length aL 12 (fun j=>LineM.C ((lstL C FL).getD j line0)),.r (AU.map fun b=>⟨b,0,none⟩) C.units.l.length aU 22 (fun j=>UnitM.C ((lstU C FU).getD j unit0)),.r gSt.2.1 C.stores.l.length gSt.2.2 9 (fun j=>StoreM.C (C.stores.l.getD j store0)),.s 7 C.ties.l.length,C.outs.R 4 OutM.C out0] (flatR C.buses.l.length (busT C A cap i))++[(71,12,[]),(42,22,[]),(77,5,flatR C.ties.l.length (celE C g.2 g.1))]) (fun g=>g.1≤C.ties.l.length) (fun g=>C.ties.l.length-g.1) (0,fun _=>((none,0),(none,0),(none,0))) (fun _=>rfl) bL (fun _=>scB.cons rfl (scB.cons rfl (scB.cons rfl (scB.cons (sc_clo (resF_clo C)) (scB.cons (sc_clo busF_clo) (scB.cons rfl (scB.cons rfl (scB.cons (sc_clo (fl_clo celE_clo _)) scB.nil)))))))) (fun _=>rfl) ?_
 refine⟨⟨rfl,Nat.zero_le _,⟨rfl,rfl,rfl,rfl,rfl,rfl,rfl,rfl⟩,rfl⟩,fun⟨kE,FE⟩ hkE=>VC_ok gT mxd ⟨fun h=>VC_ok gT mxd ?_,fun hE=>VC_ok gT mxd ?_⟩⟩
 all_goals
  replace hkE:kE≤C.ties.l.length:=hkE
 ·have hkl:kE<C.ties.l.length:=by replace h:(kE:Int)<(C.ties.l.length:Nat):=h;omega
  have hbn:=hB.t
  have ix:∀{P:Nat→List CV},(∀j,(P j).length=5)→kE*5<(flatR C.ties.l.length P).length:=fun hl=>by rw[flR_len fun j _=>hl j];omega
  have fit:∀{P:Nat→List CV} {o:Nat},(∀j,(P j).length=5)→o+1≤5→kE*5+o+1≤(flatR C.ties.l.length P).length:=fun hl ho=>by rw[flR_len fun j _=>hl j];omega
  refine⟨kE,⟨rfl,hkl,ix celE_len⟩,(gE C kE).C,⟨(flR_at (fun j _=>celE_len j) hkl).trans (by unfold celE;rw[if_neg (Nat.lt_irrefl _)]),rfl⟩,.seq (sq 8 (List.range 9)),by kernel_rfl,[],clI_r (fun _=>rfl) (int_clo _) (Nat.le_trans (hB.ti kE) bL),rfl,rfl,rfl,fun g0 _=>⟨kE,⟨rfl,hkl,ix (celE_len)⟩,_,⟨flR_sub (celE_len) hkl (bl1 2 5 rfl),fit (celE_len) (bl1 2 5 rfl)⟩,.seq (sq 8 (List.range 9)),by kernel_rfl,[],clI_r (fun _=>rfl) (int_clo _) (Nat.le_trans (hB.te kE) bL),rfl,rfl,rfl,fun g1 _=>⟨kE,⟨rfl,hkl,ix (put_len (celE_len) (bl1 2 5 rfl))⟩,_,⟨flR_sub (put_len (celE_len) (bl1 2 5 rfl)) hkl (bl1 3 5 rfl),fit (put_len (celE_len) (bl1 2 5 rfl)) (bl1 3 5 rfl)⟩,.seq (sq 8 (List.range 9)),by kernel_rfl,[],clI_r (fun _=>rfl) (int_clo _) (Nat.le_trans (hB.tp kE) bL),rfl,rfl,rfl,fun g2 _=>⟨kE,⟨rfl,hkl,ix (put_len (put_len (celE_len) (bl1 2 5 rfl)) (bl1 3 5 rfl))⟩,_,⟨flR_sub (put_len (put_len (celE_len) (bl1 2 5 rfl)) (bl1 3 5 rfl)) hkl (bl1 4 5 rfl),fit (put_len (put_len (celE_len) (bl1 2 5 rfl)) (bl1 3 5 rfl)) (bl1 4 5 rfl)⟩,(kE+1:Nat),wi,(kE+1,upd FE kE (g0.2,g1.2,g2.2)),⟨hkl,show C.ties.l.length-(kE+1)<C.ties.l.length-kE by omega⟩,rfl,⟨rfl,rfl,rfl,rfl,rfl,rfl,rfl,?_⟩,rfl⟩⟩⟩⟩
  exact congrArg (fun l=>(77,5,l)) (celE_next (g0.2,g1.2,g2.2))
 have hqE:kE=C.ties.l.length:=by replace hE:¬(kE:Int)<(C.ties.l.length:Nat):=hE;omega
 refine gsink tSd 7 rfl bL (fl_clo celE_clo _) bL rfl fun AE aE=>⟨_,map_id' sink_clo (resF_clo C),_,map_id' sink_clo busF_clo,_,rfl,_,rfl,gfree tSd 2 3 [iC C.hours,.s 3 C.reserve.l.length,.s 4 C.buses.l.length,.r (AL.map fun b=>⟨b,0,none⟩) C.lines.l.length aL 12 (fun j=>LineM.C ((lstL C FL).getD j line0)),.r (AU.map fun b=>⟨b,0,none⟩) C.units.l.length aU 22 (fun j=>UnitM.C ((lstU C FU).getD j unit0)),.r gSt.2.1 C.stores.l.length gSt.2.2 9 (fun j=>StoreM.C (C.stores.l.getD j store0)),.r (AE.map fun b=>⟨b,0,none⟩) C.ties.l.length aE 5 (fun j=>TieM.C ((lstE C FE).getD j tie0)),C.outs.R 4 OutM.C out0] rfl rfl rfl rfl (frset (k0:=6) rfl ⟨0,C.ties.l.length,_,bL,rfl,rfl,(flR_len fun j _=>celE_len j).symm,fun q hq=>(lstE_at hq).trans ?_⟩) (VC_ok gT mxd ?_)⟩
 ·rw[←hqE]
  exact(flR_at (fun j _=>celE_len j) oM).symm
 refine⟨[],clO_o (fun _=>rfl) (fun _=>all_clo rfl) (Nat.le_trans hB.o bL),rfl,rfl,rfl,fun _ _=>?_⟩
 refine vloopD (rn [(12,13),(138,159)]) 9 (fun g:Nat×(Nat→(Option Addr×Nat)×(Option Addr×Nat))=>[(138,.c (iC g.1))]) (fun g=>blC C [iC C.hours,.s 3 C.reserve.l.length,.s 4 C.buses.l.length,.r (AL.map fun b=>⟨b,0,none⟩) C.lines.l.length aL 12 (fun j=>LineM.C ((lstL C FL).getD j line0)),.r (AU.map fun b=>⟨b,0,none⟩) C.units.l.length aU 22 (fun j=>UnitM.C ((lstU C FU).getD j unit0)),.r gSt.2.1 C.stores.l.length gSt.2.2 9 (fun j=>StoreM.C (C.stores.l.getD j store0)),.r (AE.map fun b=>⟨b,0,none⟩) C.ties.l.length aE 5 (fun j=>TieM.C ((lstE C FE).getD j tie0)),.s 8 C.outs.l.length] (flatR C.buses.l.length (busT C A cap i))++[(71,12,[]),(42,22,[]),(77,5,[]),(47,4,flatR C.outs.l.length (celO C g.2 g.1))]) (fun g=>g.1≤C.outs.l.length) (fun g=>C.outs.l.length-g.1) (0,fun _=>((none,0),(none,0))) (fun _=>rfl) bL (fun _=>scB.cons rfl (scB.cons rfl (scB.cons rfl (scB.cons (sc_clo (resF_clo C)) (scB.cons (sc_clo busF_clo) (scB.cons rfl (scB.cons rfl (scB.cons rfl (scB.cons (sc_clo (fl_clo celO_clo _)) scB.nil))))))))) (fun _=>rfl) ?_
 refine⟨⟨rfl,Nat.zero_le _,⟨rfl,rfl,rfl,rfl,rfl,rfl,rfl,rfl,rfl⟩,rfl⟩,fun⟨kO,FO⟩ hkO=>VC_ok gT mxd ⟨fun h=>VC_ok gT mxd ?_,fun hO=>VC_ok gT mxd ?_⟩⟩
 all_goals
  replace hkO:kO≤C.outs.l.length:=hkO
 ·have hkl:kO<C.outs.l.length:=by replace h:(kO:Int)<(C.outs.l.length:Nat):=h;omega
  have hbn:=hB.o
  have ix:∀{P:Nat→List CV},(∀j,(P j).length=4)→kO*4<(flatR C.outs.l.length P).length:=fun hl=>by rw[flR_len fun j _=>hl j];omega
  have fit:∀{P:Nat→List CV} {o:Nat},(∀j,(P j).length=4)→o+1≤4→kO*4+o+1≤(flatR C.outs.l.length P).length:=fun hl ho=>by rw[flR_len fun j _=>hl j];omega
  refine⟨kO,⟨rfl,hkl,ix celO_len⟩,(gO C kO).C,⟨(flR_at (fun j _=>celO_len j) hkl).trans (by unfold celO;rw[if_neg (Nat.lt_irrefl _)]),rfl⟩,.seq (sq 8 (List.range 9)),by kernel_rfl,[],clI_r (fun _=>rfl) (int_clo _) (Nat.le_trans (hB.ol kO) bL),rfl,rfl,rfl,fun g0 _=>⟨kO,⟨rfl,hkl,ix (celO_len)⟩,_,⟨flR_sub (celO_len) hkl (bl1 1 4 rfl),fit (celO_len) (bl1 1 4 rfl)⟩,.seq (sq 8 (List.range 9)),by kernel_rfl,[],clM_r (fun _=>rfl) (fun _=>all_clo rfl) (Nat.le_trans (hB.om kO) bL),rfl,rfl,rfl,fun g1 _=>⟨kO,⟨rfl,hkl,ix (put_len (celO_len) (bl1 1 4 rfl))⟩,_,⟨flR_sub (put_len (celO_len) (bl1 1 4 rfl)) hkl (bl1 3 4 rfl),fit (put_len (celO_len) (bl1 1 4 rfl)) (bl1 3 4 rfl)⟩,(kO+1:Nat),wi,(kO+1,upd FO kO (g0.2,g1.2)),⟨hkl,show C.outs.l.length-(kO+1)<C.outs.l.length-kO by omega⟩,rfl,⟨rfl,rfl,rfl,rfl,rfl,rfl,rfl,rfl,?_⟩,rfl⟩⟩⟩
  exact congrArg (fun l=>(47,4,l)) (celO_next (g0.2,g1.2))
 have hqO:kO=C.outs.l.length:=by replace hO:¬(kO:Int)<(C.outs.l.length:Nat):=hO;omega
 refine gsink tSd 8 rfl bL (fl_clo celO_clo _) bL rfl fun AO aO=>⟨_,map_id' sink_clo (resF_clo C),_,map_id' sink_clo busF_clo,_,rfl,_,rfl,_,rfl,gfree tSd 2 4 [iC C.hours,.s 3 C.reserve.l.length,.s 4 C.buses.l.length,.r (AL.map fun b=>⟨b,0,none⟩) C.lines.l.length aL 12 (fun j=>LineM.C ((lstL C FL).getD j line0)),.r (AU.map fun b=>⟨b,0,none⟩) C.units.l.length aU 22 (fun j=>UnitM.C ((lstU C FU).getD j unit0)),.r gSt.2.1 C.stores.l.length gSt.2.2 9 (fun j=>StoreM.C (C.stores.l.getD j store0)),.r (AE.map fun b=>⟨b,0,none⟩) C.ties.l.length aE 5 (fun j=>TieM.C ((lstE C FE).getD j tie0)),.r (AO.map fun b=>⟨b,0,none⟩) C.outs.l.length aO 4 (fun j=>OutM.C ((lstO C FO).getD j out0))] rfl rfl rfl rfl (frset (k0:=7) rfl ⟨0,C.outs.l.length,_,bL,rfl,rfl,(flR_len fun j _=>celO_len j).symm,fun q hq=>(lstO_at hq).trans ?_⟩) (VC_ok gT mxd ?_)⟩
 ·rw[←hqO]
  exact(flR_at (fun j _=>celO_len j) oM).symm
 refine⟨⟨A,cap,⟨0,nilS,nilS,⟨AL.map fun b=>⟨b,0,none⟩,aL,lstL C FL⟩,⟨AU.map fun b=>⟨b,0,none⟩,aU,lstU C FU⟩,⟨gSt.2.1,gSt.2.2,C.stores.l⟩,⟨AE.map fun b=>⟨b,0,none⟩,aE,lstE C FE⟩,⟨AO.map fun b=>⟨b,0,none⟩,aO,lstO C FO⟩⟩⟩,⟨⟨_,rfl⟩,⟨_,rfl⟩,rfl,⟨_,rfl⟩,⟨_,rfl⟩⟩,fin_ownF rfl ⟨rfl,rfl,rfl,rfl,?_⟩ ⟨?_,trivial⟩ bL (scB.cons rfl (scB.cons rfl (scB.cons rfl (scB.cons (sc_clo (resF_clo C)) (scB.cons (sc_clo busF_clo) scB.nil))))) rfl (ClB.cons (fun _=>rfl) (ClB.cons (nomatch ·) (ClB.cons (nomatch ·) (ClB.cons (fun _=>List.all_eq_true.2 (resF_clo C)) (ClB.one (List.all_eq_true.2 busF_clo))))))⟩
 ·show(_,_,_)=(_,_,_)
  rw[hii]
 show famD C A cap i=famD C A cap _
 rw[hii]
end Go.Proofs.YtandhgfmfpmemaaGreat
namespace Go.Proofs.YtandhgfmfpmemaaGreat.W
open Go.Vg _root_.Go.Proofs.Tryz
theorem mixed:Tryz.prog.follows .mixedOrders=true:=by kernel_rfl
theorem ty3:TyI Tryz.prog 3 1 8 (.int .i64 0):=TyI.of kR--int
theorem ag3:aggB Tryz.prog 3=false:=by kernel_rfl
theorem ag53:aggB Tryz.prog 53=false:=by kernel_rfl
theorem ty61:TyI Tryz.prog 61 2 16 (.agg #[.int .i64 0,.int .i64 0]):=TyI.of kR--api.Load
theorem ag61:aggB Tryz.prog 61=true:=by kernel_rfl
theorem ty149:TyI Tryz.prog 149 1 8 (.nilFunc):=TyI.of kR--func(int) int64
theorem ag149:aggB Tryz.prog 149=false:=by kernel_rfl
theorem ent17:Ent Tryz.prog 17:=Ent.of func17 rfl kR--gridmarket/caseform.Check
theorem ent34:Ent Tryz.prog 34:=Ent.of func34 rfl kR--(*gridmarket/caseform.checker).whole
theorem ent35:Ent Tryz.prog 35:=Ent.of func35 rfl kR--(*gridmarket/caseform.checker).buses
theorem ent36:Ent Tryz.prog 36:=Ent.of func36 rfl kR--(*gridmarket/caseform.checker).lines
theorem ent37:Ent Tryz.prog 37:=Ent.of func37 rfl kR--(*gridmarket/caseform.checker).units
theorem ent38:Ent Tryz.prog 38:=Ent.of func38 rfl kR--(*gridmarket/caseform.checker).stores
theorem ent39:Ent Tryz.prog 39:=Ent.of func39 rfl kR--(*gridmarket/caseform.checker).ties
theorem ent40:Ent Tryz.prog 40:=Ent.of func40 rfl kR--(*gridmarket/caseform.checker).outages
theorem ent41:Ent Tryz.prog 41:=Ent.of func41 rfl kR--(*gridmarket/caseform.checker).islands
theorem ent42:Ent Tryz.prog 42:=Ent.of func42 rfl kR--slices.Clone[[]int,int]
theorem ent51:Ent Tryz.prog 51:=Ent.of func51 rfl kR--slices.SortStableFunc[[]int,int]
theorem ent52:Ent Tryz.prog 52:=Ent.of func52 rfl kR--gridmarket/executive.Curtail$1
theorem ent53:Ent Tryz.prog 53:=Ent.of func53 rfl kR--cmp.Compare[int]
theorem ent54:Ent Tryz.prog 54:=Ent.of func54 rfl kR--gridmarket/executive.divide
theorem ent80:Ent Tryz.prog 80:=Ent.of func80 rfl kR--(*gridmarket/caseform.checker).at
theorem ent81:Ent Tryz.prog 81:=Ent.of func81 rfl kR--(*gridmarket/caseform.checker).within
theorem ent82:Ent Tryz.prog 82:=Ent.of func82 rfl kR--(*gridmarket/caseform.checker).hourly
theorem ent83:Ent Tryz.prog 83:=Ent.of func83 rfl kR--(*gridmarket/caseform.checker).need
theorem ent84:Ent Tryz.prog 84:=Ent.of func84 rfl kR--(*gridmarket/caseform.checker).name
theorem ent85:Ent Tryz.prog 85:=Ent.of func85 rfl kR--(*gridmarket/caseform.checker).buses$1
theorem ent86:Ent Tryz.prog 86:=Ent.of func86 rfl kR--(*gridmarket/caseform.checker).lines$1
theorem ent87:Ent Tryz.prog 87:=Ent.of func87 rfl kR--(*gridmarket/caseform.checker).bus
theorem ent88:Ent Tryz.prog 88:=Ent.of func88 rfl kR--gridmarket/caseform.valid
theorem ent89:Ent Tryz.prog 89:=Ent.of func89 rfl kR--(*gridmarket/caseform.checker).away
theorem ent90:Ent Tryz.prog 90:=Ent.of func90 rfl kR--(*gridmarket/caseform.checker).units$1
theorem ent91:Ent Tryz.prog 91:=Ent.of func91 rfl kR--(*gridmarket/caseform.checker).segments
theorem ent92:Ent Tryz.prog 92:=Ent.of func92 rfl kR--(*gridmarket/caseform.checker).stores$1
theorem ent93:Ent Tryz.prog 93:=Ent.of func93 rfl kR--(*gridmarket/caseform.checker).ties$1
theorem ent94:Ent Tryz.prog 94:=Ent.of func94 rfl kR--(*gridmarket/caseform.checker).outages$1
theorem ent95:Ent Tryz.prog 95:=Ent.of func95 rfl kR--gridmarket/caseform.ascending
theorem ent96:Ent Tryz.prog 96:=Ent.of func96 rfl kR--(*gridmarket/caseform.checker).moves
theorem ent97:Ent Tryz.prog 97:=Ent.of func97 rfl kR--gridmarket/caseform.active
theorem ent98:Ent Tryz.prog 98:=Ent.of func98 rfl kR--gridmarket/caseform.parts
theorem ent99:Ent Tryz.prog 99:=Ent.of func99 rfl kR--slices.stableCmpFunc[int]
theorem ent100:Ent Tryz.prog 100:=Ent.of func100 rfl kR--cmp.isNaN[int]
theorem ent101:Ent Tryz.prog 101:=Ent.of func101 rfl kR--gridmarket/executive.divide$1
theorem ent102:Ent Tryz.prog 102:=Ent.of func102 rfl kR--gridmarket/executive.divide$2
theorem ent103:Ent Tryz.prog 103:=Ent.of func103 rfl kR--cmp.Compare[int64]
theorem ent106:Ent Tryz.prog 106:=Ent.of func106 rfl kR--gridmarket/gridmarketref17.Name
theorem ent126:Ent Tryz.prog 126:=Ent.of func126 rfl kR--gridmarket/casetext.Name
theorem ent127:Ent Tryz.prog 127:=Ent.of func127 rfl kR--slices.Contains[[]int,int]
theorem ent128:Ent Tryz.prog 128:=Ent.of func128 rfl kR--slices.insertionSortCmpFunc[int]
theorem ent129:Ent Tryz.prog 129:=Ent.of func129 rfl kR--slices.symMergeCmpFunc[int]
theorem ent130:Ent Tryz.prog 130:=Ent.of func130 rfl kR--cmp.isNaN[int64]
theorem ent145:Ent Tryz.prog 145:=Ent.of func145 rfl kR--slices.Index[[]int,int]
theorem ent146:Ent Tryz.prog 146:=Ent.of func146 rfl kR--slices.rotateCmpFunc[int]
theorem ent154:Ent Tryz.prog 154:=Ent.of func154 rfl kR--slices.swapRangeCmpFunc[int]
abbrev uT3:=Tryz.underlying3
abbrev uT22:=Tryz.underlying22
abbrev uT53:=Tryz.underlying53
abbrev uT61:=Tryz.underlying61
abbrev uT149:=Tryz.underlying149
abbrev uT187:=Tryz.underlying187
end Go.Proofs.YtandhgfmfpmemaaGreat.W
namespace Go.Vg
open Go Go.RowKit
section
variable {P:Program} {f:Nat→Value} {w:World} {dst:Option Tmp} {ty:TypeId} {pos:String} {aft:Array Edge} {g:Option (Nat×Bool)} {x y:Operand} {t e:TypeId}
end
section
variable {P:Program} {n:Nat} {f:Nat→Value} {w:World} {o:Oper} {ops:Array Oper} {rest:List Oper} {Q:Po} {d:Nat} {R:Value→World→Prop}
end
section
variable {P:Program} {n:Nat} {f:Nat→Value} {w:World} {ops:Array Oper} {Q:Po}
end
section
variable {α:Type} {w:World} {e:TypeId} {D:Nat→TypeId→Prop}
theorem Ow.ss {c:α→List Value} {lo size n:Nat} {v:Value} {l:List Value} {xs:List α} (h:Ow w lo e size v n l) (hl:l=(xs.map c).flatten) (hn:n=xs.length) (hs:0<size) (hc:∀x∈xs,(c x).length=size) (hD:∀b,lo≤b→D b e):Ss c size D w v xs:=by
 subst hl hn
 exact⟨⟨hs,hc⟩,h.sc hD⟩
theorem Ow.sg {g:α→Value} {lo n:Nat} {v:Value} {l:List Value} {xs:List α} (h:Ow w lo e 1 v n l) (hl:l=xs.map g) (hn:n=xs.length) (hD:∀b,lo≤b→D b e):Sg g D w v xs:=by
 subst hl hn
 exact h.sc hD
theorem Bk.ss {c:α→List Value} {b size n:Nat} {l:List Value} {xs:List α} (h:Bk w b e l) (hd:D b e) (hl:l=(xs.map c).flatten) (hn:n=xs.length) (hs:0<size) (hc:∀x∈xs,(c x).length=size) (hm:n≤9223372036854775807):Ss c size D w (.slice (some ⟨b,0,none⟩) n n) xs:=by
 subst hn
 refine⟨⟨hs,hc⟩,?_⟩
 rw[←hl]
 refine h.sc hd ?_ hm
 rw[hl,List.length_flatten,List.map_map]
 rw[List.map_congr_left (f:=List.length∘c) (g:=fun _=>size) (fun x hx=>hc x hx)]
 generalize xs=ys
 clear h hc hd hl hm
 induction ys with
 |nil=>simp
 |cons y ys ih=>rw[List.map_cons,List.sum_cons,ih,List.length_cons,Nat.succ_mul,Nat.add_comm]
theorem Bk.sg {g:α→Value} {b n:Nat} {l:List Value} {xs:List α} (h:Bk w b e l) (hd:D b e) (hl:l=xs.map g) (hn:n=xs.length) (hm:n≤9223372036854775807):Sg g D w (.slice (some ⟨b,0,none⟩) n n) xs:=by
 subst hn
 subst hl
 exact h.sc hd (by simp) hm
theorem Bk.ar {g:α→Value} {b n:Nat} {l:List Value} {xs:List α} (h:Bk w b e l) (hl:l=xs.map g) (hn:xs.length=n):Ar g w b e 0 xs n:=⟨⟨[],[],rfl,by subst hl;simpa using h⟩,hn⟩
end
end Go.Vg
namespace Go.Vg
open Go Go.RowKit
section
variable {P:Program} {n:Nat} {Q:Po} {f:Nat→Value} {w w':World} {ops:Array Oper} {o:Oper} {rest:List Oper} {d:Nat} {v:Value}
theorem sE {a b:Value} (h:a=b:=by first|rfl|exact int_eq oM|exact bool_eq (by simp)):a=b:=h
abbrev iv (a:Int):Value:=.int .i64 a
abbrev bd (p:Prop) [Decidable p]:Value:=.bool (decide p)
theorem bD (p:Prop) [Decidable p]:(decide p=true∧p)∨(decide p=false∧¬p):=by by_cases h:p<;>simp[h]
theorem wcD {c:Operand} {x y:Code} {p:Prop} [Decidable p] (hc:ev f c= .bool (decide p)) (ht:decide p=true→p→WP P n x Q f w) (he:decide p=false→¬p→WP P n y Q f w):WP P n (.cond c x y) Q f w:=wcond hc (fun h=>ht h (of_decide_eq_true h)) (fun h=>he h (of_decide_eq_false h))
theorem wsr {id:Nat} {l:List Oper} {y:Code} (h:RL P n l.toArray l ⟨fun f w=>WP P n y Q f w,Q.ext,Q.ret⟩ f w):WP P n (.seq (.region id l.toArray false) y) Q f w:=wseq (wregion h)
theorem mV {x:Operand} {ty:TypeId} {pos:String} {aft:Array Edge} (hv:ev f x=v) (h:RL P n ops rest Q (st f d v) w) (hn:d<n:=by decide):RL P n ops (⟨some d,.move x,ty,pos,aft,none⟩::rest) Q f w:=RL.val rfl rfl hn (r_move_as hv) h
theorem aS {x:Operand} {ty:TypeId} {pos:String} {aft:Array Edge} (hv:ev f x=v) (h:RL P n ops rest Q (st f d v) w) (hn:d<n:=by decide):RL P n ops (⟨some d,.assign x,ty,pos,aft,none⟩::rest) Q f w:=RL.val rfl rfl hn (r_assign_as hv) h
theorem cL {kf:FuncId} {al:List Operand} {vl:List Value} {tys:Array TypeId} {ty:TypeId} {pos:String} {aft:Array Edge} {Post:Value→World→Prop} (he:Ent P kf) (hc:Calls P kf vl.toArray w fun e w'=>∃v,e= .returned v∧Post v w') (ha:al.map (ev f)=vl) (h:∀v w',Post v w'→RL P n ops rest Q (st f d v) w') (hn:d<n:=by decide):RL P n ops (⟨some d,.call ⟨.value (.func kf),al.toArray,tys⟩,ty,pos,aft,none⟩::rest) Q f w:=RL.call rfl rfl hn (r_call he ha) hc h
theorem rV {i} {ty:TypeId} {pos:String} {aft:Array Edge} (hr:(execOp (ev f) ⟨some d,i,ty,pos,aft,none⟩).run P w= .ok (.value v) w') (h:RL P n ops rest Q (st f d v) w') (hn:d<n:=by decide):RL P n ops (⟨some d,i,ty,pos,aft,none⟩::rest) Q f w:=RL.val rfl rfl hn hr h
theorem rU {i} {ty:TypeId} {pos:String} {aft:Array Edge} {Post:Value→World→Prop} (hr:Run P f ⟨some d,i,ty,pos,aft,none⟩ w Post) (h:∀v w',Post v w'→RL P n ops rest Q (st f d v) w') (hn:d<n:=by decide):RL P n ops (⟨some d,i,ty,pos,aft,none⟩::rest) Q f w:=RL.run rfl rfl hn hr h
theorem rv (hr:(execOp (ev f) o).run P w= .ok (.value v) w') (h:RL P n ops rest Q (st f d v) w') (hg:o.guard=none:=by rfl) (hd:o.dst=some d:=by rfl) (hn:d<n:=by decide):RL P n ops (o::rest) Q f w:=RL.val hg hd hn hr h
variable {S:World→Prop} {fuel:Nat} {listed:Array Bool}
theorem ra (i:Nat) (hi:ops[i]? =some o) (hr:∀w,(execOp (ev f) o).run P w= .ok (.value v) w) (h:RA P n ops Q S fuel (listed.setIfInBounds i true) (st f d v) w) (hok:takeOk ops listed i=true:=by kernel_rfl) (hg:o.guard=none:=by rfl) (hd:o.dst=some d:=by rfl) (hn:d<n:=by decide):RA P n ops Q S (fuel+1) listed f w:=
 RA.take i hi hok hg hd hn hr h
theorem rm {i:Nat} (he:Ext w w') (h:RA P n ops Q (fun u=>Ext w' u) fuel listed f w'):Oks ops (fun u=>Ext w u) i w w'∧RA P n ops Q (fun u=>Ext w u) fuel listed f w':=
 ⟨.inr (.inr he),RA.more (S':=fun u=>Ext w' u) (fun _ hu=>Ext.trans he hu) h⟩
end
theorem _root_.Go.RowKit.Below.nb {b:Nat} {w0 w w':World} (h:Below w0.heap.size w0 w) (k:Exc b w w') (hb:w0.heap.size≤b):Below w0.heap.size w0 w':=Below.exc h h.size k hb
end Go.Vg
namespace Go.Proofs.YtandhgfmfpmemaaGreat.W
open Go.Vg Go.RowKit _root_.Go.Proofs.Tryz
set_option linter.unusedVariables false
def cmpI (x y:Int):Int:=if x<y then-1 else if y<x then 1 else 0
theorem tmod_emod {a b:Int} (ha:0≤a):a.tmod b=a%b:=Int.tmod_eq_emod_of_nonneg ha
set_option maxHeartbeats 1000000 in
theorem isNaN_int {x:Int} (w:World):
 Calls Tryz.prog 100 #[(iv x)] w fun e w'=>∃v,e= .returned v∧v= .bool false∧w=w':=by
 refine calls_of (n:=6) (rs:=[.tmp 2]) func100 rfl rfl rfl bL ?_
 refine wset fun F0 hF0=>?_
 refine wsr (aS (v:=(.bool false)) rfl (RL.nil (wsr (mV (v:=(iv x)) (hF0 0) (mV (v:=(iv x)) (hF0 0) (rV (r_neq (k:=.i64) (a:=x) (b:=x) rfl rfl) (aS (v:=(bd (x≠x))) rfl (RL.nil ?_))))))))
 refine wret ?_
 refine⟨[(bd (x≠x))],⟨rfl,trivial⟩,?_⟩
 exact⟨bool_eq (by simp),rfl⟩
set_option maxHeartbeats 1000000 in
theorem isNaN_int64 {x:Int} (w:World):
 Calls Tryz.prog 130 #[(iv x)] w fun e w'=>∃v,e= .returned v∧v= .bool false∧w=w':=by
 refine calls_of (n:=6) (rs:=[.tmp 2]) func130 rfl rfl rfl bL ?_
 refine wset fun F0 hF0=>?_
 refine wsr (aS (v:=(.bool false)) rfl (RL.nil (wsr (mV (v:=(iv x)) (hF0 0) (mV (v:=(iv x)) (hF0 0) (rV (r_neq (k:=.i64) (a:=x) (b:=x) rfl rfl) (aS (v:=(bd (x≠x))) rfl (RL.nil ?_))))))))
 refine wret ?_
 refine⟨[(bd (x≠x))],⟨rfl,trivial⟩,?_⟩
 exact⟨bool_eq (by simp),rfl⟩
set_option maxHeartbeats 1000000 in
theorem cmp_int {x y:Int} (w:World):
 Calls Tryz.prog 53 #[(iv x),(iv y)] w fun e w'=>∃v,e= .returned v∧v= .int .i64 (cmpI x y)∧w=w':=by
 refine calls_of (n:=20) (rs:=[.tmp 4]) func53 rfl rfl rfl bL ?_
 refine wset fun F0 hF0=>?_
 refine wsr (aS (v:=(iv 0)) rfl (RL.nil (wsr (mV (v:=(iv x)) (hF0 0) ?_))))
 refine cL ent100 (isNaN_int _) rfl ?_
 rintro _ _ ⟨rfl,rfl⟩
 refine aS (v:=(.bool false)) rfl (RL.nil (wsr (mV (v:=(iv y)) (hF0 1) ?_)))
 refine cL ent100 (isNaN_int _) rfl ?_
 rintro _ _ ⟨rfl,rfl⟩
 refine aS (v:=(.bool false)) rfl (RL.nil (wseq (wsr (mV (v:=(.bool false)) rfl (RL.nil ?_)))))
 refine wcond_f rfl ?_
 refine wskip ?_
 refine wseq (wsr (mV (v:=(.bool false)) rfl (RL.nil ?_)))
 refine wcond_f rfl ?_
 refine wskip ?_
 refine wseq (wsr (mV (v:=(iv x)) (hF0 0) (mV (v:=(iv y)) (hF0 1) (rV (r_lss (k:=.i64) (a:=x) (b:=y) rfl rfl) (RL.nil ?_)))))
 refine wcD (p:=x<y) rfl (fun hb3 hb3p=>?_) (fun hb3 hb3p=>?_)
 ·refine wsr ?_
  refine aS (v:=(iv (-1))) rfl (RL.nil ?_)
  refine wret ?_
  refine⟨[(iv (-1))],⟨rfl,trivial⟩,?_⟩
  exact⟨int_eq (by unfold cmpI;(repeat split)<;>omega),rfl⟩
 refine wskip ?_
 refine wseq (wsr (mV (v:=(iv x)) (hF0 0) (mV (v:=(iv y)) (hF0 1) (rV (r_gtr (k:=.i64) (a:=x) (b:=y) rfl rfl) (RL.nil ?_)))))
 refine wcD (p:=y<x) rfl (fun hb4 hb4p=>?_) (fun hb4 hb4p=>?_)
 ·refine wsr ?_
  refine aS (v:=(iv 1)) rfl (RL.nil ?_)
  refine wret ?_
  refine⟨[(iv 1)],⟨rfl,trivial⟩,?_⟩
  exact⟨int_eq (by unfold cmpI;(repeat split)<;>omega),rfl⟩
 refine wskip ?_
 refine wsr (aS (v:=(iv 0)) rfl (RL.nil ?_))
 refine wret ?_
 refine⟨[(iv 0)],⟨rfl,trivial⟩,?_⟩
 exact⟨int_eq (by unfold cmpI;(repeat split)<;>omega),rfl⟩
set_option maxHeartbeats 1000000 in
theorem cmp_int64 {x y:Int} (w:World):
 Calls Tryz.prog 103 #[(iv x),(iv y)] w fun e w'=>∃v,e= .returned v∧v= .int .i64 (cmpI x y)∧w=w':=by
 refine calls_of (n:=20) (rs:=[.tmp 4]) func103 rfl rfl rfl bL ?_
 refine wset fun F0 hF0=>?_
 refine wsr (aS (v:=(iv 0)) rfl (RL.nil (wsr (mV (v:=(iv x)) (hF0 0) ?_))))
 refine cL ent130 (isNaN_int64 _) rfl ?_
 rintro _ _ ⟨rfl,rfl⟩
 refine aS (v:=(.bool false)) rfl (RL.nil (wsr (mV (v:=(iv y)) (hF0 1) ?_)))
 refine cL ent130 (isNaN_int64 _) rfl ?_
 rintro _ _ ⟨rfl,rfl⟩
 refine aS (v:=(.bool false)) rfl (RL.nil (wseq (wsr (mV (v:=(.bool false)) rfl (RL.nil ?_)))))
 refine wcond_f rfl ?_
 refine wskip ?_
 refine wseq (wsr (mV (v:=(.bool false)) rfl (RL.nil ?_)))
 refine wcond_f rfl ?_
 refine wskip ?_
 refine wseq (wsr (mV (v:=(iv x)) (hF0 0) (mV (v:=(iv y)) (hF0 1) (rV (r_lss (k:=.i64) (a:=x) (b:=y) rfl rfl) (RL.nil ?_)))))
 refine wcD (p:=x<y) rfl (fun hb3 hb3p=>?_) (fun hb3 hb3p=>?_)
 ·refine wsr ?_
  refine aS (v:=(iv (-1))) rfl (RL.nil ?_)
  refine wret ?_
  refine⟨[(iv (-1))],⟨rfl,trivial⟩,?_⟩
  exact⟨int_eq (by unfold cmpI;(repeat split)<;>omega),rfl⟩
 refine wskip ?_
 refine wseq (wsr (mV (v:=(iv x)) (hF0 0) (mV (v:=(iv y)) (hF0 1) (rV (r_gtr (k:=.i64) (a:=x) (b:=y) rfl rfl) (RL.nil ?_)))))
 refine wcD (p:=y<x) rfl (fun hb4 hb4p=>?_) (fun hb4 hb4p=>?_)
 ·refine wsr ?_
  refine aS (v:=(iv 1)) rfl (RL.nil ?_)
  refine wret ?_
  refine⟨[(iv 1)],⟨rfl,trivial⟩,?_⟩
  exact⟨int_eq (by unfold cmpI;(repeat split)<;>omega),rfl⟩
 refine wskip ?_
 refine wsr (aS (v:=(iv 0)) rfl (RL.nil ?_))
 refine wret ?_
 refine⟨[(iv 0)],⟨rfl,trivial⟩,?_⟩
 exact⟨int_eq (by unfold cmpI;(repeat split)<;>omega),rfl⟩
end Go.Proofs.YtandhgfmfpmemaaGreat.W
namespace Go.Proofs.YtandhgfmfpmemaaGreat.W
open Go.Vg Go.RowKit _root_.Go.Proofs.Tryz
set_option linter.unusedVariables false
open Go.Vm
set_option maxHeartbeats 1000000 in
theorem swapRange_int {b o n cap:Nat} {xs:List Int} {w:World} {a c k:Nat} {fv:Value} (ha:Ar (gI .i64) w b 3 o xs n) (hsz:n≤4611686018427387903) (h1:a+k≤c) (h2:c+k≤n):
 Calls Tryz.prog 154 #[(.slice (some ⟨b,o,none⟩) (n) (cap)),(iv a),(iv c),(iv k),fv] w fun e w'=>∃v,e= .returned v∧v= .tuple #[]∧Ar (gI .i64) w' b 3 o (swpR xs a c k) n∧Exc b w w':=by
 have hE:Exc b w w:=Exc.of_ext (Ext.refl _)
 refine calls_of (n:=38) (rs:=[]) func154 rfl rfl rfl bL ?_
 refine wset fun F0 hF0=>?_
 refine wsr (aS (v:=(iv 0)) rfl (RL.nil ?_))
 refine wblock ?_
 refine wset fun F1 hF2=>?_
 refine wloop (σ:=Nat) (fun(i:Nat) fl wl=>Off (rg 10 28 []) F1 fl∧fl 10=(iv i)∧(i≤k)∧(Ar (gI .i64) wl b 3 o (swpR xs a c i) n)∧(Exc b w wl)) (fun(i:Nat)=>k-i) (0) ?_ ?_
 ·exact⟨Off.refl _ _,(hF2 10).trans (rfl),Nat.zero_le _,ha,hE⟩
 clear ha hE
 rintro i f3 w4 ⟨hoff5,hs6,hik,ha,hE⟩
 refine wseq (wsr (mV hs6 (mV (v:=(iv k)) ((hoff5 3 rfl).trans ((hF2 3).trans (hF0 3))) (rV (r_lss (k:=.i64) (a:=(i:Int)) (b:=(k:Int)) rfl rfl) (RL.nil ?_)))))
 refine wcD (p:=(i:Int)<(k:Int)) rfl (fun hb7 hb7p=>?_) (fun hb7 hb7p=>?_)
 ·refine wskip ?_
  refine wseq ?_
  refine wblock ?_
  refine wdraw mixed fun w8 he9=>?_
  have he9z:=he9.size
  replace ha:=ha.ext he9
  replace hE:=hE.trans (Exc.of_ext he9)
  refine ra 0 rfl (fun _=>r_move_as (v:=(.slice (some ⟨b,o,none⟩) (n) (cap))) ((hoff5 0 rfl).trans ((hF2 0).trans (hF0 0)))) ?_
  refine ra 1 rfl (fun _=>r_move_as (v:=(iv a)) ((hoff5 1 rfl).trans ((hF2 1).trans (hF0 1)))) ?_
  refine ra 2 rfl (fun _=>r_move_as (v:=(iv i)) hs6) ?_
  refine ra 3 rfl (fun _=>r_add (k:=.i64) (a:=(a:Int)) (b:=(i:Int)) (c:=((a+i:Nat):Int)) rfl rfl ((wi64 oM).trans oM)) ?_
  refine ra 4 rfl (fun _=>r_move_as (v:=(.slice (some ⟨b,o,none⟩) (n) (cap))) ((hoff5 0 rfl).trans ((hF2 0).trans (hF0 0)))) ?_
  refine ra 5 rfl (fun _=>r_move_as (v:=(iv c)) ((hoff5 2 rfl).trans ((hF2 2).trans (hF0 2)))) ?_
  refine ra 6 rfl (fun _=>r_move_as (v:=(iv i)) hs6) ?_
  refine ra 7 rfl (fun _=>r_add (k:=.i64) (a:=(c:Int)) (b:=(i:Int)) (c:=((c+i:Nat):Int)) rfl rfl ((wi64 oM).trans oM)) ?_
  refine ra 8 rfl (fun _=>r_move_as (v:=(.slice (some ⟨b,o,none⟩) (n) (cap))) ((hoff5 0 rfl).trans ((hF2 0).trans (hF0 0)))) ?_
  refine ra 9 rfl (fun _=>r_move_as (v:=(iv c)) ((hoff5 2 rfl).trans ((hF2 2).trans (hF0 2)))) ?_
  refine ra 10 rfl (fun _=>r_move_as (v:=(iv i)) hs6) ?_
  refine ra 11 rfl (fun _=>r_add (k:=.i64) (a:=(c:Int)) (b:=(i:Int)) (c:=((c+i:Nat):Int)) rfl rfl ((wi64 oM).trans oM)) ?_
  refine ra 12 rfl (fun _=>r_indexAddr (i:=((c+i:Nat):Int)) uT22 ty3 rfl rfl oM oM) ?_
  have hc10:=ha.cell (i:=((c+i:Nat):Int)) (c+i) oM oM
  refine RA.rd 13 rfl kR rfl rfl rfl dC (Ext.refl _) (fun u hu=>r_load (v:=(iv ((swpR xs a c i).getD (c+i) default))) uT3 ag3 rfl (cell_ext hu hc10)) ?_
  refine ra 14 rfl (fun _=>r_move_as (v:=(.slice (some ⟨b,o,none⟩) (n) (cap))) ((hoff5 0 rfl).trans ((hF2 0).trans (hF0 0)))) ?_
  refine ra 15 rfl (fun _=>r_move_as (v:=(iv a)) ((hoff5 1 rfl).trans ((hF2 1).trans (hF0 1)))) ?_
  refine ra 16 rfl (fun _=>r_move_as (v:=(iv i)) hs6) ?_
  refine ra 17 rfl (fun _=>r_add (k:=.i64) (a:=(a:Int)) (b:=(i:Int)) (c:=((a+i:Nat):Int)) rfl rfl ((wi64 oM).trans oM)) ?_
  refine ra 18 rfl (fun _=>r_indexAddr (i:=((a+i:Nat):Int)) uT22 ty3 rfl rfl oM oM) ?_
  have hc11:=ha.cell (i:=((a+i:Nat):Int)) (a+i) oM oM
  refine RA.rd 19 rfl kR rfl rfl rfl dC (Ext.refl _) (fun u hu=>r_load (v:=(iv ((swpR xs a c i).getD (a+i) default))) uT3 ag3 rfl (cell_ext hu hc11)) ?_
  refine ra 20 rfl (fun _=>r_indexAddr (i:=((a+i:Nat):Int)) uT22 ty3 rfl rfl oM oM) ?_
  refine RA.all [21] kR rfl ?_
  refine RS.runs rfl rfl rfl (h_set (g:=(gI .i64)) (vv:=(iv ((swpR xs a c i).getD (c+i) default))) (u:=(swpR xs a c i).getD (c+i) default) (i:=((a+i:Nat):Int)) ty3 rfl rfl rfl rfl rfl ha (a+i) oM oM) ?_ RS.nil
  rintro w12 ⟨ha13,hx14⟩
  refine⟨.inr (.inl kR),?_⟩
  have hx14z:=hx14.size
  replace hE:=hE.trans hx14
  replace ha:=ha13
  refine ra 22 rfl (fun _=>r_indexAddr (i:=((c+i:Nat):Int)) uT22 ty3 rfl rfl oM oM) ?_
  refine RA.all [23] kR rfl ?_
  refine RS.runs rfl rfl rfl (h_set (g:=(gI .i64)) (vv:=(iv ((swpR xs a c i).getD (a+i) default))) (u:=(swpR xs a c i).getD (a+i) default) (i:=((c+i:Nat):Int)) ty3 rfl rfl rfl rfl rfl ha (c+i) oM oM) ?_ RS.nil
  rintro w15 ⟨ha16,hx17⟩
  refine⟨.inr (.inl kR),?_⟩
  have hx17z:=hx17.size
  replace hE:=hE.trans hx17
  replace ha:=ha16
  refine RA.done kR ?_
  refine wregion (mV hs6 (rV (r_add (k:=.i64) (a:=(i:Int)) (b:=1) (c:=(i:Int)+1) rfl rfl (wi64 oM)) (aS (v:=(iv ((i:Int)+1))) rfl (RL.nil ?_))))
  refine⟨(i+1),⟨?_,?_,?_,?_,?_⟩,?_⟩
  ·exact(by repeat (first|exact hoff5|refine Off.st ?_ dC _))
  ·first|rfl|exact int_eq oM|exact bool_eq (by simp)
  ·omega
  ·exact ha
  ·exact hE
  (try dsimp only)
  omega
 refine wexit ?_
 refine⟨[],trivial,?_⟩
 have hik2:i=k:=by omega
 subst hik2
 exact⟨rfl,ha,hE⟩
set_option maxHeartbeats 1000000 in
theorem rotate_int {b o n cap:Nat} {xs:List Int} {w:World} {a m c:Nat} {LA LU LV LB:List Int} {fv:Value} (ha:Ar (gI .i64) w b 3 o xs n) (hsz:n≤4611686018427387903) (hxs:xs=LA++LU++LV++LB) (h1:LA.length=a) (h2:a+LU.length=m) (h3:m+LV.length=c) (h4:0<LU.length) (h5:0<LV.length):
 Calls Tryz.prog 146 #[(.slice (some ⟨b,o,none⟩) (n) (cap)),(iv a),(iv m),(iv c),fv] w fun e w'=>∃v,e= .returned v∧v= .tuple #[]∧Ar (gI .i64) w' b 3 o (LA++LV++LU++LB) n∧Exc b w w':=by
 have hE:Exc b w w:=Exc.of_ext (Ext.refl _)
 have hn:LA.length+LU.length+LV.length+LB.length=n:=by have:=ha.2;rw[hxs] at this;simp at this;omega
 refine calls_of (n:=58) (rs:=[]) func146 rfl rfl rfl bL ?_
 refine wset fun F0 hF0=>?_
 refine wsr (mV (v:=(iv m)) (hF0 2) (mV (v:=(iv a)) (hF0 1) (rV (r_sub (k:=.i64) (a:=(m:Int)) (b:=(a:Int)) (c:=(m:Int)-(a:Int)) rfl rfl (wi64 oM)) (aS (v:=(iv ((m:Int)-(a:Int)))) rfl (RL.nil (wsr (mV (v:=(iv c)) (hF0 3) (mV (v:=(iv m)) (hF0 2) (rV (r_sub (k:=.i64) (a:=(c:Int)) (b:=(m:Int)) (c:=(c:Int)-(m:Int)) rfl rfl (wi64 oM)) (aS (v:=(iv ((c:Int)-(m:Int)))) rfl (RL.nil (wseq ?_))))))))))))
 refine wblock ?_
 refine wset fun F1 hF2=>?_
 refine wloop (σ:=List Int×List Int×List Int×List Int) (fun(s:List Int×List Int×List Int×List Int) fl wl=>match s with|(X,Y,PP,SS)=>Off (rg 10 2 (rg 18 32 [])) F1 fl∧fl 10=(iv (X.length:Nat))∧fl 11=(iv (Y.length:Nat))∧(PP++Y++X++SS=LV++LU)∧(LA.length+PP.length+X.length=m)∧(0<X.length)∧(0<Y.length)∧(PP.length+X.length+Y.length+SS.length=LU.length+LV.length)∧(Ar (gI .i64) wl b 3 o (LA++PP++X++Y++SS++LB) n)∧(Exc b w wl)) (fun(s:List Int×List Int×List Int×List Int)=>match s with|(X,Y,PP,SS)=>X.length+Y.length) (LU,LV,[],[]) ?_ ?_
 ·exact⟨Off.refl _ _,(hF2 10).trans ((int_eq oM)),(hF2 11).trans ((int_eq oM)),by simp,by simp;omega,h4,h5,by simp,(by rw[hxs] at ha;simpa using ha),hE⟩
 clear ha hE
 rintro⟨X,Y,PP,SS⟩ f3 w4 ⟨hoff5,hs6,hs7,hT,hm,hx0,hy0,hY,ha,hE⟩
 refine wseq (wsr (mV hs6 (mV hs7 (rV (r_neq (k:=.i64) (a:=((X.length:Nat):Int)) (b:=((Y.length:Nat):Int)) rfl rfl) (RL.nil ?_)))))
 refine wcD (p:=((X.length:Nat):Int)≠((Y.length:Nat):Int)) rfl (fun hb8 hb8p=>?_) (fun hb8 hb8p=>?_)
 ·refine wskip ?_
  refine wblock ?_
  refine wsr (mV hs6 (mV hs7 (rV (r_gtr (k:=.i64) (a:=((X.length:Nat):Int)) (b:=((Y.length:Nat):Int)) rfl rfl) (RL.nil ?_))))
  refine wcD (p:=((Y.length:Nat):Int)<((X.length:Nat):Int)) rfl (fun hb9 hb9p=>?_) (fun hb9 hb9p=>?_)
  ·refine wsr ?_
   refine mV (v:=(.slice (some ⟨b,o,none⟩) (n) (cap))) ((hoff5 0 rfl).trans ((hF2 0).trans (hF0 0))) (mV (v:=(iv m)) ((hoff5 2 rfl).trans ((hF2 2).trans (hF0 2))) (mV hs6 (rV (r_sub (k:=.i64) (a:=(m:Int)) (b:=((X.length:Nat):Int)) (c:=((LA.length+PP.length:Nat):Int)) rfl rfl ((wi64 oM).trans oM)) (mV (v:=(iv (LA.length+PP.length+X.length:Nat))) (((hoff5 2 rfl).trans ((hF2 2).trans (hF0 2))).trans (int_eq oM)) (mV hs7 (mV (v:=fv) ((hoff5 4 rfl).trans ((hF2 4).trans (hF0 4))) ?_))))))
   refine cL ent154 (swapRange_int (a:=LA.length+PP.length) (c:=LA.length+PP.length+X.length) (k:=Y.length) ha hsz oM oM) rfl ?_
   rintro _ w10 ⟨rfl,ha11,hx12⟩
   replace hE:=hE.trans hx12
   replace ha:=ha11
   refine RL.nil (wregion (mV hs6 (mV hs7 (rV (r_sub (k:=.i64) (a:=((X.length:Nat):Int)) (b:=((Y.length:Nat):Int)) (c:=((X.length:Nat):Int)-((Y.length:Nat):Int)) rfl rfl (wi64 oM)) (aS (v:=(iv (((X.length:Nat):Int)-((Y.length:Nat):Int)))) rfl (RL.nil ?_))))))
   refine⟨(X.drop Y.length,X.take Y.length,PP++Y,SS),⟨?_,?_,?_,?_,?_,?_,?_,?_,?_,?_⟩,?_⟩
   ·exact(by repeat (first|exact hoff5|refine Off.st ?_ dC _))
   ·exact int_eq (by simp;omega)
   ·refine(hs7).trans ?_
    exact int_eq (by simp;omega)
   ·rw[←hT];simp[List.append_assoc]
   ·simp;omega
   ·simp;omega
   ·simp;omega
   ·simp;omega
   ·rw[rot_gt _ _ _ _ _ _ _ _ _ oM oM rfl oM] at ha;exact ha
   ·exact hE
   show _<_
   simp;omega
  refine wsr (mV (v:=(.slice (some ⟨b,o,none⟩) (n) (cap))) ((hoff5 0 rfl).trans ((hF2 0).trans (hF0 0))) (mV (v:=(iv m)) ((hoff5 2 rfl).trans ((hF2 2).trans (hF0 2))) (mV hs6 (rV (r_sub (k:=.i64) (a:=(m:Int)) (b:=((X.length:Nat):Int)) (c:=((LA.length+PP.length:Nat):Int)) rfl rfl ((wi64 oM).trans oM)) (mV (v:=(iv m)) ((hoff5 2 rfl).trans ((hF2 2).trans (hF0 2))) (mV hs7 (rV (r_add (k:=.i64) (a:=(m:Int)) (b:=((Y.length:Nat):Int)) (c:=(m:Int)+((Y.length:Nat):Int)) rfl rfl (wi64 oM)) (mV hs6 (rV (r_sub (k:=.i64) (a:=(m:Int)+((Y.length:Nat):Int)) (b:=((X.length:Nat):Int)) (c:=((LA.length+PP.length+Y.length:Nat):Int)) rfl rfl ((wi64 oM).trans oM)) (mV hs6 (mV (v:=fv) ((hoff5 4 rfl).trans ((hF2 4).trans (hF0 4))) ?_)))))))))))
  refine cL ent154 (swapRange_int (a:=LA.length+PP.length) (c:=LA.length+PP.length+Y.length) (k:=X.length) ha hsz oM oM) rfl ?_
  rintro _ w13 ⟨rfl,ha14,hx15⟩
  replace hE:=hE.trans hx15
  replace ha:=ha14
  refine RL.nil (wregion (mV hs7 (mV hs6 (rV (r_sub (k:=.i64) (a:=((Y.length:Nat):Int)) (b:=((X.length:Nat):Int)) (c:=((Y.length:Nat):Int)-((X.length:Nat):Int)) rfl rfl (wi64 oM)) (aS (v:=(iv (((Y.length:Nat):Int)-((X.length:Nat):Int)))) rfl (RL.nil ?_))))))
  refine⟨(Y.drop (Y.length-X.length),Y.take (Y.length-X.length),PP,X++SS),⟨?_,?_,?_,?_,?_,?_,?_,?_,?_,?_⟩,?_⟩
  ·exact(by repeat (first|exact hoff5|refine Off.st ?_ dC _))
  ·refine(hs6).trans ?_
   exact int_eq (by simp;omega)
  ·exact int_eq (by simp;omega)
  ·rw[←hT];simp[List.append_assoc]
  ·simp;omega
  ·simp;omega
  ·simp;omega
  ·simp;omega
  ·rw[rot_lt _ _ _ _ _ _ _ _ _ oM oM rfl oM] at ha;exact ha
  ·exact hE
  show _<_
  simp;omega
 refine wexit ?_
 refine wregion (mV (v:=(.slice (some ⟨b,o,none⟩) (n) (cap))) ((hoff5 0 rfl).trans ((hF2 0).trans (hF0 0))) (mV (v:=(iv m)) ((hoff5 2 rfl).trans ((hF2 2).trans (hF0 2))) (mV hs6 (rV (r_sub (k:=.i64) (a:=(m:Int)) (b:=((X.length:Nat):Int)) (c:=((LA.length+PP.length:Nat):Int)) rfl rfl ((wi64 oM).trans oM)) (mV (v:=(iv (LA.length+PP.length+X.length:Nat))) (((hoff5 2 rfl).trans ((hF2 2).trans (hF0 2))).trans (int_eq oM)) (mV hs6 (mV (v:=fv) ((hoff5 4 rfl).trans ((hF2 4).trans (hF0 4))) ?_)))))))
 refine cL ent154 (swapRange_int (a:=LA.length+PP.length) (c:=LA.length+PP.length+X.length) (k:=X.length) ha hsz oM oM) rfl ?_
 rintro _ w16 ⟨rfl,ha17,hx18⟩
 replace hE:=hE.trans hx18
 replace ha:=ha17
 refine RL.nil ?_
 refine⟨[],trivial,?_⟩
 have hxy:X.length=Y.length:=by omega
 rw[rot_gt _ _ _ _ _ _ _ _ _ oM oM hxy oM] at ha
 rw[List.drop_of_length_le oM,List.take_of_length_le oM] at ha
 have e:LA++(PP++Y)++[]++X++SS++LB=LA++LV++LU++LB:=by
  have:LA++(PP++Y)++[]++X++SS++LB=LA++(PP++Y++X++SS)++LB:=by simp
  rw[this,hT];simp
 rw[e] at ha
 exact⟨rfl,ha,hE⟩
end Go.Proofs.YtandhgfmfpmemaaGreat.W
namespace Go.Proofs.YtandhgfmfpmemaaGreat.W
open Go.Vg Go.RowKit _root_.Go.Proofs.Tryz
set_option linter.unusedVariables false
open Go.Vm
def CmpOk {α:Type} (P:Program) (k:Nat) (cl:List Value) (enc:α→Value) (key:α→Int) (ok:α→Prop) (b:Nat) (w0:World):Prop:=
 ∀w,Exc b w0 w→∀x y,ok x→ok y→Calls P k ([enc x,enc y]++cl).toArray w fun e w'=>∃v,e= .returned v∧(v= .int .i64 (cmpI (key x) (key y))∧Ext w w')
set_option maxHeartbeats 1000000 in
theorem insertion_int {b o n cap:Nat} {xs:List Int} {w:World} {kc:Nat} {cl:List Value} {key:Int→Int} {ok:Int→Prop} {w0:World} (hent:Ent Tryz.prog kc) (hcmp:CmpOk Tryz.prog kc cl (gI .i64) key ok b w0) (hw0:Exc b w0 w) {a c:Nat} {LA LS LB:List Int} (ha:Ar (gI .i64) w b 3 o xs n) (hsz:n≤4611686018427387903) (hxs:xs=LA++LS++LB) (h1:LA.length=a) (h2:a+LS.length=c) (hok:∀x∈LS,ok x):
 Calls Tryz.prog 128 #[(.slice (some ⟨b,o,none⟩) (n) (cap)),(iv a),(iv c),(.func (.func kc) #[] cl.toArray)] w fun e w'=>∃v,e= .returned v∧v= .tuple #[]∧(∃l,Ar (gI .i64) w' b 3 o (LA++l++LB) n∧Srt key l∧StE key LS l)∧Exc b w w':=by
 have hE:Exc b w w:=Exc.of_ext (Ext.refl _)
 have hn:LA.length+LS.length+LB.length=n:=by have:=ha.2;rw[hxs] at this;simp at this;omega
 refine calls_of (n:=53) (rs:=[]) func128 rfl rfl rfl bL ?_
 refine wset fun F0 hF0=>?_
 refine wsr (mV (v:=(iv a)) (hF0 1) (rV (r_add (k:=.i64) (a:=(a:Int)) (b:=1) (c:=((a+1:Nat):Int)) rfl rfl ((wi64 oM).trans oM)) (aS (v:=(iv (a+1:Nat))) rfl (RL.nil ?_))))
 refine wblock ?_
 refine wset fun F1 hF2=>?_
 refine wloop (σ:=Nat×List Int) (fun(s:Nat×List Int) fl wl=>match s with|(k,S)=>Off (rg 8 2 (rg 12 41 [])) F1 fl∧fl 8=(iv (a+k:Nat))∧(1≤k)∧(k≤max 1 LS.length)∧(S.length=min k LS.length)∧(Srt key S)∧(StE key (LS.take k) S)∧(Ar (gI .i64) wl b 3 o (LA++S++LS.drop k++LB) n)∧(Exc b w wl)) (fun(s:Nat×List Int)=>match s with|(k,S)=>LS.length-k) (1,LS.take 1) ?_ ?_
 ·exact⟨Off.refl _ _,(hF2 8).trans (rfl),Nat.le_refl _,Nat.le_max_left _ _,by simp,(by match LS with|[]=>exact Srt.nil _|x::t=>exact Srt.one _ x),StE.refl _ _,(by rw[hxs] at ha;rw[List.append_assoc LA,List.take_append_drop];exact ha),hE⟩
 clear ha hE
 rintro⟨k,S⟩ f3 w4 ⟨hoff5,hs6,hk1,hk2,hSl,hSrt,hSt,ha,hE⟩
 refine wseq (wsr (mV hs6 (mV (v:=(iv c)) ((hoff5 2 rfl).trans ((hF2 2).trans (hF0 2))) (rV (r_lss (k:=.i64) (a:=((a+k:Nat):Int)) (b:=(c:Int)) rfl rfl) (RL.nil ?_)))))
 refine wcD (p:=((a+k:Nat):Int)<(c:Int)) rfl (fun hb7 hb7p=>?_) (fun hb7 hb7p=>?_)
 ·refine wskip ?_
  refine wseq ?_
  refine wblock ?_
  refine wseq ?_
  have hkl:k<LS.length:=by omega
  obtain⟨x,hx⟩:∃x,x=LS.getD k default:=⟨_,rfl⟩
  have hxin:x∈LS:=by rw[hx];simp[hkl]
  have hSk:S.length=k:=by rw[hSl];omega
  have hSin:∀y∈S,y∈LS:=fun y hy=>List.mem_of_mem_take (hSt.symm.mem hy)
  refine wregion (mV hs6 (aS (v:=(iv (a+k:Nat))) rfl (RL.nil ?_)))
  refine wblock ?_
  refine wset fun F8 hF9=>?_
  refine wloop (σ:=List Int×List Int) (fun(s:List Int×List Int) fl wl=>match s with|(S1,S2)=>Off (9::(rg 18 35 [])) F8 fl∧fl 9=(iv (a+S1.length:Nat))∧(S=S1++S2)∧(∀y∈S2,key x<key y)∧(Ar (gI .i64) wl b 3 o (LA++S1++x::S2++LS.drop (k+1)++LB) n)∧(Exc b w wl)) (fun(s:List Int×List Int)=>match s with|(S1,S2)=>S1.length) (S,[]) ?_ ?_
  ·exact⟨Off.refl _ _,(hF9 9).trans ((int_eq (by simp[hSl];omega))),by simp,by simp,(by rw[drop_cons LS k hkl,←hx] at ha;simpa using ha),hE⟩
  clear ha hE
  rintro⟨S1,S2⟩ f10 w11 ⟨hoff12,hs13,hSS,hlt,ha,hE⟩
  have hSSl:S1.length+S2.length=S.length:=by rw[hSS];simp
  refine wseq (wseq ?_)
  refine wdraw mixed fun w14 he15=>?_
  have he15z:=he15.size
  replace ha:=ha.ext he15
  replace hE:=hE.trans (Exc.of_ext he15)
  refine ra 0 rfl (fun _=>r_move_as (v:=(iv (a+S1.length:Nat))) hs13) ?_
  refine ra 1 rfl (fun _=>r_move_as (v:=(iv a)) ((hoff12 1 rfl).trans ((hF9 1).trans ((hoff5 1 rfl).trans ((hF2 1).trans (hF0 1)))))) ?_
  refine ra 2 rfl (fun _=>r_gtr (k:=.i64) (a:=((a+S1.length:Nat):Int)) (b:=(a:Int)) rfl rfl) ?_
  refine ra 3 rfl (fun _=>r_move_as (v:=(bd ((a:Int)<((a+S1.length:Nat):Int)))) rfl) ?_
  rcases bD ((a:Int)<((a+S1.length:Nat):Int)) with ⟨hb16,hb16p⟩|⟨hb16,hb16p⟩
  ·obtain⟨S3,y,hS1⟩:=snoc_of S1 oM
   have hS1l:S1.length=S3.length+1:=by rw[hS1];simp
   refine RA.gtake 4 rfl kR rfl rfl (bool_eq hb16) rfl dC (fun _=>r_move_as (v:=(.func (.func kc) #[] cl.toArray)) ((hoff12 3 rfl).trans ((hF9 3).trans ((hoff5 3 rfl).trans ((hF2 3).trans (hF0 3)))))) ?_
   refine RA.gtake 5 rfl kR rfl rfl (bool_eq hb16) rfl dC (fun _=>r_move_as (v:=(.slice (some ⟨b,o,none⟩) (n) (cap))) ((hoff12 0 rfl).trans ((hF9 0).trans ((hoff5 0 rfl).trans ((hF2 0).trans (hF0 0)))))) ?_
   refine RA.gtake 6 rfl kR rfl rfl (bool_eq hb16) rfl dC (fun _=>r_move_as (v:=(iv (a+S1.length:Nat))) hs13) ?_
   refine RA.gtake 7 rfl kR rfl rfl (bool_eq hb16) rfl dC (fun _=>r_indexAddr (i:=((a+S1.length:Nat):Int)) uT22 ty3 rfl rfl oM oM) ?_
   have hc17:=ha.cell (i:=((a+S1.length:Nat):Int)) (a+S1.length) oM oM
   rw[show(LA++S1++x::S2++LS.drop (k+1)++LB).getD (a+S1.length) default=x from (by rw[show(LA++S1++x::S2++LS.drop (k+1)++LB)=(LA++S1)++x::(S2++LS.drop (k+1)++LB) from by simp];exact getD_mid _ _ _ _ (by simp[h1]))] at hc17
   refine RA.grd 8 rfl kR rfl rfl rfl (bool_eq hb16) rfl dC (Ext.refl _) (fun u hu=>r_load (v:=(iv x)) uT3 ag3 rfl (cell_ext hu hc17)) ?_
   refine RA.gtake 9 rfl kR rfl rfl (bool_eq hb16) rfl dC (fun _=>r_move_as (v:=(.slice (some ⟨b,o,none⟩) (n) (cap))) ((hoff12 0 rfl).trans ((hF9 0).trans ((hoff5 0 rfl).trans ((hF2 0).trans (hF0 0)))))) ?_
   refine RA.gtake 10 rfl kR rfl rfl (bool_eq hb16) rfl dC (fun _=>r_move_as (v:=(iv (a+S1.length:Nat))) hs13) ?_
   refine RA.gtake 11 rfl kR rfl rfl (bool_eq hb16) rfl dC (fun _=>r_sub (k:=.i64) (a:=((a+S1.length:Nat):Int)) (b:=1) (c:=((a+S1.length-1:Nat):Int)) rfl rfl ((wi64 oM).trans oM)) ?_
   refine RA.gtake 12 rfl kR rfl rfl (bool_eq hb16) rfl dC (fun _=>r_indexAddr (i:=((a+S1.length-1:Nat):Int)) uT22 ty3 rfl rfl oM oM) ?_
   have hc18:=ha.cell (i:=((a+S1.length-1:Nat):Int)) (a+S1.length-1) oM oM
   rw[show(LA++S1++x::S2++LS.drop (k+1)++LB).getD (a+S1.length-1) default=y from (by rw[show(LA++S1++x::S2++LS.drop (k+1)++LB)=(LA++S3)++y::(x::S2++LS.drop (k+1)++LB) from by simp[hS1]];exact getD_mid _ _ _ _ (by simp[hS1,h1]))] at hc18
   refine RA.grd 13 rfl kR rfl rfl rfl (bool_eq hb16) rfl dC (Ext.refl _) (fun u hu=>r_load (v:=(iv y)) uT3 ag3 rfl (cell_ext hu hc18)) ?_
   refine RA.all [14] kR rfl ?_
   refine RS.gcall rfl rfl rfl (bool_eq hb16) rfl dC (r_callv (vl:=[(iv x),(iv y)]) (cl:=cl) rfl hent rfl) (hcmp _ (hw0.trans hE) (x) (y) (hok _ hxin) (hok _ (hSin y (by rw[hSS,hS1];simp)))) ?_ RS.nil
   rintro _ w19 ⟨rfl,he20⟩
   refine rm he20 ?_
   replace ha:=ha.ext he20
   replace hE:=hE.trans (Exc.of_ext he20)
   refine RA.gtake 15 rfl kR rfl rfl (bool_eq hb16) rfl dC (fun _=>r_lss (k:=.i64) (a:=cmpI (key x) (key y)) (b:=0) rfl rfl) ?_
   refine ra 16 rfl (fun _=>r_pick_t (v:=(bd ((cmpI (key x) (key y))<0))) (bool_eq hb16) rfl) ?_
   refine RA.done kR ?_
   refine wcD (p:=(cmpI (key x) (key y))<0) rfl (fun hb21 hb21p=>?_) (fun hb21 hb21p=>?_)
   ·have hxy:key x<key y:=by unfold cmpI at hb21p;(repeat split at hb21p)<;>omega
    refine wskip ?_
    refine wseq ?_
    refine wblock ?_
    refine wdraw mixed fun w22 he23=>?_
    have he23z:=he23.size
    replace ha:=ha.ext he23
    replace hE:=hE.trans (Exc.of_ext he23)
    refine ra 0 rfl (fun _=>r_move_as (v:=(.slice (some ⟨b,o,none⟩) (n) (cap))) ((hoff12 0 rfl).trans ((hF9 0).trans ((hoff5 0 rfl).trans ((hF2 0).trans (hF0 0)))))) ?_
    refine ra 1 rfl (fun _=>r_move_as (v:=(iv (a+S1.length:Nat))) hs13) ?_
    refine ra 2 rfl (fun _=>r_move_as (v:=(.slice (some ⟨b,o,none⟩) (n) (cap))) ((hoff12 0 rfl).trans ((hF9 0).trans ((hoff5 0 rfl).trans ((hF2 0).trans (hF0 0)))))) ?_
    refine ra 3 rfl (fun _=>r_move_as (v:=(iv (a+S1.length:Nat))) hs13) ?_
    refine ra 4 rfl (fun _=>r_sub (k:=.i64) (a:=((a+S1.length:Nat):Int)) (b:=1) (c:=((a+S1.length-1:Nat):Int)) rfl rfl ((wi64 oM).trans oM)) ?_
    refine ra 5 rfl (fun _=>r_move_as (v:=(.slice (some ⟨b,o,none⟩) (n) (cap))) ((hoff12 0 rfl).trans ((hF9 0).trans ((hoff5 0 rfl).trans ((hF2 0).trans (hF0 0)))))) ?_
    refine ra 6 rfl (fun _=>r_move_as (v:=(iv (a+S1.length:Nat))) hs13) ?_
    refine ra 7 rfl (fun _=>r_sub (k:=.i64) (a:=((a+S1.length:Nat):Int)) (b:=1) (c:=((a+S1.length-1:Nat):Int)) rfl rfl ((wi64 oM).trans oM)) ?_
    refine ra 8 rfl (fun _=>r_indexAddr (i:=((a+S1.length-1:Nat):Int)) uT22 ty3 rfl rfl oM oM) ?_
    have hc24:=ha.cell (i:=((a+S1.length-1:Nat):Int)) (a+S1.length-1) oM oM
    rw[show(LA++S1++x::S2++LS.drop (k+1)++LB).getD (a+S1.length-1) default=y from (by rw[show(LA++S1++x::S2++LS.drop (k+1)++LB)=(LA++S3)++y::(x::S2++LS.drop (k+1)++LB) from by simp[hS1]];exact getD_mid _ _ _ _ (by simp[hS1,h1]))] at hc24
    refine RA.rd 9 rfl kR rfl rfl rfl dC (Ext.refl _) (fun u hu=>r_load (v:=(iv y)) uT3 ag3 rfl (cell_ext hu hc24)) ?_
    refine ra 10 rfl (fun _=>r_move_as (v:=(.slice (some ⟨b,o,none⟩) (n) (cap))) ((hoff12 0 rfl).trans ((hF9 0).trans ((hoff5 0 rfl).trans ((hF2 0).trans (hF0 0)))))) ?_
    refine ra 11 rfl (fun _=>r_move_as (v:=(iv (a+S1.length:Nat))) hs13) ?_
    refine ra 12 rfl (fun _=>r_indexAddr (i:=((a+S1.length:Nat):Int)) uT22 ty3 rfl rfl oM oM) ?_
    have hc25:=ha.cell (i:=((a+S1.length:Nat):Int)) (a+S1.length) oM oM
    rw[show(LA++S1++x::S2++LS.drop (k+1)++LB).getD (a+S1.length) default=x from (by rw[show(LA++S1++x::S2++LS.drop (k+1)++LB)=(LA++S1)++x::(S2++LS.drop (k+1)++LB) from by simp];exact getD_mid _ _ _ _ (by simp[h1]))] at hc25
    refine RA.rd 13 rfl kR rfl rfl rfl dC (Ext.refl _) (fun u hu=>r_load (v:=(iv x)) uT3 ag3 rfl (cell_ext hu hc25)) ?_
    refine ra 14 rfl (fun _=>r_indexAddr (i:=((a+S1.length:Nat):Int)) uT22 ty3 rfl rfl oM oM) ?_
    refine RA.all [15] kR rfl ?_
    refine RS.runs rfl rfl rfl (h_set (g:=(gI .i64)) (vv:=(iv y)) (u:=y) (i:=((a+S1.length:Nat):Int)) ty3 rfl rfl rfl rfl rfl ha (a+S1.length) oM oM) ?_ RS.nil
    rintro w26 ⟨ha27,hx28⟩
    refine⟨.inr (.inl kR),?_⟩
    have hx28z:=hx28.size
    replace hE:=hE.trans hx28
    replace ha:=ha27
    refine ra 16 rfl (fun _=>r_indexAddr (i:=((a+S1.length-1:Nat):Int)) uT22 ty3 rfl rfl oM oM) ?_
    refine RA.all [17] kR rfl ?_
    refine RS.runs rfl rfl rfl (h_set (g:=(gI .i64)) (vv:=(iv x)) (u:=x) (i:=((a+S1.length-1:Nat):Int)) ty3 rfl rfl rfl rfl rfl ha (a+S1.length-1) oM oM) ?_ RS.nil
    rintro w29 ⟨ha30,hx31⟩
    refine⟨.inr (.inl kR),?_⟩
    have hx31z:=hx31.size
    replace hE:=hE.trans hx31
    replace ha:=ha30
    refine RA.done kR ?_
    refine wregion (mV hs13 (rV (r_sub (k:=.i64) (a:=((a+S1.length:Nat):Int)) (b:=1) (c:=((a+S1.length:Nat):Int)-1) rfl rfl (wi64 oM)) (aS (v:=(iv (((a+S1.length:Nat):Int)-1))) rfl (RL.nil ?_))))
    refine⟨(S3,y::S2),⟨?_,?_,?_,?_,?_,?_⟩,?_⟩
    ·exact(by repeat (first|exact hoff12|refine Off.st ?_ dC _|refine Off.via hoff5 dC ?_|refine Off.eq hF2 ?_))
    ·exact int_eq (by rw[hS1];simp;omega)
    ·rw[hSS,hS1];simp
    ·intro z hz;rcases List.mem_cons.1 hz with rfl|hz;exact hxy;exact hlt z hz
    ·rw[show(LA++S1++x::S2++LS.drop (k+1)++LB)=(LA++S3)++y::x::(S2++LS.drop (k+1)++LB) from by rw[hS1];simp,set2 _ _ _ _ _ _ _ _ (by rw[hS1];simp;omega) (by rw[hS1];simp;omega)] at ha;simpa using ha
    ·exact hE
    show _<_
    rw[hS1];simp
   have hfin:S1=[]∨∃S3 y,S1=S3++[y]∧key y≤key x:=.inr ⟨S3,y,hS1,by unfold cmpI at hb21p;(repeat split at hb21p)<;>omega⟩
   refine wexit ?_
   refine wregion (mV (v:=(iv (a+k:Nat))) ((hoff12 8 rfl).trans ((hF9 8).trans hs6)) (rV (r_add (k:=.i64) (a:=((a+k:Nat):Int)) (b:=1) (c:=((a+k:Nat):Int)+1) rfl rfl (wi64 oM)) (aS (v:=(iv (((a+k:Nat):Int)+1))) rfl (RL.nil ?_))))
   refine⟨(k+1,S1++x::S2),⟨?_,?_,?_,?_,?_,?_,?_,?_,?_⟩,?_⟩
   ·exact(by repeat (first|exact hoff5|refine Off.st ?_ dC _|refine Off.via hoff12 dC ?_|refine Off.eq hF9 ?_))
   ·exact int_eq oM
   ·omega
   ·omega
   ·simp;omega
   ·exact ins_srt (hSS▸hSrt) hlt hfin
   ·rw[take_snoc LS k hkl,←hx];exact(StE.append (hSS▸hSt) (StE.refl _ [x])).trans (ins_ste hlt)
   ·simpa using ha
   ·exact hE
   (try dsimp only)
   omega
  have hfin:S1=[]∨∃S3 y,S1=S3++[y]∧key y≤key x:=.inl (List.eq_nil_of_length_eq_zero oM)
  refine RA.gno 4 rfl kR rfl rfl (.inl (bool_eq hb16)) rfl dC ?_
  refine RA.gno 5 rfl kR rfl rfl (.inl (bool_eq hb16)) rfl dC ?_
  refine RA.gno 6 rfl kR rfl rfl (.inl (bool_eq hb16)) rfl dC ?_
  refine RA.gno 7 rfl kR rfl rfl (.inl (bool_eq hb16)) rfl dC ?_
  refine RA.gno 8 rfl kR rfl rfl (.inl (bool_eq hb16)) rfl dC ?_
  refine RA.gno 9 rfl kR rfl rfl (.inl (bool_eq hb16)) rfl dC ?_
  refine RA.gno 10 rfl kR rfl rfl (.inl (bool_eq hb16)) rfl dC ?_
  refine RA.gno 11 rfl kR rfl rfl (.inl (bool_eq hb16)) rfl dC ?_
  refine RA.gno 12 rfl kR rfl rfl (.inl (bool_eq hb16)) rfl dC ?_
  refine RA.gno 13 rfl kR rfl rfl (.inl (bool_eq hb16)) rfl dC ?_
  refine RA.all [14] kR rfl ?_
  refine RS.gno rfl rfl rfl (.inl (bool_eq hb16)) rfl dC (.inr (.inl kR)) ?_ RS.nil
  refine RA.gno 15 rfl kR rfl rfl (.inl (bool_eq hb16)) rfl dC ?_
  refine ra 16 rfl (fun _=>r_pick_f (v:=(.bool false)) (bool_eq hb16) rfl) ?_
  refine RA.done kR ?_
  refine wcond_f rfl ?_
  refine wexit ?_
  refine wregion (mV (v:=(iv (a+k:Nat))) ((hoff12 8 rfl).trans ((hF9 8).trans hs6)) (rV (r_add (k:=.i64) (a:=((a+k:Nat):Int)) (b:=1) (c:=((a+k:Nat):Int)+1) rfl rfl (wi64 oM)) (aS (v:=(iv (((a+k:Nat):Int)+1))) rfl (RL.nil ?_))))
  refine⟨(k+1,S1++x::S2),⟨?_,?_,?_,?_,?_,?_,?_,?_,?_⟩,?_⟩
  ·exact(by repeat (first|exact hoff5|refine Off.st ?_ dC _|refine Off.via hoff12 dC ?_|refine Off.eq hF9 ?_))
  ·exact int_eq oM
  ·omega
  ·omega
  ·simp;omega
  ·exact ins_srt (hSS▸hSrt) hlt hfin
  ·rw[take_snoc LS k hkl,←hx];exact(StE.append (hSS▸hSt) (StE.refl _ [x])).trans (ins_ste hlt)
  ·simpa using ha
  ·exact hE
  (try dsimp only)
  omega
 refine wexit ?_
 refine⟨[],trivial,?_⟩
 have hkk:LS.length≤k:=by omega
 rw[List.drop_of_length_le hkk] at ha
 rw[List.take_of_length_le hkk] at hSt
 exact⟨rfl,⟨S,by simpa using ha,hSrt,hSt⟩,hE⟩
end Go.Proofs.YtandhgfmfpmemaaGreat.W
namespace Go.Proofs.YtandhgfmfpmemaaGreat.W
open Go.Vg Go.RowKit _root_.Go.Proofs.Tryz
set_option linter.unusedVariables false
open Go.Vm
def SymOk (kc:Nat) (cl:List Value) (key:Int→Int) (ok:Int→Prop) (b o n cap:Nat) (w0:World) (N:Nat):Prop:=
 ∀(a m c:Nat) (LA L R LB:List Int) (w:World),Ar (gI .i64) w b 3 o (LA++L++R++LB) n→LA.length=a→a+L.length=m→m+R.length=c→0<L.length→0<R.length→Srt key L→Srt key R→(∀x∈L++R,ok x)→Exc b w0 w→c-a≤N→
  Calls Tryz.prog 129 #[.slice (some ⟨b,o,none⟩) n cap,.int .i64 (a:Int),.int .i64 (m:Int),.int .i64 (c:Int),.func (.func kc) #[] cl.toArray] w fun e w'=>∃v,e= .returned v∧v= .tuple #[]∧(∃l,Ar (gI .i64) w' b 3 o (LA++l++LB) n∧Srt key l∧StE key (L++R) l)∧Exc b w w'
set_option maxHeartbeats 4000000 in
theorem symMerge_step {b o n cap:Nat} {w:World} {kc:Nat} {cl:List Value} {key:Int→Int} {ok:Int→Prop} {w0:World} (hent:Ent Tryz.prog kc) (hcmp:CmpOk Tryz.prog kc cl (gI .i64) key ok b w0) (hw0:Exc b w0 w) {a m c N:Nat} {LA L R LB:List Int} (ih:SymOk kc cl key ok b o n cap w0 N) (ha:Ar (gI .i64) w b 3 o (LA++L++R++LB) n) (hsz:n≤4611686018427387903) (h1:LA.length=a) (h2:a+L.length=m) (h3:m+R.length=c) (h4:0<L.length) (h5:0<R.length) (hsL:Srt key L) (hsR:Srt key R) (hok:∀x∈L++R,ok x) (hN:c-a≤N+1):
 Calls Tryz.prog 129 #[(.slice (some ⟨b,o,none⟩) (n) (cap)),(iv a),(iv m),(iv c),(.func (.func kc) #[] cl.toArray)] w fun e w'=>∃v,e= .returned v∧v= .tuple #[]∧(∃l,Ar (gI .i64) w' b 3 o (LA++l++LB) n∧Srt key l∧StE key (L++R) l)∧Exc b w w':=by
 have hE:Exc b w w:=Exc.of_ext (Ext.refl _)
 have hn:LA.length+L.length+R.length+LB.length=n:=by have:=ha.2;simp at this;omega
 refine calls_of (n:=220) (rs:=[]) func129 rfl rfl rfl bL ?_
 refine wset fun F0 hF0=>?_
 refine wseq (wsr (mV (v:=(iv m)) (hF0 2) (mV (v:=(iv a)) (hF0 1) (rV (r_sub (k:=.i64) (a:=(m:Int)) (b:=(a:Int)) (c:=((m-a:Nat):Int)) rfl rfl ((wi64 oM).trans oM)) (rV (r_eql (k:=.i64) (a:=((m-a:Nat):Int)) (b:=1) rfl rfl) (RL.nil ?_))))))
 refine wcD (p:=((m-a:Nat):Int)=1) rfl (fun hb1 hb1p=>?_) (fun hb1 hb1p=>?_)
 ·refine wsr ?_
  refine mV (v:=(iv m)) (hF0 2) (aS (v:=(iv m)) rfl (RL.nil (wsr (mV (v:=(iv c)) (hF0 3) (aS (v:=(iv c)) rfl (RL.nil (wseq ?_)))))))
  refine wblock ?_
  refine wset fun F2 hF3=>?_
  refine wloop (σ:=Nat×Nat) (fun(s:Nat×Nat) fl wl=>match s with|(i,j)=>Off (rg 10 3 (rg 31 23 [])) F2 fl∧fl 10=(iv i)∧fl 11=(iv j)∧(m≤i∧i≤j∧j≤c)∧(i=m∨key (R.getD (i-1-m) default)<key (L.getD 0 default))∧(j=c∨key (L.getD 0 default)≤key (R.getD (j-m) default))∧(Ar (gI .i64) wl b 3 o (LA++L++R++LB) n)∧(Exc b w wl)) (fun(s:Nat×Nat)=>match s with|(i,j)=>j-i) (m,c) ?_ ?_
  ·exact⟨Off.refl _ _,(hF3 10).trans (rfl),(hF3 11).trans (rfl),by omega,.inl rfl,.inl rfl,ha,hE⟩
  clear ha hE
  rintro⟨i,j⟩ f4 w5 ⟨hoff6,hs7,hs8,hij,hlo,hhi,ha,hE⟩
  refine wseq (wsr (mV hs7 (mV hs8 (rV (r_lss (k:=.i64) (a:=(i:Int)) (b:=(j:Int)) rfl rfl) (RL.nil ?_)))))
  refine wcD (p:=(i:Int)<(j:Int)) rfl (fun hb9 hb9p=>?_) (fun hb9 hb9p=>?_)
  ·refine wskip ?_
   refine wblock ?_
   refine wsr (mV hs7 (mV hs8 (rV (r_add (k:=.i64) (a:=(i:Int)) (b:=(j:Int)) (c:=((i+j:Nat):Int)) rfl rfl ((wi64 oM).trans oM)) (rV (r_conv (k:=.u64) (a:=((i+j:Nat):Int)) (c:=((i+j:Nat):Int)) uT3 uT187 rfl (wu64 oM)) (rV (r_shr (k:=.u64) (a:=((i+j:Nat):Int)) (b:=1) (c:=(((i+j)/2:Nat):Int)) rfl rfl dC (shr_one _)) (rV (r_conv (k:=.i64) (a:=(((i+j)/2:Nat):Int)) (c:=(((i+j)/2:Nat):Int)) uT187 uT3 rfl (wi64 oM)) (aS (v:=(iv ((i+j)/2:Nat))) rfl (RL.nil (wseq ?_)))))))))
   refine wdraw mixed fun w10 he11=>?_
   have he11z:=he11.size
   replace ha:=ha.ext he11
   replace hE:=hE.trans (Exc.of_ext he11)
   refine ra 0 rfl (fun _=>r_move_as (v:=(.func (.func kc) #[] cl.toArray)) ((hoff6 4 rfl).trans ((hF3 4).trans (hF0 4)))) ?_
   refine ra 1 rfl (fun _=>r_move_as (v:=(.slice (some ⟨b,o,none⟩) (n) (cap))) ((hoff6 0 rfl).trans ((hF3 0).trans (hF0 0)))) ?_
   refine ra 2 rfl (fun _=>r_move_as (v:=(iv ((i+j)/2:Nat))) rfl) ?_
   refine ra 3 rfl (fun _=>r_indexAddr (i:=(((i+j)/2:Nat):Int)) uT22 ty3 rfl rfl oM oM) ?_
   have hc12:=ha.cell (i:=(((i+j)/2:Nat):Int)) ((i+j)/2) oM oM
   rw[show(LA++L++R++LB).getD ((i+j)/2) default=R.getD ((i+j)/2-m) default from (getD_seg (LA++L) R LB _ _ (by simp;omega) oM)] at hc12
   refine RA.rd 4 rfl kR rfl rfl rfl dC (Ext.refl _) (fun u hu=>r_load (v:=(iv (R.getD ((i+j)/2-m) default))) uT3 ag3 rfl (cell_ext hu hc12)) ?_
   refine ra 5 rfl (fun _=>r_move_as (v:=(.slice (some ⟨b,o,none⟩) (n) (cap))) ((hoff6 0 rfl).trans ((hF3 0).trans (hF0 0)))) ?_
   refine ra 6 rfl (fun _=>r_move_as (v:=(iv a)) ((hoff6 1 rfl).trans ((hF3 1).trans (hF0 1)))) ?_
   refine ra 7 rfl (fun _=>r_indexAddr (i:=(a:Int)) uT22 ty3 rfl rfl oM oM) ?_
   have hc13:=ha.cell (i:=(a:Int)) (a) oM oM
   rw[show(LA++L++R++LB).getD (a) default=L.getD 0 default from (by rw[List.append_assoc (LA++L)];exact getD_seg LA L (R++LB) _ _ oM oM)] at hc13
   refine RA.rd 8 rfl kR rfl rfl rfl dC (Ext.refl _) (fun u hu=>r_load (v:=(iv (L.getD 0 default))) uT3 ag3 rfl (cell_ext hu hc13)) ?_
   refine RA.all [9] kR rfl ?_
   refine RS.call rfl rfl rfl dC (r_callv (vl:=[(iv (R.getD ((i+j)/2-m) default)),(iv (L.getD 0 default))]) (cl:=cl) rfl hent rfl) (hcmp _ (hw0.trans hE) (R.getD ((i+j)/2-m) default) (L.getD 0 default) (hok _ (List.mem_append.2 (.inr (getD_mem _ _ oM)))) (hok _ (List.mem_append.2 (.inl (getD_mem _ _ oM))))) ?_ RS.nil
   rintro _ w14 ⟨rfl,he15⟩
   refine rm he15 ?_
   replace ha:=ha.ext he15
   replace hE:=hE.trans (Exc.of_ext he15)
   refine ra 10 rfl (fun _=>r_lss (k:=.i64) (a:=cmpI (key (R.getD ((i+j)/2-m) default)) (key (L.getD 0 default))) (b:=0) rfl rfl) ?_
   refine RA.done kR ?_
   refine wcD (p:=(cmpI (key (R.getD ((i+j)/2-m) default)) (key (L.getD 0 default)))<0) rfl (fun hb16 hb16p=>?_) (fun hb16 hb16p=>?_)
   ·have hkey:key (R.getD ((i+j)/2-m) default)<key (L.getD 0 default):=key_lt (by have h9:=hb16p;unfold cmpI at h9;exact h9)
    refine wregion (mV (v:=(iv ((i+j)/2:Nat))) rfl (rV (r_add (k:=.i64) (a:=(((i+j)/2:Nat):Int)) (b:=1) (c:=(((i+j)/2+1:Nat):Int)) rfl rfl ((wi64 oM).trans oM)) (aS (v:=(iv ((i+j)/2+1:Nat))) rfl (RL.nil ?_))))
    refine⟨((i+j)/2+1,j),⟨?_,?_,?_,?_,?_,?_,?_,?_⟩,?_⟩
    ·exact(by repeat (first|exact hoff6|refine Off.st ?_ dC _))
    ·first|rfl|exact int_eq oM|exact bool_eq (by simp)
    ·refine(hs8).trans ?_
     first|rfl|exact int_eq oM|exact bool_eq (by simp)
    ·omega
    ·exact .inr (by rw[show(i+j)/2+1-1-m=(i+j)/2-m by omega];exact hkey)
    ·exact hhi
    ·exact ha
    ·exact hE
    (try dsimp only)
    omega
   have hkey:key (L.getD 0 default)≤key (R.getD ((i+j)/2-m) default):=key_ge (by have h9:=hb16p;unfold cmpI at h9;exact h9)
   refine wregion (mV (v:=(iv ((i+j)/2:Nat))) rfl (aS (v:=(iv ((i+j)/2:Nat))) rfl (RL.nil ?_)))
   refine⟨(i,(i+j)/2),⟨?_,?_,?_,?_,?_,?_,?_,?_⟩,?_⟩
   ·exact(by repeat (first|exact hoff6|refine Off.st ?_ dC _))
   ·refine(hs7).trans ?_
    first|rfl|exact int_eq oM|exact bool_eq (by simp)
   ·first|rfl|exact int_eq oM|exact bool_eq (by simp)
   ·omega
   ·exact hlo
   ·exact .inr hkey
   ·exact ha
   ·exact hE
   (try dsimp only)
   omega
  refine wexit ?_
  refine wseq (wsr (mV (v:=(iv a)) ((hoff6 1 rfl).trans ((hF3 1).trans (hF0 1))) (aS (v:=(iv a)) rfl (RL.nil ?_))))
  refine wblock ?_
  refine wset fun F17 hF18=>?_
  refine wloop (σ:=List Int×List Int) (fun(s:List Int×List Int) fl wl=>match s with|(U,V)=>Off (13::(rg 55 22 [])) F17 fl∧fl 13=(iv (a+U.length:Nat))∧(R.take (i-m)=U++V)∧(Ar (gI .i64) wl b 3 o (LA++U++L.getD 0 default::V++R.drop (i-m)++LB) n)∧(Exc b w wl)) (fun(s:List Int×List Int)=>match s with|(U,V)=>V.length) ([],R.take (i-m)) ?_ ?_
  ·exact⟨Off.refl _ _,(hF18 13).trans ((int_eq (by simp))),by simp,(one_left LA L R LB (i-m) oM▸ha),hE⟩
  clear ha hE
  rintro⟨U,V⟩ f19 w20 ⟨hoff21,hs22,hUV,ha,hE⟩
  have hUVl:U.length+V.length=i-m:=by have:=congrArg List.length hUV;simp at this;omega
  refine wseq (wsr (mV hs22 (mV (v:=(iv i)) ((hoff21 10 rfl).trans ((hF18 10).trans hs7)) (rV (r_sub (k:=.i64) (a:=(i:Int)) (b:=1) (c:=((i-1:Nat):Int)) rfl rfl ((wi64 oM).trans oM)) (rV (r_lss (k:=.i64) (a:=((a+U.length:Nat):Int)) (b:=((i-1:Nat):Int)) rfl rfl) (RL.nil ?_))))))
  refine wcD (p:=((a+U.length:Nat):Int)<((i-1:Nat):Int)) rfl (fun hb23 hb23p=>?_) (fun hb23 hb23p=>?_)
  ·obtain⟨v,V',hV⟩:=cons_of V oM
   have hVl:V.length=V'.length+1:=by rw[hV];simp
   refine wskip ?_
   refine wseq ?_
   refine wblock ?_
   refine wdraw mixed fun w24 he25=>?_
   have he25z:=he25.size
   replace ha:=ha.ext he25
   replace hE:=hE.trans (Exc.of_ext he25)
   refine ra 0 rfl (fun _=>r_move_as (v:=(.slice (some ⟨b,o,none⟩) (n) (cap))) ((hoff21 0 rfl).trans ((hF18 0).trans ((hoff6 0 rfl).trans ((hF3 0).trans (hF0 0)))))) ?_
   refine ra 1 rfl (fun _=>r_move_as (v:=(iv (a+U.length:Nat))) hs22) ?_
   refine ra 2 rfl (fun _=>r_move_as (v:=(.slice (some ⟨b,o,none⟩) (n) (cap))) ((hoff21 0 rfl).trans ((hF18 0).trans ((hoff6 0 rfl).trans ((hF3 0).trans (hF0 0)))))) ?_
   refine ra 3 rfl (fun _=>r_move_as (v:=(iv (a+U.length:Nat))) hs22) ?_
   refine ra 4 rfl (fun _=>r_add (k:=.i64) (a:=((a+U.length:Nat):Int)) (b:=1) (c:=((a+U.length+1:Nat):Int)) rfl rfl ((wi64 oM).trans oM)) ?_
   refine ra 5 rfl (fun _=>r_move_as (v:=(.slice (some ⟨b,o,none⟩) (n) (cap))) ((hoff21 0 rfl).trans ((hF18 0).trans ((hoff6 0 rfl).trans ((hF3 0).trans (hF0 0)))))) ?_
   refine ra 6 rfl (fun _=>r_move_as (v:=(iv (a+U.length:Nat))) hs22) ?_
   refine ra 7 rfl (fun _=>r_add (k:=.i64) (a:=((a+U.length:Nat):Int)) (b:=1) (c:=((a+U.length+1:Nat):Int)) rfl rfl ((wi64 oM).trans oM)) ?_
   refine ra 8 rfl (fun _=>r_indexAddr (i:=((a+U.length+1:Nat):Int)) uT22 ty3 rfl rfl oM oM) ?_
   have hc26:=ha.cell (i:=((a+U.length+1:Nat):Int)) (a+U.length+1) oM oM
   rw[show(LA++U++L.getD 0 default::V++R.drop (i-m)++LB).getD (a+U.length+1) default=v from (by rw[show(LA++U++L.getD 0 default::V++R.drop (i-m)++LB)=(LA++U++[L.getD 0 default])++v::(V'++R.drop (i-m)++LB) from by rw[hV];simp];exact getD_mid _ _ _ _ (by simp;omega))] at hc26
   refine RA.rd 9 rfl kR rfl rfl rfl dC (Ext.refl _) (fun u hu=>r_load (v:=(iv v)) uT3 ag3 rfl (cell_ext hu hc26)) ?_
   refine ra 10 rfl (fun _=>r_move_as (v:=(.slice (some ⟨b,o,none⟩) (n) (cap))) ((hoff21 0 rfl).trans ((hF18 0).trans ((hoff6 0 rfl).trans ((hF3 0).trans (hF0 0)))))) ?_
   refine ra 11 rfl (fun _=>r_move_as (v:=(iv (a+U.length:Nat))) hs22) ?_
   refine ra 12 rfl (fun _=>r_indexAddr (i:=((a+U.length:Nat):Int)) uT22 ty3 rfl rfl oM oM) ?_
   have hc27:=ha.cell (i:=((a+U.length:Nat):Int)) (a+U.length) oM oM
   rw[show(LA++U++L.getD 0 default::V++R.drop (i-m)++LB).getD (a+U.length) default=L.getD 0 default from (by rw[show(LA++U++L.getD 0 default::V++R.drop (i-m)++LB)=(LA++U)++L.getD 0 default::(V++R.drop (i-m)++LB) from by simp];exact getD_mid _ _ _ _ (by simp;omega))] at hc27
   refine RA.rd 13 rfl kR rfl rfl rfl dC (Ext.refl _) (fun u hu=>r_load (v:=(iv (L.getD 0 default))) uT3 ag3 rfl (cell_ext hu hc27)) ?_
   refine ra 14 rfl (fun _=>r_indexAddr (i:=((a+U.length:Nat):Int)) uT22 ty3 rfl rfl oM oM) ?_
   refine RA.all [15] kR rfl ?_
   refine RS.runs rfl rfl rfl (h_set (g:=(gI .i64)) (vv:=(iv v)) (u:=v) (i:=((a+U.length:Nat):Int)) ty3 rfl rfl rfl rfl rfl ha (a+U.length) oM oM) ?_ RS.nil
   rintro w28 ⟨ha29,hx30⟩
   refine⟨.inr (.inl kR),?_⟩
   have hx30z:=hx30.size
   replace hE:=hE.trans hx30
   replace ha:=ha29
   refine ra 16 rfl (fun _=>r_indexAddr (i:=((a+U.length+1:Nat):Int)) uT22 ty3 rfl rfl oM oM) ?_
   refine RA.all [17] kR rfl ?_
   refine RS.runs rfl rfl rfl (h_set (g:=(gI .i64)) (vv:=(iv (L.getD 0 default))) (u:=L.getD 0 default) (i:=((a+U.length+1:Nat):Int)) ty3 rfl rfl rfl rfl rfl ha (a+U.length+1) oM oM) ?_ RS.nil
   rintro w31 ⟨ha32,hx33⟩
   refine⟨.inr (.inl kR),?_⟩
   have hx33z:=hx33.size
   replace hE:=hE.trans hx33
   replace ha:=ha32
   refine RA.done kR ?_
   refine wregion (mV hs22 (rV (r_add (k:=.i64) (a:=((a+U.length:Nat):Int)) (b:=1) (c:=((a+U.length:Nat):Int)+1) rfl rfl (wi64 oM)) (aS (v:=(iv (((a+U.length:Nat):Int)+1))) rfl (RL.nil ?_))))
   refine⟨(U++[v],V'),⟨?_,?_,?_,?_,?_⟩,?_⟩
   ·exact(by repeat (first|exact hoff21|refine Off.st ?_ dC _|refine Off.via hoff6 dC ?_|refine Off.eq hF3 ?_))
   ·exact int_eq (by simp;omega)
   ·rw[hUV,hV];simp
   ·rw[show(LA++U++L.getD 0 default::V++R.drop (i-m)++LB)=(LA++U)++L.getD 0 default::v::(V'++R.drop (i-m)++LB) from by rw[hV];simp,set2' _ _ _ _ _ _ _ _ (by simp;omega) (by simp;omega)] at ha;simpa using ha
   ·exact hE
   (try dsimp only)
   rw[hV];simp
  refine wexit ?_
  refine wret ?_
  refine⟨[],trivial,?_⟩
  have hV0:V=[]:=List.eq_nil_of_length_eq_zero oM
  obtain⟨q1,q2⟩:=merge_left (x:=L.getD 0 default) (p:=i-m) hsR oM (by rcases hlo with h|h;exact .inl oM;exact .inr (by rw[show i-m-1=i-1-m by omega];exact h)) (by rcases hhi with h|h;exact .inl oM;exact .inr (by rw[show i=j by omega];exact h))
  refine⟨rfl,⟨_,?_,q1,?_⟩,hE⟩
  ·rw[hUV,hV0];rw[hV0] at ha;simpa using ha
  rw[list_one L oM];exact q2
 refine wskip ?_
 refine wseq (wsr (mV (v:=(iv c)) (hF0 3) (mV (v:=(iv m)) (hF0 2) (rV (r_sub (k:=.i64) (a:=(c:Int)) (b:=(m:Int)) (c:=((c-m:Nat):Int)) rfl rfl ((wi64 oM).trans oM)) (rV (r_eql (k:=.i64) (a:=((c-m:Nat):Int)) (b:=1) rfl rfl) (RL.nil ?_))))))
 refine wcD (p:=((c-m:Nat):Int)=1) rfl (fun hb34 hb34p=>?_) (fun hb34 hb34p=>?_)
 ·refine wsr ?_
  refine mV (v:=(iv a)) (hF0 1) (aS (v:=(iv a)) rfl (RL.nil (wsr (mV (v:=(iv m)) (hF0 2) (aS (v:=(iv m)) rfl (RL.nil (wseq ?_)))))))
  refine wblock ?_
  refine wset fun F35 hF36=>?_
  refine wloop (σ:=Nat×Nat) (fun(s:Nat×Nat) fl wl=>match s with|(i,j)=>Off (rg 14 3 (rg 83 24 [])) F35 fl∧fl 14=(iv i)∧fl 15=(iv j)∧(a≤i∧i≤j∧j≤m)∧(i=a∨key (L.getD (i-1-a) default)≤key (R.getD 0 default))∧(j=m∨key (R.getD 0 default)<key (L.getD (j-a) default))∧(Ar (gI .i64) wl b 3 o (LA++L++R++LB) n)∧(Exc b w wl)) (fun(s:Nat×Nat)=>match s with|(i,j)=>j-i) (a,m) ?_ ?_
  ·exact⟨Off.refl _ _,(hF36 14).trans (rfl),(hF36 15).trans (rfl),by omega,.inl rfl,.inl rfl,ha,hE⟩
  clear ha hE
  rintro⟨i,j⟩ f37 w38 ⟨hoff39,hs40,hs41,hij,hlo,hhi,ha,hE⟩
  refine wseq (wsr (mV hs40 (mV hs41 (rV (r_lss (k:=.i64) (a:=(i:Int)) (b:=(j:Int)) rfl rfl) (RL.nil ?_)))))
  refine wcD (p:=(i:Int)<(j:Int)) rfl (fun hb42 hb42p=>?_) (fun hb42 hb42p=>?_)
  ·refine wskip ?_
   refine wblock ?_
   refine wsr (mV hs40 (mV hs41 (rV (r_add (k:=.i64) (a:=(i:Int)) (b:=(j:Int)) (c:=((i+j:Nat):Int)) rfl rfl ((wi64 oM).trans oM)) (rV (r_conv (k:=.u64) (a:=((i+j:Nat):Int)) (c:=((i+j:Nat):Int)) uT3 uT187 rfl (wu64 oM)) (rV (r_shr (k:=.u64) (a:=((i+j:Nat):Int)) (b:=1) (c:=(((i+j)/2:Nat):Int)) rfl rfl dC (shr_one _)) (rV (r_conv (k:=.i64) (a:=(((i+j)/2:Nat):Int)) (c:=(((i+j)/2:Nat):Int)) uT187 uT3 rfl (wi64 oM)) (aS (v:=(iv ((i+j)/2:Nat))) rfl (RL.nil (wseq ?_)))))))))
   refine wdraw mixed fun w43 he44=>?_
   have he44z:=he44.size
   replace ha:=ha.ext he44
   replace hE:=hE.trans (Exc.of_ext he44)
   refine ra 0 rfl (fun _=>r_move_as (v:=(.func (.func kc) #[] cl.toArray)) ((hoff39 4 rfl).trans ((hF36 4).trans (hF0 4)))) ?_
   refine ra 1 rfl (fun _=>r_move_as (v:=(.slice (some ⟨b,o,none⟩) (n) (cap))) ((hoff39 0 rfl).trans ((hF36 0).trans (hF0 0)))) ?_
   refine ra 2 rfl (fun _=>r_move_as (v:=(iv m)) ((hoff39 2 rfl).trans ((hF36 2).trans (hF0 2)))) ?_
   refine ra 3 rfl (fun _=>r_indexAddr (i:=(m:Int)) uT22 ty3 rfl rfl oM oM) ?_
   have hc45:=ha.cell (i:=(m:Int)) (m) oM oM
   rw[show(LA++L++R++LB).getD (m) default=R.getD 0 default from (getD_seg (LA++L) R LB _ _ (by simp;omega) oM)] at hc45
   refine RA.rd 4 rfl kR rfl rfl rfl dC (Ext.refl _) (fun u hu=>r_load (v:=(iv (R.getD 0 default))) uT3 ag3 rfl (cell_ext hu hc45)) ?_
   refine ra 5 rfl (fun _=>r_move_as (v:=(.slice (some ⟨b,o,none⟩) (n) (cap))) ((hoff39 0 rfl).trans ((hF36 0).trans (hF0 0)))) ?_
   refine ra 6 rfl (fun _=>r_move_as (v:=(iv ((i+j)/2:Nat))) rfl) ?_
   refine ra 7 rfl (fun _=>r_indexAddr (i:=(((i+j)/2:Nat):Int)) uT22 ty3 rfl rfl oM oM) ?_
   have hc46:=ha.cell (i:=(((i+j)/2:Nat):Int)) ((i+j)/2) oM oM
   rw[show(LA++L++R++LB).getD ((i+j)/2) default=L.getD ((i+j)/2-a) default from (by rw[List.append_assoc (LA++L)];exact getD_seg LA L (R++LB) _ _ oM oM)] at hc46
   refine RA.rd 8 rfl kR rfl rfl rfl dC (Ext.refl _) (fun u hu=>r_load (v:=(iv (L.getD ((i+j)/2-a) default))) uT3 ag3 rfl (cell_ext hu hc46)) ?_
   refine RA.all [9] kR rfl ?_
   refine RS.call rfl rfl rfl dC (r_callv (vl:=[(iv (R.getD 0 default)),(iv (L.getD ((i+j)/2-a) default))]) (cl:=cl) rfl hent rfl) (hcmp _ (hw0.trans hE) (R.getD 0 default) (L.getD ((i+j)/2-a) default) (hok _ (List.mem_append.2 (.inr (getD_mem _ _ oM)))) (hok _ (List.mem_append.2 (.inl (getD_mem _ _ oM))))) ?_ RS.nil
   rintro _ w47 ⟨rfl,he48⟩
   refine rm he48 ?_
   replace ha:=ha.ext he48
   replace hE:=hE.trans (Exc.of_ext he48)
   refine ra 10 rfl (fun _=>r_lss (k:=.i64) (a:=cmpI (key (R.getD 0 default)) (key (L.getD ((i+j)/2-a) default))) (b:=0) rfl rfl) ?_
   refine ra 11 rfl (fun _=>r_not rfl) ?_
   refine RA.done kR ?_
   refine wcond (b:=!(decide ((cmpI (key (R.getD 0 default)) (key (L.getD ((i+j)/2-a) default)))<0))) rfl (fun hb49=>?_) (fun hb49=>?_)
   ·have hb49p:=hb49
    have hkey0:¬cmpI (key (R.getD 0 default)) (key (L.getD ((i+j)/2-a) default))<0:=by simpa using hb49p
    have hkey:key (L.getD ((i+j)/2-a) default)≤key (R.getD 0 default):=key_ge (by unfold cmpI at hkey0;exact hkey0)
    refine wregion (mV (v:=(iv ((i+j)/2:Nat))) rfl (rV (r_add (k:=.i64) (a:=(((i+j)/2:Nat):Int)) (b:=1) (c:=(((i+j)/2+1:Nat):Int)) rfl rfl ((wi64 oM).trans oM)) (aS (v:=(iv ((i+j)/2+1:Nat))) rfl (RL.nil ?_))))
    refine⟨((i+j)/2+1,j),⟨?_,?_,?_,?_,?_,?_,?_,?_⟩,?_⟩
    ·exact(by repeat (first|exact hoff39|refine Off.st ?_ dC _))
    ·first|rfl|exact int_eq oM|exact bool_eq (by simp)
    ·refine(hs41).trans ?_
     first|rfl|exact int_eq oM|exact bool_eq (by simp)
    ·omega
    ·exact .inr (by rw[show(i+j)/2+1-1-a=(i+j)/2-a by omega];exact hkey)
    ·exact hhi
    ·exact ha
    ·exact hE
    (try dsimp only)
    omega
   have hb49p:=hb49
   have hkey0:cmpI (key (R.getD 0 default)) (key (L.getD ((i+j)/2-a) default))<0:=by simpa using hb49p
   have hkey:key (R.getD 0 default)<key (L.getD ((i+j)/2-a) default):=key_lt (by unfold cmpI at hkey0;exact hkey0)
   refine wregion (mV (v:=(iv ((i+j)/2:Nat))) rfl (aS (v:=(iv ((i+j)/2:Nat))) rfl (RL.nil ?_)))
   refine⟨(i,(i+j)/2),⟨?_,?_,?_,?_,?_,?_,?_,?_⟩,?_⟩
   ·exact(by repeat (first|exact hoff39|refine Off.st ?_ dC _))
   ·refine(hs40).trans ?_
    first|rfl|exact int_eq oM|exact bool_eq (by simp)
   ·first|rfl|exact int_eq oM|exact bool_eq (by simp)
   ·omega
   ·exact hlo
   ·exact .inr hkey
   ·exact ha
   ·exact hE
   (try dsimp only)
   omega
  refine wexit ?_
  refine wseq (wsr (mV (v:=(iv m)) ((hoff39 2 rfl).trans ((hF36 2).trans (hF0 2))) (aS (v:=(iv m)) rfl (RL.nil ?_))))
  refine wblock ?_
  refine wset fun F50 hF51=>?_
  refine wloop (σ:=List Int×List Int) (fun(s:List Int×List Int) fl wl=>match s with|(U,V)=>Off (17::(rg 108 21 [])) F50 fl∧fl 17=(iv (i+U.length:Nat))∧(L.drop (i-a)=U++V)∧(Ar (gI .i64) wl b 3 o (LA++L.take (i-a)++U++R.getD 0 default::V++LB) n)∧(Exc b w wl)) (fun(s:List Int×List Int)=>match s with|(U,V)=>U.length) (L.drop (i-a),[]) ?_ ?_
  ·exact⟨Off.refl _ _,(hF51 17).trans ((int_eq (by simp;omega))),by simp,(one_right LA L R LB (i-a) oM▸ha),hE⟩
  clear ha hE
  rintro⟨U,V⟩ f52 w53 ⟨hoff54,hs55,hUV,ha,hE⟩
  have hUVl:U.length+V.length=m-i:=by have:=congrArg List.length hUV;simp at this;omega
  refine wseq (wsr (mV hs55 (mV (v:=(iv i)) ((hoff54 14 rfl).trans ((hF51 14).trans hs40)) (rV (r_gtr (k:=.i64) (a:=((i+U.length:Nat):Int)) (b:=(i:Int)) rfl rfl) (RL.nil ?_)))))
  refine wcD (p:=(i:Int)<((i+U.length:Nat):Int)) rfl (fun hb56 hb56p=>?_) (fun hb56 hb56p=>?_)
  ·obtain⟨U',z,hU⟩:=snoc_of U oM
   have hUl:U.length=U'.length+1:=by rw[hU];simp
   refine wskip ?_
   refine wseq ?_
   refine wblock ?_
   refine wdraw mixed fun w57 he58=>?_
   have he58z:=he58.size
   replace ha:=ha.ext he58
   replace hE:=hE.trans (Exc.of_ext he58)
   refine ra 0 rfl (fun _=>r_move_as (v:=(.slice (some ⟨b,o,none⟩) (n) (cap))) ((hoff54 0 rfl).trans ((hF51 0).trans ((hoff39 0 rfl).trans ((hF36 0).trans (hF0 0)))))) ?_
   refine ra 1 rfl (fun _=>r_move_as (v:=(iv (i+U.length:Nat))) hs55) ?_
   refine ra 2 rfl (fun _=>r_move_as (v:=(.slice (some ⟨b,o,none⟩) (n) (cap))) ((hoff54 0 rfl).trans ((hF51 0).trans ((hoff39 0 rfl).trans ((hF36 0).trans (hF0 0)))))) ?_
   refine ra 3 rfl (fun _=>r_move_as (v:=(iv (i+U.length:Nat))) hs55) ?_
   refine ra 4 rfl (fun _=>r_sub (k:=.i64) (a:=((i+U.length:Nat):Int)) (b:=1) (c:=((i+U.length-1:Nat):Int)) rfl rfl ((wi64 oM).trans oM)) ?_
   refine ra 5 rfl (fun _=>r_move_as (v:=(.slice (some ⟨b,o,none⟩) (n) (cap))) ((hoff54 0 rfl).trans ((hF51 0).trans ((hoff39 0 rfl).trans ((hF36 0).trans (hF0 0)))))) ?_
   refine ra 6 rfl (fun _=>r_move_as (v:=(iv (i+U.length:Nat))) hs55) ?_
   refine ra 7 rfl (fun _=>r_sub (k:=.i64) (a:=((i+U.length:Nat):Int)) (b:=1) (c:=((i+U.length-1:Nat):Int)) rfl rfl ((wi64 oM).trans oM)) ?_
   refine ra 8 rfl (fun _=>r_indexAddr (i:=((i+U.length-1:Nat):Int)) uT22 ty3 rfl rfl oM oM) ?_
   have hc59:=ha.cell (i:=((i+U.length-1:Nat):Int)) (i+U.length-1) oM oM
   rw[show(LA++L.take (i-a)++U++R.getD 0 default::V++LB).getD (i+U.length-1) default=z from (by rw[show(LA++L.take (i-a)++U++R.getD 0 default::V++LB)=(LA++L.take (i-a)++U')++z::(R.getD 0 default::V++LB) from by rw[hU];simp];exact getD_mid _ _ _ _ (by simp;omega))] at hc59
   refine RA.rd 9 rfl kR rfl rfl rfl dC (Ext.refl _) (fun u hu=>r_load (v:=(iv z)) uT3 ag3 rfl (cell_ext hu hc59)) ?_
   refine ra 10 rfl (fun _=>r_move_as (v:=(.slice (some ⟨b,o,none⟩) (n) (cap))) ((hoff54 0 rfl).trans ((hF51 0).trans ((hoff39 0 rfl).trans ((hF36 0).trans (hF0 0)))))) ?_
   refine ra 11 rfl (fun _=>r_move_as (v:=(iv (i+U.length:Nat))) hs55) ?_
   refine ra 12 rfl (fun _=>r_indexAddr (i:=((i+U.length:Nat):Int)) uT22 ty3 rfl rfl oM oM) ?_
   have hc60:=ha.cell (i:=((i+U.length:Nat):Int)) (i+U.length) oM oM
   rw[show(LA++L.take (i-a)++U++R.getD 0 default::V++LB).getD (i+U.length) default=R.getD 0 default from (by rw[show(LA++L.take (i-a)++U++R.getD 0 default::V++LB)=(LA++L.take (i-a)++U)++R.getD 0 default::(V++LB) from by simp];exact getD_mid _ _ _ _ (by simp;omega))] at hc60
   refine RA.rd 13 rfl kR rfl rfl rfl dC (Ext.refl _) (fun u hu=>r_load (v:=(iv (R.getD 0 default))) uT3 ag3 rfl (cell_ext hu hc60)) ?_
   refine ra 14 rfl (fun _=>r_indexAddr (i:=((i+U.length:Nat):Int)) uT22 ty3 rfl rfl oM oM) ?_
   refine RA.all [15] kR rfl ?_
   refine RS.runs rfl rfl rfl (h_set (g:=(gI .i64)) (vv:=(iv z)) (u:=z) (i:=((i+U.length:Nat):Int)) ty3 rfl rfl rfl rfl rfl ha (i+U.length) oM oM) ?_ RS.nil
   rintro w61 ⟨ha62,hx63⟩
   refine⟨.inr (.inl kR),?_⟩
   have hx63z:=hx63.size
   replace hE:=hE.trans hx63
   replace ha:=ha62
   refine ra 16 rfl (fun _=>r_indexAddr (i:=((i+U.length-1:Nat):Int)) uT22 ty3 rfl rfl oM oM) ?_
   refine RA.all [17] kR rfl ?_
   refine RS.runs rfl rfl rfl (h_set (g:=(gI .i64)) (vv:=(iv (R.getD 0 default))) (u:=R.getD 0 default) (i:=((i+U.length-1:Nat):Int)) ty3 rfl rfl rfl rfl rfl ha (i+U.length-1) oM oM) ?_ RS.nil
   rintro w64 ⟨ha65,hx66⟩
   refine⟨.inr (.inl kR),?_⟩
   have hx66z:=hx66.size
   replace hE:=hE.trans hx66
   replace ha:=ha65
   refine RA.done kR ?_
   refine wregion (mV hs55 (rV (r_sub (k:=.i64) (a:=((i+U.length:Nat):Int)) (b:=1) (c:=((i+U.length:Nat):Int)-1) rfl rfl (wi64 oM)) (aS (v:=(iv (((i+U.length:Nat):Int)-1))) rfl (RL.nil ?_))))
   refine⟨(U',z::V),⟨?_,?_,?_,?_,?_⟩,?_⟩
   ·exact(by repeat (first|exact hoff54|refine Off.st ?_ dC _|refine Off.via hoff39 dC ?_|refine Off.eq hF36 ?_))
   ·exact int_eq oM
   ·rw[hUV,hU];simp
   ·rw[show(LA++L.take (i-a)++U++R.getD 0 default::V++LB)=(LA++L.take (i-a)++U')++z::R.getD 0 default::(V++LB) from by rw[hU];simp,set2 _ _ _ _ _ _ _ _ (by simp;omega) (by simp;omega)] at ha;simpa using ha
   ·exact hE
   (try dsimp only)
   omega
  refine wexit ?_
  refine wret ?_
  refine⟨[],trivial,?_⟩
  have hU0:U=[]:=List.eq_nil_of_length_eq_zero oM
  obtain⟨q1,q2⟩:=merge_right (y:=R.getD 0 default) (q:=i-a) hsL oM (by rcases hlo with h|h;exact .inl oM;exact .inr (by rw[show i-a-1=i-1-a by omega];exact h)) (by rcases hhi with h|h;exact .inl oM;exact .inr (by rw[show i=j by omega];exact h))
  refine⟨rfl,⟨_,?_,q1,?_⟩,hE⟩
  ·rw[hUV,hU0];rw[hU0] at ha;simpa using ha
  rw[list_one R oM];exact q2
 refine wskip ?_
 refine wsr (mV (v:=(iv a)) (hF0 1) (mV (v:=(iv c)) (hF0 3) (rV (r_add (k:=.i64) (a:=(a:Int)) (b:=(c:Int)) (c:=((a+c:Nat):Int)) rfl rfl ((wi64 oM).trans oM)) (rV (r_conv (k:=.u64) (a:=((a+c:Nat):Int)) (c:=((a+c:Nat):Int)) uT3 uT187 rfl (wu64 oM)) (rV (r_shr (k:=.u64) (a:=((a+c:Nat):Int)) (b:=1) (c:=(((a+c)/2:Nat):Int)) rfl rfl dC (shr_one _)) (rV (r_conv (k:=.i64) (a:=(((a+c)/2:Nat):Int)) (c:=(((a+c)/2:Nat):Int)) uT187 uT3 rfl (wi64 oM)) (aS (v:=(iv ((a+c)/2:Nat))) rfl (RL.nil (wsr (mV (v:=(iv ((a+c)/2:Nat))) rfl (mV (v:=(iv m)) (hF0 2) (rV (r_add (k:=.i64) (a:=(((a+c)/2:Nat):Int)) (b:=(m:Int)) (c:=(((a+c)/2+m:Nat):Int)) rfl rfl ((wi64 oM).trans oM)) (aS (v:=(iv ((a+c)/2+m:Nat))) rfl (RL.nil (wsr (aS (v:=(iv 0)) rfl (aS (v:=(iv 0)) rfl (RL.nil ?_))))))))))))))))))
 refine wset fun F67 hF68=>?_
 refine wcut (fun fl wl=>∃lo:Nat,∃hi:Nat,Off (rg 20 2 (rg 138 9 [])) F67 fl∧fl 20=(iv lo)∧fl 21=(iv hi)∧(a≤lo∧lo≤hi∧hi≤m∧hi≤(a+c)/2∧(a+c)/2+m≤c+lo∧(lo=a∨(a+c)/2+m=c+lo)∧(hi=m∨hi=(a+c)/2))∧(Ar (gI .i64) wl b 3 o (LA++L++R++LB) n)∧(Exc b w wl)) ?_ ?_
 ·have hoff69:=Off.refl (rg 20 2 (rg 138 9 [])) F67
  refine wsr (mV (v:=(iv m)) ((hF68 2).trans (hF0 2)) (mV (v:=(iv ((a+c)/2:Nat))) (hF68 18) (rV (r_gtr (k:=.i64) (a:=(m:Int)) (b:=(((a+c)/2:Nat):Int)) rfl rfl) (RL.nil ?_))))
  refine wcD (p:=(((a+c)/2:Nat):Int)<(m:Int)) rfl (fun hb70 hb70p=>?_) (fun hb70 hb70p=>?_)
  ·refine wsr ?_
   refine mV (v:=(iv ((a+c)/2+m:Nat))) (hF68 19) (mV (v:=(iv c)) ((hF68 3).trans (hF0 3)) (rV (r_sub (k:=.i64) (a:=(((a+c)/2+m:Nat):Int)) (b:=(c:Int)) (c:=(((a+c)/2+m-c:Nat):Int)) rfl rfl ((wi64 oM).trans oM)) (aS (v:=(iv ((a+c)/2+m-c:Nat))) rfl (RL.nil (wregion (mV (v:=(iv ((a+c)/2:Nat))) (hF68 18) (aS (v:=(iv ((a+c)/2:Nat))) rfl (RL.nil ?_))))))))
   refine⟨(a+c)/2+m-c,(a+c)/2,?_,?_,?_,?_,?_,?_⟩
   ·exact(by repeat (first|exact hoff69|refine Off.st ?_ dC _))
   ·first|rfl|exact int_eq oM|exact bool_eq (by simp)
   ·first|rfl|exact int_eq oM|exact bool_eq (by simp)
   ·omega
   ·exact ha
   exact hE
  refine wsr (mV (v:=(iv a)) ((hF68 1).trans (hF0 1)) (aS (v:=(iv a)) rfl (RL.nil (wregion (mV (v:=(iv m)) ((hF68 2).trans (hF0 2)) (aS (v:=(iv m)) rfl (RL.nil ?_)))))))
  refine⟨a,m,?_,?_,?_,?_,?_,?_⟩
  ·exact(by repeat (first|exact hoff69|refine Off.st ?_ dC _))
  ·first|rfl|exact int_eq oM|exact bool_eq (by simp)
  ·first|rfl|exact int_eq oM|exact bool_eq (by simp)
  ·omega
  ·exact ha
  exact hE
 clear ha hE
 rintro f71 w72 ⟨lo,hi,hoff73,hs74,hs75,hlh,ha,hE⟩
 refine wsr (mV (v:=(iv ((a+c)/2+m:Nat))) ((hoff73 19 rfl).trans (hF68 19)) (rV (r_sub (k:=.i64) (a:=(((a+c)/2+m:Nat):Int)) (b:=1) (c:=(((a+c)/2+m-1:Nat):Int)) rfl rfl ((wi64 oM).trans oM)) (aS (v:=(iv ((a+c)/2+m-1:Nat))) rfl (RL.nil (wseq ?_)))))
 refine wblock ?_
 refine wset fun F76 hF77=>?_
 refine wloop (σ:=Nat×Nat) (fun(s:Nat×Nat) fl wl=>match s with|(s,r)=>Off (rg 20 2 (23::(rg 149 26 []))) F76 fl∧fl 20=(iv s)∧fl 21=(iv r)∧(lo≤s∧s≤r∧r≤hi)∧(s=lo∨key (L.getD (s-1-a) default)≤key (R.getD ((a+c)/2-s) default))∧(r=hi∨key (R.getD ((a+c)/2-1-r) default)<key (L.getD (r-a) default))∧(Ar (gI .i64) wl b 3 o (LA++L++R++LB) n)∧(Exc b w wl)) (fun(s:Nat×Nat)=>match s with|(s,r)=>r-s) (lo,hi) ?_ ?_
 ·exact⟨Off.refl _ _,(hF77 20).trans ((hs74).trans rfl),(hF77 21).trans ((hs75).trans rfl),by omega,.inl rfl,.inl rfl,ha,hE⟩
 clear ha hE
 rintro⟨s,r⟩ f78 w79 ⟨hoff80,hs81,hs82,hsr,hlo2,hhi2,ha,hE⟩
 refine wseq (wsr (mV hs81 (mV hs82 (rV (r_lss (k:=.i64) (a:=(s:Int)) (b:=(r:Int)) rfl rfl) (RL.nil ?_)))))
 refine wcD (p:=(s:Int)<(r:Int)) rfl (fun hb83 hb83p=>?_) (fun hb83 hb83p=>?_)
 ·refine wskip ?_
  refine wblock ?_
  refine wsr (mV hs81 (mV hs82 (rV (r_add (k:=.i64) (a:=(s:Int)) (b:=(r:Int)) (c:=((s+r:Nat):Int)) rfl rfl ((wi64 oM).trans oM)) (rV (r_conv (k:=.u64) (a:=((s+r:Nat):Int)) (c:=((s+r:Nat):Int)) uT3 uT187 rfl (wu64 oM)) (rV (r_shr (k:=.u64) (a:=((s+r:Nat):Int)) (b:=1) (c:=(((s+r)/2:Nat):Int)) rfl rfl dC (shr_one _)) (rV (r_conv (k:=.i64) (a:=(((s+r)/2:Nat):Int)) (c:=(((s+r)/2:Nat):Int)) uT187 uT3 rfl (wi64 oM)) (aS (v:=(iv ((s+r)/2:Nat))) rfl (RL.nil (wseq ?_)))))))))
  refine wdraw mixed fun w84 he85=>?_
  have he85z:=he85.size
  replace ha:=ha.ext he85
  replace hE:=hE.trans (Exc.of_ext he85)
  refine ra 0 rfl (fun _=>r_move_as (v:=(.func (.func kc) #[] cl.toArray)) ((hoff80 4 rfl).trans ((hF77 4).trans ((hoff73 4 rfl).trans ((hF68 4).trans (hF0 4)))))) ?_
  refine ra 1 rfl (fun _=>r_move_as (v:=(.slice (some ⟨b,o,none⟩) (n) (cap))) ((hoff80 0 rfl).trans ((hF77 0).trans ((hoff73 0 rfl).trans ((hF68 0).trans (hF0 0)))))) ?_
  refine ra 2 rfl (fun _=>r_move_as (v:=(iv ((a+c)/2+m-1:Nat))) ((hoff80 22 rfl).trans (hF77 22))) ?_
  refine ra 3 rfl (fun _=>r_move_as (v:=(iv ((s+r)/2:Nat))) rfl) ?_
  refine ra 4 rfl (fun _=>r_sub (k:=.i64) (a:=(((a+c)/2+m-1:Nat):Int)) (b:=(((s+r)/2:Nat):Int)) (c:=(((a+c)/2+m-1-(s+r)/2:Nat):Int)) rfl rfl ((wi64 oM).trans oM)) ?_
  refine ra 5 rfl (fun _=>r_indexAddr (i:=(((a+c)/2+m-1-(s+r)/2:Nat):Int)) uT22 ty3 rfl rfl oM oM) ?_
  have hc86:=ha.cell (i:=(((a+c)/2+m-1-(s+r)/2:Nat):Int)) ((a+c)/2+m-1-(s+r)/2) oM oM
  rw[show(LA++L++R++LB).getD ((a+c)/2+m-1-(s+r)/2) default=R.getD ((a+c)/2-1-(s+r)/2) default from (getD_seg (LA++L) R LB _ _ (by simp;omega) oM)] at hc86
  refine RA.rd 6 rfl kR rfl rfl rfl dC (Ext.refl _) (fun u hu=>r_load (v:=(iv (R.getD ((a+c)/2-1-(s+r)/2) default))) uT3 ag3 rfl (cell_ext hu hc86)) ?_
  refine ra 7 rfl (fun _=>r_move_as (v:=(.slice (some ⟨b,o,none⟩) (n) (cap))) ((hoff80 0 rfl).trans ((hF77 0).trans ((hoff73 0 rfl).trans ((hF68 0).trans (hF0 0)))))) ?_
  refine ra 8 rfl (fun _=>r_move_as (v:=(iv ((s+r)/2:Nat))) rfl) ?_
  refine ra 9 rfl (fun _=>r_indexAddr (i:=(((s+r)/2:Nat):Int)) uT22 ty3 rfl rfl oM oM) ?_
  have hc87:=ha.cell (i:=(((s+r)/2:Nat):Int)) ((s+r)/2) oM oM
  rw[show(LA++L++R++LB).getD ((s+r)/2) default=L.getD ((s+r)/2-a) default from (by rw[List.append_assoc (LA++L)];exact getD_seg LA L (R++LB) _ _ oM oM)] at hc87
  refine RA.rd 10 rfl kR rfl rfl rfl dC (Ext.refl _) (fun u hu=>r_load (v:=(iv (L.getD ((s+r)/2-a) default))) uT3 ag3 rfl (cell_ext hu hc87)) ?_
  refine RA.all [11] kR rfl ?_
  refine RS.call rfl rfl rfl dC (r_callv (vl:=[(iv (R.getD ((a+c)/2-1-(s+r)/2) default)),(iv (L.getD ((s+r)/2-a) default))]) (cl:=cl) rfl hent rfl) (hcmp _ (hw0.trans hE) (R.getD ((a+c)/2-1-(s+r)/2) default) (L.getD ((s+r)/2-a) default) (hok _ (List.mem_append.2 (.inr (getD_mem _ _ oM)))) (hok _ (List.mem_append.2 (.inl (getD_mem _ _ oM))))) ?_ RS.nil
  rintro _ w88 ⟨rfl,he89⟩
  refine rm he89 ?_
  replace ha:=ha.ext he89
  replace hE:=hE.trans (Exc.of_ext he89)
  refine ra 12 rfl (fun _=>r_lss (k:=.i64) (a:=cmpI (key (R.getD ((a+c)/2-1-(s+r)/2) default)) (key (L.getD ((s+r)/2-a) default))) (b:=0) rfl rfl) ?_
  refine ra 13 rfl (fun _=>r_not rfl) ?_
  refine RA.done kR ?_
  refine wcond (b:=!(decide ((cmpI (key (R.getD ((a+c)/2-1-(s+r)/2) default)) (key (L.getD ((s+r)/2-a) default)))<0))) rfl (fun hb90=>?_) (fun hb90=>?_)
  ·have hb90p:=hb90
   have hkey0:¬cmpI (key (R.getD ((a+c)/2-1-(s+r)/2) default)) (key (L.getD ((s+r)/2-a) default))<0:=by simpa using hb90p
   have hkey:key (L.getD ((s+r)/2-a) default)≤key (R.getD ((a+c)/2-1-(s+r)/2) default):=key_ge (by unfold cmpI at hkey0;exact hkey0)
   refine wregion (mV (v:=(iv ((s+r)/2:Nat))) rfl (rV (r_add (k:=.i64) (a:=(((s+r)/2:Nat):Int)) (b:=1) (c:=(((s+r)/2+1:Nat):Int)) rfl rfl ((wi64 oM).trans oM)) (aS (v:=(iv ((s+r)/2+1:Nat))) rfl (RL.nil ?_))))
   refine⟨((s+r)/2+1,r),⟨?_,?_,?_,?_,?_,?_,?_,?_⟩,?_⟩
   ·exact(by repeat (first|exact hoff80|refine Off.st ?_ dC _|refine Off.via hoff73 dC ?_|refine Off.eq hF68 ?_))
   ·first|rfl|exact int_eq oM|exact bool_eq (by simp)
   ·refine(hs82).trans ?_
    first|rfl|exact int_eq oM|exact bool_eq (by simp)
   ·omega
   ·exact .inr (by rw[show(s+r)/2+1-1-a=(s+r)/2-a by omega,show(a+c)/2-((s+r)/2+1)=(a+c)/2-1-(s+r)/2 by omega];exact hkey)
   ·exact hhi2
   ·exact ha
   ·exact hE
   (try dsimp only)
   omega
  have hb90p:=hb90
  have hkey0:cmpI (key (R.getD ((a+c)/2-1-(s+r)/2) default)) (key (L.getD ((s+r)/2-a) default))<0:=by simpa using hb90p
  have hkey:key (R.getD ((a+c)/2-1-(s+r)/2) default)<key (L.getD ((s+r)/2-a) default):=key_lt (by unfold cmpI at hkey0;exact hkey0)
  refine wregion (mV (v:=(iv ((s+r)/2:Nat))) rfl (aS (v:=(iv ((s+r)/2:Nat))) rfl (RL.nil ?_)))
  refine⟨(s,(s+r)/2),⟨?_,?_,?_,?_,?_,?_,?_,?_⟩,?_⟩
  ·exact(by repeat (first|exact hoff80|refine Off.st ?_ dC _|refine Off.via hoff73 dC ?_|refine Off.eq hF68 ?_))
  ·refine(hs81).trans ?_
   first|rfl|exact int_eq oM|exact bool_eq (by simp)
  ·first|rfl|exact int_eq oM|exact bool_eq (by simp)
  ·omega
  ·exact hlo2
  ·exact .inr hkey
  ·exact ha
  ·exact hE
  (try dsimp only)
  omega
 refine wexit ?_
 refine wsr (mV (v:=(iv ((a+c)/2+m:Nat))) ((hoff80 19 rfl).trans ((hF77 19).trans ((hoff73 19 rfl).trans (hF68 19)))) (mV hs81 (rV (r_sub (k:=.i64) (a:=(((a+c)/2+m:Nat):Int)) (b:=(s:Int)) (c:=(((a+c)/2+m-s:Nat):Int)) rfl rfl ((wi64 oM).trans oM)) (aS (v:=(iv ((a+c)/2+m-s:Nat))) rfl (RL.nil ?_)))))
 refine wset fun F91 hF92=>?_
 refine wcut (fun fl wl=>Off (rg 178 14 []) F91 fl∧(Ar (gI .i64) wl b 3 o (LA++L.take (s-a)++R.take ((a+c)/2-s)++(L.drop (s-a)++R.drop ((a+c)/2-s)++LB)) n)∧(Exc b w wl)) ?_ ?_
 ·have hoff93:=Off.refl (rg 178 14 []) F91
  refine wsr (mV (v:=(iv s)) ((hF92 20).trans hs81) (mV (v:=(iv m)) ((hF92 2).trans ((hoff80 2 rfl).trans ((hF77 2).trans ((hoff73 2 rfl).trans ((hF68 2).trans (hF0 2)))))) (rV (r_lss (k:=.i64) (a:=(s:Int)) (b:=(m:Int)) rfl rfl) (mV (v:=(bd ((s:Int)<(m:Int)))) rfl ?_))))
  rcases bD ((s:Int)<(m:Int)) with ⟨hb94,hb94p⟩|⟨hb94,hb94p⟩
  ·refine RL.gval rfl rfl (bool_eq hb94) rfl dC (r_move_as (v:=(iv m)) ((hF92 2).trans ((hoff80 2 rfl).trans ((hF77 2).trans ((hoff73 2 rfl).trans ((hF68 2).trans (hF0 2))))))) ?_
   refine RL.gval rfl rfl (bool_eq hb94) rfl dC (r_move_as (v:=(iv ((a+c)/2+m-s:Nat))) (hF92 24)) ?_
   refine RL.gval rfl rfl (bool_eq hb94) rfl dC (r_lss (k:=.i64) (a:=(m:Int)) (b:=(((a+c)/2+m-s:Nat):Int)) rfl rfl) ?_
   refine rV (r_pick_t (v:=(bd ((m:Int)<(((a+c)/2+m-s:Nat):Int)))) (bool_eq hb94) rfl) (RL.nil ?_)
   refine wcD (p:=(m:Int)<(((a+c)/2+m-s:Nat):Int)) rfl (fun hb95 hb95p=>?_) (fun hb95 hb95p=>?_)
   ·refine wregion ?_
    refine mV (v:=(.slice (some ⟨b,o,none⟩) (n) (cap))) ((hF92 0).trans ((hoff80 0 rfl).trans ((hF77 0).trans ((hoff73 0 rfl).trans ((hF68 0).trans (hF0 0)))))) (mV (v:=(iv s)) ((hF92 20).trans hs81) (mV (v:=(iv m)) ((hF92 2).trans ((hoff80 2 rfl).trans ((hF77 2).trans ((hoff73 2 rfl).trans ((hF68 2).trans (hF0 2)))))) (mV (v:=(iv ((a+c)/2+m-s:Nat))) (hF92 24) (mV (v:=(.func (.func kc) #[] cl.toArray)) ((hF92 4).trans ((hoff80 4 rfl).trans ((hF77 4).trans ((hoff73 4 rfl).trans ((hF68 4).trans (hF0 4)))))) ?_))))
    refine RL.call rfl rfl dC (r_call (vl:=[(.slice (some ⟨b,o,none⟩) (n) (cap)),(iv s),(iv m),(iv ((a+c)/2+m-s:Nat)),(.func (.func kc) #[] cl.toArray)]) ent146 rfl) (rotate_int (xs:=(LA++L++R++LB)) (LA:=LA++L.take (s-a)) (LU:=L.drop (s-a)) (LV:=R.take ((a+c)/2-s)) (LB:=R.drop ((a+c)/2-s)++LB) ha hsz (yes_rot _ _ _ _ _ _) (by simp;omega) (by simp;omega) (by simp;omega) (by simp;omega) (by simp;omega)) ?_
    rintro _ w96 ⟨rfl,ha97,hx98⟩
    replace hE:=hE.trans hx98
    replace ha:=ha97
    refine RL.nil ?_
    refine⟨?_,?_,?_⟩
    ·exact(by repeat (first|exact hoff93|refine Off.st ?_ dC _|refine Off.via hoff80 dC ?_|refine Off.eq hF77 ?_|refine Off.via hoff73 dC ?_|refine Off.eq hF68 ?_))
    ·simpa[List.append_assoc] using ha
    exact hE
   refine wskip ?_
   refine⟨?_,?_,?_⟩
   ·exact(by repeat (first|exact hoff93|refine Off.st ?_ dC _|refine Off.via hoff80 dC ?_|refine Off.eq hF77 ?_|refine Off.via hoff73 dC ?_|refine Off.eq hF68 ?_))
   ·rw[←no_rot LA L R LB _ _ oM];exact ha
   exact hE
  refine RL.gno rfl rfl (bool_eq hb94) rfl dC ?_
  refine RL.gno rfl rfl (bool_eq hb94) rfl dC ?_
  refine RL.gno rfl rfl (bool_eq hb94) rfl dC ?_
  refine rV (r_pick_f (v:=(.bool false)) (bool_eq hb94) rfl) (RL.nil ?_)
  refine wcond_f rfl ?_
  refine wskip ?_
  refine⟨?_,?_,?_⟩
  ·exact(by repeat (first|exact hoff93|refine Off.st ?_ dC _|refine Off.via hoff80 dC ?_|refine Off.eq hF77 ?_|refine Off.via hoff73 dC ?_|refine Off.eq hF68 ?_))
  ·rw[←no_rot LA L R LB _ _ oM];exact ha
  exact hE
 clear ha hE
 rintro f99 w100 ⟨hoff101,ha,hE⟩
 refine wset fun F102 hF103=>?_
 refine wcut (fun fl wl=>∃M1:List Int,Off (rg 192 14 []) F102 fl∧(Srt key M1∧StE key (L.take (s-a)++R.take ((a+c)/2-s)) M1)∧(Ar (gI .i64) wl b 3 o (LA++M1++L.drop (s-a)++R.drop ((a+c)/2-s)++LB) n)∧(Exc b w wl)) ?_ ?_
 ·have hoff104:=Off.refl (rg 192 14 []) F102
  refine wsr (mV (v:=(iv a)) ((hF103 1).trans ((hoff101 1 rfl).trans ((hF92 1).trans ((hoff80 1 rfl).trans ((hF77 1).trans ((hoff73 1 rfl).trans ((hF68 1).trans (hF0 1)))))))) (mV (v:=(iv s)) ((hF103 20).trans ((hoff101 20 rfl).trans ((hF92 20).trans hs81))) (rV (r_lss (k:=.i64) (a:=(a:Int)) (b:=(s:Int)) rfl rfl) (mV (v:=(bd ((a:Int)<(s:Int)))) rfl ?_))))
  rcases bD ((a:Int)<(s:Int)) with ⟨hb105,hb105p⟩|⟨hb105,hb105p⟩
  ·refine RL.gval rfl rfl (bool_eq hb105) rfl dC (r_move_as (v:=(iv s)) ((hF103 20).trans ((hoff101 20 rfl).trans ((hF92 20).trans hs81)))) ?_
   refine RL.gval rfl rfl (bool_eq hb105) rfl dC (r_move_as (v:=(iv ((a+c)/2:Nat))) ((hF103 18).trans ((hoff101 18 rfl).trans ((hF92 18).trans ((hoff80 18 rfl).trans ((hF77 18).trans ((hoff73 18 rfl).trans (hF68 18)))))))) ?_
   refine RL.gval rfl rfl (bool_eq hb105) rfl dC (r_lss (k:=.i64) (a:=(s:Int)) (b:=(((a+c)/2:Nat):Int)) rfl rfl) ?_
   refine rV (r_pick_t (v:=(bd ((s:Int)<(((a+c)/2:Nat):Int)))) (bool_eq hb105) rfl) (RL.nil ?_)
   refine wcD (p:=(s:Int)<(((a+c)/2:Nat):Int)) rfl (fun hb106 hb106p=>?_) (fun hb106 hb106p=>?_)
   ·refine wregion ?_
    refine mV (v:=(.slice (some ⟨b,o,none⟩) (n) (cap))) ((hF103 0).trans ((hoff101 0 rfl).trans ((hF92 0).trans ((hoff80 0 rfl).trans ((hF77 0).trans ((hoff73 0 rfl).trans ((hF68 0).trans (hF0 0)))))))) (mV (v:=(iv a)) ((hF103 1).trans ((hoff101 1 rfl).trans ((hF92 1).trans ((hoff80 1 rfl).trans ((hF77 1).trans ((hoff73 1 rfl).trans ((hF68 1).trans (hF0 1)))))))) (mV (v:=(iv s)) ((hF103 20).trans ((hoff101 20 rfl).trans ((hF92 20).trans hs81))) (mV (v:=(iv ((a+c)/2:Nat))) ((hF103 18).trans ((hoff101 18 rfl).trans ((hF92 18).trans ((hoff80 18 rfl).trans ((hF77 18).trans ((hoff73 18 rfl).trans (hF68 18))))))) (mV (v:=(.func (.func kc) #[] cl.toArray)) ((hF103 4).trans ((hoff101 4 rfl).trans ((hF92 4).trans ((hoff80 4 rfl).trans ((hF77 4).trans ((hoff73 4 rfl).trans ((hF68 4).trans (hF0 4)))))))) ?_))))
    refine RL.call rfl rfl dC (r_call (vl:=[(.slice (some ⟨b,o,none⟩) (n) (cap)),(iv a),(iv s),(iv ((a+c)/2:Nat)),(.func (.func kc) #[] cl.toArray)]) ent129 rfl) (ih _ _ _ LA (L.take (s-a)) (R.take ((a+c)/2-s)) (L.drop (s-a)++R.drop ((a+c)/2-s)++LB) _ ha oM (by simp;omega) (by simp;omega) (by simp;omega) (by simp;omega) (hsL.take _) (hsR.take _) (fun x hx=>hok x ((List.mem_append.1 hx).elim (fun h=>List.mem_append.2 (.inl (List.mem_of_mem_take h))) (fun h=>List.mem_append.2 (.inr (List.mem_of_mem_take h))))) (hw0.trans hE) oM) ?_
    rintro _ w107 ⟨rfl,⟨M110,ha108,hs111,ht112⟩,hx109⟩
    replace hE:=hE.trans hx109
    replace ha:=ha108
    refine RL.nil ?_
    refine⟨M110,?_,?_,?_,?_⟩
    ·exact(by repeat (first|exact hoff104|refine Off.st ?_ dC _|refine Off.via hoff101 dC ?_|refine Off.eq hF92 ?_|refine Off.via hoff80 dC ?_|refine Off.eq hF77 ?_|refine Off.via hoff73 dC ?_|refine Off.eq hF68 ?_))
    ·exact⟨hs111,ht112⟩
    ·simpa[List.append_assoc] using ha
    exact hE
   refine wskip ?_
   refine⟨L.take (s-a)++R.take ((a+c)/2-s),?_,?_,?_,?_⟩
   ·exact(by repeat (first|exact hoff104|refine Off.st ?_ dC _|refine Off.via hoff101 dC ?_|refine Off.eq hF92 ?_|refine Off.via hoff80 dC ?_|refine Off.eq hF77 ?_|refine Off.via hoff73 dC ?_|refine Off.eq hF68 ?_))
   ·exact⟨no_mrg hsL hsR oM,StE.refl _ _⟩
   ·simpa[List.append_assoc] using ha
   exact hE
  refine RL.gno rfl rfl (bool_eq hb105) rfl dC ?_
  refine RL.gno rfl rfl (bool_eq hb105) rfl dC ?_
  refine RL.gno rfl rfl (bool_eq hb105) rfl dC ?_
  refine rV (r_pick_f (v:=(.bool false)) (bool_eq hb105) rfl) (RL.nil ?_)
  refine wcond_f rfl ?_
  refine wskip ?_
  refine⟨L.take (s-a)++R.take ((a+c)/2-s),?_,?_,?_,?_⟩
  ·exact(by repeat (first|exact hoff104|refine Off.st ?_ dC _|refine Off.via hoff101 dC ?_|refine Off.eq hF92 ?_|refine Off.via hoff80 dC ?_|refine Off.eq hF77 ?_|refine Off.via hoff73 dC ?_|refine Off.eq hF68 ?_))
  ·exact⟨no_mrg hsL hsR oM,StE.refl _ _⟩
  ·simpa[List.append_assoc] using ha
  exact hE
 clear ha hE
 rintro f113 w114 ⟨M1,hoff115,hM1,ha,hE⟩
 have hM1l:M1.length=(s-a)+((a+c)/2-s):=by have:=hM1.2.length;simp at this;omega
 refine wsr (mV (v:=(iv ((a+c)/2:Nat))) ((hoff115 18 rfl).trans ((hF103 18).trans ((hoff101 18 rfl).trans ((hF92 18).trans ((hoff80 18 rfl).trans ((hF77 18).trans ((hoff73 18 rfl).trans (hF68 18)))))))) (mV (v:=(iv ((a+c)/2+m-s:Nat))) ((hoff115 24 rfl).trans ((hF103 24).trans ((hoff101 24 rfl).trans (hF92 24)))) (rV (r_lss (k:=.i64) (a:=(((a+c)/2:Nat):Int)) (b:=(((a+c)/2+m-s:Nat):Int)) rfl rfl) (mV (v:=(bd ((((a+c)/2:Nat):Int)<(((a+c)/2+m-s:Nat):Int)))) rfl ?_))))
 rcases bD ((((a+c)/2:Nat):Int)<(((a+c)/2+m-s:Nat):Int)) with ⟨hb116,hb116p⟩|⟨hb116,hb116p⟩
 ·refine RL.gval rfl rfl (bool_eq hb116) rfl dC (r_move_as (v:=(iv ((a+c)/2+m-s:Nat))) ((hoff115 24 rfl).trans ((hF103 24).trans ((hoff101 24 rfl).trans (hF92 24))))) ?_
  refine RL.gval rfl rfl (bool_eq hb116) rfl dC (r_move_as (v:=(iv c)) ((hoff115 3 rfl).trans ((hF103 3).trans ((hoff101 3 rfl).trans ((hF92 3).trans ((hoff80 3 rfl).trans ((hF77 3).trans ((hoff73 3 rfl).trans ((hF68 3).trans (hF0 3)))))))))) ?_
  refine RL.gval rfl rfl (bool_eq hb116) rfl dC (r_lss (k:=.i64) (a:=(((a+c)/2+m-s:Nat):Int)) (b:=(c:Int)) rfl rfl) ?_
  refine rV (r_pick_t (v:=(bd ((((a+c)/2+m-s:Nat):Int)<(c:Int)))) (bool_eq hb116) rfl) (RL.nil ?_)
  refine wcD (p:=(((a+c)/2+m-s:Nat):Int)<(c:Int)) rfl (fun hb117 hb117p=>?_) (fun hb117 hb117p=>?_)
  ·refine wregion ?_
   refine mV (v:=(.slice (some ⟨b,o,none⟩) (n) (cap))) ((hoff115 0 rfl).trans ((hF103 0).trans ((hoff101 0 rfl).trans ((hF92 0).trans ((hoff80 0 rfl).trans ((hF77 0).trans ((hoff73 0 rfl).trans ((hF68 0).trans (hF0 0))))))))) (mV (v:=(iv ((a+c)/2:Nat))) ((hoff115 18 rfl).trans ((hF103 18).trans ((hoff101 18 rfl).trans ((hF92 18).trans ((hoff80 18 rfl).trans ((hF77 18).trans ((hoff73 18 rfl).trans (hF68 18)))))))) (mV (v:=(iv ((a+c)/2+m-s:Nat))) ((hoff115 24 rfl).trans ((hF103 24).trans ((hoff101 24 rfl).trans (hF92 24)))) (mV (v:=(iv c)) ((hoff115 3 rfl).trans ((hF103 3).trans ((hoff101 3 rfl).trans ((hF92 3).trans ((hoff80 3 rfl).trans ((hF77 3).trans ((hoff73 3 rfl).trans ((hF68 3).trans (hF0 3))))))))) (mV (v:=(.func (.func kc) #[] cl.toArray)) ((hoff115 4 rfl).trans ((hF103 4).trans ((hoff101 4 rfl).trans ((hF92 4).trans ((hoff80 4 rfl).trans ((hF77 4).trans ((hoff73 4 rfl).trans ((hF68 4).trans (hF0 4))))))))) ?_))))
   refine RL.call rfl rfl dC (r_call (vl:=[(.slice (some ⟨b,o,none⟩) (n) (cap)),(iv ((a+c)/2:Nat)),(iv ((a+c)/2+m-s:Nat)),(iv c),(.func (.func kc) #[] cl.toArray)]) ent129 rfl) (ih _ _ _ (LA++M1) (L.drop (s-a)) (R.drop ((a+c)/2-s)) LB _ ha (by simp;omega) (by simp;omega) (by simp;omega) (by simp;omega) (by simp;omega) (hsL.drop _) (hsR.drop _) (fun x hx=>hok x ((List.mem_append.1 hx).elim (fun h=>List.mem_append.2 (.inl (List.mem_of_mem_drop h))) (fun h=>List.mem_append.2 (.inr (List.mem_of_mem_drop h))))) (hw0.trans hE) oM) ?_
   rintro _ w118 ⟨rfl,⟨M121,ha119,hs122,ht123⟩,hx120⟩
   replace hE:=hE.trans hx120
   replace ha:=ha119
   refine RL.nil ?_
   refine⟨[],trivial,?_⟩
   obtain⟨q1,q2⟩:=sym_parts (u:=(s-a)) (v:=((a+c)/2-s)) (M1:=M1) (M2:=M121) hsL hsR oM oM (by rcases hlo2 with h|h;exact oM;exact .inr (.inr (by rw[show s-a-1=s-1-a by omega];exact h))) (by rcases hhi2 with h|h;exact oM;exact .inr (.inr (by rw[show s=r by omega,show(a+c)/2-r-1=(a+c)/2-1-r by omega];exact h))) hM1.1 hM1.2 hs122 ht123
   exact⟨rfl,⟨M1++M121,by simpa[List.append_assoc] using ha,q1,q2⟩,hE⟩
  refine wskip ?_
  refine⟨[],trivial,?_⟩
  obtain⟨q1,q2⟩:=sym_parts (u:=(s-a)) (v:=((a+c)/2-s)) (M1:=M1) (M2:=(L.drop (s-a)++R.drop ((a+c)/2-s))) hsL hsR oM oM (by rcases hlo2 with h|h;exact oM;exact .inr (.inr (by rw[show s-a-1=s-1-a by omega];exact h))) (by rcases hhi2 with h|h;exact oM;exact .inr (.inr (by rw[show s=r by omega,show(a+c)/2-r-1=(a+c)/2-1-r by omega];exact h))) hM1.1 hM1.2 (no_mrg' hsL hsR oM) (StE.refl _ _)
  exact⟨rfl,⟨M1++(L.drop (s-a)++R.drop ((a+c)/2-s)),by simpa[List.append_assoc] using ha,q1,q2⟩,hE⟩
 refine RL.gno rfl rfl (bool_eq hb116) rfl dC ?_
 refine RL.gno rfl rfl (bool_eq hb116) rfl dC ?_
 refine RL.gno rfl rfl (bool_eq hb116) rfl dC ?_
 refine rV (r_pick_f (v:=(.bool false)) (bool_eq hb116) rfl) (RL.nil ?_)
 refine wcond_f rfl ?_
 refine wskip ?_
 refine⟨[],trivial,?_⟩
 obtain⟨q1,q2⟩:=sym_parts (u:=(s-a)) (v:=((a+c)/2-s)) (M1:=M1) (M2:=(L.drop (s-a)++R.drop ((a+c)/2-s))) hsL hsR oM oM (by rcases hlo2 with h|h;exact oM;exact .inr (.inr (by rw[show s-a-1=s-1-a by omega];exact h))) (by rcases hhi2 with h|h;exact oM;exact .inr (.inr (by rw[show s=r by omega,show(a+c)/2-r-1=(a+c)/2-1-r by omega];exact h))) hM1.1 hM1.2 (no_mrg' hsL hsR oM) (StE.refl _ _)
 exact⟨rfl,⟨M1++(L.drop (s-a)++R.drop ((a+c)/2-s)),by simpa[List.append_assoc] using ha,q1,q2⟩,hE⟩
theorem symMerge_all {kc:Nat} {cl:List Value} {key:Int→Int} {ok:Int→Prop} {b o n cap:Nat} {w0:World} (hent:Ent Tryz.prog kc) (hcmp:CmpOk Tryz.prog kc cl (gI .i64) key ok b w0) (hsz:n≤4611686018427387903) (N:Nat):SymOk kc cl key ok b o n cap w0 N:=by
 induction N with
 |zero=>intro a m c LA L R LB w ha h1 h2 h3 h4 h5 _ _ _ _ hN;omega
 |succ N ih=>intro a m c LA L R LB w ha h1 h2 h3 h4 h5 hsL hsR hok hw0 hN;exact symMerge_step hent hcmp hw0 ih ha hsz h1 h2 h3 h4 h5 hsL hsR hok hN
end Go.Proofs.YtandhgfmfpmemaaGreat.W
namespace Go.Proofs.YtandhgfmfpmemaaGreat.W
open Go.Vg Go.RowKit _root_.Go.Proofs.Tryz
set_option linter.unusedVariables false
open Go.Vm
set_option maxHeartbeats 1000000 in
theorem stable_int {b o n cap:Nat} {xs:List Int} {w:World} {kc:Nat} {cl:List Value} {key:Int→Int} {ok:Int→Prop} {w0:World} (hent:Ent Tryz.prog kc) (hcmp:CmpOk Tryz.prog kc cl (gI .i64) key ok b w0) (hw0:Exc b w0 w) (ha:Ar (gI .i64) w b 3 o xs n) (hsz:n≤4611686018427387903) (hok:∀x∈xs,ok x):
 Calls Tryz.prog 99 #[(.slice (some ⟨b,o,none⟩) (n) (cap)),(iv n),(.func (.func kc) #[] cl.toArray)] w fun e w'=>∃v,e= .returned v∧v= .tuple #[]∧(∃l,Ar (gI .i64) w' b 3 o l n∧Srt key l∧StE key xs l)∧Exc b w w':=by
 have hE:Exc b w w:=Exc.of_ext (Ext.refl _)
 have hn:xs.length=n:=ha.2
 refine calls_of (n:=63) (rs:=[]) func99 rfl rfl rfl bL ?_
 refine wset fun F0 hF0=>?_
 refine wsr (aS (v:=(iv 20)) rfl (RL.nil (wsr (mV (v:=(iv 20)) rfl (aS (v:=(iv 0)) rfl (aS (v:=(iv 20)) rfl (RL.nil (wseq ?_))))))))
 refine wblock ?_
 refine wset fun F1 hF2=>?_
 refine wloop (σ:=Nat×List Int) (fun(s:Nat×List Int) fl wl=>match s with|(e,D)=>Off (rg 7 2 (rg 11 12 [])) F1 fl∧fl 7=(iv e)∧fl 8=(iv (e+20:Nat))∧(D.length=e)∧(∃k,e=k*20)∧(e≤n)∧(StE key (xs.take e) D)∧(Blk key 20 D)∧(Ar (gI .i64) wl b 3 o (D++xs.drop e) n)∧(Exc b w wl)) (fun(s:Nat×List Int)=>match s with|(e,D)=>n-e) (0,[]) ?_ ?_
 ·exact⟨Off.refl _ _,(hF2 7).trans (rfl),(hF2 8).trans (rfl),rfl,⟨0,rfl⟩,Nat.zero_le _,(by simp;exact StE.refl _ _),Blk.nil _ _,(by simpa using ha),hE⟩
 clear ha hE
 rintro⟨e,D⟩ f3 w4 ⟨hoff5,hs6,hs7,hDl,hd,hen,hDs,hDb,ha,hE⟩
 refine wseq (wsr (mV hs7 (mV (v:=(iv n)) ((hoff5 1 rfl).trans ((hF2 1).trans (hF0 1))) (rV (r_leq (k:=.i64) (a:=((e+20:Nat):Int)) (b:=(n:Int)) rfl rfl) (RL.nil ?_)))))
 refine wcD (p:=((e+20:Nat):Int)≤(n:Int)) rfl (fun hb8 hb8p=>?_) (fun hb8 hb8p=>?_)
 ·refine wskip ?_
  refine wblock ?_
  refine wsr (mV (v:=(.slice (some ⟨b,o,none⟩) (n) (cap))) ((hoff5 0 rfl).trans ((hF2 0).trans (hF0 0))) (mV hs6 (mV hs7 (mV (v:=(.func (.func kc) #[] cl.toArray)) ((hoff5 2 rfl).trans ((hF2 2).trans (hF0 2))) ?_))))
  refine RL.call rfl rfl dC (r_call (vl:=[(.slice (some ⟨b,o,none⟩) (n) (cap)),(iv e),(iv (e+20:Nat)),(.func (.func kc) #[] cl.toArray)]) ent128 rfl) (insertion_int (LA:=D) (LS:=(xs.drop e).take 20) (LB:=xs.drop (e+20)) hent hcmp (hw0.trans hE) ha hsz (seg_split _ _ _ _) oM (by simp;omega) (fun x hx=>hok x (List.mem_of_mem_drop (List.mem_of_mem_take hx)))) ?_
  rintro _ w9 ⟨rfl,⟨M12,ha10,hs13,ht14⟩,hx11⟩
  replace hE:=hE.trans hx11
  replace ha:=ha10
  refine RL.nil (wsr (mV hs7 (aS (v:=(iv (e+20:Nat))) rfl (RL.nil (wregion (mV hs7 (mV (v:=(iv 20)) ((hoff5 6 rfl).trans (hF2 6)) (rV (r_add (k:=.i64) (a:=((e+20:Nat):Int)) (b:=20) (c:=((e+20+20:Nat):Int)) rfl rfl ((wi64 oM).trans oM)) (aS (v:=(iv (e+20+20:Nat))) rfl (RL.nil ?_))))))))))
  refine⟨(e+20,D++M12),⟨?_,?_,?_,?_,?_,?_,?_,?_,?_,?_⟩,?_⟩
  ·exact(by repeat (first|exact hoff5|refine Off.st ?_ dC _))
  ·first|rfl|exact int_eq oM|exact bool_eq (by simp)
  ·first|rfl|exact int_eq oM|exact bool_eq (by simp)
  ·have:=ht14.length;simp at*;omega
  ·exact next_mul hd
  ·omega
  ·rw[take_seg];exact StE.append hDs ht14
  ·exact hDb.snoc (by rw[hDl];exact hd) hs13 (by have:=ht14.length;simp at this;omega)
  ·exact ha
  ·exact hE
  (try dsimp only)
  omega
 refine wexit ?_
 refine wsr (mV (v:=(.slice (some ⟨b,o,none⟩) (n) (cap))) ((hoff5 0 rfl).trans ((hF2 0).trans (hF0 0))) (mV hs6 (mV (v:=(iv n)) ((hoff5 1 rfl).trans ((hF2 1).trans (hF0 1))) (mV (v:=(.func (.func kc) #[] cl.toArray)) ((hoff5 2 rfl).trans ((hF2 2).trans (hF0 2))) ?_))))
 refine RL.call rfl rfl dC (r_call (vl:=[(.slice (some ⟨b,o,none⟩) (n) (cap)),(iv e),(iv n),(.func (.func kc) #[] cl.toArray)]) ent128 rfl) (insertion_int (LA:=D) (LS:=xs.drop e) (LB:=[]) hent hcmp (hw0.trans hE) ha hsz (by simp) oM (by simp;omega) (fun x hx=>hok x (List.mem_of_mem_drop hx))) ?_
 rintro _ w15 ⟨rfl,⟨M18,ha16,hs19,ht20⟩,hx17⟩
 replace hE:=hE.trans hx17
 replace ha:=ha16
 refine RL.nil ?_
 refine wblock ?_
 refine wset fun F21 hF22=>?_
 refine wloop (σ:=Nat×List Int) (fun(s:Nat×List Int) fl wl=>match s with|(z,l)=>Off (rg 6 4 (rg 28 35 [])) F21 fl∧fl 6=(iv z)∧(0<z)∧(StE key xs l)∧(Blk key z l)∧(Ar (gI .i64) wl b 3 o l n)∧(Exc b w wl)) (fun(s:Nat×List Int)=>match s with|(z,l)=>n-z) (20,D++M18) ?_ ?_
 ·exact⟨Off.refl _ _,(hF22 6).trans ((((hoff5 6 rfl).trans (hF2 6))).trans rfl),by decide,(by have e1:=StE.append hDs ht20;rw[List.take_append_drop] at e1;exact e1),(hDb.snoc (by rw[hDl];exact hd) hs19 (by have:=ht20.length;simp at this;omega)),(by simpa using ha),hE⟩
 clear ha hE
 rintro⟨z,l⟩ f23 w24 ⟨hoff25,hs26,hz,hls,hlb,ha,hE⟩
 have hll:l.length=n:=by have:=hls.length;omega
 have hokl:∀x∈l,ok x:=fun x hx=>hok x (hls.symm.mem hx)
 refine wseq (wsr (mV hs26 (mV (v:=(iv n)) ((hoff25 1 rfl).trans ((hF22 1).trans ((hoff5 1 rfl).trans ((hF2 1).trans (hF0 1))))) (rV (r_lss (k:=.i64) (a:=(z:Int)) (b:=(n:Int)) rfl rfl) (RL.nil ?_)))))
 refine wcD (p:=(z:Int)<(n:Int)) rfl (fun hb27 hb27p=>?_) (fun hb27 hb27p=>?_)
 ·refine wskip ?_
  refine wblock ?_
  refine wsr (mV hs26 (rV (r_mul (k:=.i64) (a:=2) (b:=(z:Int)) (c:=((2*z:Nat):Int)) rfl rfl ((wi64 oM).trans oM)) (aS (v:=(iv 0)) rfl (aS (v:=(iv (2*z:Nat))) rfl (RL.nil (wseq ?_))))))
  refine wblock ?_
  refine wset fun F28 hF29=>?_
  refine wloop (σ:=Nat×List Int) (fun(s:Nat×List Int) fl wl=>match s with|(e,D)=>Off (rg 7 2 (rg 33 16 [])) F28 fl∧fl 7=(iv e)∧fl 8=(iv (e+2*z:Nat))∧(D.length=e)∧(∃k,e=k*(2*z))∧(e≤n)∧(StE key (l.take e) D)∧(Blk key (2*z) D)∧(Ar (gI .i64) wl b 3 o (D++l.drop e) n)∧(Exc b w wl)) (fun(s:Nat×List Int)=>match s with|(e,D)=>n-e) (0,[]) ?_ ?_
  ·exact⟨Off.refl _ _,(hF29 7).trans (rfl),(hF29 8).trans ((int_eq oM)),rfl,⟨0,by simp⟩,Nat.zero_le _,(by simp;exact StE.refl _ _),Blk.nil _ _,(by simpa using ha),hE⟩
  clear ha hE
  rintro⟨e,D⟩ f30 w31 ⟨hoff32,hs33,hs34,hDl,hd,hen,hDs,hDb,ha,hE⟩
  refine wseq (wsr (mV hs34 (mV (v:=(iv n)) ((hoff32 1 rfl).trans ((hF29 1).trans ((hoff25 1 rfl).trans ((hF22 1).trans ((hoff5 1 rfl).trans ((hF2 1).trans (hF0 1))))))) (rV (r_leq (k:=.i64) (a:=((e+2*z:Nat):Int)) (b:=(n:Int)) rfl rfl) (RL.nil ?_)))))
  refine wcD (p:=((e+2*z:Nat):Int)≤(n:Int)) rfl (fun hb35 hb35p=>?_) (fun hb35 hb35p=>?_)
  ·refine wskip ?_
   refine wblock ?_
   refine wsr (mV (v:=(.slice (some ⟨b,o,none⟩) (n) (cap))) ((hoff32 0 rfl).trans ((hF29 0).trans ((hoff25 0 rfl).trans ((hF22 0).trans ((hoff5 0 rfl).trans ((hF2 0).trans (hF0 0))))))) (mV hs33 (mV hs33 (mV (v:=(iv z)) ((hoff32 6 rfl).trans ((hF29 6).trans hs26)) (rV (r_add (k:=.i64) (a:=(e:Int)) (b:=(z:Int)) (c:=((e+z:Nat):Int)) rfl rfl ((wi64 oM).trans oM)) (mV hs34 (mV (v:=(.func (.func kc) #[] cl.toArray)) ((hoff32 2 rfl).trans ((hF29 2).trans ((hoff25 2 rfl).trans ((hF22 2).trans ((hoff5 2 rfl).trans ((hF2 2).trans (hF0 2))))))) ?_)))))))
   refine RL.call rfl rfl dC (r_call (vl:=[(.slice (some ⟨b,o,none⟩) (n) (cap)),(iv e),(iv (e+z:Nat)),(iv (e+2*z:Nat)),(.func (.func kc) #[] cl.toArray)]) ent129 rfl) (symMerge_all hent hcmp hsz _ _ _ _ D ((l.drop e).take z) ((l.drop (e+z)).take z) (l.drop (e+2*z)) _ (seg_split2 D l e z▸ha) oM (by simp;omega) (by simp;omega) (by simp;omega) (by simp;omega) (hlb.at (twice hd)) (hlb.at (next_mul (twice hd))) (fun x hx=>hokl x ((List.mem_append.1 hx).elim (fun h=>List.mem_of_mem_drop (List.mem_of_mem_take h)) (fun h=>List.mem_of_mem_drop (List.mem_of_mem_take h)))) (hw0.trans hE) (Nat.le_refl _)) ?_
   rintro _ w36 ⟨rfl,⟨M39,ha37,hs40,ht41⟩,hx38⟩
   replace hE:=hE.trans hx38
   replace ha:=ha37
   refine RL.nil (wsr (mV hs34 (aS (v:=(iv (e+2*z:Nat))) rfl (RL.nil (wregion (mV hs34 (mV (v:=(iv z)) ((hoff32 6 rfl).trans ((hF29 6).trans hs26)) (rV (r_mul (k:=.i64) (a:=2) (b:=(z:Int)) (c:=((2*z:Nat):Int)) rfl rfl ((wi64 oM).trans oM)) (rV (r_add (k:=.i64) (a:=((e+2*z:Nat):Int)) (b:=((2*z:Nat):Int)) (c:=((e+2*z+2*z:Nat):Int)) rfl rfl ((wi64 oM).trans oM)) (aS (v:=(iv (e+2*z+2*z:Nat))) rfl (RL.nil ?_)))))))))))
   refine⟨(e+2*z,D++M39),⟨?_,?_,?_,?_,?_,?_,?_,?_,?_,?_⟩,?_⟩
   ·exact(by repeat (first|exact hoff32|refine Off.st ?_ dC _|refine Off.via hoff25 dC ?_|refine Off.eq hF22 ?_|refine Off.via hoff5 dC ?_|refine Off.eq hF2 ?_))
   ·first|rfl|exact int_eq oM|exact bool_eq (by simp)
   ·first|rfl|exact int_eq oM|exact bool_eq (by simp)
   ·have:=ht41.length;simp at*;omega
   ·exact next_mul hd
   ·omega
   ·rw[show e+2*z=e+z+z by omega,take_seg,take_seg,List.append_assoc];exact StE.append hDs ht41
   ·exact hDb.snoc (by rw[hDl];exact hd) hs40 (by have:=ht41.length;simp at this;omega)
   ·exact ha
   ·exact hE
   (try dsimp only)
   omega
  refine wexit ?_
  refine wset fun F42 hF43=>?_
  refine wcut (fun fl wl=>∃l2:List Int,Off (9::(rg 49 12 [])) F42 fl∧(StE key l l2∧Blk key (2*z) l2)∧(Ar (gI .i64) wl b 3 o l2 n)∧(Exc b w wl)) ?_ ?_
  ·have hoff44:=Off.refl (9::(rg 49 12 [])) F42
   refine wsr (mV (v:=(iv e)) ((hF43 7).trans hs33) (mV (v:=(iv z)) ((hF43 6).trans ((hoff32 6 rfl).trans ((hF29 6).trans hs26))) (rV (r_add (k:=.i64) (a:=(e:Int)) (b:=(z:Int)) (c:=((e+z:Nat):Int)) rfl rfl ((wi64 oM).trans oM)) (aS (v:=(iv (e+z:Nat))) rfl (RL.nil (wsr (mV (v:=(iv (e+z:Nat))) rfl (mV (v:=(iv n)) ((hF43 1).trans ((hoff32 1 rfl).trans ((hF29 1).trans ((hoff25 1 rfl).trans ((hF22 1).trans ((hoff5 1 rfl).trans ((hF2 1).trans (hF0 1)))))))) (rV (r_lss (k:=.i64) (a:=((e+z:Nat):Int)) (b:=(n:Int)) rfl rfl) (RL.nil ?_))))))))))
   refine wcD (p:=((e+z:Nat):Int)<(n:Int)) rfl (fun hb45 hb45p=>?_) (fun hb45 hb45p=>?_)
   ·refine wregion ?_
    refine mV (v:=(.slice (some ⟨b,o,none⟩) (n) (cap))) ((hF43 0).trans ((hoff32 0 rfl).trans ((hF29 0).trans ((hoff25 0 rfl).trans ((hF22 0).trans ((hoff5 0 rfl).trans ((hF2 0).trans (hF0 0)))))))) (mV (v:=(iv e)) ((hF43 7).trans hs33) (mV (v:=(iv (e+z:Nat))) rfl (mV (v:=(iv n)) ((hF43 1).trans ((hoff32 1 rfl).trans ((hF29 1).trans ((hoff25 1 rfl).trans ((hF22 1).trans ((hoff5 1 rfl).trans ((hF2 1).trans (hF0 1)))))))) (mV (v:=(.func (.func kc) #[] cl.toArray)) ((hF43 2).trans ((hoff32 2 rfl).trans ((hF29 2).trans ((hoff25 2 rfl).trans ((hF22 2).trans ((hoff5 2 rfl).trans ((hF2 2).trans (hF0 2)))))))) ?_))))
    refine RL.call rfl rfl dC (r_call (vl:=[(.slice (some ⟨b,o,none⟩) (n) (cap)),(iv e),(iv (e+z:Nat)),(iv n),(.func (.func kc) #[] cl.toArray)]) ent129 rfl) (symMerge_all hent hcmp hsz _ _ _ _ D ((l.drop e).take z) (l.drop (e+z)) ([]) _ ((show D++l.drop e=D++(l.drop e).take z++l.drop (e+z)++[] by rw[List.append_nil];exact seg_split _ _ _ _)▸ha) oM (by simp;omega) (by simp;omega) (by simp;omega) (by simp;omega) (hlb.at (twice hd)) (hlb.rest (next_mul (twice hd)) oM) (fun x hx=>hokl x ((List.mem_append.1 hx).elim (fun h=>List.mem_of_mem_drop (List.mem_of_mem_take h)) (fun h=>List.mem_of_mem_drop (h)))) (hw0.trans hE) (Nat.le_refl _)) ?_
    rintro _ w46 ⟨rfl,⟨M49,ha47,hs50,ht51⟩,hx48⟩
    replace hE:=hE.trans hx48
    replace ha:=ha47
    refine RL.nil ?_
    refine⟨D++M49,?_,?_,?_,?_⟩
    ·exact(by repeat (first|exact hoff44|refine Off.st ?_ dC _|refine Off.via hoff32 dC ?_|refine Off.eq hF29 ?_|refine Off.via hoff25 dC ?_|refine Off.eq hF22 ?_|refine Off.via hoff5 dC ?_|refine Off.eq hF2 ?_))
    ·refine⟨?_,hDb.snoc (by rw[hDl];exact hd) hs50 (by have:=ht51.length;simp at this;omega)⟩
     have e1:l=l.take e++((l.drop e).take z++l.drop (e+z)):=by rw[←List.drop_drop,List.take_append_drop,List.take_append_drop]
     rw[e1];exact StE.append hDs ht51
    ·simpa using ha
    exact hE
   refine wskip ?_
   refine⟨D++l.drop e,?_,?_,?_,?_⟩
   ·exact(by repeat (first|exact hoff44|refine Off.st ?_ dC _|refine Off.via hoff32 dC ?_|refine Off.eq hF29 ?_|refine Off.via hoff25 dC ?_|refine Off.eq hF22 ?_|refine Off.via hoff5 dC ?_|refine Off.eq hF2 ?_))
   ·refine⟨?_,hDb.snoc (by rw[hDl];exact hd) (hlb.rest (twice hd) oM) (by simp;omega)⟩
    have e1:=StE.append hDs (StE.refl key (l.drop e))
    rw[List.take_append_drop] at e1;exact e1
   ·simpa using ha
   exact hE
  clear ha hE
  rintro f52 w53 ⟨l2,hoff54,hl2,ha,hE⟩
  refine wregion (mV (v:=(iv z)) ((hoff54 6 rfl).trans ((hF43 6).trans ((hoff32 6 rfl).trans ((hF29 6).trans hs26)))) (rV (r_mul (k:=.i64) (a:=(z:Int)) (b:=2) (c:=((2*z:Nat):Int)) rfl rfl ((wi64 oM).trans oM)) (aS (v:=(iv (2*z:Nat))) rfl (RL.nil ?_))))
  refine⟨(2*z,l2),⟨?_,?_,?_,?_,?_,?_,?_⟩,?_⟩
  ·exact(by repeat (first|exact hoff25|refine Off.st ?_ dC _|refine Off.via hoff54 dC ?_|refine Off.eq hF43 ?_|refine Off.via hoff32 dC ?_|refine Off.eq hF29 ?_|refine Off.via hoff5 dC ?_|refine Off.eq hF2 ?_))
  ·first|rfl|exact int_eq oM|exact bool_eq (by simp)
  ·omega
  ·exact hls.trans hl2.1
  ·exact hl2.2
  ·exact ha
  ·exact hE
  (try dsimp only)
  omega
 refine wexit ?_
 refine⟨[],trivial,?_⟩
 have hl0:=hlb.all oM
 exact⟨rfl,⟨l,ha,hl0,hls⟩,hE⟩
set_option maxHeartbeats 1000000 in
theorem sortStable_int {b o n cap:Nat} {xs:List Int} {w:World} {kc:Nat} {cl:List Value} {key:Int→Int} {ok:Int→Prop} {w0:World} (hent:Ent Tryz.prog kc) (hcmp:CmpOk Tryz.prog kc cl (gI .i64) key ok b w0) (hw0:Exc b w0 w) (ha:Ar (gI .i64) w b 3 o xs n) (hsz:n≤4611686018427387903) (hok:∀x∈xs,ok x):
 Calls Tryz.prog 51 #[(.slice (some ⟨b,o,none⟩) (n) (cap)),(.func (.func kc) #[] cl.toArray)] w fun e w'=>∃v,e= .returned v∧v= .tuple #[]∧(∃l,Ar (gI .i64) w' b 3 o l n∧Srt key l∧StE key xs l)∧Exc b w w':=by
 have hE:Exc b w w:=Exc.of_ext (Ext.refl _)
 refine calls_of (n:=9) (rs:=[]) func51 rfl rfl rfl bL ?_
 refine wset fun F0 hF0=>?_
 refine wregion (mV (v:=(.slice (some ⟨b,o,none⟩) (n) (cap))) (hF0 0) (mV (v:=(.slice (some ⟨b,o,none⟩) (n) (cap))) (hF0 0) (rV (r_len uT22 rfl) (mV (v:=(.func (.func kc) #[] cl.toArray)) (hF0 1) ?_))))
 refine RL.call rfl rfl dC (r_call (vl:=[(.slice (some ⟨b,o,none⟩) (n) (cap)),(iv n),(.func (.func kc) #[] cl.toArray)]) ent99 rfl) (stable_int hent hcmp hw0 ha hsz hok) ?_
 rintro _ w1 ⟨rfl,hl,hx⟩
 refine RL.nil ?_
 refine⟨[],trivial,?_⟩
 exact⟨rfl,hl,hx⟩
end Go.Proofs.YtandhgfmfpmemaaGreat.W
namespace Go.Proofs.YtandhgfmfpmemaaGreat.W
open Go.Vg Go.RowKit _root_.Go.Proofs.Tryz
set_option linter.unusedVariables false
open Go.Vm
abbrev loadC:Int×Int→List Value:=fun p=>[.int .i64 p.1,.int .i64 p.2]
set_option maxHeartbeats 1000000 in
theorem clone_int {D:Nat→TypeId→Prop} {vs:Value} {G:List Int} {w:World} (hs:Sg (gI .i64) D w vs G) (hG:0<G.length) (hGl:G.length≤1099511627776):
 Calls Tryz.prog 42 #[vs] w fun e w'=>∃v,e= .returned v∧∃b cap,v= .slice (some ⟨b,0,none⟩) G.length cap∧w.heap.size≤b∧G.length≤cap∧cap≤9223372036854775807∧Ar (gI .i64) w' b 3 0 G G.length∧Ext w w':=by
 have hE:Below w.heap.size w w:=Below.refl _ _
 refine calls_of (n:=8) (rs:=[.tmp 2]) func42 rfl rfl rfl bL ?_
 refine wset fun F0 hF0=>?_
 refine wsr (aS (v:=(.slice none (0) (0))) rfl (RL.nil (wseq (wsr (mV (v:=vs) (hF0 0) ?_)))))
 obtain⟨A1,c2,hv3,hc4,hc5⟩:=hs.len
 refine rV (r_eqlnil uT22 hv3 rfl) (RL.nil ?_)
 refine wcond (b:=A1.isNone) rfl (fun hb6=>?_) (fun hb6=>?_)
 ·have hb6p:=hb6
  exact absurd hb6 (by rw[hs.some_ hG (by assumption)];simp)
 have hb6p:=hb6
 refine wskip ?_
 refine wsr ?_
 refine rU (h_lit (vl:=[]) (cs:=[]) uT22 ty3 rfl dC (by first|(simp[Instr.fill,Value.cells];done)|rfl|kernel_rfl)) ?_
 rintro _ w7 ⟨b8,rfl,hs11,hb10,he9⟩
 have he9z:=he9.size
 replace hs:=hs.tr (Sm.ext he9)
 replace hE:=Below.ext hE oM he9
 have hb10l:=hb10.lt
 refine mV (v:=vs) (hF0 0) ?_
 have ho13:=Ow.made (lo:=w.heap.size) (size:=1) (n:=0) hb10 oM rfl (by simp[maxLen])
 refine rU (h_append (v1:=(.slice (some ⟨b8,0,none⟩) (0) (0))) (v2:=vs) (n:=0) (m:=G.length) (l:=[]) (news:=(G.map (gI .i64))) uT22 ty3 rfl dC rfl rfl ho13 hs (by intro u hu;obtain⟨z,-,rfl⟩:=List.mem_map.1 hu;rfl) (by simp only[maxLen];omega) oM oM) ?_
 rintro v14 w12 ⟨ho15,hg16⟩
 have hg16z:=hg16.size
 replace hE:=ho13.below hg16 hE oM oM
 refine aS (v:=v14) rfl (RL.nil ?_)
 refine wret ?_
 refine⟨[v14],⟨rfl,trivial⟩,?_⟩
 obtain⟨b,cap,e1,e2,e3,e4,e5⟩:=Ow.ar (g:=gI .i64) (xs:=G) (by simpa using ho15) (by simpa using hG)
 exact⟨b,cap,by simpa[retv] using e1,by omega,by simpa using e3,e4,by simpa using e5,hE⟩
set_option maxHeartbeats 1000000 in
theorem curtail1 {D:Nat→TypeId→Prop} {bl:Nat} {vl:Value} {ls:List (Int×Int)} {w:World} {x y:Int} (hb:Bk w bl 53 [vl]) (hl:Ss loadC 2 D w vl ls) (hx:0≤x∧x<ls.length) (hy:0≤y∧y<ls.length):
 Calls Tryz.prog 52 #[(iv x),(iv y),(.pointer (some ⟨bl,0,none⟩))] w fun e w'=>∃v,e= .returned v∧v= .int .i64 (cmpI (ls.getD x.toNat default).2 (ls.getD y.toNat default).2)∧Ext w w':=by
 have hE:Below w.heap.size w w:=Below.refl _ _
 refine calls_of (n:=17) (rs:=[.tmp 5]) func52 rfl rfl rfl bL ?_
 refine wset fun F0 hF0=>?_
 refine wsr (aS (v:=(iv 0)) rfl (RL.nil (wseq ?_)))
 refine wdraw mixed fun w1 he2=>?_
 have he2z:=he2.size
 replace hb:=hb.ext he2
 replace hl:=hl.tr (Sm.ext he2)
 replace hE:=Below.ext hE oM he2
 have hc3:=hb.cell (j:=0) (u:=vl) rfl
 refine RA.rd 0 rfl kR rfl rfl rfl dC (Ext.refl _) (fun u hu=>r_load uT53 ag53 (hF0 2) (cell_ext hu hc3)) ?_
 refine ra 1 rfl (fun _=>r_move_as (v:=(iv x)) (hF0 0)) ?_
 obtain⟨b4,o5,c6,hv7,hc8⟩:=hl.ix (i:=x) (x.toNat) oM oM
 refine ra 2 rfl (fun _=>r_indexAddr (i:=x) uT53 ty61 hv7 rfl oM oM) ?_
 refine ra 3 rfl (fun _=>r_fieldAddr uT61 rfl ty3 rfl) ?_
 refine RA.rd 4 rfl kR rfl rfl rfl dC (Ext.refl _) (fun u hu=>r_load (v:=(iv ((ls.getD (x.toNat) default).2))) uT3 ag3 rfl (cell_ext hu (hc8 1 _ rfl))) ?_
 have hc9:=hb.cell (j:=0) (u:=vl) rfl
 refine RA.rd 5 rfl kR rfl rfl rfl dC (Ext.refl _) (fun u hu=>r_load uT53 ag53 (hF0 2) (cell_ext hu hc9)) ?_
 refine ra 6 rfl (fun _=>r_move_as (v:=(iv y)) (hF0 1)) ?_
 obtain⟨b10,o11,c12,hv13,hc14⟩:=hl.ix (i:=y) (y.toNat) oM oM
 refine ra 7 rfl (fun _=>r_indexAddr (i:=y) uT53 ty61 hv13 rfl oM oM) ?_
 refine ra 8 rfl (fun _=>r_fieldAddr uT61 rfl ty3 rfl) ?_
 refine RA.rd 9 rfl kR rfl rfl rfl dC (Ext.refl _) (fun u hu=>r_load (v:=(iv ((ls.getD (y.toNat) default).2))) uT3 ag3 rfl (cell_ext hu (hc14 1 _ rfl))) ?_
 refine RA.all [10] kR rfl ?_
 refine RS.call rfl rfl rfl dC (r_call (vl:=[(iv ((ls.getD (x.toNat) default).2)),(iv ((ls.getD (y.toNat) default).2))]) ent53 rfl) (cmp_int _) ?_ RS.nil
 rintro _ _ ⟨rfl,rfl⟩
 refine rm (Ext.refl _) ?_
 refine ra 11 rfl (fun _=>r_assign_as (v:=(iv (cmpI ((ls.getD (x.toNat) default).2) ((ls.getD (y.toNat) default).2)))) rfl) ?_
 refine RA.done kR ?_
 refine wret ?_
 refine⟨[(iv (cmpI ((ls.getD (x.toNat) default).2) ((ls.getD (y.toNat) default).2)))],⟨rfl,trivial⟩,?_⟩
 exact⟨rfl,hE⟩
set_option maxHeartbeats 1000000 in
theorem divide1 {D:Nat→TypeId→Prop} {b5 b7 b8:Nat} {vl:Value} {ls:List (Int×Int)} {part amount:Int} {w:World} (h5:Bk w b5 53 [vl]) (h7:Bk w b7 3 [.int .i64 part]) (h8:Bk w b8 3 [.int .i64 amount]) (hl:Ss loadC 2 D w vl ls) (hp:0≤part∧part≤33554432) (ham:0<amount∧amount≤33554432) (hls:∀p∈ls,0≤p.1∧p.1≤1048576) {x:Int} (hx:0≤x∧x<ls.length):
 Calls Tryz.prog 101 #[(iv x),(.pointer (some ⟨b7,0,none⟩)),(.pointer (some ⟨b5,0,none⟩)),(.pointer (some ⟨b8,0,none⟩))] w fun e w'=>∃v,e= .returned v∧v= .int .i64 (remF ls part amount x)∧Ext w w':=by
 have hE:Below w.heap.size w w:=Below.refl _ _
 obtain⟨q,hq⟩:∃q,q=part*(ls.getD x.toNat default).1:=⟨_,rfl⟩
 have hqr:0≤q∧q≤35184372088832:=by rw[hq];exact mul_bound hp (hls _ (Vm.getD_mem _ _ oM))
 refine calls_of (n:=15) (rs:=[.tmp 5]) func101 rfl rfl rfl bL ?_
 refine wset fun F0 hF0=>?_
 refine wsr (aS (v:=(iv 0)) rfl (RL.nil (wseq ?_)))
 refine wdraw mixed fun w1 he2=>?_
 have he2z:=he2.size
 replace h5:=h5.ext he2
 replace h7:=h7.ext he2
 replace h8:=h8.ext he2
 replace hl:=hl.tr (Sm.ext he2)
 replace hE:=Below.ext hE oM he2
 have hc3:=h7.cell (j:=0) (u:=(iv part)) rfl
 refine RA.rd 0 rfl kR rfl rfl rfl dC (Ext.refl _) (fun u hu=>r_load uT3 ag3 (hF0 1) (cell_ext hu hc3)) ?_
 have hc4:=h5.cell (j:=0) (u:=vl) rfl
 refine RA.rd 1 rfl kR rfl rfl rfl dC (Ext.refl _) (fun u hu=>r_load uT53 ag53 (hF0 2) (cell_ext hu hc4)) ?_
 refine ra 2 rfl (fun _=>r_move_as (v:=(iv x)) (hF0 0)) ?_
 obtain⟨b5,o6,c7,hv8,hc9⟩:=hl.ix (i:=x) (x.toNat) oM oM
 refine ra 3 rfl (fun _=>r_indexAddr (i:=x) uT53 ty61 hv8 rfl oM oM) ?_
 refine ra 4 rfl (fun _=>r_fieldAddr uT61 rfl ty3 rfl) ?_
 refine RA.rd 5 rfl kR rfl rfl rfl dC (Ext.refl _) (fun u hu=>r_load (v:=(iv ((ls.getD (x.toNat) default).1))) uT3 ag3 rfl (cell_ext hu (hc9 0 _ rfl))) ?_
 refine ra 6 rfl (fun _=>r_mul (k:=.i64) (a:=part) (b:=(ls.getD (x.toNat) default).1) (c:=q) rfl rfl (by rw[←hq];exact wi64 oM)) ?_
 have hc10:=h8.cell (j:=0) (u:=(iv amount)) rfl
 refine RA.rd 7 rfl kR rfl rfl rfl dC (Ext.refl _) (fun u hu=>r_load uT3 ag3 (hF0 3) (cell_ext hu hc10)) ?_
 refine ra 8 rfl (fun _=>r_rem (k:=.i64) (a:=q) (b:=amount) (c:=q%amount) rfl rfl oM (tmod_emod hqr.1)) ?_
 refine ra 9 rfl (fun _=>r_assign_as (v:=(iv (q%amount))) rfl) ?_
 refine RA.done kR ?_
 refine wret ?_
 refine⟨[(iv (q%amount))],⟨rfl,trivial⟩,?_⟩
 exact⟨int_eq (by rw[hq];rfl),hE⟩
set_option maxHeartbeats 1000000 in
theorem divide2 {D:Nat→TypeId→Prop} {b5 b7 b8:Nat} {vl:Value} {ls:List (Int×Int)} {part amount:Int} {w:World} (h5:Bk w b5 53 [vl]) (h7:Bk w b7 3 [.int .i64 part]) (h8:Bk w b8 3 [.int .i64 amount]) (hl:Ss loadC 2 D w vl ls) (hp:0≤part∧part≤33554432) (ham:0<amount∧amount≤33554432) (hls:∀p∈ls,0≤p.1∧p.1≤1048576) {b10:Nat} (h10:Bk w b10 149 [.func (.func 101) #[] #[.pointer (some ⟨b7,0,none⟩),.pointer (some ⟨b5,0,none⟩),.pointer (some ⟨b8,0,none⟩)]]) {x y:Int} (hx:0≤x∧x<ls.length) (hy:0≤y∧y<ls.length):
 Calls Tryz.prog 102 #[(iv x),(iv y),(.pointer (some ⟨b10,0,none⟩))] w fun e w'=>∃v,e= .returned v∧v= .int .i64 (cmpI (-(remF ls part amount x)) (-(remF ls part amount y)))∧Ext w w':=by
 have hE:Below w.heap.size w w:=Below.refl _ _
 refine calls_of (n:=13) (rs:=[.tmp 5]) func102 rfl rfl rfl bL ?_
 refine wset fun F0 hF0=>?_
 refine wsr (aS (v:=(iv 0)) rfl (RL.nil (wseq ?_)))
 refine wdraw mixed fun w1 he2=>?_
 have he2z:=he2.size
 replace h5:=h5.ext he2
 replace h7:=h7.ext he2
 replace h8:=h8.ext he2
 replace h10:=h10.ext he2
 replace hl:=hl.tr (Sm.ext he2)
 replace hE:=Below.ext hE oM he2
 have hc3:=h10.cell (j:=0) (u:=(.func (.func 101) #[] #[(.pointer (some ⟨b7,0,none⟩)),(.pointer (some ⟨b5,0,none⟩)),(.pointer (some ⟨b8,0,none⟩))])) rfl
 refine RA.rd 0 rfl kR rfl rfl rfl dC (Ext.refl _) (fun u hu=>r_load uT149 ag149 (hF0 2) (cell_ext hu hc3)) ?_
 refine ra 1 rfl (fun _=>r_move_as (v:=(iv y)) (hF0 1)) ?_
 have hc4:=h10.cell (j:=0) (u:=(.func (.func 101) #[] #[(.pointer (some ⟨b7,0,none⟩)),(.pointer (some ⟨b5,0,none⟩)),(.pointer (some ⟨b8,0,none⟩))])) rfl
 refine RA.rd 3 rfl kR rfl rfl rfl dC (Ext.refl _) (fun u hu=>r_load uT149 ag149 (hF0 2) (cell_ext hu hc4)) ?_
 refine ra 4 rfl (fun _=>r_move_as (v:=(iv x)) (hF0 0)) ?_
 refine RA.all [2] kR rfl ?_
 refine RS.call rfl rfl rfl dC (r_callv (vl:=[(iv y)]) (cl:=[(.pointer (some ⟨b7,0,none⟩)),(.pointer (some ⟨b5,0,none⟩)),(.pointer (some ⟨b8,0,none⟩))]) rfl ent101 rfl) (divide1 h5 h7 h8 hl hp ham hls (x:=y) oM) ?_ RS.nil
 rintro _ w5 ⟨rfl,he6⟩
 refine rm he6 ?_
 have he6z:=he6.size
 replace h5:=h5.ext he6
 replace h7:=h7.ext he6
 replace h8:=h8.ext he6
 replace h10:=h10.ext he6
 replace hl:=hl.tr (Sm.ext he6)
 replace hE:=Below.ext hE oM he6
 refine RA.all [5] kR rfl ?_
 refine RS.call rfl rfl rfl dC (r_callv (vl:=[(iv x)]) (cl:=[(.pointer (some ⟨b7,0,none⟩)),(.pointer (some ⟨b5,0,none⟩)),(.pointer (some ⟨b8,0,none⟩))]) rfl ent101 rfl) (divide1 h5 h7 h8 hl hp ham hls (x:=x) oM) ?_ RS.nil
 rintro _ w7 ⟨rfl,he8⟩
 refine rm he8 ?_
 have he8z:=he8.size
 replace h5:=h5.ext he8
 replace h7:=h7.ext he8
 replace h8:=h8.ext he8
 replace h10:=h10.ext he8
 replace hE:=Below.ext hE oM he8
 refine RA.all [6] kR rfl ?_
 refine RS.call rfl rfl rfl dC (r_call (vl:=[(iv (remF ls part amount y)),(iv (remF ls part amount x))]) ent103 rfl) (cmp_int64 _) ?_ RS.nil
 rintro _ _ ⟨rfl,rfl⟩
 refine rm (Ext.refl _) ?_
 refine ra 7 rfl (fun _=>r_assign_as (v:=(iv (cmpI (remF ls part amount y) (remF ls part amount x)))) rfl) ?_
 refine RA.done kR ?_
 refine wret ?_
 refine⟨[(iv (cmpI (remF ls part amount y) (remF ls part amount x)))],⟨rfl,trivial⟩,?_⟩
 exact⟨int_eq (by unfold cmpI;(repeat split)<;>omega),hE⟩
end Go.Proofs.YtandhgfmfpmemaaGreat.W
namespace Go.Proofs.YtandhgfmfpmemaaGreat.W
open Go.Vg Go.RowKit _root_.Go.Proofs.Tryz
set_option linter.unusedVariables false
open Go.Vm
theorem div_cmp {D:Nat→TypeId→Prop} {b5 b7 b8 b10 b:Nat} {vl:Value} {ls:List (Int×Int)} {part amount:Int} {w:World} (h5:Bk w b5 53 [vl]) (h7:Bk w b7 3 [.int .i64 part]) (h8:Bk w b8 3 [.int .i64 amount]) (hl:Ss loadC 2 D w vl ls) (hp:0≤part∧part≤33554432) (ham:0<amount∧amount≤33554432) (hls:∀p∈ls,0≤p.1∧p.1≤1048576)
 (h10:Bk w b10 149 [.func (.func 101) #[] #[.pointer (some ⟨b7,0,none⟩),.pointer (some ⟨b5,0,none⟩),.pointer (some ⟨b8,0,none⟩)]]) (n5:b5≠b) (n7:b7≠b) (n8:b8≠b) (n10:b10≠b) {xs:List Int} {n:Nat} (har:Ar (gI .i64) w b 3 0 xs n) (hD:¬D b 3):
 CmpOk Tryz.prog 102 [.pointer (some ⟨b10,0,none⟩)] (gI .i64) (fun i=>-(remF ls part amount i)) (fun i=>0≤i∧i<(ls.length:Int)) b w:=fun u hu x y hx hy=>
 divide2 (h5.exc hu n5) (h7.exc hu n7) (h8.exc hu n8) (hl.tr (har.sm hu hD)) hp ham hls (h10.exc hu n10) hx hy
set_option maxHeartbeats 1000000 in
theorem divide_spec {D Dg:Nat→TypeId→Prop} {bc nc cap Bd:Nat} {vl vg:Value} {ls:List (Int×Int)} {G C:List Int} {part amount:Int} {w:World} (hl0:Ss loadC 2 D w vl ls) (hg0:Sg (gI .i64) Dg w vg G) (hc:Ar (gI .i64) w bc 3 0 C nc) (hDl:¬D bc 3) (hDg:¬Dg bc 3) (hp:0≤part∧part≤33554432) (ham0:0≤amount∧amount≤33554432) (hls:∀p∈ls,0≤p.1∧p.1≤1048576) (hG0:0<G.length) (hGl:G.length≤32) (hGr:∀i∈G,0≤i∧i<(ls.length:Int)) (hnc:nc=ls.length) (hsum:amount=sumA ls G) (hpa:part≤amount) (hCb:∀x∈C,0≤x∧x≤(Bd:Int)) (hBd:35184372088832≤Bd∧Bd≤2251799813685248):
 Calls Tryz.prog 54 #[vl,vg,(iv part),(iv amount),(.slice (some ⟨bc,0,none⟩) (nc) (cap))] w fun e w'=>∃v,e= .returned v∧v= .tuple #[]∧(∃C',Ar (gI .i64) w' bc 3 0 C' nc∧DivSpec ls G part amount C C'∧∀x∈C',0≤x∧x≤((Bd+32:Nat):Int))∧Exc bc w w':=by
 have hE:Exc bc w w:=Exc.of_ext (Ext.refl _)
 have hl:=hl0.old
 have hg:=hg0.old
 have hcl:=hc.lt
 have hcn:=hc.2
 clear hl0 hg0
 refine calls_of (n:=66) (rs:=[]) func54 rfl rfl rfl bL ?_
 refine wset fun F0 hF0=>?_
 refine wsr ?_
 refine rU (h_box (vv:=vl) (cs:=[vl]) (hF0 0) (cells_one hl.one)) ?_
 rintro _ w1 ⟨b2,rfl,hs5,hb4,he3⟩
 have he3z:=he3.size
 replace hl:=hl.tr (Sm.ext he3)
 replace hg:=hg.tr (Sm.ext he3)
 replace hc:=hc.ext he3
 replace hE:=hE.trans (Exc.of_ext he3)
 have hb4l:=hb4.lt
 refine rU (h_box (vv:=(iv part)) (cs:=[(iv part)]) (hF0 2) rfl) ?_
 rintro _ w6 ⟨b7,rfl,hs10,hb9,he8⟩
 have he8z:=he8.size
 replace hl:=hl.tr (Sm.ext he8)
 replace hg:=hg.tr (Sm.ext he8)
 replace hc:=hc.ext he8
 replace hE:=hE.trans (Exc.of_ext he8)
 replace hb4:=hb4.ext he8
 have hb9l:=hb9.lt
 refine rU (h_box (vv:=(iv amount)) (cs:=[(iv amount)]) (hF0 3) rfl) ?_
 rintro _ w11 ⟨b12,rfl,hs15,hb14,he13⟩
 have he13z:=he13.size
 replace hl:=hl.tr (Sm.ext he13)
 replace hg:=hg.tr (Sm.ext he13)
 replace hc:=hc.ext he13
 replace hE:=hE.trans (Exc.of_ext he13)
 replace hb4:=hb4.ext he13
 replace hb9:=hb9.ext he13
 have hb14l:=hb14.lt
 refine RL.nil (wseq (wsr ?_))
 have hc16:=hb14.cell (j:=0) (u:=(iv amount)) rfl
 refine rV (r_load uT3 ag3 rfl hc16) (rV (r_eql (k:=.i64) (a:=amount) (b:=0) rfl rfl) (RL.nil ?_))
 refine wcD (p:=amount=0) rfl (fun hb17 hb17p=>?_) (fun hb17 hb17p=>?_)
 ·refine wret ?_
  refine⟨[],trivial,?_⟩
  exact⟨rfl,⟨C,hc,.inl ⟨by omega,rfl⟩,fun x hx=>by have:=hCb x hx;omega⟩,hE⟩
 have ham:0<amount∧amount≤33554432:=by omega
 refine wskip ?_
 refine wsr (rV (r_makeFunc (vl:=[(.pointer (some ⟨b7,0,none⟩)),(.pointer (some ⟨b2,0,none⟩)),(.pointer (some ⟨b12,0,none⟩))]) rfl) ?_)
 refine rU (h_alloc (cs:=[(.nilFunc)]) ty149 rfl) ?_
 rintro _ w18 ⟨b19,rfl,hs22,hb21,he20⟩
 have he20z:=he20.size
 replace hl:=hl.tr (Sm.ext he20)
 replace hg:=hg.tr (Sm.ext he20)
 replace hc:=hc.ext he20
 replace hE:=hE.trans (Exc.of_ext he20)
 replace hb4:=hb4.ext he20
 replace hb9:=hb9.ext he20
 replace hb14:=hb14.ext he20
 have hb21l:=hb21.lt
 refine RL.runs rfl rfl (h_store (vv:=(.func (.func 101) #[] #[(.pointer (some ⟨b7,0,none⟩)),(.pointer (some ⟨b2,0,none⟩)),(.pointer (some ⟨b12,0,none⟩))])) (cs:=[(.func (.func 101) #[] #[(.pointer (some ⟨b7,0,none⟩)),(.pointer (some ⟨b2,0,none⟩)),(.pointer (some ⟨b12,0,none⟩))])]) (o:=0) ty149 rfl rfl rfl rfl (one_cons rfl one_nil) hb21 bL) ?_
 rintro w23 ⟨hn24,hx25,hz26⟩
 have hx25z:=hx25.size
 replace hl:=hl.tr (hb21.sm hx25 (by first|(exact fun h=>hDl h.1)|(intro h;have:=h.2;omega)))
 replace hg:=hg.tr (hb21.sm hx25 (by first|(exact fun h=>hDg h.1)|(intro h;have:=h.2;omega)))
 replace hc:=hc.exc hx25 oM
 replace hE:=Exc.own hE hx25 oM
 replace hb4:=hb4.exc hx25 oM
 replace hb9:=hb9.exc hx25 oM
 replace hb14:=hb14.exc hx25 oM
 replace hb21:Bk w23 b19 149 [(.func (.func 101) #[] #[(.pointer (some ⟨b7,0,none⟩)),(.pointer (some ⟨b2,0,none⟩)),(.pointer (some ⟨b12,0,none⟩))])]:=hn24
 refine RL.nil (wsr ?_)
 have hc27:=hb9.cell (j:=0) (u:=(iv part)) rfl
 refine rV (r_load uT3 ag3 rfl hc27) (aS (v:=(iv part)) rfl (RL.nil (wseq (wsr (mV (v:=vg) (hF0 1) ?_)))))
 obtain⟨A28,c29,hv30,hc31,hc32⟩:=hg.len
 refine rV (r_len uT22 hv30) (mV (v:=(iv 0)) rfl (RL.nil ?_))
 refine wblock ?_
 refine wset fun F33 hF34=>?_
 refine wloop (σ:=Nat) (fun(k:Nat) fl wl=>Off (11::(13::(rg 23 23 []))) F33 fl∧fl 23=(iv k)∧fl 11=(iv (part-sumQ ls part amount (G.take k)))∧(k≤G.length)∧(0≤sumQ ls part amount (G.take k)∧sumQ ls part amount (G.take k)≤k*35184372088832)∧(Bk wl b2 53 [vl])∧(Bk wl b7 3 [(iv part)])∧(Bk wl b12 3 [(iv amount)])∧(Bk wl b19 149 [(.func (.func 101) #[] #[(.pointer (some ⟨b7,0,none⟩)),(.pointer (some ⟨b2,0,none⟩)),(.pointer (some ⟨b12,0,none⟩))])])∧(Ss loadC 2 (fun b T=>D b T∧b<w.heap.size) wl vl ls)∧(Sg (gI .i64) (fun b T=>Dg b T∧b<w.heap.size) wl vg G)∧(Ar (gI .i64) wl bc 3 0 (sets C (G.take k) (qF ls part amount)) nc)∧(Exc bc w wl)∧(w.heap.size+4≤wl.heap.size)) (fun(k:Nat)=>G.length-k) (0) ?_ ?_
 ·exact⟨Off.refl _ _,(hF34 23).trans (rfl),(hF34 11).trans ((int_eq (by simp[sumQ]))),Nat.zero_le _,(by simp[sumQ]),hb4,hb9,hb14,hb21,hl,hg,(by simpa[sets] using hc),hE,oM⟩
 clear hl hg hc hE hb4 hb9 hb14 hb21
 rintro k f35 w36 ⟨hoff37,hs38,hs39,hk,hsq,hb4,hb9,hb14,hb21,hl,hg,hc,hE,hwz⟩
 refine wsr (rV (r_lss (k:=.i64) (a:=(k:Int)) (b:=((G.length:Nat):Int)) hs38 ((hoff37 22 rfl).trans (hF34 22))) (RL.nil (wseq ?_)))
 refine wcD (p:=(k:Int)<((G.length:Nat):Int)) rfl (fun hb40 hb40p=>?_) (fun hb40 hb40p=>?_)
 ·refine wskip ?_
  refine wseq ?_
  refine wblock ?_
  refine wseq ?_
  have hkl:k<G.length:=by omega
  obtain⟨g,hgk⟩:∃g,g=G.getD k default:=⟨_,rfl⟩
  have hgr:=hGr g (by rw[hgk];exact getD_mem _ _ hkl)
  obtain⟨qq,hqq⟩:∃q,q=part*(ls.getD g.toNat default).1:=⟨_,rfl⟩
  have hqr:0≤qq∧qq≤35184372088832:=by rw[hqq];exact mul_bound hp (hls _ (getD_mem _ _ oM))
  have hqf:0≤qF ls part amount g∧qF ls part amount g≤35184372088832:=by unfold qF;rw[←hqq];exact div_bound hqr ham
  refine wregion ?_
  obtain⟨b41,o42,c43,hv44,hc45⟩:=hg.ix (i:=(k:Int)) (k) oM oM
  rw[show G.getD (k) default=g from hgk.symm] at hc45
  refine rV (r_indexAddr (i:=(k:Int)) uT22 ty3 ((((hoff37 21 rfl).trans (hF34 21))).trans hv44) hs38 oM oM) (rV (r_load (v:=(iv g)) uT3 ag3 rfl hc45) (aS (v:=(iv g)) rfl (RL.nil (wseq ?_))))
  refine wdraw mixed fun w46 he47=>?_
  have he47z:=he47.size
  replace hl:=hl.tr (Sm.ext he47)
  replace hg:=hg.tr (Sm.ext he47)
  replace hc:=hc.ext he47
  replace hE:=hE.trans (Exc.of_ext he47)
  replace hb4:=hb4.ext he47
  replace hb9:=hb9.ext he47
  replace hb14:=hb14.ext he47
  replace hb21:=hb21.ext he47
  refine ra 0 rfl (fun _=>r_move_as (v:=(.slice (some ⟨bc,0,none⟩) (nc) (cap))) ((hoff37 4 rfl).trans ((hF34 4).trans (hF0 4)))) ?_
  refine ra 1 rfl (fun _=>r_move_as (v:=(iv g)) rfl) ?_
  have hc48:=hb9.cell (j:=0) (u:=(iv part)) rfl
  refine RA.rd 2 rfl kR rfl rfl rfl dC (Ext.refl _) (fun u hu=>r_load uT3 ag3 ((hoff37 7 rfl).trans (hF34 7)) (cell_ext hu hc48)) ?_
  have hc49:=hb4.cell (j:=0) (u:=vl) rfl
  refine RA.rd 3 rfl kR rfl rfl rfl dC (Ext.refl _) (fun u hu=>r_load uT53 ag53 ((hoff37 5 rfl).trans (hF34 5)) (cell_ext hu hc49)) ?_
  refine ra 4 rfl (fun _=>r_move_as (v:=(iv g)) rfl) ?_
  obtain⟨b50,o51,c52,hv53,hc54⟩:=hl.ix (i:=g) (g.toNat) oM oM
  refine ra 5 rfl (fun _=>r_indexAddr (i:=g) uT53 ty61 hv53 rfl oM oM) ?_
  refine ra 6 rfl (fun _=>r_fieldAddr uT61 rfl ty3 rfl) ?_
  refine RA.rd 7 rfl kR rfl rfl rfl dC (Ext.refl _) (fun u hu=>r_load (v:=(iv ((ls.getD (g.toNat) default).1))) uT3 ag3 rfl (cell_ext hu (hc54 0 _ rfl))) ?_
  refine ra 8 rfl (fun _=>r_mul (k:=.i64) (a:=part) (b:=(ls.getD (g.toNat) default).1) (c:=qq) rfl rfl (by rw[←hqq];exact wi64 oM)) ?_
  have hc55:=hb14.cell (j:=0) (u:=(iv amount)) rfl
  refine RA.rd 9 rfl kR rfl rfl rfl dC (Ext.refl _) (fun u hu=>r_load uT3 ag3 ((hoff37 8 rfl).trans (hF34 8)) (cell_ext hu hc55)) ?_
  refine ra 10 rfl (fun _=>r_quo (k:=.i64) (a:=qq) (b:=amount) (c:=qF ls part amount g) rfl rfl oM (by rw[Int.tdiv_eq_ediv_of_nonneg hqr.1,hqq];exact wi64 (by have:=hqf;unfold qF at this;omega))) ?_
  refine ra 11 rfl (fun _=>r_indexAddr (i:=g) uT22 ty3 rfl rfl oM oM) ?_
  refine RA.all [12] kR rfl ?_
  refine RS.runs rfl rfl rfl (h_set (g:=(gI .i64)) (vv:=(iv (qF ls part amount g))) (u:=qF ls part amount g) (i:=g) ty3 rfl rfl rfl rfl rfl hc (g.toNat) oM oM) ?_ RS.nil
  rintro w56 ⟨ha57,hx58⟩
  refine⟨.inr (.inl kR),?_⟩
  have hx58z:=hx58.size
  replace hl:=hl.tr (hc.sm hx58 (by first|(exact fun h=>hDl h.1)|(intro h;have:=h.2;omega)))
  replace hg:=hg.tr (hc.sm hx58 (by first|(exact fun h=>hDg h.1)|(intro h;have:=h.2;omega)))
  replace hE:=hE.trans hx58
  replace hb4:=hb4.exc hx58 oM
  replace hb9:=hb9.exc hx58 oM
  replace hb14:=hb14.exc hx58 oM
  replace hb21:=hb21.exc hx58 oM
  replace hc:=ha57
  refine RA.done kR ?_
  refine wregion (mV hs39 (mV (v:=(.slice (some ⟨bc,0,none⟩) (nc) (cap))) ((hoff37 4 rfl).trans ((hF34 4).trans (hF0 4))) (mV (v:=(iv g)) rfl (rV (r_indexAddr (i:=g) uT22 ty3 rfl rfl oM oM) ?_))))
  have hc59:=hc.cell (i:=g) (g.toNat) oM oM
  rw[show((sets C (G.take k) (qF ls part amount)).set (g.toNat) (qF ls part amount g)).getD (g.toNat) default=qF ls part amount g from (getD_set_self _ _ _ (by have:=hc.2;simp at this;omega))] at hc59
  refine rV (r_load (v:=(iv (qF ls part amount g))) uT3 ag3 rfl hc59) (rV (r_sub (k:=.i64) (a:=part-sumQ ls part amount (G.take k)) (b:=qF ls part amount g) (c:=(part-sumQ ls part amount (G.take k))-(qF ls part amount g)) rfl rfl (wi64 oM)) (aS (v:=(iv ((part-sumQ ls part amount (G.take k))-(qF ls part amount g)))) rfl (RL.nil (wregion (rV (r_add (k:=.i64) (a:=(k:Int)) (b:=1) (c:=(k:Int)+1) hs38 rfl (wi64 oM)) (mV (v:=(iv ((k:Int)+1))) rfl (RL.nil ?_)))))))
  refine⟨(k+1),⟨?_,?_,?_,?_,?_,?_,?_,?_,?_,?_,?_,?_,?_,?_⟩,?_⟩
  ·exact(by repeat (first|exact hoff37|refine Off.st ?_ dC _))
  ·first|rfl|exact int_eq oM|exact bool_eq (by simp)
  ·exact int_eq (by rw[take_snoc G k hkl,sumQ_snoc,←hgk];omega)
  ·omega
  ·rw[take_snoc G k hkl,sumQ_snoc,←hgk];omega
  ·exact hb4
  ·exact hb9
  ·exact hb14
  ·exact hb21
  ·exact hl
  ·exact hg
  ·rw[take_snoc G k hkl,sets_snoc,←hgk];exact hc
  ·exact hE
  ·omega
  (try dsimp only)
  omega
 refine wexit ?_
 refine wseq ?_
 have hkG:G.take k=G:=List.take_of_length_le oM
 obtain⟨M,hM,hMG⟩:=div_missing hGr hls ham hp hsum hpa
 refine wregion (mV (v:=vg) ((hoff37 1 rfl).trans ((hF34 1).trans (hF0 1))) ?_)
 have hb4q:=hb4.lt
 have hb9q:=hb9.lt
 have hb14q:=hb14.lt
 have hb21q:=hb21.lt
 have hcq:=hc.lt
 refine cL ent42 (clone_int hg hG0 oM) rfl ?_
 rintro _ w60 ⟨bo,capo,rfl,hbo,hcapo1,hcapo2,har,hecl⟩
 have heclz:=hecl.size
 replace hl:=hl.tr (Sm.ext hecl)
 replace hc:=hc.ext hecl
 replace hE:=hE.trans (Exc.of_ext hecl)
 replace hb4:=hb4.ext hecl
 replace hb9:=hb9.ext hecl
 replace hb14:=hb14.ext hecl
 replace hb21:=hb21.ext hecl
 have harl:=har.lt
 refine aS (v:=(.slice (some ⟨bo,0,none⟩) (G.length) (capo))) rfl (RL.nil (wsr (mV (v:=(.slice (some ⟨bo,0,none⟩) (G.length) (capo))) rfl (rV (r_makeFunc (vl:=[(.pointer (some ⟨b19,0,none⟩))]) (mpc ((hoff37 10 rfl).trans (hF34 10)) mpn)) ?_))))
 refine RL.call rfl rfl dC (r_call (vl:=[(.slice (some ⟨bo,0,none⟩) (G.length) (capo)),(.func (.func 102) #[] #[(.pointer (some ⟨b19,0,none⟩))])]) ent51 rfl) (sortStable_int (key:=(fun i=>-(remF ls part amount i))) (ok:=(fun i=>0≤i∧i<(ls.length:Int))) ent102 (div_cmp hb4 hb9 hb14 hl hp ham hls hb21 oM oM oM oM har (fun h=>by have:=h.2;omega)) (Exc.of_ext (Ext.refl _)) har oM (hGr)) ?_
 rintro _ w61 ⟨rfl,⟨Pm,har2,hPs,hPe⟩,hxs⟩
 have hxsz:=hxs.size
 replace hc:=hc.exc hxs oM
 replace hE:=Exc.own hE hxs oM
 replace hb4:=hb4.exc hxs oM
 replace hb9:=hb9.exc hxs oM
 replace hb14:=hb14.exc hxs oM
 replace hb21:=hb21.exc hxs oM
 replace har:=har2
 refine RL.nil (wsr (mV (v:=(.slice (some ⟨bo,0,none⟩) (G.length) (capo))) rfl (mV hs39 (rV (r_sh (h:=part-sumQ ls part amount (G.take k)) (kk:=M) uT22 ty3 rfl rfl (by rw[hkG] at*;omega) (by rw[hkG] at*;omega)) (rV (r_len uT22 rfl) (mV (v:=(iv 0)) rfl (RL.nil ?_)))))))
 refine wblock ?_
 refine wset fun F63 hF64=>?_
 refine wloop (σ:=Nat) (fun(j:Nat) fl wl=>Off (16::(rg 55 11 [])) F63 fl∧fl 55=(iv j)∧(j≤M)∧(Ar (gI .i64) wl bo 3 0 Pm G.length)∧(Ar (gI .i64) wl bc 3 0 (incs (sets C (G.take k) (qF ls part amount)) (Pm.take j)) nc)∧(Exc bc w wl)) (fun(j:Nat)=>M-j) (0) ?_ ?_
 ·exact⟨Off.refl _ _,(hF64 55).trans (rfl),Nat.zero_le _,har,(by simpa[incs] using hc),hE⟩
 clear hl hg hc hE hb4 hb9 hb14 hb21 har
 rintro j f65 w66 ⟨hoff67,hs68,hjM,har,hc,hE⟩
 refine wsr (rV (r_lss (k:=.i64) (a:=(j:Int)) (b:=(M:Int)) hs68 ((hoff67 54 rfl).trans (hF64 54))) (RL.nil (wseq ?_)))
 refine wcD (p:=(j:Int)<(M:Int)) rfl (fun hb69 hb69p=>?_) (fun hb69 hb69p=>?_)
 ·refine wskip ?_
  refine wseq ?_
  refine wblock ?_
  refine wseq ?_
  have hPl:Pm.length=G.length:=hPe.length.symm
  have hjl:j<Pm.length:=by omega
  obtain⟨p,hpj⟩:∃p,p=Pm.getD j default:=⟨_,rfl⟩
  have hpr:=hGr p (hPe.symm.mem (by rw[hpj];exact getD_mem _ _ hjl))
  obtain⟨cp,hcp⟩:∃c,c=(incs (sets C (G.take k) (qF ls part amount)) (Pm.take j)).getD p.toNat default:=⟨_,rfl⟩
  have hcpb:0≤cp∧cp≤((Bd+32:Nat):Int):=by rw[hcp];exact incs_bd (hCb:=sets_bd hCb (fun i hi=>q_bd hls hp ham (hGr i (List.mem_of_mem_take hi))) hBd.1) (by simp;omega) (by rw[hc.2];omega)
  refine wregion (rV (r_indexAddr (i:=(j:Int)) uT22 ty3 ((hoff67 53 rfl).trans (hF64 53)) hs68 oM oM) ?_)
  have hc70:=har.cell (i:=(j:Int)) (j) oM oM
  rw[show Pm.getD (j) default=p from hpj.symm] at hc70
  refine rV (r_load (v:=(iv p)) uT3 ag3 rfl hc70) (aS (v:=(iv p)) rfl (RL.nil (wregion (mV (v:=(.slice (some ⟨bc,0,none⟩) (nc) (cap))) ((hoff67 4 rfl).trans ((hF64 4).trans ((hoff37 4 rfl).trans ((hF34 4).trans (hF0 4))))) (mV (v:=(iv p)) rfl (rV (r_indexAddr (i:=p) uT22 ty3 rfl rfl oM oM) ?_))))))
  have hc71:=hc.cell (i:=p) (p.toNat) oM oM
  rw[show(incs (sets C (G.take k) (qF ls part amount)) (Pm.take j)).getD (p.toNat) default=cp from hcp.symm] at hc71
  refine rV (r_load (v:=(iv cp)) uT3 ag3 rfl hc71) (rV (r_add (k:=.i64) (a:=cp) (b:=1) (c:=cp+1) rfl rfl (wi64 oM)) (rV (r_indexAddr (i:=p) uT22 ty3 rfl rfl oM oM) ?_))
  refine RL.runs rfl rfl (h_set (g:=(gI .i64)) (vv:=(iv (cp+1))) (u:=(incs (sets C (G.take k) (qF ls part amount)) (Pm.take j)).getD p.toNat default+1) (i:=p) ty3 rfl rfl (int_eq (by rw[hcp])) rfl rfl hc (p.toNat) oM oM) ?_
  rintro w72 ⟨ha73,hx74⟩
  have hx74z:=hx74.size
  replace hE:=hE.trans hx74
  replace har:=har.exc hx74 oM
  replace hc:=ha73
  refine RL.nil (wregion (rV (r_add (k:=.i64) (a:=(j:Int)) (b:=1) (c:=(j:Int)+1) hs68 rfl (wi64 oM)) (mV (v:=(iv ((j:Int)+1))) rfl (RL.nil ?_))))
  refine⟨(j+1),⟨?_,?_,?_,?_,?_,?_⟩,?_⟩
  ·exact(by repeat (first|exact hoff67|refine Off.st ?_ dC _|refine Off.via hoff37 dC ?_|refine Off.eq hF34 ?_))
  ·first|rfl|exact int_eq oM|exact bool_eq (by simp)
  ·omega
  ·exact har
  ·rw[take_snoc Pm j hjl,incs_snoc,←hpj];exact hc
  ·exact hE
  (try dsimp only)
  omega
 refine wexit ?_
 refine⟨[],trivial,?_⟩
 have hjM2:j=M:=by omega
 subst hjM2
 rw[hkG] at hc
 exact⟨rfl,⟨_,hc,.inr ⟨by omega,Pm,hPs,hPe,by rw[show(part-sumQ ls part amount G).toNat=j by omega]⟩,fun x hx=>incs_all (hCb:=sets_bd hCb (fun i hi=>q_bd hls hp ham (hGr i hi)) hBd.1) (by simp;omega) hx⟩,hE⟩
end Go.Proofs.YtandhgfmfpmemaaGreat.W
namespace Go.Proofs.YtandhgfmfpmemaaGreat.W
open Go.Vg Go.RowKit _root_.Go.Proofs.Tryz
set_option linter.unusedVariables false
open Go.Vm
theorem slen {A:Option Addr} {n m:Nat} (h:m=n):Value.slice A n n= .slice A m m:=by rw[h]
theorem sl_if {b o k:Nat} {xs:List Int}:Value.slice (if xs.length=k then (some ⟨b,o,none⟩:Option Addr) else (some ⟨b,o,none⟩:Option Addr).map (·.add (k*1))) (xs.length-k) (xs.length-k)= .slice (some ⟨b,if xs.length=k then o else o+k,none⟩) (xs.drop k).length (xs.drop k).length:=by
 rw[List.length_drop]
 split<;>simp[add_spotless]
theorem ar_cut {g:Int→Value} {w:World} {b o k:Nat} {T:TypeId} {xs:List Int} (h:Ar g w b T o xs xs.length) (hk:k≤xs.length):Ar g w b T (if xs.length=k then o else o+k) (xs.drop k) (xs.drop k).length:=by
 split
 ·next e=>rw[show xs.drop k=[] from List.drop_eq_nil_of_le oM];exact h.none_
 rw[List.length_drop];exact h.tail k hk
def CurtPost (ls:List (Int×Int)) (need:Int) (w w':World) (v:Value):Prop:=
 (curtE ls need≠0∧v= .tuple #[.slice none 0 0,.int .i64 (curtE ls need)])∨(curtE ls need=0∧∃vr,v= .tuple #[vr,.int .i64 0]∧Sg (gI .i64) (fun b _=>w.heap.size≤b) w' vr (curtF ls need))
set_option maxHeartbeats 4000000 in
theorem curtail_spec {D:Nat→TypeId→Prop} {vl:Value} {ls:List (Int×Int)} {need:Int} {w:World} (hl0:Ss loadC 2 D w vl ls):
 Calls Tryz.prog 20 #[vl,(iv need)] w fun e w'=>∃v,e= .returned v∧CurtPost ls need w w' v∧Ext w w':=by
 have hE:Below w.heap.size w w:=Below.refl _ _
 have hl:=hl0.old
 clear hl0
 refine calls_of (n:=122) (rs:=[.tmp 4,.tmp 5]) func20 rfl rfl rfl bL ?_
 refine wset fun F0 hF0=>?_
 refine wsr ?_
 refine rU (h_box (vv:=vl) (cs:=[vl]) (hF0 0) (cells_one hl.one)) ?_
 rintro _ w1 ⟨b2,rfl,hs5,hb4,he3⟩
 have he3z:=he3.size
 replace hl:=hl.tr (Sm.ext he3)
 replace hE:=Below.ext hE oM he3
 have hb4l:=hb4.lt
 refine aS (v:=(.slice none (0) (0))) rfl (aS (v:=(iv 0)) rfl (RL.nil (wseq (wsr ?_))))
 have hc6:=hb4.cell (j:=0) (u:=vl) rfl
 refine rV (r_load uT53 ag53 rfl hc6) ?_
 obtain⟨A7,c8,hv9,hc10,hc11⟩:=hl.len
 refine rV (r_len uT53 hv9) (rV (r_gtr (k:=.i64) (a:=((ls.length:Nat):Int)) (b:=32) rfl rfl) (RL.nil ?_))
 refine wcD (p:=32<((ls.length:Nat):Int)) rfl (fun hb12 hb12p=>?_) (fun hb12 hb12p=>?_)
 ·refine wsr ?_
  refine aS (v:=(.slice none (0) (0))) rfl (aS (v:=(iv 8)) rfl (RL.nil ?_))
  refine wret ?_
  refine⟨[(.slice none (0) (0)),(iv 8)],⟨rfl,⟨rfl,trivial⟩⟩,?_⟩
  exact⟨.inl ⟨by unfold curtE;rw[if_pos oM];decide,by unfold curtE;rw[if_pos oM];rfl⟩,hE⟩
 refine wskip ?_
 refine wsr (aS (v:=(iv 0)) rfl (RL.nil (wseq (wsr ?_))))
 have hc13:=hb4.cell (j:=0) (u:=vl) rfl
 refine rV (r_load uT53 ag53 rfl hc13) (rV (r_len uT53 hv9) (mV (v:=(iv 0)) rfl (RL.nil ?_)))
 refine wblock ?_
 refine wset fun F14 hF15=>?_
 refine wloop (σ:=Nat) (fun(k:Nat) fl wl=>Off (rg 4 3 (8::(rg 20 17 []))) F14 fl∧fl 20=(iv k)∧fl 6=(iv (sumP (ls.take k)))∧(k≤ls.length)∧(∀p∈ls.take k,0≤p.1∧p.1≤1048576)∧(0≤sumP (ls.take k)∧sumP (ls.take k)≤k*1048576)∧(Bk wl b2 53 [vl])∧(Ss loadC 2 (fun b T=>D b T∧b<w.heap.size) wl vl ls)∧(Below w.heap.size w wl)∧(w1.heap.size≤wl.heap.size)) (fun(k:Nat)=>ls.length-k) (0) ?_ ?_
 ·exact⟨Off.refl _ _,(hF15 20).trans (rfl),(hF15 6).trans ((int_eq (by simp[sumP]))),Nat.zero_le _,by simp,by simp[sumP],hb4,hl,hE,Nat.le_refl _⟩
 clear hl hE hb4
 rintro k f17 w18 ⟨hoff19,hs20,hs21,hk,hlk,hsk,hb4,hl,hE,hz16⟩
 refine wsr (rV (r_lss (k:=.i64) (a:=(k:Int)) (b:=((ls.length:Nat):Int)) hs20 ((hoff19 19 rfl).trans (hF15 19))) (RL.nil (wseq ?_)))
 refine wcD (p:=(k:Int)<((ls.length:Nat):Int)) rfl (fun hb22 hb22p=>?_) (fun hb22 hb22p=>?_)
 ·refine wskip ?_
  refine wseq ?_
  refine wblock ?_
  refine wseq ?_
  have hkl:k<ls.length:=by omega
  refine wregion ?_
  obtain⟨b23,o24,c25,hv26,hc27⟩:=hl.ix (i:=(k:Int)) (k) oM oM
  refine rV (r_indexAddr (i:=(k:Int)) uT53 ty61 ((((hoff19 18 rfl).trans (hF15 18))).trans hv26) hs20 oM oM) (rV (r_loada (cs:=[(iv ((ls.getD (k) default).1)),(iv ((ls.getD (k) default).2))]) uT61 ag61 ty61 rfl hc27) ?_)
  refine rU (h_alloc (cs:=[(iv 0),(iv 0)]) ty61 rfl) ?_
  rintro _ w28 ⟨b29,rfl,hs32,hb31,he30⟩
  have he30z:=he30.size
  replace hl:=hl.tr (Sm.ext he30)
  replace hE:=Below.ext hE oM he30
  replace hb4:=hb4.ext he30
  have hb31l:=hb31.lt
  refine RL.runs rfl rfl (h_store (vv:=(.agg #[(iv ((ls.getD (k) default).1)),(iv ((ls.getD (k) default).2))])) (cs:=[(iv ((ls.getD (k) default).1)),(iv ((ls.getD (k) default).2))]) (o:=0) ty61 rfl rfl rfl rfl (one_cons rfl (one_cons rfl one_nil)) hb31 bL) ?_
  rintro w33 ⟨hn34,hx35,hz36⟩
  have hx35z:=hx35.size
  replace hl:=hl.tr (hb31.sm hx35 (by (intro h;have:=h.2;omega)))
  replace hE:=Below.exc hE oM hx35 oM
  replace hb4:=hb4.exc hx35 oM
  replace hb31:Bk w33 b29 61 [(iv ((ls.getD (k) default).1)),(iv ((ls.getD (k) default).2))]:=hn34
  refine RL.nil (wseq (wsr (rV (r_fieldAddr uT61 rfl ty3 rfl) ?_)))
  have hc37:=hb31.cell (j:=0) (u:=(iv ((ls.getD (k) default).1))) rfl
  refine rV (r_load uT3 ag3 rfl hc37) (rV (r_lss (k:=.i64) (a:=(ls.getD (k) default).1) (b:=0) rfl rfl) (mV (v:=(bd (((ls.getD (k) default).1)<0))) rfl ?_))
  rcases bD (((ls.getD (k) default).1)<0) with ⟨hb38,hb38p⟩|⟨hb38,hb38p⟩
  ·refine RL.gno rfl rfl (bool_eq hb38) rfl dC ?_
   refine RL.gno rfl rfl (bool_eq hb38) rfl dC ?_
   refine RL.gno rfl rfl (bool_eq hb38) rfl dC ?_
   refine rV (r_pick_t (v:=(.bool true)) (bool_eq hb38) rfl) (RL.nil ?_)
   refine wcond_t rfl ?_
   refine wsr (aS (v:=(.slice none (0) (0))) rfl (aS (v:=(iv 3)) rfl (RL.nil ?_)))
   refine wret ?_
   refine⟨[(.slice none (0) (0)),(iv 3)],⟨rfl,⟨rfl,trivial⟩⟩,?_⟩
   have hce:curtE ls need=3:=by unfold curtE;rw[if_neg oM,if_neg (fun h=>by have:=h (ls.getD k default) (getD_mem _ _ oM);omega)]
   exact⟨.inl ⟨by rw[hce];decide,by rw[hce];rfl⟩,hE⟩
  refine RL.gval rfl rfl (bool_eq hb38) rfl dC (r_fieldAddr uT61 rfl ty3 rfl) ?_
  have hc39:=hb31.cell (j:=0) (u:=(iv ((ls.getD (k) default).1))) rfl
  refine RL.gval rfl rfl (bool_eq hb38) rfl dC (r_load uT3 ag3 rfl hc39) ?_
  refine RL.gval rfl rfl (bool_eq hb38) rfl dC (r_gtr (k:=.i64) (a:=(ls.getD (k) default).1) (b:=1048576) rfl rfl) ?_
  refine rV (r_pick_f (v:=(bd (1048576<((ls.getD (k) default).1)))) (bool_eq hb38) rfl) (RL.nil ?_)
  refine wcD (p:=1048576<((ls.getD (k) default).1)) rfl (fun hb40 hb40p=>?_) (fun hb40 hb40p=>?_)
  ·refine wsr ?_
   refine aS (v:=(.slice none (0) (0))) rfl (aS (v:=(iv 3)) rfl (RL.nil ?_))
   refine wret ?_
   refine⟨[(.slice none (0) (0)),(iv 3)],⟨rfl,⟨rfl,trivial⟩⟩,?_⟩
   have hce:curtE ls need=3:=by unfold curtE;rw[if_neg oM,if_neg (fun h=>by have:=h (ls.getD k default) (getD_mem _ _ oM);omega)]
   exact⟨.inl ⟨by rw[hce];decide,by rw[hce];rfl⟩,hE⟩
  refine wskip ?_
  refine wregion (mV hs21 (rV (r_fieldAddr uT61 rfl ty3 rfl) ?_))
  have hc41:=hb31.cell (j:=0) (u:=(iv ((ls.getD (k) default).1))) rfl
  refine rV (r_load uT3 ag3 rfl hc41) (rV (r_add (k:=.i64) (a:=sumP (ls.take k)) (b:=(ls.getD (k) default).1) (c:=(sumP (ls.take k))+((ls.getD (k) default).1)) rfl rfl (wi64 oM)) (aS (v:=(iv ((sumP (ls.take k))+((ls.getD (k) default).1)))) rfl (RL.nil (wregion (rV (r_add (k:=.i64) (a:=(k:Int)) (b:=1) (c:=(k:Int)+1) hs20 rfl (wi64 oM)) (mV (v:=(iv ((k:Int)+1))) rfl (RL.nil ?_)))))))
  refine⟨(k+1),⟨?_,?_,?_,?_,?_,?_,?_,?_,?_,?_⟩,?_⟩
  ·exact(by repeat (first|exact hoff19|refine Off.st ?_ dC _))
  ·first|rfl|exact int_eq oM|exact bool_eq (by simp)
  ·exact int_eq (by rw[take_snoc ls k hkl,sumP_snoc])
  ·omega
  ·rw[take_snoc ls k hkl];intro p hp;rcases List.mem_append.1 hp with hp|hp;exact hlk p hp;simp at hp;subst hp;exact⟨by simp at*;omega,by simp at*;omega⟩
  ·rw[take_snoc ls k hkl,sumP_snoc];omega
  ·exact hb4
  ·exact hl
  ·exact hE
  ·omega
  (try dsimp only)
  omega
 refine wexit ?_
 refine wseq (wseq ?_)
 have hls:∀p∈ls,0≤p.1∧p.1≤1048576:=by rw[List.take_of_length_le oM] at hlk;exact hlk
 have hsl:sumP (ls.take k)=sumP ls:=by rw[List.take_of_length_le oM]
 refine wregion (mV (v:=(iv need)) ((hoff19 1 rfl).trans ((hF15 1).trans (hF0 1))) (rV (r_lss (k:=.i64) (a:=need) (b:=0) rfl rfl) (mV (v:=(bd (need<0))) rfl ?_)))
 rcases bD (need<0) with ⟨hb42,hb42p⟩|⟨hb42,hb42p⟩
 ·refine RL.gno rfl rfl (bool_eq hb42) rfl dC ?_
  refine RL.gno rfl rfl (bool_eq hb42) rfl dC ?_
  refine RL.gno rfl rfl (bool_eq hb42) rfl dC ?_
  refine rV (r_pick_t (v:=(.bool true)) (bool_eq hb42) rfl) (RL.nil ?_)
  refine wcond_t rfl ?_
  refine wsr (aS (v:=(.slice none (0) (0))) rfl (aS (v:=(iv 3)) rfl (RL.nil ?_)))
  refine wret ?_
  refine⟨[(.slice none (0) (0)),(iv 3)],⟨rfl,⟨rfl,trivial⟩⟩,?_⟩
  have hce:curtE ls need=3:=by unfold curtE;rw[if_neg oM,if_pos hls,if_pos oM]
  exact⟨.inl ⟨by rw[hce];decide,by rw[hce];rfl⟩,hE⟩
 refine RL.gval rfl rfl (bool_eq hb42) rfl dC (r_move_as (v:=(iv need)) ((hoff19 1 rfl).trans ((hF15 1).trans (hF0 1)))) ?_
 refine RL.gval rfl rfl (bool_eq hb42) rfl dC (r_move_as (v:=(iv (sumP (ls.take k)))) hs21) ?_
 refine RL.gval rfl rfl (bool_eq hb42) rfl dC (r_gtr (k:=.i64) (a:=need) (b:=sumP (ls.take k)) rfl rfl) ?_
 refine rV (r_pick_f (v:=(bd ((sumP (ls.take k))<need))) (bool_eq hb42) rfl) (RL.nil ?_)
 refine wcD (p:=(sumP (ls.take k))<need) rfl (fun hb43 hb43p=>?_) (fun hb43 hb43p=>?_)
 ·refine wsr ?_
  refine aS (v:=(.slice none (0) (0))) rfl (aS (v:=(iv 3)) rfl (RL.nil ?_))
  refine wret ?_
  refine⟨[(.slice none (0) (0)),(iv 3)],⟨rfl,⟨rfl,trivial⟩⟩,?_⟩
  have hce:curtE ls need=3:=by unfold curtE;rw[if_neg oM,if_pos hls,if_pos oM]
  exact⟨.inl ⟨by rw[hce];decide,by rw[hce];rfl⟩,hE⟩
 refine wskip ?_
 refine wsr ?_
 have hc44:=hb4.cell (j:=0) (u:=vl) rfl
 refine rV (r_load uT53 ag53 ((hoff19 2 rfl).trans (hF15 2)) hc44) (rV (r_len uT53 hv9) ?_)
 have hn50:(((ls.length:Nat):Int):Int)=((ls.length:Nat):Int):=by omega
 refine rU (h_make1 (n:=ls.length) uT22 ty3 rfl (int_eq hn50) (int_eq hn50) oM oM) ?_
 rintro _ w45 ⟨b46,rfl,hs49,hb48,he47⟩
 have he47z:=he47.size
 replace hl:=hl.tr (Sm.ext he47)
 replace hE:=Below.ext hE oM he47
 replace hb4:=hb4.ext he47
 replace hb48:=Ar.made (g:=(gI .i64)) (z:=(0:Int)) hb48 rfl
 have hb48l:=hb48.lt
 refine aS (v:=(.slice (some ⟨b46,0,none⟩) (ls.length) (ls.length))) rfl (RL.nil (wseq (wsr (mV (v:=(.slice (some ⟨b46,0,none⟩) (ls.length) (ls.length))) rfl (rV (r_len uT22 rfl) (mV (v:=(iv 0)) rfl (RL.nil ?_)))))))
 refine wblock ?_
 refine wset fun F51 hF52=>?_
 refine wloop (σ:=Nat) (fun(k:Nat) fl wl=>Off (10::(rg 49 8 [])) F51 fl∧fl 49=(iv k)∧(k≤ls.length)∧(Bk wl b2 53 [vl])∧(Ss loadC 2 (fun b T=>D b T∧b<w.heap.size) wl vl ls)∧(Ar (gI .i64) wl b46 3 0 (fillI ls.length k) ls.length)∧(Below w.heap.size w wl)∧(w45.heap.size≤wl.heap.size)) (fun(k:Nat)=>ls.length-k) (0) ?_ ?_
 ·exact⟨Off.refl _ _,(hF52 49).trans (rfl),Nat.zero_le _,hb4,hl,(by simpa[fillI,idx] using hb48),hE,Nat.le_refl _⟩
 clear hl hE hb4 hb48
 rintro k f54 w55 ⟨hoff56,hs57,hk,hb4,hl,hb48,hE,hz53⟩
 refine wsr (rV (r_lss (k:=.i64) (a:=(k:Int)) (b:=((ls.length:Nat):Int)) hs57 ((hoff56 48 rfl).trans (hF52 48))) (RL.nil (wseq ?_)))
 refine wcD (p:=(k:Int)<((ls.length:Nat):Int)) rfl (fun hb58 hb58p=>?_) (fun hb58 hb58p=>?_)
 ·refine wskip ?_
  refine wseq ?_
  refine wblock ?_
  refine wsr (mV hs57 (aS (v:=(iv k)) rfl (RL.nil (wregion (mV (v:=(.slice (some ⟨b46,0,none⟩) (ls.length) (ls.length))) ((hoff56 9 rfl).trans (hF52 9)) (mV (v:=(iv k)) rfl (mV (v:=(iv k)) rfl (rV (r_indexAddr (i:=(k:Int)) uT22 ty3 rfl rfl oM oM) ?_))))))))
  refine RL.runs rfl rfl (h_set (g:=(gI .i64)) (vv:=(iv k)) (u:=(k:Int)) (i:=(k:Int)) ty3 rfl rfl rfl rfl rfl hb48 (k) oM oM) ?_
  rintro w59 ⟨ha60,hx61⟩
  have hx61z:=hx61.size
  replace hl:=hl.tr (hb48.sm hx61 (by (intro h;have:=h.2;omega)))
  replace hE:=Below.exc hE oM hx61 oM
  replace hb4:=hb4.exc hx61 oM
  replace hb48:=ha60
  refine RL.nil (wregion (rV (r_add (k:=.i64) (a:=(k:Int)) (b:=1) (c:=(k:Int)+1) hs57 rfl (wi64 oM)) (mV (v:=(iv ((k:Int)+1))) rfl (RL.nil ?_))))
  refine⟨(k+1),⟨?_,?_,?_,?_,?_,?_,?_,?_⟩,?_⟩
  ·exact(by repeat (first|exact hoff56|refine Off.st ?_ dC _|refine Off.via hoff19 dC ?_|refine Off.eq hF15 ?_))
  ·first|rfl|exact int_eq oM|exact bool_eq (by simp)
  ·omega
  ·exact hb4
  ·exact hl
  ·rw[fill_set _ _ oM] at hb48;exact hb48
  ·exact hE
  ·omega
  (try dsimp only)
  omega
 refine wexit ?_
 refine wseq ?_
 have hkk:k=ls.length:=by omega
 rw[hkk,fill_all] at hb48
 refine wregion (mV (v:=(.slice (some ⟨b46,0,none⟩) (ls.length) (ls.length))) ((hoff56 9 rfl).trans (hF52 9)) (rV (r_makeFunc (vl:=[(.pointer (some ⟨b2,0,none⟩))]) (mpc ((hoff56 2 rfl).trans ((hF52 2).trans ((hoff19 2 rfl).trans (hF15 2)))) mpn)) ?_))
 have hq2:=hb4.lt
 refine RL.call rfl rfl dC (r_call (vl:=[(.slice (some ⟨b46,0,none⟩) (ls.length) (ls.length)),(.func (.func 52) #[] #[(.pointer (some ⟨b2,0,none⟩))])]) ent51 rfl) (sortStable_int (key:=me ls) (ok:=fun i=>0≤i∧i<(ls.length:Int)) ent52 (fun u hu x y hx hy=>curtail1 (hb4.exc hu oM) (hl.tr (hb48.sm hu (fun h=>by have:=h.2;omega))) hx hy:CmpOk Tryz.prog 52 [.pointer (some ⟨b2,0,none⟩)] (gI .i64) (me ls) (fun i=>0≤i∧i<(ls.length:Int)) b46 _) (Exc.of_ext (Ext.refl _)) hb48 oM (fun i hi=>mem_idx.1 hi)) ?_
 rintro _ w62 ⟨rfl,⟨Pm,har2,hPs,hPe⟩,hxs⟩
 have hxsz:=hxs.size
 replace hl:=hl.tr (hb48.sm hxs (by (intro h;have:=h.2;omega)))
 replace hE:=Below.exc hE oM hxs oM
 replace hb4:=hb4.exc hxs oM
 replace hb48:=har2
 refine RL.nil (wseq ?_)
 have hPl:Pm.length=ls.length:=by have:=hPe.length;rw[length_idx] at this;omega
 refine wregion ?_
 have hc63:=hb4.cell (j:=0) (u:=vl) rfl
 refine rV (r_load uT53 ag53 ((hoff56 2 rfl).trans ((hF52 2).trans ((hoff19 2 rfl).trans (hF15 2)))) hc63) (rV (r_len uT53 hv9) ?_)
 have hn69:(((ls.length:Nat):Int):Int)=((ls.length:Nat):Int):=by omega
 refine rU (h_make1 (n:=ls.length) uT22 ty3 rfl (int_eq hn69) (int_eq hn69) oM oM) ?_
 rintro _ w64 ⟨b65,rfl,hs68,hb67,he66⟩
 have he66z:=he66.size
 replace hl:=hl.tr (Sm.ext he66)
 replace hE:=Below.ext hE oM he66
 replace hb4:=hb4.ext he66
 replace hb48:=hb48.ext he66
 replace hb67:=Ar.made (g:=(gI .i64)) (z:=(0:Int)) hb67 rfl
 have hb67l:=hb67.lt
 refine aS (v:=(.slice (some ⟨b65,0,none⟩) (ls.length) (ls.length))) rfl (RL.nil (wseq ?_))
 refine wblock ?_
 refine wset fun F70 hF71=>?_
 refine wloop (σ:=List Int×List Int×List Int×Int×Nat) (fun(s:List Int×List Int×List Int×Int×Nat) fl wl=>match s with|(Dn,R,C,nd,o)=>Off (1::(9::(rg 12 3 (rg 63 58 [])))) F70 fl∧fl 1=(iv nd)∧fl 9=(.slice (some ⟨b46,o,none⟩) (R.length) (R.length))∧(Pm=Dn++R)∧(∀i∈Dn,∀j∈R,me ls i<me ls j)∧(nd=max 0 (need-sumA ls Dn))∧(∀i,0≤i→i<(ls.length:Int)→C.getD i.toNat default=if i∈Dn then cutF ls need i else 0)∧(∀x∈C,0≤x∧x≤((35184372088832+32*Dn.length:Nat):Int))∧(o+R.length≤ls.length)∧(Bk wl b2 53 [vl])∧(Ss loadC 2 (fun b T=>D b T∧b<w.heap.size) wl vl ls)∧(Ar (gI .i64) wl b46 3 o R R.length)∧(Ar (gI .i64) wl b65 3 0 C ls.length)∧(Below w.heap.size w wl)∧(w64.heap.size≤wl.heap.size)) (fun(s:List Int×List Int×List Int×Int×Nat)=>match s with|(Dn,R,C,nd,o)=>R.length) ([],Pm,List.replicate ls.length 0,need,0) ?_ ?_
 ·exact⟨Off.refl _ _,(hF71 1).trans ((((hoff56 1 rfl).trans ((hF52 1).trans ((hoff19 1 rfl).trans ((hF15 1).trans (hF0 1)))))).trans rfl),(hF71 9).trans ((((hoff56 9 rfl).trans (hF52 9))).trans (slen hPl)),rfl,by simp,by simp only[sumA,List.map_nil,List.sum_nil];omega,(fun i h0 h1=>by simp[show i.toNat<ls.length by omega]),(fun x hx=>by have:=List.eq_of_mem_replicate hx;omega),by omega,hb4,hl,(by rw[hPl];exact hb48),hb67,hE,Nat.le_refl _⟩
 clear hl hE hb4 hb48 hb67
 rintro⟨Dn,R,C,nd,o⟩ f73 w74 ⟨hoff75,hs76,hs77,hOO,hB,hnd,hC,hCb,hor,hb4,hl,hb48,hb67,hE,hz72⟩
 refine wseq (wsr (mV hs77 (rV (r_len uT22 rfl) (rV (r_gtr (k:=.i64) (a:=((R.length:Nat):Int)) (b:=0) rfl rfl) (mV (v:=(bd (0<((R.length:Nat):Int)))) rfl ?_)))))
 rcases bD (0<((R.length:Nat):Int)) with ⟨hb78,hb78p⟩|⟨hb78,hb78p⟩
 ·refine RL.gval rfl rfl (bool_eq hb78) rfl dC (r_move_as (v:=(iv nd)) hs76) ?_
  refine RL.gval rfl rfl (bool_eq hb78) rfl dC (r_gtr (k:=.i64) (a:=nd) (b:=0) rfl rfl) ?_
  refine rV (r_pick_t (v:=(bd (0<nd))) (bool_eq hb78) rfl) (RL.nil ?_)
  refine wcD (p:=0<nd) rfl (fun hb79 hb79p=>?_) (fun hb79 hb79p=>?_)
  ·refine wskip ?_
   refine wblock ?_
   refine wseq ?_
   have hOl:Dn.length+R.length=ls.length:=by have:=congrArg List.length hOO;simp at this;omega
   have hRin:∀i∈R,0≤i∧i<(ls.length:Int):=fun i hi=>mem_idx.1 (hPe.symm.mem (by rw[hOO];exact List.mem_append_right _ hi))
   refine wregion (aS (v:=(iv 0)) rfl (RL.nil (wsr (aS (v:=(iv 0)) rfl (RL.nil (wseq ?_))))))
   refine wblock ?_
   refine wset fun F80 hF81=>?_
   refine wloop (σ:=Nat) (fun(k:Nat) fl wl=>Off (rg 12 2 (rg 70 34 [])) F80 fl∧fl 12=(iv k)∧fl 13=(iv (sumA ls (R.take k)))∧(k≤R.length)∧(∀j∈R.take k,me ls j=me ls (R.getD 0 default))∧(0≤sumA ls (R.take k)∧sumA ls (R.take k)≤k*1048576)∧(Bk wl b2 53 [vl])∧(Ss loadC 2 (fun b T=>D b T∧b<w.heap.size) wl vl ls)∧(Ar (gI .i64) wl b46 3 o R R.length)∧(Ar (gI .i64) wl b65 3 0 C ls.length)∧(Below w.heap.size w wl)∧(w74.heap.size≤wl.heap.size)) (fun(k:Nat)=>R.length-k) (0) ?_ ?_
   ·exact⟨Off.refl _ _,(hF81 12).trans (rfl),(hF81 13).trans ((int_eq (by simp[sumA]))),Nat.zero_le _,by simp,by simp[sumA],hb4,hl,hb48,hb67,hE,Nat.le_refl _⟩
   clear hl hE hb4 hb48 hb67
   rintro k f83 w84 ⟨hoff85,hs86,hs87,hkR,hsame,hsk,hb4,hl,hb48,hb67,hE,hz82⟩
   refine wseq (wseq ?_)
   refine wdraw mixed fun w88 he89=>?_
   have he89z:=he89.size
   replace hl:=hl.tr (Sm.ext he89)
   replace hE:=Below.ext hE oM he89
   replace hb4:=hb4.ext he89
   replace hb48:=hb48.ext he89
   replace hb67:=hb67.ext he89
   refine ra 0 rfl (fun _=>r_move_as (v:=(iv k)) hs86) ?_
   refine ra 1 rfl (fun _=>r_move_as (v:=(.slice (some ⟨b46,o,none⟩) (R.length) (R.length))) ((hoff85 9 rfl).trans ((hF81 9).trans hs77))) ?_
   refine ra 2 rfl (fun _=>r_len uT22 rfl) ?_
   refine ra 3 rfl (fun _=>r_lss (k:=.i64) (a:=(k:Int)) (b:=((R.length:Nat):Int)) rfl rfl) ?_
   refine ra 4 rfl (fun _=>r_move_as (v:=(bd ((k:Int)<((R.length:Nat):Int)))) rfl) ?_
   rcases bD ((k:Int)<((R.length:Nat):Int)) with ⟨hb90,hb90p⟩|⟨hb90,hb90p⟩
   ·have hc91:=hb4.cell (j:=0) (u:=vl) rfl
    refine RA.grd 5 rfl kR rfl rfl rfl (bool_eq hb90) rfl dC (Ext.refl _) (fun u hu=>r_load uT53 ag53 ((hoff85 2 rfl).trans ((hF81 2).trans ((hoff75 2 rfl).trans ((hF71 2).trans ((hoff56 2 rfl).trans ((hF52 2).trans ((hoff19 2 rfl).trans (hF15 2)))))))) (cell_ext hu hc91)) ?_
    refine RA.gtake 6 rfl kR rfl rfl (bool_eq hb90) rfl dC (fun _=>r_move_as (v:=(.slice (some ⟨b46,o,none⟩) (R.length) (R.length))) ((hoff85 9 rfl).trans ((hF81 9).trans hs77))) ?_
    refine RA.gtake 7 rfl kR rfl rfl (bool_eq hb90) rfl dC (fun _=>r_move_as (v:=(iv k)) hs86) ?_
    refine RA.gtake 8 rfl kR rfl rfl (bool_eq hb90) rfl dC (fun _=>r_indexAddr (i:=(k:Int)) uT22 ty3 rfl rfl oM oM) ?_
    have hkl:k<R.length:=by omega
    obtain⟨r,hrk⟩:∃r,r=R.getD k default:=⟨_,rfl⟩
    have hrr:=hRin r (by rw[hrk];exact getD_mem _ _ hkl)
    have hrb:=hls (ls.getD r.toNat default) (getD_mem _ _ oM)
    obtain⟨r0,hr0⟩:∃r,r=R.getD 0 default:=⟨_,rfl⟩
    have hr0r:=hRin r0 (by rw[hr0];exact getD_mem _ _ oM)
    have hc92:=hb48.cell (i:=(k:Int)) (k) oM oM
    rw[show R.getD (k) default=r from hrk.symm] at hc92
    refine RA.grd 9 rfl kR rfl rfl rfl (bool_eq hb90) rfl dC (Ext.refl _) (fun u hu=>r_load (v:=(iv r)) uT3 ag3 rfl (cell_ext hu hc92)) ?_
    obtain⟨b93,o94,c95,hv96,hc97⟩:=hl.ix (i:=r) (r.toNat) oM oM
    refine RA.gtake 10 rfl kR rfl rfl (bool_eq hb90) rfl dC (fun _=>r_indexAddr (i:=r) uT53 ty61 hv96 rfl oM oM) ?_
    refine RA.gtake 11 rfl kR rfl rfl (bool_eq hb90) rfl dC (fun _=>r_fieldAddr uT61 rfl ty3 rfl) ?_
    refine RA.grd 12 rfl kR rfl rfl rfl (bool_eq hb90) rfl dC (Ext.refl _) (fun u hu=>r_load (v:=(iv ((ls.getD (r.toNat) default).2))) uT3 ag3 rfl (cell_ext hu (hc97 1 _ rfl))) ?_
    have hc98:=hb4.cell (j:=0) (u:=vl) rfl
    refine RA.grd 13 rfl kR rfl rfl rfl (bool_eq hb90) rfl dC (Ext.refl _) (fun u hu=>r_load uT53 ag53 ((hoff85 2 rfl).trans ((hF81 2).trans ((hoff75 2 rfl).trans ((hF71 2).trans ((hoff56 2 rfl).trans ((hF52 2).trans ((hoff19 2 rfl).trans (hF15 2)))))))) (cell_ext hu hc98)) ?_
    refine RA.gtake 14 rfl kR rfl rfl (bool_eq hb90) rfl dC (fun _=>r_move_as (v:=(.slice (some ⟨b46,o,none⟩) (R.length) (R.length))) ((hoff85 9 rfl).trans ((hF81 9).trans hs77))) ?_
    refine RA.gtake 15 rfl kR rfl rfl (bool_eq hb90) rfl dC (fun _=>r_indexAddr (i:=0) uT22 ty3 rfl rfl oM oM) ?_
    have hc99:=hb48.cell (i:=0) (0) oM oM
    rw[show R.getD (0) default=r0 from hr0.symm] at hc99
    refine RA.grd 16 rfl kR rfl rfl rfl (bool_eq hb90) rfl dC (Ext.refl _) (fun u hu=>r_load (v:=(iv r0)) uT3 ag3 rfl (cell_ext hu hc99)) ?_
    obtain⟨b100,o101,c102,hv103,hc104⟩:=hl.ix (i:=r0) (r0.toNat) oM oM
    refine RA.gtake 17 rfl kR rfl rfl (bool_eq hb90) rfl dC (fun _=>r_indexAddr (i:=r0) uT53 ty61 hv103 rfl oM oM) ?_
    refine RA.gtake 18 rfl kR rfl rfl (bool_eq hb90) rfl dC (fun _=>r_fieldAddr uT61 rfl ty3 rfl) ?_
    refine RA.grd 19 rfl kR rfl rfl rfl (bool_eq hb90) rfl dC (Ext.refl _) (fun u hu=>r_load (v:=(iv ((ls.getD (r0.toNat) default).2))) uT3 ag3 rfl (cell_ext hu (hc104 1 _ rfl))) ?_
    refine RA.gtake 20 rfl kR rfl rfl (bool_eq hb90) rfl dC (fun _=>r_eql (k:=.i64) (a:=(ls.getD (r.toNat) default).2) (b:=(ls.getD (r0.toNat) default).2) rfl rfl) ?_
    refine ra 21 rfl (fun _=>r_pick_t (v:=(bd (((ls.getD (r.toNat) default).2)=((ls.getD (r0.toNat) default).2)))) (bool_eq hb90) rfl) ?_
    refine RA.done kR ?_
    refine wcD (p:=((ls.getD (r.toNat) default).2)=((ls.getD (r0.toNat) default).2)) rfl (fun hb105 hb105p=>?_) (fun hb105 hb105p=>?_)
    ·have hmm:me ls r=me ls (R.getD 0 default):=by rw[←hr0];exact hb105p
     refine wskip ?_
     refine wblock ?_
     refine wseq ?_
     refine wdraw mixed fun w106 he107=>?_
     have he107z:=he107.size
     replace hl:=hl.tr (Sm.ext he107)
     replace hE:=Below.ext hE oM he107
     replace hb4:=hb4.ext he107
     replace hb48:=hb48.ext he107
     replace hb67:=hb67.ext he107
     refine ra 0 rfl (fun _=>r_move_as (v:=(iv (sumA ls (R.take k)))) hs87) ?_
     have hc108:=hb4.cell (j:=0) (u:=vl) rfl
     refine RA.rd 1 rfl kR rfl rfl rfl dC (Ext.refl _) (fun u hu=>r_load uT53 ag53 ((hoff85 2 rfl).trans ((hF81 2).trans ((hoff75 2 rfl).trans ((hF71 2).trans ((hoff56 2 rfl).trans ((hF52 2).trans ((hoff19 2 rfl).trans (hF15 2)))))))) (cell_ext hu hc108)) ?_
     refine ra 2 rfl (fun _=>r_move_as (v:=(.slice (some ⟨b46,o,none⟩) (R.length) (R.length))) ((hoff85 9 rfl).trans ((hF81 9).trans hs77))) ?_
     refine ra 3 rfl (fun _=>r_move_as (v:=(iv k)) hs86) ?_
     refine ra 4 rfl (fun _=>r_indexAddr (i:=(k:Int)) uT22 ty3 rfl rfl oM oM) ?_
     have hc109:=hb48.cell (i:=(k:Int)) (k) oM oM
     rw[show R.getD (k) default=r from hrk.symm] at hc109
     refine RA.rd 5 rfl kR rfl rfl rfl dC (Ext.refl _) (fun u hu=>r_load (v:=(iv r)) uT3 ag3 rfl (cell_ext hu hc109)) ?_
     obtain⟨b110,o111,c112,hv113,hc114⟩:=hl.ix (i:=r) (r.toNat) oM oM
     refine ra 6 rfl (fun _=>r_indexAddr (i:=r) uT53 ty61 hv113 rfl oM oM) ?_
     refine ra 7 rfl (fun _=>r_fieldAddr uT61 rfl ty3 rfl) ?_
     refine RA.rd 8 rfl kR rfl rfl rfl dC (Ext.refl _) (fun u hu=>r_load (v:=(iv ((ls.getD (r.toNat) default).1))) uT3 ag3 rfl (cell_ext hu (hc114 0 _ rfl))) ?_
     refine ra 9 rfl (fun _=>r_add (k:=.i64) (a:=sumA ls (R.take k)) (b:=(ls.getD (r.toNat) default).1) (c:=(sumA ls (R.take k))+((ls.getD (r.toNat) default).1)) rfl rfl (wi64 oM)) ?_
     refine ra 10 rfl (fun _=>r_assign_as (v:=(iv ((sumA ls (R.take k))+((ls.getD (r.toNat) default).1)))) rfl) ?_
     refine RA.done kR ?_
     refine wregion (mV hs86 (rV (r_add (k:=.i64) (a:=(k:Int)) (b:=1) (c:=(k:Int)+1) rfl rfl (wi64 oM)) (aS (v:=(iv ((k:Int)+1))) rfl (RL.nil ?_))))
     refine⟨(k+1),⟨?_,?_,?_,?_,?_,?_,?_,?_,?_,?_,?_,?_⟩,?_⟩
     ·exact(by repeat (first|exact hoff85|refine Off.st ?_ dC _|refine Off.via hoff75 dC ?_|refine Off.eq hF71 ?_|refine Off.via hoff56 dC ?_|refine Off.eq hF52 ?_|refine Off.via hoff19 dC ?_|refine Off.eq hF15 ?_))
     ·first|rfl|exact int_eq oM|exact bool_eq (by simp)
     ·exact int_eq (by rw[take_snoc R k hkl,←hrk,sumA_append];simp[sumA])
     ·omega
     ·rw[take_snoc R k hkl];intro p hp;rcases List.mem_append.1 hp with hp|hp;exact hsame p hp;rw[List.mem_singleton] at hp;rw[hp,←hrk];exact hmm
     ·rw[take_snoc R k hkl,←hrk,sumA_append];have:=hls (ls.getD r.toNat default) (getD_mem _ _ oM);simp only[sumA,List.map_cons,List.map_nil,List.sum_cons,List.sum_nil] at*;omega
     ·exact hb4
     ·exact hl
     ·exact hb48
     ·exact hb67
     ·exact hE
     ·omega
     (try dsimp only)
     omega
    have hend:k=R.length∨me ls (R.getD k default)≠me ls (R.getD 0 default):=.inr (by rw[←hrk,←hr0];exact hb105p)
    refine wexit ?_
    refine wseq ?_
    have hk0:0<k:=by rcases Nat.eq_zero_or_pos k with h|h;(subst h;rcases hend with h|h;omega;exact absurd rfl h);exact h
    refine wregion (mV (v:=(iv nd)) ((hoff85 1 rfl).trans ((hF81 1).trans hs76)) (mV hs87 (rV (r_min2 (a:=nd) (b:=sumA ls (R.take k)) rfl rfl) ?_)))
    obtain⟨pt,hpt⟩:∃p,p=if sumA ls (R.take k)<nd then sumA ls (R.take k) else nd:=⟨_,rfl⟩
    have hptb:0≤pt∧pt≤nd∧pt≤sumA ls (R.take k):=by rw[hpt];split<;>omega
    have hRl:R.length≤32:=by omega
    have hndb:nd≤33554432:=by have h9:=sumA_idx ls;have h10:=(sumA_nonneg hls (G:=idx ls.length) (fun i hi=>mem_idx.1 hi)).2;have h11:=(sumA_nonneg hls (G:=Dn) (fun i hi=>mem_idx.1 (hPe.symm.mem (by rw[hOO];exact List.mem_append_left _ hi)))).1;rw[length_idx] at h10;omega
    refine aS (v:=.int .i64 pt) (int_eq hpt.symm) (RL.nil (wseq ?_))
    have hCl:=hb67.2
    refine wdraw mixed fun w115 he116=>?_
    have he116z:=he116.size
    replace hl:=hl.tr (Sm.ext he116)
    replace hE:=Below.ext hE oM he116
    replace hb4:=hb4.ext he116
    replace hb48:=hb48.ext he116
    replace hb67:=hb67.ext he116
    have hc117:=hb4.cell (j:=0) (u:=vl) rfl
    refine RA.rd 0 rfl kR rfl rfl rfl dC (Ext.refl _) (fun u hu=>r_load uT53 ag53 ((hoff85 2 rfl).trans ((hF81 2).trans ((hoff75 2 rfl).trans ((hF71 2).trans ((hoff56 2 rfl).trans ((hF52 2).trans ((hoff19 2 rfl).trans (hF15 2)))))))) (cell_ext hu hc117)) ?_
    refine ra 1 rfl (fun _=>r_move_as (v:=(.slice (some ⟨b46,o,none⟩) (R.length) (R.length))) ((hoff85 9 rfl).trans ((hF81 9).trans hs77))) ?_
    refine ra 2 rfl (fun _=>r_move_as (v:=(iv k)) hs86) ?_
    refine ra 3 rfl (fun _=>r_sh (h:=(k:Int)) (kk:=k) uT22 ty3 rfl rfl oM oM) ?_
    refine ra 4 rfl (fun _=>r_move_as (v:=(iv pt)) rfl) ?_
    refine ra 5 rfl (fun _=>r_move_as (v:=(iv (sumA ls (R.take k)))) hs87) ?_
    refine ra 6 rfl (fun _=>r_move_as (v:=(.slice (some ⟨b65,0,none⟩) (ls.length) (ls.length))) ((hoff85 11 rfl).trans ((hF81 11).trans ((hoff75 11 rfl).trans (hF71 11))))) ?_
    refine RA.all [7] kR rfl ?_
    have hq1:=hb48.lt
    have hq2:=hb67.lt
    have hgs:=(hb48.sc (D:=fun b _=>b=b46) (Nat.le_refl _) oM rfl).take k oM rfl
    refine RS.call rfl rfl rfl dC (r_call (vl:=[vl,(.slice (some ⟨b46,o,none⟩) (k) (R.length)),(iv pt),(iv (sumA ls (R.take k))),(.slice (some ⟨b65,0,none⟩) (ls.length) (ls.length))]) ent54 rfl) (divide_spec hl hgs hb67 (fun h=>by have:=h.2;omega) (fun h=>by omega) oM oM hls (by simp;omega) (by simp;omega) (fun i hi=>hRin i (List.mem_of_mem_take hi)) rfl rfl oM hCb oM) ?_ RS.nil
    rintro _ w119 ⟨rfl,⟨C',hc2,hds,hCb2⟩,hxd⟩
    refine⟨.inr (.inl kR),?_⟩
    have hxdz:=hxd.size
    replace hl:=hl.tr (hb67.sm hxd (by (intro h;have:=h.2;omega)))
    replace hE:=Below.exc hE oM hxd oM
    replace hb4:=hb4.exc hxd oM
    replace hb48:=hb48.exc hxd oM
    replace hb67:=hc2
    refine RA.done kR ?_
    refine wseq ?_
    have hst:=curt_step hls (hOO▸hPs) (hOO▸hPe) hB hk0 hkR hsame hend hnd oM hpt hCl hC hds
    refine wregion (mV (v:=(iv nd)) ((hoff85 1 rfl).trans ((hF81 1).trans hs76)) (mV (v:=(iv pt)) rfl (rV (r_sub (k:=.i64) (a:=nd) (b:=pt) (c:=nd-pt) rfl rfl (wi64 oM)) (aS (v:=(iv (nd-pt))) rfl (RL.nil (wregion (mV (v:=(.slice (some ⟨b46,o,none⟩) (R.length) (R.length))) ((hoff85 9 rfl).trans ((hF81 9).trans hs77)) (mV hs86 (rV (r_sl (l:=(k:Int)) (kk:=k) uT22 ty3 rfl rfl oM oM) (aS (v:=(.slice (if R.length=k then ((some ⟨b46,o,none⟩):Option Addr) else ((some ⟨b46,o,none⟩):Option Addr).map (·.add (k*1))) (R.length-k) (R.length-k))) rfl (RL.nil ?_)))))))))))
    refine⟨(Dn++R.take k,R.drop k,C',nd-pt,(if R.length=k then o else o+k)),⟨?_,?_,?_,?_,?_,?_,?_,?_,?_,?_,?_,?_,?_,?_,?_⟩,?_⟩
    ·exact(by repeat (first|exact hoff75|refine Off.st ?_ dC _|refine Off.via hoff85 dC ?_|refine Off.eq hF81 ?_|refine Off.via hoff56 dC ?_|refine Off.eq hF52 ?_|refine Off.via hoff19 dC ?_|refine Off.eq hF15 ?_))
    ·first|rfl|exact int_eq oM|exact bool_eq (by simp)
    ·exact sl_if
    ·rw[hOO];simp
    ·exact hst.1
    ·exact hst.2.1
    ·exact hst.2.2
    ·intro x hx;have:=hCb2 x hx;simp;omega
    ·simp;split<;>omega
    ·exact hb4
    ·exact hl
    ·exact ar_cut hb48 oM
    ·exact hb67
    ·exact hE
    ·omega
    simp only[List.length_drop];omega
   have hend:k=R.length∨me ls (R.getD k default)≠me ls (R.getD 0 default):=.inl oM
   refine RA.gno 5 rfl kR rfl rfl (.inl (bool_eq hb90)) rfl dC ?_
   refine RA.gno 6 rfl kR rfl rfl (.inl (bool_eq hb90)) rfl dC ?_
   refine RA.gno 7 rfl kR rfl rfl (.inl (bool_eq hb90)) rfl dC ?_
   refine RA.gno 8 rfl kR rfl rfl (.inl (bool_eq hb90)) rfl dC ?_
   refine RA.gno 9 rfl kR rfl rfl (.inl (bool_eq hb90)) rfl dC ?_
   refine RA.gno 10 rfl kR rfl rfl (.inl (bool_eq hb90)) rfl dC ?_
   refine RA.gno 11 rfl kR rfl rfl (.inl (bool_eq hb90)) rfl dC ?_
   refine RA.gno 12 rfl kR rfl rfl (.inl (bool_eq hb90)) rfl dC ?_
   refine RA.gno 13 rfl kR rfl rfl (.inl (bool_eq hb90)) rfl dC ?_
   refine RA.gno 14 rfl kR rfl rfl (.inl (bool_eq hb90)) rfl dC ?_
   refine RA.gno 15 rfl kR rfl rfl (.inl (bool_eq hb90)) rfl dC ?_
   refine RA.gno 16 rfl kR rfl rfl (.inl (bool_eq hb90)) rfl dC ?_
   refine RA.gno 17 rfl kR rfl rfl (.inl (bool_eq hb90)) rfl dC ?_
   refine RA.gno 18 rfl kR rfl rfl (.inl (bool_eq hb90)) rfl dC ?_
   refine RA.gno 19 rfl kR rfl rfl (.inl (bool_eq hb90)) rfl dC ?_
   refine RA.gno 20 rfl kR rfl rfl (.inl (bool_eq hb90)) rfl dC ?_
   refine ra 21 rfl (fun _=>r_pick_f (v:=(.bool false)) (bool_eq hb90) rfl) ?_
   refine RA.done kR ?_
   refine wcond_f rfl ?_
   refine wexit ?_
   refine wseq ?_
   have hk0:0<k:=by rcases Nat.eq_zero_or_pos k with h|h;(subst h;rcases hend with h|h;omega;exact absurd rfl h);exact h
   refine wregion (mV (v:=(iv nd)) ((hoff85 1 rfl).trans ((hF81 1).trans hs76)) (mV hs87 (rV (r_min2 (a:=nd) (b:=sumA ls (R.take k)) rfl rfl) ?_)))
   obtain⟨pt,hpt⟩:∃p,p=if sumA ls (R.take k)<nd then sumA ls (R.take k) else nd:=⟨_,rfl⟩
   have hptb:0≤pt∧pt≤nd∧pt≤sumA ls (R.take k):=by rw[hpt];split<;>omega
   have hRl:R.length≤32:=by omega
   have hndb:nd≤33554432:=by have h9:=sumA_idx ls;have h10:=(sumA_nonneg hls (G:=idx ls.length) (fun i hi=>mem_idx.1 hi)).2;have h11:=(sumA_nonneg hls (G:=Dn) (fun i hi=>mem_idx.1 (hPe.symm.mem (by rw[hOO];exact List.mem_append_left _ hi)))).1;rw[length_idx] at h10;omega
   refine aS (v:=.int .i64 pt) (int_eq hpt.symm) (RL.nil (wseq ?_))
   have hCl:=hb67.2
   refine wdraw mixed fun w121 he122=>?_
   have he122z:=he122.size
   replace hl:=hl.tr (Sm.ext he122)
   replace hE:=Below.ext hE oM he122
   replace hb4:=hb4.ext he122
   replace hb48:=hb48.ext he122
   replace hb67:=hb67.ext he122
   have hc123:=hb4.cell (j:=0) (u:=vl) rfl
   refine RA.rd 0 rfl kR rfl rfl rfl dC (Ext.refl _) (fun u hu=>r_load uT53 ag53 ((hoff85 2 rfl).trans ((hF81 2).trans ((hoff75 2 rfl).trans ((hF71 2).trans ((hoff56 2 rfl).trans ((hF52 2).trans ((hoff19 2 rfl).trans (hF15 2)))))))) (cell_ext hu hc123)) ?_
   refine ra 1 rfl (fun _=>r_move_as (v:=(.slice (some ⟨b46,o,none⟩) (R.length) (R.length))) ((hoff85 9 rfl).trans ((hF81 9).trans hs77))) ?_
   refine ra 2 rfl (fun _=>r_move_as (v:=(iv k)) hs86) ?_
   refine ra 3 rfl (fun _=>r_sh (h:=(k:Int)) (kk:=k) uT22 ty3 rfl rfl oM oM) ?_
   refine ra 4 rfl (fun _=>r_move_as (v:=(iv pt)) rfl) ?_
   refine ra 5 rfl (fun _=>r_move_as (v:=(iv (sumA ls (R.take k)))) hs87) ?_
   refine ra 6 rfl (fun _=>r_move_as (v:=(.slice (some ⟨b65,0,none⟩) (ls.length) (ls.length))) ((hoff85 11 rfl).trans ((hF81 11).trans ((hoff75 11 rfl).trans (hF71 11))))) ?_
   refine RA.all [7] kR rfl ?_
   have hq1:=hb48.lt
   have hq2:=hb67.lt
   have hgs:=(hb48.sc (D:=fun b _=>b=b46) (Nat.le_refl _) oM rfl).take k oM rfl
   refine RS.call rfl rfl rfl dC (r_call (vl:=[vl,(.slice (some ⟨b46,o,none⟩) (k) (R.length)),(iv pt),(iv (sumA ls (R.take k))),(.slice (some ⟨b65,0,none⟩) (ls.length) (ls.length))]) ent54 rfl) (divide_spec hl hgs hb67 (fun h=>by have:=h.2;omega) (fun h=>by omega) oM oM hls (by simp;omega) (by simp;omega) (fun i hi=>hRin i (List.mem_of_mem_take hi)) rfl rfl oM hCb oM) ?_ RS.nil
   rintro _ w125 ⟨rfl,⟨C',hc2,hds,hCb2⟩,hxd⟩
   refine⟨.inr (.inl kR),?_⟩
   have hxdz:=hxd.size
   replace hl:=hl.tr (hb67.sm hxd (by (intro h;have:=h.2;omega)))
   replace hE:=Below.exc hE oM hxd oM
   replace hb4:=hb4.exc hxd oM
   replace hb48:=hb48.exc hxd oM
   replace hb67:=hc2
   refine RA.done kR ?_
   refine wseq ?_
   have hst:=curt_step hls (hOO▸hPs) (hOO▸hPe) hB hk0 hkR hsame hend hnd oM hpt hCl hC hds
   refine wregion (mV (v:=(iv nd)) ((hoff85 1 rfl).trans ((hF81 1).trans hs76)) (mV (v:=(iv pt)) rfl (rV (r_sub (k:=.i64) (a:=nd) (b:=pt) (c:=nd-pt) rfl rfl (wi64 oM)) (aS (v:=(iv (nd-pt))) rfl (RL.nil (wregion (mV (v:=(.slice (some ⟨b46,o,none⟩) (R.length) (R.length))) ((hoff85 9 rfl).trans ((hF81 9).trans hs77)) (mV hs86 (rV (r_sl (l:=(k:Int)) (kk:=k) uT22 ty3 rfl rfl oM oM) (aS (v:=(.slice (if R.length=k then ((some ⟨b46,o,none⟩):Option Addr) else ((some ⟨b46,o,none⟩):Option Addr).map (·.add (k*1))) (R.length-k) (R.length-k))) rfl (RL.nil ?_)))))))))))
   refine⟨(Dn++R.take k,R.drop k,C',nd-pt,(if R.length=k then o else o+k)),⟨?_,?_,?_,?_,?_,?_,?_,?_,?_,?_,?_,?_,?_,?_,?_⟩,?_⟩
   ·exact(by repeat (first|exact hoff75|refine Off.st ?_ dC _|refine Off.via hoff85 dC ?_|refine Off.eq hF81 ?_|refine Off.via hoff56 dC ?_|refine Off.eq hF52 ?_|refine Off.via hoff19 dC ?_|refine Off.eq hF15 ?_))
   ·first|rfl|exact int_eq oM|exact bool_eq (by simp)
   ·exact sl_if
   ·rw[hOO];simp
   ·exact hst.1
   ·exact hst.2.1
   ·exact hst.2.2
   ·intro x hx;have:=hCb2 x hx;simp;omega
   ·simp;split<;>omega
   ·exact hb4
   ·exact hl
   ·exact ar_cut hb48 oM
   ·exact hb67
   ·exact hE
   ·omega
   simp only[List.length_drop];omega
  have hfin:R=[]∨nd≤0:=.inr oM
  refine wexit ?_
  refine wsr (mV (v:=(.slice (some ⟨b65,0,none⟩) (ls.length) (ls.length))) ((hoff75 11 rfl).trans (hF71 11)) (aS (v:=(.slice (some ⟨b65,0,none⟩) (ls.length) (ls.length))) rfl (aS (v:=(iv 0)) rfl (RL.nil ?_))))
  refine wret ?_
  refine⟨[(.slice (some ⟨b65,0,none⟩) (ls.length) (ls.length)),(iv 0)],⟨rfl,⟨rfl,trivial⟩⟩,?_⟩
  have hce:curtE ls need=0:=by unfold curtE;rw[if_neg oM,if_pos hls,if_neg oM]
  have hCC:=curt_end hls (hOO▸hPe) hB hnd hfin hb67.2 hC
  refine⟨.inr ⟨hce,_,rfl,?_⟩,hE⟩
  rw[←hCC]
  exact hb67.sc (Nat.le_refl _) oM oM
 have hfin:R=[]∨nd≤0:=.inl (List.eq_nil_of_length_eq_zero oM)
 refine RL.gno rfl rfl (bool_eq hb78) rfl dC ?_
 refine RL.gno rfl rfl (bool_eq hb78) rfl dC ?_
 refine rV (r_pick_f (v:=(.bool false)) (bool_eq hb78) rfl) (RL.nil ?_)
 refine wcond_f rfl ?_
 refine wexit ?_
 refine wsr (mV (v:=(.slice (some ⟨b65,0,none⟩) (ls.length) (ls.length))) ((hoff75 11 rfl).trans (hF71 11)) (aS (v:=(.slice (some ⟨b65,0,none⟩) (ls.length) (ls.length))) rfl (aS (v:=(iv 0)) rfl (RL.nil ?_))))
 refine wret ?_
 refine⟨[(.slice (some ⟨b65,0,none⟩) (ls.length) (ls.length)),(iv 0)],⟨rfl,⟨rfl,trivial⟩⟩,?_⟩
 have hce:curtE ls need=0:=by unfold curtE;rw[if_neg oM,if_pos hls,if_neg oM]
 have hCC:=curt_end hls (hOO▸hPe) hB hnd hfin hb67.2 hC
 refine⟨.inr ⟨hce,_,rfl,?_⟩,hE⟩
 rw[←hCC]
 exact hb67.sc (Nat.le_refl _) oM oM
end Go.Proofs.YtandhgfmfpmemaaGreat.W
namespace Go.Proofs.YtandhgfmfpmemaaGreat
open Go.Vg _root_.Go.Proofs.Tryz
open Go.Vm hiding sg sg_t sg_f sg_abs sg_neg sg_add sg_mul sg_self sg_canon sg_pos sg_zero sg_eq_zero sg_lt
open Go.Vy hiding val
set_option maxHeartbeats 1000000
theorem rc_sc {Z:Nat→Prop} {w:World} {A:Option Addr} {n c esz:Nat} {get:Nat→List CV} {v:Value} (h:Rc Z w (.r A n c esz get) v) (hv:v= .slice A n c) (hnc:n≤c) (vals:Nat→List Value) (hg:∀j,j<n→get j=(vals j).map CV.v) (hl:∀j,j<n→(vals j).length=esz):Sc (fun _ _=>True) w esz v n ((List.range n).map vals).flatten:=by
 have fl:∀m,m≤n→(((List.range m).map vals).flatten).length=m*esz:=fun m=>by
  induction m with
  |zero=>intro _;simp
  |succ m ih=>intro hm;rw[List.range_succ,List.map_append,List.flatten_append,List.length_append,ih oM,Nat.succ_mul];simp[hl m oM]
 cases h with
 |nil A c esz get hm=>exact⟨A,c,hv,Nat.zero_le _,hm,by simp,.inl rfl⟩
 |r b o n c esz get V hc hm hZ hcell hlen hel=>
  have hV:∀j,j<n→V j=vals j:=fun j hj=>by
   refine List.ext_getElem? fun i=>?_
   have h1:(V j).length=(vals j).length:=by rw[hlen j hj,hg j hj,List.length_map]
   by_cases hi:i<(vals j).length
   ·have h2:(V j)[i]? =some (V j)[i]:=List.getElem?_eq_getElem oM
    have h3:(get j)[i]? =some (CV.v (vals j)[i]):=by rw[hg j hj,List.getElem?_map,List.getElem?_eq_getElem hi];rfl
    have h4:=hel j hj i _ _ h3 h2
    rw[h2,List.getElem?_eq_getElem hi]
    generalize (vals j)[i]=y at h4 ⊢
    cases h4
    rfl
   rw[List.getElem?_eq_none oM,List.getElem?_eq_none oM]
  refine⟨some ⟨b,o,none⟩,c,hv,hc,hm,fl n (Nat.le_refl _),.inr ⟨b,o,rfl,rd_of_cells fun i u hi=>?_⟩⟩
  obtain⟨_,f2⟩:=flat_rc (Z:=fun _=>True) (get:=get) (o:=o) (V:=vals) n (fun j hj i u hu=>hcell j hj i u (by rw[hV j hj];exact hu)) (fun j hj=>hl j hj)
  exact(f2 i u hi).1
theorem rc_le {Z:Nat→Prop} {w:World} {A:Option Addr} {n c esz:Nat} {get:Nat→List CV} {v:Value} (h:Rc Z w (.r A n c esz get) v):n≤c:=by
 cases h with
 |nil=>exact Nat.zero_le _
 |r b o n c esz get V hc=>exact hc
theorem sg_rc {Z:Nat→Prop} {D:Nat→TypeId→Prop} {w:World} {v:Value} {xs:List Int} (h:Sg (gI .i64) D w v xs) (hz:∀b T,D b T→b<w.heap.size→Z b):∃A c,Rc Z w (intsR ⟨A,c,xs⟩) v:=by
 obtain⟨A,c,rfl,h1,h2,h3,h4⟩:=h
 refine⟨A,c,?_⟩
 by_cases hx:xs=[]
 ·subst hx
  exact Rc.nil A c 1 _ h2
 rcases h4 with h4|⟨b,o,rfl,hr⟩
 ·exact absurd (List.map_eq_nil_iff.1 h4) hx
 have hlt:Z b:=by
  rcases hr with h|⟨cs,T,fz,hh,hd,_⟩
  ·exact absurd (List.map_eq_nil_iff.1 h) hx
  exact hz b T hd (lt_of_heap hh)
 refine Rc.r b o xs.length c 1 _ (fun j=>[.int .i64 (xs.getD j 0)]) h1 h2 hlt (fun j hj i u hu=>?_) (fun j hj=>rfl) (fun j hj i c' u hc hu=>?_)
 ·match i,hu with
  |0,hu=>
   injection hu with hu
   subst hu
   refine⟨?_,rfl⟩
   have:=hr.cell (j:=j) (u:=.int .i64 (xs.getD j 0)) (by simp[hj])
   simpa using this
 match i,hc,hu with
 |0,hc,hu=>
  injection hc with hc
  injection hu with hu
  subst hc hu
  exact Rc.v _
abbrev fCur:FuncId:=20
theorem eCur:Ent Tryz.prog fCur:=Ent.of func20 rfl kR
theorem cur_c (x:Sl (Int×Int)) (need:Int):Ctr Tryz.prog fCur [] [.c (loadsS x),.c (iC need)] [] (CurR x.l need):=by
 refine⟨eCur,ClB.nil,fun ρ w vals hv hD hF=>?_⟩
 match vals,hv with
 |[v1,v2],⟨h1,h2,_⟩=>
  have e2:=h2.inv_c.inv_v
  subst e2
  obtain⟨e1,hr⟩:=h1.inv_c.inv_r
  have hnc:x.l.length≤x.c:=rc_le hr
  have hsc:=rc_sc (e1▸hr) e1 hnc (fun j=>W.loadC (x.l.getD j default)) (fun j hj=>rfl) (fun j hj=>rfl)
  have hfl:(List.range x.l.length).map (fun j=>W.loadC (x.l.getD j default))=x.l.map W.loadC:=by
   refine List.ext_getElem (by simp) fun i h1 h2=>?_
   simp at h1
   simp[h1]
  rw[hfl] at hsc
  have hl:Ss W.loadC 2 (fun _ _=>True) w v1 x.l:=⟨⟨by decide,fun _ _=>rfl⟩,hsc⟩
  refine(W.curtail_spec (need:=need) hl).mono fun e w' ⟨v,he,hcp,hext⟩=>⟨v,he,?_⟩
  have hz:∀(b:Nat) (T:TypeId),w.heap.size≤b→b<w'.heap.size→Zf ρ 0 w' b:=fun b _ hb hlt=>⟨hlt,fun i hi=>absurd hi (Nat.not_lt_zero _),hD.zz.2 b (.inl hb),fun⟨F,hf,_⟩=>by rw[hF] at hf;cases hf⟩
  have mk:∀(A:Option Addr) (c:Nat) (xs:List Int) (va:Value),xs=(if curtE x.l need=0 then curtF x.l need else [])→Rc (Zf ρ 0 w') w' (intsR ⟨A,c,xs⟩) va→v= .tuple #[va,.int .i64 (curtE x.l need)]→∃g ρ',(CurR x.l need g).F.C∧DnW ρ w 0 (CurR x.l need g).F.bl ρ' w'∧Hd ρ' 0 w' (CurR x.l need g).F.d v∧ClB [] (CurR x.l need g).F.bl∧ρ'.F=(CurR x.l need g).F.fl:=fun A c xs va hxs hrc hv=>by
   subst hv
   refine⟨⟨A,c,xs⟩,ρ,hxs,hD.ext hext,?_,ClB.nil,hF⟩
   refine .t (vl:=[va,.int .i64 (curtE x.l need)]) rfl fun i d u hd hu=>?_
   match i,hd,hu with
   |0,hd,hu=>injection hd with hd;injection hu with hu;subst hd hu;exact .c (Hc.of_rc hrc)
   |1,hd,hu=>injection hd with hd;injection hu with hu;subst hd hu;exact .c (Rc.v _)
  rcases hcp with ⟨c1,c2⟩|⟨c1,vr,c2,c3⟩
  ·exact mk none 0 [] (.slice none 0 0) (by rw[if_neg c1]) (Rc.nil none 0 1 _ (Nat.zero_le _)) c2
  obtain⟨A,c,hrc⟩:=sg_rc (Z:=Zf ρ 0 w') c3 hz
  exact mk A c _ vr (by rw[if_pos c1]) hrc (by rw[c1];exact c2)
end Go.Proofs.YtandhgfmfpmemaaGreat
namespace Go.Proofs.YtandhgfmfpmemaaGreat
open Go.Vg _root_.Go.Proofs.Tryz
open Go.Vm hiding sg sg_t sg_f sg_abs sg_neg sg_add sg_mul sg_self sg_canon sg_pos sg_zero sg_eq_zero sg_lt
open Go.Vy hiding val
set_option maxHeartbeats 1000000
def ldOf (b:BusM) (h:Nat):Int×Int:=(b.demand.l.getD h 0,if b.shed=0 then 1048577 else b.shed)
def ldsOf (C:CaseM) (h:Nat):List (Int×Int):=C.buses.l.map fun b=>ldOf b h
structure HrOk (C:CaseM) (h:Nat):Prop where
 n:C.buses.l.length≤32
 d:∀b∈C.buses.l,h<b.demand.l.length∧0≤b.demand.l.getD h 0∧b.demand.l.getD h 0≤1048576
def lC2 (E:List (Int×Int)) (j:Nat):List CV:=[iC (E.getD j default).1,iC (E.getD j default).2]
def lL (E:List (Int×Int)):List CV:=flatR E.length (lC2 E)
theorem lL_len (E:List (Int×Int)):E.length*2=(lL E).length:=(flR_len (P:=lC2 E) (e:=2) fun j _=>rfl).symm
theorem lL_get {E:List (Int×Int)} {j:Nat} (h:j<E.length):lC2 E j=((lL E).drop (j*2)).take 2:=(flR_at (P:=lC2 E) (e:=2) (fun j _=>rfl) h).symm
theorem lL_snoc (E:List (Int×Int)) (p:Int×Int):lL (E++[p])=lL E++[iC p.1,iC p.2]:=by
 unfold lL
 rw[List.length_append,List.length_singleton,flatR_succ,flR_congr (P:=lC2 (E++[p])) (Q:=lC2 E) fun j hj=>by unfold lC2;simp only[List.getD,List.getElem?_append_left hj]]
 congr 1
 unfold lC2
 simp[List.getD]
theorem lL_clo (E:List (Int×Int)):∀c∈lL E,cloC c=true:=fl_clo (fun _=>all_clo rfl) _
theorem apL {E:List (Int×Int)} {a b:Int} {i:Nat} (h:E.length≤1000000):1*2=[iC a,iC b].length∧E.length*2=(lL E).length∧E.length+1≤maxLen∧(E.length+1)*16≤140737488355328∧∀c∈lL E++[iC a,iC b],menC i c=false:=
 ⟨rfl,lL_len E,by simp only[maxLen];omega,by omega,fun c hc=>by
  rcases List.mem_append.1 hc with hc|hc
  ·exact clo_men (lL_clo E c hc)
  exact men2 c hc⟩
theorem lds_take {C:CaseM} {h k:Nat} (hk:k<C.buses.l.length):(ldsOf C h).take (k+1)=(ldsOf C h).take k++[ldOf (gB C k) h]:=by
 unfold ldsOf
 rw[←List.map_take,←List.map_take,map_take (d:=bus0) hk]
theorem lds_len (C:CaseM) (h:Nat):(ldsOf C h).length=C.buses.l.length:=by simp[ldsOf]
theorem gB_mem {C:CaseM} {k:Nat} (h:k<C.buses.l.length):gB C k∈C.buses.l:=by
 show C.buses.l.getD k bus0∈_
 rw[gd h]
 exact List.getElem_mem h
theorem lds_sum {C:CaseM} {h:Nat} (hv:HrOk C h):∀k,k≤C.buses.l.length→0≤sumP ((ldsOf C h).take k)∧sumP ((ldsOf C h).take k)≤k*1048576
 |0,_=>by simp[sumP]
 |k+1,hk=>by
  have ih:=lds_sum hv k oM
  have hb:=hv.d (gB C k) (gB_mem hk)
  rw[lds_take oM,sumP_snoc]
  show _≤_+(gB C k).demand.l.getD h 0∧_+(gB C k).demand.l.getD h 0≤_
  omega
abbrev fLoadsOf:FuncId:=19
theorem eLoadsOf:Ent Tryz.prog fLoadsOf:=Ent.of func19 rfl kR
theorem bLoadsOf:Tryz.prog.funcs[fLoadsOf]? =some Tryz.f19:=func19
theorem loadsof_c (C:CaseM) {h:Nat} (hv:HrOk C h):Ctr Tryz.prog fLoadsOf [] [.a (C.C []),.c (iC h)] [] (fun g:Option Addr×Nat=>⟨.t [.c (loadsS ⟨g.1,g.2,ldsOf C h⟩),.c (iC (sumP (ldsOf C h)))],[],True⟩):=by
 have hn:=hv.n
 refine ctr_of gT eLoadsOf bLoadsOf rfl rfl rfl bL ClB.nil (VC_ok gT mxd (vnil 4 61 2 rfl bL ?_))
 refine vloopD (rn [(4,8),(12,36)]) 2 (fun k:Nat=>[(12,.c (iC k)),(4,.c (.s 1 ((ldsOf C h).take k).length)),(5,.c (iC (sumP ((ldsOf C h).take k))))]) (fun k=>[(30,0,C.C []),(61,2,lL ((ldsOf C h).take k))]) (·≤C.buses.l.length) (C.buses.l.length-·) 0 (fun _=>rfl) bL (fun _=>scB.cons rfl (scB.cons (sc_clo (lL_clo _)) scB.nil)) (fun _=>rfl) ?_
 refine⟨⟨rfl,Nat.zero_le _,⟨rfl,rfl⟩,⟨rfl,rfl,rfl⟩⟩,fun k hk=>VC_ok gT mxd ⟨fun h1=>VC_ok gT mxd ?_,fun h1=>VC_ok gT mxd ?_⟩⟩
 ·have hkl:k<C.buses.l.length:=by replace h1:(k:Int)<(C.buses.l.length:Nat):=h1;omega
  have hb:=hv.d (gB C k) (gB_mem hkl)
  have hs:=lds_sum hv k hk
  have hs1:=lds_sum hv (k+1) hkl
  have hs2:sumP ((ldsOf C h).take (k+1))=sumP ((ldsOf C h).take k)+(gB C k).demand.l.getD h 0:=by rw[lds_take hkl,sumP_snoc];rfl
  have hln:((ldsOf C h).take k).length≤1000000:=by rw[List.length_take];omega
  refine⟨k,⟨rfl,hkl⟩,.seq (sq 9 (List.range 10)),by kernel_rfl,h,⟨rfl,hb.1⟩,⟨fun h2=>VC_ok gT mxd ?_,fun h2=>VC_ok gT mxd ?_⟩⟩
  ·have hl:ldOf (gB C k) h=((gB C k).demand.l.getD h 0,1048577):=by unfold ldOf;rw[if_pos h2]
   refine⟨apL hln,men2,sumP ((ldsOf C h).take (k+1)),wi (z:=sumP ((ldsOf C h).take k)+(gB C k).demand.l.getD h 0) (h:=⟨hs2,by omega,by omega⟩),(k+1:Nat),wi,k+1,⟨hkl,show C.buses.l.length-(k+1)<C.buses.l.length-k by omega⟩,rfl,⟨rfl,?_⟩,rfl,?_,rfl⟩
   ·show _=(_,_,_)
    rw[lds_take hkl,lL_snoc,hl]
    rfl
   show _=_
   rw[lds_take hkl,List.length_append]
   rfl
  have hl:ldOf (gB C k) h=((gB C k).demand.l.getD h 0,(gB C k).shed):=by unfold ldOf;rw[if_neg h2]
  refine⟨apL hln,men2,sumP ((ldsOf C h).take (k+1)),wi (z:=sumP ((ldsOf C h).take k)+(gB C k).demand.l.getD h 0) (h:=⟨hs2,by omega,by omega⟩),(k+1:Nat),wi,k+1,⟨hkl,show C.buses.l.length-(k+1)<C.buses.l.length-k by omega⟩,rfl,⟨rfl,?_⟩,rfl,?_,rfl⟩
  ·show _=(_,_,_)
   rw[lds_take hkl,lL_snoc,hl]
   rfl
  show _=_
  rw[lds_take hkl,List.length_append]
  rfl
 have hkk:k=C.buses.l.length:=by replace h1:¬(k:Int)<(C.buses.l.length:Nat):=h1;replace hk:k≤C.buses.l.length:=hk;omega
 have ht:(ldsOf C h).take k=ldsOf C h:=List.take_of_length_le (by rw[lds_len];omega)
 rw[ht]
 refine vfrz 4 1 (lC2 (ldsOf C h)) rfl rfl (fun j hj=>lL_get hj) (lL_len _) bL (lL_clo _) bL fun A c h1 h2=>?_
 refine VC_ok gT mxd ?_
 exact⟨(A,c),trivial,fin_of ⟨rfl,rfl⟩ rfl trivial⟩
end Go.Proofs.YtandhgfmfpmemaaGreat
namespace Go.Proofs.YtandhgfmfpmemaaGreat
open Go.Vg
open Go.Vm hiding sg sg_t sg_f sg_abs sg_neg sg_add sg_mul sg_self sg_canon sg_pos sg_zero sg_eq_zero sg_lt
open Go.Vy hiding val
set_option maxHeartbeats 1000000
structure Val (C:CaseM):Prop where
 h:1≤C.hours∧C.hours≤24
 rl:(C.reserve.l.length:Int)=C.hours
 rr:∀z∈C.reserve.l,0≤z∧z≤1048576
 n:C.buses.l.length≤32
 b:∀j,j<C.buses.l.length→((gB C j).demand.l.length:Int)=C.hours∧∀z∈(gB C j).demand.l,0≤z∧z≤1048576
theorem St.hr_ok {S:St} {C:CaseM} {l:List Int} {lo hi k x f:Int} (h:(S.hr C l lo hi k x f).e=0):S.e=0∧(l.length:Int)=C.hours∧∀z∈l,lo≤z∧z≤hi:=by
 have h1:=St.nr_ok h dC
 have h2:=St.nr_ok h1.1 dC
 exact⟨h2.1,h2.2,h1.2⟩
theorem val_of {C:CaseM} (h:chkE C=0):Val C:=by
 have h8:(rstg C 8).e=0:=(chk_ref C).trans h
 have h1:=rstg_ok (i:=1) h8 dC
 have h2:=rstg_ok (i:=2) h8 dC
 have hf:(frm0 C ⟨0,0,0,0⟩).e=0:=iter_e0 (fun i S h=>by
  match i with
  |0=>exact St.nr_bad h
  |1=>exact St.nr_bad h
  |2=>exact St.nr_bad h
  |3=>exact St.nr_bad h
  |_+4=>exact St.nr_bad h) h1
 have k1:=St.nr_ok hf dC
 have k2:=St.hr_ok k1.1
 refine⟨hours_ok h1,k2.2.1,k2.2.2,by have:=k1.2.2;omega,fun j hj=>?_⟩
 have hb:=iter_ok (S:=rstg C 1) rBus_bad h2 hj
 exact(St.hr_ok (St.nr_ok hb dC).1).2
theorem Val.hr {C:CaseM} (v:Val C) {h:Nat} (hh:(h:Int)<C.hours):HrOk C h:=by
 refine⟨v.n,fun b hb=>?_⟩
 obtain⟨j,hj,rfl⟩:=List.getElem_of_mem hb
 obtain⟨h1,h2⟩:=v.b j hj
 have e:gB C j=C.buses.l[j]:=gd hj
 rw[e] at h1 h2
 have h3:h<C.buses.l[j].demand.l.length:=by omega
 exact⟨h3,h2 _ (by rw[gd h3];exact List.getElem_mem h3)⟩
/-! ### the cut of an hour -/
def ndH (C:CaseM) (L:Int) (h:Nat):Int:=(sumP (ldsOf C h)*L+99).tdiv 100
def cutH (C:CaseM) (L:Int) (h j:Nat):Int:=(curtF (ldsOf C h) (ndH C L h)).getD j 0
def newD (C:CaseM) (L:Int) (k j:Nat):Int:=(gB C j).demand.l.getD k 0-cutH C L k j
def newR (C:CaseM) (L:Int) (k:Nat):Int:=(C.reserve.l.getD k 0*(100-L)).tdiv 100
theorem sum_bd {C:CaseM} {h:Nat} (hv:HrOk C h):0≤sumP (ldsOf C h)∧sumP (ldsOf C h)≤33554432:=by
 have:=lds_sum hv C.buses.l.length (Nat.le_refl _)
 rw[List.take_of_length_le (by rw[lds_len];exact Nat.le_refl _)] at this
 have:=hv.n
 omega
theorem nd_bd {C:CaseM} {h:Nat} {L:Int} (hv:HrOk C h) (hL:0≤L∧L≤100):0≤ndH C L h∧ndH C L h≤sumP (ldsOf C h)∧0≤sumP (ldsOf C h)*L∧sumP (ldsOf C h)*L≤3355443200:=by
 have hs:=sum_bd hv
 have m1:0≤sumP (ldsOf C h)*L:=Int.mul_nonneg hs.1 hL.1
 have m2:sumP (ldsOf C h)*L≤sumP (ldsOf C h)*100:=Int.mul_le_mul_of_nonneg_left hL.2 hs.1
 have e:ndH C L h=(sumP (ldsOf C h)*L+99)/100:=Int.tdiv_eq_ediv_of_nonneg oM
 rw[e]
 omega
theorem lds_ok {C:CaseM} {h:Nat} (hv:HrOk C h):∀p∈ldsOf C h,0≤p.1∧p.1≤1048576:=fun p hp=>by
 obtain⟨b,hb,rfl⟩:=List.mem_map.1 hp
 exact(hv.d b hb).2
theorem curt_ok {C:CaseM} {h:Nat} {L:Int} (hv:HrOk C h) (hL:0≤L∧L≤100):curtE (ldsOf C h) (ndH C L h)=0:=by
 have:=nd_bd hv hL
 have hn:=hv.n
 unfold curtE
 rw[if_neg (by rw[lds_len];omega),if_pos (lds_ok hv),if_neg oM]
theorem cut_len {C:CaseM} {h:Nat} {L:Int}:(curtF (ldsOf C h) (ndH C L h)).length=C.buses.l.length:=by
 rw[←lds_len C h]
 simp[curtF,idx]
theorem cut_bd {C:CaseM} {h j:Nat} {L:Int} (hv:HrOk C h) (hj:j<C.buses.l.length):0≤cutH C L h j∧cutH C L h j≤35184372088833:=by
 have e:cutH C L h j=cutF (ldsOf C h) (ndH C L h) j:=by
  unfold cutH
  have:j<(ldsOf C h).length:=by rw[lds_len];exact hj
  simp[curtF,idx,this]
 rw[e]
 have hn:=hv.n
 exact cutG_bd (lds_ok hv) (by rw[lds_len];exact hn) (part_rng (lds_ok hv) (by rw[lds_len];exact hn) _ _) (by rw[lds_len];omega)
/-! ### the cells behind some hours -/
def demX (C:CaseM) (L:Int) (m j:Nat):List CV:=flatR (gB C j).demand.l.length fun k=>[iC (if k<m then newD C L k j else (gB C j).demand.l.getD k 0)]
def resX (C:CaseM) (L:Int) (m:Nat):List CV:=flatR C.reserve.l.length fun k=>[iC (if k<m then newR C L k else C.reserve.l.getD k 0)]
def getX (C:CaseM) (L:Int) (h b j:Nat):List CV:=if j<C.buses.l.length then demX C L (if j<b then h+1 else h) j else []
abbrev famX (C:CaseM) (L:Int) (A:Nat→Option Nat) (cap:Nat→Nat) (h b:Nat):Fam:=⟨3,1,C.buses.l.length,A,cap,getX C L h b⟩
theorem resX_clo {C:CaseM} {L:Int} {m:Nat}:∀c∈resX C L m,cloC c=true:=fl_clo (fun _=>all_clo rfl) _
theorem flR_get {P:Nat→List CV} {e n k o:Nat} (hl:∀j,(P j).length=e) (hk:k<n) (ho:o<e):(flatR n P)[k*e+o]? =(P k)[o]?:=by
 rw[←flR_at (fun j _=>hl j) hk,List.getElem?_take,if_pos ho,List.getElem?_drop]
theorem flR1 {f:Nat→CV} {n k:Nat} (hk:k<n):(flatR n fun j=>[f j])[k*1]? =some (f k):=flR_get (e:=1) (o:=0) (fun _=>rfl) hk dC
theorem flR1_put {f g:Nat→CV} {n k:Nat} {c:CV} (hk:k<n) (hg:∀j,j<n→(if j=k then c else f j)=g j):splC (flatR n fun j=>[f j]) (k*1) [c]=(flatR n fun j=>[g j])∧k*1+1≤(flatR n fun j=>[f j]).length:=by
 refine⟨?_,by rw[flR_len (e:=1) fun _ _=>rfl];omega⟩
 rw[flR_set (e:=1) rfl (fun _ _=>rfl) hk]
 refine flR_congr fun j hj=>?_
 rw[←hg j hj]
 split<;>rfl
theorem flR1_len {f:Nat→CV} {n k:Nat} (hk:k<n):k*1<(flatR n fun j=>[f j]).length:=by rw[flR_len (e:=1) fun _ _=>rfl];omega
theorem getX_dem {C:CaseM} {L:Int}:demT C C.buses.l.length=getX C L 0 0:=by
 funext j
 unfold demT getX
 by_cases h:j<C.buses.l.length
 ·rw[if_pos h,if_pos h]
  exact flR_congr fun k _=>by simp
 rw[if_neg h,if_neg h]
theorem getX_hour {C:CaseM} {L:Int} {h:Nat}:getX C L h C.buses.l.length=getX C L (h+1) 0:=by
 funext j
 unfold getX
 by_cases h:j<C.buses.l.length
 ·rw[if_pos h,if_pos h,if_pos h,if_neg (Nat.not_lt_zero _)]
 rw[if_neg h,if_neg h]
theorem getX_bus {C:CaseM} {L:Int} {h b:Nat} (hb:b<C.buses.l.length):upd (getX C L h b) b (demX C L (h+1) b)=getX C L h (b+1):=by
 funext j
 by_cases e:j=b
 ·subst e
  rw[upd_eq,getX,if_pos hb,if_pos oM]
 rw[upd_ne e]
 unfold getX
 by_cases h2:j<b
 ·simp only[if_pos h2,if_pos (show j<b+1 by omega)]
 simp only[if_neg h2,if_neg (show ¬j<b+1 by omega)]
theorem getX_at {C:CaseM} {L:Int} {h b:Nat} (hb:b<C.buses.l.length):getX C L h b b=demX C L h b:=by
 rw[getX,if_pos hb,if_neg (Nat.lt_irrefl _)]
theorem resX_0 {C:CaseM} {L:Int}:resF C=resX C L 0:=flR_congr fun k _=>by simp
/-! ### the curtailed case -/
structure Cont (C:CaseM) (L:Int) (D:CaseM):Prop where
 h:D.hours=C.hours
 r:D.reserve.l=(List.range C.reserve.l.length).map (newR C L)
 b:∃F:Nat→Option Addr×Nat,D.buses.l=(List.range C.buses.l.length).map fun j=>⟨(gB C j).name,⟨(F j).1,(F j).2,(List.range (gB C j).demand.l.length).map fun k=>newD C L k j⟩,(gB C j).shed⟩
 l:∃F,D.lines.l=lstL C F
 u:∃F,D.units.l=lstU C F
 s:D.stores.l=C.stores.l
 t:∃F,D.ties.l=lstE C F
 o:∃F,D.outs.l=lstO C F
end Go.Proofs.YtandhgfmfpmemaaGreat
namespace Go.Proofs.YtandhgfmfpmemaaGreat
open Go.Vg _root_.Go.Proofs.Tryz
open Go.Vm hiding sg sg_t sg_f sg_abs sg_neg sg_add sg_mul sg_self sg_canon sg_pos sg_zero sg_eq_zero sg_lt
open Go.Vy hiding val
set_option maxHeartbeats 1000000
structure TinyOk (C:CaseM):Prop where
 b:C.buses.l.length≤5
 l:C.lines.l.length≤6
 u:C.units.l.length≤4
 s:C.stores.l.length≤4
 t:C.ties.l.length≤4
 o:C.outs.l.length≤4
abbrev fTiny:FuncId:=4
theorem eTiny:Ent Tryz.prog fTiny:=Ent.of func4 rfl kR
theorem bTiny:Tryz.prog.funcs[fTiny]? =some Tryz.f4:=func4
set_option maxRecDepth 4000 in
theorem tiny_c (C:CaseM):Ctr Tryz.prog fTiny [] [.a (C.C [])] [] (fun g:Prop=>⟨pC g,[],g→TinyOk C⟩):=by
 refine ctr_of gT eTiny bTiny rfl rfl rfl bL ClB.nil (VC_ok gT mxd ⟨fun _=>VC_ok gT mxd ⟨False,False.elim,fin_of (ff id) rfl trivial⟩,fun h=>VC_ok gT mxd ?_⟩)
 have hT:TinyOk C:=by
  replace h:¬((((((((C.buses.l.length:Nat):Int)>5∨((C.lines.l.length:Nat):Int)>6)∨((C.units.l.length:Nat):Int)>4)∨((C.stores.l.length:Nat):Int)>4)∨((C.ties.l.length:Nat):Int)>4)∨((C.outs.l.length:Nat):Int)>4)∨C.hours>3):=h
  exact⟨by omega,by omega,by omega,by omega,by omega,by omega⟩
 have hu:=hT.u
 refine vloopD (rn [(3,3),(43,67)]) 1 (fun k:Nat=>[(3,.c (iC k))]) (fun _=>[(30,0,C.C [])]) (·≤C.units.l.length) (C.units.l.length-·) 0 (fun _=>rfl) bL (fun _=>scB.cons rfl scB.nil) (fun _=>rfl) ?_
 refine⟨⟨rfl,Nat.zero_le _,rfl,rfl⟩,fun k hk=>VC_ok gT mxd ⟨fun h1=>VC_ok gT mxd ?_,fun h1=>VC_ok gT mxd ?_⟩⟩
 ·have hkl:k<C.units.l.length:=by replace h1:(k:Int)<(C.units.l.length:Nat):=h1;omega
  exact⟨k,⟨rfl,hkl⟩,k,fun _=>⟨rfl,hkl⟩,⟨fun _=>VC_ok gT mxd ⟨False,False.elim,fin_of (ff id) rfl trivial⟩,fun _=>VC_ok gT mxd ⟨(k+1:Nat),wi,k+1,⟨hkl,show C.units.l.length-(k+1)<C.units.l.length-k by omega⟩,rfl,rfl,rfl⟩⟩⟩
 exact VC_ok gT mxd ⟨True,fun _=>hT,fin_of (tt trivial) rfl trivial⟩
abbrev fMod:FuncId:=6
theorem eMod:Ent Tryz.prog fMod:=Ent.of func6 rfl kR
theorem bMod:Tryz.prog.funcs[fMod]? =some Tryz.f6:=func6
theorem mod_c (a:Int):Ctr Tryz.prog fMod [] [.c (iC a),.c (iC 103)] [] (fun r:Int=>⟨.c (iC r),[],0≤r∧r<103⟩):=by
 have hu:0≤a%18446744073709551616:=Int.emod_nonneg _ dC
 have e:(a%18446744073709551616).tmod 103=a%18446744073709551616%103:=Int.tmod_eq_emod_of_nonneg hu
 refine ctr_of gT eMod bMod rfl rfl rfl bL ClB.nil (VC_ok gT mxd ⟨a%18446744073709551616,?_,103,?_,(show(103:Int)≠0 by decide),a%18446744073709551616%103,?_,a%18446744073709551616%103,⟨by omega,by omega⟩,fin_of rfl rfl trivial⟩)
 ·rfl
 ·rfl
 rw[e]
 refine wi (z:=a%18446744073709551616%103) (h:=⟨rfl,by omega,by omega⟩)
end Go.Proofs.YtandhgfmfpmemaaGreat
namespace Go.Proofs.YtandhgfmfpmemaaGreat
open Go.Vg _root_.Go.Proofs.Tryz
open Go.Vm hiding sg sg_t sg_f sg_abs sg_neg sg_add sg_mul sg_self sg_canon sg_pos sg_zero sg_eq_zero sg_lt
open Go.Vy hiding val
set_option maxHeartbeats 1000000
abbrev ttR:Unit→Out:=fun _=>⟨.c (.v (.bool true)),[],True⟩
noncomputable abbrev ptR:Unit→Out:=fun _=>⟨pC True,[],True⟩
abbrev fInts17:FuncId:=72
theorem eInts17:Ent Tryz.prog fInts17:=Ent.of func72 rfl kR
theorem bInts17:Tryz.prog.funcs[fInts17]? =some Tryz.f72:=func72
theorem ints17_c (x y:Sl Int) (he:x.l=y.l) (hx:x.l.length≤2000000):Ctr Tryz.prog fInts17 [] [.c (intsR x),.c (intsR y)] [] ttR:=by
 refine ctr_of gT eInts17 bInts17 rfl rfl rfl bL ClB.nil (VC_ok gT mxd ⟨fun h=>?_,fun _=>VC_ok gT mxd ?_⟩)
 ·exfalso
  replace h:¬((x.l.length:Nat):Int)=(y.l.length:Nat):=h
  rw[he] at h
  exact h rfl
 refine vloopD (rn [(5,5),(11,25)]) 0 (fun k:Nat=>[(5,.c (iC k))]) (fun _=>[]) (·≤x.l.length) (x.l.length-·) 0 (fun _=>rfl) bL (fun _=>scB.nil) (fun _=>rfl) ?_
 refine⟨⟨rfl,Nat.zero_le _,trivial,rfl⟩,fun k hk=>VC_ok gT mxd ⟨fun h1=>VC_ok gT mxd ?_,fun h1=>VC_ok gT mxd ?_⟩⟩
 ·have hkl:k<x.l.length:=by replace h1:(k:Int)<(x.l.length:Nat):=h1;omega
  refine⟨.seq (sq 8 (List.range 9)),by kernel_rfl,k,⟨rfl,hkl⟩,k,⟨rfl,by rw[←he];exact hkl⟩,⟨fun h=>?_,fun _=>VC_ok gT mxd ⟨(k+1:Nat),wi,k+1,⟨hkl,show x.l.length-(k+1)<x.l.length-k by omega⟩,rfl,trivial,rfl⟩⟩⟩
  exfalso
  replace h:¬x.l.getD k 0=y.l.getD k 0:=h
  rw[he] at h
  exact h rfl
 exact VC_ok gT mxd ⟨(),trivial,fin_of rfl rfl trivial⟩
structure EqB (a b:BusM):Prop where
 n:a.name=b.name
 d:a.demand.l=b.demand.l
 s:a.shed=b.shed
abbrev fSB17:FuncId:=73
theorem eSB17:Ent Tryz.prog fSB17:=Ent.of func73 rfl kR
theorem bSB17:Tryz.prog.funcs[fSB17]? =some Tryz.f73:=func73
theorem sb17_c (x y:Sl BusM) (hl:x.l.length=y.l.length) (hx:x.l.length≤2000000) (hd:∀j,(x.l.getD j bus0).demand.l.length≤2000000) (he:∀j,j<x.l.length→EqB (x.l.getD j bus0) (y.l.getD j bus0)):Ctr Tryz.prog fSB17 [] [.c (x.R 3 BusM.C bus0),.c (y.R 3 BusM.C bus0)] [] ptR:=by
 refine ctr_of gT eSB17 bSB17 rfl rfl rfl bL ClB.nil (VC_ok gT mxd ?_)
 refine vloopD (rn [(5,6),(12,57)]) 0 (fun k:Nat=>[(6,.c (iC k)),(5,pC True)]) (fun _=>[]) (·≤x.l.length) (x.l.length-·) 0 (fun _=>rfl) bL (fun _=>scB.nil) (fun _=>rfl) ?_
 refine⟨⟨rfl,Nat.zero_le _,trivial,rfl,iff_of_true (congrArg Int.ofNat hl) trivial⟩,fun k hk=>VC_ok gT mxd ⟨fun h1=>VC_ok gT mxd ?_,fun h1=>VC_ok gT mxd ?_⟩⟩
 ·have hkl:k<x.l.length:=by replace h1:(k:Int)<(x.l.length:Nat)∧True:=h1;omega
  have hky:k<y.l.length:=by omega
  have e:=he k hkl
  refine⟨.seq (sq 99 (List.range 38)),by kernel_rfl,k,⟨rfl,hkl⟩,k,⟨rfl,hky⟩,k,fun _=>⟨rfl,hkl⟩,k,fun _=>⟨rfl,hky⟩,⟨fun h=>⟨[],ints17_c _ _ e.d (hd k),rfl,rfl,rfl,fun _ _=>⟨k,⟨rfl,hkl⟩,k,⟨rfl,hky⟩,(k+1:Nat),wi,k+1,⟨hkl,show x.l.length-(k+1)<x.l.length-k by omega⟩,rfl,trivial,rfl,iff_of_true e.s trivial⟩⟩,fun h=>absurd (congrArg _ e.n) h⟩⟩
 exact VC_ok gT mxd ⟨(),trivial,fin_of Iff.rfl rfl trivial⟩
end Go.Proofs.YtandhgfmfpmemaaGreat
namespace Go.Vy
open Go.Vg Go.RowKit
section
variable {nb:Nat} {X:SS→Prop} {s:SS}
theorem gcnil (hX:Tgt nb X) (i k T es:Nat) {T0 e0:Nat} {l:List CV} (hb:s.bl[i]? =some (T0,e0,l)) (hk:l[k]? =some (.v (.slice none 0 0))) (hes:0<es) (hgl:s.gl=[]) (h:setK s.bl i (T0,e0,l.set k (.s (cnt s.bl 0) 0)) fun b1=>snocK b1 (T,es,[]) fun bl'=>X ⟨s.sl,[],bl',s.fl⟩):X s:=by
 have h':=snocK_ok (setK_ok h)
 rw[cnt_len] at h'
 have hi:=get_lt hb
 refine hX.one (fun ρ0 w0 ρ f w hD=>?_) h'
 have hp:∀b,((none,0):Option Nat×Nat).1=some b→w.heap.size≤b:=fun b hb=>by cases hb
 have kp:Kp ρ s.bl.length w (grow ρ s.bl.length (none,0)) (s.bl.length+1) w:=Kp.new hp (Ext.refl w)
 have hn:(s.bl.set i (T0,e0,l.set k (.s s.bl.length 0))++[(T,es,([]:List CV))]).length=s.bl.length+1:=by simp
 have hn0:(s.bl++[(T,es,([]:List CV))]).length=s.bl.length+1:=by simp
 have h1:DnW ρ0 w0 nb (s.bl++[(T,es,[])]) (grow ρ s.bl.length (none,0)) w:=hD.m.new hp (Ext.refl w) (by unfold Bq;rw[grow_new];exact⟨rfl,rfl,hes⟩)
 refine⟨grow ρ s.bl.length (none,0),⟨⟨fun j T2 e2 l2 hj=>?_,?_,?_,?_,h1.rel,h1.pl,h1.zz,?_,h1.ffr⟩,⟨fun t' d ht'=>?_,fun t' gs d ht'=>by cases ht'⟩,hD.l⟩⟩
 ·rw[hn]
  have e:s.bl.set i (T0,e0,l.set k (.s s.bl.length 0))++[(T,es,([]:List CV))]=(s.bl++[(T,es,[])]).set i (T0,e0,l.set k (.s s.bl.length 0)):=by rw[List.set_append_left _ _ hi]
  replace hj:(s.bl.set i (T0,e0,l.set k (.s s.bl.length 0))++[(T,es,([]:List CV))])[j]? =_:=hj
  rw[e] at hj
  have hb0:(s.bl++[(T,es,([]:List CV))])[i]? =some (T0,e0,l):=by rw[List.getElem?_append_left hi];exact hb
  rcases set_case hj with ⟨rfl,h2,_⟩|⟨_,h2⟩
  ·injection h2 with h2 h3
   injection h3 with h3 h4
   subst h2 h3 h4
   have hq:=h1.ok j _ _ l hb0
   rw[hn0] at hq
   unfold Bq at hq ⊢
   cases hρ:(grow ρ s.bl.length (none,0) j).1 with
   |none=>
    simp only[hρ] at hq ⊢
    rw[hq.1] at hk
    cases hk
   |some b=>
    simp only[hρ] at hq ⊢
    obtain⟨vl,junk,q1,q2,q3⟩:=hq
    refine⟨vl,junk,q1,Hl.of_get (by rw[List.length_set];exact q2.len.symm) fun q c y hc hy=>?_,q3⟩
    rcases set_case hc with ⟨rfl,rfl,_⟩|⟨_,h5⟩
    ·obtain⟨y',h6,h7⟩:=q2.get hk
     rw[hy] at h6
     injection h6 with h6
     subst h6
     have he:=h7.inv_v
     refine⟨Nat.lt_succ_self _,?_⟩
     rw[grow_new,he]
     rfl
    obtain⟨y',h6,h7⟩:=q2.get h5
    rw[hy] at h6
    injection h6 with h6
    subst h6
    exact h7
  have:=h1.ok j _ _ _ h2
  rw[hn0] at this
  exact this
 ·have:=h1.inj
  rw[hn0] at this
  simpa only[hn] using this
 ·have:=h1.fr
  rw[hn0] at this
  simpa only[hn] using this
 ·have:=h1.nbl
  rw[hn0] at this
  simpa only[hn] using this
 ·have:=h1.fam
  rw[hn0] at this
  simpa only[hn] using this
 show Hd _ (s.bl.set i (T0,e0,l.set k (.s s.bl.length 0))++[(T,es,([]:List CV))]).length w d (f t')
 rw[hn]
 exact(hD.f.sl t' d ht').kp kp
theorem gtrim (hX:Tgt nb X) (i m:Nat) {T es:Nat} {l:List CV} (hb:s.bl[i]? =some (T,es,l)) (hes:0<es) (h:setK s.bl i (T,es,l.take m) fun bl'=>X ⟨s.sl,s.gl,bl',s.fl⟩):X s:=by
 refine hX.one (s':=⟨s.sl,s.gl,s.bl.set i (T,es,l.take m),s.fl⟩) (fun ρ0 w0 ρ f w hD=>⟨ρ,⟨fun j T2 e2 l2 hj=>?_,?_,?_,?_,hD.m.rel,hD.m.pl,hD.m.zz,?_,hD.m.ffr⟩,?_,hD.l⟩) (setK_ok h)
 ·rw[List.length_set]
  rcases set_case hj with ⟨rfl,h2,_⟩|⟨_,h2⟩
  ·injection h2 with h2 h3
   injection h3 with h3 h4
   subst h2 h3 h4
   have hq:=hD.m.ok j _ _ l hb
   unfold Bq at hq ⊢
   cases hρ:(ρ j).1 with
   |none=>
    simp only[hρ] at hq ⊢
    exact⟨by rw[hq.1];simp,hq.2⟩
   |some b=>
    simp only[hρ] at hq ⊢
    obtain⟨vl,junk,q1,q2,q3,q4⟩:=hq
    refine⟨vl.take m,vl.drop m++junk,by rw[←List.append_assoc,List.take_append_drop];exact q1,q2.take m,fun h0=>?_,fun x hx=>q4 x (List.mem_of_mem_take hx)⟩
    rw[←List.append_assoc,List.take_append_drop]
    exact q3 h0
  exact hD.m.ok j T2 e2 l2 h2
 ·simpa using hD.m.inj
 ·simpa using hD.m.fr
 ·simpa using hD.m.nbl
 ·simp only[List.length_set];exact hD.m.fam
 exact hD.f.kp rfl rfl (by simp only[List.length_set];exact Kp.refl)
end
end Go.Vy
namespace Go.Proofs.YtandhgfmfpmemaaGreat
open Go.Vg _root_.Go.Proofs.Tryz
open Go.Vm hiding sg sg_t sg_f sg_abs sg_neg sg_add sg_mul sg_self sg_canon sg_pos sg_zero sg_eq_zero sg_lt
open Go.Vy hiding val
set_option maxHeartbeats 1000000
def valC:CV→Value
 |.v x=>x
 |_=>undef
abbrev fSS17:FuncId:=76
theorem eSS17:Ent Tryz.prog fSS17:=Ent.of func76 rfl kR
theorem bSS17:Tryz.prog.funcs[fSS17]? =some Tryz.f76:=func76
theorem ss17_c (x y:Sl StoreM) (hl:x.l=y.l) (hx:x.l.length≤2000000):Ctr Tryz.prog fSS17 [] [.c (x.R 9 StoreM.C store0),.c (y.R 9 StoreM.C store0)] [] ptR:=by
 obtain⟨A,c,l⟩:=x
 obtain⟨A',c',l'⟩:=y
 replace hl:l=l':=hl
 subst hl
 replace hx:l.length≤2000000:=hx
 refine ctr_of gT eSS17 bSS17 rfl rfl rfl bL ClB.nil (VC_ok gT mxd ?_)
 refine vloopD (rn [(5,6),(12,29)]) 0 (fun k:Nat=>[(6,.c (iC k)),(5,pC True)]) (fun _=>[]) (·≤l.length) (l.length-·) 0 (fun _=>rfl) bL (fun _=>scB.nil) (fun _=>rfl) ?_
 refine⟨⟨rfl,Nat.zero_le _,trivial,rfl,iff_of_true rfl trivial⟩,fun k hk=>VC_ok gT mxd ⟨fun h1=>VC_ok gT mxd ?_,fun h1=>VC_ok gT mxd ?_⟩⟩
 ·have hkl:k<l.length:=by replace h1:(k:Int)<(l.length:Nat)∧True:=h1;omega
  refine⟨.seq (sq 99 (List.range 10)),by kernel_rfl,k,⟨rfl,hkl⟩,k,⟨rfl,hkl⟩,(StoreM.C (l.getD k store0)).map valC,⟨rfl,rfl,rfl⟩,(k+1:Nat),wi,k+1,⟨hkl,show l.length-(k+1)<l.length-k by omega⟩,rfl,trivial,rfl,iff_of_true rfl trivial⟩
 exact VC_ok gT mxd ⟨(),trivial,fin_of Iff.rfl rfl trivial⟩
abbrev lrow (g:Nat→LineM) (F:Nat→Option Addr×Nat):Nat→List CV:=fun j=>(modL (g j) (F j)).C
def oTwo:Ord:=.joinX [] [2000,2001,2002,3,2004,2005,2006,7] (.alt 8 (trS [9,10,1011]) (.alt 9 (trS [8,10,1011]) .nil))
abbrev fSL17:FuncId:=74
theorem eSL17:Ent Tryz.prog fSL17:=Ent.of func74 rfl kR
theorem bSL17:Tryz.prog.funcs[fSL17]? =some Tryz.f74:=func74
set_option maxRecDepth 4000 in
theorem sl17_c (g:Nat→LineM) (F F':Nat→Option Addr×Nat) (A A':Option Addr) (n c c':Nat) (hx:n≤2000000) (hd:∀j,(g j).away.l.length≤2000000):Ctr Tryz.prog fSL17 [] [.c (.r A n c 12 (lrow g F)),.c (.r A' n c' 12 (lrow g F'))] [] ptR:=by
 refine ctr_of gT eSL17 bSL17 rfl rfl rfl bL ClB.nil (VC_ok gT mxd ?_)
 refine vloopG (rn [(5,8),(14,91)]) (fun k:Nat=>[(6,.c (iC k)),(5,pC True)]) (fun _=>[]) (fun _=>[]) (·≤n) (n-·) fun hM=>⟨gfin hM (chg:=fun k:Nat=>[(6,.c (iC k)),(5,pC True)]) (bls:=fun _=>[]) (fls:=fun _=>[]) 0 (Nat.zero_le _) rfl trivial trivial ⟨rfl,iff_of_true rfl trivial⟩ bL scB.nil rfl,fun k hk=>VC_ok gT mxd ⟨fun h1=>VC_ok gT mxd ?_,fun h1=>VC_ok gT mxd ?_⟩⟩
 ·have hkl:k<n:=by replace h1:(k:Int)<(n:Nat)∧True:=h1;omega
  refine⟨oTwo,by kernel_rfl,_,_,fun _=>True,⟨k,⟨rfl,hkl⟩,k,⟨rfl,hkl⟩,⟨rfl,rfl,rfl,gfin hM (chg:=fun _:Unit=>[(7,.c (.p 0 0)),(8,.c (.p 1 0)),(6,.c (iC k))]) (bls:=fun _=>[(71,0,lrow g F k),(71,0,lrow g F' k)]) (fls:=fun _=>[]) () trivial rfl ⟨rfl,rfl⟩ trivial ⟨rfl,rfl,rfl⟩ (Nat.zero_le _) (scB.cons rfl (scB.cons rfl scB.nil)) rfl⟩,rfl,rfl,rfl,gsw (nb:=0) 0 1 rfl rfl bL bL rfl ⟨bL,gfin hM (chg:=fun _:Unit=>[(7,.c (.p 0 0)),(8,.c (.p 1 0)),(6,.c (iC k))]) (bls:=fun _=>[(71,0,lrow g F k),(71,0,lrow g F' k)]) (fls:=fun _=>[]) () trivial rfl ⟨rfl,rfl⟩ trivial ⟨rfl,rfl,rfl⟩ (Nat.zero_le _) (scB.cons rfl (scB.cons rfl scB.nil)) rfl⟩⟩,fun _ _=>?_⟩
  refine⟨[.int .i64 (g k).rea.num,.int .i64 (g k).rea.den],fun _=>⟨rfl,rfl,rfl⟩,[.int .i64 (g k).smin.num,.int .i64 (g k).smin.den],fun _=>⟨rfl,rfl,rfl⟩,[.int .i64 (g k).smax.num,.int .i64 (g k).smax.den],fun _=>⟨rfl,rfl,rfl⟩,⟨fun h2=>⟨[],ints17_c (modL (g k) (F k)).away (modL (g k) (F' k)).away rfl (hd k),rfl,rfl,rfl,fun _ _=>⟨(k+1:Nat),wi,gfin hM (chg:=fun k:Nat=>[(6,.c (iC k)),(5,pC True)]) (bls:=fun _=>[]) (fls:=fun _=>[]) (k+1) ⟨hkl,show n-(k+1)<n-k by omega⟩ rfl trivial trivial ⟨rfl,tt trivial⟩ bL scB.nil rfl⟩⟩,fun h2=>absurd ?_ h2⟩⟩
  exact⟨⟨⟨⟨rfl,rfl⟩,rfl⟩,rfl⟩,rfl⟩
 exact VC_ok gT mxd ⟨(),trivial,fin_of Iff.rfl rfl trivial⟩
end Go.Proofs.YtandhgfmfpmemaaGreat
namespace Go.Proofs.YtandhgfmfpmemaaGreat
open Go.Vg _root_.Go.Proofs.Tryz
open Go.Vm hiding sg sg_t sg_f sg_abs sg_neg sg_add sg_mul sg_self sg_canon sg_pos sg_zero sg_eq_zero sg_lt
open Go.Vy hiding val
set_option maxHeartbeats 1000000
def nums (u:UnitM):List Int:=[u.bus,u.min,u.max,u.noLoad,u.rampUp,u.rampDown,u.startRamp,u.stopRamp,u.upTime,u.downTime,u.startTime,u.hotCost,u.coldCost,u.hotHours,u.reserve,u.reservePrice,u.state,u.hours,u.output]
abbrev fNum17:FuncId:=125
theorem eNum17:Ent Tryz.prog fNum17:=Ent.of func125 rfl kR
theorem bNum17:Tryz.prog.funcs[fNum17]? =some Tryz.f125:=func125
set_option maxRecDepth 4000 in
theorem num17_o (u:UnitM):Ctr Tryz.prog fNum17 [] [.a u.C] [] (fun _:Unit=>⟨.c (.s 1 19),[(42,0,u.C),(3,1,(nums u).map iC)],True⟩):=by
 refine ctr_of gT eNum17 bNum17 rfl rfl rfl bL ClB.nil (VC_ok gT mxd ?_)
 exact⟨(),trivial,fin_own rfl ⟨rfl,rfl⟩ bL (scB.cons rfl (scB.cons rfl scB.nil)) rfl clB0⟩
set_option maxRecDepth 4000 in
theorem num_at (u:UnitM) (j:Nat) (h:j<19):[iC ((nums u).getD j 0)]=(((nums u).map iC).drop (j*1)).take 1:=by
 match j,h with
 |0,_|1,_|2,_|3,_|4,_|5,_|6,_|7,_|8,_|9,_|10,_|11,_|12,_|13,_|14,_|15,_|16,_|17,_|18,_=>rfl
 |j+19,h=>exact absurd h oM
set_option maxRecDepth 4000 in
theorem num17_c (u:UnitM):Ctr Tryz.prog fNum17 [] [.a u.C] [] (fun g:Option Addr×Nat=>⟨.c (intsR ⟨g.1,g.2,nums u⟩),[],True⟩):=
 CtrF.gt (num17_o u) fun _ _ _=>gfrz tGt 0 1 (fun j=>[iC ((nums u).getD j 0)]) rfl rfl (num_at u) rfl bL (all_clo rfl) (Nat.zero_le _) fun A c _ _=>gfin (M:=fun _=>true) (base:=[]) (chg:=fun g:Option Addr×Nat=>[(0,.c (intsR ⟨g.1,g.2,nums u⟩))]) (bls:=fun _=>[]) (fls:=fun _=>[]) (fun t d ht=>by cases ht) (A,c) ⟨trivial,fun i T es l hi=>by cases hi⟩ rfl trivial trivial rfl (Nat.le_refl _) scB.nil rfl
abbrev urow (g:Nat→UnitM) (F:Nat→(Option Addr×Nat)×(Option Addr×Nat)):Nat→List CV:=fun j=>(modU (g j) (F j)).C
def oUn:Ord:=.seq [(0,false),(1,false),(2,false),(3,false),(4,false),(5,false),(6,false),(8,false),(7,false),(9,false),(10,false),(11,false),(12,false),(13,false),(14,false),(15,false),(16,false),(17,false),(18,false),(19,false),(20,false),(21,false),(22,false),(23,false),(24,false),(25,false),(26,false),(27,false),(28,false)]
abbrev fSU17:FuncId:=75
theorem eSU17:Ent Tryz.prog fSU17:=Ent.of func75 rfl kR
theorem bSU17:Tryz.prog.funcs[fSU17]? =some Tryz.f75:=func75
set_option maxRecDepth 4000 in
theorem su17_c (g:Nat→UnitM) (F F':Nat→(Option Addr×Nat)×(Option Addr×Nat)) (A A':Option Addr) (n c c':Nat) (hx:n≤2000000) (hd:∀j,(g j).away.l.length≤2000000) (hs:∀j,(g j).segs.l.length≤2000000):Ctr Tryz.prog fSU17 [] [.c (.r A n c 22 (urow g F)),.c (.r A' n c' 22 (urow g F'))] [] ptR:=by
 refine ctr_of gT eSU17 bSU17 rfl rfl rfl bL ClB.nil (VC_ok gT mxd ?_)
 refine vloopG (rn [(5,9),(15,80)]) (fun k:Nat=>[(6,.c (iC k)),(5,pC True)]) (fun _=>[]) (fun _=>[]) (·≤n) (n-·) fun hM=>⟨gfin hM (chg:=fun k:Nat=>[(6,.c (iC k)),(5,pC True)]) (bls:=fun _=>[]) (fls:=fun _=>[]) 0 (Nat.zero_le _) rfl trivial trivial ⟨rfl,iff_of_true rfl trivial⟩ bL scB.nil rfl,fun k hk=>VC_ok gT mxd ⟨fun h1=>VC_ok gT mxd ?_,fun h1=>VC_ok gT mxd ?_⟩⟩
 ·have hkl:k<n:=by replace h1:(k:Int)<(n:Nat)∧True:=h1;omega
  refine⟨oTwo,by kernel_rfl,_,_,fun _=>True,⟨k,⟨rfl,hkl⟩,k,⟨rfl,hkl⟩,⟨rfl,rfl,rfl,gfin hM (chg:=fun _:Unit=>[(7,.c (.p 0 0)),(8,.c (.p 1 0)),(6,.c (iC k))]) (bls:=fun _=>[(42,0,urow g F k),(42,0,urow g F' k)]) (fls:=fun _=>[]) () trivial rfl ⟨rfl,rfl⟩ trivial ⟨rfl,rfl,rfl⟩ (Nat.zero_le _) (scB.cons rfl (scB.cons rfl scB.nil)) rfl⟩,rfl,rfl,rfl,gsw (nb:=0) 0 1 rfl rfl bL bL rfl ⟨bL,gfin hM (chg:=fun _:Unit=>[(7,.c (.p 0 0)),(8,.c (.p 1 0)),(6,.c (iC k))]) (bls:=fun _=>[(42,0,urow g F k),(42,0,urow g F' k)]) (fls:=fun _=>[]) () trivial rfl ⟨rfl,rfl⟩ trivial ⟨rfl,rfl,rfl⟩ (Nat.zero_le _) (scB.cons rfl (scB.cons rfl scB.nil)) rfl⟩⟩,fun _ _=>?_⟩
  refine⟨oUn,by kernel_rfl,⟨fun h2=>⟨[],num17_c _,rfl,rfl,rfl,fun u _=>⟨[],num17_c _,rfl,rfl,rfl,fun v _=>⟨[],ints17_c ⟨u.1,u.2,nums (g k)⟩ ⟨v.1,v.2,nums (g k)⟩ rfl bL,rfl,rfl,rfl,fun _ _=>⟨[],ints17_c (modU (g k) (F k)).away (modU (g k) (F' k)).away rfl (hd k),rfl,rfl,rfl,fun _ _=>?_⟩⟩⟩⟩,fun h2=>absurd rfl h2⟩⟩
  refine vloopG (rn [(5,5),(9,9),(60,80)]) (fun q:Nat=>[(9,.c (iC q)),(5,pC True)]) (fun _=>[(42,0,urow g F k),(42,0,urow g F' k)]) (fun _=>[]) (·≤(g k).segs.l.length) ((g k).segs.l.length-·) fun hM2=>⟨gfin hM2 (chg:=fun q:Nat=>[(9,.c (iC q)),(5,pC True)]) (bls:=fun _=>[(42,0,urow g F k),(42,0,urow g F' k)]) (fls:=fun _=>[]) 0 (Nat.zero_le _) rfl ⟨rfl,rfl⟩ trivial ⟨rfl,iff_of_true rfl trivial⟩ bL (scB.cons rfl (scB.cons rfl scB.nil)) rfl,fun q hq=>VC_ok gT mxd ⟨fun h3=>VC_ok gT mxd ?_,fun h3=>VC_ok gT mxd ?_⟩⟩
  ·have hql:q<(g k).segs.l.length:=by replace h3:(q:Int)<((g k).segs.l.length:Nat)∧True:=h3;omega
   have hqb:=hs k
   exact⟨.seq (sq 99 (List.range 12)),by kernel_rfl,q,⟨rfl,hql⟩,q,⟨rfl,hql⟩,[.int .i64 ((g k).segs.l.getD q ⟨0,0⟩).width,.int .i64 ((g k).segs.l.getD q ⟨0,0⟩).price],⟨rfl,rfl,rfl⟩,(q+1:Nat),wi,gfin hM2 (chg:=fun q:Nat=>[(9,.c (iC q)),(5,pC True)]) (bls:=fun _=>[(42,0,urow g F k),(42,0,urow g F' k)]) (fls:=fun _=>[]) (q+1) ⟨hql,show(g k).segs.l.length-(q+1)<(g k).segs.l.length-q by omega⟩ rfl ⟨rfl,rfl⟩ trivial ⟨rfl,tt trivial⟩ bL (scB.cons rfl (scB.cons rfl scB.nil)) rfl⟩
  exact⟨(k+1:Nat),wi,gfin hM (chg:=fun k:Nat=>[(6,.c (iC k)),(5,pC True)]) (bls:=fun _=>[]) (fls:=fun _=>[]) (k+1) ⟨hkl,show n-(k+1)<n-k by omega⟩ rfl trivial trivial ⟨rfl,Iff.rfl⟩ bL scB.nil rfl⟩
 exact VC_ok gT mxd ⟨(),trivial,fin_of Iff.rfl rfl trivial⟩
end Go.Proofs.YtandhgfmfpmemaaGreat
