/- ExecutiveCurtailed, second form: for arguments of bulk at most 1048576 the law returns true and the arguments read as before; no other condition. Part 3 of 7: Ca Cb Cc Cd Ce Cf Cg Ch Ea Eb Ec Msort Mnat Da Db Dc Dd De Mrat Df. -/
import Derived.Test.YtandhgfmfpmemaaGreatP2
set_option linter.unusedVariables false
set_option linter.unusedSimpArgs false
namespace Go.Proofs.YtandhgfmfpmemaaGreat
open Go.Vg Go.Vy
def iC (z:Int):CV:=.v (.int .i64 z)
def sC (z:ByteArray):CV:=.v (.string z)
structure Sl (α:Type) where
 A:Option Addr
 c:Nat
 l:List α
def Sl.R {α:Type} (s:Sl α) (n:Nat) (f:α→List CV) (d:α):CV:=.r s.A s.l.length s.c n fun j=>f (s.l.getD j d)
def intsR (s:Sl Int):CV:=s.R 1 (fun z=>[iC z]) 0
structure BusM where
 name:ByteArray
 demand:Sl Int
 shed:Int
def BusM.C (b:BusM):List CV:=[sC b.name,intsR b.demand,iC b.shed]
structure FracM where
 num:Int
 den:Int
structure LineM where
 name:ByteArray
 fro:Int
 to:Int
 rea:FracM
 smin:FracM
 smax:FracM
 lim:Int
 eme:Int
 away:Sl Int
def LineM.C (b:LineM):List CV:=[sC b.name,iC b.fro,iC b.to,iC b.rea.num,iC b.rea.den,iC b.smin.num,iC b.smin.den,iC b.smax.num,iC b.smax.den,iC b.lim,iC b.eme,intsR b.away]
structure SegM where
 width:Int
 price:Int
def SegM.C (b:SegM):List CV:=[iC b.width,iC b.price]
structure UnitM where
 name:ByteArray
 bus:Int
 min:Int
 max:Int
 segs:Sl SegM
 noLoad:Int
 rampUp:Int
 rampDown:Int
 startRamp:Int
 stopRamp:Int
 upTime:Int
 downTime:Int
 startTime:Int
 hotCost:Int
 coldCost:Int
 hotHours:Int
 reserve:Int
 reservePrice:Int
 away:Sl Int
 state:Int
 hours:Int
 output:Int
def UnitM.C (b:UnitM):List CV:=[sC b.name,iC b.bus,iC b.min,iC b.max,b.segs.R 2 SegM.C ⟨0,0⟩,iC b.noLoad,iC b.rampUp,iC b.rampDown,iC b.startRamp,iC b.stopRamp,iC b.upTime,iC b.downTime,iC b.startTime,iC b.hotCost,iC b.coldCost,iC b.hotHours,iC b.reserve,iC b.reservePrice,intsR b.away,iC b.state,iC b.hours,iC b.output]
structure StoreM where
 name:ByteArray
 bus:Int
 cap:Int
 init:Int
 fin:Int
 charge:Int
 dis:Int
 eff:FracM
def StoreM.C (b:StoreM):List CV:=[sC b.name,iC b.bus,iC b.cap,iC b.init,iC b.fin,iC b.charge,iC b.dis,iC b.eff.num,iC b.eff.den]
structure TieM where
 name:ByteArray
 bus:Int
 imp:Sl Int
 exp:Sl Int
 price:Sl Int
def TieM.C (b:TieM):List CV:=[sC b.name,iC b.bus,intsR b.imp,intsR b.exp,intsR b.price]
structure MoveM where
 unit:Int
 up:Int
 down:Int
def MoveM.C (b:MoveM):List CV:=[iC b.unit,iC b.up,iC b.down]
structure OutM where
 name:ByteArray
 lines:Sl Int
 corr:Bool
 moves:Sl MoveM
def OutM.C (b:OutM):List CV:=[sC b.name,intsR b.lines,.b (b.corr=true) inferInstance,b.moves.R 3 MoveM.C ⟨0,0,0⟩]
def nilS {α:Type}:Sl α:=⟨none,0,[]⟩
def f0:FracM:=⟨0,0⟩
def bus0:BusM:=⟨⟨#[]⟩,nilS,0⟩
def line0:LineM:=⟨⟨#[]⟩,0,0,f0,f0,f0,0,0,nilS⟩
def unit0:UnitM:=⟨⟨#[]⟩,0,0,0,nilS,0,0,0,0,0,0,0,0,0,0,0,0,0,nilS,0,0,0⟩
def store0:StoreM:=⟨⟨#[]⟩,0,0,0,0,0,0,f0⟩
def tie0:TieM:=⟨⟨#[]⟩,0,nilS,nilS,nilS⟩
def out0:OutM:=⟨⟨#[]⟩,nilS,false,nilS⟩
structure CaseM where
 hours:Int
 reserve:Sl Int
 buses:Sl BusM
 lines:Sl LineM
 units:Sl UnitM
 stores:Sl StoreM
 ties:Sl TieM
 outs:Sl OutM
def CaseM.C (C:CaseM) (r:List CV):List CV:=iC C.hours::intsR C.reserve::C.buses.R 3 BusM.C bus0::C.lines.R 12 LineM.C line0::C.units.R 22 UnitM.C unit0::C.stores.R 9 StoreM.C store0::C.ties.R 5 TieM.C tie0::C.outs.R 4 OutM.C out0::r
structure St where
 k:Int
 x:Int
 f:Int
 e:Int
def ckL (C:CaseM) (S:St):List CV:=C.C [iC S.k,iC S.x,iC S.f,iC S.e]
open Classical in
noncomputable def St.need (p:Prop) (fl er:Int) (S:St):St:=if S.e=0∧¬p then ⟨S.k,S.x,fl,er⟩ else S
def St.at (S:St) (k x:Int):St:=if S.e=0 then ⟨k,x,0,0⟩ else S
theorem St.need_bad {p:Prop} {fl er:Int} {S:St} (h:S.e≠0):S.need p fl er=S:=by
 unfold St.need;rw[if_neg (fun hh=>h hh.1)]
theorem St.need_true {p:Prop} {fl er:Int} {S:St} (h:p):S.need p fl er=S:=by
 unfold St.need;rw[if_neg (fun hh=>hh.2 h)]
theorem St.need_no {p:Prop} {fl er:Int} {S:St} (h:S.e=0) (hp:¬p):S.need p fl er=⟨S.k,S.x,fl,er⟩:=by
 unfold St.need;rw[if_pos ⟨h,hp⟩]
theorem St.need_iff {p q:Prop} {fl er:Int} {S:St} (h:p↔q):S.need p fl er=S.need q fl er:=by rw[propext h]
theorem St.need_need {p q:Prop} {fl er:Int} {S:St} (he:er≠0):(S.need p fl er).need q fl er=S.need (p∧q) fl er:=by
 by_cases hS:S.e=0
 ·by_cases hp:p
  ·rw[need_true hp];exact need_iff ⟨fun h=>⟨hp,h⟩,fun h=>h.2⟩
  rw[need_no hS hp,need_bad he,need_no hS (fun h=>hp h.1)]
 rw[need_bad hS,need_bad hS,need_bad hS]
theorem St.need_stop {p q:Prop} {fl er:Int} {S:St} (h:(S.need p fl er).e≠0) (hq:q→p):S.need p fl er=S.need q fl er:=by
 by_cases hS:S.e=0
 ·by_cases hp:p
  ·rw[need_true hp] at h;exact absurd hS h
  rw[need_no hS hp,need_no hS (fun h=>hp (hq h))]
 rw[need_bad hS,need_bad hS]
theorem all_take {α:Type} {P:α→Prop} {l:List α} {i:Nat} {d:α} (h:i<l.length):(∀z∈l.take (i+1),P z)↔(∀z∈l.take i,P z)∧P (l.getD i d):=by
 rw[List.take_add_one,List.getElem?_eq_getElem h]
 simp only[List.mem_append,Option.mem_toList,Option.mem_def,Option.some.injEq,List.getD,List.getElem?_eq_getElem h,Option.getD_some]
 constructor
 ·intro hh;exact⟨fun z hz=>hh z (.inl hz),hh _ (.inr rfl)⟩
 rintro⟨h1,h2⟩ z (hz|rfl)
 ·exact h1 z hz
 exact h2
theorem St.need_take {α:Type} {P:α→Prop} {l:List α} {i:Nat} {d:α} {fl er:Int} {S:St} (he:er≠0) (h:i<l.length):(S.need (∀z∈l.take i,P z) fl er).need (P (l.getD i d)) fl er=S.need (∀z∈l.take (i+1),P z) fl er:=by
 rw[need_need he];exact need_iff (all_take h).symm
theorem St.need_0 {α:Type} {P:α→Prop} {l:List α} {fl er:Int} {S:St}:S.need (∀z∈l.take 0,P z) fl er=S:=need_true (by simp)
theorem gd {α:Type} {l:List α} {i:Nat} {d:α} (h:i<l.length):l.getD i d=l[i]:=by simp[List.getD,h]
def Asc (l:List Int):Prop:=∀i,0<i→i<l.length→l.getD (i-1) 0<l.getD i 0
theorem men_ints {i:Nat} (x:List Int):∀c∈x.map iC,menC i c=false:=fun c hc=>by
 obtain⟨z,_,rfl⟩:=List.mem_map.1 hc
 rfl
theorem clo_ints (x:List Int):∀c∈x.map iC,cloC c=true:=fun c hc=>by
 obtain⟨z,_,rfl⟩:=List.mem_map.1 hc
 rfl
theorem sc_ints {n:Nat} (x:List Int):(x.map iC).all (scC n)=true:=List.all_eq_true.2 fun c hc=>by
 obtain⟨z,_,rfl⟩:=List.mem_map.1 hc
 rfl
theorem apI {x:List Int} {z:Int} {i:Nat} (h:x.length≤1000000):1*1=[iC z].length∧x.length*1=(x.map iC).length∧x.length+1≤maxLen∧(x.length+1)*8≤140737488355328∧∀c∈x.map iC++[iC z],menC i c=false:=
 ⟨rfl,by simp,by simp only[maxLen];omega,by omega,fun c hc=>by
  rcases List.mem_append.1 hc with hc|hc
  ·exact men_ints x c hc
  rw[List.mem_singleton.1 hc];rfl⟩
theorem men1 {z:Int} {i:Nat}:∀c∈[iC z],menC i c=false:=fun c hc=>by rw[List.mem_singleton.1 hc];rfl
theorem ints_get {x:List Int} (j:Nat) (h:j<x.length):[iC (x.getD j 0)]=((x.map iC).drop (j*1)).take 1:=by
 have hd:(x.map iC).drop j=iC x[j]::(x.drop (j+1)).map iC:=by rw[←List.map_drop,List.drop_eq_getElem_cons h,List.map_cons]
 rw[Nat.mul_one,hd,gd h]
 rfl
theorem map_take {α β:Type} {f:α→β} {l:List α} {i:Nat} {d:α} (h:i<l.length):(l.take (i+1)).map f=(l.take i).map f++[f (l.getD i d)]:=by
 rw[List.take_add_one,List.getElem?_eq_getElem h,gd h,List.map_append]
 rfl
noncomputable def pC (p:Prop):DV:=.c (.b p (Classical.propDecidable p))
end Go.Proofs.YtandhgfmfpmemaaGreat
namespace Go.Proofs.YtandhgfmfpmemaaGreat
open Go.Vg Go.Vy _root_.Go.Proofs.Tryz
set_option maxHeartbeats 1000000
theorem ent80:Ent Tryz.prog 80:=Ent.of func80 rfl kR
theorem ent81:Ent Tryz.prog 81:=Ent.of func81 rfl kR
theorem ent82:Ent Tryz.prog 82:=Ent.of func82 rfl kR
theorem ent83:Ent Tryz.prog 83:=Ent.of func83 rfl kR
theorem ent87:Ent Tryz.prog 87:=Ent.of func87 rfl kR
theorem ent88:Ent Tryz.prog 88:=Ent.of func88 rfl kR
theorem ent89:Ent Tryz.prog 89:=Ent.of func89 rfl kR
theorem ent95:Ent Tryz.prog 95:=Ent.of func95 rfl kR
abbrev CkR (C:CaseM) (S:St):Unit→Out:=fun _=>⟨.t [],[(85,0,ckL C S)],True⟩
theorem finK {C:CaseM} {S S':St} {s:SS} {r:BL} (hb:s.bl=(85,0,ckL C S)::r) (h:S=S'):Fin [true] 1 s (.t []) (CkR C S' ()):=by
 subst h
 exact fin_of rfl rfl (by rw[hb];exact⟨⟨rfl,rfl,rfl,rfl⟩,trivial⟩)
theorem at_c (C:CaseM) (S:St) (k x:Int):Ctr Tryz.prog 80 [true] [.c (.p 0 0),.c (iC k),.c (iC x)] [(85,0,ckL C S)] (CkR C (S.at k x)):=by
 refine ctr_of gT ent80 func80 rfl rfl rfl bL (ClB.one rfl) (VC_ok gT mxd ⟨fun h=>VC_ok gT mxd ?_,fun h=>VC_ok gT mxd ?_⟩)
 ·refine⟨(),trivial,finK rfl (S:=⟨k,x,0,S.e⟩) ?_⟩
  unfold St.at
  rw[if_pos h,h]
 exact⟨(),trivial,finK rfl (by unfold St.at;rw[if_neg h])⟩
theorem need_c (C:CaseM) (S:St) {p:Prop} {hp:Decidable p} (fl er:Int):Ctr Tryz.prog 83 [true] [.c (.p 0 0),.c (.b p hp),.c (iC fl),.c (iC er)] [(85,0,ckL C S)] (CkR C (S.need p fl er)):=by
 refine ctr_of gT ent83 func83 rfl rfl rfl bL (ClB.one rfl) (VC_ok gT mxd ⟨fun h=>VC_ok gT mxd ?_,fun h=>VC_ok gT mxd ?_⟩)
 ·exact⟨(),trivial,finK rfl (S:=⟨S.k,S.x,fl,er⟩) (by unfold St.need;rw[if_pos h])⟩
 exact⟨(),trivial,finK rfl (by unfold St.need;rw[if_neg h])⟩
theorem within_c (C:CaseM) (S:St) (fl z lo hi:Int):Ctr Tryz.prog 81 [true] [.c (.p 0 0),.c (iC fl),.c (iC z),.c (iC lo),.c (iC hi)] [(85,0,ckL C S)] (CkR C (S.need (lo≤z∧z≤hi) fl 3)):=by
 refine ctr_of gT ent81 func81 rfl rfl rfl bL (ClB.one rfl) (VC_ok gT mxd ?_)
 exact⟨[0],need_c C S fl 3,rfl,rfl,rfl,fun _ _=>⟨(),trivial,finK rfl rfl⟩⟩
theorem hourly_c (C:CaseM) (S:St) (l:Sl Int) (fl lo hi:Int):Ctr Tryz.prog 82 [true] [.c (.p 0 0),.c (iC fl),.c (intsR l),.c (iC lo),.c (iC hi)] [(85,0,ckL C S)] (CkR C ((S.need (↑l.l.length=C.hours) fl 4).need (∀z∈l.l,lo≤z∧z≤hi) fl 3)):=by
 refine ctr_of gT ent82 func82 rfl rfl rfl bL (ClB.one rfl) (lenr 2 rfl fun hn=>VC_ok gT mxd ?_)
 refine⟨[0],need_c C S fl 4,rfl,rfl,rfl,fun _ _=>?_⟩
 refine vloop (rn [(11,11),(25,40)]) (fun i:Nat=>[(25,.c (iC i))]) (fun i=>[(85,0,ckL C ((S.need (↑l.l.length=C.hours) fl 4).need (∀z∈l.l.take i,lo≤z∧z≤hi) fl 3))]) (·≤l.l.length) (l.l.length-·) 0 ?_
 refine⟨⟨Nat.zero_le _,by rw[St.need_0],rfl⟩,fun i hii=>VC_ok gT mxd ⟨fun h=>VC_ok gT mxd ?_,fun h=>VC_ok gT mxd ?_⟩⟩
 ·refine⟨i,⟨rfl,oM⟩,⟨fun he=>VC_ok gT mxd ?_,fun he=>VC_ok gT mxd ?_⟩⟩
  ·exact⟨(),trivial,finK rfl (St.need_stop he fun h z hz=>h z (List.mem_of_mem_take hz))⟩
  refine⟨[0],within_c C _ fl _ lo hi,rfl,rfl,rfl,fun _ _=>⟨(i+1:Nat),wi,i+1,⟨oM,oM⟩,rfl,?_,rfl⟩⟩
  rw[←St.need_take (d:=0) dC oM]
 refine⟨(),trivial,finK rfl ?_⟩
 rw[List.take_of_length_le oM]
theorem bus_c (C:CaseM) (S:St) (fl i:Int):Ctr Tryz.prog 87 [true] [.c (.p 0 0),.c (iC fl),.c (iC i)] [(85,0,ckL C S)] (CkR C (S.need (0≤i∧i<C.buses.l.length) fl 12)):=by
 refine ctr_of gT ent87 func87 rfl rfl rfl bL (ClB.one rfl) (VC_ok gT mxd ?_)
 exact⟨[0],need_c C S fl 12,rfl,rfl,rfl,fun _ _=>⟨(),trivial,finK rfl rfl⟩⟩
def FracM.ok (f:FracM):Prop:=1≤f.den∧f.den≤1048576∧-1048576≤f.num∧f.num≤1048576
theorem valid_c (f:FracM):Ctr Tryz.prog 88 [] [.a [iC f.num,iC f.den]] [] (fun _:Unit=>⟨pC f.ok,[],True⟩):=by
 refine ctr_of gT ent88 func88 rfl rfl rfl bL ClB.nil (VC_ok gT mxd ⟨(),trivial,fin_of ?_ rfl trivial⟩)
 show _↔_
 unfold FracM.ok
 omega
end Go.Proofs.YtandhgfmfpmemaaGreat
namespace Go.Proofs.YtandhgfmfpmemaaGreat
open Go.Vg Go.Vy _root_.Go.Proofs.Tryz
set_option maxHeartbeats 1000000
theorem ent106:Ent Tryz.prog 106:=Ent.of func106 rfl kR
theorem ent126:Ent Tryz.prog 126:=Ent.of func126 rfl kR
theorem ent127:Ent Tryz.prog 127:=Ent.of func127 rfl kR
theorem ent145:Ent Tryz.prog 145:=Ent.of func145 rfl kR
def AscT (l:List Int) (i:Nat):Prop:=∀j,0<j→j<i→l.getD (j-1) 0<l.getD j 0
theorem asc_c (l:Sl Int):Ctr Tryz.prog 95 [] [.c (intsR l)] [] (fun _:Unit=>⟨pC (Asc l.l),[],True⟩):=by
 refine ctr_of gT ent95 func95 rfl rfl rfl bL ClB.nil (lenr 0 rfl fun hn=>VC_ok gT mxd ?_)
 refine vloop (rn [(2,19)]) (fun i:Nat=>[(3,.c (iC (i+1:Nat)))]) (fun _=>[]) (fun i=>AscT l.l (i+1)∧(i<l.l.length∨i=0)) (l.l.length-·) 0 ?_
 refine⟨⟨⟨fun j h1 h2=>by omega,.inr rfl⟩,rfl,rfl⟩,fun i hi=>VC_ok gT mxd ⟨fun h=>VC_ok gT mxd ?_,fun h=>VC_ok gT mxd ?_⟩⟩
 ·refine⟨.seq [(0,false),(1,false),(2,false),(3,false),(4,false),(5,false),(6,false),(7,false),(8,false),(9,false)],by kernel_rfl,i+1,⟨rfl,oM⟩,(i:Int),wi,i,⟨rfl,oM⟩,⟨fun he=>VC_ok gT mxd ?_,fun he=>VC_ok gT mxd ?_⟩⟩
  ·refine⟨(),trivial,fin_of ?_ rfl trivial⟩
   refine⟨(nomatch ·),fun ha=>?_⟩
   have:=ha (i+1) oM oM
   rw[Nat.add_sub_cancel] at this
   omega
  refine⟨(i+1+1:Nat),wi,i+1,⟨⟨fun j h1 h2=>?_,.inl oM⟩,oM⟩,rfl,rfl,rfl⟩
  by_cases hj:j=i+1
  ·subst hj
   rw[Nat.add_sub_cancel]
   omega
  exact hi.1 j h1 oM
 refine VC_ok gT mxd ?_
 refine⟨(),trivial,fin_of ?_ rfl trivial⟩
 exact⟨fun _ j h1 h2=>hi.1 j h1 oM,fun _=>rfl⟩
theorem away_c (C:CaseM) (S:St) (l:Sl Int) (fl:Int) (hC:1≤C.hours∧C.hours≤24):Ctr Tryz.prog 89 [true] [.c (.p 0 0),.c (iC fl),.c (intsR l)] [(85,0,ckL C S)] (CkR C ((S.need (∀z∈l.l,0≤z∧z≤C.hours-1) fl 3).need (Asc l.l) fl 11)):=by
 refine ctr_of gT ent89 func89 rfl rfl rfl bL (ClB.one rfl) (lenr 2 rfl fun hn=>VC_ok gT mxd ?_)
 refine vloop (rn [(7,7),(10,29)]) (fun i:Nat=>[(10,.c (iC i))]) (fun i=>[(85,0,ckL C (S.need (∀z∈l.l.take i,0≤z∧z≤C.hours-1) fl 3))]) (·≤l.l.length) (l.l.length-·) 0 ?_
 refine⟨⟨Nat.zero_le _,by rw[St.need_0],rfl⟩,fun i hii=>VC_ok gT mxd ⟨fun h=>VC_ok gT mxd ?_,fun h=>VC_ok gT mxd ?_⟩⟩
 ·refine⟨i,⟨rfl,oM⟩,⟨fun he=>VC_ok gT mxd ?_,fun he=>VC_ok gT mxd ?_⟩⟩
  ·exact⟨(),trivial,finK rfl (by rw[←St.need_stop (q:=∀z∈l.l,0≤z∧z≤C.hours-1) he fun h z hz=>h z (List.mem_of_mem_take hz),St.need_bad he])⟩
  refine⟨C.hours-1,wi,[0],within_c C _ fl _ 0 (C.hours-1),rfl,rfl,rfl,fun _ _=>⟨(i+1:Nat),wi,i+1,⟨oM,oM⟩,rfl,?_,rfl⟩⟩
  rw[←St.need_take (d:=0) dC oM]
 refine VC_ok gT mxd ?_
 refine⟨[],asc_c l,rfl,rfl,rfl,fun _ _=>⟨[0],need_c C _ fl 11,rfl,rfl,rfl,fun _ _=>⟨(),trivial,finK rfl ?_⟩⟩⟩
 rw[List.take_of_length_le oM]
theorem index_c (l:Sl Int) (z:Int):Ctr Tryz.prog 145 [] [.c (intsR l),.c (iC z)] [] (fun g:Int=>⟨.c (iC g),[],0≤g↔z∈l.l⟩):=by
 refine ctr_of gT ent145 func145 rfl rfl rfl bL ClB.nil (lenr 0 rfl fun hn=>VC_ok gT mxd ?_)
 refine vloop (rn [(4,5),(8,18)]) (fun i:Nat=>[(8,.c (iC i))]) (fun _=>[]) (fun i=>i≤l.l.length∧∀y∈l.l.take i,¬z=y) (l.l.length-·) 0 ?_
 refine⟨⟨⟨Nat.zero_le _,by simp⟩,rfl,rfl⟩,fun i hi=>VC_ok gT mxd ⟨fun h=>VC_ok gT mxd ?_,fun h=>VC_ok gT mxd ?_⟩⟩
 ·refine⟨i,⟨rfl,oM⟩,⟨fun he=>VC_ok gT mxd ?_,fun he=>VC_ok gT mxd ?_⟩⟩
  ·refine⟨i,⟨fun _=>?_,fun _=>oM⟩,fin_of rfl rfl trivial⟩
   have hl:i<l.l.length:=oM
   rw[he,gd hl]
   exact List.getElem_mem hl
  exact⟨(i+1:Nat),wi,i+1,⟨⟨oM,(all_take oM).2 ⟨hi.2,he⟩⟩,oM⟩,rfl,rfl,rfl⟩
 refine VC_ok gT mxd ?_
 refine⟨-1,⟨(nomatch ·),fun hz=>?_⟩,fin_of rfl rfl trivial⟩
 have:=hi.2
 rw[List.take_of_length_le oM] at this
 exact absurd rfl (this z hz)
theorem contains_c (l:Sl Int) (z:Int):Ctr Tryz.prog 127 [] [.c (intsR l),.c (iC z)] [] (fun _:Unit=>⟨pC (z∈l.l),[],True⟩):=by
 refine ctr_of gT ent127 func127 rfl rfl rfl bL ClB.nil (VC_ok gT mxd ?_)
 exact⟨[],index_c l z,rfl,rfl,rfl,fun g hg=>⟨(),trivial,fin_of hg rfl trivial⟩⟩
def byt (a:ByteArray) (i:Nat):UInt8:=(a[i]?).getD 0
theorem byt_ok {a:ByteArray} {i:Nat} (h:i<a.size):a[i]? =some (byt a i):=by
 unfold byt
 rw[getElem?_pos a i h]
 rfl
def letter (b:UInt8):Prop:=97≤b.toNat∧b.toNat≤122
def sign (b:UInt8):Prop:=letter b∨(48≤b.toNat∧b.toNat≤57)∨b.toNat=95
def corr:ByteArray:=⟨#[99,111,114,114,101,99,116,105,118,101]⟩
def NameP (a:ByteArray):Prop:=((1≤a.size∧a.size≤16)∧a.toList≠corr.toList)∧letter (byt a 0)∧∀j,j<a.size→sign (byt a j)
theorem cname_c (a:ByteArray):Ctr Tryz.prog 126 [] [.c (sC a)] [] (fun _:Unit=>⟨pC (NameP a),[],True⟩):=by
 refine ctr_of gT ent126 func126 rfl rfl rfl bL ClB.nil (VC_ok gT mxd ?_)
 refine⟨0,byt a 0,fun hq=>⟨rfl,byt_ok oM⟩,0,byt a 0,fun hq=>⟨rfl,byt_ok oM⟩,⟨fun h=>VC_ok gT mxd ?_,fun h=>VC_ok gT mxd ?_⟩⟩
 ·refine⟨(),trivial,fin_of ⟨(nomatch ·),fun⟨h1,h2,h3⟩=>?_⟩ rfl trivial⟩
  have h0:=h1.1
  unfold letter at h2
  rcases h with ((h|h)|h)|h
  ·omega
  ·exact absurd h h1.2
  ·omega
  omega
 refine vloop (rn [(2,4),(29,53)]) (fun i:Nat=>[(29,.c (iC i))]) (fun _=>[]) (fun i=>i≤a.size∧∀j,j<i→sign (byt a j)) (a.size-·) 0 ?_
 refine⟨⟨⟨Nat.zero_le _,fun j hj=>by omega⟩,rfl,rfl⟩,fun i hi=>VC_ok gT mxd ⟨fun h1=>VC_ok gT mxd ?_,fun h1=>VC_ok gT mxd ?_⟩⟩
 ·refine⟨i,byt a i,⟨rfl,byt_ok oM⟩,⟨fun h2=>VC_ok gT mxd ?_,fun h2=>VC_ok gT mxd ?_⟩⟩
  ·refine⟨(),trivial,fin_of ⟨(nomatch ·),fun⟨_,_,h3⟩=>?_⟩ rfl trivial⟩
   have:=h3 i oM
   unfold sign letter at this
   omega
  refine⟨(i+1:Nat),wi,i+1,⟨⟨oM,fun j hj=>?_⟩,oM⟩,rfl,rfl,rfl⟩
  by_cases hji:j=i
  ·subst hji
   unfold sign letter
   omega
  exact hi.2 j oM
 refine VC_ok gT mxd ?_
 refine⟨(),trivial,fin_of ⟨fun _=>⟨⟨⟨oM,oM⟩,fun he=>h (.inl (.inl (.inr he)))⟩,?_,fun j hj=>hi.2 j oM⟩,fun _=>rfl⟩ rfl trivial⟩
 unfold letter
 omega
theorem rname_c (a:ByteArray):Ctr Tryz.prog 106 [] [.c (sC a)] [] (fun _:Unit=>⟨pC (NameP a),[],True⟩):=by
 refine ctr_of gT ent106 func106 rfl rfl rfl bL ClB.nil (VC_ok gT mxd ⟨fun h=>VC_ok gT mxd ?_,fun h=>VC_ok gT mxd ?_⟩)
 ·refine⟨(),trivial,fin_of ⟨(nomatch ·),fun⟨h1,h2,h3⟩=>?_⟩ rfl trivial⟩
  have h0:=h1.1
  rcases h with (h|h)|h
  ·omega
  ·omega
  exact absurd h h1.2
 refine vloop (rn [(2,4),(17,56)]) (fun i:Nat=>[(3,.c (iC i))]) (fun _=>[]) (fun i=>i≤a.size∧(0<i→letter (byt a 0))∧∀j,j<i→sign (byt a j)) (a.size-·) 0 ?_
 refine⟨⟨⟨Nat.zero_le _,fun h=>by omega,fun j hj=>by omega⟩,rfl,rfl⟩,fun i hi=>VC_ok gT mxd ⟨fun h1=>VC_ok gT mxd ?_,fun h1=>VC_ok gT mxd ?_⟩⟩
 ·have hb:a[i]? =some (byt a i):=byt_ok oM
  refine⟨i,byt a i,⟨rfl,hb⟩,i,byt a i,fun _=>⟨rfl,hb⟩,i,byt a i,fun _=>⟨rfl,hb⟩,i,byt a i,fun _=>⟨rfl,hb⟩,i,byt a i,fun _=>⟨rfl,hb⟩,⟨fun h2=>VC_ok gT mxd ?_,fun h2=>VC_ok gT mxd ?_⟩⟩
  ·refine⟨(),trivial,fin_of ⟨(nomatch ·),fun⟨_,h4,h3⟩=>?_⟩ rfl trivial⟩
   have h5:=h3 i oM
   unfold sign letter at h5
   unfold letter at h4
   by_cases hi0:i=0
   ·subst hi0;omega
   omega
  refine⟨(i+1:Nat),wi,i+1,⟨⟨oM,fun _=>?_,fun j hj=>?_⟩,oM⟩,rfl,rfl,rfl⟩
  ·by_cases hi0:i=0
   ·subst hi0;unfold letter;omega
   exact hi.2.1 oM
  by_cases hji:j=i
  ·subst hji
   unfold sign letter
   omega
  exact hi.2.2 j oM
 refine VC_ok gT mxd ?_
 refine⟨(),trivial,fin_of ⟨fun _=>⟨⟨⟨oM,oM⟩,fun he=>h (.inr he)⟩,hi.2.1 oM,fun j hj=>hi.2.2 j oM⟩,fun _=>rfl⟩ rfl trivial⟩
end Go.Proofs.YtandhgfmfpmemaaGreat
namespace Go.Proofs.YtandhgfmfpmemaaGreat
open Go.Vg Go.Vy _root_.Go.Proofs.Tryz
set_option maxHeartbeats 1000000
theorem ent34:Ent Tryz.prog 34:=Ent.of func34 rfl kR
theorem ent35:Ent Tryz.prog 35:=Ent.of func35 rfl kR
theorem ent36:Ent Tryz.prog 36:=Ent.of func36 rfl kR
theorem ent38:Ent Tryz.prog 38:=Ent.of func38 rfl kR
theorem ent39:Ent Tryz.prog 39:=Ent.of func39 rfl kR
theorem ent84:Ent Tryz.prog 84:=Ent.of func84 rfl kR
theorem ent85:Ent Tryz.prog 85:=Ent.of func85 rfl kR
theorem ent86:Ent Tryz.prog 86:=Ent.of func86 rfl kR
theorem ent90:Ent Tryz.prog 90:=Ent.of func90 rfl kR
theorem ent92:Ent Tryz.prog 92:=Ent.of func92 rfl kR
theorem ent93:Ent Tryz.prog 93:=Ent.of func93 rfl kR
theorem ent94:Ent Tryz.prog 94:=Ent.of func94 rfl kR
def Earlier (q n:Nat) (C:CaseM) (names:Nat→ByteArray):Prop:=∀(S:St) (i:Nat),i<n→Ctr Tryz.prog q [false,true] [.c (iC i),.c (.p 0 0)] [(83,0,[.p 1 0]),(85,0,ckL C S)] (fun _:Unit=>⟨.c (sC (names i)),[(83,0,[.p 1 0]),(85,0,ckL C S)],True⟩)
theorem clE {C:CaseM} {S:St}:ClB [false,true] [(83,0,[.p 1 0]),(85,0,ckL C S)]:=ClB.cons (nomatch ·) (ClB.one rfl)
theorem eBus (C:CaseM):Earlier 85 C.buses.l.length C fun i=>(C.buses.l.getD i bus0).name:=fun S i hi=>ctr_of gT ent85 func85 rfl rfl rfl bL clE (VC_ok gT mxd ⟨i,⟨rfl,hi⟩,(),trivial,fin_of rfl rfl ⟨⟨rfl,rfl,rfl,rfl⟩,⟨rfl,rfl,rfl,rfl⟩,trivial⟩⟩)
theorem eLine (C:CaseM):Earlier 86 C.lines.l.length C fun i=>(C.lines.l.getD i line0).name:=fun S i hi=>ctr_of gT ent86 func86 rfl rfl rfl bL clE (VC_ok gT mxd ⟨i,⟨rfl,hi⟩,(),trivial,fin_of rfl rfl ⟨⟨rfl,rfl,rfl,rfl⟩,⟨rfl,rfl,rfl,rfl⟩,trivial⟩⟩)
theorem eUnit (C:CaseM):Earlier 90 C.units.l.length C fun i=>(C.units.l.getD i unit0).name:=fun S i hi=>ctr_of gT ent90 func90 rfl rfl rfl bL clE (VC_ok gT mxd ⟨i,⟨rfl,hi⟩,(),trivial,fin_of rfl rfl ⟨⟨rfl,rfl,rfl,rfl⟩,⟨rfl,rfl,rfl,rfl⟩,trivial⟩⟩)
theorem eStore (C:CaseM):Earlier 92 C.stores.l.length C fun i=>(C.stores.l.getD i store0).name:=fun S i hi=>ctr_of gT ent92 func92 rfl rfl rfl bL clE (VC_ok gT mxd ⟨i,⟨rfl,hi⟩,(),trivial,fin_of rfl rfl ⟨⟨rfl,rfl,rfl,rfl⟩,⟨rfl,rfl,rfl,rfl⟩,trivial⟩⟩)
theorem eTie (C:CaseM):Earlier 93 C.ties.l.length C fun i=>(C.ties.l.getD i tie0).name:=fun S i hi=>ctr_of gT ent93 func93 rfl rfl rfl bL clE (VC_ok gT mxd ⟨i,⟨rfl,hi⟩,(),trivial,fin_of rfl rfl ⟨⟨rfl,rfl,rfl,rfl⟩,⟨rfl,rfl,rfl,rfl⟩,trivial⟩⟩)
theorem eOut (C:CaseM):Earlier 94 C.outs.l.length C fun i=>(C.outs.l.getD i out0).name:=fun S i hi=>ctr_of gT ent94 func94 rfl rfl rfl bL clE (VC_ok gT mxd ⟨i,⟨rfl,hi⟩,(),trivial,fin_of rfl rfl ⟨⟨rfl,rfl,rfl,rfl⟩,⟨rfl,rfl,rfl,rfl⟩,trivial⟩⟩)
theorem St.need_e {p:Prop} {fl er:Int} {S:St} (h:(S.need p fl er).e=0) (he:er≠0):S.e=0∧p:=by
 by_cases hS:S.e=0
 ·by_cases hp:p
  ·exact⟨hS,hp⟩
  rw[need_no hS hp] at h;exact absurd h he
 rw[need_bad hS] at h;exact absurd h hS
noncomputable def St.name (S:St) (names:Nat→ByteArray) (n:Nat):St:=(S.need (NameP (names n)) 0 9).need (∀j,j<n→(names j).toList≠(names n).toList) 0 10
theorem name_c {q n m:Nat} {C:CaseM} {names:Nat→ByteArray} (hq:Earlier q n C names) (hm:m<n) (S:St) (hx:S.e=0→S.x=m) (hn:n≤maxLen):Ctr Tryz.prog 84 [true,false] [.c (.p 0 0),.c (sC (names m)),.c (.f q [] [(1,0)])] [(85,0,ckL C S),(83,0,[.p 0 0])] (fun _:Unit=>⟨.t [],[(85,0,ckL C (S.name names m)),(83,0,[.p 0 0])],True⟩):=by
 refine ctr_of gT ent84 func84 rfl rfl rfl bL (ClB.cons (fun _=>rfl) (ClB.cons (nomatch ·) ClB.nil)) (VC_ok gT mxd ?_)
 refine⟨[],cname_c (names m),rfl,rfl,rfl,fun _ _=>⟨[0],need_c C S 0 9,rfl,rfl,rfl,fun _ _=>?_⟩⟩
 have hx1:(S.need (NameP (names m)) 0 9).x=S.x:=by unfold St.need;split<;>rfl
 have hx2:(S.need (NameP (names m)) 0 9).e=0→S.x=m:=fun h=>hx (St.need_e h dC).1
 refine vloop (rn [(6,6),(16,31)]) (fun i:Nat=>[(16,.c (iC i))]) (fun i=>[(85,0,ckL C ((S.need (NameP (names m)) 0 9).need (∀j,j<i→(names j).toList≠(names m).toList) 0 10)),(83,0,[.p 0 0])]) (fun i=>(i:Int)≤S.x∨i=0) (fun i=>S.x.toNat-i) 0 ?_
 refine⟨⟨.inr rfl,by rw[St.need_true (p:=∀j,j<0→_) fun j hj=>by omega],rfl⟩,fun i hi=>VC_ok gT mxd ⟨fun h=>VC_ok gT mxd ?_,fun h=>VC_ok gT mxd ?_⟩⟩
 ·refine⟨fun he=>VC_ok gT mxd ?_,fun he=>VC_ok gT mxd ?_⟩
  ·refine⟨(),trivial,fin_of rfl rfl ⟨⟨rfl,rfl,?_,rfl⟩,⟨rfl,rfl,rfl,rfl⟩,trivial⟩⟩
   refine congrArg (ckL C) ?_
   by_cases h1:(S.need (NameP (names m)) 0 9).e=0
   ·exact St.need_stop he fun h j hj=>h j (by have:=hx2 h1;omega)
   rw[St.name,St.need_bad h1,St.need_bad h1]
  obtain⟨e1,e2⟩:=St.need_e (Decidable.not_not.1 he) dC
  have hxm:=hx2 e1
  refine⟨_,rfl,[1,0],hq _ i oM,rfl,rfl,rfl,fun _ _=>⟨[0],need_c C _ 0 10,rfl,rfl,rfl,fun _ _=>⟨(i+1:Nat),wi,i+1,⟨.inl oM,oM⟩,rfl,?_,rfl⟩⟩⟩
  rw[St.need_iff (p:=∀j,j<i+1→_) (q:=(∀j,j<i→(names j).toList≠(names m).toList)∧(names i).toList≠(names m).toList) ⟨fun h=>⟨fun j hj=>h j oM,h i oM⟩,fun h j hj=>by
   by_cases hji:j=i
   ·subst hji;exact h.2
   exact h.1 j oM⟩,←St.need_need dC]
  rfl
 refine⟨(),trivial,fin_of rfl rfl ⟨⟨rfl,rfl,?_,rfl⟩,⟨rfl,rfl,rfl,rfl⟩,trivial⟩⟩
 refine congrArg (ckL C) ?_
 by_cases h1:(S.need (NameP (names m)) 0 9).e=0
 ·have:=hx2 h1
  have him:i=m:=by omega
  subst him
  rfl
 rw[St.name,St.need_bad h1,St.need_bad h1]
/-! ### the elements one by one -/
def iter:Nat→(Nat→St→St)→St→St
 |0,_,S=>S
 |n+1,f,S=>f n (iter n f S)
theorem St.at_x {S:St} {k x:Int} (h:(S.at k x).e=0):(S.at k x).x=x:=by
 unfold St.at at h ⊢
 split at h
 ·next hS=>rw[if_pos hS]
 next hS=>exact absurd h hS
noncomputable def St.hourly (S:St) (C:CaseM) (l:Sl Int) (fl lo hi:Int):St:=(S.need (↑l.l.length=C.hours) fl 4).need (∀z∈l.l,lo≤z∧z≤hi) fl 3
noncomputable def busS (C:CaseM) (i:Nat) (S:St):St:=(((S.at 1 i).name (fun i=>(C.buses.l.getD i bus0).name) i).hourly C (C.buses.l.getD i bus0).demand 1 0 1048576).need (0≤(C.buses.l.getD i bus0).shed∧(C.buses.l.getD i bus0).shed≤1048576) 2 3
theorem whole_c (C:CaseM) (S:St):Ctr Tryz.prog 34 [true] [.c (.p 0 0)] [(85,0,ckL C S)] (CkR C ((((((((((S.at 0 0).need (1≤C.hours∧C.hours≤24) 0 3).hourly C C.reserve 1 0 1048576).need (1≤(C.buses.l.length:Int)∧(C.buses.l.length:Int)≤32) 2 8).need ((C.lines.l.length:Int)≤64) 3 8).need ((C.units.l.length:Int)≤16) 4 8).need ((C.stores.l.length:Int)≤8) 5 8).need ((C.ties.l.length:Int)≤8) 6 8).need ((C.outs.l.length:Int)≤64) 7 8))):=by
 refine ctr_of gT ent34 func34 rfl rfl rfl bL (ClB.one rfl) (VC_ok gT mxd ?_)
 refine⟨[0],at_c C S 0 0,rfl,rfl,rfl,fun _ _=>⟨[0],within_c C _ 0 _ 1 24,rfl,rfl,rfl,fun _ _=>⟨[0],hourly_c C _ C.reserve 1 0 1048576,rfl,rfl,rfl,fun _ _=>⟨[0],need_c C _ 2 8,rfl,rfl,rfl,fun _ _=>⟨[0],need_c C _ 3 8,rfl,rfl,rfl,fun _ _=>⟨[0],need_c C _ 4 8,rfl,rfl,rfl,fun _ _=>⟨[0],need_c C _ 5 8,rfl,rfl,rfl,fun _ _=>⟨[0],need_c C _ 6 8,rfl,rfl,rfl,fun _ _=>⟨[0],need_c C _ 7 8,rfl,rfl,rfl,fun _ _=>⟨(),trivial,finK rfl rfl⟩⟩⟩⟩⟩⟩⟩⟩⟩⟩
abbrev BX (C:CaseM) (S:St):BL:=[(85,0,ckL C S),(83,0,[.p 0 0])]
theorem scBX {C:CaseM} {S:St}:scB 2 (BX C S):=scB.cons rfl (scB.cons rfl scB.nil)
theorem buses_c (C:CaseM) (S:St):Ctr Tryz.prog 35 [true] [.c (.p 0 0)] [(85,0,ckL C S)] (CkR C (iter C.buses.l.length (busS C) S)):=by
 refine ctr_of gT ent35 func35 rfl rfl rfl bL (ClB.one rfl) (VC_ok gT mxd (lenr 8 rfl fun hn=>?_))
 refine vloopD (rn [(2,3),(10,31)]) 2 (fun i:Nat=>[(10,.c (iC i))]) (fun i=>BX C (iter i (busS C) S)) (·≤C.buses.l.length) (C.buses.l.length-·) 0 (fun _=>rfl) bL (fun _=>scBX) (fun _=>rfl) ?_
 refine⟨⟨rfl,Nat.zero_le _,⟨rfl,rfl⟩,rfl⟩,fun i hi=>VC_ok gT mxd ⟨fun h=>VC_ok gT mxd ?_,fun h=>VC_ok gT mxd ⟨(),trivial,finK rfl (by rw[show i=C.buses.l.length by omega])⟩⟩⟩
 refine⟨i,⟨rfl,oM⟩,[0],at_c C _ 1 i,rfl,rfl,rfl,fun _ _=>⟨[0,1],name_c (eBus C) oM _ St.at_x hn,rfl,rfl,rfl,fun _ _=>⟨[0],hourly_c C _ _ 1 0 1048576,rfl,rfl,rfl,fun _ _=>⟨[0],within_c C _ 2 _ 0 1048576,rfl,rfl,rfl,fun _ _=>⟨(i+1:Nat),wi,i+1,⟨oM,oM⟩,rfl,⟨rfl,rfl⟩,rfl⟩⟩⟩⟩⟩
noncomputable def tieS (C:CaseM) (i:Nat) (S:St):St:=(((((S.at 5 i).name (fun i=>(C.ties.l.getD i tie0).name) i).need (0≤(C.ties.l.getD i tie0).bus∧(C.ties.l.getD i tie0).bus<C.buses.l.length) 1 12).hourly C (C.ties.l.getD i tie0).imp 2 0 1048576).hourly C (C.ties.l.getD i tie0).exp 3 0 1048576).hourly C (C.ties.l.getD i tie0).price 4 (-1048576) 1048576
theorem ties_c (C:CaseM) (S:St):Ctr Tryz.prog 39 [true] [.c (.p 0 0)] [(85,0,ckL C S)] (CkR C (iter C.ties.l.length (tieS C) S)):=by
 refine ctr_of gT ent39 func39 rfl rfl rfl bL (ClB.one rfl) (VC_ok gT mxd (lenr 8 rfl fun hn=>?_))
 refine vloopD (rn [(2,3),(10,39)]) 2 (fun i:Nat=>[(10,.c (iC i))]) (fun i=>BX C (iter i (tieS C) S)) (·≤C.ties.l.length) (C.ties.l.length-·) 0 (fun _=>rfl) bL (fun _=>scBX) (fun _=>rfl) ?_
 refine⟨⟨rfl,Nat.zero_le _,⟨rfl,rfl⟩,rfl⟩,fun i hi=>VC_ok gT mxd ⟨fun h=>VC_ok gT mxd ?_,fun h=>VC_ok gT mxd ⟨(),trivial,finK rfl (by rw[show i=C.ties.l.length by omega])⟩⟩⟩
 exact⟨i,⟨rfl,oM⟩,[0],at_c C _ 5 i,rfl,rfl,rfl,fun _ _=>⟨[0,1],name_c (eTie C) oM _ St.at_x hn,rfl,rfl,rfl,fun _ _=>⟨[0],bus_c C _ 1 _,rfl,rfl,rfl,fun _ _=>⟨[0],hourly_c C _ _ 2 0 1048576,rfl,rfl,rfl,fun _ _=>⟨[0],hourly_c C _ _ 3 0 1048576,rfl,rfl,rfl,fun _ _=>⟨[0],hourly_c C _ _ 4 (-1048576) 1048576,rfl,rfl,rfl,fun _ _=>⟨(i+1:Nat),wi,i+1,⟨oM,oM⟩,rfl,⟨rfl,rfl⟩,rfl⟩⟩⟩⟩⟩⟩⟩
noncomputable def lineS (C:CaseM) (i:Nat) (S:St):St:=
 let x:=C.lines.l.getD i line0
 (((((((((S.at 2 i).name (fun i=>(C.lines.l.getD i line0).name) i).need (0≤x.fro∧x.fro<C.buses.l.length) 1 12).need (0≤x.to∧x.to<C.buses.l.length) 2 12).need (x.to≠x.fro) 2 1).need (x.rea.ok∧0<x.rea.num) 3 3).need (x.smin.ok∧x.smin.num≤0) 4 3).need (x.smax.ok∧0≤x.smax.num) 5 3).need (0≤x.lim∧x.lim≤1048576) 6 3).need (x.lim≤x.eme∧x.eme≤1048576) 7 3
noncomputable def St.away (S:St) (C:CaseM) (l:Sl Int) (fl:Int):St:=(S.need (∀z∈l.l,0≤z∧z≤C.hours-1) fl 3).need (Asc l.l) fl 11
theorem lines_c (C:CaseM) (S:St) (hC:1≤C.hours∧C.hours≤24):Ctr Tryz.prog 36 [true] [.c (.p 0 0)] [(85,0,ckL C S)] (CkR C (iter C.lines.l.length (fun i S=>(lineS C i S).away C (C.lines.l.getD i line0).away 8) S)):=by
 refine ctr_of gT ent36 func36 rfl rfl rfl bL (ClB.one rfl) (VC_ok gT mxd (lenr 8 rfl fun hn=>?_))
 refine vloopD (rn [(2,3),(10,85)]) 2 (fun i:Nat=>[(10,.c (iC i))]) (fun i=>BX C (iter i (fun i S=>(lineS C i S).away C (C.lines.l.getD i line0).away 8) S)) (·≤C.lines.l.length) (C.lines.l.length-·) 0 (fun _=>rfl) bL (fun _=>scBX) (fun _=>rfl) ?_
 refine⟨⟨rfl,Nat.zero_le _,⟨rfl,rfl⟩,rfl⟩,fun i hi=>VC_ok gT mxd ⟨fun h=>VC_ok gT mxd ?_,fun h=>VC_ok gT mxd ⟨(),trivial,finK rfl (by rw[show i=C.lines.l.length by omega])⟩⟩⟩
 refine⟨i,⟨rfl,oM⟩,[0],at_c C _ 2 i,rfl,rfl,rfl,fun _ _=>⟨[0,1],name_c (eLine C) oM _ St.at_x hn,rfl,rfl,rfl,fun _ _=>⟨[0],bus_c C _ 1 _,rfl,rfl,rfl,fun _ _=>⟨[0],bus_c C _ 2 _,rfl,rfl,rfl,fun _ _=>⟨[0],need_c C _ 2 1,rfl,rfl,rfl,fun _ _=>?_⟩⟩⟩⟩⟩
 refine⟨.seq [(0,false),(1,false),(2,false),(3,false),(4,false),(5,false),(6,false),(7,false),(8,false),(9,false),(10,true)],by kernel_rfl,[],valid_c (C.lines.l.getD i line0).rea,rfl,rfl,rfl,fun _ _=>⟨[0],need_c C _ 3 3,rfl,rfl,rfl,fun _ _=>?_⟩⟩
 refine⟨.seq [(0,false),(1,false),(2,false),(3,false),(4,false),(5,false),(6,false),(7,false),(8,false),(9,false),(10,true)],by kernel_rfl,[],valid_c (C.lines.l.getD i line0).smin,rfl,rfl,rfl,fun _ _=>⟨[0],need_c C _ 4 3,rfl,rfl,rfl,fun _ _=>?_⟩⟩
 refine⟨.seq [(0,false),(1,false),(2,false),(3,false),(4,false),(5,false),(6,false),(7,false),(8,false),(9,false),(10,true)],by kernel_rfl,[],valid_c (C.lines.l.getD i line0).smax,rfl,rfl,rfl,fun _ _=>⟨[0],need_c C _ 5 3,rfl,rfl,rfl,fun _ _=>?_⟩⟩
 exact⟨[0],within_c C _ 6 _ 0 1048576,rfl,rfl,rfl,fun _ _=>⟨[0],within_c C _ 7 _ _ 1048576,rfl,rfl,rfl,fun _ _=>⟨[0],away_c C _ _ 8 hC,rfl,rfl,rfl,fun _ _=>⟨(i+1:Nat),wi,i+1,⟨oM,oM⟩,rfl,⟨rfl,rfl⟩,rfl⟩⟩⟩⟩
end Go.Proofs.YtandhgfmfpmemaaGreat
namespace Go.Proofs.YtandhgfmfpmemaaGreat
open Go.Vg Go.Vy _root_.Go.Proofs.Tryz
set_option maxHeartbeats 1000000
theorem ent37:Ent Tryz.prog 37:=Ent.of func37 rfl kR
theorem ent91:Ent Tryz.prog 91:=Ent.of func91 rfl kR
noncomputable def storeS (C:CaseM) (i:Nat) (S:St):St:=
 let x:=C.stores.l.getD i store0
 ((((((((S.at 4 i).name (fun i=>(C.stores.l.getD i store0).name) i).need (0≤x.bus∧x.bus<C.buses.l.length) 1 12).need (0≤x.cap∧x.cap≤1048576) 2 3).need (0≤x.init∧x.init≤x.cap) 3 3).need (0≤x.fin∧x.fin≤x.cap) 4 3).need (0≤x.charge∧x.charge≤1048576) 5 3).need (0≤x.dis∧x.dis≤1048576) 6 3).need ((x.eff.ok∧0<x.eff.num)∧x.eff.num≤x.eff.den) 7 3
theorem stores_c (C:CaseM) (S:St):Ctr Tryz.prog 38 [true] [.c (.p 0 0)] [(85,0,ckL C S)] (CkR C (iter C.stores.l.length (storeS C) S)):=by
 refine ctr_of gT ent38 func38 rfl rfl rfl bL (ClB.one rfl) (VC_ok gT mxd (lenr 9 rfl fun hn=>?_))
 refine vloopD (rn [(2,4),(11,70)]) 2 (fun i:Nat=>[(11,.c (iC i))]) (fun i=>BX C (iter i (storeS C) S)) (·≤C.stores.l.length) (C.stores.l.length-·) 0 (fun _=>rfl) bL (fun _=>scBX) (fun _=>rfl) ?_
 refine⟨⟨rfl,Nat.zero_le _,⟨rfl,rfl⟩,rfl⟩,fun i hi=>VC_ok gT mxd ⟨fun h=>VC_ok gT mxd ?_,fun h=>VC_ok gT mxd ⟨(),trivial,finK rfl (by rw[show i=C.stores.l.length by omega])⟩⟩⟩
 refine⟨i,⟨rfl,oM⟩,[0],at_c C _ 4 i,rfl,rfl,rfl,fun _ _=>⟨[0,1],name_c (eStore C) oM _ St.at_x hn,rfl,rfl,rfl,fun _ _=>⟨[0],bus_c C _ 1 _,rfl,rfl,rfl,fun _ _=>⟨[0],within_c C _ 2 _ 0 1048576,rfl,rfl,rfl,fun _ _=>⟨[0],within_c C _ 3 _ 0 _,rfl,rfl,rfl,fun _ _=>⟨[0],within_c C _ 4 _ 0 _,rfl,rfl,rfl,fun _ _=>⟨[0],within_c C _ 5 _ 0 1048576,rfl,rfl,rfl,fun _ _=>⟨[0],within_c C _ 6 _ 0 1048576,rfl,rfl,rfl,fun _ _=>?_⟩⟩⟩⟩⟩⟩⟩⟩
 exact⟨.seq [(0,false),(1,false),(2,false),(3,false),(4,false),(5,false),(6,false),(7,false),(8,false),(9,false),(10,false),(11,false),(12,false),(13,false),(14,false),(15,true)],by kernel_rfl,[],valid_c (C.stores.l.getD i store0).eff,rfl,rfl,rfl,fun _ _=>⟨[0],need_c C _ 7 3,rfl,rfl,rfl,fun _ _=>⟨(i+1:Nat),wi,i+1,⟨oM,oM⟩,rfl,⟨rfl,rfl⟩,rfl⟩⟩⟩
/-! ### segments -/
def wsum (l:List SegM):Int:=l.foldl (fun a s=>IntKind.i64.wrap (a+s.width)) 0
theorem wsum_take {l:List SegM} {i:Nat} {d:SegM} (h:i<l.length):wsum (l.take (i+1))=IntKind.i64.wrap (wsum (l.take i)+(l.getD i d).width):=by
 unfold wsum
 rw[List.take_add_one,List.getElem?_eq_getElem h,List.foldl_append,gd h]
 rfl
def segOk (s:SegM):Prop:=(1≤s.width∧s.width≤1048576)∧(-1048576≤s.price∧s.price≤1048576)
def upP (l:List SegM) (i:Nat):Prop:=∀j,0<j→j<i→(l.getD (j-1) ⟨0,0⟩).price≤(l.getD j ⟨0,0⟩).price
noncomputable def St.segs (S:St) (u:UnitM):St:=(((S.need ((u.segs.l.length:Int)≤8) 4 8).need (∀s∈u.segs.l,segOk s) 4 3).need (upP u.segs.l u.segs.l.length) 4 11).need (wsum u.segs.l=IntKind.i64.wrap (u.max-u.min)) 4 4
theorem segments_c (C:CaseM) (S:St) (u:UnitM):Ctr Tryz.prog 91 [true] [.c (.p 0 0),.a u.C] [(85,0,ckL C S)] (CkR C (S.segs u)):=by
 refine ctr_of gT ent91 func91 rfl rfl rfl bL (ClB.one rfl) (VC_ok gT mxd ?_)
 refine⟨[0],need_c C S 4 8,rfl,rfl,rfl,fun _ _=>⟨fun he=>VC_ok gT mxd ⟨(),trivial,finK rfl (by rw[St.segs,St.need_bad he,St.need_bad he,St.need_bad he])⟩,fun he=>VC_ok gT mxd (lenr 20 rfl fun hn=>?_)⟩⟩
 refine vloopD (rn [(4,4),(6,6),(22,38)]) 2 (fun i:Nat=>[(22,.c (iC i)),(4,.c (iC (wsum (u.segs.l.take i))))]) (fun i=>[(85,0,ckL C ((S.need ((u.segs.l.length:Int)≤8) 4 8).need (∀s∈u.segs.l.take i,segOk s) 4 3)),(42,0,u.C)]) (·≤u.segs.l.length) (u.segs.l.length-·) 0 (fun _=>rfl) bL (fun _=>scB.cons rfl (scB.cons rfl scB.nil)) (fun _=>rfl) ?_
 refine⟨⟨rfl,Nat.zero_le _,⟨by rw[St.need_0],rfl⟩,⟨rfl,rfl⟩⟩,fun i hi=>VC_ok gT mxd ⟨fun h=>VC_ok gT mxd ?_,fun h=>VC_ok gT mxd (VC_ok gT mxd ?_)⟩⟩
 ·refine⟨i,⟨rfl,oM⟩,[0],within_c C _ 4 _ 1 1048576,rfl,rfl,rfl,fun _ _=>⟨[0],within_c C _ 4 _ (-1048576) 1048576,rfl,rfl,rfl,fun _ _=>⟨_,rfl,(i+1:Nat),wi,i+1,⟨oM,oM⟩,rfl,⟨?_,rfl⟩,rfl,?_⟩⟩⟩
  ·rw[←St.need_take (d:=⟨0,0⟩) dC oM]
   exact congrArg (fun S=>(85,0,ckL C S)) (St.need_need dC)
  exact(wsum_take oM).symm
 obtain rfl:i=u.segs.l.length:=by omega
 refine vloop (rn [(7,7),(39,61)]) (fun i:Nat=>[(7,.c (iC (i+1:Nat)))]) (fun i=>[(85,0,ckL C (((S.need ((u.segs.l.length:Int)≤8) 4 8).need (∀s∈u.segs.l,segOk s) 4 3).need (upP u.segs.l (i+1)) 4 11)),(42,0,u.C)]) (fun i=>i<u.segs.l.length∨i=0) (u.segs.l.length-·) 0 ?_
 refine⟨⟨.inr rfl,by rw[St.need_true (p:=upP _ (0+1)) fun j h1 h2=>by omega,List.take_length],rfl⟩,fun i hi=>VC_ok gT mxd ⟨fun h=>VC_ok gT mxd ?_,fun h=>VC_ok gT mxd (VC_ok gT mxd ?_)⟩⟩
 ·refine⟨.seq [(0,false),(1,false),(2,false),(3,false),(4,false),(5,false),(6,false),(7,false),(8,false),(9,false),(10,false),(11,false),(12,false),(13,false),(14,false),(15,true)],by kernel_rfl,i+1,⟨rfl,oM⟩,(i:Int),wi,i,⟨rfl,oM⟩,[0],need_c C _ 4 11,rfl,rfl,rfl,fun _ _=>⟨(i+1+1:Nat),wi,i+1,⟨.inl oM,oM⟩,rfl,?_,rfl⟩⟩
  rw[St.need_iff (p:=upP _ (i+1+1)) (q:=upP u.segs.l (i+1)∧(u.segs.l.getD i ⟨0,0⟩).price≤(u.segs.l.getD (i+1) ⟨0,0⟩).price) ⟨fun h=>⟨fun j h1 h2=>h j h1 oM,h (i+1) oM oM⟩,fun h j h1 h2=>by
   by_cases hj:j=i+1
   ·subst hj;exact h.2
   exact h.1 j h1 oM⟩,←St.need_need dC]
 refine⟨_,rfl,[0],need_c C _ 4 4,rfl,rfl,rfl,fun _ _=>⟨(),trivial,finK rfl ?_⟩⟩
 have:upP u.segs.l (i+1)=upP u.segs.l u.segs.l.length:=by
  rcases hi with hi|hi
  ·rw[show i+1=u.segs.l.length by omega]
  subst hi
  refine propext ⟨fun _ j h1 h2=>by omega,fun _ j h1 h2=>by omega⟩
 rw[St.segs,this,List.take_length]
/-! ### units -/
noncomputable def unitA (C:CaseM) (i:Nat) (S:St):St:=
 let u:=C.units.l.getD i unit0
 (((((S.at 3 i).name (fun i=>(C.units.l.getD i unit0).name) i).need (0≤u.bus∧u.bus<C.buses.l.length) 1 12).need (0≤u.min∧u.min≤1048576) 2 3).need (u.min≤u.max∧u.max≤1048576) 3 3).segs u
noncomputable def unitB (u:UnitM) (S:St):St:=((((((((((((S.need (0≤u.noLoad∧u.noLoad≤1048576) 5 3).need (0≤u.rampUp∧u.rampUp≤1048576) 6 3).need (0≤u.rampDown∧u.rampDown≤1048576) 7 3).need (u.min≤u.startRamp∧u.startRamp≤u.max) 8 3).need (u.min≤u.stopRamp∧u.stopRamp≤u.max) 9 3).need (0≤u.upTime∧u.upTime≤24) 10 3).need (0≤u.downTime∧u.downTime≤24) 11 3).need (0≤u.startTime∧u.startTime≤24) 12 3).need (0≤u.hotCost∧u.hotCost≤1048576) 13 3).need (0≤u.coldCost∧u.coldCost≤1048576) 14 3).need (0≤u.hotHours∧u.hotHours≤24) 15 3).need (0≤u.reserve∧u.reserve≤1048576) 16 3).need (0≤u.reservePrice∧u.reservePrice≤1048576) 17 3
noncomputable def unitC (u:UnitM) (S:St):St:=(((S.need ((u.state=0∨u.state=1)∨u.state=2) 19 12).need (u.state≠1∨u.startTime≠0) 19 16).need (1≤u.hours∧u.hours≤48) 20 3).need (u.state≠1∨u.hours≤u.startTime) 20 3
noncomputable def unitD (u:UnitM) (S:St):St:=if u.state=2 then S.need (u.min≤u.output∧u.output≤u.max) 21 3 else S.need (0≤u.output∧u.output≤0) 21 3
noncomputable def unitS (C:CaseM) (i:Nat) (S:St):St:=
 let u:=C.units.l.getD i unit0
 unitD u (unitC u ((unitB u (unitA C i S)).away C u.away 18))
theorem units_c (C:CaseM) (S:St) (hC:1≤C.hours∧C.hours≤24):Ctr Tryz.prog 37 [true] [.c (.p 0 0)] [(85,0,ckL C S)] (CkR C (iter C.units.l.length (unitS C) S)):=by
 refine ctr_of gT ent37 func37 rfl rfl rfl bL (ClB.one rfl) (VC_ok gT mxd (lenr 8 rfl fun hn=>?_))
 refine vloopD (rn [(2,3),(10,160)]) 2 (fun i:Nat=>[(10,.c (iC i))]) (fun i=>BX C (iter i (unitS C) S)) (·≤C.units.l.length) (C.units.l.length-·) 0 (fun _=>rfl) bL (fun _=>scBX) (fun _=>rfl) ?_
 refine⟨⟨rfl,Nat.zero_le _,⟨rfl,rfl⟩,rfl⟩,fun i hi=>VC_ok gT mxd ⟨fun h=>VC_ok gT mxd ?_,fun h=>VC_ok gT mxd ⟨(),trivial,finK rfl (by rw[show i=C.units.l.length by omega])⟩⟩⟩
 refine⟨i,⟨rfl,oM⟩,[0],at_c C _ 3 i,rfl,rfl,rfl,fun _ _=>⟨[0,1],name_c (eUnit C) oM _ St.at_x hn,rfl,rfl,rfl,fun _ _=>⟨[0],bus_c C _ 1 _,rfl,rfl,rfl,fun _ _=>⟨[0],within_c C _ 2 _ 0 1048576,rfl,rfl,rfl,fun _ _=>⟨[0],within_c C _ 3 _ _ 1048576,rfl,rfl,rfl,fun _ _=>⟨[0],segments_c C _ (C.units.l.getD i unit0),rfl,rfl,rfl,fun _ _=>?_⟩⟩⟩⟩⟩⟩
 refine⟨[0],within_c C _ 5 _ 0 1048576,rfl,rfl,rfl,fun _ _=>⟨[0],within_c C _ 6 _ 0 1048576,rfl,rfl,rfl,fun _ _=>⟨[0],within_c C _ 7 _ 0 1048576,rfl,rfl,rfl,fun _ _=>⟨[0],within_c C _ 8 _ _ _,rfl,rfl,rfl,fun _ _=>⟨[0],within_c C _ 9 _ _ _,rfl,rfl,rfl,fun _ _=>⟨[0],within_c C _ 10 _ 0 24,rfl,rfl,rfl,fun _ _=>⟨[0],within_c C _ 11 _ 0 24,rfl,rfl,rfl,fun _ _=>⟨[0],within_c C _ 12 _ 0 24,rfl,rfl,rfl,fun _ _=>?_⟩⟩⟩⟩⟩⟩⟩⟩
 refine⟨[0],within_c C _ 13 _ 0 1048576,rfl,rfl,rfl,fun _ _=>⟨[0],within_c C _ 14 _ 0 1048576,rfl,rfl,rfl,fun _ _=>⟨[0],within_c C _ 15 _ 0 24,rfl,rfl,rfl,fun _ _=>⟨[0],within_c C _ 16 _ 0 1048576,rfl,rfl,rfl,fun _ _=>⟨[0],within_c C _ 17 _ 0 1048576,rfl,rfl,rfl,fun _ _=>⟨[0],away_c C _ _ 18 hC,rfl,rfl,rfl,fun _ _=>?_⟩⟩⟩⟩⟩⟩
 refine⟨[0],need_c C _ 19 12,rfl,rfl,rfl,fun _ _=>⟨[0],need_c C _ 19 16,rfl,rfl,rfl,fun _ _=>⟨[0],within_c C _ 20 _ 1 48,rfl,rfl,rfl,fun _ _=>⟨[0],need_c C _ 20 3,rfl,rfl,rfl,fun _ _=>⟨fun h1=>VC_ok gT mxd ?_,fun h1=>VC_ok gT mxd ?_⟩⟩⟩⟩⟩
 ·exact⟨[0],within_c C _ 21 _ _ _,rfl,rfl,rfl,fun _ _=>⟨(i+1:Nat),wi,i+1,⟨oM,oM⟩,rfl,⟨by simp only[iter,unitS,unitD];rw[if_pos h1];rfl,rfl⟩,rfl⟩⟩
 exact⟨[0],within_c C _ 21 _ 0 0,rfl,rfl,rfl,fun _ _=>⟨(i+1:Nat),wi,i+1,⟨oM,oM⟩,rfl,⟨by simp only[iter,unitS,unitD];rw[if_neg h1];rfl,rfl⟩,rfl⟩⟩
end Go.Proofs.YtandhgfmfpmemaaGreat
namespace Go.Proofs.YtandhgfmfpmemaaGreat
open Go.Vg Go.Vy _root_.Go.Proofs.Tryz
set_option maxHeartbeats 1000000
theorem ent40:Ent Tryz.prog 40:=Ent.of func40 rfl kR
theorem ent96:Ent Tryz.prog 96:=Ent.of func96 rfl kR
noncomputable def St.mvA (S:St) (o:OutM):St:=(S.need ((o.moves.l.length:Int)=0∨o.corr=true) 3 16).need ((o.moves.l.length:Int)≤16) 3 8
noncomputable def St.mvB (S:St) (C:CaseM) (o:OutM):St:=(S.need (∀m∈o.moves.l,0≤m.unit∧m.unit<C.units.l.length) 3 12).need (Asc (o.moves.l.map (·.unit))) 3 11
noncomputable def St.moves (S:St) (C:CaseM) (o:OutM):St:=((S.mvA o).mvB C o).need (∀m∈o.moves.l,(0≤m.up∧m.up≤1048576)∧(0≤m.down∧m.down≤1048576)) 3 3
theorem moves_c (C:CaseM) (S:St) (o:OutM):Ctr Tryz.prog 96 [true] [.c (.p 0 0),.a o.C] [(85,0,ckL C S)] (CkR C (S.moves C o)):=by
 refine ctr_of gT ent96 func96 rfl rfl rfl bL (ClB.one rfl) (VC_ok gT mxd ?_)
 refine⟨[0],need_c C S 3 16,rfl,rfl,rfl,fun _ _=>⟨[0],need_c C _ 3 8,rfl,rfl,rfl,fun _ _=>⟨fun he=>VC_ok gT mxd ⟨(),trivial,finK rfl ?_⟩,fun he=>VC_ok gT mxd (vnil 4 3 1 rfl bL (lenr 31 rfl fun hn=>?_))⟩⟩⟩
 ·have he:(S.mvA o).e≠0:=he
  rw[St.moves,St.mvB,St.need_bad he,St.need_bad he,St.need_bad he];rfl
 have h16:(o.moves.l.length:Int)≤16:=(St.need_e (Decidable.not_not.1 he) dC).2
 refine vloopD (rn [(4,4),(6,6),(33,58)]) 3 (fun i:Nat=>[(33,.c (iC i)),(4,.c (.s 2 ((o.moves.l.take i).map (·.unit)).length))]) (fun i=>[(85,0,ckL C ((S.mvA o).need (∀m∈o.moves.l.take i,0≤m.unit∧m.unit<C.units.l.length) 3 12)),(47,0,o.C),(3,1,((o.moves.l.take i).map (·.unit)).map iC)]) (·≤o.moves.l.length) (o.moves.l.length-·) 0 (fun _=>rfl) bL (fun _=>scB.cons rfl (scB.cons rfl (scB.cons (sc_ints _) scB.nil))) (fun _=>rfl) ?_
 refine⟨⟨rfl,Nat.zero_le _,⟨by rw[St.need_0];rfl,rfl,rfl⟩,⟨rfl,rfl⟩⟩,fun i hi=>VC_ok gT mxd ⟨fun h=>VC_ok gT mxd ?_,fun h=>VC_ok gT mxd ?_⟩⟩
 ·refine⟨i,⟨rfl,oM⟩,(.seq [(0,false),(1,false),(2,false),(3,false),(4,false),(5,false),(6,false),(7,false),(8,false),(9,false),(10,false),(11,false),(12,false),(13,false),(14,false),(15,true)]),by kernel_rfl,[0],need_c C _ 3 12,rfl,rfl,rfl,fun _ _=>⟨apI (by simp;omega),men1,(i+1:Nat),wi,i+1,⟨oM,oM⟩,rfl,⟨?_,rfl,?_⟩,rfl,?_⟩⟩
  ·rw[←St.need_take (d:=⟨0,0,0⟩) dC oM]
   rfl
  ·rw[map_take (d:=⟨0,0,0⟩) oM,List.map_append]
   rfl
  rw[map_take (d:=⟨0,0,0⟩) oM,List.length_append]
  rfl
 obtain rfl:i=o.moves.l.length:=by omega
 refine vfrz 4 2 (fun j=>[iC (((o.moves.l.take o.moves.l.length).map (·.unit)).getD j 0)]) rfl rfl (fun j hj=>ints_get j hj) (by simp) bL (clo_ints _) bL fun A c h1 h2=>?_
 refine VC_ok gT mxd ?_
 refine⟨[],asc_c ⟨A,c,_⟩,rfl,rfl,rfl,fun _ _=>⟨[0],need_c C _ 3 11,rfl,rfl,rfl,fun _ _=>?_⟩⟩
 refine vloopD (rn [(8,8),(66,78)]) 3 (fun i:Nat=>[(66,.c (iC i))]) (fun i=>[(85,0,ckL C (((S.mvA o).mvB C o).need (∀m∈o.moves.l.take i,(0≤m.up∧m.up≤1048576)∧(0≤m.down∧m.down≤1048576)) 3 3)),(47,0,o.C),(3,1,[])]) (·≤o.moves.l.length) (o.moves.l.length-·) 0 (fun _=>rfl) bL (fun _=>scB.cons rfl (scB.cons rfl (scB.cons rfl scB.nil))) (fun _=>rfl) ?_
 refine⟨⟨rfl,Nat.zero_le _,⟨by rw[St.need_0,List.take_length];rfl,rfl,rfl⟩,rfl⟩,fun i hi=>VC_ok gT mxd ⟨fun h=>VC_ok gT mxd ?_,fun h=>VC_ok gT mxd ⟨(),trivial,finK rfl (by rw[show i=o.moves.l.length by omega,List.take_length];rfl)⟩⟩⟩
 refine⟨i,⟨rfl,oM⟩,[0],within_c C _ 3 _ 0 1048576,rfl,rfl,rfl,fun _ _=>⟨[0],within_c C _ 3 _ 0 1048576,rfl,rfl,rfl,fun _ _=>⟨(i+1:Nat),wi,i+1,⟨oM,oM⟩,rfl,⟨?_,rfl,rfl⟩,rfl⟩⟩⟩
 rw[←St.need_take (d:=⟨0,0,0⟩) dC oM]
 exact congrArg (fun S=>(85,0,ckL C S)) (St.need_need dC)
/-! ### outages -/
theorem St.at_bad {S:St} {k x:Int} (h:S.e≠0):S.at k x=S:=by
 unfold St.at;rw[if_neg h]
noncomputable def outA (C:CaseM) (i:Nat) (S:St):St:=((S.at 6 i).name (fun i=>(C.outs.l.getD i out0).name) i).need (((C.outs.l.getD i out0).lines.l.length:Int)=1∨((C.outs.l.getD i out0).lines.l.length:Int)=2) 1 4
noncomputable def outB (C:CaseM) (o:OutM) (S:St):St:=((S.need (∀l∈o.lines.l,0≤l∧l<C.lines.l.length) 1 12).need (Asc o.lines.l) 1 11).moves C o
noncomputable def outS (C:CaseM) (i:Nat) (S:St):St:=outB C (C.outs.l.getD i out0) (outA C i S)
theorem outB_bad {C:CaseM} {o:OutM} {S:St} (h:S.e≠0):outB C o S=S:=by
 rw[outB,St.need_bad h,St.need_bad h,St.moves,St.mvA,St.need_bad h,St.need_bad h,St.mvB,St.need_bad h,St.need_bad h,St.need_bad h]
theorem outS_bad {C:CaseM} {i:Nat} {S:St} (h:S.e≠0):outS C i S=S:=by
 have:outA C i S=S:=by rw[outA,St.at_bad h,St.name,St.need_bad h,St.need_bad h,St.need_bad h]
 rw[outS,this,outB_bad h]
theorem iter_bad {f:Nat→St→St} (hf:∀i S,S.e≠0→f i S=S) {S:St} {i:Nat} (h:(iter i f S).e≠0):∀n,i≤n→iter n f S=iter i f S
 |0,hn=>by rw[show i=0 by omega]
 |n+1,hn=>by
  by_cases he:i=n+1
  ·rw[he]
  have h2:=iter_bad hf h n oM
  show f n (iter n f S)=_
  rw[h2,hf n _ h]
theorem outs_c (C:CaseM) (S:St):Ctr Tryz.prog 40 [true] [.c (.p 0 0)] [(85,0,ckL C S)] (CkR C (iter C.outs.l.length (outS C) S)):=by
 refine ctr_of gT ent40 func40 rfl rfl rfl bL (ClB.one rfl) (VC_ok gT mxd (lenr 10 rfl fun hn=>?_))
 refine vloopD (rn [(2,3),(5,5),(12,72)]) 2 (fun i:Nat=>[(12,.c (iC i))]) (fun i=>BX C (iter i (outS C) S)) (·≤C.outs.l.length) (C.outs.l.length-·) 0 (fun _=>rfl) bL (fun _=>scBX) (fun _=>rfl) ?_
 refine⟨⟨rfl,Nat.zero_le _,⟨rfl,rfl⟩,rfl⟩,fun i hi=>VC_ok gT mxd ⟨fun h=>VC_ok gT mxd ?_,fun h=>VC_ok gT mxd ⟨(),trivial,finK rfl (by rw[show i=C.outs.l.length by omega])⟩⟩⟩
 refine⟨i,⟨rfl,oM⟩,[0],at_c C _ 6 i,rfl,rfl,rfl,fun _ _=>⟨[0,1],name_c (eOut C) oM _ St.at_x hn,rfl,rfl,rfl,fun _ _=>⟨[0],need_c C _ 1 4,rfl,rfl,rfl,fun _ _=>⟨fun he=>VC_ok gT mxd ⟨(),trivial,finK rfl ?_⟩,fun he=>VC_ok gT mxd (lenr 43 rfl fun hn2=>?_)⟩⟩⟩⟩
 ·have he:(outA C i (iter i (outS C) S)).e≠0:=he
  have h1:iter (i+1) (outS C) S=outA C i (iter i (outS C) S):=outB_bad he
  rw[iter_bad (i:=i+1) (fun _ _=>outS_bad) (by rw[h1];exact he) C.outs.l.length oM,h1]
  rfl
 refine vloop (rn [(5,5),(45,63)]) (fun j:Nat=>[(45,.c (iC j))]) (fun j=>[(85,0,ckL C ((outA C i (iter i (outS C) S)).need (∀l∈(C.outs.l.getD i out0).lines.l.take j,0≤l∧l<C.lines.l.length) 1 12)),(83,0,[.p 0 0]),(47,0,(C.outs.l.getD i out0).C)]) (·≤(C.outs.l.getD i out0).lines.l.length) ((C.outs.l.getD i out0).lines.l.length-·) 0 ?_
 refine⟨⟨Nat.zero_le _,by rw[St.need_0];rfl,rfl⟩,fun j hj=>VC_ok gT mxd ⟨fun h2=>VC_ok gT mxd ?_,fun h2=>VC_ok gT mxd (VC_ok gT mxd ?_)⟩⟩
 ·refine⟨j,⟨rfl,oM⟩,(.seq [(0,false),(1,false),(2,false),(3,false),(4,false),(5,false),(6,false),(7,false),(8,false),(9,false),(10,false),(11,false),(12,false),(13,true)]),by kernel_rfl,[0],need_c C _ 1 12,rfl,rfl,rfl,fun _ _=>⟨(j+1:Nat),wi,j+1,⟨oM,oM⟩,rfl,?_,rfl⟩⟩
  rw[←St.need_take (d:=0) dC oM]
 refine⟨.seq [(0,false),(1,false),(2,false),(3,false),(4,true)],by kernel_rfl,[],asc_c _,rfl,rfl,rfl,fun _ _=>⟨[0],need_c C _ 1 11,rfl,rfl,rfl,fun _ _=>⟨[0],moves_c C _ (C.outs.l.getD i out0),rfl,rfl,rfl,fun _ _=>⟨(i+1:Nat),wi,i+1,⟨oM,oM⟩,rfl,⟨?_,rfl⟩,rfl⟩⟩⟩⟩
 rw[List.take_of_length_le oM]
 rfl
end Go.Proofs.YtandhgfmfpmemaaGreat
namespace Go.Proofs.YtandhgfmfpmemaaGreat
open Go.Vg Go.Vy _root_.Go.Proofs.Tryz
set_option maxHeartbeats 1000000
theorem ent41:Ent Tryz.prog 41:=Ent.of func41 rfl kR
theorem ent97:Ent Tryz.prog 97:=Ent.of func97 rfl kR
theorem ent98:Ent Tryz.prog 98:=Ent.of func98 rfl kR
open Classical in
noncomputable def act (C:CaseM) (h:Int):Nat→List Int
 |0=>[]
 |i+1=>if h∈(C.lines.l.getD i line0).away.l then act C h i else act C h i++[(i:Int)]
theorem act_len (C:CaseM) (h:Int):∀i,(act C h i).length≤i
 |0=>Nat.le_refl _
 |i+1=>by
  have:=act_len C h i
  unfold act
  split
  ·omega
  simp;omega
theorem act_in (C:CaseM) (h:Int):∀i,∀z∈act C h i,0≤z∧z<i
 |0,z,hz=>by cases hz
 |i+1,z,hz=>by
  unfold act at hz
  split at hz
  ·have:=act_in C h i z hz;omega
  rcases List.mem_append.1 hz with hz|hz
  ·have:=act_in C h i z hz;omega
  rw[List.mem_singleton.1 hz];omega
theorem active_c (C:CaseM) (h:Int) (hL:C.lines.l.length≤1000):Ctr Tryz.prog 97 [] [.a (C.C []),.c (iC h)] [] (fun g:Option Addr×Nat=>⟨.c (intsR ⟨g.1,g.2,act C h C.lines.l.length⟩),[],True⟩):=by
 refine ctr_of gT ent97 func97 rfl rfl rfl bL ClB.nil (VC_ok gT mxd (vnil 5 3 1 rfl bL ?_))
 refine vloopD (rn [(5,7),(11,25)]) 2 (fun i:Nat=>[(11,.c (iC i)),(5,.c (.s 1 (act C h i).length))]) (fun i=>[(30,0,C.C []),(3,1,(act C h i).map iC)]) (·≤C.lines.l.length) (C.lines.l.length-·) 0 (fun _=>rfl) bL (fun _=>scB.cons rfl (scB.cons (sc_ints _) scB.nil)) (fun _=>rfl) ?_
 refine⟨⟨rfl,Nat.zero_le _,⟨rfl,rfl⟩,⟨rfl,rfl⟩⟩,fun i hi=>VC_ok gT mxd ⟨fun h1=>VC_ok gT mxd ?_,fun h1=>VC_ok gT mxd ?_⟩⟩
 ·refine⟨i,⟨rfl,oM⟩,[],contains_c _ h,rfl,rfl,rfl,fun _ _=>⟨fun h2=>VC_ok gT mxd ?_,fun h2=>VC_ok gT mxd ?_⟩⟩
  ·refine⟨apI (by have:=act_len C h i;omega),men1,(i+1:Nat),wi,i+1,⟨oM,oM⟩,rfl,⟨rfl,?_⟩,rfl,?_⟩
   ·rw[act,if_neg h2,List.map_append];rfl
   rw[act,if_neg h2,List.length_append];rfl
  refine⟨(i+1:Nat),wi,i+1,⟨oM,oM⟩,rfl,⟨rfl,?_⟩,rfl,?_⟩
  ·rw[act,if_pos (Decidable.not_not.1 h2)];rfl
  show _=_
  rw[act,if_pos (Decidable.not_not.1 h2)]
 obtain rfl:i=C.lines.l.length:=by omega
 refine vfrz 5 1 (fun j=>[iC ((act C h C.lines.l.length).getD j 0)]) rfl rfl (fun j hj=>ints_get j hj) (by simp) bL (clo_ints _) bL fun A c h1 h2=>?_
 refine VC_ok gT mxd ?_
 exact⟨(A,c),trivial,fin_of rfl rfl trivial⟩
/-! ### islands -/
theorem splC_set {x:List Int} {i:Nat} {z:Int} (h:i<x.length):splC (x.map iC) (i*1) [iC z]=(x.set i z).map iC:=by
 unfold splC
 rw[Nat.mul_one,←List.map_take,←List.map_drop,List.set_eq_take_append_cons_drop,if_pos h,List.map_append,List.map_cons]
 rfl
theorem own_get {x:List Int} {i:Nat} (h:i<x.length):(x.map iC)[i*1]? =some (iC (x.getD i 0)):=by
 rw[Nat.mul_one,List.getElem?_map,List.getElem?_eq_getElem h,gd h]
 rfl
def idsT (n i:Nat):List Int:=(List.range n).map fun k=>if k<i then (k:Int) else 0
theorem idsT_len (n i:Nat):(idsT n i).length=n:=by simp[idsT]
theorem idsT_0 (n:Nat):idsT n 0=List.replicate n 0:=by
 apply List.ext_getElem
 ·simp[idsT]
 intro k h1 h2;simp[idsT]
theorem idsT_set {n i:Nat}:(idsT n i).set i i=idsT n (i+1):=by
 apply List.ext_getElem
 ·simp[idsT]
 intro k h1 h2
 simp only[idsT,List.getElem_set,List.getElem_map,List.getElem_range]
 by_cases h:i=k
 ·subst h;simp
 rw[if_neg h]
 by_cases h3:k<i
 ·rw[if_pos h3,if_pos oM]
 rw[if_neg h3,if_neg oM]
open Classical in
noncomputable def relT (f t:Int) (I:List Int) (b:Nat):List Int:=(I.take b).map (fun z=>if z=t then f else z)++I.drop b
theorem relT_len (f t:Int) (I:List Int) (b:Nat):(relT f t I b).length=I.length:=by
 simp only[relT,List.length_append,List.length_map,List.length_take,List.length_drop];omega
theorem relT_get {f t:Int} {I:List Int} {b:Nat} (h:b<I.length):(relT f t I b).getD b 0=I.getD b 0:=by
 rw[gd (by rw[relT_len];exact h),gd h]
 simp only[relT]
 rw[List.getElem_append_right (by simp;omega)]
 simp only[List.length_map,List.length_take,List.getElem_drop]
 congr 1
 omega
theorem relT_succ {f t:Int} {I:List Int} {b:Nat} (h:b<I.length):relT f t I (b+1)=if I.getD b 0=t then (relT f t I b).set b f else relT f t I b:=by
 have hd:I.drop b=I[b]::I.drop (b+1):=List.drop_eq_getElem_cons h
 have hl:((I.take b).map (fun z=>if z=t then f else z)).length=b:=by simp;omega
 rw[gd h]
 unfold relT
 rw[map_take (d:=0) h,gd h,hd]
 by_cases he:I[b]=t
 ·rw[if_pos he,if_pos he,List.set_append_right _ _ oM,hl,Nat.sub_self,List.set_cons_zero]
  simp
 rw[if_neg he,if_neg he]
 simp
open Classical in
noncomputable def pstep (C:CaseM) (G:List Int) (p:List Int×Int) (l:Int):List Int×Int:=
 let x:=C.lines.l.getD l.toNat line0
 if p.1.getD x.fro.toNat 0=p.1.getD x.to.toNat 0∨l∈G then p else (relT (p.1.getD x.fro.toNat 0) (p.1.getD x.to.toNat 0) p.1 p.1.length,p.2-1)
noncomputable def prt (C:CaseM) (G ls:List Int):List Int×Int:=ls.foldl (pstep C G) (idsT C.buses.l.length C.buses.l.length,C.buses.l.length)
theorem prt_take {C:CaseM} {G ls:List Int} {i:Nat} (h:i<ls.length):prt C G (ls.take (i+1))=pstep C G (prt C G (ls.take i)) (ls.getD i 0):=by
 unfold prt
 rw[List.take_add_one,List.getElem?_eq_getElem h,List.foldl_append,gd h]
 rfl
theorem prt_len (C:CaseM) (G:List Int) (ls:List Int):(prt C G ls).1.length=C.buses.l.length∧(C.buses.l.length:Int)-ls.length≤(prt C G ls).2∧(prt C G ls).2≤C.buses.l.length:=by
 have key:∀(ls:List Int) (p:List Int×Int),(ls.foldl (pstep C G) p).1.length=p.1.length∧p.2-ls.length≤(ls.foldl (pstep C G) p).2∧(ls.foldl (pstep C G) p).2≤p.2:=by
  intro ls
  induction ls with
  |nil=>intro p;simp
  |cons l ls ih=>
   intro p
   obtain⟨h1,h2,h3⟩:=ih (pstep C G p l)
   rw[List.foldl_cons]
   have hp:(pstep C G p l).1.length=p.1.length∧p.2-1≤(pstep C G p l).2∧(pstep C G p l).2≤p.2:=by
    simp only[pstep]
    split
    ·exact⟨rfl,by omega,by omega⟩
    exact⟨relT_len _ _ _ _,by simp,by simp only;omega⟩
   refine⟨h1.trans hp.1,?_,by omega⟩
   simp only[List.length_cons]
   omega
 have:=key ls (idsT C.buses.l.length C.buses.l.length,C.buses.l.length)
 exact⟨this.1.trans (idsT_len _ _),this.2⟩
def LinesOk (C:CaseM):Prop:=∀x∈C.lines.l,(0≤x.fro∧x.fro<C.buses.l.length)∧(0≤x.to∧x.to<C.buses.l.length)
theorem parts_c (C:CaseM) (L G:Sl Int) (hB:C.buses.l.length≤1000) (hL:L.l.length≤1000) (hv:∀l∈L.l,0≤l∧l<C.lines.l.length) (hf:LinesOk C):Ctr Tryz.prog 98 [] [.a (C.C []),.c (intsR L),.c (intsR G)] [] (fun _:Unit=>⟨.c (iC (prt C G.l L.l).2),[],True⟩):=by
 refine ctr_of gT ent98 func98 rfl rfl rfl bL ClB.nil (VC_ok gT mxd ?_)
 refine⟨C.buses.l.length,⟨rfl,rfl,show 8*C.buses.l.length≤281474976710656 by omega,by simp only[maxLen];omega⟩,?_⟩
 refine vloop (rn [(8,8),(21,28)]) (fun i:Nat=>[(21,.c (iC i))]) (fun i=>[(30,0,C.C []),(3,1,(idsT C.buses.l.length i).map iC)]) (·≤C.buses.l.length) (C.buses.l.length-·) 0 ?_
 refine⟨⟨Nat.zero_le _,by rw[idsT_0,List.map_replicate];rfl,rfl⟩,fun i hi=>VC_ok gT mxd ⟨fun h=>VC_ok gT mxd ?_,fun h=>VC_ok gT mxd (VC_ok gT mxd ?_)⟩⟩
 ·have hl:i<(idsT C.buses.l.length i).length:=by rw[idsT_len];omega
  refine⟨i,⟨rfl,oM,show i*1<_ by rw[List.length_map];omega⟩,_,⟨splC_set hl,show i*1+1≤_ by rw[List.length_map];omega⟩,(i+1:Nat),wi,i+1,⟨oM,oM⟩,rfl,?_,rfl⟩
  rw[idsT_set]
 obtain rfl:i=C.buses.l.length:=by omega
 refine vloop (rn [(9,9),(11,14),(33,81)]) (fun i:Nat=>[(33,.c (iC i)),(9,.c (iC (prt C G.l (L.l.take i)).2))]) (fun i=>[(30,0,C.C []),(3,1,(prt C G.l (L.l.take i)).1.map iC)]) (·≤L.l.length) (L.l.length-·) 0 ?_
 refine⟨⟨Nat.zero_le _,rfl,rfl,rfl⟩,fun i hi=>VC_ok gT mxd ⟨fun h=>VC_ok gT mxd ?_,fun h=>VC_ok gT mxd (VC_ok gT mxd ?_)⟩⟩
 ·have hl:i<L.l.length:=by omega
  have hz:=hv (L.l.getD i 0) (by rw[gd hl];exact List.getElem_mem hl)
  have hx:=hf (C.lines.l.getD (L.l.getD i 0).toNat line0) (by rw[gd oM];exact List.getElem_mem _)
  obtain⟨p1,p2,p3⟩:=prt_len C G.l (L.l.take i)
  have p4:(L.l.take i).length=i:=by rw[List.length_take];omega
  generalize hp:prt C G.l (L.l.take i)=p at p1 p2 p3
  generalize hzz:L.l.getD i 0=z at hz hx
  have hnx:prt C G.l (L.l.take (i+1))=pstep C G.l p z:=by rw[prt_take hl,hp,hzz]
  generalize hxx:C.lines.l.getD z.toNat line0=x at hx
  have g1:x.fro.toNat<p.1.length:=by omega
  have g2:x.to.toNat<p.1.length:=by omega
  have k1:x.fro=(x.fro.toNat:Int)∧x.fro.toNat<C.buses.l.length∧x.fro.toNat*1<(p.1.map iC).length:=⟨by omega,by omega,by rw[List.length_map];omega⟩
  have k2:x.to=(x.to.toNat:Int)∧x.to.toNat<C.buses.l.length∧x.to.toNat*1<(p.1.map iC).length:=⟨by omega,by omega,by rw[List.length_map];omega⟩
  refine⟨i,⟨rfl,oM⟩,(.seq [(0,false),(1,false),(2,false),(3,false),(4,false),(5,false),(6,false),(7,false),(8,false),(9,false),(10,false),(11,false),(12,false),(13,false),(14,false),(15,false),(16,false),(17,false),(18,false),(19,false)]),by kernel_rfl,z.toNat,⟨by rw[hzz];omega,by omega⟩,x.fro.toNat,by rw[hxx];exact k1,iC (p.1.getD x.fro.toNat 0),own_get g1,z.toNat,⟨by rw[hzz];omega,by omega⟩,x.to.toNat,by rw[hxx];exact k2,iC (p.1.getD x.to.toNat 0),own_get g2,⟨fun he=>?_,fun he=>⟨[],contains_c G _,rfl,rfl,rfl,fun _ _=>⟨fun hg=>VC_ok gT mxd ?_,fun hg=>VC_ok gT mxd ?_⟩⟩⟩⟩
  ·have hs:pstep C G.l p z=p:=by simp only[pstep,hxx];rw[if_pos (.inl he)]
   refine⟨(i+1:Nat),wi,i+1,⟨oM,oM⟩,rfl,by rw[hnx,hs],rfl,?_⟩
   show _=_
   rw[hnx,hs]
  ·have hs:pstep C G.l p z=p:=by simp only[pstep,hxx];rw[if_pos (.inr (by rw[←hzz];exact hg))]
   refine⟨(i+1:Nat),wi,i+1,⟨oM,oM⟩,rfl,by rw[hnx,hs],rfl,?_⟩
   show _=_
   rw[hnx,hs]
  have hs:pstep C G.l p z=(relT (p.1.getD x.fro.toNat 0) (p.1.getD x.to.toNat 0) p.1 p.1.length,p.2-1):=by
   simp only[pstep,hxx]
   rw[if_neg (fun hh=>hh.elim he fun h=>hg (by rw[hzz];exact h))]
  refine⟨p.2-1,wi,?_⟩
  refine vloop (rn [(14,14),(67,80)]) (fun b:Nat=>[(67,.c (iC b))]) (fun b=>[(30,0,C.C []),(3,1,(relT (p.1.getD x.fro.toNat 0) (p.1.getD x.to.toNat 0) p.1 b).map iC)]) (·≤C.buses.l.length) (C.buses.l.length-·) 0 ?_
  refine⟨⟨Nat.zero_le _,by simp[relT],rfl⟩,fun b hb=>VC_ok gT mxd ⟨fun h=>VC_ok gT mxd ?_,fun h=>VC_ok gT mxd ?_⟩⟩
  ·have hbl:b<(relT (p.1.getD x.fro.toNat 0) (p.1.getD x.to.toNat 0) p.1 b).length:=by rw[relT_len];omega
   have hbp:b<p.1.length:=by omega
   refine⟨b,⟨rfl,oM,show b*1<_ by rw[List.length_map];omega⟩,_,own_get hbl,⟨fun h3=>VC_ok gT mxd ?_,fun h3=>VC_ok gT mxd ?_⟩⟩
   ·refine⟨b,⟨rfl,oM,show b*1<_ by rw[List.length_map];omega⟩,_,⟨splC_set hbl,show b*1+1≤_ by rw[List.length_map];omega⟩,(b+1:Nat),wi,b+1,⟨oM,oM⟩,rfl,?_,rfl⟩
    rw[relT_succ hbp,if_pos (by rw[←relT_get hbp];exact h3)]
   refine⟨(b+1:Nat),wi,b+1,⟨oM,oM⟩,rfl,?_,rfl⟩
   rw[relT_succ hbp,if_neg (by rw[←relT_get hbp];exact h3)]
  obtain rfl:b=C.buses.l.length:=by omega
  refine⟨(i+1:Nat),wi,i+1,⟨oM,oM⟩,rfl,by rw[hnx,hs,p1],rfl,?_⟩
  show _=_
  rw[hnx,hs]
 refine⟨(),trivial,fin_of ?_ rfl trivial⟩
 show _=_
 rw[List.take_of_length_le oM]
end Go.Proofs.YtandhgfmfpmemaaGreat
namespace Go.Proofs.YtandhgfmfpmemaaGreat
open Go.Vg Go.Vy _root_.Go.Proofs.Tryz
set_option maxHeartbeats 1000000
theorem ent17:Ent Tryz.prog 17:=Ent.of func17 rfl kR
theorem parts_nil (C:CaseM) (L:Sl Int) (hB:C.buses.l.length≤1000) (hL:L.l.length≤1000) (hv:∀l∈L.l,0≤l∧l<C.lines.l.length) (hf:LinesOk C):Ctr Tryz.prog 98 [] [.a (C.C []),.c (intsR L),.c (.v (.slice none 0 0))] [] (fun _:Unit=>⟨.c (iC (prt C [] L.l).2),[],True⟩):=
 (parts_c C L nilS hB hL hv hf).arg fun ρ n w=>HL.cons (fun _ h=>h) (HL.cons (fun _ h=>h) (HL.cons Hd.nilr fun _ h=>h))
noncomputable def islO (C:CaseM) (h:Nat) (i:Nat) (S:St):St:=(S.at 6 i).need ((prt C (C.outs.l.getD i out0).lines.l (act C h C.lines.l.length)).2=(prt C [] (act C h C.lines.l.length)).2) h 13
noncomputable def islS (C:CaseM) (h:Nat) (S:St):St:=iter C.outs.l.length (islO C h) S
theorem isl_c (C:CaseM) (S:St) (hB:C.buses.l.length≤1000) (hL:C.lines.l.length≤1000) (hH:C.hours≤24) (hf:LinesOk C):Ctr Tryz.prog 41 [true] [.c (.p 0 0)] [(85,0,ckL C S)] (CkR C (iter C.hours.toNat (islS C) S)):=by
 refine ctr_of gT ent41 func41 rfl rfl rfl bL (ClB.one rfl) (VC_ok gT mxd ?_)
 refine vloopD (rn [(2,6),(12,55)]) 1 (fun h:Nat=>[(12,.c (iC h))]) (fun h=>[(85,0,ckL C (iter h (islS C) S))]) (·≤C.hours.toNat) (C.hours.toNat-·) 0 (fun _=>rfl) bL (fun _=>scB.cons rfl scB.nil) (fun _=>rfl) ?_
 refine⟨⟨rfl,Nat.zero_le _,rfl,rfl⟩,fun h hh=>VC_ok gT mxd ⟨fun h1=>VC_ok gT mxd ?_,fun h1=>VC_ok gT mxd ⟨(),trivial,finK rfl (by rw[show h=C.hours.toNat by omega])⟩⟩⟩
 have ha:(act C h C.lines.l.length).length≤1000:=Nat.le_trans (act_len C h _) hL
 refine⟨[],active_c C h hL,rfl,rfl,rfl,fun g _=>⟨[],parts_nil C ⟨g.1,g.2,act C h C.lines.l.length⟩ hB ha (act_in C h _) hf,rfl,rfl,rfl,fun _ _=>lenr 31 rfl fun hn=>?_⟩⟩
 refine vloopD (rn [(5,6),(33,54)]) 1 (fun i:Nat=>[(33,.c (iC i))]) (fun i=>[(85,0,ckL C (iter i (islO C h) (iter h (islS C) S)))]) (·≤C.outs.l.length) (C.outs.l.length-·) 0 (fun _=>rfl) bL (fun _=>scB.cons rfl scB.nil) (fun _=>rfl) ?_
 refine⟨⟨rfl,Nat.zero_le _,rfl,rfl⟩,fun i hi=>VC_ok gT mxd ⟨fun h2=>VC_ok gT mxd ?_,fun h2=>VC_ok gT mxd ?_⟩⟩
 ·exact⟨i,⟨rfl,oM⟩,[0],at_c C _ 6 i,rfl,rfl,rfl,fun _ _=>⟨.seq [(0,false),(1,false),(2,false),(3,false),(4,false),(5,false),(6,false),(7,false),(9,false),(11,false),(8,true),(10,false),(12,true)],by kernel_rfl,[],parts_c C ⟨g.1,g.2,act C h C.lines.l.length⟩ (C.outs.l.getD i out0).lines hB ha (act_in C h _) hf,rfl,rfl,rfl,fun _ _=>⟨[0],need_c C _ h 13,rfl,rfl,rfl,fun _ _=>⟨(i+1:Nat),wi,i+1,⟨oM,oM⟩,rfl,rfl,rfl⟩⟩⟩⟩
 obtain rfl:i=C.outs.l.length:=by omega
 exact⟨(h+1:Nat),wi,h+1,⟨oM,oM⟩,rfl,rfl,rfl⟩
/-! ### all of it -/
noncomputable def wholeS (C:CaseM) (S:St):St:=(((((((((S.at 0 0).need (1≤C.hours∧C.hours≤24) 0 3).hourly C C.reserve 1 0 1048576).need (1≤(C.buses.l.length:Int)∧(C.buses.l.length:Int)≤32) 2 8).need ((C.lines.l.length:Int)≤64) 3 8).need ((C.units.l.length:Int)≤16) 4 8).need ((C.stores.l.length:Int)≤8) 5 8).need ((C.ties.l.length:Int)≤8) 6 8).need ((C.outs.l.length:Int)≤64) 7 8)
noncomputable def stgF (C:CaseM):Nat→St→St
 |0,S=>wholeS C S
 |1,S=>iter C.buses.l.length (busS C) S
 |2,S=>iter C.lines.l.length (fun i S=>(lineS C i S).away C (C.lines.l.getD i line0).away 8) S
 |3,S=>iter C.units.l.length (unitS C) S
 |4,S=>iter C.stores.l.length (storeS C) S
 |5,S=>iter C.ties.l.length (tieS C) S
 |6,S=>iter C.outs.l.length (outS C) S
 |_,S=>iter C.hours.toNat (islS C) S
noncomputable def stg (C:CaseM) (n:Nat):St:=iter n (stgF C) ⟨0,0,0,0⟩
theorem iter_skip {f:Nat→St→St} (hf:∀i S,S.e≠0→f i S=S) {S:St} (h:S.e≠0) (n:Nat):iter n f S=S:=iter_bad (i:=0) hf h n (Nat.zero_le _)
theorem St.name_bad {S:St} {names:Nat→ByteArray} {n:Nat} (h:S.e≠0):S.name names n=S:=by rw[St.name,St.need_bad h,St.need_bad h]
theorem St.hourly_bad {S:St} {C:CaseM} {l:Sl Int} {fl lo hi:Int} (h:S.e≠0):S.hourly C l fl lo hi=S:=by rw[St.hourly,St.need_bad h,St.need_bad h]
theorem St.away_bad {S:St} {C:CaseM} {l:Sl Int} {fl:Int} (h:S.e≠0):S.away C l fl=S:=by rw[St.away,St.need_bad h,St.need_bad h]
theorem St.segs_bad {S:St} {u:UnitM} (h:S.e≠0):S.segs u=S:=by simp only[St.segs,St.need_bad h]
theorem stgF_bad {C:CaseM} (n:Nat) (S:St) (h:S.e≠0):stgF C n S=S:=by
 match n with
 |0=>simp only[stgF,wholeS,St.at_bad h,St.hourly_bad h,St.need_bad h]
 |1=>exact iter_skip (fun i S h=>by simp only[busS,St.at_bad h,St.name_bad h,St.hourly_bad h,St.need_bad h]) h _
 |2=>exact iter_skip (fun i S h=>by simp only[lineS,St.at_bad h,St.name_bad h,St.need_bad h,St.away_bad h]) h _
 |3=>exact iter_skip (fun i S h=>by simp only[unitS,unitA,unitB,unitC,unitD,St.at_bad h,St.name_bad h,St.need_bad h,St.away_bad h,St.segs_bad h,ite_self]) h _
 |4=>exact iter_skip (fun i S h=>by simp only[storeS,St.at_bad h,St.name_bad h,St.need_bad h]) h _
 |5=>exact iter_skip (fun i S h=>by simp only[tieS,St.at_bad h,St.name_bad h,St.need_bad h,St.hourly_bad h]) h _
 |6=>exact iter_skip (fun _ _=>outS_bad) h _
 |_+7=>exact iter_skip (fun i S h=>iter_skip (fun i S h=>by simp only[islO,St.at_bad h,St.need_bad h]) h _) h _
theorem stg_bad {C:CaseM} {i n:Nat} (h:(stg C i).e≠0) (hi:i≤n):stg C n=stg C i:=iter_bad stgF_bad h n hi
theorem stg_ok {C:CaseM} {i n:Nat} (h:(stg C n).e=0) (hi:i≤n):(stg C i).e=0:=by
 by_cases he:(stg C i).e=0
 ·exact he
 rw[stg_bad he hi] at h;exact absurd h he
theorem iter_ok {f:Nat→St→St} (hf:∀i S,S.e≠0→f i S=S) {S:St} {n:Nat} (h:(iter n f S).e=0) {i:Nat} (hi:i<n):(f i (iter i f S)).e=0:=by
 by_cases he:(iter (i+1) f S).e=0
 ·exact he
 rw[iter_bad hf he n hi] at h;exact absurd h he
theorem whole_ok {C:CaseM} {S:St} (h:(wholeS C S).e=0):(1≤C.hours∧C.hours≤24)∧(C.buses.l.length:Int)≤32∧(C.lines.l.length:Int)≤64:=by
 simp only[wholeS,St.hourly] at h
 have h1:=St.need_e h dC
 have h2:=St.need_e h1.1 dC
 have h3:=St.need_e h2.1 dC
 have h4:=St.need_e h3.1 dC
 have h5:=St.need_e h4.1 dC
 have h6:=St.need_e h5.1 dC
 have h7:=St.need_e h6.1 dC
 have h8:=St.need_e h7.1 dC
 have h9:=St.need_e h8.1 dC
 exact⟨h9.2,h6.2.2,h5.2⟩
theorem lines_ok {C:CaseM} {S:St} (h:(stgF C 2 S).e=0):LinesOk C:=fun x hx=>by
 obtain⟨i,hi,rfl⟩:=List.getElem_of_mem hx
 have h1:=iter_ok (fun i S h=>by simp only[lineS,St.at_bad h,St.name_bad h,St.need_bad h,St.away_bad h]) h hi
 have h2:=St.need_e (St.need_e h1 dC).1 dC
 have h3:=St.need_e h2.1 dC
 have h4:=St.need_e h3.1 dC
 have h5:=St.need_e h4.1 dC
 have h6:=St.need_e h5.1 dC
 have h7:=St.need_e h6.1 dC
 have h8:=St.need_e h7.1 dC
 have h9:=St.need_e h8.1 dC
 have h10:=St.need_e h9.1 dC
 rw[gd hi] at h9 h10
 exact⟨h10.2,h9.2⟩
noncomputable def chkE (C:CaseM):Int:=(stg C 8).e
noncomputable abbrev ChkR (C:CaseM):Int×Int×Int→Out:=fun g=>⟨.t [.a [iC g.1,iC g.2.1,iC g.2.2],.c (iC (chkE C))],[],True⟩
theorem chk_eq {C:CaseM} {S:St} (h:chkE C=S.e):EqD (.t [.a [iC S.k,iC S.x,iC S.f],.c (iC S.e)]) (ChkR C (S.k,S.x,S.f)).d:=by
 exact⟨rfl,h.symm⟩
def oC:Ord:=.tree [0,1,2,4,5,6] (tr2 3 (tr2 7 (tr1 8 (tr1 9 .nil)) 8 (tr1 7 (tr1 9 .nil))) 7 (tr1 3 (tr1 8 (tr1 9 .nil))))
set_option maxRecDepth 4000 in
theorem check_c (C:CaseM):Ctr Tryz.prog 17 [] [.a (C.C [])] [] (ChkR C):=by
 refine ctr_of gT ent17 func17 rfl rfl rfl bL ClB.nil (VC_ok gT mxd ?_)
 refine vloop (rn [(3,3),(6,6),(28,47)]) (fun i:Nat=>[(28,.c (iC i)),(3,.c (iC 0))]) (fun i=>[(30,0,C.C []),(50,0,[iC 0,iC 0,iC 0]),(85,0,ckL C (stg C i)),(1,1,[.f 34 [(2,0)] [],.f 35 [(2,0)] [],.f 36 [(2,0)] [],.f 37 [(2,0)] [],.f 38 [(2,0)] [],.f 39 [(2,0)] [],.f 40 [(2,0)] [],.f 41 [(2,0)] []])]) (fun i=>i≤8∧(stg C i).e=0) (8-·) 0 ?_
 refine⟨⟨⟨Nat.zero_le _,rfl⟩,rfl,⟨rfl,rfl⟩⟩,fun i hi=>VC_ok gT mxd ⟨fun h=>VC_ok gT mxd ?_,fun h=>VC_ok gT mxd (VC_ok gT mxd ?_)⟩⟩
 ·have hw:1≤i→(1≤C.hours∧C.hours≤24)∧(C.buses.l.length:Int)≤32∧(C.lines.l.length:Int)≤64:=fun h1=>whole_ok (S:=stg C 0) (stg_ok hi.2 h1)
  have hl:3≤i→LinesOk C:=fun h1=>lines_ok (S:=stg C 2) (stg_ok hi.2 h1)
  rcases (show i=0∨i=1∨i=2∨i=3∨i=4∨i=5∨i=6∨i=7 by omega) with rfl|rfl|rfl|rfl|rfl|rfl|rfl|rfl
  ·exact⟨0,⟨rfl,bL,bL⟩,_,rfl,_,rfl,[2],whole_c C _,rfl,rfl,rfl,fun _ _=>⟨fun he=>VC_ok gT mxd ⟨oC,by kernel_rfl,⟨⟨⟨((stg C 1).k,(stg C 1).x,(stg C 1).f),trivial,fin_of (chk_eq (S:=stg C 1) (congrArg St.e (stg_bad (i:=1) he bL))) rfl trivial⟩,((stg C 1).k,(stg C 1).x,(stg C 1).f),trivial,fin_of (chk_eq (S:=stg C 1) (congrArg St.e (stg_bad (i:=1) he bL))) rfl trivial⟩,((stg C 1).k,(stg C 1).x,(stg C 1).f),trivial,fin_of (chk_eq (S:=stg C 1) (congrArg St.e (stg_bad (i:=1) he bL))) rfl trivial⟩⟩,fun he=>VC_ok gT mxd ⟨(1:Nat),wi,1,⟨⟨bL,Decidable.not_not.1 he⟩,bL⟩,rfl,rfl,⟨rfl,rfl⟩⟩⟩⟩
  ·exact⟨1,⟨rfl,bL,bL⟩,_,rfl,_,rfl,[2],buses_c C _,rfl,rfl,rfl,fun _ _=>⟨fun he=>VC_ok gT mxd ⟨oC,by kernel_rfl,⟨⟨⟨((stg C 2).k,(stg C 2).x,(stg C 2).f),trivial,fin_of (chk_eq (S:=stg C 2) (congrArg St.e (stg_bad (i:=2) he bL))) rfl trivial⟩,((stg C 2).k,(stg C 2).x,(stg C 2).f),trivial,fin_of (chk_eq (S:=stg C 2) (congrArg St.e (stg_bad (i:=2) he bL))) rfl trivial⟩,((stg C 2).k,(stg C 2).x,(stg C 2).f),trivial,fin_of (chk_eq (S:=stg C 2) (congrArg St.e (stg_bad (i:=2) he bL))) rfl trivial⟩⟩,fun he=>VC_ok gT mxd ⟨(2:Nat),wi,2,⟨⟨bL,Decidable.not_not.1 he⟩,bL⟩,rfl,rfl,⟨rfl,rfl⟩⟩⟩⟩
  ·exact⟨2,⟨rfl,bL,bL⟩,_,rfl,_,rfl,[2],lines_c C _ (hw bL).1,rfl,rfl,rfl,fun _ _=>⟨fun he=>VC_ok gT mxd ⟨oC,by kernel_rfl,⟨⟨⟨((stg C 3).k,(stg C 3).x,(stg C 3).f),trivial,fin_of (chk_eq (S:=stg C 3) (congrArg St.e (stg_bad (i:=3) he bL))) rfl trivial⟩,((stg C 3).k,(stg C 3).x,(stg C 3).f),trivial,fin_of (chk_eq (S:=stg C 3) (congrArg St.e (stg_bad (i:=3) he bL))) rfl trivial⟩,((stg C 3).k,(stg C 3).x,(stg C 3).f),trivial,fin_of (chk_eq (S:=stg C 3) (congrArg St.e (stg_bad (i:=3) he bL))) rfl trivial⟩⟩,fun he=>VC_ok gT mxd ⟨(3:Nat),wi,3,⟨⟨bL,Decidable.not_not.1 he⟩,bL⟩,rfl,rfl,⟨rfl,rfl⟩⟩⟩⟩
  ·exact⟨3,⟨rfl,bL,bL⟩,_,rfl,_,rfl,[2],units_c C _ (hw bL).1,rfl,rfl,rfl,fun _ _=>⟨fun he=>VC_ok gT mxd ⟨oC,by kernel_rfl,⟨⟨⟨((stg C 4).k,(stg C 4).x,(stg C 4).f),trivial,fin_of (chk_eq (S:=stg C 4) (congrArg St.e (stg_bad (i:=4) he bL))) rfl trivial⟩,((stg C 4).k,(stg C 4).x,(stg C 4).f),trivial,fin_of (chk_eq (S:=stg C 4) (congrArg St.e (stg_bad (i:=4) he bL))) rfl trivial⟩,((stg C 4).k,(stg C 4).x,(stg C 4).f),trivial,fin_of (chk_eq (S:=stg C 4) (congrArg St.e (stg_bad (i:=4) he bL))) rfl trivial⟩⟩,fun he=>VC_ok gT mxd ⟨(4:Nat),wi,4,⟨⟨bL,Decidable.not_not.1 he⟩,bL⟩,rfl,rfl,⟨rfl,rfl⟩⟩⟩⟩
  ·exact⟨4,⟨rfl,bL,bL⟩,_,rfl,_,rfl,[2],stores_c C _,rfl,rfl,rfl,fun _ _=>⟨fun he=>VC_ok gT mxd ⟨oC,by kernel_rfl,⟨⟨⟨((stg C 5).k,(stg C 5).x,(stg C 5).f),trivial,fin_of (chk_eq (S:=stg C 5) (congrArg St.e (stg_bad (i:=5) he bL))) rfl trivial⟩,((stg C 5).k,(stg C 5).x,(stg C 5).f),trivial,fin_of (chk_eq (S:=stg C 5) (congrArg St.e (stg_bad (i:=5) he bL))) rfl trivial⟩,((stg C 5).k,(stg C 5).x,(stg C 5).f),trivial,fin_of (chk_eq (S:=stg C 5) (congrArg St.e (stg_bad (i:=5) he bL))) rfl trivial⟩⟩,fun he=>VC_ok gT mxd ⟨(5:Nat),wi,5,⟨⟨bL,Decidable.not_not.1 he⟩,bL⟩,rfl,rfl,⟨rfl,rfl⟩⟩⟩⟩
  ·exact⟨5,⟨rfl,bL,bL⟩,_,rfl,_,rfl,[2],ties_c C _,rfl,rfl,rfl,fun _ _=>⟨fun he=>VC_ok gT mxd ⟨oC,by kernel_rfl,⟨⟨⟨((stg C 6).k,(stg C 6).x,(stg C 6).f),trivial,fin_of (chk_eq (S:=stg C 6) (congrArg St.e (stg_bad (i:=6) he bL))) rfl trivial⟩,((stg C 6).k,(stg C 6).x,(stg C 6).f),trivial,fin_of (chk_eq (S:=stg C 6) (congrArg St.e (stg_bad (i:=6) he bL))) rfl trivial⟩,((stg C 6).k,(stg C 6).x,(stg C 6).f),trivial,fin_of (chk_eq (S:=stg C 6) (congrArg St.e (stg_bad (i:=6) he bL))) rfl trivial⟩⟩,fun he=>VC_ok gT mxd ⟨(6:Nat),wi,6,⟨⟨bL,Decidable.not_not.1 he⟩,bL⟩,rfl,rfl,⟨rfl,rfl⟩⟩⟩⟩
  ·exact⟨6,⟨rfl,bL,bL⟩,_,rfl,_,rfl,[2],outs_c C _,rfl,rfl,rfl,fun _ _=>⟨fun he=>VC_ok gT mxd ⟨oC,by kernel_rfl,⟨⟨⟨((stg C 7).k,(stg C 7).x,(stg C 7).f),trivial,fin_of (chk_eq (S:=stg C 7) (congrArg St.e (stg_bad (i:=7) he bL))) rfl trivial⟩,((stg C 7).k,(stg C 7).x,(stg C 7).f),trivial,fin_of (chk_eq (S:=stg C 7) (congrArg St.e (stg_bad (i:=7) he bL))) rfl trivial⟩,((stg C 7).k,(stg C 7).x,(stg C 7).f),trivial,fin_of (chk_eq (S:=stg C 7) (congrArg St.e (stg_bad (i:=7) he bL))) rfl trivial⟩⟩,fun he=>VC_ok gT mxd ⟨(7:Nat),wi,7,⟨⟨bL,Decidable.not_not.1 he⟩,bL⟩,rfl,rfl,⟨rfl,rfl⟩⟩⟩⟩
  exact⟨7,⟨rfl,bL,bL⟩,_,rfl,_,rfl,[2],isl_c C _ (by have:=hw bL;omega) (by have:=hw bL;omega) (hw bL).1.2 (hl bL),rfl,rfl,rfl,fun _ _=>⟨fun he=>VC_ok gT mxd ⟨oC,by kernel_rfl,⟨⟨⟨((stg C 8).k,(stg C 8).x,(stg C 8).f),trivial,fin_of (chk_eq (S:=stg C 8) (congrArg St.e (stg_bad (i:=8) he bL))) rfl trivial⟩,((stg C 8).k,(stg C 8).x,(stg C 8).f),trivial,fin_of (chk_eq (S:=stg C 8) (congrArg St.e (stg_bad (i:=8) he bL))) rfl trivial⟩,((stg C 8).k,(stg C 8).x,(stg C 8).f),trivial,fin_of (chk_eq (S:=stg C 8) (congrArg St.e (stg_bad (i:=8) he bL))) rfl trivial⟩⟩,fun he=>VC_ok gT mxd ⟨(8:Nat),wi,8,⟨⟨bL,Decidable.not_not.1 he⟩,bL⟩,rfl,rfl,⟨rfl,rfl⟩⟩⟩⟩
 obtain rfl:i=8:=by omega
 exact⟨(0,0,0),trivial,fin_of (chk_eq (S:=⟨0,0,0,0⟩) hi.2) rfl trivial⟩
end Go.Proofs.YtandhgfmfpmemaaGreat
namespace Go.Proofs.YtandhgfmfpmemaaGreat
open Go.Vg Go.Vy _root_.Go.Proofs.Tryz
set_option maxHeartbeats 1000000
abbrev fdB (S:St):BL:=[(102,0,[iC S.k,iC S.x,iC S.f,iC S.e])]
abbrev FdR (S:St):Unit→Out:=fun _=>⟨.t [],fdB S,True⟩
open Classical in
noncomputable def St.nr (S:St) (p:Prop) (k x f er:Int):St:=if S.e=0∧¬p then ⟨k,x,f,er⟩ else S
theorem finF {S S':St} {s:SS} {r:BL} (hb:s.bl=(102,0,[iC S.k,iC S.x,iC S.f,iC S.e])::r) (h:S=S'):Fin [true] 1 s (.t []) (FdR S' ()):=by
 subst h
 exact fin_of rfl rfl (by rw[hb];exact⟨⟨rfl,rfl,rfl,rfl⟩,trivial⟩)
abbrev fFNeed:FuncId:=58
theorem eFNeed:Ent Tryz.prog fFNeed:=Ent.of func58 rfl kR
theorem bFNeed:Tryz.prog.funcs[fFNeed]? =some Tryz.f58:=func58
theorem fneed_c (S:St) {p:Prop} {hp:Decidable p} (k x f er:Int):Ctr Tryz.prog fFNeed [true] [.c (.p 0 0),.c (.b p hp),.c (iC k),.c (iC x),.c (iC f),.c (iC er)] (fdB S) (FdR (S.nr p k x f er)):=by
 refine ctr_of gT eFNeed bFNeed rfl rfl rfl bL (ClB.one rfl) (VC_ok gT mxd ⟨fun h=>VC_ok gT mxd ?_,fun h=>VC_ok gT mxd ?_⟩)
 ·exact⟨(),trivial,finF rfl (S:=⟨k,x,f,er⟩) (by unfold St.nr;rw[if_pos h])⟩
 exact⟨(),trivial,finF rfl (by unfold St.nr;rw[if_neg h])⟩
abbrev Btw (lo hi:Int) (l:List Int):Prop:=∀z∈l,lo≤z∧z≤hi
abbrev fBetw:FuncId:=59
theorem eBetw:Ent Tryz.prog fBetw:=Ent.of func59 rfl kR
theorem bBetw:Tryz.prog.funcs[fBetw]? =some Tryz.f59:=func59
theorem between_c (lo hi:Int) (l:Sl Int):Ctr Tryz.prog fBetw [] [.c (iC lo),.c (iC hi),.c (intsR l)] [] (fun _:Unit=>⟨pC (Btw lo hi l.l),[],True⟩):=by
 refine ctr_of gT eBetw bBetw rfl rfl rfl bL ClB.nil (lenr 2 rfl fun hn=>VC_ok gT mxd ?_)
 refine vloop (rn [(6,27)]) (fun i:Nat=>[(7,.c (iC i))]) (fun _=>[]) (fun i=>i≤l.l.length∧Btw lo hi (l.l.take i)) (l.l.length-·) 0 ?_
 refine⟨⟨⟨Nat.zero_le _,fun z hz=>absurd hz List.not_mem_nil⟩,rfl,rfl⟩,fun i hi'=>VC_ok gT mxd ⟨fun h=>VC_ok gT mxd ?_,fun h=>VC_ok gT mxd (VC_ok gT mxd ?_)⟩⟩
 ·have hl:i<l.l.length:=oM
  refine⟨i,⟨rfl,hl⟩,i,fun _=>⟨rfl,hl⟩,⟨fun h2=>VC_ok gT mxd ?_,fun h2=>VC_ok gT mxd ?_⟩⟩
  ·refine⟨(),trivial,fin_of ⟨(nomatch ·),fun h3=>?_⟩ rfl trivial⟩
   have:=h3 (l.l.getD i 0) (by rw[gd hl];exact List.getElem_mem hl)
   omega
  exact⟨(i+1:Nat),wi,i+1,⟨⟨oM,(all_take oM).2 ⟨hi'.2,(show lo≤l.l.getD i 0∧l.l.getD i 0≤hi by omega)⟩⟩,oM⟩,rfl,rfl,rfl⟩
 refine⟨(),trivial,fin_of ⟨fun _=>?_,fun _=>rfl⟩ rfl trivial⟩
 have:=hi'.2
 rwa [List.take_of_length_le oM] at this
abbrev g1 (z:Int):Nat→List CV:=fun j=>[iC ([z].getD j 0)]
theorem men0 {i:Nat}:∀c∈([]:List CV),menC i c=false:=fun c hc=>nomatch hc
theorem fz1 {nb i:Nat} (h:nb≤i) (z:Int):(nb≤i∧0<1)∧1*1=[iC z].length∧(∀j,j<1→g1 z j=([iC z].drop (j*1)).take 1)∧∀c∈[iC z],cloC c=true:=
 ⟨⟨h,Nat.zero_lt_one⟩,rfl,fun j hj=>(by obtain rfl:j=0:=by omega
                                        rfl),fun c hc=>by rw[List.mem_singleton.1 hc];rfl⟩
abbrev fRising:FuncId:=111
theorem eRising:Ent Tryz.prog fRising:=Ent.of func111 rfl kR
theorem bRising:Tryz.prog.funcs[fRising]? =some Tryz.f111:=func111
theorem rising_c (l:Sl Int):Ctr Tryz.prog fRising [] [.c (intsR l)] [] (fun _:Unit=>⟨pC (Asc l.l),[],True⟩):=by
 refine ctr_of gT eRising bRising rfl rfl rfl bL ClB.nil (lenr 0 rfl fun hn=>VC_ok gT mxd ?_)
 refine vloop (rn [(2,19)]) (fun i:Nat=>[(3,.c (iC (i+1:Nat)))]) (fun _=>[]) (fun i=>AscT l.l (i+1)∧(i<l.l.length∨i=0)) (l.l.length-·) 0 ?_
 refine⟨⟨⟨fun j h1 h2=>by omega,.inr rfl⟩,rfl,rfl⟩,fun i hi=>VC_ok gT mxd ⟨fun h=>VC_ok gT mxd ?_,fun h=>VC_ok gT mxd ?_⟩⟩
 ·refine⟨.seq [(0,false),(1,false),(2,false),(3,false),(4,false),(5,false),(6,false),(7,false),(8,false),(9,false)],by kernel_rfl,i+1,⟨rfl,oM⟩,(i:Int),wi,i,⟨rfl,oM⟩,⟨fun he=>VC_ok gT mxd ?_,fun he=>VC_ok gT mxd ?_⟩⟩
  ·refine⟨(),trivial,fin_of ?_ rfl trivial⟩
   refine⟨(nomatch ·),fun ha=>?_⟩
   have:=ha (i+1) oM oM
   rw[Nat.add_sub_cancel] at this
   omega
  refine⟨(i+1+1:Nat),wi,i+1,⟨⟨fun j h1 h2=>?_,.inl oM⟩,oM⟩,rfl,rfl,rfl⟩
  by_cases hj:j=i+1
  ·subst hj
   rw[Nat.add_sub_cancel]
   omega
  exact hi.1 j h1 oM
 refine VC_ok gT mxd ?_
 refine⟨(),trivial,fin_of ?_ rfl trivial⟩
 exact⟨fun _ j h1 h2=>hi.1 j h1 oM,fun _=>rfl⟩
abbrev fFHour:FuncId:=57
theorem eFHour:Ent Tryz.prog fFHour:=Ent.of func57 rfl kR
theorem bFHour:Tryz.prog.funcs[fFHour]? =some Tryz.f57:=func57
noncomputable def St.hr (S:St) (C:CaseM) (l:List Int) (lo hi k x f:Int):St:=(S.nr (↑l.length=C.hours) k x f 4).nr (Btw lo hi l) k x f 3
theorem fhourly_c (C:CaseM) (S:St) (l:Sl Int) (lo hi k x f:Int):Ctr Tryz.prog fFHour [true] [.c (.p 0 0),.a (C.C []),.c (intsR l),.c (iC lo),.c (iC hi),.c (iC k),.c (iC x),.c (iC f)] (fdB S) (FdR (S.hr C l.l lo hi k x f)):=by
 refine ctr_of gT eFHour bFHour rfl rfl rfl bL (ClB.one rfl) (VC_ok gT mxd ?_)
 exact⟨[0],fneed_c S k x f 4,rfl,rfl,rfl,fun _ _=>⟨[],between_c lo hi l,rfl,rfl,rfl,fun _ _=>⟨[0],fneed_c _ k x f 3,rfl,rfl,rfl,fun _ _=>⟨(),trivial,finF rfl rfl⟩⟩⟩⟩
abbrev fFAway:FuncId:=109
theorem eFAway:Ent Tryz.prog fFAway:=Ent.of func109 rfl kR
theorem bFAway:Tryz.prog.funcs[fFAway]? =some Tryz.f109:=func109
noncomputable def St.aw (S:St) (C:CaseM) (l:List Int) (k x f:Int):St:=(S.nr (Btw 0 (C.hours-1) l) k x f 3).nr (Asc l) k x f 11
theorem faway_c (C:CaseM) (S:St) (l:Sl Int) (k x f:Int) (hC:1≤C.hours∧C.hours≤24):Ctr Tryz.prog fFAway [true] [.c (.p 0 0),.a (C.C []),.c (intsR l),.c (iC k),.c (iC x),.c (iC f)] (fdB S) (FdR (S.aw C l.l k x f)):=by
 refine ctr_of gT eFAway bFAway rfl rfl rfl bL (ClB.one rfl) (VC_ok gT mxd ?_)
 exact⟨C.hours-1,wi,[],between_c 0 (C.hours-1) l,rfl,rfl,rfl,fun _ _=>⟨[0],fneed_c S k x f 3,rfl,rfl,rfl,fun _ _=>⟨[],rising_c l,rfl,rfl,rfl,fun _ _=>⟨[0],fneed_c _ k x f 11,rfl,rfl,rfl,fun _ _=>⟨(),trivial,finF rfl rfl⟩⟩⟩⟩⟩
abbrev fFrac:FuncId:=108
theorem eFrac:Ent Tryz.prog fFrac:=Ent.of func108 rfl kR
theorem bFrac:Tryz.prog.funcs[fFrac]? =some Tryz.f108:=func108
theorem fraction_c (f:FracM):Ctr Tryz.prog fFrac [] [.a [iC f.num,iC f.den]] [] (fun _:Unit=>⟨pC (Btw 1 1048576 [f.den]∧Btw (-1048576) 1048576 [f.num]),[],True⟩):=by
 refine ctr_of gT eFrac bFrac rfl rfl rfl bL ClB.nil (VC_ok gT mxd ?_)
 refine⟨some (g1 f.den),fz1 bL f.den,fun A c _ _=>⟨[],between_c 1 1048576 ⟨A,c,[f.den]⟩,rfl,rfl,rfl,fun _ _=>⟨fun h1=>⟨some (g1 f.num),fz1 bL f.num,fun A' c' _ _=>⟨men0,[],between_c (-1048576) 1048576 ⟨A',c',[f.num]⟩,rfl,rfl,rfl,fun _ _=>⟨(),trivial,fin_of ⟨fun h=>⟨h1,h⟩,fun h=>h.2⟩ rfl trivial⟩⟩⟩,fun h1=>⟨(),trivial,fin_of ⟨(nomatch ·),fun h=>absurd h.1 h1⟩ rfl trivial⟩⟩⟩⟩
abbrev fFBus:FuncId:=107
theorem eFBus:Ent Tryz.prog fFBus:=Ent.of func107 rfl kR
theorem bFBus:Tryz.prog.funcs[fFBus]? =some Tryz.f107:=func107
theorem fbus_c (C:CaseM) (hB:C.buses.l.length≤1000) (S:St) (b k x f:Int):Ctr Tryz.prog fFBus [true] [.c (.p 0 0),.a (C.C []),.c (iC b),.c (iC k),.c (iC x),.c (iC f)] (fdB S) (FdR (S.nr (Btw 0 ((C.buses.l.length:Int)-1) [b]) k x f 12)):=by
 refine ctr_of gT eFBus bFBus rfl rfl rfl bL (ClB.one rfl) (VC_ok gT mxd ?_)
 exact⟨(C.buses.l.length:Int)-1,wi,some (g1 b),fz1 bL b,fun A c _ _=>⟨[],between_c 0 ((C.buses.l.length:Int)-1) ⟨A,c,[b]⟩,rfl,rfl,rfl,fun _ _=>⟨[0],fneed_c S k x f 12,rfl,rfl,rfl,fun _ _=>⟨(),trivial,finF rfl rfl⟩⟩⟩⟩
/-! ### names -/
def strG (n:Nat) (f:Nat→ByteArray):Nat→List CV:=fun j=>[sC (((List.range n).map f).getD j ⟨#[]⟩)]
abbrev NamR (n:Nat) (f:Nat→ByteArray):Option Addr×Nat→Out:=fun g=>⟨.c (.r g.1 n g.2 1 (strG n f)),[],True⟩
def nmL (n:Nat) (f:Nat→ByteArray):List CV:=(List.range n).map fun j=>sC (f j)
theorem nmL_succ (n:Nat) (f:Nat→ByteArray):nmL (n+1) f=nmL n f++[sC (f n)]:=by unfold nmL;rw[List.range_succ,List.map_append];rfl
theorem nm_len {n:Nat} {f:Nat→ByteArray}:n*1=(nmL n f).length:=by simp[nmL]
theorem nm_all {n:Nat} {f:Nat→ByteArray} {c:CV} (hc:c∈nmL n f):∃z,c=sC z:=by
 obtain⟨z,_,rfl⟩:=List.mem_map.1 hc
 exact⟨_,rfl⟩
theorem sc_nm {m:Nat} (n:Nat) (f:Nat→ByteArray):(nmL n f).all (scC m)=true:=List.all_eq_true.2 fun c hc=>by
 obtain⟨z,rfl⟩:=nm_all hc
 rfl
theorem clo_nm (n:Nat) (f:Nat→ByteArray):∀c∈nmL n f,cloC c=true:=fun c hc=>by
 obtain⟨z,rfl⟩:=nm_all hc
 rfl
theorem menS {z:ByteArray} {i:Nat}:∀c∈[sC z],menC i c=false:=fun c hc=>by rw[List.mem_singleton.1 hc];rfl
theorem apN {n:Nat} {f:Nat→ByteArray} {z:ByteArray} {i:Nat} (h:n≤1000000):1*1=[sC z].length∧n*1=(nmL n f).length∧n+1≤maxLen∧(n+1)*16≤140737488355328∧∀c∈nmL n f++[sC z],menC i c=false:=
 ⟨rfl,nm_len,by simp only[maxLen];omega,by omega,fun c hc=>by
  rcases List.mem_append.1 hc with hc|hc
  ·obtain⟨z,rfl⟩:=nm_all hc
   rfl
  rw[List.mem_singleton.1 hc];rfl⟩
theorem nm_get {n:Nat} {f:Nat→ByteArray} {j:Nat} (h:j<n):strG n f j=((nmL n f).drop (j*1)).take 1:=by
 have hl:j<(nmL n f).length:=by rw[←nm_len];omega
 rw[Nat.mul_one,List.drop_eq_getElem_cons hl]
 simp[strG,nmL,h]
theorem frzN {q:FuncId} {al:List DV} {n:Nat} {f:Nat→ByteArray} {C:CaseM} (h:Ctr Tryz.prog q [] al [] (fun _:Unit=>⟨.c (.s 1 n),[(30,0,C.C []),(9,1,nmL n f)],True⟩)):Ctr Tryz.prog q [] al [] (NamR n f):=
 CtrF.gt h fun g hC _=>gfrz tGt 0 1 (strG n f) rfl rfl (fun j hj=>nm_get hj) nm_len bL (clo_nm _ _) (Nat.zero_le _) fun A c _ _=>gfin (M:=fun _=>true) (base:=[]) (chg:=fun g:Option Addr×Nat=>[(0,.c (.r g.1 n g.2 1 (strG n f)))]) (bls:=fun _=>[]) (fls:=fun _=>[]) (fun t d ht=>by cases ht) (A,c) ⟨trivial,fun i T es l hi=>by cases hi⟩ rfl trivial trivial rfl (Nat.le_refl _) (fun i T es l hi=>by cases hi) rfl
abbrev fNames:FuncId:=104
theorem eNames:Ent Tryz.prog fNames:=Ent.of func104 rfl kR
theorem bNames:Tryz.prog.funcs[fNames]? =some Tryz.f104:=func104
theorem names1_c (C:CaseM) (hn:C.buses.l.length≤1000):Ctr Tryz.prog fNames [] [.a (C.C []),.c (iC 1)] [] (NamR C.buses.l.length fun i=>(C.buses.l.getD i bus0).name):=by
 refine frzN (C:=C) (ctr_of gT eNames bNames rfl rfl rfl bL ClB.nil (VC_ok gT mxd ⟨fun _=>VC_ok gT mxd (vnil 5 9 1 rfl bL ?_),fun h=>absurd rfl h⟩))
 refine vloopD (rn [(5,5),(6,6),(15,30)]) 2 (fun i:Nat=>[(6,.c (iC i)),(5,.c (.s 1 i))]) (fun i=>[(30,0,C.C []),(9,1,nmL i fun i=>(C.buses.l.getD i bus0).name)]) (·≤C.buses.l.length) (C.buses.l.length-·) 0 (fun _=>rfl) bL (fun _=>scB.cons rfl (scB.cons (sc_nm _ _) scB.nil)) (fun _=>rfl) ?_
 refine⟨⟨rfl,Nat.zero_le _,⟨rfl,rfl⟩,⟨rfl,rfl⟩⟩,fun i hi=>VC_ok gT mxd ⟨fun h1=>VC_ok gT mxd ?_,fun h1=>VC_ok gT mxd ?_⟩⟩
 ·exact⟨i,⟨rfl,oM⟩,apN oM,menS,(i+1:Nat),wi,i+1,⟨oM,oM⟩,rfl,⟨rfl,by rw[nmL_succ];rfl⟩,rfl,rfl⟩
 obtain rfl:i=C.buses.l.length:=by omega
 exact⟨(),trivial,fin_own rfl ⟨rfl,rfl⟩ bL (scB.cons rfl (scB.cons (sc_nm _ _) scB.nil)) rfl clB0⟩
theorem names2_c (C:CaseM) (hn:C.lines.l.length≤1000):Ctr Tryz.prog fNames [] [.a (C.C []),.c (iC 2)] [] (NamR C.lines.l.length fun i=>(C.lines.l.getD i line0).name):=by
 refine frzN (C:=C) (ctr_of gT eNames bNames rfl rfl rfl bL ClB.nil (VC_ok gT mxd ⟨fun h=>absurd h dC,fun _=>VC_ok gT mxd ⟨fun _=>VC_ok gT mxd (vnil 5 9 1 rfl bL ?_),fun h=>absurd rfl h⟩⟩))
 refine vloopD (rn [(5,5),(7,7),(33,48)]) 2 (fun i:Nat=>[(7,.c (iC i)),(5,.c (.s 1 i))]) (fun i=>[(30,0,C.C []),(9,1,nmL i fun i=>(C.lines.l.getD i line0).name)]) (·≤C.lines.l.length) (C.lines.l.length-·) 0 (fun _=>rfl) bL (fun _=>scB.cons rfl (scB.cons (sc_nm _ _) scB.nil)) (fun _=>rfl) ?_
 refine⟨⟨rfl,Nat.zero_le _,⟨rfl,rfl⟩,⟨rfl,rfl⟩⟩,fun i hi=>VC_ok gT mxd ⟨fun h1=>VC_ok gT mxd ?_,fun h1=>VC_ok gT mxd ?_⟩⟩
 ·exact⟨i,⟨rfl,oM⟩,apN oM,menS,(i+1:Nat),wi,i+1,⟨oM,oM⟩,rfl,⟨rfl,by rw[nmL_succ];rfl⟩,rfl,rfl⟩
 obtain rfl:i=C.lines.l.length:=by omega
 exact⟨(),trivial,fin_own rfl ⟨rfl,rfl⟩ bL (scB.cons rfl (scB.cons (sc_nm _ _) scB.nil)) rfl clB0⟩
theorem names3_c (C:CaseM) (hn:C.units.l.length≤1000):Ctr Tryz.prog fNames [] [.a (C.C []),.c (iC 3)] [] (NamR C.units.l.length fun i=>(C.units.l.getD i unit0).name):=by
 refine frzN (C:=C) (ctr_of gT eNames bNames rfl rfl rfl bL ClB.nil (VC_ok gT mxd ⟨fun h=>absurd h dC,fun _=>VC_ok gT mxd ⟨fun h=>absurd h dC,fun _=>VC_ok gT mxd ⟨fun _=>VC_ok gT mxd (vnil 5 9 1 rfl bL ?_),fun h=>absurd rfl h⟩⟩⟩))
 refine vloopD (rn [(5,5),(8,8),(51,66)]) 2 (fun i:Nat=>[(8,.c (iC i)),(5,.c (.s 1 i))]) (fun i=>[(30,0,C.C []),(9,1,nmL i fun i=>(C.units.l.getD i unit0).name)]) (·≤C.units.l.length) (C.units.l.length-·) 0 (fun _=>rfl) bL (fun _=>scB.cons rfl (scB.cons (sc_nm _ _) scB.nil)) (fun _=>rfl) ?_
 refine⟨⟨rfl,Nat.zero_le _,⟨rfl,rfl⟩,⟨rfl,rfl⟩⟩,fun i hi=>VC_ok gT mxd ⟨fun h1=>VC_ok gT mxd ?_,fun h1=>VC_ok gT mxd ?_⟩⟩
 ·exact⟨i,⟨rfl,oM⟩,apN oM,menS,(i+1:Nat),wi,i+1,⟨oM,oM⟩,rfl,⟨rfl,by rw[nmL_succ];rfl⟩,rfl,rfl⟩
 obtain rfl:i=C.units.l.length:=by omega
 exact⟨(),trivial,fin_own rfl ⟨rfl,rfl⟩ bL (scB.cons rfl (scB.cons (sc_nm _ _) scB.nil)) rfl clB0⟩
theorem names4_c (C:CaseM) (hn:C.stores.l.length≤1000):Ctr Tryz.prog fNames [] [.a (C.C []),.c (iC 4)] [] (NamR C.stores.l.length fun i=>(C.stores.l.getD i store0).name):=by
 refine frzN (C:=C) (ctr_of gT eNames bNames rfl rfl rfl bL ClB.nil (VC_ok gT mxd ⟨fun h=>absurd h dC,fun _=>VC_ok gT mxd ⟨fun h=>absurd h dC,fun _=>VC_ok gT mxd ⟨fun h=>absurd h dC,fun _=>VC_ok gT mxd ⟨fun _=>VC_ok gT mxd (vnil 5 9 1 rfl bL ?_),fun h=>absurd rfl h⟩⟩⟩⟩))
 refine vloopD (rn [(5,5),(9,9),(69,84)]) 2 (fun i:Nat=>[(9,.c (iC i)),(5,.c (.s 1 i))]) (fun i=>[(30,0,C.C []),(9,1,nmL i fun i=>(C.stores.l.getD i store0).name)]) (·≤C.stores.l.length) (C.stores.l.length-·) 0 (fun _=>rfl) bL (fun _=>scB.cons rfl (scB.cons (sc_nm _ _) scB.nil)) (fun _=>rfl) ?_
 refine⟨⟨rfl,Nat.zero_le _,⟨rfl,rfl⟩,⟨rfl,rfl⟩⟩,fun i hi=>VC_ok gT mxd ⟨fun h1=>VC_ok gT mxd ?_,fun h1=>VC_ok gT mxd ?_⟩⟩
 ·exact⟨i,⟨rfl,oM⟩,apN oM,menS,(i+1:Nat),wi,i+1,⟨oM,oM⟩,rfl,⟨rfl,by rw[nmL_succ];rfl⟩,rfl,rfl⟩
 obtain rfl:i=C.stores.l.length:=by omega
 exact⟨(),trivial,fin_own rfl ⟨rfl,rfl⟩ bL (scB.cons rfl (scB.cons (sc_nm _ _) scB.nil)) rfl clB0⟩
theorem names5_c (C:CaseM) (hn:C.ties.l.length≤1000):Ctr Tryz.prog fNames [] [.a (C.C []),.c (iC 5)] [] (NamR C.ties.l.length fun i=>(C.ties.l.getD i tie0).name):=by
 refine frzN (C:=C) (ctr_of gT eNames bNames rfl rfl rfl bL ClB.nil (VC_ok gT mxd ⟨fun h=>absurd h dC,fun _=>VC_ok gT mxd ⟨fun h=>absurd h dC,fun _=>VC_ok gT mxd ⟨fun h=>absurd h dC,fun _=>VC_ok gT mxd ⟨fun h=>absurd h dC,fun _=>VC_ok gT mxd ⟨fun _=>VC_ok gT mxd (vnil 5 9 1 rfl bL ?_),fun h=>absurd rfl h⟩⟩⟩⟩⟩))
 refine vloopD (rn [(5,5),(10,10),(87,102)]) 2 (fun i:Nat=>[(10,.c (iC i)),(5,.c (.s 1 i))]) (fun i=>[(30,0,C.C []),(9,1,nmL i fun i=>(C.ties.l.getD i tie0).name)]) (·≤C.ties.l.length) (C.ties.l.length-·) 0 (fun _=>rfl) bL (fun _=>scB.cons rfl (scB.cons (sc_nm _ _) scB.nil)) (fun _=>rfl) ?_
 refine⟨⟨rfl,Nat.zero_le _,⟨rfl,rfl⟩,⟨rfl,rfl⟩⟩,fun i hi=>VC_ok gT mxd ⟨fun h1=>VC_ok gT mxd ?_,fun h1=>VC_ok gT mxd ?_⟩⟩
 ·exact⟨i,⟨rfl,oM⟩,apN oM,menS,(i+1:Nat),wi,i+1,⟨oM,oM⟩,rfl,⟨rfl,by rw[nmL_succ];rfl⟩,rfl,rfl⟩
 obtain rfl:i=C.ties.l.length:=by omega
 exact⟨(),trivial,fin_own rfl ⟨rfl,rfl⟩ bL (scB.cons rfl (scB.cons (sc_nm _ _) scB.nil)) rfl clB0⟩
theorem names6_c (C:CaseM) (hn:C.outs.l.length≤1000):Ctr Tryz.prog fNames [] [.a (C.C []),.c (iC 6)] [] (NamR C.outs.l.length fun i=>(C.outs.l.getD i out0).name):=by
 refine frzN (C:=C) (ctr_of gT eNames bNames rfl rfl rfl bL ClB.nil (VC_ok gT mxd ⟨fun h=>absurd h dC,fun _=>VC_ok gT mxd ⟨fun h=>absurd h dC,fun _=>VC_ok gT mxd ⟨fun h=>absurd h dC,fun _=>VC_ok gT mxd ⟨fun h=>absurd h dC,fun _=>VC_ok gT mxd ⟨fun h=>absurd h dC,fun _=>VC_ok gT mxd ⟨fun _=>VC_ok gT mxd (vnil 5 9 1 rfl bL ?_),fun h=>absurd rfl h⟩⟩⟩⟩⟩⟩))
 refine vloopD (rn [(5,5),(11,11),(105,120)]) 2 (fun i:Nat=>[(11,.c (iC i)),(5,.c (.s 1 i))]) (fun i=>[(30,0,C.C []),(9,1,nmL i fun i=>(C.outs.l.getD i out0).name)]) (·≤C.outs.l.length) (C.outs.l.length-·) 0 (fun _=>rfl) bL (fun _=>scB.cons rfl (scB.cons (sc_nm _ _) scB.nil)) (fun _=>rfl) ?_
 refine⟨⟨rfl,Nat.zero_le _,⟨rfl,rfl⟩,⟨rfl,rfl⟩⟩,fun i hi=>VC_ok gT mxd ⟨fun h1=>VC_ok gT mxd ?_,fun h1=>VC_ok gT mxd ?_⟩⟩
 ·exact⟨i,⟨rfl,oM⟩,apN oM,menS,(i+1:Nat),wi,i+1,⟨oM,oM⟩,rfl,⟨rfl,by rw[nmL_succ];rfl⟩,rfl,rfl⟩
 obtain rfl:i=C.outs.l.length:=by omega
 exact⟨(),trivial,fin_own rfl ⟨rfl,rfl⟩ bL (scB.cons rfl (scB.cons (sc_nm _ _) scB.nil)) rfl clB0⟩
end Go.Proofs.YtandhgfmfpmemaaGreat
namespace Go.Proofs.YtandhgfmfpmemaaGreat
open Go.Vg Go.Vy _root_.Go.Proofs.Tryz
set_option maxHeartbeats 1000000
theorem St.nr_bad {p:Prop} {k x f er:Int} {S:St} (h:S.e≠0):S.nr p k x f er=S:=by
 unfold St.nr;rw[if_neg (fun hh=>h hh.1)]
theorem St.nr_true {p:Prop} {k x f er:Int} {S:St} (h:p):S.nr p k x f er=S:=by
 unfold St.nr;rw[if_neg (fun hh=>hh.2 h)]
theorem St.nr_no {p:Prop} {k x f er:Int} {S:St} (h:S.e=0) (hp:¬p):S.nr p k x f er=⟨k,x,f,er⟩:=by
 unfold St.nr;rw[if_pos ⟨h,hp⟩]
theorem St.nr_iff {p q:Prop} {k x f er:Int} {S:St} (h:p↔q):S.nr p k x f er=S.nr q k x f er:=by rw[propext h]
theorem St.nr_nr {p q:Prop} {k x f er:Int} {S:St} (he:er≠0):(S.nr p k x f er).nr q k x f er=S.nr (p∧q) k x f er:=by
 by_cases hS:S.e=0
 ·by_cases hp:p
  ·rw[nr_true hp];exact nr_iff ⟨fun h=>⟨hp,h⟩,fun h=>h.2⟩
  rw[nr_no hS hp,nr_bad he,nr_no hS (fun h=>hp h.1)]
 rw[nr_bad hS,nr_bad hS,nr_bad hS]
theorem St.nr_take {α:Type} {P:α→Prop} {l:List α} {i:Nat} {d:α} {k x f er:Int} {S:St} (he:er≠0) (h:i<l.length):(S.nr (∀z∈l.take i,P z) k x f er).nr (P (l.getD i d)) k x f er=S.nr (∀z∈l.take (i+1),P z) k x f er:=by
 rw[nr_nr he];exact nr_iff (all_take h).symm
theorem St.nr_ok {p:Prop} {k x f er:Int} {S:St} (h:(S.nr p k x f er).e=0) (he:er≠0):S.e=0∧p:=by
 by_cases hS:S.e=0
 ·by_cases hp:p
  ·exact⟨hS,hp⟩
  rw[nr_no hS hp] at h;exact absurd h he
 rw[nr_bad hS] at h;exact absurd h hS
theorem between1_c (lo hi z:Int):Ctr Tryz.prog fBetw [true] [.c (iC lo),.c (iC hi),.c (.s 0 1)] [(3,1,[iC z])] (fun _:Unit=>⟨pC (lo≤z∧z≤hi),[(3,1,[iC z])],True⟩):=by
 refine ctr_of gT eBetw bBetw rfl rfl rfl bL (ClB.one rfl) (VC_ok gT mxd ?_)
 refine vloop (rn [(6,27)]) (fun i:Nat=>[(7,.c (iC i))]) (fun _=>[(3,1,[iC z])]) (fun i=>i≤1∧(0<i→lo≤z∧z≤hi)) (1-·) 0 ?_
 refine⟨⟨⟨Nat.zero_le _,fun h=>by omega⟩,rfl,rfl⟩,fun i hi'=>VC_ok gT mxd ⟨fun h=>VC_ok gT mxd ?_,fun h=>VC_ok gT mxd (VC_ok gT mxd ?_)⟩⟩
 ·obtain rfl:i=0:=by omega
  refine⟨0,⟨rfl,bL,bL⟩,_,rfl,0,fun _=>⟨rfl,bL,bL⟩,_,fun _=>rfl,⟨fun h2=>VC_ok gT mxd ?_,fun h2=>VC_ok gT mxd ?_⟩⟩
  ·refine⟨(),trivial,fin_of ⟨(nomatch ·),fun h3=>?_⟩ rfl ⟨⟨rfl,rfl,rfl,rfl⟩,trivial⟩⟩
   omega
  exact⟨(1:Nat),wi,1,⟨⟨bL,fun _=>oM⟩,bL⟩,rfl,rfl,rfl⟩
 obtain rfl:i=1:=by omega
 exact⟨(),trivial,fin_of ⟨fun _=>hi'.2 bL,fun _=>rfl⟩ rfl ⟨⟨rfl,rfl,rfl,rfl⟩,trivial⟩⟩
abbrev fdC (C:CaseM) (S:St):BL:=[(102,0,[iC S.k,iC S.x,iC S.f,iC S.e]),(30,0,C.C [])]
abbrev fFName:FuncId:=56
theorem eFName:Ent Tryz.prog fFName:=Ent.of func56 rfl kR
theorem bFName:Tryz.prog.funcs[fFName]? =some Tryz.f56:=func56
noncomputable def St.nm (S:St) (f:Nat→ByteArray) (k:Int) (i:Nat):St:=(S.nr (NameP (f i)) k i 0 9).nr (∀j,j<i→(f j).toList≠(f i).toList) k i 0 10
theorem fname_c {C:CaseM} {k:Int} {n i:Nat} {f:Nat→ByteArray} (hN:Ctr Tryz.prog fNames [] [.a (C.C []),.c (iC k)] [] (NamR n f)) (hi:i<n) (hn:n≤1000) (S:St):Ctr Tryz.prog fFName [true] [.c (.p 0 0),.a (C.C []),.c (iC k),.c (iC i)] (fdB S) (FdR (S.nm f k i)):=by
 have hfi:((List.range n).map f).getD i ⟨#[]⟩=f i:=by simp[hi]
 refine ctr_of gT eFName bFName rfl rfl rfl bL (ClB.one rfl) (VC_ok gT mxd ⟨[],hN,rfl,rfl,rfl,fun g _=>⟨i,⟨rfl,hi⟩,[],rname_c _,rfl,rfl,rfl,fun _ _=>⟨[0],fneed_c S k i 0 9,rfl,rfl,rfl,fun _ _=>?_⟩⟩⟩)
 rw[hfi]
 refine vloop (rn [(9,9),(22,39)]) (fun j:Nat=>[(9,.c (iC j))]) (fun j=>fdC C ((S.nr (NameP (f i)) k i 0 9).nr (∀m,m<j→(f m).toList≠(f i).toList) k i 0 10)) (·≤i) (i-·) 0 ?_
 refine⟨⟨Nat.zero_le _,congrArg (fdC C) (St.nr_true (p:=∀m,m<0→_) fun m hm=>absurd hm (Nat.not_lt_zero _)).symm,rfl⟩,fun j hj=>VC_ok gT mxd ⟨fun h=>VC_ok gT mxd ?_,fun h=>VC_ok gT mxd ?_⟩⟩
 ·have hfj:((List.range n).map f).getD j ⟨#[]⟩=f j:=by simp[show j<n by omega]
  refine⟨.seq ((List.range 13).map fun i=>(i,i==12)),by kernel_rfl,j,⟨rfl,by omega⟩,i,⟨rfl,hi⟩,[0],fneed_c _ k i 0 10,rfl,rfl,rfl,fun _ _=>⟨(j+1:Nat),wi,j+1,⟨oM,oM⟩,rfl,congrArg (fdC C) ?_,rfl⟩⟩
  rw[hfj,hfi]
  rw[St.nr_iff (p:=∀m,m<j+1→_) (q:=(∀m,m<j→(f m).toList≠(f i).toList)∧(f j).toList≠(f i).toList) ⟨fun h=>⟨fun m hm=>h m oM,h j oM⟩,fun h m hm=>by
   by_cases hmj:m=j
   ·subst hmj;exact h.2
   exact h.1 m oM⟩,←St.nr_nr dC]
 obtain rfl:j=i:=by omega
 exact⟨(),trivial,finF rfl rfl⟩
end Go.Proofs.YtandhgfmfpmemaaGreat
namespace Go.Proofs.YtandhgfmfpmemaaGreat
open Go.Vg Go.Vy _root_.Go.Proofs.Tryz
set_option maxHeartbeats 1000000
abbrev FrOk (f:FracM):Prop:=Btw 1 1048576 [f.den]∧Btw (-1048576) 1048576 [f.num]
abbrev fMost:FuncId:=105
theorem eMost:Ent Tryz.prog fMost:=Ent.of func105 rfl kR
theorem bMost:Tryz.prog.funcs[fMost]? =some Tryz.f105:=func105
theorem most_c (k:Nat) (v:Int) (h:([iC 0,iC 32,iC 64,iC 16,iC 8,iC 8,iC 64]:List CV)[k]? =some (iC v)):Ctr Tryz.prog fMost [] [.c (iC k)] [] (fun _:Unit=>⟨.c (iC v),[],True⟩):=by
 have hk:k<7:=get_lt h
 exact ctr_of gT eMost bMost rfl rfl rfl bL ClB.nil (VC_ok gT mxd ⟨k,⟨rfl,hk,(by rw[Nat.mul_one];exact hk)⟩,iC v,(by rw[Nat.mul_one];exact h),(),trivial,fin_of rfl rfl trivial⟩)
structure Sh (C:CaseM):Prop where
 b:C.buses.l.length≤1000
 l:C.lines.l.length≤1000
 u:C.units.l.length≤1000
 s:C.stores.l.length≤1000
 t:C.ties.l.length≤1000
 o:C.outs.l.length≤1000
 m:∀x∈C.outs.l,x.moves.l.length≤2000000
noncomputable def frmK (C:CaseM):Nat→St→St
 |0,S=>S.nr ((C.lines.l.length:Int)≤64) 0 0 3 8
 |1,S=>S.nr ((C.units.l.length:Int)≤16) 0 0 4 8
 |2,S=>S.nr ((C.stores.l.length:Int)≤8) 0 0 5 8
 |3,S=>S.nr ((C.ties.l.length:Int)≤8) 0 0 6 8
 |_,S=>S.nr ((C.outs.l.length:Int)≤64) 0 0 7 8
noncomputable def frm0 (C:CaseM) (S:St):St:=((S.nr (1≤C.hours∧C.hours≤24) 0 0 0 3).hr C C.reserve.l 0 1048576 0 0 1).nr (1≤(C.buses.l.length:Int)∧(C.buses.l.length:Int)≤32) 0 0 2 8
noncomputable def frm (C:CaseM) (S:St):St:=iter 5 (frmK C) (frm0 C S)
abbrev fFrame:FuncId:=55
theorem eFrame:Ent Tryz.prog fFrame:=Ent.of func55 rfl kR
theorem bFrame:Tryz.prog.funcs[fFrame]? =some Tryz.f55:=func55
theorem frame_c (C:CaseM) (hS:Sh C) (S:St):Ctr Tryz.prog fFrame [true] [.c (.p 0 0),.a (C.C [])] (fdB S) (FdR (frm C S)):=by
 refine ctr_of gT eFrame bFrame rfl rfl rfl bL (ClB.one rfl) (VC_ok gT mxd ?_)
 refine⟨none,[2],between1_c 1 24 C.hours,rfl,rfl,rfl,fun _ _=>⟨[0],fneed_c S 0 0 0 3,rfl,rfl,rfl,fun _ _=>⟨[0],fhourly_c C _ C.reserve 0 1048576 0 0 1,rfl,rfl,rfl,fun _ _=>⟨none,[3],between1_c 1 32 C.buses.l.length,rfl,rfl,rfl,fun _ _=>⟨[0],fneed_c _ 0 0 2 8,rfl,rfl,rfl,fun _ _=>?_⟩⟩⟩⟩⟩
 refine vloopD (rn [(4,4),(8,8),(20,20),(23,37)]) 2 (fun k:Nat=>[(4,.c (iC ((k:Int)+2)))]) (fun k=>fdC C (iter k (frmK C) (frm0 C S))) (·≤5) (5-·) 0 (fun _=>rfl) bL (fun _=>scB.cons rfl (scB.cons rfl scB.nil)) (fun _=>rfl) ?_
 refine⟨⟨rfl,Nat.zero_le _,⟨rfl,rfl⟩,rfl⟩,fun k hk=>VC_ok gT mxd ⟨fun h=>VC_ok gT mxd ?_,fun h=>VC_ok gT mxd ?_⟩⟩
 ·rcases (show k=0∨k=1∨k=2∨k=3∨k=4 by omega) with rfl|rfl|rfl|rfl|rfl
  ·exact⟨[],names2_c C hS.l,rfl,rfl,rfl,fun g _=>⟨[],most_c 2 64 rfl,rfl,rfl,rfl,fun _ _=>⟨3,wi,⟨[0],fneed_c _ 0 0 3 8,rfl,rfl,rfl,fun _ _=>⟨(((1:Nat):Int)+2),wi,1,⟨bL,bL⟩,rfl,⟨rfl,rfl⟩,rfl⟩⟩⟩⟩⟩
  ·exact⟨[],names3_c C hS.u,rfl,rfl,rfl,fun g _=>⟨[],most_c 3 16 rfl,rfl,rfl,rfl,fun _ _=>⟨4,wi,⟨[0],fneed_c _ 0 0 4 8,rfl,rfl,rfl,fun _ _=>⟨(((2:Nat):Int)+2),wi,2,⟨bL,bL⟩,rfl,⟨rfl,rfl⟩,rfl⟩⟩⟩⟩⟩
  ·exact⟨[],names4_c C hS.s,rfl,rfl,rfl,fun g _=>⟨[],most_c 4 8 rfl,rfl,rfl,rfl,fun _ _=>⟨5,wi,⟨[0],fneed_c _ 0 0 5 8,rfl,rfl,rfl,fun _ _=>⟨(((3:Nat):Int)+2),wi,3,⟨bL,bL⟩,rfl,⟨rfl,rfl⟩,rfl⟩⟩⟩⟩⟩
  ·exact⟨[],names5_c C hS.t,rfl,rfl,rfl,fun g _=>⟨[],most_c 5 8 rfl,rfl,rfl,rfl,fun _ _=>⟨6,wi,⟨[0],fneed_c _ 0 0 6 8,rfl,rfl,rfl,fun _ _=>⟨(((4:Nat):Int)+2),wi,4,⟨bL,bL⟩,rfl,⟨rfl,rfl⟩,rfl⟩⟩⟩⟩⟩
  exact⟨[],names6_c C hS.o,rfl,rfl,rfl,fun g _=>⟨[],most_c 6 64 rfl,rfl,rfl,rfl,fun _ _=>⟨7,wi,⟨[0],fneed_c _ 0 0 7 8,rfl,rfl,rfl,fun _ _=>⟨(((5:Nat):Int)+2),wi,5,⟨bL,bL⟩,rfl,⟨rfl,rfl⟩,rfl⟩⟩⟩⟩⟩
 obtain rfl:k=5:=by omega
 exact⟨(),trivial,finF rfl rfl⟩
noncomputable def rLine (C:CaseM) (i:Nat) (S:St):St:=
 let x:=C.lines.l.getD i line0
 ((((((((((S).nm (fun i=>(C.lines.l.getD i line0).name) 2 i).nr (Btw 0 ((C.buses.l.length:Int)-1) [x.fro]) 2 i 1 12).nr (Btw 0 ((C.buses.l.length:Int)-1) [x.to]) 2 i 2 12).nr (x.fro≠x.to) 2 i 2 1).nr (FrOk x.rea∧0<x.rea.num) 2 i 3 3).nr (FrOk x.smin∧x.smin.num≤0) 2 i 4 3).nr (FrOk x.smax∧0≤x.smax.num) 2 i 5 3).nr (0≤x.lim∧x.lim≤1048576) 2 i 6 3).nr (x.lim≤x.eme∧x.eme≤1048576) 2 i 7 3).aw C x.away.l 2 i 8
abbrev fRLine:FuncId:=60
theorem eRLine:Ent Tryz.prog fRLine:=Ent.of func60 rfl kR
theorem bRLine:Tryz.prog.funcs[fRLine]? =some Tryz.f60:=func60
set_option maxRecDepth 4000 in
theorem rline_c (C:CaseM) (hS:Sh C) (hC:1≤C.hours∧C.hours≤24) {i:Nat} (hi:i<C.lines.l.length) (S:St):Ctr Tryz.prog fRLine [true] [.c (.p 0 0),.a (C.C []),.c (iC i)] (fdB S) (FdR (rLine C i S)):=by
 refine ctr_of gT eRLine bRLine rfl rfl rfl bL (ClB.one rfl) (VC_ok gT mxd ?_)
 refine⟨i,⟨rfl,hi⟩,⟨[0],fname_c (names2_c C hS.l) hi hS.l S,rfl,rfl,rfl,fun _ _=>⟨[0],fbus_c C hS.b _ _ 2 i 1,rfl,rfl,rfl,fun _ _=>⟨[0],fbus_c C hS.b _ _ 2 i 2,rfl,rfl,rfl,fun _ _=>⟨[0],fneed_c _ 2 i 2 1,rfl,rfl,rfl,fun _ _=>⟨[],fraction_c _,rfl,rfl,rfl,fun _ _=>⟨[0],fneed_c _ 2 i 3 3,rfl,rfl,rfl,fun _ _=>⟨[],fraction_c _,rfl,rfl,rfl,fun _ _=>⟨[0],fneed_c _ 2 i 4 3,rfl,rfl,rfl,fun _ _=>⟨[],fraction_c _,rfl,rfl,rfl,fun _ _=>⟨[0],fneed_c _ 2 i 5 3,rfl,rfl,rfl,fun _ _=>⟨none,[3],between1_c (0) (1048576) _,rfl,rfl,rfl,fun _ _=>⟨[0],fneed_c _ 2 i 6 3,rfl,rfl,rfl,fun _ _=>⟨none,[4],between1_c _ (1048576) _,rfl,rfl,rfl,fun _ _=>⟨[0],fneed_c _ 2 i 7 3,rfl,rfl,rfl,fun _ _=>⟨[0],faway_c C _ _ 2 i 8 hC,rfl,rfl,rfl,fun _ _=>⟨(),trivial,finF rfl rfl⟩⟩⟩⟩⟩⟩⟩⟩⟩⟩⟩⟩⟩⟩⟩⟩⟩
noncomputable def rStore (C:CaseM) (i:Nat) (S:St):St:=
 let x:=C.stores.l.getD i store0
 ((((((((S).nm (fun i=>(C.stores.l.getD i store0).name) 4 i).nr (Btw 0 ((C.buses.l.length:Int)-1) [x.bus]) 4 i 1 12).nr (0≤x.cap∧x.cap≤1048576) 4 i 2 3).nr (0≤x.init∧x.init≤x.cap) 4 i 3 3).nr (0≤x.fin∧x.fin≤x.cap) 4 i 4 3).nr (0≤x.charge∧x.charge≤1048576) 4 i 5 3).nr (0≤x.dis∧x.dis≤1048576) 4 i 6 3).nr ((FrOk x.eff∧0<x.eff.num)∧x.eff.num≤x.eff.den) 4 i 7 3
abbrev fRStore:FuncId:=62
theorem eRStore:Ent Tryz.prog fRStore:=Ent.of func62 rfl kR
theorem bRStore:Tryz.prog.funcs[fRStore]? =some Tryz.f62:=func62
set_option maxRecDepth 4000 in
theorem rstore_c (C:CaseM) (hS:Sh C) {i:Nat} (hi:i<C.stores.l.length) (S:St):Ctr Tryz.prog fRStore [true] [.c (.p 0 0),.a (C.C []),.c (iC i)] (fdB S) (FdR (rStore C i S)):=by
 refine ctr_of gT eRStore bRStore rfl rfl rfl bL (ClB.one rfl) (VC_ok gT mxd ?_)
 refine⟨i,⟨rfl,hi⟩,⟨[0],fname_c (names4_c C hS.s) hi hS.s S,rfl,rfl,rfl,fun _ _=>⟨[0],fbus_c C hS.b _ _ 4 i 1,rfl,rfl,rfl,fun _ _=>⟨none,[3],between1_c (0) (1048576) _,rfl,rfl,rfl,fun _ _=>⟨[0],fneed_c _ 4 i 2 3,rfl,rfl,rfl,fun _ _=>⟨none,[4],between1_c (0) _ _,rfl,rfl,rfl,fun _ _=>⟨[0],fneed_c _ 4 i 3 3,rfl,rfl,rfl,fun _ _=>⟨none,[5],between1_c (0) _ _,rfl,rfl,rfl,fun _ _=>⟨[0],fneed_c _ 4 i 4 3,rfl,rfl,rfl,fun _ _=>⟨none,[6],between1_c (0) (1048576) _,rfl,rfl,rfl,fun _ _=>⟨[0],fneed_c _ 4 i 5 3,rfl,rfl,rfl,fun _ _=>⟨none,[7],between1_c (0) (1048576) _,rfl,rfl,rfl,fun _ _=>⟨[0],fneed_c _ 4 i 6 3,rfl,rfl,rfl,fun _ _=>⟨[],fraction_c _,rfl,rfl,rfl,fun _ _=>⟨[0],fneed_c _ 4 i 7 3,rfl,rfl,rfl,fun _ _=>⟨(),trivial,finF rfl rfl⟩⟩⟩⟩⟩⟩⟩⟩⟩⟩⟩⟩⟩⟩⟩⟩
noncomputable def rTie (C:CaseM) (i:Nat) (S:St):St:=
 let x:=C.ties.l.getD i tie0
 (((((S).nm (fun i=>(C.ties.l.getD i tie0).name) 5 i).nr (Btw 0 ((C.buses.l.length:Int)-1) [x.bus]) 5 i 1 12).hr C x.imp.l (0) (1048576) 5 i 2).hr C x.exp.l (0) (1048576) 5 i 3).hr C x.price.l (-1048576) (1048576) 5 i 4
abbrev fRTie:FuncId:=63
theorem eRTie:Ent Tryz.prog fRTie:=Ent.of func63 rfl kR
theorem bRTie:Tryz.prog.funcs[fRTie]? =some Tryz.f63:=func63
set_option maxRecDepth 4000 in
theorem rtie_c (C:CaseM) (hS:Sh C) {i:Nat} (hi:i<C.ties.l.length) (S:St):Ctr Tryz.prog fRTie [true] [.c (.p 0 0),.a (C.C []),.c (iC i)] (fdB S) (FdR (rTie C i S)):=by
 refine ctr_of gT eRTie bRTie rfl rfl rfl bL (ClB.one rfl) (VC_ok gT mxd ?_)
 refine⟨i,⟨rfl,hi⟩,⟨[0],fname_c (names5_c C hS.t) hi hS.t S,rfl,rfl,rfl,fun _ _=>⟨[0],fbus_c C hS.b _ _ 5 i 1,rfl,rfl,rfl,fun _ _=>⟨[0],fhourly_c C _ _ (0) (1048576) 5 i 2,rfl,rfl,rfl,fun _ _=>⟨[0],fhourly_c C _ _ (0) (1048576) 5 i 3,rfl,rfl,rfl,fun _ _=>⟨[0],fhourly_c C _ _ (-1048576) (1048576) 5 i 4,rfl,rfl,rfl,fun _ _=>⟨(),trivial,finF rfl rfl⟩⟩⟩⟩⟩⟩⟩
noncomputable def St.sg (S:St) (u:UnitM) (i:Int):St:=(((S.nr ((u.segs.l.length:Int)≤8) 3 i 4 8).nr (∀s∈u.segs.l,segOk s) 3 i 4 3).nr (upP u.segs.l u.segs.l.length) 3 i 4 11).nr (wsum u.segs.l=IntKind.i64.wrap (u.max-u.min)) 3 i 4 4
abbrev fdU (u:UnitM) (S:St):BL:=[(102,0,[iC S.k,iC S.x,iC S.f,iC S.e]),(42,0,u.C)]
abbrev fFSeg:FuncId:=110
theorem eFSeg:Ent Tryz.prog fFSeg:=Ent.of func110 rfl kR
theorem bFSeg:Tryz.prog.funcs[fFSeg]? =some Tryz.f110:=func110
theorem fsegments_c (u:UnitM) (k:Int) (S:St):Ctr Tryz.prog fFSeg [true] [.c (.p 0 0),.a u.C,.c (iC k)] (fdB S) (FdR (S.sg u k)):=by
 refine ctr_of gT eFSeg bFSeg rfl rfl rfl bL (ClB.one rfl) (VC_ok gT mxd ?_)
 refine⟨[0],fneed_c S 3 k 4 8,rfl,rfl,rfl,fun _ _=>lenr 21 rfl fun hn=>?_⟩
 refine vloopD (rn [(8,8),(23,41)]) 2 (fun i:Nat=>[(23,.c (iC i))]) (fun i=>fdU u ((S.nr ((u.segs.l.length:Int)≤8) 3 k 4 8).nr (∀s∈u.segs.l.take i,segOk s) 3 k 4 3)) (·≤u.segs.l.length) (u.segs.l.length-·) 0 (fun _=>rfl) bL (fun _=>scB.cons rfl (scB.cons rfl scB.nil)) (fun _=>rfl) ?_
 refine⟨⟨rfl,Nat.zero_le _,⟨congrArg (fun S:St=>(102,0,[iC S.k,iC S.x,iC S.f,iC S.e])) (St.nr_true (p:=∀s∈u.segs.l.take 0,segOk s) fun s hs=>absurd hs (by simp)).symm,rfl⟩,rfl⟩,fun i hi=>VC_ok gT mxd ⟨fun h=>VC_ok gT mxd ?_,fun h=>VC_ok gT mxd (VC_ok gT mxd ?_)⟩⟩
 ·refine⟨i,⟨rfl,oM⟩,none,[3],between1_c 1 1048576 _,rfl,rfl,rfl,fun _ _=>⟨fun h2=>⟨none,[4],between1_c (-1048576) 1048576 _,rfl,rfl,rfl,fun _ _=>⟨[0],fneed_c _ 3 k 4 3,rfl,rfl,rfl,fun _ _=>⟨(i+1:Nat),wi,i+1,⟨oM,oM⟩,rfl,⟨congrArg (fun S:St=>(102,0,[iC S.k,iC S.x,iC S.f,iC S.e])) ?_,rfl⟩,rfl⟩⟩⟩,fun h2=>⟨[0],fneed_c _ 3 k 4 3,rfl,rfl,rfl,fun _ _=>⟨(i+1:Nat),wi,i+1,⟨oM,oM⟩,rfl,⟨congrArg (fun S:St=>(102,0,[iC S.k,iC S.x,iC S.f,iC S.e])) ?_,rfl⟩,rfl⟩⟩⟩⟩
  ·rw[←St.nr_take (d:=⟨0,0⟩) dC oM]
   exact St.nr_iff ⟨fun h=>⟨h2,h⟩,fun h=>h.2⟩
  rw[←St.nr_take (d:=⟨0,0⟩) dC oM]
  exact St.nr_iff ⟨(nomatch ·),fun h=>absurd h.1 h2⟩
 obtain rfl:i=u.segs.l.length:=by omega
 rw[List.take_length]
 refine vloop (rn [(9,9),(42,66)]) (fun i:Nat=>[(9,.c (iC (i+1:Nat)))]) (fun i=>fdU u (((S.nr ((u.segs.l.length:Int)≤8) 3 k 4 8).nr (∀s∈u.segs.l,segOk s) 3 k 4 3).nr (upP u.segs.l (i+1)) 3 k 4 11)) (fun i=>i<u.segs.l.length∨i=0) (u.segs.l.length-·) 0 ?_
 refine⟨⟨.inr rfl,congrArg (fdU u) (St.nr_true (p:=upP _ (0+1)) fun j h1 h2=>by omega).symm,rfl⟩,fun i hi=>VC_ok gT mxd ⟨fun h=>VC_ok gT mxd ?_,fun h=>VC_ok gT mxd (VC_ok gT mxd ?_)⟩⟩
 ·refine⟨.seq ((List.range 18).map fun i=>(i,i==17)),by kernel_rfl,i+1,⟨rfl,oM⟩,(i:Int),wi,i,⟨rfl,oM⟩,[0],fneed_c _ 3 k 4 11,rfl,rfl,rfl,fun _ _=>⟨(i+1+1:Nat),wi,i+1,⟨.inl oM,oM⟩,rfl,congrArg (fdU u) ?_,rfl⟩⟩
  rw[St.nr_iff (p:=upP _ (i+1+1)) (q:=upP u.segs.l (i+1)∧(u.segs.l.getD i ⟨0,0⟩).price≤(u.segs.l.getD (i+1) ⟨0,0⟩).price) ⟨fun h=>⟨fun j h1 h2=>h j h1 oM,h (i+1) oM oM⟩,fun h j h1 h2=>by
   by_cases hj:j=i+1
   ·subst hj;exact h.2
   exact h.1 j h1 oM⟩,←St.nr_nr dC]
 have:upP u.segs.l (i+1)=upP u.segs.l u.segs.l.length:=by
  rcases hi with hi|hi
  ·rw[show i+1=u.segs.l.length by omega]
  subst hi
  refine propext ⟨fun _ j h1 h2=>by omega,fun _ j h1 h2=>by omega⟩
 rw[this]
 refine vloop (rn [(10,11),(67,88)]) (fun i:Nat=>[(10,.c (iC (wsum (u.segs.l.take i)))),(11,.c (iC i))]) (fun i=>fdU u (((S.nr ((u.segs.l.length:Int)≤8) 3 k 4 8).nr (∀s∈u.segs.l,segOk s) 3 k 4 3).nr (upP u.segs.l u.segs.l.length) 3 k 4 11)) (·≤u.segs.l.length) (u.segs.l.length-·) 0 ?_
 refine⟨⟨Nat.zero_le _,rfl,⟨rfl,rfl⟩⟩,fun i hi=>VC_ok gT mxd ⟨fun h=>VC_ok gT mxd ?_,fun h=>VC_ok gT mxd (VC_ok gT mxd ?_)⟩⟩
 ·refine⟨i,⟨rfl,oM⟩,_,rfl,(i+1:Nat),wi,i+1,⟨oM,oM⟩,rfl,rfl,⟨?_,rfl⟩⟩
  exact(wsum_take (by have:=h.1;omega)).symm
 refine⟨IntKind.i64.wrap (u.max-u.min),fun _=>rfl,[0],fneed_c _ 3 k 4 4,rfl,rfl,rfl,fun _ _=>⟨(),trivial,finF rfl ?_⟩⟩
 unfold St.sg
 by_cases he:(((S.nr ((u.segs.l.length:Int)≤8) 3 k 4 8).nr (∀s∈u.segs.l,segOk s) 3 k 4 3).nr (upP u.segs.l u.segs.l.length) 3 k 4 11).e=0
 ·have hil:i=u.segs.l.length:=by
   refine Classical.byContradiction fun hne=>h ⟨?_,he⟩
   have:=hi
   omega
  rw[hil,List.take_length]
  exact St.nr_iff ⟨fun h=>h.resolve_left fun h2=>h2 he,fun h=> .inr h⟩
 rw[St.nr_bad he,St.nr_bad he]
noncomputable def rUnit (C:CaseM) (i:Nat) (S:St):St:=
 let x:=C.units.l.getD i unit0
 let S:=(((((((((((((((((((((((S).nm (fun i=>(C.units.l.getD i unit0).name) 3 i).nr (Btw 0 ((C.buses.l.length:Int)-1) [x.bus]) 3 i 1 12).nr (0≤x.min∧x.min≤1048576) 3 i 2 3).nr (x.min≤x.max∧x.max≤1048576) 3 i 3 3).sg x i).nr (0≤x.noLoad∧x.noLoad≤1048576) 3 i 5 3).nr (0≤x.rampUp∧x.rampUp≤1048576) 3 i 6 3).nr (0≤x.rampDown∧x.rampDown≤1048576) 3 i 7 3).nr (x.min≤x.startRamp∧x.startRamp≤x.max) 3 i 8 3).nr (x.min≤x.stopRamp∧x.stopRamp≤x.max) 3 i 9 3).nr (0≤x.upTime∧x.upTime≤24) 3 i 10 3).nr (0≤x.downTime∧x.downTime≤24) 3 i 11 3).nr (0≤x.startTime∧x.startTime≤24) 3 i 12 3).nr (0≤x.hotCost∧x.hotCost≤1048576) 3 i 13 3).nr (0≤x.coldCost∧x.coldCost≤1048576) 3 i 14 3).nr (0≤x.hotHours∧x.hotHours≤24) 3 i 15 3).nr (0≤x.reserve∧x.reserve≤1048576) 3 i 16 3).nr (0≤x.reservePrice∧x.reservePrice≤1048576) 3 i 17 3).aw C x.away.l 3 i 18).nr (0≤x.state∧x.state≤2) 3 i 19 12).nr (x.state≠1∨0<x.startTime) 3 i 19 16).nr (1≤x.hours∧x.hours≤48) 3 i 20 3).nr (x.state≠1∨x.hours≤x.startTime) 3 i 20 3
 if x.state=2 then S.nr (x.min≤x.output∧x.output≤x.max) 3 i 21 3 else S.nr (x.output=0) 3 i 21 3
abbrev fRUnit:FuncId:=61
theorem eRUnit:Ent Tryz.prog fRUnit:=Ent.of func61 rfl kR
theorem bRUnit:Tryz.prog.funcs[fRUnit]? =some Tryz.f61:=func61
set_option maxRecDepth 4000 in
theorem runit_c (C:CaseM) (hS:Sh C) (hC:1≤C.hours∧C.hours≤24) {i:Nat} (hi:i<C.units.l.length) (S:St):Ctr Tryz.prog fRUnit [true] [.c (.p 0 0),.a (C.C []),.c (iC i)] (fdB S) (FdR (rUnit C i S)):=by
 refine ctr_of gT eRUnit bRUnit rfl rfl rfl bL (ClB.one rfl) (VC_ok gT mxd ?_)
 refine⟨i,⟨rfl,hi⟩,⟨[0],fname_c (names3_c C hS.u) hi hS.u S,rfl,rfl,rfl,fun _ _=>⟨[0],fbus_c C hS.b _ _ 3 i 1,rfl,rfl,rfl,fun _ _=>⟨none,[3],between1_c (0) (1048576) _,rfl,rfl,rfl,fun _ _=>⟨[0],fneed_c _ 3 i 2 3,rfl,rfl,rfl,fun _ _=>⟨none,[4],between1_c _ (1048576) _,rfl,rfl,rfl,fun _ _=>⟨[0],fneed_c _ 3 i 3 3,rfl,rfl,rfl,fun _ _=>⟨[0],fsegments_c _ i _,rfl,rfl,rfl,fun _ _=>⟨none,[5],between1_c (0) (1048576) _,rfl,rfl,rfl,fun _ _=>⟨[0],fneed_c _ 3 i 5 3,rfl,rfl,rfl,fun _ _=>⟨none,[6],between1_c (0) (1048576) _,rfl,rfl,rfl,fun _ _=>⟨[0],fneed_c _ 3 i 6 3,rfl,rfl,rfl,fun _ _=>⟨none,[7],between1_c (0) (1048576) _,rfl,rfl,rfl,fun _ _=>⟨[0],fneed_c _ 3 i 7 3,rfl,rfl,rfl,fun _ _=>⟨none,[8],between1_c _ _ _,rfl,rfl,rfl,fun _ _=>⟨[0],fneed_c _ 3 i 8 3,rfl,rfl,rfl,fun _ _=>⟨none,[9],between1_c _ _ _,rfl,rfl,rfl,fun _ _=>⟨[0],fneed_c _ 3 i 9 3,rfl,rfl,rfl,fun _ _=>⟨none,[10],between1_c (0) (24) _,rfl,rfl,rfl,fun _ _=>⟨[0],fneed_c _ 3 i 10 3,rfl,rfl,rfl,fun _ _=>⟨none,[11],between1_c (0) (24) _,rfl,rfl,rfl,fun _ _=>⟨[0],fneed_c _ 3 i 11 3,rfl,rfl,rfl,fun _ _=>⟨none,[12],between1_c (0) (24) _,rfl,rfl,rfl,fun _ _=>⟨[0],fneed_c _ 3 i 12 3,rfl,rfl,rfl,fun _ _=>⟨none,[13],between1_c (0) (1048576) _,rfl,rfl,rfl,fun _ _=>⟨[0],fneed_c _ 3 i 13 3,rfl,rfl,rfl,fun _ _=>⟨none,[14],between1_c (0) (1048576) _,rfl,rfl,rfl,fun _ _=>⟨[0],fneed_c _ 3 i 14 3,rfl,rfl,rfl,fun _ _=>⟨none,[15],between1_c (0) (24) _,rfl,rfl,rfl,fun _ _=>⟨[0],fneed_c _ 3 i 15 3,rfl,rfl,rfl,fun _ _=>⟨none,[16],between1_c (0) (1048576) _,rfl,rfl,rfl,fun _ _=>⟨[0],fneed_c _ 3 i 16 3,rfl,rfl,rfl,fun _ _=>⟨none,[17],between1_c (0) (1048576) _,rfl,rfl,rfl,fun _ _=>⟨[0],fneed_c _ 3 i 17 3,rfl,rfl,rfl,fun _ _=>⟨[0],faway_c C _ _ 3 i 18 hC,rfl,rfl,rfl,fun _ _=>⟨none,[18],between1_c (0) (2) _,rfl,rfl,rfl,fun _ _=>⟨[0],fneed_c _ 3 i 19 12,rfl,rfl,rfl,fun _ _=>⟨[0],fneed_c _ 3 i 19 16,rfl,rfl,rfl,fun _ _=>⟨none,[19],between1_c (1) (48) _,rfl,rfl,rfl,fun _ _=>⟨[0],fneed_c _ 3 i 20 3,rfl,rfl,rfl,fun _ _=>⟨[0],fneed_c _ 3 i 20 3,rfl,rfl,rfl,fun _ _=>?_⟩⟩⟩⟩⟩⟩⟩⟩⟩⟩⟩⟩⟩⟩⟩⟩⟩⟩⟩⟩⟩⟩⟩⟩⟩⟩⟩⟩⟩⟩⟩⟩⟩⟩⟩⟩⟩⟩⟩⟩⟩
 refine⟨fun h=>VC_ok gT mxd ⟨none,[20],between1_c _ _ _,rfl,rfl,rfl,fun _ _=>⟨[0],fneed_c _ 3 i 21 3,rfl,rfl,rfl,fun _ _=>⟨(),trivial,finF rfl ?_⟩⟩⟩,fun h=>VC_ok gT mxd ⟨[0],fneed_c _ 3 i 21 3,rfl,rfl,rfl,fun _ _=>⟨(),trivial,finF rfl ?_⟩⟩⟩
 ·unfold rUnit
  exact(if_pos h).symm
 unfold rUnit
 exact(if_neg h).symm
end Go.Proofs.YtandhgfmfpmemaaGreat
namespace Go.Vm
variable {α:Type}
def Srt (key:α→Int) (l:List α):Prop:=l.Pairwise fun x y=>key x≤key y
def StE (key:α→Int) (l l':List α):Prop:=∀k:Int,l.filter (fun x=>key x==k)=l'.filter (fun x=>key x==k)
theorem StE.refl (key:α→Int) (l:List α):StE key l l:=fun _=>rfl
theorem StE.symm {key:α→Int} {l l':List α} (h:StE key l l'):StE key l' l:=fun k=>(h k).symm
theorem StE.trans {key:α→Int} {a b c:List α} (h:StE key a b) (h':StE key b c):StE key a c:=fun k=>(h k).trans (h' k)
theorem StE.append {key:α→Int} {a a' b b':List α} (h:StE key a a') (h':StE key b b'):StE key (a++b) (a'++b'):=fun k=>by
 rw[List.filter_append,List.filter_append,h k,h' k]
theorem StE.swap {key:α→Int} {a b:List α} (h:∀x∈a,∀y∈b,key x≠key y):StE key (a++b) (b++a):=fun k=>by
 rw[List.filter_append,List.filter_append]
 by_cases ha:a.filter (fun x=>key x==k)=[]
 ·rw[ha];simp
 have hb:b.filter (fun x=>key x==k)=[]:=by
  rw[List.filter_eq_nil_iff]
  intro y hy hk
  obtain⟨x,hx⟩:=List.exists_mem_of_ne_nil _ ha
  rw[List.mem_filter] at hx
  have h1:key x=k:=by simpa using hx.2
  have h2:key y=k:=by simpa using hk
  exact h x hx.1 y hy (by rw[h1,h2])
 rw[hb];simp
theorem StE.mem {key:α→Int} {l l':List α} (h:StE key l l') {x:α} (hx:x∈l):x∈l':=by
 have h1:x∈l.filter (fun y=>key y==key x):=by rw[List.mem_filter];exact⟨hx,by simp⟩
 rw[h (key x),List.mem_filter] at h1
 exact h1.1
theorem StE.perm [DecidableEq α] {key:α→Int} {l l':List α} (h:StE key l l'):l.Perm l':=by
 rw[List.perm_iff_count]
 intro x
 have e:∀m:List α,m.count x=(m.filter (fun y=>key y==key x)).count x:=fun m=>by
  rw[List.count_filter (by simp)]
 rw[e l,e l',h (key x)]
theorem StE.length {key:α→Int} {l l':List α} (h:StE key l l'):l.length=l'.length:=by
 --by the number of keys that are met
 suffices H:∀n (l l':List α),l.length≤n→StE key l l'→l.length=l'.length from H l.length l l' (Nat.le_refl _) h
 intro n
 induction n with
 |zero=>
  intro l l' hn h
  have hl:l=[]:=List.eq_nil_of_length_eq_zero oM
  subst hl
  cases l' with
  |nil=>rfl
  |cons y t=>have:=h.symm.mem (x:=y) (by simp);simp at this
 |succ n ih=>
  intro l l' hn h
  cases l with
  |nil=>
   cases l' with
   |nil=>rfl
   |cons y t=>have:=h.symm.mem (x:=y) (by simp);simp at this
  |cons x t=>
   have part:∀m:List α,m.length=(m.filter (fun y=>key y==key x)).length+(m.filter (fun y=>!(key y==key x))).length:=fun m=>by
    induction m with
    |nil=>rfl
    |cons a m ihm=>
     by_cases ha:key a==key x
     ·simp[List.filter_cons,ha];omega
     simp[List.filter_cons,ha];omega
   rw[part (x::t),part l',h (key x)]
   congr 1
   refine ih _ _ ?_ ?_
   ·have:=List.length_filter_le (fun y=>!(key y==key x)) t
    simp[List.filter_cons] at*
    omega
   intro k
   rw[List.filter_filter,List.filter_filter]
   by_cases hk:k=key x
   ·have e:∀m:List α,m.filter (fun a=>(key a==k)&&!(key a==key x))=[]:=fun m=>by
     rw[List.filter_eq_nil_iff];intro a _;simp;intro h1;rw[h1,hk]
    rw[e,e]
   have e:∀m:List α,m.filter (fun a=>(key a==k)&&!(key a==key x))=m.filter (fun a=>key a==k):=fun m=>by
    apply List.filter_congr
    intro a _
    by_cases h1:key a=k
    ·simp[h1,hk]
    simp[h1]
   rw[e,e]
   exact h k
theorem Srt.append {key:α→Int} {a b:List α} (ha:Srt key a) (hb:Srt key b) (h:∀x∈a,∀y∈b,key x≤key y):Srt key (a++b):=List.pairwise_append.2 ⟨ha,hb,h⟩
theorem Srt.left {key:α→Int} {a b:List α} (h:Srt key (a++b)):Srt key a:=(List.pairwise_append.1 h).1
theorem Srt.right {key:α→Int} {a b:List α} (h:Srt key (a++b)):Srt key b:=(List.pairwise_append.1 h).2.1
theorem Srt.le {key:α→Int} {a b:List α} (h:Srt key (a++b)) {x y:α} (hx:x∈a) (hy:y∈b):key x≤key y:=(List.pairwise_append.1 h).2.2 x hx y hy
theorem Srt.one (key:α→Int) (x:α):Srt key [x]:=List.pairwise_singleton _ _
theorem Srt.nil (key:α→Int):Srt key []:=List.Pairwise.nil
def swp [Inhabited α] (xs:List α) (i j:Nat):List α:=(xs.set i (xs.getD j default)).set j (xs.getD i default)
def swpR [Inhabited α] (xs:List α) (a b:Nat):Nat→List α
 |0=>xs
 |n+1=>swp (swpR xs a b n) (a+n) (b+n)
theorem length_swp [Inhabited α] (xs:List α) (i j:Nat):(swp xs i j).length=xs.length:=by simp[swp]
theorem length_swpR [Inhabited α] (xs:List α) (a b n:Nat):(swpR xs a b n).length=xs.length:=by
 induction n with
 |zero=>rfl
 |succ n ih=>rw[swpR,length_swp,ih]
theorem getElem?_swp [Inhabited α] (xs:List α) (i j k:Nat) (hi:i<xs.length) (hj:j<xs.length):(swp xs i j)[k]? =if k=j then xs[i]? else if k=i then xs[j]? else xs[k]?:=by
 unfold swp
 rw[List.getElem?_set,List.getElem?_set]
 simp only[List.length_set]
 by_cases h1:k=j
 ·subst h1;simp[hj,hi]
 by_cases h2:k=i
 ·subst h2;simp[hi,hj,Ne.symm h1,h1]
 simp[Ne.symm h1,Ne.symm h2,h1,h2]
theorem getElem?_swpR [Inhabited α] (xs:List α) (a b n k:Nat) (h1:a+n≤b) (h2:b+n≤xs.length):
 (swpR xs a b n)[k]? =if a≤k∧k<a+n then xs[k-a+b]? else if b≤k∧k<b+n then xs[k-b+a]? else xs[k]?:=by
 induction n generalizing k with
 |zero=>
  simp only[swpR,Nat.add_zero]
  rw[if_neg oM,if_neg oM]
 |succ n ih=>
  rw[swpR,getElem?_swp _ _ _ _ (by rw[length_swpR];omega) (by rw[length_swpR];omega)]
  have e:=fun q=>ih q oM oM
  simp only[e]
  by_cases c1:k=b+n
  ·subst c1
   rw[if_pos rfl,if_neg oM,if_neg oM,if_neg oM,if_pos oM]
   congr 1;omega
  rw[if_neg c1]
  by_cases c2:k=a+n
  ·subst c2
   rw[if_pos rfl,if_neg oM,if_neg oM,if_pos oM]
   congr 1;omega
  rw[if_neg c2]
  by_cases c3:a≤k∧k<a+n
  ·have d1:a≤k∧k<a+(n+1):=by omega
   rw[if_pos c3,if_pos d1]
  have d1:¬(a≤k∧k<a+(n+1)):=by omega
  rw[if_neg c3,if_neg d1]
  by_cases c4:b≤k∧k<b+n
  ·have d2:b≤k∧k<b+(n+1):=by omega
   rw[if_pos c4,if_pos d2]
  have d2:¬(b≤k∧k<b+(n+1)):=by omega
  rw[if_neg c4,if_neg d2]
theorem swpR_blocks [Inhabited α] (A L M R B:List α) (a b n:Nat) (ha:a=A.length) (hb:b=A.length+L.length+M.length) (hL:L.length=n) (hR:R.length=n):
 swpR (A++L++M++R++B) a b n=A++R++M++L++B:=by
 subst ha hb
 apply List.ext_getElem?
 intro k
 rw[getElem?_swpR _ _ _ _ _ oM (by simp;omega)]
 simp only[List.append_assoc]
 by_cases c1:k<A.length
 ·rw[if_neg oM,if_neg oM,List.getElem?_append_left c1,List.getElem?_append_left c1]
 by_cases c2:k<A.length+n
 ·rw[if_pos oM,List.getElem?_append_right (l₁:=A) (i:=k) oM,List.getElem?_append_left (l₁:=R) oM,
   List.getElem?_append_right oM,List.getElem?_append_right oM,List.getElem?_append_right oM,List.getElem?_append_left oM]
  congr 1;omega
 by_cases c3:k<A.length+n+M.length
 ·rw[if_neg oM,if_neg oM,List.getElem?_append_right oM,List.getElem?_append_right oM,List.getElem?_append_left oM,
   List.getElem?_append_right oM,List.getElem?_append_right oM,List.getElem?_append_left oM]
  congr 1;omega
 by_cases c4:k<A.length+n+M.length+n
 ·rw[if_neg oM,if_pos oM,List.getElem?_append_right (l₁:=A) (i:=k-(A.length+L.length+M.length)+A.length) oM,List.getElem?_append_left (l₁:=L) oM,
   List.getElem?_append_right oM,List.getElem?_append_right oM,List.getElem?_append_right oM,List.getElem?_append_left oM]
  congr 1;omega
 rw[if_neg oM,if_neg oM,List.getElem?_append_right oM,List.getElem?_append_right oM,List.getElem?_append_right oM,List.getElem?_append_right oM,
  List.getElem?_append_right oM,List.getElem?_append_right oM,List.getElem?_append_right oM,List.getElem?_append_right oM]
 congr 1;omega
theorem rot_gt [Inhabited α] (A P X Y S B:List α) (a m n:Nat) (ha:a=A.length+P.length) (hm:m=a+X.length) (hn:n=Y.length) (h:Y.length≤X.length):
 swpR (A++P++X++Y++S++B) a m n=A++(P++Y)++X.drop Y.length++X.take Y.length++S++B:=by
 subst ha hm hn
 have h0:=swpR_blocks (A++P) (X.take Y.length) (X.drop Y.length) Y (S++B) (A.length+P.length) (A.length+P.length+X.length) Y.length (by simp) (by simp;omega) (by simp;omega) rfl
 have e:A++P++X.take Y.length++X.drop Y.length++Y++(S++B)=A++P++X++Y++S++B:=by
  rw[List.append_assoc (A++P),List.take_append_drop];simp
 rw[e] at h0
 rw[h0]
 simp
theorem rot_lt [Inhabited α] (A P X Y S B:List α) (a m n:Nat) (ha:a=A.length+P.length) (hm:m=a+Y.length) (hn:n=X.length) (h:X.length≤Y.length):
 swpR (A++P++X++Y++S++B) a m n=A++P++Y.drop (Y.length-X.length)++Y.take (Y.length-X.length)++(X++S)++B:=by
 subst ha hm hn
 have h0:=swpR_blocks (A++P) X (Y.take (Y.length-X.length)) (Y.drop (Y.length-X.length)) (S++B) (A.length+P.length) (A.length+P.length+Y.length) X.length (by simp) (by simp;omega) rfl (by simp;omega)
 have e:A++P++X++Y.take (Y.length-X.length)++Y.drop (Y.length-X.length)++(S++B)=A++P++X++Y++S++B:=by
  rw[List.append_assoc (A++P++X),List.take_append_drop];simp
 rw[e] at h0
 rw[h0]
 simp
theorem set2 (A B:List α) (u v p q:α) (i j:Nat) (hi:i=A.length) (hj:j=A.length+1):((A++u::v::B).set j p).set i q=A++q::p::B:=by
 subst hi hj
 rw[List.set_append_right _ _ oM,List.set_append_right _ _ (Nat.le_refl _)]
 simp
theorem getD_mid [Inhabited α] (A B:List α) (x:α) (i:Nat) (hi:i=A.length):(A++x::B).getD i default=x:=by
 subst hi
 simp[List.getD_eq_getElem?_getD]
theorem drop_cons [Inhabited α] (l:List α) (k:Nat) (h:k<l.length):l.drop k=l.getD k default::l.drop (k+1):=by
 rw[List.drop_eq_getElem_cons h]
 simp[h]
theorem take_snoc [Inhabited α] (l:List α) (k:Nat) (h:k<l.length):l.take (k+1)=l.take k++[l.getD k default]:=by
 rw[List.take_succ_eq_append_getElem h]
 simp[h]
theorem snoc_of (l:List α) (h:0<l.length):∃l' y,l=l'++[y]:=
 ⟨l.dropLast,l.getLast (fun e=>by rw[e] at h;simp at h),(List.dropLast_concat_getLast _).symm⟩
theorem ins_srt {key:α→Int} {S1 S2:List α} {x:α} (h:Srt key (S1++S2)) (h2:∀y∈S2,key x<key y) (h1:S1=[]∨∃S3 y,S1=S3++[y]∧key y≤key x):Srt key (S1++x::S2):=by
 have hx:Srt key (x::S2):=List.pairwise_cons.2 ⟨fun y hy=>Int.le_of_lt (h2 y hy),h.right⟩
 refine Srt.append h.left hx fun z hz y hy=>?_
 have hzx:key z≤key x:=by
  rcases h1 with rfl|⟨S3,u,rfl,hu⟩
  ·cases hz
  rcases List.mem_append.1 hz with hz|hz
  ·exact Int.le_trans (Srt.le h.left hz (by simp)) hu
  simp at hz;subst hz;exact hu
 rcases List.mem_cons.1 hy with rfl|hy
 ·exact hzx
 exact h.le hz hy
theorem ins_ste {key:α→Int} {S1 S2:List α} {x:α} (h2:∀y∈S2,key x<key y):StE key (S1++S2++[x]) (S1++x::S2):=by
 rw[List.append_assoc]
 refine StE.append (StE.refl _ _) ?_
 exact StE.swap (b:=[x]) fun y hy z hz=>by simp at hz;subst hz;have:=h2 y hy;omega
theorem getD_seg [Inhabited α] (A S B:List α) (i k:Nat) (hk:i=A.length+k) (h:k<S.length):(A++S++B).getD i default=S.getD k default:=by
 subst hk
 rw[List.getD_eq_getElem?_getD,List.getD_eq_getElem?_getD,List.append_assoc,List.getElem?_append_right oM,Nat.add_sub_cancel_left,List.getElem?_append_left h]
theorem getD_mem [Inhabited α] (l:List α) (k:Nat) (h:k<l.length):l.getD k default∈l:=by simp[h]
theorem Srt.at {key:α→Int} [Inhabited α] {l:List α} (h:Srt key l) {i j:Nat} (hij:i≤j) (hj:j<l.length):key (l.getD i default)≤key (l.getD j default):=by
 rcases Nat.lt_or_ge i j with h1|h1
 ·have:=List.pairwise_iff_getElem.1 h i j oM hj h1
  simpa[hj,show i<l.length by omega] using this
 have:i=j:=by omega
 subst this
 exact Int.le_refl _
theorem mem_take_at [Inhabited α] {l:List α} {p:Nat} {z:α} (h:z∈l.take p):∃i,i<p∧i<l.length∧z=l.getD i default:=by
 obtain⟨i,hi,e⟩:=List.mem_iff_getElem.1 h
 simp at hi
 exact⟨i,by omega,by omega,by rw[←e];simp[show i<l.length by omega]⟩
theorem mem_drop_at [Inhabited α] {l:List α} {p:Nat} {z:α} (h:z∈l.drop p):∃i,p≤i∧i<l.length∧z=l.getD i default:=by
 obtain⟨i,hi,e⟩:=List.mem_iff_getElem.1 h
 simp at hi
 exact⟨p+i,by omega,by omega,by rw[←e];simp[show p+i<l.length by omega]⟩
theorem Srt.take {key:α→Int} {l:List α} (h:Srt key l) (p:Nat):Srt key (l.take p):=List.Pairwise.sublist (List.take_sublist p l) h
theorem Srt.drop {key:α→Int} {l:List α} (h:Srt key l) (p:Nat):Srt key (l.drop p):=List.Pairwise.sublist (List.drop_sublist p l) h
theorem merge_left [Inhabited α] {key:α→Int} {R:List α} {x:α} {p:Nat} (h:Srt key R) (hp:p≤R.length) (h1:p=0∨key (R.getD (p-1) default)<key x) (h2:p=R.length∨key x≤key (R.getD p default)):
 Srt key (R.take p++x::R.drop p)∧StE key (x::R) (R.take p++x::R.drop p):=by
 have lo:∀z∈R.take p,key z<key x:=fun z hz=>by
  obtain⟨i,hi,hl,rfl⟩:=mem_take_at hz
  rcases h1 with rfl|h1
  ·omega
  have:=h.at (i:=i) (j:=p-1) oM oM;omega
 have hi:∀z∈R.drop p,key x≤key z:=fun z hz=>by
  obtain⟨i,hi,hl,rfl⟩:=mem_drop_at hz
  rcases h2 with rfl|h2
  ·omega
  have:=h.at (i:=p) (j:=i) oM oM;omega
 refine⟨Srt.append (h.take p) (List.pairwise_cons.2 ⟨hi,h.drop p⟩) fun z hz y hy=>?_,?_⟩
 ·have h3:=lo z hz
  rcases List.mem_cons.1 hy with rfl|hy
  ·omega
  have:=hi y hy;omega
 have e:x::R=([x]++R.take p)++R.drop p:=by simp
 have e2:R.take p++x::R.drop p=(R.take p++[x])++R.drop p:=by simp
 rw[e,e2]
 exact StE.append (StE.swap fun a ha b hb=>by simp at ha;subst ha;have:=lo b hb;omega) (StE.refl _ _)
theorem merge_right [Inhabited α] {key:α→Int} {L:List α} {y:α} {q:Nat} (h:Srt key L) (hq:q≤L.length) (h1:q=0∨key (L.getD (q-1) default)≤key y) (h2:q=L.length∨key y<key (L.getD q default)):
 Srt key (L.take q++y::L.drop q)∧StE key (L++[y]) (L.take q++y::L.drop q):=by
 have lo:∀z∈L.take q,key z≤key y:=fun z hz=>by
  obtain⟨i,hi,hl,rfl⟩:=mem_take_at hz
  rcases h1 with rfl|h1
  ·omega
  have:=h.at (i:=i) (j:=q-1) oM oM;omega
 have hi:∀z∈L.drop q,key y<key z:=fun z hz=>by
  obtain⟨i,hi,hl,rfl⟩:=mem_drop_at hz
  rcases h2 with rfl|h2
  ·omega
  have:=h.at (i:=q) (j:=i) oM oM;omega
 refine⟨Srt.append (h.take q) (List.pairwise_cons.2 ⟨fun z hz=>by have:=hi z hz;omega,h.drop q⟩) fun z hz u hu=>?_,?_⟩
 ·have h3:=lo z hz
  rcases List.mem_cons.1 hu with rfl|hu
  ·exact h3
  have:=hi u hu;omega
 have e:L++[y]=L.take q++(L.drop q++[y]):=by rw[←List.append_assoc,List.take_append_drop]
 rw[e]
 exact StE.append (StE.refl _ _) (StE.swap (b:=[y]) fun a ha b hb=>by simp at hb;subst hb;have:=hi a ha;omega)
theorem sym_parts [Inhabited α] {key:α→Int} {L R M1 M2:List α} {u v:Nat} (hL:Srt key L) (hR:Srt key R) (hu:u≤L.length) (hv:v≤R.length)
 (h1:u=0∨v=R.length∨key (L.getD (u-1) default)≤key (R.getD v default)) (h2:u=L.length∨v=0∨key (R.getD (v-1) default)<key (L.getD u default))
 (s1:Srt key M1) (e1:StE key (L.take u++R.take v) M1) (s2:Srt key M2) (e2:StE key (L.drop u++R.drop v) M2):
 Srt key (M1++M2)∧StE key (L++R) (M1++M2):=by
 have lt:∀a∈L.drop u,∀b∈R.take v,key b<key a:=fun a ha b hb=>by
  obtain⟨i,hi,hil,rfl⟩:=mem_drop_at ha
  obtain⟨j,hj,hjl,rfl⟩:=mem_take_at hb
  rcases h2 with rfl|rfl|h2
  ·omega
  ·omega
  have q1:=hL.at (i:=u) (j:=i) oM oM
  have q2:=hR.at (i:=j) (j:=v-1) oM oM
  omega
 have le:∀a∈L.take u,∀b∈R.drop v,key a≤key b:=fun a ha b hb=>by
  obtain⟨i,hi,hil,rfl⟩:=mem_take_at ha
  obtain⟨j,hj,hjl,rfl⟩:=mem_drop_at hb
  rcases h1 with rfl|rfl|h1
  ·omega
  ·omega
  have q1:=hL.at (i:=i) (j:=u-1) oM oM
  have q2:=hR.at (i:=v) (j:=j) oM oM
  omega
 refine⟨Srt.append s1 s2 fun z hz y hy=>?_,?_⟩
 ·have hz':=e1.symm.mem hz
  have hy':=e2.symm.mem hy
  rcases List.mem_append.1 hz' with hz'|hz'<;>rcases List.mem_append.1 hy' with hy'|hy'
  ·have:=hL;rw[←List.take_append_drop u L] at this;exact this.le hz' hy'
  ·exact le z hz' y hy'
  ·exact Int.le_of_lt (lt y hy' z hz')
  have:=hR;rw[←List.take_append_drop v R] at this;exact this.le hz' hy'
 have e:L++R=L.take u++(L.drop u++R.take v)++R.drop v:=by
  rw[List.append_assoc,List.append_assoc,List.take_append_drop,←List.append_assoc,List.take_append_drop]
 rw[e]
 have e3:StE key (L.take u++(L.drop u++R.take v)++R.drop v) (L.take u++(R.take v++L.drop u)++R.drop v):=
  StE.append (StE.append (StE.refl _ _) (StE.swap fun a ha b hb=>by have:=lt a ha b hb;omega)) (StE.refl _ _)
 refine e3.trans ?_
 have e4:L.take u++(R.take v++L.drop u)++R.drop v=(L.take u++R.take v)++(L.drop u++R.drop v):=by simp
 rw[e4]
 exact StE.append e1 e2
theorem shr_one (z:Nat):(z:Int).fdiv (2^(min (1:Int).toNat IntKind.u64.bits))=((z/2:Nat):Int):=by
 have:(min (1:Int).toNat IntKind.u64.bits)=1:=by decide
 rw[this,Int.fdiv_eq_ediv_of_nonneg _ dC]
 omega
theorem list_one [Inhabited α] (l:List α) (h:l.length=1):l=[l.getD 0 default]:=by
 match l,h with
 |[x],_=>rfl
theorem cons_of (l:List α) (h:0<l.length):∃v l',l=v::l':=by
 match l,h with
 |v::l',_=>exact⟨v,l',rfl⟩
theorem set2' (A B:List α) (u v p q:α) (i j:Nat) (hi:i=A.length) (hj:j=A.length+1):((A++u::v::B).set i p).set j q=A++p::q::B:=by
 subst hi hj
 rw[List.set_append_right _ _ (Nat.le_refl _),List.set_append_right _ _ oM]
 simp
theorem one_left [Inhabited α] (A L R B:List α) (p:Nat) (h:L.length=1):A++L++R++B=A++[]++L.getD 0 default::R.take p++R.drop p++B:=by
 have e:=list_one L h
 generalize L.getD 0 default=x at*
 subst e
 simp
theorem one_right [Inhabited α] (A L R B:List α) (q:Nat) (h:R.length=1):A++L++R++B=A++L.take q++L.drop q++R.getD 0 default::[]++B:=by
 have e:=list_one R h
 generalize R.getD 0 default=x at*
 subst e
 simp
theorem take_drop_app (l B:List α) (n:Nat):l.take n++(l.drop n++B)=l++B:=by rw[←List.append_assoc,List.take_append_drop]
theorem no_rot (A L R B:List α) (u v:Nat) (h:L.length≤u∨v=0):A++L++R++B=A++L.take u++R.take v++(L.drop u++R.drop v++B):=by
 rcases h with h|h
 ·rw[List.take_of_length_le h,List.drop_of_length_le h];simp[take_drop_app]
 subst h;simp[take_drop_app]
theorem yes_rot (A L R B:List α) (u v:Nat):A++L++R++B=(A++L.take u)++L.drop u++R.take v++(R.drop v++B):=by simp[take_drop_app]
theorem no_mrg {key:α→Int} {L R:List α} {u v:Nat} (hL:Srt key L) (hR:Srt key R) (h:u=0∨v=0):Srt key (L.take u++R.take v):=by
 rcases h with rfl|rfl
 ·simpa using hR.take v
 simpa using hL.take u
theorem no_mrg' {key:α→Int} {L R:List α} {u v:Nat} (hL:Srt key L) (hR:Srt key R) (h:L.length≤u∨R.length≤v):Srt key (L.drop u++R.drop v):=by
 rcases h with h|h
 ·rw[List.drop_of_length_le h];simpa using hR.drop v
 rw[List.drop_of_length_le h];simpa using hL.drop u
theorem key_lt {a b:Int} (h:(if a<b then (-1:Int) else if b<a then 1 else 0)<0):a<b:=by
 (repeat split at h)<;>omega
theorem key_ge {a b:Int} (h:¬(if a<b then (-1:Int) else if b<a then 1 else 0)<0):b≤a:=by
 (repeat split at h)<;>omega
def Blk (key:α→Int) (z:Nat) (l:List α):Prop:=∀q,Srt key ((l.drop (q*z)).take z)
theorem Blk.nil (key:α→Int) (z:Nat):Blk key z ([]:List α):=fun q=>by simp;exact Srt.nil _
theorem Blk.snoc {key:α→Int} {z:Nat} {D S:List α} (h:Blk key z D) (hd:∃k,D.length=k*z) (hs:Srt key S) (hl:S.length≤z):Blk key z (D++S):=fun q=>by
 obtain⟨k,hk⟩:=hd
 rcases Nat.lt_or_ge q k with hq|hq
 ·have h1:q*z+z≤k*z:=by rw[←Nat.succ_mul];exact Nat.mul_le_mul_right _ hq
  rw[List.drop_append_of_le_length oM,List.take_append_of_le_length (by simp;omega)]
  exact h q
 have h1:k*z≤q*z:=Nat.mul_le_mul_right _ hq
 rw[List.drop_append,List.drop_of_length_le oM]
 simp only[List.nil_append]
 exact(hs.drop _).take _
theorem Blk.at {key:α→Int} {z:Nat} {l:List α} (h:Blk key z l) {e:Nat} (he:∃k,e=k*z):Srt key ((l.drop e).take z):=by
 obtain⟨k,rfl⟩:=he
 exact h k
theorem Blk.rest {key:α→Int} {z:Nat} {l:List α} (h:Blk key z l) {e:Nat} (he:∃k,e=k*z) (hl:l.length≤e+z):Srt key (l.drop e):=by
 have:=h.at he
 rwa [List.take_of_length_le (by simp;omega)] at this
theorem Blk.all {key:α→Int} {z:Nat} {l:List α} (h:Blk key z l) (hl:l.length≤z):Srt key l:=by
 have:=h.rest (e:=0) ⟨0,by simp⟩ oM
 simpa using this
theorem seg_split (D l:List α) (e z:Nat):D++l.drop e=D++(l.drop e).take z++l.drop (e+z):=by
 rw[List.append_assoc,←List.drop_drop,List.take_append_drop]
theorem seg_split2 (D l:List α) (e z:Nat):D++l.drop e=D++(l.drop e).take z++(l.drop (e+z)).take z++l.drop (e+2*z):=by
 rw[seg_split D l e z,seg_split _ l (e+z) z,show e+z+z=e+2*z by omega]
theorem take_seg (l:List α) (e z:Nat):l.take (e+z)=l.take e++(l.drop e).take z:=by rw[List.take_add]
theorem twice {e z:Nat} (h:∃k,e=k*(2*z)):∃k,e=k*z:=by
 obtain⟨k,rfl⟩:=h
 exact⟨k*2,by rw[Nat.mul_assoc]⟩
theorem next_mul {e z:Nat} (h:∃k,e=k*z):∃k,e+z=k*z:=by
 obtain⟨k,rfl⟩:=h
 exact⟨k+1,by rw[Nat.add_mul,Nat.one_mul]⟩
end Go.Vm
namespace Go.Vm
def val:List Nat→Nat
 |[]=>0
 |x::xs=>x+4294967296*val xs
def Lm (xs:List Nat):Prop:=∀x∈xs,x<4294967296
def digsF:Nat→Nat→List Nat
 |0,_=>[]
 |f+1,n=>if n=0 then [] else (n%4294967296)::digsF f (n/4294967296)
def digs (n:Nat):List Nat:=digsF n n
def len (n:Nat):Nat:=(digs n).length
theorem digsF_ind:∀(f g n:Nat),n≤f→n≤g→digsF f n=digsF g n
 |0,0,_,_,_=>rfl
 |0,g+1,n,h,_=>by have:n=0:=by omega
                  subst this;simp[digsF]
 |f+1,0,n,_,h=>by have:n=0:=by omega
                  subst this;simp[digsF]
 |f+1,g+1,n,h1,h2=>by
  by_cases h0:n=0
  ·simp[digsF,h0]
  simp only[digsF,h0,if_false]
  rw[digsF_ind f g (n/4294967296) oM oM]
theorem digs_zero:digs 0=[]:=rfl
theorem digs_pos {n:Nat} (h:n≠0):digs n=(n%4294967296)::digs (n/4294967296):=by
 obtain⟨m,rfl⟩:∃m,n=m+1:=⟨n-1,by omega⟩
 show digsF (m+1) (m+1)=_
 simp only[digsF,h,if_false]
 rw[digsF_ind m ((m+1)/4294967296) _ oM oM]
 rfl
theorem val_digs (n:Nat):val (digs n)=n:=by
 induction n using Nat.strongRecOn with
 |ind n ih=>
  by_cases h:n=0
  ·subst h;rfl
  rw[digs_pos h]
  show n%4294967296+4294967296*val (digs (n/4294967296))=n
  rw[ih _ oM]
  omega
theorem digs_lm (n:Nat):Lm (digs n):=by
 induction n using Nat.strongRecOn with
 |ind n ih=>
  by_cases h:n=0
  ·subst h;intro x hx;rw[digs_zero] at hx;cases hx
  rw[digs_pos h]
  intro x hx
  rcases List.mem_cons.1 hx with rfl|hx
  ·exact Nat.mod_lt _ dC
  exact ih _ oM x hx
theorem val_append (a b:List Nat):val (a++b)=val a+4294967296^a.length*val b:=by
 induction a with
 |nil=>simp[val]
 |cons x a ih=>
  show x+4294967296*val (a++b)=x+4294967296*val a+4294967296^(a.length+1)*val b
  rw[ih,Nat.pow_succ,Nat.mul_add,Nat.mul_comm (4294967296^a.length) 4294967296,Nat.mul_assoc]
  omega
theorem val_snoc (a:List Nat) (x:Nat):val (a++[x])=val a+4294967296^a.length*x:=by
 rw[val_append];simp[val]
theorem val_lt {a:List Nat} (h:Lm a):val a<4294967296^a.length:=by
 induction a with
 |nil=>simp[val]
 |cons x a ih=>
  have h1:=ih (fun y hy=>h y (by simp[hy]))
  have h2:=h x (by simp)
  show x+4294967296*val a<4294967296^(a.length+1)
  rw[Nat.pow_succ,Nat.mul_comm]
  omega
theorem Lm.nil:Lm []:=fun _ h=>by cases h
theorem Lm.append {a b:List Nat} (ha:Lm a) (hb:Lm b):Lm (a++b):=fun x hx=>by
 rcases List.mem_append.1 hx with h|h
 ·exact ha x h
 exact hb x h
theorem Lm.snoc {a:List Nat} (ha:Lm a) {x:Nat} (hx:x<4294967296):Lm (a++[x]):=ha.append fun y hy=>by rw[List.mem_singleton] at hy;omega
theorem Lm.take {a:List Nat} (h:Lm a) (k:Nat):Lm (a.take k):=fun x hx=>h x (List.mem_of_mem_take hx)
theorem Lm.drop {a:List Nat} (h:Lm a) (k:Nat):Lm (a.drop k):=fun x hx=>h x (List.mem_of_mem_drop hx)
theorem Lm.at {a:List Nat} (h:Lm a) {k:Nat} (hk:k<a.length):a.getD k default<4294967296:=h _ (getD_mem _ _ hk)
theorem val_zeros (n:Nat):val (List.replicate n 0)=0:=by
 induction n with
 |zero=>rfl
 |succ n ih=>rw[List.replicate_succ];show 0+4294967296*val _=0;rw[ih]
theorem Lm.zeros (n:Nat):Lm (List.replicate n 0):=fun x hx=>by rw[List.eq_of_mem_replicate hx];decide
def Cn (a:List Nat):Prop:=a.length=0∨a.getD (a.length-1) default≠0
theorem Cn.tail {x:Nat} {a:List Nat} (h:Cn (x::a)) (ha:a≠[]):Cn a:=by
 right
 rcases h with h|h
 ·simp at h
 have:0<a.length:=List.length_pos_iff.2 ha
 rw[List.length_cons,Nat.add_sub_cancel] at h
 obtain⟨m,hm⟩:∃m,a.length=m+1:=⟨a.length-1,by omega⟩
 rw[hm] at h ⊢
 simpa using h
theorem Cn.pos {a:List Nat} (h:Cn a) (ha:a≠[]):0<val a:=by
 induction a with
 |nil=>exact absurd rfl ha
 |cons x a ih=>
  show 0<x+4294967296*val a
  by_cases h0:a=[]
  ·subst h0
   rcases h with h|h
   ·simp at h
   simp at h;omega
  have:=ih (h.tail h0) h0;omega
theorem canon_digs {a:List Nat} (hl:Lm a) (hc:Cn a):a=digs (val a):=by
 induction a with
 |nil=>rfl
 |cons x a ih=>
  have hx:=hl x (by simp)
  have hpos:=hc.pos (by simp)
  rw[digs_pos oM]
  show x::a=((x+4294967296*val a)%4294967296)::digs ((x+4294967296*val a)/4294967296)
  rw[show(x+4294967296*val a)%4294967296=x by omega,show(x+4294967296*val a)/4294967296=val a by omega]
  congr 1
  by_cases h0:a=[]
  ·subst h0;rfl
  exact ih (fun y hy=>hl y (by simp[hy])) (hc.tail h0)
theorem trim_digs {xs:List Nat} {n:Nat} (hx:Lm xs) (hn:n≤xs.length) (hv:val (xs.take n)=val xs) (hl:n=0∨xs.getD (n-1) default≠0):xs.take n=digs (val xs):=by
 rw[←hv]
 refine canon_digs (hx.take n) ?_
 have hlen:(xs.take n).length=n:=by simp;omega
 unfold Cn
 rw[hlen]
 rcases hl with h|h
 ·exact .inl h
 by_cases h0:n=0
 ·exact .inl h0
 right
 simpa[List.getD_eq_getElem?_getD,List.getElem?_take,show n-1<n by omega] using h
theorem trim_step {xs:List Nat} {n:Nat} (hn:n≤xs.length) (h0:0<n) (hv:val (xs.take n)=val xs) (hz:xs.getD (n-1) default=0):val (xs.take (n-1))=val xs:=by
 obtain⟨m,rfl⟩:∃m,n=m+1:=⟨n-1,by omega⟩
 rw[Nat.add_sub_cancel] at hz ⊢
 rw[take_snoc xs m oM,val_snoc,hz] at hv
 omega
theorem val_take_succ {xs:List Nat} {k:Nat} (h:k<xs.length):val (xs.take (k+1))=val (xs.take k)+4294967296^k*xs.getD k default:=by
 rw[take_snoc xs k h,val_snoc,List.length_take,Nat.min_eq_left oM]
theorem val_take_all {xs:List Nat} {k:Nat} (h:xs.length≤k):val (xs.take k)=val xs:=by rw[List.take_of_length_le h]
def dig (xs:List Nat) (k:Nat):Nat:=if k<xs.length then xs.getD k default else 0
theorem val_take_dig (xs:List Nat) (k:Nat):val (xs.take (k+1))=val (xs.take k)+4294967296^k*dig xs k:=by
 unfold dig
 split
 ·next h=>exact val_take_succ h
 rw[val_take_all oM,val_take_all oM];rfl
theorem dig_t {xs:List Nat} {k:Nat} (h:k<xs.length):dig xs k=xs.getD k default:=if_pos h
theorem dig_f {xs:List Nat} {k:Nat} (h:¬k<xs.length):dig xs k=0:=if_neg h
theorem dig_lt {xs:List Nat} (h:Lm xs) (k:Nat):dig xs k<4294967296:=by
 unfold dig
 split
 ·next hk=>exact h.at hk
 decide
theorem digs_len_le {n k:Nat} (h:n<4294967296^k):(digs n).length≤k:=by
 induction k generalizing n with
 |zero=>have:n=0:=by simpa using h
        subst this;simp[digs_zero]
 |succ k ih=>
  by_cases h0:n=0
  ·subst h0;simp[digs_zero]
  rw[digs_pos h0,List.length_cons]
  have:=@ih (n/4294967296) (by rw[Nat.pow_succ] at h;exact Nat.div_lt_of_lt_mul (by rw[Nat.mul_comm];exact h))
  omega
theorem lt_len (n:Nat):n<4294967296^len n:=by
 have:=val_lt (digs_lm n)
 rwa [val_digs] at this
theorem len_le_of {xs:List Nat} (h:Lm xs):len (val xs)≤xs.length:=digs_len_le (val_lt h)
theorem len_digs (n:Nat):(digs n).length=len n:=rfl
theorem len_mono {m n:Nat} (h:m≤n):len m≤len n:=digs_len_le (Nat.lt_of_le_of_lt h (lt_len n))
theorem pow_len_le {n:Nat} (h:n≠0):4294967296^(len n-1)≤n:=by
 rcases Nat.lt_or_ge n (4294967296^(len n-1)) with h1|h1
 ·have h2:=digs_len_le h1
  rw[len_digs] at h2
  have:len n≠0:=by unfold len;rw[digs_pos h];simp
  omega
 exact h1
theorem len_lt_of {m n:Nat} (h:len m<len n):m<n:=by
 have h1:=lt_len m
 have h2:4294967296^len m≤4294967296^(len n-1):=Nat.pow_le_pow_right dC oM
 have h3:=pow_len_le (n:=n) (fun h0=>by subst h0;simp[len,digs_zero] at h)
 omega
theorem len_zero {n:Nat}:len n=0↔n=0:=by
 constructor
 ·intro h;have:=lt_len n;rw[h] at this;simpa using this
 rintro rfl;rfl
theorem len_add (m n:Nat):len (m+n)≤max (len m) (len n)+1:=by
 refine digs_len_le ?_
 have h1:=lt_len m
 have h2:=lt_len n
 have h3:4294967296^len m≤4294967296^max (len m) (len n):=Nat.pow_le_pow_right dC oM
 have h4:4294967296^len n≤4294967296^max (len m) (len n):=Nat.pow_le_pow_right dC oM
 rw[Nat.pow_succ]
 omega
theorem len_mul (m n:Nat):len (m*n)≤len m+len n:=by
 refine digs_len_le ?_
 rw[Nat.pow_add]
 exact Nat.mul_lt_mul'' (lt_len m) (lt_len n)
def fillN (P:List Nat) (m:Nat):List Nat:=P++List.replicate (m-P.length) 0
theorem fillN_nil (m:Nat):fillN [] m=List.replicate m 0:=by simp[fillN]
theorem length_fillN {P:List Nat} {m:Nat} (h:P.length≤m):(fillN P m).length=m:=by simp[fillN];omega
theorem fillN_set {P:List Nat} {m k u:Nat} (hk:P.length=k) (h:k<m):(fillN P m).set k u=fillN (P++[u]) m:=by
 unfold fillN
 subst hk
 rw[List.set_append_right _ _ (Nat.le_refl _),Nat.sub_self]
 obtain⟨q,hq⟩:∃q,m-P.length=q+1:=⟨m-P.length-1,by omega⟩
 rw[hq,List.replicate_succ,List.length_append,show m-(P.length+[u].length)=q by simp;omega]
 simp
theorem fillN_full {P:List Nat} {m:Nat} (h:P.length=m):fillN P m=P:=by simp[fillN,h]
theorem mul_mod_div (p s:Nat):p*(s%4294967296)+4294967296*p*(s/4294967296)=p*s:=by
 rw[Nat.mul_comm 4294967296 p,Nat.mul_assoc,←Nat.mul_add,Nat.mod_add_div]
theorem add_step {P:List Nat} {k c x y A B:Nat} (hP:P.length=k) (h:val P+4294967296^k*c=A+B):
 val (P++[(c+x+y)%4294967296])+4294967296^(k+1)*((c+x+y)/4294967296)=(A+4294967296^k*x)+(B+4294967296^k*y):=by
 rw[val_snoc,hP,Nat.pow_succ]
 have h1:=mul_mod_div (4294967296^k) (c+x+y)
 rw[Nat.mul_comm 4294967296] at h1
 rw[Nat.mul_add,Nat.mul_add] at h1
 omega
theorem add_end {P:List Nat} {m c A B n:Nat} (hP:P.length=m) (hm:m=n+1) (h:val P+4294967296^m*c=A+B) (hA:A<4294967296^n) (hB:B<4294967296^n):val P=A+B:=by
 have h1:4294967296^m=4294967296^n*4294967296:=by rw[hm,Nat.pow_succ]
 rcases Nat.eq_zero_or_pos c with h0|h0
 ·subst h0;omega
 have:4294967296^m*1≤4294967296^m*c:=Nat.mul_le_mul_left _ h0
 omega
theorem sub_step {P:List Nat} {k c x y A B:Nat} (hP:P.length=k) (h:val P+B=A+4294967296^k*c) (hx:x<4294967296) (hy:y<4294967296) (hc:c≤1):
 val (P++[(x+4294967296-(c+y))%4294967296])+(B+4294967296^k*y)=(A+4294967296^k*x)+4294967296^(k+1)*(if x<c+y then 1 else 0):=by
 rw[val_snoc,hP,Nat.pow_succ]
 have e:∀p:Nat,p*((x+4294967296-(c+y))%4294967296)+p*(c+y)=p*x+p*(4294967296*if x<c+y then 1 else 0):=fun p=>by
  rw[←Nat.mul_add,←Nat.mul_add]
  congr 1
  split<;>omega
 have h1:=e (4294967296^k)
 rw[Nat.mul_add _ c y,←Nat.mul_assoc] at h1
 omega
theorem mul_step {P:List Nat} {k c o x y A:Nat} (hP:P.length=k) (h:val P+4294967296^k*c=A):
 val (P++[(c+(o+x*y))%4294967296])+4294967296^(k+1)*((c+(o+x*y))/4294967296)=A+4294967296^k*o+x*(4294967296^k*y):=by
 rw[val_snoc,hP,Nat.pow_succ]
 have h1:=mul_mod_div (4294967296^k) (c+(o+x*y))
 rw[Nat.mul_comm 4294967296] at h1
 rw[Nat.mul_add,Nat.mul_add,Nat.mul_left_comm _ x y] at h1
 omega
end Go.Vm
namespace Go.Vm
theorem drop_at {a:List Nat} {m:Nat} (h:m<a.length):a.drop m=a.getD m default::a.drop (m+1):=drop_cons a m h
theorem val_split (a:List Nat) {m:Nat} (h:m≤a.length):val a=val (a.take m)+4294967296^m*val (a.drop m):=by
 have:=val_append (a.take m) (a.drop m)
 rw[List.take_append_drop,List.length_take,Nat.min_eq_left h] at this
 exact this
theorem cmp_at {a b:List Nat} {m:Nat} (ha:Lm a) (hl:a.length=b.length) (hm:m<a.length) (hd:a.drop (m+1)=b.drop (m+1)) (hx:a.getD m default<b.getD m default):val a<val b:=by
 rw[val_split a (Nat.le_of_lt hm),val_split b (show m≤b.length by omega),drop_at hm,drop_at (show m<b.length by omega),hd]
 have h1:=val_lt (ha.take m)
 rw[List.length_take,Nat.min_eq_left oM] at h1
 show _+4294967296^m*(a.getD m default+4294967296*val (b.drop (m+1)))<_+4294967296^m*(b.getD m default+4294967296*val (b.drop (m+1)))
 have h2:4294967296^m*(a.getD m default+1+4294967296*val (b.drop (m+1)))≤4294967296^m*(b.getD m default+4294967296*val (b.drop (m+1))):=Nat.mul_le_mul_left _ oM
 rw[show a.getD m default+1+4294967296*val (b.drop (m+1))=(a.getD m default+4294967296*val (b.drop (m+1)))+1 by omega,Nat.mul_add,Nat.mul_one] at h2
 omega
theorem drop_step {a b:List Nat} {n:Nat} (h0:0<n) (ha:n≤a.length) (hb:n≤b.length) (hd:a.drop n=b.drop n) (hx:a.getD (n-1) default=b.getD (n-1) default):a.drop (n-1)=b.drop (n-1):=by
 obtain⟨m,rfl⟩:∃m,n=m+1:=⟨n-1,by omega⟩
 rw[Nat.add_sub_cancel] at hx ⊢
 rw[drop_at oM,drop_at (show m<b.length by omega),hx,hd]
theorem val_two (x:Nat):val [x%4294967296,x/4294967296]=x:=by simp[val];omega
theorem Lm.two {x:Nat} (h:x<18446744073709551616):Lm [x%4294967296,x/4294967296%4294967296]:=by
 intro y hy
 simp at hy
 omega
theorem len_u64 {n:Nat}:n<18446744073709551616↔len n≤2:=by
 constructor
 ·intro h;exact digs_len_le (k:=2) oM
 intro h
 have h1:=lt_len n
 have h2:4294967296^len n≤4294967296^2:=Nat.pow_le_pow_right dC h
 omega
theorem val_drop_cons {a:List Nat} {n:Nat} (h0:0<n) (h:n≤a.length):val (a.drop (n-1))=a.getD (n-1) default+4294967296*val (a.drop n):=by
 obtain⟨m,rfl⟩:∃m,n=m+1:=⟨n-1,by omega⟩
 rw[Nat.add_sub_cancel,drop_at oM]
 rfl
theorem getD_ext {l m:List Nat} (hl:l.length=m.length) (h:∀j,j<l.length→l.getD j default=m.getD j default):l=m:=by
 apply List.ext_getElem hl
 intro j h1 h2
 have:=h j h1
 simpa[h1,h2] using this
end Go.Vm
namespace Go.Vm
theorem add_fin {x y P:List Nat} {k c:Nat} (lx:Lm x) (ly:Lm y) (hP:P.length=k) (hk:k=max x.length y.length+1) (hv:val P+4294967296^k*c=val (x.take k)+val (y.take k)):val P=val x+val y:=by
 rw[val_take_all oM,val_take_all oM] at hv
 refine add_end hP hk hv ?_ ?_
 ·exact Nat.lt_of_lt_of_le (val_lt lx) (Nat.pow_le_pow_right dC oM)
 exact Nat.lt_of_lt_of_le (val_lt ly) (Nat.pow_le_pow_right dC oM)
theorem sub_fin {x y P:List Nat} {k c:Nat} (lP:Lm P) (hP:P.length=k) (hx:x.length≤k) (hy:y.length≤k) (hxy:val y≤val x) (hv:val P+val (y.take k)=val (x.take k)+4294967296^k*c):val P=val x-val y:=by
 rw[val_take_all hx,val_take_all hy] at hv
 have h1:=val_lt lP
 rw[hP] at h1
 rcases Nat.eq_zero_or_pos c with h0|h0
 ·subst h0;omega
 have:4294967296^k*1≤4294967296^k*c:=Nat.mul_le_mul_left _ h0
 omega
theorem limb_mul {x y:Nat} (hx:x<4294967296) (hy:y<4294967296):x*y≤18446744065119617025:=by
 have h1:x*y≤4294967295*y:=Nat.mul_le_mul_right _ oM
 omega
def rowN (O Q:List Nat) (i:Nat):List Nat:=O.take i++Q++O.drop (i+Q.length)
theorem rowN_nil (O:List Nat) (i:Nat):rowN O [] i=O:=by simp[rowN]
theorem rowN_at {O Q:List Nat} {i k:Nat} (hQ:Q.length=k) (hi:i+k<O.length):(rowN O Q i).getD (i+k) default=O.getD (i+k) default:=by
 unfold rowN
 rw[List.getD_eq_getElem?_getD,List.getD_eq_getElem?_getD,List.getElem?_append_right (by simp;omega)]
 simp only[List.length_append,List.length_take,List.getElem?_drop]
 rw[hQ,show i+k+(i+k-(min i O.length+k))=i+k by omega]
theorem rowN_set {O Q:List Nat} {i k u:Nat} (hQ:Q.length=k) (hi:i+k<O.length):(rowN O Q i).set (i+k) u=rowN O (Q++[u]) i:=by
 unfold rowN
 rw[List.set_append_right _ _ (by simp;omega),List.append_assoc (O.take i),List.append_assoc (O.take i),List.append_assoc Q]
 congr 2
 simp only[List.length_append,List.length_take,List.length_singleton]
 rw[show i+k-(min i O.length+Q.length)=0 by omega,hQ,drop_at hi]
 rfl
theorem length_rowN {O Q:List Nat} {i:Nat} (h:i+Q.length≤O.length):(rowN O Q i).length=O.length:=by simp[rowN];omega
theorem rowN_lm {O Q:List Nat} {i:Nat} (hO:Lm O) (hQ:Lm Q):Lm (rowN O Q i):=((hO.take i).append hQ).append (hO.drop _)
theorem mul_row {O x y Q:List Nat} {i n c:Nat} (hi:i<x.length) (hQ:Q.length=y.length) (hO:O.length=x.length+y.length) (h1:val (O.take (i+y.length))=val (x.take i)*val y)
 (h2:val Q+4294967296^y.length*c=val ((O.drop i).take y.length)+x.getD i default*val y):
 val ((rowN O (Q++[c]) i).take (i+1+y.length))=val (x.take (i+1))*val y:=by
 have e:(rowN O (Q++[c]) i).take (i+1+y.length)=O.take i++(Q++[c]):=by
  unfold rowN
  rw[List.take_append_of_le_length (by simp;omega)]
  exact List.take_of_length_le (by simp;omega)
 have e2:O.take (i+y.length)=O.take i++(O.drop i).take y.length:=by rw[List.take_add]
 rw[e2,val_append,List.length_take,Nat.min_eq_left oM] at h1
 rw[e,val_append,List.length_take,Nat.min_eq_left oM,val_snoc,hQ,h2,Nat.mul_add,val_take_succ hi,Nat.add_mul,←h1,Nat.mul_assoc]
 omega
theorem rowN_zeros {O Q:List Nat} {i m:Nat} (hQ:Q.length=m+1) (hO:i+m<O.length) (hz:∀j,i+m≤j→j<O.length→O.getD j default=0):∀j,i+1+m≤j→j<(rowN O Q i).length→(rowN O Q i).getD j default=0:=by
 intro j h1 h2
 rw[length_rowN oM] at h2
 have h3:=hz j oM h2
 unfold rowN
 rw[List.getD_eq_getElem?_getD,List.getElem?_append_right (by simp;omega)]
 simp only[List.length_append,List.length_take,List.getElem?_drop]
 rw[hQ,show i+(m+1)+(j-(min i O.length+(m+1)))=j by omega]
 rw[List.getD_eq_getElem?_getD] at h3
 exact h3
end Go.Vm
namespace Go.Vm
theorem mul_row_step {O y Q:List Nat} {i k c xi:Nat} (hQ:Q.length=k) (hk:k<y.length) (hO:i+k<O.length) (h:val Q+4294967296^k*c=val ((O.drop i).take k)+xi*val (y.take k)):
 val (Q++[(c+(O.getD (i+k) default+xi*y.getD k default))%4294967296])+4294967296^(k+1)*((c+(O.getD (i+k) default+xi*y.getD k default))/4294967296)=val ((O.drop i).take (k+1))+xi*val (y.take (k+1)):=by
 have h1:=mul_step (o:=O.getD (i+k) default) (x:=xi) (y:=y.getD k default) hQ h
 have h2:=val_take_succ (xs:=O.drop i) (k:=k) (by rw[List.length_drop];omega)
 rw[show(O.drop i).getD k default=O.getD (i+k) default by simp[List.getD_eq_getElem?_getD]] at h2
 rw[h1,h2,val_take_succ hk,Nat.mul_add]
 omega
end Go.Vm
namespace Go.Vm
theorem pow32 (m:Nat):4294967296^m=2^(32*m):=by rw[show(4294967296:Nat)=2^32 from rfl,←Nat.pow_mul]
theorem bits_law {X:List Nat} {s:Nat} (hX:Lm X) (h0:0<X.length) (hs:X.getD (X.length-1) default/2^s=0):val X<2^(32*(X.length-1)+s):=by
 have h1:X.getD (X.length-1) default<2^s:=by
  rcases Nat.lt_or_ge (X.getD (X.length-1) default) (2^s) with h|h
  ·exact h
  have:=Nat.div_pos h (Nat.two_pow_pos s);omega
 have h2:=val_lt (hX.take (X.length-1))
 rw[List.length_take,Nat.min_eq_left oM] at h2
 rw[val_split X (show X.length-1≤X.length by omega),drop_at oM,List.drop_of_length_le oM]
 show _+4294967296^(X.length-1)*(X.getD (X.length-1) default+4294967296*0)<_
 rw[Nat.pow_add,←pow32]
 have h3:4294967296^(X.length-1)*(X.getD (X.length-1) default+1)≤4294967296^(X.length-1)*2^s:=Nat.mul_le_mul_left _ h1
 rw[Nat.mul_add,Nat.mul_one] at h3
 rw[Nat.mul_zero,Nat.add_zero]
 omega
theorem bit_law {x:List Nat} (hx:Lm x) (i:Nat):dig x (i/32)/2^(i%32)%2=val x/2^i%2:=by
 have hi:i=32*(i/32)+i%32:=by omega
 have hs:i%32<32:=by omega
 generalize i/32=q at*
 generalize i%32=s at*
 subst hi
 rw[Nat.pow_add,←pow32,←Nat.div_div_eq_div_mul]
 have h1:val x/4294967296^q=dig x q+4294967296*val (x.drop (q+1)):=by
  rcases Nat.lt_or_ge q x.length with h|h
  ·rw[val_split x (Nat.le_of_lt h),drop_at h,dig_t h]
   have h2:=val_lt (hx.take q)
   rw[List.length_take,Nat.min_eq_left oM] at h2
   rw[Nat.add_mul_div_left _ _ (Nat.pow_pos dC),Nat.div_eq_of_lt h2,Nat.zero_add]
   rfl
  rw[dig_f oM,List.drop_of_length_le oM]
  have h2:=val_lt hx
  have h3:4294967296^x.length≤4294967296^q:=Nat.pow_le_pow_right dC h
  rw[Nat.div_eq_of_lt oM]
  rfl
 rw[h1]
 obtain⟨t,ht⟩:∃t,32=s+1+t:=⟨31-s,by omega⟩
 have h4:(4294967296:Nat)=2^s*(2*2^t):=by
  rw[show(4294967296:Nat)=2^32 from rfl,ht,Nat.pow_add,Nat.pow_add,Nat.pow_one,Nat.mul_assoc]
 rw[h4,Nat.mul_assoc (2^s),Nat.add_mul_div_left _ _ (Nat.two_pow_pos s),Nat.mul_assoc 2]
 omega
theorem or_bit {a s:Nat} (h:a/2^s%2=0):a|||2^s=a+2^s:=by
 have h1:=Nat.mod_pow_succ (b:=2) (k:=s) (x:=a)
 rw[h,Nat.mul_zero,Nat.add_zero] at h1
 have h2:a%2^(s+1)<2^s:=by rw[h1];exact Nat.mod_lt _ (Nat.two_pow_pos s)
 have h3:=Nat.div_add_mod a (2^(s+1))
 have h4:=Nat.two_pow_add_eq_or_of_lt (i:=s+1) (b:=a%2^(s+1)) (Nat.mod_lt _ (Nat.two_pow_pos _)) (a/2^(s+1))
 have h5:=Nat.two_pow_add_eq_or_of_lt (i:=s) (b:=a%2^(s+1)) h2 1
 rw[Nat.mul_one] at h5
 have h6:2^(s+1)=2^s+2^s:=by rw[Nat.pow_succ];omega
 have h7:=Nat.two_pow_add_eq_or_of_lt (i:=s+1) (b:=2^s+a%2^(s+1)) oM (a/2^(s+1))
 clear h1
 generalize 2^(s+1)*(a/2^(s+1))=A at*
 generalize a%2^(s+1)=l at*
 have e1:a|||2^s=(A|||l)|||2^s:=by rw[←h4,h3]
 rw[e1,Nat.or_assoc,Nat.or_comm l,←h5,←h7]
 omega
theorem val_set {O:List Nat} {q u:Nat} (h:q<O.length):val (O.set q u)+4294967296^q*O.getD q default=val O+4294967296^q*u:=by
 have e:O.set q u=O.take q++u::O.drop (q+1):=by rw[List.set_eq_take_append_cons_drop,if_pos h]
 rw[e,val_append,List.length_take,Nat.min_eq_left oM,val_split O (Nat.le_of_lt h),drop_at h]
 show _+4294967296^q*(u+4294967296*val (O.drop (q+1)))+_=_+4294967296^q*(O.getD q default+4294967296*val (O.drop (q+1)))+_
 rw[Nat.mul_add,Nat.mul_add]
 omega
theorem setbit {O:List Nat} {i:Nat} (hO:Lm O) (hi:i/32<O.length) (hd:val O%2^(i+1)=0):
 O.getD (i/32) default|||2^(i%32)=O.getD (i/32) default+2^(i%32)∧O.getD (i/32) default+2^(i%32)<4294967296∧val (O.set (i/32) (O.getD (i/32) default+2^(i%32)))=val O+2^i:=by
 have hb:val O/2^i%2=0:=by
  have h1:=Nat.mod_pow_succ (b:=2) (k:=i) (x:=val O)
  rw[hd] at h1
  rcases Nat.eq_zero_or_pos (val O/2^i%2) with h|h
  ·exact h
  have:2^i*1≤2^i*(val O/2^i%2):=Nat.mul_le_mul_left _ h
  have:=Nat.two_pow_pos i
  omega
 have ha:=bit_law hO i
 rw[hb,dig_t hi] at ha
 refine⟨or_bit ha,?_,?_⟩
 ·have h1:=hO.at hi
  rw[←or_bit ha]
  exact Nat.or_lt_two_pow (n:=32) h1 (Nat.pow_lt_pow_right dC oM)
 have h1:=val_set (u:=O.getD (i/32) default+2^(i%32)) hi
 rw[Nat.mul_add] at h1
 have h2:2^i=4294967296^(i/32)*2^(i%32):=by rw[pow32,←Nat.pow_add];congr 1;omega
 omega
theorem div_next {n i Qn b r:Nat} (h:n/2^(i+1)=Qn*b+r):n/2^i=2*Qn*b+(r+r+n/2^i%2):=by
 rw[Nat.pow_succ,←Nat.div_div_eq_div_mul] at h
 have h1:2*Qn*b=Qn*b+Qn*b:=by rw[Nat.mul_assoc];omega
 omega
theorem div_fin {n b Qn r:Nat} (h:n=Qn*b+r) (hr:r<b):Qn=n/b∧r=n%b:=by
 subst h
 rw[Nat.mul_comm,Nat.mul_add_div oM,Nat.mul_add_mod,Nat.div_eq_of_lt hr,Nat.mod_eq_of_lt hr]
 exact⟨rfl,rfl⟩
def modZ (x y:Nat):Nat:=if y=0 then 0 else x%y
end Go.Vm
namespace Go.Vm
theorem Lm.set {O:List Nat} (h:Lm O) {q u:Nat} (hu:u<4294967296):Lm (O.set q u):=fun x hx=>by
 rcases List.mem_or_eq_of_mem_set hx with hx|rfl
 ·exact h x hx
 exact hu
theorem dm_shift (Q i:Nat):Q*2^(i+1)=2*Q*2^i:=by
 rw[Nat.pow_succ,Nat.mul_comm (2^i) 2,←Nat.mul_assoc,Nat.mul_comm Q 2]
end Go.Vm
namespace Go.Proofs.YtandhgfmfpmemaaGreat
open Go.Vg Go.Vm _root_.Go.Proofs.Tryz
open Go.Vy hiding val
set_option maxHeartbeats 1000000
def uC (z:Nat):CV:=.v (.int .u32 z)
def wC (z:Nat):CV:=.v (.int .u64 z)
def natS (s:Sl Nat):CV:=s.R 1 (fun z=>[uC z]) default
abbrev NatR (n:Nat):Sl Nat→Out:=fun g=>⟨.c (natS g),[],g.l=digs n⟩
theorem cu32 (x:Nat):((x%4294967296:Nat):Int)=IntKind.u32.wrap (x:Int):=by rw[IntKind.wrap_u32];omega
theorem wu {a z:Int} (h:(a=z∧0≤z∧z≤18446744073709551615):=by (first|omega|(simp only[maxLen] at*;omega))):a=IntKind.u64.wrap z:=by rw[wu64 h.2];exact h.1
theorem shr32 (x:Nat):((x/4294967296:Nat):Int)=(x:Int).fdiv (2^(min (32:Int).toNat IntKind.u64.bits)):=by
 rw[Int.fdiv_eq_ediv_of_nonneg _ dC]
 show _=(x:Int)/4294967296
 omega
theorem shl32 {x:Nat} (h:x<4294967296):((x*4294967296:Nat):Int)=IntKind.u64.wrap ((x:Int)*2^(min (32:Int).toNat IntKind.u64.bits)):=by
 rw[show(2:Int)^(min (32:Int).toNat IntKind.u64.bits)=4294967296 from rfl,wu64 oM];omega
theorem p32:(0:Int)≤32:=by decide
theorem nat_clo (l:List Nat):∀c∈l.map uC,cloC c=true:=fun c hc=>by
 obtain⟨z,_,rfl⟩:=List.mem_map.1 hc
 rfl
theorem nat_men {i:Nat} (l:List Nat):∀c∈l.map uC,menC i c=false:=fun c hc=>by
 obtain⟨z,_,rfl⟩:=List.mem_map.1 hc
 rfl
theorem nat_get {x:List Nat} (j:Nat) (h:j<x.length):[uC (x.getD j default)]=((x.map uC).drop (j*1)).take 1:=by
 have hd:(x.map uC).drop j=uC x[j]::(x.drop (j+1)).map uC:=by rw[←List.map_drop,List.drop_eq_getElem_cons h,List.map_cons]
 rw[Nat.mul_one,hd,gd h]
 rfl
theorem nat_flat {x:List Nat}:∀{n:Nat},n≤x.length→flatR n (fun j=>[uC (x.getD j default)])=(x.take n).map uC
 |0,_=>by simp[flatR]
 |n+1,h=>by
  rw[flatR_succ,nat_flat oM,map_take (d:=default) oM]
abbrev fTrim:FuncId:=153
theorem eTrim:Ent Tryz.prog fTrim:=Ent.of func153 rfl kR
theorem bTrim:Tryz.prog.funcs[fTrim]? =some Tryz.f153:=func153
theorem trim_o (x:Sl Nat) (hx:Lm x.l) (hn:x.l.length≤17592186044416):Ctr Tryz.prog fTrim [] [.c (natS x)] [] (fun _:Unit=>⟨.c (.s 0 (digs (val x.l)).length),[(160,1,(digs (val x.l)).map uC)],True⟩):=by
 refine ctr_of gT eTrim bTrim rfl rfl rfl bL ClB.nil (VC_ok gT mxd ?_)
 refine vloop (rn [(3,3),(6,17)]) (fun n:Nat=>[(3,.c (iC n))]) (fun _=>[]) (fun n=>n≤x.l.length∧val (x.l.take n)=val x.l) (fun n=>n) x.l.length ?_
 refine⟨⟨⟨Nat.le_refl _,by rw[List.take_of_length_le (Nat.le_refl _)]⟩,rfl,rfl⟩,fun n hi=>VC_ok gT mxd ⟨(n:Int)-1,fun h=>wi,n-1,fun h=>⟨oM,oM⟩,⟨fun h1=>VC_ok gT mxd ?_,fun h1=>VC_ok gT mxd (VC_ok gT mxd ?_)⟩⟩⟩
 ·exact⟨(n:Int)-1,wi,n-1,⟨⟨oM,trim_step hi.1 oM hi.2 oM⟩,oM⟩,rfl,rfl,show _=_ by omega⟩
 have hz:n=0∨x.l.getD (n-1) default≠0:=by
  rcases Nat.eq_zero_or_pos n with h|h
  ·exact .inl h
  exact .inr fun h2=>h1 ⟨by omega,by rw[h2];rfl⟩
 have ht:=trim_digs hx hi.1 hi.2 hz
 refine⟨n,⟨rfl,hi.1⟩,⟨fun j hj=>rfl,rfl,by simp only[maxLen];omega,show(0+n)*4≤_ by omega,fun c hc=>?_⟩,(),trivial,fin_own ?_ ?_ (Nat.zero_le _) ?_ rfl clB0⟩
 ·replace hc:c∈flatR n fun j=>[uC (x.l.getD j default)]:=hc
  rw[nat_flat hi.1] at hc
  exact nat_men _ c hc
 ·show _=_
  rw[←ht,List.length_take];omega
 ·show(160,1,flatR n fun j=>[uC (x.l.getD j default)])=(160,1,_)
  rw[nat_flat hi.1,ht]
 exact scB.cons (List.all_eq_true.2 fun c hc=>clo_sc (nat_clo _ c hc)) scB.nil
theorem trim_c (x:Sl Nat) (hx:Lm x.l) (hn:x.l.length≤17592186044416):Ctr Tryz.prog fTrim [] [.c (natS x)] [] (NatR (val x.l)):=
 ((trim_o x hx hn).frz (fun _ j=>[uC ((digs (val x.l)).getD j default)]) fun _ _=>⟨fun j hj=>nat_get j hj,by simp,Nat.zero_lt_one,nat_clo _⟩).re fun g _=>⟨⟨g.2.1,g.2.2,digs (val x.l)⟩,rfl,rfl,rfl,rfl⟩
def seqF:Nat→Nat→List (Nat×Bool)
 |_,0=>[]
 |a,n+1=>(a,false)::seqF (a+1) n
theorem ff {p:Prop} (h:¬p):(false=true↔p):=⟨fun h=>(by cases h),fun hp=>absurd hp h⟩
theorem tt {p:Prop} (h:p):(true=true↔p):=⟨fun _=>h,fun _=>rfl⟩
abbrev fEqual:FuncId:=136
theorem eEqual:Ent Tryz.prog fEqual:=Ent.of func136 rfl kR
theorem bEqual:Tryz.prog.funcs[fEqual]? =some Tryz.f136:=func136
theorem equal_c (x y:Sl Nat):Ctr Tryz.prog fEqual [] [.c (natS x),.c (natS y)] [] (fun _:Unit=>⟨pC (x.l=y.l),[],True⟩):=by
 refine ctr_of gT eEqual bEqual rfl rfl rfl bL ClB.nil (lenr 0 rfl fun hn=>VC_ok gT mxd ⟨fun h=>VC_ok gT mxd ?_,fun h=>VC_ok gT mxd ?_⟩)
 ·exact⟨(),trivial,fin_of (ff fun e=>h (by rw[e])) rfl trivial⟩
 refine vloop (rn [(5,5),(11,25)]) (fun k:Nat=>[(5,.c (iC k))]) (fun _=>[]) (fun k=>k≤x.l.length∧∀j,j<k→x.l.getD j default=y.l.getD j default) (x.l.length-·) 0 ?_
 refine⟨⟨⟨Nat.zero_le _,fun j hj=>absurd hj (Nat.not_lt_zero _)⟩,rfl,rfl⟩,fun k hi=>VC_ok gT mxd ⟨fun h1=>VC_ok gT mxd ⟨.seq (seqF 0 9),by kernel_rfl,k,⟨rfl,oM⟩,k,⟨rfl,oM⟩,⟨fun h2=>VC_ok gT mxd ?_,fun h2=>VC_ok gT mxd ?_⟩⟩,fun h1=>VC_ok gT mxd (VC_ok gT mxd ?_)⟩⟩
 ·exact⟨(),trivial,fin_of (ff fun e=>h2 (by rw[e])) rfl trivial⟩
 ·refine⟨(k+1:Nat),wi,k+1,⟨⟨oM,fun j hj=>?_⟩,oM⟩,rfl,rfl,rfl⟩
  rcases Nat.lt_or_eq_of_le (Nat.le_of_lt_succ hj) with h3|rfl
  ·exact hi.2 j h3
  have:=Decidable.not_not.1 h2;omega
 refine⟨(),trivial,fin_of (tt (getD_ext (by have:=Decidable.not_not.1 h;omega) fun j hj=>hi.2 j oM)) rfl trivial⟩
abbrev fFrom:FuncId:=141
theorem eFrom:Ent Tryz.prog fFrom:=Ent.of func141 rfl kR
theorem bFrom:Tryz.prog.funcs[fFrom]? =some Tryz.f141:=func141
theorem from_c {n:Nat} (hn:n<18446744073709551616):Ctr Tryz.prog fFrom [] [.c (wC n)] [] (NatR n):=by
 refine ctr_of gT eFrom bFrom rfl rfl rfl bL ClB.nil (VC_ok gT mxd ?_)
 have hv:val [n%4294967296,n/4294967296%4294967296]=n:=by rw[Nat.mod_eq_of_lt (show n/4294967296<4294967296 by omega),val_two]
 refine⟨_,cu32 n,p32,_,shr32 n,_,cu32 _,some (fun j=>[uC ([n%4294967296,n/4294967296%4294967296].getD j default)]),⟨⟨Nat.le_refl _,by decide⟩,rfl,fun j hj=>?_,fun c hc=>?_⟩,fun A c _ _=>?_⟩
 ·exact nat_get (x:=[n%4294967296,n/4294967296%4294967296]) j hj
 ·exact nat_clo [n%4294967296,n/4294967296%4294967296] c hc
 refine⟨[],trim_c ⟨A,c,[n%4294967296,n/4294967296%4294967296]⟩ (Lm.two hn) (by simp),rfl,rfl,rfl,fun g hg=>⟨g,?_,fin_of rfl rfl trivial⟩⟩
 show g.l=digs n
 rw[←hv]
 exact hg
theorem or32 {x y:Nat} (hx:x<4294967296) (hy:y<4294967296):((x*4294967296+y:Nat):Int)=IntKind.u64.wrap ((BitVec.ofInt IntKind.u64.bits ((x*4294967296:Nat):Int)|||BitVec.ofInt IntKind.u64.bits (y:Int)).toNat:Int):=by
 show _=IntKind.u64.wrap ((BitVec.ofInt 64 ((x*4294967296:Nat):Int)|||BitVec.ofInt 64 (y:Int)).toNat:Int)
 rw[BitVec.ofInt_natCast,BitVec.ofInt_natCast,BitVec.toNat_or,BitVec.toNat_ofNat,BitVec.toNat_ofNat,Nat.mod_eq_of_lt oM,Nat.mod_eq_of_lt oM]
 have h:=Nat.two_pow_add_eq_or_of_lt (i:=32) (b:=y) oM x
 rw[Nat.mul_comm (2^32) x] at h
 rw[show x*4294967296=x*2^32 from rfl,←h,wu64 oM]
theorem dg {X:List Nat} {n:Nat} (h:X=digs n):Lm X∧val X=n:=by subst h;exact⟨digs_lm n,val_digs n⟩
abbrev fUint:FuncId:=144
theorem eUint:Ent Tryz.prog fUint:=Ent.of func144 rfl kR
theorem bUint:Tryz.prog.funcs[fUint]? =some Tryz.f144:=func144
theorem uint_c (x:Sl Nat) (hx:Lm x.l) (hn:x.l.length≤17592186044416):Ctr Tryz.prog fUint [] [.c (natS x)] [] (fun _:Unit=>⟨.t [.c (wC (if val x.l<18446744073709551616 then val x.l else 0)),pC (val x.l<18446744073709551616)],[],True⟩):=by
 refine ctr_of gT eUint bUint rfl rfl rfl bL ClB.nil (VC_ok gT mxd ⟨[],trim_c x hx hn,rfl,rfl,rfl,fun X hX=>?_⟩)
 replace hX:X.l=digs (val x.l):=hX
 obtain⟨lX,vX⟩:=dg hX
 have h64:=len_u64 (n:=val x.l)
 rw[←len_digs,←hX] at h64
 refine⟨fun h=>VC_ok gT mxd ⟨(),trivial,fin_of ⟨?_,ff oM⟩ rfl trivial⟩,fun h=>VC_ok gT mxd ⟨(X.l.length:Int)-1,wi,?_⟩⟩
 ·rw[if_neg oM];rfl
 refine vloop (rn [(4,5),(14,25)]) (fun n:Nat=>[(5,.c (iC ((n:Int)-1))),(4,.c (wC (val (X.l.drop n))))]) (fun _=>[]) (fun n=>n≤X.l.length) (fun n=>n) X.l.length ?_
 refine⟨⟨Nat.le_refl _,rfl,rfl,?_⟩,fun n hi=>VC_ok gT mxd ⟨fun h1=>VC_ok gT mxd ?_,fun h1=>VC_ok gT mxd (VC_ok gT mxd ?_)⟩⟩
 ·show(0:Int)=_
  rw[List.drop_of_length_le (Nat.le_refl _)];rfl
 ·have hdl:val (X.l.drop n)<4294967296:=by
   have h1:=val_lt (lX.drop n)
   have h2:4294967296^(X.l.drop n).length≤4294967296^1:=Nat.pow_le_pow_right dC (by rw[List.length_drop];omega)
   omega
  have hd:=lX.at (k:=n-1) oM
  refine⟨p32,_,shl32 hdl,n-1,⟨oM,oM⟩,_,wu (a:=(X.l.getD (n-1) default:Nat)),_,or32 hdl hd,(n:Int)-1-1,wi,n-1,⟨oM,oM⟩,rfl,rfl,?_,?_⟩
  ·show(n:Int)-1-1=_
   omega
  show(_:Int)=(_:Int)
  rw[val_drop_cons oM hi]
  omega
 have h0:n=0:=by omega
 subst h0
 refine⟨(),trivial,fin_of ⟨?_,tt oM⟩ rfl trivial⟩
 show(_:Int)=(_:Int)
 rw[if_pos oM,List.drop_zero,vX]
def cmpI (a b:Int):Int:=if a<b then-1 else if b<a then 1 else 0
abbrev fCmp:FuncId:=159
theorem eCmp:Ent Tryz.prog fCmp:=Ent.of func159 rfl kR
theorem bCmp:Tryz.prog.funcs[fCmp]? =some Tryz.f159:=func159
theorem cmp_c (x y:Sl Nat) (hx:Lm x.l) (hy:Lm y.l) (hn:x.l.length≤17592186044416) (hm:y.l.length≤17592186044416):Ctr Tryz.prog fCmp [] [.c (natS x),.c (natS y)] [] (fun _:Unit=>⟨.c (iC (cmpI (val x.l) (val y.l))),[],True⟩):=by
 refine ctr_of gT eCmp bCmp rfl rfl rfl bL ClB.nil (VC_ok gT mxd ⟨[],trim_c x hx hn,rfl,rfl,rfl,fun X hX=>⟨[],trim_c y hy hm,rfl,rfl,rfl,fun Y hY=>?_⟩⟩)
 replace hX:X.l=digs (val x.l):=hX
 replace hY:Y.l=digs (val y.l):=hY
 obtain⟨lX,vX⟩:=dg hX
 obtain⟨lY,vY⟩:=dg hY
 have hlx:=len_le_of hx
 have hly:=len_le_of hy
 rw[←len_digs,←hX] at hlx
 rw[←len_digs,←hY] at hly
 refine⟨fun h=>VC_ok gT mxd ⟨fun h1=>VC_ok gT mxd ?_,fun h1=>VC_ok gT mxd ?_⟩,fun h=>VC_ok gT mxd ⟨(X.l.length:Int)-1,wi,?_⟩⟩
 ·have hlt:val x.l<val y.l:=len_lt_of (by rw[←len_digs,←len_digs,←hX,←hY];omega)
  exact⟨(),trivial,fin_of (show(-1:Int)=_ by unfold cmpI;rw[if_pos oM]) rfl trivial⟩
 ·have hlt:val y.l<val x.l:=len_lt_of (by rw[←len_digs,←len_digs,←hX,←hY];omega)
  exact⟨(),trivial,fin_of (show(1:Int)=_ by unfold cmpI;rw[if_neg oM,if_pos oM]) rfl trivial⟩
 have hl:X.l.length=Y.l.length:=by have:=Decidable.not_not.1 h;omega
 refine vloop (rn [(5,5),(23,44)]) (fun n:Nat=>[(5,.c (iC ((n:Int)-1)))]) (fun _=>[]) (fun n=>n≤X.l.length∧X.l.drop n=Y.l.drop n) (fun n=>n) X.l.length ?_
 refine⟨⟨⟨Nat.le_refl _,by rw[List.drop_of_length_le (Nat.le_refl _),List.drop_of_length_le oM]⟩,rfl,rfl⟩,fun n hi=>VC_ok gT mxd ⟨fun h1=>VC_ok gT mxd ⟨.seq (seqF 0 9),by kernel_rfl,n-1,⟨oM,oM⟩,n-1,⟨oM,oM⟩,⟨fun h2=>VC_ok gT mxd ?_,fun h2=>VC_ok gT mxd ⟨.seq (seqF 0 9),by kernel_rfl,n-1,⟨oM,oM⟩,n-1,⟨oM,oM⟩,⟨fun h3=>VC_ok gT mxd ?_,fun h3=>VC_ok gT mxd ?_⟩⟩⟩⟩,fun h1=>VC_ok gT mxd (VC_ok gT mxd ?_)⟩⟩
 ·have hlt:val x.l<val y.l:=by
   have h:=cmp_at (a:=X.l) (b:=Y.l) (m:=n-1) lX oM oM (by rw[show n-1+1=n by omega];exact hi.2) oM
   rw[vX,vY] at h;exact h
  exact⟨(),trivial,fin_of (show(-1:Int)=_ by unfold cmpI;rw[if_pos oM]) rfl trivial⟩
 ·have hlt:val y.l<val x.l:=by
   have h:=cmp_at (a:=Y.l) (b:=X.l) (m:=n-1) lY oM oM (by rw[show n-1+1=n by omega];exact hi.2.symm) oM
   rw[vY,vX] at h;exact h
  exact⟨(),trivial,fin_of (show(1:Int)=_ by unfold cmpI;rw[if_neg oM,if_pos oM]) rfl trivial⟩
 ·exact⟨(n:Int)-1-1,wi,n-1,⟨⟨oM,drop_step oM hi.1 oM hi.2 oM⟩,oM⟩,rfl,rfl,show(n:Int)-1-1=_ by omega⟩
 have h0:n=0:=by omega
 subst h0
 have h:=hi.2
 rw[List.drop_zero,List.drop_zero] at h
 have h:=congrArg val h
 rw[vX,vY] at h
 exact⟨(),trivial,fin_of (show(0:Int)=_ by unfold cmpI;rw[if_neg oM,if_neg oM]) rfl trivial⟩
end Go.Proofs.YtandhgfmfpmemaaGreat
namespace Go.Proofs.YtandhgfmfpmemaaGreat
open Go.Vg Go.Vm _root_.Go.Proofs.Tryz
open Go.Vy hiding val
set_option maxHeartbeats 1000000
theorem nat_spl {x:List Nat} {i:Nat} {z:Nat} (h:i<x.length):splC (x.map uC) (i*1) [uC z]=(x.set i z).map uC:=by
 unfold splC
 rw[Nat.mul_one,←List.map_take,←List.map_drop,List.set_eq_take_append_cons_drop,if_pos h,List.map_append,List.map_cons]
 rfl
theorem nat_own {x:List Nat} {i:Nat} (h:i<x.length):(x.map uC)[i*1]? =some (uC (x.getD i default)):=by
 rw[Nat.mul_one,List.getElem?_map,List.getElem?_eq_getElem h,gd h]
 rfl
theorem nat_rep (m:Nat):List.replicate m (.v (.int .u32 0))=(List.replicate m 0).map uC:=by simp[uC]
theorem w0 {x:Nat} (h:x≤18446744073709551615):(x:Int)=IntKind.u64.wrap (x:Int):=(wu64 oM).symm
theorem wa {x y:Nat} (h:x+y≤18446744073709551615):((x+y:Nat):Int)=IntKind.u64.wrap ((x:Int)+(y:Int)):=(wu64 oM).symm.trans (by rw[Int.natCast_add])
abbrev fAdd:FuncId:=156
theorem eAdd:Ent Tryz.prog fAdd:=Ent.of func156 rfl kR
theorem bAdd:Tryz.prog.funcs[fAdd]? =some Tryz.f156:=func156
theorem add_c (x y:Sl Nat) (hx:Lm x.l) (hy:Lm y.l) (hn:x.l.length≤1099511627776) (hm:y.l.length≤1099511627776):Ctr Tryz.prog fAdd [] [.c (natS x),.c (natS y)] [] (NatR (val x.l+val y.l)):=by
 refine ctr_of gT eAdd bAdd rfl rfl rfl bL ClB.nil (VC_ok gT mxd ?_)
 obtain⟨m,hmm⟩:∃m:Nat,m=max x.l.length y.l.length+1:=⟨_,rfl⟩
 refine⟨(m:Int),wi (z:=max (x.l.length:Int) (y.l.length:Int)+1) (h:=⟨by omega,by omega,by omega⟩),m,⟨rfl,rfl,show 4*m≤_ by omega,by simp only[maxLen];omega⟩,?_⟩
 refine vloop (rn [(6,7),(15,49)]) (fun g:Nat×Nat×List Nat=>[(7,.c (iC g.1)),(6,.c (wC g.2.1))]) (fun g=>[(160,1,(fillN g.2.2 m).map uC)]) (fun g=>g.1≤m∧g.2.2.length=g.1∧Lm g.2.2∧g.2.1≤1∧val g.2.2+4294967296^g.1*g.2.1=val (x.l.take g.1)+val (y.l.take g.1)) (fun g=>m-g.1) (0,0,[]) ?_
 refine⟨⟨⟨Nat.zero_le _,rfl,Lm.nil,Nat.zero_le _,rfl⟩,?_,rfl,rfl⟩,fun⟨k,c,P⟩ ⟨hk,hP,hLm,hc,hv⟩=>VC_ok gT mxd ⟨fun h1=>VC_ok gT mxd ?_,fun h1=>VC_ok gT mxd (VC_ok gT mxd ?_)⟩⟩
 ·show [(_,_,_)]=[(_,_,_)]
  rw[fillN_nil]
  exact congrArg (fun l=>[(160,1,l)]) (nat_rep m)
 ·simp only at hk hP hLm hc hv h1
  have hkm:k<m:=by omega
  have dx:=dig_lt hx k
  have dy:=dig_lt hy k
  refine vjn (rn [(6,7),(15,49)]) (fun g:Nat=>[(7,.c (iC k)),(6,.c (wC g))]) (fun _=>[(160,1,(fillN P m).map uC)]) (fun g=>g=c+dig x.l k) ?_
  refine⟨⟨fun h2=>VC_ok gT mxd ⟨k,⟨rfl,oM⟩,_,w0 (x:=x.l.getD k default) (by have:=hx.at (k:=k) oM;omega),_,wa (by have:=hx.at (k:=k) oM;omega),_,rfl,rfl,rfl,rfl,?_⟩,fun h2=>VC_ok gT mxd ⟨_,rfl,rfl,rfl,rfl,?_⟩⟩,?_⟩
  ·show(_:Int)=(_:Int)
   rw[dig_t oM]
  ·show(_:Int)=(_:Int)
   rw[dig_f oM];rfl
  rintro _ rfl
  refine vjn (rn [(6,7),(15,49)]) (fun g:Nat=>[(7,.c (iC k)),(6,.c (wC g))]) (fun _=>[(160,1,(fillN P m).map uC)]) (fun g=>g=c+dig x.l k+dig y.l k) ?_
  refine⟨⟨fun h2=>VC_ok gT mxd ⟨k,⟨rfl,oM⟩,_,w0 (x:=y.l.getD k default) (by have:=hy.at (k:=k) oM;omega),_,wa (by have:=hy.at (k:=k) oM;omega),_,rfl,rfl,rfl,rfl,?_⟩,fun h2=>VC_ok gT mxd ⟨_,rfl,rfl,rfl,rfl,?_⟩⟩,?_⟩
  ·show(_:Int)=(_:Int)
   rw[dig_t (xs:=y.l) oM]
  ·show(_:Int)=(_:Int)
   rw[dig_f (xs:=y.l) oM];rfl
  rintro _ rfl
  have hfl:k<(fillN P m).length:=by rw[length_fillN oM];exact hkm
  refine⟨_,cu32 _,k,⟨rfl,hkm,show k*1<_ by rw[List.length_map];omega⟩,_,⟨nat_spl hfl,show k*1+1≤_ by rw[List.length_map];omega⟩,p32,_,shr32 _,(k+1:Nat),wi,(k+1,(c+dig x.l k+dig y.l k)/4294967296,P++[(c+dig x.l k+dig y.l k)%4294967296]),⟨⟨oM,?_,hLm.snoc (Nat.mod_lt _ dC),?_,?_⟩,?_⟩,rfl,?_,rfl,rfl⟩
  ·simp[hP]
  ·show _/_≤_
   omega
  ·show val (P++_)+_=val (x.l.take (k+1))+val (y.l.take (k+1))
   rw[val_take_dig,val_take_dig];exact add_step hP hv
  ·show m-(k+1)<m-k
   omega
  show [(_,_,_)]=[(_,_,_)]
  rw[fillN_set hP hkm]
 simp only at hk hP hLm hc hv h1
 obtain rfl:m=P.length:=by omega
 have hf:fillN P P.length=P:=fillN_full rfl
 have hfin:=add_fin hx hy rfl hmm (by rw[hP];exact hv)
 refine⟨some (fun j=>[uC (P.getD j default)]),⟨⟨Nat.zero_le _,Nat.zero_lt_one⟩,?_,fun j hj=>?_,?_⟩,fun A cc _ _=>⟨[],trim_c ⟨A,cc,P⟩ hLm (by show P.length≤_;omega),rfl,rfl,rfl,fun g hg=>⟨g,?_,fin_of rfl rfl trivial⟩⟩⟩
 ·show P.length*1=_
  rw[hf];simp
 ·show _=List.take 1 (List.drop (j*1) ((fillN P P.length).map uC))
  rw[hf];exact nat_get j hj
 ·rw[hf];exact nat_clo P
 show g.l=_
 rw[←hfin];exact hg
theorem cmpI_neg {a b:Int}:cmpI a b<0↔a<b:=by unfold cmpI;constructor<;>intro h<;>(repeat split at*)<;>omega
abbrev fSub:FuncId:=158
theorem eSub:Ent Tryz.prog fSub:=Ent.of func158 rfl kR
theorem bSub:Tryz.prog.funcs[fSub]? =some Tryz.f158:=func158
theorem sub_c (x y:Sl Nat) (hx:Lm x.l) (hy:Lm y.l) (hn:x.l.length≤1099511627776) (hm:y.l.length≤1099511627776):Ctr Tryz.prog fSub [] [.c (natS x),.c (natS y)] [] (fun g:Sl Nat=>⟨.t [.c (natS g),pC (val y.l≤val x.l)],[],g.l=digs (val x.l-val y.l)⟩):=by
 refine ctr_of gT eSub bSub rfl rfl rfl bL ClB.nil (VC_ok gT mxd ⟨[],cmp_c x y hx hy oM oM,rfl,rfl,rfl,fun _ _=>⟨fun h=>VC_ok gT mxd ?_,fun h=>VC_ok gT mxd ?_⟩⟩)
 ·have h:=cmpI_neg.1 h
  refine⟨⟨none,0,[]⟩,?_,fin_of ⟨⟨rfl,rfl,rfl⟩,ff oM⟩ rfl trivial⟩
  show []=digs _
  rw[show val x.l-val y.l=0 by omega];rfl
 have hxy:val y.l≤val x.l:=by
  rcases Nat.lt_or_ge (val x.l) (val y.l) with h'|h'
  ·exact absurd (cmpI_neg.2 oM) h
  exact h'
 refine⟨[],trim_c x hx oM,rfl,rfl,rfl,fun X hX=>⟨[],trim_c y hy oM,rfl,rfl,rfl,fun Y hY=>?_⟩⟩
 replace hX:X.l=digs (val x.l):=hX
 replace hY:Y.l=digs (val y.l):=hY
 obtain⟨lX,vX⟩:=dg hX
 obtain⟨lY,vY⟩:=dg hY
 have hlen:Y.l.length≤X.l.length:=by rw[hX,hY];exact len_mono hxy
 have hXn:X.l.length≤x.l.length:=by rw[hX];exact len_le_of hx
 refine⟨X.l.length,⟨rfl,rfl,show 4*X.l.length≤_ by omega,by simp only[maxLen];omega⟩,?_⟩
 refine vloop (rn [(7,10),(22,56)]) (fun g:Nat×Nat×List Nat=>[(8,.c (iC g.1)),(7,.c (wC g.2.1))]) (fun g=>[(160,1,(fillN g.2.2 X.l.length).map uC)]) (fun g=>g.1≤X.l.length∧g.2.2.length=g.1∧Lm g.2.2∧g.2.1≤1∧val g.2.2+val (Y.l.take g.1)=val (X.l.take g.1)+4294967296^g.1*g.2.1) (fun g=>X.l.length-g.1) (0,0,[]) ?_
 refine⟨⟨⟨Nat.zero_le _,rfl,Lm.nil,Nat.zero_le _,rfl⟩,?_,rfl,rfl⟩,fun⟨k,c,P⟩ ⟨hk,hP,hLm,hc,hv⟩=>VC_ok gT mxd ⟨fun h1=>VC_ok gT mxd ?_,fun h1=>VC_ok gT mxd (VC_ok gT mxd ?_)⟩⟩
 ·show [(_,_,_)]=[(_,_,_)]
  rw[fillN_nil]
  exact congrArg (fun l=>[(160,1,l)]) (nat_rep _)
 ·simp only at hk hP hLm hc hv h1
  have hkm:k<X.l.length:=by omega
  have dx:=lX.at hkm
  have dy:=dig_lt lY k
  refine vjn (rn [(7,10),(22,56)]) (fun g:Nat=>[(8,.c (iC k)),(7,.c (wC c)),(9,.c (wC g))]) (fun _=>[(160,1,(fillN P X.l.length).map uC)]) (fun g=>g=c+dig Y.l k) ?_
  refine⟨⟨fun h2=>VC_ok gT mxd ⟨k,⟨rfl,oM⟩,_,w0 (x:=Y.l.getD k default) (by have:=lY.at (k:=k) oM;omega),_,wa (by have:=lY.at (k:=k) oM;omega),_,rfl,rfl,rfl,rfl,rfl,?_⟩,fun h2=>VC_ok gT mxd ⟨_,rfl,rfl,rfl,rfl,rfl,?_⟩⟩,?_⟩
  ·show(_:Int)=(_:Int)
   rw[dig_t (xs:=Y.l) oM]
  ·show(_:Int)=(_:Int)
   rw[dig_f (xs:=Y.l) oM];rfl
  rintro _ rfl
  have hfl:k<(fillN P X.l.length).length:=by rw[length_fillN oM];exact hkm
  obtain⟨b,hb⟩:∃b:Nat,b=if X.l.getD k default<c+dig Y.l k then 1 else 0:=⟨_,rfl⟩
  refine⟨k,⟨rfl,hkm⟩,_,w0 (x:=X.l.getD k default) oM,?_⟩
  refine vjn (rn [(7,10),(22,56)]) (fun _:Unit=>[(8,.c (iC k)),(7,.c (wC b)),(9,.c (wC (c+dig Y.l k))),(10,.c (wC (X.l.getD k default+4294967296*b)))]) (fun _=>[(160,1,(fillN P X.l.length).map uC)]) (fun _=>True) ?_
  refine⟨⟨fun h2=>VC_ok gT mxd ⟨_,wa (x:=X.l.getD k default) (y:=4294967296) oM,(),trivial,rfl,rfl,rfl,?_,rfl,?_⟩,fun h2=>VC_ok gT mxd ⟨(),trivial,rfl,rfl,rfl,?_,rfl,?_⟩⟩,?_⟩
  ·show(1:Int)=(b:Int)
   rw[hb,if_pos oM];rfl
  ·show(_:Int)=(_:Int)
   rw[hb,if_pos oM]
  ·show(0:Int)=(b:Int)
   rw[hb,if_neg oM];rfl
  ·show(_:Int)=(_:Int)
   rw[hb,if_neg oM,Nat.mul_zero,Nat.add_zero]
  intro _ _
  have hb1:(X.l.getD k default<c+dig Y.l k∧b=1)∨(¬X.l.getD k default<c+dig Y.l k∧b=0):=by
   by_cases h:X.l.getD k default<c+dig Y.l k
   ·exact .inl ⟨h,by rw[hb,if_pos h]⟩
   exact .inr ⟨h,by rw[hb,if_neg h]⟩
  have hs:=sub_step (x:=X.l.getD k default) (y:=dig Y.l k) hP hv dx dy hc
  have hm:(X.l.getD k default+4294967296*b-(c+dig Y.l k))%4294967296=(X.l.getD k default+4294967296-(c+dig Y.l k))%4294967296:=by omega
  have hbi:(if X.l.getD k default<c+dig Y.l k then 1 else 0)=b:=hb.symm
  rw[←hm,hbi] at hs
  rw[←val_take_succ hkm,←val_take_dig] at hs
  refine⟨((X.l.getD k default+4294967296*b-(c+dig Y.l k):Nat):Int),wu (h:=⟨by omega,by omega,by omega⟩),_,cu32 _,k,⟨rfl,hkm,show k*1<_ by rw[List.length_map];omega⟩,_,⟨nat_spl hfl,show k*1+1≤_ by rw[List.length_map];omega⟩,(k+1:Nat),wi,(k+1,b,P++[(X.l.getD k default+4294967296*b-(c+dig Y.l k))%4294967296]),⟨⟨oM,?_,hLm.snoc (Nat.mod_lt _ dC),?_,?_⟩,?_⟩,rfl,?_,rfl,rfl⟩
  ·simp[hP]
  ·show b≤1
   omega
  ·exact hs
  ·show _-(k+1)<_-k
   omega
  show [(_,_,_)]=[(_,_,_)]
  rw[fillN_set hP hkm]
 simp only at hk hP hLm hc hv h1
 obtain rfl:k=X.l.length:=by omega
 have hf:fillN P X.l.length=P:=fillN_full hP
 have hfin:=sub_fin (k:=X.l.length) hLm hP (Nat.le_refl _) hlen oM hv
 refine⟨some (fun j=>[uC (P.getD j default)]),⟨⟨Nat.zero_le _,Nat.zero_lt_one⟩,?_,fun j hj=>?_,?_⟩,fun A cc _ _=>⟨[],trim_c ⟨A,cc,P⟩ hLm (by show P.length≤_;omega),?_,rfl,rfl,fun g hg=>⟨g,?_,fin_of ⟨rfl,tt hxy⟩ rfl trivial⟩⟩⟩
 ·show X.l.length*1=_
  rw[hf];simp[hP]
 ·show _=List.take 1 (List.drop (j*1) ((fillN P X.l.length).map uC))
  rw[hf];exact nat_get j (by rw[hP];exact hj)
 ·rw[hf];exact nat_clo P
 ·show [DV.c (.r A X.l.length cc 1 _)]=[DV.c (.r A P.length cc 1 _)]
  rw[hP]
 show g.l=_
 rw[←vX,←vY,←hfin];exact hg
theorem wm {x y:Nat} (h:x*y≤18446744073709551615):((x*y:Nat):Int)=IntKind.u64.wrap ((x:Int)*(y:Int)):=(wu64 (z:=((x*y:Nat):Int)) oM).symm.trans (by rw[Int.natCast_mul])
abbrev fMul:FuncId:=147
theorem eMul:Ent Tryz.prog fMul:=Ent.of func147 rfl kR
theorem bMul:Tryz.prog.funcs[fMul]? =some Tryz.f147:=func147
theorem mul_c (x y:Sl Nat) (hx:Lm x.l) (hy:Lm y.l) (hn:x.l.length≤1099511627776) (hm:y.l.length≤1099511627776):Ctr Tryz.prog fMul [] [.c (natS x),.c (natS y)] [] (NatR (val x.l*val y.l)):=by
 refine ctr_of gT eMul bMul rfl rfl rfl bL ClB.nil (VC_ok gT mxd ?_)
 obtain⟨m,hmm⟩:∃m:Nat,m=x.l.length+y.l.length:=⟨_,rfl⟩
 refine⟨(m:Int),wi (z:=(x.l.length:Int)+(y.l.length:Int)) (h:=⟨by omega,by omega,by omega⟩),m,⟨rfl,rfl,show 4*m≤_ by omega,by simp only[maxLen];omega⟩,?_⟩
 refine vloop (rn [(6,8),(15,64)]) (fun g:Nat×List Nat=>[(6,.c (iC g.1))]) (fun g=>[(160,1,g.2.map uC)]) (fun g=>g.1≤x.l.length∧g.2.length=m∧Lm g.2∧val (g.2.take (g.1+y.l.length))=val (x.l.take g.1)*val y.l∧∀j,g.1+y.l.length≤j→j<g.2.length→g.2.getD j default=0) (fun g=>x.l.length-g.1) (0,List.replicate m 0) ?_
 refine⟨⟨⟨Nat.zero_le _,by simp,Lm.zeros m,?_,fun j _ hj=>?_⟩,?_,rfl⟩,fun⟨i,O⟩ ⟨hi,hO,hLm,hv,hz⟩=>VC_ok gT mxd ⟨fun h1=>VC_ok gT mxd ?_,fun h1=>VC_ok gT mxd (VC_ok gT mxd ?_)⟩⟩
 ·show val ((List.replicate m 0).take _)=_
  rw[List.take_replicate,val_zeros]
  simp[val]
 ·rw[List.length_replicate] at hj
  rw[gd (by simpa using hj)]
  simp
 ·exact congrArg (fun l=>[(160,1,l)]) (nat_rep m)
 ·simp only at hi hO hLm hv hz h1
  have him:i<x.l.length:=by omega
  have dx:=hx.at him
  refine vloop (rn [(7,8),(21,56)]) (fun g:Nat×Nat×List Nat=>[(8,.c (iC g.1)),(7,.c (wC g.2.1))]) (fun g=>[(160,1,(rowN O g.2.2 i).map uC)]) (fun g=>g.1≤y.l.length∧g.2.2.length=g.1∧Lm g.2.2∧g.2.1<4294967296∧val g.2.2+4294967296^g.1*g.2.1=val ((O.drop i).take g.1)+x.l.getD i default*val (y.l.take g.1)) (fun g=>y.l.length-g.1) (0,0,[]) ?_
  refine⟨⟨⟨Nat.zero_le _,rfl,Lm.nil,by decide,by simp[val]⟩,?_,rfl,rfl⟩,fun⟨k,c,Q⟩ ⟨hk,hQ,hQm,hc,hw⟩=>VC_ok gT mxd ⟨fun h2=>VC_ok gT mxd ?_,fun h2=>VC_ok gT mxd (VC_ok gT mxd ?_)⟩⟩
  ·show [(_,_,_)]=[(_,_,_)]
   rw[rowN_nil]
  ·simp only at hk hQ hQm hc hw h2
   have hkm:k<y.l.length:=by omega
   have dy:=hy.at hkm
   have hik:i+k<O.length:=by omega
   have hrl:(rowN O Q i).length=O.length:=length_rowN oM
   have ho:O.getD (i+k) default<4294967296:=hLm.at hik
   have hg:(rowN O Q i).getD (i+k) default=O.getD (i+k) default:=rowN_at hQ hik
   have hlm:=limb_mul dx dy
   obtain⟨p,hp⟩:∃p,p=x.l.getD i default*y.l.getD k default:=⟨_,rfl⟩
   rw[←hp] at hlm
   have hpos:i+k<(rowN O Q i).length:=by rw[hrl];exact hik
   refine⟨.seq (seqF 0 22),by kernel_rfl,((i+k:Nat):Int),wi,i+k,⟨rfl,by omega,show(i+k)*1<_ by rw[List.length_map,hrl];omega⟩,_,nat_own hpos,_,w0 (x:=(rowN O Q i).getD (i+k) default) oM,i,⟨rfl,him⟩,_,w0 (x:=x.l.getD i default) oM,k,⟨rfl,hkm⟩,_,w0 (x:=y.l.getD k default) oM,_,wm oM,_,wa oM,_,wa oM,((i+k:Nat):Int),wi,_,cu32 _,i+k,⟨rfl,by omega,show(i+k)*1<_ by rw[List.length_map,hrl];omega⟩,_,⟨nat_spl hpos,show(i+k)*1+1≤_ by rw[List.length_map,hrl];omega⟩,p32,_,shr32 _,(k+1:Nat),wi,(k+1,(c+(O.getD (i+k) default+x.l.getD i default*y.l.getD k default))/4294967296,Q++[(c+(O.getD (i+k) default+x.l.getD i default*y.l.getD k default))%4294967296]),⟨⟨oM,?_,hQm.snoc (Nat.mod_lt _ dC),?_,mul_row_step hQ hkm hik hw⟩,?_⟩,rfl,?_,rfl,?_⟩
   ·simp[hQ]
   ·show _/_<_
    omega
   ·show y.l.length-(k+1)<y.l.length-k
    omega
   ·show [(_,_,_)]=[(_,_,_)]
    rw[hg,rowN_set hQ hik]
   show(_:Int)=(_:Int)
   rw[hg]
  simp only at hk hQ hQm hc hw h2
  obtain rfl:k=y.l.length:=by omega
  have hpos:i+y.l.length<(rowN O Q i).length:=by rw[length_rowN oM];omega
  have hQ':(Q++[c]).length=y.l.length+1:=by simp[hQ]
  refine⟨((i+y.l.length:Nat):Int),wi,_,cu32 c,i+y.l.length,⟨rfl,by omega,show(i+y.l.length)*1<((rowN O Q i).map uC).length by rw[List.length_map];omega⟩,_,⟨nat_spl hpos,show(i+y.l.length)*1+1≤((rowN O Q i).map uC).length by rw[List.length_map];omega⟩,(i+1:Nat),wi,(i+1,rowN O (Q++[c]) i),⟨⟨oM,?_,rowN_lm hLm (hQm.snoc hc),?_,?_⟩,?_⟩,rfl,?_,rfl⟩
  ·show(rowN O (Q++[c]) i).length=m
   rw[length_rowN oM];exact hO
  ·rw[val_take_all (Nat.le_refl _)] at hw
   exact mul_row (n:=0) him hQ oM hv hw
  ·exact rowN_zeros hQ' oM hz
  ·show x.l.length-(i+1)<x.l.length-i
   omega
  show [(_,_,_)]=[(_,_,_)]
  rw[rowN_set hQ oM,Nat.mod_eq_of_lt hc]
 simp only at hi hO hLm hv hz h1
 obtain rfl:i=x.l.length:=by omega
 rw[val_take_all oM,val_take_all (Nat.le_refl _)] at hv
 refine⟨some (fun j=>[uC (O.getD j default)]),⟨⟨Nat.zero_le _,Nat.zero_lt_one⟩,?_,fun j hj=>nat_get j (by rw[hO];exact hj),nat_clo O⟩,fun A cc _ _=>⟨[],trim_c ⟨A,cc,O⟩ hLm (by show O.length≤_;omega),?_,rfl,rfl,fun g hg=>⟨g,?_,fin_of rfl rfl trivial⟩⟩⟩
 ·show m*1=_
  simp[hO]
 ·show [DV.c (.r A m cc 1 _)]=[DV.c (.r A O.length cc 1 _)]
  rw[hO]
 show g.l=_
 rw[←hv];exact hg
end Go.Proofs.YtandhgfmfpmemaaGreat
namespace Go.Proofs.YtandhgfmfpmemaaGreat
open Go.Vg Go.Vm _root_.Go.Proofs.Tryz
open Go.Vy hiding val
set_option maxHeartbeats 1000000
theorem shrN32 {x s:Nat} (hs:s<32):((x/2^s:Nat):Int)=(x:Int).fdiv (2^(min (s:Int).toNat IntKind.u32.bits)):=by
 rw[Int.toNat_natCast,show min s IntKind.u32.bits=s from Nat.min_eq_left (Nat.le_of_lt hs),Int.fdiv_eq_ediv_of_nonneg _ (Int.le_of_lt (Int.pow_pos dC))]
 simp
theorem shr1 (x:Nat):((x/2:Nat):Int)=(x:Int).fdiv (2^(min (1:Int).toNat IntKind.u32.bits)):=by
 have:=shrN32 (x:=x) (s:=1) dC
 simpa using this
theorem p1:(0:Int)≤1:=by decide
theorem shl1 {s:Nat} (hs:s<32):((2^s:Nat):Int)=IntKind.u32.wrap ((1:Int)*2^(min (s:Int).toNat IntKind.u32.bits)):=by
 rw[Int.toNat_natCast,show min s IntKind.u32.bits=s from Nat.min_eq_left (Nat.le_of_lt hs),Int.one_mul]
 have h:2^s<2^32:=Nat.pow_lt_pow_right dC hs
 rw[show((2:Int)^s)=((2^s:Nat):Int) by simp]
 generalize 2^s=p at*
 rw[wu32 oM]
theorem orN {a b:Nat} (ha:a<4294967296) (hb:b<4294967296):((a|||b:Nat):Int)=IntKind.u32.wrap ((BitVec.ofInt IntKind.u32.bits (a:Int)|||BitVec.ofInt IntKind.u32.bits (b:Int)).toNat:Int):=by
 show _=IntKind.u32.wrap ((BitVec.ofInt 32 (a:Int)|||BitVec.ofInt 32 (b:Int)).toNat:Int)
 rw[BitVec.ofInt_natCast,BitVec.ofInt_natCast,BitVec.toNat_or,BitVec.toNat_ofNat,BitVec.toNat_ofNat,Nat.mod_eq_of_lt oM,Nat.mod_eq_of_lt oM]
 have:=Nat.or_lt_two_pow (n:=32) ha hb
 rw[wu32 oM]
theorem and1 {a:Nat} (ha:a<4294967296):((a%2:Nat):Int)=IntKind.u32.wrap ((BitVec.ofInt IntKind.u32.bits (a:Int)&&&BitVec.ofInt IntKind.u32.bits (1:Int)).toNat:Int):=by
 symm
 show IntKind.u32.wrap ((BitVec.ofInt 32 (a:Int)&&&BitVec.ofInt 32 ((1:Nat):Int)).toNat:Int)=_
 rw[BitVec.ofInt_natCast,BitVec.ofInt_natCast,BitVec.toNat_and,BitVec.toNat_ofNat,BitVec.toNat_ofNat,Nat.mod_eq_of_lt oM,Nat.mod_eq_of_lt oM,Nat.and_one_is_mod,wu32 oM]
theorem quo32 {i:Nat} (h:i≤4611686018427387904):((i/32:Nat):Int)=IntKind.i64.wrap ((i:Int).tdiv 32):=by
 rw[Int.tdiv_eq_ediv_of_nonneg oM,wi64 oM];omega
theorem rem32 (i:Nat):(i:Int).tmod 32=((i%32:Nat):Int):=by
 rw[Int.tmod_eq_emod_of_nonneg oM];omega
theorem quoN {a b:Nat} (h:a<18446744073709551616):((a/b:Nat):Int)=IntKind.u64.wrap ((a:Int).tdiv (b:Int)):=by
 rw[Int.tdiv_eq_ediv_of_nonneg oM,←Int.natCast_ediv]
 have:=Nat.div_le_self a b
 generalize a/b=q at*
 exact(wu64 oM).symm
theorem n32:(32:Int)≠0:=by decide
abbrev fBits:FuncId:=155
theorem eBits:Ent Tryz.prog fBits:=Ent.of func155 rfl kR
theorem bBits:Tryz.prog.funcs[fBits]? =some Tryz.f155:=func155
theorem bits_c (x:Sl Nat) (hx:Lm x.l) (hn:x.l.length≤1099511627776):Ctr Tryz.prog fBits [] [.c (natS x)] [] (fun t:Nat=>⟨.c (iC t),[],val x.l<2^t∧t≤32*x.l.length⟩):=by
 refine ctr_of gT eBits bBits rfl rfl rfl bL ClB.nil (VC_ok gT mxd ⟨[],trim_c x hx oM,rfl,rfl,rfl,fun X hX=>?_⟩)
 replace hX:X.l=digs (val x.l):=hX
 obtain⟨lX,vX⟩:=dg hX
 have hXn:X.l.length≤x.l.length:=by rw[hX];exact len_le_of hx
 refine⟨fun h=>VC_ok gT mxd ⟨0,⟨?_,Nat.zero_le _⟩,fin_of rfl rfl trivial⟩,fun h=>VC_ok gT mxd ?_⟩
 ·have h0:val x.l=0:=len_zero.1 (by unfold len;rw[←hX];omega)
  rw[h0];decide
 have h0:0<X.l.length:=by omega
 have htop:=lX.at (k:=X.l.length-1) oM
 refine⟨(X.l.length:Int)-1,wi,(32*(X.l.length-1):Nat),wi,(X.l.length:Int)-1,wi,X.l.length-1,⟨oM,oM⟩,?_⟩
 refine vloop (rn [(3,4),(20,25)]) (fun s:Nat=>[(3,.c (iC (32*(X.l.length-1)+s:Nat))),(4,.c (uC (X.l.getD (X.l.length-1) default/2^s)))]) (fun _=>[]) (·≤32) (32-·) 0 ?_
 refine⟨⟨Nat.zero_le _,rfl,rfl,?_⟩,fun s hs=>VC_ok gT mxd ⟨fun h1=>VC_ok gT mxd ?_,fun h1=>VC_ok gT mxd (VC_ok gT mxd ?_)⟩⟩
 ·show(_:Int)=(_:Int)
  rw[Nat.pow_zero,Nat.div_one]
 ·have hs32:s<32:=by
   rcases Nat.lt_or_ge s 32 with h|h
   ·exact h
   exfalso
   rw[show s=32 by omega,Nat.div_eq_of_lt (show X.l.getD (X.l.length-1) default<2^32 from htop)] at h1
   exact absurd h1 dC
  refine⟨(32*(X.l.length-1)+(s+1):Nat),wi,p1,_,shr1 _,s+1,⟨hs32,by omega⟩,rfl,rfl,rfl,?_⟩
  show(_:Int)=(_:Int)
  rw[Nat.pow_succ,←Nat.div_div_eq_div_mul]
 have hz:X.l.getD (X.l.length-1) default/2^s=0:=by
  rcases Nat.eq_zero_or_pos (X.l.getD (X.l.length-1) default/2^s) with h|h
  ·exact h
  exact absurd (Int.natCast_pos.2 h) h1
 have hb:=bits_law lX h0 hz
 rw[vX] at hb
 exact⟨_,⟨hb,by omega⟩,fin_of rfl rfl trivial⟩
abbrev fbit:FuncId:=157
theorem ebit:Ent Tryz.prog fbit:=Ent.of func157 rfl kR
theorem bbit:Tryz.prog.funcs[fbit]? =some Tryz.f157:=func157
theorem bit_c (x:Sl Nat) (hx:Lm x.l) {i:Nat} {z:Int} (hz:z=i) (hi:i≤70368744177664):Ctr Tryz.prog fbit [] [.c (natS x),.c (iC z)] [] (fun _:Unit=>⟨.c (uC (val x.l/2^i%2)),[],True⟩):=by
 subst hz
 refine ctr_of gT ebit bbit rfl rfl rfl bL ClB.nil (VC_ok gT mxd ⟨n32,_,quo32 oM,⟨fun h=>VC_ok gT mxd ?_,fun h=>VC_ok gT mxd ?_⟩⟩)
 ·refine⟨(),trivial,fin_of ?_ rfl trivial⟩
  show(0:Int)=(_:Int)
  rw[←bit_law hx,dig_f oM,Nat.zero_div];rfl
 have hxi:=hx.at (k:=i/32) oM
 refine⟨n32,_,quo32 oM,i/32,⟨rfl,oM⟩,n32,((i%32:Nat):Int),wu (h:=⟨(rem32 i).symm,by rw[rem32];omega,by rw[rem32];omega⟩),show(0:Int)≤((i%32:Nat):Int) by omega,_,shrN32 oM,_,and1 (Nat.lt_of_le_of_lt (Nat.div_le_self _ _) hxi),(),trivial,fin_of ?_ rfl trivial⟩
 show(_:Int)=(_:Int)
 rw[←bit_law hx,dig_t oM]
abbrev fDivMod:FuncId:=149
theorem eDivMod:Ent Tryz.prog fDivMod:=Ent.of func149 rfl kR
theorem bDivMod:Tryz.prog.funcs[fDivMod]? =some Tryz.f149:=func149
theorem divmod_c (x y:Sl Nat) (hx:Lm x.l) (hy:Lm y.l) (hn:x.l.length≤549755813888) (hm:y.l.length≤549755813888):Ctr Tryz.prog fDivMod [] [.c (natS x),.c (natS y)] [] (fun g:Sl Nat×Sl Nat=>⟨.t [.c (natS g.1),.c (natS g.2),pC (val y.l≠0)],[],g.1.l=digs (val x.l/val y.l)∧g.2.l=digs (modZ (val x.l) (val y.l))⟩):=by
 refine ctr_of gT eDivMod bDivMod rfl rfl rfl bL ClB.nil (VC_ok gT mxd ⟨[],trim_c y hy oM,rfl,rfl,rfl,fun Y hY=>?_⟩)
 replace hY:Y.l=digs (val y.l):=hY
 obtain⟨lY,vY⟩:=dg hY
 have hYn:Y.l.length≤y.l.length:=by rw[hY];exact len_le_of hy
 refine⟨fun h=>VC_ok gT mxd ?_,fun h=>VC_ok gT mxd ?_⟩
 ·have hy0:val y.l=0:=len_zero.1 (by unfold len;rw[←hY];omega)
  refine⟨(nilS,nilS),⟨?_,?_⟩,fin_of ⟨⟨rfl,rfl,rfl⟩,⟨rfl,rfl,rfl⟩,ff (fun h=>h hy0)⟩ rfl trivial⟩
  ·show []=digs _
   rw[hy0,Nat.div_zero];rfl
  show []=digs _
  rw[hy0];rfl
 have hy0:val y.l≠0:=fun h0=>by have:=len_zero.2 h0;unfold len at this;rw[←hY] at this;omega
 have hmz:modZ (val x.l) (val y.l)=val x.l%val y.l:=if_neg hy0
 refine⟨[],uint_c x hx oM,rfl,rfl,rfl,fun _ _=>⟨[],uint_c Y lY oM,rfl,rfl,rfl,fun _ _=>⟨fun h64=>VC_ok gT mxd ?_,fun h64=>VC_ok gT mxd ?_⟩⟩⟩
 ·have hd:=Nat.div_le_self (val x.l) (val y.l)
  have hd2:=Nat.mod_le (val x.l) (val y.l)
  have e1:(if val x.l<18446744073709551616 then val x.l else 0)=val x.l:=if_pos h64.1
  have e2:(if val Y.l<18446744073709551616 then val Y.l else 0)=val y.l:=by rw[if_pos h64.2,vY]
  rw[e1,e2]
  have hnz:((val y.l:Nat):Int)≠0:=by omega
  refine⟨.seq [(0,false),(1,false),(2,false),(4,false),(5,false),(6,false),(3,false),(7,false),(8,false),(9,false),(10,false)],by kernel_rfl,hnz,_,quoN h64.1,hnz,[],from_c oM,rfl,rfl,rfl,fun g1 h1=>⟨[],from_c (n:=val x.l%val y.l) oM,rfl,rfl,rfl,fun g2 h2=>⟨(g1,g2),⟨h1,by rw[hmz];exact h2⟩,fin_of ⟨rfl,rfl,tt hy0⟩ rfl trivial⟩⟩⟩
 refine⟨x.l.length,⟨rfl,rfl,show 4*x.l.length≤_ by omega,by simp only[maxLen];omega⟩,[],bits_c x hx oM,rfl,rfl,rfl,fun t ⟨ht,htl⟩=>⟨(t:Int)-1,wi,?_⟩⟩
 refine vloopD (rn [(5,5),(11,13),(47,79)]) 1 (fun g:Nat×Nat×Nat×List Nat×Sl Nat=>[(11,.c (iC ((g.1:Int)-1))),(5,.c (natS g.2.2.2.2))]) (fun g=>[(160,1,g.2.2.2.1.map uC)]) (fun g=>g.1≤t∧val x.l/2^g.1=g.2.1*val y.l+g.2.2.1∧g.2.2.1<val y.l∧g.2.2.2.1.length=x.l.length∧Lm g.2.2.2.1∧val g.2.2.2.1=g.2.1*2^g.1∧g.2.2.2.2.l=digs g.2.2.1) (fun g=>g.1) (t,0,0,List.replicate x.l.length 0,nilS) (fun _=>rfl) bL (fun _=>scB.cons (List.all_eq_true.2 fun c hc=>clo_sc (nat_clo _ c hc)) scB.nil) (fun _=>rfl) ?_
 refine⟨⟨rfl,⟨Nat.le_refl _,?_,?_,by simp,Lm.zeros _,?_,rfl⟩,?_,rfl,rfl,rfl,rfl⟩,fun⟨j,Qn,r,O,R⟩ ⟨hj,hdiv,hr,hOl,hOm,hOv,hR⟩=>VC_ok gT mxd ⟨fun h1=>VC_ok gT mxd ?_,fun h1=>VC_ok gT mxd (VC_ok gT mxd ?_)⟩⟩
 ·show val x.l/2^t=_
  rw[Nat.div_eq_of_lt ht];simp
 ·show 0<val y.l
  omega
 ·show val (List.replicate _ 0)=0*_
  rw[val_zeros,Nat.zero_mul]
 ·show(_,_,_)=(_,_,_)
  exact congrArg (fun l=>(160,1,l)) (nat_rep _)
 ·simp only at hj hdiv hr hOl hOm hOv hR h1
  obtain⟨i,rfl⟩:∃i,j=i+1:=⟨j-1,by omega⟩
  obtain⟨lR,vR⟩:=dg hR
  have hz:((i+1:Nat):Int)-1=i:=by omega
  have hlr:R.l.length≤Y.l.length:=by rw[hR,hY];exact len_mono oM
  have hb1:val x.l/2^i%2<2:=Nat.mod_lt _ dC
  have hlr2:=len_add r r
  simp only[←len_digs] at hlr2
  rw[←hR] at hlr2
  have hnx:=div_next (i:=i) hdiv
  refine⟨[],add_c R R lR lR oM oM,rfl,rfl,rfl,fun R2 hR2=>⟨[],bit_c x hx hz oM,rfl,rfl,rfl,fun _ _=>?_⟩⟩
  replace hR2:R2.l=digs (val R.l+val R.l):=hR2
  rw[vR] at hR2
  obtain⟨lR2,vR2⟩:=dg hR2
  rw[←hR2] at hlr2
  refine vjnD (rn [(5,5),(11,13),(47,79)]) 1 (fun R3:Sl Nat=>[(11,.c (iC (((i+1:Nat):Int)-1))),(5,.c (natS R3))]) (fun _=>[(160,1,O.map uC)]) (fun R3=>R3.l=digs (r+r+val x.l/2^i%2)) (fun _=>rfl) bL (fun _=>scB.cons (List.all_eq_true.2 fun c hc=>clo_sc (nat_clo _ c hc)) scB.nil) (fun _=>rfl) ?_
  refine⟨rfl,⟨fun h2=>VC_ok gT mxd ⟨some (fun j=>[uC ([1].getD j default)]),⟨⟨Nat.zero_le _,Nat.zero_lt_one⟩,rfl,fun j hj=>nat_get (x:=[1]) j hj,nat_clo [1]⟩,fun A c _ _=>⟨nat_men O,[],add_c R2 ⟨A,c,[1]⟩ lR2 (fun z hz=>by rw[List.mem_singleton.1 hz];decide) oM (by show 1≤_;omega),rfl,rfl,rfl,fun R3 hR3=>⟨R3,?_,rfl,rfl,rfl,rfl⟩⟩⟩,fun h2=>VC_ok gT mxd ⟨R2,?_,rfl,rfl,rfl,rfl⟩⟩,fun R3 hR3=>?_⟩
  ·replace hR3:R3.l=digs (val R2.l+val [1]):=hR3
   rw[hR3,vR2]
   congr 1
   show r+r+1=_
   omega
  ·rw[hR2]
   congr 1
   omega
  obtain⟨lR3,vR3⟩:=dg hR3
  have hlr3:R3.l.length≤Y.l.length+1:=by
   have h1:=len_mono (m:=r+r+val x.l/2^i%2) (n:=val y.l+val y.l) oM
   have h2:=len_add (val y.l) (val y.l)
   simp only[←len_digs] at h1 h2
   rw[←hY] at h2
   rw[hR3]
   omega
  refine⟨[],sub_c R3 Y lR3 lY oM oM,rfl,rfl,rfl,fun D hD=>⟨fun h3=>VC_ok gT mxd ?_,fun h3=>VC_ok gT mxd ?_⟩⟩
  ·replace hD:D.l=digs (val R3.l-val Y.l):=hD
   have hsb:=setbit (i:=i) hOm oM (by rw[hOv];exact Nat.mul_mod_left _ _)
   have hi32:i/32<O.length:=by omega
   refine⟨n32,((i/32:Nat):Int),(show((i/32:Nat):Int)=IntKind.i64.wrap ((((i+1:Nat):Int)-1).tdiv 32) by rw[hz];exact quo32 oM),i/32,⟨rfl,by omega,show i/32*1<(O.map uC).length by rw[List.length_map];omega⟩,_,nat_own hi32,n32,((i%32:Nat):Int),wu (h:=⟨by rw[hz,rem32],by rw[hz,rem32];omega,by rw[hz,rem32];omega⟩),show(0:Int)≤((i%32:Nat):Int) by omega,_,shl1 oM,_,orN (hOm.at hi32) (show 2^(i%32)<2^32 from Nat.pow_lt_pow_right dC oM),i/32,⟨rfl,by omega,show i/32*1<(O.map uC).length by rw[List.length_map];omega⟩,_,⟨nat_spl hi32,show i/32*1+1≤(O.map uC).length by rw[List.length_map];omega⟩,(i:Int)-1,wi,(i,2*Qn+1,r+r+val x.l/2^i%2-val y.l,O.set (i/32) (O.getD (i/32) default+2^(i%32)),D),⟨⟨show i≤t by omega,?_,show r+r+val x.l/2^i%2-val y.l<val y.l by omega,?_,hOm.set hsb.2.1,?_,?_⟩,Nat.lt_succ_self i⟩,rfl,?_,rfl,rfl⟩
   ·show val x.l/2^i=(2*Qn+1)*val y.l+(r+r+val x.l/2^i%2-val y.l)
    rw[hnx,Nat.add_mul,Nat.one_mul];omega
   ·simp[hOl]
   ·show val (O.set _ _)=(2*Qn+1)*2^i
    rw[hsb.2.2,hOv,dm_shift,Nat.add_mul,Nat.one_mul]
   ·show D.l=digs _
    rw[hD,vR3,vY]
   show(_,_,_)=(_,_,_)
   rw[hsb.1]
  refine⟨(i:Int)-1,wi,(i,2*Qn,r+r+val x.l/2^i%2,O,R3),⟨⟨show i≤t by omega,hnx,show r+r+val x.l/2^i%2<val y.l by omega,hOl,hOm,?_,hR3⟩,Nat.lt_succ_self i⟩,rfl,rfl,rfl,rfl⟩
  show val O=2*Qn*2^i
  rw[hOv,dm_shift]
 simp only at hj hdiv hr hOl hOm hOv hR h1
 obtain rfl:j=0:=by omega
 rw[Nat.pow_zero,Nat.div_one] at hdiv
 rw[Nat.pow_zero,Nat.mul_one] at hOv
 obtain⟨f1,f2⟩:=div_fin hdiv hr
 obtain⟨lR,vR⟩:=dg hR
 have hlr:R.l.length≤Y.l.length:=by rw[hR,hY];exact len_mono oM
 refine⟨some (fun j=>[uC (O.getD j default)]),⟨⟨Nat.zero_le _,Nat.zero_lt_one⟩,?_,fun j hj=>nat_get j (by rw[hOl];exact hj),nat_clo O⟩,fun A cc _ _=>⟨[],trim_c ⟨A,cc,O⟩ hOm (by show O.length≤_;omega),?_,rfl,rfl,fun g hg=>⟨[],trim_c R lR oM,rfl,rfl,rfl,fun g2 hg2=>⟨(g,g2),⟨?_,?_⟩,fin_of ⟨rfl,rfl,tt hy0⟩ rfl trivial⟩⟩⟩⟩
 ·show x.l.length*1=_
  simp[hOl]
 ·show [DV.c (.r A x.l.length cc 1 _)]=[DV.c (.r A O.length cc 1 _)]
  rw[hOl]
 ·show g.l=_
  rw[←f1,←hOv];exact hg
 show g2.l=_
 rw[hmz,←f2,←vR];exact hg2
abbrev fGCD:FuncId:=148
theorem eGCD:Ent Tryz.prog fGCD:=Ent.of func148 rfl kR
theorem bGCD:Tryz.prog.funcs[fGCD]? =some Tryz.f148:=func148
theorem gcd_c (x y:Sl Nat) (hx:Lm x.l) (hy:Lm y.l) (hn:x.l.length≤549755813888) (hm:y.l.length≤549755813888):Ctr Tryz.prog fGCD [] [.c (natS x),.c (natS y)] [] (NatR (Nat.gcd (val x.l) (val y.l))):=by
 refine ctr_of gT eGCD bGCD rfl rfl rfl bL ClB.nil (VC_ok gT mxd ⟨[],trim_c x hx oM,rfl,rfl,rfl,fun X hX=>⟨[],trim_c y hy oM,rfl,rfl,rfl,fun Y hY=>?_⟩⟩)
 have hXn:(digs (val x.l)).length≤x.l.length:=len_le_of hx
 have hYn:(digs (val y.l)).length≤y.l.length:=len_le_of hy
 refine vloop (rn [(0,1),(5,7),(12,23)]) (fun g:Nat×Nat×Sl Nat×Sl Nat=>[(0,.c (natS g.2.2.1)),(1,.c (natS g.2.2.2))]) (fun _=>[]) (fun g=>g.2.2.1.l=digs g.1∧g.2.2.2.l=digs g.2.1∧Nat.gcd g.1 g.2.1=Nat.gcd (val x.l) (val y.l)∧(digs g.1).length≤549755813888∧(digs g.2.1).length≤549755813888) (fun g=>g.2.1) (val x.l,val y.l,X,Y) ?_
 refine⟨⟨⟨hX,hY,rfl,Nat.le_trans hXn hn,Nat.le_trans hYn hm⟩,rfl,rfl,rfl⟩,fun⟨a,b,A,B⟩ ⟨hA,hB,hg,hla,hlb⟩=>VC_ok gT mxd ⟨fun h1=>VC_ok gT mxd ?_,fun h1=>VC_ok gT mxd (VC_ok gT mxd ?_)⟩⟩
 ·simp only at hA hB hg hla hlb h1
  obtain⟨lA,vA⟩:=dg hA
  obtain⟨lB,vB⟩:=dg hB
  have hb0:b≠0:=fun h0=>by rw[h0] at hB;rw[hB] at h1;exact absurd h1 dC
  refine⟨[],divmod_c A B lA lB (by rw[hA];omega) (by rw[hB];omega),rfl,rfl,rfl,fun⟨Q,R⟩ ⟨_,hR⟩=>⟨(b,a%b,B,R),⟨⟨hB,?_,?_,hlb,?_⟩,Nat.mod_lt _ oM⟩,rfl,rfl,rfl,rfl⟩⟩
  ·show R.l=_
   replace hR:R.l=digs (modZ (val A.l) (val B.l)):=hR
   rw[hR,vA,vB,modZ,if_neg hb0]
  ·show Nat.gcd b (a%b)=_
   rw[←hg,Nat.gcd_comm a b,Nat.gcd_rec b a,Nat.gcd_comm]
  have:=len_mono (Nat.le_of_lt (Nat.mod_lt a (show 0<b by omega)))
  simp only[←len_digs] at this
  exact Nat.le_trans this hlb
 simp only at hA hB hg hla hlb h1
 have hb0:b=0:=len_zero.1 (by unfold len;rw[←hB];omega)
 refine⟨A,?_,fin_of rfl rfl trivial⟩
 show A.l=_
 rw[hA,←hg,hb0,Nat.gcd_zero_right]
end Go.Proofs.YtandhgfmfpmemaaGreat
namespace Go.Proofs.YtandhgfmfpmemaaGreat
open Go.Vg Go.Vm _root_.Go.Proofs.Tryz
open Go.Vy hiding val
set_option maxHeartbeats 1000000
structure IntM where
 p:Prop
 d:Decidable p
 m:Sl Nat
def IntM.C (i:IntM):List CV:=[.b i.p i.d,natS i.m]
open Classical in
noncomputable def sg (p:Prop) (n:Nat):Int:=if p then-(n:Int) else n
structure In (i:IntM) (v:Int) (B:Nat):Prop where
 lm:Lm i.m.l
 ln:i.m.l.length≤B
 v:sg i.p (val i.m.l)=v
def Ci (i:IntM) (v:Int):Prop:=(i.p↔v<0)∧i.m.l=digs v.natAbs
abbrev IntR (v:Int):IntM→Out:=fun g=>⟨.a g.C,[],Ci g v⟩
theorem sg_t {p:Prop} {n:Nat} (h:p):sg p n=-(n:Int):=if_pos h
theorem sg_f {p:Prop} {n:Nat} (h:¬p):sg p n=n:=if_neg h
theorem sg_abs {p:Prop} {n:Nat}:(sg p n).natAbs=n:=by
 by_cases h:p
 ·rw[sg_t h];omega
 rw[sg_f h];omega
theorem sg_neg {p:Prop} {n:Nat}:sg p n<0↔p∧0<n:=by
 by_cases h:p
 ·rw[sg_t h];exact⟨fun _=>⟨h,by omega⟩,fun h=>by omega⟩
 rw[sg_f h];exact⟨fun h=>by omega,fun h2=>absurd h2.1 h⟩
theorem Ci.in {i:IntM} {v:Int} {B:Nat} (h:Ci i v) (hb:len v.natAbs≤B):In i v B:=by
 obtain⟨lX,vX⟩:=dg h.2
 refine⟨lX,by rw[h.2];exact hb,?_⟩
 rw[vX]
 by_cases hp:i.p
 ·rw[sg_t hp];have:=h.1.1 hp;omega
 rw[sg_f hp];have:¬v<0:=fun hv=>hp (h.1.2 hv);omega
theorem In.abs {i:IntM} {v:Int} {B:Nat} (h:In i v B):val i.m.l=v.natAbs:=by rw[←h.v,sg_abs]
theorem In.len {i:IntM} {v:Int} {B:Nat} (h:In i v B):len v.natAbs≤B:=by rw[←h.abs];exact Nat.le_trans (len_le_of h.lm) h.ln
theorem In.le {i:IntM} {v:Int} {B B':Nat} (h:In i v B) (hb:B≤B':=by omega):In i v B':=⟨h.lm,Nat.le_trans h.ln hb,h.v⟩
theorem len_pos {n:Nat}:0<len n↔0<n:=by have:=len_zero (n:=n);omega
abbrev fIMake:FuncId:=140
theorem eIMake:Ent Tryz.prog fIMake:=Ent.of func140 rfl kR
theorem bIMake:Tryz.prog.funcs[fIMake]? =some Tryz.f140:=func140
theorem imake_c (p:Prop) {hp:Decidable p} (m:Sl Nat) (hm:Lm m.l) (hn:m.l.length≤17592186044416):Ctr Tryz.prog fIMake [] [.c (.b p hp),.c (natS m)] [] (IntR (sg p (val m.l))):=by
 refine ctr_of gT eIMake bIMake rfl rfl rfl bL ClB.nil (VC_ok gT mxd ⟨[],trim_c m hm hn,rfl,rfl,rfl,fun X hX=>?_⟩)
 replace hX:X.l=digs (val m.l):=hX
 refine⟨⟨p∧(0:Int)<(X.l.length:Nat),inferInstance,X⟩,⟨?_,?_⟩,fin_of rfl rfl trivial⟩
 ·show(p∧(0:Int)<(X.l.length:Nat))↔_
  rw[sg_neg,hX,len_digs]
  have:=len_pos (n:=val m.l)
  constructor
  ·rintro⟨h1,h2⟩;exact⟨h1,this.1 oM⟩
  rintro⟨h1,h2⟩;exact⟨h1,by have:=this.2 h2;omega⟩
 show X.l=_
 rw[sg_abs];exact hX
abbrev fINorm:FuncId:=135
theorem eINorm:Ent Tryz.prog fINorm:=Ent.of func135 rfl kR
theorem bINorm:Tryz.prog.funcs[fINorm]? =some Tryz.f135:=func135
theorem inorm_c (i:IntM) {v:Int} (h:In i v 17592186044416):Ctr Tryz.prog fINorm [] [.a i.C] [] (IntR v):=by
 refine ctr_of gT eINorm bINorm rfl rfl rfl bL ClB.nil (VC_ok gT mxd ⟨[],imake_c i.p i.m h.lm h.ln,rfl,rfl,rfl,fun g hg=>⟨g,?_,fin_of rfl rfl trivial⟩⟩)
 rw[←h.v];exact hg
abbrev fINeg:FuncId:=139
theorem eINeg:Ent Tryz.prog fINeg:=Ent.of func139 rfl kR
theorem bINeg:Tryz.prog.funcs[fINeg]? =some Tryz.f139:=func139
theorem ineg_c (i:IntM) {v:Int} (h:In i v 17592186044416):Ctr Tryz.prog fINeg [] [.a i.C] [] (IntR (-v)):=by
 refine ctr_of gT eINeg bINeg rfl rfl rfl bL ClB.nil (VC_ok gT mxd ⟨[],imake_c (¬i.p) i.m h.lm h.ln,rfl,rfl,rfl,fun g hg=>⟨g,?_,fin_of rfl rfl trivial⟩⟩)
 have e:sg (¬i.p) (val i.m.l)=-v:=by
  rw[←h.v]
  by_cases hp:i.p
  ·rw[sg_t hp,sg_f (fun h=>h hp)];omega
  rw[sg_f hp,sg_t hp]
 rw[←e];exact hg
abbrev fIAbs:FuncId:=151
theorem eIAbs:Ent Tryz.prog fIAbs:=Ent.of func151 rfl kR
theorem bIAbs:Tryz.prog.funcs[fIAbs]? =some Tryz.f151:=func151
theorem iabs_c (i:IntM) {v:Int} (h:In i v 17592186044416):Ctr Tryz.prog fIAbs [] [.a i.C] [] (IntR v.natAbs):=by
 refine ctr_of gT eIAbs bIAbs rfl rfl rfl bL ClB.nil (VC_ok gT mxd ⟨[],imake_c (false=true) i.m h.lm h.ln,rfl,rfl,rfl,fun g hg=>⟨g,?_,fin_of rfl rfl trivial⟩⟩)
 rw[←h.abs,←sg_f (p:=false=true) dC];exact hg
end Go.Proofs.YtandhgfmfpmemaaGreat
namespace Go.Proofs.YtandhgfmfpmemaaGreat
open Go.Vg Go.Vm _root_.Go.Proofs.Tryz
open Go.Vy hiding val
set_option maxHeartbeats 1000000
theorem sg_add {p q:Prop} {m n:Nat} (h:p↔q):sg p m+sg q n=sg p (m+n):=by
 by_cases hp:p
 ·rw[sg_t hp,sg_t (h.1 hp),sg_t hp];omega
 rw[sg_f hp,sg_f (fun hq=>hp (h.2 hq)),sg_f hp];omega
theorem sg_sub {p q:Prop} {m n:Nat} (h:¬(p↔q)) (hmn:n≤m):sg p m+sg q n=sg p (m-n):=by
 by_cases hp:p
 ·rw[sg_t hp,sg_f (fun hq=>h ⟨fun _=>hq,fun _=>hp⟩),sg_t hp];omega
 have hq:q:=Classical.byContradiction fun hq=>h ⟨fun h=>absurd h hp,fun h=>absurd h hq⟩
 rw[sg_f hp,sg_t hq,sg_f hp];omega
theorem sg_mul {p q:Prop} {m n:Nat}:sg p m*sg q n=sg (¬(p↔q)) (m*n):=by
 by_cases hp:p<;>by_cases hq:q
 ·rw[sg_t hp,sg_t hq,sg_f (fun h=>h ⟨fun _=>hq,fun _=>hp⟩),Int.neg_mul_neg,Int.natCast_mul]
 ·rw[sg_t hp,sg_f hq,sg_t (fun h=>hq (h.1 hp)),Int.neg_mul,Int.natCast_mul]
 ·rw[sg_f hp,sg_t hq,sg_t (fun h=>hp (h.2 hq)),Int.mul_neg,Int.natCast_mul]
 rw[sg_f hp,sg_f hq,sg_f (fun h=>h ⟨fun h=>absurd h hp,fun h=>absurd h hq⟩),Int.natCast_mul]
theorem dgl {X:Sl Nat} {n B:Nat} (h:X.l=digs n) (hb:len n≤B):X.l.length≤B:=by rw[h];exact hb
theorem len_sub (m n:Nat):len (m-n)≤len m:=len_mono (Nat.sub_le m n)
abbrev fIFrom:FuncId:=117
theorem eIFrom:Ent Tryz.prog fIFrom:=Ent.of func117 rfl kR
theorem bIFrom:Tryz.prog.funcs[fIFrom]? =some Tryz.f117:=func117
theorem ifrom_c {z:Int} (hz:-9223372036854775808≤z∧z≤9223372036854775807):Ctr Tryz.prog fIFrom [] [.c (iC z)] [] (IntR z):=by
 refine ctr_of gT eIFrom bIFrom rfl rfl rfl bL ClB.nil (VC_ok gT mxd ⟨fun h=>VC_ok gT mxd ?_,fun h=>VC_ok gT mxd ?_⟩)
 ·have hl:=len_u64 (n:=z.natAbs)
  refine⟨z+1,wi,0-(z+1),wi,((-(z+1)).toNat:Nat),wu,(z.natAbs:Nat),wu,[],from_c (n:=z.natAbs) oM,rfl,rfl,rfl,fun g hg=>?_⟩
  replace hg:g.l=digs z.natAbs:=hg
  obtain⟨lg,vg⟩:=dg hg
  refine⟨[],imake_c (true=true) g lg (dgl hg oM),rfl,rfl,rfl,fun i hi=>⟨i,?_,fin_of rfl rfl trivial⟩⟩
  have e:sg (true=true) (val g.l)=z:=by rw[sg_t rfl,vg];omega
  rw[←e];exact hi
 have hl:=len_u64 (n:=z.natAbs)
 refine⟨(z.natAbs:Nat),wu,[],from_c (n:=z.natAbs) oM,rfl,rfl,rfl,fun g hg=>?_⟩
 replace hg:g.l=digs z.natAbs:=hg
 obtain⟨lg,vg⟩:=dg hg
 refine⟨[],imake_c (false=true) g lg (dgl hg oM),rfl,rfl,rfl,fun i hi=>⟨i,?_,fin_of rfl rfl trivial⟩⟩
 have e:sg (false=true) (val g.l)=z:=by rw[sg_f dC,vg];omega
 rw[←e];exact hi
def sgn (z:Int):Int:=if z<0 then-1 else if z=0 then 0 else 1
abbrev fISign:FuncId:=134
theorem eISign:Ent Tryz.prog fISign:=Ent.of func134 rfl kR
theorem bISign:Tryz.prog.funcs[fISign]? =some Tryz.f134:=func134
theorem isign_c (i:IntM) {v:Int} (h:In i v 17592186044416):Ctr Tryz.prog fISign [] [.a i.C] [] (fun _:Unit=>⟨.c (iC (sgn v)),[],True⟩):=by
 refine ctr_of gT eISign bISign rfl rfl rfl bL ClB.nil (VC_ok gT mxd ⟨[],inorm_c i h,rfl,rfl,rfl,fun g hg=>⟨fun h1=>VC_ok gT mxd ?_,fun h1=>VC_ok gT mxd ⟨fun h2=>VC_ok gT mxd ?_,fun h2=>VC_ok gT mxd ?_⟩⟩⟩)
 all_goals replace hg:Ci g v:=hg
 ·exact⟨(),trivial,fin_of (show(-1:Int)=_ by unfold sgn;rw[if_pos (hg.1.1 h1)]) rfl trivial⟩
 all_goals
  have h3:¬v<0:=fun h=>h1 (hg.1.2 h)
  have h4:=len_zero (n:=v.natAbs)
  rw[hg.2,len_digs] at h2
 ·exact⟨(),trivial,fin_of (show(0:Int)=_ by unfold sgn;rw[if_neg h3,if_pos oM]) rfl trivial⟩
 exact⟨(),trivial,fin_of (show(1:Int)=_ by unfold sgn;rw[if_neg h3,if_neg oM]) rfl trivial⟩
abbrev fIAdd:FuncId:=150
theorem eIAdd:Ent Tryz.prog fIAdd:=Ent.of func150 rfl kR
theorem bIAdd:Tryz.prog.funcs[fIAdd]? =some Tryz.f150:=func150
theorem iadd_c (i j:IntM) {a b:Int} (hi:In i a 1099511627776) (hj:In j b 1099511627776):Ctr Tryz.prog fIAdd [] [.a i.C,.a j.C] [] (IntR (a+b)):=by
 have hli:=hi.ln
 have hlj:=hj.ln
 have hla:len (val i.m.l)≤1099511627776:=by rw[hi.abs];exact hi.len
 have hlb:len (val j.m.l)≤1099511627776:=by rw[hj.abs];exact hj.len
 refine ctr_of gT eIAdd bIAdd rfl rfl rfl bL ClB.nil (VC_ok gT mxd ⟨fun h=>VC_ok gT mxd ?_,fun h=>VC_ok gT mxd ?_⟩)
 ·refine⟨.seq [(0,false),(1,false),(2,false),(3,false),(4,false),(5,false),(6,false),(7,false),(8,true)],by kernel_rfl,[],add_c i.m j.m hi.lm hj.lm hli hlj,rfl,rfl,rfl,fun g hg=>?_⟩
  replace hg:g.l=digs (val i.m.l+val j.m.l):=hg
  obtain⟨lg,vg⟩:=dg hg
  have:=len_add (val i.m.l) (val j.m.l)
  refine⟨[],imake_c i.p g lg (dgl hg oM),rfl,rfl,rfl,fun r hr=>⟨r,?_,fin_of rfl rfl trivial⟩⟩
  rw[←hi.v,←hj.v,sg_add h,←vg];exact hr
 refine⟨[],sub_c i.m j.m hi.lm hj.lm hli hlj,rfl,rfl,rfl,fun g hg=>⟨fun h1=>VC_ok gT mxd ?_,fun h1=>VC_ok gT mxd ?_⟩⟩
 ·replace hg:g.l=digs (val i.m.l-val j.m.l):=hg
  obtain⟨lg,vg⟩:=dg hg
  have:=len_sub (val i.m.l) (val j.m.l)
  refine⟨[],imake_c i.p g lg (dgl hg oM),rfl,rfl,rfl,fun r hr=>⟨r,?_,fin_of rfl rfl trivial⟩⟩
  rw[←hi.v,←hj.v,sg_sub h h1,←vg];exact hr
 refine⟨[],sub_c j.m i.m hj.lm hi.lm hlj hli,rfl,rfl,rfl,fun g hg=>?_⟩
 replace hg:g.l=digs (val j.m.l-val i.m.l):=hg
 obtain⟨lg,vg⟩:=dg hg
 have:=len_sub (val j.m.l) (val i.m.l)
 refine⟨[],imake_c j.p g lg (dgl hg oM),rfl,rfl,rfl,fun r hr=>⟨r,?_,fin_of rfl rfl trivial⟩⟩
 rw[←hi.v,←hj.v,Int.add_comm,sg_sub (fun h'=>h h'.symm) oM,←vg];exact hr
abbrev fISub:FuncId:=152
theorem eISub:Ent Tryz.prog fISub:=Ent.of func152 rfl kR
theorem bISub:Tryz.prog.funcs[fISub]? =some Tryz.f152:=func152
theorem isub_c (i j:IntM) {a b:Int} (hi:In i a 1099511627776) (hj:In j b 1099511627776):Ctr Tryz.prog fISub [] [.a i.C,.a j.C] [] (IntR (a-b)):=by
 refine ctr_of gT eISub bISub rfl rfl rfl bL ClB.nil (VC_ok gT mxd ⟨.seq [(0,false),(1,false),(2,false),(3,false),(4,true)],by kernel_rfl,[],ineg_c j hj.le,rfl,rfl,rfl,fun g hg=>?_⟩)
 replace hg:Ci g (-b):=hg
 have hlb:=hj.len
 refine⟨[],iadd_c i g hi (hg.in (by rw[Int.natAbs_neg];exact hlb)),rfl,rfl,rfl,fun r hr=>⟨r,?_,fin_of rfl rfl trivial⟩⟩
 rw[Int.sub_eq_add_neg];exact hr
abbrev fIMul:FuncId:=131
theorem eIMul:Ent Tryz.prog fIMul:=Ent.of func131 rfl kR
theorem bIMul:Tryz.prog.funcs[fIMul]? =some Tryz.f131:=func131
theorem imul_c (i j:IntM) {a b:Int} (hi:In i a 1099511627776) (hj:In j b 1099511627776):Ctr Tryz.prog fIMul [] [.a i.C,.a j.C] [] (IntR (a*b)):=by
 have hli:=hi.ln
 have hlj:=hj.ln
 have hla:len (val i.m.l)≤1099511627776:=by rw[hi.abs];exact hi.len
 have hlb:len (val j.m.l)≤1099511627776:=by rw[hj.abs];exact hj.len
 refine ctr_of gT eIMul bIMul rfl rfl rfl bL ClB.nil (VC_ok gT mxd ⟨.seq [(0,false),(1,false),(2,false),(3,false),(4,false),(5,false),(6,false),(7,false),(8,false),(9,false),(10,false),(11,true)],by kernel_rfl,[],mul_c i.m j.m hi.lm hj.lm hli hlj,rfl,rfl,rfl,fun g hg=>?_⟩)
 replace hg:g.l=digs (val i.m.l*val j.m.l):=hg
 obtain⟨lg,vg⟩:=dg hg
 have:=len_mul (val i.m.l) (val j.m.l)
 refine⟨[],imake_c (¬(i.p↔j.p)) g lg (dgl hg oM),rfl,rfl,rfl,fun r hr=>⟨r,?_,fin_of rfl rfl trivial⟩⟩
 rw[←hi.v,←hj.v,sg_mul,←vg];exact hr
abbrev fIGCD:FuncId:=137
theorem eIGCD:Ent Tryz.prog fIGCD:=Ent.of func137 rfl kR
theorem bIGCD:Tryz.prog.funcs[fIGCD]? =some Tryz.f137:=func137
theorem igcd_c (i j:IntM) {a b:Int} (hi:In i a 549755813888) (hj:In j b 549755813888):Ctr Tryz.prog fIGCD [] [.a i.C,.a j.C] [] (IntR (Int.gcd a b)):=by
 refine ctr_of gT eIGCD bIGCD rfl rfl rfl bL ClB.nil (VC_ok gT mxd ⟨[],gcd_c i.m j.m hi.lm hj.lm hi.ln hj.ln,rfl,rfl,rfl,fun g hg=>?_⟩)
 replace hg:g.l=digs (Nat.gcd (val i.m.l) (val j.m.l)):=hg
 obtain⟨lg,vg⟩:=dg hg
 have hlg:len (Nat.gcd (val i.m.l) (val j.m.l))≤549755813888:=by
  rcases Nat.eq_zero_or_pos (val i.m.l) with h0|h0
  ·rw[h0,Nat.gcd_zero_left,hj.abs];exact hj.len
  exact Nat.le_trans (len_mono (Nat.le_of_dvd h0 (Nat.gcd_dvd_left _ _))) (by rw[hi.abs];exact hi.len)
 refine⟨[],imake_c (false=true) g lg (dgl hg oM),rfl,rfl,rfl,fun r hr=>⟨r,?_,fin_of rfl rfl trivial⟩⟩
 have e:sg (false=true) (val g.l)=(Int.gcd a b:Int):=by rw[sg_f dC,vg,hi.abs,hj.abs];rfl
 rw[←e];exact hr
theorem ediv_u {m n:Nat} (hn:n≠0):(m:Int)/(n:Int)=(m/n:Nat)∧(m:Int)%(n:Int)=(m%n:Nat):=⟨by rw[Int.natCast_ediv],by rw[Int.natCast_emod]⟩
theorem ediv_n {m n:Nat} (hn:n≠0):(-(m:Int))/(n:Int)=(if m%n=0 then-((m/n:Nat):Int) else-((m/n:Nat):Int)-1)∧(-(m:Int))%(n:Int)=if m%n=0 then 0 else (n:Int)-(m%n:Nat):=by
 have h1:=Nat.div_add_mod m n
 have h2:=Nat.mod_lt m (Nat.pos_of_ne_zero hn)
 have h3:(n:Int)*((m/n:Nat):Int)+((m%n:Nat):Int)=m:=by rw[←Int.natCast_mul,←Int.natCast_add,h1]
 refine(Int.ediv_emod_unique oM).2 ?_
 split
 ·next h=>rw[h] at h3;rw[Int.mul_neg];omega
 next h=>rw[Int.mul_sub,Int.mul_neg,Int.mul_one];omega
theorem dm_keep {p q:Prop} {m n:Nat} (hn:n≠0) (h:¬(p∧0<m%n)):sg p m/sg q n=sg (¬(p↔q)) (m/n)∧sg p m%sg q n=sg p (m%n):=by
 obtain⟨a1,a2⟩:=ediv_u (m:=m) hn
 obtain⟨b1,b2⟩:=ediv_n (m:=m) hn
 by_cases hp:p<;>by_cases hq:q
 ·have hz:m%n=0:=by have:¬0<m%n:=fun h0=>h ⟨hp,h0⟩
                    omega
  rw[if_pos hz] at b1 b2
  rw[sg_t hp,sg_t hq,sg_f (fun h=>h ⟨fun _=>hq,fun _=>hp⟩),sg_t hp,Int.ediv_neg,Int.emod_neg,b1,b2,hz]
  omega
 ·have hz:m%n=0:=by have:¬0<m%n:=fun h0=>h ⟨hp,h0⟩
                    omega
  rw[if_pos hz] at b1 b2
  rw[sg_t hp,sg_f hq,sg_t (fun h=>hq (h.1 hp)),sg_t hp,b1,b2,hz]
  omega
 ·rw[sg_f hp,sg_t hq,sg_t (fun h=>hp (h.2 hq)),sg_f hp,Int.ediv_neg,Int.emod_neg,a1,a2]
  exact⟨rfl,rfl⟩
 rw[sg_f hp,sg_f hq,sg_f (fun h=>h ⟨fun h=>absurd h hp,fun h=>absurd h hq⟩),sg_f hp,a1,a2]
 exact⟨rfl,rfl⟩
theorem dm_more {p q:Prop} {m n:Nat} (hn:n≠0) (hp:p) (h:0<m%n):sg p m/sg q n=sg (¬(p↔q)) (m/n)+sg (¬q) 1∧sg p m%sg q n=sg p (m%n)+n:=by
 obtain⟨b1,b2⟩:=ediv_n (m:=m) hn
 rw[if_neg oM] at b1 b2
 by_cases hq:q
 ·rw[sg_t hp,sg_t hq,sg_f (fun h=>h ⟨fun _=>hq,fun _=>hp⟩),sg_t hp,sg_f (fun h=>h hq),Int.ediv_neg,Int.emod_neg,b1,b2]
  omega
 rw[sg_t hp,sg_f hq,sg_t (fun h=>hq (h.1 hp)),sg_t hp,sg_t hq,b1,b2]
 omega
theorem all3 {p:Prop} (h:p):(p∧p)∧p:=⟨⟨h,h⟩,h⟩
def oDM:Ord:=.tree [] (tr2 0 (tr2 1 (trS [2,3,4]) 2 (trS [1,3,4])) 1 (trS [0,2,3,4]))
abbrev fIDM:FuncId:=138
theorem eIDM:Ent Tryz.prog fIDM:=Ent.of func138 rfl kR
theorem bIDM:Tryz.prog.funcs[fIDM]? =some Tryz.f138:=func138
theorem idivmod_c (i j:IntM) {a b:Int} (hi:In i a 549755813888) (hj:In j b 549755813888) (hb:b≠0):Ctr Tryz.prog fIDM [] [.a i.C,.a j.C] [] (fun g:IntM×IntM=>⟨.t [.a g.1.C,.a g.2.C,pC True],[],Ci g.1 (a/b)∧Ci g.2 (a%b)⟩):=by
 have hla:len (val i.m.l)≤549755813888:=by rw[hi.abs];exact hi.len
 have hlb:len (val j.m.l)≤549755813888:=by rw[hj.abs];exact hj.len
 have hb0:val j.m.l≠0:=by rw[hj.abs];omega
 refine ctr_of gT eIDM bIDM rfl rfl rfl bL ClB.nil (VC_ok gT mxd ⟨[],divmod_c i.m j.m hi.lm hj.lm hi.ln hj.ln,rfl,rfl,rfl,fun⟨Q,R⟩ ⟨hQ,hR⟩=>⟨fun h=>absurd hb0 h,fun h=>VC_ok gT mxd ?_⟩⟩)
 replace hQ:Q.l=digs (val i.m.l/val j.m.l):=hQ
 replace hR:R.l=digs (modZ (val i.m.l) (val j.m.l)):=hR
 rw[modZ,if_neg hb0] at hR
 obtain⟨lQ,vQ⟩:=dg hQ
 obtain⟨lR,vR⟩:=dg hR
 have hlq:=len_mono (Nat.div_le_self (val i.m.l) (val j.m.l))
 have hlr:=len_mono (Nat.mod_le (val i.m.l) (val j.m.l))
 have hlr2:=len_mono (Nat.le_of_lt (Nat.mod_lt (val i.m.l) (Nat.pos_of_ne_zero hb0)))
 refine⟨.seq [(0,false),(1,false),(2,false),(3,false),(4,false),(5,false),(7,false),(8,false),(9,false),(6,false),(10,false),(11,true),(12,true)],by kernel_rfl,[],imake_c (¬(i.p↔j.p)) Q lQ (dgl hQ oM),rfl,rfl,rfl,fun q hq=>⟨[],imake_c i.p R lR (dgl hR oM),rfl,rfl,rfl,fun r hr=>⟨fun h1=>VC_ok gT mxd ?_,fun h1=>VC_ok gT mxd ?_⟩⟩⟩
 all_goals
  replace hq:Ci q (sg (¬(i.p↔j.p)) (val Q.l)):=hq
  replace hr:Ci r (sg i.p (val R.l)):=hr
  rw[vQ] at hq
  rw[vR] at hr
 ·have hn:=hr.1.1 h1
  rw[sg_neg] at hn
  obtain⟨e1,e2⟩:=dm_more (q:=j.p) hb0 hn.1 hn.2
  rw[hi.v,hj.v] at e1 e2
  have hab:(b.natAbs:Int)=(val j.m.l:Nat):=by rw[hj.abs]
  refine⟨.seq [(0,false),(1,false),(2,false),(3,false),(4,true)],by kernel_rfl,[],iabs_c j hj.le,rfl,rfl,rfl,fun ab hab2=>⟨[],iadd_c r ab (hr.in (by rw[sg_abs];omega)) (Ci.in hab2 (by rw[Int.natAbs_natCast,←hj.abs];omega)),rfl,rfl,rfl,fun r2 hr2=>?_⟩⟩
  replace hr2:Ci r2 (sg i.p (val i.m.l%val j.m.l)+b.natAbs):=hr2
  rw[hab,←e2] at hr2
  have hq1:In q _ 1099511627776:=hq.in (by rw[sg_abs];omega)
  have l1:len (1:Int).natAbs≤1099511627776:=by decide
  refine⟨fun h2=>VC_ok gT mxd ?_,fun h2=>VC_ok gT mxd ?_⟩
  ·refine⟨.seq [(0,false),(1,false),(2,false),(3,true)],by kernel_rfl,[],ifrom_c (z:=1) dC,rfl,rfl,rfl,fun one h1=>⟨[],iadd_c q one hq1 (Ci.in h1 l1),rfl,rfl,rfl,fun q2 hq2=>⟨oDM,by kernel_rfl,all3 ⟨(q2,r2),⟨?_,hr2⟩,fin_of ⟨rfl,rfl,tt trivial⟩ rfl trivial⟩⟩⟩⟩
   rw[sg_f (p:=¬j.p) (n:=1) (fun h=>h h2)] at e1
   show Ci q2 _
   rw[e1];exact hq2
  refine⟨.seq [(0,false),(1,false),(2,false),(3,true)],by kernel_rfl,[],ifrom_c (z:=1) dC,rfl,rfl,rfl,fun one h1=>⟨[],isub_c q one hq1 (Ci.in h1 l1),rfl,rfl,rfl,fun q2 hq2=>⟨oDM,by kernel_rfl,all3 ⟨(q2,r2),⟨?_,hr2⟩,fin_of ⟨rfl,rfl,tt trivial⟩ rfl trivial⟩⟩⟩⟩
  rw[sg_t (p:=¬j.p) (n:=1) h2] at e1
  show Ci q2 _
  rw[e1];exact hq2
 have hn:¬(i.p∧0<val i.m.l%val j.m.l):=fun h=>h1 (hr.1.2 (sg_neg.2 h))
 obtain⟨e1,e2⟩:=dm_keep (q:=j.p) hb0 hn
 rw[hi.v,hj.v] at e1 e2
 refine⟨oDM,by kernel_rfl,all3 ⟨(q,r),⟨?_,?_⟩,fin_of ⟨rfl,rfl,tt trivial⟩ rfl trivial⟩⟩
 ·show Ci q _
  rw[e1];exact hq
 show Ci r _
 rw[e2];exact hr
end Go.Proofs.YtandhgfmfpmemaaGreat
namespace Go.Vm
def sg (b:Bool) (n:Nat):Int:=match b with
 |true=>-(n:Int)
 |false=>(n:Int)
theorem sg_t (n:Nat):sg true n=-(n:Int):=rfl
theorem sg_f (n:Nat):sg false n=(n:Int):=rfl
theorem sg_abs (b:Bool) (n:Nat):(sg b n).natAbs=n:=by cases b<;>simp[sg]
theorem sg_self (z:Int):sg (decide (z<0)) z.natAbs=z:=by
 by_cases h:z<0
 ·rw[decide_eq_true h,sg_t];omega
 rw[decide_eq_false h,sg_f];omega
theorem sg_canon (z:Int):sg (decide (z<0)) (val (digs z.natAbs))=z:=by rw[val_digs,sg_self]
theorem sg_pos (n:Nat):sg false (val (digs n))=(n:Int):=by rw[val_digs,sg_f]
theorem sg_neg (b:Bool) (n:Nat):sg (!b) n=-sg b n:=by cases b<;>simp[sg]
theorem sg_add (b:Bool) (m n:Nat):sg b (m+n)=sg b m+sg b n:=by cases b<;>simp only[sg]<;>omega
theorem sg_zero (b:Bool):sg b 0=0:=by cases b<;>rfl
theorem sg_mul (a b:Bool) (m n:Nat):sg (a !=b) (m*n)=sg a m*sg b n:=by cases a<;>cases b<;>simp[sg,Int.neg_mul,Int.mul_neg]
theorem sg_eq_zero {b:Bool} {n:Nat}:sg b n=0↔n=0:=by cases b<;>simp only[sg]<;>omega
theorem sg_lt {b:Bool} {n:Nat}:sg b n<0↔b=true∧0<n:=by
 cases b
 ·simp only[sg,Bool.false_eq_true,false_and,iff_false];omega
 simp only[sg,true_and];omega
theorem divInt_le {a b:Int}:(Rat.divInt a b).num.natAbs≤a.natAbs:=by
 rw[Rat.num_divInt]
 refine Nat.le_trans (Int.natAbs_ediv_le_natAbs _ _) ?_
 rw[Int.natAbs_mul]
 have:b.sign.natAbs≤1:=by
  rcases Int.lt_trichotomy b 0 with h|h|h
  ·rw[Int.sign_eq_neg_one_of_neg h];decide
  ·rw[h];decide
  rw[Int.sign_eq_one_of_pos h];decide
 calc b.sign.natAbs*a.natAbs≤1*a.natAbs:=Nat.mul_le_mul_right _ this
  _=a.natAbs:=Nat.one_mul _
theorem divInt_den_le {a b:Int}:(Rat.divInt a b).den≤b.natAbs∨(Rat.divInt a b).den=1:=by
 rw[Rat.den_divInt]
 split
 ·exact .inr rfl
 exact .inl (Nat.div_le_self _ _)
theorem len_one:(digs 1).length=1:=rfl
theorem rl_num {a b:Int}:(digs (Rat.divInt a b).num.natAbs).length≤(digs a.natAbs).length:=len_mono divInt_le
theorem rl_den {a b:Int}:(digs (Rat.divInt a b).den).length≤max (digs b.natAbs).length 1:=by
 rcases divInt_den_le (a:=a) (b:=b) with h|h
 ·have h2:(digs (Rat.divInt a b).den).length≤(digs b.natAbs).length:=len_mono h
  omega
 rw[h,len_one];omega
end Go.Vm
namespace Go.Vm
end Go.Vm
namespace Go.Vm
theorem make_law {zx zy:Int} (h:zy≠0):(zy/((Int.gcd zx zy:Nat):Int)<0→(Rat.divInt zx zy).num=-(zx/((Int.gcd zx zy:Nat):Int))∧(Rat.divInt zx zy).den=(-(zy/((Int.gcd zx zy:Nat):Int))).natAbs)∧
 (¬zy/((Int.gcd zx zy:Nat):Int)<0→(Rat.divInt zx zy).num=zx/((Int.gcd zx zy:Nat):Int)∧(Rat.divInt zx zy).den=(zy/((Int.gcd zx zy:Nat):Int)).natAbs):=by
 have hg:0<Int.gcd zx zy:=Int.gcd_pos_of_ne_zero_right _ h
 have hd1:((Int.gcd zx zy:Nat):Int)∣zx:=Int.gcd_dvd_left ..
 have hd2:((Int.gcd zx zy:Nat):Int)∣zy:=Int.gcd_dvd_right ..
 rw[Rat.num_divInt,Rat.den_divInt,if_neg h,Int.gcd_comm zy zx]
 obtain⟨a,ha⟩:=hd1
 obtain⟨b,hb⟩:=hd2
 generalize Int.gcd zx zy=g at*
 have hg':(g:Int)≠0:=by omega
 have e1:zx/(g:Int)=a:=by rw[ha,Int.mul_ediv_cancel_left _ hg']
 have e2:zy/(g:Int)=b:=by rw[hb,Int.mul_ediv_cancel_left _ hg']
 have e3:zy.natAbs/g=b.natAbs:=by rw[hb,Int.natAbs_mul,Int.natAbs_natCast,Nat.mul_div_cancel_left _ hg]
 rw[e1,e2,e3]
 constructor
 ·intro hn
  have hz:zy<0:=by rw[hb];exact Int.mul_neg_of_pos_of_neg oM hn
  rw[Int.sign_eq_neg_one_of_neg hz]
  refine⟨?_,by rw[Int.natAbs_neg]⟩
  rw[ha,show(-1:Int)*((g:Int)*a)=(g:Int)*(-a) by rw[Int.neg_one_mul,Int.mul_neg],Int.mul_ediv_cancel_left _ hg']
 intro hn
 have hb0:0<b:=by
  rcases Int.lt_trichotomy b 0 with h1|h1|h1
  ·exact absurd h1 hn
  ·rw[h1,Int.mul_zero] at hb;exact absurd hb h
  exact h1
 have hz:0<zy:=by rw[hb];exact Int.mul_pos oM hb0
 rw[Int.sign_eq_one_of_pos hz,Int.one_mul,ha,Int.mul_ediv_cancel_left _ hg']
 exact⟨rfl,rfl⟩
theorem divInt_one (z:Int):(Rat.divInt z 1).num=z∧(Rat.divInt z 1).den=1:=by
 rw[Rat.num_divInt,Rat.den_divInt]
 simp
theorem radd_law (a b:Rat):Rat.divInt (a.num*(b.den:Int)+b.num*(a.den:Int)) ((a.den:Int)*(b.den:Int))=a+b:=by
 have h1:(a.den:Int)≠0:=by have:=a.den_nz;omega
 have h2:(b.den:Int)≠0:=by have:=b.den_nz;omega
 rw[←Rat.divInt_add_divInt _ _ h1 h2,Rat.num_divInt_den,Rat.num_divInt_den]
theorem rneg_law (a:Rat):Rat.divInt (-a.num) (a.den:Int)=-a:=by
 rw[←Rat.neg_divInt,Rat.num_divInt_den]
theorem rdiv_law (a b:Rat):Rat.divInt (a.num*(b.den:Int)) ((a.den:Int)*b.num)=a/b:=by
 rw[Rat.div_def,Rat.inv_def,←Rat.divInt_mul_divInt,Rat.num_divInt_den]
theorem int_law (z:Int):Rat.divInt z 1=(z:Rat):=by
 apply Rat.ext
 ·rw[(divInt_one z).1];rfl
 rw[(divInt_one z).2];rfl
end Go.Vm
namespace Go.Vm
end Go.Vm
namespace Go.Vm
end Go.Vm
namespace Go.Proofs.YtandhgfmfpmemaaGreat
open Go.Vg _root_.Go.Proofs.Tryz
open Go.Vm hiding sg sg_t sg_f sg_abs sg_neg sg_add sg_mul sg_self sg_canon sg_pos sg_zero sg_eq_zero sg_lt
open Go.Vy hiding val
set_option maxHeartbeats 1000000
structure RatM where
 n:IntM
 d:Sl Nat
def RatM.C (r:RatM):List CV:=[.b r.n.p r.n.d,natS r.n.m,natS r.d]
structure Rq (r:RatM) (q:Rat) (B:Nat):Prop where
 n:In r.n (sg r.n.p (val r.n.m.l)) B
 ld:Lm r.d.l
 bd:r.d.l.length≤B
 v:Rat.divInt (sg r.n.p (val r.n.m.l)) (val r.d.l)=q
def Cr (r:RatM) (q:Rat):Prop:=Ci r.n q.num∧r.d.l=digs q.den
abbrev RatR (q:Rat):RatM→Out:=fun g=>⟨.a g.C,[],Cr g q⟩
def rb (q:Rat) (B:Nat):Prop:=len q.num.natAbs≤B∧len q.den≤B
theorem Rq.rb {r:RatM} {q:Rat} {B:Nat} (h:Rq r q B) (hB:1≤B:=by decide):rb q B:=by
 have h1:=rl_num (a:=sg r.n.p (val r.n.m.l)) (b:=(val r.d.l:Nat))
 have h2:=rl_den (a:=sg r.n.p (val r.n.m.l)) (b:=(val r.d.l:Nat))
 rw[h.v] at h1 h2
 rw[Int.natAbs_natCast] at h2
 have h3:=h.n.len
 have h4:=Nat.le_trans (len_le_of h.ld) h.bd
 refine⟨Nat.le_trans h1 h3,Nat.le_trans h2 ?_⟩
 simp only[len_digs]
 omega
theorem Cr.rq {r:RatM} {q:Rat} {B:Nat} (h:Cr r q) (hb:Go.Proofs.YtandhgfmfpmemaaGreat.rb q B):Rq r q B:=by
 obtain⟨ld,vd⟩:=dg h.2
 have h1:=h.1.in hb.1
 refine⟨⟨h1.lm,h1.ln,rfl⟩,ld,by rw[h.2];exact hb.2,?_⟩
 rw[h1.v,vd,Rat.num_divInt_den]
theorem Rq.le {r:RatM} {q:Rat} {B B':Nat} (h:Rq r q B) (hb:B≤B':=by omega):Rq r q B':=⟨h.n.le hb,h.ld,Nat.le_trans h.bd hb,h.v⟩
theorem rb.le {q:Rat} {B B':Nat} (h:rb q B) (hb:B≤B':=by omega):rb q B':=⟨Nat.le_trans h.1 hb,Nat.le_trans h.2 hb⟩
abbrev fZero:FuncId:=68
theorem eZero:Ent Tryz.prog fZero:=Ent.of func68 rfl kR
theorem bZero:Tryz.prog.funcs[fZero]? =some Tryz.f68:=func68
theorem zero_c:Ctr Tryz.prog fZero [] [] [] (RatR 0):=by
 have h0:Ctr Tryz.prog fZero [] [] [] (fun _:Unit=>⟨.a [.b (false=true) inferInstance,.s 1 0,.s 2 1],[(120,0,[.b (false=true) inferInstance,.s 1 0,.s 2 1]),(160,1,[]),(160,1,[uC 1])],True⟩):=by
  refine ctr_of gT eZero bZero rfl rfl rfl bL ClB.nil (VC_ok gT mxd ?_)
  exact⟨(),trivial,fin_own rfl ⟨rfl,rfl,rfl⟩ (Nat.zero_le _) (scB.cons rfl (scB.cons rfl (scB.cons rfl scB.nil))) rfl clB0⟩
 refine(CtrF.gt h0 fun _ _ _=>?_)
 refine gfrzP tGt 0 1 1 (fun j=>[uC (([]:List Nat).getD j default)]) rfl rfl rfl rfl (fun j hj=>absurd hj (Nat.not_lt_zero _)) rfl Nat.zero_lt_one (fun c hc=>by cases hc) (Nat.zero_le _) fun A c _ _=>⟨nat_men [1],?_⟩
 refine gfrzP tGt 0 2 2 (fun j=>[uC ([1].getD j default)]) rfl rfl rfl rfl (fun j hj=>nat_get (x:=[1]) j hj) rfl Nat.zero_lt_one (nat_clo [1]) (Nat.zero_le _) fun A2 c2 _ _=>⟨fun c hc=>(by cases hc),?_⟩
 exact gfin (M:=fun _=>true) (base:=[]) (chg:=fun g:RatM=>[(0,.a g.C)]) (bls:=fun _=>[]) (fls:=fun _=>[]) (fun t d ht=>by cases ht) ⟨⟨false=true,inferInstance,⟨A,c,[]⟩⟩,⟨A2,c2,[1]⟩⟩ ⟨⟨⟨⟨fun h=>(by cases h),fun h=>absurd (show(0:Int)<0 from h) dC⟩,rfl⟩,rfl⟩,clB0⟩ rfl trivial trivial rfl (Nat.le_refl _) (fun i T es l hi=>by cases hi) rfl
theorem sgn_zero {z:Int}:sgn z=0↔z=0:=by unfold sgn;constructor<;>intro h<;>(repeat split at*)<;>omega
theorem sgn_neg {z:Int}:sgn z<0↔z<0:=by unfold sgn;constructor<;>intro h<;>(repeat split at*)<;>omega
theorem digs_one {n:Nat} (h:digs n=[1]):n=1:=by have:=congrArg Vm.val h;rw[val_digs] at this;exact this
theorem gcd_len {a b:Int} {B:Nat} (ha:len a.natAbs≤B) (hb:len b.natAbs≤B):len (Int.gcd a b:Int).natAbs≤B:=by
 rw[Int.natAbs_natCast]
 rcases Nat.eq_zero_or_pos a.natAbs with h0|h0
 ·rw[Int.gcd,h0,Nat.gcd_zero_left];exact hb
 exact Nat.le_trans (len_mono (Nat.le_of_dvd h0 (Nat.gcd_dvd_left _ _))) ha
theorem div_len {a b:Int} {B:Nat} (ha:len a.natAbs≤B):len (a/b).natAbs≤B:=Nat.le_trans (len_mono (Int.natAbs_ediv_le_natAbs a b)) ha
abbrev fRMake:FuncId:=116
theorem eRMake:Ent Tryz.prog fRMake:=Ent.of func116 rfl kR
theorem bRMake:Tryz.prog.funcs[fRMake]? =some Tryz.f116:=func116
theorem rmake_c (i j:IntM) {a b:Int} (hi:In i a 549755813888) (hj:In j b 549755813888):Ctr Tryz.prog fRMake [] [.a i.C,.a j.C] [] (RatR (Rat.divInt a b)):=by
 have hla:=hi.len
 have hlb:=hj.len
 refine ctr_of gT eRMake bRMake rfl rfl rfl bL ClB.nil (VC_ok gT mxd ⟨[],isign_c j hj.le,rfl,rfl,rfl,fun _ _=>⟨fun h=>VC_ok gT mxd ?_,fun h=>VC_ok gT mxd ?_⟩⟩)
 ·have hb:=sgn_zero.1 h
  refine⟨[],zero_c,rfl,rfl,rfl,fun g hg=>⟨g,?_,fin_of rfl rfl trivial⟩⟩
  rw[hb,Rat.divInt_zero];exact hg
 have hb:b≠0:=fun e=>h (sgn_zero.2 e)
 have hml:=make_law (zx:=a) hb
 have hg0:((Int.gcd a b:Nat):Int)≠0:=by have:=Int.gcd_pos_of_ne_zero_right a hb;omega
 refine⟨[],inorm_c j hj.le,rfl,rfl,rfl,fun g hg=>?_⟩
 replace hg:Ci g b:=hg
 refine⟨fun hn=>?_,fun hn=>?_⟩
 ·refine⟨some (fun j=>[uC ([1].getD j default)]),⟨⟨Nat.zero_le _,Nat.zero_lt_one⟩,rfl,fun j hj=>nat_get (x:=[1]) j hj,nat_clo [1]⟩,fun A c _ _=>⟨[],equal_c g.m ⟨A,c,[1]⟩,rfl,rfl,rfl,fun _ _=>⟨fun h1=>VC_ok gT mxd ?_,fun h1=>VC_ok gT mxd ?_⟩⟩⟩
  ·have hb1:b=1:=by
    have e1:g.m.l=[1]:=h1
    have e2:digs b.natAbs=[1]:=hg.2▸e1
    have e3:=digs_one e2
    have e4:¬b<0:=fun h=>hn (hg.1.2 h)
    omega
   refine⟨.seq [(0,false),(2,false),(3,false),(1,false),(4,false),(5,true)],by kernel_rfl,[],inorm_c i hi.le,rfl,rfl,rfl,fun x hx=>⟨⟨x,g.m⟩,?_,fin_of rfl rfl trivial⟩⟩
   rw[hb1]
   refine⟨?_,?_⟩
   ·show Ci x _
    rw[(divInt_one a).1];exact hx
   show g.m.l=_
   rw[(divInt_one a).2];exact h1
  refine⟨[],igcd_c i j hi hj,rfl,rfl,rfl,fun x hx=>?_⟩
  have hx1:=Ci.in (B:=549755813888) hx (gcd_len hla hlb)
  refine⟨[],idivmod_c i x hi hx1 hg0,rfl,rfl,rfl,fun⟨q1,r1⟩ ⟨hq1,_⟩=>⟨[],idivmod_c j x hj hx1 hg0,rfl,rfl,rfl,fun⟨q2,r2⟩ ⟨hq2,_⟩=>⟨fun h2=>VC_ok gT mxd ?_,fun h2=>VC_ok gT mxd ?_⟩⟩⟩
  ·obtain⟨m1,m2⟩:=hml.1 (hq2.1.1 h2)
   refine⟨.seq [(0,false),(2,false),(1,false),(3,false),(4,true),(5,true)],by kernel_rfl,[],ineg_c q1 (v:=a/(Int.gcd a b:Int)) (Ci.in hq1 (Nat.le_trans (div_len hla) dC)),rfl,rfl,rfl,fun n1 hn1=>⟨[],ineg_c q2 (v:=b/(Int.gcd a b:Int)) (Ci.in hq2 (Nat.le_trans (div_len hlb) dC)),rfl,rfl,rfl,fun d1 hd1=>⟨⟨n1,d1.m⟩,⟨?_,?_⟩,fin_of rfl rfl trivial⟩⟩⟩
   ·show Ci n1 _
    rw[m1];exact hn1
   show d1.m.l=_
   rw[m2];exact hd1.2
  obtain⟨m1,m2⟩:=hml.2 fun h=>h2 (hq2.1.2 h)
  refine⟨⟨q1,q2.m⟩,⟨?_,?_⟩,fin_of rfl rfl trivial⟩
  ·show Ci q1 _
   rw[m1];exact hq1
  show q2.m.l=_
  rw[m2];exact hq2.2
 refine⟨[],igcd_c i j hi hj,rfl,rfl,rfl,fun x hx=>?_⟩
 have hx1:=Ci.in (B:=549755813888) hx (gcd_len hla hlb)
 refine⟨[],idivmod_c i x hi hx1 hg0,rfl,rfl,rfl,fun⟨q1,r1⟩ ⟨hq1,_⟩=>⟨[],idivmod_c j x hj hx1 hg0,rfl,rfl,rfl,fun⟨q2,r2⟩ ⟨hq2,_⟩=>⟨fun h2=>VC_ok gT mxd ?_,fun h2=>VC_ok gT mxd ?_⟩⟩⟩
 ·obtain⟨m1,m2⟩:=hml.1 (hq2.1.1 h2)
  refine⟨.seq [(0,false),(2,false),(1,false),(3,false),(4,true),(5,true)],by kernel_rfl,[],ineg_c q1 (v:=a/(Int.gcd a b:Int)) (Ci.in hq1 (Nat.le_trans (div_len hla) dC)),rfl,rfl,rfl,fun n1 hn1=>⟨[],ineg_c q2 (v:=b/(Int.gcd a b:Int)) (Ci.in hq2 (Nat.le_trans (div_len hlb) dC)),rfl,rfl,rfl,fun d1 hd1=>⟨⟨n1,d1.m⟩,⟨?_,?_⟩,fin_of rfl rfl trivial⟩⟩⟩
  ·show Ci n1 _
   rw[m1];exact hn1
  show d1.m.l=_
  rw[m2];exact hd1.2
 obtain⟨m1,m2⟩:=hml.2 fun h=>h2 (hq2.1.2 h)
 refine⟨⟨q1,q2.m⟩,⟨?_,?_⟩,fin_of rfl rfl trivial⟩
 ·show Ci q1 _
  rw[m1];exact hq1
 show q2.m.l=_
 rw[m2];exact hq2.2
end Go.Proofs.YtandhgfmfpmemaaGreat
