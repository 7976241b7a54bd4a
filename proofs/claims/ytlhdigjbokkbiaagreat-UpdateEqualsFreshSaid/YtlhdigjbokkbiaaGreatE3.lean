/- For every input the law UpdateEqualsFresh returns true, and what came in reads as it did. Part 3 of 7: Qc Mvec Vya Vyb Vyc Vyd Vye Vyf Vyg Vyh. -/
import Derived.Laws.StructEq
import Derived.Test.YtlhdigjbokkbiaaGreatE2
set_option maxHeartbeats 4000000
set_option linter.unusedVariables false
set_option linter.unusedSimpArgs false
namespace Go.Proofs.YtlhdigjbokkbiaaGreat.W
open Go.Vg Go.RowKit _root_.Go.Proofs.Tryz
open Go.Vm
theorem q_add {w:World} {sx:Bool} {Dx Ex:Nat->TypeId->Prop} {vx ux:Value} {x dx:List Nat} (hx:Sg (gN .u32) Dx w vx x) (lmx:Lm x) (lnx:x.length<=17179869184) (hdx:Sg (gN .u32) Ex w ux dx) (lmdx:Lm dx) (lndx:dx.length<=17179869184) {qx:Rat} (ex:jH sx (val x) (val dx)=qx) {sy:Bool} {Dy Ey:Nat->TypeId->Prop} {vy uy:Value} {y dy:List Nat} (hy:Sg (gN .u32) Dy w vy y) (lmy:Lm y) (lny:y.length<=17179869184) (hdy:Sg (gN .u32) Ey w uy dy) (lmdy:Lm dy) (lndy:dy.length<=17179869184) {qy:Rat} (ey:jH sy (val y) (val dy)=qy):
 Calls Tryz.prog 80 #[(.agg #[(.bool sx),vx,ux]),(.agg #[(.bool sy),vy,uy])] w λe w'=>∃v,e= .returned v/\(∃vn vd,v= .agg #[.bool (decide ((qx+qy).num<0)),vn,vd]/\Sg (gN .u32) (λb T=>w.heap.size<=b/\T=131) w' vn (aJ (qx+qy).num.natAbs)/\Sg (gN .u32) (λb T=>w.heap.size<=b/\T=131) w' vd (aJ (qx+qy).den)/\(aJ (qx+qy).num.natAbs).length<=max (x.length+dy.length) (y.length+dx.length)+2/\(aJ (qx+qy).den).length<=dx.length+dy.length+3)/\Ext w w':=by
 have hE:Below w.heap.size w w:=Below.refl _ _
 have hlqx:=aAi lmx lmdx ex
 have hdqx:=kJ qx
 have hlqy:=aAi lmy lmdy ey
 have hdqy:=kJ qy
 refine eE (n:=86) (rs:=[.cell 4 51]) func80 rfl rfl rfl bL ?_
 refine iU λF0 hF0=>?_
 refine wsr ?_
 refine rU (qT (cs:=[(.bool sx),vx,ux]) (hF0 0) rfl) ?_
 rintro _ w1 ⟨b2,rfl,hs5,hb4,he3⟩
 have ge_b2:=hE.ge hs5
 replace hE:=hE.nx he3
 refine rU (qT (cs:=[(.bool sy),vy,uy]) (hF0 1) rfl) ?_
 rintro _ w6 ⟨b7,rfl,hs10,hb9,he8⟩
 have lt_b2_b7:=cG hb4.lt hs10.symm
 have ge_b7:=hE.ge hs10
 replace hE:=hE.nx he8
 refine rU (jA (cs:=[(.bool false),(.slice none 0 0),(.slice none 0 0)]) jI rfl) ?_
 rintro _ w11 ⟨b12,rfl,hs15,hb14,he13⟩
 have lt_b7_b12:=cG hb9.lt hs15.symm
 have ge_b12:=hE.ge hs15
 refine aE (dV (wsr ?_))
 replace hb4:=hb4.ext (aB he8 he13)
 have hc16:=hb4.cells (o:=0) (cs:=[(.bool sx),vx,ux]) rfl
 refine rV (fT (o:=0) (cs:=[(.bool sx),vx,ux]) kK oO jI rfl hc16) ?_
 have hm19:=aB he3 (aB he8 he13)
 replace hx:=hx.tr (aH hm19)
 replace hdx:=hdx.tr (aH hm19)
 refine RL.call rfl rfl dC (gI (vl:=[(.agg #[(.bool sx),vx,ux])]) aSc rfl) (q_sign hx (by assumption) oS hdx (by assumption) oS (show jH sx (val x) (val dx)=qx from ex)) ?_
 rintro _ w17 ⟨rfl,he18⟩
 replace hE:=(hE.nx he13).nx he18
 refine rV (tA (k:=.i64) (a:=Int.sign qx.num) (b:=0) rfl rfl) (aE ?_)
 refine wcD (p:=(Int.sign qx.num)=0) rfl (λhb20 hb20p=>?_) (λhb20 hb20p=>?_)
 ·have hx0:qx=0:=(aSj qx).1 hb20p
  refine wsr ?_
  replace hb9:=hb9.ext (aB he13 he18)
  have hc21:=hb9.cells (o:=0) (cs:=[(.bool sy),vy,uy]) rfl
  refine rV (fT (o:=0) (cs:=[(.bool sy),vy,uy]) kK oO jI rfl hc21) ?_
  have hm30:=aB hm19 he18
  replace hy:=hy.tr (aH hm30)
  replace hdy:=hdy.tr (aH hm30)
  refine RL.call rfl rfl dC (gI (vl:=[(.agg #[(.bool sy),vy,uy])]) bKz rfl) (q_norm hy (by assumption) oS hdy (by assumption) oS (show jH sy (val y) (val dy)=qy from ey)) ?_
  rintro _ w22 ⟨⟨vn24,vd26,rfl,hn25,hd27,hl28,hl29⟩,he23⟩
  have hlv31:=kJ qy
  replace hn25:=hn25.fr hE
  replace hd27:=hd27.fr hE
  replace hb14:=hb14.ext (aB he18 he23)
  refine fC rfl rfl (jK (cs:=[(bd (qy.num<0)),vn24,vd26]) (o:=0) jI rfl rfl rfl rfl (bG rfl (bG hn25.one (bG hd27.one fJ))) hb14 bL) ?_
  rintro w32 ⟨hn33,hx34,hz35⟩
  replace hE:=(hE.nx he23).nb hx34 ge_b12
  have nb_hx34:=(Nb.of hb14 (cH rfl (cH rfl (cH rfl iL))))
  replace hb14:Bk w32 b12 51 [(bd (qy.num<0)),vn24,vd26]:=hn33
  refine aE ?_
  refine gH ?_
  refine⟨[(.agg #[(bd (qy.num<0)),vn24,vd26])],⟨⟨_,_,[(bd (qy.num<0)),vn24,vd26],rfl,⟨_,kK⟩,hb14.cells rfl,.inl ⟨oO,⟨_,_,jI⟩,rfl⟩⟩,trivial⟩,?_⟩
  have hlr:=wI qx qy
  have hq:qy=(qx+qy):=by first|(rw[hx0,fY];done)|(rw[hy0,cE];done)|exact lW hsx1.2.2.1 hsy1.2.2.1 hsx1.2.2.2.2 hsy1.2.2.2.2|exact wH oM eqX (by rw[hxd];exact eqY)|(rw[dH];exact lW (by rw[sg_f];omega) (by rw[sg_f];omega) eqX eqY)
  replace hn25:=hn25.apn hx34 nb_hx34
  replace hd27:=hd27.apn hx34 nb_hx34
  exact⟨⟨_,_,aBm (congrArg (λz:Rat=>decide (z.num<0)) hq),by rw[<-hq];exact hn25,by rw[<-hq];exact hd27,by omega,by omega⟩,hE⟩
 refine fL ?_
 refine dV (wsr ?_)
 replace hb9:=hb9.ext (aB he13 he18)
 have hc36:=hb9.cells (o:=0) (cs:=[(.bool sy),vy,uy]) rfl
 refine rV (fT (o:=0) (cs:=[(.bool sy),vy,uy]) kK oO jI rfl hc36) ?_
 have hm39:=aB hm19 he18
 replace hy:=hy.tr (aH hm39)
 replace hdy:=hdy.tr (aH hm39)
 refine RL.call rfl rfl dC (gI (vl:=[(.agg #[(.bool sy),vy,uy])]) aSc rfl) (q_sign hy (by assumption) oS hdy (by assumption) oS (show jH sy (val y) (val dy)=qy from ey)) ?_
 rintro _ w37 ⟨rfl,he38⟩
 replace hE:=hE.nx he38
 refine rV (tA (k:=.i64) (a:=Int.sign qy.num) (b:=0) rfl rfl) (aE ?_)
 refine wcD (p:=(Int.sign qy.num)=0) rfl (λhb40 hb40p=>?_) (λhb40 hb40p=>?_)
 ·have hy0:qy=0:=(aSj qy).1 hb40p
  refine wsr ?_
  replace hb4:=hb4.ext (aB he18 he38)
  have hc41:=hb4.cells (o:=0) (cs:=[(.bool sx),vx,ux]) rfl
  refine rV (fT (o:=0) (cs:=[(.bool sx),vx,ux]) kK oO jI rfl hc41) ?_
  replace hx:=hx.tr (aH (aB he18 he38))
  replace hdx:=hdx.tr (aH (aB he18 he38))
  refine RL.call rfl rfl dC (gI (vl:=[(.agg #[(.bool sx),vx,ux])]) bKz rfl) (q_norm hx (by assumption) oS hdx (by assumption) oS (show jH sx (val x) (val dx)=qx from ex)) ?_
  rintro _ w42 ⟨⟨vn44,vd46,rfl,hn45,hd47,hl48,hl49⟩,he43⟩
  have hlv50:=kJ qx
  replace hn45:=hn45.fr hE
  replace hd47:=hd47.fr hE
  have hm55:=aB he18 (aB he38 he43)
  replace hb14:=hb14.ext hm55
  refine fC rfl rfl (jK (cs:=[(bd (qx.num<0)),vn44,vd46]) (o:=0) jI rfl rfl rfl rfl (bG rfl (bG hn45.one (bG hd47.one fJ))) hb14 bL) ?_
  rintro w51 ⟨hn52,hx53,hz54⟩
  replace hE:=(hE.nx he43).nb hx53 ge_b12
  have nb_hx53:=(Nb.of hb14 (cH rfl (cH rfl (cH rfl iL))))
  replace hb14:Bk w51 b12 51 [(bd (qx.num<0)),vn44,vd46]:=hn52
  refine aE ?_
  refine gH ?_
  refine⟨[(.agg #[(bd (qx.num<0)),vn44,vd46])],⟨⟨_,_,[(bd (qx.num<0)),vn44,vd46],rfl,⟨_,kK⟩,hb14.cells rfl,.inl ⟨oO,⟨_,_,jI⟩,rfl⟩⟩,trivial⟩,?_⟩
  have hlr:=wI qx qy
  have hq:qx=(qx+qy):=by first|(rw[hx0,fY];done)|(rw[hy0,cE];done)|exact lW hsx1.2.2.1 hsy1.2.2.1 hsx1.2.2.2.2 hsy1.2.2.2.2|exact wH oM eqX (by rw[hxd];exact eqY)|(rw[dH];exact lW (by rw[sg_f];omega) (by rw[sg_f];omega) eqX eqY)
  replace hn45:=hn45.apn hx53 nb_hx53
  replace hd47:=hd47.apn hx53 nb_hx53
  exact⟨⟨_,_,aBm (congrArg (λz:Rat=>decide (z.num<0)) hq),by rw[<-hq];exact hn45,by rw[<-hq];exact hd47,by omega,by omega⟩,hE⟩
 refine fL ?_
 refine wsr ?_
 replace hb4:=hb4.ext (aB he18 he38)
 have hc56:=hb4.cells (o:=0) (cs:=[(.bool sx),vx,ux]) rfl
 refine rV (fT (o:=0) (cs:=[(.bool sx),vx,ux]) kK oO jI rfl hc56) ?_
 replace hx:=hx.tr (aH (aB he18 he38))
 replace hdx:=hdx.tr (aH (aB he18 he38))
 refine RL.call rfl rfl dC (gI (vl:=[(.agg #[(.bool sx),vx,ux])]) aFx rfl) (xC hx (by assumption) oS hdx (by assumption) oS (show jH sx (val x) (val dx)=qx from ex)) ?_
 rintro _ w57 ⟨⟨nX,dX,okX,rfl,hsX⟩,he58⟩
 refine mV (v:=(.tuple #[(iv nX),(iv dX),(.bool okX)])) rfl (rV (bZ (v:=(iv nX)) rfl rfl) (rV (bZ (v:=(iv dX)) rfl rfl) (rV (bZ (v:=(.bool okX)) rfl rfl) (aS (v:=(iv nX)) rfl (aS (v:=(iv dX)) rfl (aS (v:=(.bool okX)) rfl (aE (wsr ?_))))))))
 replace hb9:=hb9.ext (aB he38 he58)
 have hc59:=hb9.cells (o:=0) (cs:=[(.bool sy),vy,uy]) rfl
 refine rV (fT (o:=0) (cs:=[(.bool sy),vy,uy]) kK oO jI rfl hc59) ?_
 replace hy:=hy.tr (aH (aB he38 he58))
 replace hdy:=hdy.tr (aH (aB he38 he58))
 refine RL.call rfl rfl dC (gI (vl:=[(.agg #[(.bool sy),vy,uy])]) aFx rfl) (xC hy (by assumption) oS hdy (by assumption) oS (show jH sy (val y) (val dy)=qy from ey)) ?_
 rintro _ w60 ⟨⟨nY,dY,okY,rfl,hsY⟩,he61⟩
 replace hE:=(hE.nx he58).nx he61
 refine mV (v:=(.tuple #[(iv nY),(iv dY),(.bool okY)])) rfl (rV (bZ (v:=(iv nY)) rfl rfl) (rV (bZ (v:=(iv dY)) rfl rfl) (rV (bZ (v:=(.bool okY)) rfl rfl) (aS (v:=(iv nY)) rfl (aS (v:=(iv dY)) rfl (aS (v:=(.bool okY)) rfl (aE (dV ?_))))))))
 refine iU λF62 hF63=>?_
 refine vN (λfl wl=>∃t:Bool,Off [38,39,40,41] F62 fl/\fl 41=(.bool t)/\(t=true->okX=true/\okY=true)/\(Sg (gN .u32) Dx wl vx x)/\(Sg (gN .u32) Dy wl vy y)/\(Sg (gN .u32) Ex wl ux dx)/\(Sg (gN .u32) Ey wl uy dy)/\(Below w.heap.size w wl)/\(Bk wl b2 51 [(.bool sx),vx,ux])/\(Bk wl b7 51 [(.bool sy),vy,uy])/\(Bk wl b12 51 [(.bool false),(.slice none 0 0),(.slice none 0 0)])) ?_ ?_
 ·have G64:=Off.refl [38,39,40,41] F62
  refine cV (mV (v:=(.bool okX)) (hF63 7) (mV (v:=(.bool okX)) rfl ?_))
  rcases iJ (okX) with hb65|hb65
  ·have hb65p:=hb65
   have hokX:=hb65
   refine RL.gval rfl rfl (aW hb65) rfl dC (gS (v:=(.bool okY)) (hF63 10)) ?_
   refine rV (kT (v:=(.bool okY)) (aW hb65) rfl) (aE ?_)
   replace hx:=hx.tr (aH (aB he58 he61))
   replace hy:=hy.tr (aH he61)
   replace hdx:=hdx.tr (aH (aB he58 he61))
   replace hdy:=hdy.tr (aH he61)
   replace hb4:=hb4.ext (aB he58 he61)
   replace hb9:=hb9.ext he61
   have hm66:=aB he18 (aB he38 (aB he58 he61))
   replace hb14:=hb14.ext hm66
   refine⟨okY,?_,?_,?_,?_,?_,?_,?_,?_,?_,?_,?_⟩
   ·exact(by repeat (first|exact G64|refine Off.st ?_ dC _))
   ·rfl
   ·exact λh=>⟨hokX,h⟩
   ·exact hx
   ·exact hy
   ·exact hdx
   ·exact hdy
   ·exact hE
   ·exact hb4
   ·exact hb9
   exact hb14
  have hb65p:=hb65
  refine RL.gno rfl rfl (aW hb65) rfl dC ?_
  refine rV (mO (v:=(.bool false)) (aW hb65) rfl) (aE ?_)
  replace hx:=hx.tr (aH (aB he58 he61))
  replace hy:=hy.tr (aH he61)
  replace hdx:=hdx.tr (aH (aB he58 he61))
  replace hdy:=hdy.tr (aH he61)
  replace hb4:=hb4.ext (aB he58 he61)
  replace hb9:=hb9.ext he61
  have hm67:=aB he18 (aB he38 (aB he58 he61))
  replace hb14:=hb14.ext hm67
  refine⟨false,?_,?_,?_,?_,?_,?_,?_,?_,?_,?_,?_⟩
  ·exact(by repeat (first|exact G64|refine Off.st ?_ dC _))
  ·rfl
  ·exact λh=>by cases h
  ·exact hx
  ·exact hy
  ·exact hdx
  ·exact hdy
  ·exact hE
  ·exact hb4
  ·exact hb9
  exact hb14
 clear hx hy hdx hdy hE hb4 hb9 hb14
 rintro f68 w69 ⟨t,G70,hs71,ht,hx,hy,hdx,hdy,hE,hb4,hb9,hb14⟩
 refine uQ (b:=t) hs71 (λhb72=>?_) (λhb72=>?_)
 ·have hb72p:=hb72
  have hsx1:=hsX (ht hb72).1
  have hsy1:=hsY (ht hb72).2
  refine dV ?_
  have hm1:=xP (a:=nX) (b:=dY) ⟨by omega,by omega⟩ ⟨by omega,by omega⟩
  have hm2:=xP (a:=nY) (b:=dX) ⟨by omega,by omega⟩ ⟨by omega,by omega⟩
  have hm3:=xP (a:=dX) (b:=dY) ⟨by omega,by omega⟩ ⟨by omega,by omega⟩
  have hm4:=xP (a:=nX) (b:=nY) ⟨by omega,by omega⟩ ⟨by omega,by omega⟩
  have hmp:=vI hsx1.2.2.1 hsy1.2.2.1
  refine cV (mV (v:=(iv nX)) ((G70 5 rfl).trans (hF63 5)) (mV (v:=(iv dY)) ((G70 9 rfl).trans (hF63 9)) (rV (uR (k:=.i64) (a:=nX) (b:=dY) (c:=nX*dY) rfl rfl (jS oM)) (mV (v:=(iv nY)) ((G70 8 rfl).trans (hF63 8)) (mV (v:=(iv dX)) ((G70 6 rfl).trans (hF63 6)) (rV (uR (k:=.i64) (a:=nY) (b:=dX) (c:=nY*dX) rfl rfl (jS oM)) (rV (kE (k:=.i64) (a:=nX*dY) (b:=nY*dX) (c:=(nX*dY)+(nY*dX)) rfl rfl (jS oM)) (mV (v:=(iv dX)) ((G70 6 rfl).trans (hF63 6)) (mV (v:=(iv dY)) ((G70 9 rfl).trans (hF63 9)) (rV (uR (k:=.i64) (a:=dX) (b:=dY) (c:=dX*dY) rfl rfl (jS oM)) ?_))))))))))
  refine cL aXg (aOv oM oM) rfl ?_
  rintro _ w73 ⟨⟨vn75,vd77,rfl,hn76,hd78,hl79,hl80⟩,he74⟩
  have hlv81:=kJ (Rat.divInt ((nX*dY)+(nY*dX)) (dX*dY))
  replace hn76:=hn76.fr hE
  replace hd78:=hd78.fr hE
  replace hb14:=hb14.ext he74
  refine fC rfl rfl (jK (cs:=[(bd ((Rat.divInt ((nX*dY)+(nY*dX)) (dX*dY)).num<0)),vn75,vd77]) (o:=0) jI ((G70 4 rfl).trans (hF63 4)) rfl rfl rfl (bG rfl (bG hn76.one (bG hd78.one fJ))) hb14 bL) ?_
  rintro w82 ⟨hn83,hx84,hz85⟩
  replace hE:=(hE.nx he74).nb hx84 ge_b12
  have nb_hx84:=(Nb.of hb14 (cH rfl (cH rfl (cH rfl iL))))
  replace hb14:Bk w82 b12 51 [(bd ((Rat.divInt ((nX*dY)+(nY*dX)) (dX*dY)).num<0)),vn75,vd77]:=hn83
  refine aE ?_
  refine gH ?_
  refine⟨[(.agg #[(bd ((Rat.divInt ((nX*dY)+(nY*dX)) (dX*dY)).num<0)),vn75,vd77])],⟨⟨_,_,[(bd ((Rat.divInt ((nX*dY)+(nY*dX)) (dX*dY)).num<0)),vn75,vd77],((G70 4 rfl).trans (hF63 4)),⟨_,kK⟩,hb14.cells rfl,.inl ⟨oO,⟨_,_,jI⟩,rfl⟩⟩,trivial⟩,?_⟩
  have hlr:=wI qx qy
  have hq:(Rat.divInt ((nX*dY)+(nY*dX)) (dX*dY))=(qx+qy):=by first|(rw[hx0,fY];done)|(rw[hy0,cE];done)|exact lW hsx1.2.2.1 hsy1.2.2.1 hsx1.2.2.2.2 hsy1.2.2.2.2|exact wH oM eqX (by rw[hxd];exact eqY)|(rw[dH];exact lW (by rw[sg_f];omega) (by rw[sg_f];omega) eqX eqY)
  replace hn76:=hn76.apn hx84 nb_hx84
  replace hd78:=hd78.apn hx84 nb_hx84
  exact⟨⟨_,_,aBm (congrArg (λz:Rat=>decide (z.num<0)) hq),by rw[<-hq];exact hn76,by rw[<-hq];exact hd78,by omega,by omega⟩,hE⟩
 have hb72p:=hb72
 refine fL ?_
 refine wsr ?_
 have hc86:=hb4.cells (o:=0) (cs:=[(.bool sx),vx,ux]) rfl
 refine rV (fT (o:=0) (cs:=[(.bool sx),vx,ux]) kK oO jI ((G70 2 rfl).trans (hF63 2)) hc86) ?_
 refine RL.call rfl rfl dC (gI (vl:=[(.agg #[(.bool sx),vx,ux])]) aEb rfl) (uU hx (by assumption) oS hdx (by assumption) oS (show jH sx (val x) (val dx)=qx from ex)) ?_
 rintro _ w87 ⟨⟨sX,vnX,vdX,xnX,xdX,rfl,hnX,lmnX,lnnX,hdX,lmdX,lndX,nzX,eqX⟩,he88⟩
 replace hE:=hE.nx he88
 refine mV (v:=(.tuple #[(.agg #[(.bool sX),vnX]),vdX])) rfl (rV (bZ (v:=(.agg #[(.bool sX),vnX])) rfl rfl) (rV (bZ (v:=vdX) rfl rfl) ?_))
 refine rU (jA (cs:=[(.bool false),(.slice none 0 0)]) iB rfl) ?_
 rintro _ w89 ⟨b90,rfl,hs93,hb92,he91⟩
 replace hb14:=hb14.ext he88
 have lt_b12_b90:=cG hb14.lt hs93.symm
 have ge_b90:=hE.ge hs93
 refine fC rfl rfl (jK (cs:=[(.bool sX),vnX]) (o:=0) iB rfl rfl rfl rfl (bG rfl (bG hnX.one fJ)) hb92 bL) ?_
 rintro w94 ⟨hn95,hx96,hz97⟩
 have nb_hx96:=(Nb.of hb92 (cH rfl (cH rfl iL)))
 replace hb92:Bk w94 b90 49 [(.bool sX),vnX]:=hn95
 refine aS (v:=vdX) rfl (aE (wsr ?_))
 replace hb9:=(hb9.ext (aB he88 he91)).exc hx96 (bR (aY lt_b7_b12 lt_b12_b90))
 have hc98:=hb9.cells (o:=0) (cs:=[(.bool sy),vy,uy]) rfl
 refine rV (fT (o:=0) (cs:=[(.bool sy),vy,uy]) kK oO jI ((G70 3 rfl).trans (hF63 3)) hc98) ?_
 replace hy:=(hy.tr (aH (aB he88 he91))).apn hx96 nb_hx96
 replace hdy:=(hdy.tr (aH (aB he88 he91))).apn hx96 nb_hx96
 refine RL.call rfl rfl dC (gI (vl:=[(.agg #[(.bool sy),vy,uy])]) aEb rfl) (uU hy (by assumption) oS hdy (by assumption) oS (show jH sy (val y) (val dy)=qy from ey)) ?_
 rintro _ w99 ⟨⟨sY,vnY,vdY,xnY,xdY,rfl,hnY,lmnY,lnnY,hdY,lmdY,lndY,nzY,eqY⟩,he100⟩
 replace hE:=((hE.nx he91).nb hx96 ge_b90).nx he100
 refine mV (v:=(.tuple #[(.agg #[(.bool sY),vnY]),vdY])) rfl (rV (bZ (v:=(.agg #[(.bool sY),vnY])) rfl rfl) (rV (bZ (v:=vdY) rfl rfl) ?_))
 refine rU (jA (cs:=[(.bool false),(.slice none 0 0)]) iB rfl) ?_
 rintro _ w101 ⟨b102,rfl,hs105,hb104,he103⟩
 replace hb92:=hb92.ext he100
 have lt_b90_b102:=cG hb92.lt hs105.symm
 have ge_b102:=hE.ge hs105
 refine fC rfl rfl (jK (cs:=[(.bool sY),vnY]) (o:=0) iB rfl rfl rfl rfl (bG rfl (bG hnY.one fJ)) hb104 bL) ?_
 rintro w106 ⟨hn107,hx108,hz109⟩
 have nb_hx108:=(Nb.of hb104 (cH rfl (cH rfl iL)))
 replace hb104:Bk w106 b102 49 [(.bool sY),vnY]:=hn107
 refine aS (v:=vdY) rfl (aE (dV (wsr (mV (v:=vdX) rfl (mV (v:=vdY) rfl ?_)))))
 replace hdX:=(((hdX.tr (aH he91)).apn hx96 nb_hx96).tr (aH (aB he100 he103))).apn hx108 nb_hx108
 replace hdY:=(hdY.tr (aH he103)).apn hx108 nb_hx108
 refine cL yC (qK hdX lmdX oS hdY lmdY oS) rfl ?_
 rintro vq113 w110 ⟨hq112,he111⟩
 subst hq112
 replace hE:=((hE.nx he103).nb hx108 ge_b102).nx he111
 refine rV (tA (k:=.i64) (a:=cmpI (((val xdX):Nat):Int) (((val xdY):Nat):Int)) (b:=0) rfl rfl) (aE ?_)
 refine wcD (p:=(cmpI (((val xdX):Nat):Int) (((val xdY):Nat):Int))=0) rfl (λhb114 hb114p=>?_) (λhb114 hb114p=>?_)
 ·have hxd:val xdX=val xdY:=by have h9:=wG.1 hb114p;omega
  refine wsr ?_
  replace hb92:=((hb92.ext he103).exc hx108 (bR lt_b90_b102)).ext he111
  have hc115:=hb92.cells (o:=0) (cs:=[(.bool sX),vnX]) rfl
  refine rV (fT (o:=0) (cs:=[(.bool sX),vnX]) iK rG iB rfl hc115) ?_
  replace hb104:=hb104.ext he111
  have hc116:=hb104.cells (o:=0) (cs:=[(.bool sY),vnY]) rfl
  refine rV (fT (o:=0) (cs:=[(.bool sY),vnY]) iK rG iB rfl hc116) ?_
  replace hnX:=((((hnX.tr (aH he91)).apn hx96 nb_hx96).tr (aH (aB he100 he103))).apn hx108 nb_hx108).tr (aH he111)
  replace hnY:=((hnY.tr (aH he103)).apn hx108 nb_hx108).tr (aH he111)
  refine RL.call rfl rfl dC (gI (vl:=[(.agg #[(.bool sX),vnX]),(.agg #[(.bool sY),vnY])]) aFy rfl) (aMq hnX lmnX oS rfl hnY lmnY oS rfl) ?_
  rintro _ w117 ⟨⟨vr119,rfl,hr120,hl121⟩,he118⟩
  replace hr120:=hr120.fr hE
  replace hE:=hE.nx he118
  refine mV (v:=vdX) rfl ?_
  replace hdX:=hdX.tr (aH (aB he111 he118))
  refine RL.call rfl rfl dC (gI (vl:=[(.agg #[(bd (((sg sX (val xnX))+(sg sY (val xnY)))<0)),vr119]),vdX]) aSd rfl) (aBn hr120 (cT _) oS (cK _) hdX lmdX oS (by first|assumption|exact hnz)) ?_
  rintro vv130 w122 ⟨⟨vn124,vd126,hv131,hn125,hd127,hl128,hl129⟩,he123⟩
  subst hv131
  have hlv132:=kJ (Rat.divInt ((sg sX (val xnX))+(sg sY (val xnY))) (((val xdX):Nat):Int))
  replace hn125:=hn125.fr hE
  replace hd127:=hd127.fr hE
  have hm137:=aB he111 (aB he118 he123)
  replace hb14:=((((hb14.ext he91).exc hx96 (bR lt_b12_b90)).ext (aB he100 he103)).exc hx108 (bR (aY lt_b12_b90 lt_b90_b102))).ext hm137
  refine fC rfl rfl (jK (cs:=[(bd ((Rat.divInt ((sg sX (val xnX))+(sg sY (val xnY))) (((val xdX):Nat):Int)).num<0)),vn124,vd126]) (o:=0) jI ((G70 4 rfl).trans (hF63 4)) rfl rfl rfl (bG rfl (bG hn125.one (bG hd127.one fJ))) hb14 bL) ?_
  rintro w133 ⟨hn134,hx135,hz136⟩
  replace hE:=(hE.nx he123).nb hx135 ge_b12
  have nb_hx135:=(Nb.of hb14 (cH rfl (cH rfl (cH rfl iL))))
  replace hb14:Bk w133 b12 51 [(bd ((Rat.divInt ((sg sX (val xnX))+(sg sY (val xnY))) (((val xdX):Nat):Int)).num<0)),vn124,vd126]:=hn134
  refine aE ?_
  refine gH ?_
  refine⟨[(.agg #[(bd ((Rat.divInt ((sg sX (val xnX))+(sg sY (val xnY))) (((val xdX):Nat):Int)).num<0)),vn124,vd126])],⟨⟨_,_,[(bd ((Rat.divInt ((sg sX (val xnX))+(sg sY (val xnY))) (((val xdX):Nat):Int)).num<0)),vn124,vd126],((G70 4 rfl).trans (hF63 4)),⟨_,kK⟩,hb14.cells rfl,.inl ⟨oO,⟨_,_,jI⟩,rfl⟩⟩,trivial⟩,?_⟩
  have hlr:=wI qx qy
  have hq:(Rat.divInt ((sg sX (val xnX))+(sg sY (val xnY))) (((val xdX):Nat):Int))=(qx+qy):=by first|(rw[hx0,fY];done)|(rw[hy0,cE];done)|exact lW hsx1.2.2.1 hsy1.2.2.1 hsx1.2.2.2.2 hsy1.2.2.2.2|exact wH oM eqX (by rw[hxd];exact eqY)|(rw[dH];exact lW (by rw[sg_f];omega) (by rw[sg_f];omega) eqX eqY)
  replace hn125:=hn125.apn hx135 nb_hx135
  replace hd127:=hd127.apn hx135 nb_hx135
  exact⟨⟨_,_,aBm (congrArg (λz:Rat=>decide (z.num<0)) hq),by rw[<-hq];exact hn125,by rw[<-hq];exact hd127,by omega,by omega⟩,hE⟩
 refine fL ?_
 refine iU λF138 hF139=>?_
 refine vN (λfl wl=>∃b161:Nat,∃vr146:Value,∃vr151:Value,∃vr157:Value,Off (15::(rg 72 9 [])) F138 fl/\fl 15=(.pointer (some ⟨b161,0,none⟩))/\(w.heap.size<=b161)/\(b102<b161)/\(Sg (gN .u32) Dx wl vx x)/\(Sg (gN .u32) Dy wl vy y)/\(Sg (gN .u32) Ex wl ux dx)/\(Sg (gN .u32) Ey wl uy dy)/\(Below w.heap.size w wl)/\(Bk wl b2 51 [(.bool sx),vx,ux])/\(Bk wl b7 51 [(.bool sy),vy,uy])/\(Bk wl b12 51 [(.bool false),(.slice none 0 0),(.slice none 0 0)])/\(Sg (gN .u32) (λ_ _=>True) wl vnX xnX)/\(Sg (gN .u32) (λ_ _=>True) wl vdX xdX)/\(Bk wl b90 49 [(.bool sX),vnX])/\(Sg (gN .u32) (λ_ _=>True) wl vnY xnY)/\(Sg (gN .u32) (λ_ _=>True) wl vdY xdY)/\(Bk wl b102 49 [(.bool sY),vnY])/\(Sg (gN .u32) (λb T=>w.heap.size<=b/\T=131) wl vr146 (aJ ((sg sX (val xnX))*(sg false (val xdY))).natAbs))/\(Sg (gN .u32) (λb T=>w.heap.size<=b/\T=131) wl vr151 (aJ ((sg sY (val xnY))*(sg false (val xdX))).natAbs))/\(Sg (gN .u32) (λb T=>w.heap.size<=b/\T=131) wl vr157 (aJ (((sg sX (val xnX))*(sg false (val xdY)))+((sg sY (val xnY))*(sg false (val xdX)))).natAbs))/\(Bk wl b161 49 [(bd ((((sg sX (val xnX))*(sg false (val xdY)))+((sg sY (val xnY))*(sg false (val xdX))))<0)),vr157])) ?_ ?_
 ·have G170:=Off.refl (15::(rg 72 9 [])) F138
  refine oQ pJ λw171 he172=>?_
  replace hE:=hE.nx he172
  replace hb92:=((hb92.ext he103).exc hx108 (bR lt_b90_b102)).ext (aB he111 he172)
  have hc173:=hb92.cells (o:=0) (cs:=[(.bool sX),vnX]) rfl
  refine aR 0 rfl (λu hu=>fT (o:=0) (cs:=[(.bool sX),vnX]) iK rG iB (hF139 11) (λj v hj=>fH hu (hc173 j v hj))) ?_
  refine aM 1 rfl (v:=vdY) (hF139 14) ?_
  refine ra 2 rfl (λ_=>mQ (vl:=[(1,vdY)]) (cs:=[(.bool false),vdY]) iK iB rfl (aMk iK) (by obtain⟨_,_,e0_,-,-⟩:=hdY.len;simp only[e0_];rfl)) ?_
  replace hb104:=hb104.ext (aB he111 he172)
  have hc174:=hb104.cells (o:=0) (cs:=[(.bool sY),vnY]) rfl
  refine aR 4 rfl (λu hu=>fT (o:=0) (cs:=[(.bool sY),vnY]) iK rG iB (hF139 13) (λj v hj=>fH hu (hc174 j v hj))) ?_
  refine aM 5 rfl (v:=vdX) (hF139 12) ?_
  refine ra 6 rfl (λ_=>mQ (vl:=[(1,vdX)]) (cs:=[(.bool false),vdX]) iK iB rfl (aMk iK) (by obtain⟨_,_,e0_,-,-⟩:=hdX.len;simp only[e0_];rfl)) ?_
  refine RA.all [3,9] kR rfl ?_
  replace hnX:=((((hnX.tr (aH he91)).apn hx96 nb_hx96).tr (aH (aB he100 he103))).apn hx108 nb_hx108).tr (aH (aB he111 he172))
  replace hdY:=hdY.tr (aH (aB he111 he172))
  refine RS.call rfl rfl rfl dC (gI (vl:=[(.agg #[(.bool sX),vnX]),(.agg #[(.bool false),vdY])]) aEc rfl) (aEe hnX lmnX oS rfl hdY lmdY oS rfl) ?_ ?_
  ·rintro _ w175 ⟨⟨vr177,rfl,hr178,hl179⟩,he176⟩
   refine rm he176 ?_
   replace hr178:=hr178.fr hE
   replace hE:=hE.nx he176
   refine RA.all [7,9] kR rfl ?_
   have hm185:=aB he111 (aB he172 he176)
   replace hnY:=((hnY.tr (aH he103)).apn hx108 nb_hx108).tr (aH hm185)
   replace hdX:=hdX.tr (aH hm185)
   refine RS.call rfl rfl rfl dC (gI (vl:=[(.agg #[(.bool sY),vnY]),(.agg #[(.bool false),vdX])]) aEc rfl) (aEe hnY lmnY oS rfl hdX lmdX oS rfl) ?_ ?_
   ·rintro _ w180 ⟨⟨vr182,rfl,hr183,hl184⟩,he181⟩
    refine rm he181 ?_
    replace hr183:=hr183.fr hE
    replace hE:=hE.nx he181
    refine RA.all [8,9] kR rfl ?_
    replace hr178:=hr178.tr (aH he181)
    refine RS.call rfl rfl rfl dC (gI (vl:=[(.agg #[(bd (((sg sX (val xnX))*(sg false (val xdY)))<0)),vr177]),(.agg #[(bd (((sg sY (val xnY))*(sg false (val xdX)))<0)),vr182])]) aFy rfl) (aMq hr178 (cT _) oS (cK _) hr183 (cT _) oS (cK _)) ?_ ?_
    ·rintro _ w186 ⟨⟨vr188,rfl,hr189,hl190⟩,he187⟩
     refine rm he187 ?_
     replace hr189:=hr189.fr hE
     replace hE:=hE.nx he187
     refine RA.all [9] kR rfl ?_
     refine RS.run rfl rfl rfl dC (jA (cs:=[(.bool false),(.slice none 0 0)]) iB rfl) ?_ RS.nil
     rintro _ w191 ⟨b192,rfl,hs195,hb194,he193⟩
     refine rm he193 ?_
     have hm196:=aB he176 (aB he181 he187)
     replace hb104:=hb104.ext hm196
     have lt_b102_b192:=cG hb104.lt hs195.symm
     have ge_b192:=hE.ge hs195
     refine RA.all [10] kR rfl ?_
     refine RS.runs rfl rfl rfl (jK (cs:=[(bd ((((sg sX (val xnX))*(sg false (val xdY)))+((sg sY (val xnY))*(sg false (val xdX))))<0)),vr188]) (o:=0) iB rfl rfl rfl rfl (bG rfl (bG hr189.one fJ)) hb194 bL) ?_ RS.nil
     rintro w197 ⟨hn198,hx199,hz200⟩
     refine⟨.inr (.inl kR),?_⟩
     replace hE:=(hE.nx he193).nb hx199 ge_b192
     have nb_hx199:=(Nb.of hb194 (cH rfl (cH rfl iL)))
     replace hb194:Bk w197 b192 49 [(bd ((((sg sX (val xnX))*(sg false (val xdY)))+((sg sY (val xnY))*(sg false (val xdX))))<0)),vr188]:=hn198
     refine RA.done kR ?_
     have hm201:=aB he111 (aB he172 (aB he176 (aB he181 (aB he187 he193))))
     replace hx:=(((((hx.tr (aH (aB he88 he91))).apn hx96 nb_hx96).tr (aH (aB he100 he103))).apn hx108 nb_hx108).tr (aH hm201)).apn hx199 nb_hx199
     replace hy:=(((hy.tr (aH (aB he100 he103))).apn hx108 nb_hx108).tr (aH hm201)).apn hx199 nb_hx199
     replace hdx:=(((((hdx.tr (aH (aB he88 he91))).apn hx96 nb_hx96).tr (aH (aB he100 he103))).apn hx108 nb_hx108).tr (aH hm201)).apn hx199 nb_hx199
     replace hdy:=(((hdy.tr (aH (aB he100 he103))).apn hx108 nb_hx108).tr (aH hm201)).apn hx199 nb_hx199
     replace hb4:=(((((hb4.ext (aB he88 he91)).exc hx96 (bR (aY lt_b2_b7 (aY lt_b7_b12 lt_b12_b90)))).ext (aB he100 he103)).exc hx108 (bR (aY lt_b2_b7 (aY lt_b7_b12 (aY lt_b12_b90 lt_b90_b102))))).ext hm201).exc hx199 (bR (aY lt_b2_b7 (aY lt_b7_b12 (aY lt_b12_b90 (aY lt_b90_b102 lt_b102_b192)))))
     replace hb9:=(((hb9.ext (aB he100 he103)).exc hx108 (bR (aY lt_b7_b12 (aY lt_b12_b90 lt_b90_b102)))).ext hm201).exc hx199 (bR (aY lt_b7_b12 (aY lt_b12_b90 (aY lt_b90_b102 lt_b102_b192))))
     replace hb14:=(((((hb14.ext he91).exc hx96 (bR lt_b12_b90)).ext (aB he100 he103)).exc hx108 (bR (aY lt_b12_b90 lt_b90_b102))).ext hm201).exc hx199 (bR (aY lt_b12_b90 (aY lt_b90_b102 lt_b102_b192)))
     have hm202:=aB hm196 he193
     replace hnX:=(hnX.tr (aH hm202)).apn hx199 nb_hx199
     have hm203:=aB he181 (aB he187 he193)
     replace hdX:=(hdX.tr (aH hm203)).apn hx199 nb_hx199
     replace hb92:=(hb92.ext hm202).exc hx199 (bR (aY lt_b90_b102 lt_b102_b192))
     replace hnY:=(hnY.tr (aH hm203)).apn hx199 nb_hx199
     replace hdY:=(hdY.tr (aH hm202)).apn hx199 nb_hx199
     replace hb104:=(hb104.ext he193).exc hx199 (bR lt_b102_b192)
     replace hr178:=(hr178.tr (aH (aB he187 he193))).apn hx199 nb_hx199
     replace hr183:=(hr183.tr (aH (aB he187 he193))).apn hx199 nb_hx199
     replace hr189:=(hr189.tr (aH he193)).apn hx199 nb_hx199
     refine⟨b192,vr177,vr182,vr188,?_,?_,?_,?_,?_,?_,?_,?_,?_,?_,?_,?_,?_,?_,?_,?_,?_,?_,?_,?_,?_,?_⟩
     ·exact(by repeat (first|exact G170|refine Off.st ?_ dC _|refine Off.via G70 dC ?_|refine Off.eq hF63 ?_))
     ·exact rfl
     ·exact ge_b192
     ·exact lt_b102_b192
     ·exact hx
     ·exact hy
     ·exact hdx
     ·exact hdy
     ·exact hE
     ·exact hb4
     ·exact hb9
     ·exact hb14
     ·exact hnX
     ·exact hdX
     ·exact hb92
     ·exact hnY
     ·exact hdY
     ·exact hb104
     ·exact hr178
     ·exact hr183
     ·exact hr189
     exact hb194
    refine RS.run rfl rfl rfl dC (jA (cs:=[(.bool false),(.slice none 0 0)]) iB rfl) ?_ RS.nil
    rintro _ w204 ⟨b205,rfl,hs208,hb207,he206⟩
    refine rm he206 ?_
    replace hb104:=hb104.ext (aB he176 he181)
    have lt_b102_b205:=cG hb104.lt hs208.symm
    have ge_b205:=hE.ge hs208
    replace hE:=hE.nx he206
    refine RA.all [8] kR rfl ?_
    replace hr178:=hr178.tr (aH he206)
    replace hr183:=hr183.tr (aH he206)
    refine RS.call rfl rfl rfl dC (gI (vl:=[(.agg #[(bd (((sg sX (val xnX))*(sg false (val xdY)))<0)),vr177]),(.agg #[(bd (((sg sY (val xnY))*(sg false (val xdX)))<0)),vr182])]) aFy rfl) (aMq hr178 (cT _) oS (cK _) hr183 (cT _) oS (cK _)) ?_ RS.nil
    rintro _ w209 ⟨⟨vr211,rfl,hr212,hl213⟩,he210⟩
    refine rm he210 ?_
    replace hr212:=hr212.fr hE
    refine RA.all [10] kR rfl ?_
    replace hb207:=hb207.ext he210
    refine RS.runs rfl rfl rfl (jK (cs:=[(bd ((((sg sX (val xnX))*(sg false (val xdY)))+((sg sY (val xnY))*(sg false (val xdX))))<0)),vr211]) (o:=0) iB rfl rfl rfl rfl (bG rfl (bG hr212.one fJ)) hb207 bL) ?_ RS.nil
    rintro w214 ⟨hn215,hx216,hz217⟩
    refine⟨.inr (.inl kR),?_⟩
    replace hE:=(hE.nx he210).nb hx216 ge_b205
    have nb_hx216:=(Nb.of hb207 (cH rfl (cH rfl iL)))
    replace hb207:Bk w214 b205 49 [(bd ((((sg sX (val xnX))*(sg false (val xdY)))+((sg sY (val xnY))*(sg false (val xdX))))<0)),vr211]:=hn215
    refine RA.done kR ?_
    have hm218:=aB he111 (aB he172 (aB he176 (aB he181 (aB he206 he210))))
    replace hx:=(((((hx.tr (aH (aB he88 he91))).apn hx96 nb_hx96).tr (aH (aB he100 he103))).apn hx108 nb_hx108).tr (aH hm218)).apn hx216 nb_hx216
    replace hy:=(((hy.tr (aH (aB he100 he103))).apn hx108 nb_hx108).tr (aH hm218)).apn hx216 nb_hx216
    replace hdx:=(((((hdx.tr (aH (aB he88 he91))).apn hx96 nb_hx96).tr (aH (aB he100 he103))).apn hx108 nb_hx108).tr (aH hm218)).apn hx216 nb_hx216
    replace hdy:=(((hdy.tr (aH (aB he100 he103))).apn hx108 nb_hx108).tr (aH hm218)).apn hx216 nb_hx216
    replace hb4:=(((((hb4.ext (aB he88 he91)).exc hx96 (bR (aY lt_b2_b7 (aY lt_b7_b12 lt_b12_b90)))).ext (aB he100 he103)).exc hx108 (bR (aY lt_b2_b7 (aY lt_b7_b12 (aY lt_b12_b90 lt_b90_b102))))).ext hm218).exc hx216 (bR (aY lt_b2_b7 (aY lt_b7_b12 (aY lt_b12_b90 (aY lt_b90_b102 lt_b102_b205)))))
    replace hb9:=(((hb9.ext (aB he100 he103)).exc hx108 (bR (aY lt_b7_b12 (aY lt_b12_b90 lt_b90_b102)))).ext hm218).exc hx216 (bR (aY lt_b7_b12 (aY lt_b12_b90 (aY lt_b90_b102 lt_b102_b205))))
    replace hb14:=(((((hb14.ext he91).exc hx96 (bR lt_b12_b90)).ext (aB he100 he103)).exc hx108 (bR (aY lt_b12_b90 lt_b90_b102))).ext hm218).exc hx216 (bR (aY lt_b12_b90 (aY lt_b90_b102 lt_b102_b205)))
    have hm219:=aB he176 (aB he181 (aB he206 he210))
    replace hnX:=(hnX.tr (aH hm219)).apn hx216 nb_hx216
    have hm220:=aB he181 (aB he206 he210)
    replace hdX:=(hdX.tr (aH hm220)).apn hx216 nb_hx216
    replace hb92:=(hb92.ext hm219).exc hx216 (bR (aY lt_b90_b102 lt_b102_b205))
    replace hnY:=(hnY.tr (aH hm220)).apn hx216 nb_hx216
    replace hdY:=(hdY.tr (aH hm219)).apn hx216 nb_hx216
    replace hb104:=(hb104.ext (aB he206 he210)).exc hx216 (bR lt_b102_b205)
    replace hr178:=(hr178.tr (aH he210)).apn hx216 nb_hx216
    replace hr183:=(hr183.tr (aH he210)).apn hx216 nb_hx216
    replace hr212:=hr212.apn hx216 nb_hx216
    refine⟨b205,vr177,vr182,vr211,?_,?_,?_,?_,?_,?_,?_,?_,?_,?_,?_,?_,?_,?_,?_,?_,?_,?_,?_,?_,?_,?_⟩
    ·exact(by repeat (first|exact G170|refine Off.st ?_ dC _|refine Off.via G70 dC ?_|refine Off.eq hF63 ?_))
    ·exact rfl
    ·exact ge_b205
    ·exact lt_b102_b205
    ·exact hx
    ·exact hy
    ·exact hdx
    ·exact hdy
    ·exact hE
    ·exact hb4
    ·exact hb9
    ·exact hb14
    ·exact hnX
    ·exact hdX
    ·exact hb92
    ·exact hnY
    ·exact hdY
    ·exact hb104
    ·exact hr178
    ·exact hr183
    ·exact hr212
    exact hb207
   refine RS.run rfl rfl rfl dC (jA (cs:=[(.bool false),(.slice none 0 0)]) iB rfl) ?_ RS.nil
   rintro _ w221 ⟨b222,rfl,hs225,hb224,he223⟩
   refine rm he223 ?_
   replace hb104:=hb104.ext he176
   have lt_b102_b222:=cG hb104.lt hs225.symm
   have ge_b222:=hE.ge hs225
   replace hE:=hE.nx he223
   refine RA.all [7] kR rfl ?_
   replace hnY:=hnY.tr (aH he223)
   replace hdX:=hdX.tr (aH he223)
   refine RS.call rfl rfl rfl dC (gI (vl:=[(.agg #[(.bool sY),vnY]),(.agg #[(.bool false),vdX])]) aEc rfl) (aEe hnY lmnY oS rfl hdX lmdX oS rfl) ?_ RS.nil
   rintro _ w226 ⟨⟨vr228,rfl,hr229,hl230⟩,he227⟩
   refine rm he227 ?_
   replace hr229:=hr229.fr hE
   replace hE:=hE.nx he227
   refine RA.all [8] kR rfl ?_
   replace hr178:=hr178.tr (aH (aB he223 he227))
   refine RS.call rfl rfl rfl dC (gI (vl:=[(.agg #[(bd (((sg sX (val xnX))*(sg false (val xdY)))<0)),vr177]),(.agg #[(bd (((sg sY (val xnY))*(sg false (val xdX)))<0)),vr228])]) aFy rfl) (aMq hr178 (cT _) oS (cK _) hr229 (cT _) oS (cK _)) ?_ RS.nil
   rintro _ w231 ⟨⟨vr233,rfl,hr234,hl235⟩,he232⟩
   refine rm he232 ?_
   replace hr234:=hr234.fr hE
   refine RA.all [10] kR rfl ?_
   replace hb224:=hb224.ext (aB he227 he232)
   refine RS.runs rfl rfl rfl (jK (cs:=[(bd ((((sg sX (val xnX))*(sg false (val xdY)))+((sg sY (val xnY))*(sg false (val xdX))))<0)),vr233]) (o:=0) iB rfl rfl rfl rfl (bG rfl (bG hr234.one fJ)) hb224 bL) ?_ RS.nil
   rintro w236 ⟨hn237,hx238,hz239⟩
   refine⟨.inr (.inl kR),?_⟩
   replace hE:=(hE.nx he232).nb hx238 ge_b222
   have nb_hx238:=(Nb.of hb224 (cH rfl (cH rfl iL)))
   replace hb224:Bk w236 b222 49 [(bd ((((sg sX (val xnX))*(sg false (val xdY)))+((sg sY (val xnY))*(sg false (val xdX))))<0)),vr233]:=hn237
   refine RA.done kR ?_
   have hm240:=aB he111 (aB he172 (aB he176 (aB he223 (aB he227 he232))))
   replace hx:=(((((hx.tr (aH (aB he88 he91))).apn hx96 nb_hx96).tr (aH (aB he100 he103))).apn hx108 nb_hx108).tr (aH hm240)).apn hx238 nb_hx238
   replace hy:=(((hy.tr (aH (aB he100 he103))).apn hx108 nb_hx108).tr (aH hm240)).apn hx238 nb_hx238
   replace hdx:=(((((hdx.tr (aH (aB he88 he91))).apn hx96 nb_hx96).tr (aH (aB he100 he103))).apn hx108 nb_hx108).tr (aH hm240)).apn hx238 nb_hx238
   replace hdy:=(((hdy.tr (aH (aB he100 he103))).apn hx108 nb_hx108).tr (aH hm240)).apn hx238 nb_hx238
   replace hb4:=(((((hb4.ext (aB he88 he91)).exc hx96 (bR (aY lt_b2_b7 (aY lt_b7_b12 lt_b12_b90)))).ext (aB he100 he103)).exc hx108 (bR (aY lt_b2_b7 (aY lt_b7_b12 (aY lt_b12_b90 lt_b90_b102))))).ext hm240).exc hx238 (bR (aY lt_b2_b7 (aY lt_b7_b12 (aY lt_b12_b90 (aY lt_b90_b102 lt_b102_b222)))))
   replace hb9:=(((hb9.ext (aB he100 he103)).exc hx108 (bR (aY lt_b7_b12 (aY lt_b12_b90 lt_b90_b102)))).ext hm240).exc hx238 (bR (aY lt_b7_b12 (aY lt_b12_b90 (aY lt_b90_b102 lt_b102_b222))))
   replace hb14:=(((((hb14.ext he91).exc hx96 (bR lt_b12_b90)).ext (aB he100 he103)).exc hx108 (bR (aY lt_b12_b90 lt_b90_b102))).ext hm240).exc hx238 (bR (aY lt_b12_b90 (aY lt_b90_b102 lt_b102_b222)))
   have hm241:=aB he176 (aB he223 (aB he227 he232))
   replace hnX:=(hnX.tr (aH hm241)).apn hx238 nb_hx238
   replace hdX:=(hdX.tr (aH (aB he227 he232))).apn hx238 nb_hx238
   replace hb92:=(hb92.ext hm241).exc hx238 (bR (aY lt_b90_b102 lt_b102_b222))
   replace hnY:=(hnY.tr (aH (aB he227 he232))).apn hx238 nb_hx238
   replace hdY:=(hdY.tr (aH hm241)).apn hx238 nb_hx238
   have hm242:=aB he223 (aB he227 he232)
   replace hb104:=(hb104.ext hm242).exc hx238 (bR lt_b102_b222)
   replace hr178:=(hr178.tr (aH he232)).apn hx238 nb_hx238
   replace hr229:=(hr229.tr (aH he232)).apn hx238 nb_hx238
   replace hr234:=hr234.apn hx238 nb_hx238
   refine⟨b222,vr177,vr228,vr233,?_,?_,?_,?_,?_,?_,?_,?_,?_,?_,?_,?_,?_,?_,?_,?_,?_,?_,?_,?_,?_,?_⟩
   ·exact(by repeat (first|exact G170|refine Off.st ?_ dC _|refine Off.via G70 dC ?_|refine Off.eq hF63 ?_))
   ·exact rfl
   ·exact ge_b222
   ·exact lt_b102_b222
   ·exact hx
   ·exact hy
   ·exact hdx
   ·exact hdy
   ·exact hE
   ·exact hb4
   ·exact hb9
   ·exact hb14
   ·exact hnX
   ·exact hdX
   ·exact hb92
   ·exact hnY
   ·exact hdY
   ·exact hb104
   ·exact hr178
   ·exact hr229
   ·exact hr234
   exact hb224
  refine RS.run rfl rfl rfl dC (jA (cs:=[(.bool false),(.slice none 0 0)]) iB rfl) ?_ RS.nil
  rintro _ w243 ⟨b244,rfl,hs247,hb246,he245⟩
  refine rm he245 ?_
  have lt_b102_b244:=cG hb104.lt hs247.symm
  have ge_b244:=hE.ge hs247
  replace hE:=hE.nx he245
  refine RA.all [3] kR rfl ?_
  replace hnX:=hnX.tr (aH he245)
  replace hdY:=hdY.tr (aH he245)
  refine RS.call rfl rfl rfl dC (gI (vl:=[(.agg #[(.bool sX),vnX]),(.agg #[(.bool false),vdY])]) aEc rfl) (aEe hnX lmnX oS rfl hdY lmdY oS rfl) ?_ RS.nil
  rintro _ w248 ⟨⟨vr250,rfl,hr251,hl252⟩,he249⟩
  refine rm he249 ?_
  replace hr251:=hr251.fr hE
  replace hE:=hE.nx he249
  refine RA.all [7] kR rfl ?_
  have hm258:=aB he111 (aB he172 (aB he245 he249))
  replace hnY:=((hnY.tr (aH he103)).apn hx108 nb_hx108).tr (aH hm258)
  replace hdX:=hdX.tr (aH hm258)
  refine RS.call rfl rfl rfl dC (gI (vl:=[(.agg #[(.bool sY),vnY]),(.agg #[(.bool false),vdX])]) aEc rfl) (aEe hnY lmnY oS rfl hdX lmdX oS rfl) ?_ RS.nil
  rintro _ w253 ⟨⟨vr255,rfl,hr256,hl257⟩,he254⟩
  refine rm he254 ?_
  replace hr256:=hr256.fr hE
  replace hE:=hE.nx he254
  refine RA.all [8] kR rfl ?_
  replace hr251:=hr251.tr (aH he254)
  refine RS.call rfl rfl rfl dC (gI (vl:=[(.agg #[(bd (((sg sX (val xnX))*(sg false (val xdY)))<0)),vr250]),(.agg #[(bd (((sg sY (val xnY))*(sg false (val xdX)))<0)),vr255])]) aFy rfl) (aMq hr251 (cT _) oS (cK _) hr256 (cT _) oS (cK _)) ?_ RS.nil
  rintro _ w259 ⟨⟨vr261,rfl,hr262,hl263⟩,he260⟩
  refine rm he260 ?_
  replace hr262:=hr262.fr hE
  refine RA.all [10] kR rfl ?_
  have hm268:=aB he249 (aB he254 he260)
  replace hb246:=hb246.ext hm268
  refine RS.runs rfl rfl rfl (jK (cs:=[(bd ((((sg sX (val xnX))*(sg false (val xdY)))+((sg sY (val xnY))*(sg false (val xdX))))<0)),vr261]) (o:=0) iB rfl rfl rfl rfl (bG rfl (bG hr262.one fJ)) hb246 bL) ?_ RS.nil
  rintro w264 ⟨hn265,hx266,hz267⟩
  refine⟨.inr (.inl kR),?_⟩
  replace hE:=(hE.nx he260).nb hx266 ge_b244
  have nb_hx266:=(Nb.of hb246 (cH rfl (cH rfl iL)))
  replace hb246:Bk w264 b244 49 [(bd ((((sg sX (val xnX))*(sg false (val xdY)))+((sg sY (val xnY))*(sg false (val xdX))))<0)),vr261]:=hn265
  refine RA.done kR ?_
  have hm269:=aB he111 (aB he172 (aB he245 (aB he249 (aB he254 he260))))
  replace hx:=(((((hx.tr (aH (aB he88 he91))).apn hx96 nb_hx96).tr (aH (aB he100 he103))).apn hx108 nb_hx108).tr (aH hm269)).apn hx266 nb_hx266
  replace hy:=(((hy.tr (aH (aB he100 he103))).apn hx108 nb_hx108).tr (aH hm269)).apn hx266 nb_hx266
  replace hdx:=(((((hdx.tr (aH (aB he88 he91))).apn hx96 nb_hx96).tr (aH (aB he100 he103))).apn hx108 nb_hx108).tr (aH hm269)).apn hx266 nb_hx266
  replace hdy:=(((hdy.tr (aH (aB he100 he103))).apn hx108 nb_hx108).tr (aH hm269)).apn hx266 nb_hx266
  replace hb4:=(((((hb4.ext (aB he88 he91)).exc hx96 (bR (aY lt_b2_b7 (aY lt_b7_b12 lt_b12_b90)))).ext (aB he100 he103)).exc hx108 (bR (aY lt_b2_b7 (aY lt_b7_b12 (aY lt_b12_b90 lt_b90_b102))))).ext hm269).exc hx266 (bR (aY lt_b2_b7 (aY lt_b7_b12 (aY lt_b12_b90 (aY lt_b90_b102 lt_b102_b244)))))
  replace hb9:=(((hb9.ext (aB he100 he103)).exc hx108 (bR (aY lt_b7_b12 (aY lt_b12_b90 lt_b90_b102)))).ext hm269).exc hx266 (bR (aY lt_b7_b12 (aY lt_b12_b90 (aY lt_b90_b102 lt_b102_b244))))
  replace hb14:=(((((hb14.ext he91).exc hx96 (bR lt_b12_b90)).ext (aB he100 he103)).exc hx108 (bR (aY lt_b12_b90 lt_b90_b102))).ext hm269).exc hx266 (bR (aY lt_b12_b90 (aY lt_b90_b102 lt_b102_b244)))
  replace hnX:=(hnX.tr (aH hm268)).apn hx266 nb_hx266
  replace hdX:=(hdX.tr (aH (aB he254 he260))).apn hx266 nb_hx266
  have hm270:=aB he245 (aB he249 (aB he254 he260))
  replace hb92:=(hb92.ext hm270).exc hx266 (bR (aY lt_b90_b102 lt_b102_b244))
  replace hnY:=(hnY.tr (aH (aB he254 he260))).apn hx266 nb_hx266
  replace hdY:=(hdY.tr (aH hm268)).apn hx266 nb_hx266
  replace hb104:=(hb104.ext hm270).exc hx266 (bR lt_b102_b244)
  replace hr251:=(hr251.tr (aH he260)).apn hx266 nb_hx266
  replace hr256:=(hr256.tr (aH he260)).apn hx266 nb_hx266
  replace hr262:=hr262.apn hx266 nb_hx266
  refine⟨b244,vr250,vr255,vr261,?_,?_,?_,?_,?_,?_,?_,?_,?_,?_,?_,?_,?_,?_,?_,?_,?_,?_,?_,?_,?_,?_⟩
  ·exact(by repeat (first|exact G170|refine Off.st ?_ dC _|refine Off.via G70 dC ?_|refine Off.eq hF63 ?_))
  ·exact rfl
  ·exact ge_b244
  ·exact lt_b102_b244
  ·exact hx
  ·exact hy
  ·exact hdx
  ·exact hdy
  ·exact hE
  ·exact hb4
  ·exact hb9
  ·exact hb14
  ·exact hnX
  ·exact hdX
  ·exact hb92
  ·exact hnY
  ·exact hdY
  ·exact hb104
  ·exact hr251
  ·exact hr256
  ·exact hr262
  exact hb246
 clear hx hy hdx hdy hE hb4 hb9 hb14 hnX hdX hb92 hnY hdY hb104
 rintro f271 w272 ⟨b161,vr146,vr151,vr157,G273,hs274,ge_b161,lt_b102_b161,hx,hy,hdx,hdy,hE,hb4,hb9,hb14,hnX,hdX,hb92,hnY,hdY,hb104,hr147,hr152,hr158,hb163⟩
 refine dV ?_
 have hi1:=aXd (sg sX (val xnX)*sg false (val xdY)) (sg sY (val xnY)*sg false (val xdX))
 have hi2:=aAp (sg sX (val xnX)) (sg false (val xdY))
 have hi3:=aAp (sg sY (val xnY)) (sg false (val xdX))
 have hi4:=wF (b:=sX) lmnX rfl
 have hi5:=wF (b:=sY) lmnY rfl
 have hi6:=wF (b:=false) lmdX rfl
 have hi7:=wF (b:=false) lmdY rfl
 have hnz:val (aJ (val xdX*val xdY))≠0:=by rw[cX];exact Nat.mul_ne_zero nzX nzY
 refine oQ pJ λw275 he276=>?_
 replace hE:=hE.nx he276
 replace hb163:=hb163.ext he276
 have hc277:=hb163.cells (o:=0) (cs:=[(bd ((((sg sX (val xnX))*(sg false (val xdY)))+((sg sY (val xnY))*(sg false (val xdX))))<0)),vr157]) rfl
 refine aR 0 rfl (λu hu=>fT (o:=0) (cs:=[(bd ((((sg sX (val xnX))*(sg false (val xdY)))+((sg sY (val xnY))*(sg false (val xdX))))<0)),vr157]) iK rG iB hs274 (λj v hj=>fH hu (hc277 j v hj))) ?_
 refine aM 1 rfl (v:=vdX) ((G273 12 rfl).trans (hF139 12)) ?_
 refine aM 2 rfl (v:=vdY) ((G273 14 rfl).trans (hF139 14)) ?_
 refine RA.all [3] kR rfl ?_
 replace hdX:=hdX.tr (aH he276)
 replace hdY:=hdY.tr (aH he276)
 refine cS aMl (aMn hdX lmdX oS hdY lmdY oS) rfl rfl ?_ RS.nil
 rintro vr280 w278 ⟨hr281,he279⟩
 refine rm he279 ?_
 replace hr281:=hr281.fr hE
 replace hE:=hE.nx he279
 have hlv282:=eO (x:=xdX) lmdX
 have hlv283:=eO (x:=xdY) lmdY
 have hlv284:=aFv (val xdX) (val xdY)
 refine RA.all [4] kR rfl ?_
 replace hr158:=hr158.tr (aH (aB he276 he279))
 refine RS.call rfl rfl rfl dC (gI (vl:=[(.agg #[(bd ((((sg sX (val xnX))*(sg false (val xdY)))+((sg sY (val xnY))*(sg false (val xdX))))<0)),vr157]),vr280]) aSd rfl) (aBn hr158 (cT _) oS (cK _) hr281 (cT _) oS (by first|assumption|exact hnz)) ?_ RS.nil
 rintro vv293 w285 ⟨⟨vn287,vd289,hv294,hn288,hd290,hl291,hl292⟩,he286⟩
 refine rm he286 ?_
 simp only[cX] at hv294
 subst hv294
 simp only[cX] at hn288 hd290 hl291 hl292
 have hlv295:=kJ (Rat.divInt (((sg sX (val xnX))*(sg false (val xdY)))+((sg sY (val xnY))*(sg false (val xdX)))) ((((val xdX)*(val xdY)):Nat):Int))
 replace hn288:=hn288.fr hE
 replace hd290:=hd290.fr hE
 refine RA.all [5] kR rfl ?_
 have hm300:=aB he276 (aB he279 he286)
 replace hb14:=hb14.ext hm300
 refine RS.runs rfl rfl rfl (jK (cs:=[(bd ((Rat.divInt (((sg sX (val xnX))*(sg false (val xdY)))+((sg sY (val xnY))*(sg false (val xdX)))) ((((val xdX)*(val xdY)):Nat):Int)).num<0)),vn287,vd289]) (o:=0) jI ((G273 4 rfl).trans ((hF139 4).trans ((G70 4 rfl).trans (hF63 4)))) rfl rfl rfl (bG rfl (bG hn288.one (bG hd290.one fJ))) hb14 bL) ?_ RS.nil
 rintro w296 ⟨hn297,hx298,hz299⟩
 refine⟨.inr (.inl kR),?_⟩
 replace hE:=(hE.nx he286).nb hx298 ge_b12
 have nb_hx298:=(Nb.of hb14 (cH rfl (cH rfl (cH rfl iL))))
 replace hb14:Bk w296 b12 51 [(bd ((Rat.divInt (((sg sX (val xnX))*(sg false (val xdY)))+((sg sY (val xnY))*(sg false (val xdX)))) ((((val xdX)*(val xdY)):Nat):Int)).num<0)),vn287,vd289]:=hn297
 refine RA.done kR ?_
 refine gH ?_
 refine⟨[(.agg #[(bd ((Rat.divInt (((sg sX (val xnX))*(sg false (val xdY)))+((sg sY (val xnY))*(sg false (val xdX)))) ((((val xdX)*(val xdY)):Nat):Int)).num<0)),vn287,vd289])],⟨⟨_,_,[(bd ((Rat.divInt (((sg sX (val xnX))*(sg false (val xdY)))+((sg sY (val xnY))*(sg false (val xdX)))) ((((val xdX)*(val xdY)):Nat):Int)).num<0)),vn287,vd289],((G273 4 rfl).trans ((hF139 4).trans ((G70 4 rfl).trans (hF63 4)))),⟨_,kK⟩,hb14.cells rfl,.inl ⟨oO,⟨_,_,jI⟩,rfl⟩⟩,trivial⟩,?_⟩
 have hlr:=wI qx qy
 have hq:(Rat.divInt (((sg sX (val xnX))*(sg false (val xdY)))+((sg sY (val xnY))*(sg false (val xdX)))) ((((val xdX)*(val xdY)):Nat):Int))=(qx+qy):=by first|(rw[hx0,fY];done)|(rw[hy0,cE];done)|exact lW hsx1.2.2.1 hsy1.2.2.1 hsx1.2.2.2.2 hsy1.2.2.2.2|exact wH oM eqX (by rw[hxd];exact eqY)|(rw[dH];exact lW (by rw[sg_f];omega) (by rw[sg_f];omega) eqX eqY)
 replace hn288:=hn288.apn hx298 nb_hx298
 replace hd290:=hd290.apn hx298 nb_hx298
 exact⟨⟨_,_,aBm (congrArg (λz:Rat=>decide (z.num<0)) hq),by rw[<-hq];exact hn288,by rw[<-hq];exact hd290,by omega,by omega⟩,hE⟩
theorem q_mul {w:World} {sx:Bool} {Dx Ex:Nat->TypeId->Prop} {vx ux:Value} {x dx:List Nat} (hx:Sg (gN .u32) Dx w vx x) (lmx:Lm x) (lnx:x.length<=17179869184) (hdx:Sg (gN .u32) Ex w ux dx) (lmdx:Lm dx) (lndx:dx.length<=17179869184) {qx:Rat} (ex:jH sx (val x) (val dx)=qx) {sy:Bool} {Dy Ey:Nat->TypeId->Prop} {vy uy:Value} {y dy:List Nat} (hy:Sg (gN .u32) Dy w vy y) (lmy:Lm y) (lny:y.length<=17179869184) (hdy:Sg (gN .u32) Ey w uy dy) (lmdy:Lm dy) (lndy:dy.length<=17179869184) {qy:Rat} (ey:jH sy (val y) (val dy)=qy):
 Calls Tryz.prog 44 #[(.agg #[(.bool sx),vx,ux]),(.agg #[(.bool sy),vy,uy])] w λe w'=>∃v,e= .returned v/\(∃vn vd,v= .agg #[.bool (decide ((qx*qy).num<0)),vn,vd]/\Sg (gN .u32) (λb T=>w.heap.size<=b/\T=131) w' vn (aJ (qx*qy).num.natAbs)/\Sg (gN .u32) (λb T=>w.heap.size<=b/\T=131) w' vd (aJ (qx*qy).den)/\(aJ (qx*qy).num.natAbs).length<=x.length+y.length/\(aJ (qx*qy).den).length<=dx.length+dy.length+2)/\Ext w w':=by
 have hE:Below w.heap.size w w:=Below.refl _ _
 have hlqx:=aAi lmx lmdx ex
 have hdqx:=kJ qx
 have hlqy:=aAi lmy lmdy ey
 have hdqy:=kJ qy
 refine eE (n:=55) (rs:=[.cell 4 51]) func44 rfl rfl rfl bL ?_
 refine iU λF0 hF0=>?_
 refine wsr ?_
 refine rU (qT (cs:=[(.bool sx),vx,ux]) (hF0 0) rfl) ?_
 rintro _ w1 ⟨b2,rfl,hs5,hb4,he3⟩
 have ge_b2:=hE.ge hs5
 replace hE:=hE.nx he3
 refine rU (qT (cs:=[(.bool sy),vy,uy]) (hF0 1) rfl) ?_
 rintro _ w6 ⟨b7,rfl,hs10,hb9,he8⟩
 have lt_b2_b7:=cG hb4.lt hs10.symm
 have ge_b7:=hE.ge hs10
 replace hE:=hE.nx he8
 refine rU (jA (cs:=[(.bool false),(.slice none 0 0),(.slice none 0 0)]) jI rfl) ?_
 rintro _ w11 ⟨b12,rfl,hs15,hb14,he13⟩
 have lt_b7_b12:=cG hb9.lt hs15.symm
 have ge_b12:=hE.ge hs15
 refine aE (wsr ?_)
 replace hb4:=hb4.ext (aB he8 he13)
 have hc16:=hb4.cells (o:=0) (cs:=[(.bool sx),vx,ux]) rfl
 refine rV (fT (o:=0) (cs:=[(.bool sx),vx,ux]) kK oO jI rfl hc16) ?_
 have hm19:=aB he3 (aB he8 he13)
 replace hx:=hx.tr (aH hm19)
 replace hdx:=hdx.tr (aH hm19)
 refine RL.call rfl rfl dC (gI (vl:=[(.agg #[(.bool sx),vx,ux])]) aFx rfl) (xC hx (by assumption) oS hdx (by assumption) oS (show jH sx (val x) (val dx)=qx from ex)) ?_
 rintro _ w17 ⟨⟨nX,dX,okX,rfl,hsX⟩,he18⟩
 refine mV (v:=(.tuple #[(iv nX),(iv dX),(.bool okX)])) rfl (rV (bZ (v:=(iv nX)) rfl rfl) (rV (bZ (v:=(iv dX)) rfl rfl) (rV (bZ (v:=(.bool okX)) rfl rfl) (aS (v:=(iv nX)) rfl (aS (v:=(iv dX)) rfl (aS (v:=(.bool okX)) rfl (aE (wsr ?_))))))))
 replace hb9:=hb9.ext (aB he13 he18)
 have hc20:=hb9.cells (o:=0) (cs:=[(.bool sy),vy,uy]) rfl
 refine rV (fT (o:=0) (cs:=[(.bool sy),vy,uy]) kK oO jI rfl hc20) ?_
 have hm23:=aB hm19 he18
 replace hy:=hy.tr (aH hm23)
 replace hdy:=hdy.tr (aH hm23)
 refine RL.call rfl rfl dC (gI (vl:=[(.agg #[(.bool sy),vy,uy])]) aFx rfl) (xC hy (by assumption) oS hdy (by assumption) oS (show jH sy (val y) (val dy)=qy from ey)) ?_
 rintro _ w21 ⟨⟨nY,dY,okY,rfl,hsY⟩,he22⟩
 replace hE:=((hE.nx he13).nx he18).nx he22
 refine mV (v:=(.tuple #[(iv nY),(iv dY),(.bool okY)])) rfl (rV (bZ (v:=(iv nY)) rfl rfl) (rV (bZ (v:=(iv dY)) rfl rfl) (rV (bZ (v:=(.bool okY)) rfl rfl) (aS (v:=(iv nY)) rfl (aS (v:=(iv dY)) rfl (aS (v:=(.bool okY)) rfl (aE (dV ?_))))))))
 refine iU λF24 hF25=>?_
 refine vN (λfl wl=>∃t:Bool,Off [27,28,29,30] F24 fl/\fl 30=(.bool t)/\(t=true->okX=true/\okY=true)/\(Sg (gN .u32) Dx wl vx x)/\(Sg (gN .u32) Dy wl vy y)/\(Sg (gN .u32) Ex wl ux dx)/\(Sg (gN .u32) Ey wl uy dy)/\(Below w.heap.size w wl)/\(Bk wl b2 51 [(.bool sx),vx,ux])/\(Bk wl b7 51 [(.bool sy),vy,uy])/\(Bk wl b12 51 [(.bool false),(.slice none 0 0),(.slice none 0 0)])) ?_ ?_
 ·have G26:=Off.refl [27,28,29,30] F24
  refine cV (mV (v:=(.bool okX)) (hF25 7) (mV (v:=(.bool okX)) rfl ?_))
  rcases iJ (okX) with hb27|hb27
  ·have hb27p:=hb27
   have hokX:=hb27
   refine RL.gval rfl rfl (aW hb27) rfl dC (gS (v:=(.bool okY)) (hF25 10)) ?_
   refine rV (kT (v:=(.bool okY)) (aW hb27) rfl) (aE ?_)
   replace hx:=hx.tr (aH (aB he18 he22))
   replace hy:=hy.tr (aH he22)
   replace hdx:=hdx.tr (aH (aB he18 he22))
   replace hdy:=hdy.tr (aH he22)
   replace hb4:=hb4.ext (aB he18 he22)
   replace hb9:=hb9.ext he22
   replace hb14:=hb14.ext (aB he18 he22)
   refine⟨okY,?_,?_,?_,?_,?_,?_,?_,?_,?_,?_,?_⟩
   ·exact(by repeat (first|exact G26|refine Off.st ?_ dC _))
   ·rfl
   ·exact λh=>⟨hokX,h⟩
   ·exact hx
   ·exact hy
   ·exact hdx
   ·exact hdy
   ·exact hE
   ·exact hb4
   ·exact hb9
   exact hb14
  have hb27p:=hb27
  refine RL.gno rfl rfl (aW hb27) rfl dC ?_
  refine rV (mO (v:=(.bool false)) (aW hb27) rfl) (aE ?_)
  replace hx:=hx.tr (aH (aB he18 he22))
  replace hy:=hy.tr (aH he22)
  replace hdx:=hdx.tr (aH (aB he18 he22))
  replace hdy:=hdy.tr (aH he22)
  replace hb4:=hb4.ext (aB he18 he22)
  replace hb9:=hb9.ext he22
  replace hb14:=hb14.ext (aB he18 he22)
  refine⟨false,?_,?_,?_,?_,?_,?_,?_,?_,?_,?_,?_⟩
  ·exact(by repeat (first|exact G26|refine Off.st ?_ dC _))
  ·rfl
  ·exact λh=>by cases h
  ·exact hx
  ·exact hy
  ·exact hdx
  ·exact hdy
  ·exact hE
  ·exact hb4
  ·exact hb9
  exact hb14
 clear hx hy hdx hdy hE hb4 hb9 hb14
 rintro f28 w29 ⟨t,G30,hs31,ht,hx,hy,hdx,hdy,hE,hb4,hb9,hb14⟩
 refine uQ (b:=t) hs31 (λhb32=>?_) (λhb32=>?_)
 ·have hb32p:=hb32
  have hsx1:=hsX (ht hb32).1
  have hsy1:=hsY (ht hb32).2
  refine dV ?_
  have hm1:=xP (a:=nX) (b:=dY) ⟨by omega,by omega⟩ ⟨by omega,by omega⟩
  have hm2:=xP (a:=nY) (b:=dX) ⟨by omega,by omega⟩ ⟨by omega,by omega⟩
  have hm3:=xP (a:=dX) (b:=dY) ⟨by omega,by omega⟩ ⟨by omega,by omega⟩
  have hm4:=xP (a:=nX) (b:=nY) ⟨by omega,by omega⟩ ⟨by omega,by omega⟩
  have hmp:=vI hsx1.2.2.1 hsy1.2.2.1
  refine cV (mV (v:=(iv nX)) ((G30 5 rfl).trans (hF25 5)) (mV (v:=(iv nY)) ((G30 8 rfl).trans (hF25 8)) (rV (uR (k:=.i64) (a:=nX) (b:=nY) (c:=nX*nY) rfl rfl (jS oM)) (mV (v:=(iv dX)) ((G30 6 rfl).trans (hF25 6)) (mV (v:=(iv dY)) ((G30 9 rfl).trans (hF25 9)) (rV (uR (k:=.i64) (a:=dX) (b:=dY) (c:=dX*dY) rfl rfl (jS oM)) ?_))))))
  refine cL aXg (aOv oM oM) rfl ?_
  rintro _ w33 ⟨⟨vn35,vd37,rfl,hn36,hd38,hl39,hl40⟩,he34⟩
  have hlv41:=kJ (Rat.divInt (nX*nY) (dX*dY))
  replace hn36:=hn36.fr hE
  replace hd38:=hd38.fr hE
  replace hb14:=hb14.ext he34
  refine fC rfl rfl (jK (cs:=[(bd ((Rat.divInt (nX*nY) (dX*dY)).num<0)),vn35,vd37]) (o:=0) jI ((G30 4 rfl).trans (hF25 4)) rfl rfl rfl (bG rfl (bG hn36.one (bG hd38.one fJ))) hb14 bL) ?_
  rintro w42 ⟨hn43,hx44,hz45⟩
  replace hE:=(hE.nx he34).nb hx44 ge_b12
  have nb_hx44:=(Nb.of hb14 (cH rfl (cH rfl (cH rfl iL))))
  replace hb14:Bk w42 b12 51 [(bd ((Rat.divInt (nX*nY) (dX*dY)).num<0)),vn35,vd37]:=hn43
  refine aE ?_
  refine gH ?_
  refine⟨[(.agg #[(bd ((Rat.divInt (nX*nY) (dX*dY)).num<0)),vn35,vd37])],⟨⟨_,_,[(bd ((Rat.divInt (nX*nY) (dX*dY)).num<0)),vn35,vd37],((G30 4 rfl).trans (hF25 4)),⟨_,kK⟩,hb14.cells rfl,.inl ⟨oO,⟨_,_,jI⟩,rfl⟩⟩,trivial⟩,?_⟩
  have hlr:=aGe qx qy
  have hq:(Rat.divInt (nX*nY) (dX*dY))=(qx*qy):=by first|exact xB hsx1.2.2.2.2 hsy1.2.2.2.2|(rw[dH];exact xB eqX eqY)
  replace hn36:=hn36.apn hx44 nb_hx44
  replace hd38:=hd38.apn hx44 nb_hx44
  exact⟨⟨_,_,aBm (congrArg (λz:Rat=>decide (z.num<0)) hq),by rw[<-hq];exact hn36,by rw[<-hq];exact hd38,by omega,by omega⟩,hE⟩
 have hb32p:=hb32
 refine fL ?_
 refine wsr ?_
 have hc46:=hb4.cells (o:=0) (cs:=[(.bool sx),vx,ux]) rfl
 refine rV (fT (o:=0) (cs:=[(.bool sx),vx,ux]) kK oO jI ((G30 2 rfl).trans (hF25 2)) hc46) ?_
 refine RL.call rfl rfl dC (gI (vl:=[(.agg #[(.bool sx),vx,ux])]) aEb rfl) (uU hx (by assumption) oS hdx (by assumption) oS (show jH sx (val x) (val dx)=qx from ex)) ?_
 rintro _ w47 ⟨⟨sX,vnX,vdX,xnX,xdX,rfl,hnX,lmnX,lnnX,hdX,lmdX,lndX,nzX,eqX⟩,he48⟩
 replace hE:=hE.nx he48
 refine mV (v:=(.tuple #[(.agg #[(.bool sX),vnX]),vdX])) rfl (rV (bZ (v:=(.agg #[(.bool sX),vnX])) rfl rfl) (rV (bZ (v:=vdX) rfl rfl) ?_))
 refine rU (jA (cs:=[(.bool false),(.slice none 0 0)]) iB rfl) ?_
 rintro _ w49 ⟨b50,rfl,hs53,hb52,he51⟩
 replace hb14:=hb14.ext he48
 have lt_b12_b50:=cG hb14.lt hs53.symm
 have ge_b50:=hE.ge hs53
 refine fC rfl rfl (jK (cs:=[(.bool sX),vnX]) (o:=0) iB rfl rfl rfl rfl (bG rfl (bG hnX.one fJ)) hb52 bL) ?_
 rintro w54 ⟨hn55,hx56,hz57⟩
 have nb_hx56:=(Nb.of hb52 (cH rfl (cH rfl iL)))
 replace hb52:Bk w54 b50 49 [(.bool sX),vnX]:=hn55
 refine aS (v:=vdX) rfl (aE (wsr ?_))
 replace hb9:=(hb9.ext (aB he48 he51)).exc hx56 (bR (aY lt_b7_b12 lt_b12_b50))
 have hc58:=hb9.cells (o:=0) (cs:=[(.bool sy),vy,uy]) rfl
 refine rV (fT (o:=0) (cs:=[(.bool sy),vy,uy]) kK oO jI ((G30 3 rfl).trans (hF25 3)) hc58) ?_
 replace hy:=(hy.tr (aH (aB he48 he51))).apn hx56 nb_hx56
 replace hdy:=(hdy.tr (aH (aB he48 he51))).apn hx56 nb_hx56
 refine RL.call rfl rfl dC (gI (vl:=[(.agg #[(.bool sy),vy,uy])]) aEb rfl) (uU hy (by assumption) oS hdy (by assumption) oS (show jH sy (val y) (val dy)=qy from ey)) ?_
 rintro _ w59 ⟨⟨sY,vnY,vdY,xnY,xdY,rfl,hnY,lmnY,lnnY,hdY,lmdY,lndY,nzY,eqY⟩,he60⟩
 replace hE:=((hE.nx he51).nb hx56 ge_b50).nx he60
 refine mV (v:=(.tuple #[(.agg #[(.bool sY),vnY]),vdY])) rfl (rV (bZ (v:=(.agg #[(.bool sY),vnY])) rfl rfl) (rV (bZ (v:=vdY) rfl rfl) ?_))
 refine rU (jA (cs:=[(.bool false),(.slice none 0 0)]) iB rfl) ?_
 rintro _ w61 ⟨b62,rfl,hs65,hb64,he63⟩
 replace hb52:=hb52.ext he60
 have lt_b50_b62:=cG hb52.lt hs65.symm
 have ge_b62:=hE.ge hs65
 refine fC rfl rfl (jK (cs:=[(.bool sY),vnY]) (o:=0) iB rfl rfl rfl rfl (bG rfl (bG hnY.one fJ)) hb64 bL) ?_
 rintro w66 ⟨hn67,hx68,hz69⟩
 replace hE:=(hE.nx he63).nb hx68 ge_b62
 have nb_hx68:=(Nb.of hb64 (cH rfl (cH rfl iL)))
 replace hb64:Bk w66 b62 49 [(.bool sY),vnY]:=hn67
 refine aS (v:=vdY) rfl (aE (wsr ?_))
 replace hb52:=(hb52.ext he63).exc hx68 (bR lt_b50_b62)
 have hc70:=hb52.cells (o:=0) (cs:=[(.bool sX),vnX]) rfl
 refine rV (fT (o:=0) (cs:=[(.bool sX),vnX]) iK rG iB rfl hc70) ?_
 have hc71:=hb64.cells (o:=0) (cs:=[(.bool sY),vnY]) rfl
 refine rV (fT (o:=0) (cs:=[(.bool sY),vnY]) iK rG iB rfl hc71) ?_
 replace hnX:=(((hnX.tr (aH he51)).apn hx56 nb_hx56).tr (aH (aB he60 he63))).apn hx68 nb_hx68
 replace hnY:=(hnY.tr (aH he63)).apn hx68 nb_hx68
 refine RL.call rfl rfl dC (gI (vl:=[(.agg #[(.bool sX),vnX]),(.agg #[(.bool sY),vnY])]) aEc rfl) (aEe hnX lmnX oS rfl hnY lmnY oS rfl) ?_
 rintro _ w72 ⟨⟨vr74,rfl,hr75,hl76⟩,he73⟩
 replace hr75:=hr75.fr hE
 replace hE:=hE.nx he73
 refine mV (v:=vdX) rfl (mV (v:=vdY) rfl ?_)
 replace hdX:=((((hdX.tr (aH he51)).apn hx56 nb_hx56).tr (aH (aB he60 he63))).apn hx68 nb_hx68).tr (aH he73)
 replace hdY:=((hdY.tr (aH he63)).apn hx68 nb_hx68).tr (aH he73)
 refine cL aMl (aMn hdX lmdX oS hdY lmdY oS) rfl ?_
 rintro vr79 w77 ⟨hr80,he78⟩
 replace hr80:=hr80.fr hE
 replace hE:=hE.nx he78
 have hlv81:=eO (x:=xdX) lmdX
 have hlv82:=eO (x:=xdY) lmdY
 have hlv83:=aFv (val xdX) (val xdY)
 have hnz:val (aJ (val xdX*val xdY))≠0:=by rw[cX];exact Nat.mul_ne_zero nzX nzY
 replace hr75:=hr75.tr (aH he78)
 refine RL.call rfl rfl dC (gI (vl:=[(.agg #[(bd (((sg sX (val xnX))*(sg sY (val xnY)))<0)),vr74]),vr79]) aSd rfl) (aBn hr75 (cT _) oS (cK _) hr80 (cT _) oS (by first|assumption|exact hnz)) ?_
 rintro vv92 w84 ⟨⟨vn86,vd88,hv93,hn87,hd89,hl90,hl91⟩,he85⟩
 simp only[cX] at hv93
 subst hv93
 simp only[cX] at hn87 hd89 hl90 hl91
 have hlv94:=kJ (Rat.divInt ((sg sX (val xnX))*(sg sY (val xnY))) ((((val xdX)*(val xdY)):Nat):Int))
 replace hn87:=hn87.fr hE
 replace hd89:=hd89.fr hE
 have hm99:=aB he73 (aB he78 he85)
 replace hb14:=((((hb14.ext he51).exc hx56 (bR lt_b12_b50)).ext (aB he60 he63)).exc hx68 (bR (aY lt_b12_b50 lt_b50_b62))).ext hm99
 refine fC rfl rfl (jK (cs:=[(bd ((Rat.divInt ((sg sX (val xnX))*(sg sY (val xnY))) ((((val xdX)*(val xdY)):Nat):Int)).num<0)),vn86,vd88]) (o:=0) jI ((G30 4 rfl).trans (hF25 4)) rfl rfl rfl (bG rfl (bG hn87.one (bG hd89.one fJ))) hb14 bL) ?_
 rintro w95 ⟨hn96,hx97,hz98⟩
 replace hE:=(hE.nx he85).nb hx97 ge_b12
 have nb_hx97:=(Nb.of hb14 (cH rfl (cH rfl (cH rfl iL))))
 replace hb14:Bk w95 b12 51 [(bd ((Rat.divInt ((sg sX (val xnX))*(sg sY (val xnY))) ((((val xdX)*(val xdY)):Nat):Int)).num<0)),vn86,vd88]:=hn96
 refine aE ?_
 refine gH ?_
 refine⟨[(.agg #[(bd ((Rat.divInt ((sg sX (val xnX))*(sg sY (val xnY))) ((((val xdX)*(val xdY)):Nat):Int)).num<0)),vn86,vd88])],⟨⟨_,_,[(bd ((Rat.divInt ((sg sX (val xnX))*(sg sY (val xnY))) ((((val xdX)*(val xdY)):Nat):Int)).num<0)),vn86,vd88],((G30 4 rfl).trans (hF25 4)),⟨_,kK⟩,hb14.cells rfl,.inl ⟨oO,⟨_,_,jI⟩,rfl⟩⟩,trivial⟩,?_⟩
 have hlr:=aGe qx qy
 have hq:(Rat.divInt ((sg sX (val xnX))*(sg sY (val xnY))) ((((val xdX)*(val xdY)):Nat):Int))=(qx*qy):=by first|exact xB hsx1.2.2.2.2 hsy1.2.2.2.2|(rw[dH];exact xB eqX eqY)
 replace hn87:=hn87.apn hx97 nb_hx97
 replace hd89:=hd89.apn hx97 nb_hx97
 exact⟨⟨_,_,aBm (congrArg (λz:Rat=>decide (z.num<0)) hq),by rw[<-hq];exact hn87,by rw[<-hq];exact hd89,by omega,by omega⟩,hE⟩
end Go.Proofs.YtlhdigjbokkbiaaGreat.W
namespace Go.Vm
abbrev En:Type:=Int×Rat
def get:List En->Int->Rat
 |[],_=>0
 |e::es,i=>(if e.1=i then e.2 else 0)+get es i
def Asc (es:List En):Prop:=es.Pairwise λa b=>a.1<b.1
def aGf (es:List En):Prop:=∀e∈es,e.2≠0
theorem mZ (a b:List En) (i:Int):get (a++b) i=get a i+get b i:=by
 induction a with
 |nil=>rw[kC];show get b i=0+get b i;rw[fY]
 |cons e a ih=>show _+get (a++b) i=_+get a i+get b i;rw[ih,pW]
theorem aYh {a b:List En} (h:a.Perm b) (i:Int):get a i=get b i:=by
 induction h with
 |nil=>rfl
 |cons e h ih=>show _+_=_+_;rw[ih]
 |swap x y l=>
  show(if y.1=i then y.2 else 0)+((if x.1=i then x.2 else 0)+get l i)=(if x.1=i then x.2 else 0)+((if y.1=i then y.2 else 0)+get l i)
  rw[<-pW,<-pW,Rat.add_comm (if y.1=i then y.2 else 0)]
 |trans h1 h2 a b=>rw[a,b]
theorem mS {a:List En} {i:Int} (h:∀e∈a,e.1≠i):get a i=0:=by
 induction a with
 |nil=>rfl
 |cons e a ih=>
  show(if e.1=i then e.2 else 0)+get a i=0
  rw[if_neg (h e (by simp)),ih (λe he=>h e (by simp[he])),cE]
theorem Asc.tail {e:En} {a:List En} (h:Asc (e::a)):Asc a:=(uG.1 h).2
theorem Asc.head {e:En} {a:List En} (h:Asc (e::a)):∀x∈a,e.1<x.1:=(uG.1 h).1
theorem lZ {e:En} {a:List En} (h:Asc (e::a)):get (e::a) e.1=e.2:=by
 show(if e.1=e.1 then e.2 else 0)+get a e.1=e.2
 rw[if_pos rfl,mS (λx hx=>by have:=h.head x hx;omega),cE]
theorem qL {a:List En} {i:Int} (h:∀x∈a,i<x.1):get a i=0:=mS λe he=>by have:=h e he;omega
theorem lK {e:En} {a:List En} {i:Int} (h:e.1≠i):get (e::a) i=get a i:=by
 show(if e.1=i then e.2 else 0)+get a i=get a i
 rw[if_neg h,fY]
theorem aDe:∀(a b:List En),Asc a->Asc b->aGf a->aGf b->(∀i,get a i=get b i)->a=b
 |[],[],_,_,_,_,_=>rfl
 |[],y::b,_,hb,_,zb,h=>by have:=h y.1;rw[lZ hb] at this;exact absurd this.symm (zb y (by simp))
 |x::a,[],ha,_,za,_,h=>by have:=h x.1;rw[lZ ha] at this;exact absurd this (za x (by simp))
 |x::a,y::b,ha,hb,za,zb,h=>by
  have hx:=h x.1
  have hy:=h y.1
  rw[lZ ha] at hx
  rw[lZ hb] at hy
  have hxy:x.1=y.1:=by
   rcases gW x.1 y.1 with h1|h1|h1
   ·rw[qL (a:=y::b) (λz hz=>by rcases bJ.1 hz with rfl|hz;exact h1;exact kS h1 (hb.head z hz))] at hx
    exact absurd hx (za x (by simp))
   ·exact h1
   rw[qL (a:=x::a) (λz hz=>by rcases bJ.1 hz with rfl|hz;exact h1;exact kS h1 (ha.head z hz))] at hy
   exact absurd hy.symm (zb y (by simp))
  have e1:x.2=y.2:=by rw[hx,hxy,lZ hb]
  have e2:x=y:=Prod.ext hxy e1
  subst e2
  congr 1
  refine aDe a b ha.tail hb.tail (λe he=>za e (by simp[he])) (λe he=>zb e (by simp[he])) λi=>?_
  by_cases hi:x.1=i
  ·subst hi
   rw[qL ha.head,qL hb.head]
  have:=h i
  rwa [lK hi,lK hi] at this
inductive Stp:List En->List En->Int->Rat->Rat->List En->List En->Prop
 |l (x:En) (a:List En):Stp (x::a) [] x.1 x.2 0 a []
 |r (y:En) (b:List En):Stp [] (y::b) y.1 0 y.2 [] b
 |eq (x y:En) (a b:List En) (h:x.1=y.1):Stp (x::a) (y::b) x.1 x.2 y.2 a b
 |lt (x y:En) (a b:List En) (h:x.1<y.1):Stp (x::a) (y::b) x.1 x.2 0 a (y::b)
 |gt (x y:En) (a b:List En) (h:y.1<x.1):Stp (x::a) (y::b) y.1 0 y.2 (x::a) b
theorem Stp.law {a b a' b':List En} {i:Int} {p q:Rat} (h:Stp a b i p q a' b') (ha:Asc a) (hb:Asc b):
 Asc a'/\Asc b'/\(∀e∈a',i<e.1)/\(∀e∈b',i<e.1)/\get a i=p/\get b i=q/\(∀j,j≠i->get a j=get a' j/\get b j=get b' j)/\a'.length+b'.length<a.length+b.length/\(∀z,(∀e∈a,z<e.1)->(∀e∈b,z<e.1)->z<i):=by
 cases h with
 |l x=>exact⟨ha.tail,hb,ha.head,by simp,lZ ha,rfl,λj hj=>⟨lK (iQ hj),rfl⟩,by simp,λz h1 _=>h1 x (by simp)⟩
 |r y=>exact⟨ha,hb.tail,by simp,hb.head,rfl,lZ hb,λj hj=>⟨rfl,lK (iQ hj)⟩,by simp,λz _ h1=>h1 y (by simp)⟩
 |eq x y a b h=>exact⟨ha.tail,hb.tail,ha.head,by rw[h];exact hb.head,lZ ha,by rw[h];exact lZ hb,λj hj=>⟨lK (iQ hj),lK (by rw[<-h];exact iQ hj)⟩,by simp;omega,λz h1 _=>h1 x (by simp)⟩
 |lt x y a b h=>exact⟨ha.tail,hb,ha.head,λe he=>by rcases bJ.1 he with rfl|he;exact h;exact kS h (hb.head e he),lZ ha,qL (λe he=>by rcases bJ.1 he with rfl|he;exact h;exact kS h (hb.head e he)),λj hj=>⟨lK (iQ hj),rfl⟩,by simp,λz h1 _=>h1 x (by simp)⟩
 |gt x y a b h=>exact⟨ha,hb.tail,λe he=>by rcases bJ.1 he with rfl|he;exact h;exact kS h (ha.head e he),hb.head,qL (λe he=>by rcases bJ.1 he with rfl|he;exact h;exact kS h (ha.head e he)),lZ hb,λj hj=>⟨rfl,lK (iQ hj)⟩,by simp,λz _ h1=>h1 y (by simp)⟩
def aOw:List (Rat×Rat)->Rat
 |[]=>0
 |x::l=>x.1*x.2+aOw l
def dtF:List En->List En->Rat
 |[],_=>0
 |e::a,b=>e.2*get b e.1+dtF a b
theorem aVq (l:List (Rat×Rat)) (p q:Rat):aOw (l++[(p,q)])=aOw l+p*q:=by
 induction l with
 |nil=>show p*q+0=0+p*q;rw[cE,fY]
 |cons x l ih=>show _+aOw (l++[(p,q)])=_+aOw l+p*q;rw[ih,pW]
theorem aVr {a b b':List En} (h:∀e∈a,get b e.1=get b' e.1):dtF a b=dtF a b':=by
 induction a with
 |nil=>rfl
 |cons e a ih=>show _*_+_=_*_+_;rw[h e (by simp),ih (λe he=>h e (by simp[he]))]
theorem Stp.dt {a b a' b':List En} {i:Int} {p q:Rat} (h:Stp a b i p q a' b') (ha:Asc a) (hb:Asc b):dtF a b=p*q+dtF a' b':=by
 obtain⟨h1,h2,h3,h4,h5,h6,h7,_⟩:=h.law ha hb
 have hc:dtF a' b=dtF a' b':=aVr λe he=>(h7 e.1 (by have:=h3 e he;omega)).2
 cases h with
 |l x=>show x.2*get [] x.1+dtF a' []=x.2*0+dtF a' [];rfl
 |r y=>show(0:Rat)=0*y.2+0;rw[fZ,cE]
 |eq x y=>show x.2*get (y::b') x.1+dtF a' (y::b')=_;rw[h6,hc]
 |lt x y=>show x.2*get (y::_) x.1+dtF a' (y::_)=_;rw[h6]
 |gt x y=>rw[hc,fZ,fY]
structure Mg (op:Rat->Rat->Rat) (a0 b0 a b rs:List En) (ps:List (Rat×Rat)):Prop where
 aa:Asc a
 ab:Asc b
 ar:Asc rs
 nz:aGf rs
 lo:∀e∈rs,(∀x∈a,e.1<x.1)/\(∀x∈b,e.1<x.1)
 gt:∀j,(get a j=get a0 j/\get b j=get b0 j/\get rs j=0)\/(get a j=0/\get b j=0/\get rs j=op (get a0 j) (get b0 j)/\(∀x∈a,j<x.1)/\(∀x∈b,j<x.1))
 dt:aOw ps+dtF a b=dtF a0 b0
theorem aEg {rs:List En} {i j:Int} {q:Rat} (h:j≠i):get (rs++[(i,q)]) j=get rs j:=by
 rw[mZ];show get rs j+((if i=j then q else 0)+0)=get rs j
 rw[if_neg (iQ h),cE,cE]
theorem aMr {rs:List En} {i:Int} {q:Rat} (h:get rs i=0):get (rs++[(i,q)]) i=q:=by
 rw[mZ,h];show 0+((if i=i then q else 0)+0)=q
 rw[if_pos rfl,cE,fY]
theorem Mg.start {op:Rat->Rat->Rat} {a b:List En} (ha:Asc a) (hb:Asc b):Mg op a b a b [] []:=
 ⟨ha,hb,List.Pairwise.nil,(λ_ h=>by cases h),(λ_ h=>by cases h),λ_=> .inl ⟨rfl,rfl,rfl⟩,by show 0+_=_;rw[fY]⟩
theorem Mg.step {op:Rat->Rat->Rat} {a0 b0 a b rs a' b':List En} {ps:List (Rat×Rat)} {i:Int} {p q:Rat} (H:Mg op a0 b0 a b rs ps) (h:Stp a b i p q a' b'):
 (op p q=0->Mg op a0 b0 a' b' rs (ps++[(p,q)]))/\(op p q≠0->Mg op a0 b0 a' b' (rs++[(i,op p q)]) (ps++[(p,q)])):=by
 obtain⟨h1,h2,h3,h4,h5,h6,h7,h8,h9⟩:=h.law H.aa H.ab
 have hlo:∀e∈rs,e.1<i:=λe he=>h9 e.1 (H.lo e he).1 (H.lo e he).2
 have hri:get rs i=0:=mS λe he=>by have:=hlo e he;omega
 have ga':get a' i=0:=qL h3
 have gb':get b' i=0:=qL h4
 have hi':get a0 i=p/\get b0 i=q:=by
  rcases H.gt i with ⟨g1,g2,g3⟩|⟨g1,g2,g3,g4,g5⟩
  ·exact⟨by rw[<-g1,h5],by rw[<-g2,h6]⟩
  have:=h9 i g4 g5
  omega
 have sub:∀e∈rs,(∀x∈a',e.1<x.1)/\(∀x∈b',e.1<x.1):=λe he=>⟨λx hx=>kS (hlo e he) (h3 x hx),λx hx=>kS (hlo e he) (h4 x hx)⟩
 have low:∀j,(∀x∈a,j<x.1)->(∀x∈b,j<x.1)->(∀x∈a',j<x.1)/\(∀x∈b',j<x.1):=λj g4 g5=>by
  have:=h9 j g4 g5
  exact⟨λx hx=>kS this (h3 x hx),λx hx=>kS this (h4 x hx)⟩
 have hdt:aOw (ps++[(p,q)])+dtF a' b'=dtF a0 b0:=by rw[aVq,pW,<-h.dt H.aa H.ab];exact H.dt
 constructor
 ·intro hz
  refine⟨h1,h2,H.ar,H.nz,sub,λj=>?_,hdt⟩
  by_cases hj:j=i
  ·subst hj
   exact .inr ⟨ga',gb',by rw[hri,hi'.1,hi'.2,hz],h3,h4⟩
  obtain⟨e1,e2⟩:=h7 j hj
  rcases H.gt j with ⟨g1,g2,g3⟩|⟨g1,g2,g3,g4,g5⟩
  ·exact .inl ⟨by rw[<-e1,g1],by rw[<-e2,g2],g3⟩
  exact .inr ⟨by rw[<-e1,g1],by rw[<-e2,g2],g3,(low j g4 g5).1,(low j g4 g5).2⟩
 intro hz
 refine⟨h1,h2,hH.2 ⟨H.ar,by simp,λx hx y hy=>by rw[aT.1 hy];exact hlo x hx⟩,λe he=>?_,λe he=>?_,λj=>?_,hdt⟩
 ·rcases bB.1 he with he|he
  ·exact H.nz e he
  rw[aT.1 he];exact hz
 ·rcases bB.1 he with he|he
  ·exact sub e he
  rw[aT.1 he];exact⟨h3,h4⟩
 by_cases hj:j=i
 ·subst hj
  exact .inr ⟨ga',gb',by rw[aMr hri,hi'.1,hi'.2],h3,h4⟩
 obtain⟨e1,e2⟩:=h7 j hj
 rcases H.gt j with ⟨g1,g2,g3⟩|⟨g1,g2,g3,g4,g5⟩
 ·exact .inl ⟨by rw[<-e1,g1],by rw[<-e2,g2],by rw[aEg hj,g3]⟩
 exact .inr ⟨by rw[<-e1,g1],by rw[<-e2,g2],by rw[aEg hj,g3],(low j g4 g5).1,(low j g4 g5).2⟩
theorem Mg.fin {op:Rat->Rat->Rat} {a0 b0 rs:List En} {ps:List (Rat×Rat)} (H:Mg op a0 b0 [] [] rs ps) (h0:op 0 0=0):Asc rs/\aGf rs/\∀i,get rs i=op (get a0 i) (get b0 i):=by
 refine⟨H.ar,H.nz,λi=>?_⟩
 rcases H.gt i with ⟨g1,g2,g3⟩|⟨g1,g2,g3,_⟩
 ·rw[g3,<-g1,<-g2];exact h0.symm
 exact g3
end Go.Vm
namespace Go.Vy
open Go.Vg Go.RowKit
inductive CV where
 |u
 |v (x:Value)
 |h (A:Option Nat) (n c:Nat)
 |hp (b o:Nat)
 |b (p:Prop) (h:Decidable p)
 |p (i o:Nat)
 |s (i n:Nat)
 |r (A:Option Addr) (n c esz:Nat) (get:Nat->List CV)
 |q (A:Option Addr) (n c esz:Nat) (get:Nat->List CV) (j o:Nat)
 |t (i o n:Nat)
 |f (k:Nat) (fi ca:List (Nat×Nat))
inductive DV where
 |c (x:CV)
 |a (l:List CV)
 |t (l:List DV)
inductive Rc (Z:Nat->Prop) (w:World):CV->Value->Prop
 |u (x:Value):Rc Z w .u x
 |v (x:Value):Rc Z w (.v x) x
 |h (A:Option Nat) (n c:Nat):Rc Z w (.h A n c) (.slice (A.map λb=>⟨b,0,none⟩) n c)
 |hp (b o:Nat):Rc Z w (.hp b o) (.pointer (some ⟨b,o,none⟩))
 |b (p:Prop) (h:Decidable p):Rc Z w (.b p h) (.bool (@decide p h))
 |nil (A:Option Addr) (c esz:Nat) (get:Nat->List CV) (hm:c<=maxLen):Rc Z w (.r A 0 c esz get) (.slice A 0 c)
 |r (b o n c esz:Nat) (get:Nat->List CV) (V:Nat->List Value) (hc:n<=c) (hm:c<=maxLen) (hZ:Z b)
    (hcell:∀(j:Nat),j<n->∀(i:Nat) (u:Value),(V j)[i]? =some u->w.cell? ⟨b,o+j*esz+i,none⟩=some u/\u.oneCell'=true)
    (hlen:∀j,j<n->(V j).length=(get j).length)
    (hel:∀(j:Nat),j<n->∀(i:Nat) (c':CV) (u:Value),(get j)[i]? =some c'->(V j)[i]? =some u->Rc Z w c' u):
    Rc Z w (.r (some ⟨b,o,none⟩) n c esz get) (.slice (some ⟨b,o,none⟩) n c)
theorem aAj {w w':World} {b o:Nat} (h:w'.heap[b]? =w.heap[b]?):w'.cell? ⟨b,o,none⟩=w.cell? ⟨b,o,none⟩:=by
 unfold World.cell?
 simp only[h]
theorem Rc.mono {Z Z':Nat->Prop} {w w':World} {c:CV} {x:Value} (h:Rc Z w c x) (hZ:∀b,Z b->Z' b/\w'.heap[b]? =w.heap[b]?):Rc Z' w' c x:=by
 induction h with
 |u x=>exact .u x
 |v x=>exact .v x
 |h A n c=>exact .h A n c
 |hp b o=>exact .hp b o
 |b p h=>exact .b p h
 |nil A c esz get hm=>exact .nil A c esz get hm
 |r b o n c esz get V hc hm hZb hcell hlen hel ih=>
  refine .r b o n c esz get V hc hm (hZ b hZb).1 (λj hj i u hu=>?_) hlen ih
  have h1:=hcell j hj i u hu
  rw[aAj (hZ b hZb).2]
  exact h1
structure Fam where
 T:TypeId
 es:Nat
 N:Nat
 A:Nat->Option Nat
 cap:Nat->Nat
 get:Nat->List CV
structure Pl where
 at':Nat->Option Nat×Nat
 Z:Nat->Prop
 F:List Fam
def InL (l:List Fam) (b:Nat):Prop:=∃F∈l,∃j,j<F.N/\F.A j=some b
abbrev InF (ρ:Pl) (b:Nat):Prop:=InL ρ.F b
instance:CoeFun Pl (λ_=>Nat->Option Nat×Nat):=⟨Pl.at'⟩
structure Zf (ρ:Pl) (n:Nat) (w:World) (b:Nat):Prop where
 lt:b<w.heap.size
 no:∀i,i<n->(ρ i).1≠some b
 z:ρ.Z b
 nf:¬InF ρ b
def ptr (ρ:Pl) (p:Nat×Nat):Value:=.pointer ((ρ p.1).1.map λb=>⟨b,p.2,none⟩)
def Hc (ρ:Pl) (n:Nat) (w:World):CV->Value->Prop
 |.p i o,x=>i<n/\∃b,(ρ i).1=some b/\x= .pointer (some ⟨b,o,none⟩)
 |.s i m,x=>i<n/\x= .slice ((ρ i).1.map λb=>⟨b,0,none⟩) m (ρ i).2
 |.q A m c esz get j o,x=>Rc (Zf ρ n w) w (.r A m c esz get) (.slice A m c)/\j<m/\∃b o',A=some ⟨b,o',none⟩/\x= .pointer (some ⟨b,o'+j*esz+o,none⟩)
 |.t i o m,x=>i<n/\∃A c,m<=c/\c<=maxLen/\x= .slice A m c/\(m=0\/∃b,(ρ i).1=some b/\A=some ⟨b,o,none⟩)
 |.f k fi ca,x=>(∀p∈fi++ca,p.1<n/\(ρ p.1).1≠none)/\x= .func (.func k) (fi.map (ptr ρ)).toArray (ca.map (ptr ρ)).toArray
 |c,x=>Rc (Zf ρ n w) w c x
def Hl (ρ:Pl) (n:Nat) (w:World):List CV->List Value->Prop
 |[],[]=>True
 |c::l,x::m=>Hc ρ n w c x/\Hl ρ n w l m
 |_,_=>False
inductive Hd (ρ:Pl) (n:Nat) (w:World):DV->Value->Prop
 |c {c:CV} {x:Value} (h:Hc ρ n w c x):Hd ρ n w (.c c) x
 |a {l:List CV} {vl:List Value} (h:Hl ρ n w l vl):Hd ρ n w (.a l) (.agg vl.toArray)
 |t {l:List DV} {vl:List Value} (h:l.length=vl.length) (hh:∀(i:Nat) (d:DV) (u:Value),l[i]? =some d->vl[i]? =some u->Hd ρ n w d u):Hd ρ n w (.t l) (.tuple vl.toArray)
section rel
variable {ρ ρ':Pl} {n n':Nat} {w w':World}
structure Kp (ρ:Pl) (n:Nat) (w:World) (ρ':Pl) (n':Nat) (w':World):Prop where
 le:n<=n'
 pl:∀i,i<n->ρ' i=ρ i
 z:∀b,Zf ρ n w b->Zf ρ' n' w' b/\w'.heap[b]? =w.heap[b]?
theorem Hc.kp {c:CV} {x:Value} (h:Hc ρ n w c x) (k:Kp ρ n w ρ' n' w'):Hc ρ' n' w' c x:=by
 cases c with
 |p i o=>obtain⟨h1,b,h2,h3⟩:=h;exact⟨bH h1 k.le,b,by rw[k.pl i h1];exact h2,h3⟩
 |s i m=>obtain⟨h1,h2⟩:=h;exact⟨bH h1 k.le,by rw[k.pl i h1];exact h2⟩
 |q A m c esz get j o=>obtain⟨h1,h2⟩:=h;exact⟨h1.mono k.z,h2⟩
 |t i o m=>obtain⟨h1,h2⟩:=h;exact⟨bH h1 k.le,by rw[k.pl i h1];exact h2⟩
 |f q fi ca=>
  obtain⟨h1,h2⟩:=h
  refine⟨λp hp=>⟨bH (h1 p hp).1 k.le,by rw[k.pl p.1 (h1 p hp).1];exact(h1 p hp).2⟩,h2.trans ?_⟩
  have e:∀p∈fi++ca,ptr ρ p=ptr ρ' p:=λp hp=>by unfold ptr;rw[k.pl p.1 (h1 p hp).1]
  rw[fV λp hp=>e p (dS _ hp),fV λp hp=>e p (eJ _ hp)]
 |u=>exact Rc.mono h k.z
 |v x=>exact Rc.mono h k.z
 |h A n c=>exact Rc.mono h k.z
 |hp b o=>exact Rc.mono h k.z
 |b p q=>exact Rc.mono h k.z
 |r A m c esz get=>exact Rc.mono h k.z
theorem Hl.kp {l:List CV} {m:List Value} (h:Hl ρ n w l m) (k:Kp ρ n w ρ' n' w'):Hl ρ' n' w' l m:=by
 induction l generalizing m with
 |nil=>cases m with
  |nil=>trivial
  |cons x m=>exact h
 |cons c l ih=>cases m with
  |nil=>exact h
  |cons x m=>exact⟨h.1.kp k,ih h.2⟩
theorem Hd.kp {d:DV} {x:Value} (h:Hd ρ n w d x) (k:Kp ρ n w ρ' n' w'):Hd ρ' n' w' d x:=by
 induction h with
 |c h=>exact .c (h.kp k)
 |a h=>exact .a (h.kp k)
 |t h hh ih=>exact .t h ih
theorem Hl.len {l:List CV} {m:List Value} (h:Hl ρ n w l m):l.length=m.length:=by
 induction l generalizing m with
 |nil=>cases m with
  |nil=>rfl
  |cons x m=>exact h.elim
 |cons c l ih=>cases m with
  |nil=>exact h.elim
  |cons x m=>simp only[eI,ih h.2]
theorem Hl.get {l:List CV} {m:List Value} (h:Hl ρ n w l m) {i:Nat} {c:CV} (hi:l[i]? =some c):∃x,m[i]? =some x/\Hc ρ n w c x:=by
 induction l generalizing m i with
 |nil=>cases hi
 |cons a l ih=>cases m with
  |nil=>exact h.elim
  |cons x m=>cases i with
   |zero=>injection hi with hi;subst hi;exact⟨x,rfl,h.1⟩
   |succ i=>exact ih h.2 hi
theorem Hl.append {l l2:List CV} {m m2:List Value} (h:Hl ρ n w l m) (h2:Hl ρ n w l2 m2):Hl ρ n w (l++l2) (m++m2):=by
 induction l generalizing m with
 |nil=>cases m with
  |nil=>exact h2
  |cons x m=>exact h.elim
 |cons c l ih=>cases m with
  |nil=>exact h.elim
  |cons x m=>exact⟨h.1,ih h.2⟩
theorem Hl.take {l:List CV} {m:List Value} (h:Hl ρ n w l m) (k:Nat):Hl ρ n w (l.take k) (m.take k):=by
 induction l generalizing m k with
 |nil=>cases m with
  |nil=>simp[Hl]
  |cons x m=>exact h.elim
 |cons c l ih=>cases m with
  |nil=>exact h.elim
  |cons x m=>cases k with
   |zero=>simp[Hl]
   |succ k=>exact⟨h.1,ih h.2 k⟩
theorem Hl.drop {l:List CV} {m:List Value} (h:Hl ρ n w l m) (k:Nat):Hl ρ n w (l.drop k) (m.drop k):=by
 induction l generalizing m k with
 |nil=>cases m with
  |nil=>simp[Hl]
  |cons x m=>exact h.elim
 |cons c l ih=>cases m with
  |nil=>exact h.elim
  |cons x m=>cases k with
   |zero=>exact h
   |succ k=>exact ih h.2 k
theorem Kp.refl:Kp ρ n w ρ n w:=⟨aI _,λ_ _=>rfl,λ_ h=>⟨h,rfl⟩⟩
theorem Kp.ext (e:Ext w w'):Kp ρ n w ρ n w':=⟨aI _,λ_ _=>rfl,λb h=>⟨⟨bH h.lt e.size,h.no,h.z,h.nf⟩,e.block b h.lt⟩⟩
theorem Kp.exc {i b:Nat} (hi:i<n) (hb:(ρ i).1=some b) (e:Exc b w w'):Kp ρ n w ρ n w':=
 ⟨aI _,λ_ _=>rfl,λb' h=>⟨⟨bH h.lt e.size,h.no,h.z,h.nf⟩,e.block b' h.lt λhh=>h.no i hi (by rw[hb,hh])⟩⟩
end rel
/-! ### states -/
abbrev Gs:=List (Nat×Bool)
structure SS where
 sl:List (Nat×DV)
 gl:List (Nat×Gs×DV)
 bl:List (TypeId×Nat×List CV)
 fl:List Fam
def iM:List (Nat×DV)->Nat->Option DV
 |[],_=>none
 |(t',d)::l,t=>bif Nat.beq t' t then some d else iM l t
def aAd:List (Nat×Gs×DV)->Nat->Option (Gs×DV)
 |[],_=>none
 |(t',d)::l,t=>bif Nat.beq t' t then some d else aAd l t
def sat (f:Nat->Value) (gs:Gs):Prop:=∀p∈gs,f p.1= .bool p.2
structure Fr (s:SS) (ρ:Pl) (w:World) (f:Nat->Value):Prop where
 sl:∀t d,iM s.sl t=some d->Hd ρ s.bl.length w d (f t)
 gl:∀t gs d,aAd s.gl t=some (gs,d)->(sat f gs->Hd ρ s.bl.length w d (f t))/\(¬sat f gs->f t=undef)
def Bq (ρ:Pl) (n:Nat) (w:World) (i:Nat) (T:TypeId) (esz:Nat) (l:List CV):Prop:=match (ρ i).1 with
 |none=>l=[]/\(ρ i).2=0/\0<esz
 |some b=>∃vl junk,w.heap[b]? =some (.cells (vl++junk).toArray T (0,0))/\Hl ρ n w l vl/\(0<esz->(ρ i).2*esz=(vl++junk).length/\(ρ i).2<=maxLen)/\∀x∈vl,x.oneCell'=true
def yF (e:MapEntry):CV:=match e.key with
 |.int .i64 z=> .h (some e.born) z.toNat 0
 |_=> .u
def aIo:CV->Nat
 |.h (some b) _ _=>b
 |_=>0
def pQ:CV->Nat
 |.h _ n _=>n
 |_=>0
structure MapL (es:Array MapEntry) (clock:Nat) (l:List CV):Prop where
 en:es.toList.map yF=l
 ky:∀e∈es.toList,(∃n:Nat,e.key= .int .i64 n)/\e.val= .bool true/\e.born<clock
 nd:(es.toList.map (·.key)).Nodup
 nb:(es.toList.map (·.born)).Nodup
structure ItL (since:Nat) (seen:Array Nat) (st:Nat) (g:Nat->List CV):Prop where
 le:since<=st
 lt:∀c∈g 1,aIo c<since
 rest:g 0=(g 1).filter λc=>!seen.contains (aIo c)
 cur:∀c,g 2=[c]->seen.back? =some (aIo c)
def ObR (T cap:Nat) (l:List CV) (ob:Obj):Prop:=bif Nat.beq T 1000000 then ∃es,ob= .map es cap/\MapL es cap l
 else ∃m since seen st g,l=[.r none 0 m st g]/\ob= .mapIter (some m) since seen st/\ItL since seen st g
def Mq (Z:Nat->Prop) (w:World) (F:Fam) (j:Nat):Prop:=match F.A j with
 |none=>F.get j=[]/\F.cap j=0
 |some b=>bif Nat.ble F.T 999999 then ∃(vl junk:List Value),w.heap[b]? =some (.cells (vl++junk).toArray F.T (0,0))/\vl.length=(F.get j).length/\(∀(k:Nat) (c:CV) (x:Value),(F.get j)[k]? =some c->vl[k]? =some x->Rc Z w c x)/\F.cap j*F.es=(vl++junk).length/\F.cap j<=maxLen/\∀x∈vl,x.oneCell'=true
  else ∃ob,w.heap[b]? =some ob/\ObR F.T (F.cap j) (F.get j) ob
structure FamOk (ρ:Pl) (n:Nat) (w:World):Prop where
 ok:∀F∈ρ.F,0<F.es/\∀j,j<F.N->Mq (Zf ρ n w) w F j
 own:∀i b,i<n->(ρ i).1=some b->¬InF ρ b
 inj:∀(f f':Nat) (F F':Fam) (j j' b:Nat),ρ.F[f]? =some F->ρ.F[f']? =some F'->j<F.N->j'<F'.N->F.A j=some b->F'.A j'=some b->f=f'/\j=j'
theorem Mq.lt {Z:Nat->Prop} {w:World} {F:Fam} {j b:Nat} (h:Mq Z w F j) (hb:F.A j=some b):b<w.heap.size:=by
 unfold Mq at h
 simp only[hb] at h
 cases ht:Nat.ble F.T 999999 with
 |true=>rw[ht] at h;obtain⟨vl,junk,h1,_⟩:=h;exact fW h1
 |false=>rw[ht] at h;obtain⟨ob,h1,_⟩:=h;exact fW h1
theorem Mq.at {Z:Nat->Prop} {w:World} {F:Fam} {j b:Nat} (h:Mq Z w F j) (hb:F.A j=some b) (ht:Nat.ble F.T 999999=true):∃(vl junk:List Value),w.heap[b]? =some (.cells (vl++junk).toArray F.T (0,0))/\vl.length=(F.get j).length/\(∀(k:Nat) (c:CV) (x:Value),(F.get j)[k]? =some c->vl[k]? =some x->Rc Z w c x)/\F.cap j*F.es=(vl++junk).length/\F.cap j<=maxLen/\∀x∈vl,x.oneCell'=true:=by
 unfold Mq at h
 simp only[hb,ht,cond_true] at h
 exact h
theorem Mq.ob {Z:Nat->Prop} {w:World} {F:Fam} {j b:Nat} (h:Mq Z w F j) (hb:F.A j=some b) (ht:Nat.ble F.T 999999=false):∃ob,w.heap[b]? =some ob/\ObR F.T (F.cap j) (F.get j) ob:=by
 unfold Mq at h
 simp only[hb,ht,cond_false] at h
 exact h
theorem FamOk.mem {ρ:Pl} {n:Nat} {w:World} (h:FamOk ρ n w) {fl:List Fam} (hl:ρ.F=fl) {f:Nat} {F:Fam} (hf:fl[f]? =some F) {j:Nat} (hj:j<F.N):Mq (Zf ρ n w) w F j:=
 (h.ok F (by rw[hl];exact aX hf)).2 j hj
theorem Mq.mono {Z Z':Nat->Prop} {w w':World} {F:Fam} {j:Nat} (h:Mq Z w F j) (hZ:∀b,Z b->Z' b/\w'.heap[b]? =w.heap[b]?) (hb:∀b,F.A j=some b->w'.heap[b]? =w.heap[b]?):Mq Z' w' F j:=by
 unfold Mq at h ⊢
 cases ha:F.A j with
 |none=>simp only[ha] at h ⊢;exact h
 |some b=>
  simp only[ha] at h ⊢
  cases ht:Nat.ble F.T 999999 with
  |true=>
   rw[ht] at h
   obtain⟨vl,junk,h1,h2,h3,h4⟩:=h
   exact⟨vl,junk,by rw[hb b ha];exact h1,h2,λk c x hc hx=>(h3 k c x hc hx).mono hZ,h4⟩
  |false=>
   rw[ht] at h
   obtain⟨ob,h1,h2⟩:=h
   exact⟨ob,by rw[hb b ha];exact h1,h2⟩
theorem FamOk.lt {ρ:Pl} {n:Nat} {w:World} (h:FamOk ρ n w) {b:Nat} (hb:InF ρ b):b<w.heap.size:=by
 obtain⟨F,hF,j,hj,hA⟩:=hb
 exact((h.ok F hF).2 j hj).lt hA
theorem FamOk.mono {ρ ρ':Pl} {n n':Nat} {w w':World} (h:FamOk ρ n w) (hF:ρ'.F=ρ.F) (hz:∀b,Zf ρ n w b->Zf ρ' n' w' b/\w'.heap[b]? =w.heap[b]?) (hs:∀b,InF ρ b->w'.heap[b]? =w.heap[b]?) (hno:∀i b,i<n'->(ρ' i).1=some b->¬InF ρ b):FamOk ρ' n' w':=
 ⟨λF hf=>by
  rw[hF] at hf
  exact⟨(h.ok F hf).1,λj hj=>((h.ok F hf).2 j hj).mono hz λb hb=>hs b ⟨F,hf,j,hj,hb⟩⟩,λi b hi hb=>by unfold InF;rw[hF];exact hno i b hi hb,by rw[hF];exact h.inj⟩
structure Rl (w0:World) (nb:Nat) (ρ0 ρ:Pl) (w:World):Prop where
 os:w.os=w0.os
 tape:w.tape=w0.tape
 output:w.output=w0.output
 size:w0.heap.size<=w.heap.size
 block:∀k,k<w0.heap.size->(∀i,i<nb->(ρ i).1≠some k)->¬InF ρ0 k->w.heap[k]? =w0.heap[k]?
structure DnW (ρ0:Pl) (w0:World) (nb:Nat) (bl:List (TypeId×Nat×List CV)) (ρ:Pl) (w:World):Prop where
 ok:∀(i:Nat) (T:TypeId) (e:Nat) (l:List CV),bl[i]? =some (T,e,l)->Bq ρ bl.length w i T e l
 inj:∀i j b,i<bl.length->j<bl.length->(ρ i).1=some b->(ρ j).1=some b->i=j
 fr:∀i b,nb<=i->i<bl.length->(ρ i).1=some b->w0.heap.size<=b
 nbl:nb<=bl.length
 rel:Rl w0 nb ρ0 ρ w
 pl:∀i,i<nb->ρ i=ρ0 i
 zz:ρ.Z=ρ0.Z/\∀b,w0.heap.size<=b\/InF ρ0 b->ρ.Z b
 fam:FamOk ρ bl.length w
 ffr:∀b,InF ρ b->w0.heap.size<=b\/InF ρ0 b
structure Dn (ρ0:Pl) (w0:World) (nb:Nat) (s:SS) (ρ:Pl) (f:Nat->Value) (w:World):Prop where
 m:DnW ρ0 w0 nb s.bl ρ w
 f:Fr s ρ w f
 l:ρ.F=s.fl
section world
variable {w0 w w':World} {nb:Nat} {s:SS} {ρ ρ' ρ0:Pl} {f:Nat->Value} {bl:List (TypeId×Nat×List CV)}
theorem Rl.ext (h:Rl w0 nb ρ0 ρ w) (e:Ext w w'):Rl w0 nb ρ0 ρ w':=
 ⟨e.os.trans h.os,e.tape.trans h.tape,e.output.trans h.output,bA h.size e.size,λk hk hn hf=>(e.block k (bH hk h.size)).trans (h.block k hk hn hf)⟩
theorem eP {α:Type} {l:List α} {i:Nat} {x:α} (h:l[i]? =some x):i<l.length:=(pN.1 h).1
theorem Bq.at {n i b e:Nat} {T:TypeId} {l:List CV} (h:Bq ρ n w i T e l) (hb:(ρ i).1=some b):∃vl junk,w.heap[b]? =some (.cells (vl++junk).toArray T (0,0))/\Hl ρ n w l vl/\(0<e->(ρ i).2*e=(vl++junk).length/\(ρ i).2<=maxLen)/\∀x∈vl,x.oneCell'=true:=by
 unfold Bq at h
 rw[hb] at h
 exact h
theorem Bq.of_some {n i b e:Nat} {T:TypeId} {l:List CV} (hb:(ρ i).1=some b) (h:∃vl junk,w.heap[b]? =some (.cells (vl++junk).toArray T (0,0))/\Hl ρ n w l vl/\(0<e->(ρ i).2*e=(vl++junk).length/\(ρ i).2<=maxLen)/\∀x∈vl,x.oneCell'=true):Bq ρ n w i T e l:=by
 unfold Bq
 rw[hb]
 exact h
theorem Bq.kp {n n' i e:Nat} {T:TypeId} {l:List CV} (h:Bq ρ n w i T e l) (k:Kp ρ n w ρ' n' w') (hi:i<n) (hs:∀b,(ρ i).1=some b->w'.heap[b]? =w.heap[b]?):Bq ρ' n' w' i T e l:=by
 unfold Bq at h ⊢
 rw[k.pl i hi]
 cases hb:(ρ i).1 with
 |none=>simp only[hb] at h ⊢;exact h
 |some b=>
  simp only[hb] at h ⊢
  obtain⟨vl,junk,h1,h2,h3⟩:=h
  exact⟨vl,junk,by rw[hs b hb];exact h1,h2.kp k,h3⟩
theorem Bq.lt {n i b e:Nat} {T:TypeId} {l:List CV} (h:Bq ρ n w i T e l) (hb:(ρ i).1=some b):b<w.heap.size:=by
 obtain⟨vl,junk,h1,_⟩:=h.at hb
 exact fW h1
theorem DnW.lt (h:DnW ρ0 w0 nb bl ρ w) {i b:Nat} (hi:i<bl.length) (hb:(ρ i).1=some b):b<w.heap.size:=
 (h.ok i (bl[i]).1 (bl[i]).2.1 (bl[i]).2.2 (aK hi)).lt hb
theorem DnW.ext (h:DnW ρ0 w0 nb bl ρ w) (e:Ext w w'):DnW ρ0 w0 nb bl ρ w':=
 ⟨λi T es l hi=>(h.ok i T es l hi).kp (Kp.ext e) (eP hi) λb hb=>e.block b ((h.ok i T es l hi).lt hb),h.inj,h.fr,h.nbl,h.rel.ext e,h.pl,h.zz,h.fam.mono rfl (Kp.ext e).z (λb hb=>e.block b (h.fam.lt hb)) h.fam.own,h.ffr⟩
theorem Fr.kp (h:Fr s ρ w f) {s':SS} (hsl:s'.sl=s.sl) (hgl:s'.gl=s.gl) (k:Kp ρ s.bl.length w ρ' s'.bl.length w'):Fr s' ρ' w' f:=
 ⟨λt d ht=>(h.sl t d (by rw[<-hsl];exact ht)).kp k,λt gs d ht=>⟨λhs=>((h.gl t gs d (by rw[<-hgl];exact ht)).1 hs).kp k,(h.gl t gs d (by rw[<-hgl];exact ht)).2⟩⟩
theorem Dn.ext (h:Dn ρ0 w0 nb s ρ f w) (e:Ext w w'):Dn ρ0 w0 nb s ρ f w':=⟨h.m.ext e,h.f.kp rfl rfl (Kp.ext e),h.l⟩
theorem oT {α:Type} {l:List α} {i j:Nat} {x y:α} (h:(l.set i x)[j]? =some y):(j=i/\y=x/\i<l.length)\/(j≠i/\l[j]? =some y):=by
 by_cases hji:j=i
 ·subst hji
  have hlt:j<l.length:=by have:=eP h;simpa using this
  rw[oB hlt] at h
  injection h with h
  exact .inl ⟨rfl,h.symm,hlt⟩
 rw[mX (iQ hji)] at h
 exact .inr ⟨hji,h⟩
theorem tS {α:Type} {l:List α} {j:Nat} {x y:α} (h:(l++[x])[j]? =some y):(j=l.length/\y=x)\/(j<l.length/\l[j]? =some y):=by
 by_cases hji:j<l.length
 ·rw[bW hji] at h
  exact .inr ⟨hji,h⟩
 rw[cO oM] at h
 have hz:j-l.length=0:=by
  have:=eP h
  simp only[cU] at this
  omega
 rw[hz] at h
 injection h with h
 exact .inl ⟨by omega,h.symm⟩
theorem DnW.exc (h:DnW ρ0 w0 nb bl ρ w) {i b e:Nat} {T:TypeId} {l l':List CV} (hi:bl[i]? =some (T,e,l)) (hb:(ρ i).1=some b) (ex:Exc b w w') (hq:Bq ρ bl.length w' i T e l'):
 DnW ρ0 w0 nb (bl.set i (T,e,l')) ρ w':=by
 have hlt:=eP hi
 refine⟨λj T2 e2 l2 hj=>?_,?_,?_,?_,?_,h.pl,h.zz,?_,h.ffr⟩
 ·rw[bT]
  rcases oT hj with ⟨rfl,h2,_⟩|⟨hne,hj'⟩
  ·injection h2 with h2 h3;injection h3 with h3 h4;subst h2 h3 h4;exact hq
  exact(h.ok j T2 e2 l2 hj').kp (Kp.exc hlt hb ex) (eP hj') λb' hb'=>ex.block b' ((h.ok j T2 e2 l2 hj').lt hb') λhe=>hne (h.inj j i b (eP hj') hlt (by rw[hb',he]) hb)
 ·simpa using h.inj
 ·simpa using h.fr
 ·simpa using h.nbl
 ·refine⟨ex.os.trans h.rel.os,ex.tape.trans h.rel.tape,ex.output.trans h.rel.output,bA h.rel.size ex.size,λk hk hn hf=>?_⟩
  refine(ex.block k (bH hk h.rel.size) λhe=>?_).trans (h.rel.block k hk hn hf)
  by_cases hib:i<nb
  ·exact hn i hib (by rw[hb,he])
  have:=h.fr i b oM hlt hb
  omega
 rw[bT]
 exact h.fam.mono rfl (Kp.exc hlt hb ex).z (λb' hb'=>ex.block b' (h.fam.lt hb') λhe=>h.fam.own i b hlt hb (he▸hb')) h.fam.own
def xU (ρ:Pl) (n:Nat) (p:Option Nat×Nat):Pl:=⟨λi=>if i=n then p else ρ i,ρ.Z,ρ.F⟩
theorem qU {n i:Nat} {p:Option Nat×Nat} (h:i<n):xU ρ n p i=ρ i:=by
 show(if i=n then p else ρ i)=ρ i
 rw[if_neg oM]
theorem mA {n:Nat} {p:Option Nat×Nat}:xU ρ n p n=p:=by
 show(if n=n then p else ρ n)=p
 rw[if_pos rfl]
theorem Kp.new {n:Nat} {p:Option Nat×Nat} (hp:∀b,p.1=some b->w.heap.size<=b) (e:Ext w w'):Kp ρ n w (xU ρ n p) (n+1) w':=by
 refine⟨Nat.le_succ _,λi hi=>qU hi,λb hb=>⟨⟨bH hb.lt e.size,λi hi=>?_,hb.z,hb.nf⟩,e.block b hb.lt⟩⟩
 by_cases hin:i=n
 ·rw[hin,mA]
  intro he
  have:=hp b he
  have:=hb.lt
  omega
 rw[qU oM]
 exact hb.no i oM
theorem DnW.new (h:DnW ρ0 w0 nb bl ρ w) {T:TypeId} {es:Nat} {l:List CV} {p:Option Nat×Nat} (hp:∀b,p.1=some b->w.heap.size<=b) (e:Ext w w') (hq:Bq (xU ρ bl.length p) (bl.length+1) w' bl.length T es l):
 DnW ρ0 w0 nb (bl++[(T,es,l)]) (xU ρ bl.length p) w':=by
 refine⟨λj T2 e2 l2 hj=>?_,λi j b hi hj hib hjb=>?_,λi b hi hi2 hb=>?_,?_,?_,λi hi=>(qU (by have:=h.nbl;omega)).trans (h.pl i hi),h.zz,?_,h.ffr⟩
 ·simp only[aP,cU]
  rcases tS hj with ⟨rfl,h2⟩|⟨hlt,hj'⟩
  ·injection h2 with h2 h3;injection h3 with h3 h4;subst h2 h3 h4;exact hq
  exact(h.ok j T2 e2 l2 hj').kp (Kp.new hp e) hlt λb hb=>e.block b ((h.ok j T2 e2 l2 hj').lt hb)
 ·simp only[aP,cU] at hi hj
  by_cases h1:i=bl.length<;>by_cases h2:j=bl.length
  ·omega
  ·rw[h1,mA] at hib
   rw[qU oM] at hjb
   have:=hp b hib
   have:=h.lt oM hjb
   omega
  ·rw[h2,mA] at hjb
   rw[qU oM] at hib
   have:=hp b hjb
   have:=h.lt oM hib
   omega
  rw[qU oM] at hib hjb
  exact h.inj i j b oM oM hib hjb
 ·simp only[aP,cU] at hi2
  by_cases h1:i=bl.length
  ·rw[h1,mA] at hb
   have:=hp b hb
   have:=h.rel.size
   omega
  rw[qU oM] at hb
  exact h.fr i b hi oM hb
 ·have:=h.nbl
  simp only[aP,cU]
  omega
 ·have hr:=h.rel.ext e
  refine⟨hr.os,hr.tape,hr.output,hr.size,λk hk hn hf=>hr.block k hk (λi hi=>?_) hf⟩
  have:=hn i hi
  rw[qU (by have:=h.nbl;omega)] at this
  exact this
 simp only[aP,cU]
 refine h.fam.mono rfl (Kp.new hp e).z (λb hb=>e.block b (h.fam.lt hb)) λi b hi hb hf=>?_
 by_cases h1:i=bl.length
 ·rw[h1,mA] at hb
  have:=hp b hb
  have:=h.fam.lt hf
  omega
 rw[qU oM] at hb
 exact h.fam.own i b oM hb hf
end world
/-! ### types -/
structure FI where
 off:Nat
 ty:Nat
 size:Nat
 agg:Bool
structure TI where
 size:Nat
 agg:Bool:=false
 el:Option Nat:=none
 ar:Option (Nat×Nat×Nat):=none
 bo:Bool:=false
 str:Bool:=false
 ik:Option IntKind:=none
 fs:List FI:=[]
 ck:Nat:=0
 mp:Bool:=false
 pt:Bool:=false
 by':Nat
 zero:List Value
def ckF:Nat->List Value->Bool
 |1,[.int .i64 _,.int .i64 _]=>true
 |2,[.int .i64 _,.int .i64 _,.int .i64 _]=>true
 |3,[.string _,.int .i64 _,.int .i64 _,.int .i64 _,.int .i64 _,.int .i64 _,.int .i64 _,.int .i64 _,.int .i64 _]=>true
 |_,_=>false
def CkP (P:Program) (t:Nat) (vs:List Value):Prop:=P.eqGuardType P.depth t=false/\∀w,(Op.equalIn (9999+1) t (.agg vs.toArray) (.agg vs.toArray)).run P w= .ok true w
structure GoodT (P:Program) (t:Nat) (i:TI):Prop where
 un:∃d,P.underlying t=some d
 ag:wW P t=i.agg
 ty:∃z,TyI P t i.size i.by' z/\z.cells=i.zero.toArray
 zs:i.zero.length=i.size
 z1:i.zero.all Value.oneCell'=true
 el:∀e,i.el=some e->P.underlying t=some (.slice e)
 ar:∀n e es,i.ar=some (n,e,es)->P.underlying t=some (.array n e)/\∃by' z,TyI P e es by' z
 bo:i.bo=true->P.underlying t=some .bool
 str:i.str=true->P.underlying t=some .string
 ik:∀k,i.ik=some k->P.underlying t=some (.int k)
 fs:i.fs=[]\/∃F:Array Field,P.underlying t=some (.struct F)/\i.fs.length=F.size/\∀(k:Nat) (fi:FI),i.fs[k]? =some fi->∃fl,F[k]? =some fl/\fl.offset=fi.off/\fl.type=fi.ty/\wW P fi.ty=fi.agg/\(∃d,P.underlying fi.ty=some d)/\∃by' z,TyI P fi.ty fi.size by' z
 ck:∀vs,ckF i.ck vs=true->CkP P t vs
 mp:i.mp=true->∃k e,P.underlying t=some (.map k e)/\P.underlying k=some (.int .i64)
 pt:i.pt=true->∃e,P.underlying t=some (.pointer e)
abbrev TT:=Nat->Option TI
def Good (P:Program) (T:TT):Prop:=∀t i,T t=some i->GoodT P t i
/-! ### operands -/
def bNd (g' gs:Gs):Bool:=g'.all λp=>gs.any λq=>Nat.beq p.1 q.1&&(p.2==q.2)
theorem bHi {f:Nat->Value} {g' gs:Gs} (h:bNd g' gs=true) (hs:sat f gs):sat f g':=λp hp=>by
 have h1:=aZ.1 h p hp
 obtain⟨q,hq,h2⟩:=List.any_eq_true.1 h1
 simp only[aQ,beq_iff_eq] at h2
 have h3:=aO h2.1
 have:=hs q hq
 rw[h3,h2.2]
 exact this
def tW:Value->CV
 |.bool b=> .b (b=true) inferInstance
 |v=> .v v
def aYi:Value->DV
 |.agg cs=> .a (cs.toList.map tW)
 |v=> .c (.v v)
def val (gs:Gs) (s:SS):Operand->Option DV
 |.tmp t=>match aAd s.gl t with
  |some (g',d)=>bif bNd g' gs then some d else none
  |none=>iM s.sl t
 |.const v=>some (aYi v)
 |.func k=>some (.c (.f k [] []))
 |.global _=>none
section val
variable {s:SS} {ρ ρ0:Pl} {w:World} {f:Nat->Value} {gs:Gs} {n:Nat}
theorem aMs (x:Value):Hc ρ n w (tW x) x:=by
 cases x with
 |bool b=>
  have e:Value.bool b= .bool (decide (b=true)):=by simp
  rw[e]
  cases b<;>exact Rc.b _ _
 |_=>exact Rc.v _
theorem Hl.vs (l:List Value):Hl ρ n w (l.map tW) l:=by
 induction l with
 |nil=>trivial
 |cons x l ih=>exact⟨aMs x,ih⟩
theorem aVs (v:Value):Hd ρ n w (aYi v) v:=by
 cases v with
 |agg cs=>exact Hd.a (vl:=cs.toList) (Hl.vs _)
 |_=>exact .c (Rc.v _)
theorem cF (h:Fr s ρ w f) (hg:sat f gs) {x:Operand} {d:DV} (hx:val gs s x=some d):Hd ρ s.bl.length w d (ev f x):=by
 cases x with
 |tmp t=>
  simp only[val] at hx
  cases he:aAd s.gl t with
  |none=>simp only[he] at hx;exact h.sl t d hx
  |some e=>
   obtain⟨g',d'⟩:=e
   simp only[he] at hx
   cases hb:bNd g' gs with
   |false=>rw[hb] at hx;cases hx
   |true=>
    rw[hb] at hx
    injection hx with hx
    subst hx
    exact(h.gl t g' d' he).1 (bHi hb hg)
 |const v=>injection hx with hx;subst hx;exact aVs v
 |func k=>
  injection hx with hx
  subst hx
  refine Hd.c (c:=.f k [] []) (And.intro (λp hp=>?_) rfl)
  exact absurd hp fA
 |global k=>cases hx
theorem Hd.inv_c {c:CV} {x:Value} (h:Hd ρ n w (.c c) x):Hc ρ n w c x:=by
 cases h with
 |c h=>exact h
theorem Hd.inv_a {l:List CV} {x:Value} (h:Hd ρ n w (.a l) x):∃vl:List Value,x= .agg vl.toArray/\Hl ρ n w l vl:=by
 cases h with
 |a h=>exact⟨_,rfl,h⟩
theorem Hd.inv_t {l:List DV} {x:Value} (h:Hd ρ n w (.t l) x):∃vl:List Value,x= .tuple vl.toArray/\l.length=vl.length/\∀(i:Nat) (d:DV) (u:Value),l[i]? =some d->vl[i]? =some u->Hd ρ n w d u:=by
 cases h with
 |t h hh=>exact⟨_,rfl,h,hh⟩
theorem Hc.inv_v {y x:Value} (h:Hc ρ n w (.v y) x):x=y:=by
 have h':Rc _ w (.v y) x:=h
 cases h'
 rfl
theorem Hc.inv_b {p:Prop} {hp:Decidable p} {x:Value} (h:Hc ρ n w (.b p hp) x):x= .bool (decide p):=by
 have h':Rc _ w (.b p hp) x:=h
 cases h'
 rfl
theorem Hc.inv_r {A:Option Addr} {m c e:Nat} {get:Nat->List CV} {x:Value} (h:Hc ρ n w (.r A m c e get) x):x= .slice A m c/\Rc (Zf ρ n w) w (.r A m c e get) (.slice A m c):=by
 have h':Rc _ w (.r A m c e get) x:=h
 have e:x= .slice A m c:=by cases h'<;>rfl
 subst e
 exact⟨rfl,h'⟩
theorem Hc.inv_h {A:Option Nat} {m c:Nat} {x:Value} (h:Hc ρ n w (.h A m c) x):x= .slice (A.map λb=>⟨b,0,none⟩) m c:=by
 cases (show Rc _ w (.h A m c) x from h);rfl
theorem Hc.inv_hp {b o:Nat} {x:Value} (h:Hc ρ n w (.hp b o) x):x= .pointer (some ⟨b,o,none⟩):=by
 cases (show Rc _ w (.hp b o) x from h);rfl
theorem Rc.elem {Z:Nat->Prop} {A:Option Addr} {m c e:Nat} {get:Nat->List CV} {x:Value} (h:Rc Z w (.r A m c e get) x) {j:Nat} (hj:j<m):∃b o,A=some ⟨b,o,none⟩/\Z b/\∃vl:List Value,(∀(i:Nat) (u:Value),vl[i]? =some u->w.cell? ⟨b,o+j*e+i,none⟩=some u/\u.oneCell'=true)/\vl.length=(get j).length/\∀(i:Nat) (c':CV) (u:Value),(get j)[i]? =some c'->vl[i]? =some u->Rc Z w c' u:=by
 cases h with
 |nil=>omega
 |r b o n c e get V hc hm hZ hcell hlen hel=>exact⟨b,o,rfl,hZ,V j,λi u hu=>hcell j hj i u hu,hlen j hj,hel j hj⟩
theorem Hc.of_rc {c:CV} {x:Value} (h:Rc (Zf ρ n w) w c x):Hc ρ n w c x:=by
 cases c with
 |u=>exact h
 |v y=>exact h
 |h A n c=>exact h
 |hp b o=>exact h
 |b p hp=>exact h
 |r A m c e get=>exact h
 |p i o=>cases h
 |s i m=>cases h
 |q A m c e get j o=>cases h
 |t i o m=>cases h
 |f k fi ca=>cases h
theorem Hl.of_get {l:List CV} {vl:List Value} (hlen:vl.length=l.length) (h:∀(i:Nat) (c:CV) (u:Value),l[i]? =some c->vl[i]? =some u->Hc ρ n w c u):Hl ρ n w l vl:=by
 induction l generalizing vl with
 |nil=>cases vl with
  |nil=>trivial
  |cons x vl=>cases hlen
 |cons c l ih=>cases vl with
  |nil=>cases hlen
  |cons x vl=>exact⟨h 0 c x rfl rfl,ih (by simpa using hlen) λi c u hc hu=>h (i+1) c u hc hu⟩
end val
def Cal (P:Program) (f:Nat->Value) (o:Oper) (w:World) (ρ:Pl) (n:Nat) (d:DV):Prop:=∃v,Hd ρ n w d v/\∀u,(tT o=true->Ext w u)->(execOp (ev f) o).run P u= .ok (.value v) u
def Pu (P:Program) (f:Nat->Value) (o:Oper) (w:World) (ρ:Pl) (n:Nat) (gs:Gs) (k:DV->Prop):Prop:=∃d,k d/\(sat f gs->Cal P f o w ρ n d)
def ob (pg:Option Prop) (p:Prop):Prop:=match pg with
 |none=>p
 |some q=>q->p
def aEm (pg:Option Prop):Prop:=match pg with
 |none=>True
 |some q=>q
theorem oD {pg:Option Prop} {p:Prop} (h:ob pg p) (hp:aEm pg):p:=by
 cases pg with
 |none=>exact h
 |some q=>exact h hp
def aSl:Nat->List CV->(List CV->Prop)->Prop
 |0,_,k=>k []
 |n+1,c::l,k=>aSl n l λr=>k (c::r)
 |_+1,[],_=>False
theorem aMt:∀{n:Nat} {l:List CV} {k:List CV->Prop},aSl n l k->n<=l.length/\k (l.take n)
 |0,l,k,h=>⟨aF _,h⟩
 |n+1,[],k,h=>h.elim
 |n+1,c::l,k,h=>by
  obtain⟨h1,h2⟩:=aMt (n:=n) (l:=l) h
  exact⟨rS h1,h2⟩
/-! ### the operations -/
def aEh (gs:Gs) (s:SS) (x:Operand) (k:DV->Prop):Prop:=match val gs s x with
 |some d=>k d
 |none=>False
def bNe (gs:Gs) (s:SS) (x:Operand) (k:DV->Prop):Prop:=match val gs s x with
 |some (.c (.p i o))=>k (.c (.p i o))
 |some (.c (.q A n c e get j o))=>k (.c (.q A n c e get j o))
 |some (.c (.hp b o))=>k (.c (.hp b o))
 |_=>False
def bLb (off:Nat) (k:DV->Prop):DV->Prop
 |.c (.p i o)=>k (.c (.p i (o+off)))
 |.c (.q A n c e get j o)=>k (.c (.q A n c e get j (o+off)))
 |.c (.hp b o)=>k (.c (.hp b (o+off)))
 |_=>False
def bNf (T:TT) (gs:Gs) (s:SS) (t:Nat) (x:Operand) (i:Nat) (k:DV->Prop):Prop:=match T t with
 |some ti=>match ti.fs[i]? with
  |some fi=>bif Nat.ble 1 fi.size then (match val gs s x with
   |some d=>bLb fi.off k d
   |none=>False) else False
  |none=>False
 |none=>False
def ldK (ti:TI) (o:Nat) (l:List CV) (k:DV->Prop):Prop:=bif ti.agg then aSl ti.size (l.drop o) λr=>k (.a r) else match l[o]? with
 |some c=>k (.c c)
 |none=>False
def ldS (pg:Option Prop) (ti:TI) (o:Nat) (l:List CV) (k:DV->Prop):Prop:=bif ti.agg then ∃r,ob pg ((l.drop o).take ti.size=r/\r.length=ti.size)/\k (.a r) else ∃c,ob pg (l[o]? =some c)/\k (.c c)
def aYj (T:TT) (pg:Option Prop) (gs:Gs) (s:SS) (t:Nat) (x:Operand) (k:DV->Prop):Prop:=match T t with
 |some ti=>match val gs s x with
  |some (.c (.p j o))=>(match s.bl[j]? with
   |some b=>bif Nat.beq b.2.1 0 then ldK ti o b.2.2 k else ldS pg ti o b.2.2 k
   |none=>False)
  |some (.c (.q _ _ _ _ get j o))=>ldK ti o (get j) k
  |some (.c (.hp b o))=>∃f j:Nat,(match s.fl[f]? with
   |some F=>bif Nat.ble F.T 999999 then ob pg (j<F.N/\F.A j=some b)/\ldS pg ti o (F.get j) k else False
   |none=>False)
  |_=>False
 |none=>False
def arK (pg:Option Prop) (ka:IntKind) (z:Int) (k:DV->Prop):Prop:=∃r,ob pg (r=ka.wrap z)/\k (.c (.v (.int ka r)))
def bC (p:Prop) [h:Decidable p]:DV:=.c (.b p h)
def bTw (pg:Option Prop) (op:BinOp) (ka:IntKind) (a b:Int) (k:DV->Prop):Prop:=match op with
 |.lss=>k (bC (a<b))
 |.leq=>k (bC (a<=b))
 |.gtr=>k (bC (b<a))
 |.geq=>k (bC (b<=a))
 |.eql=>k (bC (a=b))
 |.neq=>k (bC (a≠b))
 |.add=>arK pg ka (a+b) k
 |.sub=>arK pg ka (a-b) k
 |.mul=>arK pg ka (a*b) k
 |.quo=>ob pg (b≠0)/\arK pg ka (a.tdiv b) k
 |.rem=>ob pg (b≠0)/\k (.c (.v (.int ka (a.tmod b))))
 |.or=>arK pg ka (BitVec.ofInt ka.bits a|||BitVec.ofInt ka.bits b).toNat k
 |.and=>arK pg ka (BitVec.ofInt ka.bits a&&&BitVec.ofInt ka.bits b).toNat k
 |_=>False
def bTx:BinOp->Bool
 |.shl=>true
 |.shr=>true
 |_=>false
def shI (pg:Option Prop) (op:BinOp) (ka:IntKind) (a b:Int) (k:DV->Prop):Prop:=match op with
 |.shl=>ob pg (0<=b)/\arK pg ka (a*2^(min b.toNat ka.bits)) k
 |.shr=>ob pg (0<=b)/\∃r,ob pg (r=a.fdiv (2^(min b.toNat ka.bits)))/\k (.c (.v (.int ka r)))
 |_=>False
def aMu (T:TT) (t:Nat) (op:BinOp) (p q:Prop) (hp:Decidable p) (hq:Decidable q) (k:DV->Prop):Prop:=match T t with
 |some ti=>bif ti.bo then (match op with
  |.eql=>k (.c (.b (p↔q) (@instDecidableIff p q hp hq)))
  |.neq=>k (.c (.b (¬(p↔q)) (@instDecidableNot _ (@instDecidableIff p q hp hq))))
  |_=>False) else False
 |none=>False
def bNg (T:TT) (t:Nat) (pg:Option Prop) (gs:Gs) (s:SS) (op:BinOp) (x y:Operand) (k:DV->Prop):Prop:=match val gs s x,val gs s y with
 |some (.c (.v (.int ka a))),some (.c (.v (.int kb b)))=>bif bTx op then shI pg op ka a b k else bif decide (ka=kb) then bTw pg op ka a b k else False
 |some (.c (.b p hp)),some (.c (.b q hq))=>aMu T t op p q hp hq k
 |some (.c (.b p hp)),some (.c (.v (.bool q)))=>aMu T t op p (q=true) hp inferInstance k
 |some (.c (.v (.bool p))),some (.c (.b q hq))=>aMu T t op (p=true) q inferInstance hq k
 |some (.c (.v (.string a))),some (.c (.v (.string b)))=>(match op with
  |.eql=>k (bC (a.toList=b.toList))
  |.neq=>k (bC (a.toList≠b.toList))
  |.add=>ob pg (a.size+b.size<=9223372036854775807)/\k (.c (.v (.string (a++b))))
  |_=>False)
 |some (.c (.r A _ _ _ _)),some (.c (.v (.slice none 0 0)))=>(match op,T t with
  |.eql,some ti=>bif ti.el.isSome then k (bC (A.isNone=true)) else False
  |_,_=>False)
 |some (.c (.p _ _)),some (.c (.v (.pointer none)))=>(match op,T t with
  |.eql,some ti=>bif ti.pt then k (.c (.v (.bool false))) else False
  |_,_=>False)
 |some (.c (.v (.pointer none))),some (.c (.v (.pointer none)))=>(match op,T t with
  |.eql,some ti=>bif ti.pt then k (.c (.v (.bool true))) else False
  |_,_=>False)
 |some (.a l1),some (.a l2)=>(match op,T t with
  |.eql,some ti=>∃vs:List Value,ob pg (l1=vs.map CV.v/\l2=vs.map CV.v/\ckF ti.ck vs=true)/\k (.c (.v (.bool true)))
  |_,_=>False)
 |_,_=>False
def eUn (pg:Option Prop) (gs:Gs) (s:SS) (op:UnOp) (x:Operand) (k:DV->Prop):Prop:=match val gs s x with
 |some (.c (.b p h))=>(match op with
  |.not=>k (.c (.b (¬p) (@instDecidableNot p h)))
  |_=>False)
 |some (.c (.v (.bool b)))=>(match op with
  |.not=>k (.c (.v (.bool (!b))))
  |_=>False)
 |some (.c (.v (.int ka a)))=>(match op with
  |.neg=>arK pg ka (0-a) k
  |_=>False)
 |_=>False
def aYk (T:TT) (pg:Option Prop) (gs:Gs) (s:SS) (t t':Nat) (x:Operand) (k:DV->Prop):Prop:=match T t,T t' with
 |some _,some ti=>(match ti.ik,val gs s x with
  |some ka,some (.c (.v (.int _ a)))=>arK pg ka a k
  |_,_=>False)
 |_,_=>False
def bNh (T:TT) (pg:Option Prop) (gs:Gs) (s:SS) (t:Nat) (x y:Operand) (k:DV->Prop):Prop:=match T t with
 |some ti=>(match ti.el with
  |some e=>(match T e,val gs s x,val gs s y with
   |some te,some (.c (.r A n c e' get)),some (.c (.v (.int _ z)))=>bif Nat.beq e' te.size then ∃m:Nat,ob pg (z=m/\m<n)/\k (.c (.q A n c e' get m 0)) else False
   |some te,some (.c (.s i n)),some (.c (.v (.int _ z)))=>(match s.bl[i]? with
    |some b=>∃m:Nat,ob pg (z=m/\m<n/\m*te.size<b.2.2.length)/\k (.c (.p i (m*te.size)))
    |none=>False)
   |some te,some (.c (.h A n _)),some (.c (.v (.int _ z)))=>∃m b:Nat,ob pg (z=m/\m<n/\A=some b)/\k (.c (.hp b (m*te.size)))
   |_,_,_=>False)
  |none=>False)
 |none=>False
def aYl (T:TT) (pg:Option Prop) (gs:Gs) (s:SS) (t:Nat) (x y:Operand) (k:DV->Prop):Prop:=match T t with
 |some ti=>(match ti.ar,val gs s x,val gs s y with
  |some (n,_,es),some (.c (.p i o)),some (.c (.v (.int _ z)))=>∃m:Nat,ob pg (z=m/\m<n)/\k (.c (.p i (o+m*es)))
  |some (n,_,es),some (.c (.q A nn c e' get j o)),some (.c (.v (.int _ z)))=>∃m:Nat,ob pg (z=m/\m<n)/\k (.c (.q A nn c e' get j (o+m*es)))
  |_,_,_=>False)
 |none=>False
def aYm (T:TT) (pg:Option Prop) (gs:Gs) (s:SS) (t:Nat) (x y:Operand) (k:DV->Prop):Prop:=match T t with
 |some ti=>bif ti.str then (match val gs s x,val gs s y with
  |some (.c (.v (.string a))),some (.c (.v (.int _ z)))=>∃(m:Nat) (b:UInt8),ob pg (z=m/\a[m]? =some b)/\k (.c (.v (.int .u8 b.toNat)))
  |_,_=>False) else False
 |none=>False
def slA (A:Option Addr) (c l e:Nat):Option Addr:=if c=l then A else A.map (·.add (l*e))
def eSl (T:TT) (pg:Option Prop) (gs:Gs) (s:SS) (t:Nat) (x:Operand) (lo hi:Option Operand) (k:DV->Prop):Prop:=match T t with
 |some ti=>(match ti.el with
  |some e=>(match T e,val gs s x with
   |some te,some (.c (.r A n c e' get))=>bif Nat.beq e' te.size then (match lo,hi with
    |none,some y=>(match val gs s y with
     |some (.c (.v (.int _ z)))=>∃h:Nat,ob pg (z=h/\h<=n)/\k (.c (.r A h c e' get))
     |_=>False)
    |some y,none=>(match val gs s y with
     |some (.c (.v (.int _ z)))=>∃l:Nat,ob pg (z=l/\l<=n)/\k (.c (.r (slA A c l e') (n-l) (c-l) e' λj=>get (j+l)))
     |_=>False)
    |_,_=>False) else False
   |some te,some (.c (.s i n))=>(match s.bl[i]? with
    |some b=>bif Nat.beq b.2.1 te.size&&Nat.ble 1 te.size then (match lo,hi with
     |none,some y=>(match val gs s y with
      |some (.c (.v (.int _ z)))=>∃h:Nat,ob pg (z=h/\h*te.size<=b.2.2.length)/\k (.c (.s i h))
      |_=>False)
     |some y,none=>(match val gs s y with
      |some (.c (.v (.int _ z)))=>∃l:Nat,ob pg (z=l/\l<=n/\n*te.size<=b.2.2.length)/\k (.c (.t i (l*te.size) (n-l)))
      |_=>False)
     |_,_=>False) else False
    |none=>False)
   |_,_=>False)
  |none=>bif ti.str then (match val gs s x,lo,hi with
   |some (.c (.v (.string a))),some y,some y'=>(match val gs s y,val gs s y' with
    |some (.c (.v (.int _ z))),some (.c (.v (.int _ z')))=>∃l h:Nat,ob pg (z=l/\z'=h/\l<=h/\h<=a.size)/\k (.c (.v (.string (a.extract l h))))
    |_,_=>False)
   |_,_,_=>False) else False)
 |none=>False
def aYn (T:TT) (gs:Gs) (s:SS) (t:Nat) (x:Operand) (i:Nat) (k:DV->Prop):Prop:=match T t with
 |some ti=>match ti.fs[i]? with
  |some fi=>match val gs s x with
   |some (.a l)=>ldK {size:=fi.size,agg:=fi.agg,by':=0,zero:=[]} fi.off l k
   |_=>False
  |none=>False
 |none=>False
def bNi (gs:Gs) (s:SS) (x:Operand) (i:Nat) (k:DV->Prop):Prop:=match val gs s x with
 |some (.t l)=>(match l[i]? with
  |some d=>k d
  |none=>False)
 |_=>False
def bNj (T:TT) (gs:Gs) (s:SS) (t:Nat) (x:Operand) (k:DV->Prop):Prop:=match T t with
 |some ti=>(match val gs s x with
  |some (.c (.r _ n _ _ _))=>bif ti.el.isSome then k (.c (.v (.int .i64 n))) else False
  |some (.c (.s _ n))=>bif ti.el.isSome then k (.c (.v (.int .i64 n))) else False
  |some (.c (.h _ n _))=>bif ti.el.isSome then k (.c (.v (.int .i64 n))) else False
  |some (.c (.v (.slice _ n _)))=>bif ti.el.isSome then k (.c (.v (.int .i64 n))) else False
  |some (.c (.v (.string a)))=>bif ti.str then k (.c (.v (.int .i64 a.size))) else False
  |_=>False)
 |none=>False
def eMm (mx:Bool) (gs:Gs) (s:SS) (x y:Operand) (k:DV->Prop):Prop:=match val gs s x,val gs s y with
 |some (.c (.v (.int ka a))),some (.c (.v (.int kb b)))=>bif decide (ka=kb) then k (.c (.v (.int ka (bif mx then max a b else min a b)))) else False
 |_,_=>False
def bLc (k:DV->Prop):DV->DV->DV->Prop
 |.c (.b p hp),.c (.b q hq),.c (.v (.bool z))=>bif z then k (.c (.b (p->q) (@instDecidableForall p q hp hq))) else k (.c (.b (p/\q) (@instDecidableAnd p q hp hq)))
 |.c (.b p hp),.c (.v (.bool y)),.c (.b q hq)=>bif y then k (.c (.b (p\/q) (@instDecidableOr p q hp hq))) else k (.c (.b (¬p/\q) (@instDecidableAnd _ q (@instDecidableNot p hp) hq)))
 |.c (.b p hp),.c (.b q hq),.c (.b r hr)=>k (.c (.b ((p/\q)\/(¬p/\r)) (@instDecidableOr _ _ (@instDecidableAnd p q hp hq) (@instDecidableAnd _ r (@instDecidableNot p hp) hr))))
 |.c (.b p hp),.c (.v (.bool y)),.c (.v (.bool z))=>bif y then (bif z then k (.c (.v (.bool true))) else k (.c (.b p hp))) else False
 |_,_,_=>False
def aYo (gs:Gs) (s:SS) (x y z:Operand) (k:DV->Prop):Prop:=match x with
 |.tmp t=>(match val gs s x with
  |some (.c (.v (.bool b)))=>bif b then aEh ((t,true)::gs) s y k else aEh ((t,false)::gs) s z k
  |some c=>(match val ((t,true)::gs) s y,val ((t,false)::gs) s z with
   |some p,some q=>bLc k c p q
   |_,_=>False)
  |none=>False)
 |_=>False
def aYp (gs:Gs) (s:SS):List Operand->(List (Nat×Nat)->Prop)->Prop
 |[],k=>k []
 |x::l,k=>match val gs s x with
  |some (.c (.p i o))=>aYp gs s l λr=>k ((i,o)::r)
  |_=>False
def bNk (gs:Gs) (s:SS) (fn:Fn) (fi ca:List Operand) (k:DV->Prop):Prop:=match fn with
 |.func q=>aYp gs s fi λa=>aYp gs s ca λb=>k (.c (.f q a b))
 |_=>False
section ops
variable {P:Program} {T:TT} (hT:Good P T) {w0 w:World} {nb:Nat} {s:SS} {ρ ρ0:Pl} {f:Nat->Value} {gs:Gs} {pg:Option Prop} {dst:Option Tmp} {ty:TypeId} {pos:String} {aft:Array Edge} {gd:Option (Nat×Bool)} {x y z:Operand} {t t':TypeId} {k:DV->Prop}
theorem aMv (h:aEh gs s x k) (hF:Fr s ρ w f):Pu P f ⟨dst,.move x,ty,pos,aft,gd⟩ w ρ s.bl.length gs k/\Pu P f ⟨dst,.assign x,ty,pos,aft,gd⟩ w ρ s.bl.length gs k:=by
 unfold aEh at h
 split at h
 ·next d hx=>exact⟨⟨d,h,λhs=>⟨_,cF hF hs hx,λu _=>rfl⟩⟩,⟨d,h,λhs=>⟨_,cF hF hs hx,λu _=>rfl⟩⟩⟩
 exact h.elim
theorem aYq {u:World} {a:Addr} (hx:ev f x= .pointer (some a)):(execOp (ev f) ⟨dst,.nilCheck x,ty,pos,aft,gd⟩).run P u= .ok (.value (.pointer (some a))) u:=by
 simp[execOp,hx,Instr.sureAddr]
theorem bHj (h:bNe gs s x k) (hF:Fr s ρ w f):Pu P f ⟨dst,.nilCheck x,ty,pos,aft,gd⟩ w ρ s.bl.length gs k:=by
 unfold bNe at h
 split at h
 ·next i o hx=>
  refine⟨_,h,λhs=>⟨_,cF hF hs hx,λu _=>?_⟩⟩
  obtain⟨_,b,_,he⟩:=(cF hF hs hx).inv_c
  rw[he]
  exact aYq he
 ·next A n c e get j o hx=>
  refine⟨_,h,λhs=>⟨_,cF hF hs hx,λu _=>?_⟩⟩
  obtain⟨_,_,b,o',_,he⟩:=(cF hF hs hx).inv_c
  rw[he]
  exact aYq he
 ·next b o hx=>
  refine⟨_,h,λhs=>⟨_,cF hF hs hx,λu _=>?_⟩⟩
  have he:=(cF hF hs hx).inv_c.inv_hp
  rw[he]
  exact aYq he
 exact h.elim
include hT in
theorem bHk {i:Nat} (h:bNf T gs s t x i k) (hF:Fr s ρ w f):Pu P f ⟨dst,.fieldAddr t x i,ty,pos,aft,gd⟩ w ρ s.bl.length gs k:=by
 unfold bNf at h
 split at h
 ·next ti ht=>
  split at h
  ·next fi hfi=>
   cases hz:Nat.ble 1 fi.size with
   |false=>rw[hz] at h;exact h.elim
   |true=>
    rw[hz] at h
    have hz':=bN hz
    simp only[cond_true] at h
    have hfs:∃F:Array Field,P.underlying t=some (.struct F)/\∃fl,F[i]? =some fl/\fl.offset=fi.off/\fl.type=fi.ty/\∃by' z,TyI P fi.ty fi.size by' z:=by
     rcases (hT t ti ht).fs with h0|⟨F,hF,_,hh⟩
     ·rw[h0] at hfi;cases hfi
     obtain⟨fl,h1,h2,h3,_,_,h4⟩:=hh i fi hfi
     exact⟨F,hF,fl,h1,h2,h3,h4⟩
    obtain⟨F,hFF,fl,h1,h2,h3,by',zz,h4⟩:=hfs
    have h5:TyI P fl.type ((fi.size-1)+1) by' zz:=by rw[h3,nZ hz'];exact h4
    split at h
    ·next d hx=>
     unfold bLb at h
     split at h
     ·next j o=>
      refine⟨_,h,λhs=>?_⟩
      obtain⟨hj,b,hb,he⟩:=(cF hF hs hx).inv_c
      refine⟨.pointer (some ⟨b,o+fi.off,none⟩),.c ⟨hj,b,hb,rfl⟩,λu _=>?_⟩
      rw[<-h2]
      exact cI hFF h1 h5 he
     ·next A n c e get j o=>
      refine⟨_,h,λhs=>?_⟩
      obtain⟨hr,hj,b,o',hA,he⟩:=(cF hF hs hx).inv_c
      refine⟨.pointer (some ⟨b,o'+j*e+(o+fi.off),none⟩),.c ⟨hr,hj,b,o',hA,rfl⟩,λu _=>?_⟩
      rw[<-h2,<-kO]
      exact cI hFF h1 h5 he
     ·next b o=>
      refine⟨_,h,λhs=>?_⟩
      refine⟨.pointer (some ⟨b,o+fi.off,none⟩),.c (Rc.hp _ _),λu _=>?_⟩
      rw[<-h2]
      exact cI hFF h1 h5 (cF hF hs hx).inv_c.inv_hp
     exact h.elim
    exact h.elim
  exact h.elim
 exact h.elim
theorem aSm {ti:TI} {o:Nat} {l:List CV} (h:ldK ti o l k):∃d,k d/\∀(ρ:Pl) (n:Nat) (w:World) (vl:List Value),Hl ρ n w l vl->∃v,Hd ρ n w d v/\((ti.agg=true/\v= .agg ((vl.drop o).take ti.size).toArray/\((vl.drop o).take ti.size).length=ti.size)\/(ti.agg=false/\vl[o]? =some v)):=by
 unfold ldK at h
 cases ha:ti.agg with
 |true=>
  rw[ha] at h
  obtain⟨h1,h2⟩:=aMt (show aSl ti.size (l.drop o) _ from h)
  refine⟨_,h2,λρ n w vl hl=>⟨_,.a ((hl.drop o).take ti.size),.inl ⟨rfl,rfl,?_⟩⟩⟩
  have:=hl.len
  simp only[cC,dP] at h1 ⊢
  omega
 |false=>
  rw[ha] at h
  simp only[cond_false] at h
  split at h
  ·next c hc=>
   refine⟨_,h,λρ n w vl hl=>?_⟩
   obtain⟨v,h1,h2⟩:=hl.get hc
   exact⟨v,.c h2,.inr ⟨rfl,h1⟩⟩
  exact h.elim
theorem pS {u:World} {b i:Nat} {T:TypeId} {vl junk:List Value} {x:Value} (h:u.heap[b]? =some (.cells (vl++junk).toArray T (0,0))) (hi:vl[i]? =some x):u.cell? ⟨b,i,none⟩=some x:=by
 unfold World.cell?
 simp only[h]
 have:=bW (l₂:=junk) (eP hi)
 simp[this,hi]
theorem aOx {ti:TI} {u:World} {b p o:Nat} {vl:List Value} {v:Value} (G:GoodT P t ti) (hx:ev f x= .pointer (some ⟨b,p+o,none⟩)) (hc:∀(i:Nat) (y:Value),vl[i]? =some y->u.cell? ⟨b,p+i,none⟩=some y)
 (hv:(ti.agg=true/\v= .agg ((vl.drop o).take ti.size).toArray/\((vl.drop o).take ti.size).length=ti.size)\/(ti.agg=false/\vl[o]? =some v)):(execOp (ev f) ⟨dst,.load t x,ty,pos,aft,gd⟩).run P u= .ok (.value v) u:=by
 obtain⟨d,hun⟩:=G.un
 rcases hv with ⟨ha,rfl,hl⟩|⟨ha,hv⟩
 ·obtain⟨zz,hty,_⟩:=G.ty
  refine fT hun (G.ag.trans ha) (by rw[hl];exact hty) hx λi y hi=>?_
  rw[iE] at hi
  split at hi
  ·rw[eQ] at hi
   rw[kO]
   exact hc _ _ hi
  cases hi
 exact dJ hun (G.ag.trans ha) hx (hc o v hv)
include hT in
theorem aYr (h:aYj T pg gs s t x k) (hD:Dn ρ0 w0 nb s ρ f w) (hp:sat f gs->aEm pg):Pu P f ⟨dst,.load t x,ty,pos,aft,gd⟩ w ρ s.bl.length gs k:=by
 unfold aYj at h
 split at h
 ·next ti ht=>
  have G:=hT t ti ht
  split at h
  ·next j o hx=>
   split at h
   ·next bb hb=>
    obtain⟨T',e,l⟩:=bb
    have h':∃d,k d/\(sat f gs->∀(ρ:Pl) (n:Nat) (w:World) (vl:List Value),Hl ρ n w l vl->∃v,Hd ρ n w d v/\((ti.agg=true/\v= .agg ((vl.drop o).take ti.size).toArray/\((vl.drop o).take ti.size).length=ti.size)\/(ti.agg=false/\vl[o]? =some v))):=by
     cases hz:Nat.beq e 0 with
     |true=>
      simp only[hz,cond_true] at h
      obtain⟨d,h1,h2⟩:=aSm h
      exact⟨d,h1,λ_=>h2⟩
     |false=>
      simp only[hz,cond_false] at h
      unfold ldS at h
      cases ha:ti.agg with
      |true=>
       rw[ha] at h
       obtain⟨r,h1,h2⟩:=h
       refine⟨_,h2,λhs ρ n w vl hl=>?_⟩
       obtain⟨h3,h4⟩:=oD h1 (hp hs)
       subst h3
       refine⟨_,.a ((hl.drop o).take ti.size),.inl ⟨rfl,rfl,?_⟩⟩
       have:=hl.len
       simp only[cC,dP] at h4 ⊢
       omega
      |false=>
       rw[ha] at h
       obtain⟨c,h1,h2⟩:=h
       refine⟨_,h2,λhs ρ n w vl hl=>?_⟩
       obtain⟨v,h3,h4⟩:=hl.get (oD h1 (hp hs))
       exact⟨v,.c h4,.inr ⟨rfl,h3⟩⟩
    obtain⟨d,hk,hd⟩:=h'
    refine⟨d,hk,λhs=>?_⟩
    obtain⟨hj,b,hρ,he⟩:=(cF hD.f hs hx).inv_c
    obtain⟨vl,junk,hh,hl,_⟩:=(hD.m.ok j T' e l hb).at hρ
    obtain⟨v,hv,hcase⟩:=hd hs ρ s.bl.length w vl hl
    refine⟨v,hv,λu hu=>aOx (p:=0) G (by rw[fK];exact he) (λi y hi=>?_) hcase⟩
    rw[fK]
    exact pS (by rw[(hu rfl).block b (fW hh)];exact hh) hi
   exact h.elim
  ·next A n c e get j o hx=>
   obtain⟨d,hk,hd⟩:=aSm h
   refine⟨d,hk,λhs=>?_⟩
   obtain⟨hr,hj,b,o',hA,he⟩:=(cF hD.f hs hx).inv_c
   obtain⟨b2,o2,hA2,hZ,vl,hcell,hlen,hel⟩:=hr.elem hj
   rw[hA] at hA2
   injection hA2 with hA2
   injection hA2 with e1 e2
   subst e1 e2
   obtain⟨v,hv,hcase⟩:=hd ρ s.bl.length w vl (Hl.of_get hlen λi c y hc hy=>Hc.of_rc (hel i c y hc hy))
   refine⟨v,hv,λu hu=>aOx (p:=o'+j*e) G he (λi y hi=>?_) hcase⟩
   rw[aAj ((hu rfl).block b hZ.lt)]
   exact(hcell i y hi).1
  ·next b o hx=>
   obtain⟨ff,j,h⟩:=h
   split at h
   ·next F hF=>
    cases hft:Nat.ble F.T 999999 with
    |false=>rw[hft] at h;exact h.elim
    |true=>
    rw[hft] at h
    obtain⟨hob,h⟩:=h
    have h':∃d,k d/\(sat f gs->∀(ρ:Pl) (n:Nat) (w:World) (vl:List Value),Hl ρ n w (F.get j) vl->∃v,Hd ρ n w d v/\((ti.agg=true/\v= .agg ((vl.drop o).take ti.size).toArray/\((vl.drop o).take ti.size).length=ti.size)\/(ti.agg=false/\vl[o]? =some v))):=by
     unfold ldS at h
     cases ha:ti.agg with
     |true=>
      rw[ha] at h
      obtain⟨r,h1,h2⟩:=h
      refine⟨_,h2,λhs ρ n w vl hl=>?_⟩
      obtain⟨h3,h4⟩:=oD h1 (hp hs)
      subst h3
      refine⟨_,.a ((hl.drop o).take ti.size),.inl ⟨rfl,rfl,?_⟩⟩
      have:=hl.len
      simp only[cC,dP] at h4 ⊢
      omega
     |false=>
      rw[ha] at h
      obtain⟨c,h1,h2⟩:=h
      refine⟨_,h2,λhs ρ n w vl hl=>?_⟩
      obtain⟨v,h3,h4⟩:=hl.get (oD h1 (hp hs))
      exact⟨v,.c h4,.inr ⟨rfl,h3⟩⟩
    obtain⟨d,hk,hd⟩:=h'
    refine⟨d,hk,λhs=>?_⟩
    obtain⟨hj,hA⟩:=oD hob (hp hs)
    have he:=(cF hD.f hs hx).inv_c.inv_hp
    obtain⟨vl,junk,hh,hlen,hcl⟩:=(hD.m.fam.mem hD.l hF hj).at hA hft
    obtain⟨v,hv,hcase⟩:=hd hs ρ s.bl.length w vl (Hl.of_get hlen λi c y hc hy=>Hc.of_rc (hcl.1 i c y hc hy))
    refine⟨v,hv,λu hu=>aOx (p:=0) G (by rw[fK];exact he) (λi y hi=>?_) hcase⟩
    rw[fK]
    exact pS (by rw[(hu rfl).block b (fW hh)];exact hh) hi
   exact h.elim
  exact h.elim
 exact h.elim
theorem aBo {ka:IntKind} {zz:Int} (h:arK pg ka zz k) (hp:sat f gs->aEm pg):∃d,k d/\(sat f gs->∃r,ka.wrap zz=r/\d= .c (.v (.int ka r))):=by
 obtain⟨r,h1,h2⟩:=h
 exact⟨_,h2,λhs=>⟨r,(oD h1 (hp hs)).symm,rfl⟩⟩
include hT in
theorem aGg {op:BinOp} {p q:Prop} {ip:Decidable p} {iq:Decidable q} (h:aMu T t op p q ip iq k) (ex:sat f gs->ev f x= .bool (@decide p ip)) (ey:sat f gs->ev f y= .bool (@decide q iq)):Pu P f ⟨dst,.binOp op t x y t',ty,pos,aft,gd⟩ w ρ s.bl.length gs k:=by
 unfold aMu at h
 split at h
 ·next ti ht=>
  cases hb:ti.bo with
  |false=>rw[hb] at h;exact h.elim
  |true=>
   rw[hb] at h
   simp only[cond_true] at h
   have hu:=(hT t ti ht).bo hb
   split at h
   ·refine⟨_,h,λhs=>⟨_,.c (Rc.b _ _),λu _=>?_⟩⟩
    rw[aWp hu (ex hs) (ey hs)]
    by_cases p<;>by_cases q<;>simp_all
   ·refine⟨_,h,λhs=>⟨_,.c (Rc.b _ _),λu _=>?_⟩⟩
    rw[aWq hu (ex hs) (ey hs)]
    by_cases p<;>by_cases q<;>simp_all
   exact h.elim
 exact h.elim
theorem Hl.inv_vs {n:Nat}:∀{vs vl:List Value},Hl ρ n w (vs.map CV.v) vl->vl=vs
 |[],[],_=>rfl
 |[],_::_,h=>h.elim
 |_::_,[],h=>h.elim
 |v::vs,x::vl,h=>by rw[h.1.inv_v,Hl.inv_vs h.2]
theorem aVt {P:Program} (w:World) (d:Nat) (t e:TypeId) (h:P.underlying t=some (.pointer e)):(Op.equalIn (d+1) t (.pointer none) (.pointer none)).run P w= .ok true w:=by
 simp[Op.equalIn,run_underlying h]
theorem aVu {P:Program} (w:World) (d:Nat) (t e:TypeId) (a:Addr) (h:P.underlying t=some (.pointer e)):(Op.equalIn (d+1) t (.pointer (some a)) (.pointer none)).run P w= .ok false w:=by
 simp[Op.equalIn,run_underlying h]
include hT in
theorem bHl {op:BinOp} (h:bNg T t pg gs s op x y k) (hF:Fr s ρ w f) (hp:sat f gs->aEm pg):Pu P f ⟨dst,.binOp op t x y t',ty,pos,aft,gd⟩ w ρ s.bl.length gs k:=by
 unfold bNg at h
 split at h
 ·next ka a kb b hx hy=>
  cases hsh:bTx op with
  |true=>
   rw[hsh] at h
   simp only[cond_true] at h
   have ex:sat f gs->ev f x= .int ka a:=λhs=>(cF hF hs hx).inv_c.inv_v
   have ey:sat f gs->ev f y= .int kb b:=λhs=>(cF hF hs hy).inv_c.inv_v
   unfold shI at h
   split at h
   ·obtain⟨h0,h⟩:=h
    obtain⟨d,hd,hh⟩:=aBo h hp
    exact⟨d,hd,λhs=>by obtain⟨r,hr,rfl⟩:=hh hs;exact⟨_,.c (Rc.v _),λu _=>aBf (ex hs) (ey hs) (oD h0 (hp hs)) hr⟩⟩
   ·obtain⟨h0,r,hr,h⟩:=h
    exact⟨_,h,λhs=>⟨_,.c (Rc.v _),λu _=>tU (ex hs) (ey hs) (oD h0 (hp hs)) (oD hr (hp hs)).symm⟩⟩
   exact h.elim
  |false=>
  rw[hsh] at h
  simp only[cond_false] at h
  cases hk:decide (ka=kb) with
  |false=>rw[hk] at h;exact h.elim
  |true=>
   rw[hk] at h
   have hk':=of_decide_eq_true hk
   subst hk'
   simp only[cond_true] at h
   have ex:sat f gs->ev f x= .int ka a:=λhs=>(cF hF hs hx).inv_c.inv_v
   have ey:sat f gs->ev f y= .int ka b:=λhs=>(cF hF hs hy).inv_c.inv_v
   unfold bTw at h
   split at h
   ·exact⟨_,h,λhs=>⟨_,.c (Rc.b _ _),λu _=>mP (ex hs) (ey hs)⟩⟩
   ·exact⟨_,h,λhs=>⟨_,.c (Rc.b _ _),λu _=>aWo (ex hs) (ey hs)⟩⟩
   ·exact⟨_,h,λhs=>⟨_,.c (Rc.b _ _),λu _=>aAf (ex hs) (ey hs)⟩⟩
   ·exact⟨_,h,λhs=>⟨_,.c (Rc.b _ _),λu _=>aEa (ex hs) (ey hs)⟩⟩
   ·exact⟨_,h,λhs=>⟨_,.c (Rc.b _ _),λu _=>tA (ex hs) (ey hs)⟩⟩
   ·exact⟨_,h,λhs=>⟨_,.c (Rc.b _ _),λu _=>xO (ex hs) (ey hs)⟩⟩
   ·obtain⟨d,hd,hh⟩:=aBo h hp
    exact⟨d,hd,λhs=>by obtain⟨r,hr,rfl⟩:=hh hs;exact⟨_,.c (Rc.v _),λu _=>kE (ex hs) (ey hs) hr⟩⟩
   ·obtain⟨d,hd,hh⟩:=aBo h hp
    exact⟨d,hd,λhs=>by obtain⟨r,hr,rfl⟩:=hh hs;exact⟨_,.c (Rc.v _),λu _=>lT (ex hs) (ey hs) hr⟩⟩
   ·obtain⟨d,hd,hh⟩:=aBo h hp
    exact⟨d,hd,λhs=>by obtain⟨r,hr,rfl⟩:=hh hs;exact⟨_,.c (Rc.v _),λu _=>uR (ex hs) (ey hs) hr⟩⟩
   ·obtain⟨h0,h⟩:=h
    obtain⟨d,hd,hh⟩:=aBo h hp
    exact⟨d,hd,λhs=>by obtain⟨r,hr,rfl⟩:=hh hs;exact⟨_,.c (Rc.v _),λu _=>aBe (ex hs) (ey hs) (oD h0 (hp hs)) hr⟩⟩
   ·obtain⟨h0,h⟩:=h
    exact⟨_,h,λhs=>⟨_,.c (Rc.v _),λu _=>aDz (ex hs) (ey hs) (oD h0 (hp hs)) rfl⟩⟩
   ·obtain⟨d,hd,hh⟩:=aBo h hp
    exact⟨d,hd,λhs=>by obtain⟨r,hr,rfl⟩:=hh hs;exact⟨_,.c (Rc.v _),λu _=>aJd (ex hs) (ey hs) hr⟩⟩
   ·obtain⟨d,hd,hh⟩:=aBo h hp
    exact⟨d,hd,λhs=>by obtain⟨r,hr,rfl⟩:=hh hs;exact⟨_,.c (Rc.v _),λu _=>bTk (ex hs) (ey hs) hr⟩⟩
   exact h.elim
 ·next p hp' q hq' hx hy=>exact aGg hT h (λhs=>(cF hF hs hx).inv_c.inv_b) (λhs=>(cF hF hs hy).inv_c.inv_b)
 ·next p hp' q hx hy=>exact aGg hT h (λhs=>(cF hF hs hx).inv_c.inv_b) (λhs=>by rw[(cF hF hs hy).inv_c.inv_v];simp)
 ·next p q hq' hx hy=>exact aGg hT h (λhs=>by rw[(cF hF hs hx).inv_c.inv_v];simp) (λhs=>(cF hF hs hy).inv_c.inv_b)
 ·next a b hx hy=>
  have ex:sat f gs->ev f x= .string a:=λhs=>(cF hF hs hx).inv_c.inv_v
  have ey:sat f gs->ev f y= .string b:=λhs=>(cF hF hs hy).inv_c.inv_v
  split at h
  ·refine⟨_,h,λhs=>⟨_,.c (Rc.b _ _),λu _=>?_⟩⟩
   simp[execOp,ex hs,ey hs,eqGuard,binOp,Op.stringOp]
   rw[sW]
   simp
  ·refine⟨_,h,λhs=>⟨_,.c (Rc.b _ _),λu _=>?_⟩⟩
   simp[execOp,ex hs,ey hs,eqGuard,binOp,Op.stringOp]
   rw[sW]
   simp
  ·refine⟨_,h.2,λhs=>⟨_,.c (Rc.v _),λu _=>?_⟩⟩
   have hsz:=oD h.1 (hp hs)
   have hno:¬(9223372036854775807:Int)<(a.size:Int)+(b.size:Int):=by omega
   simp[execOp,ex hs,ey hs,eqGuard,binOp,Op.stringOp,IntKind.max,hno]
   show(a.size:Int)+(b.size:Int)<=(9223372036854775807:Int)
   omega
  exact h.elim
 ·next A n c e' get hx hy=>
  split at h
  ·next ti hti=>
   cases he:ti.el with
   |none=>rw[he] at h;exact h.elim
   |some e=>
    rw[he] at h
    refine⟨_,h,λhs=>⟨_,.c (Rc.b _ _),λu _=>?_⟩⟩
    rw[aWv ((hT _ _ hti).el e he) (cF hF hs hx).inv_c.inv_r.1 (cF hF hs hy).inv_c.inv_v,Bool.decide_eq_true]
  exact h.elim
 ·next j o hx hy=>
  split at h
  ·next ti hti=>
   cases he:ti.pt with
   |false=>rw[he] at h;exact h.elim
   |true=>
    rw[he] at h
    obtain⟨e,hu⟩:=(hT _ _ hti).pt he
    refine⟨_,h,λhs=>⟨_,.c (Rc.v _),λu _=>?_⟩⟩
    obtain⟨-,b,-,ex⟩:=(cF hF hs hx).inv_c
    have ey:=(cF hF hs hy).inv_c.inv_v
    have h1:(Op.equalIn (9999+1) t (.pointer (some ⟨b,o,none⟩)) (.pointer none)).run P u= .ok false u:=aVu u 9999 t e _ hu
    simp only[execOp,ex,ey,eqGuard,binOp]
    simp[Op.equal,Op.maxDepth,h1]
  exact h.elim
 ·next hx hy=>
  split at h
  ·next ti hti=>
   cases he:ti.pt with
   |false=>rw[he] at h;exact h.elim
   |true=>
    rw[he] at h
    obtain⟨e,hu⟩:=(hT _ _ hti).pt he
    refine⟨_,h,λhs=>⟨_,.c (Rc.v _),λu _=>?_⟩⟩
    have ex:=(cF hF hs hx).inv_c.inv_v
    have ey:=(cF hF hs hy).inv_c.inv_v
    have h1:(Op.equalIn (9999+1) t (.pointer none) (.pointer none)).run P u= .ok true u:=aVt u 9999 t e hu
    simp only[execOp,ex,ey,eqGuard,binOp]
    simp[Op.equal,Op.maxDepth,h1]
  exact h.elim
 ·next l1 l2 hx hy=>
  split at h
  ·next ti hti=>
   obtain⟨vs,h0,h⟩:=h
   refine⟨_,h,λhs=>⟨_,.c (Rc.v _),λu _=>?_⟩⟩
   obtain⟨e1,e2,e3⟩:=oD h0 (hp hs)
   obtain⟨k1,k2⟩:=(hT _ _ hti).ck vs e3
   have ex:ev f x= .agg vs.toArray:=by
    obtain⟨vl,q1,q2⟩:=(cF hF hs hx).inv_a
    rw[e1] at q2
    rw[q1,q2.inv_vs]
   have ey:ev f y= .agg vs.toArray:=by
    obtain⟨vl,q1,q2⟩:=(cF hF hs hy).inv_a
    rw[e2] at q2
    rw[q1,q2.inv_vs]
   have k3:(Op.equalIn 10000 t (.agg vs.toArray) (.agg vs.toArray)).run P u= .ok true u:=k2 u
   simp only[execOp,ex,ey,Sem.run_bind,run_eqGuard_agg u _ _ _ _ _ _ k1,Result.andThen_ok,run_eql_struct,k3,Sem.run_pure]
  exact h.elim
 exact h.elim
theorem bNl {op:UnOp} (h:eUn pg gs s op x k) (hF:Fr s ρ w f) (hp:sat f gs->aEm pg):Pu P f ⟨dst,.unOp op t x,ty,pos,aft,gd⟩ w ρ s.bl.length gs k:=by
 unfold eUn at h
 split at h
 ·next p hh hx=>
  split at h
  ·refine⟨_,h,λhs=>⟨_,.c (Rc.b _ _),λu _=>?_⟩⟩
   rw[aFr (cF hF hs hx).inv_c.inv_b]
   simp
  exact h.elim
 ·next b hx=>
  split at h
  ·exact⟨_,h,λhs=>⟨_,.c (Rc.v _),λu _=>aFr (cF hF hs hx).inv_c.inv_v⟩⟩
  exact h.elim
 ·next ka a hx=>
  split at h
  ·obtain⟨d,hd,hh⟩:=aBo h hp
   exact⟨d,hd,λhs=>by obtain⟨r,hr,rfl⟩:=hh hs;exact⟨_,.c (Rc.v _),λu _=>aRv (cF hF hs hx).inv_c.inv_v hr⟩⟩
  exact h.elim
 exact h.elim
include hT in
theorem aYs (h:aYk T pg gs s t t' x k) (hF:Fr s ρ w f) (hp:sat f gs->aEm pg):Pu P f ⟨dst,.convert t t' x,ty,pos,aft,gd⟩ w ρ s.bl.length gs k:=by
 unfold aYk at h
 split at h
 ·next t1 ti h1 h2=>
  split at h
  ·next ka kk a hk hx=>
   obtain⟨d0,hd0⟩:=(hT t t1 h1).un
   obtain⟨d,hd,hh⟩:=aBo h hp
   exact⟨d,hd,λhs=>by obtain⟨r,hr,rfl⟩:=hh hs;exact⟨_,.c (Rc.v _),λu _=>fE hd0 ((hT t' ti h2).ik _ hk) (cF hF hs hx).inv_c.inv_v hr⟩⟩
  exact h.elim
 exact h.elim
include hT in
theorem bHm (h:bNh T pg gs s t x y k) (hD:Dn ρ0 w0 nb s ρ f w) (hp:sat f gs->aEm pg):Pu P f ⟨dst,.indexAddr t x y,ty,pos,aft,gd⟩ w ρ s.bl.length gs k:=by
 unfold bNh at h
 split at h
 ·next ti ht=>
  split at h
  ·next e he=>
   have hu:=(hT t ti ht).el e he
   split at h
   ·next te A n c e' get kk zz hte hx hy=>
    obtain⟨z0,hty,_⟩:=(hT e te hte).ty
    cases hb:Nat.beq e' te.size with
    |false=>rw[hb] at h;exact h.elim
    |true=>
     rw[hb] at h
     have hb':=aO hb
     obtain⟨m,hm,h⟩:=(show ∃m:Nat,ob pg (zz=m/\m<n)/\k (.c (.q A n c e' get m 0)) from h)
     refine⟨_,h,λhs=>?_⟩
     obtain⟨hm1,hm2⟩:=oD hm (hp hs)
     obtain⟨h1,h2⟩:=(cF hD.f hs hx).inv_c.inv_r
     obtain⟨b,o,hA,_⟩:=h2.elem hm2
     refine⟨.pointer (some ⟨b,o+m*e'+0,none⟩),.c ⟨h2,hm2,b,o,hA,rfl⟩,λu _=>?_⟩
     have hr:=cA (P:=P) (w:=u) (dst:=dst) (ty:=ty) (pos:=pos) (aft:=aft) (g:=gd) (b:=b) (o:=o) (n:=n) (c:=c) hu hty (by rw[h1,hA]) (cF hD.f hs hy).inv_c.inv_v oM oM
     rw[hm1,bP,<-hb'] at hr
     exact hr
   ·next te i n kk zz hte hx hy=>
    obtain⟨z0,hty,_⟩:=(hT e te hte).ty
    split at h
    ·next bb hbb=>
     obtain⟨T',es,l⟩:=bb
     obtain⟨m,hm,h⟩:=h
     refine⟨_,h,λhs=>?_⟩
     obtain⟨hm1,hm2,hm3⟩:=oD hm (hp hs)
     obtain⟨hi,he⟩:=(cF hD.f hs hx).inv_c
     have hq:=hD.m.ok i T' es l hbb
     cases hb:(ρ i).1 with
     |none=>
      unfold Bq at hq
      simp only[hb] at hq
      rw[hq.1] at hm3
      exact absurd hm3 (aV _)
     |some b=>
      rw[hb] at he
      refine⟨.pointer (some ⟨b,m*te.size,none⟩),.c ⟨hi,b,hb,rfl⟩,λu _=>?_⟩
      have hr:=cA (P:=P) (w:=u) (dst:=dst) (ty:=ty) (pos:=pos) (aft:=aft) (g:=gd) (b:=b) (o:=0) (n:=n) (c:=(ρ i).2) hu hty he (cF hD.f hs hy).inv_c.inv_v oM oM
      rw[hm1,bP,fK] at hr
      exact hr
    exact h.elim
   ·next te A n c kk zz hte hx hy=>
    obtain⟨z0,hty,_⟩:=(hT e te hte).ty
    obtain⟨m,b,hm,h⟩:=h
    refine⟨_,h,λhs=>?_⟩
    obtain⟨hm1,hm2,hA⟩:=oD hm (hp hs)
    subst hA
    refine⟨.pointer (some ⟨b,m*te.size,none⟩),.c (Rc.hp _ _),λu _=>?_⟩
    have hr:=cA (P:=P) (w:=u) (dst:=dst) (ty:=ty) (pos:=pos) (aft:=aft) (g:=gd) (b:=b) (o:=0) (n:=n) (c:=c) hu hty (cF hD.f hs hx).inv_c.inv_h (cF hD.f hs hy).inv_c.inv_v oM oM
    rw[hm1,bP,fK] at hr
    exact hr
   exact h.elim
  exact h.elim
 exact h.elim
theorem aBp {u:World} {kk:IntKind} {i:Int} {b o n size bytes:Nat} {zz:Value} {e:TypeId} (hu:P.underlying t=some (.array n e)) (ht:TyI P e size bytes zz) (hx:ev f x= .pointer (some ⟨b,o,none⟩)) (hy:ev f y= .int kk i) (h0:0<=i) (h1:i<n):
 (execOp (ev f) ⟨dst,.indexAddr t x y,ty,pos,aft,gd⟩).run P u= .ok (.value (.pointer (some ⟨b,o+i.toNat*size,none⟩))) u:=by
 obtain⟨ii,hi,_,hs,_⟩:=ht.ex
 simp[execOp,hx,hy,Instr.indexAt,Instr.sureAddr,asIntOf,run_underlying hu,sizeOf,typeInfo,hi,hs,h0,h1,iA]
include hT in
theorem aYt (h:aYl T pg gs s t x y k) (hF:Fr s ρ w f) (hp:sat f gs->aEm pg):Pu P f ⟨dst,.indexAddr t x y,ty,pos,aft,gd⟩ w ρ s.bl.length gs k:=by
 unfold aYl at h
 split at h
 ·next ti ht=>
  split at h
  ·next n e es i o kk z har hx hy=>
   obtain⟨hu,by',zz,hty⟩:=(hT t ti ht).ar n e es har
   obtain⟨m,hm,h⟩:=h
   refine⟨_,h,λhs=>?_⟩
   obtain⟨hm1,hm2⟩:=oD hm (hp hs)
   obtain⟨hi,b,hb,he⟩:=(cF hF hs hx).inv_c
   refine⟨.pointer (some ⟨b,o+m*es,none⟩),.c ⟨hi,b,hb,rfl⟩,λu _=>?_⟩
   have hr:=aBp (P:=P) (u:=u) (dst:=dst) (ty:=ty) (pos:=pos) (aft:=aft) (gd:=gd) hu hty he (cF hF hs hy).inv_c.inv_v oM oM
   rw[hm1,bP] at hr
   exact hr
  ·next n e es A nn c e' get j o kk z har hx hy=>
   obtain⟨hu,by',zz,hty⟩:=(hT t ti ht).ar n e es har
   obtain⟨m,hm,h⟩:=h
   refine⟨_,h,λhs=>?_⟩
   obtain⟨hm1,hm2⟩:=oD hm (hp hs)
   obtain⟨hr0,hj,b,o',hA,he⟩:=(cF hF hs hx).inv_c
   refine⟨.pointer (some ⟨b,o'+j*e'+(o+m*es),none⟩),.c ⟨hr0,hj,b,o',hA,rfl⟩,λu _=>?_⟩
   have hr:=aBp (P:=P) (u:=u) (dst:=dst) (ty:=ty) (pos:=pos) (aft:=aft) (gd:=gd) hu hty he (cF hF hs hy).inv_c.inv_v oM oM
   rw[hm1,bP,kO (o'+j*e')] at hr
   exact hr
  exact h.elim
 exact h.elim
include hT in
theorem aYu (h:aYm T pg gs s t x y k) (hF:Fr s ρ w f) (hp:sat f gs->aEm pg):Pu P f ⟨dst,.index t x y,ty,pos,aft,gd⟩ w ρ s.bl.length gs k:=by
 unfold aYm at h
 split at h
 ·next ti ht=>
  cases hb:ti.str with
  |false=>rw[hb] at h;exact h.elim
  |true=>
   rw[hb] at h
   simp only[cond_true] at h
   split at h
   ·next a kk z hx hy=>
    obtain⟨m,b,hm,h⟩:=h
    refine⟨_,h,λhs=>?_⟩
    obtain⟨hm1,hm2⟩:=oD hm (hp hs)
    refine⟨_,.c (Rc.v _),λu _=>?_⟩
    have hx':=(cF hF hs hx).inv_c.inv_v
    have hy':=(cF hF hs hy).inv_c.inv_v
    have h0:0<=z:=by omega
    have hz:z.toNat=m:=by omega
    simp[execOp,hx',hy',Instr.index,asIntOf,run_underlying ((hT t ti ht).str hb),h0,hz,hm2]
   exact h.elim
 exact h.elim
include hT in
theorem bNm {lo hi:Option Operand} (h:eSl T pg gs s t x lo hi k) (hD:Dn ρ0 w0 nb s ρ f w) (hp:sat f gs->aEm pg):Pu P f ⟨dst,.slice t x lo hi none,ty,pos,aft,gd⟩ w ρ s.bl.length gs k:=by
 have hF:=hD.f
 unfold eSl at h
 split at h
 ·next ti ht=>
  split at h
  ·next e he=>
   have hu:=(hT t ti ht).el e he
   split at h
   ·next te A n c e' get hte hx=>
    obtain⟨zz,hty,_⟩:=(hT e te hte).ty
    cases hb:Nat.beq e' te.size with
    |false=>rw[hb] at h;exact h.elim
    |true=>
     rw[hb] at h
     simp only[cond_true] at h
     have hb':=aO hb
     split at h
     ·next y=>
      split at h
      ·next kk z hy=>
       obtain⟨m,hm,h⟩:=h
       refine⟨_,h,λhs=>?_⟩
       obtain⟨hm1,hm2⟩:=oD hm (hp hs)
       obtain⟨e1,e2⟩:=(cF hF hs hx).inv_c.inv_r
       have hcn:n<=c/\c<=maxLen:=by
        cases e2 with
        |nil A c e get hm=>exact⟨aF _,hm⟩
        |r b o n c e get V hc hm=>exact⟨hc,hm⟩
       refine⟨.slice A m c,.c (Hc.of_rc ?_),λu _=>?_⟩
       ·cases e2 with
        |nil A c e get hmx=>
         have:m=0:=by omega
         subst this
         exact Rc.nil _ _ _ _ hmx
        |r b o n c e get V hc hmx hZ hcell hlen hel=>exact Rc.r b o m c e' get V oM hmx hZ (λj hj=>hcell j oM) (λj hj=>hlen j oM) (λj hj=>hel j oM)
       have hr:=aCy (P:=P) (w:=u) (dst:=dst) (ty:=ty) (pos:=pos) (aft:=aft) (g:=gd) hu hty e1 (cF hF hs hy).inv_c.inv_v oM oM
       rw[hm1,bP] at hr
       exact hr
      exact h.elim
     ·next y=>
      split at h
      ·next kk z hy=>
       obtain⟨m,hm,h⟩:=h
       refine⟨_,h,λhs=>?_⟩
       obtain⟨hm1,hm2⟩:=oD hm (hp hs)
       obtain⟨e1,e2⟩:=(cF hF hs hx).inv_c.inv_r
       refine⟨.slice (slA A c m e') (n-m) (c-m),.c (Hc.of_rc ?_),λu _=>?_⟩
       ·cases e2 with
        |nil A c e get hmx=>rw[Nat.zero_sub];exact Rc.nil _ _ _ _ oM
        |r b o n c e get V hc hmx hZ hcell hlen hel=>
         by_cases h0:n-m=0
         ·rw[h0];exact Rc.nil _ _ _ _ oM
         have hA:slA (some ⟨b,o,none⟩) c m e'=some ⟨b,o+m*e',none⟩:=by
          unfold slA
          rw[if_neg oM]
          simp[iA]
         rw[hA]
         refine Rc.r b (o+m*e') (n-m) (c-m) e' (λj=>get (j+m)) (λj=>V (j+m)) oM oM hZ (λj hj i u hu=>?_) (λj hj=>hlen (j+m) oM) (λj hj=>hel (j+m) oM)
         have:=hcell (j+m) oM i u hu
         rw[show o+m*e'+j*e'+i=o+(j+m)*e'+i by rw[dW];omega]
         exact this
       have hr:=aCz (P:=P) (w:=u) (dst:=dst) (ty:=ty) (pos:=pos) (aft:=aft) (g:=gd) hu hty e1 (cF hF hs hy).inv_c.inv_v oM oM
       rw[hm1,bP,<-hb'] at hr
       exact hr
      exact h.elim
     exact h.elim
   ·next te i n hte hx=>
    obtain⟨zz,hty,_⟩:=(hT e te hte).ty
    split at h
    ·next bb hbb=>
     obtain⟨Tb,eb,lb⟩:=bb
     cases hb:(Nat.beq eb te.size&&Nat.ble 1 te.size) with
     |false=>simp only[hb,cond_false] at h
     |true=>
      simp only[hb,cond_true] at h
      simp only[aQ] at hb
      have hb':=aO hb.1
      subst hb'
      have hpos:=bN hb.2
      split at h
      ·next y=>
       split at h
       ·next kk z hy=>
        obtain⟨m,hm,h⟩:=h
        refine⟨_,h,λhs=>?_⟩
        obtain⟨hm1,hm2⟩:=oD hm (hp hs)
        obtain⟨hi,he⟩:=(cF hF hs hx).inv_c
        have hcap:m<=(ρ i).2:=by
         have hq:=hD.m.ok i Tb te.size lb hbb
         unfold Bq at hq
         cases hρ:(ρ i).1 with
         |none=>
          simp only[hρ] at hq
          rw[hq.1] at hm2
          have:m=0:=by
           rcases dB m with h0|h0
           ·exact h0
           have:=uF h0 hpos;simp at hm2;omega
          omega
         |some b=>
          simp only[hρ] at hq
          obtain⟨vl,junk,_,q2,q3,_⟩:=hq
          have h1:=(q3 hpos).1
          have h2:=q2.len
          rw[aP] at h1
          have h3:m*te.size<=(ρ i).2*te.size:=by omega
          exact gD h3 hpos
        refine⟨.slice ((ρ i).1.map λb=>⟨b,0,none⟩) m (ρ i).2,.c ⟨hi,rfl⟩,λu _=>?_⟩
        have hr:=aCy (P:=P) (w:=u) (dst:=dst) (ty:=ty) (pos:=pos) (aft:=aft) (g:=gd) hu hty he (cF hF hs hy).inv_c.inv_v oM oM
        rw[hm1,bP] at hr
        exact hr
       exact h.elim
      ·next y=>
       split at h
       ·next kk z hy=>
        obtain⟨l,hm,h⟩:=h
        refine⟨_,h,λhs=>?_⟩
        obtain⟨hm1,hm2,hm3⟩:=oD hm (hp hs)
        obtain⟨hi,he⟩:=(cF hF hs hx).inv_c
        have hcap:n<=(ρ i).2/\(ρ i).2<=maxLen/\(n≠0->∃b,(ρ i).1=some b):=by
         have hq:=hD.m.ok i Tb te.size lb hbb
         unfold Bq at hq
         cases hρ:(ρ i).1 with
         |none=>
          simp only[hρ] at hq
          rw[hq.1] at hm3
          have:n=0:=by
           rcases dB n with h0|h0
           ·exact h0
           have:=uF h0 hpos;simp at hm3;omega
          exact⟨by omega,by rw[hq.2.1];exact aF _,λh=>absurd this h⟩
         |some b=>
          simp only[hρ] at hq
          obtain⟨vl,junk,_,q2,q3,_⟩:=hq
          have h1:=(q3 hpos).1
          have h2:=q2.len
          rw[aP] at h1
          have h3:n*te.size<=(ρ i).2*te.size:=by omega
          exact⟨gD h3 hpos,(q3 hpos).2,λ_=>⟨b,rfl⟩⟩
        refine⟨.slice (if (ρ i).2=l then (ρ i).1.map (λb=>(⟨b,0,none⟩:Addr)) else ((ρ i).1.map λb=>(⟨b,0,none⟩:Addr)).map (·.add (l*te.size))) (n-l) ((ρ i).2-l),.c ⟨hi,_,_,by omega,by omega,rfl,?_⟩,λu _=>?_⟩
        ·by_cases h0:n-l=0
         ·exact .inl h0
         obtain⟨b,hb⟩:=hcap.2.2 oM
         refine .inr ⟨b,hb,?_⟩
         rw[if_neg oM,hb]
         simp[iA]
        have hr:=aCz (P:=P) (w:=u) (dst:=dst) (ty:=ty) (pos:=pos) (aft:=aft) (g:=gd) hu hty he (cF hF hs hy).inv_c.inv_v oM oM
        rw[hm1,bP] at hr
        exact hr
       exact h.elim
      exact h.elim
    exact h.elim
   exact h.elim
  cases hb:ti.str with
  |false=>rw[hb] at h;exact h.elim
  |true=>
   rw[hb] at h
   simp only[cond_true] at h
   split at h
   ·next a y y' hx=>
    split at h
    ·next k1 z k2 z' hy hy'=>
     obtain⟨l,m,hm,h⟩:=h
     refine⟨_,h,λhs=>⟨_,.c (Rc.v _),λu _=>?_⟩⟩
     obtain⟨h1,h2,h3,h4⟩:=oD hm (hp hs)
     subst h1 h2
     have e1:=(cF hF hs hx).inv_c.inv_v
     have e2:=(cF hF hs hy).inv_c.inv_v
     have e3:=(cF hF hs hy').inv_c.inv_v
     have hno:¬(a.size:Int)<(m:Int):=by omega
     have hno2:¬(m:Int)<(l:Int):=by omega
     simp[execOp,e1,e2,e3,Instr.sliceAt,Instr.slice,Instr.sliceBounds,Instr.sliceBound,asIntOf,run_underlying ((hT t ti ht).str hb),hno,hno2,h3,h4]
    exact h.elim
   exact h.elim
 exact h.elim
include hT in
theorem aYv {i:Nat} (h:aYn T gs s t x i k) (hF:Fr s ρ w f):Pu P f ⟨dst,.field t x i,ty,pos,aft,gd⟩ w ρ s.bl.length gs k:=by
 unfold aYn at h
 split at h
 ·next ti ht=>
  split at h
  ·next fi hfi=>
   split at h
   ·next l hx=>
    rcases (hT t ti ht).fs with h0|⟨F,hFF,_,hh⟩
    ·rw[h0] at hfi;cases hfi
    obtain⟨fl,h1,h2,h3,h4,⟨dd,h5⟩,by',zz,h6⟩:=hh i fi hfi
    obtain⟨d,hk,hd⟩:=aSm h
    refine⟨d,hk,λhs=>?_⟩
    obtain⟨vl,he,hl⟩:=(cF hF hs hx).inv_a
    obtain⟨v,hv,hcase⟩:=hd ρ s.bl.length w vl hl
    refine⟨v,hv,λu _=>?_⟩
    rw[<-h3] at h4 h5 h6
    rcases hcase with ⟨ha,rfl,hlen⟩|⟨ha,hv⟩
    ·have hr:=aWr (P:=P) (w:=u) (dst:=dst) (ty:=ty) (pos:=pos) (aft:=aft) (g:=gd) hFF h1 h5 (h4.trans ha) h6 he
     rw[hr,h2]
     simp
    exact bGm hFF h1 h5 (h4.trans ha) he (by rw[h2];simpa using hv)
   exact h.elim
  exact h.elim
 exact h.elim
theorem bHn {i:Nat} (h:bNi gs s x i k) (hF:Fr s ρ w f):Pu P f ⟨dst,.extract x i,ty,pos,aft,gd⟩ w ρ s.bl.length gs k:=by
 unfold bNi at h
 split at h
 ·next l hx=>
  split at h
  ·next d hd=>
   refine⟨d,h,λhs=>?_⟩
   obtain⟨vl,he,hlen,hh⟩:=(cF hF hs hx).inv_t
   have hlt:i<vl.length:=by rw[<-hlen];exact eP hd
   exact⟨vl[i],hh i d _ hd (aK hlt),λu _=>bZ he (by simp[hlt])⟩
  exact h.elim
 exact h.elim
theorem bNn {u:World} {a:ByteArray} (ht:P.underlying t=some .string) (hx:ev f x= .string a):(execOp (ev f) ⟨dst,.call ⟨.builtin .len,#[x],#[t]⟩,ty,pos,aft,gd⟩).run P u= .ok (.value (.int .i64 a.size)) u:=by
 simp[execOp,resolve,invoke,builtin,Builtin.len_,run_underlying ht,hx,goInt]
include hT in
theorem bHo (h:bNj T gs s t x k) (hF:Fr s ρ w f):Pu P f ⟨dst,.call ⟨.builtin .len,#[x],#[t]⟩,ty,pos,aft,gd⟩ w ρ s.bl.length gs k:=by
 unfold bNj at h
 split at h
 ·next ti ht=>
  have hel:∀{b:Bool} {q:Prop},(bif ti.el.isSome then q else False)->q/\∃e,P.underlying t=some (.slice e):=λ{_ q} hq=>by
   cases he:ti.el with
   |none=>rw[he] at hq;exact hq.elim
   |some e=>rw[he] at hq;exact⟨hq,e,(hT t ti ht).el e he⟩
  split at h
  ·next A n c e get hx=>
   obtain⟨h,e,hu⟩:=hel (b:=true) h
   exact⟨_,h,λhs=>⟨_,.c (Rc.v _),λu _=>gX hu (cF hF hs hx).inv_c.inv_r.1⟩⟩
  ·next i n hx=>
   obtain⟨h,e,hu⟩:=hel (b:=true) h
   exact⟨_,h,λhs=>⟨_,.c (Rc.v _),λu _=>gX hu (cF hF hs hx).inv_c.2⟩⟩
  ·next A n c hx=>
   obtain⟨h,e,hu⟩:=hel (b:=true) h
   exact⟨_,h,λhs=>⟨_,.c (Rc.v _),λu _=>gX hu (cF hF hs hx).inv_c.inv_h⟩⟩
  ·next A n c hx=>
   obtain⟨h,e,hu⟩:=hel (b:=true) h
   exact⟨_,h,λhs=>⟨_,.c (Rc.v _),λu _=>gX hu (cF hF hs hx).inv_c.inv_v⟩⟩
  ·next a hx=>
   cases hb:ti.str with
   |false=>rw[hb] at h;exact h.elim
   |true=>
    rw[hb] at h
    exact⟨_,h,λhs=>⟨_,.c (Rc.v _),λu _=>bNn ((hT t ti ht).str hb) (cF hF hs hx).inv_c.inv_v⟩⟩
  exact h.elim
 exact h.elim
theorem aYw {mx:Bool} (h:eMm mx gs s x y k) (hF:Fr s ρ w f):Pu P f ⟨dst,.call ⟨.builtin (bif mx then .max else .min),#[x,y],#[t,t']⟩,ty,pos,aft,gd⟩ w ρ s.bl.length gs k:=by
 unfold eMm at h
 split at h
 ·next ka a kb b hx hy=>
  cases hk:decide (ka=kb) with
  |false=>rw[hk] at h;exact h.elim
  |true=>
   rw[hk] at h
   have hk':=of_decide_eq_true hk
   subst hk'
   refine⟨_,h,λhs=>⟨_,.c (Rc.v _),λu _=>?_⟩⟩
   cases mx
   ·have:=bMe (P:=P) (w:=u) (dst:=dst) (ty:=ty) (pos:=pos) (aft:=aft) (g:=gd) (t:=t) (t':=t') (cF hF hs hx).inv_c.inv_v (cF hF hs hy).inv_c.inv_v
    rw[show(if b<a then b else a)=min a b by omega] at this
    exact this
   have:=bMd (P:=P) (w:=u) (dst:=dst) (ty:=ty) (pos:=pos) (aft:=aft) (g:=gd) (t:=t) (t':=t') (cF hF hs hx).inv_c.inv_v (cF hF hs hy).inv_c.inv_v
   rw[show(if b>a then b else a)=max a b by omega] at this
   exact this
 exact h.elim
theorem yG {t:Nat} {b:Bool} (h:f t= .bool b) (hs:sat f gs):sat f ((t,b)::gs):=λp hp=>by
 rcases bJ.1 hp with rfl|hp
 ·exact h
 exact hs p hp
theorem aYx (h:aYo gs s x y z k) (hF:Fr s ρ w f):Pu P f ⟨dst,.pick x y z,ty,pos,aft,gd⟩ w ρ s.bl.length gs k:=by
 unfold aYo at h
 split at h
 ·next tt=>
  split at h
  ·next b hx=>
   cases b with
   |true=>
    simp only[cond_true] at h
    unfold aEh at h
    split at h
    ·next d hy=>
     refine⟨d,h,λhs=>?_⟩
     have e:ev f (.tmp tt)= .bool true:=(cF hF hs hx).inv_c.inv_v
     exact⟨_,cF hF (yG e hs) hy,λu _=>kT e rfl⟩
    exact h.elim
   |false=>
    simp only[cond_false] at h
    unfold aEh at h
    split at h
    ·next d hy=>
     refine⟨d,h,λhs=>?_⟩
     have e:ev f (.tmp tt)= .bool false:=(cF hF hs hx).inv_c.inv_v
     exact⟨_,cF hF (yG e hs) hy,λu _=>mO e rfl⟩
    exact h.elim
  ·next c hnot hx=>
   split at h
   ·next p q hy hz=>
    have key:∀(pp:Prop) (hp:Decidable pp) (d:DV),c= .c (.b pp hp)->(pp->∀v,Hd ρ s.bl.length w p v->Hd ρ s.bl.length w d v)->(¬pp->∀v,Hd ρ s.bl.length w q v->Hd ρ s.bl.length w d v)->sat f gs->Cal P f ⟨dst,.pick (.tmp tt) y z,ty,pos,aft,gd⟩ w ρ s.bl.length d:=by
     intro pp hp d hc h1 h2 hs
     subst hc
     have e:ev f (.tmp tt)= .bool (decide pp):=(cF hF hs hx).inv_c.inv_b
     by_cases hpp:pp
     ·rw[decide_eq_true hpp] at e
      exact⟨_,h1 hpp _ (cF hF (yG e hs) hy),λu _=>kT e rfl⟩
     rw[decide_eq_false hpp] at e
     exact⟨_,h2 hpp _ (cF hF (yG e hs) hz),λu _=>mO e rfl⟩
    have bd:∀{a b:Prop} {ha:Decidable a} {hb:Decidable b} {v:Value},(a↔b)->Hd ρ s.bl.length w (.c (.b a ha)) v->Hd ρ s.bl.length w (.c (.b b hb)) v:=λ{a b ha hb v} hab hv=>by
     have:=hv.inv_c.inv_b
     subst this
     have:decide a=decide b:=decide_eq_decide.2 hab
     rw[this]
     exact .c (Rc.b _ _)
    have bl:∀{a:Bool} {b:Prop} {hb:Decidable b} {v:Value},(a=true↔b)->Hd ρ s.bl.length w (.c (.v (.bool a))) v->Hd ρ s.bl.length w (.c (.b b hb)) v:=λ{a b hb v} hab hv=>by
     have:=hv.inv_c.inv_v
     subst this
     have:a=decide b:=by rw[sW,hab];simp
     rw[this]
     exact .c (Rc.b _ _)
    unfold bLc at h
    split at h
    ·next pp hp qq hq zb=>
     cases zb
     ·exact⟨_,h,key pp hp _ rfl (λh1 v hv=>bd (by simp[h1]) hv) (λh1 v hv=>bl (by simp[h1]) hv)⟩
     exact⟨_,h,key pp hp _ rfl (λh1 v hv=>bd (by simp[h1]) hv) (λh1 v hv=>bl (by simp[h1]) hv)⟩
    ·next pp hp yb qq hq=>
     cases yb
     ·exact⟨_,h,key pp hp _ rfl (λh1 v hv=>bl (by simp[h1]) hv) (λh1 v hv=>bd (by simp[h1]) hv)⟩
     exact⟨_,h,key pp hp _ rfl (λh1 v hv=>bl (by simp[h1]) hv) (λh1 v hv=>bd (by simp[h1]) hv)⟩
    ·next pp hp qq hq rr hr=>
     exact⟨_,h,key pp hp _ rfl (λh1 v hv=>bd (by simp[h1]) hv) (λh1 v hv=>bd (by simp[h1]) hv)⟩
    ·next pp hp yb zb=>
     cases yb<;>cases zb<;>first|exact h.elim|exact⟨_,h,key pp hp _ rfl (λ_ v hv=>hv) (λ_ v hv=>hv)⟩|exact⟨_,h,key pp hp _ rfl (λh1 v hv=>bl (by simp[h1]) hv) (λh1 v hv=>bl (by simp[h1]) hv)⟩
    exact h.elim
   exact h.elim
  exact h.elim
 exact h.elim
theorem aSn {l:List Operand} {kk:List (Nat×Nat)->Prop} (h:aYp gs s l kk) (hF:Fr s ρ w f):∃r,kk r/\(sat f gs->(∀p∈r,p.1<s.bl.length/\(ρ p.1).1≠none)/\l.map (ev f)=r.map (ptr ρ)):=by
 induction l generalizing kk with
 |nil=>exact⟨[],h,λ_=>⟨λp hp=>absurd hp fA,rfl⟩⟩
 |cons x l ih=>
  unfold aYp at h
  split at h
  ·next i o hx=>
   obtain⟨r,h1,h2⟩:=ih h
   refine⟨_,h1,λhs=>?_⟩
   obtain⟨h3,h4⟩:=h2 hs
   obtain⟨hi,b,hb,he⟩:=(cF hF hs hx).inv_c
   refine⟨λp hp=>?_,by rw[eT,eT,h4,he];simp[ptr,hb]⟩
   rcases bJ.1 hp with rfl|hp
   ·exact⟨hi,by simp[hb]⟩
   exact h3 p hp
  exact h.elim
theorem bHp {fn:Fn} {fi ca:List Operand} (h:bNk gs s fn fi ca k) (hF:Fr s ρ w f):Pu P f ⟨dst,.makeFunc fn fi.toArray ca.toArray,ty,pos,aft,gd⟩ w ρ s.bl.length gs k:=by
 unfold bNk at h
 split at h
 ·next q=>
  obtain⟨a,h1,ha⟩:=aSn h hF
  obtain⟨b,h2,hb⟩:=aSn h1 hF
  refine⟨_,h2,λhs=>?_⟩
  obtain⟨a1,a2⟩:=ha hs
  obtain⟨b1,b2⟩:=hb hs
  refine⟨_,.c ⟨λp hp=>?_,rfl⟩,λu _=>by simp[execOp,Instr.makeFunc,a2,b2]⟩
  rcases bB.1 hp with hp|hp
  ·exact a1 p hp
  exact b1 p hp
 exact h.elim
end ops
/-! ### lists whose spine is computed at once -/
def ovK:List CV->List CV->(List CV->Prop)->Prop
 |l,[],k=>k l
 |_::l,v::vs,k=>ovK l vs λr=>k (v::r)
 |[],_::_,_=>False
def aYy:Nat->List CV->List CV->(List CV->Prop)->Prop
 |0,l,vs,k=>ovK l vs k
 |o+1,c::l,vs,k=>aYy o l vs λr=>k (c::r)
 |_+1,[],_,_=>False
def oG (l:List CV) (o:Nat) (vs:List CV):List CV:=l.take o++(vs++l.drop (o+vs.length))
theorem aYz:∀{l vs:List CV} {k:List CV->Prop},ovK l vs k->vs.length<=l.length/\k (vs++l.drop vs.length)
 |l,[],k,h=>by cases l<;>exact⟨aF _,by simpa[ovK] using h⟩
 |[],v::vs,k,h=>h.elim
 |c::l,v::vs,k,h=>by
  obtain⟨h1,h2⟩:=aYz (l:=l) (vs:=vs) h
  exact⟨rS h1,by simpa using h2⟩
theorem aJn:∀{o:Nat} {l vs:List CV} {k:List CV->Prop},aYy o l vs k->o+vs.length<=l.length/\k (oG l o vs)
 |0,l,vs,k,h=>by
  obtain⟨h1,h2⟩:=aYz (show ovK l vs k from by cases l<;>exact h)
  exact⟨by omega,by simpa[oG] using h2⟩
 |o+1,[],vs,k,h=>h.elim
 |o+1,c::l,vs,k,h=>by
  obtain⟨h1,h2⟩:=aJn (o:=o) (l:=l) (vs:=vs) h
  refine⟨by simp only[eI];omega,?_⟩
  have e:oG (c::l) (o+1) vs=c::oG l o vs:=by
   simp[oG,show o+1+vs.length=(o+vs.length)+1 by omega]
  rw[e]
  exact h2
theorem aJo {ρ:Pl} {n:Nat} {w:World} {l vs:List CV} {vl us:List Value} (o:Nat) (h:Hl ρ n w l vl) (h2:Hl ρ n w vs us):Hl ρ n w (oG l o vs) (spl vl o us):=by
 unfold oG spl
 rw[h2.len,eF]
 exact(h.take o).append (h2.append (h.drop _))
def uV {α:Type}:List α->α->(List α->Prop)->Prop
 |[],x,k=>k [x]
 |a::l,x,k=>uV l x λr=>k (a::r)
theorem oU {α:Type}:∀{l:List α} {x:α} {k:List α->Prop},uV l x k->k (l++[x])
 |[],x,k,h=>h
 |a::l,x,k,h=>oU (l:=l) h
def qE {α:Type}:List α->Nat->α->(List α->Prop)->Prop
 |[],_,_,k=>k []
 |_::l,0,x,k=>k (x::l)
 |a::l,i+1,x,k=>qE l i x λr=>k (a::r)
theorem kL {α:Type}:∀{l:List α} {i:Nat} {x:α} {k:List α->Prop},qE l i x k->k (l.set i x)
 |[],_,_,_,h=>h
 |_::l,0,x,k,h=>h
 |a::l,i+1,x,k,h=>kL (l:=l) h
def cnt {α:Type}:List α->Nat->Nat
 |[],n=>n
 |_::l,n=>cnt l (n+1)
theorem aZa {α:Type}:∀(l:List α) (n:Nat),cnt l n=n+l.length
 |[],n=>rfl
 |_::l,n=>by
  show cnt l (n+1)=_
  rw[aZa l (n+1),eI]
  omega
theorem zS {α:Type} (l:List α):cnt l 0=l.length:=by rw[aZa,fK]
def cellsOf:DV->List CV
 |.a l=>l
 |.c c=>[c]
 |.t _=>[]
def aEn:CV->Bool
 |.u=>false
 |.t _ _ _=>false
 |.v x=>x.oneCell'
 |_=>true
def iP:CV->Bool
 |.u=>true
 |.v _=>true
 |.h _ _ _=>true
 |.hp _ _=>true
 |.b _ _=>true
 |.r _ _ _ _ _=>true
 |_=>false
def isT:DV->Bool
 |.t _=>true
 |_=>false
section
variable {ρ:Pl} {n:Nat} {w:World}
theorem aJp {c:CV} {x:Value} (h:Hc ρ n w c x) (ho:aEn c=true):x.oneCell'=true:=by
 cases c with
 |u=>cases ho
 |v y=>rw[h.inv_v];exact ho
 |h A n c=>cases (show Rc _ w (.h A n c) x from h);rfl
 |hp b o=>cases (show Rc _ w (.hp b o) x from h);rfl
 |b p hp=>rw[h.inv_b];rfl
 |p i o=>obtain⟨_,b,_,rfl⟩:=h;rfl
 |s i m=>obtain⟨_,rfl⟩:=h;rfl
 |r A m c e get=>rw[h.inv_r.1];rfl
 |q A m c e get j o=>obtain⟨_,_,b,o',_,rfl⟩:=h;rfl
 |t i o m=>cases ho
 |f k fi ca=>obtain⟨_,rfl⟩:=h;rfl
theorem Hl.one {l:List CV} {vl:List Value} (h:Hl ρ n w l vl) (ho:l.all aEn=true):∀x∈vl,x.oneCell'=true:=by
 induction l generalizing vl with
 |nil=>cases vl with
  |nil=>intro x hx;cases hx
  |cons x vl=>exact h.elim
 |cons c l ih=>cases vl with
  |nil=>exact h.elim
  |cons x vl=>
   simp only[List.all_cons,aQ] at ho
   intro y hy
   rcases bJ.1 hy with rfl|hy
   ·exact aJp h.1 ho.1
   exact ih h.2 ho.2 y hy
theorem aBq {x:Value} (h:x.oneCell'=true):x.cells=#[x]:=by
 cases x with
 |agg cs=>cases h
 |_=>rfl
theorem aBr {d:DV} {x:Value} (h:Hd ρ n w d x) (ho:(cellsOf d).all aEn=true) (ht:isT d=false):∃us,x.cells=us.toArray/\Hl ρ n w (cellsOf d) us/\∀y∈us,y.oneCell'=true:=by
 cases h with
 |c h=>
  simp only[cellsOf,List.all_cons,List.all_nil,Bool.and_true] at ho
  exact⟨[x],by rw[aBq (aJp h ho)],⟨h,trivial⟩,λy hy=>by rw[aT.1 hy];exact aJp h ho⟩
 |a h=>exact⟨_,rfl,h,h.one ho⟩
 |t h hh=>cases ht
end
/-! ### what they leave -/
def Hv (ex:Bool) (P:Program) (f:Nat->Value) (o:Oper) (ρ0:Pl) (w0:World) (nb:Nat) (w:World) (k:SS->DV->Prop):Prop:=
 ∃s' d ρ' v w',k s' d/\(execOp (ev f) o).run P w= .ok (.value v) w'/\Dn ρ0 w0 nb s' ρ' f w'/\Hd ρ' s'.bl.length w' d v/\(ex=true->Ext w w')
def Hs (P:Program) (f:Nat->Value) (o:Oper) (ρ0:Pl) (w0:World) (nb:Nat) (w:World) (k:SS->Prop):Prop:=
 ∃s' ρ' w',k s'/\(execOp (ev f) o).run P w= .ok .skip w'/\Dn ρ0 w0 nb s' ρ' f w'
def upd {α:Type} (f:Nat->α) (j:Nat) (x:α):Nat->α:=λi=>if i=j then x else f i
theorem cN {α:Type} {f:Nat->α} {j:Nat} {x:α}:upd f j x j=x:=if_pos rfl
theorem cJ {α:Type} {f:Nat->α} {j i:Nat} {x:α} (h:i≠j):upd f j x i=f i:=if_neg h
structure Wc (A:Option Nat) (w w':World):Prop where
 os:w'.os=w.os
 tape:w'.tape=w.tape
 output:w'.output=w.output
 size:w.heap.size<=w'.heap.size
 block:∀b,b<w.heap.size->A≠some b->w'.heap[b]? =w.heap[b]?
section fset
variable {ρ ρ0:Pl} {w w' w0:World} {nb:Nat} {bl:List (TypeId×Nat×List CV)}
theorem tH {α:Type} {l:List α} {f i:Nat} {x y:α} (h:(l.set f x)[i]? =some y) (hf:f<l.length):(i=f/\y=x)\/(i≠f/\l[i]? =some y):=by
 rcases oT h with ⟨h1,h2,_⟩|h
 ·exact .inl ⟨h1,h2⟩
 exact .inr h
theorem DnW.fset (h:DnW ρ0 w0 nb bl ρ w) {fl:List Fam} (hl:ρ.F=fl) {f j:Nat} {F F':Fam} (hf:fl[f]? =some F) (hj:j<F.N) (hn:F'.N=F.N) (hes:F'.es=F.es) (hT:F'.T=F.T) (hA:∀i,i≠j->F'.A i=F.A i) (hc:∀i,i≠j->F'.cap i=F.cap i) (hg:∀i,i≠j->F'.get i=F.get i) (hw:Wc (F.A j) w w') (hnew:∀b,F'.A j=some b->F.A j=some b\/w.heap.size<=b)
 (hq:(∀b,Zf ρ bl.length w b->Zf ⟨ρ.at',ρ.Z,fl.set f F'⟩ bl.length w' b/\w'.heap[b]? =w.heap[b]?)->Mq (Zf ⟨ρ.at',ρ.Z,fl.set f F'⟩ bl.length w') w' F' j):DnW ρ0 w0 nb bl ⟨ρ.at',ρ.Z,fl.set f F'⟩ w'/\Kp ρ bl.length w ⟨ρ.at',ρ.Z,fl.set f F'⟩ bl.length w':=by
 have hfl:f<fl.length:=eP hf
 have hin:∀b,InL (fl.set f F') b->InF ρ b\/w.heap.size<=b:=λb ⟨G,hG,i,hi,hb⟩=>by
  obtain⟨g,hg'⟩:=dD hG
  rcases tH hg' hfl with ⟨rfl,rfl⟩|⟨hne,h2⟩
  ·by_cases hij:i=j
   ·subst hij
    rcases hnew b hb with h1|h1
    ·exact .inl ⟨F,by rw[hl];exact aX hf,i,by omega,h1⟩
    exact .inr h1
   rw[hA i hij] at hb
   exact .inl ⟨F,by rw[hl];exact aX hf,i,by omega,hb⟩
  exact .inl ⟨G,by rw[hl];exact aX h2,i,hi,hb⟩
 have hjf:∀b,F.A j=some b->InF ρ b:=λb hb=>⟨F,by rw[hl];exact aX hf,j,hj,hb⟩
 have hz:∀b,Zf ρ bl.length w b->Zf ⟨ρ.at',ρ.Z,fl.set f F'⟩ bl.length w' b/\w'.heap[b]? =w.heap[b]?:=λb hb=>by
  refine⟨⟨bH hb.lt hw.size,hb.no,hb.z,λhi=>?_⟩,hw.block b hb.lt λhe=>hb.nf (hjf b he)⟩
  rcases hin b hi with h1|h1
  ·exact hb.nf h1
  have:=hb.lt;omega
 have kp:Kp ρ bl.length w ⟨ρ.at',ρ.Z,fl.set f F'⟩ bl.length w':=⟨aI _,λ_ _=>rfl,hz⟩
 refine⟨⟨λi T es l hi=>(h.ok i T es l hi).kp kp (eP hi) λb hb=>hw.block b ((h.ok i T es l hi).lt hb) λhe=>h.fam.own i b (eP hi) hb (hjf b he),h.inj,h.fr,h.nbl,?_,h.pl,h.zz,⟨λG hG=>?_,λi b hi hb hf2=>?_,λf1 f2 F1 F2 j1 j2 b h1 h2 h3 h4 h5 h6=>?_⟩,λb hb=>?_⟩,kp⟩
 ·refine⟨hw.os.trans h.rel.os,hw.tape.trans h.rel.tape,hw.output.trans h.rel.output,bA h.rel.size hw.size,λk hk hn hf2=>(hw.block k (bH hk h.rel.size) λhe=>?_).trans (h.rel.block k hk hn hf2)⟩
  rcases h.ffr k (hjf k he) with h1|h1
  ·omega
  exact hf2 h1
 ·obtain⟨g,hg'⟩:=dD hG
  rcases tH hg' hfl with ⟨rfl,rfl⟩|⟨hne,h2⟩
  ·refine⟨by rw[hes];exact(h.fam.ok F (by rw[hl];exact aX hf)).1,λi hi=>?_⟩
   by_cases hij:i=j
   ·subst hij;exact hq hz
   have h3:=(h.fam.mem hl hf (j:=i) oM).mono hz λb hb=>hw.block b ((h.fam.mem hl hf (j:=i) oM).lt hb) λhe=>by
    have:=(h.fam.inj _ _ F F i j b (by rw[hl];exact hf) (by rw[hl];exact hf) oM hj hb he).2
    exact hij this
   unfold Mq at h3 ⊢
   rw[hA i hij,hc i hij,hg i hij,hes,hT]
   exact h3
  have hG2:G∈ρ.F:=by rw[hl];exact aX h2
  refine⟨(h.fam.ok G hG2).1,λi hi=>((h.fam.ok G hG2).2 i hi).mono hz λb hb=>hw.block b (((h.fam.ok G hG2).2 i hi).lt hb) λhe=>?_⟩
  exact hne (h.fam.inj g f G F i j b (by rw[hl];exact h2) (by rw[hl];exact hf) hi hj hb he).1
 ·rcases hin b hf2 with h1|h1
  ·exact h.fam.own i b hi hb h1
  have:=h.lt hi hb;omega
 ·have hold:∀(g:Nat) (G:Fam) (i:Nat),(fl.set f F')[g]? =some G->i<G.N->G.A i=some b->(∃G0,ρ.F[g]? =some G0/\i<G0.N/\G0.A i=some b)\/(g=f/\i=j/\w.heap.size<=b):=λg G i hg' hi hb=>by
   rcases tH hg' hfl with ⟨rfl,rfl⟩|⟨hne,h2'⟩
   ·by_cases hij:i=j
    ·subst hij
     rcases hnew b hb with h7|h7
     ·exact .inl ⟨F,by rw[hl];exact hf,by omega,h7⟩
     exact .inr ⟨rfl,rfl,h7⟩
    rw[hA i hij] at hb
    exact .inl ⟨F,by rw[hl];exact hf,by omega,hb⟩
   exact .inl ⟨G,by rw[hl];exact h2',hi,hb⟩
  have hlow:∀(g:Nat) (G0:Fam) (i:Nat),ρ.F[g]? =some G0->i<G0.N->G0.A i=some b->b<w.heap.size:=λg G0 i h7 h8 h9=>h.fam.lt ⟨G0,aX h7,i,h8,h9⟩
  rcases hold f1 F1 j1 h1 h3 h5 with ⟨G1,a1,a2,a3⟩|⟨a1,a2,a3⟩<;>rcases hold f2 F2 j2 h2 h4 h6 with ⟨G2,c1,c2,c3⟩|⟨c1,c2,c3⟩
  ·exact h.fam.inj f1 f2 G1 G2 j1 j2 b a1 c1 a2 c2 a3 c3
  ·have:=hlow f1 G1 j1 a1 a2 a3;omega
  ·have:=hlow f2 G2 j2 c1 c2 c3;omega
  exact⟨a1.trans c1.symm,a2.trans c2.symm⟩
 rcases hin b hb with h1|h1
 ·exact h.ffr b h1
 exact .inl (bA h.rel.size h1)
end fset
def aOy (s:SS) (T es:Nat) (l:List CV) (d:Nat->DV) (k:SS->DV->Prop):Prop:=match s with
 |⟨sl,gl,bl,fl⟩=>uV bl (T,es,l) λbl'=>k ⟨sl,gl,bl',fl⟩ (d (cnt bl 0))
def aOz (T:TT) (s:SS) (t:Nat) (k:SS->DV->Prop):Prop:=match T t with
 |some ti=>aOy s t 0 (ti.zero.map tW) (λi=> .c (.p i 0)) k
 |none=>False
def bNo (s:SS) (t:Nat) (x:Operand) (k:SS->DV->Prop):Prop:=match val [] s x with
 |some d=>bif (cellsOf d).all aEn&&!isT d then aOy s t 0 (cellsOf d) (λi=> .c (.p i 0)) k else False
 |none=>False
def aPa (T:TT) (s:SS) (t:Nat) (x y:Operand) (k:SS->Prop):Prop:=match T t,val [] s x,val [] s y with
 |some ti,some (.c (.p i o)),some d=>(match s.bl[i]? with
  |some b=>bif Nat.beq (cellsOf d).length ti.size&&((cellsOf d).all aEn&&!isT d) then
   (bif Nat.beq b.2.1 0 then aYy o b.2.2 (cellsOf d) λl'=>qE s.bl i (b.1,b.2.1,l') λbl'=>k ⟨s.sl,s.gl,bl',s.fl⟩
   else ∃l',(oG b.2.2 o (cellsOf d)=l'/\o+(cellsOf d).length<=b.2.2.length)/\qE s.bl i (b.1,b.2.1,l') λbl'=>k ⟨s.sl,s.gl,bl',s.fl⟩)
   else False
  |none=>False)
 |some ti,some (.c (.hp b o)),some d=>bif Nat.beq (cellsOf d).length ti.size&&((cellsOf d).all (λc=>aEn c&&iP c)&&!isT d) then
  ∃f j:Nat,(match s.fl[f]? with
   |some F=>bif !Nat.ble F.T 999999 then False else ∃l',(j<F.N/\F.A j=some b/\oG (F.get j) o (cellsOf d)=l'/\o+(cellsOf d).length<=(F.get j).length)/\qE s.fl f ⟨F.T,F.es,F.N,F.A,F.cap,upd F.get j l'⟩ λfl'=>k ⟨s.sl,s.gl,s.bl,fl'⟩
   |none=>False) else False
 |_,_,_=>False
def isZ:Operand->Bool
 |.const (.int _ 0)=>true
 |_=>false
def aZb (T:TT) (s:SS) (t:Nat) (x y:Operand) (k:SS->DV->Prop):Prop:=match T t with
 |some ti=>(match ti.el with
  |some e=>(match T e,val [] s x,val [] s y with
   |some te,some (.c (.v (.int _ z))),some (.c (.v (.int _ z')))=>bif isZ x&&!isZ y then ∃n:Nat,(z=0/\z'=n/\te.by'*n<=281474976710656/\n<=maxLen)/\aOy s e te.size [] (λi=> .c (.s i 0)) k else ∃n:Nat,(z=n/\z'=n/\te.by'*n<=281474976710656/\n<=maxLen)/\
    aOy s e te.size (match te.zero with
     |[z0]=>List.replicate n (tW z0)
     |zs=>(List.replicate n (zs.map tW)).flatten) (λi=> .c (.s i n)) k
   |_,_,_=>False)
  |none=>False)
 |none=>False
section ops
variable {P:Program} {T:TT} (hT:Good P T) {w0 w:World} {nb:Nat} {s:SS} {ρ ρ0:Pl} {f:Nat->Value} {dst:Option Tmp} {ty:TypeId} {pos:String} {aft:Array Edge} {gd:Option (Nat×Bool)} {x y z:Operand} {t t':TypeId} {k:SS->DV->Prop} {ks:SS->Prop}
theorem fP:sat f []:=λp hp=>absurd hp fA
theorem aBs {T0 es b:Nat} {l:List CV} {vl:List Value} {junk:List Value} {d:Nat->DV} {o:Oper} {v:Value} {w':World} {cap:Nat} (h:aOy s T0 es l d k) (hD:Dn ρ0 w0 nb s ρ f w) (hr:(execOp (ev f) o).run P w= .ok (.value v) w') (hm:Mk w T0 (vl++junk) b w') (hl:Hl ρ s.bl.length w l vl) (h1:∀x∈vl,x.oneCell'=true) (hc:0<es->cap*es=(vl++junk).length/\cap<=maxLen)
 (hd:∀ρ':Pl,ρ' s.bl.length=(some b,cap)->Hd ρ' (s.bl.length+1) w' (d s.bl.length) v):Hv true P f o ρ0 w0 nb w k:=by
 obtain⟨sl,gl,bl,fl⟩:=s
 have hk:=oU (show uV bl (T0,es,l) _ from h)
 rw[zS] at hk
 obtain⟨hb,hbk,he⟩:=hm
 have hp:∀b',((some b,cap):Option Nat×Nat).1=some b'->w.heap.size<=b':=λb' hb'=>by injection hb' with hb';omega
 have kp:Kp ρ bl.length w (xU ρ bl.length (some b,cap)) (bl.length+1) w':=Kp.new hp he
 have hn:(bl++[(T0,es,l)]).length=bl.length+1:=by simp
 refine⟨⟨sl,gl,bl++[(T0,es,l)],fl⟩,d bl.length,xU ρ bl.length (some b,cap),v,w',hk,hr,⟨hD.m.new hp he (Bq.of_some (b:=b) (by rw[mA]) ⟨vl,junk,hbk,hl.kp kp,?_,h1⟩),?_,hD.l⟩,?_⟩
 ·rw[mA];exact hc
 ·exact hD.f.kp rfl rfl (by rw[hn];exact kp)
 refine⟨?_,λ_=>he⟩
 show Hd _ (bl++[(T0,es,l)]).length w' _ v
 rw[hn]
 exact hd _ mA
include hT in
theorem aVv (h:aOz T s t k) (hD:Dn ρ0 w0 nb s ρ f w):Hv true P f ⟨dst,.alloc t,ty,pos,aft,gd⟩ ρ0 w0 nb w k:=by
 unfold aOz at h
 split at h
 ·next ti ht=>
  obtain⟨zz,hty,hz⟩:=(hT t ti ht).ty
  obtain⟨v,w',hr,b,rfl,hm⟩:=jA (P:=P) (f:=f) (w:=w) (dst:=dst) (ty:=ty) (pos:=pos) (aft:=aft) (g:=gd) hty hz
  refine aBs (junk:=[]) (cap:=0) h hD hr (by rw[gB];exact hm) (Hl.vs _) ?_ (λh=>absurd h (wB _)) λρ' hρ=> .c ⟨dK _,b,by rw[hρ],rfl⟩
  exact λx hx=>aZ.1 (hT t ti ht).z1 x hx
 exact h.elim
theorem bHq (h:bNo s t x k) (hD:Dn ρ0 w0 nb s ρ f w):Hv true P f ⟨dst,.box t x,ty,pos,aft,gd⟩ ρ0 w0 nb w k:=by
 unfold bNo at h
 split at h
 ·next d hx=>
  cases hb:((cellsOf d).all aEn&&!isT d) with
  |false=>rw[hb] at h;exact h.elim
  |true=>
   rw[hb] at h
   simp only[aQ,dL] at hb
   obtain⟨us,h1,h2,h3⟩:=aBr (cF hD.f fP hx) hb.1 hb.2
   obtain⟨v,w',hr,b,rfl,hm⟩:=aWs (P:=P) (w:=w) (dst:=dst) (ty:=ty) (pos:=pos) (aft:=aft) (g:=gd) (t:=t) rfl h1
   simp only[cond_true] at h
   exact aBs (junk:=[]) (cap:=0) h hD hr (by rw[gB];exact hm) h2 h3 (λh=>absurd h (wB _)) λρ' hρ=> .c ⟨dK _,b,by rw[hρ],rfl⟩
 exact h.elim
theorem aMw {T0:TypeId} {b o:Nat} {l junk:List Value} {vv:Value} {cs:List Value} {size bytes:Nat} {zz:Value} (ht:TyI P t size bytes zz) (hx:ev f x= .pointer (some ⟨b,o,none⟩)) (hy:ev f y=vv) (hc:vv.cells=cs.toArray) (hs:cs.length=size)
 (h1:∀u∈cs,u.oneCell'=true) (hb:w.heap[b]? =some (.cells (l++junk).toArray T0 (0,0))) (hfit:o+cs.length<=l.length):
 ∃w',(execOp (ev f) ⟨dst,.store t x y,ty,pos,aft,gd⟩).run P w= .ok .skip w'/\w'.heap[b]? =some (.cells (spl l o cs++junk).toArray T0 (0,0))/\Exc b w w':=by
 obtain⟨w',hr,hn,he,_⟩:=zN (P:=P) (dst:=dst) (ty:=ty) (pos:=pos) (aft:=aft) (g:=gd) ht hx hy hc hs h1 (l:=l++junk) hb (by simp only[aP];omega)
 refine⟨w',hr,?_,he⟩
 have e:spl (l++junk) o cs=spl l o cs++junk:=by
  unfold spl
  rw[fM oM,jB oM]
  simp
 unfold Bk at hn
 rw[e] at hn
 exact hn
include hT in
theorem aVw (h:aPa T s t x y ks) (hD:Dn ρ0 w0 nb s ρ f w):Hs P f ⟨dst,.store t x y,ty,pos,aft,gd⟩ ρ0 w0 nb w ks:=by
 unfold aPa at h
 split at h
 ·next ti i o d ht hx hy=>
  split at h
  ·next bb hbb=>
   obtain⟨T0,es,l⟩:=bb
   cases hb:(Nat.beq (cellsOf d).length ti.size&&((cellsOf d).all aEn&&!isT d)) with
   |false=>rw[hb] at h;exact h.elim
   |true=>
    rw[hb] at h
    simp only[aQ,dL] at hb
    obtain⟨b1,b2,b3⟩:=hb
    have b1':=aO b1
    have key:o+(cellsOf d).length<=l.length/\ks ⟨s.sl,s.gl,s.bl.set i (T0,es,oG l o (cellsOf d)),s.fl⟩:=by
     simp only[cond_true] at h
     cases hz:Nat.beq es 0 with
     |true=>
      rw[hz] at h
      obtain⟨h1,h2⟩:=aJn (show aYy o l (cellsOf d) _ from h)
      exact⟨h1,kL h2⟩
     |false=>
      rw[hz] at h
      obtain⟨l',⟨h1,h2⟩,h3⟩:=h
      subst h1
      exact⟨h2,kL h3⟩
    obtain⟨hi,b,hρ,he⟩:=(cF hD.f fP hx).inv_c
    obtain⟨us,u1,u2,u3⟩:=aBr (cF hD.f fP hy) b2 b3
    have hq:=hD.m.ok i T0 es l hbb
    obtain⟨vl,junk,hh,hl,hcap,hone⟩:=hq.at hρ
    obtain⟨zz,hty,_⟩:=(hT t ti ht).ty
    have hul:us.length=(cellsOf d).length:=u2.len.symm
    have hvl:vl.length=l.length:=hl.len.symm
    obtain⟨w',hr,hn,hex⟩:=aMw (P:=P) (dst:=dst) (ty:=ty) (pos:=pos) (aft:=aft) (gd:=gd) hty he rfl u1 (by rw[hul];exact b1') u3 hh (by rw[hul,hvl];exact key.1)
    have kp:Kp ρ s.bl.length w ρ s.bl.length w':=Kp.exc hi hρ hex
    refine⟨_,ρ,w',key.2,hr,⟨hD.m.exc hbb hρ hex (Bq.of_some hρ ⟨spl vl o us,junk,hn,(aJo o hl u2).kp kp,λh0=>?_,λx hx=>?_⟩),hD.f.kp rfl rfl (by simp only[bT];exact kp),hD.l⟩⟩
    ·obtain⟨c1,c2⟩:=hcap h0
     refine⟨c1.trans ?_,c2⟩
     have:=key.1
     simp only[aP,spl,cC,dP]
     omega
    simp only[spl,bB] at hx
    rcases hx with (hx|hx)|hx
    ·exact hone x (eG hx)
    ·exact u3 x hx
    exact hone x (gZ hx)
  exact h.elim
 ·next ti b o d ht hx hy=>
  cases hb:(Nat.beq (cellsOf d).length ti.size&&((cellsOf d).all (λc=>aEn c&&iP c)&&!isT d)) with
  |false=>rw[hb] at h;exact h.elim
  |true=>
   rw[hb] at h
   simp only[aQ,dL] at hb
   obtain⟨b1,b2,b3⟩:=hb
   have b1':=aO b1
   have b2o:(cellsOf d).all aEn=true:=aZ.2 λc hc=>by
    have:=aZ.1 b2 c hc
    simp only[aQ] at this
    exact this.1
   have b2c:∀c∈cellsOf d,iP c=true:=λc hc=>by
    have:=aZ.1 b2 c hc
    simp only[aQ] at this
    exact this.2
   obtain⟨ff,j,h⟩:=(show ∃f j:Nat,_ from h)
   split at h
   ·next F hF=>
    cases hft:Nat.ble F.T 999999 with
    |false=>rw[hft] at h;exact h.elim
    |true=>
    rw[hft] at h
    obtain⟨l',⟨hj,hA,hl',hfit⟩,hk⟩:=h
    subst hl'
    have hk':=kL hk
    have he:=(cF hD.f fP hx).inv_c.inv_hp
    obtain⟨us,u1,u2,u3⟩:=aBr (cF hD.f fP hy) b2o b3
    have hmq:=hD.m.fam.mem hD.l hF hj
    obtain⟨vl,junk,hh,hlen,hcl,hcap,hmx,hone⟩:=hmq.at hA hft
    obtain⟨zz,hty,_⟩:=(hT t ti ht).ty
    have hul:us.length=(cellsOf d).length:=u2.len.symm
    obtain⟨w',hr,hn,hex⟩:=aMw (P:=P) (dst:=dst) (ty:=ty) (pos:=pos) (aft:=aft) (gd:=gd) hty he rfl u1 (by rw[hul];exact b1') u3 hh (by rw[hul,hlen];exact hfit)
    obtain⟨k1,k2⟩:=hD.m.fset hD.l hF hj (F':=⟨F.T,F.es,F.N,F.A,F.cap,upd F.get j (oG (F.get j) o (cellsOf d))⟩) rfl rfl rfl (λ_ _=>rfl) (λ_ _=>rfl) (λi hi=>cJ hi) (w':=w') ⟨hex.os,hex.tape,hex.output,hex.size,λb' hb' hne=>hex.block b' hb' λe=>hne (by rw[e];exact hA)⟩ (λb' hb'=> .inl hb') (λhz=>by
     unfold Mq
     simp only[hA,cN,hft,cond_true]
     have hl1:Hl ρ s.bl.length w (F.get j) vl:=Hl.of_get hlen λi c x hc hx=>Hc.of_rc (hcl i c x hc hx)
     have hl2:=aJo o hl1 u2
     refine⟨spl vl o us,junk,hn,hl2.len.symm,λi c x hc hx=>?_,?_,hmx,λx hx=>?_⟩
     ·refine Rc.mono ?_ hz
      obtain⟨x',h1,h2⟩:=hl2.get hc
      rw[hx] at h1
      injection h1 with h1
      subst h1
      have hcc:iP c=true\/∃i':Nat,(F.get j)[i']? =some c:=by
       have hm:=aX hc
       simp only[oG,bB] at hm
       rcases hm with hm|hm|hm
       ·exact .inr (dD (eG hm))
       ·exact .inl (b2c c hm)
       exact .inr (dD (gZ hm))
      have hc2:iP c=true:=by
       rcases hcc with h|⟨i',hi'⟩
       ·exact h
       have hlt:=eP hi'
       obtain⟨x2,hx2⟩:∃x2,vl[i']? =some x2:=⟨_,aK (by rw[hlen];exact hlt)⟩
       have:=hcl i' c x2 hi' hx2
       cases this<;>rfl
      cases c with
      |u=>exact h2
      |v y=>exact h2
      |h A n c=>exact h2
      |hp b o=>exact h2
      |b p q=>exact h2
      |r A m c e get=>exact h2
      |p i o=>cases hc2
      |s i m=>cases hc2
      |q A m c e get j o=>cases hc2
      |t i o m=>cases hc2
      |f k fi ca=>cases hc2
     ·refine hcap.trans ?_
      simp only[aP,spl,cC,dP]
      omega
     simp only[spl,bB] at hx
     rcases hx with (hx|hx)|hx
     ·exact hone x (eG hx)
     ·exact u3 x hx
     exact hone x (gZ hx))
    exact⟨_,_,w',hk',hr,⟨k1,hD.f.kp rfl rfl k2,rfl⟩⟩
   exact h.elim
 exact h.elim
theorem Hl.rep {ρ:Pl} {n:Nat} {w:World} {l:List CV} {vl:List Value} (h:Hl ρ n w l vl) (m:Nat):Hl ρ n w (List.replicate m l).flatten (List.replicate m vl).flatten:=by
 induction m with
 |zero=>trivial
 |succ m ih=>rw[lE,lE,oJ,oJ];exact h.append ih
theorem aGh {α:Type} (m:Nat) (l:List α):(List.replicate m l).flatten.length=m*l.length:=by
 induction m with
 |zero=>simp
 |succ m ih=>rw[lE,oJ,aP,ih,dW,lN,jY]
theorem aZc {α:Type} (m:Nat) (a:α):(List.replicate m [a]).flatten=List.replicate m a:=by
 induction m with
 |zero=>rfl
 |succ m ih=>rw[lE,oJ,ih];rfl
include hT in
theorem aZd (h:aZb T s t x y k) (hD:Dn ρ0 w0 nb s ρ f w):Hv true P f ⟨dst,.makeSlice t x y,ty,pos,aft,gd⟩ ρ0 w0 nb w k:=by
 unfold aZb at h
 split at h
 ·next ti ht=>
  split at h
  ·next e he=>
   split at h
   ·next te kx zx ky zy hte hx hy=>
    have G:=hT e te hte
    cases hz0:(isZ x&&!isZ y) with
    |true=>
     rw[hz0] at h
     obtain⟨n,⟨h1,h2,h3,h4⟩,h⟩:=h
     subst h1 h2
     obtain⟨zz,hty,hz⟩:=G.ty
     have hzl:zz.cells.size=te.size:=by rw[hz];simpa using G.zs
     obtain⟨v,w',hr,b,rfl,hm⟩:=aWu (P:=P) (f:=f) (w:=w) (dst:=dst) (ty:=ty) (pos:=pos) (aft:=aft) (g:=gd) (n:=0) (c:=n) ((hT t ti ht).el e he) hty hzl (cF hD.f fP hx).inv_c.inv_v (cF hD.f fP hy).inv_c.inv_v (aF _) h3 (by simpa[maxLen] using h4)
     rw[hz] at hm
     exact aBs (vl:=[]) (junk:=(List.replicate n te.zero).flatten) (cap:=n) h hD hr hm trivial (λx hx=>absurd hx fA) (λ_=>⟨by rw[kC,aGh,G.zs],h4⟩) λρ' hρ=> .c ⟨dK _,by rw[hρ];rfl⟩
    |false=>
    rw[hz0] at h
    obtain⟨n,⟨h1,h2,h3,h4⟩,h⟩:=h
    subst h1 h2
    obtain⟨zz,hty,hz⟩:=G.ty
    have hzl:zz.cells.size=te.size:=by rw[hz];simpa using G.zs
    obtain⟨v,w',hr,b,rfl,hm⟩:=aWu (P:=P) (f:=f) (w:=w) (dst:=dst) (ty:=ty) (pos:=pos) (aft:=aft) (g:=gd) (n:=n) (c:=n) ((hT t ti ht).el e he) hty hzl (cF hD.f fP hx).inv_c.inv_v (cF hD.f fP hy).inv_c.inv_v (aI _) h3 (by simp only[maxLen] at h4;omega)
    rw[hz] at hm
    have hl:(List.replicate n (te.zero.map tW)).flatten=(match te.zero with|[z0]=>List.replicate n (tW z0)|zs=>(List.replicate n (zs.map tW)).flatten):=by
     split
     ·next z0 hz0=>rw[hz0];exact aZc n _
     rfl
    rw[<-hl] at h
    refine aBs (junk:=[]) (cap:=n) (vl:=(List.replicate n te.zero).flatten) h hD hr (by rw[gB];exact hm) ((Hl.vs te.zero).rep n) (λx hx=>?_) (λ_=>⟨?_,h4⟩) λρ' hρ=> .c ⟨dK _,by rw[hρ];rfl⟩
    ·obtain⟨l,hl1,hl2⟩:=rQ.1 hx
     rw[(jJ.1 hl1).2] at hl2
     exact aZ.1 G.z1 x hl2
    rw[gB,aGh,G.zs]
   exact h.elim
  exact h.elim
 exact h.elim
end ops
/-! ### literals -/
def aIp (place:Nat->Option (Nat×Nat)):List CV->List (Nat×DV)->(List CV->Prop)->Prop
 |cells,[],k=>k cells
 |cells,(i,d)::rest,k=>match place i with
  |some os=>bif Nat.beq (cellsOf d).length os.2&&((cellsOf d).all aEn&&!isT d) then aYy os.1 cells (cellsOf d) λcs=>aIp place cs rest k else False
  |none=>False
def aPb (gs:Gs) (s:SS):List (Nat×Operand)->(List (Nat×DV)->Prop)->Prop
 |[],k=>k []
 |(i,x)::l,k=>match val gs s x with
  |some (.c (.v (.bool b)))=>aPb gs s l λr=>k ((i,.c (.b (b=true) inferInstance))::r)
  |some d=>aPb gs s l λr=>k ((i,d)::r)
  |none=>False
def plK:List FI->List (Nat×Nat)
 |[]=>[]
 |fi::l=>(fi.off,fi.size)::plK l
def aPc (T:TT) (gs:Gs) (s:SS) (t:Nat) (al:List (Nat×Operand)) (k:DV->Prop):Prop:=match T t with
 |some ti=>(match ti.ar with
  |some (_,_,es)=>aPb gs s al λdl=>aIp (λi=>some (i*es,es)) (ti.zero.map tW) dl λcs=>k (.a cs)
  |none=>bif ti.fs.isEmpty then False else aPb gs s al λdl=>aIp ((plK ti.fs)[·]?) (ti.zero.map tW) dl λcs=>k (.a cs))
 |none=>False
def bNp (T:TT) (s:SS) (t n:Nat) (al:List (Nat×Operand)) (k:SS->DV->Prop):Prop:=match T t with
 |some ti=>(match ti.el with
  |some e=>(match T e with
   |some te=>bif Nat.ble (n*te.size) 16777216&&Nat.ble 1 te.size then aPb [] s al λdl=>aIp (λi=>some (i*te.size,te.size)) (List.replicate n (te.zero.map tW)).flatten dl λcs=>aOy s e te.size cs (λi=> .c (.s i n)) k else False
   |none=>False)
  |none=>False)
 |none=>False
theorem aZe (vs:List Value):∀(off k:Nat) (cells:List Value),off+k+vs.length<=cells.length->
 (vs.zipIdx k).foldl (λ(cs:Array Value) (x:Value×Nat)=>match x with|(c,j)=>cs.setIfInBounds (off+j) c) cells.toArray=(cells.take (off+k)++(vs++cells.drop (off+k+vs.length))).toArray:=by
 induction vs with
 |nil=>intro off k cells _;simp
 |cons v vs ih=>
  intro off k cells h
  simp only[eI] at h
  rw[List.zipIdx_cons,List.foldl_cons]
  simp only[List.setIfInBounds_toArray]
  rw[ih off (k+1) (cells.set (off+k) v) (by simp only[bT];omega)]
  congr 1
  have h1:(cells.set (off+k) v).take (off+(k+1))=cells.take (off+k)++[v]:=by
   rw[show off+(k+1)=(off+k)+1 by omega,eH,oB oM,List.take_set,List.set_eq_of_length_le (by simp only[cC];omega)]
   rfl
  have h2:(cells.set (off+k) v).drop (off+(k+1)+vs.length)=cells.drop (off+k+(vs.length+1)):=by
   rw[List.drop_set_of_lt oM]
   congr 1
   omega
  rw[h1,h2]
  simp
def Hp (ρ:Pl) (n:Nat) (w:World):List (Nat×DV)->List (Nat×Value)->Prop
 |[],[]=>True
 |p::l,q::m=>(p.1=q.1/\Hd ρ n w p.2 q.2)/\Hp ρ n w l m
 |_,_=>False
theorem aBt {place:Nat->Option (Nat×Nat)}:∀{al:List (Nat×DV)} {cells:List CV} {k:List CV->Prop},aIp place cells al k->
 ∃cs,k cs/\cs.length=cells.length/\∀(ρ:Pl) (n:Nat) (w:World) (vc:List Value) (vl:List (Nat×Value)),Hl ρ n w cells vc->Hp ρ n w al vl->(∀x∈vc,x.oneCell'=true)->∃vs,Instr.fill place vc.toArray vl=some vs.toArray/\Hl ρ n w cs vs/\∀x∈vs,x.oneCell'=true
 |[],cells,k,h=>⟨cells,h,rfl,λρ n w vc vl hc hp h1=>by
    cases vl with
    |nil=>exact⟨vc,rfl,hc,h1⟩
    |cons q m=>exact hp.elim⟩
 |(i,d)::rest,cells,k,h=>by
  unfold aIp at h
  split at h
  ·next os hos=>
   obtain⟨off,size⟩:=os
   cases hb:(Nat.beq (cellsOf d).length size&&((cellsOf d).all aEn&&!isT d)) with
   |false=>simp only[hb,cond_false] at h
   |true=>
    simp only[hb,cond_true] at h
    simp only[aQ,dL] at hb
    obtain⟨b1,b2,b3⟩:=hb
    have b1':=aO b1
    obtain⟨h1,h2⟩:=aJn h
    obtain⟨cs,h3,h4,h5⟩:=aBt h2
    refine⟨cs,h3,h4.trans ?_,λρ n w vc vl hc hp hone=>?_⟩
    ·simp only[oG,aP,cC,dP];omega
    cases vl with
    |nil=>exact hp.elim
    |cons q m=>
     obtain⟨⟨e1,hd⟩,hp⟩:=hp
     obtain⟨i',x⟩:=q
     simp only at e1 hd
     subst e1
     obtain⟨us,u1,u2,u3⟩:=aBr hd b2 b3
     have hul:us.length=size:=u2.len.symm.trans b1'
     have hvl:vc.length=cells.length:=hc.len.symm
     have hsp:=aJo off hc u2
     obtain⟨vs,hv1,hv2,hv3⟩:=h5 ρ n w (spl vc off us) m hsp hp (λx hx=>by
      simp only[spl,bB] at hx
      rcases hx with (hx|hx)|hx
      ·exact hone x (eG hx)
      ·exact u3 x hx
      exact hone x (gZ hx))
     refine⟨vs,?_,hv2,hv3⟩
     have hz:(us.toArray.zipIdx).foldl (λ(cs:Array Value) (x:Value×Nat)=>match x with|(c,j)=>cs.setIfInBounds (off+j) c) vc.toArray=(vc.take off++(us++vc.drop (off+us.length))).toArray:=by
      rw[<-Array.foldl_toList,Array.toList_zipIdx]
      exact aZe us off 0 vc oM
     simp only[Instr.fill,hos,u1]
     rw[if_neg (by simp only[rD,bne_iff_ne,ne_eq,kY,decide_eq_true_eq,not_or,jZ];exact⟨hul,by omega⟩)]
     rw[<-hv1,hz]
     simp[spl]
  exact h.elim
theorem aBu {s:SS} {ρ:Pl} {w:World} {f:Nat->Value} {gs:Gs} (hF:Fr s ρ w f):∀{al:List (Nat×Operand)} {k:List (Nat×DV)->Prop},aPb gs s al k->∃dl,k dl/\(sat f gs->Hp ρ s.bl.length w dl (al.map λp=>(p.1,ev f p.2)))
 |[],k,h=>⟨[],h,λ_=>trivial⟩
 |(i,x)::al,k,h=>by
  unfold aPb at h
  split at h
  ·next b hd=>
   obtain⟨dl,h1,h2⟩:=aBu hF h
   exact⟨_,h1,λhs=>⟨⟨rfl,by
    show Hd ρ s.bl.length w _ (ev f x)
    rw[(cF hF hs hd).inv_c.inv_v];exact .c (aMs (.bool b))⟩,h2 hs⟩⟩
  ·next d hd=>
   obtain⟨dl,h1,h2⟩:=aBu hF h
   exact⟨_,h1,λhs=>⟨⟨rfl,cF hF hs hd⟩,h2 hs⟩⟩
  exact h.elim
section ops
variable {P:Program} {T:TT} (hT:Good P T) {w0 w:World} {nb:Nat} {s:SS} {ρ ρ0:Pl} {f:Nat->Value} {gs:Gs} {dst:Option Tmp} {ty:TypeId} {pos:String} {aft:Array Edge} {gd:Option (Nat×Bool)} {x y z:Operand} {t t':TypeId} {k:SS->DV->Prop} {ke:DV->Prop}
theorem aPd {F:Array Field} {l:List FI} (hl:l.length=F.size) (h:∀(i:Nat) (fi:FI),l[i]? =some fi->∃fl,F[i]? =some fl/\fl.offset=fi.off/\fl.type=fi.ty/\∃by' z,TyI P fi.ty fi.size by' z) (u:World):
 (F.mapM λ(fl:Field)=>(do pure (fl.offset,<-sizeOf fl.type):Sem (Nat×Nat))).run P u= .ok (plK l).toArray u:=by
 obtain⟨F⟩:=F
 simp only[rD] at hl
 rw[vC]
 have key:∀(F:List Field) (l:List FI),l.length=F.length->(∀(i:Nat) (fi:FI),l[i]? =some fi->∃fl,F[i]? =some fl/\fl.offset=fi.off/\fl.type=fi.ty/\∃by' z,TyI P fi.ty fi.size by' z)->
  (F.mapM λ(fl:Field)=>(do pure (fl.offset,<-sizeOf fl.type):Sem (Nat×Nat))).run P u= .ok (plK l) u:=by
  intro F
  induction F with
  |nil=>intro l hl _;cases l with
   |nil=>simp[plK]
   |cons a l=>cases hl
  |cons fl F ih=>intro l hl h;cases l with
   |nil=>cases hl
   |cons fi l=>
    obtain⟨fl',h1,h2,h3,by',z,h4⟩:=h 0 fi rfl
    injection h1 with h1
    subst h1
    obtain⟨ii,hi,_,hs,_⟩:=h4.ex
    have:=ih l (by simpa using hl) λi fi hi=>by simpa using h (i+1) fi hi
    rw[List.mapM_cons]
    have e1:(do pure (fl.offset,<-sizeOf fl.type):Sem (Nat×Nat)).run P u= .ok (fi.off,fi.size) u:=by simp[sizeOf,typeInfo,h3,hi,hs,h2]
    rw[Sem.run_bind,e1,Result.andThen_ok,Sem.run_bind,this,Result.andThen_ok]
    rfl
 have:=key F l hl (λi fi hi=>by simpa using h i fi hi)
 simp only[Sem.run_map,this]
 rfl
include hT in
theorem aVx {al:List (Nat×Operand)} (h:aPc T gs s t al ke) (hF:Fr s ρ w f):Pu P f ⟨dst,.build t al.toArray,ty,pos,aft,gd⟩ w ρ s.bl.length gs ke:=by
 unfold aPc at h
 split at h
 ·next ti ht=>
  have G:=hT t ti ht
  split at h
  ·next n e es har=>
   obtain⟨hu,by',z0,hte⟩:=G.ar n e es har
   obtain⟨dl,h1,h2⟩:=aBu hF h
   obtain⟨cs,h3,_,h5⟩:=aBt h1
   refine⟨_,h3,λhs=>?_⟩
   obtain⟨zz,hty,hz⟩:=G.ty
   obtain⟨vs,hv1,hv2,_⟩:=h5 ρ s.bl.length w ti.zero _ (Hl.vs _) (h2 hs) (λx hx=>aZ.1 G.z1 x hx)
   refine⟨_,.a hv2,λu _=>?_⟩
   obtain⟨i0,hi0,hzi,hs0,_⟩:=hty.ex
   obtain⟨i1,hi1,_,hs1,_⟩:=hte.ex
   have hzv:(zeroValue t).run P u= .ok zz u:=by simp[zeroValue,typeInfo,hi0,hzi]
   rw[hz.symm] at hv1
   simp only[execOp,Instr.build,Sem.run_bind,hzv,Result.andThen_ok,run_underlying hu,sizeOf,typeInfo,hi1,List.map_toArray]
   simp[hi1,hs1,hv1]
  cases hfe:ti.fs.isEmpty with
  |true=>rw[hfe] at h;exact h.elim
  |false=>
   rw[hfe] at h
   simp only[cond_false] at h
   rcases G.fs with h0|⟨F,hFF,hsz,hh⟩
   ·rw[h0] at hfe;cases hfe
   obtain⟨dl,h1,h2⟩:=aBu hF h
   obtain⟨cs,h3,_,h5⟩:=aBt h1
   refine⟨_,h3,λhs=>?_⟩
   obtain⟨zz,hty,hz⟩:=G.ty
   obtain⟨vs,hv1,hv2,_⟩:=h5 ρ s.bl.length w ti.zero _ (Hl.vs _) (h2 hs) (λx hx=>aZ.1 G.z1 x hx)
   refine⟨_,.a hv2,λu _=>?_⟩
   refine mQ hFF hty rfl (λu=>aPd hsz (λi fi hi=>?_) u) ?_
   ·obtain⟨fl,a1,a2,a3,_,_,a4⟩:=hh i fi hi
    exact⟨fl,a1,a2,a3,a4⟩
   rw[hz,<-hv1]
   congr 1
   funext i
   simp
 exact h.elim
include hT in
theorem bHr {n:Nat} {al:List (Nat×Operand)} (h:bNp T s t n al k) (hD:Dn ρ0 w0 nb s ρ f w):Hv true P f ⟨dst,.buildSlice t n al.toArray,ty,pos,aft,gd⟩ ρ0 w0 nb w k:=by
 unfold bNp at h
 split at h
 ·next ti ht=>
  split at h
  ·next e he=>
   split at h
   ·next te hte=>
    cases hb:(Nat.ble (n*te.size) 16777216&&Nat.ble 1 te.size) with
    |false=>rw[hb] at h;exact h.elim
    |true=>
     simp only[hb,cond_true] at h
     simp only[aQ] at hb
     have b1:=bN hb.1
     have b2:=bN hb.2
     have G:=hT e te hte
     obtain⟨zz,hty,hz⟩:=G.ty
     obtain⟨dl,h1,h2⟩:=aBu hD.f h
     obtain⟨cs,h3,h4,h5⟩:=aBt h1
     obtain⟨vs,hv1,hv2,hv3⟩:=h5 ρ s.bl.length w (List.replicate n te.zero).flatten _ ((Hl.vs te.zero).rep n) (h2 fP) (λx hx=>by
      obtain⟨l,hl1,hl2⟩:=rQ.1 hx
      rw[(jJ.1 hl1).2] at hl2
      exact aZ.1 G.z1 x hl2)
     have hzs:zz.cells.size=te.size:=by rw[hz];simpa using G.zs
     have hlen:vs.length=n*te.size:=by
      rw[<-hv2.len,h4,aGh,bV,G.zs]
     have hmk:((Array.range (n*te.size)).map ((if n*te.size=0 then #[] else zz.cells)[·%(if n*te.size=0 then #[] else zz.cells).size]!))=(List.replicate n te.zero).flatten.toArray:=by
      have hm:=aIe zz.cells n
      rw[hzs,hz] at hm
      by_cases h0:n*te.size=0
      ·have hn:n=0:=by
        rcases dB n with h|h
        ·exact h
        have:=mW h b2;omega
       subst hn
       simp
      simp only[h0,if_false]
      rw[<-hm,hz,hJ]
      rfl
     obtain⟨v,w',hr,b,rfl,hm⟩:=aMc (P:=P) (f:=f) (w:=w) (dst:=dst) (ty:=ty) (pos:=pos) (aft:=aft) (g:=gd) (len:=n) ((hT t ti ht).el e he) hty rfl b1 (by rw[hmk];exact hv1)
     refine aBs (junk:=[]) (cap:=n) h3 hD hr (by rw[gB];exact hm) hv2 hv3 (λ_=>⟨by rw[gB];exact hlen.symm,?_⟩) λρ' hρ=> .c ⟨dK _,by rw[hρ];rfl⟩
     have:n*1<=n*te.size:=dZ n b2
     simp only[maxLen]
     omega
   exact h.elim
  exact h.elim
 exact h.elim
end ops
/-! ### what names block i is no longer known -/
def nA (i:Nat):CV->Bool
 |.p j _=>Nat.beq j i
 |.s j _=>Nat.beq j i
 |.t j _ _=>Nat.beq j i
 |.f _ fi ca=>(fi++ca).any λp=>Nat.beq p.1 i
 |_=>false
def bTy (i:Nat):DV->Bool
 |.c c=>nA i c
 |.a l=>l.any (nA i)
 |.t _=>true
def aMx (i:Nat):DV->Bool
 |.c c=>nA i c
 |.a l=>l.any (nA i)
 |.t l=>l.any (bTy i)
def aMy (i:Nat) (c:CV):CV:=bif nA i c then .u else c
def bHs (i:Nat):List CV->(List CV->Prop)->Prop
 |[],k=>k []
 |c::l,k=>bHs i l λr=>k (aMy i c::r)
def aMz (i:Nat):List (Nat×DV)->(List (Nat×DV)->Prop)->Prop
 |[],k=>k []
 |(t,d)::l,k=>bif aMx i d then aMz i l λr=>k ((t,.c .u)::r) else aMz i l λr=>k ((t,d)::r)
def aPe (i:Nat):Nat->List (TypeId×Nat×List CV)->(List (TypeId×Nat×List CV)->Prop)->Prop
 |_,[],k=>k []
 |j,(T,es,l)::r,k=>bif Nat.beq j i then aPe i (j+1) r λr'=>k ((T,es,l)::r') else
  bif Nat.beq es 0 then bHs i l λl'=>aPe i (j+1) r λr'=>k ((T,es,l')::r')
  else (∀c∈l,nA i c=false)/\aPe i (j+1) r λr'=>k ((T,es,l)::r')
def aAk (i:Nat) (s:SS) (k:SS->Prop):Prop:=match s with
 |⟨sl,gl,bl,fl⟩=>bif gl.isEmpty then aMz i sl λsl'=>aPe i 0 bl λbl'=>k ⟨sl',[],bl',fl⟩ else False
structure Kx (i:Nat) (ρ:Pl) (n:Nat) (w:World) (ρ':Pl) (w':World):Prop where
 pl:∀j,j<n->j≠i->ρ' j=ρ j
 z:∀b,Zf ρ n w b->Zf ρ' n w' b/\w'.heap[b]? =w.heap[b]?
 ob:∀j b,j<n->j≠i->(ρ j).1=some b->w'.heap[b]? =w.heap[b]?
section kx
variable {i n:Nat} {ρ ρ' ρ0:Pl} {w w' w0:World} {nb:Nat} {f:Nat->Value} {s:SS}
theorem pD {a b:Nat} (h:Nat.beq a b=false):a≠b:=λe=>by subst e;rw[iX] at h;cases h
theorem Hc.kx {c:CV} {x:Value} (h:Hc ρ n w c x) (k:Kx i ρ n w ρ' w') (hm:nA i c=false):Hc ρ' n w' c x:=by
 cases c with
 |p j o=>obtain⟨h1,b,h2,h3⟩:=h;exact⟨h1,b,by rw[k.pl j h1 (pD hm)];exact h2,h3⟩
 |s j m=>obtain⟨h1,h2⟩:=h;exact⟨h1,by rw[k.pl j h1 (pD hm)];exact h2⟩
 |q A m c esz get j o=>obtain⟨h1,h2⟩:=h;exact⟨h1.mono k.z,h2⟩
 |t j o m=>obtain⟨h1,h2⟩:=h;exact⟨h1,by rw[k.pl j h1 (pD hm)];exact h2⟩
 |f q fi ca=>
  obtain⟨h1,h2⟩:=h
  have hne:∀p∈fi++ca,p.1≠i:=λp hp he=>by
   have:=rE.1 hm p hp
   rw[he,iX] at this
   exact this rfl
  refine⟨λp hp=>⟨(h1 p hp).1,by rw[k.pl p.1 (h1 p hp).1 (hne p hp)];exact(h1 p hp).2⟩,h2.trans ?_⟩
  have e:∀p∈fi++ca,ptr ρ p=ptr ρ' p:=λp hp=>by
   unfold ptr
   rw[k.pl p.1 (h1 p hp).1 (hne p hp)]
  rw[fV λp hp=>e p (dS _ hp),fV λp hp=>e p (eJ _ hp)]
 |u=>exact Rc.mono h k.z
 |v x=>exact Rc.mono h k.z
 |h A n c=>exact Rc.mono h k.z
 |hp b o=>exact Rc.mono h k.z
 |b p q=>exact Rc.mono h k.z
 |r A m c esz get=>exact Rc.mono h k.z
theorem Hc.kill {c:CV} {x:Value} (h:Hc ρ n w c x) (k:Kx i ρ n w ρ' w'):Hc ρ' n w' (aMy i c) x:=by
 unfold aMy
 cases hm:nA i c with
 |true=>exact Rc.u x
 |false=>exact h.kx k hm
theorem Hl.kx {l:List CV} {vl:List Value} (h:Hl ρ n w l vl) (k:Kx i ρ n w ρ' w') (hm:∀c∈l,nA i c=false):Hl ρ' n w' l vl:=by
 induction l generalizing vl with
 |nil=>cases vl with
  |nil=>trivial
  |cons x vl=>exact h
 |cons c l ih=>cases vl with
  |nil=>exact h
  |cons x vl=>exact⟨h.1.kx k (hm c (.head _)),ih h.2 λc hc=>hm c (.tail _ hc)⟩
theorem Hl.kill {l:List CV} {vl:List Value} (h:Hl ρ n w l vl) (k:Kx i ρ n w ρ' w'):Hl ρ' n w' (l.map (aMy i)) vl:=by
 induction l generalizing vl with
 |nil=>cases vl with
  |nil=>trivial
  |cons x vl=>exact h
 |cons c l ih=>cases vl with
  |nil=>exact h
  |cons x vl=>exact⟨h.1.kill k,ih h.2⟩
theorem Hd.kx {d:DV} {x:Value} (h:Hd ρ n w d x) (k:Kx i ρ n w ρ' w') (hm:aMx i d=false):Hd ρ' n w' d x:=by
 cases h with
 |c h=>exact .c (h.kx k hm)
 |a h=>exact .a (h.kx k λc hc=>by have:=rE.1 (show List.any _ _=false from hm) c hc;simpa using this)
 |t h hh=>
  refine .t h λj d u h1 h2=>?_
  have h3:bTy i d=false:=by
   have:=rE.1 (show List.any _ _=false from hm) d (aX h1)
   simpa using this
  cases hh j d u h1 h2 with
  |c h=>exact .c (h.kx k h3)
  |a h=>exact .a (h.kx k λc hc=>by have:=rE.1 (show List.any _ _=false from h3) c hc;simpa using this)
  |t _ _=>cases h3
theorem aSo:∀{l:List CV} {k:List CV->Prop},bHs i l k->k (l.map (aMy i))
 |[],k,h=>h
 |c::l,k,h=>aSo (l:=l) h
theorem aJq (kx:Kx i ρ n w ρ' w'):∀{sl:List (Nat×DV)} {k:List (Nat×DV)->Prop},aMz i sl k->∃sl',k sl'/\∀t d',iM sl' t=some d'->∃d,iM sl t=some d/\∀x,Hd ρ n w d x->Hd ρ' n w' d' x
 |[],k,h=>⟨[],h,λt d' h=>by cases h⟩
 |(t0,d0)::l,k,h=>by
  unfold aMz at h
  cases hm:aMx i d0 with
  |true=>
   rw[hm] at h
   obtain⟨sl',h1,h2⟩:=aJq kx (show aMz i l _ from h)
   refine⟨_,h1,λt d' ht=>?_⟩
   unfold iM at ht ⊢
   cases hb:Nat.beq t0 t with
   |true=>simp only[hb,cond_true] at ht ⊢;injection ht with ht;subst ht;exact⟨d0,rfl,λx _=> .c (Rc.u x)⟩
   |false=>simp only[hb,cond_false] at ht ⊢;exact h2 t d' ht
  |false=>
   rw[hm] at h
   obtain⟨sl',h1,h2⟩:=aJq kx (show aMz i l _ from h)
   refine⟨_,h1,λt d' ht=>?_⟩
   unfold iM at ht ⊢
   cases hb:Nat.beq t0 t with
   |true=>simp only[hb,cond_true] at ht ⊢;injection ht with ht;subst ht;exact⟨d0,rfl,λx hx=>hx.kx kx hm⟩
   |false=>simp only[hb,cond_false] at ht ⊢;exact h2 t d' ht
theorem aEv (kx:Kx i ρ n w ρ' w'):∀{bl:List (TypeId×Nat×List CV)} {j:Nat} {k:List (TypeId×Nat×List CV)->Prop},aPe i j bl k->∃bl',k bl'/\bl'.length=bl.length/\∀(m:Nat) (T:TypeId) (es:Nat) (l':List CV),bl'[m]? =some (T,es,l')->∃l,bl[m]? =some (T,es,l)/\(j+m=i->l'=l)/\(j+m≠i->∀vl,Hl ρ n w l vl->Hl ρ' n w' l' vl)/\l'.length=l.length
 |[],j,k,h=>⟨[],h,rfl,λm T es l' h=>by cases h⟩
 |(T0,es0,l0)::r,j,k,h=>by
  have step:∀l0' r',(∀(m:Nat) (T:TypeId) (es:Nat) (l':List CV),r'[m]? =some (T,es,l')->∃l,r[m]? =some (T,es,l)/\(j+1+m=i->l'=l)/\(j+1+m≠i->∀vl,Hl ρ n w l vl->Hl ρ' n w' l' vl)/\l'.length=l.length)->
   (j=i->l0'=l0)->(j≠i->∀vl,Hl ρ n w l0 vl->Hl ρ' n w' l0' vl)->l0'.length=l0.length->
   ∀(m:Nat) (T:TypeId) (es:Nat) (l':List CV),((T0,es0,l0')::r')[m]? =some (T,es,l')->∃l,((T0,es0,l0)::r)[m]? =some (T,es,l)/\(j+m=i->l'=l)/\(j+m≠i->∀vl,Hl ρ n w l vl->Hl ρ' n w' l' vl)/\l'.length=l.length:=by
   intro l0' r' hr h1 h2 h3 m T es l' hm
   cases m with
   |zero=>
    injection hm with hm
    injection hm with e1 e2
    injection e2 with e2 e3
    subst e1 e2 e3
    exact⟨l0,rfl,by simpa using h1,by simpa using h2,h3⟩
   |succ m=>
    obtain⟨l,a1,a2,a3,a4⟩:=hr m T es l' hm
    exact⟨l,a1,λhe=>a2 oM,λhe=>a3 oM,a4⟩
  unfold aPe at h
  cases hb:Nat.beq j i with
  |true=>
   have e:=aO hb
   rw[hb] at h
   obtain⟨r',h1,h2,h3⟩:=aEv kx (show aPe i (j+1) r _ from h)
   exact⟨_,h1,by simp[h2],step l0 r' h3 (λ_=>rfl) (λhne=>absurd e hne) rfl⟩
  |false=>
   have hne:=pD hb
   rw[hb] at h
   simp only[cond_false] at h
   cases hz:Nat.beq es0 0 with
   |true=>
    rw[hz] at h
    obtain⟨r',h1,h2,h3⟩:=aEv kx (aSo (show bHs i l0 _ from h))
    exact⟨_,h1,by simp[h2],step _ r' h3 (λhe=>absurd he hne) (λ_ vl hl=>hl.kill kx) (by simp)⟩
   |false=>
    rw[hz] at h
    obtain⟨h0,h⟩:=h
    obtain⟨r',h1,h2,h3⟩:=aEv kx h
    exact⟨_,h1,by simp[h2],step l0 r' h3 (λ_=>rfl) (λ_ vl hl=>hl.kx kx h0) rfl⟩
theorem FamOk.kx (h:FamOk ρ n w) (k:Kx i ρ n w ρ' w') (hF:ρ'.F=ρ.F) (hfb:∀b,InF ρ b->w'.heap[b]? =w.heap[b]?) (hfi:∀b,(ρ' i).1=some b->¬InF ρ b):FamOk ρ' n w':=
 h.mono hF k.z hfb λj b hj hb=>by
  by_cases hji:j=i
  ·subst hji;exact hfi b hb
  rw[k.pl j hj hji] at hb;exact h.own j b hj hb
theorem aNa {k:SS->Prop} (h:aAk i s k) (hD:Dn ρ0 w0 nb s ρ f w) (kx:Kx i ρ s.bl.length w ρ' w') (hnb:nb<=i) (hi:i<s.bl.length) (hfr:∀b,(ρ' i).1=some b->w0.heap.size<=b) (hinj:∀j b,j<s.bl.length->j≠i->(ρ j).1=some b->(ρ' i).1≠some b) (hrl:Rl w0 nb ρ0 ρ w->Rl w0 nb ρ0 ρ w') (hZ:ρ'.Z=ρ.Z) {fl':List Fam} (hF:ρ'.F=fl') (hfam:FamOk ρ' s.bl.length w') (hffr:∀b,InF ρ' b->w0.heap.size<=b\/InF ρ0 b):
 ∃sl' bl',k ⟨sl',[],bl',s.fl⟩/\bl'.length=s.bl.length/\(∃T es l,s.bl[i]? =some (T,es,l)/\bl'[i]? =some (T,es,l))/\∀T es l,Bq ρ' s.bl.length w' i T es l->Dn ρ0 w0 nb ⟨sl',[],bl'.set i (T,es,l),fl'⟩ ρ' f w':=by
 obtain⟨sl,gl,bl,fl⟩:=s
 unfold aAk at h
 simp only at h
 cases hg:gl.isEmpty with
 |false=>rw[hg] at h;exact h.elim
 |true=>
  rw[hg] at h
  obtain⟨sl',h1,h2⟩:=aJq kx (show aMz i sl _ from h)
  obtain⟨bl',h3,h4,h5⟩:=aEv kx h1
  refine⟨sl',bl',h3,h4,?_,λT es l hq=>⟨⟨λj T2 e2 l2 hj=>?_,λa b bb ha hb hab hbb=>?_,λj b hj hj2 hb=>?_,?_,?_,λj hj=>(kx.pl j (bH hj (bA hnb (gQ hi))) oM).trans (hD.m.pl j hj),by rw[hZ];exact hD.m.zz,?_,hffr⟩,⟨?_,?_⟩,hF⟩⟩
  ·have hlt:i<bl'.length:=by rw[h4];exact hi
   obtain⟨l,e1,e2,_⟩:=h5 i (bl'[i]).1 (bl'[i]).2.1 (bl'[i]).2.2 (aK hlt)
   refine⟨_,_,l,e1,?_⟩
   rw[aK hlt,<-e2 oM]
  ·have hn:(bl'.set i (T,es,l)).length=bl.length:=by rw[bT,h4]
   show Bq ρ' (bl'.set i (T,es,l)).length w' j T2 e2 l2
   rw[hn]
   rcases oT hj with ⟨rfl,he,_⟩|⟨hne,hj'⟩
   ·injection he with e1 e2
    injection e2 with e2 e3
    subst e1 e2 e3
    exact hq
   obtain⟨l0,a1,_,a3,a4⟩:=h5 j T2 e2 l2 hj'
   have hlt:=eP a1
   have hq0:=hD.m.ok j T2 e2 l0 a1
   unfold Bq at hq0 ⊢
   rw[kx.pl j hlt hne]
   cases hb:(ρ j).1 with
   |none=>
    simp only[hb] at hq0 ⊢
    refine⟨bX ?_,hq0.2⟩
    rw[a4,hq0.1]
    rfl
   |some b=>
    simp only[hb] at hq0 ⊢
    obtain⟨vl,junk,q1,q2,q3⟩:=hq0
    exact⟨vl,junk,by rw[kx.ob j b hlt hne hb];exact q1,a3 oM vl q2,q3⟩
  ·simp only[bT,h4] at ha hb
   by_cases hai:a=i<;>by_cases hbi:b=i
   ·omega
   ·subst hai;rw[kx.pl b hb hbi] at hbb;exact absurd hab (hinj b bb hb hbi hbb)
   ·subst hbi;rw[kx.pl a ha hai] at hab;exact absurd hbb (hinj a bb ha hai hab)
   rw[kx.pl a ha hai] at hab;rw[kx.pl b hb hbi] at hbb;exact hD.m.inj a b bb ha hb hab hbb
  ·simp only[bT,h4] at hj2
   by_cases hji:j=i
   ·subst hji;exact hfr b hb
   rw[kx.pl j hj2 hji] at hb;exact hD.m.fr j b hj hj2 hb
  ·simp only[bT,h4];exact hD.m.nbl
  ·have hr:=hrl hD.m.rel
   exact⟨hr.os,hr.tape,hr.output,hr.size,λk hk hn hf=>hr.block k hk (λj hj=>by
    have:=hn j hj
    rw[kx.pl j (bH hj (bA hnb (gQ hi))) oM] at this
    exact this) hf⟩
  ·simp only[bT,h4]
   exact hfam
  ·intro t d' ht
   obtain⟨d,a1,a2⟩:=h2 t d' ht
   show Hd ρ' (bl'.set i (T,es,l)).length w' d' (f t)
   rw[bT,h4]
   exact a2 _ (hD.f.sl t d a1)
  intro t gs d ht
  cases ht
end kx
def flatR (m:Nat) (get:Nat->List CV):List CV:=((List.range m).map get).flatten
theorem jT (m:Nat) (get:Nat->List CV):flatR (m+1) get=flatR m get++get m:=by
 unfold flatR
 rw[kD,dI,lC]
 simp
def aBv (te:TI) (s:SS) (d:DV) (k:Nat->List CV->Prop->Prop):Prop:=match d with
 |.c (.s j m)=>(match s.bl[j]? with
  |some bj=>bif Nat.beq bj.2.1 te.size then k m bj.2.2 (m*te.size=bj.2.2.length) else False
  |none=>False)
 |.c (.r _ m _ e' get)=>bif Nat.beq e' te.size then k m (flatR m get) (∀j,j<m->(get j).length=te.size) else False
 |.c (.v (.slice none 0 0))=>k 0 [] True
 |.c (.t j o m)=>(match s.bl[j]? with
  |some bj=>bif Nat.beq bj.2.1 te.size then k m (bj.2.2.drop o) (o+m*te.size=bj.2.2.length) else False
  |none=>False)
 |_=>False
def bNq (T:TT) (nb:Nat) (s:SS) (t:Nat) (x y:Operand) (k:SS->DV->Prop):Prop:=match T t with
 |some ti=>(match ti.el with
  |some e=>(match T e,val [] s x,val [] s y with
   |some te,some (.c (.s i n)),some dy=>(match s.bl[i]? with
    |some bi=>bif Nat.beq bi.1 e&&(Nat.beq bi.2.1 te.size&&Nat.ble 1 te.size) then bif !Nat.ble nb i then (match dy with
     |.c (.t j o m)=>bif Nat.beq j i then (o+m*te.size=bi.2.2.length/\n*te.size+m*te.size<=bi.2.2.length/\0<bi.2.2.length)/\
      qE s.bl i (bi.1,bi.2.1,bi.2.2.take (n*te.size)++bi.2.2.drop o) λbl'=>k ⟨s.sl,s.gl,bl',s.fl⟩ (.c (.s i (n+m))) else False
     |_=>False) else
     (match dy with
     |.c (.t _ _ _)=>aBv te s dy λm news c=>(c/\n*te.size<=bi.2.2.length/\n+m<=maxLen/\(n+m)*te.by'<=140737488355328/\∀c∈bi.2.2.take (n*te.size)++news,nA i c=false)/\
      aAk i s λs'=>qE s'.bl i (bi.1,bi.2.1,bi.2.2.take (n*te.size)++news) λbl'=>k ⟨s'.sl,s'.gl,bl',s'.fl⟩ (.c (.s i (n+m)))
     |dy=>aBv te s dy λm news c=>(c/\n*te.size=bi.2.2.length/\n+m<=maxLen/\(n+m)*te.by'<=140737488355328/\∀c∈bi.2.2++news,nA i c=false)/\
      aAk i s λs'=>qE s'.bl i (bi.1,bi.2.1,bi.2.2++news) λbl'=>k ⟨s'.sl,s'.gl,bl',s'.fl⟩ (.c (.s i (n+m))))
     else False
    |none=>False)
   |some te,some (.c (.v (.slice none 0 0))),some dy=>bif Nat.ble 1 te.size then aBv te s dy λm news c=>(c/\m<=maxLen/\m*te.by'<=140737488355328)/\aOy s e te.size news (λi=> .c (.s i m)) k else False
   |some te,some (.c (.h A n c)),some dy=>∃f j:Nat,(match s.fl[f]? with
    |some F=>bif Nat.beq F.T e&&(Nat.beq F.es te.size&&(Nat.ble 1 te.size&&Nat.ble F.T 999999)) then
     aBv te s dy λm news cd=>(cd/\j<F.N/\F.A j=A/\F.cap j=c/\n*te.size=(F.get j).length/\n+m<=maxLen/\(n+m)*te.by'<=140737488355328/\∀c∈news,iP c=true)/\
      ∀A' c',qE s.fl f ⟨F.T,F.es,F.N,upd F.A j A',upd F.cap j c',upd F.get j (F.get j++news)⟩ λfl'=>k ⟨s.sl,s.gl,s.bl,fl'⟩ (.c (.h A' (n+m) c'))
     else False
    |none=>False)
   |_,_,_=>False)
  |none=>False)
 |none=>False
section
variable {P:Program} {T:TT} (hT:Good P T) {w0 w:World} {nb:Nat} {s:SS} {ρ ρ0:Pl} {f:Nat->Value} {dst:Option Tmp} {ty:TypeId} {pos:String} {aft:Array Edge} {gd:Option (Nat×Bool)} {x y z:Operand} {t t' e:TypeId} {k:SS->DV->Prop}
theorem uW {b o:Nat} {l:List Value} (h:∀(j:Nat) (u:Value),l[j]? =some u->w.cell? ⟨b,o+j,none⟩=some u):Go.Vg.Rd (λ_ _=>True) w b o l:=by
 cases l with
 |nil=>exact .inl rfl
 |cons a l=>
  right
  have h0:=h 0 a rfl
  have h0':=h0
  unfold World.cell? at h0'
  cases hb:w.heap[b]? with
  |none=>simp only[hb] at h0';cases h0'
  |some ob=>
   cases ob with
   |cells cs T fz=>
    refine⟨cs,T,fz,rfl,trivial,λj u hj=>?_⟩
    have:=h j u hj
    unfold World.cell? at this
    simp only[hb] at this
    simpa using this
   |_=>simp only[hb] at h0';cases h0'
theorem aJr {size bytes n m:Nat} {zz v1 v2:Value} {l news:List Value} {D:Nat->TypeId->Prop} (hu:P.underlying t=some (.slice e)) (ht:TyI P e size bytes zz) (hz:zz.cells.size=size) (hsz:0<size) (hx:ev f x=v1) (hy:ev f y=v2)
 (ho:Ow w 0 e size v1 n l) (hs:Sc D w size v2 m news) (h1:∀u∈news,u.oneCell'=true) (h63:n+m<=maxLen) (hby:(n+m)*bytes<=140737488355328):
 ∃v w',(execOp (ev f) ⟨dst,.call ⟨.builtin .append,#[x,y],#[t,t]⟩,ty,pos,aft,gd⟩).run P w= .ok (.value v) w'/\Ow w' 0 e size v (n+m) (l++news)/\w.grownBy w' v1.ownBlock/\(v.ownBlock=v1.ownBlock\/v.ownBlock=some w.heap.size):=by
 obtain⟨i,hi,hzi,hsi,hbi⟩:=ht.ex
 obtain⟨A,c,rfl,hmc,hcm,hl,hA⟩:=hs
 have key:∃v' w',(Builtin.append_ #[t,t] ty #[v1,.slice A m c]).run P w= .ok v' w'/\w'.ownsRow 0 e size v' (n+m) (l++news)/\w.grownBy w' v1.ownBlock/\(v'.ownBlock=v1.ownBlock\/v'.ownBlock=some w.heap.size):=by
  rcases hA with rfl|⟨b,o,rfl,hrd⟩
  ·have hm:m=0:=by
    rcases dB m with h|h
    ·exact h
    exact absurd hl.symm (by have:=mW h hsz;simp;omega)
   subst hm
   cases A with
   |none=>
    refine⟨v1,w,?_,by simpa using ho,⟨rfl,rfl,rfl,aI _,λ_ _ _=>rfl⟩,.inl rfl⟩
    rcases ho.2 with ⟨rfl,rfl⟩|⟨b,cap,cur,rfl,_,_,hnc,_⟩
    ·simp[Builtin.append_,run_underlying hu,sizeOf,typeInfo,hi,Builtin.lenOf,Builtin.firstCells]
    simp[Builtin.append_,run_underlying hu,sizeOf,typeInfo,hi,Builtin.lenOf,Builtin.firstCells,hnc,storeCells]
   |some ad=>
    obtain⟨v',w',h1,h2,h3,_,h5⟩:=run_append_own_at (P:=P) w 0 t ty e i zz size bytes hu hi hzi hsi hbi hz hsz v1 n l ho ad 0 c [] (by simp) (by simp) (by simp) (by simpa using h63) (by simpa using hby) (aF _)
    exact⟨v',w',h1,h2,h3,h5⟩
  obtain⟨v',w',h1,h2,h3,_,h5⟩:=run_append_own_at (P:=P) w 0 t ty e i zz size bytes hu hi hzi hsi hbi hz hsz v1 n l ho ⟨b,o,none⟩ m c news hl (λj u hj=>by rw[iA];exact hrd.cell hj) h1 h63 hby (aF _)
  exact⟨v',w',h1,h2,h3,h5⟩
 obtain⟨v',w',h2,h3,h4,h5⟩:=key
 exact⟨v',w',by simp[execOp,resolve,invoke,builtin,hx,hy,h2],h3,h4,h5⟩
theorem aZf {size bytes n m b cap:Nat} {zz v2:Value} {cs news:List Value} {T0:TypeId} {D:Nat->TypeId->Prop} (hu:P.underlying t=some (.slice e)) (ht:TyI P e size bytes zz) (hx:ev f x= .slice (some ⟨b,0,none⟩) n cap) (hy:ev f y=v2)
 (hb:w.heap[b]? =some (.cells cs.toArray T0 (0,0))) (hs:Sc D w size v2 m news) (h1:∀u∈news,u.oneCell'=true) (hroom:n+m<=cap) (hfit:n*size+news.length<=cs.length):
 ∃w',(execOp (ev f) ⟨dst,.call ⟨.builtin .append,#[x,y],#[t,t]⟩,ty,pos,aft,gd⟩).run P w= .ok (.value (.slice (some ⟨b,0,none⟩) (n+m) cap)) w'/\w'.heap[b]? =some (.cells (spl cs (n*size) news).toArray T0 (0,0))/\Exc b w w':=by
 obtain⟨i,hi,hzi,hsi,hbi⟩:=ht.ex
 subst hsi
 obtain⟨A,c,rfl,hmc,hcm,hl,hA⟩:=hs
 have hst:=run_storeCells_at P b (n*i.size) T0 news 0 cs.toArray w hb (by simpa using hfit) h1
 simp only[jG] at hst
 have key:(Builtin.append_ #[t,t] ty #[.slice (some ⟨b,0,none⟩) n cap,.slice A m c]).run P w= .ok (.slice (some ⟨b,0,none⟩) (n+m) cap) (w.setRow b (spl cs (n*i.size) news).toArray):=by
  cases A with
  |none=>
   have hn:news=[]:=by
    rcases hA with h|⟨_,_,h,_⟩
    ·exact h
    cases h
   subst hn
   have hst':(storeCells ⟨b,n*i.size,none⟩ [] 0).run P w= .ok () (w.setRow b (spl cs (n*i.size) []).toArray):=by simpa[spl] using hst
   simp[Builtin.append_,run_underlying hu,sizeOf,typeInfo,hi,Builtin.lenOf,Builtin.firstCells,hroom,Addr.add_lit,hst']
  |some ad=>
   have hfc:=run_firstCells_some (P:=P) w i.size m ad m c news hl (λj u hj=>by
    rcases hA with h|⟨b',o',h,hrd⟩
    ·subst h;cases hj
    injection h with h
    subst h
    rw[iA];exact hrd.cell hj)
   have hst':(storeCells ⟨b,n*i.size,none⟩ news 0).run P w= .ok () (w.setRow b (spl cs (n*i.size) news).toArray):=by simpa[spl] using hst
   simp[Builtin.append_,run_underlying hu,sizeOf,typeInfo,hi,Builtin.lenOf,hroom,hfc,Addr.add_lit,hst']
 exact⟨_,by simp[execOp,resolve,invoke,builtin,hx,hy,key],setRow_heap w b cs.toArray _ T0 (0,0) hb,wX _ _ _⟩
theorem aJs {Z:Nat->Prop} {b o esz:Nat} {get:Nat->List CV} {V:Nat->List Value}:∀(m:Nat),(∀j,j<m->∀(i:Nat) (u:Value),(V j)[i]? =some u->w.cell? ⟨b,o+j*esz+i,none⟩=some u/\u.oneCell'=true)->(∀j,j<m->(V j).length=esz)->
 ((List.range m).map V).flatten.length=m*esz/\(∀(i:Nat) (u:Value),((List.range m).map V).flatten[i]? =some u->w.cell? ⟨b,o+i,none⟩=some u/\u.oneCell'=true)
 |0,_,_=>⟨by simp,λi u h=>by simp at h⟩
 |m+1,hc,hl=>by
  obtain⟨h1,h2⟩:=aJs (Z:=Z) (get:=get) m (λj hj=>hc j oM) (λj hj=>hl j oM)
  have e:((List.range (m+1)).map V).flatten=((List.range m).map V).flatten++V m:=by
   rw[kD,dI,lC]
   simp
  rw[e]
  refine⟨by rw[aP,h1,hl m oM,dW,lN],λi u hi=>?_⟩
  by_cases hlt:i<m*esz
  ·rw[bW (by rw[h1];exact hlt)] at hi
   exact h2 i u hi
  rw[cO (by rw[h1];omega),h1] at hi
  have:=hc m oM _ u hi
  rw[show o+m*esz+(i-m*esz)=o+i by omega] at this
  exact this
theorem Hl.flatR {n esz:Nat} {get:Nat->List CV} {V:Nat->List Value}:∀(m:Nat),(∀j,j<m->Hl ρ n w (get j) (V j))->Hl ρ n w (Go.Vy.flatR m get) ((List.range m).map V).flatten
 |0,_=>trivial
 |m+1,h=>by
  rw[jT,kD,dI,lC]
  refine(Hl.flatR (esz:=esz) m λj hj=>h j oM).append ?_
  simpa using h m oM
theorem wJ {te:TI} {dy:DV} {kk:Nat->List CV->Prop->Prop} {v2:Value} (h:aBv te s dy kk) (hm:DnW ρ0 w0 nb s.bl ρ w) (hd:Hd ρ s.bl.length w dy v2) (hsz:0<te.size):∃m news c,kk m news c/\(c->∃vals,Sc (λ_ _=>True) w te.size v2 m vals/\Hl ρ s.bl.length w news vals/\∀x∈vals,x.oneCell'=true):=by
 unfold aBv at h
 split at h
 ·next j m=>
  split at h
  ·next bj hbj=>
   obtain⟨Tj,ej,lj⟩:=bj
   cases hb:Nat.beq ej te.size with
   |false=>simp only[hb,cond_false] at h
   |true=>
    simp only[hb,cond_true] at h
    have hb':=aO hb
    subst hb'
    refine⟨_,_,_,h,λhc=>?_⟩
    obtain⟨hj,he⟩:=hd.inv_c
    have hq:=hm.ok j Tj _ lj hbj
    cases hρ:(ρ j).1 with
    |none=>
     unfold Bq at hq
     simp only[hρ] at hq
     obtain⟨h1,h2,h3⟩:=hq
     subst h1
     rw[hρ,h2] at he
     have hm0:m=0:=by
      rcases dB m with h|h
      ·exact h
      have:=mW h hsz;simp at hc;omega
     subst hm0
     exact⟨[],⟨none,0,he,aI _,aF _,by simp,.inl rfl⟩,trivial,λx hx=>by cases hx⟩
    |some b=>
     obtain⟨vl,junk,q1,q2,q3,q4⟩:=hq.at hρ
     rw[hρ] at he
     obtain⟨q5,q6⟩:=q3 hsz
     have hl:=q2.len
     have hmc:m<=(ρ j).2:=by
      rw[aP] at q5
      exact gD (c:=te.size) oM hsz
     exact⟨vl,⟨some ⟨b,0,none⟩,(ρ j).2,he,hmc,q6,by rw[<-hl];exact hc.symm,.inr ⟨b,0,rfl,uW λi u hi=>by rw[fK];exact pS q1 hi⟩⟩,q2,q4⟩
  exact h.elim
 ·next A m c e' get=>
  cases hb:Nat.beq e' te.size with
  |false=>simp only[hb,cond_false] at h
  |true=>
   simp only[hb,cond_true] at h
   have hb':=aO hb
   subst hb'
   refine⟨_,_,_,h,λhc=>?_⟩
   obtain⟨h1,h2⟩:=hd.inv_c.inv_r
   cases h2 with
   |nil A c e get hmx=>exact⟨[],⟨A,c,h1,aF _,hmx,by simp,.inl rfl⟩,trivial,λx hx=>by cases hx⟩
   |r b o n c e get V hcn hmx hZ hcell hlen hel=>
    have hl2:∀j,j<m->(V j).length=te.size:=λj hj=>(hlen j hj).trans (hc j hj)
    obtain⟨f1,f2⟩:=aJs (Z:=λ_=>True) (get:=get) (o:=o) m hcell hl2
    refine⟨_,⟨_,c,h1,hcn,hmx,f1,.inr ⟨b,o,rfl,uW λi u hi=>(f2 i u hi).1⟩⟩,Hl.flatR (esz:=te.size) m λj hj=>Hl.of_get (hlen j hj) λi c' u h1 h2=>Hc.of_rc (hel j hj i c' u h1 h2),λx hx=>?_⟩
    obtain⟨i,hi⟩:=dD hx
    exact(f2 i x hi).2
 ·exact⟨_,_,_,h,λ_=>⟨[],⟨none,0,hd.inv_c.inv_v,aI _,aF _,by simp,.inl rfl⟩,trivial,λx hx=>by cases hx⟩⟩
 ·next j o m=>
  split at h
  ·next bj hbj=>
   obtain⟨Tj,ej,lj⟩:=bj
   cases hb:Nat.beq ej te.size with
   |false=>simp only[hb,cond_false] at h
   |true=>
    simp only[hb,cond_true] at h
    have hb':=aO hb
    subst hb'
    refine⟨_,_,_,h,λhc=>?_⟩
    replace hc:o+m*te.size=lj.length:=hc
    obtain⟨hj,A,c,hmc,hcm,he,hA⟩:=hd.inv_c
    rcases hA with rfl|⟨b,hρ,rfl⟩
    ·refine⟨[],⟨A,c,he,aF _,hcm,by simp,.inl rfl⟩,?_,λx hx=>by cases hx⟩
     rw[cB (show lj.length<=o by omega)]
     trivial
    obtain⟨vl,junk,q1,q2,q3,q4⟩:=(hm.ok j Tj _ lj hbj).at hρ
    have hl:=q2.len
    exact⟨vl.drop o,⟨some ⟨b,o,none⟩,c,he,hmc,hcm,by rw[dP];omega,.inr ⟨b,o,rfl,uW λi u hi=>pS q1 (by rw[eQ] at hi;exact hi)⟩⟩,q2.drop o,λx hx=>q4 x (gZ hx)⟩
  exact h.elim
 exact h.elim
def xV (v:Value):Option Nat×Nat:=match v with
 |.slice (some a) _ c=>(some a.block,c)
 |_=>(none,0)
theorem bLd {ρ':Pl} {i n size m:Nat} {v:Value} {l:List CV} {vl:List Value} (ho:Ow w 0 e size v m vl) (hρ:ρ' i=xV v) (hl:Hl ρ' n w l vl) (h1:∀x∈vl,x.oneCell'=true) (hsz:0<size):Bq ρ' n w i e size l/\v= .slice ((ρ' i).1.map λb=>⟨b,0,none⟩) m (ρ' i).2:=by
 obtain⟨hlen,h⟩:=ho
 rcases h with ⟨rfl,rfl⟩|⟨g,cap,cur,rfl,_,hh,hnc,hm,hs,ht⟩
 ·have e0:ρ' i=(none,0):=hρ
  unfold Bq
  rw[e0]
  have:vl=[]:=bX (by simpa using hlen)
  subst this
  have hl':=hl.len
  exact⟨⟨bX (by simpa using hl'),rfl,hsz⟩,rfl⟩
 have e0:ρ' i=(some g,cap):=hρ
 refine⟨Bq.of_some (b:=g) (by rw[e0]) ⟨vl,cur.toList.drop (m*size),?_,hl,λ_=>?_,h1⟩,by rw[e0];rfl⟩
 ·rw[hh,<-ht,fG,hJ]
 rw[e0,<-ht,fG]
 exact⟨by rw[<-hs];simp,hm⟩
theorem aGi (v:Value):(xV v).1=v.ownBlock:=by
 unfold xV Value.ownBlock
 split<;>simp_all
include hT in
theorem bHt (h:bNq T nb s t x y k) (hD:Dn ρ0 w0 nb s ρ f w):Hv false P f ⟨dst,.call ⟨.builtin .append,#[x,y],#[t,t]⟩,ty,pos,aft,gd⟩ ρ0 w0 nb w k:=by
 unfold bNq at h
 split at h
 ·next ti ht=>
  split at h
  ·next e he=>
   have hu:=(hT t ti ht).el e he
   split at h
   ·next te i n dy hte hx hy=>
    have G:=hT e te hte
    obtain⟨zz,hty,hz⟩:=G.ty
    have hzs:zz.cells.size=te.size:=by rw[hz];simpa using G.zs
    split at h
    ·next bi hbi=>
     obtain⟨Ti,ei,li⟩:=bi
     cases hb:(Nat.beq Ti e&&(Nat.beq ei te.size&&Nat.ble 1 te.size)) with
     |false=>simp only[hb,cond_false] at h
     |true=>
      simp only[hb,cond_true] at h
      simp only[aQ] at hb
      obtain⟨b1,b2,b3⟩:=hb
      have b1':=aO b1
      have b2':=aO b2
      have b3':=bN b3
      subst b1' b2'
      cases b4:Nat.ble nb i with
      |false=>
       rw[b4] at h
       simp only[Bool.not_false,cond_true] at h
       split at h
       ·next j o m=>
        cases hji:Nat.beq j i with
        |false=>rw[hji] at h;exact h.elim
        |true=>
        rw[hji] at h
        obtain⟨⟨c1,c2,c3⟩,hk⟩:=h
        have e1:=aO hji
        subst e1
        obtain⟨hi,hex⟩:=(cF hD.f fP hx).inv_c
        have hq:=hD.m.ok j _ _ li hbi
        cases hρ1:(ρ j).1 with
        |none=>
         unfold Bq at hq
         simp only[hρ1] at hq
         replace c3:0<li.length:=c3
         rw[hq.1] at c3
         exact absurd c3 (wB _)
        |some b=>
         have hsc0:=wJ (te:=te) (kk:=λm' news' c'=>m'=m/\news'=li.drop o/\c'=(o+m*te.size=li.length)) (show aBv te s (.c (.t j o m)) _ from by
          unfold aBv
          simp only[hbi,iX,cond_true]
          exact⟨by trivial,by trivial,by first|trivial|rfl⟩) hD.m (cF hD.f fP hy) b3'
         obtain⟨m1,n1,p1,⟨e1,e2,e3⟩,hnews⟩:=hsc0
         rw[e1,e2,e3] at hnews
         obtain⟨vals,hsc,hln,hon⟩:=hnews c1
         obtain⟨vl,junk,q1,q2,q3,q4⟩:=hq.at hρ1
         obtain⟨q5,q6⟩:=q3 b3'
         rw[hρ1] at hex
         have hl:=q2.len
         have hvl:vals.length=m*te.size:=by
          have:=hln.len
          rw[dP] at this
          omega
         replace c2:n*te.size+m*te.size<=li.length:=c2
         obtain⟨w',hr,hn,hex'⟩:=aZf (P:=P) (dst:=dst) (ty:=ty) (pos:=pos) (aft:=aft) (gd:=gd) hu hty hex rfl q1 hsc hon (by
          rw[aP] at q5
          refine gD (c:=te.size) ?_ b3'
          rw[dW]
          omega) (by rw[aP,hvl];omega)
         have kp:Kp ρ s.bl.length w ρ s.bl.length w':=Kp.exc hi hρ1 hex'
         have es:spl (vl++junk) (n*te.size) vals=(vl.take (n*te.size)++vals)++(vl++junk).drop (n*te.size+vals.length):=by
          unfold spl
          rw[fM oM]
         rw[es] at hn
         refine⟨_,_,ρ,_,w',kL hk,hr,⟨hD.m.exc hbi hρ1 hex' (Bq.of_some hρ1 ⟨vl.take (n*te.size)++vals,(vl++junk).drop (n*te.size+vals.length),hn,((q2.take _).append hln).kp kp,λh0=>⟨q5.trans ?_,q6⟩,λx hx=>?_⟩),hD.f.kp rfl rfl (by simp only[bT];exact kp),hD.l⟩,.c ⟨by simp only[bT];exact hi,by rw[hρ1];rfl⟩,λh=>by cases h⟩
         ·simp only[aP,cC,dP]
          omega
         rcases bB.1 hx with hx|hx
         ·exact q4 x (eG hx)
         exact hon x hx
       exact h.elim
      |true=>
      rw[b4] at h
      simp only[lM,cond_false] at h
      have b4':=bN b4
      have fin:∀(l r news:List CV) (m:Nat) (vals:List Value),li=l++r->n*te.size=l.length->Sc (λ_ _=>True) w te.size (ev f y) m vals->Hl ρ s.bl.length w news vals->(∀x∈vals,x.oneCell'=true)->n+m<=maxLen->(n+m)*te.by'<=140737488355328->(∀c∈l++news,nA i c=false)->
       (aAk i s λs'=>qE s'.bl i (Ti,te.size,l++news) λbl'=>k ⟨s'.sl,s'.gl,bl',s'.fl⟩ (.c (.s i (n+m))))->Hv false P f ⟨dst,.call ⟨.builtin .append,#[x,y],#[t,t]⟩,ty,pos,aft,gd⟩ ρ0 w0 nb w k:=by
       intro l r news m vals hlr c1 hsc hln hon c2 c3 c4 hk
       obtain⟨hi,hex⟩:=(cF hD.f fP hx).inv_c
       have hq:=hD.m.ok i _ _ li hbi
       have how:∃vl,Ow w 0 Ti te.size (ev f x) n vl/\Hl ρ s.bl.length w l vl/\(∀x∈vl,x.oneCell'=true)/\(ev f x).ownBlock=(ρ i).1:=by
        cases hρ:(ρ i).1 with
        |none=>
         unfold Bq at hq
         simp only[hρ] at hq
         obtain⟨q1,q2,q3⟩:=hq
         rw[hlr] at q1
         obtain rfl:l=[]:=(List.append_eq_nil_iff.1 q1).1
         rw[hρ,q2] at hex
         have hn0:n=0:=by
          rcases dB n with h|h
          ·exact h
          have:=mW h b3';simp at c1;omega
         subst hn0
         refine⟨[],?_,trivial,λx hx=>absurd hx fA,?_⟩
         ·rw[hex];exact Ow.nil 0 _
         rw[hex];rfl
        |some b=>
         obtain⟨vl,junk,q1,q2,q3,q4⟩:=hq.at hρ
         rw[hρ] at hex
         obtain⟨q5,q6⟩:=q3 b3'
         have hl:=q2.len
         have hll:l.length<=vl.length:=by rw[<-hl,hlr,aP];omega
         have q2':=q2.take l.length
         rw[hlr,List.take_left] at q2'
         refine⟨vl.take l.length,⟨by rw[cC];omega,.inr ⟨b,(ρ i).2,(vl++junk).toArray,hex,aF _,q1,?_,q6,by simpa using q5.symm,?_⟩⟩,q2',λx hx=>q4 x (eG hx),by rw[hex];rfl⟩
         ·rw[aP] at q5
          exact gD (c:=te.size) oM b3'
         simp only[List.toList_toArray]
         rw[fM oM,c1]
       obtain⟨vl,how,hli,hoi,hblk⟩:=how
       obtain⟨v,w',hr,ho',hg,hown⟩:=aJr (P:=P) (dst:=dst) (ty:=ty) (pos:=pos) (aft:=aft) (gd:=gd) hu hty hzs b3' rfl rfl how hsc hon c2 c3
       rw[hblk] at hg hown
       let ρ':Pl:=⟨λj=>if j=i then xV v else ρ j,ρ.Z,ρ.F⟩
       have hρi:ρ' i=xV v:=if_pos rfl
       have hρj:∀j,j≠i->ρ' j=ρ j:=λj hj=>if_neg hj
       have hp:∀b,(ρ' i).1=some b->(ρ i).1=some b\/b=w.heap.size:=λb hb=>by
        rw[hρi,aGi] at hb
        rcases hown with h|h
        ·rw[hb] at h;exact .inl h.symm
        rw[hb] at h;injection h with h;exact .inr h
       have kx:Kx i ρ s.bl.length w ρ' w':=⟨λj _ hj=>hρj j hj,λb hbz=>⟨⟨bH hbz.lt hg.size,λj hj=>?_,hbz.z,hbz.nf⟩,hg.block b hbz.lt λhe=>hbz.no i hi he.symm⟩,λj b hj hji hb=>hg.block b (hD.m.lt hj hb) λhe=>hji (hD.m.inj j i b hj hi hb he.symm)⟩
       ·obtain⟨sl',bl',k1,k2,⟨T3,e3,l3,k3,k4⟩,k5⟩:=aNa hk hD kx b4' hi (λb hb=>by
         rcases hp b hb with h|h
         ·exact hD.m.fr i b b4' hi h
         ·have:=hD.m.rel.size;omega) (λj b hj hji hb hb'=>by
         rcases hp b hb' with h|h
         ·exact hji (hD.m.inj j i b hj hi hb h)
         ·have:=hD.m.lt hj hb;omega) (λhR=>⟨hg.os.trans hR.os,hg.tape.trans hR.tape,hg.output.trans hR.output,bA hR.size hg.size,λq hq hn hf=>(hg.block q (bH hq hR.size) λhe=>by
          have:=hD.m.fr i q b4' hi he.symm
          omega).trans (hR.block q hq hn hf)⟩) rfl hD.l (hD.m.fam.kx kx rfl (λb hb=>hg.block b (hD.m.fam.lt hb) λhe=>hD.m.fam.own i b hi he.symm hb) λb hb hf=>by
         rcases hp b hb with h|h
         ·exact hD.m.fam.own i b hi h hf
         have:=hD.m.fam.lt hf;omega) hD.m.ffr
        obtain⟨hbq,hv⟩:=bLd (n:=s.bl.length) (l:=l++news) ho' hρi ((hli.append hln).kx kx c4) (λx hx=>by
         rcases bB.1 hx with h|h
         ·exact hoi x h
         exact hon x h) b3'
        refine⟨_,_,ρ',v,w',kL k1,hr,k5 _ _ _ hbq,.c ⟨?_,hv⟩,λh=>by cases h⟩
        simp only[bT,k2]
        exact hi
       by_cases hji:j=i
       ·subst hji
        intro he
        rcases hp b he with h|h
        ·exact hbz.no j hi h
        have:=hbz.lt;omega
       rw[hρj j hji];exact hbz.no j hj
      split at h
      ·obtain⟨m,news,c,⟨⟨hc,c1,c2,c3,c4⟩,hk⟩,hnews⟩:=wJ h hD.m (cF hD.f fP hy) b3'
       obtain⟨vals,hsc,hln,hon⟩:=hnews hc
       exact fin _ (li.drop (n*te.size)) news m vals (fG _ _).symm (by rw[cC];exact(fI c1).symm) hsc hln hon c2 c3 c4 hk
      obtain⟨m,news,c,⟨⟨hc,c1,c2,c3,c4⟩,hk⟩,hnews⟩:=wJ h hD.m (cF hD.f fP hy) b3'
      obtain⟨vals,hsc,hln,hon⟩:=hnews hc
      exact fin li [] news m vals (gB _).symm c1 hsc hln hon c2 c3 c4 hk
    exact h.elim
   ·next te dy hte hx hy=>
    have G:=hT e te hte
    obtain⟨zz,hty,hz⟩:=G.ty
    have hzs:zz.cells.size=te.size:=by rw[hz];simpa using G.zs
    cases hb:Nat.ble 1 te.size with
    |false=>simp only[hb,cond_false] at h
    |true=>
     simp only[hb,cond_true] at h
     have b3':=bN hb
     obtain⟨m,news,c,⟨⟨hc,c2,c3⟩,hk⟩,hnews⟩:=wJ h hD.m (cF hD.f fP hy) b3'
     obtain⟨vals,hsc,hln,hon⟩:=hnews hc
     have hex:ev f x= .slice none 0 0:=(cF hD.f fP hx).inv_c.inv_v
     obtain⟨v,w',hr,ho',hg,hown⟩:=aJr (P:=P) (dst:=dst) (ty:=ty) (pos:=pos) (aft:=aft) (gd:=gd) (n:=0) (l:=[]) hu hty hzs b3' hex rfl (Ow.nil 0 _) hsc hon oM (by simpa using c3)
     rw[fK,kC] at ho'
     have he:Ext w w':=⟨hg.os,hg.tape,hg.output,hg.size,λq hq=>hg.block q hq (by simp[Value.ownBlock])⟩
     obtain⟨sl,gl,bl,fl⟩:=s
     have hk':=oU (show uV bl (e,te.size,news) _ from hk)
     rw[zS] at hk'
     have hp:∀b',(xV v).1=some b'->w.heap.size<=b':=λb' hb'=>by
      rw[aGi] at hb'
      rcases hown with h|h
      ·rw[hb'] at h;simp[Value.ownBlock] at h
      rw[hb'] at h;injection h with h;omega
     have kp:Kp ρ bl.length w (xU ρ bl.length (xV v)) (bl.length+1) w':=Kp.new hp he
     have hn:(bl++[(e,te.size,news)]).length=bl.length+1:=by simp
     obtain⟨hbq,hv⟩:=bLd (ρ':=xU ρ bl.length (xV v)) (i:=bl.length) (n:=bl.length+1) (l:=news) ho' mA (hln.kp kp) hon b3'
     refine⟨_,_,xU ρ bl.length (xV v),v,w',hk',hr,⟨hD.m.new hp he hbq,hD.f.kp rfl rfl (by rw[hn];exact kp),hD.l⟩,.c ⟨?_,hv⟩,λh=>by cases h⟩
     show bl.length<(bl++[(e,te.size,news)]).length
     omega
   ·next te A n cc dy hte hx hy=>
    have G:=hT e te hte
    obtain⟨zz,hty,hz⟩:=G.ty
    have hzs:zz.cells.size=te.size:=by rw[hz];simpa using G.zs
    obtain⟨ff,j,h⟩:=h
    split at h
    ·next F hF=>
     cases hb:(Nat.beq F.T e&&(Nat.beq F.es te.size&&(Nat.ble 1 te.size&&Nat.ble F.T 999999))) with
     |false=>simp only[hb,cond_false] at h
     |true=>
      simp only[hb,cond_true] at h
      simp only[aQ] at hb
      obtain⟨b1,b2,b3,b4⟩:=hb
      have b1':=aO b1
      have b2':=aO b2
      have b3':=bN b3
      subst b1'
      obtain⟨m,news,c,⟨⟨hc,hj,hA,hcp,c1,c2,c3,c4⟩,hk⟩,hnews⟩:=wJ h hD.m (cF hD.f fP hy) b3'
      obtain⟨vals,hsc,hln,hon⟩:=hnews hc
      have hex:=(cF hD.f fP hx).inv_c.inv_h
      have hmq:=hD.m.fam.mem hD.l hF hj
      have how:∃vl,Ow w 0 F.T te.size (ev f x) n vl/\vl.length=(F.get j).length/\(∀(i:Nat) (c:CV) (y:Value),(F.get j)[i]? =some c->vl[i]? =some y->Rc (Zf ρ s.bl.length w) w c y)/\(∀x∈vl,x.oneCell'=true)/\(ev f x).ownBlock=F.A j:=by
       subst hA
       cases hAj:F.A j with
       |none=>
        unfold Mq at hmq
        simp only[hAj] at hmq
        obtain⟨q1,q2⟩:=hmq
        rw[q1] at c1
        have hn0:n=0:=by
         rcases dB n with h|h
         ·exact h
         have:=mW h b3';simp at c1;omega
        subst hn0
        rw[hAj,<-hcp,q2] at hex
        refine⟨[],?_,(by rw[q1];rfl),(λi c y hc hy=>by cases hy),(λx hx=>absurd hx fA),?_⟩
        ·rw[hex];exact Ow.nil 0 _
        rw[hex];rfl
       |some b=>
        obtain⟨vl,junk,q1,q2,q3,q4,q5,q6⟩:=hmq.at hAj b4
        rw[hAj,<-hcp] at hex
        rw[b2'] at q4
        refine⟨vl,⟨by rw[q2];exact c1.symm,.inr ⟨b,F.cap j,(vl++junk).toArray,hex,aF _,q1,?_,q5,by simpa using q4.symm,?_⟩⟩,q2,q3,q6,by rw[hex];rfl⟩
        ·rw[aP] at q4
         exact gD (c:=te.size) oM b3'
        simp only[List.toList_toArray]
        rw[fM oM,bU oM]
      obtain⟨vl,how,hvl,hrc,hoi,hblk⟩:=how
      obtain⟨v,w',hr,ho',hg,hown⟩:=aJr (P:=P) (dst:=dst) (ty:=ty) (pos:=pos) (aft:=aft) (gd:=gd) hu hty hzs b3' rfl rfl how hsc hon c2 c3
      rw[hblk] at hg hown
      have hk':=kL (hk (xV v).1 (xV v).2)
      obtain⟨k1,k2⟩:=hD.m.fset hD.l hF hj (F':=⟨F.T,F.es,F.N,upd F.A j (xV v).1,upd F.cap j (xV v).2,upd F.get j (F.get j++news)⟩) rfl rfl rfl (λi hi=>cJ hi) (λi hi=>cJ hi) (λi hi=>cJ hi) (w':=w') ⟨hg.os,hg.tape,hg.output,hg.size,λb hb hne=>hg.block b hb (λe=>hne e.symm)⟩ (λb hb=>by
       have hb':(xV v).1=some b:=by rw[<-hb];exact cN.symm
       rw[aGi] at hb'
       rcases hown with h|h
       ·rw[hb'] at h;exact .inl h.symm
       ·rw[hb'] at h;injection h with h;exact .inr oM) (λhzz=>by
       unfold Mq
       simp only[cN]
       obtain⟨hlen2,hcase⟩:=ho'
       rcases hcase with ⟨rfl,h0⟩|⟨g,cap,cur,rfl,_,hh,hnc,hm,hs,ht⟩
       ·have e0:xV (.slice none 0 0)=(none,0):=rfl
        simp only[e0]
        have hv0:vl++vals=[]:=bX (by rw[hlen2,h0];simp)
        have hv1:=hln.len
        have h2:=List.append_eq_nil_iff.1 hv0
        have h3:(F.get j)=[]:=bX (by rw[<-hvl,h2.1];rfl)
        have h4:news=[]:=bX (by rw[hv1,h2.2];rfl)
        exact⟨by rw[h3,h4];rfl,trivial⟩
       have e0:xV (.slice (some ⟨g,0,none⟩) (n+m) cap)=(some g,cap):=rfl
       simp only[e0,b4,cond_true]
       refine⟨vl++vals,cur.toList.drop ((n+m)*te.size),?_,?_,λi c y hc hy=>?_,?_,hm,λx hx=>?_⟩
       ·rw[hh,<-ht,fG,hJ]
       ·rw[aP,aP,hvl,hln.len]
       ·rw[List.getElem?_append] at hc hy
        rw[hvl] at hy
        split at hc
        ·next hlt=>
         rw[if_pos hlt] at hy
         exact(hrc i c y hc hy).mono hzz
        next hlt=>
        rw[if_neg hlt] at hy
        obtain⟨y',a1,a2⟩:=hln.get hc
        rw[hy] at a1
        injection a1 with a1
        subst a1
        have hcc:=c4 c (aX hc)
        refine Rc.mono ?_ hzz
        cases c with
        |u=>exact a2
        |v y=>exact a2
        |h A n c=>exact a2
        |hp b o=>exact a2
        |b p q=>exact a2
        |r A m c e get=>exact a2
        |p i o=>cases hcc
        |s i m=>cases hcc
        |q A m c e get j o=>cases hcc
        |t i o m=>cases hcc
        |f k fi ca=>cases hcc
       ·rw[<-ht,fG,b2',<-hs]
        simp
       rcases bB.1 hx with h|h
       ·exact hoi x h
       exact hon x h)
      refine⟨_,_,_,v,w',hk',hr,⟨k1,hD.f.kp rfl rfl k2,rfl⟩,.c ?_,λh=>by cases h⟩
      have hv:v= .slice ((xV v).1.map λb=>⟨b,0,none⟩) (n+m) (xV v).2:=by
       obtain⟨hlen2,hcase⟩:=ho'
       rcases hcase with ⟨rfl,h0⟩|⟨g,cap,cur,rfl,_⟩
       ·rw[h0];rfl
       rfl
      exact(congrArg (Hc _ _ _ _) hv).mpr (Rc.h _ _ _)
    exact h.elim
   exact h.elim
  exact h.elim
 exact h.elim
end
abbrev BL:=List (TypeId×Nat×List CV)
structure Out where
 d:DV
 bl:BL
 C:Prop:=True
def ClB (cl:List Bool) (bl:BL):Prop:=∀(i:Nat) (T:TypeId) (es:Nat) (l:List CV),bl[i]? =some (T,es,l)->cl[i]? =some true->∀c∈l,iP c=true
def HL (ρ:Pl) (n:Nat) (w:World):List DV->List Value->Prop
 |[],[]=>True
 |d::l,x::m=>Hd ρ n w d x/\HL ρ n w l m
 |_,_=>False
structure OutF where
 d:DV
 bl:BL
 fl:List Fam
 C:Prop
abbrev Out.F (o:Out):OutF:=⟨o.d,o.bl,[],o.C⟩
structure CtrF (P:Program) (q:FuncId) (cl:List Bool) (al:List DV) (bl:BL) (fl:List Fam) {σ:Type} (R:σ->OutF):Prop where
 ent:Ent P q
 clb:ClB cl bl
 run:∀(ρ:Pl) (w:World) (vals:List Value),HL ρ bl.length w al vals->DnW ρ w bl.length bl ρ w->ρ.F=fl->
  Calls P q vals.toArray w λe w'=>∃v,e= .returned v/\∃g ρ',(R g).C/\DnW ρ w bl.length (R g).bl ρ' w'/\Hd ρ' (R g).bl.length w' (R g).d v/\ClB cl (R g).bl/\ρ'.F=(R g).fl
abbrev Ctr (P:Program) (q:FuncId) (cl:List Bool) (al:List DV) (bl:BL) {σ:Type} (R:σ->Out):Prop:=CtrF P q cl al bl [] λg=>(R g).F
/-! ### renaming: the called function counts its blocks anew -/
def bad:CV:=.q none 0 0 0 (λ_=>[]) 0 0
def aGj (m:List Nat):List (Nat×Nat)->Option (List (Nat×Nat))
 |[]=>some []
 |(j,o)::l=>match m[j]?,aGj m l with
  |some i,some r=>some ((i,o)::r)
  |_,_=>none
def sN (m:List Nat):CV->CV
 |.p j o=>match m[j]? with
  |some i=> .p i o
  |none=>bad
 |.s j n=>match m[j]? with
  |some i=> .s i n
  |none=>bad
 |.t j o n=>match m[j]? with
  |some i=> .t i o n
  |none=>bad
 |.f k fi ca=>match aGj m fi,aGj m ca with
  |some a,some b=> .f k a b
  |_,_=>bad
 |c=>c
def xW (m:List Nat):DV->DV
 |.c c=> .c (sN m c)
 |.a l=> .a (l.map (sN m))
 |.t l=> .t (renT m l)
where renT (m:List Nat):List DV->List DV
 |[]=>[]
 |d::l=>xW m d::renT m l
def bNr (m:List Nat):DV->DV
 |.c c=> .c (sN m c)
 |.a l=> .a (l.map (sN m))
 |.t _=> .c bad
def aPf (c:Option Bool) (m:List Nat) (l:List CV):List CV:=match c with
 |some true=>l
 |_=>l.map (sN m)
section ren
variable {ρ ρ':Pl} {n n':Nat} {w:World} {m:List Nat}
structure Rn (m:List Nat) (ρ:Pl) (n:Nat) (ρ':Pl) (n':Nat) (w:World):Prop where
 lt:∀j i,m[j]? =some i->i<n->j<n'
 pl:∀j i,m[j]? =some i->ρ' j=ρ i
 z:∀b,Zf ρ n w b->Zf ρ' n' w b
theorem aJt (h:Rn m ρ n ρ' n' w):∀{l r:List (Nat×Nat)},aGj m l=some r->(∀p∈r,p.1<n/\(ρ p.1).1≠none)->(∀p∈l,p.1<n'/\(ρ' p.1).1≠none)/\r.map (ptr ρ)=l.map (ptr ρ')
 |[],r,hr,_=>by injection hr with hr;subst hr;exact⟨λp hp=>absurd hp fA,rfl⟩
 |(j,o)::l,r,hr,hl=>by
  unfold aGj at hr
  split at hr
  ·next i r' hi hr'=>
   injection hr with hr
   subst hr
   obtain⟨h1,h2⟩:=aJt h hr' λp hp=>hl p (.tail _ hp)
   refine⟨λp hp=>?_,by rw[eT,eT,h2];simp only[ptr,h.pl j i hi]⟩
   rcases bJ.1 hp with rfl|hp
   ·exact⟨h.lt j i hi (hl _ (.head _)).1,by rw[h.pl j i hi];exact(hl _ (.head _)).2⟩
   exact h1 p hp
  cases hr
theorem aGk {x:Value} (h:Hc ρ n w bad x):False:=absurd h.2.1 (aV _)
theorem Hc.ren (h:Rn m ρ n ρ' n' w) {c:CV} {x:Value} (hc:Hc ρ n w (sN m c) x):Hc ρ' n' w c x:=by
 cases c with
 |p j o=>
  simp only[sN] at hc
  split at hc
  ·next i hi=>obtain⟨h1,b,h2,h3⟩:=hc;exact⟨h.lt j i hi h1,b,by rw[h.pl j i hi];exact h2,h3⟩
  exact(aGk hc).elim
 |s j k=>
  simp only[sN] at hc
  split at hc
  ·next i hi=>obtain⟨h1,h2⟩:=hc;exact⟨h.lt j i hi h1,by rw[h.pl j i hi];exact h2⟩
  exact(aGk hc).elim
 |t j o k=>
  simp only[sN] at hc
  split at hc
  ·next i hi=>obtain⟨h1,h2⟩:=hc;exact⟨h.lt j i hi h1,by rw[h.pl j i hi];exact h2⟩
  exact(aGk hc).elim
 |f k fi ca=>
  simp only[sN] at hc
  split at hc
  ·next a b ha hb=>
   obtain⟨h1,h2⟩:=hc
   obtain⟨a1,a2⟩:=aJt h ha λp hp=>h1 p (dS _ hp)
   obtain⟨b1,b2⟩:=aJt h hb λp hp=>h1 p (eJ _ hp)
   refine⟨λp hp=>?_,by rw[h2,a2,b2]⟩
   rcases bB.1 hp with hp|hp
   ·exact a1 p hp
   exact b1 p hp
  exact(aGk hc).elim
 |q A k c esz get j o=>obtain⟨h1,h2⟩:=hc;exact⟨h1.mono λb hb=>⟨h.z b hb,rfl⟩,h2⟩
 |u=>exact Rc.mono hc λb hb=>⟨h.z b hb,rfl⟩
 |v x=>exact Rc.mono hc λb hb=>⟨h.z b hb,rfl⟩
 |h A n c=>exact Rc.mono hc λb hb=>⟨h.z b hb,rfl⟩
 |hp b o=>exact Rc.mono hc λb hb=>⟨h.z b hb,rfl⟩
 |b p q=>exact Rc.mono hc λb hb=>⟨h.z b hb,rfl⟩
 |r A k c esz get=>exact Rc.mono hc λb hb=>⟨h.z b hb,rfl⟩
theorem Hl.ren (h:Rn m ρ n ρ' n' w) {l:List CV} {vl:List Value} (hl:Hl ρ n w (l.map (sN m)) vl):Hl ρ' n' w l vl:=by
 induction l generalizing vl with
 |nil=>cases vl with
  |nil=>trivial
  |cons x vl=>exact hl
 |cons c l ih=>cases vl with
  |nil=>exact hl
  |cons x vl=>exact⟨hl.1.ren h,ih hl.2⟩
theorem aNb:∀(l:List DV),(xW.renT m l).length=l.length
 |[]=>rfl
 |d::l=>by simp[xW.renT,aNb l]
theorem Hd.ren (h:Rn m ρ n ρ' n' w) {d:DV} {x:Value} (hd:Hd ρ n w (bNr m d) x):Hd ρ' n' w d x:=by
 cases d with
 |c cc=>exact .c (hd.inv_c.ren h)
 |a l=>
  obtain⟨vl,rfl,hl⟩:=hd.inv_a
  exact .a (hl.ren h)
 |t l=>exact(aGk hd.inv_c).elim
theorem HL.ren (h:Rn m ρ n ρ' n' w):∀{l:List DV} {vl:List Value},HL ρ n w (l.map (bNr m)) vl->HL ρ' n' w l vl
 |[],[],_=>trivial
 |[],_::_,hl=>hl
 |_::_,[],hl=>hl
 |d::l,x::vl,hl=>⟨hl.1.ren h,HL.ren h hl.2⟩
theorem Hc.clo {ρ ρ':Pl} {n n':Nat} {w:World} {c:CV} {x:Value} (h:Hc ρ n w c x) (hc:iP c=true) (hz:∀b,Zf ρ n w b->Zf ρ' n' w b):Hc ρ' n' w c x:=by
 cases c with
 |u=>exact Rc.mono h λb hb=>⟨hz b hb,rfl⟩
 |v x=>exact Rc.mono h λb hb=>⟨hz b hb,rfl⟩
 |h A n c=>exact Rc.mono h λb hb=>⟨hz b hb,rfl⟩
 |hp b o=>exact Rc.mono h λb hb=>⟨hz b hb,rfl⟩
 |b p q=>exact Rc.mono h λb hb=>⟨hz b hb,rfl⟩
 |r A k c esz get=>exact Rc.mono h λb hb=>⟨hz b hb,rfl⟩
 |p i o=>cases hc
 |s i k=>cases hc
 |q A k c esz get j o=>cases hc
 |t i o k=>cases hc
 |f k fi ca=>cases hc
theorem Hl.clo {ρ ρ':Pl} {n n':Nat} {w:World} {l:List CV} {vl:List Value} (h:Hl ρ n w l vl) (hc:∀c∈l,iP c=true) (hz:∀b,Zf ρ n w b->Zf ρ' n' w b):Hl ρ' n' w l vl:=by
 induction l generalizing vl with
 |nil=>cases vl with
  |nil=>trivial
  |cons x vl=>exact h
 |cons c l ih=>cases vl with
  |nil=>exact h
  |cons x vl=>exact⟨h.1.clo (hc c (.head _)) hz,ih h.2 λc h=>hc c (.tail _ h)⟩
end ren
/-! ### the other way: m is one to one -/
section back
variable {ρ ρ':Pl} {n n':Nat} {w:World} {m:List Nat}
structure Bn (m:List Nat) (ρ:Pl) (n:Nat) (ρ':Pl) (n':Nat) (w:World):Prop where
 get:∀j,j<n'->∃i,m[j]? =some i/\i<n/\ρ' j=ρ i
 z:∀b,Zf ρ' n' w b->Zf ρ n w b
theorem aDf (h:Bn m ρ n ρ' n' w):∀{l:List (Nat×Nat)},(∀p∈l,p.1<n'/\(ρ' p.1).1≠none)->∃r,aGj m l=some r/\(∀p∈r,p.1<n/\(ρ p.1).1≠none)/\l.map (ptr ρ')=r.map (ptr ρ)
 |[],_=>⟨[],rfl,λp hp=>absurd hp fA,rfl⟩
 |(j,o)::l,hl=>by
  obtain⟨r,h1,h2,h3⟩:=aDf h λp hp=>hl p (.tail _ hp)
  obtain⟨i,a1,a2,a3⟩:=h.get j (hl _ (.head _)).1
  refine⟨(i,o)::r,by simp only[aGj,a1,h1],λp hp=>?_,by rw[eT,eT,h3];simp only[ptr,a3]⟩
  rcases bJ.1 hp with rfl|hp
  ·exact⟨a2,by rw[<-a3];exact(hl _ (.head _)).2⟩
  exact h2 p hp
theorem Hc.back (h:Bn m ρ n ρ' n' w) {c:CV} {x:Value} (hc:Hc ρ' n' w c x):Hc ρ n w (sN m c) x:=by
 cases c with
 |p j o=>
  obtain⟨h1,b,h2,h3⟩:=hc
  obtain⟨i,a1,a2,a3⟩:=h.get j h1
  simp only[sN,a1]
  exact⟨a2,b,by rw[<-a3];exact h2,h3⟩
 |s j k=>
  obtain⟨h1,h2⟩:=hc
  obtain⟨i,a1,a2,a3⟩:=h.get j h1
  simp only[sN,a1]
  exact⟨a2,by rw[<-a3];exact h2⟩
 |t j o k=>
  obtain⟨h1,h2⟩:=hc
  obtain⟨i,a1,a2,a3⟩:=h.get j h1
  simp only[sN,a1]
  exact⟨a2,by rw[<-a3];exact h2⟩
 |f k fi ca=>
  obtain⟨h1,h2⟩:=hc
  obtain⟨a,a1,a2,a3⟩:=aDf h (l:=fi) λp hp=>h1 p (dS _ hp)
  obtain⟨b,b1,b2,b3⟩:=aDf h (l:=ca) λp hp=>h1 p (eJ _ hp)
  simp only[sN,a1,b1]
  refine⟨λp hp=>?_,by rw[h2,a3,b3]⟩
  rcases bB.1 hp with hp|hp
  ·exact a2 p hp
  exact b2 p hp
 |q A k c esz get j o=>obtain⟨h1,h2⟩:=hc;exact⟨h1.mono λb hb=>⟨h.z b hb,rfl⟩,h2⟩
 |u=>exact Rc.mono hc λb hb=>⟨h.z b hb,rfl⟩
 |v x=>exact Rc.mono hc λb hb=>⟨h.z b hb,rfl⟩
 |h A n c=>exact Rc.mono hc λb hb=>⟨h.z b hb,rfl⟩
 |hp b o=>exact Rc.mono hc λb hb=>⟨h.z b hb,rfl⟩
 |b p q=>exact Rc.mono hc λb hb=>⟨h.z b hb,rfl⟩
 |r A k c esz get=>exact Rc.mono hc λb hb=>⟨h.z b hb,rfl⟩
theorem Hl.back (h:Bn m ρ n ρ' n' w) {l:List CV} {vl:List Value} (hl:Hl ρ' n' w l vl):Hl ρ n w (l.map (sN m)) vl:=by
 induction l generalizing vl with
 |nil=>cases vl with
  |nil=>trivial
  |cons x vl=>exact hl
 |cons c l ih=>cases vl with
  |nil=>exact hl
  |cons x vl=>exact⟨hl.1.back h,ih hl.2⟩
theorem aNc:∀(l:List DV) (i:Nat) (d:DV),(xW.renT m l)[i]? =some d->∃d',l[i]? =some d'/\d=xW m d'
 |[],i,d,h=>by cases h
 |a::l,0,d,h=>by simp[xW.renT] at h;exact⟨a,rfl,h.symm⟩
 |a::l,i+1,d,h=>by
  obtain⟨d',h1,h2⟩:=aNc l i d (by simpa[xW.renT] using h)
  exact⟨d',by simpa using h1,h2⟩
theorem Hd.back (h:Bn m ρ n ρ' n' w) {d:DV} {x:Value} (hd:Hd ρ' n' w d x):Hd ρ n w (xW m d) x:=by
 induction hd with
 |c h0=>simp only[xW];exact .c (h0.back h)
 |a h0=>simp only[xW];exact .a (h0.back h)
 |t h0 hh ih=>
  simp only[xW]
  refine .t (by rw[aNb];exact h0) λi d u hi hu=>?_
  obtain⟨d',h1,rfl⟩:=aNc _ i d hi
  exact ih i d' u h1 hu
end back
end Go.Vy
