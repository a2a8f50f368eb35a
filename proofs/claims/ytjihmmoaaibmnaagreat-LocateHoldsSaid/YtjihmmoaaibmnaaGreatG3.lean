/- Parts of the proof: walks and plain facts. Conditions: as each theorem states. -/
import Derived.Test.YtjihmmoaaibmnaaGreatG2
namespace Go.Proofs.YtjihmmoaaibmnaaGreat
set_option linter.unusedSimpArgs false
set_option linter.unusedVariables false
open Go.RowKit Go.Proofs.Tryz
def lnP (x y:Int):Bool:=br x 2097152&&br y 2097152
def lnR (x0 y0 x1 y1:Int):Bool:=decide (-2097152<=x0)&&(decide (x0<=x1)&&(decide (x1<=2097152)&&(decide (-2097152<=y0)&&(decide (y0<=y1)&&decide (y1<=2097152)))))
theorem cO {x y:Int}:lnP x y=true↔(-2097152<=x/\x<=2097152) /\ -2097152<=y/\y<=2097152:=by unfold lnP;rw[Bool.and_eq_true,aL,aL]
theorem bZ {x0 y0 x1 y1:Int}:lnR x0 y0 x1 y1=true↔(-2097152<=x0/\x0<=x1/\x1<=2097152) /\ -2097152<=y0/\y0<=y1/\y1<=2097152:=by
 unfold lnR;simp only[Bool.and_eq_true,decide_eq_true_eq];omega
def d5 (x lo hi:Int):Int:=if (if (lo-x)<(x-hi) then (x-hi) else (lo-x))<0 then 0 else (if (lo-x)<(x-hi) then (x-hi) else (lo-x))
def gapI (px py x0 y0 x1 y1:Int):Int:=if (lnP px py&&lnR x0 y0 x1 y1)=true then d5 px x0 x1*d5 px x0 x1+d5 py y0 y1*d5 py y0 y1 else 0
def af (n lo hi:Int):Int:=if lo<(if hi<n then hi else n) then (if hi<n then hi else n) else lo
def ew (px py qx qy rx ry:Int):Int:=if (lnP px py&&(lnP qx qy&&lnP rx ry))=true then af ((qx-px)*(ry-py)-(qy-py)*(rx-px)) (-1) 1 else 0
def inB4 (px py x0 y0 x1 y1:Int):Bool:=decide (x0<=px)&&(decide (px<=x1)&&(decide (y0<=py)&&decide (py<=y1)))
def cW (px py qx qy ax ay bx by_:Int):Bool:=(lnP px py&&(lnP qx qy&&(lnP ax ay&&lnP bx by_)))&&(!decide ((if px<qx then qx else px)<(if bx<ax then bx else ax))&&(!decide ((if ax<bx then bx else ax)<(if qx<px then qx else px))&&(!decide ((if py<qy then qy else py)<(if by_<ay then by_ else ay))&&(!decide ((if ay<by_ then by_ else ay)<(if qy<py then qy else py))&&(decide (ew px py qx qy ax ay*ew px py qx qy bx by_<=0)&&decide (ew ax ay bx by_ px py*ew ax ay bx by_ qx qy<=0))))))
def d6 (cx cy px py qx qy:Int):Bool:=br (cx-px) 3000&&(br (cy-py) 3000&&(if (qx-px)*(cx-px)+(qy-py)*(cy-py)<=0 then decide ((cx-px)*(cx-px)+(cy-py)*(cy-py)<=400)
 else if (qx-px)*(qx-px)+(qy-py)*(qy-py)<=(qx-px)*(cx-px)+(qy-py)*(cy-py) then decide ((cx-qx)*(cx-qx)+(cy-qy)*(cy-qy)<=400)
 else decide (((qx-px)*(cy-py)-(qy-py)*(cx-px))*((qx-px)*(cy-py)-(qy-py)*(cx-px))<=400*((qx-px)*(qx-px)+(qy-py)*(qy-py)))))
def cnX (x0 x1:Int):Nat->Int
 |0=>x0
 |1=>x1
 |2=>x1
 |_=>x0
def cnY (y0 y1:Int):Nat->Int
 |0=>y0
 |1=>y0
 |2=>y1
 |3=>y1
 |_=>y0
def tcN (px py qx qy x0 y0 x1 y1:Int) (j:Nat):Bool:=cW px py qx qy (cnX x0 x1 j) (cnY y0 y1 j) (cnX x0 x1 (j+1)) (cnY y0 y1 (j+1))||d6 (cnX x0 x1 j) (cnY y0 y1 j) px py qx qy
def eC (px py qx qy x0 y0 x1 y1:Int):Bool:=lnP px py&&(lnP qx qy&&(lnR x0 y0 x1 y1&&(br (px-qx) 1024&&br (py-qy) 1024)))
def bj (px py qx qy x0 y0 x1 y1:Int):Bool:=eC px py qx qy x0 y0 x1 y1&&(inB4 px py x0 y0 x1 y1||(decide (gapI px py x0 y0 x1 y1<=400)||(decide (gapI qx qy x0 y0 x1 y1<=400)||(List.range 4).any (tcN px py qx qy x0 y0 x1 y1))))
theorem fV {px py qx qy x0 y0 x1 y1:Int}(h:eC px py qx qy x0 y0 x1 y1=true){j:Nat}(hj:j<4)(ht:tcN px py qx qy x0 y0 x1 y1 j=true):bj px py qx qy x0 y0 x1 y1=true:=by
 unfold bj
 rw[h,List.any_eq_true.2 ⟨j,List.mem_range.2 hj,ht⟩];simp
theorem touchB_f {px py qx qy x0 y0 x1 y1:Int}(h1:inB4 px py x0 y0 x1 y1=false)(h2:¬gapI px py x0 y0 x1 y1<=400)(h3:¬gapI qx qy x0 y0 x1 y1<=400)(h4:∀j:Nat,j<4->tcN px py qx qy x0 y0 x1 y1 j=false):bj px py qx qy x0 y0 x1 y1=false:=by
 unfold bj
 have e:(List.range 4).any (tcN px py qx qy x0 y0 x1 y1)=false:=List.any_eq_false.2 fun j hj=>by rw[h4 j (List.mem_range.1 hj)];decide
 rw[h1,decide_eq_false h2,decide_eq_false h3,e];simp
theorem off_nn (x lo hi:Int):0<=d5 x lo hi:=by unfold d5;split<;>split<;>omega
set_option maxHeartbeats 800000
set_option maxHeartbeats 4000000
set_option maxRecDepth 100000
theorem clg_r (n lo hi:Int):(if lo<(if hi<n then hi else n) then (if hi<n then hi else n) else lo)=af n lo hi:=rfl
theorem iu (H:aa)(n lo hi:Int):zC 111 [iV n,iV lo,iV hi] H (iV (af n lo hi)) H:=by
 have hcl:=clg_r n lo hi
 refine AcT true func111 ?_;intro hbel Q hQ
 have G1:=@hcl
 exact eS G1 hQ hbel (iV (af n lo hi)) results111 ⟨rfl,rfl⟩
theorem iv (H:aa)(x m:Int)(h:0<=m/\m<=4611686018427387904):zC 105 [iV x,iV m] H (.bool (br x m)) H:=by
 refine AcT true func105 ?_;intro hbel Q hQ
 refine aB ?_
 refine aV (fun h1=>?_) (fun h1=>?_)
 ·have h1d:=bsT h1
  have G2:=jn h1 @h1d
  exact eS G2 hQ hbel (.bool (decide (x<=m))) results105 ⟨by (simp[br,h1d];omega),rfl⟩
 have h1d:=bsT h1
 have G3:=jn h1 @h1d
 exact eS G3 hQ hbel (.bool false) results105 ⟨by (simp[br,h1d];omega),rfl⟩
theorem fW (H:aa)(x y:Int):zC 205 [.agg [iV x,iV y]] H (.bool (lnP x y)) H:=by
 refine AcT true func205 ?_;intro hbel Q hQ
 refine aB ?_
 refine cv (fe _ _ _ (by decide)) ?_
 refine aB ?_
 refine aV (fun h1=>?_) (fun h1=>?_)
 ·have h1d:=bsT h1
  have G4:=jn h1 @h1d
  refine ae G4 ?_
  refine cvr G4 (fe _ _ _ (by decide)) ?_
  exact eP hQ hbel (.bool (br y 2097152)) results205 ⟨by simp[lnP,h1d],rfl⟩
 have h1d:=bsT h1
 have G5:=jn h1 @h1d
 exact eR G5 hQ hbel (.bool false) results205 ⟨by simp[lnP,h1d],rfl⟩
theorem r5rc_c (H:aa)(x0 y0 x1 y1:Int):zC 206 [.agg [iV x0,iV y0,iV x1,iV y1]] H (.bool (lnR x0 y0 x1 y1)) H:=by
 refine AcT true func206 ?_;intro hbel Q hQ
 refine aB ?_
 refine aV (fun h1=>?_) (fun h1=>?_)
 ·have h1d:=bsT h1
  have G6:=jn h1 @h1d
  refine rgs G6 (fun h2 h2d G7=>?_) (fun h2 h2d G14=>?_)
  ·refine rgs G7 (fun h3 h3d G8=>?_) (fun h3 h3d G13=>?_)
   ·refine rgs G8 (fun h4 h4d G9=>?_) (fun h4 h4d G12=>?_)
    ·refine rgs G9 (fun h5 h5d G10=>?_) (fun h5 h5d G11=>?_)
     ·exact eR G10 hQ hbel (.bool (decide (y1<=2097152))) results206 ⟨by simp[lnR,h1d,h2d,h3d,h4d,h5d],rfl⟩
     exact eR G11 hQ hbel (.bool false) results206 ⟨by simp[lnR,h1d,h2d,h3d,h4d,h5d],rfl⟩
    exact eR G12 hQ hbel (.bool false) results206 ⟨by simp[lnR,h1d,h2d,h3d,h4d],rfl⟩
   exact eR G13 hQ hbel (.bool false) results206 ⟨by simp[lnR,h1d,h2d,h3d],rfl⟩
  exact eR G14 hQ hbel (.bool false) results206 ⟨by simp[lnR,h1d,h2d],rfl⟩
 have h1d:=bsT h1
 have G15:=jn h1 @h1d
 exact eR G15 hQ hbel (.bool false) results206 ⟨by simp[lnR,h1d],rfl⟩
theorem r5in_c (H:aa)(px py x0 y0 x1 y1:Int):zC 207 [.agg [iV px,iV py],.agg [iV x0,iV y0,iV x1,iV y1]] H (.bool (inB4 px py x0 y0 x1 y1)) H:=by
 refine AcT true func207 ?_;intro hbel Q hQ
 refine aB ?_
 refine aV (fun h1=>?_) (fun h1=>?_)
 ·have h1d:=bsT h1
  have G16:=jn h1 @h1d
  refine rgs G16 (fun h2 h2d G17=>?_) (fun h2 h2d G20=>?_)
  ·refine rgs G17 (fun h3 h3d G18=>?_) (fun h3 h3d G19=>?_)
   ·exact eR G18 hQ hbel (.bool (decide (py<=y1))) results207 ⟨by simp[inB4,h1d,h2d,h3d],rfl⟩
   exact eR G19 hQ hbel (.bool false) results207 ⟨by simp[inB4,h1d,h2d,h3d],rfl⟩
  exact eR G20 hQ hbel (.bool false) results207 ⟨by simp[inB4,h1d,h2d],rfl⟩
 have h1d:=bsT h1
 have G21:=jn h1 @h1d
 exact eR G21 hQ hbel (.bool false) results207 ⟨by simp[inB4,h1d],rfl⟩
theorem r5off_c (H:aa)(x lo hi:Int)(kx : -4194304<=x/\x<=4194304)(klo : -4194304<=lo/\lo<=4194304)(khi : -4194304<=hi/\hi<=4194304):zC 250 [iV x,iV lo,iV hi] H (iV (d5 x lo hi)) H:=by
 refine AcT true func250 ?_;intro hbel Q hQ
 refine aB ?_
 exact eQ hQ hbel (iV (if (if (lo-x)<(x-hi) then (x-hi) else (lo-x))<0 then 0 else (if (lo-x)<(x-hi) then (x-hi) else (lo-x)))) results250 ⟨rfl,rfl⟩
theorem r5gap_c (H:aa)(px py x0 y0 x1 y1:Int):zC 208 [.agg [iV px,iV py],.agg [iV x0,iV y0,iV x1,iV y1]] H (iV (gapI px py x0 y0 x1 y1)) H:=by
 refine AcT true func208 ?_;intro hbel Q hQ
 refine aB ?_
 refine cv (fW _ _ _) ?_
 refine aB ?_
 refine aV (fun h1=>?_) (fun h1=>?_)
 ·have h1d:=bsT h1
  have hvp:=cO.1 h1d
  have G22:=jn h1 @h1d
  refine ae G22 ?_
  refine cv (r5rc_c _ _ _ _ _) ?_
  refine rcs G22 (fun h2 h2d G23=>?_) (fun h2 h2d G24=>?_)
  ·exact eR G23 hQ hbel (iV 0) results208 ⟨by simp[gapI,h1d,h2d],rfl⟩
  have hvr:=bZ.1 h2d
  have ho1:0<=d5 px x0 x1/\d5 px x0 x1<=4194304:=⟨off_nn _ _ _,by unfold d5;split<;>split<;>omega⟩
  have ho2:0<=d5 py y0 y1/\d5 py y0 y1<=4194304:=⟨off_nn _ _ _,by unfold d5;split<;>split<;>omega⟩
  have hm1:=aH (a:=d5 px x0 x1) (b:=d5 px x0 x1) (A:=4194304) (B:=4194304) (by omega) (by omega)
  have hm2:=aH (a:=d5 py y0 y1) (b:=d5 py y0 y1) (A:=4194304) (B:=4194304) (by omega) (by omega)
  refine ae G24 ?_
  refine cvr G24 (r5off_c _ _ _ _ (by omega) (by omega) (by omega)) ?_
  refine cvr G24 (r5off_c _ _ _ _ (by omega) (by omega) (by omega)) ?_
  exact eP hQ hbel (iV (((d5 px x0 x1)*(d5 px x0 x1))+((d5 py y0 y1)*(d5 py y0 y1)))) results208 ⟨by simp[gapI,h1d,h2d],rfl⟩
 have h1d:=bsT h1
 have G25:=jn h1 @h1d
 exact eR G25 hQ hbel (iV 0) results208 ⟨by simp[gapI,h1d],rfl⟩
theorem kN (H:aa)(px py qx qy rx ry:Int):zC 251 [.agg [iV px,iV py],.agg [iV qx,iV qy],.agg [iV rx,iV ry]] H (iV (ew px py qx qy rx ry)) H:=by
 refine AcT true func251 ?_;intro hbel Q hQ
 refine aB ?_
 refine cv (fW _ _ _) ?_
 refine aB ?_
 refine aV (fun h1=>?_) (fun h1=>?_)
 ·have h1d:=bsT h1
  have hvp:=cO.1 h1d
  have G26:=jn h1 @h1d
  refine ae G26 ?_
  refine cv (fW _ _ _) ?_
  refine rgs G26 (fun h2 h2d G27=>?_) (fun h2 h2d G30=>?_)
  ·have hvq:=cO.1 h2d
   refine ae G27 ?_
   refine cv (fW _ _ _) ?_
   refine rcs G27 (fun h3 h3d G28=>?_) (fun h3 h3d G29=>?_)
   ·exact eR G28 hQ hbel (iV 0) results251 ⟨by simp[ew,h1d,h2d,h3d],rfl⟩
   have hvr:=cO.1 h3d
   have hm1:=aH (a:=qx-px) (b:=ry-py) (A:=4194304) (B:=4194304) (by omega) (by omega)
   have hm2:=aH (a:=qy-py) (b:=rx-px) (A:=4194304) (B:=4194304) (by omega) (by omega)
   refine ae G29 ?_
   refine cvr G29 (iu _ _ _ 1) ?_
   exact eP hQ hbel (iV (af (((qx-px)*(ry-py))-((qy-py)*(rx-px))) (-1) 1)) results251 ⟨by simp[ew,h1d,h2d,h3d],rfl⟩
  exact eR G30 hQ hbel (iV 0) results251 ⟨by simp[ew,h1d,h2d],rfl⟩
 have h1d:=bsT h1
 have G31:=jn h1 @h1d
 exact eR G31 hQ hbel (iV 0) results251 ⟨by simp[ew,h1d],rfl⟩
theorem jS (H:aa)(px py qx qy ax ay bx by_:Int):zC 210 [.agg [iV px,iV py],.agg [iV qx,iV qy],.agg [iV ax,iV ay],.agg [iV bx,iV by_]] H (.bool (cW px py qx qy ax ay bx by_)) H:=by
 have htb:∀a b c d e f:Int,-1<=ew a b c d e f/\ew a b c d e f<=1:=fun a b c d e f=>by
  unfold ew af
  repeat' split
  all_goals omega
 have ht1:=htb px py qx qy ax ay
 have ht2:=htb px py qx qy bx by_
 have ht3:=htb ax ay bx by_ px py
 have ht4:=htb ax ay bx by_ qx qy
 refine AcT true func210 ?_;intro hbel Q hQ
 refine aB ?_
 refine cv (fW _ _ _) ?_
 refine aB ?_
 refine aV (fun h1=>?_) (fun h1=>?_)
 ·have h1d:=bsT h1
  have G32:=jn h1 @h1d
  refine ae G32 ?_
  refine cv (fW _ _ _) ?_
  refine rgs G32 (fun h2 h2d G33=>?_) (fun h2 h2d G48=>?_)
  ·refine ae G33 ?_
   refine cv (fW _ _ _) ?_
   refine rgs G33 (fun h3 h3d G34=>?_) (fun h3 h3d G47=>?_)
   ·refine ae G34 ?_
    refine cv (fW _ _ _) ?_
    refine rcs G34 (fun h4 h4d G35=>?_) (fun h4 h4d G36=>?_)
    ·exact eR G35 hQ hbel (.bool false) results210 ⟨by simp[cW,h1d,h2d,h3d,h4d],rfl⟩
    have hm1:=aH (a:=ew px py qx qy ax ay) (b:=ew px py qx qy bx by_) (A:=1) (B:=1) (by omega) (by omega)
    have hm2:=aH (a:=ew ax ay bx by_ px py) (b:=ew ax ay bx by_ qx qy) (A:=1) (B:=1) (by omega) (by omega)
    refine rgs G36 (fun h5 h5d G37=>?_) (fun h5 h5d G46=>?_)
    ·refine rgs G37 (fun h6 h6d G38=>?_) (fun h6 h6d G45=>?_)
     ·refine rgs G38 (fun h7 h7d G39=>?_) (fun h7 h7d G44=>?_)
      ·refine rcs G39 (fun h8 h8d G40=>?_) (fun h8 h8d G41=>?_)
       ·exact eR G40 hQ hbel (.bool false) results210 ⟨by simp[cW,h1d,h2d,h3d,h4d,h5d,h6d,h7d,h8d],rfl⟩
       refine ae G41 ?_
       refine cdr G41 (kN _ _ _ _ _ _ _) ?_
       refine cd (kN _ _ _ _ _ _ _) ?_
       refine rgs G41 (fun h9 h9d G42=>?_) (fun h9 h9d G43=>?_)
       ·refine ae G42 ?_
        refine cdr G42 (kN _ _ _ _ _ _ _) ?_
        refine cdr G42 (kN _ _ _ _ _ _ _) ?_
        exact eP hQ hbel (.bool (decide (((ew ax ay bx by_ px py)*(ew ax ay bx by_ qx qy))<=0))) results210 ⟨by simp[cW,h1d,h2d,h3d,h4d,h5d,h6d,h7d,h8d,h9d],rfl⟩
       exact eR G43 hQ hbel (.bool false) results210 ⟨by simp[cW,h1d,h2d,h3d,h4d,h5d,h6d,h7d,h8d,h9d],rfl⟩
      exact eR G44 hQ hbel (.bool false) results210 ⟨by simp[cW,h1d,h2d,h3d,h4d,h5d,h6d,h7d],rfl⟩
     exact eR G45 hQ hbel (.bool false) results210 ⟨by simp[cW,h1d,h2d,h3d,h4d,h5d,h6d],rfl⟩
    exact eR G46 hQ hbel (.bool false) results210 ⟨by simp[cW,h1d,h2d,h3d,h4d,h5d],rfl⟩
   exact eR G47 hQ hbel (.bool false) results210 ⟨by simp[cW,h1d,h2d,h3d],rfl⟩
  exact eR G48 hQ hbel (.bool false) results210 ⟨by simp[cW,h1d,h2d],rfl⟩
 have h1d:=bsT h1
 have G49:=jn h1 @h1d
 exact eR G49 hQ hbel (.bool false) results210 ⟨by simp[cW,h1d],rfl⟩
theorem kO (H:aa)(cx cy px py qx qy:Int)(hd:(-1024<=px-qx/\px-qx<=1024)/\(-1024<=py-qy/\py-qy<=1024)/\(-4194304<=px/\px<=4194304)/\(-4194304<=py/\py<=4194304)/\(-4194304<=cx/\cx<=4194304)/\(-4194304<=cy/\cy<=4194304)):zC 211 [.agg [iV cx,iV cy],.agg [iV px,iV py],.agg [iV qx,iV qy],iV 20] H (.bool (d6 cx cy px py qx qy)) H:=by
 refine AcT true func211 ?_;intro hbel Q hQ
 refine aB ?_
 refine cv (fe _ _ _ (by decide)) ?_
 refine aB ?_
 refine aV (fun h1=>?_) (fun h1=>?_)
 ·have h1d:=bsT h1
  have hw1:=aL.1 h1d
  have G50:=jn h1 @h1d
  refine ae G50 ?_
  refine cv (fe _ _ _ (by decide)) ?_
  refine rcs G50 (fun h2 h2d G51=>?_) (fun h2 h2d G52=>?_)
  ·exact eR G51 hQ hbel (.bool false) results211 ⟨by simp[d6,h1d,h2d],rfl⟩
  have hw2:=aL.1 h2d
  have hm1:=aH (a:=qx-px) (b:=cx-px) (A:=3000) (B:=3000) (by omega) (by omega)
  have hm2:=aH (a:=qy-py) (b:=cy-py) (A:=3000) (B:=3000) (by omega) (by omega)
  have hm3:=aH (a:=qx-px) (b:=qx-px) (A:=3000) (B:=3000) (by omega) (by omega)
  have hm4:=aH (a:=qy-py) (b:=qy-py) (A:=3000) (B:=3000) (by omega) (by omega)
  have hm5:=aH (a:=cx-px) (b:=cx-px) (A:=3000) (B:=3000) (by omega) (by omega)
  have hm6:=aH (a:=cy-py) (b:=cy-py) (A:=3000) (B:=3000) (by omega) (by omega)
  have hm7:=aH (a:=cx-qx) (b:=cx-qx) (A:=5000) (B:=5000) (by omega) (by omega)
  have hm8:=aH (a:=cy-qy) (b:=cy-qy) (A:=5000) (B:=5000) (by omega) (by omega)
  have hm9:=aH (a:=qx-px) (b:=cy-py) (A:=3000) (B:=3000) (by omega) (by omega)
  have hm10:=aH (a:=qy-py) (b:=cx-px) (A:=3000) (B:=3000) (by omega) (by omega)
  have hm11:=aH (a:=(qx-px)*(cy-py)-(qy-py)*(cx-px)) (b:=(qx-px)*(cy-py)-(qy-py)*(cx-px)) (A:=18000000) (B:=18000000) (by omega) (by omega)
  refine rcs G52 (fun h3 h3d G53=>?_) (fun h3 h3d G54=>?_)
  ·exact eR G53 hQ hbel (.bool (decide ((((cx-px)*(cx-px))+((cy-py)*(cy-py)))<=400))) results211 ⟨by simp[d6,h1d,h2d,h3d],rfl⟩
  refine rcs G54 (fun h4 h4d G55=>?_) (fun h4 h4d G56=>?_)
  ·exact eR G55 hQ hbel (.bool (decide ((((cx-qx)*(cx-qx))+((cy-qy)*(cy-qy)))<=400))) results211 ⟨by simp[d6,h1d,h2d,h3d,h4d],rfl⟩
  exact eR G56 hQ hbel (.bool (decide (((((qx-px)*(cy-py))-((qy-py)*(cx-px)))*(((qx-px)*(cy-py))-((qy-py)*(cx-px))))<=(400*(((qx-px)*(qx-px))+((qy-py)*(qy-py))))))) results211 ⟨by simp[d6,h1d,h2d,h3d,h4d],rfl⟩
 have h1d:=bsT h1
 have G57:=jn h1 @h1d
 exact eR G57 hQ hbel (.bool false) results211 ⟨by simp[d6,h1d],rfl⟩
theorem se (H:aa)(x0 y0 x1 y1:Int):zC 209 [.agg [iV x0,iV y0,iV x1,iV y1]] H (.sl (some (H.length,0)) 4 none) (H++[.cells true 2 [iV x0,iV y0,iV x1,iV y0,iV x1,iV y1,iV x0,iV y1]]):=by
 refine AcT true func209 ?_;intro hbel Q hQ
 refine aB ?_
 refine hQ _ _ (ba (.inl rfl) hbel (x1:=.sl (some (H.length+1,0)) 4 (some 4)) (l2:=[.cells true 2 [iV x0,iV y0,iV x1,iV y0,iV x1,iV y1,iV x0,iV y1]]) (.sl (some (H.length,0)) 4 none) (aY results209) [] rfl [1] (by decide) ⟨rfl,rfl⟩ ?_)
 exact aJ
theorem r5touch_c (H:aa)(px py qx qy x0 y0 x1 y1:Int): zC 159 [.agg [iV px,iV py],.agg [iV qx,iV qy],.agg [iV x0,iV y0,iV x1,iV y1],iV 20] H (.bool (bj px py qx qy x0 y0 x1 y1)) H:=by
 refine AcT true func159 ?_;intro hbel Q hQ
 refine aB ?_
 refine cv (fW _ _ _) ?_
 refine aB ?_
 refine aV (fun h1=>?_) (fun h1=>?_)
 ·have h1d:=bsT h1
  have hvp:=cO.1 h1d
  have G58:=jn h1 @h1d
  refine ae G58 ?_
  refine cv (fW _ _ _) ?_
  refine rgs G58 (fun h2 h2d G59=>?_) (fun h2 h2d G93=>?_)
  ·have hvq:=cO.1 h2d
   refine ae G59 ?_
   refine cv (r5rc_c _ _ _ _ _) ?_
   refine rgs G59 (fun h3 h3d G60=>?_) (fun h3 h3d G92=>?_)
   ·have hvr:=bZ.1 h3d
    refine ae G60 ?_
    refine cv (fe _ _ _ (by decide)) ?_
    refine rgs G60 (fun h4 h4d G61=>?_) (fun h4 h4d G91=>?_)
    ·have hwx:=aL.1 h4d
     refine ae G61 ?_
     refine cv (fe _ _ _ (by decide)) ?_
     refine rcs G61 (fun h5 h5d G62=>?_) (fun h5 h5d G63=>?_)
     ·exact eR G62 hQ hbel (.bool false) results159 ⟨by first|(rw[hfinT];done)|(unfold bj eC;simp[h1d,h2d,h3d,h4d,h5d];done)|(unfold bj;rw[htok];simp[h1d,h2d,h3d,h4d,h5d]),rfl⟩
     have hwy:=aL.1 h5d
     have htok:eC px py qx qy x0 y0 x1 y1=true:=by unfold eC;simp only[*];rfl
     refine ae G63 ?_
     refine cv (r5in_c _ _ _ _ _ _ _) ?_
     refine rgs G63 (fun h6 h6d G64=>?_) (fun h6 h6d G90=>?_)
     ·have hin0:=h6d
      refine ae G64 ?_
      refine cv (r5gap_c _ _ _ _ _ _ _) ?_
      refine rgs G64 (fun h7 h7d G65=>?_) (fun h7 h7d G89=>?_)
      ·have hg1:=h7d
       refine ae G65 ?_
       refine cv (r5gap_c _ _ _ _ _ _ _) ?_
       refine rcs G65 (fun h8 h8d G66=>?_) (fun h8 h8d G67=>?_)
       ·exact eR G66 hQ hbel (.bool true) results159 ⟨by first|(rw[hfinT];done)|(unfold bj eC;simp[h1d,h2d,h3d,h4d,h5d,h6d,h7d,h8d];done)|(unfold bj;rw[htok];simp[h1d,h2d,h3d,h4d,h5d,h6d,h7d,h8d]),rfl⟩
       have hg2:=h8d
       refine ae G67 ?_
       refine cvr G67 (se _ _ _ _ _) ?_
       refine glp (fun k F Hx=>∃i:Nat,i+k=4/\(∀j:Nat,j<i->tcN px py qx qy x0 y0 x1 y1 j=false)/\F=[(3,iV 20),(4,.ptr (some (H.length,0))),(5,.ptr (some (H.length+1,0))),(9,.sl (some (H.length+2,0)) 4 none),(10,iV (i:Int))]/\Hx=H++[.cells true 0 [iV px,iV py],.cells true 0 [iV qx,iV qy],.cells true 2 [iV x0,iV y0,iV x1,iV y0,iV x1,iV y1,iV x0,iV y1]]) (4) ?_ ?_
       ·refine⟨_,_,_,⟨0,by omega,fun j h=>by omega,rfl,rfl⟩,bS hbel [0,1,3] aJ⟩
       rintro k0 F Hx ⟨i,hm0,htn,rfl,rfl⟩ J0 hJ0
       refine rcs G67 (fun h9 h9d _=>?_) (fun h9 h9d G88=>?_)
       ·obtain rfl|rfl|rfl|rfl:=(by omega:i=0\/i=1\/i=2\/i=3)
        ·have G68:=j2 h9 h9d G67
         refine ae G68 ?_
         refine cd (jS _ _ _ _ _ _ _ _ _) ?_
         refine rgs G68 (fun h10 h10d G69=>?_) (fun h10 h10d G72=>?_)
         ·have hcr:=h10d
          refine ae G69 ?_
          refine cd (kO _ _ _ _ _ _ _ (by omega)) ?_
          refine rcs G69 (fun h11 h11d G70=>?_) (fun h11 h11d G71=>?_)
          ·have hfinT:bj px py qx qy x0 y0 x1 y1=true:=fV htok (j:=0) (by decide) (by show (cW px py qx qy x0 y0 x1 y0||d6 x0 y0 px py qx qy)=true;rw[h11d];simp)
           exact eR G70 hQ hbel (.bool true) results159 ⟨by first|(rw[hfinT];done)|(unfold bj eC;simp[h1d,h2d,h3d,h4d,h5d,h6d,h7d,h8d,h9d,h10d,h11d,hfinT];done)|(unfold bj;rw[htok];simp[h1d,h2d,h3d,h4d,h5d,h6d,h7d,h8d,h9d,h10d,h11d,hfinT]),rfl⟩
          have htc:tcN px py qx qy x0 y0 x1 y1 0=false:=by show (cW px py qx qy x0 y0 x1 y0||d6 x0 y0 px py qx qy)=false;rw[hcr,h11d];rfl
          refine ae G71 ?_
          refine hJ0 _ _ ⟨k0-1,by omega,_,_,_,⟨0+1,by omega,fun j hj=>by
                rcases (show j<0\/j=0 by omega) with hji|rfl
                ·exact htn j hji
                exact htc,rfl,rfl⟩,bS hbel [0,1,2] aJ⟩
         have hfinT:bj px py qx qy x0 y0 x1 y1=true:=fV htok (j:=0) (by decide) (by show (cW px py qx qy x0 y0 x1 y0||d6 x0 y0 px py qx qy)=true;rw[h10d];rfl)
         exact eR G72 hQ hbel (.bool true) results159 ⟨by first|(rw[hfinT];done)|(unfold bj eC;simp[h1d,h2d,h3d,h4d,h5d,h6d,h7d,h8d,h9d,h10d,hfinT];done)|(unfold bj;rw[htok];simp[h1d,h2d,h3d,h4d,h5d,h6d,h7d,h8d,h9d,h10d,hfinT]),rfl⟩
        ·have G73:=j2 h9 h9d G67
         refine ae G73 ?_
         refine cd (jS _ _ _ _ _ _ _ _ _) ?_
         refine rgs G73 (fun h12 h12d G74=>?_) (fun h12 h12d G77=>?_)
         ·have hcr:=h12d
          refine ae G74 ?_
          refine cd (kO _ _ _ _ _ _ _ (by omega)) ?_
          refine rcs G74 (fun h13 h13d G75=>?_) (fun h13 h13d G76=>?_)
          ·have hfinT:bj px py qx qy x0 y0 x1 y1=true:=fV htok (j:=1) (by decide) (by show (cW px py qx qy x1 y0 x1 y1||d6 x1 y0 px py qx qy)=true;rw[h13d];simp)
           exact eR G75 hQ hbel (.bool true) results159 ⟨by first|(rw[hfinT];done)|(unfold bj eC;simp[h1d,h2d,h3d,h4d,h5d,h6d,h7d,h8d,h9d,h12d,h13d,hfinT];done)|(unfold bj;rw[htok];simp[h1d,h2d,h3d,h4d,h5d,h6d,h7d,h8d,h9d,h12d,h13d,hfinT]),rfl⟩
          have htc:tcN px py qx qy x0 y0 x1 y1 1=false:=by show (cW px py qx qy x1 y0 x1 y1||d6 x1 y0 px py qx qy)=false;rw[hcr,h13d];rfl
          refine ae G76 ?_
          refine hJ0 _ _ ⟨k0-1,by omega,_,_,_,⟨1+1,by omega,fun j hj=>by
                rcases (show j<1\/j=1 by omega) with hji|rfl
                ·exact htn j hji
                exact htc,rfl,rfl⟩,bS hbel [0,1,2] aJ⟩
         have hfinT:bj px py qx qy x0 y0 x1 y1=true:=fV htok (j:=1) (by decide) (by show (cW px py qx qy x1 y0 x1 y1||d6 x1 y0 px py qx qy)=true;rw[h12d];rfl)
         exact eR G77 hQ hbel (.bool true) results159 ⟨by first|(rw[hfinT];done)|(unfold bj eC;simp[h1d,h2d,h3d,h4d,h5d,h6d,h7d,h8d,h9d,h12d,hfinT];done)|(unfold bj;rw[htok];simp[h1d,h2d,h3d,h4d,h5d,h6d,h7d,h8d,h9d,h12d,hfinT]),rfl⟩
        ·have G78:=j2 h9 h9d G67
         refine ae G78 ?_
         refine cd (jS _ _ _ _ _ _ _ _ _) ?_
         refine rgs G78 (fun h14 h14d G79=>?_) (fun h14 h14d G82=>?_)
         ·have hcr:=h14d
          refine ae G79 ?_
          refine cd (kO _ _ _ _ _ _ _ (by omega)) ?_
          refine rcs G79 (fun h15 h15d G80=>?_) (fun h15 h15d G81=>?_)
          ·have hfinT:bj px py qx qy x0 y0 x1 y1=true:=fV htok (j:=2) (by decide) (by show (cW px py qx qy x1 y1 x0 y1||d6 x1 y1 px py qx qy)=true;rw[h15d];simp)
           exact eR G80 hQ hbel (.bool true) results159 ⟨by first|(rw[hfinT];done)|(unfold bj eC;simp[h1d,h2d,h3d,h4d,h5d,h6d,h7d,h8d,h9d,h14d,h15d,hfinT];done)|(unfold bj;rw[htok];simp[h1d,h2d,h3d,h4d,h5d,h6d,h7d,h8d,h9d,h14d,h15d,hfinT]),rfl⟩
          have htc:tcN px py qx qy x0 y0 x1 y1 2=false:=by show (cW px py qx qy x1 y1 x0 y1||d6 x1 y1 px py qx qy)=false;rw[hcr,h15d];rfl
          refine ae G81 ?_
          refine hJ0 _ _ ⟨k0-1,by omega,_,_,_,⟨2+1,by omega,fun j hj=>by
                rcases (show j<2\/j=2 by omega) with hji|rfl
                ·exact htn j hji
                exact htc,rfl,rfl⟩,bS hbel [0,1,2] aJ⟩
         have hfinT:bj px py qx qy x0 y0 x1 y1=true:=fV htok (j:=2) (by decide) (by show (cW px py qx qy x1 y1 x0 y1||d6 x1 y1 px py qx qy)=true;rw[h14d];rfl)
         exact eR G82 hQ hbel (.bool true) results159 ⟨by first|(rw[hfinT];done)|(unfold bj eC;simp[h1d,h2d,h3d,h4d,h5d,h6d,h7d,h8d,h9d,h14d,hfinT];done)|(unfold bj;rw[htok];simp[h1d,h2d,h3d,h4d,h5d,h6d,h7d,h8d,h9d,h14d,hfinT]),rfl⟩
        have G83:=j2 h9 h9d G67
        refine ae G83 ?_
        refine cd (jS _ _ _ _ _ _ _ _ _) ?_
        refine rgs G83 (fun h16 h16d G84=>?_) (fun h16 h16d G87=>?_)
        ·have hcr:=h16d
         refine ae G84 ?_
         refine cd (kO _ _ _ _ _ _ _ (by omega)) ?_
         refine rcs G84 (fun h17 h17d G85=>?_) (fun h17 h17d G86=>?_)
         ·have hfinT:bj px py qx qy x0 y0 x1 y1=true:=fV htok (j:=3) (by decide) (by show (cW px py qx qy x0 y1 x0 y0||d6 x0 y1 px py qx qy)=true;rw[h17d];simp)
          exact eR G85 hQ hbel (.bool true) results159 ⟨by first|(rw[hfinT];done)|(unfold bj eC;simp[h1d,h2d,h3d,h4d,h5d,h6d,h7d,h8d,h9d,h16d,h17d,hfinT];done)|(unfold bj;rw[htok];simp[h1d,h2d,h3d,h4d,h5d,h6d,h7d,h8d,h9d,h16d,h17d,hfinT]),rfl⟩
         have htc:tcN px py qx qy x0 y0 x1 y1 3=false:=by show (cW px py qx qy x0 y1 x0 y0||d6 x0 y1 px py qx qy)=false;rw[hcr,h17d];rfl
         refine ae G86 ?_
         refine hJ0 _ _ ⟨k0-1,by omega,_,_,_,⟨3+1,by omega,fun j hj=>by
               rcases (show j<3\/j=3 by omega) with hji|rfl
               ·exact htn j hji
               exact htc,rfl,rfl⟩,bS hbel [0,1,2] aJ⟩
        have hfinT:bj px py qx qy x0 y0 x1 y1=true:=fV htok (j:=3) (by decide) (by show (cW px py qx qy x0 y1 x0 y0||d6 x0 y1 px py qx qy)=true;rw[h16d];rfl)
        exact eR G87 hQ hbel (.bool true) results159 ⟨by first|(rw[hfinT];done)|(unfold bj eC;simp[h1d,h2d,h3d,h4d,h5d,h6d,h7d,h8d,h9d,h16d,hfinT];done)|(unfold bj;rw[htok];simp[h1d,h2d,h3d,h4d,h5d,h6d,h7d,h8d,h9d,h16d,hfinT]),rfl⟩
       obtain rfl:i=4:=by omega
       have hfinT:bj px py qx qy x0 y0 x1 y1=false:=touchB_f hin0 (by omega) (by omega) htn
       exact eR G88 hQ hbel (.bool false) results159 ⟨by first|(rw[hfinT];done)|(unfold bj eC;simp[h1d,h2d,h3d,h4d,h5d,h6d,h7d,h8d,h9d,hfinT];done)|(unfold bj;rw[htok];simp[h1d,h2d,h3d,h4d,h5d,h6d,h7d,h8d,h9d,hfinT]),rfl⟩
      exact eR G89 hQ hbel (.bool true) results159 ⟨by first|(rw[hfinT];done)|(unfold bj eC;simp[h1d,h2d,h3d,h4d,h5d,h6d,h7d];done)|(unfold bj;rw[htok];simp[h1d,h2d,h3d,h4d,h5d,h6d,h7d]),rfl⟩
     exact eR G90 hQ hbel (.bool true) results159 ⟨by first|(rw[hfinT];done)|(unfold bj eC;simp[h1d,h2d,h3d,h4d,h5d,h6d];done)|(unfold bj;rw[htok];simp[h1d,h2d,h3d,h4d,h5d,h6d]),rfl⟩
    exact eR G91 hQ hbel (.bool false) results159 ⟨by first|(rw[hfinT];done)|(unfold bj eC;simp[h1d,h2d,h3d,h4d];done)|(unfold bj;rw[htok];simp[h1d,h2d,h3d,h4d]),rfl⟩
   exact eR G92 hQ hbel (.bool false) results159 ⟨by first|(rw[hfinT];done)|(unfold bj eC;simp[h1d,h2d,h3d];done)|(unfold bj;rw[htok];simp[h1d,h2d,h3d]),rfl⟩
  exact eR G93 hQ hbel (.bool false) results159 ⟨by first|(rw[hfinT];done)|(unfold bj eC;simp[h1d,h2d];done)|(unfold bj;rw[htok];simp[h1d,h2d]),rfl⟩
 have h1d:=bsT h1
 have G94:=jn h1 @h1d
 exact eR G94 hQ hbel (.bool false) results159 ⟨by first|(rw[hfinT];done)|(unfold bj eC;simp[h1d];done)|(unfold bj;rw[htok];simp[h1d]),rfl⟩
def dd (x y h:Int):Bool:=br x 1048576&&(br y 1048576&&(decide (0<=h)&&decide (h<256)))
theorem dp {x y h:Int}:dd x y h=true↔(ptB x y=true/\btw h 0 255=true):=by
 unfold dd ptB;simp only[Bool.and_eq_true,aL,aZ,decide_eq_true_eq];omega
theorem kh (H:aa)(x y h:Int):zC 58 [.agg [iV x,iV y,iV h]] H (.bool (dd x y h)) H:=by
 refine AcT true func58 ?_;intro hbel Q hQ
 refine aB ?_
 refine cv (fe _ _ _ (by decide)) ?_
 refine aB ?_
 refine aV (fun h1=>?_) (fun h1=>?_)
 ·have h1d:=bsT h1
  have G2:=jn h1 @h1d
  refine ae G2 ?_
  refine cv (fe _ _ _ (by decide)) ?_
  refine rgs G2 (fun h2 h2d G3=>?_) (fun h2 h2d G6=>?_)
  ·refine rgs G3 (fun h3 h3d G4=>?_) (fun h3 h3d G5=>?_)
   ·exact eR G4 hQ hbel (.bool (decide (h<256))) results58 ⟨by simp[dd,h1d,h2d,h3d],rfl⟩
   exact eR G5 hQ hbel (.bool false) results58 ⟨by simp[dd,h1d,h2d,h3d],rfl⟩
  exact eR G6 hQ hbel (.bool false) results58 ⟨by simp[dd,h1d,h2d],rfl⟩
 have h1d:=bsT h1
 have G7:=jn h1 @h1d
 exact eR G7 hQ hbel (.bool false) results58 ⟨by simp[dd,h1d],rfl⟩
def gI (eT eL eX eY:Int):Bool:=br eT 64&&(br eL 64&&(br eX 64&&br eY 64))
def nhI (ah t eT:Int):Int:=(((((ah+t)+eT)%256).toNat:Nat):Int)
def rwX (ax h f eL eX:Int):Int:=if f=0 then ax else ax+(cE h (mxI (f+eL) 0)+eX)
def rwY (ay h f eL eY:Int):Int:=if f=0 then ay else ay+(cF h (mxI (f+eL) 0)+eY)
def nxE (ax ay ah t f eT eL eX eY:Int):Int:=if (dd ax ay ah&&cM t f)=true then (if gI eT eL eX eY=true then (if f=0 then 0 else if dd (rwX ax (nhI ah t eT) f eL eX) (rwY ay (nhI ah t eT) f eL eY) (nhI ah t eT)=true then 0 else 2) else 2) else 1
def nxX (ax ay ah t f eT eL eX eY:Int):Int:=if nxE ax ay ah t f eT eL eX eY=0 then rwX ax (nhI ah t eT) f eL eX else 0
def nxY (ax ay ah t f eT eL eX eY:Int):Int:=if nxE ax ay ah t f eT eL eX eY=0 then rwY ay (nhI ah t eT) f eL eY else 0
def nxH (ax ay ah t f eT eL eX eY:Int):Int:=if nxE ax ay ah t f eT eL eX eY=0 then nhI ah t eT else 0
theorem iQ {ax ay ah t f eT eL eX eY e:Int}(h:nxE ax ay ah t f eT eL eX eY=e)(he:¬e=0):nxX ax ay ah t f eT eL eX eY=0/\nxY ax ay ah t f eT eL eX eY=0/\nxH ax ay ah t f eT eL eX eY=0:=⟨if_neg (by rw[h];exact he),if_neg (by rw[h];exact he),if_neg (by rw[h];exact he)⟩
theorem nx_ok {ax ay ah t f eT eL eX eY:Int}(h:nxE ax ay ah t f eT eL eX eY=0):nxX ax ay ah t f eT eL eX eY=rwX ax (nhI ah t eT) f eL eX/\nxY ax ay ah t f eT eL eX eY=rwY ay (nhI ah t eT) f eL eY/\nxH ax ay ah t f eT eL eX eY=nhI ah t eT:=⟨if_pos h,if_pos h,if_pos h⟩
theorem n9 {n k:Int}(hk:0<=k): -k<=af n (0-k) k/\af n (0-k) k<=k:=by
 unfold af;repeat' split
 all_goals omega
theorem mx_r (a:Int):(if a<0 then 0 else a)=mxI a 0:=rfl
theorem nx_dist {ax ay ah t f eT eL eX eY:Int}(h:nxE ax ay ah t f eT eL eX eY=0):(-1024<=ax-nxX ax ay ah t f eT eL eX eY/\ax-nxX ax ay ah t f eT eL eX eY<=1024) /\ -1024<=ay-nxY ax ay ah t f eT eL eX eY/\ay-nxY ax ay ah t f eT eL eX eY<=1024:=by
 obtain⟨e1,e2,-⟩:=nx_ok h
 have hg:gI eT eL eX eY=true/\cM t f=true:=by
  unfold nxE at h;split at h
  ·rename_i hc
   rw[Bool.and_eq_true] at hc
   split at h
   ·rename_i he;exact⟨he,hc.2⟩
   omega
  omega
 unfold gI cM at hg
 simp only[Bool.and_eq_true,aL,aZ] at hg
 rw[e1,e2]
 have hw:=jx (nhI ah t eT) (m:=mxI (f+eL) 0) (by unfold mxI;split<;>omega)
 have hm:mxI (f+eL) 0<=96:=by unfold mxI;split<;>omega
 unfold rwX rwY
 split<;>omega
theorem nx_pose {ax ay ah t f eT eL eX eY:Int}(h:nxE ax ay ah t f eT eL eX eY=0)(ha:dd ax ay ah=true):dd (nxX ax ay ah t f eT eL eX eY) (nxY ax ay ah t f eT eL eX eY) (nxH ax ay ah t f eT eL eX eY)=true:=by
 obtain⟨e1,e2,e3⟩:=nx_ok h
 rw[e1,e2,e3]
 unfold nxE at h
 split at h
 ·split at h
  ·split at h
   ·rename_i h0
    unfold rwX rwY;rw[if_pos h0,if_pos h0]
    have:=dp.1 ha
    exact dp.2 ⟨this.1,aZ.2 (by unfold nhI;omega)⟩
   split at h
   ·assumption
   omega
  omega
 omega
theorem moved_c (H:aa)(n h:Int)(hn:0<=n/\n<=1000):zC 158 [iV n,iV h] H (.agg [iV (cE h n),iV (cF h n)]) H:=by
 have hdv:=c9.1 (fD h)
 have hm1:=aH (a:=n) (b:=(bK h).1) (A:=1000) (B:=8065) (by omega) (by omega)
 have hm2:=aH (a:=n) (b:=(bK h).2.1) (A:=1000) (B:=8065) (by omega) (by omega)
 refine AcT true func158 ?_;intro hbel Q hQ
 refine aB ?_
 refine cv (rdir_c _ h) ?_
 refine aB ?_
 refine cd (fS _ _ _ (by omega) (by omega)) ?_
 refine aB ?_
 refine cd (fS _ _ _ (by omega) (by omega)) ?_
 refine aB ?_
 exact eP hQ hbel (.agg [iV ((n*((bK h).1))/((bK h).2.2)),iV ((n*((bK h).2.1))/((bK h).2.2))]) results158 ⟨rfl,rfl⟩
theorem r11clip_c (H:aa)(tu le sl ra eT eL eX eY:Int)(hb:bM tu le sl ra=true):zC 61 [.agg [iV tu,iV le,iV sl,iV ra],.agg [iV eT,iV eL,iV eX,iV eY]] H (.tup [.agg [iV (af eT (0-tu) tu),iV (af eL (0-le) le),iV (af eX (0-sl) sl),iV (af eY (0-sl) sl)],iV 0]) H:=by
 have hbi:=hb
 simp only[bM,Bool.and_eq_true,aZ] at hbi
 refine AcT true func61 ?_;intro hbel Q hQ
 have G1:=@hb
 refine ae G1 ?_
 refine cvr G1 (bbnd_c _ _ _ _ _) ?_
 refine cdr G1 (iu _ _ _ _) ?_
 refine cdr G1 (iu _ _ _ _) ?_
 refine cdr G1 (iu _ _ _ _) ?_
 refine cdr G1 (iu _ _ _ _) ?_
 exact eP hQ hbel (.tup [.agg [iV (af eT (0-tu) tu),iV (af eL (0-le) le),iV (af eX (0-sl) sl),iV (af eY (0-sl) sl)],iV 0]) results61 ⟨rfl,rfl⟩
theorem next_c (H:aa)(ax ay ah t f eT eL eX eY:Int):zC 112 [.agg [iV ax,iV ay,iV ah],.agg [iV t,iV f],.agg [iV eT,iV eL,iV eX,iV eY]] H (.tup [.agg [iV (nxX ax ay ah t f eT eL eX eY),iV (nxY ax ay ah t f eT eL eX eY),iV (nxH ax ay ah t f eT eL eX eY)],iV (nxE ax ay ah t f eT eL eX eY)]) H:=by
 have hmx:=mx_r (f+eL)
 (refine bh func112 _ rfl (Nat.le_of_ble_eq_true (by kernel_rfl)) rfl ?_;intro hbel Q hQ hQ' c hc;unfold Tryz.f112 at hc;simp only[Option.some.injEq] at hc;subst hc;clear hQ')
 refine zQT hQ fun Q1 hn1 hQ1 he1=>?_
 have G2:=@hmx
 refine ae G2 ?_
 refine hn1 _ _ (zQT hQ fun Q2 hn2 hQ2 he2=>?_)
 refine ae G2 ?_
 refine cv (kh _ _ _ _) ?_
 refine rgs G2 (fun h1 h1d G3=>?_) (fun h1 h1d G18=>?_)
 ·have hP:=h1d
  have hPi:=dp.1 hP
  have hbt:=aZ.1 hPi.2
  refine ae G3 ?_
  refine cv (bcmd_c _ t f) ?_
  refine rcs G3 (fun h2 h2d G4=>?_) (fun h2 h2d G5=>?_)
  ·have hfinE:nxE ax ay ah t f eT eL eX eY=1:=by unfold nxE;rw[hP,h2d];rfl
   obtain⟨hfinX,hfinY,hfinH⟩:=iQ hfinE (by decide)
   exact eR G4 hQ2 hbel (.tup [.agg [iV 0,iV 0,iV 0],iV 1]) results112 ⟨by first|(rw[hfinX,hfinY,hfinH,hfinE];done)|(rw[hfinX,hfinY,hfinH,hfinE];rfl),rfl⟩
  have hC:=h2d
  have hCi:=hC
  simp only[cM,Bool.and_eq_true,aZ,aL] at hCi
  refine ae G5 ?_
  refine hn2 _ _ (zQT hQ fun Q3 hn3 hQ3 he3=>?_)
  refine ae G5 ?_
  refine cv (iv _ _ _ (by decide)) ?_
  refine rgs G5 (fun h3 h3d G6=>?_) (fun h3 h3d G17=>?_)
  ·have hw1:=aL.1 h3d
   have hww1:=h3d
   refine ae G6 ?_
   refine cv (iv _ _ _ (by decide)) ?_
   refine rgs G6 (fun h4 h4d G7=>?_) (fun h4 h4d G16=>?_)
   ·have hw2:=aL.1 h4d
    have hww2:=h4d
    refine ae G7 ?_
    refine cv (iv _ _ _ (by decide)) ?_
    refine rgs G7 (fun h5 h5d G8=>?_) (fun h5 h5d G15=>?_)
    ·have hw3:=aL.1 h5d
     have hww3:=h5d
     refine ae G8 ?_
     refine cv (iv _ _ _ (by decide)) ?_
     refine rcs G8 (fun h6 h6d G9=>?_) (fun h6 h6d G10=>?_)
     ·have herr:gI eT eL eX eY=false:=by unfold gI;simp[h6d]
      have hfinE:nxE ax ay ah t f eT eL eX eY=2:=by unfold nxE;rw[hP,hC,herr];rfl
      obtain⟨hfinX,hfinY,hfinH⟩:=iQ hfinE (by decide)
      exact eR G9 hQ3 hbel (.tup [.agg [iV 0,iV 0,iV 0],iV 2]) results112 ⟨by first|(rw[hfinX,hfinY,hfinH,hfinE];done)|(rw[hfinX,hfinY,hfinH,hfinE];rfl),rfl⟩
     have hw4:=aL.1 h6d
     have hww4:=h6d
     have herr:gI eT eL eX eY=true:=by unfold gI;rw[hww1,hww2,hww3,hww4];rfl
     refine ae G10 ?_
     refine hn3 _ _ ?_
     refine bt true try_mixed [[0,1,2,3,4,5,6,7,8,9,10,11,12,13,14,15],[0,1,2,3,4,5,6,7,8,9,10,11,14,12,13,15]] (by kernel_rfl) (fun F2 H2=>F2=[(4,.ptr (some (H.length,0))),(5,.ptr (some (H.length+1,0))),(6,.ptr (some (H.length+2,0))),(7,iV 0),(8,.ptr (some (H.length+3,0)))]/\H2=H++[.cells true 0 [iV t,iV f],.cells true 0 [iV eT,iV eL,iV eX,iV eY],.cells true 0 [iV 0,iV 0,iV 0],.cells true 0 [iV ax,iV ay,iV (((((ah+t)+eT)%256).toNat:Nat):Int)]]) ?_ ?_
     ·refine aj ?_ (aj ?_ (bu))<;>intro J hJ
      ·refine ag G10 ?_
       refine cd (da _ _ _ (by omega) (by omega)) ?_
       refine ag G10 ?_
       refine aq (hJ _ _ ⟨_,_,_,⟨rfl,rfl⟩,bS hbel [1,2,3,4] aJ⟩)
      refine ag G10 ?_
      refine cd (da _ _ _ (by omega) (by omega)) ?_
      refine ag G10 ?_
      refine aq (hJ _ _ ⟨_,_,_,⟨rfl,rfl⟩,bS hbel [1,2,3,4] aJ⟩)
     rintro F2 H2 ⟨rfl,rfl⟩
     refine fnT ?_
     refine rcs G10 (fun h7 h7d _=>?_) (fun h7 h7d _=>?_)
     ·have h7n:=bnT h7
      have hf0:f=0:=h7d
      have hfinE:nxE ax ay ah t f eT eL eX eY=0:=by unfold nxE;rw[hP,hC,herr,if_pos hf0];rfl
      obtain⟨hX1,hY1,hfinH⟩:=nx_ok hfinE
      have hfinX:nxX ax ay ah t f eT eL eX eY=ax:=hX1.trans (if_pos hf0)
      have hfinY:nxY ax ay ah t f eT eL eX eY=ay:=hY1.trans (if_pos hf0)
      have G11:=jn h7 (jn h7n (jn @aP (jn @aO G10)))
      exact eR G11 hQ hbel (.tup [.agg [iV ax,iV ay,iV (((((ah+t)+eT)%256).toNat:Nat):Int)],iV 0]) results112 ⟨by first|(rw[hfinX,hfinY,hfinH,hfinE];done)|(rw[hfinX,hfinY,hfinH,hfinE];rfl),rfl⟩
     have h7n:=bnT h7
     have hf0:¬f=0:=by simpa using h7d
     have hrx:rwX ax (nhI ah t eT) f eL eX=ax+(cE (nhI ah t eT) (mxI (f+eL) 0)+eX):=if_neg hf0
     have hry:rwY ay (nhI ah t eT) f eL eY=ay+(cF (nhI ah t eT) (mxI (f+eL) 0)+eY):=if_neg hf0
     have hwb:=jx (nhI ah t eT) (m:=mxI (f+eL) 0) (by unfold mxI;split<;>omega)
     have hmx3:mxI (f+eL) 0<=96:=by unfold mxI;split<;>omega
     obtain⟨p1,p2⟩:=hPi
     have hpp:=p1
     simp only[ptB,Bool.and_eq_true,aL] at hpp
     have G12:=jn h7 (jn h7n (jn @aP (jn @aO G10)))
     refine ae G12 ?_
     refine cvr G12 (moved_c (h:=nhI ah t eT) _ (mxI (f+eL) 0) (by unfold mxI;split<;>omega)) ?_
     refine cv (kh _ _ _ _) ?_
     refine rcs G12 (fun h8 h8d G13=>?_) (fun h8 h8d G14=>?_)
     ·have hpo:dd (rwX ax (nhI ah t eT) f eL eX) (rwY ay (nhI ah t eT) f eL eY) (nhI ah t eT)=false:=by rw[hrx,hry];exact h8d
      have hfinE:nxE ax ay ah t f eT eL eX eY=2:=by unfold nxE;rw[hP,hC,herr];simp[hf0,hpo]
      obtain⟨hfinX,hfinY,hfinH⟩:=iQ hfinE (by decide)
      exact eR G13 hQ hbel (.tup [.agg [iV 0,iV 0,iV 0],iV 2]) results112 ⟨by first|(rw[hfinX,hfinY,hfinH,hfinE];done)|(rw[hfinX,hfinY,hfinH,hfinE];rfl),rfl⟩
     have hpo:dd (rwX ax (nhI ah t eT) f eL eX) (rwY ay (nhI ah t eT) f eL eY) (nhI ah t eT)=true:=by rw[hrx,hry];exact h8d
     have hfinE:nxE ax ay ah t f eT eL eX eY=0:=by unfold nxE;rw[hP,hC,herr];simp[hf0,hpo]
     obtain⟨hX1,hY1,hfinH⟩:=nx_ok hfinE
     have hfinX:=hX1.trans hrx
     have hfinY:=hY1.trans hry
     exact eR G14 hQ hbel (.tup [.agg [iV (ax+((cE (nhI ah t eT) (mxI (f+eL) 0))+eX)),iV (ay+((cF (nhI ah t eT) (mxI (f+eL) 0))+eY)),iV (((((ah+t)+eT)%256).toNat:Nat):Int)],iV 0]) results112 ⟨by first|(rw[hfinX,hfinY,hfinH,hfinE];done)|(rw[hfinX,hfinY,hfinH,hfinE];rfl),rfl⟩
    have herr:gI eT eL eX eY=false:=by unfold gI;simp[h5d]
    have hfinE:nxE ax ay ah t f eT eL eX eY=2:=by unfold nxE;rw[hP,hC,herr];rfl
    obtain⟨hfinX,hfinY,hfinH⟩:=iQ hfinE (by decide)
    exact eR G15 hQ3 hbel (.tup [.agg [iV 0,iV 0,iV 0],iV 2]) results112 ⟨by first|(rw[hfinX,hfinY,hfinH,hfinE];done)|(rw[hfinX,hfinY,hfinH,hfinE];rfl),rfl⟩
   have herr:gI eT eL eX eY=false:=by unfold gI;simp[h4d]
   have hfinE:nxE ax ay ah t f eT eL eX eY=2:=by unfold nxE;rw[hP,hC,herr];rfl
   obtain⟨hfinX,hfinY,hfinH⟩:=iQ hfinE (by decide)
   exact eR G16 hQ3 hbel (.tup [.agg [iV 0,iV 0,iV 0],iV 2]) results112 ⟨by first|(rw[hfinX,hfinY,hfinH,hfinE];done)|(rw[hfinX,hfinY,hfinH,hfinE];rfl),rfl⟩
  have herr:gI eT eL eX eY=false:=by unfold gI;simp[h3d]
  have hfinE:nxE ax ay ah t f eT eL eX eY=2:=by unfold nxE;rw[hP,hC,herr];rfl
  obtain⟨hfinX,hfinY,hfinH⟩:=iQ hfinE (by decide)
  exact eR G17 hQ3 hbel (.tup [.agg [iV 0,iV 0,iV 0],iV 2]) results112 ⟨by first|(rw[hfinX,hfinY,hfinH,hfinE];done)|(rw[hfinX,hfinY,hfinH,hfinE];rfl),rfl⟩
 have hfinE:nxE ax ay ah t f eT eL eX eY=1:=by unfold nxE;rw[h1d];rfl
 obtain⟨hfinX,hfinY,hfinH⟩:=iQ hfinE (by decide)
 exact eR G18 hQ2 hbel (.tup [.agg [iV 0,iV 0,iV 0],iV 1]) results112 ⟨by first|(rw[hfinX,hfinY,hfinH,hfinE];done)|(rw[hfinX,hfinY,hfinH,hfinE];rfl),rfl⟩
section
variable (H:aa)
theorem psize_c (x:Int):ACalls prog 64 [.int .i64 x] H (fun v H'=>v=.bool (decide (1<=x)&&decide (x<=64))/\H'=H):=by
 (refine bX try_mixed func64 true _ rfl (Nat.le_of_ble_eq_true (by kernel_rfl)) (by kernel_rfl) ?_;intro hbel Q hQ hQ' c hc;unfold Tryz.f64 at hc;simp only[Option.some.injEq] at hc;subst hc;clear hQ')
 by_cases h1:1<=x
 ·simp -implicitDefEqProofs (disch:=omega) only [h1,simprocAttr,aD,aE,Function.comp_apply,one1,lenV,ai,ar,au,aop,AV.ofValue,AV.ofCell,AV.cells,AV.flat,AV.one,arep,aN,ap,aA]
  exact hQ _ _ (eI (.inl rfl) hbel (x:=.bool (decide (x<=64))) (aY results64) rfl ⟨by simp only[h1,decide_true,Bool.true_and],rfl⟩)
 simp -implicitDefEqProofs (disch:=omega) only [h1,simprocAttr,aD,aE,Function.comp_apply,one1,lenV,ai,ar,au,aop,AV.ofValue,AV.ofCell,AV.cells,AV.flat,AV.one,arep,aN,ap,aA]
 exact hQ _ _ (eI (.inl rfl) hbel (x:=.bool false) (aY results64) rfl ⟨by simp only[h1,decide_false,Bool.false_and],rfl⟩)
set_option maxRecDepth 100000 in
theorem max_c (xs : List Int)(b : Nat)(own : Bool)(cap : Option Nat)(hb:H[b]? = some (.cells own 1 (ints .u8 xs)))(h0:0<xs.length)(hn:xs.length<=1000000):ACalls prog 65 [.sl (some (b,0)) xs.length cap] H (fun v H'=>∃m,v=.int .u8 m/\m∈xs/\(∀x∈xs,x<=m)/\H'=H):=by
 have hbl:=getElem?_lt hb
 have hg0:=cn (k:=.u8) (xs:=xs) (j:=0) h0
 (refine bX try_mixed func65 true _ rfl (Nat.le_of_ble_eq_true (by kernel_rfl)) (by kernel_rfl) ?_;intro hbel Q hQ hQ' c hc;unfold Tryz.f65 at hc;simp only[Option.some.injEq] at hc;subst hc;clear hQ')
 have h1:¬(xs.length:Int)<1:=by omega
 simp -implicitDefEqProofs (disch:=omega) only [h1,hb,hg0,simprocAttr,aD,aE,Function.comp_apply,one1,lenV,ai,ar,au,aop,AV.ofValue,AV.ofCell,AV.cells,AV.flat,AV.one,arep,aN,ap,aA]
 repeat refine And.intro (by omega) ?_
 refine go_loop try_mixed (by kernel_rfl) (fun k F Hx=>∃(i:Nat) (m:Int),i+k=xs.length/\1<=i/\m∈xs/\(∀j,j<i->gi xs j<=m)/\F=[(0,.sl (some (b,0)) xs.length none),(3,.int .u8 m),(4,.int .i64 (i:Nat))]/\Hx=H) (xs.length-1) ?_ ?_
 ·refine ⟨_, _, _, ⟨1, gi xs 0, by omega, by omega, nM h0, fun j hj => by obtain rfl:j=0:=by omega
                                                                          exact Int.le_refl _,rfl,rfl⟩,Abs.by0 hbel ?_⟩
  exact absT
 rintro k F Hx ⟨i,m,hik,hi1,hm,hle,rfl,rfl⟩ J hJ
 by_cases hi:i<xs.length
 ·have hii:(i:Int)<(xs.length:Int):=by omega
  have hg:=cn (k:=.u8) (xs:=xs) (j:=i) hi
  simp -implicitDefEqProofs (disch:=omega) only [hii,hb,hg,simprocAttr,aD,aE,Function.comp_apply,one1,lenV,ai,ar,au,aop,AV.ofValue,AV.ofCell,AV.cells,AV.flat,AV.one,arep,aN,ap,aA]
  repeat refine And.intro (by omega) ?_
  refine hJ _ _ ⟨k-1,by omega,_,_,_,⟨i+1,if m<gi xs i then gi xs i else m,by omega,by omega,by split;exact nM hi;exact hm,fun j hj=>?_,rfl,rfl⟩,Abs.by0 hbel ?_⟩
  ·by_cases hji:j=i
   ·subst hji;split<;>omega
   have:=hle j (by omega);split<;>omega
  exact absT
 have hnn:¬((i:Int)<(xs.length:Int)):=by omega
 simp -implicitDefEqProofs (disch:=omega) only [hnn,simprocAttr,aD,aE,Function.comp_apply,one1,lenV,ai,ar,au,aop,AV.ofValue,AV.ofCell,AV.cells,AV.flat,AV.one,arep,aN,ap,aA]
 exact hQ _ _ (eI (.inl rfl) hbel (x:=.int .u8 m) (aY results65) rfl ⟨m,rfl,hm,fun x hx=>by
  obtain⟨j,hj,rfl⟩:=List.getElem_of_mem hx
  rw[<-gi_lt hj];exact hle j (by omega),rfl⟩)
theorem fX {W Hh:Int}{xs:List Int}(h:¬(1<=W/\W<=64/\1<=Hh/\Hh<=64/\(xs.length:Int)=W*Hh)):bQ W Hh xs=false:=p9.2 fun v=>h ⟨v.w0,v.w1,v.h0,v.h1,v.len⟩
set_option maxRecDepth 100000 in
theorem mi (W Hh:Int)(s:AV)(xs:List Int)(hs:IsI H .u8 s xs):ACalls prog 34 [.agg [.int .i64 W,.int .i64 Hh,s]] H (fun v H'=>v=.bool (bQ W Hh xs)/\H'=H):=by
 have hs1:∃a c,s=.sl a xs.length c:=by
  rcases hs with ⟨rfl,rfl⟩|⟨b,own,cap,rfl,hb⟩
  ·exact⟨_,_,rfl⟩
  exact⟨_,_,rfl⟩
 obtain⟨a1,c1,rfl⟩:=hs1
 (refine bX try_mixed func34 true _ rfl (Nat.le_of_ble_eq_true (by kernel_rfl)) (by kernel_rfl) ?_;intro hbel Q hQ hQ' c hc;unfold Tryz.f34 at hc;simp only[Option.some.injEq] at hc;subst hc;clear hQ')
 simp -implicitDefEqProofs (disch:=omega) only [simprocAttr,aD,aE,Function.comp_apply,one1,lenV,ai,ar,au,aop,AV.ofValue,AV.ofCell,AV.cells,AV.flat,AV.one,arep,aN,ap,aA]
 refine d3 (by kernel_rfl) (psize_c _ _) ?_
 cases h1:(decide (1<=W)&&decide (W<=64))
 ·simp only[Bool.and_eq_false_iff,decide_eq_false_iff_not] at h1
  simp -implicitDefEqProofs (disch:=omega) only [simprocAttr,aD,aE,Function.comp_apply,one1,lenV,ai,ar,au,aop,AV.ofValue,AV.ofCell,AV.cells,AV.flat,AV.one,arep,aN,ap,aA]
  exact hQ _ _ (b9 (.inl rfl) hbel (x:=.bool false) (aY results34) rfl ⟨by rw[fX (by omega)],rfl⟩)
 simp only[Bool.and_eq_true,decide_eq_true_eq] at h1
 simp -implicitDefEqProofs (disch:=omega) only [simprocAttr,aD,aE,Function.comp_apply,one1,lenV,ai,ar,au,aop,AV.ofValue,AV.ofCell,AV.cells,AV.flat,AV.one,arep,aN,ap,aA]
 refine d3 (by kernel_rfl) (psize_c _ _) ?_
 cases h2:(decide (1<=Hh)&&decide (Hh<=64))
 ·simp only[Bool.and_eq_false_iff,decide_eq_false_iff_not] at h2
  simp -implicitDefEqProofs (disch:=omega) only [simprocAttr,aD,aE,Function.comp_apply,one1,lenV,ai,ar,au,aop,AV.ofValue,AV.ofCell,AV.cells,AV.flat,AV.one,arep,aN,ap,aA]
  exact hQ _ _ (b9 (.inl rfl) hbel (x:=.bool false) (aY results34) rfl ⟨by rw[fX (by omega)],rfl⟩)
 simp only[Bool.and_eq_true,decide_eq_true_eq] at h2
 have hm:=lO (a:=W) (b:=Hh) (by omega) (by omega) (by omega) (by omega)
 have hm1:=Int.mul_le_mul (a:=1) (b:=1) (c:=W) (d:=Hh) h1.1 h2.1 (by omega) (by omega)
 by_cases h3:(xs.length:Int)=W*Hh
 ·have h3':((xs.length:Int)!=W*Hh)=false:=by simp[h3]
  have h4:((xs.length:Int)==0)=false:=beq_eq_false_iff_ne.2 (by omega)
  obtain⟨b,own,cap,e1,hb⟩:=hs.resolve_left (fun h=>by rw[h.1] at h3;simp at h3;omega)
  injection e1 with e1 _ e1';subst e1 e1'
  have hb0:=fun l=>am (l:=l) hb
  have hbl:=getElem?_lt hb
  simp -implicitDefEqProofs (disch:=omega) only [h3',h4,simprocAttr,aD,aE,Function.comp_apply,one1,lenV,ai,ar,au,aop,AV.ofValue,AV.ofCell,AV.cells,AV.flat,AV.one,arep,aN,ap,aA]
  refine oN (by kernel_rfl) (max_c _ xs b own c1 (hb0 _) (by omega) (by omega)) ?_
  rintro x H' ⟨m,rfl,hm,hle,rfl⟩
  simp -implicitDefEqProofs (disch:=omega) only [simprocAttr,aD,aE,Function.comp_apply,one1,lenV,ai,ar,au,aop,AV.ofValue,AV.ofCell,AV.cells,AV.flat,AV.one,arep,aN,ap,aA]
  exact hQ _ _ (b9 (.inl rfl) hbel (x:=.bool (decide (m<=2))) (aY results34) rfl ⟨by
   congr 1
   rw[Bool.eq_iff_iff,bo,decide_eq_true_eq]
   exact⟨fun h=>⟨h1.1,h1.2,h2.1,h2.2,h3,fun v hv=>Int.le_trans (hle v hv) h⟩,fun h=>h.le m hm⟩,rfl⟩)
 have h3':((xs.length:Int)!=W*Hh)=true:=by simp[h3]
 simp -implicitDefEqProofs (disch:=omega) only [h3',simprocAttr,aD,aE,Function.comp_apply,one1,lenV,ai,ar,au,aop,AV.ofValue,AV.ofCell,AV.cells,AV.flat,AV.one,arep,aN,ap,aA]
 exact hQ _ _ (b9 (.inl rfl) hbel (x:=.bool false) (aY results34) rfl ⟨by rw[fX (by omega)],rfl⟩)
set_option maxRecDepth 100000 in
theorem mj (W Hh:Int)(s:AV)(xs:List Int)(hs:IsI H .u8 s xs):ACalls prog 103 [.agg [.int .i64 W,.int .i64 Hh,s]] H (fun v H'=>v=.bool (bQ W Hh xs)/\H'=H):=by
 have hs1:∃a c,s=.sl a xs.length c:=by
  rcases hs with ⟨rfl,rfl⟩|⟨b,own,cap,rfl,hb⟩
  ·exact⟨_,_,rfl⟩
  exact⟨_,_,rfl⟩
 obtain⟨a1,c1,rfl⟩:=hs1
 (refine bX try_mixed func103 true _ rfl (Nat.le_of_ble_eq_true (by kernel_rfl)) (by kernel_rfl) ?_;intro hbel Q hQ hQ' c hc;unfold Tryz.f103 at hc;simp only[Option.some.injEq] at hc;subst hc;clear hQ')
 by_cases h1:W<1
 ·simp -implicitDefEqProofs (disch:=omega) only [h1,simprocAttr,aD,aE,Function.comp_apply,one1,lenV,ai,ar,au,aop,AV.ofValue,AV.ofCell,AV.cells,AV.flat,AV.one,arep,aN,ap,aA]
  exact hQ _ _ (b9 (.inl rfl) hbel (x:=.bool false) (aY results103) rfl ⟨by rw[fX (by omega)],rfl⟩)
 by_cases h2:64<W
 ·simp -implicitDefEqProofs (disch:=omega) only [h1,h2,simprocAttr,aD,aE,Function.comp_apply,one1,lenV,ai,ar,au,aop,AV.ofValue,AV.ofCell,AV.cells,AV.flat,AV.one,arep,aN,ap,aA]
  exact hQ _ _ (b9 (.inl rfl) hbel (x:=.bool false) (aY results103) rfl ⟨by rw[fX (by omega)],rfl⟩)
 by_cases h3:Hh<1
 ·simp -implicitDefEqProofs (disch:=omega) only [h1,h2,h3,simprocAttr,aD,aE,Function.comp_apply,one1,lenV,ai,ar,au,aop,AV.ofValue,AV.ofCell,AV.cells,AV.flat,AV.one,arep,aN,ap,aA]
  exact hQ _ _ (b9 (.inl rfl) hbel (x:=.bool false) (aY results103) rfl ⟨by rw[fX (by omega)],rfl⟩)
 by_cases h4:64<Hh
 ·simp -implicitDefEqProofs (disch:=omega) only [h1,h2,h3,h4,simprocAttr,aD,aE,Function.comp_apply,one1,lenV,ai,ar,au,aop,AV.ofValue,AV.ofCell,AV.cells,AV.flat,AV.one,arep,aN,ap,aA]
  exact hQ _ _ (b9 (.inl rfl) hbel (x:=.bool false) (aY results103) rfl ⟨by rw[fX (by omega)],rfl⟩)
 have hm:=lO (a:=W) (b:=Hh) (by omega) (by omega) (by omega) (by omega)
 have hm1:=Int.mul_le_mul (a:=1) (b:=1) (c:=W) (d:=Hh) (by omega) (by omega) (by omega) (by omega)
 by_cases h5:(xs.length:Int)=W*Hh
 ·have h5':((xs.length:Int)!=W*Hh)=false:=by simp[h5]
  obtain⟨b,own,cap,e1,hb⟩:=hs.resolve_left (fun h=>by rw[h.1] at h5;simp at h5;omega)
  injection e1 with e1 _ e1';subst e1 e1'
  have hb0:=fun l=>am (l:=l) hb
  have hbl:=getElem?_lt hb
  simp -implicitDefEqProofs (disch:=omega) only [h1,h2,h3,h4,h5',simprocAttr,aD,aE,Function.comp_apply,one1,lenV,ai,ar,au,aop,AV.ofValue,AV.ofCell,AV.cells,AV.flat,AV.one,arep,aN,ap,aA]
  refine go_loop try_mixed (by kernel_rfl) (fun k F Hx=>∃(i:Nat),i+k=xs.length/\(∀j,j<i->gi xs j<=2)/\F=[(1,.ptr (some (H.length,0))),(3,.int .i64 (i:Nat))]/\Hx=H++[.cells true 0 [.int .i64 W,.int .i64 Hh,.sl (some (b,0)) xs.length c1]]) xs.length ?_ ?_
  ·refine⟨_,_,_,⟨0,by omega,fun j hj=>absurd hj (Nat.not_lt_zero j),rfl,rfl⟩,Abs.by hbel [0] (by decide) ?_⟩
   exact absT
  rintro k F Hx ⟨i,hik,hle,rfl,rfl⟩ J hJ
  by_cases hi:i<xs.length
  ·have hii:(i:Int)<(xs.length:Int):=by omega
   have hg:=cn (k:=.u8) (xs:=xs) (j:=i) hi
   by_cases h6:2<gi xs i
   ·simp -implicitDefEqProofs (disch:=omega) only [hii,hb0,hg,h6,simprocAttr,aD,aE,Function.comp_apply,one1,lenV,ai,ar,au,aop,AV.ofValue,AV.ofCell,AV.cells,AV.flat,AV.one,arep,aN,ap,aA]
    repeat refine And.intro (by omega) ?_
    exact hQ _ _ (b9 (.inl rfl) hbel (x:=.bool false) (aY results103) rfl ⟨by rw[p9.2 fun v=>absurd (v.le _ (nM hi)) (by omega)],rfl⟩)
   simp -implicitDefEqProofs (disch:=omega) only [hii,hb0,hg,h6,simprocAttr,aD,aE,Function.comp_apply,one1,lenV,ai,ar,au,aop,AV.ofValue,AV.ofCell,AV.cells,AV.flat,AV.one,arep,aN,ap,aA]
   repeat refine And.intro (by omega) ?_
   refine hJ _ _ ⟨k-1,by omega,_,_,_,⟨i+1,by omega,fun j hj=>?_,rfl,rfl⟩,Abs.by hbel [0] (by decide) ?_⟩
   ·by_cases hji:j=i
    ·subst hji;omega
    exact hle j (by omega)
   exact absT
  have hnn:¬((i:Int)<(xs.length:Int)):=by omega
  simp -implicitDefEqProofs (disch:=omega) only [hnn,simprocAttr,aD,aE,Function.comp_apply,one1,lenV,ai,ar,au,aop,AV.ofValue,AV.ofCell,AV.cells,AV.flat,AV.one,arep,aN,ap,aA]
  exact hQ _ _ (b9 (.inl rfl) hbel (x:=.bool true) (aY results103) rfl ⟨by rw[bo.2 ⟨by omega,by omega,by omega,by omega,h5,fun x hx=>by
   obtain⟨j,hj,rfl⟩:=List.getElem_of_mem hx
   rw[<-gi_lt hj];exact hle j (by omega)⟩],rfl⟩)
 have h5':((xs.length:Int)!=W*Hh)=true:=by simp[h5]
 simp -implicitDefEqProofs (disch:=omega) only [h1,h2,h3,h4,h5',simprocAttr,aD,aE,Function.comp_apply,one1,lenV,ai,ar,au,aop,AV.ofValue,AV.ofCell,AV.cells,AV.flat,AV.one,arep,aN,ap,aA]
 exact hQ _ _ (b9 (.inl rfl) hbel (x:=.bool false) (aY results103) rfl ⟨by rw[fX (by omega)],rfl⟩)
end
section
variable {H:aa} {W Hh x y:Int} {s:AV} {xs:List Int} {g:Nat} {own:Bool} {cap:Option Nat} {n:Nat}
set_option maxRecDepth 100000 in
theorem rinside_c {a:Option (Nat×Nat)}:ACalls prog 156 [.agg [.int .i64 W,.int .i64 Hh,.sl a n cap],.agg [.int .i64 x,.int .i64 y]] H (fun v H'=>v=.bool (inB W Hh x y)/\H'=H):=by
 (refine bX try_mixed func156 true _ rfl (Nat.le_of_ble_eq_true (by kernel_rfl)) (by kernel_rfl) ?_;intro hbel Q hQ hQ' c hc;unfold Tryz.f156 at hc;simp only[Option.some.injEq] at hc;subst hc;clear hQ')
 by_cases h1:0<=x
 ·by_cases h2:x<W
  ·by_cases h3:0<=y
   ·simp -implicitDefEqProofs (disch:=omega) only [h1,h2,h3,simprocAttr,aD,aE,Function.comp_apply,one1,lenV,ai,ar,au,aop,AV.ofValue,AV.ofCell,AV.cells,AV.flat,AV.one,arep,aN,ap,aA]
    exact hQ _ _ (b9 (.inl rfl) hbel (x:=.bool (decide (y<Hh))) (aY results156) rfl ⟨by simp[inB,h1,h2,h3],rfl⟩)
   simp -implicitDefEqProofs (disch:=omega) only [h1,h2,h3,simprocAttr,aD,aE,Function.comp_apply,one1,lenV,ai,ar,au,aop,AV.ofValue,AV.ofCell,AV.cells,AV.flat,AV.one,arep,aN,ap,aA]
   exact hQ _ _ (b9 (.inl rfl) hbel (x:=.bool false) (aY results156) rfl ⟨by simp[inB,h1,h2,h3],rfl⟩)
  simp -implicitDefEqProofs (disch:=omega) only [h1,h2,simprocAttr,aD,aE,Function.comp_apply,one1,lenV,ai,ar,au,aop,AV.ofValue,AV.ofCell,AV.cells,AV.flat,AV.one,arep,aN,ap,aA]
  exact hQ _ _ (b9 (.inl rfl) hbel (x:=.bool false) (aY results156) rfl ⟨by simp[inB,h1,h2],rfl⟩)
 simp -implicitDefEqProofs (disch:=omega) only [h1,simprocAttr,aD,aE,Function.comp_apply,one1,lenV,ai,ar,au,aop,AV.ofValue,AV.ofCell,AV.cells,AV.flat,AV.one,arep,aN,ap,aA]
 exact hQ _ _ (b9 (.inl rfl) hbel (x:=.bool false) (aY results156) rfl ⟨by simp[inB,h1],rfl⟩)
set_option maxRecDepth 100000 in
theorem at_c (hV:Vld W Hh xs)(hg:H[g]? = some (.cells own 1 (ints .u8 xs)))(hn:n=xs.length):ACalls prog 108 [.agg [.int .i64 W,.int .i64 Hh,.sl (some (g,0)) n cap],.agg [.int .i64 x,.int .i64 y]] H (fun r H'=>r=.int .u8 (atI W Hh xs x y)/\H'=H):=by
 (refine bX try_mixed func108 true _ rfl (Nat.le_of_ble_eq_true (by kernel_rfl)) (by kernel_rfl) ?_;intro hbel Q hQ hQ' c hc;unfold Tryz.f108 at hc;simp only[Option.some.injEq] at hc;subst hc;clear hQ')
 have hg0:=fun l=>am (l:=l) hg
 simp -implicitDefEqProofs (disch:=omega) only [simprocAttr,aD,aE,Function.comp_apply,one1,lenV,ai,ar,au,aop,AV.ofValue,AV.ofCell,AV.cells,AV.flat,AV.one,arep,aN,ap,aA]
 refine d3 (by kernel_rfl) rinside_c ?_
 cases hi:inB W Hh x y
 ·simp -implicitDefEqProofs (disch:=omega) only [simprocAttr,aD,aE,Function.comp_apply,one1,lenV,ai,ar,au,aop,AV.ofValue,AV.ofCell,AV.cells,AV.flat,AV.one,arep,aN,ap,aA]
  exact hQ _ _ (b9 (.inl rfl) hbel (x:=.int .u8 2) (aY results108) rfl ⟨by simp[atI,hi],rfl⟩)
 obtain⟨i1,i2,i3,i4,i5,-⟩:=hV.idx hi
 have hl:=hV.len
 have hp:=hV.pos
 have hgi:=cn (k:=.u8) (xs:=xs) (j:=(y*W+x).toNat) i5
 simp -implicitDefEqProofs (disch:=omega) only [hg0,hgi,simprocAttr,aD,aE,Function.comp_apply,one1,lenV,ai,ar,au,aop,AV.ofValue,AV.ofCell,AV.cells,AV.flat,AV.one,arep,aN,ap,aA]
 repeat refine And.intro (by omega) ?_
 exact hQ _ _ (b9 (.inl rfl) hbel (x:=.int .u8 (gi xs (y*W+x).toNat)) (aY results108) rfl ⟨by simp[atI,hi],rfl⟩)
end
set_option maxRecDepth 100000 in
theorem idx_int (H:aa)(s:AV)(l:List Int)(hs:Sl H 1 s l.length (ints .i64 l))(hl:l.length<=1000000000)(g:FuncId)(caps:List AV)(hok:dG prog g=true)(hc:AV.bels H.length caps=true)(p:Int->Bool)(hf:∀j,j<l.length->ACalls prog g (.int .i64 (gi l j)::caps) H (fun v H'=>v=.bool (p (gi l j))/\H'=H)):
  ACalls prog 147 [s,.fn g caps] H (fun v H'=>v=.int .i64 (fT p l)/\H'=H):=by
 obtain⟨b,own,cap,rfl,hb⟩:=hs
 have hbl:=getElem?_lt hb
 have hmv:=fun m sel=>ip (n:=H.length) (m:=m) (sel:=sel) hc
 (refine bX try_mixed func147 true _ rfl (Nat.le_of_ble_eq_true (by kernel_rfl)) (by kernel_rfl) ?_;intro hbel Q hQ hQ' c hc;unfold Tryz.f147 at hc;simp only[Option.some.injEq] at hc;subst hc;clear hQ')
 simp -implicitDefEqProofs (disch:=omega) only [simprocAttr,aD,aE,Function.comp_apply,one1,lenV,ai,ar,au,aop,AV.ofValue,AV.ofCell,AV.cells,AV.flat,AV.one,arep,aN,ap,aA]
 refine glp (fun k F Hx=>∃i:Nat,i+k=l.length/\(l.take i).any p=false/\F=[(0,.sl (some (b,0)) l.length none),(1,.fn g caps),(7,.int .i64 l.length),(8,.int .i64 (i:Nat))]/\Hx=H) l.length ?_ ?_
 ·refine⟨_,_,_,⟨0,by omega,rfl,rfl,rfl⟩,Abs.by0 hbel ?_⟩
  exact aS @hmv
 rintro k F Hx ⟨i,hik,ht,rfl,rfl⟩ J hJ
 by_cases hi:i<l.length
 ·have hii:(i:Int)<(l.length:Int):=by omega
  have q1:=cn (k:=.i64) hi
  have hg:=fM hi
  simp -implicitDefEqProofs (disch:=omega) only [hii,hb,q1,co,cV,simprocAttr,aD,aE,Function.comp_apply,one1,lenV,ai,ar,au,aop,AV.ofValue,AV.ofCell,AV.cells,AV.flat,AV.one,arep,aN,ap,aA]
  refine And.intro (by omega) ?_
  refine d3 hok (hf i hi) ?_
  have hst:=jz (p:=p) hi
  rw[ht,Bool.false_or,<-hg] at hst
  cases h1:p (gi l i)
  ·rw[h1] at hst
   simp -implicitDefEqProofs (disch:=omega) only [h1,simprocAttr,aD,aE,Function.comp_apply,one1,lenV,ai,ar,au,aop,AV.ofValue,AV.ofCell,AV.cells,AV.flat,AV.one,arep,aN,ap,aA]
   refine hJ _ _ ⟨k-1,by omega,_,_,_,⟨i+1,by omega,hst,rfl,rfl⟩,Abs.by0 hbel ?_⟩
   exact aS @hmv
  simp -implicitDefEqProofs (disch:=omega) only [h1,simprocAttr,aD,aE,Function.comp_apply,one1,lenV,ai,ar,au,aop,AV.ofValue,AV.ofCell,AV.cells,AV.flat,AV.one,arep,aN,ap,aA]
  exact eQ hQ hbel (.int .i64 (i:Nat)) results147 ⟨by rw[jl hi ht (by rw[<-hg];exact h1)],rfl⟩
 have hnn:¬((i:Int)<(l.length:Int)):=by omega
 simp -implicitDefEqProofs (disch:=omega) only [hnn,simprocAttr,aD,aE,Function.comp_apply,one1,lenV,ai,ar,au,aop,AV.ofValue,AV.ofCell,AV.cells,AV.flat,AV.one,arep,aN,ap,aA]
 rw[List.take_of_length_le (by omega)] at ht
 exact eQ hQ hbel (.int .i64 (-1)) results147 ⟨by rw[fU ht],rfl⟩
theorem has_int (H:aa)(s:AV)(l:List Int)(hs:Sl H 1 s l.length (ints .i64 l))(hl:l.length<=1000000000)(g:FuncId)(caps:List AV)(hok:dG prog g=true)(hc:AV.bels H.length caps=true)(p:Int->Bool)(hf:∀j,j<l.length->ACalls prog g (.int .i64 (gi l j)::caps) H (fun v H'=>v=.bool (p (gi l j))/\H'=H)):
  ACalls prog 92 [s,.fn g caps] H (fun v H'=>v=.bool (l.any p)/\H'=H):=by
 have key:=idx_int H s l hs hl g caps hok hc p hf
 obtain⟨b,own,cap,rfl,hb⟩:=hs
 have hbl:=getElem?_lt hb
 (refine bX try_mixed func92 true _ rfl (Nat.le_of_ble_eq_true (by kernel_rfl)) (by kernel_rfl) ?_;intro hbel Q hQ hQ' c hc;unfold Tryz.f92 at hc;simp only[Option.some.injEq] at hc;subst hc;clear hQ')
 simp -implicitDefEqProofs (disch:=omega) only [simprocAttr,aD,aE,Function.comp_apply,one1,lenV,ai,ar,au,aop,AV.ofValue,AV.ofCell,AV.cells,AV.flat,AV.one,arep,aN,ap,aA]
 refine d3 (by kernel_rfl) key ?_
 simp -implicitDefEqProofs (disch:=omega) only [simprocAttr,aD,aE,Function.comp_apply,one1,lenV,ai,ar,au,aop,AV.ofValue,AV.ofCell,AV.cells,AV.flat,AV.one,arep,aN,ap,aA]
 exact eQ hQ hbel (.bool (decide (0<=fT p l))) results92 ⟨by rw[kM],rfl⟩
set_option maxRecDepth 100000 in
theorem idx_box (H:aa)(s:AV)(l:List T6)(hs:Sl H 6 s l.length (r6 l))(hl:l.length<=1000000000)(g:FuncId)(caps:List AV)(hok:dG prog g=true)(hc:AV.bels H.length caps=true)(p:T6->Bool)(hf:∀j,j<l.length->ACalls prog g (.agg [.int .i64 (g61 l j),.int .i64 (g62 l j),.int .i64 (g63 l j),.int .i64 (g64 l j),.int .i64 (g65 l j),.int .i64 (g66 l j)]::caps) H (fun v H'=>v=.bool (p (g61 l j,g62 l j,g63 l j,g64 l j,g65 l j,g66 l j))/\H'=H)):
  ACalls prog 98 [s,.fn g caps] H (fun v H'=>v=.int .i64 (fT p l)/\H'=H):=by
 obtain⟨b,own,cap,rfl,hb⟩:=hs
 have hbl:=getElem?_lt hb
 have hmv:=fun m sel=>ip (n:=H.length) (m:=m) (sel:=sel) hc
 (refine bX try_mixed func98 true _ rfl (Nat.le_of_ble_eq_true (by kernel_rfl)) (by kernel_rfl) ?_;intro hbel Q hQ hQ' c hc;unfold Tryz.f98 at hc;simp only[Option.some.injEq] at hc;subst hc;clear hQ')
 simp -implicitDefEqProofs (disch:=omega) only [simprocAttr,aD,aE,Function.comp_apply,one1,lenV,ai,ar,au,aop,AV.ofValue,AV.ofCell,AV.cells,AV.flat,AV.one,arep,aN,ap,aA]
 refine glp (fun k F Hx=>∃i:Nat,i+k=l.length/\(l.take i).any p=false/\F=[(0,.sl (some (b,0)) l.length none),(1,.fn g caps),(7,.int .i64 l.length),(8,.int .i64 (i:Nat))]/\Hx=H) l.length ?_ ?_
 ·refine⟨_,_,_,⟨0,by omega,rfl,rfl,rfl⟩,Abs.by0 hbel ?_⟩
  exact aS @hmv
 rintro k F Hx ⟨i,hik,ht,rfl,rfl⟩ J hJ
 by_cases hi:i<l.length
 ·have hii:(i:Int)<(l.length:Int):=by omega
  have q1:=dK hi
  have hg:=jR hi
  simp -implicitDefEqProofs (disch:=omega) only [hii,hb,q1,cN,gt,simprocAttr,aD,aE,Function.comp_apply,one1,lenV,ai,ar,au,aop,AV.ofValue,AV.ofCell,AV.cells,AV.flat,AV.one,arep,aN,ap,aA]
  iterate 2 refine And.intro (by omega) ?_
  refine d3 hok (hf i hi) ?_
  have hst:=jz (p:=p) hi
  rw[ht,Bool.false_or,<-hg] at hst
  cases h1:p (g61 l i,g62 l i,g63 l i,g64 l i,g65 l i,g66 l i)
  ·rw[h1] at hst
   simp -implicitDefEqProofs (disch:=omega) only [h1,simprocAttr,aD,aE,Function.comp_apply,one1,lenV,ai,ar,au,aop,AV.ofValue,AV.ofCell,AV.cells,AV.flat,AV.one,arep,aN,ap,aA]
   refine hJ _ _ ⟨k-1,by omega,_,_,_,⟨i+1,by omega,hst,rfl,rfl⟩,Abs.by0 hbel ?_⟩
   exact aS @hmv
  simp -implicitDefEqProofs (disch:=omega) only [h1,simprocAttr,aD,aE,Function.comp_apply,one1,lenV,ai,ar,au,aop,AV.ofValue,AV.ofCell,AV.cells,AV.flat,AV.one,arep,aN,ap,aA]
  exact eQ hQ hbel (.int .i64 (i:Nat)) results98 ⟨by rw[jl hi ht (by rw[<-hg];exact h1)],rfl⟩
 have hnn:¬((i:Int)<(l.length:Int)):=by omega
 simp -implicitDefEqProofs (disch:=omega) only [hnn,simprocAttr,aD,aE,Function.comp_apply,one1,lenV,ai,ar,au,aop,AV.ofValue,AV.ofCell,AV.cells,AV.flat,AV.one,arep,aN,ap,aA]
 rw[List.take_of_length_le (by omega)] at ht
 exact eQ hQ hbel (.int .i64 (-1)) results98 ⟨by rw[fU ht],rfl⟩
theorem ml (H:aa)(s:AV)(l:List T6)(hs:Sl H 6 s l.length (r6 l))(hl:l.length<=1000000000)(g:FuncId)(caps:List AV)(hok:dG prog g=true)(hc:AV.bels H.length caps=true)(p:T6->Bool)(hf:∀j,j<l.length->ACalls prog g (.agg [.int .i64 (g61 l j),.int .i64 (g62 l j),.int .i64 (g63 l j),.int .i64 (g64 l j),.int .i64 (g65 l j),.int .i64 (g66 l j)]::caps) H (fun v H'=>v=.bool (p (g61 l j,g62 l j,g63 l j,g64 l j,g65 l j,g66 l j))/\H'=H)):
  ACalls prog 51 [s,.fn g caps] H (fun v H'=>v=.bool (l.any p)/\H'=H):=by
 have key:=idx_box H s l hs hl g caps hok hc p hf
 obtain⟨b,own,cap,rfl,hb⟩:=hs
 have hbl:=getElem?_lt hb
 (refine bX try_mixed func51 true _ rfl (Nat.le_of_ble_eq_true (by kernel_rfl)) (by kernel_rfl) ?_;intro hbel Q hQ hQ' c hc;unfold Tryz.f51 at hc;simp only[Option.some.injEq] at hc;subst hc;clear hQ')
 simp -implicitDefEqProofs (disch:=omega) only [simprocAttr,aD,aE,Function.comp_apply,one1,lenV,ai,ar,au,aop,AV.ofValue,AV.ofCell,AV.cells,AV.flat,AV.one,arep,aN,ap,aA]
 refine d3 (by kernel_rfl) key ?_
 simp -implicitDefEqProofs (disch:=omega) only [simprocAttr,aD,aE,Function.comp_apply,one1,lenV,ai,ar,au,aop,AV.ofValue,AV.ofCell,AV.cells,AV.flat,AV.one,arep,aN,ap,aA]
 exact eQ hQ hbel (.bool (decide (0<=fT p l))) results51 ⟨by rw[kM],rfl⟩
theorem small1_c (H:aa)(n:Int):zC 163 [iV n] H (.bool (ir n)) H:=by
 refine AcT true func163 ?_;intro hbel Q hQ
 refine aB ?_
 refine aV (fun h1=>?_) (fun h1=>?_)
 ·have h1d:=bsT h1
  have G1:=jn h1 @h1d
  exact eS G1 hQ hbel (.bool (decide (1048576<n))) results163 ⟨by simp[ir,h1d],rfl⟩
 have h1d:=bsT h1
 have G2:=jn h1 @h1d
 exact eS G2 hQ hbel (.bool true) results163 ⟨by simp[ir,h1d],rfl⟩
theorem small_c (H:aa)(s:AV)(l:List Int)(hs:Sl H 1 s l.length (ints .i64 l))(hl:l.length<=1000000):zC 115 [s] H (.bool (!(l.any ir))) H:=by
 obtain⟨bs,os,cs,rfl,hbs,hbls,hb0s⟩:=zA1 hs
 refine AcT true func115 ?_;intro hbel Q hQ
 have G3:=jn @hbs @hb0s
 refine ae G3 ?_
 refine cvr G3 (has_int _ _ l (zA2 hb0s hbs) (by omega) _ [] (by kernel_rfl) rfl ir (fun j hj=>small1_c _ _)) ?_
 exact eQ hQ hbel (.bool (!(l.any ir))) results115 ⟨rfl,rfl⟩
theorem ki (H:aa)(f c:Int):zC 116 [.agg [iV f,iV c]] H (.bool (cA f c)) H:=by
 refine AcT true func116 ?_;intro hbel Q hQ
 refine aB ?_
 refine aV (fun h1=>?_) (fun h1=>?_)
 ·have h1d:=bsT h1
  have G4:=jn h1 @h1d
  refine rgs G4 (fun h2 h2d G5=>?_) (fun h2 h2d G12=>?_)
  ·refine rgs G5 (fun h3 h3d G6=>?_) (fun h3 h3d G11=>?_)
   ·refine rgs G6 (fun h4 h4d G7=>?_) (fun h4 h4d G10=>?_)
    ·refine rgs G7 (fun h5 h5d _=>?_) (fun h5 h5d _=>?_)
     ·have h5n:=bnT h5
      have G8:=jn h5 (jn h5n (jn @aP (jn @aO G7)))
      exact eR G8 hQ hbel (.bool (decide (c<256))) results116 ⟨by simp[cA,h1d,h2d,h3d,h4d,h5d],rfl⟩
     have h5n:=bnT h5
     have G9:=jn h5 (jn h5n (jn @aP (jn @aO G7)))
     exact eR G9 hQ hbel (.bool true) results116 ⟨by simp[cA,h1d,h2d,h3d,h4d,h5d],rfl⟩
    exact eR G10 hQ hbel (.bool false) results116 ⟨by simp[cA,h1d,h2d,h3d,h4d],rfl⟩
   exact eR G11 hQ hbel (.bool false) results116 ⟨by simp[cA,h1d,h2d,h3d],rfl⟩
  exact eR G12 hQ hbel (.bool false) results116 ⟨by simp[cA,h1d,h2d],rfl⟩
 have h1d:=bsT h1
 have G13:=jn h1 @h1d
 exact eR G13 hQ hbel (.bool false) results116 ⟨by simp[cA,h1d],rfl⟩
theorem barc_c (H:aa)(f c:Int):zC 97 [.agg [iV f,iV c]] H (.bool (cA f c)) H:=by
 refine AcT true func97 ?_;intro hbel Q hQ
 refine aB ?_
 refine aV (fun h1=>?_) (fun h1=>?_)
 ·have h1d:=bsT h1
  have G14:=jn h1 @h1d
  refine rgs G14 (fun h2 h2d G15=>?_) (fun h2 h2d G22=>?_)
  ·refine rgs G15 (fun h3 h3d G16=>?_) (fun h3 h3d G21=>?_)
   ·refine rgs G16 (fun h4 h4d G17=>?_) (fun h4 h4d G20=>?_)
    ·refine rgs G17 (fun h5 h5d G18=>?_) (fun h5 h5d G19=>?_)
     ·exact eR G18 hQ hbel (.bool (f==0)) results97 ⟨by rw[<-jm];(simp[arcR,h1d,h2d,h3d,h4d,h5d];done),rfl⟩
     exact eR G19 hQ hbel (.bool true) results97 ⟨by rw[<-jm];(simp[arcR,h1d,h2d,h3d,h4d,h5d];done),rfl⟩
    exact eR G20 hQ hbel (.bool false) results97 ⟨by rw[<-jm];(simp[arcR,h1d,h2d,h3d,h4d];done),rfl⟩
   exact eR G21 hQ hbel (.bool false) results97 ⟨by rw[<-jm];(simp[arcR,h1d,h2d,h3d];done),rfl⟩
  exact eR G22 hQ hbel (.bool false) results97 ⟨by rw[<-jm];(simp[arcR,h1d,h2d];done),rfl⟩
 have h1d:=bsT h1
 have G23:=jn h1 @h1d
 exact eR G23 hQ hbel (.bool false) results97 ⟨by rw[<-jm];(simp[arcR,h1d];done),rfl⟩
theorem ia (H:aa)(x0 y0 x1 y1 f c:Int):zC 100 [.agg [iV x0,iV y0,iV x1,iV y1,iV f,iV c]] H (.agg [iV f,iV c]) H:=by
 refine AcT true func100 ?_;intro hbel Q hQ
 refine aB ?_
 exact eP hQ hbel (.agg [iV f,iV c]) results100 ⟨rfl,rfl⟩
theorem gy (H:aa)(x0 y0 x1 y1 f c:Int):zC 67 [.agg [iV x0,iV y0,iV x1,iV y1,iV f,iV c]] H (.bool (bxB x0 y0 x1 y1 f c)) H:=by
 refine AcT true func67 ?_;intro hbel Q hQ
 refine aB ?_
 refine aV (fun h1=>?_) (fun h1=>?_)
 ·have h1d:=bsT h1
  have G24:=jn h1 @h1d
  refine rgs G24 (fun h2 h2d G25=>?_) (fun h2 h2d G28=>?_)
  ·refine ae G25 ?_
   refine cv (small_c _ _ [x0,y0,x1,y1] ⟨_,_,_,by rfl,by (rw[aK];rfl)⟩ (by simp)) ?_
   refine rgs G25 (fun h3 h3d G26=>?_) (fun h3 h3d G27=>?_)
   ·refine ae G26 ?_
    refine cvr G26 (ia _ _ _ _ _ f c) ?_
    refine cvr G26 (ki _ f c) ?_
    exact eP hQ hbel (.bool (cA f c)) results67 ⟨by simp[bxB,h1d,h2d,h3d],rfl⟩
   exact eR G27 hQ hbel (.bool false) results67 ⟨by simp[bxB,h1d,h2d,h3d],rfl⟩
  exact eR G28 hQ hbel (.bool false) results67 ⟨by simp[bxB,h1d,h2d],rfl⟩
 have h1d:=bsT h1
 have G29:=jn h1 @h1d
 exact eR G29 hQ hbel (.bool false) results67 ⟨by simp[bxB,h1d],rfl⟩
theorem bbx_c (H:aa)(x0 y0 x1 y1 f c:Int):zC 50 [.agg [iV x0,iV y0,iV x1,iV y1,iV f,iV c]] H (.bool (bxB x0 y0 x1 y1 f c)) H:=by
 refine AcT true func50 ?_;intro hbel Q hQ
 refine aB ?_
 refine aV (fun h1=>?_) (fun h1=>?_)
 ·have h1d:=bsT h1
  have G30:=jn h1 @h1d
  refine rgs G30 (fun h2 h2d G31=>?_) (fun h2 h2d G40=>?_)
  ·refine rgs G31 (fun h3 h3d G32=>?_) (fun h3 h3d G39=>?_)
   ·refine rgs G32 (fun h4 h4d G33=>?_) (fun h4 h4d G38=>?_)
    ·refine rgs G33 (fun h5 h5d G34=>?_) (fun h5 h5d G37=>?_)
     ·refine rgs G34 (fun h6 h6d G35=>?_) (fun h6 h6d G36=>?_)
      ·refine ae G35 ?_
       refine cvr G35 (barc_c _ f c) ?_
       exact eP hQ hbel (.bool (cA f c)) results50 ⟨by rw[<-jB];simp[bxR,h1d,h2d,h3d,h4d,h5d,h6d],rfl⟩
      exact eR G36 hQ hbel (.bool false) results50 ⟨by rw[<-jB];simp[bxR,h1d,h2d,h3d,h4d,h5d,h6d],rfl⟩
     exact eR G37 hQ hbel (.bool false) results50 ⟨by rw[<-jB];simp[bxR,h1d,h2d,h3d,h4d,h5d],rfl⟩
    exact eR G38 hQ hbel (.bool false) results50 ⟨by rw[<-jB];simp[bxR,h1d,h2d,h3d,h4d],rfl⟩
   exact eR G39 hQ hbel (.bool false) results50 ⟨by rw[<-jB];simp[bxR,h1d,h2d,h3d],rfl⟩
  exact eR G40 hQ hbel (.bool false) results50 ⟨by rw[<-jB];simp[bxR,h1d,h2d],rfl⟩
 have h1d:=bsT h1
 have G41:=jn h1 @h1d
 exact eR G41 hQ hbel (.bool false) results50 ⟨by rw[<-jB];simp[bxR,h1d],rfl⟩
theorem kP (H:aa)(s f c:Int)(k1:0<=s/\s<=255)(k2:0<=f/\f<=255)(k3:0<=c/\c<=256):zC 155 [iV s,.agg [iV f,iV c]] H (iV (cu s f c)) H:=by
 refine AcT true func155 ?_;intro hbel Q hQ
 refine aB ?_
 refine cd (lQ _ _) ?_
 refine aB ?_
 exact eP hQ hbel (iV (((((f-s)%256).toNat:Nat):Int)+c)) results155 ⟨congrArg (AV.int .i64) (by unfold cu;omega),rfl⟩
theorem mm (H:aa)(f c f2 c2:Int)(ha:cA f c=true)(hb:cA f2 c2=true):zC 101 [.agg [iV f,iV c],.agg [iV f2,iV c2]] H (.tup [.agg [iV ((cT f c f2 c2).1),iV ((cT f c f2 c2).2)],iV 0]) H:=by
 have ka:=bm.1 ha
 have kb:=bm.1 hb
 have hm1:=max_i (cu f f c) (cu f f2 c2)
 have hm2:=max_i (cu f2 f c) (cu f2 f2 c2)
 have hz0:(hlS f c f2 c2 0).2=256/\(hlS f c f2 c2 0).1=0:=⟨rfl,rfl⟩
 have hc1:cu f f c=c:=by unfold cu;omega
 have hc2:cu f2 f2 c2=c2:=by unfold cu;omega
 have hc3:1<=cu f f2 c2/\cu f f2 c2<=511:=by unfold cu;omega
 have hc4:1<=cu f2 f c/\cu f2 f c<=511:=by unfold cu;omega
 refine AcT true func101 ?_;intro hbel Q hQ
 have G49:=jn @hm1 (jn @hm2 (jn @ha @hb))
 refine ae G49 ?_
 refine cvr G49 (ki _ f c) ?_
 refine cvr G49 (ki _ _ _) ?_
 refine glp (fun k F Hx=>∃j:Nat,j+k=2/\F=[(2,.ptr (some (H.length,0))),(3,.ptr (some (H.length+1,0))),(4,.ptr (some (H.length+2,0))),(6,.ptr (some (H.length+3,0))),(24,.agg [iV f,iV f2]),(25,iV (j:Int))]/\Hx=H++[.cells true 0 [iV f,iV c],.cells true 0 [iV f2,iV c2],.cells true 0 [iV 0,iV 0],.cells true 0 [iV ((hlS f c f2 c2 j).1),iV ((hlS f c f2 c2 j).2)]]) (2) ?_ ?_
 ·refine⟨_,_,_,⟨0,by omega,rfl,rfl⟩,bS hbel [0,1,2,3] (aS (jn @hlS.eq_1 @Int.natCast_zero))⟩
 rintro k0 F Hx ⟨j,hm0,rfl,rfl⟩ J0 hJ0
 refine rcs G49 (fun h1 h1d _=>?_) (fun h1 h1d G65=>?_)
 ·obtain rfl|rfl:=(by omega:j=0\/j=1)
  ·have G50:=j2 h1 h1d G49
   refine ae G50 ?_
   refine cdr G50 (kP _ f f c (by omega) (by omega) (by omega)) ?_
   refine cd (kP _ f _ _ (by omega) (by omega) (by omega)) ?_
   refine rgs G50 (fun h2 h2d G51=>?_) (fun h2 h2d G55=>?_)
   ·refine rgs G51 (fun h3 h3d _=>?_) (fun h3 h3d _=>?_)
    ·have h3n:=bnT h3
     have he0:max (cu f f c) (cu f f2 c2)=(hlS f c f2 c2 0).2:=by simpa using h3d
     have G52:=jn h3 (jn h3n (jn @aP (jn @aO G51)))
     refine rgs G52 (fun h4 h4d _=>?_) (fun h4 h4d G53=>?_)
     ·omega
     refine ae G53 ?_
     (have hst:hlS f c f2 c2 (0+1)=(0,256):=if_neg (by omega))
     refine hJ0 _ _ ⟨k0-1,by omega,_,_,_,⟨0+1,by omega,rfl,rfl⟩,bS hbel [0,1,2,3] (aS @hst)⟩
    have h3n:=bnT h3
    have G54:=jn h3 (jn h3n (jn @aP (jn @aO G51)))
    refine ae G54 ?_
    (have hst:hlS f c f2 c2 (0+1)=(0,256):=if_neg (by omega))
    refine hJ0 _ _ ⟨k0-1,by omega,_,_,_,⟨0+1,by omega,rfl,rfl⟩,bS hbel [0,1,2,3] (aS @hst)⟩
   refine ae G55 ?_
   (have hst:hlS f c f2 c2 (0+1)=(f,max (cu f f c) (cu f f2 c2)):=if_pos (by omega))
   refine hJ0 _ _ ⟨k0-1,by omega,_,_,_,⟨0+1,by omega,rfl,rfl⟩,bS hbel [0,1,2,3] (aS @hst)⟩
  have G56:=j2 h1 h1d G49
  refine ae G56 ?_
  refine cdr G56 (kP _ _ f c (by omega) (by omega) (by omega)) ?_
  refine cd (kP _ _ _ _ (by omega) (by omega) (by omega)) ?_
  refine rgs G56 (fun h5 h5d G57=>?_) (fun h5 h5d G64=>?_)
  ·refine rgs G57 (fun h6 h6d _=>?_) (fun h6 h6d _=>?_)
   ·have h6n:=bnT h6
    have he1:max (cu f2 f c) (cu f2 f2 c2)=(hlS f c f2 c2 1).2:=by simpa using h6d
    have G58:=jn h6 (jn h6n (jn @aP (jn @aO G57)))
    refine rgs G58 (fun h7 h7d G59=>?_) (fun h7 h7d G62=>?_)
    ·refine rcs G59 (fun h8 h8d G60=>?_) (fun h8 h8d G61=>?_)
     ·refine ae G60 ?_
      (have hst:hlS f c f2 c2 (1+1)=(f2,max (cu f2 f c) (cu f2 f2 c2)):=(hlS_2 f c f2 c2).trans (if_pos (by omega)))
      refine hJ0 _ _ ⟨k0-1,by omega,_,_,_,⟨1+1,by omega,rfl,rfl⟩,bS hbel [0,1,2,3] (aS @hst)⟩
     refine ae G61 ?_
     (have hst:hlS f c f2 c2 (1+1)=hlS f c f2 c2 1:=(hlS_2 f c f2 c2).trans (if_neg (by omega)))
     refine hJ0 _ _ ⟨k0-1,by omega,_,_,_,⟨1+1,by omega,rfl,rfl⟩,bS hbel [0,1,2,3] (aS @hst)⟩
    refine ae G62 ?_
    (have hst:hlS f c f2 c2 (1+1)=hlS f c f2 c2 1:=(hlS_2 f c f2 c2).trans (if_neg (by omega)))
    refine hJ0 _ _ ⟨k0-1,by omega,_,_,_,⟨1+1,by omega,rfl,rfl⟩,bS hbel [0,1,2,3] (aS @hst)⟩
   have h6n:=bnT h6
   have he1:¬max (cu f2 f c) (cu f2 f2 c2)=(hlS f c f2 c2 1).2:=by simpa using h6d
   have G63:=jn h6 (jn h6n (jn @aP (jn @aO G57)))
   refine ae G63 ?_
   (have hst:hlS f c f2 c2 (1+1)=hlS f c f2 c2 1:=(hlS_2 f c f2 c2).trans (if_neg (by omega)))
   refine hJ0 _ _ ⟨k0-1,by omega,_,_,_,⟨1+1,by omega,rfl,rfl⟩,bS hbel [0,1,2,3] (aS @hst)⟩
  refine ae G64 ?_
  (have hst:hlS f c f2 c2 (1+1)=(f2,max (cu f2 f c) (cu f2 f2 c2)):=(hlS_2 f c f2 c2).trans (if_pos (by omega)))
  refine hJ0 _ _ ⟨k0-1,by omega,_,_,_,⟨1+1,by omega,rfl,rfl⟩,bS hbel [0,1,2,3] (aS @hst)⟩
 obtain rfl:j=2:=by omega
 exact eR G65 hQ hbel (.tup [.agg [iV ((hlS f c f2 c2 2).1),iV ((hlS f c f2 c2 2).2)],iV 0]) results101 ⟨rfl,rfl⟩
theorem pinside_c (H:aa)(W Hh:Int)(pp:AV)(xs:List Int)(x y:Int)(hpp:zI H pp xs):zC 139 [.agg [iV W,iV Hh,pp],.agg [iV x,iV y]] H (.bool (inB W Hh x y)) H:=by
 obtain⟨bpp,opp,cpp,rfl,hbpp,hblpp,hb0pp⟩:=zA1 hpp
 refine AcT true func139 ?_;intro hbel Q hQ
 have G1:=jn @hbpp @hb0pp
 refine rgs G1 (fun h1 h1d G2=>?_) (fun h1 h1d G7=>?_)
 ·refine rgs G2 (fun h2 h2d G3=>?_) (fun h2 h2d G6=>?_)
  ·refine rgs G3 (fun h3 h3d G4=>?_) (fun h3 h3d G5=>?_)
   ·exact eR G4 hQ hbel (.bool (decide (y<Hh))) results139 ⟨by simp[inB,h1d,h2d,h3d],rfl⟩
   exact eR G5 hQ hbel (.bool false) results139 ⟨by simp[inB,h1d,h2d,h3d],rfl⟩
  exact eR G6 hQ hbel (.bool false) results139 ⟨by simp[inB,h1d,h2d],rfl⟩
 exact eR G7 hQ hbel (.bool false) results139 ⟨by simp[inB,h1d],rfl⟩
theorem pat_c (H:aa)(W Hh:Int)(pp:AV)(xs:List Int)(x y:Int)(hpp:zI H pp xs)(hV:bQ W Hh xs=true):zC 87 [.agg [iV W,iV Hh,pp],.agg [iV x,iV y]] H (.int .u8 (atI W Hh xs x y)) H:=by
 obtain⟨bpp,opp,cpp,rfl,hbpp,hblpp,hb0pp⟩:=zA1 hpp
 have hVl:=bo.1 hV
 have hll:=hVl.len
 have hpp2:=hVl.pos
 refine AcT true func87 ?_;intro hbel Q hQ
 have G8:=jn @hbpp (jn @hb0pp @hV)
 refine ae G8 ?_
 refine cvr G8 (mi _ W Hh _ xs (.inr (zA2 hb0pp hbpp))) ?_
 refine cv (pinside_c _ W _ _ xs x y (zA2 hb0pp hbpp)) ?_
 refine rcs G8 (fun h1 h1d G9=>?_) (fun h1 h1d _=>?_)
 ·exact eR G9 hQ hbel (.int .u8 2) results87 ⟨by simp[atI,h1d],rfl⟩
 have hin:=h1d
 obtain⟨i1,i2,i3,i4,i5,-⟩:=hVl.idx hin
 have q2:=cn (k:=.u8) (xs:=xs) (j:=((y*W)+x).toNat) (by omega)
 have G10:=jn h1 (jn h1d (jn q2 G8))
 exact eR G10 hQ hbel (.int .u8 (gi xs (((y*W)+x).toNat))) results87 ⟨by simp[atI,h1d],rfl⟩
theorem gT (H:aa)(x m:Int)(h:0<=m/\m<=4611686018427387904):zC 189 [iV x,iV m] H (.bool (br x m)) H:=by
 refine AcT true func189 ?_;intro hbel Q hQ
 refine aB ?_
 refine aV (fun h1=>?_) (fun h1=>?_)
 ·have h1d:=bsT h1
  have G1:=jn h1 @h1d
  exact eS G1 hQ hbel (.bool (decide (x<=m))) results189 ⟨by (simp[br,h1d];omega),rfl⟩
 have h1d:=bsT h1
 have G2:=jn h1 @h1d
 exact eS G2 hQ hbel (.bool false) results189 ⟨by (simp[br,h1d];omega),rfl⟩
theorem pvpt_c (H:aa)(x y:Int):zC 187 [.agg [iV x,iV y]] H (.bool (ptB x y)) H:=by
 refine AcT true func187 ?_;intro hbel Q hQ
 refine aB ?_
 refine cv (gT _ x _ (by decide)) ?_
 refine aB ?_
 refine aV (fun h1=>?_) (fun h1=>?_)
 ·have h1d:=bsT h1
  have G3:=jn h1 @h1d
  refine ae G3 ?_
  refine cvr G3 (gT _ y _ (by decide)) ?_
  exact eP hQ hbel (.bool (br y 1048576)) results187 ⟨by simp[ptB,h1d],rfl⟩
 have h1d:=bsT h1
 have G4:=jn h1 @h1d
 exact eR G4 hQ hbel (.bool false) results187 ⟨by simp[ptB,h1d],rfl⟩
theorem pvrc_c (H:aa)(x0 y0 x1 y1:Int):zC 183 [.agg [iV x0,iV y0,iV x1,iV y1]] H (.bool (io x0 y0 x1 y1)) H:=by
 refine AcT true func183 ?_;intro hbel Q hQ
 refine aB ?_
 refine aV (fun h1=>?_) (fun h1=>?_)
 ·have h1d:=bsT h1
  have G5:=jn h1 @h1d
  refine rgs G5 (fun h2 h2d G6=>?_) (fun h2 h2d G9=>?_)
  ·refine ae G6 ?_
   refine cv (pvpt_c _ _ _) ?_
   refine rgs G6 (fun h3 h3d G7=>?_) (fun h3 h3d G8=>?_)
   ·refine ae G7 ?_
    refine cvr G7 (pvpt_c _ _ _) ?_
    exact eP hQ hbel (.bool (ptB x1 y1)) results183 ⟨by simp[io,h1d,h2d,h3d],rfl⟩
   exact eR G8 hQ hbel (.bool false) results183 ⟨by simp[io,h1d,h2d,h3d],rfl⟩
  exact eR G9 hQ hbel (.bool false) results183 ⟨by simp[io,h1d,h2d],rfl⟩
 have h1d:=bsT h1
 have G10:=jn h1 @h1d
 exact eR G10 hQ hbel (.bool false) results183 ⟨by simp[io,h1d],rfl⟩
theorem span_c (H:aa)(a b:Int)(kba : -2097152<=a/\a<=2097152)(kbb : -2097152<=b/\b<=2097152):zC 237 [iV a,iV b] H (.tup [iV (spl a),iV (sph b)]) H:=by
 refine AcT true func237 ?_;intro hbel Q hQ
 refine aB ?_
 refine cv (mh _ _ _ (by omega) (by omega)) ?_
 refine aB ?_
 refine cv (mh _ b _ (by omega) (by omega)) ?_
 refine aB ?_
 exact eQ hQ hbel (.tup [iV ((0-((0-a)/64))-1),iV (b/64)]) results237 ⟨rfl,rfl⟩
theorem iR (H:aa)(x y:Int)(kbx : -2097152<=x/\x<=2097152)(kby : -2097152<=y/\y<=2097152):zC 157 [.agg [iV x,iV y]] H (.agg [iV (x*64),iV (y*64),iV (x*64+64),iV (y*64+64)]) H:=by
 refine AcT true func157 ?_;intro hbel Q hQ
 refine aB ?_
 exact eP hQ hbel (.agg [iV (x*64),iV (y*64),iV ((x*64)+64),iV ((y*64)+64)]) results157 ⟨rfl,rfl⟩
def dI (W Hh:Int) (xs:List Int):Bool:=bQ W Hh xs&&!(xs.any fun v=>v==0)
def blN (a b:Int):Nat:=(mxI a b/64+1-(mnI a b/64-1)+1).toNat
def blP (W Hh:Int) (xs:List Int) (px py qx qy:Int) (c:Pt):Bool:=atI W Hh xs c.1 c.2==2&&bj px py qx qy (c.1*64) (c.2*64) (c.1*64+64) (c.2*64+64)
def blkB (W Hh:Int) (xs:List Int) (px py qx qy:Int):Bool:=(cL tt2 (mnI px qx/64-1) (blN px qx) (mnI py qy/64-1) (blN py qy)).any (blP W Hh xs px py qx qy)
theorem blk_t {W Hh:Int}{xs:List Int}{px py qx qy:Int}{n m:Nat}(hn:n<blN py qy)(hm:m<blN px qx)(h:blP W Hh xs px py qx qy (mnI px qx/64-1+(m:Int),mnI py qy/64-1+(n:Int))=true):blkB W Hh xs px py qx qy=true :=
 List.any_eq_true.2 ⟨_,iP.2 ⟨by simp only;omega,by simp only;omega,rfl⟩,h⟩
theorem blk_f {W Hh:Int}{xs:List Int}{px py qx qy:Int}(h:∀n m:Nat,n<blN py qy->m<blN px qx->blP W Hh xs px py qx qy (mnI px qx/64-1+(m:Int),mnI py qy/64-1+(n:Int))=false):blkB W Hh xs px py qx qy=false :=
 List.any_eq_false.2 fun c hc=>by
  obtain⟨h1,h2,-⟩:=iP.1 hc
  have:=h (c.2-(mnI py qy/64-1)).toNat (c.1-(mnI px qx/64-1)).toNat (by omega) (by omega)
  rw[show mnI px qx/64-1+(((c.1-(mnI px qx/64-1)).toNat:Nat):Int)=c.1 by omega,show mnI py qy/64-1+(((c.2-(mnI py qy/64-1)).toNat:Nat):Int)=c.2 by omega] at this
  rw[this];decide
theorem mn_r (a b:Int):(if b<a then b else a)=mnI a b:=rfl
theorem mx_r2 (a b:Int):(if a<b then b else a)=mxI a b:=rfl
def stB (W Hh:Int) (xs:List Int) (ax ay ah t f eT eL eX eY:Int):Bool:=decide (nxE ax ay ah t f eT eL eX eY=0)&&((f != 0)&&blkB W Hh xs ax ay (nxX ax ay ah t f eT eL eX eY) (nxY ax ay ah t f eT eL eX eY))
def stX (W Hh:Int) (xs:List Int) (ax ay ah t f eT eL eX eY:Int):Int:=if stB W Hh xs ax ay ah t f eT eL eX eY=true then ax else nxX ax ay ah t f eT eL eX eY
def stY (W Hh:Int) (xs:List Int) (ax ay ah t f eT eL eX eY:Int):Int:=if stB W Hh xs ax ay ah t f eT eL eX eY=true then ay else nxY ax ay ah t f eT eL eX eY
theorem st_f {W Hh:Int}{xs:List Int}{ax ay ah t f eT eL eX eY:Int}(h:stB W Hh xs ax ay ah t f eT eL eX eY=false):stX W Hh xs ax ay ah t f eT eL eX eY=nxX ax ay ah t f eT eL eX eY/\stY W Hh xs ax ay ah t f eT eL eX eY=nxY ax ay ah t f eT eL eX eY:=⟨if_neg (by rw[h];decide),if_neg (by rw[h];decide)⟩
theorem st_t {W Hh:Int}{xs:List Int}{ax ay ah t f eT eL eX eY:Int}(h:stB W Hh xs ax ay ah t f eT eL eX eY=true):stX W Hh xs ax ay ah t f eT eL eX eY=ax/\stY W Hh xs ax ay ah t f eT eL eX eY=ay:=⟨if_pos h,if_pos h⟩
theorem bld_c (H:aa)(W Hh:Int)(pp:AV)(xs:List Int)(hpp:zI H pp xs):zC 104 [.agg [iV W,iV Hh,pp]] H (.bool (dI W Hh xs)) H:=by
 obtain⟨bpp,opp,cpp,rfl,hbpp,hblpp,hb0pp⟩:=zA1 hpp
 refine AcT true func104 ?_;intro hbel Q hQ
 have G1:=jn @hbpp @hb0pp
 refine ae G1 ?_
 refine cv (mj _ W Hh _ xs (.inr (zA2 hb0pp hbpp))) ?_
 refine rcs G1 (fun h1 h1d G2=>?_) (fun h1 h1d G3=>?_)
 ·have hfinD:dI W Hh xs=false:=by unfold dI;rw[h1d];rfl
  exact eR G2 hQ hbel (.bool false) results104 ⟨by first|(rw[hfinD];done)|(unfold dI;simp[h1d,hfinD];done),rfl⟩
 have hV:=h1d
 have hVl:=bo.1 hV
 refine ae G3 ?_
 refine glp (fun k F Hx=>∃i:Nat,i+k=xs.length/\(∀j:Nat,j<i->¬gi xs j=0)/\F=[(1,.ptr (some (H.length,0))),(3,iV (i:Int))]/\Hx=H++[.cells true 0 [iV W,iV Hh,.sl (some (bpp,0)) xs.length cpp]]) (xs.length) ?_ ?_
 ·refine⟨_,_,_,⟨0,by omega,fun j h=>by omega,rfl,rfl⟩,bS hbel [0] aJ⟩
 rintro k0 F Hx ⟨i,hm0,hal,rfl,rfl⟩ J0 hJ0
 have hl4:=hVl.len
 have hl5:=hVl.pos
 refine rcs G3 (fun h2 h2d _=>?_) (fun h2 h2d G7=>?_)
 ·have q3:=cn (k:=.u8) (xs:=xs) (j:=i) (by omega)
  have G4:=jn h2 (jn h2d (jn q3 G3))
  refine rcs G4 (fun h4 h4d _=>?_) (fun h4 h4d _=>?_)
  ·have h4n:=bnT h4
   have hfinD:dI W Hh xs=false:=by
    unfold dI
    have e:xs.any (fun v=>v==0)=true:=List.any_eq_true.2 ⟨xs[i]'(by omega),List.getElem_mem _,by rw[<-fM (show i<xs.length by omega)];simpa using h4d⟩
    rw[e];simp
   have G5:=jn h4 (jn h4n (jn @aP (jn @aO G4)))
   exact eR G5 hQ hbel (.bool false) results104 ⟨by first|(rw[hfinD];done)|(unfold dI;simp[h1d,h2d,h4d,hfinD];done),rfl⟩
  have h4n:=bnT h4
  have hnz:¬gi xs i=0:=by simpa using h4d
  have G6:=jn h4 (jn h4n (jn @aP (jn @aO G4)))
  refine ae G6 ?_
  refine hJ0 _ _ ⟨k0-1,by omega,_,_,_,⟨i+1,by omega,fun j hj=>by
        rcases Nat.lt_or_ge j i with hji|hji
        ·exact hal j hji
        rw[show j=i by omega];exact hnz,rfl,rfl⟩,bS hbel [0] aJ⟩
 have hfinD:dI W Hh xs=true:=by
  unfold dI
  have e:xs.any (fun v=>v==0)=false:=List.any_eq_false.2 fun v hv=>by
   obtain⟨j,hj,rfl⟩:=List.mem_iff_getElem.1 hv
   rw[<-fM hj];simpa using hal j (by omega)
  rw[e,hV];rfl
 exact eR G7 hQ hbel (.bool true) results104 ⟨by first|(rw[hfinD];done)|(unfold dI;simp[h1d,h2d,hfinD];done),rfl⟩
theorem blk_c (H:aa)(W Hh:Int)(pp:AV)(xs:List Int)(px py qx qy:Int)(hpp:zI H pp xs)(hV:bQ W Hh xs=true)(hBl:dI W Hh xs=true)(hp:ptB px py=true)(hq:ptB qx qy=true)(hdx : -1024<=px-qx/\px-qx<=1024)(hdy : -1024<=py-qy/\py-qy<=1024):zC 113 [.agg [iV W,iV Hh,pp],.agg [iV px,iV py],.agg [iV qx,iV qy]] H (.bool (blkB W Hh xs px py qx qy)) H:=by
 obtain⟨bpp,opp,cpp,rfl,hbpp,hblpp,hb0pp⟩:=zA1 hpp
 have hw1:=aL.2 hdx
 have hw2:=aL.2 hdy
 have hpi:=hp
 have hqi:=hq
 simp only[ptB,Bool.and_eq_true,aL] at hpi hqi
 have hmn:=fun a b:Int=>mn_r a b
 have hmx:=fun a b:Int=>mx_r2 a b
 have hx1 : -1048576<=mnI px qx/\mnI px qx<=1048576/\mnI px qx<=mxI px qx/\mxI px qx<=1048576:=by unfold mnI mxI;split<;>split<;>omega
 have hy1 : -1048576<=mnI py qy/\mnI py qy<=1048576/\mnI py qy<=mxI py qy/\mxI py qy<=1048576:=by unfold mnI mxI;split<;>split<;>omega
 have hnx:mnI px qx/64-1+((blN px qx:Nat):Int)=mxI px qx/64+2:=by unfold blN;omega
 have hny:mnI py qy/64-1+((blN py qy:Nat):Int)=mxI py qy/64+2:=by unfold blN;omega
 refine AcT true func113 ?_;intro hbel Q hQ
 have G8:=jn @hbpp (jn @hb0pp (jn @hBl (jn @hp (jn @hq (jn @hw1 (jn @hw2 (jn @hmn @hmx)))))))
 refine ae G8 ?_
 refine cvr G8 (bld_c _ W _ _ xs (zA2 hb0pp hbpp)) ?_
 refine cvr G8 (bpt_c _ _ _) ?_
 refine cvr G8 (bpt_c _ _ _) ?_
 refine cvr G8 (iv _ _ _ (by decide)) ?_
 refine cvr G8 (iv _ _ _ (by decide)) ?_
 refine cvr G8 (fS _ _ _ (by omega) (by omega)) ?_
 refine glp (fun k F Hx=>∃n:Nat,n+k=blN py qy/\(∀j m:Nat,j<n->m<blN px qx->blP W Hh xs px py qx qy (mnI px qx/64-1+(m:Int),mnI py qy/64-1+(j:Int))=false)/\F=[(3,.ptr (some (H.length,0))),(4,.ptr (some (H.length+1,0))),(5,.ptr (some (H.length+2,0))),(7,iV (mnI py qy/64-1+(n:Int)))]/\Hx=H++[.cells true 0 [iV W,iV Hh,.sl (some (bpp,0)) xs.length cpp],.cells true 0 [iV px,iV py],.cells true 0 [iV qx,iV qy]]) (blN py qy) ?_ ?_
 ·refine⟨_,_,_,⟨0,by omega,fun j m h=>by omega,rfl,rfl⟩,bS hbel [0,1,2] (aS (jn @Int.natCast_zero @Int.add_zero))⟩
 rintro k0 F Hx ⟨n,hm0,hout,rfl,rfl⟩ J0 hJ0
 refine ae G8 ?_
 refine cv (fS _ _ _ (by omega) (by omega)) ?_
 refine rcs G8 (fun h1 h1d G9=>?_) (fun h1 h1d G16=>?_)
 ·refine ae G9 ?_
  refine cvr G9 (fS _ _ _ (by omega) (by omega)) ?_
  refine glp (fun k F Hx=>∃m:Nat,m+k=blN px qx/\(∀j:Nat,j<m->blP W Hh xs px py qx qy (mnI px qx/64-1+(j:Int),mnI py qy/64-1+(n:Int))=false)/\F=[(3,.ptr (some (H.length,0))),(4,.ptr (some (H.length+1,0))),(5,.ptr (some (H.length+2,0))),(7,iV (mnI py qy/64-1+(n:Int))),(8,iV (mnI px qx/64-1+(m:Int)))]/\Hx=H++[.cells true 0 [iV W,iV Hh,.sl (some (bpp,0)) xs.length cpp],.cells true 0 [iV px,iV py],.cells true 0 [iV qx,iV qy]]) (blN px qx) ?_ ?_
  ·refine⟨_,_,_,⟨0,by omega,fun j h=>by omega,rfl,rfl⟩,bS hbel [0,1,2] (aS (jn @Int.natCast_zero @Int.add_zero))⟩
  rintro k1 F Hx ⟨m,hm1,hin,rfl,rfl⟩ J1 hJ1
  refine ae G9 ?_
  refine cv (fS _ _ _ (by omega) (by omega)) ?_
  refine rcs G9 (fun h2 h2d G10=>?_) (fun h2 h2d G15=>?_)
  ·refine ae G10 ?_
   refine cd (at_c (x:=(mnI px qx/64-1+(m:Int))) (y:=(mnI py qy/64-1+(n:Int))) (bo.1 hV) (by first|exact hb0pp _|exact hbpp) rfl) ?_
   refine rgs G10 (fun h3 h3d _=>?_) (fun h3 h3d _=>?_)
   ·have h3n:=bnT h3
    have hat2:=h3d
    have G11:=jn h3 (jn h3n (jn @aP (jn @aO G10)))
    refine ae G11 ?_
    refine cdr G11 (iR _ _ _ (by omega) (by omega)) ?_
    refine cd (r5touch_c _ _ _ _ _ _ _ _ _) ?_
    refine rcs G11 (fun h4 h4d G12=>?_) (fun h4 h4d G13=>?_)
    ·have hfinK:blkB W Hh xs px py qx qy=true:=blk_t (n:=n) (m:=m) (by omega) (by omega) (by unfold blP;simp only;rw[h4d,Bool.and_true];simpa using hat2)
     exact eR G12 hQ hbel (.bool true) results113 ⟨by rw[hfinK],rfl⟩
    have hbf:blP W Hh xs px py qx qy (mnI px qx/64-1+(m:Int),mnI py qy/64-1+(n:Int))=false:=by unfold blP;simp only;rw[h4d,Bool.and_false]
    refine ae G13 ?_
    refine hJ1 _ _ ⟨k1-1,by omega,_,_,_,⟨m+1,by omega,fun j hj=>by
          rcases Nat.lt_or_ge j m with hji|hji
          ·exact hin j hji
          rw[show j=m by omega];exact hbf,rfl,rfl⟩,bS hbel [0,1,2] (aS (jn @Int.natCast_add (jn @Int.natCast_one @Int.add_assoc)))⟩
   have h3n:=bnT h3
   have hbf:blP W Hh xs px py qx qy (mnI px qx/64-1+(m:Int),mnI py qy/64-1+(n:Int))=false:=by unfold blP;simp only;rw[beq_eq_false_iff_ne.2 h3d];rfl
   have G14:=jn h3 (jn h3n (jn @aP (jn @aO G10)))
   refine ae G14 ?_
   refine hJ1 _ _ ⟨k1-1,by omega,_,_,_,⟨m+1,by omega,fun j hj=>by
         rcases Nat.lt_or_ge j m with hji|hji
         ·exact hin j hji
         rw[show j=m by omega];exact hbf,rfl,rfl⟩,bS hbel [0,1,2] (aS (jn @Int.natCast_add (jn @Int.natCast_one @Int.add_assoc)))⟩
  obtain rfl:m=blN px qx:=by omega
  refine ae G15 ?_
  refine hJ0 _ _ ⟨k0-1,by omega,_,_,_,⟨n+1,by omega,fun j m hj hm=>by
        rcases Nat.lt_or_ge j n with hji|hji
        ·exact hout j m hji hm
        rw[show j=n by omega];exact hin m hm,rfl,rfl⟩,bS hbel [0,1,2] (aS (jn @Int.natCast_add (jn @Int.natCast_one @Int.add_assoc)))⟩
 have hfinK:blkB W Hh xs px py qx qy=false:=blk_f fun j m hj hm=>hout j m (by omega) hm
 exact eR G16 hQ hbel (.bool false) results113 ⟨by rw[hfinK],rfl⟩
theorem step_c (H:aa)(W Hh:Int)(pp:AV)(xs:List Int)(ax ay ah t f eT eL eX eY:Int)(hpp:zI H pp xs)(hV:bQ W Hh xs=true)(hBl:dI W Hh xs=true)(hP:dd ax ay ah=true):zC 62 [.agg [iV W,iV Hh,pp],.agg [iV ax,iV ay,iV ah],.agg [iV t,iV f],.agg [iV eT,iV eL,iV eX,iV eY]] H (.tup [.agg [iV (stX W Hh xs ax ay ah t f eT eL eX eY),iV (stY W Hh xs ax ay ah t f eT eL eX eY),iV (nxH ax ay ah t f eT eL eX eY)],.bool (stB W Hh xs ax ay ah t f eT eL eX eY),iV (nxE ax ay ah t f eT eL eX eY)]) H:=by
 obtain⟨bpp,opp,cpp,rfl,hbpp,hblpp,hb0pp⟩:=zA1 hpp
 refine AcT true func62 ?_;intro hbel Q hQ
 have G17:=jn @hbpp (jn @hb0pp (jn @hV @hBl))
 refine ae G17 ?_
 refine cvr G17 (mj _ W Hh _ xs (.inr (zA2 hb0pp hbpp))) ?_
 refine cvr G17 (bld_c _ W _ _ xs (zA2 hb0pp hbpp)) ?_
 refine cv (next_c _ _ _ _ t f _ _ _ _) ?_
 refine rcs G17 (fun h1 h1d _=>?_) (fun h1 h1d _=>?_)
 ·have h1n:=bnT h1
  have hne:¬nxE ax ay ah t f eT eL eX eY=0:=by simpa using h1d
  obtain⟨e1,e2,hfinH⟩:=iQ rfl hne
  have hfinB:stB W Hh xs ax ay ah t f eT eL eX eY=false:=by unfold stB;rw[decide_eq_false hne];rfl
  have hfinX:=(st_f hfinB).1.trans e1
  have hfinY:=(st_f hfinB).2.trans e2
  have hfinE:nxE ax ay ah t f eT eL eX eY=nxE ax ay ah t f eT eL eX eY:=rfl
  have G18:=jn h1 (jn h1n (jn @aP (jn @aO G17)))
  exact eR G18 hQ hbel (.tup [.agg [iV 0,iV 0,iV 0],.bool false,iV (nxE ax ay ah t f eT eL eX eY)]) results62 ⟨by first|(rw[hfinX,hfinY,hfinH,hfinB,hfinE];done)|(rw[hfinX,hfinY,hfinB,hfinE];done)|(rw[hfinX,hfinY,hfinH,hfinB];done),rfl⟩
 have h1n:=bnT h1
 have hfinE:nxE ax ay ah t f eT eL eX eY=0:=by simpa using h1d
 have hfinH:nxH ax ay ah t f eT eL eX eY=nxH ax ay ah t f eT eL eX eY:=rfl
 have G19:=jn h1 (jn h1n (jn @aP (jn @aO G17)))
 refine rgs G19 (fun h2 h2d _=>?_) (fun h2 h2d _=>?_)
 ·have h2n:=bnT h2
  have hf0:¬f=0:=by simpa using h2d
  have hpn:=dp.1 (nx_pose hfinE hP)
  have hpp:=dp.1 hP
  have hpp0:=hpp.1
  have hpn0:=hpn.1
  have hwd:=nx_dist hfinE
  have G20:=j2 h2 h2n G19
  refine ae G20 ?_
  refine cv (blk_c _ W _ _ xs _ _ _ _ (zA2 hb0pp hbpp) hV hBl (by first|assumption|exact hpp0) (by first|assumption|exact hpn0) (by omega) (by omega)) ?_
  refine rcs G20 (fun h3 h3d G21=>?_) (fun h3 h3d G22=>?_)
  ·have hfinB:stB W Hh xs ax ay ah t f eT eL eX eY=true:=by unfold stB;rw[decide_eq_true hfinE,h3d];simpa using hf0
   have hfinX:=(st_t hfinB).1
   have hfinY:=(st_t hfinB).2
   exact eR G21 hQ hbel (.tup [.agg [iV ax,iV ay,iV (nxH ax ay ah t f eT eL eX eY)],.bool true,iV 0]) results62 ⟨by first|(rw[hfinX,hfinY,hfinH,hfinB,hfinE];done)|(rw[hfinX,hfinY,hfinB,hfinE];done)|(rw[hfinX,hfinY,hfinH,hfinB];done),rfl⟩
  have hfinB:stB W Hh xs ax ay ah t f eT eL eX eY=false:=by unfold stB;rw[h3d];simp
  have hfinX:=(st_f hfinB).1
  have hfinY:=(st_f hfinB).2
  exact eR G22 hQ hbel (.tup [.agg [iV (nxX ax ay ah t f eT eL eX eY),iV (nxY ax ay ah t f eT eL eX eY),iV (nxH ax ay ah t f eT eL eX eY)],.bool false,iV 0]) results62 ⟨by first|(rw[hfinX,hfinY,hfinH,hfinB,hfinE];done)|(rw[hfinX,hfinY,hfinB,hfinE];done)|(rw[hfinX,hfinY,hfinH,hfinB];done),rfl⟩
 have h2n:=bnT h2
 have hf0:f=0:=by simpa using h2d
 have hfinB:stB W Hh xs ax ay ah t f eT eL eX eY=false:=by unfold stB;rw[hf0];simp
 have hfinX:=(st_f hfinB).1
 have hfinY:=(st_f hfinB).2
 have G23:=j2 h2 h2n G19
 exact eR G23 hQ hbel (.tup [.agg [iV (nxX ax ay ah t f eT eL eX eY),iV (nxY ax ay ah t f eT eL eX eY),iV (nxH ax ay ah t f eT eL eX eY)],.bool false,iV 0]) results62 ⟨by first|(rw[hfinX,hfinY,hfinH,hfinB,hfinE];done)|(rw[hfinX,hfinY,hfinB,hfinE];done)|(rw[hfinX,hfinY,hfinH,hfinB];done),rfl⟩
def fG (n lo hi:Int):Int:=if (if lo-n<0 then 0 else lo-n)<n-hi then n-hi else if lo-n<0 then 0 else lo-n
def gapP (px py x0 y0 x1 y1:Int):Int:=fG px x0 x1*fG px x0 x1+fG py y0 y1*fG py y0 y1
theorem bes_bd {n lo hi M:Int}(h : -M<=n/\n<=M)(h1 : -M<=lo/\lo<=M)(h2 : -M<=hi/\hi<=M):0<=fG n lo hi/\fG n lo hi<=2*M:=by unfold fG;split<;>split<;>omega
def fA (a b:Vec):Vec:=dW (a.1*b.1-a.2.1*b.2.1) (a.1*b.2.1+a.2.1*b.1) (a.2.2*b.2.2)
def aG (h m:Int):Vec:=fA (bK h) (bK m)
def du (x y d:Int):Bool:=decide (1<=d)&&(decide (d<=67108864)&&(decide (-d<=x)&&(decide (x<=d)&&(decide (-d<=y)&&(decide (y<=d)&&decide (x*x+y*y=d*d))))))
theorem bi {x y d:Int}:du x y d=true↔(1<=d/\d<=67108864)/\(-d<=x/\x<=d)/\(-d<=y/\y<=d)/\x*x+y*y=d*d:=by
 unfold du
 simp only[Bool.and_eq_true,decide_eq_true_eq]
 exact⟨fun ⟨a,b,c,d,e,f,g⟩=>⟨⟨a,b⟩,⟨c,d⟩,⟨e,f⟩,g⟩,fun ⟨⟨a,b⟩,⟨c,d⟩,⟨e,f⟩,g⟩=>⟨a,b,c,d,e,f,g⟩⟩
theorem sq_le_of {x y d:Int}(hd:0<=d)(h:x*x+y*y=d*d):(-d<=x/\x<=d) /\ -d<=y/\y<=d:=by
 have k:∀a b:Int,a*a+b*b=d*d -> -d<=a/\a<=d:=fun a b e=>by
  have hb:0<=b*b:=by
   rcases Int.le_total 0 b with q|q
   ·exact Int.mul_nonneg q q
   exact Int.mul_nonneg_of_nonpos_of_nonpos q q
  constructor
  ·rcases Int.lt_or_le a (-d) with q|q
   ·have t1:=Int.mul_le_mul_of_nonneg_left (show d <= -a by omega) hd
    have t2:=Int.mul_lt_mul_of_pos_right (show d < -a by omega) (show 0 < -a by omega)
    rw[Int.neg_mul_neg] at t2;omega
   exact q
  rcases Int.lt_or_le d a with q|q
  ·have t1:=Int.mul_le_mul_of_nonneg_left (show d<=a by omega) hd
   have t2:=Int.mul_lt_mul_of_pos_right (show d<a by omega) (show 0<a by omega)
   omega
  exact q
 exact⟨k x y h,k y x (by omega)⟩
theorem tur_ok {a b:Vec}(ha:fL a=true)(hb:fL b=true):du (fA a b).1 (fA a b).2.1 (fA a b).2.2=true:=by
 obtain⟨⟨a1,a2⟩,⟨a3,a4⟩,⟨a5,a6⟩,a7⟩:=c9.1 ha
 obtain⟨⟨b1,b2⟩,⟨b3,b4⟩,⟨b5,b6⟩,b7⟩:=c9.1 hb
 unfold fA
 have hd:0<a.2.2*b.2.2:=Int.mul_pos (by omega) (by omega)
 have hD:a.2.2*b.2.2<=8065*8065:=Int.mul_le_mul a2 b2 (by omega) (by omega)
 obtain⟨g,hg,e1,e2,e3⟩:=lowV_mul (x:=a.1*b.1-a.2.1*b.2.1) (y:=a.1*b.2.1+a.2.1*b.1) (show a.2.2*b.2.2≠0 by omega)
 have q:(a.1*b.1-a.2.1*b.2.1)*(a.1*b.1-a.2.1*b.2.1)+(a.1*b.2.1+a.2.1*b.1)*(a.1*b.2.1+a.2.1*b.1)=(a.2.2*b.2.2)*(a.2.2*b.2.2):=by
  have z1:(a.1*b.1-a.2.1*b.2.1)*(a.1*b.1-a.2.1*b.2.1)+(a.1*b.2.1+a.2.1*b.1)*(a.1*b.2.1+a.2.1*b.1)=(a.1*a.1+a.2.1*a.2.1)*(b.1*b.1+b.2.1*b.2.1):=by grind
  rw[z1,a7,b7];grind
 generalize dW (a.1*b.1-a.2.1*b.2.1) (a.1*b.2.1+a.2.1*b.1) (a.2.2*b.2.2)=v at *
 rw[e1,e2,e3] at q
 rw[e3] at hd hD
 have vp:0<v.2.2:=by
  rcases Int.lt_or_le 0 v.2.2 with k|k
  ·exact k
  have:=Int.mul_nonpos_of_nonpos_of_nonneg k (show 0<=g by omega)
  omega
 have vl:v.2.2<=v.2.2*g:=by
  have:=Int.mul_le_mul_of_nonneg_left (show 1<=g by omega) (show 0<=v.2.2 by omega)
  omega
 have s:v.1*v.1+v.2.1*v.2.1=v.2.2*v.2.2:=by
  have z:(v.1*v.1+v.2.1*v.2.1)*(g*g)=v.2.2*v.2.2*(g*g):=by grind
  exact Int.eq_of_mul_eq_mul_right (show g*g≠0 by have:=Int.mul_pos hg hg;omega) z
 have r:=sq_le_of (show 0<=v.2.2 by omega) s
 exact bi.2 ⟨⟨by omega,by omega⟩,r.1,r.2,s⟩
theorem beam_ok (h m:Int):du (aG h m).1 (aG h m).2.1 (aG h m).2.2=true:=tur_ok (fD h) (fD m)
theorem mo {v:Vec}(h:fL v=true):du v.1 v.2.1 v.2.2=true:=by
 obtain⟨a,b,c,d⟩:=c9.1 h
 exact bi.2 ⟨by omega,b,c,d⟩
theorem vec_nz {x y d:Int}(h:du x y d=true):¬(x=0/\y=0):=fun k=>by
 obtain⟨⟨h1,-⟩,-,-,h⟩:=bi.1 h
 rw[k.1,k.2] at h
 have:=Int.mul_pos (show 0<d by omega) (show 0<d by omega)
 omega
abbrev Fr2:=Int×Int
theorem fY {a b c d e f:Int}(hb:0<b)(hd:0<d)(hf:0<f)(h1:a*d<=c*b)(h2:c*f<=e*d):a*f<=e*b:=by
 have k1:=Int.mul_le_mul_of_nonneg_right h1 (show 0<=f by omega)
 have k2:=Int.mul_le_mul_of_nonneg_right h2 (show 0<=b by omega)
 have e1:a*d*f=a*f*d:=by grind
 have e2:c*b*f=c*f*b:=by grind
 have e3:e*d*b=e*b*d:=by grind
 rw[e1,e2] at k1
 rw[e3] at k2
 exact Int.le_of_mul_le_mul_right (Int.le_trans k1 k2) hd
theorem mX {a b c d e f:Int}(hb:0<b)(hd:0<d)(hf:0<f)(h1:a*d<=c*b)(h2:c*f<e*d):a*f<e*b:=by
 have k1:=Int.mul_le_mul_of_nonneg_right h1 (show 0<=f by omega)
 have k2:=Int.mul_lt_mul_of_pos_right h2 hb
 have e1:a*d*f=a*f*d:=by grind
 have e2:c*b*f=c*f*b:=by grind
 have e3:e*d*b=e*b*d:=by grind
 rw[e1,e2] at k1
 rw[e3] at k2
 exact Int.lt_of_mul_lt_mul_right (Int.lt_of_le_of_lt k1 k2) (show 0<=d by omega)
def mxF (s l:Fr2):Fr2:=if s.1*l.2<l.1*s.2 then l else s
def mnF (s h:Fr2):Fr2:=if h.1*s.2<s.1*h.2 then h else s
theorem mxF_pos {s l:Fr2}(hs:0<s.2)(hl:0<l.2):0<(mxF s l).2:=by unfold mxF;split<;>assumption
theorem mnF_pos {s h:Fr2}(hs:0<s.2)(hh:0<h.2):0<(mnF s h).2:=by unfold mnF;split<;>assumption
theorem oa {s l:Fr2}{n m:Int}(hs:0<s.2)(hl:0<l.2)(hm:0<m):(mxF s l).1*m<=n*(mxF s l).2↔s.1*m<=n*s.2/\l.1*m<=n*l.2:=by
 unfold mxF
 split
 ·rename_i h
  exact⟨fun k=>⟨fY hs hl hm (by omega) k,k⟩,fun k=>k.2⟩
 rename_i h
 exact⟨fun k=>⟨k,fY hl hs hm (by omega) k⟩,fun k=>k.1⟩
theorem ob {s h:Fr2}{n m:Int}(hs:0<s.2)(hh:0<h.2)(hm:0<m):n*(mnF s h).2<=(mnF s h).1*m↔n*s.2<=s.1*m/\n*h.2<=h.1*m:=by
 unfold mnF
 split
 ·rename_i g
  exact⟨fun k=>⟨fY hm hh hs k (by omega),k⟩,fun k=>k.2⟩
 rename_i g
 exact⟨fun k=>⟨k,fY hm hs hh k (by omega)⟩,fun k=>k.1⟩
def sbL (p d a b:Int):Fr2:=if d<0 then (p-b,-d) else (a-p,d)
def sbH (p d a b:Int):Fr2:=if d<0 then (p-a,-d) else (b-p,d)
theorem cX {p d a b:Int}(hd:¬d=0):0<(sbL p d a b).2/\0<(sbH p d a b).2:=by
 unfold sbL sbH;split<;>exact⟨by simp only;omega,by simp only;omega⟩
theorem sb_in {p d a b n m:Int}:((sbL p d a b).1*m<=n*(sbL p d a b).2/\n*(sbH p d a b).2<=(sbH p d a b).1*m)↔(m*a<=m*p+n*d/\m*p+n*d<=m*b):=by
 unfold sbL sbH
 split
 ·simp only
  have e1:(p-b)*m=m*p-m*b:=by grind
  have e2:(p-a)*m=m*p-m*a:=by grind
  have e3:n * -d = -(n*d):=by grind
  omega
 simp only
 have e1:(a-p)*m=m*a-m*p:=by grind
 have e2:(b-p)*m=m*b-m*p:=by grind
 omega
def dc (px py vx vy x0 y0 x1 y1 n m:Int):Prop:=(m*x0<=m*px+n*vx/\m*px+n*vx<=m*x1)/\m*y0<=m*py+n*vy/\m*py+n*vy<=m*y1
def bk (s:Fr2×Fr2) (p d a b:Int):Fr2×Fr2:=if d=0 then s else (mxF s.1 (sbL p d a b),mnF s.2 (sbH p d a b))
def de (s:Fr2×Fr2) (p d a b:Int):Bool:=if d=0 then decide (a<=p)&&decide (p<=b) else !decide ((bk s p d a b).2.1*(bk s p d a b).1.2<(bk s p d a b).1.1*(bk s p d a b).2.2)
def okS (s:Fr2×Fr2):Prop:=0<s.1.2/\0<s.2.2
def inS (s:Fr2×Fr2) (n m:Int):Prop:=s.1.1*m<=n*s.1.2/\n*s.2.2<=s.2.1*m
theorem dT {s:Fr2×Fr2}{p d a b:Int}(h:okS s):okS (bk s p d a b):=by
 unfold bk;split
 ·exact h
 rename_i hd
 exact⟨mxF_pos h.1 (cX hd).1,mnF_pos h.2 (cX hd).2⟩
theorem mq {s:Fr2×Fr2}{p d a b n m:Int}(h:okS s)(hm:0<m)(hd0:d=0->a<=p/\p<=b):inS (bk s p d a b) n m↔inS s n m/\m*a<=m*p+n*d/\m*p+n*d<=m*b:=by
 unfold bk;split
 ·rename_i hd
  have hh:=hd0 hd
  have k1:=Int.mul_le_mul_of_nonneg_left hh.1 (show 0<=m by omega)
  have k2:=Int.mul_le_mul_of_nonneg_left hh.2 (show 0<=m by omega)
  rw[hd,Int.mul_zero,Int.add_zero]
  exact⟨fun k=>⟨k,k1,k2⟩,fun k=>k.1⟩
 rename_i hd
 unfold inS
 simp only
 rw[oa h.1 (cX hd).1 hm,ob h.2 (cX hd).2 hm,<-sb_in]
 exact⟨fun k=>⟨⟨k.1.1,k.2.1⟩,k.1.2,k.2.2⟩,fun k=>⟨⟨k.1.1,k.2.1⟩,k.1.2,k.2.2⟩⟩
theorem kj {s:Fr2×Fr2}(h:okS s):inS s s.1.1 s.1.2↔¬s.2.1*s.1.2<s.1.1*s.2.2:=by
 unfold inS
 exact⟨fun k=>by have:=k.2;omega,fun k=>⟨by omega,by omega⟩⟩
theorem oS {s:Fr2×Fr2}{n m:Int}(h:okS s)(hm:0<m)(k:inS s n m):¬s.2.1*s.1.2<s.1.1*s.2.2:=by
 have:=fY h.1 hm h.2 k.1 k.2;omega
def fH:Fr2×Fr2:=((0,1),(8388608,1))
def thS (px py vx vy x0 y0 x1 y1:Int):Fr2×Fr2:=bk (bk fH px vx x0 x1) py vy y0 y1
def thB (px py vx vy x0 y0 x1 y1:Int):Bool:=de fH px vx x0 x1&&de (bk fH px vx x0 x1) py vy y0 y1
theorem dL:okS fH:=⟨by decide,by decide⟩
theorem lT {px py vx vy x0 y0 x1 y1:Int}:okS (thS px py vx vy x0 y0 x1 y1):=dT (dT dL)
theorem thS0_in {n m:Int}:inS fH n m↔0<=n/\n<=8388608*m:=by
 unfold inS fH;simp only;omega
theorem ray_far {px py vx vy x0 y0 x1 y1 n m:Int}(hv:¬(vx=0/\vy=0))(hx:px-x0<=8388608/\x1-px<=8388608)(hy:py-y0<=8388608/\y1-py<=8388608)(hn:0<=n)(hm:0<m)(h:dc px py vx vy x0 y0 x1 y1 n m):n<=8388608*m:=by
 obtain⟨⟨h1,h2⟩,h3,h4⟩:=h
 have one:∀{p v a b:Int},¬v=0->p-a<=8388608->b-p<=8388608->m*a<=m*p+n*v->m*p+n*v<=m*b->n<=8388608*m:=fun {p v a b} hv ha hb k1 k2=>by
  rcases (by omega:1<=v\/v <= -1) with h|h
  ·have a1:=Int.mul_le_mul_of_nonneg_left h hn
   have a2:=Int.mul_le_mul_of_nonneg_left hb (show 0<=m by omega)
   have e:m*(b-p)=m*b-m*p:=by grind
   omega
  have a1:=Int.mul_le_mul_of_nonneg_left h hn
  have a2:=Int.mul_le_mul_of_nonneg_left ha (show 0<=m by omega)
  have e:m*(p-a)=m*p-m*a:=by grind
  omega
 by_cases hx0:vx=0
 ·exact one (fun h0=>hv ⟨hx0,h0⟩) hy.1 hy.2 h3 h4
 exact one hx0 hx.1 hx.2 h1 h2
theorem gU {s:Fr2×Fr2}{p d a b:Int}(h:okS s):de s p d a b=true↔(d=0->a<=p/\p<=b)/\(¬d=0->inS (bk s p d a b) (bk s p d a b).1.1 (bk s p d a b).1.2):=by
 unfold de
 split
 ·rename_i hd
  simp only[Bool.and_eq_true,decide_eq_true_eq]
  exact⟨fun k=>⟨fun _=>k,fun h=>absurd hd h⟩,fun k=>k.1 hd⟩
 rename_i hd
 rw[kj (dT h)]
 simp only[Bool.not_eq_true',decide_eq_false_iff_not]
 exact⟨fun k=>⟨fun h=>absurd h hd,fun _=>k⟩,fun k=>k.2 hd⟩
theorem th_in {px py vx vy x0 y0 x1 y1 n m:Int}(hm:0<m)(hb:thB px py vx vy x0 y0 x1 y1=true):inS (thS px py vx vy x0 y0 x1 y1) n m↔(0<=n/\n<=8388608*m)/\dc px py vx vy x0 y0 x1 y1 n m:=by
 unfold thB at hb
 rw[Bool.and_eq_true,gU dL,gU (dT dL)] at hb
 unfold thS dc
 rw[mq (dT dL) hm hb.2.1,mq dL hm hb.1.1,thS0_in]
 exact⟨fun k=>⟨k.1.1,k.1.2,k.2⟩,fun k=>⟨⟨k.1,k.2.1⟩,k.2.2⟩⟩
theorem th_lo {px py vx vy x0 y0 x1 y1:Int}(hv:¬(vx=0/\vy=0))(hb:thB px py vx vy x0 y0 x1 y1=true):inS (thS px py vx vy x0 y0 x1 y1) (thS px py vx vy x0 y0 x1 y1).1.1 (thS px py vx vy x0 y0 x1 y1).1.2:=by
 have hb':=hb
 unfold thB at hb
 rw[Bool.and_eq_true,gU dL,gU (dT dL)] at hb
 by_cases hy:vy=0
 ·have hx:¬vx=0:=fun h=>hv ⟨h,hy⟩
  have e:thS px py vx vy x0 y0 x1 y1=bk fH px vx x0 x1:=if_pos hy
  rw[e];exact hb.1.2 hx
 exact hb.2.2 hy
theorem th_none {px py vx vy x0 y0 x1 y1 n m:Int}(hm:0<m)(hb:thB px py vx vy x0 y0 x1 y1=false)(hn:0<=n/\n<=8388608*m):¬dc px py vx vy x0 y0 x1 y1 n m:=fun k=>by
 have:thB px py vx vy x0 y0 x1 y1=true:=by
  have hx:vx=0->x0<=px/\px<=x1:=fun h=>by
   have k1:=k.1
   rw[h,Int.mul_zero,Int.add_zero] at k1
   exact⟨Int.le_of_mul_le_mul_left k1.1 hm,Int.le_of_mul_le_mul_left k1.2 hm⟩
  have hy:vy=0->y0<=py/\py<=y1:=fun h=>by
   have k1:=k.2
   rw[h,Int.mul_zero,Int.add_zero] at k1
   exact⟨Int.le_of_mul_le_mul_left k1.1 hm,Int.le_of_mul_le_mul_left k1.2 hm⟩
  have i1:inS (bk fH px vx x0 x1) n m:=(mq dL hm hx).2 ⟨thS0_in.2 hn,k.1⟩
  have i2:inS (bk (bk fH px vx x0 x1) py vy y0 y1) n m:=(mq (dT dL) hm hy).2 ⟨i1,k.2⟩
  unfold thB
  rw[Bool.and_eq_true,gU dL,gU (dT dL)]
  exact⟨⟨hx,fun _=>(kj (dT dL)).2 (oS (dT dL) hm i1)⟩,hy,fun _=>(kj (dT (dT dL))).2 (oS (dT (dT dL)) hm i2)⟩
 rw[hb] at this;cases this
def bfrB (px py vx vy vd hi x0 y0 x1 y1:Int):Bool:=thB px py vx vy x0 y0 x1 y1&&decide ((thS px py vx vy x0 y0 x1 y1).1.1*vd<hi*(thS px py vx vy x0 y0 x1 y1).1.2)
def meeB (px py vx vy vd lo hi x0 y0 x1 y1:Int):Bool:=thB px py vx vy x0 y0 x1 y1&&(decide (lo*(thS px py vx vy x0 y0 x1 y1).2.2<=(thS px py vx vy x0 y0 x1 y1).2.1*vd)&&decide ((thS px py vx vy x0 y0 x1 y1).1.1*vd<=hi*(thS px py vx vy x0 y0 x1 y1).1.2))
theorem mr {px py vx vy vd hi x0 y0 x1 y1:Int}(hd:0<vd)(hv:¬(vx=0/\vy=0))(hx:px-x0<=8388608/\x1-px<=8388608)(hy:py-y0<=8388608/\y1-py<=8388608):
  bfrB px py vx vy vd hi x0 y0 x1 y1=true↔∃n m:Int,0<=n/\0<m/\n*vd<hi*m/\dc px py vx vy x0 y0 x1 y1 n m:=by
 unfold bfrB
 rw[Bool.and_eq_true,decide_eq_true_eq]
 constructor
 ·rintro⟨hb,h⟩
  have hl:=(th_in lT.1 hb).1 (th_lo hv hb)
  exact⟨_,_,hl.1.1,lT.1,h,hl.2⟩
 rintro⟨n,m,hn,hm,h,hr⟩
 have hf:=ray_far hv hx hy hn hm hr
 have hb:thB px py vx vy x0 y0 x1 y1=true:=by
  cases hq:thB px py vx vy x0 y0 x1 y1
  ·exact absurd hr (th_none hm hq ⟨hn,hf⟩)
  rfl
 have hi':=(th_in hm hb).2 ⟨⟨hn,hf⟩,hr⟩
 refine⟨hb,?_⟩
 have hp:0<(thS px py vx vy x0 y0 x1 y1).1.2:=lT.1
 have h1:=hi'.1
 generalize (thS px py vx vy x0 y0 x1 y1).1.1=a at *
 generalize (thS px py vx vy x0 y0 x1 y1).1.2=b at *
 have k:=mX (a:=a) (b:=b) (c:=n) (d:=m) (e:=hi) (f:=vd) hp hm hd h1 h
 exact k
theorem mu {px py vx vy vd lo hi x0 y0 x1 y1:Int}(hd:0<vd)(hv:¬(vx=0/\vy=0))(hx:px-x0<=8388608/\x1-px<=8388608)(hy:py-y0<=8388608/\y1-py<=8388608)(h0:0<=lo)(hlh:lo<=hi):
  meeB px py vx vy vd lo hi x0 y0 x1 y1=true↔∃n m:Int,0<=n/\0<m/\lo*m<=n*vd/\n*vd<=hi*m/\dc px py vx vy x0 y0 x1 y1 n m:=by
 unfold meeB
 rw[Bool.and_eq_true,Bool.and_eq_true,decide_eq_true_eq,decide_eq_true_eq]
 constructor
 ·rintro⟨hb,h1,h2⟩
  have hl:=th_lo hv hb
  have hp:okS (thS px py vx vy x0 y0 x1 y1):=lT
  have hin:∀n m:Int,0<m->inS (thS px py vx vy x0 y0 x1 y1) n m->(0<=n/\n<=8388608*m)/\dc px py vx vy x0 y0 x1 y1 n m:=fun n m hm=>(th_in hm hb).1
  generalize thS px py vx vy x0 y0 x1 y1=s at *
  by_cases hc:lo*s.1.2<=s.1.1*vd
  ·have k:=hin _ _ hp.1 hl
   exact⟨_,_,k.1.1,hp.1,hc,h2,k.2⟩
  have i:inS s lo vd:=by
   refine⟨by omega,?_⟩
   omega
  have k:=hin _ _ hd i
  have m1:=Int.mul_le_mul_of_nonneg_right hlh (show 0<=vd by omega)
  exact⟨_,_,k.1.1,hd,by omega,by omega,k.2⟩
 rintro⟨n,m,hn,hm,h1,h2,hr⟩
 have hf:=ray_far hv hx hy hn hm hr
 have hb:thB px py vx vy x0 y0 x1 y1=true:=by
  cases hq:thB px py vx vy x0 y0 x1 y1
  ·exact absurd hr (th_none hm hq ⟨hn,hf⟩)
  rfl
 have hi':=(th_in hm hb).2 ⟨⟨hn,hf⟩,hr⟩
 have hp:okS (thS px py vx vy x0 y0 x1 y1):=lT
 refine⟨hb,?_,?_⟩
 ·generalize thS px py vx vy x0 y0 x1 y1=s at *
  have k:=fY (a:=lo) (b:=vd) (c:=n) (d:=m) (e:=s.2.1) (f:=s.2.2) hd hm hp.2 h1 hi'.2
  exact k
 generalize thS px py vx vy x0 y0 x1 y1=s at *
 have k:=fY (a:=s.1.1) (b:=s.1.2) (c:=n) (d:=m) (e:=hi) (f:=vd) hp.1 hm hd hi'.1 h2
 exact k
def axE (p d a b:Int):Bool:=decide (d=0)&&(decide (p<a)||decide (b<p))
def tmL (px py vx vy x0 y0 x1 y1:Int):Fr2 :=
 mxF (if vx=0 then sbL py vy y0 y1 else sbL px vx x0 x1) (if vy=0 then sbL px vx x0 x1 else sbL py vy y0 y1)
def tmH (px py vx vy x0 y0 x1 y1:Int):Fr2 :=
 mnF (if vx=0 then sbH py vy y0 y1 else sbH px vx x0 x1) (if vy=0 then sbH px vx x0 x1 else sbH py vy y0 y1)
def lo0 (s:Fr2):Fr2:=if s.1<0 then (0,1) else s
def tmS (px py vx vy x0 y0 x1 y1:Int):Fr2×Fr2:=(lo0 (tmL px py vx vy x0 y0 x1 y1),tmH px py vx vy x0 y0 x1 y1)
def tmE (px py vx vy x0 y0 x1 y1:Int):Bool:=axE px vx x0 x1||(axE py vy y0 y1||decide ((tmS px py vx vy x0 y0 x1 y1).2.1*(tmS px py vx vy x0 y0 x1 y1).1.2<(tmS px py vx vy x0 y0 x1 y1).1.1*(tmS px py vx vy x0 y0 x1 y1).2.2))
theorem axE_f {p d a b:Int}(h:axE p d a b=false):d=0->a<=p/\p<=b:=fun hd=>by
 unfold axE at h
 simp only[Bool.and_eq_false_iff,Bool.or_eq_false_iff,decide_eq_false_iff_not] at h
 omega
theorem axE_t {p d a b n m:Int}(hm:0<m)(h:axE p d a b=true):¬(m*a<=m*p+n*d/\m*p+n*d<=m*b):=fun k=>by
 unfold axE at h
 simp only[Bool.and_eq_true,Bool.or_eq_true,decide_eq_true_eq] at h
 rw[h.1,Int.mul_zero,Int.add_zero] at k
 have k1:=Int.le_of_mul_le_mul_left k.1 hm
 have k2:=Int.le_of_mul_le_mul_left k.2 hm
 omega
theorem lo0_pos {s:Fr2}(h:0<s.2):0<(lo0 s).2:=by
 unfold lo0
 split
 ·decide
 exact h
theorem lo0_le {s:Fr2}{n m:Int}(h:0<s.2)(hm:0<m):(lo0 s).1*m<=n*(lo0 s).2↔0<=n/\s.1*m<=n*s.2:=by
 unfold lo0;split
 ·rename_i hs
  simp only[Int.zero_mul,Int.mul_one]
  refine⟨fun k=>⟨k,?_⟩,fun k=>k.1⟩
  have k1:=Int.mul_le_mul_of_nonneg_right (show s.1<=0 by omega) (show 0<=m by omega)
  have k2:=Int.mul_nonneg k (show 0<=s.2 by omega)
  rw[Int.zero_mul] at k1;omega
 rename_i hs
 refine⟨fun k=>⟨?_,k⟩,fun k=>k.2⟩
 have k1:=Int.mul_nonneg (show 0<=s.1 by omega) (show 0<=m by omega)
 rcases Int.lt_or_le n 0 with hn|hn
 ·have k2:=Int.mul_lt_mul_of_pos_right hn h
  rw[Int.zero_mul] at k2;omega
 exact hn
theorem tm_pos {px py vx vy x0 y0 x1 y1:Int}(hv:¬(vx=0/\vy=0)):0<(tmL px py vx vy x0 y0 x1 y1).2/\0<(tmH px py vx vy x0 y0 x1 y1).2:=by
 unfold tmL tmH
 constructor
 ·refine mxF_pos ?_ ?_
  ·split
   ·exact(cX (by omega)).1
   exact(cX (by assumption)).1
  split
  ·exact(cX (by omega)).1
  exact(cX (by assumption)).1
 refine mnF_pos ?_ ?_
 ·split
  ·exact(cX (by omega)).2
  exact(cX (by assumption)).2
 split
 ·exact(cX (by omega)).2
 exact(cX (by assumption)).2
theorem ib {px py vx vy x0 y0 x1 y1:Int}(hv:¬(vx=0/\vy=0)):okS (tmS px py vx vy x0 y0 x1 y1):=⟨lo0_pos (tm_pos hv).1,(tm_pos hv).2⟩
theorem tm_in {px py vx vy x0 y0 x1 y1 n m:Int}(hv:¬(vx=0/\vy=0))(hm:0<m)(h1:axE px vx x0 x1=false)(h2:axE py vy y0 y1=false):inS (tmS px py vx vy x0 y0 x1 y1) n m↔0<=n/\dc px py vx vy x0 y0 x1 y1 n m:=by
 have a1:=axE_f h1
 have a2:=axE_f h2
 have z:∀{p d a b:Int},d=0->(a<=p/\p<=b)->(m*a<=m*p+n*d/\m*p+n*d<=m*b):=fun {p d a b} hd k=>by
  rw[hd,Int.mul_zero,Int.add_zero]
  exact⟨Int.mul_le_mul_of_nonneg_left k.1 (by omega),Int.mul_le_mul_of_nonneg_left k.2 (by omega)⟩
 have hp:=tm_pos (px:=px) (py:=py) (x0:=x0) (y0:=y0) (x1:=x1) (y1:=y1) hv
 unfold inS tmS
 simp only
 rw[lo0_le hp.1 hm]
 unfold dc tmL tmH
 by_cases hx:vx=0
 ·have hy:¬vy=0:=fun h=>hv ⟨hx,h⟩
  rw[if_pos hx,if_neg hy,if_pos hx,if_neg hy,oa (cX hy).1 (cX hy).1 hm,ob (cX hy).2 (cX hy).2 hm,<-sb_in (p:=py) (d:=vy)]
  have:=z hx (a1 hx)
  exact⟨fun k=>⟨k.1.1,this,k.1.2.1,k.2.1⟩,fun k=>⟨⟨k.1,k.2.2.1,k.2.2.1⟩,k.2.2.2,k.2.2.2⟩⟩
 by_cases hy:vy=0
 ·rw[if_neg hx,if_pos hy,if_neg hx,if_pos hy,oa (cX hx).1 (cX hx).1 hm,ob (cX hx).2 (cX hx).2 hm,<-sb_in (p:=px) (d:=vx)]
  have:=z hy (a2 hy)
  exact⟨fun k=>⟨k.1.1,⟨k.1.2.1,k.2.1⟩,this⟩,fun k=>⟨⟨k.1,k.2.1.1,k.2.1.1⟩,k.2.1.2,k.2.1.2⟩⟩
 rw[if_neg hx,if_neg hy,if_neg hx,if_neg hy,oa (cX hx).1 (cX hy).1 hm,ob (cX hx).2 (cX hy).2 hm,<-sb_in (p:=px) (d:=vx),<-sb_in (p:=py) (d:=vy)]
 exact⟨fun k=>⟨k.1.1,⟨k.1.2.1,k.2.1⟩,k.1.2.2,k.2.2⟩,fun k=>⟨⟨k.1,k.2.1.1,k.2.2.1⟩,k.2.1.2,k.2.2.2⟩⟩
def rbefB (px py vx vy vd hi x0 y0 x1 y1:Int):Bool:=!tmE px py vx vy x0 y0 x1 y1&&decide ((tmS px py vx vy x0 y0 x1 y1).1.1*vd<hi*(tmS px py vx vy x0 y0 x1 y1).1.2)
theorem tmE_f {px py vx vy x0 y0 x1 y1:Int}(hv:¬(vx=0/\vy=0)):tmE px py vx vy x0 y0 x1 y1=false↔(axE px vx x0 x1=false/\axE py vy y0 y1=false)/\inS (tmS px py vx vy x0 y0 x1 y1) (tmS px py vx vy x0 y0 x1 y1).1.1 (tmS px py vx vy x0 y0 x1 y1).1.2:=by
 rw[kj (ib hv)]
 unfold tmE
 simp only[Bool.or_eq_false_iff,decide_eq_false_iff_not]
 exact⟨fun k=>⟨⟨k.1,k.2.1⟩,k.2.2⟩,fun k=>⟨k.1.1,k.1.2,k.2⟩⟩
theorem tmE_ex {px py vx vy x0 y0 x1 y1 n m:Int}(hv:¬(vx=0/\vy=0))(hn:0<=n)(hm:0<m)(h:dc px py vx vy x0 y0 x1 y1 n m):tmE px py vx vy x0 y0 x1 y1=false/\inS (tmS px py vx vy x0 y0 x1 y1) n m:=by
 have a1:axE px vx x0 x1=false:=by
  cases hq:axE px vx x0 x1
  ·rfl
  exact absurd h.1 (axE_t hm hq)
 have a2:axE py vy y0 y1=false:=by
  cases hq:axE py vy y0 y1
  ·rfl
  exact absurd h.2 (axE_t hm hq)
 have hi:=(tm_in hv hm a1 a2).2 ⟨hn,h⟩
 exact⟨(tmE_f hv).2 ⟨⟨a1,a2⟩,(kj (ib hv)).2 (oS (ib hv) hm hi)⟩,hi⟩
theorem rbef_iff {px py vx vy vd hi x0 y0 x1 y1:Int}(hd:0<vd)(hv:¬(vx=0/\vy=0)):rbefB px py vx vy vd hi x0 y0 x1 y1=true↔∃n m:Int,0<=n/\0<m/\n*vd<hi*m/\dc px py vx vy x0 y0 x1 y1 n m:=by
 unfold rbefB
 rw[Bool.and_eq_true,decide_eq_true_eq,Bool.not_eq_true']
 constructor
 ·rintro⟨hb,h⟩
  have k:=(tmE_f hv).1 hb
  have l:=(tm_in hv (ib hv).1 k.1.1 k.1.2).1 k.2
  exact⟨_,_,l.1,(ib hv).1,h,l.2⟩
 rintro⟨n,m,hn,hm,h,hr⟩
 have k:=tmE_ex hv hn hm hr
 have hp:=ib (px:=px) (py:=py) (x0:=x0) (y0:=y0) (x1:=x1) (y1:=y1) hv
 refine⟨k.1,?_⟩
 have h1:=k.2.1
 generalize tmS px py vx vy x0 y0 x1 y1=s at *
 exact mX (a:=s.1.1) (b:=s.1.2) (c:=n) (d:=m) (e:=hi) (f:=vd) hp.1 hm hd h1 h
theorem bef_eq {px py vx vy vd hi x0 y0 x1 y1:Int}(hd:0<vd)(hv:¬(vx=0/\vy=0))(hx:px-x0<=8388608/\x1-px<=8388608)(hy:py-y0<=8388608/\y1-py<=8388608):bfrB px py vx vy vd hi x0 y0 x1 y1=rbefB px py vx vy vd hi x0 y0 x1 y1 :=
 Bool.eq_iff_iff.2 ((mr hd hv hx hy).trans (rbef_iff hd hv).symm)
theorem low_lt {g n d k:Int}(hg:0<g)(h1:g ∣ n)(h2:g ∣ d):n/g<k*(d/g)↔n<k*d:=by
 obtain⟨a,rfl⟩:=h1
 obtain⟨b,rfl⟩:=h2
 rw[Int.mul_ediv_cancel_left _ (by omega),Int.mul_ediv_cancel_left _ (by omega)]
 have e:k*(g*b)=g*(k*b):=by grind
 rw[e]
 exact(Int.mul_lt_mul_left hg).symm
theorem low_le {g n d k:Int}(hg:0<g)(h1:g ∣ n)(h2:g ∣ d):(n/g<=k*(d/g)↔n<=k*d)/\(k*(d/g)<=n/g↔k*d<=n):=by
 obtain⟨a,rfl⟩:=h1
 obtain⟨b,rfl⟩:=h2
 rw[Int.mul_ediv_cancel_left _ (by omega),Int.mul_ediv_cancel_left _ (by omega)]
 have e:k*(g*b)=g*(k*b):=by grind
 rw[e]
 exact⟨(Int.mul_le_mul_left hg).symm,(Int.mul_le_mul_left hg).symm⟩
theorem reach_bd {v D lo hi n m mn mx:Int}(hD:0<D)(hm:0<m)(h1:lo*m<=n*D)(h2:n*D<=hi*m)(k1:mn<=lo*v)(k2:mn<=hi*v)(k3:lo*v<=mx)(k4:hi*v<=mx):m*(mn/D)<=n*v/\n*v<=m*(mx/D+1):=by
 have q1:D*(mn/D)<=mn:=Int.mul_ediv_self_le (by omega)
 have q2:mx<D*(mx/D+1):=by
  have:=Int.lt_mul_ediv_self_add (x:=mx) hD
  have e:D*(mx/D+1)=D*(mx/D)+D:=by grind
  omega
 have w1:m*mn<=n*v*D/\n*v*D<=m*mx:=by
  have a1:=Int.mul_le_mul_of_nonneg_left k1 (show 0<=m by omega)
  have a2:=Int.mul_le_mul_of_nonneg_left k2 (show 0<=m by omega)
  have a3:=Int.mul_le_mul_of_nonneg_left k3 (show 0<=m by omega)
  have a4:=Int.mul_le_mul_of_nonneg_left k4 (show 0<=m by omega)
  rcases Int.le_total 0 v with hv|hv
  ·have b1:=Int.mul_le_mul_of_nonneg_right h1 hv
   have b2:=Int.mul_le_mul_of_nonneg_right h2 hv
   have e1:lo*m*v=m*(lo*v):=by grind
   have e2:n*D*v=n*v*D:=by grind
   have e3:hi*m*v=m*(hi*v):=by grind
   omega
  have b1:=Int.mul_le_mul_of_nonpos_right h1 hv
  have b2:=Int.mul_le_mul_of_nonpos_right h2 hv
  have e1:lo*m*v=m*(lo*v):=by grind
  have e2:n*D*v=n*v*D:=by grind
  have e3:hi*m*v=m*(hi*v):=by grind
  omega
 constructor
 ·have a1:=Int.mul_le_mul_of_nonneg_left q1 (show 0<=m by omega)
  have e:m*(D*(mn/D))=m*(mn/D)*D:=by grind
  exact Int.le_of_mul_le_mul_right (show m*(mn/D)*D<=n*v*D by omega) hD
 have a1:=Int.mul_le_mul_of_nonneg_left (show mx<=D*(mx/D+1) by omega) (show 0<=m by omega)
 have e:m*(D*(mx/D+1))=m*(mx/D+1)*D:=by grind
 exact Int.le_of_mul_le_mul_right (show n*v*D<=m*(mx/D+1)*D by omega) hD
theorem oc {v D lo hi n m mn mx c X0 X1:Int}(hD:0<D) (hm:0<m) (h1:lo*m<=n*D) (h2:n*D<=hi*m) (k1:mn<=lo*v) (k2:mn<=hi*v) (k3:lo*v<=mx) (k4:hi*v<=mx)
  (hr:m*(c*64-X1)<=m*0+n*v/\m*0+n*v<=m*(c*64+64-X0)):X0+mn/D<=c*64+64/\c*64<=X1+mx/D+1:=by
 have q:=reach_bd hD hm h1 h2 k1 k2 k3 k4
 rw[Int.mul_zero,Int.zero_add] at hr
 have a:=Int.le_of_mul_le_mul_left (Int.le_trans q.1 hr.2) hm
 have b:=Int.le_of_mul_le_mul_left (Int.le_trans hr.1 q.2) hm
 omega
theorem bef_mee {px py vx vy vd hi x0 y0 x1 y1:Int}(h:∃n m:Int,0<=n/\0<m/\n*vd<hi*m/\dc px py vx vy x0 y0 x1 y1 n m)(hd:0<vd):∃n m:Int,0<=n/\0<m/\0*m<=n*vd/\n*vd<=hi*m/\dc px py vx vy x0 y0 x1 y1 n m:=by
 obtain⟨n,m,hn,hm,h,hr⟩:=h
 have:=Int.mul_nonneg hn (show 0<=vd by omega)
 exact⟨n,m,hn,hm,by omega,by omega,hr⟩
theorem ray_sh {px py vx vy x0 y0 x1 y1 n m:Int}:dc px py vx vy x0 y0 x1 y1 n m↔dc 0 0 vx vy (x0-px) (y0-py) (x1-px) (y1-py) n m:=by
 unfold dc
 have e1:m*(x0-px)=m*x0-m*px:=by grind
 have e2:m*(x1-px)=m*x1-m*px:=by grind
 have e3:m*(y0-py)=m*y0-m*py:=by grind
 have e4:m*(y1-py)=m*y1-m*py:=by grind
 rw[e1,e2,e3,e4]
 omega
theorem ray_conv {px qx py vx vy x0 y0 x1 y1 n m n' m' a T vd hi:Int}(hT:0<T) (ha:0<=a/\a<=T) (hn:0<=n) (hm:0<m) (hn':0<=n') (hm':0<m') (hb:n*vd<hi*m) (hb':n'*vd<hi*m') (h:dc px py vx vy x0 y0 x1 y1 n m) (h':dc qx py vx vy x0 y0 x1 y1 n' m')
  {rx:Int} (hx:T*rx=(T-a)*px+a*qx):∃k l:Int,0<=k/\0<l/\k*vd<hi*l/\dc rx py vx vy x0 y0 x1 y1 k l:=by
 obtain⟨⟨a1,a2⟩,a3,a4⟩:=h
 obtain⟨⟨b1,b2⟩,b3,b4⟩:=h'
 -- the point (T-a)*(n/m) + a*(n'/m') over T
 have hTa:0<=T-a:=by omega
 have A:0<=(T-a)*m':=Int.mul_nonneg hTa (by omega)
 have B:0<=a*m:=Int.mul_nonneg ha.1 (by omega)
 have Tmm:0<T*m*m':=Int.mul_pos (Int.mul_pos hT hm) hm'
 refine⟨(T-a)*m'*n+a*m*n',T*m*m',by have:=Int.mul_nonneg A hn;have:=Int.mul_nonneg B hn';omega,Tmm,?_,⟨?_,?_⟩,?_,?_⟩
 ·have s:0<(T-a)*m'\/0<a*m:=by
   rcases (by omega:0<T-a\/0<a) with h|h
   ·exact .inl (Int.mul_pos h hm')
   exact .inr (Int.mul_pos h hm)
  have e1:((T-a)*m'*n+a*m*n')*vd=(T-a)*m'*(n*vd)+a*m*(n'*vd):=by grind
  have e2:hi*(T*m*m')=(T-a)*m'*(hi*m)+a*m*(hi*m'):=by grind
  rw[e1,e2]
  rcases s with s|s
  ·have p1:=Int.mul_lt_mul_of_pos_left hb s
   have p2:=Int.mul_le_mul_of_nonneg_left (Int.le_of_lt hb') B
   omega
  have p1:=Int.mul_le_mul_of_nonneg_left (Int.le_of_lt hb) A
  have p2:=Int.mul_lt_mul_of_pos_left hb' s
  omega
 ·have p1:=Int.mul_le_mul_of_nonneg_left a1 A
  have p2:=Int.mul_le_mul_of_nonneg_left b1 B
  have e:T*m*m'*rx+((T-a)*m'*n+a*m*n')*vx=(T-a)*m'*(m*px+n*vx)+a*m*(m'*qx+n'*vx):=by grind
  have e2:T*m*m'*x0=(T-a)*m'*(m*x0)+a*m*(m'*x0):=by grind
  omega
 ·have p1:=Int.mul_le_mul_of_nonneg_left a2 A
  have p2:=Int.mul_le_mul_of_nonneg_left b2 B
  have e:T*m*m'*rx+((T-a)*m'*n+a*m*n')*vx=(T-a)*m'*(m*px+n*vx)+a*m*(m'*qx+n'*vx):=by grind
  have e2:T*m*m'*x1=(T-a)*m'*(m*x1)+a*m*(m'*x1):=by grind
  omega
 ·have p1:=Int.mul_le_mul_of_nonneg_left a3 A
  have p2:=Int.mul_le_mul_of_nonneg_left b3 B
  have e:T*m*m'*py+((T-a)*m'*n+a*m*n')*vy=(T-a)*m'*(m*py+n*vy)+a*m*(m'*py+n'*vy):=by grind
  have e2:T*m*m'*y0=(T-a)*m'*(m*y0)+a*m*(m'*y0):=by grind
  omega
 have p1:=Int.mul_le_mul_of_nonneg_left a4 A
 have p2:=Int.mul_le_mul_of_nonneg_left b4 B
 have e:T*m*m'*py+((T-a)*m'*n+a*m*n')*vy=(T-a)*m'*(m*py+n*vy)+a*m*(m'*py+n'*vy):=by grind
 have e2:T*m*m'*y1=(T-a)*m'*(m*y1)+a*m*(m'*y1):=by grind
 omega
theorem kQ {px py vx vy x0 y0 x1 y1 n m:Int}:dc px py vx vy x0 y0 x1 y1 n m↔dc py px vy vx y0 x0 y1 x1 n m:=⟨fun h=>⟨h.2,h.1⟩,fun h=>⟨h.2,h.1⟩⟩
def iW (px py vx vy vd hi x0 y0 x1 y1:Int):Prop:=∃n m:Int,0<=n/\0<m/\n*vd<hi*m/\dc px py vx vy x0 y0 x1 y1 n m
theorem np {px py vx vy vd hi x0 y0 x1 y1:Int}:iW px py vx vy vd hi x0 y0 x1 y1↔iW py px vy vx vd hi y0 x0 y1 x1 :=
 ⟨fun ⟨n,m,a,b,c,d⟩=>⟨n,m,a,b,c,kQ.1 d⟩,fun ⟨n,m,a,b,c,d⟩=>⟨n,m,a,b,c,kQ.2 d⟩⟩
theorem nq {ax bx py vx vy vd hi x0 y0 x1 y1 rx:Int}(hr:ax<=rx/\rx<=bx)(h:iW ax py vx vy vd hi x0 y0 x1 y1)(k:iW bx py vx vy vd hi x0 y0 x1 y1):iW rx py vx vy vd hi x0 y0 x1 y1:=by
 by_cases e:ax=bx
 ·rw[show rx=ax by omega];exact h
 obtain⟨n,m,h1,h2,h3,h4⟩:=h
 obtain⟨n',m',k1,k2,k3,k4⟩:=k
 exact ray_conv (T:=bx-ax) (a:=rx-ax) (by omega) (by omega) h1 h2 k1 k2 h3 k3 h4 k4 (by grind)
theorem bef_box {ax ay bx by' vx vy vd hi x0 y0 x1 y1 rx ry:Int}(hx:ax<=rx/\rx<=bx)(hy:ay<=ry/\ry<=by')(h1:iW ax ay vx vy vd hi x0 y0 x1 y1)(h2:iW bx ay vx vy vd hi x0 y0 x1 y1)(h3:iW ax by' vx vy vd hi x0 y0 x1 y1)(h4:iW bx by' vx vy vd hi x0 y0 x1 y1):iW rx ry vx vy vd hi x0 y0 x1 y1 :=
 np.1 (nq hy (np.1 (nq hx h1 h2)) (np.1 (nq hx h3 h4)))
theorem mee_box {ax ay bx by' vx vy vd lo hi x0 y0 x1 y1 rx ry:Int}(hx:ax<=rx/\rx<=bx)(hy:ay<=ry/\ry<=by')(h:∃n m:Int,0<=n/\0<m/\lo*m<=n*vd/\n*vd<=hi*m/\dc rx ry vx vy x0 y0 x1 y1 n m):
  ∃n m:Int,0<=n/\0<m/\lo*m<=n*vd/\n*vd<=hi*m/\dc 0 0 vx vy (x0-bx) (y0-by') (x1-ax) (y1-ay) n m:=by
 obtain⟨n,m,h1,h2,h3,h4,⟨a1,a2⟩,a3,a4⟩:=h
 refine⟨n,m,h1,h2,h3,h4,⟨?_,?_⟩,?_,?_⟩
 ·have:=Int.mul_le_mul_of_nonneg_left hx.2 (show 0<=m by omega)
  have e:m*(x0-bx)=m*x0-m*bx:=by grind
  omega
 ·have:=Int.mul_le_mul_of_nonneg_left hx.1 (show 0<=m by omega)
  have e:m*(x1-ax)=m*x1-m*ax:=by grind
  omega
 ·have:=Int.mul_le_mul_of_nonneg_left hy.2 (show 0<=m by omega)
  have e:m*(y0-by')=m*y0-m*by':=by grind
  omega
 have:=Int.mul_le_mul_of_nonneg_left hy.1 (show 0<=m by omega)
 have e:m*(y1-ay)=m*y1-m*ay:=by grind
 omega
theorem sC {px py vx vy vd far cx cy mnx mxx mny mxy:Int}(hd:0<vd) (hv:¬(vx=0/\vy=0)) (hpx : -1048576<=px/\px<=1048576) (hpy : -1048576<=py/\py<=1048576) (hcx : -16384<=cx/\cx<=16384) (hcy : -16384<=cy/\cy<=16384) (hfar:0<=far)
  (x1:mnx<=0*vx) (x2:mnx<=far*vx) (x3:0*vx<=mxx) (x4:far*vx<=mxx) (y1:mny<=0*vy) (y2:mny<=far*vy) (y3:0*vy<=mxy) (y4:far*vy<=mxy)
  (h:bfrB px py vx vy vd far (cx*64) (cy*64) (cx*64+64) (cy*64+64)=true) :
  meeB 0 0 vx vy vd 0 far (cx*64-px) (cy*64-py) (cx*64+64-px) (cy*64+64-py)=true/\(px+mnx/vd<=cx*64+64/\cx*64<=px+mxx/vd+1)/\py+mny/vd<=cy*64+64/\cy*64<=py+mxy/vd+1:=by
 have q:=bef_mee ((mr hd hv (by omega) (by omega)).1 h) hd
 obtain⟨n,m,hn,hm,h1,h2,hr⟩:=q
 have hs:=ray_sh.1 hr
 refine⟨(mu hd hv (by omega) (by omega) (by omega) hfar).2 ⟨n,m,hn,hm,h1,h2,hs⟩,?_,?_⟩
 ·exact oc (X0:=px) (X1:=px) hd hm h1 h2 x1 x2 x3 x4 hs.1
 exact oc (X0:=py) (X1:=py) hd hm h1 h2 y1 y2 y3 y4 hs.2
theorem mee_range {X0 Y0 X1 Y1 vx vy vd lo hi cx cy mnx mxx mny mxy:Int}(hd:0<vd) (hv:¬(vx=0/\vy=0)) (hX : -1048576<=X0/\X1<=1048576/\X0<=X1) (hY : -1048576<=Y0/\Y1<=1048576/\Y0<=Y1) (hcx : -32768<=cx/\cx<=32768) (hcy : -32768<=cy/\cy<=32768) (hlo:0<=lo) (hlh:lo<=hi)
  (x1:mnx<=lo*vx) (x2:mnx<=hi*vx) (x3:lo*vx<=mxx) (x4:hi*vx<=mxx) (y1:mny<=lo*vy) (y2:mny<=hi*vy) (y3:lo*vy<=mxy) (y4:hi*vy<=mxy)
  (h:meeB 0 0 vx vy vd lo hi (cx*64-X1) (cy*64-Y1) (cx*64+64-X0) (cy*64+64-Y0)=true) :
  (X0+mnx/vd<=cx*64+64/\cx*64<=X1+mxx/vd+1)/\Y0+mny/vd<=cy*64+64/\cy*64<=Y1+mxy/vd+1:=by
 obtain⟨n,m,hn,hm,h1,h2,hr⟩:=(mu hd hv (by omega) (by omega) hlo hlh).1 h
 exact⟨oc hd hm h1 h2 x1 x2 x3 x4 hr.1,oc hd hm h1 h2 y1 y2 y3 y4 hr.2⟩
def thG (px py vx vy vd x0 y0 x1 y1:Int):Bool:=lnP px py&&(du vx vy vd&&lnR x0 y0 x1 y1)
def ef (px py vx vy vd lo hi x0 y0 x1 y1:Int):Bool:=decide (0<=lo)&&(decide (lo<=hi)&&(decide (hi<=65536)&&(thG px py vx vy vd x0 y0 x1 y1&&meeB px py vx vy vd lo hi x0 y0 x1 y1)))
def dm (px py vx vy vd hi x0 y0 x1 y1:Int):Bool:=decide (0<=hi)&&(decide (hi<=65536)&&(thG px py vx vy vd x0 y0 x1 y1&&bfrB px py vx vy vd hi x0 y0 x1 y1))
theorem cl {px py vx vy vd x0 y0 x1 y1:Int}:thG px py vx vy vd x0 y0 x1 y1=true↔lnP px py=true/\du vx vy vd=true/\lnR x0 y0 x1 y1=true:=by
 unfold thG;simp only[Bool.and_eq_true]
theorem dM {px py vx vy vd x0 y0 x1 y1:Int}(h:thG px py vx vy vd x0 y0 x1 y1=true):0<vd/\¬(vx=0/\vy=0):=by
 have h:=(cl.1 h).2.1
 exact⟨by have:=(bi.1 h).1;omega,vec_nz h⟩
theorem jC {px py vx vy vd x0 y0 x1 y1:Int}(h:thG px py vx vy vd x0 y0 x1 y1=true):(px-x0<=8388608/\x1-px<=8388608)/\(py-y0<=8388608/\y1-py<=8388608):=by
 obtain⟨h1,-,h2⟩:=cl.1 h
 have h1:=cO.1 h1
 have h2:=bZ.1 h2
 omega
def bdSp (s:Fr2×Fr2):Prop:=((-8388608<=s.1.1/\s.1.1<=8388608)/\1<=s.1.2/\s.1.2<=67108864)/\(-8388608<=s.2.1/\s.2.1<=8388608)/\1<=s.2.2/\s.2.2<=67108864
def bdF (f:Fr2):Prop:=(-8388608<=f.1/\f.1<=8388608)/\1<=f.2/\f.2<=67108864
theorem mxF_bd {s l:Fr2}(hs:bdF s)(hl:bdF l):bdF (mxF s l):=by unfold mxF;split<;>assumption
theorem mnF_bd {s l:Fr2}(hs:bdF s)(hl:bdF l):bdF (mnF s l):=by unfold mnF;split<;>assumption
theorem mw {p d a b:Int}(hp : -2097152<=p/\p<=2097152)(ha : -2097152<=a/\a<=2097152)(hb : -2097152<=b/\b<=2097152)(hd : -67108864<=d/\d<=67108864)(h0:¬d=0):bdF (sbL p d a b)/\bdF (sbH p d a b):=by
 unfold sbL sbH bdF;split<;>(simp only;omega)
theorem slab_bd {s:Fr2×Fr2}{p d a b:Int}(h:bdSp s)(hp : -2097152<=p/\p<=2097152)(ha : -2097152<=a/\a<=2097152)(hb : -2097152<=b/\b<=2097152)(hd : -67108864<=d/\d<=67108864):bdSp (bk s p d a b):=by
 unfold bk;split
 ·exact h
 rename_i h0
 have k:=mw hp ha hb hd h0
 exact⟨mxF_bd h.1 k.1,mnF_bd h.2 k.2⟩
theorem thS0_bd:bdSp fH:=by unfold bdSp fH;decide
theorem thS_bd {px py vx vy vd x0 y0 x1 y1:Int}(h:thG px py vx vy vd x0 y0 x1 y1=true):bdSp (bk fH px vx x0 x1)/\bdSp (thS px py vx vy x0 y0 x1 y1):=by
 obtain⟨h1,h3,h2⟩:=cl.1 h
 have h1:=cO.1 h1
 have h2:=bZ.1 h2
 have h3:=bi.1 h3
 have k:=slab_bd (a:=x0) (b:=x1) (p:=px) (d:=vx) thS0_bd (by omega) (by omega) (by omega) (by omega)
 exact⟨k,slab_bd k (by omega) (by omega) (by omega) (by omega)⟩
theorem tmS_bd {px py vx vy vd x0 y0 x1 y1:Int}(h:thG px py vx vy vd x0 y0 x1 y1=true):bdSp (tmS px py vx vy x0 y0 x1 y1):=by
 have hz:=(dM h).2
 obtain⟨h1,h3,h2⟩:=cl.1 h
 have h1:=cO.1 h1
 have h2:=bZ.1 h2
 have h3:=bi.1 h3
 have l0:∀{f:Fr2},bdF f->bdF (lo0 f):=fun {f} hf=>by
  unfold lo0;split
  ·unfold bdF;decide
  exact hf
 have kx:=fun h0=>mw (p:=px) (d:=vx) (a:=x0) (b:=x1) (by omega) (by omega) (by omega) (by omega) h0
 have ky:=fun h0=>mw (p:=py) (d:=vy) (a:=y0) (b:=y1) (by omega) (by omega) (by omega) (by omega) h0
 unfold tmS tmL tmH
 refine⟨l0 (mxF_bd ?_ ?_),mnF_bd ?_ ?_⟩
 ·split
  ·exact(ky (by omega)).1
  exact(kx (by omega)).1
 ·split
  ·exact(kx (by omega)).1
  exact(ky (by omega)).1
 ·split
  ·exact(ky (by omega)).2
  exact(kx (by omega)).2
 split
 ·exact(kx (by omega)).2
 exact(ky (by omega)).2
theorem tmS_nn {px py vx vy x0 y0 x1 y1:Int}:0<=(tmS px py vx vy x0 y0 x1 y1).1.1:=by
 unfold tmS lo0;simp only;split
 ·decide
 omega
theorem sbf_ref {px py vx vy vd hi x0 y0 x1 y1:Int}:dm px py vx vy vd hi x0 y0 x1 y1=(decide (0<=hi)&&(decide (hi<=65536)&&(thG px py vx vy vd x0 y0 x1 y1&&rbefB px py vx vy vd hi x0 y0 x1 y1))):=by
 unfold dm
 by_cases h:thG px py vx vy vd x0 y0 x1 y1=true
 ·have k:=dM h
  have n:=jC h
  rw[bef_eq k.1 k.2 n.1 n.2]
 rw[Bool.not_eq_true] at h;rw[h];simp
def fg (a0 b0 a1 b1 x0 y0 x1 y1:Int):Bool:=lnR a0 b0 a1 b1&&(lnR x0 y0 x1 y1&&lnR (a0-x1) (b0-y1) (a1-x0) (b1-y0))
def aF (a n d lo hi:Int):Int:=a+(if hi*n<lo*n then hi*n else lo*n)/d
def bO (b n d lo hi:Int):Int:=b+(if lo*n<hi*n then hi*n else lo*n)/d+1
def cH (x0 y0 x1 y1 vx vy vd lo hi:Int) (cx cy:Int):Bool:=fg (cx*64) (cy*64) (cx*64+64) (cy*64+64) x0 y0 x1 y1&&ef 0 0 vx vy vd lo hi (cx*64-x1) (cy*64-y1) (cx*64+64-x0) (cy*64+64-y0)
def d7 (x0 y0 x1 y1 vx vy vd lo hi:Int):List (Int×Int):=cL (cH x0 y0 x1 y1 vx vy vd lo hi) (spl (aF x0 vx vd lo hi)) (cG (aF x0 vx vd lo hi) (bO x1 vx vd lo hi)) (spl (aF y0 vy vd lo hi)) (cG (aF y0 vy vd lo hi) (bO y1 vy vd lo hi))
theorem kl {a b n d lo hi:Int}(hd:0<d)(hn : -d<=n/\n<=d)(h0:0<=lo)(hh:lo<=hi)(h1:hi<=2048):(a-2048<=aF a n d lo hi/\aF a n d lo hi<=a+2048)/\(b-2047<=bO b n d lo hi/\bO b n d lo hi<=b+2049)/\(a<=b->aF a n d lo hi<=bO b n d lo hi):=by
 have k:∀m:Int,0<=m->m<=2048 -> -2048*d<=m*n/\m*n<=2048*d:=fun m m0 m1=>by
  have a1:=Int.mul_le_mul_of_nonneg_left hn.1 m0
  have a2:=Int.mul_le_mul_of_nonneg_left hn.2 m0
  have a3:=Int.mul_le_mul_of_nonneg_right m1 (show 0<=d by omega)
  have e:m * -d = -(m*d):=Int.mul_neg _ _
  omega
 have q:∀m:Int,-2048*d<=m->m<=2048*d -> -2048<=m/d/\m/d<=2048:=fun m h h'=>⟨(Int.le_ediv_iff_mul_le hd).2 h,Int.ediv_le_of_le_mul hd h'⟩
 have k1:=k lo h0 (by omega)
 have k2:=k hi (by omega) h1
 have m1:∀m:Int,m=(if hi*n<lo*n then hi*n else lo*n) -> -2048<=m/d/\m/d<=2048:=fun m e=>q m (by rw[e];split<;>omega) (by rw[e];split<;>omega)
 have m2:∀m:Int,m=(if lo*n<hi*n then hi*n else lo*n) -> -2048<=m/d/\m/d<=2048:=fun m e=>q m (by rw[e];split<;>omega) (by rw[e];split<;>omega)
 have r1:=m1 _ rfl
 have r2:=m2 _ rfl
 have r3:(if hi*n<lo*n then hi*n else lo*n)/d<=(if lo*n<hi*n then hi*n else lo*n)/d:=Int.ediv_le_ediv hd (by split<;>split<;>omega)
 unfold aF bO
 omega
theorem my {a b:Int}(h : -1050624<=a/\a<=b/\b<=1050625):(-16418<=spl a/\spl a<=16416)/\(-16417<=sph b/\sph b<=16416)/\spl a<=sph b/\spl a+(cG a b:Int)=sph b+1/\1<=cG a b/\cG a b<=32900:=by
 unfold cG spl sph;omega
theorem swp_range {x0 y0 x1 y1 vx vy vd lo hi cx cy:Int}(hx : -1048576<=x0/\x0<=x1/\x1<=1048576)(hy : -1048576<=y0/\y0<=y1/\y1<=1048576)(h:cH x0 y0 x1 y1 vx vy vd lo hi cx cy=true):
  (aF x0 vx vd lo hi<=cx*64+64/\cx*64<=bO x1 vx vd lo hi)/\aF y0 vy vd lo hi<=cy*64+64/\cy*64<=bO y1 vy vd lo hi:=by
 unfold cH ef at h
 simp only[Bool.and_eq_true,decide_eq_true_eq] at h
 obtain⟨hm,h0,hl,h6,hg,hmee⟩:=h
 unfold fg at hm
 simp only[Bool.and_eq_true,bZ] at hm
 have hv:=dM hg
 have k:=mee_range (X0:=x0) (Y0:=y0) (X1:=x1) (Y1:=y1) hv.1 hv.2 (by omega) (by omega) (cx:=cx) (cy:=cy) (by omega) (by omega) h0 hl
  (mnx:=if hi*vx<lo*vx then hi*vx else lo*vx) (mxx:=if lo*vx<hi*vx then hi*vx else lo*vx) (mny:=if hi*vy<lo*vy then hi*vy else lo*vy) (mxy:=if lo*vy<hi*vy then hi*vy else lo*vy)
  (by split<;>omega) (by split<;>omega) (by split<;>omega) (by split<;>omega) (by split<;>omega) (by split<;>omega) (by split<;>omega) (by split<;>omega) hmee
 unfold aF bO
 omega
theorem spl_le {a c:Int}:spl a<=c↔a<=c*64+64:=by unfold spl;omega
theorem le_sph {b c:Int}:c<=sph b↔c*64<=b:=by unfold sph;omega
def lwN (n d:Int):Int:=n/(Int.gcd n d:Int)
def lwD (n d:Int):Int:=d/(Int.gcd n d:Int)
theorem mz {n d:Int}(hd:0<d):0<(Int.gcd n d:Int):=by
 have:Int.gcd n d≠0:=fun h=>by have:=(Int.gcd_eq_zero_iff.1 h).2;omega
 omega
theorem lw_lt {n d k:Int}(hd:0<d):lwN n d<k*lwD n d↔n<k*d:=low_lt (mz hd) (Int.gcd_dvd_left ..) (Int.gcd_dvd_right ..)
theorem lw_le {n d k:Int}(hd:0<d):(lwN n d<=k*lwD n d↔n<=k*d)/\(k*lwD n d<=lwN n d↔k*d<=n):=low_le (mz hd) (Int.gcd_dvd_left ..) (Int.gcd_dvd_right ..)
theorem lw_bd {n d B:Int}(hn:0<=n/\n<=B)(hd:0<d):(0<=lwN n d/\lwN n d<=B)/\(0<lwD n d/\lwD n d<=d):=by
 have hg:=mz (n:=n) hd
 unfold lwN lwD
 obtain⟨a,ha⟩:(Int.gcd n d:Int) ∣ n:=Int.gcd_dvd_left ..
 obtain⟨b,hb⟩:(Int.gcd n d:Int) ∣ d:=Int.gcd_dvd_right ..
 generalize (Int.gcd n d:Int)=g at *
 subst ha hb
 rw[Int.mul_ediv_cancel_left _ (by omega),Int.mul_ediv_cancel_left _ (by omega)]
 have hb:0<b:=by
  rcases Int.lt_or_le 0 b with h|h
  ·exact h
  have:=Int.mul_nonpos_of_nonneg_of_nonpos (show 0<=g by omega) h;omega
 have ha:0<=a:=by
  rcases Int.lt_or_le a 0 with h|h
  ·have:=Int.mul_neg_of_pos_of_neg hg h;omega
  exact h
 have e1:=Int.mul_le_mul_of_nonneg_right (show 1<=g by omega) ha
 have e2:=Int.mul_le_mul_of_nonneg_right (show 1<=g by omega) (show 0<=b by omega)
 omega
theorem set_last {H:aa}{a b:ABlk}:(H++[a]).set H.length b=H++[b]:=by
 rw[List.set_append_right _ _ (Nat.le_refl _),Nat.sub_self];rfl
theorem fE {P:Program}{fn:Func}{H l1:aa}{b0 b1:ABlk}{R:AV->aa->Prop}{F:Fr}{e:Exit}(he:e=.ret\/e=.normal)(hbel:HBel (H++[b0]).length (H++[b0]))(hb:b1.bel (H++[b0]).length=true){x:AV}(hx:dh P fn F (H++b1::l1)=some x)(hp:x.bel 0=true)(hR:R x (H++[b1])):AEnd P fn (H++[b0]).length R e F (H++b1::l1):=by
 have h:=hbel.put H.length hb
 rw[set_last] at h
 have hl:(H++[b1]).length=(H++[b0]).length:=by rw[List.length_append,List.length_append];rfl
 have ha:(H++[b1])++l1=H++b1::l1:=by rw[List.append_assoc];rfl
 have k:AEnd P fn (H++[b1]).length R e F ((H++[b1])++l1):=b9 he (by rw[hl];exact h) (x:=x) (by rw[ha];exact hx) hp hR
 rw[hl,ha] at k;exact k
theorem gu {P:Program}{N n:Nat}{Q:Exit->Fr->aa->Prop}{ops:Array Oper}{id:Nat}{F:Fr}{H:aa}(q:Bool) (hm:P.follows .mixedOrders=true) (reps:List (List Nat)) (hok:lH q false N ops reps=true) (I:Fr->aa->Prop)
  (h1:∀τ∈reps,∀J:Fr->aa->Prop,(∀F' H',(∃σ F2 H2,I F2 H2/\Abs n σ F' H' F2 H2)->J F' H')->AGo P N n q Q [.opsD H.length (jO ops.toList τ),.inv J] F H) (h2:∀F2 H2,I F2 H2->Q .normal F2 H2):AW P N n (.region id ops true) Q F H:=by
 intro E w a k1 k2 k3 k4 k5
 have key:=oP (id:=id) (q:=q) (Q:=gj (fun F' H'=>∃σ F2 H2,I F2 H2/\Abs n σ F' H' F2 H2) Q) hm reps hok (.inl rfl) (fun τ hτ=>h1 τ hτ (fun F' H'=>∃σ F2 H2,I F2 H2/\Abs n σ F' H' F2 H2) (fun _ _ h=>h)) E w a k1 k2 k3 k4 k5
 refine wp_mono key fun e a w hh=>?_
 obtain⟨E',F',H',hq,l,s,d,f,m⟩:=hh
 cases e with
 | normal =>
  obtain⟨σ,F2,H2,hi,ab⟩:=hq
  obtain⟨E2,l2,f2,m2⟩:=ab.emb l.n f m
  exact⟨E2,F2,H2,h2 F2 H2 hi,l.trans l2,s,d,f2,m2⟩
 |_=>exact⟨E',F',H',hq,l,s,d,f,m⟩
theorem AcN {P:Program}(q:Bool) {f:FuncId}{fn:Func}{args:List AV}{R:AV->aa->Prop}{H:aa}(hf:P.funcs[f]? = some fn) {c:Code}(h:HBel H.length H->∀Q:Exit->Fr->aa->Prop,(∀F H',AEnd P fn H.length R .normal F H'->Q .normal F H')->AGo P fn.ntmps H.length q Q [.code c] (argF 0 args) H)
  (hb:fn.body=some c:=by rfl) (hm:P.follows .mixedOrders=true:=by exact try_mixed) (ha:args.length<=fn.ntmps:=by exact Nat.le_of_ble_eq_true (by kernel_rfl)) (hc:dn fn.ntmps q c=true:=by kernel_rfl):ACalls P f args H R :=
 bX hm hf q _ rfl ha (by rw[hb];exact congrArg some hc) fun hbel Q _ hQ c' hc'=>by
  rw[hb] at hc'
  injection hc' with hc'
  subst hc'
  exact h hbel Q hQ
def mkV (b:Bool) (n:Int):Int:=if b=true then n else 0
def thO (px py vx vy vd x0 y0 x1 y1:Int):Bool:=thG px py vx vy vd x0 y0 x1 y1&&thB px py vx vy x0 y0 x1 y1
def thV (px py vx vy vd x0 y0 x1 y1:Int):Fr2×Fr2:=if thO px py vx vy vd x0 y0 x1 y1=true then thS px py vx vy x0 y0 x1 y1 else ((0,0),(0,0))
theorem thO_t {px py vx vy vd x0 y0 x1 y1:Int}(h:thO px py vx vy vd x0 y0 x1 y1=true):thG px py vx vy vd x0 y0 x1 y1=true/\thB px py vx vy x0 y0 x1 y1=true:=by unfold thO at h;rwa [Bool.and_eq_true] at h
theorem thO_me {px py vx vy vd x0 y0 x1 y1 lo hi:Int}(h:thO px py vx vy vd x0 y0 x1 y1=false):ef px py vx vy vd lo hi x0 y0 x1 y1=false/\dm px py vx vy vd hi x0 y0 x1 y1=false:=by
 unfold ef dm meeB bfrB
 unfold thO at h
 cases hg:thG px py vx vy vd x0 y0 x1 y1
 ·simp
 rw[hg,Bool.true_and] at h;rw[h];simp
theorem jo (H:aa)(n:Int):zC 240 [iV n] H (.bool (br n 2097152)) H:=by
 refine AcT true func240 ?_;intro hbel Q hQ
 refine aB ?_
 refine aV (fun h1=>?_) (fun h1=>?_)
 ·have h1d:=bsT h1
  have G1:=jn h1 @h1d
  exact eS G1 hQ hbel (.bool (decide (n<=2097152))) results240 ⟨by simp[br,h1d],rfl⟩
 have h1d:=bsT h1
 have G2:=jn h1 @h1d
 exact eS G2 hQ hbel (.bool false) results240 ⟨by simp[br,h1d],rfl⟩
theorem svpt_c (H:aa)(x y:Int):zC 191 [.agg [iV x,iV y]] H (.bool (lnP x y)) H:=by
 refine AcT true func191 ?_;intro hbel Q hQ
 refine aB ?_
 refine cv (jo _ x) ?_
 refine aB ?_
 refine aV (fun h1=>?_) (fun h1=>?_)
 ·have h1d:=bsT h1
  have G3:=jn h1 @h1d
  refine ae G3 ?_
  refine cvr G3 (jo _ y) ?_
  exact eP hQ hbel (.bool (br y 2097152)) results191 ⟨by simp[lnP,h1d],rfl⟩
 have h1d:=bsT h1
 have G4:=jn h1 @h1d
 exact eR G4 hQ hbel (.bool false) results191 ⟨by simp[lnP,h1d],rfl⟩
theorem svv_c (H:aa)(x y d:Int):zC 277 [.agg [iV x,iV y,iV d]] H (.bool (du x y d)) H:=by
 refine AcT true func277 ?_;intro hbel Q hQ
 refine aB ?_
 refine aV (fun h1=>?_) (fun h1=>?_)
 ·have h1d:=bsT h1
  have G5:=jn h1 @h1d
  refine rgs G5 (fun h2 h2d G6=>?_) (fun h2 h2d G15=>?_)
  ·refine rgs G6 (fun h3 h3d G7=>?_) (fun h3 h3d G14=>?_)
   ·refine rgs G7 (fun h4 h4d G8=>?_) (fun h4 h4d G13=>?_)
    ·refine rgs G8 (fun h5 h5d G9=>?_) (fun h5 h5d G12=>?_)
     ·refine rcs G9 (fun h6 h6d G10=>?_) (fun h6 h6d G11=>?_)
      ·exact eR G10 hQ hbel (.bool false) results277 ⟨by (refine congrArg AV.bool ?_;rw[Bool.eq_iff_iff,bi];exact⟨fun e=>(by cases e),fun k=>(by omega)⟩),rfl⟩
      have hm1:=aH (a:=x) (b:=x) (A:=67108864) (B:=67108864) (by omega) (by omega)
      have hm2:=aH (a:=y) (b:=y) (A:=67108864) (B:=67108864) (by omega) (by omega)
      have hm3:=aH (a:=d) (b:=d) (A:=67108864) (B:=67108864) (by omega) (by omega)
      exact eR G11 hQ hbel (.bool (((x*x)+(y*y))==(d*d))) results277 ⟨by (refine congrArg AV.bool ?_;rw[Bool.eq_iff_iff,bi,beq_iff_eq];exact⟨fun e=>⟨⟨by omega,by omega⟩,⟨by omega,by omega⟩,⟨by omega,by omega⟩,e⟩,fun e=>e.2.2.2⟩),rfl⟩
     exact eR G12 hQ hbel (.bool false) results277 ⟨by (refine congrArg AV.bool ?_;rw[Bool.eq_iff_iff,bi];exact⟨fun e=>(by cases e),fun k=>(by omega)⟩),rfl⟩
    exact eR G13 hQ hbel (.bool false) results277 ⟨by (refine congrArg AV.bool ?_;rw[Bool.eq_iff_iff,bi];exact⟨fun e=>(by cases e),fun k=>(by omega)⟩),rfl⟩
   exact eR G14 hQ hbel (.bool false) results277 ⟨by (refine congrArg AV.bool ?_;rw[Bool.eq_iff_iff,bi];exact⟨fun e=>(by cases e),fun k=>(by omega)⟩),rfl⟩
  exact eR G15 hQ hbel (.bool false) results277 ⟨by (refine congrArg AV.bool ?_;rw[Bool.eq_iff_iff,bi];exact⟨fun e=>(by cases e),fun k=>(by omega)⟩),rfl⟩
 have h1d:=bsT h1
 have G16:=jn h1 @h1d
 exact eR G16 hQ hbel (.bool false) results277 ⟨by (refine congrArg AV.bool ?_;rw[Bool.eq_iff_iff,bi];exact⟨fun e=>(by cases e),fun k=>(by omega)⟩),rfl⟩
theorem od (H:aa)(x0 y0 x1 y1:Int):zC 192 [.agg [iV x0,iV y0,iV x1,iV y1]] H (.bool (lnR x0 y0 x1 y1)) H:=by
 refine AcT true func192 ?_;intro hbel Q hQ
 refine aB ?_
 refine cv (jo _ _) ?_
 refine aB ?_
 refine aV (fun h1=>?_) (fun h1=>?_)
 ·have h1d:=bsT h1
  have wx0:=aL.1 h1d
  have G17:=jn h1 @h1d
  refine ae G17 ?_
  refine cv (jo _ _) ?_
  refine rgs G17 (fun h2 h2d G18=>?_) (fun h2 h2d G25=>?_)
  ·have wy0:=aL.1 h2d
   refine ae G18 ?_
   refine cv (jo _ _) ?_
   refine rgs G18 (fun h3 h3d G19=>?_) (fun h3 h3d G24=>?_)
   ·have wx1:=aL.1 h3d
    refine ae G19 ?_
    refine cv (jo _ _) ?_
    refine rgs G19 (fun h4 h4d G20=>?_) (fun h4 h4d G23=>?_)
    ·have wy1:=aL.1 h4d
     refine rgs G20 (fun h5 h5d G21=>?_) (fun h5 h5d G22=>?_)
     ·exact eR G21 hQ hbel (.bool (decide (y0<=y1))) results192 ⟨by (refine congrArg AV.bool ?_;rw[Bool.eq_iff_iff,bZ,decide_eq_true_eq];omega),rfl⟩
     exact eR G22 hQ hbel (.bool false) results192 ⟨by (refine congrArg AV.bool ?_;rw[Bool.eq_iff_iff,bZ];exact⟨fun e=>(by cases e),fun k=>(by omega)⟩),rfl⟩
    have wy1:¬(-2097152<=y1/\y1<=2097152):=mt aL.2 (by rw[h4d];decide)
    exact eR G23 hQ hbel (.bool false) results192 ⟨by (refine congrArg AV.bool ?_;rw[Bool.eq_iff_iff,bZ];exact⟨fun e=>(by cases e),fun k=>(by omega)⟩),rfl⟩
   have wx1:¬(-2097152<=x1/\x1<=2097152):=mt aL.2 (by rw[h3d];decide)
   exact eR G24 hQ hbel (.bool false) results192 ⟨by (refine congrArg AV.bool ?_;rw[Bool.eq_iff_iff,bZ];exact⟨fun e=>(by cases e),fun k=>(by omega)⟩),rfl⟩
  have wy0:¬(-2097152<=y0/\y0<=2097152):=mt aL.2 (by rw[h2d];decide)
  exact eR G25 hQ hbel (.bool false) results192 ⟨by (refine congrArg AV.bool ?_;rw[Bool.eq_iff_iff,bZ];exact⟨fun e=>(by cases e),fun k=>(by omega)⟩),rfl⟩
 have h1d:=bsT h1
 have wx0:¬(-2097152<=x0/\x0<=2097152):=mt aL.2 (by rw[h1d];decide)
 have G26:=jn h1 @h1d
 exact eR G26 hQ hbel (.bool false) results192 ⟨by (refine congrArg AV.bool ?_;rw[Bool.eq_iff_iff,bZ];exact⟨fun e=>(by cases e),fun k=>(by omega)⟩),rfl⟩
theorem dU (H:aa)(p1 p2 q1 q2:Int)(k1 : -8388608<=p1/\p1<=8388608)(k2:1<=p2/\p2<=67108864)(k3 : -8388608<=q1/\q1<=8388608)(k4:1<=q2/\q2<=67108864):zC 282 [.agg [iV p1,iV p2],.agg [iV q1,iV q2]] H (.bool (decide (p1*q2<q1*p2))) H:=by
 have hm1:=aH (a:=p1) (b:=q2) (A:=8388608) (B:=67108864) (by omega) (by omega)
 have hm2:=aH (a:=q1) (b:=p2) (A:=8388608) (B:=67108864) (by omega) (by omega)
 refine AcT true func282 ?_;intro hbel Q hQ
 refine aB ?_
 exact eP hQ hbel (.bool (decide ((p1*q2)<(q1*p2)))) results282 ⟨rfl,rfl⟩
theorem slab_c (H:aa)(S:Fr2×Fr2)(p d a b:Int)(hS:bdSp S)(hp : -2097152<=p/\p<=2097152)(hd : -67108864<=d/\d<=67108864)(ha : -2097152<=a/\a<=2097152)(hb : -2097152<=b/\b<=2097152):ACalls prog 278 [.ptr (some (H.length,0)),iV p,iV d,iV a,iV b] (H++[.cells true 0 [iV S.1.1,iV S.1.2,iV S.2.1,iV S.2.2]]) (fun v H'=>v=.bool (de S p d a b)/\H'=H++[.cells true 0 [iV ((bk S p d a b).1.1),iV ((bk S p d a b).1.2),iV ((bk S p d a b).2.1),iV ((bk S p d a b).2.2)]]):=by
 obtain⟨⟨hS1,hS2⟩,hS3,hS4⟩:=id hS
 refine AcT true func278 ?_;intro hbel Q hQ
 refine aB ?_
 refine cK (fun h1=>?_) (fun h1=>?_)
 ·have h1d:=bsT h1
  have h1n:=bnT h1
  have hd0:d=0:=by simpa using h1d
  have G27:=jn h1 (jn h1n (jn @aP @aO))
  refine rgs G27 (fun h2 h2d G28=>?_) (fun h2 h2d G29=>?_)
  ·refine ae G28 ?_
   exact hQ _ _ (fE (b1:=.cells true 0 [iV S.1.1,iV S.1.2,iV S.2.1,iV S.2.2]) (.inl rfl) hbel (by simp only[ABlk.bel,AV.bels,AV.bel,Bool.true_and]) (x:=.bool (decide (p<=b))) (aY results278) rfl ⟨by (try simp only[Int.zero_sub] at *);(simp[de,bk,hd0,h2d,h1d];done),by (try simp only[Int.zero_sub] at *);(simp[de,bk,hd0,h2d,h1d];done)⟩)
  refine ae G29 ?_
  exact hQ _ _ (fE (b1:=.cells true 0 [iV S.1.1,iV S.1.2,iV S.2.1,iV S.2.2]) (.inl rfl) hbel (by simp only[ABlk.bel,AV.bels,AV.bel,Bool.true_and]) (x:=.bool false) (aY results278) rfl ⟨by (try simp only[Int.zero_sub] at *);(simp[de,bk,hd0,h2d,h1d];done),by (try simp only[Int.zero_sub] at *);(simp[de,bk,hd0,h2d,h1d];done)⟩)
 have h1d:=bsT h1
 have h1n:=bnT h1
 have hd0:¬d=0:=by simpa using h1d
 have G30:=jn h1 (jn h1n (jn @aP @aO))
 refine rcs G30 (fun h3 h3d G31=>?_) (fun h3 h3d G38=>?_)
 ·refine ae G31 ?_
  refine cd (dU _ _ _ _ _ (by omega) (by omega) (by omega) (by omega)) ?_
  refine rcs G31 (fun h4 h4d G32=>?_) (fun h4 h4d G35=>?_)
  ·refine ae G32 ?_
   refine cd (dU _ _ _ _ _ (by omega) (by omega) (by omega) (by omega)) ?_
   refine rcs G32 (fun h5 h5d G33=>?_) (fun h5 h5d G34=>?_)
   ·refine ae G33 ?_
    refine cdr G33 (dU _ _ _ _ _ (by omega) (by omega) (by omega) (by omega)) ?_
    exact hQ _ _ (fE (b1:=.cells true 0 [iV (p-b),iV (0-d),iV (p-a),iV (0-d)]) (.inl rfl) hbel (by simp only[ABlk.bel,AV.bels,AV.bel,Bool.true_and]) (x:=.bool (!(decide ((p-a)*(0-d)<(p-b)*(0-d))))) (aY results278) rfl ⟨by (try simp only[Int.zero_sub] at *);(simp[de,bk,mxF,mnF,sbL,sbH,hd0,h3d,h4d,h5d,h1d];done),by (try simp only[Int.zero_sub] at *);(simp[de,bk,mxF,mnF,sbL,sbH,hd0,h3d,h4d,h5d,h1d];done)⟩)
   refine ae G34 ?_
   refine cdr G34 (dU _ _ _ _ _ (by omega) (by omega) (by omega) (by omega)) ?_
   exact hQ _ _ (fE (b1:=.cells true 0 [iV (p-b),iV (0-d),iV S.2.1,iV S.2.2]) (.inl rfl) hbel (by simp only[ABlk.bel,AV.bels,AV.bel,Bool.true_and]) (x:=.bool (!(decide (S.2.1*(0-d)<(p-b)*S.2.2)))) (aY results278) rfl ⟨by (try simp only[Int.zero_sub] at *);(simp[de,bk,mxF,mnF,sbL,sbH,hd0,h3d,h4d,h5d,h1d];done),by (try simp only[Int.zero_sub] at *);(simp[de,bk,mxF,mnF,sbL,sbH,hd0,h3d,h4d,h5d,h1d];done)⟩)
  refine ae G35 ?_
  refine cd (dU _ _ _ _ _ (by omega) (by omega) (by omega) (by omega)) ?_
  refine rcs G35 (fun h6 h6d G36=>?_) (fun h6 h6d G37=>?_)
  ·refine ae G36 ?_
   refine cdr G36 (dU _ _ _ _ _ (by omega) (by omega) (by omega) (by omega)) ?_
   exact hQ _ _ (fE (b1:=.cells true 0 [iV S.1.1,iV S.1.2,iV (p-a),iV (0-d)]) (.inl rfl) hbel (by simp only[ABlk.bel,AV.bels,AV.bel,Bool.true_and]) (x:=.bool (!(decide ((p-a)*S.1.2<S.1.1*(0-d))))) (aY results278) rfl ⟨by (try simp only[Int.zero_sub] at *);(simp[de,bk,mxF,mnF,sbL,sbH,hd0,h3d,h4d,h6d,h1d];done),by (try simp only[Int.zero_sub] at *);(simp[de,bk,mxF,mnF,sbL,sbH,hd0,h3d,h4d,h6d,h1d];done)⟩)
  refine ae G37 ?_
  refine cdr G37 (dU _ _ _ _ _ (by omega) (by omega) (by omega) (by omega)) ?_
  exact hQ _ _ (fE (b1:=.cells true 0 [iV S.1.1,iV S.1.2,iV S.2.1,iV S.2.2]) (.inl rfl) hbel (by simp only[ABlk.bel,AV.bels,AV.bel,Bool.true_and]) (x:=.bool (!(decide (S.2.1*S.1.2<S.1.1*S.2.2)))) (aY results278) rfl ⟨by (try simp only[Int.zero_sub] at *);(simp[de,bk,mxF,mnF,sbL,sbH,hd0,h3d,h4d,h6d,h1d];done),by (try simp only[Int.zero_sub] at *);(simp[de,bk,mxF,mnF,sbL,sbH,hd0,h3d,h4d,h6d,h1d];done)⟩)
 refine ae G38 ?_
 refine cd (dU _ _ _ _ d (by omega) (by omega) (by omega) (by omega)) ?_
 refine rcs G38 (fun h7 h7d G39=>?_) (fun h7 h7d G42=>?_)
 ·refine ae G39 ?_
  refine cd (dU _ _ d _ _ (by omega) (by omega) (by omega) (by omega)) ?_
  refine rcs G39 (fun h8 h8d G40=>?_) (fun h8 h8d G41=>?_)
  ·refine ae G40 ?_
   refine cdr G40 (dU _ _ d _ d (by omega) (by omega) (by omega) (by omega)) ?_
   exact hQ _ _ (fE (b1:=.cells true 0 [iV (a-p),iV d,iV (b-p),iV d]) (.inl rfl) hbel (by simp only[ABlk.bel,AV.bels,AV.bel,Bool.true_and]) (x:=.bool (!(decide ((b-p)*d<(a-p)*d)))) (aY results278) rfl ⟨by (try simp only[Int.zero_sub] at *);(simp[de,bk,mxF,mnF,sbL,sbH,hd0,h3d,h7d,h8d,h1d];done),by (try simp only[Int.zero_sub] at *);(simp[de,bk,mxF,mnF,sbL,sbH,hd0,h3d,h7d,h8d,h1d];done)⟩)
  refine ae G41 ?_
  refine cdr G41 (dU _ _ _ _ d (by omega) (by omega) (by omega) (by omega)) ?_
  exact hQ _ _ (fE (b1:=.cells true 0 [iV (a-p),iV d,iV S.2.1,iV S.2.2]) (.inl rfl) hbel (by simp only[ABlk.bel,AV.bels,AV.bel,Bool.true_and]) (x:=.bool (!(decide (S.2.1*d<(a-p)*S.2.2)))) (aY results278) rfl ⟨by (try simp only[Int.zero_sub] at *);(simp[de,bk,mxF,mnF,sbL,sbH,hd0,h3d,h7d,h8d,h1d];done),by (try simp only[Int.zero_sub] at *);(simp[de,bk,mxF,mnF,sbL,sbH,hd0,h3d,h7d,h8d,h1d];done)⟩)
 refine ae G42 ?_
 refine cd (dU _ _ d _ _ (by omega) (by omega) (by omega) (by omega)) ?_
 refine rcs G42 (fun h9 h9d G43=>?_) (fun h9 h9d G44=>?_)
 ·refine ae G43 ?_
  refine cdr G43 (dU _ _ d _ _ (by omega) (by omega) (by omega) (by omega)) ?_
  exact hQ _ _ (fE (b1:=.cells true 0 [iV S.1.1,iV S.1.2,iV (b-p),iV d]) (.inl rfl) hbel (by simp only[ABlk.bel,AV.bels,AV.bel,Bool.true_and]) (x:=.bool (!(decide ((b-p)*S.1.2<S.1.1*d)))) (aY results278) rfl ⟨by (try simp only[Int.zero_sub] at *);(simp[de,bk,mxF,mnF,sbL,sbH,hd0,h3d,h7d,h9d,h1d];done),by (try simp only[Int.zero_sub] at *);(simp[de,bk,mxF,mnF,sbL,sbH,hd0,h3d,h7d,h9d,h1d];done)⟩)
 refine ae G44 ?_
 refine cdr G44 (dU _ _ _ _ _ (by omega) (by omega) (by omega) (by omega)) ?_
 exact hQ _ _ (fE (b1:=.cells true 0 [iV S.1.1,iV S.1.2,iV S.2.1,iV S.2.2]) (.inl rfl) hbel (by simp only[ABlk.bel,AV.bels,AV.bel,Bool.true_and]) (x:=.bool (!(decide (S.2.1*S.1.2<S.1.1*S.2.2)))) (aY results278) rfl ⟨by (try simp only[Int.zero_sub] at *);(simp[de,bk,mxF,mnF,sbL,sbH,hd0,h3d,h7d,h9d,h1d];done),by (try simp only[Int.zero_sub] at *);(simp[de,bk,mxF,mnF,sbL,sbH,hd0,h3d,h7d,h9d,h1d];done)⟩)
theorem slab4_c (H:aa)(A B C D:ABlk)(S:Fr2×Fr2)(p d a b:Int)(hS:bdSp S)(hp : -2097152<=p/\p<=2097152)(hd : -67108864<=d/\d<=67108864)(ha : -2097152<=a/\a<=2097152)(hb : -2097152<=b/\b<=2097152):
  ACalls prog 278 [.ptr (some (H.length+4,0)),iV p,iV d,iV a,iV b] (H++[A,B,C,D,.cells true 0 [iV S.1.1,iV S.1.2,iV S.2.1,iV S.2.2]]) (fun v H'=>v=.bool (de S p d a b)/\H'=H++[A,B,C,D,.cells true 0 [iV (bk S p d a b).1.1,iV (bk S p d a b).1.2,iV (bk S p d a b).2.1,iV (bk S p d a b).2.2]]):=by
 have h:=slab_c (H++[A,B,C,D]) S p d a b hS hp hd ha hb
 simpa only[List.append_assoc,List.cons_append,List.nil_append,List.length_append,List.length_cons,List.length_nil,Nat.zero_add,Nat.reduceAdd] using h
theorem qc (H:aa)(px py vx vy vd x0 y0 x1 y1:Int):zC 256 [.agg [iV px,iV py],.agg [iV vx,iV vy,iV vd],.agg [iV x0,iV y0,iV x1,iV y1]] H (.tup [.agg [iV ((thV px py vx vy vd x0 y0 x1 y1).1.1),iV ((thV px py vx vy vd x0 y0 x1 y1).1.2),iV ((thV px py vx vy vd x0 y0 x1 y1).2.1),iV ((thV px py vx vy vd x0 y0 x1 y1).2.2)],.bool (thO px py vx vy vd x0 y0 x1 y1)]) H:=by
 refine AcT true func256 ?_;intro hbel Q hQ
 refine aB ?_
 refine cv (svpt_c _ _ _) ?_
 refine aB ?_
 refine aV (fun h1=>?_) (fun h1=>?_)
 ·have h1d:=bsT h1
  have hvP:=h1d
  have hvp:=cO.1 h1d
  have G45:=jn h1 @h1d
  refine ae G45 ?_
  refine cv (svv_c _ _ _ _) ?_
  refine rgs G45 (fun h2 h2d G46=>?_) (fun h2 h2d G53=>?_)
  ·have hvV:=h2d
   have hvv:=bi.1 h2d
   refine ae G46 ?_
   refine cv (od _ _ _ _ _) ?_
   refine rcs G46 (fun h3 h3d G47=>?_) (fun h3 h3d G48=>?_)
   ·have hfinO:thO px py vx vy vd x0 y0 x1 y1=false:=by simp[thO,thG,h3d]
    exact eR G47 hQ hbel (.tup [.agg [iV 0,iV 0,iV 0,iV 0],.bool false]) results256 ⟨by unfold thV;rw[hfinO];rfl,rfl⟩
   have hvr:=bZ.1 h3d
   have hgT:thG px py vx vy vd x0 y0 x1 y1=true:=cl.2 ⟨hvP,hvV,h3d⟩
   have hb0:=thS0_bd
   have hb1:=(thS_bd hgT).1
   refine ae G48 ?_
   refine cv (slab4_c _ _ _ _ _ fH px vx x0 x1 (by assumption) (by omega) (by omega) (by omega) (by omega)) ?_
   refine rgs G48 (fun h4 h4d G49=>?_) (fun h4 h4d G52=>?_)
   ·have hs1:=h4d
    refine ae G49 ?_
    refine cv (slab4_c _ _ _ _ _ (bk fH px vx x0 x1) py vy y0 y1 (by assumption) (by omega) (by omega) (by omega) (by omega)) ?_
    refine rcs G49 (fun h5 h5d G50=>?_) (fun h5 h5d G51=>?_)
    ·have hfinO:thO px py vx vy vd x0 y0 x1 y1=false:=by simp[thO,thB,h5d]
     exact eR G50 hQ hbel (.tup [.agg [iV 0,iV 0,iV 0,iV 0],.bool false]) results256 ⟨by unfold thV;rw[hfinO];rfl,rfl⟩
    have hfinO:thO px py vx vy vd x0 y0 x1 y1=true:=by unfold thO thB;rw[hgT,hs1,h5d];rfl
    exact eR G51 hQ hbel (.tup [.agg [iV ((bk (bk fH px vx x0 x1) py vy y0 y1).1.1),iV ((bk (bk fH px vx x0 x1) py vy y0 y1).1.2),iV ((bk (bk fH px vx x0 x1) py vy y0 y1).2.1),iV ((bk (bk fH px vx x0 x1) py vy y0 y1).2.2)],.bool true]) results256 ⟨by unfold thV;rw[hfinO];rfl,rfl⟩
   have hfinO:thO px py vx vy vd x0 y0 x1 y1=false:=by simp[thO,thB,h4d]
   exact eR G52 hQ hbel (.tup [.agg [iV 0,iV 0,iV 0,iV 0],.bool false]) results256 ⟨by unfold thV;rw[hfinO];rfl,rfl⟩
  have hfinO:thO px py vx vy vd x0 y0 x1 y1=false:=by simp[thO,thG,h2d]
  exact eR G53 hQ hbel (.tup [.agg [iV 0,iV 0,iV 0,iV 0],.bool false]) results256 ⟨by unfold thV;rw[hfinO];rfl,rfl⟩
 have h1d:=bsT h1
 have hfinO:thO px py vx vy vd x0 y0 x1 y1=false:=by simp[thO,thG,h1d]
 have G54:=jn h1 @h1d
 exact eR G54 hQ hbel (.tup [.agg [iV 0,iV 0,iV 0,iV 0],.bool false]) results256 ⟨by unfold thV;rw[hfinO];rfl,rfl⟩
theorem qd (H:aa)(px py vx vy vd x0 y0 x1 y1:Int)(h:thO px py vx vy vd x0 y0 x1 y1=true):zC 256 [.agg [iV px,iV py],.agg [iV vx,iV vy,iV vd],.agg [iV x0,iV y0,iV x1,iV y1]] H (.tup [.agg [iV (thS px py vx vy x0 y0 x1 y1).1.1,iV (thS px py vx vy x0 y0 x1 y1).1.2,iV (thS px py vx vy x0 y0 x1 y1).2.1,iV (thS px py vx vy x0 y0 x1 y1).2.2],.bool true]) H:=by
 have q:=qc H px py vx vy vd x0 y0 x1 y1
 simp only[thV,h,if_true] at q;exact q
theorem qe (H:aa)(px py vx vy vd x0 y0 x1 y1:Int)(h:thO px py vx vy vd x0 y0 x1 y1=false):zC 256 [.agg [iV px,iV py],.agg [iV vx,iV vy,iV vd],.agg [iV x0,iV y0,iV x1,iV y1]] H (.tup [.agg [iV 0,iV 0,iV 0,iV 0],.bool false]) H:=by
 have q:=qc H px py vx vy vd x0 y0 x1 y1
 simp only[thV,h,if_false,Bool.false_eq_true] at q;exact q
theorem jD (H:aa)(px py vx vy vd lo hi x0 y0 x1 y1:Int):zC 239 [.agg [iV px,iV py],.agg [iV vx,iV vy,iV vd],iV lo,iV hi,.agg [iV x0,iV y0,iV x1,iV y1]] H (.bool (ef px py vx vy vd lo hi x0 y0 x1 y1)) H:=by
 refine AcT true func239 ?_;intro hbel Q hQ
 refine aB ?_
 refine aV (fun h1=>?_) (fun h1=>?_)
 ·have h1d:=bsT h1
  have G55:=jn h1 @h1d
  refine rgs G55 (fun h2 h2d G56=>?_) (fun h2 h2d G63=>?_)
  ·refine rcs G56 (fun h3 h3d G57=>?_) (fun h3 h3d G58=>?_)
   ·exact eR G57 hQ hbel (.bool false) results239 ⟨by (refine congrArg AV.bool ?_;rw[Bool.eq_iff_iff];unfold ef meeB;simp only[Bool.and_eq_true,decide_eq_true_eq];first|(simp only[hfinG,hfinB,true_and];omega)|exact⟨fun e=>(by cases e),fun e=>(by omega)⟩),rfl⟩
   refine ae G58 ?_
   rcases Bool.eq_false_or_eq_true (thO px py vx vy vd x0 y0 x1 y1) with h4|h4
   ·have h4d:=h4
    have hgT:=thO_t h4d
    have hbS:=(thS_bd hgT.1).2
    obtain⟨⟨hb1,hb2⟩,hb3,hb4⟩:=hbS
    have hvT:=bi.1 (cl.1 hgT.1).2.1
    have hm1:=aH (a:=lo) (b:=(thS px py vx vy x0 y0 x1 y1).2.2) (A:=65536) (B:=67108864) (by omega) (by omega)
    have hm2:=aH (a:=(thS px py vx vy x0 y0 x1 y1).2.1) (b:=vd) (A:=8388608) (B:=67108864) (by omega) (by omega)
    have hm3:=aH (a:=(thS px py vx vy x0 y0 x1 y1).1.1) (b:=vd) (A:=8388608) (B:=67108864) (by omega) (by omega)
    have hm4:=aH (a:=hi) (b:=(thS px py vx vy x0 y0 x1 y1).1.2) (A:=65536) (B:=67108864) (by omega) (by omega)
    have hfinG:=hgT.1
    have hfinB:=hgT.2
    refine cv (qd _ _ _ _ _ _ _ _ _ _ (by assumption)) ?_
    have G59:=j2 h4 h4d G58
    refine rgs G59 (fun h5 h5d G60=>?_) (fun h5 h5d G61=>?_)
    ·exact eR G60 hQ hbel (.bool (decide ((((thS px py vx vy x0 y0 x1 y1).1.1)*vd)<=(hi*((thS px py vx vy x0 y0 x1 y1).1.2))))) results239 ⟨by (refine congrArg AV.bool ?_;rw[Bool.eq_iff_iff];unfold ef meeB;simp only[Bool.and_eq_true,decide_eq_true_eq];first|(simp only[hfinG,hfinB,true_and];omega)|exact⟨fun e=>(by cases e),fun e=>(by omega)⟩),rfl⟩
    exact eR G61 hQ hbel (.bool false) results239 ⟨by (refine congrArg AV.bool ?_;rw[Bool.eq_iff_iff];unfold ef meeB;simp only[Bool.and_eq_true,decide_eq_true_eq];first|(simp only[hfinG,hfinB,true_and];omega)|exact⟨fun e=>(by cases e),fun e=>(by omega)⟩),rfl⟩
   have h4d:=h4
   have hfinN:=(thO_me (lo:=lo) (hi:=hi) h4d).1
   refine cv (qe _ _ _ _ _ _ _ _ _ _ (by assumption)) ?_
   have G62:=j2 h4 h4d G58
   exact eR G62 hQ hbel (.bool false) results239 ⟨by rw[hfinN],rfl⟩
  exact eR G63 hQ hbel (.bool false) results239 ⟨by (refine congrArg AV.bool ?_;rw[Bool.eq_iff_iff];unfold ef meeB;simp only[Bool.and_eq_true,decide_eq_true_eq];first|(simp only[hfinG,hfinB,true_and];omega)|exact⟨fun e=>(by cases e),fun e=>(by omega)⟩),rfl⟩
 have h1d:=bsT h1
 have G64:=jn h1 @h1d
 exact eR G64 hQ hbel (.bool false) results239 ⟨by (refine congrArg AV.bool ?_;rw[Bool.eq_iff_iff];unfold ef meeB;simp only[Bool.and_eq_true,decide_eq_true_eq];first|(simp only[hfinG,hfinB,true_and];omega)|exact⟨fun e=>(by cases e),fun e=>(by omega)⟩),rfl⟩
theorem fp (H:aa)(px py vx vy vd hi x0 y0 x1 y1:Int):zC 221 [.agg [iV px,iV py],.agg [iV vx,iV vy,iV vd],iV hi,.agg [iV x0,iV y0,iV x1,iV y1]] H (.bool (dm px py vx vy vd hi x0 y0 x1 y1)) H:=by
 refine AcT true func221 ?_;intro hbel Q hQ
 refine aB ?_
 refine aV (fun h1=>?_) (fun h1=>?_)
 ·have h1d:=bsT h1
  have G65:=jn h1 @h1d
  refine rcs G65 (fun h2 h2d G66=>?_) (fun h2 h2d G67=>?_)
  ·exact eR G66 hQ hbel (.bool false) results221 ⟨by (refine congrArg AV.bool ?_;rw[Bool.eq_iff_iff];unfold dm bfrB;simp only[Bool.and_eq_true,decide_eq_true_eq];first|(simp only[hfinG,hfinB,true_and];omega)|exact⟨fun e=>(by cases e),fun e=>(by omega)⟩),rfl⟩
  refine ae G67 ?_
  rcases Bool.eq_false_or_eq_true (thO px py vx vy vd x0 y0 x1 y1) with h3|h3
  ·have h3d:=h3
   have hgT:=thO_t h3d
   have hbS:=(thS_bd hgT.1).2
   obtain⟨⟨hb1,hb2⟩,hb3,hb4⟩:=hbS
   have hvT:=bi.1 (cl.1 hgT.1).2.1
   have hm3:=aH (a:=(thS px py vx vy x0 y0 x1 y1).1.1) (b:=vd) (A:=8388608) (B:=67108864) (by omega) (by omega)
   have hm4:=aH (a:=hi) (b:=(thS px py vx vy x0 y0 x1 y1).1.2) (A:=65536) (B:=67108864) (by omega) (by omega)
   have hfinG:=hgT.1
   have hfinB:=hgT.2
   refine cv (qd _ _ _ _ _ _ _ _ _ _ (by assumption)) ?_
   have G68:=j2 h3 h3d G67
   exact eR G68 hQ hbel (.bool (decide ((((thS px py vx vy x0 y0 x1 y1).1.1)*vd)<(hi*((thS px py vx vy x0 y0 x1 y1).1.2))))) results221 ⟨by (refine congrArg AV.bool ?_;rw[Bool.eq_iff_iff];unfold dm bfrB;simp only[Bool.and_eq_true,decide_eq_true_eq];first|(simp only[hfinG,hfinB,true_and];omega)|exact⟨fun e=>(by cases e),fun e=>(by omega)⟩),rfl⟩
  have h3d:=h3
  have hfinN:=(thO_me (lo:=0) (hi:=hi) h3d).2
  refine cv (qe _ _ _ _ _ _ _ _ _ _ (by assumption)) ?_
  have G69:=j2 h3 h3d G67
  exact eR G69 hQ hbel (.bool false) results221 ⟨by rw[hfinN],rfl⟩
 have h1d:=bsT h1
 have G70:=jn h1 @h1d
 exact eR G70 hQ hbel (.bool false) results221 ⟨by (refine congrArg AV.bool ?_;rw[Bool.eq_iff_iff];unfold dm bfrB;simp only[Bool.and_eq_true,decide_eq_true_eq];first|(simp only[hfinG,hfinB,true_and];omega)|exact⟨fun e=>(by cases e),fun e=>(by omega)⟩),rfl⟩
theorem nt (H:aa)(a0 b0 a1 b1 x0 y0 x1 y1:Int)(kba0 : -1099511627776<=a0/\a0<=1099511627776)(kbb0 : -1099511627776<=b0/\b0<=1099511627776)(kba1 : -1099511627776<=a1/\a1<=1099511627776)(kbb1 : -1099511627776<=b1/\b1<=1099511627776)(kbx0 : -1099511627776<=x0/\x0<=1099511627776)(kby0 : -1099511627776<=y0/\y0<=1099511627776)(kbx1 : -1099511627776<=x1/\x1<=1099511627776)(kby1 : -1099511627776<=y1/\y1<=1099511627776):zC 238 [.agg [iV a0,iV b0,iV a1,iV b1],.agg [iV x0,iV y0,iV x1,iV y1]] H (.tup [.agg [iV (mkV (fg a0 b0 a1 b1 x0 y0 x1 y1) (a0-x1)),iV (mkV (fg a0 b0 a1 b1 x0 y0 x1 y1) (b0-y1)),iV (mkV (fg a0 b0 a1 b1 x0 y0 x1 y1) (a1-x0)),iV (mkV (fg a0 b0 a1 b1 x0 y0 x1 y1) (b1-y0))],.bool (fg a0 b0 a1 b1 x0 y0 x1 y1)]) H:=by
 refine AcT true func238 ?_;intro hbel Q hQ
 refine aB ?_
 refine cv (od _ _ _ _ _) ?_
 refine aB ?_
 refine aV (fun h1=>?_) (fun h1=>?_)
 ·have h1d:=bsT h1
  have G71:=jn h1 @h1d
  refine ae G71 ?_
  refine cv (od _ _ _ _ _) ?_
  refine rgs G71 (fun h2 h2d G72=>?_) (fun h2 h2d G75=>?_)
  ·refine ae G72 ?_
   refine cv (od _ _ _ _ _) ?_
   refine rcs G72 (fun h3 h3d G73=>?_) (fun h3 h3d G74=>?_)
   ·exact eR G73 hQ hbel (.tup [.agg [iV 0,iV 0,iV 0,iV 0],.bool false]) results238 ⟨by simp[fg,mkV,h1d,h2d,h3d],rfl⟩
   exact eR G74 hQ hbel (.tup [.agg [iV (a0-x1),iV (b0-y1),iV (a1-x0),iV (b1-y0)],.bool true]) results238 ⟨by simp[fg,mkV,h1d,h2d,h3d],rfl⟩
  exact eR G75 hQ hbel (.tup [.agg [iV 0,iV 0,iV 0,iV 0],.bool false]) results238 ⟨by simp[fg,mkV,h1d,h2d],rfl⟩
 have h1d:=bsT h1
 have G76:=jn h1 @h1d
 exact eR G76 hQ hbel (.tup [.agg [iV 0,iV 0,iV 0,iV 0],.bool false]) results238 ⟨by simp[fg,mkV,h1d],rfl⟩
theorem ddown_c (H:aa)(a b:Int)(hb:0<b)(hw : -4611686018427387904<=a/\a<=4611686018427387904):zC 199 [iV a,iV b] H (iV (a/b)) H:=by
 have htd:=ff (a:=a) (b:=b) hb hw
 refine AcT true func199 ?_;intro hbel Q hQ
 refine aB ?_
 refine cK (fun h1=>?_) (fun h1=>?_)
 ·have h1d:=bsT h1
  have hfinq:Int.tdiv a b-1=a/b:=by rw[<-gH hb,if_pos h1d]
  have G1:=jn h1 @h1d
  exact eS G1 hQ hbel (iV ((Int.tdiv a b)-1)) results199 ⟨congrArg (AV.int .i64) hfinq,rfl⟩
 have h1d:=bsT h1
 have hfinq:Int.tdiv a b=a/b:=by rw[<-gH hb,if_neg (by omega)]
 have G2:=jn h1 @h1d
 exact eS G2 hQ hbel (iV (Int.tdiv a b)) results199 ⟨congrArg (AV.int .i64) hfinq,rfl⟩
theorem cr (H:aa)(h n:Int)(hn : -1000<=n/\n<=1000):zC 197 [iV h,iV n] H (.agg [iV (cE h (mxI n 0)),iV (cF h (mxI n 0))]) H:=by
 have hz:(if 0<n then n else 0)=mxI n 0:=by unfold mxI;split<;>split<;>omega
 have hzb:0<=mxI n 0/\mxI n 0<=1000:=by unfold mxI;split<;>omega
 have hdv:=c9.1 (fD h)
 have hm1:=aH (a:=mxI n 0) (b:=(bK h).1) (A:=1000) (B:=8065) (by omega) (by omega)
 have hm2:=aH (a:=mxI n 0) (b:=(bK h).2.1) (A:=1000) (B:=8065) (by omega) (by omega)
 refine AcT true func197 ?_;intro hbel Q hQ
 have G8:=@hz
 refine ae G8 ?_
 refine cvr G8 (dir_c _ h) ?_
 refine cdr G8 (ddown_c _ _ _ (by omega) (by omega)) ?_
 refine cdr G8 (ddown_c _ _ _ (by omega) (by omega)) ?_
 exact eP hQ hbel (.agg [iV (((mxI n 0)*((bK h).1))/((bK h).2.2)),iV (((mxI n 0)*((bK h).2.1))/((bK h).2.2))]) results197 ⟨rfl,rfl⟩
theorem bld_nz {W Hh:Int}{xs:List Int}(h:dI W Hh xs=true)(h0:∀z∈xs,0<=z):∀v∈xs,1<=v/\v<=2:=fun v hv=>by
 unfold dI at h
 rw[Bool.and_eq_true,Bool.not_eq_true',List.any_eq_false] at h
 have h1:=h.2 v hv
 have h2:=(bo.1 h.1).le v hv
 have h3:=h0 v hv
 have:¬v=0:=by simpa using h1
 omega
def fI (m r:Int):Bool:=btw m 0 255&&btw r (-1) 1024
def gJ (e:Int×Int):Bool:=fI e.1 e.2
def di (s:List (Int×Int)):Bool:=decide ((s.length:Int)<=32)&&!(s.any fun e=>!gJ e)
theorem gK {m r:Int}:fI m r=true↔(0<=m/\m<=255) /\ -1<=r/\r<=1024:=by
 unfold fI;rw[Bool.and_eq_true,aZ,aZ]
theorem dX {s:List (Int×Int)}:di s=true↔s.length<=32/\∀e∈s,gJ e=true:=by
 unfold di
 rw[Bool.and_eq_true,decide_eq_true_eq,Bool.not_eq_true',List.any_eq_false]
 refine⟨fun h=>⟨by omega,fun e he=>?_⟩,fun h=>⟨by omega,fun e he=>?_⟩⟩
 ·have:=h.2 e he
  simpa using this
 rw[h.2 e he];decide
def eW (W Hh:Int) (xs:List Int) (l:List T6) (s:List (Int×Int)) (g:Int):Bool:=bQ W Hh xs&&(decide (0<(l.length:Int))&&(cw l&&(di s&&btw g 1 32)))
theorem iw {W Hh:Int}{xs:List Int}{l:List T6}{s:List (Int×Int)}{g:Int}:eW W Hh xs l s g=true↔bQ W Hh xs=true/\0<l.length/\cw l=true/\di s=true/\1<=g/\g<=32:=by
 unfold eW;simp only[Bool.and_eq_true,decide_eq_true_eq,aZ]
 exact⟨fun ⟨a,b,c,d,e⟩=>⟨a,by omega,c,d,e⟩,fun ⟨a,b,c,d,e⟩=>⟨a,by omega,c,d,e⟩⟩
def sumC (l:List T6):Nat->Int
 |0=>0
 |n+1=>sumC l n+g66 l n
theorem g66_bd {l:List T6}(h:cw l=true){n:Nat}(hn:n<l.length):1<=g66 l n/\g66 l n<=256:=by
 have:=(bN.1 h).2 (g6 l n) (cQ hn)
 have:=(bm.1 (bv.1 this).2.2)
 exact this.2.1
theorem jE {l:List T6}(h:cw l=true):l.length<=16:=(bN.1 h).1
theorem sumC_bd {l:List T6}(h:cw l=true):∀n:Nat,n<=l.length->(n:Int)<=sumC l n/\sumC l n<=256*n
 |0,_=>by simp[sumC]
 | n+1,hn=>by
  have:=sumC_bd h n (by omega)
  have:=g66_bd h (show n<l.length by omega)
  simp only[sumC];omega
def wdeB (b:T6):Bool:=decide (64<b.2.2.1-b.1)||decide (64<b.2.2.2.1-b.2.1)
def fZ (l:List T6):Bool:=decide (sumC l l.length<=32)&&!(l.any wdeB)
abbrev T9:=Int×Int×Int×Int×Int×Int×Int×Int×Int
def r9 (l:List T9):List AV:=l.flatMap fun p=>[.int .i64 p.1,.int .i64 p.2.1,.int .i64 p.2.2.1,.int .i64 p.2.2.2.1,.int .i64 p.2.2.2.2.1,.int .i64 p.2.2.2.2.2.1,.int .i64 p.2.2.2.2.2.2.1,.int .i64 p.2.2.2.2.2.2.2.1,.int .i64 p.2.2.2.2.2.2.2.2]
def g9 (l:List T9) (j:Nat):T9:=l.getD j (0,0,0,0,0,0,0,0,0)
def g91 (l:List T9) (j:Nat):Int:=(g9 l j).1
def g92 (l:List T9) (j:Nat):Int:=(g9 l j).2.1
def g93 (l:List T9) (j:Nat):Int:=(g9 l j).2.2.1
def g94 (l:List T9) (j:Nat):Int:=(g9 l j).2.2.2.1
def g95 (l:List T9) (j:Nat):Int:=(g9 l j).2.2.2.2.1
def g96 (l:List T9) (j:Nat):Int:=(g9 l j).2.2.2.2.2.1
def g97 (l:List T9) (j:Nat):Int:=(g9 l j).2.2.2.2.2.2.1
def g98 (l:List T9) (j:Nat):Int:=(g9 l j).2.2.2.2.2.2.2.1
def g99 (l:List T9) (j:Nat):Int:=(g9 l j).2.2.2.2.2.2.2.2
theorem g9_eq {l:List T9}{j:Nat}(h:j<l.length):(g91 l j,g92 l j,g93 l j,g94 l j,g95 l j,g96 l j,g97 l j,g98 l j,g99 l j)=l[j]:=by
 simp[g91,g92,g93,g94,g95,g96,g97,g98,g99,g9,h,List.getD_eq_getElem?_getD]
theorem cz:r9 []=[]:=rfl
theorem bH {p:T9}{l:List T9}:r9 (p::l)=.int .i64 p.1::.int .i64 p.2.1::.int .i64 p.2.2.1::.int .i64 p.2.2.2.1::.int .i64 p.2.2.2.2.1::.int .i64 p.2.2.2.2.2.1::.int .i64 p.2.2.2.2.2.2.1::.int .i64 p.2.2.2.2.2.2.2.1::.int .i64 p.2.2.2.2.2.2.2.2::r9 l:=rfl
theorem bD {l m:List T9}:r9 (l++m)=r9 l++r9 m:=by simp[r9]
theorem eJ:∀{l:List T9},(r9 l).length=l.length*9
 |[]=>rfl
 |p::l=>by rw[bH];simp only[List.length_cons,eJ (l:=l)];omega
theorem ct {σ:Nat->Nat}:∀{l:List T9},AV.mvs σ (r9 l)=r9 l
 |[]=>rfl
 | p::l=>by
  rw[bH]
  show AV.mv σ _::AV.mv σ _::AV.mv σ _::AV.mv σ _::AV.mv σ _::AV.mv σ _::AV.mv σ _::AV.mv σ _::AV.mv σ _::AV.mvs σ (r9 l)=_
  rw[ct (l:=l)];rfl
theorem r9_at:∀{l:List T9}{j:Nat}(_h:j<l.length),(r9 l).drop (j*9)=.int .i64 (g91 l j)::.int .i64 (g92 l j)::.int .i64 (g93 l j)::.int .i64 (g94 l j)::.int .i64 (g95 l j)::.int .i64 (g96 l j)::.int .i64 (g97 l j)::.int .i64 (g98 l j)::.int .i64 (g99 l j)::(r9 l).drop ((j+1)*9)
 |[],j,h=>by simp at h
 |p::l,0,_=>by rw[bH];simp[g91,g92,g93,g94,g95,g96,g97,g98,g99,g9]
 | p::l,j+1,h=>by
  rw[bH,show (j+1)*9=j*9+1+1+1+1+1+1+1+1+1 by omega,List.drop_succ_cons,List.drop_succ_cons,List.drop_succ_cons,List.drop_succ_cons,List.drop_succ_cons,List.drop_succ_cons,List.drop_succ_cons,List.drop_succ_cons,List.drop_succ_cons,r9_at (l:=l) (by simpa using h),show (j+1+1)*9=(j+1)*9+1+1+1+1+1+1+1+1+1 by omega,List.drop_succ_cons,List.drop_succ_cons,List.drop_succ_cons,List.drop_succ_cons,List.drop_succ_cons,List.drop_succ_cons,List.drop_succ_cons,List.drop_succ_cons,List.drop_succ_cons]
  rfl
theorem r9_load {l:List T9}{j:Nat}(h:j<l.length):((r9 l).drop (j*9)).take 9=[.int .i64 (g91 l j),.int .i64 (g92 l j),.int .i64 (g93 l j),.int .i64 (g94 l j),.int .i64 (g95 l j),.int .i64 (g96 l j),.int .i64 (g97 l j),.int .i64 (g98 l j),.int .i64 (g99 l j)]:=by rw[r9_at h];rfl
theorem r9_p0 {l:List T9}{j:Nat}(h:j<l.length):((r9 l).drop (j*9)).take 6=[.int .i64 (g91 l j),.int .i64 (g92 l j),.int .i64 (g93 l j),.int .i64 (g94 l j),.int .i64 (g95 l j),.int .i64 (g96 l j)]:=by rw[r9_at h];rfl
theorem jT {l:List T9}(h:0<l.length):(r9 l).take 6=[.int .i64 (g91 l 0),.int .i64 (g92 l 0),.int .i64 (g93 l 0),.int .i64 (g94 l 0),.int .i64 (g95 l 0),.int .i64 (g96 l 0)]:=by
 have:=r9_p0 h
 rwa [Nat.zero_mul,List.drop_zero] at this
theorem r9_p6 {l:List T9}{j:Nat}(h:j<l.length):((r9 l).drop (j*9+6)).take 3=[.int .i64 (g97 l j),.int .i64 (g98 l j),.int .i64 (g99 l j)]:=by rw[<-List.drop_drop,r9_at h];rfl
theorem jU {l:List T9}(h:0<l.length):((r9 l).drop 6).take 3=[.int .i64 (g97 l 0),.int .i64 (g98 l 0),.int .i64 (g99 l 0)]:=by
 have:=r9_p6 h
 rwa [Nat.zero_mul,Nat.zero_add] at this
theorem lU {l:List T9}:(r9 l).all AV.one=true:=by
 induction l with
 |nil=>rfl
 |cons p l ih=>rw[bH];simp[AV.one,ih]
section
variable {P:Program} {H:aa} {n:Nat}
end
theorem grid_bd2 {p:Int->Int->Bool}{x0 y0 y:Int}{w n m:Nat}(hn:n<=33000)(hw:w<=33000)(hm:m<=w):(cL p x0 w y0 n).length+(rowR p x0 y m).length<=1089033000:=by
 have h1:=lM (p:=p) (x0:=x0) (y0:=y0) (w:=w) n
 have h2:=nl (p:=p) (x0:=x0) (y:=y) m
 have h3:=Nat.mul_le_mul hn hw
 omega
def rngB (lo hi:Int):Bool:=decide (0<=lo)&&(decide (lo<=hi)&&decide (hi<=2048))
def trE (px py vx vy vd lo hi:Int):Int:=if (ptB px py&&du vx vy vd)=true then (if rngB lo hi=true then 0 else 2) else 1
def trL (px py vx vy vd lo hi:Int):List (Int×Int):=mkL (trE px py vx vy vd lo hi) (d7 px py px py vx vy vd lo hi)
def gL (x0 y0 x1 y1 vx vy vd lo hi:Int):Int:=if (io x0 y0 x1 y1&&du vx vy vd)=true then (if rngB lo hi=true then (if 1024<x1-x0\/1024<y1-y0 then 6 else 0) else 2) else 1
def cZ (x0 y0 x1 y1 vx vy vd lo hi:Int):List (Int×Int):=mkL (gL x0 y0 x1 y1 vx vy vd lo hi) (d7 x0 y0 x1 y1 vx vy vd lo hi)
theorem ga {lo hi:Int}:rngB lo hi=true↔0<=lo/\lo<=hi/\hi<=2048:=by unfold rngB;simp only[Bool.and_eq_true,decide_eq_true_eq]
theorem ix {x y:Int}:ptB x y=true↔(-1048576<=x/\x<=1048576) /\ -1048576<=y/\y<=1048576:=by unfold ptB;rw[Bool.and_eq_true,aL,aL]
theorem trE_1 {px py vx vy vd lo hi:Int}(h:¬(ptB px py=true/\du vx vy vd=true)):trE px py vx vy vd lo hi=1/\trL px py vx vy vd lo hi=[]:=by
 have e:trE px py vx vy vd lo hi=1:=if_neg (by rw[Bool.and_eq_true];exact h)
 exact⟨e,if_neg (by rw[e];decide)⟩
theorem trE_2 {px py vx vy vd lo hi:Int}(h1:ptB px py=true)(h2:du vx vy vd=true)(h:¬(0<=lo/\lo<=hi/\hi<=2048)):trE px py vx vy vd lo hi=2/\trL px py vx vy vd lo hi=[]:=by
 have e:trE px py vx vy vd lo hi=2:=by unfold trE;rw[h1,h2,if_pos (show (true&&true)=true from rfl),if_neg (by rw[ga];exact h)]
 exact⟨e,if_neg (by rw[e];decide)⟩
theorem trE_0 {px py vx vy vd lo hi:Int}(h1:ptB px py=true)(h2:du vx vy vd=true)(h:0<=lo/\lo<=hi/\hi<=2048):trE px py vx vy vd lo hi=0/\trL px py vx vy vd lo hi=d7 px py px py vx vy vd lo hi:=by
 have e:trE px py vx vy vd lo hi=0:=by unfold trE;rw[h1,h2,if_pos (show (true&&true)=true from rfl),if_pos (ga.2 h)]
 exact⟨e,if_pos e⟩
theorem sptE_1 {x0 y0 x1 y1 vx vy vd lo hi:Int}(h:¬(io x0 y0 x1 y1=true/\du vx vy vd=true)):gL x0 y0 x1 y1 vx vy vd lo hi=1/\cZ x0 y0 x1 y1 vx vy vd lo hi=[]:=by
 have e:gL x0 y0 x1 y1 vx vy vd lo hi=1:=if_neg (by rw[Bool.and_eq_true];exact h)
 exact⟨e,if_neg (by rw[e];decide)⟩
theorem sptE_2 {x0 y0 x1 y1 vx vy vd lo hi:Int}(h1:io x0 y0 x1 y1=true)(h2:du vx vy vd=true)(h:¬(0<=lo/\lo<=hi/\hi<=2048)):gL x0 y0 x1 y1 vx vy vd lo hi=2/\cZ x0 y0 x1 y1 vx vy vd lo hi=[]:=by
 have e:gL x0 y0 x1 y1 vx vy vd lo hi=2:=by unfold gL;rw[h1,h2,if_pos (show (true&&true)=true from rfl),if_neg (by rw[ga];exact h)]
 exact⟨e,if_neg (by rw[e];decide)⟩
theorem sptE_6 {x0 y0 x1 y1 vx vy vd lo hi:Int}(h1:io x0 y0 x1 y1=true)(h2:du vx vy vd=true)(h:0<=lo/\lo<=hi/\hi<=2048)(k:1024<x1-x0\/1024<y1-y0):gL x0 y0 x1 y1 vx vy vd lo hi=6/\cZ x0 y0 x1 y1 vx vy vd lo hi=[]:=by
 have e:gL x0 y0 x1 y1 vx vy vd lo hi=6:=by unfold gL;rw[h1,h2,if_pos (show (true&&true)=true from rfl),if_pos (ga.2 h),if_pos k]
 exact⟨e,if_neg (by rw[e];decide)⟩
theorem sptE_0 {x0 y0 x1 y1 vx vy vd lo hi:Int}(h1:io x0 y0 x1 y1=true)(h2:du vx vy vd=true)(h:0<=lo/\lo<=hi/\hi<=2048)(k:¬(1024<x1-x0\/1024<y1-y0)):gL x0 y0 x1 y1 vx vy vd lo hi=0/\cZ x0 y0 x1 y1 vx vy vd lo hi=d7 x0 y0 x1 y1 vx vy vd lo hi:=by
 have e:gL x0 y0 x1 y1 vx vy vd lo hi=0:=by unfold gL;rw[h1,h2,if_pos (show (true&&true)=true from rfl),if_pos (ga.2 h),if_neg k]
 exact⟨e,if_pos e⟩
theorem rj {x0 y0 x1 y1 vx vy vd lo hi:Int}(hx : -1048576<=x0/\x0<=x1/\x1<=1048576)(hy : -1048576<=y0/\y0<=y1/\y1<=1048576)(hv:du vx vy vd=true)(h:0<=lo/\lo<=hi/\hi<=2048):(d7 x0 y0 x1 y1 vx vy vd lo hi).length<=cG (aF x0 vx vd lo hi) (bO x1 vx vd lo hi)*cG (aF y0 vy vd lo hi) (bO y1 vy vd lo hi):=by
 have:=lM (p:=cH x0 y0 x1 y1 vx vy vd lo hi) (x0:=spl (aF x0 vx vd lo hi)) (y0:=spl (aF y0 vy vd lo hi)) (w:=cG (aF x0 vx vd lo hi) (bO x1 vx vd lo hi)) (cG (aF y0 vy vd lo hi) (bO y1 vy vd lo hi))
 unfold d7;rw[Nat.mul_comm];exact this
theorem mA {a b n d lo hi:Int}(hd:0<d)(hn : -d<=n/\n<=d)(h0:0<=lo)(hh:lo<=hi)(h1:hi<=2048)(hab:a<=b/\b<=a+1024):cG (aF a n d lo hi) (bO b n d lo hi)<=85:=by
 have r:=kl (a:=a) (b:=b) hd hn h0 hh h1
 unfold cG spl sph;omega
theorem trE_z {px py vx vy vd lo hi:Int}(h:trE px py vx vy vd lo hi=0):ptB px py=true/\du vx vy vd=true/\0<=lo/\lo<=hi/\hi<=2048:=by
 unfold trE at h
 split at h
 ·rename_i hv
  rw[Bool.and_eq_true] at hv
  split at h
  ·rename_i hr;exact⟨hv.1,hv.2,ga.1 hr⟩
  omega
 omega
theorem sptE_z {x0 y0 x1 y1 vx vy vd lo hi:Int}(h:gL x0 y0 x1 y1 vx vy vd lo hi=0):io x0 y0 x1 y1=true/\du vx vy vd=true/\(0<=lo/\lo<=hi/\hi<=2048)/\¬(1024<x1-x0\/1024<y1-y0):=by
 unfold gL at h
 split at h
 ·rename_i hv
  rw[Bool.and_eq_true] at hv
  split at h
  ·rename_i hr
   split at h
   ·omega
   rename_i hk;exact⟨hv.1,hv.2,ga.1 hr,hk⟩
  omega
 omega
theorem nu (x0 y0 x1 y1 vx vy vd lo hi:Int):(cZ x0 y0 x1 y1 vx vy vd lo hi).length<=7225:=by
 unfold cZ mkL
 split
 ·rename_i h
  obtain⟨h1,h2,hr,hk⟩:=sptE_z h
  have hq:=kL.1 h1
  have hvv:=bi.1 h2
  have l:=rj hq.1 hq.2 h2 hr
  have c1:=mA (a:=x0) (b:=x1) (n:=vx) (d:=vd) (lo:=lo) (hi:=hi) (by omega) (by omega) hr.1 hr.2.1 hr.2.2 (by omega)
  have c2:=mA (a:=y0) (b:=y1) (n:=vy) (d:=vd) (lo:=lo) (hi:=hi) (by omega) (by omega) hr.1 hr.2.1 hr.2.2 (by omega)
  exact Nat.le_trans l (Nat.mul_le_mul c1 c2)
 simp
theorem mB (px py vx vy vd lo hi:Int):(trL px py vx vy vd lo hi).length<=7225:=by
 unfold trL mkL
 split
 ·rename_i h
  obtain⟨h1,h2,hr⟩:=trE_z h
  have hq:=ix.1 h1
  have hvv:=bi.1 h2
  have l:=rj (x0:=px) (x1:=px) (y0:=py) (y1:=py) (by omega) (by omega) h2 hr
  have c1:=mA (a:=px) (b:=px) (n:=vx) (d:=vd) (lo:=lo) (hi:=hi) (by omega) (by omega) hr.1 hr.2.1 hr.2.2 (by omega)
  have c2:=mA (a:=py) (b:=py) (n:=vy) (d:=vd) (lo:=lo) (hi:=hi) (by omega) (by omega) hr.1 hr.2.1 hr.2.2 (by omega)
  exact Nat.le_trans l (Nat.mul_le_mul c1 c2)
 simp
theorem kR {x0 y0 x1 y1 vx vy vd lo hi:Int}{c:Int×Int}(hx : -1048576<=x0/\x0<=x1/\x1<=1048576)(hy : -1048576<=y0/\y0<=y1/\y1<=1048576)(hv:du vx vy vd=true)(h:0<=lo/\lo<=hi/\hi<=2048):c∈d7 x0 y0 x1 y1 vx vy vd lo hi↔cH x0 y0 x1 y1 vx vy vd lo hi c.1 c.2=true:=by
 have hvv:=bi.1 hv
 have r1:=kl (a:=x0) (b:=x1) (n:=vx) (d:=vd) (lo:=lo) (hi:=hi) (by omega) (by omega) h.1 h.2.1 h.2.2
 have r2:=kl (a:=y0) (b:=y1) (n:=vy) (d:=vd) (lo:=lo) (hi:=hi) (by omega) (by omega) h.1 h.2.1 h.2.2
 have c1:=my (a:=aF x0 vx vd lo hi) (b:=bO x1 vx vd lo hi) (by omega)
 have c2:=my (a:=aF y0 vy vd lo hi) (b:=bO y1 vy vd lo hi) (by omega)
 unfold d7
 rw[iP]
 constructor
 ·rintro⟨-,-,k⟩;exact k
 intro k
 obtain⟨⟨k1,k2⟩,k3,k4⟩:=swp_range hx hy k
 have k1:=spl_le.2 k1
 have k2:=le_sph.2 k2
 have k3:=spl_le.2 k3
 have k4:=le_sph.2 k4
 exact⟨by omega,by omega,k⟩
theorem swp_bd {x0 y0 x1 y1 vx vy vd lo hi a b:Int}(h:cH x0 y0 x1 y1 vx vy vd lo hi a b=true):(-32768<=a/\a<=32768) /\ -32768<=b/\b<=32768:=by
 unfold cH fg at h
 simp only[Bool.and_eq_true,bZ] at h
 omega
theorem pvv_c (H:aa)(vx vy vd:Int):zC 184 [.agg [iV vx,iV vy,iV vd]] H (.bool (du vx vy vd)) H:=by
 refine AcT true func184 ?_;intro hbel Q hQ
 refine aB ?_
 refine aV (fun h1=>?_) (fun h1=>?_)
 ·have h1d:=bsT h1
  have G1:=jn h1 @h1d
  refine rgs G1 (fun h2 h2d G2=>?_) (fun h2 h2d G7=>?_)
  ·refine ae G2 ?_
   refine cv (gT _ _ _ (by omega)) ?_
   refine rgs G2 (fun h3 h3d G3=>?_) (fun h3 h3d G6=>?_)
   ·have hwx:=aL.1 h3d
    refine ae G3 ?_
    refine cv (gT _ _ _ (by omega)) ?_
    refine rgs G3 (fun h4 h4d G4=>?_) (fun h4 h4d G5=>?_)
    ·have hwy:=aL.1 h4d
     have hm1:=aH (a:=vx) (b:=vx) (A:=67108864) (B:=67108864) (by omega) (by omega)
     have hm2:=aH (a:=vy) (b:=vy) (A:=67108864) (B:=67108864) (by omega) (by omega)
     have hm3:=aH (a:=vd) (b:=vd) (A:=67108864) (B:=67108864) (by omega) (by omega)
     exact eR G4 hQ hbel (.bool (((vx*vx)+(vy*vy))==(vd*vd))) results184 ⟨by (refine congrArg AV.bool ?_;rw[Bool.eq_iff_iff,bi,beq_iff_eq];exact⟨fun e=>⟨⟨by omega,by omega⟩,⟨by omega,by omega⟩,⟨by omega,by omega⟩,e⟩,fun e=>e.2.2.2⟩),rfl⟩
    have hwy:¬(-vd<=vy/\vy<=vd):=mt aL.2 (by rw[h4d];decide)
    exact eR G5 hQ hbel (.bool false) results184 ⟨by (refine congrArg AV.bool ?_;rw[Bool.eq_iff_iff,bi];exact⟨fun e=>(by cases e),fun k=>(by omega)⟩),rfl⟩
   have hwx:¬(-vd<=vx/\vx<=vd):=mt aL.2 (by rw[h3d];decide)
   exact eR G6 hQ hbel (.bool false) results184 ⟨by (refine congrArg AV.bool ?_;rw[Bool.eq_iff_iff,bi];exact⟨fun e=>(by cases e),fun k=>(by omega)⟩),rfl⟩
  exact eR G7 hQ hbel (.bool false) results184 ⟨by (refine congrArg AV.bool ?_;rw[Bool.eq_iff_iff,bi];exact⟨fun e=>(by cases e),fun k=>(by omega)⟩),rfl⟩
 have h1d:=bsT h1
 have G8:=jn h1 @h1d
 exact eR G8 hQ hbel (.bool false) results184 ⟨by (refine congrArg AV.bool ?_;rw[Bool.eq_iff_iff,bi];exact⟨fun e=>(by cases e),fun k=>(by omega)⟩),rfl⟩
theorem jV (H:aa)(x y:Int)(kbx : -2097152<=x/\x<=2097152)(kby : -2097152<=y/\y<=2097152):zC 190 [.agg [iV x,iV y]] H (.agg [iV (x*64),iV (y*64),iV (x*64+64),iV (y*64+64)]) H:=by
 refine AcT true func190 ?_;intro hbel Q hQ
 refine aB ?_
 exact eP hQ hbel (.agg [iV (x*64),iV (y*64),iV ((x*64)+64),iV ((y*64)+64)]) results190 ⟨rfl,rfl⟩
theorem reach_c (H:aa)(a b n d lo hi:Int)(ha : -1048576<=a/\a<=1048576)(hb : -1048576<=b/\b<=1048576)(hd:1<=d/\d<=67108864)(hn : -d<=n/\n<=d)(h0:0<=lo)(hh:lo<=hi)(h1:hi<=2048):zC 236 [iV a,iV b,iV n,iV d,iV lo,iV hi] H (.tup [iV (aF a n d lo hi),iV (bO b n d lo hi)]) H:=by
 have hm1:=aH (a:=lo) (b:=n) (A:=2048) (B:=67108864) (by omega) (by omega)
 have hm2:=aH (a:=hi) (b:=n) (A:=2048) (B:=67108864) (by omega) (by omega)
 have hr:=kl (a:=a) (b:=b) (n:=n) (d:=d) (lo:=lo) (hi:=hi) (by omega) hn h0 hh h1
 unfold aF bO at hr
 have hmn : -137438953472<=(if hi*n<lo*n then hi*n else lo*n)/\(if hi*n<lo*n then hi*n else lo*n)<=137438953472:=by split<;>omega
 have hmx : -137438953472<=(if lo*n<hi*n then hi*n else lo*n)/\(if lo*n<hi*n then hi*n else lo*n)<=137438953472:=by split<;>omega
 refine AcT true func236 ?_;intro hbel Q hQ
 refine aB ?_
 refine cv (mh _ _ d (by omega) (by omega)) ?_
 refine aB ?_
 refine cv (mh _ _ d (by omega) (by omega)) ?_
 refine aB ?_
 exact eQ hQ hbel (.tup [iV (a+((if (hi*n)<(lo*n) then (hi*n) else (lo*n))/d)),iV ((b+((if (lo*n)<(hi*n) then (hi*n) else (lo*n))/d))+1)]) results236 ⟨rfl,rfl⟩
theorem rl (H:aa)(x0 y0 x1 y1 vx vy vd lo hi:Int)(hx : -1048576<=x0/\x0<=x1/\x1<=1048576)(hy : -1048576<=y0/\y0<=y1/\y1<=1048576)(hv:du vx vy vd=true)(hl:0<=lo/\lo<=hi/\hi<=2048):zC 185 [.agg [iV x0,iV y0,iV x1,iV y1],.agg [iV vx,iV vy,iV vd],iV lo,iV hi] H (.sl (some (H.length,0)) ((d7 x0 y0 x1 y1 vx vy vd lo hi).length) (aW (d7 x0 y0 x1 y1 vx vy vd lo hi).length)) (H++[.cells (aQ (d7 x0 y0 x1 y1 vx vy vd lo hi).length) 2 (prs (d7 x0 y0 x1 y1 vx vy vd lo hi))]):=by
 have hvv:=bi.1 hv
 have hrx:=kl (a:=x0) (b:=x1) (n:=vx) (d:=vd) (lo:=lo) (hi:=hi) (by omega) (by omega) (by omega) (by omega) (by omega)
 have hry:=kl (a:=y0) (b:=y1) (n:=vy) (d:=vd) (lo:=lo) (hi:=hi) (by omega) (by omega) (by omega) (by omega) (by omega)
 have hcx:=my (a:=(aF x0 vx vd lo hi)) (b:=(bO x1 vx vd lo hi)) (by omega)
 have hcy:=my (a:=(aF y0 vy vd lo hi)) (b:=(bO y1 vy vd lo hi)) (by omega)
 refine AcL true func185 ?_;intro hbel Q hQ
 refine aB ?_
 refine cv (reach_c _ _ _ _ _ _ _ (by omega) (by omega) (by omega) (by omega) (by omega) (by omega) (by omega)) ?_
 refine aB ?_
 refine cv (reach_c _ _ _ _ _ _ _ (by omega) (by omega) (by omega) (by omega) (by omega) (by omega) (by omega)) ?_
 refine aB ?_
 refine cv (span_c _ _ _ (by omega) (by omega)) ?_
 refine aB ?_
 refine cv (span_c _ _ _ (by omega) (by omega)) ?_
 refine aB ?_
 refine go_loopA (fun k F Hx=>∃n:Nat,n+k=cG (aF y0 vy vd lo hi) (bO y1 vy vd lo hi)/\F=[(2,iV lo),(3,iV hi),(4,.ptr (some (H.length,0))),(5,.ptr (some (H.length+1,0))),(13,iV (spl (aF x0 vx vd lo hi))),(14,iV (sph (bO x1 vx vd lo hi))),(16,iV (sph (bO y1 vy vd lo hi))),(17,.sl (some (H.length+2,0)) ((cL (cH x0 y0 x1 y1 vx vy vd lo hi) (spl (aF x0 vx vd lo hi)) (cG (aF x0 vx vd lo hi) (bO x1 vx vd lo hi)) (spl (aF y0 vy vd lo hi)) n).length) (aW (cL (cH x0 y0 x1 y1 vx vy vd lo hi) (spl (aF x0 vx vd lo hi)) (cG (aF x0 vx vd lo hi) (bO x1 vx vd lo hi)) (spl (aF y0 vy vd lo hi)) n).length)),(18,iV ((spl (aF y0 vy vd lo hi))+(n:Int)))]/\Hx=H++[.cells true 0 [iV x0,iV y0,iV x1,iV y1],.cells true 0 [iV vx,iV vy,iV vd],.cells (aQ (cL (cH x0 y0 x1 y1 vx vy vd lo hi) (spl (aF x0 vx vd lo hi)) (cG (aF x0 vx vd lo hi) (bO x1 vx vd lo hi)) (spl (aF y0 vy vd lo hi)) n).length) 2 (prs (cL (cH x0 y0 x1 y1 vx vy vd lo hi) (spl (aF x0 vx vd lo hi)) (cG (aF x0 vx vd lo hi) (bO x1 vx vd lo hi)) (spl (aF y0 vy vd lo hi)) n))]) (cG (aF y0 vy vd lo hi) (bO y1 vy vd lo hi)) ?_ ?_
 ·refine⟨_,_,_,⟨0,by omega,rfl,rfl⟩,Abs.byG hbel [.cells false 2 []] rfl [0,1,2] (by decide) ?_⟩
  exact aC (jn @gridR_0 (jn @Int.natCast_zero @Int.add_zero))
 rintro k0 F Hx ⟨n,hm0,rfl,rfl⟩ Q1 hJ0 hr1 he1
 have hQ1:=fun F H' h=>hr1 F H' (hQ F H' h)
 refine zQT hQ1 fun Q2 hn2 hQ2 he2=>?_
 have G9:=jn @bF @cJ
 refine rcs G9 (fun h1 h1d G10=>?_) (fun h1 h1d G17=>?_)
 ·refine ae G10 ?_
  refine hn2 _ _ (sqR hQ1 fun Q3 hn3 hQ3 he3=>?_)
  refine bkR hQ3 fun Q4 hn4 hQ4 he4 hb4=>?_
  refine zQT hQ4 fun Q5 hn5 hQ5 he5=>?_
  refine ae G10 ?_
  refine hn5 _ _ ?_
  refine bkR hQ4 fun Q6 hn6 hQ6 he6 hb6=>?_
  refine gG (fun k F Hx=>∃m:Nat,m+k=(cG (aF x0 vx vd lo hi) (bO x1 vx vd lo hi))/\F=[(2,iV lo),(3,iV hi),(4,.ptr (some (H.length,0))),(5,.ptr (some (H.length+1,0))),(13,iV (spl (aF x0 vx vd lo hi))),(14,iV (sph (bO x1 vx vd lo hi))),(16,iV (sph (bO y1 vy vd lo hi))),(17,.sl (some (H.length+2,0)) ((cL (cH x0 y0 x1 y1 vx vy vd lo hi) (spl (aF x0 vx vd lo hi)) (cG (aF x0 vx vd lo hi) (bO x1 vx vd lo hi)) (spl (aF y0 vy vd lo hi)) n++rowR (cH x0 y0 x1 y1 vx vy vd lo hi) (spl (aF x0 vx vd lo hi)) ((spl (aF y0 vy vd lo hi))+(n:Int)) m).length) (aW (cL (cH x0 y0 x1 y1 vx vy vd lo hi) (spl (aF x0 vx vd lo hi)) (cG (aF x0 vx vd lo hi) (bO x1 vx vd lo hi)) (spl (aF y0 vy vd lo hi)) n++rowR (cH x0 y0 x1 y1 vx vy vd lo hi) (spl (aF x0 vx vd lo hi)) ((spl (aF y0 vy vd lo hi))+(n:Int)) m).length)),(18,iV ((spl (aF y0 vy vd lo hi))+(n:Int))),(19,iV ((spl (aF x0 vx vd lo hi))+(m:Int)))]/\Hx=H++[.cells true 0 [iV x0,iV y0,iV x1,iV y1],.cells true 0 [iV vx,iV vy,iV vd],.cells (aQ (cL (cH x0 y0 x1 y1 vx vy vd lo hi) (spl (aF x0 vx vd lo hi)) (cG (aF x0 vx vd lo hi) (bO x1 vx vd lo hi)) (spl (aF y0 vy vd lo hi)) n++rowR (cH x0 y0 x1 y1 vx vy vd lo hi) (spl (aF x0 vx vd lo hi)) ((spl (aF y0 vy vd lo hi))+(n:Int)) m).length) 2 (prs (cL (cH x0 y0 x1 y1 vx vy vd lo hi) (spl (aF x0 vx vd lo hi)) (cG (aF x0 vx vd lo hi) (bO x1 vx vd lo hi)) (spl (aF y0 vy vd lo hi)) n++rowR (cH x0 y0 x1 y1 vx vy vd lo hi) (spl (aF x0 vx vd lo hi)) ((spl (aF y0 vy vd lo hi))+(n:Int)) m))]) ((cG (aF x0 vx vd lo hi) (bO x1 vx vd lo hi))) ?_ ?_
  ·refine⟨_,_,_,⟨0,by omega,rfl,rfl⟩,bS hbel [0,1,2] (aC (jn @rowR_0 (jn @List.append_nil.{0} (jn @Int.natCast_zero @Int.add_zero))))⟩
  rintro k1 F Hx ⟨m,hm1,rfl,rfl⟩ Q7 hJ1 hr7 he7
  have hQ7:=fun F H' h=>hr7 F H' (hQ6 F H' h)
  refine zQT hQ7 fun Q8 hn8 hQ8 he8=>?_
  refine rcs G10 (fun h2 h2d G11=>?_) (fun h2 h2d G16=>?_)
  ·have hgb:=grid_bd2 (p:=(cH x0 y0 x1 y1 vx vy vd lo hi)) (x0:=(spl (aF x0 vx vd lo hi))) (y0:=(spl (aF y0 vy vd lo hi))) (y:=(spl (aF y0 vy vd lo hi))+(n:Int)) (w:=(cG (aF x0 vx vd lo hi) (bO x1 vx vd lo hi))) (n:=n) (m:=m) (by omega) (by omega) (by omega)
   refine ae G11 ?_
   refine hn8 _ _ (sqR hQ7 fun Q9 hn9 hQ9 he9=>?_)
   refine bkR hQ9 fun Q10 hn10 hQ10 he10 hb10=>?_
   refine zQT hQ10 fun Q11 hn11 hQ11 he11=>?_
   refine ae G11 ?_
   refine hn11 _ _ ?_
   refine bt true try_mixed [[0,1,2,3,4,5,6,7,8,9],[0,1,2,7,3,4,5,6,8,9],[0,2,7,1,3,4,5,6,8,9]] (by kernel_rfl) (fun F2 H2=>F2=[(2,iV lo),(3,iV hi),(4,.ptr (some (H.length,0))),(5,.ptr (some (H.length+1,0))),(13,iV (spl (aF x0 vx vd lo hi))),(14,iV (sph (bO x1 vx vd lo hi))),(16,iV (sph (bO y1 vy vd lo hi))),(17,.sl (some (H.length+2,0)) ((cL (cH x0 y0 x1 y1 vx vy vd lo hi) (spl (aF x0 vx vd lo hi)) (cG (aF x0 vx vd lo hi) (bO x1 vx vd lo hi)) (spl (aF y0 vy vd lo hi)) n++rowR (cH x0 y0 x1 y1 vx vy vd lo hi) (spl (aF x0 vx vd lo hi)) ((spl (aF y0 vy vd lo hi))+(n:Int)) m).length) (aW (cL (cH x0 y0 x1 y1 vx vy vd lo hi) (spl (aF x0 vx vd lo hi)) (cG (aF x0 vx vd lo hi) (bO x1 vx vd lo hi)) (spl (aF y0 vy vd lo hi)) n++rowR (cH x0 y0 x1 y1 vx vy vd lo hi) (spl (aF x0 vx vd lo hi)) ((spl (aF y0 vy vd lo hi))+(n:Int)) m).length)),(18,iV ((spl (aF y0 vy vd lo hi))+(n:Int))),(19,iV ((spl (aF x0 vx vd lo hi))+(m:Int))),(20,.ptr (some (H.length+3,0))),(21,.ptr (some (H.length+4,0))),(22,.bool (fg (((spl (aF x0 vx vd lo hi))+(m:Int))*64) (((spl (aF y0 vy vd lo hi))+(n:Int))*64) (((spl (aF x0 vx vd lo hi))+(m:Int))*64+64) (((spl (aF y0 vy vd lo hi))+(n:Int))*64+64) x0 y0 x1 y1))]/\H2=H++[.cells true 0 [iV x0,iV y0,iV x1,iV y1],.cells true 0 [iV vx,iV vy,iV vd],.cells (aQ (cL (cH x0 y0 x1 y1 vx vy vd lo hi) (spl (aF x0 vx vd lo hi)) (cG (aF x0 vx vd lo hi) (bO x1 vx vd lo hi)) (spl (aF y0 vy vd lo hi)) n++rowR (cH x0 y0 x1 y1 vx vy vd lo hi) (spl (aF x0 vx vd lo hi)) ((spl (aF y0 vy vd lo hi))+(n:Int)) m).length) 2 (prs (cL (cH x0 y0 x1 y1 vx vy vd lo hi) (spl (aF x0 vx vd lo hi)) (cG (aF x0 vx vd lo hi) (bO x1 vx vd lo hi)) (spl (aF y0 vy vd lo hi)) n++rowR (cH x0 y0 x1 y1 vx vy vd lo hi) (spl (aF x0 vx vd lo hi)) ((spl (aF y0 vy vd lo hi))+(n:Int)) m)),.cells true 0 [iV ((spl (aF x0 vx vd lo hi))+(m:Int)),iV ((spl (aF y0 vy vd lo hi))+(n:Int))],.cells true 0 [iV (mkV (fg (((spl (aF x0 vx vd lo hi))+(m:Int))*64) (((spl (aF y0 vy vd lo hi))+(n:Int))*64) (((spl (aF x0 vx vd lo hi))+(m:Int))*64+64) (((spl (aF y0 vy vd lo hi))+(n:Int))*64+64) x0 y0 x1 y1) ((((spl (aF x0 vx vd lo hi))+(m:Int))*64)-x1)),iV (mkV (fg (((spl (aF x0 vx vd lo hi))+(m:Int))*64) (((spl (aF y0 vy vd lo hi))+(n:Int))*64) (((spl (aF x0 vx vd lo hi))+(m:Int))*64+64) (((spl (aF y0 vy vd lo hi))+(n:Int))*64+64) x0 y0 x1 y1) ((((spl (aF y0 vy vd lo hi))+(n:Int))*64)-y1)),iV (mkV (fg (((spl (aF x0 vx vd lo hi))+(m:Int))*64) (((spl (aF y0 vy vd lo hi))+(n:Int))*64) (((spl (aF x0 vx vd lo hi))+(m:Int))*64+64) (((spl (aF y0 vy vd lo hi))+(n:Int))*64+64) x0 y0 x1 y1) ((((spl (aF x0 vx vd lo hi))+(m:Int))*64+64)-x0)),iV (mkV (fg (((spl (aF x0 vx vd lo hi))+(m:Int))*64) (((spl (aF y0 vy vd lo hi))+(n:Int))*64) (((spl (aF x0 vx vd lo hi))+(m:Int))*64+64) (((spl (aF y0 vy vd lo hi))+(n:Int))*64+64) x0 y0 x1 y1) ((((spl (aF y0 vy vd lo hi))+(n:Int))*64+64)-y0))]]) ?_ ?_
   ·refine aj ?_ (aj ?_ (aj ?_ (bu)))<;>intro J hJ
    ·refine ag G11 ?_
     refine cd (jV _ _ _ (by omega) (by omega)) ?_
     refine ag G11 ?_
     refine cd (nt _ _ _ _ _ _ _ _ _ (by omega) (by omega) (by omega) (by omega) (by omega) (by omega) (by omega) (by omega)) ?_
     refine ag G11 ?_
     refine aq (hJ _ _ ⟨_,_,_,⟨rfl,rfl⟩,bS hbel [0,1,2,3,4] cD⟩)
    ·refine ag G11 ?_
     refine cd (jV _ _ _ (by omega) (by omega)) ?_
     refine ag G11 ?_
     refine cd (nt _ _ _ _ _ _ _ _ _ (by omega) (by omega) (by omega) (by omega) (by omega) (by omega) (by omega) (by omega)) ?_
     refine ag G11 ?_
     refine aq (hJ _ _ ⟨_,_,_,⟨rfl,rfl⟩,bS hbel [0,1,2,3,4] cD⟩)
    refine ag G11 ?_
    refine cd (jV _ _ _ (by omega) (by omega)) ?_
    refine ag G11 ?_
    refine cd (nt _ _ _ _ _ _ _ _ _ (by omega) (by omega) (by omega) (by omega) (by omega) (by omega) (by omega) (by omega)) ?_
    refine ag G11 ?_
    refine aq (hJ _ _ ⟨_,_,_,⟨rfl,rfl⟩,bS hbel [0,1,2,3,4] cD⟩)
   rintro F2 H2 ⟨rfl,rfl⟩
   refine fnT ?_
   refine rgs G11 (fun h3 h3d G12=>?_) (fun h3 h3d G15=>?_)
   ·have hmn:=h3d
    refine ae G12 ?_
    refine cv (jD _ 0 0 _ _ _ _ _ _ _ _ _) ?_
    refine rcs G12 (fun h4 h4d _=>?_) (fun h4 h4d G14=>?_)
    ·have hov:cH x0 y0 x1 y1 vx vy vd lo hi ((spl (aF x0 vx vd lo hi))+(m:Int)) ((spl (aF y0 vy vd lo hi))+(n:Int))=true:=by have q:=h4d;unfold cH;rw[hmn];exact q
     have G13:=jn h4 (jn h4d (jn @d4 G12))
     refine ae G13 ?_
     refine hn10 _ _ ?_
     refine hn9 _ _ ?_
     refine fnT ?_
     refine ae G13 ?_
     refine hJ1 _ _ ⟨k1-1,by omega,_,_,_,⟨m+1,by omega,rfl,rfl⟩,bS hbel [0,1,6] (aC (jn @rowR.eq_2 (jn @hov (jn @if_true.{1} (jn @if_false.{1} (jn @Bool.false_eq_true (jn @List.append_nil.{0} (jn @List.append_assoc.{0} (jn @Int.natCast_add (jn @Int.natCast_one @Int.add_assoc))))))))))⟩
    have hov:cH x0 y0 x1 y1 vx vy vd lo hi ((spl (aF x0 vx vd lo hi))+(m:Int)) ((spl (aF y0 vy vd lo hi))+(n:Int))=false:=by have q:=h4d;unfold cH;rw[hmn];exact q
    refine ae G14 ?_
    refine hn10 _ _ ?_
    refine hn9 _ _ ?_
    refine fnT ?_
    refine ae G14 ?_
    refine hJ1 _ _ ⟨k1-1,by omega,_,_,_,⟨m+1,by omega,rfl,rfl⟩,bS hbel [0,1,2] (aC (jn @rowR.eq_2 (jn @hov (jn @if_true.{1} (jn @if_false.{1} (jn @Bool.false_eq_true (jn @List.append_nil.{0} (jn @List.append_assoc.{0} (jn @Int.natCast_add (jn @Int.natCast_one @Int.add_assoc))))))))))⟩
   have hov:cH x0 y0 x1 y1 vx vy vd lo hi ((spl (aF x0 vx vd lo hi))+(m:Int)) ((spl (aF y0 vy vd lo hi))+(n:Int))=false:=by unfold cH;rw[h3d];rfl
   refine ae G15 ?_
   refine hn10 _ _ ?_
   refine hn9 _ _ ?_
   refine fnT ?_
   refine ae G15 ?_
   refine hJ1 _ _ ⟨k1-1,by omega,_,_,_,⟨m+1,by omega,rfl,rfl⟩,bS hbel [0,1,2] (aC (jn @rowR.eq_2 (jn @hov (jn @if_true.{1} (jn @if_false.{1} (jn @Bool.false_eq_true (jn @List.append_nil.{0} (jn @List.append_assoc.{0} (jn @Int.natCast_add (jn @Int.natCast_one @Int.add_assoc))))))))))⟩
  obtain rfl:m=(cG (aF x0 vx vd lo hi) (bO x1 vx vd lo hi)):=by omega
  refine ae G16 ?_
  refine he8 _ _ _ ?_
  refine he7 _ _ _ ?_
  refine hb6 _ _ ?_
  refine hn4 _ _ ?_
  refine hn3 _ _ ?_
  refine fnT ?_
  refine ae G16 ?_
  refine hJ0 _ _ ⟨k0-1,by omega,_,_,_,⟨n+1,by omega,rfl,rfl⟩,bS hbel [0,1,2] (aC (jn @gridR_s (jn @Int.natCast_add (jn @Int.natCast_one @Int.add_assoc))))⟩
 obtain rfl:n=cG (aF y0 vy vd lo hi) (bO y1 vy vd lo hi):=by omega
 refine ae G17 ?_
 refine he2 _ _ _ ?_
 refine he1 _ _ _ ?_
 refine ae G17 ?_
 refine hQ _ _ (ba (.inl rfl) hbel (x1:=.sl (some (H.length+2,0)) ((cL (cH x0 y0 x1 y1 vx vy vd lo hi) (spl (aF x0 vx vd lo hi)) (cG (aF x0 vx vd lo hi) (bO x1 vx vd lo hi)) (spl (aF y0 vy vd lo hi)) (cG (aF y0 vy vd lo hi) (bO y1 vy vd lo hi))).length) (aW (cL (cH x0 y0 x1 y1 vx vy vd lo hi) (spl (aF x0 vx vd lo hi)) (cG (aF x0 vx vd lo hi) (bO x1 vx vd lo hi)) (spl (aF y0 vy vd lo hi)) (cG (aF y0 vy vd lo hi) (bO y1 vy vd lo hi))).length)) (l2:=[.cells (aQ (cL (cH x0 y0 x1 y1 vx vy vd lo hi) (spl (aF x0 vx vd lo hi)) (cG (aF x0 vx vd lo hi) (bO x1 vx vd lo hi)) (spl (aF y0 vy vd lo hi)) (cG (aF y0 vy vd lo hi) (bO y1 vy vd lo hi))).length) 2 (prs (cL (cH x0 y0 x1 y1 vx vy vd lo hi) (spl (aF x0 vx vd lo hi)) (cG (aF x0 vx vd lo hi) (bO x1 vx vd lo hi)) (spl (aF y0 vy vd lo hi)) (cG (aF y0 vy vd lo hi) (bO y1 vy vd lo hi))))]) (.sl (some (H.length,0)) ((cL (cH x0 y0 x1 y1 vx vy vd lo hi) (spl (aF x0 vx vd lo hi)) (cG (aF x0 vx vd lo hi) (bO x1 vx vd lo hi)) (spl (aF y0 vy vd lo hi)) (cG (aF y0 vy vd lo hi) (bO y1 vy vd lo hi))).length) (aW (cL (cH x0 y0 x1 y1 vx vy vd lo hi) (spl (aF x0 vx vd lo hi)) (cG (aF x0 vx vd lo hi) (bO x1 vx vd lo hi)) (spl (aF y0 vy vd lo hi)) (cG (aF y0 vy vd lo hi) (bO y1 vy vd lo hi))).length)) (aY results185) [] rfl [2] (by decide) ⟨rfl,rfl⟩ ?_)
 exact aJ
theorem nv (H:aa)(px py vx vy vd lo hi:Int):zC 173 [.agg [iV px,iV py],.agg [iV vx,iV vy,iV vd],iV lo,iV hi] H (.tup [.sl (some (H.length,0)) ((trL px py vx vy vd lo hi).length) (aW (trL px py vx vy vd lo hi).length),iV (trE px py vx vy vd lo hi)]) (H++[.cells (aQ (trL px py vx vy vd lo hi).length) 2 (prs (trL px py vx vy vd lo hi))]):=by
 refine AcT true func173 ?_;intro hbel Q hQ
 refine aB ?_
 refine cv (pvpt_c _ _ _) ?_
 refine aB ?_
 refine aV (fun h1=>?_) (fun h1=>?_)
 ·have h1d:=bsT h1
  have hp1:=h1d
  have hp2:=ix.1 hp1
  have G18:=jn h1 @h1d
  refine ae G18 ?_
  refine cv (pvv_c _ _ _ _) ?_
  refine rcs G18 (fun h2 h2d G19=>?_) (fun h2 h2d G20=>?_)
  ·have hz:=trE_1 (px:=px) (py:=py) (vx:=vx) (vy:=vy) (vd:=vd) (lo:=lo) (hi:=hi) (fun hh=>by rw[h2d] at hh;exact absurd hh.2 (by decide))
   have hfinE:=hz.1
   have hfinL:=hz.2
   refine ae G19 ?_
   refine hQ _ _ (ba (.inl rfl) hbel (x1:=.tup [.sl none 0 (some 0),iV 1]) (l2:=[.cells false 2 []]) (.tup [.sl (some (H.length,0)) 0 (some 0),iV 1]) (aY results173) [.cells false 2 []] rfl [2] (by decide) ⟨by (rw[hfinL,hfinE];rfl),by (rw[hfinL];rfl)⟩ ?_)
   exact aJ
  have hv:=h2d
  refine rgs G20 (fun h3 h3d G21=>?_) (fun h3 h3d G26=>?_)
  ·refine rgs G21 (fun h4 h4d G22=>?_) (fun h4 h4d G25=>?_)
   ·refine rcs G22 (fun h5 h5d G23=>?_) (fun h5 h5d G24=>?_)
    ·have hz:=trE_2 (lo:=lo) (hi:=hi) hp1 hv (by omega)
     have hfinE:=hz.1
     have hfinL:=hz.2
     refine ae G23 ?_
     refine hQ _ _ (ba (.inl rfl) hbel (x1:=.tup [.sl none 0 (some 0),iV 2]) (l2:=[.cells false 2 []]) (.tup [.sl (some (H.length,0)) 0 (some 0),iV 2]) (aY results173) [.cells false 2 []] rfl [2] (by decide) ⟨by (rw[hfinL,hfinE];rfl),by (rw[hfinL];rfl)⟩ ?_)
     exact aJ
    have hlh:0<=lo/\lo<=hi/\hi<=2048:=by omega
    have hz:=trE_0 hp1 hv hlh
    have hfinE:=hz.1
    have hfinL:=hz.2
    refine ae G24 ?_
    refine cvr G24 (rl _ _ _ _ _ _ _ _ _ _ (by omega) (by omega) (by assumption) (by omega)) ?_
    refine hQ _ _ (ba (.inl rfl) hbel (x1:=.tup [.sl (some (H.length+2,0)) ((d7 px py px py vx vy vd lo hi).length) (aW (d7 px py px py vx vy vd lo hi).length),iV 0]) (l2:=[.cells (aQ (d7 px py px py vx vy vd lo hi).length) 2 (prs (d7 px py px py vx vy vd lo hi))]) (.tup [.sl (some (H.length,0)) ((d7 px py px py vx vy vd lo hi).length) (aW (d7 px py px py vx vy vd lo hi).length),iV 0]) (aY results173) [] rfl [2] (by decide) ⟨by rw[hfinL,hfinE],by rw[hfinL]⟩ ?_)
    exact aJ
   have hz:=trE_2 (lo:=lo) (hi:=hi) hp1 hv (by omega)
   have hfinE:=hz.1
   have hfinL:=hz.2
   refine ae G25 ?_
   refine hQ _ _ (ba (.inl rfl) hbel (x1:=.tup [.sl none 0 (some 0),iV 2]) (l2:=[.cells false 2 []]) (.tup [.sl (some (H.length,0)) 0 (some 0),iV 2]) (aY results173) [.cells false 2 []] rfl [2] (by decide) ⟨by (rw[hfinL,hfinE];rfl),by (rw[hfinL];rfl)⟩ ?_)
   exact aJ
  have hz:=trE_2 (lo:=lo) (hi:=hi) hp1 hv (by omega)
  have hfinE:=hz.1
  have hfinL:=hz.2
  refine ae G26 ?_
  refine hQ _ _ (ba (.inl rfl) hbel (x1:=.tup [.sl none 0 (some 0),iV 2]) (l2:=[.cells false 2 []]) (.tup [.sl (some (H.length,0)) 0 (some 0),iV 2]) (aY results173) [.cells false 2 []] rfl [2] (by decide) ⟨by (rw[hfinL,hfinE];rfl),by (rw[hfinL];rfl)⟩ ?_)
  exact aJ
 have h1d:=bsT h1
 have hz:=trE_1 (px:=px) (py:=py) (vx:=vx) (vy:=vy) (vd:=vd) (lo:=lo) (hi:=hi) (fun hh=>by rw[h1d] at hh;exact absurd hh.1 (by decide))
 have hfinE:=hz.1
 have hfinL:=hz.2
 have G27:=jn h1 @h1d
 refine ae G27 ?_
 refine hQ _ _ (ba (.inl rfl) hbel (x1:=.tup [.sl none 0 (some 0),iV 1]) (l2:=[.cells false 2 []]) (.tup [.sl (some (H.length,0)) 0 (some 0),iV 1]) (aY results173) [.cells false 2 []] rfl [2] (by decide) ⟨by (rw[hfinL,hfinE];rfl),by (rw[hfinL];rfl)⟩ ?_)
 exact aJ
theorem swept_c (H:aa)(x0 y0 x1 y1 vx vy vd lo hi:Int):zC 137 [.agg [iV x0,iV y0,iV x1,iV y1],.agg [iV vx,iV vy,iV vd],iV lo,iV hi] H (.tup [.sl (some (H.length,0)) ((cZ x0 y0 x1 y1 vx vy vd lo hi).length) (aW (cZ x0 y0 x1 y1 vx vy vd lo hi).length),iV (gL x0 y0 x1 y1 vx vy vd lo hi)]) (H++[.cells (aQ (cZ x0 y0 x1 y1 vx vy vd lo hi).length) 2 (prs (cZ x0 y0 x1 y1 vx vy vd lo hi))]):=by
 refine AcT true func137 ?_;intro hbel Q hQ
 refine aB ?_
 refine cv (pvrc_c _ _ _ _ _) ?_
 refine aB ?_
 refine aV (fun h1=>?_) (fun h1=>?_)
 ·have h1d:=bsT h1
  have hp1:=h1d
  have hp2:=kL.1 hp1
  have G28:=jn h1 @h1d
  refine ae G28 ?_
  refine cv (pvv_c _ _ _ _) ?_
  refine rcs G28 (fun h2 h2d G29=>?_) (fun h2 h2d G30=>?_)
  ·have hz:=sptE_1 (x0:=x0) (y0:=y0) (x1:=x1) (y1:=y1) (vx:=vx) (vy:=vy) (vd:=vd) (lo:=lo) (hi:=hi) (fun hh=>by rw[h2d] at hh;exact absurd hh.2 (by decide))
   have hfinE:=hz.1
   have hfinL:=hz.2
   refine ae G29 ?_
   refine hQ _ _ (ba (.inl rfl) hbel (x1:=.tup [.sl none 0 (some 0),iV 1]) (l2:=[.cells false 2 []]) (.tup [.sl (some (H.length,0)) 0 (some 0),iV 1]) (aY results137) [.cells false 2 []] rfl [2] (by decide) ⟨by (rw[hfinL,hfinE];rfl),by (rw[hfinL];rfl)⟩ ?_)
   exact aJ
  have hv:=h2d
  refine rgs G30 (fun h3 h3d G31=>?_) (fun h3 h3d G40=>?_)
  ·refine rgs G31 (fun h4 h4d G32=>?_) (fun h4 h4d G39=>?_)
   ·refine rcs G32 (fun h5 h5d G33=>?_) (fun h5 h5d G34=>?_)
    ·have hz:=sptE_2 (lo:=lo) (hi:=hi) hp1 hv (by omega)
     have hfinE:=hz.1
     have hfinL:=hz.2
     refine ae G33 ?_
     refine hQ _ _ (ba (.inl rfl) hbel (x1:=.tup [.sl none 0 (some 0),iV 2]) (l2:=[.cells false 2 []]) (.tup [.sl (some (H.length,0)) 0 (some 0),iV 2]) (aY results137) [.cells false 2 []] rfl [2] (by decide) ⟨by (rw[hfinL,hfinE];rfl),by (rw[hfinL];rfl)⟩ ?_)
     exact aJ
    have hlh:0<=lo/\lo<=hi/\hi<=2048:=by omega
    refine rgs G34 (fun h6 h6d G35=>?_) (fun h6 h6d G38=>?_)
    ·refine rcs G35 (fun h7 h7d G36=>?_) (fun h7 h7d G37=>?_)
     ·have hz:=sptE_6 hp1 hv hlh (.inr h7d)
      have hfinE:=hz.1
      have hfinL:=hz.2
      refine ae G36 ?_
      refine hQ _ _ (ba (.inl rfl) hbel (x1:=.tup [.sl none 0 (some 0),iV 6]) (l2:=[.cells false 2 []]) (.tup [.sl (some (H.length,0)) 0 (some 0),iV 6]) (aY results137) [.cells false 2 []] rfl [2] (by decide) ⟨by (rw[hfinL,hfinE];rfl),by (rw[hfinL];rfl)⟩ ?_)
      exact aJ
     have hz:=sptE_0 hp1 hv hlh (by omega)
     have hfinE:=hz.1
     have hfinL:=hz.2
     refine ae G37 ?_
     refine cvr G37 (rl _ _ _ _ _ _ _ _ _ _ (by omega) (by omega) (by assumption) (by omega)) ?_
     refine hQ _ _ (ba (.inl rfl) hbel (x1:=.tup [.sl (some (H.length+2,0)) ((d7 x0 y0 x1 y1 vx vy vd lo hi).length) (aW (d7 x0 y0 x1 y1 vx vy vd lo hi).length),iV 0]) (l2:=[.cells (aQ (d7 x0 y0 x1 y1 vx vy vd lo hi).length) 2 (prs (d7 x0 y0 x1 y1 vx vy vd lo hi))]) (.tup [.sl (some (H.length,0)) ((d7 x0 y0 x1 y1 vx vy vd lo hi).length) (aW (d7 x0 y0 x1 y1 vx vy vd lo hi).length),iV 0]) (aY results137) [] rfl [2] (by decide) ⟨by rw[hfinL,hfinE],by rw[hfinL]⟩ ?_)
     exact aJ
    have hz:=sptE_6 hp1 hv hlh (.inl h6d)
    have hfinE:=hz.1
    have hfinL:=hz.2
    refine ae G38 ?_
    refine hQ _ _ (ba (.inl rfl) hbel (x1:=.tup [.sl none 0 (some 0),iV 6]) (l2:=[.cells false 2 []]) (.tup [.sl (some (H.length,0)) 0 (some 0),iV 6]) (aY results137) [.cells false 2 []] rfl [2] (by decide) ⟨by (rw[hfinL,hfinE];rfl),by (rw[hfinL];rfl)⟩ ?_)
    exact aJ
   have hz:=sptE_2 (lo:=lo) (hi:=hi) hp1 hv (by omega)
   have hfinE:=hz.1
   have hfinL:=hz.2
   refine ae G39 ?_
   refine hQ _ _ (ba (.inl rfl) hbel (x1:=.tup [.sl none 0 (some 0),iV 2]) (l2:=[.cells false 2 []]) (.tup [.sl (some (H.length,0)) 0 (some 0),iV 2]) (aY results137) [.cells false 2 []] rfl [2] (by decide) ⟨by (rw[hfinL,hfinE];rfl),by (rw[hfinL];rfl)⟩ ?_)
   exact aJ
  have hz:=sptE_2 (lo:=lo) (hi:=hi) hp1 hv (by omega)
  have hfinE:=hz.1
  have hfinL:=hz.2
  refine ae G40 ?_
  refine hQ _ _ (ba (.inl rfl) hbel (x1:=.tup [.sl none 0 (some 0),iV 2]) (l2:=[.cells false 2 []]) (.tup [.sl (some (H.length,0)) 0 (some 0),iV 2]) (aY results137) [.cells false 2 []] rfl [2] (by decide) ⟨by (rw[hfinL,hfinE];rfl),by (rw[hfinL];rfl)⟩ ?_)
  exact aJ
 have h1d:=bsT h1
 have hz:=sptE_1 (x0:=x0) (y0:=y0) (x1:=x1) (y1:=y1) (vx:=vx) (vy:=vy) (vd:=vd) (lo:=lo) (hi:=hi) (fun hh=>by rw[h1d] at hh;exact absurd hh.1 (by decide))
 have hfinE:=hz.1
 have hfinL:=hz.2
 have G41:=jn h1 @h1d
 refine ae G41 ?_
 refine hQ _ _ (ba (.inl rfl) hbel (x1:=.tup [.sl none 0 (some 0),iV 1]) (l2:=[.cells false 2 []]) (.tup [.sl (some (H.length,0)) 0 (some 0),iV 1]) (aY results137) [.cells false 2 []] rfl [2] (by decide) ⟨by (rw[hfinL,hfinE];rfl),by (rw[hfinL];rfl)⟩ ?_)
 exact aJ
def dirE (b:T6) (m h:Int):T9:=(b.1,b.2.1,b.2.2.1,b.2.2.2.1,b.2.2.2.2.1,b.2.2.2.2.2,(aG h m).1,(aG h m).2.1,(aG h m).2.2)
def mkB (b:T6):List Int:=bg b.2.2.2.2.1 b.2.2.2.2.2.toNat
def dirB (b:T6) (m:Int):Nat->List T9
 |0=>[]
 |j+1=>dirB b m j++[dirE b m (gi (mkB b) j)]
def dirS (l:List T6) (m:Int):Nat->List T9
 |0=>[]
 |i+1=>dirS l m i++dirB (g6 l i) m (mkB (g6 l i)).length
def az (l:List T6) (m:Int):List T9:=dirS l m l.length
theorem kT (b:T6)(m:Int):∀j:Nat,(dirB b m j).length=j
 |0=>rfl
 |j+1=>by simp only[dirB,List.length_append,kT b m j];rfl
theorem oT {l:List T6}(h:cw l=true){i:Nat}(hi:i<l.length):1<=(mkB (g6 l i)).length/\(mkB (g6 l i)).length<=256/\(((mkB (g6 l i)).length:Nat):Int)=g66 l i:=by
 have:=g66_bd h hi
 unfold mkB
 rw[fy]
 have e:(g6 l i).2.2.2.2.2=g66 l i:=rfl
 rw[e];omega
theorem nw {l:List T6}(h:cw l=true)(m:Int):∀i:Nat,i<=l.length->i<=(dirS l m i).length/\(dirS l m i).length<=256*i
 |0,_=>by simp[dirS]
 | i+1,hi=>by
  have ih:=nw h m i (by omega)
  have k:=oT h (show i<l.length by omega)
  simp only[dirS,List.length_append,kT];omega
theorem kU {l:List T6}(h:cw l=true)(m:Int):l.length<=(az l m).length/\(az l m).length<=4096:=by
 have a:=nw h m l.length (Nat.le_refl _)
 have b:=jE h
 unfold az;omega
theorem rm {b:T6}{m:Int}{e:T9}:∀{j:Nat},j<=(mkB b).length->(e∈dirB b m j↔∃q:Nat,q<j/\e=dirE b m (gi (mkB b) q))
 |0,_=>by simp[dirB]
 | j+1,hj=>by
  rw[dirB,List.mem_append,rm (by omega),List.mem_singleton]
  constructor
  ·rintro(⟨q,hq,rfl⟩|rfl)
   ·exact⟨q,by omega,rfl⟩
   exact⟨j,by omega,rfl⟩
  rintro⟨q,hq,rfl⟩
  rcases Nat.lt_or_ge q j with h|h
  ·exact .inl ⟨q,h,rfl⟩
  obtain rfl:q=j:=by omega
  exact .inr rfl
theorem kW {l:List T6}{m:Int}{e:T9}:∀{i:Nat},i<=l.length->(e∈dirS l m i↔∃j q:Nat,j<i/\q<(mkB (g6 l j)).length/\e=dirE (g6 l j) m (gi (mkB (g6 l j)) q))
 |0,_=>by simp[dirS]
 | i+1,hi=>by
  rw[dirS,List.mem_append,kW (by omega),rm (Nat.le_refl _)]
  constructor
  ·rintro(⟨j,q,h1,h2,h3⟩|⟨q,h2,h3⟩)
   ·exact⟨j,q,by omega,h2,h3⟩
   exact⟨i,q,by omega,h2,h3⟩
  rintro⟨j,q,h1,h2,h3⟩
  rcases Nat.lt_or_ge j i with h|h
  ·exact .inl ⟨j,q,h,h2,h3⟩
  obtain rfl:j=i:=by omega
  exact .inr ⟨q,h2,h3⟩
def pairB (e:T9):Bool:=bxB e.1 e.2.1 e.2.2.1 e.2.2.2.1 e.2.2.2.2.1 e.2.2.2.2.2.1&&du e.2.2.2.2.2.2.1 e.2.2.2.2.2.2.2.1 e.2.2.2.2.2.2.2.2
theorem oU {l:List T6}(h:cw l=true){m:Int}{e:T9}(he:e∈az l m):pairB e=true:=by
 obtain⟨j,q,hj,hq,rfl⟩:=(kW (Nat.le_refl _)).1 he
 unfold pairB dirE
 rw[Bool.and_eq_true]
 exact⟨(bN.1 h).2 (g6 l j) (cQ hj),beam_ok _ _⟩
def psB (e:T9) (s0 t0 s1 t1 far:Int):Bool:=dm e.1 e.2.1 e.2.2.2.2.2.2.1 e.2.2.2.2.2.2.2.1 e.2.2.2.2.2.2.2.2 far s0 t0 s1 t1&&(dm e.2.2.1 e.2.1 e.2.2.2.2.2.2.1 e.2.2.2.2.2.2.2.1 e.2.2.2.2.2.2.2.2 far s0 t0 s1 t1&&(dm e.1 e.2.2.2.1 e.2.2.2.2.2.2.1 e.2.2.2.2.2.2.2.1 e.2.2.2.2.2.2.2.2 far s0 t0 s1 t1&&dm e.2.2.1 e.2.2.2.1 e.2.2.2.2.2.2.1 e.2.2.2.2.2.2.2.1 e.2.2.2.2.2.2.2.2 far s0 t0 s1 t1))
def psC (e:T9) (far:Int) (c:Int×Int):Bool:=psB e (c.1*64) (c.2*64) (c.1*64+64) (c.2*64+64) far
def prvB (l:List T6) (m far:Int) (c:Int×Int):Bool:=(az l m).all fun e=>psC e far c
def aw (r g:Int):Int:=if r = -1 then 1024-g else r-g
def aT (l:List T6) (m far:Int):List (Int×Int):=trL (g91 (az l m) 0) (g92 (az l m) 0) (g97 (az l m) 0) (g98 (az l m) 0) (g99 (az l m) 0) 0 far
def bU (W Hh:Int) (l:List T6) (m far:Int) (c:Int×Int):Bool:=btw c.1 0 (W-1)&&(btw c.2 0 (Hh-1)&&prvB l m far c)
def fh (W Hh:Int) (l:List T6) (m r g:Int):List (Int×Int):=if aw r g<=0 then [] else (aT l m (aw r g)).filter (bU W Hh l m (aw r g))
theorem rn {α:Type}{p:α->Bool}{l:List α}{j:Nat}(h:j<l.length):(l.take (j+1)).filter p=(l.take j).filter p++(if p l[j]=true then [l[j]] else []):=by
 rw[List.take_succ_eq_append_getElem h,List.filter_append]
 congr 1
 cases hp:p l[j]<;>simp[hp]
theorem flt_len {α:Type}{p:α->Bool}{l:List α}{j:Nat}:((l.take j).filter p).length<=j:=by
 have:=List.length_filter_le p (l.take j)
 rw[List.length_take] at this;omega
theorem ro (W Hh:Int)(l:List T6)(m r g:Int):(fh W Hh l m r g).length<=7225:=by
 unfold fh;split
 ·simp
 exact Nat.le_trans (List.length_filter_le _ _) (mB _ _ _ _ _ _ _)
theorem trL_mem {px py vx vy vd lo hi:Int}{c:Int×Int}(h:c∈trL px py vx vy vd lo hi):(-32768<=c.1/\c.1<=32768) /\ -32768<=c.2/\c.2<=32768:=by
 unfold trL mkL at h
 split at h
 ·rename_i he
  obtain⟨h1,h2,hr⟩:=trE_z he
  have hq:=ix.1 h1
  exact swp_bd ((kR (by omega) (by omega) h2 hr).1 h)
 cases h
def sqO (x y:Int):Bool:=br x 16384&&br y 16384
theorem with_c (H:aa)(x0 y0 x1 y1 f c:Int):zC 102 [.agg [iV x0,iV y0,iV x1,iV y1],.agg [iV f,iV c]] H (.agg [iV x0,iV y0,iV x1,iV y1,iV f,iV c]) H:=by
 refine AcT true func102 ?_;intro hbel Q hQ
 refine aB ?_
 exact eP hQ hbel (.agg [iV x0,iV y0,iV x1,iV y1,iV f,iV c]) results102 ⟨rfl,rfl⟩
theorem bhull_c (H:aa)(x0 y0 x1 y1 f c u0 v0 u1 v1 fb cb:Int)(ha:bxB x0 y0 x1 y1 f c=true)(hb:bxB u0 v0 u1 v1 fb cb=true):zC 55 [.agg [iV x0,iV y0,iV x1,iV y1,iV f,iV c],.agg [iV u0,iV v0,iV u1,iV v1,iV fb,iV cb]] H (.tup [.agg [iV (mnI x0 u0),iV (mnI y0 v0),iV (mxI x1 u1),iV (mxI y1 v1),iV ((cT f c fb cb).1),iV ((cT f c fb cb).2)],iV 0]) H:=by
 have ka:=(bv.1 ha).2.2
 have kb:=(bv.1 hb).2.2
 (refine bh func55 _ rfl (Nat.le_of_ble_eq_true (by kernel_rfl)) rfl ?_;intro hbel Q hQ hQ' c hc;unfold Tryz.f55 at hc;simp only[Option.some.injEq] at hc;subst hc;clear hQ')
 refine mf false try_mixed (by kernel_rfl) (fun F Hx=>look F 2=.ptr (some (H.length,0))/\look F 3=.ptr (some (H.length+1,0))/\look F 4=.ptr (some (H.length+2,0))/\look F 5=iV 0/\Hx=H++[.cells true 0 [iV x0,iV y0,iV x1,iV y1,iV f,iV c],.cells true 0 [iV u0,iV v0,iV u1,iV v1,iV fb,iV cb],.cells true 0 [iV 0,iV 0,iV 0,iV 0,iV 0,iV 0]]) ?_ ?_
 ·have G1:=jn @ha @hb
  refine ae G1 ?_
  refine aq ?_
  exact absT
 rintro F Hx ⟨f1,f2,f3,f4,rfl⟩
 refine mf false try_mixed (by kernel_rfl) (fun F Hx=>look F 2=.ptr (some (H.length,0))/\look F 3=.ptr (some (H.length+1,0))/\look F 4=.ptr (some (H.length+2,0))/\look F 5=iV 0/\Hx=H++[.cells true 0 [iV x0,iV y0,iV x1,iV y1,iV f,iV c],.cells true 0 [iV u0,iV v0,iV u1,iV v1,iV fb,iV cb],.cells true 0 [iV 0,iV 0,iV 0,iV 0,iV 0,iV 0]]) ?_ ?_
 ·have G2:=jn @f1 (jn @f2 (jn @f3 (jn @f4 (jn @ha @hb))))
  refine ae G2 ?_
  refine cvr G2 (gy _ _ _ _ _ f c) ?_
  refine cvr G2 (gy _ _ _ _ _ _ _) ?_
  refine aq ?_
  exact absTf (jn @f1 (jn @f2 (jn @f3 @f4)))
 rintro F Hx ⟨f5,f6,f7,f8,rfl⟩
 refine bt false try_mixed [[0,1,2,3,4,5,6,7,8,9,10],[0,1,2,3,8,4,5,6,7,9,10],[0,1,2,8,3,4,5,6,7,9,10],[0,2,8,1,3,4,5,6,7,9,10]] (by kernel_rfl) (fun F2 H2=>F2=[(2,.ptr (some (H.length,0))),(3,.ptr (some (H.length+1,0))),(4,.ptr (some (H.length+2,0))),(5,iV 0),(6,.ptr (some (H.length+3,0)))]/\H2=H++[.cells true 0 [iV x0,iV y0,iV x1,iV y1,iV f,iV c],.cells true 0 [iV u0,iV v0,iV u1,iV v1,iV fb,iV cb],.cells true 0 [iV 0,iV 0,iV 0,iV 0,iV 0,iV 0],.cells true 0 [iV ((cT f c fb cb).1),iV ((cT f c fb cb).2)]]) ?_ ?_
 ·refine aj ?_ (aj ?_ (aj ?_ (aj ?_ (bu))))<;>intro J hJ
  ·have G3:=jn @f1 (jn @f2 (jn @f3 (jn @f4 (jn @f5 (jn @f6 (jn @f7 (jn @f8 (jn @ha @hb))))))))
   refine ag G3 ?_
   refine cd (ia _ _ _ _ _ f c) ?_
   refine ag G3 ?_
   refine cd (ia _ _ _ _ _ _ _) ?_
   refine ag G3 ?_
   refine cd (mm _ f c _ _ (by assumption) (by assumption)) ?_
   refine ag G3 ?_
   refine aq (hJ _ _ ⟨_,_,_,⟨rfl,rfl⟩,bS hbel [0,1,2,3] (aS (jn @f1 (jn @f2 (jn @f3 (jn @f4 (jn @f5 (jn @f6 (jn @f7 @f8))))))))⟩)
  ·have G4:=jn @f1 (jn @f2 (jn @f3 (jn @f4 (jn @f5 (jn @f6 (jn @f7 (jn @f8 (jn @ha @hb))))))))
   refine ag G4 ?_
   refine cd (ia _ _ _ _ _ f c) ?_
   refine ag G4 ?_
   refine cd (ia _ _ _ _ _ _ _) ?_
   refine ag G4 ?_
   refine cd (mm _ f c _ _ (by assumption) (by assumption)) ?_
   refine ag G4 ?_
   refine aq (hJ _ _ ⟨_,_,_,⟨rfl,rfl⟩,bS hbel [0,1,2,3] (aS (jn @f1 (jn @f2 (jn @f3 (jn @f4 (jn @f5 (jn @f6 (jn @f7 @f8))))))))⟩)
  ·have G5:=jn @f1 (jn @f2 (jn @f3 (jn @f4 (jn @f5 (jn @f6 (jn @f7 (jn @f8 (jn @ha @hb))))))))
   refine ag G5 ?_
   refine cd (ia _ _ _ _ _ f c) ?_
   refine ag G5 ?_
   refine cd (ia _ _ _ _ _ _ _) ?_
   refine ag G5 ?_
   refine cd (mm _ f c _ _ (by assumption) (by assumption)) ?_
   refine ag G5 ?_
   refine aq (hJ _ _ ⟨_,_,_,⟨rfl,rfl⟩,bS hbel [0,1,2,3] (aS (jn @f1 (jn @f2 (jn @f3 (jn @f4 (jn @f5 (jn @f6 (jn @f7 @f8))))))))⟩)
  have G6:=jn @f1 (jn @f2 (jn @f3 (jn @f4 (jn @f5 (jn @f6 (jn @f7 (jn @f8 (jn @ha @hb))))))))
  refine ag G6 ?_
  refine cd (ia _ _ _ _ _ f c) ?_
  refine ag G6 ?_
  refine cd (ia _ _ _ _ _ _ _) ?_
  refine ag G6 ?_
  refine cd (mm _ f c _ _ (by assumption) (by assumption)) ?_
  refine ag G6 ?_
  refine aq (hJ _ _ ⟨_,_,_,⟨rfl,rfl⟩,bS hbel [0,1,2,3] (aS (jn @f1 (jn @f2 (jn @f3 (jn @f4 (jn @f5 (jn @f6 (jn @f7 @f8))))))))⟩)
 rintro F2 H2 ⟨rfl,rfl⟩
 refine fnF ?_
 have G7:=jn @ha @hb
 refine ae G7 ?_
 refine cvr G7 (with_c _ _ _ _ _ _ _) ?_
 exact eP hQ hbel (.tup [.agg [iV (if u0<x0 then u0 else x0),iV (if v0<y0 then v0 else y0),iV (if x1<u1 then u1 else x1),iV (if y1<v1 then v1 else y1),iV ((cT f c fb cb).1),iV ((cT f c fb cb).2)],iV 0]) results55 ⟨rfl,rfl⟩
theorem arep_z {k:IntKind}{n:Nat}:(List.range n).map (fun j=>([.int k 0]:List AV).getD (j%1) .any)=ints k (List.replicate n 0):=by
 rw[<-bV]
 refine List.ext_getElem (by simp) fun i h1 h2=>?_
 simp[Nat.mod_one]
def gM (f:Int) (n i:Nat):List Int:=bg f i++List.replicate (n-i) 0
theorem rp {f:Int}{n i:Nat}(h:i<=n):(gM f n i).length=n:=by unfold gM;rw[List.length_append,fy,List.length_replicate];omega
theorem lisS_set {f:Int}{n i:Nat}(h:i<n):(gM f n i).set i ((f+(i:Int))%256)=gM f n (i+1):=by
 unfold gM
 obtain⟨k,hk⟩:∃k,n-i=k+1:=⟨n-i-1,by omega⟩
 rw[hk,List.replicate_succ,List.set_append_right _ _ (by rw[fy];exact Nat.le_refl _),fy,Nat.sub_self,List.set_cons_zero,mrkL_succ,List.append_assoc,show n-(i+1)=k by omega]
 rfl
theorem lisS_0 (f:Int)(n:Nat):gM f n 0=List.replicate n 0:=rfl
theorem lisS_n (f:Int)(n:Nat):gM f n n=bg f n:=by unfold gM;rw[Nat.sub_self];simp
theorem harc_c (H:aa)(f n:Int)(hn:1<=n/\n<=100000):zC 217 [iV f,iV n] H (.agg [iV (arcF f n),iV (cC n)]) H:=by
 refine AcT true func217 ?_;intro hbel Q hQ
 refine aB ?_
 refine cK (fun h1=>?_) (fun h1=>?_)
 ·have h1d:=bsT h1
  have G1:=jn h1 @h1d
  exact eR G1 hQ hbel (.agg [iV 0,iV 256]) results217 ⟨by unfold arcF cC;(rw[if_pos (by omega),if_pos (by omega)];done),rfl⟩
 have h1d:=bsT h1
 have G2:=jn h1 @h1d
 refine ae G2 ?_
 refine cvr G2 (lQ _ f) ?_
 exact eP hQ hbel (.agg [iV (((f%256).toNat:Nat):Int),iV n]) results217 ⟨by unfold arcF cC;(rw[if_neg (by omega),if_neg (by omega),show (((f%256).toNat:Nat):Int)=f%256 by omega]),rfl⟩
theorem hshift_c (H:aa)(f c n:Int)(ha:cA f c=true):zC 164 [.agg [iV f,iV c],iV n] H (.tup [.agg [iV (shF f c n),iV (cC c)],iV 0]) H:=by
 have ka:=bm.1 ha
 refine AcT true func164 ?_;intro hbel Q hQ
 have G3:=@ha
 refine ae G3 ?_
 refine cvr G3 (ki _ f c) ?_
 refine cdr G3 (lQ _ n) ?_
 refine cdr G3 (harc_c _ _ c (by omega)) ?_
 exact eP hQ hbel (.tup [.agg [iV (arcF (f+(((n%256).toNat:Nat):Int)) c),iV (cC c)],iV 0]) results164 ⟨rfl,rfl⟩
theorem hgrow_c (H:aa)(f c n:Int)(ha:cA f c=true)(hn:0<=n/\n<=256):zC 166 [.agg [iV f,iV c],iV n] H (.tup [.agg [iV (grF f c n),iV (grC c n)],iV 0]) H:=by
 have ka:=bm.1 ha
 refine AcT true func166 ?_;intro hbel Q hQ
 have G4:=@ha
 refine ae G4 ?_
 refine cv (ki _ f c) ?_
 refine rgs G4 (fun h1 h1d G5=>?_) (fun h1 h1d _=>?_)
 ·refine rcs G5 (fun h2 h2d _=>?_) (fun h2 h2d G6=>?_)
  ·omega
  refine ae G6 ?_
  refine cvr G6 (harc_c _ _ _ (by omega)) ?_
  exact eP hQ hbel (.tup [.agg [iV (arcF (f-n) (c+(2*n))),iV (cC (c+(2*n)))],iV 0]) results166 ⟨rfl,rfl⟩
 omega
theorem oV (H:aa)(f c:Int)(ha:cA f c=true):zC 123 [.agg [iV f,iV c]] H (.sl (some (H.length,0)) ((bg f c.toNat).length) none) (H++[.cells true 1 (ints .i64 (bg f c.toNat))]):=by
 have ka:=bm.1 ha
 have harep:=arep_z (k:=.i64) (n:=c.toNat)
 have hrt:(c.toNat:Int)=c:=by omega
 refine AcT true func123 ?_;intro hbel Q hQ
 have G7:=jn @ha (jn @harep @hrt)
 refine ae G7 ?_
 refine cv (ki _ f c) ?_
 have G8:=jn @bV (jn @List.length_replicate.{0} G7)
 refine ae G8 ?_
 refine glp (fun k F Hx=>∃i:Nat,i+k=c.toNat/\F=[(1,.ptr (some (H.length,0))),(3,.sl (some (H.length+1,0)) ((gM f c.toNat i).length) none),(12,iV (c.toNat:Int)),(13,iV (i:Int))]/\Hx=H++[.cells true 0 [iV f,iV c],.cells true 1 (ints .i64 (gM f c.toNat i))]) (c.toNat) ?_ ?_
 ·refine⟨_,_,_,⟨0,by omega,rfl,rfl⟩,bS hbel [0,1] (aC (jn @lisS_0 (jn @List.length_replicate.{0} @hrt)))⟩
 rintro k0 F Hx ⟨i,hm0,rfl,rfl⟩ J0 hJ0
 have hln:=rp (f:=f) (n:=c.toNat) (i:=i) (by omega)
 have G9:=jn @co (jn @cV G8)
 refine rcs G9 (fun h1 h1d G10=>?_) (fun h1 h1d G12=>?_)
 ·have hln2:=rp (f:=f) (n:=c.toNat) (i:=i+1) (by omega)
  have hst:(gM f c.toNat i).set i ((((f+(i:Int))%256).toNat:Nat):Int)=gM f c.toNat (i+1):=by rw[show ((((f+(i:Int))%256).toNat:Nat):Int)=(f+(i:Int))%256 by omega];exact lisS_set (by omega)
  refine ae G10 ?_
  refine cv (lQ _ _) ?_
  have G11:=jn @jQ (jn @List.length_set.{0} G10)
  refine ae G11 ?_
  refine hJ0 _ _ ⟨k0-1,by omega,_,_,_,⟨i+1,by omega,rfl,rfl⟩,bS hbel [0,1] (aC (jn @hst (jn @List.length_set.{0} (jn @hln (jn @hln2 @hrt)))))⟩
 obtain rfl:i=c.toNat:=by omega
 refine ae G12 ?_
 refine hQ _ _ (ba (.inl rfl) hbel (x1:=.sl (some (H.length+1,0)) ((gM f c.toNat c.toNat).length) none) (l2:=[.cells true 1 (ints .i64 (gM f c.toNat c.toNat))]) (.sl (some (H.length,0)) ((gM f c.toNat c.toNat).length) none) (aY results123) [] rfl [1] (by decide) ⟨by rw[lisS_n],by rw[lisS_n]⟩ ?_)
 exact aJ
theorem rect_c (H:aa)(x0 y0 x1 y1 f c:Int)(ha:bxB x0 y0 x1 y1 f c=true):zC 138 [.agg [iV x0,iV y0,iV x1,iV y1,iV f,iV c]] H (.agg [iV x0,iV y0,iV x1,iV y1]) H:=by
 refine AcT true func138 ?_;intro hbel Q hQ
 have G13:=@ha
 refine ae G13 ?_
 refine cvr G13 (gy _ _ _ _ _ f c) ?_
 exact eP hQ hbel (.agg [iV x0,iV y0,iV x1,iV y1]) results138 ⟨rfl,rfl⟩
theorem hvv_c (H:aa)(vx vy vd:Int):zC 262 [.agg [iV vx,iV vy,iV vd]] H (.bool (du vx vy vd)) H:=by
 refine AcT true func262 ?_;intro hbel Q hQ
 refine aB ?_
 refine aV (fun h1=>?_) (fun h1=>?_)
 ·have h1d:=bsT h1
  have G1:=jn h1 @h1d
  refine rgs G1 (fun h2 h2d G2=>?_) (fun h2 h2d G11=>?_)
  ·refine rgs G2 (fun h3 h3d G3=>?_) (fun h3 h3d G10=>?_)
   ·refine rgs G3 (fun h4 h4d G4=>?_) (fun h4 h4d G9=>?_)
    ·refine rgs G4 (fun h5 h5d G5=>?_) (fun h5 h5d G8=>?_)
     ·refine rcs G5 (fun h6 h6d G6=>?_) (fun h6 h6d G7=>?_)
      ·exact eR G6 hQ hbel (.bool false) results262 ⟨by (refine congrArg AV.bool ?_;rw[Bool.eq_iff_iff,bi];exact⟨fun e=>(by cases e),fun k=>(by omega)⟩),rfl⟩
      have hm1:=aH (a:=vx) (b:=vx) (A:=67108864) (B:=67108864) (by omega) (by omega)
      have hm2:=aH (a:=vy) (b:=vy) (A:=67108864) (B:=67108864) (by omega) (by omega)
      have hm3:=aH (a:=vd) (b:=vd) (A:=67108864) (B:=67108864) (by omega) (by omega)
      exact eR G7 hQ hbel (.bool (((vx*vx)+(vy*vy))==(vd*vd))) results262 ⟨by (refine congrArg AV.bool ?_;rw[Bool.eq_iff_iff,bi,beq_iff_eq];exact⟨fun e=>⟨⟨by omega,by omega⟩,⟨by omega,by omega⟩,⟨by omega,by omega⟩,e⟩,fun e=>e.2.2.2⟩),rfl⟩
     exact eR G8 hQ hbel (.bool false) results262 ⟨by (refine congrArg AV.bool ?_;rw[Bool.eq_iff_iff,bi];exact⟨fun e=>(by cases e),fun k=>(by omega)⟩),rfl⟩
    exact eR G9 hQ hbel (.bool false) results262 ⟨by (refine congrArg AV.bool ?_;rw[Bool.eq_iff_iff,bi];exact⟨fun e=>(by cases e),fun k=>(by omega)⟩),rfl⟩
   exact eR G10 hQ hbel (.bool false) results262 ⟨by (refine congrArg AV.bool ?_;rw[Bool.eq_iff_iff,bi];exact⟨fun e=>(by cases e),fun k=>(by omega)⟩),rfl⟩
  exact eR G11 hQ hbel (.bool false) results262 ⟨by (refine congrArg AV.bool ?_;rw[Bool.eq_iff_iff,bi];exact⟨fun e=>(by cases e),fun k=>(by omega)⟩),rfl⟩
 have h1d:=bsT h1
 have G12:=jn h1 @h1d
 exact eR G12 hQ hbel (.bool false) results262 ⟨by (refine congrArg AV.bool ?_;rw[Bool.eq_iff_iff,bi];exact⟨fun e=>(by cases e),fun k=>(by omega)⟩),rfl⟩
theorem rq (H:aa)(x m:Int)(h:0<=m/\m<=4611686018427387904):zC 105 [iV x,iV m] H (.bool (br x m)) H:=by
 refine AcT true func105 ?_;intro hbel Q hQ
 refine aB ?_
 refine aV (fun h1=>?_) (fun h1=>?_)
 ·have h1d:=bsT h1
  have G13:=jn h1 @h1d
  exact eS G13 hQ hbel (.bool (decide (x<=m))) results105 ⟨by (simp[br,h1d];omega),rfl⟩
 have h1d:=bsT h1
 have G14:=jn h1 @h1d
 exact eS G14 hQ hbel (.bool false) results105 ⟨by (simp[br,h1d];omega),rfl⟩
theorem bvec_c (H:aa)(vx vy vd:Int):zC 213 [.agg [iV vx,iV vy,iV vd]] H (.bool (du vx vy vd)) H:=by
 refine AcT true func213 ?_;intro hbel Q hQ
 refine aB ?_
 refine aV (fun h1=>?_) (fun h1=>?_)
 ·have h1d:=bsT h1
  have G15:=jn h1 @h1d
  refine rgs G15 (fun h2 h2d G16=>?_) (fun h2 h2d G21=>?_)
  ·refine ae G16 ?_
   refine cv (rq _ _ _ (by omega)) ?_
   refine rgs G16 (fun h3 h3d G17=>?_) (fun h3 h3d G20=>?_)
   ·have hwx:=aL.1 h3d
    refine ae G17 ?_
    refine cv (rq _ _ _ (by omega)) ?_
    refine rgs G17 (fun h4 h4d G18=>?_) (fun h4 h4d G19=>?_)
    ·have hwy:=aL.1 h4d
     have hm1:=aH (a:=vx) (b:=vx) (A:=67108864) (B:=67108864) (by omega) (by omega)
     have hm2:=aH (a:=vy) (b:=vy) (A:=67108864) (B:=67108864) (by omega) (by omega)
     have hm3:=aH (a:=vd) (b:=vd) (A:=67108864) (B:=67108864) (by omega) (by omega)
     exact eR G18 hQ hbel (.bool (((vx*vx)+(vy*vy))==(vd*vd))) results213 ⟨by (refine congrArg AV.bool ?_;rw[Bool.eq_iff_iff,bi,beq_iff_eq];exact⟨fun e=>⟨⟨by omega,by omega⟩,⟨by omega,by omega⟩,⟨by omega,by omega⟩,e⟩,fun e=>e.2.2.2⟩),rfl⟩
    have hwy:¬(-vd<=vy/\vy<=vd):=mt aL.2 (by rw[h4d];decide)
    exact eR G19 hQ hbel (.bool false) results213 ⟨by (refine congrArg AV.bool ?_;rw[Bool.eq_iff_iff,bi];exact⟨fun e=>(by cases e),fun k=>(by omega)⟩),rfl⟩
   have hwx:¬(-vd<=vx/\vx<=vd):=mt aL.2 (by rw[h3d];decide)
   exact eR G20 hQ hbel (.bool false) results213 ⟨by (refine congrArg AV.bool ?_;rw[Bool.eq_iff_iff,bi];exact⟨fun e=>(by cases e),fun k=>(by omega)⟩),rfl⟩
  exact eR G21 hQ hbel (.bool false) results213 ⟨by (refine congrArg AV.bool ?_;rw[Bool.eq_iff_iff,bi];exact⟨fun e=>(by cases e),fun k=>(by omega)⟩),rfl⟩
 have h1d:=bsT h1
 have G22:=jn h1 @h1d
 exact eR G22 hQ hbel (.bool false) results213 ⟨by (refine congrArg AV.bool ?_;rw[Bool.eq_iff_iff,bi];exact⟨fun e=>(by cases e),fun k=>(by omega)⟩),rfl⟩
theorem r4v_c (H:aa)(vx vy vd:Int):zC 255 [.agg [iV vx,iV vy,iV vd]] H (.bool (du vx vy vd)) H:=by
 refine AcT true func255 ?_;intro hbel Q hQ
 refine aB ?_
 refine cv (bvec_c _ _ _ _) ?_
 refine aB ?_
 exact eP hQ hbel (.bool (du vx vy vd)) results255 ⟨rfl,rfl⟩
theorem hturn_c (H:aa)(a b:Vec)(ha:fL a=true)(hb:fL b=true):zC 234 [.agg [iV a.1,iV a.2.1,iV a.2.2],.agg [iV b.1,iV b.2.1,iV b.2.2]] H (.tup [.agg [iV ((fA a b).1),iV ((fA a b).2.1),iV ((fA a b).2.2)],iV 0]) H:=by
 have hka:=c9.1 ha
 have hkb:=c9.1 hb
 have hBa:=mo ha
 have hBb:=mo hb
 have hT:=(bi.1 (tur_ok ha hb)).1
 unfold fA at hT
 have hm0:=aH (a:=a.1) (b:=b.1) (A:=8065) (B:=8065) (by omega) (by omega)
 have hm1:=aH (a:=a.2.1) (b:=b.2.1) (A:=8065) (B:=8065) (by omega) (by omega)
 have hm2:=aH (a:=a.1) (b:=b.2.1) (A:=8065) (B:=8065) (by omega) (by omega)
 have hm3:=aH (a:=a.2.1) (b:=b.1) (A:=8065) (B:=8065) (by omega) (by omega)
 have hm4:=aH (a:=a.2.2) (b:=b.2.2) (A:=8065) (B:=8065) (by omega) (by omega)
 have hpd:0<a.2.2*b.2.2:=Int.mul_pos (by omega) (by omega)
 have hnr:decide (67108864<(dW (a.1*b.1-a.2.1*b.2.1) (a.1*b.2.1+a.2.1*b.1) (a.2.2*b.2.2)).2.2)=false:=decide_eq_false (by omega)
 refine AcT true func234 ?_;intro hbel Q hQ
 have G23:=jn @hBa (jn @hBb @hnr)
 refine ae G23 ?_
 refine cvr G23 (hvv_c _ _ _ _) ?_
 refine cvr G23 (hvv_c _ _ _ _) ?_
 refine cvr G23 (low_c _ _ _ _ (by omega) (by omega) (by omega) (by omega)) ?_
 exact eP hQ hbel (.tup [.agg [iV ((dW ((a.1*b.1)-(a.2.1*b.2.1)) ((a.1*b.2.1)+(a.2.1*b.1)) (a.2.2*b.2.2)).1),iV ((dW ((a.1*b.1)-(a.2.1*b.2.1)) ((a.1*b.2.1)+(a.2.1*b.1)) (a.2.2*b.2.2)).2.1),iV ((dW ((a.1*b.1)-(a.2.1*b.2.1)) ((a.1*b.2.1)+(a.2.1*b.1)) (a.2.2*b.2.2)).2.2)],iV 0]) results234 ⟨rfl,rfl⟩
theorem rturn_c (H:aa)(a b:Vec)(ha:fL a=true)(hb:fL b=true):zC 216 [.agg [iV a.1,iV a.2.1,iV a.2.2],.agg [iV b.1,iV b.2.1,iV b.2.2]] H (.tup [.agg [iV ((fA a b).1),iV ((fA a b).2.1),iV ((fA a b).2.2)],iV 0]) H:=by
 have hka:=c9.1 ha
 have hkb:=c9.1 hb
 have hBa:=mo ha
 have hBb:=mo hb
 have hT:=(bi.1 (tur_ok ha hb)).1
 unfold fA at hT
 have hm0:=aH (a:=a.1) (b:=b.1) (A:=8065) (B:=8065) (by omega) (by omega)
 have hm1:=aH (a:=a.2.1) (b:=b.2.1) (A:=8065) (B:=8065) (by omega) (by omega)
 have hm2:=aH (a:=a.1) (b:=b.2.1) (A:=8065) (B:=8065) (by omega) (by omega)
 have hm3:=aH (a:=a.2.1) (b:=b.1) (A:=8065) (B:=8065) (by omega) (by omega)
 have hm4:=aH (a:=a.2.2) (b:=b.2.2) (A:=8065) (B:=8065) (by omega) (by omega)
 have hpd:0<a.2.2*b.2.2:=Int.mul_pos (by omega) (by omega)
 have hnr:decide (67108864<(dW (a.1*b.1-a.2.1*b.2.1) (a.1*b.2.1+a.2.1*b.1) (a.2.2*b.2.2)).2.2)=false:=decide_eq_false (by omega)
 refine AcT true func216 ?_;intro hbel Q hQ
 have G24:=jn @hBa (jn @hBb @hnr)
 refine ae G24 ?_
 refine cvr G24 (r4v_c _ _ _ _) ?_
 refine cvr G24 (r4v_c _ _ _ _) ?_
 refine cvr G24 (rlow_c _ _ _ _ (by omega) (by omega) (by omega) (by omega)) ?_
 exact eP hQ hbel (.tup [.agg [iV ((dW ((a.1*b.1)-(a.2.1*b.2.1)) ((a.1*b.2.1)+(a.2.1*b.1)) (a.2.2*b.2.2)).1),iV ((dW ((a.1*b.1)-(a.2.1*b.2.1)) ((a.1*b.2.1)+(a.2.1*b.1)) (a.2.2*b.2.2)).2.1),iV ((dW ((a.1*b.1)-(a.2.1*b.2.1)) ((a.1*b.2.1)+(a.2.1*b.1)) (a.2.2*b.2.2)).2.2)],iV 0]) results216 ⟨rfl,rfl⟩
theorem hbeam_c (H:aa)(h m:Int):zC 182 [iV h,iV m] H (.agg [iV ((aG h m).1),iV ((aG h m).2.1),iV ((aG h m).2.2)]) H:=by
 refine AcT true func182 ?_;intro hbel Q hQ
 refine aB ?_
 refine cv (dir_c _ h) ?_
 refine aB ?_
 refine cv (dir_c _ m) ?_
 refine aB ?_
 refine cv (hturn_c _ (bK h) (bK m) (fD _) (fD _)) ?_
 refine aB ?_
 exact eP hQ hbel (.agg [iV ((fA (bK h) (bK m)).1),iV ((fA (bK h) (bK m)).2.1),iV ((fA (bK h) (bK m)).2.2)]) results182 ⟨rfl,rfl⟩
theorem eE (H:aa)(h m:Int):zC 162 [iV h,iV m] H (.agg [iV ((aG h m).1),iV ((aG h m).2.1),iV ((aG h m).2.2)]) H:=by
 refine AcT true func162 ?_;intro hbel Q hQ
 refine aB ?_
 refine cv (rdir_c _ h) ?_
 refine aB ?_
 refine cv (rdir_c _ m) ?_
 refine aB ?_
 refine cv (rturn_c _ (bK h) (bK m) (fD _) (fD _)) ?_
 refine aB ?_
 exact eP hQ hbel (.agg [iV ((fA (bK h) (bK m)).1),iV ((fA (bK h) (bK m)).2.1),iV ((fA (bK h) (bK m)).2.2)]) results162 ⟨rfl,rfl⟩
set_option maxRecDepth 100000 in
theorem idx_r (H:aa)(s:AV)(l:List T9)(hs:Sl H 9 s l.length (r9 l))(hl:l.length<=1000000000)(g:FuncId)(caps:List AV)(hok:dG prog g=true)(hc:AV.bels H.length caps=true)(p:T9->Bool)(hf:∀j,j<l.length->ACalls prog g (.agg [.int .i64 (g91 l j),.int .i64 (g92 l j),.int .i64 (g93 l j),.int .i64 (g94 l j),.int .i64 (g95 l j),.int .i64 (g96 l j),.int .i64 (g97 l j),.int .i64 (g98 l j),.int .i64 (g99 l j)]::caps) H (fun v H'=>v=.bool (p (g91 l j,g92 l j,g93 l j,g94 l j,g95 l j,g96 l j,g97 l j,g98 l j,g99 l j))/\H'=H)):
  ACalls prog 222 [s,.fn g caps] H (fun v H'=>v=.int .i64 (fT p l)/\H'=H):=by
 obtain⟨b,own,cap,rfl,hb⟩:=hs
 have hbl:=getElem?_lt hb
 have hmv:=fun m sel=>ip (n:=H.length) (m:=m) (sel:=sel) hc
 (refine bX try_mixed func222 true _ rfl (Nat.le_of_ble_eq_true (by kernel_rfl)) (by kernel_rfl) ?_;intro hbel Q hQ hQ' c hc;unfold Tryz.f222 at hc;simp only[Option.some.injEq] at hc;subst hc;clear hQ')
 simp -implicitDefEqProofs (disch:=omega) only [simprocAttr,aD,aE,Function.comp_apply,one1,lenV,ai,ar,au,aop,AV.ofValue,AV.ofCell,AV.cells,AV.flat,AV.one,arep,aN,ap,aA]
 refine glp (fun k F Hx=>∃i:Nat,i+k=l.length/\(l.take i).any p=false/\F=[(0,.sl (some (b,0)) l.length none),(1,.fn g caps),(7,.int .i64 l.length),(8,.int .i64 (i:Nat))]/\Hx=H) l.length ?_ ?_
 ·refine⟨_,_,_,⟨0,by omega,rfl,rfl,rfl⟩,Abs.by0 hbel ?_⟩
  exact aS @hmv
 rintro k F Hx ⟨i,hik,ht,rfl,rfl⟩ J hJ
 by_cases hi:i<l.length
 ·have hii:(i:Int)<(l.length:Int):=by omega
  have q1:=r9_load hi
  have hg:=g9_eq hi
  simp -implicitDefEqProofs (disch:=omega) only [hii,hb,q1,eJ,lU,simprocAttr,aD,aE,Function.comp_apply,one1,lenV,ai,ar,au,aop,AV.ofValue,AV.ofCell,AV.cells,AV.flat,AV.one,arep,aN,ap,aA]
  iterate 2 refine And.intro (by omega) ?_
  refine d3 hok (hf i hi) ?_
  have hst:=jz (p:=p) hi
  rw[ht,Bool.false_or,<-hg] at hst
  cases h1:p (g91 l i,g92 l i,g93 l i,g94 l i,g95 l i,g96 l i,g97 l i,g98 l i,g99 l i)
  ·rw[h1] at hst
   simp -implicitDefEqProofs (disch:=omega) only [h1,simprocAttr,aD,aE,Function.comp_apply,one1,lenV,ai,ar,au,aop,AV.ofValue,AV.ofCell,AV.cells,AV.flat,AV.one,arep,aN,ap,aA]
   refine hJ _ _ ⟨k-1,by omega,_,_,_,⟨i+1,by omega,hst,rfl,rfl⟩,Abs.by0 hbel ?_⟩
   exact aS @hmv
  simp -implicitDefEqProofs (disch:=omega) only [h1,simprocAttr,aD,aE,Function.comp_apply,one1,lenV,ai,ar,au,aop,AV.ofValue,AV.ofCell,AV.cells,AV.flat,AV.one,arep,aN,ap,aA]
  exact eQ hQ hbel (.int .i64 (i:Nat)) results222 ⟨by rw[jl hi ht (by rw[<-hg];exact h1)],rfl⟩
 have hnn:¬((i:Int)<(l.length:Int)):=by omega
 simp -implicitDefEqProofs (disch:=omega) only [hnn,simprocAttr,aD,aE,Function.comp_apply,one1,lenV,ai,ar,au,aop,AV.ofValue,AV.ofCell,AV.cells,AV.flat,AV.one,arep,aN,ap,aA]
 rw[List.take_of_length_le (by omega)] at ht
 exact eQ hQ hbel (.int .i64 (-1)) results222 ⟨by rw[fU ht],rfl⟩
theorem has_r (H:aa)(s:AV)(l:List T9)(hs:Sl H 9 s l.length (r9 l))(hl:l.length<=1000000000)(g:FuncId)(caps:List AV)(hok:dG prog g=true)(hc:AV.bels H.length caps=true)(p:T9->Bool)(hf:∀j,j<l.length->ACalls prog g (.agg [.int .i64 (g91 l j),.int .i64 (g92 l j),.int .i64 (g93 l j),.int .i64 (g94 l j),.int .i64 (g95 l j),.int .i64 (g96 l j),.int .i64 (g97 l j),.int .i64 (g98 l j),.int .i64 (g99 l j)]::caps) H (fun v H'=>v=.bool (p (g91 l j,g92 l j,g93 l j,g94 l j,g95 l j,g96 l j,g97 l j,g98 l j,g99 l j))/\H'=H)):
  ACalls prog 177 [s,.fn g caps] H (fun v H'=>v=.bool (l.any p)/\H'=H):=by
 have key:=idx_r H s l hs hl g caps hok hc p hf
 obtain⟨b,own,cap,rfl,hb⟩:=hs
 have hbl:=getElem?_lt hb
 (refine bX try_mixed func177 true _ rfl (Nat.le_of_ble_eq_true (by kernel_rfl)) (by kernel_rfl) ?_;intro hbel Q hQ hQ' c hc;unfold Tryz.f177 at hc;simp only[Option.some.injEq] at hc;subst hc;clear hQ')
 simp -implicitDefEqProofs (disch:=omega) only [simprocAttr,aD,aE,Function.comp_apply,one1,lenV,ai,ar,au,aop,AV.ofValue,AV.ofCell,AV.cells,AV.flat,AV.one,arep,aN,ap,aA]
 refine d3 (by kernel_rfl) key ?_
 simp -implicitDefEqProofs (disch:=omega) only [simprocAttr,aD,aE,Function.comp_apply,one1,lenV,ai,ar,au,aop,AV.ofValue,AV.ofCell,AV.cells,AV.flat,AV.one,arep,aN,ap,aA]
 exact eQ hQ hbel (.bool (decide (0<=fT p l))) results177 ⟨by rw[kM],rfl⟩
set_option maxRecDepth 100000 in
theorem idx_m (H:aa)(s:AV)(l:List (Int×Int))(hs:SlP H s l)(hl:l.length<=1000000000)(g:FuncId)(caps:List AV)(hok:dG prog g=true)(hc:AV.bels H.length caps=true)(p:(Int×Int)->Bool)(hf:∀j,j<l.length->ACalls prog g (.agg [.int .i64 (g1 l j),.int .i64 (g2 l j)]::caps) H (fun v H'=>v=.bool (p (g1 l j,g2 l j))/\H'=H)):
  ACalls prog 121 [s,.fn g caps] H (fun v H'=>v=.int .i64 (fT p l)/\H'=H):=by
 obtain⟨b,own,cap,rfl,hb⟩:=hs
 have hbl:=getElem?_lt hb
 have hmv:=fun m sel=>ip (n:=H.length) (m:=m) (sel:=sel) hc
 (refine bX try_mixed func121 true _ rfl (Nat.le_of_ble_eq_true (by kernel_rfl)) (by kernel_rfl) ?_;intro hbel Q hQ hQ' c hc;unfold Tryz.f121 at hc;simp only[Option.some.injEq] at hc;subst hc;clear hQ')
 simp -implicitDefEqProofs (disch:=omega) only [simprocAttr,aD,aE,Function.comp_apply,one1,lenV,ai,ar,au,aop,AV.ofValue,AV.ofCell,AV.cells,AV.flat,AV.one,arep,aN,ap,aA]
 refine glp (fun k F Hx=>∃i:Nat,i+k=l.length/\(l.take i).any p=false/\F=[(0,.sl (some (b,0)) l.length none),(1,.fn g caps),(7,.int .i64 l.length),(8,.int .i64 (i:Nat))]/\Hx=H) l.length ?_ ?_
 ·refine⟨_,_,_,⟨0,by omega,rfl,rfl,rfl⟩,Abs.by0 hbel ?_⟩
  exact aS @hmv
 rintro k F Hx ⟨i,hik,ht,rfl,rfl⟩ J hJ
 by_cases hi:i<l.length
 ·have hii:(i:Int)<(l.length:Int):=by omega
  have q1:=c8 hi
  have hg:=cP hi
  simp -implicitDefEqProofs (disch:=omega) only [hii,hb,q1,bF,cJ,simprocAttr,aD,aE,Function.comp_apply,one1,lenV,ai,ar,au,aop,AV.ofValue,AV.ofCell,AV.cells,AV.flat,AV.one,arep,aN,ap,aA]
  iterate 2 refine And.intro (by omega) ?_
  refine d3 hok (hf i hi) ?_
  have hst:=jz (p:=p) hi
  rw[ht,Bool.false_or,<-hg] at hst
  cases h1:p (g1 l i,g2 l i)
  ·rw[h1] at hst
   simp -implicitDefEqProofs (disch:=omega) only [h1,simprocAttr,aD,aE,Function.comp_apply,one1,lenV,ai,ar,au,aop,AV.ofValue,AV.ofCell,AV.cells,AV.flat,AV.one,arep,aN,ap,aA]
   refine hJ _ _ ⟨k-1,by omega,_,_,_,⟨i+1,by omega,hst,rfl,rfl⟩,Abs.by0 hbel ?_⟩
   exact aS @hmv
  simp -implicitDefEqProofs (disch:=omega) only [h1,simprocAttr,aD,aE,Function.comp_apply,one1,lenV,ai,ar,au,aop,AV.ofValue,AV.ofCell,AV.cells,AV.flat,AV.one,arep,aN,ap,aA]
  exact eQ hQ hbel (.int .i64 (i:Nat)) results121 ⟨by rw[jl hi ht (by rw[<-hg];exact h1)],rfl⟩
 have hnn:¬((i:Int)<(l.length:Int)):=by omega
 simp -implicitDefEqProofs (disch:=omega) only [hnn,simprocAttr,aD,aE,Function.comp_apply,one1,lenV,ai,ar,au,aop,AV.ofValue,AV.ofCell,AV.cells,AV.flat,AV.one,arep,aN,ap,aA]
 rw[List.take_of_length_le (by omega)] at ht
 exact eQ hQ hbel (.int .i64 (-1)) results121 ⟨by rw[fU ht],rfl⟩
theorem has_m (H:aa)(s:AV)(l:List (Int×Int))(hs:SlP H s l)(hl:l.length<=1000000000)(g:FuncId)(caps:List AV)(hok:dG prog g=true)(hc:AV.bels H.length caps=true)(p:(Int×Int)->Bool)(hf:∀j,j<l.length->ACalls prog g (.agg [.int .i64 (g1 l j),.int .i64 (g2 l j)]::caps) H (fun v H'=>v=.bool (p (g1 l j,g2 l j))/\H'=H)):
  ACalls prog 73 [s,.fn g caps] H (fun v H'=>v=.bool (l.any p)/\H'=H):=by
 have key:=idx_m H s l hs hl g caps hok hc p hf
 obtain⟨b,own,cap,rfl,hb⟩:=hs
 have hbl:=getElem?_lt hb
 (refine bX try_mixed func73 true _ rfl (Nat.le_of_ble_eq_true (by kernel_rfl)) (by kernel_rfl) ?_;intro hbel Q hQ hQ' c hc;unfold Tryz.f73 at hc;simp only[Option.some.injEq] at hc;subst hc;clear hQ')
 simp -implicitDefEqProofs (disch:=omega) only [simprocAttr,aD,aE,Function.comp_apply,one1,lenV,ai,ar,au,aop,AV.ofValue,AV.ofCell,AV.cells,AV.flat,AV.one,arep,aN,ap,aA]
 refine d3 (by kernel_rfl) key ?_
 simp -implicitDefEqProofs (disch:=omega) only [simprocAttr,aD,aE,Function.comp_apply,one1,lenV,ai,ar,au,aop,AV.ofValue,AV.ofCell,AV.cells,AV.flat,AV.one,arep,aN,ap,aA]
 exact eQ hQ hbel (.bool (decide (0<=fT p l))) results73 ⟨by rw[kM],rfl⟩
theorem dq (H:aa)(n lo hi:Int):zC 88 [iV n,iV lo,iV hi] H (.bool (btw n lo hi)) H:=by
 refine AcT true func88 ?_;intro hbel Q hQ
 refine aB ?_
 refine aV (fun h1=>?_) (fun h1=>?_)
 ·have h1d:=bsT h1
  have G1:=jn h1 @h1d
  exact eS G1 hQ hbel (.bool (decide (n<=hi))) results88 ⟨by simp[btw,h1d],rfl⟩
 have h1d:=bsT h1
 have G2:=jn h1 @h1d
 exact eS G2 hQ hbel (.bool false) results88 ⟨by simp[btw,h1d],rfl⟩
theorem kvb_c (H:aa)(m r:Int):zC 127 [.agg [iV m,iV r]] H (.bool (fI m r)) H:=by
 refine AcT true func127 ?_;intro hbel Q hQ
 refine aB ?_
 refine cv (dq _ m 0 _) ?_
 refine aB ?_
 refine aV (fun h1=>?_) (fun h1=>?_)
 ·have h1d:=bsT h1
  have G3:=jn h1 @h1d
  refine ae G3 ?_
  refine cvr G3 (dq _ r _ _) ?_
  exact eP hQ hbel (.bool (btw r (-1) 1024)) results127 ⟨by simp[fI,h1d],rfl⟩
 have h1d:=bsT h1
 have G4:=jn h1 @h1d
 exact eR G4 hQ hbel (.bool false) results127 ⟨by simp[fI,h1d],rfl⟩
theorem kright1_c (H:aa)(m r:Int):zC 126 [.agg [iV m,iV r]] H (.bool (!(gJ (m,r)))) H:=by
 refine AcT true func126 ?_;intro hbel Q hQ
 refine aB ?_
 refine cv (kvb_c _ m r) ?_
 refine aB ?_
 exact eP hQ hbel (.bool (!(fI m r))) results126 ⟨rfl,rfl⟩
theorem kset1_c (H:aa)(x0 y0 x1 y1 f c:Int):zC 172 [.agg [iV x0,iV y0,iV x1,iV y1,iV f,iV c]] H (.bool (!(bxB x0 y0 x1 y1 f c))) H:=by
 refine AcT true func172 ?_;intro hbel Q hQ
 refine aB ?_
 refine cv (gy _ _ _ _ _ f c) ?_
 refine aB ?_
 exact eP hQ hbel (.bool (!(bxB x0 y0 x1 y1 f c))) results172 ⟨rfl,rfl⟩
theorem kset_c (H:aa)(s:AV)(l:List T6)(hs:Sl H 6 s l.length (r6 l))(hl:l.length<=1000000000):zC 128 [s] H (.bool (cw l)) H:=by
 obtain⟨bs,os,cs,rfl,hbs,hbls,hb0s⟩:=zA1 hs
 refine AcT true func128 ?_;intro hbel Q hQ
 have G1:=jn @hbs @hb0s
 refine rgs G1 (fun h1 h1d G2=>?_) (fun h1 h1d G3=>?_)
 ·refine ae G2 ?_
  refine cvr G2 (ml _ _ l (zA2 hb0s hbs) (by omega) _ [] (by kernel_rfl) rfl (fun b=>!bA b) (fun j hj=>kset1_c _ _ _ _ _ _ _)) ?_
  exact eQ hQ hbel (.bool (!(l.any (fun b=>!bA b)))) results128 ⟨by simp[cw,h1d],rfl⟩
 exact eS G3 hQ hbel (.bool false) results128 ⟨by simp[cw,h1d],rfl⟩
theorem kpairs_c (H:aa)(s:AV)(l:List T6)(hs:Sl H 6 s l.length (r6 l))(hS:cw l=true):zC 130 [s] H (iV (sumC l l.length)) H:=by
 obtain⟨bs,os,cs,rfl,hbs,hbls,hb0s⟩:=zA1 hs
 have hln:=jE hS
 refine AcT true func130 ?_;intro hbel Q hQ
 have G4:=jn @hbs @hb0s
 refine ae G4 ?_
 refine glp (fun k F Hx=>∃i:Nat,i+k=l.length/\F=[(3,iV (sumC l i)),(6,.sl (some (bs,0)) l.length cs),(7,iV (l.length:Int)),(8,iV (i:Int))]/\H=Hx) (l.length) ?_ ?_
 ·refine⟨_,_,_,⟨0,by omega,rfl,rfl⟩,Abs.by0 hbel ?_⟩
  exact aS @sumC.eq_1
 rintro k0 F Hx ⟨i,hm0,rfl,rfl⟩ J0 hJ0
 refine rcs G4 (fun h1 h1d _=>?_) (fun h1 h1d G6=>?_)
 ·have hsb:=sumC_bd hS i (by omega)
  have hgb:=g66_bd hS (show i<l.length by omega)
  have q2:=dK (l:=l) (j:=i) (by omega)
  have G5:=jn h1 (jn h1d (jn @cN (jn q2 G4)))
  refine ae G5 ?_
  refine hJ0 _ _ ⟨k0-1,by omega,_,_,_,⟨i+1,by omega,rfl,rfl⟩,Abs.byN hbel ?_⟩
  exact aS @sumC.eq_2
 obtain rfl:i=l.length:=by omega
 exact eS G6 hQ hbel (iV (sumC l l.length)) results130 ⟨rfl,rfl⟩
theorem ktau1_c (H:aa)(x0 y0 x1 y1 f c:Int)(hb:bxB x0 y0 x1 y1 f c=true):zC 129 [.agg [iV x0,iV y0,iV x1,iV y1,iV f,iV c]] H (.bool (wdeB (x0,y0,x1,y1,f,c))) H:=by
 have hbb:=bv.1 hb
 refine AcT true func129 ?_;intro hbel Q hQ
 refine aB ?_
 refine aV (fun h1=>?_) (fun h1=>?_)
 ·have h1d:=bsT h1
  have G7:=jn h1 @h1d
  exact eR G7 hQ hbel (.bool (decide (64<(y1-y0)))) results129 ⟨by simp[wdeB,h1d],rfl⟩
 have h1d:=bsT h1
 have G8:=jn h1 @h1d
 exact eR G8 hQ hbel (.bool true) results129 ⟨by simp[wdeB,h1d],rfl⟩
theorem lV (H:aa)(s:AV)(l:List T6)(hs:Sl H 6 s l.length (r6 l))(hS:cw l=true):zC 82 [s] H (.bool (fZ l)) H:=by
 obtain⟨bs,os,cs,rfl,hbs,hbls,hb0s⟩:=zA1 hs
 have hln:=jE hS
 refine AcT true func82 ?_;intro hbel Q hQ
 have G1:=jn @hbs @hb0s
 refine ae G1 ?_
 refine cv (kpairs_c _ _ l (zA2 hb0s hbs) (by assumption)) ?_
 refine rgs G1 (fun h1 h1d G2=>?_) (fun h1 h1d G3=>?_)
 ·refine ae G2 ?_
  refine cvr G2 (ml _ _ l (zA2 hb0s hbs) (by omega) _ [] (by kernel_rfl) rfl (wdeB) (fun j hj=>ktau1_c _ _ _ _ _ _ _ ((bN.1 hS).2 (g6 l j) (cQ hj)))) ?_
  exact eQ hQ hbel (.bool (!(l.any (wdeB)))) results82 ⟨by simp[fZ,h1d],rfl⟩
 exact eS G3 hQ hbel (.bool false) results82 ⟨by simp[fZ,h1d],rfl⟩
theorem kright_c (H:aa)(W Hh:Int)(pp:AV)(xs:List Int)(s:AV)(l:List T6)(q:AV)(sc:List (Int×Int))(g:Int)(hpp:zI H pp xs)(hs:Sl H 6 s l.length (r6 l))(hq:SlP H q sc)(hl:l.length<=1000000000)(hsc:sc.length<=1000000000):zC 81 [.agg [iV W,iV Hh,pp],s,q,iV g] H (.bool (eW W Hh xs l sc g)) H:=by
 obtain⟨bpp,opp,cpp,rfl,hbpp,hblpp,hb0pp⟩:=zA1 hpp
 obtain⟨bs,os,cs,rfl,hbs,hbls,hb0s⟩:=zA1 hs
 obtain⟨bq,oq,cq,rfl,hbq,hblq,hb0q⟩:=zA1 hq
 refine AcT true func81 ?_;intro hbel Q hQ
 have G4:=jn @hbpp (jn @hb0pp (jn @hbs (jn @hb0s (jn @hbq @hb0q))))
 refine ae G4 ?_
 refine cv (mi _ W Hh _ xs (.inr (zA2 hb0pp hbpp))) ?_
 refine rgs G4 (fun h1 h1d G5=>?_) (fun h1 h1d G14=>?_)
 ·refine rgs G5 (fun h2 h2d G6=>?_) (fun h2 h2d G13=>?_)
  ·refine ae G6 ?_
   refine cv (kset_c _ _ l (zA2 hb0s hbs) (by omega)) ?_
   refine rgs G6 (fun h3 h3d G7=>?_) (fun h3 h3d G12=>?_)
   ·refine rgs G7 (fun h4 h4d G8=>?_) (fun h4 h4d G11=>?_)
    ·refine ae G8 ?_
     refine cv (has_m _ _ sc (zA2 hb0q hbq) (by omega) _ [] (by kernel_rfl) rfl (fun e=>!gJ e) (fun j hj=>kright1_c _ _ _)) ?_
     refine rgs G8 (fun h5 h5d G9=>?_) (fun h5 h5d G10=>?_)
     ·refine ae G9 ?_
      refine cvr G9 (dq _ g 1 _) ?_
      exact eP hQ hbel (.bool (btw g 1 32)) results81 ⟨by (unfold eW di;simp only[h1,h2,h3,h4,h5];rfl),rfl⟩
     exact eR G10 hQ hbel (.bool false) results81 ⟨by simp[eW,di,h1d,h2d,h3d,h4d,h5d],rfl⟩
    exact eR G11 hQ hbel (.bool false) results81 ⟨by simp[eW,di,h1d,h2d,h3d,h4d],rfl⟩
   exact eR G12 hQ hbel (.bool false) results81 ⟨by simp[eW,di,h1d,h2d,h3d],rfl⟩
  exact eR G13 hQ hbel (.bool false) results81 ⟨by (unfold eW di;simp only[h1,h2];rfl),rfl⟩
 exact eR G14 hQ hbel (.bool false) results81 ⟨by simp[eW,di,h1d],rfl⟩
theorem hlistk_c (H:aa)(l:List T6)(i:Nat)(ha:cA (g65 l i) (g66 l i)=true):zC 123 [.agg [iV (g65 l i),iV (g66 l i)]] H (.sl (some (H.length,0)) (mkB (g6 l i)).length none) (H++[.cells true 1 (ints .i64 (mkB (g6 l i)))]):=oV H _ _ ha
theorem fq (H:aa)(l:List T6)(m far:Int):zC 173 [.agg [iV (g91 (az l m) 0),iV (g92 (az l m) 0)],.agg [iV (g97 (az l m) 0),iV (g98 (az l m) 0),iV (g99 (az l m) 0)],iV 0,iV far] H (.tup [.sl (some (H.length,0)) (aT l m far).length (aW (aT l m far).length),iV (trE (g91 (az l m) 0) (g92 (az l m) 0) (g97 (az l m) 0) (g98 (az l m) 0) (g99 (az l m) 0) 0 far)]) (H++[.cells (aQ (aT l m far).length) 2 (prs (aT l m far))]):=nv H _ _ _ _ _ _ _
theorem g9_mem {l:List T9}{j:Nat}(h:j<l.length):g9 l j∈l:=by
 have:=g9_eq h
 have e:(g91 l j,g92 l j,g93 l j,g94 l j,g95 l j,g96 l j,g97 l j,g98 l j,g99 l j)=g9 l j:=rfl
 rw[e] at this;rw[this];exact List.getElem_mem h
theorem fstL_len (l:List T6)(m far:Int):(aT l m far).length<=7225:=mB _ _ _ _ _ _ _
theorem eK (H:aa)(x0 y0 x1 y1 f c:Int)(ha:bxB x0 y0 x1 y1 f c=true):zC 174 [.agg [iV x0,iV y0,iV x1,iV y1,iV f,iV c]] H (.sl (some (H.length,0)) 4 none) (H++[.cells true 2 [iV x0,iV y0,iV x1,iV y0,iV x0,iV y1,iV x1,iV y1]]):=by
 refine AcT true func174 ?_;intro hbel Q hQ
 have G1:=@ha
 refine ae G1 ?_
 refine cvr G1 (gy _ _ _ _ _ f c) ?_
 refine hQ _ _ (ba (.inl rfl) hbel (x1:=.sl (some (H.length+1,0)) 4 (some 4)) (l2:=[.cells true 2 [iV x0,iV y0,iV x1,iV y0,iV x0,iV y1,iV x1,iV y1]]) (.sl (some (H.length,0)) 4 none) (aY results174) [] rfl [1] (by decide) ⟨rfl,rfl⟩ ?_)
 exact aJ
theorem kX (H:aa)(s:AV)(l:List T6)(m r:Int)(hs:Sl H 6 s l.length (r6 l))(hS:cw l=true):zC 136 [s,.agg [iV m,iV r]] H (.sl (some (H.length,0)) ((az l m).length) (aW (az l m).length)) (H++[.cells (aQ (az l m).length) 9 (r9 (az l m))]):=by
 obtain⟨bs,os,cs,rfl,hbs,hbls,hb0s⟩:=zA1 hs
 have hln:=jE hS
 refine AcT true func136 ?_;intro hbel Q hQ
 have G2:=jn @hbs @hb0s
 refine ae G2 ?_
 refine glp (fun k F Hx=>∃i:Nat,i+k=l.length/\F=[(3,.ptr (some (H.length,0))),(5,.sl (some (H.length+1,0)) ((dirS l m i).length) (aW (dirS l m i).length)),(10,.sl (some (bs,0)) l.length cs),(11,iV (l.length:Int)),(12,iV (i:Int))]/\Hx=H++[.cells true 0 [iV m,iV r],.cells (aQ (dirS l m i).length) 9 (r9 (dirS l m i))]) (l.length) ?_ ?_
 ·refine⟨_,_,_,⟨0,by omega,rfl,rfl⟩,Abs.byG hbel [.cells false 9 []] rfl [0,1] (by decide) ?_⟩
  exact aC (jn @dirS.eq_1 (jn @bD (jn @bH (jn @cz @ct))))
 rintro k0 F Hx ⟨i,hm0,rfl,rfl⟩ J0 hJ0
 have G3:=jn @eJ (jn @lU G2)
 refine rcs G3 (fun h1 h1d _=>?_) (fun h1 h1d G9=>?_)
 ·have hai:cA (g65 l i) (g66 l i)=true:=(bv.1 ((bN.1 hS).2 (g6 l i) (cQ (by omega)))).2.2
  have hdl:=nw hS m i (by omega)
  have hmk:=oT hS (show i<l.length by omega)
  have q2:=dK (l:=l) (j:=i) (by omega)
  have G4:=jn h1 (jn h1d (jn @cN (jn q2 G3)))
  refine ae G4 ?_
  refine cvr G4 (hlistk_c _ l i hai) ?_
  refine glp (fun k F Hx=>∃j:Nat,j+k=(mkB (g6 l i)).length/\F=[(3,.ptr (some (H.length,0))),(5,.sl (some (H.length+3,0)) ((dirS l m i++dirB (g6 l i) m j).length) (aW (dirS l m i++dirB (g6 l i) m j).length)),(7,.ptr (some (H.length+1,0))),(10,.sl (some (bs,0)) l.length cs),(11,iV (l.length:Int)),(12,iV (i:Int)),(21,.sl (some (H.length+2,0)) ((mkB (g6 l i)).length) none),(22,iV (((mkB (g6 l i)).length:Nat):Int)),(23,iV (j:Int))]/\Hx=H++[.cells true 0 [iV m,iV r],.cells true 0 [iV (g61 l i),iV (g62 l i),iV (g63 l i),iV (g64 l i),iV (g65 l i),iV (g66 l i)],.cells true 1 (ints .i64 (mkB (g6 l i))),.cells (aQ (dirS l m i++dirB (g6 l i) m j).length) 9 (r9 (dirS l m i++dirB (g6 l i) m j))]) ((mkB (g6 l i)).length) ?_ ?_
  ·refine⟨_,_,_,⟨0,by omega,rfl,rfl⟩,bS hbel [0,2,3,1] (aC (jn @dirB.eq_1 (jn @List.append_nil.{0} (jn @bD (jn @bH (jn @cz @ct))))))⟩
  rintro k1 F Hx ⟨j,hm1,rfl,rfl⟩ J1 hJ1
  have hbl:=kT (g6 l i) m j
  have hst:dirB (g6 l i) m (j+1)=dirB (g6 l i) m j++[(g61 l i,g62 l i,g63 l i,g64 l i,g65 l i,g66 l i,(aG (gi (mkB (g6 l i)) j) m).1,(aG (gi (mkB (g6 l i)) j) m).2.1,(aG (gi (mkB (g6 l i)) j) m).2.2)]:=rfl
  have G5:=jn @co (jn @cV G4)
  refine rcs G5 (fun h3 h3d _=>?_) (fun h3 h3d G8=>?_)
  ·have q4:=cn (k:=.i64) (xs:=mkB (g6 l i)) (j:=j) (by omega)
   have G6:=jn h3 (jn h3d (jn q4 G5))
   refine ae G6 ?_
   refine cd (hbeam_c _ _ m) ?_
   have G7:=jn @bF (jn @d4 G6)
   refine ae G7 ?_
   refine hJ1 _ _ ⟨k1-1,by omega,_,_,_,⟨j+1,by omega,rfl,rfl⟩,bS hbel [0,1,2,5] (aC (jn @hst (jn @List.append_assoc.{0} (jn @bD (jn @bH (jn @cz @ct))))))⟩
  obtain rfl:j=(mkB (g6 l i)).length:=by omega
  refine ae G8 ?_
  refine hJ0 _ _ ⟨k0-1,by omega,_,_,_,⟨i+1,by omega,rfl,rfl⟩,bS hbel [0,3] (aC (jn @dirS.eq_2 (jn @bD (jn @bH (jn @cz @ct)))))⟩
 obtain rfl:i=l.length:=by omega
 refine ae G9 ?_
 refine hQ _ _ (ba (.inl rfl) hbel (x1:=.sl (some (H.length+1,0)) ((dirS l m l.length).length) (aW (dirS l m l.length).length)) (l2:=[.cells (aQ (dirS l m l.length).length) 9 (r9 (dirS l m l.length))]) (.sl (some (H.length,0)) ((dirS l m l.length).length) (aW (dirS l m l.length).length)) (aY results136) [] rfl [1] (by decide) ⟨rfl,rfl⟩ ?_)
 exact aS @ct
theorem passes_c (H:aa)(x0 y0 x1 y1 f c vx vy vd s0 t0 s1 t1 far:Int)(hp:bxB x0 y0 x1 y1 f c=true):zC 176 [.agg [iV x0,iV y0,iV x1,iV y1,iV f,iV c,iV vx,iV vy,iV vd],.agg [iV s0,iV t0,iV s1,iV t1],iV far] H (.bool (psB (x0,y0,x1,y1,f,c,vx,vy,vd) s0 t0 s1 t1 far)) H:=by
 refine AcT true func176 ?_;intro hbel Q hQ
 refine aB ?_
 refine cv (eK _ _ _ _ _ f c (by assumption)) ?_
 refine aB ?_
 refine glp (fun k F Hx=>∃j:Nat,j+k=4/\((1<=j->dm x0 y0 vx vy vd far s0 t0 s1 t1=true)/\(2<=j->dm x1 y0 vx vy vd far s0 t0 s1 t1=true)/\(3<=j->dm x0 y1 vx vy vd far s0 t0 s1 t1=true)/\(4<=j->dm x1 y1 vx vy vd far s0 t0 s1 t1=true))/\F=[(2,iV far),(3,.ptr (some (H.length,0))),(4,.ptr (some (H.length+1,0))),(11,.sl (some (H.length+2,0)) 4 none),(12,iV 4),(13,iV (j:Int))]/\Hx=H++[.cells true 0 [iV x0,iV y0,iV x1,iV y1,iV f,iV c,iV vx,iV vy,iV vd],.cells true 0 [iV s0,iV t0,iV s1,iV t1],.cells true 2 [iV x0,iV y0,iV x1,iV y0,iV x0,iV y1,iV x1,iV y1]]) (4) ?_ ?_
 ·refine⟨_,_,_,⟨0,by omega,⟨fun h=>by omega,fun h=>by omega,fun h=>by omega,fun h=>by omega⟩,rfl,rfl⟩,bS hbel [0,1,2] aJ⟩
 rintro k0 F Hx ⟨j,hm0,hal,rfl,rfl⟩ J0 hJ0
 refine aB ?_
 refine cK (fun h1=>?_) (fun h1=>?_)
 ·have h1d:=bsT h1
  obtain rfl|rfl|rfl|rfl:=(by omega:j=0\/j=1\/j=2\/j=3)
  ·have G10:=jn h1 @h1d
   refine ae G10 ?_
   refine cv (fp _ _ _ _ _ _ _ _ _ _ _) ?_
   refine rcs G10 (fun h2 h2d G11=>?_) (fun h2 h2d G12=>?_)
   ·have hfinP:psB (x0,y0,x1,y1,f,c,vx,vy,vd) s0 t0 s1 t1 far=false:=by simp[psB,h2d]
    exact eR G11 hQ hbel (.bool false) results176 ⟨by rw[hfinP],rfl⟩
   have hc0:=h2d
   refine ae G12 ?_
   refine hJ0 _ _ ⟨k0-1,by omega,_,_,_,⟨0+1,by omega,by refine⟨fun h=>?_,fun h=>?_,fun h=>?_,fun h=>?_⟩<;>omega,rfl,rfl⟩,bS hbel [0,1,2] aJ⟩
  ·have G13:=jn h1 @h1d
   refine ae G13 ?_
   refine cv (fp _ _ _ _ _ _ _ _ _ _ _) ?_
   refine rcs G13 (fun h3 h3d G14=>?_) (fun h3 h3d G15=>?_)
   ·have hfinP:psB (x0,y0,x1,y1,f,c,vx,vy,vd) s0 t0 s1 t1 far=false:=by simp[psB,h3d]
    exact eR G14 hQ hbel (.bool false) results176 ⟨by rw[hfinP],rfl⟩
   have hc1:=h3d
   refine ae G15 ?_
   refine hJ0 _ _ ⟨k0-1,by omega,_,_,_,⟨1+1,by omega,by refine⟨fun h=>?_,fun h=>?_,fun h=>?_,fun h=>?_⟩<;>first|omega|exact hal.1 (by omega),rfl,rfl⟩,bS hbel [0,1,2] aJ⟩
  ·have G16:=jn h1 @h1d
   refine ae G16 ?_
   refine cv (fp _ _ _ _ _ _ _ _ _ _ _) ?_
   refine rcs G16 (fun h4 h4d G17=>?_) (fun h4 h4d G18=>?_)
   ·have hfinP:psB (x0,y0,x1,y1,f,c,vx,vy,vd) s0 t0 s1 t1 far=false:=by simp[psB,h4d]
    exact eR G17 hQ hbel (.bool false) results176 ⟨by rw[hfinP],rfl⟩
   have hc2:=h4d
   refine ae G18 ?_
   refine hJ0 _ _ ⟨k0-1,by omega,_,_,_,⟨2+1,by omega,by refine⟨fun h=>?_,fun h=>?_,fun h=>?_,fun h=>?_⟩<;>first|omega|exact hal.1 (by omega)|exact hal.2.1 (by omega),rfl,rfl⟩,bS hbel [0,1,2] aJ⟩
  have G19:=jn h1 @h1d
  refine ae G19 ?_
  refine cv (fp _ _ _ _ _ _ _ _ _ _ _) ?_
  refine rcs G19 (fun h5 h5d G20=>?_) (fun h5 h5d G21=>?_)
  ·have hfinP:psB (x0,y0,x1,y1,f,c,vx,vy,vd) s0 t0 s1 t1 far=false:=by simp[psB,h5d]
   exact eR G20 hQ hbel (.bool false) results176 ⟨by rw[hfinP],rfl⟩
  have hc3:=h5d
  refine ae G21 ?_
  refine hJ0 _ _ ⟨k0-1,by omega,_,_,_,⟨3+1,by omega,by refine⟨fun h=>?_,fun h=>?_,fun h=>?_,fun h=>?_⟩<;>first|omega|exact hal.1 (by omega)|exact hal.2.1 (by omega)|exact hal.2.2.1 (by omega),rfl,rfl⟩,bS hbel [0,1,2] aJ⟩
 have h1d:=bsT h1
 have hfinP:psB (x0,y0,x1,y1,f,c,vx,vy,vd) s0 t0 s1 t1 far=true:=by unfold psB;simp only;rw[hal.1 (by omega),hal.2.1 (by omega),hal.2.2.1 (by omega),hal.2.2.2 (by omega)];rfl
 have G22:=jn h1 @h1d
 exact eR G22 hQ hbel (.bool true) results176 ⟨by rw[hfinP],rfl⟩
theorem kprv1_c (H:aa)(x0 y0 x1 y1 f c vx vy vd s0 t0 s1 t1:Int)(bz:Nat)(far:Int)(bw:Nat)(hz:∃o,H[bz]? = some (.cells o 0 [iV s0,iV t0,iV s1,iV t1]))(hw:∃o,H[bw]? = some (.cells o 0 [iV far]))(hp:bxB x0 y0 x1 y1 f c=true):zC 175 [.agg [iV x0,iV y0,iV x1,iV y1,iV f,iV c,iV vx,iV vy,iV vd],.ptr (some (bz,0)),.ptr (some (bw,0))] H (.bool (!(psB (x0,y0,x1,y1,f,c,vx,vy,vd) s0 t0 s1 t1 far))) H:=by
 obtain⟨oz,hbz⟩:=hz
 have hblz:=getElem?_lt hbz
 have hb0z:=fun l=>am (l:=l) hbz
 obtain⟨ow,hbw⟩:=hw
 have hblw:=getElem?_lt hbw
 have hb0w:=fun l=>am (l:=l) hbw
 refine AcT true func175 ?_;intro hbel Q hQ
 have G23:=jn @hbz (jn @hb0z (jn @hbw @hb0w))
 refine ae G23 ?_
 refine cvr G23 (passes_c _ _ _ _ _ f c _ _ _ _ _ _ _ _ (by assumption)) ?_
 exact eP hQ hbel (.bool (!(psB (x0,y0,x1,y1,f,c,vx,vy,vd) s0 t0 s1 t1 far))) results175 ⟨rfl,rfl⟩
theorem psqr_c (H:aa)(x y:Int):zC 143 [.agg [iV x,iV y]] H (.tup [.agg [iV (mkV (sqO x y) (x*64)),iV (mkV (sqO x y) (y*64)),iV (mkV (sqO x y) (x*64+64)),iV (mkV (sqO x y) (y*64+64))],.bool (sqO x y)]) H:=by
 refine AcT true func143 ?_;intro hbel Q hQ
 refine aB ?_
 refine cv (gT _ x _ (by omega)) ?_
 refine aB ?_
 refine aV (fun h1=>?_) (fun h1=>?_)
 ·have h1d:=bsT h1
  have wx:=aL.1 h1d
  have G24:=jn h1 @h1d
  refine ae G24 ?_
  refine cv (gT _ y _ (by omega)) ?_
  refine rcs G24 (fun h2 h2d G25=>?_) (fun h2 h2d G26=>?_)
  ·have wy:¬(-16384<=y/\y<=16384):=mt aL.2 (by rw[h2d];decide)
   exact eR G25 hQ hbel (.tup [.agg [iV 0,iV 0,iV 0,iV 0],.bool false]) results143 ⟨by simp[mkV,sqO,h1d,h2d],rfl⟩
  have wy:=aL.1 h2d
  refine ae G26 ?_
  refine cvr G26 (jV _ x y (by omega) (by omega)) ?_
  exact eP hQ hbel (.tup [.agg [iV (x*64),iV (y*64),iV (x*64+64),iV (y*64+64)],.bool true]) results143 ⟨by simp[mkV,sqO,h1d,h2d],rfl⟩
 have h1d:=bsT h1
 have wx:¬(-16384<=x/\x<=16384):=mt aL.2 (by rw[h1d];decide)
 have G27:=jn h1 @h1d
 exact eR G27 hQ hbel (.tup [.agg [iV 0,iV 0,iV 0,iV 0],.bool false]) results143 ⟨by simp[mkV,sqO,h1d],rfl⟩
theorem psqr_t (H:aa)(x y:Int)(h:sqO x y=true):zC 143 [.agg [iV x,iV y]] H (.tup [.agg [iV (x*64),iV (y*64),iV (x*64+64),iV (y*64+64)],.bool true]) H:=by
 have q:=psqr_c H x y
 simp only[h,mkV,if_true] at q;exact q
theorem psqr_f (H:aa)(x y:Int)(h:sqO x y=false):zC 143 [.agg [iV x,iV y]] H (.tup [.agg [iV 0,iV 0,iV 0,iV 0],.bool false]) H:=by
 have q:=psqr_c H x y
 simp only[h,mkV,if_false,Bool.false_eq_true] at q;exact q
section
variable {W Hh:Int} {xs:List Int} {px py qx qy:Int} {n m:Nat}
end
theorem tmS_hn {px py vx vy vd x0 y0 x1 y1:Int}(hg:thG px py vx vy vd x0 y0 x1 y1=true)(h:tmE px py vx vy x0 y0 x1 y1=false):0<=(tmS px py vx vy x0 y0 x1 y1).2.1:=by
 have hv:=(dM hg).2
 have ho:okS (tmS px py vx vy x0 y0 x1 y1):=ib hv
 have k:=(kj ho).1 ((tmE_f hv).1 h).2
 have hl:0<=(tmS px py vx vy x0 y0 x1 y1).1.1:=tmS_nn
 generalize tmS px py vx vy x0 y0 x1 y1=s at *
 have h1:=ho.1
 have h2:=ho.2
 rcases Int.lt_or_le s.2.1 0 with q|q
 ·have a1:=Int.mul_neg_of_neg_of_pos q h1
  have a2:=Int.mul_nonneg hl (show 0<=s.2.2 by omega)
  omega
 exact q
def rO (px py vx vy vd x0 y0 x1 y1:Int):Bool:=thG px py vx vy vd x0 y0 x1 y1&&!tmE px py vx vy x0 y0 x1 y1
theorem rO_t {px py vx vy vd x0 y0 x1 y1:Int}(h:rO px py vx vy vd x0 y0 x1 y1=true):thG px py vx vy vd x0 y0 x1 y1=true/\tmE px py vx vy x0 y0 x1 y1=false:=by
 unfold rO at h;simpa using h
def enN (px py vx vy vd x0 y0 x1 y1:Int):Int:=lwN ((tmS px py vx vy x0 y0 x1 y1).1.1*vd) (tmS px py vx vy x0 y0 x1 y1).1.2
def enD (px py vx vy vd x0 y0 x1 y1:Int):Int:=lwD ((tmS px py vx vy x0 y0 x1 y1).1.1*vd) (tmS px py vx vy x0 y0 x1 y1).1.2
def lvN (px py vx vy vd x0 y0 x1 y1:Int):Int:=lwN ((tmS px py vx vy x0 y0 x1 y1).2.1*vd) (tmS px py vx vy x0 y0 x1 y1).2.2
def lvD (px py vx vy vd x0 y0 x1 y1:Int):Int:=lwD ((tmS px py vx vy x0 y0 x1 y1).2.1*vd) (tmS px py vx vy x0 y0 x1 y1).2.2
theorem en_bd {px py vx vy vd x0 y0 x1 y1:Int}(h:rO px py vx vy vd x0 y0 x1 y1=true):((0<=enN px py vx vy vd x0 y0 x1 y1/\enN px py vx vy vd x0 y0 x1 y1<=562949953421312)/\0<enD px py vx vy vd x0 y0 x1 y1/\enD px py vx vy vd x0 y0 x1 y1<=67108864)/\(0<=lvN px py vx vy vd x0 y0 x1 y1/\lvN px py vx vy vd x0 y0 x1 y1<=562949953421312)/\0<lvD px py vx vy vd x0 y0 x1 y1/\lvD px py vx vy vd x0 y0 x1 y1<=67108864:=by
 obtain⟨hg,he⟩:=rO_t h
 obtain⟨⟨b1,b2⟩,b3,b4⟩:=tmS_bd hg
 have hn:0<=(tmS px py vx vy x0 y0 x1 y1).1.1:=tmS_nn
 have hh:=tmS_hn hg he
 have hv:=bi.1 (cl.1 hg).2.1
 have m1:=aH (a:=(tmS px py vx vy x0 y0 x1 y1).1.1) (b:=vd) (A:=8388608) (B:=67108864) (by omega) (by omega)
 have m2:=aH (a:=(tmS px py vx vy x0 y0 x1 y1).2.1) (b:=vd) (A:=8388608) (B:=67108864) (by omega) (by omega)
 have n1:=Int.mul_nonneg hn (show 0<=vd by omega)
 have n2:=Int.mul_nonneg hh (show 0<=vd by omega)
 have q1:=lw_bd (n:=(tmS px py vx vy x0 y0 x1 y1).1.1*vd) (d:=(tmS px py vx vy x0 y0 x1 y1).1.2) (B:=562949953421312) (by omega) (by omega)
 have q2:=lw_bd (n:=(tmS px py vx vy x0 y0 x1 y1).2.1*vd) (d:=(tmS px py vx vy x0 y0 x1 y1).2.2) (B:=562949953421312) (by omega) (by omega)
 unfold enN enD lvN lvD
 omega
theorem en_le {px py vx vy vd x0 y0 x1 y1 hi:Int}(h:rO px py vx vy vd x0 y0 x1 y1=true):(enN px py vx vy vd x0 y0 x1 y1<=hi*enD px py vx vy vd x0 y0 x1 y1↔(tmS px py vx vy x0 y0 x1 y1).1.1*vd<=hi*(tmS px py vx vy x0 y0 x1 y1).1.2)/\(enN px py vx vy vd x0 y0 x1 y1<hi*enD px py vx vy vd x0 y0 x1 y1↔(tmS px py vx vy x0 y0 x1 y1).1.1*vd<hi*(tmS px py vx vy x0 y0 x1 y1).1.2)/\(hi*lvD px py vx vy vd x0 y0 x1 y1<=lvN px py vx vy vd x0 y0 x1 y1↔hi*(tmS px py vx vy x0 y0 x1 y1).2.2<=(tmS px py vx vy x0 y0 x1 y1).2.1*vd):=by
 obtain⟨hg,he⟩:=rO_t h
 have ho:okS (tmS px py vx vy x0 y0 x1 y1):=ib (dM hg).2
 exact⟨(lw_le ho.1).1,lw_lt ho.1,(lw_le ho.2).2⟩
theorem ax_neg {p d a b:Int}(h:d<0):(sbL (0-p) (0-d) (0-b) (0-a)=sbL p d a b/\sbH (0-p) (0-d) (0-b) (0-a)=sbH p d a b):=by
 unfold sbL sbH
 simp only[if_neg (show ¬0-d<0 by omega),if_pos h]
 exact⟨Prod.ext (by simp only;omega) (by simp only;omega),Prod.ext (by simp only;omega) (by simp only;omega)⟩
def axI (d n:Int):Int:=if d=0 then 0 else n
def axA (p d a b:Int):Bool:=decide (d=0)&&!axE p d a b
theorem mC {p d a b:Int}(h:¬d=0):axE p d a b=false/\axA p d a b=false:=by
 unfold axA axE;rw[decide_eq_false h];exact⟨rfl,rfl⟩
def tiV (px py vx vy x0 y0 x1 y1:Int):Fr2×Fr2:=if tmE px py vx vy x0 y0 x1 y1=true then ((0,0),(0,0)) else tmS px py vx vy x0 y0 x1 y1
theorem lw_tdiv {n d:Int}(hn:0<=n)(hd:0<d):Int.tdiv n (Int.gcd n d:Int)=lwN n d/\Int.tdiv d (Int.gcd n d:Int)=lwD n d:=⟨Int.tdiv_eq_ediv_of_nonneg hn,Int.tdiv_eq_ediv_of_nonneg (by omega)⟩
theorem axis0_c (H:aa)(p d a b:Int)(h1 : -2097152<=p/\p<=2097152)(h2 : -67108864<=d/\d<=67108864)(h3 : -2097152<=a/\a<=2097152)(h4 : -2097152<=b/\b<=2097152)(hd0:0<=d):zC 275 [iV p,iV d,iV a,iV b] H (.agg [iV (axI d (sbL p d a b).1),iV (axI d (sbL p d a b).2),iV (axI d (sbH p d a b).1),iV (axI d (sbH p d a b).2),.bool (axE p d a b),.bool (axA p d a b)]) H:=by
 have hnn:decide (d<0)=false:=decide_eq_false (by omega)
 refine AcT true func275 ?_;intro hbel Q hQ
 have G1:=@hnn
 refine rgs G1 (fun h1 h1d _=>?_) (fun h1 h1d _=>?_)
 ·have h1n:=bnT h1
  have hd:d=0:=by simpa using h1d
  have G2:=jn h1 (jn h1n (jn @aP (jn @aO G1)))
  refine rgs G2 (fun h2 h2d G3=>?_) (fun h2 h2d G6=>?_)
  ·refine rcs G3 (fun h3 h3d G4=>?_) (fun h3 h3d G5=>?_)
   ·exact eR G4 hQ hbel (.agg [iV 0,iV 0,iV 0,iV 0,.bool true,.bool false]) results275 ⟨by simp[axI,axE,axA,hd,h2d,h3d,h1d],rfl⟩
   exact eR G5 hQ hbel (.agg [iV 0,iV 0,iV 0,iV 0,.bool false,.bool true]) results275 ⟨by simp[axI,axE,axA,hd,h2d,h3d,h1d],rfl⟩
  exact eR G6 hQ hbel (.agg [iV 0,iV 0,iV 0,iV 0,.bool true,.bool false]) results275 ⟨by simp[axI,axE,axA,hd,h2d,h1d],rfl⟩
 have h1n:=bnT h1
 have hd:¬d=0:=by simpa using h1d
 have hdp:¬d<0:=by omega
 have G7:=jn h1 (jn h1n (jn @aP (jn @aO G1)))
 exact eR G7 hQ hbel (.agg [iV (a-p),iV d,iV (b-p),iV d,.bool false,.bool false]) results275 ⟨by simp[axI,axE,axA,sbL,sbH,hd,hdp,h1d],rfl⟩
theorem axis_c (H:aa)(p d a b:Int)(h1 : -2097152<=p/\p<=2097152)(h2 : -67108864<=d/\d<=67108864)(h3 : -2097152<=a/\a<=2097152)(h4 : -2097152<=b/\b<=2097152):zC 275 [iV p,iV d,iV a,iV b] H (.agg [iV (axI d (sbL p d a b).1),iV (axI d (sbL p d a b).2),iV (axI d (sbH p d a b).1),iV (axI d (sbH p d a b).2),.bool (axE p d a b),.bool (axA p d a b)]) H:=by
 refine AcT true func275 ?_;intro hbel Q hQ
 refine aB ?_
 refine aV (fun h1=>?_) (fun h1=>?_)
 ·have h1d:=bsT h1
  have h1n:=bnT h1
  have hd:d=0:=by simpa using h1d
  have G8:=jn h1 (jn h1n (jn @aP @aO))
  refine rgs G8 (fun h2 h2d G9=>?_) (fun h2 h2d G12=>?_)
  ·refine rcs G9 (fun h3 h3d G10=>?_) (fun h3 h3d G11=>?_)
   ·exact eR G10 hQ hbel (.agg [iV 0,iV 0,iV 0,iV 0,.bool true,.bool false]) results275 ⟨by simp[axI,axE,axA,hd,h2d,h3d,h1d],rfl⟩
   exact eR G11 hQ hbel (.agg [iV 0,iV 0,iV 0,iV 0,.bool false,.bool true]) results275 ⟨by simp[axI,axE,axA,hd,h2d,h3d,h1d],rfl⟩
  exact eR G12 hQ hbel (.agg [iV 0,iV 0,iV 0,iV 0,.bool true,.bool false]) results275 ⟨by simp[axI,axE,axA,hd,h2d,h1d],rfl⟩
 have h1d:=bsT h1
 have h1n:=bnT h1
 have hd:¬d=0:=by simpa using h1d
 have G13:=jn h1 (jn h1n (jn @aP @aO))
 refine rcs G13 (fun h4 h4d G14=>?_) (fun h4 h4d G15=>?_)
 ·have hdn:=h4d
  have hax:=ax_neg (p:=p) (a:=a) (b:=b) hdn
  have hx0:=mC (p:=p) (a:=a) (b:=b) hd
  have hx1:=mC (p:=0-p) (d:=0-d) (a:=0-b) (b:=0-a) (by omega)
  refine ae G14 ?_
  refine cvr G14 (axis0_c _ _ _ _ _ (by omega) (by omega) (by omega) (by omega) (by omega)) ?_
  exact eP hQ hbel (.agg [iV (axI (0-d) (sbL (0-p) (0-d) (0-b) (0-a)).1),iV (axI (0-d) (sbL (0-p) (0-d) (0-b) (0-a)).2),iV (axI (0-d) (sbH (0-p) (0-d) (0-b) (0-a)).1),iV (axI (0-d) (sbH (0-p) (0-d) (0-b) (0-a)).2),.bool (axE (0-p) (0-d) (0-b) (0-a)),.bool (axA (0-p) (0-d) (0-b) (0-a))]) results275 ⟨by rw[hax.1,hax.2,hx1.1,hx1.2,hx0.1,hx0.2];unfold axI;rw[if_neg hd,if_neg hd,if_neg hd,if_neg hd,if_neg (show ¬0-d=0 by omega),if_neg (show ¬0-d=0 by omega),if_neg (show ¬0-d=0 by omega),if_neg (show ¬0-d=0 by omega)],rfl⟩
 have hdp:¬d<0:=h4d
 exact eR G15 hQ hbel (.agg [iV (a-p),iV d,iV (b-p),iV d,.bool false,.bool false]) results275 ⟨by simp[axI,axE,axA,sbL,sbH,hd,hdp,h4d,h1d],rfl⟩
theorem axis_z (H:aa)(p d a b:Int)(h1 : -2097152<=p/\p<=2097152)(h2 : -67108864<=d/\d<=67108864)(h3 : -2097152<=a/\a<=2097152)(h4 : -2097152<=b/\b<=2097152)(h:decide (d=0)=true):zC 275 [iV p,iV d,iV a,iV b] H (.agg [iV 0,iV 0,iV 0,iV 0,.bool (axE p d a b),.bool (!(axE p d a b))]) H:=by
 have q:=axis_c H p d a b h1 h2 h3 h4
 unfold axA axI at q
 rw[h,if_pos (of_decide_eq_true h),if_pos (of_decide_eq_true h),if_pos (of_decide_eq_true h),if_pos (of_decide_eq_true h),Bool.true_and] at q
 exact q
theorem axis_n (H:aa)(p d a b:Int)(h1 : -2097152<=p/\p<=2097152)(h2 : -67108864<=d/\d<=67108864)(h3 : -2097152<=a/\a<=2097152)(h4 : -2097152<=b/\b<=2097152)(h:decide (d=0)=false):zC 275 [iV p,iV d,iV a,iV b] H (.agg [iV (sbL p d a b).1,iV (sbL p d a b).2,iV (sbH p d a b).1,iV (sbH p d a b).2,.bool false,.bool false]) H:=by
 have q:=axis_c H p d a b h1 h2 h3 h4
 have e:=mC (p:=p) (a:=a) (b:=b) (of_decide_eq_false h)
 unfold axI at q
 rw[if_neg (of_decide_eq_false h),if_neg (of_decide_eq_false h),if_neg (of_decide_eq_false h),if_neg (of_decide_eq_false h),e.1,e.2] at q
 exact q
end Go.Proofs.YtjihmmoaaibmnaaGreat
