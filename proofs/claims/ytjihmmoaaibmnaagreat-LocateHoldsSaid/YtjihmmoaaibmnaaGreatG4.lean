/- Parts of the proof: walks and plain facts. Conditions: as each theorem states. -/
import Derived.Test.YtjihmmoaaibmnaaGreatG3
import Derived.Test.YtjihmmoaaibmnaaGreatG2
namespace Go.Proofs.YtjihmmoaaibmnaaGreat
set_option linter.unusedSimpArgs false
set_option linter.unusedVariables false
open Go.RowKit Go.Proofs.Tryz
set_option maxHeartbeats 4000000
set_option maxRecDepth 100000
theorem times_c (H:aa)(px py vx vy vd x0 y0 x1 y1:Int)(hg:thG px py vx vy vd x0 y0 x1 y1=true):zC 253 [.agg [iV px,iV py],.agg [iV vx,iV vy,iV vd],.agg [iV x0,iV y0,iV x1,iV y1]] H (.agg [iV ((tiV px py vx vy x0 y0 x1 y1).1.1),iV ((tiV px py vx vy x0 y0 x1 y1).1.2),iV ((tiV px py vx vy x0 y0 x1 y1).2.1),iV ((tiV px py vx vy x0 y0 x1 y1).2.2),.bool (tmE px py vx vy x0 y0 x1 y1),.bool false]) H:=by
 have hz:=(dM hg).2
 have hvP:=cO.1 (cl.1 hg).1
 have hvV:=bi.1 (cl.1 hg).2.1
 have hvR:=bZ.1 (cl.1 hg).2.2
 (refine bh func253 _ rfl (Nat.le_of_ble_eq_true (by kernel_rfl)) rfl ?_;intro hbel Q hQ hQ' c hc;unfold Tryz.f253 at hc;simp only[Option.some.injEq] at hc;subst hc;clear hQ')
 refine zQT hQ fun Q1 hn1 hQ1 he1=>?_
 refine aB ?_
 refine hn1 _ _ (zQT hQ fun Q2 hn2 hQ2 he2=>?_)
 refine aB ?_
 rcases Bool.eq_false_or_eq_true (decide (vx=0)) with h1|h1
 ·have h1d:=h1
  have hX0:vx=0:=by simpa using h1d
  refine cv (axis_z _ _ _ _ _ (by omega) (by omega) (by omega) (by omega) (by assumption)) ?_
  have G1:=jn h1 @h1d
  refine ae G1 ?_
  refine hn2 _ _ (zQT hQ fun Q3 hn3 hQ3 he3=>?_)
  refine ae G1 ?_
  rcases Bool.eq_false_or_eq_true (decide (vy=0)) with h2|h2
  ·have h2d:=h2
   have hY0:vy=0:=by simpa using h2d
   exact absurd ⟨hX0,hY0⟩ hz
  have h2d:=h2
  have hnY:¬vy=0:=by simpa using h2d
  have haY:=(mC (p:=py) (a:=y0) (b:=y1) hnY).1
  have hbY:=mw (p:=py) (d:=vy) (a:=y0) (b:=y1) (by omega) (by omega) (by omega) (by omega) hnY
  obtain⟨⟨hbY1,hbY2,hbY3⟩,hbY4,hbY5,hbY6⟩:=hbY
  have hpy5:=aH (a:=(sbL py vy y0 y1).1) (b:=(sbL py vy y0 y1).2) (A:=8388608) (B:=67108864) (by omega) (by omega)
  have hpy7:=aH (a:=(sbL py vy y0 y1).1) (b:=(sbH py vy y0 y1).2) (A:=8388608) (B:=67108864) (by omega) (by omega)
  have hpy13:=aH (a:=(sbH py vy y0 y1).1) (b:=(sbL py vy y0 y1).2) (A:=8388608) (B:=67108864) (by omega) (by omega)
  have hpy15:=aH (a:=(sbH py vy y0 y1).1) (b:=(sbH py vy y0 y1).2) (A:=8388608) (B:=67108864) (by omega) (by omega)
  try have hpq1:=aH (a:=(sbL px vx x0 x1).1) (b:=(sbL py vy y0 y1).2) (A:=8388608) (B:=67108864) (by omega) (by omega)
  try have hpq3:=aH (a:=(sbL px vx x0 x1).1) (b:=(sbH py vy y0 y1).2) (A:=8388608) (B:=67108864) (by omega) (by omega)
  try have hpq4:=aH (a:=(sbL py vy y0 y1).1) (b:=(sbL px vx x0 x1).2) (A:=8388608) (B:=67108864) (by omega) (by omega)
  try have hpq6:=aH (a:=(sbL py vy y0 y1).1) (b:=(sbH px vx x0 x1).2) (A:=8388608) (B:=67108864) (by omega) (by omega)
  try have hpq9:=aH (a:=(sbH px vx x0 x1).1) (b:=(sbL py vy y0 y1).2) (A:=8388608) (B:=67108864) (by omega) (by omega)
  try have hpq11:=aH (a:=(sbH px vx x0 x1).1) (b:=(sbH py vy y0 y1).2) (A:=8388608) (B:=67108864) (by omega) (by omega)
  try have hpq12:=aH (a:=(sbH py vy y0 y1).1) (b:=(sbL px vx x0 x1).2) (A:=8388608) (B:=67108864) (by omega) (by omega)
  try have hpq14:=aH (a:=(sbH py vy y0 y1).1) (b:=(sbH px vx x0 x1).2) (A:=8388608) (B:=67108864) (by omega) (by omega)
  refine cv (axis_n _ _ _ _ _ (by omega) (by omega) (by omega) (by omega) (by assumption)) ?_
  have G2:=j2 h2 h2d G1
  refine ae G2 ?_
  refine hn3 _ _ (zQT hQ fun Q4 hn4 hQ4 he4=>?_)
  refine rgs G2 (fun h3 h3d G3=>?_) (fun h3 h3d G12=>?_)
  ·have haX:=h3d
   refine ae G3 ?_
   refine hn4 _ _ (zQT hQ fun Q5 hn5 hQ5 he5=>?_)
   refine ae G3 ?_
   refine hn5 _ _ (zQT hQ fun Q6 hn6 hQ6 he6=>?_)
   refine ae G3 ?_
   refine hn6 _ _ (sqR hQ fun Q7 hn7 hQ7 he7=>?_)
   refine zQT hQ7 fun Q8 hn8 hQ8 he8=>?_
   have q4:=decide_eq_false (Int.lt_irrefl (((sbL py vy y0 y1).1)*((sbL py vy y0 y1).2)))
   have G4:=jn q4 G3
   refine ae G4 ?_
   refine hn8 _ _ ?_
   refine dR false (by rfl) (fun h=>by cases h) (fun h=>?_)
   refine fnT ?_
   refine ae G4 ?_
   refine hn7 _ _ (sqR hQ fun Q9 hn9 hQ9 he9=>?_)
   refine zQT hQ9 fun Q10 hn10 hQ10 he10=>?_
   have q5:=decide_eq_false (Int.lt_irrefl (((sbH py vy y0 y1).1)*((sbH py vy y0 y1).2)))
   have G5:=jn q5 G4
   refine ae G5 ?_
   refine hn10 _ _ ?_
   refine dR false (by rfl) (fun h=>by cases h) (fun h=>?_)
   refine fnT ?_
   refine ae G5 ?_
   refine hn9 _ _ ?_
   refine fnT ?_
   refine rcs G5 (fun h6 h6d G6=>?_) (fun h6 h6d G9=>?_)
   ·refine rcs G6 (fun h7 h7d G7=>?_) (fun h7 h7d G8=>?_)
    ·exact eR G7 hQ hbel (.agg [iV 0,iV 0,iV 0,iV 0,.bool true,.bool false]) results253 ⟨by simp only[tiV,tmE,tmS,tmL,tmH,mxF,mnF,lo0,haX,haY,h1d,h2d,h3d,h6d,h7d,if_pos hX0,if_neg hnY,Int.lt_irrefl,ite_self,if_true,if_false,decide_true,decide_false,Bool.or_true,Bool.or_false,Bool.or_self,Bool.false_eq_true],rfl⟩
    exact eR G8 hQ hbel (.agg [iV 0,iV 1,iV ((sbH py vy y0 y1).1),iV ((sbH py vy y0 y1).2),.bool false,.bool false]) results253 ⟨by simp only[tiV,tmE,tmS,tmL,tmH,mxF,mnF,lo0,haX,haY,h1d,h2d,h3d,h6d,h7d,if_pos hX0,if_neg hnY,Int.lt_irrefl,ite_self,if_true,if_false,decide_true,decide_false,Bool.or_true,Bool.or_false,Bool.or_self,Bool.false_eq_true],rfl⟩
   refine rcs G9 (fun h8 h8d G10=>?_) (fun h8 h8d G11=>?_)
   ·exact eR G10 hQ hbel (.agg [iV 0,iV 0,iV 0,iV 0,.bool true,.bool false]) results253 ⟨by simp only[tiV,tmE,tmS,tmL,tmH,mxF,mnF,lo0,haX,haY,h1d,h2d,h3d,h6d,h8d,if_pos hX0,if_neg hnY,Int.lt_irrefl,ite_self,if_true,if_false,decide_true,decide_false,Bool.or_true,Bool.or_false,Bool.or_self,Bool.false_eq_true],rfl⟩
   exact eR G11 hQ hbel (.agg [iV ((sbL py vy y0 y1).1),iV ((sbL py vy y0 y1).2),iV ((sbH py vy y0 y1).1),iV ((sbH py vy y0 y1).2),.bool false,.bool false]) results253 ⟨by simp only[tiV,tmE,tmS,tmL,tmH,mxF,mnF,lo0,haX,haY,h1d,h2d,h3d,h6d,h8d,if_pos hX0,if_neg hnY,Int.lt_irrefl,ite_self,if_true,if_false,decide_true,decide_false,Bool.or_true,Bool.or_false,Bool.or_self,Bool.false_eq_true],rfl⟩
  have hfinE:tmE px py vx vy x0 y0 x1 y1=true:=by unfold tmE;rw[h3d];rfl
  exact eR G12 hQ4 hbel (.agg [iV 0,iV 0,iV 0,iV 0,.bool true,.bool false]) results253 ⟨by (unfold tiV;rw[hfinE];rfl),rfl⟩
 have h1d:=h1
 have hnX:¬vx=0:=by simpa using h1d
 have haX:=(mC (p:=px) (a:=x0) (b:=x1) hnX).1
 have hbX:=mw (p:=px) (d:=vx) (a:=x0) (b:=x1) (by omega) (by omega) (by omega) (by omega) hnX
 obtain⟨⟨hbX1,hbX2,hbX3⟩,hbX4,hbX5,hbX6⟩:=hbX
 have hpx0:=aH (a:=(sbL px vx x0 x1).1) (b:=(sbL px vx x0 x1).2) (A:=8388608) (B:=67108864) (by omega) (by omega)
 have hpx2:=aH (a:=(sbL px vx x0 x1).1) (b:=(sbH px vx x0 x1).2) (A:=8388608) (B:=67108864) (by omega) (by omega)
 have hpx8:=aH (a:=(sbH px vx x0 x1).1) (b:=(sbL px vx x0 x1).2) (A:=8388608) (B:=67108864) (by omega) (by omega)
 have hpx10:=aH (a:=(sbH px vx x0 x1).1) (b:=(sbH px vx x0 x1).2) (A:=8388608) (B:=67108864) (by omega) (by omega)
 refine cv (axis_n _ _ _ _ _ (by omega) (by omega) (by omega) (by omega) (by assumption)) ?_
 have G13:=jn h1 @h1d
 refine ae G13 ?_
 refine hn2 _ _ (zQT hQ fun Q11 hn11 hQ11 he11=>?_)
 refine ae G13 ?_
 rcases Bool.eq_false_or_eq_true (decide (vy=0)) with h9|h9
 ·have h9d:=h9
  have hY0:vy=0:=by simpa using h9d
  refine cv (axis_z _ _ _ _ _ (by omega) (by omega) (by omega) (by omega) (by assumption)) ?_
  have G14:=j2 h9 h9d G13
  refine ae G14 ?_
  refine hn11 _ _ (zQT hQ fun Q12 hn12 hQ12 he12=>?_)
  refine rcs G14 (fun h10 h10d G15=>?_) (fun h10 h10d G16=>?_)
  ·have hfinE:tmE px py vx vy x0 y0 x1 y1=true:=by unfold tmE;rw[h10d];simp
   exact eR G15 hQ12 hbel (.agg [iV 0,iV 0,iV 0,iV 0,.bool true,.bool false]) results253 ⟨by (unfold tiV;rw[hfinE];rfl),rfl⟩
  have haY:=h10d
  refine ae G16 ?_
  refine hn12 _ _ (zQT hQ fun Q13 hn13 hQ13 he13=>?_)
  refine ae G16 ?_
  refine hn13 _ _ (zQT hQ fun Q14 hn14 hQ14 he14=>?_)
  refine ae G16 ?_
  refine hn14 _ _ (sqR hQ fun Q15 hn15 hQ15 he15=>?_)
  refine zQT hQ15 fun Q16 hn16 hQ16 he16=>?_
  have q11:=decide_eq_false (Int.lt_irrefl (((sbL px vx x0 x1).1)*((sbL px vx x0 x1).2)))
  have G17:=jn q11 G16
  refine ae G17 ?_
  refine hn16 _ _ ?_
  refine dR false (by rfl) (fun h=>by cases h) (fun h=>?_)
  refine fnT ?_
  refine ae G17 ?_
  refine hn15 _ _ (sqR hQ fun Q17 hn17 hQ17 he17=>?_)
  refine zQT hQ17 fun Q18 hn18 hQ18 he18=>?_
  have q12:=decide_eq_false (Int.lt_irrefl (((sbH px vx x0 x1).1)*((sbH px vx x0 x1).2)))
  have G18:=jn q12 G17
  refine ae G18 ?_
  refine hn18 _ _ ?_
  refine dR false (by rfl) (fun h=>by cases h) (fun h=>?_)
  refine fnT ?_
  refine ae G18 ?_
  refine hn17 _ _ ?_
  refine fnT ?_
  refine rcs G18 (fun h13 h13d G19=>?_) (fun h13 h13d G22=>?_)
  ·refine rcs G19 (fun h14 h14d G20=>?_) (fun h14 h14d G21=>?_)
   ·exact eR G20 hQ hbel (.agg [iV 0,iV 0,iV 0,iV 0,.bool true,.bool false]) results253 ⟨by simp only[tiV,tmE,tmS,tmL,tmH,mxF,mnF,lo0,haX,haY,h1d,h9d,h10d,h13d,h14d,if_neg hnX,if_pos hY0,Int.lt_irrefl,ite_self,if_true,if_false,decide_true,decide_false,Bool.or_true,Bool.or_false,Bool.or_self,Bool.false_eq_true],rfl⟩
   exact eR G21 hQ hbel (.agg [iV 0,iV 1,iV ((sbH px vx x0 x1).1),iV ((sbH px vx x0 x1).2),.bool false,.bool false]) results253 ⟨by simp only[tiV,tmE,tmS,tmL,tmH,mxF,mnF,lo0,haX,haY,h1d,h9d,h10d,h13d,h14d,if_neg hnX,if_pos hY0,Int.lt_irrefl,ite_self,if_true,if_false,decide_true,decide_false,Bool.or_true,Bool.or_false,Bool.or_self,Bool.false_eq_true],rfl⟩
  refine rcs G22 (fun h15 h15d G23=>?_) (fun h15 h15d G24=>?_)
  ·exact eR G23 hQ hbel (.agg [iV 0,iV 0,iV 0,iV 0,.bool true,.bool false]) results253 ⟨by simp only[tiV,tmE,tmS,tmL,tmH,mxF,mnF,lo0,haX,haY,h1d,h9d,h10d,h13d,h15d,if_neg hnX,if_pos hY0,Int.lt_irrefl,ite_self,if_true,if_false,decide_true,decide_false,Bool.or_true,Bool.or_false,Bool.or_self,Bool.false_eq_true],rfl⟩
  exact eR G24 hQ hbel (.agg [iV ((sbL px vx x0 x1).1),iV ((sbL px vx x0 x1).2),iV ((sbH px vx x0 x1).1),iV ((sbH px vx x0 x1).2),.bool false,.bool false]) results253 ⟨by simp only[tiV,tmE,tmS,tmL,tmH,mxF,mnF,lo0,haX,haY,h1d,h9d,h10d,h13d,h15d,if_neg hnX,if_pos hY0,Int.lt_irrefl,ite_self,if_true,if_false,decide_true,decide_false,Bool.or_true,Bool.or_false,Bool.or_self,Bool.false_eq_true],rfl⟩
 have h9d:=h9
 have hnY:¬vy=0:=by simpa using h9d
 have haY:=(mC (p:=py) (a:=y0) (b:=y1) hnY).1
 have hbY:=mw (p:=py) (d:=vy) (a:=y0) (b:=y1) (by omega) (by omega) (by omega) (by omega) hnY
 obtain⟨⟨hbY1,hbY2,hbY3⟩,hbY4,hbY5,hbY6⟩:=hbY
 have hpy5:=aH (a:=(sbL py vy y0 y1).1) (b:=(sbL py vy y0 y1).2) (A:=8388608) (B:=67108864) (by omega) (by omega)
 have hpy7:=aH (a:=(sbL py vy y0 y1).1) (b:=(sbH py vy y0 y1).2) (A:=8388608) (B:=67108864) (by omega) (by omega)
 have hpy13:=aH (a:=(sbH py vy y0 y1).1) (b:=(sbL py vy y0 y1).2) (A:=8388608) (B:=67108864) (by omega) (by omega)
 have hpy15:=aH (a:=(sbH py vy y0 y1).1) (b:=(sbH py vy y0 y1).2) (A:=8388608) (B:=67108864) (by omega) (by omega)
 try have hpq1:=aH (a:=(sbL px vx x0 x1).1) (b:=(sbL py vy y0 y1).2) (A:=8388608) (B:=67108864) (by omega) (by omega)
 try have hpq3:=aH (a:=(sbL px vx x0 x1).1) (b:=(sbH py vy y0 y1).2) (A:=8388608) (B:=67108864) (by omega) (by omega)
 try have hpq4:=aH (a:=(sbL py vy y0 y1).1) (b:=(sbL px vx x0 x1).2) (A:=8388608) (B:=67108864) (by omega) (by omega)
 try have hpq6:=aH (a:=(sbL py vy y0 y1).1) (b:=(sbH px vx x0 x1).2) (A:=8388608) (B:=67108864) (by omega) (by omega)
 try have hpq9:=aH (a:=(sbH px vx x0 x1).1) (b:=(sbL py vy y0 y1).2) (A:=8388608) (B:=67108864) (by omega) (by omega)
 try have hpq11:=aH (a:=(sbH px vx x0 x1).1) (b:=(sbH py vy y0 y1).2) (A:=8388608) (B:=67108864) (by omega) (by omega)
 try have hpq12:=aH (a:=(sbH py vy y0 y1).1) (b:=(sbL px vx x0 x1).2) (A:=8388608) (B:=67108864) (by omega) (by omega)
 try have hpq14:=aH (a:=(sbH py vy y0 y1).1) (b:=(sbH px vx x0 x1).2) (A:=8388608) (B:=67108864) (by omega) (by omega)
 refine cv (axis_n _ _ _ _ _ (by omega) (by omega) (by omega) (by omega) (by assumption)) ?_
 have G25:=j2 h9 h9d G13
 refine ae G25 ?_
 refine hn11 _ _ (zQT hQ fun Q19 hn19 hQ19 he19=>?_)
 refine ae G25 ?_
 refine hn19 _ _ (zQT hQ fun Q20 hn20 hQ20 he20=>?_)
 refine ae G25 ?_
 refine hn20 _ _ (zQT hQ fun Q21 hn21 hQ21 he21=>?_)
 refine ae G25 ?_
 refine hn21 _ _ (sqR hQ fun Q22 hn22 hQ22 he22=>?_)
 refine zQT hQ22 fun Q23 hn23 hQ23 he23=>?_
 refine ae G25 ?_
 refine hn23 _ _ ?_
 refine dR (decide ((((sbL px vx x0 x1).1)*((sbL py vy y0 y1).2))<(((sbL py vy y0 y1).1)*((sbL px vx x0 x1).2)))) (by rfl) (fun h16=>?_) (fun h16=>?_)
 ·have h16d:=bsT h16
  refine gu true try_mixed [[0,1,2,3,4,5,6,7],[0,1,2,4,5,3,6,7]] (by kernel_rfl) (fun F2 H2=>F2=[(6,.ptr (some (H.length,0))),(7,.ptr (some (H.length+1,0))),(8,.ptr (some (H.length+2,0)))]/\H2=H++[.cells true 0 [iV 0,iV 0,iV 0,iV 0,.bool false,.bool false],.cells true 0 [iV ((sbL py vy y0 y1).1),iV ((sbL py vy y0 y1).2),iV ((sbH px vx x0 x1).1),iV ((sbH px vx x0 x1).2),.bool false,.bool false],.cells true 0 [iV ((sbL py vy y0 y1).1),iV ((sbL py vy y0 y1).2),iV ((sbH py vy y0 y1).1),iV ((sbH py vy y0 y1).2),.bool false,.bool false]]) ?_ ?_
  ·refine aj ?_ (aj ?_ (bu))<;>intro J hJ
   ·have G26:=j2 h16 h16d G25
    refine ag G26 ?_
    refine aq (hJ _ _ ⟨_,_,_,⟨rfl,rfl⟩,bS hbel [3,4,5] aJ⟩)
   have G27:=j2 h16 h16d G25
   refine ag G27 ?_
   refine aq (hJ _ _ ⟨_,_,_,⟨rfl,rfl⟩,bS hbel [3,4,5] aJ⟩)
  rintro F2 H2 ⟨rfl,rfl⟩
  refine hn22 _ _ (sqR hQ fun Q24 hn24 hQ24 he24=>?_)
  refine zQT hQ24 fun Q25 hn25 hQ25 he25=>?_
  have G28:=j2 h16 h16d G25
  refine ae G28 ?_
  refine hn25 _ _ ?_
  refine dR (decide ((((sbH py vy y0 y1).1)*((sbH px vx x0 x1).2))<(((sbH px vx x0 x1).1)*((sbH py vy y0 y1).2)))) (by rfl) (fun h17=>?_) (fun h17=>?_)
  ·have h17d:=bsT h17
   refine gu true try_mixed [[0,1,2,3,4,5,6,7],[0,1,2,4,5,3,6,7]] (by kernel_rfl) (fun F2 H2=>F2=[(6,.ptr (some (H.length,0))),(7,.ptr (some (H.length+1,0)))]/\H2=H++[.cells true 0 [iV 0,iV 0,iV 0,iV 0,.bool false,.bool false],.cells true 0 [iV ((sbL py vy y0 y1).1),iV ((sbL py vy y0 y1).2),iV ((sbH py vy y0 y1).1),iV ((sbH py vy y0 y1).2),.bool false,.bool false]]) ?_ ?_
   ·refine aj ?_ (aj ?_ (bu))<;>intro J hJ
    ·have G29:=j2 h17 h17d G28
     refine ag G29 ?_
     refine aq (hJ _ _ ⟨_,_,_,⟨rfl,rfl⟩,bS hbel [0,1] aJ⟩)
    have G30:=j2 h17 h17d G28
    refine ag G30 ?_
    refine aq (hJ _ _ ⟨_,_,_,⟨rfl,rfl⟩,bS hbel [0,1] aJ⟩)
   rintro F2 H2 ⟨rfl,rfl⟩
   refine hn24 _ _ ?_
   refine fnT ?_
   have G31:=j2 h17 h17d G28
   refine rcs G31 (fun h18 h18d G32=>?_) (fun h18 h18d G35=>?_)
   ·refine rcs G32 (fun h19 h19d G33=>?_) (fun h19 h19d G34=>?_)
    ·exact eR G33 hQ hbel (.agg [iV 0,iV 0,iV 0,iV 0,.bool true,.bool false]) results253 ⟨by simp only[tiV,tmE,tmS,tmL,tmH,mxF,mnF,lo0,haX,haY,h1d,h9d,h16d,h17d,h18d,h19d,if_neg hnX,if_neg hnY,Int.lt_irrefl,ite_self,if_true,if_false,decide_true,decide_false,Bool.or_true,Bool.or_false,Bool.or_self,Bool.false_eq_true],rfl⟩
    exact eR G34 hQ hbel (.agg [iV 0,iV 1,iV ((sbH py vy y0 y1).1),iV ((sbH py vy y0 y1).2),.bool false,.bool false]) results253 ⟨by simp only[tiV,tmE,tmS,tmL,tmH,mxF,mnF,lo0,haX,haY,h1d,h9d,h16d,h17d,h18d,h19d,if_neg hnX,if_neg hnY,Int.lt_irrefl,ite_self,if_true,if_false,decide_true,decide_false,Bool.or_true,Bool.or_false,Bool.or_self,Bool.false_eq_true],rfl⟩
   refine rcs G35 (fun h20 h20d G36=>?_) (fun h20 h20d G37=>?_)
   ·exact eR G36 hQ hbel (.agg [iV 0,iV 0,iV 0,iV 0,.bool true,.bool false]) results253 ⟨by simp only[tiV,tmE,tmS,tmL,tmH,mxF,mnF,lo0,haX,haY,h1d,h9d,h16d,h17d,h18d,h20d,if_neg hnX,if_neg hnY,Int.lt_irrefl,ite_self,if_true,if_false,decide_true,decide_false,Bool.or_true,Bool.or_false,Bool.or_self,Bool.false_eq_true],rfl⟩
   exact eR G37 hQ hbel (.agg [iV ((sbL py vy y0 y1).1),iV ((sbL py vy y0 y1).2),iV ((sbH py vy y0 y1).1),iV ((sbH py vy y0 y1).2),.bool false,.bool false]) results253 ⟨by simp only[tiV,tmE,tmS,tmL,tmH,mxF,mnF,lo0,haX,haY,h1d,h9d,h16d,h17d,h18d,h20d,if_neg hnX,if_neg hnY,Int.lt_irrefl,ite_self,if_true,if_false,decide_true,decide_false,Bool.or_true,Bool.or_false,Bool.or_self,Bool.false_eq_true],rfl⟩
  have h17d:=bsT h17
  refine fnT ?_
  have G38:=j2 h17 h17d G28
  refine ae G38 ?_
  refine hn24 _ _ ?_
  refine fnT ?_
  refine rcs G38 (fun h21 h21d G39=>?_) (fun h21 h21d G42=>?_)
  ·refine rcs G39 (fun h22 h22d G40=>?_) (fun h22 h22d G41=>?_)
   ·exact eR G40 hQ hbel (.agg [iV 0,iV 0,iV 0,iV 0,.bool true,.bool false]) results253 ⟨by simp only[tiV,tmE,tmS,tmL,tmH,mxF,mnF,lo0,haX,haY,h1d,h9d,h16d,h17d,h21d,h22d,if_neg hnX,if_neg hnY,Int.lt_irrefl,ite_self,if_true,if_false,decide_true,decide_false,Bool.or_true,Bool.or_false,Bool.or_self,Bool.false_eq_true],rfl⟩
   exact eR G41 hQ hbel (.agg [iV 0,iV 1,iV ((sbH px vx x0 x1).1),iV ((sbH px vx x0 x1).2),.bool false,.bool false]) results253 ⟨by simp only[tiV,tmE,tmS,tmL,tmH,mxF,mnF,lo0,haX,haY,h1d,h9d,h16d,h17d,h21d,h22d,if_neg hnX,if_neg hnY,Int.lt_irrefl,ite_self,if_true,if_false,decide_true,decide_false,Bool.or_true,Bool.or_false,Bool.or_self,Bool.false_eq_true],rfl⟩
  refine rcs G42 (fun h23 h23d G43=>?_) (fun h23 h23d G44=>?_)
  ·exact eR G43 hQ hbel (.agg [iV 0,iV 0,iV 0,iV 0,.bool true,.bool false]) results253 ⟨by simp only[tiV,tmE,tmS,tmL,tmH,mxF,mnF,lo0,haX,haY,h1d,h9d,h16d,h17d,h21d,h23d,if_neg hnX,if_neg hnY,Int.lt_irrefl,ite_self,if_true,if_false,decide_true,decide_false,Bool.or_true,Bool.or_false,Bool.or_self,Bool.false_eq_true],rfl⟩
  exact eR G44 hQ hbel (.agg [iV ((sbL py vy y0 y1).1),iV ((sbL py vy y0 y1).2),iV ((sbH px vx x0 x1).1),iV ((sbH px vx x0 x1).2),.bool false,.bool false]) results253 ⟨by simp only[tiV,tmE,tmS,tmL,tmH,mxF,mnF,lo0,haX,haY,h1d,h9d,h16d,h17d,h21d,h23d,if_neg hnX,if_neg hnY,Int.lt_irrefl,ite_self,if_true,if_false,decide_true,decide_false,Bool.or_true,Bool.or_false,Bool.or_self,Bool.false_eq_true],rfl⟩
 have h16d:=bsT h16
 refine fnT ?_
 have G45:=j2 h16 h16d G25
 refine ae G45 ?_
 refine hn22 _ _ (sqR hQ fun Q26 hn26 hQ26 he26=>?_)
 refine zQT hQ26 fun Q27 hn27 hQ27 he27=>?_
 refine ae G45 ?_
 refine hn27 _ _ ?_
 refine dR (decide ((((sbH py vy y0 y1).1)*((sbH px vx x0 x1).2))<(((sbH px vx x0 x1).1)*((sbH py vy y0 y1).2)))) (by rfl) (fun h24=>?_) (fun h24=>?_)
 ·have h24d:=bsT h24
  refine gu true try_mixed [[0,1,2,3,4,5,6,7],[0,1,2,4,5,3,6,7]] (by kernel_rfl) (fun F2 H2=>F2=[(6,.ptr (some (H.length,0))),(7,.ptr (some (H.length+1,0)))]/\H2=H++[.cells true 0 [iV 0,iV 0,iV 0,iV 0,.bool false,.bool false],.cells true 0 [iV ((sbL px vx x0 x1).1),iV ((sbL px vx x0 x1).2),iV ((sbH py vy y0 y1).1),iV ((sbH py vy y0 y1).2),.bool false,.bool false]]) ?_ ?_
  ·refine aj ?_ (aj ?_ (bu))<;>intro J hJ
   ·have G46:=j2 h24 h24d G45
    refine ag G46 ?_
    refine aq (hJ _ _ ⟨_,_,_,⟨rfl,rfl⟩,bS hbel [3,4] aJ⟩)
   have G47:=j2 h24 h24d G45
   refine ag G47 ?_
   refine aq (hJ _ _ ⟨_,_,_,⟨rfl,rfl⟩,bS hbel [3,4] aJ⟩)
  rintro F2 H2 ⟨rfl,rfl⟩
  refine hn26 _ _ ?_
  refine fnT ?_
  have G48:=j2 h24 h24d G45
  refine rcs G48 (fun h25 h25d G49=>?_) (fun h25 h25d G52=>?_)
  ·refine rcs G49 (fun h26 h26d G50=>?_) (fun h26 h26d G51=>?_)
   ·exact eR G50 hQ hbel (.agg [iV 0,iV 0,iV 0,iV 0,.bool true,.bool false]) results253 ⟨by simp only[tiV,tmE,tmS,tmL,tmH,mxF,mnF,lo0,haX,haY,h1d,h9d,h16d,h24d,h25d,h26d,if_neg hnX,if_neg hnY,Int.lt_irrefl,ite_self,if_true,if_false,decide_true,decide_false,Bool.or_true,Bool.or_false,Bool.or_self,Bool.false_eq_true],rfl⟩
   exact eR G51 hQ hbel (.agg [iV 0,iV 1,iV ((sbH py vy y0 y1).1),iV ((sbH py vy y0 y1).2),.bool false,.bool false]) results253 ⟨by simp only[tiV,tmE,tmS,tmL,tmH,mxF,mnF,lo0,haX,haY,h1d,h9d,h16d,h24d,h25d,h26d,if_neg hnX,if_neg hnY,Int.lt_irrefl,ite_self,if_true,if_false,decide_true,decide_false,Bool.or_true,Bool.or_false,Bool.or_self,Bool.false_eq_true],rfl⟩
  refine rcs G52 (fun h27 h27d G53=>?_) (fun h27 h27d G54=>?_)
  ·exact eR G53 hQ hbel (.agg [iV 0,iV 0,iV 0,iV 0,.bool true,.bool false]) results253 ⟨by simp only[tiV,tmE,tmS,tmL,tmH,mxF,mnF,lo0,haX,haY,h1d,h9d,h16d,h24d,h25d,h27d,if_neg hnX,if_neg hnY,Int.lt_irrefl,ite_self,if_true,if_false,decide_true,decide_false,Bool.or_true,Bool.or_false,Bool.or_self,Bool.false_eq_true],rfl⟩
  exact eR G54 hQ hbel (.agg [iV ((sbL px vx x0 x1).1),iV ((sbL px vx x0 x1).2),iV ((sbH py vy y0 y1).1),iV ((sbH py vy y0 y1).2),.bool false,.bool false]) results253 ⟨by simp only[tiV,tmE,tmS,tmL,tmH,mxF,mnF,lo0,haX,haY,h1d,h9d,h16d,h24d,h25d,h27d,if_neg hnX,if_neg hnY,Int.lt_irrefl,ite_self,if_true,if_false,decide_true,decide_false,Bool.or_true,Bool.or_false,Bool.or_self,Bool.false_eq_true],rfl⟩
 have h24d:=bsT h24
 refine fnT ?_
 have G55:=j2 h24 h24d G45
 refine ae G55 ?_
 refine hn26 _ _ ?_
 refine fnT ?_
 refine rcs G55 (fun h28 h28d G56=>?_) (fun h28 h28d G59=>?_)
 ·refine rcs G56 (fun h29 h29d G57=>?_) (fun h29 h29d G58=>?_)
  ·exact eR G57 hQ hbel (.agg [iV 0,iV 0,iV 0,iV 0,.bool true,.bool false]) results253 ⟨by simp only[tiV,tmE,tmS,tmL,tmH,mxF,mnF,lo0,haX,haY,h1d,h9d,h16d,h24d,h28d,h29d,if_neg hnX,if_neg hnY,Int.lt_irrefl,ite_self,if_true,if_false,decide_true,decide_false,Bool.or_true,Bool.or_false,Bool.or_self,Bool.false_eq_true],rfl⟩
  exact eR G58 hQ hbel (.agg [iV 0,iV 1,iV ((sbH px vx x0 x1).1),iV ((sbH px vx x0 x1).2),.bool false,.bool false]) results253 ⟨by simp only[tiV,tmE,tmS,tmL,tmH,mxF,mnF,lo0,haX,haY,h1d,h9d,h16d,h24d,h28d,h29d,if_neg hnX,if_neg hnY,Int.lt_irrefl,ite_self,if_true,if_false,decide_true,decide_false,Bool.or_true,Bool.or_false,Bool.or_self,Bool.false_eq_true],rfl⟩
 refine rcs G59 (fun h30 h30d G60=>?_) (fun h30 h30d G61=>?_)
 ·exact eR G60 hQ hbel (.agg [iV 0,iV 0,iV 0,iV 0,.bool true,.bool false]) results253 ⟨by simp only[tiV,tmE,tmS,tmL,tmH,mxF,mnF,lo0,haX,haY,h1d,h9d,h16d,h24d,h28d,h30d,if_neg hnX,if_neg hnY,Int.lt_irrefl,ite_self,if_true,if_false,decide_true,decide_false,Bool.or_true,Bool.or_false,Bool.or_self,Bool.false_eq_true],rfl⟩
 exact eR G61 hQ hbel (.agg [iV ((sbL px vx x0 x1).1),iV ((sbL px vx x0 x1).2),iV ((sbH px vx x0 x1).1),iV ((sbH px vx x0 x1).2),.bool false,.bool false]) results253 ⟨by simp only[tiV,tmE,tmS,tmL,tmH,mxF,mnF,lo0,haX,haY,h1d,h9d,h16d,h24d,h28d,h30d,if_neg hnX,if_neg hnY,Int.lt_irrefl,ite_self,if_true,if_false,decide_true,decide_false,Bool.or_true,Bool.or_false,Bool.or_self,Bool.false_eq_true],rfl⟩
theorem times_t (H:aa)(px py vx vy vd x0 y0 x1 y1:Int)(hg:thG px py vx vy vd x0 y0 x1 y1=true)(h:tmE px py vx vy x0 y0 x1 y1=true):zC 253 [.agg [iV px,iV py],.agg [iV vx,iV vy,iV vd],.agg [iV x0,iV y0,iV x1,iV y1]] H (.agg [iV 0,iV 0,iV 0,iV 0,.bool true,.bool false]) H:=by
 have q:=times_c H px py vx vy vd x0 y0 x1 y1 hg
 simp only[tiV,h,if_true] at q;exact q
theorem times_f (H:aa)(px py vx vy vd x0 y0 x1 y1:Int)(hg:thG px py vx vy vd x0 y0 x1 y1=true)(h:tmE px py vx vy x0 y0 x1 y1=false):zC 253 [.agg [iV px,iV py],.agg [iV vx,iV vy,iV vd],.agg [iV x0,iV y0,iV x1,iV y1]] H (.agg [iV (tmS px py vx vy x0 y0 x1 y1).1.1,iV (tmS px py vx vy x0 y0 x1 y1).1.2,iV (tmS px py vx vy x0 y0 x1 y1).2.1,iV (tmS px py vx vy x0 y0 x1 y1).2.2,.bool false,.bool false]) H:=by
 have q:=times_c H px py vx vy vd x0 y0 x1 y1 hg
 simp only[tiV,h,if_false,Bool.false_eq_true] at q;exact q
theorem gcd5_n (H:aa)(a0 b0:Nat):zC 276 [iV (a0:Int),iV (b0:Int)] H (iV ((Nat.gcd a0 b0:Nat):Int)) H:=by
 refine AcT true func276 ?_;intro hbel Q hQ
 have G1:=@oQ
 refine ae G1 ?_
 refine glp (fun k F Hx=>∃a:Nat,∃b:Nat,b=k/\Nat.gcd a b=Nat.gcd a0 b0/\F=[(0,iV (a:Int)),(1,iV (b:Int))]/\H=Hx) (b0) ?_ ?_
 ·refine⟨_,_,_,⟨a0,b0,by omega,rfl,rfl,rfl⟩,Abs.by0 hbel ?_⟩
  exact aJ
 rintro k0 F Hx ⟨a,b,hm0,hG,rfl,rfl⟩ J0 hJ0
 refine rcs G1 (fun h1 h1d G2=>?_) (fun h1 h1d G3=>?_)
 ·have hlt:a%b<b:=Nat.mod_lt _ (by omega)
  refine ae G2 ?_
  refine hJ0 _ _ ⟨a%b,by omega,_,_,_,⟨b,a%b,by omega,by rw[<-hG,jy],rfl,rfl⟩,Abs.by0 hbel ?_⟩
  exact aJ
 obtain rfl:b=0:=by omega
 rw[Nat.gcd_zero_right] at hG
 have hfing:=hG
 exact eS G3 hQ hbel (iV (a:Int)) results276 ⟨congrArg (AV.int .i64) (by rw[hfing]),rfl⟩
theorem gcd5_x (H:aa)(n d:Int)(hn:0<=n)(hd:0<=d):zC 276 [iV n,iV d] H (iV ((Int.gcd n d:Nat):Int)) H:=by
 obtain⟨a,rfl⟩:=Int.eq_ofNat_of_zero_le hn
 obtain⟨b,rfl⟩:=Int.eq_ofNat_of_zero_le hd
 exact gcd5_n H a b
theorem low5_c (H:aa)(n d:Int)(hn:0<=n/\n<=4611686018427387904)(hd:0<d/\d<=4611686018427387904):zC 254 [iV n,iV d] H (.agg [iV (lwN n d),iV (lwD n d)]) H:=by
 have hg0:=mz (n:=n) hd.1
 have t1:=ff (a:=n) (b:=((Int.gcd n d:Nat):Int)) hg0 (by omega)
 have t2:=ff (a:=d) (b:=((Int.gcd n d:Nat):Int)) hg0 (by omega)
 have hlw:=lw_tdiv hn.1 hd.1
 refine AcT true func254 ?_;intro hbel Q hQ
 refine aB ?_
 refine cv (gcd5_x _ n d (by omega) (by omega)) ?_
 refine aB ?_
 exact eP hQ hbel (.agg [iV (Int.tdiv n ((Int.gcd n d:Nat):Int)),iV (Int.tdiv d ((Int.gcd n d:Nat):Int))]) results254 ⟨by rw[hlw.1,hlw.2],rfl⟩
theorem r5ok_c (H:aa)(px py vx vy vd x0 y0 x1 y1:Int):zC 252 [.agg [iV px,iV py],.agg [iV vx,iV vy,iV vd],.agg [iV x0,iV y0,iV x1,iV y1]] H (.bool (thG px py vx vy vd x0 y0 x1 y1)) H:=by
 refine AcT true func252 ?_;intro hbel Q hQ
 refine aB ?_
 refine cv (fW _ _ _) ?_
 refine aB ?_
 refine aV (fun h1=>?_) (fun h1=>?_)
 ·have h1d:=bsT h1
  have G4:=jn h1 @h1d
  refine ae G4 ?_
  refine cv (bvec_c _ _ _ _) ?_
  refine rgs G4 (fun h2 h2d G5=>?_) (fun h2 h2d G6=>?_)
  ·refine ae G5 ?_
   refine cvr G5 (r5rc_c _ _ _ _ _) ?_
   exact eP hQ hbel (.bool (lnR x0 y0 x1 y1)) results252 ⟨by simp[thG,h1d,h2d],rfl⟩
  exact eR G6 hQ hbel (.bool false) results252 ⟨by simp[thG,h1d,h2d],rfl⟩
 have h1d:=bsT h1
 have G7:=jn h1 @h1d
 exact eR G7 hQ hbel (.bool false) results252 ⟨by simp[thG,h1d],rfl⟩
theorem renter_c (H:aa)(px py vx vy vd x0 y0 x1 y1:Int):zC 214 [.agg [iV px,iV py],.agg [iV vx,iV vy,iV vd],.agg [iV x0,iV y0,iV x1,iV y1]] H (.tup [.agg [iV (mkV (rO px py vx vy vd x0 y0 x1 y1) (enN px py vx vy vd x0 y0 x1 y1)),iV (mkV (rO px py vx vy vd x0 y0 x1 y1) (enD px py vx vy vd x0 y0 x1 y1))],.bool (rO px py vx vy vd x0 y0 x1 y1)]) H:=by
 refine AcT true func214 ?_;intro hbel Q hQ
 refine aB ?_
 refine cv (r5ok_c _ _ _ _ _ _ _ _ _ _) ?_
 refine aB ?_
 refine cK (fun h1=>?_) (fun h1=>?_)
 ·have h1d:=bsT h1
  have hfinO:rO px py vx vy vd x0 y0 x1 y1=false:=by unfold rO;rw[h1d];rfl
  have G8:=jn h1 @h1d
  exact eR G8 hQ hbel (.tup [.agg [iV 0,iV 0],.bool false]) results214 ⟨by unfold mkV;rw[hfinO];rfl,rfl⟩
 have h1d:=bsT h1
 have hg:=h1d
 have hbd:=tmS_bd hg
 obtain⟨⟨hb1,hb2⟩,hb3,hb4⟩:=hbd
 have hvv:=bi.1 (cl.1 hg).2.1
 have hm1:=aH (a:=(tmS px py vx vy x0 y0 x1 y1).1.1) (b:=vd) (A:=8388608) (B:=67108864) (by omega) (by omega)
 have hm2:=aH (a:=(tmS px py vx vy x0 y0 x1 y1).2.1) (b:=vd) (A:=8388608) (B:=67108864) (by omega) (by omega)
 have hn1:=Int.mul_nonneg (tmS_nn (px:=px) (py:=py) (vx:=vx) (vy:=vy) (x0:=x0) (y0:=y0) (x1:=x1) (y1:=y1)) (show 0<=vd by omega)
 have G9:=jn h1 @h1d
 refine ae G9 ?_
 rcases Bool.eq_false_or_eq_true (tmE px py vx vy x0 y0 x1 y1) with h2|h2
 ·have h2d:=h2
  have hfinO:rO px py vx vy vd x0 y0 x1 y1=false:=by unfold rO;rw[h2d];simp
  refine cv (times_t _ _ _ _ _ _ _ _ _ _ (by assumption) (by assumption)) ?_
  have G10:=j2 h2 h2d G9
  exact eR G10 hQ hbel (.tup [.agg [iV 0,iV 0],.bool false]) results214 ⟨by unfold mkV;rw[hfinO];rfl,rfl⟩
 have h2d:=h2
 have hfinO:rO px py vx vy vd x0 y0 x1 y1=true:=by unfold rO;rw[h2d,hg];rfl
 have hn2:=Int.mul_nonneg (tmS_hn hg h2d) (show 0<=vd by omega)
 refine cv (times_f _ _ _ _ _ _ _ _ _ _ (by assumption) (by assumption)) ?_
 have G11:=j2 h2 h2d G9
 refine ae G11 ?_
 refine cvr G11 (low5_c _ _ _ (by omega) (by omega)) ?_
 exact eP hQ hbel (.tup [.agg [iV (lwN (((tmS px py vx vy x0 y0 x1 y1).1.1)*vd) ((tmS px py vx vy x0 y0 x1 y1).1.2)),iV (lwD (((tmS px py vx vy x0 y0 x1 y1).1.1)*vd) ((tmS px py vx vy x0 y0 x1 y1).1.2))],.bool true]) results214 ⟨by unfold mkV;rw[hfinO];rfl,rfl⟩
def fi (Q:Int×Int->Bool) (D:Int×Int->Int×Int) (s:Option (Int×Int)) (c:Int×Int):Option (Int×Int) :=
 if Q c=true/\(∀b,s=some b->(D c).1*(D b).2<(D b).1*(D c).2) then some c else s
def fsF (Q:Int×Int->Bool) (D:Int×Int->Int×Int) (l:List (Int×Int)):Option (Int×Int):=l.foldl (fi Q D) none
theorem fs_law {Q:Int×Int->Bool}{D:Int×Int->Int×Int}(hD:∀c,0<(D c).2):∀(l:List (Int×Int)) (s:Option (Int×Int)),(∀b,s=some b->Q b=true) ->
  (l.foldl (fi Q D) s=none↔s=none/\∀c∈l,Q c=false) /\
  (∀b,l.foldl (fi Q D) s=some b->(s=some b\/b∈l)/\Q b=true/\(∀c,s=some c->(D b).1*(D c).2<=(D c).1*(D b).2)/\∀c∈l,Q c=true->(D b).1*(D c).2<=(D c).1*(D b).2)
 | [],s,hs=>⟨by simp,fun b h=>⟨.inl h,hs b h,fun c hc=>by
   have h:s=some b:=h
   rw[hc] at h;cases h;exact Int.le_refl _,fun c hc=>absurd hc (by simp)⟩⟩
 | c :: l,s,hs=>by
  rw[List.foldl_cons]
  have hs':∀b,fi Q D s c=some b->Q b=true:=fun b hb=>by
   unfold fi at hb
   split at hb
   ·rename_i h;cases hb;exact h.1
   exact hs b hb
  have ih:=fs_law hD l (fi Q D s c) hs'
  have tr:∀{x y z:Int×Int},(D x).1*(D y).2<=(D y).1*(D x).2->(D y).1*(D z).2<=(D z).1*(D y).2->(D x).1*(D z).2<=(D z).1*(D x).2:=fun {x y z} h1 h2=>fY (hD x) (hD y) (hD z) h1 h2
  by_cases hq:Q c=true/\(∀b,s=some b->(D c).1*(D b).2<(D b).1*(D c).2)
  ·have e:fi Q D s c=some c:=if_pos hq
   rw[e] at ih ⊢
   refine⟨⟨fun h=>absurd (ih.1.1 h).1 (by simp),fun h=>absurd (h.2 c (List.mem_cons_self ..)) (by rw[hq.1];decide)⟩,fun b hb=>?_⟩
   obtain⟨i1,i2,i3,i4⟩:=ih.2 b hb
   have hbc:=i3 c rfl
   refine⟨?_,i2,fun x hx=>tr hbc (Int.le_of_lt (hq.2 x hx)),fun x hx hQ=>?_⟩
   ·rcases i1 with i1|i1
    ·cases i1;exact .inr (List.mem_cons_self ..)
    exact .inr (List.mem_cons_of_mem _ i1)
   rcases List.mem_cons.1 hx with q|q
   ·rw[q];exact hbc
   exact i4 x q hQ
  have e:fi Q D s c=s:=if_neg hq
  rw[e] at ih ⊢
  have hc:Q c=true->∃b,s=some b/\(D b).1*(D c).2<=(D c).1*(D b).2:=fun hQ=>by
   cases hs0:s with
   |none=>exact absurd ⟨hQ,fun b hb=>by rw[hs0] at hb;cases hb⟩ hq
   | some b=>exact⟨b,rfl,by
     rcases Int.lt_or_le ((D c).1*(D b).2) ((D b).1*(D c).2) with h|h
     ·exact absurd ⟨hQ,fun b' hb'=>by rw[hs0] at hb';cases hb';exact h⟩ hq
     exact h⟩
  refine⟨⟨fun h=>?_,fun h=>ih.1.2 ⟨h.1,fun x hx=>h.2 x (List.mem_cons_of_mem _ hx)⟩⟩,fun b hb=>?_⟩
  ·obtain⟨h1,h2⟩:=ih.1.1 h
   refine⟨h1,fun x hx=>?_⟩
   rcases List.mem_cons.1 hx with q|q
   ·rw[q]
    cases hQ:Q c
    ·rfl
    obtain⟨b,hb,-⟩:=hc hQ
    rw[h1] at hb;cases hb
   exact h2 x q
  obtain⟨i1,i2,i3,i4⟩:=ih.2 b hb
  refine⟨i1.elim .inl fun k=>.inr (List.mem_cons_of_mem _ k),i2,i3,fun x hx hQ=>?_⟩
  rcases List.mem_cons.1 hx with q|q
  ·rw[q] at hQ ⊢
   obtain⟨b',hb',h⟩:=hc hQ
   exact tr (i3 b' hb') h
  exact i4 x q hQ
theorem fs_some {Q:Int×Int->Bool}{D:Int×Int->Int×Int}(hD:∀c,0<(D c).2){l:List (Int×Int)}{b:Int×Int}(h:fsF Q D l=some b):b∈l/\Q b=true/\∀c∈l,Q c=true->(D b).1*(D c).2<=(D c).1*(D b).2:=by
 obtain⟨i1,i2,-,i4⟩:=(fs_law hD l none (fun b hb=>by cases hb)).2 b h
 exact⟨i1.resolve_left (by simp),i2,i4⟩
theorem fs_none {Q:Int×Int->Bool}{D:Int×Int->Int×Int}(hD:∀c,0<(D c).2){l:List (Int×Int)}:fsF Q D l=none↔∀c∈l,Q c=false:=by
 have:=(fs_law (Q:=Q) hD l none (fun b hb=>by cases hb)).1
 exact this.trans ⟨fun h=>h.2,fun h=>⟨rfl,h⟩⟩
theorem read_bd {N D e rng z:Int}(hD:0<D)(hN:0<=N)(he:1-rng<=e/\e<=rng)(hz:(0<=N/D+e/\z=N/D+e)\/(N/D+e<0/\z=0)):(z-rng)*D<=N/\N<(z+rng)*D:=by
 have q1:N/D*D<=N:=Int.ediv_mul_le N (by omega)
 have q2:N<(N/D+1)*D:=Int.lt_ediv_add_one_mul_self N hD
 have q0:0<=N/D:=Int.ediv_nonneg hN (by omega)
 rcases hz with ⟨h,rfl⟩|⟨h,rfl⟩
 ·have a1:=Int.mul_le_mul_of_nonneg_right (show N/D+e-rng<=N/D by omega) (show 0<=D by omega)
  have a2:=Int.mul_le_mul_of_nonneg_right (show N/D+1<=N/D+e+rng by omega) (show 0<=D by omega)
  omega
 have a1:=Int.mul_le_mul_of_nonneg_right (show 0-rng<=0 by omega) (show 0<=D by omega)
 have a2:=Int.mul_le_mul_of_nonneg_right (show N/D+1<=0+rng by omega) (show 0<=D by omega)
 rw[Int.zero_mul] at a1
 omega
theorem less_iff {a b c d:Int}(ha:0<=a)(hb:0<b)(hc:0<=c)(hd:0<d):(if a/b≠c/d then a/b<c/d else a%b*d<c%d*b)↔a*d<c*b:=by
 have e1:=Int.mul_ediv_add_emod a b
 have e2:=Int.mul_ediv_add_emod c d
 have r1:=Int.emod_nonneg a (show b≠0 by omega)
 have r2:=Int.emod_lt_of_pos a hb
 have r3:=Int.emod_nonneg c (show d≠0 by omega)
 have r4:=Int.emod_lt_of_pos c hd
 generalize a/b=p at *
 generalize a%b=r at *
 generalize c/d=q at *
 generalize c%d=s at *
 subst e1 e2
 have f1:(b*p+r)*d=b*d*p+r*d:=by grind
 have f2:(d*q+s)*b=b*d*q+s*b:=by grind
 rw[f1,f2]
 have hbd:=Int.mul_pos hb hd
 have g1:=Int.mul_nonneg r1 (show 0<=d by omega)
 have g2:=Int.mul_nonneg r3 (show 0<=b by omega)
 have g3:=Int.mul_lt_mul_of_pos_right r2 hd
 have g4:=Int.mul_lt_mul_of_pos_right r4 hb
 have g5:d*b=b*d:=Int.mul_comm _ _
 split
 ·rename_i h
  rcases Int.lt_trichotomy p q with k|k|k
  ·have:=Int.mul_le_mul_of_nonneg_left (show p+1<=q by omega) (show 0<=b*d by omega)
   have e:b*d*(p+1)=b*d*p+b*d:=by grind
   exact⟨fun _=>by omega,fun _=>k⟩
  ·exact absurd k h
  have:=Int.mul_le_mul_of_nonneg_left (show q+1<=p by omega) (show 0<=b*d by omega)
  have e:b*d*(q+1)=b*d*q+b*d:=by grind
  exact⟨fun h=>by omega,fun h=>by omega⟩
 rename_i h
 have h:p=q:=by omega
 subst h
 omega
def enC (px py vx vy vd:Int) (c:Int×Int):Int:=enN px py vx vy vd (c.1*64) (c.2*64) (c.1*64+64) (c.2*64+64)
def edC (px py vx vy vd:Int) (c:Int×Int):Int:=enD px py vx vy vd (c.1*64) (c.2*64) (c.1*64+64) (c.2*64+64)
def rOC (px py vx vy vd:Int) (c:Int×Int):Bool:=rO px py vx vy vd (c.1*64) (c.2*64) (c.1*64+64) (c.2*64+64)
def fsQ (W Hh:Int) (xs:List Int) (px py vx vy vd most:Int) (c:Int×Int):Bool:=(atI W Hh xs c.1 c.2==2)&&(rOC px py vx vy vd c&&!decide (most*edC px py vx vy vd c<enC px py vx vy vd c*1))
def fsD (px py vx vy vd:Int) (c:Int×Int):Int×Int:=if rOC px py vx vy vd c=true then (enC px py vx vy vd c,edC px py vx vy vd c) else (0,1)
theorem oW {px py vx vy vd:Int}(c:Int×Int):0<(fsD px py vx vy vd c).2:=by
 unfold fsD;split
 ·rename_i h;exact(en_bd h).1.2.1
 decide
theorem fj {px py vx vy vd:Int}{c:Int×Int}(h:rOC px py vx vy vd c=true):fsD px py vx vy vd c=(enC px py vx vy vd c,edC px py vx vy vd c):=if_pos h
def borA (W:Int) (n m:Nat):List (Int×Int):=cL (fun _ _=>true) (-1) (W+2).toNat (-1) n++rowR (fun _ _=>true) (-1) (-1+(n:Int)) m
def fsA (W Hh:Int) (xs:List Int) (px py vx vy vd most:Int) (n m:Nat):Option (Int×Int):=fsF (fsQ W Hh xs px py vx vy vd most) (fsD px py vx vy vd) (borA W n m)
def fsZ (W Hh:Int) (xs:List Int) (px py vx vy vd most:Int):Option (Int×Int):=fsA W Hh xs px py vx vy vd most (Hh+2).toNat 0
def fsN (px py vx vy vd:Int) (s:Option (Int×Int)):Int:=match s with|none=>0|some c=>(fsD px py vx vy vd c).1
def fsDn (px py vx vy vd:Int) (s:Option (Int×Int)):Int:=match s with|none=>0|some c=>(fsD px py vx vy vd c).2
def oX (s:Option (Int×Int)):Int:=match s with|none=>0|some c=>c.1
def oY (s:Option (Int×Int)):Int:=match s with|none=>0|some c=>c.2
theorem borA_s {W:Int}{n m:Nat}:borA W n (m+1)=borA W n m++[(-1+(m:Int),-1+(n:Int))]:=by
 unfold borA;rw[rowR,List.append_assoc];simp
theorem borA_w {W:Int}{n:Nat}:borA W n (W+2).toNat=borA W (n+1) 0:=by
 unfold borA;rw[cL];simp[rowR]
theorem fsA_w {W Hh:Int}{xs:List Int}{px py vx vy vd most:Int}{n:Nat}:fsA W Hh xs px py vx vy vd most n (W+2).toNat=fsA W Hh xs px py vx vy vd most (n+1) 0:=by unfold fsA;rw[borA_w]
theorem fsA_s {W Hh:Int}{xs:List Int}{px py vx vy vd most:Int}{n m:Nat}:fsA W Hh xs px py vx vy vd most n (m+1)=fi (fsQ W Hh xs px py vx vy vd most) (fsD px py vx vy vd) (fsA W Hh xs px py vx vy vd most n m) (-1+(m:Int),-1+(n:Int)):=by
 unfold fsA fsF;rw[borA_s,List.foldl_append];rfl
theorem fsA_0 {W Hh:Int}{xs:List Int}{px py vx vy vd most:Int}:fsA W Hh xs px py vx vy vd most 0 0=none:=rfl
theorem lW {Q:Int×Int->Bool}{D:Int×Int->Int×Int}{s:Option (Int×Int)}{c:Int×Int}(h:Q c=false):fi Q D s c=s:=if_neg (by rw[h];simp)
theorem sD {Q:Int×Int->Bool}{D:Int×Int->Int×Int}{b c:Int×Int}(h:¬(D c).1*(D b).2<(D b).1*(D c).2):fi Q D (some b) c=some b:=if_neg fun k=>h (k.2 b rfl)
theorem sE {Q:Int×Int->Bool}{D:Int×Int->Int×Int}{c:Int×Int}(h:Q c=true):fi Q D none c=some c:=if_pos ⟨h,fun b hb=>by cases hb⟩
theorem sf {Q:Int×Int->Bool}{D:Int×Int->Int×Int}{b c:Int×Int}(h:Q c=true)(k:(D c).1*(D b).2<(D b).1*(D c).2):fi Q D (some b) c=some c:=if_pos ⟨h,fun b' hb=>by cases hb;exact k⟩
theorem ny {W Hh:Int}(hH : -2<=Hh)(hW : -2<=W){c:Int×Int}:c∈borA W (Hh+2).toNat 0↔(-1<=c.1/\c.1<=W) /\ -1<=c.2/\c.2<=Hh:=by
 unfold borA
 rw[rowR,List.append_nil,iP]
 exact⟨fun ⟨a,b,_⟩=>by omega,fun h=>⟨by omega,by omega,rfl⟩⟩
theorem fsA_Q {W Hh:Int}{xs:List Int}{px py vx vy vd most:Int}{n m:Nat}{b:Int×Int}(h:fsA W Hh xs px py vx vy vd most n m=some b):fsQ W Hh xs px py vx vy vd most b=true:=(fs_some oW h).2.1
theorem fsQ_rO {W Hh:Int}{xs:List Int}{px py vx vy vd most:Int}{b:Int×Int}(h:fsQ W Hh xs px py vx vy vd most b=true):atI W Hh xs b.1 b.2=2/\rOC px py vx vy vd b=true/\enC px py vx vy vd b<=most*edC px py vx vy vd b:=by
 unfold fsQ at h
 simp only[Bool.and_eq_true,beq_iff_eq,Bool.not_eq_true',decide_eq_false_iff_not] at h
 exact⟨h.1,h.2.1,by have:=h.2.2;omega⟩
theorem fsA_bd {W Hh:Int}{xs:List Int}{px py vx vy vd most:Int}{n m:Nat}{b:Int×Int}(h:fsA W Hh xs px py vx vy vd most n m=some b):(0<=(fsD px py vx vy vd b).1/\(fsD px py vx vy vd b).1<=562949953421312)/\0<(fsD px py vx vy vd b).2/\(fsD px py vx vy vd b).2<=67108864:=by
 have k:=(fsQ_rO (fsA_Q h)).2.1
 rw[fj k]
 exact(en_bd k).1
theorem sbf_en {px py vx vy vd hi x0 y0 x1 y1:Int}:dm px py vx vy vd hi x0 y0 x1 y1=true↔(0<=hi/\hi<=65536)/\rO px py vx vy vd x0 y0 x1 y1=true/\enN px py vx vy vd x0 y0 x1 y1<hi*enD px py vx vy vd x0 y0 x1 y1:=by
 rw[sbf_ref]
 unfold rbefB
 simp only[Bool.and_eq_true,decide_eq_true_eq,Bool.not_eq_true']
 constructor
 ·rintro⟨h0,h1,hg,he,hl⟩
  have hr:rO px py vx vy vd x0 y0 x1 y1=true:=by unfold rO;rw[hg,he];rfl
  exact⟨⟨h0,h1⟩,hr,(en_le hr).2.1.2 hl⟩
 rintro⟨⟨h0,h1⟩,hr,hl⟩
 exact⟨h0,h1,(rO_t hr).1,(rO_t hr).2,(en_le hr).2.1.1 hl⟩
theorem sF {a b:Int×Int}(h:dt a b):¬dt b a:=by unfold dt at *;omega
theorem befP_irr {a:Int×Int}:¬dt a a:=by unfold dt;omega
theorem jg {a b c:Int×Int}(h:dt a b)(k:dt b c):dt a c:=by unfold dt at *;omega
theorem rr (a b:Int×Int):dt a b\/a=b\/dt b a:=by
 unfold dt
 rcases Int.lt_trichotomy a.2 b.2 with h|h|h
 ·exact .inl (.inl h)
 ·rcases Int.lt_trichotomy a.1 b.1 with k|k|k
  ·exact .inl (.inr ⟨h,k⟩)
  ·exact .inr (.inl (Prod.ext k h))
  exact .inr (.inr (.inr ⟨h.symm,k⟩))
 exact .inr (.inr (.inl h))
def bW:List (Int×Int)->List (Int×Int)
 |[]=>[]
 |[a]=>[a]
 |a::b::l=>if a=b then bW (b::l) else a::bW (b::l)
theorem gb:∀{l:List (Int×Int)}{x:Int×Int},x∈bW l↔x∈l
 |[],_=>Iff.rfl
 |[_],_=>Iff.rfl
 | a::b::l,x=>by
  unfold bW
  split
  ·rename_i h
   rw[gb (l:=b::l),List.mem_cons (l:=b::l)]
   exact⟨.inr,fun k=>k.elim (fun q=>by rw[q,h];exact List.mem_cons_self ..) id⟩
  rw[List.mem_cons,List.mem_cons (l:=b::l),gb (l:=b::l)]
def leC (a b:Int×Int):Prop:=a=b\/dt a b
theorem mY:∀{l:List (Int×Int)},l.Pairwise leC->(bW l).Pairwise dt
 |[],_=>.nil
 |[a],_=>by unfold bW;simp
 | a::b::l,h=>by
  rw[List.pairwise_cons] at h
  have r:=mY h.2
  unfold bW
  split
  ·exact r
  rename_i hab
  rw[List.pairwise_cons]
  refine⟨fun x hx=>?_,r⟩
  have hm:=gb.1 hx
  have hb:dt a b:=(h.1 b (List.mem_cons_self ..)).resolve_left hab
  rcases List.mem_cons.1 hm with q|q
  ·rw[q];exact hb
  rcases (List.pairwise_cons.1 h.2).1 x q with k|k
  ·rw[<-k];exact hb
  exact jg hb k
def iy (c:Int×Int):List (Int×Int)->List (Int×Int)
 |[]=>[c]
 |a::l=>if a.2<c.2\/(a.2=c.2/\a.1<c.1) then a::iy c l else if a=c then a::l else c::a::l
theorem nz {c x:Int×Int}:∀{l:List (Int×Int)},x∈iy c l↔x=c\/x∈l
 |[]=>by simp[iy]
 | a::l=>by
  unfold iy
  split
  ·rw[List.mem_cons,nz (l:=l),List.mem_cons]
   exact⟨fun k=>k.elim (.inr∘.inl) (fun k=>k.elim .inl (.inr∘.inr)),fun k=>k.elim (.inr∘.inl) (fun k=>k.elim .inl (.inr∘.inr))⟩
  split
  ·rename_i h
   exact⟨.inr,fun k=>k.elim (fun q=>by rw[q,<-h];exact List.mem_cons_self ..) id⟩
  rw[List.mem_cons]
theorem mZ {c:Int×Int}:∀{l:List (Int×Int)},l.Pairwise dt->(iy c l).Pairwise dt
 |[],_=>by unfold iy;simp
 | a::l,h=>by
  rw[List.pairwise_cons] at h
  unfold iy
  split
  ·rename_i k
   rw[List.pairwise_cons]
   refine⟨fun x hx=>?_,mZ h.2⟩
   rcases nz.1 hx with q|q
   ·rw[q];exact k
   exact h.1 x q
  rename_i k
  split
  ·exact List.pairwise_cons.2 h
  rename_i e
  have hc:dt c a:=((rr c a).resolve_right fun q=>q.elim (fun q=>e q.symm) (fun q=>k q))
  rw[List.pairwise_cons]
  refine⟨fun x hx=>?_,List.pairwise_cons.2 h⟩
  rcases List.mem_cons.1 hx with q|q
  ·rw[q];exact hc
  exact jg hc (h.1 x q)
theorem cpt_put {l s:List (Int×Int)}(hs:s.Pairwise leC)(hm:∀x,x∈s↔x∈l):bW s=l.foldl (fun o c=>iy c o) []:=by
 have g:∀(l o:List (Int×Int)),o.Pairwise dt->(l.foldl (fun o c=>iy c o) o).Pairwise dt/\∀x,x∈l.foldl (fun o c=>iy c o) o↔x∈l\/x∈o:=by
  intro l
  induction l with
  |nil=>exact fun o ho=>⟨ho,fun x=>by simp⟩
  | cons a l ih =>
   intro o ho
   have k:=ih (iy a o) (mZ ho)
   refine⟨k.1,fun x=>?_⟩
   rw[List.foldl_cons,k.2 x,nz,List.mem_cons]
   exact⟨fun q=>q.elim (.inl∘.inr) (fun q=>q.elim (.inl∘.inl) .inr),fun q=>q.elim (fun q=>q.elim (.inr∘.inl) .inl) (.inr∘.inr)⟩
 have k:=g l [] .nil
 exact eq_sorted (mY hs) k.1 fun x=>by rw[gb,hm,k.2];simp
theorem rt:∀(m:List (Int×Int)) (y x:Int×Int),bW (m++[y]++[x])=bW (m++[y])++(if y=x then [] else [x])
 | [],y,x=>by
  show bW [y,x]=bW [y]++_
  unfold bW
  split
  ·rename_i h;subst h;simp[bW]
  rename_i h;simp[bW]
 | [a],y,x=>by
  show bW (a::y::[x])=bW (a::y::[])++_
  simp only[bW]
  by_cases h:a=y
  ·by_cases k:y=x
   ·simp[h,k]
   simp[h,k]
  by_cases k:y=x
  ·simp[h,k]
  simp[h,k]
 | a::b::m,y,x=>by
  show bW (a::b::(m++[y]++[x]))=bW (a::b::(m++[y]))++_
  have ih:=rt (b::m) y x
  simp only[List.cons_append] at ih
  rw[bW,bW,ih]
  by_cases h:a=b
  ·rw[if_pos h,if_pos h]
  rw[if_neg h,if_neg h,List.cons_append]
theorem nA {l:List (Int×Int)}{j:Nat}(h1:1<=j)(hj:j<l.length):bW (l.take (j+1))=bW (l.take j)++(if l[j-1]'(by omega)=l[j] then [] else [l[j]]):=by
 obtain⟨i,rfl⟩:∃i,j=i+1:=⟨j-1,by omega⟩
 have e1:=List.take_succ_eq_append_getElem hj
 have e2:=List.take_succ_eq_append_getElem (show i<l.length by omega)
 rw[e1,e2]
 exact rt _ _ _
theorem cpt_1 {l:List (Int×Int)}(h:l.length<2):bW l=l:=by
 match l,h with
 |[],_=>rfl
 |[_],_=>rfl
theorem oZ (l:List (Int×Int)):(bW l).length<=l.length:=by
 match l with
 |[]=>exact Nat.le_refl _
 |[_]=>exact Nat.le_refl _
 | a::b::m =>
  have:=oZ (b::m)
  rw[bW]
  split
  ·exact Nat.le_trans this (by simp)
  simp only[List.length_cons] at *;omega
theorem leC_anti {a b:Int×Int}(h:leC a b)(k:leC b a):a=b:=by
 unfold leC at *
 rcases h with h|h
 ·exact h
 rcases k with k|k
 ·exact k.symm
 exact absurd k (sF h)
theorem ru:∀{l m:List (Int×Int)},l.Perm m->l.Pairwise leC->m.Pairwise leC->l=m
 |[],m,h,_,_=>(List.Perm.nil_eq h)
 |a::l,[],h,_,_=>absurd h.symm.nil_eq (by simp)
 | a::l,b::m,h,h1,h2=>by
  rw[List.pairwise_cons] at h1 h2
  have hab:a=b:=by
   have ha:a∈b::m:=h.subset (List.mem_cons_self ..)
   have hb:b∈a::l:=h.symm.subset (List.mem_cons_self ..)
   rcases List.mem_cons.1 ha with e|e
   ·exact e
   rcases List.mem_cons.1 hb with e2|e2
   ·exact e2.symm
   exact leC_anti (h1.1 b e2) (h2.1 a e)
  subst hab
  rw[ru (List.Perm.cons_inv h) h1.2 h2.2]
theorem leC_tot (a b:Int×Int):leC a b\/leC b a:=by
 unfold leC
 rcases rr a b with h|h|h
 ·exact .inl (.inr h)
 ·exact .inl (.inl h)
 exact .inr (.inr h)
theorem leC_trans {a b c:Int×Int}(h:leC a b)(k:leC b c):leC a c:=by
 unfold leC at *
 rcases h with rfl|h
 ·exact k
 rcases k with rfl|k
 ·exact .inr h
 exact .inr (jg h k)
instance (a b:Int×Int):Decidable (dt a b):=by unfold dt;infer_instance
instance (a b:Int×Int):Decidable (leC a b):=by unfold leC;infer_instance
def dY (l:List (Int×Int)):List (Int×Int):=l.mergeSort fun a b=>decide (leC a b)
theorem gc (l:List (Int×Int)):(dY l).Perm l:=List.mergeSort_perm _ _
theorem iz (l:List (Int×Int)):(dY l).length=l.length:=(gc l).length_eq
theorem jY (l:List (Int×Int)):(dY l).Pairwise leC:=by
 have h:=List.pairwise_mergeSort (le:=fun a b=>decide (leC a b)) (fun a b c h k=>by simp only[decide_eq_true_eq] at *;exact leC_trans h k) (fun a b=>by simp only[Bool.or_eq_true,decide_eq_true_eq];exact leC_tot a b) l
 unfold dY
 refine h.imp fun {a b} k=>?_
 simpa using k
theorem nB:dY []=[]:=by simp[dY]
def prS (W Hh:Int) (l:List T6) (sc:List (Int×Int)) (g:Int):Nat->List (Int×Int)
 |0=>[]
 |i+1=>prS W Hh l sc g i++fh W Hh l (g1 sc i) (g2 sc i) g
def iX (W Hh:Int) (l:List T6) (sc:List (Int×Int)) (g:Int):List (Int×Int):=if fZ l=true then prS W Hh l sc g sc.length else []
def aU (W Hh:Int) (l:List T6) (sc:List (Int×Int)) (g:Int):List (Int×Int):=bW (dY (iX W Hh l sc g))
theorem mD (W Hh:Int)(l:List T6)(sc:List (Int×Int))(g:Int):∀i:Nat,(prS W Hh l sc g i).length<=7225*i
 |0=>by simp[prS]
 | i+1=>by
  have:=mD W Hh l sc g i
  have:=ro W Hh l (g1 sc i) (g2 sc i) g
  simp only[prS,List.length_append];omega
theorem allL_nil {W Hh:Int}{l:List T6}{sc:List (Int×Int)}{g:Int}(h:fZ l=false):aU W Hh l sc g=[]/\iX W Hh l sc g=[]:=by
 have e:iX W Hh l sc g=[]:=if_neg (by rw[h];decide)
 exact⟨by unfold aU;rw[e,nB];rfl,e⟩
def swS (l:List T9) (r g:Int):Nat->List (Int×Int)
 |0=>[]
 |i+1=>swS l r g i++cZ (g91 l i) (g92 l i) (g93 l i) (g94 l i) (g97 l i) (g98 l i) (g99 l i) (if 0<r-g then r-g else 0) (r+g)
def gN (l:List T6) (m r g:Int):List (Int×Int):=if (decide (r = -1)||!fZ l)=true then [] else swS (az l m) r g (az l m).length
def bL (l:List T6) (m r g:Int):List (Int×Int):=bW (dY (gN l m r g))
theorem mE (l:List T9)(r g:Int):∀i:Nat,(swS l r g i).length<=7225*i
 |0=>by simp[swS]
 | i+1=>by
  have:=mE l r g i
  have:=nu (g91 l i) (g92 l i) (g93 l i) (g94 l i) (g97 l i) (g98 l i) (g99 l i) (if 0<r-g then r-g else 0) (r+g)
  simp only[swS,List.length_append];omega
theorem rv {l:List T6}{m r g:Int}(h:r = -1\/fZ l=false):bL l m r g=[]/\gN l m r g=[]:=by
 have e:gN l m r g=[]:=if_pos (by rcases h with h|h<;>simp[h])
 exact⟨by unfold bL;rw[e,nB];rfl,e⟩
theorem dirA_tau {l:List T6}(hS:cw l=true)(h:fZ l=true)(m:Int):(az l m).length<=32:=by
 unfold fZ at h
 rw[Bool.and_eq_true,decide_eq_true_eq] at h
 have k:∀i:Nat,i<=l.length->((dirS l m i).length:Int)=sumC l i:=fun i=>by
  induction i with
  |zero=>intro _;rfl
  | succ i ih =>
   intro hi
   have:=ih (by omega)
   have q:=oT hS (show i<l.length by omega)
   simp only[dirS,sumC,List.length_append,kT];omega
 have:=k l.length (Nat.le_refl _)
 unfold az;omega
def fk (ks xs:List Int):Prop:=ks.length=xs.length/\∀i:Nat,gi ks i=0\/gi ks i=gi xs i
theorem rz {W H x y:Int}{ks xs:List Int}(h:fk ks xs)(k:atI W H ks x y=1):atI W H xs x y=1:=by
 unfold atI at *
 split at k
 ·rename_i hi
  rw[if_pos hi]
  rcases h.2 (y*W+x).toNat with q|q<;>omega
 omega
theorem bel_vld {W H:Int}{ks xs:List Int}(h:fk ks xs)(v:bQ W H xs=true):bQ W H ks=true:=by
 obtain⟨a,b,c,d,e,f⟩:=bo.1 v
 refine bo.2 ⟨a,b,c,d,by rw[h.1];exact e,fun v hv=>?_⟩
 obtain⟨j,hj,rfl⟩:=List.mem_iff_getElem.1 hv
 rw[<-fM hj]
 rcases h.2 j with q|q
 ·omega
 rw[q]
 have hj':j<xs.length:=by rw[<-h.1];exact hj
 rw[fM hj'];exact f _ (List.getElem_mem _)
theorem gi_setL {xs:List Int}{i j:Nat}{v:Int}(h:i<xs.length):gi (xs.set i v) j=if i=j then v else gi xs j:=by
 by_cases e:i=j
 ·subst e;simp[gi,List.getD_eq_getElem?_getD,h]
 simp[gi,List.getD_eq_getElem?_getD,e]
def cidx (W:Int) (c:Int×Int):Nat:=(c.2*W+c.1).toNat
theorem o0 {W H:Int}{xs:List Int}{c:Int×Int}(hl:(xs.length:Int)=W*H)(h:inB W H c.1 c.2=true):cidx W c<xs.length:=by
 obtain⟨h1,h2,h3,h4⟩:=dD.1 h
 have k:=Int.mul_le_mul_of_nonneg_right (show c.2+1<=H by omega) (show 0<=W by omega)
 have e:(c.2+1)*W=c.2*W+W:=by grind
 have e2:H*W=W*H:=Int.mul_comm _ _
 have k0:=Int.mul_nonneg h3 (show 0<=W by omega)
 unfold cidx;omega
def iA (W H:Int):List (Int×Int)->List Int->Option (List Int)
 |[],o=>some o
 |c::l,o=>if atI W H o c.1 c.2=2 then none else iA W H l (o.set (cidx W c) 1)
def fJ (W H:Int):List (List (Int×Int))->List Int->Option (List Int)
 |[],o=>some o
 | s::l,o=>match s.filter fun c=>!(atI W H o c.1 c.2==1) with
  |[]=>none
  |[c]=>fJ W H l (if inB W H c.1 c.2=true then o.set (cidx W c) 2 else o)
  |_=>fJ W H l o
theorem set_le {o:List Int}{i:Nat}{v:Int}(h:∀x∈o,x<=2)(hv:v<=2):∀x∈o.set i v,x<=2:=fun x hx=>by
 rcases List.mem_or_eq_of_mem_set hx with k|k
 ·exact h x k
 rw[k];exact hv
theorem at_in {W H:Int}{xs:List Int}{c:Int×Int}(h:inB W H c.1 c.2=true):atI W H xs c.1 c.2=gi xs (cidx W c):=if_pos h
theorem qf {W H:Int}{t:List Int}(hl:(t.length:Int)=W*H):∀{l:List (Int×Int)}{o:List Int},(∀c∈l,inB W H c.1 c.2=true/\atI W H t c.1 c.2=1)->fk o t->∃q,iA W H l o=some q/\fk q t
 |[],o,_,hk=>⟨o,rfl,hk⟩
 | c::l,o,hc,hk=>by
  obtain⟨hin,ht⟩:=hc c (List.mem_cons_self ..)
  have hlt:=o0 hl hin
  rw[at_in hin] at ht
  unfold iA
  rw[at_in hin,if_neg (by rcases hk.2 (cidx W c) with q|q<;>omega)]
  refine qf hl (fun c hc'=>hc c (List.mem_cons_of_mem _ hc')) ⟨by rw[List.length_set];exact hk.1,fun i=>?_⟩
  rw[gi_setL (by rw[hk.1];exact hlt)]
  split
  ·rename_i e;subst e;exact .inr ht.symm
  exact hk.2 i
theorem qg {W H:Int}{t:List Int}(hl:(t.length:Int)=W*H):∀{l:List (List (Int×Int))}{o:List Int},(∀s∈l,∃c∈s,atI W H t c.1 c.2=2)->fk o t->∃q,fJ W H l o=some q/\fk q t
 |[],o,_,hk=>⟨o,rfl,hk⟩
 | s :: l,o,hc,hk=>by
  obtain⟨w,hw,h2⟩:=hc s (List.mem_cons_self ..)
  have ih:=fun {o} hk=>qg hl (l:=l) (o:=o) (fun s hs=>hc s (List.mem_cons_of_mem _ hs)) hk
  have hm:w∈s.filter fun c=>!(atI W H o c.1 c.2==1):=List.mem_filter.2 ⟨hw,by
   have:¬atI W H o w.1 w.2=1:=fun k=>by have:=rz hk k;omega
   simpa using this⟩
  unfold fJ
  split
  ·rename_i hs;rw[hs] at hm;cases hm
  ·rename_i c hs
   rw[hs,List.mem_singleton] at hm
   subst hm
   refine ih ?_
   split
   ·rename_i hin
    have hlt:=o0 hl hin
    rw[at_in hin] at h2
    refine⟨by rw[List.length_set];exact hk.1,fun i=>?_⟩
    rw[gi_setL (by rw[hk.1];exact hlt)]
    split
    ·rename_i e;subst e;exact .inr h2.symm
    exact hk.2 i
   exact hk
  exact ih hk
def iY (l:List T6) (sc:List (Int×Int)) (g:Int):List (List (Int×Int)):=(sc.filter fun e=>!(e.2 == -1)).map fun e=>bL l e.1 e.2 g
def lnO (W Hh:Int) (xs:List Int) (l:List T6) (sc:List (Int×Int)) (g:Int):Option (List Int):=if fZ l=true then (iA W Hh (aU W Hh l sc g) xs).bind (fJ W Hh (iY l sc g)) else some xs
def lnE (W Hh:Int) (xs:List Int) (l:List T6) (sc:List (Int×Int)) (g:Int):Int:=if eW W Hh xs l sc g=true then (match lnO W Hh xs l sc g with|none=>11|some _=>0) else 1
def lnX (W Hh:Int) (xs:List Int) (l:List T6) (sc:List (Int×Int)) (g:Int):List Int:=if eW W Hh xs l sc g=true then (lnO W Hh xs l sc g).getD [] else []
def lnZ (W Hh:Int) (xs:List Int) (l:List T6) (sc:List (Int×Int)) (g:Int) (n:Int):Int:=if lnE W Hh xs l sc g=0 then n else 0
section
variable {W Hh:Int} {xs:List Int} {l:List T6} {sc:List (Int×Int)} {g:Int}
theorem ln_1 (h:eW W Hh xs l sc g=false):lnE W Hh xs l sc g=1/\lnX W Hh xs l sc g=[]/\lnZ W Hh xs l sc g W=0/\lnZ W Hh xs l sc g Hh=0:=by
 have e:lnE W Hh xs l sc g=1:=if_neg (by rw[h];decide)
 exact⟨e,if_neg (by rw[h];decide),if_neg (by rw[e];decide),if_neg (by rw[e];decide)⟩
theorem ln_11 (h:eW W Hh xs l sc g=true)(k:lnO W Hh xs l sc g=none):lnE W Hh xs l sc g=11/\lnX W Hh xs l sc g=[]/\lnZ W Hh xs l sc g W=0/\lnZ W Hh xs l sc g Hh=0:=by
 have e:lnE W Hh xs l sc g=11:=by unfold lnE;rw[if_pos h,k]
 exact⟨e,by unfold lnX;rw[if_pos h,k];rfl,if_neg (by rw[e];decide),if_neg (by rw[e];decide)⟩
theorem ln_0 {o:List Int}(h:eW W Hh xs l sc g=true)(k:lnO W Hh xs l sc g=some o):lnE W Hh xs l sc g=0/\lnX W Hh xs l sc g=o/\lnZ W Hh xs l sc g W=W/\lnZ W Hh xs l sc g Hh=Hh:=by
 have e:lnE W Hh xs l sc g=0:=by unfold lnE;rw[if_pos h,k]
 exact⟨e,by unfold lnX;rw[if_pos h,k];rfl,if_pos e,if_pos e⟩
theorem prS_in:∀{i:Nat}{c:Int×Int},c∈prS W Hh l sc g i->inB W Hh c.1 c.2=true
 |0,_,h=>by cases h
 | i+1,c,h=>by
  unfold prS at h
  rcases List.mem_append.1 h with h|h
  ·exact prS_in h
  unfold fh at h
  split at h
  ·cases h
  have k:=(List.mem_filter.1 h).2
  unfold bU at k
  rw[Bool.and_eq_true,Bool.and_eq_true,aZ,aZ] at k
  exact dD.2 ⟨by omega,by omega,by omega,by omega⟩
theorem allL_in {c:Int×Int}(h:c∈aU W Hh l sc g):inB W Hh c.1 c.2=true:=by
 unfold aU at h
 have h:=(gc _).mem_iff.1 (gb.1 h)
 unfold iX at h
 split at h
 ·exact prS_in h
 cases h
def lfS (W:Int) (A:List (Int×Int)) (xs:List Int):Nat->List Int
 |0=>xs
 |i+1=>(lfS W A xs i).set ((g2 A i*W)+g1 A i).toNat 1
theorem vld_set {o:List Int}{i:Nat}{v:Int}(h:bQ W Hh o=true)(hv:v<=2):bQ W Hh (o.set i v)=true:=by
 have q:=bo.1 h
 exact bo.2 ⟨q.w0,q.w1,q.h0,q.h1,by rw[List.length_set];exact q.len,set_le q.le hv⟩
theorem km {A:List (Int×Int)}(h:bQ W Hh xs=true):∀i:Nat,bQ W Hh (lfS W A xs i)=true
 |0=>h
 |i+1=>vld_set (km h i) (by decide)
theorem qh {A:List (Int×Int)}{o:List Int}{i:Nat}(hi:i<A.length)(hA:∀c∈A,inB W Hh c.1 c.2=true):iA W Hh (A.drop i) o=if gi o ((g2 A i*W)+g1 A i).toNat=2 then none else iA W Hh (A.drop (i+1)) (o.set ((g2 A i*W)+g1 A i).toNat 1):=by
 rw[List.drop_eq_getElem_cons hi]
 have h:=hA _ (List.getElem_mem hi)
 have e:cidx W A[i]=((g2 A i*W)+g1 A i).toNat:=by rw[<-cP hi];rfl
 conv=>lhs;unfold iA
 rw[at_in h,e]
theorem gin_mem {A:List (Int×Int)}{i:Nat}(hi:i<A.length)(hA:∀c∈A,inB W Hh c.1 c.2=true):inB W Hh (g1 A i) (g2 A i)=true:=by
 have h:=hA _ (List.getElem_mem hi)
 rw[<-cP hi] at h;exact h
def frP (W Hh:Int) (o:List Int) (c:Int×Int):Bool:=atI W Hh o c.1 c.2==1
def lwU (W Hh:Int) (o:List Int) (d:List (Int×Int)):List Int:=if d.length=1/\btw (g1 d 0) 0 (W-1)=true/\btw (g2 d 0) 0 (Hh-1)=true then o.set ((g2 d 0*W)+g1 d 0).toNat 2 else o
def lwS (W Hh:Int) (l:List T6) (sc:List (Int×Int)) (g:Int) (o:List Int):Nat->List Int
 |0=>o
 |i+1=>if g2 sc i = -1 then lwS W Hh l sc g o i else lwU W Hh (lwS W Hh l sc g o i) (cg (frP W Hh (lwS W Hh l sc g o i)) (bL l (g1 sc i) (g2 sc i) g))
theorem lwU_vld {o:List Int}{d:List (Int×Int)}(h:bQ W Hh o=true):bQ W Hh (lwU W Hh o d)=true:=by
 unfold lwU;split
 ·exact vld_set h (by decide)
 exact h
theorem kn {o:List Int}(h:bQ W Hh o=true):∀i:Nat,bQ W Hh (lwS W Hh l sc g o i)=true
 |0=>h
 | i+1=>by
  unfold lwS;split
  ·exact kn h i
  exact lwU_vld (kn h i)
theorem qi {o:List Int}{i:Nat}(hi:i<sc.length):fJ W Hh (iY l (sc.drop i) g) o=if g2 sc i = -1 then fJ W Hh (iY l (sc.drop (i+1)) g) o else if (cg (frP W Hh o) (bL l (g1 sc i) (g2 sc i) g)).length=0 then none else fJ W Hh (iY l (sc.drop (i+1)) g) (lwU W Hh o (cg (frP W Hh o) (bL l (g1 sc i) (g2 sc i) g))):=by
 have e:sc[i]=(g1 sc i,g2 sc i):=(cP hi).symm
 unfold iY
 rw[List.drop_eq_getElem_cons hi,List.filter_cons,e]
 by_cases h:g2 sc i = -1
 ·rw[if_pos h,if_neg (by simp[h])]
 rw[if_neg h,if_pos (by simpa using h),List.map_cons]
 conv=>lhs;unfold fJ
 have hd:∀s:List (Int×Int),(s.filter fun c=>!(atI W Hh o c.1 c.2==1))=cg (frP W Hh o) s:=fun _=>rfl
 simp only[hd]
 generalize cg (frP W Hh o) (bL l (g1 sc i) (g2 sc i) g)=d
 match d with
 |[]=>simp
 | [c] =>
  simp only[List.length_cons,List.length_nil]
  unfold lwU
  have q:(btw (g1 [c] 0) 0 (W-1)=true/\btw (g2 [c] 0) 0 (Hh-1)=true)↔inB W Hh c.1 c.2=true:=by
   rw[aZ,aZ,dD];show ((0<=c.1/\c.1<=W-1)/\0<=c.2/\c.2<=Hh-1)↔_;omega
  simp only[List.length_cons,List.length_nil,Nat.zero_add,true_and,q,Nat.one_ne_zero,if_false]
  rfl
 |a::b::t=>simp[lwU]
theorem lwS_skip {o:List Int}{i:Nat}(h:g2 sc i = -1):lwS W Hh l sc g o (i+1)=lwS W Hh l sc g o i:=by simp only[lwS];rw[if_pos h]
theorem nC {o:List Int}{i:Nat}(h:¬g2 sc i = -1)(k:¬((cg (frP W Hh (lwS W Hh l sc g o i)) (bL l (g1 sc i) (g2 sc i) g)).length=1/\btw (g1 (cg (frP W Hh (lwS W Hh l sc g o i)) (bL l (g1 sc i) (g2 sc i) g)) 0) 0 (W-1)=true/\btw (g2 (cg (frP W Hh (lwS W Hh l sc g o i)) (bL l (g1 sc i) (g2 sc i) g)) 0) 0 (Hh-1)=true)):lwS W Hh l sc g o (i+1)=lwS W Hh l sc g o i:=by simp only[lwS];rw[if_neg h];exact if_neg k
theorem lwS_set {o:List Int}{i:Nat}(h:¬g2 sc i = -1)(k:(cg (frP W Hh (lwS W Hh l sc g o i)) (bL l (g1 sc i) (g2 sc i) g)).length=1/\btw (g1 (cg (frP W Hh (lwS W Hh l sc g o i)) (bL l (g1 sc i) (g2 sc i) g)) 0) 0 (W-1)=true/\btw (g2 (cg (frP W Hh (lwS W Hh l sc g o i)) (bL l (g1 sc i) (g2 sc i) g)) 0) 0 (Hh-1)=true):lwS W Hh l sc g o (i+1)=(lwS W Hh l sc g o i).set ((g2 (cg (frP W Hh (lwS W Hh l sc g o i)) (bL l (g1 sc i) (g2 sc i) g)) 0*W)+g1 (cg (frP W Hh (lwS W Hh l sc g o i)) (bL l (g1 sc i) (g2 sc i) g)) 0).toNat 2:=by simp only[lwS];rw[if_neg h];exact if_pos k
theorem rA {o:List Int}{i:Nat}(hi:i<sc.length)(h:g2 sc i = -1\/¬(cg (frP W Hh (lwS W Hh l sc g o i)) (bL l (g1 sc i) (g2 sc i) g)).length=0):fJ W Hh (iY l (sc.drop i) g) (lwS W Hh l sc g o i)=fJ W Hh (iY l (sc.drop (i+1)) g) (lwS W Hh l sc g o (i+1)):=by
 rw[qi hi]
 simp only[lwS]
 by_cases k:g2 sc i = -1
 ·rw[if_pos k,if_pos k]
 rw[if_neg k,if_neg k,if_neg (by rcases h with h|h;exact absurd h k;exact h)]
theorem lwS_bad {o:List Int}{i:Nat}(hi:i<sc.length)(h:¬g2 sc i = -1)(k:(cg (frP W Hh (lwS W Hh l sc g o i)) (bL l (g1 sc i) (g2 sc i) g)).length=0):fJ W Hh (iY l (sc.drop i) g) (lwS W Hh l sc g o i)=none:=by
 rw[qi hi,if_neg h,if_pos k]
theorem vld_pos {o:List Int}(h:bQ W Hh o=true):0<o.length:=by
 have q:=bo.1 h
 have:=(q.idx (show inB W Hh 0 0=true from dD.2 (by have:=q.w0;have:=q.h0;omega))).2.2.2.2.1
 omega
theorem pad_len {p:Int×Int->Bool}{l:List (Int×Int)}:(eV l.length (cg p l)).length=l.length:=by
 have:=delL_le (p:=p) (l:=l)
 unfold eV;simp;omega
theorem pad_g1 {n:Nat}{d:List (Int×Int)}(h:¬d.length=0):g1 (eV n d) 0=g1 d 0:=by
 match d,h with
 |a::t,_=>rfl
theorem pad_g2 {n:Nat}{d:List (Int×Int)}(h:¬d.length=0):g2 (eV n d) 0=g2 d 0:=by
 match d,h with
 |a::t,_=>rfl
theorem rB {m r:Int}(hS:cw l=true):(bL l m r g).length<=7225*4096:=by
 have h1:=mE (az l m) r g (az l m).length
 have h2:=kU hS m
 have h3:(gN l m r g).length<=7225*4096:=by
  unfold gN;split
  ·simp
  omega
 unfold bL
 have:=oZ (dY (gN l m r g));rw[iz] at this;omega
theorem allL_len:(aU W Hh l sc g).length<=7225*sc.length:=by
 have h1:=mD W Hh l sc g sc.length
 have h3:(iX W Hh l sc g).length<=7225*sc.length:=by
  unfold iX;split
  ·exact h1
  simp
 unfold aU
 have:=oZ (dY (iX W Hh l sc g));rw[iz] at this;omega
end
section
variable {W Hh:Int} {xs:List Int} {sc:List (Int×Int)}
end
theorem sbf_trL {px py vx vy vd far cx cy:Int}(h:dm px py vx vy vd far (cx*64) (cy*64) (cx*64+64) (cy*64+64)=true)(hp:ptB px py=true)(hc:(-16384<=cx/\cx<=16383) /\ -16384<=cy/\cy<=16383)(hf:far<=2048):(cx,cy)∈trL px py vx vy vd 0 far:=by
 unfold dm at h
 simp only[Bool.and_eq_true,decide_eq_true_eq] at h
 obtain⟨h0,h1,hg,hb⟩:=h
 have hv:=dM hg
 have hvB:=(cl.1 hg).2.1
 have hq:=ix.1 hp
 have k:=sC hv.1 hv.2 hq.1 hq.2 (cx:=cx) (cy:=cy) (by omega) (by omega) h0
  (mnx:=if far*vx<0*vx then far*vx else 0*vx) (mxx:=if 0*vx<far*vx then far*vx else 0*vx) (mny:=if far*vy<0*vy then far*vy else 0*vy) (mxy:=if 0*vy<far*vy then far*vy else 0*vy)
  (by split<;>omega) (by split<;>omega) (by split<;>omega) (by split<;>omega) (by split<;>omega) (by split<;>omega) (by split<;>omega) (by split<;>omega) hb
 have e:trE px py vx vy vd 0 far=0:=by unfold trE;rw[if_pos (by rw[hp,hvB];rfl),if_pos (ga.2 ⟨by omega,h0,hf⟩)]
 unfold trL mkL;rw[if_pos e]
 refine(kR (by omega) (by omega) hvB ⟨by omega,h0,hf⟩).2 ?_
 unfold cH fg ef
 simp only[Bool.and_eq_true,decide_eq_true_eq]
 exact⟨⟨bZ.2 (by omega),bZ.2 (by omega),bZ.2 (by omega)⟩,by omega,h0,h1,cl.2 ⟨cO.2 (by omega),hvB,bZ.2 (by omega)⟩,k.1⟩
theorem eh {px py vx vy vd far x0 y0 x1 y1:Int}(h:dm px py vx vy vd far x0 y0 x1 y1=true):(0<=far/\far<=65536)/\thG px py vx vy vd x0 y0 x1 y1=true/\iW px py vx vy vd far x0 y0 x1 y1:=by
 unfold dm at h
 simp only[Bool.and_eq_true,decide_eq_true_eq] at h
 obtain⟨h0,h1,hg,hb⟩:=h
 have hv:=dM hg
 have n:=jC hg
 exact⟨⟨h0,h1⟩,hg,(mr hv.1 hv.2 n.1 n.2).1 hb⟩
theorem kY {px py vx vy vd far x0 y0 x1 y1:Int}(hf:0<=far/\far<=65536)(hg:thG px py vx vy vd x0 y0 x1 y1=true)(h:iW px py vx vy vd far x0 y0 x1 y1):dm px py vx vy vd far x0 y0 x1 y1=true:=by
 have hv:=dM hg
 have n:=jC hg
 unfold dm
 simp only[Bool.and_eq_true,decide_eq_true_eq]
 exact⟨hf.1,hf.2,hg,(mr hv.1 hv.2 n.1 n.2).2 h⟩
theorem sbf_pos {px py vx vy vd far x0 y0 x1 y1:Int}(h:dm px py vx vy vd far x0 y0 x1 y1=true):0<far:=by
 obtain⟨hf,hg,n,m,hn,hm,hlt,-⟩:=eh h
 have hv:=(dM hg).1
 rcases Int.lt_or_le 0 far with k|k
 ·exact k
 have e:far=0:=by omega
 rw[e,Int.zero_mul] at hlt
 have:=Int.mul_nonneg hn (show 0<=vd by omega)
 omega
def prvE (l:List T6) (g:Int) (e c:Int×Int):Bool:=prvB l e.1 (aw e.2 g) c
theorem dirA_0 {l:List T6}(hS:cw l=true)(hl:0<l.length)(m:Int):0<(az l m).length:=by have:=kU hS m;omega
theorem prv_fst {l:List T6}{m far:Int}{c:Int×Int}(hS:cw l=true)(hl:0<l.length)(hf:far<=2048)(hc:(-16384<=c.1/\c.1<=16383) /\ -16384<=c.2/\c.2<=16383)(h:prvB l m far c=true):c∈aT l m far/\0<far:=by
 have he:=g9_mem (dirA_0 hS hl m)
 have k:=List.all_eq_true.1 h _ he
 have ok:=oU hS he
 unfold pairB at ok
 rw[Bool.and_eq_true] at ok
 have hb:=bv.1 ok.1
 unfold psC psB at k
 rw[Bool.and_eq_true] at k
 have hp:ptB (g9 (az l m) 0).1 (g9 (az l m) 0).2.1=true:=ix.2 (by omega)
 exact⟨sbf_trL k.1 hp hc hf,sbf_pos k.1⟩
theorem prS_mem {W Hh:Int}{l:List T6}{sc:List (Int×Int)}{g:Int}{c:Int×Int}:∀{i:Nat},c∈prS W Hh l sc g i↔∃j:Nat,j<i/\c∈fh W Hh l (g1 sc j) (g2 sc j) g
 |0=>⟨fun h=>(by cases h),fun ⟨j,hj,_⟩=>(by omega)⟩
 | i+1=>by
  unfold prS
  rw[List.mem_append,prS_mem]
  constructor
  ·rintro(⟨j,hj,h⟩|h)
   ·exact⟨j,by omega,h⟩
   exact⟨i,by omega,h⟩
  rintro⟨j,hj,h⟩
  rcases Nat.lt_or_ge j i with k|k
  ·exact .inl ⟨j,k,h⟩
  rw[show j=i by omega] at h;exact .inr h
theorem inB_bd {W Hh:Int}{xs:List Int}{x y:Int}(hV:bQ W Hh xs=true)(h:inB W Hh x y=true):(0<=x/\x<=63)/\0<=y/\y<=63:=by
 have q:=bo.1 hV
 have:=dD.1 h
 have:=q.w1;have:=q.h1
 omega
theorem mem_all {W Hh:Int}{xs:List Int}{l:List T6}{sc:List (Int×Int)}{g:Int}(hR:eW W Hh xs l sc g=true){c:Int×Int}:c∈aU W Hh l sc g↔fZ l=true/\inB W Hh c.1 c.2=true/\∃e∈sc,prvE l g e c=true:=by
 obtain⟨hV,hl0,hS,hsB,hg⟩:=iw.1 hR
 have hs:=dX.1 hsB
 unfold aU
 rw[gb,(gc _).mem_iff]
 unfold iX
 by_cases ht:fZ l=true
 ·rw[if_pos ht,prS_mem]
  constructor
  ·rintro⟨j,hj,h⟩
   unfold fh at h
   split at h
   ·cases h
   have k:=(List.mem_filter.1 h).2
   unfold bU at k
   rw[Bool.and_eq_true,Bool.and_eq_true,aZ,aZ] at k
   refine⟨ht,dD.2 (by omega),sc[j],List.getElem_mem hj,?_⟩
   unfold prvE
   rw[<-cP hj];exact k.2.2
  rintro⟨-,hin,e,he,hp⟩
  obtain⟨j,hj,rfl⟩:=List.mem_iff_getElem.1 he
  have hbe:=gK.1 (hs.2 _ he)
  rw[<-cP hj] at hbe hp
  have hb:=inB_bd hV hin
  have hff:aw (g2 sc j) g<=2048:=by unfold aw;split<;>omega
  have q:=prv_fst hS hl0 hff (by omega) hp
  refine⟨j,hj,?_⟩
  unfold fh
  rw[if_neg (by omega)]
  refine List.mem_filter.2 ⟨q.1,?_⟩
  unfold bU
  rw[Bool.and_eq_true,Bool.and_eq_true,aZ,aZ]
  have:=dD.1 hin
  exact⟨by omega,by omega,hp⟩
 rw[if_neg ht]
 exact⟨fun h=>(by cases h),fun h=>absurd h.1 ht⟩
theorem oe {b:T6}{j:Nat}(h:j<(mkB b).length):gi (mkB b) j=(b.2.2.2.2.1+(j:Int))%256:=by
 have h2:j<b.2.2.2.2.2.toNat:=by have e:(mkB b).length=b.2.2.2.2.2.toNat:=fy _ _;omega
 show gi (bg b.2.2.2.2.1 b.2.2.2.2.2.toNat) j=_
 rw[fM (by rw[fy];exact h2)]
 unfold bg
 rw[List.getElem_map,List.getElem_range]
theorem all_put {W Hh:Int}{l:List T6}{sc:List (Int×Int)}{g:Int}:aU W Hh l sc g=(iX W Hh l sc g).foldl (fun o c=>iy c o) []:=cpt_put (jY _) fun _=>(gc _).mem_iff
theorem sus_put {l:List T6}{m r g:Int}:bL l m r g=(gN l m r g).foldl (fun o c=>iy c o) []:=cpt_put (jY _) fun _=>(gc _).mem_iff
def swT (r g:Int) (e:T9):List (Int×Int):=cZ e.1 e.2.1 e.2.2.1 e.2.2.2.1 e.2.2.2.2.2.2.1 e.2.2.2.2.2.2.2.1 e.2.2.2.2.2.2.2.2 (if 0<r-g then r-g else 0) (r+g)
theorem rC {l:List T9}{r g:Int}:∀{i:Nat},i<=l.length->swS l r g i=(l.take i).flatMap (swT r g)
 |0,_=>by simp[swS]
 | i+1,hi=>by
  have h:i<l.length:=by omega
  rw[List.take_succ_eq_append_getElem h,List.flatMap_append,<-rC (by omega)]
  have e:=g9_eq h
  simp only[List.flatMap_cons,List.flatMap_nil,List.append_nil]
  rw[<-e];rfl
def jh (W Hh:Int) (xs:List Int) (c:Int×Int):Prop:=((-1<=c.1/\c.1<=W) /\ -1<=c.2/\c.2<=Hh)/\atI W Hh xs c.1 c.2=2
def gq (x y:Int) (v:Int×Int×Int) (far:Int) (c:Int×Int):Bool:=dm x y v.1 v.2.1 v.2.2 far (c.1*64) (c.2*64) (c.1*64+64) (c.2*64+64)
def sqMe (x y:Int) (v:Int×Int×Int) (lo hi:Int) (c:Int×Int):Bool:=ef x y v.1 v.2.1 v.2.2 lo hi (c.1*64) (c.2*64) (c.1*64+64) (c.2*64+64)
def ei (r g:Int):Int:=if 0<r-g then r-g else 0
def PlauP (W Hh:Int) (xs:List Int) (x y h:Int) (g:Int) (e:Int×Int):Prop:=(∀c,jh W Hh xs c->gq x y (aG h e.1) (aw e.2 g) c=false)/\(¬e.2 = -1->∃c,jh W Hh xs c/\sqMe x y (aG h e.1) (ei e.2 g) (e.2+g) c=true)
def CovP (l:List T6) (x y h:Int):Prop:=∃b∈l,(b.1<=x/\x<=b.2.2.1)/\(b.2.1<=y/\y<=b.2.2.2.1)/\∃j:Nat,j<(mkB b).length/\h=gi (mkB b) j
theorem psC_pt {l:List T6}{m far x y:Int}{c:Int×Int}{b:T6}{j:Nat}(hS:cw l=true)(hb:b∈l)(hx:b.1<=x/\x<=b.2.2.1)(hy:b.2.1<=y/\y<=b.2.2.2.1)(hj:j<(mkB b).length)(h:prvB l m far c=true):gq x y (aG (gi (mkB b) j) m) far c=true:=by
 obtain⟨i,hi,rfl⟩:=List.mem_iff_getElem.1 hb
 have hbi:g6 l i=l[i]:=jR hi
 have hbx:=(bN.1 hS).2 _ hb
 have he:dirE l[i] m (gi (mkB l[i]) j)∈az l m:=(kW (Nat.le_refl _)).2 ⟨i,j,hi,by rw[hbi];exact hj,by rw[hbi]⟩
 have k:=List.all_eq_true.1 h _ he
 unfold psC psB at k
 simp only[Bool.and_eq_true] at k
 obtain⟨k1,k2,k3,k4⟩:=k
 have p1:=eh k1
 have p2:=eh k2
 have p3:=eh k3
 have p4:=eh k4
 have hg:=cl.1 p1.2.1
 have hb4:=bv.1 hbx
 exact kY p1.1 (cl.2 ⟨cO.2 (by omega),hg.2.1,hg.2.2⟩) (bef_box hx hy p1.2.2 p2.2.2 p3.2.2 p4.2.2)
theorem iB {px py vx vy vd lo hi x0 y0 x1 y1:Int}:ef px py vx vy vd lo hi x0 y0 x1 y1=true↔(0<=lo/\lo<=hi/\hi<=65536)/\thG px py vx vy vd x0 y0 x1 y1=true/\∃n m:Int,0<=n/\0<m/\lo*m<=n*vd/\n*vd<=hi*m/\dc px py vx vy x0 y0 x1 y1 n m:=by
 unfold ef
 simp only[Bool.and_eq_true,decide_eq_true_eq]
 constructor
 ·rintro⟨h0,h1,h2,hg,hm⟩
  have hv:=dM hg
  have n:=jC hg
  exact⟨⟨h0,h1,h2⟩,hg,(mu hv.1 hv.2 n.1 n.2 h0 h1).1 hm⟩
 rintro⟨⟨h0,h1,h2⟩,hg,hm⟩
 have hv:=dM hg
 have n:=jC hg
 exact⟨h0,h1,h2,hg,(mu hv.1 hv.2 n.1 n.2 h0 h1).2 hm⟩
theorem tau_side {l:List T6}(h:fZ l=true){b:T6}(hb:b∈l):b.2.2.1-b.1<=64/\b.2.2.2.1-b.2.1<=64:=by
 unfold fZ at h
 rw[Bool.and_eq_true,Bool.not_eq_true',List.any_eq_false] at h
 have k:=h.2 b hb
 unfold wdeB at k
 rw[Bool.or_eq_true,decide_eq_true_eq,decide_eq_true_eq] at k
 omega
theorem sus_pt {l:List T6}{m r g x y:Int}{c:Int×Int}{b:T6}{j:Nat}(hS:cw l=true)(ht:fZ l=true)(hr:0<=r/\r<=1024)(hg:1<=g/\g<=32)(hb:b∈l)(hx:b.1<=x/\x<=b.2.2.1)(hy:b.2.1<=y/\y<=b.2.2.2.1)(hj:j<(mkB b).length)(hc:(-1024<=c.1/\c.1<=1024) /\ -1024<=c.2/\c.2<=1024)(h:sqMe x y (aG (gi (mkB b) j) m) (ei r g) (r+g) c=true):c∈bL l m r g:=by
 have hr1:¬r = -1:=by omega
 have e:gN l m r g=swS (az l m) r g (az l m).length:=by unfold gN;rw[decide_eq_false hr1,ht];rfl
 have hsd:=tau_side ht hb
 have hbx:=bv.1 ((bN.1 hS).2 _ hb)
 obtain⟨i,hi,rfl⟩:=List.mem_iff_getElem.1 hb
 have hbi:g6 l i=l[i]:=jR hi
 have he:dirE l[i] m (gi (mkB l[i]) j)∈az l m:=(kW (Nat.le_refl _)).2 ⟨i,j,hi,by rw[hbi];exact hj,by rw[hbi]⟩
 unfold bL
 rw[gb,(gc _).mem_iff,e,rC (Nat.le_refl _),List.take_length,List.mem_flatMap]
 refine⟨_,he,?_⟩
 obtain⟨h1,h2,n,m',k1,k2,k3,k4,k5⟩:=iB.1 h
 have hv:=(cl.1 h2).2.1
 have hl0:0<=ei r g/\ei r g<=r+g/\r+g<=2048:=by unfold ei;split<;>omega
 unfold swT dirE
 show c∈cZ _ _ _ _ _ _ _ (ei r g) (r+g)
 have hE:=(sptE_0 (x0:=l[i].1) (y0:=l[i].2.1) (x1:=l[i].2.2.1) (y1:=l[i].2.2.2.1) (kL.2 (by omega)) hv hl0 (by omega)).2
 rw[hE]
 refine(kR (by omega) (by omega) hv hl0).2 ?_
 unfold cH fg
 simp only[Bool.and_eq_true]
 exact⟨⟨bZ.2 (by omega),bZ.2 (by omega),bZ.2 (by omega)⟩,iB.2 ⟨by omega,cl.2 ⟨cO.2 (by omega),hv,bZ.2 (by omega)⟩,mee_box hx hy ⟨n,m',k1,k2,k3,k4,k5⟩⟩⟩
theorem sme_en {px py vx vy vd lo hi x0 y0 x1 y1:Int}(h:0<=lo/\lo<=hi/\hi<=65536)(hr:rO px py vx vy vd x0 y0 x1 y1=true)(h1:lo*enD px py vx vy vd x0 y0 x1 y1<=enN px py vx vy vd x0 y0 x1 y1)(h2:enN px py vx vy vd x0 y0 x1 y1<=hi*enD px py vx vy vd x0 y0 x1 y1):ef px py vx vy vd lo hi x0 y0 x1 y1=true:=by
 obtain⟨hg,he⟩:=rO_t hr
 have hz:=(dM hg).2
 obtain⟨⟨a1,a2⟩,hin⟩:=(tmE_f hz).1 he
 have hp:0<(tmS px py vx vy x0 y0 x1 y1).1.2:=(ib hz).1
 have k:=(tm_in hz hp a1 a2).1 hin
 unfold enN enD at h1 h2
 exact iB.2 ⟨h,hg,_,_,k.1,hp,(lw_le hp).2.1 h1,(lw_le hp).1.1 h2,k.2⟩
section
variable {W Hh:Int} {xs:List Int} {px py vx vy vd most:Int}
theorem mF (hH:1<=Hh)(hW:1<=W){c:Int×Int}(h:fsZ W Hh xs px py vx vy vd most=some c):jh W Hh xs c/\rOC px py vx vy vd c=true/\enC px py vx vy vd c<=most*edC px py vx vy vd c/\∀c',jh W Hh xs c'->rOC px py vx vy vd c'=true->enC px py vx vy vd c'<=most*edC px py vx vy vd c'->enC px py vx vy vd c*edC px py vx vy vd c'<=enC px py vx vy vd c'*edC px py vx vy vd c:=by
 obtain⟨h1,h2,h3⟩:=fs_some oW h
 obtain⟨q1,q2,q3⟩:=fsQ_rO h2
 refine⟨⟨(ny (by omega) (by omega)).1 h1,q1⟩,q2,q3,fun c' hc hr hm=>?_⟩
 have k:=h3 c' ((ny (by omega) (by omega)).2 hc.1) (by
  unfold fsQ
  rw[hc.2,hr,decide_eq_false (by omega)];rfl)
 rw[fj q2,fj hr] at k
 exact k
theorem fsZ_no (hH:1<=Hh)(hW:1<=W)(h:fsZ W Hh xs px py vx vy vd most=none):∀c',jh W Hh xs c'->rOC px py vx vy vd c'=true->¬enC px py vx vy vd c'<=most*edC px py vx vy vd c':=fun c' hc hr hm=>by
 have k:=(fs_none oW).1 h c' ((ny (by omega) (by omega)).2 hc.1)
 unfold fsQ at k
 rw[hc.2,hr,decide_eq_false (by omega)] at k
 cases k
theorem nD {x y:Int}{v:Int×Int×Int}{far:Int}{c:Int×Int}:gq x y v far c=true↔(0<=far/\far<=65536)/\rOC x y v.1 v.2.1 v.2.2 c=true/\enC x y v.1 v.2.1 v.2.2 c<far*edC x y v.1 v.2.1 v.2.2 c:=sbf_en
theorem jp {x y vx vy vd:Int}{c:Int×Int}(h:rOC x y vx vy vd c=true):0<edC x y vx vy vd c/\0<=enC x y vx vy vd c:=⟨(en_bd h).1.2.1,(en_bd h).1.1.1⟩
theorem o6 (hH:1<=Hh)(hW:1<=W){x y:Int}{v:Int×Int×Int}{far:Int}{c:Int×Int}(h:fsZ W Hh xs x y v.1 v.2.1 v.2.2 most=some c)(hf:far*edC x y v.1 v.2.1 v.2.2 c<=enC x y v.1 v.2.1 v.2.2 c)(hm:far<=most):∀c',jh W Hh xs c'->gq x y v far c'=false:=fun c' hc=>by
 rw[<-Bool.not_eq_true]
 intro hb
 obtain⟨h0,hr,hlt⟩:=nD.1 hb
 obtain⟨-,hrc,-,hmin⟩:=mF hH hW h
 have p:=jp hrc
 have p':=jp hr
 have k:=hmin c' hc hr (by have:=Int.mul_le_mul_of_nonneg_right hm (show 0<=edC x y v.1 v.2.1 v.2.2 c' by omega);omega)
 have a1:=Int.mul_lt_mul_of_pos_right hlt p.1
 have a2:=Int.mul_le_mul_of_nonneg_right hf (show 0<=edC x y v.1 v.2.1 v.2.2 c' by omega)
 have e:far*edC x y v.1 v.2.1 v.2.2 c'*edC x y v.1 v.2.1 v.2.2 c=far*edC x y v.1 v.2.1 v.2.2 c*edC x y v.1 v.2.1 v.2.2 c':=by grind
 omega
theorem mea_none (hH:1<=Hh)(hW:1<=W){x y h m g:Int}(hg:1<=g/\g<=32)(hf:fsZ W Hh xs x y (aG h m).1 (aG h m).2.1 (aG h m).2.2 1024=none):PlauP W Hh xs x y h g (m,-1):=by
 refine⟨fun c hc=>?_,fun k=>absurd rfl k⟩
 rw[<-Bool.not_eq_true]
 intro hb
 have e:aw (-1) g=1024-g:=if_pos rfl
 have hb':gq x y (aG h m) (1024-g) c=true:=by rw[<-e];exact hb
 obtain⟨h0,hr,hlt⟩:=nD.1 hb'
 have p:=jp hr
 refine fsZ_no hH hW hf c hc hr ?_
 have:=Int.mul_le_mul_of_nonneg_right (show 1024-g<=1024 by omega) (show 0<=edC x y (aG h m).1 (aG h m).2.1 (aG h m).2.2 c by omega)
 omega
theorem mea_some (hH:1<=Hh) (hW:1<=W) {x y h m g e z:Int}{c:Int×Int}(hg:1<=g/\g<=32) (hf:fsZ W Hh xs x y (aG h m).1 (aG h m).2.1 (aG h m).2.2 1024=some c) (he:1-g<=e/\e<=g)
  (hz:(0<=enC x y (aG h m).1 (aG h m).2.1 (aG h m).2.2 c/edC x y (aG h m).1 (aG h m).2.1 (aG h m).2.2 c+e/\z=enC x y (aG h m).1 (aG h m).2.1 (aG h m).2.2 c/edC x y (aG h m).1 (aG h m).2.1 (aG h m).2.2 c+e)\/(enC x y (aG h m).1 (aG h m).2.1 (aG h m).2.2 c/edC x y (aG h m).1 (aG h m).2.1 (aG h m).2.2 c+e<0/\z=0)) :
  (z<=1024->PlauP W Hh xs x y h g (m,z))/\(1024<z->PlauP W Hh xs x y h g (m,-1)):=by
 obtain⟨hw,hr,hle,-⟩:=mF hH hW hf
 have p:=jp hr
 have hb:=read_bd p.1 p.2 he hz
 have hz0:0<=z:=by omega
 constructor
 ·intro h1
  have hn1:¬z = -1:=by omega
  have e1:aw ((m,z).2) g=z-g:=if_neg hn1
  refine⟨fun c' hc=>?_,fun _=>⟨c,hw,?_⟩⟩
  ·rw[e1]
   exact o6 hH hW hf hb.1 (by omega) c' hc
  show sqMe x y (aG h m) (ei z g) (z+g) c=true
  have hl:0<=ei z g/\ei z g<=z+g/\z+g<=65536:=by unfold ei;split<;>omega
  have hl2:ei z g*edC x y (aG h m).1 (aG h m).2.1 (aG h m).2.2 c<=enC x y (aG h m).1 (aG h m).2.1 (aG h m).2.2 c:=by
   unfold ei;split
   ·exact hb.1
   omega
  exact sme_en hl hr hl2 (by have:=hb.2;exact Int.le_of_lt this)
 intro h1
 have e1:aw ((m,(-1:Int)).2) g=1024-g:=if_pos rfl
 refine⟨fun c' hc=>?_,fun k=>absurd rfl k⟩
 rw[e1]
 refine o6 hH hW hf ?_ (by omega) c' hc
 have:=Int.mul_le_mul_of_nonneg_right (show 1024-g<=z-g by omega) (show 0<=edC x y (aG h m).1 (aG h m).2.1 (aG h m).2.2 c by omega)
 omega
end
def ge (W Hh:Int) (xs:List Int) (x y:Int):Bool:=bQ W Hh xs&&(decide (0<=x)&&(decide (x<=64*W)&&(decide (0<=y)&&decide (y<=64*Hh))))
def dN (W Hh:Int) (xs:List Int) (x y h:Int):Bool:=ge W Hh xs x y&&dd x y h
theorem iC {W Hh:Int}{xs:List Int}{x y:Int}:ge W Hh xs x y=true↔bQ W Hh xs=true/\(0<=x/\x<=64*W)/\0<=y/\y<=64*Hh:=by
 unfold ge;simp only[Bool.and_eq_true,decide_eq_true_eq]
 exact⟨fun ⟨a,b,c,d,e⟩=>⟨a,⟨b,c⟩,d,e⟩,fun ⟨a,⟨b,c⟩,d,e⟩=>⟨a,b,c,d,e⟩⟩
theorem mkV_t (n:Int):mkV true n=n:=rfl
theorem clgb {n lo hi:Int}(h:lo<=hi):lo<=af n lo hi/\af n lo hi<=hi:=by unfold af;split<;>split at*<;> omega
def fsB (W Hh:Int) (xs:List Int) (x y h m:Int):Option (Int×Int):=fsZ W Hh xs x y (aG h m).1 (aG h m).2.1 (aG h m).2.2 1024
def fbN (W Hh:Int) (xs:List Int) (x y h m:Int):Int:=fsN x y (aG h m).1 (aG h m).2.1 (aG h m).2.2 (fsB W Hh xs x y h m)
def fbD (W Hh:Int) (xs:List Int) (x y h m:Int):Int:=fsDn x y (aG h m).1 (aG h m).2.1 (aG h m).2.2 (fsB W Hh xs x y h m)
theorem fb_bd {W Hh:Int}{xs:List Int}{x y h m:Int}{c:Int×Int}(hb:fsB W Hh xs x y h m=some c):(0<=fbN W Hh xs x y h m/\fbN W Hh xs x y h m<=562949953421312)/\0<fbD W Hh xs x y h m/\fbD W Hh xs x y h m<=67108864:=by
 unfold fbN fbD
 rw[hb]
 exact fsA_bd hb
def zzI (W Hh:Int) (xs:List Int) (x y h g m e:Int):Int:=if 0<fbN W Hh xs x y h m/fbD W Hh xs x y h m+af e (1-g) g then fbN W Hh xs x y h m/fbD W Hh xs x y h m+af e (1-g) g else 0
def dQ (W Hh:Int) (xs:List Int) (x y h g m e:Int):Int:=if (fsB W Hh xs x y h m).isSome=true then (if 1024<zzI W Hh xs x y h g m e then -1 else zzI W Hh xs x y h g m e) else -1
def dj (m:Int):Bool:=decide (0<=m)&&decide (m<=255)
def dO (m:Int):Int:=if dj m=true then 0 else 2
def iD (W Hh:Int) (xs:List Int) (x y h g m e:Int):Int:=if dj m=true then dQ W Hh xs x y h g m e else 0
theorem mea_plau {W Hh:Int}{xs:List Int}{x y h g m e:Int}(hH:1<=Hh)(hW:1<=W)(hg:1<=g/\g<=32):PlauP W Hh xs x y h g (m,dQ W Hh xs x y h g m e) /\ -1<=dQ W Hh xs x y h g m e/\dQ W Hh xs x y h g m e<=1024:=by
 cases hf:fsB W Hh xs x y h m with
 | none =>
  have ez:dQ W Hh xs x y h g m e = -1:=by unfold dQ;rw[hf];rfl
  rw[ez]
  exact⟨mea_none hH hW hg hf,by omega,by omega⟩
 | some c =>
  have hb:=fb_bd hf
  have hr:=(mF hH hW hf).2.1
  have eN:fbN W Hh xs x y h m=enC x y (aG h m).1 (aG h m).2.1 (aG h m).2.2 c:=by unfold fbN;rw[hf];show (fsD _ _ _ _ _ c).1=_;rw[fj hr]
  have eD:fbD W Hh xs x y h m=edC x y (aG h m).1 (aG h m).2.1 (aG h m).2.2 c:=by unfold fbD;rw[hf];show (fsD _ _ _ _ _ c).2=_;rw[fj hr]
  have hc:=clgb (n:=e) (lo:=1-g) (hi:=g) (by omega)
  have k:=mea_some (z:=zzI W Hh xs x y h g m e) hH hW hg hf hc (by
   rw[<-eN,<-eD]
   unfold zzI
   split<;>omega)
  have hz0:0<=zzI W Hh xs x y h g m e:=by unfold zzI;split<;>omega
  unfold dQ
  rw[hf,if_pos (show (some c).isSome=true from rfl)]
  split
  ·rename_i h1;exact⟨k.2 h1,by omega,by omega⟩
  rename_i h1;exact⟨k.1 (by omega),by omega,by omega⟩
def swpB (W Hh:Int) (xs:List Int) (x y h g:Int) (mks ers:List Int):Nat->List (Int×Int)
 |0=>[]
 |i+1=>swpB W Hh xs x y h g mks ers i++[(gi mks i,dQ W Hh xs x y h g (gi mks i) (gi ers i))]
def gO (mks:List Int):Int:=if 32<mks.length then 6 else if mks.all dj=true then 0 else 2
def cU (W Hh:Int) (xs:List Int) (x y h g:Int) (mks ers:List Int):List (Int×Int):=if gO mks=0 then swpB W Hh xs x y h g mks ers mks.length else []
theorem gi_out {l:List Int}{i:Nat}(h:l.length<=i):gi l i=0:=by unfold gi;rw[List.getD_eq_getElem?_getD,List.getElem?_eq_none h];rfl
theorem kZ {W Hh:Int}{xs:List Int}{x y h g:Int}{mks ers:List Int}:∀i:Nat,(swpB W Hh xs x y h g mks ers i).length=i
 |0=>rfl
 |i+1=>by rw[swpB,List.length_append,kZ i];rfl
theorem swpE_6 {mks:List Int}(h:32<mks.length):gO mks=6:=if_pos h
theorem swpE_2 {mks:List Int}(h:¬32<mks.length){i:Nat}(hi:i<mks.length)(k:dj (gi mks i)=false):gO mks=2:=by
 unfold gO
 rw[if_neg h,if_neg]
 intro ha
 rw[fM hi,List.all_eq_true.1 ha _ (List.getElem_mem hi)] at k
 cases k
theorem swpE_0 {mks:List Int}(h:¬32<mks.length)(k:∀j:Nat,j<mks.length->dj (gi mks j)=true):gO mks=0:=by
 unfold gO
 rw[if_neg h,if_pos]
 refine List.all_eq_true.2 fun e he=>?_
 obtain⟨j,hj,rfl⟩:=List.mem_iff_getElem.1 he
 rw[<-fM hj];exact k j hj
theorem mG {W Hh:Int}{xs:List Int}{x y h g:Int}{mks ers:List Int}(k:¬gO mks=0):cU W Hh xs x y h g mks ers=[]:=if_neg k
theorem o7 {W Hh:Int}{xs:List Int}{x y h g:Int}{mks ers:List Int}(k:gO mks=0):cU W Hh xs x y h g mks ers=swpB W Hh xs x y h g mks ers mks.length:=if_pos k
theorem nE {W Hh:Int}{xs:List Int}{x y h g:Int}{mks ers:List Int}{e:Int×Int}:∀{i:Nat},e∈swpB W Hh xs x y h g mks ers i->∃j:Nat,j<i/\e=(gi mks j,dQ W Hh xs x y h g (gi mks j) (gi ers j))
 |0,h=>by cases h
 | i+1,hm=>by
  rw[swpB,List.mem_append,List.mem_singleton] at hm
  rcases hm with hm|hm
  ·obtain⟨j,h1,h2⟩:=nE hm
   exact⟨j,by omega,h2⟩
  exact⟨i,by omega,hm⟩
def hsgB (f c h:Int):Bool:=cA f c&&decide ((((IntKind.i64.wrap (h-f)%256).toNat:Nat):Int)<c)
def hbB (x y h:Int) (b:T6):Bool:=bxB b.1 b.2.1 b.2.2.1 b.2.2.2.1 b.2.2.2.2.1 b.2.2.2.2.2&&(decide (b.1<=x)&&(decide (x<=b.2.2.1)&&(decide (b.2.1<=y)&&(decide (y<=b.2.2.2.1)&&hsgB b.2.2.2.2.1 b.2.2.2.2.2 h))))
def covB (l:List T6) (x y h:Int):Bool:=l.any (hbB x y h)
theorem mee_conv {px qx py vx vy x0 y0 x1 y1 n m n' m' a T vd hi:Int}(hT:0<T) (ha:0<=a/\a<=T) (hn:0<=n) (hm:0<m) (hn':0<=n') (hm':0<m') (hb:n*vd<=hi*m) (hb':n'*vd<=hi*m') (h:dc px py vx vy x0 y0 x1 y1 n m) (h':dc qx py vx vy x0 y0 x1 y1 n' m')
  {rx:Int} (hx:T*rx=(T-a)*px+a*qx):∃k l:Int,0<=k/\0<l/\k*vd<=hi*l/\dc rx py vx vy x0 y0 x1 y1 k l:=by
 obtain⟨⟨a1,a2⟩,a3,a4⟩:=h
 obtain⟨⟨b1,b2⟩,b3,b4⟩:=h'
 -- the point (T-a)*(n/m) + a*(n'/m') over T
 have hTa:0<=T-a:=by omega
 have A:0<=(T-a)*m':=Int.mul_nonneg hTa (by omega)
 have B:0<=a*m:=Int.mul_nonneg ha.1 (by omega)
 have Tmm:0<T*m*m':=Int.mul_pos (Int.mul_pos hT hm) hm'
 refine⟨(T-a)*m'*n+a*m*n',T*m*m',by have:=Int.mul_nonneg A hn;have:=Int.mul_nonneg B hn';omega,Tmm,?_,⟨?_,?_⟩,?_,?_⟩
 ·have e1:((T-a)*m'*n+a*m*n')*vd=(T-a)*m'*(n*vd)+a*m*(n'*vd):=by grind
  have e2:hi*(T*m*m')=(T-a)*m'*(hi*m)+a*m*(hi*m'):=by grind
  rw[e1,e2]
  have p1:=Int.mul_le_mul_of_nonneg_left hb A
  have p2:=Int.mul_le_mul_of_nonneg_left hb' B
  omega
 ·have p1:=Int.mul_le_mul_of_nonneg_left a1 A
  have p2:=Int.mul_le_mul_of_nonneg_left b1 B
  have e:T*m*m'*rx+((T-a)*m'*n+a*m*n')*vx=(T-a)*m'*(m*px+n*vx)+a*m*(m'*qx+n'*vx):=by grind
  have e2:T*m*m'*x0=(T-a)*m'*(m*x0)+a*m*(m'*x0):=by grind
  omega
 ·have p1:=Int.mul_le_mul_of_nonneg_left a2 A
  have p2:=Int.mul_le_mul_of_nonneg_left b2 B
  have e:T*m*m'*rx+((T-a)*m'*n+a*m*n')*vx=(T-a)*m'*(m*px+n*vx)+a*m*(m'*qx+n'*vx):=by grind
  have e2:T*m*m'*x1=(T-a)*m'*(m*x1)+a*m*(m'*x1):=by grind
  omega
 ·have p1:=Int.mul_le_mul_of_nonneg_left a3 A
  have p2:=Int.mul_le_mul_of_nonneg_left b3 B
  have e:T*m*m'*py+((T-a)*m'*n+a*m*n')*vy=(T-a)*m'*(m*py+n*vy)+a*m*(m'*py+n'*vy):=by grind
  have e2:T*m*m'*y0=(T-a)*m'*(m*y0)+a*m*(m'*y0):=by grind
  omega
 have p1:=Int.mul_le_mul_of_nonneg_left a4 A
 have p2:=Int.mul_le_mul_of_nonneg_left b4 B
 have e:T*m*m'*py+((T-a)*m'*n+a*m*n')*vy=(T-a)*m'*(m*py+n*vy)+a*m*(m'*py+n'*vy):=by grind
 have e2:T*m*m'*y1=(T-a)*m'*(m*y1)+a*m*(m'*y1):=by grind
 omega

def iZ (px py vx vy vd hi x0 y0 x1 y1:Int):Prop:=∃n m:Int,0<=n/\0<m/\n*vd<=hi*m/\dc px py vx vy x0 y0 x1 y1 n m
theorem nF {px py vx vy vd hi x0 y0 x1 y1:Int}:iZ px py vx vy vd hi x0 y0 x1 y1↔iZ py px vy vx vd hi y0 x0 y1 x1 :=
 ⟨fun ⟨n,m,a,b,c,d⟩=>⟨n,m,a,b,c,kQ.1 d⟩,fun ⟨n,m,a,b,c,d⟩=>⟨n,m,a,b,c,kQ.2 d⟩⟩
theorem nG {ax bx py vx vy vd hi x0 y0 x1 y1 rx:Int}(hr:ax<=rx/\rx<=bx)(h:iZ ax py vx vy vd hi x0 y0 x1 y1)(k:iZ bx py vx vy vd hi x0 y0 x1 y1):iZ rx py vx vy vd hi x0 y0 x1 y1:=by
 by_cases e:ax=bx
 ·rw[show rx=ax by omega];exact h
 obtain⟨n,m,h1,h2,h3,h4⟩:=h
 obtain⟨n',m',k1,k2,k3,k4⟩:=k
 exact mee_conv (T:=bx-ax) (a:=rx-ax) (by omega) (by omega) h1 h2 k1 k2 h3 k3 h4 k4 (by grind)
theorem mee_box4 {ax ay bx by' vx vy vd hi x0 y0 x1 y1 rx ry:Int}(hx:ax<=rx/\rx<=bx)(hy:ay<=ry/\ry<=by')(h1:iZ ax ay vx vy vd hi x0 y0 x1 y1)(h2:iZ bx ay vx vy vd hi x0 y0 x1 y1)(h3:iZ ax by' vx vy vd hi x0 y0 x1 y1)(h4:iZ bx by' vx vy vd hi x0 y0 x1 y1):iZ rx ry vx vy vd hi x0 y0 x1 y1 :=
 nF.1 (nG hy (nF.1 (nG hx h1 h2)) (nF.1 (nG hx h3 h4)))
theorem jF {px py vx vy vd hi x0 y0 x1 y1:Int}(h:ef px py vx vy vd 0 hi x0 y0 x1 y1=true):(0<=hi/\hi<=65536)/\thG px py vx vy vd x0 y0 x1 y1=true/\iZ px py vx vy vd hi x0 y0 x1 y1:=by
 obtain⟨h1,h2,n,m,k1,k2,-,k4,k5⟩:=iB.1 h
 exact⟨⟨h1.2.1,h1.2.2⟩,h2,n,m,k1,k2,k4,k5⟩
theorem rD {px py vx vy vd hi x0 y0 x1 y1:Int}(h1:0<=hi/\hi<=65536)(h2:thG px py vx vy vd x0 y0 x1 y1=true)(h:iZ px py vx vy vd hi x0 y0 x1 y1):ef px py vx vy vd 0 hi x0 y0 x1 y1=true:=by
 obtain⟨n,m,k1,k2,k4,k5⟩:=h
 have hv:=dM h2
 exact iB.2 ⟨⟨by omega,h1.1,h1.2⟩,h2,n,m,k1,k2,by rw[Int.zero_mul];exact Int.mul_nonneg k1 (by omega),k4,k5⟩
def hcB (op:Bool) (x y vx vy vd far cx cy:Int):Bool:=bif op then dm x y vx vy vd far (cx*64) (cy*64) ((cx+1)*64) ((cy+1)*64) else ef x y vx vy vd 0 far (cx*64) (cy*64) ((cx+1)*64) ((cy+1)*64)
def h4B (op:Bool) (x0 y0 x1 y1 vx vy vd far cx cy:Int):Bool:=hcB op x0 y0 vx vy vd far cx cy&&(hcB op x1 y0 vx vy vd far cx cy&&(hcB op x0 y1 vx vy vd far cx cy&&hcB op x1 y1 vx vy vd far cx cy))
def ic (W Hh:Int) (xs:List Int) (op:Bool) (x0 y0 x1 y1 vx vy vd far:Int) (c:Int×Int):Bool:=(atI W Hh xs c.1 c.2==2)&&h4B op x0 y0 x1 y1 vx vy vd far c.1 c.2
def fl (W Hh:Int) (xs:List Int) (x0 y0 x1 y1 vx vy vd far:Int) (op:Bool):Bool:=!decide (far<0)&&(trL x0 y0 vx vy vd 0 far).any (ic W Hh xs op x0 y0 x1 y1 vx vy vd far)
def frC (W Hh:Int) (xs:List Int) (c:Int×Int):Bool:=atI W Hh xs c.1 c.2==1
def empB (W Hh:Int) (xs:List Int) (x0 y0 x1 y1 vx vy vd lo hi:Int):Bool:=(cZ x0 y0 x1 y1 vx vy vd lo hi).all (frC W Hh xs)
def refB (W Hh:Int) (xs:List Int) (x0 y0 x1 y1 h m r g:Int):Bool :=
 bif r == -1 then fl W Hh xs x0 y0 x1 y1 (aG h m).1 (aG h m).2.1 (aG h m).2.2 (1024-g) false
 else fl W Hh xs x0 y0 x1 y1 (aG h m).1 (aG h m).2.1 (aG h m).2.2 (r-g) true||empB W Hh xs x0 y0 x1 y1 (aG h m).1 (aG h m).2.1 (aG h m).2.2 (ei r g) (r+g)
def gf (x0 y0 x1 y1:Int):Bool:=btw x0 (-1048576) 1048576&&(btw y0 (-1048576) 1048576&&(btw x1 (-1048576) 1048576&&(btw y1 (-1048576) 1048576&&(btw (x1-x0) 0 1024&&btw (y1-y0) 0 1024))))
def badB (W Hh:Int) (xs:List Int) (x0 y0 x1 y1 h:Int) (s:List (Int×Int)) (g:Int):Bool:=gf x0 y0 x1 y1&&s.any fun e=>refB W Hh xs x0 y0 x1 y1 h e.1 e.2 g
theorem rE {x0 y0 x1 y1:Int}:gf x0 y0 x1 y1=true↔((-1048576<=x0/\x0<=x1/\x1<=1048576) /\ -1048576<=y0/\y0<=y1/\y1<=1048576)/\x1-x0<=1024/\y1-y0<=1024:=by
 unfold gf
 simp only[Bool.and_eq_true,aZ]
 omega
def ji (W Hh:Int) (xs:List Int) (x y h:Int) (g:Int) (e:Int×Int):Prop :=
 (¬e.2 = -1->(∀c,atI W Hh xs c.1 c.2=2->gq x y (aG h e.1) (e.2-g) c=false)/\∃c:Int×Int,((-1024<=c.1/\c.1<=1024) /\ -1024<=c.2/\c.2<=1024)/\atI W Hh xs c.1 c.2=2/\sqMe x y (aG h e.1) (ei e.2 g) (e.2+g) c=true) /\
 (e.2 = -1->∀c,atI W Hh xs c.1 c.2=2->sqMe x y (aG h e.1) 0 (1024-g) c=false)
theorem bel_two {W H x y:Int}{ks xs:List Int}(h:fk ks xs)(k:atI W H ks x y=2):atI W H xs x y=2:=by
 unfold atI at *
 split at k
 ·rename_i hi
  rw[if_pos hi]
  rcases h.2 (y*W+x).toNat with q|q
  ·rw[q] at k;cases k
  rw[<-q];exact k
 rename_i hi
 rw[if_neg hi]
theorem hcB_sq {op:Bool}{x y vx vy vd far cx cy:Int}:hcB op x y vx vy vd far cx cy=bif op then gq x y (vx,vy,vd) far (cx,cy) else sqMe x y (vx,vy,vd) 0 far (cx,cy):=by
 unfold hcB gq sqMe
 rw[show (cx+1)*64=cx*64+64 by omega,show (cy+1)*64=cy*64+64 by omega]
theorem h4_pt {op:Bool}{x0 y0 x1 y1 x y vx vy vd far cx cy:Int}(hx:x0<=x/\x<=x1)(hy:y0<=y/\y<=y1)(h:h4B op x0 y0 x1 y1 vx vy vd far cx cy=true):hcB op x y vx vy vd far cx cy=true:=by
 unfold h4B at h
 simp only[Bool.and_eq_true] at h
 obtain⟨k1,k2,k3,k4⟩:=h
 unfold hcB at *
 cases op with
 | true =>
  simp only[cond_true] at *
  have p1:=eh k1
  have p2:=eh k2
  have p3:=eh k3
  have p4:=eh k4
  have hg:=cl.1 p1.2.1
  have q1:=cO.1 hg.1
  have q4:=cO.1 (cl.1 p4.2.1).1
  exact kY p1.1 (cl.2 ⟨cO.2 (by omega),hg.2.1,hg.2.2⟩) (bef_box hx hy p1.2.2 p2.2.2 p3.2.2 p4.2.2)
 | false =>
  simp only[cond_false] at *
  have p1:=jF k1
  have p2:=jF k2
  have p3:=jF k3
  have p4:=jF k4
  have hg:=cl.1 p1.2.1
  have q1:=cO.1 hg.1
  have q4:=cO.1 (cl.1 p4.2.1).1
  exact rD p1.1 (cl.2 ⟨cO.2 (by omega),hg.2.1,hg.2.2⟩) (mee_box4 hx hy p1.2.2 p2.2.2 p3.2.2 p4.2.2)
theorem hid_f {W Hh:Int}{ks xs:List Int}{x0 y0 x1 y1 x y far:Int}{v:Int×Int×Int}{op:Bool}(hk:fk ks xs)(hx:x0<=x/\x<=x1)(hy:y0<=y/\y<=y1)(h:∀c,atI W Hh xs c.1 c.2=2->(bif op then gq x y v far c else sqMe x y v 0 far c)=false):fl W Hh ks x0 y0 x1 y1 v.1 v.2.1 v.2.2 far op=false:=by
 rw[<-Bool.not_eq_true]
 intro hb
 unfold fl at hb
 rw[Bool.and_eq_true,List.any_eq_true] at hb
 obtain⟨-,c,-,hc⟩:=hb
 unfold ic at hc
 rw[Bool.and_eq_true,beq_iff_eq] at hc
 have k:=h4_pt hx hy hc.2
 rw[hcB_sq] at k
 have q:=h c (bel_two hk hc.1)
 rw[show (bif op then gq x y v far c else sqMe x y v 0 far c)=true from k] at q
 cases q
theorem ref_f {W Hh:Int}{ks xs:List Int}{x0 y0 x1 y1 x y h g:Int}{e:Int×Int}(hk:fk ks xs)(hx:x0<=x/\x<=x1)(hy:y0<=y/\y<=y1)(ha:gf x0 y0 x1 y1=true)(hg:1<=g/\g<=32)(he:gJ e=true)(hP:ji W Hh xs x y h g e):refB W Hh ks x0 y0 x1 y1 h e.1 e.2 g=false:=by
 have hbe:=gK.1 he
 unfold refB
 cases hr:(e.2 == -1) with
 | true =>
  have hr1:e.2 = -1:=by simpa using hr
  exact hid_f hk hx hy (hP.2 hr1)
 | false =>
  have hr1:¬e.2 = -1:=by simpa using hr
  obtain⟨h1,c,hc1,hc2,hc3⟩:=hP.1 hr1
  rw[cond_false,Bool.or_eq_false_iff]
  refine⟨hid_f hk hx hy h1,?_⟩
  rw[<-Bool.not_eq_true]
  intro hb
  unfold empB at hb
  rw[List.all_eq_true] at hb
  have had:=rE.1 ha
  have hl0:0<=ei e.2 g/\ei e.2 g<=e.2+g/\e.2+g<=2048:=by unfold ei;split<;>omega
  obtain⟨_,h2,n,m',k1,k2,k3,k4,k5⟩:=iB.1 hc3
  have hv:=(cl.1 h2).2.1
  have hE:=(sptE_0 (x0:=x0) (y0:=y0) (x1:=x1) (y1:=y1) (kL.2 (by omega)) hv hl0 (by omega)).2
  have hm:c∈cZ x0 y0 x1 y1 (aG h e.1).1 (aG h e.1).2.1 (aG h e.1).2.2 (ei e.2 g) (e.2+g):=by
   rw[hE]
   refine(kR (by omega) (by omega) hv hl0).2 ?_
   unfold cH fg
   simp only[Bool.and_eq_true]
   exact⟨⟨bZ.2 (by omega),bZ.2 (by omega),bZ.2 (by omega)⟩,iB.2 ⟨by omega,cl.2 ⟨cO.2 (by omega),hv,bZ.2 (by omega)⟩,mee_box hx hy ⟨n,m',k1,k2,k3,k4,k5⟩⟩⟩
  have q:=hb c hm
  unfold frC at q
  have q:=rz hk (show atI W Hh ks c.1 c.2=1 by simpa using q)
  rw[q] at hc2;cases hc2
theorem bad_f {W Hh:Int}{ks xs:List Int}{x0 y0 x1 y1 x y h g:Int}{s:List (Int×Int)}(hk:fk ks xs)(hx:x0<=x/\x<=x1)(hy:y0<=y/\y<=y1)(hg:1<=g/\g<=32)(hs:∀e∈s,gJ e=true)(hP:∀e∈s,ji W Hh xs x y h g e):badB W Hh ks x0 y0 x1 y1 h s g=false:=by
 unfold badB
 cases ha:gf x0 y0 x1 y1 with
 |false=>rfl
 | true =>
  rw[Bool.true_and,List.any_eq_false]
  intro e he
  rw[ref_f hk hx hy ha hg (hs e he) (hP e he)]
  decide
def ldN (p:Nat->Bool):Nat->Nat
 |0=>0
 |n+1=>if ldN p n=n/\p n=true then n+1 else ldN p n
def tlN (p:Nat->Bool):Nat->Nat
 |0=>0
 |n+1=>if p n=true then tlN p n else n+1
theorem ldN_le (p:Nat->Bool):∀n,ldN p n<=n
 |0=>Nat.le_refl _
 |n+1=>by have:=ldN_le p n;unfold ldN;split<;>omega
theorem o8 (p:Nat->Bool):∀n k,k<ldN p n->p k=true
 |0,k,h=>by unfold ldN at h;omega
 | n+1,k,h=>by
  unfold ldN at h
  split at h
  ·rename_i q
   rcases Nat.lt_or_ge k n with hk|hk
   ·exact o8 p n k (by omega)
   obtain rfl:k=n:=by omega
   exact q.2
  exact o8 p n k h
theorem og {p:Nat->Bool}{i:Nat}:∀{n:Nat},(∀k,k<i->p k=true)->i<=n->(i=n\/p i=false)->ldN p n=i
 |0,_,h,_=>by unfold ldN;omega
 | n+1,h1,h2,h3=>by
  unfold ldN
  rcases Nat.lt_or_ge i (n+1) with h|h
  ·have hp:p i=false:=h3.resolve_left (by omega)
   have e:=og (n:=n) h1 (by omega) (.inr hp)
   rw[e,if_neg]
   rintro⟨rfl,q⟩
   rw[hp] at q;cases q
  obtain rfl:i=n+1:=by omega
  have e:=og (p:=p) (i:=n) (n:=n) (fun k hk=>h1 k (by omega)) (Nat.le_refl _) (.inl rfl)
  rw[e,if_pos ⟨rfl,h1 n (by omega)⟩]
theorem ldN_n {p:Nat->Bool}{n k:Nat}(hk:k<n)(hp:p k=false):ldN p n<=k:=by
 rcases Nat.lt_or_ge k (ldN p n) with h|h
 ·have:=o8 p n k h;rw[hp] at this;cases this
 exact h
theorem ldN_at {p:Nat->Bool}:∀{n:Nat},ldN p n<n->p (ldN p n)=false
 | n+1,h=>by
  unfold ldN at h ⊢
  split at h
  ·omega
  rename_i hn
  rw[if_neg hn]
  rcases Nat.lt_or_ge (ldN p n) n with q|q
  ·exact ldN_at q
  have e:ldN p n=n:=by have:=ldN_le p n;omega
  rw[e] at hn ⊢
  rw[<-Bool.not_eq_true]
  exact fun k=>hn ⟨rfl,k⟩
theorem tlN_le (p:Nat->Bool):∀n,tlN p n<=n
 |0=>Nat.le_refl _
 |n+1=>by have:=tlN_le p n;unfold tlN;split<;>omega
theorem tlN_lt {p:Nat->Bool}{k:Nat}(hp:p k=false):∀{n:Nat},k<n->k<tlN p n
 | n+1,h=>by
  unfold tlN
  split
  ·rename_i q
   refine tlN_lt hp ?_
   rcases Nat.lt_or_ge k n with h'|h'
   ·exact h'
   obtain rfl:k=n:=by omega
   rw[hp] at q;cases q
  exact h
theorem tlN_eq {p:Nat->Bool}{j:Nat}(hj:0<j/\p (j-1)=false):∀{n:Nat},j<=n->(∀k,j<=k->k<n->p k=true)->tlN p n=j
 |0,h,_=>by omega
 | n+1,h,h1=>by
  unfold tlN
  rcases Nat.lt_or_ge n j with q|q
  ·obtain rfl:j=n+1:=by omega
   rw[if_neg (by rw[show p n=false from hj.2];decide)]
  rw[if_pos (h1 n q (by omega))]
  exact tlN_eq hj q (fun k a b=>h1 k a (by omega))
def tX0 (b:T6):Int:=if b.1<0 then 0 else b.1
def tY0 (b:T6):Int:=if b.2.1<0 then 0 else b.2.1
def tX1 (W:Int) (b:T6):Int:=if 64*W<b.2.2.1 then 64*W else b.2.2.1
def tY1 (Hh:Int) (b:T6):Int:=if 64*Hh<b.2.2.2.1 then 64*Hh else b.2.2.2.1
def tP (W Hh:Int) (xs:List Int) (b:T6) (s:List (Int×Int)) (g:Int) (k:Nat):Bool:=badB W Hh xs (tX0 b) (tY0 b) (tX1 W b) (tY1 Hh b) (gi (mkB b) k) s g
def tI (W Hh:Int) (xs:List Int) (b:T6) (s:List (Int×Int)) (g:Int):Nat:=ldN (tP W Hh xs b s g) (mkB b).length
def tJ (W Hh:Int) (xs:List Int) (b:T6) (s:List (Int×Int)) (g:Int):Nat:=tlN (tP W Hh xs b s g) (mkB b).length
def tOk (W Hh:Int) (xs:List Int) (b:T6) (s:List (Int×Int)) (g:Int):Bool:=!decide (tX1 W b<tX0 b)&&(!decide (tY1 Hh b<tY0 b)&&decide (tI W Hh xs b s g<(mkB b).length))
def tB (W Hh:Int) (xs:List Int) (b:T6) (s:List (Int×Int)) (g:Int):T6:=(tX0 b,tY0 b,tX1 W b,tY1 Hh b,gi (mkB b) (tI W Hh xs b s g),(((tJ W Hh xs b s g-tI W Hh xs b s g:Nat)):Int))
def InP (b:T6) (x y h:Int):Prop:=(b.1<=x/\x<=b.2.2.1)/\(b.2.1<=y/\y<=b.2.2.2.1)/\eq b.2.2.2.2.1 b.2.2.2.2.2 h
theorem mkB_n {b:T6}:(mkB b).length=b.2.2.2.2.2.toNat:=fy _ _
theorem inP_idx {b:T6}{x y h:Int}(hb:bA b=true)(hh:0<=h/\h<=255)(k:InP b x y h):∃j:Nat,j<(mkB b).length/\h=gi (mkB b) j:=by
 have ha:=bm.1 (bv.1 hb).2.2
 obtain⟨-,-,hi⟩:=k
 unfold eq at hi
 refine⟨((h-b.2.2.2.2.1)%256).toNat,by rw[mkB_n];omega,?_⟩
 rw[oe (by rw[mkB_n];omega)]
 omega
theorem in_cov {l:List T6}{x y h:Int}(hh:0<=h/\h<=255)(hS:∀b∈l,bA b=true)(k:∃b∈l,InP b x y h):covB l x y h=true/\CovP l x y h:=by
 obtain⟨b,hb,h1,h2,h3⟩:=k
 have hv:=hS b hb
 have hbx:=(bv.1 hv).2.2
 have ha:=bm.1 hbx
 constructor
 ·unfold covB
  rw[List.any_eq_true]
  refine⟨b,hb,?_⟩
  unfold hbB hsgB
  unfold eq at h3
  rw[show bxB b.1 b.2.1 b.2.2.1 b.2.2.2.1 b.2.2.2.2.1 b.2.2.2.2.2=true from hv,hbx,mc (by omega) (by omega)]
  simp only[Bool.true_and,Bool.and_eq_true,decide_eq_true_eq]
  omega
 obtain⟨j,hj,e⟩:=inP_idx hv hh ⟨h1,h2,h3⟩
 exact⟨b,hb,h1,h2,j,hj,e⟩
theorem tB_ok {W Hh:Int}{xs:List Int}{b:T6}{s:List (Int×Int)}{g:Int}(hW:1<=W/\W<=64)(hH:1<=Hh/\Hh<=64)(hb:bA b=true)(h:tOk W Hh xs b s g=true):bA (tB W Hh xs b s g)=true/\tI W Hh xs b s g<tJ W Hh xs b s g/\tJ W Hh xs b s g<=(mkB b).length:=by
 unfold tOk at h
 simp only[Bool.and_eq_true,Bool.not_eq_true',decide_eq_false_iff_not,decide_eq_true_eq] at h
 obtain⟨h1,h2,h3⟩:=h
 have hb6:=bv.1 hb
 have ha:=bm.1 hb6.2.2
 have hf:tP W Hh xs b s g (tI W Hh xs b s g)=false:=ldN_at h3
 have h4:tI W Hh xs b s g<tJ W Hh xs b s g:=tlN_lt hf h3
 have h5:tJ W Hh xs b s g<=(mkB b).length:=tlN_le _ _
 refine⟨?_,h4,h5⟩
 have hgi:=oe (b:=b) h3
 rw[mkB_n] at h3 h5
 unfold bA tB
 simp only
 refine bv.2 ⟨?_,?_,bm.2 ?_⟩
 ·have q1:(tX0 b=0/\b.1<0)\/(tX0 b=b.1/\0<=b.1):=by unfold tX0;split<;>omega
  have q2:(tX1 W b=64*W/\64*W<b.2.2.1)\/(tX1 W b=b.2.2.1/\b.2.2.1<=64*W):=by unfold tX1;split<;>omega
  omega
 ·have q1:(tY0 b=0/\b.2.1<0)\/(tY0 b=b.2.1/\0<=b.2.1):=by unfold tY0;split<;>omega
  have q2:(tY1 Hh b=64*Hh/\64*Hh<b.2.2.2.1)\/(tY1 Hh b=b.2.2.2.1/\b.2.2.2.1<=64*Hh):=by unfold tY1;split<;>omega
  omega
 rw[hgi];omega
theorem trim_keep {W Hh:Int}{ks xs:List Int}{b:T6}{s:List (Int×Int)}{x y h g:Int}(hk:fk ks xs)(hx:0<=x/\x<=64*W)(hy:0<=y/\y<=64*Hh)(hh:0<=h/\h<=255)(hb:bA b=true)(hg:1<=g/\g<=32)(hs:∀e∈s,gJ e=true)(hP:∀e∈s,ji W Hh xs x y h g e)(hi:InP b x y h):tOk W Hh ks b s g=true/\InP (tB W Hh ks b s g) x y h:=by
 obtain⟨j,hj,e⟩:=inP_idx hb hh hi
 obtain⟨h1,h2,h3⟩:=hi
 have x0:tX0 b<=x/\x<=tX1 W b:=by unfold tX0 tX1;split<;>split<;>omega
 have y0:tY0 b<=y/\y<=tY1 Hh b:=by unfold tY0 tY1;split<;>split<;>omega
 have hp:tP W Hh ks b s g j=false:=by
  unfold tP
  rw[<-e]
  exact bad_f hk x0 y0 hg hs hP
 have hI:tI W Hh ks b s g<=j:=ldN_n hj hp
 have hJ:j<tJ W Hh ks b s g:=tlN_lt hp hj
 have hJ2:tJ W Hh ks b s g<=(mkB b).length:=tlN_le _ _
 constructor
 ·unfold tOk
  rw[decide_eq_false (show ¬tX1 W b<tX0 b by omega),decide_eq_false (show ¬tY1 Hh b<tY0 b by omega),decide_eq_true (show tI W Hh ks b s g<(mkB b).length by omega)]
  rfl
 refine⟨x0,y0,?_⟩
 have ha:=bm.1 (bv.1 hb).2.2
 have g1:=oe hj
 have g2:=oe (b:=b) (j:=tI W Hh ks b s g) (by omega)
 rw[mkB_n] at hj hJ2
 unfold eq tB
 simp only
 rw[e,g1,g2]
 omega
def eZ (n u:Int):Int:=if n=1 then 0 else n*u
def iE (b:T6):Int:=eZ (b.2.2.1-b.1+1) 1
def i6 (b:T6):Int:=eZ (b.2.2.2.1-b.2.1+1) 1
def splC (b:T6):Int:=eZ b.2.2.2.2.2 8
def ej (b:T6):Int:=if bA b=true then (b.2.2.1-b.1+1)*(b.2.2.2.1-b.2.1+1)*b.2.2.2.2.2 else 0
def dB (b:T6):Bool:=!decide (ej b<2)
def d8 (b:T6):T6:=if i6 b<=iE b/\splC b<=iE b then (b.1,b.2.1,b.1+(b.2.2.1-b.1+1)/2-1,b.2.2.2.1,b.2.2.2.2.1,b.2.2.2.2.2)
 else if splC b<=i6 b then (b.1,b.2.1,b.2.2.1,b.2.1+(b.2.2.2.1-b.2.1+1)/2-1,b.2.2.2.2.1,b.2.2.2.2.2)
 else (b.1,b.2.1,b.2.2.1,b.2.2.2.1,b.2.2.2.2.1,b.2.2.2.2.2/2)
def d9 (b:T6):T6:=if i6 b<=iE b/\splC b<=iE b then (b.1+(b.2.2.1-b.1+1)/2,b.2.1,b.2.2.1,b.2.2.2.1,b.2.2.2.2.1,b.2.2.2.2.2)
 else if splC b<=i6 b then (b.1,b.2.1+(b.2.2.2.1-b.2.1+1)/2,b.2.2.1,b.2.2.2.1,b.2.2.2.2.1,b.2.2.2.2.2)
 else (b.1,b.2.1,b.2.2.1,b.2.2.2.1,(b.2.2.2.2.1+b.2.2.2.2.2/2)%256,b.2.2.2.2.2-b.2.2.2.2.2/2)
theorem splS_1 {n:Int}(h:1<=n):(eZ n 1=0/\n=1)\/(eZ n 1=n/\2<=n):=by unfold eZ;split<;>omega
theorem splS_8 {n:Int}(h:1<=n):(eZ n 8=0/\n=1)\/(eZ n 8=8*n/\2<=n):=by unfold eZ;split<;>omega
theorem spl_ok {b:T6}(hb:bA b=true)(h:dB b=true):bA (d8 b)=true/\bA (d9 b)=true/\∀x y h:Int,InP b x y h->InP (d8 b) x y h\/InP (d9 b) x y h:=by
 have hb6:=bv.1 hb
 have ha:=bm.1 hb6.2.2
 have hA:(iE b=0/\b.2.2.1-b.1+1=1)\/(iE b=b.2.2.1-b.1+1/\2<=b.2.2.1-b.1+1):=splS_1 (by omega)
 have hB:(i6 b=0/\b.2.2.2.1-b.2.1+1=1)\/(i6 b=b.2.2.2.1-b.2.1+1/\2<=b.2.2.2.1-b.2.1+1):=splS_1 (by omega)
 have hC:(splC b=0/\b.2.2.2.2.2=1)\/(splC b=8*b.2.2.2.2.2/\2<=b.2.2.2.2.2):=splS_8 (by omega)
 have hn:¬(b.2.2.1-b.1+1=1/\b.2.2.2.1-b.2.1+1=1/\b.2.2.2.2.2=1):=fun ⟨q1,q2,q3⟩=>by
  unfold dB ej at h
  rw[if_pos hb,q1,q2,q3] at h
  revert h;decide
 unfold d8 d9
 split
 ·rename_i hc
  refine⟨?_,?_,fun x y h ⟨k1,k2,k3⟩=>?_⟩
  ·exact bv.2 ⟨by simp only;omega,hb6.2.1,hb6.2.2⟩
  ·exact bv.2 ⟨by simp only;omega,hb6.2.1,hb6.2.2⟩
  rcases Int.lt_or_le x (b.1+(b.2.2.1-b.1+1)/2) with q|q
  ·exact .inl ⟨by simp only;omega,k2,k3⟩
  exact .inr ⟨by simp only;omega,k2,k3⟩
 split
 ·rename_i hc0 hc
  refine⟨?_,?_,fun x y h ⟨k1,k2,k3⟩=>?_⟩
  ·exact bv.2 ⟨hb6.1,by simp only;omega,hb6.2.2⟩
  ·exact bv.2 ⟨hb6.1,by simp only;omega,hb6.2.2⟩
  rcases Int.lt_or_le y (b.2.1+(b.2.2.2.1-b.2.1+1)/2) with q|q
  ·exact .inl ⟨k1,by simp only;omega,k3⟩
  exact .inr ⟨k1,by simp only;omega,k3⟩
 rename_i hc0 hc
 refine⟨?_,?_,fun x y h ⟨k1,k2,k3⟩=>?_⟩
 ·exact bv.2 ⟨hb6.1,hb6.2.1,bm.2 (by simp only;omega)⟩
 ·exact bv.2 ⟨hb6.1,hb6.2.1,bm.2 (by simp only;omega)⟩
 unfold eq at k3
 rcases Int.lt_or_le ((h-b.2.2.2.2.1)%256) (b.2.2.2.2.2/2) with q|q
 ·exact .inl ⟨k1,k2,by unfold eq;simp only;omega⟩
 exact .inr ⟨k1,k2,by unfold eq;simp only;omega⟩
def rfn (W Hh:Int) (xs:List Int) (s:List (Int×Int)) (g:Int):Nat->List T6->Nat->List T6->List T6
 |0,_,_,O=>O
 |_+1,[],_,O=>O
 |n+1,b::Q,k,O=>if tOk W Hh xs b s g=true then (if 0<k/\dB (tB W Hh xs b s g)=true then rfn W Hh xs s g n (Q++[d8 (tB W Hh xs b s g),d9 (tB W Hh xs b s g)]) (k-1) O else rfn W Hh xs s g n Q k (O++[tB W Hh xs b s g])) else rfn W Hh xs s g n Q k O
def bT (W Hh:Int) (xs:List Int) (l:List T6) (s:List (Int×Int)) (g:Int) (k:Nat):List T6:=rfn W Hh xs s g (l.length+2*k) l k []
theorem jG {W Hh:Int}{xs:List Int}{s:List (Int×Int)}{g:Int}(hW:1<=W/\W<=64)(hH:1<=Hh/\Hh<=64):∀(n:Nat) (Q:List T6) (k:Nat) (O:List T6),n=Q.length+2*k->(∀b∈Q,bA b=true)->(∀b∈O,bA b=true)->(∀b∈rfn W Hh xs s g n Q k O,bA b=true)/\(rfn W Hh xs s g n Q k O).length<=Q.length+k+O.length
 |0,Q,k,O,hn,hQ,hO=>⟨hO,by unfold rfn;omega⟩
 |n+1,[],k,O,hn,hQ,hO=>⟨hO,by unfold rfn;omega⟩
 | n + 1,b::Q,k,O,hn,hQ,hO=>by
  have hb:=hQ b (List.mem_cons_self ..)
  have hQ':∀b∈Q,bA b=true:=fun c hc=>hQ c (List.mem_cons_of_mem _ hc)
  rw[List.length_cons] at hn ⊢
  unfold rfn
  split
  ·rename_i ht
   have hb':=(tB_ok hW hH hb ht).1
   split
   ·rename_i h2
    have hs:=spl_ok hb' h2.2
    have ih:=jG hW hH (xs:=xs) (s:=s) (g:=g) n (Q++[d8 (tB W Hh xs b s g),d9 (tB W Hh xs b s g)]) (k-1) O (by rw[List.length_append];simp only[List.length_cons,List.length_nil];omega) (fun c hc=>by
     rcases List.mem_append.1 hc with hc|hc
     ·exact hQ' c hc
     rcases List.mem_cons.1 hc with hc|hc
     ·rw[hc];exact hs.1
     rw[List.mem_singleton.1 hc];exact hs.2.1) hO
    refine⟨ih.1,?_⟩
    have:=ih.2
    rw[List.length_append] at this
    simp only[List.length_cons,List.length_nil] at this
    omega
   have hO':∀c∈O++[tB W Hh xs b s g],bA c=true:=fun c hc=>by
    rcases List.mem_append.1 hc with hc|hc
    ·exact hO c hc
    rw[List.mem_singleton.1 hc];exact hb'
   rcases Nat.eq_zero_or_pos n with hn0|hn0
   ·subst hn0
    refine⟨hO',?_⟩
    unfold rfn
    rw[List.length_append];simp only[List.length_cons,List.length_nil];omega
   have ih:=jG hW hH (xs:=xs) (s:=s) (g:=g) n Q k (O++[tB W Hh xs b s g]) (by omega) hQ' hO'
   refine⟨ih.1,?_⟩
   have:=ih.2
   rw[List.length_append] at this
   simp only[List.length_cons,List.length_nil] at this
   omega
  have ih:=jG hW hH (xs:=xs) (s:=s) (g:=g) n Q k O (by omega) hQ' hO
  exact⟨ih.1,by have:=ih.2;omega⟩
theorem k7 {W Hh:Int}{ks xs:List Int}{s:List (Int×Int)}{x y h g:Int}(hW:1<=W/\W<=64)(hH:1<=Hh/\Hh<=64)(hk:fk ks xs)(hx:0<=x/\x<=64*W)(hy:0<=y/\y<=64*Hh)(hh:0<=h/\h<=255)(hg:1<=g/\g<=32)(hs:∀e∈s,gJ e=true)(hP:∀e∈s,ji W Hh xs x y h g e):∀(n:Nat) (Q:List T6) (k:Nat) (O:List T6),n=Q.length+2*k->(∀b∈Q,bA b=true)->((∃b∈Q,InP b x y h)\/∃b∈O,InP b x y h)->∃b∈rfn W Hh ks s g n Q k O,InP b x y h
 | 0,Q,k,O,hn,hQ,hI=>by
  have:Q=[]:=List.eq_nil_of_length_eq_zero (by omega)
  subst this
  exact hI.resolve_left (by simp)
 |n+1,[],k,O,hn,hQ,hI=>hI.resolve_left (by simp)
 | n + 1,b::Q,k,O,hn,hQ,hI=>by
  have hb:=hQ b (List.mem_cons_self ..)
  have hQ':∀b∈Q,bA b=true:=fun c hc=>hQ c (List.mem_cons_of_mem _ hc)
  rw[List.length_cons] at hn
  have keep:=fun hi=>trim_keep hk hx hy hh hb hg hs hP hi
  unfold rfn
  split
  ·rename_i ht
   have hb':=(tB_ok hW hH hb ht).1
   split
   ·rename_i h2
    have hs2:=spl_ok hb' h2.2
    refine k7 hW hH hk hx hy hh hg hs hP n (Q++[d8 (tB W Hh ks b s g),d9 (tB W Hh ks b s g)]) (k-1) O (by rw[List.length_append];simp only[List.length_cons,List.length_nil];omega) (fun c hc=>by
     rcases List.mem_append.1 hc with hc|hc
     ·exact hQ' c hc
     rcases List.mem_cons.1 hc with hc|hc
     ·rw[hc];exact hs2.1
     rw[List.mem_singleton.1 hc];exact hs2.2.1) ?_
    rcases hI with ⟨c,hc,hi⟩|hI
    ·rcases List.mem_cons.1 hc with hc|hc
     ·rw[hc] at hi
      rcases hs2.2.2 x y h (keep hi).2 with q|q
      ·exact .inl ⟨_,List.mem_append_right _ (List.mem_cons_self ..),q⟩
      exact .inl ⟨_,List.mem_append_right _ (List.mem_cons_of_mem _ (List.mem_singleton.2 rfl)),q⟩
     exact .inl ⟨c,List.mem_append_left _ hc,hi⟩
    exact .inr hI
   have hI':(∃b∈Q,InP b x y h)\/∃c∈O++[tB W Hh ks b s g],InP c x y h:=by
    rcases hI with ⟨c,hc,hi⟩|⟨c,hc,hi⟩
    ·rcases List.mem_cons.1 hc with hc|hc
     ·rw[hc] at hi
      exact .inr ⟨_,List.mem_append_right _ (List.mem_singleton.2 rfl),(keep hi).2⟩
     exact .inl ⟨c,hc,hi⟩
    exact .inr ⟨c,List.mem_append_left _ hc,hi⟩
   exact k7 hW hH hk hx hy hh hg hs hP n Q k _ (by omega) hQ' hI'
  rename_i ht
  refine k7 hW hH hk hx hy hh hg hs hP n Q k O (by omega) hQ' ?_
  rcases hI with ⟨c,hc,hi⟩|hI
  ·rcases List.mem_cons.1 hc with hc|hc
   ·rw[hc] at hi
    exact absurd (keep hi).1 ht
   exact .inl ⟨c,hc,hi⟩
  exact .inr hI
theorem sg {W Hh:Int}{ks xs:List Int}{l:List T6}{sc:List (Int×Int)}{g x y h:Int}(hR:eW W Hh ks l sc g=true)(hk:fk ks xs)(hV:bQ W Hh xs=true)(hB:∀i,i<xs.length->1<=gi xs i/\gi xs i<=2)(hc:CovP l x y h)(hP:∀e∈sc,ji W Hh xs x y h g e):∃o,lnO W Hh ks l sc g=some o/\fk o xs:=by
 obtain⟨hVk,hl0,hS,hsB,hg⟩:=iw.1 hR
 have hv:=bo.1 hV
 obtain⟨b,hb,hx,hy,j,hj,rfl⟩:=hc
 unfold lnO
 by_cases ht:fZ l=true
 ·rw[if_pos ht]
  obtain ⟨q,hq,hqB⟩:=qf (t:=xs) (W:=W) (H:=Hh) hv.len (l:=aU W Hh l sc g) (o:=ks) (fun c hc=>by
   obtain⟨-,hin,e,he,hp⟩:=(mem_all hR).1 hc
   refine⟨hin,?_⟩
   have hlt:=o0 hv.len hin
   have hne:¬atI W Hh xs c.1 c.2=2:=fun hw=>by
    have k2:=psC_pt hS hb hx hy hj hp
    have k1:gq x y (aG (gi (mkB b) j) e.1) (aw e.2 g) c=false:=by
     by_cases hr:e.2 = -1
     ·have e1:aw e.2 g=1024-g:=if_pos hr
      rw[e1] at k2 ⊢
      rw[<-Bool.not_eq_true]
      intro hbf
      have q:=(hP e he).2 hr c hw
      have p:=eh hbf
      obtain⟨n,m,a1,a2,a3,a4⟩:=p.2.2
      have:sqMe x y (aG (gi (mkB b) j) e.1) 0 (1024-g) c=true:=rD p.1 p.2.1 ⟨n,m,a1,a2,Int.le_of_lt a3,a4⟩
      rw[this] at q;cases q
     have e1:aw e.2 g=e.2-g:=if_neg hr
     rw[e1]
     exact((hP e he).1 hr).1 c hw
    rw[k2] at k1;cases k1
   have hb12:=hB _ hlt
   rw[at_in hin] at hne ⊢
   omega) hk
  rw[hq]
  obtain ⟨q2,hq2,hqB2⟩:=qg (t:=xs) (W:=W) (H:=Hh) hv.len (l:=iY l sc g) (o:=q) (fun s hs=>by
   obtain⟨e,he,rfl⟩:=List.mem_map.1 hs
   obtain⟨he1,he2⟩:=List.mem_filter.1 he
   have hr1:¬e.2 = -1:=by simpa using he2
   have hbe:=gK.1 ((dX.1 hsB).2 e he1)
   obtain⟨-,c,hcW,hc2,hcm⟩:=(hP e he1).1 hr1
   exact⟨c,sus_pt hS ht (by omega) hg hb hx hy hj hcW hcm,hc2⟩) hqB
  exact⟨q2,hq2,hqB2⟩
 rw[if_neg ht]
 exact⟨ks,rfl,hk⟩
theorem oh {p v B n m n' m':Int}(h0:0<=p/\p<=B)(hn:0<=n')(hm:0<m)(hm':0<m')(hle:n'*m<=n*m')(h1:0<=m*p+n*v/\m*p+n*v<=m*B):0<=m'*p+n'*v/\m'*p+n'*v<=m'*B:=by
 have e:m*(m'*p+n'*v)=m'*(m*p)+(n'*m)*v:=by grind
 have e2:m'*(m*p+n*v)=m'*(m*p)+(n*m')*v:=by grind
 have e3:m*(m'*B)=m'*(m*B):=by grind
 have k0:0<=m'*(m*p):=Int.mul_nonneg (by omega) (Int.mul_nonneg (by omega) h0.1)
 have k1:m'*(m*p)<=m'*(m*B):=Int.mul_le_mul_of_nonneg_left (Int.mul_le_mul_of_nonneg_left h0.2 (by omega)) (by omega)
 have k2:0<=m'*(m*p+n*v):=Int.mul_nonneg (by omega) h1.1
 have k3:m'*(m*p+n*v)<=m'*(m*B):=Int.mul_le_mul_of_nonneg_left h1.2 (by omega)
 have k4:0<=n'*m:=Int.mul_nonneg hn (by omega)
 have lo:0<=m*(m'*p+n'*v):=by
  rcases Int.le_total 0 v with hv|hv
  ·have:=Int.mul_nonneg k4 hv;omega
  have:=Int.mul_le_mul_of_nonpos_right hle hv;omega
 have hi:m*(m'*p+n'*v)<=m*(m'*B):=by
  rcases Int.le_total 0 v with hv|hv
  ·have:=Int.mul_le_mul_of_nonneg_right hle hv;omega
  have:=Int.mul_nonpos_of_nonneg_of_nonpos k4 hv;omega
 exact⟨Int.le_of_mul_le_mul_left (by omega) hm,Int.le_of_mul_le_mul_left hi hm⟩
theorem co_out {p v B n m:Int}(h0:0<=p/\p<=B)(hn:0<=n)(hm:0<m)(h:m*p+n*v<0\/m*B<m*p+n*v):∃n' m' X:Int,(X=0\/X=B)/\0<=n'/\0<m'/\n'*m<=n*m'/\m'*p+n'*v=m'*X:=by
 have k0:0<=m*p:=Int.mul_nonneg (by omega) h0.1
 have k1:m*p<=m*B:=Int.mul_le_mul_of_nonneg_left h0.2 (by omega)
 rcases h with h|h
 ·have hv:v<0:=by
   rcases Int.lt_or_le v 0 with q|q
   ·exact q
   have:=Int.mul_nonneg hn q;omega
  refine⟨p,-v,0,.inl rfl,h0.1,by omega,?_,?_⟩
  ·have e1:p*m=m*p:=Int.mul_comm ..
   have e2:n * -v = -(n*v):=Int.mul_neg ..
   omega
  grind
 have hv:0<v:=by
  rcases Int.lt_or_le 0 v with q|q
  ·exact q
  have:=Int.mul_nonpos_of_nonneg_of_nonpos hn q;omega
 refine⟨B-p,v,B,.inr rfl,by omega,hv,?_,?_⟩
 ·have e1:(B-p)*m=m*B-m*p:=by grind
  omega
 grind
theorem co_cell {t m' H:Int}(hm:0<m')(hH:1<=H)(h:0<=t/\t<=m'*(64*H)):∃k:Int,0<=k/\k<H/\m'*(k*64)<=t/\t<=m'*(k*64+64):=by
 have hd:0<64*m':=by omega
 have q1:=Int.emod_nonneg t (show 64*m'≠0 by omega)
 have q2:=Int.emod_lt_of_pos t hd
 have q3:=Int.mul_ediv_add_emod t (64*m')
 have q4:=Int.ediv_nonneg h.1 (show 0<=64*m' by omega)
 by_cases hk:t/(64*m')<H
 ·refine⟨t/(64*m'),q4,hk,?_,?_⟩
  ·have e:m'*(t/(64*m')*64)=64*m'*(t/(64*m')):=by grind
   omega
  have e:m'*(t/(64*m')*64+64)=64*m'*(t/(64*m'))+64*m':=by grind
  omega
 refine⟨H-1,by omega,by omega,?_,?_⟩
 ·have a1:=Int.mul_le_mul_of_nonneg_left (show H<=t/(64*m') by omega) (show 0<=64*m' by omega)
  have e:m'*((H-1)*64)=64*m'*H-64*m':=by grind
  omega
 have e:m'*((H-1)*64+64)=m'*(64*H):=by grind
 omega
theorem rF {x y vx vy W H n' m' X:Int}(hm:0<m')(hW:1<=W)(hH:1<=H)(hX:X=0\/X=64*W)(hx:m'*x+n'*vx=m'*X)(hy:0<=m'*y+n'*vy/\m'*y+n'*vy<=m'*(64*H)):
  ∃c:Int×Int,(c.1 = -1\/c.1=W)/\(0<=c.2/\c.2<H)/\dc x y vx vy (c.1*64) (c.2*64) (c.1*64+64) (c.2*64+64) n' m':=by
 obtain⟨k,k1,k2,k3,k4⟩:=co_cell hm hH hy
 rcases hX with rfl|rfl
 ·refine⟨(-1,k),.inl rfl,⟨k1,k2⟩,⟨?_,?_⟩,k3,k4⟩
  ·rw[hx];exact Int.mul_le_mul_of_nonneg_left (show (-1:Int)*64<=0 by decide) (by omega)
  rw[hx];exact Int.mul_le_mul_of_nonneg_left (show (0:Int) <= -1*64+64 by decide) (by omega)
 refine⟨(W,k),.inr rfl,⟨k1,k2⟩,⟨?_,?_⟩,k3,k4⟩
 ·rw[hx];exact Int.mul_le_mul_of_nonneg_left (by simp only;omega) (by omega)
 rw[hx];exact Int.mul_le_mul_of_nonneg_left (by simp only;omega) (by omega)
theorem ray_exit {x y vx vy W H n m:Int}(hx:0<=x/\x<=64*W)(hy:0<=y/\y<=64*H)(hW:1<=W)(hH:1<=H)(hn:0<=n)(hm:0<m)(ho:(m*x+n*vx<0\/m*(64*W)<m*x+n*vx)\/(m*y+n*vy<0\/m*(64*H)<m*y+n*vy)):
  ∃(n' m':Int) (c:Int×Int),0<=n'/\0<m'/\n'*m<=n*m'/\((-1<=c.1/\c.1<=W) /\ -1<=c.2/\c.2<=H)/\inB W H c.1 c.2=false/\dc x y vx vy (c.1*64) (c.2*64) (c.1*64+64) (c.2*64+64) n' m':=by
 have byX:∀n1 m1 X:Int,(X=0\/X=64*W)->0<=n1->0<m1->n1*m<=n*m1->m1*x+n1*vx=m1*X->(0<=m1*y+n1*vy/\m1*y+n1*vy<=m1*(64*H))->∃(n' m':Int) (c:Int×Int),0<=n'/\0<m'/\n'*m<=n*m'/\((-1<=c.1/\c.1<=W) /\ -1<=c.2/\c.2<=H)/\inB W H c.1 c.2=false/\dc x y vx vy (c.1*64) (c.2*64) (c.1*64+64) (c.2*64+64) n' m':=fun n1 m1 X a1 a2 a3 a4 a5 a6=>by
  obtain⟨c,c1,c2,c3⟩:=rF a3 hW hH a1 a5 a6
  exact⟨n1,m1,c,a2,a3,a4,by omega,lN.2 (by omega),c3⟩
 have byY:∀n1 m1 X:Int,(X=0\/X=64*H)->0<=n1->0<m1->n1*m<=n*m1->m1*y+n1*vy=m1*X->(0<=m1*x+n1*vx/\m1*x+n1*vx<=m1*(64*W))->∃(n' m':Int) (c:Int×Int),0<=n'/\0<m'/\n'*m<=n*m'/\((-1<=c.1/\c.1<=W) /\ -1<=c.2/\c.2<=H)/\inB W H c.1 c.2=false/\dc x y vx vy (c.1*64) (c.2*64) (c.1*64+64) (c.2*64+64) n' m':=fun n1 m1 X a1 a2 a3 a4 a5 a6=>by
  obtain⟨c,c1,c2,c3⟩:=rF a3 hH hW a1 a5 a6
  exact⟨n1,m1,(c.2,c.1),a2,a3,a4,by simp only;omega,lN.2 (by simp only;omega),c3.2,c3.1⟩
 have edge:∀{m1 X B:Int},0<m1->0<=B->(X=0\/X=B)->0<=m1*X/\m1*X<=m1*B:=fun {m1 X B} h1 h2 h3=>by
  have:=Int.mul_nonneg (show 0<=m1 by omega) h2
  rcases h3 with rfl|rfl
  ·rw[Int.mul_zero];omega
  omega
 by_cases hxo:m*x+n*vx<0\/m*(64*W)<m*x+n*vx
 ·obtain⟨n1,m1,X,a1,a2,a3,a4,a5⟩:=co_out hx hn hm hxo
  by_cases hyo:m*y+n*vy<0\/m*(64*H)<m*y+n*vy
  ·obtain⟨n2,m2,Y,b1,b2,b3,b4,b5⟩:=co_out hy hn hm hyo
   rcases Int.le_total (n1*m2) (n2*m1) with q|q
   ·exact byX n1 m1 X a1 a2 a3 a4 a5 (oh hy a2 b3 a3 q (by rw[b5];exact edge b3 (by omega) b1))
   exact byY n2 m2 Y b1 b2 b3 b4 b5 (oh hx b2 a3 b3 q (by rw[a5];exact edge a3 (by omega) a1))
  exact byX n1 m1 X a1 a2 a3 a4 a5 (oh hy a2 hm a3 a4 (by omega))
 have hyo:=ho.resolve_left hxo
 obtain⟨n2,m2,Y,b1,b2,b3,b4,b5⟩:=co_out hy hn hm hyo
 exact byY n2 m2 Y b1 b2 b3 b4 b5 (oh hx b2 hm b3 b4 (by omega))
section
variable {W Hh:Int} {xs:List Int} {x y:Int}
theorem bf_all {v:Int×Int×Int}{far:Int}(hx:0<=x/\x<=64*W)(hy:0<=y/\y<=64*Hh)(hW:1<=W/\W<=64)(hH:1<=Hh/\Hh<=64)(h:∀c,jh W Hh xs c->gq x y v far c=false):∀c:Int×Int,atI W Hh xs c.1 c.2=2->gq x y v far c=false:=fun c hc=>by
 by_cases hf:(-1<=c.1/\c.1<=W) /\ -1<=c.2/\c.2<=Hh
 ·exact h c ⟨hf,hc⟩
 rw[<-Bool.not_eq_true]
 intro hb
 obtain⟨h0,hg,n,m,k1,k2,k3,k4⟩:=eh hb
 have one:∀{p u B q:Int},m*(q*64)<=m*p+n*u->m*p+n*u<=m*(q*64+64)->¬(-1<=q/\q<=B)->m*p+n*u<0\/m*(64*B)<m*p+n*u:=fun {p u B q} a1 a2 a3=>by
  rcases Int.lt_or_le q (-1) with z|z
  ·left
   have:=Int.mul_le_mul_of_nonneg_left (show q*64+64 <= -64 by omega) (show 0<=m by omega)
   have e:m * -64 = -(64*m):=by grind
   omega
  right
  have:=Int.mul_le_mul_of_nonneg_left (show 64*B+64<=q*64 by omega) (show 0<=m by omega)
  have e:m*(64*B+64)=m*(64*B)+64*m:=by grind
  omega
 have ho:(m*x+n*v.1<0\/m*(64*W)<m*x+n*v.1)\/(m*y+n*v.2.1<0\/m*(64*Hh)<m*y+n*v.2.1):=by
  by_cases q : -1<=c.1/\c.1<=W
  ·exact .inr (one k4.2.1 k4.2.2 (fun q2=>hf ⟨q,q2⟩))
  exact .inl (one k4.1.1 k4.1.2 q)
 obtain⟨n',m',c',p1,p2,p3,p4,p5,p6⟩:=ray_exit hx hy hW.1 hH.1 k1 k2 ho
 obtain⟨g1,g2,-⟩:=cl.1 hg
 have hvd:=(dM hg).1
 have hlt:n'*v.2.2<far*m':=by
  have a1:=Int.mul_le_mul_of_nonneg_right p3 (show 0<=v.2.2 by omega)
  have a2:=Int.mul_lt_mul_of_pos_right k3 p2
  have e1:n'*m*v.2.2=m*(n'*v.2.2):=by grind
  have e2:n*m'*v.2.2=n*v.2.2*m':=by grind
  have e3:far*m*m'=m*(far*m'):=by grind
  exact Int.lt_of_mul_lt_mul_left (a:=m) (by omega) (by omega)
 have hw:jh W Hh xs c':=⟨p4,by unfold atI;rw[p5];rfl⟩
 have:=h c' hw
 have hk:gq x y v far c'=true:=kY h0 (cl.2 ⟨g1,g2,bZ.2 (by omega)⟩) ⟨n',m',p1,p2,hlt,p6⟩
 rw[hk] at this;cases this
theorem mea_far {h g m e:Int}(hH:1<=Hh)(hW:1<=W)(hg:1<=g/\g<=32)(hz:dQ W Hh xs x y h g m e = -1):∀c,jh W Hh xs c->gq x y (aG h m) (1025-g) c=false:=fun c' hc'=>by
 cases hf:fsB W Hh xs x y h m with
 | none =>
  rw[<-Bool.not_eq_true]
  intro hb
  obtain⟨h0,hr,hlt⟩:=nD.1 hb
  have p:=jp hr
  refine fsZ_no hH hW hf c' hc' hr ?_
  have:=Int.mul_le_mul_of_nonneg_right (show 1025-g<=1024 by omega) (show 0<=edC x y (aG h m).1 (aG h m).2.1 (aG h m).2.2 c' by omega)
  omega
 | some c =>
  have hb:=fb_bd hf
  have hr:=(mF hH hW hf).2.1
  have eN:fbN W Hh xs x y h m=enC x y (aG h m).1 (aG h m).2.1 (aG h m).2.2 c:=by unfold fbN;rw[hf];show (fsD _ _ _ _ _ c).1=_;rw[fj hr]
  have eD:fbD W Hh xs x y h m=edC x y (aG h m).1 (aG h m).2.1 (aG h m).2.2 c:=by unfold fbD;rw[hf];show (fsD _ _ _ _ _ c).2=_;rw[fj hr]
  have hc:=clgb (n:=e) (lo:=1-g) (hi:=g) (by omega)
  have hz0:0<=zzI W Hh xs x y h g m e:=by unfold zzI;split<;>omega
  have p:=jp hr
  have k:=read_bd (z:=zzI W Hh xs x y h g m e) p.1 p.2 hc (by
   rw[<-eN,<-eD]
   unfold zzI
   split<;>omega)
  have h1:1024<zzI W Hh xs x y h g m e:=by
   unfold dQ at hz
   rw[hf,if_pos (show (some c).isSome=true from rfl)] at hz
   split at hz
   ·assumption
   omega
  refine o6 hH hW hf ?_ (by omega) c' hc'
  have:=Int.mul_le_mul_of_nonneg_right (show 1025-g<=zzI W Hh xs x y h g m e-g by omega) (show 0<=edC x y (aG h m).1 (aG h m).2.1 (aG h m).2.2 c by omega)
  have:=k.1
  omega
theorem qj {h g m e:Int}(hx:0<=x/\x<=64*W)(hy:0<=y/\y<=64*Hh)(hW:1<=W/\W<=64)(hH:1<=Hh/\Hh<=64)(hg:1<=g/\g<=32):ji W Hh xs x y h g (m,dQ W Hh xs x y h g m e) /\ -1<=dQ W Hh xs x y h g m e/\dQ W Hh xs x y h g m e<=1024:=by
 obtain⟨⟨k1,k2⟩,k3⟩:=mea_plau (xs:=xs) (x:=x) (y:=y) (h:=h) (m:=m) (e:=e) hH.1 hW.1 hg
 refine⟨⟨fun hz=>?_,fun hz=>?_⟩,k3⟩
 ·have ez:aw (dQ W Hh xs x y h g m e) g=dQ W Hh xs x y h g m e-g:=if_neg hz
  simp only[ez] at k1
  obtain⟨c,hc,hm⟩:=k2 hz
  exact⟨bf_all hx hy hW hH k1,c,by have:=hc.1;omega,hc.2,hm⟩
 intro c hc
 rw[<-Bool.not_eq_true]
 intro hb
 have:=bf_all hx hy hW hH (mea_far (xs:=xs) hH.1 hW.1 hg hz) c hc
 obtain⟨h0,hg',n,m',q1,q2,q3,q4⟩:=jF hb
 have q3':n*(aG h m).2.2<=(1024-g)*m':=q3
 have hk:gq x y (aG h m) (1025-g) c=true:=kY (by omega) hg' ⟨n,m',q1,q2,by
  have e:(1025-g)*m'=(1024-g)*m'+m':=by grind
  omega,q4⟩
 rw[hk] at this;cases this
end
section
variable {W Hh:Int} {xs:List Int} {x y h m g z:Int} {c:Int×Int}
end
theorem rem_n3 (a:Nat):Int.tmod (a:Int) 3=((a%3:Nat):Int):=rfl
def ow (i:Nat):Bool:=match i with
 |0=>false
 |_+1=>true
theorem mark_in2 {bf bc ah t e tu:Int}(hb:cA bf bc=true)(hi:eq bf bc ah)(ha:0<=ah/\ah<=255)(ht:0<=tu/\tu<=8)(he : -tu<=e/\e<=tu):nhI ah t e∈gp bf bc t tu:=by
 have hbi:=bm.1 hb
 unfold eq at hi
 unfold gp bg
 rw[List.mem_map]
 by_cases hc:256<=bc+2*tu
 ·have e1:256<=cC bc+2*tu:=by unfold cC;split<;>omega
  have e2:grC (cC bc) tu=256:=if_pos e1
  have e3:grF (shF bf bc t) (cC bc) tu=0:=if_pos e1
  refine⟨(nhI ah t e).toNat,List.mem_range.2 ?_,?_⟩
  ·rw[e2];unfold nhI;omega
  rw[e3];unfold nhI;omega
 have e0:cC bc=bc:=if_neg (by omega)
 have e2:grC (cC bc) tu=bc+2*tu:=by rw[e0];exact if_neg hc
 have e4:shF bf bc t=(bf+(((t%256).toNat:Nat):Int))%256:=if_neg (by omega)
 have e3:grF (shF bf bc t) (cC bc) tu=(shF bf bc t-tu)%256:=by rw[e0];exact if_neg hc
 refine⟨(tu+e+(ah-bf)%256).toNat,List.mem_range.2 ?_,?_⟩
 ·rw[e2];omega
 rw[e3,e4];unfold nhI;clear e0 e2 e3 e4 hc;omega
abbrev T4:=Int×Int×Int×Int
def rqA (f le h:Int):Int:=cE h (mxI (f-le) 0)
def rqB (f le h:Int):Int:=cE h (mxI (f+le) 0)
def rqC (f le h:Int):Int:=cF h (mxI (f-le) 0)
def rqD (f le h:Int):Int:=cF h (mxI (f+le) 0)
def rqR (f le sl h:Int):T4:=if f=0 then (0,0,0,0) else (mnI (rqA f le h) (rqB f le h)-sl,mnI (rqC f le h) (rqD f le h)-sl,mxI (rqA f le h) (rqB f le h)+sl,mxI (rqC f le h) (rqD f le h)+sl)
def rcS (f le sl:Int) (L:List Int):Nat->T4
 |0=>(0,0,0,0)
 |n+1=>(mnI (if n=0 then (rqR f le sl (gi L n)).1 else (rcS f le sl L n).1) (rqR f le sl (gi L n)).1,mnI (if n=0 then (rqR f le sl (gi L n)).2.1 else (rcS f le sl L n).2.1) (rqR f le sl (gi L n)).2.1,mxI (if n=0 then (rqR f le sl (gi L n)).2.2.1 else (rcS f le sl L n).2.2.1) (rqR f le sl (gi L n)).2.2.1,mxI (if n=0 then (rqR f le sl (gi L n)).2.2.2 else (rcS f le sl L n).2.2.2) (rqR f le sl (gi L n)).2.2.2)
theorem el {a b:Int}:mnI a b<=a/\mnI a b<=b/\(mnI a b=a\/mnI a b=b):=by unfold mnI;split<;>omega
theorem eo {a b:Int}:a<=mxI a b/\b<=mxI a b/\(mxI a b=a\/mxI a b=b):=by unfold mxI;split<;>omega
theorem rqR_bd {f le sl h:Int}(hf:0<=f/\f<=32)(hl:0<=le/\le<=16)(hs:0<=sl/\sl<=8):(-64<=(rqR f le sl h).1/\(rqR f le sl h).1<=(rqR f le sl h).2.2.1/\(rqR f le sl h).2.2.1<=64) /\ -64<=(rqR f le sl h).2.1/\(rqR f le sl h).2.1<=(rqR f le sl h).2.2.2/\(rqR f le sl h).2.2.2<=64:=by
 unfold rqR
 split
 ·exact⟨by decide,by decide⟩
 have m1:0<=mxI (f-le) 0/\mxI (f-le) 0<=48:=by unfold mxI;split<;>omega
 have m2:0<=mxI (f+le) 0/\mxI (f+le) 0<=48:=by unfold mxI;split<;>omega
 have w1:=jx h m1.1
 have w2:=jx h m2.1
 have e1:rqA f le h=cE h (mxI (f-le) 0):=rfl
 have e2:rqB f le h=cE h (mxI (f+le) 0):=rfl
 have e3:rqC f le h=cF h (mxI (f-le) 0):=rfl
 have e4:rqD f le h=cF h (mxI (f+le) 0):=rfl
 have n1:=el (a:=rqA f le h) (b:=rqB f le h)
 have n2:=el (a:=rqC f le h) (b:=rqD f le h)
 have x1:=eo (a:=rqA f le h) (b:=rqB f le h)
 have x2:=eo (a:=rqC f le h) (b:=rqD f le h)
 simp only
 omega
theorem oi {f le sl:Int}{L:List Int}(hf:0<=f/\f<=32)(hl:0<=le/\le<=16)(hs:0<=sl/\sl<=8):∀n:Nat,(-64<=(rcS f le sl L n).1/\(rcS f le sl L n).1<=(rcS f le sl L n).2.2.1/\(rcS f le sl L n).2.2.1<=64) /\ -64<=(rcS f le sl L n).2.1/\(rcS f le sl L n).2.1<=(rcS f le sl L n).2.2.2/\(rcS f le sl L n).2.2.2<=64
 |0=>by unfold rcS;exact⟨by decide,by decide⟩
 | n+1=>by
  have r:=rqR_bd (h:=gi L n) hf hl hs
  have ih:=oi (L:=L) hf hl hs n
  unfold rcS
  simp only
  by_cases h0:n=0
  ·rw[if_pos h0,if_pos h0,if_pos h0,if_pos h0]
   have n1:=el (a:=(rqR f le sl (gi L n)).1) (b:=(rqR f le sl (gi L n)).1)
   have n2:=el (a:=(rqR f le sl (gi L n)).2.1) (b:=(rqR f le sl (gi L n)).2.1)
   have x1:=eo (a:=(rqR f le sl (gi L n)).2.2.1) (b:=(rqR f le sl (gi L n)).2.2.1)
   have x2:=eo (a:=(rqR f le sl (gi L n)).2.2.2) (b:=(rqR f le sl (gi L n)).2.2.2)
   omega
  rw[if_neg h0,if_neg h0,if_neg h0,if_neg h0]
  have n1:=el (a:=(rcS f le sl L n).1) (b:=(rqR f le sl (gi L n)).1)
  have n2:=el (a:=(rcS f le sl L n).2.1) (b:=(rqR f le sl (gi L n)).2.1)
  have x1:=eo (a:=(rcS f le sl L n).2.2.1) (b:=(rqR f le sl (gi L n)).2.2.1)
  have x2:=eo (a:=(rcS f le sl L n).2.2.2) (b:=(rqR f le sl (gi L n)).2.2.2)
  omega
theorem rcS_has {f le sl:Int}{L:List Int}{j:Nat}:∀{n:Nat},j<n->((rcS f le sl L n).1<=(rqR f le sl (gi L j)).1/\(rqR f le sl (gi L j)).2.2.1<=(rcS f le sl L n).2.2.1)/\(rcS f le sl L n).2.1<=(rqR f le sl (gi L j)).2.1/\(rqR f le sl (gi L j)).2.2.2<=(rcS f le sl L n).2.2.2
 | n+1,h=>by
  unfold rcS
  simp only
  have n1:=el (a:=if n=0 then (rqR f le sl (gi L n)).1 else (rcS f le sl L n).1) (b:=(rqR f le sl (gi L n)).1)
  have n2:=el (a:=if n=0 then (rqR f le sl (gi L n)).2.1 else (rcS f le sl L n).2.1) (b:=(rqR f le sl (gi L n)).2.1)
  have x1:=eo (a:=if n=0 then (rqR f le sl (gi L n)).2.2.1 else (rcS f le sl L n).2.2.1) (b:=(rqR f le sl (gi L n)).2.2.1)
  have x2:=eo (a:=if n=0 then (rqR f le sl (gi L n)).2.2.2 else (rcS f le sl L n).2.2.2) (b:=(rqR f le sl (gi L n)).2.2.2)
  rcases Nat.lt_or_ge j n with q|q
  ·have ih:=rcS_has (f:=f) (le:=le) (sl:=sl) (L:=L) q
   have h0:¬n=0:=by omega
   rw[if_neg h0] at n1 n2 x1 x2
   rw[if_neg h0,if_neg h0,if_neg h0,if_neg h0]
   omega
  obtain rfl:j=n:=by omega
  omega
def imR (b:T6) (t f tu le sl:Int):T4:=rcS f le sl (gp b.2.2.2.2.1 b.2.2.2.2.2 t tu) (gp b.2.2.2.2.1 b.2.2.2.2.2 t tu).length
def imB (b:T6) (t f tu le sl:Int):T6:=(b.1+(imR b t f tu le sl).1,b.2.1+(imR b t f tu le sl).2.1,b.2.2.1+(imR b t f tu le sl).2.2.1,b.2.2.2.1+(imR b t f tu le sl).2.2.2,grF (shF b.2.2.2.2.1 b.2.2.2.2.2 t) (cC b.2.2.2.2.2) tu,grC (cC b.2.2.2.2.2) tu)
def imO (b:T6) (t f tu le sl:Int):Bool:=!([(imB b t f tu le sl).1,(imB b t f tu le sl).2.2.1,(imB b t f tu le sl).2.1,(imB b t f tu le sl).2.2.2.1].any ir)
def imE (b:T6) (t f tu le sl:Int):Int:=if imO b t f tu le sl=true then 0 else 2
theorem imB_ok {b:T6}{t f tu le sl:Int}(hb:bA b=true)(hf:0<=f/\f<=32)(hu:0<=tu/\tu<=8)(hl:0<=le/\le<=16)(hs:0<=sl/\sl<=8)(h:imO b t f tu le sl=true):bA (imB b t f tu le sl)=true:=by
 have hb6:=bv.1 hb
 have r:=oi (L:=gp b.2.2.2.2.1 b.2.2.2.2.2 t tu) hf hl hs (gp b.2.2.2.2.1 b.2.2.2.2.2 t tu).length
 have e:imR b t f tu le sl=rcS f le sl (gp b.2.2.2.2.1 b.2.2.2.2.2 t tu) (gp b.2.2.2.2.1 b.2.2.2.2.2 t tu).length:=rfl
 rw[<-e] at r
 unfold imO ir at h
 simp only[List.any_cons,List.any_nil,Bool.or_false,Bool.not_eq_true',Bool.or_eq_false_iff,decide_eq_false_iff_not] at h
 refine bv.2 ⟨?_,?_,?_⟩
 ·unfold imB at *;simp only at *;omega
 ·unfold imB at *;simp only at *;omega
 have ka:=bm.1 hb6.2.2
 show cA (grF _ _ _) (grC _ _)=true
 exact kg (by unfold cC;split<;>omega)
def imS (l:List T6) (t f tu le sl:Int):Nat->List T6
 |0=>[]
 |n+1=>imS l t f tu le sl n++[imB (g6 l n) t f tu le sl]
def imA (l:List T6) (t f tu le sl:Int):Bool:=l.all fun b=>imO b t f tu le sl
theorem gl {l:List T6}{t f tu le sl:Int}:∀n:Nat,(imS l t f tu le sl n).length=n
 |0=>rfl
 |n+1=>by rw[imS,List.length_append,gl n];rfl
theorem o9 {l:List T6}{t f tu le sl:Int}{b:T6}:∀{n:Nat},b∈imS l t f tu le sl n↔∃j:Nat,j<n/\b=imB (g6 l j) t f tu le sl
 |0=>by simp[imS]
 | n+1=>by
  rw[imS,List.mem_append,List.mem_singleton,o9]
  constructor
  ·rintro(⟨j,h1,h2⟩|h)
   ·exact⟨j,by omega,h2⟩
   exact⟨n,by omega,h⟩
  rintro⟨j,h1,h2⟩
  rcases Nat.lt_or_ge j n with q|q
  ·exact .inl ⟨j,q,h2⟩
  obtain rfl:j=n:=by omega
  exact .inr h2
theorem qk {x:Int->Bool}{s:Int}{i:Nat}(hx:x ((s+(i:Int))%256)=true):∀n:Nat,i<n->(i:Int)<eu x s n
 |0,h=>by omega
 | n+1,h=>by
  rw[eu]
  split
  ·omega
  rename_i hn
  rcases Nat.lt_or_ge i n with q|q
  ·exact qk hx n q
  obtain rfl:i=n:=by omega
  exact absurd hx hn
theorem hullA_in {f c f' c' m:Int}(h:cA f c=true)(h':cA f' c'=true)(hm:0<=m/\m<=255)(k:eq f c m\/eq f' c' m):eq (cT f c f' c').1 (cT f c f' c').2 m:=by
 rw[<-hull_eq h h']
 have hs:=lS (x:=iq f c f' c') 256 (Nat.le_refl _)
 unfold eq
 rcases hs with ⟨e,-⟩|⟨-,e2,e3,-⟩
 ·rw[e];simp only;omega
 generalize fa (iq f c f' c') 256=p at e2 e3 ⊢
 obtain⟨i,hi⟩:∃i:Nat,(i:Int)=(m-p.1)%256:=⟨((m-p.1)%256).toNat,by omega⟩
 have hx:iq f c f' c' ((p.1+(i:Int))%256)=true:=by
  rw[show (p.1+(i:Int))%256=m by omega,oR];exact k
 have:=qk hx 256 (by omega)
 rw[e3] at this
 omega
theorem hulB_in {a b:T6}{x y h:Int}(ha:bA a=true)(hb:bA b=true)(hh:0<=h/\h<=255)(k:InP a x y h\/InP b x y h):InP (ey a b) x y h:=by
 have ka:=bv.1 ha
 have kb:=bv.1 hb
 have n1:=el (a:=a.1) (b:=b.1)
 have n2:=el (a:=a.2.1) (b:=b.2.1)
 have x1:=eo (a:=a.2.2.1) (b:=b.2.2.1)
 have x2:=eo (a:=a.2.2.2.1) (b:=b.2.2.2.1)
 have q:=hullA_in (m:=h) ka.2.2 kb.2.2 hh (k.imp (·.2.2) (·.2.2))
 unfold InP at k ⊢
 unfold ey
 simp only
 refine⟨⟨by omega,by omega⟩,⟨by omega,by omega⟩,q⟩
abbrev C4:=Int×Int×Int×T6
def chN (l:List T6) (i j:Nat):Int:=ej (ey (g6 l i) (g6 l j))-ej (g6 l i)-ej (g6 l j)
def chU (l:List T6) (i k:Nat) (s:C4):C4:=if s.1<0\/chN l i (i+1+k)<s.2.2.1 then ((i:Int),(i:Int)+1+(k:Int),chN l i (i+1+k),ey (g6 l i) (g6 l (i+1+k))) else s
def chR (l:List T6) (i:Nat) (s:C4):Nat->C4
 |0=>s
 |k+1=>chU l i k (chR l i s k)
def chO (l:List T6):Nat->C4
 |0=>(-1,-1,0,(0,0,0,0,0,0))
 |n+1=>chR l n (chO l n) (l.length-(n+1))
def chP (l:List T6) (s:C4):Prop:=∃i j:Nat,i<j/\j<l.length/\s.1=(i:Int)/\s.2.1=(j:Int)/\s.2.2.2=ey (g6 l i) (g6 l j)
theorem ko (b:T6):0<=ej b/\ej b<=1125906929254400:=by
 unfold ej
 split
 ·rename_i h
  have hb:=bv.1 h
  have ha:=bm.1 hb.2.2
  have m1:=aH (a:=b.2.2.1-b.1+1) (b:=b.2.2.2.1-b.2.1+1) (A:=2097153) (B:=2097153) (by omega) (by omega)
  have p1:0<=(b.2.2.1-b.1+1)*(b.2.2.2.1-b.2.1+1):=Int.mul_nonneg (by omega) (by omega)
  have m2:=aH (a:=(b.2.2.1-b.1+1)*(b.2.2.2.1-b.2.1+1)) (b:=b.2.2.2.2.2) (A:=4398050705409) (B:=256) (by omega) (by omega)
  have p2:0<=(b.2.2.1-b.1+1)*(b.2.2.2.1-b.2.1+1)*b.2.2.2.2.2:=Int.mul_nonneg p1 (by omega)
  omega
 omega
theorem chN_bd (l:List T6)(i j:Nat): -2251813858508800<=chN l i j/\chN l i j<=1125906929254400:=by
 have h1:=ko (ey (g6 l i) (g6 l j))
 have h2:=ko (g6 l i)
 have h3:=ko (g6 l j)
 unfold chN;omega
theorem chU_c (l:List T6)(i k:Nat)(s:C4):(chU l i k s=((i:Int),(i:Int)+1+(k:Int),chN l i (i+1+k),ey (g6 l i) (g6 l (i+1+k)))/\(s.1<0\/chN l i (i+1+k)<s.2.2.1))\/(chU l i k s=s/\¬s.1<0/\¬chN l i (i+1+k)<s.2.2.1):=by
 unfold chU
 split
 ·rename_i h;exact .inl ⟨rfl,h⟩
 rename_i h;exact .inr ⟨rfl,fun q=>h (.inl q),fun q=>h (.inr q)⟩
def chI (l:List T6) (s:C4):Prop:=(s.1 = -1/\s.2.1 = -1/\s.2.2.1=0)\/(chP l s /\ -2251813858508800<=s.2.2.1/\s.2.2.1<=1125906929254400)
theorem chU_i {l:List T6}{i k:Nat}{s:C4}(h:chI l s)(hk:i+1+k<l.length):chI l (chU l i k s)/\¬(chU l i k s).1<0:=by
 have e:((i:Int)+1+(k:Int))=((i+1+k:Nat):Int):=by omega
 rcases chU_c l i k s with ⟨q,-⟩|⟨q,h1,h2⟩
 ·rw[q]
  exact⟨.inr ⟨⟨i,i+1+k,by omega,hk,rfl,e,rfl⟩,chN_bd l i (i+1+k)⟩,by simp only;omega⟩
 rw[q];exact⟨h,h1⟩
theorem chR_i {l:List T6}{i:Nat}{s:C4}(h:chI l s):∀k:Nat,k<=l.length-(i+1)->chI l (chR l i s k)/\(0<k->¬(chR l i s k).1<0)/\(¬s.1<0->¬(chR l i s k).1<0)
 |0,_=>⟨h,fun q=>by omega,fun q=>q⟩
 | k+1,hk=>by
  have ih:=chR_i (i:=i) h k (by omega)
  have u:=chU_i (k:=k) (i:=i) ih.1 (by omega)
  exact⟨u.1,fun _=>u.2,fun _=>u.2⟩
theorem chO_i (l:List T6):∀n:Nat,n<=l.length->chI l (chO l n)/\(0<n->2<=l.length->¬(chO l n).1<0)
 |0,_=>⟨.inl ⟨rfl,rfl,rfl⟩,fun q=>by omega⟩
 | n+1,hn=>by
  have ih:=chO_i l n (by omega)
  have r:=chR_i (i:=n) ih.1 (l.length-(n+1)) (Nat.le_refl _)
  refine⟨r.1,fun _ h2=>?_⟩
  rcases Nat.eq_zero_or_pos n with h0|h0
  ·exact r.2.1 (by omega)
  exact r.2.2 (ih.2 h0 h2)
theorem chO_p {l:List T6}(h:2<=l.length):chP l (chO l l.length):=by
 have k:=chO_i l l.length (Nat.le_refl _)
 have k2:=k.2 (by omega) h
 rcases k.1 with ⟨q,-⟩|⟨q,-⟩
 ·omega
 exact q
theorem chO_bd {l:List T6}{n:Nat}(h:n<=l.length):(-1<=(chO l n).1/\(chO l n).1<=(l.length:Int)) /\ -2251813858508800<=(chO l n).2.2.1/\(chO l n).2.2.1<=1125906929254400:=by
 rcases (chO_i l n h).1 with ⟨a,b,c⟩|⟨⟨i,j,h1,h2,a,b,c⟩,d⟩<;>omega
theorem chR_bd {l:List T6}{n k:Nat}(h:n<=l.length)(hk:k<=l.length-(n+1)):(-1<=(chR l n (chO l n) k).1/\(chR l n (chO l n) k).1<=(l.length:Int)) /\ -2251813858508800<=(chR l n (chO l n) k).2.2.1/\(chR l n (chO l n) k).2.2.1<=1125906929254400:=by
 rcases (chR_i (i:=n) (chO_i l n h).1 k hk).1 with ⟨a,b,c⟩|⟨⟨i,j,h1,h2,a,b,c⟩,d⟩<;>omega
def cpA (l:List T6):List T6:=l.set (chO l l.length).1.toNat (chO l l.length).2.2.2
def cpS (l:List T6):List T6:=(cpA l).take (chO l l.length).2.1.toNat++(cpA l).drop ((chO l l.length).2.1.toNat+1)
def cpI:Nat->List T6->List T6
 |0,l=>l
 |n+1,l=>cpI n (cpS l)
def cpL (l:List T6):List T6:=cpI (l.length-16) l
theorem cpA_len (l:List T6):(cpA l).length=l.length:=List.length_set
theorem mH {l:List T6}(h:2<=l.length):(cpS l).length=l.length-1:=by
 obtain⟨i,j,h1,h2,a,b,c⟩:=chO_p h
 unfold cpS
 rw[List.length_append,List.length_take,List.length_drop,cpA_len,b]
 omega
theorem pd {l:List T6}(h:2<=l.length):∃i j:Nat,i<j/\j<l.length/\ey (g6 l i) (g6 l j)∈cpS l/\(∀b∈cpS l,b∈l\/b=ey (g6 l i) (g6 l j))/\∀n:Nat,n<l.length->n≠i->n≠j->g6 l n∈cpS l:=by
 obtain⟨i,j,h1,h2,a,b,c⟩:=chO_p h
 have eA:cpA l=l.set i (ey (g6 l i) (g6 l j)):=by unfold cpA;rw[a,c];rfl
 have eS:cpS l=(l.set i (ey (g6 l i) (g6 l j))).take j++(l.set i (ey (g6 l i) (g6 l j))).drop (j+1):=by unfold cpS;rw[eA,b];rfl
 have hin:∀n:Nat,(hn:n<(l.set i (ey (g6 l i) (g6 l j))).length)->n≠j->(l.set i (ey (g6 l i) (g6 l j)))[n]∈cpS l:=fun n hn hne=>by
  rw[eS]
  rcases Nat.lt_or_ge n j with q|q
  ·refine List.mem_append_left _ (List.mem_iff_getElem.2 ⟨n,by rw[List.length_take];omega,?_⟩)
   rw[List.getElem_take]
  refine List.mem_append_right _ (List.mem_iff_getElem.2 ⟨n-(j+1),by rw[List.length_drop];omega,?_⟩)
  rw[List.getElem_drop]
  congr 1;omega
 refine⟨i,j,h1,h2,?_,fun b hb=>?_,fun n hn hi hj=>?_⟩
 ·have:=hin i (by rw[List.length_set];omega) (by omega)
  rwa [List.getElem_set_self] at this
 ·rw[eS] at hb
  have hb':b∈l.set i (ey (g6 l i) (g6 l j)):=by
   rcases List.mem_append.1 hb with q|q
   ·exact List.mem_of_mem_take q
   exact List.mem_of_mem_drop q
  exact(List.mem_or_eq_of_mem_set hb').imp id id
 have:=hin n (by rw[List.length_set];exact hn) hj
 rw[List.getElem_set_ne (fun q=>hi q.symm)] at this
 rw[show g6 l n=l[n] from jR hn];exact this
theorem cpS_ok {l:List T6}(h:2<=l.length)(hv:∀b∈l,bA b=true):∀b∈cpS l,bA b=true:=fun b hb=>by
 obtain⟨i,j,h1,h2,-,k,-⟩:=pd h
 rcases k b hb with q|q
 ·exact hv b q
 rw[q];exact hulB_ok (hv _ (cQ (by omega))) (hv _ (cQ h2))
theorem cpS_in {l:List T6}{x y m:Int}(h:2<=l.length)(hv:∀b∈l,bA b=true)(hm:0<=m/\m<=255)(hc:∃b∈l,InP b x y m):∃b∈cpS l,InP b x y m:=by
 obtain⟨i,j,h1,h2,k1,k2,k3⟩:=pd h
 obtain⟨b,hb,hi⟩:=hc
 obtain⟨n,hn,rfl⟩:=List.mem_iff_getElem.1 hb
 rw[<-show g6 l n=l[n] from jR hn] at hi
 by_cases e1:n=i
 ·subst e1;exact⟨_,k1,hulB_in (hv _ (cQ hn)) (hv _ (cQ h2)) hm (.inl hi)⟩
 by_cases e2:n=j
 ·subst e2;exact⟨_,k1,hulB_in (hv _ (cQ (by omega))) (hv _ (cQ hn)) hm (.inr hi)⟩
 exact⟨_,k3 n hn e1 e2,hi⟩
theorem cpI_ok:∀(n:Nat) (l:List T6),n+1<=l.length->(∀b∈l,bA b=true)->(∀b∈cpI n l,bA b=true)/\(cpI n l).length=l.length-n
 |0,l,_,hv=>⟨hv,rfl⟩
 | n+1,l,h,hv=>by
  have e:=mH (l:=l) (by omega)
  have ih:=cpI_ok n (cpS l) (by omega) (cpS_ok (by omega) hv)
  exact⟨ih.1,by rw[cpI,ih.2,e];omega⟩
theorem cpI_in {x y m:Int}(hm:0<=m/\m<=255):∀(n:Nat) (l:List T6),n+1<=l.length->(∀b∈l,bA b=true)->(∃b∈l,InP b x y m)->∃b∈cpI n l,InP b x y m
 |0,l,_,hv,hc=>hc
 |n+1,l,h,hv,hc=>cpI_in hm n (cpS l) (by have e:=mH (l:=l) (by omega);omega) (cpS_ok (by omega) hv) (cpS_in (by omega) hv hm hc)
theorem cpL_ok {l:List T6}(h0:0<l.length)(hv:∀b∈l,bA b=true):cw (cpL l)=true/\0<(cpL l).length:=by
 have k:=cpI_ok (l.length-16) l (by omega) hv
 refine⟨bN.2 ⟨?_,k.1⟩,?_⟩
 ·show (cpI (l.length-16) l).length<=16;rw[k.2];omega
 show 0<(cpI (l.length-16) l).length;rw[k.2];omega
theorem cpL_in {l:List T6}{x y m:Int}(hm:0<=m/\m<=255)(h0:0<l.length)(hv:∀b∈l,bA b=true)(hc:∃b∈l,InP b x y m):∃b∈cpL l,InP b x y m:=cpI_in hm _ l (by omega) hv hc
def cqX (x0 x1:Int):Nat->Int
 |0=>x0
 |1=>x1
 |2=>x0
 |_=>x1
def cqY (y0 y1:Int):Nat->Int
 |0=>y0
 |1=>y0
 |2=>y1
 |_=>y1
def h4K (op:Bool) (x0 y0 x1 y1 vx vy vd far cx cy:Int):Nat->Bool
 |0=>true
 |n+1=>h4K op x0 y0 x1 y1 vx vy vd far cx cy n&&hcB op (cqX x0 x1 n) (cqY y0 y1 n) vx vy vd far cx cy
theorem h4K_4 {op:Bool}{x0 y0 x1 y1 vx vy vd far cx cy:Int}:h4K op x0 y0 x1 y1 vx vy vd far cx cy 4=h4B op x0 y0 x1 y1 vx vy vd far cx cy:=by
 simp only[h4K,h4B,cqX,cqY,Bool.true_and,Bool.and_assoc]
theorem hcB_t {op:Bool}(h:op=true){x y vx vy vd far cx cy:Int}:hcB op x y vx vy vd far cx cy=dm x y vx vy vd far (cx*64) (cy*64) ((cx+1)*64) ((cy+1)*64):=by unfold hcB;rw[h];rfl
theorem hcB_f {op:Bool}(h:op=false){x y vx vy vd far cx cy:Int}:hcB op x y vx vy vd far cx cy=ef x y vx vy vd 0 far (cx*64) (cy*64) ((cx+1)*64) ((cy+1)*64):=by unfold hcB;rw[h];rfl
def ad4 (x0 y0 x1 y1:Int):Nat->Int
 |0=>x0
 |1=>y0
 |2=>x1
 |_=>y1
theorem oj {α:Type}{p:α->Bool}{l:List α}(h:∀j:Nat,(hj:j<l.length)->p l[j]=false):l.any p=false:=List.any_eq_false.2 fun c hc=>by
 obtain⟨j,hj,rfl⟩:=List.mem_iff_getElem.1 hc
 rw[h j hj];decide
theorem ec (H:aa)(n lo hi:Int):zC 75 [iV n,iV lo,iV hi] H (.bool (btw n lo hi)) H:=by
 refine AcT true func75 ?_;intro hbel Q hQ
 refine aB ?_
 refine aV (fun h1=>?_) (fun h1=>?_)
 ·have h1d:=bsT h1
  have G1:=jn h1 @h1d
  exact eS G1 hQ hbel (.bool (decide (n<=hi))) results75 ⟨by simp[btw,h1d],rfl⟩
 have h1d:=bsT h1
 have G2:=jn h1 @h1d
 exact eS G2 hQ hbel (.bool false) results75 ⟨by simp[btw,h1d],rfl⟩
theorem cvb_c (H:aa)(m r:Int):zC 169 [.agg [iV m,iV r]] H (.bool (fI m r)) H:=by
 refine AcT true func169 ?_;intro hbel Q hQ
 refine aB ?_
 refine cv (ec _ m 0 _) ?_
 refine aB ?_
 refine aV (fun h1=>?_) (fun h1=>?_)
 ·have h1d:=bsT h1
  have G3:=jn h1 @h1d
  refine ae G3 ?_
  refine cvr G3 (ec _ r _ _) ?_
  exact eP hQ hbel (.bool (btw r (-1) 1024)) results169 ⟨by simp[fI,h1d],rfl⟩
 have h1d:=bsT h1
 have G4:=jn h1 @h1d
 exact eR G4 hQ hbel (.bool false) results169 ⟨by simp[fI,h1d],rfl⟩
theorem cvs_c (H:aa)(q:AV)(sc:List (Int×Int))(hq:SlP H q sc)(hl:sc.length<=1000000000):zC 122 [q] H (.bool (di sc)) H:=by
 obtain⟨bq,oq,cq,rfl,hbq,hblq,hb0q⟩:=zA1 hq
 refine AcT true func122 ?_;intro hbel Q hQ
 have G5:=jn @hbq @hb0q
 refine ae G5 ?_
 refine glp (fun k F Hx=>∃i:Nat,i+k=sc.length/\(∀j:Nat,j<i->fI (g1 sc j) (g2 sc j)=true)/\F=[(0,.sl (some (bq,0)) sc.length cq),(5,.sl (some (bq,0)) sc.length cq),(6,iV (sc.length:Int)),(7,iV (i:Int))]/\H=Hx) (sc.length) ?_ ?_
 ·refine⟨_,_,_,⟨0,by omega,(fun j h=>by omega),rfl,rfl⟩,Abs.by0 hbel ?_⟩
  exact aJ
 rintro k0 F Hx ⟨i,hm0,hal,rfl,rfl⟩ J0 hJ0
 refine rcs G5 (fun h1 h1d _=>?_) (fun h1 h1d G9=>?_)
 ·have hlt:i<sc.length:=by omega
  have q2:=c8 (l:=sc) (j:=i) (by omega)
  have G6:=jn h1 (jn h1d (jn q2 G5))
  refine ae G6 ?_
  refine cv (cvb_c _ _ _) ?_
  refine rcs G6 (fun h3 h3d G7=>?_) (fun h3 h3d G8=>?_)
  ·have hfinS:di sc=false:=by
    rw[<-Bool.not_eq_true];intro k
    have q:=(dX.1 k).2 _ (List.getElem_mem hlt)
    rw[<-cP hlt] at q
    exact absurd (q.symm.trans h3d) (by decide)
   exact eR G7 hQ hbel (.bool false) results122 ⟨by rw[hfinS],rfl⟩
  have hbk:=h3d
  refine ae G8 ?_
  refine hJ0 _ _ ⟨k0-1,by omega,_,_,_,⟨i+1,by omega,fun j hj=>by
        rcases Nat.lt_or_ge j i with h|h
        ·exact hal j h
        rw[show j=i by omega];exact hbk,rfl,rfl⟩,Abs.byN hbel ?_⟩
  exact aJ
 obtain rfl:i=sc.length:=by omega
 have hfinS:di sc=decide ((sc.length:Int)<=32):=by
  unfold di
  rw[oj (fun j hj=>by rw[<-cP hj];show (!fI _ _)=false;rw[hal j hj];rfl)];simp
 exact eS G9 hQ hbel (.bool (decide ((sc.length:Int)<=32))) results122 ⟨by rw[hfinS],rfl⟩
theorem cadm_c (H:aa)(x0 y0 x1 y1:Int):zC 170 [.agg [iV x0,iV y0,iV x1,iV y1]] H (.bool (gf x0 y0 x1 y1)) H:=by
 refine AcT true func170 ?_;intro hbel Q hQ
 refine aB ?_
 refine glp (fun k F Hx=>∃i:Nat,i+k=4/\(∀j:Nat,j<i->btw (ad4 x0 y0 x1 y1 j) (-1048576) 1048576=true)/\F=[(1,.ptr (some (H.length,0))),(13,.agg [iV x0,iV y0,iV x1,iV y1]),(14,iV (i:Int))]/\Hx=H++[.cells true 0 [iV x0,iV y0,iV x1,iV y1]]) (4) ?_ ?_
 ·refine⟨_,_,_,⟨0,by omega,(fun j h=>by omega),rfl,rfl⟩,bS hbel [0] aJ⟩
 rintro k0 F Hx ⟨i,hm0,hal,rfl,rfl⟩ J0 hJ0
 refine aB ?_
 refine cK (fun h1=>?_) (fun h1=>?_)
 ·have h1d:=bsT h1
  obtain rfl|rfl|rfl|rfl:=(by omega:i=0\/i=1\/i=2\/i=3)
  ·have G10:=jn h1 @h1d
   refine ae G10 ?_
   refine cv (ec _ _ _ _) ?_
   refine rcs G10 (fun h2 h2d G11=>?_) (fun h2 h2d G12=>?_)
   ·have hfinA:gf x0 y0 x1 y1=false:=by unfold gf;simp[h2d]
    exact eR G11 hQ hbel (.bool false) results170 ⟨by rw[hfinA],rfl⟩
   have hbk:=h2d
   refine ae G12 ?_
   refine hJ0 _ _ ⟨k0-1,by omega,_,_,_,⟨0+1,by omega,fun j hj=>by
         rcases Nat.lt_or_ge j 0 with h|h
         ·exact hal j h
         rw[show j=0 by omega];exact hbk,rfl,rfl⟩,bS hbel [0] aJ⟩
  ·have G13:=jn h1 @h1d
   refine ae G13 ?_
   refine cv (ec _ _ _ _) ?_
   refine rcs G13 (fun h3 h3d G14=>?_) (fun h3 h3d G15=>?_)
   ·have hfinA:gf x0 y0 x1 y1=false:=by unfold gf;simp[h3d]
    exact eR G14 hQ hbel (.bool false) results170 ⟨by rw[hfinA],rfl⟩
   have hbk:=h3d
   refine ae G15 ?_
   refine hJ0 _ _ ⟨k0-1,by omega,_,_,_,⟨1+1,by omega,fun j hj=>by
         rcases Nat.lt_or_ge j 1 with h|h
         ·exact hal j h
         rw[show j=1 by omega];exact hbk,rfl,rfl⟩,bS hbel [0] aJ⟩
  ·have G16:=jn h1 @h1d
   refine ae G16 ?_
   refine cv (ec _ _ _ _) ?_
   refine rcs G16 (fun h4 h4d G17=>?_) (fun h4 h4d G18=>?_)
   ·have hfinA:gf x0 y0 x1 y1=false:=by unfold gf;simp[h4d]
    exact eR G17 hQ hbel (.bool false) results170 ⟨by rw[hfinA],rfl⟩
   have hbk:=h4d
   refine ae G18 ?_
   refine hJ0 _ _ ⟨k0-1,by omega,_,_,_,⟨2+1,by omega,fun j hj=>by
         rcases Nat.lt_or_ge j 2 with h|h
         ·exact hal j h
         rw[show j=2 by omega];exact hbk,rfl,rfl⟩,bS hbel [0] aJ⟩
  have G19:=jn h1 @h1d
  refine ae G19 ?_
  refine cv (ec _ _ _ _) ?_
  refine rcs G19 (fun h5 h5d G20=>?_) (fun h5 h5d G21=>?_)
  ·have hfinA:gf x0 y0 x1 y1=false:=by unfold gf;simp[h5d]
   exact eR G20 hQ hbel (.bool false) results170 ⟨by rw[hfinA],rfl⟩
  have hbk:=h5d
  refine ae G21 ?_
  refine hJ0 _ _ ⟨k0-1,by omega,_,_,_,⟨3+1,by omega,fun j hj=>by
        rcases Nat.lt_or_ge j 3 with h|h
        ·exact hal j h
        rw[show j=3 by omega];exact hbk,rfl,rfl⟩,bS hbel [0] aJ⟩
 have h1d:=bsT h1
 obtain rfl:i=4:=by omega
 have hfa0:btw x0 (-1048576) 1048576=true:=hal 0 (by omega)
 have hfa1:btw y0 (-1048576) 1048576=true:=hal 1 (by omega)
 have hfa2:btw x1 (-1048576) 1048576=true:=hal 2 (by omega)
 have hfa3:btw y1 (-1048576) 1048576=true:=hal 3 (by omega)
 have hxb:=aZ.1 hfa0
 have hyb:=aZ.1 hfa1
 have hxc:=aZ.1 hfa2
 have hyc:=aZ.1 hfa3
 have G22:=jn h1 @h1d
 refine ae G22 ?_
 refine cv (ec _ _ 0 _) ?_
 refine rgs G22 (fun h6 h6d G23=>?_) (fun h6 h6d G24=>?_)
 ·refine ae G23 ?_
  refine cvr G23 (ec _ _ 0 _) ?_
  exact eP hQ hbel (.bool (btw (y1-y0) 0 1024)) results170 ⟨by unfold gf;rw[hfa0,hfa1,hfa2,hfa3];simp[h1d,h6d],rfl⟩
 exact eR G24 hQ hbel (.bool false) results170 ⟨by unfold gf;rw[hfa0,hfa1,hfa2,hfa3];simp[h1d,h6d],rfl⟩
theorem cright_c (H:aa)(W Hh:Int)(pp:AV)(xs:List Int)(q:AV)(sc:List (Int×Int))(g:Int)(hpp:zI H pp xs)(hq:SlP H q sc)(hsc:sc.length<=1000000000):zC 74 [.agg [iV W,iV Hh,pp],q,iV g] H (.bool (bQ W Hh xs&&(di sc&&btw g 1 32))) H:=by
 obtain⟨bpp,opp,cpp,rfl,hbpp,hblpp,hb0pp⟩:=zA1 hpp
 obtain⟨bq,oq,cq,rfl,hbq,hblq,hb0q⟩:=zA1 hq
 refine AcT true func74 ?_;intro hbel Q hQ
 have G25:=jn @hbpp (jn @hb0pp (jn @hbq @hb0q))
 refine ae G25 ?_
 refine cv (mi _ W Hh _ xs (.inr (zA2 hb0pp hbpp))) ?_
 refine rgs G25 (fun h1 h1d G26=>?_) (fun h1 h1d G29=>?_)
 ·refine ae G26 ?_
  refine cv (cvs_c _ _ sc (zA2 hb0q hbq) (by omega)) ?_
  refine rgs G26 (fun h2 h2d G27=>?_) (fun h2 h2d G28=>?_)
  ·refine ae G27 ?_
   refine cvr G27 (ec _ g 1 _) ?_
   exact eP hQ hbel (.bool (btw g 1 32)) results74 ⟨by simp[h1d,h2d],rfl⟩
  exact eR G28 hQ hbel (.bool false) results74 ⟨by simp[h1d,h2d],rfl⟩
 exact eR G29 hQ hbel (.bool false) results74 ⟨by simp[h1d],rfl⟩
theorem hidt_c (H:aa)(W Hh:Int)(pp:AV)(xs:List Int)(x0 y0 x1 y1 vx vy vd far:Int)(hpp:zI H pp xs)(hV:bQ W Hh xs=true)(hx : -1048576<=x0/\x0<=1048576)(hy : -1048576<=y0/\y0<=1048576):zC 219 [.agg [iV W,iV Hh,pp],.agg [iV x0,iV y0,iV x1,iV y1],.agg [iV vx,iV vy,iV vd],iV far,.bool true] H (.bool (fl W Hh xs x0 y0 x1 y1 vx vy vd far true)) H:=by
 obtain⟨bpp,opp,cpp,rfl,hbpp,hblpp,hb0pp⟩:=zA1 hpp
 have htl:=mB x0 y0 vx vy vd 0 far
 refine AcT true func219 ?_;intro hbel Q hQ
 have G1:=jn @hbpp @hb0pp
 refine rcs G1 (fun h1 h1d G2=>?_) (fun h1 h1d G3=>?_)
 ·have hfinH:fl W Hh xs x0 y0 x1 y1 vx vy vd far true=false:=by unfold fl;rw[decide_eq_true h1d];rfl
  exact eR G2 hQ hbel (.bool false) results219 ⟨by rw[hfinH],rfl⟩
 have hf0:=h1d
 refine ae G3 ?_
 refine cvr G3 (nv _ _ _ _ _ _ 0 _) ?_
 refine glp (fun k F Hx=>∃i:Nat,i+k=(trL x0 y0 vx vy vd 0 far).length/\(∀j:Nat,j<i->ic W Hh xs true x0 y0 x1 y1 vx vy vd far (g1 (trL x0 y0 vx vy vd 0 far) j,g2 (trL x0 y0 vx vy vd 0 far) j)=false)/\F=[(3,iV far),(4,.bool true),(5,.ptr (some (H.length,0))),(7,.ptr (some (H.length+1,0))),(11,.ptr (some (H.length+2,0))),(51,.sl (some (H.length+3,0)) ((trL x0 y0 vx vy vd 0 far).length) (aW (trL x0 y0 vx vy vd 0 far).length)),(52,iV (((trL x0 y0 vx vy vd 0 far).length:Nat):Int)),(53,iV (i:Int))]/\Hx=H++[.cells true 0 [iV W,iV Hh,.sl (some (bpp,0)) xs.length cpp],.cells true 0 [iV vx,iV vy,iV vd],.cells true 0 [iV x0,iV y0,iV x1,iV y0,iV x0,iV y1,iV x1,iV y1],.cells (aQ (trL x0 y0 vx vy vd 0 far).length) 2 (prs (trL x0 y0 vx vy vd 0 far))]) ((trL x0 y0 vx vy vd 0 far).length) ?_ ?_
 ·refine⟨_,_,_,⟨0,by omega,(fun j h=>by omega),rfl,rfl⟩,bS hbel [0,2,3,4] cD⟩
 rintro k0 F Hx ⟨i,hm0,hal,rfl,rfl⟩ J0 hJ0
 have G4:=jn @bF (jn @cJ G3)
 refine rcs G4 (fun h2 h2d _=>?_) (fun h2 h2d G22=>?_)
 ·have hlt:i<(trL x0 y0 vx vy vd 0 far).length:=by omega
  have htm:=trL_mem (List.getElem_mem hlt)
  rw[<-cP hlt] at htm
  simp only at htm
  have q3:=c8 (l:=trL x0 y0 vx vy vd 0 far) (j:=i) (by omega)
  have G5:=jn h2 (jn h2d (jn q3 G4))
  refine ae G5 ?_
  refine cv (pat_c _ W _ _ xs _ _ (zA2 hb0pp hbpp) hV) ?_
  refine rcs G5 (fun h4 h4d _=>?_) (fun h4 h4d _=>?_)
  ·have h4n:=bnT h4
   have hno:ic W Hh xs true x0 y0 x1 y1 vx vy vd far ((g1 (trL x0 y0 vx vy vd 0 far) i),(g2 (trL x0 y0 vx vy vd 0 far) i))=false:=by unfold ic;rw[beq_eq_false_iff_ne.2 (by exact h4d)];rfl
   have G6:=jn h4 (jn h4n (jn @aP (jn @aO G5)))
   refine ae G6 ?_
   refine hJ0 _ _ ⟨k0-1,by omega,_,_,_,⟨i+1,by omega,fun j hj=>by
         rcases Nat.lt_or_ge j i with h|h
         ·exact hal j h
         rw[show j=i by omega];exact hno,rfl,rfl⟩,bS hbel [0,1,2,3] cD⟩
  have h4n:=bnT h4
  have hat:atI W Hh xs (g1 (trL x0 y0 vx vy vd 0 far) i) (g2 (trL x0 y0 vx vy vd 0 far) i)=2:=by exact h4d
  have G7:=jn h4 (jn h4n (jn @aP (jn @aO G5)))
  refine ae G7 ?_
  refine glp (fun k F Hx=>∃n:Nat,n+k=4/\F=[(3,iV far),(4,.bool true),(5,.ptr (some (H.length,0))),(7,.ptr (some (H.length+1,0))),(11,.ptr (some (H.length+2,0))),(16,.ptr (some (H.length+4,0))),(17,.bool (h4K true x0 y0 x1 y1 vx vy vd far (g1 (trL x0 y0 vx vy vd 0 far) i) (g2 (trL x0 y0 vx vy vd 0 far) i) n)),(51,.sl (some (H.length+3,0)) ((trL x0 y0 vx vy vd 0 far).length) (aW (trL x0 y0 vx vy vd 0 far).length)),(52,iV (((trL x0 y0 vx vy vd 0 far).length:Nat):Int)),(53,iV (i:Int)),(76,.agg [iV x0,iV y0,iV x1,iV y0,iV x0,iV y1,iV x1,iV y1]),(77,iV (n:Int))]/\Hx=H++[.cells true 0 [iV W,iV Hh,.sl (some (bpp,0)) xs.length cpp],.cells true 0 [iV vx,iV vy,iV vd],.cells true 0 [iV x0,iV y0,iV x1,iV y0,iV x0,iV y1,iV x1,iV y1],.cells (aQ (trL x0 y0 vx vy vd 0 far).length) 2 (prs (trL x0 y0 vx vy vd 0 far)),.cells true 0 [iV ((g1 (trL x0 y0 vx vy vd 0 far) i)*64),iV ((g2 (trL x0 y0 vx vy vd 0 far) i)*64),iV (((g1 (trL x0 y0 vx vy vd 0 far) i)+1)*64),iV (((g2 (trL x0 y0 vx vy vd 0 far) i)+1)*64)]]) (4) ?_ ?_
  ·refine⟨_,_,_,⟨0,by omega,rfl,rfl⟩,bS hbel [0,1,2,3,5] (aC @h4K.eq_1)⟩
  rintro k1 F Hx ⟨n,hm1,rfl,rfl⟩ J1 hJ1
  refine rcs G7 (fun h5 h5d _=>?_) (fun h5 h5d G19=>?_)
  ·obtain rfl|rfl|rfl|rfl:=(by omega:n=0\/n=1\/n=2\/n=3)
   ·have G8:=j2 h5 h5d G7
    refine rgs G8 (fun h6 h6d G9=>?_) (fun h6 h6d _=>?_)
    ·have hst:h4K true x0 y0 x1 y1 vx vy vd far (g1 (trL x0 y0 vx vy vd 0 far) i) (g2 (trL x0 y0 vx vy vd 0 far) i) 1=dm x0 y0 vx vy vd far ((g1 (trL x0 y0 vx vy vd 0 far) i)*64) ((g2 (trL x0 y0 vx vy vd 0 far) i)*64) (((g1 (trL x0 y0 vx vy vd 0 far) i)+1)*64) (((g2 (trL x0 y0 vx vy vd 0 far) i)+1)*64):=by
      show (h4K true x0 y0 x1 y1 vx vy vd far (g1 (trL x0 y0 vx vy vd 0 far) i) (g2 (trL x0 y0 vx vy vd 0 far) i) 0&&hcB true x0 y0 vx vy vd far (g1 (trL x0 y0 vx vy vd 0 far) i) (g2 (trL x0 y0 vx vy vd 0 far) i))=_
      rw[h6d,Bool.true_and];exact hcB_t rfl
     refine ae G9 ?_
     refine cvr G9 (fp _ _ _ _ _ _ _ _ _ _ _) ?_
     refine hJ1 _ _ ⟨k1-1,by omega,_,_,_,⟨0+1,by omega,rfl,rfl⟩,bS hbel [0,1,2,3,4] (aC @hst)⟩
    exact absurd (show true=false from h6d) (by decide)
   ·have G10:=j2 h5 h5d G7
    refine rgs G10 (fun h7 h7d G11=>?_) (fun h7 h7d G12=>?_)
    ·have hst:h4K true x0 y0 x1 y1 vx vy vd far (g1 (trL x0 y0 vx vy vd 0 far) i) (g2 (trL x0 y0 vx vy vd 0 far) i) 2=dm x1 y0 vx vy vd far ((g1 (trL x0 y0 vx vy vd 0 far) i)*64) ((g2 (trL x0 y0 vx vy vd 0 far) i)*64) (((g1 (trL x0 y0 vx vy vd 0 far) i)+1)*64) (((g2 (trL x0 y0 vx vy vd 0 far) i)+1)*64):=by
      show (h4K true x0 y0 x1 y1 vx vy vd far (g1 (trL x0 y0 vx vy vd 0 far) i) (g2 (trL x0 y0 vx vy vd 0 far) i) 1&&hcB true x1 y0 vx vy vd far (g1 (trL x0 y0 vx vy vd 0 far) i) (g2 (trL x0 y0 vx vy vd 0 far) i))=_
      rw[h7d,Bool.true_and];exact hcB_t rfl
     refine ae G11 ?_
     refine cvr G11 (fp _ _ _ _ _ _ _ _ _ _ _) ?_
     refine hJ1 _ _ ⟨k1-1,by omega,_,_,_,⟨1+1,by omega,rfl,rfl⟩,bS hbel [0,1,2,3,4] (aC @hst)⟩
    have hst:h4K true x0 y0 x1 y1 vx vy vd far (g1 (trL x0 y0 vx vy vd 0 far) i) (g2 (trL x0 y0 vx vy vd 0 far) i) 2=false:=by
     show (h4K true x0 y0 x1 y1 vx vy vd far (g1 (trL x0 y0 vx vy vd 0 far) i) (g2 (trL x0 y0 vx vy vd 0 far) i) 1&&_)=false
     rw[h7d];rfl
    refine ae G12 ?_
    refine hJ1 _ _ ⟨k1-1,by omega,_,_,_,⟨1+1,by omega,rfl,rfl⟩,bS hbel [0,1,2,3,4] (aC @hst)⟩
   ·have G13:=j2 h5 h5d G7
    refine rgs G13 (fun h8 h8d G14=>?_) (fun h8 h8d G15=>?_)
    ·have hst:h4K true x0 y0 x1 y1 vx vy vd far (g1 (trL x0 y0 vx vy vd 0 far) i) (g2 (trL x0 y0 vx vy vd 0 far) i) 3=dm x0 y1 vx vy vd far ((g1 (trL x0 y0 vx vy vd 0 far) i)*64) ((g2 (trL x0 y0 vx vy vd 0 far) i)*64) (((g1 (trL x0 y0 vx vy vd 0 far) i)+1)*64) (((g2 (trL x0 y0 vx vy vd 0 far) i)+1)*64):=by
      show (h4K true x0 y0 x1 y1 vx vy vd far (g1 (trL x0 y0 vx vy vd 0 far) i) (g2 (trL x0 y0 vx vy vd 0 far) i) 2&&hcB true x0 y1 vx vy vd far (g1 (trL x0 y0 vx vy vd 0 far) i) (g2 (trL x0 y0 vx vy vd 0 far) i))=_
      rw[h8d,Bool.true_and];exact hcB_t rfl
     refine ae G14 ?_
     refine cvr G14 (fp _ _ _ _ _ _ _ _ _ _ _) ?_
     refine hJ1 _ _ ⟨k1-1,by omega,_,_,_,⟨2+1,by omega,rfl,rfl⟩,bS hbel [0,1,2,3,4] (aC @hst)⟩
    have hst:h4K true x0 y0 x1 y1 vx vy vd far (g1 (trL x0 y0 vx vy vd 0 far) i) (g2 (trL x0 y0 vx vy vd 0 far) i) 3=false:=by
     show (h4K true x0 y0 x1 y1 vx vy vd far (g1 (trL x0 y0 vx vy vd 0 far) i) (g2 (trL x0 y0 vx vy vd 0 far) i) 2&&_)=false
     rw[h8d];rfl
    refine ae G15 ?_
    refine hJ1 _ _ ⟨k1-1,by omega,_,_,_,⟨2+1,by omega,rfl,rfl⟩,bS hbel [0,1,2,3,4] (aC @hst)⟩
   have G16:=j2 h5 h5d G7
   refine rgs G16 (fun h9 h9d G17=>?_) (fun h9 h9d G18=>?_)
   ·have hst:h4K true x0 y0 x1 y1 vx vy vd far (g1 (trL x0 y0 vx vy vd 0 far) i) (g2 (trL x0 y0 vx vy vd 0 far) i) 4=dm x1 y1 vx vy vd far ((g1 (trL x0 y0 vx vy vd 0 far) i)*64) ((g2 (trL x0 y0 vx vy vd 0 far) i)*64) (((g1 (trL x0 y0 vx vy vd 0 far) i)+1)*64) (((g2 (trL x0 y0 vx vy vd 0 far) i)+1)*64):=by
     show (h4K true x0 y0 x1 y1 vx vy vd far (g1 (trL x0 y0 vx vy vd 0 far) i) (g2 (trL x0 y0 vx vy vd 0 far) i) 3&&hcB true x1 y1 vx vy vd far (g1 (trL x0 y0 vx vy vd 0 far) i) (g2 (trL x0 y0 vx vy vd 0 far) i))=_
     rw[h9d,Bool.true_and];exact hcB_t rfl
    refine ae G17 ?_
    refine cvr G17 (fp _ _ _ _ _ _ _ _ _ _ _) ?_
    refine hJ1 _ _ ⟨k1-1,by omega,_,_,_,⟨3+1,by omega,rfl,rfl⟩,bS hbel [0,1,2,3,4] (aC @hst)⟩
   have hst:h4K true x0 y0 x1 y1 vx vy vd far (g1 (trL x0 y0 vx vy vd 0 far) i) (g2 (trL x0 y0 vx vy vd 0 far) i) 4=false:=by
    show (h4K true x0 y0 x1 y1 vx vy vd far (g1 (trL x0 y0 vx vy vd 0 far) i) (g2 (trL x0 y0 vx vy vd 0 far) i) 3&&_)=false
    rw[h9d];rfl
   refine ae G18 ?_
   refine hJ1 _ _ ⟨k1-1,by omega,_,_,_,⟨3+1,by omega,rfl,rfl⟩,bS hbel [0,1,2,3,4] (aC @hst)⟩
  obtain rfl:n=4:=by omega
  refine rcs G19 (fun h10 h10d G20=>?_) (fun h10 h10d G21=>?_)
  ·have hfinH:fl W Hh xs x0 y0 x1 y1 vx vy vd far true=true:=by
    unfold fl
    rw[decide_eq_false hf0]
    exact List.any_eq_true.2 ⟨_,List.getElem_mem hlt,by
     rw[<-cP hlt];unfold ic;rw[Bool.and_eq_true,beq_iff_eq];exact⟨hat,h4K_4.symm.trans h10d⟩⟩
   exact eR G20 hQ hbel (.bool true) results219 ⟨by rw[hfinH],rfl⟩
  have hno:ic W Hh xs true x0 y0 x1 y1 vx vy vd far ((g1 (trL x0 y0 vx vy vd 0 far) i),(g2 (trL x0 y0 vx vy vd 0 far) i))=false:=by unfold ic;rw[Bool.and_eq_false_iff];right;exact h4K_4.symm.trans h10d
  refine ae G21 ?_
  refine hJ0 _ _ ⟨k0-1,by omega,_,_,_,⟨i+1,by omega,fun j hj=>by
        rcases Nat.lt_or_ge j i with h|h
        ·exact hal j h
        rw[show j=i by omega];exact hno,rfl,rfl⟩,bS hbel [0,1,2,3] cD⟩
 obtain rfl:i=(trL x0 y0 vx vy vd 0 far).length:=by omega
 have hfinH:fl W Hh xs x0 y0 x1 y1 vx vy vd far true=false:=by
  unfold fl
  rw[oj (fun j hj=>by rw[<-cP hj];exact hal j hj)];simp
 exact eR G22 hQ hbel (.bool false) results219 ⟨by rw[hfinH],rfl⟩
theorem hidf_c (H:aa)(W Hh:Int)(pp:AV)(xs:List Int)(x0 y0 x1 y1 vx vy vd far:Int)(hpp:zI H pp xs)(hV:bQ W Hh xs=true)(hx : -1048576<=x0/\x0<=1048576)(hy : -1048576<=y0/\y0<=1048576):zC 219 [.agg [iV W,iV Hh,pp],.agg [iV x0,iV y0,iV x1,iV y1],.agg [iV vx,iV vy,iV vd],iV far,.bool false] H (.bool (fl W Hh xs x0 y0 x1 y1 vx vy vd far false)) H:=by
 obtain⟨bpp,opp,cpp,rfl,hbpp,hblpp,hb0pp⟩:=zA1 hpp
 have htl:=mB x0 y0 vx vy vd 0 far
 refine AcT true func219 ?_;intro hbel Q hQ
 have G23:=jn @hbpp @hb0pp
 refine rcs G23 (fun h1 h1d G24=>?_) (fun h1 h1d G25=>?_)
 ·have hfinH:fl W Hh xs x0 y0 x1 y1 vx vy vd far false=false:=by unfold fl;rw[decide_eq_true h1d];rfl
  exact eR G24 hQ hbel (.bool false) results219 ⟨by rw[hfinH],rfl⟩
 have hf0:=h1d
 refine ae G25 ?_
 refine cvr G25 (nv _ _ _ _ _ _ 0 _) ?_
 refine glp (fun k F Hx=>∃i:Nat,i+k=(trL x0 y0 vx vy vd 0 far).length/\(∀j:Nat,j<i->ic W Hh xs false x0 y0 x1 y1 vx vy vd far (g1 (trL x0 y0 vx vy vd 0 far) j,g2 (trL x0 y0 vx vy vd 0 far) j)=false)/\F=[(3,iV far),(4,.bool false),(5,.ptr (some (H.length,0))),(7,.ptr (some (H.length+1,0))),(11,.ptr (some (H.length+2,0))),(51,.sl (some (H.length+3,0)) ((trL x0 y0 vx vy vd 0 far).length) (aW (trL x0 y0 vx vy vd 0 far).length)),(52,iV (((trL x0 y0 vx vy vd 0 far).length:Nat):Int)),(53,iV (i:Int))]/\Hx=H++[.cells true 0 [iV W,iV Hh,.sl (some (bpp,0)) xs.length cpp],.cells true 0 [iV vx,iV vy,iV vd],.cells true 0 [iV x0,iV y0,iV x1,iV y0,iV x0,iV y1,iV x1,iV y1],.cells (aQ (trL x0 y0 vx vy vd 0 far).length) 2 (prs (trL x0 y0 vx vy vd 0 far))]) ((trL x0 y0 vx vy vd 0 far).length) ?_ ?_
 ·refine⟨_,_,_,⟨0,by omega,(fun j h=>by omega),rfl,rfl⟩,bS hbel [0,2,3,4] cD⟩
 rintro k0 F Hx ⟨i,hm0,hal,rfl,rfl⟩ J0 hJ0
 have G26:=jn @bF (jn @cJ G25)
 refine rcs G26 (fun h2 h2d _=>?_) (fun h2 h2d G44=>?_)
 ·have hlt:i<(trL x0 y0 vx vy vd 0 far).length:=by omega
  have htm:=trL_mem (List.getElem_mem hlt)
  rw[<-cP hlt] at htm
  simp only at htm
  have q3:=c8 (l:=trL x0 y0 vx vy vd 0 far) (j:=i) (by omega)
  have G27:=jn h2 (jn h2d (jn q3 G26))
  refine ae G27 ?_
  refine cv (pat_c _ W _ _ xs _ _ (zA2 hb0pp hbpp) hV) ?_
  refine rcs G27 (fun h4 h4d _=>?_) (fun h4 h4d _=>?_)
  ·have h4n:=bnT h4
   have hno:ic W Hh xs false x0 y0 x1 y1 vx vy vd far ((g1 (trL x0 y0 vx vy vd 0 far) i),(g2 (trL x0 y0 vx vy vd 0 far) i))=false:=by unfold ic;rw[beq_eq_false_iff_ne.2 (by exact h4d)];rfl
   have G28:=jn h4 (jn h4n (jn @aP (jn @aO G27)))
   refine ae G28 ?_
   refine hJ0 _ _ ⟨k0-1,by omega,_,_,_,⟨i+1,by omega,fun j hj=>by
         rcases Nat.lt_or_ge j i with h|h
         ·exact hal j h
         rw[show j=i by omega];exact hno,rfl,rfl⟩,bS hbel [0,1,2,3] cD⟩
  have h4n:=bnT h4
  have hat:atI W Hh xs (g1 (trL x0 y0 vx vy vd 0 far) i) (g2 (trL x0 y0 vx vy vd 0 far) i)=2:=by exact h4d
  have G29:=jn h4 (jn h4n (jn @aP (jn @aO G27)))
  refine ae G29 ?_
  refine glp (fun k F Hx=>∃n:Nat,n+k=4/\F=[(3,iV far),(4,.bool false),(5,.ptr (some (H.length,0))),(7,.ptr (some (H.length+1,0))),(11,.ptr (some (H.length+2,0))),(16,.ptr (some (H.length+4,0))),(17,.bool (h4K false x0 y0 x1 y1 vx vy vd far (g1 (trL x0 y0 vx vy vd 0 far) i) (g2 (trL x0 y0 vx vy vd 0 far) i) n)),(51,.sl (some (H.length+3,0)) ((trL x0 y0 vx vy vd 0 far).length) (aW (trL x0 y0 vx vy vd 0 far).length)),(52,iV (((trL x0 y0 vx vy vd 0 far).length:Nat):Int)),(53,iV (i:Int)),(76,.agg [iV x0,iV y0,iV x1,iV y0,iV x0,iV y1,iV x1,iV y1]),(77,iV (n:Int))]/\Hx=H++[.cells true 0 [iV W,iV Hh,.sl (some (bpp,0)) xs.length cpp],.cells true 0 [iV vx,iV vy,iV vd],.cells true 0 [iV x0,iV y0,iV x1,iV y0,iV x0,iV y1,iV x1,iV y1],.cells (aQ (trL x0 y0 vx vy vd 0 far).length) 2 (prs (trL x0 y0 vx vy vd 0 far)),.cells true 0 [iV ((g1 (trL x0 y0 vx vy vd 0 far) i)*64),iV ((g2 (trL x0 y0 vx vy vd 0 far) i)*64),iV (((g1 (trL x0 y0 vx vy vd 0 far) i)+1)*64),iV (((g2 (trL x0 y0 vx vy vd 0 far) i)+1)*64)]]) (4) ?_ ?_
  ·refine⟨_,_,_,⟨0,by omega,rfl,rfl⟩,bS hbel [0,1,2,3,5] (aC @h4K.eq_1)⟩
  rintro k1 F Hx ⟨n,hm1,rfl,rfl⟩ J1 hJ1
  refine rcs G29 (fun h5 h5d _=>?_) (fun h5 h5d G41=>?_)
  ·obtain rfl|rfl|rfl|rfl:=(by omega:n=0\/n=1\/n=2\/n=3)
   ·have G30:=j2 h5 h5d G29
    refine rgs G30 (fun h6 h6d G31=>?_) (fun h6 h6d _=>?_)
    ·have hst:h4K false x0 y0 x1 y1 vx vy vd far (g1 (trL x0 y0 vx vy vd 0 far) i) (g2 (trL x0 y0 vx vy vd 0 far) i) 1=ef x0 y0 vx vy vd 0 far ((g1 (trL x0 y0 vx vy vd 0 far) i)*64) ((g2 (trL x0 y0 vx vy vd 0 far) i)*64) (((g1 (trL x0 y0 vx vy vd 0 far) i)+1)*64) (((g2 (trL x0 y0 vx vy vd 0 far) i)+1)*64):=by
      show (h4K false x0 y0 x1 y1 vx vy vd far (g1 (trL x0 y0 vx vy vd 0 far) i) (g2 (trL x0 y0 vx vy vd 0 far) i) 0&&hcB false x0 y0 vx vy vd far (g1 (trL x0 y0 vx vy vd 0 far) i) (g2 (trL x0 y0 vx vy vd 0 far) i))=_
      rw[h6d,Bool.true_and];exact hcB_f rfl
     refine ae G31 ?_
     refine cvr G31 (jD _ _ _ _ _ _ 0 _ _ _ _ _) ?_
     refine hJ1 _ _ ⟨k1-1,by omega,_,_,_,⟨0+1,by omega,rfl,rfl⟩,bS hbel [0,1,2,3,4] (aC @hst)⟩
    exact absurd (show true=false from h6d) (by decide)
   ·have G32:=j2 h5 h5d G29
    refine rgs G32 (fun h7 h7d G33=>?_) (fun h7 h7d G34=>?_)
    ·have hst:h4K false x0 y0 x1 y1 vx vy vd far (g1 (trL x0 y0 vx vy vd 0 far) i) (g2 (trL x0 y0 vx vy vd 0 far) i) 2=ef x1 y0 vx vy vd 0 far ((g1 (trL x0 y0 vx vy vd 0 far) i)*64) ((g2 (trL x0 y0 vx vy vd 0 far) i)*64) (((g1 (trL x0 y0 vx vy vd 0 far) i)+1)*64) (((g2 (trL x0 y0 vx vy vd 0 far) i)+1)*64):=by
      show (h4K false x0 y0 x1 y1 vx vy vd far (g1 (trL x0 y0 vx vy vd 0 far) i) (g2 (trL x0 y0 vx vy vd 0 far) i) 1&&hcB false x1 y0 vx vy vd far (g1 (trL x0 y0 vx vy vd 0 far) i) (g2 (trL x0 y0 vx vy vd 0 far) i))=_
      rw[h7d,Bool.true_and];exact hcB_f rfl
     refine ae G33 ?_
     refine cvr G33 (jD _ _ _ _ _ _ 0 _ _ _ _ _) ?_
     refine hJ1 _ _ ⟨k1-1,by omega,_,_,_,⟨1+1,by omega,rfl,rfl⟩,bS hbel [0,1,2,3,4] (aC @hst)⟩
    have hst:h4K false x0 y0 x1 y1 vx vy vd far (g1 (trL x0 y0 vx vy vd 0 far) i) (g2 (trL x0 y0 vx vy vd 0 far) i) 2=false:=by
     show (h4K false x0 y0 x1 y1 vx vy vd far (g1 (trL x0 y0 vx vy vd 0 far) i) (g2 (trL x0 y0 vx vy vd 0 far) i) 1&&_)=false
     rw[h7d];rfl
    refine ae G34 ?_
    refine hJ1 _ _ ⟨k1-1,by omega,_,_,_,⟨1+1,by omega,rfl,rfl⟩,bS hbel [0,1,2,3,4] (aC @hst)⟩
   ·have G35:=j2 h5 h5d G29
    refine rgs G35 (fun h8 h8d G36=>?_) (fun h8 h8d G37=>?_)
    ·have hst:h4K false x0 y0 x1 y1 vx vy vd far (g1 (trL x0 y0 vx vy vd 0 far) i) (g2 (trL x0 y0 vx vy vd 0 far) i) 3=ef x0 y1 vx vy vd 0 far ((g1 (trL x0 y0 vx vy vd 0 far) i)*64) ((g2 (trL x0 y0 vx vy vd 0 far) i)*64) (((g1 (trL x0 y0 vx vy vd 0 far) i)+1)*64) (((g2 (trL x0 y0 vx vy vd 0 far) i)+1)*64):=by
      show (h4K false x0 y0 x1 y1 vx vy vd far (g1 (trL x0 y0 vx vy vd 0 far) i) (g2 (trL x0 y0 vx vy vd 0 far) i) 2&&hcB false x0 y1 vx vy vd far (g1 (trL x0 y0 vx vy vd 0 far) i) (g2 (trL x0 y0 vx vy vd 0 far) i))=_
      rw[h8d,Bool.true_and];exact hcB_f rfl
     refine ae G36 ?_
     refine cvr G36 (jD _ _ _ _ _ _ 0 _ _ _ _ _) ?_
     refine hJ1 _ _ ⟨k1-1,by omega,_,_,_,⟨2+1,by omega,rfl,rfl⟩,bS hbel [0,1,2,3,4] (aC @hst)⟩
    have hst:h4K false x0 y0 x1 y1 vx vy vd far (g1 (trL x0 y0 vx vy vd 0 far) i) (g2 (trL x0 y0 vx vy vd 0 far) i) 3=false:=by
     show (h4K false x0 y0 x1 y1 vx vy vd far (g1 (trL x0 y0 vx vy vd 0 far) i) (g2 (trL x0 y0 vx vy vd 0 far) i) 2&&_)=false
     rw[h8d];rfl
    refine ae G37 ?_
    refine hJ1 _ _ ⟨k1-1,by omega,_,_,_,⟨2+1,by omega,rfl,rfl⟩,bS hbel [0,1,2,3,4] (aC @hst)⟩
   have G38:=j2 h5 h5d G29
   refine rgs G38 (fun h9 h9d G39=>?_) (fun h9 h9d G40=>?_)
   ·have hst:h4K false x0 y0 x1 y1 vx vy vd far (g1 (trL x0 y0 vx vy vd 0 far) i) (g2 (trL x0 y0 vx vy vd 0 far) i) 4=ef x1 y1 vx vy vd 0 far ((g1 (trL x0 y0 vx vy vd 0 far) i)*64) ((g2 (trL x0 y0 vx vy vd 0 far) i)*64) (((g1 (trL x0 y0 vx vy vd 0 far) i)+1)*64) (((g2 (trL x0 y0 vx vy vd 0 far) i)+1)*64):=by
     show (h4K false x0 y0 x1 y1 vx vy vd far (g1 (trL x0 y0 vx vy vd 0 far) i) (g2 (trL x0 y0 vx vy vd 0 far) i) 3&&hcB false x1 y1 vx vy vd far (g1 (trL x0 y0 vx vy vd 0 far) i) (g2 (trL x0 y0 vx vy vd 0 far) i))=_
     rw[h9d,Bool.true_and];exact hcB_f rfl
    refine ae G39 ?_
    refine cvr G39 (jD _ _ _ _ _ _ 0 _ _ _ _ _) ?_
    refine hJ1 _ _ ⟨k1-1,by omega,_,_,_,⟨3+1,by omega,rfl,rfl⟩,bS hbel [0,1,2,3,4] (aC @hst)⟩
   have hst:h4K false x0 y0 x1 y1 vx vy vd far (g1 (trL x0 y0 vx vy vd 0 far) i) (g2 (trL x0 y0 vx vy vd 0 far) i) 4=false:=by
    show (h4K false x0 y0 x1 y1 vx vy vd far (g1 (trL x0 y0 vx vy vd 0 far) i) (g2 (trL x0 y0 vx vy vd 0 far) i) 3&&_)=false
    rw[h9d];rfl
   refine ae G40 ?_
   refine hJ1 _ _ ⟨k1-1,by omega,_,_,_,⟨3+1,by omega,rfl,rfl⟩,bS hbel [0,1,2,3,4] (aC @hst)⟩
  obtain rfl:n=4:=by omega
  refine rcs G41 (fun h10 h10d G42=>?_) (fun h10 h10d G43=>?_)
  ·have hfinH:fl W Hh xs x0 y0 x1 y1 vx vy vd far false=true:=by
    unfold fl
    rw[decide_eq_false hf0]
    exact List.any_eq_true.2 ⟨_,List.getElem_mem hlt,by
     rw[<-cP hlt];unfold ic;rw[Bool.and_eq_true,beq_iff_eq];exact⟨hat,h4K_4.symm.trans h10d⟩⟩
   exact eR G42 hQ hbel (.bool true) results219 ⟨by rw[hfinH],rfl⟩
  have hno:ic W Hh xs false x0 y0 x1 y1 vx vy vd far ((g1 (trL x0 y0 vx vy vd 0 far) i),(g2 (trL x0 y0 vx vy vd 0 far) i))=false:=by unfold ic;rw[Bool.and_eq_false_iff];right;exact h4K_4.symm.trans h10d
  refine ae G43 ?_
  refine hJ0 _ _ ⟨k0-1,by omega,_,_,_,⟨i+1,by omega,fun j hj=>by
        rcases Nat.lt_or_ge j i with h|h
        ·exact hal j h
        rw[show j=i by omega];exact hno,rfl,rfl⟩,bS hbel [0,1,2,3] cD⟩
 obtain rfl:i=(trL x0 y0 vx vy vd 0 far).length:=by omega
 have hfinH:fl W Hh xs x0 y0 x1 y1 vx vy vd far false=false:=by
  unfold fl
  rw[oj (fun j hj=>by rw[<-cP hj];exact hal j hj)];simp
 exact eR G44 hQ hbel (.bool false) results219 ⟨by rw[hfinH],rfl⟩
theorem emp_c (H:aa)(W Hh:Int)(pp:AV)(xs:List Int)(x0 y0 x1 y1 vx vy vd lo hi:Int)(hpp:zI H pp xs)(hV:bQ W Hh xs=true):zC 220 [.agg [iV W,iV Hh,pp],.agg [iV x0,iV y0,iV x1,iV y1],.agg [iV vx,iV vy,iV vd],iV lo,iV hi] H (.bool (empB W Hh xs x0 y0 x1 y1 vx vy vd lo hi)) H:=by
 obtain⟨bpp,opp,cpp,rfl,hbpp,hblpp,hb0pp⟩:=zA1 hpp
 have htl:=nu x0 y0 x1 y1 vx vy vd lo hi
 refine AcT true func220 ?_;intro hbel Q hQ
 have G1:=jn @hbpp @hb0pp
 refine ae G1 ?_
 refine cvr G1 (swept_c _ _ _ _ _ _ _ _ _ _) ?_
 refine glp (fun k F Hx=>∃i:Nat,i+k=(cZ x0 y0 x1 y1 vx vy vd lo hi).length/\(∀j:Nat,j<i->frC W Hh xs (g1 (cZ x0 y0 x1 y1 vx vy vd lo hi) j,g2 (cZ x0 y0 x1 y1 vx vy vd lo hi) j)=true)/\F=[(5,.ptr (some (H.length,0))),(23,.sl (some (H.length+1,0)) ((cZ x0 y0 x1 y1 vx vy vd lo hi).length) (aW (cZ x0 y0 x1 y1 vx vy vd lo hi).length)),(24,iV (((cZ x0 y0 x1 y1 vx vy vd lo hi).length:Nat):Int)),(25,iV (i:Int))]/\Hx=H++[.cells true 0 [iV W,iV Hh,.sl (some (bpp,0)) xs.length cpp],.cells (aQ (cZ x0 y0 x1 y1 vx vy vd lo hi).length) 2 (prs (cZ x0 y0 x1 y1 vx vy vd lo hi))]) ((cZ x0 y0 x1 y1 vx vy vd lo hi).length) ?_ ?_
 ·refine⟨_,_,_,⟨0,by omega,(fun j h=>by omega),rfl,rfl⟩,bS hbel [0,3] cD⟩
 rintro k0 F Hx ⟨i,hm0,hal,rfl,rfl⟩ J0 hJ0
 have G2:=jn @bF (jn @cJ G1)
 refine rcs G2 (fun h1 h1d _=>?_) (fun h1 h1d G6=>?_)
 ·have hlt:i<(cZ x0 y0 x1 y1 vx vy vd lo hi).length:=by omega
  have q2:=c8 (l:=cZ x0 y0 x1 y1 vx vy vd lo hi) (j:=i) (by omega)
  have G3:=jn h1 (jn h1d (jn q2 G2))
  refine ae G3 ?_
  refine cv (pat_c _ W _ _ xs _ _ (zA2 hb0pp hbpp) hV) ?_
  refine rcs G3 (fun h3 h3d _=>?_) (fun h3 h3d _=>?_)
  ·have h3n:=bnT h3
   have hfinE:empB W Hh xs x0 y0 x1 y1 vx vy vd lo hi=false:=by
    rw[<-Bool.not_eq_true];intro k
    have q:=List.all_eq_true.1 k _ (List.getElem_mem hlt)
    rw[<-cP hlt] at q
    have q2:atI W Hh xs (g1 (cZ x0 y0 x1 y1 vx vy vd lo hi) i) (g2 (cZ x0 y0 x1 y1 vx vy vd lo hi) i)=1:=by unfold frC at q;simpa using q
    exact absurd q2 (by exact h3d)
   have G4:=jn h3 (jn h3n (jn @aP (jn @aO G3)))
   exact eR G4 hQ hbel (.bool false) results220 ⟨by rw[hfinE],rfl⟩
  have h3n:=bnT h3
  have hone:frC W Hh xs ((g1 (cZ x0 y0 x1 y1 vx vy vd lo hi) i),(g2 (cZ x0 y0 x1 y1 vx vy vd lo hi) i))=true:=by unfold frC;rw[beq_iff_eq];exact h3d
  have G5:=jn h3 (jn h3n (jn @aP (jn @aO G3)))
  refine ae G5 ?_
  refine hJ0 _ _ ⟨k0-1,by omega,_,_,_,⟨i+1,by omega,fun j hj=>by
        rcases Nat.lt_or_ge j i with h|h
        ·exact hal j h
        rw[show j=i by omega];exact hone,rfl,rfl⟩,bS hbel [0,1] cD⟩
 obtain rfl:i=(cZ x0 y0 x1 y1 vx vy vd lo hi).length:=by omega
 have hfinE:empB W Hh xs x0 y0 x1 y1 vx vy vd lo hi=true:=List.all_eq_true.2 fun c hc=>by
  obtain⟨j,hj,rfl⟩:=List.mem_iff_getElem.1 hc
  rw[<-cP hj];exact hal j hj
 exact eR G6 hQ hbel (.bool true) results220 ⟨by rw[hfinE],rfl⟩
theorem ref_c (H:aa)(W Hh:Int)(pp:AV)(xs:List Int)(x0 y0 x1 y1 h m r g:Int)(hpp:zI H pp xs)(hV:bQ W Hh xs=true)(hA:gf x0 y0 x1 y1=true)(hg:1<=g/\g<=32)(hbe:fI m r=true):zC 171 [.agg [iV W,iV Hh,pp],.agg [iV x0,iV y0,iV x1,iV y1],iV h,.agg [iV m,iV r],iV g] H (.bool (refB W Hh xs x0 y0 x1 y1 h m r g)) H:=by
 obtain⟨bpp,opp,cpp,rfl,hbpp,hblpp,hb0pp⟩:=zA1 hpp
 have had:=rE.1 hA
 have hbb:=gK.1 hbe
 have el0:(if 0<r-g then r-g else 0)=ei r g:=rfl
 have el1:0<=ei r g:=by unfold ei;split<;>omega
 refine AcT true func171 ?_;intro hbel Q hQ
 have G7:=jn @hbpp (jn @hb0pp @el0)
 refine ae G7 ?_
 refine cv (hbeam_c _ h m) ?_
 refine rcs G7 (fun h1 h1d _=>?_) (fun h1 h1d _=>?_)
 ·have h1n:=bnT h1
  have hfinR:refB W Hh xs x0 y0 x1 y1 h m r g=fl W Hh xs x0 y0 x1 y1 ((aG h m).1) ((aG h m).2.1) ((aG h m).2.2) (1024-g) false:=by unfold refB;rw[h1];rfl
  have G8:=jn h1 (jn h1n (jn @aP (jn @aO G7)))
  refine ae G8 ?_
  refine cvr G8 (hidf_c _ W _ _ xs _ _ _ _ _ _ _ _ (zA2 hb0pp hbpp) hV (by omega) (by omega)) ?_
  exact eP hQ hbel (.bool (fl W Hh xs x0 y0 x1 y1 ((aG h m).1) ((aG h m).2.1) ((aG h m).2.2) (1024-g) false)) results171 ⟨by rw[hfinR],rfl⟩
 have h1n:=bnT h1
 have hrf:=h1
 have G9:=jn h1 (jn h1n (jn @aP (jn @aO G7)))
 refine ae G9 ?_
 refine cv (hidt_c _ W _ _ xs _ _ _ _ _ _ _ _ (zA2 hb0pp hbpp) hV (by omega) (by omega)) ?_
 refine rgs G9 (fun h2 h2d G10=>?_) (fun h2 h2d G11=>?_)
 ·have hfinR:refB W Hh xs x0 y0 x1 y1 h m r g=empB W Hh xs x0 y0 x1 y1 (aG h m).1 (aG h m).2.1 (aG h m).2.2 (ei r g) (r+g):=by unfold refB;rw[hrf,h2d];rfl
  refine ae G10 ?_
  refine cvr G10 (emp_c _ W _ _ xs _ _ _ _ _ _ _ _ _ (zA2 hb0pp hbpp) hV) ?_
  exact eP hQ hbel (.bool (empB W Hh xs x0 y0 x1 y1 ((aG h m).1) ((aG h m).2.1) ((aG h m).2.2) (ei r g) (r+g))) results171 ⟨by rw[hfinR],rfl⟩
 have hfinR:refB W Hh xs x0 y0 x1 y1 h m r g=true:=by unfold refB;rw[hrf,h2d];rfl
 exact eR G11 hQ hbel (.bool true) results171 ⟨by rw[hfinR],rfl⟩
theorem bad_c (H:aa)(W Hh:Int)(pp:AV)(xs:List Int)(x0 y0 x1 y1 h:Int)(q:AV)(sc:List (Int×Int))(g:Int)(hpp:zI H pp xs)(hq:SlP H q sc)(hV:bQ W Hh xs=true)(hg:1<=g/\g<=32)(hsB:di sc=true):zC 124 [.agg [iV W,iV Hh,pp],.agg [iV x0,iV y0,iV x1,iV y1],iV h,q,iV g] H (.bool (badB W Hh xs x0 y0 x1 y1 h sc g)) H:=by
 obtain⟨bpp,opp,cpp,rfl,hbpp,hblpp,hb0pp⟩:=zA1 hpp
 obtain⟨bq,oq,cq,rfl,hbq,hblq,hb0q⟩:=zA1 hq
 have hsc:=dX.1 hsB
 refine AcT true func124 ?_;intro hbel Q hQ
 have G12:=jn @hbpp (jn @hb0pp (jn @hbq @hb0q))
 refine ae G12 ?_
 refine cv (cadm_c _ _ _ _ _) ?_
 refine rcs G12 (fun h1 h1d G13=>?_) (fun h1 h1d G14=>?_)
 ·have hfinB:badB W Hh xs x0 y0 x1 y1 h sc g=false:=by unfold badB;rw[h1d];rfl
  exact eR G13 hQ hbel (.bool false) results124 ⟨by rw[hfinB],rfl⟩
 have hadm:=h1d
 refine ae G14 ?_
 refine glp (fun k F Hx=>∃i:Nat,i+k=sc.length/\(∀j:Nat,j<i->refB W Hh xs x0 y0 x1 y1 h (g1 sc j) (g2 sc j) g=false)/\F=[(2,iV h),(4,iV g),(5,.ptr (some (H.length,0))),(6,.ptr (some (H.length+1,0))),(16,.sl (some (bq,0)) sc.length cq),(17,iV (sc.length:Int)),(18,iV (i:Int))]/\Hx=H++[.cells true 0 [iV W,iV Hh,.sl (some (bpp,0)) xs.length cpp],.cells true 0 [iV x0,iV y0,iV x1,iV y1]]) (sc.length) ?_ ?_
 ·refine⟨_,_,_,⟨0,by omega,(fun j h=>by omega),rfl,rfl⟩,bS hbel [0,1] aJ⟩
 rintro k0 F Hx ⟨i,hm0,hal,rfl,rfl⟩ J0 hJ0
 refine rcs G14 (fun h2 h2d _=>?_) (fun h2 h2d G18=>?_)
 ·have hlt:i<sc.length:=by omega
  have hbe:=hsc.2 _ (List.getElem_mem hlt)
  rw[<-cP hlt] at hbe
  have hbe2:fI (g1 sc i) (g2 sc i)=true:=hbe
  have q3:=c8 (l:=sc) (j:=i) (by omega)
  have G15:=jn h2 (jn h2d (jn q3 G14))
  refine ae G15 ?_
  refine cv (ref_c _ W _ _ xs _ _ _ _ h _ _ g (zA2 hb0pp hbpp) hV (by assumption) hg (by assumption)) ?_
  refine rcs G15 (fun h4 h4d G16=>?_) (fun h4 h4d G17=>?_)
  ·have hfinB:badB W Hh xs x0 y0 x1 y1 h sc g=true:=by
    unfold badB
    rw[hadm]
    exact List.any_eq_true.2 ⟨_,List.getElem_mem hlt,by rw[<-cP hlt];exact h4d⟩
   exact eR G16 hQ hbel (.bool true) results124 ⟨by rw[hfinB],rfl⟩
  have hno:=h4d
  refine ae G17 ?_
  refine hJ0 _ _ ⟨k0-1,by omega,_,_,_,⟨i+1,by omega,fun j hj=>by
        rcases Nat.lt_or_ge j i with h|h
        ·exact hal j h
        rw[show j=i by omega];exact hno,rfl,rfl⟩,bS hbel [0,1] aJ⟩
 obtain rfl:i=sc.length:=by omega
 have hfinB:badB W Hh xs x0 y0 x1 y1 h sc g=false:=by
  unfold badB
  rw[oj (fun j hj=>by rw[<-cP hj];exact hal j hj)];simp
 exact eR G18 hQ hbel (.bool false) results124 ⟨by rw[hfinB],rfl⟩
theorem tOk_x {W Hh:Int}{xs:List Int}{b:T6}{s:List (Int×Int)}{g:Int}(h:tX1 W b<tX0 b):tOk W Hh xs b s g=false:=by unfold tOk;rw[decide_eq_true h];rfl
theorem tOk_y {W Hh:Int}{xs:List Int}{b:T6}{s:List (Int×Int)}{g:Int}(h:tY1 Hh b<tY0 b):tOk W Hh xs b s g=false:=by unfold tOk;rw[decide_eq_true h];simp
theorem tOk_n {W Hh:Int}{xs:List Int}{b:T6}{s:List (Int×Int)}{g:Int}{i:Nat}(hi:i=(mkB b).length)(h:∀k:Nat,k<i->tP W Hh xs b s g k=true):tOk W Hh xs b s g=false:=by
 have e:tI W Hh xs b s g=(mkB b).length:=by unfold tI;rw[<-hi];exact og h (Nat.le_refl _) (.inl rfl)
 unfold tOk;rw[e,decide_eq_false (Nat.lt_irrefl _)];simp
theorem tI_i {W Hh:Int}{xs:List Int}{b:T6}{s:List (Int×Int)}{g:Int}{i:Nat}(hi:i<(mkB b).length)(h:∀k:Nat,k<i->tP W Hh xs b s g k=true)(h0:tP W Hh xs b s g i=false):tI W Hh xs b s g=i:=og h (by omega) (.inr h0)
theorem tOk_y2 {W Hh:Int}{xs:List Int}{b:T6}{s:List (Int×Int)}{g:Int}{i:Nat}(hx:¬tX1 W b<tX0 b)(hy:¬tY1 Hh b<tY0 b)(hi:i<(mkB b).length)(h:tI W Hh xs b s g=i):tOk W Hh xs b s g=true:=by
 unfold tOk;rw[decide_eq_false hx,decide_eq_false hy,h,decide_eq_true hi];rfl
theorem tJ_j {W Hh:Int}{xs:List Int}{b:T6}{s:List (Int×Int)}{g:Int}{j:Nat}(hj:0<j)(h0:tP W Hh xs b s g (j-1)=false)(hn:j<=(mkB b).length)(h:∀k:Nat,j<=k->k<(mkB b).length->tP W Hh xs b s g k=true):tJ W Hh xs b s g=j:=tlN_eq ⟨hj,h0⟩ hn h
theorem trim_c (H:aa)(W Hh:Int)(pp:AV)(xs:List Int)(x0 y0 x1 y1 f c:Int)(q:AV)(sc:List (Int×Int))(g:Int)(hpp:zI H pp xs)(hq:SlP H q sc)(hV:bQ W Hh xs=true)(hb:bxB x0 y0 x1 y1 f c=true)(hsB:di sc=true)(hg:1<=g/\g<=32):zC 76 [.agg [iV W,iV Hh,pp],.agg [iV x0,iV y0,iV x1,iV y1,iV f,iV c],q,iV g] H (.tup [.agg [iV (mkV (tOk W Hh xs (x0,y0,x1,y1,f,c) sc g) ((tB W Hh xs (x0,y0,x1,y1,f,c) sc g).1)),iV (mkV (tOk W Hh xs (x0,y0,x1,y1,f,c) sc g) ((tB W Hh xs (x0,y0,x1,y1,f,c) sc g).2.1)),iV (mkV (tOk W Hh xs (x0,y0,x1,y1,f,c) sc g) ((tB W Hh xs (x0,y0,x1,y1,f,c) sc g).2.2.1)),iV (mkV (tOk W Hh xs (x0,y0,x1,y1,f,c) sc g) ((tB W Hh xs (x0,y0,x1,y1,f,c) sc g).2.2.2.1)),iV (mkV (tOk W Hh xs (x0,y0,x1,y1,f,c) sc g) ((tB W Hh xs (x0,y0,x1,y1,f,c) sc g).2.2.2.2.1)),iV (mkV (tOk W Hh xs (x0,y0,x1,y1,f,c) sc g) ((tB W Hh xs (x0,y0,x1,y1,f,c) sc g).2.2.2.2.2))],.bool (tOk W Hh xs (x0,y0,x1,y1,f,c) sc g)]) H:=by
 obtain⟨bpp,opp,cpp,rfl,hbpp,hblpp,hb0pp⟩:=zA1 hpp
 obtain⟨bq,oq,cq,rfl,hbq,hblq,hb0q⟩:=zA1 hq
 have hbb:=bv.1 hb
 have hab:=hbb.2.2
 have haa:=bm.1 hab
 have hVV:=bo.1 hV
 have hw0:=hVV.w0
 have hw1:=hVV.w1
 have hh0:=hVV.h0
 have hh1:=hVV.h1
 have hln:=fy f c.toNat
 have e0:(if x0<0 then 0 else x0)=tX0 (x0,y0,x1,y1,f,c):=rfl
 have e1:(if y0<0 then 0 else y0)=tY0 (x0,y0,x1,y1,f,c):=rfl
 have e2:(if 64*W<x1 then 64*W else x1)=tX1 W (x0,y0,x1,y1,f,c):=rfl
 have e3:(if 64*Hh<y1 then 64*Hh else y1)=tY1 Hh (x0,y0,x1,y1,f,c):=rfl
 refine AcT true func76 ?_;intro hbel Q hQ
 have G1:=jn @hbpp (jn @hb0pp (jn @hbq (jn @hb0q (jn @e0 (jn @e1 (jn @e2 @e3))))))
 refine rgs G1 (fun h1 h1d G2=>?_) (fun h1 h1d G15=>?_)
 ·have hnx:=h1d
  refine rcs G2 (fun h2 h2d G3=>?_) (fun h2 h2d G4=>?_)
  ·have hfinO:=tOk_y (W:=W) (Hh:=Hh) (xs:=xs) (b:=(x0,y0,x1,y1,f,c)) (s:=sc) (g:=g) h2d
   exact eR G3 hQ hbel (.tup [.agg [iV 0,iV 0,iV 0,iV 0,iV 0,iV 0],.bool false]) results76 ⟨by (rw[hfinO];rfl),rfl⟩
  have hny:=h2d
  refine ae G4 ?_
  refine cvr G4 (oV _ f c hab) ?_
  refine glp (fun k F Hx=>∃i:Nat,i+k=(bg f c.toNat).length/\(∀j:Nat,j<i->tP W Hh xs (x0,y0,x1,y1,f,c) sc g j=true)/\F=[(2,.sl (some (bq,0)) sc.length cq),(3,iV g),(4,.ptr (some (H.length,0))),(8,.ptr (some (H.length+1,0))),(10,.ptr (some (H.length+2,0))),(11,.sl (some (H.length+3,i)) ((bg f c.toNat).length-i) none)]/\Hx=H++[.cells true 0 [iV W,iV Hh,.sl (some (bpp,0)) xs.length cpp],.cells true 0 [iV 0,iV 0,iV 0,iV 0,iV 0,iV 0],.cells true 0 [iV (tX0 (x0,y0,x1,y1,f,c)),iV (tY0 (x0,y0,x1,y1,f,c)),iV (tX1 W (x0,y0,x1,y1,f,c)),iV (tY1 Hh (x0,y0,x1,y1,f,c))],.cells true 1 (ints .i64 (bg f c.toNat))]) ((bg f c.toNat).length) ?_ ?_
  ·refine⟨_,_,_,⟨0,by omega,(fun j h=>by omega),rfl,rfl⟩,bS hbel [0,2,3,4] cD⟩
  rintro k0 F Hx ⟨i,hm0,hal,rfl,rfl⟩ J0 hJ0
  have G5:=jn @co (jn @cV G4)
  refine rgs G5 (fun h3 h3d _=>?_) (fun h3 h3d G13=>?_)
  ·have q4:=cn (k:=.i64) (xs:=bg f c.toNat) (j:=i) (by omega)
   have G6:=jn h3 (jn h3d (jn q4 G5))
   refine ae G6 ?_
   refine cd (bad_c _ W _ _ xs _ _ _ _ _ _ sc g (zA2 hb0pp hbpp) (zA2 hb0q hbq) hV hg hsB) ?_
   refine rcs G6 (fun h5 h5d G7=>?_) (fun h5 h5d G8=>?_)
   ·have hbi:=h5d
    refine ae G7 ?_
    have hv1:(bg f c.toNat).length-i-1=(bg f c.toNat).length-(i+1):=by omega
    refine hJ0 _ _ ⟨k0-1,by omega,_,_,_,⟨i+1,by omega,fun j hj=>by
          rcases Nat.lt_or_ge j i with h|h
          ·exact hal j h
          rw[show j=i by omega];exact hbi,rfl,rfl⟩,bS hbel [0,1,2,3] (aC @hv1)⟩
   have hpi:tP W Hh xs (x0,y0,x1,y1,f,c) sc g i=false:=h5d
   have hiN:i<(mkB (x0,y0,x1,y1,f,c)).length:=by show i<(bg f c.toNat).length;omega
   have hfinI:=tI_i hiN hal hpi
   have hfinO:=tOk_y2 hnx hny hiN hfinI
   refine rcs G8 (fun h6 h6d _=>?_) (fun h6 h6d _=>?_)
   ·have h6n:=bnT h6
    omega
   have h6n:=bnT h6
   have G9:=jn h6 (jn h6n (jn @aP (jn @aO G8)))
   refine ae G9 ?_
   refine glp (fun k F Hx=>∃j:Nat,i+k=j/\i<j/\j<=(bg f c.toNat).length/\(∀q:Nat,j<=q->q<(mkB (x0,y0,x1,y1,f,c)).length->tP W Hh xs (x0,y0,x1,y1,f,c) sc g q=true)/\F=[(2,.sl (some (bq,0)) sc.length cq),(3,iV g),(4,.ptr (some (H.length,0))),(8,.ptr (some (H.length+1,0))),(10,.ptr (some (H.length+2,0))),(11,.sl (some (H.length+3,i)) (j-i) none)]/\Hx=H++[.cells true 0 [iV W,iV Hh,.sl (some (bpp,0)) xs.length cpp],.cells true 0 [iV 0,iV 0,iV 0,iV 0,iV 0,iV 0],.cells true 0 [iV (tX0 (x0,y0,x1,y1,f,c)),iV (tY0 (x0,y0,x1,y1,f,c)),iV (tX1 W (x0,y0,x1,y1,f,c)),iV (tY1 Hh (x0,y0,x1,y1,f,c))],.cells true 1 (ints .i64 (bg f c.toNat))]) ((bg f c.toNat).length-i) ?_ ?_
   ·refine⟨_,_,_,⟨(bg f c.toNat).length,by omega,by omega,Nat.le_refl _,(fun q h1 h2=>by have h2':q<(bg f c.toNat).length:=h2;omega),rfl,rfl⟩,bS hbel [0,1,2,3] cD⟩
   rintro k1 F Hx ⟨j,hm1,hij,hjn,hbk,rfl,rfl⟩ J1 hJ1
   have hj1:((j-i:Nat):Int)-1=((j-1-i:Nat):Int):=by omega
   have hj2:i+(j-1-i)=j-1:=by omega
   have q7:=cn (k:=.i64) (xs:=bg f c.toNat) (j:=j-1) (by omega)
   have G10:=jn @hj1 (jn @hj2 (jn q7 G9))
   refine ae G10 ?_
   refine cd (bad_c _ W _ _ xs _ _ _ _ _ _ sc g (zA2 hb0pp hbpp) (zA2 hb0q hbq) hV hg hsB) ?_
   refine rcs G10 (fun h8 h8d G11=>?_) (fun h8 h8d _=>?_)
   ·have hbj:=h8d
    have hne:¬j-1=i:=fun e=>by
     have q:=hbj
     rw[e] at q
     exact absurd (q.symm.trans hpi) (by decide)
    refine ae G11 ?_
    refine hJ1 _ _ ⟨k1-1,by omega,_,_,_,⟨j-1,by omega,by omega,by omega,fun q h1 h2=>by
          rcases Nat.lt_or_ge q j with h|h
          ·rw[show q=j-1 by omega];exact hbj
          exact hbk q h h2,rfl,rfl⟩,bS hbel [0,1,2,3] cD⟩
   have hfinJ:=tJ_j (W:=W) (Hh:=Hh) (xs:=xs) (b:=(x0,y0,x1,y1,f,c)) (s:=sc) (g:=g) (j:=j) (by omega) h8d (by show j<=(bg f c.toNat).length;omega) hbk
   have q9:=cn (k:=.i64) (xs:=bg f c.toNat) (j:=i) (by omega)
   have G12:=jn h8 (jn h8d (jn q9 G10))
   exact eR G12 hQ hbel (.tup [.agg [iV (tX0 (x0,y0,x1,y1,f,c)),iV (tY0 (x0,y0,x1,y1,f,c)),iV (tX1 W (x0,y0,x1,y1,f,c)),iV (tY1 Hh (x0,y0,x1,y1,f,c)),iV (gi (bg f c.toNat) i),iV ((j-i:Nat):Int)],.bool true]) results76 ⟨by (unfold tB;rw[hfinO,hfinI,hfinJ];rfl),rfl⟩
  have hfinO:=tOk_n (W:=W) (Hh:=Hh) (xs:=xs) (b:=(x0,y0,x1,y1,f,c)) (s:=sc) (g:=g) (i:=i) (by show i=(bg f c.toNat).length;omega) hal
  refine rcs G13 (fun h10 h10d _=>?_) (fun h10 h10d _=>?_)
  ·have h10n:=bnT h10
   have G14:=jn h10 (jn h10n (jn @aP (jn @aO G13)))
   exact eR G14 hQ hbel (.tup [.agg [iV 0,iV 0,iV 0,iV 0,iV 0,iV 0],.bool false]) results76 ⟨by (rw[hfinO];rfl),rfl⟩
  have h10n:=bnT h10
  omega
 have hfinO:=tOk_x (W:=W) (Hh:=Hh) (xs:=xs) (b:=(x0,y0,x1,y1,f,c)) (s:=sc) (g:=g) h1d
 exact eR G15 hQ hbel (.tup [.agg [iV 0,iV 0,iV 0,iV 0,iV 0,iV 0],.bool false]) results76 ⟨by (rw[hfinO];rfl),rfl⟩
theorem trim_t (H:aa)(W Hh:Int)(pp:AV)(xs:List Int)(b:T6)(q:AV)(sc:List (Int×Int))(g:Int)(hpp:zI H pp xs)(hq:SlP H q sc)(hV:bQ W Hh xs=true)(hb:bA b=true)(hsB:di sc=true)(hg:1<=g/\g<=32):
  zC 76 [.agg [iV W,iV Hh,pp],.agg [iV b.1,iV b.2.1,iV b.2.2.1,iV b.2.2.2.1,iV b.2.2.2.2.1,iV b.2.2.2.2.2],q,iV g] H (.tup [.agg [iV (mkV (tOk W Hh xs b sc g) (tB W Hh xs b sc g).1),iV (mkV (tOk W Hh xs b sc g) (tB W Hh xs b sc g).2.1),iV (mkV (tOk W Hh xs b sc g) (tB W Hh xs b sc g).2.2.1),iV (mkV (tOk W Hh xs b sc g) (tB W Hh xs b sc g).2.2.2.1),iV (mkV (tOk W Hh xs b sc g) (tB W Hh xs b sc g).2.2.2.2.1),iV (mkV (tOk W Hh xs b sc g) (tB W Hh xs b sc g).2.2.2.2.2)],.bool (tOk W Hh xs b sc g)]) H :=
 trim_c H W Hh pp xs b.1 b.2.1 b.2.2.1 b.2.2.2.1 b.2.2.2.2.1 b.2.2.2.2.2 q sc g hpp hq hV hb hsB hg
theorem mkV_f (n:Int):mkV false n=0:=rfl
set_option maxRecDepth 100000 in
theorem k8 (H:aa)(s:AV)(l:List T6)(hs:Sl H 6 s l.length (r6 l))(hl:l.length<=1000000)(h0:0<l.length):zC 38 [s] H (.sl (some (H.length,0)) l.length none) (H++[.cells true 6 (r6 l)]):=by
 obtain⟨b,own,cap,rfl,hb⟩:=hs
 have hbl:=getElem?_lt hb
 have hb0:=fun l=>am (l:=l) hb
 generalize hm:l.length=m at *
 refine AcT true func38 ?_;intro hbel Q hQ
 have htk:List.take (m*6) (r6 l)=r6 l:=List.take_of_length_le (by rw[cN];omega)
 have hm0:(m==0)=false:=beq_eq_false_iff_ne.2 (by omega)
 have hm1:(m != 0)=true:=bne_iff_ne.2 (by omega)
 have hln:(r6 l).length=m*6:=by rw[cN,hm]
 simp -implicitDefEqProofs (disch:=omega) only [hb,hb0,Option.isNone_some,hm0,h0,htk,jt,hm1,gt,hln,simprocAttr,aD,aE,Function.comp_apply,one1,lenV,ai,ar,au,aop,AV.ofValue,AV.ofCell,AV.cells,AV.flat,AV.one,arep,aN,ap,aA]
 repeat refine And.intro (by omega) ?_
 refine hQ _ _ (end_by (.inl rfl) hbel (x1:=.sl (some (H.length+1,0)) m none) (.sl (some (H.length,0)) m none) (aY results38) [1] (by decide) ⟨rfl,rfl⟩ ?_)
 exact absTf @bY
theorem vol_c (H:aa)(x0 y0 x1 y1 f c:Int):zC 54 [.agg [iV x0,iV y0,iV x1,iV y1,iV f,iV c]] H (iV (ej (x0,y0,x1,y1,f,c))) H:=by
 refine AcT true func54 ?_;intro hbel Q hQ
 refine aB ?_
 refine cv (gy _ _ _ _ _ f c) ?_
 refine aB ?_
 refine cK (fun h1=>?_) (fun h1=>?_)
 ·have h1d:=bsT h1
  have hfinV:ej (x0,y0,x1,y1,f,c)=0:=if_neg (fun k=>absurd ((show bxB x0 y0 x1 y1 f c=true from k).symm.trans h1d) (by decide))
  have G1:=jn h1 @h1d
  exact eR G1 hQ hbel (iV 0) results54 ⟨by rw[hfinV],rfl⟩
 have h1d:=bsT h1
 have hbb:=bv.1 h1d
 have haa:=bm.1 hbb.2.2
 have m1:=aH (a:=x1-x0+1) (b:=y1-y0+1) (A:=2097153) (B:=2097153) (by omega) (by omega)
 have m2:=aH (a:=(x1-x0+1)*(y1-y0+1)) (b:=c) (A:=4398050705409) (B:=256) (by omega) (by omega)
 have hfinV:ej (x0,y0,x1,y1,f,c)=(x1-x0+1)*(y1-y0+1)*c:=if_pos h1d
 have G2:=jn h1 @h1d
 exact eR G2 hQ hbel (iV ((((x1-x0)+1)*((y1-y0)+1))*c)) results54 ⟨by rw[hfinV],rfl⟩
theorem spl1_c (H:aa)(n u:Int)(hn:0<=n/\n<=4194304)(hu:0<=u/\u<=8):zC 125 [iV n,iV u] H (iV (eZ n u)) H:=by
 have m1:=aH (a:=n) (b:=u) (A:=4194304) (B:=8) (by omega) (by omega)
 refine AcT true func125 ?_;intro hbel Q hQ
 refine aB ?_
 refine cK (fun h1=>?_) (fun h1=>?_)
 ·have h1d:=bsT h1
  have G3:=jn h1 (jn h1d (jn @aP @aO))
  exact eS G3 hQ hbel (iV 0) results125 ⟨by unfold eZ;rw[if_pos (by omega)],rfl⟩
 have h1d:=bsT h1
 have G4:=jn h1 (jn h1d (jn @aP @aO))
 exact eS G4 hQ hbel (iV (n*u)) results125 ⟨by unfold eZ;rw[if_neg (by omega)],rfl⟩
theorem split_c (H:aa)(x0 y0 x1 y1 f c:Int)(hb:bxB x0 y0 x1 y1 f c=true):zC 77 [.agg [iV x0,iV y0,iV x1,iV y1,iV f,iV c]] H (.tup [.agg [iV (mkV (dB (x0,y0,x1,y1,f,c)) ((d8 (x0,y0,x1,y1,f,c)).1)),iV (mkV (dB (x0,y0,x1,y1,f,c)) ((d8 (x0,y0,x1,y1,f,c)).2.1)),iV (mkV (dB (x0,y0,x1,y1,f,c)) ((d8 (x0,y0,x1,y1,f,c)).2.2.1)),iV (mkV (dB (x0,y0,x1,y1,f,c)) ((d8 (x0,y0,x1,y1,f,c)).2.2.2.1)),iV (mkV (dB (x0,y0,x1,y1,f,c)) ((d8 (x0,y0,x1,y1,f,c)).2.2.2.2.1)),iV (mkV (dB (x0,y0,x1,y1,f,c)) ((d8 (x0,y0,x1,y1,f,c)).2.2.2.2.2))],.agg [iV (mkV (dB (x0,y0,x1,y1,f,c)) ((d9 (x0,y0,x1,y1,f,c)).1)),iV (mkV (dB (x0,y0,x1,y1,f,c)) ((d9 (x0,y0,x1,y1,f,c)).2.1)),iV (mkV (dB (x0,y0,x1,y1,f,c)) ((d9 (x0,y0,x1,y1,f,c)).2.2.1)),iV (mkV (dB (x0,y0,x1,y1,f,c)) ((d9 (x0,y0,x1,y1,f,c)).2.2.2.1)),iV (mkV (dB (x0,y0,x1,y1,f,c)) ((d9 (x0,y0,x1,y1,f,c)).2.2.2.2.1)),iV (mkV (dB (x0,y0,x1,y1,f,c)) ((d9 (x0,y0,x1,y1,f,c)).2.2.2.2.2))],.bool (dB (x0,y0,x1,y1,f,c))]) H:=by
 have hbb:=bv.1 hb
 have haa:=bm.1 hbb.2.2
 have et1:Int.tdiv (x1-x0+1) 2=(x1-x0+1)/2:=Int.tdiv_eq_ediv_of_nonneg (by omega)
 have et2:Int.tdiv (y1-y0+1) 2=(y1-y0+1)/2:=Int.tdiv_eq_ediv_of_nonneg (by omega)
 have et3:Int.tdiv c 2=c/2:=Int.tdiv_eq_ediv_of_nonneg (by omega)
 have et4:Int.tmod (f+c/2) 256=(f+c/2)%256:=Int.tmod_eq_emod_of_nonneg (by omega)
 (refine bh func77 _ rfl (Nat.le_of_ble_eq_true (by kernel_rfl)) rfl ?_;intro hbel Q hQ hQ' c hc;unfold Tryz.f77 at hc;simp only[Option.some.injEq] at hc;subst hc;clear hQ')
 refine zQT hQ fun Q1 hn1 hQ1 he1=>?_
 have G5:=jn @et1 (jn @et2 (jn @et3 @et4))
 refine ae G5 ?_
 refine hn1 _ _ (zQT hQ fun Q2 hn2 hQ2 he2=>?_)
 refine ae G5 ?_
 refine cv (vol_c _ _ _ _ _ f c) ?_
 refine rcs G5 (fun h1 h1d G6=>?_) (fun h1 h1d G7=>?_)
 ·have hfinV:dB (x0,y0,x1,y1,f,c)=false:=by unfold dB;rw[decide_eq_true h1d];rfl
  exact eR G6 hQ2 hbel (.tup [.agg [iV 0,iV 0,iV 0,iV 0,iV 0,iV 0],.agg [iV 0,iV 0,iV 0,iV 0,iV 0,iV 0],.bool false]) results77 ⟨by (rw[hfinV];rfl),rfl⟩
 have hfinV:dB (x0,y0,x1,y1,f,c)=true:=by unfold dB;rw[decide_eq_false (by omega)];rfl
 refine ae G7 ?_
 refine hn2 _ _ (zQT hQ fun Q3 hn3 hQ3 he3=>?_)
 refine ae G7 ?_
 refine hn3 _ _ (zQT hQ fun Q4 hn4 hQ4 he4=>?_)
 refine ae G7 ?_
 refine hn4 _ _ (zQT hQ fun Q5 hn5 hQ5 he5=>?_)
 refine ae G7 ?_
 refine cdr G7 (spl1_c _ _ 1 (by omega) (by omega)) ?_
 refine cdr G7 (spl1_c _ _ 1 (by omega) (by omega)) ?_
 refine cdr G7 (spl1_c _ c 8 (by omega) (by omega)) ?_
 refine hn5 _ _ ?_
 refine bt true try_mixed [[0,1,2,3,4,5],[0,2,3,4,1,5],[0,1,3,2,4,5],[0,3,2,4,1,5]] (by kernel_rfl) (fun F2 H2=>F2=[(1,.ptr (some (H.length,0))),(2,.ptr (some (H.length+1,0))),(3,.ptr (some (H.length+2,0))),(4,.bool false),(6,iV ((x1-x0)+1)),(7,iV ((y1-y0)+1)),(8,iV (eZ ((x1-x0)+1) 1)),(9,iV (eZ ((y1-y0)+1) 1)),(10,iV (eZ c 8)),(11,.ptr (some (H.length+3,0))),(12,.ptr (some (H.length+4,0)))]/\H2=H++[.cells true 0 [iV x0,iV y0,iV x1,iV y1,iV f,iV c],.cells true 0 [iV 0,iV 0,iV 0,iV 0,iV 0,iV 0],.cells true 0 [iV 0,iV 0,iV 0,iV 0,iV 0,iV 0],.cells true 0 [iV x0,iV y0,iV x1,iV y1,iV f,iV c],.cells true 0 [iV x0,iV y0,iV x1,iV y1,iV f,iV c]]) ?_ ?_
 ·refine aj ?_ (aj ?_ (aj ?_ (aj ?_ (bu))))<;>intro J hJ
  ·refine ag G7 ?_
   refine aq (hJ _ _ ⟨_,_,_,⟨rfl,rfl⟩,bS hbel [0,1,2,3,4] aJ⟩)
  ·refine ag G7 ?_
   refine aq (hJ _ _ ⟨_,_,_,⟨rfl,rfl⟩,bS hbel [0,1,2,3,4] aJ⟩)
  ·refine ag G7 ?_
   refine aq (hJ _ _ ⟨_,_,_,⟨rfl,rfl⟩,bS hbel [0,1,2,4,3] aJ⟩)
  refine ag G7 ?_
  refine aq (hJ _ _ ⟨_,_,_,⟨rfl,rfl⟩,bS hbel [0,1,2,4,3] aJ⟩)
 rintro F2 H2 ⟨rfl,rfl⟩
 refine sqR hQ fun Q6 hn6 hQ6 he6=>?_
 refine bkR hQ6 fun Q7 hn7 hQ7 he7 hb7=>?_
 refine zQT hQ7 fun Q8 hn8 hQ8 he8=>?_
 refine rgs G7 (fun h2 h2d G8=>?_) (fun h2 h2d G12=>?_)
 ·have hc1:i6 (x0,y0,x1,y1,f,c)<=iE (x0,y0,x1,y1,f,c):=h2d
  refine ae G8 ?_
  refine hn8 _ _ ?_
  refine dR (decide ((eZ c 8)<=(eZ ((x1-x0)+1) 1))) (by rfl) (fun h3=>?_) (fun h3=>?_)
  ·have h3d:=bsT h3
   have hfinX:d8 (x0,y0,x1,y1,f,c)=(x0,y0,x0+((x1-x0)+1)/2-1,y1,f,c):=if_pos ⟨hc1,h3d⟩
   have hfinY:d9 (x0,y0,x1,y1,f,c)=(x0+((x1-x0)+1)/2,y0,x1,y1,f,c):=if_pos ⟨hc1,h3d⟩
   refine fnT ?_
   have G9:=j2 h3 h3d G8
   refine ae G9 ?_
   refine hn7 _ _ ?_
   refine hn6 _ _ ?_
   refine bt true try_mixed [[0,1,2,3,4],[0,2,1,3,4]] (by kernel_rfl) (fun F2 H2=>F2=[(2,.ptr (some (H.length,0))),(3,.ptr (some (H.length+1,0))),(4,.bool true)]/\H2=H++[.cells true 0 [iV x0,iV y0,iV ((x0+(((x1-x0)+1)/2))-1),iV y1,iV f,iV c],.cells true 0 [iV (x0+(((x1-x0)+1)/2)),iV y0,iV x1,iV y1,iV f,iV c]]) ?_ ?_
   ·refine aj ?_ (aj ?_ (bu))<;>intro J hJ
    ·refine ag G9 ?_
     refine aq (hJ _ _ ⟨_,_,_,⟨rfl,rfl⟩,bS hbel [1,2] aJ⟩)
    refine ag G9 ?_
    refine aq (hJ _ _ ⟨_,_,_,⟨rfl,rfl⟩,bS hbel [1,2] aJ⟩)
   rintro F2 H2 ⟨rfl,rfl⟩
   refine fnT ?_
   exact eR G9 hQ hbel (.tup [.agg [iV x0,iV y0,iV ((x0+(((x1-x0)+1)/2))-1),iV y1,iV f,iV c],.agg [iV (x0+(((x1-x0)+1)/2)),iV y0,iV x1,iV y1,iV f,iV c],.bool true]) results77 ⟨by (rw[hfinV,hfinX,hfinY];rfl),rfl⟩
  have h3d:=bsT h3
  have hc2:¬splC (x0,y0,x1,y1,f,c)<=iE (x0,y0,x1,y1,f,c):=by have q:=h3d;exact Int.not_le.2 (by exact Int.not_le.1 q)
  have hn1:¬(i6 (x0,y0,x1,y1,f,c)<=iE (x0,y0,x1,y1,f,c)/\splC (x0,y0,x1,y1,f,c)<=iE (x0,y0,x1,y1,f,c)):=fun q=>hc2 q.2
  refine zQT hQ7 fun Q9 hn9 hQ9 he9=>?_
  have G10:=j2 h3 h3d G8
  refine ae G10 ?_
  refine hn9 _ _ ?_
  refine dR (decide ((eZ c 8)<=(eZ ((y1-y0)+1) 1))) (by rfl) (fun h4=>?_) (fun h4=>?_)
  ·have h4d:=bsT h4
   exact(hc2 (Int.le_trans h4d hc1)).elim
  have h4d:=bsT h4
  have hc3:¬splC (x0,y0,x1,y1,f,c)<=i6 (x0,y0,x1,y1,f,c):=by have q:=h4d;exact Int.not_le.2 (by exact Int.not_le.1 q)
  have hfinX:d8 (x0,y0,x1,y1,f,c)=(x0,y0,x1,y1,f,c/2):=(if_neg hn1).trans (if_neg hc3)
  have hfinY:d9 (x0,y0,x1,y1,f,c)=(x0,y0,x1,y1,(f+c/2)%256,c-c/2):=(if_neg hn1).trans (if_neg hc3)
  refine zQT hQ7 fun Q10 hn10 hQ10 he10=>?_
  have G11:=j2 h4 h4d G10
  refine ae G11 ?_
  refine hn10 _ _ (zQT hQ7 fun Q11 hn11 hQ11 he11=>?_)
  refine ae G11 ?_
  refine hn11 _ _ ?_
  refine gu true try_mixed [[0,1,2,3,4,5,6,7,8,9,10,11,12],[0,1,2,3,4,5,7,9,10,6,8,11,12]] (by kernel_rfl) (fun F2 H2=>F2=[(2,.ptr (some (H.length,0))),(3,.ptr (some (H.length+1,0))),(11,.ptr (some (H.length+2,0))),(12,.ptr (some (H.length+3,0)))]/\H2=H++[.cells true 0 [iV 0,iV 0,iV 0,iV 0,iV 0,iV 0],.cells true 0 [iV 0,iV 0,iV 0,iV 0,iV 0,iV 0],.cells true 0 [iV x0,iV y0,iV x1,iV y1,iV f,iV (c/2)],.cells true 0 [iV x0,iV y0,iV x1,iV y1,iV ((f+(c/2))%256),iV (c-(c/2))]]) ?_ ?_
  ·refine aj ?_ (aj ?_ (bu))<;>intro J hJ
   ·refine ag G11 ?_
    refine aq (hJ _ _ ⟨_,_,_,⟨rfl,rfl⟩,bS hbel [1,2,3,4] aJ⟩)
   refine ag G11 ?_
   refine aq (hJ _ _ ⟨_,_,_,⟨rfl,rfl⟩,bS hbel [1,2,3,4] aJ⟩)
  rintro F2 H2 ⟨rfl,rfl⟩
  refine hn7 _ _ ?_
  refine hn6 _ _ ?_
  refine bt true try_mixed [[0,1,2,3,4],[0,2,1,3,4]] (by kernel_rfl) (fun F2 H2=>F2=[(2,.ptr (some (H.length,0))),(3,.ptr (some (H.length+1,0))),(4,.bool true)]/\H2=H++[.cells true 0 [iV x0,iV y0,iV x1,iV y1,iV f,iV (c/2)],.cells true 0 [iV x0,iV y0,iV x1,iV y1,iV ((f+(c/2))%256),iV (c-(c/2))]]) ?_ ?_
  ·refine aj ?_ (aj ?_ (bu))<;>intro J hJ
   ·refine ag G11 ?_
    refine aq (hJ _ _ ⟨_,_,_,⟨rfl,rfl⟩,bS hbel [0,1] aJ⟩)
   refine ag G11 ?_
   refine aq (hJ _ _ ⟨_,_,_,⟨rfl,rfl⟩,bS hbel [0,1] aJ⟩)
  rintro F2 H2 ⟨rfl,rfl⟩
  refine fnT ?_
  exact eR G11 hQ hbel (.tup [.agg [iV x0,iV y0,iV x1,iV y1,iV f,iV (c/2)],.agg [iV x0,iV y0,iV x1,iV y1,iV ((f+(c/2))%256),iV (c-(c/2))],.bool true]) results77 ⟨by (rw[hfinV,hfinX,hfinY];rfl),rfl⟩
 have hc1:¬i6 (x0,y0,x1,y1,f,c)<=iE (x0,y0,x1,y1,f,c):=by have q:=h2d;exact Int.not_le.2 (by exact Int.not_le.1 q)
 have hn1:¬(i6 (x0,y0,x1,y1,f,c)<=iE (x0,y0,x1,y1,f,c)/\splC (x0,y0,x1,y1,f,c)<=iE (x0,y0,x1,y1,f,c)):=fun q=>hc1 q.1
 refine ae G12 ?_
 refine hn8 _ _ ?_
 refine dR false (by rfl) (fun h=>by cases h) (fun h=>?_)
 refine zQT hQ7 fun Q12 hn12 hQ12 he12=>?_
 refine ae G12 ?_
 refine hn12 _ _ ?_
 refine dR (decide ((eZ c 8)<=(eZ ((y1-y0)+1) 1))) (by rfl) (fun h5=>?_) (fun h5=>?_)
 ·have h5d:=bsT h5
  have hfinX:d8 (x0,y0,x1,y1,f,c)=(x0,y0,x1,y0+((y1-y0)+1)/2-1,f,c):=(if_neg hn1).trans (if_pos h5d)
  have hfinY:d9 (x0,y0,x1,y1,f,c)=(x0,y0+((y1-y0)+1)/2,x1,y1,f,c):=(if_neg hn1).trans (if_pos h5d)
  refine fnT ?_
  have G13:=j2 h5 h5d G12
  refine ae G13 ?_
  refine hn7 _ _ ?_
  refine hn6 _ _ ?_
  refine bt true try_mixed [[0,1,2,3,4],[0,2,1,3,4]] (by kernel_rfl) (fun F2 H2=>F2=[(2,.ptr (some (H.length,0))),(3,.ptr (some (H.length+1,0))),(4,.bool true)]/\H2=H++[.cells true 0 [iV x0,iV y0,iV x1,iV ((y0+(((y1-y0)+1)/2))-1),iV f,iV c],.cells true 0 [iV x0,iV (y0+(((y1-y0)+1)/2)),iV x1,iV y1,iV f,iV c]]) ?_ ?_
  ·refine aj ?_ (aj ?_ (bu))<;>intro J hJ
   ·refine ag G13 ?_
    refine aq (hJ _ _ ⟨_,_,_,⟨rfl,rfl⟩,bS hbel [1,2] aJ⟩)
   refine ag G13 ?_
   refine aq (hJ _ _ ⟨_,_,_,⟨rfl,rfl⟩,bS hbel [1,2] aJ⟩)
  rintro F2 H2 ⟨rfl,rfl⟩
  refine fnT ?_
  exact eR G13 hQ hbel (.tup [.agg [iV x0,iV y0,iV x1,iV ((y0+(((y1-y0)+1)/2))-1),iV f,iV c],.agg [iV x0,iV (y0+(((y1-y0)+1)/2)),iV x1,iV y1,iV f,iV c],.bool true]) results77 ⟨by (rw[hfinV,hfinX,hfinY];rfl),rfl⟩
 have h5d:=bsT h5
 have hc3:¬splC (x0,y0,x1,y1,f,c)<=i6 (x0,y0,x1,y1,f,c):=by have q:=h5d;exact Int.not_le.2 (by exact Int.not_le.1 q)
 have hfinX:d8 (x0,y0,x1,y1,f,c)=(x0,y0,x1,y1,f,c/2):=(if_neg hn1).trans (if_neg hc3)
 have hfinY:d9 (x0,y0,x1,y1,f,c)=(x0,y0,x1,y1,(f+c/2)%256,c-c/2):=(if_neg hn1).trans (if_neg hc3)
 refine zQT hQ7 fun Q13 hn13 hQ13 he13=>?_
 have G14:=j2 h5 h5d G12
 refine ae G14 ?_
 refine hn13 _ _ (zQT hQ7 fun Q14 hn14 hQ14 he14=>?_)
 refine ae G14 ?_
 refine hn14 _ _ ?_
 refine gu true try_mixed [[0,1,2,3,4,5,6,7,8,9,10,11,12],[0,1,2,3,4,5,7,9,10,6,8,11,12]] (by kernel_rfl) (fun F2 H2=>F2=[(2,.ptr (some (H.length,0))),(3,.ptr (some (H.length+1,0))),(11,.ptr (some (H.length+2,0))),(12,.ptr (some (H.length+3,0)))]/\H2=H++[.cells true 0 [iV 0,iV 0,iV 0,iV 0,iV 0,iV 0],.cells true 0 [iV 0,iV 0,iV 0,iV 0,iV 0,iV 0],.cells true 0 [iV x0,iV y0,iV x1,iV y1,iV f,iV (c/2)],.cells true 0 [iV x0,iV y0,iV x1,iV y1,iV ((f+(c/2))%256),iV (c-(c/2))]]) ?_ ?_
 ·refine aj ?_ (aj ?_ (bu))<;>intro J hJ
  ·refine ag G14 ?_
   refine aq (hJ _ _ ⟨_,_,_,⟨rfl,rfl⟩,bS hbel [1,2,3,4] aJ⟩)
  refine ag G14 ?_
  refine aq (hJ _ _ ⟨_,_,_,⟨rfl,rfl⟩,bS hbel [1,2,3,4] aJ⟩)
 rintro F2 H2 ⟨rfl,rfl⟩
 refine hn7 _ _ ?_
 refine hn6 _ _ ?_
 refine bt true try_mixed [[0,1,2,3,4],[0,2,1,3,4]] (by kernel_rfl) (fun F2 H2=>F2=[(2,.ptr (some (H.length,0))),(3,.ptr (some (H.length+1,0))),(4,.bool true)]/\H2=H++[.cells true 0 [iV x0,iV y0,iV x1,iV y1,iV f,iV (c/2)],.cells true 0 [iV x0,iV y0,iV x1,iV y1,iV ((f+(c/2))%256),iV (c-(c/2))]]) ?_ ?_
 ·refine aj ?_ (aj ?_ (bu))<;>intro J hJ
  ·refine ag G14 ?_
   refine aq (hJ _ _ ⟨_,_,_,⟨rfl,rfl⟩,bS hbel [0,1] aJ⟩)
  refine ag G14 ?_
  refine aq (hJ _ _ ⟨_,_,_,⟨rfl,rfl⟩,bS hbel [0,1] aJ⟩)
 rintro F2 H2 ⟨rfl,rfl⟩
 refine fnT ?_
 exact eR G14 hQ hbel (.tup [.agg [iV x0,iV y0,iV x1,iV y1,iV f,iV (c/2)],.agg [iV x0,iV y0,iV x1,iV y1,iV ((f+(c/2))%256),iV (c-(c/2))],.bool true]) results77 ⟨by (rw[hfinV,hfinX,hfinY];rfl),rfl⟩
theorem split_t (H:aa)(b:T6)(hb:bA b=true)(h:dB b=true):zC 77 [.agg [iV b.1,iV b.2.1,iV b.2.2.1,iV b.2.2.2.1,iV b.2.2.2.2.1,iV b.2.2.2.2.2]] H (.tup [.agg [iV (d8 b).1,iV (d8 b).2.1,iV (d8 b).2.2.1,iV (d8 b).2.2.2.1,iV (d8 b).2.2.2.2.1,iV (d8 b).2.2.2.2.2],.agg [iV (d9 b).1,iV (d9 b).2.1,iV (d9 b).2.2.1,iV (d9 b).2.2.2.1,iV (d9 b).2.2.2.2.1,iV (d9 b).2.2.2.2.2],.bool true]) H:=by
 have q:=split_c H b.1 b.2.1 b.2.2.1 b.2.2.2.1 b.2.2.2.2.1 b.2.2.2.2.2 hb
 have e:dB (b.1,b.2.1,b.2.2.1,b.2.2.2.1,b.2.2.2.2.1,b.2.2.2.2.2)=true:=h
 simp only[e,mkV_t] at q;exact q
theorem split_f (H:aa)(b:T6)(hb:bA b=true)(h:dB b=false):zC 77 [.agg [iV b.1,iV b.2.1,iV b.2.2.1,iV b.2.2.2.1,iV b.2.2.2.2.1,iV b.2.2.2.2.2]] H (.tup [.agg [iV 0,iV 0,iV 0,iV 0,iV 0,iV 0],.agg [iV 0,iV 0,iV 0,iV 0,iV 0,iV 0],.bool false]) H:=by
 have q:=split_c H b.1 b.2.1 b.2.2.1 b.2.2.2.1 b.2.2.2.2.1 b.2.2.2.2.2 hb
 have e:dB (b.1,b.2.1,b.2.2.1,b.2.2.2.1,b.2.2.2.2.1,b.2.2.2.2.2)=false:=h
 simp only[e,mkV_f] at q;exact q
theorem cmp1_c (H:aa)(x0 y0 x1 y1 f c:Int):zC 78 [.agg [iV x0,iV y0,iV x1,iV y1,iV f,iV c]] H (.bool (!(bxB x0 y0 x1 y1 f c))) H:=by
 refine AcT true func78 ?_;intro hbel Q hQ
 refine aB ?_
 refine cv (gy _ _ _ _ _ f c) ?_
 refine aB ?_
 exact eP hQ hbel (.bool (!(bxB x0 y0 x1 y1 f c))) results78 ⟨rfl,rfl⟩
def k9 (n:Int):Bool:=decide (n < -2097152)||decide (2097152<n)
def mvO (x0 y0 x1 y1 a b c d:Int):Bool:=!([x0+a,x1+b,y0+c,y1+d].any ir)
def mvE (x0 y0 x1 y1 a b c d:Int):Int:=if mvO x0 y0 x1 y1 a b c d=true then 0 else 2
theorem ol {n:Int}(h : -64<=n/\n<=64):k9 n=false:=by unfold k9;rw[decide_eq_false (by omega),decide_eq_false (by omega)];rfl
theorem off2_4 {a b c d:Int}(h1 : -64<=a/\a<=64)(h2 : -64<=b/\b<=64)(h3 : -64<=c/\c<=64)(h4 : -64<=d/\d<=64):[a,b,c,d].any k9=false:=by
 simp only[List.any_cons,List.any_nil,ol h1,ol h2,ol h3,ol h4];rfl
theorem drch_c (H:aa)(t f tu le sl ra h:Int)(hC:cM t f=true)(hB:bM tu le sl ra=true)(hh:0<=h/\h<=255):zC 168 [.agg [iV t,iV f],.agg [iV tu,iV le,iV sl,iV ra],iV h] H (.tup [.agg [iV ((rqR f le sl h).1),iV ((rqR f le sl h).2.1),iV ((rqR f le sl h).2.2.1),iV ((rqR f le sl h).2.2.2)],iV 0]) H:=by
 have hCi:=hC
 simp only[cM,Bool.and_eq_true,aZ] at hCi
 have hBi:=hB
 simp only[bM,Bool.and_eq_true,aZ] at hBi
 have hbt:btw h 0 255=true:=aZ.2 hh
 have m1:0<=mxI (f-le) 0/\mxI (f-le) 0<=48:=by unfold mxI;split<;>omega
 have m2:0<=mxI (f+le) 0/\mxI (f+le) 0<=48:=by unfold mxI;split<;>omega
 have w1:=jx h m1.1
 have w2:=jx h m2.1
 have n1:=el (a:=cE h (mxI (f-le) 0)) (b:=cE h (mxI (f+le) 0))
 have n2:=el (a:=cF h (mxI (f-le) 0)) (b:=cF h (mxI (f+le) 0))
 have n3:=eo (a:=cE h (mxI (f-le) 0)) (b:=cE h (mxI (f+le) 0))
 have n4:=eo (a:=cF h (mxI (f-le) 0)) (b:=cF h (mxI (f+le) 0))
 have e1:(if (cE h (mxI (f+le) 0))<(cE h (mxI (f-le) 0)) then (cE h (mxI (f+le) 0)) else (cE h (mxI (f-le) 0)))=mnI (cE h (mxI (f-le) 0)) (cE h (mxI (f+le) 0)):=rfl
 have e2:(if (cF h (mxI (f+le) 0))<(cF h (mxI (f-le) 0)) then (cF h (mxI (f+le) 0)) else (cF h (mxI (f-le) 0)))=mnI (cF h (mxI (f-le) 0)) (cF h (mxI (f+le) 0)):=rfl
 have e3:(if (cE h (mxI (f-le) 0))<(cE h (mxI (f+le) 0)) then (cE h (mxI (f+le) 0)) else (cE h (mxI (f-le) 0)))=mxI (cE h (mxI (f-le) 0)) (cE h (mxI (f+le) 0)):=rfl
 have e4:(if (cF h (mxI (f-le) 0))<(cF h (mxI (f+le) 0)) then (cF h (mxI (f+le) 0)) else (cF h (mxI (f-le) 0)))=mxI (cF h (mxI (f-le) 0)) (cF h (mxI (f+le) 0)):=rfl
 (refine bh func168 _ rfl (Nat.le_of_ble_eq_true (by kernel_rfl)) rfl ?_;intro hbel Q hQ hQ' c hc;unfold Tryz.f168 at hc;simp only[Option.some.injEq] at hc;subst hc;clear hQ')
 refine zQT hQ fun Q1 hn1 hQ1 he1=>?_
 have G1:=jn @hC (jn @hB (jn @hbt (jn @e1 (jn @e2 (jn @e3 @e4)))))
 refine ae G1 ?_
 refine hn1 _ _ (zQT hQ fun Q2 hn2 hQ2 he2=>?_)
 refine ae G1 ?_
 refine cvr G1 (lP _ t f) ?_
 refine cvr G1 (n7 _ _ _ _ _) ?_
 refine hn2 _ _ (zQT hQ fun Q3 hn3 hQ3 he3=>?_)
 refine ae G1 ?_
 refine cvr G1 (fx _ h 0 _) ?_
 refine hn3 _ _ (zQT hQ fun Q4 hn4 hQ4 he4=>?_)
 refine rcs G1 (fun h1 h1d _=>?_) (fun h1 h1d _=>?_)
 ·have hfinZ:rqR f le sl h=(0,0,0,0):=if_pos h1d
  have G2:=jn h1 (jn h1d (jn @aP (jn @aO G1)))
  exact eR G2 hQ4 hbel (.tup [.agg [iV 0,iV 0,iV 0,iV 0],iV 0]) results168 ⟨by rw[hfinZ],rfl⟩
 have hfinZ:rqR f le sl h=(mnI (rqA f le h) (rqB f le h)-sl,mnI (rqC f le h) (rqD f le h)-sl,mxI (rqA f le h) (rqB f le h)+sl,mxI (rqC f le h) (rqD f le h)+sl):=if_neg h1d
 have G3:=jn h1 (jn h1d (jn @aP (jn @aO G1)))
 refine ae G3 ?_
 refine hn4 _ _ ?_
 refine bt true try_mixed [[0,1,2,3,4,5,6,7,8,9,10,11,12,13,14,15,16,17],[0,1,2,3,4,5,6,7,8,9,10,11,12,13,15,14,16,17],[0,1,2,3,4,5,6,7,8,9,10,11,12,15,13,14,16,17],[0,1,2,3,4,5,7,8,9,10,11,12,15,6,13,14,16,17],[0,1,2,3,4,5,6,7,8,9,10,11,12,14,13,15,16,17],[0,1,2,3,4,5,6,7,8,9,10,11,12,14,15,13,16,17],[0,1,2,3,4,5,6,7,8,9,10,11,12,15,14,13,16,17],[0,1,2,3,4,5,7,8,9,10,11,12,15,6,14,13,16,17],[0,1,2,3,4,5,7,8,9,10,11,12,14,6,13,15,16,17],[0,1,2,3,4,5,7,8,9,10,11,12,14,6,15,13,16,17],[0,1,2,3,4,5,7,8,9,10,11,12,14,15,6,13,16,17],[0,1,2,3,4,5,7,8,9,10,11,12,15,14,6,13,16,17]] (by kernel_rfl) (fun F2 H2=>F2=[(4,.ptr (some (H.length,0))),(6,.ptr (some (H.length+1,0))),(7,iV 0),(8,.ptr (some (H.length+2,0))),(9,.ptr (some (H.length+3,0)))]/\H2=H++[.cells true 0 [iV tu,iV le,iV sl,iV ra],.cells true 0 [iV 0,iV 0,iV 0,iV 0],.cells true 0 [iV (cE h (mxI (f-le) 0)),iV (cF h (mxI (f-le) 0))],.cells true 0 [iV (cE h (mxI (f+le) 0)),iV (cF h (mxI (f+le) 0))]]) ?_ ?_
 ·refine aj ?_ (aj ?_ (aj ?_ (aj ?_ (aj ?_ (aj ?_ (aj ?_ (aj ?_ (aj ?_ (aj ?_ (aj ?_ (aj ?_ (bu))))))))))))<;>intro J hJ
  ·refine ag G3 ?_
   refine cd (cr _ h _ (by omega)) ?_
   refine ag G3 ?_
   refine cd (cr _ h _ (by omega)) ?_
   refine ag G3 ?_
   refine aq (hJ _ _ ⟨_,_,_,⟨rfl,rfl⟩,bS hbel [1,2,3,4] aJ⟩)
  ·refine ag G3 ?_
   refine cd (cr _ h _ (by omega)) ?_
   refine ag G3 ?_
   refine cd (cr _ h _ (by omega)) ?_
   refine ag G3 ?_
   refine aq (hJ _ _ ⟨_,_,_,⟨rfl,rfl⟩,bS hbel [1,2,4,3] aJ⟩)
  ·refine ag G3 ?_
   refine cd (cr _ h _ (by omega)) ?_
   refine ag G3 ?_
   refine cd (cr _ h _ (by omega)) ?_
   refine ag G3 ?_
   refine aq (hJ _ _ ⟨_,_,_,⟨rfl,rfl⟩,bS hbel [1,2,4,3] aJ⟩)
  ·refine ag G3 ?_
   refine cd (cr _ h _ (by omega)) ?_
   refine ag G3 ?_
   refine cd (cr _ h _ (by omega)) ?_
   refine ag G3 ?_
   refine aq (hJ _ _ ⟨_,_,_,⟨rfl,rfl⟩,bS hbel [1,2,4,3] aJ⟩)
  ·refine ag G3 ?_
   refine cd (cr _ h _ (by omega)) ?_
   refine ag G3 ?_
   refine cd (cr _ h _ (by omega)) ?_
   refine ag G3 ?_
   refine aq (hJ _ _ ⟨_,_,_,⟨rfl,rfl⟩,bS hbel [1,2,3,4] aJ⟩)
  ·refine ag G3 ?_
   refine cd (cr _ h _ (by omega)) ?_
   refine ag G3 ?_
   refine cd (cr _ h _ (by omega)) ?_
   refine ag G3 ?_
   refine aq (hJ _ _ ⟨_,_,_,⟨rfl,rfl⟩,bS hbel [1,2,3,4] aJ⟩)
  ·refine ag G3 ?_
   refine cd (cr _ h _ (by omega)) ?_
   refine ag G3 ?_
   refine cd (cr _ h _ (by omega)) ?_
   refine ag G3 ?_
   refine aq (hJ _ _ ⟨_,_,_,⟨rfl,rfl⟩,bS hbel [1,2,4,3] aJ⟩)
  ·refine ag G3 ?_
   refine cd (cr _ h _ (by omega)) ?_
   refine ag G3 ?_
   refine cd (cr _ h _ (by omega)) ?_
   refine ag G3 ?_
   refine aq (hJ _ _ ⟨_,_,_,⟨rfl,rfl⟩,bS hbel [1,2,4,3] aJ⟩)
  ·refine ag G3 ?_
   refine cd (cr _ h _ (by omega)) ?_
   refine ag G3 ?_
   refine cd (cr _ h _ (by omega)) ?_
   refine ag G3 ?_
   refine aq (hJ _ _ ⟨_,_,_,⟨rfl,rfl⟩,bS hbel [1,2,3,4] aJ⟩)
  ·refine ag G3 ?_
   refine cd (cr _ h _ (by omega)) ?_
   refine ag G3 ?_
   refine cd (cr _ h _ (by omega)) ?_
   refine ag G3 ?_
   refine aq (hJ _ _ ⟨_,_,_,⟨rfl,rfl⟩,bS hbel [1,2,3,4] aJ⟩)
  ·refine ag G3 ?_
   refine cd (cr _ h _ (by omega)) ?_
   refine ag G3 ?_
   refine cd (cr _ h _ (by omega)) ?_
   refine ag G3 ?_
   refine aq (hJ _ _ ⟨_,_,_,⟨rfl,rfl⟩,bS hbel [1,2,3,4] aJ⟩)
  refine ag G3 ?_
  refine cd (cr _ h _ (by omega)) ?_
  refine ag G3 ?_
  refine cd (cr _ h _ (by omega)) ?_
  refine ag G3 ?_
  refine aq (hJ _ _ ⟨_,_,_,⟨rfl,rfl⟩,bS hbel [1,2,4,3] aJ⟩)
 rintro F2 H2 ⟨rfl,rfl⟩
 refine fnT ?_
 exact eR G3 hQ hbel (.tup [.agg [iV ((mnI (cE h (mxI (f-le) 0)) (cE h (mxI (f+le) 0)))-sl),iV ((mnI (cF h (mxI (f-le) 0)) (cF h (mxI (f+le) 0)))-sl),iV ((mxI (cE h (mxI (f-le) 0)) (cE h (mxI (f+le) 0)))+sl),iV ((mxI (cF h (mxI (f-le) 0)) (cF h (mxI (f+le) 0)))+sl)],iV 0]) results168 ⟨by (rw[hfinZ];rfl),rfl⟩
theorem bmv1_c (H:aa)(n:Int):zC 218 [iV n] H (.bool (k9 n)) H:=by
 refine AcT true func218 ?_;intro hbel Q hQ
 refine aB ?_
 refine aV (fun h1=>?_) (fun h1=>?_)
 ·have h1d:=bsT h1
  have G1:=jn h1 @h1d
  exact eS G1 hQ hbel (.bool (decide (2097152<n))) results218 ⟨by simp[k9,h1d],rfl⟩
 have h1d:=bsT h1
 have G2:=jn h1 @h1d
 exact eS G2 hQ hbel (.bool true) results218 ⟨by simp[k9,h1d],rfl⟩
theorem bxmv_c (H:aa)(x0 y0 x1 y1 f c p q r s:Int)(hb:bxB x0 y0 x1 y1 f c=true)(hd1 : -64<=p/\p<=q/\q<=64)(hd2 : -64<=r/\r<=s/\s<=64):zC 167 [.agg [iV x0,iV y0,iV x1,iV y1,iV f,iV c],iV p,iV q,iV r,iV s] H (.tup [.agg [iV (mkV (mvO x0 y0 x1 y1 p q r s) (x0+p)),iV (mkV (mvO x0 y0 x1 y1 p q r s) (y0+r)),iV (mkV (mvO x0 y0 x1 y1 p q r s) (x1+q)),iV (mkV (mvO x0 y0 x1 y1 p q r s) (y1+s)),iV (mkV (mvO x0 y0 x1 y1 p q r s) f),iV (mkV (mvO x0 y0 x1 y1 p q r s) c)],iV (mvE x0 y0 x1 y1 p q r s)]) H:=by
 have hbb:=bv.1 hb
 have ho2:=off2_4 (a:=p) (b:=q) (c:=r) (d:=s) (by omega) (by omega) (by omega) (by omega)
 refine AcT true func167 ?_;intro hbel Q hQ
 have G3:=jn @hb @ho2
 refine ae G3 ?_
 refine cv (gy _ _ _ _ _ f c) ?_
 refine rgs G3 (fun h1 h1d G4=>?_) (fun h1 h1d _=>?_)
 ·refine rcs G4 (fun h2 h2d _=>?_) (fun h2 h2d G5=>?_)
  ·omega
  refine ae G5 ?_
  refine cvr G5 (has_int _ _ [p,q,r,s] ⟨_,_,_,by rfl,by (rw[aK];rfl)⟩ (by simp) _ [] (by kernel_rfl) rfl k9 (fun j hj=>bmv1_c _ _)) ?_
  refine cv (small_c _ _ [x0+p,x1+q,y0+r,y1+s] ⟨_,_,_,by rfl,by (rw[aK];rfl)⟩ (by simp)) ?_
  refine rcs G5 (fun h3 h3d G6=>?_) (fun h3 h3d G7=>?_)
  ·have hfinO:mvO x0 y0 x1 y1 p q r s=false:=by unfold mvO;rw[h3d];rfl
   exact eR G6 hQ hbel (.tup [.agg [iV 0,iV 0,iV 0,iV 0,iV 0,iV 0],iV 2]) results167 ⟨by unfold mvE;rw[hfinO];rfl,rfl⟩
  have hfinO:mvO x0 y0 x1 y1 p q r s=true:=by unfold mvO;rw[h3d];rfl
  exact eR G7 hQ hbel (.tup [.agg [iV (x0+p),iV (y0+r),iV (x1+q),iV (y1+s),iV f,iV c],iV 0]) results167 ⟨by unfold mvE;rw[hfinO];rfl,rfl⟩
 omega
theorem parc_c (H:aa)(x0 y0 x1 y1 f c:Int):zC 165 [.agg [iV x0,iV y0,iV x1,iV y1,iV f,iV c]] H (.agg [iV f,iV c]) H:=by
 refine AcT true func165 ?_;intro hbel Q hQ
 refine aB ?_
 exact eP hQ hbel (.agg [iV f,iV c]) results165 ⟨rfl,rfl⟩
theorem ptrn_c (H:aa)(x0 y0 x1 y1 f c t tu:Int)(ha:cA f c=true)(hu:0<=tu/\tu<=256):zC 118 [.agg [iV x0,iV y0,iV x1,iV y1,iV f,iV c],iV t,iV tu] H (.agg [iV (grF (shF f c t) (cC c) tu),iV (grC (cC c) tu)]) H:=by
 have ka:=bm.1 ha
 have hs2:cA (shF f c t) (cC c)=true:=kg (by omega)
 refine AcT true func118 ?_;intro hbel Q hQ
 refine aB ?_
 refine cv (parc_c _ _ _ _ _ f c) ?_
 refine aB ?_
 refine cv (hshift_c _ f c t (by assumption)) ?_
 refine aB ?_
 refine cv (hgrow_c _ _ _ _ (by assumption) (by omega)) ?_
 refine aB ?_
 exact eP hQ hbel (.agg [iV (grF (shF f c t) (cC c) tu),iV (grC (cC c) tu)]) results118 ⟨rfl,rfl⟩
theorem preach_c (H:aa)(t g tu le sl ra bf bc:Int)(hC:cM t g=true)(hB:bM tu le sl ra=true)(hA:cA bf bc=true):zC 120 [.agg [iV t,iV g],.agg [iV tu,iV le,iV sl,iV ra],.agg [iV bf,iV bc]] H (.agg [iV ((rcS g le sl (bg bf bc.toNat) (bg bf bc.toNat).length).1),iV ((rcS g le sl (bg bf bc.toNat) (bg bf bc.toNat).length).2.1),iV ((rcS g le sl (bg bf bc.toNat) (bg bf bc.toNat).length).2.2.1),iV ((rcS g le sl (bg bf bc.toNat) (bg bf bc.toNat).length).2.2.2)]) H:=by
 have hCi:=hC
 simp only[cM,Bool.and_eq_true,aZ] at hCi
 have hBi:=hB
 simp only[bM,Bool.and_eq_true,aZ] at hBi
 have ka:=bm.1 hA
 have hln:=fy bf bc.toNat
 refine AcT true func120 ?_;intro hbel Q hQ
 refine aB ?_
 refine cv (oV _ _ _ hA) ?_
 refine aB ?_
 refine glp (fun k F Hx=>∃i:Nat,i+k=(bg bf bc.toNat).length/\F=[(3,.ptr (some (H.length,0))),(4,.ptr (some (H.length+1,0))),(6,.ptr (some (H.length+2,0))),(7,.ptr (some (H.length+3,0))),(13,.sl (some (H.length+4,0)) ((bg bf bc.toNat).length) none),(14,iV (((bg bf bc.toNat).length:Nat):Int)),(15,iV (i:Int))]/\Hx=H++[.cells true 0 [iV t,iV g],.cells true 0 [iV tu,iV le,iV sl,iV ra],.cells true 0 [iV 0,iV 0,iV 0,iV 0],.cells true 0 [iV ((rcS g le sl (bg bf bc.toNat) i).1),iV ((rcS g le sl (bg bf bc.toNat) i).2.1),iV ((rcS g le sl (bg bf bc.toNat) i).2.2.1),iV ((rcS g le sl (bg bf bc.toNat) i).2.2.2)],.cells true 1 (ints .i64 (bg bf bc.toNat))]) ((bg bf bc.toNat).length) ?_ ?_
 ·refine⟨_,_,_,⟨0,by omega,rfl,rfl⟩,bS hbel [0,1,3,4,5] (aC @rcS.eq_1)⟩
 rintro k0 F Hx ⟨i,hm0,rfl,rfl⟩ J0 hJ0
 have G1:=jn @co @cV
 refine rcs G1 (fun h1 h1d _=>?_) (fun h1 h1d G5=>?_)
 ·have hiL:i<(bg bf bc.toNat).length:=by omega
  have hgi:=mrkL_bd (f:=bf) (n:=bc.toNat) _ (nM hiL)
  have q2:=cn (k:=.i64) (xs:=bg bf bc.toNat) (j:=i) (by omega)
  have G2:=jn h1 (jn h1d (jn q2 G1))
  refine ae G2 ?_
  refine cv (drch_c _ t g _ _ _ _ _ (by assumption) (by assumption) (by omega)) ?_
  refine rcs G2 (fun h3 h3d _=>?_) (fun h3 h3d _=>?_)
  ·have h3n:=bnT h3
   have hi0:i=0:=by have q:=h3d;simpa using q
   have hs0:(rcS g le sl (bg bf bc.toNat) (i+1)).1=mnI ((rqR g le sl (gi (bg bf bc.toNat) i)).1) ((rqR g le sl (gi (bg bf bc.toNat) i)).1):=by rw[rcS];simp only;rw[if_pos hi0]
   have hs1:(rcS g le sl (bg bf bc.toNat) (i+1)).2.1=mnI ((rqR g le sl (gi (bg bf bc.toNat) i)).2.1) ((rqR g le sl (gi (bg bf bc.toNat) i)).2.1):=by rw[rcS];simp only;rw[if_pos hi0]
   have hs2:(rcS g le sl (bg bf bc.toNat) (i+1)).2.2.1=mxI ((rqR g le sl (gi (bg bf bc.toNat) i)).2.2.1) ((rqR g le sl (gi (bg bf bc.toNat) i)).2.2.1):=by rw[rcS];simp only;rw[if_pos hi0]
   have hs3:(rcS g le sl (bg bf bc.toNat) (i+1)).2.2.2=mxI ((rqR g le sl (gi (bg bf bc.toNat) i)).2.2.2) ((rqR g le sl (gi (bg bf bc.toNat) i)).2.2.2):=by rw[rcS];simp only;rw[if_pos hi0]
   have G3:=jn h3 (jn h3n (jn @aP (jn @aO G2)))
   refine ae G3 ?_
   refine hJ0 _ _ ⟨k0-1,by omega,_,_,_,⟨i+1,by omega,rfl,rfl⟩,bS hbel [0,1,2,3,4] (aC (jn @hs0 (jn @hs1 (jn @hs2 @hs3))))⟩
  have h3n:=bnT h3
  have hi0:¬i=0:=by have q:=h3d;simpa using q
  have hs0:(rcS g le sl (bg bf bc.toNat) (i+1)).1=mnI ((rcS g le sl (bg bf bc.toNat) i).1) ((rqR g le sl (gi (bg bf bc.toNat) i)).1):=by rw[rcS];simp only;rw[if_neg hi0]
  have hs1:(rcS g le sl (bg bf bc.toNat) (i+1)).2.1=mnI ((rcS g le sl (bg bf bc.toNat) i).2.1) ((rqR g le sl (gi (bg bf bc.toNat) i)).2.1):=by rw[rcS];simp only;rw[if_neg hi0]
  have hs2:(rcS g le sl (bg bf bc.toNat) (i+1)).2.2.1=mxI ((rcS g le sl (bg bf bc.toNat) i).2.2.1) ((rqR g le sl (gi (bg bf bc.toNat) i)).2.2.1):=by rw[rcS];simp only;rw[if_neg hi0]
  have hs3:(rcS g le sl (bg bf bc.toNat) (i+1)).2.2.2=mxI ((rcS g le sl (bg bf bc.toNat) i).2.2.2) ((rqR g le sl (gi (bg bf bc.toNat) i)).2.2.2):=by rw[rcS];simp only;rw[if_neg hi0]
  have G4:=jn h3 (jn h3n (jn @aP (jn @aO G2)))
  refine ae G4 ?_
  refine hJ0 _ _ ⟨k0-1,by omega,_,_,_,⟨i+1,by omega,rfl,rfl⟩,bS hbel [0,1,2,3,4] (aC (jn @hs0 (jn @hs1 (jn @hs2 @hs3))))⟩
 obtain rfl:i=(bg bf bc.toNat).length:=by omega
 exact eR G5 hQ hbel (.agg [iV ((rcS g le sl (bg bf bc.toNat) (bg bf bc.toNat).length).1),iV ((rcS g le sl (bg bf bc.toNat) (bg bf bc.toNat).length).2.1),iV ((rcS g le sl (bg bf bc.toNat) (bg bf bc.toNat).length).2.2.1),iV ((rcS g le sl (bg bf bc.toNat) (bg bf bc.toNat).length).2.2.2)]) results120 ⟨rfl,rfl⟩
theorem pval_c (H:aa)(x0 y0 x1 y1 f c t g tu le sl ra:Int):zC 117 [.agg [iV x0,iV y0,iV x1,iV y1,iV f,iV c],.agg [iV t,iV g],.agg [iV tu,iV le,iV sl,iV ra]] H (.bool (bxB x0 y0 x1 y1 f c&&cM t g&&bM tu le sl ra)) H:=by
 refine AcT true func117 ?_;intro hbel Q hQ
 refine aB ?_
 refine cv (gy _ _ _ _ _ f c) ?_
 refine aB ?_
 refine aV (fun h1=>?_) (fun h1=>?_)
 ·have h1d:=bsT h1
  have G1:=jn h1 @h1d
  refine ae G1 ?_
  refine cv (lP _ t g) ?_
  refine rgs G1 (fun h2 h2d G2=>?_) (fun h2 h2d G3=>?_)
  ·refine ae G2 ?_
   refine cvr G2 (n7 _ _ _ _ _) ?_
   exact eP hQ hbel (.bool (bM tu le sl ra)) results117 ⟨by simp[h1d,h2d],rfl⟩
  exact eR G3 hQ hbel (.bool false) results117 ⟨by simp[h1d,h2d],rfl⟩
 have h1d:=bsT h1
 have G4:=jn h1 @h1d
 exact eR G4 hQ hbel (.bool false) results117 ⟨by simp[h1d],rfl⟩
theorem pmvd_c (H:aa)(x0 y0 x1 y1 f c nf nc p r q s:Int)(hb:bxB x0 y0 x1 y1 f c=true)(ha:cA nf nc=true)(hd1 : -64<=p/\p<=q/\q<=64)(hd2 : -64<=r/\r<=s/\s<=64):zC 119 [.agg [iV x0,iV y0,iV x1,iV y1,iV f,iV c],.agg [iV nf,iV nc],.agg [iV p,iV r,iV q,iV s]] H (.tup [.agg [iV (mkV (mvO x0 y0 x1 y1 p q r s) (x0+p)),iV (mkV (mvO x0 y0 x1 y1 p q r s) (y0+r)),iV (mkV (mvO x0 y0 x1 y1 p q r s) (x1+q)),iV (mkV (mvO x0 y0 x1 y1 p q r s) (y1+s)),iV (mkV (mvO x0 y0 x1 y1 p q r s) nf),iV (mkV (mvO x0 y0 x1 y1 p q r s) nc)],iV (mvE x0 y0 x1 y1 p q r s)]) H:=by
 have hbb:=bv.1 hb
 have hb2:bxB x0 y0 x1 y1 nf nc=true:=bv.2 ⟨hbb.1,hbb.2.1,ha⟩
 (refine bh func119 _ rfl (Nat.le_of_ble_eq_true (by kernel_rfl)) rfl ?_;intro hbel Q hQ hQ' c hc;unfold Tryz.f119 at hc;simp only[Option.some.injEq] at hc;subst hc;clear hQ')
 refine zQT hQ fun Q1 hn1 hQ1 he1=>?_
 refine aB ?_
 refine hn1 _ _ ?_
 refine bt true try_mixed [[0,1,2,3,4,5,6,7],[0,1,2,4,5,3,6,7]] (by kernel_rfl) (fun F2 H2=>F2=[(3,.ptr (some (H.length,0))),(5,.ptr (some (H.length+1,0))),(6,.ptr (some (H.length+2,0))),(7,iV 0)]/\H2=H++[.cells true 0 [iV x0,iV y0,iV x1,iV y1,iV nf,iV nc],.cells true 0 [iV p,iV r,iV q,iV s],.cells true 0 [iV 0,iV 0,iV 0,iV 0,iV 0,iV 0]]) ?_ ?_
 ·refine aj ?_ (aj ?_ (bu))<;>intro J hJ
  ·refine runD ?_
   refine aq (hJ _ _ ⟨_,_,_,⟨rfl,rfl⟩,bS hbel [0,2,3] aJ⟩)
  refine runD ?_
  refine aq (hJ _ _ ⟨_,_,_,⟨rfl,rfl⟩,bS hbel [0,2,3] aJ⟩)
 rintro F2 H2 ⟨rfl,rfl⟩
 refine fnT ?_
 refine aB ?_
 refine cv (bxmv_c _ _ _ _ _ _ _ p q r s (by assumption) (by omega) (by omega)) ?_
 refine aB ?_
 exact eP hQ hbel (.tup [.agg [iV (mkV (mvO x0 y0 x1 y1 p q r s) (x0+p)),iV (mkV (mvO x0 y0 x1 y1 p q r s) (y0+r)),iV (mkV (mvO x0 y0 x1 y1 p q r s) (x1+q)),iV (mkV (mvO x0 y0 x1 y1 p q r s) (y1+s)),iV (mkV (mvO x0 y0 x1 y1 p q r s) nf),iV (mkV (mvO x0 y0 x1 y1 p q r s) nc)],iV (mvE x0 y0 x1 y1 p q r s)]) results119 ⟨rfl,rfl⟩
theorem preachq_c (H:aa)(t g tu le sl ra f c:Int)(hC:cM t g=true)(hB:bM tu le sl ra=true)(ha:cA f c=true)(hu:0<=tu/\tu<=8){x0 y0 x1 y1:Int}:zC 120 [.agg [iV t,iV g],.agg [iV tu,iV le,iV sl,iV ra],.agg [iV (grF (shF f c t) (cC c) tu),iV (grC (cC c) tu)]] H (.agg [iV (imR (x0,y0,x1,y1,f,c) t g tu le sl).1,iV (imR (x0,y0,x1,y1,f,c) t g tu le sl).2.1,iV (imR (x0,y0,x1,y1,f,c) t g tu le sl).2.2.1,iV (imR (x0,y0,x1,y1,f,c) t g tu le sl).2.2.2]) H :=
 preach_c H t g tu le sl ra _ _ hC hB (by have k:=bm.1 ha;refine kg ?_;unfold cC;split<;>omega)
theorem image_c (H:aa)(x0 y0 x1 y1 f c t g tu le sl ra:Int)(hb:bxB x0 y0 x1 y1 f c=true)(hC:cM t g=true)(hB:bM tu le sl ra=true):zC 71 [.agg [iV x0,iV y0,iV x1,iV y1,iV f,iV c],.agg [iV t,iV g],.agg [iV tu,iV le,iV sl,iV ra]] H (.tup [.agg [iV (mkV (mvO x0 y0 x1 y1 (imR (x0,y0,x1,y1,f,c) t g tu le sl).1 (imR (x0,y0,x1,y1,f,c) t g tu le sl).2.2.1 (imR (x0,y0,x1,y1,f,c) t g tu le sl).2.1 (imR (x0,y0,x1,y1,f,c) t g tu le sl).2.2.2) (x0+(imR (x0,y0,x1,y1,f,c) t g tu le sl).1)),iV (mkV (mvO x0 y0 x1 y1 (imR (x0,y0,x1,y1,f,c) t g tu le sl).1 (imR (x0,y0,x1,y1,f,c) t g tu le sl).2.2.1 (imR (x0,y0,x1,y1,f,c) t g tu le sl).2.1 (imR (x0,y0,x1,y1,f,c) t g tu le sl).2.2.2) (y0+(imR (x0,y0,x1,y1,f,c) t g tu le sl).2.1)),iV (mkV (mvO x0 y0 x1 y1 (imR (x0,y0,x1,y1,f,c) t g tu le sl).1 (imR (x0,y0,x1,y1,f,c) t g tu le sl).2.2.1 (imR (x0,y0,x1,y1,f,c) t g tu le sl).2.1 (imR (x0,y0,x1,y1,f,c) t g tu le sl).2.2.2) (x1+(imR (x0,y0,x1,y1,f,c) t g tu le sl).2.2.1)),iV (mkV (mvO x0 y0 x1 y1 (imR (x0,y0,x1,y1,f,c) t g tu le sl).1 (imR (x0,y0,x1,y1,f,c) t g tu le sl).2.2.1 (imR (x0,y0,x1,y1,f,c) t g tu le sl).2.1 (imR (x0,y0,x1,y1,f,c) t g tu le sl).2.2.2) (y1+(imR (x0,y0,x1,y1,f,c) t g tu le sl).2.2.2)),iV (mkV (mvO x0 y0 x1 y1 (imR (x0,y0,x1,y1,f,c) t g tu le sl).1 (imR (x0,y0,x1,y1,f,c) t g tu le sl).2.2.1 (imR (x0,y0,x1,y1,f,c) t g tu le sl).2.1 (imR (x0,y0,x1,y1,f,c) t g tu le sl).2.2.2) (grF (shF f c t) (cC c) tu)),iV (mkV (mvO x0 y0 x1 y1 (imR (x0,y0,x1,y1,f,c) t g tu le sl).1 (imR (x0,y0,x1,y1,f,c) t g tu le sl).2.2.1 (imR (x0,y0,x1,y1,f,c) t g tu le sl).2.1 (imR (x0,y0,x1,y1,f,c) t g tu le sl).2.2.2) (grC (cC c) tu))],iV (mvE x0 y0 x1 y1 (imR (x0,y0,x1,y1,f,c) t g tu le sl).1 (imR (x0,y0,x1,y1,f,c) t g tu le sl).2.2.1 (imR (x0,y0,x1,y1,f,c) t g tu le sl).2.1 (imR (x0,y0,x1,y1,f,c) t g tu le sl).2.2.2)]) H:=by
 have hCi:=hC
 simp only[cM,Bool.and_eq_true,aZ] at hCi
 have hBi:=hB
 simp only[bM,Bool.and_eq_true,aZ] at hBi
 have hbb:=bv.1 hb
 have hab:=hbb.2.2
 have ka:=bm.1 hab
 have hs2:cA (shF f c t) (cC c)=true:=kg (by omega)
 have htu:0<=tu/\tu<=8:=by omega
 have hg2:cA (grF (shF f c t) (cC c) tu) (grC (cC c) tu)=true:=kg (by unfold cC;split<;>omega)
 have hbd:(-64<=(imR (x0,y0,x1,y1,f,c) t g tu le sl).1/\(imR (x0,y0,x1,y1,f,c) t g tu le sl).1<=(imR (x0,y0,x1,y1,f,c) t g tu le sl).2.2.1/\(imR (x0,y0,x1,y1,f,c) t g tu le sl).2.2.1<=64) /\ -64<=(imR (x0,y0,x1,y1,f,c) t g tu le sl).2.1/\(imR (x0,y0,x1,y1,f,c) t g tu le sl).2.1<=(imR (x0,y0,x1,y1,f,c) t g tu le sl).2.2.2/\(imR (x0,y0,x1,y1,f,c) t g tu le sl).2.2.2<=64:=oi (by omega) (by omega) (by omega) _
 (refine bh func71 _ rfl (Nat.le_of_ble_eq_true (by kernel_rfl)) rfl ?_;intro hbel Q hQ hQ' c hc;unfold Tryz.f71 at hc;simp only[Option.some.injEq] at hc;subst hc;clear hQ')
 refine zQT hQ fun Q2 hn2 hQ2 he2=>?_
 have G5:=jn @hb (jn @hC @hB)
 refine ae G5 ?_
 refine hn2 _ _ (zQT hQ fun Q3 hn3 hQ3 he3=>?_)
 refine ae G5 ?_
 refine cvr G5 (pval_c _ _ _ _ _ f c t g _ _ _ _) ?_
 refine hn3 _ _ (zQT hQ fun Q4 hn4 hQ4 he4=>?_)
 refine ae G5 ?_
 refine cvr G5 (ptrn_c _ _ _ _ _ f c t _ (by assumption) (by omega)) ?_
 refine hn4 _ _ ?_
 refine bt true try_mixed [[0,1,2,3,4,5,6,7,8,9,10]] (by kernel_rfl) (fun F2 H2=>F2=[(6,.ptr (some (H.length,0))),(7,iV (mvE x0 y0 x1 y1 ((imR (x0,y0,x1,y1,f,c) t g tu le sl).1) ((imR (x0,y0,x1,y1,f,c) t g tu le sl).2.2.1) ((imR (x0,y0,x1,y1,f,c) t g tu le sl).2.1) ((imR (x0,y0,x1,y1,f,c) t g tu le sl).2.2.2)))]/\H2=H++[.cells true 0 [iV (mkV (mvO x0 y0 x1 y1 ((imR (x0,y0,x1,y1,f,c) t g tu le sl).1) ((imR (x0,y0,x1,y1,f,c) t g tu le sl).2.2.1) ((imR (x0,y0,x1,y1,f,c) t g tu le sl).2.1) ((imR (x0,y0,x1,y1,f,c) t g tu le sl).2.2.2)) (x0+((imR (x0,y0,x1,y1,f,c) t g tu le sl).1))),iV (mkV (mvO x0 y0 x1 y1 ((imR (x0,y0,x1,y1,f,c) t g tu le sl).1) ((imR (x0,y0,x1,y1,f,c) t g tu le sl).2.2.1) ((imR (x0,y0,x1,y1,f,c) t g tu le sl).2.1) ((imR (x0,y0,x1,y1,f,c) t g tu le sl).2.2.2)) (y0+((imR (x0,y0,x1,y1,f,c) t g tu le sl).2.1))),iV (mkV (mvO x0 y0 x1 y1 ((imR (x0,y0,x1,y1,f,c) t g tu le sl).1) ((imR (x0,y0,x1,y1,f,c) t g tu le sl).2.2.1) ((imR (x0,y0,x1,y1,f,c) t g tu le sl).2.1) ((imR (x0,y0,x1,y1,f,c) t g tu le sl).2.2.2)) (x1+((imR (x0,y0,x1,y1,f,c) t g tu le sl).2.2.1))),iV (mkV (mvO x0 y0 x1 y1 ((imR (x0,y0,x1,y1,f,c) t g tu le sl).1) ((imR (x0,y0,x1,y1,f,c) t g tu le sl).2.2.1) ((imR (x0,y0,x1,y1,f,c) t g tu le sl).2.1) ((imR (x0,y0,x1,y1,f,c) t g tu le sl).2.2.2)) (y1+((imR (x0,y0,x1,y1,f,c) t g tu le sl).2.2.2))),iV (mkV (mvO x0 y0 x1 y1 ((imR (x0,y0,x1,y1,f,c) t g tu le sl).1) ((imR (x0,y0,x1,y1,f,c) t g tu le sl).2.2.1) ((imR (x0,y0,x1,y1,f,c) t g tu le sl).2.1) ((imR (x0,y0,x1,y1,f,c) t g tu le sl).2.2.2)) (grF (shF f c t) (cC c) tu)),iV (mkV (mvO x0 y0 x1 y1 ((imR (x0,y0,x1,y1,f,c) t g tu le sl).1) ((imR (x0,y0,x1,y1,f,c) t g tu le sl).2.2.1) ((imR (x0,y0,x1,y1,f,c) t g tu le sl).2.1) ((imR (x0,y0,x1,y1,f,c) t g tu le sl).2.2.2)) (grC (cC c) tu))]]) ?_ ?_
 ·refine aj ?_ (bu)<;>intro J hJ
  refine ag G5 ?_
  refine cd (preachq_c (x0:=x0) (y0:=y0) (x1:=x1) (y1:=y1) _ t g tu le sl ra f c hC hB hab htu) ?_
  refine ag G5 ?_
  refine cd (pmvd_c _ _ _ _ _ f c _ _ _ _ _ _ (by assumption) (by assumption) (by omega) (by omega)) ?_
  refine ag G5 ?_
  refine aq (hJ _ _ ⟨_,_,_,⟨rfl,rfl⟩,bS hbel [3] aJ⟩)
 rintro F2 H2 ⟨rfl,rfl⟩
 refine fnT ?_
 exact eR G5 hQ hbel (.tup [.agg [iV (mkV (mvO x0 y0 x1 y1 ((imR (x0,y0,x1,y1,f,c) t g tu le sl).1) ((imR (x0,y0,x1,y1,f,c) t g tu le sl).2.2.1) ((imR (x0,y0,x1,y1,f,c) t g tu le sl).2.1) ((imR (x0,y0,x1,y1,f,c) t g tu le sl).2.2.2)) (x0+((imR (x0,y0,x1,y1,f,c) t g tu le sl).1))),iV (mkV (mvO x0 y0 x1 y1 ((imR (x0,y0,x1,y1,f,c) t g tu le sl).1) ((imR (x0,y0,x1,y1,f,c) t g tu le sl).2.2.1) ((imR (x0,y0,x1,y1,f,c) t g tu le sl).2.1) ((imR (x0,y0,x1,y1,f,c) t g tu le sl).2.2.2)) (y0+((imR (x0,y0,x1,y1,f,c) t g tu le sl).2.1))),iV (mkV (mvO x0 y0 x1 y1 ((imR (x0,y0,x1,y1,f,c) t g tu le sl).1) ((imR (x0,y0,x1,y1,f,c) t g tu le sl).2.2.1) ((imR (x0,y0,x1,y1,f,c) t g tu le sl).2.1) ((imR (x0,y0,x1,y1,f,c) t g tu le sl).2.2.2)) (x1+((imR (x0,y0,x1,y1,f,c) t g tu le sl).2.2.1))),iV (mkV (mvO x0 y0 x1 y1 ((imR (x0,y0,x1,y1,f,c) t g tu le sl).1) ((imR (x0,y0,x1,y1,f,c) t g tu le sl).2.2.1) ((imR (x0,y0,x1,y1,f,c) t g tu le sl).2.1) ((imR (x0,y0,x1,y1,f,c) t g tu le sl).2.2.2)) (y1+((imR (x0,y0,x1,y1,f,c) t g tu le sl).2.2.2))),iV (mkV (mvO x0 y0 x1 y1 ((imR (x0,y0,x1,y1,f,c) t g tu le sl).1) ((imR (x0,y0,x1,y1,f,c) t g tu le sl).2.2.1) ((imR (x0,y0,x1,y1,f,c) t g tu le sl).2.1) ((imR (x0,y0,x1,y1,f,c) t g tu le sl).2.2.2)) (grF (shF f c t) (cC c) tu)),iV (mkV (mvO x0 y0 x1 y1 ((imR (x0,y0,x1,y1,f,c) t g tu le sl).1) ((imR (x0,y0,x1,y1,f,c) t g tu le sl).2.2.1) ((imR (x0,y0,x1,y1,f,c) t g tu le sl).2.1) ((imR (x0,y0,x1,y1,f,c) t g tu le sl).2.2.2)) (grC (cC c) tu))],iV (mvE x0 y0 x1 y1 ((imR (x0,y0,x1,y1,f,c) t g tu le sl).1) ((imR (x0,y0,x1,y1,f,c) t g tu le sl).2.2.1) ((imR (x0,y0,x1,y1,f,c) t g tu le sl).2.1) ((imR (x0,y0,x1,y1,f,c) t g tu le sl).2.2.2))]) results71 ⟨rfl,rfl⟩
theorem image_t (H:aa)(b:T6)(t g tu le sl ra:Int)(hb:bA b=true)(hC:cM t g=true)(hB:bM tu le sl ra=true):zC 71 [.agg [iV b.1,iV b.2.1,iV b.2.2.1,iV b.2.2.2.1,iV b.2.2.2.2.1,iV b.2.2.2.2.2],.agg [iV t,iV g],.agg [iV tu,iV le,iV sl,iV ra]] H (.tup [.agg [iV (mkV (imO b t g tu le sl) (imB b t g tu le sl).1),iV (mkV (imO b t g tu le sl) (imB b t g tu le sl).2.1),iV (mkV (imO b t g tu le sl) (imB b t g tu le sl).2.2.1),iV (mkV (imO b t g tu le sl) (imB b t g tu le sl).2.2.2.1),iV (mkV (imO b t g tu le sl) (imB b t g tu le sl).2.2.2.2.1),iV (mkV (imO b t g tu le sl) (imB b t g tu le sl).2.2.2.2.2)],iV (imE b t g tu le sl)]) H :=
 image_c H b.1 b.2.1 b.2.2.1 b.2.2.2.1 b.2.2.2.2.1 b.2.2.2.2.2 t g tu le sl ra hb hC hB
def stF (b:Bool) (g:Int):Int:=if b=true then 0 else g
theorem mI {t g:Int}(b:Bool)(h:cM t g=true):cM t (stF b g)=true:=by
 cases b
 ·exact h
 show cM t 0=true
 unfold cM at h ⊢
 rw[Bool.and_eq_true] at h ⊢
 exact⟨h.1,by decide⟩
theorem image_y (H:aa)(b:T6)(t g tu le sl ra:Int)(hb:bA b=true)(hC:cM t g=true)(hB:bM tu le sl ra=true)(h:imO b t g tu le sl=true):zC 71 [.agg [iV b.1,iV b.2.1,iV b.2.2.1,iV b.2.2.2.1,iV b.2.2.2.2.1,iV b.2.2.2.2.2],.agg [iV t,iV g],.agg [iV tu,iV le,iV sl,iV ra]] H (.tup [.agg [iV (imB b t g tu le sl).1,iV (imB b t g tu le sl).2.1,iV (imB b t g tu le sl).2.2.1,iV (imB b t g tu le sl).2.2.2.1,iV (imB b t g tu le sl).2.2.2.2.1,iV (imB b t g tu le sl).2.2.2.2.2],iV 0]) H:=by
 have k:=image_t H b t g tu le sl ra hb hC hB
 unfold imE mkV at k
 simp only[h,if_true] at k
 exact k
theorem imA_at {l:List T6}{t f tu le sl:Int}(h:imA l t f tu le sl=true){j:Nat}(hj:j<l.length):imO (g6 l j) t f tu le sl=true:=List.all_eq_true.1 h _ (cQ hj)
theorem boxes_y (H:aa)(s:AV)(l:List T6)(t g tu le sl ra:Int)(still:Bool)(hs:Sl H 6 s l.length (r6 l))(hS:cw l=true)(hC:cM t g=true)(hB:bM tu le sl ra=true)(hA:imA l t (stF still g) tu le sl=true):zC 40 [s,.agg [iV t,iV g],.agg [iV tu,iV le,iV sl,iV ra],.bool still] H (.tup [.sl (some (H.length,0)) ((imS l t (stF still g) tu le sl l.length).length) (aW (imS l t (stF still g) tu le sl l.length).length),iV 0]) (H++[.cells (aQ (imS l t (stF still g) tu le sl l.length).length) 6 (r6 (imS l t (stF still g) tu le sl l.length))]):=by
 obtain⟨bs,os,cs,rfl,hbs,hbls,hb0s⟩:=zA1 hs
 have hSS:=bN.1 hS
 have hl16:=hSS.1
 have hC2:=mI still hC
 refine AcT true func40 ?_;intro hbel Q hQ
 have G1:=jn @hbs (jn @hb0s (jn @hC @hB))
 refine rgs G1 (fun h1 h1d G2=>?_) (fun h1 h1d _=>?_)
 ·refine ae G2 ?_
  refine cvr G2 (lP _ t g) ?_
  refine cvr G2 (n7 _ _ _ _ _) ?_
  refine glp (fun k F Hx=>∃i:Nat,i+k=l.length/\F=[(0,.sl (some (bs,0)) l.length cs),(3,.bool still),(5,.ptr (some (H.length,0))),(6,.ptr (some (H.length+1,0))),(30,.sl (some (bs,0)) l.length cs),(31,iV (l.length:Int)),(32,iV (i:Int))]/\Hx=H++[.cells true 0 [iV t,iV g],.cells true 0 [iV tu,iV le,iV sl,iV ra]]) (l.length) ?_ ?_
  ·refine⟨_,_,_,⟨0,by omega,rfl,rfl⟩,bS hbel [0,1] aJ⟩
  rintro k0 F Hx ⟨i,hm0,rfl,rfl⟩ J0 hJ0
  refine rcs G2 (fun h2 h2d _=>?_) (fun h2 h2d G5=>?_)
  ·have hlt:i<l.length:=by omega
   have q3:=dK (l:=l) (j:=i) (by omega)
   have G3:=jn h2 (jn h2d (jn @cN (jn q3 G2)))
   refine ae G3 ?_
   refine cv (gy _ _ _ _ _ _ _) ?_
   refine rcs G3 (fun h4 h4d _=>?_) (fun h4 h4d G4=>?_)
   ·exact absurd ((show bA (g6 l i)=true from hSS.2 _ (cQ hlt)).symm.trans h4d) (by decide)
   refine ae G4 ?_
   refine hJ0 _ _ ⟨k0-1,by omega,_,_,_,⟨i+1,by omega,rfl,rfl⟩,bS hbel [0,1] aJ⟩
  obtain rfl:i=l.length:=by omega
  refine rcs G5 (fun h5 h5d G6=>?_) (fun h5 h5d G11=>?_)
  ·have hst0:stF still g=0:=by unfold stF;rw[h5d];rfl
   rw[hst0] at hA hC2
   refine ae G6 ?_
   refine glp (fun k F Hx=>∃i:Nat,i+k=l.length/\F=[(5,.ptr (some (H.length,0))),(6,.ptr (some (H.length+1,0))),(12,.sl (some (H.length+2,0)) ((imS l t 0 tu le sl i).length) (aW (imS l t 0 tu le sl i).length)),(42,.sl (some (bs,0)) l.length cs),(43,iV (l.length:Int)),(44,iV (i:Int))]/\Hx=H++[.cells true 0 [iV t,iV 0],.cells true 0 [iV tu,iV le,iV sl,iV ra],.cells (aQ (imS l t 0 tu le sl i).length) 6 (r6 (imS l t 0 tu le sl i))]) (l.length) ?_ ?_
   ·refine⟨_,_,_,⟨0,by omega,rfl,rfl⟩,Abs.byG hbel [.cells false 6 []] rfl [0,1,2] (by decide) ?_⟩
    exact aC (jn @imS.eq_1 (jn @bR (jn @bG (jn @cB @bY))))
   rintro k1 F Hx ⟨i,hm1,rfl,rfl⟩ J1 hJ1
   have hil0:=gl (l:=l) (t:=t) (f:=0) (tu:=tu) (le:=le) (sl:=sl) i
   have G7:=jn @cN (jn @gt G6)
   refine rcs G7 (fun h6 h6d _=>?_) (fun h6 h6d G10=>?_)
   ·have hlt:i<l.length:=by omega
    have hbv:bA (g6 l i)=true:=hSS.2 _ (cQ hlt)
    have hil:=gl (l:=l) (t:=t) (f:=0) (tu:=tu) (le:=le) (sl:=sl) i
    have q7:=dK (l:=l) (j:=i) (by omega)
    have G8:=jn h6 (jn h6d (jn q7 G7))
    refine ae G8 ?_
    rcases Bool.eq_false_or_eq_true (imO (g6 l i) t 0 tu le sl) with h8|h8
    ·have h8d:=h8
     refine cv (image_y _ (g6 l i) t 0 _ _ _ _ (by assumption) (by assumption) (by assumption) (by assumption)) ?_
     have G9:=jn h8 (jn h8d (jn @bF (jn @d4 G8)))
     refine ae G9 ?_
     refine hJ1 _ _ ⟨k1-1,by omega,_,_,_,⟨i+1,by omega,rfl,rfl⟩,bS hbel [0,1,6] (aC (jn @imS.eq_2 (jn @bR (jn @bG (jn @cB @bY)))))⟩
    have h8d:=h8
    exact absurd ((imA_at hA hlt).symm.trans h8d) (by decide)
   obtain rfl:i=l.length:=by omega
   refine ae G10 ?_
   refine hQ _ _ (ba (.inl rfl) hbel (x1:=.tup [.sl (some (H.length+2,0)) ((imS l t 0 tu le sl l.length).length) (aW (imS l t 0 tu le sl l.length).length),iV 0]) (l2:=[.cells (aQ (imS l t 0 tu le sl l.length).length) 6 (r6 (imS l t 0 tu le sl l.length))]) (.tup [.sl (some (H.length,0)) ((imS l t 0 tu le sl l.length).length) (aW (imS l t 0 tu le sl l.length).length),iV 0]) (aY results40) [] rfl [2] (by decide) ⟨by rw[hst0],by rw[hst0]⟩ ?_)
   exact aS @bY
  have hst0:stF still g=g:=by unfold stF;rw[h5d];rfl
  rw[hst0] at hA hC2
  refine ae G11 ?_
  refine glp (fun k F Hx=>∃i:Nat,i+k=l.length/\F=[(5,.ptr (some (H.length,0))),(6,.ptr (some (H.length+1,0))),(12,.sl (some (H.length+2,0)) ((imS l t g tu le sl i).length) (aW (imS l t g tu le sl i).length)),(42,.sl (some (bs,0)) l.length cs),(43,iV (l.length:Int)),(44,iV (i:Int))]/\Hx=H++[.cells true 0 [iV t,iV g],.cells true 0 [iV tu,iV le,iV sl,iV ra],.cells (aQ (imS l t g tu le sl i).length) 6 (r6 (imS l t g tu le sl i))]) (l.length) ?_ ?_
  ·refine⟨_,_,_,⟨0,by omega,rfl,rfl⟩,Abs.byG hbel [.cells false 6 []] rfl [0,1,2] (by decide) ?_⟩
   exact aC (jn @imS.eq_1 (jn @bR (jn @bG (jn @cB @bY))))
  rintro k2 F Hx ⟨i,hm2,rfl,rfl⟩ J2 hJ2
  have hil0:=gl (l:=l) (t:=t) (f:=g) (tu:=tu) (le:=le) (sl:=sl) i
  have G12:=jn @cN (jn @gt G11)
  refine rcs G12 (fun h9 h9d _=>?_) (fun h9 h9d G15=>?_)
  ·have hlt:i<l.length:=by omega
   have hbv:bA (g6 l i)=true:=hSS.2 _ (cQ hlt)
   have hil:=gl (l:=l) (t:=t) (f:=g) (tu:=tu) (le:=le) (sl:=sl) i
   have q10:=dK (l:=l) (j:=i) (by omega)
   have G13:=jn h9 (jn h9d (jn q10 G12))
   refine ae G13 ?_
   rcases Bool.eq_false_or_eq_true (imO (g6 l i) t g tu le sl) with h11|h11
   ·have h11d:=h11
    refine cv (image_y _ (g6 l i) t g _ _ _ _ (by assumption) (by assumption) (by assumption) (by assumption)) ?_
    have G14:=jn h11 (jn h11d (jn @bF (jn @d4 G13)))
    refine ae G14 ?_
    refine hJ2 _ _ ⟨k2-1,by omega,_,_,_,⟨i+1,by omega,rfl,rfl⟩,bS hbel [0,1,6] (aC (jn @imS.eq_2 (jn @bR (jn @bG (jn @cB @bY)))))⟩
   have h11d:=h11
   exact absurd ((imA_at hA hlt).symm.trans h11d) (by decide)
  obtain rfl:i=l.length:=by omega
  refine ae G15 ?_
  refine hQ _ _ (ba (.inl rfl) hbel (x1:=.tup [.sl (some (H.length+2,0)) ((imS l t g tu le sl l.length).length) (aW (imS l t g tu le sl l.length).length),iV 0]) (l2:=[.cells (aQ (imS l t g tu le sl l.length).length) 6 (r6 (imS l t g tu le sl l.length))]) (.tup [.sl (some (H.length,0)) ((imS l t g tu le sl l.length).length) (aW (imS l t g tu le sl l.length).length),iV 0]) (aY results40) [] rfl [2] (by decide) ⟨by rw[hst0],by rw[hst0]⟩ ?_)
  exact aS @bY
 omega
theorem way_mid {h m1 m m2:Int}(h1:m1<=m)(h2:m<=m2):(mnI (cE h m1) (cE h m2)<=cE h m/\cE h m<=mxI (cE h m1) (cE h m2))/\mnI (cF h m1) (cF h m2)<=cF h m/\cF h m<=mxI (cF h m1) (cF h m2):=by
 have hd:1<=(bK h).2.2:=(c9.1 (fD h)).1.1
 have key:∀a:Int,mnI (m1*a/(bK h).2.2) (m2*a/(bK h).2.2)<=m*a/(bK h).2.2/\m*a/(bK h).2.2<=mxI (m1*a/(bK h).2.2) (m2*a/(bK h).2.2):=fun a=>by
  have n:=el (a:=m1*a/(bK h).2.2) (b:=m2*a/(bK h).2.2)
  have x:=eo (a:=m1*a/(bK h).2.2) (b:=m2*a/(bK h).2.2)
  rcases Int.le_total 0 a with ha|ha
  ·have a1:=Int.ediv_le_ediv (show 0<(bK h).2.2 by omega) (Int.mul_le_mul_of_nonneg_right h1 ha)
   have a2:=Int.ediv_le_ediv (show 0<(bK h).2.2 by omega) (Int.mul_le_mul_of_nonneg_right h2 ha)
   omega
  have a1:=Int.ediv_le_ediv (show 0<(bK h).2.2 by omega) (Int.mul_le_mul_of_nonpos_right h1 ha)
  have a2:=Int.ediv_le_ediv (show 0<(bK h).2.2 by omega) (Int.mul_le_mul_of_nonpos_right h2 ha)
  omega
 exact⟨key _,key _⟩
def wiC (f le sl dx dy h:Int) (j:Nat):Bool:=br (dx-cE h (mxI (f+(0-le+(j:Int))) 0)) sl&&br (dy-cF h (mxI (f+(0-le+(j:Int))) 0)) sl
def wiA (f le sl dx dy h:Int):Bool:=(List.range (2*le+1).toNat).any (wiC f le sl dx dy h)
theorem wiA_y {f le sl dx dy h:Int}{j:Nat}(hj:(j:Int)<=2*le)(k:wiC f le sl dx dy h j=true):wiA f le sl dx dy h=true:=List.any_eq_true.2 ⟨j,List.mem_range.2 (by omega),k⟩
def wthB (tu le sl ra x y h t f u v w:Int) (st:Bool):Bool:=bM tu le sl ra&&(dd x y h&&(cM t f&&(dd u v w&&(br (delI ((((h+t)%256).toNat:Nat):Int) w) tu&&(bif st||f==0 then (u-x==0)&&(v-y==0) else wiA f le sl (u-x) (v-y) w)))))
theorem wth_in {b:T6}{tu le sl ra x y h t f u v w:Int}{st:Bool}(hb:bA b=true)(hi:InP b x y h)(k:wthB tu le sl ra x y h t f u v w st=true):InP (imB b t (stF st f) tu le sl) u v w:=by
 unfold wthB at k
 simp only[Bool.and_eq_true] at k
 obtain⟨kB,kp,kC,kq,kd,k⟩:=k
 simp only[bM,Bool.and_eq_true,aZ] at kB
 have kC2:=mI st kC
 have hp:=aZ.1 (dp.1 kp).2
 have hq:=aZ.1 (dp.1 kq).2
 rw[aL] at kd
 have hb6:=bv.1 hb
 have hm:=mark_in2 (t:=t) (e:=delI ((((h+t)%256).toNat:Nat):Int) w) (tu:=tu) hb6.2.2 hi.2.2 hp (by omega) (by omega)
 have hw:nhI h t (delI ((((h+t)%256).toNat:Nat):Int) w)=w:=by unfold nhI delI;split<;>omega
 rw[hw] at hm
 obtain⟨j,hj,hjw⟩:=List.mem_iff_getElem.1 hm
 have hjg:gi (gp b.2.2.2.2.1 b.2.2.2.2.2 t tu) j=w:=by rw[fM hj];exact hjw
 have hr:=rcS_has (f:=stF st f) (le:=le) (sl:=sl) (L:=gp b.2.2.2.2.1 b.2.2.2.2.2 t tu) hj
 rw[hjg] at hr
 have hR:(rqR (stF st f) le sl w).1<=u-x/\u-x<=(rqR (stF st f) le sl w).2.2.1/\(rqR (stF st f) le sl w).2.1<=v-y/\v-y<=(rqR (stF st f) le sl w).2.2.2:=by
  by_cases h0:stF st f=0
  ·unfold rqR
   rw[if_pos h0]
   have hc:(st||f==0)=true:=by
    unfold stF at h0
    split at h0
    ·rename_i q;rw[q];rfl
    rw[h0];simp
   rw[hc,cond_true,Bool.and_eq_true,beq_iff_eq,beq_iff_eq] at k
   simp only;omega
  have hst:¬(st=true\/f=0):=fun q=>h0 (by
   unfold stF
   rcases q with q|q
   ·rw[if_pos q]
   split<;>first|rfl|exact q)
  have hf:stF st f=f:=by unfold stF;rw[if_neg (fun q=>hst (.inl q))]
  have hcf:(st||f==0)=false:=by
   cases hq:(st||f==0) with
   |false=>rfl
   | true =>
    rw[Bool.or_eq_true,beq_iff_eq] at hq
    exact absurd hq hst
  rw[hcf,cond_false] at k
  obtain⟨i,hi,hc⟩:=List.any_eq_true.1 k
  rw[List.mem_range] at hi
  unfold wiC at hc
  rw[Bool.and_eq_true,aL,aL] at hc
  rw[hf] at h0 ⊢
  have hmid:=way_mid (h:=w) (m1:=mxI (f-le) 0) (m:=mxI (f+(0-le+(i:Int))) 0) (m2:=mxI (f+le) 0) (by unfold mxI;split<;>split<;>omega) (by unfold mxI;split<;>split<;>omega)
  have e1:rqA f le w=cE w (mxI (f-le) 0):=rfl
  have e2:rqB f le w=cE w (mxI (f+le) 0):=rfl
  have e3:rqC f le w=cF w (mxI (f-le) 0):=rfl
  have e4:rqD f le w=cF w (mxI (f+le) 0):=rfl
  unfold rqR
  rw[if_neg h0,e1,e2,e3,e4]
  simp only
  omega
 unfold InP at hi ⊢
 unfold imB
 have e0:imR b t (stF st f) tu le sl=rcS (stF st f) le sl (gp b.2.2.2.2.1 b.2.2.2.2.2 t tu) (gp b.2.2.2.2.1 b.2.2.2.2.2 t tu).length:=rfl
 simp only
 rw[e0]
 refine⟨by omega,by omega,?_⟩
 unfold eq
 have hin:w∈bg (grF (shF b.2.2.2.2.1 b.2.2.2.2.2 t) (cC b.2.2.2.2.2) tu) (grC (cC b.2.2.2.2.2) tu).toNat:=hm
 unfold bg at hin
 obtain⟨i,hir,hiw⟩:=List.mem_map.1 hin
 rw[List.mem_range] at hir
 have hg:1<=grC (cC b.2.2.2.2.2) tu/\grC (cC b.2.2.2.2.2) tu<=256:=by
  have:=bm.1 hb6.2.2
  unfold grC cC;split<;>split<;>omega
 omega
theorem wth_set {l:List T6}{tu le sl ra x y h t f u v w:Int}{st:Bool}(hv:∀b∈l,bA b=true)(hc:∃b∈l,InP b x y h)(k:wthB tu le sl ra x y h t f u v w st=true):∃b∈imS l t (stF st f) tu le sl l.length,InP b u v w:=by
 obtain⟨b,hb,hi⟩:=hc
 obtain⟨j,hj,rfl⟩:=List.mem_iff_getElem.1 hb
 rw[<-show g6 l j=l[j] from jR hj] at hi hb
 exact⟨_,o9.2 ⟨j,hj,rfl⟩,wth_in (hv _ hb) hi k⟩
theorem imS_ok {l:List T6}{t f tu le sl:Int}(hv:∀b∈l,bA b=true)(hf:0<=f/\f<=32)(hu:0<=tu/\tu<=8)(hl:0<=le/\le<=16)(hs:0<=sl/\sl<=8)(hA:imA l t f tu le sl=true):∀b∈imS l t f tu le sl l.length,bA b=true:=fun b hb=>by
 obtain⟨j,hj,rfl⟩:=o9.1 hb
 exact imB_ok (hv _ (cQ hj)) hf hu hl hs (List.all_eq_true.1 hA _ (cQ hj))
theorem r6_drop {l:List T6}{j:Nat}:(r6 l).drop (j*6)=r6 (l.drop j):=by
 induction l generalizing j with
 |nil=>simp[cB]
 | cons p l ih =>
  cases j with
  |zero=>simp
  |succ j=>rw[bG,show (j+1)*6=j*6+1+1+1+1+1+1 by omega,List.drop_succ_cons,List.drop_succ_cons,List.drop_succ_cons,List.drop_succ_cons,List.drop_succ_cons,List.drop_succ_cons,ih];rfl
theorem r6_dropv {l:List T6}{k:Nat}(h:k<=l.length):List.take ((l.length-k)*6) (List.drop (k*6) (r6 l))=r6 (List.drop k l):=by
 rw[r6_drop]
 exact List.take_of_length_le (by rw[cN,List.length_drop];omega)
theorem pe {l:List T6}{j:Nat}(h:j<l.length):l.drop j=g6 l j::l.drop (j+1):=by
 rw[List.drop_eq_getElem_cons h,<-jR h];rfl
section
variable {W Hh:Int} {xs:List Int} {s:List (Int×Int)} {g:Int} {QA O R:List T6} {j K k:Nat}
theorem rfn_no (hj:j<QA.length)(hk:QA.length-j+2*K=k)(ht:tOk W Hh xs (g6 QA j) s g=false)(h:rfn W Hh xs s g k (QA.drop j) K O=R):rfn W Hh xs s g (k-1) (QA.drop (j+1)) K O=R:=by
 obtain⟨n,rfl⟩:∃n,k=n+1:=⟨k-1,by omega⟩
 rw[pe hj] at h
 unfold rfn at h
 rw[if_neg (by rw[ht];decide)] at h
 exact h
theorem rfn_two (hj:j<QA.length)(hk:QA.length-j+2*K=k)(ht:tOk W Hh xs (g6 QA j) s g=true)(h2:0<K/\dB (tB W Hh xs (g6 QA j) s g)=true)(h:rfn W Hh xs s g k (QA.drop j) K O=R):rfn W Hh xs s g (k-1) ((QA.drop (j+1)++[d8 (tB W Hh xs (g6 QA j) s g),d9 (tB W Hh xs (g6 QA j) s g)]).drop 0) (K-1) O=R:=by
 obtain⟨n,rfl⟩:∃n,k=n+1:=⟨k-1,by omega⟩
 rw[pe hj] at h
 unfold rfn at h
 rw[if_pos ht,if_pos h2] at h
 exact h
theorem rfn_out (hj:j<QA.length)(hk:QA.length-j+2*K=k)(ht:tOk W Hh xs (g6 QA j) s g=true)(h2:¬(0<K/\dB (tB W Hh xs (g6 QA j) s g)=true))(h:rfn W Hh xs s g k (QA.drop j) K O=R):rfn W Hh xs s g (k-1) (QA.drop (j+1)) K (O++[tB W Hh xs (g6 QA j) s g])=R:=by
 obtain⟨n,rfl⟩:∃n,k=n+1:=⟨k-1,by omega⟩
 rw[pe hj] at h
 unfold rfn at h
 rw[if_pos ht,if_neg h2] at h
 exact h
theorem rfn_end (hj:QA.length<=j)(h:rfn W Hh xs s g k (QA.drop j) K O=R):R=O:=by
 rw[List.drop_eq_nil_of_le hj] at h
 cases k<;>exact h.symm
end
theorem cright_t (H:aa)(W Hh:Int)(pp:AV)(xs:List Int)(q:AV)(sc:List (Int×Int))(g:Int)(hpp:zI H pp xs)(hq:SlP H q sc)(hV:bQ W Hh xs=true)(hsB:di sc=true)(hg:1<=g/\g<=32):zC 74 [.agg [iV W,iV Hh,pp],q,iV g] H (.bool true) H:=by
 have k:=cright_c H W Hh pp xs q sc g hpp hq (by have:=(dX.1 hsB).1;omega)
 rw[hV,hsB,aZ.2 hg] at k
 exact k
theorem rG (H:aa)(W Hh:Int)(pp:AV)(xs:List Int)(s:AV)(l:List T6)(q:AV)(sc:List (Int×Int))(g:Int)(K0:Nat)(hpp:zI H pp xs)(hs:Sl H 6 s l.length (r6 l))(hq:SlP H q sc)(hV:bQ W Hh xs=true)(hS:cw l=true)(hl0:0<l.length)(hsB:di sc=true)(hg:1<=g/\g<=32)(hK0:K0<=64):zC 43 [.agg [iV W,iV Hh,pp],s,q,iV g,iV (K0:Int)] H (.tup [.sl (some (H.length,0)) ((bT W Hh xs l sc g K0).length) (aW (bT W Hh xs l sc g K0).length),iV 0]) (H++[.cells (aQ (bT W Hh xs l sc g K0).length) 6 (r6 (bT W Hh xs l sc g K0))]):=by
 obtain⟨bpp,opp,cpp,rfl,hbpp,hblpp,hb0pp⟩:=zA1 hpp
 obtain⟨bs,os,cs,rfl,hbs,hbls,hb0s⟩:=zA1 hs
 obtain⟨bq,oq,cq,rfl,hbq,hblq,hb0q⟩:=zA1 hq
 have hsl0:(l.length==0)=false:=beq_eq_false_iff_ne.2 (by omega)
 have hsl1:decide (0<l.length)=true:=decide_eq_true hl0
 have hSS:=bN.1 hS
 have hl16:=hSS.1
 have hkb:btw (K0:Int) 0 64=true:=aZ.2 (by omega)
 have hVV:=bo.1 hV
 have hWW:1<=W/\W<=64:=⟨hVV.w0,hVV.w1⟩
 have hHH:1<=Hh/\Hh<=64:=⟨hVV.h0,hVV.h1⟩
 (refine bh func43 _ rfl (Nat.le_of_ble_eq_true (by kernel_rfl)) rfl ?_;intro hbel Q hQ hQ' c hc;unfold Tryz.f43 at hc;simp only[Option.some.injEq] at hc;subst hc;clear hQ')
 refine zQT hQ fun Q1 hn1 hQ1 he1=>?_
 have G1:=jn @hbpp (jn @hb0pp (jn @hbs (jn @hb0s (jn @hbq (jn @hb0q (jn @mkV_t (jn @hkb (jn @hsl0 @hsl1))))))))
 refine ae G1 ?_
 refine hn1 _ _ (zQT hQ fun Q2 hn2 hQ2 he2=>?_)
 refine ae G1 ?_
 refine cv (cright_t _ W _ _ xs _ sc g (zA2 hb0pp hbpp) (zA2 hb0q hbq) hV hsB hg) ?_
 refine rcs G1 (fun h1 h1d _=>?_) (fun h1 h1d G2=>?_)
 ·omega
 refine ae G2 ?_
 refine hn2 _ _ (zQT hQ fun Q3 hn3 hQ3 he3=>?_)
 refine ae G2 ?_
 refine glp (fun k F Hx=>∃i:Nat,i+k=l.length/\F=[(1,.sl (some (bs,0)) l.length cs),(2,.sl (some (bq,0)) sc.length cq),(3,iV g),(4,iV (K0:Int)),(5,.ptr (some (H.length,0))),(31,.sl (some (bs,0)) l.length cs),(32,iV (l.length:Int)),(33,iV (i:Int))]/\Hx=H++[.cells true 0 [iV W,iV Hh,.sl (some (bpp,0)) xs.length cpp]]) (l.length) ?_ ?_
 ·refine⟨_,_,_,⟨0,by omega,rfl,rfl⟩,bS hbel [0] aJ⟩
 rintro k0 F Hx ⟨i,hm0,rfl,rfl⟩ J0 hJ0
 refine rcs G2 (fun h2 h2d _=>?_) (fun h2 h2d G5=>?_)
 ·have hlt:i<l.length:=by omega
  have q3:=dK (l:=l) (j:=i) (by omega)
  have G3:=jn h2 (jn h2d (jn @cN (jn q3 G2)))
  refine ae G3 ?_
  refine cv (gy _ _ _ _ _ _ _) ?_
  refine rcs G3 (fun h4 h4d _=>?_) (fun h4 h4d G4=>?_)
  ·exact absurd ((show bA (g6 l i)=true from hSS.2 _ (cQ hlt)).symm.trans h4d) (by decide)
  refine ae G4 ?_
  refine hJ0 _ _ ⟨k0-1,by omega,_,_,_,⟨i+1,by omega,rfl,rfl⟩,bS hbel [0] aJ⟩
 obtain rfl:i=l.length:=by omega
 refine ae G5 ?_
 refine hn3 _ _ (zQT hQ fun Q4 hn4 hQ4 he4=>?_)
 refine ae G5 ?_
 refine cvr G5 (ec _ _ 0 _) ?_
 refine hn4 _ _ (zQT hQ fun Q5 hn5 hQ5 he5=>?_)
 refine ae G5 ?_
 refine hn5 _ _ (zQT hQ fun Q6 hn6 hQ6 he6=>?_)
 have G6:=jn @cN (jn @gt (jn @r6_all G5))
 refine ae G6 ?_
 refine hn6 _ _ (sqR hQ fun Q7 hn7 hQ7 he7=>?_)
 refine bkR hQ7 fun Q8 hn8 hQ8 he8 hb8=>?_
 refine gG (fun k F Hx=>∃QA:List T6,∃j:Nat,∃K:Nat,∃O:List T6,QA.length-j+2*K=k/\j<=QA.length/\QA.length-j+K<=l.length+K0/\QA.length<=l.length+K0/\O.length+(QA.length-j)+K<=l.length+K0/\(∀b∈QA,bA b=true)/\rfn W Hh xs sc g k (QA.drop j) K O=bT W Hh xs l sc g K0/\F=[(2,.sl (some (bq,0)) sc.length cq),(3,iV g),(4,iV (K:Int)),(5,.ptr (some (H.length,0))),(14,.sl (some (H.length+1,0)) O.length (aW O.length)),(15,.sl (some (H.length+2,j*6)) (QA.length-j) none)]/\Hx=H++[.cells true 0 [iV W,iV Hh,.sl (some (bpp,0)) xs.length cpp],.cells (aQ O.length) 6 (r6 O),.cells true 6 (r6 QA)]) (l.length+2*K0) ?_ ?_
 ·refine⟨_,_,_,⟨l,0,K0,[],by omega,Nat.zero_le _,by omega,by omega,by simp only[List.length_nil];omega,hSS.2,rfl,rfl,rfl⟩,Abs.byG hbel [.cells false 6 []] rfl [0,3,2] (by decide) ?_⟩
  exact aC (jn @Nat.zero_mul (jn @Nat.sub_zero (jn @bR (jn @bG (jn @cB @bY)))))
 rintro k1 F Hx ⟨QA,j,K,O,hm1,hjq,hqb,hql,hol,hqv,hrf,rfl,rfl⟩ Q9 hJ1 hr9 he9
 have hQ9:=fun F H' h=>hr9 F H' (hQ8 F H' h)
 refine zQT hQ9 fun Q10 hn10 hQ10 he10=>?_
 refine rcs G6 (fun h5 h5d _=>?_) (fun h5 h5d G16=>?_)
 ·have hjl:j<QA.length:=by omega
  have hbv:bA (g6 QA j)=true:=hqv _ (cQ hjl)
  have hsf1:QA.length-j-1=QA.length-(j+1):=by omega
  have hsf2:j*6+6=(j+1)*6:=by omega
  have G7:=jn h5 (jn h5d (j2 hsf1 hsf2 G6))
  refine ae G7 ?_
  refine hn10 _ _ ?_
  refine bkR hQ9 fun Q11 hn11 hQ11 he11 hb11=>?_
  refine bt true try_mixed [[0,1,2,3,4,5,6,7,8,9,10,11,12],[0,1,2,3,4,5,10,6,7,8,9,11,12]] (by kernel_rfl) (fun F2 H2=>F2=[(2,.sl (some (bq,0)) sc.length cq),(3,iV g),(4,iV (K:Int)),(5,.ptr (some (H.length,0))),(14,.sl (some (H.length+1,0)) O.length (aW O.length)),(15,.sl (some (H.length+2,j*6)) (QA.length-j) none),(16,.ptr (some (H.length+3,0))),(17,.bool (tOk W Hh xs (g6 QA j) sc g))]/\H2=H++[.cells true 0 [iV W,iV Hh,.sl (some (bpp,0)) xs.length cpp],.cells (aQ O.length) 6 (r6 O),.cells true 6 (r6 QA),.cells true 0 [iV (mkV (tOk W Hh xs (g6 QA j) sc g) ((tB W Hh xs (g6 QA j) sc g).1)),iV (mkV (tOk W Hh xs (g6 QA j) sc g) ((tB W Hh xs (g6 QA j) sc g).2.1)),iV (mkV (tOk W Hh xs (g6 QA j) sc g) ((tB W Hh xs (g6 QA j) sc g).2.2.1)),iV (mkV (tOk W Hh xs (g6 QA j) sc g) ((tB W Hh xs (g6 QA j) sc g).2.2.2.1)),iV (mkV (tOk W Hh xs (g6 QA j) sc g) ((tB W Hh xs (g6 QA j) sc g).2.2.2.2.1)),iV (mkV (tOk W Hh xs (g6 QA j) sc g) ((tB W Hh xs (g6 QA j) sc g).2.2.2.2.2))]]) ?_ ?_
  ·refine aj ?_ (aj ?_ (bu))<;>intro J hJ
   ·have q6:=dK (l:=QA) (j:=j) (by omega)
    have G8:=jn q6 G7
    refine ag G8 ?_
    refine cd (trim_t _ W Hh _ xs (g6 QA j) _ sc g (zA2 hb0pp hbpp) (zA2 hb0q hbq) hV (by assumption) hsB hg) ?_
    refine ag G8 ?_
    refine aq (hJ _ _ ⟨_,_,_,⟨rfl,rfl⟩,bS hbel [0,1,2,3] (aC (jn @bR (jn @bG (jn @cB @bY))))⟩)
   have q7:=dK (l:=QA) (j:=j) (by omega)
   have G9:=jn q7 G7
   refine ag G9 ?_
   refine cd (trim_t _ W Hh _ xs (g6 QA j) _ sc g (zA2 hb0pp hbpp) (zA2 hb0q hbq) hV (by assumption) hsB hg) ?_
   refine ag G9 ?_
   refine aq (hJ _ _ ⟨_,_,_,⟨rfl,rfl⟩,bS hbel [0,1,2,3] (aC (jn @bR (jn @bG (jn @cB @bY))))⟩)
  rintro F2 H2 ⟨rfl,rfl⟩
  refine fnT ?_
  refine rcs G7 (fun h8 h8d G10=>?_) (fun h8 h8d G11=>?_)
  ·have htf:=h8d
   refine ae G10 ?_
   refine hb11 _ _ ?_
   refine hJ1 _ _ ⟨k1-1,by omega,_,_,_,⟨QA,j+1,K,O,by omega,by omega,by omega,hql,by omega,hqv,rfn_no hjl hm1 htf hrf,rfl,rfl⟩,bS hbel [0,1,2] (aC (jn @Nat.zero_mul (jn @Nat.sub_zero (jn @List.length_drop.{0} (jn @bR (jn @bG (jn @cB @bY)))))))⟩
  have hto:=h8d
  have htb:=(tB_ok hWW hHH hbv hto).1
  refine rcs G11 (fun h9 h9d _=>?_) (fun h9 h9d _=>?_)
  ·have hK:0<K:=by omega
   have hsfk:(K:Int)-1=((K-1:Nat):Int):=by omega
   have G12:=jn h9 (j2 h9d hsfk G11)
   refine ae G12 ?_
   rcases Bool.eq_false_or_eq_true (dB (tB W Hh xs (g6 QA j) sc g)) with h10|h10
   ·have h10d:=h10
    have hs2:=h10d
    have hso:=spl_ok htb hs2
    have hdv:List.take ((QA.length-(j+1))*6) (List.drop ((j+1)*6) (r6 QA))=r6 (List.drop (j+1) QA):=r6_dropv (by omega)
    refine cv (split_t _ (tB W Hh xs (g6 QA j) sc g) (by assumption) (by assumption)) ?_
    have G13:=jn h10 (jn h10d (jn @bF (jn @d4 G12)))
    refine ae G13 ?_
    refine hb11 _ _ ?_
    refine hJ1 _ _ ⟨k1-1,by omega,_,_,_,⟨List.drop (j+1) QA++[d8 (tB W Hh xs (g6 QA j) sc g),d9 (tB W Hh xs (g6 QA j) sc g)],0,K-1,O,by (simp only[List.length_append,List.length_drop,List.length_cons,List.length_nil];omega),Nat.zero_le _,by simp only[List.length_append,List.length_drop,List.length_cons,List.length_nil];omega,by simp only[List.length_append,List.length_drop,List.length_cons,List.length_nil];omega,by simp only[List.length_append,List.length_drop,List.length_cons,List.length_nil];omega,fun b hb'=>by
          rcases List.mem_append.1 hb' with q|q
          ·exact hqv b (List.mem_of_mem_drop q)
          rcases List.mem_cons.1 q with q|q
          ·rw[q];exact hso.1
          rw[List.mem_singleton.1 q];exact hso.2.1,rfn_two hjl hm1 hto ⟨hK,hs2⟩ hrf,rfl,rfl⟩,bS hbel [0,1,7] (aC (jn @Nat.zero_mul (jn @Nat.sub_zero (jn @List.length_drop.{0} (jn @hdv (jn @bR (jn @bG (jn @cB @bY))))))))⟩
   have h10d:=h10
   have hno:¬(0<K/\dB (tB W Hh xs (g6 QA j) sc g)=true):=fun q=>absurd (q.2.symm.trans h10d) (by decide)
   refine cv (split_f _ (tB W Hh xs (g6 QA j) sc g) (by assumption) (by assumption)) ?_
   have G14:=jn h10 (jn h10d (jn @bF (jn @d4 G12)))
   refine ae G14 ?_
   refine hn11 _ _ ?_
   refine hJ1 _ _ ⟨k1-1,by omega,_,_,_,⟨QA,j+1,K,O++[(tB W Hh xs (g6 QA j) sc g)],by omega,by omega,by omega,hql,by simp only[List.length_append,List.length_drop,List.length_cons,List.length_nil];omega,hqv,rfn_out hjl hm1 hto hno hrf,rfl,rfl⟩,bS hbel [0,7,2] (aC (jn @Nat.zero_mul (jn @Nat.sub_zero (jn @List.length_drop.{0} (jn @bR (jn @bG (jn @cB @bY)))))))⟩
  have hno:¬(0<K/\dB (tB W Hh xs (g6 QA j) sc g)=true):=fun q=>by omega
  have G15:=jn h9 (jn h9d (jn @bF (jn @d4 G11)))
  refine ae G15 ?_
  refine hn11 _ _ ?_
  refine hJ1 _ _ ⟨k1-1,by omega,_,_,_,⟨QA,j+1,K,O++[(tB W Hh xs (g6 QA j) sc g)],by omega,by omega,by omega,hql,by simp only[List.length_append,List.length_drop,List.length_cons,List.length_nil];omega,hqv,rfn_out hjl hm1 hto hno hrf,rfl,rfl⟩,bS hbel [0,5,2] (aC (jn @Nat.zero_mul (jn @Nat.sub_zero (jn @List.length_drop.{0} (jn @bR (jn @bG (jn @cB @bY)))))))⟩
 have hfinR:bT W Hh xs l sc g K0=O:=rfn_end (by omega) hrf
 refine ae G16 ?_
 refine he10 _ _ _ ?_
 refine he9 _ _ _ ?_
 refine hb8 _ _ ?_
 refine hn7 _ _ ?_
 refine fnT ?_
 refine ae G16 ?_
 refine hQ _ _ (ba (.inl rfl) hbel (x1:=.tup [.sl (some (H.length+1,0)) O.length (aW O.length),iV 0]) (l2:=[.cells (aQ O.length) 6 (r6 O)]) (.tup [.sl (some (H.length,0)) O.length (aW O.length),iV 0]) (aY results43) [] rfl [1] (by decide) ⟨by rw[hfinR],by rw[hfinR]⟩ ?_)
 exact aS @bY
end Go.Proofs.YtjihmmoaaibmnaaGreat
