/- Parts of the proof: walks and plain facts. Conditions: as each theorem states. -/
import Derived.Test.YtidlfjajjieepaaGreatG2
namespace Go.Proofs.YtidlfjajjieepaaGreat
set_option linter.unusedSimpArgs false
set_option linter.unusedVariables false
open Go.RowKit Go.Proofs.Tryz
set_option maxHeartbeats 4000000
set_option maxRecDepth 100000
theorem mrkL_0 (f:Int):aw f 0=[]:=rfl
theorem rlist_c (H:ac)(f c:Int)(ha:bZ f c=true):zC 153 [.agg [iV f,iV c]] H (.sl (some (H.length,0)) ((aw f c.toNat).length) (aS (aw f c.toNat).length)) (H++[.cells (aI (aw f c.toNat).length) 1 (ints .i64 (aw f c.toNat))]):=by
 have ka:=bh.1 ha
 refine AcT true func153 ?_;intro hbel Q hQ
 have G1:=@ha
 refine aa G1 ?_
 refine cvr G1 (i8 _ f c) ?_
 refine glp (fun k F Hx=>∃i:Nat,i+k=c.toNat/\F=[(1,.ptr (some (H.length,0))),(3,.sl (some (H.length+1,0)) ((aw f i).length) (aS (aw f i).length)),(4,iV (i:Int))]/\Hx=H++[.cells true 0 [iV f,iV c],.cells (aI (aw f i).length) 1 (ints .i64 (aw f i))]) (c.toNat) ?_ ?_
 ·refine⟨_,_,_,⟨0,by omega,rfl,rfl⟩,Abs.byG hbel [.cells false 1 []] rfl [0,1] (by decide) ?_⟩
  exact al @mrkL_0
 rintro k0 F Hx ⟨i,hm0,rfl,rfl⟩ J0 hJ0
 have htm:Int.tmod (f+(i:Int)) 256=(f+(i:Int))%256:=by rw[Int.tmod_eq_emod_of_nonneg (by omega)]
 have hln:=dm f i
 have G2:=jn @htm (jn @bU (jn @cr G1))
 refine rcs G2 (fun h1 h1d _=>?_) (fun h1 h1d G4=>?_)
 ·have G3:=jn h1 (jn h1d (jn @ba (jn @cH G2)))
  refine aa G3 ?_
  refine hJ0 _ _ ⟨k0-1,by omega,_,_,_,⟨i+1,by omega,rfl,rfl⟩,bS hbel [0,3] (al @pr)⟩
 obtain rfl:i=c.toNat:=by omega
 refine aa G4 ?_
 refine hQ _ _ (aM (.inl rfl) hbel (x1:=.sl (some (H.length+1,0)) ((aw f c.toNat).length) (aS (aw f c.toNat).length)) (l2:=[.cells (aI (aw f c.toNat).length) 1 (ints .i64 (aw f c.toNat))]) (.sl (some (H.length,0)) ((aw f c.toNat).length) (aS (aw f c.toNat).length)) (aU results153) [] rfl [1] (by decide) ⟨rfl,rfl⟩ ?_)
 exact ar
theorem rset_c (H:ac)(f c:Int)(ha:bZ f c=true):zC 145 [.agg [iV f,iV c]] H (.sl (some (H.length,0)) 256 none) (H++[.cells true 1 (c8 (cD f c))]):=by
 have ka:=bh.1 ha
 have hln:=dm f c.toNat
 refine AcT true func145 ?_;intro hbel Q hQ
 have G5:=jn @kW @List.length_replicate.{0}
 refine aa G5 ?_
 refine cvr G5 (rlist_c _ f c (by assumption)) ?_
 refine glp (fun k F Hx=>∃i:Nat,i+k=c.toNat/\F=[(3,.sl (some (H.length+1,0)) ((stM (aw f c.toNat) i).length) none),(4,.sl (some (H.length,0)) ((aw f c.toNat).length) (aS (aw f c.toNat).length)),(5,iV (i:Int))]/\Hx=H++[.cells (aI (aw f c.toNat).length) 1 (ints .i64 (aw f c.toNat)),.cells true 1 (c8 (stM (aw f c.toNat) i))]) (c.toNat) ?_ ?_
 ·refine⟨_,_,_,⟨0,by omega,rfl,rfl⟩,bS hbel [2,1] (al (jn @stM.eq_1 @List.length_replicate.{0}))⟩
 rintro k0 F Hx ⟨i,hm0,rfl,rfl⟩ J0 hJ0
 have hsl:=jN (aw f c.toNat) i
 have G6:=jn @bU (jn @cr (jn @jm (jn @o8 G5)))
 refine rcs G6 (fun h1 h1d _=>?_) (fun h1 h1d G8=>?_)
 ·have hgb:0<=gi (aw f c.toNat) i/\gi (aw f c.toNat) i<=255:=by rw[i7 (by omega)];omega
  have q2:=c9 (k:=.i64) (xs:=aw f c.toNat) (j:=i) (by omega)
  have G7:=jn h1 (jn h1d (jn q2 (jn @kV (jn @List.length_set.{0} G6))))
  refine aa G7 ?_
  refine hJ0 _ _ ⟨k0-1,by omega,_,_,_,⟨i+1,by omega,rfl,rfl⟩,bS hbel [0,1] (al (jn @stM.eq_2 @List.length_set.{0}))⟩
 obtain rfl:i=c.toNat:=by omega
 refine aa G8 ?_
 refine hQ _ _ (aM (.inl rfl) hbel (x1:=.sl (some (H.length+1,0)) ((stM (aw f c.toNat) c.toNat).length) none) (l2:=[.cells true 1 (c8 (stM (aw f c.toNat) c.toNat))]) (.sl (some (H.length,0)) ((stM (aw f c.toNat) c.toNat).length) none) (aU results145) [] rfl [1] (by decide) ⟨by rw[jN],rfl⟩ ?_)
 exact ar
theorem ki (H:ac)(f c f2 c2:Int)(ha:bZ f c=true)(hb:bZ f2 c2=true):zC 103 [.agg [iV f,iV c],.agg [iV f2,iV c2]] H (.tup [.agg [iV ((bM f c f2 c2).1),iV ((bM f c f2 c2).2)],iV 0]) H:=by
 have hs1:=qy f c
 have hs2:=qy f2 c2
 have hbh:=best_hull ha hb
 refine AcT true func103 ?_;intro hbel Q hQ
 have G9:=jn @ha @hb
 refine aa G9 ?_
 refine cvr G9 (i8 _ f c) ?_
 refine cvr G9 (i8 _ _ _) ?_
 refine cvr G9 (rset_c _ f c (by assumption)) ?_
 refine cvr G9 (rset_c _ _ _ (by assumption)) ?_
 refine glp (fun k F Hx=>∃n:Nat,n+k=256/\F=[(4,.ptr (some (H.length,0))),(6,.sl (some (H.length+1,0)) 256 none),(7,.sl (some (H.length+2,0)) 256 none),(8,.ptr (some (H.length+3,0))),(9,iV (255-(n:Int)))]/\Hx=H++[.cells true 0 [iV 0,iV 0],.cells true 1 (c8 (cD f c)),.cells true 1 (c8 (cD f2 c2)),.cells true 0 [iV ((bestN (d8 (cD f c) (cD f2 c2)) n).1),iV ((bestN (d8 (cD f c) (cD f2 c2)) n).2)]]) (256) ?_ ?_
 ·refine⟨_,_,_,⟨0,by omega,rfl,rfl⟩,bS hbel [2,3,4,5] (al (jn @bestN.eq_1 (jn @Int.natCast_zero @Int.sub_zero)))⟩
 rintro k0 F Hx ⟨n,hm0,rfl,rfl⟩ J0 hJ0
 have G10:=jn @jm (jn @o8 G9)
 refine rcs G10 (fun h1 h1d G11=>?_) (fun h1 h1d G23=>?_)
 ·refine aa G11 ?_
  refine glp (fun k F Hx=>∃i:Nat,i+k=256/\F=[(4,.ptr (some (H.length,0))),(6,.sl (some (H.length+1,0)) 256 none),(7,.sl (some (H.length+2,0)) 256 none),(8,.ptr (some (H.length+3,0))),(9,iV (255-(n:Int))),(10,iV (needN (d8 (cD f c) (cD f2 c2)) (255-(n:Int)) i)),(11,iV (i:Int))]/\Hx=H++[.cells true 0 [iV 0,iV 0],.cells true 1 (c8 (cD f c)),.cells true 1 (c8 (cD f2 c2)),.cells true 0 [iV ((bestN (d8 (cD f c) (cD f2 c2)) n).1),iV ((bestN (d8 (cD f c) (cD f2 c2)) n).2)]]) (256) ?_ ?_
  ·refine⟨_,_,_,⟨0,by omega,rfl,rfl⟩,bS hbel [0,1,2,3] (al @needN.eq_1)⟩
  rintro k1 F Hx ⟨i,hm1,rfl,rfl⟩ J1 hJ1
  have htm:Int.tmod ((255-(n:Int))+(i:Int)) 256=((255-(n:Int))+(i:Int))%256:=by rw[Int.tmod_eq_emod_of_nonneg (by omega)]
  have G12:=jn @htm G11
  refine rcs G12 (fun h2 h2d _=>?_) (fun h2 h2d G18=>?_)
  ·have q3:=o6 (xs:=cD f c) (j:=(((255-(n:Int))+(i:Int))%256).toNat) (by omega)
   have G13:=jn h2 (jn h2d (jn q3 G12))
   refine rgs G13 (fun h4 h4d _=>?_) (fun h4 h4d G17=>?_)
   ·have hxa:=h4d
    have q5:=o6 (xs:=cD f2 c2) (j:=(((255-(n:Int))+(i:Int))%256).toNat) (by omega)
    have G14:=jn h4 (jn h4d (jn q5 G13))
    refine rcs G14 (fun h6 h6d G15=>?_) (fun h6 h6d G16=>?_)
    ·have hst:needN (d8 (cD f c) (cD f2 c2)) (255-(n:Int)) (i+1)=(i:Int)+1:=by rw[oj,if_pos (by unfold d8;rw[h6d];simp)]
     refine aa G15 ?_
     refine hJ1 _ _ ⟨k1-1,by omega,_,_,_,⟨i+1,by omega,rfl,rfl⟩,bS hbel [0,1,2,3] (al (jn @hst (jn @Int.natCast_add @Int.natCast_one)))⟩
    have hst:needN (d8 (cD f c) (cD f2 c2)) (255-(n:Int)) (i+1)=needN (d8 (cD f c) (cD f2 c2)) (255-(n:Int)) i:=by rw[oj,if_neg (by unfold d8;rw[hxa,h6d];simp)]
    refine aa G16 ?_
    refine hJ1 _ _ ⟨k1-1,by omega,_,_,_,⟨i+1,by omega,rfl,rfl⟩,bS hbel [0,1,2,3] (al (jn @hst (jn @Int.natCast_add @Int.natCast_one)))⟩
   have hst:needN (d8 (cD f c) (cD f2 c2)) (255-(n:Int)) (i+1)=(i:Int)+1:=by rw[oj,if_pos (by unfold d8;rw[h4d];rfl)]
   refine aa G17 ?_
   refine hJ1 _ _ ⟨k1-1,by omega,_,_,_,⟨i+1,by omega,rfl,rfl⟩,bS hbel [0,1,2,3] (al (jn @hst (jn @Int.natCast_add @Int.natCast_one)))⟩
  obtain rfl:i=256:=by omega
  have hnl:=mA (d8 (cD f c) (cD f2 c2)) (255-(n:Int)) 256
  refine rgs G18 (fun h7 h7d G19=>?_) (fun h7 h7d G22=>?_)
  ·refine rcs G19 (fun h8 h8d G20=>?_) (fun h8 h8d G21=>?_)
   ·refine aa G20 ?_
    (have hst2:bestN (d8 (cD f c) (cD f2 c2)) (n+1)=((255-(n:Int)),needN (d8 (cD f c) (cD f2 c2)) (255-(n:Int)) 256):=(oi _ _).trans (if_pos (by omega)))
    refine hJ0 _ _ ⟨k0-1,by omega,_,_,_,⟨n+1,by omega,rfl,rfl⟩,bS hbel [0,1,2,3] (al (jn @hst2 (jn @Int.natCast_add (jn @Int.natCast_one @Int.sub_sub))))⟩
   refine aa G21 ?_
   (have hst2:bestN (d8 (cD f c) (cD f2 c2)) (n+1)=bestN (d8 (cD f c) (cD f2 c2)) n:=(oi _ _).trans (if_neg (by omega)))
   refine hJ0 _ _ ⟨k0-1,by omega,_,_,_,⟨n+1,by omega,rfl,rfl⟩,bS hbel [0,1,2,3] (al (jn @hst2 (jn @Int.natCast_add (jn @Int.natCast_one @Int.sub_sub))))⟩
  refine aa G22 ?_
  (have hst2:bestN (d8 (cD f c) (cD f2 c2)) (n+1)=bestN (d8 (cD f c) (cD f2 c2)) n:=(oi _ _).trans (if_neg (by omega)))
  refine hJ0 _ _ ⟨k0-1,by omega,_,_,_,⟨n+1,by omega,rfl,rfl⟩,bS hbel [0,1,2,3] (al (jn @hst2 (jn @Int.natCast_add (jn @Int.natCast_one @Int.sub_sub))))⟩
 obtain rfl:n=256:=by omega
 exact eR G23 hQ hbel (.tup [.agg [iV ((bestN (d8 (cD f c) (cD f2 c2)) 256).1),iV ((bestN (d8 (cD f c) (cD f2 c2)) 256).2)],iV 0]) results103 ⟨by rw[hbh],rfl⟩
theorem with_c (H:ac)(x0 y0 x1 y1 f c:Int):zC 99 [.agg [iV x0,iV y0,iV x1,iV y1],.agg [iV f,iV c]] H (.agg [iV x0,iV y0,iV x1,iV y1,iV f,iV c]) H:=by
 refine AcT true func99 ?_;intro hbel Q hQ
 refine aC ?_
 exact eP hQ hbel (.agg [iV x0,iV y0,iV x1,iV y1,iV f,iV c]) results99 ⟨rfl,rfl⟩
theorem bhull_c (H:ac)(x0 y0 x1 y1 f c u0 v0 u1 v1 fb cb:Int)(ha:bxB x0 y0 x1 y1 f c=true)(hb:bxB u0 v0 u1 v1 fb cb=true):zC 56 [.agg [iV x0,iV y0,iV x1,iV y1,iV f,iV c],.agg [iV u0,iV v0,iV u1,iV v1,iV fb,iV cb]] H (.tup [.agg [iV (mnI x0 u0),iV (mnI y0 v0),iV (mxI x1 u1),iV (mxI y1 v1),iV ((bM f c fb cb).1),iV ((bM f c fb cb).2)],iV 0]) H:=by
 have ka:=(bB.1 ha).2.2
 have kb:=(bB.1 hb).2.2
 (refine aR func56 _ rfl (Nat.le_of_ble_eq_true (by kernel_rfl)) rfl ?_;intro hbel Q hQ hQ' c hc;unfold Tryz.f56 at hc;simp only[Option.some.injEq] at hc;subst hc;clear hQ')
 refine fx false try_mixed (by kernel_rfl) (fun F Hx=>look F 2=.ptr (some (H.length,0))/\look F 3=.ptr (some (H.length+1,0))/\look F 4=.ptr (some (H.length+2,0))/\look F 5=iV 0/\Hx=H++[.cells true 0 [iV x0,iV y0,iV x1,iV y1,iV f,iV c],.cells true 0 [iV u0,iV v0,iV u1,iV v1,iV fb,iV cb],.cells true 0 [iV 0,iV 0,iV 0,iV 0,iV 0,iV 0]]) ?_ ?_
 ·have G24:=jn @ha @hb
  refine aa G24 ?_
  refine ai ?_
  exact absT
 rintro F Hx ⟨f1,f2,f3,f4,rfl⟩
 refine fx false try_mixed (by kernel_rfl) (fun F Hx=>look F 2=.ptr (some (H.length,0))/\look F 3=.ptr (some (H.length+1,0))/\look F 4=.ptr (some (H.length+2,0))/\look F 5=iV 0/\Hx=H++[.cells true 0 [iV x0,iV y0,iV x1,iV y1,iV f,iV c],.cells true 0 [iV u0,iV v0,iV u1,iV v1,iV fb,iV cb],.cells true 0 [iV 0,iV 0,iV 0,iV 0,iV 0,iV 0]]) ?_ ?_
 ·have G25:=jn @f1 (jn @f2 (jn @f3 (jn @f4 (jn @ha @hb))))
  refine aa G25 ?_
  refine cvr G25 (fy _ _ _ _ _ f c) ?_
  refine cvr G25 (fy _ _ _ _ _ _ _) ?_
  refine ai ?_
  exact lw (jn @f1 (jn @f2 (jn @f3 @f4)))
 rintro F Hx ⟨f5,f6,f7,f8,rfl⟩
 refine aL false try_mixed [[0,1,2,3,4,5,6,7,8,9,10],[0,1,2,3,8,4,5,6,7,9,10],[0,1,2,8,3,4,5,6,7,9,10],[0,2,8,1,3,4,5,6,7,9,10]] (by kernel_rfl) (fun F2 H2=>F2=[(2,.ptr (some (H.length,0))),(3,.ptr (some (H.length+1,0))),(4,.ptr (some (H.length+2,0))),(5,iV 0),(6,.ptr (some (H.length+3,0)))]/\H2=H++[.cells true 0 [iV x0,iV y0,iV x1,iV y1,iV f,iV c],.cells true 0 [iV u0,iV v0,iV u1,iV v1,iV fb,iV cb],.cells true 0 [iV 0,iV 0,iV 0,iV 0,iV 0,iV 0],.cells true 0 [iV ((bM f c fb cb).1),iV ((bM f c fb cb).2)]]) ?_ ?_
 ·refine af ?_ (af ?_ (af ?_ (af ?_ (aQ))))<;>intro J hJ
  ·have G26:=jn @f1 (jn @f2 (jn @f3 (jn @f4 (jn @f5 (jn @f6 (jn @f7 (jn @f8 (jn @ha @hb))))))))
   refine ag G26 ?_
   refine cd (gr _ _ _ _ _ f c) ?_
   refine ag G26 ?_
   refine cd (gr _ _ _ _ _ _ _) ?_
   refine ag G26 ?_
   refine cd (lG _ f c _ _ (by assumption) (by assumption)) ?_
   refine ag G26 ?_
   refine ai (hJ _ _ ⟨_,_,_,⟨rfl,rfl⟩,bS hbel [0,1,2,3] (aF (jn @f1 (jn @f2 (jn @f3 (jn @f4 (jn @f5 (jn @f6 (jn @f7 @f8))))))))⟩)
  ·have G27:=jn @f1 (jn @f2 (jn @f3 (jn @f4 (jn @f5 (jn @f6 (jn @f7 (jn @f8 (jn @ha @hb))))))))
   refine ag G27 ?_
   refine cd (gr _ _ _ _ _ f c) ?_
   refine ag G27 ?_
   refine cd (gr _ _ _ _ _ _ _) ?_
   refine ag G27 ?_
   refine cd (lG _ f c _ _ (by assumption) (by assumption)) ?_
   refine ag G27 ?_
   refine ai (hJ _ _ ⟨_,_,_,⟨rfl,rfl⟩,bS hbel [0,1,2,3] (aF (jn @f1 (jn @f2 (jn @f3 (jn @f4 (jn @f5 (jn @f6 (jn @f7 @f8))))))))⟩)
  ·have G28:=jn @f1 (jn @f2 (jn @f3 (jn @f4 (jn @f5 (jn @f6 (jn @f7 (jn @f8 (jn @ha @hb))))))))
   refine ag G28 ?_
   refine cd (gr _ _ _ _ _ f c) ?_
   refine ag G28 ?_
   refine cd (gr _ _ _ _ _ _ _) ?_
   refine ag G28 ?_
   refine cd (lG _ f c _ _ (by assumption) (by assumption)) ?_
   refine ag G28 ?_
   refine ai (hJ _ _ ⟨_,_,_,⟨rfl,rfl⟩,bS hbel [0,1,2,3] (aF (jn @f1 (jn @f2 (jn @f3 (jn @f4 (jn @f5 (jn @f6 (jn @f7 @f8))))))))⟩)
  have G29:=jn @f1 (jn @f2 (jn @f3 (jn @f4 (jn @f5 (jn @f6 (jn @f7 (jn @f8 (jn @ha @hb))))))))
  refine ag G29 ?_
  refine cd (gr _ _ _ _ _ f c) ?_
  refine ag G29 ?_
  refine cd (gr _ _ _ _ _ _ _) ?_
  refine ag G29 ?_
  refine cd (lG _ f c _ _ (by assumption) (by assumption)) ?_
  refine ag G29 ?_
  refine ai (hJ _ _ ⟨_,_,_,⟨rfl,rfl⟩,bS hbel [0,1,2,3] (aF (jn @f1 (jn @f2 (jn @f3 (jn @f4 (jn @f5 (jn @f6 (jn @f7 @f8))))))))⟩)
 rintro F2 H2 ⟨rfl,rfl⟩
 refine fnF ?_
 have G30:=jn @ha @hb
 refine aa G30 ?_
 refine cvr G30 (with_c _ _ _ _ _ _ _) ?_
 exact eP hQ hbel (.tup [.agg [iV (if u0<x0 then u0 else x0),iV (if v0<y0 then v0 else y0),iV (if x1<u1 then u1 else x1),iV (if y1<v1 then v1 else y1),iV ((bM f c fb cb).1),iV ((bM f c fb cb).2)],iV 0]) results56 ⟨rfl,rfl⟩
theorem mC (H:ac)(x0 y0 x1 y1 f c u0 v0 u1 v1 fb cb:Int)(ha:bxB x0 y0 x1 y1 f c=true)(hb:bxB u0 v0 u1 v1 fb cb=true):zC 65 [.agg [iV x0,iV y0,iV x1,iV y1,iV f,iV c],.agg [iV u0,iV v0,iV u1,iV v1,iV fb,iV cb]] H (.tup [.agg [iV (mnI x0 u0),iV (mnI y0 v0),iV (mxI x1 u1),iV (mxI y1 v1),iV ((bM f c fb cb).1),iV ((bM f c fb cb).2)],iV 0]) H:=by
 have ka:=(bB.1 ha).2.2
 have kb:=(bB.1 hb).2.2
 (refine aR func65 _ rfl (Nat.le_of_ble_eq_true (by kernel_rfl)) rfl ?_;intro hbel Q hQ hQ' c hc;unfold Tryz.f65 at hc;simp only[Option.some.injEq] at hc;subst hc;clear hQ')
 refine fx false try_mixed (by kernel_rfl) (fun F Hx=>look F 2=.ptr (some (H.length,0))/\look F 3=.ptr (some (H.length+1,0))/\look F 4=.ptr (some (H.length+2,0))/\look F 5=iV 0/\Hx=H++[.cells true 0 [iV x0,iV y0,iV x1,iV y1,iV f,iV c],.cells true 0 [iV u0,iV v0,iV u1,iV v1,iV fb,iV cb],.cells true 0 [iV 0,iV 0,iV 0,iV 0,iV 0,iV 0]]) ?_ ?_
 ·have G31:=jn @ha @hb
  refine aa G31 ?_
  refine ai ?_
  exact absT
 rintro F Hx ⟨f1,f2,f3,f4,rfl⟩
 refine fx false try_mixed (by kernel_rfl) (fun F Hx=>look F 2=.ptr (some (H.length,0))/\look F 3=.ptr (some (H.length+1,0))/\look F 4=.ptr (some (H.length+2,0))/\look F 5=iV 0/\Hx=H++[.cells true 0 [iV x0,iV y0,iV x1,iV y1,iV f,iV c],.cells true 0 [iV u0,iV v0,iV u1,iV v1,iV fb,iV cb],.cells true 0 [iV 0,iV 0,iV 0,iV 0,iV 0,iV 0]]) ?_ ?_
 ·have G32:=jn @f1 (jn @f2 (jn @f3 (jn @f4 (jn @ha @hb))))
  refine aa G32 ?_
  refine cvr G32 (iq _ _ _ _ _ f c) ?_
  refine cvr G32 (iq _ _ _ _ _ _ _) ?_
  refine ai ?_
  exact lw (jn @f1 (jn @f2 (jn @f3 @f4)))
 rintro F Hx ⟨f5,f6,f7,f8,rfl⟩
 refine aL false try_mixed [[0,1,2,3,4,5,6,7,8,9,10],[0,1,2,3,8,4,5,6,7,9,10],[0,1,2,8,3,4,5,6,7,9,10],[0,2,8,1,3,4,5,6,7,9,10]] (by kernel_rfl) (fun F2 H2=>F2=[(2,.ptr (some (H.length,0))),(3,.ptr (some (H.length+1,0))),(4,.ptr (some (H.length+2,0))),(5,iV 0),(6,.ptr (some (H.length+3,0)))]/\H2=H++[.cells true 0 [iV x0,iV y0,iV x1,iV y1,iV f,iV c],.cells true 0 [iV u0,iV v0,iV u1,iV v1,iV fb,iV cb],.cells true 0 [iV 0,iV 0,iV 0,iV 0,iV 0,iV 0],.cells true 0 [iV ((bM f c fb cb).1),iV ((bM f c fb cb).2)]]) ?_ ?_
 ·refine af ?_ (af ?_ (af ?_ (af ?_ (aQ))))<;>intro J hJ
  ·have G33:=jn @f1 (jn @f2 (jn @f3 (jn @f4 (jn @f5 (jn @f6 (jn @f7 (jn @f8 (jn @ha @hb))))))))
   refine ag G33 ?_
   refine cd (fW _ _ _ _ _ f c) ?_
   refine ag G33 ?_
   refine cd (fW _ _ _ _ _ _ _) ?_
   refine ag G33 ?_
   refine cd (ki _ f c _ _ (by assumption) (by assumption)) ?_
   refine ag G33 ?_
   refine ai (hJ _ _ ⟨_,_,_,⟨rfl,rfl⟩,bS hbel [0,1,2,3] (aF (jn @f1 (jn @f2 (jn @f3 (jn @f4 (jn @f5 (jn @f6 (jn @f7 @f8))))))))⟩)
  ·have G34:=jn @f1 (jn @f2 (jn @f3 (jn @f4 (jn @f5 (jn @f6 (jn @f7 (jn @f8 (jn @ha @hb))))))))
   refine ag G34 ?_
   refine cd (fW _ _ _ _ _ f c) ?_
   refine ag G34 ?_
   refine cd (fW _ _ _ _ _ _ _) ?_
   refine ag G34 ?_
   refine cd (ki _ f c _ _ (by assumption) (by assumption)) ?_
   refine ag G34 ?_
   refine ai (hJ _ _ ⟨_,_,_,⟨rfl,rfl⟩,bS hbel [0,1,2,3] (aF (jn @f1 (jn @f2 (jn @f3 (jn @f4 (jn @f5 (jn @f6 (jn @f7 @f8))))))))⟩)
  ·have G35:=jn @f1 (jn @f2 (jn @f3 (jn @f4 (jn @f5 (jn @f6 (jn @f7 (jn @f8 (jn @ha @hb))))))))
   refine ag G35 ?_
   refine cd (fW _ _ _ _ _ f c) ?_
   refine ag G35 ?_
   refine cd (fW _ _ _ _ _ _ _) ?_
   refine ag G35 ?_
   refine cd (ki _ f c _ _ (by assumption) (by assumption)) ?_
   refine ag G35 ?_
   refine ai (hJ _ _ ⟨_,_,_,⟨rfl,rfl⟩,bS hbel [0,1,2,3] (aF (jn @f1 (jn @f2 (jn @f3 (jn @f4 (jn @f5 (jn @f6 (jn @f7 @f8))))))))⟩)
  have G36:=jn @f1 (jn @f2 (jn @f3 (jn @f4 (jn @f5 (jn @f6 (jn @f7 (jn @f8 (jn @ha @hb))))))))
  refine ag G36 ?_
  refine cd (fW _ _ _ _ _ f c) ?_
  refine ag G36 ?_
  refine cd (fW _ _ _ _ _ _ _) ?_
  refine ag G36 ?_
  refine cd (ki _ f c _ _ (by assumption) (by assumption)) ?_
  refine ag G36 ?_
  refine ai (hJ _ _ ⟨_,_,_,⟨rfl,rfl⟩,bS hbel [0,1,2,3] (aF (jn @f1 (jn @f2 (jn @f3 (jn @f4 (jn @f5 (jn @f6 (jn @f7 @f8))))))))⟩)
 rintro F2 H2 ⟨rfl,rfl⟩
 refine fnF ?_
 have G37:=jn @ha @hb
 exact eR G37 hQ hbel (.tup [.agg [iV (if u0<x0 then u0 else x0),iV (if v0<y0 then v0 else y0),iV (if x1<u1 then u1 else x1),iV (if y1<v1 then v1 else y1),iV ((bM f c fb cb).1),iV ((bM f c fb cb).2)],iV 0]) results65 ⟨rfl,rfl⟩
theorem arep_z {k:IntKind}{n:Nat}:(List.range n).map (fun j=>([.int k 0]:List AV).getD (j%1) .any)=ints k (List.replicate n 0):=by
 rw[<-ct]
 refine List.ext_getElem (by simp) fun i h1 h2=>?_
 simp[Nat.mod_one]
def fN (f:Int) (n i:Nat):List Int:=aw f i++List.replicate (n-i) 0
theorem qC {f:Int}{n i:Nat}(h:i<=n):(fN f n i).length=n:=by unfold fN;rw[List.length_append,dm,List.length_replicate];omega
theorem lisS_set {f:Int}{n i:Nat}(h:i<n):(fN f n i).set i ((f+(i:Int))%256)=fN f n (i+1):=by
 unfold fN
 obtain⟨k,hk⟩:∃k,n-i=k+1:=⟨n-i-1,by omega⟩
 rw[hk,List.replicate_succ,List.set_append_right _ _ (by rw[dm];exact Nat.le_refl _),dm,Nat.sub_self,List.set_cons_zero,pr,List.append_assoc,show n-(i+1)=k by omega]
 rfl
theorem lisS_0 (f:Int)(n:Nat):fN f n 0=List.replicate n 0:=rfl
theorem lisS_n (f:Int)(n:Nat):fN f n n=aw f n:=by unfold fN;rw[Nat.sub_self];simp
theorem harc_c (H:ac)(f n:Int)(hn:1<=n/\n<=100000):zC 187 [iV f,iV n] H (.agg [iV (gq f n),iV (ce n)]) H:=by
 refine AcT true func187 ?_;intro hbel Q hQ
 refine aC ?_
 refine cn (fun h1=>?_) (fun h1=>?_)
 ·have h1d:=bsT h1
  have G1:=jn h1 @h1d
  exact eR G1 hQ hbel (.agg [iV 0,iV 256]) results187 ⟨by unfold gq ce;(rw[if_pos (by omega),if_pos (by omega)];done),rfl⟩
 have h1d:=bsT h1
 have G2:=jn h1 @h1d
 refine aa G2 ?_
 refine cvr G2 (lc _ f) ?_
 exact eP hQ hbel (.agg [iV (((f%256).toNat:Nat):Int),iV n]) results187 ⟨by unfold gq ce;(rw[if_neg (by omega),if_neg (by omega),show (((f%256).toNat:Nat):Int)=f%256 by omega]),rfl⟩
theorem rarc_c (H:ac)(f n:Int)(hn:1<=n/\n<=100000):zC 190 [iV f,iV n] H (.agg [iV (gq f n),iV (ce n)]) H:=by
 refine AcT true func190 ?_;intro hbel Q hQ
 refine aC ?_
 refine cn (fun h1=>?_) (fun h1=>?_)
 ·have h1d:=bsT h1
  have G3:=jn h1 @h1d
  exact eR G3 hQ hbel (.agg [iV 0,iV 256]) results190 ⟨by unfold gq ce;(rw[if_pos (by omega),if_pos (by omega)];done),rfl⟩
 have h1d:=bsT h1
 have G4:=jn h1 @h1d
 refine aa G4 ?_
 refine cvr G4 (lb _ f _ (by omega) (by omega)) ?_
 exact eP hQ hbel (.agg [iV (((f%256).toNat:Nat):Int),iV n]) results190 ⟨by unfold gq ce;(rw[if_neg (by omega),if_neg (by omega),show (((f%256).toNat:Nat):Int)=f%256 by omega]),rfl⟩
theorem hshift_c (H:ac)(f c n:Int)(ha:bZ f c=true):zC 146 [.agg [iV f,iV c],iV n] H (.tup [.agg [iV (shF f c n),iV (ce c)],iV 0]) H:=by
 have ka:=bh.1 ha
 refine AcT true func146 ?_;intro hbel Q hQ
 have G5:=@ha
 refine aa G5 ?_
 refine cvr G5 (jO _ f c) ?_
 refine cdr G5 (lc _ n) ?_
 refine cdr G5 (harc_c _ _ c (by omega)) ?_
 exact eP hQ hbel (.tup [.agg [iV (gq (f+(((n%256).toNat:Nat):Int)) c),iV (ce c)],iV 0]) results146 ⟨rfl,rfl⟩
theorem rshift_c (H:ac)(f c n:Int)(ha:bZ f c=true):zC 151 [.agg [iV f,iV c],iV n] H (.tup [.agg [iV (shF f c n),iV (ce c)],iV 0]) H:=by
 have ka:=bh.1 ha
 refine AcT true func151 ?_;intro hbel Q hQ
 have G6:=@ha
 refine aa G6 ?_
 refine cvr G6 (i8 _ f c) ?_
 refine cdr G6 (lb _ n _ (by omega) (by omega)) ?_
 refine cdr G6 (rarc_c _ _ c (by omega)) ?_
 exact eP hQ hbel (.tup [.agg [iV (gq (f+(((n%256).toNat:Nat):Int)) c),iV (ce c)],iV 0]) results151 ⟨rfl,rfl⟩
theorem hgrow_c (H:ac)(f c n:Int)(ha:bZ f c=true)(hn:0<=n/\n<=256):zC 148 [.agg [iV f,iV c],iV n] H (.tup [.agg [iV (grF f c n),iV (grC c n)],iV 0]) H:=by
 have ka:=bh.1 ha
 refine AcT true func148 ?_;intro hbel Q hQ
 have G7:=@ha
 refine aa G7 ?_
 refine cv (jO _ f c) ?_
 refine rgs G7 (fun h1 h1d G8=>?_) (fun h1 h1d _=>?_)
 ·refine rcs G8 (fun h2 h2d _=>?_) (fun h2 h2d G9=>?_)
  ·omega
  refine aa G9 ?_
  refine cvr G9 (harc_c _ _ _ (by omega)) ?_
  exact eP hQ hbel (.tup [.agg [iV (gq (f-n) (c+(2*n))),iV (ce (c+(2*n)))],iV 0]) results148 ⟨rfl,rfl⟩
 omega
theorem rgrow_c (H:ac)(f c n:Int)(ha:bZ f c=true)(hn:0<=n/\n<=256):zC 152 [.agg [iV f,iV c],iV n] H (.tup [.agg [iV (grF f c n),iV (grC c n)],iV 0]) H:=by
 have ka:=bh.1 ha
 refine AcT true func152 ?_;intro hbel Q hQ
 have G10:=@ha
 refine aa G10 ?_
 refine cv (i8 _ f c) ?_
 refine rgs G10 (fun h1 h1d G11=>?_) (fun h1 h1d _=>?_)
 ·refine rcs G11 (fun h2 h2d _=>?_) (fun h2 h2d G12=>?_)
  ·omega
  refine aa G12 ?_
  refine cvr G12 (rarc_c _ _ _ (by omega)) ?_
  exact eP hQ hbel (.tup [.agg [iV (gq (f-n) (c+(2*n))),iV (ce (c+(2*n)))],iV 0]) results152 ⟨rfl,rfl⟩
 omega
theorem ol (H:ac)(f c:Int)(ha:bZ f c=true):zC 116 [.agg [iV f,iV c]] H (.sl (some (H.length,0)) ((aw f c.toNat).length) none) (H++[.cells true 1 (ints .i64 (aw f c.toNat))]):=by
 have ka:=bh.1 ha
 have harep:=arep_z (k:=.i64) (n:=c.toNat)
 have hrt:(c.toNat:Int)=c:=by omega
 refine AcT true func116 ?_;intro hbel Q hQ
 have G13:=jn @ha (jn @harep @hrt)
 refine aa G13 ?_
 refine cv (jO _ f c) ?_
 have G14:=jn @ct (jn @List.length_replicate.{0} G13)
 refine aa G14 ?_
 refine glp (fun k F Hx=>∃i:Nat,i+k=c.toNat/\F=[(1,.ptr (some (H.length,0))),(3,.sl (some (H.length+1,0)) ((fN f c.toNat i).length) none),(12,iV (c.toNat:Int)),(13,iV (i:Int))]/\Hx=H++[.cells true 0 [iV f,iV c],.cells true 1 (ints .i64 (fN f c.toNat i))]) (c.toNat) ?_ ?_
 ·refine⟨_,_,_,⟨0,by omega,rfl,rfl⟩,bS hbel [0,1] (al (jn @lisS_0 (jn @List.length_replicate.{0} @hrt)))⟩
 rintro k0 F Hx ⟨i,hm0,rfl,rfl⟩ J0 hJ0
 have hln:=qC (f:=f) (n:=c.toNat) (i:=i) (by omega)
 have G15:=jn @bU (jn @cr G14)
 refine rcs G15 (fun h1 h1d G16=>?_) (fun h1 h1d G18=>?_)
 ·have hln2:=qC (f:=f) (n:=c.toNat) (i:=i+1) (by omega)
  have hst:(fN f c.toNat i).set i ((((f+(i:Int))%256).toNat:Nat):Int)=fN f c.toNat (i+1):=by rw[show ((((f+(i:Int))%256).toNat:Nat):Int)=(f+(i:Int))%256 by omega];exact lisS_set (by omega)
  refine aa G16 ?_
  refine cv (lc _ _) ?_
  have G17:=jn @fU (jn @List.length_set.{0} G16)
  refine aa G17 ?_
  refine hJ0 _ _ ⟨k0-1,by omega,_,_,_,⟨i+1,by omega,rfl,rfl⟩,bS hbel [0,1] (al (jn @hst (jn @List.length_set.{0} (jn @hln (jn @hln2 @hrt)))))⟩
 obtain rfl:i=c.toNat:=by omega
 refine aa G18 ?_
 refine hQ _ _ (aM (.inl rfl) hbel (x1:=.sl (some (H.length+1,0)) ((fN f c.toNat c.toNat).length) none) (l2:=[.cells true 1 (ints .i64 (fN f c.toNat c.toNat))]) (.sl (some (H.length,0)) ((fN f c.toNat c.toNat).length) none) (aU results116) [] rfl [1] (by decide) ⟨by rw[lisS_n],by rw[lisS_n]⟩ ?_)
 exact ar
theorem rect_c (H:ac)(x0 y0 x1 y1 f c:Int)(ha:bxB x0 y0 x1 y1 f c=true):zC 131 [.agg [iV x0,iV y0,iV x1,iV y1,iV f,iV c]] H (.agg [iV x0,iV y0,iV x1,iV y1]) H:=by
 refine AcT true func131 ?_;intro hbel Q hQ
 have G19:=@ha
 refine aa G19 ?_
 refine cvr G19 (fy _ _ _ _ _ f c) ?_
 exact eP hQ hbel (.agg [iV x0,iV y0,iV x1,iV y1]) results131 ⟨rfl,rfl⟩
def lnP (x y:Int):Bool:=cR x 2097152&&cR y 2097152
def lnR (x0 y0 x1 y1:Int):Bool:=decide (-2097152<=x0)&&(decide (x0<=x1)&&(decide (x1<=2097152)&&(decide (-2097152<=y0)&&(decide (y0<=y1)&&decide (y1<=2097152)))))
theorem fX {x y:Int}:lnP x y=true↔(-2097152<=x/\x<=2097152) /\ -2097152<=y/\y<=2097152:=by unfold lnP;rw[Bool.and_eq_true,bx,bx]
theorem cS {x0 y0 x1 y1:Int}:lnR x0 y0 x1 y1=true↔(-2097152<=x0/\x0<=x1/\x1<=2097152) /\ -2097152<=y0/\y0<=y1/\y1<=2097152:=by
 unfold lnR;simp only[Bool.and_eq_true,decide_eq_true_eq];omega
set_option maxHeartbeats 800000
set_option maxHeartbeats 4000000
theorem r5pt_c (H:ac)(x y:Int):zC 244 [.agg [iV x,iV y]] H (.bool (lnP x y)) H:=by
 refine AcT true func244 ?_;intro hbel Q hQ
 refine aC ?_
 refine cv (oc _ _ _ (by decide)) ?_
 refine aC ?_
 refine bg (fun h1=>?_) (fun h1=>?_)
 ·have h1d:=bsT h1
  have G3:=jn h1 @h1d
  refine aa G3 ?_
  refine cvr G3 (oc _ _ _ (by decide)) ?_
  exact eP hQ hbel (.bool (cR y 2097152)) results244 ⟨by simp[lnP,h1d],rfl⟩
 have h1d:=bsT h1
 have G4:=jn h1 @h1d
 exact eR G4 hQ hbel (.bool false) results244 ⟨by simp[lnP,h1d],rfl⟩
theorem np (H:ac)(x0 y0 x1 y1:Int):zC 219 [.agg [iV x0,iV y0,iV x1,iV y1]] H (.bool (lnR x0 y0 x1 y1)) H:=by
 refine AcT true func219 ?_;intro hbel Q hQ
 refine aC ?_
 refine bg (fun h1=>?_) (fun h1=>?_)
 ·have h1d:=bsT h1
  have G5:=jn h1 @h1d
  refine rgs G5 (fun h2 h2d G6=>?_) (fun h2 h2d G13=>?_)
  ·refine rgs G6 (fun h3 h3d G7=>?_) (fun h3 h3d G12=>?_)
   ·refine rgs G7 (fun h4 h4d G8=>?_) (fun h4 h4d G11=>?_)
    ·refine rgs G8 (fun h5 h5d G9=>?_) (fun h5 h5d G10=>?_)
     ·exact eR G9 hQ hbel (.bool (decide (y1<=2097152))) results219 ⟨by simp[lnR,h1d,h2d,h3d,h4d,h5d],rfl⟩
     exact eR G10 hQ hbel (.bool false) results219 ⟨by simp[lnR,h1d,h2d,h3d,h4d,h5d],rfl⟩
    exact eR G11 hQ hbel (.bool false) results219 ⟨by simp[lnR,h1d,h2d,h3d,h4d],rfl⟩
   exact eR G12 hQ hbel (.bool false) results219 ⟨by simp[lnR,h1d,h2d,h3d],rfl⟩
  exact eR G13 hQ hbel (.bool false) results219 ⟨by simp[lnR,h1d,h2d],rfl⟩
 have h1d:=bsT h1
 have G14:=jn h1 @h1d
 exact eR G14 hQ hbel (.bool false) results219 ⟨by simp[lnR,h1d],rfl⟩
theorem moved_c (H:ac)(n h:Int)(hn:0<=n/\n<=1000):zC 191 [iV n,iV h] H (.agg [iV (cK h n),iV (cL h n)]) H:=by
 have hdv:=df.1 (e6 h)
 have hm1:=aP (a:=n) (b:=(cG h).1) (A:=1000) (B:=8065) (by omega) (by omega)
 have hm2:=aP (a:=n) (b:=(cG h).2.1) (A:=1000) (B:=8065) (by omega) (by omega)
 refine AcT true func191 ?_;intro hbel Q hQ
 refine aC ?_
 refine cv (rdir_c _ h) ?_
 refine aC ?_
 refine cd (dx _ _ _ (by omega) (by omega)) ?_
 refine aC ?_
 refine cd (dx _ _ _ (by omega) (by omega)) ?_
 refine aC ?_
 exact eP hQ hbel (.agg [iV ((n*((cG h).1))/((cG h).2.2)),iV ((n*((cG h).2.1))/((cG h).2.2))]) results191 ⟨rfl,rfl⟩
def dy (m r:Int):Bool:=btw m 0 255&&btw r (-1) 1024
def beaE (e:Int×Int):Bool:=dy e.1 e.2
def bP (s:List (Int×Int)):Bool:=decide ((s.length:Int)<=32)&&!(s.any fun e=>!beaE e)
theorem fm {m r:Int}:dy m r=true↔(0<=m/\m<=255) /\ -1<=r/\r<=1024:=by
 unfold dy;rw[Bool.and_eq_true,bm,bm]
theorem cw {s:List (Int×Int)}:bP s=true↔s.length<=32/\∀e∈s,beaE e=true:=by
 unfold bP
 rw[Bool.and_eq_true,decide_eq_true_eq,Bool.not_eq_true',List.any_eq_false]
 refine⟨fun h=>⟨by omega,fun e he=>?_⟩,fun h=>⟨by omega,fun e he=>?_⟩⟩
 ·have:=h.2 e he
  simpa using this
 rw[h.2 e he];decide
def cl (W Hh:Int) (xs:List Int) (l:List T6) (s:List (Int×Int)) (g:Int):Bool:=bK W Hh xs&&(decide (0<(l.length:Int))&&(bk l&&(bP s&&btw g 1 32)))
theorem cT {W Hh:Int}{xs:List Int}{l:List T6}{s:List (Int×Int)}{g:Int}:cl W Hh xs l s g=true↔bK W Hh xs=true/\0<l.length/\bk l=true/\bP s=true/\1<=g/\g<=32:=by
 unfold cl;simp only[Bool.and_eq_true,decide_eq_true_eq,bm]
 exact⟨fun ⟨a,b,c,d,e⟩=>⟨a,by omega,c,d,e⟩,fun ⟨a,b,c,d,e⟩=>⟨a,by omega,c,d,e⟩⟩
def sumC (l:List T6):Nat->Int
 |0=>0
 |n+1=>sumC l n+g66 l n
theorem nq {l:List T6}(h:bk l=true){n:Nat}(hn:n<l.length):1<=g66 l n/\g66 l n<=256:=by
 have:=(bi.1 h).2 (g6 l n) (bY hn)
 have:=(bh.1 (bB.1 this).2.2)
 exact this.2.1
theorem dU {l:List T6}(h:bk l=true):l.length<=16:=(bi.1 h).1
theorem jQ {l:List T6}(h:bk l=true):∀n:Nat,n<=l.length->(n:Int)<=sumC l n/\sumC l n<=256*n
 |0,_=>by simp[sumC]
 | n+1,hn=>by
  have:=jQ h n (by omega)
  have:=nq h (show n<l.length by omega)
  simp only[sumC];omega
def prsN (l:List T6):Int:=if bk l=true then sumC l l.length else 0
def gt (b:T6):Bool:=decide (64<b.2.2.1-b.1)||decide (64<b.2.2.2.1-b.2.1)
def dn (l:List T6):Bool:=decide (sumC l l.length<=32)&&!(l.any gt)
abbrev T9:=Int×Int×Int×Int×Int×Int×Int×Int×Int
def r9 (l:List T9):List AV:=l.flatMap fun p=>[.int .i64 p.1,.int .i64 p.2.1,.int .i64 p.2.2.1,.int .i64 p.2.2.2.1,.int .i64 p.2.2.2.2.1,.int .i64 p.2.2.2.2.2.1,.int .i64 p.2.2.2.2.2.2.1,.int .i64 p.2.2.2.2.2.2.2.1,.int .i64 p.2.2.2.2.2.2.2.2]
def g9 (l:List T9) (j:Nat):T9:=l.getD j (0,0,0,0,0,0,0,0,0)
def g91 (l:List T9) (j:Nat):Int:=(g9 l j).1
def g92 (l:List T9) (j:Nat):Int:=(g9 l j).2.1
def g93 (l:List T9) (j:Nat):Int:=(g9 l j).2.2.1
def g94 (l:List T9) (j:Nat):Int:=(g9 l j).2.2.2.1
def g95 (l:List T9) (j:Nat):Int:=(g9 l j).2.2.2.2.1
def g96 (l:List T9) (j:Nat):Int:=(g9 l j).2.2.2.2.2.1
def g97 (l:List T9) (j:Nat):Int:=(g9 l j).2.2.2.2.2.2.1
def g98 (l:List T9) (j:Nat):Int:=(g9 l j).2.2.2.2.2.2.2.1
def g99 (l:List T9) (j:Nat):Int:=(g9 l j).2.2.2.2.2.2.2.2
theorem g9_eq {l:List T9}{j:Nat}(h:j<l.length):(g91 l j,g92 l j,g93 l j,g94 l j,g95 l j,g96 l j,g97 l j,g98 l j,g99 l j)=l[j]:=by
 simp[g91,g92,g93,g94,g95,g96,g97,g98,g99,g9,h,List.getD_eq_getElem?_getD]
theorem cI:r9 []=[]:=rfl
theorem bQ {p:T9}{l:List T9}:r9 (p::l)=.int .i64 p.1::.int .i64 p.2.1::.int .i64 p.2.2.1::.int .i64 p.2.2.2.1::.int .i64 p.2.2.2.2.1::.int .i64 p.2.2.2.2.2.1::.int .i64 p.2.2.2.2.2.2.1::.int .i64 p.2.2.2.2.2.2.2.1::.int .i64 p.2.2.2.2.2.2.2.2::r9 l:=rfl
theorem bH {l m:List T9}:r9 (l++m)=r9 l++r9 m:=by simp[r9]
theorem ei:∀{l:List T9},(r9 l).length=l.length*9
 |[]=>rfl
 |p::l=>by rw[bQ];simp only[List.length_cons,ei (l:=l)];omega
theorem cB {σ:Nat->Nat}:∀{l:List T9},AV.mvs σ (r9 l)=r9 l
 |[]=>rfl
 | p::l=>by
  rw[bQ]
  show AV.mv σ _::AV.mv σ _::AV.mv σ _::AV.mv σ _::AV.mv σ _::AV.mv σ _::AV.mv σ _::AV.mv σ _::AV.mv σ _::AV.mvs σ (r9 l)=_
  rw[cB (l:=l)];rfl
theorem r9_at:∀{l:List T9}{j:Nat}(_h:j<l.length),(r9 l).drop (j*9)=.int .i64 (g91 l j)::.int .i64 (g92 l j)::.int .i64 (g93 l j)::.int .i64 (g94 l j)::.int .i64 (g95 l j)::.int .i64 (g96 l j)::.int .i64 (g97 l j)::.int .i64 (g98 l j)::.int .i64 (g99 l j)::(r9 l).drop ((j+1)*9)
 |[],j,h=>by simp at h
 |p::l,0,_=>by rw[bQ];simp[g91,g92,g93,g94,g95,g96,g97,g98,g99,g9]
 | p::l,j+1,h=>by
  rw[bQ,show (j+1)*9=j*9+1+1+1+1+1+1+1+1+1 by omega,List.drop_succ_cons,List.drop_succ_cons,List.drop_succ_cons,List.drop_succ_cons,List.drop_succ_cons,List.drop_succ_cons,List.drop_succ_cons,List.drop_succ_cons,List.drop_succ_cons,r9_at (l:=l) (by simpa using h),show (j+1+1)*9=(j+1)*9+1+1+1+1+1+1+1+1+1 by omega,List.drop_succ_cons,List.drop_succ_cons,List.drop_succ_cons,List.drop_succ_cons,List.drop_succ_cons,List.drop_succ_cons,List.drop_succ_cons,List.drop_succ_cons,List.drop_succ_cons]
  rfl
theorem r9_load {l:List T9}{j:Nat}(h:j<l.length):((r9 l).drop (j*9)).take 9=[.int .i64 (g91 l j),.int .i64 (g92 l j),.int .i64 (g93 l j),.int .i64 (g94 l j),.int .i64 (g95 l j),.int .i64 (g96 l j),.int .i64 (g97 l j),.int .i64 (g98 l j),.int .i64 (g99 l j)]:=by rw[r9_at h];rfl
theorem r9_p0 {l:List T9}{j:Nat}(h:j<l.length):((r9 l).drop (j*9)).take 6=[.int .i64 (g91 l j),.int .i64 (g92 l j),.int .i64 (g93 l j),.int .i64 (g94 l j),.int .i64 (g95 l j),.int .i64 (g96 l j)]:=by rw[r9_at h];rfl
theorem jv {l:List T9}(h:0<l.length):(r9 l).take 6=[.int .i64 (g91 l 0),.int .i64 (g92 l 0),.int .i64 (g93 l 0),.int .i64 (g94 l 0),.int .i64 (g95 l 0),.int .i64 (g96 l 0)]:=by
 have:=r9_p0 h
 rwa [Nat.zero_mul,List.drop_zero] at this
theorem r9_p6 {l:List T9}{j:Nat}(h:j<l.length):((r9 l).drop (j*9+6)).take 3=[.int .i64 (g97 l j),.int .i64 (g98 l j),.int .i64 (g99 l j)]:=by rw[<-List.drop_drop,r9_at h];rfl
theorem jw {l:List T9}(h:0<l.length):((r9 l).drop 6).take 3=[.int .i64 (g97 l 0),.int .i64 (g98 l 0),.int .i64 (g99 l 0)]:=by
 have:=r9_p6 h
 rwa [Nat.zero_mul,Nat.zero_add] at this
theorem lf {l:List T9}:(r9 l).all AV.one=true:=by
 induction l with
 |nil=>rfl
 |cons p l ih=>rw[bQ];simp[AV.one,ih]
section
variable {P:Program} {H:ac} {n:Nat}
end
def eN (a b:Vec):Vec:=dT (a.1*b.1-a.2.1*b.2.1) (a.1*b.2.1+a.2.1*b.1) (a.2.2*b.2.2)
def aq (h m:Int):Vec:=eN (cG h) (cG m)
def da (x y d:Int):Bool:=decide (1<=d)&&(decide (d<=67108864)&&(decide (-d<=x)&&(decide (x<=d)&&(decide (-d<=y)&&(decide (y<=d)&&decide (x*x+y*y=d*d))))))
theorem bj {x y d:Int}:da x y d=true↔(1<=d/\d<=67108864)/\(-d<=x/\x<=d)/\(-d<=y/\y<=d)/\x*x+y*y=d*d:=by
 unfold da
 simp only[Bool.and_eq_true,decide_eq_true_eq]
 exact⟨fun ⟨a,b,c,d,e,f,g⟩=>⟨⟨a,b⟩,⟨c,d⟩,⟨e,f⟩,g⟩,fun ⟨⟨a,b⟩,⟨c,d⟩,⟨e,f⟩,g⟩=>⟨a,b,c,d,e,f,g⟩⟩
theorem sq_le_of {x y d:Int}(hd:0<=d)(h:x*x+y*y=d*d):(-d<=x/\x<=d) /\ -d<=y/\y<=d:=by
 have k:∀a b:Int,a*a+b*b=d*d -> -d<=a/\a<=d:=fun a b e=>by
  have hb:0<=b*b:=by
   rcases Int.le_total 0 b with q|q
   ·exact Int.mul_nonneg q q
   exact Int.mul_nonneg_of_nonpos_of_nonpos q q
  constructor
  ·rcases Int.lt_or_le a (-d) with q|q
   ·have t1:=Int.mul_le_mul_of_nonneg_left (show d <= -a by omega) hd
    have t2:=Int.mul_lt_mul_of_pos_right (show d < -a by omega) (show 0 < -a by omega)
    rw[Int.neg_mul_neg] at t2;omega
   exact q
  rcases Int.lt_or_le d a with q|q
  ·have t1:=Int.mul_le_mul_of_nonneg_left (show d<=a by omega) hd
   have t2:=Int.mul_lt_mul_of_pos_right (show d<a by omega) (show 0<a by omega)
   omega
  exact q
 exact⟨k x y h,k y x (by omega)⟩
theorem tur_ok {a b:Vec}(ha:eK a=true)(hb:eK b=true):da (eN a b).1 (eN a b).2.1 (eN a b).2.2=true:=by
 obtain⟨⟨a1,a2⟩,⟨a3,a4⟩,⟨a5,a6⟩,a7⟩:=df.1 ha
 obtain⟨⟨b1,b2⟩,⟨b3,b4⟩,⟨b5,b6⟩,b7⟩:=df.1 hb
 unfold eN
 have hd:0<a.2.2*b.2.2:=Int.mul_pos (by omega) (by omega)
 have hD:a.2.2*b.2.2<=8065*8065:=Int.mul_le_mul a2 b2 (by omega) (by omega)
 obtain⟨g,hg,e1,e2,e3⟩:=lowV_mul (x:=a.1*b.1-a.2.1*b.2.1) (y:=a.1*b.2.1+a.2.1*b.1) (show a.2.2*b.2.2≠0 by omega)
 have q:(a.1*b.1-a.2.1*b.2.1)*(a.1*b.1-a.2.1*b.2.1)+(a.1*b.2.1+a.2.1*b.1)*(a.1*b.2.1+a.2.1*b.1)=(a.2.2*b.2.2)*(a.2.2*b.2.2):=by
  have z1:(a.1*b.1-a.2.1*b.2.1)*(a.1*b.1-a.2.1*b.2.1)+(a.1*b.2.1+a.2.1*b.1)*(a.1*b.2.1+a.2.1*b.1)=(a.1*a.1+a.2.1*a.2.1)*(b.1*b.1+b.2.1*b.2.1):=by grind
  rw[z1,a7,b7];grind
 generalize dT (a.1*b.1-a.2.1*b.2.1) (a.1*b.2.1+a.2.1*b.1) (a.2.2*b.2.2)=v at *
 rw[e1,e2,e3] at q
 rw[e3] at hd hD
 have vp:0<v.2.2:=by
  rcases Int.lt_or_le 0 v.2.2 with k|k
  ·exact k
  have:=Int.mul_nonpos_of_nonpos_of_nonneg k (show 0<=g by omega)
  omega
 have vl:v.2.2<=v.2.2*g:=by
  have:=Int.mul_le_mul_of_nonneg_left (show 1<=g by omega) (show 0<=v.2.2 by omega)
  omega
 have s:v.1*v.1+v.2.1*v.2.1=v.2.2*v.2.2:=by
  have z:(v.1*v.1+v.2.1*v.2.1)*(g*g)=v.2.2*v.2.2*(g*g):=by grind
  exact Int.eq_of_mul_eq_mul_right (show g*g≠0 by have:=Int.mul_pos hg hg;omega) z
 have r:=sq_le_of (show 0<=v.2.2 by omega) s
 exact bj.2 ⟨⟨by omega,by omega⟩,r.1,r.2,s⟩
theorem beam_ok (h m:Int):da (aq h m).1 (aq h m).2.1 (aq h m).2.2=true:=tur_ok (e6 h) (e6 m)
theorem lH {v:Vec}(h:eK v=true):da v.1 v.2.1 v.2.2=true:=by
 obtain⟨a,b,c,d⟩:=df.1 h
 exact bj.2 ⟨by omega,b,c,d⟩
theorem vec_nz {x y d:Int}(h:da x y d=true):¬(x=0/\y=0):=fun k=>by
 obtain⟨⟨h1,-⟩,-,-,h⟩:=bj.1 h
 rw[k.1,k.2] at h
 have:=Int.mul_pos (show 0<d by omega) (show 0<d by omega)
 omega
theorem beam_mod {h h' m:Int}(e:h%256=h'%256):aq h m=aq h' m:=by unfold aq cG;rw[e]
abbrev Fr2:=Int×Int
theorem eO {a b c d e f:Int}(hb:0<b)(hd:0<d)(hf:0<f)(h1:a*d<=c*b)(h2:c*f<=e*d):a*f<=e*b:=by
 have k1:=Int.mul_le_mul_of_nonneg_right h1 (show 0<=f by omega)
 have k2:=Int.mul_le_mul_of_nonneg_right h2 (show 0<=b by omega)
 have e1:a*d*f=a*f*d:=by grind
 have e2:c*b*f=c*f*b:=by grind
 have e3:e*d*b=e*b*d:=by grind
 rw[e1,e2] at k1
 rw[e3] at k2
 exact Int.le_of_mul_le_mul_right (Int.le_trans k1 k2) hd
theorem md {a b c d e f:Int}(hb:0<b)(hd:0<d)(hf:0<f)(h1:a*d<=c*b)(h2:c*f<e*d):a*f<e*b:=by
 have k1:=Int.mul_le_mul_of_nonneg_right h1 (show 0<=f by omega)
 have k2:=Int.mul_lt_mul_of_pos_right h2 hb
 have e1:a*d*f=a*f*d:=by grind
 have e2:c*b*f=c*f*b:=by grind
 have e3:e*d*b=e*b*d:=by grind
 rw[e1,e2] at k1
 rw[e3] at k2
 exact Int.lt_of_mul_lt_mul_right (Int.lt_of_le_of_lt k1 k2) (show 0<=d by omega)
def mxF (s l:Fr2):Fr2:=if s.1*l.2<l.1*s.2 then l else s
def mnF (s h:Fr2):Fr2:=if h.1*s.2<s.1*h.2 then h else s
theorem mxF_pos {s l:Fr2}(hs:0<s.2)(hl:0<l.2):0<(mxF s l).2:=by unfold mxF;split<;>assumption
theorem mnF_pos {s h:Fr2}(hs:0<s.2)(hh:0<h.2):0<(mnF s h).2:=by unfold mnF;split<;>assumption
theorem nr {s l:Fr2}{n m:Int}(hs:0<s.2)(hl:0<l.2)(hm:0<m):(mxF s l).1*m<=n*(mxF s l).2↔s.1*m<=n*s.2/\l.1*m<=n*l.2:=by
 unfold mxF
 split
 ·rename_i h
  exact⟨fun k=>⟨eO hs hl hm (by omega) k,k⟩,fun k=>k.2⟩
 rename_i h
 exact⟨fun k=>⟨k,eO hl hs hm (by omega) k⟩,fun k=>k.1⟩
theorem nt {s h:Fr2}{n m:Int}(hs:0<s.2)(hh:0<h.2)(hm:0<m):n*(mnF s h).2<=(mnF s h).1*m↔n*s.2<=s.1*m/\n*h.2<=h.1*m:=by
 unfold mnF
 split
 ·rename_i g
  exact⟨fun k=>⟨eO hm hh hs k (by omega),k⟩,fun k=>k.2⟩
 rename_i g
 exact⟨fun k=>⟨k,eO hm hs hh k (by omega)⟩,fun k=>k.1⟩
def sbL (p d a b:Int):Fr2:=if d<0 then (p-b,-d) else (a-p,d)
def sbH (p d a b:Int):Fr2:=if d<0 then (p-a,-d) else (b-p,d)
theorem cZ {p d a b:Int}(hd:¬d=0):0<(sbL p d a b).2/\0<(sbH p d a b).2:=by
 unfold sbL sbH;split<;>exact⟨by simp only;omega,by simp only;omega⟩
theorem sb_in {p d a b n m:Int}:((sbL p d a b).1*m<=n*(sbL p d a b).2/\n*(sbH p d a b).2<=(sbH p d a b).1*m)↔(m*a<=m*p+n*d/\m*p+n*d<=m*b):=by
 unfold sbL sbH
 split
 ·simp only
  have e1:(p-b)*m=m*p-m*b:=by grind
  have e2:(p-a)*m=m*p-m*a:=by grind
  have e3:n * -d = -(n*d):=by grind
  omega
 simp only
 have e1:(a-p)*m=m*a-m*p:=by grind
 have e2:(b-p)*m=m*b-m*p:=by grind
 omega
def ec (px py vx vy x0 y0 x1 y1 n m:Int):Prop:=(m*x0<=m*px+n*vx/\m*px+n*vx<=m*x1)/\m*y0<=m*py+n*vy/\m*py+n*vy<=m*y1
def bA (s:Fr2×Fr2) (p d a b:Int):Fr2×Fr2:=if d=0 then s else (mxF s.1 (sbL p d a b),mnF s.2 (sbH p d a b))
def dg (s:Fr2×Fr2) (p d a b:Int):Bool:=if d=0 then decide (a<=p)&&decide (p<=b) else !decide ((bA s p d a b).2.1*(bA s p d a b).1.2<(bA s p d a b).1.1*(bA s p d a b).2.2)
def okS (s:Fr2×Fr2):Prop:=0<s.1.2/\0<s.2.2
def inS (s:Fr2×Fr2) (n m:Int):Prop:=s.1.1*m<=n*s.1.2/\n*s.2.2<=s.2.1*m
theorem dO {s:Fr2×Fr2}{p d a b:Int}(h:okS s):okS (bA s p d a b):=by
 unfold bA;split
 ·exact h
 rename_i hd
 exact⟨mxF_pos h.1 (cZ hd).1,mnF_pos h.2 (cZ hd).2⟩
theorem lI {s:Fr2×Fr2}{p d a b n m:Int}(h:okS s)(hm:0<m)(hd0:d=0->a<=p/\p<=b):inS (bA s p d a b) n m↔inS s n m/\m*a<=m*p+n*d/\m*p+n*d<=m*b:=by
 unfold bA;split
 ·rename_i hd
  have hh:=hd0 hd
  have k1:=Int.mul_le_mul_of_nonneg_left hh.1 (show 0<=m by omega)
  have k2:=Int.mul_le_mul_of_nonneg_left hh.2 (show 0<=m by omega)
  rw[hd,Int.mul_zero,Int.add_zero]
  exact⟨fun k=>⟨k,k1,k2⟩,fun k=>k.1⟩
 rename_i hd
 unfold inS
 simp only
 rw[nr h.1 (cZ hd).1 hm,nt h.2 (cZ hd).2 hm,<-sb_in]
 exact⟨fun k=>⟨⟨k.1.1,k.2.1⟩,k.1.2,k.2.2⟩,fun k=>⟨⟨k.1.1,k.2.1⟩,k.1.2,k.2.2⟩⟩
theorem jR {s:Fr2×Fr2}(h:okS s):inS s s.1.1 s.1.2↔¬s.2.1*s.1.2<s.1.1*s.2.2:=by
 unfold inS
 exact⟨fun k=>by have:=k.2;omega,fun k=>⟨by omega,by omega⟩⟩
theorem om {s:Fr2×Fr2}{n m:Int}(h:okS s)(hm:0<m)(k:inS s n m):¬s.2.1*s.1.2<s.1.1*s.2.2:=by
 have:=eO h.1 hm h.2 k.1 k.2;omega
def e8:Fr2×Fr2:=((0,1),(8388608,1))
def thS (px py vx vy x0 y0 x1 y1:Int):Fr2×Fr2:=bA (bA e8 px vx x0 x1) py vy y0 y1
def thB (px py vx vy x0 y0 x1 y1:Int):Bool:=dg e8 px vx x0 x1&&dg (bA e8 px vx x0 x1) py vy y0 y1
theorem dG:okS e8:=⟨by decide,by decide⟩
theorem lg {px py vx vy x0 y0 x1 y1:Int}:okS (thS px py vx vy x0 y0 x1 y1):=dO (dO dG)
theorem thS0_in {n m:Int}:inS e8 n m↔0<=n/\n<=8388608*m:=by
 unfold inS e8;simp only;omega
theorem ray_far {px py vx vy x0 y0 x1 y1 n m:Int}(hv:¬(vx=0/\vy=0))(hx:px-x0<=8388608/\x1-px<=8388608)(hy:py-y0<=8388608/\y1-py<=8388608)(hn:0<=n)(hm:0<m)(h:ec px py vx vy x0 y0 x1 y1 n m):n<=8388608*m:=by
 obtain⟨⟨h1,h2⟩,h3,h4⟩:=h
 have one:∀{p v a b:Int},¬v=0->p-a<=8388608->b-p<=8388608->m*a<=m*p+n*v->m*p+n*v<=m*b->n<=8388608*m:=fun {p v a b} hv ha hb k1 k2=>by
  rcases (by omega:1<=v\/v <= -1) with h|h
  ·have a1:=Int.mul_le_mul_of_nonneg_left h hn
   have a2:=Int.mul_le_mul_of_nonneg_left hb (show 0<=m by omega)
   have e:m*(b-p)=m*b-m*p:=by grind
   omega
  have a1:=Int.mul_le_mul_of_nonneg_left h hn
  have a2:=Int.mul_le_mul_of_nonneg_left ha (show 0<=m by omega)
  have e:m*(p-a)=m*p-m*a:=by grind
  omega
 by_cases hx0:vx=0
 ·exact one (fun h0=>hv ⟨hx0,h0⟩) hy.1 hy.2 h3 h4
 exact one hx0 hx.1 hx.2 h1 h2
theorem fY {s:Fr2×Fr2}{p d a b:Int}(h:okS s):dg s p d a b=true↔(d=0->a<=p/\p<=b)/\(¬d=0->inS (bA s p d a b) (bA s p d a b).1.1 (bA s p d a b).1.2):=by
 unfold dg
 split
 ·rename_i hd
  simp only[Bool.and_eq_true,decide_eq_true_eq]
  exact⟨fun k=>⟨fun _=>k,fun h=>absurd hd h⟩,fun k=>k.1 hd⟩
 rename_i hd
 rw[jR (dO h)]
 simp only[Bool.not_eq_true',decide_eq_false_iff_not]
 exact⟨fun k=>⟨fun h=>absurd h hd,fun _=>k⟩,fun k=>k.2 hd⟩
theorem th_in {px py vx vy x0 y0 x1 y1 n m:Int}(hm:0<m)(hb:thB px py vx vy x0 y0 x1 y1=true):inS (thS px py vx vy x0 y0 x1 y1) n m↔(0<=n/\n<=8388608*m)/\ec px py vx vy x0 y0 x1 y1 n m:=by
 unfold thB at hb
 rw[Bool.and_eq_true,fY dG,fY (dO dG)] at hb
 unfold thS ec
 rw[lI (dO dG) hm hb.2.1,lI dG hm hb.1.1,thS0_in]
 exact⟨fun k=>⟨k.1.1,k.1.2,k.2⟩,fun k=>⟨⟨k.1,k.2.1⟩,k.2.2⟩⟩
theorem th_lo {px py vx vy x0 y0 x1 y1:Int}(hv:¬(vx=0/\vy=0))(hb:thB px py vx vy x0 y0 x1 y1=true):inS (thS px py vx vy x0 y0 x1 y1) (thS px py vx vy x0 y0 x1 y1).1.1 (thS px py vx vy x0 y0 x1 y1).1.2:=by
 have hb':=hb
 unfold thB at hb
 rw[Bool.and_eq_true,fY dG,fY (dO dG)] at hb
 by_cases hy:vy=0
 ·have hx:¬vx=0:=fun h=>hv ⟨h,hy⟩
  have e:thS px py vx vy x0 y0 x1 y1=bA e8 px vx x0 x1:=if_pos hy
  rw[e];exact hb.1.2 hx
 exact hb.2.2 hy
theorem th_none {px py vx vy x0 y0 x1 y1 n m:Int}(hm:0<m)(hb:thB px py vx vy x0 y0 x1 y1=false)(hn:0<=n/\n<=8388608*m):¬ec px py vx vy x0 y0 x1 y1 n m:=fun k=>by
 have:thB px py vx vy x0 y0 x1 y1=true:=by
  have hx:vx=0->x0<=px/\px<=x1:=fun h=>by
   have k1:=k.1
   rw[h,Int.mul_zero,Int.add_zero] at k1
   exact⟨Int.le_of_mul_le_mul_left k1.1 hm,Int.le_of_mul_le_mul_left k1.2 hm⟩
  have hy:vy=0->y0<=py/\py<=y1:=fun h=>by
   have k1:=k.2
   rw[h,Int.mul_zero,Int.add_zero] at k1
   exact⟨Int.le_of_mul_le_mul_left k1.1 hm,Int.le_of_mul_le_mul_left k1.2 hm⟩
  have i1:inS (bA e8 px vx x0 x1) n m:=(lI dG hm hx).2 ⟨thS0_in.2 hn,k.1⟩
  have i2:inS (bA (bA e8 px vx x0 x1) py vy y0 y1) n m:=(lI (dO dG) hm hy).2 ⟨i1,k.2⟩
  unfold thB
  rw[Bool.and_eq_true,fY dG,fY (dO dG)]
  exact⟨⟨hx,fun _=>(jR (dO dG)).2 (om (dO dG) hm i1)⟩,hy,fun _=>(jR (dO (dO dG))).2 (om (dO (dO dG)) hm i2)⟩
 rw[hb] at this;cases this
def bfrB (px py vx vy vd hi x0 y0 x1 y1:Int):Bool:=thB px py vx vy x0 y0 x1 y1&&decide ((thS px py vx vy x0 y0 x1 y1).1.1*vd<hi*(thS px py vx vy x0 y0 x1 y1).1.2)
def ic (px py vx vy vd lo hi x0 y0 x1 y1:Int):Bool:=thB px py vx vy x0 y0 x1 y1&&(decide (lo*(thS px py vx vy x0 y0 x1 y1).2.2<=(thS px py vx vy x0 y0 x1 y1).2.1*vd)&&decide ((thS px py vx vy x0 y0 x1 y1).1.1*vd<=hi*(thS px py vx vy x0 y0 x1 y1).1.2))
theorem ot {px py vx vy vd hi x0 y0 x1 y1:Int}(hd:0<vd)(hv:¬(vx=0/\vy=0))(hx:px-x0<=8388608/\x1-px<=8388608)(hy:py-y0<=8388608/\y1-py<=8388608):
  bfrB px py vx vy vd hi x0 y0 x1 y1=true↔∃n m:Int,0<=n/\0<m/\n*vd<hi*m/\ec px py vx vy x0 y0 x1 y1 n m:=by
 unfold bfrB
 rw[Bool.and_eq_true,decide_eq_true_eq]
 constructor
 ·rintro⟨hb,h⟩
  have hl:=(th_in lg.1 hb).1 (th_lo hv hb)
  exact⟨_,_,hl.1.1,lg.1,h,hl.2⟩
 rintro⟨n,m,hn,hm,h,hr⟩
 have hf:=ray_far hv hx hy hn hm hr
 have hb:thB px py vx vy x0 y0 x1 y1=true:=by
  cases hq:thB px py vx vy x0 y0 x1 y1
  ·exact absurd hr (th_none hm hq ⟨hn,hf⟩)
  rfl
 have hi':=(th_in hm hb).2 ⟨⟨hn,hf⟩,hr⟩
 refine⟨hb,?_⟩
 have hp:0<(thS px py vx vy x0 y0 x1 y1).1.2:=lg.1
 have h1:=hi'.1
 generalize (thS px py vx vy x0 y0 x1 y1).1.1=a at *
 generalize (thS px py vx vy x0 y0 x1 y1).1.2=b at *
 have k:=md (a:=a) (b:=b) (c:=n) (d:=m) (e:=hi) (f:=vd) hp hm hd h1 h
 exact k
theorem jS {px py vx vy vd lo hi x0 y0 x1 y1:Int}(hd:0<vd)(hv:¬(vx=0/\vy=0))(hx:px-x0<=8388608/\x1-px<=8388608)(hy:py-y0<=8388608/\y1-py<=8388608)(h0:0<=lo)(hlh:lo<=hi):
  ic px py vx vy vd lo hi x0 y0 x1 y1=true↔∃n m:Int,0<=n/\0<m/\lo*m<=n*vd/\n*vd<=hi*m/\ec px py vx vy x0 y0 x1 y1 n m:=by
 unfold ic
 rw[Bool.and_eq_true,Bool.and_eq_true,decide_eq_true_eq,decide_eq_true_eq]
 constructor
 ·rintro⟨hb,h1,h2⟩
  have hl:=th_lo hv hb
  have hp:okS (thS px py vx vy x0 y0 x1 y1):=lg
  have hin:∀n m:Int,0<m->inS (thS px py vx vy x0 y0 x1 y1) n m->(0<=n/\n<=8388608*m)/\ec px py vx vy x0 y0 x1 y1 n m:=fun n m hm=>(th_in hm hb).1
  generalize thS px py vx vy x0 y0 x1 y1=s at *
  by_cases hc:lo*s.1.2<=s.1.1*vd
  ·have k:=hin _ _ hp.1 hl
   exact⟨_,_,k.1.1,hp.1,hc,h2,k.2⟩
  have i:inS s lo vd:=by
   refine⟨by omega,?_⟩
   omega
  have k:=hin _ _ hd i
  have m1:=Int.mul_le_mul_of_nonneg_right hlh (show 0<=vd by omega)
  exact⟨_,_,k.1.1,hd,by omega,by omega,k.2⟩
 rintro⟨n,m,hn,hm,h1,h2,hr⟩
 have hf:=ray_far hv hx hy hn hm hr
 have hb:thB px py vx vy x0 y0 x1 y1=true:=by
  cases hq:thB px py vx vy x0 y0 x1 y1
  ·exact absurd hr (th_none hm hq ⟨hn,hf⟩)
  rfl
 have hi':=(th_in hm hb).2 ⟨⟨hn,hf⟩,hr⟩
 have hp:okS (thS px py vx vy x0 y0 x1 y1):=lg
 refine⟨hb,?_,?_⟩
 ·generalize thS px py vx vy x0 y0 x1 y1=s at *
  have k:=eO (a:=lo) (b:=vd) (c:=n) (d:=m) (e:=s.2.1) (f:=s.2.2) hd hm hp.2 h1 hi'.2
  exact k
 generalize thS px py vx vy x0 y0 x1 y1=s at *
 have k:=eO (a:=s.1.1) (b:=s.1.2) (c:=n) (d:=m) (e:=hi) (f:=vd) hp.1 hm hd hi'.1 h2
 exact k
def axE (p d a b:Int):Bool:=decide (d=0)&&(decide (p<a)||decide (b<p))
def tmL (px py vx vy x0 y0 x1 y1:Int):Fr2 :=
 mxF (if vx=0 then sbL py vy y0 y1 else sbL px vx x0 x1) (if vy=0 then sbL px vx x0 x1 else sbL py vy y0 y1)
def tmH (px py vx vy x0 y0 x1 y1:Int):Fr2 :=
 mnF (if vx=0 then sbH py vy y0 y1 else sbH px vx x0 x1) (if vy=0 then sbH px vx x0 x1 else sbH py vy y0 y1)
def lo0 (s:Fr2):Fr2:=if s.1<0 then (0,1) else s
def tmS (px py vx vy x0 y0 x1 y1:Int):Fr2×Fr2:=(lo0 (tmL px py vx vy x0 y0 x1 y1),tmH px py vx vy x0 y0 x1 y1)
def tmE (px py vx vy x0 y0 x1 y1:Int):Bool:=axE px vx x0 x1||(axE py vy y0 y1||decide ((tmS px py vx vy x0 y0 x1 y1).2.1*(tmS px py vx vy x0 y0 x1 y1).1.2<(tmS px py vx vy x0 y0 x1 y1).1.1*(tmS px py vx vy x0 y0 x1 y1).2.2))
theorem axE_f {p d a b:Int}(h:axE p d a b=false):d=0->a<=p/\p<=b:=fun hd=>by
 unfold axE at h
 simp only[Bool.and_eq_false_iff,Bool.or_eq_false_iff,decide_eq_false_iff_not] at h
 omega
theorem axE_t {p d a b n m:Int}(hm:0<m)(h:axE p d a b=true):¬(m*a<=m*p+n*d/\m*p+n*d<=m*b):=fun k=>by
 unfold axE at h
 simp only[Bool.and_eq_true,Bool.or_eq_true,decide_eq_true_eq] at h
 rw[h.1,Int.mul_zero,Int.add_zero] at k
 have k1:=Int.le_of_mul_le_mul_left k.1 hm
 have k2:=Int.le_of_mul_le_mul_left k.2 hm
 omega
theorem lo0_pos {s:Fr2}(h:0<s.2):0<(lo0 s).2:=by
 unfold lo0
 split
 ·decide
 exact h
theorem lo0_le {s:Fr2}{n m:Int}(h:0<s.2)(hm:0<m):(lo0 s).1*m<=n*(lo0 s).2↔0<=n/\s.1*m<=n*s.2:=by
 unfold lo0;split
 ·rename_i hs
  simp only[Int.zero_mul,Int.mul_one]
  refine⟨fun k=>⟨k,?_⟩,fun k=>k.1⟩
  have k1:=Int.mul_le_mul_of_nonneg_right (show s.1<=0 by omega) (show 0<=m by omega)
  have k2:=Int.mul_nonneg k (show 0<=s.2 by omega)
  rw[Int.zero_mul] at k1;omega
 rename_i hs
 refine⟨fun k=>⟨?_,k⟩,fun k=>k.2⟩
 have k1:=Int.mul_nonneg (show 0<=s.1 by omega) (show 0<=m by omega)
 rcases Int.lt_or_le n 0 with hn|hn
 ·have k2:=Int.mul_lt_mul_of_pos_right hn h
  rw[Int.zero_mul] at k2;omega
 exact hn
theorem tm_pos {px py vx vy x0 y0 x1 y1:Int}(hv:¬(vx=0/\vy=0)):0<(tmL px py vx vy x0 y0 x1 y1).2/\0<(tmH px py vx vy x0 y0 x1 y1).2:=by
 unfold tmL tmH
 constructor
 ·refine mxF_pos ?_ ?_
  ·split
   ·exact(cZ (by omega)).1
   exact(cZ (by assumption)).1
  split
  ·exact(cZ (by omega)).1
  exact(cZ (by assumption)).1
 refine mnF_pos ?_ ?_
 ·split
  ·exact(cZ (by omega)).2
  exact(cZ (by assumption)).2
 split
 ·exact(cZ (by omega)).2
 exact(cZ (by assumption)).2
theorem fE {px py vx vy x0 y0 x1 y1:Int}(hv:¬(vx=0/\vy=0)):okS (tmS px py vx vy x0 y0 x1 y1):=⟨lo0_pos (tm_pos hv).1,(tm_pos hv).2⟩
theorem tm_in {px py vx vy x0 y0 x1 y1 n m:Int}(hv:¬(vx=0/\vy=0))(hm:0<m)(h1:axE px vx x0 x1=false)(h2:axE py vy y0 y1=false):inS (tmS px py vx vy x0 y0 x1 y1) n m↔0<=n/\ec px py vx vy x0 y0 x1 y1 n m:=by
 have a1:=axE_f h1
 have a2:=axE_f h2
 have z:∀{p d a b:Int},d=0->(a<=p/\p<=b)->(m*a<=m*p+n*d/\m*p+n*d<=m*b):=fun {p d a b} hd k=>by
  rw[hd,Int.mul_zero,Int.add_zero]
  exact⟨Int.mul_le_mul_of_nonneg_left k.1 (by omega),Int.mul_le_mul_of_nonneg_left k.2 (by omega)⟩
 have hp:=tm_pos (px:=px) (py:=py) (x0:=x0) (y0:=y0) (x1:=x1) (y1:=y1) hv
 unfold inS tmS
 simp only
 rw[lo0_le hp.1 hm]
 unfold ec tmL tmH
 by_cases hx:vx=0
 ·have hy:¬vy=0:=fun h=>hv ⟨hx,h⟩
  rw[if_pos hx,if_neg hy,if_pos hx,if_neg hy,nr (cZ hy).1 (cZ hy).1 hm,nt (cZ hy).2 (cZ hy).2 hm,<-sb_in (p:=py) (d:=vy)]
  have:=z hx (a1 hx)
  exact⟨fun k=>⟨k.1.1,this,k.1.2.1,k.2.1⟩,fun k=>⟨⟨k.1,k.2.2.1,k.2.2.1⟩,k.2.2.2,k.2.2.2⟩⟩
 by_cases hy:vy=0
 ·rw[if_neg hx,if_pos hy,if_neg hx,if_pos hy,nr (cZ hx).1 (cZ hx).1 hm,nt (cZ hx).2 (cZ hx).2 hm,<-sb_in (p:=px) (d:=vx)]
  have:=z hy (a2 hy)
  exact⟨fun k=>⟨k.1.1,⟨k.1.2.1,k.2.1⟩,this⟩,fun k=>⟨⟨k.1,k.2.1.1,k.2.1.1⟩,k.2.1.2,k.2.1.2⟩⟩
 rw[if_neg hx,if_neg hy,if_neg hx,if_neg hy,nr (cZ hx).1 (cZ hy).1 hm,nt (cZ hx).2 (cZ hy).2 hm,<-sb_in (p:=px) (d:=vx),<-sb_in (p:=py) (d:=vy)]
 exact⟨fun k=>⟨k.1.1,⟨k.1.2.1,k.2.1⟩,k.1.2.2,k.2.2⟩,fun k=>⟨⟨k.1,k.2.1.1,k.2.2.1⟩,k.2.1.2,k.2.2.2⟩⟩
def jx (px py vx vy vd hi x0 y0 x1 y1:Int):Bool:=!tmE px py vx vy x0 y0 x1 y1&&decide ((tmS px py vx vy x0 y0 x1 y1).1.1*vd<hi*(tmS px py vx vy x0 y0 x1 y1).1.2)
def gT (px py vx vy vd lo hi x0 y0 x1 y1:Int):Bool:=!tmE px py vx vy x0 y0 x1 y1&&(decide ((tmS px py vx vy x0 y0 x1 y1).1.1*vd<=hi*(tmS px py vx vy x0 y0 x1 y1).1.2)&&decide (lo*(tmS px py vx vy x0 y0 x1 y1).2.2<=(tmS px py vx vy x0 y0 x1 y1).2.1*vd))
theorem tmE_f {px py vx vy x0 y0 x1 y1:Int}(hv:¬(vx=0/\vy=0)):tmE px py vx vy x0 y0 x1 y1=false↔(axE px vx x0 x1=false/\axE py vy y0 y1=false)/\inS (tmS px py vx vy x0 y0 x1 y1) (tmS px py vx vy x0 y0 x1 y1).1.1 (tmS px py vx vy x0 y0 x1 y1).1.2:=by
 rw[jR (fE hv)]
 unfold tmE
 simp only[Bool.or_eq_false_iff,decide_eq_false_iff_not]
 exact⟨fun k=>⟨⟨k.1,k.2.1⟩,k.2.2⟩,fun k=>⟨k.1.1,k.1.2,k.2⟩⟩
theorem tmE_ex {px py vx vy x0 y0 x1 y1 n m:Int}(hv:¬(vx=0/\vy=0))(hn:0<=n)(hm:0<m)(h:ec px py vx vy x0 y0 x1 y1 n m):tmE px py vx vy x0 y0 x1 y1=false/\inS (tmS px py vx vy x0 y0 x1 y1) n m:=by
 have a1:axE px vx x0 x1=false:=by
  cases hq:axE px vx x0 x1
  ·rfl
  exact absurd h.1 (axE_t hm hq)
 have a2:axE py vy y0 y1=false:=by
  cases hq:axE py vy y0 y1
  ·rfl
  exact absurd h.2 (axE_t hm hq)
 have hi:=(tm_in hv hm a1 a2).2 ⟨hn,h⟩
 exact⟨(tmE_f hv).2 ⟨⟨a1,a2⟩,(jR (fE hv)).2 (om (fE hv) hm hi)⟩,hi⟩
theorem rbef_iff {px py vx vy vd hi x0 y0 x1 y1:Int}(hd:0<vd)(hv:¬(vx=0/\vy=0)):jx px py vx vy vd hi x0 y0 x1 y1=true↔∃n m:Int,0<=n/\0<m/\n*vd<hi*m/\ec px py vx vy x0 y0 x1 y1 n m:=by
 unfold jx
 rw[Bool.and_eq_true,decide_eq_true_eq,Bool.not_eq_true']
 constructor
 ·rintro⟨hb,h⟩
  have k:=(tmE_f hv).1 hb
  have l:=(tm_in hv (fE hv).1 k.1.1 k.1.2).1 k.2
  exact⟨_,_,l.1,(fE hv).1,h,l.2⟩
 rintro⟨n,m,hn,hm,h,hr⟩
 have k:=tmE_ex hv hn hm hr
 have hp:=fE (px:=px) (py:=py) (x0:=x0) (y0:=y0) (x1:=x1) (y1:=y1) hv
 refine⟨k.1,?_⟩
 have h1:=k.2.1
 generalize tmS px py vx vy x0 y0 x1 y1=s at *
 exact md (a:=s.1.1) (b:=s.1.2) (c:=n) (d:=m) (e:=hi) (f:=vd) hp.1 hm hd h1 h
theorem rmee_iff {px py vx vy vd lo hi x0 y0 x1 y1:Int}(hd:0<vd)(hv:¬(vx=0/\vy=0))(hlh:lo<=hi):gT px py vx vy vd lo hi x0 y0 x1 y1=true↔∃n m:Int,0<=n/\0<m/\lo*m<=n*vd/\n*vd<=hi*m/\ec px py vx vy x0 y0 x1 y1 n m:=by
 unfold gT
 rw[Bool.and_eq_true,Bool.and_eq_true,decide_eq_true_eq,decide_eq_true_eq,Bool.not_eq_true']
 constructor
 ·rintro⟨hb,h2,h1⟩
  have k:=(tmE_f hv).1 hb
  have hp:=fE (px:=px) (py:=py) (x0:=x0) (y0:=y0) (x1:=x1) (y1:=y1) hv
  have hin:∀n m:Int,0<m->inS (tmS px py vx vy x0 y0 x1 y1) n m->0<=n/\ec px py vx vy x0 y0 x1 y1 n m:=fun n m hm=>(tm_in hv hm k.1.1 k.1.2).1
  have hl:=k.2
  generalize tmS px py vx vy x0 y0 x1 y1=s at *
  by_cases hc:lo*s.1.2<=s.1.1*vd
  ·have k:=hin _ _ hp.1 hl
   exact⟨_,_,k.1,hp.1,hc,h2,k.2⟩
  have i:inS s lo vd:=⟨by omega,by omega⟩
  have k:=hin _ _ hd i
  have m1:=Int.mul_le_mul_of_nonneg_right hlh (show 0<=vd by omega)
  exact⟨_,_,k.1,hd,by omega,by omega,k.2⟩
 rintro⟨n,m,hn,hm,h1,h2,hr⟩
 have k:=tmE_ex hv hn hm hr
 have hp:=fE (px:=px) (py:=py) (x0:=x0) (y0:=y0) (x1:=x1) (y1:=y1) hv
 refine⟨k.1,?_,?_⟩
 ·have h:=k.2.1
  generalize tmS px py vx vy x0 y0 x1 y1=s at *
  exact eO (a:=s.1.1) (b:=s.1.2) (c:=n) (d:=m) (e:=hi) (f:=vd) hp.1 hm hd h h2
 have h:=k.2.2
 generalize tmS px py vx vy x0 y0 x1 y1=s at *
 exact eO (a:=lo) (b:=vd) (c:=n) (d:=m) (e:=s.2.1) (f:=s.2.2) hd hm hp.2 h1 h
theorem bef_eq {px py vx vy vd hi x0 y0 x1 y1:Int}(hd:0<vd)(hv:¬(vx=0/\vy=0))(hx:px-x0<=8388608/\x1-px<=8388608)(hy:py-y0<=8388608/\y1-py<=8388608):bfrB px py vx vy vd hi x0 y0 x1 y1=jx px py vx vy vd hi x0 y0 x1 y1 :=
 Bool.eq_iff_iff.2 ((ot hd hv hx hy).trans (rbef_iff hd hv).symm)
theorem mee_eq {px py vx vy vd lo hi x0 y0 x1 y1:Int}(hd:0<vd)(hv:¬(vx=0/\vy=0))(hx:px-x0<=8388608/\x1-px<=8388608)(hy:py-y0<=8388608/\y1-py<=8388608)(h0:0<=lo)(hlh:lo<=hi):ic px py vx vy vd lo hi x0 y0 x1 y1=gT px py vx vy vd lo hi x0 y0 x1 y1 :=
 Bool.eq_iff_iff.2 ((jS hd hv hx hy h0 hlh).trans (rmee_iff hd hv hlh).symm)
theorem low_lt {g n d k:Int}(hg:0<g)(h1:g ∣ n)(h2:g ∣ d):n/g<k*(d/g)↔n<k*d:=by
 obtain⟨a,rfl⟩:=h1
 obtain⟨b,rfl⟩:=h2
 rw[Int.mul_ediv_cancel_left _ (by omega),Int.mul_ediv_cancel_left _ (by omega)]
 have e:k*(g*b)=g*(k*b):=by grind
 rw[e]
 exact(Int.mul_lt_mul_left hg).symm
theorem low_le {g n d k:Int}(hg:0<g)(h1:g ∣ n)(h2:g ∣ d):(n/g<=k*(d/g)↔n<=k*d)/\(k*(d/g)<=n/g↔k*d<=n):=by
 obtain⟨a,rfl⟩:=h1
 obtain⟨b,rfl⟩:=h2
 rw[Int.mul_ediv_cancel_left _ (by omega),Int.mul_ediv_cancel_left _ (by omega)]
 have e:k*(g*b)=g*(k*b):=by grind
 rw[e]
 exact⟨(Int.mul_le_mul_left hg).symm,(Int.mul_le_mul_left hg).symm⟩
theorem reach_bd {v D lo hi n m mn mx:Int}(hD:0<D)(hm:0<m)(h1:lo*m<=n*D)(h2:n*D<=hi*m)(k1:mn<=lo*v)(k2:mn<=hi*v)(k3:lo*v<=mx)(k4:hi*v<=mx):m*(mn/D)<=n*v/\n*v<=m*(mx/D+1):=by
 have q1:D*(mn/D)<=mn:=Int.mul_ediv_self_le (by omega)
 have q2:mx<D*(mx/D+1):=by
  have:=Int.lt_mul_ediv_self_add (x:=mx) hD
  have e:D*(mx/D+1)=D*(mx/D)+D:=by grind
  omega
 have w1:m*mn<=n*v*D/\n*v*D<=m*mx:=by
  have a1:=Int.mul_le_mul_of_nonneg_left k1 (show 0<=m by omega)
  have a2:=Int.mul_le_mul_of_nonneg_left k2 (show 0<=m by omega)
  have a3:=Int.mul_le_mul_of_nonneg_left k3 (show 0<=m by omega)
  have a4:=Int.mul_le_mul_of_nonneg_left k4 (show 0<=m by omega)
  rcases Int.le_total 0 v with hv|hv
  ·have b1:=Int.mul_le_mul_of_nonneg_right h1 hv
   have b2:=Int.mul_le_mul_of_nonneg_right h2 hv
   have e1:lo*m*v=m*(lo*v):=by grind
   have e2:n*D*v=n*v*D:=by grind
   have e3:hi*m*v=m*(hi*v):=by grind
   omega
  have b1:=Int.mul_le_mul_of_nonpos_right h1 hv
  have b2:=Int.mul_le_mul_of_nonpos_right h2 hv
  have e1:lo*m*v=m*(lo*v):=by grind
  have e2:n*D*v=n*v*D:=by grind
  have e3:hi*m*v=m*(hi*v):=by grind
  omega
 constructor
 ·have a1:=Int.mul_le_mul_of_nonneg_left q1 (show 0<=m by omega)
  have e:m*(D*(mn/D))=m*(mn/D)*D:=by grind
  exact Int.le_of_mul_le_mul_right (show m*(mn/D)*D<=n*v*D by omega) hD
 have a1:=Int.mul_le_mul_of_nonneg_left (show mx<=D*(mx/D+1) by omega) (show 0<=m by omega)
 have e:m*(D*(mx/D+1))=m*(mx/D+1)*D:=by grind
 exact Int.le_of_mul_le_mul_right (show n*v*D<=m*(mx/D+1)*D by omega) hD
theorem nu {v D lo hi n m mn mx c X0 X1:Int}(hD:0<D) (hm:0<m) (h1:lo*m<=n*D) (h2:n*D<=hi*m) (k1:mn<=lo*v) (k2:mn<=hi*v) (k3:lo*v<=mx) (k4:hi*v<=mx)
  (hr:m*(c*64-X1)<=m*0+n*v/\m*0+n*v<=m*(c*64+64-X0)):X0+mn/D<=c*64+64/\c*64<=X1+mx/D+1:=by
 have q:=reach_bd hD hm h1 h2 k1 k2 k3 k4
 rw[Int.mul_zero,Int.zero_add] at hr
 have a:=Int.le_of_mul_le_mul_left (Int.le_trans q.1 hr.2) hm
 have b:=Int.le_of_mul_le_mul_left (Int.le_trans hr.1 q.2) hm
 omega
theorem bef_mee {px py vx vy vd hi x0 y0 x1 y1:Int}(h:∃n m:Int,0<=n/\0<m/\n*vd<hi*m/\ec px py vx vy x0 y0 x1 y1 n m)(hd:0<vd):∃n m:Int,0<=n/\0<m/\0*m<=n*vd/\n*vd<=hi*m/\ec px py vx vy x0 y0 x1 y1 n m:=by
 obtain⟨n,m,hn,hm,h,hr⟩:=h
 have:=Int.mul_nonneg hn (show 0<=vd by omega)
 exact⟨n,m,hn,hm,by omega,by omega,hr⟩
theorem ray_sh {px py vx vy x0 y0 x1 y1 n m:Int}:ec px py vx vy x0 y0 x1 y1 n m↔ec 0 0 vx vy (x0-px) (y0-py) (x1-px) (y1-py) n m:=by
 unfold ec
 have e1:m*(x0-px)=m*x0-m*px:=by grind
 have e2:m*(x1-px)=m*x1-m*px:=by grind
 have e3:m*(y0-py)=m*y0-m*py:=by grind
 have e4:m*(y1-py)=m*y1-m*py:=by grind
 rw[e1,e2,e3,e4]
 omega
def BefP (px py vx vy vd hi x0 y0 x1 y1:Int):Prop:=∃n m:Int,0<=n/\0<m/\n*vd<hi*m/\ec px py vx vy x0 y0 x1 y1 n m
theorem rM {px py vx vy vd far cx cy mnx mxx mny mxy:Int}(hd:0<vd) (hv:¬(vx=0/\vy=0)) (hpx : -1048576<=px/\px<=1048576) (hpy : -1048576<=py/\py<=1048576) (hcx : -16384<=cx/\cx<=16384) (hcy : -16384<=cy/\cy<=16384) (hfar:0<=far)
  (x1:mnx<=0*vx) (x2:mnx<=far*vx) (x3:0*vx<=mxx) (x4:far*vx<=mxx) (y1:mny<=0*vy) (y2:mny<=far*vy) (y3:0*vy<=mxy) (y4:far*vy<=mxy)
  (h:bfrB px py vx vy vd far (cx*64) (cy*64) (cx*64+64) (cy*64+64)=true) :
  ic 0 0 vx vy vd 0 far (cx*64-px) (cy*64-py) (cx*64+64-px) (cy*64+64-py)=true/\(px+mnx/vd<=cx*64+64/\cx*64<=px+mxx/vd+1)/\py+mny/vd<=cy*64+64/\cy*64<=py+mxy/vd+1:=by
 have q:=bef_mee ((ot hd hv (by omega) (by omega)).1 h) hd
 obtain⟨n,m,hn,hm,h1,h2,hr⟩:=q
 have hs:=ray_sh.1 hr
 refine⟨(jS hd hv (by omega) (by omega) (by omega) hfar).2 ⟨n,m,hn,hm,h1,h2,hs⟩,?_,?_⟩
 ·exact nu (X0:=px) (X1:=px) hd hm h1 h2 x1 x2 x3 x4 hs.1
 exact nu (X0:=py) (X1:=py) hd hm h1 h2 y1 y2 y3 y4 hs.2
theorem mee_range {X0 Y0 X1 Y1 vx vy vd lo hi cx cy mnx mxx mny mxy:Int}(hd:0<vd) (hv:¬(vx=0/\vy=0)) (hX : -1048576<=X0/\X1<=1048576/\X0<=X1) (hY : -1048576<=Y0/\Y1<=1048576/\Y0<=Y1) (hcx : -32768<=cx/\cx<=32768) (hcy : -32768<=cy/\cy<=32768) (hlo:0<=lo) (hlh:lo<=hi)
  (x1:mnx<=lo*vx) (x2:mnx<=hi*vx) (x3:lo*vx<=mxx) (x4:hi*vx<=mxx) (y1:mny<=lo*vy) (y2:mny<=hi*vy) (y3:lo*vy<=mxy) (y4:hi*vy<=mxy)
  (h:ic 0 0 vx vy vd lo hi (cx*64-X1) (cy*64-Y1) (cx*64+64-X0) (cy*64+64-Y0)=true) :
  (X0+mnx/vd<=cx*64+64/\cx*64<=X1+mxx/vd+1)/\Y0+mny/vd<=cy*64+64/\cy*64<=Y1+mxy/vd+1:=by
 obtain⟨n,m,hn,hm,h1,h2,hr⟩:=(jS hd hv (by omega) (by omega) hlo hlh).1 h
 exact⟨nu hd hm h1 h2 x1 x2 x3 x4 hr.1,nu hd hm h1 h2 y1 y2 y3 y4 hr.2⟩
theorem kj {a b d:Int}(hd:0<d):(if b<a then b else a)/d=(if b/d<a/d then b/d else a/d)/\(if a<b then b else a)/d=(if a/d<b/d then b/d else a/d):=by
 have mono:∀x y:Int,x<=y->x/d<=y/d:=fun x y h=>Int.ediv_le_ediv hd h
 rcases Int.lt_trichotomy a b with h|h|h
 ·have:=mono a b (by omega)
  constructor
  ·rw[if_neg (by omega),if_neg (by omega)]
  rw[if_pos h];split<;>omega
 ·subst h;simp
 have:=mono b a (by omega)
 constructor
 ·rw[if_pos h];split<;>omega
 rw[if_neg (by omega),if_neg (by omega)]
def thG (px py vx vy vd x0 y0 x1 y1:Int):Bool:=lnP px py&&(da vx vy vd&&lnR x0 y0 x1 y1)
def dr (px py vx vy vd lo hi x0 y0 x1 y1:Int):Bool:=decide (0<=lo)&&(decide (lo<=hi)&&(decide (hi<=65536)&&(thG px py vx vy vd x0 y0 x1 y1&&ic px py vx vy vd lo hi x0 y0 x1 y1)))
def cX (px py vx vy vd hi x0 y0 x1 y1:Int):Bool:=decide (0<=hi)&&(decide (hi<=65536)&&(thG px py vx vy vd x0 y0 x1 y1&&bfrB px py vx vy vd hi x0 y0 x1 y1))
theorem dj {px py vx vy vd x0 y0 x1 y1:Int}:thG px py vx vy vd x0 y0 x1 y1=true↔lnP px py=true/\da vx vy vd=true/\lnR x0 y0 x1 y1=true:=by
 unfold thG;simp only[Bool.and_eq_true]
theorem d4 {px py vx vy vd x0 y0 x1 y1:Int}(h:thG px py vx vy vd x0 y0 x1 y1=true):0<vd/\¬(vx=0/\vy=0):=by
 have h:=(dj.1 h).2.1
 exact⟨by have:=(bj.1 h).1;omega,vec_nz h⟩
theorem i9 {px py vx vy vd x0 y0 x1 y1:Int}(h:thG px py vx vy vd x0 y0 x1 y1=true):(px-x0<=8388608/\x1-px<=8388608)/\(py-y0<=8388608/\y1-py<=8388608):=by
 obtain⟨h1,-,h2⟩:=dj.1 h
 have h1:=fX.1 h1
 have h2:=cS.1 h2
 omega
def bdSp (s:Fr2×Fr2):Prop:=((-8388608<=s.1.1/\s.1.1<=8388608)/\1<=s.1.2/\s.1.2<=67108864)/\(-8388608<=s.2.1/\s.2.1<=8388608)/\1<=s.2.2/\s.2.2<=67108864
def bdF (f:Fr2):Prop:=(-8388608<=f.1/\f.1<=8388608)/\1<=f.2/\f.2<=67108864
theorem mxF_bd {s l:Fr2}(hs:bdF s)(hl:bdF l):bdF (mxF s l):=by unfold mxF;split<;>assumption
theorem mnF_bd {s l:Fr2}(hs:bdF s)(hl:bdF l):bdF (mnF s l):=by unfold mnF;split<;>assumption
theorem lJ {p d a b:Int}(hp : -2097152<=p/\p<=2097152)(ha : -2097152<=a/\a<=2097152)(hb : -2097152<=b/\b<=2097152)(hd : -67108864<=d/\d<=67108864)(h0:¬d=0):bdF (sbL p d a b)/\bdF (sbH p d a b):=by
 unfold sbL sbH bdF;split<;>(simp only;omega)
theorem slab_bd {s:Fr2×Fr2}{p d a b:Int}(h:bdSp s)(hp : -2097152<=p/\p<=2097152)(ha : -2097152<=a/\a<=2097152)(hb : -2097152<=b/\b<=2097152)(hd : -67108864<=d/\d<=67108864):bdSp (bA s p d a b):=by
 unfold bA;split
 ·exact h
 rename_i h0
 have k:=lJ hp ha hb hd h0
 exact⟨mxF_bd h.1 k.1,mnF_bd h.2 k.2⟩
theorem thS0_bd:bdSp e8:=by unfold bdSp e8;decide
theorem thS_bd {px py vx vy vd x0 y0 x1 y1:Int}(h:thG px py vx vy vd x0 y0 x1 y1=true):bdSp (bA e8 px vx x0 x1)/\bdSp (thS px py vx vy x0 y0 x1 y1):=by
 obtain⟨h1,h3,h2⟩:=dj.1 h
 have h1:=fX.1 h1
 have h2:=cS.1 h2
 have h3:=bj.1 h3
 have k:=slab_bd (a:=x0) (b:=x1) (p:=px) (d:=vx) thS0_bd (by omega) (by omega) (by omega) (by omega)
 exact⟨k,slab_bd k (by omega) (by omega) (by omega) (by omega)⟩
theorem tmS_bd {px py vx vy vd x0 y0 x1 y1:Int}(h:thG px py vx vy vd x0 y0 x1 y1=true):bdSp (tmS px py vx vy x0 y0 x1 y1):=by
 have hz:=(d4 h).2
 obtain⟨h1,h3,h2⟩:=dj.1 h
 have h1:=fX.1 h1
 have h2:=cS.1 h2
 have h3:=bj.1 h3
 have l0:∀{f:Fr2},bdF f->bdF (lo0 f):=fun {f} hf=>by
  unfold lo0;split
  ·unfold bdF;decide
  exact hf
 have kx:=fun h0=>lJ (p:=px) (d:=vx) (a:=x0) (b:=x1) (by omega) (by omega) (by omega) (by omega) h0
 have ky:=fun h0=>lJ (p:=py) (d:=vy) (a:=y0) (b:=y1) (by omega) (by omega) (by omega) (by omega) h0
 unfold tmS tmL tmH
 refine⟨l0 (mxF_bd ?_ ?_),mnF_bd ?_ ?_⟩
 ·split
  ·exact(ky (by omega)).1
  exact(kx (by omega)).1
 ·split
  ·exact(kx (by omega)).1
  exact(ky (by omega)).1
 ·split
  ·exact(ky (by omega)).2
  exact(kx (by omega)).2
 split
 ·exact(kx (by omega)).2
 exact(ky (by omega)).2
theorem nv {px py vx vy x0 y0 x1 y1:Int}:0<=(tmS px py vx vy x0 y0 x1 y1).1.1:=by
 unfold tmS lo0;simp only;split
 ·decide
 omega
theorem iC {px py vx vy vd lo hi x0 y0 x1 y1:Int}:dr px py vx vy vd lo hi x0 y0 x1 y1=(decide (0<=lo)&&(decide (lo<=hi)&&(decide (hi<=65536)&&(thG px py vx vy vd x0 y0 x1 y1&&gT px py vx vy vd lo hi x0 y0 x1 y1)))):=by
 unfold dr
 by_cases h:thG px py vx vy vd x0 y0 x1 y1=true
 ·by_cases h1:0<=lo
  ·by_cases h2:lo<=hi
   ·have k:=d4 h
    have n:=i9 h
    rw[mee_eq k.1 k.2 n.1 n.2 h1 h2]
   rw[decide_eq_false h2];simp
  rw[decide_eq_false h1];simp
 rw[Bool.not_eq_true] at h;rw[h];simp
theorem lK {px py vx vy vd hi x0 y0 x1 y1:Int}:cX px py vx vy vd hi x0 y0 x1 y1=(decide (0<=hi)&&(decide (hi<=65536)&&(thG px py vx vy vd x0 y0 x1 y1&&jx px py vx vy vd hi x0 y0 x1 y1))):=by
 unfold cX
 by_cases h:thG px py vx vy vd x0 y0 x1 y1=true
 ·have k:=d4 h
  have n:=i9 h
  rw[bef_eq k.1 k.2 n.1 n.2]
 rw[Bool.not_eq_true] at h;rw[h];simp
def dc (a0 b0 a1 b1 x0 y0 x1 y1:Int):Bool:=lnR a0 b0 a1 b1&&(lnR x0 y0 x1 y1&&lnR (a0-x1) (b0-y1) (a1-x0) (b1-y0))
def aj (a n d lo hi:Int):Int:=a+(if hi*n<lo*n then hi*n else lo*n)/d
def aW (b n d lo hi:Int):Int:=b+(if lo*n<hi*n then hi*n else lo*n)/d+1
def br (x0 y0 x1 y1 vx vy vd lo hi:Int) (cx cy:Int):Bool:=dc (cx*64) (cy*64) (cx*64+64) (cy*64+64) x0 y0 x1 y1&&dr 0 0 vx vy vd lo hi (cx*64-x1) (cy*64-y1) (cx*64+64-x0) (cy*64+64-y0)
def dI (x0 y0 x1 y1 vx vy vd lo hi:Int):List (Int×Int):=be (br x0 y0 x1 y1 vx vy vd lo hi) (spl (aj x0 vx vd lo hi)) (cu (aj x0 vx vd lo hi) (aW x1 vx vd lo hi)) (spl (aj y0 vy vd lo hi)) (cu (aj y0 vy vd lo hi) (aW y1 vy vd lo hi))
theorem fF {a b n d lo hi:Int}(hd:0<d)(hn : -d<=n/\n<=d)(h0:0<=lo)(hh:lo<=hi)(h1:hi<=2048):(a-2048<=aj a n d lo hi/\aj a n d lo hi<=a+2048)/\(b-2047<=aW b n d lo hi/\aW b n d lo hi<=b+2049)/\(a<=b->aj a n d lo hi<=aW b n d lo hi):=by
 have k:∀m:Int,0<=m->m<=2048 -> -2048*d<=m*n/\m*n<=2048*d:=fun m m0 m1=>by
  have a1:=Int.mul_le_mul_of_nonneg_left hn.1 m0
  have a2:=Int.mul_le_mul_of_nonneg_left hn.2 m0
  have a3:=Int.mul_le_mul_of_nonneg_right m1 (show 0<=d by omega)
  have e:m * -d = -(m*d):=Int.mul_neg _ _
  omega
 have q:∀m:Int,-2048*d<=m->m<=2048*d -> -2048<=m/d/\m/d<=2048:=fun m h h'=>⟨(Int.le_ediv_iff_mul_le hd).2 h,Int.ediv_le_of_le_mul hd h'⟩
 have k1:=k lo h0 (by omega)
 have k2:=k hi (by omega) h1
 have m1:∀m:Int,m=(if hi*n<lo*n then hi*n else lo*n) -> -2048<=m/d/\m/d<=2048:=fun m e=>q m (by rw[e];split<;>omega) (by rw[e];split<;>omega)
 have m2:∀m:Int,m=(if lo*n<hi*n then hi*n else lo*n) -> -2048<=m/d/\m/d<=2048:=fun m e=>q m (by rw[e];split<;>omega) (by rw[e];split<;>omega)
 have r1:=m1 _ rfl
 have r2:=m2 _ rfl
 have r3:(if hi*n<lo*n then hi*n else lo*n)/d<=(if lo*n<hi*n then hi*n else lo*n)/d:=Int.ediv_le_ediv hd (by split<;>split<;>omega)
 unfold aj aW
 omega
theorem fZ {a b:Int}(h : -1050624<=a/\a<=b/\b<=1050625):(-16418<=spl a/\spl a<=16416)/\(-16417<=sph b/\sph b<=16416)/\spl a<=sph b/\spl a+(cu a b:Int)=sph b+1/\1<=cu a b/\cu a b<=32900:=by
 unfold cu spl sph;omega
theorem pv {x0 y0 x1 y1 vx vy vd lo hi cx cy:Int}(hx : -1048576<=x0/\x0<=x1/\x1<=1048576)(hy : -1048576<=y0/\y0<=y1/\y1<=1048576)(h:br x0 y0 x1 y1 vx vy vd lo hi cx cy=true):
  (aj x0 vx vd lo hi<=cx*64+64/\cx*64<=aW x1 vx vd lo hi)/\aj y0 vy vd lo hi<=cy*64+64/\cy*64<=aW y1 vy vd lo hi:=by
 unfold br dr at h
 simp only[Bool.and_eq_true,decide_eq_true_eq] at h
 obtain⟨hm,h0,hl,h6,hg,hmee⟩:=h
 unfold dc at hm
 simp only[Bool.and_eq_true,cS] at hm
 have hv:=d4 hg
 have k:=mee_range (X0:=x0) (Y0:=y0) (X1:=x1) (Y1:=y1) hv.1 hv.2 (by omega) (by omega) (cx:=cx) (cy:=cy) (by omega) (by omega) h0 hl
  (mnx:=if hi*vx<lo*vx then hi*vx else lo*vx) (mxx:=if lo*vx<hi*vx then hi*vx else lo*vx) (mny:=if hi*vy<lo*vy then hi*vy else lo*vy) (mxy:=if lo*vy<hi*vy then hi*vy else lo*vy)
  (by split<;>omega) (by split<;>omega) (by split<;>omega) (by split<;>omega) (by split<;>omega) (by split<;>omega) (by split<;>omega) (by split<;>omega) hmee
 unfold aj aW
 omega
theorem nw {a c:Int}:spl a<=c↔a<=c*64+64:=by unfold spl;omega
theorem ny {b c:Int}:c<=sph b↔c*64<=b:=by unfold sph;omega
theorem swp_grid {x0 y0 x1 y1 vx vy vd lo hi a b:Int}{w n:Nat}(hx : -1048576<=x0/\x0<=x1/\x1<=1048576) (hy : -1048576<=y0/\y0<=y1/\y1<=1048576) (hcx:0<cu (aj x0 vx vd lo hi) (aW x1 vx vd lo hi)) (hcy:0<cu (aj y0 vy vd lo hi) (aW y1 vy vd lo hi))
  (ha:a<=spl (aj x0 vx vd lo hi)) (ha2:sph (aW x1 vx vd lo hi)<a+w) (hb:b<=spl (aj y0 vy vd lo hi)) (hb2:sph (aW y1 vy vd lo hi)<b+n):be (br x0 y0 x1 y1 vx vy vd lo hi) a w b n=dI x0 y0 x1 y1 vx vy vd lo hi:=by
 refine gridR_eq fun cx cy=>?_
 have c1:spl (aj x0 vx vd lo hi)+(cu (aj x0 vx vd lo hi) (aW x1 vx vd lo hi):Int)=sph (aW x1 vx vd lo hi)+1:=by unfold cu at *;omega
 have c2:spl (aj y0 vy vd lo hi)+(cu (aj y0 vy vd lo hi) (aW y1 vy vd lo hi):Int)=sph (aW y1 vy vd lo hi)+1:=by unfold cu at *;omega
 constructor
 ·rintro⟨h1,h2,h3⟩
  obtain⟨⟨k1,k2⟩,k3,k4⟩:=pv hx hy h3
  have k1:=nw.2 k1
  have k2:=ny.2 k2
  have k3:=nw.2 k3
  have k4:=ny.2 k4
  exact⟨by omega,by omega,h3⟩
 rintro⟨h1,h2,h3⟩
 exact⟨by omega,by omega,h3⟩
def lwN (n d:Int):Int:=n/(Int.gcd n d:Int)
def lwD (n d:Int):Int:=d/(Int.gcd n d:Int)
theorem lL {n d:Int}(hd:0<d):0<(Int.gcd n d:Int):=by
 have:Int.gcd n d≠0:=fun h=>by have:=(Int.gcd_eq_zero_iff.1 h).2;omega
 omega
theorem lw_lt {n d k:Int}(hd:0<d):lwN n d<k*lwD n d↔n<k*d:=low_lt (lL hd) (Int.gcd_dvd_left ..) (Int.gcd_dvd_right ..)
theorem lw_le {n d k:Int}(hd:0<d):(lwN n d<=k*lwD n d↔n<=k*d)/\(k*lwD n d<=lwN n d↔k*d<=n):=low_le (lL hd) (Int.gcd_dvd_left ..) (Int.gcd_dvd_right ..)
theorem lw_bd {n d B:Int}(hn:0<=n/\n<=B)(hd:0<d):(0<=lwN n d/\lwN n d<=B)/\(0<lwD n d/\lwD n d<=d):=by
 have hg:=lL (n:=n) hd
 unfold lwN lwD
 obtain⟨a,ha⟩:(Int.gcd n d:Int) ∣ n:=Int.gcd_dvd_left ..
 obtain⟨b,hb⟩:(Int.gcd n d:Int) ∣ d:=Int.gcd_dvd_right ..
 generalize (Int.gcd n d:Int)=g at *
 subst ha hb
 rw[Int.mul_ediv_cancel_left _ (by omega),Int.mul_ediv_cancel_left _ (by omega)]
 have hb:0<b:=by
  rcases Int.lt_or_le 0 b with h|h
  ·exact h
  have:=Int.mul_nonpos_of_nonneg_of_nonpos (show 0<=g by omega) h;omega
 have ha:0<=a:=by
  rcases Int.lt_or_le a 0 with h|h
  ·have:=Int.mul_neg_of_pos_of_neg hg h;omega
  exact h
 have e1:=Int.mul_le_mul_of_nonneg_right (show 1<=g by omega) ha
 have e2:=Int.mul_le_mul_of_nonneg_right (show 1<=g by omega) (show 0<=b by omega)
 omega
theorem set_last {H:ac}{a b:ABlk}:(H++[a]).set H.length b=H++[b]:=by
 rw[List.set_append_right _ _ (Nat.le_refl _),Nat.sub_self];rfl
theorem e7 {P:Program}{fn:Func}{H l1:ac}{b0 b1:ABlk}{R:AV->ac->Prop}{F:Fr}{e:Exit}(he:e=.ret\/e=.normal)(hbel:HBel (H++[b0]).length (H++[b0]))(hb:b1.bel (H++[b0]).length=true){x:AV}(hx:dp P fn F (H++b1::l1)=some x)(hp:x.bel 0=true)(hR:R x (H++[b1])):dE P fn (H++[b0]).length R e F (H++b1::l1):=by
 have h:=hbel.put H.length hb
 rw[set_last] at h
 have hl:(H++[b1]).length=(H++[b0]).length:=by rw[List.length_append,List.length_append];rfl
 have ha:(H++[b1])++l1=H++b1::l1:=by rw[List.append_assoc];rfl
 have k:dE P fn (H++[b1]).length R e F ((H++[b1])++l1):=cA he (by rw[hl];exact h) (x:=x) (by rw[ha];exact hx) hp hR
 rw[hl,ha] at k;exact k
theorem ep {P:Program}{N n:Nat}{Q:Exit->Fr->ac->Prop}{ops:Array Oper}{id:Nat}{F:Fr}{H:ac}(q:Bool) (hm:P.follows .mixedOrders=true) (reps:List (List Nat)) (hok:k7 q false N ops reps=true) (I:Fr->ac->Prop)
  (h1:∀τ∈reps,∀J:Fr->ac->Prop,(∀F' H',(∃σ F2 H2,I F2 H2/\Abs n σ F' H' F2 H2)->J F' H')->AGo P N n q Q [.opsD H.length (jo ops.toList τ),.inv J] F H) (h2:∀F2 H2,I F2 H2->Q .normal F2 H2):AW P N n (.region id ops true) Q F H:=by
 intro E w a k1 k2 k3 k4 k5
 have key:=n9 (id:=id) (q:=q) (Q:=fv (fun F' H'=>∃σ F2 H2,I F2 H2/\Abs n σ F' H' F2 H2) Q) hm reps hok (.inl rfl) (fun τ hτ=>h1 τ hτ (fun F' H'=>∃σ F2 H2,I F2 H2/\Abs n σ F' H' F2 H2) (fun _ _ h=>h)) E w a k1 k2 k3 k4 k5
 refine wp_mono key fun e a w hh=>?_
 obtain⟨E',F',H',hq,l,s,d,f,m⟩:=hh
 cases e with
 | normal =>
  obtain⟨σ,F2,H2,hi,ab⟩:=hq
  obtain⟨E2,l2,f2,m2⟩:=ab.emb l.n f m
  exact⟨E2,F2,H2,h2 F2 H2 hi,l.trans l2,s,d,f2,m2⟩
 |_=>exact⟨E',F',H',hq,l,s,d,f,m⟩
theorem AcN {P:Program}(q:Bool) {f:FuncId}{fn:Func}{args:List AV}{R:AV->ac->Prop}{H:ac}(hf:P.funcs[f]? = some fn) {c:Code}(h:HBel H.length H->∀Q:Exit->Fr->ac->Prop,(∀F H',dE P fn H.length R .normal F H'->Q .normal F H')->AGo P fn.ntmps H.length q Q [.code c] (argF 0 args) H)
  (hb:fn.body=some c:=by rfl) (hm:P.follows .mixedOrders=true:=by exact try_mixed) (ha:args.length<=fn.ntmps:=by exact Nat.le_of_ble_eq_true (by kernel_rfl)) (hc:dd fn.ntmps q c=true:=by kernel_rfl):ACalls P f args H R :=
 co hm hf q _ rfl ha (by rw[hb];exact congrArg some hc) fun hbel Q _ hQ c' hc'=>by
  rw[hb] at hc'
  injection hc' with hc'
  subst hc'
  exact h hbel Q hQ
def mkV (b:Bool) (n:Int):Int:=if b=true then n else 0
def thO (px py vx vy vd x0 y0 x1 y1:Int):Bool:=thG px py vx vy vd x0 y0 x1 y1&&thB px py vx vy x0 y0 x1 y1
def thV (px py vx vy vd x0 y0 x1 y1:Int):Fr2×Fr2:=if thO px py vx vy vd x0 y0 x1 y1=true then thS px py vx vy x0 y0 x1 y1 else ((0,0),(0,0))
theorem thO_t {px py vx vy vd x0 y0 x1 y1:Int}(h:thO px py vx vy vd x0 y0 x1 y1=true):thG px py vx vy vd x0 y0 x1 y1=true/\thB px py vx vy x0 y0 x1 y1=true:=by unfold thO at h;rwa [Bool.and_eq_true] at h
theorem thO_me {px py vx vy vd x0 y0 x1 y1 lo hi:Int}(h:thO px py vx vy vd x0 y0 x1 y1=false):dr px py vx vy vd lo hi x0 y0 x1 y1=false/\cX px py vx vy vd hi x0 y0 x1 y1=false:=by
 unfold dr cX ic bfrB
 unfold thO at h
 cases hg:thG px py vx vy vd x0 y0 x1 y1
 ·simp
 rw[hg,Bool.true_and] at h;rw[h];simp
theorem iD (H:ac)(n:Int):zC 243 [iV n] H (.bool (cR n 2097152)) H:=by
 refine AcT true func243 ?_;intro hbel Q hQ
 refine aC ?_
 refine bg (fun h1=>?_) (fun h1=>?_)
 ·have h1d:=bsT h1
  have G1:=jn h1 @h1d
  exact eS G1 hQ hbel (.bool (decide (n<=2097152))) results243 ⟨by simp[cR,h1d],rfl⟩
 have h1d:=bsT h1
 have G2:=jn h1 @h1d
 exact eS G2 hQ hbel (.bool false) results243 ⟨by simp[cR,h1d],rfl⟩
theorem svpt_c (H:ac)(x y:Int):zC 239 [.agg [iV x,iV y]] H (.bool (lnP x y)) H:=by
 refine AcT true func239 ?_;intro hbel Q hQ
 refine aC ?_
 refine cv (iD _ x) ?_
 refine aC ?_
 refine bg (fun h1=>?_) (fun h1=>?_)
 ·have h1d:=bsT h1
  have G3:=jn h1 @h1d
  refine aa G3 ?_
  refine cvr G3 (iD _ y) ?_
  exact eP hQ hbel (.bool (cR y 2097152)) results239 ⟨by simp[lnP,h1d],rfl⟩
 have h1d:=bsT h1
 have G4:=jn h1 @h1d
 exact eR G4 hQ hbel (.bool false) results239 ⟨by simp[lnP,h1d],rfl⟩
theorem svv_c (H:ac)(x y d:Int):zC 240 [.agg [iV x,iV y,iV d]] H (.bool (da x y d)) H:=by
 refine AcT true func240 ?_;intro hbel Q hQ
 refine aC ?_
 refine bg (fun h1=>?_) (fun h1=>?_)
 ·have h1d:=bsT h1
  have G5:=jn h1 @h1d
  refine rgs G5 (fun h2 h2d G6=>?_) (fun h2 h2d G15=>?_)
  ·refine rgs G6 (fun h3 h3d G7=>?_) (fun h3 h3d G14=>?_)
   ·refine rgs G7 (fun h4 h4d G8=>?_) (fun h4 h4d G13=>?_)
    ·refine rgs G8 (fun h5 h5d G9=>?_) (fun h5 h5d G12=>?_)
     ·refine rcs G9 (fun h6 h6d G10=>?_) (fun h6 h6d G11=>?_)
      ·exact eR G10 hQ hbel (.bool false) results240 ⟨by (refine congrArg AV.bool ?_;rw[Bool.eq_iff_iff,bj];exact⟨fun e=>(by cases e),fun k=>(by omega)⟩),rfl⟩
      have hm1:=aP (a:=x) (b:=x) (A:=67108864) (B:=67108864) (by omega) (by omega)
      have hm2:=aP (a:=y) (b:=y) (A:=67108864) (B:=67108864) (by omega) (by omega)
      have hm3:=aP (a:=d) (b:=d) (A:=67108864) (B:=67108864) (by omega) (by omega)
      exact eR G11 hQ hbel (.bool (((x*x)+(y*y))==(d*d))) results240 ⟨by (refine congrArg AV.bool ?_;rw[Bool.eq_iff_iff,bj,beq_iff_eq];exact⟨fun e=>⟨⟨by omega,by omega⟩,⟨by omega,by omega⟩,⟨by omega,by omega⟩,e⟩,fun e=>e.2.2.2⟩),rfl⟩
     exact eR G12 hQ hbel (.bool false) results240 ⟨by (refine congrArg AV.bool ?_;rw[Bool.eq_iff_iff,bj];exact⟨fun e=>(by cases e),fun k=>(by omega)⟩),rfl⟩
    exact eR G13 hQ hbel (.bool false) results240 ⟨by (refine congrArg AV.bool ?_;rw[Bool.eq_iff_iff,bj];exact⟨fun e=>(by cases e),fun k=>(by omega)⟩),rfl⟩
   exact eR G14 hQ hbel (.bool false) results240 ⟨by (refine congrArg AV.bool ?_;rw[Bool.eq_iff_iff,bj];exact⟨fun e=>(by cases e),fun k=>(by omega)⟩),rfl⟩
  exact eR G15 hQ hbel (.bool false) results240 ⟨by (refine congrArg AV.bool ?_;rw[Bool.eq_iff_iff,bj];exact⟨fun e=>(by cases e),fun k=>(by omega)⟩),rfl⟩
 have h1d:=bsT h1
 have G16:=jn h1 @h1d
 exact eR G16 hQ hbel (.bool false) results240 ⟨by (refine congrArg AV.bool ?_;rw[Bool.eq_iff_iff,bj];exact⟨fun e=>(by cases e),fun k=>(by omega)⟩),rfl⟩
theorem nz (H:ac)(x0 y0 x1 y1:Int):zC 233 [.agg [iV x0,iV y0,iV x1,iV y1]] H (.bool (lnR x0 y0 x1 y1)) H:=by
 refine AcT true func233 ?_;intro hbel Q hQ
 refine aC ?_
 refine cv (iD _ _) ?_
 refine aC ?_
 refine bg (fun h1=>?_) (fun h1=>?_)
 ·have h1d:=bsT h1
  have wx0:=bx.1 h1d
  have G17:=jn h1 @h1d
  refine aa G17 ?_
  refine cv (iD _ _) ?_
  refine rgs G17 (fun h2 h2d G18=>?_) (fun h2 h2d G25=>?_)
  ·have wy0:=bx.1 h2d
   refine aa G18 ?_
   refine cv (iD _ _) ?_
   refine rgs G18 (fun h3 h3d G19=>?_) (fun h3 h3d G24=>?_)
   ·have wx1:=bx.1 h3d
    refine aa G19 ?_
    refine cv (iD _ _) ?_
    refine rgs G19 (fun h4 h4d G20=>?_) (fun h4 h4d G23=>?_)
    ·have wy1:=bx.1 h4d
     refine rgs G20 (fun h5 h5d G21=>?_) (fun h5 h5d G22=>?_)
     ·exact eR G21 hQ hbel (.bool (decide (y0<=y1))) results233 ⟨by (refine congrArg AV.bool ?_;rw[Bool.eq_iff_iff,cS,decide_eq_true_eq];omega),rfl⟩
     exact eR G22 hQ hbel (.bool false) results233 ⟨by (refine congrArg AV.bool ?_;rw[Bool.eq_iff_iff,cS];exact⟨fun e=>(by cases e),fun k=>(by omega)⟩),rfl⟩
    have wy1:¬(-2097152<=y1/\y1<=2097152):=mt bx.2 (by rw[h4d];decide)
    exact eR G23 hQ hbel (.bool false) results233 ⟨by (refine congrArg AV.bool ?_;rw[Bool.eq_iff_iff,cS];exact⟨fun e=>(by cases e),fun k=>(by omega)⟩),rfl⟩
   have wx1:¬(-2097152<=x1/\x1<=2097152):=mt bx.2 (by rw[h3d];decide)
   exact eR G24 hQ hbel (.bool false) results233 ⟨by (refine congrArg AV.bool ?_;rw[Bool.eq_iff_iff,cS];exact⟨fun e=>(by cases e),fun k=>(by omega)⟩),rfl⟩
  have wy0:¬(-2097152<=y0/\y0<=2097152):=mt bx.2 (by rw[h2d];decide)
  exact eR G25 hQ hbel (.bool false) results233 ⟨by (refine congrArg AV.bool ?_;rw[Bool.eq_iff_iff,cS];exact⟨fun e=>(by cases e),fun k=>(by omega)⟩),rfl⟩
 have h1d:=bsT h1
 have wx0:¬(-2097152<=x0/\x0<=2097152):=mt bx.2 (by rw[h1d];decide)
 have G26:=jn h1 @h1d
 exact eR G26 hQ hbel (.bool false) results233 ⟨by (refine congrArg AV.bool ?_;rw[Bool.eq_iff_iff,cS];exact⟨fun e=>(by cases e),fun k=>(by omega)⟩),rfl⟩
theorem dP (H:ac)(p1 p2 q1 q2:Int)(k1 : -8388608<=p1/\p1<=8388608)(k2:1<=p2/\p2<=67108864)(k3 : -8388608<=q1/\q1<=8388608)(k4:1<=q2/\q2<=67108864):zC 247 [.agg [iV p1,iV p2],.agg [iV q1,iV q2]] H (.bool (decide (p1*q2<q1*p2))) H:=by
 have hm1:=aP (a:=p1) (b:=q2) (A:=8388608) (B:=67108864) (by omega) (by omega)
 have hm2:=aP (a:=q1) (b:=p2) (A:=8388608) (B:=67108864) (by omega) (by omega)
 refine AcT true func247 ?_;intro hbel Q hQ
 refine aC ?_
 exact eP hQ hbel (.bool (decide ((p1*q2)<(q1*p2)))) results247 ⟨rfl,rfl⟩
theorem slab_c (H:ac)(S:Fr2×Fr2)(p d a b:Int)(hS:bdSp S)(hp : -2097152<=p/\p<=2097152)(hd : -67108864<=d/\d<=67108864)(ha : -2097152<=a/\a<=2097152)(hb : -2097152<=b/\b<=2097152):ACalls prog 241 [.ptr (some (H.length,0)),iV p,iV d,iV a,iV b] (H++[.cells true 0 [iV S.1.1,iV S.1.2,iV S.2.1,iV S.2.2]]) (fun v H'=>v=.bool (dg S p d a b)/\H'=H++[.cells true 0 [iV ((bA S p d a b).1.1),iV ((bA S p d a b).1.2),iV ((bA S p d a b).2.1),iV ((bA S p d a b).2.2)]]):=by
 obtain⟨⟨hS1,hS2⟩,hS3,hS4⟩:=id hS
 refine AcT true func241 ?_;intro hbel Q hQ
 refine aC ?_
 refine cn (fun h1=>?_) (fun h1=>?_)
 ·have h1d:=bsT h1
  have h1n:=bnT h1
  have hd0:d=0:=by simpa using h1d
  have G27:=jn h1 (jn h1n (jn @aK @aJ))
  refine rgs G27 (fun h2 h2d G28=>?_) (fun h2 h2d G29=>?_)
  ·refine aa G28 ?_
   exact hQ _ _ (e7 (b1:=.cells true 0 [iV S.1.1,iV S.1.2,iV S.2.1,iV S.2.2]) (.inl rfl) hbel (by simp only[ABlk.bel,AV.bels,AV.bel,Bool.true_and]) (x:=.bool (decide (p<=b))) (aU results241) rfl ⟨by (try simp only[Int.zero_sub] at *);(simp[dg,bA,hd0,h2d,h1d];done),by (try simp only[Int.zero_sub] at *);(simp[dg,bA,hd0,h2d,h1d];done)⟩)
  refine aa G29 ?_
  exact hQ _ _ (e7 (b1:=.cells true 0 [iV S.1.1,iV S.1.2,iV S.2.1,iV S.2.2]) (.inl rfl) hbel (by simp only[ABlk.bel,AV.bels,AV.bel,Bool.true_and]) (x:=.bool false) (aU results241) rfl ⟨by (try simp only[Int.zero_sub] at *);(simp[dg,bA,hd0,h2d,h1d];done),by (try simp only[Int.zero_sub] at *);(simp[dg,bA,hd0,h2d,h1d];done)⟩)
 have h1d:=bsT h1
 have h1n:=bnT h1
 have hd0:¬d=0:=by simpa using h1d
 have G30:=jn h1 (jn h1n (jn @aK @aJ))
 refine rcs G30 (fun h3 h3d G31=>?_) (fun h3 h3d G38=>?_)
 ·refine aa G31 ?_
  refine cd (dP _ _ _ _ _ (by omega) (by omega) (by omega) (by omega)) ?_
  refine rcs G31 (fun h4 h4d G32=>?_) (fun h4 h4d G35=>?_)
  ·refine aa G32 ?_
   refine cd (dP _ _ _ _ _ (by omega) (by omega) (by omega) (by omega)) ?_
   refine rcs G32 (fun h5 h5d G33=>?_) (fun h5 h5d G34=>?_)
   ·refine aa G33 ?_
    refine cdr G33 (dP _ _ _ _ _ (by omega) (by omega) (by omega) (by omega)) ?_
    exact hQ _ _ (e7 (b1:=.cells true 0 [iV (p-b),iV (0-d),iV (p-a),iV (0-d)]) (.inl rfl) hbel (by simp only[ABlk.bel,AV.bels,AV.bel,Bool.true_and]) (x:=.bool (!(decide ((p-a)*(0-d)<(p-b)*(0-d))))) (aU results241) rfl ⟨by (try simp only[Int.zero_sub] at *);(simp[dg,bA,mxF,mnF,sbL,sbH,hd0,h3d,h4d,h5d,h1d];done),by (try simp only[Int.zero_sub] at *);(simp[dg,bA,mxF,mnF,sbL,sbH,hd0,h3d,h4d,h5d,h1d];done)⟩)
   refine aa G34 ?_
   refine cdr G34 (dP _ _ _ _ _ (by omega) (by omega) (by omega) (by omega)) ?_
   exact hQ _ _ (e7 (b1:=.cells true 0 [iV (p-b),iV (0-d),iV S.2.1,iV S.2.2]) (.inl rfl) hbel (by simp only[ABlk.bel,AV.bels,AV.bel,Bool.true_and]) (x:=.bool (!(decide (S.2.1*(0-d)<(p-b)*S.2.2)))) (aU results241) rfl ⟨by (try simp only[Int.zero_sub] at *);(simp[dg,bA,mxF,mnF,sbL,sbH,hd0,h3d,h4d,h5d,h1d];done),by (try simp only[Int.zero_sub] at *);(simp[dg,bA,mxF,mnF,sbL,sbH,hd0,h3d,h4d,h5d,h1d];done)⟩)
  refine aa G35 ?_
  refine cd (dP _ _ _ _ _ (by omega) (by omega) (by omega) (by omega)) ?_
  refine rcs G35 (fun h6 h6d G36=>?_) (fun h6 h6d G37=>?_)
  ·refine aa G36 ?_
   refine cdr G36 (dP _ _ _ _ _ (by omega) (by omega) (by omega) (by omega)) ?_
   exact hQ _ _ (e7 (b1:=.cells true 0 [iV S.1.1,iV S.1.2,iV (p-a),iV (0-d)]) (.inl rfl) hbel (by simp only[ABlk.bel,AV.bels,AV.bel,Bool.true_and]) (x:=.bool (!(decide ((p-a)*S.1.2<S.1.1*(0-d))))) (aU results241) rfl ⟨by (try simp only[Int.zero_sub] at *);(simp[dg,bA,mxF,mnF,sbL,sbH,hd0,h3d,h4d,h6d,h1d];done),by (try simp only[Int.zero_sub] at *);(simp[dg,bA,mxF,mnF,sbL,sbH,hd0,h3d,h4d,h6d,h1d];done)⟩)
  refine aa G37 ?_
  refine cdr G37 (dP _ _ _ _ _ (by omega) (by omega) (by omega) (by omega)) ?_
  exact hQ _ _ (e7 (b1:=.cells true 0 [iV S.1.1,iV S.1.2,iV S.2.1,iV S.2.2]) (.inl rfl) hbel (by simp only[ABlk.bel,AV.bels,AV.bel,Bool.true_and]) (x:=.bool (!(decide (S.2.1*S.1.2<S.1.1*S.2.2)))) (aU results241) rfl ⟨by (try simp only[Int.zero_sub] at *);(simp[dg,bA,mxF,mnF,sbL,sbH,hd0,h3d,h4d,h6d,h1d];done),by (try simp only[Int.zero_sub] at *);(simp[dg,bA,mxF,mnF,sbL,sbH,hd0,h3d,h4d,h6d,h1d];done)⟩)
 refine aa G38 ?_
 refine cd (dP _ _ _ _ d (by omega) (by omega) (by omega) (by omega)) ?_
 refine rcs G38 (fun h7 h7d G39=>?_) (fun h7 h7d G42=>?_)
 ·refine aa G39 ?_
  refine cd (dP _ _ d _ _ (by omega) (by omega) (by omega) (by omega)) ?_
  refine rcs G39 (fun h8 h8d G40=>?_) (fun h8 h8d G41=>?_)
  ·refine aa G40 ?_
   refine cdr G40 (dP _ _ d _ d (by omega) (by omega) (by omega) (by omega)) ?_
   exact hQ _ _ (e7 (b1:=.cells true 0 [iV (a-p),iV d,iV (b-p),iV d]) (.inl rfl) hbel (by simp only[ABlk.bel,AV.bels,AV.bel,Bool.true_and]) (x:=.bool (!(decide ((b-p)*d<(a-p)*d)))) (aU results241) rfl ⟨by (try simp only[Int.zero_sub] at *);(simp[dg,bA,mxF,mnF,sbL,sbH,hd0,h3d,h7d,h8d,h1d];done),by (try simp only[Int.zero_sub] at *);(simp[dg,bA,mxF,mnF,sbL,sbH,hd0,h3d,h7d,h8d,h1d];done)⟩)
  refine aa G41 ?_
  refine cdr G41 (dP _ _ _ _ d (by omega) (by omega) (by omega) (by omega)) ?_
  exact hQ _ _ (e7 (b1:=.cells true 0 [iV (a-p),iV d,iV S.2.1,iV S.2.2]) (.inl rfl) hbel (by simp only[ABlk.bel,AV.bels,AV.bel,Bool.true_and]) (x:=.bool (!(decide (S.2.1*d<(a-p)*S.2.2)))) (aU results241) rfl ⟨by (try simp only[Int.zero_sub] at *);(simp[dg,bA,mxF,mnF,sbL,sbH,hd0,h3d,h7d,h8d,h1d];done),by (try simp only[Int.zero_sub] at *);(simp[dg,bA,mxF,mnF,sbL,sbH,hd0,h3d,h7d,h8d,h1d];done)⟩)
 refine aa G42 ?_
 refine cd (dP _ _ d _ _ (by omega) (by omega) (by omega) (by omega)) ?_
 refine rcs G42 (fun h9 h9d G43=>?_) (fun h9 h9d G44=>?_)
 ·refine aa G43 ?_
  refine cdr G43 (dP _ _ d _ _ (by omega) (by omega) (by omega) (by omega)) ?_
  exact hQ _ _ (e7 (b1:=.cells true 0 [iV S.1.1,iV S.1.2,iV (b-p),iV d]) (.inl rfl) hbel (by simp only[ABlk.bel,AV.bels,AV.bel,Bool.true_and]) (x:=.bool (!(decide ((b-p)*S.1.2<S.1.1*d)))) (aU results241) rfl ⟨by (try simp only[Int.zero_sub] at *);(simp[dg,bA,mxF,mnF,sbL,sbH,hd0,h3d,h7d,h9d,h1d];done),by (try simp only[Int.zero_sub] at *);(simp[dg,bA,mxF,mnF,sbL,sbH,hd0,h3d,h7d,h9d,h1d];done)⟩)
 refine aa G44 ?_
 refine cdr G44 (dP _ _ _ _ _ (by omega) (by omega) (by omega) (by omega)) ?_
 exact hQ _ _ (e7 (b1:=.cells true 0 [iV S.1.1,iV S.1.2,iV S.2.1,iV S.2.2]) (.inl rfl) hbel (by simp only[ABlk.bel,AV.bels,AV.bel,Bool.true_and]) (x:=.bool (!(decide (S.2.1*S.1.2<S.1.1*S.2.2)))) (aU results241) rfl ⟨by (try simp only[Int.zero_sub] at *);(simp[dg,bA,mxF,mnF,sbL,sbH,hd0,h3d,h7d,h9d,h1d];done),by (try simp only[Int.zero_sub] at *);(simp[dg,bA,mxF,mnF,sbL,sbH,hd0,h3d,h7d,h9d,h1d];done)⟩)
theorem slab4_c (H:ac)(A B C D:ABlk)(S:Fr2×Fr2)(p d a b:Int)(hS:bdSp S)(hp : -2097152<=p/\p<=2097152)(hd : -67108864<=d/\d<=67108864)(ha : -2097152<=a/\a<=2097152)(hb : -2097152<=b/\b<=2097152):
  ACalls prog 241 [.ptr (some (H.length+4,0)),iV p,iV d,iV a,iV b] (H++[A,B,C,D,.cells true 0 [iV S.1.1,iV S.1.2,iV S.2.1,iV S.2.2]]) (fun v H'=>v=.bool (dg S p d a b)/\H'=H++[A,B,C,D,.cells true 0 [iV (bA S p d a b).1.1,iV (bA S p d a b).1.2,iV (bA S p d a b).2.1,iV (bA S p d a b).2.2]]):=by
 have h:=slab_c (H++[A,B,C,D]) S p d a b hS hp hd ha hb
 simpa only[List.append_assoc,List.cons_append,List.nil_append,List.length_append,List.length_cons,List.length_nil,Nat.zero_add,Nat.reduceAdd] using h
theorem pw (H:ac)(px py vx vy vd x0 y0 x1 y1:Int):zC 224 [.agg [iV px,iV py],.agg [iV vx,iV vy,iV vd],.agg [iV x0,iV y0,iV x1,iV y1]] H (.tup [.agg [iV ((thV px py vx vy vd x0 y0 x1 y1).1.1),iV ((thV px py vx vy vd x0 y0 x1 y1).1.2),iV ((thV px py vx vy vd x0 y0 x1 y1).2.1),iV ((thV px py vx vy vd x0 y0 x1 y1).2.2)],.bool (thO px py vx vy vd x0 y0 x1 y1)]) H:=by
 refine AcT true func224 ?_;intro hbel Q hQ
 refine aC ?_
 refine cv (svpt_c _ _ _) ?_
 refine aC ?_
 refine bg (fun h1=>?_) (fun h1=>?_)
 ·have h1d:=bsT h1
  have hvP:=h1d
  have hvp:=fX.1 h1d
  have G45:=jn h1 @h1d
  refine aa G45 ?_
  refine cv (svv_c _ _ _ _) ?_
  refine rgs G45 (fun h2 h2d G46=>?_) (fun h2 h2d G53=>?_)
  ·have hvV:=h2d
   have hvv:=bj.1 h2d
   refine aa G46 ?_
   refine cv (nz _ _ _ _ _) ?_
   refine rcs G46 (fun h3 h3d G47=>?_) (fun h3 h3d G48=>?_)
   ·have hfinO:thO px py vx vy vd x0 y0 x1 y1=false:=by simp[thO,thG,h3d]
    exact eR G47 hQ hbel (.tup [.agg [iV 0,iV 0,iV 0,iV 0],.bool false]) results224 ⟨by unfold thV;rw[hfinO];rfl,rfl⟩
   have hvr:=cS.1 h3d
   have hgT:thG px py vx vy vd x0 y0 x1 y1=true:=dj.2 ⟨hvP,hvV,h3d⟩
   have hb0:=thS0_bd
   have hb1:=(thS_bd hgT).1
   refine aa G48 ?_
   refine cv (slab4_c _ _ _ _ _ e8 px vx x0 x1 (by assumption) (by omega) (by omega) (by omega) (by omega)) ?_
   refine rgs G48 (fun h4 h4d G49=>?_) (fun h4 h4d G52=>?_)
   ·have hs1:=h4d
    refine aa G49 ?_
    refine cv (slab4_c _ _ _ _ _ (bA e8 px vx x0 x1) py vy y0 y1 (by assumption) (by omega) (by omega) (by omega) (by omega)) ?_
    refine rcs G49 (fun h5 h5d G50=>?_) (fun h5 h5d G51=>?_)
    ·have hfinO:thO px py vx vy vd x0 y0 x1 y1=false:=by simp[thO,thB,h5d]
     exact eR G50 hQ hbel (.tup [.agg [iV 0,iV 0,iV 0,iV 0],.bool false]) results224 ⟨by unfold thV;rw[hfinO];rfl,rfl⟩
    have hfinO:thO px py vx vy vd x0 y0 x1 y1=true:=by unfold thO thB;rw[hgT,hs1,h5d];rfl
    exact eR G51 hQ hbel (.tup [.agg [iV ((bA (bA e8 px vx x0 x1) py vy y0 y1).1.1),iV ((bA (bA e8 px vx x0 x1) py vy y0 y1).1.2),iV ((bA (bA e8 px vx x0 x1) py vy y0 y1).2.1),iV ((bA (bA e8 px vx x0 x1) py vy y0 y1).2.2)],.bool true]) results224 ⟨by unfold thV;rw[hfinO];rfl,rfl⟩
   have hfinO:thO px py vx vy vd x0 y0 x1 y1=false:=by simp[thO,thB,h4d]
   exact eR G52 hQ hbel (.tup [.agg [iV 0,iV 0,iV 0,iV 0],.bool false]) results224 ⟨by unfold thV;rw[hfinO];rfl,rfl⟩
  have hfinO:thO px py vx vy vd x0 y0 x1 y1=false:=by simp[thO,thG,h2d]
  exact eR G53 hQ hbel (.tup [.agg [iV 0,iV 0,iV 0,iV 0],.bool false]) results224 ⟨by unfold thV;rw[hfinO];rfl,rfl⟩
 have h1d:=bsT h1
 have hfinO:thO px py vx vy vd x0 y0 x1 y1=false:=by simp[thO,thG,h1d]
 have G54:=jn h1 @h1d
 exact eR G54 hQ hbel (.tup [.agg [iV 0,iV 0,iV 0,iV 0],.bool false]) results224 ⟨by unfold thV;rw[hfinO];rfl,rfl⟩
theorem pA (H:ac)(px py vx vy vd x0 y0 x1 y1:Int)(h:thO px py vx vy vd x0 y0 x1 y1=true):zC 224 [.agg [iV px,iV py],.agg [iV vx,iV vy,iV vd],.agg [iV x0,iV y0,iV x1,iV y1]] H (.tup [.agg [iV (thS px py vx vy x0 y0 x1 y1).1.1,iV (thS px py vx vy x0 y0 x1 y1).1.2,iV (thS px py vx vy x0 y0 x1 y1).2.1,iV (thS px py vx vy x0 y0 x1 y1).2.2],.bool true]) H:=by
 have q:=pw H px py vx vy vd x0 y0 x1 y1
 simp only[thV,h,if_true] at q;exact q
theorem pB (H:ac)(px py vx vy vd x0 y0 x1 y1:Int)(h:thO px py vx vy vd x0 y0 x1 y1=false):zC 224 [.agg [iV px,iV py],.agg [iV vx,iV vy,iV vd],.agg [iV x0,iV y0,iV x1,iV y1]] H (.tup [.agg [iV 0,iV 0,iV 0,iV 0],.bool false]) H:=by
 have q:=pw H px py vx vy vd x0 y0 x1 y1
 simp only[thV,h,if_false,Bool.false_eq_true] at q;exact q
theorem ja (H:ac)(px py vx vy vd lo hi x0 y0 x1 y1:Int):zC 215 [.agg [iV px,iV py],.agg [iV vx,iV vy,iV vd],iV lo,iV hi,.agg [iV x0,iV y0,iV x1,iV y1]] H (.bool (dr px py vx vy vd lo hi x0 y0 x1 y1)) H:=by
 refine AcT true func215 ?_;intro hbel Q hQ
 refine aC ?_
 refine bg (fun h1=>?_) (fun h1=>?_)
 ·have h1d:=bsT h1
  have G55:=jn h1 @h1d
  refine rgs G55 (fun h2 h2d G56=>?_) (fun h2 h2d G63=>?_)
  ·refine rcs G56 (fun h3 h3d G57=>?_) (fun h3 h3d G58=>?_)
   ·exact eR G57 hQ hbel (.bool false) results215 ⟨by (refine congrArg AV.bool ?_;rw[Bool.eq_iff_iff];unfold dr ic;simp only[Bool.and_eq_true,decide_eq_true_eq];first|(simp only[hfinG,hfinB,true_and];omega)|exact⟨fun e=>(by cases e),fun e=>(by omega)⟩),rfl⟩
   refine aa G58 ?_
   rcases Bool.eq_false_or_eq_true (thO px py vx vy vd x0 y0 x1 y1) with h4|h4
   ·have h4d:=h4
    have hgT:=thO_t h4d
    have hbS:=(thS_bd hgT.1).2
    obtain⟨⟨hb1,hb2⟩,hb3,hb4⟩:=hbS
    have hvT:=bj.1 (dj.1 hgT.1).2.1
    have hm1:=aP (a:=lo) (b:=(thS px py vx vy x0 y0 x1 y1).2.2) (A:=65536) (B:=67108864) (by omega) (by omega)
    have hm2:=aP (a:=(thS px py vx vy x0 y0 x1 y1).2.1) (b:=vd) (A:=8388608) (B:=67108864) (by omega) (by omega)
    have hm3:=aP (a:=(thS px py vx vy x0 y0 x1 y1).1.1) (b:=vd) (A:=8388608) (B:=67108864) (by omega) (by omega)
    have hm4:=aP (a:=hi) (b:=(thS px py vx vy x0 y0 x1 y1).1.2) (A:=65536) (B:=67108864) (by omega) (by omega)
    have hfinG:=hgT.1
    have hfinB:=hgT.2
    refine cv (pA _ _ _ _ _ _ _ _ _ _ (by assumption)) ?_
    have G59:=j2 h4 h4d G58
    refine rgs G59 (fun h5 h5d G60=>?_) (fun h5 h5d G61=>?_)
    ·exact eR G60 hQ hbel (.bool (decide ((((thS px py vx vy x0 y0 x1 y1).1.1)*vd)<=(hi*((thS px py vx vy x0 y0 x1 y1).1.2))))) results215 ⟨by (refine congrArg AV.bool ?_;rw[Bool.eq_iff_iff];unfold dr ic;simp only[Bool.and_eq_true,decide_eq_true_eq];first|(simp only[hfinG,hfinB,true_and];omega)|exact⟨fun e=>(by cases e),fun e=>(by omega)⟩),rfl⟩
    exact eR G61 hQ hbel (.bool false) results215 ⟨by (refine congrArg AV.bool ?_;rw[Bool.eq_iff_iff];unfold dr ic;simp only[Bool.and_eq_true,decide_eq_true_eq];first|(simp only[hfinG,hfinB,true_and];omega)|exact⟨fun e=>(by cases e),fun e=>(by omega)⟩),rfl⟩
   have h4d:=h4
   have hfinN:=(thO_me (lo:=lo) (hi:=hi) h4d).1
   refine cv (pB _ _ _ _ _ _ _ _ _ _ (by assumption)) ?_
   have G62:=j2 h4 h4d G58
   exact eR G62 hQ hbel (.bool false) results215 ⟨by rw[hfinN],rfl⟩
  exact eR G63 hQ hbel (.bool false) results215 ⟨by (refine congrArg AV.bool ?_;rw[Bool.eq_iff_iff];unfold dr ic;simp only[Bool.and_eq_true,decide_eq_true_eq];first|(simp only[hfinG,hfinB,true_and];omega)|exact⟨fun e=>(by cases e),fun e=>(by omega)⟩),rfl⟩
 have h1d:=bsT h1
 have G64:=jn h1 @h1d
 exact eR G64 hQ hbel (.bool false) results215 ⟨by (refine congrArg AV.bool ?_;rw[Bool.eq_iff_iff];unfold dr ic;simp only[Bool.and_eq_true,decide_eq_true_eq];first|(simp only[hfinG,hfinB,true_and];omega)|exact⟨fun e=>(by cases e),fun e=>(by omega)⟩),rfl⟩
theorem eD (H:ac)(px py vx vy vd hi x0 y0 x1 y1:Int):zC 197 [.agg [iV px,iV py],.agg [iV vx,iV vy,iV vd],iV hi,.agg [iV x0,iV y0,iV x1,iV y1]] H (.bool (cX px py vx vy vd hi x0 y0 x1 y1)) H:=by
 refine AcT true func197 ?_;intro hbel Q hQ
 refine aC ?_
 refine bg (fun h1=>?_) (fun h1=>?_)
 ·have h1d:=bsT h1
  have G65:=jn h1 @h1d
  refine rcs G65 (fun h2 h2d G66=>?_) (fun h2 h2d G67=>?_)
  ·exact eR G66 hQ hbel (.bool false) results197 ⟨by (refine congrArg AV.bool ?_;rw[Bool.eq_iff_iff];unfold cX bfrB;simp only[Bool.and_eq_true,decide_eq_true_eq];first|(simp only[hfinG,hfinB,true_and];omega)|exact⟨fun e=>(by cases e),fun e=>(by omega)⟩),rfl⟩
  refine aa G67 ?_
  rcases Bool.eq_false_or_eq_true (thO px py vx vy vd x0 y0 x1 y1) with h3|h3
  ·have h3d:=h3
   have hgT:=thO_t h3d
   have hbS:=(thS_bd hgT.1).2
   obtain⟨⟨hb1,hb2⟩,hb3,hb4⟩:=hbS
   have hvT:=bj.1 (dj.1 hgT.1).2.1
   have hm3:=aP (a:=(thS px py vx vy x0 y0 x1 y1).1.1) (b:=vd) (A:=8388608) (B:=67108864) (by omega) (by omega)
   have hm4:=aP (a:=hi) (b:=(thS px py vx vy x0 y0 x1 y1).1.2) (A:=65536) (B:=67108864) (by omega) (by omega)
   have hfinG:=hgT.1
   have hfinB:=hgT.2
   refine cv (pA _ _ _ _ _ _ _ _ _ _ (by assumption)) ?_
   have G68:=j2 h3 h3d G67
   exact eR G68 hQ hbel (.bool (decide ((((thS px py vx vy x0 y0 x1 y1).1.1)*vd)<(hi*((thS px py vx vy x0 y0 x1 y1).1.2))))) results197 ⟨by (refine congrArg AV.bool ?_;rw[Bool.eq_iff_iff];unfold cX bfrB;simp only[Bool.and_eq_true,decide_eq_true_eq];first|(simp only[hfinG,hfinB,true_and];omega)|exact⟨fun e=>(by cases e),fun e=>(by omega)⟩),rfl⟩
  have h3d:=h3
  have hfinN:=(thO_me (lo:=0) (hi:=hi) h3d).2
  refine cv (pB _ _ _ _ _ _ _ _ _ _ (by assumption)) ?_
  have G69:=j2 h3 h3d G67
  exact eR G69 hQ hbel (.bool false) results197 ⟨by rw[hfinN],rfl⟩
 have h1d:=bsT h1
 have G70:=jn h1 @h1d
 exact eR G70 hQ hbel (.bool false) results197 ⟨by (refine congrArg AV.bool ?_;rw[Bool.eq_iff_iff];unfold cX bfrB;simp only[Bool.and_eq_true,decide_eq_true_eq];first|(simp only[hfinG,hfinB,true_and];omega)|exact⟨fun e=>(by cases e),fun e=>(by omega)⟩),rfl⟩
theorem mD (H:ac)(a0 b0 a1 b1 x0 y0 x1 y1:Int)(kba0 : -1099511627776<=a0/\a0<=1099511627776)(kbb0 : -1099511627776<=b0/\b0<=1099511627776)(kba1 : -1099511627776<=a1/\a1<=1099511627776)(kbb1 : -1099511627776<=b1/\b1<=1099511627776)(kbx0 : -1099511627776<=x0/\x0<=1099511627776)(kby0 : -1099511627776<=y0/\y0<=1099511627776)(kbx1 : -1099511627776<=x1/\x1<=1099511627776)(kby1 : -1099511627776<=y1/\y1<=1099511627776):zC 214 [.agg [iV a0,iV b0,iV a1,iV b1],.agg [iV x0,iV y0,iV x1,iV y1]] H (.tup [.agg [iV (mkV (dc a0 b0 a1 b1 x0 y0 x1 y1) (a0-x1)),iV (mkV (dc a0 b0 a1 b1 x0 y0 x1 y1) (b0-y1)),iV (mkV (dc a0 b0 a1 b1 x0 y0 x1 y1) (a1-x0)),iV (mkV (dc a0 b0 a1 b1 x0 y0 x1 y1) (b1-y0))],.bool (dc a0 b0 a1 b1 x0 y0 x1 y1)]) H:=by
 refine AcT true func214 ?_;intro hbel Q hQ
 refine aC ?_
 refine cv (nz _ _ _ _ _) ?_
 refine aC ?_
 refine bg (fun h1=>?_) (fun h1=>?_)
 ·have h1d:=bsT h1
  have G71:=jn h1 @h1d
  refine aa G71 ?_
  refine cv (nz _ _ _ _ _) ?_
  refine rgs G71 (fun h2 h2d G72=>?_) (fun h2 h2d G75=>?_)
  ·refine aa G72 ?_
   refine cv (nz _ _ _ _ _) ?_
   refine rcs G72 (fun h3 h3d G73=>?_) (fun h3 h3d G74=>?_)
   ·exact eR G73 hQ hbel (.tup [.agg [iV 0,iV 0,iV 0,iV 0],.bool false]) results214 ⟨by simp[dc,mkV,h1d,h2d,h3d],rfl⟩
   exact eR G74 hQ hbel (.tup [.agg [iV (a0-x1),iV (b0-y1),iV (a1-x0),iV (b1-y0)],.bool true]) results214 ⟨by simp[dc,mkV,h1d,h2d,h3d],rfl⟩
  exact eR G75 hQ hbel (.tup [.agg [iV 0,iV 0,iV 0,iV 0],.bool false]) results214 ⟨by simp[dc,mkV,h1d,h2d],rfl⟩
 have h1d:=bsT h1
 have G76:=jn h1 @h1d
 exact eR G76 hQ hbel (.tup [.agg [iV 0,iV 0,iV 0,iV 0],.bool false]) results214 ⟨by simp[dc,mkV,h1d],rfl⟩
theorem f0 (H:ac)(x m:Int)(h:0<=m/\m<=4611686018427387904):zC 195 [iV x,iV m] H (.bool (cR x m)) H:=by
 refine AcT true func195 ?_;intro hbel Q hQ
 refine aC ?_
 refine bg (fun h1=>?_) (fun h1=>?_)
 ·have h1d:=bsT h1
  have G1:=jn h1 @h1d
  exact eS G1 hQ hbel (.bool (decide (x<=m))) results195 ⟨by (simp[cR,h1d];omega),rfl⟩
 have h1d:=bsT h1
 have G2:=jn h1 @h1d
 exact eS G2 hQ hbel (.bool false) results195 ⟨by (simp[cR,h1d];omega),rfl⟩
theorem pvpt_c (H:ac)(x y:Int):zC 194 [.agg [iV x,iV y]] H (.bool (ptB x y)) H:=by
 refine AcT true func194 ?_;intro hbel Q hQ
 refine aC ?_
 refine cv (f0 _ x _ (by decide)) ?_
 refine aC ?_
 refine bg (fun h1=>?_) (fun h1=>?_)
 ·have h1d:=bsT h1
  have G3:=jn h1 @h1d
  refine aa G3 ?_
  refine cvr G3 (f0 _ y _ (by decide)) ?_
  exact eP hQ hbel (.bool (cR y 1048576)) results194 ⟨by simp[ptB,h1d],rfl⟩
 have h1d:=bsT h1
 have G4:=jn h1 @h1d
 exact eR G4 hQ hbel (.bool false) results194 ⟨by simp[ptB,h1d],rfl⟩
theorem pvrc_c (H:ac)(x0 y0 x1 y1:Int):zC 171 [.agg [iV x0,iV y0,iV x1,iV y1]] H (.bool (fL x0 y0 x1 y1)) H:=by
 refine AcT true func171 ?_;intro hbel Q hQ
 refine aC ?_
 refine bg (fun h1=>?_) (fun h1=>?_)
 ·have h1d:=bsT h1
  have G5:=jn h1 @h1d
  refine rgs G5 (fun h2 h2d G6=>?_) (fun h2 h2d G9=>?_)
  ·refine aa G6 ?_
   refine cv (pvpt_c _ _ _) ?_
   refine rgs G6 (fun h3 h3d G7=>?_) (fun h3 h3d G8=>?_)
   ·refine aa G7 ?_
    refine cvr G7 (pvpt_c _ _ _) ?_
    exact eP hQ hbel (.bool (ptB x1 y1)) results171 ⟨by simp[fL,h1d,h2d,h3d],rfl⟩
   exact eR G8 hQ hbel (.bool false) results171 ⟨by simp[fL,h1d,h2d,h3d],rfl⟩
  exact eR G9 hQ hbel (.bool false) results171 ⟨by simp[fL,h1d,h2d],rfl⟩
 have h1d:=bsT h1
 have G10:=jn h1 @h1d
 exact eR G10 hQ hbel (.bool false) results171 ⟨by simp[fL,h1d],rfl⟩
theorem r8right_c (H:ac)(x0 y0 x1 y1:Int):zC 177 [.agg [iV x0,iV y0,iV x1,iV y1]] H (.bool (rgtB x0 y0 x1 y1)) H:=by
 refine AcT true func177 ?_;intro hbel Q hQ
 refine aC ?_
 refine bg (fun h1=>?_) (fun h1=>?_)
 ·have h1d:=bsT h1
  have G11:=jn h1 @h1d
  refine rgs G11 (fun h2 h2d G12=>?_) (fun h2 h2d G19=>?_)
  ·refine rgs G12 (fun h3 h3d G13=>?_) (fun h3 h3d G18=>?_)
   ·refine rgs G13 (fun h4 h4d G14=>?_) (fun h4 h4d G17=>?_)
    ·refine rgs G14 (fun h5 h5d G15=>?_) (fun h5 h5d G16=>?_)
     ·exact eR G15 hQ hbel (.bool (decide (y1<=1048576))) results177 ⟨by simp[rgtB,h1d,h2d,h3d,h4d,h5d],rfl⟩
     exact eR G16 hQ hbel (.bool false) results177 ⟨by simp[rgtB,h1d,h2d,h3d,h4d,h5d],rfl⟩
    exact eR G17 hQ hbel (.bool false) results177 ⟨by simp[rgtB,h1d,h2d,h3d,h4d],rfl⟩
   exact eR G18 hQ hbel (.bool false) results177 ⟨by simp[rgtB,h1d,h2d,h3d],rfl⟩
  exact eR G19 hQ hbel (.bool false) results177 ⟨by simp[rgtB,h1d,h2d],rfl⟩
 have h1d:=bsT h1
 have G20:=jn h1 @h1d
 exact eR G20 hQ hbel (.bool false) results177 ⟨by simp[rgtB,h1d],rfl⟩
theorem span_c (H:ac)(a b:Int)(kba : -2097152<=a/\a<=2097152)(kbb : -2097152<=b/\b<=2097152):zC 213 [iV a,iV b] H (.tup [iV (spl a),iV (sph b)]) H:=by
 refine AcT true func213 ?_;intro hbel Q hQ
 refine aC ?_
 refine cv (lD _ _ _ (by omega) (by omega)) ?_
 refine aC ?_
 refine cv (lD _ b _ (by omega) (by omega)) ?_
 refine aC ?_
 exact eQ hQ hbel (.tup [iV ((0-((0-a)/64))-1),iV (b/64)]) results213 ⟨rfl,rfl⟩
theorem rN (H:ac)(x0 y0 x1 y1:Int)(kbx0 : -2097152<=x0/\x0<=2097152)(kby0 : -2097152<=y0/\y0<=2097152)(kbx1 : -2097152<=x1/\x1<=2097152)(kby1 : -2097152<=y1/\y1<=2097152):zC 180 [.agg [iV x0,iV y0,iV x1,iV y1]] H (.agg [iV (x0/64-1),iV (y0/64-1),iV (x1/64+1),iV (y1/64+1)]) H:=by
 refine AcT true func180 ?_;intro hbel Q hQ
 refine aC ?_
 refine cd (dx _ _ _ (by omega) (by omega)) ?_
 refine aC ?_
 refine cd (dx _ _ _ (by omega) (by omega)) ?_
 refine aC ?_
 refine cd (dx _ _ _ (by omega) (by omega)) ?_
 refine aC ?_
 refine cd (dx _ _ _ (by omega) (by omega)) ?_
 refine aC ?_
 exact eP hQ hbel (.agg [iV ((x0/64)-1),iV ((y0/64)-1),iV ((x1/64)+1),iV ((y1/64)+1)]) results180 ⟨rfl,rfl⟩
theorem cM (H:ac)(x y:Int)(kbx : -2097152<=x/\x<=2097152)(kby : -2097152<=y/\y<=2097152):zC 176 [.agg [iV x,iV y]] H (.agg [iV (x*64),iV (y*64),iV (x*64+64),iV (y*64+64)]) H:=by
 refine AcT true func176 ?_;intro hbel Q hQ
 refine aC ?_
 exact eP hQ hbel (.agg [iV (x*64),iV (y*64),iV ((x*64)+64),iV ((y*64)+64)]) results176 ⟨rfl,rfl⟩
theorem qD {p:Int->Int->Bool}{x0 y0 y:Int}{w n m:Nat}(hn:n<=33000)(hw:w<=33000)(hm:m<=w):(be p x0 w y0 n).length+(rowR p x0 y m).length<=1089033000:=by
 have h1:=jt (p:=p) (x0:=x0) (y0:=y0) (w:=w) n
 have h2:=kf (p:=p) (x0:=x0) (y:=y) m
 have h3:=Nat.mul_le_mul hn hw
 omega
theorem lM {a b:Int}(h : -1050624<=a/\a<=b/\b<=1050625):a/64-1+(arN a b:Int)=b/64+2/\arN a b<=33000/\(-16417<=a/64/\a/64<=16416)/\(-16417<=b/64/\b/64<=16416):=by
 unfold arN;omega
def rngB (lo hi:Int):Bool:=decide (0<=lo)&&(decide (lo<=hi)&&decide (hi<=2048))
def trE (px py vx vy vd lo hi:Int):Int:=if (ptB px py&&da vx vy vd)=true then (if rngB lo hi=true then 0 else 2) else 1
def trL (px py vx vy vd lo hi:Int):List (Int×Int):=mkL (trE px py vx vy vd lo hi) (dI px py px py vx vy vd lo hi)
def eT (x0 y0 x1 y1 vx vy vd lo hi:Int):Int:=if (fL x0 y0 x1 y1&&da vx vy vd)=true then (if rngB lo hi=true then (if 1024<x1-x0\/1024<y1-y0 then 6 else 0) else 2) else 1
def bv (x0 y0 x1 y1 vx vy vd lo hi:Int):List (Int×Int):=mkL (eT x0 y0 x1 y1 vx vy vd lo hi) (dI x0 y0 x1 y1 vx vy vd lo hi)
theorem fo {lo hi:Int}:rngB lo hi=true↔0<=lo/\lo<=hi/\hi<=2048:=by unfold rngB;simp only[Bool.and_eq_true,decide_eq_true_eq]
theorem iE {x y:Int}:ptB x y=true↔(-1048576<=x/\x<=1048576) /\ -1048576<=y/\y<=1048576:=by unfold ptB;rw[Bool.and_eq_true,bx,bx]
theorem trE_1 {px py vx vy vd lo hi:Int}(h:¬(ptB px py=true/\da vx vy vd=true)):trE px py vx vy vd lo hi=1/\trL px py vx vy vd lo hi=[]:=by
 have e:trE px py vx vy vd lo hi=1:=if_neg (by rw[Bool.and_eq_true];exact h)
 exact⟨e,if_neg (by rw[e];decide)⟩
theorem trE_2 {px py vx vy vd lo hi:Int}(h1:ptB px py=true)(h2:da vx vy vd=true)(h:¬(0<=lo/\lo<=hi/\hi<=2048)):trE px py vx vy vd lo hi=2/\trL px py vx vy vd lo hi=[]:=by
 have e:trE px py vx vy vd lo hi=2:=by unfold trE;rw[h1,h2,if_pos (show (true&&true)=true from rfl),if_neg (by rw[fo];exact h)]
 exact⟨e,if_neg (by rw[e];decide)⟩
theorem trE_0 {px py vx vy vd lo hi:Int}(h1:ptB px py=true)(h2:da vx vy vd=true)(h:0<=lo/\lo<=hi/\hi<=2048):trE px py vx vy vd lo hi=0/\trL px py vx vy vd lo hi=dI px py px py vx vy vd lo hi:=by
 have e:trE px py vx vy vd lo hi=0:=by unfold trE;rw[h1,h2,if_pos (show (true&&true)=true from rfl),if_pos (fo.2 h)]
 exact⟨e,if_pos e⟩
theorem nA {x0 y0 x1 y1 vx vy vd lo hi:Int}(h:¬(fL x0 y0 x1 y1=true/\da vx vy vd=true)):eT x0 y0 x1 y1 vx vy vd lo hi=1/\bv x0 y0 x1 y1 vx vy vd lo hi=[]:=by
 have e:eT x0 y0 x1 y1 vx vy vd lo hi=1:=if_neg (by rw[Bool.and_eq_true];exact h)
 exact⟨e,if_neg (by rw[e];decide)⟩
theorem jT {x0 y0 x1 y1 vx vy vd lo hi:Int}(h1:fL x0 y0 x1 y1=true)(h2:da vx vy vd=true)(h:¬(0<=lo/\lo<=hi/\hi<=2048)):eT x0 y0 x1 y1 vx vy vd lo hi=2/\bv x0 y0 x1 y1 vx vy vd lo hi=[]:=by
 have e:eT x0 y0 x1 y1 vx vy vd lo hi=2:=by unfold eT;rw[h1,h2,if_pos (show (true&&true)=true from rfl),if_neg (by rw[fo];exact h)]
 exact⟨e,if_neg (by rw[e];decide)⟩
theorem nB {x0 y0 x1 y1 vx vy vd lo hi:Int}(h1:fL x0 y0 x1 y1=true)(h2:da vx vy vd=true)(h:0<=lo/\lo<=hi/\hi<=2048)(k:1024<x1-x0\/1024<y1-y0):eT x0 y0 x1 y1 vx vy vd lo hi=6/\bv x0 y0 x1 y1 vx vy vd lo hi=[]:=by
 have e:eT x0 y0 x1 y1 vx vy vd lo hi=6:=by unfold eT;rw[h1,h2,if_pos (show (true&&true)=true from rfl),if_pos (fo.2 h),if_pos k]
 exact⟨e,if_neg (by rw[e];decide)⟩
theorem sptE_0 {x0 y0 x1 y1 vx vy vd lo hi:Int}(h1:fL x0 y0 x1 y1=true)(h2:da vx vy vd=true)(h:0<=lo/\lo<=hi/\hi<=2048)(k:¬(1024<x1-x0\/1024<y1-y0)):eT x0 y0 x1 y1 vx vy vd lo hi=0/\bv x0 y0 x1 y1 vx vy vd lo hi=dI x0 y0 x1 y1 vx vy vd lo hi:=by
 have e:eT x0 y0 x1 y1 vx vy vd lo hi=0:=by unfold eT;rw[h1,h2,if_pos (show (true&&true)=true from rfl),if_pos (fo.2 h),if_neg k]
 exact⟨e,if_pos e⟩
theorem qE {x0 y0 x1 y1 vx vy vd lo hi:Int}(hx : -1048576<=x0/\x0<=x1/\x1<=1048576)(hy : -1048576<=y0/\y0<=y1/\y1<=1048576)(hv:da vx vy vd=true)(h:0<=lo/\lo<=hi/\hi<=2048):(dI x0 y0 x1 y1 vx vy vd lo hi).length<=cu (aj x0 vx vd lo hi) (aW x1 vx vd lo hi)*cu (aj y0 vy vd lo hi) (aW y1 vy vd lo hi):=by
 have:=jt (p:=br x0 y0 x1 y1 vx vy vd lo hi) (x0:=spl (aj x0 vx vd lo hi)) (y0:=spl (aj y0 vy vd lo hi)) (w:=cu (aj x0 vx vd lo hi) (aW x1 vx vd lo hi)) (cu (aj y0 vy vd lo hi) (aW y1 vy vd lo hi))
 unfold dI;rw[Nat.mul_comm];exact this
theorem lN {a b n d lo hi:Int}(hd:0<d)(hn : -d<=n/\n<=d)(h0:0<=lo)(hh:lo<=hi)(h1:hi<=2048)(hab:a<=b/\b<=a+1024):cu (aj a n d lo hi) (aW b n d lo hi)<=85:=by
 have r:=fF (a:=a) (b:=b) hd hn h0 hh h1
 unfold cu spl sph;omega
theorem trE_z {px py vx vy vd lo hi:Int}(h:trE px py vx vy vd lo hi=0):ptB px py=true/\da vx vy vd=true/\0<=lo/\lo<=hi/\hi<=2048:=by
 unfold trE at h
 split at h
 ·rename_i hv
  rw[Bool.and_eq_true] at hv
  split at h
  ·rename_i hr;exact⟨hv.1,hv.2,fo.1 hr⟩
  omega
 omega
theorem sptE_z {x0 y0 x1 y1 vx vy vd lo hi:Int}(h:eT x0 y0 x1 y1 vx vy vd lo hi=0):fL x0 y0 x1 y1=true/\da vx vy vd=true/\(0<=lo/\lo<=hi/\hi<=2048)/\¬(1024<x1-x0\/1024<y1-y0):=by
 unfold eT at h
 split at h
 ·rename_i hv
  rw[Bool.and_eq_true] at hv
  split at h
  ·rename_i hr
   split at h
   ·omega
   rename_i hk;exact⟨hv.1,hv.2,fo.1 hr,hk⟩
  omega
 omega
theorem jb (x0 y0 x1 y1 vx vy vd lo hi:Int):(bv x0 y0 x1 y1 vx vy vd lo hi).length<=7225:=by
 unfold bv mkL
 split
 ·rename_i h
  obtain⟨h1,h2,hr,hk⟩:=sptE_z h
  have hq:=iX.1 h1
  have hvv:=bj.1 h2
  have l:=qE hq.1 hq.2 h2 hr
  have c1:=lN (a:=x0) (b:=x1) (n:=vx) (d:=vd) (lo:=lo) (hi:=hi) (by omega) (by omega) hr.1 hr.2.1 hr.2.2 (by omega)
  have c2:=lN (a:=y0) (b:=y1) (n:=vy) (d:=vd) (lo:=lo) (hi:=hi) (by omega) (by omega) hr.1 hr.2.1 hr.2.2 (by omega)
  exact Nat.le_trans l (Nat.mul_le_mul c1 c2)
 simp
theorem lO (px py vx vy vd lo hi:Int):(trL px py vx vy vd lo hi).length<=7225:=by
 unfold trL mkL
 split
 ·rename_i h
  obtain⟨h1,h2,hr⟩:=trE_z h
  have hq:=iE.1 h1
  have hvv:=bj.1 h2
  have l:=qE (x0:=px) (x1:=px) (y0:=py) (y1:=py) (by omega) (by omega) h2 hr
  have c1:=lN (a:=px) (b:=px) (n:=vx) (d:=vd) (lo:=lo) (hi:=hi) (by omega) (by omega) hr.1 hr.2.1 hr.2.2 (by omega)
  have c2:=lN (a:=py) (b:=py) (n:=vy) (d:=vd) (lo:=lo) (hi:=hi) (by omega) (by omega) hr.1 hr.2.1 hr.2.2 (by omega)
  exact Nat.le_trans l (Nat.mul_le_mul c1 c2)
 simp
theorem mE {x0 y0 x1 y1 vx vy vd lo hi:Int}{c:Int×Int}(hx : -1048576<=x0/\x0<=x1/\x1<=1048576)(hy : -1048576<=y0/\y0<=y1/\y1<=1048576)(hv:da vx vy vd=true)(h:0<=lo/\lo<=hi/\hi<=2048):c∈dI x0 y0 x1 y1 vx vy vd lo hi↔br x0 y0 x1 y1 vx vy vd lo hi c.1 c.2=true:=by
 have hvv:=bj.1 hv
 have r1:=fF (a:=x0) (b:=x1) (n:=vx) (d:=vd) (lo:=lo) (hi:=hi) (by omega) (by omega) h.1 h.2.1 h.2.2
 have r2:=fF (a:=y0) (b:=y1) (n:=vy) (d:=vd) (lo:=lo) (hi:=hi) (by omega) (by omega) h.1 h.2.1 h.2.2
 have c1:=fZ (a:=aj x0 vx vd lo hi) (b:=aW x1 vx vd lo hi) (by omega)
 have c2:=fZ (a:=aj y0 vy vd lo hi) (b:=aW y1 vy vd lo hi) (by omega)
 unfold dI
 rw[fT]
 constructor
 ·rintro⟨-,-,k⟩;exact k
 intro k
 obtain⟨⟨k1,k2⟩,k3,k4⟩:=pv hx hy k
 have k1:=nw.2 k1
 have k2:=ny.2 k2
 have k3:=nw.2 k3
 have k4:=ny.2 k4
 exact⟨by omega,by omega,k⟩
theorem swp_bd {x0 y0 x1 y1 vx vy vd lo hi a b:Int}(h:br x0 y0 x1 y1 vx vy vd lo hi a b=true):(-32768<=a/\a<=32768) /\ -32768<=b/\b<=32768:=by
 unfold br dc at h
 simp only[Bool.and_eq_true,cS] at h
 omega
theorem pvv_c (H:ac)(vx vy vd:Int):zC 172 [.agg [iV vx,iV vy,iV vd]] H (.bool (da vx vy vd)) H:=by
 refine AcT true func172 ?_;intro hbel Q hQ
 refine aC ?_
 refine bg (fun h1=>?_) (fun h1=>?_)
 ·have h1d:=bsT h1
  have G1:=jn h1 @h1d
  refine rgs G1 (fun h2 h2d G2=>?_) (fun h2 h2d G7=>?_)
  ·refine aa G2 ?_
   refine cv (f0 _ _ _ (by omega)) ?_
   refine rgs G2 (fun h3 h3d G3=>?_) (fun h3 h3d G6=>?_)
   ·have hwx:=bx.1 h3d
    refine aa G3 ?_
    refine cv (f0 _ _ _ (by omega)) ?_
    refine rgs G3 (fun h4 h4d G4=>?_) (fun h4 h4d G5=>?_)
    ·have hwy:=bx.1 h4d
     have hm1:=aP (a:=vx) (b:=vx) (A:=67108864) (B:=67108864) (by omega) (by omega)
     have hm2:=aP (a:=vy) (b:=vy) (A:=67108864) (B:=67108864) (by omega) (by omega)
     have hm3:=aP (a:=vd) (b:=vd) (A:=67108864) (B:=67108864) (by omega) (by omega)
     exact eR G4 hQ hbel (.bool (((vx*vx)+(vy*vy))==(vd*vd))) results172 ⟨by (refine congrArg AV.bool ?_;rw[Bool.eq_iff_iff,bj,beq_iff_eq];exact⟨fun e=>⟨⟨by omega,by omega⟩,⟨by omega,by omega⟩,⟨by omega,by omega⟩,e⟩,fun e=>e.2.2.2⟩),rfl⟩
    have hwy:¬(-vd<=vy/\vy<=vd):=mt bx.2 (by rw[h4d];decide)
    exact eR G5 hQ hbel (.bool false) results172 ⟨by (refine congrArg AV.bool ?_;rw[Bool.eq_iff_iff,bj];exact⟨fun e=>(by cases e),fun k=>(by omega)⟩),rfl⟩
   have hwx:¬(-vd<=vx/\vx<=vd):=mt bx.2 (by rw[h3d];decide)
   exact eR G6 hQ hbel (.bool false) results172 ⟨by (refine congrArg AV.bool ?_;rw[Bool.eq_iff_iff,bj];exact⟨fun e=>(by cases e),fun k=>(by omega)⟩),rfl⟩
  exact eR G7 hQ hbel (.bool false) results172 ⟨by (refine congrArg AV.bool ?_;rw[Bool.eq_iff_iff,bj];exact⟨fun e=>(by cases e),fun k=>(by omega)⟩),rfl⟩
 have h1d:=bsT h1
 have G8:=jn h1 @h1d
 exact eR G8 hQ hbel (.bool false) results172 ⟨by (refine congrArg AV.bool ?_;rw[Bool.eq_iff_iff,bj];exact⟨fun e=>(by cases e),fun k=>(by omega)⟩),rfl⟩
theorem jy (H:ac)(x y:Int)(kbx : -2097152<=x/\x<=2097152)(kby : -2097152<=y/\y<=2097152):zC 196 [.agg [iV x,iV y]] H (.agg [iV (x*64),iV (y*64),iV (x*64+64),iV (y*64+64)]) H:=by
 refine AcT true func196 ?_;intro hbel Q hQ
 refine aC ?_
 exact eP hQ hbel (.agg [iV (x*64),iV (y*64),iV ((x*64)+64),iV ((y*64)+64)]) results196 ⟨rfl,rfl⟩
theorem reach_c (H:ac)(a b n d lo hi:Int)(ha : -1048576<=a/\a<=1048576)(hb : -1048576<=b/\b<=1048576)(hd:1<=d/\d<=67108864)(hn : -d<=n/\n<=d)(h0:0<=lo)(hh:lo<=hi)(h1:hi<=2048):zC 212 [iV a,iV b,iV n,iV d,iV lo,iV hi] H (.tup [iV (aj a n d lo hi),iV (aW b n d lo hi)]) H:=by
 have hm1:=aP (a:=lo) (b:=n) (A:=2048) (B:=67108864) (by omega) (by omega)
 have hm2:=aP (a:=hi) (b:=n) (A:=2048) (B:=67108864) (by omega) (by omega)
 have hr:=fF (a:=a) (b:=b) (n:=n) (d:=d) (lo:=lo) (hi:=hi) (by omega) hn h0 hh h1
 unfold aj aW at hr
 have hmn : -137438953472<=(if hi*n<lo*n then hi*n else lo*n)/\(if hi*n<lo*n then hi*n else lo*n)<=137438953472:=by split<;>omega
 have hmx : -137438953472<=(if lo*n<hi*n then hi*n else lo*n)/\(if lo*n<hi*n then hi*n else lo*n)<=137438953472:=by split<;>omega
 refine AcT true func212 ?_;intro hbel Q hQ
 refine aC ?_
 refine cv (lD _ _ d (by omega) (by omega)) ?_
 refine aC ?_
 refine cv (lD _ _ d (by omega) (by omega)) ?_
 refine aC ?_
 exact eQ hQ hbel (.tup [iV (a+((if (hi*n)<(lo*n) then (hi*n) else (lo*n))/d)),iV ((b+((if (lo*n)<(hi*n) then (hi*n) else (lo*n))/d))+1)]) results212 ⟨rfl,rfl⟩
theorem qF (H:ac)(x0 y0 x1 y1 vx vy vd lo hi:Int)(hx : -1048576<=x0/\x0<=x1/\x1<=1048576)(hy : -1048576<=y0/\y0<=y1/\y1<=1048576)(hv:da vx vy vd=true)(hl:0<=lo/\lo<=hi/\hi<=2048):zC 173 [.agg [iV x0,iV y0,iV x1,iV y1],.agg [iV vx,iV vy,iV vd],iV lo,iV hi] H (.sl (some (H.length,0)) ((dI x0 y0 x1 y1 vx vy vd lo hi).length) (aS (dI x0 y0 x1 y1 vx vy vd lo hi).length)) (H++[.cells (aI (dI x0 y0 x1 y1 vx vy vd lo hi).length) 2 (prs (dI x0 y0 x1 y1 vx vy vd lo hi))]):=by
 have hvv:=bj.1 hv
 have hrx:=fF (a:=x0) (b:=x1) (n:=vx) (d:=vd) (lo:=lo) (hi:=hi) (by omega) (by omega) (by omega) (by omega) (by omega)
 have hry:=fF (a:=y0) (b:=y1) (n:=vy) (d:=vd) (lo:=lo) (hi:=hi) (by omega) (by omega) (by omega) (by omega) (by omega)
 have hcx:=fZ (a:=(aj x0 vx vd lo hi)) (b:=(aW x1 vx vd lo hi)) (by omega)
 have hcy:=fZ (a:=(aj y0 vy vd lo hi)) (b:=(aW y1 vy vd lo hi)) (by omega)
 refine AcL true func173 ?_;intro hbel Q hQ
 refine aC ?_
 refine cv (reach_c _ _ _ _ _ _ _ (by omega) (by omega) (by omega) (by omega) (by omega) (by omega) (by omega)) ?_
 refine aC ?_
 refine cv (reach_c _ _ _ _ _ _ _ (by omega) (by omega) (by omega) (by omega) (by omega) (by omega) (by omega)) ?_
 refine aC ?_
 refine cv (span_c _ _ _ (by omega) (by omega)) ?_
 refine aC ?_
 refine cv (span_c _ _ _ (by omega) (by omega)) ?_
 refine aC ?_
 refine go_loopA (fun k F Hx=>∃n:Nat,n+k=cu (aj y0 vy vd lo hi) (aW y1 vy vd lo hi)/\F=[(2,iV lo),(3,iV hi),(4,.ptr (some (H.length,0))),(5,.ptr (some (H.length+1,0))),(13,iV (spl (aj x0 vx vd lo hi))),(14,iV (sph (aW x1 vx vd lo hi))),(16,iV (sph (aW y1 vy vd lo hi))),(17,.sl (some (H.length+2,0)) ((be (br x0 y0 x1 y1 vx vy vd lo hi) (spl (aj x0 vx vd lo hi)) (cu (aj x0 vx vd lo hi) (aW x1 vx vd lo hi)) (spl (aj y0 vy vd lo hi)) n).length) (aS (be (br x0 y0 x1 y1 vx vy vd lo hi) (spl (aj x0 vx vd lo hi)) (cu (aj x0 vx vd lo hi) (aW x1 vx vd lo hi)) (spl (aj y0 vy vd lo hi)) n).length)),(18,iV ((spl (aj y0 vy vd lo hi))+(n:Int)))]/\Hx=H++[.cells true 0 [iV x0,iV y0,iV x1,iV y1],.cells true 0 [iV vx,iV vy,iV vd],.cells (aI (be (br x0 y0 x1 y1 vx vy vd lo hi) (spl (aj x0 vx vd lo hi)) (cu (aj x0 vx vd lo hi) (aW x1 vx vd lo hi)) (spl (aj y0 vy vd lo hi)) n).length) 2 (prs (be (br x0 y0 x1 y1 vx vy vd lo hi) (spl (aj x0 vx vd lo hi)) (cu (aj x0 vx vd lo hi) (aW x1 vx vd lo hi)) (spl (aj y0 vy vd lo hi)) n))]) (cu (aj y0 vy vd lo hi) (aW y1 vy vd lo hi)) ?_ ?_
 ·refine⟨_,_,_,⟨0,by omega,rfl,rfl⟩,Abs.byG hbel [.cells false 2 []] rfl [0,1,2] (by decide) ?_⟩
  exact al (jn @oe (jn @Int.natCast_zero @Int.add_zero))
 rintro k0 F Hx ⟨n,hm0,rfl,rfl⟩ Q1 hJ0 hr1 he1
 have hQ1:=fun F H' h=>hr1 F H' (hQ F H' h)
 refine zQT hQ1 fun Q2 hn2 hQ2 he2=>?_
 have G9:=jn @ba @cp
 refine rcs G9 (fun h1 h1d G10=>?_) (fun h1 h1d G17=>?_)
 ·refine aa G10 ?_
  refine hn2 _ _ (sqR hQ1 fun Q3 hn3 hQ3 he3=>?_)
  refine bkR hQ3 fun Q4 hn4 hQ4 he4 hb4=>?_
  refine zQT hQ4 fun Q5 hn5 hQ5 he5=>?_
  refine aa G10 ?_
  refine hn5 _ _ ?_
  refine bkR hQ4 fun Q6 hn6 hQ6 he6 hb6=>?_
  refine cW (fun k F Hx=>∃m:Nat,m+k=(cu (aj x0 vx vd lo hi) (aW x1 vx vd lo hi))/\F=[(2,iV lo),(3,iV hi),(4,.ptr (some (H.length,0))),(5,.ptr (some (H.length+1,0))),(13,iV (spl (aj x0 vx vd lo hi))),(14,iV (sph (aW x1 vx vd lo hi))),(16,iV (sph (aW y1 vy vd lo hi))),(17,.sl (some (H.length+2,0)) ((be (br x0 y0 x1 y1 vx vy vd lo hi) (spl (aj x0 vx vd lo hi)) (cu (aj x0 vx vd lo hi) (aW x1 vx vd lo hi)) (spl (aj y0 vy vd lo hi)) n++rowR (br x0 y0 x1 y1 vx vy vd lo hi) (spl (aj x0 vx vd lo hi)) ((spl (aj y0 vy vd lo hi))+(n:Int)) m).length) (aS (be (br x0 y0 x1 y1 vx vy vd lo hi) (spl (aj x0 vx vd lo hi)) (cu (aj x0 vx vd lo hi) (aW x1 vx vd lo hi)) (spl (aj y0 vy vd lo hi)) n++rowR (br x0 y0 x1 y1 vx vy vd lo hi) (spl (aj x0 vx vd lo hi)) ((spl (aj y0 vy vd lo hi))+(n:Int)) m).length)),(18,iV ((spl (aj y0 vy vd lo hi))+(n:Int))),(19,iV ((spl (aj x0 vx vd lo hi))+(m:Int)))]/\Hx=H++[.cells true 0 [iV x0,iV y0,iV x1,iV y1],.cells true 0 [iV vx,iV vy,iV vd],.cells (aI (be (br x0 y0 x1 y1 vx vy vd lo hi) (spl (aj x0 vx vd lo hi)) (cu (aj x0 vx vd lo hi) (aW x1 vx vd lo hi)) (spl (aj y0 vy vd lo hi)) n++rowR (br x0 y0 x1 y1 vx vy vd lo hi) (spl (aj x0 vx vd lo hi)) ((spl (aj y0 vy vd lo hi))+(n:Int)) m).length) 2 (prs (be (br x0 y0 x1 y1 vx vy vd lo hi) (spl (aj x0 vx vd lo hi)) (cu (aj x0 vx vd lo hi) (aW x1 vx vd lo hi)) (spl (aj y0 vy vd lo hi)) n++rowR (br x0 y0 x1 y1 vx vy vd lo hi) (spl (aj x0 vx vd lo hi)) ((spl (aj y0 vy vd lo hi))+(n:Int)) m))]) ((cu (aj x0 vx vd lo hi) (aW x1 vx vd lo hi))) ?_ ?_
  ·refine⟨_,_,_,⟨0,by omega,rfl,rfl⟩,bS hbel [0,1,2] (al (jn @rowR_0 (jn @List.append_nil.{0} (jn @Int.natCast_zero @Int.add_zero))))⟩
  rintro k1 F Hx ⟨m,hm1,rfl,rfl⟩ Q7 hJ1 hr7 he7
  have hQ7:=fun F H' h=>hr7 F H' (hQ6 F H' h)
  refine zQT hQ7 fun Q8 hn8 hQ8 he8=>?_
  refine rcs G10 (fun h2 h2d G11=>?_) (fun h2 h2d G16=>?_)
  ·have hgb:=qD (p:=(br x0 y0 x1 y1 vx vy vd lo hi)) (x0:=(spl (aj x0 vx vd lo hi))) (y0:=(spl (aj y0 vy vd lo hi))) (y:=(spl (aj y0 vy vd lo hi))+(n:Int)) (w:=(cu (aj x0 vx vd lo hi) (aW x1 vx vd lo hi))) (n:=n) (m:=m) (by omega) (by omega) (by omega)
   refine aa G11 ?_
   refine hn8 _ _ (sqR hQ7 fun Q9 hn9 hQ9 he9=>?_)
   refine bkR hQ9 fun Q10 hn10 hQ10 he10 hb10=>?_
   refine zQT hQ10 fun Q11 hn11 hQ11 he11=>?_
   refine aa G11 ?_
   refine hn11 _ _ ?_
   refine aL true try_mixed [[0,1,2,3,4,5,6,7,8,9],[0,1,2,7,3,4,5,6,8,9],[0,2,7,1,3,4,5,6,8,9]] (by kernel_rfl) (fun F2 H2=>F2=[(2,iV lo),(3,iV hi),(4,.ptr (some (H.length,0))),(5,.ptr (some (H.length+1,0))),(13,iV (spl (aj x0 vx vd lo hi))),(14,iV (sph (aW x1 vx vd lo hi))),(16,iV (sph (aW y1 vy vd lo hi))),(17,.sl (some (H.length+2,0)) ((be (br x0 y0 x1 y1 vx vy vd lo hi) (spl (aj x0 vx vd lo hi)) (cu (aj x0 vx vd lo hi) (aW x1 vx vd lo hi)) (spl (aj y0 vy vd lo hi)) n++rowR (br x0 y0 x1 y1 vx vy vd lo hi) (spl (aj x0 vx vd lo hi)) ((spl (aj y0 vy vd lo hi))+(n:Int)) m).length) (aS (be (br x0 y0 x1 y1 vx vy vd lo hi) (spl (aj x0 vx vd lo hi)) (cu (aj x0 vx vd lo hi) (aW x1 vx vd lo hi)) (spl (aj y0 vy vd lo hi)) n++rowR (br x0 y0 x1 y1 vx vy vd lo hi) (spl (aj x0 vx vd lo hi)) ((spl (aj y0 vy vd lo hi))+(n:Int)) m).length)),(18,iV ((spl (aj y0 vy vd lo hi))+(n:Int))),(19,iV ((spl (aj x0 vx vd lo hi))+(m:Int))),(20,.ptr (some (H.length+3,0))),(21,.ptr (some (H.length+4,0))),(22,.bool (dc (((spl (aj x0 vx vd lo hi))+(m:Int))*64) (((spl (aj y0 vy vd lo hi))+(n:Int))*64) (((spl (aj x0 vx vd lo hi))+(m:Int))*64+64) (((spl (aj y0 vy vd lo hi))+(n:Int))*64+64) x0 y0 x1 y1))]/\H2=H++[.cells true 0 [iV x0,iV y0,iV x1,iV y1],.cells true 0 [iV vx,iV vy,iV vd],.cells (aI (be (br x0 y0 x1 y1 vx vy vd lo hi) (spl (aj x0 vx vd lo hi)) (cu (aj x0 vx vd lo hi) (aW x1 vx vd lo hi)) (spl (aj y0 vy vd lo hi)) n++rowR (br x0 y0 x1 y1 vx vy vd lo hi) (spl (aj x0 vx vd lo hi)) ((spl (aj y0 vy vd lo hi))+(n:Int)) m).length) 2 (prs (be (br x0 y0 x1 y1 vx vy vd lo hi) (spl (aj x0 vx vd lo hi)) (cu (aj x0 vx vd lo hi) (aW x1 vx vd lo hi)) (spl (aj y0 vy vd lo hi)) n++rowR (br x0 y0 x1 y1 vx vy vd lo hi) (spl (aj x0 vx vd lo hi)) ((spl (aj y0 vy vd lo hi))+(n:Int)) m)),.cells true 0 [iV ((spl (aj x0 vx vd lo hi))+(m:Int)),iV ((spl (aj y0 vy vd lo hi))+(n:Int))],.cells true 0 [iV (mkV (dc (((spl (aj x0 vx vd lo hi))+(m:Int))*64) (((spl (aj y0 vy vd lo hi))+(n:Int))*64) (((spl (aj x0 vx vd lo hi))+(m:Int))*64+64) (((spl (aj y0 vy vd lo hi))+(n:Int))*64+64) x0 y0 x1 y1) ((((spl (aj x0 vx vd lo hi))+(m:Int))*64)-x1)),iV (mkV (dc (((spl (aj x0 vx vd lo hi))+(m:Int))*64) (((spl (aj y0 vy vd lo hi))+(n:Int))*64) (((spl (aj x0 vx vd lo hi))+(m:Int))*64+64) (((spl (aj y0 vy vd lo hi))+(n:Int))*64+64) x0 y0 x1 y1) ((((spl (aj y0 vy vd lo hi))+(n:Int))*64)-y1)),iV (mkV (dc (((spl (aj x0 vx vd lo hi))+(m:Int))*64) (((spl (aj y0 vy vd lo hi))+(n:Int))*64) (((spl (aj x0 vx vd lo hi))+(m:Int))*64+64) (((spl (aj y0 vy vd lo hi))+(n:Int))*64+64) x0 y0 x1 y1) ((((spl (aj x0 vx vd lo hi))+(m:Int))*64+64)-x0)),iV (mkV (dc (((spl (aj x0 vx vd lo hi))+(m:Int))*64) (((spl (aj y0 vy vd lo hi))+(n:Int))*64) (((spl (aj x0 vx vd lo hi))+(m:Int))*64+64) (((spl (aj y0 vy vd lo hi))+(n:Int))*64+64) x0 y0 x1 y1) ((((spl (aj y0 vy vd lo hi))+(n:Int))*64+64)-y0))]]) ?_ ?_
   ·refine af ?_ (af ?_ (af ?_ (aQ)))<;>intro J hJ
    ·refine ag G11 ?_
     refine cd (jy _ _ _ (by omega) (by omega)) ?_
     refine ag G11 ?_
     refine cd (mD _ _ _ _ _ _ _ _ _ (by omega) (by omega) (by omega) (by omega) (by omega) (by omega) (by omega) (by omega)) ?_
     refine ag G11 ?_
     refine ai (hJ _ _ ⟨_,_,_,⟨rfl,rfl⟩,bS hbel [0,1,2,3,4] dS⟩)
    ·refine ag G11 ?_
     refine cd (jy _ _ _ (by omega) (by omega)) ?_
     refine ag G11 ?_
     refine cd (mD _ _ _ _ _ _ _ _ _ (by omega) (by omega) (by omega) (by omega) (by omega) (by omega) (by omega) (by omega)) ?_
     refine ag G11 ?_
     refine ai (hJ _ _ ⟨_,_,_,⟨rfl,rfl⟩,bS hbel [0,1,2,3,4] dS⟩)
    refine ag G11 ?_
    refine cd (jy _ _ _ (by omega) (by omega)) ?_
    refine ag G11 ?_
    refine cd (mD _ _ _ _ _ _ _ _ _ (by omega) (by omega) (by omega) (by omega) (by omega) (by omega) (by omega) (by omega)) ?_
    refine ag G11 ?_
    refine ai (hJ _ _ ⟨_,_,_,⟨rfl,rfl⟩,bS hbel [0,1,2,3,4] dS⟩)
   rintro F2 H2 ⟨rfl,rfl⟩
   refine fnT ?_
   refine rgs G11 (fun h3 h3d G12=>?_) (fun h3 h3d G15=>?_)
   ·have hmn:=h3d
    refine aa G12 ?_
    refine cv (ja _ 0 0 _ _ _ _ _ _ _ _ _) ?_
    refine rcs G12 (fun h4 h4d _=>?_) (fun h4 h4d G14=>?_)
    ·have hov:br x0 y0 x1 y1 vx vy vd lo hi ((spl (aj x0 vx vd lo hi))+(m:Int)) ((spl (aj y0 vy vd lo hi))+(n:Int))=true:=by have q:=h4d;unfold br;rw[hmn];exact q
     have G13:=jn h4 (jn h4d (jn @cH G12))
     refine aa G13 ?_
     refine hn10 _ _ ?_
     refine hn9 _ _ ?_
     refine fnT ?_
     refine aa G13 ?_
     refine hJ1 _ _ ⟨k1-1,by omega,_,_,_,⟨m+1,by omega,rfl,rfl⟩,bS hbel [0,1,6] (al (jn @rowR.eq_2 (jn @hov (jn @if_true.{1} (jn @if_false.{1} (jn @Bool.false_eq_true (jn @List.append_nil.{0} (jn @List.append_assoc.{0} (jn @Int.natCast_add (jn @Int.natCast_one @Int.add_assoc))))))))))⟩
    have hov:br x0 y0 x1 y1 vx vy vd lo hi ((spl (aj x0 vx vd lo hi))+(m:Int)) ((spl (aj y0 vy vd lo hi))+(n:Int))=false:=by have q:=h4d;unfold br;rw[hmn];exact q
    refine aa G14 ?_
    refine hn10 _ _ ?_
    refine hn9 _ _ ?_
    refine fnT ?_
    refine aa G14 ?_
    refine hJ1 _ _ ⟨k1-1,by omega,_,_,_,⟨m+1,by omega,rfl,rfl⟩,bS hbel [0,1,2] (al (jn @rowR.eq_2 (jn @hov (jn @if_true.{1} (jn @if_false.{1} (jn @Bool.false_eq_true (jn @List.append_nil.{0} (jn @List.append_assoc.{0} (jn @Int.natCast_add (jn @Int.natCast_one @Int.add_assoc))))))))))⟩
   have hov:br x0 y0 x1 y1 vx vy vd lo hi ((spl (aj x0 vx vd lo hi))+(m:Int)) ((spl (aj y0 vy vd lo hi))+(n:Int))=false:=by unfold br;rw[h3d];rfl
   refine aa G15 ?_
   refine hn10 _ _ ?_
   refine hn9 _ _ ?_
   refine fnT ?_
   refine aa G15 ?_
   refine hJ1 _ _ ⟨k1-1,by omega,_,_,_,⟨m+1,by omega,rfl,rfl⟩,bS hbel [0,1,2] (al (jn @rowR.eq_2 (jn @hov (jn @if_true.{1} (jn @if_false.{1} (jn @Bool.false_eq_true (jn @List.append_nil.{0} (jn @List.append_assoc.{0} (jn @Int.natCast_add (jn @Int.natCast_one @Int.add_assoc))))))))))⟩
  obtain rfl:m=(cu (aj x0 vx vd lo hi) (aW x1 vx vd lo hi)):=by omega
  refine aa G16 ?_
  refine he8 _ _ _ ?_
  refine he7 _ _ _ ?_
  refine hb6 _ _ ?_
  refine hn4 _ _ ?_
  refine hn3 _ _ ?_
  refine fnT ?_
  refine aa G16 ?_
  refine hJ0 _ _ ⟨k0-1,by omega,_,_,_,⟨n+1,by omega,rfl,rfl⟩,bS hbel [0,1,2] (al (jn @od (jn @Int.natCast_add (jn @Int.natCast_one @Int.add_assoc))))⟩
 obtain rfl:n=cu (aj y0 vy vd lo hi) (aW y1 vy vd lo hi):=by omega
 refine aa G17 ?_
 refine he2 _ _ _ ?_
 refine he1 _ _ _ ?_
 refine aa G17 ?_
 refine hQ _ _ (aM (.inl rfl) hbel (x1:=.sl (some (H.length+2,0)) ((be (br x0 y0 x1 y1 vx vy vd lo hi) (spl (aj x0 vx vd lo hi)) (cu (aj x0 vx vd lo hi) (aW x1 vx vd lo hi)) (spl (aj y0 vy vd lo hi)) (cu (aj y0 vy vd lo hi) (aW y1 vy vd lo hi))).length) (aS (be (br x0 y0 x1 y1 vx vy vd lo hi) (spl (aj x0 vx vd lo hi)) (cu (aj x0 vx vd lo hi) (aW x1 vx vd lo hi)) (spl (aj y0 vy vd lo hi)) (cu (aj y0 vy vd lo hi) (aW y1 vy vd lo hi))).length)) (l2:=[.cells (aI (be (br x0 y0 x1 y1 vx vy vd lo hi) (spl (aj x0 vx vd lo hi)) (cu (aj x0 vx vd lo hi) (aW x1 vx vd lo hi)) (spl (aj y0 vy vd lo hi)) (cu (aj y0 vy vd lo hi) (aW y1 vy vd lo hi))).length) 2 (prs (be (br x0 y0 x1 y1 vx vy vd lo hi) (spl (aj x0 vx vd lo hi)) (cu (aj x0 vx vd lo hi) (aW x1 vx vd lo hi)) (spl (aj y0 vy vd lo hi)) (cu (aj y0 vy vd lo hi) (aW y1 vy vd lo hi))))]) (.sl (some (H.length,0)) ((be (br x0 y0 x1 y1 vx vy vd lo hi) (spl (aj x0 vx vd lo hi)) (cu (aj x0 vx vd lo hi) (aW x1 vx vd lo hi)) (spl (aj y0 vy vd lo hi)) (cu (aj y0 vy vd lo hi) (aW y1 vy vd lo hi))).length) (aS (be (br x0 y0 x1 y1 vx vy vd lo hi) (spl (aj x0 vx vd lo hi)) (cu (aj x0 vx vd lo hi) (aW x1 vx vd lo hi)) (spl (aj y0 vy vd lo hi)) (cu (aj y0 vy vd lo hi) (aW y1 vy vd lo hi))).length)) (aU results173) [] rfl [2] (by decide) ⟨rfl,rfl⟩ ?_)
 exact ar
theorem mF (H:ac)(px py vx vy vd lo hi:Int):zC 160 [.agg [iV px,iV py],.agg [iV vx,iV vy,iV vd],iV lo,iV hi] H (.tup [.sl (some (H.length,0)) ((trL px py vx vy vd lo hi).length) (aS (trL px py vx vy vd lo hi).length),iV (trE px py vx vy vd lo hi)]) (H++[.cells (aI (trL px py vx vy vd lo hi).length) 2 (prs (trL px py vx vy vd lo hi))]):=by
 refine AcT true func160 ?_;intro hbel Q hQ
 refine aC ?_
 refine cv (pvpt_c _ _ _) ?_
 refine aC ?_
 refine bg (fun h1=>?_) (fun h1=>?_)
 ·have h1d:=bsT h1
  have hp1:=h1d
  have hp2:=iE.1 hp1
  have G18:=jn h1 @h1d
  refine aa G18 ?_
  refine cv (pvv_c _ _ _ _) ?_
  refine rcs G18 (fun h2 h2d G19=>?_) (fun h2 h2d G20=>?_)
  ·have hz:=trE_1 (px:=px) (py:=py) (vx:=vx) (vy:=vy) (vd:=vd) (lo:=lo) (hi:=hi) (fun hh=>by rw[h2d] at hh;exact absurd hh.2 (by decide))
   have hfinE:=hz.1
   have hfinL:=hz.2
   refine aa G19 ?_
   refine hQ _ _ (aM (.inl rfl) hbel (x1:=.tup [.sl none 0 (some 0),iV 1]) (l2:=[.cells false 2 []]) (.tup [.sl (some (H.length,0)) 0 (some 0),iV 1]) (aU results160) [.cells false 2 []] rfl [2] (by decide) ⟨by (rw[hfinL,hfinE];rfl),by (rw[hfinL];rfl)⟩ ?_)
   exact ar
  have hv:=h2d
  refine rgs G20 (fun h3 h3d G21=>?_) (fun h3 h3d G26=>?_)
  ·refine rgs G21 (fun h4 h4d G22=>?_) (fun h4 h4d G25=>?_)
   ·refine rcs G22 (fun h5 h5d G23=>?_) (fun h5 h5d G24=>?_)
    ·have hz:=trE_2 (lo:=lo) (hi:=hi) hp1 hv (by omega)
     have hfinE:=hz.1
     have hfinL:=hz.2
     refine aa G23 ?_
     refine hQ _ _ (aM (.inl rfl) hbel (x1:=.tup [.sl none 0 (some 0),iV 2]) (l2:=[.cells false 2 []]) (.tup [.sl (some (H.length,0)) 0 (some 0),iV 2]) (aU results160) [.cells false 2 []] rfl [2] (by decide) ⟨by (rw[hfinL,hfinE];rfl),by (rw[hfinL];rfl)⟩ ?_)
     exact ar
    have hlh:0<=lo/\lo<=hi/\hi<=2048:=by omega
    have hz:=trE_0 hp1 hv hlh
    have hfinE:=hz.1
    have hfinL:=hz.2
    refine aa G24 ?_
    refine cvr G24 (qF _ _ _ _ _ _ _ _ _ _ (by omega) (by omega) (by assumption) (by omega)) ?_
    refine hQ _ _ (aM (.inl rfl) hbel (x1:=.tup [.sl (some (H.length+2,0)) ((dI px py px py vx vy vd lo hi).length) (aS (dI px py px py vx vy vd lo hi).length),iV 0]) (l2:=[.cells (aI (dI px py px py vx vy vd lo hi).length) 2 (prs (dI px py px py vx vy vd lo hi))]) (.tup [.sl (some (H.length,0)) ((dI px py px py vx vy vd lo hi).length) (aS (dI px py px py vx vy vd lo hi).length),iV 0]) (aU results160) [] rfl [2] (by decide) ⟨by rw[hfinL,hfinE],by rw[hfinL]⟩ ?_)
    exact ar
   have hz:=trE_2 (lo:=lo) (hi:=hi) hp1 hv (by omega)
   have hfinE:=hz.1
   have hfinL:=hz.2
   refine aa G25 ?_
   refine hQ _ _ (aM (.inl rfl) hbel (x1:=.tup [.sl none 0 (some 0),iV 2]) (l2:=[.cells false 2 []]) (.tup [.sl (some (H.length,0)) 0 (some 0),iV 2]) (aU results160) [.cells false 2 []] rfl [2] (by decide) ⟨by (rw[hfinL,hfinE];rfl),by (rw[hfinL];rfl)⟩ ?_)
   exact ar
  have hz:=trE_2 (lo:=lo) (hi:=hi) hp1 hv (by omega)
  have hfinE:=hz.1
  have hfinL:=hz.2
  refine aa G26 ?_
  refine hQ _ _ (aM (.inl rfl) hbel (x1:=.tup [.sl none 0 (some 0),iV 2]) (l2:=[.cells false 2 []]) (.tup [.sl (some (H.length,0)) 0 (some 0),iV 2]) (aU results160) [.cells false 2 []] rfl [2] (by decide) ⟨by (rw[hfinL,hfinE];rfl),by (rw[hfinL];rfl)⟩ ?_)
  exact ar
 have h1d:=bsT h1
 have hz:=trE_1 (px:=px) (py:=py) (vx:=vx) (vy:=vy) (vd:=vd) (lo:=lo) (hi:=hi) (fun hh=>by rw[h1d] at hh;exact absurd hh.1 (by decide))
 have hfinE:=hz.1
 have hfinL:=hz.2
 have G27:=jn h1 @h1d
 refine aa G27 ?_
 refine hQ _ _ (aM (.inl rfl) hbel (x1:=.tup [.sl none 0 (some 0),iV 1]) (l2:=[.cells false 2 []]) (.tup [.sl (some (H.length,0)) 0 (some 0),iV 1]) (aU results160) [.cells false 2 []] rfl [2] (by decide) ⟨by (rw[hfinL,hfinE];rfl),by (rw[hfinL];rfl)⟩ ?_)
 exact ar
theorem swept_c (H:ac)(x0 y0 x1 y1 vx vy vd lo hi:Int):zC 130 [.agg [iV x0,iV y0,iV x1,iV y1],.agg [iV vx,iV vy,iV vd],iV lo,iV hi] H (.tup [.sl (some (H.length,0)) ((bv x0 y0 x1 y1 vx vy vd lo hi).length) (aS (bv x0 y0 x1 y1 vx vy vd lo hi).length),iV (eT x0 y0 x1 y1 vx vy vd lo hi)]) (H++[.cells (aI (bv x0 y0 x1 y1 vx vy vd lo hi).length) 2 (prs (bv x0 y0 x1 y1 vx vy vd lo hi))]):=by
 refine AcT true func130 ?_;intro hbel Q hQ
 refine aC ?_
 refine cv (pvrc_c _ _ _ _ _) ?_
 refine aC ?_
 refine bg (fun h1=>?_) (fun h1=>?_)
 ·have h1d:=bsT h1
  have hp1:=h1d
  have hp2:=iX.1 hp1
  have G28:=jn h1 @h1d
  refine aa G28 ?_
  refine cv (pvv_c _ _ _ _) ?_
  refine rcs G28 (fun h2 h2d G29=>?_) (fun h2 h2d G30=>?_)
  ·have hz:=nA (x0:=x0) (y0:=y0) (x1:=x1) (y1:=y1) (vx:=vx) (vy:=vy) (vd:=vd) (lo:=lo) (hi:=hi) (fun hh=>by rw[h2d] at hh;exact absurd hh.2 (by decide))
   have hfinE:=hz.1
   have hfinL:=hz.2
   refine aa G29 ?_
   refine hQ _ _ (aM (.inl rfl) hbel (x1:=.tup [.sl none 0 (some 0),iV 1]) (l2:=[.cells false 2 []]) (.tup [.sl (some (H.length,0)) 0 (some 0),iV 1]) (aU results130) [.cells false 2 []] rfl [2] (by decide) ⟨by (rw[hfinL,hfinE];rfl),by (rw[hfinL];rfl)⟩ ?_)
   exact ar
  have hv:=h2d
  refine rgs G30 (fun h3 h3d G31=>?_) (fun h3 h3d G40=>?_)
  ·refine rgs G31 (fun h4 h4d G32=>?_) (fun h4 h4d G39=>?_)
   ·refine rcs G32 (fun h5 h5d G33=>?_) (fun h5 h5d G34=>?_)
    ·have hz:=jT (lo:=lo) (hi:=hi) hp1 hv (by omega)
     have hfinE:=hz.1
     have hfinL:=hz.2
     refine aa G33 ?_
     refine hQ _ _ (aM (.inl rfl) hbel (x1:=.tup [.sl none 0 (some 0),iV 2]) (l2:=[.cells false 2 []]) (.tup [.sl (some (H.length,0)) 0 (some 0),iV 2]) (aU results130) [.cells false 2 []] rfl [2] (by decide) ⟨by (rw[hfinL,hfinE];rfl),by (rw[hfinL];rfl)⟩ ?_)
     exact ar
    have hlh:0<=lo/\lo<=hi/\hi<=2048:=by omega
    refine rgs G34 (fun h6 h6d G35=>?_) (fun h6 h6d G38=>?_)
    ·refine rcs G35 (fun h7 h7d G36=>?_) (fun h7 h7d G37=>?_)
     ·have hz:=nB hp1 hv hlh (.inr h7d)
      have hfinE:=hz.1
      have hfinL:=hz.2
      refine aa G36 ?_
      refine hQ _ _ (aM (.inl rfl) hbel (x1:=.tup [.sl none 0 (some 0),iV 6]) (l2:=[.cells false 2 []]) (.tup [.sl (some (H.length,0)) 0 (some 0),iV 6]) (aU results130) [.cells false 2 []] rfl [2] (by decide) ⟨by (rw[hfinL,hfinE];rfl),by (rw[hfinL];rfl)⟩ ?_)
      exact ar
     have hz:=sptE_0 hp1 hv hlh (by omega)
     have hfinE:=hz.1
     have hfinL:=hz.2
     refine aa G37 ?_
     refine cvr G37 (qF _ _ _ _ _ _ _ _ _ _ (by omega) (by omega) (by assumption) (by omega)) ?_
     refine hQ _ _ (aM (.inl rfl) hbel (x1:=.tup [.sl (some (H.length+2,0)) ((dI x0 y0 x1 y1 vx vy vd lo hi).length) (aS (dI x0 y0 x1 y1 vx vy vd lo hi).length),iV 0]) (l2:=[.cells (aI (dI x0 y0 x1 y1 vx vy vd lo hi).length) 2 (prs (dI x0 y0 x1 y1 vx vy vd lo hi))]) (.tup [.sl (some (H.length,0)) ((dI x0 y0 x1 y1 vx vy vd lo hi).length) (aS (dI x0 y0 x1 y1 vx vy vd lo hi).length),iV 0]) (aU results130) [] rfl [2] (by decide) ⟨by rw[hfinL,hfinE],by rw[hfinL]⟩ ?_)
     exact ar
    have hz:=nB hp1 hv hlh (.inl h6d)
    have hfinE:=hz.1
    have hfinL:=hz.2
    refine aa G38 ?_
    refine hQ _ _ (aM (.inl rfl) hbel (x1:=.tup [.sl none 0 (some 0),iV 6]) (l2:=[.cells false 2 []]) (.tup [.sl (some (H.length,0)) 0 (some 0),iV 6]) (aU results130) [.cells false 2 []] rfl [2] (by decide) ⟨by (rw[hfinL,hfinE];rfl),by (rw[hfinL];rfl)⟩ ?_)
    exact ar
   have hz:=jT (lo:=lo) (hi:=hi) hp1 hv (by omega)
   have hfinE:=hz.1
   have hfinL:=hz.2
   refine aa G39 ?_
   refine hQ _ _ (aM (.inl rfl) hbel (x1:=.tup [.sl none 0 (some 0),iV 2]) (l2:=[.cells false 2 []]) (.tup [.sl (some (H.length,0)) 0 (some 0),iV 2]) (aU results130) [.cells false 2 []] rfl [2] (by decide) ⟨by (rw[hfinL,hfinE];rfl),by (rw[hfinL];rfl)⟩ ?_)
   exact ar
  have hz:=jT (lo:=lo) (hi:=hi) hp1 hv (by omega)
  have hfinE:=hz.1
  have hfinL:=hz.2
  refine aa G40 ?_
  refine hQ _ _ (aM (.inl rfl) hbel (x1:=.tup [.sl none 0 (some 0),iV 2]) (l2:=[.cells false 2 []]) (.tup [.sl (some (H.length,0)) 0 (some 0),iV 2]) (aU results130) [.cells false 2 []] rfl [2] (by decide) ⟨by (rw[hfinL,hfinE];rfl),by (rw[hfinL];rfl)⟩ ?_)
  exact ar
 have h1d:=bsT h1
 have hz:=nA (x0:=x0) (y0:=y0) (x1:=x1) (y1:=y1) (vx:=vx) (vy:=vy) (vd:=vd) (lo:=lo) (hi:=hi) (fun hh=>by rw[h1d] at hh;exact absurd hh.1 (by decide))
 have hfinE:=hz.1
 have hfinL:=hz.2
 have G41:=jn h1 @h1d
 refine aa G41 ?_
 refine hQ _ _ (aM (.inl rfl) hbel (x1:=.tup [.sl none 0 (some 0),iV 1]) (l2:=[.cells false 2 []]) (.tup [.sl (some (H.length,0)) 0 (some 0),iV 1]) (aU results130) [.cells false 2 []] rfl [2] (by decide) ⟨by (rw[hfinL,hfinE];rfl),by (rw[hfinL];rfl)⟩ ?_)
 exact ar
def dirE (b:T6) (m h:Int):T9:=(b.1,b.2.1,b.2.2.1,b.2.2.2.1,b.2.2.2.2.1,b.2.2.2.2.2,(aq h m).1,(aq h m).2.1,(aq h m).2.2)
def mkB (b:T6):List Int:=aw b.2.2.2.2.1 b.2.2.2.2.2.toNat
def dirB (b:T6) (m:Int):Nat->List T9
 |0=>[]
 |j+1=>dirB b m j++[dirE b m (gi (mkB b) j)]
def dirS (l:List T6) (m:Int):Nat->List T9
 |0=>[]
 |i+1=>dirS l m i++dirB (g6 l i) m (mkB (g6 l i)).length
def aD (l:List T6) (m:Int):List T9:=dirS l m l.length
theorem kl (b:T6)(m:Int):∀j:Nat,(dirB b m j).length=j
 |0=>rfl
 |j+1=>by simp only[dirB,List.length_append,kl b m j];rfl
theorem gK {l:List T6}(h:bk l=true){i:Nat}(hi:i<l.length):1<=(mkB (g6 l i)).length/\(mkB (g6 l i)).length<=256/\(((mkB (g6 l i)).length:Nat):Int)=g66 l i:=by
 have:=nq h hi
 unfold mkB
 rw[dm]
 have e:(g6 l i).2.2.2.2.2=g66 l i:=rfl
 rw[e];omega
theorem mG {l:List T6}(h:bk l=true)(m:Int):∀i:Nat,i<=l.length->i<=(dirS l m i).length/\(dirS l m i).length<=256*i
 |0,_=>by simp[dirS]
 | i+1,hi=>by
  have ih:=mG h m i (by omega)
  have k:=gK h (show i<l.length by omega)
  simp only[dirS,List.length_append,kl];omega
theorem km {l:List T6}(h:bk l=true)(m:Int):l.length<=(aD l m).length/\(aD l m).length<=4096:=by
 have a:=mG h m l.length (Nat.le_refl _)
 have b:=dU h
 unfold aD;omega
theorem qG {b:T6}{m:Int}{e:T9}:∀{j:Nat},j<=(mkB b).length->(e∈dirB b m j↔∃q:Nat,q<j/\e=dirE b m (gi (mkB b) q))
 |0,_=>by simp[dirB]
 | j+1,hj=>by
  rw[dirB,List.mem_append,qG (by omega),List.mem_singleton]
  constructor
  ·rintro(⟨q,hq,rfl⟩|rfl)
   ·exact⟨q,by omega,rfl⟩
   exact⟨j,by omega,rfl⟩
  rintro⟨q,hq,rfl⟩
  rcases Nat.lt_or_ge q j with h|h
  ·exact .inl ⟨q,h,rfl⟩
  obtain rfl:q=j:=by omega
  exact .inr rfl
theorem mH {l:List T6}{m:Int}{e:T9}:∀{i:Nat},i<=l.length->(e∈dirS l m i↔∃j q:Nat,j<i/\q<(mkB (g6 l j)).length/\e=dirE (g6 l j) m (gi (mkB (g6 l j)) q))
 |0,_=>by simp[dirS]
 | i+1,hi=>by
  rw[dirS,List.mem_append,mH (by omega),qG (Nat.le_refl _)]
  constructor
  ·rintro(⟨j,q,h1,h2,h3⟩|⟨q,h2,h3⟩)
   ·exact⟨j,q,by omega,h2,h3⟩
   exact⟨i,q,by omega,h2,h3⟩
  rintro⟨j,q,h1,h2,h3⟩
  rcases Nat.lt_or_ge j i with h|h
  ·exact .inl ⟨j,q,h,h2,h3⟩
  obtain rfl:j=i:=by omega
  exact .inr ⟨q,h2,h3⟩
def pairB (e:T9):Bool:=bxB e.1 e.2.1 e.2.2.1 e.2.2.2.1 e.2.2.2.2.1 e.2.2.2.2.2.1&&da e.2.2.2.2.2.2.1 e.2.2.2.2.2.2.2.1 e.2.2.2.2.2.2.2.2
theorem ov {l:List T6}(h:bk l=true){m:Int}{e:T9}(he:e∈aD l m):pairB e=true:=by
 obtain⟨j,q,hj,hq,rfl⟩:=(mH (Nat.le_refl _)).1 he
 unfold pairB dirE
 rw[Bool.and_eq_true]
 exact⟨(bi.1 h).2 (g6 l j) (bY hj),beam_ok _ _⟩
def psB (e:T9) (s0 t0 s1 t1 far:Int):Bool:=cX e.1 e.2.1 e.2.2.2.2.2.2.1 e.2.2.2.2.2.2.2.1 e.2.2.2.2.2.2.2.2 far s0 t0 s1 t1&&(cX e.2.2.1 e.2.1 e.2.2.2.2.2.2.1 e.2.2.2.2.2.2.2.1 e.2.2.2.2.2.2.2.2 far s0 t0 s1 t1&&(cX e.1 e.2.2.2.1 e.2.2.2.2.2.2.1 e.2.2.2.2.2.2.2.1 e.2.2.2.2.2.2.2.2 far s0 t0 s1 t1&&cX e.2.2.1 e.2.2.2.1 e.2.2.2.2.2.2.1 e.2.2.2.2.2.2.2.1 e.2.2.2.2.2.2.2.2 far s0 t0 s1 t1))
def psC (e:T9) (far:Int) (c:Int×Int):Bool:=psB e (c.1*64) (c.2*64) (c.1*64+64) (c.2*64+64) far
def prvB (l:List T6) (m far:Int) (c:Int×Int):Bool:=(aD l m).all fun e=>psC e far c
def aB (r g:Int):Int:=if r = -1 then 1024-g else r-g
def aZ (l:List T6) (m far:Int):List (Int×Int):=trL (g91 (aD l m) 0) (g92 (aD l m) 0) (g97 (aD l m) 0) (g98 (aD l m) 0) (g99 (aD l m) 0) 0 far
def ck (W Hh:Int) (l:List T6) (m far:Int) (c:Int×Int):Bool:=btw c.1 0 (W-1)&&(btw c.2 0 (Hh-1)&&prvB l m far c)
def ex (W Hh:Int) (l:List T6) (m r g:Int):List (Int×Int):=if aB r g<=0 then [] else (aZ l m (aB r g)).filter (ck W Hh l m (aB r g))
theorem qH {α:Type}{p:α->Bool}{l:List α}{j:Nat}(h:j<l.length):(l.take (j+1)).filter p=(l.take j).filter p++(if p l[j]=true then [l[j]] else []):=by
 rw[List.take_succ_eq_append_getElem h,List.filter_append]
 congr 1
 cases hp:p l[j]<;>simp[hp]
theorem flt_len {α:Type}{p:α->Bool}{l:List α}{j:Nat}:((l.take j).filter p).length<=j:=by
 have:=List.length_filter_le p (l.take j)
 rw[List.length_take] at this;omega
theorem qI (W Hh:Int)(l:List T6)(m r g:Int):(ex W Hh l m r g).length<=7225:=by
 unfold ex;split
 ·simp
 exact Nat.le_trans (List.length_filter_le _ _) (lO _ _ _ _ _ _ _)
theorem trL_mem {px py vx vy vd lo hi:Int}{c:Int×Int}(h:c∈trL px py vx vy vd lo hi):(-32768<=c.1/\c.1<=32768) /\ -32768<=c.2/\c.2<=32768:=by
 unfold trL mkL at h
 split at h
 ·rename_i he
  obtain⟨h1,h2,hr⟩:=trE_z he
  have hq:=iE.1 h1
  exact swp_bd ((mE (by omega) (by omega) h2 hr).1 h)
 cases h
def sqO (x y:Int):Bool:=cR x 16384&&cR y 16384
abbrev T4:=Int×Int×Int×Int
def rqA (f le h:Int):Int:=cK h (mxI (f-le) 0)
def rqB (f le h:Int):Int:=cK h (mxI (f+le) 0)
def rqC (f le h:Int):Int:=cL h (mxI (f-le) 0)
def rqD (f le h:Int):Int:=cL h (mxI (f+le) 0)
def rqR (f le sl h:Int):T4:=if f=0 then (0,0,0,0) else (mnI (rqA f le h) (rqB f le h)-sl,mnI (rqC f le h) (rqD f le h)-sl,mxI (rqA f le h) (rqB f le h)+sl,mxI (rqC f le h) (rqD f le h)+sl)
def rcS (f le sl:Int) (L:List Int):Nat->T4
 |0=>(0,0,0,0)
 |n+1=>(mnI (if n=0 then (rqR f le sl (gi L n)).1 else (rcS f le sl L n).1) (rqR f le sl (gi L n)).1,mnI (if n=0 then (rqR f le sl (gi L n)).2.1 else (rcS f le sl L n).2.1) (rqR f le sl (gi L n)).2.1,mxI (if n=0 then (rqR f le sl (gi L n)).2.2.1 else (rcS f le sl L n).2.2.1) (rqR f le sl (gi L n)).2.2.1,mxI (if n=0 then (rqR f le sl (gi L n)).2.2.2 else (rcS f le sl L n).2.2.2) (rqR f le sl (gi L n)).2.2.2)
theorem fG {a b:Int}:mnI a b<=a/\mnI a b<=b/\(mnI a b=a\/mnI a b=b):=by unfold mnI;split<;>omega
theorem fH {a b:Int}:a<=mxI a b/\b<=mxI a b/\(mxI a b=a\/mxI a b=b):=by unfold mxI;split<;>omega
theorem rqR_bd {f le sl h:Int}(hf:0<=f/\f<=32)(hl:0<=le/\le<=16)(hs:0<=sl/\sl<=8):(-64<=(rqR f le sl h).1/\(rqR f le sl h).1<=(rqR f le sl h).2.2.1/\(rqR f le sl h).2.2.1<=64) /\ -64<=(rqR f le sl h).2.1/\(rqR f le sl h).2.1<=(rqR f le sl h).2.2.2/\(rqR f le sl h).2.2.2<=64:=by
 unfold rqR
 split
 ·exact⟨by decide,by decide⟩
 have m1:0<=mxI (f-le) 0/\mxI (f-le) 0<=48:=by unfold mxI;split<;>omega
 have m2:0<=mxI (f+le) 0/\mxI (f+le) 0<=48:=by unfold mxI;split<;>omega
 have w1:=jK h m1.1
 have w2:=jK h m2.1
 have e1:rqA f le h=cK h (mxI (f-le) 0):=rfl
 have e2:rqB f le h=cK h (mxI (f+le) 0):=rfl
 have e3:rqC f le h=cL h (mxI (f-le) 0):=rfl
 have e4:rqD f le h=cL h (mxI (f+le) 0):=rfl
 have n1:=fG (a:=rqA f le h) (b:=rqB f le h)
 have n2:=fG (a:=rqC f le h) (b:=rqD f le h)
 have x1:=fH (a:=rqA f le h) (b:=rqB f le h)
 have x2:=fH (a:=rqC f le h) (b:=rqD f le h)
 simp only
 omega
theorem nC {f le sl:Int}{L:List Int}(hf:0<=f/\f<=32)(hl:0<=le/\le<=16)(hs:0<=sl/\sl<=8):∀n:Nat,(-64<=(rcS f le sl L n).1/\(rcS f le sl L n).1<=(rcS f le sl L n).2.2.1/\(rcS f le sl L n).2.2.1<=64) /\ -64<=(rcS f le sl L n).2.1/\(rcS f le sl L n).2.1<=(rcS f le sl L n).2.2.2/\(rcS f le sl L n).2.2.2<=64
 |0=>by unfold rcS;exact⟨by decide,by decide⟩
 | n+1=>by
  have r:=rqR_bd (h:=gi L n) hf hl hs
  have ih:=nC (L:=L) hf hl hs n
  unfold rcS
  simp only
  by_cases h0:n=0
  ·rw[if_pos h0,if_pos h0,if_pos h0,if_pos h0]
   have n1:=fG (a:=(rqR f le sl (gi L n)).1) (b:=(rqR f le sl (gi L n)).1)
   have n2:=fG (a:=(rqR f le sl (gi L n)).2.1) (b:=(rqR f le sl (gi L n)).2.1)
   have x1:=fH (a:=(rqR f le sl (gi L n)).2.2.1) (b:=(rqR f le sl (gi L n)).2.2.1)
   have x2:=fH (a:=(rqR f le sl (gi L n)).2.2.2) (b:=(rqR f le sl (gi L n)).2.2.2)
   omega
  rw[if_neg h0,if_neg h0,if_neg h0,if_neg h0]
  have n1:=fG (a:=(rcS f le sl L n).1) (b:=(rqR f le sl (gi L n)).1)
  have n2:=fG (a:=(rcS f le sl L n).2.1) (b:=(rqR f le sl (gi L n)).2.1)
  have x1:=fH (a:=(rcS f le sl L n).2.2.1) (b:=(rqR f le sl (gi L n)).2.2.1)
  have x2:=fH (a:=(rcS f le sl L n).2.2.2) (b:=(rqR f le sl (gi L n)).2.2.2)
  omega
def imR (b:T6) (t f tu le sl:Int):T4:=rcS f le sl (mrkA b.2.2.2.2.1 b.2.2.2.2.2 t tu) (mrkA b.2.2.2.2.1 b.2.2.2.2.2 t tu).length
def imB (b:T6) (t f tu le sl:Int):T6:=(b.1+(imR b t f tu le sl).1,b.2.1+(imR b t f tu le sl).2.1,b.2.2.1+(imR b t f tu le sl).2.2.1,b.2.2.2.1+(imR b t f tu le sl).2.2.2,grF (shF b.2.2.2.2.1 b.2.2.2.2.2 t) (ce b.2.2.2.2.2) tu,grC (ce b.2.2.2.2.2) tu)
def imO (b:T6) (t f tu le sl:Int):Bool:=!([(imB b t f tu le sl).1,(imB b t f tu le sl).2.2.1,(imB b t f tu le sl).2.1,(imB b t f tu le sl).2.2.2.1].any gJ)
def imE (b:T6) (t f tu le sl:Int):Int:=if imO b t f tu le sl=true then 0 else 2
theorem imB_ok {b:T6}{t f tu le sl:Int}(hb:bl b=true)(hf:0<=f/\f<=32)(hu:0<=tu/\tu<=8)(hl:0<=le/\le<=16)(hs:0<=sl/\sl<=8)(h:imO b t f tu le sl=true):bl (imB b t f tu le sl)=true:=by
 have hb6:=bB.1 hb
 have r:=nC (L:=mrkA b.2.2.2.2.1 b.2.2.2.2.2 t tu) hf hl hs (mrkA b.2.2.2.2.1 b.2.2.2.2.2 t tu).length
 have e:imR b t f tu le sl=rcS f le sl (mrkA b.2.2.2.2.1 b.2.2.2.2.2 t tu) (mrkA b.2.2.2.2.1 b.2.2.2.2.2 t tu).length:=rfl
 rw[<-e] at r
 unfold imO gJ at h
 simp only[List.any_cons,List.any_nil,Bool.or_false,Bool.not_eq_true',Bool.or_eq_false_iff,decide_eq_false_iff_not] at h
 refine bB.2 ⟨?_,?_,?_⟩
 ·unfold imB at *;simp only at *;omega
 ·unfold imB at *;simp only at *;omega
 have ka:=bh.1 hb6.2.2
 show bZ (grF _ _ _) (grC _ _)=true
 exact fV (by unfold ce;split<;>omega)
def imS (l:List T6) (t f tu le sl:Int):Nat->List T6
 |0=>[]
 |n+1=>imS l t f tu le sl n++[imB (g6 l n) t f tu le sl]
def imA (l:List T6) (t f tu le sl:Int):Bool:=l.all fun b=>imO b t f tu le sl
theorem cE {l:List T6}{t f tu le sl:Int}:∀n:Nat,(imS l t f tu le sl n).length=n
 |0=>rfl
 |n+1=>by rw[imS,List.length_append,cE n];rfl
theorem imS_mem {l:List T6}{t f tu le sl:Int}{b:T6}:∀{n:Nat},b∈imS l t f tu le sl n↔∃j:Nat,j<n/\b=imB (g6 l j) t f tu le sl
 |0=>by simp[imS]
 | n+1=>by
  rw[imS,List.mem_append,List.mem_singleton,imS_mem]
  constructor
  ·rintro(⟨j,h1,h2⟩|h)
   ·exact⟨j,by omega,h2⟩
   exact⟨n,by omega,h⟩
  rintro⟨j,h1,h2⟩
  rcases Nat.lt_or_ge j n with q|q
  ·exact .inl ⟨j,q,h2⟩
  obtain rfl:j=n:=by omega
  exact .inr h2
section
variable (H:ac)
theorem psize_c (x:Int):ACalls prog 57 [.int .i64 x] H (fun v H'=>v=.bool (decide (1<=x)&&decide (x<=64))/\H'=H):=by
 (refine co try_mixed func57 true _ rfl (Nat.le_of_ble_eq_true (by kernel_rfl)) (by kernel_rfl) ?_;intro hbel Q hQ hQ' c hc;unfold Tryz.f57 at hc;simp only[Option.some.injEq] at hc;subst hc;clear hQ')
 by_cases h1:1<=x
 ·simp -implicitDefEqProofs (disch:=omega) only [h1,simprocAttr,aG,aH,Function.comp_apply,one1,lenV,ak,ay,az,aop,AV.ofValue,AV.ofCell,AV.cells,AV.flat,AV.one,arep,aT,av,aE]
  exact hQ _ _ (eh (.inl rfl) hbel (x:=.bool (decide (x<=64))) (aU results57) rfl ⟨by simp only[h1,decide_true,Bool.true_and],rfl⟩)
 simp -implicitDefEqProofs (disch:=omega) only [h1,simprocAttr,aG,aH,Function.comp_apply,one1,lenV,ak,ay,az,aop,AV.ofValue,AV.ofCell,AV.cells,AV.flat,AV.one,arep,aT,av,aE]
 exact hQ _ _ (eh (.inl rfl) hbel (x:=.bool false) (aU results57) rfl ⟨by simp only[h1,decide_false,Bool.false_and],rfl⟩)
set_option maxRecDepth 100000 in
theorem max_c (xs : List Int)(b : Nat)(own : Bool)(cap : Option Nat)(hb:H[b]? = some (.cells own 1 (ints .u8 xs)))(h0:0<xs.length)(hn:xs.length<=1000000):ACalls prog 58 [.sl (some (b,0)) xs.length cap] H (fun v H'=>∃m,v=.int .u8 m/\m∈xs/\(∀x∈xs,x<=m)/\H'=H):=by
 have hbl:=getElem?_lt hb
 have hg0:=c9 (k:=.u8) (xs:=xs) (j:=0) h0
 (refine co try_mixed func58 true _ rfl (Nat.le_of_ble_eq_true (by kernel_rfl)) (by kernel_rfl) ?_;intro hbel Q hQ hQ' c hc;unfold Tryz.f58 at hc;simp only[Option.some.injEq] at hc;subst hc;clear hQ')
 have h1:¬(xs.length:Int)<1:=by omega
 simp -implicitDefEqProofs (disch:=omega) only [h1,hb,hg0,simprocAttr,aG,aH,Function.comp_apply,one1,lenV,ak,ay,az,aop,AV.ofValue,AV.ofCell,AV.cells,AV.flat,AV.one,arep,aT,av,aE]
 repeat refine And.intro (by omega) ?_
 refine go_loop try_mixed (by kernel_rfl) (fun k F Hx=>∃(i:Nat) (m:Int),i+k=xs.length/\1<=i/\m∈xs/\(∀j,j<i->gi xs j<=m)/\F=[(0,.sl (some (b,0)) xs.length none),(3,.int .u8 m),(4,.int .i64 (i:Nat))]/\Hx=H) (xs.length-1) ?_ ?_
 ·refine ⟨_, _, _, ⟨1, gi xs 0, by omega, by omega, jE h0, fun j hj => by obtain rfl:j=0:=by omega
                                                                          exact Int.le_refl _,rfl,rfl⟩,Abs.by0 hbel ?_⟩
  exact absT
 rintro k F Hx ⟨i,m,hik,hi1,hm,hle,rfl,rfl⟩ J hJ
 by_cases hi:i<xs.length
 ·have hii:(i:Int)<(xs.length:Int):=by omega
  have hg:=c9 (k:=.u8) (xs:=xs) (j:=i) hi
  simp -implicitDefEqProofs (disch:=omega) only [hii,hb,hg,simprocAttr,aG,aH,Function.comp_apply,one1,lenV,ak,ay,az,aop,AV.ofValue,AV.ofCell,AV.cells,AV.flat,AV.one,arep,aT,av,aE]
  repeat refine And.intro (by omega) ?_
  refine hJ _ _ ⟨k-1,by omega,_,_,_,⟨i+1,if m<gi xs i then gi xs i else m,by omega,by omega,by split;exact jE hi;exact hm,fun j hj=>?_,rfl,rfl⟩,Abs.by0 hbel ?_⟩
  ·by_cases hji:j=i
   ·subst hji;split<;>omega
   have:=hle j (by omega);split<;>omega
  exact absT
 have hnn:¬((i:Int)<(xs.length:Int)):=by omega
 simp -implicitDefEqProofs (disch:=omega) only [hnn,simprocAttr,aG,aH,Function.comp_apply,one1,lenV,ak,ay,az,aop,AV.ofValue,AV.ofCell,AV.cells,AV.flat,AV.one,arep,aT,av,aE]
 exact hQ _ _ (eh (.inl rfl) hbel (x:=.int .u8 m) (aU results58) rfl ⟨m,rfl,hm,fun x hx=>by
  obtain⟨j,hj,rfl⟩:=List.getElem_of_mem hx
  rw[<-gi_lt hj];exact hle j (by omega),rfl⟩)
theorem fp {W Hh:Int}{xs:List Int}(h:¬(1<=W/\W<=64/\1<=Hh/\Hh<=64/\(xs.length:Int)=W*Hh)):bK W Hh xs=false:=pn.2 fun v=>h ⟨v.w0,v.w1,v.h0,v.h1,v.len⟩
set_option maxRecDepth 100000 in
theorem jU (W Hh:Int)(s:AV)(xs:List Int)(hs:IsI H .u8 s xs):ACalls prog 27 [.agg [.int .i64 W,.int .i64 Hh,s]] H (fun v H'=>v=.bool (bK W Hh xs)/\H'=H):=by
 have hs1:∃a c,s=.sl a xs.length c:=by
  rcases hs with ⟨rfl,rfl⟩|⟨b,own,cap,rfl,hb⟩
  ·exact⟨_,_,rfl⟩
  exact⟨_,_,rfl⟩
 obtain⟨a1,c1,rfl⟩:=hs1
 (refine co try_mixed func27 true _ rfl (Nat.le_of_ble_eq_true (by kernel_rfl)) (by kernel_rfl) ?_;intro hbel Q hQ hQ' c hc;unfold Tryz.f27 at hc;simp only[Option.some.injEq] at hc;subst hc;clear hQ')
 simp -implicitDefEqProofs (disch:=omega) only [simprocAttr,aG,aH,Function.comp_apply,one1,lenV,ak,ay,az,aop,AV.ofValue,AV.ofCell,AV.cells,AV.flat,AV.one,arep,aT,av,aE]
 refine dW (by kernel_rfl) (psize_c _ _) ?_
 cases h1:(decide (1<=W)&&decide (W<=64))
 ·simp only[Bool.and_eq_false_iff,decide_eq_false_iff_not] at h1
  simp -implicitDefEqProofs (disch:=omega) only [simprocAttr,aG,aH,Function.comp_apply,one1,lenV,ak,ay,az,aop,AV.ofValue,AV.ofCell,AV.cells,AV.flat,AV.one,arep,aT,av,aE]
  exact hQ _ _ (cA (.inl rfl) hbel (x:=.bool false) (aU results27) rfl ⟨by rw[fp (by omega)],rfl⟩)
 simp only[Bool.and_eq_true,decide_eq_true_eq] at h1
 simp -implicitDefEqProofs (disch:=omega) only [simprocAttr,aG,aH,Function.comp_apply,one1,lenV,ak,ay,az,aop,AV.ofValue,AV.ofCell,AV.cells,AV.flat,AV.one,arep,aT,av,aE]
 refine dW (by kernel_rfl) (psize_c _ _) ?_
 cases h2:(decide (1<=Hh)&&decide (Hh<=64))
 ·simp only[Bool.and_eq_false_iff,decide_eq_false_iff_not] at h2
  simp -implicitDefEqProofs (disch:=omega) only [simprocAttr,aG,aH,Function.comp_apply,one1,lenV,ak,ay,az,aop,AV.ofValue,AV.ofCell,AV.cells,AV.flat,AV.one,arep,aT,av,aE]
  exact hQ _ _ (cA (.inl rfl) hbel (x:=.bool false) (aU results27) rfl ⟨by rw[fp (by omega)],rfl⟩)
 simp only[Bool.and_eq_true,decide_eq_true_eq] at h2
 have hm:=g5 (a:=W) (b:=Hh) (by omega) (by omega) (by omega) (by omega)
 have hm1:=Int.mul_le_mul (a:=1) (b:=1) (c:=W) (d:=Hh) h1.1 h2.1 (by omega) (by omega)
 by_cases h3:(xs.length:Int)=W*Hh
 ·have h3':((xs.length:Int)!=W*Hh)=false:=by simp[h3]
  have h4:((xs.length:Int)==0)=false:=beq_eq_false_iff_ne.2 (by omega)
  obtain⟨b,own,cap,e1,hb⟩:=hs.resolve_left (fun h=>by rw[h.1] at h3;simp at h3;omega)
  injection e1 with e1 _ e1';subst e1 e1'
  have hb0:=fun l=>ae (l:=l) hb
  have hbl:=getElem?_lt hb
  simp -implicitDefEqProofs (disch:=omega) only [h3',h4,simprocAttr,aG,aH,Function.comp_apply,one1,lenV,ak,ay,az,aop,AV.ofValue,AV.ofCell,AV.cells,AV.flat,AV.one,arep,aT,av,aE]
  refine call_of (by kernel_rfl) (max_c _ xs b own c1 (hb0 _) (by omega) (by omega)) ?_
  rintro x H' ⟨m,rfl,hm,hle,rfl⟩
  simp -implicitDefEqProofs (disch:=omega) only [simprocAttr,aG,aH,Function.comp_apply,one1,lenV,ak,ay,az,aop,AV.ofValue,AV.ofCell,AV.cells,AV.flat,AV.one,arep,aT,av,aE]
  exact hQ _ _ (cA (.inl rfl) hbel (x:=.bool (decide (m<=2))) (aU results27) rfl ⟨by
   congr 1
   rw[Bool.eq_iff_iff,bp,decide_eq_true_eq]
   exact⟨fun h=>⟨h1.1,h1.2,h2.1,h2.2,h3,fun v hv=>Int.le_trans (hle v hv) h⟩,fun h=>h.le m hm⟩,rfl⟩)
 have h3':((xs.length:Int)!=W*Hh)=true:=by simp[h3]
 simp -implicitDefEqProofs (disch:=omega) only [h3',simprocAttr,aG,aH,Function.comp_apply,one1,lenV,ak,ay,az,aop,AV.ofValue,AV.ofCell,AV.cells,AV.flat,AV.one,arep,aT,av,aE]
 exact hQ _ _ (cA (.inl rfl) hbel (x:=.bool false) (aU results27) rfl ⟨by rw[fp (by omega)],rfl⟩)
set_option maxRecDepth 100000 in
theorem iF (W Hh:Int)(s:AV)(xs:List Int)(hs:IsI H .u8 s xs):ACalls prog 32 [.agg [.int .i64 W,.int .i64 Hh,s]] H (fun v H'=>v=.bool (bK W Hh xs)/\H'=H):=by
 have hs1:∃a c,s=.sl a xs.length c:=by
  rcases hs with ⟨rfl,rfl⟩|⟨b,own,cap,rfl,hb⟩
  ·exact⟨_,_,rfl⟩
  exact⟨_,_,rfl⟩
 obtain⟨a1,c1,rfl⟩:=hs1
 (refine co try_mixed func32 true _ rfl (Nat.le_of_ble_eq_true (by kernel_rfl)) (by kernel_rfl) ?_;intro hbel Q hQ hQ' c hc;unfold Tryz.f32 at hc;simp only[Option.some.injEq] at hc;subst hc;clear hQ')
 by_cases h1:W<1
 ·simp -implicitDefEqProofs (disch:=omega) only [h1,simprocAttr,aG,aH,Function.comp_apply,one1,lenV,ak,ay,az,aop,AV.ofValue,AV.ofCell,AV.cells,AV.flat,AV.one,arep,aT,av,aE]
  exact hQ _ _ (cA (.inl rfl) hbel (x:=.bool false) (aU results32) rfl ⟨by rw[fp (by omega)],rfl⟩)
 by_cases h2:64<W
 ·simp -implicitDefEqProofs (disch:=omega) only [h1,h2,simprocAttr,aG,aH,Function.comp_apply,one1,lenV,ak,ay,az,aop,AV.ofValue,AV.ofCell,AV.cells,AV.flat,AV.one,arep,aT,av,aE]
  exact hQ _ _ (cA (.inl rfl) hbel (x:=.bool false) (aU results32) rfl ⟨by rw[fp (by omega)],rfl⟩)
 by_cases h3:Hh<1
 ·simp -implicitDefEqProofs (disch:=omega) only [h1,h2,h3,simprocAttr,aG,aH,Function.comp_apply,one1,lenV,ak,ay,az,aop,AV.ofValue,AV.ofCell,AV.cells,AV.flat,AV.one,arep,aT,av,aE]
  exact hQ _ _ (cA (.inl rfl) hbel (x:=.bool false) (aU results32) rfl ⟨by rw[fp (by omega)],rfl⟩)
 by_cases h4:64<Hh
 ·simp -implicitDefEqProofs (disch:=omega) only [h1,h2,h3,h4,simprocAttr,aG,aH,Function.comp_apply,one1,lenV,ak,ay,az,aop,AV.ofValue,AV.ofCell,AV.cells,AV.flat,AV.one,arep,aT,av,aE]
  exact hQ _ _ (cA (.inl rfl) hbel (x:=.bool false) (aU results32) rfl ⟨by rw[fp (by omega)],rfl⟩)
 have hm:=g5 (a:=W) (b:=Hh) (by omega) (by omega) (by omega) (by omega)
 have hm1:=Int.mul_le_mul (a:=1) (b:=1) (c:=W) (d:=Hh) (by omega) (by omega) (by omega) (by omega)
 by_cases h5:(xs.length:Int)=W*Hh
 ·have h5':((xs.length:Int)!=W*Hh)=false:=by simp[h5]
  obtain⟨b,own,cap,e1,hb⟩:=hs.resolve_left (fun h=>by rw[h.1] at h5;simp at h5;omega)
  injection e1 with e1 _ e1';subst e1 e1'
  have hb0:=fun l=>ae (l:=l) hb
  have hbl:=getElem?_lt hb
  simp -implicitDefEqProofs (disch:=omega) only [h1,h2,h3,h4,h5',simprocAttr,aG,aH,Function.comp_apply,one1,lenV,ak,ay,az,aop,AV.ofValue,AV.ofCell,AV.cells,AV.flat,AV.one,arep,aT,av,aE]
  refine go_loop try_mixed (by kernel_rfl) (fun k F Hx=>∃(i:Nat),i+k=xs.length/\(∀j,j<i->gi xs j<=2)/\F=[(1,.ptr (some (H.length,0))),(3,.int .i64 (i:Nat))]/\Hx=H++[.cells true 0 [.int .i64 W,.int .i64 Hh,.sl (some (b,0)) xs.length c1]]) xs.length ?_ ?_
  ·refine⟨_,_,_,⟨0,by omega,fun j hj=>absurd hj (Nat.not_lt_zero j),rfl,rfl⟩,Abs.by hbel [0] (by decide) ?_⟩
   exact absT
  rintro k F Hx ⟨i,hik,hle,rfl,rfl⟩ J hJ
  by_cases hi:i<xs.length
  ·have hii:(i:Int)<(xs.length:Int):=by omega
   have hg:=c9 (k:=.u8) (xs:=xs) (j:=i) hi
   by_cases h6:2<gi xs i
   ·simp -implicitDefEqProofs (disch:=omega) only [hii,hb0,hg,h6,simprocAttr,aG,aH,Function.comp_apply,one1,lenV,ak,ay,az,aop,AV.ofValue,AV.ofCell,AV.cells,AV.flat,AV.one,arep,aT,av,aE]
    repeat refine And.intro (by omega) ?_
    exact hQ _ _ (cA (.inl rfl) hbel (x:=.bool false) (aU results32) rfl ⟨by rw[pn.2 fun v=>absurd (v.le _ (jE hi)) (by omega)],rfl⟩)
   simp -implicitDefEqProofs (disch:=omega) only [hii,hb0,hg,h6,simprocAttr,aG,aH,Function.comp_apply,one1,lenV,ak,ay,az,aop,AV.ofValue,AV.ofCell,AV.cells,AV.flat,AV.one,arep,aT,av,aE]
   repeat refine And.intro (by omega) ?_
   refine hJ _ _ ⟨k-1,by omega,_,_,_,⟨i+1,by omega,fun j hj=>?_,rfl,rfl⟩,Abs.by hbel [0] (by decide) ?_⟩
   ·by_cases hji:j=i
    ·subst hji;omega
    exact hle j (by omega)
   exact absT
  have hnn:¬((i:Int)<(xs.length:Int)):=by omega
  simp -implicitDefEqProofs (disch:=omega) only [hnn,simprocAttr,aG,aH,Function.comp_apply,one1,lenV,ak,ay,az,aop,AV.ofValue,AV.ofCell,AV.cells,AV.flat,AV.one,arep,aT,av,aE]
  exact hQ _ _ (cA (.inl rfl) hbel (x:=.bool true) (aU results32) rfl ⟨by rw[bp.2 ⟨by omega,by omega,by omega,by omega,h5,fun x hx=>by
   obtain⟨j,hj,rfl⟩:=List.getElem_of_mem hx
   rw[<-gi_lt hj];exact hle j (by omega)⟩],rfl⟩)
 have h5':((xs.length:Int)!=W*Hh)=true:=by simp[h5]
 simp -implicitDefEqProofs (disch:=omega) only [h1,h2,h3,h4,h5',simprocAttr,aG,aH,Function.comp_apply,one1,lenV,ak,ay,az,aop,AV.ofValue,AV.ofCell,AV.cells,AV.flat,AV.one,arep,aT,av,aE]
 exact hQ _ _ (cA (.inl rfl) hbel (x:=.bool false) (aU results32) rfl ⟨by rw[fp (by omega)],rfl⟩)
end
section
variable {H:ac} {W Hh x y:Int} {s:AV} {xs:List Int} {g:Nat} {own:Bool} {cap:Option Nat} {n:Nat}
set_option maxRecDepth 100000 in
theorem pC {a:Option (Nat×Nat)}:ACalls prog 96 [.agg [.int .i64 W,.int .i64 Hh,.sl a n cap],.agg [.int .i64 x,.int .i64 y]] H (fun v H'=>v=.bool (inB W Hh x y)/\H'=H):=by
 (refine co try_mixed func96 true _ rfl (Nat.le_of_ble_eq_true (by kernel_rfl)) (by kernel_rfl) ?_;intro hbel Q hQ hQ' c hc;unfold Tryz.f96 at hc;simp only[Option.some.injEq] at hc;subst hc;clear hQ')
 by_cases h1:0<=x
 ·by_cases h2:x<W
  ·by_cases h3:0<=y
   ·simp -implicitDefEqProofs (disch:=omega) only [h1,h2,h3,simprocAttr,aG,aH,Function.comp_apply,one1,lenV,ak,ay,az,aop,AV.ofValue,AV.ofCell,AV.cells,AV.flat,AV.one,arep,aT,av,aE]
    exact hQ _ _ (cA (.inl rfl) hbel (x:=.bool (decide (y<Hh))) (aU results96) rfl ⟨by simp[inB,h1,h2,h3],rfl⟩)
   simp -implicitDefEqProofs (disch:=omega) only [h1,h2,h3,simprocAttr,aG,aH,Function.comp_apply,one1,lenV,ak,ay,az,aop,AV.ofValue,AV.ofCell,AV.cells,AV.flat,AV.one,arep,aT,av,aE]
   exact hQ _ _ (cA (.inl rfl) hbel (x:=.bool false) (aU results96) rfl ⟨by simp[inB,h1,h2,h3],rfl⟩)
  simp -implicitDefEqProofs (disch:=omega) only [h1,h2,simprocAttr,aG,aH,Function.comp_apply,one1,lenV,ak,ay,az,aop,AV.ofValue,AV.ofCell,AV.cells,AV.flat,AV.one,arep,aT,av,aE]
  exact hQ _ _ (cA (.inl rfl) hbel (x:=.bool false) (aU results96) rfl ⟨by simp[inB,h1,h2],rfl⟩)
 simp -implicitDefEqProofs (disch:=omega) only [h1,simprocAttr,aG,aH,Function.comp_apply,one1,lenV,ak,ay,az,aop,AV.ofValue,AV.ofCell,AV.cells,AV.flat,AV.one,arep,aT,av,aE]
 exact hQ _ _ (cA (.inl rfl) hbel (x:=.bool false) (aU results96) rfl ⟨by simp[inB,h1],rfl⟩)
set_option maxRecDepth 100000 in
theorem at_c (hV:Vld W Hh xs)(hg:H[g]? = some (.cells own 1 (ints .u8 xs)))(hn:n=xs.length):ACalls prog 93 [.agg [.int .i64 W,.int .i64 Hh,.sl (some (g,0)) n cap],.agg [.int .i64 x,.int .i64 y]] H (fun r H'=>r=.int .u8 (atI W Hh xs x y)/\H'=H):=by
 (refine co try_mixed func93 true _ rfl (Nat.le_of_ble_eq_true (by kernel_rfl)) (by kernel_rfl) ?_;intro hbel Q hQ hQ' c hc;unfold Tryz.f93 at hc;simp only[Option.some.injEq] at hc;subst hc;clear hQ')
 have hg0:=fun l=>ae (l:=l) hg
 simp -implicitDefEqProofs (disch:=omega) only [simprocAttr,aG,aH,Function.comp_apply,one1,lenV,ak,ay,az,aop,AV.ofValue,AV.ofCell,AV.cells,AV.flat,AV.one,arep,aT,av,aE]
 refine dW (by kernel_rfl) pC ?_
 cases hi:inB W Hh x y
 ·simp -implicitDefEqProofs (disch:=omega) only [simprocAttr,aG,aH,Function.comp_apply,one1,lenV,ak,ay,az,aop,AV.ofValue,AV.ofCell,AV.cells,AV.flat,AV.one,arep,aT,av,aE]
  exact hQ _ _ (cA (.inl rfl) hbel (x:=.int .u8 2) (aU results93) rfl ⟨by simp[atI,hi],rfl⟩)
 obtain⟨i1,i2,i3,i4,i5,-⟩:=hV.idx hi
 have hl:=hV.len
 have hp:=hV.pos
 have hgi:=c9 (k:=.u8) (xs:=xs) (j:=(y*W+x).toNat) i5
 simp -implicitDefEqProofs (disch:=omega) only [hg0,hgi,simprocAttr,aG,aH,Function.comp_apply,one1,lenV,ak,ay,az,aop,AV.ofValue,AV.ofCell,AV.cells,AV.flat,AV.one,arep,aT,av,aE]
 repeat refine And.intro (by omega) ?_
 exact hQ _ _ (cA (.inl rfl) hbel (x:=.int .u8 (gi xs (y*W+x).toNat)) (aU results93) rfl ⟨by simp[atI,hi],rfl⟩)
end
theorem pinside_c (H:ac)(W Hh:Int)(pp:AV)(xs:List Int)(x y:Int)(hpp:zI H pp xs):zC 132 [.agg [iV W,iV Hh,pp],.agg [iV x,iV y]] H (.bool (inB W Hh x y)) H:=by
 obtain⟨bpp,opp,cpp,rfl,hbpp,hblpp,hb0pp⟩:=zA1 hpp
 refine AcT true func132 ?_;intro hbel Q hQ
 have G1:=jn @hbpp @hb0pp
 refine rgs G1 (fun h1 h1d G2=>?_) (fun h1 h1d G7=>?_)
 ·refine rgs G2 (fun h2 h2d G3=>?_) (fun h2 h2d G6=>?_)
  ·refine rgs G3 (fun h3 h3d G4=>?_) (fun h3 h3d G5=>?_)
   ·exact eR G4 hQ hbel (.bool (decide (y<Hh))) results132 ⟨by simp[inB,h1d,h2d,h3d],rfl⟩
   exact eR G5 hQ hbel (.bool false) results132 ⟨by simp[inB,h1d,h2d,h3d],rfl⟩
  exact eR G6 hQ hbel (.bool false) results132 ⟨by simp[inB,h1d,h2d],rfl⟩
 exact eR G7 hQ hbel (.bool false) results132 ⟨by simp[inB,h1d],rfl⟩
theorem pat_c (H:ac)(W Hh:Int)(pp:AV)(xs:List Int)(x y:Int)(hpp:zI H pp xs)(hV:bK W Hh xs=true):zC 86 [.agg [iV W,iV Hh,pp],.agg [iV x,iV y]] H (.int .u8 (atI W Hh xs x y)) H:=by
 obtain⟨bpp,opp,cpp,rfl,hbpp,hblpp,hb0pp⟩:=zA1 hpp
 have hVl:=bp.1 hV
 have hll:=hVl.len
 have hpp2:=hVl.pos
 refine AcT true func86 ?_;intro hbel Q hQ
 have G8:=jn @hbpp (jn @hb0pp @hV)
 refine aa G8 ?_
 refine cvr G8 (jU _ W Hh _ xs (.inr (zA2 hb0pp hbpp))) ?_
 refine cv (pinside_c _ W _ _ xs x y (zA2 hb0pp hbpp)) ?_
 refine rcs G8 (fun h1 h1d G9=>?_) (fun h1 h1d _=>?_)
 ·exact eR G9 hQ hbel (.int .u8 2) results86 ⟨by simp[atI,h1d],rfl⟩
 have hin:=h1d
 obtain⟨i1,i2,i3,i4,i5,-⟩:=hVl.idx hin
 have q2:=c9 (k:=.u8) (xs:=xs) (j:=((y*W)+x).toNat) (by omega)
 have G10:=jn h1 (jn h1d (jn q2 G8))
 exact eR G10 hQ hbel (.int .u8 (gi xs (((y*W)+x).toNat))) results86 ⟨by simp[atI,h1d],rfl⟩
theorem ddown_c (H:ac)(a b:Int)(hb:0<b)(hw : -4611686018427387904<=a/\a<=4611686018427387904):zC 223 [iV a,iV b] H (iV (a/b)) H:=by
 have htd:=eu (a:=a) (b:=b) hb hw
 refine AcT true func223 ?_;intro hbel Q hQ
 refine aC ?_
 refine cn (fun h1=>?_) (fun h1=>?_)
 ·have h1d:=bsT h1
  have hfinq:Int.tdiv a b-1=a/b:=by rw[<-fK hb,if_pos h1d]
  have G1:=jn h1 @h1d
  exact eS G1 hQ hbel (iV ((Int.tdiv a b)-1)) results223 ⟨congrArg (AV.int .i64) hfinq,rfl⟩
 have h1d:=bsT h1
 have hfinq:Int.tdiv a b=a/b:=by rw[<-fK hb,if_neg (by omega)]
 have G2:=jn h1 @h1d
 exact eS G2 hQ hbel (iV (Int.tdiv a b)) results223 ⟨congrArg (AV.int .i64) hfinq,rfl⟩
theorem cz (H:ac)(h n:Int)(hn : -1000<=n/\n<=1000):zC 189 [iV h,iV n] H (.agg [iV (cK h (mxI n 0)),iV (cL h (mxI n 0))]) H:=by
 have hz:(if 0<n then n else 0)=mxI n 0:=by unfold mxI;split<;>split<;>omega
 have hzb:0<=mxI n 0/\mxI n 0<=1000:=by unfold mxI;split<;>omega
 have hdv:=df.1 (e6 h)
 have hm1:=aP (a:=mxI n 0) (b:=(cG h).1) (A:=1000) (B:=8065) (by omega) (by omega)
 have hm2:=aP (a:=mxI n 0) (b:=(cG h).2.1) (A:=1000) (B:=8065) (by omega) (by omega)
 refine AcT true func189 ?_;intro hbel Q hQ
 have G3:=@hz
 refine aa G3 ?_
 refine cvr G3 (dir_c _ h) ?_
 refine cdr G3 (ddown_c _ _ _ (by omega) (by omega)) ?_
 refine cdr G3 (ddown_c _ _ _ (by omega) (by omega)) ?_
 exact eP hQ hbel (.agg [iV (((mxI n 0)*((cG h).1))/((cG h).2.2)),iV (((mxI n 0)*((cG h).2.1))/((cG h).2.2))]) results189 ⟨rfl,rfl⟩
theorem hvv_c (H:ac)(vx vy vd:Int):zC 230 [.agg [iV vx,iV vy,iV vd]] H (.bool (da vx vy vd)) H:=by
 refine AcT true func230 ?_;intro hbel Q hQ
 refine aC ?_
 refine bg (fun h1=>?_) (fun h1=>?_)
 ·have h1d:=bsT h1
  have G1:=jn h1 @h1d
  refine rgs G1 (fun h2 h2d G2=>?_) (fun h2 h2d G11=>?_)
  ·refine rgs G2 (fun h3 h3d G3=>?_) (fun h3 h3d G10=>?_)
   ·refine rgs G3 (fun h4 h4d G4=>?_) (fun h4 h4d G9=>?_)
    ·refine rgs G4 (fun h5 h5d G5=>?_) (fun h5 h5d G8=>?_)
     ·refine rcs G5 (fun h6 h6d G6=>?_) (fun h6 h6d G7=>?_)
      ·exact eR G6 hQ hbel (.bool false) results230 ⟨by (refine congrArg AV.bool ?_;rw[Bool.eq_iff_iff,bj];exact⟨fun e=>(by cases e),fun k=>(by omega)⟩),rfl⟩
      have hm1:=aP (a:=vx) (b:=vx) (A:=67108864) (B:=67108864) (by omega) (by omega)
      have hm2:=aP (a:=vy) (b:=vy) (A:=67108864) (B:=67108864) (by omega) (by omega)
      have hm3:=aP (a:=vd) (b:=vd) (A:=67108864) (B:=67108864) (by omega) (by omega)
      exact eR G7 hQ hbel (.bool (((vx*vx)+(vy*vy))==(vd*vd))) results230 ⟨by (refine congrArg AV.bool ?_;rw[Bool.eq_iff_iff,bj,beq_iff_eq];exact⟨fun e=>⟨⟨by omega,by omega⟩,⟨by omega,by omega⟩,⟨by omega,by omega⟩,e⟩,fun e=>e.2.2.2⟩),rfl⟩
     exact eR G8 hQ hbel (.bool false) results230 ⟨by (refine congrArg AV.bool ?_;rw[Bool.eq_iff_iff,bj];exact⟨fun e=>(by cases e),fun k=>(by omega)⟩),rfl⟩
    exact eR G9 hQ hbel (.bool false) results230 ⟨by (refine congrArg AV.bool ?_;rw[Bool.eq_iff_iff,bj];exact⟨fun e=>(by cases e),fun k=>(by omega)⟩),rfl⟩
   exact eR G10 hQ hbel (.bool false) results230 ⟨by (refine congrArg AV.bool ?_;rw[Bool.eq_iff_iff,bj];exact⟨fun e=>(by cases e),fun k=>(by omega)⟩),rfl⟩
  exact eR G11 hQ hbel (.bool false) results230 ⟨by (refine congrArg AV.bool ?_;rw[Bool.eq_iff_iff,bj];exact⟨fun e=>(by cases e),fun k=>(by omega)⟩),rfl⟩
 have h1d:=bsT h1
 have G12:=jn h1 @h1d
 exact eR G12 hQ hbel (.bool false) results230 ⟨by (refine congrArg AV.bool ?_;rw[Bool.eq_iff_iff,bj];exact⟨fun e=>(by cases e),fun k=>(by omega)⟩),rfl⟩
theorem qJ (H:ac)(x m:Int)(h:0<=m/\m<=4611686018427387904):zC 69 [iV x,iV m] H (.bool (cR x m)) H:=by
 refine AcT true func69 ?_;intro hbel Q hQ
 refine aC ?_
 refine bg (fun h1=>?_) (fun h1=>?_)
 ·have h1d:=bsT h1
  have G13:=jn h1 @h1d
  exact eS G13 hQ hbel (.bool (decide (x<=m))) results69 ⟨by (simp[cR,h1d];omega),rfl⟩
 have h1d:=bsT h1
 have G14:=jn h1 @h1d
 exact eS G14 hQ hbel (.bool false) results69 ⟨by (simp[cR,h1d];omega),rfl⟩
theorem bvec_c (H:ac)(vx vy vd:Int):zC 178 [.agg [iV vx,iV vy,iV vd]] H (.bool (da vx vy vd)) H:=by
 refine AcT true func178 ?_;intro hbel Q hQ
 refine aC ?_
 refine bg (fun h1=>?_) (fun h1=>?_)
 ·have h1d:=bsT h1
  have G15:=jn h1 @h1d
  refine rgs G15 (fun h2 h2d G16=>?_) (fun h2 h2d G21=>?_)
  ·refine aa G16 ?_
   refine cv (qJ _ _ _ (by omega)) ?_
   refine rgs G16 (fun h3 h3d G17=>?_) (fun h3 h3d G20=>?_)
   ·have hwx:=bx.1 h3d
    refine aa G17 ?_
    refine cv (qJ _ _ _ (by omega)) ?_
    refine rgs G17 (fun h4 h4d G18=>?_) (fun h4 h4d G19=>?_)
    ·have hwy:=bx.1 h4d
     have hm1:=aP (a:=vx) (b:=vx) (A:=67108864) (B:=67108864) (by omega) (by omega)
     have hm2:=aP (a:=vy) (b:=vy) (A:=67108864) (B:=67108864) (by omega) (by omega)
     have hm3:=aP (a:=vd) (b:=vd) (A:=67108864) (B:=67108864) (by omega) (by omega)
     exact eR G18 hQ hbel (.bool (((vx*vx)+(vy*vy))==(vd*vd))) results178 ⟨by (refine congrArg AV.bool ?_;rw[Bool.eq_iff_iff,bj,beq_iff_eq];exact⟨fun e=>⟨⟨by omega,by omega⟩,⟨by omega,by omega⟩,⟨by omega,by omega⟩,e⟩,fun e=>e.2.2.2⟩),rfl⟩
    have hwy:¬(-vd<=vy/\vy<=vd):=mt bx.2 (by rw[h4d];decide)
    exact eR G19 hQ hbel (.bool false) results178 ⟨by (refine congrArg AV.bool ?_;rw[Bool.eq_iff_iff,bj];exact⟨fun e=>(by cases e),fun k=>(by omega)⟩),rfl⟩
   have hwx:¬(-vd<=vx/\vx<=vd):=mt bx.2 (by rw[h3d];decide)
   exact eR G20 hQ hbel (.bool false) results178 ⟨by (refine congrArg AV.bool ?_;rw[Bool.eq_iff_iff,bj];exact⟨fun e=>(by cases e),fun k=>(by omega)⟩),rfl⟩
  exact eR G21 hQ hbel (.bool false) results178 ⟨by (refine congrArg AV.bool ?_;rw[Bool.eq_iff_iff,bj];exact⟨fun e=>(by cases e),fun k=>(by omega)⟩),rfl⟩
 have h1d:=bsT h1
 have G22:=jn h1 @h1d
 exact eR G22 hQ hbel (.bool false) results178 ⟨by (refine congrArg AV.bool ?_;rw[Bool.eq_iff_iff,bj];exact⟨fun e=>(by cases e),fun k=>(by omega)⟩),rfl⟩
theorem r4v_c (H:ac)(vx vy vd:Int):zC 221 [.agg [iV vx,iV vy,iV vd]] H (.bool (da vx vy vd)) H:=by
 refine AcT true func221 ?_;intro hbel Q hQ
 refine aC ?_
 refine cv (bvec_c _ _ _ _) ?_
 refine aC ?_
 exact eP hQ hbel (.bool (da vx vy vd)) results221 ⟨rfl,rfl⟩
theorem hturn_c (H:ac)(a b:Vec)(ha:eK a=true)(hb:eK b=true):zC 210 [.agg [iV a.1,iV a.2.1,iV a.2.2],.agg [iV b.1,iV b.2.1,iV b.2.2]] H (.tup [.agg [iV ((eN a b).1),iV ((eN a b).2.1),iV ((eN a b).2.2)],iV 0]) H:=by
 have hka:=df.1 ha
 have hkb:=df.1 hb
 have hBa:=lH ha
 have hBb:=lH hb
 have hT:=(bj.1 (tur_ok ha hb)).1
 unfold eN at hT
 have hm0:=aP (a:=a.1) (b:=b.1) (A:=8065) (B:=8065) (by omega) (by omega)
 have hm1:=aP (a:=a.2.1) (b:=b.2.1) (A:=8065) (B:=8065) (by omega) (by omega)
 have hm2:=aP (a:=a.1) (b:=b.2.1) (A:=8065) (B:=8065) (by omega) (by omega)
 have hm3:=aP (a:=a.2.1) (b:=b.1) (A:=8065) (B:=8065) (by omega) (by omega)
 have hm4:=aP (a:=a.2.2) (b:=b.2.2) (A:=8065) (B:=8065) (by omega) (by omega)
 have hpd:0<a.2.2*b.2.2:=Int.mul_pos (by omega) (by omega)
 have hnr:decide (67108864<(dT (a.1*b.1-a.2.1*b.2.1) (a.1*b.2.1+a.2.1*b.1) (a.2.2*b.2.2)).2.2)=false:=decide_eq_false (by omega)
 refine AcT true func210 ?_;intro hbel Q hQ
 have G23:=jn @hBa (jn @hBb @hnr)
 refine aa G23 ?_
 refine cvr G23 (hvv_c _ _ _ _) ?_
 refine cvr G23 (hvv_c _ _ _ _) ?_
 refine cvr G23 (low_c _ _ _ _ (by omega) (by omega) (by omega) (by omega)) ?_
 exact eP hQ hbel (.tup [.agg [iV ((dT ((a.1*b.1)-(a.2.1*b.2.1)) ((a.1*b.2.1)+(a.2.1*b.1)) (a.2.2*b.2.2)).1),iV ((dT ((a.1*b.1)-(a.2.1*b.2.1)) ((a.1*b.2.1)+(a.2.1*b.1)) (a.2.2*b.2.2)).2.1),iV ((dT ((a.1*b.1)-(a.2.1*b.2.1)) ((a.1*b.2.1)+(a.2.1*b.1)) (a.2.2*b.2.2)).2.2)],iV 0]) results210 ⟨rfl,rfl⟩
theorem rturn_c (H:ac)(a b:Vec)(ha:eK a=true)(hb:eK b=true):zC 183 [.agg [iV a.1,iV a.2.1,iV a.2.2],.agg [iV b.1,iV b.2.1,iV b.2.2]] H (.tup [.agg [iV ((eN a b).1),iV ((eN a b).2.1),iV ((eN a b).2.2)],iV 0]) H:=by
 have hka:=df.1 ha
 have hkb:=df.1 hb
 have hBa:=lH ha
 have hBb:=lH hb
 have hT:=(bj.1 (tur_ok ha hb)).1
 unfold eN at hT
 have hm0:=aP (a:=a.1) (b:=b.1) (A:=8065) (B:=8065) (by omega) (by omega)
 have hm1:=aP (a:=a.2.1) (b:=b.2.1) (A:=8065) (B:=8065) (by omega) (by omega)
 have hm2:=aP (a:=a.1) (b:=b.2.1) (A:=8065) (B:=8065) (by omega) (by omega)
 have hm3:=aP (a:=a.2.1) (b:=b.1) (A:=8065) (B:=8065) (by omega) (by omega)
 have hm4:=aP (a:=a.2.2) (b:=b.2.2) (A:=8065) (B:=8065) (by omega) (by omega)
 have hpd:0<a.2.2*b.2.2:=Int.mul_pos (by omega) (by omega)
 have hnr:decide (67108864<(dT (a.1*b.1-a.2.1*b.2.1) (a.1*b.2.1+a.2.1*b.1) (a.2.2*b.2.2)).2.2)=false:=decide_eq_false (by omega)
 refine AcT true func183 ?_;intro hbel Q hQ
 have G24:=jn @hBa (jn @hBb @hnr)
 refine aa G24 ?_
 refine cvr G24 (r4v_c _ _ _ _) ?_
 refine cvr G24 (r4v_c _ _ _ _) ?_
 refine cvr G24 (rlow_c _ _ _ _ (by omega) (by omega) (by omega) (by omega)) ?_
 exact eP hQ hbel (.tup [.agg [iV ((dT ((a.1*b.1)-(a.2.1*b.2.1)) ((a.1*b.2.1)+(a.2.1*b.1)) (a.2.2*b.2.2)).1),iV ((dT ((a.1*b.1)-(a.2.1*b.2.1)) ((a.1*b.2.1)+(a.2.1*b.1)) (a.2.2*b.2.2)).2.1),iV ((dT ((a.1*b.1)-(a.2.1*b.2.1)) ((a.1*b.2.1)+(a.2.1*b.1)) (a.2.2*b.2.2)).2.2)],iV 0]) results183 ⟨rfl,rfl⟩
theorem hbeam_c (H:ac)(h m:Int):zC 170 [iV h,iV m] H (.agg [iV ((aq h m).1),iV ((aq h m).2.1),iV ((aq h m).2.2)]) H:=by
 refine AcT true func170 ?_;intro hbel Q hQ
 refine aC ?_
 refine cv (dir_c _ h) ?_
 refine aC ?_
 refine cv (dir_c _ m) ?_
 refine aC ?_
 refine cv (hturn_c _ (cG h) (cG m) (e6 _) (e6 _)) ?_
 refine aC ?_
 exact eP hQ hbel (.agg [iV ((eN (cG h) (cG m)).1),iV ((eN (cG h) (cG m)).2.1),iV ((eN (cG h) (cG m)).2.2)]) results170 ⟨rfl,rfl⟩
theorem iG (H:ac)(h m:Int):zC 139 [iV h,iV m] H (.agg [iV ((aq h m).1),iV ((aq h m).2.1),iV ((aq h m).2.2)]) H:=by
 refine AcT true func139 ?_;intro hbel Q hQ
 refine aC ?_
 refine cv (rdir_c _ h) ?_
 refine aC ?_
 refine cv (rdir_c _ m) ?_
 refine aC ?_
 refine cv (rturn_c _ (cG h) (cG m) (e6 _) (e6 _)) ?_
 refine aC ?_
 exact eP hQ hbel (.agg [iV ((eN (cG h) (cG m)).1),iV ((eN (cG h) (cG m)).2.1),iV ((eN (cG h) (cG m)).2.2)]) results139 ⟨rfl,rfl⟩
theorem tmS_hn {px py vx vy vd x0 y0 x1 y1:Int}(hg:thG px py vx vy vd x0 y0 x1 y1=true)(h:tmE px py vx vy x0 y0 x1 y1=false):0<=(tmS px py vx vy x0 y0 x1 y1).2.1:=by
 have hv:=(d4 hg).2
 have ho:okS (tmS px py vx vy x0 y0 x1 y1):=fE hv
 have k:=(jR ho).1 ((tmE_f hv).1 h).2
 have hl:0<=(tmS px py vx vy x0 y0 x1 y1).1.1:=nv
 generalize tmS px py vx vy x0 y0 x1 y1=s at *
 have h1:=ho.1
 have h2:=ho.2
 rcases Int.lt_or_le s.2.1 0 with q|q
 ·have a1:=Int.mul_neg_of_neg_of_pos q h1
  have a2:=Int.mul_nonneg hl (show 0<=s.2.2 by omega)
  omega
 exact q
def rO (px py vx vy vd x0 y0 x1 y1:Int):Bool:=thG px py vx vy vd x0 y0 x1 y1&&!tmE px py vx vy x0 y0 x1 y1
theorem rO_t {px py vx vy vd x0 y0 x1 y1:Int}(h:rO px py vx vy vd x0 y0 x1 y1=true):thG px py vx vy vd x0 y0 x1 y1=true/\tmE px py vx vy x0 y0 x1 y1=false:=by
 unfold rO at h;simpa using h
theorem rO_me {px py vx vy vd x0 y0 x1 y1 lo hi:Int}(h:rO px py vx vy vd x0 y0 x1 y1=false):dr px py vx vy vd lo hi x0 y0 x1 y1=false/\cX px py vx vy vd hi x0 y0 x1 y1=false:=by
 rw[iC,lK]
 unfold gT jx
 unfold rO at h
 cases hg:thG px py vx vy vd x0 y0 x1 y1
 ·simp
 rw[hg,Bool.true_and] at h;rw[h];simp
def enN (px py vx vy vd x0 y0 x1 y1:Int):Int:=lwN ((tmS px py vx vy x0 y0 x1 y1).1.1*vd) (tmS px py vx vy x0 y0 x1 y1).1.2
def enD (px py vx vy vd x0 y0 x1 y1:Int):Int:=lwD ((tmS px py vx vy x0 y0 x1 y1).1.1*vd) (tmS px py vx vy x0 y0 x1 y1).1.2
def lvN (px py vx vy vd x0 y0 x1 y1:Int):Int:=lwN ((tmS px py vx vy x0 y0 x1 y1).2.1*vd) (tmS px py vx vy x0 y0 x1 y1).2.2
def lvD (px py vx vy vd x0 y0 x1 y1:Int):Int:=lwD ((tmS px py vx vy x0 y0 x1 y1).2.1*vd) (tmS px py vx vy x0 y0 x1 y1).2.2
theorem en_bd {px py vx vy vd x0 y0 x1 y1:Int}(h:rO px py vx vy vd x0 y0 x1 y1=true):((0<=enN px py vx vy vd x0 y0 x1 y1/\enN px py vx vy vd x0 y0 x1 y1<=562949953421312)/\0<enD px py vx vy vd x0 y0 x1 y1/\enD px py vx vy vd x0 y0 x1 y1<=67108864)/\(0<=lvN px py vx vy vd x0 y0 x1 y1/\lvN px py vx vy vd x0 y0 x1 y1<=562949953421312)/\0<lvD px py vx vy vd x0 y0 x1 y1/\lvD px py vx vy vd x0 y0 x1 y1<=67108864:=by
 obtain⟨hg,he⟩:=rO_t h
 obtain⟨⟨b1,b2⟩,b3,b4⟩:=tmS_bd hg
 have hn:0<=(tmS px py vx vy x0 y0 x1 y1).1.1:=nv
 have hh:=tmS_hn hg he
 have hv:=bj.1 (dj.1 hg).2.1
 have m1:=aP (a:=(tmS px py vx vy x0 y0 x1 y1).1.1) (b:=vd) (A:=8388608) (B:=67108864) (by omega) (by omega)
 have m2:=aP (a:=(tmS px py vx vy x0 y0 x1 y1).2.1) (b:=vd) (A:=8388608) (B:=67108864) (by omega) (by omega)
 have n1:=Int.mul_nonneg hn (show 0<=vd by omega)
 have n2:=Int.mul_nonneg hh (show 0<=vd by omega)
 have q1:=lw_bd (n:=(tmS px py vx vy x0 y0 x1 y1).1.1*vd) (d:=(tmS px py vx vy x0 y0 x1 y1).1.2) (B:=562949953421312) (by omega) (by omega)
 have q2:=lw_bd (n:=(tmS px py vx vy x0 y0 x1 y1).2.1*vd) (d:=(tmS px py vx vy x0 y0 x1 y1).2.2) (B:=562949953421312) (by omega) (by omega)
 unfold enN enD lvN lvD
 omega
theorem en_le {px py vx vy vd x0 y0 x1 y1 hi:Int}(h:rO px py vx vy vd x0 y0 x1 y1=true):(enN px py vx vy vd x0 y0 x1 y1<=hi*enD px py vx vy vd x0 y0 x1 y1↔(tmS px py vx vy x0 y0 x1 y1).1.1*vd<=hi*(tmS px py vx vy x0 y0 x1 y1).1.2)/\(enN px py vx vy vd x0 y0 x1 y1<hi*enD px py vx vy vd x0 y0 x1 y1↔(tmS px py vx vy x0 y0 x1 y1).1.1*vd<hi*(tmS px py vx vy x0 y0 x1 y1).1.2)/\(hi*lvD px py vx vy vd x0 y0 x1 y1<=lvN px py vx vy vd x0 y0 x1 y1↔hi*(tmS px py vx vy x0 y0 x1 y1).2.2<=(tmS px py vx vy x0 y0 x1 y1).2.1*vd):=by
 obtain⟨hg,he⟩:=rO_t h
 have ho:okS (tmS px py vx vy x0 y0 x1 y1):=fE (d4 hg).2
 exact⟨(lw_le ho.1).1,lw_lt ho.1,(lw_le ho.2).2⟩
theorem ax_neg {p d a b:Int}(h:d<0):(sbL (0-p) (0-d) (0-b) (0-a)=sbL p d a b/\sbH (0-p) (0-d) (0-b) (0-a)=sbH p d a b):=by
 unfold sbL sbH
 simp only[if_neg (show ¬0-d<0 by omega),if_pos h]
 exact⟨Prod.ext (by simp only;omega) (by simp only;omega),Prod.ext (by simp only;omega) (by simp only;omega)⟩
def axI (d n:Int):Int:=if d=0 then 0 else n
def axA (p d a b:Int):Bool:=decide (d=0)&&!axE p d a b
theorem lP {p d a b:Int}(h:¬d=0):axE p d a b=false/\axA p d a b=false:=by
 unfold axA axE;rw[decide_eq_false h];exact⟨rfl,rfl⟩
def tiV (px py vx vy x0 y0 x1 y1:Int):Fr2×Fr2:=if tmE px py vx vy x0 y0 x1 y1=true then ((0,0),(0,0)) else tmS px py vx vy x0 y0 x1 y1
theorem lw_tdiv {n d:Int}(hn:0<=n)(hd:0<d):Int.tdiv n (Int.gcd n d:Int)=lwN n d/\Int.tdiv d (Int.gcd n d:Int)=lwD n d:=⟨Int.tdiv_eq_ediv_of_nonneg hn,Int.tdiv_eq_ediv_of_nonneg (by omega)⟩
theorem axis0_c (H:ac)(p d a b:Int)(h1 : -2097152<=p/\p<=2097152)(h2 : -67108864<=d/\d<=67108864)(h3 : -2097152<=a/\a<=2097152)(h4 : -2097152<=b/\b<=2097152)(hd0:0<=d):zC 245 [iV p,iV d,iV a,iV b] H (.agg [iV (axI d (sbL p d a b).1),iV (axI d (sbL p d a b).2),iV (axI d (sbH p d a b).1),iV (axI d (sbH p d a b).2),.bool (axE p d a b),.bool (axA p d a b)]) H:=by
 have hnn:decide (d<0)=false:=decide_eq_false (by omega)
 refine AcT true func245 ?_;intro hbel Q hQ
 have G1:=@hnn
 refine rgs G1 (fun h1 h1d _=>?_) (fun h1 h1d _=>?_)
 ·have h1n:=bnT h1
  have hd:d=0:=by simpa using h1d
  have G2:=jn h1 (jn h1n (jn @aK (jn @aJ G1)))
  refine rgs G2 (fun h2 h2d G3=>?_) (fun h2 h2d G6=>?_)
  ·refine rcs G3 (fun h3 h3d G4=>?_) (fun h3 h3d G5=>?_)
   ·exact eR G4 hQ hbel (.agg [iV 0,iV 0,iV 0,iV 0,.bool true,.bool false]) results245 ⟨by simp[axI,axE,axA,hd,h2d,h3d,h1d],rfl⟩
   exact eR G5 hQ hbel (.agg [iV 0,iV 0,iV 0,iV 0,.bool false,.bool true]) results245 ⟨by simp[axI,axE,axA,hd,h2d,h3d,h1d],rfl⟩
  exact eR G6 hQ hbel (.agg [iV 0,iV 0,iV 0,iV 0,.bool true,.bool false]) results245 ⟨by simp[axI,axE,axA,hd,h2d,h1d],rfl⟩
 have h1n:=bnT h1
 have hd:¬d=0:=by simpa using h1d
 have hdp:¬d<0:=by omega
 have G7:=jn h1 (jn h1n (jn @aK (jn @aJ G1)))
 exact eR G7 hQ hbel (.agg [iV (a-p),iV d,iV (b-p),iV d,.bool false,.bool false]) results245 ⟨by simp[axI,axE,axA,sbL,sbH,hd,hdp,h1d],rfl⟩
theorem axis_c (H:ac)(p d a b:Int)(h1 : -2097152<=p/\p<=2097152)(h2 : -67108864<=d/\d<=67108864)(h3 : -2097152<=a/\a<=2097152)(h4 : -2097152<=b/\b<=2097152):zC 245 [iV p,iV d,iV a,iV b] H (.agg [iV (axI d (sbL p d a b).1),iV (axI d (sbL p d a b).2),iV (axI d (sbH p d a b).1),iV (axI d (sbH p d a b).2),.bool (axE p d a b),.bool (axA p d a b)]) H:=by
 refine AcT true func245 ?_;intro hbel Q hQ
 refine aC ?_
 refine bg (fun h1=>?_) (fun h1=>?_)
 ·have h1d:=bsT h1
  have h1n:=bnT h1
  have hd:d=0:=by simpa using h1d
  have G8:=jn h1 (jn h1n (jn @aK @aJ))
  refine rgs G8 (fun h2 h2d G9=>?_) (fun h2 h2d G12=>?_)
  ·refine rcs G9 (fun h3 h3d G10=>?_) (fun h3 h3d G11=>?_)
   ·exact eR G10 hQ hbel (.agg [iV 0,iV 0,iV 0,iV 0,.bool true,.bool false]) results245 ⟨by simp[axI,axE,axA,hd,h2d,h3d,h1d],rfl⟩
   exact eR G11 hQ hbel (.agg [iV 0,iV 0,iV 0,iV 0,.bool false,.bool true]) results245 ⟨by simp[axI,axE,axA,hd,h2d,h3d,h1d],rfl⟩
  exact eR G12 hQ hbel (.agg [iV 0,iV 0,iV 0,iV 0,.bool true,.bool false]) results245 ⟨by simp[axI,axE,axA,hd,h2d,h1d],rfl⟩
 have h1d:=bsT h1
 have h1n:=bnT h1
 have hd:¬d=0:=by simpa using h1d
 have G13:=jn h1 (jn h1n (jn @aK @aJ))
 refine rcs G13 (fun h4 h4d G14=>?_) (fun h4 h4d G15=>?_)
 ·have hdn:=h4d
  have hax:=ax_neg (p:=p) (a:=a) (b:=b) hdn
  have hx0:=lP (p:=p) (a:=a) (b:=b) hd
  have hx1:=lP (p:=0-p) (d:=0-d) (a:=0-b) (b:=0-a) (by omega)
  refine aa G14 ?_
  refine cvr G14 (axis0_c _ _ _ _ _ (by omega) (by omega) (by omega) (by omega) (by omega)) ?_
  exact eP hQ hbel (.agg [iV (axI (0-d) (sbL (0-p) (0-d) (0-b) (0-a)).1),iV (axI (0-d) (sbL (0-p) (0-d) (0-b) (0-a)).2),iV (axI (0-d) (sbH (0-p) (0-d) (0-b) (0-a)).1),iV (axI (0-d) (sbH (0-p) (0-d) (0-b) (0-a)).2),.bool (axE (0-p) (0-d) (0-b) (0-a)),.bool (axA (0-p) (0-d) (0-b) (0-a))]) results245 ⟨by rw[hax.1,hax.2,hx1.1,hx1.2,hx0.1,hx0.2];unfold axI;rw[if_neg hd,if_neg hd,if_neg hd,if_neg hd,if_neg (show ¬0-d=0 by omega),if_neg (show ¬0-d=0 by omega),if_neg (show ¬0-d=0 by omega),if_neg (show ¬0-d=0 by omega)],rfl⟩
 have hdp:¬d<0:=h4d
 exact eR G15 hQ hbel (.agg [iV (a-p),iV d,iV (b-p),iV d,.bool false,.bool false]) results245 ⟨by simp[axI,axE,axA,sbL,sbH,hd,hdp,h4d,h1d],rfl⟩
theorem axis_z (H:ac)(p d a b:Int)(h1 : -2097152<=p/\p<=2097152)(h2 : -67108864<=d/\d<=67108864)(h3 : -2097152<=a/\a<=2097152)(h4 : -2097152<=b/\b<=2097152)(h:decide (d=0)=true):zC 245 [iV p,iV d,iV a,iV b] H (.agg [iV 0,iV 0,iV 0,iV 0,.bool (axE p d a b),.bool (!(axE p d a b))]) H:=by
 have q:=axis_c H p d a b h1 h2 h3 h4
 unfold axA axI at q
 rw[h,if_pos (of_decide_eq_true h),if_pos (of_decide_eq_true h),if_pos (of_decide_eq_true h),if_pos (of_decide_eq_true h),Bool.true_and] at q
 exact q
theorem axis_n (H:ac)(p d a b:Int)(h1 : -2097152<=p/\p<=2097152)(h2 : -67108864<=d/\d<=67108864)(h3 : -2097152<=a/\a<=2097152)(h4 : -2097152<=b/\b<=2097152)(h:decide (d=0)=false):zC 245 [iV p,iV d,iV a,iV b] H (.agg [iV (sbL p d a b).1,iV (sbL p d a b).2,iV (sbH p d a b).1,iV (sbH p d a b).2,.bool false,.bool false]) H:=by
 have q:=axis_c H p d a b h1 h2 h3 h4
 have e:=lP (p:=p) (a:=a) (b:=b) (of_decide_eq_false h)
 unfold axI at q
 rw[if_neg (of_decide_eq_false h),if_neg (of_decide_eq_false h),if_neg (of_decide_eq_false h),if_neg (of_decide_eq_false h),e.1,e.2] at q
 exact q
theorem times_c (H:ac)(px py vx vy vd x0 y0 x1 y1:Int)(hg:thG px py vx vy vd x0 y0 x1 y1=true):zC 235 [.agg [iV px,iV py],.agg [iV vx,iV vy,iV vd],.agg [iV x0,iV y0,iV x1,iV y1]] H (.agg [iV ((tiV px py vx vy x0 y0 x1 y1).1.1),iV ((tiV px py vx vy x0 y0 x1 y1).1.2),iV ((tiV px py vx vy x0 y0 x1 y1).2.1),iV ((tiV px py vx vy x0 y0 x1 y1).2.2),.bool (tmE px py vx vy x0 y0 x1 y1),.bool false]) H:=by
 have hz:=(d4 hg).2
 have hvP:=fX.1 (dj.1 hg).1
 have hvV:=bj.1 (dj.1 hg).2.1
 have hvR:=cS.1 (dj.1 hg).2.2
 (refine aR func235 _ rfl (Nat.le_of_ble_eq_true (by kernel_rfl)) rfl ?_;intro hbel Q hQ hQ' c hc;unfold Tryz.f235 at hc;simp only[Option.some.injEq] at hc;subst hc;clear hQ')
 refine zQT hQ fun Q1 hn1 hQ1 he1=>?_
 refine aC ?_
 refine hn1 _ _ (zQT hQ fun Q2 hn2 hQ2 he2=>?_)
 refine aC ?_
 rcases Bool.eq_false_or_eq_true (decide (vx=0)) with h1|h1
 ·have h1d:=h1
  have hX0:vx=0:=by simpa using h1d
  refine cv (axis_z _ _ _ _ _ (by omega) (by omega) (by omega) (by omega) (by assumption)) ?_
  have G1:=jn h1 @h1d
  refine aa G1 ?_
  refine hn2 _ _ (zQT hQ fun Q3 hn3 hQ3 he3=>?_)
  refine aa G1 ?_
  rcases Bool.eq_false_or_eq_true (decide (vy=0)) with h2|h2
  ·have h2d:=h2
   have hY0:vy=0:=by simpa using h2d
   exact absurd ⟨hX0,hY0⟩ hz
  have h2d:=h2
  have hnY:¬vy=0:=by simpa using h2d
  have haY:=(lP (p:=py) (a:=y0) (b:=y1) hnY).1
  have hbY:=lJ (p:=py) (d:=vy) (a:=y0) (b:=y1) (by omega) (by omega) (by omega) (by omega) hnY
  obtain⟨⟨hbY1,hbY2,hbY3⟩,hbY4,hbY5,hbY6⟩:=hbY
  have hpy5:=aP (a:=(sbL py vy y0 y1).1) (b:=(sbL py vy y0 y1).2) (A:=8388608) (B:=67108864) (by omega) (by omega)
  have hpy7:=aP (a:=(sbL py vy y0 y1).1) (b:=(sbH py vy y0 y1).2) (A:=8388608) (B:=67108864) (by omega) (by omega)
  have hpy13:=aP (a:=(sbH py vy y0 y1).1) (b:=(sbL py vy y0 y1).2) (A:=8388608) (B:=67108864) (by omega) (by omega)
  have hpy15:=aP (a:=(sbH py vy y0 y1).1) (b:=(sbH py vy y0 y1).2) (A:=8388608) (B:=67108864) (by omega) (by omega)
  try have hpq1:=aP (a:=(sbL px vx x0 x1).1) (b:=(sbL py vy y0 y1).2) (A:=8388608) (B:=67108864) (by omega) (by omega)
  try have hpq3:=aP (a:=(sbL px vx x0 x1).1) (b:=(sbH py vy y0 y1).2) (A:=8388608) (B:=67108864) (by omega) (by omega)
  try have hpq4:=aP (a:=(sbL py vy y0 y1).1) (b:=(sbL px vx x0 x1).2) (A:=8388608) (B:=67108864) (by omega) (by omega)
  try have hpq6:=aP (a:=(sbL py vy y0 y1).1) (b:=(sbH px vx x0 x1).2) (A:=8388608) (B:=67108864) (by omega) (by omega)
  try have hpq9:=aP (a:=(sbH px vx x0 x1).1) (b:=(sbL py vy y0 y1).2) (A:=8388608) (B:=67108864) (by omega) (by omega)
  try have hpq11:=aP (a:=(sbH px vx x0 x1).1) (b:=(sbH py vy y0 y1).2) (A:=8388608) (B:=67108864) (by omega) (by omega)
  try have hpq12:=aP (a:=(sbH py vy y0 y1).1) (b:=(sbL px vx x0 x1).2) (A:=8388608) (B:=67108864) (by omega) (by omega)
  try have hpq14:=aP (a:=(sbH py vy y0 y1).1) (b:=(sbH px vx x0 x1).2) (A:=8388608) (B:=67108864) (by omega) (by omega)
  refine cv (axis_n _ _ _ _ _ (by omega) (by omega) (by omega) (by omega) (by assumption)) ?_
  have G2:=j2 h2 h2d G1
  refine aa G2 ?_
  refine hn3 _ _ (zQT hQ fun Q4 hn4 hQ4 he4=>?_)
  refine rgs G2 (fun h3 h3d G3=>?_) (fun h3 h3d G12=>?_)
  ·have haX:=h3d
   refine aa G3 ?_
   refine hn4 _ _ (zQT hQ fun Q5 hn5 hQ5 he5=>?_)
   refine aa G3 ?_
   refine hn5 _ _ (zQT hQ fun Q6 hn6 hQ6 he6=>?_)
   refine aa G3 ?_
   refine hn6 _ _ (sqR hQ fun Q7 hn7 hQ7 he7=>?_)
   refine zQT hQ7 fun Q8 hn8 hQ8 he8=>?_
   have q4:=decide_eq_false (Int.lt_irrefl (((sbL py vy y0 y1).1)*((sbL py vy y0 y1).2)))
   have G4:=jn q4 G3
   refine aa G4 ?_
   refine hn8 _ _ ?_
   refine db false (by rfl) (fun h=>by cases h) (fun h=>?_)
   refine fnT ?_
   refine aa G4 ?_
   refine hn7 _ _ (sqR hQ fun Q9 hn9 hQ9 he9=>?_)
   refine zQT hQ9 fun Q10 hn10 hQ10 he10=>?_
   have q5:=decide_eq_false (Int.lt_irrefl (((sbH py vy y0 y1).1)*((sbH py vy y0 y1).2)))
   have G5:=jn q5 G4
   refine aa G5 ?_
   refine hn10 _ _ ?_
   refine db false (by rfl) (fun h=>by cases h) (fun h=>?_)
   refine fnT ?_
   refine aa G5 ?_
   refine hn9 _ _ ?_
   refine fnT ?_
   refine rcs G5 (fun h6 h6d G6=>?_) (fun h6 h6d G9=>?_)
   ·refine rcs G6 (fun h7 h7d G7=>?_) (fun h7 h7d G8=>?_)
    ·exact eR G7 hQ hbel (.agg [iV 0,iV 0,iV 0,iV 0,.bool true,.bool false]) results235 ⟨by simp only[tiV,tmE,tmS,tmL,tmH,mxF,mnF,lo0,haX,haY,h1d,h2d,h3d,h6d,h7d,if_pos hX0,if_neg hnY,Int.lt_irrefl,ite_self,if_true,if_false,decide_true,decide_false,Bool.or_true,Bool.or_false,Bool.or_self,Bool.false_eq_true],rfl⟩
    exact eR G8 hQ hbel (.agg [iV 0,iV 1,iV ((sbH py vy y0 y1).1),iV ((sbH py vy y0 y1).2),.bool false,.bool false]) results235 ⟨by simp only[tiV,tmE,tmS,tmL,tmH,mxF,mnF,lo0,haX,haY,h1d,h2d,h3d,h6d,h7d,if_pos hX0,if_neg hnY,Int.lt_irrefl,ite_self,if_true,if_false,decide_true,decide_false,Bool.or_true,Bool.or_false,Bool.or_self,Bool.false_eq_true],rfl⟩
   refine rcs G9 (fun h8 h8d G10=>?_) (fun h8 h8d G11=>?_)
   ·exact eR G10 hQ hbel (.agg [iV 0,iV 0,iV 0,iV 0,.bool true,.bool false]) results235 ⟨by simp only[tiV,tmE,tmS,tmL,tmH,mxF,mnF,lo0,haX,haY,h1d,h2d,h3d,h6d,h8d,if_pos hX0,if_neg hnY,Int.lt_irrefl,ite_self,if_true,if_false,decide_true,decide_false,Bool.or_true,Bool.or_false,Bool.or_self,Bool.false_eq_true],rfl⟩
   exact eR G11 hQ hbel (.agg [iV ((sbL py vy y0 y1).1),iV ((sbL py vy y0 y1).2),iV ((sbH py vy y0 y1).1),iV ((sbH py vy y0 y1).2),.bool false,.bool false]) results235 ⟨by simp only[tiV,tmE,tmS,tmL,tmH,mxF,mnF,lo0,haX,haY,h1d,h2d,h3d,h6d,h8d,if_pos hX0,if_neg hnY,Int.lt_irrefl,ite_self,if_true,if_false,decide_true,decide_false,Bool.or_true,Bool.or_false,Bool.or_self,Bool.false_eq_true],rfl⟩
  have hfinE:tmE px py vx vy x0 y0 x1 y1=true:=by unfold tmE;rw[h3d];rfl
  exact eR G12 hQ4 hbel (.agg [iV 0,iV 0,iV 0,iV 0,.bool true,.bool false]) results235 ⟨by (unfold tiV;rw[hfinE];rfl),rfl⟩
 have h1d:=h1
 have hnX:¬vx=0:=by simpa using h1d
 have haX:=(lP (p:=px) (a:=x0) (b:=x1) hnX).1
 have hbX:=lJ (p:=px) (d:=vx) (a:=x0) (b:=x1) (by omega) (by omega) (by omega) (by omega) hnX
 obtain⟨⟨hbX1,hbX2,hbX3⟩,hbX4,hbX5,hbX6⟩:=hbX
 have hpx0:=aP (a:=(sbL px vx x0 x1).1) (b:=(sbL px vx x0 x1).2) (A:=8388608) (B:=67108864) (by omega) (by omega)
 have hpx2:=aP (a:=(sbL px vx x0 x1).1) (b:=(sbH px vx x0 x1).2) (A:=8388608) (B:=67108864) (by omega) (by omega)
 have hpx8:=aP (a:=(sbH px vx x0 x1).1) (b:=(sbL px vx x0 x1).2) (A:=8388608) (B:=67108864) (by omega) (by omega)
 have hpx10:=aP (a:=(sbH px vx x0 x1).1) (b:=(sbH px vx x0 x1).2) (A:=8388608) (B:=67108864) (by omega) (by omega)
 refine cv (axis_n _ _ _ _ _ (by omega) (by omega) (by omega) (by omega) (by assumption)) ?_
 have G13:=jn h1 @h1d
 refine aa G13 ?_
 refine hn2 _ _ (zQT hQ fun Q11 hn11 hQ11 he11=>?_)
 refine aa G13 ?_
 rcases Bool.eq_false_or_eq_true (decide (vy=0)) with h9|h9
 ·have h9d:=h9
  have hY0:vy=0:=by simpa using h9d
  refine cv (axis_z _ _ _ _ _ (by omega) (by omega) (by omega) (by omega) (by assumption)) ?_
  have G14:=j2 h9 h9d G13
  refine aa G14 ?_
  refine hn11 _ _ (zQT hQ fun Q12 hn12 hQ12 he12=>?_)
  refine rcs G14 (fun h10 h10d G15=>?_) (fun h10 h10d G16=>?_)
  ·have hfinE:tmE px py vx vy x0 y0 x1 y1=true:=by unfold tmE;rw[h10d];simp
   exact eR G15 hQ12 hbel (.agg [iV 0,iV 0,iV 0,iV 0,.bool true,.bool false]) results235 ⟨by (unfold tiV;rw[hfinE];rfl),rfl⟩
  have haY:=h10d
  refine aa G16 ?_
  refine hn12 _ _ (zQT hQ fun Q13 hn13 hQ13 he13=>?_)
  refine aa G16 ?_
  refine hn13 _ _ (zQT hQ fun Q14 hn14 hQ14 he14=>?_)
  refine aa G16 ?_
  refine hn14 _ _ (sqR hQ fun Q15 hn15 hQ15 he15=>?_)
  refine zQT hQ15 fun Q16 hn16 hQ16 he16=>?_
  have q11:=decide_eq_false (Int.lt_irrefl (((sbL px vx x0 x1).1)*((sbL px vx x0 x1).2)))
  have G17:=jn q11 G16
  refine aa G17 ?_
  refine hn16 _ _ ?_
  refine db false (by rfl) (fun h=>by cases h) (fun h=>?_)
  refine fnT ?_
  refine aa G17 ?_
  refine hn15 _ _ (sqR hQ fun Q17 hn17 hQ17 he17=>?_)
  refine zQT hQ17 fun Q18 hn18 hQ18 he18=>?_
  have q12:=decide_eq_false (Int.lt_irrefl (((sbH px vx x0 x1).1)*((sbH px vx x0 x1).2)))
  have G18:=jn q12 G17
  refine aa G18 ?_
  refine hn18 _ _ ?_
  refine db false (by rfl) (fun h=>by cases h) (fun h=>?_)
  refine fnT ?_
  refine aa G18 ?_
  refine hn17 _ _ ?_
  refine fnT ?_
  refine rcs G18 (fun h13 h13d G19=>?_) (fun h13 h13d G22=>?_)
  ·refine rcs G19 (fun h14 h14d G20=>?_) (fun h14 h14d G21=>?_)
   ·exact eR G20 hQ hbel (.agg [iV 0,iV 0,iV 0,iV 0,.bool true,.bool false]) results235 ⟨by simp only[tiV,tmE,tmS,tmL,tmH,mxF,mnF,lo0,haX,haY,h1d,h9d,h10d,h13d,h14d,if_neg hnX,if_pos hY0,Int.lt_irrefl,ite_self,if_true,if_false,decide_true,decide_false,Bool.or_true,Bool.or_false,Bool.or_self,Bool.false_eq_true],rfl⟩
   exact eR G21 hQ hbel (.agg [iV 0,iV 1,iV ((sbH px vx x0 x1).1),iV ((sbH px vx x0 x1).2),.bool false,.bool false]) results235 ⟨by simp only[tiV,tmE,tmS,tmL,tmH,mxF,mnF,lo0,haX,haY,h1d,h9d,h10d,h13d,h14d,if_neg hnX,if_pos hY0,Int.lt_irrefl,ite_self,if_true,if_false,decide_true,decide_false,Bool.or_true,Bool.or_false,Bool.or_self,Bool.false_eq_true],rfl⟩
  refine rcs G22 (fun h15 h15d G23=>?_) (fun h15 h15d G24=>?_)
  ·exact eR G23 hQ hbel (.agg [iV 0,iV 0,iV 0,iV 0,.bool true,.bool false]) results235 ⟨by simp only[tiV,tmE,tmS,tmL,tmH,mxF,mnF,lo0,haX,haY,h1d,h9d,h10d,h13d,h15d,if_neg hnX,if_pos hY0,Int.lt_irrefl,ite_self,if_true,if_false,decide_true,decide_false,Bool.or_true,Bool.or_false,Bool.or_self,Bool.false_eq_true],rfl⟩
  exact eR G24 hQ hbel (.agg [iV ((sbL px vx x0 x1).1),iV ((sbL px vx x0 x1).2),iV ((sbH px vx x0 x1).1),iV ((sbH px vx x0 x1).2),.bool false,.bool false]) results235 ⟨by simp only[tiV,tmE,tmS,tmL,tmH,mxF,mnF,lo0,haX,haY,h1d,h9d,h10d,h13d,h15d,if_neg hnX,if_pos hY0,Int.lt_irrefl,ite_self,if_true,if_false,decide_true,decide_false,Bool.or_true,Bool.or_false,Bool.or_self,Bool.false_eq_true],rfl⟩
 have h9d:=h9
 have hnY:¬vy=0:=by simpa using h9d
 have haY:=(lP (p:=py) (a:=y0) (b:=y1) hnY).1
 have hbY:=lJ (p:=py) (d:=vy) (a:=y0) (b:=y1) (by omega) (by omega) (by omega) (by omega) hnY
 obtain⟨⟨hbY1,hbY2,hbY3⟩,hbY4,hbY5,hbY6⟩:=hbY
 have hpy5:=aP (a:=(sbL py vy y0 y1).1) (b:=(sbL py vy y0 y1).2) (A:=8388608) (B:=67108864) (by omega) (by omega)
 have hpy7:=aP (a:=(sbL py vy y0 y1).1) (b:=(sbH py vy y0 y1).2) (A:=8388608) (B:=67108864) (by omega) (by omega)
 have hpy13:=aP (a:=(sbH py vy y0 y1).1) (b:=(sbL py vy y0 y1).2) (A:=8388608) (B:=67108864) (by omega) (by omega)
 have hpy15:=aP (a:=(sbH py vy y0 y1).1) (b:=(sbH py vy y0 y1).2) (A:=8388608) (B:=67108864) (by omega) (by omega)
 try have hpq1:=aP (a:=(sbL px vx x0 x1).1) (b:=(sbL py vy y0 y1).2) (A:=8388608) (B:=67108864) (by omega) (by omega)
 try have hpq3:=aP (a:=(sbL px vx x0 x1).1) (b:=(sbH py vy y0 y1).2) (A:=8388608) (B:=67108864) (by omega) (by omega)
 try have hpq4:=aP (a:=(sbL py vy y0 y1).1) (b:=(sbL px vx x0 x1).2) (A:=8388608) (B:=67108864) (by omega) (by omega)
 try have hpq6:=aP (a:=(sbL py vy y0 y1).1) (b:=(sbH px vx x0 x1).2) (A:=8388608) (B:=67108864) (by omega) (by omega)
 try have hpq9:=aP (a:=(sbH px vx x0 x1).1) (b:=(sbL py vy y0 y1).2) (A:=8388608) (B:=67108864) (by omega) (by omega)
 try have hpq11:=aP (a:=(sbH px vx x0 x1).1) (b:=(sbH py vy y0 y1).2) (A:=8388608) (B:=67108864) (by omega) (by omega)
 try have hpq12:=aP (a:=(sbH py vy y0 y1).1) (b:=(sbL px vx x0 x1).2) (A:=8388608) (B:=67108864) (by omega) (by omega)
 try have hpq14:=aP (a:=(sbH py vy y0 y1).1) (b:=(sbH px vx x0 x1).2) (A:=8388608) (B:=67108864) (by omega) (by omega)
 refine cv (axis_n _ _ _ _ _ (by omega) (by omega) (by omega) (by omega) (by assumption)) ?_
 have G25:=j2 h9 h9d G13
 refine aa G25 ?_
 refine hn11 _ _ (zQT hQ fun Q19 hn19 hQ19 he19=>?_)
 refine aa G25 ?_
 refine hn19 _ _ (zQT hQ fun Q20 hn20 hQ20 he20=>?_)
 refine aa G25 ?_
 refine hn20 _ _ (zQT hQ fun Q21 hn21 hQ21 he21=>?_)
 refine aa G25 ?_
 refine hn21 _ _ (sqR hQ fun Q22 hn22 hQ22 he22=>?_)
 refine zQT hQ22 fun Q23 hn23 hQ23 he23=>?_
 refine aa G25 ?_
 refine hn23 _ _ ?_
 refine db (decide ((((sbL px vx x0 x1).1)*((sbL py vy y0 y1).2))<(((sbL py vy y0 y1).1)*((sbL px vx x0 x1).2)))) (by rfl) (fun h16=>?_) (fun h16=>?_)
 ·have h16d:=bsT h16
  refine ep true try_mixed [[0,1,2,3,4,5,6,7],[0,1,2,4,5,3,6,7]] (by kernel_rfl) (fun F2 H2=>F2=[(6,.ptr (some (H.length,0))),(7,.ptr (some (H.length+1,0))),(8,.ptr (some (H.length+2,0)))]/\H2=H++[.cells true 0 [iV 0,iV 0,iV 0,iV 0,.bool false,.bool false],.cells true 0 [iV ((sbL py vy y0 y1).1),iV ((sbL py vy y0 y1).2),iV ((sbH px vx x0 x1).1),iV ((sbH px vx x0 x1).2),.bool false,.bool false],.cells true 0 [iV ((sbL py vy y0 y1).1),iV ((sbL py vy y0 y1).2),iV ((sbH py vy y0 y1).1),iV ((sbH py vy y0 y1).2),.bool false,.bool false]]) ?_ ?_
  ·refine af ?_ (af ?_ (aQ))<;>intro J hJ
   ·have G26:=j2 h16 h16d G25
    refine ag G26 ?_
    refine ai (hJ _ _ ⟨_,_,_,⟨rfl,rfl⟩,bS hbel [3,4,5] ar⟩)
   have G27:=j2 h16 h16d G25
   refine ag G27 ?_
   refine ai (hJ _ _ ⟨_,_,_,⟨rfl,rfl⟩,bS hbel [3,4,5] ar⟩)
  rintro F2 H2 ⟨rfl,rfl⟩
  refine hn22 _ _ (sqR hQ fun Q24 hn24 hQ24 he24=>?_)
  refine zQT hQ24 fun Q25 hn25 hQ25 he25=>?_
  have G28:=j2 h16 h16d G25
  refine aa G28 ?_
  refine hn25 _ _ ?_
  refine db (decide ((((sbH py vy y0 y1).1)*((sbH px vx x0 x1).2))<(((sbH px vx x0 x1).1)*((sbH py vy y0 y1).2)))) (by rfl) (fun h17=>?_) (fun h17=>?_)
  ·have h17d:=bsT h17
   refine ep true try_mixed [[0,1,2,3,4,5,6,7],[0,1,2,4,5,3,6,7]] (by kernel_rfl) (fun F2 H2=>F2=[(6,.ptr (some (H.length,0))),(7,.ptr (some (H.length+1,0)))]/\H2=H++[.cells true 0 [iV 0,iV 0,iV 0,iV 0,.bool false,.bool false],.cells true 0 [iV ((sbL py vy y0 y1).1),iV ((sbL py vy y0 y1).2),iV ((sbH py vy y0 y1).1),iV ((sbH py vy y0 y1).2),.bool false,.bool false]]) ?_ ?_
   ·refine af ?_ (af ?_ (aQ))<;>intro J hJ
    ·have G29:=j2 h17 h17d G28
     refine ag G29 ?_
     refine ai (hJ _ _ ⟨_,_,_,⟨rfl,rfl⟩,bS hbel [0,1] ar⟩)
    have G30:=j2 h17 h17d G28
    refine ag G30 ?_
    refine ai (hJ _ _ ⟨_,_,_,⟨rfl,rfl⟩,bS hbel [0,1] ar⟩)
   rintro F2 H2 ⟨rfl,rfl⟩
   refine hn24 _ _ ?_
   refine fnT ?_
   have G31:=j2 h17 h17d G28
   refine rcs G31 (fun h18 h18d G32=>?_) (fun h18 h18d G35=>?_)
   ·refine rcs G32 (fun h19 h19d G33=>?_) (fun h19 h19d G34=>?_)
    ·exact eR G33 hQ hbel (.agg [iV 0,iV 0,iV 0,iV 0,.bool true,.bool false]) results235 ⟨by simp only[tiV,tmE,tmS,tmL,tmH,mxF,mnF,lo0,haX,haY,h1d,h9d,h16d,h17d,h18d,h19d,if_neg hnX,if_neg hnY,Int.lt_irrefl,ite_self,if_true,if_false,decide_true,decide_false,Bool.or_true,Bool.or_false,Bool.or_self,Bool.false_eq_true],rfl⟩
    exact eR G34 hQ hbel (.agg [iV 0,iV 1,iV ((sbH py vy y0 y1).1),iV ((sbH py vy y0 y1).2),.bool false,.bool false]) results235 ⟨by simp only[tiV,tmE,tmS,tmL,tmH,mxF,mnF,lo0,haX,haY,h1d,h9d,h16d,h17d,h18d,h19d,if_neg hnX,if_neg hnY,Int.lt_irrefl,ite_self,if_true,if_false,decide_true,decide_false,Bool.or_true,Bool.or_false,Bool.or_self,Bool.false_eq_true],rfl⟩
   refine rcs G35 (fun h20 h20d G36=>?_) (fun h20 h20d G37=>?_)
   ·exact eR G36 hQ hbel (.agg [iV 0,iV 0,iV 0,iV 0,.bool true,.bool false]) results235 ⟨by simp only[tiV,tmE,tmS,tmL,tmH,mxF,mnF,lo0,haX,haY,h1d,h9d,h16d,h17d,h18d,h20d,if_neg hnX,if_neg hnY,Int.lt_irrefl,ite_self,if_true,if_false,decide_true,decide_false,Bool.or_true,Bool.or_false,Bool.or_self,Bool.false_eq_true],rfl⟩
   exact eR G37 hQ hbel (.agg [iV ((sbL py vy y0 y1).1),iV ((sbL py vy y0 y1).2),iV ((sbH py vy y0 y1).1),iV ((sbH py vy y0 y1).2),.bool false,.bool false]) results235 ⟨by simp only[tiV,tmE,tmS,tmL,tmH,mxF,mnF,lo0,haX,haY,h1d,h9d,h16d,h17d,h18d,h20d,if_neg hnX,if_neg hnY,Int.lt_irrefl,ite_self,if_true,if_false,decide_true,decide_false,Bool.or_true,Bool.or_false,Bool.or_self,Bool.false_eq_true],rfl⟩
  have h17d:=bsT h17
  refine fnT ?_
  have G38:=j2 h17 h17d G28
  refine aa G38 ?_
  refine hn24 _ _ ?_
  refine fnT ?_
  refine rcs G38 (fun h21 h21d G39=>?_) (fun h21 h21d G42=>?_)
  ·refine rcs G39 (fun h22 h22d G40=>?_) (fun h22 h22d G41=>?_)
   ·exact eR G40 hQ hbel (.agg [iV 0,iV 0,iV 0,iV 0,.bool true,.bool false]) results235 ⟨by simp only[tiV,tmE,tmS,tmL,tmH,mxF,mnF,lo0,haX,haY,h1d,h9d,h16d,h17d,h21d,h22d,if_neg hnX,if_neg hnY,Int.lt_irrefl,ite_self,if_true,if_false,decide_true,decide_false,Bool.or_true,Bool.or_false,Bool.or_self,Bool.false_eq_true],rfl⟩
   exact eR G41 hQ hbel (.agg [iV 0,iV 1,iV ((sbH px vx x0 x1).1),iV ((sbH px vx x0 x1).2),.bool false,.bool false]) results235 ⟨by simp only[tiV,tmE,tmS,tmL,tmH,mxF,mnF,lo0,haX,haY,h1d,h9d,h16d,h17d,h21d,h22d,if_neg hnX,if_neg hnY,Int.lt_irrefl,ite_self,if_true,if_false,decide_true,decide_false,Bool.or_true,Bool.or_false,Bool.or_self,Bool.false_eq_true],rfl⟩
  refine rcs G42 (fun h23 h23d G43=>?_) (fun h23 h23d G44=>?_)
  ·exact eR G43 hQ hbel (.agg [iV 0,iV 0,iV 0,iV 0,.bool true,.bool false]) results235 ⟨by simp only[tiV,tmE,tmS,tmL,tmH,mxF,mnF,lo0,haX,haY,h1d,h9d,h16d,h17d,h21d,h23d,if_neg hnX,if_neg hnY,Int.lt_irrefl,ite_self,if_true,if_false,decide_true,decide_false,Bool.or_true,Bool.or_false,Bool.or_self,Bool.false_eq_true],rfl⟩
  exact eR G44 hQ hbel (.agg [iV ((sbL py vy y0 y1).1),iV ((sbL py vy y0 y1).2),iV ((sbH px vx x0 x1).1),iV ((sbH px vx x0 x1).2),.bool false,.bool false]) results235 ⟨by simp only[tiV,tmE,tmS,tmL,tmH,mxF,mnF,lo0,haX,haY,h1d,h9d,h16d,h17d,h21d,h23d,if_neg hnX,if_neg hnY,Int.lt_irrefl,ite_self,if_true,if_false,decide_true,decide_false,Bool.or_true,Bool.or_false,Bool.or_self,Bool.false_eq_true],rfl⟩
 have h16d:=bsT h16
 refine fnT ?_
 have G45:=j2 h16 h16d G25
 refine aa G45 ?_
 refine hn22 _ _ (sqR hQ fun Q26 hn26 hQ26 he26=>?_)
 refine zQT hQ26 fun Q27 hn27 hQ27 he27=>?_
 refine aa G45 ?_
 refine hn27 _ _ ?_
 refine db (decide ((((sbH py vy y0 y1).1)*((sbH px vx x0 x1).2))<(((sbH px vx x0 x1).1)*((sbH py vy y0 y1).2)))) (by rfl) (fun h24=>?_) (fun h24=>?_)
 ·have h24d:=bsT h24
  refine ep true try_mixed [[0,1,2,3,4,5,6,7],[0,1,2,4,5,3,6,7]] (by kernel_rfl) (fun F2 H2=>F2=[(6,.ptr (some (H.length,0))),(7,.ptr (some (H.length+1,0)))]/\H2=H++[.cells true 0 [iV 0,iV 0,iV 0,iV 0,.bool false,.bool false],.cells true 0 [iV ((sbL px vx x0 x1).1),iV ((sbL px vx x0 x1).2),iV ((sbH py vy y0 y1).1),iV ((sbH py vy y0 y1).2),.bool false,.bool false]]) ?_ ?_
  ·refine af ?_ (af ?_ (aQ))<;>intro J hJ
   ·have G46:=j2 h24 h24d G45
    refine ag G46 ?_
    refine ai (hJ _ _ ⟨_,_,_,⟨rfl,rfl⟩,bS hbel [3,4] ar⟩)
   have G47:=j2 h24 h24d G45
   refine ag G47 ?_
   refine ai (hJ _ _ ⟨_,_,_,⟨rfl,rfl⟩,bS hbel [3,4] ar⟩)
  rintro F2 H2 ⟨rfl,rfl⟩
  refine hn26 _ _ ?_
  refine fnT ?_
  have G48:=j2 h24 h24d G45
  refine rcs G48 (fun h25 h25d G49=>?_) (fun h25 h25d G52=>?_)
  ·refine rcs G49 (fun h26 h26d G50=>?_) (fun h26 h26d G51=>?_)
   ·exact eR G50 hQ hbel (.agg [iV 0,iV 0,iV 0,iV 0,.bool true,.bool false]) results235 ⟨by simp only[tiV,tmE,tmS,tmL,tmH,mxF,mnF,lo0,haX,haY,h1d,h9d,h16d,h24d,h25d,h26d,if_neg hnX,if_neg hnY,Int.lt_irrefl,ite_self,if_true,if_false,decide_true,decide_false,Bool.or_true,Bool.or_false,Bool.or_self,Bool.false_eq_true],rfl⟩
   exact eR G51 hQ hbel (.agg [iV 0,iV 1,iV ((sbH py vy y0 y1).1),iV ((sbH py vy y0 y1).2),.bool false,.bool false]) results235 ⟨by simp only[tiV,tmE,tmS,tmL,tmH,mxF,mnF,lo0,haX,haY,h1d,h9d,h16d,h24d,h25d,h26d,if_neg hnX,if_neg hnY,Int.lt_irrefl,ite_self,if_true,if_false,decide_true,decide_false,Bool.or_true,Bool.or_false,Bool.or_self,Bool.false_eq_true],rfl⟩
  refine rcs G52 (fun h27 h27d G53=>?_) (fun h27 h27d G54=>?_)
  ·exact eR G53 hQ hbel (.agg [iV 0,iV 0,iV 0,iV 0,.bool true,.bool false]) results235 ⟨by simp only[tiV,tmE,tmS,tmL,tmH,mxF,mnF,lo0,haX,haY,h1d,h9d,h16d,h24d,h25d,h27d,if_neg hnX,if_neg hnY,Int.lt_irrefl,ite_self,if_true,if_false,decide_true,decide_false,Bool.or_true,Bool.or_false,Bool.or_self,Bool.false_eq_true],rfl⟩
  exact eR G54 hQ hbel (.agg [iV ((sbL px vx x0 x1).1),iV ((sbL px vx x0 x1).2),iV ((sbH py vy y0 y1).1),iV ((sbH py vy y0 y1).2),.bool false,.bool false]) results235 ⟨by simp only[tiV,tmE,tmS,tmL,tmH,mxF,mnF,lo0,haX,haY,h1d,h9d,h16d,h24d,h25d,h27d,if_neg hnX,if_neg hnY,Int.lt_irrefl,ite_self,if_true,if_false,decide_true,decide_false,Bool.or_true,Bool.or_false,Bool.or_self,Bool.false_eq_true],rfl⟩
 have h24d:=bsT h24
 refine fnT ?_
 have G55:=j2 h24 h24d G45
 refine aa G55 ?_
 refine hn26 _ _ ?_
 refine fnT ?_
 refine rcs G55 (fun h28 h28d G56=>?_) (fun h28 h28d G59=>?_)
 ·refine rcs G56 (fun h29 h29d G57=>?_) (fun h29 h29d G58=>?_)
  ·exact eR G57 hQ hbel (.agg [iV 0,iV 0,iV 0,iV 0,.bool true,.bool false]) results235 ⟨by simp only[tiV,tmE,tmS,tmL,tmH,mxF,mnF,lo0,haX,haY,h1d,h9d,h16d,h24d,h28d,h29d,if_neg hnX,if_neg hnY,Int.lt_irrefl,ite_self,if_true,if_false,decide_true,decide_false,Bool.or_true,Bool.or_false,Bool.or_self,Bool.false_eq_true],rfl⟩
  exact eR G58 hQ hbel (.agg [iV 0,iV 1,iV ((sbH px vx x0 x1).1),iV ((sbH px vx x0 x1).2),.bool false,.bool false]) results235 ⟨by simp only[tiV,tmE,tmS,tmL,tmH,mxF,mnF,lo0,haX,haY,h1d,h9d,h16d,h24d,h28d,h29d,if_neg hnX,if_neg hnY,Int.lt_irrefl,ite_self,if_true,if_false,decide_true,decide_false,Bool.or_true,Bool.or_false,Bool.or_self,Bool.false_eq_true],rfl⟩
 refine rcs G59 (fun h30 h30d G60=>?_) (fun h30 h30d G61=>?_)
 ·exact eR G60 hQ hbel (.agg [iV 0,iV 0,iV 0,iV 0,.bool true,.bool false]) results235 ⟨by simp only[tiV,tmE,tmS,tmL,tmH,mxF,mnF,lo0,haX,haY,h1d,h9d,h16d,h24d,h28d,h30d,if_neg hnX,if_neg hnY,Int.lt_irrefl,ite_self,if_true,if_false,decide_true,decide_false,Bool.or_true,Bool.or_false,Bool.or_self,Bool.false_eq_true],rfl⟩
 exact eR G61 hQ hbel (.agg [iV ((sbL px vx x0 x1).1),iV ((sbL px vx x0 x1).2),iV ((sbH px vx x0 x1).1),iV ((sbH px vx x0 x1).2),.bool false,.bool false]) results235 ⟨by simp only[tiV,tmE,tmS,tmL,tmH,mxF,mnF,lo0,haX,haY,h1d,h9d,h16d,h24d,h28d,h30d,if_neg hnX,if_neg hnY,Int.lt_irrefl,ite_self,if_true,if_false,decide_true,decide_false,Bool.or_true,Bool.or_false,Bool.or_self,Bool.false_eq_true],rfl⟩
theorem times_t (H:ac)(px py vx vy vd x0 y0 x1 y1:Int)(hg:thG px py vx vy vd x0 y0 x1 y1=true)(h:tmE px py vx vy x0 y0 x1 y1=true):zC 235 [.agg [iV px,iV py],.agg [iV vx,iV vy,iV vd],.agg [iV x0,iV y0,iV x1,iV y1]] H (.agg [iV 0,iV 0,iV 0,iV 0,.bool true,.bool false]) H:=by
 have q:=times_c H px py vx vy vd x0 y0 x1 y1 hg
 simp only[tiV,h,if_true] at q;exact q
theorem times_f (H:ac)(px py vx vy vd x0 y0 x1 y1:Int)(hg:thG px py vx vy vd x0 y0 x1 y1=true)(h:tmE px py vx vy x0 y0 x1 y1=false):zC 235 [.agg [iV px,iV py],.agg [iV vx,iV vy,iV vd],.agg [iV x0,iV y0,iV x1,iV y1]] H (.agg [iV (tmS px py vx vy x0 y0 x1 y1).1.1,iV (tmS px py vx vy x0 y0 x1 y1).1.2,iV (tmS px py vx vy x0 y0 x1 y1).2.1,iV (tmS px py vx vy x0 y0 x1 y1).2.2,.bool false,.bool false]) H:=by
 have q:=times_c H px py vx vy vd x0 y0 x1 y1 hg
 simp only[tiV,h,if_false,Bool.false_eq_true] at q;exact q
theorem gcd5_n (H:ac)(a0 b0:Nat):zC 246 [iV (a0:Int),iV (b0:Int)] H (iV ((Nat.gcd a0 b0:Nat):Int)) H:=by
 refine AcT true func246 ?_;intro hbel Q hQ
 have G1:=@oa
 refine aa G1 ?_
 refine glp (fun k F Hx=>∃a:Nat,∃b:Nat,b=k/\Nat.gcd a b=Nat.gcd a0 b0/\F=[(0,iV (a:Int)),(1,iV (b:Int))]/\H=Hx) (b0) ?_ ?_
 ·refine⟨_,_,_,⟨a0,b0,by omega,rfl,rfl,rfl⟩,Abs.by0 hbel ?_⟩
  exact ar
 rintro k0 F Hx ⟨a,b,hm0,hG,rfl,rfl⟩ J0 hJ0
 refine rcs G1 (fun h1 h1d G2=>?_) (fun h1 h1d G3=>?_)
 ·have hlt:a%b<b:=Nat.mod_lt _ (by omega)
  refine aa G2 ?_
  refine hJ0 _ _ ⟨a%b,by omega,_,_,_,⟨b,a%b,by omega,by rw[<-hG,iW],rfl,rfl⟩,Abs.by0 hbel ?_⟩
  exact ar
 obtain rfl:b=0:=by omega
 rw[Nat.gcd_zero_right] at hG
 have hfing:=hG
 exact eS G3 hQ hbel (iV (a:Int)) results246 ⟨congrArg (AV.int .i64) (by rw[hfing]),rfl⟩
theorem gcd5_x (H:ac)(n d:Int)(hn:0<=n)(hd:0<=d):zC 246 [iV n,iV d] H (iV ((Int.gcd n d:Nat):Int)) H:=by
 obtain⟨a,rfl⟩:=Int.eq_ofNat_of_zero_le hn
 obtain⟨b,rfl⟩:=Int.eq_ofNat_of_zero_le hd
 exact gcd5_n H a b
theorem low5_c (H:ac)(n d:Int)(hn:0<=n/\n<=4611686018427387904)(hd:0<d/\d<=4611686018427387904):zC 236 [iV n,iV d] H (.agg [iV (lwN n d),iV (lwD n d)]) H:=by
 have hg0:=lL (n:=n) hd.1
 have t1:=eu (a:=n) (b:=((Int.gcd n d:Nat):Int)) hg0 (by omega)
 have t2:=eu (a:=d) (b:=((Int.gcd n d:Nat):Int)) hg0 (by omega)
 have hlw:=lw_tdiv hn.1 hd.1
 refine AcT true func236 ?_;intro hbel Q hQ
 refine aC ?_
 refine cv (gcd5_x _ n d (by omega) (by omega)) ?_
 refine aC ?_
 exact eP hQ hbel (.agg [iV (Int.tdiv n ((Int.gcd n d:Nat):Int)),iV (Int.tdiv d ((Int.gcd n d:Nat):Int))]) results236 ⟨by rw[hlw.1,hlw.2],rfl⟩
theorem r5ok_c (H:ac)(px py vx vy vd x0 y0 x1 y1:Int):zC 234 [.agg [iV px,iV py],.agg [iV vx,iV vy,iV vd],.agg [iV x0,iV y0,iV x1,iV y1]] H (.bool (thG px py vx vy vd x0 y0 x1 y1)) H:=by
 refine AcT true func234 ?_;intro hbel Q hQ
 refine aC ?_
 refine cv (r5pt_c _ _ _) ?_
 refine aC ?_
 refine bg (fun h1=>?_) (fun h1=>?_)
 ·have h1d:=bsT h1
  have G4:=jn h1 @h1d
  refine aa G4 ?_
  refine cv (bvec_c _ _ _ _) ?_
  refine rgs G4 (fun h2 h2d G5=>?_) (fun h2 h2d G6=>?_)
  ·refine aa G5 ?_
   refine cvr G5 (np _ _ _ _ _) ?_
   exact eP hQ hbel (.bool (lnR x0 y0 x1 y1)) results234 ⟨by simp[thG,h1d,h2d],rfl⟩
  exact eR G6 hQ hbel (.bool false) results234 ⟨by simp[thG,h1d,h2d],rfl⟩
 have h1d:=bsT h1
 have G7:=jn h1 @h1d
 exact eR G7 hQ hbel (.bool false) results234 ⟨by simp[thG,h1d],rfl⟩
theorem qK (H:ac)(px py vx vy vd x0 y0 x1 y1:Int):zC 218 [.agg [iV px,iV py],.agg [iV vx,iV vy,iV vd],.agg [iV x0,iV y0,iV x1,iV y1]] H (.tup [.agg [iV (mkV (rO px py vx vy vd x0 y0 x1 y1) (enN px py vx vy vd x0 y0 x1 y1)),iV (mkV (rO px py vx vy vd x0 y0 x1 y1) (enD px py vx vy vd x0 y0 x1 y1))],.bool (rO px py vx vy vd x0 y0 x1 y1)]) H:=by
 refine AcT true func218 ?_;intro hbel Q hQ
 refine aC ?_
 refine cv (r5ok_c _ _ _ _ _ _ _ _ _ _) ?_
 refine aC ?_
 refine cn (fun h1=>?_) (fun h1=>?_)
 ·have h1d:=bsT h1
  have hfinO:rO px py vx vy vd x0 y0 x1 y1=false:=by unfold rO;rw[h1d];rfl
  have G8:=jn h1 @h1d
  exact eR G8 hQ hbel (.tup [.agg [iV 0,iV 0],.bool false]) results218 ⟨by unfold mkV;rw[hfinO];rfl,rfl⟩
 have h1d:=bsT h1
 have hg:=h1d
 have hbd:=tmS_bd hg
 obtain⟨⟨hb1,hb2⟩,hb3,hb4⟩:=hbd
 have hvv:=bj.1 (dj.1 hg).2.1
 have hm1:=aP (a:=(tmS px py vx vy x0 y0 x1 y1).1.1) (b:=vd) (A:=8388608) (B:=67108864) (by omega) (by omega)
 have hm2:=aP (a:=(tmS px py vx vy x0 y0 x1 y1).2.1) (b:=vd) (A:=8388608) (B:=67108864) (by omega) (by omega)
 have hn1:=Int.mul_nonneg (nv (px:=px) (py:=py) (vx:=vx) (vy:=vy) (x0:=x0) (y0:=y0) (x1:=x1) (y1:=y1)) (show 0<=vd by omega)
 have G9:=jn h1 @h1d
 refine aa G9 ?_
 rcases Bool.eq_false_or_eq_true (tmE px py vx vy x0 y0 x1 y1) with h2|h2
 ·have h2d:=h2
  have hfinO:rO px py vx vy vd x0 y0 x1 y1=false:=by unfold rO;rw[h2d];simp
  refine cv (times_t _ _ _ _ _ _ _ _ _ _ (by assumption) (by assumption)) ?_
  have G10:=j2 h2 h2d G9
  exact eR G10 hQ hbel (.tup [.agg [iV 0,iV 0],.bool false]) results218 ⟨by unfold mkV;rw[hfinO];rfl,rfl⟩
 have h2d:=h2
 have hfinO:rO px py vx vy vd x0 y0 x1 y1=true:=by unfold rO;rw[h2d,hg];rfl
 have hn2:=Int.mul_nonneg (tmS_hn hg h2d) (show 0<=vd by omega)
 refine cv (times_f _ _ _ _ _ _ _ _ _ _ (by assumption) (by assumption)) ?_
 have G11:=j2 h2 h2d G9
 refine aa G11 ?_
 refine cvr G11 (low5_c _ _ _ (by omega) (by omega)) ?_
 exact eP hQ hbel (.tup [.agg [iV (lwN (((tmS px py vx vy x0 y0 x1 y1).1.1)*vd) ((tmS px py vx vy x0 y0 x1 y1).1.2)),iV (lwD (((tmS px py vx vy x0 y0 x1 y1).1.1)*vd) ((tmS px py vx vy x0 y0 x1 y1).1.2))],.bool true]) results218 ⟨by unfold mkV;rw[hfinO];rfl,rfl⟩
theorem qL (H:ac)(px py vx vy vd x0 y0 x1 y1:Int)(h:rO px py vx vy vd x0 y0 x1 y1=true):zC 218 [.agg [iV px,iV py],.agg [iV vx,iV vy,iV vd],.agg [iV x0,iV y0,iV x1,iV y1]] H (.tup [.agg [iV (enN px py vx vy vd x0 y0 x1 y1),iV (enD px py vx vy vd x0 y0 x1 y1)],.bool true]) H:=by
 have q:=qK H px py vx vy vd x0 y0 x1 y1
 simp only[h,mkV,if_true] at q;exact q
theorem qM (H:ac)(px py vx vy vd x0 y0 x1 y1:Int)(h:rO px py vx vy vd x0 y0 x1 y1=false):zC 218 [.agg [iV px,iV py],.agg [iV vx,iV vy,iV vd],.agg [iV x0,iV y0,iV x1,iV y1]] H (.tup [.agg [iV 0,iV 0],.bool false]) H:=by
 have q:=qK H px py vx vy vd x0 y0 x1 y1
 simp only[h,mkV,if_false,Bool.false_eq_true] at q;exact q
theorem qN (H:ac)(px py vx vy vd x0 y0 x1 y1:Int):zC 220 [.agg [iV px,iV py],.agg [iV vx,iV vy,iV vd],.agg [iV x0,iV y0,iV x1,iV y1]] H (.tup [.agg [iV (mkV (rO px py vx vy vd x0 y0 x1 y1) (lvN px py vx vy vd x0 y0 x1 y1)),iV (mkV (rO px py vx vy vd x0 y0 x1 y1) (lvD px py vx vy vd x0 y0 x1 y1))],.bool (rO px py vx vy vd x0 y0 x1 y1)]) H:=by
 refine AcT true func220 ?_;intro hbel Q hQ
 refine aC ?_
 refine cv (r5ok_c _ _ _ _ _ _ _ _ _ _) ?_
 refine aC ?_
 refine cn (fun h1=>?_) (fun h1=>?_)
 ·have h1d:=bsT h1
  have hfinO:rO px py vx vy vd x0 y0 x1 y1=false:=by unfold rO;rw[h1d];rfl
  have G12:=jn h1 @h1d
  exact eR G12 hQ hbel (.tup [.agg [iV 0,iV 0],.bool false]) results220 ⟨by unfold mkV;rw[hfinO];rfl,rfl⟩
 have h1d:=bsT h1
 have hg:=h1d
 have hbd:=tmS_bd hg
 obtain⟨⟨hb1,hb2⟩,hb3,hb4⟩:=hbd
 have hvv:=bj.1 (dj.1 hg).2.1
 have hm1:=aP (a:=(tmS px py vx vy x0 y0 x1 y1).1.1) (b:=vd) (A:=8388608) (B:=67108864) (by omega) (by omega)
 have hm2:=aP (a:=(tmS px py vx vy x0 y0 x1 y1).2.1) (b:=vd) (A:=8388608) (B:=67108864) (by omega) (by omega)
 have hn1:=Int.mul_nonneg (nv (px:=px) (py:=py) (vx:=vx) (vy:=vy) (x0:=x0) (y0:=y0) (x1:=x1) (y1:=y1)) (show 0<=vd by omega)
 have G13:=jn h1 @h1d
 refine aa G13 ?_
 rcases Bool.eq_false_or_eq_true (tmE px py vx vy x0 y0 x1 y1) with h2|h2
 ·have h2d:=h2
  have hfinO:rO px py vx vy vd x0 y0 x1 y1=false:=by unfold rO;rw[h2d];simp
  refine cv (times_t _ _ _ _ _ _ _ _ _ _ (by assumption) (by assumption)) ?_
  have G14:=j2 h2 h2d G13
  exact eR G14 hQ hbel (.tup [.agg [iV 0,iV 0],.bool false]) results220 ⟨by unfold mkV;rw[hfinO];rfl,rfl⟩
 have h2d:=h2
 have hfinO:rO px py vx vy vd x0 y0 x1 y1=true:=by unfold rO;rw[h2d,hg];rfl
 have hn2:=Int.mul_nonneg (tmS_hn hg h2d) (show 0<=vd by omega)
 refine cv (times_f _ _ _ _ _ _ _ _ _ _ (by assumption) (by assumption)) ?_
 have G15:=j2 h2 h2d G13
 refine aa G15 ?_
 refine cvr G15 (low5_c _ _ _ (by omega) (by omega)) ?_
 exact eP hQ hbel (.tup [.agg [iV (lwN (((tmS px py vx vy x0 y0 x1 y1).2.1)*vd) ((tmS px py vx vy x0 y0 x1 y1).2.2)),iV (lwD (((tmS px py vx vy x0 y0 x1 y1).2.1)*vd) ((tmS px py vx vy x0 y0 x1 y1).2.2))],.bool true]) results220 ⟨by unfold mkV;rw[hfinO];rfl,rfl⟩
theorem rleave_t (H:ac)(px py vx vy vd x0 y0 x1 y1:Int)(h:rO px py vx vy vd x0 y0 x1 y1=true):zC 220 [.agg [iV px,iV py],.agg [iV vx,iV vy,iV vd],.agg [iV x0,iV y0,iV x1,iV y1]] H (.tup [.agg [iV (lvN px py vx vy vd x0 y0 x1 y1),iV (lvD px py vx vy vd x0 y0 x1 y1)],.bool true]) H:=by
 have q:=qN H px py vx vy vd x0 y0 x1 y1
 simp only[h,mkV,if_true] at q;exact q
theorem rleave_f (H:ac)(px py vx vy vd x0 y0 x1 y1:Int)(h:rO px py vx vy vd x0 y0 x1 y1=false):zC 220 [.agg [iV px,iV py],.agg [iV vx,iV vy,iV vd],.agg [iV x0,iV y0,iV x1,iV y1]] H (.tup [.agg [iV 0,iV 0],.bool false]) H:=by
 have q:=qN H px py vx vy vd x0 y0 x1 y1
 simp only[h,mkV,if_false,Bool.false_eq_true] at q;exact q
theorem jc (H:ac)(px py vx vy vd lo hi x0 y0 x1 y1:Int):zC 182 [.agg [iV px,iV py],.agg [iV vx,iV vy,iV vd],iV lo,iV hi,.agg [iV x0,iV y0,iV x1,iV y1]] H (.bool (dr px py vx vy vd lo hi x0 y0 x1 y1)) H:=by
 refine AcT true func182 ?_;intro hbel Q hQ
 refine aC ?_
 refine bg (fun h1=>?_) (fun h1=>?_)
 ·have h1d:=bsT h1
  have G16:=jn h1 @h1d
  refine rgs G16 (fun h2 h2d G17=>?_) (fun h2 h2d G24=>?_)
  ·refine rcs G17 (fun h3 h3d G18=>?_) (fun h3 h3d G19=>?_)
   ·exact eR G18 hQ hbel (.bool false) results182 ⟨by (refine congrArg AV.bool ?_;rw[Bool.eq_iff_iff,iC];unfold gT;simp only[Bool.and_eq_true,decide_eq_true_eq,Bool.not_eq_true'];first|(simp only[hfinG,hfinE,true_and];have e1:=(hel hi).1;have e2:=(hel lo).2.2;omega)|exact⟨fun e=>(by cases e),fun e=>(by first|omega|(have e1:=(hel hi).1;have e2:=(hel lo).2.2;omega))⟩),rfl⟩
   refine aa G19 ?_
   rcases Bool.eq_false_or_eq_true (rO px py vx vy vd x0 y0 x1 y1) with h4|h4
   ·have h4d:=h4
    have hrO:=h4d
    have heb:=en_bd hrO
    obtain⟨⟨hb1,hb2⟩,hb3,hb4⟩:=heb
    have hfinG:=(rO_t hrO).1
    have hfinE:=(rO_t hrO).2
    have hm1:=aP (a:=hi) (b:=enD px py vx vy vd x0 y0 x1 y1) (A:=65536) (B:=67108864) (by omega) (by omega)
    have hm2:=aP (a:=lo) (b:=lvD px py vx vy vd x0 y0 x1 y1) (A:=65536) (B:=67108864) (by omega) (by omega)
    have hel:=fun z=>en_le (hi:=z) hrO
    refine cv (qL _ _ _ _ _ _ _ _ _ _ (by assumption)) ?_
    have G20:=j2 h4 h4d G19
    refine aa G20 ?_
    refine cv (rleave_t _ _ _ _ _ _ _ _ _ _ (by assumption)) ?_
    refine rgs G20 (fun h5 h5d G21=>?_) (fun h5 h5d G22=>?_)
    ·exact eR G21 hQ hbel (.bool (decide ((lo*(lvD px py vx vy vd x0 y0 x1 y1))<=(lvN px py vx vy vd x0 y0 x1 y1)))) results182 ⟨by (refine congrArg AV.bool ?_;rw[Bool.eq_iff_iff,iC];unfold gT;simp only[Bool.and_eq_true,decide_eq_true_eq,Bool.not_eq_true'];first|(simp only[hfinG,hfinE,true_and];have e1:=(hel hi).1;have e2:=(hel lo).2.2;omega)|exact⟨fun e=>(by cases e),fun e=>(by first|omega|(have e1:=(hel hi).1;have e2:=(hel lo).2.2;omega))⟩),rfl⟩
    exact eR G22 hQ hbel (.bool false) results182 ⟨by (refine congrArg AV.bool ?_;rw[Bool.eq_iff_iff,iC];unfold gT;simp only[Bool.and_eq_true,decide_eq_true_eq,Bool.not_eq_true'];first|(simp only[hfinG,hfinE,true_and];have e1:=(hel hi).1;have e2:=(hel lo).2.2;omega)|exact⟨fun e=>(by cases e),fun e=>(by first|omega|(have e1:=(hel hi).1;have e2:=(hel lo).2.2;omega))⟩),rfl⟩
   have h4d:=h4
   have hfinN:=rO_me (lo:=lo) (hi:=hi) h4d
   refine cv (qM _ _ _ _ _ _ _ _ _ _ (by assumption)) ?_
   have G23:=j2 h4 h4d G19
   refine aa G23 ?_
   refine cvr G23 (rleave_f _ _ _ _ _ _ _ _ _ _ (by assumption)) ?_
   exact eP hQ hbel (.bool false) results182 ⟨by rw[hfinN.1],rfl⟩
  exact eR G24 hQ hbel (.bool false) results182 ⟨by (refine congrArg AV.bool ?_;rw[Bool.eq_iff_iff,iC];unfold gT;simp only[Bool.and_eq_true,decide_eq_true_eq,Bool.not_eq_true'];first|(simp only[hfinG,hfinE,true_and];have e1:=(hel hi).1;have e2:=(hel lo).2.2;omega)|exact⟨fun e=>(by cases e),fun e=>(by first|omega|(have e1:=(hel hi).1;have e2:=(hel lo).2.2;omega))⟩),rfl⟩
 have h1d:=bsT h1
 have G25:=jn h1 @h1d
 exact eR G25 hQ hbel (.bool false) results182 ⟨by (refine congrArg AV.bool ?_;rw[Bool.eq_iff_iff,iC];unfold gT;simp only[Bool.and_eq_true,decide_eq_true_eq,Bool.not_eq_true'];first|(simp only[hfinG,hfinE,true_and];have e1:=(hel hi).1;have e2:=(hel lo).2.2;omega)|exact⟨fun e=>(by cases e),fun e=>(by first|omega|(have e1:=(hel hi).1;have e2:=(hel lo).2.2;omega))⟩),rfl⟩
theorem dA (H:ac)(px py vx vy vd hi x0 y0 x1 y1:Int):zC 175 [.agg [iV px,iV py],.agg [iV vx,iV vy,iV vd],iV hi,.agg [iV x0,iV y0,iV x1,iV y1]] H (.bool (cX px py vx vy vd hi x0 y0 x1 y1)) H:=by
 refine AcT true func175 ?_;intro hbel Q hQ
 refine aC ?_
 refine bg (fun h1=>?_) (fun h1=>?_)
 ·have h1d:=bsT h1
  have G26:=jn h1 @h1d
  refine rcs G26 (fun h2 h2d G27=>?_) (fun h2 h2d G28=>?_)
  ·exact eR G27 hQ hbel (.bool false) results175 ⟨by (refine congrArg AV.bool ?_;rw[Bool.eq_iff_iff,lK];unfold jx;simp only[Bool.and_eq_true,decide_eq_true_eq,Bool.not_eq_true'];first|(simp only[hfinG,hfinE,true_and];have e1:=(hel hi).2.1;omega)|exact⟨fun e=>(by cases e),fun e=>(by first|omega|(have e1:=(hel hi).2.1;omega))⟩),rfl⟩
  refine aa G28 ?_
  rcases Bool.eq_false_or_eq_true (rO px py vx vy vd x0 y0 x1 y1) with h3|h3
  ·have h3d:=h3
   have hrO:=h3d
   have heb:=en_bd hrO
   obtain⟨⟨hb1,hb2⟩,hb3,hb4⟩:=heb
   have hfinG:=(rO_t hrO).1
   have hfinE:=(rO_t hrO).2
   have hm1:=aP (a:=hi) (b:=enD px py vx vy vd x0 y0 x1 y1) (A:=65536) (B:=67108864) (by omega) (by omega)
   have hel:=fun z=>en_le (hi:=z) hrO
   refine cv (qL _ _ _ _ _ _ _ _ _ _ (by assumption)) ?_
   have G29:=j2 h3 h3d G28
   exact eR G29 hQ hbel (.bool (decide ((enN px py vx vy vd x0 y0 x1 y1)<(hi*(enD px py vx vy vd x0 y0 x1 y1))))) results175 ⟨by (refine congrArg AV.bool ?_;rw[Bool.eq_iff_iff,lK];unfold jx;simp only[Bool.and_eq_true,decide_eq_true_eq,Bool.not_eq_true'];first|(simp only[hfinG,hfinE,true_and];have e1:=(hel hi).2.1;omega)|exact⟨fun e=>(by cases e),fun e=>(by first|omega|(have e1:=(hel hi).2.1;omega))⟩),rfl⟩
  have h3d:=h3
  have hfinN:=rO_me (lo:=0) (hi:=hi) h3d
  refine cv (qM _ _ _ _ _ _ _ _ _ _ (by assumption)) ?_
  have G30:=j2 h3 h3d G28
  exact eR G30 hQ hbel (.bool false) results175 ⟨by rw[hfinN.2],rfl⟩
 have h1d:=bsT h1
 have G31:=jn h1 @h1d
 exact eR G31 hQ hbel (.bool false) results175 ⟨by (refine congrArg AV.bool ?_;rw[Bool.eq_iff_iff,lK];unfold jx;simp only[Bool.and_eq_true,decide_eq_true_eq,Bool.not_eq_true'];first|(simp only[hfinG,hfinE,true_and];have e1:=(hel hi).2.1;omega)|exact⟨fun e=>(by cases e),fun e=>(by first|omega|(have e1:=(hel hi).2.1;omega))⟩),rfl⟩
theorem mI (H:ac)(a0 b0 a1 b1 x0 y0 x1 y1:Int)(kba0 : -1099511627776<=a0/\a0<=1099511627776)(kbb0 : -1099511627776<=b0/\b0<=1099511627776)(kba1 : -1099511627776<=a1/\a1<=1099511627776)(kbb1 : -1099511627776<=b1/\b1<=1099511627776)(kbx0 : -1099511627776<=x0/\x0<=1099511627776)(kby0 : -1099511627776<=y0/\y0<=1099511627776)(kbx1 : -1099511627776<=x1/\x1<=1099511627776)(kby1 : -1099511627776<=y1/\y1<=1099511627776):zC 181 [.agg [iV a0,iV b0,iV a1,iV b1],.agg [iV x0,iV y0,iV x1,iV y1]] H (.tup [.agg [iV (mkV (dc a0 b0 a1 b1 x0 y0 x1 y1) (a0-x1)),iV (mkV (dc a0 b0 a1 b1 x0 y0 x1 y1) (b0-y1)),iV (mkV (dc a0 b0 a1 b1 x0 y0 x1 y1) (a1-x0)),iV (mkV (dc a0 b0 a1 b1 x0 y0 x1 y1) (b1-y0))],.bool (dc a0 b0 a1 b1 x0 y0 x1 y1)]) H:=by
 refine AcT true func181 ?_;intro hbel Q hQ
 refine aC ?_
 refine cv (np _ _ _ _ _) ?_
 refine aC ?_
 refine bg (fun h1=>?_) (fun h1=>?_)
 ·have h1d:=bsT h1
  have G32:=jn h1 @h1d
  refine aa G32 ?_
  refine cv (np _ _ _ _ _) ?_
  refine rcs G32 (fun h2 h2d G33=>?_) (fun h2 h2d G34=>?_)
  ·exact eR G33 hQ hbel (.tup [.agg [iV 0,iV 0,iV 0,iV 0],.bool false]) results181 ⟨by simp[dc,mkV,h1d,h2d],rfl⟩
  refine aa G34 ?_
  refine cv (np _ _ _ _ _) ?_
  refine rcs G34 (fun h3 h3d G35=>?_) (fun h3 h3d G36=>?_)
  ·exact eR G35 hQ hbel (.tup [.agg [iV 0,iV 0,iV 0,iV 0],.bool false]) results181 ⟨by simp[dc,mkV,h1d,h2d,h3d],rfl⟩
  exact eR G36 hQ hbel (.tup [.agg [iV (a0-x1),iV (b0-y1),iV (a1-x0),iV (b1-y0)],.bool true]) results181 ⟨by simp[dc,mkV,h1d,h2d,h3d],rfl⟩
 have h1d:=bsT h1
 have G37:=jn h1 @h1d
 exact eR G37 hQ hbel (.tup [.agg [iV 0,iV 0,iV 0,iV 0],.bool false]) results181 ⟨by simp[dc,mkV,h1d],rfl⟩
theorem rP {a b:Int×Int}(h:b9 a b):¬b9 b a:=by unfold b9 at *;omega
theorem qO {a:Int×Int}:¬b9 a a:=by unfold b9;omega
theorem ir {a b c:Int×Int}(h:b9 a b)(k:b9 b c):b9 a c:=by unfold b9 at *;omega
theorem qP (a b:Int×Int):b9 a b\/a=b\/b9 b a:=by
 unfold b9
 rcases Int.lt_trichotomy a.2 b.2 with h|h|h
 ·exact .inl (.inl h)
 ·rcases Int.lt_trichotomy a.1 b.1 with k|k|k
  ·exact .inl (.inr ⟨h,k⟩)
  ·exact .inr (.inl (Prod.ext k h))
  exact .inr (.inr (.inr ⟨h.symm,k⟩))
 exact .inr (.inr (.inl h))
def cm:List (Int×Int)->List (Int×Int)
 |[]=>[]
 |[a]=>[a]
 |a::b::l=>if a=b then cm (b::l) else a::cm (b::l)
theorem fO:∀{l:List (Int×Int)}{x:Int×Int},x∈cm l↔x∈l
 |[],_=>Iff.rfl
 |[_],_=>Iff.rfl
 | a::b::l,x=>by
  unfold cm
  split
  ·rename_i h
   rw[fO (l:=b::l),List.mem_cons (l:=b::l)]
   exact⟨.inr,fun k=>k.elim (fun q=>by rw[q,h];exact List.mem_cons_self ..) id⟩
  rw[List.mem_cons,List.mem_cons (l:=b::l),fO (l:=b::l)]
def leC (a b:Int×Int):Prop:=a=b\/b9 a b
theorem jD:∀{l:List (Int×Int)},l.Pairwise leC->(cm l).Pairwise b9
 |[],_=>.nil
 |[a],_=>by unfold cm;simp
 | a::b::l,h=>by
  rw[List.pairwise_cons] at h
  have r:=jD h.2
  unfold cm
  split
  ·exact r
  rename_i hab
  rw[List.pairwise_cons]
  refine⟨fun x hx=>?_,r⟩
  have hm:=fO.1 hx
  have hb:b9 a b:=(h.1 b (List.mem_cons_self ..)).resolve_left hab
  rcases List.mem_cons.1 hm with q|q
  ·rw[q];exact hb
  rcases (List.pairwise_cons.1 h.2).1 x q with k|k
  ·rw[<-k];exact hb
  exact ir hb k
def c6 (c:Int×Int):List (Int×Int)->List (Int×Int)
 |[]=>[c]
 |a::l=>if a.2<c.2\/(a.2=c.2/\a.1<c.1) then a::c6 c l else if a=c then a::l else c::a::l
theorem jd {c x:Int×Int}:∀{l:List (Int×Int)},x∈c6 c l↔x=c\/x∈l
 |[]=>by simp[c6]
 | a::l=>by
  unfold c6
  split
  ·rw[List.mem_cons,jd (l:=l),List.mem_cons]
   exact⟨fun k=>k.elim (.inr∘.inl) (fun k=>k.elim .inl (.inr∘.inr)),fun k=>k.elim (.inr∘.inl) (fun k=>k.elim .inl (.inr∘.inr))⟩
  split
  ·rename_i h
   exact⟨.inr,fun k=>k.elim (fun q=>by rw[q,<-h];exact List.mem_cons_self ..) id⟩
  rw[List.mem_cons]
theorem gU {c:Int×Int}:∀{l:List (Int×Int)},l.Pairwise b9->(c6 c l).Pairwise b9
 |[],_=>by unfold c6;simp
 | a::l,h=>by
  rw[List.pairwise_cons] at h
  unfold c6
  split
  ·rename_i k
   rw[List.pairwise_cons]
   refine⟨fun x hx=>?_,gU h.2⟩
   rcases jd.1 hx with q|q
   ·rw[q];exact k
   exact h.1 x q
  rename_i k
  split
  ·exact List.pairwise_cons.2 h
  rename_i e
  have hc:b9 c a:=((qP c a).resolve_right fun q=>q.elim (fun q=>e q.symm) (fun q=>k q))
  rw[List.pairwise_cons]
  refine⟨fun x hx=>?_,List.pairwise_cons.2 h⟩
  rcases List.mem_cons.1 hx with q|q
  ·rw[q];exact hc
  exact ir hc (h.1 x q)
theorem cpt_put {l s:List (Int×Int)}(hs:s.Pairwise leC)(hm:∀x,x∈s↔x∈l):cm s=l.foldl (fun o c=>c6 c o) []:=by
 have g:∀(l o:List (Int×Int)),o.Pairwise b9->(l.foldl (fun o c=>c6 c o) o).Pairwise b9/\∀x,x∈l.foldl (fun o c=>c6 c o) o↔x∈l\/x∈o:=by
  intro l
  induction l with
  |nil=>exact fun o ho=>⟨ho,fun x=>by simp⟩
  | cons a l ih =>
   intro o ho
   have k:=ih (c6 a o) (gU ho)
   refine⟨k.1,fun x=>?_⟩
   rw[List.foldl_cons,k.2 x,jd,List.mem_cons]
   exact⟨fun q=>q.elim (.inl∘.inr) (fun q=>q.elim (.inl∘.inl) .inr),fun q=>q.elim (fun q=>q.elim (.inr∘.inl) .inl) (.inr∘.inr)⟩
 have k:=g l [] .nil
 exact js (jD hs) k.1 fun x=>by rw[fO,hm,k.2];simp
theorem qQ:∀(m:List (Int×Int)) (y x:Int×Int),cm (m++[y]++[x])=cm (m++[y])++(if y=x then [] else [x])
 | [],y,x=>by
  show cm [y,x]=cm [y]++_
  unfold cm
  split
  ·rename_i h;subst h;simp[cm]
  rename_i h;simp[cm]
 | [a],y,x=>by
  show cm (a::y::[x])=cm (a::y::[])++_
  simp only[cm]
  by_cases h:a=y
  ·by_cases k:y=x
   ·simp[h,k]
   simp[h,k]
  by_cases k:y=x
  ·simp[h,k]
  simp[h,k]
 | a::b::m,y,x=>by
  show cm (a::b::(m++[y]++[x]))=cm (a::b::(m++[y]))++_
  have ih:=qQ (b::m) y x
  simp only[List.cons_append] at ih
  rw[cm,cm,ih]
  by_cases h:a=b
  ·rw[if_pos h,if_pos h]
  rw[if_neg h,if_neg h,List.cons_append]
theorem mJ {l:List (Int×Int)}{j:Nat}(h1:1<=j)(hj:j<l.length):cm (l.take (j+1))=cm (l.take j)++(if l[j-1]'(by omega)=l[j] then [] else [l[j]]):=by
 obtain⟨i,rfl⟩:∃i,j=i+1:=⟨j-1,by omega⟩
 have e1:=List.take_succ_eq_append_getElem hj
 have e2:=List.take_succ_eq_append_getElem (show i<l.length by omega)
 rw[e1,e2]
 exact qQ _ _ _
theorem cpt_1 {l:List (Int×Int)}(h:l.length<2):cm l=l:=by
 match l,h with
 |[],_=>rfl
 |[_],_=>rfl
theorem lQ (l:List (Int×Int)):(cm l).length<=l.length:=by
 match l with
 |[]=>exact Nat.le_refl _
 |[_]=>exact Nat.le_refl _
 | a::b::m =>
  have:=lQ (b::m)
  rw[cm]
  split
  ·exact Nat.le_trans this (by simp)
  simp only[List.length_cons] at *;omega
theorem leC_anti {a b:Int×Int}(h:leC a b)(k:leC b a):a=b:=by
 unfold leC at *
 rcases h with h|h
 ·exact h
 rcases k with k|k
 ·exact k.symm
 exact absurd k (rP h)
theorem qR:∀{l m:List (Int×Int)},l.Perm m->l.Pairwise leC->m.Pairwise leC->l=m
 |[],m,h,_,_=>(List.Perm.nil_eq h)
 |a::l,[],h,_,_=>absurd h.symm.nil_eq (by simp)
 | a::l,b::m,h,h1,h2=>by
  rw[List.pairwise_cons] at h1 h2
  have hab:a=b:=by
   have ha:a∈b::m:=h.subset (List.mem_cons_self ..)
   have hb:b∈a::l:=h.symm.subset (List.mem_cons_self ..)
   rcases List.mem_cons.1 ha with e|e
   ·exact e
   rcases List.mem_cons.1 hb with e2|e2
   ·exact e2.symm
   exact leC_anti (h1.1 b e2) (h2.1 a e)
  subst hab
  rw[qR (List.Perm.cons_inv h) h1.2 h2.2]
theorem leC_tot (a b:Int×Int):leC a b\/leC b a:=by
 unfold leC
 rcases qP a b with h|h|h
 ·exact .inl (.inr h)
 ·exact .inl (.inl h)
 exact .inr (.inr h)
theorem leC_trans {a b c:Int×Int}(h:leC a b)(k:leC b c):leC a c:=by
 unfold leC at *
 rcases h with rfl|h
 ·exact k
 rcases k with rfl|k
 ·exact .inr h
 exact .inr (ir h k)
instance (a b:Int×Int):Decidable (b9 a b):=by unfold b9;infer_instance
instance (a b:Int×Int):Decidable (leC a b):=by unfold leC;infer_instance
def dJ (l:List (Int×Int)):List (Int×Int):=l.mergeSort fun a b=>decide (leC a b)
theorem ga (l:List (Int×Int)):(dJ l).Perm l:=List.mergeSort_perm _ _
theorem fP (l:List (Int×Int)):(dJ l).length=l.length:=(ga l).length_eq
theorem gV (l:List (Int×Int)):(dJ l).Pairwise leC:=by
 have h:=List.pairwise_mergeSort (le:=fun a b=>decide (leC a b)) (fun a b c h k=>by simp only[decide_eq_true_eq] at *;exact leC_trans h k) (fun a b=>by simp only[Bool.or_eq_true,decide_eq_true_eq];exact leC_tot a b) l
 unfold dJ
 refine h.imp fun {a b} k=>?_
 simpa using k
theorem mK:dJ []=[]:=by simp[dJ]
def prS (W Hh:Int) (l:List T6) (sc:List (Int×Int)) (g:Int):Nat->List (Int×Int)
 |0=>[]
 |i+1=>prS W Hh l sc g i++ex W Hh l (g1 sc i) (g2 sc i) g
def gu (W Hh:Int) (l:List T6) (sc:List (Int×Int)) (g:Int):List (Int×Int):=if dn l=true then prS W Hh l sc g sc.length else []
def aY (W Hh:Int) (l:List T6) (sc:List (Int×Int)) (g:Int):List (Int×Int):=cm (dJ (gu W Hh l sc g))
theorem lR (W Hh:Int)(l:List T6)(sc:List (Int×Int))(g:Int):∀i:Nat,(prS W Hh l sc g i).length<=7225*i
 |0=>by simp[prS]
 | i+1=>by
  have:=lR W Hh l sc g i
  have:=qI W Hh l (g1 sc i) (g2 sc i) g
  simp only[prS,List.length_append];omega
theorem mL {W Hh:Int}{l:List T6}{sc:List (Int×Int)}{g:Int}(h:dn l=false):aY W Hh l sc g=[]/\gu W Hh l sc g=[]:=by
 have e:gu W Hh l sc g=[]:=if_neg (by rw[h];decide)
 exact⟨by unfold aY;rw[e,mK];rfl,e⟩
def swS (l:List T9) (r g:Int):Nat->List (Int×Int)
 |0=>[]
 |i+1=>swS l r g i++bv (g91 l i) (g92 l i) (g93 l i) (g94 l i) (g97 l i) (g98 l i) (g99 l i) (if 0<r-g then r-g else 0) (r+g)
def ey (l:List T6) (m r g:Int):List (Int×Int):=if (decide (r = -1)||!dn l)=true then [] else swS (aD l m) r g (aD l m).length
def bJ (l:List T6) (m r g:Int):List (Int×Int):=cm (dJ (ey l m r g))
theorem jV (l:List T9)(r g:Int):∀i:Nat,(swS l r g i).length<=7225*i
 |0=>by simp[swS]
 | i+1=>by
  have:=jV l r g i
  have:=jb (g91 l i) (g92 l i) (g93 l i) (g94 l i) (g97 l i) (g98 l i) (g99 l i) (if 0<r-g then r-g else 0) (r+g)
  simp only[swS,List.length_append];omega
theorem kn {l:List T6}{m r g:Int}(h:r = -1\/dn l=false):bJ l m r g=[]/\ey l m r g=[]:=by
 have e:ey l m r g=[]:=if_pos (by rcases h with h|h<;>simp[h])
 exact⟨by unfold bJ;rw[e,mK];rfl,e⟩
theorem qS {l:List T6}(hS:bk l=true)(h:dn l=true)(m:Int):(aD l m).length<=32:=by
 unfold dn at h
 rw[Bool.and_eq_true,decide_eq_true_eq] at h
 have k:∀i:Nat,i<=l.length->((dirS l m i).length:Int)=sumC l i:=fun i=>by
  induction i with
  |zero=>intro _;rfl
  | succ i ih =>
   intro hi
   have:=ih (by omega)
   have q:=gK hS (show i<l.length by omega)
   simp only[dirS,sumC,List.length_append,kl];omega
 have:=k l.length (Nat.le_refl _)
 unfold aD;omega
def pvE (W Hh:Int) (xs:List Int) (l:List T6) (sc:List (Int×Int)) (g:Int):Int:=if cl W Hh xs l sc g=true then 0 else 1
def pvL (W Hh:Int) (xs:List Int) (l:List T6) (sc:List (Int×Int)) (g:Int):List (Int×Int):=if cl W Hh xs l sc g=true then aY W Hh l sc g else []
def pvR (W Hh:Int) (xs:List Int) (l:List T6) (sc:List (Int×Int)) (g:Int):List (Int×Int):=if cl W Hh xs l sc g=true then gu W Hh l sc g else []
def ssE (W Hh:Int) (xs:List Int) (l:List T6) (m r g:Int):Int:=if cl W Hh xs l [(m,r)] g=true then 0 else 1
def ssL (W Hh:Int) (xs:List Int) (l:List T6) (m r g:Int):List (Int×Int):=if cl W Hh xs l [(m,r)] g=true then bJ l m r g else []
def ssR (W Hh:Int) (xs:List Int) (l:List T6) (m r g:Int):List (Int×Int):=if cl W Hh xs l [(m,r)] g=true then ey l m r g else []
theorem pv_t {W Hh:Int}{xs:List Int}{l:List T6}{sc:List (Int×Int)}{g:Int}(h:cl W Hh xs l sc g=true):pvE W Hh xs l sc g=0/\pvL W Hh xs l sc g=aY W Hh l sc g/\pvR W Hh xs l sc g=gu W Hh l sc g:=⟨if_pos h,if_pos h,if_pos h⟩
theorem pv_f {W Hh:Int}{xs:List Int}{l:List T6}{sc:List (Int×Int)}{g:Int}(h:cl W Hh xs l sc g=false):pvE W Hh xs l sc g=1/\pvL W Hh xs l sc g=[]/\pvR W Hh xs l sc g=[]:=⟨if_neg (by rw[h];decide),if_neg (by rw[h];decide),if_neg (by rw[h];decide)⟩
theorem ss_t {W Hh:Int}{xs:List Int}{l:List T6}{m r g:Int}(h:cl W Hh xs l [(m,r)] g=true):ssE W Hh xs l m r g=0/\ssL W Hh xs l m r g=bJ l m r g/\ssR W Hh xs l m r g=ey l m r g:=⟨if_pos h,if_pos h,if_pos h⟩
theorem ss_f {W Hh:Int}{xs:List Int}{l:List T6}{m r g:Int}(h:cl W Hh xs l [(m,r)] g=false):ssE W Hh xs l m r g=1/\ssL W Hh xs l m r g=[]/\ssR W Hh xs l m r g=[]:=⟨if_neg (by rw[h];decide),if_neg (by rw[h];decide),if_neg (by rw[h];decide)⟩
theorem gi_setL {xs:List Int}{i j:Nat}{v:Int}(h:i<xs.length):gi (xs.set i v) j=if i=j then v else gi xs j:=by
 by_cases e:i=j
 ·subst e;simp[gi,List.getD_eq_getElem?_getD,h]
 simp[gi,List.getD_eq_getElem?_getD,e]
def cidx (W:Int) (c:Int×Int):Nat:=(c.2*W+c.1).toNat
theorem cidx_lt {W H:Int}{xs:List Int}{c:Int×Int}(hl:(xs.length:Int)=W*H)(h:inB W H c.1 c.2=true):cidx W c<xs.length:=by
 obtain⟨h1,h2,h3,h4⟩:=c7.1 h
 have k:=Int.mul_le_mul_of_nonneg_right (show c.2+1<=H by omega) (show 0<=W by omega)
 have e:(c.2+1)*W=c.2*W+W:=by grind
 have e2:H*W=W*H:=Int.mul_comm _ _
 have k0:=Int.mul_nonneg h3 (show 0<=W by omega)
 unfold cidx;omega
def gw (W H:Int):List (Int×Int)->List Int->Option (List Int)
 |[],o=>some o
 |c::l,o=>if atI W H o c.1 c.2=2 then none else gw W H l (o.set (cidx W c) 1)
def e9 (W H:Int):List (List (Int×Int))->List Int->Option (List Int)
 |[],o=>some o
 | s::l,o=>match s.filter fun c=>!(atI W H o c.1 c.2==1) with
  |[]=>none
  |[c]=>e9 W H l (if inB W H c.1 c.2=true then o.set (cidx W c) 2 else o)
  |_=>e9 W H l o
theorem set_le {o:List Int}{i:Nat}{v:Int}(h:∀x∈o,x<=2)(hv:v<=2):∀x∈o.set i v,x<=2:=fun x hx=>by
 rcases List.mem_or_eq_of_mem_set hx with k|k
 ·exact h x k
 rw[k];exact hv
theorem at_in {W H:Int}{xs:List Int}{c:Int×Int}(h:inB W H c.1 c.2=true):atI W H xs c.1 c.2=gi xs (cidx W c):=if_pos h
def lrnR (W H:Int) (p:List Int):List (Int×Int)->List Int->Option (List Int)
 |[],o=>some o
 |c::l,o=>if atI W H p c.1 c.2=2 then none else lrnR W H p l (o.set (cidx W c) 1)
theorem lrnR_eq {W H:Int}{p:List Int}(hl:(p.length:Int)=W*H):∀{l:List (Int×Int)}{o:List Int},(∀c∈l,inB W H c.1 c.2=true)->o.length=p.length->(∀i,gi o i=gi p i\/(gi o i=1/\¬gi p i=2))->lrnR W H p l o=gw W H l o
 |[],o,_,_,_=>rfl
 | c::l,o,hc,hlen,hk=>by
  have hin:=hc c (List.mem_cons_self ..)
  have hlt:=cidx_lt hl hin
  have e:atI W H p c.1 c.2=2↔atI W H o c.1 c.2=2:=by
   rw[at_in hin,at_in hin]
   rcases hk (cidx W c) with q|q<;>omega
  unfold lrnR gw
  by_cases h:atI W H p c.1 c.2=2
  ·rw[if_pos h,if_pos (e.1 h)]
  rw[if_neg h,if_neg (fun k=>h (e.2 k))]
  rw[at_in hin] at h
  refine lrnR_eq hl (fun c hc'=>hc c (List.mem_cons_of_mem _ hc')) (by rw[List.length_set];exact hlen) fun i=>?_
  rw[gi_setL (by rw[hlen];exact hlt)]
  split
  ·rename_i e';subst e';exact .inr ⟨rfl,h⟩
  exact hk i
theorem rQ {W H:Int}{p:List Int}(hl:(p.length:Int)=W*H){l:List (Int×Int)}(hc:∀c∈l,inB W H c.1 c.2=true):lrnR W H p l p=gw W H l p:=lrnR_eq hl hc rfl fun i=>.inl rfl
def gL (l:List T6) (sc:List (Int×Int)) (g:Int):List (List (Int×Int)):=(sc.filter fun e=>!(e.2 == -1)).map fun e=>bJ l e.1 e.2 g
def lnO (W Hh:Int) (xs:List Int) (l:List T6) (sc:List (Int×Int)) (g:Int):Option (List Int):=if dn l=true then (gw W Hh (aY W Hh l sc g) xs).bind (e9 W Hh (gL l sc g)) else some xs
def lnE (W Hh:Int) (xs:List Int) (l:List T6) (sc:List (Int×Int)) (g:Int):Int:=if cl W Hh xs l sc g=true then (match lnO W Hh xs l sc g with|none=>11|some _=>0) else 1
def lnX (W Hh:Int) (xs:List Int) (l:List T6) (sc:List (Int×Int)) (g:Int):List Int:=if cl W Hh xs l sc g=true then (lnO W Hh xs l sc g).getD [] else []
def lnZ (W Hh:Int) (xs:List Int) (l:List T6) (sc:List (Int×Int)) (g:Int) (n:Int):Int:=if lnE W Hh xs l sc g=0 then n else 0
section
variable {W Hh:Int} {xs:List Int} {l:List T6} {sc:List (Int×Int)} {g:Int}
theorem ln_1 (h:cl W Hh xs l sc g=false):lnE W Hh xs l sc g=1/\lnX W Hh xs l sc g=[]/\lnZ W Hh xs l sc g W=0/\lnZ W Hh xs l sc g Hh=0:=by
 have e:lnE W Hh xs l sc g=1:=if_neg (by rw[h];decide)
 exact⟨e,if_neg (by rw[h];decide),if_neg (by rw[e];decide),if_neg (by rw[e];decide)⟩
theorem ln_11 (h:cl W Hh xs l sc g=true)(k:lnO W Hh xs l sc g=none):lnE W Hh xs l sc g=11/\lnX W Hh xs l sc g=[]/\lnZ W Hh xs l sc g W=0/\lnZ W Hh xs l sc g Hh=0:=by
 have e:lnE W Hh xs l sc g=11:=by unfold lnE;rw[if_pos h,k]
 exact⟨e,by unfold lnX;rw[if_pos h,k];rfl,if_neg (by rw[e];decide),if_neg (by rw[e];decide)⟩
theorem ln_0 {o:List Int}(h:cl W Hh xs l sc g=true)(k:lnO W Hh xs l sc g=some o):lnE W Hh xs l sc g=0/\lnX W Hh xs l sc g=o/\lnZ W Hh xs l sc g W=W/\lnZ W Hh xs l sc g Hh=Hh:=by
 have e:lnE W Hh xs l sc g=0:=by unfold lnE;rw[if_pos h,k]
 exact⟨e,by unfold lnX;rw[if_pos h,k];rfl,if_pos e,if_pos e⟩
theorem prS_in:∀{i:Nat}{c:Int×Int},c∈prS W Hh l sc g i->inB W Hh c.1 c.2=true
 |0,_,h=>by cases h
 | i+1,c,h=>by
  unfold prS at h
  rcases List.mem_append.1 h with h|h
  ·exact prS_in h
  unfold ex at h
  split at h
  ·cases h
  have k:=(List.mem_filter.1 h).2
  unfold ck at k
  rw[Bool.and_eq_true,Bool.and_eq_true,bm,bm] at k
  exact c7.2 ⟨by omega,by omega,by omega,by omega⟩
theorem allL_in {c:Int×Int}(h:c∈aY W Hh l sc g):inB W Hh c.1 c.2=true:=by
 unfold aY at h
 have h:=(ga _).mem_iff.1 (fO.1 h)
 unfold gu at h
 split at h
 ·exact prS_in h
 cases h
def lfS (W:Int) (A:List (Int×Int)) (xs:List Int):Nat->List Int
 |0=>xs
 |i+1=>(lfS W A xs i).set ((g2 A i*W)+g1 A i).toNat 1
theorem vld_set {o:List Int}{i:Nat}{v:Int}(h:bK W Hh o=true)(hv:v<=2):bK W Hh (o.set i v)=true:=by
 have q:=bp.1 h
 exact bp.2 ⟨q.w0,q.w1,q.h0,q.h1,by rw[List.length_set];exact q.len,set_le q.le hv⟩
theorem gb {A:List (Int×Int)}(h:bK W Hh xs=true):∀i:Nat,bK W Hh (lfS W A xs i)=true
 |0=>h
 |i+1=>vld_set (gb h i) (by decide)
theorem pD {A:List (Int×Int)}{o:List Int}{i:Nat}(hi:i<A.length)(hA:∀c∈A,inB W Hh c.1 c.2=true):gw W Hh (A.drop i) o=if gi o ((g2 A i*W)+g1 A i).toNat=2 then none else gw W Hh (A.drop (i+1)) (o.set ((g2 A i*W)+g1 A i).toNat 1):=by
 rw[List.drop_eq_getElem_cons hi]
 have h:=hA _ (List.getElem_mem hi)
 have e:cidx W A[i]=((g2 A i*W)+g1 A i).toNat:=by rw[<-bC hi];rfl
 conv=>lhs;unfold gw
 rw[at_in h,e]
theorem gin_mem {A:List (Int×Int)}{i:Nat}(hi:i<A.length)(hA:∀c∈A,inB W Hh c.1 c.2=true):inB W Hh (g1 A i) (g2 A i)=true:=by
 have h:=hA _ (List.getElem_mem hi)
 rw[<-bC hi] at h;exact h
def frP (W Hh:Int) (o:List Int) (c:Int×Int):Bool:=atI W Hh o c.1 c.2==1
def lwU (W Hh:Int) (o:List Int) (d:List (Int×Int)):List Int:=if d.length=1/\btw (g1 d 0) 0 (W-1)=true/\btw (g2 d 0) 0 (Hh-1)=true then o.set ((g2 d 0*W)+g1 d 0).toNat 2 else o
def lwS (W Hh:Int) (l:List T6) (sc:List (Int×Int)) (g:Int) (o:List Int):Nat->List Int
 |0=>o
 |i+1=>if g2 sc i = -1 then lwS W Hh l sc g o i else lwU W Hh (lwS W Hh l sc g o i) (bE (frP W Hh (lwS W Hh l sc g o i)) (bJ l (g1 sc i) (g2 sc i) g))
theorem lwU_vld {o:List Int}{d:List (Int×Int)}(h:bK W Hh o=true):bK W Hh (lwU W Hh o d)=true:=by
 unfold lwU;split
 ·exact vld_set h (by decide)
 exact h
theorem gM {o:List Int}(h:bK W Hh o=true):∀i:Nat,bK W Hh (lwS W Hh l sc g o i)=true
 |0=>h
 | i+1=>by
  unfold lwS;split
  ·exact gM h i
  exact lwU_vld (gM h i)
theorem pE {o:List Int}{i:Nat}(hi:i<sc.length):e9 W Hh (gL l (sc.drop i) g) o=if g2 sc i = -1 then e9 W Hh (gL l (sc.drop (i+1)) g) o else if (bE (frP W Hh o) (bJ l (g1 sc i) (g2 sc i) g)).length=0 then none else e9 W Hh (gL l (sc.drop (i+1)) g) (lwU W Hh o (bE (frP W Hh o) (bJ l (g1 sc i) (g2 sc i) g))):=by
 have e:sc[i]=(g1 sc i,g2 sc i):=(bC hi).symm
 unfold gL
 rw[List.drop_eq_getElem_cons hi,List.filter_cons,e]
 by_cases h:g2 sc i = -1
 ·rw[if_pos h,if_neg (by simp[h])]
 rw[if_neg h,if_pos (by simpa using h),List.map_cons]
 conv=>lhs;unfold e9
 have hd:∀s:List (Int×Int),(s.filter fun c=>!(atI W Hh o c.1 c.2==1))=bE (frP W Hh o) s:=fun _=>rfl
 simp only[hd]
 generalize bE (frP W Hh o) (bJ l (g1 sc i) (g2 sc i) g)=d
 match d with
 |[]=>simp
 | [c] =>
  simp only[List.length_cons,List.length_nil]
  unfold lwU
  have q:(btw (g1 [c] 0) 0 (W-1)=true/\btw (g2 [c] 0) 0 (Hh-1)=true)↔inB W Hh c.1 c.2=true:=by
   rw[bm,bm,c7];show ((0<=c.1/\c.1<=W-1)/\0<=c.2/\c.2<=Hh-1)↔_;omega
  simp only[List.length_cons,List.length_nil,Nat.zero_add,true_and,q,Nat.one_ne_zero,if_false]
  rfl
 |a::b::t=>simp[lwU]
theorem qT {o:List Int}{i:Nat}(h:g2 sc i = -1):lwS W Hh l sc g o (i+1)=lwS W Hh l sc g o i:=by simp only[lwS];rw[if_pos h]
theorem ko {o:List Int}{i:Nat}(h:¬g2 sc i = -1)(k:¬((bE (frP W Hh (lwS W Hh l sc g o i)) (bJ l (g1 sc i) (g2 sc i) g)).length=1/\btw (g1 (bE (frP W Hh (lwS W Hh l sc g o i)) (bJ l (g1 sc i) (g2 sc i) g)) 0) 0 (W-1)=true/\btw (g2 (bE (frP W Hh (lwS W Hh l sc g o i)) (bJ l (g1 sc i) (g2 sc i) g)) 0) 0 (Hh-1)=true)):lwS W Hh l sc g o (i+1)=lwS W Hh l sc g o i:=by simp only[lwS];rw[if_neg h];exact if_neg k
theorem lwS_set {o:List Int}{i:Nat}(h:¬g2 sc i = -1)(k:(bE (frP W Hh (lwS W Hh l sc g o i)) (bJ l (g1 sc i) (g2 sc i) g)).length=1/\btw (g1 (bE (frP W Hh (lwS W Hh l sc g o i)) (bJ l (g1 sc i) (g2 sc i) g)) 0) 0 (W-1)=true/\btw (g2 (bE (frP W Hh (lwS W Hh l sc g o i)) (bJ l (g1 sc i) (g2 sc i) g)) 0) 0 (Hh-1)=true):lwS W Hh l sc g o (i+1)=(lwS W Hh l sc g o i).set ((g2 (bE (frP W Hh (lwS W Hh l sc g o i)) (bJ l (g1 sc i) (g2 sc i) g)) 0*W)+g1 (bE (frP W Hh (lwS W Hh l sc g o i)) (bJ l (g1 sc i) (g2 sc i) g)) 0).toNat 2:=by simp only[lwS];rw[if_neg h];exact if_pos k
theorem kp {o:List Int}{i:Nat}(hi:i<sc.length)(h:g2 sc i = -1\/¬(bE (frP W Hh (lwS W Hh l sc g o i)) (bJ l (g1 sc i) (g2 sc i) g)).length=0):e9 W Hh (gL l (sc.drop i) g) (lwS W Hh l sc g o i)=e9 W Hh (gL l (sc.drop (i+1)) g) (lwS W Hh l sc g o (i+1)):=by
 rw[pE hi]
 simp only[lwS]
 by_cases k:g2 sc i = -1
 ·rw[if_pos k,if_pos k]
 rw[if_neg k,if_neg k,if_neg (by rcases h with h|h;exact absurd h k;exact h)]
theorem lwS_bad {o:List Int}{i:Nat}(hi:i<sc.length)(h:¬g2 sc i = -1)(k:(bE (frP W Hh (lwS W Hh l sc g o i)) (bJ l (g1 sc i) (g2 sc i) g)).length=0):e9 W Hh (gL l (sc.drop i) g) (lwS W Hh l sc g o i)=none:=by
 rw[pE hi,if_neg h,if_pos k]
theorem oA {o:List Int}(h:bK W Hh o=true):0<o.length:=by
 have q:=bp.1 h
 have:=(q.idx (show inB W Hh 0 0=true from c7.2 (by have:=q.w0;have:=q.h0;omega))).2.2.2.2.1
 omega
theorem pad_len {p:Int×Int->Bool}{l:List (Int×Int)}:(eo l.length (bE p l)).length=l.length:=by
 have:=og (p:=p) (l:=l)
 unfold eo;simp;omega
theorem pad_g1 {n:Nat}{d:List (Int×Int)}(h:¬d.length=0):g1 (eo n d) 0=g1 d 0:=by
 match d,h with
 |a::t,_=>rfl
theorem pad_g2 {n:Nat}{d:List (Int×Int)}(h:¬d.length=0):g2 (eo n d) 0=g2 d 0:=by
 match d,h with
 |a::t,_=>rfl
theorem qU {m r:Int}(hS:bk l=true):(bJ l m r g).length<=7225*4096:=by
 have h1:=jV (aD l m) r g (aD l m).length
 have h2:=km hS m
 have h3:(ey l m r g).length<=7225*4096:=by
  unfold ey;split
  ·simp
  omega
 unfold bJ
 have:=lQ (dJ (ey l m r g));rw[fP] at this;omega
theorem qV:(aY W Hh l sc g).length<=7225*sc.length:=by
 have h1:=lR W Hh l sc g sc.length
 have h3:(gu W Hh l sc g).length<=7225*sc.length:=by
  unfold gu;split
  ·exact h1
  simp
 unfold aY
 have:=lQ (dJ (gu W Hh l sc g));rw[fP] at this;omega
end
section
variable {W Hh:Int} {xs:List Int} {sc:List (Int×Int)}
end
set_option maxRecDepth 100000 in
theorem idx_r (H:ac)(s:AV)(l:List T9)(hs:Sl H 9 s l.length (r9 l))(hl:l.length<=1000000000)(g:FuncId)(caps:List AV)(hok:dB prog g=true)(hc:AV.bels H.length caps=true)(p:T9->Bool)(hf:∀j,j<l.length->ACalls prog g (.agg [.int .i64 (g91 l j),.int .i64 (g92 l j),.int .i64 (g93 l j),.int .i64 (g94 l j),.int .i64 (g95 l j),.int .i64 (g96 l j),.int .i64 (g97 l j),.int .i64 (g98 l j),.int .i64 (g99 l j)]::caps) H (fun v H'=>v=.bool (p (g91 l j,g92 l j,g93 l j,g94 l j,g95 l j,g96 l j,g97 l j,g98 l j,g99 l j))/\H'=H)):
  ACalls prog 198 [s,.fn g caps] H (fun v H'=>v=.int .i64 (fk p l)/\H'=H):=by
 obtain⟨b,own,cap,rfl,hb⟩:=hs
 have hbl:=getElem?_lt hb
 have hmv:=fun m sel=>gI (n:=H.length) (m:=m) (sel:=sel) hc
 (refine co try_mixed func198 true _ rfl (Nat.le_of_ble_eq_true (by kernel_rfl)) (by kernel_rfl) ?_;intro hbel Q hQ hQ' c hc;unfold Tryz.f198 at hc;simp only[Option.some.injEq] at hc;subst hc;clear hQ')
 simp -implicitDefEqProofs (disch:=omega) only [simprocAttr,aG,aH,Function.comp_apply,one1,lenV,ak,ay,az,aop,AV.ofValue,AV.ofCell,AV.cells,AV.flat,AV.one,arep,aT,av,aE]
 refine glp (fun k F Hx=>∃i:Nat,i+k=l.length/\(l.take i).any p=false/\F=[(0,.sl (some (b,0)) l.length none),(1,.fn g caps),(7,.int .i64 l.length),(8,.int .i64 (i:Nat))]/\Hx=H) l.length ?_ ?_
 ·refine⟨_,_,_,⟨0,by omega,rfl,rfl,rfl⟩,Abs.by0 hbel ?_⟩
  exact aF @hmv
 rintro k F Hx ⟨i,hik,ht,rfl,rfl⟩ J hJ
 by_cases hi:i<l.length
 ·have hii:(i:Int)<(l.length:Int):=by omega
  have q1:=r9_load hi
  have hg:=g9_eq hi
  simp -implicitDefEqProofs (disch:=omega) only [hii,hb,q1,ei,lf,simprocAttr,aG,aH,Function.comp_apply,one1,lenV,ak,ay,az,aop,AV.ofValue,AV.ofCell,AV.cells,AV.flat,AV.one,arep,aT,av,aE]
  iterate 2 refine And.intro (by omega) ?_
  refine dW hok (hf i hi) ?_
  have hst:=iY (p:=p) hi
  rw[ht,Bool.false_or,<-hg] at hst
  cases h1:p (g91 l i,g92 l i,g93 l i,g94 l i,g95 l i,g96 l i,g97 l i,g98 l i,g99 l i)
  ·rw[h1] at hst
   simp -implicitDefEqProofs (disch:=omega) only [h1,simprocAttr,aG,aH,Function.comp_apply,one1,lenV,ak,ay,az,aop,AV.ofValue,AV.ofCell,AV.cells,AV.flat,AV.one,arep,aT,av,aE]
   refine hJ _ _ ⟨k-1,by omega,_,_,_,⟨i+1,by omega,hst,rfl,rfl⟩,Abs.by0 hbel ?_⟩
   exact aF @hmv
  simp -implicitDefEqProofs (disch:=omega) only [h1,simprocAttr,aG,aH,Function.comp_apply,one1,lenV,ak,ay,az,aop,AV.ofValue,AV.ofCell,AV.cells,AV.flat,AV.one,arep,aT,av,aE]
  exact eQ hQ hbel (.int .i64 (i:Nat)) results198 ⟨by rw[iA hi ht (by rw[<-hg];exact h1)],rfl⟩
 have hnn:¬((i:Int)<(l.length:Int)):=by omega
 simp -implicitDefEqProofs (disch:=omega) only [hnn,simprocAttr,aG,aH,Function.comp_apply,one1,lenV,ak,ay,az,aop,AV.ofValue,AV.ofCell,AV.cells,AV.flat,AV.one,arep,aT,av,aE]
 rw[List.take_of_length_le (by omega)] at ht
 exact eQ hQ hbel (.int .i64 (-1)) results198 ⟨by rw[fl ht],rfl⟩
theorem has_r (H:ac)(s:AV)(l:List T9)(hs:Sl H 9 s l.length (r9 l))(hl:l.length<=1000000000)(g:FuncId)(caps:List AV)(hok:dB prog g=true)(hc:AV.bels H.length caps=true)(p:T9->Bool)(hf:∀j,j<l.length->ACalls prog g (.agg [.int .i64 (g91 l j),.int .i64 (g92 l j),.int .i64 (g93 l j),.int .i64 (g94 l j),.int .i64 (g95 l j),.int .i64 (g96 l j),.int .i64 (g97 l j),.int .i64 (g98 l j),.int .i64 (g99 l j)]::caps) H (fun v H'=>v=.bool (p (g91 l j,g92 l j,g93 l j,g94 l j,g95 l j,g96 l j,g97 l j,g98 l j,g99 l j))/\H'=H)):
  ACalls prog 165 [s,.fn g caps] H (fun v H'=>v=.bool (l.any p)/\H'=H):=by
 have key:=idx_r H s l hs hl g caps hok hc p hf
 obtain⟨b,own,cap,rfl,hb⟩:=hs
 have hbl:=getElem?_lt hb
 (refine co try_mixed func165 true _ rfl (Nat.le_of_ble_eq_true (by kernel_rfl)) (by kernel_rfl) ?_;intro hbel Q hQ hQ' c hc;unfold Tryz.f165 at hc;simp only[Option.some.injEq] at hc;subst hc;clear hQ')
 simp -implicitDefEqProofs (disch:=omega) only [simprocAttr,aG,aH,Function.comp_apply,one1,lenV,ak,ay,az,aop,AV.ofValue,AV.ofCell,AV.cells,AV.flat,AV.one,arep,aT,av,aE]
 refine dW (by kernel_rfl) key ?_
 simp -implicitDefEqProofs (disch:=omega) only [simprocAttr,aG,aH,Function.comp_apply,one1,lenV,ak,ay,az,aop,AV.ofValue,AV.ofCell,AV.cells,AV.flat,AV.one,arep,aT,av,aE]
 exact eQ hQ hbel (.bool (decide (0<=fk p l))) results165 ⟨by rw[kg],rfl⟩
set_option maxRecDepth 100000 in
theorem idx_m (H:ac)(s:AV)(l:List (Int×Int))(hs:SlP H s l)(hl:l.length<=1000000000)(g:FuncId)(caps:List AV)(hok:dB prog g=true)(hc:AV.bels H.length caps=true)(p:(Int×Int)->Bool)(hf:∀j,j<l.length->ACalls prog g (.agg [.int .i64 (g1 l j),.int .i64 (g2 l j)]::caps) H (fun v H'=>v=.bool (p (g1 l j,g2 l j))/\H'=H)):
  ACalls prog 114 [s,.fn g caps] H (fun v H'=>v=.int .i64 (fk p l)/\H'=H):=by
 obtain⟨b,own,cap,rfl,hb⟩:=hs
 have hbl:=getElem?_lt hb
 have hmv:=fun m sel=>gI (n:=H.length) (m:=m) (sel:=sel) hc
 (refine co try_mixed func114 true _ rfl (Nat.le_of_ble_eq_true (by kernel_rfl)) (by kernel_rfl) ?_;intro hbel Q hQ hQ' c hc;unfold Tryz.f114 at hc;simp only[Option.some.injEq] at hc;subst hc;clear hQ')
 simp -implicitDefEqProofs (disch:=omega) only [simprocAttr,aG,aH,Function.comp_apply,one1,lenV,ak,ay,az,aop,AV.ofValue,AV.ofCell,AV.cells,AV.flat,AV.one,arep,aT,av,aE]
 refine glp (fun k F Hx=>∃i:Nat,i+k=l.length/\(l.take i).any p=false/\F=[(0,.sl (some (b,0)) l.length none),(1,.fn g caps),(7,.int .i64 l.length),(8,.int .i64 (i:Nat))]/\Hx=H) l.length ?_ ?_
 ·refine⟨_,_,_,⟨0,by omega,rfl,rfl,rfl⟩,Abs.by0 hbel ?_⟩
  exact aF @hmv
 rintro k F Hx ⟨i,hik,ht,rfl,rfl⟩ J hJ
 by_cases hi:i<l.length
 ·have hii:(i:Int)<(l.length:Int):=by omega
  have q1:=bN hi
  have hg:=bC hi
  simp -implicitDefEqProofs (disch:=omega) only [hii,hb,q1,ba,cp,simprocAttr,aG,aH,Function.comp_apply,one1,lenV,ak,ay,az,aop,AV.ofValue,AV.ofCell,AV.cells,AV.flat,AV.one,arep,aT,av,aE]
  iterate 2 refine And.intro (by omega) ?_
  refine dW hok (hf i hi) ?_
  have hst:=iY (p:=p) hi
  rw[ht,Bool.false_or,<-hg] at hst
  cases h1:p (g1 l i,g2 l i)
  ·rw[h1] at hst
   simp -implicitDefEqProofs (disch:=omega) only [h1,simprocAttr,aG,aH,Function.comp_apply,one1,lenV,ak,ay,az,aop,AV.ofValue,AV.ofCell,AV.cells,AV.flat,AV.one,arep,aT,av,aE]
   refine hJ _ _ ⟨k-1,by omega,_,_,_,⟨i+1,by omega,hst,rfl,rfl⟩,Abs.by0 hbel ?_⟩
   exact aF @hmv
  simp -implicitDefEqProofs (disch:=omega) only [h1,simprocAttr,aG,aH,Function.comp_apply,one1,lenV,ak,ay,az,aop,AV.ofValue,AV.ofCell,AV.cells,AV.flat,AV.one,arep,aT,av,aE]
  exact eQ hQ hbel (.int .i64 (i:Nat)) results114 ⟨by rw[iA hi ht (by rw[<-hg];exact h1)],rfl⟩
 have hnn:¬((i:Int)<(l.length:Int)):=by omega
 simp -implicitDefEqProofs (disch:=omega) only [hnn,simprocAttr,aG,aH,Function.comp_apply,one1,lenV,ak,ay,az,aop,AV.ofValue,AV.ofCell,AV.cells,AV.flat,AV.one,arep,aT,av,aE]
 rw[List.take_of_length_le (by omega)] at ht
 exact eQ hQ hbel (.int .i64 (-1)) results114 ⟨by rw[fl ht],rfl⟩
theorem has_m (H:ac)(s:AV)(l:List (Int×Int))(hs:SlP H s l)(hl:l.length<=1000000000)(g:FuncId)(caps:List AV)(hok:dB prog g=true)(hc:AV.bels H.length caps=true)(p:(Int×Int)->Bool)(hf:∀j,j<l.length->ACalls prog g (.agg [.int .i64 (g1 l j),.int .i64 (g2 l j)]::caps) H (fun v H'=>v=.bool (p (g1 l j,g2 l j))/\H'=H)):
  ACalls prog 72 [s,.fn g caps] H (fun v H'=>v=.bool (l.any p)/\H'=H):=by
 have key:=idx_m H s l hs hl g caps hok hc p hf
 obtain⟨b,own,cap,rfl,hb⟩:=hs
 have hbl:=getElem?_lt hb
 (refine co try_mixed func72 true _ rfl (Nat.le_of_ble_eq_true (by kernel_rfl)) (by kernel_rfl) ?_;intro hbel Q hQ hQ' c hc;unfold Tryz.f72 at hc;simp only[Option.some.injEq] at hc;subst hc;clear hQ')
 simp -implicitDefEqProofs (disch:=omega) only [simprocAttr,aG,aH,Function.comp_apply,one1,lenV,ak,ay,az,aop,AV.ofValue,AV.ofCell,AV.cells,AV.flat,AV.one,arep,aT,av,aE]
 refine dW (by kernel_rfl) key ?_
 simp -implicitDefEqProofs (disch:=omega) only [simprocAttr,aG,aH,Function.comp_apply,one1,lenV,ak,ay,az,aop,AV.ofValue,AV.ofCell,AV.cells,AV.flat,AV.one,arep,aT,av,aE]
 exact eQ hQ hbel (.bool (decide (0<=fk p l))) results72 ⟨by rw[kg],rfl⟩
theorem dq (H:ac)(n lo hi:Int):zC 87 [iV n,iV lo,iV hi] H (.bool (btw n lo hi)) H:=by
 refine AcT true func87 ?_;intro hbel Q hQ
 refine aC ?_
 refine bg (fun h1=>?_) (fun h1=>?_)
 ·have h1d:=bsT h1
  have G1:=jn h1 @h1d
  exact eS G1 hQ hbel (.bool (decide (n<=hi))) results87 ⟨by simp[btw,h1d],rfl⟩
 have h1d:=bsT h1
 have G2:=jn h1 @h1d
 exact eS G2 hQ hbel (.bool false) results87 ⟨by simp[btw,h1d],rfl⟩
theorem kvb_c (H:ac)(m r:Int):zC 120 [.agg [iV m,iV r]] H (.bool (dy m r)) H:=by
 refine AcT true func120 ?_;intro hbel Q hQ
 refine aC ?_
 refine cv (dq _ m 0 _) ?_
 refine aC ?_
 refine bg (fun h1=>?_) (fun h1=>?_)
 ·have h1d:=bsT h1
  have G3:=jn h1 @h1d
  refine aa G3 ?_
  refine cvr G3 (dq _ r _ _) ?_
  exact eP hQ hbel (.bool (btw r (-1) 1024)) results120 ⟨by simp[dy,h1d],rfl⟩
 have h1d:=bsT h1
 have G4:=jn h1 @h1d
 exact eR G4 hQ hbel (.bool false) results120 ⟨by simp[dy,h1d],rfl⟩
theorem kright1_c (H:ac)(m r:Int):zC 119 [.agg [iV m,iV r]] H (.bool (!(beaE (m,r)))) H:=by
 refine AcT true func119 ?_;intro hbel Q hQ
 refine aC ?_
 refine cv (kvb_c _ m r) ?_
 refine aC ?_
 exact eP hQ hbel (.bool (!(dy m r))) results119 ⟨rfl,rfl⟩
theorem kset1_c (H:ac)(x0 y0 x1 y1 f c:Int):zC 159 [.agg [iV x0,iV y0,iV x1,iV y1,iV f,iV c]] H (.bool (!(bxB x0 y0 x1 y1 f c))) H:=by
 refine AcT true func159 ?_;intro hbel Q hQ
 refine aC ?_
 refine cv (fy _ _ _ _ _ f c) ?_
 refine aC ?_
 exact eP hQ hbel (.bool (!(bxB x0 y0 x1 y1 f c))) results159 ⟨rfl,rfl⟩
theorem kset_c (H:ac)(s:AV)(l:List T6)(hs:Sl H 6 s l.length (r6 l))(hl:l.length<=1000000000):zC 121 [s] H (.bool (bk l)) H:=by
 obtain⟨bs,os,cs,rfl,hbs,hbls,hb0s⟩:=zA1 hs
 refine AcT true func121 ?_;intro hbel Q hQ
 have G1:=jn @hbs @hb0s
 refine rgs G1 (fun h1 h1d G2=>?_) (fun h1 h1d G3=>?_)
 ·refine aa G2 ?_
  refine cvr G2 (lF _ _ l (zA2 hb0s hbs) (by omega) _ [] (by kernel_rfl) rfl (fun b=>!bl b) (fun j hj=>kset1_c _ _ _ _ _ _ _)) ?_
  exact eQ hQ hbel (.bool (!(l.any (fun b=>!bl b)))) results121 ⟨by simp[bk,h1d],rfl⟩
 exact eS G3 hQ hbel (.bool false) results121 ⟨by simp[bk,h1d],rfl⟩
theorem kpairs_c (H:ac)(s:AV)(l:List T6)(hs:Sl H 6 s l.length (r6 l))(hS:bk l=true):zC 123 [s] H (iV (sumC l l.length)) H:=by
 obtain⟨bs,os,cs,rfl,hbs,hbls,hb0s⟩:=zA1 hs
 have hln:=dU hS
 refine AcT true func123 ?_;intro hbel Q hQ
 have G4:=jn @hbs @hb0s
 refine aa G4 ?_
 refine glp (fun k F Hx=>∃i:Nat,i+k=l.length/\F=[(3,iV (sumC l i)),(6,.sl (some (bs,0)) l.length cs),(7,iV (l.length:Int)),(8,iV (i:Int))]/\H=Hx) (l.length) ?_ ?_
 ·refine⟨_,_,_,⟨0,by omega,rfl,rfl⟩,Abs.by0 hbel ?_⟩
  exact aF @sumC.eq_1
 rintro k0 F Hx ⟨i,hm0,rfl,rfl⟩ J0 hJ0
 refine rcs G4 (fun h1 h1d _=>?_) (fun h1 h1d G6=>?_)
 ·have hsb:=jQ hS i (by omega)
  have hgb:=nq hS (show i<l.length by omega)
  have q2:=bD (l:=l) (j:=i) (by omega)
  have G5:=jn h1 (jn h1d (jn @bo (jn q2 G4)))
  refine aa G5 ?_
  refine hJ0 _ _ ⟨k0-1,by omega,_,_,_,⟨i+1,by omega,rfl,rfl⟩,Abs.byN hbel ?_⟩
  exact aF @sumC.eq_2
 obtain rfl:i=l.length:=by omega
 exact eS G6 hQ hbel (iV (sumC l l.length)) results123 ⟨rfl,rfl⟩
theorem ktau1_c (H:ac)(x0 y0 x1 y1 f c:Int)(hb:bxB x0 y0 x1 y1 f c=true):zC 122 [.agg [iV x0,iV y0,iV x1,iV y1,iV f,iV c]] H (.bool (gt (x0,y0,x1,y1,f,c))) H:=by
 have hbb:=bB.1 hb
 refine AcT true func122 ?_;intro hbel Q hQ
 refine aC ?_
 refine bg (fun h1=>?_) (fun h1=>?_)
 ·have h1d:=bsT h1
  have G7:=jn h1 @h1d
  exact eR G7 hQ hbel (.bool (decide (64<(y1-y0)))) results122 ⟨by simp[gt,h1d],rfl⟩
 have h1d:=bsT h1
 have G8:=jn h1 @h1d
 exact eR G8 hQ hbel (.bool true) results122 ⟨by simp[gt,h1d],rfl⟩
theorem lh (H:ac)(s:AV)(l:List T6)(hs:Sl H 6 s l.length (r6 l))(hS:bk l=true):zC 81 [s] H (.bool (dn l)) H:=by
 obtain⟨bs,os,cs,rfl,hbs,hbls,hb0s⟩:=zA1 hs
 have hln:=dU hS
 refine AcT true func81 ?_;intro hbel Q hQ
 have G1:=jn @hbs @hb0s
 refine aa G1 ?_
 refine cv (kpairs_c _ _ l (zA2 hb0s hbs) (by assumption)) ?_
 refine rgs G1 (fun h1 h1d G2=>?_) (fun h1 h1d G3=>?_)
 ·refine aa G2 ?_
  refine cvr G2 (lF _ _ l (zA2 hb0s hbs) (by omega) _ [] (by kernel_rfl) rfl (gt) (fun j hj=>ktau1_c _ _ _ _ _ _ _ ((bi.1 hS).2 (g6 l j) (bY hj)))) ?_
  exact eQ hQ hbel (.bool (!(l.any (gt)))) results81 ⟨by simp[dn,h1d],rfl⟩
 exact eS G3 hQ hbel (.bool false) results81 ⟨by simp[dn,h1d],rfl⟩
theorem kright_c (H:ac)(W Hh:Int)(pp:AV)(xs:List Int)(s:AV)(l:List T6)(q:AV)(sc:List (Int×Int))(g:Int)(hpp:zI H pp xs)(hs:Sl H 6 s l.length (r6 l))(hq:SlP H q sc)(hl:l.length<=1000000000)(hsc:sc.length<=1000000000):zC 80 [.agg [iV W,iV Hh,pp],s,q,iV g] H (.bool (cl W Hh xs l sc g)) H:=by
 obtain⟨bpp,opp,cpp,rfl,hbpp,hblpp,hb0pp⟩:=zA1 hpp
 obtain⟨bs,os,cs,rfl,hbs,hbls,hb0s⟩:=zA1 hs
 obtain⟨bq,oq,cq,rfl,hbq,hblq,hb0q⟩:=zA1 hq
 refine AcT true func80 ?_;intro hbel Q hQ
 have G4:=jn @hbpp (jn @hb0pp (jn @hbs (jn @hb0s (jn @hbq @hb0q))))
 refine aa G4 ?_
 refine cv (jU _ W Hh _ xs (.inr (zA2 hb0pp hbpp))) ?_
 refine rgs G4 (fun h1 h1d G5=>?_) (fun h1 h1d G14=>?_)
 ·refine rgs G5 (fun h2 h2d G6=>?_) (fun h2 h2d G13=>?_)
  ·refine aa G6 ?_
   refine cv (kset_c _ _ l (zA2 hb0s hbs) (by omega)) ?_
   refine rgs G6 (fun h3 h3d G7=>?_) (fun h3 h3d G12=>?_)
   ·refine rgs G7 (fun h4 h4d G8=>?_) (fun h4 h4d G11=>?_)
    ·refine aa G8 ?_
     refine cv (has_m _ _ sc (zA2 hb0q hbq) (by omega) _ [] (by kernel_rfl) rfl (fun e=>!beaE e) (fun j hj=>kright1_c _ _ _)) ?_
     refine rgs G8 (fun h5 h5d G9=>?_) (fun h5 h5d G10=>?_)
     ·refine aa G9 ?_
      refine cvr G9 (dq _ g 1 _) ?_
      exact eP hQ hbel (.bool (btw g 1 32)) results80 ⟨by (unfold cl bP;simp only[h1,h2,h3,h4,h5];rfl),rfl⟩
     exact eR G10 hQ hbel (.bool false) results80 ⟨by simp[cl,bP,h1d,h2d,h3d,h4d,h5d],rfl⟩
    exact eR G11 hQ hbel (.bool false) results80 ⟨by simp[cl,bP,h1d,h2d,h3d,h4d],rfl⟩
   exact eR G12 hQ hbel (.bool false) results80 ⟨by simp[cl,bP,h1d,h2d,h3d],rfl⟩
  exact eR G13 hQ hbel (.bool false) results80 ⟨by (unfold cl bP;simp only[h1,h2];rfl),rfl⟩
 exact eR G14 hQ hbel (.bool false) results80 ⟨by simp[cl,bP,h1d],rfl⟩
end Go.Proofs.YtidlfjajjieepaaGreat
