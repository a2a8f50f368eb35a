/- Parts of the proof: walks and plain facts. Conditions: as each theorem states. -/
import Derived.Test.YtidlfjajjieepaaGreatG3
import Derived.Test.YtidlfjajjieepaaGreatG2
import Derived.Deep.RegionHeld3
namespace Go.Proofs.YtidlfjajjieepaaGreat
set_option linter.unusedSimpArgs false
set_option linter.unusedVariables false
open Go.RowKit Go.Proofs.Tryz
set_option maxHeartbeats 4000000
set_option maxRecDepth 100000
theorem hlistk_c (H:ac)(l:List T6)(i:Nat)(ha:bZ (g65 l i) (g66 l i)=true):zC 116 [.agg [iV (g65 l i),iV (g66 l i)]] H (.sl (some (H.length,0)) (mkB (g6 l i)).length none) (H++[.cells true 1 (ints .i64 (mkB (g6 l i)))]):=ol H _ _ ha
theorem eE (H:ac)(l:List T6)(m far:Int):zC 160 [.agg [iV (g91 (aD l m) 0),iV (g92 (aD l m) 0)],.agg [iV (g97 (aD l m) 0),iV (g98 (aD l m) 0),iV (g99 (aD l m) 0)],iV 0,iV far] H (.tup [.sl (some (H.length,0)) (aZ l m far).length (aS (aZ l m far).length),iV (trE (g91 (aD l m) 0) (g92 (aD l m) 0) (g97 (aD l m) 0) (g98 (aD l m) 0) (g99 (aD l m) 0) 0 far)]) (H++[.cells (aI (aZ l m far).length) 2 (prs (aZ l m far))]):=mF H _ _ _ _ _ _ _
theorem g9_mem {l:List T9}{j:Nat}(h:j<l.length):g9 l j∈l:=by
 have:=g9_eq h
 have e:(g91 l j,g92 l j,g93 l j,g94 l j,g95 l j,g96 l j,g97 l j,g98 l j,g99 l j)=g9 l j:=rfl
 rw[e] at this;rw[this];exact List.getElem_mem h
theorem fstL_len (l:List T6)(m far:Int):(aZ l m far).length<=7225:=lO _ _ _ _ _ _ _
theorem ej (H:ac)(x0 y0 x1 y1 f c:Int)(ha:bxB x0 y0 x1 y1 f c=true):zC 161 [.agg [iV x0,iV y0,iV x1,iV y1,iV f,iV c]] H (.sl (some (H.length,0)) 4 none) (H++[.cells true 2 [iV x0,iV y0,iV x1,iV y0,iV x0,iV y1,iV x1,iV y1]]):=by
 refine AcT true func161 ?_;intro hbel Q hQ
 have G1:=@ha
 refine aa G1 ?_
 refine cvr G1 (fy _ _ _ _ _ f c) ?_
 refine hQ _ _ (aM (.inl rfl) hbel (x1:=.sl (some (H.length+1,0)) 4 (some 4)) (l2:=[.cells true 2 [iV x0,iV y0,iV x1,iV y0,iV x0,iV y1,iV x1,iV y1]]) (.sl (some (H.length,0)) 4 none) (aU results161) [] rfl [1] (by decide) ⟨rfl,rfl⟩ ?_)
 exact ar
theorem kq (H:ac)(s:AV)(l:List T6)(m r:Int)(hs:Sl H 6 s l.length (r6 l))(hS:bk l=true):zC 129 [s,.agg [iV m,iV r]] H (.sl (some (H.length,0)) ((aD l m).length) (aS (aD l m).length)) (H++[.cells (aI (aD l m).length) 9 (r9 (aD l m))]):=by
 obtain⟨bs,os,cs,rfl,hbs,hbls,hb0s⟩:=zA1 hs
 have hln:=dU hS
 refine AcT true func129 ?_;intro hbel Q hQ
 have G2:=jn @hbs @hb0s
 refine aa G2 ?_
 refine glp (fun k F Hx=>∃i:Nat,i+k=l.length/\F=[(3,.ptr (some (H.length,0))),(5,.sl (some (H.length+1,0)) ((dirS l m i).length) (aS (dirS l m i).length)),(10,.sl (some (bs,0)) l.length cs),(11,iV (l.length:Int)),(12,iV (i:Int))]/\Hx=H++[.cells true 0 [iV m,iV r],.cells (aI (dirS l m i).length) 9 (r9 (dirS l m i))]) (l.length) ?_ ?_
 ·refine⟨_,_,_,⟨0,by omega,rfl,rfl⟩,Abs.byG hbel [.cells false 9 []] rfl [0,1] (by decide) ?_⟩
  exact al (jn @dirS.eq_1 (jn @bH (jn @bQ (jn @cI @cB))))
 rintro k0 F Hx ⟨i,hm0,rfl,rfl⟩ J0 hJ0
 have G3:=jn @ei (jn @lf G2)
 refine rcs G3 (fun h1 h1d _=>?_) (fun h1 h1d G9=>?_)
 ·have hai:bZ (g65 l i) (g66 l i)=true:=(bB.1 ((bi.1 hS).2 (g6 l i) (bY (by omega)))).2.2
  have hdl:=mG hS m i (by omega)
  have hmk:=gK hS (show i<l.length by omega)
  have q2:=bD (l:=l) (j:=i) (by omega)
  have G4:=jn h1 (jn h1d (jn @bo (jn q2 G3)))
  refine aa G4 ?_
  refine cvr G4 (hlistk_c _ l i hai) ?_
  refine glp (fun k F Hx=>∃j:Nat,j+k=(mkB (g6 l i)).length/\F=[(3,.ptr (some (H.length,0))),(5,.sl (some (H.length+3,0)) ((dirS l m i++dirB (g6 l i) m j).length) (aS (dirS l m i++dirB (g6 l i) m j).length)),(7,.ptr (some (H.length+1,0))),(10,.sl (some (bs,0)) l.length cs),(11,iV (l.length:Int)),(12,iV (i:Int)),(21,.sl (some (H.length+2,0)) ((mkB (g6 l i)).length) none),(22,iV (((mkB (g6 l i)).length:Nat):Int)),(23,iV (j:Int))]/\Hx=H++[.cells true 0 [iV m,iV r],.cells true 0 [iV (g61 l i),iV (g62 l i),iV (g63 l i),iV (g64 l i),iV (g65 l i),iV (g66 l i)],.cells true 1 (ints .i64 (mkB (g6 l i))),.cells (aI (dirS l m i++dirB (g6 l i) m j).length) 9 (r9 (dirS l m i++dirB (g6 l i) m j))]) ((mkB (g6 l i)).length) ?_ ?_
  ·refine⟨_,_,_,⟨0,by omega,rfl,rfl⟩,bS hbel [0,2,3,1] (al (jn @dirB.eq_1 (jn @List.append_nil.{0} (jn @bH (jn @bQ (jn @cI @cB))))))⟩
  rintro k1 F Hx ⟨j,hm1,rfl,rfl⟩ J1 hJ1
  have hbl:=kl (g6 l i) m j
  have hst:dirB (g6 l i) m (j+1)=dirB (g6 l i) m j++[(g61 l i,g62 l i,g63 l i,g64 l i,g65 l i,g66 l i,(aq (gi (mkB (g6 l i)) j) m).1,(aq (gi (mkB (g6 l i)) j) m).2.1,(aq (gi (mkB (g6 l i)) j) m).2.2)]:=rfl
  have G5:=jn @bU (jn @cr G4)
  refine rcs G5 (fun h3 h3d _=>?_) (fun h3 h3d G8=>?_)
  ·have q4:=c9 (k:=.i64) (xs:=mkB (g6 l i)) (j:=j) (by omega)
   have G6:=jn h3 (jn h3d (jn q4 G5))
   refine aa G6 ?_
   refine cd (hbeam_c _ _ m) ?_
   have G7:=jn @ba (jn @cH G6)
   refine aa G7 ?_
   refine hJ1 _ _ ⟨k1-1,by omega,_,_,_,⟨j+1,by omega,rfl,rfl⟩,bS hbel [0,1,2,5] (al (jn @hst (jn @List.append_assoc.{0} (jn @bH (jn @bQ (jn @cI @cB))))))⟩
  obtain rfl:j=(mkB (g6 l i)).length:=by omega
  refine aa G8 ?_
  refine hJ0 _ _ ⟨k0-1,by omega,_,_,_,⟨i+1,by omega,rfl,rfl⟩,bS hbel [0,3] (al (jn @dirS.eq_2 (jn @bH (jn @bQ (jn @cI @cB)))))⟩
 obtain rfl:i=l.length:=by omega
 refine aa G9 ?_
 refine hQ _ _ (aM (.inl rfl) hbel (x1:=.sl (some (H.length+1,0)) ((dirS l m l.length).length) (aS (dirS l m l.length).length)) (l2:=[.cells (aI (dirS l m l.length).length) 9 (r9 (dirS l m l.length))]) (.sl (some (H.length,0)) ((dirS l m l.length).length) (aS (dirS l m l.length).length)) (aU results129) [] rfl [1] (by decide) ⟨rfl,rfl⟩ ?_)
 exact aF @cB
theorem passes_c (H:ac)(x0 y0 x1 y1 f c vx vy vd s0 t0 s1 t1 far:Int)(hp:bxB x0 y0 x1 y1 f c=true):zC 164 [.agg [iV x0,iV y0,iV x1,iV y1,iV f,iV c,iV vx,iV vy,iV vd],.agg [iV s0,iV t0,iV s1,iV t1],iV far] H (.bool (psB (x0,y0,x1,y1,f,c,vx,vy,vd) s0 t0 s1 t1 far)) H:=by
 refine AcT true func164 ?_;intro hbel Q hQ
 refine aC ?_
 refine cv (ej _ _ _ _ _ f c (by assumption)) ?_
 refine aC ?_
 refine glp (fun k F Hx=>∃j:Nat,j+k=4/\((1<=j->cX x0 y0 vx vy vd far s0 t0 s1 t1=true)/\(2<=j->cX x1 y0 vx vy vd far s0 t0 s1 t1=true)/\(3<=j->cX x0 y1 vx vy vd far s0 t0 s1 t1=true)/\(4<=j->cX x1 y1 vx vy vd far s0 t0 s1 t1=true))/\F=[(2,iV far),(3,.ptr (some (H.length,0))),(4,.ptr (some (H.length+1,0))),(11,.sl (some (H.length+2,0)) 4 none),(12,iV 4),(13,iV (j:Int))]/\Hx=H++[.cells true 0 [iV x0,iV y0,iV x1,iV y1,iV f,iV c,iV vx,iV vy,iV vd],.cells true 0 [iV s0,iV t0,iV s1,iV t1],.cells true 2 [iV x0,iV y0,iV x1,iV y0,iV x0,iV y1,iV x1,iV y1]]) (4) ?_ ?_
 ·refine⟨_,_,_,⟨0,by omega,⟨fun h=>by omega,fun h=>by omega,fun h=>by omega,fun h=>by omega⟩,rfl,rfl⟩,bS hbel [0,1,2] ar⟩
 rintro k0 F Hx ⟨j,hm0,hal,rfl,rfl⟩ J0 hJ0
 refine aC ?_
 refine cn (fun h1=>?_) (fun h1=>?_)
 ·have h1d:=bsT h1
  obtain rfl|rfl|rfl|rfl:=(by omega:j=0\/j=1\/j=2\/j=3)
  ·have G10:=jn h1 @h1d
   refine aa G10 ?_
   refine cv (eD _ _ _ _ _ _ _ _ _ _ _) ?_
   refine rcs G10 (fun h2 h2d G11=>?_) (fun h2 h2d G12=>?_)
   ·have hfinP:psB (x0,y0,x1,y1,f,c,vx,vy,vd) s0 t0 s1 t1 far=false:=by simp[psB,h2d]
    exact eR G11 hQ hbel (.bool false) results164 ⟨by rw[hfinP],rfl⟩
   have hc0:=h2d
   refine aa G12 ?_
   refine hJ0 _ _ ⟨k0-1,by omega,_,_,_,⟨0+1,by omega,by refine⟨fun h=>?_,fun h=>?_,fun h=>?_,fun h=>?_⟩<;>omega,rfl,rfl⟩,bS hbel [0,1,2] ar⟩
  ·have G13:=jn h1 @h1d
   refine aa G13 ?_
   refine cv (eD _ _ _ _ _ _ _ _ _ _ _) ?_
   refine rcs G13 (fun h3 h3d G14=>?_) (fun h3 h3d G15=>?_)
   ·have hfinP:psB (x0,y0,x1,y1,f,c,vx,vy,vd) s0 t0 s1 t1 far=false:=by simp[psB,h3d]
    exact eR G14 hQ hbel (.bool false) results164 ⟨by rw[hfinP],rfl⟩
   have hc1:=h3d
   refine aa G15 ?_
   refine hJ0 _ _ ⟨k0-1,by omega,_,_,_,⟨1+1,by omega,by refine⟨fun h=>?_,fun h=>?_,fun h=>?_,fun h=>?_⟩<;>first|omega|exact hal.1 (by omega),rfl,rfl⟩,bS hbel [0,1,2] ar⟩
  ·have G16:=jn h1 @h1d
   refine aa G16 ?_
   refine cv (eD _ _ _ _ _ _ _ _ _ _ _) ?_
   refine rcs G16 (fun h4 h4d G17=>?_) (fun h4 h4d G18=>?_)
   ·have hfinP:psB (x0,y0,x1,y1,f,c,vx,vy,vd) s0 t0 s1 t1 far=false:=by simp[psB,h4d]
    exact eR G17 hQ hbel (.bool false) results164 ⟨by rw[hfinP],rfl⟩
   have hc2:=h4d
   refine aa G18 ?_
   refine hJ0 _ _ ⟨k0-1,by omega,_,_,_,⟨2+1,by omega,by refine⟨fun h=>?_,fun h=>?_,fun h=>?_,fun h=>?_⟩<;>first|omega|exact hal.1 (by omega)|exact hal.2.1 (by omega),rfl,rfl⟩,bS hbel [0,1,2] ar⟩
  have G19:=jn h1 @h1d
  refine aa G19 ?_
  refine cv (eD _ _ _ _ _ _ _ _ _ _ _) ?_
  refine rcs G19 (fun h5 h5d G20=>?_) (fun h5 h5d G21=>?_)
  ·have hfinP:psB (x0,y0,x1,y1,f,c,vx,vy,vd) s0 t0 s1 t1 far=false:=by simp[psB,h5d]
   exact eR G20 hQ hbel (.bool false) results164 ⟨by rw[hfinP],rfl⟩
  have hc3:=h5d
  refine aa G21 ?_
  refine hJ0 _ _ ⟨k0-1,by omega,_,_,_,⟨3+1,by omega,by refine⟨fun h=>?_,fun h=>?_,fun h=>?_,fun h=>?_⟩<;>first|omega|exact hal.1 (by omega)|exact hal.2.1 (by omega)|exact hal.2.2.1 (by omega),rfl,rfl⟩,bS hbel [0,1,2] ar⟩
 have h1d:=bsT h1
 have hfinP:psB (x0,y0,x1,y1,f,c,vx,vy,vd) s0 t0 s1 t1 far=true:=by unfold psB;simp only;rw[hal.1 (by omega),hal.2.1 (by omega),hal.2.2.1 (by omega),hal.2.2.2 (by omega)];rfl
 have G22:=jn h1 @h1d
 exact eR G22 hQ hbel (.bool true) results164 ⟨by rw[hfinP],rfl⟩
theorem kprv1_c (H:ac)(x0 y0 x1 y1 f c vx vy vd s0 t0 s1 t1:Int)(bz:Nat)(far:Int)(bw:Nat)(hz:∃o,H[bz]? = some (.cells o 0 [iV s0,iV t0,iV s1,iV t1]))(hw:∃o,H[bw]? = some (.cells o 0 [iV far]))(hp:bxB x0 y0 x1 y1 f c=true):zC 163 [.agg [iV x0,iV y0,iV x1,iV y1,iV f,iV c,iV vx,iV vy,iV vd],.ptr (some (bz,0)),.ptr (some (bw,0))] H (.bool (!(psB (x0,y0,x1,y1,f,c,vx,vy,vd) s0 t0 s1 t1 far))) H:=by
 obtain⟨oz,hbz⟩:=hz
 have hblz:=getElem?_lt hbz
 have hb0z:=fun l=>ae (l:=l) hbz
 obtain⟨ow,hbw⟩:=hw
 have hblw:=getElem?_lt hbw
 have hb0w:=fun l=>ae (l:=l) hbw
 refine AcT true func163 ?_;intro hbel Q hQ
 have G23:=jn @hbz (jn @hb0z (jn @hbw @hb0w))
 refine aa G23 ?_
 refine cvr G23 (passes_c _ _ _ _ _ f c _ _ _ _ _ _ _ _ (by assumption)) ?_
 exact eP hQ hbel (.bool (!(psB (x0,y0,x1,y1,f,c,vx,vy,vd) s0 t0 s1 t1 far))) results163 ⟨rfl,rfl⟩
theorem psqr_c (H:ac)(x y:Int):zC 162 [.agg [iV x,iV y]] H (.tup [.agg [iV (mkV (sqO x y) (x*64)),iV (mkV (sqO x y) (y*64)),iV (mkV (sqO x y) (x*64+64)),iV (mkV (sqO x y) (y*64+64))],.bool (sqO x y)]) H:=by
 refine AcT true func162 ?_;intro hbel Q hQ
 refine aC ?_
 refine cv (f0 _ x _ (by omega)) ?_
 refine aC ?_
 refine bg (fun h1=>?_) (fun h1=>?_)
 ·have h1d:=bsT h1
  have wx:=bx.1 h1d
  have G24:=jn h1 @h1d
  refine aa G24 ?_
  refine cv (f0 _ y _ (by omega)) ?_
  refine rcs G24 (fun h2 h2d G25=>?_) (fun h2 h2d G26=>?_)
  ·have wy:¬(-16384<=y/\y<=16384):=mt bx.2 (by rw[h2d];decide)
   exact eR G25 hQ hbel (.tup [.agg [iV 0,iV 0,iV 0,iV 0],.bool false]) results162 ⟨by simp[mkV,sqO,h1d,h2d],rfl⟩
  have wy:=bx.1 h2d
  refine aa G26 ?_
  refine cvr G26 (jy _ x y (by omega) (by omega)) ?_
  exact eP hQ hbel (.tup [.agg [iV (x*64),iV (y*64),iV (x*64+64),iV (y*64+64)],.bool true]) results162 ⟨by simp[mkV,sqO,h1d,h2d],rfl⟩
 have h1d:=bsT h1
 have wx:¬(-16384<=x/\x<=16384):=mt bx.2 (by rw[h1d];decide)
 have G27:=jn h1 @h1d
 exact eR G27 hQ hbel (.tup [.agg [iV 0,iV 0,iV 0,iV 0],.bool false]) results162 ⟨by simp[mkV,sqO,h1d],rfl⟩
theorem psqr_t (H:ac)(x y:Int)(h:sqO x y=true):zC 162 [.agg [iV x,iV y]] H (.tup [.agg [iV (x*64),iV (y*64),iV (x*64+64),iV (y*64+64)],.bool true]) H:=by
 have q:=psqr_c H x y
 simp only[h,mkV,if_true] at q;exact q
theorem psqr_f (H:ac)(x y:Int)(h:sqO x y=false):zC 162 [.agg [iV x,iV y]] H (.tup [.agg [iV 0,iV 0,iV 0,iV 0],.bool false]) H:=by
 have q:=psqr_c H x y
 simp only[h,mkV,if_false,Bool.false_eq_true] at q;exact q
theorem sbf_trL {px py vx vy vd far cx cy:Int}(h:cX px py vx vy vd far (cx*64) (cy*64) (cx*64+64) (cy*64+64)=true)(hp:ptB px py=true)(hc:(-16384<=cx/\cx<=16383) /\ -16384<=cy/\cy<=16383)(hf:far<=2048):(cx,cy)∈trL px py vx vy vd 0 far:=by
 unfold cX at h
 simp only[Bool.and_eq_true,decide_eq_true_eq] at h
 obtain⟨h0,h1,hg,hb⟩:=h
 have hv:=d4 hg
 have hvB:=(dj.1 hg).2.1
 have hq:=iE.1 hp
 have k:=rM hv.1 hv.2 hq.1 hq.2 (cx:=cx) (cy:=cy) (by omega) (by omega) h0
  (mnx:=if far*vx<0*vx then far*vx else 0*vx) (mxx:=if 0*vx<far*vx then far*vx else 0*vx) (mny:=if far*vy<0*vy then far*vy else 0*vy) (mxy:=if 0*vy<far*vy then far*vy else 0*vy)
  (by split<;>omega) (by split<;>omega) (by split<;>omega) (by split<;>omega) (by split<;>omega) (by split<;>omega) (by split<;>omega) (by split<;>omega) hb
 have e:trE px py vx vy vd 0 far=0:=by unfold trE;rw[if_pos (by rw[hp,hvB];rfl),if_pos (fo.2 ⟨by omega,h0,hf⟩)]
 unfold trL mkL;rw[if_pos e]
 refine(mE (by omega) (by omega) hvB ⟨by omega,h0,hf⟩).2 ?_
 unfold br dc dr
 simp only[Bool.and_eq_true,decide_eq_true_eq]
 exact⟨⟨cS.2 (by omega),cS.2 (by omega),cS.2 (by omega)⟩,by omega,h0,h1,dj.2 ⟨fX.2 (by omega),hvB,cS.2 (by omega)⟩,k.1⟩
theorem qW {px py vx vy vd far x0 y0 x1 y1:Int}(h:cX px py vx vy vd far x0 y0 x1 y1=true):(0<=far/\far<=65536)/\thG px py vx vy vd x0 y0 x1 y1=true/\BefP px py vx vy vd far x0 y0 x1 y1:=by
 unfold cX at h
 simp only[Bool.and_eq_true,decide_eq_true_eq] at h
 obtain⟨h0,h1,hg,hb⟩:=h
 have hv:=d4 hg
 have n:=i9 hg
 exact⟨⟨h0,h1⟩,hg,(ot hv.1 hv.2 n.1 n.2).1 hb⟩
theorem sbf_pos {px py vx vy vd far x0 y0 x1 y1:Int}(h:cX px py vx vy vd far x0 y0 x1 y1=true):0<far:=by
 obtain⟨hf,hg,n,m,hn,hm,hlt,-⟩:=qW h
 have hv:=(d4 hg).1
 rcases Int.lt_or_le 0 far with k|k
 ·exact k
 have e:far=0:=by omega
 rw[e,Int.zero_mul] at hlt
 have:=Int.mul_nonneg hn (show 0<=vd by omega)
 omega
def fq (l:List T6) (g:Int) (e c:Int×Int):Bool:=prvB l e.1 (aB e.2 g) c
theorem dirA_0 {l:List T6}(hS:bk l=true)(hl:0<l.length)(m:Int):0<(aD l m).length:=by have:=km hS m;omega
theorem prv_fst {l:List T6}{m far:Int}{c:Int×Int}(hS:bk l=true)(hl:0<l.length)(hf:far<=2048)(hc:(-16384<=c.1/\c.1<=16383) /\ -16384<=c.2/\c.2<=16383)(h:prvB l m far c=true):c∈aZ l m far/\0<far:=by
 have he:=g9_mem (dirA_0 hS hl m)
 have k:=List.all_eq_true.1 h _ he
 have ok:=ov hS he
 unfold pairB at ok
 rw[Bool.and_eq_true] at ok
 have hb:=bB.1 ok.1
 unfold psC psB at k
 rw[Bool.and_eq_true] at k
 have hp:ptB (g9 (aD l m) 0).1 (g9 (aD l m) 0).2.1=true:=iE.2 (by omega)
 exact⟨sbf_trL k.1 hp hc hf,sbf_pos k.1⟩
theorem prS_mem {W Hh:Int}{l:List T6}{sc:List (Int×Int)}{g:Int}{c:Int×Int}:∀{i:Nat},c∈prS W Hh l sc g i↔∃j:Nat,j<i/\c∈ex W Hh l (g1 sc j) (g2 sc j) g
 |0=>⟨fun h=>(by cases h),fun ⟨j,hj,_⟩=>(by omega)⟩
 | i+1=>by
  unfold prS
  rw[List.mem_append,prS_mem]
  constructor
  ·rintro(⟨j,hj,h⟩|h)
   ·exact⟨j,by omega,h⟩
   exact⟨i,by omega,h⟩
  rintro⟨j,hj,h⟩
  rcases Nat.lt_or_ge j i with k|k
  ·exact .inl ⟨j,k,h⟩
  rw[show j=i by omega] at h;exact .inr h
theorem inB_bd {W Hh:Int}{xs:List Int}{x y:Int}(hV:bK W Hh xs=true)(h:inB W Hh x y=true):(0<=x/\x<=63)/\0<=y/\y<=63:=by
 have q:=bp.1 hV
 have:=c7.1 h
 have:=q.w1;have:=q.h1
 omega
theorem mem_all {W Hh:Int}{xs:List Int}{l:List T6}{sc:List (Int×Int)}{g:Int}(hR:cl W Hh xs l sc g=true){c:Int×Int}:c∈aY W Hh l sc g↔dn l=true/\inB W Hh c.1 c.2=true/\∃e∈sc,fq l g e c=true:=by
 obtain⟨hV,hl0,hS,hsB,hg⟩:=cT.1 hR
 have hs:=cw.1 hsB
 unfold aY
 rw[fO,(ga _).mem_iff]
 unfold gu
 by_cases ht:dn l=true
 ·rw[if_pos ht,prS_mem]
  constructor
  ·rintro⟨j,hj,h⟩
   unfold ex at h
   split at h
   ·cases h
   have k:=(List.mem_filter.1 h).2
   unfold ck at k
   rw[Bool.and_eq_true,Bool.and_eq_true,bm,bm] at k
   refine⟨ht,c7.2 (by omega),sc[j],List.getElem_mem hj,?_⟩
   unfold fq
   rw[<-bC hj];exact k.2.2
  rintro⟨-,hin,e,he,hp⟩
  obtain⟨j,hj,rfl⟩:=List.mem_iff_getElem.1 he
  have hbe:=fm.1 (hs.2 _ he)
  rw[<-bC hj] at hbe hp
  have hb:=inB_bd hV hin
  have hff:aB (g2 sc j) g<=2048:=by unfold aB;split<;>omega
  have q:=prv_fst hS hl0 hff (by omega) hp
  refine⟨j,hj,?_⟩
  unfold ex
  rw[if_neg (by omega)]
  refine List.mem_filter.2 ⟨q.1,?_⟩
  unfold ck
  rw[Bool.and_eq_true,Bool.and_eq_true,bm,bm]
  have:=c7.1 hin
  exact⟨by omega,by omega,hp⟩
 rw[if_neg ht]
 exact⟨fun h=>(by cases h),fun h=>absurd h.1 ht⟩
theorem rv {W Hh:Int}{l:List T6}{sc:List (Int×Int)}{g:Int}:(aY W Hh l sc g).Pairwise b9:=jD (gV _)
theorem mem_pv {W Hh:Int}{xs:List Int}{l:List T6}{sc:List (Int×Int)}{g:Int}{c:Int×Int}:c∈pvL W Hh xs l sc g↔cl W Hh xs l sc g=true/\dn l=true/\inB W Hh c.1 c.2=true/\∃e∈sc,fq l g e c=true:=by
 unfold pvL
 by_cases h:cl W Hh xs l sc g=true
 ·rw[if_pos h,mem_all h];exact⟨fun k=>⟨h,k⟩,fun k=>k.2⟩
 rw[if_neg h];exact⟨fun k=>(by cases k),fun k=>absurd k.1 h⟩
def crX (b:T6):Nat->Int
 |0=>b.1
 |1=>b.2.2.1
 |2=>b.1
 |_=>b.2.2.1
def crY (b:T6):Nat->Int
 |0=>b.2.1
 |1=>b.2.1
 |2=>b.2.2.2.1
 |_=>b.2.2.2.1
def crP (b:T6) (v:Int×Int×Int) (far c1 c2:Int) (n:Nat):Bool:=cX (crX b n) (crY b n) v.1 v.2.1 v.2.2 far (c1*64) (c2*64) (c1*64+64) (c2*64+64)
theorem psC_crn {b:T6}{m h far c1 c2:Int}:psC (dirE b m h) far (c1,c2)=true↔∀n:Nat,n<4->crP b (aq h m) far c1 c2 n=true:=by
 have e:psC (dirE b m h) far (c1,c2)=(crP b (aq h m) far c1 c2 0&&(crP b (aq h m) far c1 c2 1&&(crP b (aq h m) far c1 c2 2&&crP b (aq h m) far c1 c2 3))):=rfl
 rw[e]
 simp only[Bool.and_eq_true]
 constructor
 ·rintro⟨h0,h1,h2,h3⟩ n hn
  match n,hn with
  |0,_=>exact h0
  |1,_=>exact h1
  |2,_=>exact h2
  |3,_=>exact h3
 intro k
 exact⟨k 0 (by decide),k 1 (by decide),k 2 (by decide),k 3 (by decide)⟩
theorem gi_mkB {b:T6}{j:Nat}(h:j<(mkB b).length):gi (mkB b) j=(b.2.2.2.2.1+(j:Int))%256:=by
 have h2:j<b.2.2.2.2.2.toNat:=by have e:(mkB b).length=b.2.2.2.2.2.toNat:=dm _ _;omega
 show gi (aw b.2.2.2.2.1 b.2.2.2.2.2.toNat) j=_
 rw[gi_eq (by rw[dm];exact h2)]
 unfold aw
 rw[List.getElem_map,List.getElem_range]
theorem bv_mkB {b:T6}{j:Nat}{m:Int}(h:j<(mkB b).length):aq (gi (mkB b) j) m=aq (b.2.2.2.2.1+(j:Int)) m:=beam_mod (by rw[gi_mkB h];omega)
theorem hI {l:List T6}{m far c1 c2:Int}{i j n:Nat}(hi:i<l.length)(hj:j<(mkB (g6 l i)).length)(hn:n<4)(h:crP (g6 l i) (aq ((g6 l i).2.2.2.2.1+(j:Int)) m) far c1 c2 n=false):prvB l m far (c1,c2)=false:=by
 rw[<-Bool.not_eq_true]
 intro hp
 have he:dirE (g6 l i) m (gi (mkB (g6 l i)) j)∈aD l m:=(mH (Nat.le_refl _)).2 ⟨i,j,hi,hj,rfl⟩
 have k:=psC_crn.1 (List.all_eq_true.1 hp _ he) n hn
 rw[bv_mkB hj,h] at k
 cases k
theorem prv_yes {l:List T6}{m far c1 c2:Int}(h:∀e∈dirS l m l.length,psC e far (c1,c2)=true):prvB l m far (c1,c2)=true:=List.all_eq_true.2 h
theorem nD {b:T6}{m far c1 c2:Int}{j:Nat}(hj:j<(mkB b).length)(h:∀e∈dirB b m j,psC e far (c1,c2)=true)(k:∀n:Nat,n<4->crP b (aq (b.2.2.2.2.1+(j:Int)) m) far c1 c2 n=true):∀e∈dirB b m (j+1),psC e far (c1,c2)=true:=fun e he=>by
 unfold dirB at he
 rcases List.mem_append.1 he with he|he
 ·exact h e he
 rw[List.mem_singleton.1 he]
 exact psC_crn.2 (by rw[bv_mkB hj];exact k)
theorem nE {l:List T6}{m far c1 c2:Int}{i:Nat}(h:∀e∈dirS l m i,psC e far (c1,c2)=true)(k:∀e∈dirB (g6 l i) m (mkB (g6 l i)).length,psC e far (c1,c2)=true):∀e∈dirS l m (i+1),psC e far (c1,c2)=true:=fun e he=>by
 unfold dirS at he
 rcases List.mem_append.1 he with he|he
 ·exact h e he
 exact k e he
def cO (l:List T6) (sc:List (Int×Int)) (g x y:Int):Bool:=sc.any fun e=>fq l g e (x,y)
def fndB (l:List T6) (sc:List (Int×Int)) (g x y:Int) (i:Nat):Bool:=(sc.take i).any fun e=>fq l g e (x,y)
theorem fnd_0 {l:List T6}{sc:List (Int×Int)}{g x y:Int}:fndB l sc g x y 0=false:=rfl
theorem fnd_s {l:List T6}{sc:List (Int×Int)}{g x y:Int}{i:Nat}(hi:i<sc.length)(h:fndB l sc g x y i=false):fndB l sc g x y (i+1)=fq l g (g1 sc i,g2 sc i) (x,y):=by
 unfold fndB at *
 rw[List.take_succ_eq_append_getElem hi,List.any_append,h,bC hi];simp
theorem fnd_t {l:List T6}{sc:List (Int×Int)}{g x y:Int}{i:Nat}(h:fndB l sc g x y i=true):cO l sc g x y=true:=by
 unfold fndB at h
 obtain⟨e,he,hp⟩:=List.any_eq_true.1 h
 exact List.any_eq_true.2 ⟨e,List.mem_of_mem_take he,hp⟩
theorem fnd_e {l:List T6}{sc:List (Int×Int)}{g x y:Int}:fndB l sc g x y sc.length=cO l sc g x y:=by unfold fndB cO;rw[List.take_length]
theorem rwR_t {p:Int->Int->Bool}{m n:Nat}(h:p (m:Int) (n:Int)=true):rowR p 0 (0+(n:Int)) (m+1)=rowR p 0 (0+(n:Int)) m++[((m:Int),(n:Int))]:=by
 rw[rowR];simp only[Int.zero_add,h,if_true]
theorem rwR_f {p:Int->Int->Bool}{m n:Nat}(h:p (m:Int) (n:Int)=false):rowR p 0 (0+(n:Int)) (m+1)=rowR p 0 (0+(n:Int)) m:=by
 rw[rowR];simp only[Int.zero_add,h,Bool.false_eq_true,if_false,List.append_nil]
theorem pv_grid {W Hh:Int}{xs:List Int}{l:List T6}{sc:List (Int×Int)}{g:Int}(hR:cl W Hh xs l sc g=true)(ht:dn l=true):be (cO l sc g) 0 W.toNat 0 Hh.toNat=pvL W Hh xs l sc g:=by
 have hv:=bp.1 (cT.1 hR).1
 have hw:=hv.w0
 have hh:=hv.h0
 unfold pvL
 rw[if_pos hR]
 refine js (gn _) rv fun c=>?_
 rw[fT,mem_all hR,c7]
 constructor
 ·rintro⟨h1,h2,h3⟩
  exact⟨ht,by omega,List.any_eq_true.1 h3⟩
 rintro⟨-,h1,h2⟩
 exact⟨by omega,by omega,List.any_eq_true.2 h2⟩
theorem allL_le {W Hh:Int}{l:List T6}{sc:List (Int×Int)}{g:Int}(h:bP sc=true):(aY W Hh l sc g).length<=231200:=by
 have:=qV (W:=W) (Hh:=Hh) (l:=l) (sc:=sc) (g:=g)
 have:=(cw.1 h).1
 omega
theorem susL_le {l:List T6}{m r g:Int}(hS:bk l=true):(bJ l m r g).length<=231200:=by
 have h1:=jV (aD l m) r g (aD l m).length
 have h3:(ey l m r g).length<=231200:=by
  unfold ey;split
  ·simp
  rename_i h
  have ht:dn l=true:=by
   rw[Bool.or_eq_true,not_or] at h
   simpa using h.2
  have:=qS hS ht m
  omega
 unfold bJ
 have:=lQ (dJ (ey l m r g));rw[fP] at this;omega
theorem pvL_le {W Hh:Int}{xs:List Int}{l:List T6}{sc:List (Int×Int)}{g:Int}:(pvL W Hh xs l sc g).length<=1000000:=by
 unfold pvL;split
 ·rename_i h;have:=allL_le (W:=W) (Hh:=Hh) (l:=l) (g:=g) (cT.1 h).2.2.2.1;omega
 simp
theorem ssL_le {W Hh:Int}{xs:List Int}{l:List T6}{m r g:Int}:(ssL W Hh xs l m r g).length<=1000000:=by
 unfold ssL;split
 ·rename_i h;have:=susL_le (m:=m) (r:=r) (g:=g) (cT.1 h).2.2.1;omega
 simp
theorem all_put {W Hh:Int}{l:List T6}{sc:List (Int×Int)}{g:Int}:aY W Hh l sc g=(gu W Hh l sc g).foldl (fun o c=>c6 c o) []:=cpt_put (gV _) fun _=>(ga _).mem_iff
theorem sus_put {l:List T6}{m r g:Int}:bJ l m r g=(ey l m r g).foldl (fun o c=>c6 c o) []:=cpt_put (gV _) fun _=>(ga _).mem_iff
theorem putK_at {c:Int×Int}:∀(l:List (Int×Int)) (k:Nat),(∀j:Nat,(h:j<l.length)->j<k->b9 l[j] c)->k<=l.length->(∀h:k<l.length,¬b9 l[k] c)->c6 c l=l.take k++(match l.drop k with|[]=>[c]|a::m=>if a=c then a::m else c::a::m)
 | [],k,_,hk,_=>by
  obtain rfl:k=0:=by simpa using hk
  rfl
 | a::l,0,_,_,h=>by
  have h0:=h (by simp)
  show c6 c (a::l)=_
  unfold c6
  rw[if_neg (show ¬(a.2<c.2\/(a.2=c.2/\a.1<c.1)) from h0)]
  rfl
 | a::l,k+1,hb,hk,h=>by
  have h0:b9 a c:=hb 0 (by simp) (by omega)
  show c6 c (a::l)=_
  unfold c6
  rw[if_pos (show a.2<c.2\/(a.2=c.2/\a.1<c.1) from h0),putK_at l k (fun j hj hjk=>hb (j+1) (by simp;omega) (by omega)) (by simpa using hk) (fun hh=>h (by simp;omega))]
  rfl
theorem qX {c:Int×Int}{l:List (Int×Int)}{k:Nat}(hk:k<=l.length)(hb:∀j:Nat,(h:j<l.length)->j<k->b9 l[j] c)(hn:∀h:k<l.length,¬b9 l[k] c/\l[k]≠c):c6 c l=l.take k++c::l.drop k:=by
 rw[putK_at l k hb hk (fun h=>(hn h).1)]
 congr 1
 split
 ·rename_i h;rw[h]
 rename_i a m h
 have hl:k<l.length:=by
  rcases Nat.lt_or_ge k l.length with q|q
  ·exact q
  rw[List.drop_eq_nil_of_le q] at h;cases h
 rw[List.drop_eq_getElem_cons hl] at h
 injection h with h1 h2
 rw[if_neg (by rw[<-h1];exact(hn hl).2),<-h1,<-h2,<-List.drop_eq_getElem_cons hl]
theorem qY {c:Int×Int}:∀{l:List (Int×Int)},(c6 c l).length<=l.length+1
 |[]=>by simp[c6]
 | a::l=>by
  have:=qY (c:=c) (l:=l)
  unfold c6
  split
  ·simp only[List.length_cons];omega
  split<;>(simp only[List.length_cons];omega)
theorem qZ {c:Int×Int}{l:List (Int×Int)}:0<(c6 c l).length:=List.length_pos_of_mem (jd.2 (.inl rfl))
def foP (o:List (Int×Int)):List (Int×Int):=o.foldl (fun o c=>c6 c o) []
theorem foP_s {o:List (Int×Int)}{c:Int×Int}:foP (o++[c])=c6 c (foP o):=by unfold foP;rw[List.foldl_append];rfl
theorem foP_len (o:List (Int×Int)):(foP o).length<=o.length:=by
 have g:∀(o l:List (Int×Int)),(o.foldl (fun o c=>c6 c o) l).length<=l.length+o.length:=by
  intro o
  induction o with
  |nil=>intro l;simp
  | cons c o ih =>
   intro l
   have:=ih (c6 c l)
   have:=qY (c:=c) (l:=l)
   simp only[List.foldl_cons,List.length_cons];omega
 have:=g o []
 simpa [foP] using this
def spJ (b:T6) (m r g:Int) (j:Nat):List (Int×Int):=bv b.1 b.2.1 b.2.2.1 b.2.2.2.1 (aq (b.2.2.2.2.1+(j:Int)) m).1 (aq (b.2.2.2.2.1+(j:Int)) m).2.1 (aq (b.2.2.2.2.1+(j:Int)) m).2.2 (if 0<r-g then r-g else 0) (r+g)
def rsJ (b:T6) (m r g:Int):Nat->List (Int×Int)
 |0=>[]
 |j+1=>rsJ b m r g j++spJ b m r g j
theorem spJ_len (b:T6)(m r g:Int)(j:Nat):(spJ b m r g j).length<=7225:=jb _ _ _ _ _ _ _ _ _
def rsI (l:List T6) (m r g:Int):Nat->List (Int×Int)
 |0=>[]
 |i+1=>rsI l m r g i++rsJ (g6 l i) m r g (mkB (g6 l i)).length
def swT (r g:Int) (e:T9):List (Int×Int):=bv e.1 e.2.1 e.2.2.1 e.2.2.2.1 e.2.2.2.2.2.2.1 e.2.2.2.2.2.2.2.1 e.2.2.2.2.2.2.2.2 (if 0<r-g then r-g else 0) (r+g)
theorem rb {l:List T9}{r g:Int}:∀{i:Nat},i<=l.length->swS l r g i=(l.take i).flatMap (swT r g)
 |0,_=>by simp[swS]
 | i+1,hi=>by
  have h:i<l.length:=by omega
  rw[List.take_succ_eq_append_getElem h,List.flatMap_append,<-rb (by omega)]
  have e:=g9_eq h
  simp only[List.flatMap_cons,List.flatMap_nil,List.append_nil]
  rw[<-e];rfl
theorem pF {b:T6}{m r g:Int}:∀{j:Nat},j<=(mkB b).length->(dirB b m j).flatMap (swT r g)=rsJ b m r g j
 |0,_=>rfl
 | j+1,hj=>by
  unfold dirB rsJ
  rw[List.flatMap_append,pF (by omega)]
  simp only[List.flatMap_cons,List.flatMap_nil,List.append_nil]
  show _++swT r g (dirE b m (gi (mkB b) j))=_
  unfold swT dirE spJ
  simp only[bv_mkB (m:=m) (show j<(mkB b).length by omega)]
theorem pG {l:List T6}{m r g:Int}:∀{i:Nat},i<=l.length->(dirS l m i).flatMap (swT r g)=rsI l m r g i
 |0,_=>rfl
 | i+1,hi=>by
  unfold dirS rsI
  rw[List.flatMap_append,pG (by omega),pF (Nat.le_refl _)]
theorem rsI_all {l:List T6}{m r g:Int}:rsI l m r g l.length=swS (aD l m) r g (aD l m).length:=by
 rw[rb (Nat.le_refl _),List.take_length]
 unfold aD
 rw[pG (Nat.le_refl _)]
theorem oB (b:T6)(m r g:Int):∀j:Nat,(rsJ b m r g j).length<=7225*j
 |0=>by simp[rsJ]
 | j+1=>by
  have:=oB b m r g j
  have:=spJ_len b m r g j
  simp only[rsJ,List.length_append];omega
theorem rsI_len {l:List T6}(hS:bk l=true)(m r g:Int):∀i:Nat,i<=l.length->(rsI l m r g i).length<=7225*(256*i)
 |0,_=>by simp[rsI]
 | i+1,hi=>by
  have:=rsI_len hS m r g i (by omega)
  have:=oB (g6 l i) m r g (mkB (g6 l i)).length
  have:=gK hS (show i<l.length by omega)
  simp only[rsI,List.length_append];omega
theorem sus_fo {l:List T6}{m r g:Int}(h1:¬r = -1)(h2:dn l=true):foP (rsI l m r g l.length)=bJ l m r g:=by
 have e:ey l m r g=swS (aD l m) r g (aD l m).length:=by unfold ey;rw[decide_eq_false h1,h2];rfl
 rw[rsI_all,<-e,sus_put];rfl
def befB (a1 a2 b1 b2:Int):Bool:=decide (a2<b2)||(decide (a2=b2)&&decide (a1<b1))
theorem mM {a1 a2 b1 b2:Int}:befB a1 a2 b1 b2=true↔b9 (a1,a2) (b1,b2):=by
 unfold befB b9;simp only[Bool.or_eq_true,Bool.and_eq_true,decide_eq_true_eq]
theorem befB_f {a1 a2 b1 b2:Int}(h:befB a1 a2 b1 b2=false):¬b9 (a1,a2) (b1,b2):=fun k=>by rw[mM.2 k] at h;cases h
theorem put_in {l:List (Int×Int)}{c:Int×Int}{k:Nat}(hb:∀j:Nat,(h:j<l.length)->j<k->b9 l[j] c)(hs:l.Pairwise b9)(hn:∀h:k<l.length,¬b9 l[k] c/\l[k]≠c):c∉l:=fun hm=>by
 obtain⟨j,hj,e⟩:=List.mem_iff_getElem.1 hm
 rcases Nat.lt_trichotomy j k with q|q|q
 ·have:=hb j hj q;rw[e] at this;exact qO this
 ·subst q;exact(hn hj).2 e
 have:=List.pairwise_iff_getElem.1 hs k j (by omega) hj q
 rw[e] at this
 exact(hn (by omega)).1 this
theorem jz {l:List (Int×Int)}{k:Nat}(h:k<=l.length):List.take ((l.length-k)*2) (List.drop (k*2) (prs l))=prs (l.drop k):=by
 have g:∀(l:List (Int×Int)) (k:Nat),List.drop (k*2) (prs l)=prs (l.drop k):=by
  intro l
  induction l with
  |nil=>intro k;simp[eY]
  | cons a l ih =>
   intro k
   cases k with
   |zero=>simp
   |succ k=>rw[cJ,show (k+1)*2=k*2+1+1 by omega,List.drop_succ_cons,List.drop_succ_cons,List.drop_succ_cons,ih]
 rw[g,<-List.length_drop,eI,List.take_length]
theorem nF (o:List (Int×Int)):(foP o).Pairwise b9:=by
 have g:∀(o l:List (Int×Int)),l.Pairwise b9->(o.foldl (fun o c=>c6 c o) l).Pairwise b9:=by
  intro o
  induction o with
  |nil=>intro l h;exact h
  |cons c o ih=>intro l h;exact ih _ (gU h)
 exact g o [] .nil
theorem putK_same {c:Int×Int}{l:List (Int×Int)}(hs:l.Pairwise b9)(h:c∈l):c6 c l=l:=js (gU hs) hs fun x=>by
 rw[jd]
 exact⟨fun k=>k.elim (fun e=>by rw[e];exact h) id,.inr⟩
def sqBf (x y:Int) (v:Int×Int×Int) (far:Int) (c:Int×Int):Bool:=cX x y v.1 v.2.1 v.2.2 far (c.1*64) (c.2*64) (c.1*64+64) (c.2*64+64)
def sqMe (x y:Int) (v:Int×Int×Int) (lo hi:Int) (c:Int×Int):Bool:=dr x y v.1 v.2.1 v.2.2 lo hi (c.1*64) (c.2*64) (c.1*64+64) (c.2*64+64)
def cF (r g:Int):Int:=if 0<r-g then r-g else 0
theorem iH {px py vx vy vd lo hi x0 y0 x1 y1:Int}:dr px py vx vy vd lo hi x0 y0 x1 y1=true↔(0<=lo/\lo<=hi/\hi<=65536)/\thG px py vx vy vd x0 y0 x1 y1=true/\∃n m:Int,0<=n/\0<m/\lo*m<=n*vd/\n*vd<=hi*m/\ec px py vx vy x0 y0 x1 y1 n m:=by
 unfold dr
 simp only[Bool.and_eq_true,decide_eq_true_eq]
 constructor
 ·rintro⟨h0,h1,h2,hg,hm⟩
  have hv:=d4 hg
  have n:=i9 hg
  exact⟨⟨h0,h1,h2⟩,hg,(jS hv.1 hv.2 n.1 n.2 h0 h1).1 hm⟩
 rintro⟨⟨h0,h1,h2⟩,hg,hm⟩
 have hv:=d4 hg
 have n:=i9 hg
 exact⟨h0,h1,h2,hg,(jS hv.1 hv.2 n.1 n.2 h0 h1).2 hm⟩
section
variable {W Hh:Int} {xs:List Int} {px py vx vy vd most:Int}
end
theorem dY (n:Int):mkV true n=n:=rfl
def MeeP (px py vx vy vd hi x0 y0 x1 y1:Int):Prop:=∃n m:Int,0<=n/\0<m/\n*vd<=hi*m/\ec px py vx vy x0 y0 x1 y1 n m
theorem MeeP_sme {px py vx vy vd hi x0 y0 x1 y1:Int}(h1:0<=hi/\hi<=65536)(h2:thG px py vx vy vd x0 y0 x1 y1=true)(h:MeeP px py vx vy vd hi x0 y0 x1 y1):dr px py vx vy vd 0 hi x0 y0 x1 y1=true:=by
 obtain⟨n,m,k1,k2,k4,k5⟩:=h
 have hv:=d4 h2
 exact iH.2 ⟨⟨by omega,h1.1,h1.2⟩,h2,n,m,k1,k2,by rw[Int.zero_mul];exact Int.mul_nonneg k1 (by omega),k4,k5⟩
def hcB (op:Bool) (x y vx vy vd far cx cy:Int):Bool:=bif op then cX x y vx vy vd far (cx*64) (cy*64) ((cx+1)*64) ((cy+1)*64) else dr x y vx vy vd 0 far (cx*64) (cy*64) ((cx+1)*64) ((cy+1)*64)
def h4B (op:Bool) (x0 y0 x1 y1 vx vy vd far cx cy:Int):Bool:=hcB op x0 y0 vx vy vd far cx cy&&(hcB op x1 y0 vx vy vd far cx cy&&(hcB op x0 y1 vx vy vd far cx cy&&hcB op x1 y1 vx vy vd far cx cy))
def cU (W Hh:Int) (xs:List Int) (op:Bool) (x0 y0 x1 y1 vx vy vd far:Int) (c:Int×Int):Bool:=(atI W Hh xs c.1 c.2==2)&&h4B op x0 y0 x1 y1 vx vy vd far c.1 c.2
def de (W Hh:Int) (xs:List Int) (x0 y0 x1 y1 vx vy vd far:Int) (op:Bool):Bool:=!decide (far<0)&&(trL x0 y0 vx vy vd 0 far).any (cU W Hh xs op x0 y0 x1 y1 vx vy vd far)
def frC (W Hh:Int) (xs:List Int) (c:Int×Int):Bool:=atI W Hh xs c.1 c.2==1
def empB (W Hh:Int) (xs:List Int) (x0 y0 x1 y1 vx vy vd lo hi:Int):Bool:=(bv x0 y0 x1 y1 vx vy vd lo hi).all (frC W Hh xs)
def dK (W Hh:Int) (xs:List Int) (x0 y0 x1 y1 h m r g:Int):Bool :=
 bif r == -1 then de W Hh xs x0 y0 x1 y1 (aq h m).1 (aq h m).2.1 (aq h m).2.2 (1024-g) false
 else de W Hh xs x0 y0 x1 y1 (aq h m).1 (aq h m).2.1 (aq h m).2.2 (r-g) true||empB W Hh xs x0 y0 x1 y1 (aq h m).1 (aq h m).2.1 (aq h m).2.2 (cF r g) (r+g)
def dC (x0 y0 x1 y1:Int):Bool:=btw x0 (-1048576) 1048576&&(btw y0 (-1048576) 1048576&&(btw x1 (-1048576) 1048576&&(btw y1 (-1048576) 1048576&&(btw (x1-x0) 0 1024&&btw (y1-y0) 0 1024))))
def fQ (W Hh:Int) (xs:List Int) (x0 y0 x1 y1 h:Int) (s:List (Int×Int)) (g:Int):Bool:=dC x0 y0 x1 y1&&s.any fun e=>dK W Hh xs x0 y0 x1 y1 h e.1 e.2 g
theorem eq {x0 y0 x1 y1:Int}:dC x0 y0 x1 y1=true↔((-1048576<=x0/\x0<=x1/\x1<=1048576) /\ -1048576<=y0/\y0<=y1/\y1<=1048576)/\x1-x0<=1024/\y1-y0<=1024:=by
 unfold dC
 simp only[Bool.and_eq_true,bm]
 omega
theorem hcB_sq {op:Bool}{x y vx vy vd far cx cy:Int}:hcB op x y vx vy vd far cx cy=bif op then sqBf x y (vx,vy,vd) far (cx,cy) else sqMe x y (vx,vy,vd) 0 far (cx,cy):=by
 unfold hcB sqBf sqMe
 rw[show (cx+1)*64=cx*64+64 by omega,show (cy+1)*64=cy*64+64 by omega]
def ldN (p:Nat->Bool):Nat->Nat
 |0=>0
 |n+1=>if ldN p n=n/\p n=true then n+1 else ldN p n
def tlN (p:Nat->Bool):Nat->Nat
 |0=>0
 |n+1=>if p n=true then tlN p n else n+1
theorem ldN_le (p:Nat->Bool):∀n,ldN p n<=n
 |0=>Nat.le_refl _
 |n+1=>by have:=ldN_le p n;unfold ldN;split<;>omega
theorem nG {p:Nat->Bool}{i:Nat}:∀{n:Nat},(∀k,k<i->p k=true)->i<=n->(i=n\/p i=false)->ldN p n=i
 |0,_,h,_=>by unfold ldN;omega
 | n+1,h1,h2,h3=>by
  unfold ldN
  rcases Nat.lt_or_ge i (n+1) with h|h
  ·have hp:p i=false:=h3.resolve_left (by omega)
   have e:=nG (n:=n) h1 (by omega) (.inr hp)
   rw[e,if_neg]
   rintro⟨rfl,q⟩
   rw[hp] at q;cases q
  obtain rfl:i=n+1:=by omega
  have e:=nG (p:=p) (i:=n) (n:=n) (fun k hk=>h1 k (by omega)) (Nat.le_refl _) (.inl rfl)
  rw[e,if_pos ⟨rfl,h1 n (by omega)⟩]
theorem ldN_at {p:Nat->Bool}:∀{n:Nat},ldN p n<n->p (ldN p n)=false
 | n+1,h=>by
  unfold ldN at h ⊢
  split at h
  ·omega
  rename_i hn
  rw[if_neg hn]
  rcases Nat.lt_or_ge (ldN p n) n with q|q
  ·exact ldN_at q
  have e:ldN p n=n:=by have:=ldN_le p n;omega
  rw[e] at hn ⊢
  rw[<-Bool.not_eq_true]
  exact fun k=>hn ⟨rfl,k⟩
theorem tlN_le (p:Nat->Bool):∀n,tlN p n<=n
 |0=>Nat.le_refl _
 |n+1=>by have:=tlN_le p n;unfold tlN;split<;>omega
theorem tlN_lt {p:Nat->Bool}{k:Nat}(hp:p k=false):∀{n:Nat},k<n->k<tlN p n
 | n+1,h=>by
  unfold tlN
  split
  ·rename_i q
   refine tlN_lt hp ?_
   rcases Nat.lt_or_ge k n with h'|h'
   ·exact h'
   obtain rfl:k=n:=by omega
   rw[hp] at q;cases q
  exact h
theorem tlN_eq {p:Nat->Bool}{j:Nat}(hj:0<j/\p (j-1)=false):∀{n:Nat},j<=n->(∀k,j<=k->k<n->p k=true)->tlN p n=j
 |0,h,_=>by omega
 | n+1,h,h1=>by
  unfold tlN
  rcases Nat.lt_or_ge n j with q|q
  ·obtain rfl:j=n+1:=by omega
   rw[if_neg (by rw[show p n=false from hj.2];decide)]
  rw[if_pos (h1 n q (by omega))]
  exact tlN_eq hj q (fun k a b=>h1 k a (by omega))
def tX0 (b:T6):Int:=if b.1<0 then 0 else b.1
def tY0 (b:T6):Int:=if b.2.1<0 then 0 else b.2.1
def tX1 (W:Int) (b:T6):Int:=if 64*W<b.2.2.1 then 64*W else b.2.2.1
def tY1 (Hh:Int) (b:T6):Int:=if 64*Hh<b.2.2.2.1 then 64*Hh else b.2.2.2.1
def tP (W Hh:Int) (xs:List Int) (b:T6) (s:List (Int×Int)) (g:Int) (k:Nat):Bool:=fQ W Hh xs (tX0 b) (tY0 b) (tX1 W b) (tY1 Hh b) (gi (mkB b) k) s g
def tI (W Hh:Int) (xs:List Int) (b:T6) (s:List (Int×Int)) (g:Int):Nat:=ldN (tP W Hh xs b s g) (mkB b).length
def tJ (W Hh:Int) (xs:List Int) (b:T6) (s:List (Int×Int)) (g:Int):Nat:=tlN (tP W Hh xs b s g) (mkB b).length
def tOk (W Hh:Int) (xs:List Int) (b:T6) (s:List (Int×Int)) (g:Int):Bool:=!decide (tX1 W b<tX0 b)&&(!decide (tY1 Hh b<tY0 b)&&decide (tI W Hh xs b s g<(mkB b).length))
def tB (W Hh:Int) (xs:List Int) (b:T6) (s:List (Int×Int)) (g:Int):T6:=(tX0 b,tY0 b,tX1 W b,tY1 Hh b,gi (mkB b) (tI W Hh xs b s g),(((tJ W Hh xs b s g-tI W Hh xs b s g:Nat)):Int))
def InP (b:T6) (x y h:Int):Prop:=(b.1<=x/\x<=b.2.2.1)/\(b.2.1<=y/\y<=b.2.2.2.1)/\lE b.2.2.2.2.1 b.2.2.2.2.2 h
theorem mkB_n {b:T6}:(mkB b).length=b.2.2.2.2.2.toNat:=dm _ _
theorem tB_ok {W Hh:Int}{xs:List Int}{b:T6}{s:List (Int×Int)}{g:Int}(hW:1<=W/\W<=64)(hH:1<=Hh/\Hh<=64)(hb:bl b=true)(h:tOk W Hh xs b s g=true):bl (tB W Hh xs b s g)=true/\tI W Hh xs b s g<tJ W Hh xs b s g/\tJ W Hh xs b s g<=(mkB b).length:=by
 unfold tOk at h
 simp only[Bool.and_eq_true,Bool.not_eq_true',decide_eq_false_iff_not,decide_eq_true_eq] at h
 obtain⟨h1,h2,h3⟩:=h
 have hb6:=bB.1 hb
 have ha:=bh.1 hb6.2.2
 have hf:tP W Hh xs b s g (tI W Hh xs b s g)=false:=ldN_at h3
 have h4:tI W Hh xs b s g<tJ W Hh xs b s g:=tlN_lt hf h3
 have h5:tJ W Hh xs b s g<=(mkB b).length:=tlN_le _ _
 refine⟨?_,h4,h5⟩
 have hgi:=gi_mkB (b:=b) h3
 rw[mkB_n] at h3 h5
 unfold bl tB
 simp only
 refine bB.2 ⟨?_,?_,bh.2 ?_⟩
 ·have q1:(tX0 b=0/\b.1<0)\/(tX0 b=b.1/\0<=b.1):=by unfold tX0;split<;>omega
  have q2:(tX1 W b=64*W/\64*W<b.2.2.1)\/(tX1 W b=b.2.2.1/\b.2.2.1<=64*W):=by unfold tX1;split<;>omega
  omega
 ·have q1:(tY0 b=0/\b.2.1<0)\/(tY0 b=b.2.1/\0<=b.2.1):=by unfold tY0;split<;>omega
  have q2:(tY1 Hh b=64*Hh/\64*Hh<b.2.2.2.1)\/(tY1 Hh b=b.2.2.2.1/\b.2.2.2.1<=64*Hh):=by unfold tY1;split<;>omega
  omega
 rw[hgi];omega
def er (n u:Int):Int:=if n=1 then 0 else n*u
def dL (b:T6):Int:=er (b.2.2.1-b.1+1) 1
def dV (b:T6):Int:=er (b.2.2.2.1-b.2.1+1) 1
def dZ (b:T6):Int:=er b.2.2.2.2.2 8
def cY (b:T6):Int:=if bl b=true then (b.2.2.1-b.1+1)*(b.2.2.2.1-b.2.1+1)*b.2.2.2.2.2 else 0
def cg (b:T6):Bool:=!decide (cY b<2)
def bR (b:T6):T6:=if dV b<=dL b/\dZ b<=dL b then (b.1,b.2.1,b.1+(b.2.2.1-b.1+1)/2-1,b.2.2.2.1,b.2.2.2.2.1,b.2.2.2.2.2)
 else if dZ b<=dV b then (b.1,b.2.1,b.2.2.1,b.2.1+(b.2.2.2.1-b.2.1+1)/2-1,b.2.2.2.2.1,b.2.2.2.2.2)
 else (b.1,b.2.1,b.2.2.1,b.2.2.2.1,b.2.2.2.2.1,b.2.2.2.2.2/2)
def bT (b:T6):T6:=if dV b<=dL b/\dZ b<=dL b then (b.1+(b.2.2.1-b.1+1)/2,b.2.1,b.2.2.1,b.2.2.2.1,b.2.2.2.2.1,b.2.2.2.2.2)
 else if dZ b<=dV b then (b.1,b.2.1+(b.2.2.2.1-b.2.1+1)/2,b.2.2.1,b.2.2.2.1,b.2.2.2.2.1,b.2.2.2.2.2)
 else (b.1,b.2.1,b.2.2.1,b.2.2.2.1,(b.2.2.2.2.1+b.2.2.2.2.2/2)%256,b.2.2.2.2.2-b.2.2.2.2.2/2)
theorem nH {n:Int}(h:1<=n):(er n 1=0/\n=1)\/(er n 1=n/\2<=n):=by unfold er;split<;>omega
theorem splS_8 {n:Int}(h:1<=n):(er n 8=0/\n=1)\/(er n 8=8*n/\2<=n):=by unfold er;split<;>omega
theorem spl_ok {b:T6}(hb:bl b=true)(h:cg b=true):bl (bR b)=true/\bl (bT b)=true/\∀x y h:Int,InP b x y h->InP (bR b) x y h\/InP (bT b) x y h:=by
 have hb6:=bB.1 hb
 have ha:=bh.1 hb6.2.2
 have hA:(dL b=0/\b.2.2.1-b.1+1=1)\/(dL b=b.2.2.1-b.1+1/\2<=b.2.2.1-b.1+1):=nH (by omega)
 have hB:(dV b=0/\b.2.2.2.1-b.2.1+1=1)\/(dV b=b.2.2.2.1-b.2.1+1/\2<=b.2.2.2.1-b.2.1+1):=nH (by omega)
 have hC:(dZ b=0/\b.2.2.2.2.2=1)\/(dZ b=8*b.2.2.2.2.2/\2<=b.2.2.2.2.2):=splS_8 (by omega)
 have hn:¬(b.2.2.1-b.1+1=1/\b.2.2.2.1-b.2.1+1=1/\b.2.2.2.2.2=1):=fun ⟨q1,q2,q3⟩=>by
  unfold cg cY at h
  rw[if_pos hb,q1,q2,q3] at h
  revert h;decide
 unfold bR bT
 split
 ·rename_i hc
  refine⟨?_,?_,fun x y h ⟨k1,k2,k3⟩=>?_⟩
  ·exact bB.2 ⟨by simp only;omega,hb6.2.1,hb6.2.2⟩
  ·exact bB.2 ⟨by simp only;omega,hb6.2.1,hb6.2.2⟩
  rcases Int.lt_or_le x (b.1+(b.2.2.1-b.1+1)/2) with q|q
  ·exact .inl ⟨by simp only;omega,k2,k3⟩
  exact .inr ⟨by simp only;omega,k2,k3⟩
 split
 ·rename_i hc0 hc
  refine⟨?_,?_,fun x y h ⟨k1,k2,k3⟩=>?_⟩
  ·exact bB.2 ⟨hb6.1,by simp only;omega,hb6.2.2⟩
  ·exact bB.2 ⟨hb6.1,by simp only;omega,hb6.2.2⟩
  rcases Int.lt_or_le y (b.2.1+(b.2.2.2.1-b.2.1+1)/2) with q|q
  ·exact .inl ⟨k1,by simp only;omega,k3⟩
  exact .inr ⟨k1,by simp only;omega,k3⟩
 rename_i hc0 hc
 refine⟨?_,?_,fun x y h ⟨k1,k2,k3⟩=>?_⟩
 ·exact bB.2 ⟨hb6.1,hb6.2.1,bh.2 (by simp only;omega)⟩
 ·exact bB.2 ⟨hb6.1,hb6.2.1,bh.2 (by simp only;omega)⟩
 unfold lE at k3
 rcases Int.lt_or_le ((h-b.2.2.2.2.1)%256) (b.2.2.2.2.2/2) with q|q
 ·exact .inl ⟨k1,k2,by unfold lE;simp only;omega⟩
 exact .inr ⟨k1,k2,by unfold lE;simp only;omega⟩
def rfn (W Hh:Int) (xs:List Int) (s:List (Int×Int)) (g:Int):Nat->List T6->Nat->List T6->List T6
 |0,_,_,O=>O
 |_+1,[],_,O=>O
 |n+1,b::Q,k,O=>if tOk W Hh xs b s g=true then (if 0<k/\cg (tB W Hh xs b s g)=true then rfn W Hh xs s g n (Q++[bR (tB W Hh xs b s g),bT (tB W Hh xs b s g)]) (k-1) O else rfn W Hh xs s g n Q k (O++[tB W Hh xs b s g])) else rfn W Hh xs s g n Q k O
def aN (W Hh:Int) (xs:List Int) (l:List T6) (s:List (Int×Int)) (g:Int) (k:Nat):List T6:=rfn W Hh xs s g (l.length+2*k) l k []
theorem eV {W Hh:Int}{xs:List Int}{s:List (Int×Int)}{g:Int}(hW:1<=W/\W<=64)(hH:1<=Hh/\Hh<=64):∀(n:Nat) (Q:List T6) (k:Nat) (O:List T6),n=Q.length+2*k->(∀b∈Q,bl b=true)->(∀b∈O,bl b=true)->(∀b∈rfn W Hh xs s g n Q k O,bl b=true)/\(rfn W Hh xs s g n Q k O).length<=Q.length+k+O.length
 |0,Q,k,O,hn,hQ,hO=>⟨hO,by unfold rfn;omega⟩
 |n+1,[],k,O,hn,hQ,hO=>⟨hO,by unfold rfn;omega⟩
 | n + 1,b::Q,k,O,hn,hQ,hO=>by
  have hb:=hQ b (List.mem_cons_self ..)
  have hQ':∀b∈Q,bl b=true:=fun c hc=>hQ c (List.mem_cons_of_mem _ hc)
  rw[List.length_cons] at hn ⊢
  unfold rfn
  split
  ·rename_i ht
   have hb':=(tB_ok hW hH hb ht).1
   split
   ·rename_i h2
    have hs:=spl_ok hb' h2.2
    have ih:=eV hW hH (xs:=xs) (s:=s) (g:=g) n (Q++[bR (tB W Hh xs b s g),bT (tB W Hh xs b s g)]) (k-1) O (by rw[List.length_append];simp only[List.length_cons,List.length_nil];omega) (fun c hc=>by
     rcases List.mem_append.1 hc with hc|hc
     ·exact hQ' c hc
     rcases List.mem_cons.1 hc with hc|hc
     ·rw[hc];exact hs.1
     rw[List.mem_singleton.1 hc];exact hs.2.1) hO
    refine⟨ih.1,?_⟩
    have:=ih.2
    rw[List.length_append] at this
    simp only[List.length_cons,List.length_nil] at this
    omega
   have hO':∀c∈O++[tB W Hh xs b s g],bl c=true:=fun c hc=>by
    rcases List.mem_append.1 hc with hc|hc
    ·exact hO c hc
    rw[List.mem_singleton.1 hc];exact hb'
   rcases Nat.eq_zero_or_pos n with hn0|hn0
   ·subst hn0
    refine⟨hO',?_⟩
    unfold rfn
    rw[List.length_append];simp only[List.length_cons,List.length_nil];omega
   have ih:=eV hW hH (xs:=xs) (s:=s) (g:=g) n Q k (O++[tB W Hh xs b s g]) (by omega) hQ' hO'
   refine⟨ih.1,?_⟩
   have:=ih.2
   rw[List.length_append] at this
   simp only[List.length_cons,List.length_nil] at this
   omega
  have ih:=eV hW hH (xs:=xs) (s:=s) (g:=g) n Q k O (by omega) hQ' hO
  exact⟨ih.1,by have:=ih.2;omega⟩
def cqX (x0 x1:Int):Nat->Int
 |0=>x0
 |1=>x1
 |2=>x0
 |_=>x1
def cqY (y0 y1:Int):Nat->Int
 |0=>y0
 |1=>y0
 |2=>y1
 |_=>y1
def h4K (op:Bool) (x0 y0 x1 y1 vx vy vd far cx cy:Int):Nat->Bool
 |0=>true
 |n+1=>h4K op x0 y0 x1 y1 vx vy vd far cx cy n&&hcB op (cqX x0 x1 n) (cqY y0 y1 n) vx vy vd far cx cy
theorem h4K_4 {op:Bool}{x0 y0 x1 y1 vx vy vd far cx cy:Int}:h4K op x0 y0 x1 y1 vx vy vd far cx cy 4=h4B op x0 y0 x1 y1 vx vy vd far cx cy:=by
 simp only[h4K,h4B,cqX,cqY,Bool.true_and,Bool.and_assoc]
theorem hcB_t {op:Bool}(h:op=true){x y vx vy vd far cx cy:Int}:hcB op x y vx vy vd far cx cy=cX x y vx vy vd far (cx*64) (cy*64) ((cx+1)*64) ((cy+1)*64):=by unfold hcB;rw[h];rfl
theorem hcB_f {op:Bool}(h:op=false){x y vx vy vd far cx cy:Int}:hcB op x y vx vy vd far cx cy=dr x y vx vy vd 0 far (cx*64) (cy*64) ((cx+1)*64) ((cy+1)*64):=by unfold hcB;rw[h];rfl
def ad4 (x0 y0 x1 y1:Int):Nat->Int
 |0=>x0
 |1=>y0
 |2=>x1
 |_=>y1
theorem li {α:Type}{p:α->Bool}{l:List α}(h:∀j:Nat,(hj:j<l.length)->p l[j]=false):l.any p=false:=List.any_eq_false.2 fun c hc=>by
 obtain⟨j,hj,rfl⟩:=List.mem_iff_getElem.1 hc
 rw[h j hj];decide
theorem d3 (H:ac)(n lo hi:Int):zC 74 [iV n,iV lo,iV hi] H (.bool (btw n lo hi)) H:=by
 refine AcT true func74 ?_;intro hbel Q hQ
 refine aC ?_
 refine bg (fun h1=>?_) (fun h1=>?_)
 ·have h1d:=bsT h1
  have G1:=jn h1 @h1d
  exact eS G1 hQ hbel (.bool (decide (n<=hi))) results74 ⟨by simp[btw,h1d],rfl⟩
 have h1d:=bsT h1
 have G2:=jn h1 @h1d
 exact eS G2 hQ hbel (.bool false) results74 ⟨by simp[btw,h1d],rfl⟩
theorem cvb_c (H:ac)(m r:Int):zC 155 [.agg [iV m,iV r]] H (.bool (dy m r)) H:=by
 refine AcT true func155 ?_;intro hbel Q hQ
 refine aC ?_
 refine cv (d3 _ m 0 _) ?_
 refine aC ?_
 refine bg (fun h1=>?_) (fun h1=>?_)
 ·have h1d:=bsT h1
  have G3:=jn h1 @h1d
  refine aa G3 ?_
  refine cvr G3 (d3 _ r _ _) ?_
  exact eP hQ hbel (.bool (btw r (-1) 1024)) results155 ⟨by simp[dy,h1d],rfl⟩
 have h1d:=bsT h1
 have G4:=jn h1 @h1d
 exact eR G4 hQ hbel (.bool false) results155 ⟨by simp[dy,h1d],rfl⟩
theorem cvs_c (H:ac)(q:AV)(sc:List (Int×Int))(hq:SlP H q sc)(hl:sc.length<=1000000000):zC 115 [q] H (.bool (bP sc)) H:=by
 obtain⟨bq,oq,cq,rfl,hbq,hblq,hb0q⟩:=zA1 hq
 refine AcT true func115 ?_;intro hbel Q hQ
 have G5:=jn @hbq @hb0q
 refine aa G5 ?_
 refine glp (fun k F Hx=>∃i:Nat,i+k=sc.length/\(∀j:Nat,j<i->dy (g1 sc j) (g2 sc j)=true)/\F=[(0,.sl (some (bq,0)) sc.length cq),(5,.sl (some (bq,0)) sc.length cq),(6,iV (sc.length:Int)),(7,iV (i:Int))]/\H=Hx) (sc.length) ?_ ?_
 ·refine⟨_,_,_,⟨0,by omega,(fun j h=>by omega),rfl,rfl⟩,Abs.by0 hbel ?_⟩
  exact ar
 rintro k0 F Hx ⟨i,hm0,hal,rfl,rfl⟩ J0 hJ0
 refine rcs G5 (fun h1 h1d _=>?_) (fun h1 h1d G9=>?_)
 ·have hlt:i<sc.length:=by omega
  have q2:=bN (l:=sc) (j:=i) (by omega)
  have G6:=jn h1 (jn h1d (jn q2 G5))
  refine aa G6 ?_
  refine cv (cvb_c _ _ _) ?_
  refine rcs G6 (fun h3 h3d G7=>?_) (fun h3 h3d G8=>?_)
  ·have hfinS:bP sc=false:=by
    rw[<-Bool.not_eq_true];intro k
    have q:=(cw.1 k).2 _ (List.getElem_mem hlt)
    rw[<-bC hlt] at q
    exact absurd (q.symm.trans h3d) (by decide)
   exact eR G7 hQ hbel (.bool false) results115 ⟨by rw[hfinS],rfl⟩
  have hbk:=h3d
  refine aa G8 ?_
  refine hJ0 _ _ ⟨k0-1,by omega,_,_,_,⟨i+1,by omega,fun j hj=>by
        rcases Nat.lt_or_ge j i with h|h
        ·exact hal j h
        rw[show j=i by omega];exact hbk,rfl,rfl⟩,Abs.byN hbel ?_⟩
  exact ar
 obtain rfl:i=sc.length:=by omega
 have hfinS:bP sc=decide ((sc.length:Int)<=32):=by
  unfold bP
  rw[li (fun j hj=>by rw[<-bC hj];show (!dy _ _)=false;rw[hal j hj];rfl)];simp
 exact eS G9 hQ hbel (.bool (decide ((sc.length:Int)<=32))) results115 ⟨by rw[hfinS],rfl⟩
theorem cadm_c (H:ac)(x0 y0 x1 y1:Int):zC 157 [.agg [iV x0,iV y0,iV x1,iV y1]] H (.bool (dC x0 y0 x1 y1)) H:=by
 refine AcT true func157 ?_;intro hbel Q hQ
 refine aC ?_
 refine glp (fun k F Hx=>∃i:Nat,i+k=4/\(∀j:Nat,j<i->btw (ad4 x0 y0 x1 y1 j) (-1048576) 1048576=true)/\F=[(1,.ptr (some (H.length,0))),(13,.agg [iV x0,iV y0,iV x1,iV y1]),(14,iV (i:Int))]/\Hx=H++[.cells true 0 [iV x0,iV y0,iV x1,iV y1]]) (4) ?_ ?_
 ·refine⟨_,_,_,⟨0,by omega,(fun j h=>by omega),rfl,rfl⟩,bS hbel [0] ar⟩
 rintro k0 F Hx ⟨i,hm0,hal,rfl,rfl⟩ J0 hJ0
 refine aC ?_
 refine cn (fun h1=>?_) (fun h1=>?_)
 ·have h1d:=bsT h1
  obtain rfl|rfl|rfl|rfl:=(by omega:i=0\/i=1\/i=2\/i=3)
  ·have G10:=jn h1 @h1d
   refine aa G10 ?_
   refine cv (d3 _ _ _ _) ?_
   refine rcs G10 (fun h2 h2d G11=>?_) (fun h2 h2d G12=>?_)
   ·have hfinA:dC x0 y0 x1 y1=false:=by unfold dC;simp[h2d]
    exact eR G11 hQ hbel (.bool false) results157 ⟨by rw[hfinA],rfl⟩
   have hbk:=h2d
   refine aa G12 ?_
   refine hJ0 _ _ ⟨k0-1,by omega,_,_,_,⟨0+1,by omega,fun j hj=>by
         rcases Nat.lt_or_ge j 0 with h|h
         ·exact hal j h
         rw[show j=0 by omega];exact hbk,rfl,rfl⟩,bS hbel [0] ar⟩
  ·have G13:=jn h1 @h1d
   refine aa G13 ?_
   refine cv (d3 _ _ _ _) ?_
   refine rcs G13 (fun h3 h3d G14=>?_) (fun h3 h3d G15=>?_)
   ·have hfinA:dC x0 y0 x1 y1=false:=by unfold dC;simp[h3d]
    exact eR G14 hQ hbel (.bool false) results157 ⟨by rw[hfinA],rfl⟩
   have hbk:=h3d
   refine aa G15 ?_
   refine hJ0 _ _ ⟨k0-1,by omega,_,_,_,⟨1+1,by omega,fun j hj=>by
         rcases Nat.lt_or_ge j 1 with h|h
         ·exact hal j h
         rw[show j=1 by omega];exact hbk,rfl,rfl⟩,bS hbel [0] ar⟩
  ·have G16:=jn h1 @h1d
   refine aa G16 ?_
   refine cv (d3 _ _ _ _) ?_
   refine rcs G16 (fun h4 h4d G17=>?_) (fun h4 h4d G18=>?_)
   ·have hfinA:dC x0 y0 x1 y1=false:=by unfold dC;simp[h4d]
    exact eR G17 hQ hbel (.bool false) results157 ⟨by rw[hfinA],rfl⟩
   have hbk:=h4d
   refine aa G18 ?_
   refine hJ0 _ _ ⟨k0-1,by omega,_,_,_,⟨2+1,by omega,fun j hj=>by
         rcases Nat.lt_or_ge j 2 with h|h
         ·exact hal j h
         rw[show j=2 by omega];exact hbk,rfl,rfl⟩,bS hbel [0] ar⟩
  have G19:=jn h1 @h1d
  refine aa G19 ?_
  refine cv (d3 _ _ _ _) ?_
  refine rcs G19 (fun h5 h5d G20=>?_) (fun h5 h5d G21=>?_)
  ·have hfinA:dC x0 y0 x1 y1=false:=by unfold dC;simp[h5d]
   exact eR G20 hQ hbel (.bool false) results157 ⟨by rw[hfinA],rfl⟩
  have hbk:=h5d
  refine aa G21 ?_
  refine hJ0 _ _ ⟨k0-1,by omega,_,_,_,⟨3+1,by omega,fun j hj=>by
        rcases Nat.lt_or_ge j 3 with h|h
        ·exact hal j h
        rw[show j=3 by omega];exact hbk,rfl,rfl⟩,bS hbel [0] ar⟩
 have h1d:=bsT h1
 obtain rfl:i=4:=by omega
 have hfa0:btw x0 (-1048576) 1048576=true:=hal 0 (by omega)
 have hfa1:btw y0 (-1048576) 1048576=true:=hal 1 (by omega)
 have hfa2:btw x1 (-1048576) 1048576=true:=hal 2 (by omega)
 have hfa3:btw y1 (-1048576) 1048576=true:=hal 3 (by omega)
 have hxb:=bm.1 hfa0
 have hyb:=bm.1 hfa1
 have hxc:=bm.1 hfa2
 have hyc:=bm.1 hfa3
 have G22:=jn h1 @h1d
 refine aa G22 ?_
 refine cv (d3 _ _ 0 _) ?_
 refine rgs G22 (fun h6 h6d G23=>?_) (fun h6 h6d G24=>?_)
 ·refine aa G23 ?_
  refine cvr G23 (d3 _ _ 0 _) ?_
  exact eP hQ hbel (.bool (btw (y1-y0) 0 1024)) results157 ⟨by unfold dC;rw[hfa0,hfa1,hfa2,hfa3];simp[h1d,h6d],rfl⟩
 exact eR G24 hQ hbel (.bool false) results157 ⟨by unfold dC;rw[hfa0,hfa1,hfa2,hfa3];simp[h1d,h6d],rfl⟩
theorem cright_c (H:ac)(W Hh:Int)(pp:AV)(xs:List Int)(q:AV)(sc:List (Int×Int))(g:Int)(hpp:zI H pp xs)(hq:SlP H q sc)(hsc:sc.length<=1000000000):zC 73 [.agg [iV W,iV Hh,pp],q,iV g] H (.bool (bK W Hh xs&&(bP sc&&btw g 1 32))) H:=by
 obtain⟨bpp,opp,cpp,rfl,hbpp,hblpp,hb0pp⟩:=zA1 hpp
 obtain⟨bq,oq,cq,rfl,hbq,hblq,hb0q⟩:=zA1 hq
 refine AcT true func73 ?_;intro hbel Q hQ
 have G25:=jn @hbpp (jn @hb0pp (jn @hbq @hb0q))
 refine aa G25 ?_
 refine cv (jU _ W Hh _ xs (.inr (zA2 hb0pp hbpp))) ?_
 refine rgs G25 (fun h1 h1d G26=>?_) (fun h1 h1d G29=>?_)
 ·refine aa G26 ?_
  refine cv (cvs_c _ _ sc (zA2 hb0q hbq) (by omega)) ?_
  refine rgs G26 (fun h2 h2d G27=>?_) (fun h2 h2d G28=>?_)
  ·refine aa G27 ?_
   refine cvr G27 (d3 _ g 1 _) ?_
   exact eP hQ hbel (.bool (btw g 1 32)) results73 ⟨by simp[h1d,h2d],rfl⟩
  exact eR G28 hQ hbel (.bool false) results73 ⟨by simp[h1d,h2d],rfl⟩
 exact eR G29 hQ hbel (.bool false) results73 ⟨by simp[h1d],rfl⟩
theorem hidt_c (H:ac)(W Hh:Int)(pp:AV)(xs:List Int)(x0 y0 x1 y1 vx vy vd far:Int)(hpp:zI H pp xs)(hV:bK W Hh xs=true)(hx : -1048576<=x0/\x0<=1048576)(hy : -1048576<=y0/\y0<=1048576):zC 192 [.agg [iV W,iV Hh,pp],.agg [iV x0,iV y0,iV x1,iV y1],.agg [iV vx,iV vy,iV vd],iV far,.bool true] H (.bool (de W Hh xs x0 y0 x1 y1 vx vy vd far true)) H:=by
 obtain⟨bpp,opp,cpp,rfl,hbpp,hblpp,hb0pp⟩:=zA1 hpp
 have htl:=lO x0 y0 vx vy vd 0 far
 refine AcT true func192 ?_;intro hbel Q hQ
 have G1:=jn @hbpp @hb0pp
 refine rcs G1 (fun h1 h1d G2=>?_) (fun h1 h1d G3=>?_)
 ·have hfinH:de W Hh xs x0 y0 x1 y1 vx vy vd far true=false:=by unfold de;rw[decide_eq_true h1d];rfl
  exact eR G2 hQ hbel (.bool false) results192 ⟨by rw[hfinH],rfl⟩
 have hf0:=h1d
 refine aa G3 ?_
 refine cvr G3 (mF _ _ _ _ _ _ 0 _) ?_
 refine glp (fun k F Hx=>∃i:Nat,i+k=(trL x0 y0 vx vy vd 0 far).length/\(∀j:Nat,j<i->cU W Hh xs true x0 y0 x1 y1 vx vy vd far (g1 (trL x0 y0 vx vy vd 0 far) j,g2 (trL x0 y0 vx vy vd 0 far) j)=false)/\F=[(3,iV far),(4,.bool true),(5,.ptr (some (H.length,0))),(7,.ptr (some (H.length+1,0))),(11,.ptr (some (H.length+2,0))),(51,.sl (some (H.length+3,0)) ((trL x0 y0 vx vy vd 0 far).length) (aS (trL x0 y0 vx vy vd 0 far).length)),(52,iV (((trL x0 y0 vx vy vd 0 far).length:Nat):Int)),(53,iV (i:Int))]/\Hx=H++[.cells true 0 [iV W,iV Hh,.sl (some (bpp,0)) xs.length cpp],.cells true 0 [iV vx,iV vy,iV vd],.cells true 0 [iV x0,iV y0,iV x1,iV y0,iV x0,iV y1,iV x1,iV y1],.cells (aI (trL x0 y0 vx vy vd 0 far).length) 2 (prs (trL x0 y0 vx vy vd 0 far))]) ((trL x0 y0 vx vy vd 0 far).length) ?_ ?_
 ·refine⟨_,_,_,⟨0,by omega,(fun j h=>by omega),rfl,rfl⟩,bS hbel [0,2,3,4] dS⟩
 rintro k0 F Hx ⟨i,hm0,hal,rfl,rfl⟩ J0 hJ0
 have G4:=jn @ba (jn @cp G3)
 refine rcs G4 (fun h2 h2d _=>?_) (fun h2 h2d G22=>?_)
 ·have hlt:i<(trL x0 y0 vx vy vd 0 far).length:=by omega
  have htm:=trL_mem (List.getElem_mem hlt)
  rw[<-bC hlt] at htm
  simp only at htm
  have q3:=bN (l:=trL x0 y0 vx vy vd 0 far) (j:=i) (by omega)
  have G5:=jn h2 (jn h2d (jn q3 G4))
  refine aa G5 ?_
  refine cv (pat_c _ W _ _ xs _ _ (zA2 hb0pp hbpp) hV) ?_
  refine rcs G5 (fun h4 h4d _=>?_) (fun h4 h4d _=>?_)
  ·have h4n:=bnT h4
   have hno:cU W Hh xs true x0 y0 x1 y1 vx vy vd far ((g1 (trL x0 y0 vx vy vd 0 far) i),(g2 (trL x0 y0 vx vy vd 0 far) i))=false:=by unfold cU;rw[beq_eq_false_iff_ne.2 (by exact h4d)];rfl
   have G6:=jn h4 (jn h4n (jn @aK (jn @aJ G5)))
   refine aa G6 ?_
   refine hJ0 _ _ ⟨k0-1,by omega,_,_,_,⟨i+1,by omega,fun j hj=>by
         rcases Nat.lt_or_ge j i with h|h
         ·exact hal j h
         rw[show j=i by omega];exact hno,rfl,rfl⟩,bS hbel [0,1,2,3] dS⟩
  have h4n:=bnT h4
  have hat:atI W Hh xs (g1 (trL x0 y0 vx vy vd 0 far) i) (g2 (trL x0 y0 vx vy vd 0 far) i)=2:=by exact h4d
  have G7:=jn h4 (jn h4n (jn @aK (jn @aJ G5)))
  refine aa G7 ?_
  refine glp (fun k F Hx=>∃n:Nat,n+k=4/\F=[(3,iV far),(4,.bool true),(5,.ptr (some (H.length,0))),(7,.ptr (some (H.length+1,0))),(11,.ptr (some (H.length+2,0))),(16,.ptr (some (H.length+4,0))),(17,.bool (h4K true x0 y0 x1 y1 vx vy vd far (g1 (trL x0 y0 vx vy vd 0 far) i) (g2 (trL x0 y0 vx vy vd 0 far) i) n)),(51,.sl (some (H.length+3,0)) ((trL x0 y0 vx vy vd 0 far).length) (aS (trL x0 y0 vx vy vd 0 far).length)),(52,iV (((trL x0 y0 vx vy vd 0 far).length:Nat):Int)),(53,iV (i:Int)),(76,.agg [iV x0,iV y0,iV x1,iV y0,iV x0,iV y1,iV x1,iV y1]),(77,iV (n:Int))]/\Hx=H++[.cells true 0 [iV W,iV Hh,.sl (some (bpp,0)) xs.length cpp],.cells true 0 [iV vx,iV vy,iV vd],.cells true 0 [iV x0,iV y0,iV x1,iV y0,iV x0,iV y1,iV x1,iV y1],.cells (aI (trL x0 y0 vx vy vd 0 far).length) 2 (prs (trL x0 y0 vx vy vd 0 far)),.cells true 0 [iV ((g1 (trL x0 y0 vx vy vd 0 far) i)*64),iV ((g2 (trL x0 y0 vx vy vd 0 far) i)*64),iV (((g1 (trL x0 y0 vx vy vd 0 far) i)+1)*64),iV (((g2 (trL x0 y0 vx vy vd 0 far) i)+1)*64)]]) (4) ?_ ?_
  ·refine⟨_,_,_,⟨0,by omega,rfl,rfl⟩,bS hbel [0,1,2,3,5] (al @h4K.eq_1)⟩
  rintro k1 F Hx ⟨n,hm1,rfl,rfl⟩ J1 hJ1
  refine rcs G7 (fun h5 h5d _=>?_) (fun h5 h5d G19=>?_)
  ·obtain rfl|rfl|rfl|rfl:=(by omega:n=0\/n=1\/n=2\/n=3)
   ·have G8:=j2 h5 h5d G7
    refine rgs G8 (fun h6 h6d G9=>?_) (fun h6 h6d _=>?_)
    ·have hst:h4K true x0 y0 x1 y1 vx vy vd far (g1 (trL x0 y0 vx vy vd 0 far) i) (g2 (trL x0 y0 vx vy vd 0 far) i) 1=cX x0 y0 vx vy vd far ((g1 (trL x0 y0 vx vy vd 0 far) i)*64) ((g2 (trL x0 y0 vx vy vd 0 far) i)*64) (((g1 (trL x0 y0 vx vy vd 0 far) i)+1)*64) (((g2 (trL x0 y0 vx vy vd 0 far) i)+1)*64):=by
      show (h4K true x0 y0 x1 y1 vx vy vd far (g1 (trL x0 y0 vx vy vd 0 far) i) (g2 (trL x0 y0 vx vy vd 0 far) i) 0&&hcB true x0 y0 vx vy vd far (g1 (trL x0 y0 vx vy vd 0 far) i) (g2 (trL x0 y0 vx vy vd 0 far) i))=_
      rw[h6d,Bool.true_and];exact hcB_t rfl
     refine aa G9 ?_
     refine cvr G9 (eD _ _ _ _ _ _ _ _ _ _ _) ?_
     refine hJ1 _ _ ⟨k1-1,by omega,_,_,_,⟨0+1,by omega,rfl,rfl⟩,bS hbel [0,1,2,3,4] (al @hst)⟩
    exact absurd (show true=false from h6d) (by decide)
   ·have G10:=j2 h5 h5d G7
    refine rgs G10 (fun h7 h7d G11=>?_) (fun h7 h7d G12=>?_)
    ·have hst:h4K true x0 y0 x1 y1 vx vy vd far (g1 (trL x0 y0 vx vy vd 0 far) i) (g2 (trL x0 y0 vx vy vd 0 far) i) 2=cX x1 y0 vx vy vd far ((g1 (trL x0 y0 vx vy vd 0 far) i)*64) ((g2 (trL x0 y0 vx vy vd 0 far) i)*64) (((g1 (trL x0 y0 vx vy vd 0 far) i)+1)*64) (((g2 (trL x0 y0 vx vy vd 0 far) i)+1)*64):=by
      show (h4K true x0 y0 x1 y1 vx vy vd far (g1 (trL x0 y0 vx vy vd 0 far) i) (g2 (trL x0 y0 vx vy vd 0 far) i) 1&&hcB true x1 y0 vx vy vd far (g1 (trL x0 y0 vx vy vd 0 far) i) (g2 (trL x0 y0 vx vy vd 0 far) i))=_
      rw[h7d,Bool.true_and];exact hcB_t rfl
     refine aa G11 ?_
     refine cvr G11 (eD _ _ _ _ _ _ _ _ _ _ _) ?_
     refine hJ1 _ _ ⟨k1-1,by omega,_,_,_,⟨1+1,by omega,rfl,rfl⟩,bS hbel [0,1,2,3,4] (al @hst)⟩
    have hst:h4K true x0 y0 x1 y1 vx vy vd far (g1 (trL x0 y0 vx vy vd 0 far) i) (g2 (trL x0 y0 vx vy vd 0 far) i) 2=false:=by
     show (h4K true x0 y0 x1 y1 vx vy vd far (g1 (trL x0 y0 vx vy vd 0 far) i) (g2 (trL x0 y0 vx vy vd 0 far) i) 1&&_)=false
     rw[h7d];rfl
    refine aa G12 ?_
    refine hJ1 _ _ ⟨k1-1,by omega,_,_,_,⟨1+1,by omega,rfl,rfl⟩,bS hbel [0,1,2,3,4] (al @hst)⟩
   ·have G13:=j2 h5 h5d G7
    refine rgs G13 (fun h8 h8d G14=>?_) (fun h8 h8d G15=>?_)
    ·have hst:h4K true x0 y0 x1 y1 vx vy vd far (g1 (trL x0 y0 vx vy vd 0 far) i) (g2 (trL x0 y0 vx vy vd 0 far) i) 3=cX x0 y1 vx vy vd far ((g1 (trL x0 y0 vx vy vd 0 far) i)*64) ((g2 (trL x0 y0 vx vy vd 0 far) i)*64) (((g1 (trL x0 y0 vx vy vd 0 far) i)+1)*64) (((g2 (trL x0 y0 vx vy vd 0 far) i)+1)*64):=by
      show (h4K true x0 y0 x1 y1 vx vy vd far (g1 (trL x0 y0 vx vy vd 0 far) i) (g2 (trL x0 y0 vx vy vd 0 far) i) 2&&hcB true x0 y1 vx vy vd far (g1 (trL x0 y0 vx vy vd 0 far) i) (g2 (trL x0 y0 vx vy vd 0 far) i))=_
      rw[h8d,Bool.true_and];exact hcB_t rfl
     refine aa G14 ?_
     refine cvr G14 (eD _ _ _ _ _ _ _ _ _ _ _) ?_
     refine hJ1 _ _ ⟨k1-1,by omega,_,_,_,⟨2+1,by omega,rfl,rfl⟩,bS hbel [0,1,2,3,4] (al @hst)⟩
    have hst:h4K true x0 y0 x1 y1 vx vy vd far (g1 (trL x0 y0 vx vy vd 0 far) i) (g2 (trL x0 y0 vx vy vd 0 far) i) 3=false:=by
     show (h4K true x0 y0 x1 y1 vx vy vd far (g1 (trL x0 y0 vx vy vd 0 far) i) (g2 (trL x0 y0 vx vy vd 0 far) i) 2&&_)=false
     rw[h8d];rfl
    refine aa G15 ?_
    refine hJ1 _ _ ⟨k1-1,by omega,_,_,_,⟨2+1,by omega,rfl,rfl⟩,bS hbel [0,1,2,3,4] (al @hst)⟩
   have G16:=j2 h5 h5d G7
   refine rgs G16 (fun h9 h9d G17=>?_) (fun h9 h9d G18=>?_)
   ·have hst:h4K true x0 y0 x1 y1 vx vy vd far (g1 (trL x0 y0 vx vy vd 0 far) i) (g2 (trL x0 y0 vx vy vd 0 far) i) 4=cX x1 y1 vx vy vd far ((g1 (trL x0 y0 vx vy vd 0 far) i)*64) ((g2 (trL x0 y0 vx vy vd 0 far) i)*64) (((g1 (trL x0 y0 vx vy vd 0 far) i)+1)*64) (((g2 (trL x0 y0 vx vy vd 0 far) i)+1)*64):=by
     show (h4K true x0 y0 x1 y1 vx vy vd far (g1 (trL x0 y0 vx vy vd 0 far) i) (g2 (trL x0 y0 vx vy vd 0 far) i) 3&&hcB true x1 y1 vx vy vd far (g1 (trL x0 y0 vx vy vd 0 far) i) (g2 (trL x0 y0 vx vy vd 0 far) i))=_
     rw[h9d,Bool.true_and];exact hcB_t rfl
    refine aa G17 ?_
    refine cvr G17 (eD _ _ _ _ _ _ _ _ _ _ _) ?_
    refine hJ1 _ _ ⟨k1-1,by omega,_,_,_,⟨3+1,by omega,rfl,rfl⟩,bS hbel [0,1,2,3,4] (al @hst)⟩
   have hst:h4K true x0 y0 x1 y1 vx vy vd far (g1 (trL x0 y0 vx vy vd 0 far) i) (g2 (trL x0 y0 vx vy vd 0 far) i) 4=false:=by
    show (h4K true x0 y0 x1 y1 vx vy vd far (g1 (trL x0 y0 vx vy vd 0 far) i) (g2 (trL x0 y0 vx vy vd 0 far) i) 3&&_)=false
    rw[h9d];rfl
   refine aa G18 ?_
   refine hJ1 _ _ ⟨k1-1,by omega,_,_,_,⟨3+1,by omega,rfl,rfl⟩,bS hbel [0,1,2,3,4] (al @hst)⟩
  obtain rfl:n=4:=by omega
  refine rcs G19 (fun h10 h10d G20=>?_) (fun h10 h10d G21=>?_)
  ·have hfinH:de W Hh xs x0 y0 x1 y1 vx vy vd far true=true:=by
    unfold de
    rw[decide_eq_false hf0]
    exact List.any_eq_true.2 ⟨_,List.getElem_mem hlt,by
     rw[<-bC hlt];unfold cU;rw[Bool.and_eq_true,beq_iff_eq];exact⟨hat,h4K_4.symm.trans h10d⟩⟩
   exact eR G20 hQ hbel (.bool true) results192 ⟨by rw[hfinH],rfl⟩
  have hno:cU W Hh xs true x0 y0 x1 y1 vx vy vd far ((g1 (trL x0 y0 vx vy vd 0 far) i),(g2 (trL x0 y0 vx vy vd 0 far) i))=false:=by unfold cU;rw[Bool.and_eq_false_iff];right;exact h4K_4.symm.trans h10d
  refine aa G21 ?_
  refine hJ0 _ _ ⟨k0-1,by omega,_,_,_,⟨i+1,by omega,fun j hj=>by
        rcases Nat.lt_or_ge j i with h|h
        ·exact hal j h
        rw[show j=i by omega];exact hno,rfl,rfl⟩,bS hbel [0,1,2,3] dS⟩
 obtain rfl:i=(trL x0 y0 vx vy vd 0 far).length:=by omega
 have hfinH:de W Hh xs x0 y0 x1 y1 vx vy vd far true=false:=by
  unfold de
  rw[li (fun j hj=>by rw[<-bC hj];exact hal j hj)];simp
 exact eR G22 hQ hbel (.bool false) results192 ⟨by rw[hfinH],rfl⟩
theorem hidf_c (H:ac)(W Hh:Int)(pp:AV)(xs:List Int)(x0 y0 x1 y1 vx vy vd far:Int)(hpp:zI H pp xs)(hV:bK W Hh xs=true)(hx : -1048576<=x0/\x0<=1048576)(hy : -1048576<=y0/\y0<=1048576):zC 192 [.agg [iV W,iV Hh,pp],.agg [iV x0,iV y0,iV x1,iV y1],.agg [iV vx,iV vy,iV vd],iV far,.bool false] H (.bool (de W Hh xs x0 y0 x1 y1 vx vy vd far false)) H:=by
 obtain⟨bpp,opp,cpp,rfl,hbpp,hblpp,hb0pp⟩:=zA1 hpp
 have htl:=lO x0 y0 vx vy vd 0 far
 refine AcT true func192 ?_;intro hbel Q hQ
 have G23:=jn @hbpp @hb0pp
 refine rcs G23 (fun h1 h1d G24=>?_) (fun h1 h1d G25=>?_)
 ·have hfinH:de W Hh xs x0 y0 x1 y1 vx vy vd far false=false:=by unfold de;rw[decide_eq_true h1d];rfl
  exact eR G24 hQ hbel (.bool false) results192 ⟨by rw[hfinH],rfl⟩
 have hf0:=h1d
 refine aa G25 ?_
 refine cvr G25 (mF _ _ _ _ _ _ 0 _) ?_
 refine glp (fun k F Hx=>∃i:Nat,i+k=(trL x0 y0 vx vy vd 0 far).length/\(∀j:Nat,j<i->cU W Hh xs false x0 y0 x1 y1 vx vy vd far (g1 (trL x0 y0 vx vy vd 0 far) j,g2 (trL x0 y0 vx vy vd 0 far) j)=false)/\F=[(3,iV far),(4,.bool false),(5,.ptr (some (H.length,0))),(7,.ptr (some (H.length+1,0))),(11,.ptr (some (H.length+2,0))),(51,.sl (some (H.length+3,0)) ((trL x0 y0 vx vy vd 0 far).length) (aS (trL x0 y0 vx vy vd 0 far).length)),(52,iV (((trL x0 y0 vx vy vd 0 far).length:Nat):Int)),(53,iV (i:Int))]/\Hx=H++[.cells true 0 [iV W,iV Hh,.sl (some (bpp,0)) xs.length cpp],.cells true 0 [iV vx,iV vy,iV vd],.cells true 0 [iV x0,iV y0,iV x1,iV y0,iV x0,iV y1,iV x1,iV y1],.cells (aI (trL x0 y0 vx vy vd 0 far).length) 2 (prs (trL x0 y0 vx vy vd 0 far))]) ((trL x0 y0 vx vy vd 0 far).length) ?_ ?_
 ·refine⟨_,_,_,⟨0,by omega,(fun j h=>by omega),rfl,rfl⟩,bS hbel [0,2,3,4] dS⟩
 rintro k0 F Hx ⟨i,hm0,hal,rfl,rfl⟩ J0 hJ0
 have G26:=jn @ba (jn @cp G25)
 refine rcs G26 (fun h2 h2d _=>?_) (fun h2 h2d G44=>?_)
 ·have hlt:i<(trL x0 y0 vx vy vd 0 far).length:=by omega
  have htm:=trL_mem (List.getElem_mem hlt)
  rw[<-bC hlt] at htm
  simp only at htm
  have q3:=bN (l:=trL x0 y0 vx vy vd 0 far) (j:=i) (by omega)
  have G27:=jn h2 (jn h2d (jn q3 G26))
  refine aa G27 ?_
  refine cv (pat_c _ W _ _ xs _ _ (zA2 hb0pp hbpp) hV) ?_
  refine rcs G27 (fun h4 h4d _=>?_) (fun h4 h4d _=>?_)
  ·have h4n:=bnT h4
   have hno:cU W Hh xs false x0 y0 x1 y1 vx vy vd far ((g1 (trL x0 y0 vx vy vd 0 far) i),(g2 (trL x0 y0 vx vy vd 0 far) i))=false:=by unfold cU;rw[beq_eq_false_iff_ne.2 (by exact h4d)];rfl
   have G28:=jn h4 (jn h4n (jn @aK (jn @aJ G27)))
   refine aa G28 ?_
   refine hJ0 _ _ ⟨k0-1,by omega,_,_,_,⟨i+1,by omega,fun j hj=>by
         rcases Nat.lt_or_ge j i with h|h
         ·exact hal j h
         rw[show j=i by omega];exact hno,rfl,rfl⟩,bS hbel [0,1,2,3] dS⟩
  have h4n:=bnT h4
  have hat:atI W Hh xs (g1 (trL x0 y0 vx vy vd 0 far) i) (g2 (trL x0 y0 vx vy vd 0 far) i)=2:=by exact h4d
  have G29:=jn h4 (jn h4n (jn @aK (jn @aJ G27)))
  refine aa G29 ?_
  refine glp (fun k F Hx=>∃n:Nat,n+k=4/\F=[(3,iV far),(4,.bool false),(5,.ptr (some (H.length,0))),(7,.ptr (some (H.length+1,0))),(11,.ptr (some (H.length+2,0))),(16,.ptr (some (H.length+4,0))),(17,.bool (h4K false x0 y0 x1 y1 vx vy vd far (g1 (trL x0 y0 vx vy vd 0 far) i) (g2 (trL x0 y0 vx vy vd 0 far) i) n)),(51,.sl (some (H.length+3,0)) ((trL x0 y0 vx vy vd 0 far).length) (aS (trL x0 y0 vx vy vd 0 far).length)),(52,iV (((trL x0 y0 vx vy vd 0 far).length:Nat):Int)),(53,iV (i:Int)),(76,.agg [iV x0,iV y0,iV x1,iV y0,iV x0,iV y1,iV x1,iV y1]),(77,iV (n:Int))]/\Hx=H++[.cells true 0 [iV W,iV Hh,.sl (some (bpp,0)) xs.length cpp],.cells true 0 [iV vx,iV vy,iV vd],.cells true 0 [iV x0,iV y0,iV x1,iV y0,iV x0,iV y1,iV x1,iV y1],.cells (aI (trL x0 y0 vx vy vd 0 far).length) 2 (prs (trL x0 y0 vx vy vd 0 far)),.cells true 0 [iV ((g1 (trL x0 y0 vx vy vd 0 far) i)*64),iV ((g2 (trL x0 y0 vx vy vd 0 far) i)*64),iV (((g1 (trL x0 y0 vx vy vd 0 far) i)+1)*64),iV (((g2 (trL x0 y0 vx vy vd 0 far) i)+1)*64)]]) (4) ?_ ?_
  ·refine⟨_,_,_,⟨0,by omega,rfl,rfl⟩,bS hbel [0,1,2,3,5] (al @h4K.eq_1)⟩
  rintro k1 F Hx ⟨n,hm1,rfl,rfl⟩ J1 hJ1
  refine rcs G29 (fun h5 h5d _=>?_) (fun h5 h5d G41=>?_)
  ·obtain rfl|rfl|rfl|rfl:=(by omega:n=0\/n=1\/n=2\/n=3)
   ·have G30:=j2 h5 h5d G29
    refine rgs G30 (fun h6 h6d G31=>?_) (fun h6 h6d _=>?_)
    ·have hst:h4K false x0 y0 x1 y1 vx vy vd far (g1 (trL x0 y0 vx vy vd 0 far) i) (g2 (trL x0 y0 vx vy vd 0 far) i) 1=dr x0 y0 vx vy vd 0 far ((g1 (trL x0 y0 vx vy vd 0 far) i)*64) ((g2 (trL x0 y0 vx vy vd 0 far) i)*64) (((g1 (trL x0 y0 vx vy vd 0 far) i)+1)*64) (((g2 (trL x0 y0 vx vy vd 0 far) i)+1)*64):=by
      show (h4K false x0 y0 x1 y1 vx vy vd far (g1 (trL x0 y0 vx vy vd 0 far) i) (g2 (trL x0 y0 vx vy vd 0 far) i) 0&&hcB false x0 y0 vx vy vd far (g1 (trL x0 y0 vx vy vd 0 far) i) (g2 (trL x0 y0 vx vy vd 0 far) i))=_
      rw[h6d,Bool.true_and];exact hcB_f rfl
     refine aa G31 ?_
     refine cvr G31 (ja _ _ _ _ _ _ 0 _ _ _ _ _) ?_
     refine hJ1 _ _ ⟨k1-1,by omega,_,_,_,⟨0+1,by omega,rfl,rfl⟩,bS hbel [0,1,2,3,4] (al @hst)⟩
    exact absurd (show true=false from h6d) (by decide)
   ·have G32:=j2 h5 h5d G29
    refine rgs G32 (fun h7 h7d G33=>?_) (fun h7 h7d G34=>?_)
    ·have hst:h4K false x0 y0 x1 y1 vx vy vd far (g1 (trL x0 y0 vx vy vd 0 far) i) (g2 (trL x0 y0 vx vy vd 0 far) i) 2=dr x1 y0 vx vy vd 0 far ((g1 (trL x0 y0 vx vy vd 0 far) i)*64) ((g2 (trL x0 y0 vx vy vd 0 far) i)*64) (((g1 (trL x0 y0 vx vy vd 0 far) i)+1)*64) (((g2 (trL x0 y0 vx vy vd 0 far) i)+1)*64):=by
      show (h4K false x0 y0 x1 y1 vx vy vd far (g1 (trL x0 y0 vx vy vd 0 far) i) (g2 (trL x0 y0 vx vy vd 0 far) i) 1&&hcB false x1 y0 vx vy vd far (g1 (trL x0 y0 vx vy vd 0 far) i) (g2 (trL x0 y0 vx vy vd 0 far) i))=_
      rw[h7d,Bool.true_and];exact hcB_f rfl
     refine aa G33 ?_
     refine cvr G33 (ja _ _ _ _ _ _ 0 _ _ _ _ _) ?_
     refine hJ1 _ _ ⟨k1-1,by omega,_,_,_,⟨1+1,by omega,rfl,rfl⟩,bS hbel [0,1,2,3,4] (al @hst)⟩
    have hst:h4K false x0 y0 x1 y1 vx vy vd far (g1 (trL x0 y0 vx vy vd 0 far) i) (g2 (trL x0 y0 vx vy vd 0 far) i) 2=false:=by
     show (h4K false x0 y0 x1 y1 vx vy vd far (g1 (trL x0 y0 vx vy vd 0 far) i) (g2 (trL x0 y0 vx vy vd 0 far) i) 1&&_)=false
     rw[h7d];rfl
    refine aa G34 ?_
    refine hJ1 _ _ ⟨k1-1,by omega,_,_,_,⟨1+1,by omega,rfl,rfl⟩,bS hbel [0,1,2,3,4] (al @hst)⟩
   ·have G35:=j2 h5 h5d G29
    refine rgs G35 (fun h8 h8d G36=>?_) (fun h8 h8d G37=>?_)
    ·have hst:h4K false x0 y0 x1 y1 vx vy vd far (g1 (trL x0 y0 vx vy vd 0 far) i) (g2 (trL x0 y0 vx vy vd 0 far) i) 3=dr x0 y1 vx vy vd 0 far ((g1 (trL x0 y0 vx vy vd 0 far) i)*64) ((g2 (trL x0 y0 vx vy vd 0 far) i)*64) (((g1 (trL x0 y0 vx vy vd 0 far) i)+1)*64) (((g2 (trL x0 y0 vx vy vd 0 far) i)+1)*64):=by
      show (h4K false x0 y0 x1 y1 vx vy vd far (g1 (trL x0 y0 vx vy vd 0 far) i) (g2 (trL x0 y0 vx vy vd 0 far) i) 2&&hcB false x0 y1 vx vy vd far (g1 (trL x0 y0 vx vy vd 0 far) i) (g2 (trL x0 y0 vx vy vd 0 far) i))=_
      rw[h8d,Bool.true_and];exact hcB_f rfl
     refine aa G36 ?_
     refine cvr G36 (ja _ _ _ _ _ _ 0 _ _ _ _ _) ?_
     refine hJ1 _ _ ⟨k1-1,by omega,_,_,_,⟨2+1,by omega,rfl,rfl⟩,bS hbel [0,1,2,3,4] (al @hst)⟩
    have hst:h4K false x0 y0 x1 y1 vx vy vd far (g1 (trL x0 y0 vx vy vd 0 far) i) (g2 (trL x0 y0 vx vy vd 0 far) i) 3=false:=by
     show (h4K false x0 y0 x1 y1 vx vy vd far (g1 (trL x0 y0 vx vy vd 0 far) i) (g2 (trL x0 y0 vx vy vd 0 far) i) 2&&_)=false
     rw[h8d];rfl
    refine aa G37 ?_
    refine hJ1 _ _ ⟨k1-1,by omega,_,_,_,⟨2+1,by omega,rfl,rfl⟩,bS hbel [0,1,2,3,4] (al @hst)⟩
   have G38:=j2 h5 h5d G29
   refine rgs G38 (fun h9 h9d G39=>?_) (fun h9 h9d G40=>?_)
   ·have hst:h4K false x0 y0 x1 y1 vx vy vd far (g1 (trL x0 y0 vx vy vd 0 far) i) (g2 (trL x0 y0 vx vy vd 0 far) i) 4=dr x1 y1 vx vy vd 0 far ((g1 (trL x0 y0 vx vy vd 0 far) i)*64) ((g2 (trL x0 y0 vx vy vd 0 far) i)*64) (((g1 (trL x0 y0 vx vy vd 0 far) i)+1)*64) (((g2 (trL x0 y0 vx vy vd 0 far) i)+1)*64):=by
     show (h4K false x0 y0 x1 y1 vx vy vd far (g1 (trL x0 y0 vx vy vd 0 far) i) (g2 (trL x0 y0 vx vy vd 0 far) i) 3&&hcB false x1 y1 vx vy vd far (g1 (trL x0 y0 vx vy vd 0 far) i) (g2 (trL x0 y0 vx vy vd 0 far) i))=_
     rw[h9d,Bool.true_and];exact hcB_f rfl
    refine aa G39 ?_
    refine cvr G39 (ja _ _ _ _ _ _ 0 _ _ _ _ _) ?_
    refine hJ1 _ _ ⟨k1-1,by omega,_,_,_,⟨3+1,by omega,rfl,rfl⟩,bS hbel [0,1,2,3,4] (al @hst)⟩
   have hst:h4K false x0 y0 x1 y1 vx vy vd far (g1 (trL x0 y0 vx vy vd 0 far) i) (g2 (trL x0 y0 vx vy vd 0 far) i) 4=false:=by
    show (h4K false x0 y0 x1 y1 vx vy vd far (g1 (trL x0 y0 vx vy vd 0 far) i) (g2 (trL x0 y0 vx vy vd 0 far) i) 3&&_)=false
    rw[h9d];rfl
   refine aa G40 ?_
   refine hJ1 _ _ ⟨k1-1,by omega,_,_,_,⟨3+1,by omega,rfl,rfl⟩,bS hbel [0,1,2,3,4] (al @hst)⟩
  obtain rfl:n=4:=by omega
  refine rcs G41 (fun h10 h10d G42=>?_) (fun h10 h10d G43=>?_)
  ·have hfinH:de W Hh xs x0 y0 x1 y1 vx vy vd far false=true:=by
    unfold de
    rw[decide_eq_false hf0]
    exact List.any_eq_true.2 ⟨_,List.getElem_mem hlt,by
     rw[<-bC hlt];unfold cU;rw[Bool.and_eq_true,beq_iff_eq];exact⟨hat,h4K_4.symm.trans h10d⟩⟩
   exact eR G42 hQ hbel (.bool true) results192 ⟨by rw[hfinH],rfl⟩
  have hno:cU W Hh xs false x0 y0 x1 y1 vx vy vd far ((g1 (trL x0 y0 vx vy vd 0 far) i),(g2 (trL x0 y0 vx vy vd 0 far) i))=false:=by unfold cU;rw[Bool.and_eq_false_iff];right;exact h4K_4.symm.trans h10d
  refine aa G43 ?_
  refine hJ0 _ _ ⟨k0-1,by omega,_,_,_,⟨i+1,by omega,fun j hj=>by
        rcases Nat.lt_or_ge j i with h|h
        ·exact hal j h
        rw[show j=i by omega];exact hno,rfl,rfl⟩,bS hbel [0,1,2,3] dS⟩
 obtain rfl:i=(trL x0 y0 vx vy vd 0 far).length:=by omega
 have hfinH:de W Hh xs x0 y0 x1 y1 vx vy vd far false=false:=by
  unfold de
  rw[li (fun j hj=>by rw[<-bC hj];exact hal j hj)];simp
 exact eR G44 hQ hbel (.bool false) results192 ⟨by rw[hfinH],rfl⟩
theorem emp_c (H:ac)(W Hh:Int)(pp:AV)(xs:List Int)(x0 y0 x1 y1 vx vy vd lo hi:Int)(hpp:zI H pp xs)(hV:bK W Hh xs=true):zC 193 [.agg [iV W,iV Hh,pp],.agg [iV x0,iV y0,iV x1,iV y1],.agg [iV vx,iV vy,iV vd],iV lo,iV hi] H (.bool (empB W Hh xs x0 y0 x1 y1 vx vy vd lo hi)) H:=by
 obtain⟨bpp,opp,cpp,rfl,hbpp,hblpp,hb0pp⟩:=zA1 hpp
 have htl:=jb x0 y0 x1 y1 vx vy vd lo hi
 refine AcT true func193 ?_;intro hbel Q hQ
 have G1:=jn @hbpp @hb0pp
 refine aa G1 ?_
 refine cvr G1 (swept_c _ _ _ _ _ _ _ _ _ _) ?_
 refine glp (fun k F Hx=>∃i:Nat,i+k=(bv x0 y0 x1 y1 vx vy vd lo hi).length/\(∀j:Nat,j<i->frC W Hh xs (g1 (bv x0 y0 x1 y1 vx vy vd lo hi) j,g2 (bv x0 y0 x1 y1 vx vy vd lo hi) j)=true)/\F=[(5,.ptr (some (H.length,0))),(23,.sl (some (H.length+1,0)) ((bv x0 y0 x1 y1 vx vy vd lo hi).length) (aS (bv x0 y0 x1 y1 vx vy vd lo hi).length)),(24,iV (((bv x0 y0 x1 y1 vx vy vd lo hi).length:Nat):Int)),(25,iV (i:Int))]/\Hx=H++[.cells true 0 [iV W,iV Hh,.sl (some (bpp,0)) xs.length cpp],.cells (aI (bv x0 y0 x1 y1 vx vy vd lo hi).length) 2 (prs (bv x0 y0 x1 y1 vx vy vd lo hi))]) ((bv x0 y0 x1 y1 vx vy vd lo hi).length) ?_ ?_
 ·refine⟨_,_,_,⟨0,by omega,(fun j h=>by omega),rfl,rfl⟩,bS hbel [0,3] dS⟩
 rintro k0 F Hx ⟨i,hm0,hal,rfl,rfl⟩ J0 hJ0
 have G2:=jn @ba (jn @cp G1)
 refine rcs G2 (fun h1 h1d _=>?_) (fun h1 h1d G6=>?_)
 ·have hlt:i<(bv x0 y0 x1 y1 vx vy vd lo hi).length:=by omega
  have q2:=bN (l:=bv x0 y0 x1 y1 vx vy vd lo hi) (j:=i) (by omega)
  have G3:=jn h1 (jn h1d (jn q2 G2))
  refine aa G3 ?_
  refine cv (pat_c _ W _ _ xs _ _ (zA2 hb0pp hbpp) hV) ?_
  refine rcs G3 (fun h3 h3d _=>?_) (fun h3 h3d _=>?_)
  ·have h3n:=bnT h3
   have hfinE:empB W Hh xs x0 y0 x1 y1 vx vy vd lo hi=false:=by
    rw[<-Bool.not_eq_true];intro k
    have q:=List.all_eq_true.1 k _ (List.getElem_mem hlt)
    rw[<-bC hlt] at q
    have q2:atI W Hh xs (g1 (bv x0 y0 x1 y1 vx vy vd lo hi) i) (g2 (bv x0 y0 x1 y1 vx vy vd lo hi) i)=1:=by unfold frC at q;simpa using q
    exact absurd q2 (by exact h3d)
   have G4:=jn h3 (jn h3n (jn @aK (jn @aJ G3)))
   exact eR G4 hQ hbel (.bool false) results193 ⟨by rw[hfinE],rfl⟩
  have h3n:=bnT h3
  have hone:frC W Hh xs ((g1 (bv x0 y0 x1 y1 vx vy vd lo hi) i),(g2 (bv x0 y0 x1 y1 vx vy vd lo hi) i))=true:=by unfold frC;rw[beq_iff_eq];exact h3d
  have G5:=jn h3 (jn h3n (jn @aK (jn @aJ G3)))
  refine aa G5 ?_
  refine hJ0 _ _ ⟨k0-1,by omega,_,_,_,⟨i+1,by omega,fun j hj=>by
        rcases Nat.lt_or_ge j i with h|h
        ·exact hal j h
        rw[show j=i by omega];exact hone,rfl,rfl⟩,bS hbel [0,1] dS⟩
 obtain rfl:i=(bv x0 y0 x1 y1 vx vy vd lo hi).length:=by omega
 have hfinE:empB W Hh xs x0 y0 x1 y1 vx vy vd lo hi=true:=List.all_eq_true.2 fun c hc=>by
  obtain⟨j,hj,rfl⟩:=List.mem_iff_getElem.1 hc
  rw[<-bC hj];exact hal j hj
 exact eR G6 hQ hbel (.bool true) results193 ⟨by rw[hfinE],rfl⟩
theorem ref_c (H:ac)(W Hh:Int)(pp:AV)(xs:List Int)(x0 y0 x1 y1 h m r g:Int)(hpp:zI H pp xs)(hV:bK W Hh xs=true)(hA:dC x0 y0 x1 y1=true)(hg:1<=g/\g<=32)(hbe:dy m r=true):zC 158 [.agg [iV W,iV Hh,pp],.agg [iV x0,iV y0,iV x1,iV y1],iV h,.agg [iV m,iV r],iV g] H (.bool (dK W Hh xs x0 y0 x1 y1 h m r g)) H:=by
 obtain⟨bpp,opp,cpp,rfl,hbpp,hblpp,hb0pp⟩:=zA1 hpp
 have had:=eq.1 hA
 have hbb:=fm.1 hbe
 have el0:(if 0<r-g then r-g else 0)=cF r g:=rfl
 have el1:0<=cF r g:=by unfold cF;split<;>omega
 refine AcT true func158 ?_;intro hbel Q hQ
 have G7:=jn @hbpp (jn @hb0pp @el0)
 refine aa G7 ?_
 refine cv (hbeam_c _ h m) ?_
 refine rcs G7 (fun h1 h1d _=>?_) (fun h1 h1d _=>?_)
 ·have h1n:=bnT h1
  have hfinR:dK W Hh xs x0 y0 x1 y1 h m r g=de W Hh xs x0 y0 x1 y1 ((aq h m).1) ((aq h m).2.1) ((aq h m).2.2) (1024-g) false:=by unfold dK;rw[h1];rfl
  have G8:=jn h1 (jn h1n (jn @aK (jn @aJ G7)))
  refine aa G8 ?_
  refine cvr G8 (hidf_c _ W _ _ xs _ _ _ _ _ _ _ _ (zA2 hb0pp hbpp) hV (by omega) (by omega)) ?_
  exact eP hQ hbel (.bool (de W Hh xs x0 y0 x1 y1 ((aq h m).1) ((aq h m).2.1) ((aq h m).2.2) (1024-g) false)) results158 ⟨by rw[hfinR],rfl⟩
 have h1n:=bnT h1
 have hrf:=h1
 have G9:=jn h1 (jn h1n (jn @aK (jn @aJ G7)))
 refine aa G9 ?_
 refine cv (hidt_c _ W _ _ xs _ _ _ _ _ _ _ _ (zA2 hb0pp hbpp) hV (by omega) (by omega)) ?_
 refine rgs G9 (fun h2 h2d G10=>?_) (fun h2 h2d G11=>?_)
 ·have hfinR:dK W Hh xs x0 y0 x1 y1 h m r g=empB W Hh xs x0 y0 x1 y1 (aq h m).1 (aq h m).2.1 (aq h m).2.2 (cF r g) (r+g):=by unfold dK;rw[hrf,h2d];rfl
  refine aa G10 ?_
  refine cvr G10 (emp_c _ W _ _ xs _ _ _ _ _ _ _ _ _ (zA2 hb0pp hbpp) hV) ?_
  exact eP hQ hbel (.bool (empB W Hh xs x0 y0 x1 y1 ((aq h m).1) ((aq h m).2.1) ((aq h m).2.2) (cF r g) (r+g))) results158 ⟨by rw[hfinR],rfl⟩
 have hfinR:dK W Hh xs x0 y0 x1 y1 h m r g=true:=by unfold dK;rw[hrf,h2d];rfl
 exact eR G11 hQ hbel (.bool true) results158 ⟨by rw[hfinR],rfl⟩
theorem bad_c (H:ac)(W Hh:Int)(pp:AV)(xs:List Int)(x0 y0 x1 y1 h:Int)(q:AV)(sc:List (Int×Int))(g:Int)(hpp:zI H pp xs)(hq:SlP H q sc)(hV:bK W Hh xs=true)(hg:1<=g/\g<=32)(hsB:bP sc=true):zC 117 [.agg [iV W,iV Hh,pp],.agg [iV x0,iV y0,iV x1,iV y1],iV h,q,iV g] H (.bool (fQ W Hh xs x0 y0 x1 y1 h sc g)) H:=by
 obtain⟨bpp,opp,cpp,rfl,hbpp,hblpp,hb0pp⟩:=zA1 hpp
 obtain⟨bq,oq,cq,rfl,hbq,hblq,hb0q⟩:=zA1 hq
 have hsc:=cw.1 hsB
 refine AcT true func117 ?_;intro hbel Q hQ
 have G12:=jn @hbpp (jn @hb0pp (jn @hbq @hb0q))
 refine aa G12 ?_
 refine cv (cadm_c _ _ _ _ _) ?_
 refine rcs G12 (fun h1 h1d G13=>?_) (fun h1 h1d G14=>?_)
 ·have hfinB:fQ W Hh xs x0 y0 x1 y1 h sc g=false:=by unfold fQ;rw[h1d];rfl
  exact eR G13 hQ hbel (.bool false) results117 ⟨by rw[hfinB],rfl⟩
 have hadm:=h1d
 refine aa G14 ?_
 refine glp (fun k F Hx=>∃i:Nat,i+k=sc.length/\(∀j:Nat,j<i->dK W Hh xs x0 y0 x1 y1 h (g1 sc j) (g2 sc j) g=false)/\F=[(2,iV h),(4,iV g),(5,.ptr (some (H.length,0))),(6,.ptr (some (H.length+1,0))),(16,.sl (some (bq,0)) sc.length cq),(17,iV (sc.length:Int)),(18,iV (i:Int))]/\Hx=H++[.cells true 0 [iV W,iV Hh,.sl (some (bpp,0)) xs.length cpp],.cells true 0 [iV x0,iV y0,iV x1,iV y1]]) (sc.length) ?_ ?_
 ·refine⟨_,_,_,⟨0,by omega,(fun j h=>by omega),rfl,rfl⟩,bS hbel [0,1] ar⟩
 rintro k0 F Hx ⟨i,hm0,hal,rfl,rfl⟩ J0 hJ0
 refine rcs G14 (fun h2 h2d _=>?_) (fun h2 h2d G18=>?_)
 ·have hlt:i<sc.length:=by omega
  have hbe:=hsc.2 _ (List.getElem_mem hlt)
  rw[<-bC hlt] at hbe
  have hbe2:dy (g1 sc i) (g2 sc i)=true:=hbe
  have q3:=bN (l:=sc) (j:=i) (by omega)
  have G15:=jn h2 (jn h2d (jn q3 G14))
  refine aa G15 ?_
  refine cv (ref_c _ W _ _ xs _ _ _ _ h _ _ g (zA2 hb0pp hbpp) hV (by assumption) hg (by assumption)) ?_
  refine rcs G15 (fun h4 h4d G16=>?_) (fun h4 h4d G17=>?_)
  ·have hfinB:fQ W Hh xs x0 y0 x1 y1 h sc g=true:=by
    unfold fQ
    rw[hadm]
    exact List.any_eq_true.2 ⟨_,List.getElem_mem hlt,by rw[<-bC hlt];exact h4d⟩
   exact eR G16 hQ hbel (.bool true) results117 ⟨by rw[hfinB],rfl⟩
  have hno:=h4d
  refine aa G17 ?_
  refine hJ0 _ _ ⟨k0-1,by omega,_,_,_,⟨i+1,by omega,fun j hj=>by
        rcases Nat.lt_or_ge j i with h|h
        ·exact hal j h
        rw[show j=i by omega];exact hno,rfl,rfl⟩,bS hbel [0,1] ar⟩
 obtain rfl:i=sc.length:=by omega
 have hfinB:fQ W Hh xs x0 y0 x1 y1 h sc g=false:=by
  unfold fQ
  rw[li (fun j hj=>by rw[<-bC hj];exact hal j hj)];simp
 exact eR G18 hQ hbel (.bool false) results117 ⟨by rw[hfinB],rfl⟩
theorem tOk_x {W Hh:Int}{xs:List Int}{b:T6}{s:List (Int×Int)}{g:Int}(h:tX1 W b<tX0 b):tOk W Hh xs b s g=false:=by unfold tOk;rw[decide_eq_true h];rfl
theorem tOk_y {W Hh:Int}{xs:List Int}{b:T6}{s:List (Int×Int)}{g:Int}(h:tY1 Hh b<tY0 b):tOk W Hh xs b s g=false:=by unfold tOk;rw[decide_eq_true h];simp
theorem tOk_n {W Hh:Int}{xs:List Int}{b:T6}{s:List (Int×Int)}{g:Int}{i:Nat}(hi:i=(mkB b).length)(h:∀k:Nat,k<i->tP W Hh xs b s g k=true):tOk W Hh xs b s g=false:=by
 have e:tI W Hh xs b s g=(mkB b).length:=by unfold tI;rw[<-hi];exact nG h (Nat.le_refl _) (.inl rfl)
 unfold tOk;rw[e,decide_eq_false (Nat.lt_irrefl _)];simp
theorem tI_i {W Hh:Int}{xs:List Int}{b:T6}{s:List (Int×Int)}{g:Int}{i:Nat}(hi:i<(mkB b).length)(h:∀k:Nat,k<i->tP W Hh xs b s g k=true)(h0:tP W Hh xs b s g i=false):tI W Hh xs b s g=i:=nG h (by omega) (.inr h0)
theorem tOk_y2 {W Hh:Int}{xs:List Int}{b:T6}{s:List (Int×Int)}{g:Int}{i:Nat}(hx:¬tX1 W b<tX0 b)(hy:¬tY1 Hh b<tY0 b)(hi:i<(mkB b).length)(h:tI W Hh xs b s g=i):tOk W Hh xs b s g=true:=by
 unfold tOk;rw[decide_eq_false hx,decide_eq_false hy,h,decide_eq_true hi];rfl
theorem tJ_j {W Hh:Int}{xs:List Int}{b:T6}{s:List (Int×Int)}{g:Int}{j:Nat}(hj:0<j)(h0:tP W Hh xs b s g (j-1)=false)(hn:j<=(mkB b).length)(h:∀k:Nat,j<=k->k<(mkB b).length->tP W Hh xs b s g k=true):tJ W Hh xs b s g=j:=tlN_eq ⟨hj,h0⟩ hn h
theorem trim_c (H:ac)(W Hh:Int)(pp:AV)(xs:List Int)(x0 y0 x1 y1 f c:Int)(q:AV)(sc:List (Int×Int))(g:Int)(hpp:zI H pp xs)(hq:SlP H q sc)(hV:bK W Hh xs=true)(hb:bxB x0 y0 x1 y1 f c=true)(hsB:bP sc=true)(hg:1<=g/\g<=32):zC 75 [.agg [iV W,iV Hh,pp],.agg [iV x0,iV y0,iV x1,iV y1,iV f,iV c],q,iV g] H (.tup [.agg [iV (mkV (tOk W Hh xs (x0,y0,x1,y1,f,c) sc g) ((tB W Hh xs (x0,y0,x1,y1,f,c) sc g).1)),iV (mkV (tOk W Hh xs (x0,y0,x1,y1,f,c) sc g) ((tB W Hh xs (x0,y0,x1,y1,f,c) sc g).2.1)),iV (mkV (tOk W Hh xs (x0,y0,x1,y1,f,c) sc g) ((tB W Hh xs (x0,y0,x1,y1,f,c) sc g).2.2.1)),iV (mkV (tOk W Hh xs (x0,y0,x1,y1,f,c) sc g) ((tB W Hh xs (x0,y0,x1,y1,f,c) sc g).2.2.2.1)),iV (mkV (tOk W Hh xs (x0,y0,x1,y1,f,c) sc g) ((tB W Hh xs (x0,y0,x1,y1,f,c) sc g).2.2.2.2.1)),iV (mkV (tOk W Hh xs (x0,y0,x1,y1,f,c) sc g) ((tB W Hh xs (x0,y0,x1,y1,f,c) sc g).2.2.2.2.2))],.bool (tOk W Hh xs (x0,y0,x1,y1,f,c) sc g)]) H:=by
 obtain⟨bpp,opp,cpp,rfl,hbpp,hblpp,hb0pp⟩:=zA1 hpp
 obtain⟨bq,oq,cq,rfl,hbq,hblq,hb0q⟩:=zA1 hq
 have hbb:=bB.1 hb
 have hab:=hbb.2.2
 have haa:=bh.1 hab
 have hVV:=bp.1 hV
 have hw0:=hVV.w0
 have hw1:=hVV.w1
 have hh0:=hVV.h0
 have hh1:=hVV.h1
 have hln:=dm f c.toNat
 have e0:(if x0<0 then 0 else x0)=tX0 (x0,y0,x1,y1,f,c):=rfl
 have e1:(if y0<0 then 0 else y0)=tY0 (x0,y0,x1,y1,f,c):=rfl
 have e2:(if 64*W<x1 then 64*W else x1)=tX1 W (x0,y0,x1,y1,f,c):=rfl
 have e3:(if 64*Hh<y1 then 64*Hh else y1)=tY1 Hh (x0,y0,x1,y1,f,c):=rfl
 refine AcT true func75 ?_;intro hbel Q hQ
 have G1:=jn @hbpp (jn @hb0pp (jn @hbq (jn @hb0q (jn @e0 (jn @e1 (jn @e2 @e3))))))
 refine rgs G1 (fun h1 h1d G2=>?_) (fun h1 h1d G15=>?_)
 ·have hnx:=h1d
  refine rcs G2 (fun h2 h2d G3=>?_) (fun h2 h2d G4=>?_)
  ·have hfinO:=tOk_y (W:=W) (Hh:=Hh) (xs:=xs) (b:=(x0,y0,x1,y1,f,c)) (s:=sc) (g:=g) h2d
   exact eR G3 hQ hbel (.tup [.agg [iV 0,iV 0,iV 0,iV 0,iV 0,iV 0],.bool false]) results75 ⟨by (rw[hfinO];rfl),rfl⟩
  have hny:=h2d
  refine aa G4 ?_
  refine cvr G4 (ol _ f c hab) ?_
  refine glp (fun k F Hx=>∃i:Nat,i+k=(aw f c.toNat).length/\(∀j:Nat,j<i->tP W Hh xs (x0,y0,x1,y1,f,c) sc g j=true)/\F=[(2,.sl (some (bq,0)) sc.length cq),(3,iV g),(4,.ptr (some (H.length,0))),(8,.ptr (some (H.length+1,0))),(10,.ptr (some (H.length+2,0))),(11,.sl (some (H.length+3,i)) ((aw f c.toNat).length-i) none)]/\Hx=H++[.cells true 0 [iV W,iV Hh,.sl (some (bpp,0)) xs.length cpp],.cells true 0 [iV 0,iV 0,iV 0,iV 0,iV 0,iV 0],.cells true 0 [iV (tX0 (x0,y0,x1,y1,f,c)),iV (tY0 (x0,y0,x1,y1,f,c)),iV (tX1 W (x0,y0,x1,y1,f,c)),iV (tY1 Hh (x0,y0,x1,y1,f,c))],.cells true 1 (ints .i64 (aw f c.toNat))]) ((aw f c.toNat).length) ?_ ?_
  ·refine⟨_,_,_,⟨0,by omega,(fun j h=>by omega),rfl,rfl⟩,bS hbel [0,2,3,4] dS⟩
  rintro k0 F Hx ⟨i,hm0,hal,rfl,rfl⟩ J0 hJ0
  have G5:=jn @bU (jn @cr G4)
  refine rgs G5 (fun h3 h3d _=>?_) (fun h3 h3d G13=>?_)
  ·have q4:=c9 (k:=.i64) (xs:=aw f c.toNat) (j:=i) (by omega)
   have G6:=jn h3 (jn h3d (jn q4 G5))
   refine aa G6 ?_
   refine cd (bad_c _ W _ _ xs _ _ _ _ _ _ sc g (zA2 hb0pp hbpp) (zA2 hb0q hbq) hV hg hsB) ?_
   refine rcs G6 (fun h5 h5d G7=>?_) (fun h5 h5d G8=>?_)
   ·have hbi:=h5d
    refine aa G7 ?_
    have hv1:(aw f c.toNat).length-i-1=(aw f c.toNat).length-(i+1):=by omega
    refine hJ0 _ _ ⟨k0-1,by omega,_,_,_,⟨i+1,by omega,fun j hj=>by
          rcases Nat.lt_or_ge j i with h|h
          ·exact hal j h
          rw[show j=i by omega];exact hbi,rfl,rfl⟩,bS hbel [0,1,2,3] (al @hv1)⟩
   have hpi:tP W Hh xs (x0,y0,x1,y1,f,c) sc g i=false:=h5d
   have hiN:i<(mkB (x0,y0,x1,y1,f,c)).length:=by show i<(aw f c.toNat).length;omega
   have hfinI:=tI_i hiN hal hpi
   have hfinO:=tOk_y2 hnx hny hiN hfinI
   refine rcs G8 (fun h6 h6d _=>?_) (fun h6 h6d _=>?_)
   ·have h6n:=bnT h6
    omega
   have h6n:=bnT h6
   have G9:=jn h6 (jn h6n (jn @aK (jn @aJ G8)))
   refine aa G9 ?_
   refine glp (fun k F Hx=>∃j:Nat,i+k=j/\i<j/\j<=(aw f c.toNat).length/\(∀q:Nat,j<=q->q<(mkB (x0,y0,x1,y1,f,c)).length->tP W Hh xs (x0,y0,x1,y1,f,c) sc g q=true)/\F=[(2,.sl (some (bq,0)) sc.length cq),(3,iV g),(4,.ptr (some (H.length,0))),(8,.ptr (some (H.length+1,0))),(10,.ptr (some (H.length+2,0))),(11,.sl (some (H.length+3,i)) (j-i) none)]/\Hx=H++[.cells true 0 [iV W,iV Hh,.sl (some (bpp,0)) xs.length cpp],.cells true 0 [iV 0,iV 0,iV 0,iV 0,iV 0,iV 0],.cells true 0 [iV (tX0 (x0,y0,x1,y1,f,c)),iV (tY0 (x0,y0,x1,y1,f,c)),iV (tX1 W (x0,y0,x1,y1,f,c)),iV (tY1 Hh (x0,y0,x1,y1,f,c))],.cells true 1 (ints .i64 (aw f c.toNat))]) ((aw f c.toNat).length-i) ?_ ?_
   ·refine⟨_,_,_,⟨(aw f c.toNat).length,by omega,by omega,Nat.le_refl _,(fun q h1 h2=>by have h2':q<(aw f c.toNat).length:=h2;omega),rfl,rfl⟩,bS hbel [0,1,2,3] dS⟩
   rintro k1 F Hx ⟨j,hm1,hij,hjn,hbk,rfl,rfl⟩ J1 hJ1
   have hj1:((j-i:Nat):Int)-1=((j-1-i:Nat):Int):=by omega
   have hj2:i+(j-1-i)=j-1:=by omega
   have q7:=c9 (k:=.i64) (xs:=aw f c.toNat) (j:=j-1) (by omega)
   have G10:=jn @hj1 (jn @hj2 (jn q7 G9))
   refine aa G10 ?_
   refine cd (bad_c _ W _ _ xs _ _ _ _ _ _ sc g (zA2 hb0pp hbpp) (zA2 hb0q hbq) hV hg hsB) ?_
   refine rcs G10 (fun h8 h8d G11=>?_) (fun h8 h8d _=>?_)
   ·have hbj:=h8d
    have hne:¬j-1=i:=fun e=>by
     have q:=hbj
     rw[e] at q
     exact absurd (q.symm.trans hpi) (by decide)
    refine aa G11 ?_
    refine hJ1 _ _ ⟨k1-1,by omega,_,_,_,⟨j-1,by omega,by omega,by omega,fun q h1 h2=>by
          rcases Nat.lt_or_ge q j with h|h
          ·rw[show q=j-1 by omega];exact hbj
          exact hbk q h h2,rfl,rfl⟩,bS hbel [0,1,2,3] dS⟩
   have hfinJ:=tJ_j (W:=W) (Hh:=Hh) (xs:=xs) (b:=(x0,y0,x1,y1,f,c)) (s:=sc) (g:=g) (j:=j) (by omega) h8d (by show j<=(aw f c.toNat).length;omega) hbk
   have q9:=c9 (k:=.i64) (xs:=aw f c.toNat) (j:=i) (by omega)
   have G12:=jn h8 (jn h8d (jn q9 G10))
   exact eR G12 hQ hbel (.tup [.agg [iV (tX0 (x0,y0,x1,y1,f,c)),iV (tY0 (x0,y0,x1,y1,f,c)),iV (tX1 W (x0,y0,x1,y1,f,c)),iV (tY1 Hh (x0,y0,x1,y1,f,c)),iV (gi (aw f c.toNat) i),iV ((j-i:Nat):Int)],.bool true]) results75 ⟨by (unfold tB;rw[hfinO,hfinI,hfinJ];rfl),rfl⟩
  have hfinO:=tOk_n (W:=W) (Hh:=Hh) (xs:=xs) (b:=(x0,y0,x1,y1,f,c)) (s:=sc) (g:=g) (i:=i) (by show i=(aw f c.toNat).length;omega) hal
  refine rcs G13 (fun h10 h10d _=>?_) (fun h10 h10d _=>?_)
  ·have h10n:=bnT h10
   have G14:=jn h10 (jn h10n (jn @aK (jn @aJ G13)))
   exact eR G14 hQ hbel (.tup [.agg [iV 0,iV 0,iV 0,iV 0,iV 0,iV 0],.bool false]) results75 ⟨by (rw[hfinO];rfl),rfl⟩
  have h10n:=bnT h10
  omega
 have hfinO:=tOk_x (W:=W) (Hh:=Hh) (xs:=xs) (b:=(x0,y0,x1,y1,f,c)) (s:=sc) (g:=g) h1d
 exact eR G15 hQ hbel (.tup [.agg [iV 0,iV 0,iV 0,iV 0,iV 0,iV 0],.bool false]) results75 ⟨by (rw[hfinO];rfl),rfl⟩
theorem trim_t (H:ac)(W Hh:Int)(pp:AV)(xs:List Int)(b:T6)(q:AV)(sc:List (Int×Int))(g:Int)(hpp:zI H pp xs)(hq:SlP H q sc)(hV:bK W Hh xs=true)(hb:bl b=true)(hsB:bP sc=true)(hg:1<=g/\g<=32):
  zC 75 [.agg [iV W,iV Hh,pp],.agg [iV b.1,iV b.2.1,iV b.2.2.1,iV b.2.2.2.1,iV b.2.2.2.2.1,iV b.2.2.2.2.2],q,iV g] H (.tup [.agg [iV (mkV (tOk W Hh xs b sc g) (tB W Hh xs b sc g).1),iV (mkV (tOk W Hh xs b sc g) (tB W Hh xs b sc g).2.1),iV (mkV (tOk W Hh xs b sc g) (tB W Hh xs b sc g).2.2.1),iV (mkV (tOk W Hh xs b sc g) (tB W Hh xs b sc g).2.2.2.1),iV (mkV (tOk W Hh xs b sc g) (tB W Hh xs b sc g).2.2.2.2.1),iV (mkV (tOk W Hh xs b sc g) (tB W Hh xs b sc g).2.2.2.2.2)],.bool (tOk W Hh xs b sc g)]) H :=
 trim_c H W Hh pp xs b.1 b.2.1 b.2.2.1 b.2.2.2.1 b.2.2.2.2.1 b.2.2.2.2.2 q sc g hpp hq hV hb hsB hg
theorem mkV_f (n:Int):mkV false n=0:=rfl
set_option maxRecDepth 100000 in
theorem je (H:ac)(s:AV)(l:List T6)(hs:Sl H 6 s l.length (r6 l))(hl:l.length<=1000000)(h0:0<l.length):zC 31 [s] H (.sl (some (H.length,0)) l.length none) (H++[.cells true 6 (r6 l)]):=by
 obtain⟨b,own,cap,rfl,hb⟩:=hs
 have hbl:=getElem?_lt hb
 have hb0:=fun l=>ae (l:=l) hb
 generalize hm:l.length=m at *
 refine AcT true func31 ?_;intro hbel Q hQ
 have htk:List.take (m*6) (r6 l)=r6 l:=List.take_of_length_le (by rw[bo];omega)
 have hm0:(m==0)=false:=beq_eq_false_iff_ne.2 (by omega)
 have hm1:(m != 0)=true:=bne_iff_ne.2 (by omega)
 have hln:(r6 l).length=m*6:=by rw[bo,hm]
 simp -implicitDefEqProofs (disch:=omega) only [hb,hb0,Option.isNone_some,hm0,h0,htk,iM,hm1,cQ,hln,simprocAttr,aG,aH,Function.comp_apply,one1,lenV,ak,ay,az,aop,AV.ofValue,AV.ofCell,AV.cells,AV.flat,AV.one,arep,aT,av,aE]
 repeat refine And.intro (by omega) ?_
 refine hQ _ _ (end_by (.inl rfl) hbel (x1:=.sl (some (H.length+1,0)) m none) (.sl (some (H.length,0)) m none) (aU results31) [1] (by decide) ⟨rfl,rfl⟩ ?_)
 exact lw @ax
theorem vol_c (H:ac)(x0 y0 x1 y1 f c:Int):zC 55 [.agg [iV x0,iV y0,iV x1,iV y1,iV f,iV c]] H (iV (cY (x0,y0,x1,y1,f,c))) H:=by
 refine AcT true func55 ?_;intro hbel Q hQ
 refine aC ?_
 refine cv (fy _ _ _ _ _ f c) ?_
 refine aC ?_
 refine cn (fun h1=>?_) (fun h1=>?_)
 ·have h1d:=bsT h1
  have hfinV:cY (x0,y0,x1,y1,f,c)=0:=if_neg (fun k=>absurd ((show bxB x0 y0 x1 y1 f c=true from k).symm.trans h1d) (by decide))
  have G1:=jn h1 @h1d
  exact eR G1 hQ hbel (iV 0) results55 ⟨by rw[hfinV],rfl⟩
 have h1d:=bsT h1
 have hbb:=bB.1 h1d
 have haa:=bh.1 hbb.2.2
 have m1:=aP (a:=x1-x0+1) (b:=y1-y0+1) (A:=2097153) (B:=2097153) (by omega) (by omega)
 have m2:=aP (a:=(x1-x0+1)*(y1-y0+1)) (b:=c) (A:=4398050705409) (B:=256) (by omega) (by omega)
 have hfinV:cY (x0,y0,x1,y1,f,c)=(x1-x0+1)*(y1-y0+1)*c:=if_pos h1d
 have G2:=jn h1 @h1d
 exact eR G2 hQ hbel (iV ((((x1-x0)+1)*((y1-y0)+1))*c)) results55 ⟨by rw[hfinV],rfl⟩
theorem spl1_c (H:ac)(n u:Int)(hn:0<=n/\n<=4194304)(hu:0<=u/\u<=8):zC 118 [iV n,iV u] H (iV (er n u)) H:=by
 have m1:=aP (a:=n) (b:=u) (A:=4194304) (B:=8) (by omega) (by omega)
 refine AcT true func118 ?_;intro hbel Q hQ
 refine aC ?_
 refine cn (fun h1=>?_) (fun h1=>?_)
 ·have h1d:=bsT h1
  have G3:=jn h1 (jn h1d (jn @aK @aJ))
  exact eS G3 hQ hbel (iV 0) results118 ⟨by unfold er;rw[if_pos (by omega)],rfl⟩
 have h1d:=bsT h1
 have G4:=jn h1 (jn h1d (jn @aK @aJ))
 exact eS G4 hQ hbel (iV (n*u)) results118 ⟨by unfold er;rw[if_neg (by omega)],rfl⟩
theorem split_c (H:ac)(x0 y0 x1 y1 f c:Int)(hb:bxB x0 y0 x1 y1 f c=true):zC 76 [.agg [iV x0,iV y0,iV x1,iV y1,iV f,iV c]] H (.tup [.agg [iV (mkV (cg (x0,y0,x1,y1,f,c)) ((bR (x0,y0,x1,y1,f,c)).1)),iV (mkV (cg (x0,y0,x1,y1,f,c)) ((bR (x0,y0,x1,y1,f,c)).2.1)),iV (mkV (cg (x0,y0,x1,y1,f,c)) ((bR (x0,y0,x1,y1,f,c)).2.2.1)),iV (mkV (cg (x0,y0,x1,y1,f,c)) ((bR (x0,y0,x1,y1,f,c)).2.2.2.1)),iV (mkV (cg (x0,y0,x1,y1,f,c)) ((bR (x0,y0,x1,y1,f,c)).2.2.2.2.1)),iV (mkV (cg (x0,y0,x1,y1,f,c)) ((bR (x0,y0,x1,y1,f,c)).2.2.2.2.2))],.agg [iV (mkV (cg (x0,y0,x1,y1,f,c)) ((bT (x0,y0,x1,y1,f,c)).1)),iV (mkV (cg (x0,y0,x1,y1,f,c)) ((bT (x0,y0,x1,y1,f,c)).2.1)),iV (mkV (cg (x0,y0,x1,y1,f,c)) ((bT (x0,y0,x1,y1,f,c)).2.2.1)),iV (mkV (cg (x0,y0,x1,y1,f,c)) ((bT (x0,y0,x1,y1,f,c)).2.2.2.1)),iV (mkV (cg (x0,y0,x1,y1,f,c)) ((bT (x0,y0,x1,y1,f,c)).2.2.2.2.1)),iV (mkV (cg (x0,y0,x1,y1,f,c)) ((bT (x0,y0,x1,y1,f,c)).2.2.2.2.2))],.bool (cg (x0,y0,x1,y1,f,c))]) H:=by
 have hbb:=bB.1 hb
 have haa:=bh.1 hbb.2.2
 have et1:Int.tdiv (x1-x0+1) 2=(x1-x0+1)/2:=Int.tdiv_eq_ediv_of_nonneg (by omega)
 have et2:Int.tdiv (y1-y0+1) 2=(y1-y0+1)/2:=Int.tdiv_eq_ediv_of_nonneg (by omega)
 have et3:Int.tdiv c 2=c/2:=Int.tdiv_eq_ediv_of_nonneg (by omega)
 have et4:Int.tmod (f+c/2) 256=(f+c/2)%256:=Int.tmod_eq_emod_of_nonneg (by omega)
 (refine aR func76 _ rfl (Nat.le_of_ble_eq_true (by kernel_rfl)) rfl ?_;intro hbel Q hQ hQ' c hc;unfold Tryz.f76 at hc;simp only[Option.some.injEq] at hc;subst hc;clear hQ')
 refine zQT hQ fun Q1 hn1 hQ1 he1=>?_
 have G5:=jn @et1 (jn @et2 (jn @et3 @et4))
 refine aa G5 ?_
 refine hn1 _ _ (zQT hQ fun Q2 hn2 hQ2 he2=>?_)
 refine aa G5 ?_
 refine cv (vol_c _ _ _ _ _ f c) ?_
 refine rcs G5 (fun h1 h1d G6=>?_) (fun h1 h1d G7=>?_)
 ·have hfinV:cg (x0,y0,x1,y1,f,c)=false:=by unfold cg;rw[decide_eq_true h1d];rfl
  exact eR G6 hQ2 hbel (.tup [.agg [iV 0,iV 0,iV 0,iV 0,iV 0,iV 0],.agg [iV 0,iV 0,iV 0,iV 0,iV 0,iV 0],.bool false]) results76 ⟨by (rw[hfinV];rfl),rfl⟩
 have hfinV:cg (x0,y0,x1,y1,f,c)=true:=by unfold cg;rw[decide_eq_false (by omega)];rfl
 refine aa G7 ?_
 refine hn2 _ _ (zQT hQ fun Q3 hn3 hQ3 he3=>?_)
 refine aa G7 ?_
 refine hn3 _ _ (zQT hQ fun Q4 hn4 hQ4 he4=>?_)
 refine aa G7 ?_
 refine hn4 _ _ (zQT hQ fun Q5 hn5 hQ5 he5=>?_)
 refine aa G7 ?_
 refine cdr G7 (spl1_c _ _ 1 (by omega) (by omega)) ?_
 refine cdr G7 (spl1_c _ _ 1 (by omega) (by omega)) ?_
 refine cdr G7 (spl1_c _ c 8 (by omega) (by omega)) ?_
 refine hn5 _ _ ?_
 refine aL true try_mixed [[0,1,2,3,4,5],[0,2,3,4,1,5],[0,1,3,2,4,5],[0,3,2,4,1,5]] (by kernel_rfl) (fun F2 H2=>F2=[(1,.ptr (some (H.length,0))),(2,.ptr (some (H.length+1,0))),(3,.ptr (some (H.length+2,0))),(4,.bool false),(6,iV ((x1-x0)+1)),(7,iV ((y1-y0)+1)),(8,iV (er ((x1-x0)+1) 1)),(9,iV (er ((y1-y0)+1) 1)),(10,iV (er c 8)),(11,.ptr (some (H.length+3,0))),(12,.ptr (some (H.length+4,0)))]/\H2=H++[.cells true 0 [iV x0,iV y0,iV x1,iV y1,iV f,iV c],.cells true 0 [iV 0,iV 0,iV 0,iV 0,iV 0,iV 0],.cells true 0 [iV 0,iV 0,iV 0,iV 0,iV 0,iV 0],.cells true 0 [iV x0,iV y0,iV x1,iV y1,iV f,iV c],.cells true 0 [iV x0,iV y0,iV x1,iV y1,iV f,iV c]]) ?_ ?_
 ·refine af ?_ (af ?_ (af ?_ (af ?_ (aQ))))<;>intro J hJ
  ·refine ag G7 ?_
   refine ai (hJ _ _ ⟨_,_,_,⟨rfl,rfl⟩,bS hbel [0,1,2,3,4] ar⟩)
  ·refine ag G7 ?_
   refine ai (hJ _ _ ⟨_,_,_,⟨rfl,rfl⟩,bS hbel [0,1,2,3,4] ar⟩)
  ·refine ag G7 ?_
   refine ai (hJ _ _ ⟨_,_,_,⟨rfl,rfl⟩,bS hbel [0,1,2,4,3] ar⟩)
  refine ag G7 ?_
  refine ai (hJ _ _ ⟨_,_,_,⟨rfl,rfl⟩,bS hbel [0,1,2,4,3] ar⟩)
 rintro F2 H2 ⟨rfl,rfl⟩
 refine sqR hQ fun Q6 hn6 hQ6 he6=>?_
 refine bkR hQ6 fun Q7 hn7 hQ7 he7 hb7=>?_
 refine zQT hQ7 fun Q8 hn8 hQ8 he8=>?_
 refine rgs G7 (fun h2 h2d G8=>?_) (fun h2 h2d G12=>?_)
 ·have hc1:dV (x0,y0,x1,y1,f,c)<=dL (x0,y0,x1,y1,f,c):=h2d
  refine aa G8 ?_
  refine hn8 _ _ ?_
  refine db (decide ((er c 8)<=(er ((x1-x0)+1) 1))) (by rfl) (fun h3=>?_) (fun h3=>?_)
  ·have h3d:=bsT h3
   have hfinX:bR (x0,y0,x1,y1,f,c)=(x0,y0,x0+((x1-x0)+1)/2-1,y1,f,c):=if_pos ⟨hc1,h3d⟩
   have hfinY:bT (x0,y0,x1,y1,f,c)=(x0+((x1-x0)+1)/2,y0,x1,y1,f,c):=if_pos ⟨hc1,h3d⟩
   refine fnT ?_
   have G9:=j2 h3 h3d G8
   refine aa G9 ?_
   refine hn7 _ _ ?_
   refine hn6 _ _ ?_
   refine aL true try_mixed [[0,1,2,3,4],[0,2,1,3,4]] (by kernel_rfl) (fun F2 H2=>F2=[(2,.ptr (some (H.length,0))),(3,.ptr (some (H.length+1,0))),(4,.bool true)]/\H2=H++[.cells true 0 [iV x0,iV y0,iV ((x0+(((x1-x0)+1)/2))-1),iV y1,iV f,iV c],.cells true 0 [iV (x0+(((x1-x0)+1)/2)),iV y0,iV x1,iV y1,iV f,iV c]]) ?_ ?_
   ·refine af ?_ (af ?_ (aQ))<;>intro J hJ
    ·refine ag G9 ?_
     refine ai (hJ _ _ ⟨_,_,_,⟨rfl,rfl⟩,bS hbel [1,2] ar⟩)
    refine ag G9 ?_
    refine ai (hJ _ _ ⟨_,_,_,⟨rfl,rfl⟩,bS hbel [1,2] ar⟩)
   rintro F2 H2 ⟨rfl,rfl⟩
   refine fnT ?_
   exact eR G9 hQ hbel (.tup [.agg [iV x0,iV y0,iV ((x0+(((x1-x0)+1)/2))-1),iV y1,iV f,iV c],.agg [iV (x0+(((x1-x0)+1)/2)),iV y0,iV x1,iV y1,iV f,iV c],.bool true]) results76 ⟨by (rw[hfinV,hfinX,hfinY];rfl),rfl⟩
  have h3d:=bsT h3
  have hc2:¬dZ (x0,y0,x1,y1,f,c)<=dL (x0,y0,x1,y1,f,c):=by have q:=h3d;exact Int.not_le.2 (by exact Int.not_le.1 q)
  have hn1:¬(dV (x0,y0,x1,y1,f,c)<=dL (x0,y0,x1,y1,f,c)/\dZ (x0,y0,x1,y1,f,c)<=dL (x0,y0,x1,y1,f,c)):=fun q=>hc2 q.2
  refine zQT hQ7 fun Q9 hn9 hQ9 he9=>?_
  have G10:=j2 h3 h3d G8
  refine aa G10 ?_
  refine hn9 _ _ ?_
  refine db (decide ((er c 8)<=(er ((y1-y0)+1) 1))) (by rfl) (fun h4=>?_) (fun h4=>?_)
  ·have h4d:=bsT h4
   exact(hc2 (Int.le_trans h4d hc1)).elim
  have h4d:=bsT h4
  have hc3:¬dZ (x0,y0,x1,y1,f,c)<=dV (x0,y0,x1,y1,f,c):=by have q:=h4d;exact Int.not_le.2 (by exact Int.not_le.1 q)
  have hfinX:bR (x0,y0,x1,y1,f,c)=(x0,y0,x1,y1,f,c/2):=(if_neg hn1).trans (if_neg hc3)
  have hfinY:bT (x0,y0,x1,y1,f,c)=(x0,y0,x1,y1,(f+c/2)%256,c-c/2):=(if_neg hn1).trans (if_neg hc3)
  refine zQT hQ7 fun Q10 hn10 hQ10 he10=>?_
  have G11:=j2 h4 h4d G10
  refine aa G11 ?_
  refine hn10 _ _ (zQT hQ7 fun Q11 hn11 hQ11 he11=>?_)
  refine aa G11 ?_
  refine hn11 _ _ ?_
  refine ep true try_mixed [[0,1,2,3,4,5,6,7,8,9,10,11,12],[0,1,2,3,4,5,7,9,10,6,8,11,12]] (by kernel_rfl) (fun F2 H2=>F2=[(2,.ptr (some (H.length,0))),(3,.ptr (some (H.length+1,0))),(11,.ptr (some (H.length+2,0))),(12,.ptr (some (H.length+3,0)))]/\H2=H++[.cells true 0 [iV 0,iV 0,iV 0,iV 0,iV 0,iV 0],.cells true 0 [iV 0,iV 0,iV 0,iV 0,iV 0,iV 0],.cells true 0 [iV x0,iV y0,iV x1,iV y1,iV f,iV (c/2)],.cells true 0 [iV x0,iV y0,iV x1,iV y1,iV ((f+(c/2))%256),iV (c-(c/2))]]) ?_ ?_
  ·refine af ?_ (af ?_ (aQ))<;>intro J hJ
   ·refine ag G11 ?_
    refine ai (hJ _ _ ⟨_,_,_,⟨rfl,rfl⟩,bS hbel [1,2,3,4] ar⟩)
   refine ag G11 ?_
   refine ai (hJ _ _ ⟨_,_,_,⟨rfl,rfl⟩,bS hbel [1,2,3,4] ar⟩)
  rintro F2 H2 ⟨rfl,rfl⟩
  refine hn7 _ _ ?_
  refine hn6 _ _ ?_
  refine aL true try_mixed [[0,1,2,3,4],[0,2,1,3,4]] (by kernel_rfl) (fun F2 H2=>F2=[(2,.ptr (some (H.length,0))),(3,.ptr (some (H.length+1,0))),(4,.bool true)]/\H2=H++[.cells true 0 [iV x0,iV y0,iV x1,iV y1,iV f,iV (c/2)],.cells true 0 [iV x0,iV y0,iV x1,iV y1,iV ((f+(c/2))%256),iV (c-(c/2))]]) ?_ ?_
  ·refine af ?_ (af ?_ (aQ))<;>intro J hJ
   ·refine ag G11 ?_
    refine ai (hJ _ _ ⟨_,_,_,⟨rfl,rfl⟩,bS hbel [0,1] ar⟩)
   refine ag G11 ?_
   refine ai (hJ _ _ ⟨_,_,_,⟨rfl,rfl⟩,bS hbel [0,1] ar⟩)
  rintro F2 H2 ⟨rfl,rfl⟩
  refine fnT ?_
  exact eR G11 hQ hbel (.tup [.agg [iV x0,iV y0,iV x1,iV y1,iV f,iV (c/2)],.agg [iV x0,iV y0,iV x1,iV y1,iV ((f+(c/2))%256),iV (c-(c/2))],.bool true]) results76 ⟨by (rw[hfinV,hfinX,hfinY];rfl),rfl⟩
 have hc1:¬dV (x0,y0,x1,y1,f,c)<=dL (x0,y0,x1,y1,f,c):=by have q:=h2d;exact Int.not_le.2 (by exact Int.not_le.1 q)
 have hn1:¬(dV (x0,y0,x1,y1,f,c)<=dL (x0,y0,x1,y1,f,c)/\dZ (x0,y0,x1,y1,f,c)<=dL (x0,y0,x1,y1,f,c)):=fun q=>hc1 q.1
 refine aa G12 ?_
 refine hn8 _ _ ?_
 refine db false (by rfl) (fun h=>by cases h) (fun h=>?_)
 refine zQT hQ7 fun Q12 hn12 hQ12 he12=>?_
 refine aa G12 ?_
 refine hn12 _ _ ?_
 refine db (decide ((er c 8)<=(er ((y1-y0)+1) 1))) (by rfl) (fun h5=>?_) (fun h5=>?_)
 ·have h5d:=bsT h5
  have hfinX:bR (x0,y0,x1,y1,f,c)=(x0,y0,x1,y0+((y1-y0)+1)/2-1,f,c):=(if_neg hn1).trans (if_pos h5d)
  have hfinY:bT (x0,y0,x1,y1,f,c)=(x0,y0+((y1-y0)+1)/2,x1,y1,f,c):=(if_neg hn1).trans (if_pos h5d)
  refine fnT ?_
  have G13:=j2 h5 h5d G12
  refine aa G13 ?_
  refine hn7 _ _ ?_
  refine hn6 _ _ ?_
  refine aL true try_mixed [[0,1,2,3,4],[0,2,1,3,4]] (by kernel_rfl) (fun F2 H2=>F2=[(2,.ptr (some (H.length,0))),(3,.ptr (some (H.length+1,0))),(4,.bool true)]/\H2=H++[.cells true 0 [iV x0,iV y0,iV x1,iV ((y0+(((y1-y0)+1)/2))-1),iV f,iV c],.cells true 0 [iV x0,iV (y0+(((y1-y0)+1)/2)),iV x1,iV y1,iV f,iV c]]) ?_ ?_
  ·refine af ?_ (af ?_ (aQ))<;>intro J hJ
   ·refine ag G13 ?_
    refine ai (hJ _ _ ⟨_,_,_,⟨rfl,rfl⟩,bS hbel [1,2] ar⟩)
   refine ag G13 ?_
   refine ai (hJ _ _ ⟨_,_,_,⟨rfl,rfl⟩,bS hbel [1,2] ar⟩)
  rintro F2 H2 ⟨rfl,rfl⟩
  refine fnT ?_
  exact eR G13 hQ hbel (.tup [.agg [iV x0,iV y0,iV x1,iV ((y0+(((y1-y0)+1)/2))-1),iV f,iV c],.agg [iV x0,iV (y0+(((y1-y0)+1)/2)),iV x1,iV y1,iV f,iV c],.bool true]) results76 ⟨by (rw[hfinV,hfinX,hfinY];rfl),rfl⟩
 have h5d:=bsT h5
 have hc3:¬dZ (x0,y0,x1,y1,f,c)<=dV (x0,y0,x1,y1,f,c):=by have q:=h5d;exact Int.not_le.2 (by exact Int.not_le.1 q)
 have hfinX:bR (x0,y0,x1,y1,f,c)=(x0,y0,x1,y1,f,c/2):=(if_neg hn1).trans (if_neg hc3)
 have hfinY:bT (x0,y0,x1,y1,f,c)=(x0,y0,x1,y1,(f+c/2)%256,c-c/2):=(if_neg hn1).trans (if_neg hc3)
 refine zQT hQ7 fun Q13 hn13 hQ13 he13=>?_
 have G14:=j2 h5 h5d G12
 refine aa G14 ?_
 refine hn13 _ _ (zQT hQ7 fun Q14 hn14 hQ14 he14=>?_)
 refine aa G14 ?_
 refine hn14 _ _ ?_
 refine ep true try_mixed [[0,1,2,3,4,5,6,7,8,9,10,11,12],[0,1,2,3,4,5,7,9,10,6,8,11,12]] (by kernel_rfl) (fun F2 H2=>F2=[(2,.ptr (some (H.length,0))),(3,.ptr (some (H.length+1,0))),(11,.ptr (some (H.length+2,0))),(12,.ptr (some (H.length+3,0)))]/\H2=H++[.cells true 0 [iV 0,iV 0,iV 0,iV 0,iV 0,iV 0],.cells true 0 [iV 0,iV 0,iV 0,iV 0,iV 0,iV 0],.cells true 0 [iV x0,iV y0,iV x1,iV y1,iV f,iV (c/2)],.cells true 0 [iV x0,iV y0,iV x1,iV y1,iV ((f+(c/2))%256),iV (c-(c/2))]]) ?_ ?_
 ·refine af ?_ (af ?_ (aQ))<;>intro J hJ
  ·refine ag G14 ?_
   refine ai (hJ _ _ ⟨_,_,_,⟨rfl,rfl⟩,bS hbel [1,2,3,4] ar⟩)
  refine ag G14 ?_
  refine ai (hJ _ _ ⟨_,_,_,⟨rfl,rfl⟩,bS hbel [1,2,3,4] ar⟩)
 rintro F2 H2 ⟨rfl,rfl⟩
 refine hn7 _ _ ?_
 refine hn6 _ _ ?_
 refine aL true try_mixed [[0,1,2,3,4],[0,2,1,3,4]] (by kernel_rfl) (fun F2 H2=>F2=[(2,.ptr (some (H.length,0))),(3,.ptr (some (H.length+1,0))),(4,.bool true)]/\H2=H++[.cells true 0 [iV x0,iV y0,iV x1,iV y1,iV f,iV (c/2)],.cells true 0 [iV x0,iV y0,iV x1,iV y1,iV ((f+(c/2))%256),iV (c-(c/2))]]) ?_ ?_
 ·refine af ?_ (af ?_ (aQ))<;>intro J hJ
  ·refine ag G14 ?_
   refine ai (hJ _ _ ⟨_,_,_,⟨rfl,rfl⟩,bS hbel [0,1] ar⟩)
  refine ag G14 ?_
  refine ai (hJ _ _ ⟨_,_,_,⟨rfl,rfl⟩,bS hbel [0,1] ar⟩)
 rintro F2 H2 ⟨rfl,rfl⟩
 refine fnT ?_
 exact eR G14 hQ hbel (.tup [.agg [iV x0,iV y0,iV x1,iV y1,iV f,iV (c/2)],.agg [iV x0,iV y0,iV x1,iV y1,iV ((f+(c/2))%256),iV (c-(c/2))],.bool true]) results76 ⟨by (rw[hfinV,hfinX,hfinY];rfl),rfl⟩
theorem split_t (H:ac)(b:T6)(hb:bl b=true)(h:cg b=true):zC 76 [.agg [iV b.1,iV b.2.1,iV b.2.2.1,iV b.2.2.2.1,iV b.2.2.2.2.1,iV b.2.2.2.2.2]] H (.tup [.agg [iV (bR b).1,iV (bR b).2.1,iV (bR b).2.2.1,iV (bR b).2.2.2.1,iV (bR b).2.2.2.2.1,iV (bR b).2.2.2.2.2],.agg [iV (bT b).1,iV (bT b).2.1,iV (bT b).2.2.1,iV (bT b).2.2.2.1,iV (bT b).2.2.2.2.1,iV (bT b).2.2.2.2.2],.bool true]) H:=by
 have q:=split_c H b.1 b.2.1 b.2.2.1 b.2.2.2.1 b.2.2.2.2.1 b.2.2.2.2.2 hb
 have e:cg (b.1,b.2.1,b.2.2.1,b.2.2.2.1,b.2.2.2.2.1,b.2.2.2.2.2)=true:=h
 simp only[e,dY] at q;exact q
theorem split_f (H:ac)(b:T6)(hb:bl b=true)(h:cg b=false):zC 76 [.agg [iV b.1,iV b.2.1,iV b.2.2.1,iV b.2.2.2.1,iV b.2.2.2.2.1,iV b.2.2.2.2.2]] H (.tup [.agg [iV 0,iV 0,iV 0,iV 0,iV 0,iV 0],.agg [iV 0,iV 0,iV 0,iV 0,iV 0,iV 0],.bool false]) H:=by
 have q:=split_c H b.1 b.2.1 b.2.2.1 b.2.2.2.1 b.2.2.2.2.1 b.2.2.2.2.2 hb
 have e:cg (b.1,b.2.1,b.2.2.1,b.2.2.2.1,b.2.2.2.2.1,b.2.2.2.2.2)=false:=h
 simp only[e,mkV_f] at q;exact q
theorem cmp1_c (H:ac)(x0 y0 x1 y1 f c:Int):zC 77 [.agg [iV x0,iV y0,iV x1,iV y1,iV f,iV c]] H (.bool (!(bxB x0 y0 x1 y1 f c))) H:=by
 refine AcT true func77 ?_;intro hbel Q hQ
 refine aC ?_
 refine cv (fy _ _ _ _ _ f c) ?_
 refine aC ?_
 exact eP hQ hbel (.bool (!(bxB x0 y0 x1 y1 f c))) results77 ⟨rfl,rfl⟩
def kr (n:Int):Bool:=decide (n < -2097152)||decide (2097152<n)
def mvO (x0 y0 x1 y1 a b c d:Int):Bool:=!([x0+a,x1+b,y0+c,y1+d].any gJ)
def mvE (x0 y0 x1 y1 a b c d:Int):Int:=if mvO x0 y0 x1 y1 a b c d=true then 0 else 2
theorem nI {n:Int}(h : -64<=n/\n<=64):kr n=false:=by unfold kr;rw[decide_eq_false (by omega),decide_eq_false (by omega)];rfl
theorem off2_4 {a b c d:Int}(h1 : -64<=a/\a<=64)(h2 : -64<=b/\b<=64)(h3 : -64<=c/\c<=64)(h4 : -64<=d/\d<=64):[a,b,c,d].any kr=false:=by
 simp only[List.any_cons,List.any_nil,nI h1,nI h2,nI h3,nI h4];rfl
theorem drch_c (H:ac)(t f tu le sl ra h:Int)(hC:bL t f=true)(hB:bO tu le sl ra=true)(hh:0<=h/\h<=255):zC 150 [.agg [iV t,iV f],.agg [iV tu,iV le,iV sl,iV ra],iV h] H (.tup [.agg [iV ((rqR f le sl h).1),iV ((rqR f le sl h).2.1),iV ((rqR f le sl h).2.2.1),iV ((rqR f le sl h).2.2.2)],iV 0]) H:=by
 have hCi:=hC
 simp only[bL,Bool.and_eq_true,bm] at hCi
 have hBi:=hB
 simp only[bO,Bool.and_eq_true,bm] at hBi
 have hbt:btw h 0 255=true:=bm.2 hh
 have m1:0<=mxI (f-le) 0/\mxI (f-le) 0<=48:=by unfold mxI;split<;>omega
 have m2:0<=mxI (f+le) 0/\mxI (f+le) 0<=48:=by unfold mxI;split<;>omega
 have w1:=jK h m1.1
 have w2:=jK h m2.1
 have n1:=fG (a:=cK h (mxI (f-le) 0)) (b:=cK h (mxI (f+le) 0))
 have n2:=fG (a:=cL h (mxI (f-le) 0)) (b:=cL h (mxI (f+le) 0))
 have n3:=fH (a:=cK h (mxI (f-le) 0)) (b:=cK h (mxI (f+le) 0))
 have n4:=fH (a:=cL h (mxI (f-le) 0)) (b:=cL h (mxI (f+le) 0))
 have e1:(if (cK h (mxI (f+le) 0))<(cK h (mxI (f-le) 0)) then (cK h (mxI (f+le) 0)) else (cK h (mxI (f-le) 0)))=mnI (cK h (mxI (f-le) 0)) (cK h (mxI (f+le) 0)):=rfl
 have e2:(if (cL h (mxI (f+le) 0))<(cL h (mxI (f-le) 0)) then (cL h (mxI (f+le) 0)) else (cL h (mxI (f-le) 0)))=mnI (cL h (mxI (f-le) 0)) (cL h (mxI (f+le) 0)):=rfl
 have e3:(if (cK h (mxI (f-le) 0))<(cK h (mxI (f+le) 0)) then (cK h (mxI (f+le) 0)) else (cK h (mxI (f-le) 0)))=mxI (cK h (mxI (f-le) 0)) (cK h (mxI (f+le) 0)):=rfl
 have e4:(if (cL h (mxI (f-le) 0))<(cL h (mxI (f+le) 0)) then (cL h (mxI (f+le) 0)) else (cL h (mxI (f-le) 0)))=mxI (cL h (mxI (f-le) 0)) (cL h (mxI (f+le) 0)):=rfl
 (refine aR func150 _ rfl (Nat.le_of_ble_eq_true (by kernel_rfl)) rfl ?_;intro hbel Q hQ hQ' c hc;unfold Tryz.f150 at hc;simp only[Option.some.injEq] at hc;subst hc;clear hQ')
 refine zQT hQ fun Q1 hn1 hQ1 he1=>?_
 have G1:=jn @hC (jn @hB (jn @hbt (jn @e1 (jn @e2 (jn @e3 @e4)))))
 refine aa G1 ?_
 refine hn1 _ _ (zQT hQ fun Q2 hn2 hQ2 he2=>?_)
 refine aa G1 ?_
 refine cvr G1 (g7 _ t f) ?_
 refine cvr G1 (jL _ _ _ _ _) ?_
 refine hn2 _ _ (zQT hQ fun Q3 hn3 hQ3 he3=>?_)
 refine aa G1 ?_
 refine cvr G1 (eL _ h 0 _) ?_
 refine hn3 _ _ (zQT hQ fun Q4 hn4 hQ4 he4=>?_)
 refine rcs G1 (fun h1 h1d _=>?_) (fun h1 h1d _=>?_)
 ·have hfinZ:rqR f le sl h=(0,0,0,0):=if_pos h1d
  have G2:=jn h1 (jn h1d (jn @aK (jn @aJ G1)))
  exact eR G2 hQ4 hbel (.tup [.agg [iV 0,iV 0,iV 0,iV 0],iV 0]) results150 ⟨by rw[hfinZ],rfl⟩
 have hfinZ:rqR f le sl h=(mnI (rqA f le h) (rqB f le h)-sl,mnI (rqC f le h) (rqD f le h)-sl,mxI (rqA f le h) (rqB f le h)+sl,mxI (rqC f le h) (rqD f le h)+sl):=if_neg h1d
 have G3:=jn h1 (jn h1d (jn @aK (jn @aJ G1)))
 refine aa G3 ?_
 refine hn4 _ _ ?_
 refine aL true try_mixed [[0,1,2,3,4,5,6,7,8,9,10,11,12,13,14,15,16,17],[0,1,2,3,4,5,6,7,8,9,10,11,12,13,15,14,16,17],[0,1,2,3,4,5,6,7,8,9,10,11,12,15,13,14,16,17],[0,1,2,3,4,5,7,8,9,10,11,12,15,6,13,14,16,17],[0,1,2,3,4,5,6,7,8,9,10,11,12,14,13,15,16,17],[0,1,2,3,4,5,6,7,8,9,10,11,12,14,15,13,16,17],[0,1,2,3,4,5,6,7,8,9,10,11,12,15,14,13,16,17],[0,1,2,3,4,5,7,8,9,10,11,12,15,6,14,13,16,17],[0,1,2,3,4,5,7,8,9,10,11,12,14,6,13,15,16,17],[0,1,2,3,4,5,7,8,9,10,11,12,14,6,15,13,16,17],[0,1,2,3,4,5,7,8,9,10,11,12,14,15,6,13,16,17],[0,1,2,3,4,5,7,8,9,10,11,12,15,14,6,13,16,17]] (by kernel_rfl) (fun F2 H2=>F2=[(4,.ptr (some (H.length,0))),(6,.ptr (some (H.length+1,0))),(7,iV 0),(8,.ptr (some (H.length+2,0))),(9,.ptr (some (H.length+3,0)))]/\H2=H++[.cells true 0 [iV tu,iV le,iV sl,iV ra],.cells true 0 [iV 0,iV 0,iV 0,iV 0],.cells true 0 [iV (cK h (mxI (f-le) 0)),iV (cL h (mxI (f-le) 0))],.cells true 0 [iV (cK h (mxI (f+le) 0)),iV (cL h (mxI (f+le) 0))]]) ?_ ?_
 ·refine af ?_ (af ?_ (af ?_ (af ?_ (af ?_ (af ?_ (af ?_ (af ?_ (af ?_ (af ?_ (af ?_ (af ?_ (aQ))))))))))))<;>intro J hJ
  ·refine ag G3 ?_
   refine cd (cz _ h _ (by omega)) ?_
   refine ag G3 ?_
   refine cd (cz _ h _ (by omega)) ?_
   refine ag G3 ?_
   refine ai (hJ _ _ ⟨_,_,_,⟨rfl,rfl⟩,bS hbel [1,2,3,4] ar⟩)
  ·refine ag G3 ?_
   refine cd (cz _ h _ (by omega)) ?_
   refine ag G3 ?_
   refine cd (cz _ h _ (by omega)) ?_
   refine ag G3 ?_
   refine ai (hJ _ _ ⟨_,_,_,⟨rfl,rfl⟩,bS hbel [1,2,4,3] ar⟩)
  ·refine ag G3 ?_
   refine cd (cz _ h _ (by omega)) ?_
   refine ag G3 ?_
   refine cd (cz _ h _ (by omega)) ?_
   refine ag G3 ?_
   refine ai (hJ _ _ ⟨_,_,_,⟨rfl,rfl⟩,bS hbel [1,2,4,3] ar⟩)
  ·refine ag G3 ?_
   refine cd (cz _ h _ (by omega)) ?_
   refine ag G3 ?_
   refine cd (cz _ h _ (by omega)) ?_
   refine ag G3 ?_
   refine ai (hJ _ _ ⟨_,_,_,⟨rfl,rfl⟩,bS hbel [1,2,4,3] ar⟩)
  ·refine ag G3 ?_
   refine cd (cz _ h _ (by omega)) ?_
   refine ag G3 ?_
   refine cd (cz _ h _ (by omega)) ?_
   refine ag G3 ?_
   refine ai (hJ _ _ ⟨_,_,_,⟨rfl,rfl⟩,bS hbel [1,2,3,4] ar⟩)
  ·refine ag G3 ?_
   refine cd (cz _ h _ (by omega)) ?_
   refine ag G3 ?_
   refine cd (cz _ h _ (by omega)) ?_
   refine ag G3 ?_
   refine ai (hJ _ _ ⟨_,_,_,⟨rfl,rfl⟩,bS hbel [1,2,3,4] ar⟩)
  ·refine ag G3 ?_
   refine cd (cz _ h _ (by omega)) ?_
   refine ag G3 ?_
   refine cd (cz _ h _ (by omega)) ?_
   refine ag G3 ?_
   refine ai (hJ _ _ ⟨_,_,_,⟨rfl,rfl⟩,bS hbel [1,2,4,3] ar⟩)
  ·refine ag G3 ?_
   refine cd (cz _ h _ (by omega)) ?_
   refine ag G3 ?_
   refine cd (cz _ h _ (by omega)) ?_
   refine ag G3 ?_
   refine ai (hJ _ _ ⟨_,_,_,⟨rfl,rfl⟩,bS hbel [1,2,4,3] ar⟩)
  ·refine ag G3 ?_
   refine cd (cz _ h _ (by omega)) ?_
   refine ag G3 ?_
   refine cd (cz _ h _ (by omega)) ?_
   refine ag G3 ?_
   refine ai (hJ _ _ ⟨_,_,_,⟨rfl,rfl⟩,bS hbel [1,2,3,4] ar⟩)
  ·refine ag G3 ?_
   refine cd (cz _ h _ (by omega)) ?_
   refine ag G3 ?_
   refine cd (cz _ h _ (by omega)) ?_
   refine ag G3 ?_
   refine ai (hJ _ _ ⟨_,_,_,⟨rfl,rfl⟩,bS hbel [1,2,3,4] ar⟩)
  ·refine ag G3 ?_
   refine cd (cz _ h _ (by omega)) ?_
   refine ag G3 ?_
   refine cd (cz _ h _ (by omega)) ?_
   refine ag G3 ?_
   refine ai (hJ _ _ ⟨_,_,_,⟨rfl,rfl⟩,bS hbel [1,2,3,4] ar⟩)
  refine ag G3 ?_
  refine cd (cz _ h _ (by omega)) ?_
  refine ag G3 ?_
  refine cd (cz _ h _ (by omega)) ?_
  refine ag G3 ?_
  refine ai (hJ _ _ ⟨_,_,_,⟨rfl,rfl⟩,bS hbel [1,2,4,3] ar⟩)
 rintro F2 H2 ⟨rfl,rfl⟩
 refine fnT ?_
 exact eR G3 hQ hbel (.tup [.agg [iV ((mnI (cK h (mxI (f-le) 0)) (cK h (mxI (f+le) 0)))-sl),iV ((mnI (cL h (mxI (f-le) 0)) (cL h (mxI (f+le) 0)))-sl),iV ((mxI (cK h (mxI (f-le) 0)) (cK h (mxI (f+le) 0)))+sl),iV ((mxI (cL h (mxI (f-le) 0)) (cL h (mxI (f+le) 0)))+sl)],iV 0]) results150 ⟨by (rw[hfinZ];rfl),rfl⟩
theorem bmv1_c (H:ac)(n:Int):zC 188 [iV n] H (.bool (kr n)) H:=by
 refine AcT true func188 ?_;intro hbel Q hQ
 refine aC ?_
 refine bg (fun h1=>?_) (fun h1=>?_)
 ·have h1d:=bsT h1
  have G1:=jn h1 @h1d
  exact eS G1 hQ hbel (.bool (decide (2097152<n))) results188 ⟨by simp[kr,h1d],rfl⟩
 have h1d:=bsT h1
 have G2:=jn h1 @h1d
 exact eS G2 hQ hbel (.bool true) results188 ⟨by simp[kr,h1d],rfl⟩
theorem bxmv_c (H:ac)(x0 y0 x1 y1 f c p q r s:Int)(hb:bxB x0 y0 x1 y1 f c=true)(hd1 : -64<=p/\p<=q/\q<=64)(hd2 : -64<=r/\r<=s/\s<=64):zC 149 [.agg [iV x0,iV y0,iV x1,iV y1,iV f,iV c],iV p,iV q,iV r,iV s] H (.tup [.agg [iV (mkV (mvO x0 y0 x1 y1 p q r s) (x0+p)),iV (mkV (mvO x0 y0 x1 y1 p q r s) (y0+r)),iV (mkV (mvO x0 y0 x1 y1 p q r s) (x1+q)),iV (mkV (mvO x0 y0 x1 y1 p q r s) (y1+s)),iV (mkV (mvO x0 y0 x1 y1 p q r s) f),iV (mkV (mvO x0 y0 x1 y1 p q r s) c)],iV (mvE x0 y0 x1 y1 p q r s)]) H:=by
 have hbb:=bB.1 hb
 have ho2:=off2_4 (a:=p) (b:=q) (c:=r) (d:=s) (by omega) (by omega) (by omega) (by omega)
 refine AcT true func149 ?_;intro hbel Q hQ
 have G3:=jn @hb @ho2
 refine aa G3 ?_
 refine cv (fy _ _ _ _ _ f c) ?_
 refine rgs G3 (fun h1 h1d G4=>?_) (fun h1 h1d _=>?_)
 ·refine rcs G4 (fun h2 h2d _=>?_) (fun h2 h2d G5=>?_)
  ·omega
  refine aa G5 ?_
  refine cvr G5 (has_int _ _ [p,q,r,s] ⟨_,_,_,by rfl,by (rw[ah];rfl)⟩ (by simp) _ [] (by kernel_rfl) rfl kr (fun j hj=>bmv1_c _ _)) ?_
  refine cv (small_c _ _ [x0+p,x1+q,y0+r,y1+s] ⟨_,_,_,by rfl,by (rw[ah];rfl)⟩ (by simp)) ?_
  refine rcs G5 (fun h3 h3d G6=>?_) (fun h3 h3d G7=>?_)
  ·have hfinO:mvO x0 y0 x1 y1 p q r s=false:=by unfold mvO;rw[h3d];rfl
   exact eR G6 hQ hbel (.tup [.agg [iV 0,iV 0,iV 0,iV 0,iV 0,iV 0],iV 2]) results149 ⟨by unfold mvE;rw[hfinO];rfl,rfl⟩
  have hfinO:mvO x0 y0 x1 y1 p q r s=true:=by unfold mvO;rw[h3d];rfl
  exact eR G7 hQ hbel (.tup [.agg [iV (x0+p),iV (y0+r),iV (x1+q),iV (y1+s),iV f,iV c],iV 0]) results149 ⟨by unfold mvE;rw[hfinO];rfl,rfl⟩
 omega
theorem parc_c (H:ac)(x0 y0 x1 y1 f c:Int):zC 147 [.agg [iV x0,iV y0,iV x1,iV y1,iV f,iV c]] H (.agg [iV f,iV c]) H:=by
 refine AcT true func147 ?_;intro hbel Q hQ
 refine aC ?_
 exact eP hQ hbel (.agg [iV f,iV c]) results147 ⟨rfl,rfl⟩
theorem ptrn_c (H:ac)(x0 y0 x1 y1 f c t tu:Int)(ha:bZ f c=true)(hu:0<=tu/\tu<=256):zC 106 [.agg [iV x0,iV y0,iV x1,iV y1,iV f,iV c],iV t,iV tu] H (.agg [iV (grF (shF f c t) (ce c) tu),iV (grC (ce c) tu)]) H:=by
 have ka:=bh.1 ha
 have hs2:bZ (shF f c t) (ce c)=true:=fV (by omega)
 refine AcT true func106 ?_;intro hbel Q hQ
 refine aC ?_
 refine cv (parc_c _ _ _ _ _ f c) ?_
 refine aC ?_
 refine cv (hshift_c _ f c t (by assumption)) ?_
 refine aC ?_
 refine cv (hgrow_c _ _ _ _ (by assumption) (by omega)) ?_
 refine aC ?_
 exact eP hQ hbel (.agg [iV (grF (shF f c t) (ce c) tu),iV (grC (ce c) tu)]) results106 ⟨rfl,rfl⟩
theorem preach_c (H:ac)(t g tu le sl ra bf bc:Int)(hC:bL t g=true)(hB:bO tu le sl ra=true)(hA:bZ bf bc=true):zC 108 [.agg [iV t,iV g],.agg [iV tu,iV le,iV sl,iV ra],.agg [iV bf,iV bc]] H (.agg [iV ((rcS g le sl (aw bf bc.toNat) (aw bf bc.toNat).length).1),iV ((rcS g le sl (aw bf bc.toNat) (aw bf bc.toNat).length).2.1),iV ((rcS g le sl (aw bf bc.toNat) (aw bf bc.toNat).length).2.2.1),iV ((rcS g le sl (aw bf bc.toNat) (aw bf bc.toNat).length).2.2.2)]) H:=by
 have hCi:=hC
 simp only[bL,Bool.and_eq_true,bm] at hCi
 have hBi:=hB
 simp only[bO,Bool.and_eq_true,bm] at hBi
 have ka:=bh.1 hA
 have hln:=dm bf bc.toNat
 refine AcT true func108 ?_;intro hbel Q hQ
 refine aC ?_
 refine cv (ol _ _ _ hA) ?_
 refine aC ?_
 refine glp (fun k F Hx=>∃i:Nat,i+k=(aw bf bc.toNat).length/\F=[(3,.ptr (some (H.length,0))),(4,.ptr (some (H.length+1,0))),(6,.ptr (some (H.length+2,0))),(7,.ptr (some (H.length+3,0))),(13,.sl (some (H.length+4,0)) ((aw bf bc.toNat).length) none),(14,iV (((aw bf bc.toNat).length:Nat):Int)),(15,iV (i:Int))]/\Hx=H++[.cells true 0 [iV t,iV g],.cells true 0 [iV tu,iV le,iV sl,iV ra],.cells true 0 [iV 0,iV 0,iV 0,iV 0],.cells true 0 [iV ((rcS g le sl (aw bf bc.toNat) i).1),iV ((rcS g le sl (aw bf bc.toNat) i).2.1),iV ((rcS g le sl (aw bf bc.toNat) i).2.2.1),iV ((rcS g le sl (aw bf bc.toNat) i).2.2.2)],.cells true 1 (ints .i64 (aw bf bc.toNat))]) ((aw bf bc.toNat).length) ?_ ?_
 ·refine⟨_,_,_,⟨0,by omega,rfl,rfl⟩,bS hbel [0,1,3,4,5] (al @rcS.eq_1)⟩
 rintro k0 F Hx ⟨i,hm0,rfl,rfl⟩ J0 hJ0
 have G1:=jn @bU @cr
 refine rcs G1 (fun h1 h1d _=>?_) (fun h1 h1d G5=>?_)
 ·have hiL:i<(aw bf bc.toNat).length:=by omega
  have hgi:=oh (f:=bf) (n:=bc.toNat) _ (jE hiL)
  have q2:=c9 (k:=.i64) (xs:=aw bf bc.toNat) (j:=i) (by omega)
  have G2:=jn h1 (jn h1d (jn q2 G1))
  refine aa G2 ?_
  refine cv (drch_c _ t g _ _ _ _ _ (by assumption) (by assumption) (by omega)) ?_
  refine rcs G2 (fun h3 h3d _=>?_) (fun h3 h3d _=>?_)
  ·have h3n:=bnT h3
   have hi0:i=0:=by have q:=h3d;simpa using q
   have hs0:(rcS g le sl (aw bf bc.toNat) (i+1)).1=mnI ((rqR g le sl (gi (aw bf bc.toNat) i)).1) ((rqR g le sl (gi (aw bf bc.toNat) i)).1):=by rw[rcS];simp only;rw[if_pos hi0]
   have hs1:(rcS g le sl (aw bf bc.toNat) (i+1)).2.1=mnI ((rqR g le sl (gi (aw bf bc.toNat) i)).2.1) ((rqR g le sl (gi (aw bf bc.toNat) i)).2.1):=by rw[rcS];simp only;rw[if_pos hi0]
   have hs2:(rcS g le sl (aw bf bc.toNat) (i+1)).2.2.1=mxI ((rqR g le sl (gi (aw bf bc.toNat) i)).2.2.1) ((rqR g le sl (gi (aw bf bc.toNat) i)).2.2.1):=by rw[rcS];simp only;rw[if_pos hi0]
   have hs3:(rcS g le sl (aw bf bc.toNat) (i+1)).2.2.2=mxI ((rqR g le sl (gi (aw bf bc.toNat) i)).2.2.2) ((rqR g le sl (gi (aw bf bc.toNat) i)).2.2.2):=by rw[rcS];simp only;rw[if_pos hi0]
   have G3:=jn h3 (jn h3n (jn @aK (jn @aJ G2)))
   refine aa G3 ?_
   refine hJ0 _ _ ⟨k0-1,by omega,_,_,_,⟨i+1,by omega,rfl,rfl⟩,bS hbel [0,1,2,3,4] (al (jn @hs0 (jn @hs1 (jn @hs2 @hs3))))⟩
  have h3n:=bnT h3
  have hi0:¬i=0:=by have q:=h3d;simpa using q
  have hs0:(rcS g le sl (aw bf bc.toNat) (i+1)).1=mnI ((rcS g le sl (aw bf bc.toNat) i).1) ((rqR g le sl (gi (aw bf bc.toNat) i)).1):=by rw[rcS];simp only;rw[if_neg hi0]
  have hs1:(rcS g le sl (aw bf bc.toNat) (i+1)).2.1=mnI ((rcS g le sl (aw bf bc.toNat) i).2.1) ((rqR g le sl (gi (aw bf bc.toNat) i)).2.1):=by rw[rcS];simp only;rw[if_neg hi0]
  have hs2:(rcS g le sl (aw bf bc.toNat) (i+1)).2.2.1=mxI ((rcS g le sl (aw bf bc.toNat) i).2.2.1) ((rqR g le sl (gi (aw bf bc.toNat) i)).2.2.1):=by rw[rcS];simp only;rw[if_neg hi0]
  have hs3:(rcS g le sl (aw bf bc.toNat) (i+1)).2.2.2=mxI ((rcS g le sl (aw bf bc.toNat) i).2.2.2) ((rqR g le sl (gi (aw bf bc.toNat) i)).2.2.2):=by rw[rcS];simp only;rw[if_neg hi0]
  have G4:=jn h3 (jn h3n (jn @aK (jn @aJ G2)))
  refine aa G4 ?_
  refine hJ0 _ _ ⟨k0-1,by omega,_,_,_,⟨i+1,by omega,rfl,rfl⟩,bS hbel [0,1,2,3,4] (al (jn @hs0 (jn @hs1 (jn @hs2 @hs3))))⟩
 obtain rfl:i=(aw bf bc.toNat).length:=by omega
 exact eR G5 hQ hbel (.agg [iV ((rcS g le sl (aw bf bc.toNat) (aw bf bc.toNat).length).1),iV ((rcS g le sl (aw bf bc.toNat) (aw bf bc.toNat).length).2.1),iV ((rcS g le sl (aw bf bc.toNat) (aw bf bc.toNat).length).2.2.1),iV ((rcS g le sl (aw bf bc.toNat) (aw bf bc.toNat).length).2.2.2)]) results108 ⟨rfl,rfl⟩
theorem pval_c (H:ac)(x0 y0 x1 y1 f c t g tu le sl ra:Int):zC 105 [.agg [iV x0,iV y0,iV x1,iV y1,iV f,iV c],.agg [iV t,iV g],.agg [iV tu,iV le,iV sl,iV ra]] H (.bool (bxB x0 y0 x1 y1 f c&&bL t g&&bO tu le sl ra)) H:=by
 refine AcT true func105 ?_;intro hbel Q hQ
 refine aC ?_
 refine cv (fy _ _ _ _ _ f c) ?_
 refine aC ?_
 refine bg (fun h1=>?_) (fun h1=>?_)
 ·have h1d:=bsT h1
  have G1:=jn h1 @h1d
  refine aa G1 ?_
  refine cv (g7 _ t g) ?_
  refine rgs G1 (fun h2 h2d G2=>?_) (fun h2 h2d G3=>?_)
  ·refine aa G2 ?_
   refine cvr G2 (jL _ _ _ _ _) ?_
   exact eP hQ hbel (.bool (bO tu le sl ra)) results105 ⟨by simp[h1d,h2d],rfl⟩
  exact eR G3 hQ hbel (.bool false) results105 ⟨by simp[h1d,h2d],rfl⟩
 have h1d:=bsT h1
 have G4:=jn h1 @h1d
 exact eR G4 hQ hbel (.bool false) results105 ⟨by simp[h1d],rfl⟩
theorem pmvd_c (H:ac)(x0 y0 x1 y1 f c nf nc p r q s:Int)(hb:bxB x0 y0 x1 y1 f c=true)(ha:bZ nf nc=true)(hd1 : -64<=p/\p<=q/\q<=64)(hd2 : -64<=r/\r<=s/\s<=64):zC 107 [.agg [iV x0,iV y0,iV x1,iV y1,iV f,iV c],.agg [iV nf,iV nc],.agg [iV p,iV r,iV q,iV s]] H (.tup [.agg [iV (mkV (mvO x0 y0 x1 y1 p q r s) (x0+p)),iV (mkV (mvO x0 y0 x1 y1 p q r s) (y0+r)),iV (mkV (mvO x0 y0 x1 y1 p q r s) (x1+q)),iV (mkV (mvO x0 y0 x1 y1 p q r s) (y1+s)),iV (mkV (mvO x0 y0 x1 y1 p q r s) nf),iV (mkV (mvO x0 y0 x1 y1 p q r s) nc)],iV (mvE x0 y0 x1 y1 p q r s)]) H:=by
 have hbb:=bB.1 hb
 have hb2:bxB x0 y0 x1 y1 nf nc=true:=bB.2 ⟨hbb.1,hbb.2.1,ha⟩
 (refine aR func107 _ rfl (Nat.le_of_ble_eq_true (by kernel_rfl)) rfl ?_;intro hbel Q hQ hQ' c hc;unfold Tryz.f107 at hc;simp only[Option.some.injEq] at hc;subst hc;clear hQ')
 refine zQT hQ fun Q1 hn1 hQ1 he1=>?_
 refine aC ?_
 refine hn1 _ _ ?_
 refine aL true try_mixed [[0,1,2,3,4,5,6,7],[0,1,2,4,5,3,6,7]] (by kernel_rfl) (fun F2 H2=>F2=[(3,.ptr (some (H.length,0))),(5,.ptr (some (H.length+1,0))),(6,.ptr (some (H.length+2,0))),(7,iV 0)]/\H2=H++[.cells true 0 [iV x0,iV y0,iV x1,iV y1,iV nf,iV nc],.cells true 0 [iV p,iV r,iV q,iV s],.cells true 0 [iV 0,iV 0,iV 0,iV 0,iV 0,iV 0]]) ?_ ?_
 ·refine af ?_ (af ?_ (aQ))<;>intro J hJ
  ·refine runD ?_
   refine ai (hJ _ _ ⟨_,_,_,⟨rfl,rfl⟩,bS hbel [0,2,3] ar⟩)
  refine runD ?_
  refine ai (hJ _ _ ⟨_,_,_,⟨rfl,rfl⟩,bS hbel [0,2,3] ar⟩)
 rintro F2 H2 ⟨rfl,rfl⟩
 refine fnT ?_
 refine aC ?_
 refine cv (bxmv_c _ _ _ _ _ _ _ p q r s (by assumption) (by omega) (by omega)) ?_
 refine aC ?_
 exact eP hQ hbel (.tup [.agg [iV (mkV (mvO x0 y0 x1 y1 p q r s) (x0+p)),iV (mkV (mvO x0 y0 x1 y1 p q r s) (y0+r)),iV (mkV (mvO x0 y0 x1 y1 p q r s) (x1+q)),iV (mkV (mvO x0 y0 x1 y1 p q r s) (y1+s)),iV (mkV (mvO x0 y0 x1 y1 p q r s) nf),iV (mkV (mvO x0 y0 x1 y1 p q r s) nc)],iV (mvE x0 y0 x1 y1 p q r s)]) results107 ⟨rfl,rfl⟩
theorem preachq_c (H:ac)(t g tu le sl ra f c:Int)(hC:bL t g=true)(hB:bO tu le sl ra=true)(ha:bZ f c=true)(hu:0<=tu/\tu<=8){x0 y0 x1 y1:Int}:zC 108 [.agg [iV t,iV g],.agg [iV tu,iV le,iV sl,iV ra],.agg [iV (grF (shF f c t) (ce c) tu),iV (grC (ce c) tu)]] H (.agg [iV (imR (x0,y0,x1,y1,f,c) t g tu le sl).1,iV (imR (x0,y0,x1,y1,f,c) t g tu le sl).2.1,iV (imR (x0,y0,x1,y1,f,c) t g tu le sl).2.2.1,iV (imR (x0,y0,x1,y1,f,c) t g tu le sl).2.2.2]) H :=
 preach_c H t g tu le sl ra _ _ hC hB (by have k:=bh.1 ha;refine fV ?_;unfold ce;split<;>omega)
theorem image_c (H:ac)(x0 y0 x1 y1 f c t g tu le sl ra:Int)(hb:bxB x0 y0 x1 y1 f c=true)(hC:bL t g=true)(hB:bO tu le sl ra=true):zC 68 [.agg [iV x0,iV y0,iV x1,iV y1,iV f,iV c],.agg [iV t,iV g],.agg [iV tu,iV le,iV sl,iV ra]] H (.tup [.agg [iV (mkV (mvO x0 y0 x1 y1 (imR (x0,y0,x1,y1,f,c) t g tu le sl).1 (imR (x0,y0,x1,y1,f,c) t g tu le sl).2.2.1 (imR (x0,y0,x1,y1,f,c) t g tu le sl).2.1 (imR (x0,y0,x1,y1,f,c) t g tu le sl).2.2.2) (x0+(imR (x0,y0,x1,y1,f,c) t g tu le sl).1)),iV (mkV (mvO x0 y0 x1 y1 (imR (x0,y0,x1,y1,f,c) t g tu le sl).1 (imR (x0,y0,x1,y1,f,c) t g tu le sl).2.2.1 (imR (x0,y0,x1,y1,f,c) t g tu le sl).2.1 (imR (x0,y0,x1,y1,f,c) t g tu le sl).2.2.2) (y0+(imR (x0,y0,x1,y1,f,c) t g tu le sl).2.1)),iV (mkV (mvO x0 y0 x1 y1 (imR (x0,y0,x1,y1,f,c) t g tu le sl).1 (imR (x0,y0,x1,y1,f,c) t g tu le sl).2.2.1 (imR (x0,y0,x1,y1,f,c) t g tu le sl).2.1 (imR (x0,y0,x1,y1,f,c) t g tu le sl).2.2.2) (x1+(imR (x0,y0,x1,y1,f,c) t g tu le sl).2.2.1)),iV (mkV (mvO x0 y0 x1 y1 (imR (x0,y0,x1,y1,f,c) t g tu le sl).1 (imR (x0,y0,x1,y1,f,c) t g tu le sl).2.2.1 (imR (x0,y0,x1,y1,f,c) t g tu le sl).2.1 (imR (x0,y0,x1,y1,f,c) t g tu le sl).2.2.2) (y1+(imR (x0,y0,x1,y1,f,c) t g tu le sl).2.2.2)),iV (mkV (mvO x0 y0 x1 y1 (imR (x0,y0,x1,y1,f,c) t g tu le sl).1 (imR (x0,y0,x1,y1,f,c) t g tu le sl).2.2.1 (imR (x0,y0,x1,y1,f,c) t g tu le sl).2.1 (imR (x0,y0,x1,y1,f,c) t g tu le sl).2.2.2) (grF (shF f c t) (ce c) tu)),iV (mkV (mvO x0 y0 x1 y1 (imR (x0,y0,x1,y1,f,c) t g tu le sl).1 (imR (x0,y0,x1,y1,f,c) t g tu le sl).2.2.1 (imR (x0,y0,x1,y1,f,c) t g tu le sl).2.1 (imR (x0,y0,x1,y1,f,c) t g tu le sl).2.2.2) (grC (ce c) tu))],iV (mvE x0 y0 x1 y1 (imR (x0,y0,x1,y1,f,c) t g tu le sl).1 (imR (x0,y0,x1,y1,f,c) t g tu le sl).2.2.1 (imR (x0,y0,x1,y1,f,c) t g tu le sl).2.1 (imR (x0,y0,x1,y1,f,c) t g tu le sl).2.2.2)]) H:=by
 have hCi:=hC
 simp only[bL,Bool.and_eq_true,bm] at hCi
 have hBi:=hB
 simp only[bO,Bool.and_eq_true,bm] at hBi
 have hbb:=bB.1 hb
 have hab:=hbb.2.2
 have ka:=bh.1 hab
 have hs2:bZ (shF f c t) (ce c)=true:=fV (by omega)
 have htu:0<=tu/\tu<=8:=by omega
 have hg2:bZ (grF (shF f c t) (ce c) tu) (grC (ce c) tu)=true:=fV (by unfold ce;split<;>omega)
 have hbd:(-64<=(imR (x0,y0,x1,y1,f,c) t g tu le sl).1/\(imR (x0,y0,x1,y1,f,c) t g tu le sl).1<=(imR (x0,y0,x1,y1,f,c) t g tu le sl).2.2.1/\(imR (x0,y0,x1,y1,f,c) t g tu le sl).2.2.1<=64) /\ -64<=(imR (x0,y0,x1,y1,f,c) t g tu le sl).2.1/\(imR (x0,y0,x1,y1,f,c) t g tu le sl).2.1<=(imR (x0,y0,x1,y1,f,c) t g tu le sl).2.2.2/\(imR (x0,y0,x1,y1,f,c) t g tu le sl).2.2.2<=64:=nC (by omega) (by omega) (by omega) _
 (refine aR func68 _ rfl (Nat.le_of_ble_eq_true (by kernel_rfl)) rfl ?_;intro hbel Q hQ hQ' c hc;unfold Tryz.f68 at hc;simp only[Option.some.injEq] at hc;subst hc;clear hQ')
 refine zQT hQ fun Q2 hn2 hQ2 he2=>?_
 have G5:=jn @hb (jn @hC @hB)
 refine aa G5 ?_
 refine hn2 _ _ (zQT hQ fun Q3 hn3 hQ3 he3=>?_)
 refine aa G5 ?_
 refine cvr G5 (pval_c _ _ _ _ _ f c t g _ _ _ _) ?_
 refine hn3 _ _ (zQT hQ fun Q4 hn4 hQ4 he4=>?_)
 refine aa G5 ?_
 refine cvr G5 (ptrn_c _ _ _ _ _ f c t _ (by assumption) (by omega)) ?_
 refine hn4 _ _ ?_
 refine aL true try_mixed [[0,1,2,3,4,5,6,7,8,9,10]] (by kernel_rfl) (fun F2 H2=>F2=[(6,.ptr (some (H.length,0))),(7,iV (mvE x0 y0 x1 y1 ((imR (x0,y0,x1,y1,f,c) t g tu le sl).1) ((imR (x0,y0,x1,y1,f,c) t g tu le sl).2.2.1) ((imR (x0,y0,x1,y1,f,c) t g tu le sl).2.1) ((imR (x0,y0,x1,y1,f,c) t g tu le sl).2.2.2)))]/\H2=H++[.cells true 0 [iV (mkV (mvO x0 y0 x1 y1 ((imR (x0,y0,x1,y1,f,c) t g tu le sl).1) ((imR (x0,y0,x1,y1,f,c) t g tu le sl).2.2.1) ((imR (x0,y0,x1,y1,f,c) t g tu le sl).2.1) ((imR (x0,y0,x1,y1,f,c) t g tu le sl).2.2.2)) (x0+((imR (x0,y0,x1,y1,f,c) t g tu le sl).1))),iV (mkV (mvO x0 y0 x1 y1 ((imR (x0,y0,x1,y1,f,c) t g tu le sl).1) ((imR (x0,y0,x1,y1,f,c) t g tu le sl).2.2.1) ((imR (x0,y0,x1,y1,f,c) t g tu le sl).2.1) ((imR (x0,y0,x1,y1,f,c) t g tu le sl).2.2.2)) (y0+((imR (x0,y0,x1,y1,f,c) t g tu le sl).2.1))),iV (mkV (mvO x0 y0 x1 y1 ((imR (x0,y0,x1,y1,f,c) t g tu le sl).1) ((imR (x0,y0,x1,y1,f,c) t g tu le sl).2.2.1) ((imR (x0,y0,x1,y1,f,c) t g tu le sl).2.1) ((imR (x0,y0,x1,y1,f,c) t g tu le sl).2.2.2)) (x1+((imR (x0,y0,x1,y1,f,c) t g tu le sl).2.2.1))),iV (mkV (mvO x0 y0 x1 y1 ((imR (x0,y0,x1,y1,f,c) t g tu le sl).1) ((imR (x0,y0,x1,y1,f,c) t g tu le sl).2.2.1) ((imR (x0,y0,x1,y1,f,c) t g tu le sl).2.1) ((imR (x0,y0,x1,y1,f,c) t g tu le sl).2.2.2)) (y1+((imR (x0,y0,x1,y1,f,c) t g tu le sl).2.2.2))),iV (mkV (mvO x0 y0 x1 y1 ((imR (x0,y0,x1,y1,f,c) t g tu le sl).1) ((imR (x0,y0,x1,y1,f,c) t g tu le sl).2.2.1) ((imR (x0,y0,x1,y1,f,c) t g tu le sl).2.1) ((imR (x0,y0,x1,y1,f,c) t g tu le sl).2.2.2)) (grF (shF f c t) (ce c) tu)),iV (mkV (mvO x0 y0 x1 y1 ((imR (x0,y0,x1,y1,f,c) t g tu le sl).1) ((imR (x0,y0,x1,y1,f,c) t g tu le sl).2.2.1) ((imR (x0,y0,x1,y1,f,c) t g tu le sl).2.1) ((imR (x0,y0,x1,y1,f,c) t g tu le sl).2.2.2)) (grC (ce c) tu))]]) ?_ ?_
 ·refine af ?_ (aQ)<;>intro J hJ
  refine ag G5 ?_
  refine cd (preachq_c (x0:=x0) (y0:=y0) (x1:=x1) (y1:=y1) _ t g tu le sl ra f c hC hB hab htu) ?_
  refine ag G5 ?_
  refine cd (pmvd_c _ _ _ _ _ f c _ _ _ _ _ _ (by assumption) (by assumption) (by omega) (by omega)) ?_
  refine ag G5 ?_
  refine ai (hJ _ _ ⟨_,_,_,⟨rfl,rfl⟩,bS hbel [3] ar⟩)
 rintro F2 H2 ⟨rfl,rfl⟩
 refine fnT ?_
 exact eR G5 hQ hbel (.tup [.agg [iV (mkV (mvO x0 y0 x1 y1 ((imR (x0,y0,x1,y1,f,c) t g tu le sl).1) ((imR (x0,y0,x1,y1,f,c) t g tu le sl).2.2.1) ((imR (x0,y0,x1,y1,f,c) t g tu le sl).2.1) ((imR (x0,y0,x1,y1,f,c) t g tu le sl).2.2.2)) (x0+((imR (x0,y0,x1,y1,f,c) t g tu le sl).1))),iV (mkV (mvO x0 y0 x1 y1 ((imR (x0,y0,x1,y1,f,c) t g tu le sl).1) ((imR (x0,y0,x1,y1,f,c) t g tu le sl).2.2.1) ((imR (x0,y0,x1,y1,f,c) t g tu le sl).2.1) ((imR (x0,y0,x1,y1,f,c) t g tu le sl).2.2.2)) (y0+((imR (x0,y0,x1,y1,f,c) t g tu le sl).2.1))),iV (mkV (mvO x0 y0 x1 y1 ((imR (x0,y0,x1,y1,f,c) t g tu le sl).1) ((imR (x0,y0,x1,y1,f,c) t g tu le sl).2.2.1) ((imR (x0,y0,x1,y1,f,c) t g tu le sl).2.1) ((imR (x0,y0,x1,y1,f,c) t g tu le sl).2.2.2)) (x1+((imR (x0,y0,x1,y1,f,c) t g tu le sl).2.2.1))),iV (mkV (mvO x0 y0 x1 y1 ((imR (x0,y0,x1,y1,f,c) t g tu le sl).1) ((imR (x0,y0,x1,y1,f,c) t g tu le sl).2.2.1) ((imR (x0,y0,x1,y1,f,c) t g tu le sl).2.1) ((imR (x0,y0,x1,y1,f,c) t g tu le sl).2.2.2)) (y1+((imR (x0,y0,x1,y1,f,c) t g tu le sl).2.2.2))),iV (mkV (mvO x0 y0 x1 y1 ((imR (x0,y0,x1,y1,f,c) t g tu le sl).1) ((imR (x0,y0,x1,y1,f,c) t g tu le sl).2.2.1) ((imR (x0,y0,x1,y1,f,c) t g tu le sl).2.1) ((imR (x0,y0,x1,y1,f,c) t g tu le sl).2.2.2)) (grF (shF f c t) (ce c) tu)),iV (mkV (mvO x0 y0 x1 y1 ((imR (x0,y0,x1,y1,f,c) t g tu le sl).1) ((imR (x0,y0,x1,y1,f,c) t g tu le sl).2.2.1) ((imR (x0,y0,x1,y1,f,c) t g tu le sl).2.1) ((imR (x0,y0,x1,y1,f,c) t g tu le sl).2.2.2)) (grC (ce c) tu))],iV (mvE x0 y0 x1 y1 ((imR (x0,y0,x1,y1,f,c) t g tu le sl).1) ((imR (x0,y0,x1,y1,f,c) t g tu le sl).2.2.1) ((imR (x0,y0,x1,y1,f,c) t g tu le sl).2.1) ((imR (x0,y0,x1,y1,f,c) t g tu le sl).2.2.2))]) results68 ⟨rfl,rfl⟩
theorem image_t (H:ac)(b:T6)(t g tu le sl ra:Int)(hb:bl b=true)(hC:bL t g=true)(hB:bO tu le sl ra=true):zC 68 [.agg [iV b.1,iV b.2.1,iV b.2.2.1,iV b.2.2.2.1,iV b.2.2.2.2.1,iV b.2.2.2.2.2],.agg [iV t,iV g],.agg [iV tu,iV le,iV sl,iV ra]] H (.tup [.agg [iV (mkV (imO b t g tu le sl) (imB b t g tu le sl).1),iV (mkV (imO b t g tu le sl) (imB b t g tu le sl).2.1),iV (mkV (imO b t g tu le sl) (imB b t g tu le sl).2.2.1),iV (mkV (imO b t g tu le sl) (imB b t g tu le sl).2.2.2.1),iV (mkV (imO b t g tu le sl) (imB b t g tu le sl).2.2.2.2.1),iV (mkV (imO b t g tu le sl) (imB b t g tu le sl).2.2.2.2.2)],iV (imE b t g tu le sl)]) H :=
 image_c H b.1 b.2.1 b.2.2.1 b.2.2.2.1 b.2.2.2.2.1 b.2.2.2.2.2 t g tu le sl ra hb hC hB
def stF (b:Bool) (g:Int):Int:=if b=true then 0 else g
theorem gN {t g:Int}(b:Bool)(h:bL t g=true):bL t (stF b g)=true:=by
 cases b
 ·exact h
 show bL t 0=true
 unfold bL at h ⊢
 rw[Bool.and_eq_true] at h ⊢
 exact⟨h.1,by decide⟩
theorem lS (H:ac)(b:T6)(t g tu le sl ra:Int)(hb:bl b=true)(hC:bL t g=true)(hB:bO tu le sl ra=true)(h:imO b t g tu le sl=true):zC 68 [.agg [iV b.1,iV b.2.1,iV b.2.2.1,iV b.2.2.2.1,iV b.2.2.2.2.1,iV b.2.2.2.2.2],.agg [iV t,iV g],.agg [iV tu,iV le,iV sl,iV ra]] H (.tup [.agg [iV (imB b t g tu le sl).1,iV (imB b t g tu le sl).2.1,iV (imB b t g tu le sl).2.2.1,iV (imB b t g tu le sl).2.2.2.1,iV (imB b t g tu le sl).2.2.2.2.1,iV (imB b t g tu le sl).2.2.2.2.2],iV 0]) H:=by
 have k:=image_t H b t g tu le sl ra hb hC hB
 unfold imE mkV at k
 simp only[h,if_true] at k
 exact k
theorem image_n (H:ac)(b:T6)(t g tu le sl ra:Int)(hb:bl b=true)(hC:bL t g=true)(hB:bO tu le sl ra=true)(h:imO b t g tu le sl=false):zC 68 [.agg [iV b.1,iV b.2.1,iV b.2.2.1,iV b.2.2.2.1,iV b.2.2.2.2.1,iV b.2.2.2.2.2],.agg [iV t,iV g],.agg [iV tu,iV le,iV sl,iV ra]] H (.tup [.agg [iV 0,iV 0,iV 0,iV 0,iV 0,iV 0],iV 2]) H:=by
 have k:=image_t H b t g tu le sl ra hb hC hB
 unfold imE mkV at k
 simp only[h,Bool.false_eq_true,if_false] at k
 exact k
theorem jW {l:List T6}{t f tu le sl:Int}(h:imA l t f tu le sl=true){j:Nat}(hj:j<l.length):imO (g6 l j) t f tu le sl=true:=List.all_eq_true.1 h _ (bY hj)
theorem imA_y {l:List T6}{t f tu le sl:Int}(h:∀j:Nat,j<l.length->imO (g6 l j) t f tu le sl=true):imA l t f tu le sl=true:=List.all_eq_true.2 fun b hb=>by
 obtain⟨j,hj,rfl⟩:=List.mem_iff_getElem.1 hb
 rw[<-jq hj];exact h j hj
theorem boxes_y (H:ac)(s:AV)(l:List T6)(t g tu le sl ra:Int)(still:Bool)(hs:Sl H 6 s l.length (r6 l))(hS:bk l=true)(hC:bL t g=true)(hB:bO tu le sl ra=true)(hA:imA l t (stF still g) tu le sl=true):zC 44 [s,.agg [iV t,iV g],.agg [iV tu,iV le,iV sl,iV ra],.bool still] H (.tup [.sl (some (H.length,0)) ((imS l t (stF still g) tu le sl l.length).length) (aS (imS l t (stF still g) tu le sl l.length).length),iV 0]) (H++[.cells (aI (imS l t (stF still g) tu le sl l.length).length) 6 (r6 (imS l t (stF still g) tu le sl l.length))]):=by
 obtain⟨bs,os,cs,rfl,hbs,hbls,hb0s⟩:=zA1 hs
 have hSS:=bi.1 hS
 have hl16:=hSS.1
 have hC2:=gN still hC
 refine AcT true func44 ?_;intro hbel Q hQ
 have G1:=jn @hbs (jn @hb0s (jn @hC @hB))
 refine rgs G1 (fun h1 h1d G2=>?_) (fun h1 h1d _=>?_)
 ·refine aa G2 ?_
  refine cvr G2 (g7 _ t g) ?_
  refine cvr G2 (jL _ _ _ _ _) ?_
  refine glp (fun k F Hx=>∃i:Nat,i+k=l.length/\F=[(0,.sl (some (bs,0)) l.length cs),(3,.bool still),(5,.ptr (some (H.length,0))),(6,.ptr (some (H.length+1,0))),(30,.sl (some (bs,0)) l.length cs),(31,iV (l.length:Int)),(32,iV (i:Int))]/\Hx=H++[.cells true 0 [iV t,iV g],.cells true 0 [iV tu,iV le,iV sl,iV ra]]) (l.length) ?_ ?_
  ·refine⟨_,_,_,⟨0,by omega,rfl,rfl⟩,bS hbel [0,1] ar⟩
  rintro k0 F Hx ⟨i,hm0,rfl,rfl⟩ J0 hJ0
  refine rcs G2 (fun h2 h2d _=>?_) (fun h2 h2d G5=>?_)
  ·have hlt:i<l.length:=by omega
   have q3:=bD (l:=l) (j:=i) (by omega)
   have G3:=jn h2 (jn h2d (jn @bo (jn q3 G2)))
   refine aa G3 ?_
   refine cv (fy _ _ _ _ _ _ _) ?_
   refine rcs G3 (fun h4 h4d _=>?_) (fun h4 h4d G4=>?_)
   ·exact absurd ((show bl (g6 l i)=true from hSS.2 _ (bY hlt)).symm.trans h4d) (by decide)
   refine aa G4 ?_
   refine hJ0 _ _ ⟨k0-1,by omega,_,_,_,⟨i+1,by omega,rfl,rfl⟩,bS hbel [0,1] ar⟩
  obtain rfl:i=l.length:=by omega
  refine rcs G5 (fun h5 h5d G6=>?_) (fun h5 h5d G11=>?_)
  ·have hst0:stF still g=0:=by unfold stF;rw[h5d];rfl
   rw[hst0] at hA hC2
   refine aa G6 ?_
   refine glp (fun k F Hx=>∃i:Nat,i+k=l.length/\F=[(5,.ptr (some (H.length,0))),(6,.ptr (some (H.length+1,0))),(12,.sl (some (H.length+2,0)) ((imS l t 0 tu le sl i).length) (aS (imS l t 0 tu le sl i).length)),(42,.sl (some (bs,0)) l.length cs),(43,iV (l.length:Int)),(44,iV (i:Int))]/\Hx=H++[.cells true 0 [iV t,iV 0],.cells true 0 [iV tu,iV le,iV sl,iV ra],.cells (aI (imS l t 0 tu le sl i).length) 6 (r6 (imS l t 0 tu le sl i))]) (l.length) ?_ ?_
   ·refine⟨_,_,_,⟨0,by omega,rfl,rfl⟩,Abs.byG hbel [.cells false 6 []] rfl [0,1,2] (by decide) ?_⟩
    exact al (jn @imS.eq_1 (jn @ap (jn @au (jn @aA @ax))))
   rintro k1 F Hx ⟨i,hm1,rfl,rfl⟩ J1 hJ1
   have hil0:=cE (l:=l) (t:=t) (f:=0) (tu:=tu) (le:=le) (sl:=sl) i
   have G7:=jn @bo (jn @cQ G6)
   refine rcs G7 (fun h6 h6d _=>?_) (fun h6 h6d G10=>?_)
   ·have hlt:i<l.length:=by omega
    have hbv:bl (g6 l i)=true:=hSS.2 _ (bY hlt)
    have hil:=cE (l:=l) (t:=t) (f:=0) (tu:=tu) (le:=le) (sl:=sl) i
    have q7:=bD (l:=l) (j:=i) (by omega)
    have G8:=jn h6 (jn h6d (jn q7 G7))
    refine aa G8 ?_
    rcases Bool.eq_false_or_eq_true (imO (g6 l i) t 0 tu le sl) with h8|h8
    ·have h8d:=h8
     refine cv (lS _ (g6 l i) t 0 _ _ _ _ (by assumption) (by assumption) (by assumption) (by assumption)) ?_
     have G9:=jn h8 (jn h8d (jn @ba (jn @cH G8)))
     refine aa G9 ?_
     refine hJ1 _ _ ⟨k1-1,by omega,_,_,_,⟨i+1,by omega,rfl,rfl⟩,bS hbel [0,1,6] (al (jn @imS.eq_2 (jn @ap (jn @au (jn @aA @ax)))))⟩
    have h8d:=h8
    exact absurd ((jW hA hlt).symm.trans h8d) (by decide)
   obtain rfl:i=l.length:=by omega
   refine aa G10 ?_
   refine hQ _ _ (aM (.inl rfl) hbel (x1:=.tup [.sl (some (H.length+2,0)) ((imS l t 0 tu le sl l.length).length) (aS (imS l t 0 tu le sl l.length).length),iV 0]) (l2:=[.cells (aI (imS l t 0 tu le sl l.length).length) 6 (r6 (imS l t 0 tu le sl l.length))]) (.tup [.sl (some (H.length,0)) ((imS l t 0 tu le sl l.length).length) (aS (imS l t 0 tu le sl l.length).length),iV 0]) (aU results44) [] rfl [2] (by decide) ⟨by rw[hst0],by rw[hst0]⟩ ?_)
   exact aF @ax
  have hst0:stF still g=g:=by unfold stF;rw[h5d];rfl
  rw[hst0] at hA hC2
  refine aa G11 ?_
  refine glp (fun k F Hx=>∃i:Nat,i+k=l.length/\F=[(5,.ptr (some (H.length,0))),(6,.ptr (some (H.length+1,0))),(12,.sl (some (H.length+2,0)) ((imS l t g tu le sl i).length) (aS (imS l t g tu le sl i).length)),(42,.sl (some (bs,0)) l.length cs),(43,iV (l.length:Int)),(44,iV (i:Int))]/\Hx=H++[.cells true 0 [iV t,iV g],.cells true 0 [iV tu,iV le,iV sl,iV ra],.cells (aI (imS l t g tu le sl i).length) 6 (r6 (imS l t g tu le sl i))]) (l.length) ?_ ?_
  ·refine⟨_,_,_,⟨0,by omega,rfl,rfl⟩,Abs.byG hbel [.cells false 6 []] rfl [0,1,2] (by decide) ?_⟩
   exact al (jn @imS.eq_1 (jn @ap (jn @au (jn @aA @ax))))
  rintro k2 F Hx ⟨i,hm2,rfl,rfl⟩ J2 hJ2
  have hil0:=cE (l:=l) (t:=t) (f:=g) (tu:=tu) (le:=le) (sl:=sl) i
  have G12:=jn @bo (jn @cQ G11)
  refine rcs G12 (fun h9 h9d _=>?_) (fun h9 h9d G15=>?_)
  ·have hlt:i<l.length:=by omega
   have hbv:bl (g6 l i)=true:=hSS.2 _ (bY hlt)
   have hil:=cE (l:=l) (t:=t) (f:=g) (tu:=tu) (le:=le) (sl:=sl) i
   have q10:=bD (l:=l) (j:=i) (by omega)
   have G13:=jn h9 (jn h9d (jn q10 G12))
   refine aa G13 ?_
   rcases Bool.eq_false_or_eq_true (imO (g6 l i) t g tu le sl) with h11|h11
   ·have h11d:=h11
    refine cv (lS _ (g6 l i) t g _ _ _ _ (by assumption) (by assumption) (by assumption) (by assumption)) ?_
    have G14:=jn h11 (jn h11d (jn @ba (jn @cH G13)))
    refine aa G14 ?_
    refine hJ2 _ _ ⟨k2-1,by omega,_,_,_,⟨i+1,by omega,rfl,rfl⟩,bS hbel [0,1,6] (al (jn @imS.eq_2 (jn @ap (jn @au (jn @aA @ax)))))⟩
   have h11d:=h11
   exact absurd ((jW hA hlt).symm.trans h11d) (by decide)
  obtain rfl:i=l.length:=by omega
  refine aa G15 ?_
  refine hQ _ _ (aM (.inl rfl) hbel (x1:=.tup [.sl (some (H.length+2,0)) ((imS l t g tu le sl l.length).length) (aS (imS l t g tu le sl l.length).length),iV 0]) (l2:=[.cells (aI (imS l t g tu le sl l.length).length) 6 (r6 (imS l t g tu le sl l.length))]) (.tup [.sl (some (H.length,0)) ((imS l t g tu le sl l.length).length) (aS (imS l t g tu le sl l.length).length),iV 0]) (aU results44) [] rfl [2] (by decide) ⟨by rw[hst0],by rw[hst0]⟩ ?_)
  exact aF @ax
 omega
theorem boxes_n (H:ac)(s:AV)(l:List T6)(t g tu le sl ra:Int)(still:Bool)(hs:Sl H 6 s l.length (r6 l))(hS:bk l=true)(hC:bL t g=true)(hB:bO tu le sl ra=true)(hA:imA l t (stF still g) tu le sl=false):zC 44 [s,.agg [iV t,iV g],.agg [iV tu,iV le,iV sl,iV ra],.bool still] H (.tup [.sl none 0 (some 0),iV 2]) H:=by
 obtain⟨bs,os,cs,rfl,hbs,hbls,hb0s⟩:=zA1 hs
 have hSS:=bi.1 hS
 have hl16:=hSS.1
 have hC2:=gN still hC
 refine AcT true func44 ?_;intro hbel Q hQ
 have G16:=jn @hbs (jn @hb0s (jn @hC @hB))
 refine rgs G16 (fun h1 h1d G17=>?_) (fun h1 h1d _=>?_)
 ·refine aa G17 ?_
  refine cvr G17 (g7 _ t g) ?_
  refine cvr G17 (jL _ _ _ _ _) ?_
  refine glp (fun k F Hx=>∃i:Nat,i+k=l.length/\F=[(0,.sl (some (bs,0)) l.length cs),(3,.bool still),(5,.ptr (some (H.length,0))),(6,.ptr (some (H.length+1,0))),(30,.sl (some (bs,0)) l.length cs),(31,iV (l.length:Int)),(32,iV (i:Int))]/\Hx=H++[.cells true 0 [iV t,iV g],.cells true 0 [iV tu,iV le,iV sl,iV ra]]) (l.length) ?_ ?_
  ·refine⟨_,_,_,⟨0,by omega,rfl,rfl⟩,bS hbel [0,1] ar⟩
  rintro k0 F Hx ⟨i,hm0,rfl,rfl⟩ J0 hJ0
  refine rcs G17 (fun h2 h2d _=>?_) (fun h2 h2d G20=>?_)
  ·have hlt:i<l.length:=by omega
   have q3:=bD (l:=l) (j:=i) (by omega)
   have G18:=jn h2 (jn h2d (jn @bo (jn q3 G17)))
   refine aa G18 ?_
   refine cv (fy _ _ _ _ _ _ _) ?_
   refine rcs G18 (fun h4 h4d _=>?_) (fun h4 h4d G19=>?_)
   ·exact absurd ((show bl (g6 l i)=true from hSS.2 _ (bY hlt)).symm.trans h4d) (by decide)
   refine aa G19 ?_
   refine hJ0 _ _ ⟨k0-1,by omega,_,_,_,⟨i+1,by omega,rfl,rfl⟩,bS hbel [0,1] ar⟩
  obtain rfl:i=l.length:=by omega
  refine rcs G20 (fun h5 h5d G21=>?_) (fun h5 h5d G26=>?_)
  ·have hst0:stF still g=0:=by unfold stF;rw[h5d];rfl
   rw[hst0] at hA hC2
   refine aa G21 ?_
   refine glp (fun k F Hx=>∃i:Nat,i+k=l.length/\(∀j:Nat,j<i->imO (g6 l j) t 0 tu le sl=true)/\F=[(5,.ptr (some (H.length,0))),(6,.ptr (some (H.length+1,0))),(12,.sl (some (H.length+2,0)) ((imS l t 0 tu le sl i).length) (aS (imS l t 0 tu le sl i).length)),(42,.sl (some (bs,0)) l.length cs),(43,iV (l.length:Int)),(44,iV (i:Int))]/\Hx=H++[.cells true 0 [iV t,iV 0],.cells true 0 [iV tu,iV le,iV sl,iV ra],.cells (aI (imS l t 0 tu le sl i).length) 6 (r6 (imS l t 0 tu le sl i))]) (l.length) ?_ ?_
   ·refine⟨_,_,_,⟨0,by omega,fun j h=>by omega,rfl,rfl⟩,Abs.byG hbel [.cells false 6 []] rfl [0,1,2] (by decide) ?_⟩
    exact al (jn @imS.eq_1 (jn @ap (jn @au (jn @aA @ax))))
   rintro k1 F Hx ⟨i,hm1,hall,rfl,rfl⟩ J1 hJ1
   have hil0:=cE (l:=l) (t:=t) (f:=0) (tu:=tu) (le:=le) (sl:=sl) i
   have G22:=jn @bo (jn @cQ G21)
   refine rcs G22 (fun h6 h6d _=>?_) (fun h6 h6d _=>?_)
   ·have hlt:i<l.length:=by omega
    have hbv:bl (g6 l i)=true:=hSS.2 _ (bY hlt)
    have hil:=cE (l:=l) (t:=t) (f:=0) (tu:=tu) (le:=le) (sl:=sl) i
    have q7:=bD (l:=l) (j:=i) (by omega)
    have G23:=jn h6 (jn h6d (jn q7 G22))
    refine aa G23 ?_
    rcases Bool.eq_false_or_eq_true (imO (g6 l i) t 0 tu le sl) with h8|h8
    ·have h8d:=h8
     have hio:=h8d
     refine cv (lS _ (g6 l i) t 0 _ _ _ _ (by assumption) (by assumption) (by assumption) (by assumption)) ?_
     have G24:=jn h8 (jn h8d (jn @ba (jn @cH G23)))
     refine aa G24 ?_
     refine hJ1 _ _ ⟨k1-1,by omega,_,_,_,⟨i+1,by omega,fun j hj=>by
           rcases Nat.lt_or_ge j i with hji|hji
           ·exact hall j hji
           rw[show j=i by omega];exact hio,rfl,rfl⟩,bS hbel [0,1,6] (al (jn @imS.eq_2 (jn @ap (jn @au (jn @aA @ax)))))⟩
    have h8d:=h8
    refine cv (image_n _ (g6 l i) t 0 _ _ _ _ (by assumption) (by assumption) (by assumption) (by assumption)) ?_
    have G25:=j2 h8 h8d G23
    exact eR G25 hQ hbel (.tup [.sl none 0 (some 0),iV 2]) results44 ⟨by rfl,rfl⟩
   obtain rfl:i=l.length:=by omega
   exact absurd ((imA_y hall).symm.trans hA) (by decide)
  have hst0:stF still g=g:=by unfold stF;rw[h5d];rfl
  rw[hst0] at hA hC2
  refine aa G26 ?_
  refine glp (fun k F Hx=>∃i:Nat,i+k=l.length/\(∀j:Nat,j<i->imO (g6 l j) t g tu le sl=true)/\F=[(5,.ptr (some (H.length,0))),(6,.ptr (some (H.length+1,0))),(12,.sl (some (H.length+2,0)) ((imS l t g tu le sl i).length) (aS (imS l t g tu le sl i).length)),(42,.sl (some (bs,0)) l.length cs),(43,iV (l.length:Int)),(44,iV (i:Int))]/\Hx=H++[.cells true 0 [iV t,iV g],.cells true 0 [iV tu,iV le,iV sl,iV ra],.cells (aI (imS l t g tu le sl i).length) 6 (r6 (imS l t g tu le sl i))]) (l.length) ?_ ?_
  ·refine⟨_,_,_,⟨0,by omega,fun j h=>by omega,rfl,rfl⟩,Abs.byG hbel [.cells false 6 []] rfl [0,1,2] (by decide) ?_⟩
   exact al (jn @imS.eq_1 (jn @ap (jn @au (jn @aA @ax))))
  rintro k2 F Hx ⟨i,hm2,hall,rfl,rfl⟩ J2 hJ2
  have hil0:=cE (l:=l) (t:=t) (f:=g) (tu:=tu) (le:=le) (sl:=sl) i
  have G27:=jn @bo (jn @cQ G26)
  refine rcs G27 (fun h9 h9d _=>?_) (fun h9 h9d _=>?_)
  ·have hlt:i<l.length:=by omega
   have hbv:bl (g6 l i)=true:=hSS.2 _ (bY hlt)
   have hil:=cE (l:=l) (t:=t) (f:=g) (tu:=tu) (le:=le) (sl:=sl) i
   have q10:=bD (l:=l) (j:=i) (by omega)
   have G28:=jn h9 (jn h9d (jn q10 G27))
   refine aa G28 ?_
   rcases Bool.eq_false_or_eq_true (imO (g6 l i) t g tu le sl) with h11|h11
   ·have h11d:=h11
    have hio:=h11d
    refine cv (lS _ (g6 l i) t g _ _ _ _ (by assumption) (by assumption) (by assumption) (by assumption)) ?_
    have G29:=jn h11 (jn h11d (jn @ba (jn @cH G28)))
    refine aa G29 ?_
    refine hJ2 _ _ ⟨k2-1,by omega,_,_,_,⟨i+1,by omega,fun j hj=>by
          rcases Nat.lt_or_ge j i with hji|hji
          ·exact hall j hji
          rw[show j=i by omega];exact hio,rfl,rfl⟩,bS hbel [0,1,6] (al (jn @imS.eq_2 (jn @ap (jn @au (jn @aA @ax)))))⟩
   have h11d:=h11
   refine cv (image_n _ (g6 l i) t g _ _ _ _ (by assumption) (by assumption) (by assumption) (by assumption)) ?_
   have G30:=j2 h11 h11d G28
   exact eR G30 hQ hbel (.tup [.sl none 0 (some 0),iV 2]) results44 ⟨by rfl,rfl⟩
  obtain rfl:i=l.length:=by omega
  exact absurd ((imA_y hall).symm.trans hA) (by decide)
 omega
theorem r6_drop {l:List T6}{j:Nat}:(r6 l).drop (j*6)=r6 (l.drop j):=by
 induction l generalizing j with
 |nil=>simp[aA]
 | cons p l ih =>
  cases j with
  |zero=>simp
  |succ j=>rw[au,show (j+1)*6=j*6+1+1+1+1+1+1 by omega,List.drop_succ_cons,List.drop_succ_cons,List.drop_succ_cons,List.drop_succ_cons,List.drop_succ_cons,List.drop_succ_cons,ih];rfl
theorem jf {l:List T6}{k:Nat}(h:k<=l.length):List.take ((l.length-k)*6) (List.drop (k*6) (r6 l))=r6 (List.drop k l):=by
 rw[r6_drop]
 exact List.take_of_length_le (by rw[bo,List.length_drop];omega)
theorem oC {l:List T6}{j:Nat}(h:j<l.length):l.drop j=g6 l j::l.drop (j+1):=by
 rw[List.drop_eq_getElem_cons h,<-jq h];rfl
section
variable {W Hh:Int} {xs:List Int} {s:List (Int×Int)} {g:Int} {QA O R:List T6} {j K k:Nat}
theorem rfn_no (hj:j<QA.length)(hk:QA.length-j+2*K=k)(ht:tOk W Hh xs (g6 QA j) s g=false)(h:rfn W Hh xs s g k (QA.drop j) K O=R):rfn W Hh xs s g (k-1) (QA.drop (j+1)) K O=R:=by
 obtain⟨n,rfl⟩:∃n,k=n+1:=⟨k-1,by omega⟩
 rw[oC hj] at h
 unfold rfn at h
 rw[if_neg (by rw[ht];decide)] at h
 exact h
theorem oD (hj:j<QA.length)(hk:QA.length-j+2*K=k)(ht:tOk W Hh xs (g6 QA j) s g=true)(h2:0<K/\cg (tB W Hh xs (g6 QA j) s g)=true)(h:rfn W Hh xs s g k (QA.drop j) K O=R):rfn W Hh xs s g (k-1) ((QA.drop (j+1)++[bR (tB W Hh xs (g6 QA j) s g),bT (tB W Hh xs (g6 QA j) s g)]).drop 0) (K-1) O=R:=by
 obtain⟨n,rfl⟩:∃n,k=n+1:=⟨k-1,by omega⟩
 rw[oC hj] at h
 unfold rfn at h
 rw[if_pos ht,if_pos h2] at h
 exact h
theorem iI (hj:j<QA.length)(hk:QA.length-j+2*K=k)(ht:tOk W Hh xs (g6 QA j) s g=true)(h2:¬(0<K/\cg (tB W Hh xs (g6 QA j) s g)=true))(h:rfn W Hh xs s g k (QA.drop j) K O=R):rfn W Hh xs s g (k-1) (QA.drop (j+1)) K (O++[tB W Hh xs (g6 QA j) s g])=R:=by
 obtain⟨n,rfl⟩:∃n,k=n+1:=⟨k-1,by omega⟩
 rw[oC hj] at h
 unfold rfn at h
 rw[if_pos ht,if_neg h2] at h
 exact h
theorem rfn_end (hj:QA.length<=j)(h:rfn W Hh xs s g k (QA.drop j) K O=R):R=O:=by
 rw[List.drop_eq_nil_of_le hj] at h
 cases k<;>exact h.symm
end
theorem cright_t (H:ac)(W Hh:Int)(pp:AV)(xs:List Int)(q:AV)(sc:List (Int×Int))(g:Int)(hpp:zI H pp xs)(hq:SlP H q sc)(hV:bK W Hh xs=true)(hsB:bP sc=true)(hg:1<=g/\g<=32):zC 73 [.agg [iV W,iV Hh,pp],q,iV g] H (.bool true) H:=by
 have k:=cright_c H W Hh pp xs q sc g hpp hq (by have:=(cw.1 hsB).1;omega)
 rw[hV,hsB,bm.2 hg] at k
 exact k
theorem mN (H:ac)(W Hh:Int)(pp:AV)(xs:List Int)(s:AV)(l:List T6)(q:AV)(sc:List (Int×Int))(g:Int)(K0:Nat)(hpp:zI H pp xs)(hs:Sl H 6 s l.length (r6 l))(hq:SlP H q sc)(hV:bK W Hh xs=true)(hS:bk l=true)(hl0:0<l.length)(hsB:bP sc=true)(hg:1<=g/\g<=32)(hK0:K0<=64):zC 48 [.agg [iV W,iV Hh,pp],s,q,iV g,iV (K0:Int)] H (.tup [.sl (some (H.length,0)) ((aN W Hh xs l sc g K0).length) (aS (aN W Hh xs l sc g K0).length),iV 0]) (H++[.cells (aI (aN W Hh xs l sc g K0).length) 6 (r6 (aN W Hh xs l sc g K0))]):=by
 obtain⟨bpp,opp,cpp,rfl,hbpp,hblpp,hb0pp⟩:=zA1 hpp
 obtain⟨bs,os,cs,rfl,hbs,hbls,hb0s⟩:=zA1 hs
 obtain⟨bq,oq,cq,rfl,hbq,hblq,hb0q⟩:=zA1 hq
 have hsl0:(l.length==0)=false:=beq_eq_false_iff_ne.2 (by omega)
 have hsl1:decide (0<l.length)=true:=decide_eq_true hl0
 have hSS:=bi.1 hS
 have hl16:=hSS.1
 have hkb:btw (K0:Int) 0 64=true:=bm.2 (by omega)
 have hVV:=bp.1 hV
 have hWW:1<=W/\W<=64:=⟨hVV.w0,hVV.w1⟩
 have hHH:1<=Hh/\Hh<=64:=⟨hVV.h0,hVV.h1⟩
 (refine aR func48 _ rfl (Nat.le_of_ble_eq_true (by kernel_rfl)) rfl ?_;intro hbel Q hQ hQ' c hc;unfold Tryz.f48 at hc;simp only[Option.some.injEq] at hc;subst hc;clear hQ')
 refine zQT hQ fun Q1 hn1 hQ1 he1=>?_
 have G1:=jn @hbpp (jn @hb0pp (jn @hbs (jn @hb0s (jn @hbq (jn @hb0q (jn @dY (jn @hkb (jn @hsl0 @hsl1))))))))
 refine aa G1 ?_
 refine hn1 _ _ (zQT hQ fun Q2 hn2 hQ2 he2=>?_)
 refine aa G1 ?_
 refine cv (cright_t _ W _ _ xs _ sc g (zA2 hb0pp hbpp) (zA2 hb0q hbq) hV hsB hg) ?_
 refine rcs G1 (fun h1 h1d _=>?_) (fun h1 h1d G2=>?_)
 ·omega
 refine aa G2 ?_
 refine hn2 _ _ (zQT hQ fun Q3 hn3 hQ3 he3=>?_)
 refine aa G2 ?_
 refine glp (fun k F Hx=>∃i:Nat,i+k=l.length/\F=[(1,.sl (some (bs,0)) l.length cs),(2,.sl (some (bq,0)) sc.length cq),(3,iV g),(4,iV (K0:Int)),(5,.ptr (some (H.length,0))),(31,.sl (some (bs,0)) l.length cs),(32,iV (l.length:Int)),(33,iV (i:Int))]/\Hx=H++[.cells true 0 [iV W,iV Hh,.sl (some (bpp,0)) xs.length cpp]]) (l.length) ?_ ?_
 ·refine⟨_,_,_,⟨0,by omega,rfl,rfl⟩,bS hbel [0] ar⟩
 rintro k0 F Hx ⟨i,hm0,rfl,rfl⟩ J0 hJ0
 refine rcs G2 (fun h2 h2d _=>?_) (fun h2 h2d G5=>?_)
 ·have hlt:i<l.length:=by omega
  have q3:=bD (l:=l) (j:=i) (by omega)
  have G3:=jn h2 (jn h2d (jn @bo (jn q3 G2)))
  refine aa G3 ?_
  refine cv (fy _ _ _ _ _ _ _) ?_
  refine rcs G3 (fun h4 h4d _=>?_) (fun h4 h4d G4=>?_)
  ·exact absurd ((show bl (g6 l i)=true from hSS.2 _ (bY hlt)).symm.trans h4d) (by decide)
  refine aa G4 ?_
  refine hJ0 _ _ ⟨k0-1,by omega,_,_,_,⟨i+1,by omega,rfl,rfl⟩,bS hbel [0] ar⟩
 obtain rfl:i=l.length:=by omega
 refine aa G5 ?_
 refine hn3 _ _ (zQT hQ fun Q4 hn4 hQ4 he4=>?_)
 refine aa G5 ?_
 refine cvr G5 (d3 _ _ 0 _) ?_
 refine hn4 _ _ (zQT hQ fun Q5 hn5 hQ5 he5=>?_)
 refine aa G5 ?_
 refine hn5 _ _ (zQT hQ fun Q6 hn6 hQ6 he6=>?_)
 have G6:=jn @bo (jn @cQ (jn @iU G5))
 refine aa G6 ?_
 refine hn6 _ _ (sqR hQ fun Q7 hn7 hQ7 he7=>?_)
 refine bkR hQ7 fun Q8 hn8 hQ8 he8 hb8=>?_
 refine cW (fun k F Hx=>∃QA:List T6,∃j:Nat,∃K:Nat,∃O:List T6,QA.length-j+2*K=k/\j<=QA.length/\QA.length-j+K<=l.length+K0/\QA.length<=l.length+K0/\O.length+(QA.length-j)+K<=l.length+K0/\(∀b∈QA,bl b=true)/\rfn W Hh xs sc g k (QA.drop j) K O=aN W Hh xs l sc g K0/\F=[(2,.sl (some (bq,0)) sc.length cq),(3,iV g),(4,iV (K:Int)),(5,.ptr (some (H.length,0))),(14,.sl (some (H.length+1,0)) O.length (aS O.length)),(15,.sl (some (H.length+2,j*6)) (QA.length-j) none)]/\Hx=H++[.cells true 0 [iV W,iV Hh,.sl (some (bpp,0)) xs.length cpp],.cells (aI O.length) 6 (r6 O),.cells true 6 (r6 QA)]) (l.length+2*K0) ?_ ?_
 ·refine⟨_,_,_,⟨l,0,K0,[],by omega,Nat.zero_le _,by omega,by omega,by simp only[List.length_nil];omega,hSS.2,rfl,rfl,rfl⟩,Abs.byG hbel [.cells false 6 []] rfl [0,3,2] (by decide) ?_⟩
  exact al (jn @Nat.zero_mul (jn @Nat.sub_zero (jn @ap (jn @au (jn @aA @ax)))))
 rintro k1 F Hx ⟨QA,j,K,O,hm1,hjq,hqb,hql,hol,hqv,hrf,rfl,rfl⟩ Q9 hJ1 hr9 he9
 have hQ9:=fun F H' h=>hr9 F H' (hQ8 F H' h)
 refine zQT hQ9 fun Q10 hn10 hQ10 he10=>?_
 refine rcs G6 (fun h5 h5d _=>?_) (fun h5 h5d G16=>?_)
 ·have hjl:j<QA.length:=by omega
  have hbv:bl (g6 QA j)=true:=hqv _ (bY hjl)
  have hsf1:QA.length-j-1=QA.length-(j+1):=by omega
  have hsf2:j*6+6=(j+1)*6:=by omega
  have G7:=jn h5 (jn h5d (j2 hsf1 hsf2 G6))
  refine aa G7 ?_
  refine hn10 _ _ ?_
  refine bkR hQ9 fun Q11 hn11 hQ11 he11 hb11=>?_
  refine aL true try_mixed [[0,1,2,3,4,5,6,7,8,9,10,11,12],[0,1,2,3,4,5,10,6,7,8,9,11,12]] (by kernel_rfl) (fun F2 H2=>F2=[(2,.sl (some (bq,0)) sc.length cq),(3,iV g),(4,iV (K:Int)),(5,.ptr (some (H.length,0))),(14,.sl (some (H.length+1,0)) O.length (aS O.length)),(15,.sl (some (H.length+2,j*6)) (QA.length-j) none),(16,.ptr (some (H.length+3,0))),(17,.bool (tOk W Hh xs (g6 QA j) sc g))]/\H2=H++[.cells true 0 [iV W,iV Hh,.sl (some (bpp,0)) xs.length cpp],.cells (aI O.length) 6 (r6 O),.cells true 6 (r6 QA),.cells true 0 [iV (mkV (tOk W Hh xs (g6 QA j) sc g) ((tB W Hh xs (g6 QA j) sc g).1)),iV (mkV (tOk W Hh xs (g6 QA j) sc g) ((tB W Hh xs (g6 QA j) sc g).2.1)),iV (mkV (tOk W Hh xs (g6 QA j) sc g) ((tB W Hh xs (g6 QA j) sc g).2.2.1)),iV (mkV (tOk W Hh xs (g6 QA j) sc g) ((tB W Hh xs (g6 QA j) sc g).2.2.2.1)),iV (mkV (tOk W Hh xs (g6 QA j) sc g) ((tB W Hh xs (g6 QA j) sc g).2.2.2.2.1)),iV (mkV (tOk W Hh xs (g6 QA j) sc g) ((tB W Hh xs (g6 QA j) sc g).2.2.2.2.2))]]) ?_ ?_
  ·refine af ?_ (af ?_ (aQ))<;>intro J hJ
   ·have q6:=bD (l:=QA) (j:=j) (by omega)
    have G8:=jn q6 G7
    refine ag G8 ?_
    refine cd (trim_t _ W Hh _ xs (g6 QA j) _ sc g (zA2 hb0pp hbpp) (zA2 hb0q hbq) hV (by assumption) hsB hg) ?_
    refine ag G8 ?_
    refine ai (hJ _ _ ⟨_,_,_,⟨rfl,rfl⟩,bS hbel [0,1,2,3] (al (jn @ap (jn @au (jn @aA @ax))))⟩)
   have q7:=bD (l:=QA) (j:=j) (by omega)
   have G9:=jn q7 G7
   refine ag G9 ?_
   refine cd (trim_t _ W Hh _ xs (g6 QA j) _ sc g (zA2 hb0pp hbpp) (zA2 hb0q hbq) hV (by assumption) hsB hg) ?_
   refine ag G9 ?_
   refine ai (hJ _ _ ⟨_,_,_,⟨rfl,rfl⟩,bS hbel [0,1,2,3] (al (jn @ap (jn @au (jn @aA @ax))))⟩)
  rintro F2 H2 ⟨rfl,rfl⟩
  refine fnT ?_
  refine rcs G7 (fun h8 h8d G10=>?_) (fun h8 h8d G11=>?_)
  ·have htf:=h8d
   refine aa G10 ?_
   refine hb11 _ _ ?_
   refine hJ1 _ _ ⟨k1-1,by omega,_,_,_,⟨QA,j+1,K,O,by omega,by omega,by omega,hql,by omega,hqv,rfn_no hjl hm1 htf hrf,rfl,rfl⟩,bS hbel [0,1,2] (al (jn @Nat.zero_mul (jn @Nat.sub_zero (jn @List.length_drop.{0} (jn @ap (jn @au (jn @aA @ax)))))))⟩
  have hto:=h8d
  have htb:=(tB_ok hWW hHH hbv hto).1
  refine rcs G11 (fun h9 h9d _=>?_) (fun h9 h9d _=>?_)
  ·have hK:0<K:=by omega
   have hsfk:(K:Int)-1=((K-1:Nat):Int):=by omega
   have G12:=jn h9 (j2 h9d hsfk G11)
   refine aa G12 ?_
   rcases Bool.eq_false_or_eq_true (cg (tB W Hh xs (g6 QA j) sc g)) with h10|h10
   ·have h10d:=h10
    have hs2:=h10d
    have hso:=spl_ok htb hs2
    have hdv:List.take ((QA.length-(j+1))*6) (List.drop ((j+1)*6) (r6 QA))=r6 (List.drop (j+1) QA):=jf (by omega)
    refine cv (split_t _ (tB W Hh xs (g6 QA j) sc g) (by assumption) (by assumption)) ?_
    have G13:=jn h10 (jn h10d (jn @ba (jn @cH G12)))
    refine aa G13 ?_
    refine hb11 _ _ ?_
    refine hJ1 _ _ ⟨k1-1,by omega,_,_,_,⟨List.drop (j+1) QA++[bR (tB W Hh xs (g6 QA j) sc g),bT (tB W Hh xs (g6 QA j) sc g)],0,K-1,O,by (simp only[List.length_append,List.length_drop,List.length_cons,List.length_nil];omega),Nat.zero_le _,by simp only[List.length_append,List.length_drop,List.length_cons,List.length_nil];omega,by simp only[List.length_append,List.length_drop,List.length_cons,List.length_nil];omega,by simp only[List.length_append,List.length_drop,List.length_cons,List.length_nil];omega,fun b hb'=>by
          rcases List.mem_append.1 hb' with q|q
          ·exact hqv b (List.mem_of_mem_drop q)
          rcases List.mem_cons.1 q with q|q
          ·rw[q];exact hso.1
          rw[List.mem_singleton.1 q];exact hso.2.1,oD hjl hm1 hto ⟨hK,hs2⟩ hrf,rfl,rfl⟩,bS hbel [0,1,7] (al (jn @Nat.zero_mul (jn @Nat.sub_zero (jn @List.length_drop.{0} (jn @hdv (jn @ap (jn @au (jn @aA @ax))))))))⟩
   have h10d:=h10
   have hno:¬(0<K/\cg (tB W Hh xs (g6 QA j) sc g)=true):=fun q=>absurd (q.2.symm.trans h10d) (by decide)
   refine cv (split_f _ (tB W Hh xs (g6 QA j) sc g) (by assumption) (by assumption)) ?_
   have G14:=jn h10 (jn h10d (jn @ba (jn @cH G12)))
   refine aa G14 ?_
   refine hn11 _ _ ?_
   refine hJ1 _ _ ⟨k1-1,by omega,_,_,_,⟨QA,j+1,K,O++[(tB W Hh xs (g6 QA j) sc g)],by omega,by omega,by omega,hql,by simp only[List.length_append,List.length_drop,List.length_cons,List.length_nil];omega,hqv,iI hjl hm1 hto hno hrf,rfl,rfl⟩,bS hbel [0,7,2] (al (jn @Nat.zero_mul (jn @Nat.sub_zero (jn @List.length_drop.{0} (jn @ap (jn @au (jn @aA @ax)))))))⟩
  have hno:¬(0<K/\cg (tB W Hh xs (g6 QA j) sc g)=true):=fun q=>by omega
  have G15:=jn h9 (jn h9d (jn @ba (jn @cH G11)))
  refine aa G15 ?_
  refine hn11 _ _ ?_
  refine hJ1 _ _ ⟨k1-1,by omega,_,_,_,⟨QA,j+1,K,O++[(tB W Hh xs (g6 QA j) sc g)],by omega,by omega,by omega,hql,by simp only[List.length_append,List.length_drop,List.length_cons,List.length_nil];omega,hqv,iI hjl hm1 hto hno hrf,rfl,rfl⟩,bS hbel [0,5,2] (al (jn @Nat.zero_mul (jn @Nat.sub_zero (jn @List.length_drop.{0} (jn @ap (jn @au (jn @aA @ax)))))))⟩
 have hfinR:aN W Hh xs l sc g K0=O:=rfn_end (by omega) hrf
 refine aa G16 ?_
 refine he10 _ _ _ ?_
 refine he9 _ _ _ ?_
 refine hb8 _ _ ?_
 refine hn7 _ _ ?_
 refine fnT ?_
 refine aa G16 ?_
 refine hQ _ _ (aM (.inl rfl) hbel (x1:=.tup [.sl (some (H.length+1,0)) O.length (aS O.length),iV 0]) (l2:=[.cells (aI O.length) 6 (r6 O)]) (.tup [.sl (some (H.length,0)) O.length (aS O.length),iV 0]) (aU results48) [] rfl [1] (by decide) ⟨by rw[hfinR],by rw[hfinR]⟩ ?_)
 exact aF @ax
theorem proven_c (H:ac)(W Hh:Int)(pp:AV)(xs:List Int)(s:AV)(l:List T6)(m r g:Int)(hpp:zI H pp xs)(hs:Sl H 6 s l.length (r6 l))(hV:bK W Hh xs=true)(hS:bk l=true)(hl0:0<l.length)(hr : -1<=r/\r<=1024)(hg:1<=g/\g<=32):zC 124 [.agg [iV W,iV Hh,pp],s,.agg [iV m,iV r],iV g] H (.sl (some (H.length,0)) ((ex W Hh l m r g).length) (aS (ex W Hh l m r g).length)) (H++[.cells (aI (ex W Hh l m r g).length) 2 (prs (ex W Hh l m r g))]):=by
 obtain⟨bpp,opp,cpp,rfl,hbpp,hblpp,hb0pp⟩:=zA1 hpp
 obtain⟨bs,os,cs,rfl,hbs,hbls,hb0s⟩:=zA1 hs
 have hvl:=bp.1 hV
 have hWb:1<=W/\W<=64/\1<=Hh/\Hh<=64:=by obtain⟨a,b,c,d,-⟩:=hvl;omega
 have hda:=km hS m
 have hpair:∀j',j'<(aD l m).length->bxB (g91 (aD l m) j') (g92 (aD l m) j') (g93 (aD l m) j') (g94 (aD l m) j') (g95 (aD l m) j') (g96 (aD l m) j')=true:=fun j' hj'=>by
  have k:=ov hS (g9_mem hj')
  unfold pairB at k;rw[Bool.and_eq_true] at k;exact k.1
 have hp0:=hpair 0 (by omega)
 have hfl:=fstL_len l m (aB r g)
 (refine aR func124 _ rfl (Nat.le_of_ble_eq_true (by kernel_rfl)) rfl ?_;intro hbel Q hQ hQ' c hc;unfold Tryz.f124 at hc;simp only[Option.some.injEq] at hc;subst hc;clear hQ')
 refine zQF hQ fun Q1 hn1 hQ1 he1=>?_
 have G1:=jn @hbpp (jn @hb0pp (jn @hbs @hb0s))
 refine aa G1 ?_
 refine hn1 _ _ (zQF hQ fun Q2 hn2 hQ2 he2=>?_)
 refine aa G1 ?_
 refine hn2 _ _ (zQF hQ fun Q3 hn3 hQ3 he3=>?_)
 refine rcs G1 (fun h1 h1d _=>?_) (fun h1 h1d _=>?_)
 ·have h1n:=bnT h1
  have hr1:r = -1:=by simpa using h1d
  have hsf1:1024-g=aB r g:=(if_pos hr1).symm
  have G2:=jn h1 (jn h1n (jn @aK (jn @aJ (jn @hsf1 G1))))
  refine aa G2 ?_
  refine hn3 _ _ (zQF hQ fun Q4 hn4 hQ4 he4=>?_)
  refine rcs G2 (fun h2 h2d G3=>?_) (fun h2 h2d G4=>?_)
  ·have hfinL:ex W Hh l m r g=[]:=if_pos h2d
   refine aa G3 ?_
   refine hQ4 _ _ (aM (.inl rfl) hbel (x1:=.sl none 0 (some 0)) (l2:=[.cells false 2 []]) (.sl (some (H.length,0)) 0 (some 0)) (aU results124) [.cells false 2 []] rfl [3] (by decide) ⟨by (rw[hfinL];rfl),by (rw[hfinL];rfl)⟩ ?_)
   exact ar
  have hfar:=h2d
  refine aa G4 ?_
  refine hn4 _ _ (zQF hQ fun Q5 hn5 hQ5 he5=>?_)
  refine aa G4 ?_
  refine cvr G4 (kq _ _ l m r (zA2 hb0s hbs) (by assumption)) ?_
  refine hn5 _ _ ?_
  refine ma false try_mixed [[0,1,2,3,4,5,6,7,8,9,10,11,12,13,14,15,16,17],[0,1,2,3,7,8,9,11,4,5,6,10,12,13,14,15,16,17],[0,1,2,3,7,8,9,10,4,5,6,11,12,13,14,15,16,17],[0,1,2,3,7,8,9,10,11,4,5,6,12,13,14,15,16,17]] (by kernel_rfl) (fun F2 H2=>F2=[(4,.ptr (some (H.length,0))),(8,.sl none 0 (some 0)),(9,.ptr (some (H.length+1,0))),(10,.sl (some (H.length+2,0)) ((aD l m).length) (aS (aD l m).length)),(11,.sl (some (H.length+3,0)) ((aZ l m (aB r g)).length) (aS (aZ l m (aB r g)).length))]/\H2=H++[.cells true 0 [iV W,iV Hh,.sl (some (bpp,0)) xs.length cpp],.cells true 0 [iV (aB r g)],.cells (aI (aD l m).length) 9 (r9 (aD l m)),.cells (aI (aZ l m (aB r g)).length) 2 (prs (aZ l m (aB r g)))]) ?_ ?_
  ·refine af ?_ (af ?_ (af ?_ (af ?_ (aQ))))<;>intro J hJ
   ·have q3:=jv (l:=aD l m) (by omega)
    have G5:=jn @ei (jn q3 G4)
    refine ag G5 ?_
    refine cx (ej _ _ _ _ _ _ _ (by assumption)) ?_
    have q4:=jw (l:=aD l m) (by omega)
    have G6:=jn q4 G5
    refine ag G6 ?_
    refine cx (eE _ l m _) ?_
    refine ag G6 ?_
    refine ai (hJ _ _ ⟨_,_,_,⟨rfl,rfl⟩,bS hbel [0,2,3,5] (al (jn @bH (jn @bQ (jn @cI @cB))))⟩)
   ·have q5:=jv (l:=aD l m) (by omega)
    have G7:=jn @ei (jn q5 G4)
    refine ag G7 ?_
    refine cx (ej _ _ _ _ _ _ _ (by assumption)) ?_
    have q6:=jw (l:=aD l m) (by omega)
    have G8:=jn q6 G7
    refine ag G8 ?_
    refine cx (eE _ l m _) ?_
    refine ag G8 ?_
    refine ai (hJ _ _ ⟨_,_,_,⟨rfl,rfl⟩,bS hbel [0,2,3,5] (al (jn @bH (jn @bQ (jn @cI @cB))))⟩)
   ·have q7:=jv (l:=aD l m) (by omega)
    have q8:=jw (l:=aD l m) (by omega)
    have G9:=jn @ei (jn q7 (jn q8 G4))
    refine ag G9 ?_
    refine cx (ej _ _ _ _ _ _ _ (by assumption)) ?_
    refine ag G9 ?_
    refine cx (eE _ l m _) ?_
    refine ag G9 ?_
    refine ai (hJ _ _ ⟨_,_,_,⟨rfl,rfl⟩,bS hbel [0,2,3,5] (al (jn @bH (jn @bQ (jn @cI @cB))))⟩)
   have q9:=jv (l:=aD l m) (by omega)
   have q10:=jw (l:=aD l m) (by omega)
   have G10:=jn @ei (jn q9 (jn q10 G4))
   refine ag G10 ?_
   refine cx (ej _ _ _ _ _ _ _ (by assumption)) ?_
   refine ag G10 ?_
   refine cx (eE _ l m _) ?_
   refine ag G10 ?_
   refine ai (hJ _ _ ⟨_,_,_,⟨rfl,rfl⟩,bS hbel [0,2,3,5] (al (jn @bH (jn @bQ (jn @cI @cB))))⟩)
  rintro F2 H2 ⟨rfl,rfl⟩
  refine fnF ?_
  have G11:=jn @ei (jn @lf (jn @ba (jn @cp G4)))
  refine aa G11 ?_
  refine glp (fun k F Hx=>∃j:Nat,j+k=(aZ l m (aB r g)).length/\F=[(4,.ptr (some (H.length,0))),(9,.ptr (some (H.length+1,0))),(10,.sl (some (H.length+2,0)) ((aD l m).length) (aS (aD l m).length)),(13,.sl (some (H.length+4,0)) ((((aZ l m (aB r g)).take j).filter (ck W Hh l m (aB r g))).length) (aS (((aZ l m (aB r g)).take j).filter (ck W Hh l m (aB r g))).length)),(49,.sl (some (H.length+3,0)) ((aZ l m (aB r g)).length) (aS (aZ l m (aB r g)).length)),(50,iV (((aZ l m (aB r g)).length:Nat):Int)),(51,iV (j:Int))]/\Hx=H++[.cells true 0 [iV W,iV Hh,.sl (some (bpp,0)) xs.length cpp],.cells true 0 [iV (aB r g)],.cells (aI (aD l m).length) 9 (r9 (aD l m)),.cells (aI (aZ l m (aB r g)).length) 2 (prs (aZ l m (aB r g))),.cells (aI (((aZ l m (aB r g)).take j).filter (ck W Hh l m (aB r g))).length) 2 (prs (((aZ l m (aB r g)).take j).filter (ck W Hh l m (aB r g))))]) ((aZ l m (aB r g)).length) ?_ ?_
  ·refine⟨_,_,_,⟨0,by omega,rfl,rfl⟩,Abs.byG hbel [.cells false 2 []] rfl [0,1,2,3,4] (by decide) ?_⟩
   exact al (jn @List.take_zero.{0} (jn @List.filter_nil.{0} (jn @bH (jn @bQ (jn @cI @cB)))))
  rintro k0 F Hx ⟨j,hm0,rfl,rfl⟩ J0 hJ0
  refine rcs G11 (fun h11 h11d _=>?_) (fun h11 h11d G24=>?_)
  ·have hlt:j<(aZ l m (aB r g)).length:=by omega
   have hpr:=(bC hlt).symm
   have hst:=qH (p:=(ck W Hh l m (aB r g))) hlt
   have hfln:=flt_len (p:=(ck W Hh l m (aB r g))) (l:=(aZ l m (aB r g))) (j:=j)
   have q12:=bN (l:=aZ l m (aB r g)) (j:=j) (by omega)
   have G12:=jn h11 (jn h11d (jn q12 G11))
   refine aa G12 ?_
   rcases Bool.eq_false_or_eq_true (sqO (g1 (aZ l m (aB r g)) j) (g2 (aZ l m (aB r g)) j)) with h13|h13
   ·have h13d:=h13
    have hsq:=h13d
    refine cv (psqr_t _ _ _ (by assumption)) ?_
    have G13:=j2 h13 h13d G12
    refine aa G13 ?_
    refine cv (dq _ _ 0 _) ?_
    refine rgs G13 (fun h14 h14d G14=>?_) (fun h14 h14d G19=>?_)
    ·have hbx:=h14d
     refine aa G14 ?_
     refine cv (dq _ _ 0 _) ?_
     refine rgs G14 (fun h15 h15d G15=>?_) (fun h15 h15d G18=>?_)
     ·have hby:=h15d
      refine aa G15 ?_
      refine cv (has_r _ _ (aD l m) ⟨_,_,_,by rfl,by (rw[ah];rfl)⟩ (by omega) _ [.ptr (some (H.length+6,0)),.ptr (some (H.length+1,0))] (by kernel_rfl) (by simp[AV.bels,AV.bel]) (fun e=>!psC e (aB r g) (g1 (aZ l m (aB r g)) j,g2 (aZ l m (aB r g)) j)) (fun j' hj'=>kprv1_c _ _ _ _ _ _ _ _ _ _ _ _ _ _ _ _ _ ⟨_,by (rw[ah];rfl)⟩ ⟨_,by (rw[ah];rfl)⟩ (hpair _ hj'))) ?_
      refine rcs G15 (fun h16 h16d _=>?_) (fun h16 h16d G17=>?_)
      ·have hok:ck W Hh l m (aB r g) (g1 (aZ l m (aB r g)) j,g2 (aZ l m (aB r g)) j)=true:=by unfold ck prvB;rw[hbx,hby,List.all_eq_not_any_not,h16d];rfl
       rw[hpr,if_pos hok] at hst
       have G16:=jn h16 (jn h16d (jn @cH G15))
       refine aa G16 ?_
       refine hJ0 _ _ ⟨k0-1,by omega,_,_,_,⟨j+1,by omega,rfl,rfl⟩,bS hbel [0,1,2,3,8] (al (jn @hst (jn @bH (jn @bQ (jn @cI @cB)))))⟩
      have hok:ck W Hh l m (aB r g) (g1 (aZ l m (aB r g)) j,g2 (aZ l m (aB r g)) j)=false:=by unfold ck prvB;rw[hbx,hby,List.all_eq_not_any_not,h16d];rfl
      rw[hpr,if_neg (by rw[hok];decide),List.append_nil] at hst
      refine aa G17 ?_
      refine hJ0 _ _ ⟨k0-1,by omega,_,_,_,⟨j+1,by omega,rfl,rfl⟩,bS hbel [0,1,2,3,4] (al (jn @hst (jn @bH (jn @bQ (jn @cI @cB)))))⟩
     have hok:ck W Hh l m (aB r g) (g1 (aZ l m (aB r g)) j,g2 (aZ l m (aB r g)) j)=false:=by unfold ck;rw[hbx,h15d];rfl
     rw[hpr,if_neg (by rw[hok];decide),List.append_nil] at hst
     refine aa G18 ?_
     refine hJ0 _ _ ⟨k0-1,by omega,_,_,_,⟨j+1,by omega,rfl,rfl⟩,bS hbel [0,1,2,3,4] (al (jn @hst (jn @bH (jn @bQ (jn @cI @cB)))))⟩
    have hok:ck W Hh l m (aB r g) (g1 (aZ l m (aB r g)) j,g2 (aZ l m (aB r g)) j)=false:=by unfold ck;rw[h14d];rfl
    rw[hpr,if_neg (by rw[hok];decide),List.append_nil] at hst
    refine aa G19 ?_
    refine hJ0 _ _ ⟨k0-1,by omega,_,_,_,⟨j+1,by omega,rfl,rfl⟩,bS hbel [0,1,2,3,4] (al (jn @hst (jn @bH (jn @bQ (jn @cI @cB)))))⟩
   have h13d:=h13
   have hsq:=h13d
   refine cv (psqr_f _ _ _ (by assumption)) ?_
   have G20:=j2 h13 h13d G12
   refine aa G20 ?_
   refine cv (dq _ _ 0 _) ?_
   refine rgs G20 (fun h17 h17d G21=>?_) (fun h17 h17d G23=>?_)
   ·have hbx:=h17d
    refine aa G21 ?_
    refine cv (dq _ _ 0 _) ?_
    refine rgs G21 (fun h18 h18d _=>?_) (fun h18 h18d G22=>?_)
    ·have hby:=h18d
     have hq1:=bm.1 hbx
     have hq2:=bm.1 hby
     exact absurd (show sqO (g1 (aZ l m (aB r g)) j) (g2 (aZ l m (aB r g)) j)=true by unfold sqO;rw[Bool.and_eq_true,bx,bx];omega) (by rw[hsq];decide)
    have hok:ck W Hh l m (aB r g) (g1 (aZ l m (aB r g)) j,g2 (aZ l m (aB r g)) j)=false:=by unfold ck;rw[hbx,h18d];rfl
    rw[hpr,if_neg (by rw[hok];decide),List.append_nil] at hst
    refine aa G22 ?_
    refine hJ0 _ _ ⟨k0-1,by omega,_,_,_,⟨j+1,by omega,rfl,rfl⟩,bS hbel [0,1,2,3,4] (al (jn @hst (jn @bH (jn @bQ (jn @cI @cB)))))⟩
   have hok:ck W Hh l m (aB r g) (g1 (aZ l m (aB r g)) j,g2 (aZ l m (aB r g)) j)=false:=by unfold ck;rw[h17d];rfl
   rw[hpr,if_neg (by rw[hok];decide),List.append_nil] at hst
   refine aa G23 ?_
   refine hJ0 _ _ ⟨k0-1,by omega,_,_,_,⟨j+1,by omega,rfl,rfl⟩,bS hbel [0,1,2,3,4] (al (jn @hst (jn @bH (jn @bQ (jn @cI @cB)))))⟩
  obtain rfl:j=(aZ l m (aB r g)).length:=by omega
  have hfinL:((aZ l m (aB r g)).take (aZ l m (aB r g)).length).filter (ck W Hh l m (aB r g))=ex W Hh l m r g:=by rw[List.take_length];exact(if_neg hfar).symm
  refine aa G24 ?_
  refine hQ _ _ (aM (.inl rfl) hbel (x1:=.sl (some (H.length+4,0)) ((((aZ l m (aB r g)).take (aZ l m (aB r g)).length).filter (ck W Hh l m (aB r g))).length) (aS (((aZ l m (aB r g)).take (aZ l m (aB r g)).length).filter (ck W Hh l m (aB r g))).length)) (l2:=[.cells (aI (((aZ l m (aB r g)).take (aZ l m (aB r g)).length).filter (ck W Hh l m (aB r g))).length) 2 (prs (((aZ l m (aB r g)).take (aZ l m (aB r g)).length).filter (ck W Hh l m (aB r g))))]) (.sl (some (H.length,0)) ((((aZ l m (aB r g)).take (aZ l m (aB r g)).length).filter (ck W Hh l m (aB r g))).length) (aS (((aZ l m (aB r g)).take (aZ l m (aB r g)).length).filter (ck W Hh l m (aB r g))).length)) (aU results124) [] rfl [4] (by decide) ⟨by rw[hfinL],by rw[hfinL]⟩ ?_)
  exact ar
 have h1n:=bnT h1
 have hr1:¬r = -1:=by simpa using h1d
 have hsf1:r-g=aB r g:=(if_neg hr1).symm
 have G25:=jn h1 (jn h1n (jn @aK (jn @aJ (jn @hsf1 G1))))
 refine aa G25 ?_
 refine hn3 _ _ (zQF hQ fun Q6 hn6 hQ6 he6=>?_)
 refine rcs G25 (fun h19 h19d G26=>?_) (fun h19 h19d G27=>?_)
 ·have hfinL:ex W Hh l m r g=[]:=if_pos h19d
  refine aa G26 ?_
  refine hQ6 _ _ (aM (.inl rfl) hbel (x1:=.sl none 0 (some 0)) (l2:=[.cells false 2 []]) (.sl (some (H.length,0)) 0 (some 0)) (aU results124) [.cells false 2 []] rfl [3] (by decide) ⟨by (rw[hfinL];rfl),by (rw[hfinL];rfl)⟩ ?_)
  exact ar
 have hfar:=h19d
 refine aa G27 ?_
 refine hn6 _ _ (zQF hQ fun Q7 hn7 hQ7 he7=>?_)
 refine aa G27 ?_
 refine cvr G27 (kq _ _ l m r (zA2 hb0s hbs) (by assumption)) ?_
 refine hn7 _ _ ?_
 refine ma false try_mixed [[0,1,2,3,4,5,6,7,8,9,10,11,12,13,14,15,16,17],[0,1,2,3,7,8,9,11,4,5,6,10,12,13,14,15,16,17],[0,1,2,3,7,8,9,10,4,5,6,11,12,13,14,15,16,17],[0,1,2,3,7,8,9,10,11,4,5,6,12,13,14,15,16,17]] (by kernel_rfl) (fun F2 H2=>F2=[(4,.ptr (some (H.length,0))),(8,.sl none 0 (some 0)),(9,.ptr (some (H.length+1,0))),(10,.sl (some (H.length+2,0)) ((aD l m).length) (aS (aD l m).length)),(11,.sl (some (H.length+3,0)) ((aZ l m (aB r g)).length) (aS (aZ l m (aB r g)).length))]/\H2=H++[.cells true 0 [iV W,iV Hh,.sl (some (bpp,0)) xs.length cpp],.cells true 0 [iV (aB r g)],.cells (aI (aD l m).length) 9 (r9 (aD l m)),.cells (aI (aZ l m (aB r g)).length) 2 (prs (aZ l m (aB r g)))]) ?_ ?_
 ·refine af ?_ (af ?_ (af ?_ (af ?_ (aQ))))<;>intro J hJ
  ·have q20:=jv (l:=aD l m) (by omega)
   have G28:=jn @ei (jn q20 G27)
   refine ag G28 ?_
   refine cx (ej _ _ _ _ _ _ _ (by assumption)) ?_
   have q21:=jw (l:=aD l m) (by omega)
   have G29:=jn q21 G28
   refine ag G29 ?_
   refine cx (eE _ l m _) ?_
   refine ag G29 ?_
   refine ai (hJ _ _ ⟨_,_,_,⟨rfl,rfl⟩,bS hbel [0,2,3,5] (al (jn @bH (jn @bQ (jn @cI @cB))))⟩)
  ·have q22:=jv (l:=aD l m) (by omega)
   have G30:=jn @ei (jn q22 G27)
   refine ag G30 ?_
   refine cx (ej _ _ _ _ _ _ _ (by assumption)) ?_
   have q23:=jw (l:=aD l m) (by omega)
   have G31:=jn q23 G30
   refine ag G31 ?_
   refine cx (eE _ l m _) ?_
   refine ag G31 ?_
   refine ai (hJ _ _ ⟨_,_,_,⟨rfl,rfl⟩,bS hbel [0,2,3,5] (al (jn @bH (jn @bQ (jn @cI @cB))))⟩)
  ·have q24:=jv (l:=aD l m) (by omega)
   have q25:=jw (l:=aD l m) (by omega)
   have G32:=jn @ei (jn q24 (jn q25 G27))
   refine ag G32 ?_
   refine cx (ej _ _ _ _ _ _ _ (by assumption)) ?_
   refine ag G32 ?_
   refine cx (eE _ l m _) ?_
   refine ag G32 ?_
   refine ai (hJ _ _ ⟨_,_,_,⟨rfl,rfl⟩,bS hbel [0,2,3,5] (al (jn @bH (jn @bQ (jn @cI @cB))))⟩)
  have q26:=jv (l:=aD l m) (by omega)
  have q27:=jw (l:=aD l m) (by omega)
  have G33:=jn @ei (jn q26 (jn q27 G27))
  refine ag G33 ?_
  refine cx (ej _ _ _ _ _ _ _ (by assumption)) ?_
  refine ag G33 ?_
  refine cx (eE _ l m _) ?_
  refine ag G33 ?_
  refine ai (hJ _ _ ⟨_,_,_,⟨rfl,rfl⟩,bS hbel [0,2,3,5] (al (jn @bH (jn @bQ (jn @cI @cB))))⟩)
 rintro F2 H2 ⟨rfl,rfl⟩
 refine fnF ?_
 have G34:=jn @ei (jn @lf (jn @ba (jn @cp G27)))
 refine aa G34 ?_
 refine glp (fun k F Hx=>∃j:Nat,j+k=(aZ l m (aB r g)).length/\F=[(4,.ptr (some (H.length,0))),(9,.ptr (some (H.length+1,0))),(10,.sl (some (H.length+2,0)) ((aD l m).length) (aS (aD l m).length)),(13,.sl (some (H.length+4,0)) ((((aZ l m (aB r g)).take j).filter (ck W Hh l m (aB r g))).length) (aS (((aZ l m (aB r g)).take j).filter (ck W Hh l m (aB r g))).length)),(49,.sl (some (H.length+3,0)) ((aZ l m (aB r g)).length) (aS (aZ l m (aB r g)).length)),(50,iV (((aZ l m (aB r g)).length:Nat):Int)),(51,iV (j:Int))]/\Hx=H++[.cells true 0 [iV W,iV Hh,.sl (some (bpp,0)) xs.length cpp],.cells true 0 [iV (aB r g)],.cells (aI (aD l m).length) 9 (r9 (aD l m)),.cells (aI (aZ l m (aB r g)).length) 2 (prs (aZ l m (aB r g))),.cells (aI (((aZ l m (aB r g)).take j).filter (ck W Hh l m (aB r g))).length) 2 (prs (((aZ l m (aB r g)).take j).filter (ck W Hh l m (aB r g))))]) ((aZ l m (aB r g)).length) ?_ ?_
 ·refine⟨_,_,_,⟨0,by omega,rfl,rfl⟩,Abs.byG hbel [.cells false 2 []] rfl [0,1,2,3,4] (by decide) ?_⟩
  exact al (jn @List.take_zero.{0} (jn @List.filter_nil.{0} (jn @bH (jn @bQ (jn @cI @cB)))))
 rintro k0 F Hx ⟨j,hm0,rfl,rfl⟩ J0 hJ0
 refine rcs G34 (fun h28 h28d _=>?_) (fun h28 h28d G47=>?_)
 ·have hlt:j<(aZ l m (aB r g)).length:=by omega
  have hpr:=(bC hlt).symm
  have hst:=qH (p:=(ck W Hh l m (aB r g))) hlt
  have hfln:=flt_len (p:=(ck W Hh l m (aB r g))) (l:=(aZ l m (aB r g))) (j:=j)
  have q29:=bN (l:=aZ l m (aB r g)) (j:=j) (by omega)
  have G35:=jn h28 (jn h28d (jn q29 G34))
  refine aa G35 ?_
  rcases Bool.eq_false_or_eq_true (sqO (g1 (aZ l m (aB r g)) j) (g2 (aZ l m (aB r g)) j)) with h30|h30
  ·have h30d:=h30
   have hsq:=h30d
   refine cv (psqr_t _ _ _ (by assumption)) ?_
   have G36:=j2 h30 h30d G35
   refine aa G36 ?_
   refine cv (dq _ _ 0 _) ?_
   refine rgs G36 (fun h31 h31d G37=>?_) (fun h31 h31d G42=>?_)
   ·have hbx:=h31d
    refine aa G37 ?_
    refine cv (dq _ _ 0 _) ?_
    refine rgs G37 (fun h32 h32d G38=>?_) (fun h32 h32d G41=>?_)
    ·have hby:=h32d
     refine aa G38 ?_
     refine cv (has_r _ _ (aD l m) ⟨_,_,_,by rfl,by (rw[ah];rfl)⟩ (by omega) _ [.ptr (some (H.length+6,0)),.ptr (some (H.length+1,0))] (by kernel_rfl) (by simp[AV.bels,AV.bel]) (fun e=>!psC e (aB r g) (g1 (aZ l m (aB r g)) j,g2 (aZ l m (aB r g)) j)) (fun j' hj'=>kprv1_c _ _ _ _ _ _ _ _ _ _ _ _ _ _ _ _ _ ⟨_,by (rw[ah];rfl)⟩ ⟨_,by (rw[ah];rfl)⟩ (hpair _ hj'))) ?_
     refine rcs G38 (fun h33 h33d _=>?_) (fun h33 h33d G40=>?_)
     ·have hok:ck W Hh l m (aB r g) (g1 (aZ l m (aB r g)) j,g2 (aZ l m (aB r g)) j)=true:=by unfold ck prvB;rw[hbx,hby,List.all_eq_not_any_not,h33d];rfl
      rw[hpr,if_pos hok] at hst
      have G39:=jn h33 (jn h33d (jn @cH G38))
      refine aa G39 ?_
      refine hJ0 _ _ ⟨k0-1,by omega,_,_,_,⟨j+1,by omega,rfl,rfl⟩,bS hbel [0,1,2,3,8] (al (jn @hst (jn @bH (jn @bQ (jn @cI @cB)))))⟩
     have hok:ck W Hh l m (aB r g) (g1 (aZ l m (aB r g)) j,g2 (aZ l m (aB r g)) j)=false:=by unfold ck prvB;rw[hbx,hby,List.all_eq_not_any_not,h33d];rfl
     rw[hpr,if_neg (by rw[hok];decide),List.append_nil] at hst
     refine aa G40 ?_
     refine hJ0 _ _ ⟨k0-1,by omega,_,_,_,⟨j+1,by omega,rfl,rfl⟩,bS hbel [0,1,2,3,4] (al (jn @hst (jn @bH (jn @bQ (jn @cI @cB)))))⟩
    have hok:ck W Hh l m (aB r g) (g1 (aZ l m (aB r g)) j,g2 (aZ l m (aB r g)) j)=false:=by unfold ck;rw[hbx,h32d];rfl
    rw[hpr,if_neg (by rw[hok];decide),List.append_nil] at hst
    refine aa G41 ?_
    refine hJ0 _ _ ⟨k0-1,by omega,_,_,_,⟨j+1,by omega,rfl,rfl⟩,bS hbel [0,1,2,3,4] (al (jn @hst (jn @bH (jn @bQ (jn @cI @cB)))))⟩
   have hok:ck W Hh l m (aB r g) (g1 (aZ l m (aB r g)) j,g2 (aZ l m (aB r g)) j)=false:=by unfold ck;rw[h31d];rfl
   rw[hpr,if_neg (by rw[hok];decide),List.append_nil] at hst
   refine aa G42 ?_
   refine hJ0 _ _ ⟨k0-1,by omega,_,_,_,⟨j+1,by omega,rfl,rfl⟩,bS hbel [0,1,2,3,4] (al (jn @hst (jn @bH (jn @bQ (jn @cI @cB)))))⟩
  have h30d:=h30
  have hsq:=h30d
  refine cv (psqr_f _ _ _ (by assumption)) ?_
  have G43:=j2 h30 h30d G35
  refine aa G43 ?_
  refine cv (dq _ _ 0 _) ?_
  refine rgs G43 (fun h34 h34d G44=>?_) (fun h34 h34d G46=>?_)
  ·have hbx:=h34d
   refine aa G44 ?_
   refine cv (dq _ _ 0 _) ?_
   refine rgs G44 (fun h35 h35d _=>?_) (fun h35 h35d G45=>?_)
   ·have hby:=h35d
    have hq1:=bm.1 hbx
    have hq2:=bm.1 hby
    exact absurd (show sqO (g1 (aZ l m (aB r g)) j) (g2 (aZ l m (aB r g)) j)=true by unfold sqO;rw[Bool.and_eq_true,bx,bx];omega) (by rw[hsq];decide)
   have hok:ck W Hh l m (aB r g) (g1 (aZ l m (aB r g)) j,g2 (aZ l m (aB r g)) j)=false:=by unfold ck;rw[hbx,h35d];rfl
   rw[hpr,if_neg (by rw[hok];decide),List.append_nil] at hst
   refine aa G45 ?_
   refine hJ0 _ _ ⟨k0-1,by omega,_,_,_,⟨j+1,by omega,rfl,rfl⟩,bS hbel [0,1,2,3,4] (al (jn @hst (jn @bH (jn @bQ (jn @cI @cB)))))⟩
  have hok:ck W Hh l m (aB r g) (g1 (aZ l m (aB r g)) j,g2 (aZ l m (aB r g)) j)=false:=by unfold ck;rw[h34d];rfl
  rw[hpr,if_neg (by rw[hok];decide),List.append_nil] at hst
  refine aa G46 ?_
  refine hJ0 _ _ ⟨k0-1,by omega,_,_,_,⟨j+1,by omega,rfl,rfl⟩,bS hbel [0,1,2,3,4] (al (jn @hst (jn @bH (jn @bQ (jn @cI @cB)))))⟩
 obtain rfl:j=(aZ l m (aB r g)).length:=by omega
 have hfinL:((aZ l m (aB r g)).take (aZ l m (aB r g)).length).filter (ck W Hh l m (aB r g))=ex W Hh l m r g:=by rw[List.take_length];exact(if_neg hfar).symm
 refine aa G47 ?_
 refine hQ _ _ (aM (.inl rfl) hbel (x1:=.sl (some (H.length+4,0)) ((((aZ l m (aB r g)).take (aZ l m (aB r g)).length).filter (ck W Hh l m (aB r g))).length) (aS (((aZ l m (aB r g)).take (aZ l m (aB r g)).length).filter (ck W Hh l m (aB r g))).length)) (l2:=[.cells (aI (((aZ l m (aB r g)).take (aZ l m (aB r g)).length).filter (ck W Hh l m (aB r g))).length) 2 (prs (((aZ l m (aB r g)).take (aZ l m (aB r g)).length).filter (ck W Hh l m (aB r g))))]) (.sl (some (H.length,0)) ((((aZ l m (aB r g)).take (aZ l m (aB r g)).length).filter (ck W Hh l m (aB r g))).length) (aS (((aZ l m (aB r g)).take (aZ l m (aB r g)).length).filter (ck W Hh l m (aB r g))).length)) (aU results124) [] rfl [4] (by decide) ⟨by rw[hfinL],by rw[hfinL]⟩ ?_)
 exact ar
open Go.Sort
set_option maxRecDepth 100000 in
theorem sortc_f {α:Type} [Inhabited α] (val:α->Int×Int) (cf:α->α->Int) (hO:SWO (ltOf cf)) (g:FuncId) (eg:∀args w,(callFunc g args).run Tryz.prog w=.ok (.enter g args) w)
  (hcmp:∀(x y:α) (W:World),Calls Tryz.prog g #[.agg #[.int .i64 (val x).1,.int .i64 (val x).2],.agg #[.int .i64 (val y).1,.int .i64 (val y).2]] W fun e w'=>e=.returned (.int .i64 (cf x y))/\∃q os',w'=grow (W.drewN q) os')
  {H:ac} {b n:Nat} {cap:Option Nat} {zs:List α} (hg:H[b]? = some (.cells true 2 (prs (zs.map val)))) (hn:n=zs.length) (h0:0<n) (h1:n<=1000000) :
  ACalls Tryz.prog 125 [.sl (some (b,0)) n cap,.fn g []] H
   (fun v H'=>v=.tup []/\∃ys:List α,ys.Perm zs/\ys.Pairwise (fun x y=>ltOf cf y x=false)/\H'=H.set b (.cells true 2 (prs (ys.map val)))):=fun E w vs hE hv=>by
 obtain⟨v1,l1,rfl,k1,h1'⟩:=kX hv
 obtain⟨v2,l2,rfl,k2,h2'⟩:=kX h1'
 obtain rfl:=qb h2'
 have hf:v2=.func (.func g) #[] #[]:=by
  cases k2 with
  | fn _ _ cs hl _ =>
   have:cs=#[]:=by
    have:cs.size=0:=hl.symm
    exact Array.eq_empty_of_size_eq_zero this
   rw[this]
 subst hf
 cases k1 with
 |nils _ _ _ _=>exact absurd h0 (Nat.lt_irrefl 0)
 |sl _ _ _ _ c a hb h2 h3 h4 h5 h6 =>
 have hc:c≠0:=by omega
 obtain rfl:=h5.resolve_left hc
 obtain⟨m1,m2,-,-⟩:=hE.blk b _ hg
 obtain⟨o1,o2,o3,o4,o5⟩:=m2 rfl
 have hpl:(prs (zs.map val)).length=zs.length*2:=by rw[ba];simp
 have hH:HoldsK (encP val) 2 w (E.loc b).blk (E.loc b).off zs.toArray:=by
  show Holds id w _ _ (flatK (encP val) 2 zs.toArray)
  rw[pm]
  intro j hj
  have hj':j<zs.length*2:=by simpa [me] using hj
  refine⟨?_,(o5 j (by omega)).2⟩
  have hx:(prs (zs.map val))[j]? = some (prs (zs.map val))[j]:=List.getElem?_eq_getElem (by omega)
  obtain⟨-,v,hv,hr⟩:=m1 j _ hx
  rw[hv]
  obtain⟨u,hu,hru⟩:=(my (E:=E) (zs.map val)).get hx
  have:∀(k:Nat) (l:List (Int×Int)) (y:AV) (v u:Value),(prs l)[k]? = some y->Rel E y v->(fc l)[k]? = some u->v=u:=by
   intro k l
   induction l generalizing k with
   |nil=>intro y v u h;simp[prs] at h
   | cons p l ih =>
    intro y v u h1 h2 h3
    match k with
    |0=>simp[cJ,fc] at h1 h3;subst h1 h3;exact n8 h2
    |1=>simp[cJ,fc] at h1 h3;subst h1 h3;exact n8 h2
    | k+2 =>
     refine ih k y v u (by simpa [cJ] using h1) h2 ?_
     simpa [fc] using h3
  have e:=this j _ _ v u hx hr hu
  subst e
  simp[List.getElem!_eq_getElem?_getD,hu]
 have hcon:=AnyQ.slices_SortFunc Tryz.sort125 2 Tryz.isAgg104 Tryz.sizeOf104 (encP val) (fun _=>rfl) (fun x v hv=>by simp[encP] at hv;rcases hv with rfl|rfl<;>rfl) cf hO g #[] (E.loc b).blk (E.loc b).off c zs.toArray w eg
  (fun _ _ _ _ x y=>by simpa [encP] using hcmp x y _) hH o2 (by simp;omega)
 change Calls Tryz.prog 125 _ _ _ at hcon
 have hsz:zs.toArray.size=n:=by simp[hn]
 rw[hsz] at hcon
 refine hcon.mono fun e w' ⟨he,d',q,os,hp,hs,hw⟩=>?_
 subst hw
 obtain⟨p1,-,p3⟩:=hp
 have hperm:d'.toList.Perm zs:=by
  have a1:d'.extract 0 n=d':=by rw[<-hsz,<-p1];simp
  have a2:zs.toArray.extract 0 n=zs.toArray:=by rw[<-hsz];simp
  rw[a1,a2] at p3
  simpa using p3
 have hl:(d'.toList.map val).length=(zs.map val).length:=by simp[hperm.length_eq]
 refine⟨E,_,_,.tup [],he,⟨rfl,d'.toList,hperm,?_,rfl⟩,.refl E,.tup [] #[] rfl (fun i x v h=>by simp at h),?_⟩
 ·rw[List.pairwise_iff_getElem]
  intro i j hi hj hij
  have:=hs i j (Nat.zero_le _) hij (by have:=hperm.length_eq;simp at hj this;omega)
  simp at hi hj
  simpa [hi,hj] using this
 have hd:d'=d'.toList.toArray:=by simp
 have e1:sortWorldK (encP val) 2 w (E.loc b).blk (E.loc b).off q d' os=grow ((w.drewN q).setCells (E.loc b).blk (E.loc b).off (fc (d'.toList.map val))) os:=by
  unfold sortWorldK
  congr 1
  show putRow id (Sort.ahead w q) _ _ (flatK (encP val) 2 d')=_
  rw[hd,pm]
  have:=Lib.putRow_eq_setCells id w (E.loc b).blk (E.loc b).off (flatK (encP val) 2 zs.toArray) (fc (d'.toList.map val)) q hH (by rw[me,hl];simp)
  simpa using this
 rw[e1]
 exact hE.putP hg hl os
theorem or_h (a b:Int)(w:World)(blk off c:Nat)(h0:w.cell? ⟨blk,off,none⟩=some (.int .i64 a))(h1:w.cell? ⟨blk,off+1,none⟩=some (.int .i64 b)):
  Calls Tryz.prog 168 #[.slice (some ⟨blk,off,none⟩) 2 c] w fun e w'=>e=.returned (.int .i64 (if a=0 then b else a))/\w'=w:=by
 have g0:w.cell? ⟨blk,off+0,none⟩=some (.int .i64 a):=h0
 go_enter Tryz.func168,Tryz.ntmps168
 go_wp2
 go_loop [8] (fun i=>∃k:Nat,k<=2/\i=.int .i64 k/\Hid ((1<=k->a=0)/\(2<=k->b=0))) (fun i=>2-(intOf i).toNat)
 case atStart=>exact⟨0,by omega,rfl,⟨fun h=>by omega,fun h=>by omega⟩⟩
 case round =>
  obtain⟨k,hk,rfl,HK⟩:=hrel
  rcases (by omega:k=0\/k=1\/k=2) with rfl|rfl|rfl
  ·by_cases ha:a=0
   ·go_wp2
    go_round
    case rel=>exact⟨1,by omega,by go_num,⟨fun _=>ha,fun h=>by omega⟩⟩
    case measure=>simp[intOf]
   go_wp2
   go_ret
   exact⟨iu (by first|rfl|(rw[if_neg ha])),rfl⟩
  ·have ha:=HK.out.1 (by omega)
   by_cases hb:b=0
   ·go_wp2
    go_round
    case rel=>exact⟨2,by omega,by go_num,⟨fun _=>ha,fun h=>hb⟩⟩
    case measure=>simp[intOf]
   go_wp2
   go_ret
   exact⟨iu (by first|rfl|(rw[if_pos ha])),rfl⟩
  have ha:=HK.out.1 (by omega)
  have hb:=HK.out.2 (by omega)
  go_wp2
  go_ret
  exact⟨iu (by first|rfl|(rw[if_pos ha,hb])),rfl⟩
theorem lj (w:World)(cs:Array Value)(t B j:Nat)(hB:B=w.heap.size):(w.alloc (.cells cs t)).cell? ⟨B,j,none⟩=cs[j]? :=by
 subst hB
 unfold World.cell?
 have:(w.alloc (.cells cs t)).heap[w.heap.size]? = some (.cells cs t):=by
  show (w.heap.push _)[w.heap.size]? = _
  rw[Array.getElem?_push,if_pos rfl]
 rw[this];rfl
theorem nJ (w:World)(cs:Array Value)(t B j:Nat)(hB:B=w.heap.size):(w.alloc (.cells cs t)).drew.cell? ⟨B,j,none⟩=cs[j]? :=lj w cs t B j hB
def cfC (a b:Pt):Int:=if ib a.2 b.2=0 then ib a.1 b.1 else ib a.2 b.2
set_option maxHeartbeats 20000000 in
theorem before_h (x y:Pt)(W:World):Calls Tryz.prog 126 #[.agg #[.int .i64 x.1,.int .i64 x.2],.agg #[.int .i64 y.1,.int .i64 y.2]] W fun e w'=>e=.returned (.int .i64 (cfC x y))/\∃q os',w'=grow (W.drewN q) os':=by
 have hcon:=compare_h
 have hcon2:∀(w:World) (blk off c:Nat),w.cell? ⟨blk,off,none⟩=some (.int .i64 (ib x.2 y.2))->w.cell? ⟨blk,off+1,none⟩=some (.int .i64 (ib x.1 y.1)) ->
  Calls Tryz.prog 168 #[.slice (some ⟨blk,off,none⟩) 2 c] w fun e w'=>e=.returned (.int .i64 (cfC x y))/\w'=w:=by
  intro w blk off c h0 h1
  have k:=or_h (ib x.2 y.2) (ib x.1 y.1) w blk off c h0 h1
  unfold cfC
  exact k
 go_enter Tryz.func126,Tryz.ntmps126
 go_wp2_with (first|(go_at_call 169;refine(hcon _ _ _).mono ?_;rintro e w' ⟨rfl,rfl⟩)|fail)
 go_region_held3 (fun w'=>w'.cell? ⟨W.heap.size,0,none⟩=some (.int .i64 x.1)/\w'.cell? ⟨W.heap.size,1,none⟩=some (.int .i64 x.2)/\w'.cell? ⟨W.heap.size+1,0,none⟩=some (.int .i64 y.1)/\w'.cell? ⟨W.heap.size+1,1,none⟩=some (.int .i64 y.2)) (go_keep)
  (first
   |(go_at_call 169;refine(hcon _ _ _).mono ?_;rintro e w' ⟨rfl,rfl⟩)
   | (go_at_call 168;refine(hcon2 _ _ _ _ ?h1 ?h2).mono ?_;case h1=>first|exact(lj _ _ _ _ _ (by simp)).trans rfl|exact(nJ _ _ _ _ _ (by simp)).trans rfl
      case h2=>first|exact(lj _ _ _ _ _ (by simp)).trans rfl|exact(nJ _ _ _ _ _ (by simp)).trans rfl
      rintro e w' ⟨rfl,rfl⟩))
 go_wp2
 go_ret
 exact⟨rfl,1,_,by rw[alloc_eq_grow,alloc_eq_grow,alloc_eq_grow,grow_grow,grow_grow];rfl⟩
theorem lT (x y:Pt):ltOf cfC x y=decide (b9 x y):=by
 rw[Bool.eq_iff_iff]
 unfold ltOf
 rw[decide_eq_true_eq,decide_eq_true_eq]
 unfold cfC ib b9
 repeat' split
 all_goals omega
theorem swoC:SWO (ltOf cfC) where
 irrefl x:=by rw[lT,decide_eq_false_iff_not];exact qO
 trans x y z h1 h2:=by
  rw[lT,decide_eq_true_eq] at *
  exact ir h1 h2
 ntrans x y z h1 h2:=by
  rw[lT,decide_eq_false_iff_not] at *
  unfold b9 at *;omega
set_option maxRecDepth 100000 in
theorem sortc_c (H:ac)(b:Nat)(cap:Option Nat)(l:List Pt)(hb:H[b]? = some (.cells true 2 (prs l)))(h0:0<l.length)(h1:l.length<=1000000):
  ACalls Tryz.prog 125 [.sl (some (b,0)) l.length cap,.fn 126 []] H (fun v H'=>v=.tup []/\H'=H.set b (.cells true 2 (prs (dJ l)))):=by
 have eg:∀args w,(callFunc 126 args).run Tryz.prog w=.ok (.enter 126 args) w:=enters_of Tryz.func126 (by kernel_rfl) rfl
 refine(sortc_f (α:=Pt) id cfC swoC 126 eg (fun x y W=>before_h x y W) (zs:=l) (by rw[List.map_id];exact hb) rfl h0 h1).mono ?_
 rintro v H' ⟨rfl,ys,hp,hs,rfl⟩
 have e:ys=dJ l:=by
  refine qR (hp.trans (ga l).symm) (hs.imp fun {x y} h=>?_) (gV l)
  rw[lT,decide_eq_false_iff_not] at h
  rcases leC_tot x y with k|k
  ·exact k
  unfold leC at k ⊢
  rcases k with k|k
  ·exact .inl k.symm
  exact absurd k h
 rw[List.map_id,e]
 exact⟨rfl,rfl⟩
theorem pH {l:List (Int×Int)}{i m:Nat}(h:i+m<l.length):((prs l).drop (i*2+m*2)).take 2=[.int .i64 (g1 l (i+m)),.int .i64 (g2 l (i+m))]:=by
 rw[show i*2+m*2=(i+m)*2 by omega];exact bN h
def NoEq (l:List (Int×Int)) (i:Nat):Prop:=∀j:Nat,1<=j->(h:j<l.length)->j<i->l[j-1]'(by omega)≠l[j]
theorem mO {l:List (Int×Int)}:∀{i:Nat},i<=l.length->NoEq l i->cm (l.take i)=l.take i
 |0,_,_=>rfl
 |1,h,_=>cpt_1 (by rw[List.length_take];omega)
 | i+2,h,k=>by
  rw[mJ (by omega) (by omega),mO (i:=i+1) (by omega) (fun j h1 h2 h3=>k j h1 h2 (by omega)),if_neg (k (i+1) (by omega) (by omega) (by omega)),<-List.take_succ_eq_append_getElem]
theorem padL_id (l:List (Int×Int)):eo l.length l=l:=by simp[eo]
set_option maxRecDepth 100000 in
theorem cpt_cell (H:ac)(b:Nat)(cap:Option Nat)(l:List (Int×Int))(hb:H[b]? = some (.cells (aI l.length) 2 (prs l)))(hl:l.length<=1000000000):
  ACalls prog 127 [.sl (some (b,0)) l.length cap] H (fun v H'=>v=.sl (some (b,0)) (cm l).length none/\H'=H.set b (.cells (aI l.length) 2 (prs (eo l.length (cm l))))):=by
 have hbl:=getElem?_lt hb
 have hset:∀X L,(H.set b X++L)[b]? = some X:=fun X L=>by rw[List.getElem?_append_left (by simpa using hbl),List.getElem?_set_self hbl]
 have hset0:∀X,(H.set b X)[b]? = some X:=fun X=>List.getElem?_set_self hbl
 have hself:H.set b (.cells (aI l.length) 2 (prs l))=H:=by
  refine List.ext_getElem? fun i=>?_
  rw[List.getElem?_set]
  split
  ·rename_i e;subst e;first|exact hb.symm|(rw[if_pos hbl];exact hb.symm)
  rfl
 have hend:cm l=l->H.set b (.cells (aI l.length) 2 (prs (eo l.length (cm l))))=H:=fun e=>by rw[e,padL_id,hself]
 (refine co try_mixed func127 true _ rfl (Nat.le_of_ble_eq_true (by kernel_rfl)) (by kernel_rfl) ?_;intro hbel Q hQ hQ' c hc;unfold Tryz.f127 at hc;simp only[Option.some.injEq] at hc;subst hc;clear hQ')
 simp -implicitDefEqProofs (disch:=omega) only [simprocAttr,aG,aH,Function.comp_apply,one1,lenV,ak,ay,az,aop,AV.ofValue,AV.ofCell,AV.cells,AV.flat,AV.one,arep,aT,av,aE]
 refine cn (fun h1=>?_) (fun h1=>?_)
 ·have h1d:=of_decide_eq_true h1
  have e:=cpt_1 (l:=l) (by omega)
  simp -implicitDefEqProofs (disch:=omega) only [h1,simprocAttr,aG,aH,Function.comp_apply,one1,lenV,ak,ay,az,aop,AV.ofValue,AV.ofCell,AV.cells,AV.flat,AV.one,arep,aT,av,aE]
  exact hQ _ _ (ly (.inl rfl) hbel (x1:=.sl (some (b,0)) l.length cap) (l2:=[]) (.sl (some (b,0)) (cm l).length none) (aU results127) [] rfl [] (by decide) ⟨rfl,by rw[List.append_nil,hend e]⟩ (by rw[e];exact ar))
 have h1d:=of_decide_eq_false h1
 have hown:aI l.length=true:=dD (by omega)
 rw[hown] at hb hself
 simp -implicitDefEqProofs (disch:=omega) only [h1,simprocAttr,aG,aH,Function.comp_apply,one1,lenV,ak,ay,az,aop,AV.ofValue,AV.ofCell,AV.cells,AV.flat,AV.one,arep,aT,av,aE]
 refine glp (fun k F Hx=>∃i:Nat,i+k=l.length/\1<=i/\NoEq l i/\F=[(0,.sl (some (b,0)) l.length cap),(3,.int .i64 (i:Int))]/\H=Hx) (l.length-1) ?_ ?_
 ·refine⟨_,_,_,⟨1,by omega,by omega,fun j h2 h3 h4=>by omega,rfl,rfl⟩,Abs.by0 hbel ?_⟩
  exact ar
 rintro k F Hx ⟨i,hik,hi1,hne,rfl,rfl⟩ J hJ
 by_cases hi:i<l.length
 ·have hii:(i:Int)<(l.length:Int):=by omega
  have q1:=bN (l:=l) (j:=i) hi
  have q2:=bN (l:=l) (j:=i-1) (by omega)
  have hsub:((i:Int)-1).toNat=i-1:=by omega
  simp -implicitDefEqProofs (disch:=omega) only [hii,hb,q1,q2,hsub,ba,cp,simprocAttr,aG,aH,Function.comp_apply,one1,lenV,ak,ay,az,aop,AV.ofValue,AV.ofCell,AV.cells,AV.flat,AV.one,arep,aT,av,aE]
  repeat refine And.intro (by omega) ?_
  refine cn (fun h2=>?_) (fun h2=>?_)
  ·have heq:l[i-1]'(by omega)=l[i]:=by
    simp only[Bool.and_eq_true,beq_iff_eq] at h2
    rw[<-bC hi,<-bC (show i-1<l.length by omega),h2.1,h2.2]
   have hc0:cm (l.take (i+1))=l.take i:=by rw[mJ hi1 hi,if_pos heq,List.append_nil,mO (by omega) hne]
   have hcl:(cm (l.take (i+1))).length=i:=by rw[hc0,List.length_take];omega
   have hsl:((i:Int)-0).toNat=i:=by omega
   simp -implicitDefEqProofs (disch:=omega) only [h2,hb,ba,cp,simprocAttr,aG,aH,Function.comp_apply,one1,lenV,ak,ay,az,aop,AV.ofValue,AV.ofCell,AV.cells,AV.flat,AV.one,arep,aT,av,aE]
   repeat refine And.intro (by omega) ?_
   refine glp (fun k F Hx=>∃(j c:Nat) (X:List (Int×Int)),j+k=l.length/\i+1<=j/\c=(cm (l.take j)).length/\c<j/\X.length=l.length/\X.take c=cm (l.take j)/\X.drop (j-1)=l.drop (j-1)/\F=[(0,.sl (some (b,0)) l.length cap),(3,.int .i64 (c:Int)),(4,.sl (some (b,i*2)) (l.length-i) none),(5,.int .i64 ((j-i:Nat):Int))]/\Hx=H.set b (.cells true 2 (prs X))) (l.length-(i+1)) ?_ ?_
   ·refine⟨_,_,_,⟨i+1,i,l,by omega,by omega,hcl.symm,by omega,rfl,hc0.symm,rfl,rfl,rfl⟩,Abs.by0e hself hbel ?_⟩
    have hi1':((i+1-i:Nat):Int)=1:=by omega
    exact aF @hi1'
   rintro k F Hx ⟨j,c,X,hjk,hij,hc,hcj,hXl,hXt,hXd,rfl,rfl⟩ J2 hJ2
   obtain⟨G,hG⟩:∃G,G=H.set b (.cells true 2 (prs X)):=⟨_,rfl⟩
   have hGl:G.length=H.length:=by rw[hG,List.length_set]
   have hG1:∀L,(G++L)[b]? = some (.cells true 2 (prs X)):=fun L=>by rw[hG];exact hset _ _
   have hG0:G[b]? = some (.cells true 2 (prs X)):=by rw[hG];exact hset0 _
   have hbG:b<G.length:=by omega
   have hGs0:∀Y,G.set b Y=H.set b Y:=fun Y=>by rw[hG,List.set_set]
   have hGs:∀Y L,(G++L).set b Y=H.set b Y++L:=fun Y L=>by rw[List.set_append_left _ _ hbG,hG,List.set_set]
   rw[<-hG]
   have hbelG:HBel H.length G:=by rw[hG];exact HBel.put hbel b fM
   by_cases hj:j<l.length
   ·have hjj:((j-i:Nat):Int)<((l.length-i:Nat):Int):=by omega
    have hXj:∀q,j-1<=q->(hq:q<l.length)->X[q]'(by omega)=l[q]:=fun q h1 hq=>by
     have:=congrArg (fun m=>m[q-(j-1)]?) hXd
     simp only[List.getElem?_drop] at this
     rw[show j-1+(q-(j-1))=q by omega,List.getElem?_eq_getElem (by omega),List.getElem?_eq_getElem hq] at this
     exact Option.some.inj this
    have q3:=pH (l:=X) (i:=i) (m:=j-i) (by omega)
    have q4:=pH (l:=X) (i:=i) (m:=j-i-1) (by omega)
    have hsub2:(((j-i:Nat):Int)-1).toNat=j-i-1:=by omega
    rw[show i+(j-i)=j by omega] at q3
    rw[show i+(j-i-1)=j-1 by omega] at q4
    simp -implicitDefEqProofs (disch:=omega) only [hjj,hG1,hG0,q3,q4,hsub2,ba,cp,simprocAttr,aG,aH,Function.comp_apply,one1,lenV,ak,ay,az,aop,AV.ofValue,AV.ofCell,AV.cells,AV.flat,AV.one,arep,aT,av,aE]
    repeat refine And.intro (by omega) ?_
    have hst:=mJ (l:=l) (j:=j) (by omega) hj
    have hcX:c<X.length:=by omega
    have hjj2:((j+1-i:Nat):Int)=((j-i:Nat):Int)+1:=by omega
    have hpj:=bC (l:=X) (j:=j) (by omega)
    have hpj1:=bC (l:=X) (j:=j-1) (by omega)
    have hp2:=qw (a:=g1 X j) (b:=g2 X j) hcX
    have hXd2:X.drop j=l.drop j:=by
     have:=congrArg (fun m=>m.drop 1) hXd
     simp only[List.drop_drop] at this
     rwa [show j-1+1=j by omega] at this
    refine cn (fun h3=>?_) (fun h3=>?_)
    ·have hdif:¬l[j-1]'(by omega)=l[j]:=fun e=>by
      rw[<-hXj (j-1) (by omega) (by omega),<-hXj j (by omega) hj,<-hpj,<-hpj1] at e
      simp only[Prod.mk.injEq] at e
      rw[e.1,e.2] at h3
      simp at h3
     rw[if_neg hdif] at hst
     have hl5:(cm (l.take (j+1))).length=c+1:=by rw[hst,List.length_append,hc];rfl
     simp -implicitDefEqProofs (disch:=omega) only [h3,hG1,hG0,hGs,hGs0,q3,hp2,ba,cp,simprocAttr,aG,aH,Function.comp_apply,one1,lenV,ak,ay,az,aop,AV.ofValue,AV.ofCell,AV.cells,AV.flat,AV.one,arep,aT,av,aE]
     repeat refine And.intro (by omega) ?_
     refine hJ2 _ _ ⟨k-1,by omega,_,_,_,⟨j+1,c+1,X.set c (g1 X j,g2 X j),by omega,by omega,hl5.symm,by omega,by rw[List.length_set];exact hXl,?_,?_,rfl,rfl⟩,Abs.byS0 (by rw[List.length_set]) (HBel.put hbel b fM) ?_⟩
     ·rw[hst,List.take_succ_eq_append_getElem (by rw[List.length_set];exact hcX),List.getElem_set_self,List.take_set_of_le (Nat.le_refl _),hXt,hpj,hXj j (by omega) hj]
     ·rw[show j+1-1=j by omega,List.drop_set_of_lt (by omega),hXd2]
     exact aF (jn @hjj2 (jn @Int.natCast_add @Int.natCast_one))
    have heq2:l[j-1]'(by omega)=l[j]:=by
     rw[<-hXj (j-1) (by omega) (by omega),<-hXj j (by omega) hj,<-hpj,<-hpj1]
     simp only[Bool.not_eq_false',Bool.and_eq_true,beq_iff_eq] at h3
     rw[h3.1,h3.2]
    rw[if_pos heq2,List.append_nil] at hst
    simp -implicitDefEqProofs (disch:=omega) only [h3,simprocAttr,aG,aH,Function.comp_apply,one1,lenV,ak,ay,az,aop,AV.ofValue,AV.ofCell,AV.cells,AV.flat,AV.one,arep,aT,av,aE]
    refine hJ2 _ _ ⟨k-1,by omega,_,_,_,⟨j+1,c,X,by omega,by omega,by rw[hst];exact hc,by omega,hXl,by rw[hst];exact hXt,by rw[show j+1-1=j by omega];exact hXd2,rfl,hG⟩,Abs.byS0 hGl hbelG ?_⟩
    exact aF (jn @hjj2 (jn @Int.natCast_add @Int.natCast_one))
   have hjj:¬((j-i:Nat):Int)<((l.length-i:Nat):Int):=by omega
   have hrep:=(prs_rep (m:=l.length-c)).symm
   have hne0:(l.length-c==0)=false:=beq_eq_false_iff_ne.2 (by omega)
   have hspl:=no (l:=X) (ys:=List.replicate (l.length-c) (0,0)) (i:=c) (by rw[List.length_replicate];omega)
   rw[hXt] at hspl
   simp -implicitDefEqProofs (disch:=omega) only [hjj,hG1,hG0,hrep,hne0,hspl,hGs0,ba,cp,List.length_replicate,hset0,simprocAttr,aG,aH,Function.comp_apply,one1,lenV,ak,ay,az,aop,AV.ofValue,AV.ofCell,AV.cells,AV.flat,AV.one,arep,aT,av,aE]
   refine⟨by omega,⟨by omega,.inl (Nat.le_refl _)⟩,by omega,by omega,⟨by omega,.inl (by omega)⟩,?_⟩
   obtain rfl:j=l.length:=by omega
   rw[List.take_length] at hc ⊢
   refine hQ _ _ (end_byS (by rw[List.length_set]) (.inl rfl) (HBel.put hbel b fM) (x1:=.sl (some (b,0)) (c-0) (Option.map (fun x=>x-0) cap)) (.sl (some (b,0)) (cm l).length none) (aU results127) ⟨rfl,by rw[hown,hc];rfl⟩ ?_)
   exact aF (jn @hc @Nat.sub_zero)
  have hdif:¬l[i-1]'(by omega)=l[i]:=fun e=>by
   rw[<-bC hi,<-bC (show i-1<l.length by omega)] at e
   simp only[Prod.mk.injEq] at e
   rw[e.1,e.2] at h2
   simp at h2
  simp -implicitDefEqProofs (disch:=omega) only [h2,simprocAttr,aG,aH,Function.comp_apply,one1,lenV,ak,ay,az,aop,AV.ofValue,AV.ofCell,AV.cells,AV.flat,AV.one,arep,aT,av,aE]
  refine hJ _ _ ⟨k-1,by omega,_,_,_,⟨i+1,by omega,by omega,fun j h3 h4 h5=>by
   rcases Nat.lt_or_ge j i with h6|h6
   ·exact hne j h3 h4 h6
   obtain rfl:j=i:=by omega
   exact hdif,rfl,rfl⟩,Abs.by0 hbel ?_⟩
  exact aF (jn @Int.natCast_add @Int.natCast_one)
 have hii:¬(i:Int)<(l.length:Int):=by omega
 obtain rfl:i=l.length:=by omega
 have e:cm l=l:=by have:=mO (Nat.le_refl _) hne;rwa [List.take_length] at this
 simp -implicitDefEqProofs (disch:=omega) only [hii,simprocAttr,aG,aH,Function.comp_apply,one1,lenV,ak,ay,az,aop,AV.ofValue,AV.ofCell,AV.cells,AV.flat,AV.one,arep,aT,av,aE]
 exact hQ _ _ (ly (.inl rfl) hbel (x1:=.sl (some (b,0)) l.length cap) (l2:=[]) (.sl (some (b,0)) (cm l).length none) (aU results127) [] rfl [] (by decide) ⟨rfl,by rw[List.append_nil,hend e]⟩ (by rw[e];exact ar))
theorem bits0_c (H:ac):zC 167 [.int .u64 0] H (iV 0) H:=by
 have h:=ext_ok 167 [.int .u64 0] H (iV 0) none (by kernel_rfl)
 exact h.2.2
theorem ins0_c (H:ac)(s:AV)(g:FuncId)(hs:Sl H 2 s 0 []):zC 199 [s,iV 0,iV 0,.fn g []] H (.tup []) H:=by
 obtain⟨bs,os,cs,rfl,hbs,hbls,hb0s⟩:=zA1 hs
 refine AcN true func199 ?_;intro hbel Q hQ
 have G1:=jn @hbs @hb0s
 refine aa G1 ?_
 refine glp (fun k F Hx=>∃z:Unit,k=0/\F=[(0,.sl (some (bs,0)) 0 cs),(1,iV 0),(2,iV 0),(3,.fn g []),(8,iV 1)]/\H=Hx) (0) ?_ ?_
 ·refine⟨_,_,_,⟨(),by omega,rfl,rfl⟩,Abs.by0 hbel ?_⟩
  exact ar
 rintro k0 F Hx ⟨z,hm0,rfl,rfl⟩ J0 hJ0
 refine aa G1 ?_
 exact hQ _ _ (eh (by exact .inr rfl) hbel (x:=.tup []) (aU results199) rfl ⟨rfl,rfl⟩)
theorem pdq0_c (H:ac)(s:AV)(m:Int)(g:FuncId)(hs:Sl H 2 s 0 []):zC 166 [s,iV 0,iV 0,iV m,.fn g []] H (.tup []) H:=by
 obtain⟨bs,os,cs,rfl,hbs,hbls,hb0s⟩:=zA1 hs
 refine AcT true func166 ?_;intro hbel Q hQ
 have G2:=jn @hbs @hb0s
 refine aa G2 ?_
 refine glp (fun k F Hx=>∃z:Unit,k=0/\F=[(0,.sl (some (bs,0)) 0 cs),(1,iV 0),(2,iV 0),(3,iV m),(4,.fn g []),(10,.bool true),(11,.bool true)]/\H=Hx) (0) ?_ ?_
 ·refine⟨_,_,_,⟨(),by omega,rfl,rfl⟩,Abs.by0 hbel ?_⟩
  exact ar
 rintro k0 F Hx ⟨z,hm0,rfl,rfl⟩ J0 hJ0
 refine aa G2 ?_
 refine cvr G2 (ins0_c _ _ g (zA2 hb0s hbs)) ?_
 exact eQ hQ hbel (.tup []) results166 ⟨rfl,rfl⟩
theorem srt0_c (H:ac)(s:AV)(g:FuncId)(hs:Sl H 2 s 0 []):zC 125 [s,.fn g []] H (.tup []) H:=by
 obtain⟨bs,os,cs,rfl,hbs,hbls,hb0s⟩:=zA1 hs
 refine AcN true func125 ?_;intro hbel Q hQ
 have G3:=jn @hbs @hb0s
 refine aa G3 ?_
 refine cvr G3 (bits0_c _) ?_
 refine cvr G3 (pdq0_c _ _ 0 g (zA2 hb0s hbs)) ?_
 exact hQ _ _ (eh (by exact .inr rfl) hbel (x:=.tup []) (aU results125) rfl ⟨rfl,rfl⟩)
theorem srtk_c (H:ac)(b:Nat)(cap:Option Nat)(l:List (Int×Int))(hb:H[b]? = some (.cells (aI l.length) 2 (prs l)))(h1:l.length<=1000000):
  zC 125 [.sl (some (b,0)) l.length cap,.fn 126 []] H (.tup []) (H.set b (.cells (aI l.length) 2 (prs (dJ l)))):=by
 rcases Nat.eq_zero_or_pos l.length with h0|h0
 ·obtain rfl:=List.eq_nil_of_length_eq_zero h0
  rw[mK]
  have hself:H.set b (.cells (aI ([]:List (Int×Int)).length) 2 (prs []))=H:=by
   refine List.ext_getElem? fun i=>?_
   rw[List.getElem?_set]
   split
   ·rename_i e;subst e;(rw[if_pos (getElem?_lt hb)];exact hb.symm)
   rfl
  rw[hself]
  exact srt0_c H _ _ ⟨b,_,cap,rfl,hb⟩
 rw[dD h0] at hb ⊢
 exact sortc_c H b cap l hb h0 h1
theorem cptk_c (H:ac)(b:Nat)(cap:Option Nat)(l:List (Int×Int))(hb:H[b]? = some (.cells (aI l.length) 2 (prs (dJ l))))(h1:l.length<=1000000):
  zC 127 [.sl (some (b,0)) l.length cap] H (.sl (some (b,0)) (cm (dJ l)).length none) (H.set b (.cells (aI l.length) 2 (prs (eo (dJ l).length (cm (dJ l)))))):=by
 have h:=cpt_cell H b cap (dJ l) (by rw[fP];exact hb) (by rw[fP];omega)
 rw[fP l] at h ⊢
 exact h
theorem kall_c (H:ac)(W Hh:Int)(pp:AV)(xs:List Int)(s:AV)(l:List T6)(q:AV)(sc:List (Int×Int))(g:Int)(hpp:zI H pp xs)(hs:Sl H 6 s l.length (r6 l))(hq:SlP H q sc)(hV:bK W Hh xs=true)(hS:bk l=true)(hl0:0<l.length)(hsB:bP sc=true)(hg:1<=g/\g<=32):zC 82 [.agg [iV W,iV Hh,pp],s,q,iV g] H (.sl (some (H.length,0)) ((aY W Hh l sc g).length) none) (H++[.cells (aI (gu W Hh l sc g).length) 2 (prs (aY W Hh l sc g))]):=by
 obtain⟨bpp,opp,cpp,rfl,hbpp,hblpp,hb0pp⟩:=zA1 hpp
 obtain⟨bs,os,cs,rfl,hbs,hbls,hb0s⟩:=zA1 hs
 obtain⟨bq,oq,cq,rfl,hbq,hblq,hb0q⟩:=zA1 hq
 have hsc:=cw.1 hsB
 have hpl:=lR W Hh l sc g sc.length
 refine AcT false func82 ?_;intro hbel Q hQ
 have G1:=jn @hbpp (jn @hb0pp (jn @hbs (jn @hb0s (jn @hbq @hb0q))))
 refine aa G1 ?_
 refine cv (lh _ _ l (zA2 hb0s hbs) (by assumption)) ?_
 refine rcs G1 (fun h1 h1d G2=>?_) (fun h1 h1d G3=>?_)
 ·have hfinA:=mL (W:=W) (Hh:=Hh) (sc:=sc) (g:=g) h1d
  refine aa G2 ?_
  refine hQ _ _ (aM (.inl rfl) hbel (x1:=.sl none 0 (some 0)) (l2:=[.cells false 2 []]) (.sl (some (H.length,0)) 0 none) (aU results82) [.cells false 2 []] rfl [1] (by decide) ⟨by (rw[hfinA.1];rfl),by (rw[hfinA.1,hfinA.2];rfl)⟩ ?_)
  exact aF @iZ
 have htau:=h1d
 have hfinB:gu W Hh l sc g=prS W Hh l sc g sc.length:=if_pos htau
 refine aa G3 ?_
 refine glp (fun k F Hx=>∃i:Nat,i+k=sc.length/\F=[(1,.sl (some (bs,0)) l.length cs),(3,iV g),(4,.ptr (some (H.length,0))),(9,.sl (some (H.length+1,0)) ((prS W Hh l sc g i).length) (aS (prS W Hh l sc g i).length)),(15,.sl (some (bq,0)) sc.length cq),(16,iV (sc.length:Int)),(17,iV (i:Int))]/\Hx=H++[.cells true 0 [iV W,iV Hh,.sl (some (bpp,0)) xs.length cpp],.cells (aI (prS W Hh l sc g i).length) 2 (prs (prS W Hh l sc g i))]) (sc.length) ?_ ?_
 ·refine⟨_,_,_,⟨0,by omega,rfl,rfl⟩,Abs.byG hbel [.cells false 2 []] rfl [0,1] (by decide) ?_⟩
  exact al @prS.eq_1
 rintro k0 F Hx ⟨i,hm0,rfl,rfl⟩ J0 hJ0
 have G4:=jn @ba (jn @cp G3)
 refine rcs G4 (fun h2 h2d _=>?_) (fun h2 h2d G9=>?_)
 ·have hlt:i<sc.length:=by omega
  have hbi:=fm.1 (hsc.2 _ (List.getElem_mem hlt))
  rw[<-bC hlt] at hbi
  have hpi:=lR W Hh l sc g i
  have hvl:=qI W Hh l (g1 sc i) (g2 sc i) g
  have q3:=bN (l:=sc) (j:=i) (by omega)
  have G5:=jn h2 (jn h2d (jn q3 G4))
  refine aa G5 ?_
  refine cv (proven_c _ W _ _ xs _ l _ _ g (zA2 hb0pp hbpp) (zA2 hb0s hbs) hV hS hl0 (by omega) (by omega)) ?_
  rcases Nat.eq_zero_or_pos ((ex W Hh l (g1 sc i) (g2 sc i) g).length) with h4|h4
  ·have h4e:ex W Hh l (g1 sc i) (g2 sc i) g=[]:=List.eq_nil_of_length_eq_zero h4
   rcases Nat.eq_zero_or_pos ((prS W Hh l sc g i).length) with h5|h5
   ·have h5e:prS W Hh l sc g i=[]:=List.eq_nil_of_length_eq_zero h5
    have G6:=jn h4 (jn h5 (jn @nh (jn @ni G5)))
    refine aa G6 ?_
    refine hJ0 _ _ ⟨k0-1,by omega,_,_,_,⟨i+1,by omega,rfl,rfl⟩,bS hbel [0,1] (al (jn @prS.eq_2 (jn @List.append_nil.{0} (jn h4e @h5e))))⟩
   have h5c:=iQ h5
   have h5o:=dD h5
   have h5z:((prS W Hh l sc g i).length==0)=false:=beq_eq_false_iff_ne.2 (by omega)
   have G7:=jn h4 (jn h5c (jn h5o (jn h5z (jn @lC G5))))
   refine aa G7 ?_
   refine hJ0 _ _ ⟨k0-1,by omega,_,_,_,⟨i+1,by omega,rfl,rfl⟩,bS hbel [0,4] (al (jn @prS.eq_2 (jn @List.append_nil.{0} (jn h4e (jn h5c (jn h5o @Nat.add_zero))))))⟩
  have h4z:decide (0<(ex W Hh l (g1 sc i) (g2 sc i) g).length)=true:=decide_eq_true h4
  have h4c:=iQ (n:=(prS W Hh l sc g i).length+(ex W Hh l (g1 sc i) (g2 sc i) g).length) (by omega)
  have h4o:=dD (n:=(prS W Hh l sc g i).length+(ex W Hh l (g1 sc i) (g2 sc i) g).length) (by omega)
  have G8:=jn h4 (jn h4z (jn @lC G5))
  refine aa G8 ?_
  refine hJ0 _ _ ⟨k0-1,by omega,_,_,_,⟨i+1,by omega,rfl,rfl⟩,bS hbel [0,4] (al (jn @prS.eq_2 (jn @List.append_nil.{0} (jn h4c @h4o))))⟩
 obtain rfl:i=sc.length:=by omega
 refine aa G9 ?_
 refine cvr G9 (srtk_c _ _ _ (prS W Hh l sc g sc.length) (by (rw[ah];rfl)) (by omega)) ?_
 refine cvr G9 (cptk_c _ _ _ (prS W Hh l sc g sc.length) (by (rw[ah];rfl)) (by omega)) ?_
 refine hQ _ _ (aM (.inl rfl) hbel (x1:=.sl (some (H.length+1,0)) ((cm (dJ (prS W Hh l sc g sc.length))).length) none) (l2:=[.cells (aI (prS W Hh l sc g sc.length).length) 2 (prs (cm (dJ (prS W Hh l sc g sc.length))))]) (.sl (some (H.length,0)) ((cm (dJ (prS W Hh l sc g sc.length))).length) none) (aU results82) [] rfl [1] (by decide) ⟨by unfold aY;rw[hfinB],by unfold aY;rw[hfinB]⟩ ?_)
 exact aF @iZ
theorem ksus_c (H:ac)(s:AV)(l:List T6)(m r g:Int)(hs:Sl H 6 s l.length (r6 l))(hS:bk l=true)(hr : -1<=r/\r<=1024)(hg:1<=g/\g<=32):zC 84 [s,.agg [iV m,iV r],iV g] H (.sl (some (H.length,0)) ((bJ l m r g).length) none) (H++[.cells (aI (ey l m r g).length) 2 (prs (bJ l m r g))]):=by
 obtain⟨bs,os,cs,rfl,hbs,hbls,hb0s⟩:=zA1 hs
 have hda:=km hS m
 have hsl:=jV (aD l m) r g (aD l m).length
 have hpair:∀j',j'<(aD l m).length->bxB (g91 (aD l m) j') (g92 (aD l m) j') (g93 (aD l m) j') (g94 (aD l m) j') (g95 (aD l m) j') (g96 (aD l m) j')=true:=fun j' hj'=>by
  have k:=ov hS (g9_mem hj')
  unfold pairB at k;rw[Bool.and_eq_true] at k;exact k.1
 refine AcT false func84 ?_;intro hbel Q hQ
 have G1:=jn @hbs @hb0s
 refine rgs G1 (fun h1 h1d _=>?_) (fun h1 h1d _=>?_)
 ·have h1n:=bnT h1
  have hr1:¬r = -1:=by simpa using h1d
  have G2:=jn h1 (jn h1n (jn @aK (jn @aJ G1)))
  refine aa G2 ?_
  refine cv (lh _ _ l (zA2 hb0s hbs) (by assumption)) ?_
  refine rcs G2 (fun h2 h2d G3=>?_) (fun h2 h2d G4=>?_)
  ·have hfinA:=kn (l:=l) (m:=m) (r:=r) (g:=g) (.inr h2d)
   refine aa G3 ?_
   refine hQ _ _ (aM (.inl rfl) hbel (x1:=.sl none 0 (some 0)) (l2:=[.cells false 2 []]) (.sl (some (H.length,0)) 0 none) (aU results84) [.cells false 2 []] rfl [1] (by decide) ⟨by (rw[hfinA.1];rfl),by (rw[hfinA.1,hfinA.2];rfl)⟩ ?_)
   exact aF @iZ
  have htau:=h2d
  have hdt:=qS hS htau m
  have hfinB:ey l m r g=swS (aD l m) r g (aD l m).length:=by unfold ey;rw[decide_eq_false hr1,htau];rfl
  refine aa G4 ?_
  refine cvr G4 (kq _ _ l m r (zA2 hb0s hbs) (by assumption)) ?_
  refine glp (fun k F Hx=>∃i:Nat,i+k=(aD l m).length/\F=[(2,iV g),(4,.ptr (some (H.length,0))),(7,.sl (some (H.length+2,0)) ((swS (aD l m) r g i).length) (aS (swS (aD l m) r g i).length)),(22,.sl (some (H.length+1,0)) ((aD l m).length) (aS (aD l m).length)),(23,iV (((aD l m).length:Nat):Int)),(24,iV (i:Int))]/\Hx=H++[.cells true 0 [iV m,iV r],.cells (aI (aD l m).length) 9 (r9 (aD l m)),.cells (aI (swS (aD l m) r g i).length) 2 (prs (swS (aD l m) r g i))]) ((aD l m).length) ?_ ?_
  ·refine⟨_,_,_,⟨0,by omega,rfl,rfl⟩,Abs.byG hbel [.cells false 2 []] rfl [0,1,2] (by decide) ?_⟩
   exact al (jn @swS.eq_1 (jn @bH (jn @bQ (jn @cI @cB))))
  rintro k0 F Hx ⟨i,hm0,rfl,rfl⟩ J0 hJ0
  have G5:=jn @ei (jn @lf (jn @ba (jn @cp G4)))
  refine rcs G5 (fun h3 h3d _=>?_) (fun h3 h3d G10=>?_)
  ·have hpi:=hpair i (by omega)
   have hsi:=jV (aD l m) r g i
   have hvl:=jb (g91 (aD l m) i) (g92 (aD l m) i) (g93 (aD l m) i) (g94 (aD l m) i) (g97 (aD l m) i) (g98 (aD l m) i) (g99 (aD l m) i) (if 0<r-g then r-g else 0) (r+g)
   have q4:=r9_load (l:=aD l m) (j:=i) (by omega)
   have G6:=jn h3 (jn h3d (jn q4 G5))
   refine aa G6 ?_
   refine cdr G6 (rect_c _ _ _ _ _ _ _ hpi) ?_
   refine cx (swept_c _ _ _ _ _ _ _ _ _ _) ?_
   rcases Nat.eq_zero_or_pos ((bv (g91 (aD l m) i) (g92 (aD l m) i) (g93 (aD l m) i) (g94 (aD l m) i) (g97 (aD l m) i) (g98 (aD l m) i) (g99 (aD l m) i) (if 0<(r-g) then (r-g) else 0) (r+g)).length) with h5|h5
   ·have h5e:bv (g91 (aD l m) i) (g92 (aD l m) i) (g93 (aD l m) i) (g94 (aD l m) i) (g97 (aD l m) i) (g98 (aD l m) i) (g99 (aD l m) i) (if 0<(r-g) then (r-g) else 0) (r+g)=[]:=List.eq_nil_of_length_eq_zero h5
    rcases Nat.eq_zero_or_pos ((swS (aD l m) r g i).length) with h6|h6
    ·have h6e:swS (aD l m) r g i=[]:=List.eq_nil_of_length_eq_zero h6
     have G7:=jn h5 (jn h6 (jn @nh (jn @ni G6)))
     refine aa G7 ?_
     refine hJ0 _ _ ⟨k0-1,by omega,_,_,_,⟨i+1,by omega,rfl,rfl⟩,bS hbel [0,1,2] (al (jn @swS.eq_2 (jn @List.append_nil.{0} (jn h5e (jn h6e (jn @bH (jn @bQ (jn @cI @cB))))))))⟩
    have h6c:=iQ h6
    have h6o:=dD h6
    have h6z:((swS (aD l m) r g i).length==0)=false:=beq_eq_false_iff_ne.2 (by omega)
    have G8:=jn h5 (jn h6c (jn h6o (jn h6z (jn @lC G6))))
    refine aa G8 ?_
    refine hJ0 _ _ ⟨k0-1,by omega,_,_,_,⟨i+1,by omega,rfl,rfl⟩,bS hbel [0,1,5] (al (jn @swS.eq_2 (jn @List.append_nil.{0} (jn h5e (jn h6c (jn h6o (jn @Nat.add_zero (jn @bH (jn @bQ (jn @cI @cB))))))))))⟩
   have h5z:decide (0<(bv (g91 (aD l m) i) (g92 (aD l m) i) (g93 (aD l m) i) (g94 (aD l m) i) (g97 (aD l m) i) (g98 (aD l m) i) (g99 (aD l m) i) (if 0<(r-g) then (r-g) else 0) (r+g)).length)=true:=decide_eq_true h5
   have h5c:=iQ (n:=(swS (aD l m) r g i).length+(bv (g91 (aD l m) i) (g92 (aD l m) i) (g93 (aD l m) i) (g94 (aD l m) i) (g97 (aD l m) i) (g98 (aD l m) i) (g99 (aD l m) i) (if 0<(r-g) then (r-g) else 0) (r+g)).length) (by omega)
   have h5o:=dD (n:=(swS (aD l m) r g i).length+(bv (g91 (aD l m) i) (g92 (aD l m) i) (g93 (aD l m) i) (g94 (aD l m) i) (g97 (aD l m) i) (g98 (aD l m) i) (g99 (aD l m) i) (if 0<(r-g) then (r-g) else 0) (r+g)).length) (by omega)
   have G9:=jn h5 (jn h5z (jn @lC G6))
   refine aa G9 ?_
   refine hJ0 _ _ ⟨k0-1,by omega,_,_,_,⟨i+1,by omega,rfl,rfl⟩,bS hbel [0,1,5] (al (jn @swS.eq_2 (jn @List.append_nil.{0} (jn h5c (jn h5o (jn @bH (jn @bQ (jn @cI @cB))))))))⟩
  obtain rfl:i=(aD l m).length:=by omega
  refine aa G10 ?_
  refine cvr G10 (srtk_c _ _ _ (swS (aD l m) r g (aD l m).length) (by (rw[ah];rfl)) (by omega)) ?_
  refine cvr G10 (cptk_c _ _ _ (swS (aD l m) r g (aD l m).length) (by (rw[ah];rfl)) (by omega)) ?_
  refine hQ _ _ (aM (.inl rfl) hbel (x1:=.sl (some (H.length+2,0)) ((cm (dJ (swS (aD l m) r g (aD l m).length))).length) none) (l2:=[.cells (aI (swS (aD l m) r g (aD l m).length).length) 2 (prs (cm (dJ (swS (aD l m) r g (aD l m).length))))]) (.sl (some (H.length,0)) ((cm (dJ (swS (aD l m) r g (aD l m).length))).length) none) (aU results84) [] rfl [2] (by decide) ⟨by unfold bJ;rw[hfinB],by unfold bJ;rw[hfinB]⟩ ?_)
  exact aF @iZ
 have h1n:=bnT h1
 have hr1:r = -1:=by simpa using h1d
 have hfinA:=kn (l:=l) (m:=m) (g:=g) (.inl hr1)
 have G11:=jn h1 (jn h1n (jn @aK (jn @aJ G1)))
 refine aa G11 ?_
 refine hQ _ _ (aM (.inl rfl) hbel (x1:=.sl none 0 (some 0)) (l2:=[.cells false 2 []]) (.sl (some (H.length,0)) 0 none) (aU results84) [.cells false 2 []] rfl [1] (by decide) ⟨by (rw[hfinA.1];rfl),by (rw[hfinA.1,hfinA.2];rfl)⟩ ?_)
 exact aF @iZ
set_option maxRecDepth 100000 in
theorem mP (H:ac)(s:AV)(xs:List Int)(hs:zI H s xs)(hl:xs.length<=1000000)(h0:0<xs.length):zC 63 [s] H (.sl (some (H.length,0)) xs.length none) (H++[.cells true 1 (ints .u8 xs)]):=by
 obtain⟨b,own,cap,rfl,hb⟩:=hs
 have hbl:=getElem?_lt hb
 have hb0:=fun l=>ae (l:=l) hb
 generalize hm:xs.length=m at *
 refine AcT true func63 ?_;intro hbel Q hQ
 have htk:List.take m (ints .u8 xs)=ints .u8 xs:=List.take_of_length_le (by rw[bU];omega)
 have htk1:List.take (m*1) (ints .u8 xs)=ints .u8 xs:=List.take_of_length_le (by rw[bU];omega)
 have hm0:(m==0)=false:=beq_eq_false_iff_ne.2 (by omega)
 have hm1:(m != 0)=true:=bne_iff_ne.2 (by omega)
 simp -implicitDefEqProofs (disch:=omega) only [hb,hb0,Option.isNone_some,hm0,h0,htk,htk1,iM,hm1,simprocAttr,aG,aH,Function.comp_apply,one1,lenV,ak,ay,az,aop,AV.ofValue,AV.ofCell,AV.cells,AV.flat,AV.one,arep,aT,av,aE]
 repeat refine And.intro (by omega) ?_
 refine hQ _ _ (end_by (.inl rfl) hbel (x1:=.sl (some (H.length+1,0)) m none) (.sl (some (H.length,0)) m none) (aU results63) [1] (by decide) ⟨rfl,rfl⟩ ?_)
 exact absT
theorem susL_own {l:List T6}{m r g:Int}:aI (ey l m r g).length=aI (bJ l m r g).length:=by
 unfold bJ
 have h:=fP (ey l m r g)
 generalize dJ (ey l m r g)=s at *
 match s,h with
 |[],h=>rw[<-h];rfl
 | a::t,h =>
  have h2:a∈cm (a::t):=fO.2 (List.mem_cons_self ..)
  rw[dD (by rw[<-h];simp),dD (List.length_pos_of_mem h2)]
theorem ksus2_c (H:ac)(s:AV)(l:List T6)(m r g:Int)(hs:Sl H 6 s l.length (r6 l))(hS:bk l=true)(hr : -1<=r/\r<=1024)(hg:1<=g/\g<=32):zC 84 [s,.agg [iV m,iV r],iV g] H (.sl (some (H.length,0)) (bJ l m r g).length none) (H++[.cells (aI (bJ l m r g).length) 2 (prs (bJ l m r g))]):=by
 have h:=ksus_c H s l m r g hs hS hr hg
 rw[susL_own] at h
 exact h
theorem learn1_c (H:ac)(c1 c2 W Hh:Int)(pp:AV)(xs:List Int)(bz:Nat)(hpp:zI H pp xs)(hz:∃o,H[bz]? = some (.cells o 0 [iV W,iV Hh,pp]))(hV:bK W Hh xs=true):zC 85 [.agg [iV c1,iV c2],.ptr (some (bz,0))] H (.bool (frP W Hh xs (c1,c2))) H:=by
 obtain⟨bpp,opp,cpp,rfl,hbpp,hblpp,hb0pp⟩:=zA1 hpp
 obtain⟨oz,hbz⟩:=hz
 have hblz:=getElem?_lt hbz
 have hb0z:=fun l=>ae (l:=l) hbz
 refine AcT true func85 ?_;intro hbel Q hQ
 have G1:=jn @hbpp (jn @hb0pp (jn @hbz @hb0z))
 refine aa G1 ?_
 refine cvr G1 (pat_c _ W _ _ xs _ _ (zA2 hb0pp hbpp) hV) ?_
 exact eP hQ hbel (.bool ((atI W Hh xs c1 c2)==1)) results85 ⟨rfl,rfl⟩
theorem learn_c (H:ac)(W Hh:Int)(pp:AV)(xs:List Int)(s:AV)(l:List T6)(q:AV)(sc:List (Int×Int))(g:Int)(hpp:zI H pp xs)(hs:Sl H 6 s l.length (r6 l))(hq:SlP H q sc)(hl:l.length<=1000000000)(hsc:sc.length<=1000000000):zC 50 [.agg [iV W,iV Hh,pp],s,q,iV g] H (.tup [.agg [iV (lnZ W Hh xs l sc g W),iV (lnZ W Hh xs l sc g Hh),.sl (some (H.length,0)) ((lnX W Hh xs l sc g).length) none],iV (lnE W Hh xs l sc g)]) (H++[.cells (aI (lnX W Hh xs l sc g).length) 1 (ints .u8 (lnX W Hh xs l sc g))]):=by
 obtain⟨bpp,opp,cpp,rfl,hbpp,hblpp,hb0pp⟩:=zA1 hpp
 obtain⟨bs,os,cs,rfl,hbs,hbls,hb0s⟩:=zA1 hs
 obtain⟨bq,oq,cq,rfl,hbq,hblq,hb0q⟩:=zA1 hq
 (refine aR func50 _ rfl (Nat.le_of_ble_eq_true (by kernel_rfl)) rfl ?_;intro hbel Q hQ hQ' c hc;unfold Tryz.f50 at hc;simp only[Option.some.injEq] at hc;subst hc;clear hQ')
 refine fx false try_mixed (by kernel_rfl) (fun F Hx=>look F 1=.sl (some (bs,0)) l.length cs/\look F 2=.sl (some (bq,0)) sc.length cq/\look F 3=iV g/\look F 4=.ptr (some (H.length,0))/\look F 8=.ptr (some (H.length+1,0))/\look F 9=iV 0/\Hx=H++[.cells true 0 [iV W,iV Hh,.sl (some (bpp,0)) xs.length cpp],.cells true 0 [iV 0,iV 0,.sl none 0 (some 0)]]) ?_ ?_
 ·have G2:=jn @hbpp (jn @hb0pp (jn @hbs (jn @hb0s (jn @hbq @hb0q))))
  refine aa G2 ?_
  refine ai ?_
  exact absT
 rintro F Hx ⟨f1,f2,f3,f4,f5,f6,rfl⟩
 refine fx false try_mixed (by kernel_rfl) (fun F Hx=>cl W Hh xs l sc g=true/\look F 1=.sl (some (bs,0)) l.length cs/\look F 2=.sl (some (bq,0)) sc.length cq/\look F 3=iV g/\look F 4=.ptr (some (H.length,0))/\look F 8=.ptr (some (H.length+1,0))/\look F 9=iV 0/\Hx=H++[.cells true 0 [iV W,iV Hh,.sl (some (bpp,0)) xs.length cpp],.cells true 0 [iV 0,iV 0,.sl none 0 (some 0)]]) ?_ ?_
 ·have G3:=jn @hbpp (jn @hb0pp (jn @hbs (jn @hb0s (jn @hbq (jn @hb0q (jn @f1 (jn @f2 (jn @f3 (jn @f4 (jn @f5 @f6))))))))))
  refine aa G3 ?_
  refine cv (kright_c _ W _ _ xs _ l _ sc g (zA2 hb0pp hbpp) (zA2 hb0s hbs) (zA2 hb0q hbq) (by omega) (by omega)) ?_
  refine rcs G3 (fun h7 h7d G4=>?_) (fun h7 h7d G5=>?_)
  ·have hfinP:=ln_1 h7d
   refine aa G4 ?_
   refine hQ _ _ (aM (.inl rfl) hbel (x1:=.tup [.agg [iV 0,iV 0,.sl none 0 (some 0)],iV 1]) (l2:=[.cells false 1 []]) (.tup [.agg [iV 0,iV 0,.sl (some (H.length,0)) 0 none],iV 1]) (resTf (jn @f1 (jn @f2 (jn @f3 (jn @f4 (jn @f5 @f6))))) results50) [.cells false 1 []] rfl [2] (by decide) ⟨by (rw[hfinP.1,hfinP.2.1,hfinP.2.2.1,hfinP.2.2.2];rfl),by (rw[hfinP.2.1];rfl)⟩ ?_)
   exact ar
  refine aa G5 ?_
  refine ai ?_
  exact lw (jn @f1 (jn @f2 (jn @f3 (jn @f4 (jn @f5 @f6)))))
 rintro F Hx ⟨h8d,f9,f10,f11,f12,f13,f14,rfl⟩
 have hR:=h8d
 obtain⟨hV,hl0,hS,hsB,hg⟩:=cT.1 hR
 have hVV:=bp.1 hV
 have hpp2:=hVV.pos
 have hWb:1<=W/\W<=64:=⟨hVV.w0,hVV.w1⟩
 have hHb:1<=Hh/\Hh<=64:=⟨hVV.h0,hVV.h1⟩
 have hx00:=(hVV.idx (show inB W Hh 0 0=true from c7.2 (by have:=hVV.w0;have:=hVV.h0;omega))).2.2.2.2.1
 have hx0:0<xs.length:=by omega
 have hx6:xs.length<=1000000:=by have h4:=hVV.len;have:=Int.mul_le_mul hVV.w1 hVV.h1 (by have:=hVV.h0;omega) (by decide);omega
 have hsc2:=cw.1 hsB
 have hAl:=qV (W:=W) (Hh:=Hh) (l:=l) (sc:=sc) (g:=g)
 have hA:∀c∈(aY W Hh l sc g),inB W Hh c.1 c.2=true:=fun c hc=>allL_in hc
 refine aL false try_mixed [[0,1,2,3,4,5,6,7,8,9],[0,1,2,3,4,5,8,6,7,9]] (by kernel_rfl) (fun F2 H2=>F2=[(1,.sl (some (bs,0)) l.length cs),(2,.sl (some (bq,0)) sc.length cq),(3,iV g),(4,.ptr (some (H.length,0))),(8,.ptr (some (H.length+1,0))),(9,iV 0),(10,.ptr (some (H.length+3,0)))]/\H2=H++[.cells true 0 [iV W,iV Hh,.sl (some (bpp,0)) xs.length cpp],.cells true 0 [iV 0,iV 0,.sl none 0 (some 0)],.cells true 1 (ints .u8 xs),.cells true 0 [iV W,iV Hh,.sl (some (H.length+2,0)) xs.length none]]) ?_ ?_
 ·refine af ?_ (af ?_ (aQ))<;>intro J hJ
  ·have G6:=jn @hbpp (jn @hb0pp (jn @hbs (jn @hb0s (jn @hbq (jn @hb0q (jn @f1 (jn @f2 (jn @f3 (jn @f4 (jn @f5 (jn @f6 (jn @f9 (jn @f10 (jn @f11 (jn @f12 (jn @f13 (jn @f14 @h8d)))))))))))))))))
   refine ag G6 ?_
   refine cx (mP _ _ xs (zA2 hb0pp hbpp) hx6 hx0) ?_
   refine ag G6 ?_
   refine ai (hJ _ _ ⟨_,_,_,⟨rfl,rfl⟩,bS hbel [0,1,2,3] (al (jn @f1 (jn @f2 (jn @f3 (jn @f4 (jn @f5 (jn @f6 (jn @f9 (jn @f10 (jn @f11 (jn @f12 (jn @f13 @f14))))))))))))⟩)
  have G7:=jn @hbpp (jn @hb0pp (jn @hbs (jn @hb0s (jn @hbq (jn @hb0q (jn @f1 (jn @f2 (jn @f3 (jn @f4 (jn @f5 (jn @f6 (jn @f9 (jn @f10 (jn @f11 (jn @f12 (jn @f13 (jn @f14 @h8d)))))))))))))))))
  refine ag G7 ?_
  refine cx (mP _ _ xs (zA2 hb0pp hbpp) hx6 hx0) ?_
  refine ag G7 ?_
  refine ai (hJ _ _ ⟨_,_,_,⟨rfl,rfl⟩,bS hbel [0,1,3,2] (al (jn @f1 (jn @f2 (jn @f3 (jn @f4 (jn @f5 (jn @f6 (jn @f9 (jn @f10 (jn @f11 (jn @f12 (jn @f13 @f14))))))))))))⟩)
 rintro F2 H2 ⟨rfl,rfl⟩
 refine fnF ?_
 have G8:=jn @hbpp (jn @hb0pp (jn @hbs (jn @hb0s (jn @hbq (jn @hb0q (jn h8d (jn @bU @cr)))))))
 refine aa G8 ?_
 refine cv (lh _ _ l (zA2 hb0s hbs) (by assumption)) ?_
 refine rcs G8 (fun h15 h15d G9=>?_) (fun h15 h15d G10=>?_)
 ·have hfinP:=ln_0 hR (if_neg (by rw[h15d];decide))
  have hfinO:=dD hx0
  refine aa G9 ?_
  refine hQ _ _ (aM (.inl rfl) hbel (x1:=.tup [.agg [iV W,iV Hh,.sl (some (H.length+2,0)) xs.length none],iV 0]) (l2:=[.cells true 1 (ints .u8 xs)]) (.tup [.agg [iV W,iV Hh,.sl (some (H.length,0)) xs.length none],iV 0]) (aU results50) [] rfl [2] (by decide) ⟨by rw[hfinP.1,hfinP.2.1,hfinP.2.2.1,hfinP.2.2.2],by rw[hfinP.2.1,hfinO]⟩ ?_)
  exact ar
 have htau:=h15d
 refine aa G10 ?_
 refine cvr G10 (kall_c _ W _ _ xs _ l _ sc g (zA2 hb0pp hbpp) (zA2 hb0s hbs) (zA2 hb0q hbq) hV hS hl0 hsB (by omega)) ?_
 refine glp (fun k F Hx=>∃i:Nat,i+k=(aY W Hh l sc g).length/\gw W Hh (aY W Hh l sc g) xs=gw W Hh ((aY W Hh l sc g).drop i) (lfS W (aY W Hh l sc g) xs i)/\F=[(1,.sl (some (bs,0)) l.length cs),(2,.sl (some (bq,0)) sc.length cq),(3,iV g),(4,.ptr (some (H.length,0))),(8,.ptr (some (H.length+1,0))),(10,.ptr (some (H.length+3,0))),(41,.sl (some (H.length+4,0)) ((aY W Hh l sc g).length) none),(42,iV (((aY W Hh l sc g).length:Nat):Int)),(43,iV (i:Int))]/\Hx=H++[.cells true 0 [iV W,iV Hh,.sl (some (bpp,0)) xs.length cpp],.cells true 0 [iV 0,iV 0,.sl none 0 (some 0)],.cells true 1 (ints .u8 (lfS W (aY W Hh l sc g) xs i)),.cells true 0 [iV W,iV Hh,.sl (some (H.length+2,0)) ((lfS W (aY W Hh l sc g) xs i).length) none],.cells (aI (gu W Hh l sc g).length) 2 (prs (aY W Hh l sc g))]) ((aY W Hh l sc g).length) ?_ ?_
 ·refine⟨_,_,_,⟨0,by omega,rfl,rfl,rfl⟩,bS hbel [0,1,2,3,4] (al @lfS.eq_1)⟩
 rintro k0 F Hx ⟨i,hm0,hrem,rfl,rfl⟩ J0 hJ0
 have G11:=jn @ba (jn @cp G10)
 refine rcs G11 (fun h16 h16d _=>?_) (fun h16 h16d G15=>?_)
 ·have hlt:i<(aY W Hh l sc g).length:=by omega
  have hfv:=gb (W:=W) (A:=(aY W Hh l sc g)) hV i
  obtain⟨j1,j2,j3,j4,j5,-⟩:=(bp.1 hfv).idx (gin_mem hlt hA)
  have q17:=bN (l:=aY W Hh l sc g) (j:=i) (by omega)
  have q18:=c9 (k:=.u8) (xs:=lfS W (aY W Hh l sc g) xs i) (j:=(((g2 (aY W Hh l sc g) i)*W)+(g1 (aY W Hh l sc g) i)).toNat) (by omega)
  have G12:=jn h16 (jn h16d (jn q17 (jn q18 G11)))
  refine rcs G12 (fun h19 h19d _=>?_) (fun h19 h19d _=>?_)
  ·have h19n:=bnT h19
   have hfinP:=ln_11 hR (by unfold lnO;rw[if_pos htau,hrem,pD hlt hA,if_pos (by simpa using h19d)];rfl)
   have G13:=jn h19 (jn h19n (jn @aK (jn @aJ G12)))
   refine aa G13 ?_
   refine hQ _ _ (aM (.inl rfl) hbel (x1:=.tup [.agg [iV 0,iV 0,.sl none 0 (some 0)],iV 11]) (l2:=[.cells false 1 []]) (.tup [.agg [iV 0,iV 0,.sl (some (H.length,0)) 0 none],iV 11]) (aU results50) [.cells false 1 []] rfl [6] (by decide) ⟨by (rw[hfinP.1,hfinP.2.1,hfinP.2.2.1,hfinP.2.2.2];rfl),by (rw[hfinP.2.1];rfl)⟩ ?_)
   exact ar
  have h19n:=bnT h19
  have hne:¬gi (lfS W (aY W Hh l sc g) xs i) (((g2 (aY W Hh l sc g) i)*W)+(g1 (aY W Hh l sc g) i)).toNat=2:=by simpa using h19d
  have G14:=jn h19 (jn h19n (jn @aK (jn @aJ (jn @fU (jn @List.length_set.{0} G12)))))
  refine aa G14 ?_
  refine hJ0 _ _ ⟨k0-1,by omega,_,_,_,⟨i+1,by omega,hrem.trans ((pD hlt hA).trans (if_neg hne)),rfl,rfl⟩,bS hbel [0,1,2,3,4] (al (jn @lfS.eq_2 @List.length_set.{0}))⟩
 obtain rfl:i=(aY W Hh l sc g).length:=by omega
 rw[List.drop_length] at hrem
 refine aa G15 ?_
 refine glp (fun k F Hx=>∃i:Nat,i+k=sc.length/\lnO W Hh xs l sc g=e9 W Hh (gL l (sc.drop i) g) (lwS W Hh l sc g (lfS W (aY W Hh l sc g) xs (aY W Hh l sc g).length) i)/\F=[(1,.sl (some (bs,0)) l.length cs),(3,iV g),(4,.ptr (some (H.length,0))),(8,.ptr (some (H.length+1,0))),(10,.ptr (some (H.length+3,0))),(66,.sl (some (bq,0)) sc.length cq),(67,iV (sc.length:Int)),(68,iV (i:Int))]/\Hx=H++[.cells true 0 [iV W,iV Hh,.sl (some (bpp,0)) xs.length cpp],.cells true 0 [iV 0,iV 0,.sl none 0 (some 0)],.cells true 1 (ints .u8 (lwS W Hh l sc g (lfS W (aY W Hh l sc g) xs (aY W Hh l sc g).length) i)),.cells true 0 [iV W,iV Hh,.sl (some (H.length+2,0)) ((lwS W Hh l sc g (lfS W (aY W Hh l sc g) xs (aY W Hh l sc g).length) i).length) none]]) (sc.length) ?_ ?_
 ·refine⟨_,_,_,⟨0,by omega,by unfold lnO;rw[if_pos htau,hrem];rfl,rfl,rfl⟩,bS hbel [0,1,2,3] (al @lwS.eq_1)⟩
 rintro k1 F Hx ⟨i,hm1,hrem2,rfl,rfl⟩ J1 hJ1
 refine rcs G15 (fun h20 h20d _=>?_) (fun h20 h20d G27=>?_)
 ·have hlt:i<sc.length:=by omega
  have hbi:=fm.1 (hsc2.2 _ (List.getElem_mem hlt))
  rw[<-bC hlt] at hbi
  have hwv:=gM (W:=W) (Hh:=Hh) (l:=l) (sc:=sc) (g:=g) (gb (W:=W) (A:=(aY W Hh l sc g)) hV (aY W Hh l sc g).length) i
  have hsl:=qU (l:=l) (m:=g1 sc i) (r:=g2 sc i) (g:=g) hS
  have q21:=bN (l:=sc) (j:=i) (by omega)
  have G16:=jn h20 (jn h20d (jn q21 G15))
  refine rcs G16 (fun h22 h22d _=>?_) (fun h22 h22d _=>?_)
  ·have h22n:=bnT h22
   have hr1:g2 sc i = -1:=by simpa using h22d
   have hst:=qT (W:=W) (Hh:=Hh) (l:=l) (g:=g) (o:=(lfS W (aY W Hh l sc g) xs (aY W Hh l sc g).length)) hr1
   have hnx:=kp (W:=W) (Hh:=Hh) (l:=l) (g:=g) (o:=(lfS W (aY W Hh l sc g) xs (aY W Hh l sc g).length)) hlt (.inl hr1)
   have G17:=jn h22 (jn h22n (jn @aK (jn @aJ G16)))
   refine aa G17 ?_
   refine hJ1 _ _ ⟨k1-1,by omega,_,_,_,⟨i+1,by omega,hrem2.trans hnx,rfl,rfl⟩,bS hbel [0,1,2,3] (al (jn @hst @List.length_set.{0}))⟩
  have h22n:=bnT h22
  have hr1:¬g2 sc i = -1:=by simpa using h22d
  have G18:=jn h22 (jn h22n (jn @aK (jn @aJ G16)))
  refine aa G18 ?_
  refine cvr G18 (ksus2_c _ _ l _ _ g (zA2 hb0s hbs) hS (by omega) (by omega)) ?_
  refine cv (del_cell _ _ _ (bJ l (g1 sc i) (g2 sc i) g) (by rw[ah];rfl) (Nat.le_trans (qU hS) (by decide)) _ [.ptr (some (H.length+3,0))] (by kernel_rfl) (by simp[AV.bels,AV.bel]) (frP W Hh (lwS W Hh l sc g (lfS W (aY W Hh l sc g) xs (aY W Hh l sc g).length) i)) (fun X e L he=>learn1_c _ e.1 e.2 W Hh (.sl (some (H.length+2,0)) (lwS W Hh l sc g (lfS W (aY W Hh l sc g) xs (aY W Hh l sc g).length) i).length none) (lwS W Hh l sc g (lfS W (aY W Hh l sc g) xs (aY W Hh l sc g).length) i) _ ⟨_,_,_,rfl,by rw[j8,List.append_assoc,ah];rfl⟩ ⟨_,by rw[j8,List.append_assoc,ah];rfl⟩ (gM (gb hV _) _))) ?_
  refine rcs G18 (fun h23 h23d _=>?_) (fun h23 h23d _=>?_)
  ·have h23n:=bnT h23
   have hd0:(bE (frP W Hh (lwS W Hh l sc g (lfS W (aY W Hh l sc g) xs (aY W Hh l sc g).length) i)) (bJ l (g1 sc i) (g2 sc i) g)).length=0:=by have q:=h23d;omega
   have hfinP:=ln_11 hR (hrem2.trans (lwS_bad hlt hr1 hd0))
   have G19:=j2 h23 h23n G18
   refine aa G19 ?_
   refine hQ _ _ (aM (.inl rfl) hbel (x1:=.tup [.agg [iV 0,iV 0,.sl none 0 (some 0)],iV 11]) (l2:=[.cells false 1 []]) (.tup [.agg [iV 0,iV 0,.sl (some (H.length,0)) 0 none],iV 11]) (aU results50) [.cells false 1 []] rfl [6] (by decide) ⟨by (rw[hfinP.1,hfinP.2.1,hfinP.2.2.1,hfinP.2.2.2];rfl),by (rw[hfinP.2.1];rfl)⟩ ?_)
   exact ar
  have h23n:=bnT h23
  have hd0:¬(bE (frP W Hh (lwS W Hh l sc g (lfS W (aY W Hh l sc g) xs (aY W Hh l sc g).length) i)) (bJ l (g1 sc i) (g2 sc i) g)).length=0:=by have q:=h23d;omega
  have hp1:g1 (eo (bJ l (g1 sc i) (g2 sc i) g).length (bE (frP W Hh (lwS W Hh l sc g (lfS W (aY W Hh l sc g) xs (aY W Hh l sc g).length) i)) (bJ l (g1 sc i) (g2 sc i) g))) 0=g1 (bE (frP W Hh (lwS W Hh l sc g (lfS W (aY W Hh l sc g) xs (aY W Hh l sc g).length) i)) (bJ l (g1 sc i) (g2 sc i) g)) 0:=pad_g1 hd0
  have hp2:g2 (eo (bJ l (g1 sc i) (g2 sc i) g).length (bE (frP W Hh (lwS W Hh l sc g (lfS W (aY W Hh l sc g) xs (aY W Hh l sc g).length) i)) (bJ l (g1 sc i) (g2 sc i) g))) 0=g2 (bE (frP W Hh (lwS W Hh l sc g (lfS W (aY W Hh l sc g) xs (aY W Hh l sc g).length) i)) (bJ l (g1 sc i) (g2 sc i) g)) 0:=pad_g2 hd0
  have hsfp:=pad_len (p:=frP W Hh (lwS W Hh l sc g (lfS W (aY W Hh l sc g) xs (aY W Hh l sc g).length) i)) (l:=(bJ l (g1 sc i) (g2 sc i) g))
  have hpn:=og (p:=frP W Hh (lwS W Hh l sc g (lfS W (aY W Hh l sc g) xs (aY W Hh l sc g).length) i)) (l:=(bJ l (g1 sc i) (g2 sc i) g))
  have hnx:=kp (W:=W) (Hh:=Hh) (l:=l) (g:=g) (o:=(lfS W (aY W Hh l sc g) xs (aY W Hh l sc g).length)) hlt (.inr hd0)
  have q24:=(show List.take 2 (prs (eo (bJ l (g1 sc i) (g2 sc i) g).length (bE (frP W Hh (lwS W Hh l sc g (lfS W (aY W Hh l sc g) xs (aY W Hh l sc g).length) i)) (bJ l (g1 sc i) (g2 sc i) g))))=[iV (g1 (eo (bJ l (g1 sc i) (g2 sc i) g).length (bE (frP W Hh (lwS W Hh l sc g (lfS W (aY W Hh l sc g) xs (aY W Hh l sc g).length) i)) (bJ l (g1 sc i) (g2 sc i) g))) 0),iV (g2 (eo (bJ l (g1 sc i) (g2 sc i) g).length (bE (frP W Hh (lwS W Hh l sc g (lfS W (aY W Hh l sc g) xs (aY W Hh l sc g).length) i)) (bJ l (g1 sc i) (g2 sc i) g))) 0)] from by have q:=bN (l:=eo (bJ l (g1 sc i) (g2 sc i) g).length (bE (frP W Hh (lwS W Hh l sc g (lfS W (aY W Hh l sc g) xs (aY W Hh l sc g).length) i)) (bJ l (g1 sc i) (g2 sc i) g))) (j:=0) (by omega);rwa [Nat.zero_mul,List.drop_zero] at q)
  have G20:=jn h23 (jn h23n (jn @hsfp (jn q24 G18)))
  refine rgs G20 (fun h25 h25d _=>?_) (fun h25 h25d _=>?_)
  ·have h25n:=bnT h25
   have hd1:(bE (frP W Hh (lwS W Hh l sc g (lfS W (aY W Hh l sc g) xs (aY W Hh l sc g).length) i)) (bJ l (g1 sc i) (g2 sc i) g)).length=1:=by have q:=h25d;omega
   have G21:=j2 h25 h25n G20
   refine aa G21 ?_
   refine cv (dq _ _ 0 _) ?_
   refine rgs G21 (fun h26 h26d G22=>?_) (fun h26 h26d G25=>?_)
   ·have hd2:=h26d
    rw[hp1] at hd2
    refine aa G22 ?_
    refine cv (dq _ _ 0 _) ?_
    refine rcs G22 (fun h27 h27d _=>?_) (fun h27 h27d G24=>?_)
    ·have hd3:=h27d
     rw[hp2] at hd3
     have hst:=lwS_set (W:=W) (Hh:=Hh) (l:=l) (g:=g) (o:=(lfS W (aY W Hh l sc g) xs (aY W Hh l sc g).length)) hr1 ⟨hd1,hd2,hd3⟩
     rw[<-hp1,<-hp2] at hst
     obtain⟨j1,j2,j3,j4,j5,-⟩:=(bp.1 hwv).idx (x:=g1 (eo (bJ l (g1 sc i) (g2 sc i) g).length (bE (frP W Hh (lwS W Hh l sc g (lfS W (aY W Hh l sc g) xs (aY W Hh l sc g).length) i)) (bJ l (g1 sc i) (g2 sc i) g))) 0) (y:=g2 (eo (bJ l (g1 sc i) (g2 sc i) g).length (bE (frP W Hh (lwS W Hh l sc g (lfS W (aY W Hh l sc g) xs (aY W Hh l sc g).length) i)) (bJ l (g1 sc i) (g2 sc i) g))) 0) (c7.2 (by rw[hp1,hp2];have:=bm.1 hd2;have:=bm.1 hd3;omega))
     have G23:=jn h27 (jn h27d (jn @fU (jn @List.length_set.{0} G22)))
     refine aa G23 ?_
     refine hJ1 _ _ ⟨k1-1,by omega,_,_,_,⟨i+1,by omega,hrem2.trans hnx,rfl,rfl⟩,bS hbel [0,1,2,3] (al (jn @hst @List.length_set.{0}))⟩
    have hd3:=h27d
    rw[hp2] at hd3
    have hst:=ko (W:=W) (Hh:=Hh) (l:=l) (g:=g) (o:=(lfS W (aY W Hh l sc g) xs (aY W Hh l sc g).length)) hr1 (fun q=>by rw[hd3] at q;exact absurd q.2.2 (by decide))
    refine aa G24 ?_
    refine hJ1 _ _ ⟨k1-1,by omega,_,_,_,⟨i+1,by omega,hrem2.trans hnx,rfl,rfl⟩,bS hbel [0,1,2,3] (al (jn @hst @List.length_set.{0}))⟩
   have hd2:=h26d
   rw[hp1] at hd2
   have hst:=ko (W:=W) (Hh:=Hh) (l:=l) (g:=g) (o:=(lfS W (aY W Hh l sc g) xs (aY W Hh l sc g).length)) hr1 (fun q=>by rw[hd2] at q;exact absurd q.2.1 (by decide))
   refine aa G25 ?_
   refine hJ1 _ _ ⟨k1-1,by omega,_,_,_,⟨i+1,by omega,hrem2.trans hnx,rfl,rfl⟩,bS hbel [0,1,2,3] (al (jn @hst @List.length_set.{0}))⟩
  have h25n:=bnT h25
  have hd1:¬(bE (frP W Hh (lwS W Hh l sc g (lfS W (aY W Hh l sc g) xs (aY W Hh l sc g).length) i)) (bJ l (g1 sc i) (g2 sc i) g)).length=1:=by have q:=h25d;omega
  have hst:=ko (W:=W) (Hh:=Hh) (l:=l) (g:=g) (o:=(lfS W (aY W Hh l sc g) xs (aY W Hh l sc g).length)) hr1 (fun q=>hd1 q.1)
  have G26:=j2 h25 h25n G20
  refine aa G26 ?_
  refine hJ1 _ _ ⟨k1-1,by omega,_,_,_,⟨i+1,by omega,hrem2.trans hnx,rfl,rfl⟩,bS hbel [0,1,2,3] (al (jn @hst @List.length_set.{0}))⟩
 obtain rfl:i=sc.length:=by omega
 rw[List.drop_length] at hrem2
 have hfinP:=ln_0 hR hrem2
 have hfinO:aI (lwS W Hh l sc g (lfS W (aY W Hh l sc g) xs (aY W Hh l sc g).length) sc.length).length=true:=dD (by have:=oA (gM (W:=W) (Hh:=Hh) (l:=l) (sc:=sc) (g:=g) (gb (W:=W) (A:=(aY W Hh l sc g)) hV (aY W Hh l sc g).length) sc.length);omega)
 refine aa G27 ?_
 refine hQ _ _ (aM (.inl rfl) hbel (x1:=.tup [.agg [iV W,iV Hh,.sl (some (H.length+2,0)) ((lwS W Hh l sc g (lfS W (aY W Hh l sc g) xs (aY W Hh l sc g).length) sc.length).length) none],iV 0]) (l2:=[.cells true 1 (ints .u8 (lwS W Hh l sc g (lfS W (aY W Hh l sc g) xs (aY W Hh l sc g).length) sc.length))]) (.tup [.agg [iV W,iV Hh,.sl (some (H.length,0)) ((lwS W Hh l sc g (lfS W (aY W Hh l sc g) xs (aY W Hh l sc g).length) sc.length).length) none],iV 0]) (aU results50) [] rfl [2] (by decide) ⟨by rw[hfinP.1,hfinP.2.1,hfinP.2.2.1,hfinP.2.2.2],by rw[hfinP.2.1,hfinO]⟩ ?_)
 exact ar
def lsB (l:List T6):Bool:=decide (0<(l.length:Int))&&(decide ((l.length:Int)<=16)&&!(l.any fun b=>!bl b))
theorem gc {l:List T6}:lsB l=true↔0<l.length/\bk l=true:=by
 rw[bi];unfold lsB
 simp only[Bool.and_eq_true,decide_eq_true_eq,Bool.not_eq_true',List.any_eq_false,Bool.not_eq_true',Bool.not_eq_false]
 constructor
 ·rintro⟨h1,h2,h3⟩;exact⟨by omega,by omega,fun b hb=>by simpa using h3 b hb⟩
 rintro⟨h1,h2,h3⟩;exact⟨by omega,by omega,fun b hb=>by simpa using h3 b hb⟩
theorem lvs1_c (H:ac)(x0 y0 x1 y1 f c:Int):zC 59 [.agg [iV x0,iV y0,iV x1,iV y1,iV f,iV c]] H (.bool (!(bl (x0,y0,x1,y1,f,c)))) H:=by
 refine AcT true func59 ?_;intro hbel Q hQ
 refine aC ?_
 refine cv (fy _ _ _ _ _ f c) ?_
 refine aC ?_
 exact eP hQ hbel (.bool (!(bxB x0 y0 x1 y1 f c))) results59 ⟨by rfl,rfl⟩
theorem oE (H:ac)(s:AV)(l:List T6)(hs:Sl H 6 s l.length (r6 l))(hl:l.length<=1000000000):zC 28 [s] H (.bool (lsB l)) H:=by
 obtain⟨bs,os,cs,rfl,hbs,hbls,hb0s⟩:=zA1 hs
 refine AcT true func28 ?_;intro hbel Q hQ
 have G1:=jn @hbs @hb0s
 refine rgs G1 (fun h1 h1d G2=>?_) (fun h1 h1d G5=>?_)
 ·refine rgs G2 (fun h2 h2d G3=>?_) (fun h2 h2d G4=>?_)
  ·refine aa G3 ?_
   refine cvr G3 (lF _ _ l (zA2 hb0s hbs) (by omega) _ [] (by kernel_rfl) rfl (fun b=>!bl b) (fun j hj=>lvs1_c _ _ _ _ _ _ _)) ?_
   exact eQ hQ hbel (.bool (!(l.any (fun b=>!bl b)))) results28 ⟨by (unfold lsB;simp only[h1,h2];rfl),rfl⟩
  exact eS G4 hQ hbel (.bool false) results28 ⟨by simp[lsB,h1d,h2d],rfl⟩
 exact eS G5 hQ hbel (.bool false) results28 ⟨by (unfold lsB;simp only[h1];rfl),rfl⟩
theorem lvc1_c (H:ac)(m r:Int):zC 71 [.agg [iV m,iV r]] H (.bool (!(beaE (m,r)))) H:=by
 refine AcT true func71 ?_;intro hbel Q hQ
 refine aC ?_
 refine bg (fun h1=>?_) (fun h1=>?_)
 ·have h1d:=bsT h1
  have G6:=jn h1 @h1d
  refine rgs G6 (fun h2 h2d G7=>?_) (fun h2 h2d G10=>?_)
  ·refine rgs G7 (fun h3 h3d G8=>?_) (fun h3 h3d G9=>?_)
   ·exact eR G8 hQ hbel (.bool (decide (1024<r))) results71 ⟨by (by_cases hq:1024<r<;>simp[beaE,dy,btw,hq]<;>omega),rfl⟩
   exact eR G9 hQ hbel (.bool true) results71 ⟨by simp[beaE,dy,btw,h1d,h2d,h3d],rfl⟩
  exact eR G10 hQ hbel (.bool true) results71 ⟨by (by_cases hq:1024<r<;>simp[beaE,dy,btw,hq]<;>omega),rfl⟩
 have h1d:=bsT h1
 have G11:=jn h1 @h1d
 exact eR G11 hQ hbel (.bool true) results71 ⟨by simp[beaE,dy,btw,h1d],rfl⟩
theorem jg (H:ac)(q:AV)(sc:List (Int×Int))(hq:SlP H q sc)(hl:sc.length<=1000000000):zC 47 [q] H (.bool (bP sc)) H:=by
 obtain⟨bq,oq,cq,rfl,hbq,hblq,hb0q⟩:=zA1 hq
 refine AcT true func47 ?_;intro hbel Q hQ
 have G12:=jn @hbq @hb0q
 refine rgs G12 (fun h1 h1d G13=>?_) (fun h1 h1d G14=>?_)
 ·refine aa G13 ?_
  refine cvr G13 (has_m _ _ sc (zA2 hb0q hbq) (by omega) _ [] (by kernel_rfl) rfl (fun e=>!beaE e) (fun j hj=>lvc1_c _ _ _)) ?_
  exact eQ hQ hbel (.bool (!(sc.any (fun e=>!beaE e)))) results47 ⟨by simp[bP,h1d],rfl⟩
 exact eS G14 hQ hbel (.bool false) results47 ⟨by simp[bP,h1d],rfl⟩
theorem lcop_c (H:ac)(W Hh:Int)(pp:AV)(xs:List Int)(hpp:zI H pp xs)(hx6:xs.length<=1000000)(hx0:0<xs.length):zC 30 [.agg [iV W,iV Hh,pp]] H (.agg [iV W,iV Hh,.sl (some (H.length,0)) xs.length none]) (H++[.cells true 1 (ints .u8 xs)]):=by
 obtain⟨bpp,opp,cpp,rfl,hbpp,hblpp,hb0pp⟩:=zA1 hpp
 refine AcT false func30 ?_;intro hbel Q hQ
 have G15:=jn @hbpp @hb0pp
 refine aa G15 ?_
 refine cx (mP _ _ xs (zA2 hb0pp hbpp) hx6 hx0) ?_
 refine aa G15 ?_
 refine hQ _ _ (aM (.inl rfl) hbel (x1:=.agg [iV W,iV Hh,.sl (some (H.length+2,0)) xs.length none]) (l2:=[.cells true 1 (ints .u8 xs)]) (.agg [iV W,iV Hh,.sl (some (H.length,0)) xs.length none]) (aU results30) [] rfl [2] (by decide) ⟨rfl,rfl⟩ ?_)
 exact ar
theorem lnew_y (H:ac)(W Hh:Int)(pp:AV)(xs:List Int)(s:AV)(l:List T6)(tu le sl ra:Int)(hpp:zI H pp xs)(hs:Sl H 6 s l.length (r6 l))(hV:bK W Hh xs=true)(hL:lsB l=true)(hB:bO tu le sl ra=true):zC 8 [.agg [iV W,iV Hh,pp],s,.agg [iV tu,iV le,iV sl,iV ra]] H (.tup [.ptr (some (H.length+2,0)),iV 0]) (H++[.cells true 1 (ints .u8 xs),.cells true 6 (r6 l),.cells true 0 [iV W,iV Hh,.sl (some (H.length,0)) xs.length none,.sl (some (H.length+1,0)) l.length none,iV tu,iV le,iV sl,iV ra,.bool false]]):=by
 obtain⟨bpp,opp,cpp,rfl,hbpp,hblpp,hb0pp⟩:=zA1 hpp
 obtain⟨bs,os,cs,rfl,hbs,hbls,hb0s⟩:=zA1 hs
 have hVV:=bp.1 hV
 have hx6:xs.length<=1000000:=by have h4:=hVV.len;have:=Int.mul_le_mul hVV.w1 hVV.h1 (by have:=hVV.h0;omega) (by decide);omega
 have hx0:0<xs.length:=by have:=(hVV.idx (show inB W Hh 0 0=true from c7.2 (by have:=hVV.w0;have:=hVV.h0;omega))).2.2.2.2.1;omega
 have hLL:=gc.1 hL
 have hS16:=(bi.1 hLL.2).1
 have hl0:=hLL.1
 (refine aR func8 _ rfl (Nat.le_of_ble_eq_true (by kernel_rfl)) rfl ?_;intro hbel Q hQ hQ' c hc;unfold Tryz.f8 at hc;simp only[Option.some.injEq] at hc;subst hc;clear hQ')
 refine zQF hQ fun Q1 hn1 hQ1 he1=>?_
 have G1:=jn @hbpp (jn @hb0pp (jn @hbs (jn @hb0s (jn @hV (jn @hL @hB)))))
 refine aa G1 ?_
 refine hn1 _ _ (zQF hQ fun Q2 hn2 hQ2 he2=>?_)
 refine aa G1 ?_
 refine cvr G1 (jU _ W Hh _ xs (.inr (zA2 hb0pp hbpp))) ?_
 refine cvr G1 (oE _ _ l (zA2 hb0s hbs) (by omega)) ?_
 refine cvr G1 (jL _ _ _ _ _) ?_
 refine hn2 _ _ ?_
 refine aL false try_mixed [[0,1,2,3,4,5,6,7,8]] (by kernel_rfl) (fun F2 H2=>F2=[(6,.ptr (some (H.length+2,0))),(7,iV 0)]/\H2=H++[.cells true 1 (ints .u8 xs),.cells true 6 (r6 l),.cells true 0 [iV W,iV Hh,.sl (some (H.length,0)) xs.length none,.sl (some (H.length+1,0)) l.length none,iV tu,iV le,iV sl,iV ra,.bool false]]) ?_ ?_
 ·refine af ?_ (aQ)<;>intro J hJ
  refine ag G1 ?_
  refine cx (lcop_c _ W _ _ xs (zA2 hb0pp hbpp) hx6 hx0) ?_
  refine ag G1 ?_
  refine cx (je _ _ l (zA2 hb0s hbs) (by omega) (by omega)) ?_
  refine ag G1 ?_
  refine ai (hJ _ _ ⟨_,_,_,⟨rfl,rfl⟩,bS hbel [2,3,4] (al (jn @ap (jn @au (jn @aA @ax))))⟩)
 rintro F2 H2 ⟨rfl,rfl⟩
 refine fnF ?_
 have G2:=jn @bU (jn @cr (jn @bo (jn @cQ G1)))
 refine aa G2 ?_
 refine hQ _ _ (aM (.inl rfl) hbel (x1:=.tup [.ptr (some (H.length+2,0)),iV 0]) (l2:=[.cells true 1 (ints .u8 xs),.cells true 6 (r6 l),.cells true 0 [iV W,iV Hh,.sl (some (H.length,0)) xs.length none,.sl (some (H.length+1,0)) l.length none,iV tu,iV le,iV sl,iV ra,.bool false]]) (.tup [.ptr (some (H.length+2,0)),iV 0]) (aU results8) [] rfl [0,1,2] (by decide) ⟨rfl,rfl⟩ ?_)
 exact aF @ax
theorem lnew_n (H:ac)(W Hh:Int)(pp:AV)(xs:List Int)(s:AV)(l:List T6)(tu le sl ra:Int)(hpp:zI H pp xs)(hs:Sl H 6 s l.length (r6 l))(hl:l.length<=1000000000)(hn:(bK W Hh xs&&lsB l&&bO tu le sl ra)=false):zC 8 [.agg [iV W,iV Hh,pp],s,.agg [iV tu,iV le,iV sl,iV ra]] H (.tup [.ptr none,iV 1]) H:=by
 obtain⟨bpp,opp,cpp,rfl,hbpp,hblpp,hb0pp⟩:=zA1 hpp
 obtain⟨bs,os,cs,rfl,hbs,hbls,hb0s⟩:=zA1 hs
 refine AcT true func8 ?_;intro hbel Q hQ
 have G3:=jn @hbpp (jn @hb0pp (jn @hbs @hb0s))
 refine aa G3 ?_
 refine cv (jU _ W Hh _ xs (.inr (zA2 hb0pp hbpp))) ?_
 refine rgs G3 (fun h1 h1d G4=>?_) (fun h1 h1d G8=>?_)
 ·have hV:=h1d
  refine aa G4 ?_
  refine cv (oE _ _ l (zA2 hb0s hbs) (by omega)) ?_
  refine rgs G4 (fun h2 h2d G5=>?_) (fun h2 h2d G7=>?_)
  ·have hL:=h2d
   refine aa G5 ?_
   refine cv (jL _ _ _ _ _) ?_
   refine rcs G5 (fun h3 h3d G6=>?_) (fun h3 h3d _=>?_)
   ·exact eR G6 hQ hbel (.tup [.ptr none,iV 1]) results8 ⟨rfl,rfl⟩
   rw[hV,hL,h3d] at hn
   exact absurd hn (by decide)
  exact eR G7 hQ hbel (.tup [.ptr none,iV 1]) results8 ⟨rfl,rfl⟩
 exact eR G8 hQ hbel (.tup [.ptr none,iV 1]) results8 ⟨rfl,rfl⟩
theorem pI (H:ac)(s:AV)(l:List T6)(hs:Sl H 6 s l.length (r6 l))(hl:l.length<=1000000000):zC 33 [s] H (.bool (lsB l)) H:=by
 obtain⟨bs,os,cs,rfl,hbs,hbls,hb0s⟩:=zA1 hs
 refine AcT true func33 ?_;intro hbel Q hQ
 have G1:=jn @hbs @hb0s
 refine aa G1 ?_
 refine cv (jP _ _ l (zA2 hb0s hbs) (by omega)) ?_
 refine rgs G1 (fun h1 h1d G2=>?_) (fun h1 h1d G3=>?_)
 ·have hS:=h1d
  have hfinL:lsB l=decide (0<l.length):=by
   cases hq:decide (0<l.length)
   ·rw[<-Bool.not_eq_true];intro k;exact absurd (gc.1 k).1 (by simpa using hq)
   exact gc.2 ⟨by simpa using hq,hS⟩
  exact eS G2 hQ hbel (.bool (decide (0<(l.length:Int)))) results33 ⟨by (rw[hfinL];simp),rfl⟩
 have hfinL:lsB l=false:=by rw[<-Bool.not_eq_true];intro k;exact absurd ((gc.1 k).2.symm.trans h1d) (by decide)
 exact eS G3 hQ hbel (.bool false) results33 ⟨by rw[hfinL],rfl⟩
theorem rflost_c (H:ac)(W Hh:Int)(pp:AV)(xs:List Int)(s:AV)(l:List T6)(tu le sl ra:Int)(lost:Bool)(bz:Nat)(hpp:zI H pp xs)(hs:Sl H 6 s l.length (r6 l))(hz:∃o,H[bz]? = some (.cells o 0 [iV W,iV Hh,pp,s,iV tu,iV le,iV sl,iV ra,.bool lost])):zC 39 [.ptr (some (bz,0))] H (.bool lost) H:=by
 obtain⟨bpp,opp,cpp,rfl,hbpp,hblpp,hb0pp⟩:=zA1 hpp
 obtain⟨bs,os,cs,rfl,hbs,hbls,hb0s⟩:=zA1 hs
 obtain⟨oz,hbz⟩:=hz
 have hblz:=getElem?_lt hbz
 have hb0z:=fun l=>ae (l:=l) hbz
 refine AcT true func39 ?_;intro hbel Q hQ
 have G4:=jn @hbpp (jn @hb0pp (jn @hbs (jn @hb0s (jn @hbz (jn @hb0z @Option.isNone_some.{0})))))
 exact eS G4 hQ hbel (.bool lost) results39 ⟨rfl,rfl⟩
theorem ku {k:IntKind}{l:List Int}:(ints k l).take l.length=ints k l/\(ints k l).take (l.length*1)=ints k l:=⟨List.take_of_length_le (by rw[bU];omega),List.take_of_length_le (by rw[bU];omega)⟩
section
variable {W Hh:Int} {xs:List Int} {l:List T6} {sc:List (Int×Int)} {g:Int}
theorem pvE_t (h:pvE W Hh xs l sc g=0):cl W Hh xs l sc g=true:=by
 cases k:cl W Hh xs l sc g
 ·unfold pvE at h;rw[k] at h;exact absurd h (by decide)
 rfl
theorem pvE_f (h:¬pvE W Hh xs l sc g=0):cl W Hh xs l sc g=false:=by
 cases k:cl W Hh xs l sc g
 ·rfl
 exact absurd (pv_t k).1 h
theorem rgt_bm (h:cl W Hh xs l sc g=true){m r:Int}(he:dy m r=true):cl W Hh xs l [(m,r)] g=true:=by
 obtain⟨a,b,c,d,e⟩:=cT.1 h
 exact cT.2 ⟨a,b,c,cw.2 ⟨by simp,fun x hx=>by rw[List.mem_singleton.1 hx];exact he⟩,e⟩
theorem ss_bm (h:cl W Hh xs l sc g=true){m r:Int}(he:dy m r=true):ssL W Hh xs l m r g=bJ l m r g:=(ss_t (rgt_bm h he)).2.1
theorem pvL_in {c:Int×Int}(h:c∈pvL W Hh xs l sc g):inB W Hh c.1 c.2=true:=(mem_pv.1 h).2.2.1
theorem pJ {A:List (Int×Int)}{o:List Int}{i:Nat}(hi:i<A.length)(hA:∀c∈A,inB W Hh c.1 c.2=true):lrnR W Hh xs (A.drop i) o=if atI W Hh xs (g1 A i) (g2 A i)=2 then none else lrnR W Hh xs (A.drop (i+1)) (o.set ((g2 A i*W)+g1 A i).toNat 1):=by
 rw[List.drop_eq_getElem_cons hi]
 have e:cidx W A[i]=((g2 A i*W)+g1 A i).toNat:=by rw[<-bC hi];rfl
 conv=>lhs;unfold lrnR
 rw[e,<-bC hi]
theorem lU (hR:cl W Hh xs l sc g=true):lnO W Hh xs l sc g=(lrnR W Hh xs (pvL W Hh xs l sc g) xs).bind fun o=>if dn l=true then e9 W Hh (gL l sc g) o else some o:=by
 have hv:=bp.1 (cT.1 hR).1
 rw[(pv_t hR).2.1]
 unfold lnO
 by_cases ht:dn l=true
 ·rw[if_pos ht,rQ hv.len (fun c hc=>allL_in hc)]
  simp only[if_pos ht]
 have ht':dn l=false:=by simpa using ht
 rw[if_neg ht,(mL ht').1]
 simp only[if_neg ht]
 rfl
def fR (d:List (Int×Int)):Int×Int:=d.getLastD (0,0)
theorem lasC_0:fR []=(0,0):=rfl
theorem lasC_s {d:List (Int×Int)}{c:Int×Int}:fR (d++[c])=c:=by simp[fR]
theorem lasC_1 {d:List (Int×Int)}(h:d.length=1):(fR d).1=g1 d 0/\(fR d).2=g2 d 0:=by
 match d,h with
 |[a],_=>exact⟨rfl,rfl⟩
theorem lwS_inn {o:List Int}{i:Nat}{d:List (Int×Int)}(h:¬g2 sc i = -1)(hd:d=bE (frP W Hh (lwS W Hh l sc g o i)) (bJ l (g1 sc i) (g2 sc i) g))(h1:d.length=1)(hi:inB W Hh (fR d).1 (fR d).2=true):lwS W Hh l sc g o (i+1)=(lwS W Hh l sc g o i).set (((fR d).2*W)+(fR d).1).toNat 2:=by
 have hi:=c7.1 hi
 obtain⟨e1,e2⟩:=lasC_1 h1
 rw[e1,e2] at hi ⊢
 subst hd
 exact lwS_set h ⟨h1,bm.2 (by omega),bm.2 (by omega)⟩
theorem lwS_out {o:List Int}{i:Nat}{d:List (Int×Int)}(h:¬g2 sc i = -1)(hd:d=bE (frP W Hh (lwS W Hh l sc g o i)) (bJ l (g1 sc i) (g2 sc i) g))(hi:¬(d.length=1/\inB W Hh (fR d).1 (fR d).2=true)):lwS W Hh l sc g o (i+1)=lwS W Hh l sc g o i:=by
 subst hd
 refine ko h fun q=>hi ⟨q.1,?_⟩
 obtain⟨e1,e2⟩:=lasC_1 q.1
 rw[e1,e2]
 have:=bm.1 q.2.1
 have:=bm.1 q.2.2
 exact c7.2 (by omega)
theorem delL_not {p:Int×Int->Bool}{l:List (Int×Int)}{n:Nat}(h:n<l.length)(hp:p (g1 l n,g2 l n)=false):bE p (l.take (n+1))=bE p (l.take n)++[(g1 l n,g2 l n)]:=by
 rw[ju h,<-bC h,if_neg (by rw[hp];decide)]
theorem delL_yes {p:Int×Int->Bool}{l:List (Int×Int)}{n:Nat}(h:n<l.length)(hp:p (g1 l n,g2 l n)=true):bE p (l.take (n+1))=bE p (l.take n):=by
 rw[ju h,<-bC h,if_pos hp,List.append_nil]
end
theorem oF (b:T6):0<=cY b/\cY b<=1125906929254400:=by
 unfold cY
 split
 ·rename_i h
  have hb:=bB.1 h
  have ha:=bh.1 hb.2.2
  have m1:=aP (a:=b.2.2.1-b.1+1) (b:=b.2.2.2.1-b.2.1+1) (A:=2097153) (B:=2097153) (by omega) (by omega)
  have p1:0<=(b.2.2.1-b.1+1)*(b.2.2.2.1-b.2.1+1):=Int.mul_nonneg (by omega) (by omega)
  have m2:=aP (a:=(b.2.2.1-b.1+1)*(b.2.2.2.1-b.2.1+1)) (b:=b.2.2.2.2.2) (A:=4398050705409) (B:=256) (by omega) (by omega)
  have p2:0<=(b.2.2.1-b.1+1)*(b.2.2.2.1-b.2.1+1)*b.2.2.2.2.2:=Int.mul_nonneg p1 (by omega)
  omega
 omega
def volS (l:List T6):Nat->Int
 |0=>0
 |n+1=>volS l n+cY (g6 l n)
theorem oG (l:List T6):∀n:Nat,0<=volS l n/\volS l n<=1125906929254400*(n:Int)
 |0=>by simp[volS]
 | n+1=>by
  have:=oG l n
  have e:=oF (g6 l n)
  simp only[volS]
  omega
theorem lV (H:ac)(W Hh:Int)(pp:AV)(xs:List Int)(s:AV)(l:List T6)(tu le sl ra:Int)(lost:Bool)(bz:Nat)(hpp:zI H pp xs)(hs:Sl H 6 s l.length (r6 l))(hz:∃o,H[bz]? = some (.cells o 0 [iV W,iV Hh,pp,s,iV tu,iV le,iV sl,iV ra,.bool lost])):zC 24 [.ptr (some (bz,0))] H (.bool lost) H:=by
 obtain⟨bpp,opp,cpp,rfl,hbpp,hblpp,hb0pp⟩:=zA1 hpp
 obtain⟨bs,os,cs,rfl,hbs,hbls,hb0s⟩:=zA1 hs
 obtain⟨oz,hbz⟩:=hz
 have hblz:=getElem?_lt hbz
 have hb0z:=fun l=>ae (l:=l) hbz
 refine AcT true func24 ?_;intro hbel Q hQ
 have G1:=jn @hbpp (jn @hb0pp (jn @hbs (jn @hb0s (jn @hbz (jn @hb0z @Option.isNone_some.{0})))))
 exact eS G1 hQ hbel (.bool lost) results24 ⟨rfl,rfl⟩
theorem nK (H:ac)(W Hh:Int)(pp:AV)(xs:List Int)(s:AV)(l:List T6)(tu le sl ra:Int)(lost:Bool)(bz:Nat)(hpp:zI H pp xs)(hs:Sl H 6 s l.length (r6 l))(hz:∃o,H[bz]? = some (.cells o 0 [iV W,iV Hh,pp,s,iV tu,iV le,iV sl,iV ra,.bool lost]))(hl16:l.length<=16)(hl0:0<l.length):zC 12 [.ptr (some (bz,0))] H (.sl (some (H.length,0)) l.length none) (H++[.cells true 6 (r6 l)]):=by
 obtain⟨bpp,opp,cpp,rfl,hbpp,hblpp,hb0pp⟩:=zA1 hpp
 obtain⟨bs,os,cs,rfl,hbs,hbls,hb0s⟩:=zA1 hs
 obtain⟨oz,hbz⟩:=hz
 have hblz:=getElem?_lt hbz
 have hb0z:=fun l=>ae (l:=l) hbz
 refine AcT true func12 ?_;intro hbel Q hQ
 have G2:=jn @hbpp (jn @hb0pp (jn @hbs (jn @hb0s (jn @hbz (jn @hb0z @Option.isNone_some.{0})))))
 refine aa G2 ?_
 refine cvr G2 (je _ _ l (zA2 hb0s hbs) (by omega) (by omega)) ?_
 refine hQ _ _ (aM (.inl rfl) hbel (x1:=.sl (some (H.length,0)) l.length none) (l2:=[.cells true 6 (r6 l)]) (.sl (some (H.length,0)) l.length none) (aU results12) [] rfl [0] (by decide) ⟨rfl,rfl⟩ ?_)
 exact aF @ax
theorem oH (H:ac)(W Hh:Int)(pp:AV)(xs:List Int)(s:AV)(l:List T6)(tu le sl ra:Int)(lost:Bool)(bz:Nat)(hpp:zI H pp xs)(hs:Sl H 6 s l.length (r6 l))(hz:∃o,H[bz]? = some (.cells o 0 [iV W,iV Hh,pp,s,iV tu,iV le,iV sl,iV ra,.bool lost]))(hx6:xs.length<=1000000)(hx0:0<xs.length):zC 14 [.ptr (some (bz,0))] H (.agg [iV W,iV Hh,.sl (some (H.length,0)) xs.length none]) (H++[.cells true 1 (ints .u8 xs)]):=by
 obtain⟨bpp,opp,cpp,rfl,hbpp,hblpp,hb0pp⟩:=zA1 hpp
 obtain⟨bs,os,cs,rfl,hbs,hbls,hb0s⟩:=zA1 hs
 obtain⟨oz,hbz⟩:=hz
 have hblz:=getElem?_lt hbz
 have hb0z:=fun l=>ae (l:=l) hbz
 refine AcT true func14 ?_;intro hbel Q hQ
 have G3:=jn @hbpp (jn @hb0pp (jn @hbs (jn @hb0s (jn @hbz (jn @hb0z @Option.isNone_some.{0})))))
 refine aa G3 ?_
 refine cvr G3 (lcop_c _ W _ _ xs (zA2 hb0pp hbpp) hx6 hx0) ?_
 refine hQ _ _ (aM (.inl rfl) hbel (x1:=.agg [iV W,iV Hh,.sl (some (H.length+1,0)) xs.length none]) (l2:=[.cells true 1 (ints .u8 xs)]) (.agg [iV W,iV Hh,.sl (some (H.length,0)) xs.length none]) (aU results14) [] rfl [1] (by decide) ⟨rfl,rfl⟩ ?_)
 exact ar
theorem lvol_c (H:ac)(W Hh:Int)(pp:AV)(xs:List Int)(s:AV)(l:List T6)(tu le sl ra:Int)(lost:Bool)(bz:Nat)(hpp:zI H pp xs)(hs:Sl H 6 s l.length (r6 l))(hz:∃o,H[bz]? = some (.cells o 0 [iV W,iV Hh,pp,s,iV tu,iV le,iV sl,iV ra,.bool lost]))(hl16:l.length<=16)(hl0:0<l.length):zC 25 [.ptr (some (bz,0))] H (iV (volS l l.length)) H:=by
 obtain⟨bpp,opp,cpp,rfl,hbpp,hblpp,hb0pp⟩:=zA1 hpp
 obtain⟨bs,os,cs,rfl,hbs,hbls,hb0s⟩:=zA1 hs
 obtain⟨oz,hbz⟩:=hz
 have hblz:=getElem?_lt hbz
 have hb0z:=fun l=>ae (l:=l) hbz
 refine AcT true func25 ?_;intro hbel Q hQ
 have G4:=jn @hbpp (jn @hb0pp (jn @hbs (jn @hb0s (jn @hbz (jn @hb0z @Option.isNone_some.{0})))))
 refine aa G4 ?_
 refine cvr G4 (nK _ W Hh _ xs _ l tu le sl ra lost _ (zA2 hb0pp hbpp) (zA2 hb0s hbs) ⟨_,by exact hbz⟩ hl16 hl0) ?_
 refine glp (fun k F Hx=>∃i:Nat,i+k=l.length/\F=[(3,iV (volS l i)),(7,.sl (some (H.length,0)) l.length none),(8,iV (l.length:Int)),(9,iV (i:Int))]/\Hx=H++[.cells true 6 (r6 l)]) (l.length) ?_ ?_
 ·refine⟨_,_,_,⟨0,by omega,rfl,rfl⟩,bS hbel [0] (al (jn @volS.eq_1 (jn @ap (jn @au (jn @aA @ax)))))⟩
 rintro k0 F Hx ⟨i,hm0,rfl,rfl⟩ J0 hJ0
 have G5:=jn @bo (jn @cQ G4)
 refine rcs G5 (fun h1 h1d _=>?_) (fun h1 h1d G7=>?_)
 ·have hlt:i<l.length:=by omega
  have hvb:=oF (g61 l i,g62 l i,g63 l i,g64 l i,g65 l i,g66 l i)
  have hvs:=oG l i
  have hve:cY (g61 l i,g62 l i,g63 l i,g64 l i,g65 l i,g66 l i)=cY (g6 l i):=rfl
  have q2:=bD (l:=l) (j:=i) (by omega)
  have G6:=jn h1 (jn h1d (jn q2 G5))
  refine aa G6 ?_
  refine cvr G6 (vol_c _ _ _ _ _ _ _) ?_
  refine hJ0 _ _ ⟨k0-1,by omega,_,_,_,⟨i+1,by omega,rfl,rfl⟩,bS hbel [0] (al (jn @volS.eq_2 (jn @hve (jn @ap (jn @au (jn @aA @ax))))))⟩
 obtain rfl:i=l.length:=by omega
 exact eR G7 hQ hbel (iV (volS l l.length)) results25 ⟨rfl,rfl⟩
def hulN (l:List T6):Nat->T6
 |0=>g6 l 0
 |n+1=>ew (hulN l n) (g6 l (n+1))
theorem oI {l:List T6}(h:∀b∈l,bl b=true):∀n:Nat,n<l.length->bl (hulN l n)=true
 |0,h0=>h _ (bY h0)
 |n+1,hn=>hulB_ok (oI h n (by omega)) (h _ (bY hn))
theorem lclone_c (H:ac)(W Hh:Int)(pp:AV)(xs:List Int)(s:AV)(l:List T6)(tu le sl ra:Int)(lost:Bool)(bz:Nat)(hpp:zI H pp xs)(hs:Sl H 6 s l.length (r6 l))(hz:∃o,H[bz]? = some (.cells o 0 [iV W,iV Hh,pp,s,iV tu,iV le,iV sl,iV ra,.bool lost]))(hx6:xs.length<=1000000)(hx0:0<xs.length)(hl16:l.length<=16)(hl0:0<l.length):zC 23 [.ptr (some (bz,0))] H (.ptr (some (H.length+2,0))) (H++[.cells true 1 (ints .u8 xs),.cells true 6 (r6 l),.cells true 0 [iV W,iV Hh,.sl (some (H.length,0)) xs.length none,.sl (some (H.length+1,0)) l.length none,iV tu,iV le,iV sl,iV ra,.bool lost]]):=by
 obtain⟨bpp,opp,cpp,rfl,hbpp,hblpp,hb0pp⟩:=zA1 hpp
 obtain⟨bs,os,cs,rfl,hbs,hbls,hb0s⟩:=zA1 hs
 obtain⟨oz,hbz⟩:=hz
 have hblz:=getElem?_lt hbz
 have hb0z:=fun l=>ae (l:=l) hbz
 (refine aR func23 _ rfl (Nat.le_of_ble_eq_true (by kernel_rfl)) rfl ?_;intro hbel Q hQ hQ' c hc;unfold Tryz.f23 at hc;simp only[Option.some.injEq] at hc;subst hc;clear hQ')
 refine zQF hQ fun Q1 hn1 hQ1 he1=>?_
 have G1:=jn @hbpp (jn @hb0pp (jn @hbs (jn @hb0s (jn @hbz (jn @hb0z @Option.isNone_some.{0})))))
 refine aa G1 ?_
 refine hn1 _ _ (zQF hQ fun Q2 hn2 hQ2 he2=>?_)
 refine aa G1 ?_
 refine hn2 _ _ ?_
 refine aL false try_mixed [[0,1,2,3,4,5,6,7,8,9,10,11,12,13,14,15,16,17,18,19,20]] (by kernel_rfl) (fun F2 H2=>F2=[(2,.ptr (some (H.length+2,0)))]/\H2=H++[.cells true 1 (ints .u8 xs),.cells true 6 (r6 l),.cells true 0 [iV W,iV Hh,.sl (some (H.length,0)) xs.length none,.sl (some (H.length+1,0)) l.length none,iV tu,iV le,iV sl,iV ra,.bool lost]]) ?_ ?_
 ·refine af ?_ (aQ)<;>intro J hJ
  refine ag G1 ?_
  refine cx (lcop_c _ W _ _ xs (zA2 hb0pp hbpp) hx6 hx0) ?_
  refine ag G1 ?_
  refine cx (je _ _ l (zA2 hb0s hbs) (by omega) (by omega)) ?_
  refine ag G1 ?_
  refine ai (hJ _ _ ⟨_,_,_,⟨rfl,rfl⟩,bS hbel [0,1,2] (al (jn @ap (jn @au (jn @aA @ax))))⟩)
 rintro F2 H2 ⟨rfl,rfl⟩
 refine fnF ?_
 have G2:=jn @bU (jn @cr (jn @bo (jn @cQ G1)))
 refine aa G2 ?_
 refine hQ _ _ (aM (.inl rfl) hbel (x1:=.ptr (some (H.length+2,0))) (l2:=[.cells true 1 (ints .u8 xs),.cells true 6 (r6 l),.cells true 0 [iV W,iV Hh,.sl (some (H.length,0)) xs.length none,.sl (some (H.length+1,0)) l.length none,iV tu,iV le,iV sl,iV ra,.bool lost]]) (.ptr (some (H.length+2,0))) (aU results23) [] rfl [0,1,2] (by decide) ⟨rfl,rfl⟩ ?_)
 exact aF @ax
theorem lbox_c (H:ac)(W Hh:Int)(pp:AV)(xs:List Int)(s:AV)(l:List T6)(tu le sl ra:Int)(lost:Bool)(bz:Nat)(hpp:zI H pp xs)(hs:Sl H 6 s l.length (r6 l))(hz:∃o,H[bz]? = some (.cells o 0 [iV W,iV Hh,pp,s,iV tu,iV le,iV sl,iV ra,.bool lost]))(hS:bk l=true)(hl0:0<l.length):zC 26 [.ptr (some (bz,0))] H (.tup [.agg [iV ((hulN l (l.length-1)).1),iV ((hulN l (l.length-1)).2.1),iV ((hulN l (l.length-1)).2.2.1),iV ((hulN l (l.length-1)).2.2.2.1),iV ((hulN l (l.length-1)).2.2.2.2.1),iV ((hulN l (l.length-1)).2.2.2.2.2)],.bool true]) H:=by
 obtain⟨bpp,opp,cpp,rfl,hbpp,hblpp,hb0pp⟩:=zA1 hpp
 obtain⟨bs,os,cs,rfl,hbs,hbls,hb0s⟩:=zA1 hs
 obtain⟨oz,hbz⟩:=hz
 have hblz:=getElem?_lt hbz
 have hb0z:=fun l=>ae (l:=l) hbz
 have hSS:=bi.1 hS
 have hl16:=hSS.1
 refine AcT true func26 ?_;intro hbel Q hQ
 have q1:=qs (l:=l) (by omega)
 have G3:=jn @hbpp (jn @hb0pp (jn @hbs (jn @hb0s (jn @hbz (jn @hb0z (jn @bo (jn q1 @Option.isNone_some.{0})))))))
 refine aa G3 ?_
 refine glp (fun k F Hx=>∃i:Nat,i+k=l.length-1/\F=[(2,.ptr (some (H.length,0))),(4,.ptr (some (H.length+1,0))),(20,.sl (some (bs,6)) (l.length-1) none),(21,iV ((l.length-1:Nat):Int)),(22,iV (i:Int))]/\Hx=H++[.cells true 0 [iV 0,iV 0,iV 0,iV 0,iV 0,iV 0],.cells true 0 [iV ((hulN l i).1),iV ((hulN l i).2.1),iV ((hulN l i).2.2.1),iV ((hulN l i).2.2.2.1),iV ((hulN l i).2.2.2.2.1),iV ((hulN l i).2.2.2.2.2)]]) (l.length-1) ?_ ?_
 ·refine⟨_,_,_,⟨0,by omega,rfl,rfl⟩,bS hbel [0,1] (aF @hulN.eq_1)⟩
 rintro k0 F Hx ⟨i,hm0,rfl,rfl⟩ J0 hJ0
 refine rcs G3 (fun h2 h2d _=>?_) (fun h2 h2d G5=>?_)
 ·have hlt:i+1<l.length:=by omega
  have hb1:bxB ((hulN l i).1) ((hulN l i).2.1) ((hulN l i).2.2.1) ((hulN l i).2.2.2.1) ((hulN l i).2.2.2.2.1) ((hulN l i).2.2.2.2.2)=true:=oI hSS.2 i (by omega)
  have hb2:bxB (g61 l (i+1)) (g62 l (i+1)) (g63 l (i+1)) (g64 l (i+1)) (g65 l (i+1)) (g66 l (i+1))=true:=hSS.2 _ (bY hlt)
  have hs0:(hulN l (i+1)).1=mnI ((hulN l i).1) (g61 l (i+1)):=rfl
  have hs1:(hulN l (i+1)).2.1=mnI ((hulN l i).2.1) (g62 l (i+1)):=rfl
  have hs2:(hulN l (i+1)).2.2.1=mxI ((hulN l i).2.2.1) (g63 l (i+1)):=rfl
  have hs3:(hulN l (i+1)).2.2.2.1=mxI ((hulN l i).2.2.2.1) (g64 l (i+1)):=rfl
  have hs4:(hulN l (i+1)).2.2.2.2.1=(bM ((hulN l i).2.2.2.2.1) ((hulN l i).2.2.2.2.2) (g65 l (i+1)) (g66 l (i+1))).1:=rfl
  have hs5:(hulN l (i+1)).2.2.2.2.2=(bM ((hulN l i).2.2.2.2.1) ((hulN l i).2.2.2.2.2) (g65 l (i+1)) (g66 l (i+1))).2:=rfl
  have q3:=r6_load1 (l:=l) (j:=i) (by omega)
  have G4:=jn h2 (jn h2d (jn q3 G3))
  refine aa G4 ?_
  refine cvr G4 (bhull_c _ _ _ _ _ _ _ _ _ _ _ _ _ (by assumption) (by assumption)) ?_
  refine hJ0 _ _ ⟨k0-1,by omega,_,_,_,⟨i+1,by omega,rfl,rfl⟩,bS hbel [0,1] (aF (jn @hs0 (jn @hs1 (jn @hs2 (jn @hs3 (jn @hs4 @hs5))))))⟩
 obtain rfl:i=l.length-1:=by omega
 exact eR G5 hQ hbel (.tup [.agg [iV ((hulN l (l.length-1)).1),iV ((hulN l (l.length-1)).2.1),iV ((hulN l (l.length-1)).2.2.1),iV ((hulN l (l.length-1)).2.2.2.1),iV ((hulN l (l.length-1)).2.2.2.2.1),iV ((hulN l (l.length-1)).2.2.2.2.2)],.bool true]) results26 ⟨rfl,rfl⟩
theorem ee {α:Type}{H l:List α}{x:α}{b:Nat}(h:b<H.length):(H++l).set b x=H.set b x++l:=List.set_append_left _ _ h
theorem ez {α:Type}{H l:List α}{x:α}{b:Nat}(h:b<H.length):(H.set b x++l)[b]? = some x:=by
 rw[List.getElem?_append_left (by rw[List.length_set];exact h),List.getElem?_set_self h]
theorem d9 {α:Type}{H:List α}{x:α}{b:Nat}(h:b<H.length):(H.set b x)[b]? = some x:=List.getElem?_set_self h
theorem d5 {α:Type}{H l:List α}{x y:α}{b:Nat}(h:b<H.length):(H.set b x++l).set b y=H.set b y++l:=by
 rw[ee (by rw[List.length_set];exact h),List.set_set]
theorem eW {α:Type}{H l:List α}{x:α}{b k:Nat}:(H.set b x++l)[H.length+k]? = l[k]? :=by
 rw[List.getElem?_append_right (by rw[List.length_set];omega),List.length_set];congr 1;omega
theorem ft {α:Type}{H l:List α}{x:α}{b:Nat}:(H.set b x++l)[H.length]? = l[0]? :=eW (k:=0)
theorem eX {α:Type}{H l:List α}{x y:α}{b k:Nat}:(H.set b x++l).set (H.length+k) y=H.set b x++l.set k y:=by
 rw[List.set_append_right _ _ (by rw[List.length_set];omega),List.length_set];congr 2;omega
theorem fu {α:Type}{H l:List α}{x y:α}{b:Nat}:(H.set b x++l).set H.length y=H.set b x++l.set 0 y:=eX (k:=0)
theorem Abs0.put {n:Nat}{σ:Nat->Nat}{F1 F2:Fr}{H1 H2:ac}(h:Abs0 n σ F1 H1 F2 H2)(hs:∀c,n<=c->n<=σ c)(hi:∀b,σ b<H1.length->b<H2.length)(ho:∀(b:Nat) (x:ABlk),H2[b]? = some x->x.owned=true->∃x',H1[σ b]? = some x'/\x'.owned=true){bf:Nat}(hb:bf<n)(hd:H1[bf]? = some .dead)(y:ABlk):Abs0 n σ F1 (H1.set bf (y.mv σ)) F2 (H2.set bf y):=by
 have lt1:bf<H1.length:=getElem?_lt hd
 have lt2:bf<H2.length:=Nat.lt_of_lt_of_le hb h.len
 have hsb:∀c,c≠bf->σ c≠bf:=fun c hc=>by
  by_cases hcn:c<n
  ·rw[h.small c hcn];exact hc
  have:=hs c (by omega);omega
 have own:∀(b:Nat) (x:ABlk),(H2.set bf y)[b]? = some x->x.owned=true->∃x',(H1.set bf (y.mv σ))[σ b]? = some x'/\x'.owned=true:=fun b x hx ox=>by
  by_cases e:bf=b
  ·subst e
   rw[List.getElem?_set_self lt2] at hx;injection hx with hx;subst hx
   rw[h.small _ hb,List.getElem?_set_self lt1]
   exact⟨_,rfl,by cases y<;>exact ox⟩
  rw[List.getElem?_set_ne e] at hx
  rw[List.getElem?_set_ne (hsb b (fun k=>e k.symm)).symm]
  exact ho b x hx ox
 refine⟨h.small,by rw[List.length_set];exact h.len,fun E E' e1 e2 e3 t v hv=>h.frame E E' (by rw[e1,List.length_set]) (by rw[e2,List.length_set]) e3 t v hv,fun E E' e1 e2 eB e3 w hw b x hx=>?_,fun b c x z hx hz ox oz hbc=>⟨?_,own b x hx ox,own c z hz oz⟩⟩
 ·rw[List.length_set] at e1 e2
  by_cases e:bf=b
  ·subst e
   rw[List.getElem?_set_self lt2] at hx;injection hx with hx;subst hx
   have k:=hw bf _ (List.getElem?_set_self lt1)
   rw[e3,h.small _ hb]
   exact m9 eB e3 (fun b hb=>by rw[e2];exact hi b (by rw[<-e1];exact hb)) k
  rw[List.getElem?_set_ne e] at hx
  refine h.heap E E' e1 e2 eB e3 w (fun c z hz=>?_) b x hx
  by_cases e':bf=c
  ·subst e';rw[hd] at hz;injection hz with hz;subst hz;trivial
  exact hw c z (by rw[List.getElem?_set_ne e'];exact hz)
 by_cases e:bf=b
 ·subst e;rw[h.small _ hb];exact(hsb c (fun k=>hbc k.symm)).symm
 by_cases e':bf=c
 ·subst e';rw[h.small _ hb];exact hsb b (fun k=>e k.symm)
 rw[List.getElem?_set_ne e] at hx
 rw[List.getElem?_set_ne e'] at hz
 exact(h.inj b c x z hx hz ox oz hbc).1
theorem Abs.byP {H M l1 l2:ac}{F1 F2:Fr}{bf:Nat}{b1:ABlk}(b2:ABlk) (hbel:HBel H.length H) (hbf:bf<H.length) (hM:M=H.set bf b1++l1) (G:ac) (hG:G.all gf=true) (sel:List Nat) (hnd:sel.Nodup)
  (h:fi (H.length+(l1++G).length) (sig H.length (l1++G).length sel) F1 F2/\b1=b2.mv (sig H.length (l1++G).length sel)/\fj (H.length+(l1++G).length) (sig H.length (l1++G).length sel) (l1++G) sel l2):Abs H.length (sig H.length (l1++G).length sel) F1 M F2 (H.set bf b2++l2):=by
 subst hM
 obtain⟨hF,hb,ha⟩:=h
 have hl:=(eJ ha).1
 have hH:=(eJ ha).2
 have hn:(H.set bf .dead).length=H.length:=List.length_set
 have hbel2:HBel H.length (H.set bf .dead):=fun b x hx=>by
  by_cases e:bf=b
  ·subst e;rw[List.getElem?_set_self hbf] at hx;injection hx with hx;subst hx;rfl
  rw[List.getElem?_set_ne e] at hx;exact hbel b x hx
 have k:=Abs0.of (n:=H.length) (H0:=H.set bf .dead) (l1:=l1++G) (l2:=l2) (F1:=F1) (F2:=F2) hn hbel2 sel hnd (mo hF) hl hH
 have small:∀b,b<H.length->sig H.length (l1++G).length sel b=b:=fun b hb=>by simp[sig,hb]
 have k2:=k.put (bf:=bf) (fun c hc=>by
   unfold sig
   rw[if_neg (by omega)]
   split<;>omega) (fun b hb=>by
   simp only[List.length_append,List.length_set] at hb ⊢
   unfold sig at hb
   split at hb
   ·omega
   ·split at hb
    ·rename_i q;have:=getElem?_lt q;omega
    omega) (fun b x hx ho=>by
   by_cases hbn:b<H.length
   ·rw[small b hbn,List.getElem?_append_left (by rw[hn];exact hbn)]
    rw[List.getElem?_append_left (by rw[hn];exact hbn)] at hx
    exact⟨x,hx,ho⟩
   rw[List.getElem?_append_right (by rw[hn];omega),hn] at hx
   have hlt:=getElem?_lt hx
   have h1:sel[b-H.length]? = some (sel[b-H.length]'(by omega)):=List.getElem?_eq_getElem _
   have h2:sig H.length (l1++G).length sel b=H.length+sel[b-H.length]'(by omega):=by unfold sig;rw[if_neg hbn,h1]
   rw[h2,List.getElem?_append_right (by rw[hn];omega),hn,show ∀i:Nat,H.length+i-H.length=i from fun i=>by omega]
   rcases hH _ _ x h1 hx with rfl|h4|h4
   ·cases ho
   ·exact⟨_,h4,by cases x<;>exact ho⟩
   exact h4.own (by cases x<;>exact ho)) hbf (by rw[List.getElem?_append_left (by rw[hn];exact hbf)];exact List.getElem?_set_self hbf) b2
 rw[d5 hbf,d5 hbf,<-hb,<-List.append_assoc] at k2
 exact⟨G,hG,k2⟩
theorem fz {P:Program}{fn:Func}{H M l1 l2:ac}{bf:Nat}{b1:ABlk}(b2:ABlk) {R:AV->ac->Prop}{F:Fr}{e:Exit}(he:e=.ret\/e=.normal) (hbel:HBel H.length H) (hbf:bf<H.length) (hM:M=H.set bf b1++l1) {x1:AV}(x2:AV) (hx:dp P fn F M=some x1) (G:ac) (hG:G.all gf=true) (sel:List Nat) (hnd:sel.Nodup) (hR:R x2 (H.set bf b2++l2))
  (h:W (H.length+(l1++G).length) x1 (x2.mv (sig H.length (l1++G).length sel))/\b1=b2.mv (sig H.length (l1++G).length sel)/\fj (H.length+(l1++G).length) (sig H.length (l1++G).length sel) (l1++G) sel l2):dE P fn H.length R e F M:=by
 have kk:=Abs.byP (F1:=[(0,x1)]) (F2:=[(0,x2)]) b2 hbel hbf hM G hG sel hnd ⟨⟨h.1,trivial⟩,h.2⟩
 rcases he with rfl|rfl
 ·exact⟨x1,hx,_,x2,_,hR,kk⟩
 exact⟨x1,hx,_,x2,_,hR,kk⟩
end Go.Proofs.YtidlfjajjieepaaGreat
