/- Parts of the proof: walks and plain facts. Conditions: as each theorem states. -/
import Derived.Test.YtidlfjajjieepaaGreatG4
import Derived.Test.YtidlfjajjieepaaGreatG3
import Derived.Test.YtidlfjajjieepaaGreatG2
import Derived.Test.YtidlfjajjieepaaGreatG1
import Derived.Maps.AppendAt
import Derived.Deep.RegionLaw
import Derived.Lib.SliceRun
namespace Go.Proofs.YtidlfjajjieepaaGreat
set_option linter.unusedSimpArgs false
set_option linter.unusedVariables false
open Go.RowKit Go.Proofs.Tryz
set_option maxHeartbeats 4000000
set_option maxRecDepth 100000
theorem oJ (H:ac)(W Hh:Int)(pp:AV)(xs:List Int)(hpp:zI H pp xs)(hx6:xs.length<=1000000)(hx0:0<xs.length):zC 35 [.agg [iV W,iV Hh,pp]] H (.agg [iV W,iV Hh,.sl (some (H.length,0)) xs.length none]) (H++[.cells true 1 (ints .u8 xs)]):=by
 obtain⟨bpp,opp,cpp,rfl,hbpp,hblpp,hb0pp⟩:=zA1 hpp
 have hz1:(xs.length==0)=false:=beq_eq_false_iff_ne.2 (by omega)
 have hz2:decide (0<xs.length)=true:=decide_eq_true (by omega)
 refine AcT false func35 ?_;intro hbel Q hQ
 have G1:=jn @hbpp (jn @hb0pp (jn @bU (jn @cr (jn @ku (jn @hz1 @hz2)))))
 refine aa G1 ?_
 refine hQ _ _ (aM (.inl rfl) hbel (x1:=.agg [iV W,iV Hh,.sl (some (H.length+3,0)) xs.length none]) (l2:=[.cells true 1 (ints .u8 xs)]) (.agg [iV W,iV Hh,.sl (some (H.length,0)) xs.length none]) (aU results35) [] rfl [3] (by decide) ⟨rfl,rfl⟩ ?_)
 exact ar
theorem rgset_c (H:ac)(W Hh:Int)(pp:AV)(xs:List Int)(s:AV)(l:List T6)(tu le sl ra:Int)(lost:Bool)(bz:Nat)(hpp:zI H pp xs)(hs:Sl H 6 s l.length (r6 l))(hz:∃o,H[bz]? = some (.cells o 0 [iV W,iV Hh,pp,s,iV tu,iV le,iV sl,iV ra,.bool lost]))(hl16:l.length<=16)(hl0:0<l.length):zC 37 [.ptr (some (bz,0))] H (.sl (some (H.length,0)) l.length none) (H++[.cells true 6 (r6 l)]):=by
 obtain⟨bpp,opp,cpp,rfl,hbpp,hblpp,hb0pp⟩:=zA1 hpp
 obtain⟨bs,os,cs,rfl,hbs,hbls,hb0s⟩:=zA1 hs
 obtain⟨oz,hbz⟩:=hz
 have hblz:=getElem?_lt hbz
 have hb0z:=fun l=>ae (l:=l) hbz
 have hz1:(l.length==0)=false:=beq_eq_false_iff_ne.2 (by omega)
 have hz2:decide (0<l.length)=true:=decide_eq_true (by omega)
 refine AcT false func37 ?_;intro hbel Q hQ
 have G2:=jn @hbpp (jn @hb0pp (jn @hbs (jn @hb0s (jn @hbz (jn @hb0z (jn @bo (jn @cQ (jn @iU (jn @hz1 (jn @hz2 @Option.isNone_some.{0}))))))))))
 refine aa G2 ?_
 refine hQ _ _ (aM (.inl rfl) hbel (x1:=.sl (some (H.length+1,0)) l.length none) (l2:=[.cells true 6 (r6 l)]) (.sl (some (H.length,0)) l.length none) (aU results37) [] rfl [1] (by decide) ⟨rfl,rfl⟩ ?_)
 exact aF @ax
theorem rgplan_c (H:ac)(W Hh:Int)(pp:AV)(xs:List Int)(s:AV)(l:List T6)(tu le sl ra:Int)(lost:Bool)(bz:Nat)(hpp:zI H pp xs)(hs:Sl H 6 s l.length (r6 l))(hz:∃o,H[bz]? = some (.cells o 0 [iV W,iV Hh,pp,s,iV tu,iV le,iV sl,iV ra,.bool lost]))(hx6:xs.length<=1000000)(hx0:0<xs.length):zC 38 [.ptr (some (bz,0))] H (.agg [iV W,iV Hh,.sl (some (H.length,0)) xs.length none]) (H++[.cells true 1 (ints .u8 xs)]):=by
 obtain⟨bpp,opp,cpp,rfl,hbpp,hblpp,hb0pp⟩:=zA1 hpp
 obtain⟨bs,os,cs,rfl,hbs,hbls,hb0s⟩:=zA1 hs
 obtain⟨oz,hbz⟩:=hz
 have hblz:=getElem?_lt hbz
 have hb0z:=fun l=>ae (l:=l) hbz
 refine AcT true func38 ?_;intro hbel Q hQ
 have G3:=jn @hbpp (jn @hb0pp (jn @hbs (jn @hb0s (jn @hbz (jn @hb0z @Option.isNone_some.{0})))))
 refine aa G3 ?_
 refine cvr G3 (oJ _ W _ _ xs (zA2 hb0pp hbpp) hx6 hx0) ?_
 refine hQ _ _ (aM (.inl rfl) hbel (x1:=.agg [iV W,iV Hh,.sl (some (H.length+1,0)) xs.length none]) (l2:=[.cells true 1 (ints .u8 xs)]) (.agg [iV W,iV Hh,.sl (some (H.length,0)) xs.length none]) (aU results38) [] rfl [1] (by decide) ⟨rfl,rfl⟩ ?_)
 exact ar
theorem rgnew_y (H:ac)(W Hh:Int)(pp:AV)(xs:List Int)(s:AV)(l:List T6)(tu le sl ra:Int)(hpp:zI H pp xs)(hs:Sl H 6 s l.length (r6 l))(hV:bK W Hh xs=true)(hL:lsB l=true)(hB:bO tu le sl ra=true):zC 9 [.agg [iV W,iV Hh,pp],s,.agg [iV tu,iV le,iV sl,iV ra]] H (.tup [.ptr (some (H.length+2,0)),iV 0]) (H++[.cells true 1 (ints .u8 xs),.cells true 6 (r6 l),.cells true 0 [iV W,iV Hh,.sl (some (H.length,0)) xs.length none,.sl (some (H.length+1,0)) l.length none,iV tu,iV le,iV sl,iV ra,.bool false]]):=by
 obtain⟨bpp,opp,cpp,rfl,hbpp,hblpp,hb0pp⟩:=zA1 hpp
 obtain⟨bs,os,cs,rfl,hbs,hbls,hb0s⟩:=zA1 hs
 have hVV:=bp.1 hV
 have hx6:xs.length<=1000000:=by have h4:=hVV.len;have:=Int.mul_le_mul hVV.w1 hVV.h1 (by have:=hVV.h0;omega) (by decide);omega
 have hx0:0<xs.length:=by have:=(hVV.idx (show inB W Hh 0 0=true from c7.2 (by have:=hVV.w0;have:=hVV.h0;omega))).2.2.2.2.1;omega
 have hLL:=gc.1 hL
 have hS16:=(bi.1 hLL.2).1
 have hl0:=hLL.1
 have hz1:(l.length==0)=false:=beq_eq_false_iff_ne.2 (by omega)
 have hz2:decide (0<l.length)=true:=decide_eq_true (by omega)
 (refine aR func9 _ rfl (Nat.le_of_ble_eq_true (by kernel_rfl)) rfl ?_;intro hbel Q hQ hQ' c hc;unfold Tryz.f9 at hc;simp only[Option.some.injEq] at hc;subst hc;clear hQ')
 refine zQF hQ fun Q1 hn1 hQ1 he1=>?_
 have G4:=jn @hbpp (jn @hb0pp (jn @hbs (jn @hb0s (jn @hV (jn @hL (jn @hB (jn @hz1 @hz2)))))))
 refine aa G4 ?_
 refine hn1 _ _ (zQF hQ fun Q2 hn2 hQ2 he2=>?_)
 refine aa G4 ?_
 refine cvr G4 (iF _ W Hh _ xs (.inr (zA2 hb0pp hbpp))) ?_
 refine cvr G4 (pI _ _ l (zA2 hb0s hbs) (by omega)) ?_
 refine cvr G4 (jM _ _ _ _ _) ?_
 refine hn2 _ _ ?_
 refine aL false try_mixed [[0,1,2,3,4,5,6,7,8,9],[0,2,1,3,4,5,6,7,8,9]] (by kernel_rfl) (fun F2 H2=>F2=[(6,.ptr (some (H.length+2,0))),(7,iV 0)]/\H2=H++[.cells true 1 (ints .u8 xs),.cells true 6 (r6 l),.cells true 0 [iV W,iV Hh,.sl (some (H.length,0)) xs.length none,.sl (some (H.length+1,0)) l.length none,iV tu,iV le,iV sl,iV ra,.bool false]]) ?_ ?_
 ·refine af ?_ (af ?_ (aQ))<;>intro J hJ
  ·refine ag G4 ?_
   refine cx (oJ _ W _ _ xs (zA2 hb0pp hbpp) hx6 hx0) ?_
   have G5:=jn @bo (jn @cQ (jn @iU G4))
   refine ag G5 ?_
   refine ai (hJ _ _ ⟨_,_,_,⟨rfl,rfl⟩,bS hbel [2,4,5] (al (jn @ap (jn @au (jn @aA @ax))))⟩)
  refine ag G4 ?_
  refine cx (oJ _ W _ _ xs (zA2 hb0pp hbpp) hx6 hx0) ?_
  have G6:=jn @bo (jn @cQ (jn @iU G4))
  refine ag G6 ?_
  refine ai (hJ _ _ ⟨_,_,_,⟨rfl,rfl⟩,bS hbel [3,4,5] (al (jn @ap (jn @au (jn @aA @ax))))⟩)
 rintro F2 H2 ⟨rfl,rfl⟩
 refine fnF ?_
 have G7:=jn @bU (jn @cr (jn @bo (jn @cQ G4)))
 refine aa G7 ?_
 refine hQ _ _ (aM (.inl rfl) hbel (x1:=.tup [.ptr (some (H.length+2,0)),iV 0]) (l2:=[.cells true 1 (ints .u8 xs),.cells true 6 (r6 l),.cells true 0 [iV W,iV Hh,.sl (some (H.length,0)) xs.length none,.sl (some (H.length+1,0)) l.length none,iV tu,iV le,iV sl,iV ra,.bool false]]) (.tup [.ptr (some (H.length+2,0)),iV 0]) (aU results9) [] rfl [0,1,2] (by decide) ⟨rfl,rfl⟩ ?_)
 exact aF @ax
theorem rgnew_n (H:ac)(W Hh:Int)(pp:AV)(xs:List Int)(s:AV)(l:List T6)(tu le sl ra:Int)(hpp:zI H pp xs)(hs:Sl H 6 s l.length (r6 l))(hl:l.length<=1000000000)(hn:(bK W Hh xs&&lsB l&&bO tu le sl ra)=false):zC 9 [.agg [iV W,iV Hh,pp],s,.agg [iV tu,iV le,iV sl,iV ra]] H (.tup [.ptr none,iV 1]) H:=by
 obtain⟨bpp,opp,cpp,rfl,hbpp,hblpp,hb0pp⟩:=zA1 hpp
 obtain⟨bs,os,cs,rfl,hbs,hbls,hb0s⟩:=zA1 hs
 (refine aR func9 _ rfl (Nat.le_of_ble_eq_true (by kernel_rfl)) rfl ?_;intro hbel Q hQ hQ' c hc;unfold Tryz.f9 at hc;simp only[Option.some.injEq] at hc;subst hc;clear hQ')
 refine zQT hQ fun Q3 hn3 hQ3 he3=>?_
 have G8:=jn @hbpp (jn @hb0pp (jn @hbs @hb0s))
 refine aa G8 ?_
 refine hn3 _ _ (zQT hQ fun Q4 hn4 hQ4 he4=>?_)
 refine aa G8 ?_
 refine cv (iF _ W Hh _ xs (.inr (zA2 hb0pp hbpp))) ?_
 refine rgs G8 (fun h1 h1d G9=>?_) (fun h1 h1d G13=>?_)
 ·have hV:=h1d
  refine aa G9 ?_
  refine cv (pI _ _ l (zA2 hb0s hbs) (by omega)) ?_
  refine rgs G9 (fun h2 h2d G10=>?_) (fun h2 h2d G12=>?_)
  ·have hL:=h2d
   refine aa G10 ?_
   refine cv (jM _ _ _ _ _) ?_
   refine rcs G10 (fun h3 h3d G11=>?_) (fun h3 h3d _=>?_)
   ·exact eR G11 hQ4 hbel (.tup [.ptr none,iV 1]) results9 ⟨rfl,rfl⟩
   rw[hV,hL,h3d] at hn
   exact absurd hn (by decide)
  exact eR G12 hQ4 hbel (.tup [.ptr none,iV 1]) results9 ⟨rfl,rfl⟩
 exact eR G13 hQ4 hbel (.tup [.ptr none,iV 1]) results9 ⟨rfl,rfl⟩
theorem ray_near {px py vx vy vd hi x0 y0 x1 y1 n m:Int}(hn:0<=n)(hm:0<m)(h:n*vd<=hi*m)(hx : -vd<=vx/\vx<=vd)(hy : -vd<=vy/\vy<=vd)(hr:ec px py vx vy x0 y0 x1 y1 n m):(x0<=px+hi/\px-hi<=x1)/\y0<=py+hi/\py-hi<=y1:=by
 have one:∀{p v a b:Int},-vd<=v/\v<=vd->m*a<=m*p+n*v->m*p+n*v<=m*b->a<=p+hi/\p-hi<=b:=fun {p v a b} hv k1 k2=>by
  have a1:=Int.mul_le_mul_of_nonneg_left hv.2 hn
  have a2:=Int.mul_le_mul_of_nonneg_left hv.1 hn
  have e0:n * -vd = -(n*vd):=Int.mul_neg _ _
  have e1:m*(p+hi)=m*p+hi*m:=by grind
  have e2:m*(p-hi)=m*p-hi*m:=by grind
  exact⟨Int.le_of_mul_le_mul_left (by omega) hm,Int.le_of_mul_le_mul_left (by omega) hm⟩
 exact⟨one hx hr.1.1 hr.1.2,one hy hr.2.1 hr.2.2⟩
theorem me_near {x y hi lo:Int}{v:Int×Int×Int}{c:Int×Int}(h:sqMe x y v lo hi c=true):(c.1*64<=x+hi/\x-hi<=c.1*64+64)/\c.2*64<=y+hi/\y-hi<=c.2*64+64:=by
 obtain⟨-,hg,n,m,k1,k2,-,k4,k5⟩:=iH.1 h
 have hv:=bj.1 (dj.1 hg).2.1
 exact ray_near k1 k2 k4 (by omega) (by omega) k5
theorem trL_iff {x y most:Int}{v:Int×Int×Int}{c:Int×Int}(hx : -1048576<=x/\x<=1048576)(hy : -1048576<=y/\y<=1048576)(hv:da v.1 v.2.1 v.2.2=true)(hm:0<=most/\most<=2048):c∈trL x y v.1 v.2.1 v.2.2 0 most↔sqMe x y v 0 most c=true:=by
 rw[(trE_0 (iE.2 ⟨hx,hy⟩) hv ⟨Int.le_refl _,hm.1,hm.2⟩).2,mE (by omega) (by omega) hv ⟨Int.le_refl _,hm.1,hm.2⟩]
 constructor
 ·intro h
  have hc:=swp_bd h
  unfold br dc at h
  simp only[Bool.and_eq_true,cS] at h
  obtain⟨⟨k1,-,k3⟩,k4⟩:=h
  obtain⟨-,-,n,m,q1,q2,q3,q4,q5⟩:=iH.1 k4
  exact iH.2 ⟨by omega,dj.2 ⟨fX.2 (by omega),hv,cS.2 (by omega)⟩,n,m,q1,q2,q3,q4,ray_sh.2 q5⟩
 intro h
 have hn:=me_near h
 obtain⟨-,-,n,m,q1,q2,q3,q4,q5⟩:=iH.1 h
 unfold br dc
 simp only[Bool.and_eq_true]
 exact⟨⟨cS.2 (by omega),cS.2 (by omega),cS.2 (by omega)⟩,iH.2 ⟨by omega,dj.2 ⟨fX.2 (by omega),hv,cS.2 (by omega)⟩,n,m,q1,q2,q3,q4,ray_sh.1 q5⟩⟩
section
variable {W Hh:Int} {xs:List Int} {x y h m g z:Int} {c:Int×Int}
theorem bf_me {x y far:Int}{v:Int×Int×Int}{c:Int×Int}(h:sqBf x y v far c=true):sqMe x y v 0 far c=true:=by
 have p:=qW h
 obtain⟨n,m,a1,a2,a3,a4⟩:=p.2.2
 exact MeeP_sme p.1 p.2.1 ⟨n,m,a1,a2,Int.le_of_lt a3,a4⟩
end
theorem rem_n3 (a:Nat):Int.tmod (a:Int) 3=((a%3:Nat):Int):=rfl
def ow (i:Nat):Bool:=match i with
 |0=>false
 |_+1=>true
abbrev C4:=Int×Int×Int×T6
def chN (l:List T6) (i j:Nat):Int:=cY (ew (g6 l i) (g6 l j))-cY (g6 l i)-cY (g6 l j)
def chU (l:List T6) (i k:Nat) (s:C4):C4:=if s.1<0\/chN l i (i+1+k)<s.2.2.1 then ((i:Int),(i:Int)+1+(k:Int),chN l i (i+1+k),ew (g6 l i) (g6 l (i+1+k))) else s
def chR (l:List T6) (i:Nat) (s:C4):Nat->C4
 |0=>s
 |k+1=>chU l i k (chR l i s k)
def chO (l:List T6):Nat->C4
 |0=>(-1,-1,0,(0,0,0,0,0,0))
 |n+1=>chR l n (chO l n) (l.length-(n+1))
def chP (l:List T6) (s:C4):Prop:=∃i j:Nat,i<j/\j<l.length/\s.1=(i:Int)/\s.2.1=(j:Int)/\s.2.2.2=ew (g6 l i) (g6 l j)
theorem gx (b:T6):0<=cY b/\cY b<=1125906929254400:=by
 unfold cY
 split
 ·rename_i h
  have hb:=bB.1 h
  have ha:=bh.1 hb.2.2
  have m1:=aP (a:=b.2.2.1-b.1+1) (b:=b.2.2.2.1-b.2.1+1) (A:=2097153) (B:=2097153) (by omega) (by omega)
  have p1:0<=(b.2.2.1-b.1+1)*(b.2.2.2.1-b.2.1+1):=Int.mul_nonneg (by omega) (by omega)
  have m2:=aP (a:=(b.2.2.1-b.1+1)*(b.2.2.2.1-b.2.1+1)) (b:=b.2.2.2.2.2) (A:=4398050705409) (B:=256) (by omega) (by omega)
  have p2:0<=(b.2.2.1-b.1+1)*(b.2.2.2.1-b.2.1+1)*b.2.2.2.2.2:=Int.mul_nonneg p1 (by omega)
  omega
 omega
theorem chN_bd (l:List T6)(i j:Nat): -2251813858508800<=chN l i j/\chN l i j<=1125906929254400:=by
 have h1:=gx (ew (g6 l i) (g6 l j))
 have h2:=gx (g6 l i)
 have h3:=gx (g6 l j)
 unfold chN;omega
theorem chU_c (l:List T6)(i k:Nat)(s:C4):(chU l i k s=((i:Int),(i:Int)+1+(k:Int),chN l i (i+1+k),ew (g6 l i) (g6 l (i+1+k)))/\(s.1<0\/chN l i (i+1+k)<s.2.2.1))\/(chU l i k s=s/\¬s.1<0/\¬chN l i (i+1+k)<s.2.2.1):=by
 unfold chU
 split
 ·rename_i h;exact .inl ⟨rfl,h⟩
 rename_i h;exact .inr ⟨rfl,fun q=>h (.inl q),fun q=>h (.inr q)⟩
def chI (l:List T6) (s:C4):Prop:=(s.1 = -1/\s.2.1 = -1/\s.2.2.1=0)\/(chP l s /\ -2251813858508800<=s.2.2.1/\s.2.2.1<=1125906929254400)
theorem chU_i {l:List T6}{i k:Nat}{s:C4}(h:chI l s)(hk:i+1+k<l.length):chI l (chU l i k s)/\¬(chU l i k s).1<0:=by
 have e:((i:Int)+1+(k:Int))=((i+1+k:Nat):Int):=by omega
 rcases chU_c l i k s with ⟨q,-⟩|⟨q,h1,h2⟩
 ·rw[q]
  exact⟨.inr ⟨⟨i,i+1+k,by omega,hk,rfl,e,rfl⟩,chN_bd l i (i+1+k)⟩,by simp only;omega⟩
 rw[q];exact⟨h,h1⟩
theorem chR_i {l:List T6}{i:Nat}{s:C4}(h:chI l s):∀k:Nat,k<=l.length-(i+1)->chI l (chR l i s k)/\(0<k->¬(chR l i s k).1<0)/\(¬s.1<0->¬(chR l i s k).1<0)
 |0,_=>⟨h,fun q=>by omega,fun q=>q⟩
 | k+1,hk=>by
  have ih:=chR_i (i:=i) h k (by omega)
  have u:=chU_i (k:=k) (i:=i) ih.1 (by omega)
  exact⟨u.1,fun _=>u.2,fun _=>u.2⟩
theorem chO_i (l:List T6):∀n:Nat,n<=l.length->chI l (chO l n)/\(0<n->2<=l.length->¬(chO l n).1<0)
 |0,_=>⟨.inl ⟨rfl,rfl,rfl⟩,fun q=>by omega⟩
 | n+1,hn=>by
  have ih:=chO_i l n (by omega)
  have r:=chR_i (i:=n) ih.1 (l.length-(n+1)) (Nat.le_refl _)
  refine⟨r.1,fun _ h2=>?_⟩
  rcases Nat.eq_zero_or_pos n with h0|h0
  ·exact r.2.1 (by omega)
  exact r.2.2 (ih.2 h0 h2)
theorem chO_p {l:List T6}(h:2<=l.length):chP l (chO l l.length):=by
 have k:=chO_i l l.length (Nat.le_refl _)
 have k2:=k.2 (by omega) h
 rcases k.1 with ⟨q,-⟩|⟨q,-⟩
 ·omega
 exact q
theorem chO_bd {l:List T6}{n:Nat}(h:n<=l.length):(-1<=(chO l n).1/\(chO l n).1<=(l.length:Int)) /\ -2251813858508800<=(chO l n).2.2.1/\(chO l n).2.2.1<=1125906929254400:=by
 rcases (chO_i l n h).1 with ⟨a,b,c⟩|⟨⟨i,j,h1,h2,a,b,c⟩,d⟩<;>omega
theorem chR_bd {l:List T6}{n k:Nat}(h:n<=l.length)(hk:k<=l.length-(n+1)):(-1<=(chR l n (chO l n) k).1/\(chR l n (chO l n) k).1<=(l.length:Int)) /\ -2251813858508800<=(chR l n (chO l n) k).2.2.1/\(chR l n (chO l n) k).2.2.1<=1125906929254400:=by
 rcases (chR_i (i:=n) (chO_i l n h).1 k hk).1 with ⟨a,b,c⟩|⟨⟨i,j,h1,h2,a,b,c⟩,d⟩<;>omega
def cpA (l:List T6):List T6:=l.set (chO l l.length).1.toNat (chO l l.length).2.2.2
def cpS (l:List T6):List T6:=(cpA l).take (chO l l.length).2.1.toNat++(cpA l).drop ((chO l l.length).2.1.toNat+1)
def cpI:Nat->List T6->List T6
 |0,l=>l
 |n+1,l=>cpI n (cpS l)
def cpL (l:List T6):List T6:=cpI (l.length-16) l
theorem cpA_len (l:List T6):(cpA l).length=l.length:=List.length_set
theorem oK {l:List T6}(h:2<=l.length):(cpS l).length=l.length-1:=by
 obtain⟨i,j,h1,h2,a,b,c⟩:=chO_p h
 unfold cpS
 rw[List.length_append,List.length_take,List.length_drop,cpA_len,b]
 omega
theorem cpS_mem {l:List T6}(h:2<=l.length):∃i j:Nat,i<j/\j<l.length/\ew (g6 l i) (g6 l j)∈cpS l/\(∀b∈cpS l,b∈l\/b=ew (g6 l i) (g6 l j))/\∀n:Nat,n<l.length->n≠i->n≠j->g6 l n∈cpS l:=by
 obtain⟨i,j,h1,h2,a,b,c⟩:=chO_p h
 have eA:cpA l=l.set i (ew (g6 l i) (g6 l j)):=by unfold cpA;rw[a,c];rfl
 have eS:cpS l=(l.set i (ew (g6 l i) (g6 l j))).take j++(l.set i (ew (g6 l i) (g6 l j))).drop (j+1):=by unfold cpS;rw[eA,b];rfl
 have hin:∀n:Nat,(hn:n<(l.set i (ew (g6 l i) (g6 l j))).length)->n≠j->(l.set i (ew (g6 l i) (g6 l j)))[n]∈cpS l:=fun n hn hne=>by
  rw[eS]
  rcases Nat.lt_or_ge n j with q|q
  ·refine List.mem_append_left _ (List.mem_iff_getElem.2 ⟨n,by rw[List.length_take];omega,?_⟩)
   rw[List.getElem_take]
  refine List.mem_append_right _ (List.mem_iff_getElem.2 ⟨n-(j+1),by rw[List.length_drop];omega,?_⟩)
  rw[List.getElem_drop]
  congr 1;omega
 refine⟨i,j,h1,h2,?_,fun b hb=>?_,fun n hn hi hj=>?_⟩
 ·have:=hin i (by rw[List.length_set];omega) (by omega)
  rwa [List.getElem_set_self] at this
 ·rw[eS] at hb
  have hb':b∈l.set i (ew (g6 l i) (g6 l j)):=by
   rcases List.mem_append.1 hb with q|q
   ·exact List.mem_of_mem_take q
   exact List.mem_of_mem_drop q
  exact(List.mem_or_eq_of_mem_set hb').imp id id
 have:=hin n (by rw[List.length_set];exact hn) hj
 rw[List.getElem_set_ne (fun q=>hi q.symm)] at this
 rw[show g6 l n=l[n] from jq hn];exact this
theorem cpS_ok {l:List T6}(h:2<=l.length)(hv:∀b∈l,bl b=true):∀b∈cpS l,bl b=true:=fun b hb=>by
 obtain⟨i,j,h1,h2,-,k,-⟩:=cpS_mem h
 rcases k b hb with q|q
 ·exact hv b q
 rw[q];exact hulB_ok (hv _ (bY (by omega))) (hv _ (bY h2))
theorem cpI_ok:∀(n:Nat) (l:List T6),n+1<=l.length->(∀b∈l,bl b=true)->(∀b∈cpI n l,bl b=true)/\(cpI n l).length=l.length-n
 |0,l,_,hv=>⟨hv,rfl⟩
 | n+1,l,h,hv=>by
  have e:=oK (l:=l) (by omega)
  have ih:=cpI_ok n (cpS l) (by omega) (cpS_ok (by omega) hv)
  exact⟨ih.1,by rw[cpI,ih.2,e];omega⟩
theorem jh {l:List T6}(h0:0<l.length)(hv:∀b∈l,bl b=true):bk (cpL l)=true/\0<(cpL l).length:=by
 have k:=cpI_ok (l.length-16) l (by omega) hv
 refine⟨bi.2 ⟨?_,k.1⟩,?_⟩
 ·show (cpI (l.length-16) l).length<=16;rw[k.2];omega
 show 0<(cpI (l.length-16) l).length;rw[k.2];omega
theorem imS_ok {l:List T6}{t f tu le sl:Int}(hv:∀b∈l,bl b=true)(hf:0<=f/\f<=32)(hu:0<=tu/\tu<=8)(hl:0<=le/\le<=16)(hs:0<=sl/\sl<=8)(hA:imA l t f tu le sl=true):∀b∈imS l t f tu le sl l.length,bl b=true:=fun b hb=>by
 obtain⟨j,hj,rfl⟩:=imS_mem.1 hb
 exact imB_ok (hv _ (bY hj)) hf hu hl hs (List.all_eq_true.1 hA _ (bY hj))
theorem boxes_p (H:ac)(s:AV)(l:List T6)(t g tu le sl ra:Int)(still:Bool)(hs:Sl H 6 s l.length (r6 l))(hS:bk l=true)(hl0:0<l.length)(hC:bL t g=true)(hB:bO tu le sl ra=true)(hA:imA l t (stF still g) tu le sl=true):zC 44 [s,.agg [iV t,iV g],.agg [iV tu,iV le,iV sl,iV ra],.bool still] H (.tup [.sl (some (H.length,0)) ((imS l t (stF still g) tu le sl l.length).length) none,iV 0]) (H++[.cells true 6 (r6 (imS l t (stF still g) tu le sl l.length))]):=by
 have k:=boxes_y H s l t g tu le sl ra still hs hS hC hB hA
 rw[iQ (by rw[cE];exact hl0),dD (by rw[cE];exact hl0)] at k
 exact k
theorem lmv_y (H:ac)(W Hh:Int)(pp:AV)(xs:List Int)(s:AV)(l:List T6)(tu le sl ra:Int)(bz:Nat)(t g:Int)(still:Bool)(hpp:zI H pp xs)(hs:Sl H 6 s l.length (r6 l))(hz:H[bz]? = some (.cells true 0 [iV W,iV Hh,pp,s,iV tu,iV le,iV sl,iV ra,.bool false]))(hS:bk l=true)(hl0:0<l.length)(hC:bL t g=true)(hB:bO tu le sl ra=true)(hA:imA l t (stF still g) tu le sl=true):zC 19 [.ptr (some (bz,0)),.agg [iV t,iV g],.bool still] H (iV 0) (H.set bz (.cells true 0 [iV W,iV Hh,pp,.sl (some (H.length,0)) ((imS l t (stF still g) tu le sl l.length).length) none,iV tu,iV le,iV sl,iV ra,.bool false])++[.cells true 6 (r6 (imS l t (stF still g) tu le sl l.length))]):=by
 obtain⟨bpp,opp,cpp,rfl,hbpp,hblpp,hb0pp⟩:=zA1 hpp
 obtain⟨bs,os,cs,rfl,hbs,hbls,hb0s⟩:=zA1 hs
 have hbz:=hz
 have hblz:=getElem?_lt hbz
 have hb0z:=fun l=>ae (l:=l) hbz
 refine AcT false func19 ?_;intro hbel Q hQ
 have G1:=jn @hbpp (jn @hb0pp (jn @hbs (jn @hb0s (jn @hbz (jn @hb0z (jn @hC (jn @hB (jn @hA @Option.isNone_some.{0}))))))))
 refine aa G1 ?_
 refine cvr G1 (g7 _ t g) ?_
 rcases Bool.eq_false_or_eq_true (imA l t (stF still g) tu le sl) with h1|h1
 ·have h1d:=h1
  refine cx (boxes_p _ _ l t g _ _ _ _ _ (zA2 hb0s hbs) (by assumption) hl0 hC hB hA) ?_
  have G2:=jn h1 (jn h1d (jn @hblz (jn @d5 (jn @ee (jn @ez (jn @d9 (jn @eW (jn @ft (jn @eX (jn @fu (jn @List.length_set.{0} (jn @List.set_set.{0} G1))))))))))))
  refine aa G2 ?_
  refine hQ _ _ (fz (b1:=.cells true 0 [iV W,iV Hh,.sl (some (bpp,0)) xs.length cpp,.sl (some (H.length+1,0)) ((imS l t (stF still g) tu le sl l.length).length) none,iV tu,iV le,iV sl,iV ra,.bool false]) (.cells true 0 [iV W,iV Hh,.sl (some (bpp,0)) xs.length cpp,.sl (some (H.length,0)) ((imS l t (stF still g) tu le sl l.length).length) none,iV tu,iV le,iV sl,iV ra,.bool false]) (l1:=[.cells true 0 [iV t,iV g],.cells true 6 (r6 (imS l t (stF still g) tu le sl l.length))]) (l2:=[.cells true 6 (r6 (imS l t (stF still g) tu le sl l.length))]) (.inl rfl) hbel hblz (by rfl) (x1:=iV 0) (iV 0) (aU results19) [] rfl [1] (by decide) ⟨rfl,rfl⟩ ?_)
  exact aF (jn @ax (jn @hblpp (jn @hbls @hblz)))
 have h1d:=h1
 exact absurd (hA.symm.trans h1d) (by decide)
theorem lmv_n (H:ac)(W Hh:Int)(pp:AV)(xs:List Int)(s:AV)(l:List T6)(tu le sl ra:Int)(bz:Nat)(t g:Int)(still:Bool)(hpp:zI H pp xs)(hs:Sl H 6 s l.length (r6 l))(hz:∃o,H[bz]? = some (.cells o 0 [iV W,iV Hh,pp,s,iV tu,iV le,iV sl,iV ra,.bool false]))(hS:bk l=true)(hl0:0<l.length)(hC:bL t g=true)(hB:bO tu le sl ra=true)(hA:imA l t (stF still g) tu le sl=false):zC 19 [.ptr (some (bz,0)),.agg [iV t,iV g],.bool still] H (iV 2) H:=by
 obtain⟨bpp,opp,cpp,rfl,hbpp,hblpp,hb0pp⟩:=zA1 hpp
 obtain⟨bs,os,cs,rfl,hbs,hbls,hb0s⟩:=zA1 hs
 obtain⟨oz,hbz⟩:=hz
 have hblz:=getElem?_lt hbz
 have hb0z:=fun l=>ae (l:=l) hbz
 refine AcT true func19 ?_;intro hbel Q hQ
 have G3:=jn @hbpp (jn @hb0pp (jn @hbs (jn @hb0s (jn @hbz (jn @hb0z (jn @hC (jn @hB (jn @hA @Option.isNone_some.{0}))))))))
 refine aa G3 ?_
 refine cvr G3 (g7 _ t g) ?_
 rcases Bool.eq_false_or_eq_true (imA l t (stF still g) tu le sl) with h1|h1
 ·have h1d:=h1
  exact absurd (hA.symm.trans h1d) (by decide)
 have h1d:=h1
 refine cd (boxes_n _ _ l t g _ _ _ _ _ (zA2 hb0s hbs) (by assumption) hC hB hA) ?_
 have G4:=j2 h1 h1d G3
 exact eR G4 hQ hbel (iV 2) results19 ⟨rfl,rfl⟩
theorem lmv_a (H:ac)(W Hh:Int)(pp:AV)(xs:List Int)(s:AV)(l:List T6)(tu le sl ra:Int)(lost:Bool)(bz:Nat)(t g:Int)(still:Bool)(hpp:zI H pp xs)(hs:Sl H 6 s l.length (r6 l))(hz:∃o,H[bz]? = some (.cells o 0 [iV W,iV Hh,pp,s,iV tu,iV le,iV sl,iV ra,.bool lost]))(hC:bL t g=false):zC 19 [.ptr (some (bz,0)),.agg [iV t,iV g],.bool still] H (iV 1) H:=by
 obtain⟨bpp,opp,cpp,rfl,hbpp,hblpp,hb0pp⟩:=zA1 hpp
 obtain⟨bs,os,cs,rfl,hbs,hbls,hb0s⟩:=zA1 hs
 obtain⟨oz,hbz⟩:=hz
 have hblz:=getElem?_lt hbz
 have hb0z:=fun l=>ae (l:=l) hbz
 refine AcT true func19 ?_;intro hbel Q hQ
 have G5:=jn @hbpp (jn @hb0pp (jn @hbs (jn @hb0s (jn @hbz (jn @hb0z (jn @hC @Option.isNone_some.{0}))))))
 refine aa G5 ?_
 refine cvr G5 (g7 _ t g) ?_
 exact eP hQ hbel (iV 1) results19 ⟨rfl,rfl⟩
theorem lmv_s (H:ac)(W Hh:Int)(pp:AV)(xs:List Int)(s:AV)(l:List T6)(tu le sl ra:Int)(bz:Nat)(t g:Int)(still:Bool)(hpp:zI H pp xs)(hs:Sl H 6 s l.length (r6 l))(hz:∃o,H[bz]? = some (.cells o 0 [iV W,iV Hh,pp,s,iV tu,iV le,iV sl,iV ra,.bool true]))(hC:bL t g=true):zC 19 [.ptr (some (bz,0)),.agg [iV t,iV g],.bool still] H (iV 9) H:=by
 obtain⟨bpp,opp,cpp,rfl,hbpp,hblpp,hb0pp⟩:=zA1 hpp
 obtain⟨bs,os,cs,rfl,hbs,hbls,hb0s⟩:=zA1 hs
 obtain⟨oz,hbz⟩:=hz
 have hblz:=getElem?_lt hbz
 have hb0z:=fun l=>ae (l:=l) hbz
 refine AcT true func19 ?_;intro hbel Q hQ
 have G6:=jn @hbpp (jn @hb0pp (jn @hbs (jn @hb0s (jn @hbz (jn @hb0z (jn @hC @Option.isNone_some.{0}))))))
 refine aa G6 ?_
 refine cvr G6 (g7 _ t g) ?_
 exact eP hQ hbel (iV 9) results19 ⟨rfl,rfl⟩
theorem lrs_y (H:ac)(W Hh:Int)(pp:AV)(xs:List Int)(s:AV)(l:List T6)(tu le sl ra:Int)(lost:Bool)(bz:Nat)(q:AV)(m:List T6)(hpp:zI H pp xs)(hs:Sl H 6 s l.length (r6 l))(hz:H[bz]? = some (.cells true 0 [iV W,iV Hh,pp,s,iV tu,iV le,iV sl,iV ra,.bool lost]))(hq:Sl H 6 q m.length (r6 m))(hm:lsB m=true):zC 16 [.ptr (some (bz,0)),q] H (iV 0) (H.set bz (.cells true 0 [iV W,iV Hh,pp,.sl (some (H.length,0)) m.length none,iV tu,iV le,iV sl,iV ra,.bool false])++[.cells true 6 (r6 m)]):=by
 obtain⟨bpp,opp,cpp,rfl,hbpp,hblpp,hb0pp⟩:=zA1 hpp
 obtain⟨bs,os,cs,rfl,hbs,hbls,hb0s⟩:=zA1 hs
 obtain⟨bq,oq,cq,rfl,hbq,hblq,hb0q⟩:=zA1 hq
 have hbz:=hz
 have hblz:=getElem?_lt hbz
 have hb0z:=fun l=>ae (l:=l) hbz
 have hmm:=gc.1 hm
 have hm16:=(bi.1 hmm.2).1
 have hm0:=hmm.1
 refine AcT false func16 ?_;intro hbel Q hQ
 have G8:=jn @hbpp (jn @hb0pp (jn @hbs (jn @hb0s (jn @hbq (jn @hb0q (jn @hbz (jn @hb0z (jn @hm @Option.isNone_some.{0}))))))))
 refine aa G8 ?_
 refine cvr G8 (oE _ _ m (zA2 hb0q hbq) (by omega)) ?_
 refine cv (je _ _ m (zA2 hb0q hbq) (by omega) (by omega)) ?_
 have G9:=jn @hblz (jn @d5 (jn @ee (jn @ez (jn @d9 (jn @eW (jn @ft (jn @eX (jn @fu (jn @List.length_set.{0} (jn @List.set_set.{0} G8))))))))))
 refine aa G9 ?_
 refine hQ _ _ (fz (b1:=.cells true 0 [iV W,iV Hh,.sl (some (bpp,0)) xs.length cpp,.sl (some (H.length,0)) m.length none,iV tu,iV le,iV sl,iV ra,.bool false]) (.cells true 0 [iV W,iV Hh,.sl (some (bpp,0)) xs.length cpp,.sl (some (H.length,0)) m.length none,iV tu,iV le,iV sl,iV ra,.bool false]) (l1:=[.cells true 6 (r6 m)]) (l2:=[.cells true 6 (r6 m)]) (.inl rfl) hbel hblz (by rfl) (x1:=iV 0) (iV 0) (aU results16) [] rfl [0] (by decide) ⟨rfl,rfl⟩ ?_)
 exact aF (jn @ax (jn @hblpp (jn @hbls (jn @hblz @hblq))))

theorem Ints.drew {w:World}{k:IntKind}{A:Option Addr}{xs:List Int}(h:Ints w k A xs):Ints w.drew k A xs:=h

theorem bxInfo:(Tryz.prog.info? 56).map (fun i=>(i.zero,i.size,i.bytes))=some (some (.agg #[.int .i64 0,.int .i64 0,.int .i64 0,.int .i64 0,.int .i64 0,.int .i64 0]),6,48):=by kernel_rfl
theorem pR (z:Array Value):(Builtin.zeroCells z 1).toList=z.toList:=by
 simp only[Builtin.zeroCells,Nat.one_mul]
 apply List.ext_getElem
 ·simp
 intro i h1 h2
 simp only[Array.toList_map,Array.toList_range,List.getElem_map,List.getElem_range,Array.getElem_toList]
 have h3:i<z.size:=by simpa using h2
 rw[Nat.mod_eq_of_lt h3,getElem!_pos z i h3]
theorem run_clear1 {P:Program}(w:World) (t e ty:TypeId) (z:Value) (ht:P.underlying t=some (.slice e)) (hv:(zeroValue e).run P w=.ok z w) (h1:∀v∈z.cells.toList,v.oneCell'=true) (b o c:Nat)
  (hc:∀j,j<z.cells.toList.length->(w.cell? ⟨b,o+j,none⟩).isSome=true) (hf:∀j,j<z.cells.toList.length->w.frozen? ⟨b,o+j,none⟩=false) :
  (Builtin.clear_ #[t] ty #[.slice (some ⟨b,o,none⟩) 1 c]).run P w=.ok (.tuple #[]) (w.setCells b o z.cells.toList):=by
 have hst:=run_storeCells_cells (P:=P) b o z.cells.toList 0 w hc hf h1
 simp only[Nat.add_zero] at hst
 simp[Builtin.clear_,run_underlying ht,hv,pR,hst]
set_option maxHeartbeats 4000000 in
set_option maxRecDepth 1000000 in
theorem del_w (g off cap n i j:Nat) (w:World) (news:List Value) (hl:news.length=(n-j)*6) (hnews:∀t u,news[t]? = some u->w.cell? ⟨g,off+j*6+t,none⟩=some u) (h1:∀u∈news,u.oneCell'=true) (hc:∀t,t<n*6->(w.cell? ⟨g,off+t,none⟩).isSome=true/\w.frozen? ⟨g,off+t,none⟩=false) (hi:i<n) (hj1:j=i+1) (hn:n<=cap) (hm:cap<=9223372036854775807)
  (W1:World) (hW1:W1=w.drew.setCells g (off+i*6) news) (hc1:∀t,t<n*6->(W1.cell? ⟨g,off+t,none⟩).isSome=true/\W1.frozen? ⟨g,off+t,none⟩=false) :
  Calls Tryz.prog 79 #[.slice (some ⟨g,off,none⟩) n cap,.int .i64 (i:Int),.int .i64 (j:Int)] w fun e w'=>e=.returned (.slice (some ⟨g,off,none⟩) (i+(n-j)) cap)/\w'=W1.setCells g (off+(i+(n-j))*6) (List.replicate 6 (.int .i64 0)):=by
 obtain⟨i0,hi0,hz0,hz1,hz2⟩:=info_parts bxInfo
 obtain ⟨A,hA,hsrc⟩:∃A:Addr,(if cap=j then (some (⟨g,off,none⟩:Addr)) else some ⟨g,off+j*6,none⟩)=some A/\Hid (∀t u,news[t]? = some u->w.drew.cell? (A.add t)=some u):=by
  by_cases h:cap=j
  ·refine⟨⟨g,off,none⟩,by simp[h],fun t u hu=>?_⟩
   have h0:news.length=0:=by rw[hl];omega
   rw[List.length_eq_zero_iff.1 h0] at hu
   simp at hu
  refine⟨⟨g,off+j*6,none⟩,by simp[h],fun t u hu=>?_⟩
  rw[Addr.add_lit]
  exact hnews t u hu
 have s1:Hid (news.length=(n-j)*6):=hl
 have s2:Hid (∀u∈news,u.oneCell'=true):=h1
 have s3:Hid (∀t,t<news.length->(w.drew.cell? ⟨g,off+i*6+t,none⟩).isSome=true/\w.drew.frozen? ⟨g,off+i*6+t,none⟩=false):=by
  intro t ht
  rw[hl] at ht
  have:=hc (i*6+t) (by omega)
  rw[<-Nat.add_assoc] at this
  exact this
 have hcl:∀ty,(Builtin.clear_ #[25] ty #[.slice (some ⟨g,off+(i+(n-j))*6,none⟩) (n-(i+(n-j))) (cap-(i+(n-j)))]).run Tryz.prog W1=.ok (.tuple #[]) (W1.setCells g (off+(i+(n-j))*6) (List.replicate 6 (.int .i64 0))):=fun ty=>by
  have hzv:(zeroValue 56).run Tryz.prog W1=.ok (.agg #[.int .i64 0,.int .i64 0,.int .i64 0,.int .i64 0,.int .i64 0,.int .i64 0]) W1:=by simp[zeroValue,typeInfo,hi0,hz0]
  have hzl:(Value.agg #[.int .i64 0,.int .i64 0,.int .i64 0,.int .i64 0,.int .i64 0,.int .i64 0]).cells.toList=List.replicate 6 (.int .i64 0):=rfl
  have k:=run_clear1 (P:=Tryz.prog) W1 25 56 ty (.agg #[.int .i64 0,.int .i64 0,.int .i64 0,.int .i64 0,.int .i64 0,.int .i64 0]) Tryz.underlying25 hzv (by rw[hzl];intro v hv;rw[List.eq_of_mem_replicate hv];rfl) g (off+(i+(n-j))*6) (cap-(i+(n-j))) (fun t ht=>by rw[hzl,List.length_replicate] at ht;rw[Nat.add_assoc];exact(hc1 _ (by omega)).1) (fun t ht=>by rw[hzl,List.length_replicate] at ht;rw[Nat.add_assoc];exact(hc1 _ (by omega)).2)
  rw[hzl] at k
  rw[show n-(i+(n-j))=1 by omega]
  exact k
 have hW:Hid (W1=w.drew.setCells g (off+i*6) news):=hW1
 have hHi:=hid hi0
 have hHz:=hid hz1
 have hij:i<=j:=by omega
 have hne:¬(i=j):=by omega
 have hj:j<=n:=by omega
 have hic:i<=cap:=by omega
 have hjc:j<=cap:=by omega
 have hlt:i<j:=by omega
 have hr:=hid hj1
 clear hW1 hnews hl hc hc1 hi0 hz0 hz1 hz2 hj1
 go_enter Tryz.func79,Tryz.ntmps79
 go_wp2_with fail
 go_region_law (refine step_append_room rfl (.tmp 22) (.tmp 25) 25 rfl 56 i0 6 Tryz.underlying25 hHi.out hHz.out g off i cap (by simp[Act.eval,Act.put]) A (n-j) (cap-j) news (by simp[Act.eval,Act.put]) s1.out hsrc.out s2.out (by omega) s3.out ?_;rw[<-hW.out])
 go_wp2
 go_ret
 exact⟨rfl,rfl⟩
theorem rR {E:Env}{b o n:Nat}{cap:Option Nat}{v:Value}(h:Rel E (.sl (some (b,o)) n cap) v)(hn:0<n):∃c,v=.slice (some ⟨(E.loc b).blk,(E.loc b).off+o,none⟩) n c/\b<E.n/\n<=c/\c<=maxLen/\o+c*(E.loc b).es<=(E.loc b).sz:=by
 generalize hx:AV.sl (some (b,o)) n cap=x at h
 cases h with
 |nils b' cap' hb hc=>cases hx;omega
 | sl b' o' len cap' c a h0 h1 h2 h3 h4 h5 =>
  cases hx
  rcases h4 with h4|h4
  ·omega
  subst h4;exact⟨c,rfl,h0,h1,h2,h5⟩
 |_=>cases hx
theorem pK:∀(ys xs:List AV) (o:Nat),o+ys.length<=xs.length->splice xs o ys=xs.take o++ys++xs.drop (o+ys.length)
 | [],xs,o,h=>by
  rw[splice,List.append_nil,List.length_nil,Nat.add_zero,List.take_append_drop]
 | y::ys,xs,o,h=>by
  simp only[List.length_cons] at h
  rw[splice,pK ys _ _ (by rw[List.length_set];omega)]
  have ho:o<xs.length:=by omega
  rw[List.take_succ_eq_append_getElem (by simpa using ho),List.getElem_set_self,List.take_set_of_le (Nat.le_refl _),List.drop_set_of_lt (by omega),List.length_cons,show o+1+ys.length=o+(ys.length+1) by omega]
  simp
theorem r6_takeB {l:List T6}{j:Nat}:(r6 l).take (j*6)=r6 (l.take j):=by
 induction l generalizing j with
 |nil=>simp[aA]
 | cons p l ih =>
  cases j with
  |zero=>simp[aA]
  |succ j=>rw[au,show (j+1)*6=j*6+1+1+1+1+1+1 by omega,List.take_succ_cons,List.take_succ_cons,List.take_succ_cons,List.take_succ_cons,List.take_succ_cons,List.take_succ_cons,ih];rfl
theorem r6_dropB {l:List T6}{j:Nat}:(r6 l).drop (j*6)=r6 (l.drop j):=by
 induction l generalizing j with
 |nil=>simp[aA]
 | cons p l ih =>
  cases j with
  |zero=>simp
  |succ j=>rw[au,show (j+1)*6=j*6+1+1+1+1+1+1 by omega,List.drop_succ_cons,List.drop_succ_cons,List.drop_succ_cons,List.drop_succ_cons,List.drop_succ_cons,List.drop_succ_cons,ih];rfl
def r6z:List AV:=[.int .i64 0,.int .i64 0,.int .i64 0,.int .i64 0,.int .i64 0,.int .i64 0]
theorem r6_oneB:∀{l:List T6},(r6 l).all AV.one=true
 |[]=>rfl
 |p::l=>by rw[au];simp only[List.all_cons,AV.one,Bool.true_and];exact r6_oneB
theorem del_b (H:ac)(b:Nat)(cap:Option Nat)(l:List T6)(z:Int)(hb:H[b]? = some (.cells true 6 (r6 l)))(h0:0<=z)(hz:z<(l.length:Int)):ACalls Tryz.prog 79 [.sl (some (b,0)) l.length cap,.int .i64 z,.int .i64 (z+1)] H (fun v H'=>v=.sl (some (b,0)) (l.take z.toNat++l.drop (z.toNat+1)).length none/\H'=H.set b (.cells true 6 (r6 (l.take z.toNat++l.drop (z.toNat+1))++r6z))):=by
 obtain⟨i,rfl⟩:∃i:Nat,z=(i:Int):=⟨z.toNat,by omega⟩
 rw[Int.toNat_natCast]
 have hi:i<l.length:=by omega
 intro E w vs hE hv
 match vs,hv with
 |[],hv=>exact absurd hv.1 (by simp)
 |[_],hv=>exact absurd hv.1 (by simp)
 |[_,_],hv=>exact absurd hv.1 (by simp)
 |_::_::_::_::_,hv=>exact absurd hv.1 (by simp)
 |[v0,v1,v2],hv =>
 obtain⟨r0,hv⟩:=hv.uncons
 obtain⟨r1,hv⟩:=hv.uncons
 obtain⟨r2,-⟩:=hv.uncons
 have e1:v1=.int .i64 (i:Int):=by cases r1;rfl
 have e2:v2=.int .i64 ((i+1:Nat):Int):=by cases r2;rfl
 subst e1 e2
 obtain⟨c,rfl,hbn,hnc,hcm,hsz⟩:=rR r0 (by omega)
 rw[Nat.add_zero]
 rw[Nat.zero_add] at hsz
 have hcells:∀{H':ac} {w':World} {ys:List AV},Emb E H' w'->H'[b]? = some (.cells true 6 ys)->∀t,t<l.length*6->ys.length=l.length*6->(w'.cell? ⟨(E.loc b).blk,(E.loc b).off+t,none⟩).isSome=true/\w'.frozen? ⟨(E.loc b).blk,(E.loc b).off+t,none⟩=false:=fun hE' hb' t ht hy=>by
  have k:=(hE'.blk b _ hb').2.1 rfl
  exact k.2.2.2.2 t (by omega)
 have hlen:(r6 (l.drop (i+1))).length=(l.length-(i+1))*6:=by rw[bo,List.length_drop]
 have hr:ards H b ((i+1)*6) ((l.length-(i+1))*6)=some (r6 (l.drop (i+1))):=by
  unfold ards;rw[hb]
  simp only
  rw[if_pos (.inl (by rw[bo];omega)),r6_dropB,List.take_of_length_le (by rw[hlen];omega)]
 obtain⟨o1,o2,ovs,o3,o4⟩:=fe hE hr
 have hol:ovs.length=(l.length-(i+1))*6:=by rw[<-o3.1,hlen]
 have hw1:awrite H b (i*6) (r6 (l.drop (i+1)))=some (H.set b (.cells true 6 (splice (r6 l) (i*6) (r6 (l.drop (i+1)))))):=by
  unfold awrite;rw[hb]
  simp only
  rw[if_pos ⟨by rw[hlen,bo];omega,r6_oneB⟩]
 obtain⟨x1,-,-,hE1⟩:=hE.drew.write o3 hw1
 have hblt:b<H.length:=getElem?_lt hb
 have hs1:splice (r6 l) (i*6) (r6 (l.drop (i+1)))=r6 (l.take i++l.drop (i+1))++(r6 l).drop ((l.length-1)*6):=by
  rw[pK _ _ _ (by rw[hlen,bo];omega),r6_takeB,ap,hlen,show i*6+(l.length-(i+1))*6=(l.length-1)*6 by omega]
 have hlA:(r6 (l.take i++l.drop (i+1))).length=(l.length-1)*6:=by rw[bo,List.length_append,List.length_take,List.length_drop];omega
 have hlB:((r6 l).drop ((l.length-1)*6)).length=6:=by rw[List.length_drop,bo];omega
 rw[hs1] at hE1
 have hb1:(H.set b (.cells true 6 (r6 (l.take i++l.drop (i+1))++(r6 l).drop ((l.length-1)*6))))[b]? = some (.cells true 6 (r6 (l.take i++l.drop (i+1))++(r6 l).drop ((l.length-1)*6))):=List.getElem?_set_self hblt
 have hw2:awrite (H.set b (.cells true 6 (r6 (l.take i++l.drop (i+1))++(r6 l).drop ((l.length-1)*6)))) b ((l.length-1)*6) r6z=some (H.set b (.cells true 6 (r6 (l.take i++l.drop (i+1))++r6z))):=by
  unfold awrite;rw[hb1]
  simp only
  rw[if_pos ⟨by rw[List.length_append,hlA,hlB];exact Nat.le_refl _,rfl⟩,List.set_set,jC _ _ _ (by rw[List.length_append,hlA,hlB];rfl),List.take_append_of_le_length (by rw[hlA];exact Nat.le_refl _),List.take_of_length_le (by rw[hlA];exact Nat.le_refl _)]
 have hz6:RelL E r6z (List.replicate 6 (.int .i64 0)):=.cons (.int _ _) (.cons (.int _ _) (.cons (.int _ _) (.cons (.int _ _) (.cons (.int _ _) (.cons (.int _ _) (.nil E))))))
 obtain⟨-,-,-,hE2⟩:=hE1.write hz6 hw2
 refine (del_w (E.loc b).blk (E.loc b).off c l.length i (i+1) w ovs hol (fun t u hu=>by
   exact o4 t u hu) x1 (fun t ht=>hcells hE hb t ht bo) hi rfl hnc hcm _ rfl (fun t ht=>hcells hE1 hb1 t ht (by rw[List.length_append,hlA,hlB];omega))).mono ?_
 rintro e w' ⟨rfl,rfl⟩
 refine⟨E,_,_,_,rfl,⟨rfl,rfl⟩,.refl E,?_,?_⟩
 ·have e3:(l.take i++l.drop (i+1)).length=i+(l.length-(i+1)):=by rw[List.length_append,List.length_take,List.length_drop];omega
  rw[e3]
  have k:=Rel.sl (E:=E) b 0 (i+(l.length-(i+1))) none c ⟨(E.loc b).blk,(E.loc b).off+0,none⟩ hbn (by omega) hcm (.inl rfl) (.inr rfl) (by rw[Nat.zero_add];exact hsz)
  rw[Nat.add_zero] at k
  exact k
 rw[show i+(l.length-(i+1))=l.length-1 by omega]
 exact hE2
theorem r6_set:∀{l:List T6}{j:Nat}{a b c d e f:Int},j<l.length->((((((r6 l).set (j*6) (iV a)).set (j*6+1) (iV b)).set (j*6+2) (iV c)).set (j*6+3) (iV d)).set (j*6+4) (iV e)).set (j*6+5) (iV f)=r6 (l.set j (a,b,c,d,e,f))
 |[],j,_,_,_,_,_,_,h=>by simp at h
 |p::l,0,_,_,_,_,_,_,_=>by simp[au]
 | p::l,j+1,a,b,c,d,e,f,h=>by
  have ih:=r6_set (l:=l) (j:=j) (a:=a) (b:=b) (c:=c) (d:=d) (e:=e) (f:=f) (by simpa using h)
  have k:(j+1)*6=j*6+1+1+1+1+1+1:=by omega
  rw[au,k]
  simp only[List.set_cons_succ]
  rw[au,<-ih]
theorem BW_pre' {m e:Nat}{o:Bool}{ys zs:List AV}:BW m (some (.cells o e (ys++zs))) (.cells o e ys)=True:=eq_true BW.pre
theorem chp_c (H:ac)(s:AV)(l:List T6)(hs:Sl H 6 s l.length (r6 l))(hv:∀b∈l,bl b=true)(hl2:l.length<=256)(hl0:0<l.length):zC 78 [s] H (.tup [iV ((chO l l.length).1),iV ((chO l l.length).2.1),.agg [iV ((chO l l.length).2.2.2.1),iV ((chO l l.length).2.2.2.2.1),iV ((chO l l.length).2.2.2.2.2.1),iV ((chO l l.length).2.2.2.2.2.2.1),iV ((chO l l.length).2.2.2.2.2.2.2.1),iV ((chO l l.length).2.2.2.2.2.2.2.2)]]) H:=by
 obtain⟨bs,os,cs,rfl,hbs,hbls,hb0s⟩:=zA1 hs
 refine AcT true func78 ?_;intro hbel Q hQ
 have G1:=jn @hbs @hb0s
 refine aa G1 ?_
 refine glp (fun k F Hx=>∃i:Nat,i+k=l.length/\F=[(0,.sl (some (bs,0)) l.length cs),(4,.ptr (some (H.length,0))),(5,iV ((chO l i).1)),(6,iV ((chO l i).2.1)),(7,iV ((chO l i).2.2.1)),(8,.ptr (some (H.length+1,0))),(16,.sl (some (bs,0)) l.length cs),(17,iV (l.length:Int)),(18,iV (i:Int))]/\Hx=H++[.cells true 0 [iV 0,iV 0,iV 0,iV 0,iV 0,iV 0],.cells true 0 [iV ((chO l i).2.2.2.1),iV ((chO l i).2.2.2.2.1),iV ((chO l i).2.2.2.2.2.1),iV ((chO l i).2.2.2.2.2.2.1),iV ((chO l i).2.2.2.2.2.2.2.1),iV ((chO l i).2.2.2.2.2.2.2.2)]]) (l.length) ?_ ?_
 ·refine⟨_,_,_,⟨0,by omega,rfl,rfl⟩,bS hbel [0,1] (aF @chO.eq_1)⟩
 rintro k0 F Hx ⟨i,hm0,rfl,rfl⟩ J0 hJ0
 refine rcs G1 (fun h1 h1d _=>?_) (fun h1 h1d G9=>?_)
 ·have hlt:i<l.length:=by omega
  have hva:bxB (g61 l i) (g62 l i) (g63 l i) (g64 l i) (g65 l i) (g66 l i)=true:=hv _ (bY hlt)
  have hcb:=chO_bd (l:=l) (n:=i) (by omega)
  have q2:=bD (l:=l) (j:=i) (by omega)
  have G2:=jn h1 (jn h1d (jn @bo (jn q2 G1)))
  refine aa G2 ?_
  refine glp (fun k F Hx=>∃j:Nat,j+k=l.length-(i+1)/\F=[(0,.sl (some (bs,0)) l.length cs),(4,.ptr (some (H.length,0))),(5,iV ((chR l i (chO l i) j).1)),(6,iV ((chR l i (chO l i) j).2.1)),(7,iV ((chR l i (chO l i) j).2.2.1)),(8,.ptr (some (H.length+1,0))),(9,iV (i:Int)),(10,.ptr (some (H.length+2,0))),(16,.sl (some (bs,0)) l.length cs),(17,iV (l.length:Int)),(18,iV (i:Int)),(26,.sl (some (bs,(i+1)*6)) (l.length-(i+1)) none),(27,iV ((l.length-(i+1):Nat):Int)),(28,iV (j:Int))]/\Hx=H++[.cells true 0 [iV 0,iV 0,iV 0,iV 0,iV 0,iV 0],.cells true 0 [iV ((chR l i (chO l i) j).2.2.2.1),iV ((chR l i (chO l i) j).2.2.2.2.1),iV ((chR l i (chO l i) j).2.2.2.2.2.1),iV ((chR l i (chO l i) j).2.2.2.2.2.2.1),iV ((chR l i (chO l i) j).2.2.2.2.2.2.2.1),iV ((chR l i (chO l i) j).2.2.2.2.2.2.2.2)],.cells true 0 [iV (g61 l i),iV (g62 l i),iV (g63 l i),iV (g64 l i),iV (g65 l i),iV (g66 l i)]]) (l.length-(i+1)) ?_ ?_
  ·refine⟨_,_,_,⟨0,by omega,rfl,rfl⟩,bS hbel [0,1,2] (aF @chR.eq_1)⟩
  rintro k1 F Hx ⟨j,hm1,rfl,rfl⟩ J1 hJ1
  refine rcs G2 (fun h3 h3d _=>?_) (fun h3 h3d G8=>?_)
  ·have hkt:j<l.length-(i+1):=by omega
   have hvb:bxB (g61 l (i+1+j)) (g62 l (i+1+j)) (g63 l (i+1+j)) (g64 l (i+1+j)) (g65 l (i+1+j)) (g66 l (i+1+j))=true:=hv _ (bY (by omega))
   have hsfo:(i+1)*6+j*6=(i+1+j)*6:=by omega
   have hrb:=chR_bd (l:=l) (n:=i) (k:=j) (by omega) (by omega)
   have hv1:=gx (mnI (g61 l i) (g61 l (i+1+j)),mnI (g62 l i) (g62 l (i+1+j)),mxI (g63 l i) (g63 l (i+1+j)),mxI (g64 l i) (g64 l (i+1+j)),(bM (g65 l i) (g66 l i) (g65 l (i+1+j)) (g66 l (i+1+j))).1,(bM (g65 l i) (g66 l i) (g65 l (i+1+j)) (g66 l (i+1+j))).2)
   have hv2:=gx ((g61 l i),(g62 l i),(g63 l i),(g64 l i),(g65 l i),(g66 l i))
   have hv3:=gx ((g61 l (i+1+j)),(g62 l (i+1+j)),(g63 l (i+1+j)),(g64 l (i+1+j)),(g65 l (i+1+j)),(g66 l (i+1+j)))
   have q4:=bD (l:=l) (j:=i+1+j) (by omega)
   have G3:=jn h3 (jn h3d (jn @hsfo (jn q4 G2)))
   refine aa G3 ?_
   refine cvr G3 (bhull_c _ _ _ _ _ _ _ _ _ _ _ _ _ (by assumption) (by assumption)) ?_
   refine cdr G3 (vol_c _ _ _ _ _ _ _) ?_
   refine cdr G3 (vol_c _ _ _ _ _ _ _) ?_
   refine cd (vol_c _ _ _ _ _ _ _) ?_
   refine rgs G3 (fun h5 h5d G4=>?_) (fun h5 h5d G7=>?_)
   ·have hk5:=h5d
    refine rcs G4 (fun h6 h6d G5=>?_) (fun h6 h6d G6=>?_)
    ·have hU:chU l i j (chR l i (chO l i) j)=((i:Int),(i:Int)+1+(j:Int),chN l i (i+1+j),ew (g6 l i) (g6 l (i+1+j))):=if_pos (.inr h6d)
     have hc1:(chU l i j (chR l i (chO l i) j)).1=(i:Int):=by rw[hU]
     have hc2:(chU l i j (chR l i (chO l i) j)).2.1=(i:Int)+1+(j:Int):=by rw[hU]
     have hc3:(chU l i j (chR l i (chO l i) j)).2.2.1=(((cY ((mnI (g61 l i) (g61 l (i+1+j))),(mnI (g62 l i) (g62 l (i+1+j))),(mxI (g63 l i) (g63 l (i+1+j))),(mxI (g64 l i) (g64 l (i+1+j))),((bM (g65 l i) (g66 l i) (g65 l (i+1+j)) (g66 l (i+1+j))).1),((bM (g65 l i) (g66 l i) (g65 l (i+1+j)) (g66 l (i+1+j))).2)))-(cY (g6 l i)))-(cY (g6 l (i+1+j)))):=by rw[hU];rfl
     have hd0:(chU l i j (chR l i (chO l i) j)).2.2.2.1=mnI (g61 l i) (g61 l (i+1+j)):=by rw[hU];rfl
     have hd1:(chU l i j (chR l i (chO l i) j)).2.2.2.2.1=mnI (g62 l i) (g62 l (i+1+j)):=by rw[hU];rfl
     have hd2:(chU l i j (chR l i (chO l i) j)).2.2.2.2.2.1=mxI (g63 l i) (g63 l (i+1+j)):=by rw[hU];rfl
     have hd3:(chU l i j (chR l i (chO l i) j)).2.2.2.2.2.2.1=mxI (g64 l i) (g64 l (i+1+j)):=by rw[hU];rfl
     have hd4:(chU l i j (chR l i (chO l i) j)).2.2.2.2.2.2.2.1=(bM (g65 l i) (g66 l i) (g65 l (i+1+j)) (g66 l (i+1+j))).1:=by rw[hU];rfl
     have hd5:(chU l i j (chR l i (chO l i) j)).2.2.2.2.2.2.2.2=(bM (g65 l i) (g66 l i) (g65 l (i+1+j)) (g66 l (i+1+j))).2:=by rw[hU];rfl
     refine aa G5 ?_
     refine hJ1 _ _ ⟨k1-1,by omega,_,_,_,⟨j+1,by omega,rfl,rfl⟩,bS hbel [0,1,2] (aF (jn @chR.eq_2 (jn @hc1 (jn @hc2 (jn @hc3 (jn @hd0 (jn @hd1 (jn @hd2 (jn @hd3 (jn @hd4 @hd5))))))))))⟩
    have hU:chU l i j (chR l i (chO l i) j)=(chR l i (chO l i) j):=if_neg (fun q=>q.elim (fun q=>hk5 q) (fun q=>absurd q h6d))
    refine aa G6 ?_
    refine hJ1 _ _ ⟨k1-1,by omega,_,_,_,⟨j+1,by omega,rfl,rfl⟩,bS hbel [0,1,2] (aF (jn @chR.eq_2 @hU))⟩
   have hU:chU l i j (chR l i (chO l i) j)=((i:Int),(i:Int)+1+(j:Int),chN l i (i+1+j),ew (g6 l i) (g6 l (i+1+j))):=if_pos (.inl h5d)
   have hc1:(chU l i j (chR l i (chO l i) j)).1=(i:Int):=by rw[hU]
   have hc2:(chU l i j (chR l i (chO l i) j)).2.1=(i:Int)+1+(j:Int):=by rw[hU]
   have hc3:(chU l i j (chR l i (chO l i) j)).2.2.1=(((cY ((mnI (g61 l i) (g61 l (i+1+j))),(mnI (g62 l i) (g62 l (i+1+j))),(mxI (g63 l i) (g63 l (i+1+j))),(mxI (g64 l i) (g64 l (i+1+j))),((bM (g65 l i) (g66 l i) (g65 l (i+1+j)) (g66 l (i+1+j))).1),((bM (g65 l i) (g66 l i) (g65 l (i+1+j)) (g66 l (i+1+j))).2)))-(cY (g6 l i)))-(cY (g6 l (i+1+j)))):=by rw[hU];rfl
   have hd0:(chU l i j (chR l i (chO l i) j)).2.2.2.1=mnI (g61 l i) (g61 l (i+1+j)):=by rw[hU];rfl
   have hd1:(chU l i j (chR l i (chO l i) j)).2.2.2.2.1=mnI (g62 l i) (g62 l (i+1+j)):=by rw[hU];rfl
   have hd2:(chU l i j (chR l i (chO l i) j)).2.2.2.2.2.1=mxI (g63 l i) (g63 l (i+1+j)):=by rw[hU];rfl
   have hd3:(chU l i j (chR l i (chO l i) j)).2.2.2.2.2.2.1=mxI (g64 l i) (g64 l (i+1+j)):=by rw[hU];rfl
   have hd4:(chU l i j (chR l i (chO l i) j)).2.2.2.2.2.2.2.1=(bM (g65 l i) (g66 l i) (g65 l (i+1+j)) (g66 l (i+1+j))).1:=by rw[hU];rfl
   have hd5:(chU l i j (chR l i (chO l i) j)).2.2.2.2.2.2.2.2=(bM (g65 l i) (g66 l i) (g65 l (i+1+j)) (g66 l (i+1+j))).2:=by rw[hU];rfl
   refine aa G7 ?_
   refine hJ1 _ _ ⟨k1-1,by omega,_,_,_,⟨j+1,by omega,rfl,rfl⟩,bS hbel [0,1,2] (aF (jn @chR.eq_2 (jn @hc1 (jn @hc2 (jn @hc3 (jn @hd0 (jn @hd1 (jn @hd2 (jn @hd3 (jn @hd4 @hd5))))))))))⟩
  obtain rfl:j=l.length-(i+1):=by omega
  refine aa G8 ?_
  refine hJ0 _ _ ⟨k0-1,by omega,_,_,_,⟨i+1,by omega,rfl,rfl⟩,bS hbel [0,1] (aF @chO.eq_2)⟩
 obtain rfl:i=l.length:=by omega
 exact eR G9 hQ hbel (.tup [iV ((chO l l.length).1),iV ((chO l l.length).2.1),.agg [iV ((chO l l.length).2.2.2.1),iV ((chO l l.length).2.2.2.2.1),iV ((chO l l.length).2.2.2.2.2.1),iV ((chO l l.length).2.2.2.2.2.2.1),iV ((chO l l.length).2.2.2.2.2.2.2.1),iV ((chO l l.length).2.2.2.2.2.2.2.2)]]) results78 ⟨rfl,rfl⟩
theorem del_n (H:ac)(b n:Nat)(cap:Option Nat)(l:List T6)(z:Int)(hn:n=l.length)(hb:H[b]? = some (.cells true 6 (r6 l)))(h0:0<=z)(hz:z<(l.length:Int)):zC 79 [.sl (some (b,0)) n cap,iV z,iV (z+1)] H (.sl (some (b,0)) (l.take z.toNat++l.drop (z.toNat+1)).length none) (H.set b (.cells true 6 (r6 (l.take z.toNat++l.drop (z.toNat+1))++r6z))):=by
 subst hn;exact del_b H b cap l z hb h0 hz
theorem comp_c (H:ac)(s:AV)(l:List T6)(hs:Sl H 6 s l.length (r6 l))(hl:l.length<=64)(hl0:0<l.length)(hv:∀b∈l,bl b=true):zC 49 [s,iV 16] H (.tup [.sl (some (H.length,0)) ((cpL l).length) none,iV 0]) (H++[.cells true 6 (r6 (cpL l))]):=by
 obtain⟨bs,os,cs,rfl,hbs,hbls,hb0s⟩:=zA1 hs
 have hny:l.any (fun b=>!bl b)=false:=List.any_eq_false.2 fun b hb=>by rw[hv b hb];decide
 refine AcT false func49 ?_;intro hbel Q hQ
 have G1:=jn @hbs (jn @hb0s @hny)
 refine rcs G1 (fun h1 h1d _=>?_) (fun h1 h1d G2=>?_)
 ·omega
 refine aa G2 ?_
 refine cvr G2 (lF _ _ l (zA2 hb0s hbs) (by omega) _ [] (by kernel_rfl) rfl (fun b=>!bl b) (fun j hj=>cmp1_c _ _ _ _ _ _ _)) ?_
 refine cvr G2 (je _ _ l (zA2 hb0s hbs) (by omega) (by omega)) ?_
 refine glp (fun k F Hx=>∃QQ:List T6,QQ.length=k/\(∀b∈QQ,bl b=true)/\0<QQ.length/\QQ.length<=64/\cpI (QQ.length-16) QQ=cpL l/\F=[(1,iV 16),(6,.sl (some (H.length,0)) QQ.length none)]/\Hx=H++[.cells true 6 (r6 QQ)]) (l.length) ?_ ?_
 ·refine⟨_,_,_,⟨l,by omega,hv,hl0,hl,rfl,rfl,rfl⟩,bS hbel [0] (al (jn @ap (jn @au (jn @aA @ax))))⟩
 rintro k0 F Hx ⟨QQ,hm0,hqv,hq0,hq6,hqc,rfl,rfl⟩ J0 hJ0
 have G3:=jn @bo (jn @cQ G2)
 refine rcs G3 (fun h2 h2d G4=>?_) (fun h2 h2d G6=>?_)
 ·have hgt:16<QQ.length:=by omega
  obtain⟨ci,cj,hci,hcj,hc1,hc2,hc3⟩:=chO_p (l:=QQ) (by omega)
  have hsn:=oK (l:=QQ) (by omega)
  have hcs:List.take (chO QQ QQ.length).2.1.toNat (List.set QQ (chO QQ QQ.length).1.toNat ((chO QQ QQ.length).2.2.2.1,(chO QQ QQ.length).2.2.2.2.1,(chO QQ QQ.length).2.2.2.2.2.1,(chO QQ QQ.length).2.2.2.2.2.2.1,(chO QQ QQ.length).2.2.2.2.2.2.2.1,(chO QQ QQ.length).2.2.2.2.2.2.2.2))++List.drop ((chO QQ QQ.length).2.1.toNat+1) (List.set QQ (chO QQ QQ.length).1.toNat ((chO QQ QQ.length).2.2.2.1,(chO QQ QQ.length).2.2.2.2.1,(chO QQ QQ.length).2.2.2.2.2.1,(chO QQ QQ.length).2.2.2.2.2.2.1,(chO QQ QQ.length).2.2.2.2.2.2.2.1,(chO QQ QQ.length).2.2.2.2.2.2.2.2))=cpS QQ:=rfl
  have hcl:(List.take (chO QQ QQ.length).2.1.toNat (List.set QQ (chO QQ QQ.length).1.toNat ((chO QQ QQ.length).2.2.2.1,(chO QQ QQ.length).2.2.2.2.1,(chO QQ QQ.length).2.2.2.2.2.1,(chO QQ QQ.length).2.2.2.2.2.2.1,(chO QQ QQ.length).2.2.2.2.2.2.2.1,(chO QQ QQ.length).2.2.2.2.2.2.2.2))).length+(List.drop ((chO QQ QQ.length).2.1.toNat+1) (List.set QQ (chO QQ QQ.length).1.toNat ((chO QQ QQ.length).2.2.2.1,(chO QQ QQ.length).2.2.2.2.1,(chO QQ QQ.length).2.2.2.2.2.1,(chO QQ QQ.length).2.2.2.2.2.2.1,(chO QQ QQ.length).2.2.2.2.2.2.2.1,(chO QQ QQ.length).2.2.2.2.2.2.2.2))).length=(cpS QQ).length:=by rw[<-List.length_append];rfl
  have hqn:cpI ((cpS QQ).length-16) (cpS QQ)=cpL l:=by rw[hsn,<-hqc,show QQ.length-16=(QQ.length-1-16)+1 by omega];rfl
  refine aa G4 ?_
  refine cv (chp_c _ _ QQ ⟨_,_,_,by rfl,by (rw[cN];rfl)⟩ (by assumption) (by omega) (by omega)) ?_
  have G5:=jn @r6_set (jn @List.length_set.{0} G4)
  refine aa G5 ?_
  refine cvr G5 (del_n _ _ _ _ (QQ.set (((chO QQ QQ.length).1).toNat) ((chO QQ QQ.length).2.2.2.1,(chO QQ QQ.length).2.2.2.2.1,(chO QQ QQ.length).2.2.2.2.2.1,(chO QQ QQ.length).2.2.2.2.2.2.1,(chO QQ QQ.length).2.2.2.2.2.2.2.1,(chO QQ QQ.length).2.2.2.2.2.2.2.2)) _ (by exact List.length_set.symm) (by (rw[cN];rfl)) (by omega) (by (rw[List.length_set];omega))) ?_
  refine hJ0 _ _ ⟨k0-1,by omega,_,_,_,⟨cpS QQ,by omega,cpS_ok (by omega) hqv,by omega,by omega,hqn,rfl,rfl⟩,bS hbel [0] (al (jn @hcs (jn @hcl (jn @BW_pre' (jn @ax (jn @or_true (jn @true_or (jn @ap (jn @au @aA)))))))))⟩
 obtain rfl:QQ=cpL l:=by rw[<-hqc,show QQ.length-16=0 by omega];rfl
 refine aa G6 ?_
 refine hQ _ _ (aM (.inl rfl) hbel (x1:=.tup [.sl (some (H.length,0)) ((cpL l).length) none,iV 0]) (l2:=[.cells true 6 (r6 (cpL l))]) (.tup [.sl (some (H.length,0)) ((cpL l).length) none,iV 0]) (aU results49) [] rfl [0] (by decide) ⟨rfl,rfl⟩ ?_)
 exact aF @ax
theorem bbeam_c (H:ac)(m r:Int):zC 88 [.agg [iV m,iV r]] H (.bool (dy m r)) H:=by
 refine AcT true func88 ?_;intro hbel Q hQ
 refine aC ?_
 refine bg (fun h1=>?_) (fun h1=>?_)
 ·have h1d:=bsT h1
  have G1:=jn h1 @h1d
  refine rgs G1 (fun h2 h2d G2=>?_) (fun h2 h2d G5=>?_)
  ·refine rgs G2 (fun h3 h3d G3=>?_) (fun h3 h3d G4=>?_)
   ·exact eR G3 hQ hbel (.bool (decide (r<=1024))) results88 ⟨by (simp[dy,btw,h1d,h2d,h3d];omega),rfl⟩
   exact eR G4 hQ hbel (.bool false) results88 ⟨by simp[dy,btw,h1d,h2d,h3d],rfl⟩
  exact eR G5 hQ hbel (.bool false) results88 ⟨by (simp[dy,btw,h1d,h2d];omega),rfl⟩
 have h1d:=bsT h1
 have G6:=jn h1 @h1d
 exact eR G6 hQ hbel (.bool false) results88 ⟨by simp[dy,btw,h1d],rfl⟩
theorem ge (H:ac)(q:AV)(sc:List (Int×Int))(hq:SlP H q sc):zC 51 [q] H (.bool (bP sc)) H:=by
 obtain⟨bq,oq,cq,rfl,hbq,hblq,hb0q⟩:=zA1 hq
 refine AcT true func51 ?_;intro hbel Q hQ
 have G7:=jn @hbq @hb0q
 refine rcs G7 (fun h1 h1d G8=>?_) (fun h1 h1d G9=>?_)
 ·have hfinS:bP sc=false:=by unfold bP;rw[decide_eq_false (by omega)];rfl
  exact eS G8 hQ hbel (.bool false) results51 ⟨by rw[hfinS],rfl⟩
 refine aa G9 ?_
 refine glp (fun k F Hx=>∃i:Nat,i+k=sc.length/\(∀j:Nat,j<i->dy (g1 sc j) (g2 sc j)=true)/\F=[(0,.sl (some (bq,0)) sc.length cq),(3,iV (i:Int))]/\H=Hx) (sc.length) ?_ ?_
 ·refine⟨_,_,_,⟨0,by omega,fun j h=>by omega,rfl,rfl⟩,Abs.by0 hbel ?_⟩
  exact ar
 rintro k0 F Hx ⟨i,hm0,hal,rfl,rfl⟩ J0 hJ0
 refine rcs G9 (fun h2 h2d _=>?_) (fun h2 h2d G13=>?_)
 ·have hlt:i<sc.length:=by omega
  have q3:=bN (l:=sc) (j:=i) (by omega)
  have G10:=jn h2 (jn h2d (jn q3 G9))
  refine aa G10 ?_
  refine cv (bbeam_c _ _ _) ?_
  refine rcs G10 (fun h4 h4d G11=>?_) (fun h4 h4d G12=>?_)
  ·have hfinS:bP sc=false:=by
    rw[<-Bool.not_eq_true,cw];intro hh
    have:=hh.2 _ (List.getElem_mem hlt)
    rw[<-bC hlt] at this
    exact absurd (this.symm.trans h4d) (by decide)
   exact eS G11 hQ hbel (.bool false) results51 ⟨by rw[hfinS],rfl⟩
  have hbi:dy (g1 sc i) (g2 sc i)=true:=h4d
  refine aa G12 ?_
  refine hJ0 _ _ ⟨k0-1,by omega,_,_,_,⟨i+1,by omega,fun j hj=>by
        rcases Nat.lt_or_ge j i with h|h
        ·exact hal j h
        rw[show j=i by omega];exact hbi,rfl,rfl⟩,Abs.by0 hbel ?_⟩
  exact ar
 have hfinS:bP sc=true:=cw.2 ⟨by omega,fun b hb=>by
  obtain⟨j,hj,e⟩:=List.mem_iff_getElem.1 hb
  rw[<-e,<-bC hj];exact hal j (by omega)⟩
 exact eS G13 hQ hbel (.bool true) results51 ⟨by rw[hfinS],rfl⟩
theorem learnT_c (H:ac)(W Hh:Int)(pp:AV)(xs:List Int)(s:AV)(l:List T6)(q:AV)(sc:List (Int×Int))(g:Int)(o:List Int)(hpp:zI H pp xs)(hs:Sl H 6 s l.length (r6 l))(hq:SlP H q sc)(hR:cl W Hh xs l sc g=true)(ho:lnO W Hh xs l sc g=some o):
  zC 50 [.agg [iV W,iV Hh,pp],s,q,iV g] H (.tup [.agg [iV W,iV Hh,.sl (some (H.length,0)) o.length none],iV 0]) (H++[.cells (aI o.length) 1 (ints .u8 o)]):=by
 obtain⟨hV,hl0,hS,hsB,hg⟩:=cT.1 hR
 have k:=learn_c H W Hh pp xs s l q sc g hpp hs hq (by have:=dU hS;omega) (by have:=(cw.1 hsB).1;omega)
 obtain⟨e1,e2,e3,e4⟩:=ln_0 hR ho
 rw[e1,e2,e3,e4] at k
 exact k
theorem rc (H:ac)(W Hh:Int)(pp:AV)(xs:List Int)(s:AV)(l:List T6)(q:AV)(sc:List (Int×Int))(g:Int)(o:List Int)(hpp:zI H pp xs)(hs:Sl H 6 s l.length (r6 l))(hq:SlP H q sc)(hR:cl W Hh xs l sc g=true)(ho:lnO W Hh xs l sc g=some o)(h0:0<o.length):
  zC 50 [.agg [iV W,iV Hh,pp],s,q,iV g] H (.tup [.agg [iV W,iV Hh,.sl (some (H.length,0)) o.length none],iV 0]) (H++[.cells true 1 (ints .u8 o)]):=by
 have k:=learnT_c H W Hh pp xs s l q sc g o hpp hs hq hR ho
 rw[dD h0] at k
 exact k
theorem lse_a (H:ac)(W Hh:Int)(pp:AV)(xs:List Int)(s:AV)(l:List T6)(tu le sl ra:Int)(lost:Bool)(bz:Nat)(q:AV)(sc:List (Int×Int))(hpp:zI H pp xs)(hs:Sl H 6 s l.length (r6 l))(hz:∃o,H[bz]? = some (.cells o 0 [iV W,iV Hh,pp,s,iV tu,iV le,iV sl,iV ra,.bool lost]))(hq:SlP H q sc)(hsl:sc.length<=1000000000)(hsB:bP sc=false):zC 21 [.ptr (some (bz,0)),q] H (iV 1) H:=by
 obtain⟨bpp,opp,cpp,rfl,hbpp,hblpp,hb0pp⟩:=zA1 hpp
 obtain⟨bs,os,cs,rfl,hbs,hbls,hb0s⟩:=zA1 hs
 obtain⟨bq,oq,cq,rfl,hbq,hblq,hb0q⟩:=zA1 hq
 obtain⟨oz,hbz⟩:=hz
 have hblz:=getElem?_lt hbz
 have hb0z:=fun l=>ae (l:=l) hbz
 (refine aR func21 _ rfl (Nat.le_of_ble_eq_true (by kernel_rfl)) rfl ?_;intro hbel Q hQ hQ' c hc;unfold Tryz.f21 at hc;simp only[Option.some.injEq] at hc;subst hc;clear hQ')
 refine zQT hQ fun Q1 hn1 hQ1 he1=>?_
 have G1:=jn @hbpp (jn @hb0pp (jn @hbs (jn @hb0s (jn @hbq (jn @hb0q (jn @hbz (jn @hb0z (jn @hsB @Option.isNone_some.{0}))))))))
 refine aa G1 ?_
 refine hn1 _ _ (zQT hQ fun Q2 hn2 hQ2 he2=>?_)
 refine aa G1 ?_
 refine cvr G1 (jg _ _ sc (zA2 hb0q hbq) (by omega)) ?_
 exact eQ hQ2 hbel (iV 1) results21 ⟨rfl,rfl⟩
theorem lse_s (H:ac)(W Hh:Int)(pp:AV)(xs:List Int)(s:AV)(l:List T6)(tu le sl ra:Int)(bz:Nat)(q:AV)(sc:List (Int×Int))(hpp:zI H pp xs)(hs:Sl H 6 s l.length (r6 l))(hz:∃o,H[bz]? = some (.cells o 0 [iV W,iV Hh,pp,s,iV tu,iV le,iV sl,iV ra,.bool true]))(hq:SlP H q sc)(hsl:sc.length<=1000000000)(hsB:bP sc=true):zC 21 [.ptr (some (bz,0)),q] H (iV 9) H:=by
 obtain⟨bpp,opp,cpp,rfl,hbpp,hblpp,hb0pp⟩:=zA1 hpp
 obtain⟨bs,os,cs,rfl,hbs,hbls,hb0s⟩:=zA1 hs
 obtain⟨bq,oq,cq,rfl,hbq,hblq,hb0q⟩:=zA1 hq
 obtain⟨oz,hbz⟩:=hz
 have hblz:=getElem?_lt hbz
 have hb0z:=fun l=>ae (l:=l) hbz
 (refine aR func21 _ rfl (Nat.le_of_ble_eq_true (by kernel_rfl)) rfl ?_;intro hbel Q hQ hQ' c hc;unfold Tryz.f21 at hc;simp only[Option.some.injEq] at hc;subst hc;clear hQ')
 refine zQT hQ fun Q3 hn3 hQ3 he3=>?_
 have G2:=jn @hbpp (jn @hb0pp (jn @hbs (jn @hb0s (jn @hbq (jn @hb0q (jn @hbz (jn @hb0z (jn @hsB @Option.isNone_some.{0}))))))))
 refine aa G2 ?_
 refine hn3 _ _ (zQT hQ fun Q4 hn4 hQ4 he4=>?_)
 refine aa G2 ?_
 refine cvr G2 (jg _ _ sc (zA2 hb0q hbq) (by omega)) ?_
 exact eQ hQ4 hbel (iV 9) results21 ⟨rfl,rfl⟩
theorem lse_e (H:ac)(W Hh:Int)(pp:AV)(xs:List Int)(s:AV)(l:List T6)(tu le sl ra:Int)(bz:Nat)(q:AV)(sc:List (Int×Int))(hpp:zI H pp xs)(hs:Sl H 6 s l.length (r6 l))(hz:H[bz]? = some (.cells true 0 [iV W,iV Hh,pp,s,iV tu,iV le,iV sl,iV ra,.bool false]))(hq:SlP H q sc)(hV:bK W Hh xs=true)(hS:bk l=true)(hl0:0<l.length)(hsB:bP sc=true)(hg:1<=ra/\ra<=32)(hRn:(aN W Hh xs l sc ra 32).length=0):zC 21 [.ptr (some (bz,0)),q] H (iV 12) (H.set bz (.cells true 0 [iV W,iV Hh,pp,s,iV tu,iV le,iV sl,iV ra,.bool true])):=by
 obtain⟨bpp,opp,cpp,rfl,hbpp,hblpp,hb0pp⟩:=zA1 hpp
 obtain⟨bs,os,cs,rfl,hbs,hbls,hb0s⟩:=zA1 hs
 obtain⟨bq,oq,cq,rfl,hbq,hblq,hb0q⟩:=zA1 hq
 have hbz:=hz
 have hblz:=getElem?_lt hbz
 have hb0z:=fun l=>ae (l:=l) hbz
 have hVV:=bp.1 hV
 have hSS:=bi.1 hS
 have hss:=cw.1 hsB
 have hsc9:=hss.1
 have hx6:xs.length<=1000000:=by have h4:=hVV.len;have:=Int.mul_le_mul hVV.w1 hVV.h1 (by have:=hVV.h0;omega) (by decide);omega
 have hok:(∀b∈aN W Hh xs l sc ra 32,bl b=true)/\(aN W Hh xs l sc ra 32).length<=l.length+32+([]:List T6).length:=eV (xs:=xs) (s:=sc) (g:=ra) ⟨hVV.w0,hVV.w1⟩ ⟨hVV.h0,hVV.h1⟩ (l.length+2*32) l 32 [] rfl hSS.2 (fun b hb=>by cases hb)
 have hR6:(aN W Hh xs l sc ra 32).length<=64:=by have h1:=hok.2;simp only[List.length_nil] at h1;have h2:=hSS.1;omega
 have hRv:=hok.1
 (refine aR func21 _ rfl (Nat.le_of_ble_eq_true (by kernel_rfl)) rfl ?_;intro hbel Q hQ hQ' c hc;unfold Tryz.f21 at hc;simp only[Option.some.injEq] at hc;subst hc;clear hQ')
 refine zQF hQ fun Q5 hn5 hQ5 he5=>?_
 have G3:=jn @hbpp (jn @hb0pp (jn @hbs (jn @hb0s (jn @hbq (jn @hb0q (jn @hbz (jn @hb0z (jn @hsB @Option.isNone_some.{0}))))))))
 refine aa G3 ?_
 refine hn5 _ _ (zQF hQ fun Q6 hn6 hQ6 he6=>?_)
 refine aa G3 ?_
 refine cvr G3 (jg _ _ sc (zA2 hb0q hbq) (by omega)) ?_
 refine hn6 _ _ (zQF hQ fun Q7 hn7 hQ7 he7=>?_)
 refine aa G3 ?_
 refine cx (mN _ W _ _ xs _ l _ sc _ 32 (zA2 hb0pp hbpp) (zA2 hb0s hbs) (zA2 hb0q hbq) (by assumption) (by assumption) (by assumption) (by assumption) (by assumption) (by omega)) ?_
 refine aa G3 ?_
 refine hn7 _ _ (zQF hQ fun Q8 hn8 hQ8 he8=>?_)
 refine rcs G3 (fun h1 h1d _=>?_) (fun h1 h1d _=>?_)
 ·have h1n:=bnT h1
  have G4:=jn h1 (jn h1n (jn @aK (jn @aJ (jn @hblz (jn @d5 (jn @ee (jn @ez (jn @d9 (jn @eW (jn @ft (jn @eX (jn @fu (jn @List.length_set.{0} (jn @List.set_set.{0} G3))))))))))))))
  refine aa G4 ?_
  refine hQ8 _ _ (fz (b1:=.cells true 0 [iV W,iV Hh,.sl (some (bpp,0)) xs.length cpp,.sl (some (bs,0)) l.length cs,iV tu,iV le,iV sl,iV ra,.bool true]) (.cells true 0 [iV W,iV Hh,.sl (some (bpp,0)) xs.length cpp,.sl (some (bs,0)) l.length cs,iV tu,iV le,iV sl,iV ra,.bool true]) (l1:=[.cells (aI (aN W Hh xs l sc ra 32).length) 6 (r6 (aN W Hh xs l sc ra 32))]) (l2:=[]) (.inl rfl) hbel hblz (by rfl) (x1:=iV 12) (iV 12) (aU results21) [] rfl [] (by decide) ⟨rfl,List.append_nil _⟩ ?_)
  exact aF (jn @hblpp (jn @hbls (jn @hblz @hblq)))
 have h1n:=bnT h1
 simp[hRn] at h1d
theorem rd (H:ac)(W Hh:Int)(pp:AV)(xs:List Int)(s:AV)(l:List T6)(q:AV)(sc:List (Int×Int))(g:Int)(hpp:zI H pp xs)(hs:Sl H 6 s l.length (r6 l))(hq:SlP H q sc)(hR:cl W Hh xs l sc g=true)(ho:lnO W Hh xs l sc g=none):
  zC 50 [.agg [iV W,iV Hh,pp],s,q,iV g] H (.tup [.agg [iV 0,iV 0,.sl (some (H.length,0)) ([]:List Int).length none],iV 11]) (H++[.cells (aI ([]:List Int).length) 1 (ints .u8 ([]:List Int))]):=by
 obtain⟨hV,hl0,hS,hsB,hg⟩:=cT.1 hR
 have k:=learn_c H W Hh pp xs s l q sc g hpp hs hq (by have:=dU hS;omega) (by have:=(cw.1 hsB).1;omega)
 have e1:lnE W Hh xs l sc g=11:=by unfold lnE;rw[if_pos hR,ho]
 have e2:lnX W Hh xs l sc g=[]:=by unfold lnX;rw[if_pos hR,ho];rfl
 have e3:∀n,lnZ W Hh xs l sc g n=0:=fun n=>if_neg (by rw[e1];decide)
 rw[e1,e2,e3,e3] at k
 exact k
theorem lse_l (H:ac)(W Hh:Int)(pp:AV)(xs:List Int)(s:AV)(l:List T6)(tu le sl ra:Int)(bz:Nat)(q:AV)(sc:List (Int×Int))(hpp:zI H pp xs)(hs:Sl H 6 s l.length (r6 l))(hz:H[bz]? = some (.cells true 0 [iV W,iV Hh,pp,s,iV tu,iV le,iV sl,iV ra,.bool false]))(hq:SlP H q sc)(hV:bK W Hh xs=true)(hS:bk l=true)(hl0:0<l.length)(hsB:bP sc=true)(hg:1<=ra/\ra<=32)(hR0:0<(aN W Hh xs l sc ra 32).length)(ho:lnO W Hh xs (cpL (aN W Hh xs l sc ra 32)) sc ra=none):zC 21 [.ptr (some (bz,0)),q] H (iV 11) (H.set bz (.cells true 0 [iV W,iV Hh,pp,s,iV tu,iV le,iV sl,iV ra,.bool true])):=by
 obtain⟨bpp,opp,cpp,rfl,hbpp,hblpp,hb0pp⟩:=zA1 hpp
 obtain⟨bs,os,cs,rfl,hbs,hbls,hb0s⟩:=zA1 hs
 obtain⟨bq,oq,cq,rfl,hbq,hblq,hb0q⟩:=zA1 hq
 have hbz:=hz
 have hblz:=getElem?_lt hbz
 have hb0z:=fun l=>ae (l:=l) hbz
 have hVV:=bp.1 hV
 have hSS:=bi.1 hS
 have hss:=cw.1 hsB
 have hsc9:=hss.1
 have hx6:xs.length<=1000000:=by have h4:=hVV.len;have:=Int.mul_le_mul hVV.w1 hVV.h1 (by have:=hVV.h0;omega) (by decide);omega
 have hok:(∀b∈aN W Hh xs l sc ra 32,bl b=true)/\(aN W Hh xs l sc ra 32).length<=l.length+32+([]:List T6).length:=eV (xs:=xs) (s:=sc) (g:=ra) ⟨hVV.w0,hVV.w1⟩ ⟨hVV.h0,hVV.h1⟩ (l.length+2*32) l 32 [] rfl hSS.2 (fun b hb=>by cases hb)
 have hR6:(aN W Hh xs l sc ra 32).length<=64:=by have h1:=hok.2;simp only[List.length_nil] at h1;have h2:=hSS.1;omega
 have hRv:=hok.1
 have hcp:=jh hR0 hRv
 have hcS:=hcp.1
 have hc0:=hcp.2
 have hc16:=(bi.1 hcS).1
 have hRg:cl W Hh xs (cpL (aN W Hh xs l sc ra 32)) sc ra=true:=cT.2 ⟨hV,hc0,hcS,hsB,hg⟩
 (refine aR func21 _ rfl (Nat.le_of_ble_eq_true (by kernel_rfl)) rfl ?_;intro hbel Q hQ hQ' c hc;unfold Tryz.f21 at hc;simp only[Option.some.injEq] at hc;subst hc;clear hQ')
 refine zQF hQ fun Q1 hn1 hQ1 he1=>?_
 have G1:=jn @hbpp (jn @hb0pp (jn @hbs (jn @hb0s (jn @hbq (jn @hb0q (jn @hbz (jn @hb0z (jn @hsB @Option.isNone_some.{0}))))))))
 refine aa G1 ?_
 refine hn1 _ _ (zQF hQ fun Q2 hn2 hQ2 he2=>?_)
 refine aa G1 ?_
 refine cvr G1 (jg _ _ sc (zA2 hb0q hbq) (by omega)) ?_
 refine hn2 _ _ (zQF hQ fun Q3 hn3 hQ3 he3=>?_)
 refine aa G1 ?_
 refine cx (mN _ W _ _ xs _ l _ sc _ 32 (zA2 hb0pp hbpp) (zA2 hb0s hbs) (zA2 hb0q hbq) (by assumption) (by assumption) (by assumption) (by assumption) (by assumption) (by omega)) ?_
 refine aa G1 ?_
 refine hn3 _ _ (zQF hQ fun Q4 hn4 hQ4 he4=>?_)
 refine rcs G1 (fun h1 h1d _=>?_) (fun h1 h1d _=>?_)
 ·have h1n:=bnT h1
  omega
 have h1n:=bnT h1
 have G2:=jn h1 (jn h1n (jn @aK (jn @aJ G1)))
 refine aa G2 ?_
 refine hn4 _ _ (zQF hQ fun Q5 hn5 hQ5 he5=>?_)
 refine aa G2 ?_
 refine cvr G2 (comp_c _ _ (aN W Hh xs l sc ra 32) ⟨_,_,_,by rfl,by (rw[cN];rfl)⟩ (by omega) (by assumption) (by assumption)) ?_
 refine hn5 _ _ ?_
 refine aL false try_mixed [[0,1,2,3,4,5,6,7,8,9,10,11,12,13,14,15,16,17],[0,1,2,3,4,5,6,7,8,9,10,15,11,12,13,14,16,17]] (by kernel_rfl) (fun F2 H2=>F2=[(0,.ptr (some (bz,0))),(4,iV 0),(5,.sl (some (H.length,0)) ((cpL (aN W Hh xs l sc ra 32)).length) none),(7,.ptr (some (H.length+2,0))),(8,iV 11)]/\H2=H++[.cells true 6 (r6 (cpL (aN W Hh xs l sc ra 32))),.cells (aI ([]:List Int).length) 1 (ints .u8 ([]:List Int)),.cells true 0 [iV 0,iV 0,.sl (some (H.length+1,0)) (([]:List Int).length) none]]) ?_ ?_
 ·refine af ?_ (af ?_ (aQ))<;>intro J hJ
  ·refine ag G2 ?_
   refine cx (rd _ W Hh _ xs _ (cpL (aN W Hh xs l sc ra 32)) _ sc ra (zA2 hb0pp hbpp) ⟨_,_,_,by rfl,by (rw[ah];rfl)⟩ (zA2 hb0q hbq) (by assumption) (by assumption)) ?_
   refine ag G2 ?_
   refine ai (hJ _ _ ⟨_,_,_,⟨rfl,rfl⟩,bS hbel [1,2,3] (al (jn @ap (jn @au (jn @aA @ax))))⟩)
  refine ag G2 ?_
  refine cx (rd _ W Hh _ xs _ (cpL (aN W Hh xs l sc ra 32)) _ sc ra (zA2 hb0pp hbpp) ⟨_,_,_,by rfl,by (rw[ah];rfl)⟩ (zA2 hb0q hbq) (by assumption) (by assumption)) ?_
  refine ag G2 ?_
  refine ai (hJ _ _ ⟨_,_,_,⟨rfl,rfl⟩,bS hbel [1,3,2] (al (jn @ap (jn @au (jn @aA @ax))))⟩)
 rintro F2 H2 ⟨rfl,rfl⟩
 refine zQF hQ fun Q6 hn6 hQ6 he6=>?_
 have G3:=jn @bo (jn @cQ (jn @bU (jn @cr (jn @hblz (jn @d5 (jn @ee (jn @ez (jn @d9 (jn @eW (jn @ft (jn @eX (jn @fu (jn @List.length_set.{0} (jn @List.set_set.{0} G2))))))))))))))
 refine aa G3 ?_
 refine hQ6 _ _ (fz (b1:=.cells true 0 [iV W,iV Hh,.sl (some (bpp,0)) xs.length cpp,.sl (some (bs,0)) l.length cs,iV tu,iV le,iV sl,iV ra,.bool true]) (.cells true 0 [iV W,iV Hh,.sl (some (bpp,0)) xs.length cpp,.sl (some (bs,0)) l.length cs,iV tu,iV le,iV sl,iV ra,.bool true]) (l1:=[.cells true 6 (r6 (cpL (aN W Hh xs l sc ra 32))),.cells (aI ([]:List Int).length) 1 (ints .u8 ([]:List Int)),.cells true 0 [iV 0,iV 0,.sl (some (H.length+1,0)) (([]:List Int).length) none]]) (l2:=[]) (.inl rfl) hbel hblz (by rfl) (x1:=iV 11) (iV 11) (aU results21) [] rfl [] (by decide) ⟨rfl,List.append_nil _⟩ ?_)
 exact aF (jn @hblpp (jn @hbls (jn @hblz @hblq)))
theorem lrnF_v {W H:Int}:∀{l:List (Int×Int)}{o q:List Int},gw W H l o=some q->(∀v∈o,v<=2)->q.length=o.length/\∀v∈q,v<=2
 |[],o,q,h,ho=>by unfold gw at h;cases h;exact⟨rfl,ho⟩
 | c::l,o,q,h,ho=>by
  unfold gw at h
  split at h
  ·cases h
  have ih:=lrnF_v h (fun v hv=>(List.mem_or_eq_of_mem_set hv).elim (ho v) (fun e=>by omega))
  exact⟨by rw[ih.1,List.length_set],ih.2⟩
theorem nL {W H:Int}:∀{l:List (List (Int×Int))}{o q:List Int},e9 W H l o=some q->(∀v∈o,v<=2)->q.length=o.length/\∀v∈q,v<=2
 |[],o,q,h,ho=>by unfold e9 at h;cases h;exact⟨rfl,ho⟩
 | s :: l,o,q,h,ho=>by
  unfold e9 at h
  split at h
  ·cases h
  ·rename_i c hc
   split at h
   ·have ih:=nL h (fun v hv=>(List.mem_or_eq_of_mem_set hv).elim (ho v) (fun e=>by omega))
    exact⟨by rw[ih.1,List.length_set],ih.2⟩
   exact nL h ho
  exact nL h ho
theorem ln_v {W Hh:Int}{xs o:List Int}{l:List T6}{sc:List (Int×Int)}{g:Int}(hV:bK W Hh xs=true)(h:lnO W Hh xs l sc g=some o):bK W Hh o=true/\o.length=xs.length:=by
 obtain⟨a,b,c,d,e,f⟩:=bp.1 hV
 have key:o.length=xs.length/\∀v∈o,v<=2:=by
  unfold lnO at h
  split at h
  ·cases hq:gw W Hh (aY W Hh l sc g) xs with
   |none=>rw[hq] at h;cases h
   | some q =>
    rw[hq] at h
    have h':e9 W Hh (gL l sc g) q=some o:=h
    have k1:=lrnF_v hq f
    have k2:=nL h' k1.2
    exact⟨by rw[k2.1,k1.1],k2.2⟩
  cases h;exact⟨rfl,f⟩
 exact⟨bp.2 ⟨a,b,c,d,by rw[key.1];exact e,key.2⟩,key.1⟩
structure Ev where
 k:Int
 t:Int
 g:Int
 st:Bool
 s:AV
 sc:List (Int×Int)
 x:Int
 y:Int
 h:Int
def evC (e:Ev):List AV:=[.int .i64 e.k,.int .i64 e.t,.int .i64 e.g,.bool e.st,e.s,.int .i64 e.x,.int .i64 e.y,.int .i64 e.h]
def evR (l:List Ev):List AV:=l.flatMap evC
def evG (l:List Ev) (j:Nat):Ev:=l.getD j ⟨0,0,0,false,.any,[],0,0,0⟩
def evOk (H:ac) (l:List Ev):Prop:=∀e∈l,Sl H 2 e.s e.sc.length (prs e.sc)/\e.sc.length<=maxLen
theorem evR_cons {p:Ev}{l:List Ev}:evR (p::l)=evC p++evR l:=rfl
theorem mQ:∀(a b:List AV) (n:Nat),(a++b).drop (a.length+n)=b.drop n
 |[],b,n=>by simp
 |x::a,b,n=>by rw[List.length_cons,show a.length+1+n=(a.length+n)+1 by omega];exact mQ a b n
theorem evG_mem {l:List Ev}{j:Nat}(h:j<l.length):evG l j∈l:=by
 unfold evG
 rw[List.getD_eq_getElem?_getD,List.getElem?_eq_getElem h]
 exact List.getElem_mem h
theorem evOk.at {H:ac}{l:List Ev}{j:Nat}(k:evOk H l)(h:j<l.length):∃b o c,(evG l j).s=.sl (some (b,0)) (evG l j).sc.length c/\H[b]? = some (.cells o 2 (prs (evG l j).sc)):=by
 obtain⟨b,o,c,e1,e2⟩:=(k _ (evG_mem h)).1
 exact⟨b,o,c,e1,e2⟩
theorem evOk.len {H:ac}{l:List Ev}{j:Nat}(k:evOk H l)(h:j<l.length):(evG l j).sc.length<=9223372036854775807:=by
 have q:=(k _ (evG_mem h)).2
 unfold maxLen at q;exact q
theorem rows_ev {P:Program}{H:ac}{n:Nat}{ti tb ts te u v:TypeId}(hi:P.underlying ti=some (.int .i64))(hb:P.underlying tb=some .bool)(hs:P.underlying ts=some (.slice te))(hu:P.underlying u=some (.int .i64))(hv:P.underlying v=some (.int .i64))(hl:bX P (n+1) te=some [u,v]):∀rows:List (List AV),(∀r:List AV,r∈rows->RTy P H (n+2) [ti,ti,ti,tb,ts,ti,ti,ti] r)->∃l:List Ev,l.length=rows.length/\rows.flatten=evR l/\evOk H l
 |[],_=>⟨[],rfl,rfl,fun e h=>by cases h⟩
 | r::rows,h=>by
  obtain⟨l,q1,q2,q3⟩:=rows_ev hi hb hs hu hv hl rows fun r' hr=>h r' (by simp[hr])
  have hr:=h r (by simp)
  obtain⟨y1,r',rfl,hy1,hr⟩:=hr.cons
  obtain⟨y2,r',rfl,hy2,hr⟩:=hr.cons
  obtain⟨y3,r',rfl,hy3,hr⟩:=hr.cons
  obtain⟨y4,r',rfl,hy4,hr⟩:=hr.cons
  obtain⟨y5,r',rfl,hy5,hr⟩:=hr.cons
  obtain⟨y6,r',rfl,hy6,hr⟩:=hr.cons
  obtain⟨y7,r',rfl,hy7,hr⟩:=hr.cons
  obtain⟨y8,r',rfl,hy8,hr⟩:=hr.cons
  obtain rfl:=hr.nil
  obtain⟨z1,rfl,-⟩:=hy1.int hi
  obtain⟨z2,rfl,-⟩:=hy2.int hi
  obtain⟨z3,rfl,-⟩:=hy3.int hi
  obtain⟨z4,rfl⟩:=hy4.bool hb
  obtain⟨sc,k1,k2,-⟩:=hy5.pairsU hs hu hv hl
  obtain⟨z6,rfl,-⟩:=hy6.int hi
  obtain⟨z7,rfl,-⟩:=hy7.int hi
  obtain⟨z8,rfl,-⟩:=hy8.int hi
  refine⟨⟨z1,z2,z3,z4,y5,sc,z6,z7,z8⟩::l,by simp[q1],by rw[evR_cons,List.flatten_cons,q2];rfl,fun e he=>?_⟩
  rcases List.mem_cons.1 he with rfl|he
  ·exact⟨k1,k2⟩
  exact q3 e he
theorem LTy.evs {P:Program}{H:ac}{n:Nat}{t e ti tb ts te u v:TypeId}{x:AV}(ht:P.underlying t=some (.slice e))(hle:bX P (n+2) e=some [ti,ti,ti,tb,ts,ti,ti,ti])(hi:P.underlying ti=some (.int .i64))(hb:P.underlying tb=some .bool)(hs:P.underlying ts=some (.slice te))(hu:P.underlying u=some (.int .i64))(hv:P.underlying v=some (.int .i64))(hl:bX P (n+1) te=some [u,v])(h:LTy P H (n+3) t x):
  ∃l:List Ev,Sl H 8 x l.length (evR l)/\l.length<=maxLen/\evOk H l:=by
 obtain⟨b,rows,rfl,k1,k2,k3⟩:=h.slice ht hle
 obtain⟨l,q1,q2,q3⟩:=rows_ev hi hb hs hu hv hl rows k3
 exact⟨l,⟨b,false,none,by rw[q1],by rw[<-q2];exact k2⟩,by omega,q3⟩
theorem lse_y (H:ac)(W Hh:Int)(pp:AV)(xs:List Int)(s:AV)(l:List T6)(tu le sl ra:Int)(bz:Nat)(q:AV)(sc:List (Int×Int))(hpp:zI H pp xs)(hs:Sl H 6 s l.length (r6 l))(hz:H[bz]? = some (.cells true 0 [iV W,iV Hh,pp,s,iV tu,iV le,iV sl,iV ra,.bool false]))(hq:SlP H q sc)(hV:bK W Hh xs=true)(hS:bk l=true)(hl0:0<l.length)(hsB:bP sc=true)(hg:1<=ra/\ra<=32)(hR0:0<(aN W Hh xs l sc ra 32).length)(o:List Int)(ho:lnO W Hh xs (cpL (aN W Hh xs l sc ra 32)) sc ra=some o)(ho0:0<o.length):zC 21 [.ptr (some (bz,0)),q] H (iV 0) (H.set bz (.cells true 0 [iV W,iV Hh,.sl (some (H.length,0)) o.length none,.sl (some (H.length+1,0)) ((cpL (aN W Hh xs l sc ra 32)).length) none,iV tu,iV le,iV sl,iV ra,.bool false])++[.cells true 1 (ints .u8 o),.cells true 6 (r6 (cpL (aN W Hh xs l sc ra 32)))]):=by
 obtain⟨bpp,opp,cpp,rfl,hbpp,hblpp,hb0pp⟩:=zA1 hpp
 obtain⟨bs,os,cs,rfl,hbs,hbls,hb0s⟩:=zA1 hs
 obtain⟨bq,oq,cq,rfl,hbq,hblq,hb0q⟩:=zA1 hq
 have hbz:=hz
 have hblz:=getElem?_lt hbz
 have hb0z:=fun l=>ae (l:=l) hbz
 have hVV:=bp.1 hV
 have hSS:=bi.1 hS
 have hss:=cw.1 hsB
 have hsc9:=hss.1
 have hx6:xs.length<=1000000:=by have h4:=hVV.len;have:=Int.mul_le_mul hVV.w1 hVV.h1 (by have:=hVV.h0;omega) (by decide);omega
 have hok:(∀b∈aN W Hh xs l sc ra 32,bl b=true)/\(aN W Hh xs l sc ra 32).length<=l.length+32+([]:List T6).length:=eV (xs:=xs) (s:=sc) (g:=ra) ⟨hVV.w0,hVV.w1⟩ ⟨hVV.h0,hVV.h1⟩ (l.length+2*32) l 32 [] rfl hSS.2 (fun b hb=>by cases hb)
 have hR6:(aN W Hh xs l sc ra 32).length<=64:=by have h1:=hok.2;simp only[List.length_nil] at h1;have h2:=hSS.1;omega
 have hRv:=hok.1
 have hcp:=jh hR0 hRv
 have hcS:=hcp.1
 have hc0:=hcp.2
 have hc16:=(bi.1 hcS).1
 have hRg:cl W Hh xs (cpL (aN W Hh xs l sc ra 32)) sc ra=true:=cT.2 ⟨hV,hc0,hcS,hsB,hg⟩
 (refine aR func21 _ rfl (Nat.le_of_ble_eq_true (by kernel_rfl)) rfl ?_;intro hbel Q hQ hQ' c hc;unfold Tryz.f21 at hc;simp only[Option.some.injEq] at hc;subst hc;clear hQ')
 refine zQF hQ fun Q1 hn1 hQ1 he1=>?_
 have G1:=jn @hbpp (jn @hb0pp (jn @hbs (jn @hb0s (jn @hbq (jn @hb0q (jn @hbz (jn @hb0z (jn @hsB @Option.isNone_some.{0}))))))))
 refine aa G1 ?_
 refine hn1 _ _ (zQF hQ fun Q2 hn2 hQ2 he2=>?_)
 refine aa G1 ?_
 refine cvr G1 (jg _ _ sc (zA2 hb0q hbq) (by omega)) ?_
 refine hn2 _ _ (zQF hQ fun Q3 hn3 hQ3 he3=>?_)
 refine aa G1 ?_
 refine cx (mN _ W _ _ xs _ l _ sc _ 32 (zA2 hb0pp hbpp) (zA2 hb0s hbs) (zA2 hb0q hbq) (by assumption) (by assumption) (by assumption) (by assumption) (by assumption) (by omega)) ?_
 refine aa G1 ?_
 refine hn3 _ _ (zQF hQ fun Q4 hn4 hQ4 he4=>?_)
 refine rcs G1 (fun h1 h1d _=>?_) (fun h1 h1d _=>?_)
 ·have h1n:=bnT h1
  omega
 have h1n:=bnT h1
 have G2:=jn h1 (jn h1n (jn @aK (jn @aJ G1)))
 refine aa G2 ?_
 refine hn4 _ _ (zQF hQ fun Q5 hn5 hQ5 he5=>?_)
 refine aa G2 ?_
 refine cvr G2 (comp_c _ _ (aN W Hh xs l sc ra 32) ⟨_,_,_,by rfl,by (rw[cN];rfl)⟩ (by omega) (by assumption) (by assumption)) ?_
 refine hn5 _ _ ?_
 refine aL false try_mixed [[0,1,2,3,4,5,6,7,8,9,10,11,12,13,14,15,16,17],[0,1,2,3,4,5,6,7,8,9,10,15,11,12,13,14,16,17]] (by kernel_rfl) (fun F2 H2=>F2=[(0,.ptr (some (bz,0))),(4,iV 0),(5,.sl (some (H.length,0)) ((cpL (aN W Hh xs l sc ra 32)).length) none),(7,.ptr (some (H.length+2,0))),(8,iV 0)]/\H2=H++[.cells true 6 (r6 (cpL (aN W Hh xs l sc ra 32))),.cells true 1 (ints .u8 o),.cells true 0 [iV W,iV Hh,.sl (some (H.length+1,0)) o.length none]]) ?_ ?_
 ·refine af ?_ (af ?_ (aQ))<;>intro J hJ
  ·refine ag G2 ?_
   refine cx (rc _ W Hh _ xs _ (cpL (aN W Hh xs l sc ra 32)) _ sc ra o (zA2 hb0pp hbpp) ⟨_,_,_,by rfl,by (rw[ah];rfl)⟩ (zA2 hb0q hbq) (by assumption) (by assumption) (by assumption)) ?_
   refine ag G2 ?_
   refine ai (hJ _ _ ⟨_,_,_,⟨rfl,rfl⟩,bS hbel [1,2,3] (al (jn @ap (jn @au (jn @aA @ax))))⟩)
  refine ag G2 ?_
  refine cx (rc _ W Hh _ xs _ (cpL (aN W Hh xs l sc ra 32)) _ sc ra o (zA2 hb0pp hbpp) ⟨_,_,_,by rfl,by (rw[ah];rfl)⟩ (zA2 hb0q hbq) (by assumption) (by assumption) (by assumption)) ?_
  refine ag G2 ?_
  refine ai (hJ _ _ ⟨_,_,_,⟨rfl,rfl⟩,bS hbel [1,3,2] (al (jn @ap (jn @au (jn @aA @ax))))⟩)
 rintro F2 H2 ⟨rfl,rfl⟩
 refine zQF hQ fun Q6 hn6 hQ6 he6=>?_
 have G3:=jn @bo (jn @cQ (jn @bU (jn @cr G2)))
 refine aa G3 ?_
 refine hn6 _ _ ?_
 refine aL false try_mixed [[0,1,2,3,4,5,6,7,8,9],[0,1,2,4,5,6,3,7,8,9]] (by kernel_rfl) (fun F2 H2=>F2=[(4,iV 0)]/\H2=H.set bz (.cells true 0 [iV W,iV Hh,.sl (some (H.length+1,0)) o.length none,.sl (some (H.length,0)) ((cpL (aN W Hh xs l sc ra 32)).length) none,iV tu,iV le,iV sl,iV ra,.bool false])++[.cells true 6 (r6 (cpL (aN W Hh xs l sc ra 32))),.cells true 1 (ints .u8 o)]) ?_ ?_
 ·refine af ?_ (af ?_ (aQ))<;>intro J hJ
  ·have G4:=jn @hblz (jn @d5 (jn @ee (jn @ez (jn @d9 (jn @eW (jn @ft (jn @eX (jn @fu (jn @List.length_set.{0} (jn @List.set_set.{0} G3))))))))))
   refine ag G4 ?_
   refine ai (hJ _ _ ⟨_,_,_,⟨rfl,rfl⟩,Abs.byP (b1:=.cells true 0 [iV W,iV Hh,.sl (some (H.length+1,0)) o.length none,.sl (some (H.length,0)) ((cpL (aN W Hh xs l sc ra 32)).length) none,iV tu,iV le,iV sl,iV ra,.bool false]) (l1:=[.cells true 6 (r6 (cpL (aN W Hh xs l sc ra 32))),.cells true 1 (ints .u8 o),.cells true 0 [iV W,iV Hh,.sl (some (H.length+1,0)) o.length none]]) (.cells true 0 [iV W,iV Hh,.sl (some (H.length+1,0)) o.length none,.sl (some (H.length,0)) ((cpL (aN W Hh xs l sc ra 32)).length) none,iV tu,iV le,iV sl,iV ra,.bool false]) hbel hblz (by rfl) [] rfl [0,1] (by decide) ?_⟩)
   exact al (jn @hblpp (jn @hbls (jn @hblz (jn @hblq (jn @ap (jn @au (jn @aA @ax)))))))
  have G5:=jn @hblz (jn @d5 (jn @ee (jn @ez (jn @d9 (jn @eW (jn @ft (jn @eX (jn @fu (jn @List.length_set.{0} (jn @List.set_set.{0} G3))))))))))
  refine ag G5 ?_
  refine ai (hJ _ _ ⟨_,_,_,⟨rfl,rfl⟩,Abs.byP (b1:=.cells true 0 [iV W,iV Hh,.sl (some (H.length+1,0)) o.length none,.sl (some (H.length,0)) ((cpL (aN W Hh xs l sc ra 32)).length) none,iV tu,iV le,iV sl,iV ra,.bool false]) (l1:=[.cells true 6 (r6 (cpL (aN W Hh xs l sc ra 32))),.cells true 1 (ints .u8 o),.cells true 0 [iV W,iV Hh,.sl (some (H.length+1,0)) o.length none]]) (.cells true 0 [iV W,iV Hh,.sl (some (H.length+1,0)) o.length none,.sl (some (H.length,0)) ((cpL (aN W Hh xs l sc ra 32)).length) none,iV tu,iV le,iV sl,iV ra,.bool false]) hbel hblz (by rfl) [] rfl [0,1] (by decide) ?_⟩)
  exact al (jn @hblpp (jn @hbls (jn @hblz (jn @hblq (jn @ap (jn @au (jn @aA @ax)))))))
 rintro F2 H2 ⟨rfl,rfl⟩
 refine fnF ?_
 have G6:=jn @hblz (jn @d5 (jn @ee (jn @ez (jn @d9 (jn @eW (jn @ft (jn @eX (jn @fu (jn @List.length_set.{0} (jn @List.set_set.{0} G3))))))))))
 refine aa G6 ?_
 refine hQ _ _ (fz (b1:=.cells true 0 [iV W,iV Hh,.sl (some (H.length+1,0)) o.length none,.sl (some (H.length,0)) ((cpL (aN W Hh xs l sc ra 32)).length) none,iV tu,iV le,iV sl,iV ra,.bool false]) (.cells true 0 [iV W,iV Hh,.sl (some (H.length,0)) o.length none,.sl (some (H.length+1,0)) ((cpL (aN W Hh xs l sc ra 32)).length) none,iV tu,iV le,iV sl,iV ra,.bool false]) (l1:=[.cells true 6 (r6 (cpL (aN W Hh xs l sc ra 32))),.cells true 1 (ints .u8 o)]) (l2:=[.cells true 1 (ints .u8 o),.cells true 6 (r6 (cpL (aN W Hh xs l sc ra 32)))]) (.inl rfl) hbel hblz (by rfl) (x1:=iV 0) (iV 0) (aU results21) [] rfl [1,0] (by decide) ⟨rfl,rfl⟩ ?_)
 exact aF (jn @ax (jn @eG (jn @hblpp (jn @hbls (jn @hblz @hblq)))))
theorem IsI.parts {H:ac}{k:IntKind}{s:AV}{l:List Int}(h:IsI H k s l):∃a c,s=.sl a l.length c:=by
 rcases h with ⟨rfl,rfl⟩|⟨b,own,cap,rfl,hb⟩
 ·exact⟨_,_,rfl⟩
 exact⟨_,_,rfl⟩
def bys (xs:List Int):List UInt8:=xs.map fun n=>UInt8.ofNat n.toNat
theorem bys_map:∀xs:List Int,(ints .u8 xs).mapM kL=some (bys xs)
 |[]=>rfl
 | x::xs=>by
  have ih:=bys_map xs
  show (AV.int .u8 x::ints .u8 xs).mapM kL=_
  rw[List.mapM_cons,ih]
  rfl
theorem need_pos {p:Prop}[Decidable p](h:p):bI p=some ():=by unfold bI;rw[if_pos h]
theorem nM {H:ac}{s:AV}{xs:List Int}(hs:IsI H .u8 s xs):aE prog 22 9 s H=some (.str (bys xs)):=by
 have h1:=bys_map xs
 have key:∀a n c,aElems 1 (.sl a n c) H=some (n,ints .u8 xs)->aE prog 22 9 (.sl a n c) H=some (.str (bys xs)):=fun a n c he=>by
  unfold aE
  simp only[tElem22,Option.bind_some]
  rw[need_pos ⟨tInt5,by kernel_rfl⟩,Option.bind_some,he,Option.bind_some]
  simp only[h1,Option.map_some]
 rcases hs with ⟨rfl,rfl⟩|⟨b,own,cap,rfl,hb⟩
 ·exact key none 0 (some 0) rfl
 refine key _ _ _ ?_
 unfold aElems ards
 simp only[hb]
 rw[if_pos (by rw[bU];omega),List.drop_zero,List.take_of_length_le (by rw[bU];omega)]
 rfl
set_option maxRecDepth 100000 in
theorem plans_c (H:ac)(W Hh:Int)(xs:List Int)(s1 s2:AV)(h1:IsI H .u8 s1 xs)(h2:IsI H .u8 s2 xs):zC 13 [.agg [iV W,iV Hh,s1],.agg [iV W,iV Hh,s2]] H (.bool true) H:=by
 have hc1:=fun l=>nM (h1.app l)
 have hc2:=fun l=>nM (h2.app l)
 obtain⟨a1,c1,rfl⟩:=h1.parts
 obtain⟨a2,c2,rfl⟩:=h2.parts
 refine AcT true func13 ?_;intro hbel Q hQ
 simp -implicitDefEqProofs (disch:=omega) only [hc1,hc2,simprocAttr,aG,aH,Function.comp_apply,one1,lenV,ak,ay,az,aop,AV.ofValue,AV.ofCell,AV.cells,AV.flat,AV.one,arep,aT,av]
 exact eP hQ hbel (.bool true) results13 ⟨rfl,rfl⟩
theorem mR (H:ac)(W Hh W2 Hh2:Int)(xs ys:List Int)(s1 s2:AV)(h1:zI H s1 xs)(h2:zI H s2 ys)(e1:W=W2)(e2:Hh=Hh2)(e3:xs=ys):zC 13 [.agg [iV W,iV Hh,s1],.agg [iV W2,iV Hh2,s2]] H (.bool true) H:=by
 subst e1 e2 e3
 exact plans_c H W Hh xs s1 s2 (.inr h1) (.inr h2)
def laL:List T6:=[(32,32,32,32,0,1),(33,32,33,32,0,1),(34,32,34,32,0,1),(35,32,35,32,0,1),(36,32,36,32,0,1),(37,32,37,32,0,1),(38,32,38,32,0,1),(39,32,39,32,0,1),(40,32,40,32,0,1)]
theorem la_1:aN 4 1 [0,0,0,0] [(32,32,40,32,0,1)] [(0,160)] 4 32=laL:=by decide +kernel
theorem la_2:cpL laL=laL:=by decide +kernel
theorem la_tau:dn laL=true:=by decide +kernel
theorem la_all:aY 4 1 laL [(0,160)] 4=[(0,0),(1,0),(2,0)]:=by rw[all_put];decide +kernel
theorem la_sus:bJ laL 0 160 4=[(2,0),(3,0)]:=by rw[sus_put];decide +kernel
theorem la_ln:lnO 4 1 [0,0,0,0] laL [(0,160)] 4=some [1,1,1,2]:=by
 unfold lnO gL
 rw[if_pos la_tau,la_all]
 show Option.bind _ (e9 4 1 [bJ laL 0 160 4])=_
 rw[la_sus];decide +kernel
theorem la_v:bK 4 1 [0,0,0,0]=true:=by decide +kernel
theorem la_l:lsB [(32,32,40,32,0,1)]=true:=by decide +kernel
theorem la_b:bO 0 0 0 4=true:=by decide +kernel
theorem la_s1:bk [(32,32,40,32,0,1)]=true:=by decide +kernel
theorem la_s2:bk laL=true:=by decide +kernel
theorem la_c1:bP [(0,160)]=true:=by decide +kernel
theorem la_c2:bP [(0,3)]=true:=by decide +kernel
theorem la_v2:bK 4 1 [1,1,1,2]=true:=by decide +kernel
theorem la_vol:volS laL laL.length=9:=by decide +kernel
theorem la_see1 (H:ac)(pp s q:AV)(bz:Nat)(hpp:Sl H 1 pp 4 (ints .u8 [0,0,0,0]))(hs:Sl H 6 s 1 (r6 [(32,32,40,32,0,1)]))(hz:H[bz]? = some (.cells true 0 [iV 4,iV 1,pp,s,iV 0,iV 0,iV 0,iV 4,.bool false]))(hq:Sl H 2 q 1 (prs [(0,160)])):zC 21 [.ptr (some (bz,0)),q] H (iV 0) (H.set bz (.cells true 0 [iV 4,iV 1,.sl (some (H.length,0)) 4 none,.sl (some (H.length+1,0)) laL.length none,iV 0,iV 0,iV 0,iV 4,.bool false])++[.cells true 1 (ints .u8 [1,1,1,2]),.cells true 6 (r6 laL)]):=by
 have k:=lse_y H 4 1 pp [0,0,0,0] s [(32,32,40,32,0,1)] 0 0 0 4 bz q [(0,160)] hpp hs hz hq la_v la_s1 (by decide) la_c1 (by decide) (by rw[la_1];decide) [1,1,1,2] (by rw[la_1,la_2];exact la_ln) (by decide)
 rw[la_1,la_2] at k
 exact k
theorem la_volc (H:ac)(pp s:AV)(bz:Nat)(hpp:Sl H 1 pp 4 (ints .u8 [1,1,1,2]))(hs:Sl H 6 s laL.length (r6 laL))(hz:∃o,H[bz]? = some (.cells o 0 [iV 4,iV 1,pp,s,iV 0,iV 0,iV 0,iV 4,.bool false])):zC 25 [.ptr (some (bz,0))] H (iV 9) H:=by
 have k:=lvol_c H 4 1 pp [1,1,1,2] s laL 0 0 0 4 false bz hpp hs hz (by decide) (by decide)
 rw[la_vol] at k
 exact k
theorem evOk.app {H:ac}{l:List Ev}(h:evOk H l)(L:ac):evOk (H++L) l:=fun e he=>⟨(h e he).1.app L,(h e he).2⟩
def smlC (b:T6):Bool:=!(decide (8<b.2.2.2.2.2))&&(!(decide (200<IntKind.i64.wrap (b.2.2.1-b.1)))&&!(decide (200<IntKind.i64.wrap (b.2.2.2.1-b.2.1))))
def smlB (l:List T6):Bool:=(l.take 20).all smlC&&decide ((l.length:Int)<=4)
theorem smlB_len {l:List T6}(h:smlB l=true):l.length<=4:=by
 unfold smlB at h;rw[Bool.and_eq_true,decide_eq_true_eq] at h;omega
theorem smlB_n {l:List T6}{i:Nat}(hi:i<l.length)(h20:i<20)(k:smlC (g6 l i)=false):smlB l=false:=by
 rw[<-Bool.not_eq_true];intro q
 unfold smlB at q
 rw[Bool.and_eq_true,List.all_eq_true] at q
 have:=q.1 (g6 l i) (List.mem_iff_getElem.2 ⟨i,by rw[List.length_take];omega,by rw[List.getElem_take];exact(show g6 l i=l[i] from jq hi).symm⟩)
 rw[k] at this;cases this
theorem smlB_y {l:List T6}(k:∀j:Nat,j<l.length->j<20->smlC (g6 l j)=true):smlB l=decide ((l.length:Int)<=4):=by
 unfold smlB
 rw [show (l.take 20).all smlC=true from List.all_eq_true.2 fun e he=>by
  obtain⟨j,hj,rfl⟩:=List.mem_iff_getElem.1 he
  rw[List.length_take] at hj
  rw[List.getElem_take,<-show g6 l j=l[j] from jq (by omega)];exact k j (by omega) (by omega)]
 rfl
def e5C (e:Ev):List AV:=[.int .i64 e.k,.int .i64 e.t,.int .i64 e.g,.bool e.st,e.s]
def e5R (l:List Ev):List AV:=l.flatMap e5C
theorem kw {p:Ev}{l:List Ev}:e5R (p::l)=e5C p++e5R l:=rfl
theorem dQ:∀{l:List Ev},(e5R l).length=l.length*5
 |[]=>rfl
 |p::l=>by rw[kw,List.length_append,dQ (l:=l),List.length_cons];show 5+_=_;omega
theorem nN:∀{l:List Ev}{j:Nat}(_h:j<l.length),(e5R l).drop (j*5)=e5C (evG l j)++(e5R l).drop ((j+1)*5)
 |[],j,h=>by simp at h
 |p::l,0,_=>by rw[kw];rfl
 | p::l,j+1,h=>by
  have ih:=nN (l:=l) (j:=j) (by simpa using h)
  rw[kw,show (j+1)*5=(e5C p).length+j*5 by show _=5+_;omega,show (j+1+1)*5=(e5C p).length+(j+1)*5 by show _=5+_;omega,mQ,mQ,ih]
  rfl
theorem jX {l:List Ev}{j:Nat}(h:j<l.length):((e5R l).drop (j*5+1)).take 2=[.int .i64 (evG l j).t,.int .i64 (evG l j).g]:=by
 rw[<-List.drop_drop,nN h];rfl
theorem iJ {l:List Ev}{j:Nat}(h:j<l.length):(e5R l)[j*5+3]? = some (.bool (evG l j).st):=by
 have k:((e5R l).drop (j*5))[3]? = some (.bool (evG l j).st):=by rw[nN h];rfl
 rw[List.getElem?_drop] at k;exact k
theorem gO {l:List Ev}{j:Nat}{v:AV}(h:j<l.length)(hs:(evG l j).s=v):(e5R l)[j*5+4]? = some v:=by
 have k:((e5R l).drop (j*5))[4]? = some (evG l j).s:=by rw[nN h];rfl
 rw[List.getElem?_drop] at k;rw[<-hs];exact k
def fwS (l:List Ev):Nat->Int
 |0=>0
 |i+1=>fwS l i+(if 40<(((evG l i).sc.length:Nat):Int) then 40 else (((evG l i).sc.length:Nat):Int))
theorem fwS_nn (l:List Ev):∀i:Nat,0<=fwS l i/\fwS l i<=40*(i:Int)
 |0=>by simp[fwS]
 |i+1=>by have:=fwS_nn l i;rw[fwS];split<;>omega
theorem fwS_le (l:List Ev){i:Nat}:∀{n:Nat},i<n->(if 40<(((evG l i).sc.length:Nat):Int) then 40 else (((evG l i).sc.length:Nat):Int))<=fwS l n
 | n+1,h=>by
  rw[fwS]
  have hn:=fwS_nn l n
  rcases Nat.lt_or_ge i n with q|q
  ·have:=fwS_le l q
   split<;>split at this<;>omega
  obtain rfl:i=n:=by omega
  split<;>omega
def fewB (xs:List Int) (l:List T6) (e:List Ev):Bool:=decide ((xs.length:Int)<=64)&&(smlB l&&(decide ((e.length:Int)<=5)&&decide (fwS e (min e.length 20)<=8)))
theorem fewB_ok {xs:List Int}{l:List T6}{e:List Ev}(h:fewB xs l e=true):xs.length<=64/\l.length<=4/\e.length<=5/\∀i:Nat,i<e.length->(evG e i).sc.length<=8:=by
 unfold fewB at h
 simp only[Bool.and_eq_true,decide_eq_true_eq] at h
 refine⟨by omega,smlB_len h.2.1,by omega,fun i hi=>?_⟩
 have k:=fwS_le e (i:=i) (n:=min e.length 20) (by omega)
 split at k<;>omega
theorem rows_e5 {P:Program}{H:ac}{n:Nat}{ti tb ts te u v:TypeId}(hi:P.underlying ti=some (.int .i64))(hb:P.underlying tb=some .bool)(hs:P.underlying ts=some (.slice te))(hu:P.underlying u=some (.int .i64))(hv:P.underlying v=some (.int .i64))(hl:bX P (n+1) te=some [u,v]):∀rows:List (List AV),(∀r:List AV,r∈rows->RTy P H (n+2) [ti,ti,ti,tb,ts] r)->∃l:List Ev,l.length=rows.length/\rows.flatten=e5R l/\evOk H l
 |[],_=>⟨[],rfl,rfl,fun e h=>by cases h⟩
 | r::rows,h=>by
  obtain⟨l,q1,q2,q3⟩:=rows_e5 hi hb hs hu hv hl rows fun r' hr=>h r' (by simp[hr])
  have hr:=h r (by simp)
  obtain⟨y1,r',rfl,hy1,hr⟩:=hr.cons
  obtain⟨y2,r',rfl,hy2,hr⟩:=hr.cons
  obtain⟨y3,r',rfl,hy3,hr⟩:=hr.cons
  obtain⟨y4,r',rfl,hy4,hr⟩:=hr.cons
  obtain⟨y5,r',rfl,hy5,hr⟩:=hr.cons
  obtain rfl:=hr.nil
  obtain⟨z1,rfl,-⟩:=hy1.int hi
  obtain⟨z2,rfl,-⟩:=hy2.int hi
  obtain⟨z3,rfl,-⟩:=hy3.int hi
  obtain⟨z4,rfl⟩:=hy4.bool hb
  obtain⟨sc,k1,k2,-⟩:=hy5.pairsU hs hu hv hl
  refine⟨⟨z1,z2,z3,z4,y5,sc,0,0,0⟩::l,by simp[q1],by rw[kw,List.flatten_cons,q2];rfl,fun e he=>?_⟩
  rcases List.mem_cons.1 he with rfl|he
  ·exact⟨k1,k2⟩
  exact q3 e he
theorem LTy.e5s {P:Program}{H:ac}{n:Nat}{t e ti tb ts te u v:TypeId}{x:AV}(ht:P.underlying t=some (.slice e))(hle:bX P (n+2) e=some [ti,ti,ti,tb,ts])(hi:P.underlying ti=some (.int .i64))(hb:P.underlying tb=some .bool)(hs:P.underlying ts=some (.slice te))(hu:P.underlying u=some (.int .i64))(hv:P.underlying v=some (.int .i64))(hl:bX P (n+1) te=some [u,v])(h:LTy P H (n+3) t x):
  ∃l:List Ev,Sl H 5 x l.length (e5R l)/\l.length<=maxLen/\evOk H l:=by
 obtain⟨b,rows,rfl,k1,k2,k3⟩:=h.slice ht hle
 obtain⟨l,q1,q2,q3⟩:=rows_e5 hi hb hs hu hv hl rows k3
 exact⟨l,⟨b,false,none,by rw[q1],by rw[<-q2];exact k2⟩,by omega,q3⟩
def laM:List T6:=[(42,32,42,32,0,1),(43,32,43,32,0,1),(44,32,44,32,0,1),(45,32,45,32,0,1),(46,32,46,32,0,1),(47,32,47,32,0,1),(48,32,48,32,0,1),(49,32,49,32,0,1),(50,32,50,32,0,1)]
theorem lb_im:imA laL 0 (stF false 10) 0 0 0=true:=by decide +kernel
theorem lb_is:imS laL 0 (stF false 10) 0 0 0 laL.length=laM:=by decide +kernel
theorem lb_r:aN 4 1 [1,1,1,2] laM [(0,3)] 4 32=[]:=by decide +kernel
theorem lb_s:bk laM=true:=by decide +kernel
theorem lb_c1:bL 0 10=true:=by decide +kernel
theorem lb_c2:bL 0 0=true:=by decide +kernel
theorem lb_h:hulN laM (laM.length-1)=(42,32,50,32,0,1):=by decide +kernel
theorem lb_m:lsB [(100,32,100,32,0,1)]=true:=by decide +kernel
theorem lb_v:volS [(100,32,100,32,0,1)] ([(100,32,100,32,0,1)]:List T6).length=1:=by decide +kernel
theorem sml25_c (H:ac)(s:AV)(l:List T6)(hs:Sl H 6 s l.length (r6 l))(hl:l.length<=9223372036854775807):zC 42 [s] H (.bool (smlB l)) H:=by
 obtain⟨bs,os,cs,rfl,hbs,hbls,hb0s⟩:=zA1 hs
 refine AcT true func42 ?_;intro hbel Q hQ
 have G1:=jn @hbs @hb0s
 refine aa G1 ?_
 refine glp (fun k F Hx=>∃i:Nat,i+k=l.length/\(∀j:Nat,j<i->smlC (g6 l j)=true)/\F=[(0,.sl (some (bs,0)) l.length cs),(3,iV (i:Int))]/\H=Hx) (l.length) ?_ ?_
 ·refine⟨_,_,_,⟨0,by omega,fun j h=>by omega,rfl,rfl⟩,Abs.by0 hbel ?_⟩
  exact ar
 rintro k0 F Hx ⟨i,hm0,hall,rfl,rfl⟩ J0 hJ0
 refine rgs G1 (fun h1 h1d G2=>?_) (fun h1 h1d G11=>?_)
 ·have hlt:i<l.length:=by omega
  refine rcs G2 (fun h2 h2d _=>?_) (fun h2 h2d G10=>?_)
  ·have hi20:i<20:=by omega
   have q3:=k9 (l:=l) (j:=i) (by omega)
   have G3:=jn h2 (jn h2d (jn @bo (jn q3 G2)))
   refine rgs G3 (fun h4 h4d _=>?_) (fun h4 h4d G9=>?_)
   ·have ha1:=decide_eq_false (p:=8<g66 l i) (by omega)
    have q5:=iS (l:=l) (j:=i) (by omega)
    have q6:=g4 (l:=l) (j:=i) (by omega)
    have G4:=jn h4 (jn h4d (jn q5 (jn q6 G3)))
    refine rgs G4 (fun h7 h7d _=>?_) (fun h7 h7d G8=>?_)
    ·have ha2:=decide_eq_false (p:=200<IntKind.i64.wrap (g63 l i-g61 l i)) (by omega)
     have q8:=iT (l:=l) (j:=i) (by omega)
     have q9:=iR (l:=l) (j:=i) (by omega)
     have G5:=jn h7 (jn h7d (jn q8 (jn q9 G4)))
     refine rcs G5 (fun h10 h10d G6=>?_) (fun h10 h10d G7=>?_)
     ·have hfinS:smlB l=false:=smlB_n hlt hi20 (by
       have e:smlC (g6 l i)=(!(decide (8<g66 l i))&&(!(decide (200<IntKind.i64.wrap (g63 l i-g61 l i)))&&!(decide (200<IntKind.i64.wrap (g64 l i-g62 l i))))):=rfl
       rw[e,decide_eq_true h10d];simp)
      exact eS G6 hQ hbel (.bool false) results42 ⟨by rw[hfinS],rfl⟩
     have ha3:=decide_eq_false (p:=200<IntKind.i64.wrap (g64 l i-g62 l i)) (by omega)
     have hsi:smlC (g6 l i)=true:=by
      have e:smlC (g6 l i)=(!(decide (8<g66 l i))&&(!(decide (200<IntKind.i64.wrap (g63 l i-g61 l i)))&&!(decide (200<IntKind.i64.wrap (g64 l i-g62 l i))))):=rfl
      rw[e,ha1,ha2,ha3];rfl
     refine aa G7 ?_
     refine hJ0 _ _ ⟨k0-1,by omega,_,_,_,⟨i+1,by omega,fun j hj=>by
           rcases Nat.lt_or_ge j i with q|q
           ·exact hall j q
           rw[show j=i by omega];exact hsi,rfl,rfl⟩,Abs.by0 hbel ?_⟩
     exact ar
    have hfinS:smlB l=false:=smlB_n hlt hi20 (by
     have e:smlC (g6 l i)=(!(decide (8<g66 l i))&&(!(decide (200<IntKind.i64.wrap (g63 l i-g61 l i)))&&!(decide (200<IntKind.i64.wrap (g64 l i-g62 l i))))):=rfl
     rw[e,decide_eq_true h7d];simp)
    exact eS G8 hQ hbel (.bool false) results42 ⟨by rw[hfinS],rfl⟩
   have hfinS:smlB l=false:=smlB_n hlt hi20 (by
    have e:smlC (g6 l i)=(!(decide (8<g66 l i))&&(!(decide (200<IntKind.i64.wrap (g63 l i-g61 l i)))&&!(decide (200<IntKind.i64.wrap (g64 l i-g62 l i))))):=rfl
    rw[e,decide_eq_true h4d];simp)
   exact eS G9 hQ hbel (.bool false) results42 ⟨by rw[hfinS],rfl⟩
  have hfinS:=smlB_y (l:=l) (fun j h1 h2=>hall j (by omega))
  exact eS G10 hQ hbel (.bool (decide ((l.length:Int)<=4))) results42 ⟨by rw[hfinS],rfl⟩
 have hfinS:=smlB_y (l:=l) (fun j h1 h2=>hall j (by omega))
 exact eS G11 hQ hbel (.bool (decide ((l.length:Int)<=4))) results42 ⟨by rw[hfinS],rfl⟩
theorem few_c (H:ac)(W Hh:Int)(pp:AV)(xs:List Int)(s:AV)(l:List T6)(ev:AV)(evs:List Ev)(hpp:zI H pp xs)(hs:Sl H 6 s l.length (r6 l))(hev:Sl H 5 ev evs.length (e5R evs))(hl:l.length<=9223372036854775807)(hel:evs.length<=9223372036854775807)(hvo:evOk H evs):zC 18 [.agg [iV W,iV Hh,pp],s,ev] H (.bool (fewB xs l evs)) H:=by
 obtain⟨bpp,opp,cpp,rfl,hbpp,hblpp,hb0pp⟩:=zA1 hpp
 obtain⟨bs,os,cs,rfl,hbs,hbls,hb0s⟩:=zA1 hs
 obtain⟨bev,oev,cev,rfl,hbev,hblev,hb0ev⟩:=zA1 hev
 refine AcT true func18 ?_;intro hbel Q hQ
 have G12:=jn @hbpp (jn @hb0pp (jn @hbs (jn @hb0s (jn @hbev @hb0ev))))
 refine aa G12 ?_
 refine glp (fun k F Hx=>∃i:Nat,i+k=evs.length/\i<=20/\F=[(1,.sl (some (bs,0)) l.length cs),(2,.sl (some (bev,0)) evs.length cev),(3,.ptr (some (H.length,0))),(7,iV (fwS evs i)),(8,iV (i:Int))]/\Hx=H++[.cells true 0 [iV W,iV Hh,.sl (some (bpp,0)) xs.length cpp]]) (evs.length) ?_ ?_
 ·refine⟨_,_,_,⟨0,by omega,by omega,rfl,rfl⟩,bS hbel [0] (aF @fwS.eq_1)⟩
 rintro k0 F Hx ⟨i,hm0,hi2,rfl,rfl⟩ J0 hJ0
 have hfn:=fwS_nn evs i
 refine rgs G12 (fun h1 h1d G13=>?_) (fun h1 h1d G22=>?_)
 ·have hlt:i<evs.length:=by omega
  obtain⟨bq,oq,cq,hsq,hbq⟩:=hvo.at hlt
  have hblq:=getElem?_lt hbq
  have hb0q:=fun l'=>ae (l:=l') hbq
  have hscl:=hvo.len hlt
  refine rcs G13 (fun h2 h2d _=>?_) (fun h2 h2d G15=>?_)
  ·have hi20:i<20:=by omega
   have q3:=gO (l:=evs) (j:=i) (by omega) hsq
   have G14:=jn h2 (jn h2d (jn @dQ (jn q3 G13)))
   refine aa G14 ?_
   refine hJ0 _ _ ⟨k0-1,by omega,_,_,_,⟨i+1,by omega,by omega,rfl,rfl⟩,bS hbel [0] (aF @fwS.eq_2)⟩
  have hfinI:i=min evs.length 20:=by omega
  refine rgs G15 (fun h4 h4d G16=>?_) (fun h4 h4d G21=>?_)
  ·refine aa G16 ?_
   refine cv (sml25_c _ _ l (zA2 hb0s hbs) (by omega)) ?_
   refine rgs G16 (fun h5 h5d G17=>?_) (fun h5 h5d G20=>?_)
   ·refine rgs G17 (fun h6 h6d G18=>?_) (fun h6 h6d G19=>?_)
    ·exact eR G18 hQ hbel (.bool (decide ((fwS evs i)<=8))) results18 ⟨by unfold fewB;rw[<-hfinI];simp only[h1d,h2d,h4d,h5d,h6d,hfinI,h1,h2,h4,h5,h6,hfinI,Bool.true_and,Bool.and_true,Bool.false_and,Bool.and_false,decide_true,decide_false],rfl⟩
    exact eR G19 hQ hbel (.bool false) results18 ⟨by unfold fewB;rw[<-hfinI];simp only[h1d,h2d,h4d,h5d,h6d,hfinI,h1,h2,h4,h5,h6,hfinI,Bool.true_and,Bool.and_true,Bool.false_and,Bool.and_false,decide_true,decide_false],rfl⟩
   exact eR G20 hQ hbel (.bool false) results18 ⟨by unfold fewB;rw[<-hfinI];simp only[h1d,h2d,h4d,h5d,hfinI,h1,h2,h4,h5,hfinI,Bool.true_and,Bool.and_true,Bool.false_and,Bool.and_false,decide_true,decide_false],rfl⟩
  exact eR G21 hQ hbel (.bool false) results18 ⟨by unfold fewB;rw[<-hfinI];simp only[h1d,h2d,h4d,hfinI,h1,h2,h4,hfinI,Bool.true_and,Bool.and_true,Bool.false_and,Bool.and_false,decide_true,decide_false],rfl⟩
 have hfinI:i=min evs.length 20:=by omega
 refine rgs G22 (fun h7 h7d G23=>?_) (fun h7 h7d G28=>?_)
 ·refine aa G23 ?_
  refine cv (sml25_c _ _ l (zA2 hb0s hbs) (by omega)) ?_
  refine rgs G23 (fun h8 h8d G24=>?_) (fun h8 h8d G27=>?_)
  ·refine rgs G24 (fun h9 h9d G25=>?_) (fun h9 h9d G26=>?_)
   ·exact eR G25 hQ hbel (.bool (decide ((fwS evs i)<=8))) results18 ⟨by unfold fewB;rw[<-hfinI];simp only[h1d,h7d,h8d,h9d,hfinI,h1,h7,h8,h9,hfinI,Bool.true_and,Bool.and_true,Bool.false_and,Bool.and_false,decide_true,decide_false],rfl⟩
   exact eR G26 hQ hbel (.bool false) results18 ⟨by unfold fewB;rw[<-hfinI];simp only[h1d,h7d,h8d,h9d,hfinI,h1,h7,h8,h9,hfinI,Bool.true_and,Bool.and_true,Bool.false_and,Bool.and_false,decide_true,decide_false],rfl⟩
  exact eR G27 hQ hbel (.bool false) results18 ⟨by unfold fewB;rw[<-hfinI];simp only[h1d,h7d,h8d,hfinI,h1,h7,h8,hfinI,Bool.true_and,Bool.and_true,Bool.false_and,Bool.and_false,decide_true,decide_false],rfl⟩
 exact eR G28 hQ hbel (.bool false) results18 ⟨by unfold fewB;rw[<-hfinI];simp only[h1d,h7d,hfinI,h1,h7,hfinI,Bool.true_and,Bool.and_true,Bool.false_and,Bool.and_false,decide_true,decide_false],rfl⟩
theorem rem_n2 (a:Nat):Int.tmod (a:Int) 2=((a%2:Nat):Int):=rfl
theorem rem_n4 (a:Nat):Int.tmod (a:Int) 4=((a%4:Nat):Int):=rfl
theorem bxs_c (H:ac)(s:AV)(l:List T6)(q:AV)(hs:Sl H 6 s l.length (r6 l))(hq:Sl H 6 q l.length (r6 l))(hl:l.length<=1000000000):zC 11 [s,q] H (.bool true) H:=by
 obtain⟨bs,os,cs,rfl,hbs,hbls,hb0s⟩:=zA1 hs
 obtain⟨bq,oq,cq,rfl,hbq,hblq,hb0q⟩:=zA1 hq
 refine AcT true func11 ?_;intro hbel Q hQ
 have G2:=jn @hbs (jn @hb0s (jn @hbq @hb0q))
 refine aa G2 ?_
 refine glp (fun k F Hx=>∃i:Nat,i+k=l.length/\F=[(0,.sl (some (bs,0)) l.length cs),(1,.sl (some (bq,0)) l.length cq),(5,iV (i:Int))]/\H=Hx) (l.length) ?_ ?_
 ·refine⟨_,_,_,⟨0,by omega,rfl,rfl⟩,Abs.by0 hbel ?_⟩
  exact ar
 rintro k0 F Hx ⟨i,hm0,rfl,rfl⟩ J0 hJ0
 refine rcs G2 (fun h1 h1d _=>?_) (fun h1 h1d G4=>?_)
 ·have hlt:i<l.length:=by omega
  have q2:=bD (l:=l) (j:=i) (by omega)
  have q3:=bD (l:=l) (j:=i) (by omega)
  have G3:=jn h1 (jn h1d (jn @bo (jn q2 (jn q3 G2))))
  refine aa G3 ?_
  refine hJ0 _ _ ⟨k0-1,by omega,_,_,_,⟨i+1,by omega,rfl,rfl⟩,Abs.by0 hbel ?_⟩
  exact ar
 exact eS G4 hQ hbel (.bool true) results11 ⟨rfl,rfl⟩
theorem bxs_e (H:ac)(s:AV)(l:List T6)(q:AV)(m:List T6)(he:l=m)(hs:Sl H 6 s l.length (r6 l))(hq:Sl H 6 q m.length (r6 m))(hl:l.length<=1000000000):zC 11 [s,q] H (.bool true) H:=by
 subst he;exact bxs_c H s l q hs hq hl
theorem lcl_n (H:ac): zC 23 [.ptr none] H (.ptr none) H:=by
 (refine aR func23 _ rfl (Nat.le_of_ble_eq_true (by kernel_rfl)) rfl ?_;intro hbel Q hQ hQ' c hc;unfold Tryz.f23 at hc;simp only[Option.some.injEq] at hc;subst hc;clear hQ')
 refine zQF hQ fun Q1 hn1 hQ1 he1=>?_
 have G5:=jn @Option.isNone_none.{0} trivial
 refine aa G5 ?_
 refine hn1 _ _ (zQF hQ fun Q2 hn2 hQ2 he2=>?_)
 exact eS G5 hQ2 hbel (.ptr none) results23 ⟨rfl,rfl⟩
theorem lls_n (H:ac): zC 24 [.ptr none] H (.bool false) H:=by
 refine AcT true func24 ?_;intro hbel Q hQ
 have G6:=jn @Option.isNone_none.{0} trivial
 exact eS G6 hQ hbel (.bool false) results24 ⟨rfl,rfl⟩
theorem lst_n (H:ac): zC 12 [.ptr none] H (.sl none 0 (some 0)) H:=by
 refine AcT true func12 ?_;intro hbel Q hQ
 have G7:=jn @Option.isNone_none.{0} trivial
 exact eS G7 hQ hbel (.sl none 0 (some 0)) results12 ⟨rfl,rfl⟩
theorem lvl_n (H:ac): zC 25 [.ptr none] H (iV 0) H:=by
 refine AcT true func25 ?_;intro hbel Q hQ
 have G8:=jn @Option.isNone_none.{0} trivial
 refine aa G8 ?_
 refine cvr G8 (lst_n _) ?_
 refine glp (fun k F Hx=>∃z:Unit,k=0/\F=[(3,iV 0),(7,.sl none 0 (some 0)),(8,iV 0),(9,iV 0)]/\H=Hx) (0) ?_ ?_
 ·refine⟨_,_,_,⟨(),by omega,rfl,rfl⟩,Abs.by0 hbel ?_⟩
  exact ar
 rintro k0 F Hx ⟨z,hm0,rfl,rfl⟩ J0 hJ0
 exact eS G8 hQ hbel (iV 0) results25 ⟨rfl,rfl⟩
theorem lse_n (H:ac): zC 21 [.ptr none,.sl none 0 (some 0)] H (iV 1) H:=by
 (refine aR func21 _ rfl (Nat.le_of_ble_eq_true (by kernel_rfl)) rfl ?_;intro hbel Q hQ hQ' c hc;unfold Tryz.f21 at hc;simp only[Option.some.injEq] at hc;subst hc;clear hQ')
 refine zQT hQ fun Q3 hn3 hQ3 he3=>?_
 have G9:=jn @Option.isNone_none.{0} trivial
 refine aa G9 ?_
 refine hn3 _ _ (zQT hQ fun Q4 hn4 hQ4 he4=>?_)
 exact eS G9 hQ4 hbel (iV 1) results21 ⟨rfl,rfl⟩
theorem lW (H:ac)(x0 y0 x1 y1 f c:Int):zC 66 [.agg [iV x0,iV y0,iV x1,iV y1,iV f,iV c]] H (iV (cY (x0,y0,x1,y1,f,c))) H:=by
 refine AcT true func66 ?_;intro hbel Q hQ
 refine aC ?_
 refine cv (iq _ _ _ _ _ f c) ?_
 refine aC ?_
 refine cn (fun h1=>?_) (fun h1=>?_)
 ·have h1d:=bsT h1
  have hfinV:cY (x0,y0,x1,y1,f,c)=0:=if_neg (fun k=>absurd ((show bxB x0 y0 x1 y1 f c=true from k).symm.trans h1d) (by decide))
  have G1:=jn h1 @h1d
  exact eR G1 hQ hbel (iV 0) results66 ⟨by rw[hfinV],rfl⟩
 have h1d:=bsT h1
 have hbb:=bB.1 h1d
 have haa:=bh.1 hbb.2.2
 have m1:=aP (a:=x1-x0+1) (b:=y1-y0+1) (A:=2097153) (B:=2097153) (by omega) (by omega)
 have m2:=aP (a:=(x1-x0+1)*(y1-y0+1)) (b:=c) (A:=4398050705409) (B:=256) (by omega) (by omega)
 have hfinV:cY (x0,y0,x1,y1,f,c)=(x1-x0+1)*(y1-y0+1)*c:=if_pos h1d
 have G2:=jn h1 @h1d
 exact eR G2 hQ hbel (iV ((((x1-x0)+1)*((y1-y0)+1))*c)) results66 ⟨by rw[hfinV],rfl⟩
theorem rgvol_c (H:ac)(W Hh:Int)(pp:AV)(xs:List Int)(s:AV)(l:List T6)(tu le sl ra:Int)(lost:Bool)(bz:Nat)(hpp:zI H pp xs)(hs:Sl H 6 s l.length (r6 l))(hz:∃o,H[bz]? = some (.cells o 0 [iV W,iV Hh,pp,s,iV tu,iV le,iV sl,iV ra,.bool lost]))(hl16:l.length<=16)(hl0:0<l.length):zC 40 [.ptr (some (bz,0))] H (iV (volS l l.length)) H:=by
 obtain⟨bpp,opp,cpp,rfl,hbpp,hblpp,hb0pp⟩:=zA1 hpp
 obtain⟨bs,os,cs,rfl,hbs,hbls,hb0s⟩:=zA1 hs
 obtain⟨oz,hbz⟩:=hz
 have hblz:=getElem?_lt hbz
 have hb0z:=fun l=>ae (l:=l) hbz
 have hz1:(l.length==0)=false:=beq_eq_false_iff_ne.2 (by omega)
 have hz2:decide (0<l.length)=true:=decide_eq_true (by omega)
 refine AcT false func40 ?_;intro hbel Q hQ
 have G3:=jn @hbpp (jn @hb0pp (jn @hbs (jn @hb0s (jn @hbz (jn @hb0z (jn @hz1 (jn @hz2 @Option.isNone_some.{0})))))))
 refine aa G3 ?_
 refine cvr G3 (rgset_c _ W Hh (.sl (some (bpp,0)) xs.length cpp) xs (.sl (some (bs,0)) l.length cs) l tu le sl ra lost _ (zA2 hb0pp hbpp) (zA2 hb0s hbs) ⟨_,by exact hbz⟩ (by omega) (by assumption)) ?_
 refine glp (fun k F Hx=>∃i:Nat,i+k=l.length/\F=[(3,iV (volS l i)),(4,.sl (some (H.length,0)) l.length none),(5,iV (i:Int))]/\Hx=H++[.cells true 6 (r6 l)]) (l.length) ?_ ?_
 ·refine⟨_,_,_,⟨0,by omega,rfl,rfl⟩,bS hbel [0] (al (jn @volS.eq_1 (jn @ap (jn @au (jn @aA @ax)))))⟩
 rintro k0 F Hx ⟨i,hm0,rfl,rfl⟩ J0 hJ0
 have G4:=jn @bo (jn @cQ G3)
 refine rcs G4 (fun h1 h1d _=>?_) (fun h1 h1d G6=>?_)
 ·have hlt:i<l.length:=by omega
  have hvb:=oF (g61 l i,g62 l i,g63 l i,g64 l i,g65 l i,g66 l i)
  have hvs:=oG l i
  have hve:cY (g61 l i,g62 l i,g63 l i,g64 l i,g65 l i,g66 l i)=cY (g6 l i):=rfl
  have q2:=bD (l:=l) (j:=i) (by omega)
  have G5:=jn h1 (jn h1d (jn q2 G4))
  refine aa G5 ?_
  refine cvr G5 (lW _ _ _ _ _ _ _) ?_
  refine hJ0 _ _ ⟨k0-1,by omega,_,_,_,⟨i+1,by omega,rfl,rfl⟩,bS hbel [0] (al (jn @volS.eq_2 (jn @hve (jn @ap (jn @au (jn @aA @ax))))))⟩
 obtain rfl:i=l.length:=by omega
 exact eR G6 hQ hbel (iV (volS l l.length)) results40 ⟨rfl,rfl⟩
theorem rgbox_c (H:ac)(W Hh:Int)(pp:AV)(xs:List Int)(s:AV)(l:List T6)(tu le sl ra:Int)(lost:Bool)(bz:Nat)(hpp:zI H pp xs)(hs:Sl H 6 s l.length (r6 l))(hz:∃o,H[bz]? = some (.cells o 0 [iV W,iV Hh,pp,s,iV tu,iV le,iV sl,iV ra,.bool lost]))(hS:bk l=true)(hl0:0<l.length):zC 36 [.ptr (some (bz,0))] H (.tup [.agg [iV ((hulN l (l.length-1)).1),iV ((hulN l (l.length-1)).2.1),iV ((hulN l (l.length-1)).2.2.1),iV ((hulN l (l.length-1)).2.2.2.1),iV ((hulN l (l.length-1)).2.2.2.2.1),iV ((hulN l (l.length-1)).2.2.2.2.2)],.bool true]) H:=by
 obtain⟨bpp,opp,cpp,rfl,hbpp,hblpp,hb0pp⟩:=zA1 hpp
 obtain⟨bs,os,cs,rfl,hbs,hbls,hb0s⟩:=zA1 hs
 obtain⟨oz,hbz⟩:=hz
 have hblz:=getElem?_lt hbz
 have hb0z:=fun l=>ae (l:=l) hbz
 have hSS:=bi.1 hS
 have hl16:=hSS.1
 refine AcT true func36 ?_;intro hbel Q hQ
 have q1:=qs (l:=l) (by omega)
 have G7:=jn @hbpp (jn @hb0pp (jn @hbs (jn @hb0s (jn @hbz (jn @hb0z (jn @bo (jn q1 @Option.isNone_some.{0})))))))
 refine aa G7 ?_
 refine glp (fun k F Hx=>∃i:Nat,i+k=l.length-1/\F=[(0,.ptr (some (bz,0))),(2,.ptr (some (H.length,0))),(4,.ptr (some (H.length+1,0))),(5,iV ((i+1:Nat):Int))]/\Hx=H++[.cells true 0 [iV 0,iV 0,iV 0,iV 0,iV 0,iV 0],.cells true 0 [iV ((hulN l i).1),iV ((hulN l i).2.1),iV ((hulN l i).2.2.1),iV ((hulN l i).2.2.2.1),iV ((hulN l i).2.2.2.2.1),iV ((hulN l i).2.2.2.2.2)]]) (l.length-1) ?_ ?_
 ·refine⟨_,_,_,⟨0,by omega,rfl,rfl⟩,bS hbel [0,1] (aF (jn @hulN.eq_1 (jn @Nat.zero_add @Int.natCast_one)))⟩
 rintro k0 F Hx ⟨i,hm0,rfl,rfl⟩ J0 hJ0
 refine rcs G7 (fun h2 h2d _=>?_) (fun h2 h2d G9=>?_)
 ·have hlt:i+1<l.length:=by omega
  have hb1:bxB ((hulN l i).1) ((hulN l i).2.1) ((hulN l i).2.2.1) ((hulN l i).2.2.2.1) ((hulN l i).2.2.2.2.1) ((hulN l i).2.2.2.2.2)=true:=oI hSS.2 i (by omega)
  have hb2:bxB (g61 l (i+1)) (g62 l (i+1)) (g63 l (i+1)) (g64 l (i+1)) (g65 l (i+1)) (g66 l (i+1))=true:=hSS.2 _ (bY hlt)
  have hs0:(hulN l (i+1)).1=mnI ((hulN l i).1) (g61 l (i+1)):=rfl
  have hs1:(hulN l (i+1)).2.1=mnI ((hulN l i).2.1) (g62 l (i+1)):=rfl
  have hs2:(hulN l (i+1)).2.2.1=mxI ((hulN l i).2.2.1) (g63 l (i+1)):=rfl
  have hs3:(hulN l (i+1)).2.2.2.1=mxI ((hulN l i).2.2.2.1) (g64 l (i+1)):=rfl
  have hs4:(hulN l (i+1)).2.2.2.2.1=(bM ((hulN l i).2.2.2.2.1) ((hulN l i).2.2.2.2.2) (g65 l (i+1)) (g66 l (i+1))).1:=rfl
  have hs5:(hulN l (i+1)).2.2.2.2.2=(bM ((hulN l i).2.2.2.2.1) ((hulN l i).2.2.2.2.2) (g65 l (i+1)) (g66 l (i+1))).2:=rfl
  have q3:=bD (l:=l) (j:=i+1) (by omega)
  have G8:=jn h2 (jn h2d (jn q3 G7))
  refine aa G8 ?_
  refine cdr G8 (mC _ _ _ _ _ _ _ _ _ _ _ _ _ (by assumption) (by assumption)) ?_
  refine hJ0 _ _ ⟨k0-1,by omega,_,_,_,⟨i+1,by omega,rfl,rfl⟩,bS hbel [0,1] (aF (jn @hs0 (jn @hs1 (jn @hs2 (jn @hs3 (jn @hs4 (jn @hs5 (jn @Int.natCast_add @Int.natCast_one))))))))⟩
 obtain rfl:i=l.length-1:=by omega
 exact eR G9 hQ hbel (.tup [.agg [iV ((hulN l (l.length-1)).1),iV ((hulN l (l.length-1)).2.1),iV ((hulN l (l.length-1)).2.2.1),iV ((hulN l (l.length-1)).2.2.2.1),iV ((hulN l (l.length-1)).2.2.2.2.1),iV ((hulN l (l.length-1)).2.2.2.2.2)],.bool true]) results36 ⟨rfl,rfl⟩
theorem rgl_n (H:ac): zC 39 [.ptr none] H (.bool false) H:=by
 refine AcT true func39 ?_;intro hbel Q hQ
 have G10:=jn @Option.isNone_none.{0} trivial
 exact eS G10 hQ hbel (.bool false) results39 ⟨rfl,rfl⟩
theorem rgs_n (H:ac): zC 37 [.ptr none] H (.sl none 0 (some 0)) H:=by
 refine AcT true func37 ?_;intro hbel Q hQ
 have G11:=jn @Option.isNone_none.{0} trivial
 exact eS G11 hQ hbel (.sl none 0 (some 0)) results37 ⟨rfl,rfl⟩
theorem rgp_n (H:ac): zC 38 [.ptr none] H (.agg [iV 0,iV 0,.sl none 0 (some 0)]) H:=by
 refine AcT true func38 ?_;intro hbel Q hQ
 have G12:=jn @Option.isNone_none.{0} trivial
 exact eR G12 hQ hbel (.agg [iV 0,iV 0,.sl none 0 (some 0)]) results38 ⟨rfl,rfl⟩
theorem rgb_n (H:ac): zC 36 [.ptr none] H (.tup [.agg [iV 0,iV 0,iV 0,iV 0,iV 0,iV 0],.bool false]) H:=by
 refine AcT true func36 ?_;intro hbel Q hQ
 have G13:=jn @Option.isNone_none.{0} trivial
 exact eR G13 hQ hbel (.tup [.agg [iV 0,iV 0,iV 0,iV 0,iV 0,iV 0],.bool false]) results36 ⟨rfl,rfl⟩
theorem rgv_n (H:ac): zC 40 [.ptr none] H (iV 0) H:=by
 refine AcT true func40 ?_;intro hbel Q hQ
 have G14:=jn @Option.isNone_none.{0} trivial
 refine aa G14 ?_
 refine cvr G14 (rgs_n _) ?_
 refine glp (fun k F Hx=>∃z:Unit,k=0/\F=[(3,iV 0),(4,.sl none 0 (some 0)),(5,iV 0)]/\H=Hx) (0) ?_ ?_
 ·refine⟨_,_,_,⟨(),by omega,rfl,rfl⟩,Abs.by0 hbel ?_⟩
  exact ar
 rintro k0 F Hx ⟨z,hm0,rfl,rfl⟩ J0 hJ0
 exact eS G14 hQ hbel (iV 0) results40 ⟨rfl,rfl⟩
theorem lpl_n (H:ac): zC 14 [.ptr none] H (.agg [iV 0,iV 0,.sl none 0 (some 0)]) H:=by
 refine AcT true func14 ?_;intro hbel Q hQ
 have G15:=jn @Option.isNone_none.{0} trivial
 exact eR G15 hQ hbel (.agg [iV 0,iV 0,.sl none 0 (some 0)]) results14 ⟨rfl,rfl⟩
theorem lbx_n (H:ac): zC 26 [.ptr none] H (.tup [.agg [iV 0,iV 0,iV 0,iV 0,iV 0,iV 0],.bool false]) H:=by
 refine AcT true func26 ?_;intro hbel Q hQ
 have G16:=jn @Option.isNone_none.{0} trivial
 exact eR G16 hQ hbel (.tup [.agg [iV 0,iV 0,iV 0,iV 0,iV 0,iV 0],.bool false]) results26 ⟨rfl,rfl⟩
theorem boxz_c (H:ac): zC 11 [.sl none 0 (some 0),.sl none 0 (some 0)] H (.bool true) H:=by
 refine AcT true func11 ?_;intro hbel Q hQ
 have G20:=jn @Option.isNone_none.{0} trivial
 refine aa G20 ?_
 refine glp (fun k F Hx=>∃z:Unit,k=0/\F=[(0,.sl none 0 (some 0)),(1,.sl none 0 (some 0)),(5,iV 0)]/\H=Hx) (0) ?_ ?_
 ·refine⟨_,_,_,⟨(),by omega,rfl,rfl⟩,Abs.by0 hbel ?_⟩
  exact ar
 rintro k0 F Hx ⟨z,hm0,rfl,rfl⟩ J0 hJ0
 exact eS G20 hQ hbel (.bool true) results11 ⟨rfl,rfl⟩
theorem planz_c (H:ac):zC 13 [.agg [iV 0,iV 0,.sl none 0 (some 0)],.agg [iV 0,iV 0,.sl none 0 (some 0)]] H (.bool true) H:=by
 have hs:Sl (H++[ABlk.cells false 1 []]) 1 (.sl (some (H.length,0)) 0 none) ([]:List Int).length (ints .u8 []):=⟨H.length,false,none,rfl,by simp[mu]⟩
 have k:=mR (H++[ABlk.cells false 1 []]) 0 0 0 0 [] [] _ _ hs hs rfl rfl rfl
 have hw:W (H++[ABlk.cells false 1 []]).length (.agg [iV 0,iV 0,.sl none 0 (some 0)]) (.agg [iV 0,iV 0,.sl (some (H.length,0)) 0 none]):=by
  rw[j0];exact⟨W.refl _,W.refl _,d7 (by simp) (.inl rfl),trivial⟩
 have k2:=k.wargs (args:=[.agg [iV 0,iV 0,.sl none 0 (some 0)],.agg [iV 0,iV 0,.sl none 0 (some 0)]]) ⟨hw,hw,trivial⟩
 have k3:=ACalls.weak (l1:=[ABlk.cells false 1 []]) k2.ghost [] rfl [] (by decide) (.bool true) [] ⟨W.refl _,trivial⟩
 simpa using k3
theorem same_y (H:ac)(W Hh:Int)(pp:AV)(xs:List Int)(s:AV)(l:List T6)(tu le sl ra:Int)(lost:Bool)(bz:Nat)(gp gs:AV)(bu:Nat)(hpp:zI H pp xs)(hs:Sl H 6 s l.length (r6 l))(hz:∃o,H[bz]? = some (.cells o 0 [iV W,iV Hh,pp,s,iV tu,iV le,iV sl,iV ra,.bool lost]))(hgp:zI H gp xs)(hgs:Sl H 6 gs l.length (r6 l))(hu:∃o,H[bu]? = some (.cells o 0 [iV W,iV Hh,gp,gs,iV tu,iV le,iV sl,iV ra,.bool lost]))(hx6:xs.length<=1000000)(hx0:0<xs.length)(hS:bk l=true)(hl0:0<l.length):zC 10 [.ptr (some (bz,0)),.ptr (some (bu,0))] H (.bool true) H:=by
 obtain⟨bpp,opp,cpp,rfl,hbpp,hblpp,hb0pp⟩:=zA1 hpp
 obtain⟨bs,os,cs,rfl,hbs,hbls,hb0s⟩:=zA1 hs
 obtain⟨bgp,ogp,cgp,rfl,hbgp,hblgp,hb0gp⟩:=zA1 hgp
 obtain⟨bgs,ogs,cgs,rfl,hbgs,hblgs,hb0gs⟩:=zA1 hgs
 obtain⟨oz,hbz⟩:=hz
 have hblz:=getElem?_lt hbz
 have hb0z:=fun l=>ae (l:=l) hbz
 obtain⟨ou,hbu⟩:=hu
 have hblu:=getElem?_lt hbu
 have hb0u:=fun l=>ae (l:=l) hbu
 have hSS:=bi.1 hS
 have hl16:=hSS.1
 refine AcT false func10 ?_;intro hbel Q hQ
 have G1:=jn @hbpp (jn @hb0pp (jn @hbs (jn @hb0s (jn @hbgp (jn @hb0gp (jn @hbgs (jn @hb0gs (jn @hbz (jn @hb0z (jn @hbu (jn @hb0u (jn @Option.isNone_some.{0} @Nat.add_assoc))))))))))))
 refine aa G1 ?_
 refine cvr G1 (lbox_c _ W Hh (.sl (some (bpp,0)) xs.length cpp) xs (.sl (some (bs,0)) l.length cs) l tu le sl ra lost _ (zA2 hb0pp hbpp) (zA2 hb0s hbs) ⟨_,by exact hbz⟩ (by assumption) (by assumption)) ?_
 refine cvr G1 (rgbox_c _ W Hh (.sl (some (bgp,0)) xs.length cgp) xs (.sl (some (bgs,0)) l.length cgs) l tu le sl ra lost _ (zA2 hb0gp hbgp) (zA2 hb0gs hbgs) ⟨_,by exact hb0u _⟩ (by assumption) (by assumption)) ?_
 refine cvr G1 (nK _ W Hh (.sl (some (bpp,0)) xs.length cpp) xs (.sl (some (bs,0)) l.length cs) l tu le sl ra lost _ (zA2 hb0pp hbpp) (zA2 hb0s hbs) ⟨_,by exact hb0z _⟩ (by omega) (by assumption)) ?_
 refine cvr G1 (rgset_c _ W Hh (.sl (some (bgp,0)) xs.length cgp) xs (.sl (some (bgs,0)) l.length cgs) l tu le sl ra lost _ (zA2 hb0gp hbgp) (zA2 hb0gs hbgs) ⟨_,by exact hb0u _⟩ (by omega) (by assumption)) ?_
 refine cvr G1 (bxs_e _ _ l _ l (by rfl) ⟨_,_,_,by rfl,by (rw[ah];rfl)⟩ ⟨_,_,_,by rfl,by (rw[ah];rfl)⟩ (by omega)) ?_
 refine cvr G1 (oH _ W Hh (.sl (some (bpp,0)) xs.length cpp) xs (.sl (some (bs,0)) l.length cs) l tu le sl ra lost _ (zA2 hb0pp hbpp) (zA2 hb0s hbs) ⟨_,by exact hb0z _⟩ (by omega) (by omega)) ?_
 refine cvr G1 (rgplan_c _ W Hh (.sl (some (bgp,0)) xs.length cgp) xs (.sl (some (bgs,0)) l.length cgs) l tu le sl ra lost _ (zA2 hb0gp hbgp) (zA2 hb0gs hbgs) ⟨_,by exact hb0u _⟩ (by omega) (by omega)) ?_
 refine cvr G1 (mR _ W _ W _ xs xs _ _ ⟨_,_,_,by rfl,by (rw[ah];rfl)⟩ ⟨_,_,_,by rfl,by (rw[ah];rfl)⟩ (by rfl) (by rfl) (by rfl)) ?_
 refine cvr G1 (lV _ W Hh (.sl (some (bpp,0)) xs.length cpp) xs (.sl (some (bs,0)) l.length cs) l tu le sl ra lost _ (zA2 hb0pp hbpp) (zA2 hb0s hbs) ⟨_,by exact hb0z _⟩) ?_
 refine cvr G1 (rflost_c _ W Hh (.sl (some (bgp,0)) xs.length cgp) xs (.sl (some (bgs,0)) l.length cgs) l tu le sl ra lost _ (zA2 hb0gp hbgp) (zA2 hb0gs hbgs) ⟨_,by exact hb0u _⟩) ?_
 refine cvr G1 (lvol_c _ W Hh (.sl (some (bpp,0)) xs.length cpp) xs (.sl (some (bs,0)) l.length cs) l tu le sl ra lost _ (zA2 hb0pp hbpp) (zA2 hb0s hbs) ⟨_,by exact hb0z _⟩ (by omega) (by assumption)) ?_
 refine cvr G1 (rgvol_c _ W Hh (.sl (some (bgp,0)) xs.length cgp) xs (.sl (some (bgs,0)) l.length cgs) l tu le sl ra lost _ (zA2 hb0gp hbgp) (zA2 hb0gs hbgs) ⟨_,by exact hb0u _⟩ (by omega) (by assumption)) ?_
 exact eP hQ hbel (.bool true) results10 ⟨rfl,rfl⟩
theorem same_n (H:ac): zC 10 [.ptr none,.ptr none] H (.bool true) H:=by
 refine AcT false func10 ?_;intro hbel Q hQ
 have G2:=jn @Option.isNone_none.{0} trivial
 refine aa G2 ?_
 refine cvr G2 (lbx_n _) ?_
 refine cvr G2 (rgb_n _) ?_
 refine cvr G2 (lst_n _) ?_
 refine cvr G2 (rgs_n _) ?_
 refine cvr G2 (boxz_c _) ?_
 refine cvr G2 (lpl_n _) ?_
 refine cvr G2 (rgp_n _) ?_
 refine cvr G2 (planz_c _) ?_
 refine cvr G2 (lls_n _) ?_
 refine cvr G2 (rgl_n _) ?_
 refine cvr G2 (lvl_n _) ?_
 refine cvr G2 (rgv_n _) ?_
 exact eP hQ hbel (.bool true) results10 ⟨rfl,rfl⟩
theorem lb_mv (H:ac)(pp s:AV)(bz:Nat)(hpp:Sl H 1 pp 4 (ints .u8 [1,1,1,2]))(hs:Sl H 6 s laL.length (r6 laL))(hz:H[bz]? = some (.cells true 0 [iV 4,iV 1,pp,s,iV 0,iV 0,iV 0,iV 4,.bool false])):zC 19 [.ptr (some (bz,0)),.agg [iV 0,iV 10],.bool false] H (iV 0) (H.set bz (.cells true 0 [iV 4,iV 1,pp,.sl (some (H.length,0)) laM.length none,iV 0,iV 0,iV 0,iV 4,.bool false])++[.cells true 6 (r6 laM)]):=by
 have k:=lmv_y H 4 1 pp [1,1,1,2] s laL 0 0 0 4 bz 0 10 false hpp hs hz la_s2 (by decide) lb_c1 la_b lb_im
 rw[lb_is] at k
 exact k
theorem lb_see (H:ac)(pp s q:AV)(bz:Nat)(hpp:Sl H 1 pp 4 (ints .u8 [1,1,1,2]))(hs:Sl H 6 s laM.length (r6 laM))(hz:H[bz]? = some (.cells true 0 [iV 4,iV 1,pp,s,iV 0,iV 0,iV 0,iV 4,.bool false]))(hq:Sl H 2 q 1 (prs [(0,3)])):zC 21 [.ptr (some (bz,0)),q] H (iV 12) (H.set bz (.cells true 0 [iV 4,iV 1,pp,s,iV 0,iV 0,iV 0,iV 4,.bool true])) :=
 lse_e H 4 1 pp [1,1,1,2] s laM 0 0 0 4 bz q [(0,3)] hpp hs hz hq la_v2 lb_s (by decide) la_c2 (by decide) (by rw[lb_r];rfl)
theorem lb_mv2 (H:ac)(pp s:AV)(bz:Nat)(hpp:Sl H 1 pp 4 (ints .u8 [1,1,1,2]))(hs:Sl H 6 s laM.length (r6 laM))(hz:∃o,H[bz]? = some (.cells o 0 [iV 4,iV 1,pp,s,iV 0,iV 0,iV 0,iV 4,.bool true])):zC 19 [.ptr (some (bz,0)),.agg [iV 0,iV 0],.bool false] H (iV 9) H :=
 lmv_s H 4 1 pp [1,1,1,2] s laM 0 0 0 4 bz 0 0 false hpp hs hz lb_c2
theorem lb_box (H:ac)(pp s:AV)(bz:Nat)(hpp:Sl H 1 pp 4 (ints .u8 [1,1,1,2]))(hs:Sl H 6 s laM.length (r6 laM))(hz:∃o,H[bz]? = some (.cells o 0 [iV 4,iV 1,pp,s,iV 0,iV 0,iV 0,iV 4,.bool false])):zC 26 [.ptr (some (bz,0))] H (.tup [.agg [iV 42,iV 32,iV 50,iV 32,iV 0,iV 1],.bool true]) H:=by
 have k:=lbox_c H 4 1 pp [1,1,1,2] s laM 0 0 0 4 false bz hpp hs hz lb_s (by decide)
 rw[lb_h] at k
 exact k
theorem lb_res (H:ac)(pp s q:AV)(bz:Nat)(hpp:Sl H 1 pp 4 (ints .u8 [1,1,1,2]))(hs:Sl H 6 s laM.length (r6 laM))(hz:H[bz]? = some (.cells true 0 [iV 4,iV 1,pp,s,iV 0,iV 0,iV 0,iV 4,.bool true]))(hq:Sl H 6 q 1 (r6 [(100,32,100,32,0,1)])):zC 16 [.ptr (some (bz,0)),q] H (iV 0) (H.set bz (.cells true 0 [iV 4,iV 1,pp,.sl (some (H.length,0)) 1 none,iV 0,iV 0,iV 0,iV 4,.bool false])++[.cells true 6 (r6 [(100,32,100,32,0,1)])]) :=
 lrs_y H 4 1 pp [1,1,1,2] s laM 0 0 0 4 true bz q [(100,32,100,32,0,1)] hpp hs hz hq lb_m
theorem lb_vol (H:ac)(pp s:AV)(bz:Nat)(hpp:Sl H 1 pp 4 (ints .u8 [1,1,1,2]))(hs:Sl H 6 s 1 (r6 [(100,32,100,32,0,1)]))(hz:∃o,H[bz]? = some (.cells o 0 [iV 4,iV 1,pp,s,iV 0,iV 0,iV 0,iV 4,.bool false])):zC 25 [.ptr (some (bz,0))] H (iV 1) H:=by
 have k:=lvol_c H 4 1 pp [1,1,1,2] s [(100,32,100,32,0,1)] 0 0 0 4 false bz hpp hs hz (by decide) (by decide)
 rw[lb_v] at k
 exact k
theorem lb_set (H:ac)(pp s:AV)(bz:Nat)(hpp:Sl H 1 pp 4 (ints .u8 [1,1,1,2]))(hs:Sl H 6 s 1 (r6 [(100,32,100,32,0,1)]))(hz:∃o,H[bz]? = some (.cells o 0 [iV 4,iV 1,pp,s,iV 0,iV 0,iV 0,iV 4,.bool false])):zC 12 [.ptr (some (bz,0))] H (.sl (some (H.length,0)) 1 none) (H++[.cells true 6 (r6 [(100,32,100,32,0,1)])]) :=
 nK H 4 1 pp [1,1,1,2] s [(100,32,100,32,0,1)] 0 0 0 4 false bz hpp hs hz (by decide) (by decide)
set_option maxHeartbeats 4000000 in
set_option maxRecDepth 100000 in
theorem kaw_c (H:ac): zC 7 [] H (.bool true) H:=by
 refine AcT false func7 ?_;intro hbel Q hQ
 simp -implicitDefEqProofs (maxSteps:=2000000) (disch:=omega) only [ct,List.length_replicate,Option.isNone_some.{0},Option.isNone_none.{0},Nat.add_assoc,bV,bF,bG,bW,simprocAttr,aG,aH,Function.comp_apply,one1,lenV,ak,ay,az,aop,AV.ofValue,AV.ofCell,AV.cells,AV.flat,AV.one,arep,aT,aE]
 repeat refine And.intro (by omega) ?_
 refine cv (lnew_y _ 4 1 _ [0,0,0,0] _ [(32,32,40,32,0,1)] 0 0 0 4 ⟨_,_,_,by rfl,by (rw[cN];rfl)⟩ ⟨_,_,_,by rfl,by (rw[ah];rfl)⟩ la_v la_l la_b) ?_
 simp -implicitDefEqProofs (maxSteps:=2000000) (disch:=omega) only [ct,List.length_replicate,Option.isNone_some.{0},Option.isNone_none.{0},Nat.add_assoc,bV,bF,bG,bW,simprocAttr,aG,aH,Function.comp_apply,one1,lenV,ak,ay,az,aop,AV.ofValue,AV.ofCell,AV.cells,AV.flat,AV.one,arep,aT,aE]
 repeat refine And.intro (by omega) ?_
 refine cv (lcl_n _) ?_
 simp -implicitDefEqProofs (maxSteps:=2000000) (disch:=omega) only [ct,List.length_replicate,Option.isNone_some.{0},Option.isNone_none.{0},Nat.add_assoc,bV,bF,bG,bW,simprocAttr,aG,aH,Function.comp_apply,one1,lenV,ak,ay,az,aop,AV.ofValue,AV.ofCell,AV.cells,AV.flat,AV.one,arep,aT,aE]
 repeat refine And.intro (by omega) ?_
 refine cv (lls_n _) ?_
 simp -implicitDefEqProofs (maxSteps:=2000000) (disch:=omega) only [ct,List.length_replicate,Option.isNone_some.{0},Option.isNone_none.{0},Nat.add_assoc,bV,bF,bG,bW,simprocAttr,aG,aH,Function.comp_apply,one1,lenV,ak,ay,az,aop,AV.ofValue,AV.ofCell,AV.cells,AV.flat,AV.one,arep,aT,aE]
 repeat refine And.intro (by omega) ?_
 refine cv (lvl_n _) ?_
 simp -implicitDefEqProofs (maxSteps:=2000000) (disch:=omega) only [ct,List.length_replicate,Option.isNone_some.{0},Option.isNone_none.{0},Nat.add_assoc,bV,bF,bG,bW,simprocAttr,aG,aH,Function.comp_apply,one1,lenV,ak,ay,az,aop,AV.ofValue,AV.ofCell,AV.cells,AV.flat,AV.one,arep,aT,aE]
 repeat refine And.intro (by omega) ?_
 refine cv (lse_n _) ?_
 simp -implicitDefEqProofs (maxSteps:=2000000) (disch:=omega) only [ct,List.length_replicate,Option.isNone_some.{0},Option.isNone_none.{0},Nat.add_assoc,bV,bF,bG,bW,simprocAttr,aG,aH,Function.comp_apply,one1,lenV,ak,ay,az,aop,AV.ofValue,AV.ofCell,AV.cells,AV.flat,AV.one,arep,aT,aE]
 repeat refine And.intro (by omega) ?_
 refine cv (la_see1 _ (.sl (some (H.length+3,0)) 4 none) (.sl (some (H.length+4,0)) 1 none) _ _ ⟨_,_,_,by rfl,by (rw[ah];rfl)⟩ ⟨_,_,_,by rfl,by (rw[ah];rfl)⟩ (by (rw[ah];rfl)) ⟨_,_,_,by rfl,by (rw[ah];rfl)⟩) ?_
 simp -implicitDefEqProofs (maxSteps:=2000000) (disch:=omega) only [ct,List.length_replicate,Option.isNone_some.{0},Option.isNone_none.{0},Nat.add_assoc,bV,bF,bG,bW,simprocAttr,aG,aH,Function.comp_apply,one1,lenV,ak,ay,az,aop,AV.ofValue,AV.ofCell,AV.cells,AV.flat,AV.one,arep,aT,aE]
 repeat refine And.intro (by omega) ?_
 refine cv (oH _ 4 1 (.sl (some (H.length+7,0)) 4 none) [1,1,1,2] (.sl (some (H.length+8,0)) laL.length none) laL 0 0 0 4 false _ ⟨_,_,_,by rfl,by (rw[ah];rfl)⟩ ⟨_,_,_,by rfl,by (rw[ah];rfl)⟩ ⟨_,by (rw[ah];rfl)⟩ (by decide) (by decide)) ?_
 simp -implicitDefEqProofs (maxSteps:=2000000) (disch:=omega) only [ct,List.length_replicate,Option.isNone_some.{0},Option.isNone_none.{0},Nat.add_assoc,bV,bF,bG,bW,simprocAttr,aG,aH,Function.comp_apply,one1,lenV,ak,ay,az,aop,AV.ofValue,AV.ofCell,AV.cells,AV.flat,AV.one,arep,aT,aE]
 repeat refine And.intro (by omega) ?_
 refine cv (mR _ 4 1 4 1 [1,1,1,2] [1,1,1,2] _ _ ⟨_,_,_,by rfl,by (rw[ah];rfl)⟩ ⟨_,_,_,by rfl,by (rw[ah];rfl)⟩ (by rfl) (by rfl) (by rfl)) ?_
 simp -implicitDefEqProofs (maxSteps:=2000000) (disch:=omega) only [ct,List.length_replicate,Option.isNone_some.{0},Option.isNone_none.{0},Nat.add_assoc,bV,bF,bG,bW,simprocAttr,aG,aH,Function.comp_apply,one1,lenV,ak,ay,az,aop,AV.ofValue,AV.ofCell,AV.cells,AV.flat,AV.one,arep,aT,aE]
 repeat refine And.intro (by omega) ?_
 refine cv (la_volc _ (.sl (some (H.length+7,0)) 4 none) (.sl (some (H.length+8,0)) laL.length none) _ ⟨_,_,_,by rfl,by (rw[ah];rfl)⟩ ⟨_,_,_,by rfl,by (rw[ah];rfl)⟩ ⟨_,by (rw[ah];rfl)⟩) ?_
 simp -implicitDefEqProofs (maxSteps:=2000000) (disch:=omega) only [ct,List.length_replicate,Option.isNone_some.{0},Option.isNone_none.{0},Nat.add_assoc,bV,bF,bG,bW,simprocAttr,aG,aH,Function.comp_apply,one1,lenV,ak,ay,az,aop,AV.ofValue,AV.ofCell,AV.cells,AV.flat,AV.one,arep,aT,aE]
 repeat refine And.intro (by omega) ?_
 refine cv (lV _ 4 1 (.sl (some (H.length+7,0)) 4 none) [1,1,1,2] (.sl (some (H.length+8,0)) laL.length none) laL 0 0 0 4 false _ ⟨_,_,_,by rfl,by (rw[ah];rfl)⟩ ⟨_,_,_,by rfl,by (rw[ah];rfl)⟩ ⟨_,by (rw[ah];rfl)⟩) ?_
 simp -implicitDefEqProofs (maxSteps:=2000000) (disch:=omega) only [ct,List.length_replicate,Option.isNone_some.{0},Option.isNone_none.{0},Nat.add_assoc,bV,bF,bG,bW,simprocAttr,aG,aH,Function.comp_apply,one1,lenV,ak,ay,az,aop,AV.ofValue,AV.ofCell,AV.cells,AV.flat,AV.one,arep,aT,aE]
 repeat refine And.intro (by omega) ?_
 refine cv (lb_mv _ (.sl (some (H.length+7,0)) 4 none) (.sl (some (H.length+8,0)) laL.length none) _ ⟨_,_,_,by rfl,by (rw[ah];rfl)⟩ ⟨_,_,_,by rfl,by (rw[ah];rfl)⟩ (by (rw[ah];rfl))) ?_
 simp -implicitDefEqProofs (maxSteps:=2000000) (disch:=omega) only [ct,List.length_replicate,Option.isNone_some.{0},Option.isNone_none.{0},Nat.add_assoc,bV,bF,bG,bW,simprocAttr,aG,aH,Function.comp_apply,one1,lenV,ak,ay,az,aop,AV.ofValue,AV.ofCell,AV.cells,AV.flat,AV.one,arep,aT,aE]
 repeat refine And.intro (by omega) ?_
 refine cv (lb_box _ (.sl (some (H.length+7,0)) 4 none) (.sl (some (H.length+11,0)) laM.length none) _ ⟨_,_,_,by rfl,by (rw[ah];rfl)⟩ ⟨_,_,_,by rfl,by (rw[ah];rfl)⟩ ⟨_,by (rw[ah];rfl)⟩) ?_
 simp -implicitDefEqProofs (maxSteps:=2000000) (disch:=omega) only [ct,List.length_replicate,Option.isNone_some.{0},Option.isNone_none.{0},Nat.add_assoc,bV,bF,bG,bW,simprocAttr,aG,aH,Function.comp_apply,one1,lenV,ak,ay,az,aop,AV.ofValue,AV.ofCell,AV.cells,AV.flat,AV.one,arep,aT,aE]
 repeat refine And.intro (by omega) ?_
 refine cv (lb_see _ (.sl (some (H.length+7,0)) 4 none) (.sl (some (H.length+11,0)) laM.length none) _ _ ⟨_,_,_,by rfl,by (rw[ah];rfl)⟩ ⟨_,_,_,by rfl,by (rw[ah];rfl)⟩ (by (rw[ah];rfl)) ⟨_,_,_,by rfl,by (rw[ah];rfl)⟩) ?_
 simp -implicitDefEqProofs (maxSteps:=2000000) (disch:=omega) only [ct,List.length_replicate,Option.isNone_some.{0},Option.isNone_none.{0},Nat.add_assoc,bV,bF,bG,bW,simprocAttr,aG,aH,Function.comp_apply,one1,lenV,ak,ay,az,aop,AV.ofValue,AV.ofCell,AV.cells,AV.flat,AV.one,arep,aT,aE]
 repeat refine And.intro (by omega) ?_
 refine cv (lV _ 4 1 (.sl (some (H.length+7,0)) 4 none) [1,1,1,2] (.sl (some (H.length+11,0)) laM.length none) laM 0 0 0 4 true _ ⟨_,_,_,by rfl,by (rw[ah];rfl)⟩ ⟨_,_,_,by rfl,by (rw[ah];rfl)⟩ ⟨_,by (rw[ah];rfl)⟩) ?_
 simp -implicitDefEqProofs (maxSteps:=2000000) (disch:=omega) only [ct,List.length_replicate,Option.isNone_some.{0},Option.isNone_none.{0},Nat.add_assoc,bV,bF,bG,bW,simprocAttr,aG,aH,Function.comp_apply,one1,lenV,ak,ay,az,aop,AV.ofValue,AV.ofCell,AV.cells,AV.flat,AV.one,arep,aT,aE]
 repeat refine And.intro (by omega) ?_
 refine cv (lb_mv2 _ (.sl (some (H.length+7,0)) 4 none) (.sl (some (H.length+11,0)) laM.length none) _ ⟨_,_,_,by rfl,by (rw[ah];rfl)⟩ ⟨_,_,_,by rfl,by (rw[ah];rfl)⟩ ⟨_,by (rw[ah];rfl)⟩) ?_
 simp -implicitDefEqProofs (maxSteps:=2000000) (disch:=omega) only [ct,List.length_replicate,Option.isNone_some.{0},Option.isNone_none.{0},Nat.add_assoc,bV,bF,bG,bW,simprocAttr,aG,aH,Function.comp_apply,one1,lenV,ak,ay,az,aop,AV.ofValue,AV.ofCell,AV.cells,AV.flat,AV.one,arep,aT,aE]
 repeat refine And.intro (by omega) ?_
 refine cv (lb_res _ (.sl (some (H.length+7,0)) 4 none) (.sl (some (H.length+11,0)) laM.length none) _ _ ⟨_,_,_,by rfl,by (rw[ah];rfl)⟩ ⟨_,_,_,by rfl,by (rw[ah];rfl)⟩ (by (rw[ah];rfl)) ⟨_,_,_,by rfl,by (rw[ah];rfl)⟩) ?_
 simp -implicitDefEqProofs (maxSteps:=2000000) (disch:=omega) only [ct,List.length_replicate,Option.isNone_some.{0},Option.isNone_none.{0},Nat.add_assoc,bV,bF,bG,bW,simprocAttr,aG,aH,Function.comp_apply,one1,lenV,ak,ay,az,aop,AV.ofValue,AV.ofCell,AV.cells,AV.flat,AV.one,arep,aT,aE]
 repeat refine And.intro (by omega) ?_
 refine cv (lb_vol _ (.sl (some (H.length+7,0)) 4 none) (.sl (some (H.length+15,0)) 1 none) _ ⟨_,_,_,by rfl,by (rw[ah];rfl)⟩ ⟨_,_,_,by rfl,by (rw[ah];rfl)⟩ ⟨_,by (rw[ah];rfl)⟩) ?_
 simp -implicitDefEqProofs (maxSteps:=2000000) (disch:=omega) only [ct,List.length_replicate,Option.isNone_some.{0},Option.isNone_none.{0},Nat.add_assoc,bV,bF,bG,bW,simprocAttr,aG,aH,Function.comp_apply,one1,lenV,ak,ay,az,aop,AV.ofValue,AV.ofCell,AV.cells,AV.flat,AV.one,arep,aT,aE]
 repeat refine And.intro (by omega) ?_
 refine cv (lV _ 4 1 (.sl (some (H.length+7,0)) 4 none) [1,1,1,2] (.sl (some (H.length+15,0)) 1 none) [(100,32,100,32,0,1)] 0 0 0 4 false _ ⟨_,_,_,by rfl,by (rw[ah];rfl)⟩ ⟨_,_,_,by rfl,by (rw[ah];rfl)⟩ ⟨_,by (rw[ah];rfl)⟩) ?_
 simp -implicitDefEqProofs (maxSteps:=2000000) (disch:=omega) only [ct,List.length_replicate,Option.isNone_some.{0},Option.isNone_none.{0},Nat.add_assoc,bV,bF,bG,bW,simprocAttr,aG,aH,Function.comp_apply,one1,lenV,ak,ay,az,aop,AV.ofValue,AV.ofCell,AV.cells,AV.flat,AV.one,arep,aT,aE]
 repeat refine And.intro (by omega) ?_
 refine cv (lb_set _ (.sl (some (H.length+7,0)) 4 none) (.sl (some (H.length+15,0)) 1 none) _ ⟨_,_,_,by rfl,by (rw[ah];rfl)⟩ ⟨_,_,_,by rfl,by (rw[ah];rfl)⟩ ⟨_,by (rw[ah];rfl)⟩) ?_
 simp -implicitDefEqProofs (maxSteps:=2000000) (disch:=omega) only [ct,List.length_replicate,Option.isNone_some.{0},Option.isNone_none.{0},Nat.add_assoc,bV,bF,bG,bW,simprocAttr,aG,aH,Function.comp_apply,one1,lenV,ak,ay,az,aop,AV.ofValue,AV.ofCell,AV.cells,AV.flat,AV.one,arep,aT,aE]
 repeat refine And.intro (by omega) ?_
 exact hQ _ _ (cA (.inl rfl) hbel (x:=.bool true) (kU results7 (by simp -implicitDefEqProofs (maxSteps:=2000000) (disch:=omega) only [simprocAttr,aG,aH,Function.comp_apply,one1,lenV,ak,ay,az,aop,AV.ofValue,AV.ofCell,AV.cells,AV.flat,AV.one,arep,aT,av,aE])) rfl ⟨rfl,rfl⟩)
theorem AW_join {P:Program}{N n:Nat}{Q:Exit->Fr->ac->Prop}{a b:Code}{F:Fr}{H:ac}(q:Bool) (hm:P.follows .mixedOrders=true) (hc:dd N q a=true) (I:Fr->ac->Prop)
  (h1:∀J:Fr->ac->Prop,(∀F' H',(∃σ F2 H2,I F2 H2/\Abs n σ F' H' F2 H2)->J F' H')->AGo P N n q Q [.code a,.inv J] F H) (h2:∀F2 H2,I F2 H2->AW P N n b Q F2 H2):AW P N n (.seq a b) Q F H:=by
 have k:=h1 (fun F' H'=>∃σ F2 H2,I F2 H2/\Abs n σ F' H' F2 H2) (fun _ _ h=>h)
 refine gY (AW.mono (gk (N:=N) hm a hc _ F H k) fun e F' H' hq=>?_)
 cases e with
 | normal =>
  obtain⟨σ,F2,H2,hi,ab⟩:=hq
  exact nk ab (h2 F2 H2 hi)
 |_=>exact hq
theorem kz {P:Program}{N n:Nat}{Q:Exit->Fr->ac->Prop}{a:Code}{F:Fr}{H:ac}(q:Bool) (hm:P.follows .mixedOrders=true) (hc:dd N q a=true) (I:Fr->ac->Prop)
  (h1:∀J:Fr->ac->Prop,(∀F' H',(∃σ F2 H2,I F2 H2/\Abs n σ F' H' F2 H2)->J F' H')->AGo P N n q Q [.code a,.inv J] F H) (h2:∀F2 H2,I F2 H2->Q .normal F2 H2):AW P N n a Q F H:=by
 have k:=h1 (fun F' H'=>∃σ F2 H2,I F2 H2/\Abs n σ F' H' F2 H2) (fun _ _ h=>h)
 intro E w x k1 k2 k3 k4 k5
 refine wp_mono (gk (N:=N) hm a hc _ F H k E w x k1 k2 k3 k4 k5) fun e x w hh=>?_
 obtain⟨E',F',H',hq,l,s,d,f,m⟩:=hh
 cases e with
 | normal =>
  obtain⟨σ,F2,H2,hi,ab⟩:=hq
  obtain⟨E2,l2,f2,m2⟩:=ab.emb l.n f m
  exact⟨E2,F2,H2,h2 F2 H2 hi,l.trans l2,s,d,f2,m2⟩
 |_=>exact⟨E',F',H',hq,l,s,d,f,m⟩
theorem gP {P:Program}{N n:Nat}{Q:Exit->Fr->ac->Prop}{id:Nat}{ops:Array Oper}{b:Code}{F:Fr}{H:ac}(q:Bool) (hm:P.follows .mixedOrders=true) (hok:gg q N ops=true) (m:Nat) (hml:m<=H.length) (I:Fr->ac->Prop)
  (h1:∀J:Fr->ac->Prop,(∀F' H',(∃σ F2 H2,I F2 H2/\Abs n σ F' H' F2 H2)->J F' H')->AGo P N n q Q [.opsD m (ops.toList.map (lightOf (dsts ops))),.inv J] F H) (h2:∀F2 H2,I F2 H2->AW P N n b Q F2 H2):AW P N n (.seq (.region id ops true) b) Q F H:=by
 have k:=h1 (fun F' H'=>∃σ F2 H2,I F2 H2/\Abs n σ F' H' F2 H2) (fun _ _ h=>h)
 have k2:AOpsDL P q m (ops.toList.map (lightOf (dsts ops))) F H (fun F' H'=>fv (fun F' H'=>∃σ F2 H2,I F2 H2/\Abs n σ F' H' F2 H2) Q .normal F' H'):=k
 refine gY (AW.mono (AW_drawM q hm hok hml (gD _ _ _ k2)) fun e F' H' hq=>?_)
 cases e with
 | normal =>
  obtain⟨σ,F2,H2,hi,ab⟩:=hq
  exact nk ab (h2 F2 H2 hi)
 |_=>exact hq
theorem call_w {P:Program}{N n m:Nat}{Q:Exit->Fr->ac->Prop}{dst:Option Tmp}{os:List LOp}{r:List It}{F:Fr}{H H1:ac}{f:FuncId}{args:List AV}{x:AV}(hok:dB P f=true)(hl:H.length<=H1.length)(hf:∀b,b<m->b<H.length->H1[b]? = H[b]?)(h:ACalls P f args H fun y H'=>y=x/\H'=H1)(k:AGo P N n false Q (.opsD m os::r) (putF dst x F) H1):fg P N n false Q (some m) f args dst os r F H :=
 ⟨hok,x,H1,(fun h=>by cases h),⟨hl,hf⟩,h,k⟩
theorem lk {H l L:ac}{b c m:Nat}{x:ABlk}(hc:m<=c)(hb:b<m)(hlt:b<(H++l).length):((H++l).set c x++L)[b]? = (H++l)[b]? :=by
 rw[List.getElem?_append_left (by rw[List.length_set];exact hlt),List.getElem?_set_ne (by omega)]
def mnoP (w:Nat->Int):Prop:=(∀i j:Nat,i<=j->w i<=w j)\/(∀i j:Nat,i<=j->w j<=w i)
def hlN (w:Nat->Int) (i:Nat):Int:=mnI (w 0) (w (i-1))
def hlX (w:Nat->Int) (i:Nat):Int:=mxI (w 0) (w (i-1))
theorem hl_0 (w:Nat->Int):hlN w 0=w 0/\hlX w 0=w 0:=by unfold hlN hlX mnI mxI;constructor<;>split<;>rfl
theorem hlN_s {w:Nat->Int}(h:mnoP w)(i:Nat):mnI (hlN w i) (w i)=hlN w (i+1):=by
 unfold hlN
 rw[Nat.add_sub_cancel]
 rcases h with h|h
 ·have h1:=h 0 (i-1) (by omega)
  have h2:=h (i-1) i (by omega)
  have h3:=h 0 i (by omega)
  unfold mnI;split<;>split<;>(try split)<;>omega
 have h1:=h 0 (i-1) (by omega)
 have h2:=h (i-1) i (by omega)
 have h3:=h 0 i (by omega)
 unfold mnI;split<;>split<;>(try split)<;>omega
theorem hlX_s {w:Nat->Int}(h:mnoP w)(i:Nat):mxI (hlX w i) (w i)=hlX w (i+1):=by
 unfold hlX
 rw[Nat.add_sub_cancel]
 rcases h with h|h
 ·have h1:=h 0 (i-1) (by omega)
  have h2:=h (i-1) i (by omega)
  have h3:=h 0 i (by omega)
  unfold mxI;split<;>split<;>(try split)<;>omega
 have h1:=h 0 (i-1) (by omega)
 have h2:=h (i-1) i (by omega)
 have h3:=h 0 i (by omega)
 unfold mxI;split<;>split<;>(try split)<;>omega
def lgN (f le:Int) (i:Nat):Int:=mxI (f-le+(i:Int)) 0
theorem nO {f le:Int}{i j:Nat}(h:i<=j):lgN f le i<=lgN f le j:=by unfold lgN mxI;split<;>split<;>omega
def wxN (f le h:Int) (i:Nat):Int:=cK h (lgN f le i)
def wyN (f le h:Int) (i:Nat):Int:=cL h (lgN f le i)
theorem dirD (h:Int):1<=(cG h).2.2:=by
 have k:=e6 h
 unfold eK at k
 simp only[Bool.and_eq_true,decide_eq_true_eq] at k
 omega
theorem wx_mo (f le h:Int):mnoP (wxN f le h):=by
 rcases Int.le_total 0 (cG h).1 with q|q
 ·exact .inl fun i j k=>Int.ediv_le_ediv (by have:=dirD h;omega) (Int.mul_le_mul_of_nonneg_right (nO k) q)
 exact .inr fun i j k=>Int.ediv_le_ediv (by have:=dirD h;omega) (Int.mul_le_mul_of_nonpos_right (nO k) q)
theorem wy_mo (f le h:Int):mnoP (wyN f le h):=by
 rcases Int.le_total 0 (cG h).2.1 with q|q
 ·exact .inl fun i j k=>Int.ediv_le_ediv (by have:=dirD h;omega) (Int.mul_le_mul_of_nonneg_right (nO k) q)
 exact .inr fun i j k=>Int.ediv_le_ediv (by have:=dirD h;omega) (Int.mul_le_mul_of_nonpos_right (nO k) q)
theorem hl_end {f le h:Int}(hl:0<=le):(hlN (wxN f le h) (2*le+1).toNat=mnI (rqA f le h) (rqB f le h)/\hlX (wxN f le h) (2*le+1).toNat=mxI (rqA f le h) (rqB f le h))/\hlN (wyN f le h) (2*le+1).toNat=mnI (rqC f le h) (rqD f le h)/\hlX (wyN f le h) (2*le+1).toNat=mxI (rqC f le h) (rqD f le h):=by
 have e0:f-le+((0:Nat):Int)=f-le:=by omega
 have e1:f-le+(((2*le+1).toNat-1:Nat):Int)=f+le:=by omega
 unfold hlN hlX wxN wyN lgN rqA rqB rqC rqD
 rw[e0,e1]
 exact⟨⟨rfl,rfl⟩,rfl,rfl⟩
theorem rcS_1 {f le sl:Int}{L:List Int}:rcS f le sl L 1=rqR f le sl (gi L 0):=by
 have e:∀a:Int,mnI a a=a:=fun a=>by unfold mnI;split<;>rfl
 have e':∀a:Int,mxI a a=a:=fun a=>by unfold mxI;split<;>rfl
 show (mnI (if (0:Nat)=0 then _ else _) _,_)=_
 simp only[if_true,e,e']
theorem rcS_s {f le sl:Int}{L:List Int}{n:Nat}:rcS f le sl L (n+1+1)=(mnI (rcS f le sl L (n+1)).1 (rqR f le sl (gi L (n+1))).1,mnI (rcS f le sl L (n+1)).2.1 (rqR f le sl (gi L (n+1))).2.1,mxI (rcS f le sl L (n+1)).2.2.1 (rqR f le sl (gi L (n+1))).2.2.1,mxI (rcS f le sl L (n+1)).2.2.2 (rqR f le sl (gi L (n+1))).2.2.2):=by
 show (mnI (if n+1=0 then _ else _) _,_)=_
 rw[if_neg (by omega),if_neg (by omega),if_neg (by omega),if_neg (by omega)]
theorem offB_f {n:Int}(h : -1048576<=n/\n<=1048576):gJ n=false:=by
 rw[<-Bool.not_eq_true];intro k;unfold gJ at k;simp at k;omega
theorem imO_box {b:T6}{t f tu le sl:Int}(h:bl (imB b t f tu le sl)=true):imO b t f tu le sl=true:=by
 have k:=bB.1 h
 unfold imO
 rw[Bool.not_eq_true',List.any_eq_false]
 intro n hn
 rw[Bool.not_eq_true]
 simp only[List.mem_cons,List.not_mem_nil,or_false] at hn
 rcases hn with rfl|rfl|rfl|rfl<;>exact offB_f (by omega)
theorem imO_eq {b:T6}{t f tu le sl:Int}(hb:bl b=true)(hf:0<=f/\f<=32)(hu:0<=tu/\tu<=8)(hl:0<=le/\le<=16)(hs:0<=sl/\sl<=8):bl (imB b t f tu le sl)=imO b t f tu le sl:=by
 rw[Bool.eq_iff_iff]
 exact⟨imO_box,imB_ok hb hf hu hl hs⟩
theorem lgN_bd {f le:Int}{i:Nat}(hf:0<=f/\f<=32)(hl:0<=le/\le<=16)(hi:(i:Int)<=2*le):0<=lgN f le i/\lgN f le i<=1000:=by unfold lgN mxI;split<;>omega
theorem lgN_eq {f le n:Int}{i:Nat}(h:f+n=f-le+(i:Int)):(if f+n<0 then 0 else f+n)=lgN f le i:=by
 unfold lgN mxI;rw[h]
theorem nP (H:ac)(t f tu le sl ra h:Int)(hC:bL t f=true)(hB:bO tu le sl ra=true)(hh:0<=h/\h<=255):zC 154 [.agg [iV t,iV f],.agg [iV tu,iV le,iV sl,iV ra],iV h] H (.tup [.agg [iV ((rqR f le sl h).1),iV ((rqR f le sl h).2.1),iV ((rqR f le sl h).2.2.1),iV ((rqR f le sl h).2.2.2)],iV 0]) H:=by
 have hCi:=hC
 simp only[bL,Bool.and_eq_true,bm] at hCi
 have hBi:=hB
 simp only[bO,Bool.and_eq_true,bm] at hBi
 have hle:0<=le/\le<=16:=by omega
 have hff:0<=f/\f<=32:=by omega
 have m1:0<=mxI (f-le) 0/\mxI (f-le) 0<=48:=by unfold mxI;split<;>omega
 have m2:0<=mxI (f+le) 0/\mxI (f+le) 0<=48:=by unfold mxI;split<;>omega
 have w1:=jK h m1.1
 have w2:=jK h m2.1
 have n1:=fG (a:=cK h (mxI (f-le) 0)) (b:=cK h (mxI (f+le) 0))
 have n2:=fG (a:=cL h (mxI (f-le) 0)) (b:=cL h (mxI (f+le) 0))
 have n3:=fH (a:=cK h (mxI (f-le) 0)) (b:=cK h (mxI (f+le) 0))
 have n4:=fH (a:=cL h (mxI (f-le) 0)) (b:=cL h (mxI (f+le) 0))
 have hmx0:(if f-le<0 then 0 else f-le)=lgN f le 0:=lgN_eq (n := -le) (i:=0) (by omega)
 have hE:=hl_end (f:=f) (le:=le) (h:=h) hle.1
 have hE1:hlN (wxN f le h) (2*le+1).toNat=mnI (cK h (mxI (f-le) 0)) (cK h (mxI (f+le) 0)):=hE.1.1
 have hE2:hlX (wxN f le h) (2*le+1).toNat=mxI (cK h (mxI (f-le) 0)) (cK h (mxI (f+le) 0)):=hE.1.2
 have hE3:hlN (wyN f le h) (2*le+1).toNat=mnI (cL h (mxI (f-le) 0)) (cL h (mxI (f+le) 0)):=hE.2.1
 have hE4:hlX (wyN f le h) (2*le+1).toNat=mxI (cL h (mxI (f-le) 0)) (cL h (mxI (f+le) 0)):=hE.2.2
 have h0x:=hl_0 (wxN f le h)
 have h0y:=hl_0 (wyN f le h)
 refine AcT true func154 ?_;intro hbel Q hQ
 have G1:=jn @hC (jn @hB @hmx0)
 refine aa G1 ?_
 refine cvr G1 (g8 _ t f) ?_
 refine cv (jM _ _ _ _ _) ?_
 refine rgs G1 (fun h1 h1d G2=>?_) (fun h1 h1d _=>?_)
 ·refine rcs G2 (fun h2 h2d _=>?_) (fun h2 h2d G3=>?_)
  ·omega
  refine rcs G3 (fun h3 h3d _=>?_) (fun h3 h3d _=>?_)
  ·have h3n:=bnT h3
   have hfinZ:rqR f le sl h=(0,0,0,0):=if_pos h3d
   have G4:=jn h3 (jn h3n (jn @aK (jn @aJ G3)))
   exact eR G4 hQ hbel (.tup [.agg [iV 0,iV 0,iV 0,iV 0],iV 0]) results154 ⟨by rw[hfinZ],rfl⟩
  have h3n:=bnT h3
  have hfinZ:rqR f le sl h=(mnI (rqA f le h) (rqB f le h)-sl,mnI (rqC f le h) (rqD f le h)-sl,mxI (rqA f le h) (rqB f le h)+sl,mxI (rqC f le h) (rqD f le h)+sl):=if_neg h3d
  have G5:=jn h3 (jn h3n (jn @aK (jn @aJ G3)))
  refine aa G5 ?_
  refine cvr G5 (moved_c _ _ h (lgN_bd (by omega) (by omega) (by omega))) ?_
  have hw0x:wxN f le h 0=cK h (lgN f le 0):=rfl
  have hw0y:wyN f le h 0=cL h (lgN f le 0):=rfl
  refine glp (fun k F Hx=>∃i:Nat,i+k=(2*le+1).toNat/\F=[(2,iV h),(3,.ptr (some (H.length,0))),(4,.ptr (some (H.length+1,0))),(6,.ptr (some (H.length+2,0))),(8,.ptr (some (H.length+3,0))),(9,.ptr (some (H.length+4,0))),(10,iV ((0-le)+(i:Int)))]/\Hx=H++[.cells true 0 [iV t,iV f],.cells true 0 [iV tu,iV le,iV sl,iV ra],.cells true 0 [iV 0,iV 0,iV 0,iV 0],.cells true 0 [iV (wxN f le h (i-1)),iV (wyN f le h (i-1))],.cells true 0 [iV (hlN (wxN f le h) i),iV (hlN (wyN f le h) i),iV (hlX (wxN f le h) i),iV (hlX (wyN f le h) i)]]) ((2*le+1).toNat) ?_ ?_
  ·refine⟨_,_,_,⟨0,by omega,rfl,rfl⟩,bS hbel [0,1,2,3,4] (aF (jn @Int.natCast_zero (jn @Int.add_zero (jn @Nat.zero_sub (jn @h0x.1 (jn @h0x.2 (jn @h0y.1 (jn @h0y.2 (jn @hw0x @hw0y)))))))))⟩
  rintro k0 F Hx ⟨i,hm0,rfl,rfl⟩ J0 hJ0
  have hwix:wxN f le h i=cK h (lgN f le i):=rfl
  have hwiy:wyN f le h i=cL h (lgN f le i):=rfl
  have hmxi:(if f+(0-le+(i:Int))<0 then 0 else f+(0-le+(i:Int)))=lgN f le i:=lgN_eq (by omega)
  have hq0:(if (cK h (lgN f le i))<(hlN (wxN f le h) i) then (cK h (lgN f le i)) else (hlN (wxN f le h) i))=hlN (wxN f le h) (i+1):=hlN_s (wx_mo f le h) i
  have hq1:(if (cL h (lgN f le i))<(hlN (wyN f le h) i) then (cL h (lgN f le i)) else (hlN (wyN f le h) i))=hlN (wyN f le h) (i+1):=hlN_s (wy_mo f le h) i
  have hq2:(if (hlX (wxN f le h) i)<(cK h (lgN f le i)) then (cK h (lgN f le i)) else (hlX (wxN f le h) i))=hlX (wxN f le h) (i+1):=hlX_s (wx_mo f le h) i
  have hq3:(if (hlX (wyN f le h) i)<(cL h (lgN f le i)) then (cL h (lgN f le i)) else (hlX (wyN f le h) i))=hlX (wyN f le h) (i+1):=hlX_s (wy_mo f le h) i
  have G6:=jn @hmxi (jn @hq0 (jn @hq1 (j2 hq2 hq3 G5)))
  refine rcs G6 (fun h4 h4d G7=>?_) (fun h4 h4d G8=>?_)
  ·have hi2:(i:Int)<=2*le:=by omega
   refine aa G7 ?_
   refine cvr G7 (moved_c _ _ h (lgN_bd (by omega) (by omega) (by omega))) ?_
   refine hJ0 _ _ ⟨k0-1,by omega,_,_,_,⟨i+1,by omega,rfl,rfl⟩,bS hbel [0,1,2,3,4] (aF (jn @Int.natCast_add (jn @Int.natCast_one (jn @Int.add_assoc (jn @Nat.add_sub_cancel (jn @hwix @hwiy))))))⟩
  obtain rfl:i=(2*le+1).toNat:=by omega
  have hx1 : -48<=hlN (wxN f le h) (2*le+1).toNat/\hlN (wxN f le h) (2*le+1).toNat<=48:=by rw[hE1];omega
  have hx2 : -48<=hlX (wxN f le h) (2*le+1).toNat/\hlX (wxN f le h) (2*le+1).toNat<=48:=by rw[hE2];omega
  have hx3 : -48<=hlN (wyN f le h) (2*le+1).toNat/\hlN (wyN f le h) (2*le+1).toNat<=48:=by rw[hE3];omega
  have hx4 : -48<=hlX (wyN f le h) (2*le+1).toNat/\hlX (wyN f le h) (2*le+1).toNat<=48:=by rw[hE4];omega
  exact eR G8 hQ hbel (.tup [.agg [iV ((hlN (wxN f le h) (2*le+1).toNat)-sl),iV ((hlN (wyN f le h) (2*le+1).toNat)-sl),iV ((hlX (wxN f le h) (2*le+1).toNat)+sl),iV ((hlX (wyN f le h) (2*le+1).toNat)+sl)],iV 0]) results154 ⟨by (rw[hfinZ,hE1,hE2,hE3,hE4];rfl),rfl⟩
 omega
theorem mS (H:ac)(x0 y0 x1 y1 f c:Int):zC 111 [.agg [iV x0,iV y0,iV x1,iV y1,iV f,iV c]] H (.agg [iV f,iV c]) H:=by
 refine AcT true func111 ?_;intro hbel Q hQ
 refine aC ?_
 exact eP hQ hbel (.agg [iV f,iV c]) results111 ⟨rfl,rfl⟩
theorem mT (H:ac)(f c t tu:Int)(ha:bZ f c=true)(hu:0<=tu/\tu<=256):zC 110 [.agg [iV f,iV c],iV t,iV tu] H (.agg [iV (grF (shF f c t) (ce c) tu),iV (grC (ce c) tu)]) H:=by
 have ka:=bh.1 ha
 have hs2:bZ (shF f c t) (ce c)=true:=fV (by omega)
 refine AcT true func110 ?_;intro hbel Q hQ
 refine aC ?_
 refine cv (rshift_c _ f c t (by assumption)) ?_
 refine aC ?_
 refine cv (rgrow_c _ _ _ _ (by assumption) (by omega)) ?_
 refine aC ?_
 exact eP hQ hbel (.agg [iV (grF (shF f c t) (ce c) tu),iV (grC (ce c) tu)]) results110 ⟨rfl,rfl⟩
theorem r23rgt_c (H:ac)(x0 y0 x1 y1 f c t g tu le sl ra:Int):zC 109 [.agg [iV x0,iV y0,iV x1,iV y1,iV f,iV c],.agg [iV t,iV g],.agg [iV tu,iV le,iV sl,iV ra]] H (.bool (bxB x0 y0 x1 y1 f c&&bL t g&&bO tu le sl ra)) H:=by
 refine AcT true func109 ?_;intro hbel Q hQ
 refine aC ?_
 refine cv (iq _ _ _ _ _ f c) ?_
 refine aC ?_
 refine bg (fun h1=>?_) (fun h1=>?_)
 ·have h1d:=bsT h1
  have G9:=jn h1 @h1d
  refine aa G9 ?_
  refine cv (g8 _ t g) ?_
  refine rgs G9 (fun h2 h2d G10=>?_) (fun h2 h2d G11=>?_)
  ·refine aa G10 ?_
   refine cvr G10 (jM _ _ _ _ _) ?_
   exact eP hQ hbel (.bool (bO tu le sl ra)) results109 ⟨by simp[h1d,h2d],rfl⟩
  exact eR G11 hQ hbel (.bool false) results109 ⟨by simp[h1d,h2d],rfl⟩
 have h1d:=bsT h1
 have G12:=jn h1 @h1d
 exact eR G12 hQ hbel (.bool false) results109 ⟨by simp[h1d],rfl⟩
theorem r23rch_c (H:ac)(t g tu le sl ra bf bc:Int)(hC:bL t g=true)(hB:bO tu le sl ra=true)(hA:bZ bf bc=true):zC 113 [.agg [iV t,iV g],.agg [iV tu,iV le,iV sl,iV ra],.agg [iV bf,iV bc]] H (.agg [iV ((rcS g le sl (aw bf bc.toNat) (aw bf bc.toNat).length).1),iV ((rcS g le sl (aw bf bc.toNat) (aw bf bc.toNat).length).2.1),iV ((rcS g le sl (aw bf bc.toNat) (aw bf bc.toNat).length).2.2.1),iV ((rcS g le sl (aw bf bc.toNat) (aw bf bc.toNat).length).2.2.2)]) H:=by
 have hCi:=hC
 simp only[bL,Bool.and_eq_true,bm] at hCi
 have hBi:=hB
 simp only[bO,Bool.and_eq_true,bm] at hBi
 have ka:=bh.1 hA
 have hln:=dm bf bc.toNat
 have hgi0:=oh (f:=bf) (n:=bc.toNat) _ (jE (xs:=aw bf bc.toNat) (k:=0) (by omega))
 have hzr0:(rcS g le sl (aw bf bc.toNat) (0+1)).1=(rqR g le sl (gi (aw bf bc.toNat) 0)).1:=by rw[rcS_1]
 have hzr1:(rcS g le sl (aw bf bc.toNat) (0+1)).2.1=(rqR g le sl (gi (aw bf bc.toNat) 0)).2.1:=by rw[rcS_1]
 have hzr2:(rcS g le sl (aw bf bc.toNat) (0+1)).2.2.1=(rqR g le sl (gi (aw bf bc.toNat) 0)).2.2.1:=by rw[rcS_1]
 have hzr3:(rcS g le sl (aw bf bc.toNat) (0+1)).2.2.2=(rqR g le sl (gi (aw bf bc.toNat) 0)).2.2.2:=by rw[rcS_1]
 (refine aR func113 _ rfl (Nat.le_of_ble_eq_true (by kernel_rfl)) rfl ?_;intro hbel Q hQ hQ' c hc;unfold Tryz.f113 at hc;simp only[Option.some.injEq] at hc;subst hc;clear hQ')
 refine zQF hQ fun Q1 hn1 hQ1 he1=>?_
 refine aC ?_
 refine hn1 _ _ (zQF hQ fun Q2 hn2 hQ2 he2=>?_)
 refine aC ?_
 refine cv (rlist_c _ _ _ hA) ?_
 refine aC ?_
 refine hn2 _ _ ?_
 refine aL false try_mixed [[0,1,2,3,4,5,6,7,8,9,10,11],[0,1,2,3,4,9,5,6,7,8,10,11]] (by kernel_rfl) (fun F2 H2=>F2=[(3,.ptr (some (H.length,0))),(4,.ptr (some (H.length+1,0))),(6,.ptr (some (H.length+2,0))),(7,.sl (some (H.length+3,0)) ((aw bf bc.toNat).length) (aS (aw bf bc.toNat).length)),(8,.ptr (some (H.length+4,0)))]/\H2=H++[.cells true 0 [iV t,iV g],.cells true 0 [iV tu,iV le,iV sl,iV ra],.cells true 0 [iV 0,iV 0,iV 0,iV 0],.cells (aI (aw bf bc.toNat).length) 1 (ints .i64 (aw bf bc.toNat)),.cells true 0 [iV ((rqR g le sl (gi (aw bf bc.toNat) 0)).1),iV ((rqR g le sl (gi (aw bf bc.toNat) 0)).2.1),iV ((rqR g le sl (gi (aw bf bc.toNat) 0)).2.2.1),iV ((rqR g le sl (gi (aw bf bc.toNat) 0)).2.2.2)]]) ?_ ?_
 ·refine af ?_ (af ?_ (aQ))<;>intro J hJ
  ·have q1:=c9 (k:=.i64) (xs:=aw bf bc.toNat) (j:=0) (by omega)
   have G1:=@q1
   refine ag G1 ?_
   refine cd (nP _ t g _ _ _ _ _ (by assumption) (by assumption) (by omega)) ?_
   refine ag G1 ?_
   refine ai (hJ _ _ ⟨_,_,_,⟨rfl,rfl⟩,bS hbel [0,1,3,4,5] dS⟩)
  have q2:=c9 (k:=.i64) (xs:=aw bf bc.toNat) (j:=0) (by omega)
  have G2:=@q2
  refine ag G2 ?_
  refine cd (nP _ t g _ _ _ _ _ (by assumption) (by assumption) (by omega)) ?_
  refine ag G2 ?_
  refine ai (hJ _ _ ⟨_,_,_,⟨rfl,rfl⟩,bS hbel [0,1,3,4,5] dS⟩)
 rintro F2 H2 ⟨rfl,rfl⟩
 refine sqR hQ fun Q3 hn3 hQ3 he3=>?_
 refine zQF hQ3 fun Q4 hn4 hQ4 he4=>?_
 have G3:=jn @bU @cr
 refine aa G3 ?_
 refine hn4 _ _ ?_
 refine bkR hQ3 fun Q5 hn5 hQ5 he5 hb5=>?_
 refine cW (fun k F Hx=>∃i:Nat,i+1+k=(aw bf bc.toNat).length/\F=[(3,.ptr (some (H.length,0))),(4,.ptr (some (H.length+1,0))),(6,.ptr (some (H.length+2,0))),(7,.sl (some (H.length+3,0)) ((aw bf bc.toNat).length) (aS (aw bf bc.toNat).length)),(8,.ptr (some (H.length+4,0))),(10,iV ((i+1:Nat):Int))]/\Hx=H++[.cells true 0 [iV t,iV g],.cells true 0 [iV tu,iV le,iV sl,iV ra],.cells true 0 [iV 0,iV 0,iV 0,iV 0],.cells (aI (aw bf bc.toNat).length) 1 (ints .i64 (aw bf bc.toNat)),.cells true 0 [iV ((rcS g le sl (aw bf bc.toNat) (i+1)).1),iV ((rcS g le sl (aw bf bc.toNat) (i+1)).2.1),iV ((rcS g le sl (aw bf bc.toNat) (i+1)).2.2.1),iV ((rcS g le sl (aw bf bc.toNat) (i+1)).2.2.2)]]) ((aw bf bc.toNat).length-1) ?_ ?_
 ·refine⟨_,_,_,⟨0,by omega,rfl,rfl⟩,bS hbel [0,1,2,3,4] (al (jn @hzr0 (jn @hzr1 (jn @hzr2 (jn @hzr3 (jn @Nat.zero_add @Int.natCast_one))))))⟩
 rintro k0 F Hx ⟨i,hm0,rfl,rfl⟩ Q6 hJ0 hr6 he6
 have hQ6:=fun F H' h=>hr6 F H' (hQ5 F H' h)
 have hs0:(if ((rqR g le sl (gi (aw bf bc.toNat) (i+1))).1)<((rcS g le sl (aw bf bc.toNat) (i+1)).1) then ((rqR g le sl (gi (aw bf bc.toNat) (i+1))).1) else ((rcS g le sl (aw bf bc.toNat) (i+1)).1))=(rcS g le sl (aw bf bc.toNat) (i+1+1)).1:=by rw[rcS_s];rfl
 have hs1:(if ((rqR g le sl (gi (aw bf bc.toNat) (i+1))).2.1)<((rcS g le sl (aw bf bc.toNat) (i+1)).2.1) then ((rqR g le sl (gi (aw bf bc.toNat) (i+1))).2.1) else ((rcS g le sl (aw bf bc.toNat) (i+1)).2.1))=(rcS g le sl (aw bf bc.toNat) (i+1+1)).2.1:=by rw[rcS_s];rfl
 have hs2:(if ((rcS g le sl (aw bf bc.toNat) (i+1)).2.2.1)<((rqR g le sl (gi (aw bf bc.toNat) (i+1))).2.2.1) then ((rqR g le sl (gi (aw bf bc.toNat) (i+1))).2.2.1) else ((rcS g le sl (aw bf bc.toNat) (i+1)).2.2.1))=(rcS g le sl (aw bf bc.toNat) (i+1+1)).2.2.1:=by rw[rcS_s];rfl
 have hs3:(if ((rcS g le sl (aw bf bc.toNat) (i+1)).2.2.2)<((rqR g le sl (gi (aw bf bc.toNat) (i+1))).2.2.2) then ((rqR g le sl (gi (aw bf bc.toNat) (i+1))).2.2.2) else ((rcS g le sl (aw bf bc.toNat) (i+1)).2.2.2))=(rcS g le sl (aw bf bc.toNat) (i+1+1)).2.2.2:=by rw[rcS_s];rfl
 refine zQF hQ6 fun Q7 hn7 hQ7 he7=>?_
 have G4:=jn @hs0 (jn @hs1 (j2 hs2 hs3 G3))
 refine rcs G4 (fun h3 h3d G5=>?_) (fun h3 h3d G8=>?_)
 ·have hiL:i+1<(aw bf bc.toNat).length:=by omega
  have hgi:=oh (f:=bf) (n:=bc.toNat) _ (jE hiL)
  refine aa G5 ?_
  refine hn7 _ _ (sqR hQ6 fun Q8 hn8 hQ8 he8=>?_)
  refine bkR hQ8 fun Q9 hn9 hQ9 he9 hb9=>?_
  refine aL false try_mixed [[0,1,2,3,4,5,6,7,8,9,10,11,12],[0,1,2,3,4,5,10,6,7,8,9,11,12]] (by kernel_rfl) (fun F2 H2=>F2=[(3,.ptr (some (H.length,0))),(4,.ptr (some (H.length+1,0))),(6,.ptr (some (H.length+2,0))),(7,.sl (some (H.length+3,0)) ((aw bf bc.toNat).length) (aS (aw bf bc.toNat).length)),(8,.ptr (some (H.length+4,0))),(10,iV ((i+1:Nat):Int)),(11,.ptr (some (H.length+5,0)))]/\H2=H++[.cells true 0 [iV t,iV g],.cells true 0 [iV tu,iV le,iV sl,iV ra],.cells true 0 [iV 0,iV 0,iV 0,iV 0],.cells (aI (aw bf bc.toNat).length) 1 (ints .i64 (aw bf bc.toNat)),.cells true 0 [iV ((rcS g le sl (aw bf bc.toNat) (i+1)).1),iV ((rcS g le sl (aw bf bc.toNat) (i+1)).2.1),iV ((rcS g le sl (aw bf bc.toNat) (i+1)).2.2.1),iV ((rcS g le sl (aw bf bc.toNat) (i+1)).2.2.2)],.cells true 0 [iV ((rqR g le sl (gi (aw bf bc.toNat) (i+1))).1),iV ((rqR g le sl (gi (aw bf bc.toNat) (i+1))).2.1),iV ((rqR g le sl (gi (aw bf bc.toNat) (i+1))).2.2.1),iV ((rqR g le sl (gi (aw bf bc.toNat) (i+1))).2.2.2)]]) ?_ ?_
  ·refine af ?_ (af ?_ (aQ))<;>intro J hJ
   ·have q4:=c9 (k:=.i64) (xs:=aw bf bc.toNat) (j:=i+1) (by omega)
    have G6:=jn q4 G5
    refine ag G6 ?_
    refine cd (nP _ t g _ _ _ _ _ (by assumption) (by assumption) (by omega)) ?_
    refine ag G6 ?_
    refine ai (hJ _ _ ⟨_,_,_,⟨rfl,rfl⟩,bS hbel [0,1,2,3,4,5] dS⟩)
   have q5:=c9 (k:=.i64) (xs:=aw bf bc.toNat) (j:=i+1) (by omega)
   have G7:=jn q5 G5
   refine ag G7 ?_
   refine cd (nP _ t g _ _ _ _ _ (by assumption) (by assumption) (by omega)) ?_
   refine ag G7 ?_
   refine ai (hJ _ _ ⟨_,_,_,⟨rfl,rfl⟩,bS hbel [0,1,2,3,4,5] dS⟩)
  rintro F2 H2 ⟨rfl,rfl⟩
  refine fnF ?_
  refine aa G5 ?_
  refine hn9 _ _ ?_
  refine hn8 _ _ ?_
  refine fnF ?_
  refine aa G5 ?_
  refine hJ0 _ _ ⟨k0-1,by omega,_,_,_,⟨i+1,by omega,rfl,rfl⟩,bS hbel [0,1,2,3,4] (al (jn @Int.natCast_add @Int.natCast_one))⟩
 obtain rfl:i=(aw bf bc.toNat).length-1:=by omega
 have hfinL:(aw bf bc.toNat).length-1+1=(aw bf bc.toNat).length:=by omega
 refine aa G8 ?_
 refine he7 _ _ _ ?_
 refine he6 _ _ _ ?_
 refine hb5 _ _ ?_
 refine hn3 _ _ ?_
 refine fnF ?_
 exact eR G8 hQ hbel (.agg [iV ((rcS g le sl (aw bf bc.toNat) (((aw bf bc.toNat).length-1)+1)).1),iV ((rcS g le sl (aw bf bc.toNat) (((aw bf bc.toNat).length-1)+1)).2.1),iV ((rcS g le sl (aw bf bc.toNat) (((aw bf bc.toNat).length-1)+1)).2.2.1),iV ((rcS g le sl (aw bf bc.toNat) (((aw bf bc.toNat).length-1)+1)).2.2.2)]) results113 ⟨by rw[hfinL],rfl⟩
theorem r23mvd_c (H:ac)(x0 y0 x1 y1 f c p r q s nf nc:Int)(hb:bxB x0 y0 x1 y1 f c=true)(hp : -64<=p/\p<=64)(hr : -64<=r/\r<=64)(hq2 : -64<=q/\q<=64)(hs2 : -64<=s/\s<=64):zC 112 [.agg [iV x0,iV y0,iV x1,iV y1,iV f,iV c],.agg [iV p,iV r,iV q,iV s],.agg [iV nf,iV nc]] H (.tup [.agg [iV (mkV (bxB (x0+p) (y0+r) (x1+q) (y1+s) nf nc) (x0+p)),iV (mkV (bxB (x0+p) (y0+r) (x1+q) (y1+s) nf nc) (y0+r)),iV (mkV (bxB (x0+p) (y0+r) (x1+q) (y1+s) nf nc) (x1+q)),iV (mkV (bxB (x0+p) (y0+r) (x1+q) (y1+s) nf nc) (y1+s)),iV (mkV (bxB (x0+p) (y0+r) (x1+q) (y1+s) nf nc) nf),iV (mkV (bxB (x0+p) (y0+r) (x1+q) (y1+s) nf nc) nc)],.bool (bxB (x0+p) (y0+r) (x1+q) (y1+s) nf nc)]) H:=by
 have hbb:=bB.1 hb
 refine AcT true func112 ?_;intro hbel Q hQ
 refine aC ?_
 refine cv (iq _ _ _ _ _ _ _) ?_
 refine aC ?_
 refine cn (fun h1=>?_) (fun h1=>?_)
 ·have h1d:=bsT h1
  have hfinM:=h1d
  have G1:=jn h1 @h1d
  exact eR G1 hQ hbel (.tup [.agg [iV 0,iV 0,iV 0,iV 0,iV 0,iV 0],.bool false]) results112 ⟨by (rw[hfinM];rfl),rfl⟩
 have h1d:=bsT h1
 have hfinM:=h1d
 have G2:=jn h1 @h1d
 exact eR G2 hQ hbel (.tup [.agg [iV (x0+p),iV (y0+r),iV (x1+q),iV (y1+s),iV nf,iV nc],.bool true]) results112 ⟨by (rw[hfinM];rfl),rfl⟩
theorem rmvd_a (H:ac)(x0 y0 x1 y1 f c t g tu le sl ra:Int)(hb:bxB x0 y0 x1 y1 f c=true)(hC:bL t g=true)(hB:bO tu le sl ra=true):zC 112 [.agg [iV x0,iV y0,iV x1,iV y1,iV f,iV c],.agg [iV (imR (x0,y0,x1,y1,f,c) t g tu le sl).1,iV (imR (x0,y0,x1,y1,f,c) t g tu le sl).2.1,iV (imR (x0,y0,x1,y1,f,c) t g tu le sl).2.2.1,iV (imR (x0,y0,x1,y1,f,c) t g tu le sl).2.2.2],.agg [iV (grF (shF f c t) (ce c) tu),iV (grC (ce c) tu)]] H (.tup [.agg [iV (mkV (imO (x0,y0,x1,y1,f,c) t g tu le sl) (imB (x0,y0,x1,y1,f,c) t g tu le sl).1),iV (mkV (imO (x0,y0,x1,y1,f,c) t g tu le sl) (imB (x0,y0,x1,y1,f,c) t g tu le sl).2.1),iV (mkV (imO (x0,y0,x1,y1,f,c) t g tu le sl) (imB (x0,y0,x1,y1,f,c) t g tu le sl).2.2.1),iV (mkV (imO (x0,y0,x1,y1,f,c) t g tu le sl) (imB (x0,y0,x1,y1,f,c) t g tu le sl).2.2.2.1),iV (mkV (imO (x0,y0,x1,y1,f,c) t g tu le sl) (imB (x0,y0,x1,y1,f,c) t g tu le sl).2.2.2.2.1),iV (mkV (imO (x0,y0,x1,y1,f,c) t g tu le sl) (imB (x0,y0,x1,y1,f,c) t g tu le sl).2.2.2.2.2)],.bool (imO (x0,y0,x1,y1,f,c) t g tu le sl)]) H:=by
 have hCi:=hC
 simp only[bL,Bool.and_eq_true,bm] at hCi
 have hBi:=hB
 simp only[bO,Bool.and_eq_true,bm] at hBi
 have hbd:(-64<=(imR (x0,y0,x1,y1,f,c) t g tu le sl).1/\(imR (x0,y0,x1,y1,f,c) t g tu le sl).1<=(imR (x0,y0,x1,y1,f,c) t g tu le sl).2.2.1/\(imR (x0,y0,x1,y1,f,c) t g tu le sl).2.2.1<=64) /\ -64<=(imR (x0,y0,x1,y1,f,c) t g tu le sl).2.1/\(imR (x0,y0,x1,y1,f,c) t g tu le sl).2.1<=(imR (x0,y0,x1,y1,f,c) t g tu le sl).2.2.2/\(imR (x0,y0,x1,y1,f,c) t g tu le sl).2.2.2<=64:=nC (by omega) (by omega) (by omega) _
 have k:=r23mvd_c H x0 y0 x1 y1 f c (imR (x0,y0,x1,y1,f,c) t g tu le sl).1 (imR (x0,y0,x1,y1,f,c) t g tu le sl).2.1 (imR (x0,y0,x1,y1,f,c) t g tu le sl).2.2.1 (imR (x0,y0,x1,y1,f,c) t g tu le sl).2.2.2 (grF (shF f c t) (ce c) tu) (grC (ce c) tu) hb (by omega) (by omega) (by omega) (by omega)
 have e:bxB (x0+(imR (x0,y0,x1,y1,f,c) t g tu le sl).1) (y0+(imR (x0,y0,x1,y1,f,c) t g tu le sl).2.1) (x1+(imR (x0,y0,x1,y1,f,c) t g tu le sl).2.2.1) (y1+(imR (x0,y0,x1,y1,f,c) t g tu le sl).2.2.2) (grF (shF f c t) (ce c) tu) (grC (ce c) tu)=imO (x0,y0,x1,y1,f,c) t g tu le sl:=imO_eq (b:=(x0,y0,x1,y1,f,c)) hb (by omega) (by omega) (by omega) (by omega)
 rw[e] at k
 exact k
theorem ll (H:ac)(t g tu le sl ra f c:Int)(hC:bL t g=true)(hB:bO tu le sl ra=true)(ha:bZ f c=true)(hu:0<=tu/\tu<=8){x0 y0 x1 y1:Int}:zC 113 [.agg [iV t,iV g],.agg [iV tu,iV le,iV sl,iV ra],.agg [iV (grF (shF f c t) (ce c) tu),iV (grC (ce c) tu)]] H (.agg [iV (imR (x0,y0,x1,y1,f,c) t g tu le sl).1,iV (imR (x0,y0,x1,y1,f,c) t g tu le sl).2.1,iV (imR (x0,y0,x1,y1,f,c) t g tu le sl).2.2.1,iV (imR (x0,y0,x1,y1,f,c) t g tu le sl).2.2.2]) H :=
 r23rch_c H t g tu le sl ra _ _ hC hB (by have k:=bh.1 ha;refine fV ?_;unfold ce;split<;>omega)
theorem rimage_c (H:ac)(x0 y0 x1 y1 f c t g tu le sl ra:Int)(hb:bxB x0 y0 x1 y1 f c=true)(hC:bL t g=true)(hB:bO tu le sl ra=true):zC 70 [.agg [iV x0,iV y0,iV x1,iV y1,iV f,iV c],.agg [iV t,iV g],.agg [iV tu,iV le,iV sl,iV ra]] H (.tup [.agg [iV (mkV (imO (x0,y0,x1,y1,f,c) t g tu le sl) (imB (x0,y0,x1,y1,f,c) t g tu le sl).1),iV (mkV (imO (x0,y0,x1,y1,f,c) t g tu le sl) (imB (x0,y0,x1,y1,f,c) t g tu le sl).2.1),iV (mkV (imO (x0,y0,x1,y1,f,c) t g tu le sl) (imB (x0,y0,x1,y1,f,c) t g tu le sl).2.2.1),iV (mkV (imO (x0,y0,x1,y1,f,c) t g tu le sl) (imB (x0,y0,x1,y1,f,c) t g tu le sl).2.2.2.1),iV (mkV (imO (x0,y0,x1,y1,f,c) t g tu le sl) (imB (x0,y0,x1,y1,f,c) t g tu le sl).2.2.2.2.1),iV (mkV (imO (x0,y0,x1,y1,f,c) t g tu le sl) (imB (x0,y0,x1,y1,f,c) t g tu le sl).2.2.2.2.2)],iV (imE (x0,y0,x1,y1,f,c) t g tu le sl)]) H:=by
 have hCi:=hC
 simp only[bL,Bool.and_eq_true,bm] at hCi
 have hBi:=hB
 simp only[bO,Bool.and_eq_true,bm] at hBi
 have hbb:=bB.1 hb
 have hab:=hbb.2.2
 have ka:=bh.1 hab
 have hs2:bZ (shF f c t) (ce c)=true:=fV (by omega)
 have htu:0<=tu/\tu<=8:=by omega
 (refine aR func70 _ rfl (Nat.le_of_ble_eq_true (by kernel_rfl)) rfl ?_;intro hbel Q hQ hQ' c hc;unfold Tryz.f70 at hc;simp only[Option.some.injEq] at hc;subst hc;clear hQ')
 refine zQF hQ fun Q1 hn1 hQ1 he1=>?_
 have G1:=jn @hb (jn @hC (jn @hB @dY))
 refine aa G1 ?_
 refine hn1 _ _ (zQF hQ fun Q2 hn2 hQ2 he2=>?_)
 refine aa G1 ?_
 refine cvr G1 (r23rgt_c _ _ _ _ _ f c t g _ _ _ _) ?_
 refine hn2 _ _ ?_
 refine aL false try_mixed [[0,1,2,3,4,5,6,7,8],[0,1,2,3,4,5,7,6,8],[0,2,3,4,5,7,1,6,8]] (by kernel_rfl) (fun F2 H2=>F2=[(3,.ptr (some (H.length,0))),(4,.ptr (some (H.length+1,0))),(5,.ptr (some (H.length+2,0))),(6,.ptr (some (H.length+3,0))),(7,iV 0),(8,.ptr (some (H.length+4,0)))]/\H2=H++[.cells true 0 [iV x0,iV y0,iV x1,iV y1,iV f,iV c],.cells true 0 [iV t,iV g],.cells true 0 [iV tu,iV le,iV sl,iV ra],.cells true 0 [iV 0,iV 0,iV 0,iV 0,iV 0,iV 0],.cells true 0 [iV (grF (shF f c t) (ce c) tu),iV (grC (ce c) tu)]]) ?_ ?_
 ·refine af ?_ (af ?_ (af ?_ (aQ)))<;>intro J hJ
  ·refine ag G1 ?_
   refine cd (mS _ _ _ _ _ f c) ?_
   refine ag G1 ?_
   refine cd (mT _ f c t _ (by assumption) (by omega)) ?_
   refine ag G1 ?_
   refine ai (hJ _ _ ⟨_,_,_,⟨rfl,rfl⟩,bS hbel [0,1,2,3,4] ar⟩)
  ·refine ag G1 ?_
   refine cd (mS _ _ _ _ _ f c) ?_
   refine ag G1 ?_
   refine cd (mT _ f c t _ (by assumption) (by omega)) ?_
   refine ag G1 ?_
   refine ai (hJ _ _ ⟨_,_,_,⟨rfl,rfl⟩,bS hbel [0,1,2,3,4] ar⟩)
  refine ag G1 ?_
  refine cd (mS _ _ _ _ _ f c) ?_
  refine ag G1 ?_
  refine cd (mT _ f c t _ (by assumption) (by omega)) ?_
  refine ag G1 ?_
  refine ai (hJ _ _ ⟨_,_,_,⟨rfl,rfl⟩,bS hbel [0,1,2,3,4] ar⟩)
 rintro F2 H2 ⟨rfl,rfl⟩
 refine aL false try_mixed [[0,1,2,3,4,5,6,7,8,9,10,11,12],[0,1,2,3,4,5,10,6,7,8,9,11,12],[0,1,2,3,5,10,4,6,7,8,9,11,12]] (by kernel_rfl) (fun F2 H2=>F2=[(6,.ptr (some (H.length,0))),(7,iV 0),(9,.ptr (some (H.length+1,0))),(10,.bool (imO (x0,y0,x1,y1,f,c) t g tu le sl))]/\H2=H++[.cells true 0 [iV 0,iV 0,iV 0,iV 0,iV 0,iV 0],.cells true 0 [iV (mkV (imO (x0,y0,x1,y1,f,c) t g tu le sl) (imB (x0,y0,x1,y1,f,c) t g tu le sl).1),iV (mkV (imO (x0,y0,x1,y1,f,c) t g tu le sl) (imB (x0,y0,x1,y1,f,c) t g tu le sl).2.1),iV (mkV (imO (x0,y0,x1,y1,f,c) t g tu le sl) (imB (x0,y0,x1,y1,f,c) t g tu le sl).2.2.1),iV (mkV (imO (x0,y0,x1,y1,f,c) t g tu le sl) (imB (x0,y0,x1,y1,f,c) t g tu le sl).2.2.2.1),iV (mkV (imO (x0,y0,x1,y1,f,c) t g tu le sl) (imB (x0,y0,x1,y1,f,c) t g tu le sl).2.2.2.2.1),iV (mkV (imO (x0,y0,x1,y1,f,c) t g tu le sl) (imB (x0,y0,x1,y1,f,c) t g tu le sl).2.2.2.2.2)]]) ?_ ?_
 ·refine af ?_ (af ?_ (af ?_ (aQ)))<;>intro J hJ
  ·refine ag G1 ?_
   refine cd (ll (x0:=x0) (y0:=y0) (x1:=x1) (y1:=y1) _ t g tu le sl ra f c hC hB hab htu) ?_
   refine ag G1 ?_
   refine cd (rmvd_a _ _ _ _ _ f c t g tu le sl ra hb hC hB) ?_
   refine ag G1 ?_
   refine ai (hJ _ _ ⟨_,_,_,⟨rfl,rfl⟩,bS hbel [3,5] ar⟩)
  ·refine ag G1 ?_
   refine cd (ll (x0:=x0) (y0:=y0) (x1:=x1) (y1:=y1) _ t g tu le sl ra f c hC hB hab htu) ?_
   refine ag G1 ?_
   refine cd (rmvd_a _ _ _ _ _ f c t g tu le sl ra hb hC hB) ?_
   refine ag G1 ?_
   refine ai (hJ _ _ ⟨_,_,_,⟨rfl,rfl⟩,bS hbel [3,5] ar⟩)
  refine ag G1 ?_
  refine cd (ll (x0:=x0) (y0:=y0) (x1:=x1) (y1:=y1) _ t g tu le sl ra f c hC hB hab htu) ?_
  refine ag G1 ?_
  refine cd (rmvd_a _ _ _ _ _ f c t g tu le sl ra hb hC hB) ?_
  refine ag G1 ?_
  refine ai (hJ _ _ ⟨_,_,_,⟨rfl,rfl⟩,bS hbel [3,5] ar⟩)
 rintro F2 H2 ⟨rfl,rfl⟩
 refine fnF ?_
 refine rcs G1 (fun h1 h1d G2=>?_) (fun h1 h1d G3=>?_)
 ·have hfinM:imO (x0,y0,x1,y1,f,c) t g tu le sl=false:=h1d
  have hfinE:imE (x0,y0,x1,y1,f,c) t g tu le sl=2:=if_neg (by rw[hfinM];decide)
  exact eR G2 hQ hbel (.tup [.agg [iV 0,iV 0,iV 0,iV 0,iV 0,iV 0],iV 2]) results70 ⟨by (rw[hfinE,hfinM];rfl),rfl⟩
 have hfinM:imO (x0,y0,x1,y1,f,c) t g tu le sl=true:=h1d
 have hfinE:imE (x0,y0,x1,y1,f,c) t g tu le sl=0:=if_pos h1d
 exact eR G3 hQ hbel (.tup [.agg [iV ((imB (x0,y0,x1,y1,f,c) t g tu le sl).1),iV ((imB (x0,y0,x1,y1,f,c) t g tu le sl).2.1),iV ((imB (x0,y0,x1,y1,f,c) t g tu le sl).2.2.1),iV ((imB (x0,y0,x1,y1,f,c) t g tu le sl).2.2.2.1),iV ((imB (x0,y0,x1,y1,f,c) t g tu le sl).2.2.2.2.1),iV ((imB (x0,y0,x1,y1,f,c) t g tu le sl).2.2.2.2.2)],iV 0]) results70 ⟨by (rw[hfinE,hfinM];rfl),rfl⟩
theorem imE_0 {b:T6}{t g tu le sl:Int}(h:imE b t g tu le sl=0):imO b t g tu le sl=true:=by
 unfold imE at h;split at h
 ·assumption
 cases h
theorem imE_n {b:T6}{t g tu le sl:Int}(h:¬imE b t g tu le sl=0):imE b t g tu le sl=2:=by
 unfold imE at h ⊢;split
 ·rename_i q;rw[if_pos q] at h;exact absurd rfl h
 rfl
theorem ji (H:ac)(b:T6)(t g tu le sl ra:Int)(hb:bl b=true)(hC:bL t g=true)(hB:bO tu le sl ra=true):zC 70 [.agg [iV b.1,iV b.2.1,iV b.2.2.1,iV b.2.2.2.1,iV b.2.2.2.2.1,iV b.2.2.2.2.2],.agg [iV t,iV g],.agg [iV tu,iV le,iV sl,iV ra]] H (.tup [.agg [iV (mkV (imO b t g tu le sl) (imB b t g tu le sl).1),iV (mkV (imO b t g tu le sl) (imB b t g tu le sl).2.1),iV (mkV (imO b t g tu le sl) (imB b t g tu le sl).2.2.1),iV (mkV (imO b t g tu le sl) (imB b t g tu le sl).2.2.2.1),iV (mkV (imO b t g tu le sl) (imB b t g tu le sl).2.2.2.2.1),iV (mkV (imO b t g tu le sl) (imB b t g tu le sl).2.2.2.2.2)],iV (imE b t g tu le sl)]) H :=
 rimage_c H b.1 b.2.1 b.2.2.1 b.2.2.2.1 b.2.2.2.2.1 b.2.2.2.2.2 t g tu le sl ra hb hC hB
theorem kA (H:ac)(b:T6)(t g tu le sl ra:Int)(hb:bl b=true)(hC:bL t g=true)(hB:bO tu le sl ra=true)(h:imO b t g tu le sl=true):zC 70 [.agg [iV b.1,iV b.2.1,iV b.2.2.1,iV b.2.2.2.1,iV b.2.2.2.2.1,iV b.2.2.2.2.2],.agg [iV t,iV g],.agg [iV tu,iV le,iV sl,iV ra]] H (.tup [.agg [iV (imB b t g tu le sl).1,iV (imB b t g tu le sl).2.1,iV (imB b t g tu le sl).2.2.1,iV (imB b t g tu le sl).2.2.2.1,iV (imB b t g tu le sl).2.2.2.2.1,iV (imB b t g tu le sl).2.2.2.2.2],iV 0]) H:=by
 have k:=ji H b t g tu le sl ra hb hC hB
 unfold imE mkV at k
 simp only[h,if_true] at k
 exact k
theorem rboxes_y (H:ac)(s:AV)(l:List T6)(t g tu le sl ra:Int)(still:Bool)(hs:Sl H 6 s l.length (r6 l))(hS:bk l=true)(hC:bL t g=true)(hB:bO tu le sl ra=true)(hA:imA l t (stF still g) tu le sl=true):zC 46 [s,.agg [iV t,iV g],.agg [iV tu,iV le,iV sl,iV ra],.bool still] H (.tup [.sl (some (H.length,0)) ((imS l t (stF still g) tu le sl l.length).length) (aS (imS l t (stF still g) tu le sl l.length).length),iV 0]) (H++[.cells (aI (imS l t (stF still g) tu le sl l.length).length) 6 (r6 (imS l t (stF still g) tu le sl l.length))]):=by
 obtain⟨bs,os,cs,rfl,hbs,hbls,hb0s⟩:=zA1 hs
 have hSS:=bi.1 hS
 have hl16:=hSS.1
 have hC2:=gN still hC
 (refine aR func46 _ rfl (Nat.le_of_ble_eq_true (by kernel_rfl)) rfl ?_;intro hbel Q hQ hQ' c hc;unfold Tryz.f46 at hc;simp only[Option.some.injEq] at hc;subst hc;clear hQ')
 refine zQF hQ fun Q1 hn1 hQ1 he1=>?_
 have G1:=jn @hbs (jn @hb0s (jn @hC (jn @hB @hS)))
 refine aa G1 ?_
 refine hn1 _ _ (zQF hQ fun Q2 hn2 hQ2 he2=>?_)
 refine aa G1 ?_
 refine cvr G1 (jP _ _ l (zA2 hb0s hbs) (by omega)) ?_
 refine cvr G1 (g8 _ t g) ?_
 refine cvr G1 (jM _ _ _ _ _) ?_
 refine hn2 _ _ (zQF hQ fun Q3 hn3 hQ3 he3=>?_)
 refine rcs G1 (fun h1 h1d G2=>?_) (fun h1 h1d G9=>?_)
 ·have hst0:stF still g=0:=by unfold stF;rw[h1d];rfl
  rw[hst0] at hA hC2
  refine aa G2 ?_
  refine hn3 _ _ (zQF hQ fun Q4 hn4 hQ4 he4=>?_)
  refine aa G2 ?_
  refine hn4 _ _ (sqR hQ fun Q5 hn5 hQ5 he5=>?_)
  refine zQF hQ5 fun Q6 hn6 hQ6 he6=>?_
  refine aa G2 ?_
  refine hn6 _ _ ?_
  refine bkR hQ5 fun Q7 hn7 hQ7 he7 hb7=>?_
  refine cW (fun k F Hx=>∃i:Nat,i+k=l.length/\F=[(0,.sl (some (bs,0)) l.length cs),(5,.ptr (some (H.length,0))),(6,.ptr (some (H.length+1,0))),(10,.sl (some (H.length+2,0)) ((imS l t 0 tu le sl i).length) (aS (imS l t 0 tu le sl i).length)),(11,iV (i:Int))]/\Hx=H++[.cells true 0 [iV t,iV 0],.cells true 0 [iV tu,iV le,iV sl,iV ra],.cells (aI (imS l t 0 tu le sl i).length) 6 (r6 (imS l t 0 tu le sl i))]) (l.length) ?_ ?_
  ·refine⟨_,_,_,⟨0,by omega,rfl,rfl⟩,Abs.byG hbel [.cells false 6 []] rfl [0,1,2] (by decide) ?_⟩
   exact al (jn @imS.eq_1 (jn @ap (jn @au (jn @aA @ax))))
  rintro k1 F Hx ⟨i,hm1,rfl,rfl⟩ Q8 hJ1 hr8 he8
  have hQ8:=fun F H' h=>hr8 F H' (hQ7 F H' h)
  have hil0:=cE (l:=l) (t:=t) (f:=0) (tu:=tu) (le:=le) (sl:=sl) i
  refine zQF hQ8 fun Q9 hn9 hQ9 he9=>?_
  have G3:=jn @bo (jn @cQ G2)
  refine rcs G3 (fun h2 h2d G4=>?_) (fun h2 h2d G8=>?_)
  ·have hlt:i<l.length:=by omega
   have hbv:bl (g6 l i)=true:=hSS.2 _ (bY hlt)
   have hil:=cE (l:=l) (t:=t) (f:=0) (tu:=tu) (le:=le) (sl:=sl) i
   refine aa G4 ?_
   refine hn9 _ _ (sqR hQ8 fun Q10 hn10 hQ10 he10=>?_)
   refine bkR hQ10 fun Q11 hn11 hQ11 he11 hb11=>?_
   refine aL false try_mixed [[0,1,2,3,4,5,6,7,8,9,10,11,12],[0,1,2,3,4,5,10,6,7,8,9,11,12]] (by kernel_rfl) (fun F2 H2=>F2=[(0,.sl (some (bs,0)) l.length cs),(5,.ptr (some (H.length,0))),(6,.ptr (some (H.length+1,0))),(10,.sl (some (H.length+2,0)) ((imS l t 0 tu le sl i).length) (aS (imS l t 0 tu le sl i).length)),(11,iV (i:Int)),(12,.ptr (some (H.length+3,0))),(13,iV 0)]/\H2=H++[.cells true 0 [iV t,iV 0],.cells true 0 [iV tu,iV le,iV sl,iV ra],.cells (aI (imS l t 0 tu le sl i).length) 6 (r6 (imS l t 0 tu le sl i)),.cells true 0 [iV ((imB (g6 l i) t 0 tu le sl).1),iV ((imB (g6 l i) t 0 tu le sl).2.1),iV ((imB (g6 l i) t 0 tu le sl).2.2.1),iV ((imB (g6 l i) t 0 tu le sl).2.2.2.1),iV ((imB (g6 l i) t 0 tu le sl).2.2.2.2.1),iV ((imB (g6 l i) t 0 tu le sl).2.2.2.2.2)]]) ?_ ?_
   ·refine af ?_ (af ?_ (aQ))<;>intro J hJ
    ·have q3:=bD (l:=l) (j:=i) (by omega)
     have G5:=jn q3 G4
     refine ag G5 ?_
     refine cd (kA _ (g6 l i) t 0 _ _ _ _ (by assumption) (by assumption) (by assumption) (jW hA hlt)) ?_
     refine ag G5 ?_
     refine ai (hJ _ _ ⟨_,_,_,⟨rfl,rfl⟩,bS hbel [0,1,2,3] (al (jn @ap (jn @au (jn @aA @ax))))⟩)
    have q4:=bD (l:=l) (j:=i) (by omega)
    have G6:=jn q4 G4
    refine ag G6 ?_
    refine cd (kA _ (g6 l i) t 0 _ _ _ _ (by assumption) (by assumption) (by assumption) (jW hA hlt)) ?_
    refine ag G6 ?_
    refine ai (hJ _ _ ⟨_,_,_,⟨rfl,rfl⟩,bS hbel [0,1,2,3] (al (jn @ap (jn @au (jn @aA @ax))))⟩)
   rintro F2 H2 ⟨rfl,rfl⟩
   refine fnF ?_
   have G7:=jn @ba (jn @cH G4)
   refine aa G7 ?_
   refine hn11 _ _ ?_
   refine hn10 _ _ ?_
   refine fnF ?_
   refine aa G7 ?_
   refine hJ1 _ _ ⟨k1-1,by omega,_,_,_,⟨i+1,by omega,rfl,rfl⟩,bS hbel [0,1,5] (al (jn @imS.eq_2 (jn @ap (jn @au (jn @aA @ax)))))⟩
  obtain rfl:i=l.length:=by omega
  refine aa G8 ?_
  refine he9 _ _ _ ?_
  refine he8 _ _ _ ?_
  refine hb7 _ _ ?_
  refine hn5 _ _ ?_
  refine fnF ?_
  refine aa G8 ?_
  refine hQ _ _ (aM (.inl rfl) hbel (x1:=.tup [.sl (some (H.length+2,0)) ((imS l t 0 tu le sl l.length).length) (aS (imS l t 0 tu le sl l.length).length),iV 0]) (l2:=[.cells (aI (imS l t 0 tu le sl l.length).length) 6 (r6 (imS l t 0 tu le sl l.length))]) (.tup [.sl (some (H.length,0)) ((imS l t 0 tu le sl l.length).length) (aS (imS l t 0 tu le sl l.length).length),iV 0]) (aU results46) [] rfl [2] (by decide) ⟨by rw[hst0],by rw[hst0]⟩ ?_)
  exact aF @ax
 have hst0:stF still g=g:=by unfold stF;rw[h1d];rfl
 rw[hst0] at hA hC2
 refine aa G9 ?_
 refine hn3 _ _ (zQF hQ fun Q12 hn12 hQ12 he12=>?_)
 refine aa G9 ?_
 refine hn12 _ _ (sqR hQ fun Q13 hn13 hQ13 he13=>?_)
 refine zQF hQ13 fun Q14 hn14 hQ14 he14=>?_
 refine aa G9 ?_
 refine hn14 _ _ ?_
 refine bkR hQ13 fun Q15 hn15 hQ15 he15 hb15=>?_
 refine cW (fun k F Hx=>∃i:Nat,i+k=l.length/\F=[(0,.sl (some (bs,0)) l.length cs),(5,.ptr (some (H.length,0))),(6,.ptr (some (H.length+1,0))),(10,.sl (some (H.length+2,0)) ((imS l t g tu le sl i).length) (aS (imS l t g tu le sl i).length)),(11,iV (i:Int))]/\Hx=H++[.cells true 0 [iV t,iV g],.cells true 0 [iV tu,iV le,iV sl,iV ra],.cells (aI (imS l t g tu le sl i).length) 6 (r6 (imS l t g tu le sl i))]) (l.length) ?_ ?_
 ·refine⟨_,_,_,⟨0,by omega,rfl,rfl⟩,Abs.byG hbel [.cells false 6 []] rfl [0,1,2] (by decide) ?_⟩
  exact al (jn @imS.eq_1 (jn @ap (jn @au (jn @aA @ax))))
 rintro k2 F Hx ⟨i,hm2,rfl,rfl⟩ Q16 hJ2 hr16 he16
 have hQ16:=fun F H' h=>hr16 F H' (hQ15 F H' h)
 have hil0:=cE (l:=l) (t:=t) (f:=g) (tu:=tu) (le:=le) (sl:=sl) i
 refine zQF hQ16 fun Q17 hn17 hQ17 he17=>?_
 have G10:=jn @bo (jn @cQ G9)
 refine rcs G10 (fun h5 h5d G11=>?_) (fun h5 h5d G15=>?_)
 ·have hlt:i<l.length:=by omega
  have hbv:bl (g6 l i)=true:=hSS.2 _ (bY hlt)
  have hil:=cE (l:=l) (t:=t) (f:=g) (tu:=tu) (le:=le) (sl:=sl) i
  refine aa G11 ?_
  refine hn17 _ _ (sqR hQ16 fun Q18 hn18 hQ18 he18=>?_)
  refine bkR hQ18 fun Q19 hn19 hQ19 he19 hb19=>?_
  refine aL false try_mixed [[0,1,2,3,4,5,6,7,8,9,10,11,12],[0,1,2,3,4,5,10,6,7,8,9,11,12]] (by kernel_rfl) (fun F2 H2=>F2=[(0,.sl (some (bs,0)) l.length cs),(5,.ptr (some (H.length,0))),(6,.ptr (some (H.length+1,0))),(10,.sl (some (H.length+2,0)) ((imS l t g tu le sl i).length) (aS (imS l t g tu le sl i).length)),(11,iV (i:Int)),(12,.ptr (some (H.length+3,0))),(13,iV 0)]/\H2=H++[.cells true 0 [iV t,iV g],.cells true 0 [iV tu,iV le,iV sl,iV ra],.cells (aI (imS l t g tu le sl i).length) 6 (r6 (imS l t g tu le sl i)),.cells true 0 [iV ((imB (g6 l i) t g tu le sl).1),iV ((imB (g6 l i) t g tu le sl).2.1),iV ((imB (g6 l i) t g tu le sl).2.2.1),iV ((imB (g6 l i) t g tu le sl).2.2.2.1),iV ((imB (g6 l i) t g tu le sl).2.2.2.2.1),iV ((imB (g6 l i) t g tu le sl).2.2.2.2.2)]]) ?_ ?_
  ·refine af ?_ (af ?_ (aQ))<;>intro J hJ
   ·have q6:=bD (l:=l) (j:=i) (by omega)
    have G12:=jn q6 G11
    refine ag G12 ?_
    refine cd (kA _ (g6 l i) t g _ _ _ _ (by assumption) (by assumption) (by assumption) (jW hA hlt)) ?_
    refine ag G12 ?_
    refine ai (hJ _ _ ⟨_,_,_,⟨rfl,rfl⟩,bS hbel [0,1,2,3] (al (jn @ap (jn @au (jn @aA @ax))))⟩)
   have q7:=bD (l:=l) (j:=i) (by omega)
   have G13:=jn q7 G11
   refine ag G13 ?_
   refine cd (kA _ (g6 l i) t g _ _ _ _ (by assumption) (by assumption) (by assumption) (jW hA hlt)) ?_
   refine ag G13 ?_
   refine ai (hJ _ _ ⟨_,_,_,⟨rfl,rfl⟩,bS hbel [0,1,2,3] (al (jn @ap (jn @au (jn @aA @ax))))⟩)
  rintro F2 H2 ⟨rfl,rfl⟩
  refine fnF ?_
  have G14:=jn @ba (jn @cH G11)
  refine aa G14 ?_
  refine hn19 _ _ ?_
  refine hn18 _ _ ?_
  refine fnF ?_
  refine aa G14 ?_
  refine hJ2 _ _ ⟨k2-1,by omega,_,_,_,⟨i+1,by omega,rfl,rfl⟩,bS hbel [0,1,5] (al (jn @imS.eq_2 (jn @ap (jn @au (jn @aA @ax)))))⟩
 obtain rfl:i=l.length:=by omega
 refine aa G15 ?_
 refine he17 _ _ _ ?_
 refine he16 _ _ _ ?_
 refine hb15 _ _ ?_
 refine hn13 _ _ ?_
 refine fnF ?_
 refine aa G15 ?_
 refine hQ _ _ (aM (.inl rfl) hbel (x1:=.tup [.sl (some (H.length+2,0)) ((imS l t g tu le sl l.length).length) (aS (imS l t g tu le sl l.length).length),iV 0]) (l2:=[.cells (aI (imS l t g tu le sl l.length).length) 6 (r6 (imS l t g tu le sl l.length))]) (.tup [.sl (some (H.length,0)) ((imS l t g tu le sl l.length).length) (aS (imS l t g tu le sl l.length).length),iV 0]) (aU results46) [] rfl [2] (by decide) ⟨by rw[hst0],by rw[hst0]⟩ ?_)
 exact aF @ax
theorem rboxes_n (H:ac)(s:AV)(l:List T6)(t g tu le sl ra:Int)(still:Bool)(hs:Sl H 6 s l.length (r6 l))(hS:bk l=true)(hC:bL t g=true)(hB:bO tu le sl ra=true)(hA:imA l t (stF still g) tu le sl=false):zC 46 [s,.agg [iV t,iV g],.agg [iV tu,iV le,iV sl,iV ra],.bool still] H (.tup [.sl none 0 (some 0),iV 2]) H:=by
 obtain⟨bs,os,cs,rfl,hbs,hbls,hb0s⟩:=zA1 hs
 have hSS:=bi.1 hS
 have hl16:=hSS.1
 have hC2:=gN still hC
 (refine aR func46 _ rfl (Nat.le_of_ble_eq_true (by kernel_rfl)) rfl ?_;intro hbel Q hQ hQ' c hc;unfold Tryz.f46 at hc;simp only[Option.some.injEq] at hc;subst hc;clear hQ')
 refine zQF hQ fun Q20 hn20 hQ20 he20=>?_
 have G16:=jn @hbs (jn @hb0s (jn @hC (jn @hB (jn @hS @dY))))
 refine aa G16 ?_
 refine hn20 _ _ (zQF hQ fun Q21 hn21 hQ21 he21=>?_)
 refine aa G16 ?_
 refine cvr G16 (jP _ _ l (zA2 hb0s hbs) (by omega)) ?_
 refine cvr G16 (g8 _ t g) ?_
 refine cvr G16 (jM _ _ _ _ _) ?_
 refine hn21 _ _ (zQF hQ fun Q22 hn22 hQ22 he22=>?_)
 refine rcs G16 (fun h1 h1d G17=>?_) (fun h1 h1d G24=>?_)
 ·have hst0:stF still g=0:=by unfold stF;rw[h1d];rfl
  rw[hst0] at hA hC2
  refine aa G17 ?_
  refine hn22 _ _ (zQF hQ fun Q23 hn23 hQ23 he23=>?_)
  refine aa G17 ?_
  refine hn23 _ _ (sqR hQ fun Q24 hn24 hQ24 he24=>?_)
  refine zQF hQ24 fun Q25 hn25 hQ25 he25=>?_
  refine aa G17 ?_
  refine hn25 _ _ ?_
  refine bkR hQ24 fun Q26 hn26 hQ26 he26 hb26=>?_
  refine cW (fun k F Hx=>∃i:Nat,i+k=l.length/\(∀j:Nat,j<i->imO (g6 l j) t 0 tu le sl=true)/\F=[(0,.sl (some (bs,0)) l.length cs),(5,.ptr (some (H.length,0))),(6,.ptr (some (H.length+1,0))),(10,.sl (some (H.length+2,0)) ((imS l t 0 tu le sl i).length) (aS (imS l t 0 tu le sl i).length)),(11,iV (i:Int))]/\Hx=H++[.cells true 0 [iV t,iV 0],.cells true 0 [iV tu,iV le,iV sl,iV ra],.cells (aI (imS l t 0 tu le sl i).length) 6 (r6 (imS l t 0 tu le sl i))]) (l.length) ?_ ?_
  ·refine⟨_,_,_,⟨0,by omega,fun j h=>by omega,rfl,rfl⟩,Abs.byG hbel [.cells false 6 []] rfl [0,1,2] (by decide) ?_⟩
   exact al (jn @imS.eq_1 (jn @ap (jn @au (jn @aA @ax))))
  rintro k1 F Hx ⟨i,hm1,hall,rfl,rfl⟩ Q27 hJ1 hr27 he27
  have hQ27:=fun F H' h=>hr27 F H' (hQ26 F H' h)
  have hil0:=cE (l:=l) (t:=t) (f:=0) (tu:=tu) (le:=le) (sl:=sl) i
  refine zQF hQ27 fun Q28 hn28 hQ28 he28=>?_
  have G18:=jn @bo (jn @cQ G17)
  refine rcs G18 (fun h2 h2d G19=>?_) (fun h2 h2d _=>?_)
  ·have hlt:i<l.length:=by omega
   have hbv:bl (g6 l i)=true:=hSS.2 _ (bY hlt)
   have hil:=cE (l:=l) (t:=t) (f:=0) (tu:=tu) (le:=le) (sl:=sl) i
   refine aa G19 ?_
   refine hn28 _ _ (sqR hQ27 fun Q29 hn29 hQ29 he29=>?_)
   refine bkR hQ29 fun Q30 hn30 hQ30 he30 hb30=>?_
   refine aL false try_mixed [[0,1,2,3,4,5,6,7,8,9,10,11,12],[0,1,2,3,4,5,10,6,7,8,9,11,12]] (by kernel_rfl) (fun F2 H2=>F2=[(0,.sl (some (bs,0)) l.length cs),(5,.ptr (some (H.length,0))),(6,.ptr (some (H.length+1,0))),(10,.sl (some (H.length+2,0)) ((imS l t 0 tu le sl i).length) (aS (imS l t 0 tu le sl i).length)),(11,iV (i:Int)),(12,.ptr (some (H.length+3,0))),(13,iV (imE (g6 l i) t 0 tu le sl))]/\H2=H++[.cells true 0 [iV t,iV 0],.cells true 0 [iV tu,iV le,iV sl,iV ra],.cells (aI (imS l t 0 tu le sl i).length) 6 (r6 (imS l t 0 tu le sl i)),.cells true 0 [iV (mkV (imO (g6 l i) t 0 tu le sl) (imB (g6 l i) t 0 tu le sl).1),iV (mkV (imO (g6 l i) t 0 tu le sl) (imB (g6 l i) t 0 tu le sl).2.1),iV (mkV (imO (g6 l i) t 0 tu le sl) (imB (g6 l i) t 0 tu le sl).2.2.1),iV (mkV (imO (g6 l i) t 0 tu le sl) (imB (g6 l i) t 0 tu le sl).2.2.2.1),iV (mkV (imO (g6 l i) t 0 tu le sl) (imB (g6 l i) t 0 tu le sl).2.2.2.2.1),iV (mkV (imO (g6 l i) t 0 tu le sl) (imB (g6 l i) t 0 tu le sl).2.2.2.2.2)]]) ?_ ?_
   ·refine af ?_ (af ?_ (aQ))<;>intro J hJ
    ·have q3:=bD (l:=l) (j:=i) (by omega)
     have G20:=jn q3 G19
     refine ag G20 ?_
     refine cd (ji _ (g6 l i) t 0 _ _ _ _ (by assumption) (by assumption) (by assumption)) ?_
     refine ag G20 ?_
     refine ai (hJ _ _ ⟨_,_,_,⟨rfl,rfl⟩,bS hbel [0,1,2,3] (al (jn @ap (jn @au (jn @aA @ax))))⟩)
    have q4:=bD (l:=l) (j:=i) (by omega)
    have G21:=jn q4 G19
    refine ag G21 ?_
    refine cd (ji _ (g6 l i) t 0 _ _ _ _ (by assumption) (by assumption) (by assumption)) ?_
    refine ag G21 ?_
    refine ai (hJ _ _ ⟨_,_,_,⟨rfl,rfl⟩,bS hbel [0,1,2,3] (al (jn @ap (jn @au (jn @aA @ax))))⟩)
   rintro F2 H2 ⟨rfl,rfl⟩
   refine fnF ?_
   refine rcs G19 (fun h5 h5d _=>?_) (fun h5 h5d _=>?_)
   ·have h5n:=bnT h5
    have hfinE:imE (g6 l i) t 0 tu le sl=2:=imE_n (by exact h5d)
    have G22:=jn h5 (jn h5n (jn @aK (jn @aJ G19)))
    exact eR G22 hQ30 hbel (.tup [.sl none 0 (some 0),iV (imE (g6 l i) t 0 tu le sl)]) results46 ⟨by rw[hfinE],rfl⟩
   have h5n:=bnT h5
   have hsfo:imO (g6 l i) t 0 tu le sl=true:=imE_0 (by exact h5d)
   have G23:=jn h5 (jn h5n (jn @aK (jn @aJ (jn @hsfo (jn @ba (jn @cH G19))))))
   refine aa G23 ?_
   refine hn30 _ _ ?_
   refine hn29 _ _ ?_
   refine fnF ?_
   refine aa G23 ?_
   refine hJ1 _ _ ⟨k1-1,by omega,_,_,_,⟨i+1,by omega,fun j hj=>by
         rcases Nat.lt_or_ge j i with hji|hji
         ·exact hall j hji
         rw[show j=i by omega];exact hsfo,rfl,rfl⟩,bS hbel [0,1,5] (al (jn @imS.eq_2 (jn @ap (jn @au (jn @aA @ax)))))⟩
  obtain rfl:i=l.length:=by omega
  exact absurd ((imA_y hall).symm.trans hA) (by decide)
 have hst0:stF still g=g:=by unfold stF;rw[h1d];rfl
 rw[hst0] at hA hC2
 refine aa G24 ?_
 refine hn22 _ _ (zQF hQ fun Q31 hn31 hQ31 he31=>?_)
 refine aa G24 ?_
 refine hn31 _ _ (sqR hQ fun Q32 hn32 hQ32 he32=>?_)
 refine zQF hQ32 fun Q33 hn33 hQ33 he33=>?_
 refine aa G24 ?_
 refine hn33 _ _ ?_
 refine bkR hQ32 fun Q34 hn34 hQ34 he34 hb34=>?_
 refine cW (fun k F Hx=>∃i:Nat,i+k=l.length/\(∀j:Nat,j<i->imO (g6 l j) t g tu le sl=true)/\F=[(0,.sl (some (bs,0)) l.length cs),(5,.ptr (some (H.length,0))),(6,.ptr (some (H.length+1,0))),(10,.sl (some (H.length+2,0)) ((imS l t g tu le sl i).length) (aS (imS l t g tu le sl i).length)),(11,iV (i:Int))]/\Hx=H++[.cells true 0 [iV t,iV g],.cells true 0 [iV tu,iV le,iV sl,iV ra],.cells (aI (imS l t g tu le sl i).length) 6 (r6 (imS l t g tu le sl i))]) (l.length) ?_ ?_
 ·refine⟨_,_,_,⟨0,by omega,fun j h=>by omega,rfl,rfl⟩,Abs.byG hbel [.cells false 6 []] rfl [0,1,2] (by decide) ?_⟩
  exact al (jn @imS.eq_1 (jn @ap (jn @au (jn @aA @ax))))
 rintro k2 F Hx ⟨i,hm2,hall,rfl,rfl⟩ Q35 hJ2 hr35 he35
 have hQ35:=fun F H' h=>hr35 F H' (hQ34 F H' h)
 have hil0:=cE (l:=l) (t:=t) (f:=g) (tu:=tu) (le:=le) (sl:=sl) i
 refine zQF hQ35 fun Q36 hn36 hQ36 he36=>?_
 have G25:=jn @bo (jn @cQ G24)
 refine rcs G25 (fun h6 h6d G26=>?_) (fun h6 h6d _=>?_)
 ·have hlt:i<l.length:=by omega
  have hbv:bl (g6 l i)=true:=hSS.2 _ (bY hlt)
  have hil:=cE (l:=l) (t:=t) (f:=g) (tu:=tu) (le:=le) (sl:=sl) i
  refine aa G26 ?_
  refine hn36 _ _ (sqR hQ35 fun Q37 hn37 hQ37 he37=>?_)
  refine bkR hQ37 fun Q38 hn38 hQ38 he38 hb38=>?_
  refine aL false try_mixed [[0,1,2,3,4,5,6,7,8,9,10,11,12],[0,1,2,3,4,5,10,6,7,8,9,11,12]] (by kernel_rfl) (fun F2 H2=>F2=[(0,.sl (some (bs,0)) l.length cs),(5,.ptr (some (H.length,0))),(6,.ptr (some (H.length+1,0))),(10,.sl (some (H.length+2,0)) ((imS l t g tu le sl i).length) (aS (imS l t g tu le sl i).length)),(11,iV (i:Int)),(12,.ptr (some (H.length+3,0))),(13,iV (imE (g6 l i) t g tu le sl))]/\H2=H++[.cells true 0 [iV t,iV g],.cells true 0 [iV tu,iV le,iV sl,iV ra],.cells (aI (imS l t g tu le sl i).length) 6 (r6 (imS l t g tu le sl i)),.cells true 0 [iV (mkV (imO (g6 l i) t g tu le sl) (imB (g6 l i) t g tu le sl).1),iV (mkV (imO (g6 l i) t g tu le sl) (imB (g6 l i) t g tu le sl).2.1),iV (mkV (imO (g6 l i) t g tu le sl) (imB (g6 l i) t g tu le sl).2.2.1),iV (mkV (imO (g6 l i) t g tu le sl) (imB (g6 l i) t g tu le sl).2.2.2.1),iV (mkV (imO (g6 l i) t g tu le sl) (imB (g6 l i) t g tu le sl).2.2.2.2.1),iV (mkV (imO (g6 l i) t g tu le sl) (imB (g6 l i) t g tu le sl).2.2.2.2.2)]]) ?_ ?_
  ·refine af ?_ (af ?_ (aQ))<;>intro J hJ
   ·have q7:=bD (l:=l) (j:=i) (by omega)
    have G27:=jn q7 G26
    refine ag G27 ?_
    refine cd (ji _ (g6 l i) t g _ _ _ _ (by assumption) (by assumption) (by assumption)) ?_
    refine ag G27 ?_
    refine ai (hJ _ _ ⟨_,_,_,⟨rfl,rfl⟩,bS hbel [0,1,2,3] (al (jn @ap (jn @au (jn @aA @ax))))⟩)
   have q8:=bD (l:=l) (j:=i) (by omega)
   have G28:=jn q8 G26
   refine ag G28 ?_
   refine cd (ji _ (g6 l i) t g _ _ _ _ (by assumption) (by assumption) (by assumption)) ?_
   refine ag G28 ?_
   refine ai (hJ _ _ ⟨_,_,_,⟨rfl,rfl⟩,bS hbel [0,1,2,3] (al (jn @ap (jn @au (jn @aA @ax))))⟩)
  rintro F2 H2 ⟨rfl,rfl⟩
  refine fnF ?_
  refine rcs G26 (fun h9 h9d _=>?_) (fun h9 h9d _=>?_)
  ·have h9n:=bnT h9
   have hfinE:imE (g6 l i) t g tu le sl=2:=imE_n (by exact h9d)
   have G29:=jn h9 (jn h9n (jn @aK (jn @aJ G26)))
   exact eR G29 hQ38 hbel (.tup [.sl none 0 (some 0),iV (imE (g6 l i) t g tu le sl)]) results46 ⟨by rw[hfinE],rfl⟩
  have h9n:=bnT h9
  have hsfo:imO (g6 l i) t g tu le sl=true:=imE_0 (by exact h9d)
  have G30:=jn h9 (jn h9n (jn @aK (jn @aJ (jn @hsfo (jn @ba (jn @cH G26))))))
  refine aa G30 ?_
  refine hn38 _ _ ?_
  refine hn37 _ _ ?_
  refine fnF ?_
  refine aa G30 ?_
  refine hJ2 _ _ ⟨k2-1,by omega,_,_,_,⟨i+1,by omega,fun j hj=>by
        rcases Nat.lt_or_ge j i with hji|hji
        ·exact hall j hji
        rw[show j=i by omega];exact hsfo,rfl,rfl⟩,bS hbel [0,1,5] (al (jn @imS.eq_2 (jn @ap (jn @au (jn @aA @ax)))))⟩
 obtain rfl:i=l.length:=by omega
 exact absurd ((imA_y hall).symm.trans hA) (by decide)
theorem rboxes_p (H:ac)(s:AV)(l:List T6)(t g tu le sl ra:Int)(still:Bool)(hs:Sl H 6 s l.length (r6 l))(hS:bk l=true)(hl0:0<l.length)(hC:bL t g=true)(hB:bO tu le sl ra=true)(hA:imA l t (stF still g) tu le sl=true):zC 46 [s,.agg [iV t,iV g],.agg [iV tu,iV le,iV sl,iV ra],.bool still] H (.tup [.sl (some (H.length,0)) ((imS l t (stF still g) tu le sl l.length).length) none,iV 0]) (H++[.cells true 6 (r6 (imS l t (stF still g) tu le sl l.length))]):=by
 have k:=rboxes_y H s l t g tu le sl ra still hs hS hC hB hA
 rw[iQ (by rw[cE];exact hl0),dD (by rw[cE];exact hl0)] at k
 exact k
theorem rmv_y (H:ac)(W Hh:Int)(pp:AV)(xs:List Int)(s:AV)(l:List T6)(tu le sl ra:Int)(bz:Nat)(t g:Int)(still:Bool)(hpp:zI H pp xs)(hs:Sl H 6 s l.length (r6 l))(hz:H[bz]? = some (.cells true 0 [iV W,iV Hh,pp,s,iV tu,iV le,iV sl,iV ra,.bool false]))(hS:bk l=true)(hl0:0<l.length)(hC:bL t g=true)(hB:bO tu le sl ra=true)(hA:imA l t (stF still g) tu le sl=true):zC 20 [.ptr (some (bz,0)),.agg [iV t,iV g],.bool still] H (iV 0) (H.set bz (.cells true 0 [iV W,iV Hh,pp,.sl (some (H.length,0)) ((imS l t (stF still g) tu le sl l.length).length) none,iV tu,iV le,iV sl,iV ra,.bool false])++[.cells true 6 (r6 (imS l t (stF still g) tu le sl l.length))]):=by
 obtain⟨bpp,opp,cpp,rfl,hbpp,hblpp,hb0pp⟩:=zA1 hpp
 obtain⟨bs,os,cs,rfl,hbs,hbls,hb0s⟩:=zA1 hs
 have hbz:=hz
 have hblz:=getElem?_lt hbz
 have hb0z:=fun l=>ae (l:=l) hbz
 refine AcT false func20 ?_;intro hbel Q hQ
 have G1:=jn @hbpp (jn @hb0pp (jn @hbs (jn @hb0s (jn @hbz (jn @hb0z (jn @hC (jn @hB (jn @hA @Option.isNone_some.{0}))))))))
 refine aa G1 ?_
 refine cvr G1 (g8 _ t g) ?_
 rcases Bool.eq_false_or_eq_true (imA l t (stF still g) tu le sl) with h1|h1
 ·have h1d:=h1
  refine cx (rboxes_p _ _ l t g _ _ _ _ _ (zA2 hb0s hbs) (by assumption) hl0 hC hB hA) ?_
  have G2:=jn h1 (jn h1d (jn @hblz (jn @d5 (jn @ee (jn @ez (jn @d9 (jn @eW (jn @ft (jn @eX (jn @fu (jn @List.length_set.{0} (jn @List.set_set.{0} G1))))))))))))
  refine aa G2 ?_
  refine hQ _ _ (fz (b1:=.cells true 0 [iV W,iV Hh,.sl (some (bpp,0)) xs.length cpp,.sl (some (H.length+1,0)) ((imS l t (stF still g) tu le sl l.length).length) none,iV tu,iV le,iV sl,iV ra,.bool false]) (.cells true 0 [iV W,iV Hh,.sl (some (bpp,0)) xs.length cpp,.sl (some (H.length,0)) ((imS l t (stF still g) tu le sl l.length).length) none,iV tu,iV le,iV sl,iV ra,.bool false]) (l1:=[.cells true 0 [iV t,iV g],.cells true 6 (r6 (imS l t (stF still g) tu le sl l.length))]) (l2:=[.cells true 6 (r6 (imS l t (stF still g) tu le sl l.length))]) (.inl rfl) hbel hblz (by rfl) (x1:=iV 0) (iV 0) (aU results20) [] rfl [1] (by decide) ⟨rfl,rfl⟩ ?_)
  exact aF (jn @ax (jn @hblpp (jn @hbls @hblz)))
 have h1d:=h1
 exact absurd (hA.symm.trans h1d) (by decide)
theorem rmv_n (H:ac)(W Hh:Int)(pp:AV)(xs:List Int)(s:AV)(l:List T6)(tu le sl ra:Int)(bz:Nat)(t g:Int)(still:Bool)(hpp:zI H pp xs)(hs:Sl H 6 s l.length (r6 l))(hz:∃o,H[bz]? = some (.cells o 0 [iV W,iV Hh,pp,s,iV tu,iV le,iV sl,iV ra,.bool false]))(hS:bk l=true)(hl0:0<l.length)(hC:bL t g=true)(hB:bO tu le sl ra=true)(hA:imA l t (stF still g) tu le sl=false):zC 20 [.ptr (some (bz,0)),.agg [iV t,iV g],.bool still] H (iV 2) H:=by
 obtain⟨bpp,opp,cpp,rfl,hbpp,hblpp,hb0pp⟩:=zA1 hpp
 obtain⟨bs,os,cs,rfl,hbs,hbls,hb0s⟩:=zA1 hs
 obtain⟨oz,hbz⟩:=hz
 have hblz:=getElem?_lt hbz
 have hb0z:=fun l=>ae (l:=l) hbz
 refine AcT true func20 ?_;intro hbel Q hQ
 have G3:=jn @hbpp (jn @hb0pp (jn @hbs (jn @hb0s (jn @hbz (jn @hb0z (jn @hC (jn @hB (jn @hA @Option.isNone_some.{0}))))))))
 refine aa G3 ?_
 refine cvr G3 (g8 _ t g) ?_
 rcases Bool.eq_false_or_eq_true (imA l t (stF still g) tu le sl) with h1|h1
 ·have h1d:=h1
  exact absurd (hA.symm.trans h1d) (by decide)
 have h1d:=h1
 refine cd (rboxes_n _ _ l t g _ _ _ _ _ (zA2 hb0s hbs) (by assumption) hC hB hA) ?_
 have G4:=j2 h1 h1d G3
 exact eR G4 hQ hbel (iV 2) results20 ⟨rfl,rfl⟩
theorem rmv_a (H:ac)(W Hh:Int)(pp:AV)(xs:List Int)(s:AV)(l:List T6)(tu le sl ra:Int)(lost:Bool)(bz:Nat)(t g:Int)(still:Bool)(hpp:zI H pp xs)(hs:Sl H 6 s l.length (r6 l))(hz:∃o,H[bz]? = some (.cells o 0 [iV W,iV Hh,pp,s,iV tu,iV le,iV sl,iV ra,.bool lost]))(hC:bL t g=false):zC 20 [.ptr (some (bz,0)),.agg [iV t,iV g],.bool still] H (iV 1) H:=by
 obtain⟨bpp,opp,cpp,rfl,hbpp,hblpp,hb0pp⟩:=zA1 hpp
 obtain⟨bs,os,cs,rfl,hbs,hbls,hb0s⟩:=zA1 hs
 obtain⟨oz,hbz⟩:=hz
 have hblz:=getElem?_lt hbz
 have hb0z:=fun l=>ae (l:=l) hbz
 refine AcT true func20 ?_;intro hbel Q hQ
 have G5:=jn @hbpp (jn @hb0pp (jn @hbs (jn @hb0s (jn @hbz (jn @hb0z (jn @hC @Option.isNone_some.{0}))))))
 refine aa G5 ?_
 refine cvr G5 (g8 _ t g) ?_
 exact eP hQ hbel (iV 1) results20 ⟨rfl,rfl⟩
theorem rmv_s (H:ac)(W Hh:Int)(pp:AV)(xs:List Int)(s:AV)(l:List T6)(tu le sl ra:Int)(bz:Nat)(t g:Int)(still:Bool)(hpp:zI H pp xs)(hs:Sl H 6 s l.length (r6 l))(hz:∃o,H[bz]? = some (.cells o 0 [iV W,iV Hh,pp,s,iV tu,iV le,iV sl,iV ra,.bool true]))(hC:bL t g=true):zC 20 [.ptr (some (bz,0)),.agg [iV t,iV g],.bool still] H (iV 9) H:=by
 obtain⟨bpp,opp,cpp,rfl,hbpp,hblpp,hb0pp⟩:=zA1 hpp
 obtain⟨bs,os,cs,rfl,hbs,hbls,hb0s⟩:=zA1 hs
 obtain⟨oz,hbz⟩:=hz
 have hblz:=getElem?_lt hbz
 have hb0z:=fun l=>ae (l:=l) hbz
 refine AcT true func20 ?_;intro hbel Q hQ
 have G6:=jn @hbpp (jn @hb0pp (jn @hbs (jn @hb0s (jn @hbz (jn @hb0z (jn @hC @Option.isNone_some.{0}))))))
 refine aa G6 ?_
 refine cvr G6 (g8 _ t g) ?_
 exact eP hQ hbel (iV 9) results20 ⟨rfl,rfl⟩
theorem cpS_eq {l:List T6}{i j:Nat}(hij:i<j)(h1:(chO l l.length).1=(i:Int))(h2:(chO l l.length).2.1=(j:Int)):cpS l=(l.take j).set i (chO l l.length).2.2.2++l.drop (j+1):=by
 have e1:(chO l l.length).1.toNat=i:=by rw[h1];rfl
 have e2:(chO l l.length).2.1.toNat=j:=by rw[h2];rfl
 unfold cpS cpA
 rw[e1,e2]
 congr 1
 ·refine List.ext_getElem (by simp) fun n a b=>?_
  simp only[List.getElem_take,List.getElem_set]
 refine List.ext_getElem (by simp) fun n a b=>?_
 simp only[List.getElem_drop,List.getElem_set]
 rw[if_neg (by omega)]
theorem rcomp_c (H:ac)(s:AV)(l:List T6)(hs:Sl H 6 s l.length (r6 l))(hl:l.length<=64)(hl0:0<l.length)(hv:∀b∈l,bl b=true):zC 53 [s,iV 16] H (.tup [.sl (some (H.length,0)) ((cpL l).length) none,iV 0]) (H++[.cells true 6 (r6 (cpL l))]):=by
 obtain⟨bs,os,cs,rfl,hbs,hbls,hb0s⟩:=zA1 hs
 have hz1:(l.length==0)=false:=beq_eq_false_iff_ne.2 (by omega)
 have hz2:decide (0<l.length)=true:=decide_eq_true (by omega)
 (refine aR func53 _ rfl (Nat.le_of_ble_eq_true (by kernel_rfl)) rfl ?_;intro hbel Q hQ hQ' c hc;unfold Tryz.f53 at hc;simp only[Option.some.injEq] at hc;subst hc;clear hQ')
 refine zQF hQ fun Q1 hn1 hQ1 he1=>?_
 have G1:=jn @hbs (jn @hb0s (jn @hz1 @hz2))
 refine aa G1 ?_
 refine hn1 _ _ (zQF hQ fun Q2 hn2 hQ2 he2=>?_)
 refine rcs G1 (fun h1 h1d _=>?_) (fun h1 h1d G2=>?_)
 ·omega
 refine aa G2 ?_
 refine hn2 _ _ (zQF hQ fun Q3 hn3 hQ3 he3=>?_)
 refine aa G2 ?_
 refine glp (fun k F Hx=>∃n:Nat,n+k=l.length/\F=[(0,.sl (some (bs,0)) l.length cs),(1,iV 16),(6,iV (n:Int))]/\H=Hx) (l.length) ?_ ?_
 ·refine⟨_,_,_,⟨0,by omega,rfl,rfl⟩,Abs.by0 hbel ?_⟩
  exact ar
 rintro k0 F Hx ⟨n,hm0,rfl,rfl⟩ J0 hJ0
 refine rcs G2 (fun h2 h2d _=>?_) (fun h2 h2d G5=>?_)
 ·have hlt:n<l.length:=by omega
  have q3:=bD (l:=l) (j:=n) (by omega)
  have G3:=jn h2 (jn h2d (jn @bo (jn q3 G2)))
  refine aa G3 ?_
  refine cv (iq _ _ _ _ _ _ _) ?_
  refine rcs G3 (fun h4 h4d _=>?_) (fun h4 h4d G4=>?_)
  ·exact absurd ((show bl (g6 l n)=true from hv _ (bY hlt)).symm.trans h4d) (by decide)
  refine aa G4 ?_
  refine hJ0 _ _ ⟨k0-1,by omega,_,_,_,⟨n+1,by omega,rfl,rfl⟩,Abs.by0 hbel ?_⟩
  exact ar
 obtain rfl:n=l.length:=by omega
 refine aa G5 ?_
 refine hn3 _ _ (zQF hQ fun Q4 hn4 hQ4 he4=>?_)
 have G6:=jn @bo (jn @cQ (jn @iU G5))
 refine aa G6 ?_
 refine hn4 _ _ (sqR hQ fun Q5 hn5 hQ5 he5=>?_)
 refine bkR hQ5 fun Q6 hn6 hQ6 he6 hb6=>?_
 refine cW (fun k F Hx=>∃QQ:List T6,QQ.length=k/\(∀b∈QQ,bl b=true)/\0<QQ.length/\QQ.length<=64/\cpI (QQ.length-16) QQ=cpL l/\F=[(1,iV 16),(7,.sl (some (H.length,0)) QQ.length none)]/\Hx=H++[.cells true 6 (r6 QQ)]) (l.length) ?_ ?_
 ·refine⟨_,_,_,⟨l,by omega,hv,hl0,hl,rfl,rfl,rfl⟩,bS hbel [1] (al (jn @ap (jn @au (jn @aA @ax))))⟩
 rintro k1 F Hx ⟨QQ,hm1,hqv,hq0,hq6,hqc,rfl,rfl⟩ Q7 hJ1 hr7 he7
 have hQ7:=fun F H' h=>hr7 F H' (hQ6 F H' h)
 refine zQF hQ7 fun Q8 hn8 hQ8 he8=>?_
 refine rcs G6 (fun h5 h5d G7=>?_) (fun h5 h5d G21=>?_)
 ·have hgt:16<QQ.length:=by omega
  obtain⟨ci,cj,hci,hcj,hcc1,hcc2,hcc3⟩:=chO_p (l:=QQ) (by omega)
  have hsn:=oK (l:=QQ) (by omega)
  have hqn:cpI ((cpS QQ).length-16) (cpS QQ)=cpL l:=by rw[hsn,<-hqc,show QQ.length-16=(QQ.length-1-16)+1 by omega];rfl
  have htl:(List.take cj QQ).length=cj:=by rw[List.length_take];omega
  have htb:((List.take cj QQ).set ci ((chO QQ QQ.length).2.2.2.1,(chO QQ QQ.length).2.2.2.2.1,(chO QQ QQ.length).2.2.2.2.2.1,(chO QQ QQ.length).2.2.2.2.2.2.1,(chO QQ QQ.length).2.2.2.2.2.2.2.1,(chO QQ QQ.length).2.2.2.2.2.2.2.2)).length=cj:=by rw[List.length_set];exact htl
  have hcs:r6 ((List.take cj QQ).set ci ((chO QQ QQ.length).2.2.2.1,(chO QQ QQ.length).2.2.2.2.1,(chO QQ QQ.length).2.2.2.2.2.1,(chO QQ QQ.length).2.2.2.2.2.2.1,(chO QQ QQ.length).2.2.2.2.2.2.2.1,(chO QQ QQ.length).2.2.2.2.2.2.2.2))++r6 (List.drop (cj+1) QQ)=r6 (cpS QQ):=by rw[<-ap];exact congrArg r6 (cpS_eq hci hcc1 hcc2).symm
  have hcl:cj+(QQ.length-(cj+1))=(cpS QQ).length:=by rw[hsn];omega
  refine aa G7 ?_
  refine hn8 _ _ ?_
  refine bkR hQ7 fun Q9 hn9 hQ9 he9 hb9=>?_
  refine zQF hQ9 fun Q10 hn10 hQ10 he10=>?_
  refine aa G7 ?_
  refine hn10 _ _ (zQF hQ9 fun Q11 hn11 hQ11 he11=>?_)
  refine aa G7 ?_
  refine hn11 _ _ (sqR hQ9 fun Q12 hn12 hQ12 he12=>?_)
  refine zQF hQ12 fun Q13 hn13 hQ13 he13=>?_
  refine aa G7 ?_
  refine hn13 _ _ ?_
  refine bkR hQ12 fun Q14 hn14 hQ14 he14 hb14=>?_
  refine cW (fun k F Hx=>∃i:Nat,i+k=QQ.length/\F=[(1,iV 16),(7,.sl (some (H.length,0)) QQ.length none),(8,iV ((chO QQ i).1)),(9,iV ((chO QQ i).2.1)),(10,iV ((chO QQ i).2.2.1)),(11,.ptr (some (H.length+1,0))),(12,iV (i:Int))]/\Hx=H++[.cells true 6 (r6 QQ),.cells true 0 [iV ((chO QQ i).2.2.2.1),iV ((chO QQ i).2.2.2.2.1),iV ((chO QQ i).2.2.2.2.2.1),iV ((chO QQ i).2.2.2.2.2.2.1),iV ((chO QQ i).2.2.2.2.2.2.2.1),iV ((chO QQ i).2.2.2.2.2.2.2.2)]]) (QQ.length) ?_ ?_
  ·refine⟨_,_,_,⟨0,by omega,rfl,rfl⟩,bS hbel [0,1] (al (jn @chO.eq_1 (jn @ap (jn @au (jn @aA @ax)))))⟩
  rintro k2 F Hx ⟨i,hm2,rfl,rfl⟩ Q15 hJ2 hr15 he15
  have hQ15:=fun F H' h=>hr15 F H' (hQ14 F H' h)
  refine zQF hQ15 fun Q16 hn16 hQ16 he16=>?_
  refine rcs G7 (fun h6 h6d G8=>?_) (fun h6 h6d _=>?_)
  ·have hlt:i<QQ.length:=by omega
   have hva:bxB (g61 QQ i) (g62 QQ i) (g63 QQ i) (g64 QQ i) (g65 QQ i) (g66 QQ i)=true:=hqv _ (bY hlt)
   have hcb:=chO_bd (l:=QQ) (n:=i) (by omega)
   refine aa G8 ?_
   refine hn16 _ _ (sqR hQ15 fun Q17 hn17 hQ17 he17=>?_)
   refine bkR hQ17 fun Q18 hn18 hQ18 he18 hb18=>?_
   refine zQF hQ18 fun Q19 hn19 hQ19 he19=>?_
   refine aa G8 ?_
   refine hn19 _ _ ?_
   refine bkR hQ18 fun Q20 hn20 hQ20 he20 hb20=>?_
   refine cW (fun k F Hx=>∃j:Nat,j+k=QQ.length-(i+1)/\F=[(1,iV 16),(7,.sl (some (H.length,0)) QQ.length none),(8,iV ((chR QQ i (chO QQ i) j).1)),(9,iV ((chR QQ i (chO QQ i) j).2.1)),(10,iV ((chR QQ i (chO QQ i) j).2.2.1)),(11,.ptr (some (H.length+1,0))),(12,iV (i:Int)),(13,iV ((i+1+j:Nat):Int))]/\Hx=H++[.cells true 6 (r6 QQ),.cells true 0 [iV ((chR QQ i (chO QQ i) j).2.2.2.1),iV ((chR QQ i (chO QQ i) j).2.2.2.2.1),iV ((chR QQ i (chO QQ i) j).2.2.2.2.2.1),iV ((chR QQ i (chO QQ i) j).2.2.2.2.2.2.1),iV ((chR QQ i (chO QQ i) j).2.2.2.2.2.2.2.1),iV ((chR QQ i (chO QQ i) j).2.2.2.2.2.2.2.2)]]) (QQ.length-(i+1)) ?_ ?_
   ·refine⟨_,_,_,⟨0,by omega,rfl,rfl⟩,bS hbel [0,1] (al (jn @chR.eq_1 (jn @Nat.add_zero (jn @ap (jn @au (jn @aA @ax))))))⟩
   rintro k3 F Hx ⟨j,hm3,rfl,rfl⟩ Q21 hJ3 hr21 he21
   have hQ21:=fun F H' h=>hr21 F H' (hQ20 F H' h)
   have hjn:((i+1+(j+1):Nat):Int)=((i+1+j+1:Nat):Int):=rfl
   refine zQF hQ21 fun Q22 hn22 hQ22 he22=>?_
   refine rcs G8 (fun h7 h7d G9=>?_) (fun h7 h7d G18=>?_)
   ·have hkt:j<QQ.length-(i+1):=by omega
    have hvb:bxB (g61 QQ (i+1+j)) (g62 QQ (i+1+j)) (g63 QQ (i+1+j)) (g64 QQ (i+1+j)) (g65 QQ (i+1+j)) (g66 QQ (i+1+j))=true:=hqv _ (bY (by omega))
    have hrb:=chR_bd (l:=QQ) (n:=i) (k:=j) (by omega) (by omega)
    have hv1:=gx (mnI (g61 QQ i) (g61 QQ (i+1+j)),mnI (g62 QQ i) (g62 QQ (i+1+j)),mxI (g63 QQ i) (g63 QQ (i+1+j)),mxI (g64 QQ i) (g64 QQ (i+1+j)),(bM (g65 QQ i) (g66 QQ i) (g65 QQ (i+1+j)) (g66 QQ (i+1+j))).1,(bM (g65 QQ i) (g66 QQ i) (g65 QQ (i+1+j)) (g66 QQ (i+1+j))).2)
    have hv2:=gx ((g61 QQ i),(g62 QQ i),(g63 QQ i),(g64 QQ i),(g65 QQ i),(g66 QQ i))
    have hv3:=gx ((g61 QQ (i+1+j)),(g62 QQ (i+1+j)),(g63 QQ (i+1+j)),(g64 QQ (i+1+j)),(g65 QQ (i+1+j)),(g66 QQ (i+1+j)))
    refine aa G9 ?_
    refine hn22 _ _ (sqR hQ21 fun Q23 hn23 hQ23 he23=>?_)
    refine bkR hQ23 fun Q24 hn24 hQ24 he24 hb24=>?_
    refine aL false try_mixed [[0,1,2,3,4,5,6,7,8,9,10,11,12,13,14],[0,1,2,3,4,5,6,7,12,8,9,10,11,13,14]] (by kernel_rfl) (fun F2 H2=>F2=[(1,iV 16),(7,.sl (some (H.length,0)) QQ.length none),(8,iV ((chR QQ i (chO QQ i) j).1)),(9,iV ((chR QQ i (chO QQ i) j).2.1)),(10,iV ((chR QQ i (chO QQ i) j).2.2.1)),(11,.ptr (some (H.length+1,0))),(12,iV (i:Int)),(13,iV ((i+1+j:Nat):Int)),(14,.ptr (some (H.length+2,0)))]/\H2=H++[.cells true 6 (r6 QQ),.cells true 0 [iV ((chR QQ i (chO QQ i) j).2.2.2.1),iV ((chR QQ i (chO QQ i) j).2.2.2.2.1),iV ((chR QQ i (chO QQ i) j).2.2.2.2.2.1),iV ((chR QQ i (chO QQ i) j).2.2.2.2.2.2.1),iV ((chR QQ i (chO QQ i) j).2.2.2.2.2.2.2.1),iV ((chR QQ i (chO QQ i) j).2.2.2.2.2.2.2.2)],.cells true 0 [iV (mnI (g61 QQ i) (g61 QQ (i+1+j))),iV (mnI (g62 QQ i) (g62 QQ (i+1+j))),iV (mxI (g63 QQ i) (g63 QQ (i+1+j))),iV (mxI (g64 QQ i) (g64 QQ (i+1+j))),iV ((bM (g65 QQ i) (g66 QQ i) (g65 QQ (i+1+j)) (g66 QQ (i+1+j))).1),iV ((bM (g65 QQ i) (g66 QQ i) (g65 QQ (i+1+j)) (g66 QQ (i+1+j))).2)]]) ?_ ?_
    ·refine af ?_ (af ?_ (aQ))<;>intro J hJ
     ·have q8:=bD (l:=QQ) (j:=i) (by omega)
      have q9:=bD (l:=QQ) (j:=i+1+j) (by omega)
      have G10:=jn q8 (jn q9 G9)
      refine ag G10 ?_
      refine cd (mC _ _ _ _ _ _ _ _ _ _ _ _ _ (by assumption) (by assumption)) ?_
      refine ag G10 ?_
      refine ai (hJ _ _ ⟨_,_,_,⟨rfl,rfl⟩,bS hbel [0,1,2] (al (jn @ap (jn @au (jn @aA @ax))))⟩)
     have q10:=bD (l:=QQ) (j:=i) (by omega)
     have q11:=bD (l:=QQ) (j:=i+1+j) (by omega)
     have G11:=jn q10 (jn q11 G9)
     refine ag G11 ?_
     refine cd (mC _ _ _ _ _ _ _ _ _ _ _ _ _ (by assumption) (by assumption)) ?_
     refine ag G11 ?_
     refine ai (hJ _ _ ⟨_,_,_,⟨rfl,rfl⟩,bS hbel [0,1,2] (al (jn @ap (jn @au (jn @aA @ax))))⟩)
    rintro F2 H2 ⟨rfl,rfl⟩
    refine fnF ?_
    refine aa G9 ?_
    refine cd (lW _ _ _ _ _ _ _) ?_
    have q12:=bD (l:=QQ) (j:=i) (by omega)
    have G12:=jn q12 G9
    refine aa G12 ?_
    refine cd (lW _ _ _ _ _ _ _) ?_
    have q13:=bD (l:=QQ) (j:=i+1+j) (by omega)
    have G13:=jn q13 G12
    refine aa G13 ?_
    refine cd (lW _ _ _ _ _ _ _) ?_
    refine rgs G13 (fun h14 h14d G14=>?_) (fun h14 h14d G17=>?_)
    ·have hk5:=h14d
     refine rcs G14 (fun h15 h15d G15=>?_) (fun h15 h15d G16=>?_)
     ·have hU:chU QQ i j (chR QQ i (chO QQ i) j)=((i:Int),(i:Int)+1+(j:Int),chN QQ i (i+1+j),ew (g6 QQ i) (g6 QQ (i+1+j))):=if_pos (.inr h15d)
      have hc1:(chU QQ i j (chR QQ i (chO QQ i) j)).1=(i:Int):=by rw[hU]
      have hc2:(chU QQ i j (chR QQ i (chO QQ i) j)).2.1=((i+1+j:Nat):Int):=by rw[hU];show (i:Int)+1+(j:Int)=_;omega
      have hc3:(chU QQ i j (chR QQ i (chO QQ i) j)).2.2.1=(((cY ((mnI (g61 QQ i) (g61 QQ (i+1+j))),(mnI (g62 QQ i) (g62 QQ (i+1+j))),(mxI (g63 QQ i) (g63 QQ (i+1+j))),(mxI (g64 QQ i) (g64 QQ (i+1+j))),((bM (g65 QQ i) (g66 QQ i) (g65 QQ (i+1+j)) (g66 QQ (i+1+j))).1),((bM (g65 QQ i) (g66 QQ i) (g65 QQ (i+1+j)) (g66 QQ (i+1+j))).2)))-(cY (g6 QQ i)))-(cY (g6 QQ (i+1+j)))):=by rw[hU];rfl
      have hd0:(chU QQ i j (chR QQ i (chO QQ i) j)).2.2.2.1=mnI (g61 QQ i) (g61 QQ (i+1+j)):=by rw[hU];rfl
      have hd1:(chU QQ i j (chR QQ i (chO QQ i) j)).2.2.2.2.1=mnI (g62 QQ i) (g62 QQ (i+1+j)):=by rw[hU];rfl
      have hd2:(chU QQ i j (chR QQ i (chO QQ i) j)).2.2.2.2.2.1=mxI (g63 QQ i) (g63 QQ (i+1+j)):=by rw[hU];rfl
      have hd3:(chU QQ i j (chR QQ i (chO QQ i) j)).2.2.2.2.2.2.1=mxI (g64 QQ i) (g64 QQ (i+1+j)):=by rw[hU];rfl
      have hd4:(chU QQ i j (chR QQ i (chO QQ i) j)).2.2.2.2.2.2.2.1=(bM (g65 QQ i) (g66 QQ i) (g65 QQ (i+1+j)) (g66 QQ (i+1+j))).1:=by rw[hU];rfl
      have hd5:(chU QQ i j (chR QQ i (chO QQ i) j)).2.2.2.2.2.2.2.2=(bM (g65 QQ i) (g66 QQ i) (g65 QQ (i+1+j)) (g66 QQ (i+1+j))).2:=by rw[hU];rfl
      refine aa G15 ?_
      refine hn24 _ _ ?_
      refine hn23 _ _ ?_
      refine fnF ?_
      refine aa G15 ?_
      refine hJ3 _ _ ⟨k3-1,by omega,_,_,_,⟨j+1,by omega,rfl,rfl⟩,bS hbel [0,1] (al (jn @chR.eq_2 (jn @hjn (jn @hc1 (jn @hc2 (jn @hc3 (jn @hd0 (jn @hd1 (jn @hd2 (jn @hd3 (jn @hd4 (jn @hd5 (jn @ap (jn @au (jn @aA @ax)))))))))))))))⟩
     have hU:chU QQ i j (chR QQ i (chO QQ i) j)=(chR QQ i (chO QQ i) j):=if_neg (fun q=>q.elim (fun q=>hk5 q) (fun q=>absurd q h15d))
     refine aa G16 ?_
     refine hn24 _ _ ?_
     refine hn23 _ _ ?_
     refine fnF ?_
     refine aa G16 ?_
     refine hJ3 _ _ ⟨k3-1,by omega,_,_,_,⟨j+1,by omega,rfl,rfl⟩,bS hbel [0,1] (al (jn @chR.eq_2 (jn @hjn (jn @hU (jn @ap (jn @au (jn @aA @ax)))))))⟩
    have hU:chU QQ i j (chR QQ i (chO QQ i) j)=((i:Int),(i:Int)+1+(j:Int),chN QQ i (i+1+j),ew (g6 QQ i) (g6 QQ (i+1+j))):=if_pos (.inl h14d)
    have hc1:(chU QQ i j (chR QQ i (chO QQ i) j)).1=(i:Int):=by rw[hU]
    have hc2:(chU QQ i j (chR QQ i (chO QQ i) j)).2.1=((i+1+j:Nat):Int):=by rw[hU];show (i:Int)+1+(j:Int)=_;omega
    have hc3:(chU QQ i j (chR QQ i (chO QQ i) j)).2.2.1=(((cY ((mnI (g61 QQ i) (g61 QQ (i+1+j))),(mnI (g62 QQ i) (g62 QQ (i+1+j))),(mxI (g63 QQ i) (g63 QQ (i+1+j))),(mxI (g64 QQ i) (g64 QQ (i+1+j))),((bM (g65 QQ i) (g66 QQ i) (g65 QQ (i+1+j)) (g66 QQ (i+1+j))).1),((bM (g65 QQ i) (g66 QQ i) (g65 QQ (i+1+j)) (g66 QQ (i+1+j))).2)))-(cY (g6 QQ i)))-(cY (g6 QQ (i+1+j)))):=by rw[hU];rfl
    have hd0:(chU QQ i j (chR QQ i (chO QQ i) j)).2.2.2.1=mnI (g61 QQ i) (g61 QQ (i+1+j)):=by rw[hU];rfl
    have hd1:(chU QQ i j (chR QQ i (chO QQ i) j)).2.2.2.2.1=mnI (g62 QQ i) (g62 QQ (i+1+j)):=by rw[hU];rfl
    have hd2:(chU QQ i j (chR QQ i (chO QQ i) j)).2.2.2.2.2.1=mxI (g63 QQ i) (g63 QQ (i+1+j)):=by rw[hU];rfl
    have hd3:(chU QQ i j (chR QQ i (chO QQ i) j)).2.2.2.2.2.2.1=mxI (g64 QQ i) (g64 QQ (i+1+j)):=by rw[hU];rfl
    have hd4:(chU QQ i j (chR QQ i (chO QQ i) j)).2.2.2.2.2.2.2.1=(bM (g65 QQ i) (g66 QQ i) (g65 QQ (i+1+j)) (g66 QQ (i+1+j))).1:=by rw[hU];rfl
    have hd5:(chU QQ i j (chR QQ i (chO QQ i) j)).2.2.2.2.2.2.2.2=(bM (g65 QQ i) (g66 QQ i) (g65 QQ (i+1+j)) (g66 QQ (i+1+j))).2:=by rw[hU];rfl
    refine aa G17 ?_
    refine hn24 _ _ ?_
    refine hn23 _ _ ?_
    refine fnF ?_
    refine aa G17 ?_
    refine hJ3 _ _ ⟨k3-1,by omega,_,_,_,⟨j+1,by omega,rfl,rfl⟩,bS hbel [0,1] (al (jn @chR.eq_2 (jn @hjn (jn @hc1 (jn @hc2 (jn @hc3 (jn @hd0 (jn @hd1 (jn @hd2 (jn @hd3 (jn @hd4 (jn @hd5 (jn @ap (jn @au (jn @aA @ax)))))))))))))))⟩
   obtain rfl:j=QQ.length-(i+1):=by omega
   refine aa G18 ?_
   refine he22 _ _ _ ?_
   refine he21 _ _ _ ?_
   refine hb20 _ _ ?_
   refine hn18 _ _ ?_
   refine hn17 _ _ ?_
   refine fnF ?_
   refine aa G18 ?_
   refine hJ2 _ _ ⟨k2-1,by omega,_,_,_,⟨i+1,by omega,rfl,rfl⟩,bS hbel [0,1] (al (jn @chO.eq_2 (jn @ap (jn @au (jn @aA @ax)))))⟩
  obtain rfl:i=QQ.length:=by omega
  have hsf1:=hcc1
  have hsf2:=hcc2
  have hsfn:((cj:Int)+1).toNat=cj+1:=by omega
  have G19:=jn h6 (jn h6d (jn @hsf1 (j2 hsf2 hsfn G7)))
  refine aa G19 ?_
  refine he16 _ _ _ ?_
  refine he15 _ _ _ ?_
  refine hb14 _ _ ?_
  refine hn12 _ _ ?_
  refine fnF ?_
  have h16:0<cj:=by omega
  have h16e:(cj==0)=false:=beq_eq_false_iff_ne.2 (by omega)
  have h16l:decide (0<cj)=true:=decide_eq_true h16
  have q17:=@ob QQ cj
  have q18:=jf (l:=QQ) (k:=cj+1) (by omega)
  have q19:(cj+(QQ.length-(cj+1))==0)=false:=beq_eq_false_iff_ne.2 (by omega)
  have hvA:List.take (cj*6) (r6 ((List.take cj QQ).set ci ((chO QQ QQ.length).2.2.2.1,(chO QQ QQ.length).2.2.2.2.1,(chO QQ QQ.length).2.2.2.2.2.1,(chO QQ QQ.length).2.2.2.2.2.2.1,(chO QQ QQ.length).2.2.2.2.2.2.2.1,(chO QQ QQ.length).2.2.2.2.2.2.2.2)))=r6 ((List.take cj QQ).set ci ((chO QQ QQ.length).2.2.2.1,(chO QQ QQ.length).2.2.2.2.1,(chO QQ QQ.length).2.2.2.2.2.1,(chO QQ QQ.length).2.2.2.2.2.2.1,(chO QQ QQ.length).2.2.2.2.2.2.2.1,(chO QQ QQ.length).2.2.2.2.2.2.2.2)):=by rw[ob];exact congrArg r6 (List.take_of_length_le (by rw[List.length_set,List.length_take];omega))
  have G20:=jn h16e (jn h16l (jn q17 (jn @List.length_take.{0} (jn @List.length_drop.{0} (jn @Nat.sub_zero (jn @r6_set (jn @List.length_set.{0} (jn q18 (jn q19 (jn @hvA G19))))))))))
  refine aa G20 ?_
  refine hn9 _ _ ?_
  refine hJ1 _ _ ⟨k1-1,by omega,_,_,_,⟨cpS QQ,by omega,cpS_ok (by omega) hqv,by omega,by omega,hqn,rfl,rfl⟩,bS hbel [4] (al (jn @hcs (jn @hcl (jn @ax (jn @ap (jn @au @aA))))))⟩
 obtain rfl:QQ=cpL l:=by rw[<-hqc,show QQ.length-16=0 by omega];rfl
 refine aa G21 ?_
 refine he8 _ _ _ ?_
 refine he7 _ _ _ ?_
 refine hb6 _ _ ?_
 refine hn5 _ _ ?_
 refine fnF ?_
 refine aa G21 ?_
 refine hQ _ _ (aM (.inl rfl) hbel (x1:=.tup [.sl (some (H.length,0)) ((cpL l).length) none,iV 0]) (l2:=[.cells true 6 (r6 (cpL l))]) (.tup [.sl (some (H.length,0)) ((cpL l).length) none,iV 0]) (aU results53) [] rfl [0] (by decide) ⟨rfl,rfl⟩ ?_)
 exact aF @ax
def bkK (far:Int):Int:=far/64+2
def bkN (far:Int):Nat:=(2*bkK far+1).toNat
def bkX (x0 far:Int) (m:Nat):Int:=(x0/64-bkK far)+(m:Int)
section
variable {W Hh:Int} {xs:List Int} {x0 y0 x1 y1 far:Int} {v:Int×Int×Int} {op:Bool}
theorem hidC_me {c:Int×Int}(h:cU W Hh xs op x0 y0 x1 y1 v.1 v.2.1 v.2.2 far c=true):sqMe x0 y0 v 0 far c=true:=by
 unfold cU h4B at h
 simp only[Bool.and_eq_true] at h
 have k:=h.2.1
 rw[hcB_sq] at k
 cases op with
 |true=>exact bf_me k
 |false=>exact k
theorem hid_y {cx cy:Int}(hx : -1048576<=x0/\x0<=1048576)(hy : -1048576<=y0/\y0<=1048576)(hv:da v.1 v.2.1 v.2.2=true)(hf:0<=far/\far<=2048)(hw:atI W Hh xs cx cy=2)(h:h4B op x0 y0 x1 y1 v.1 v.2.1 v.2.2 far cx cy=true):de W Hh xs x0 y0 x1 y1 v.1 v.2.1 v.2.2 far op=true:=by
 have k:cU W Hh xs op x0 y0 x1 y1 v.1 v.2.1 v.2.2 far (cx,cy)=true:=by unfold cU;rw[h,show (atI W Hh xs (cx,cy).1 (cx,cy).2==2)=true from beq_iff_eq.2 hw];rfl
 unfold de
 rw[decide_eq_false (by omega)]
 exact List.any_eq_true.2 ⟨(cx,cy),(trL_iff hx hy hv hf).2 (hidC_me k),k⟩
theorem hid_n (hx : -1048576<=x0/\x0<=1048576) (hy : -1048576<=y0/\y0<=1048576) (hv:da v.1 v.2.1 v.2.2=true) (hf:0<=far/\far<=2048)
  (h:∀n:Nat,n<bkN far->∀m:Nat,m<bkN far->cU W Hh xs op x0 y0 x1 y1 v.1 v.2.1 v.2.2 far (bkX x0 far m,bkX y0 far n)=false):de W Hh xs x0 y0 x1 y1 v.1 v.2.1 v.2.2 far op=false:=by
 rw[<-Bool.not_eq_true]
 intro q
 unfold de at q
 rw[Bool.and_eq_true] at q
 obtain⟨c,hc,hk⟩:=List.any_eq_true.1 q.2
 have k:=me_near ((trL_iff hx hy hv hf).1 hc)
 have e1:c.1=bkX x0 far (c.1-(x0/64-bkK far)).toNat:=by unfold bkX bkK;omega
 have e2:c.2=bkX y0 far (c.2-(y0/64-bkK far)).toNat:=by unfold bkX bkK;omega
 have:=h (c.2-(y0/64-bkK far)).toNat (by unfold bkN bkK;omega) (c.1-(x0/64-bkK far)).toNat (by unfold bkN bkK;omega)
 rw[<-e1,<-e2] at this
 rw[show (c.1,c.2)=c from rfl,hk] at this
 cases this
theorem sbf_zero {px py vx vy vd a b c d:Int}:cX px py vx vy vd 0 a b c d=false:=by
 rw[<-Bool.not_eq_true]
 intro h
 exact absurd (sbf_pos h) (by decide)
theorem hid_0 (hn:far<=0):de W Hh xs x0 y0 x1 y1 v.1 v.2.1 v.2.2 far true=false:=by
 rw[<-Bool.not_eq_true]
 intro q
 unfold de at q
 rw[Bool.and_eq_true] at q
 obtain⟨c,hc,hk⟩:=List.any_eq_true.1 q.2
 have hz:far=0:=by
  have:=q.1
  simp only[Bool.not_eq_true',decide_eq_false_iff_not] at this
  omega
 subst hz
 have k:hcB true x0 y0 v.1 v.2.1 v.2.2 0 c.1 c.2=true:=by
  unfold cU h4B at hk
  simp only[Bool.and_eq_true] at hk
  exact hk.2.1
 unfold hcB at k
 rw[cond_true,sbf_zero] at k
 cases k
end
theorem h4K_no {op : Bool}{x0 y0 x1 y1 vx vy vd far cx cy:Int}:∀{n k:Nat},n<=k->h4K op x0 y0 x1 y1 vx vy vd far cx cy n=false->h4K op x0 y0 x1 y1 vx vy vd far cx cy k=false
 | n, 0, h, q => by obtain rfl:n=0:=by omega
                    exact q
 | n,k+1,h,q=>by
  rcases Nat.lt_or_ge k n with z|z
  ·obtain rfl:n=k+1:=by omega
   exact q
  rw[h4K,h4K_no z q];rfl
theorem hP {W Hh:Int}{xs:List Int}{op:Bool}{x0 y0 x1 y1 vx vy vd far cx cy:Int}{n:Nat}(hn:n<=4)(h:h4K op x0 y0 x1 y1 vx vy vd far cx cy n=false):cU W Hh xs op x0 y0 x1 y1 vx vy vd far (cx,cy)=false:=by
 unfold cU
 rw[<-h4K_4,h4K_no hn h,Bool.and_false]
theorem jA {op:Bool}{x y vx vy vd far cx cy:Int}:hcB op x y vx vy vd far cx cy=bif op then cX x y vx vy vd far (cx*64) (cy*64) (cx*64+64) (cy*64+64) else dr x y vx vy vd 0 far (cx*64) (cy*64) (cx*64+64) (cy*64+64):=hcB_sq
theorem radm_c (H:ac)(x0 y0 x1 y1:Int):zC 216 [.agg [iV x0,iV y0,iV x1,iV y1]] H (.bool (dC x0 y0 x1 y1)) H:=by
 refine AcT true func216 ?_;intro hbel Q hQ
 refine aC ?_
 refine bg (fun h1=>?_) (fun h1=>?_)
 ·have h1d:=bsT h1
  have G1:=jn h1 @h1d
  refine rgs G1 (fun h2 h2d G2=>?_) (fun h2 h2d G13=>?_)
  ·refine rgs G2 (fun h3 h3d G3=>?_) (fun h3 h3d G12=>?_)
   ·refine rgs G3 (fun h4 h4d G4=>?_) (fun h4 h4d G11=>?_)
    ·refine rgs G4 (fun h5 h5d G5=>?_) (fun h5 h5d G10=>?_)
     ·refine rcs G5 (fun h6 h6d G6=>?_) (fun h6 h6d G7=>?_)
      ·exact eR G6 hQ hbel (.bool false) results216 ⟨congrArg AV.bool (by rw[Bool.eq_iff_iff,eq];(simp;omega)),rfl⟩
      refine rgs G7 (fun h7 h7d G8=>?_) (fun h7 h7d G9=>?_)
      ·exact eR G8 hQ hbel (.bool (decide ((y1-y0)<=1024))) results216 ⟨congrArg AV.bool (by rw[Bool.eq_iff_iff,eq];(simp only[decide_eq_true_eq,h1,h2,h3,h4,h5,h6,h7];omega)),rfl⟩
      exact eR G9 hQ hbel (.bool false) results216 ⟨congrArg AV.bool (by rw[Bool.eq_iff_iff,eq];(simp;omega)),rfl⟩
     exact eR G10 hQ hbel (.bool false) results216 ⟨congrArg AV.bool (by rw[Bool.eq_iff_iff,eq];(simp;omega)),rfl⟩
    exact eR G11 hQ hbel (.bool false) results216 ⟨congrArg AV.bool (by rw[Bool.eq_iff_iff,eq];(simp;omega)),rfl⟩
   exact eR G12 hQ hbel (.bool false) results216 ⟨congrArg AV.bool (by rw[Bool.eq_iff_iff,eq];(simp;omega)),rfl⟩
  exact eR G13 hQ hbel (.bool false) results216 ⟨congrArg AV.bool (by rw[Bool.eq_iff_iff,eq];(simp;omega)),rfl⟩
 have h1d:=bsT h1
 have G14:=jn h1 @h1d
 exact eR G14 hQ hbel (.bool false) results216 ⟨congrArg AV.bool (by rw[Bool.eq_iff_iff,eq];(simp;omega)),rfl⟩
theorem rblkt_c (H:ac)(W Hh:Int)(pp:AV)(xs:List Int)(x0 y0 x1 y1 vx vy vd far:Int)(hpp:zI H pp xs)(hV:bK W Hh xs=true)(hx : -1048576<=x0/\x0<=1048576)(hy : -1048576<=y0/\y0<=1048576)(hv:da vx vy vd=true)(hf:0<=far/\far<=2048):zC 217 [.agg [iV W,iV Hh,pp],.agg [iV x0,iV y0,iV x1,iV y1],.agg [iV vx,iV vy,iV vd],iV far,.bool true] H (.bool (de W Hh xs x0 y0 x1 y1 vx vy vd far true)) H:=by
 obtain⟨bpp,opp,cpp,rfl,hbpp,hblpp,hb0pp⟩:=zA1 hpp
 have hfd:Int.tdiv far 64=far/64:=Int.tdiv_eq_ediv_of_nonneg hf.1
 have hVV:=bp.1 hV
 refine AcT true func217 ?_;intro hbel Q hQ
 have G15:=jn @hbpp (jn @hb0pp @hfd)
 refine aa G15 ?_
 refine cdr G15 (dx _ _ _ (by omega) (by omega)) ?_
 refine cdr G15 (dx _ _ _ (by omega) (by omega)) ?_
 refine glp (fun k F Hx=>∃n:Nat,n+k=(2*(far/64+2)+1).toNat/\(∀a:Nat,a<n->∀b:Nat,b<bkN far->cU W Hh xs true x0 y0 x1 y1 vx vy vd far (bkX x0 far b,bkX y0 far a)=false)/\F=[(3,iV far),(4,.bool true),(5,.ptr (some (H.length,0))),(7,.ptr (some (H.length+1,0))),(11,.sl (some (H.length+2,0)) 4 (some 4)),(12,iV (x0/64)),(13,iV (y0/64)),(14,iV ((far/64)+2)),(15,iV (((y0/64)-((far/64)+2))+(n:Int)))]/\Hx=H++[.cells true 0 [iV W,iV Hh,.sl (some (bpp,0)) xs.length cpp],.cells true 0 [iV vx,iV vy,iV vd],.cells true 2 [iV x0,iV y0,iV x1,iV y0,iV x0,iV y1,iV x1,iV y1]]) ((2*(far/64+2)+1).toNat) ?_ ?_
 ·refine⟨_,_,_,⟨0,by omega,fun a h=>by omega,rfl,rfl⟩,bS hbel [0,2,3] (aF (jn @Int.natCast_zero @Int.add_zero))⟩
 rintro k0 F Hx ⟨n,hm0,hon,rfl,rfl⟩ J0 hJ0
 refine rcs G15 (fun h1 h1d G16=>?_) (fun h1 h1d G35=>?_)
 ·have hnt:n<bkN far:=by unfold bkN bkK;omega
  refine aa G16 ?_
  refine glp (fun k F Hx=>∃m:Nat,m+k=(2*(far/64+2)+1).toNat/\(∀b:Nat,b<m->cU W Hh xs true x0 y0 x1 y1 vx vy vd far (bkX x0 far b,bkX y0 far n)=false)/\F=[(3,iV far),(4,.bool true),(5,.ptr (some (H.length,0))),(7,.ptr (some (H.length+1,0))),(11,.sl (some (H.length+2,0)) 4 (some 4)),(12,iV (x0/64)),(13,iV (y0/64)),(14,iV ((far/64)+2)),(15,iV (((y0/64)-((far/64)+2))+(n:Int))),(16,iV (((x0/64)-((far/64)+2))+(m:Int)))]/\Hx=H++[.cells true 0 [iV W,iV Hh,.sl (some (bpp,0)) xs.length cpp],.cells true 0 [iV vx,iV vy,iV vd],.cells true 2 [iV x0,iV y0,iV x1,iV y0,iV x0,iV y1,iV x1,iV y1]]) ((2*(far/64+2)+1).toNat) ?_ ?_
  ·refine⟨_,_,_,⟨0,by omega,fun b h=>by omega,rfl,rfl⟩,bS hbel [0,1,2] (aF (jn @Int.natCast_zero @Int.add_zero))⟩
  rintro k1 F Hx ⟨m,hm1,him,rfl,rfl⟩ J1 hJ1
  refine rcs G16 (fun h2 h2d G17=>?_) (fun h2 h2d G34=>?_)
  ·have hmt:m<bkN far:=by unfold bkN bkK;omega
   refine aa G17 ?_
   refine cv (at_c (x:=(((x0/64)-((far/64)+2))+(m:Int))) (y:=(((y0/64)-((far/64)+2))+(n:Int))) (bp.1 hV) (by exact hb0pp _) rfl) ?_
   refine rcs G17 (fun h3 h3d _=>?_) (fun h3 h3d _=>?_)
   ·have h3n:=bnT h3
    have hno:cU W Hh xs true x0 y0 x1 y1 vx vy vd far ((((x0/64)-((far/64)+2))+(m:Int)),(((y0/64)-((far/64)+2))+(n:Int)))=false:=by unfold cU;rw[beq_eq_false_iff_ne.2 (by exact h3d)];rfl
    have G18:=jn h3 (jn h3n (jn @aK (jn @aJ G17)))
    refine aa G18 ?_
    refine hJ1 _ _ ⟨k1-1,by omega,_,_,_,⟨m+1,by omega,fun b hb=>by
          rcases Nat.lt_or_ge b m with z|z
          ·exact him b z
          rw[show b=m by omega];exact hno,rfl,rfl⟩,bS hbel [0,1,2] (aF (jn @Int.natCast_add (jn @Int.natCast_one @Int.add_assoc)))⟩
   have h3n:=bnT h3
   have hat:atI W Hh xs (((x0/64)-((far/64)+2))+(m:Int)) (((y0/64)-((far/64)+2))+(n:Int))=2:=by exact h3d
   have G19:=jn h3 (jn h3n (jn @aK (jn @aJ G17)))
   refine aa G19 ?_
   refine glp (fun k F Hx=>∃i:Nat,i+k=4/\F=[(3,iV far),(4,.bool true),(5,.ptr (some (H.length,0))),(7,.ptr (some (H.length+1,0))),(11,.sl (some (H.length+2,0)) 4 (some 4)),(12,iV (x0/64)),(13,iV (y0/64)),(14,iV ((far/64)+2)),(15,iV (((y0/64)-((far/64)+2))+(n:Int))),(16,iV (((x0/64)-((far/64)+2))+(m:Int))),(17,.ptr (some (H.length+3,0))),(18,.bool (h4K true x0 y0 x1 y1 vx vy vd far (((x0/64)-((far/64)+2))+(m:Int)) (((y0/64)-((far/64)+2))+(n:Int)) i)),(19,iV (i:Int))]/\Hx=H++[.cells true 0 [iV W,iV Hh,.sl (some (bpp,0)) xs.length cpp],.cells true 0 [iV vx,iV vy,iV vd],.cells true 2 [iV x0,iV y0,iV x1,iV y0,iV x0,iV y1,iV x1,iV y1],.cells true 0 [iV (((x0/64)-((far/64)+2))+(m:Int)),iV (((y0/64)-((far/64)+2))+(n:Int))]]) (4) ?_ ?_
   ·refine⟨_,_,_,⟨0,by omega,rfl,rfl⟩,bS hbel [0,1,2,3] (aF @h4K.eq_1)⟩
   rintro k2 F Hx ⟨i,hm2,rfl,rfl⟩ J2 hJ2
   refine rgs G19 (fun h4 h4d _=>?_) (fun h4 h4d G31=>?_)
   ·obtain rfl|rfl|rfl|rfl:=(by omega:i=0\/i=1\/i=2\/i=3)
    ·have G20:=j2 h4 h4d G19
     refine rcs G20 (fun h5 h5d G21=>?_) (fun h5 h5d _=>?_)
     ·have hst:h4K true x0 y0 x1 y1 vx vy vd far (((x0/64)-((far/64)+2))+(m:Int)) (((y0/64)-((far/64)+2))+(n:Int)) 1=cX x0 y0 vx vy vd far ((((x0/64)-((far/64)+2))+(m:Int))*64) ((((y0/64)-((far/64)+2))+(n:Int))*64) ((((x0/64)-((far/64)+2))+(m:Int))*64+64) ((((y0/64)-((far/64)+2))+(n:Int))*64+64):=by
       show (h4K true x0 y0 x1 y1 vx vy vd far (((x0/64)-((far/64)+2))+(m:Int)) (((y0/64)-((far/64)+2))+(n:Int)) 0&&hcB true x0 y0 vx vy vd far (((x0/64)-((far/64)+2))+(m:Int)) (((y0/64)-((far/64)+2))+(n:Int)))=_
       rw[h5d,Bool.true_and];exact jA
      refine aa G21 ?_
      refine cdr G21 (cM _ _ _ (by omega) (by omega)) ?_
      refine cdr G21 (dA _ _ _ _ _ _ _ _ _ _ _) ?_
      refine hJ2 _ _ ⟨k2-1,by omega,_,_,_,⟨0+1,by omega,rfl,rfl⟩,bS hbel [0,1,2,3] (aF @hst)⟩
     exact absurd (show true=false from h5d) (by decide)
    ·have G22:=j2 h4 h4d G19
     refine rcs G22 (fun h6 h6d G23=>?_) (fun h6 h6d G24=>?_)
     ·have hst:h4K true x0 y0 x1 y1 vx vy vd far (((x0/64)-((far/64)+2))+(m:Int)) (((y0/64)-((far/64)+2))+(n:Int)) 2=cX x1 y0 vx vy vd far ((((x0/64)-((far/64)+2))+(m:Int))*64) ((((y0/64)-((far/64)+2))+(n:Int))*64) ((((x0/64)-((far/64)+2))+(m:Int))*64+64) ((((y0/64)-((far/64)+2))+(n:Int))*64+64):=by
       show (h4K true x0 y0 x1 y1 vx vy vd far (((x0/64)-((far/64)+2))+(m:Int)) (((y0/64)-((far/64)+2))+(n:Int)) 1&&hcB true x1 y0 vx vy vd far (((x0/64)-((far/64)+2))+(m:Int)) (((y0/64)-((far/64)+2))+(n:Int)))=_
       rw[h6d,Bool.true_and];exact jA
      refine aa G23 ?_
      refine cdr G23 (cM _ _ _ (by omega) (by omega)) ?_
      refine cdr G23 (dA _ _ _ _ _ _ _ _ _ _ _) ?_
      refine hJ2 _ _ ⟨k2-1,by omega,_,_,_,⟨1+1,by omega,rfl,rfl⟩,bS hbel [0,1,2,3] (aF @hst)⟩
     have hno:cU W Hh xs true x0 y0 x1 y1 vx vy vd far ((((x0/64)-((far/64)+2))+(m:Int)),(((y0/64)-((far/64)+2))+(n:Int)))=false:=hP (n:=1) (by decide) h6d
     refine aa G24 ?_
     refine hJ1 _ _ ⟨k1-1,by omega,_,_,_,⟨m+1,by omega,fun b hb=>by
           rcases Nat.lt_or_ge b m with z|z
           ·exact him b z
           rw[show b=m by omega];exact hno,rfl,rfl⟩,bS hbel [0,1,2] (aF (jn @Int.natCast_add (jn @Int.natCast_one @Int.add_assoc)))⟩
    ·have G25:=j2 h4 h4d G19
     refine rcs G25 (fun h7 h7d G26=>?_) (fun h7 h7d G27=>?_)
     ·have hst:h4K true x0 y0 x1 y1 vx vy vd far (((x0/64)-((far/64)+2))+(m:Int)) (((y0/64)-((far/64)+2))+(n:Int)) 3=cX x0 y1 vx vy vd far ((((x0/64)-((far/64)+2))+(m:Int))*64) ((((y0/64)-((far/64)+2))+(n:Int))*64) ((((x0/64)-((far/64)+2))+(m:Int))*64+64) ((((y0/64)-((far/64)+2))+(n:Int))*64+64):=by
       show (h4K true x0 y0 x1 y1 vx vy vd far (((x0/64)-((far/64)+2))+(m:Int)) (((y0/64)-((far/64)+2))+(n:Int)) 2&&hcB true x0 y1 vx vy vd far (((x0/64)-((far/64)+2))+(m:Int)) (((y0/64)-((far/64)+2))+(n:Int)))=_
       rw[h7d,Bool.true_and];exact jA
      refine aa G26 ?_
      refine cdr G26 (cM _ _ _ (by omega) (by omega)) ?_
      refine cdr G26 (dA _ _ _ _ _ _ _ _ _ _ _) ?_
      refine hJ2 _ _ ⟨k2-1,by omega,_,_,_,⟨2+1,by omega,rfl,rfl⟩,bS hbel [0,1,2,3] (aF @hst)⟩
     have hno:cU W Hh xs true x0 y0 x1 y1 vx vy vd far ((((x0/64)-((far/64)+2))+(m:Int)),(((y0/64)-((far/64)+2))+(n:Int)))=false:=hP (n:=2) (by decide) h7d
     refine aa G27 ?_
     refine hJ1 _ _ ⟨k1-1,by omega,_,_,_,⟨m+1,by omega,fun b hb=>by
           rcases Nat.lt_or_ge b m with z|z
           ·exact him b z
           rw[show b=m by omega];exact hno,rfl,rfl⟩,bS hbel [0,1,2] (aF (jn @Int.natCast_add (jn @Int.natCast_one @Int.add_assoc)))⟩
    have G28:=j2 h4 h4d G19
    refine rcs G28 (fun h8 h8d G29=>?_) (fun h8 h8d G30=>?_)
    ·have hst:h4K true x0 y0 x1 y1 vx vy vd far (((x0/64)-((far/64)+2))+(m:Int)) (((y0/64)-((far/64)+2))+(n:Int)) 4=cX x1 y1 vx vy vd far ((((x0/64)-((far/64)+2))+(m:Int))*64) ((((y0/64)-((far/64)+2))+(n:Int))*64) ((((x0/64)-((far/64)+2))+(m:Int))*64+64) ((((y0/64)-((far/64)+2))+(n:Int))*64+64):=by
      show (h4K true x0 y0 x1 y1 vx vy vd far (((x0/64)-((far/64)+2))+(m:Int)) (((y0/64)-((far/64)+2))+(n:Int)) 3&&hcB true x1 y1 vx vy vd far (((x0/64)-((far/64)+2))+(m:Int)) (((y0/64)-((far/64)+2))+(n:Int)))=_
      rw[h8d,Bool.true_and];exact jA
     refine aa G29 ?_
     refine cdr G29 (cM _ _ _ (by omega) (by omega)) ?_
     refine cdr G29 (dA _ _ _ _ _ _ _ _ _ _ _) ?_
     refine hJ2 _ _ ⟨k2-1,by omega,_,_,_,⟨3+1,by omega,rfl,rfl⟩,bS hbel [0,1,2,3] (aF @hst)⟩
    have hno:cU W Hh xs true x0 y0 x1 y1 vx vy vd far ((((x0/64)-((far/64)+2))+(m:Int)),(((y0/64)-((far/64)+2))+(n:Int)))=false:=hP (n:=3) (by decide) h8d
    refine aa G30 ?_
    refine hJ1 _ _ ⟨k1-1,by omega,_,_,_,⟨m+1,by omega,fun b hb=>by
          rcases Nat.lt_or_ge b m with z|z
          ·exact him b z
          rw[show b=m by omega];exact hno,rfl,rfl⟩,bS hbel [0,1,2] (aF (jn @Int.natCast_add (jn @Int.natCast_one @Int.add_assoc)))⟩
   obtain rfl:i=4:=by omega
   refine rcs G31 (fun h9 h9d G32=>?_) (fun h9 h9d G33=>?_)
   ·have hfinH:de W Hh xs x0 y0 x1 y1 vx vy vd far true=true:=hid_y (v:=(vx,vy,vd)) hx hy hv hf hat (h4K_4.symm.trans h9d)
    exact eR G32 hQ hbel (.bool true) results217 ⟨by rw[hfinH],rfl⟩
   have hno:cU W Hh xs true x0 y0 x1 y1 vx vy vd far ((((x0/64)-((far/64)+2))+(m:Int)),(((y0/64)-((far/64)+2))+(n:Int)))=false:=hP (n:=4) (by decide) h9d
   refine aa G33 ?_
   refine hJ1 _ _ ⟨k1-1,by omega,_,_,_,⟨m+1,by omega,fun b hb=>by
         rcases Nat.lt_or_ge b m with z|z
         ·exact him b z
         rw[show b=m by omega];exact hno,rfl,rfl⟩,bS hbel [0,1,2] (aF (jn @Int.natCast_add (jn @Int.natCast_one @Int.add_assoc)))⟩
  have hrow:∀b:Nat,b<bkN far->cU W Hh xs true x0 y0 x1 y1 vx vy vd far (bkX x0 far b,bkX y0 far n)=false:=fun b hb=>him b (by unfold bkN bkK at hb;omega)
  refine aa G34 ?_
  refine hJ0 _ _ ⟨k0-1,by omega,_,_,_,⟨n+1,by omega,fun a ha b hb=>by
        rcases Nat.lt_or_ge a n with z|z
        ·exact hon a z b hb
        rw[show a=n by omega];exact hrow b hb,rfl,rfl⟩,bS hbel [0,1,2] (aF (jn @Int.natCast_add (jn @Int.natCast_one @Int.add_assoc)))⟩
 have hfinH:de W Hh xs x0 y0 x1 y1 vx vy vd far true=false:=hid_n (v:=(vx,vy,vd)) hx hy hv hf (fun a ha b hb=>hon a (by unfold bkN bkK at ha;omega) b hb)
 exact eR G35 hQ hbel (.bool false) results217 ⟨by rw[hfinH],rfl⟩
theorem rblkf_c (H:ac)(W Hh:Int)(pp:AV)(xs:List Int)(x0 y0 x1 y1 vx vy vd far:Int)(hpp:zI H pp xs)(hV:bK W Hh xs=true)(hx : -1048576<=x0/\x0<=1048576)(hy : -1048576<=y0/\y0<=1048576)(hv:da vx vy vd=true)(hf:0<=far/\far<=2048):zC 217 [.agg [iV W,iV Hh,pp],.agg [iV x0,iV y0,iV x1,iV y1],.agg [iV vx,iV vy,iV vd],iV far,.bool false] H (.bool (de W Hh xs x0 y0 x1 y1 vx vy vd far false)) H:=by
 obtain⟨bpp,opp,cpp,rfl,hbpp,hblpp,hb0pp⟩:=zA1 hpp
 have hfd:Int.tdiv far 64=far/64:=Int.tdiv_eq_ediv_of_nonneg hf.1
 have hVV:=bp.1 hV
 refine AcT true func217 ?_;intro hbel Q hQ
 have G36:=jn @hbpp (jn @hb0pp @hfd)
 refine aa G36 ?_
 refine cdr G36 (dx _ _ _ (by omega) (by omega)) ?_
 refine cdr G36 (dx _ _ _ (by omega) (by omega)) ?_
 refine glp (fun k F Hx=>∃n:Nat,n+k=(2*(far/64+2)+1).toNat/\(∀a:Nat,a<n->∀b:Nat,b<bkN far->cU W Hh xs false x0 y0 x1 y1 vx vy vd far (bkX x0 far b,bkX y0 far a)=false)/\F=[(3,iV far),(4,.bool false),(5,.ptr (some (H.length,0))),(7,.ptr (some (H.length+1,0))),(11,.sl (some (H.length+2,0)) 4 (some 4)),(12,iV (x0/64)),(13,iV (y0/64)),(14,iV ((far/64)+2)),(15,iV (((y0/64)-((far/64)+2))+(n:Int)))]/\Hx=H++[.cells true 0 [iV W,iV Hh,.sl (some (bpp,0)) xs.length cpp],.cells true 0 [iV vx,iV vy,iV vd],.cells true 2 [iV x0,iV y0,iV x1,iV y0,iV x0,iV y1,iV x1,iV y1]]) ((2*(far/64+2)+1).toNat) ?_ ?_
 ·refine⟨_,_,_,⟨0,by omega,fun a h=>by omega,rfl,rfl⟩,bS hbel [0,2,3] (aF (jn @Int.natCast_zero @Int.add_zero))⟩
 rintro k0 F Hx ⟨n,hm0,hon,rfl,rfl⟩ J0 hJ0
 refine rcs G36 (fun h1 h1d G37=>?_) (fun h1 h1d G56=>?_)
 ·have hnt:n<bkN far:=by unfold bkN bkK;omega
  refine aa G37 ?_
  refine glp (fun k F Hx=>∃m:Nat,m+k=(2*(far/64+2)+1).toNat/\(∀b:Nat,b<m->cU W Hh xs false x0 y0 x1 y1 vx vy vd far (bkX x0 far b,bkX y0 far n)=false)/\F=[(3,iV far),(4,.bool false),(5,.ptr (some (H.length,0))),(7,.ptr (some (H.length+1,0))),(11,.sl (some (H.length+2,0)) 4 (some 4)),(12,iV (x0/64)),(13,iV (y0/64)),(14,iV ((far/64)+2)),(15,iV (((y0/64)-((far/64)+2))+(n:Int))),(16,iV (((x0/64)-((far/64)+2))+(m:Int)))]/\Hx=H++[.cells true 0 [iV W,iV Hh,.sl (some (bpp,0)) xs.length cpp],.cells true 0 [iV vx,iV vy,iV vd],.cells true 2 [iV x0,iV y0,iV x1,iV y0,iV x0,iV y1,iV x1,iV y1]]) ((2*(far/64+2)+1).toNat) ?_ ?_
  ·refine⟨_,_,_,⟨0,by omega,fun b h=>by omega,rfl,rfl⟩,bS hbel [0,1,2] (aF (jn @Int.natCast_zero @Int.add_zero))⟩
  rintro k1 F Hx ⟨m,hm1,him,rfl,rfl⟩ J1 hJ1
  refine rcs G37 (fun h2 h2d G38=>?_) (fun h2 h2d G55=>?_)
  ·have hmt:m<bkN far:=by unfold bkN bkK;omega
   refine aa G38 ?_
   refine cv (at_c (x:=(((x0/64)-((far/64)+2))+(m:Int))) (y:=(((y0/64)-((far/64)+2))+(n:Int))) (bp.1 hV) (by exact hb0pp _) rfl) ?_
   refine rcs G38 (fun h3 h3d _=>?_) (fun h3 h3d _=>?_)
   ·have h3n:=bnT h3
    have hno:cU W Hh xs false x0 y0 x1 y1 vx vy vd far ((((x0/64)-((far/64)+2))+(m:Int)),(((y0/64)-((far/64)+2))+(n:Int)))=false:=by unfold cU;rw[beq_eq_false_iff_ne.2 (by exact h3d)];rfl
    have G39:=jn h3 (jn h3n (jn @aK (jn @aJ G38)))
    refine aa G39 ?_
    refine hJ1 _ _ ⟨k1-1,by omega,_,_,_,⟨m+1,by omega,fun b hb=>by
          rcases Nat.lt_or_ge b m with z|z
          ·exact him b z
          rw[show b=m by omega];exact hno,rfl,rfl⟩,bS hbel [0,1,2] (aF (jn @Int.natCast_add (jn @Int.natCast_one @Int.add_assoc)))⟩
   have h3n:=bnT h3
   have hat:atI W Hh xs (((x0/64)-((far/64)+2))+(m:Int)) (((y0/64)-((far/64)+2))+(n:Int))=2:=by exact h3d
   have G40:=jn h3 (jn h3n (jn @aK (jn @aJ G38)))
   refine aa G40 ?_
   refine glp (fun k F Hx=>∃i:Nat,i+k=4/\F=[(3,iV far),(4,.bool false),(5,.ptr (some (H.length,0))),(7,.ptr (some (H.length+1,0))),(11,.sl (some (H.length+2,0)) 4 (some 4)),(12,iV (x0/64)),(13,iV (y0/64)),(14,iV ((far/64)+2)),(15,iV (((y0/64)-((far/64)+2))+(n:Int))),(16,iV (((x0/64)-((far/64)+2))+(m:Int))),(17,.ptr (some (H.length+3,0))),(18,.bool (h4K false x0 y0 x1 y1 vx vy vd far (((x0/64)-((far/64)+2))+(m:Int)) (((y0/64)-((far/64)+2))+(n:Int)) i)),(19,iV (i:Int))]/\Hx=H++[.cells true 0 [iV W,iV Hh,.sl (some (bpp,0)) xs.length cpp],.cells true 0 [iV vx,iV vy,iV vd],.cells true 2 [iV x0,iV y0,iV x1,iV y0,iV x0,iV y1,iV x1,iV y1],.cells true 0 [iV (((x0/64)-((far/64)+2))+(m:Int)),iV (((y0/64)-((far/64)+2))+(n:Int))]]) (4) ?_ ?_
   ·refine⟨_,_,_,⟨0,by omega,rfl,rfl⟩,bS hbel [0,1,2,3] (aF @h4K.eq_1)⟩
   rintro k2 F Hx ⟨i,hm2,rfl,rfl⟩ J2 hJ2
   refine rgs G40 (fun h4 h4d _=>?_) (fun h4 h4d G52=>?_)
   ·obtain rfl|rfl|rfl|rfl:=(by omega:i=0\/i=1\/i=2\/i=3)
    ·have G41:=j2 h4 h4d G40
     refine rcs G41 (fun h5 h5d G42=>?_) (fun h5 h5d _=>?_)
     ·have hst:h4K false x0 y0 x1 y1 vx vy vd far (((x0/64)-((far/64)+2))+(m:Int)) (((y0/64)-((far/64)+2))+(n:Int)) 1=dr x0 y0 vx vy vd 0 far ((((x0/64)-((far/64)+2))+(m:Int))*64) ((((y0/64)-((far/64)+2))+(n:Int))*64) ((((x0/64)-((far/64)+2))+(m:Int))*64+64) ((((y0/64)-((far/64)+2))+(n:Int))*64+64):=by
       show (h4K false x0 y0 x1 y1 vx vy vd far (((x0/64)-((far/64)+2))+(m:Int)) (((y0/64)-((far/64)+2))+(n:Int)) 0&&hcB false x0 y0 vx vy vd far (((x0/64)-((far/64)+2))+(m:Int)) (((y0/64)-((far/64)+2))+(n:Int)))=_
       rw[h5d,Bool.true_and];exact jA
      refine aa G42 ?_
      refine cdr G42 (cM _ _ _ (by omega) (by omega)) ?_
      refine cdr G42 (jc _ _ _ _ _ _ 0 _ _ _ _ _) ?_
      refine hJ2 _ _ ⟨k2-1,by omega,_,_,_,⟨0+1,by omega,rfl,rfl⟩,bS hbel [0,1,2,3] (aF @hst)⟩
     exact absurd (show true=false from h5d) (by decide)
    ·have G43:=j2 h4 h4d G40
     refine rcs G43 (fun h6 h6d G44=>?_) (fun h6 h6d G45=>?_)
     ·have hst:h4K false x0 y0 x1 y1 vx vy vd far (((x0/64)-((far/64)+2))+(m:Int)) (((y0/64)-((far/64)+2))+(n:Int)) 2=dr x1 y0 vx vy vd 0 far ((((x0/64)-((far/64)+2))+(m:Int))*64) ((((y0/64)-((far/64)+2))+(n:Int))*64) ((((x0/64)-((far/64)+2))+(m:Int))*64+64) ((((y0/64)-((far/64)+2))+(n:Int))*64+64):=by
       show (h4K false x0 y0 x1 y1 vx vy vd far (((x0/64)-((far/64)+2))+(m:Int)) (((y0/64)-((far/64)+2))+(n:Int)) 1&&hcB false x1 y0 vx vy vd far (((x0/64)-((far/64)+2))+(m:Int)) (((y0/64)-((far/64)+2))+(n:Int)))=_
       rw[h6d,Bool.true_and];exact jA
      refine aa G44 ?_
      refine cdr G44 (cM _ _ _ (by omega) (by omega)) ?_
      refine cdr G44 (jc _ _ _ _ _ _ 0 _ _ _ _ _) ?_
      refine hJ2 _ _ ⟨k2-1,by omega,_,_,_,⟨1+1,by omega,rfl,rfl⟩,bS hbel [0,1,2,3] (aF @hst)⟩
     have hno:cU W Hh xs false x0 y0 x1 y1 vx vy vd far ((((x0/64)-((far/64)+2))+(m:Int)),(((y0/64)-((far/64)+2))+(n:Int)))=false:=hP (n:=1) (by decide) h6d
     refine aa G45 ?_
     refine hJ1 _ _ ⟨k1-1,by omega,_,_,_,⟨m+1,by omega,fun b hb=>by
           rcases Nat.lt_or_ge b m with z|z
           ·exact him b z
           rw[show b=m by omega];exact hno,rfl,rfl⟩,bS hbel [0,1,2] (aF (jn @Int.natCast_add (jn @Int.natCast_one @Int.add_assoc)))⟩
    ·have G46:=j2 h4 h4d G40
     refine rcs G46 (fun h7 h7d G47=>?_) (fun h7 h7d G48=>?_)
     ·have hst:h4K false x0 y0 x1 y1 vx vy vd far (((x0/64)-((far/64)+2))+(m:Int)) (((y0/64)-((far/64)+2))+(n:Int)) 3=dr x0 y1 vx vy vd 0 far ((((x0/64)-((far/64)+2))+(m:Int))*64) ((((y0/64)-((far/64)+2))+(n:Int))*64) ((((x0/64)-((far/64)+2))+(m:Int))*64+64) ((((y0/64)-((far/64)+2))+(n:Int))*64+64):=by
       show (h4K false x0 y0 x1 y1 vx vy vd far (((x0/64)-((far/64)+2))+(m:Int)) (((y0/64)-((far/64)+2))+(n:Int)) 2&&hcB false x0 y1 vx vy vd far (((x0/64)-((far/64)+2))+(m:Int)) (((y0/64)-((far/64)+2))+(n:Int)))=_
       rw[h7d,Bool.true_and];exact jA
      refine aa G47 ?_
      refine cdr G47 (cM _ _ _ (by omega) (by omega)) ?_
      refine cdr G47 (jc _ _ _ _ _ _ 0 _ _ _ _ _) ?_
      refine hJ2 _ _ ⟨k2-1,by omega,_,_,_,⟨2+1,by omega,rfl,rfl⟩,bS hbel [0,1,2,3] (aF @hst)⟩
     have hno:cU W Hh xs false x0 y0 x1 y1 vx vy vd far ((((x0/64)-((far/64)+2))+(m:Int)),(((y0/64)-((far/64)+2))+(n:Int)))=false:=hP (n:=2) (by decide) h7d
     refine aa G48 ?_
     refine hJ1 _ _ ⟨k1-1,by omega,_,_,_,⟨m+1,by omega,fun b hb=>by
           rcases Nat.lt_or_ge b m with z|z
           ·exact him b z
           rw[show b=m by omega];exact hno,rfl,rfl⟩,bS hbel [0,1,2] (aF (jn @Int.natCast_add (jn @Int.natCast_one @Int.add_assoc)))⟩
    have G49:=j2 h4 h4d G40
    refine rcs G49 (fun h8 h8d G50=>?_) (fun h8 h8d G51=>?_)
    ·have hst:h4K false x0 y0 x1 y1 vx vy vd far (((x0/64)-((far/64)+2))+(m:Int)) (((y0/64)-((far/64)+2))+(n:Int)) 4=dr x1 y1 vx vy vd 0 far ((((x0/64)-((far/64)+2))+(m:Int))*64) ((((y0/64)-((far/64)+2))+(n:Int))*64) ((((x0/64)-((far/64)+2))+(m:Int))*64+64) ((((y0/64)-((far/64)+2))+(n:Int))*64+64):=by
      show (h4K false x0 y0 x1 y1 vx vy vd far (((x0/64)-((far/64)+2))+(m:Int)) (((y0/64)-((far/64)+2))+(n:Int)) 3&&hcB false x1 y1 vx vy vd far (((x0/64)-((far/64)+2))+(m:Int)) (((y0/64)-((far/64)+2))+(n:Int)))=_
      rw[h8d,Bool.true_and];exact jA
     refine aa G50 ?_
     refine cdr G50 (cM _ _ _ (by omega) (by omega)) ?_
     refine cdr G50 (jc _ _ _ _ _ _ 0 _ _ _ _ _) ?_
     refine hJ2 _ _ ⟨k2-1,by omega,_,_,_,⟨3+1,by omega,rfl,rfl⟩,bS hbel [0,1,2,3] (aF @hst)⟩
    have hno:cU W Hh xs false x0 y0 x1 y1 vx vy vd far ((((x0/64)-((far/64)+2))+(m:Int)),(((y0/64)-((far/64)+2))+(n:Int)))=false:=hP (n:=3) (by decide) h8d
    refine aa G51 ?_
    refine hJ1 _ _ ⟨k1-1,by omega,_,_,_,⟨m+1,by omega,fun b hb=>by
          rcases Nat.lt_or_ge b m with z|z
          ·exact him b z
          rw[show b=m by omega];exact hno,rfl,rfl⟩,bS hbel [0,1,2] (aF (jn @Int.natCast_add (jn @Int.natCast_one @Int.add_assoc)))⟩
   obtain rfl:i=4:=by omega
   refine rcs G52 (fun h9 h9d G53=>?_) (fun h9 h9d G54=>?_)
   ·have hfinH:de W Hh xs x0 y0 x1 y1 vx vy vd far false=true:=hid_y (v:=(vx,vy,vd)) hx hy hv hf hat (h4K_4.symm.trans h9d)
    exact eR G53 hQ hbel (.bool true) results217 ⟨by rw[hfinH],rfl⟩
   have hno:cU W Hh xs false x0 y0 x1 y1 vx vy vd far ((((x0/64)-((far/64)+2))+(m:Int)),(((y0/64)-((far/64)+2))+(n:Int)))=false:=hP (n:=4) (by decide) h9d
   refine aa G54 ?_
   refine hJ1 _ _ ⟨k1-1,by omega,_,_,_,⟨m+1,by omega,fun b hb=>by
         rcases Nat.lt_or_ge b m with z|z
         ·exact him b z
         rw[show b=m by omega];exact hno,rfl,rfl⟩,bS hbel [0,1,2] (aF (jn @Int.natCast_add (jn @Int.natCast_one @Int.add_assoc)))⟩
  have hrow:∀b:Nat,b<bkN far->cU W Hh xs false x0 y0 x1 y1 vx vy vd far (bkX x0 far b,bkX y0 far n)=false:=fun b hb=>him b (by unfold bkN bkK at hb;omega)
  refine aa G55 ?_
  refine hJ0 _ _ ⟨k0-1,by omega,_,_,_,⟨n+1,by omega,fun a ha b hb=>by
        rcases Nat.lt_or_ge a n with z|z
        ·exact hon a z b hb
        rw[show a=n by omega];exact hrow b hb,rfl,rfl⟩,bS hbel [0,1,2] (aF (jn @Int.natCast_add (jn @Int.natCast_one @Int.add_assoc)))⟩
 have hfinH:de W Hh xs x0 y0 x1 y1 vx vy vd far false=false:=hid_n (v:=(vx,vy,vd)) hx hy hv hf (fun a ha b hb=>hon a (by unfold bkN bkK at ha;omega) b hb)
 exact eR G56 hQ hbel (.bool false) results217 ⟨by rw[hfinH],rfl⟩
theorem fl_bd {m n d:Int}(hd:0<d)(hn : -d<=n/\n<=d)(hm:0<=m/\m<=2048): -2048<=m*n/d/\m*n/d<=2048:=by
 have a1:=Int.mul_le_mul_of_nonneg_left hn.1 hm.1
 have a2:=Int.mul_le_mul_of_nonneg_left hn.2 hm.1
 have a3:=Int.mul_le_mul_of_nonneg_right hm.2 (show 0<=d by omega)
 have e:m * -d = -(m*d):=Int.mul_neg _ _
 exact⟨(Int.le_ediv_iff_mul_le hd).2 (by omega),Int.ediv_le_of_le_mul hd (by omega)⟩
theorem rsw_eq {x0 y0 x1 y1 vx vy vd lo hi:Int}(hx : -1048576<=x0/\x0<=x1/\x1<=1048576)(hy : -1048576<=y0/\y0<=y1/\y1<=1048576)(hv:da vx vy vd=true)(h:0<=lo/\lo<=hi/\hi<=2048):
  be (br x0 y0 x1 y1 vx vy vd lo hi) (aj x0 vx vd lo hi/64-1) (arN (aj x0 vx vd lo hi) (aW x1 vx vd lo hi)) (aj y0 vy vd lo hi/64-1) (arN (aj y0 vy vd lo hi) (aW y1 vy vd lo hi))=dI x0 y0 x1 y1 vx vy vd lo hi:=by
 have hvv:=bj.1 hv
 have r1:=fF (a:=x0) (b:=x1) (n:=vx) (d:=vd) (lo:=lo) (hi:=hi) (by omega) (by omega) h.1 h.2.1 h.2.2
 have r2:=fF (a:=y0) (b:=y1) (n:=vy) (d:=vd) (lo:=lo) (hi:=hi) (by omega) (by omega) h.1 h.2.1 h.2.2
 have c1:=fZ (a:=aj x0 vx vd lo hi) (b:=aW x1 vx vd lo hi) (by omega)
 have c2:=fZ (a:=aj y0 vy vd lo hi) (b:=aW y1 vy vd lo hi) (by omega)
 have a1:=lM (a:=aj x0 vx vd lo hi) (b:=aW x1 vx vd lo hi) (by omega)
 have a2:=lM (a:=aj y0 vy vd lo hi) (b:=aW y1 vy vd lo hi) (by omega)
 refine swp_grid hx hy (by omega) (by omega) ?_ ?_ ?_ ?_
 ·unfold spl;omega
 ·unfold sph;omega
 ·unfold spl;omega
 unfold sph;omega
theorem re (H:ac)(x0 y0 x1 y1 vx vy vd lo hi:Int):zC 138 [.agg [iV x0,iV y0,iV x1,iV y1],.agg [iV vx,iV vy,iV vd],iV lo,iV hi] H (.tup [.sl (some (H.length,0)) ((bv x0 y0 x1 y1 vx vy vd lo hi).length) (aS (bv x0 y0 x1 y1 vx vy vd lo hi).length),iV (eT x0 y0 x1 y1 vx vy vd lo hi)]) (H++[.cells (aI (bv x0 y0 x1 y1 vx vy vd lo hi).length) 2 (prs (bv x0 y0 x1 y1 vx vy vd lo hi))]):=by
 refine AcL true func138 ?_;intro hbel Q hQ
 refine aC ?_
 refine cv (r8right_c _ _ _ _ _) ?_
 refine aC ?_
 refine bg (fun h1=>?_) (fun h1=>?_)
 ·have h1d:=bsT h1
  have hp1:fL x0 y0 x1 y1=true:=by rw[<-rgtB_eq];exact h1d
  have hp2:=iX.1 hp1
  have hx:=hp2.1
  have hy:=hp2.2
  have G1:=jn h1 @h1d
  refine aa G1 ?_
  refine cv (bvec_c _ _ _ _) ?_
  refine rcs G1 (fun h2 h2d G2=>?_) (fun h2 h2d G3=>?_)
  ·have hz:=nA (x0:=x0) (y0:=y0) (x1:=x1) (y1:=y1) (vx:=vx) (vy:=vy) (vd:=vd) (lo:=lo) (hi:=hi) (fun hh=>by rw[h2d] at hh;exact absurd hh.2 (by decide))
   have hfinE:=hz.1
   have hfinL:=hz.2
   refine aa G2 ?_
   refine hQ _ _ (aM (.inl rfl) hbel (x1:=.tup [.sl none 0 (some 0),iV 1]) (l2:=[.cells false 2 []]) (.tup [.sl (some (H.length,0)) 0 (some 0),iV 1]) (aU results138) [.cells false 2 []] rfl [2] (by decide) ⟨by (rw[hfinL,hfinE];rfl),by (rw[hfinL];rfl)⟩ ?_)
   exact ar
  have hv:=h2d
  refine rgs G3 (fun h3 h3d G4=>?_) (fun h3 h3d G22=>?_)
  ·refine rgs G4 (fun h4 h4d G5=>?_) (fun h4 h4d G21=>?_)
   ·refine rcs G5 (fun h5 h5d G6=>?_) (fun h5 h5d _=>?_)
    ·have hz:=jT (lo:=lo) (hi:=hi) hp1 hv (by omega)
     have hfinE:=hz.1
     have hfinL:=hz.2
     refine aa G6 ?_
     refine hQ _ _ (aM (.inl rfl) hbel (x1:=.tup [.sl none 0 (some 0),iV 2]) (l2:=[.cells false 2 []]) (.tup [.sl (some (H.length,0)) 0 (some 0),iV 2]) (aU results138) [.cells false 2 []] rfl [2] (by decide) ⟨by (rw[hfinL,hfinE];rfl),by (rw[hfinL];rfl)⟩ ?_)
     exact ar
    have hlh:0<=lo/\lo<=hi/\hi<=2048:=by omega
    have hl:=hlh
    have hvv:=bj.1 hv
    have hrx:=fF (a:=x0) (b:=x1) (n:=vx) (d:=vd) (lo:=lo) (hi:=hi) (by omega) (by omega) (by omega) (by omega) (by omega)
    have hry:=fF (a:=y0) (b:=y1) (n:=vy) (d:=vd) (lo:=lo) (hi:=hi) (by omega) (by omega) (by omega) (by omega) (by omega)
    have hcx:=fZ (a:=(aj x0 vx vd lo hi)) (b:=(aW x1 vx vd lo hi)) (by omega)
    have hcy:=fZ (a:=(aj y0 vy vd lo hi)) (b:=(aW y1 vy vd lo hi)) (by omega)
    have hm1:=aP (a:=lo) (b:=vx) (A:=2048) (B:=67108864) (by omega) (by omega)
    have hm2:=aP (a:=hi) (b:=vx) (A:=2048) (B:=67108864) (by omega) (by omega)
    have hm3:=aP (a:=lo) (b:=vy) (A:=2048) (B:=67108864) (by omega) (by omega)
    have hm4:=aP (a:=hi) (b:=vy) (A:=2048) (B:=67108864) (by omega) (by omega)
    have hf0:=fl_bd (m:=lo) (n:=vx) (d:=vd) (by omega) (by omega) (by omega)
    have hf1:=fl_bd (m:=hi) (n:=vx) (d:=vd) (by omega) (by omega) (by omega)
    have hf2:=fl_bd (m:=lo) (n:=vy) (d:=vd) (by omega) (by omega) (by omega)
    have hf3:=fl_bd (m:=hi) (n:=vy) (d:=vd) (by omega) (by omega) (by omega)
    have hsfL0:x0+(if ((hi*vx)/vd)<((lo*vx)/vd) then ((hi*vx)/vd) else ((lo*vx)/vd))=aj x0 vx vd lo hi:=by unfold aj;rw[(kj (by omega)).1]
    have hsfH0:x1+(if ((lo*vx)/vd)<((hi*vx)/vd) then ((hi*vx)/vd) else ((lo*vx)/vd))+1=aW x1 vx vd lo hi:=by unfold aW;rw[(kj (by omega)).2]
    have hwM0 : -2048<=(if ((lo*vx)/vd)<((hi*vx)/vd) then ((hi*vx)/vd) else ((lo*vx)/vd))/\(if ((lo*vx)/vd)<((hi*vx)/vd) then ((hi*vx)/vd) else ((lo*vx)/vd))<=2048:=by split<;>omega
    have hwN0 : -2048<=(if ((hi*vx)/vd)<((lo*vx)/vd) then ((hi*vx)/vd) else ((lo*vx)/vd))/\(if ((hi*vx)/vd)<((lo*vx)/vd) then ((hi*vx)/vd) else ((lo*vx)/vd))<=2048:=by split<;>omega
    have hsfL1:y0+(if ((hi*vy)/vd)<((lo*vy)/vd) then ((hi*vy)/vd) else ((lo*vy)/vd))=aj y0 vy vd lo hi:=by unfold aj;rw[(kj (by omega)).1]
    have hsfH1:y1+(if ((lo*vy)/vd)<((hi*vy)/vd) then ((hi*vy)/vd) else ((lo*vy)/vd))+1=aW y1 vy vd lo hi:=by unfold aW;rw[(kj (by omega)).2]
    have hwM1 : -2048<=(if ((lo*vy)/vd)<((hi*vy)/vd) then ((hi*vy)/vd) else ((lo*vy)/vd))/\(if ((lo*vy)/vd)<((hi*vy)/vd) then ((hi*vy)/vd) else ((lo*vy)/vd))<=2048:=by split<;>omega
    have hwN1 : -2048<=(if ((hi*vy)/vd)<((lo*vy)/vd) then ((hi*vy)/vd) else ((lo*vy)/vd))/\(if ((hi*vy)/vd)<((lo*vy)/vd) then ((hi*vy)/vd) else ((lo*vy)/vd))<=2048:=by split<;>omega
    have ha1:=lM (a:=(aj x0 vx vd lo hi)) (b:=(aW x1 vx vd lo hi)) (by omega)
    have ha2:=lM (a:=(aj y0 vy vd lo hi)) (b:=(aW y1 vy vd lo hi)) (by omega)
    have G7:=jn h5 (jn h5d (jn @hsfL0 (jn @hsfH0 (j2 hsfL1 hsfH1 G5))))
    refine rgs G7 (fun h6 h6d G8=>?_) (fun h6 h6d G20=>?_)
    ·refine rcs G8 (fun h7 h7d G9=>?_) (fun h7 h7d G10=>?_)
     ·have hz:=nB hp1 hv hlh (.inr h7d)
      have hfinE:=hz.1
      have hfinL:=hz.2
      refine aa G9 ?_
      refine hQ _ _ (aM (.inl rfl) hbel (x1:=.tup [.sl none 0 (some 0),iV 6]) (l2:=[.cells false 2 []]) (.tup [.sl (some (H.length,0)) 0 (some 0),iV 6]) (aU results138) [.cells false 2 []] rfl [2] (by decide) ⟨by (rw[hfinL,hfinE];rfl),by (rw[hfinL];rfl)⟩ ?_)
      exact ar
     have hz:=sptE_0 hp1 hv hlh (by omega)
     have hfinE:=hz.1
     have hfinL:=hz.2
     have hfinG:=rsw_eq hx hy hv hlh
     refine aa G10 ?_
     refine cdr G10 (dx _ _ _ (by omega) (by omega)) ?_
     refine cdr G10 (dx _ _ _ (by omega) (by omega)) ?_
     refine cdr G10 (dx _ _ _ (by omega) (by omega)) ?_
     refine cdr G10 (dx _ _ _ (by omega) (by omega)) ?_
     refine cvr G10 (rN _ _ _ _ _ (by omega) (by omega) (by omega) (by omega)) ?_
     refine go_loopA (fun k F Hx=>∃n:Nat,n+k=arN (aj y0 vy vd lo hi) (aW y1 vy vd lo hi)/\F=[(2,iV lo),(3,iV hi),(4,.ptr (some (H.length,0))),(5,.ptr (some (H.length+1,0))),(14,.ptr (some (H.length+2,0))),(15,.sl (some (H.length+3,0)) ((be (br x0 y0 x1 y1 vx vy vd lo hi) ((aj x0 vx vd lo hi)/64-1) (arN (aj x0 vx vd lo hi) (aW x1 vx vd lo hi)) ((aj y0 vy vd lo hi)/64-1) n).length) (aS (be (br x0 y0 x1 y1 vx vy vd lo hi) ((aj x0 vx vd lo hi)/64-1) (arN (aj x0 vx vd lo hi) (aW x1 vx vd lo hi)) ((aj y0 vy vd lo hi)/64-1) n).length)),(16,iV (((aj y0 vy vd lo hi)/64-1)+(n:Int)))]/\Hx=H++[.cells true 0 [iV x0,iV y0,iV x1,iV y1],.cells true 0 [iV vx,iV vy,iV vd],.cells true 0 [iV ((aj x0 vx vd lo hi)/64-1),iV ((aj y0 vy vd lo hi)/64-1),iV ((aW x1 vx vd lo hi)/64+1),iV ((aW y1 vy vd lo hi)/64+1)],.cells (aI (be (br x0 y0 x1 y1 vx vy vd lo hi) ((aj x0 vx vd lo hi)/64-1) (arN (aj x0 vx vd lo hi) (aW x1 vx vd lo hi)) ((aj y0 vy vd lo hi)/64-1) n).length) 2 (prs (be (br x0 y0 x1 y1 vx vy vd lo hi) ((aj x0 vx vd lo hi)/64-1) (arN (aj x0 vx vd lo hi) (aW x1 vx vd lo hi)) ((aj y0 vy vd lo hi)/64-1) n))]) (arN (aj y0 vy vd lo hi) (aW y1 vy vd lo hi)) ?_ ?_
     ·refine⟨_,_,_,⟨0,by omega,rfl,rfl⟩,Abs.byG hbel [.cells false 2 []] rfl [0,1,2,3] (by decide) ?_⟩
      exact al (jn @oe (jn @Int.natCast_zero @Int.add_zero))
     rintro k0 F Hx ⟨n,hm0,rfl,rfl⟩ Q1 hJ0 hr1 he1
     have hQ1:=fun F H' h=>hr1 F H' (hQ F H' h)
     refine zQT hQ1 fun Q2 hn2 hQ2 he2=>?_
     have G11:=jn @ba (jn @cp G10)
     refine rcs G11 (fun h8 h8d G12=>?_) (fun h8 h8d G19=>?_)
     ·refine aa G12 ?_
      refine hn2 _ _ (sqR hQ1 fun Q3 hn3 hQ3 he3=>?_)
      refine bkR hQ3 fun Q4 hn4 hQ4 he4 hb4=>?_
      refine zQT hQ4 fun Q5 hn5 hQ5 he5=>?_
      refine aa G12 ?_
      refine hn5 _ _ ?_
      refine bkR hQ4 fun Q6 hn6 hQ6 he6 hb6=>?_
      refine cW (fun k F Hx=>∃m:Nat,m+k=(arN (aj x0 vx vd lo hi) (aW x1 vx vd lo hi))/\F=[(2,iV lo),(3,iV hi),(4,.ptr (some (H.length,0))),(5,.ptr (some (H.length+1,0))),(14,.ptr (some (H.length+2,0))),(15,.sl (some (H.length+3,0)) ((be (br x0 y0 x1 y1 vx vy vd lo hi) ((aj x0 vx vd lo hi)/64-1) (arN (aj x0 vx vd lo hi) (aW x1 vx vd lo hi)) ((aj y0 vy vd lo hi)/64-1) n++rowR (br x0 y0 x1 y1 vx vy vd lo hi) ((aj x0 vx vd lo hi)/64-1) (((aj y0 vy vd lo hi)/64-1)+(n:Int)) m).length) (aS (be (br x0 y0 x1 y1 vx vy vd lo hi) ((aj x0 vx vd lo hi)/64-1) (arN (aj x0 vx vd lo hi) (aW x1 vx vd lo hi)) ((aj y0 vy vd lo hi)/64-1) n++rowR (br x0 y0 x1 y1 vx vy vd lo hi) ((aj x0 vx vd lo hi)/64-1) (((aj y0 vy vd lo hi)/64-1)+(n:Int)) m).length)),(16,iV (((aj y0 vy vd lo hi)/64-1)+(n:Int))),(17,iV (((aj x0 vx vd lo hi)/64-1)+(m:Int)))]/\Hx=H++[.cells true 0 [iV x0,iV y0,iV x1,iV y1],.cells true 0 [iV vx,iV vy,iV vd],.cells true 0 [iV ((aj x0 vx vd lo hi)/64-1),iV ((aj y0 vy vd lo hi)/64-1),iV ((aW x1 vx vd lo hi)/64+1),iV ((aW y1 vy vd lo hi)/64+1)],.cells (aI (be (br x0 y0 x1 y1 vx vy vd lo hi) ((aj x0 vx vd lo hi)/64-1) (arN (aj x0 vx vd lo hi) (aW x1 vx vd lo hi)) ((aj y0 vy vd lo hi)/64-1) n++rowR (br x0 y0 x1 y1 vx vy vd lo hi) ((aj x0 vx vd lo hi)/64-1) (((aj y0 vy vd lo hi)/64-1)+(n:Int)) m).length) 2 (prs (be (br x0 y0 x1 y1 vx vy vd lo hi) ((aj x0 vx vd lo hi)/64-1) (arN (aj x0 vx vd lo hi) (aW x1 vx vd lo hi)) ((aj y0 vy vd lo hi)/64-1) n++rowR (br x0 y0 x1 y1 vx vy vd lo hi) ((aj x0 vx vd lo hi)/64-1) (((aj y0 vy vd lo hi)/64-1)+(n:Int)) m))]) ((arN (aj x0 vx vd lo hi) (aW x1 vx vd lo hi))) ?_ ?_
      ·refine⟨_,_,_,⟨0,by omega,rfl,rfl⟩,bS hbel [0,1,2,3] (al (jn @rowR_0 (jn @List.append_nil.{0} (jn @Int.natCast_zero @Int.add_zero))))⟩
      rintro k1 F Hx ⟨m,hm1,rfl,rfl⟩ Q7 hJ1 hr7 he7
      have hQ7:=fun F H' h=>hr7 F H' (hQ6 F H' h)
      refine zQT hQ7 fun Q8 hn8 hQ8 he8=>?_
      refine rcs G12 (fun h9 h9d G13=>?_) (fun h9 h9d G18=>?_)
      ·have hgb:=qD (p:=(br x0 y0 x1 y1 vx vy vd lo hi)) (x0:=((aj x0 vx vd lo hi)/64-1)) (y0:=((aj y0 vy vd lo hi)/64-1)) (y:=((aj y0 vy vd lo hi)/64-1)+(n:Int)) (w:=(arN (aj x0 vx vd lo hi) (aW x1 vx vd lo hi))) (n:=n) (m:=m) (by omega) (by omega) (by omega)
       refine aa G13 ?_
       refine hn8 _ _ (sqR hQ7 fun Q9 hn9 hQ9 he9=>?_)
       refine bkR hQ9 fun Q10 hn10 hQ10 he10 hb10=>?_
       refine zQT hQ10 fun Q11 hn11 hQ11 he11=>?_
       refine aa G13 ?_
       refine hn11 _ _ ?_
       refine aL true try_mixed [[0,1,2,3,4,5,6,7,8,9],[0,1,2,7,3,4,5,6,8,9],[0,2,7,1,3,4,5,6,8,9]] (by kernel_rfl) (fun F2 H2=>F2=[(2,iV lo),(3,iV hi),(4,.ptr (some (H.length,0))),(5,.ptr (some (H.length+1,0))),(14,.ptr (some (H.length+2,0))),(15,.sl (some (H.length+3,0)) ((be (br x0 y0 x1 y1 vx vy vd lo hi) ((aj x0 vx vd lo hi)/64-1) (arN (aj x0 vx vd lo hi) (aW x1 vx vd lo hi)) ((aj y0 vy vd lo hi)/64-1) n++rowR (br x0 y0 x1 y1 vx vy vd lo hi) ((aj x0 vx vd lo hi)/64-1) (((aj y0 vy vd lo hi)/64-1)+(n:Int)) m).length) (aS (be (br x0 y0 x1 y1 vx vy vd lo hi) ((aj x0 vx vd lo hi)/64-1) (arN (aj x0 vx vd lo hi) (aW x1 vx vd lo hi)) ((aj y0 vy vd lo hi)/64-1) n++rowR (br x0 y0 x1 y1 vx vy vd lo hi) ((aj x0 vx vd lo hi)/64-1) (((aj y0 vy vd lo hi)/64-1)+(n:Int)) m).length)),(16,iV (((aj y0 vy vd lo hi)/64-1)+(n:Int))),(17,iV (((aj x0 vx vd lo hi)/64-1)+(m:Int))),(18,.ptr (some (H.length+4,0))),(19,.ptr (some (H.length+5,0))),(20,.bool (dc ((((aj x0 vx vd lo hi)/64-1)+(m:Int))*64) ((((aj y0 vy vd lo hi)/64-1)+(n:Int))*64) ((((aj x0 vx vd lo hi)/64-1)+(m:Int))*64+64) ((((aj y0 vy vd lo hi)/64-1)+(n:Int))*64+64) x0 y0 x1 y1))]/\H2=H++[.cells true 0 [iV x0,iV y0,iV x1,iV y1],.cells true 0 [iV vx,iV vy,iV vd],.cells true 0 [iV ((aj x0 vx vd lo hi)/64-1),iV ((aj y0 vy vd lo hi)/64-1),iV ((aW x1 vx vd lo hi)/64+1),iV ((aW y1 vy vd lo hi)/64+1)],.cells (aI (be (br x0 y0 x1 y1 vx vy vd lo hi) ((aj x0 vx vd lo hi)/64-1) (arN (aj x0 vx vd lo hi) (aW x1 vx vd lo hi)) ((aj y0 vy vd lo hi)/64-1) n++rowR (br x0 y0 x1 y1 vx vy vd lo hi) ((aj x0 vx vd lo hi)/64-1) (((aj y0 vy vd lo hi)/64-1)+(n:Int)) m).length) 2 (prs (be (br x0 y0 x1 y1 vx vy vd lo hi) ((aj x0 vx vd lo hi)/64-1) (arN (aj x0 vx vd lo hi) (aW x1 vx vd lo hi)) ((aj y0 vy vd lo hi)/64-1) n++rowR (br x0 y0 x1 y1 vx vy vd lo hi) ((aj x0 vx vd lo hi)/64-1) (((aj y0 vy vd lo hi)/64-1)+(n:Int)) m)),.cells true 0 [iV (((aj x0 vx vd lo hi)/64-1)+(m:Int)),iV (((aj y0 vy vd lo hi)/64-1)+(n:Int))],.cells true 0 [iV (mkV (dc ((((aj x0 vx vd lo hi)/64-1)+(m:Int))*64) ((((aj y0 vy vd lo hi)/64-1)+(n:Int))*64) ((((aj x0 vx vd lo hi)/64-1)+(m:Int))*64+64) ((((aj y0 vy vd lo hi)/64-1)+(n:Int))*64+64) x0 y0 x1 y1) (((((aj x0 vx vd lo hi)/64-1)+(m:Int))*64)-x1)),iV (mkV (dc ((((aj x0 vx vd lo hi)/64-1)+(m:Int))*64) ((((aj y0 vy vd lo hi)/64-1)+(n:Int))*64) ((((aj x0 vx vd lo hi)/64-1)+(m:Int))*64+64) ((((aj y0 vy vd lo hi)/64-1)+(n:Int))*64+64) x0 y0 x1 y1) (((((aj y0 vy vd lo hi)/64-1)+(n:Int))*64)-y1)),iV (mkV (dc ((((aj x0 vx vd lo hi)/64-1)+(m:Int))*64) ((((aj y0 vy vd lo hi)/64-1)+(n:Int))*64) ((((aj x0 vx vd lo hi)/64-1)+(m:Int))*64+64) ((((aj y0 vy vd lo hi)/64-1)+(n:Int))*64+64) x0 y0 x1 y1) (((((aj x0 vx vd lo hi)/64-1)+(m:Int))*64+64)-x0)),iV (mkV (dc ((((aj x0 vx vd lo hi)/64-1)+(m:Int))*64) ((((aj y0 vy vd lo hi)/64-1)+(n:Int))*64) ((((aj x0 vx vd lo hi)/64-1)+(m:Int))*64+64) ((((aj y0 vy vd lo hi)/64-1)+(n:Int))*64+64) x0 y0 x1 y1) (((((aj y0 vy vd lo hi)/64-1)+(n:Int))*64+64)-y0))]]) ?_ ?_
       ·refine af ?_ (af ?_ (af ?_ (aQ)))<;>intro J hJ
        ·refine ag G13 ?_
         refine cd (cM _ _ _ (by omega) (by omega)) ?_
         refine ag G13 ?_
         refine cd (mI _ _ _ _ _ _ _ _ _ (by omega) (by omega) (by omega) (by omega) (by omega) (by omega) (by omega) (by omega)) ?_
         refine ag G13 ?_
         refine ai (hJ _ _ ⟨_,_,_,⟨rfl,rfl⟩,bS hbel [0,1,2,3,4,5] dS⟩)
        ·refine ag G13 ?_
         refine cd (cM _ _ _ (by omega) (by omega)) ?_
         refine ag G13 ?_
         refine cd (mI _ _ _ _ _ _ _ _ _ (by omega) (by omega) (by omega) (by omega) (by omega) (by omega) (by omega) (by omega)) ?_
         refine ag G13 ?_
         refine ai (hJ _ _ ⟨_,_,_,⟨rfl,rfl⟩,bS hbel [0,1,2,3,4,5] dS⟩)
        refine ag G13 ?_
        refine cd (cM _ _ _ (by omega) (by omega)) ?_
        refine ag G13 ?_
        refine cd (mI _ _ _ _ _ _ _ _ _ (by omega) (by omega) (by omega) (by omega) (by omega) (by omega) (by omega) (by omega)) ?_
        refine ag G13 ?_
        refine ai (hJ _ _ ⟨_,_,_,⟨rfl,rfl⟩,bS hbel [0,1,2,3,4,5] dS⟩)
       rintro F2 H2 ⟨rfl,rfl⟩
       refine fnT ?_
       refine rgs G13 (fun h10 h10d G14=>?_) (fun h10 h10d G17=>?_)
       ·have hmn:=h10d
        refine aa G14 ?_
        refine cv (jc _ 0 0 _ _ _ _ _ _ _ _ _) ?_
        refine rcs G14 (fun h11 h11d _=>?_) (fun h11 h11d G16=>?_)
        ·have hov:br x0 y0 x1 y1 vx vy vd lo hi (((aj x0 vx vd lo hi)/64-1)+(m:Int)) (((aj y0 vy vd lo hi)/64-1)+(n:Int))=true:=by have q:=h11d;unfold br;rw[hmn];exact q
         have G15:=jn h11 (jn h11d (jn @cH G14))
         refine aa G15 ?_
         refine hn10 _ _ ?_
         refine hn9 _ _ ?_
         refine fnT ?_
         refine aa G15 ?_
         refine hJ1 _ _ ⟨k1-1,by omega,_,_,_,⟨m+1,by omega,rfl,rfl⟩,bS hbel [0,1,2,7] (al (jn @rowR.eq_2 (jn @hov (jn @if_true.{1} (jn @if_false.{1} (jn @Bool.false_eq_true (jn @List.append_nil.{0} (jn @List.append_assoc.{0} (jn @Int.natCast_add (jn @Int.natCast_one @Int.add_assoc))))))))))⟩
        have hov:br x0 y0 x1 y1 vx vy vd lo hi (((aj x0 vx vd lo hi)/64-1)+(m:Int)) (((aj y0 vy vd lo hi)/64-1)+(n:Int))=false:=by have q:=h11d;unfold br;rw[hmn];exact q
        refine aa G16 ?_
        refine hn10 _ _ ?_
        refine hn9 _ _ ?_
        refine fnT ?_
        refine aa G16 ?_
        refine hJ1 _ _ ⟨k1-1,by omega,_,_,_,⟨m+1,by omega,rfl,rfl⟩,bS hbel [0,1,2,3] (al (jn @rowR.eq_2 (jn @hov (jn @if_true.{1} (jn @if_false.{1} (jn @Bool.false_eq_true (jn @List.append_nil.{0} (jn @List.append_assoc.{0} (jn @Int.natCast_add (jn @Int.natCast_one @Int.add_assoc))))))))))⟩
       have hov:br x0 y0 x1 y1 vx vy vd lo hi (((aj x0 vx vd lo hi)/64-1)+(m:Int)) (((aj y0 vy vd lo hi)/64-1)+(n:Int))=false:=by unfold br;rw[h10d];rfl
       refine aa G17 ?_
       refine hn10 _ _ ?_
       refine hn9 _ _ ?_
       refine fnT ?_
       refine aa G17 ?_
       refine hJ1 _ _ ⟨k1-1,by omega,_,_,_,⟨m+1,by omega,rfl,rfl⟩,bS hbel [0,1,2,3] (al (jn @rowR.eq_2 (jn @hov (jn @if_true.{1} (jn @if_false.{1} (jn @Bool.false_eq_true (jn @List.append_nil.{0} (jn @List.append_assoc.{0} (jn @Int.natCast_add (jn @Int.natCast_one @Int.add_assoc))))))))))⟩
      obtain rfl:m=(arN (aj x0 vx vd lo hi) (aW x1 vx vd lo hi)):=by omega
      refine aa G18 ?_
      refine he8 _ _ _ ?_
      refine he7 _ _ _ ?_
      refine hb6 _ _ ?_
      refine hn4 _ _ ?_
      refine hn3 _ _ ?_
      refine fnT ?_
      refine aa G18 ?_
      refine hJ0 _ _ ⟨k0-1,by omega,_,_,_,⟨n+1,by omega,rfl,rfl⟩,bS hbel [0,1,2,3] (al (jn @od (jn @Int.natCast_add (jn @Int.natCast_one @Int.add_assoc))))⟩
     obtain rfl:n=arN (aj y0 vy vd lo hi) (aW y1 vy vd lo hi):=by omega
     refine aa G19 ?_
     refine he2 _ _ _ ?_
     refine he1 _ _ _ ?_
     refine aa G19 ?_
     refine hQ _ _ (aM (.inl rfl) hbel (x1:=.tup [.sl (some (H.length+3,0)) ((be (br x0 y0 x1 y1 vx vy vd lo hi) ((aj x0 vx vd lo hi)/64-1) (arN (aj x0 vx vd lo hi) (aW x1 vx vd lo hi)) ((aj y0 vy vd lo hi)/64-1) (arN (aj y0 vy vd lo hi) (aW y1 vy vd lo hi))).length) (aS (be (br x0 y0 x1 y1 vx vy vd lo hi) ((aj x0 vx vd lo hi)/64-1) (arN (aj x0 vx vd lo hi) (aW x1 vx vd lo hi)) ((aj y0 vy vd lo hi)/64-1) (arN (aj y0 vy vd lo hi) (aW y1 vy vd lo hi))).length),iV 0]) (l2:=[.cells (aI (be (br x0 y0 x1 y1 vx vy vd lo hi) ((aj x0 vx vd lo hi)/64-1) (arN (aj x0 vx vd lo hi) (aW x1 vx vd lo hi)) ((aj y0 vy vd lo hi)/64-1) (arN (aj y0 vy vd lo hi) (aW y1 vy vd lo hi))).length) 2 (prs (be (br x0 y0 x1 y1 vx vy vd lo hi) ((aj x0 vx vd lo hi)/64-1) (arN (aj x0 vx vd lo hi) (aW x1 vx vd lo hi)) ((aj y0 vy vd lo hi)/64-1) (arN (aj y0 vy vd lo hi) (aW y1 vy vd lo hi))))]) (.tup [.sl (some (H.length,0)) ((be (br x0 y0 x1 y1 vx vy vd lo hi) ((aj x0 vx vd lo hi)/64-1) (arN (aj x0 vx vd lo hi) (aW x1 vx vd lo hi)) ((aj y0 vy vd lo hi)/64-1) (arN (aj y0 vy vd lo hi) (aW y1 vy vd lo hi))).length) (aS (be (br x0 y0 x1 y1 vx vy vd lo hi) ((aj x0 vx vd lo hi)/64-1) (arN (aj x0 vx vd lo hi) (aW x1 vx vd lo hi)) ((aj y0 vy vd lo hi)/64-1) (arN (aj y0 vy vd lo hi) (aW y1 vy vd lo hi))).length),iV 0]) (aU results138) [] rfl [3] (by decide) ⟨by rw[hfinG,hfinL,hfinE],by rw[hfinG,hfinL]⟩ ?_)
     exact ar
    have hz:=nB hp1 hv hlh (.inl h6d)
    have hfinE:=hz.1
    have hfinL:=hz.2
    refine aa G20 ?_
    refine hQ _ _ (aM (.inl rfl) hbel (x1:=.tup [.sl none 0 (some 0),iV 6]) (l2:=[.cells false 2 []]) (.tup [.sl (some (H.length,0)) 0 (some 0),iV 6]) (aU results138) [.cells false 2 []] rfl [2] (by decide) ⟨by (rw[hfinL,hfinE];rfl),by (rw[hfinL];rfl)⟩ ?_)
    exact ar
   have hz:=jT (lo:=lo) (hi:=hi) hp1 hv (by omega)
   have hfinE:=hz.1
   have hfinL:=hz.2
   refine aa G21 ?_
   refine hQ _ _ (aM (.inl rfl) hbel (x1:=.tup [.sl none 0 (some 0),iV 2]) (l2:=[.cells false 2 []]) (.tup [.sl (some (H.length,0)) 0 (some 0),iV 2]) (aU results138) [.cells false 2 []] rfl [2] (by decide) ⟨by (rw[hfinL,hfinE];rfl),by (rw[hfinL];rfl)⟩ ?_)
   exact ar
  have hz:=jT (lo:=lo) (hi:=hi) hp1 hv (by omega)
  have hfinE:=hz.1
  have hfinL:=hz.2
  refine aa G22 ?_
  refine hQ _ _ (aM (.inl rfl) hbel (x1:=.tup [.sl none 0 (some 0),iV 2]) (l2:=[.cells false 2 []]) (.tup [.sl (some (H.length,0)) 0 (some 0),iV 2]) (aU results138) [.cells false 2 []] rfl [2] (by decide) ⟨by (rw[hfinL,hfinE];rfl),by (rw[hfinL];rfl)⟩ ?_)
  exact ar
 have h1d:=bsT h1
 have hz:=nA (x0:=x0) (y0:=y0) (x1:=x1) (y1:=y1) (vx:=vx) (vy:=vy) (vd:=vd) (lo:=lo) (hi:=hi) (fun hh=>by rw[<-rgtB_eq,h1d] at hh;exact absurd hh.1 (by decide))
 have hfinE:=hz.1
 have hfinL:=hz.2
 have G23:=jn h1 @h1d
 refine aa G23 ?_
 refine hQ _ _ (aM (.inl rfl) hbel (x1:=.tup [.sl none 0 (some 0),iV 1]) (l2:=[.cells false 2 []]) (.tup [.sl (some (H.length,0)) 0 (some 0),iV 1]) (aU results138) [.cells false 2 []] rfl [2] (by decide) ⟨by (rw[hfinL,hfinE];rfl),by (rw[hfinL];rfl)⟩ ?_)
 exact ar
end Go.Proofs.YtidlfjajjieepaaGreat
