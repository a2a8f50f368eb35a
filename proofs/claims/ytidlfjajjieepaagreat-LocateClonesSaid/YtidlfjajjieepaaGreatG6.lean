/- Proved: the law LocateClones returns true on every input, and its arguments read afterwards as before. Conditions: none beyond the given row's. -/
import Derived.Test.YtidlfjajjieepaaGreatG5
import Derived.Test.YtidlfjajjieepaaGreatG4
import Derived.Test.YtidlfjajjieepaaGreatG2
import Derived.Test.YtidlfjajjieepaaGreatG3
namespace Go.Proofs.YtidlfjajjieepaaGreat
set_option linter.unusedSimpArgs false
set_option linter.unusedVariables false
open Go.RowKit Go.Proofs.Tryz
set_option maxHeartbeats 4000000
set_option maxRecDepth 100000
theorem gQ (H:ac)(a z:Int)(h:a%256=z):zC 41 [iV a,iV 256] H (iV z) H:=by
 have k:=lb H a 256 (by decide) (by decide)
 rw[show (((a%256).toNat:Nat):Int)=z by omega] at k
 exact k
theorem rsw1_c (H:ac)(x0 y0 x1 y1 vx vy vd lo hi lo2:Int)(hl:lo=lo2)(hE:eT x0 y0 x1 y1 vx vy vd lo hi=0):zC 138 [.agg [iV x0,iV y0,iV x1,iV y1],.agg [iV vx,iV vy,iV vd],iV lo2,iV hi] H (.tup [.sl (some (H.length,0)) (bv x0 y0 x1 y1 vx vy vd lo hi).length (aS (bv x0 y0 x1 y1 vx vy vd lo hi).length),iV 0]) (H++[.cells (aI (bv x0 y0 x1 y1 vx vy vd lo hi).length) 2 (prs (bv x0 y0 x1 y1 vx vy vd lo hi))]):=by
 subst hl
 have k:=re H x0 y0 x1 y1 vx vy vd lo hi
 rw[hE] at k
 exact k
theorem badA_n {W Hh:Int}{xs:List Int}{x0 y0 x1 y1 h g:Int}{s:List (Int×Int)}(k:∀j:Nat,j<s.length->(dC x0 y0 x1 y1&&dK W Hh xs x0 y0 x1 y1 h (g1 s j) (g2 s j) g)=false):fQ W Hh xs x0 y0 x1 y1 h s g=false:=by
 unfold fQ
 cases hA:dC x0 y0 x1 y1 with
 |false=>rfl
 |true=>rw[li (fun j hj=>by have q:=k j hj;rw[hA,Bool.true_and] at q;rw[<-bC hj];exact q)];rfl
theorem badA_y {W Hh:Int}{xs:List Int}{x0 y0 x1 y1 h g:Int}{s:List (Int×Int)}{i:Nat}(hi:i<s.length)(k:(dC x0 y0 x1 y1&&dK W Hh xs x0 y0 x1 y1 h (g1 s i) (g2 s i) g)=true):fQ W Hh xs x0 y0 x1 y1 h s g=true:=by
 rw[Bool.and_eq_true] at k
 unfold fQ
 rw[k.1]
 exact List.any_eq_true.2 ⟨_,List.getElem_mem hi,by rw[<-bC hi];exact k.2⟩
theorem rrfd_c (H:ac)(W Hh:Int)(pp:AV)(xs:List Int)(x0 y0 x1 y1 h m r g:Int)(hpp:zI H pp xs)(hV:bK W Hh xs=true)(hbe:dy m r=true)(hg:1<=g/\g<=32)(hh:0<=h/\h<=255):zC 174 [.agg [iV W,iV Hh,pp],.agg [iV x0,iV y0,iV x1,iV y1],iV h,.agg [iV m,iV r],iV g] H (.bool (dC x0 y0 x1 y1&&dK W Hh xs x0 y0 x1 y1 h m r g)) H:=by
 obtain⟨bpp,opp,cpp,rfl,hbpp,hblpp,hb0pp⟩:=zA1 hpp
 have hbb:=fm.1 hbe
 have hbv:=beam_ok h m
 have hh1:decide (h<0)=false:=decide_eq_false (by omega)
 have hh2:decide (256<=h)=false:=decide_eq_false (by omega)
 have hg1:decide (g<1)=false:=decide_eq_false (by omega)
 have hg2:decide (32<g)=false:=decide_eq_false (by omega)
 have el0:(if 0<r-g then r-g else 0)=cF r g:=rfl
 have htl:=jb x0 y0 x1 y1 (aq h m).1 (aq h m).2.1 (aq h m).2.2 (cF r g) (r+g)
 refine AcT true func174 ?_;intro hbel Q hQ
 have G1:=jn @hbpp (jn @hb0pp (jn @hV (jn @hbe (jn @hh1 (jn @hh2 (jn @hg1 (jn @hg2 @el0)))))))
 refine aa G1 ?_
 refine cvr G1 (iF _ W Hh _ xs (.inr (zA2 hb0pp hbpp))) ?_
 refine cvr G1 (bbeam_c _ m r) ?_
 refine cv (radm_c _ _ _ _ _) ?_
 refine rgs G1 (fun h1 h1d G2=>?_) (fun h1 h1d G19=>?_)
 ·have hA:=h1d
  have had:=eq.1 hA
  have hE0:eT x0 y0 x1 y1 (aq h m).1 (aq h m).2.1 (aq h m).2.2 (cF r g) (r+g)=0:=(sptE_0 (iX.2 (by omega)) hbv (by unfold cF;split<;>omega) (by omega)).1
  refine aa G2 ?_
  refine cv (iG _ h m) ?_
  refine rcs G2 (fun h2 h2d _=>?_) (fun h2 h2d _=>?_)
  ·have h2n:=bnT h2
   have hfinR:(dC x0 y0 x1 y1&&dK W Hh xs x0 y0 x1 y1 h m r g)=de W Hh xs x0 y0 x1 y1 ((aq h m).1) ((aq h m).2.1) ((aq h m).2.2) (1024-g) false:=by rw[hA,Bool.true_and];unfold dK;rw[h2];rfl
   have G3:=jn h2 (jn h2n (jn @aK (jn @aJ G2)))
   refine aa G3 ?_
   refine cvr G3 (rblkf_c _ W _ _ xs _ _ _ _ _ _ _ _ (zA2 hb0pp hbpp) hV (by omega) (by omega) (by assumption) (by omega)) ?_
   exact eP hQ hbel (.bool (de W Hh xs x0 y0 x1 y1 ((aq h m).1) ((aq h m).2.1) ((aq h m).2.2) (1024-g) false)) results174 ⟨by rw[hfinR],rfl⟩
  have h2n:=bnT h2
  have hrf:=h2
  have G4:=jn h2 (jn h2n (jn @aK (jn @aJ G2)))
  refine rgs G4 (fun h3 h3d G5=>?_) (fun h3 h3d G13=>?_)
  ·have hlo0:cF r g=r-g:=if_pos h3d
   refine aa G5 ?_
   refine cv (rblkt_c _ W _ _ xs _ _ _ _ _ _ _ _ (zA2 hb0pp hbpp) hV (by omega) (by omega) (by assumption) (by omega)) ?_
   refine rcs G5 (fun h4 h4d G6=>?_) (fun h4 h4d G7=>?_)
   ·have hfinR:(dC x0 y0 x1 y1&&dK W Hh xs x0 y0 x1 y1 h m r g)=true:=by rw[hA,Bool.true_and];unfold dK;rw[hrf,h4d];rfl
    exact eR G6 hQ hbel (.bool true) results174 ⟨by rw[hfinR],rfl⟩
   have hz0:=h4d
   refine aa G7 ?_
   refine cvr G7 (rsw1_c _ _ _ _ _ _ _ _ (cF r g) _ _ (by exact hlo0) hE0) ?_
   refine glp (fun k F Hx=>∃i:Nat,i+k=(bv x0 y0 x1 y1 ((aq h m).1) ((aq h m).2.1) ((aq h m).2.2) (cF r g) (r+g)).length/\(∀j:Nat,j<i->frC W Hh xs (g1 (bv x0 y0 x1 y1 ((aq h m).1) ((aq h m).2.1) ((aq h m).2.2) (cF r g) (r+g)) j,g2 (bv x0 y0 x1 y1 ((aq h m).1) ((aq h m).2.1) ((aq h m).2.2) (cF r g) (r+g)) j)=true)/\F=[(5,.ptr (some (H.length,0))),(13,.sl (some (H.length+1,0)) ((bv x0 y0 x1 y1 ((aq h m).1) ((aq h m).2.1) ((aq h m).2.2) (cF r g) (r+g)).length) (aS (bv x0 y0 x1 y1 ((aq h m).1) ((aq h m).2.1) ((aq h m).2.2) (cF r g) (r+g)).length)),(15,iV (i:Int))]/\Hx=H++[.cells true 0 [iV W,iV Hh,.sl (some (bpp,0)) xs.length cpp],.cells (aI (bv x0 y0 x1 y1 ((aq h m).1) ((aq h m).2.1) ((aq h m).2.2) (cF r g) (r+g)).length) 2 (prs (bv x0 y0 x1 y1 ((aq h m).1) ((aq h m).2.1) ((aq h m).2.2) (cF r g) (r+g)))]) ((bv x0 y0 x1 y1 ((aq h m).1) ((aq h m).2.1) ((aq h m).2.2) (cF r g) (r+g)).length) ?_ ?_
   ·refine⟨_,_,_,⟨0,by omega,(fun j h=>by omega),rfl,rfl⟩,bS hbel [0,4] dS⟩
   rintro k0 F Hx ⟨i,hm0,hal,rfl,rfl⟩ J0 hJ0
   have G8:=jn @ba (jn @cp G7)
   refine rcs G8 (fun h5 h5d _=>?_) (fun h5 h5d G12=>?_)
   ·have hlt:i<(bv x0 y0 x1 y1 ((aq h m).1) ((aq h m).2.1) ((aq h m).2.2) (cF r g) (r+g)).length:=by omega
    have q6:=bN (l:=bv x0 y0 x1 y1 ((aq h m).1) ((aq h m).2.1) ((aq h m).2.2) (cF r g) (r+g)) (j:=i) (by omega)
    have G9:=jn h5 (jn h5d (jn q6 G8))
    refine aa G9 ?_
    refine cd (at_c (x:=(g1 (bv x0 y0 x1 y1 ((aq h m).1) ((aq h m).2.1) ((aq h m).2.2) (cF r g) (r+g)) i)) (y:=(g2 (bv x0 y0 x1 y1 ((aq h m).1) ((aq h m).2.1) ((aq h m).2.2) (cF r g) (r+g)) i)) (bp.1 hV) (by exact hb0pp _) rfl) ?_
    refine rcs G9 (fun h7 h7d _=>?_) (fun h7 h7d _=>?_)
    ·have h7n:=bnT h7
     have hfinR:(dC x0 y0 x1 y1&&dK W Hh xs x0 y0 x1 y1 h m r g)=false:=by
      rw[hA,Bool.true_and];unfold dK;rw[hrf,hz0]
      show empB _ _ _ _ _ _ _ _ _ _ _ _=false
      rw[<-Bool.not_eq_true];intro k
      have q:=List.all_eq_true.1 k _ (List.getElem_mem hlt)
      rw[<-bC hlt] at q
      have q2:atI W Hh xs (g1 (bv x0 y0 x1 y1 ((aq h m).1) ((aq h m).2.1) ((aq h m).2.2) (cF r g) (r+g)) i) (g2 (bv x0 y0 x1 y1 ((aq h m).1) ((aq h m).2.1) ((aq h m).2.2) (cF r g) (r+g)) i)=1:=by unfold frC at q;simpa using q
      exact absurd q2 (by exact h7d)
     have G10:=j2 h7 h7n G9
     exact eR G10 hQ hbel (.bool false) results174 ⟨by rw[hfinR],rfl⟩
    have h7n:=bnT h7
    have hone:frC W Hh xs ((g1 (bv x0 y0 x1 y1 ((aq h m).1) ((aq h m).2.1) ((aq h m).2.2) (cF r g) (r+g)) i),(g2 (bv x0 y0 x1 y1 ((aq h m).1) ((aq h m).2.1) ((aq h m).2.2) (cF r g) (r+g)) i))=true:=by unfold frC;rw[beq_iff_eq];exact h7d
    have G11:=j2 h7 h7n G9
    refine aa G11 ?_
    refine hJ0 _ _ ⟨k0-1,by omega,_,_,_,⟨i+1,by omega,fun j hj=>by
          rcases Nat.lt_or_ge j i with h|h
          ·exact hal j h
          rw[show j=i by omega];exact hone,rfl,rfl⟩,bS hbel [0,1] dS⟩
   obtain rfl:i=(bv x0 y0 x1 y1 ((aq h m).1) ((aq h m).2.1) ((aq h m).2.2) (cF r g) (r+g)).length:=by omega
   have hfinR:(dC x0 y0 x1 y1&&dK W Hh xs x0 y0 x1 y1 h m r g)=true:=by
    rw[hA,Bool.true_and];unfold dK;rw[hrf,hz0]
    show empB _ _ _ _ _ _ _ _ _ _ _ _=true
    exact List.all_eq_true.2 fun c hc=>by
     obtain⟨j,hj,rfl⟩:=List.mem_iff_getElem.1 hc
     rw[<-bC hj];exact hal j hj
   exact eR G12 hQ hbel (.bool true) results174 ⟨by rw[hfinR],rfl⟩
  have hlo0:cF r g=0:=if_neg (by omega)
  have hz0:de W Hh xs x0 y0 x1 y1 ((aq h m).1) ((aq h m).2.1) ((aq h m).2.2) (r-g) true=false:=hid_0 (v:=aq h m) (by omega)
  refine aa G13 ?_
  refine cvr G13 (rsw1_c _ _ _ _ _ _ _ _ (cF r g) _ _ (by exact hlo0) hE0) ?_
  refine glp (fun k F Hx=>∃i:Nat,i+k=(bv x0 y0 x1 y1 ((aq h m).1) ((aq h m).2.1) ((aq h m).2.2) (cF r g) (r+g)).length/\(∀j:Nat,j<i->frC W Hh xs (g1 (bv x0 y0 x1 y1 ((aq h m).1) ((aq h m).2.1) ((aq h m).2.2) (cF r g) (r+g)) j,g2 (bv x0 y0 x1 y1 ((aq h m).1) ((aq h m).2.1) ((aq h m).2.2) (cF r g) (r+g)) j)=true)/\F=[(5,.ptr (some (H.length,0))),(13,.sl (some (H.length+1,0)) ((bv x0 y0 x1 y1 ((aq h m).1) ((aq h m).2.1) ((aq h m).2.2) (cF r g) (r+g)).length) (aS (bv x0 y0 x1 y1 ((aq h m).1) ((aq h m).2.1) ((aq h m).2.2) (cF r g) (r+g)).length)),(15,iV (i:Int))]/\Hx=H++[.cells true 0 [iV W,iV Hh,.sl (some (bpp,0)) xs.length cpp],.cells (aI (bv x0 y0 x1 y1 ((aq h m).1) ((aq h m).2.1) ((aq h m).2.2) (cF r g) (r+g)).length) 2 (prs (bv x0 y0 x1 y1 ((aq h m).1) ((aq h m).2.1) ((aq h m).2.2) (cF r g) (r+g)))]) ((bv x0 y0 x1 y1 ((aq h m).1) ((aq h m).2.1) ((aq h m).2.2) (cF r g) (r+g)).length) ?_ ?_
  ·refine⟨_,_,_,⟨0,by omega,(fun j h=>by omega),rfl,rfl⟩,bS hbel [0,4] dS⟩
  rintro k0 F Hx ⟨i,hm0,hal,rfl,rfl⟩ J0 hJ0
  have G14:=jn @ba (jn @cp G13)
  refine rcs G14 (fun h8 h8d _=>?_) (fun h8 h8d G18=>?_)
  ·have hlt:i<(bv x0 y0 x1 y1 ((aq h m).1) ((aq h m).2.1) ((aq h m).2.2) (cF r g) (r+g)).length:=by omega
   have q9:=bN (l:=bv x0 y0 x1 y1 ((aq h m).1) ((aq h m).2.1) ((aq h m).2.2) (cF r g) (r+g)) (j:=i) (by omega)
   have G15:=jn h8 (jn h8d (jn q9 G14))
   refine aa G15 ?_
   refine cd (at_c (x:=(g1 (bv x0 y0 x1 y1 ((aq h m).1) ((aq h m).2.1) ((aq h m).2.2) (cF r g) (r+g)) i)) (y:=(g2 (bv x0 y0 x1 y1 ((aq h m).1) ((aq h m).2.1) ((aq h m).2.2) (cF r g) (r+g)) i)) (bp.1 hV) (by exact hb0pp _) rfl) ?_
   refine rcs G15 (fun h10 h10d _=>?_) (fun h10 h10d _=>?_)
   ·have h10n:=bnT h10
    have hfinR:(dC x0 y0 x1 y1&&dK W Hh xs x0 y0 x1 y1 h m r g)=false:=by
     rw[hA,Bool.true_and];unfold dK;rw[hrf,hz0]
     show empB _ _ _ _ _ _ _ _ _ _ _ _=false
     rw[<-Bool.not_eq_true];intro k
     have q:=List.all_eq_true.1 k _ (List.getElem_mem hlt)
     rw[<-bC hlt] at q
     have q2:atI W Hh xs (g1 (bv x0 y0 x1 y1 ((aq h m).1) ((aq h m).2.1) ((aq h m).2.2) (cF r g) (r+g)) i) (g2 (bv x0 y0 x1 y1 ((aq h m).1) ((aq h m).2.1) ((aq h m).2.2) (cF r g) (r+g)) i)=1:=by unfold frC at q;simpa using q
     exact absurd q2 (by exact h10d)
    have G16:=j2 h10 h10n G15
    exact eR G16 hQ hbel (.bool false) results174 ⟨by rw[hfinR],rfl⟩
   have h10n:=bnT h10
   have hone:frC W Hh xs ((g1 (bv x0 y0 x1 y1 ((aq h m).1) ((aq h m).2.1) ((aq h m).2.2) (cF r g) (r+g)) i),(g2 (bv x0 y0 x1 y1 ((aq h m).1) ((aq h m).2.1) ((aq h m).2.2) (cF r g) (r+g)) i))=true:=by unfold frC;rw[beq_iff_eq];exact h10d
   have G17:=j2 h10 h10n G15
   refine aa G17 ?_
   refine hJ0 _ _ ⟨k0-1,by omega,_,_,_,⟨i+1,by omega,fun j hj=>by
         rcases Nat.lt_or_ge j i with h|h
         ·exact hal j h
         rw[show j=i by omega];exact hone,rfl,rfl⟩,bS hbel [0,1] dS⟩
  obtain rfl:i=(bv x0 y0 x1 y1 ((aq h m).1) ((aq h m).2.1) ((aq h m).2.2) (cF r g) (r+g)).length:=by omega
  have hfinR:(dC x0 y0 x1 y1&&dK W Hh xs x0 y0 x1 y1 h m r g)=true:=by
   rw[hA,Bool.true_and];unfold dK;rw[hrf,hz0]
   show empB _ _ _ _ _ _ _ _ _ _ _ _=true
   exact List.all_eq_true.2 fun c hc=>by
    obtain⟨j,hj,rfl⟩:=List.mem_iff_getElem.1 hc
    rw[<-bC hj];exact hal j hj
  exact eR G18 hQ hbel (.bool true) results174 ⟨by rw[hfinR],rfl⟩
 have hfinR:(dC x0 y0 x1 y1&&dK W Hh xs x0 y0 x1 y1 h m r g)=false:=by rw[h1d];rfl
 exact eR G19 hQ hbel (.bool false) results174 ⟨by rw[hfinR],rfl⟩
theorem rbad_c (H:ac)(W Hh:Int)(pp:AV)(xs:List Int)(x0 y0 x1 y1 h:Int)(q:AV)(sc:List (Int×Int))(g:Int)(hpp:zI H pp xs)(hq:SlP H q sc)(hV:bK W Hh xs=true)(hg:1<=g/\g<=32)(hsB:bP sc=true)(hh:0<=h/\h<=255):zC 133 [.agg [iV W,iV Hh,pp],.agg [iV x0,iV y0,iV x1,iV y1],iV h,q,iV g] H (.bool (fQ W Hh xs x0 y0 x1 y1 h sc g)) H:=by
 obtain⟨bpp,opp,cpp,rfl,hbpp,hblpp,hb0pp⟩:=zA1 hpp
 obtain⟨bq,oq,cq,rfl,hbq,hblq,hb0q⟩:=zA1 hq
 have hsc:=cw.1 hsB
 refine AcT true func133 ?_;intro hbel Q hQ
 have G20:=jn @hbpp (jn @hb0pp (jn @hbq @hb0q))
 refine aa G20 ?_
 refine glp (fun k F Hx=>∃i:Nat,i+k=sc.length/\(∀j:Nat,j<i->(dC x0 y0 x1 y1&&dK W Hh xs x0 y0 x1 y1 h (g1 sc j) (g2 sc j) g)=false)/\F=[(2,iV h),(3,.sl (some (bq,0)) sc.length cq),(4,iV g),(5,.ptr (some (H.length,0))),(6,.ptr (some (H.length+1,0))),(11,iV (i:Int))]/\Hx=H++[.cells true 0 [iV W,iV Hh,.sl (some (bpp,0)) xs.length cpp],.cells true 0 [iV x0,iV y0,iV x1,iV y1]]) (sc.length) ?_ ?_
 ·refine⟨_,_,_,⟨0,by omega,(fun j h=>by omega),rfl,rfl⟩,bS hbel [0,1] ar⟩
 rintro k0 F Hx ⟨i,hm0,hal,rfl,rfl⟩ J0 hJ0
 refine rcs G20 (fun h1 h1d _=>?_) (fun h1 h1d G24=>?_)
 ·have hlt:i<sc.length:=by omega
  have hbe:=hsc.2 _ (List.getElem_mem hlt)
  rw[<-bC hlt] at hbe
  have hbe2:dy (g1 sc i) (g2 sc i)=true:=hbe
  have q2:=bN (l:=sc) (j:=i) (by omega)
  have G21:=jn h1 (jn h1d (jn q2 G20))
  refine aa G21 ?_
  refine cd (rrfd_c _ W _ _ xs _ _ _ _ h _ _ g (zA2 hb0pp hbpp) hV (by assumption) hg (by omega)) ?_
  refine rcs G21 (fun h3 h3d G22=>?_) (fun h3 h3d G23=>?_)
  ·have hfinB:fQ W Hh xs x0 y0 x1 y1 h sc g=true:=badA_y hlt h3
   exact eR G22 hQ hbel (.bool true) results133 ⟨by rw[hfinB],rfl⟩
  have hno:=h3
  refine aa G23 ?_
  refine hJ0 _ _ ⟨k0-1,by omega,_,_,_,⟨i+1,by omega,fun j hj=>by
        rcases Nat.lt_or_ge j i with h|h
        ·exact hal j h
        rw[show j=i by omega];exact hno,rfl,rfl⟩,bS hbel [0,1] ar⟩
 obtain rfl:i=sc.length:=by omega
 have hfinB:fQ W Hh xs x0 y0 x1 y1 h sc g=false:=badA_n hal
 exact eR G24 hQ hbel (.bool false) results133 ⟨by rw[hfinB],rfl⟩
theorem vol_1 {b:T6}(hb:bl b=true)(h1:b.2.2.1-b.1+1=1)(h2:b.2.2.2.1-b.2.1+1=1)(h3:b.2.2.2.2.2=1):cg b=false:=by
 unfold cg cY;rw[if_pos hb,h1,h2,h3];decide
theorem fA {b:T6}(hb:bl b=true)(h:2<=b.2.2.1-b.1+1\/2<=b.2.2.2.1-b.2.1+1\/2<=b.2.2.2.2.2):cg b=true:=by
 have k:=bB.1 hb
 have a:=bh.1 k.2.2
 have n1:1<=b.2.2.1-b.1+1:=by omega
 have n2:1<=b.2.2.2.1-b.2.1+1:=by omega
 have n3:1<=b.2.2.2.2.2:=by omega
 have p:1<=(b.2.2.1-b.1+1)*(b.2.2.2.1-b.2.1+1):=Int.mul_pos (by omega) (by omega)
 have q:2<=cY b:=by
  unfold cY;rw[if_pos hb]
  rcases h with h|h|h
  ·have z1:=Int.mul_le_mul h n2 (by decide) (by omega)
   have z2:=Int.mul_le_mul z1 n3 (by decide) (by omega)
   omega
  ·have z1:=Int.mul_le_mul n1 h (by decide) (by omega)
   have z2:=Int.mul_le_mul z1 n3 (by decide) (by omega)
   omega
  have z2:=Int.mul_le_mul p h (by decide) (by omega)
  omega
 unfold cg;rw[decide_eq_false (by omega)];rfl
theorem rtrim_c (H:ac)(W Hh:Int)(pp:AV)(xs:List Int)(x0 y0 x1 y1 f c:Int)(q:AV)(sc:List (Int×Int))(g:Int)(hpp:zI H pp xs)(hq:SlP H q sc)(hV:bK W Hh xs=true)(hb:bxB x0 y0 x1 y1 f c=true)(hsB:bP sc=true)(hg:1<=g/\g<=32):zC 89 [.agg [iV W,iV Hh,pp],.agg [iV x0,iV y0,iV x1,iV y1,iV f,iV c],q,iV g] H (.tup [.agg [iV (mkV (tOk W Hh xs (x0,y0,x1,y1,f,c) sc g) ((tB W Hh xs (x0,y0,x1,y1,f,c) sc g).1)),iV (mkV (tOk W Hh xs (x0,y0,x1,y1,f,c) sc g) ((tB W Hh xs (x0,y0,x1,y1,f,c) sc g).2.1)),iV (mkV (tOk W Hh xs (x0,y0,x1,y1,f,c) sc g) ((tB W Hh xs (x0,y0,x1,y1,f,c) sc g).2.2.1)),iV (mkV (tOk W Hh xs (x0,y0,x1,y1,f,c) sc g) ((tB W Hh xs (x0,y0,x1,y1,f,c) sc g).2.2.2.1)),iV (mkV (tOk W Hh xs (x0,y0,x1,y1,f,c) sc g) ((tB W Hh xs (x0,y0,x1,y1,f,c) sc g).2.2.2.2.1)),iV (mkV (tOk W Hh xs (x0,y0,x1,y1,f,c) sc g) ((tB W Hh xs (x0,y0,x1,y1,f,c) sc g).2.2.2.2.2))],.bool (tOk W Hh xs (x0,y0,x1,y1,f,c) sc g)]) H:=by
 obtain⟨bpp,opp,cpp,rfl,hbpp,hblpp,hb0pp⟩:=zA1 hpp
 obtain⟨bq,oq,cq,rfl,hbq,hblq,hb0q⟩:=zA1 hq
 have hbb:=bB.1 hb
 have hab:=hbb.2.2
 have haa:=bh.1 hab
 have hVV:=bp.1 hV
 have hw0:=hVV.w0
 have hw1:=hVV.w1
 have hh0:=hVV.h0
 have hh1:=hVV.h1
 have hln:(mkB (x0,y0,x1,y1,f,c)).length=c.toNat:=dm f c.toNat
 have hf256:f%256=f:=by omega
 have hg1:decide (g<1)=false:=decide_eq_false (by omega)
 have hg2:decide (32<g)=false:=decide_eq_false (by omega)
 have e0:(if x0<0 then 0 else x0)=tX0 (x0,y0,x1,y1,f,c):=rfl
 have e1:(if y0<0 then 0 else y0)=tY0 (x0,y0,x1,y1,f,c):=rfl
 have e2:(if W*64<x1 then W*64 else x1)=tX1 W (x0,y0,x1,y1,f,c):=by rw[Int.mul_comm];rfl
 have e3:(if Hh*64<y1 then Hh*64 else y1)=tY1 Hh (x0,y0,x1,y1,f,c):=by rw[Int.mul_comm];rfl
 (refine aR func89 _ rfl (Nat.le_of_ble_eq_true (by kernel_rfl)) rfl ?_;intro hbel Q hQ hQ' c hc;unfold Tryz.f89 at hc;simp only[Option.some.injEq] at hc;subst hc;clear hQ')
 refine zQT hQ fun Q1 hn1 hQ1 he1=>?_
 have G1:=jn @hbpp (jn @hb0pp (jn @hbq (jn @hb0q (jn @hV (jn @hb (jn @hsB (jn @hg1 (jn @hg2 (jn @e0 (jn @e1 (jn @e2 @e3)))))))))))
 refine aa G1 ?_
 refine hn1 _ _ (zQT hQ fun Q2 hn2 hQ2 he2=>?_)
 refine aa G1 ?_
 refine cvr G1 (iF _ W Hh _ xs (.inr (zA2 hb0pp hbpp))) ?_
 refine cvr G1 (iq _ _ _ _ _ f c) ?_
 refine cvr G1 (ge _ _ sc (zA2 hb0q hbq)) ?_
 refine hn2 _ _ (zQT hQ fun Q3 hn3 hQ3 he3=>?_)
 refine aa G1 ?_
 refine hn3 _ _ ?_
 refine aL true try_mixed [[0,1,2,3,4,5,6,7,8,9,10,11,12,13,14,15],[0,1,2,3,4,5,6,7,8,12,13,9,10,11,14,15]] (by kernel_rfl) (fun F2 H2=>F2=[(2,.sl (some (bq,0)) sc.length cq),(3,iV g),(4,.ptr (some (H.length,0))),(5,.ptr (some (H.length+1,0))),(8,.ptr (some (H.length+2,0))),(9,.bool false)]/\H2=H++[.cells true 0 [iV W,iV Hh,.sl (some (bpp,0)) xs.length cpp],.cells true 0 [iV (tX0 (x0,y0,x1,y1,f,c)),iV (tY0 (x0,y0,x1,y1,f,c)),iV (tX1 W (x0,y0,x1,y1,f,c)),iV (tY1 Hh (x0,y0,x1,y1,f,c)),iV f,iV c],.cells true 0 [iV 0,iV 0,iV 0,iV 0,iV 0,iV 0]]) ?_ ?_
 ·refine af ?_ (af ?_ (aQ))<;>intro J hJ
  ·refine ag G1 ?_
   refine ai (hJ _ _ ⟨_,_,_,⟨rfl,rfl⟩,bS hbel [0,1,2] ar⟩)
  refine ag G1 ?_
  refine ai (hJ _ _ ⟨_,_,_,⟨rfl,rfl⟩,bS hbel [0,1,2] ar⟩)
 rintro F2 H2 ⟨rfl,rfl⟩
 refine fnT ?_
 refine rgs G1 (fun h1 h1d G2=>?_) (fun h1 h1d G14=>?_)
 ·have hnx:=h1d
  refine rcs G2 (fun h2 h2d G3=>?_) (fun h2 h2d G4=>?_)
  ·have hfinO:=tOk_y (W:=W) (Hh:=Hh) (xs:=xs) (b:=(x0,y0,x1,y1,f,c)) (s:=sc) (g:=g) h2d
   exact eR G3 hQ hbel (.tup [.agg [iV 0,iV 0,iV 0,iV 0,iV 0,iV 0],.bool false]) results89 ⟨by (rw[hfinO];rfl),rfl⟩
  have hny:=h2d
  refine aa G4 ?_
  refine glp (fun k F Hx=>∃i:Nat,i+k=c.toNat/\(∀j:Nat,j<i->tP W Hh xs (x0,y0,x1,y1,f,c) sc g j=true)/\F=[(2,.sl (some (bq,0)) sc.length cq),(3,iV g),(4,.ptr (some (H.length,0))),(5,.ptr (some (H.length+1,0))),(8,.ptr (some (H.length+2,0))),(10,.ptr (some (H.length+3,0)))]/\Hx=H++[.cells true 0 [iV W,iV Hh,.sl (some (bpp,0)) xs.length cpp],.cells true 0 [iV (tX0 (x0,y0,x1,y1,f,c)),iV (tY0 (x0,y0,x1,y1,f,c)),iV (tX1 W (x0,y0,x1,y1,f,c)),iV (tY1 Hh (x0,y0,x1,y1,f,c)),iV ((f+(i:Int))%256),iV (c-(i:Int))],.cells true 0 [iV 0,iV 0,iV 0,iV 0,iV 0,iV 0],.cells true 0 [iV (tX0 (x0,y0,x1,y1,f,c)),iV (tY0 (x0,y0,x1,y1,f,c)),iV (tX1 W (x0,y0,x1,y1,f,c)),iV (tY1 Hh (x0,y0,x1,y1,f,c))]]) (c.toNat) ?_ ?_
  ·refine⟨_,_,_,⟨0,by omega,(fun j h=>by omega),rfl,rfl⟩,bS hbel [0,1,2,3] (aF (jn @Int.natCast_zero (jn @Int.add_zero (jn @Int.sub_zero @hf256))))⟩
  rintro k0 F Hx ⟨i,hm0,hal,rfl,rfl⟩ J0 hJ0
  refine rgs G4 (fun h3 h3d G5=>?_) (fun h3 h3d G12=>?_)
  ·have hlt:i<c.toNat:=by omega
   have hgi:gi (mkB (x0,y0,x1,y1,f,c)) i=(f+(i:Int))%256:=i7 hlt
   refine aa G5 ?_
   refine cv (rbad_c _ W _ _ xs _ _ _ _ _ _ sc g (zA2 hb0pp hbpp) (zA2 hb0q hbq) hV hg hsB (by omega)) ?_
   refine rcs G5 (fun h4 h4d G6=>?_) (fun h4 h4d G7=>?_)
   ·have hbi:tP W Hh xs (x0,y0,x1,y1,f,c) sc g i=true:=by unfold tP;rw[hgi];exact h4d
    refine aa G6 ?_
    refine cvr G6 (gQ _ _ ((f+((i+1:Nat):Int))%256) (by omega)) ?_
    have hci:c-(i:Int)-1=c-((i+1:Nat):Int):=by omega
    refine hJ0 _ _ ⟨k0-1,by omega,_,_,_,⟨i+1,by omega,fun j hj=>by
          rcases Nat.lt_or_ge j i with h|h
          ·exact hal j h
          rw[show j=i by omega];exact hbi,rfl,rfl⟩,bS hbel [0,1,2,3] (aF @hci)⟩
   have hpi:tP W Hh xs (x0,y0,x1,y1,f,c) sc g i=false:=by unfold tP;rw[hgi];exact h4d
   have hiN:i<(mkB (x0,y0,x1,y1,f,c)).length:=by omega
   have hfinI:=tI_i hiN hal hpi
   have hfinO:=tOk_y2 hnx hny hiN hfinI
   refine rcs G7 (fun h5 h5d _=>?_) (fun h5 h5d _=>?_)
   ·have h5n:=bnT h5
    omega
   have h5n:=bnT h5
   have G8:=jn h5 (jn h5n (jn @aK (jn @aJ G7)))
   refine aa G8 ?_
   have hcj:c-(i:Int)=((c.toNat-i:Nat):Int):=by omega
   refine glp (fun k F Hx=>∃j:Nat,i+k=j/\i<j/\j<=c.toNat/\(∀q:Nat,j<=q->q<(mkB (x0,y0,x1,y1,f,c)).length->tP W Hh xs (x0,y0,x1,y1,f,c) sc g q=true)/\F=[(2,.sl (some (bq,0)) sc.length cq),(3,iV g),(4,.ptr (some (H.length,0))),(5,.ptr (some (H.length+1,0))),(8,.ptr (some (H.length+2,0))),(10,.ptr (some (H.length+3,0)))]/\Hx=H++[.cells true 0 [iV W,iV Hh,.sl (some (bpp,0)) xs.length cpp],.cells true 0 [iV (tX0 (x0,y0,x1,y1,f,c)),iV (tY0 (x0,y0,x1,y1,f,c)),iV (tX1 W (x0,y0,x1,y1,f,c)),iV (tY1 Hh (x0,y0,x1,y1,f,c)),iV ((f+(i:Int))%256),iV ((j-i:Nat):Int)],.cells true 0 [iV 0,iV 0,iV 0,iV 0,iV 0,iV 0],.cells true 0 [iV (tX0 (x0,y0,x1,y1,f,c)),iV (tY0 (x0,y0,x1,y1,f,c)),iV (tX1 W (x0,y0,x1,y1,f,c)),iV (tY1 Hh (x0,y0,x1,y1,f,c))]]) (c.toNat-i) ?_ ?_
   ·refine⟨_,_,_,⟨c.toNat,by omega,by omega,Nat.le_refl _,(fun q h1 h2=>by omega),rfl,rfl⟩,bS hbel [0,1,2,3] (aF @hcj)⟩
   rintro k1 F Hx ⟨j,hm1,hij,hjn,hbk,rfl,rfl⟩ J1 hJ1
   have hj1:((j-i:Nat):Int)-1=((j-1-i:Nat):Int):=by omega
   have G9:=jn @hj1 G8
   refine aa G9 ?_
   refine cdr G9 (gQ _ _ ((f+((j-1:Nat):Int))%256) (by omega)) ?_
   refine cd (rbad_c _ W _ _ xs _ _ _ _ _ _ sc g (zA2 hb0pp hbpp) (zA2 hb0q hbq) hV hg hsB (by omega)) ?_
   refine rcs G9 (fun h6 h6d G10=>?_) (fun h6 h6d G11=>?_)
   ·have hgj:gi (mkB (x0,y0,x1,y1,f,c)) (j-1)=(f+((j-1:Nat):Int))%256:=i7 (by show j-1<c.toNat;omega)
    have hbj:tP W Hh xs (x0,y0,x1,y1,f,c) sc g (j-1)=true:=by unfold tP;rw[hgj];exact h6d
    have hne:¬j-1=i:=fun e=>by
     have q:=hbj
     rw[e] at q
     exact absurd (q.symm.trans hpi) (by decide)
    refine aa G10 ?_
    refine hJ1 _ _ ⟨k1-1,by omega,_,_,_,⟨j-1,by omega,by omega,by omega,fun q h1 h2=>by
          rcases Nat.lt_or_ge q j with h|h
          ·rw[show q=j-1 by omega];exact hbj
          exact hbk q h h2,rfl,rfl⟩,bS hbel [0,1,2,3] ar⟩
   have hgj:gi (mkB (x0,y0,x1,y1,f,c)) (j-1)=(f+((j-1:Nat):Int))%256:=i7 (by show j-1<c.toNat;omega)
   have hfinJ:=tJ_j (W:=W) (Hh:=Hh) (xs:=xs) (b:=(x0,y0,x1,y1,f,c)) (s:=sc) (g:=g) (j:=j) (by omega) (by unfold tP;rw[hgj];exact h6d) (by omega) hbk
   exact eR G11 hQ hbel (.tup [.agg [iV (tX0 (x0,y0,x1,y1,f,c)),iV (tY0 (x0,y0,x1,y1,f,c)),iV (tX1 W (x0,y0,x1,y1,f,c)),iV (tY1 Hh (x0,y0,x1,y1,f,c)),iV ((f+(i:Int))%256),iV ((j-i:Nat):Int)],.bool true]) results89 ⟨by (unfold tB;rw[hfinO,hfinI,hfinJ,hgi];rfl),rfl⟩
  have hfinO:=tOk_n (W:=W) (Hh:=Hh) (xs:=xs) (b:=(x0,y0,x1,y1,f,c)) (s:=sc) (g:=g) (i:=i) (by omega) hal
  refine rcs G12 (fun h7 h7d _=>?_) (fun h7 h7d _=>?_)
  ·have h7n:=bnT h7
   have G13:=jn h7 (jn h7n (jn @aK (jn @aJ G12)))
   exact eR G13 hQ hbel (.tup [.agg [iV 0,iV 0,iV 0,iV 0,iV 0,iV 0],.bool false]) results89 ⟨by (rw[hfinO];rfl),rfl⟩
  have h7n:=bnT h7
  omega
 have hfinO:=tOk_x (W:=W) (Hh:=Hh) (xs:=xs) (b:=(x0,y0,x1,y1,f,c)) (s:=sc) (g:=g) h1d
 exact eR G14 hQ hbel (.tup [.agg [iV 0,iV 0,iV 0,iV 0,iV 0,iV 0],.bool false]) results89 ⟨by (rw[hfinO];rfl),rfl⟩
theorem rtrim_t (H:ac)(W Hh:Int)(pp:AV)(xs:List Int)(b:T6)(q:AV)(sc:List (Int×Int))(g:Int)(hpp:zI H pp xs)(hq:SlP H q sc)(hV:bK W Hh xs=true)(hb:bl b=true)(hsB:bP sc=true)(hg:1<=g/\g<=32):
  zC 89 [.agg [iV W,iV Hh,pp],.agg [iV b.1,iV b.2.1,iV b.2.2.1,iV b.2.2.2.1,iV b.2.2.2.2.1,iV b.2.2.2.2.2],q,iV g] H (.tup [.agg [iV (mkV (tOk W Hh xs b sc g) (tB W Hh xs b sc g).1),iV (mkV (tOk W Hh xs b sc g) (tB W Hh xs b sc g).2.1),iV (mkV (tOk W Hh xs b sc g) (tB W Hh xs b sc g).2.2.1),iV (mkV (tOk W Hh xs b sc g) (tB W Hh xs b sc g).2.2.2.1),iV (mkV (tOk W Hh xs b sc g) (tB W Hh xs b sc g).2.2.2.2.1),iV (mkV (tOk W Hh xs b sc g) (tB W Hh xs b sc g).2.2.2.2.2)],.bool (tOk W Hh xs b sc g)]) H :=
 rtrim_c H W Hh pp xs b.1 b.2.1 b.2.2.1 b.2.2.2.1 b.2.2.2.2.1 b.2.2.2.2.2 q sc g hpp hq hV hb hsB hg
theorem rf (H:ac)(x0 y0 x1 y1 f c:Int)(hb:bxB x0 y0 x1 y1 f c=true):zC 90 [.agg [iV x0,iV y0,iV x1,iV y1,iV f,iV c]] H (.tup [.agg [iV (mkV (cg (x0,y0,x1,y1,f,c)) ((bR (x0,y0,x1,y1,f,c)).1)),iV (mkV (cg (x0,y0,x1,y1,f,c)) ((bR (x0,y0,x1,y1,f,c)).2.1)),iV (mkV (cg (x0,y0,x1,y1,f,c)) ((bR (x0,y0,x1,y1,f,c)).2.2.1)),iV (mkV (cg (x0,y0,x1,y1,f,c)) ((bR (x0,y0,x1,y1,f,c)).2.2.2.1)),iV (mkV (cg (x0,y0,x1,y1,f,c)) ((bR (x0,y0,x1,y1,f,c)).2.2.2.2.1)),iV (mkV (cg (x0,y0,x1,y1,f,c)) ((bR (x0,y0,x1,y1,f,c)).2.2.2.2.2))],.agg [iV (mkV (cg (x0,y0,x1,y1,f,c)) ((bT (x0,y0,x1,y1,f,c)).1)),iV (mkV (cg (x0,y0,x1,y1,f,c)) ((bT (x0,y0,x1,y1,f,c)).2.1)),iV (mkV (cg (x0,y0,x1,y1,f,c)) ((bT (x0,y0,x1,y1,f,c)).2.2.1)),iV (mkV (cg (x0,y0,x1,y1,f,c)) ((bT (x0,y0,x1,y1,f,c)).2.2.2.1)),iV (mkV (cg (x0,y0,x1,y1,f,c)) ((bT (x0,y0,x1,y1,f,c)).2.2.2.2.1)),iV (mkV (cg (x0,y0,x1,y1,f,c)) ((bT (x0,y0,x1,y1,f,c)).2.2.2.2.2))],.bool (cg (x0,y0,x1,y1,f,c))]) H:=by
 have hbb:=bB.1 hb
 have haa:=bh.1 hbb.2.2
 have et1:Int.tdiv (x1-x0+1) 2=(x1-x0+1)/2:=Int.tdiv_eq_ediv_of_nonneg (by omega)
 have et2:Int.tdiv (y1-y0+1) 2=(y1-y0+1)/2:=Int.tdiv_eq_ediv_of_nonneg (by omega)
 have et3:Int.tdiv c 2=c/2:=Int.tdiv_eq_ediv_of_nonneg (by omega)
 have hsA:=nH (n:=x1-x0+1) (by omega)
 have hsB:=nH (n:=y1-y0+1) (by omega)
 have hsC:=splS_8 (n:=c) (by omega)
 (refine aR func90 _ rfl (Nat.le_of_ble_eq_true (by kernel_rfl)) rfl ?_;intro hbel Q hQ hQ' c hc;unfold Tryz.f90 at hc;simp only[Option.some.injEq] at hc;subst hc;clear hQ')
 refine zQT hQ fun Q4 hn4 hQ4 he4=>?_
 have G15:=jn @hb (jn @et1 (jn @et2 (jn @et3 @Int.sub_add_cancel)))
 refine aa G15 ?_
 refine hn4 _ _ (zQT hQ fun Q5 hn5 hQ5 he5=>?_)
 refine aa G15 ?_
 refine cvr G15 (iq _ _ _ _ _ f c) ?_
 refine hn5 _ _ (zQT hQ fun Q6 hn6 hQ6 he6=>?_)
 refine aa G15 ?_
 refine hn6 _ _ (zQT hQ fun Q7 hn7 hQ7 he7=>?_)
 refine aa G15 ?_
 refine hn7 _ _ (zQT hQ fun Q8 hn8 hQ8 he8=>?_)
 refine rcs G15 (fun h1 h1d G16=>?_) (fun h1 h1d G43=>?_)
 ·refine aa G16 ?_
  refine hn8 _ _ (zQT hQ fun Q9 hn9 hQ9 he9=>?_)
  refine rcs G16 (fun h2 h2d G17=>?_) (fun h2 h2d G33=>?_)
  ·refine aa G17 ?_
   refine hn9 _ _ (zQT hQ fun Q10 hn10 hQ10 he10=>?_)
   refine rcs G17 (fun h3 h3d G18=>?_) (fun h3 h3d G27=>?_)
   ·refine aa G18 ?_
    refine hn10 _ _ (zQT hQ fun Q11 hn11 hQ11 he11=>?_)
    refine rgs G18 (fun h4 h4d _=>?_) (fun h4 h4d _=>?_)
    ·have h4n:=bnT h4
     omega
    have h4n:=bnT h4
    have G19:=jn h4 (jn h4n (jn @aK (jn @aJ G18)))
    refine aa G19 ?_
    refine hn11 _ _ ?_
    refine aL true try_mixed [[0,1,2,3,4,5],[0,2,3,4,1,5],[0,1,3,2,4,5],[0,3,2,4,1,5]] (by kernel_rfl) (fun F2 H2=>F2=[(1,.ptr (some (H.length,0))),(2,.ptr (some (H.length+1,0))),(3,.ptr (some (H.length+2,0))),(4,.bool false),(5,iV ((x1-x0)+1)),(6,iV ((y1-y0)+1)),(7,iV c),(8,iV ((x1-x0)+1)),(9,iV ((y1-y0)+1)),(10,iV (8*c)),(11,.ptr (some (H.length+3,0))),(12,.ptr (some (H.length+4,0)))]/\H2=H++[.cells true 0 [iV x0,iV y0,iV x1,iV y1,iV f,iV c],.cells true 0 [iV 0,iV 0,iV 0,iV 0,iV 0,iV 0],.cells true 0 [iV 0,iV 0,iV 0,iV 0,iV 0,iV 0],.cells true 0 [iV x0,iV y0,iV x1,iV y1,iV f,iV c],.cells true 0 [iV x0,iV y0,iV x1,iV y1,iV f,iV c]]) ?_ ?_
    ·refine af ?_ (af ?_ (af ?_ (af ?_ (aQ))))<;>intro J hJ
     ·refine ag G19 ?_
      refine ai (hJ _ _ ⟨_,_,_,⟨rfl,rfl⟩,bS hbel [0,1,2,3,4] ar⟩)
     ·refine ag G19 ?_
      refine ai (hJ _ _ ⟨_,_,_,⟨rfl,rfl⟩,bS hbel [0,1,2,3,4] ar⟩)
     ·refine ag G19 ?_
      refine ai (hJ _ _ ⟨_,_,_,⟨rfl,rfl⟩,bS hbel [0,1,2,4,3] ar⟩)
     refine ag G19 ?_
     refine ai (hJ _ _ ⟨_,_,_,⟨rfl,rfl⟩,bS hbel [0,1,2,4,3] ar⟩)
    rintro F2 H2 ⟨rfl,rfl⟩
    refine zQT hQ fun Q12 hn12 hQ12 he12=>?_
    refine rgs G19 (fun h5 h5d G20=>?_) (fun h5 h5d G24=>?_)
    ·refine rcs G20 (fun h6 h6d G21=>?_) (fun h6 h6d G22=>?_)
     ·refine aa G21 ?_
      refine hn12 _ _ ?_
      refine aL true try_mixed [[0,1,2,3,4],[0,2,1,3,4]] (by kernel_rfl) (fun F2 H2=>F2=[(2,.ptr (some (H.length,0))),(3,.ptr (some (H.length+1,0))),(4,.bool true)]/\H2=H++[.cells true 0 [iV x0,iV y0,iV ((x0+(((x1-x0)+1)/2))-1),iV y1,iV f,iV c],.cells true 0 [iV (x0+(((x1-x0)+1)/2)),iV y0,iV x1,iV y1,iV f,iV c]]) ?_ ?_
      ·refine af ?_ (af ?_ (aQ))<;>intro J hJ
       ·refine ag G21 ?_
        refine ai (hJ _ _ ⟨_,_,_,⟨rfl,rfl⟩,bS hbel [1,2] ar⟩)
       refine ag G21 ?_
       refine ai (hJ _ _ ⟨_,_,_,⟨rfl,rfl⟩,bS hbel [1,2] ar⟩)
      rintro F2 H2 ⟨rfl,rfl⟩
      refine fnT ?_
      exact eR G21 hQ hbel (.tup [.agg [iV x0,iV y0,iV ((x0+(((x1-x0)+1)/2))-1),iV y1,iV f,iV c],.agg [iV (x0+(((x1-x0)+1)/2)),iV y0,iV x1,iV y1,iV f,iV c],.bool true]) results90 ⟨by (rw[fA (b:=(x0,y0,x1,y1,f,c)) hb (by show 2<=x1-x0+1\/2<=y1-y0+1\/2<=c;omega)];unfold bR bT dL dV dZ;simp only[dY];(repeat' split)<;>first|rfl|(exfalso;omega)),rfl⟩
     refine rcs G22 (fun h7 h7d _=>?_) (fun h7 h7d G23=>?_)
     ·omega
     refine aa G23 ?_
     refine cvr G23 (gQ _ _ ((f+(c/2))%256) (by omega)) ?_
     refine hn12 _ _ ?_
     refine aL true try_mixed [[0,1,2,3,4],[0,2,1,3,4]] (by kernel_rfl) (fun F2 H2=>F2=[(2,.ptr (some (H.length,0))),(3,.ptr (some (H.length+1,0))),(4,.bool true)]/\H2=H++[.cells true 0 [iV x0,iV y0,iV x1,iV y1,iV f,iV (c/2)],.cells true 0 [iV x0,iV y0,iV x1,iV y1,iV ((f+(c/2))%256),iV (c-(c/2))]]) ?_ ?_
     ·refine af ?_ (af ?_ (aQ))<;>intro J hJ
      ·refine ag G23 ?_
       refine ai (hJ _ _ ⟨_,_,_,⟨rfl,rfl⟩,bS hbel [1,2] ar⟩)
      refine ag G23 ?_
      refine ai (hJ _ _ ⟨_,_,_,⟨rfl,rfl⟩,bS hbel [1,2] ar⟩)
     rintro F2 H2 ⟨rfl,rfl⟩
     refine fnT ?_
     exact eR G23 hQ hbel (.tup [.agg [iV x0,iV y0,iV x1,iV y1,iV f,iV (c/2)],.agg [iV x0,iV y0,iV x1,iV y1,iV ((f+(c/2))%256),iV (c-(c/2))],.bool true]) results90 ⟨by (rw[fA (b:=(x0,y0,x1,y1,f,c)) hb (by show 2<=x1-x0+1\/2<=y1-y0+1\/2<=c;omega)];unfold bR bT dL dV dZ;simp only[dY];(repeat' split)<;>first|rfl|(exfalso;omega)),rfl⟩
    refine rcs G24 (fun h8 h8d G25=>?_) (fun h8 h8d G26=>?_)
    ·refine aa G25 ?_
     refine hn12 _ _ ?_
     refine aL true try_mixed [[0,1,2,3,4],[0,2,1,3,4]] (by kernel_rfl) (fun F2 H2=>F2=[(2,.ptr (some (H.length,0))),(3,.ptr (some (H.length+1,0))),(4,.bool true)]/\H2=H++[.cells true 0 [iV x0,iV y0,iV x1,iV ((y0+(((y1-y0)+1)/2))-1),iV f,iV c],.cells true 0 [iV x0,iV (y0+(((y1-y0)+1)/2)),iV x1,iV y1,iV f,iV c]]) ?_ ?_
     ·refine af ?_ (af ?_ (aQ))<;>intro J hJ
      ·refine ag G25 ?_
       refine ai (hJ _ _ ⟨_,_,_,⟨rfl,rfl⟩,bS hbel [1,2] ar⟩)
      refine ag G25 ?_
      refine ai (hJ _ _ ⟨_,_,_,⟨rfl,rfl⟩,bS hbel [1,2] ar⟩)
     rintro F2 H2 ⟨rfl,rfl⟩
     refine fnT ?_
     exact eR G25 hQ hbel (.tup [.agg [iV x0,iV y0,iV x1,iV ((y0+(((y1-y0)+1)/2))-1),iV f,iV c],.agg [iV x0,iV (y0+(((y1-y0)+1)/2)),iV x1,iV y1,iV f,iV c],.bool true]) results90 ⟨by (rw[fA (b:=(x0,y0,x1,y1,f,c)) hb (by show 2<=x1-x0+1\/2<=y1-y0+1\/2<=c;omega)];unfold bR bT dL dV dZ;simp only[dY];(repeat' split)<;>first|rfl|(exfalso;omega)),rfl⟩
    refine aa G26 ?_
    refine cvr G26 (gQ _ _ ((f+(c/2))%256) (by omega)) ?_
    refine hn12 _ _ ?_
    refine aL true try_mixed [[0,1,2,3,4],[0,2,1,3,4]] (by kernel_rfl) (fun F2 H2=>F2=[(2,.ptr (some (H.length,0))),(3,.ptr (some (H.length+1,0))),(4,.bool true)]/\H2=H++[.cells true 0 [iV x0,iV y0,iV x1,iV y1,iV f,iV (c/2)],.cells true 0 [iV x0,iV y0,iV x1,iV y1,iV ((f+(c/2))%256),iV (c-(c/2))]]) ?_ ?_
    ·refine af ?_ (af ?_ (aQ))<;>intro J hJ
     ·refine ag G26 ?_
      refine ai (hJ _ _ ⟨_,_,_,⟨rfl,rfl⟩,bS hbel [1,2] ar⟩)
     refine ag G26 ?_
     refine ai (hJ _ _ ⟨_,_,_,⟨rfl,rfl⟩,bS hbel [1,2] ar⟩)
    rintro F2 H2 ⟨rfl,rfl⟩
    refine fnT ?_
    exact eR G26 hQ hbel (.tup [.agg [iV x0,iV y0,iV x1,iV y1,iV f,iV (c/2)],.agg [iV x0,iV y0,iV x1,iV y1,iV ((f+(c/2))%256),iV (c-(c/2))],.bool true]) results90 ⟨by (rw[fA (b:=(x0,y0,x1,y1,f,c)) hb (by show 2<=x1-x0+1\/2<=y1-y0+1\/2<=c;omega)];unfold bR bT dL dV dZ;simp only[dY];(repeat' split)<;>first|rfl|(exfalso;omega)),rfl⟩
   refine aa G27 ?_
   refine hn10 _ _ (zQT hQ fun Q13 hn13 hQ13 he13=>?_)
   refine rgs G27 (fun h9 h9d _=>?_) (fun h9 h9d _=>?_)
   ·have h9n:=bnT h9
    omega
   have h9n:=bnT h9
   have G28:=jn h9 (jn h9n (jn @aK (jn @aJ G27)))
   refine aa G28 ?_
   refine hn13 _ _ ?_
   refine aL true try_mixed [[0,1,2,3,4,5],[0,2,3,4,1,5],[0,1,3,2,4,5],[0,3,2,4,1,5]] (by kernel_rfl) (fun F2 H2=>F2=[(1,.ptr (some (H.length,0))),(2,.ptr (some (H.length+1,0))),(3,.ptr (some (H.length+2,0))),(4,.bool false),(5,iV ((x1-x0)+1)),(6,iV ((y1-y0)+1)),(7,iV c),(8,iV ((x1-x0)+1)),(9,iV ((y1-y0)+1)),(10,iV 0),(11,.ptr (some (H.length+3,0))),(12,.ptr (some (H.length+4,0)))]/\H2=H++[.cells true 0 [iV x0,iV y0,iV x1,iV y1,iV f,iV c],.cells true 0 [iV 0,iV 0,iV 0,iV 0,iV 0,iV 0],.cells true 0 [iV 0,iV 0,iV 0,iV 0,iV 0,iV 0],.cells true 0 [iV x0,iV y0,iV x1,iV y1,iV f,iV c],.cells true 0 [iV x0,iV y0,iV x1,iV y1,iV f,iV c]]) ?_ ?_
   ·refine af ?_ (af ?_ (af ?_ (af ?_ (aQ))))<;>intro J hJ
    ·refine ag G28 ?_
     refine ai (hJ _ _ ⟨_,_,_,⟨rfl,rfl⟩,bS hbel [0,1,2,3,4] ar⟩)
    ·refine ag G28 ?_
     refine ai (hJ _ _ ⟨_,_,_,⟨rfl,rfl⟩,bS hbel [0,1,2,3,4] ar⟩)
    ·refine ag G28 ?_
     refine ai (hJ _ _ ⟨_,_,_,⟨rfl,rfl⟩,bS hbel [0,1,2,4,3] ar⟩)
    refine ag G28 ?_
    refine ai (hJ _ _ ⟨_,_,_,⟨rfl,rfl⟩,bS hbel [0,1,2,4,3] ar⟩)
   rintro F2 H2 ⟨rfl,rfl⟩
   refine zQT hQ fun Q14 hn14 hQ14 he14=>?_
   refine rgs G28 (fun h10 h10d G29=>?_) (fun h10 h10d G31=>?_)
   ·refine rcs G29 (fun h11 h11d G30=>?_) (fun h11 h11d _=>?_)
    ·refine aa G30 ?_
     refine hn14 _ _ ?_
     refine aL true try_mixed [[0,1,2,3,4],[0,2,1,3,4]] (by kernel_rfl) (fun F2 H2=>F2=[(2,.ptr (some (H.length,0))),(3,.ptr (some (H.length+1,0))),(4,.bool true)]/\H2=H++[.cells true 0 [iV x0,iV y0,iV ((x0+(((x1-x0)+1)/2))-1),iV y1,iV f,iV c],.cells true 0 [iV (x0+(((x1-x0)+1)/2)),iV y0,iV x1,iV y1,iV f,iV c]]) ?_ ?_
     ·refine af ?_ (af ?_ (aQ))<;>intro J hJ
      ·refine ag G30 ?_
       refine ai (hJ _ _ ⟨_,_,_,⟨rfl,rfl⟩,bS hbel [1,2] ar⟩)
      refine ag G30 ?_
      refine ai (hJ _ _ ⟨_,_,_,⟨rfl,rfl⟩,bS hbel [1,2] ar⟩)
     rintro F2 H2 ⟨rfl,rfl⟩
     refine fnT ?_
     exact eR G30 hQ hbel (.tup [.agg [iV x0,iV y0,iV ((x0+(((x1-x0)+1)/2))-1),iV y1,iV f,iV c],.agg [iV (x0+(((x1-x0)+1)/2)),iV y0,iV x1,iV y1,iV f,iV c],.bool true]) results90 ⟨by (rw[fA (b:=(x0,y0,x1,y1,f,c)) hb (by show 2<=x1-x0+1\/2<=y1-y0+1\/2<=c;omega)];unfold bR bT dL dV dZ;simp only[dY];(repeat' split)<;>first|rfl|(exfalso;omega)),rfl⟩
    omega
   refine rcs G31 (fun h12 h12d G32=>?_) (fun h12 h12d _=>?_)
   ·refine aa G32 ?_
    refine hn14 _ _ ?_
    refine aL true try_mixed [[0,1,2,3,4],[0,2,1,3,4]] (by kernel_rfl) (fun F2 H2=>F2=[(2,.ptr (some (H.length,0))),(3,.ptr (some (H.length+1,0))),(4,.bool true)]/\H2=H++[.cells true 0 [iV x0,iV y0,iV x1,iV ((y0+(((y1-y0)+1)/2))-1),iV f,iV c],.cells true 0 [iV x0,iV (y0+(((y1-y0)+1)/2)),iV x1,iV y1,iV f,iV c]]) ?_ ?_
    ·refine af ?_ (af ?_ (aQ))<;>intro J hJ
     ·refine ag G32 ?_
      refine ai (hJ _ _ ⟨_,_,_,⟨rfl,rfl⟩,bS hbel [1,2] ar⟩)
     refine ag G32 ?_
     refine ai (hJ _ _ ⟨_,_,_,⟨rfl,rfl⟩,bS hbel [1,2] ar⟩)
    rintro F2 H2 ⟨rfl,rfl⟩
    refine fnT ?_
    exact eR G32 hQ hbel (.tup [.agg [iV x0,iV y0,iV x1,iV ((y0+(((y1-y0)+1)/2))-1),iV f,iV c],.agg [iV x0,iV (y0+(((y1-y0)+1)/2)),iV x1,iV y1,iV f,iV c],.bool true]) results90 ⟨by (rw[fA (b:=(x0,y0,x1,y1,f,c)) hb (by show 2<=x1-x0+1\/2<=y1-y0+1\/2<=c;omega)];unfold bR bT dL dV dZ;simp only[dY];(repeat' split)<;>first|rfl|(exfalso;omega)),rfl⟩
   omega
  refine aa G33 ?_
  refine hn9 _ _ (zQT hQ fun Q15 hn15 hQ15 he15=>?_)
  refine rcs G33 (fun h13 h13d G34=>?_) (fun h13 h13d G40=>?_)
  ·refine aa G34 ?_
   refine hn15 _ _ (zQT hQ fun Q16 hn16 hQ16 he16=>?_)
   refine rgs G34 (fun h14 h14d _=>?_) (fun h14 h14d _=>?_)
   ·have h14n:=bnT h14
    omega
   have h14n:=bnT h14
   have G35:=jn h14 (jn h14n (jn @aK (jn @aJ G34)))
   refine aa G35 ?_
   refine hn16 _ _ ?_
   refine aL true try_mixed [[0,1,2,3,4,5],[0,2,3,4,1,5],[0,1,3,2,4,5],[0,3,2,4,1,5]] (by kernel_rfl) (fun F2 H2=>F2=[(1,.ptr (some (H.length,0))),(2,.ptr (some (H.length+1,0))),(3,.ptr (some (H.length+2,0))),(4,.bool false),(5,iV ((x1-x0)+1)),(6,iV ((y1-y0)+1)),(7,iV c),(8,iV ((x1-x0)+1)),(9,iV 0),(10,iV (8*c)),(11,.ptr (some (H.length+3,0))),(12,.ptr (some (H.length+4,0)))]/\H2=H++[.cells true 0 [iV x0,iV y0,iV x1,iV y1,iV f,iV c],.cells true 0 [iV 0,iV 0,iV 0,iV 0,iV 0,iV 0],.cells true 0 [iV 0,iV 0,iV 0,iV 0,iV 0,iV 0],.cells true 0 [iV x0,iV y0,iV x1,iV y1,iV f,iV c],.cells true 0 [iV x0,iV y0,iV x1,iV y1,iV f,iV c]]) ?_ ?_
   ·refine af ?_ (af ?_ (af ?_ (af ?_ (aQ))))<;>intro J hJ
    ·refine ag G35 ?_
     refine ai (hJ _ _ ⟨_,_,_,⟨rfl,rfl⟩,bS hbel [0,1,2,3,4] ar⟩)
    ·refine ag G35 ?_
     refine ai (hJ _ _ ⟨_,_,_,⟨rfl,rfl⟩,bS hbel [0,1,2,3,4] ar⟩)
    ·refine ag G35 ?_
     refine ai (hJ _ _ ⟨_,_,_,⟨rfl,rfl⟩,bS hbel [0,1,2,4,3] ar⟩)
    refine ag G35 ?_
    refine ai (hJ _ _ ⟨_,_,_,⟨rfl,rfl⟩,bS hbel [0,1,2,4,3] ar⟩)
   rintro F2 H2 ⟨rfl,rfl⟩
   refine zQT hQ fun Q17 hn17 hQ17 he17=>?_
   refine rgs G35 (fun h15 h15d G36=>?_) (fun h15 h15d _=>?_)
   ·refine rcs G36 (fun h16 h16d G37=>?_) (fun h16 h16d G38=>?_)
    ·refine aa G37 ?_
     refine hn17 _ _ ?_
     refine aL true try_mixed [[0,1,2,3,4],[0,2,1,3,4]] (by kernel_rfl) (fun F2 H2=>F2=[(2,.ptr (some (H.length,0))),(3,.ptr (some (H.length+1,0))),(4,.bool true)]/\H2=H++[.cells true 0 [iV x0,iV y0,iV ((x0+(((x1-x0)+1)/2))-1),iV y1,iV f,iV c],.cells true 0 [iV (x0+(((x1-x0)+1)/2)),iV y0,iV x1,iV y1,iV f,iV c]]) ?_ ?_
     ·refine af ?_ (af ?_ (aQ))<;>intro J hJ
      ·refine ag G37 ?_
       refine ai (hJ _ _ ⟨_,_,_,⟨rfl,rfl⟩,bS hbel [1,2] ar⟩)
      refine ag G37 ?_
      refine ai (hJ _ _ ⟨_,_,_,⟨rfl,rfl⟩,bS hbel [1,2] ar⟩)
     rintro F2 H2 ⟨rfl,rfl⟩
     refine fnT ?_
     exact eR G37 hQ hbel (.tup [.agg [iV x0,iV y0,iV ((x0+(((x1-x0)+1)/2))-1),iV y1,iV f,iV c],.agg [iV (x0+(((x1-x0)+1)/2)),iV y0,iV x1,iV y1,iV f,iV c],.bool true]) results90 ⟨by (rw[fA (b:=(x0,y0,x1,y1,f,c)) hb (by show 2<=x1-x0+1\/2<=y1-y0+1\/2<=c;omega)];unfold bR bT dL dV dZ;simp only[dY];(repeat' split)<;>first|rfl|(exfalso;omega)),rfl⟩
    refine rcs G38 (fun h17 h17d _=>?_) (fun h17 h17d G39=>?_)
    ·omega
    refine aa G39 ?_
    refine cvr G39 (gQ _ _ ((f+(c/2))%256) (by omega)) ?_
    refine hn17 _ _ ?_
    refine aL true try_mixed [[0,1,2,3,4],[0,2,1,3,4]] (by kernel_rfl) (fun F2 H2=>F2=[(2,.ptr (some (H.length,0))),(3,.ptr (some (H.length+1,0))),(4,.bool true)]/\H2=H++[.cells true 0 [iV x0,iV y0,iV x1,iV y1,iV f,iV (c/2)],.cells true 0 [iV x0,iV y0,iV x1,iV y1,iV ((f+(c/2))%256),iV (c-(c/2))]]) ?_ ?_
    ·refine af ?_ (af ?_ (aQ))<;>intro J hJ
     ·refine ag G39 ?_
      refine ai (hJ _ _ ⟨_,_,_,⟨rfl,rfl⟩,bS hbel [1,2] ar⟩)
     refine ag G39 ?_
     refine ai (hJ _ _ ⟨_,_,_,⟨rfl,rfl⟩,bS hbel [1,2] ar⟩)
    rintro F2 H2 ⟨rfl,rfl⟩
    refine fnT ?_
    exact eR G39 hQ hbel (.tup [.agg [iV x0,iV y0,iV x1,iV y1,iV f,iV (c/2)],.agg [iV x0,iV y0,iV x1,iV y1,iV ((f+(c/2))%256),iV (c-(c/2))],.bool true]) results90 ⟨by (rw[fA (b:=(x0,y0,x1,y1,f,c)) hb (by show 2<=x1-x0+1\/2<=y1-y0+1\/2<=c;omega)];unfold bR bT dL dV dZ;simp only[dY];(repeat' split)<;>first|rfl|(exfalso;omega)),rfl⟩
   omega
  refine aa G40 ?_
  refine hn15 _ _ (zQT hQ fun Q18 hn18 hQ18 he18=>?_)
  refine rgs G40 (fun h18 h18d _=>?_) (fun h18 h18d _=>?_)
  ·have h18n:=bnT h18
   omega
  have h18n:=bnT h18
  have G41:=jn h18 (jn h18n (jn @aK (jn @aJ G40)))
  refine aa G41 ?_
  refine hn18 _ _ ?_
  refine aL true try_mixed [[0,1,2,3,4,5],[0,2,3,4,1,5],[0,1,3,2,4,5],[0,3,2,4,1,5]] (by kernel_rfl) (fun F2 H2=>F2=[(1,.ptr (some (H.length,0))),(2,.ptr (some (H.length+1,0))),(3,.ptr (some (H.length+2,0))),(4,.bool false),(5,iV ((x1-x0)+1)),(6,iV ((y1-y0)+1)),(7,iV c),(8,iV ((x1-x0)+1)),(9,iV 0),(10,iV 0),(11,.ptr (some (H.length+3,0))),(12,.ptr (some (H.length+4,0)))]/\H2=H++[.cells true 0 [iV x0,iV y0,iV x1,iV y1,iV f,iV c],.cells true 0 [iV 0,iV 0,iV 0,iV 0,iV 0,iV 0],.cells true 0 [iV 0,iV 0,iV 0,iV 0,iV 0,iV 0],.cells true 0 [iV x0,iV y0,iV x1,iV y1,iV f,iV c],.cells true 0 [iV x0,iV y0,iV x1,iV y1,iV f,iV c]]) ?_ ?_
  ·refine af ?_ (af ?_ (af ?_ (af ?_ (aQ))))<;>intro J hJ
   ·refine ag G41 ?_
    refine ai (hJ _ _ ⟨_,_,_,⟨rfl,rfl⟩,bS hbel [0,1,2,3,4] ar⟩)
   ·refine ag G41 ?_
    refine ai (hJ _ _ ⟨_,_,_,⟨rfl,rfl⟩,bS hbel [0,1,2,3,4] ar⟩)
   ·refine ag G41 ?_
    refine ai (hJ _ _ ⟨_,_,_,⟨rfl,rfl⟩,bS hbel [0,1,2,4,3] ar⟩)
   refine ag G41 ?_
   refine ai (hJ _ _ ⟨_,_,_,⟨rfl,rfl⟩,bS hbel [0,1,2,4,3] ar⟩)
  rintro F2 H2 ⟨rfl,rfl⟩
  refine zQT hQ fun Q19 hn19 hQ19 he19=>?_
  refine rgs G41 (fun h19 h19d G42=>?_) (fun h19 h19d _=>?_)
  ·refine aa G42 ?_
   refine hn19 _ _ ?_
   refine aL true try_mixed [[0,1,2,3,4],[0,2,1,3,4]] (by kernel_rfl) (fun F2 H2=>F2=[(2,.ptr (some (H.length,0))),(3,.ptr (some (H.length+1,0))),(4,.bool true)]/\H2=H++[.cells true 0 [iV x0,iV y0,iV ((x0+(((x1-x0)+1)/2))-1),iV y1,iV f,iV c],.cells true 0 [iV (x0+(((x1-x0)+1)/2)),iV y0,iV x1,iV y1,iV f,iV c]]) ?_ ?_
   ·refine af ?_ (af ?_ (aQ))<;>intro J hJ
    ·refine ag G42 ?_
     refine ai (hJ _ _ ⟨_,_,_,⟨rfl,rfl⟩,bS hbel [1,2] ar⟩)
    refine ag G42 ?_
    refine ai (hJ _ _ ⟨_,_,_,⟨rfl,rfl⟩,bS hbel [1,2] ar⟩)
   rintro F2 H2 ⟨rfl,rfl⟩
   refine fnT ?_
   exact eR G42 hQ hbel (.tup [.agg [iV x0,iV y0,iV ((x0+(((x1-x0)+1)/2))-1),iV y1,iV f,iV c],.agg [iV (x0+(((x1-x0)+1)/2)),iV y0,iV x1,iV y1,iV f,iV c],.bool true]) results90 ⟨by (rw[fA (b:=(x0,y0,x1,y1,f,c)) hb (by show 2<=x1-x0+1\/2<=y1-y0+1\/2<=c;omega)];unfold bR bT dL dV dZ;simp only[dY];(repeat' split)<;>first|rfl|(exfalso;omega)),rfl⟩
  omega
 refine aa G43 ?_
 refine hn8 _ _ (zQT hQ fun Q20 hn20 hQ20 he20=>?_)
 refine rcs G43 (fun h20 h20d G44=>?_) (fun h20 h20d G54=>?_)
 ·refine aa G44 ?_
  refine hn20 _ _ (zQT hQ fun Q21 hn21 hQ21 he21=>?_)
  refine rcs G44 (fun h21 h21d G45=>?_) (fun h21 h21d G50=>?_)
  ·refine aa G45 ?_
   refine hn21 _ _ (zQT hQ fun Q22 hn22 hQ22 he22=>?_)
   refine rgs G45 (fun h22 h22d _=>?_) (fun h22 h22d _=>?_)
   ·have h22n:=bnT h22
    omega
   have h22n:=bnT h22
   have G46:=jn h22 (jn h22n (jn @aK (jn @aJ G45)))
   refine aa G46 ?_
   refine hn22 _ _ ?_
   refine aL true try_mixed [[0,1,2,3,4,5],[0,2,3,4,1,5],[0,1,3,2,4,5],[0,3,2,4,1,5]] (by kernel_rfl) (fun F2 H2=>F2=[(1,.ptr (some (H.length,0))),(2,.ptr (some (H.length+1,0))),(3,.ptr (some (H.length+2,0))),(4,.bool false),(5,iV ((x1-x0)+1)),(6,iV ((y1-y0)+1)),(7,iV c),(8,iV 0),(9,iV ((y1-y0)+1)),(10,iV (8*c)),(11,.ptr (some (H.length+3,0))),(12,.ptr (some (H.length+4,0)))]/\H2=H++[.cells true 0 [iV x0,iV y0,iV x1,iV y1,iV f,iV c],.cells true 0 [iV 0,iV 0,iV 0,iV 0,iV 0,iV 0],.cells true 0 [iV 0,iV 0,iV 0,iV 0,iV 0,iV 0],.cells true 0 [iV x0,iV y0,iV x1,iV y1,iV f,iV c],.cells true 0 [iV x0,iV y0,iV x1,iV y1,iV f,iV c]]) ?_ ?_
   ·refine af ?_ (af ?_ (af ?_ (af ?_ (aQ))))<;>intro J hJ
    ·refine ag G46 ?_
     refine ai (hJ _ _ ⟨_,_,_,⟨rfl,rfl⟩,bS hbel [0,1,2,3,4] ar⟩)
    ·refine ag G46 ?_
     refine ai (hJ _ _ ⟨_,_,_,⟨rfl,rfl⟩,bS hbel [0,1,2,3,4] ar⟩)
    ·refine ag G46 ?_
     refine ai (hJ _ _ ⟨_,_,_,⟨rfl,rfl⟩,bS hbel [0,1,2,4,3] ar⟩)
    refine ag G46 ?_
    refine ai (hJ _ _ ⟨_,_,_,⟨rfl,rfl⟩,bS hbel [0,1,2,4,3] ar⟩)
   rintro F2 H2 ⟨rfl,rfl⟩
   refine zQT hQ fun Q23 hn23 hQ23 he23=>?_
   refine rgs G46 (fun h23 h23d _=>?_) (fun h23 h23d G47=>?_)
   ·omega
   refine rcs G47 (fun h24 h24d G48=>?_) (fun h24 h24d G49=>?_)
   ·refine aa G48 ?_
    refine hn23 _ _ ?_
    refine aL true try_mixed [[0,1,2,3,4],[0,2,1,3,4]] (by kernel_rfl) (fun F2 H2=>F2=[(2,.ptr (some (H.length,0))),(3,.ptr (some (H.length+1,0))),(4,.bool true)]/\H2=H++[.cells true 0 [iV x0,iV y0,iV x1,iV ((y0+(((y1-y0)+1)/2))-1),iV f,iV c],.cells true 0 [iV x0,iV (y0+(((y1-y0)+1)/2)),iV x1,iV y1,iV f,iV c]]) ?_ ?_
    ·refine af ?_ (af ?_ (aQ))<;>intro J hJ
     ·refine ag G48 ?_
      refine ai (hJ _ _ ⟨_,_,_,⟨rfl,rfl⟩,bS hbel [1,2] ar⟩)
     refine ag G48 ?_
     refine ai (hJ _ _ ⟨_,_,_,⟨rfl,rfl⟩,bS hbel [1,2] ar⟩)
    rintro F2 H2 ⟨rfl,rfl⟩
    refine fnT ?_
    exact eR G48 hQ hbel (.tup [.agg [iV x0,iV y0,iV x1,iV ((y0+(((y1-y0)+1)/2))-1),iV f,iV c],.agg [iV x0,iV (y0+(((y1-y0)+1)/2)),iV x1,iV y1,iV f,iV c],.bool true]) results90 ⟨by (rw[fA (b:=(x0,y0,x1,y1,f,c)) hb (by show 2<=x1-x0+1\/2<=y1-y0+1\/2<=c;omega)];unfold bR bT dL dV dZ;simp only[dY];(repeat' split)<;>first|rfl|(exfalso;omega)),rfl⟩
   refine aa G49 ?_
   refine cvr G49 (gQ _ _ ((f+(c/2))%256) (by omega)) ?_
   refine hn23 _ _ ?_
   refine aL true try_mixed [[0,1,2,3,4],[0,2,1,3,4]] (by kernel_rfl) (fun F2 H2=>F2=[(2,.ptr (some (H.length,0))),(3,.ptr (some (H.length+1,0))),(4,.bool true)]/\H2=H++[.cells true 0 [iV x0,iV y0,iV x1,iV y1,iV f,iV (c/2)],.cells true 0 [iV x0,iV y0,iV x1,iV y1,iV ((f+(c/2))%256),iV (c-(c/2))]]) ?_ ?_
   ·refine af ?_ (af ?_ (aQ))<;>intro J hJ
    ·refine ag G49 ?_
     refine ai (hJ _ _ ⟨_,_,_,⟨rfl,rfl⟩,bS hbel [1,2] ar⟩)
    refine ag G49 ?_
    refine ai (hJ _ _ ⟨_,_,_,⟨rfl,rfl⟩,bS hbel [1,2] ar⟩)
   rintro F2 H2 ⟨rfl,rfl⟩
   refine fnT ?_
   exact eR G49 hQ hbel (.tup [.agg [iV x0,iV y0,iV x1,iV y1,iV f,iV (c/2)],.agg [iV x0,iV y0,iV x1,iV y1,iV ((f+(c/2))%256),iV (c-(c/2))],.bool true]) results90 ⟨by (rw[fA (b:=(x0,y0,x1,y1,f,c)) hb (by show 2<=x1-x0+1\/2<=y1-y0+1\/2<=c;omega)];unfold bR bT dL dV dZ;simp only[dY];(repeat' split)<;>first|rfl|(exfalso;omega)),rfl⟩
  refine aa G50 ?_
  refine hn21 _ _ (zQT hQ fun Q24 hn24 hQ24 he24=>?_)
  refine rgs G50 (fun h25 h25d _=>?_) (fun h25 h25d _=>?_)
  ·have h25n:=bnT h25
   omega
  have h25n:=bnT h25
  have G51:=jn h25 (jn h25n (jn @aK (jn @aJ G50)))
  refine aa G51 ?_
  refine hn24 _ _ ?_
  refine aL true try_mixed [[0,1,2,3,4,5],[0,2,3,4,1,5],[0,1,3,2,4,5],[0,3,2,4,1,5]] (by kernel_rfl) (fun F2 H2=>F2=[(1,.ptr (some (H.length,0))),(2,.ptr (some (H.length+1,0))),(3,.ptr (some (H.length+2,0))),(4,.bool false),(5,iV ((x1-x0)+1)),(6,iV ((y1-y0)+1)),(7,iV c),(8,iV 0),(9,iV ((y1-y0)+1)),(10,iV 0),(11,.ptr (some (H.length+3,0))),(12,.ptr (some (H.length+4,0)))]/\H2=H++[.cells true 0 [iV x0,iV y0,iV x1,iV y1,iV f,iV c],.cells true 0 [iV 0,iV 0,iV 0,iV 0,iV 0,iV 0],.cells true 0 [iV 0,iV 0,iV 0,iV 0,iV 0,iV 0],.cells true 0 [iV x0,iV y0,iV x1,iV y1,iV f,iV c],.cells true 0 [iV x0,iV y0,iV x1,iV y1,iV f,iV c]]) ?_ ?_
  ·refine af ?_ (af ?_ (af ?_ (af ?_ (aQ))))<;>intro J hJ
   ·refine ag G51 ?_
    refine ai (hJ _ _ ⟨_,_,_,⟨rfl,rfl⟩,bS hbel [0,1,2,3,4] ar⟩)
   ·refine ag G51 ?_
    refine ai (hJ _ _ ⟨_,_,_,⟨rfl,rfl⟩,bS hbel [0,1,2,3,4] ar⟩)
   ·refine ag G51 ?_
    refine ai (hJ _ _ ⟨_,_,_,⟨rfl,rfl⟩,bS hbel [0,1,2,4,3] ar⟩)
   refine ag G51 ?_
   refine ai (hJ _ _ ⟨_,_,_,⟨rfl,rfl⟩,bS hbel [0,1,2,4,3] ar⟩)
  rintro F2 H2 ⟨rfl,rfl⟩
  refine zQT hQ fun Q25 hn25 hQ25 he25=>?_
  refine rgs G51 (fun h26 h26d _=>?_) (fun h26 h26d G52=>?_)
  ·omega
  refine rcs G52 (fun h27 h27d G53=>?_) (fun h27 h27d _=>?_)
  ·refine aa G53 ?_
   refine hn25 _ _ ?_
   refine aL true try_mixed [[0,1,2,3,4],[0,2,1,3,4]] (by kernel_rfl) (fun F2 H2=>F2=[(2,.ptr (some (H.length,0))),(3,.ptr (some (H.length+1,0))),(4,.bool true)]/\H2=H++[.cells true 0 [iV x0,iV y0,iV x1,iV ((y0+(((y1-y0)+1)/2))-1),iV f,iV c],.cells true 0 [iV x0,iV (y0+(((y1-y0)+1)/2)),iV x1,iV y1,iV f,iV c]]) ?_ ?_
   ·refine af ?_ (af ?_ (aQ))<;>intro J hJ
    ·refine ag G53 ?_
     refine ai (hJ _ _ ⟨_,_,_,⟨rfl,rfl⟩,bS hbel [1,2] ar⟩)
    refine ag G53 ?_
    refine ai (hJ _ _ ⟨_,_,_,⟨rfl,rfl⟩,bS hbel [1,2] ar⟩)
   rintro F2 H2 ⟨rfl,rfl⟩
   refine fnT ?_
   exact eR G53 hQ hbel (.tup [.agg [iV x0,iV y0,iV x1,iV ((y0+(((y1-y0)+1)/2))-1),iV f,iV c],.agg [iV x0,iV (y0+(((y1-y0)+1)/2)),iV x1,iV y1,iV f,iV c],.bool true]) results90 ⟨by (rw[fA (b:=(x0,y0,x1,y1,f,c)) hb (by show 2<=x1-x0+1\/2<=y1-y0+1\/2<=c;omega)];unfold bR bT dL dV dZ;simp only[dY];(repeat' split)<;>first|rfl|(exfalso;omega)),rfl⟩
  omega
 refine aa G54 ?_
 refine hn20 _ _ (zQT hQ fun Q26 hn26 hQ26 he26=>?_)
 refine rcs G54 (fun h28 h28d G55=>?_) (fun h28 h28d G58=>?_)
 ·refine aa G55 ?_
  refine hn26 _ _ (zQT hQ fun Q27 hn27 hQ27 he27=>?_)
  refine rcs G55 (fun h29 h29d _=>?_) (fun h29 h29d _=>?_)
  ·have h29n:=bnT h29
   omega
  have h29n:=bnT h29
  have G56:=jn h29 (jn h29n (jn @aK (jn @aJ G55)))
  refine aa G56 ?_
  refine hn27 _ _ ?_
  refine aL true try_mixed [[0,1,2,3,4,5],[0,2,3,4,1,5],[0,1,3,2,4,5],[0,3,2,4,1,5]] (by kernel_rfl) (fun F2 H2=>F2=[(1,.ptr (some (H.length,0))),(2,.ptr (some (H.length+1,0))),(3,.ptr (some (H.length+2,0))),(4,.bool false),(5,iV ((x1-x0)+1)),(6,iV ((y1-y0)+1)),(7,iV c),(8,iV 0),(9,iV 0),(10,iV (8*c)),(11,.ptr (some (H.length+3,0))),(12,.ptr (some (H.length+4,0)))]/\H2=H++[.cells true 0 [iV x0,iV y0,iV x1,iV y1,iV f,iV c],.cells true 0 [iV 0,iV 0,iV 0,iV 0,iV 0,iV 0],.cells true 0 [iV 0,iV 0,iV 0,iV 0,iV 0,iV 0],.cells true 0 [iV x0,iV y0,iV x1,iV y1,iV f,iV c],.cells true 0 [iV x0,iV y0,iV x1,iV y1,iV f,iV c]]) ?_ ?_
  ·refine af ?_ (af ?_ (af ?_ (af ?_ (aQ))))<;>intro J hJ
   ·refine ag G56 ?_
    refine ai (hJ _ _ ⟨_,_,_,⟨rfl,rfl⟩,bS hbel [0,1,2,3,4] ar⟩)
   ·refine ag G56 ?_
    refine ai (hJ _ _ ⟨_,_,_,⟨rfl,rfl⟩,bS hbel [0,1,2,3,4] ar⟩)
   ·refine ag G56 ?_
    refine ai (hJ _ _ ⟨_,_,_,⟨rfl,rfl⟩,bS hbel [0,1,2,4,3] ar⟩)
   refine ag G56 ?_
   refine ai (hJ _ _ ⟨_,_,_,⟨rfl,rfl⟩,bS hbel [0,1,2,4,3] ar⟩)
  rintro F2 H2 ⟨rfl,rfl⟩
  refine zQT hQ fun Q28 hn28 hQ28 he28=>?_
  refine rcs G56 (fun h30 h30d _=>?_) (fun h30 h30d G57=>?_)
  ·omega
  refine aa G57 ?_
  refine cvr G57 (gQ _ _ ((f+(c/2))%256) (by omega)) ?_
  refine hn28 _ _ ?_
  refine aL true try_mixed [[0,1,2,3,4],[0,2,1,3,4]] (by kernel_rfl) (fun F2 H2=>F2=[(2,.ptr (some (H.length,0))),(3,.ptr (some (H.length+1,0))),(4,.bool true)]/\H2=H++[.cells true 0 [iV x0,iV y0,iV x1,iV y1,iV f,iV (c/2)],.cells true 0 [iV x0,iV y0,iV x1,iV y1,iV ((f+(c/2))%256),iV (c-(c/2))]]) ?_ ?_
  ·refine af ?_ (af ?_ (aQ))<;>intro J hJ
   ·refine ag G57 ?_
    refine ai (hJ _ _ ⟨_,_,_,⟨rfl,rfl⟩,bS hbel [1,2] ar⟩)
   refine ag G57 ?_
   refine ai (hJ _ _ ⟨_,_,_,⟨rfl,rfl⟩,bS hbel [1,2] ar⟩)
  rintro F2 H2 ⟨rfl,rfl⟩
  refine fnT ?_
  exact eR G57 hQ hbel (.tup [.agg [iV x0,iV y0,iV x1,iV y1,iV f,iV (c/2)],.agg [iV x0,iV y0,iV x1,iV y1,iV ((f+(c/2))%256),iV (c-(c/2))],.bool true]) results90 ⟨by (rw[fA (b:=(x0,y0,x1,y1,f,c)) hb (by show 2<=x1-x0+1\/2<=y1-y0+1\/2<=c;omega)];unfold bR bT dL dV dZ;simp only[dY];(repeat' split)<;>first|rfl|(exfalso;omega)),rfl⟩
 refine aa G58 ?_
 refine hn26 _ _ (zQT hQ fun Q29 hn29 hQ29 he29=>?_)
 exact eR G58 hQ29 hbel (.tup [.agg [iV 0,iV 0,iV 0,iV 0,iV 0,iV 0],.agg [iV 0,iV 0,iV 0,iV 0,iV 0,iV 0],.bool false]) results90 ⟨by (rw[vol_1 (b:=(x0,y0,x1,y1,f,c)) hb (by show x1-x0+1=1;omega) (by show y1-y0+1=1;omega) (by show c=1;omega)];rfl),rfl⟩
theorem rg (H:ac)(b:T6)(hb:bl b=true)(h:cg b=true):zC 90 [.agg [iV b.1,iV b.2.1,iV b.2.2.1,iV b.2.2.2.1,iV b.2.2.2.2.1,iV b.2.2.2.2.2]] H (.tup [.agg [iV (bR b).1,iV (bR b).2.1,iV (bR b).2.2.1,iV (bR b).2.2.2.1,iV (bR b).2.2.2.2.1,iV (bR b).2.2.2.2.2],.agg [iV (bT b).1,iV (bT b).2.1,iV (bT b).2.2.1,iV (bT b).2.2.2.1,iV (bT b).2.2.2.2.1,iV (bT b).2.2.2.2.2],.bool true]) H:=by
 have q:=rf H b.1 b.2.1 b.2.2.1 b.2.2.2.1 b.2.2.2.2.1 b.2.2.2.2.2 hb
 have e:cg (b.1,b.2.1,b.2.2.1,b.2.2.2.1,b.2.2.2.2.1,b.2.2.2.2.2)=true:=h
 simp only[e,dY] at q;exact q
theorem rsplit_f (H:ac)(b:T6)(hb:bl b=true)(h:cg b=false):zC 90 [.agg [iV b.1,iV b.2.1,iV b.2.2.1,iV b.2.2.2.1,iV b.2.2.2.2.1,iV b.2.2.2.2.2]] H (.tup [.agg [iV 0,iV 0,iV 0,iV 0,iV 0,iV 0],.agg [iV 0,iV 0,iV 0,iV 0,iV 0,iV 0],.bool false]) H:=by
 have q:=rf H b.1 b.2.1 b.2.2.1 b.2.2.2.1 b.2.2.2.2.1 b.2.2.2.2.2 hb
 have e:cg (b.1,b.2.1,b.2.2.1,b.2.2.2.1,b.2.2.2.2.1,b.2.2.2.2.2)=false:=h
 simp only[e,mkV_f] at q;exact q
theorem oL {l:List T6}{n:Nat}(h:n=l.length):(r6 l).take (n*6)=r6 l:=by rw[h,iU]
theorem lm (H : ac)(W Hh:Int)(pp:AV)(xs:List Int)(s:AV)(l:List T6)(q:AV)(sc:List (Int×Int))(g:Int)(K0:Nat)(hpp:zI H pp xs)(hs:Sl H 6 s l.length (r6 l))(hq:SlP H q sc)(hV:bK W Hh xs=true)(hS:bk l=true)(hl0:0<l.length)(hsB:bP sc=true)(hg:1<=g/\g<=32)(hK0:K0<=64):zC 52 [.agg [iV W,iV Hh,pp],s,q,iV g,iV (K0:Int)] H (.tup [.sl (some (H.length,0)) ((aN W Hh xs l sc g K0).length) (aS (aN W Hh xs l sc g K0).length),iV 0]) (H++[.cells (aI (aN W Hh xs l sc g K0).length) 6 (r6 (aN W Hh xs l sc g K0))]):=by
 obtain⟨bpp,opp,cpp,rfl,hbpp,hblpp,hb0pp⟩:=zA1 hpp
 obtain⟨bs,os,cs,rfl,hbs,hbls,hb0s⟩:=zA1 hs
 obtain⟨bq,oq,cq,rfl,hbq,hblq,hb0q⟩:=zA1 hq
 have hz1:(l.length==0)=false:=beq_eq_false_iff_ne.2 (by omega)
 have hz2:decide (0<l.length)=true:=decide_eq_true (by omega)
 have hSS:=bi.1 hS
 have hl16:=hSS.1
 have hVV:=bp.1 hV
 have hWW:1<=W/\W<=64:=⟨hVV.w0,hVV.w1⟩
 have hHH:1<=Hh/\Hh<=64:=⟨hVV.h0,hVV.h1⟩
 (refine aR func52 _ rfl (Nat.le_of_ble_eq_true (by kernel_rfl)) rfl ?_;intro hbel Q hQ hQ' c hc;unfold Tryz.f52 at hc;simp only[Option.some.injEq] at hc;subst hc;clear hQ')
 refine zQT hQ fun Q1 hn1 hQ1 he1=>?_
 have G1:=jn @hbpp (jn @hb0pp (jn @hbs (jn @hb0s (jn @hbq (jn @hb0q (jn @dY (jn @hV (jn @hS (jn @hsB (jn @hz1 @hz2))))))))))
 refine aa G1 ?_
 refine hn1 _ _ (zQT hQ fun Q2 hn2 hQ2 he2=>?_)
 refine aa G1 ?_
 refine cvr G1 (iF _ W Hh _ xs (.inr (zA2 hb0pp hbpp))) ?_
 refine cvr G1 (jP _ _ l (zA2 hb0s hbs) (by omega)) ?_
 refine cv (ge _ _ sc (zA2 hb0q hbq)) ?_
 refine rgs G1 (fun h1 h1d G2=>?_) (fun h1 h1d _=>?_)
 ·refine rcs G2 (fun h2 h2d _=>?_) (fun h2 h2d G3=>?_)
  ·omega
  refine aa G3 ?_
  refine hn2 _ _ (zQT hQ fun Q3 hn3 hQ3 he3=>?_)
  refine rgs G3 (fun h3 h3d G4=>?_) (fun h3 h3d _=>?_)
  ·refine rcs G4 (fun h4 h4d _=>?_) (fun h4 h4d G5=>?_)
   ·omega
   refine aa G5 ?_
   refine hn3 _ _ (zQT hQ fun Q4 hn4 hQ4 he4=>?_)
   have G6:=jn @bo (jn @cQ (jn @iU G5))
   refine aa G6 ?_
   refine hn4 _ _ (zQT hQ fun Q5 hn5 hQ5 he5=>?_)
   refine aa G6 ?_
   refine hn5 _ _ (sqR hQ fun Q6 hn6 hQ6 he6=>?_)
   refine bkR hQ6 fun Q7 hn7 hQ7 he7 hb7=>?_
   refine cW (fun k F Hx=>∃QA:List T6,∃j:Nat,∃K:Nat,∃O:List T6,QA.length-j+2*K=k/\j<=QA.length/\QA.length-j+K<=l.length+K0/\QA.length<=l.length+K0/\O.length+(QA.length-j)+K<=l.length+K0/\(∀b∈QA,bl b=true)/\rfn W Hh xs sc g k (QA.drop j) K O=aN W Hh xs l sc g K0/\F=[(2,.sl (some (bq,0)) sc.length cq),(3,iV g),(4,iV (K:Int)),(5,.ptr (some (H.length,0))),(12,.sl (some (H.length+1,j*6)) (QA.length-j) none),(13,.sl (some (H.length+2,0)) O.length (aS O.length))]/\Hx=H++[.cells true 0 [iV W,iV Hh,.sl (some (bpp,0)) xs.length cpp],.cells true 6 (r6 QA),.cells (aI O.length) 6 (r6 O)]) (l.length+2*K0) ?_ ?_
   ·refine⟨_,_,_,⟨l,0,K0,[],by omega,Nat.zero_le _,by omega,by omega,by simp only[List.length_nil];omega,hSS.2,rfl,rfl,rfl⟩,Abs.byG hbel [.cells false 6 []] rfl [0,2,3] (by decide) ?_⟩
    exact al (jn @Nat.zero_mul (jn @Nat.sub_zero (jn @ap (jn @au (jn @aA @ax)))))
   rintro k0 F Hx ⟨QA,j,K,O,hm0,hjq,hqb,hql,hol,hqv,hrf,rfl,rfl⟩ Q8 hJ0 hr8 he8
   have hQ8:=fun F H' h=>hr8 F H' (hQ7 F H' h)
   refine zQT hQ8 fun Q9 hn9 hQ9 he9=>?_
   refine rcs G6 (fun h5 h5d _=>?_) (fun h5 h5d G28=>?_)
   ·have hjl:j<QA.length:=by omega
    have hbv:bl (g6 QA j)=true:=hqv _ (bY hjl)
    have hsf1:QA.length-j-1=QA.length-(j+1):=by omega
    have hsf2:j*6+6=(j+1)*6:=by omega
    have G7:=jn h5 (jn h5d (j2 hsf1 hsf2 G6))
    refine aa G7 ?_
    refine hn9 _ _ ?_
    refine bkR hQ8 fun Q10 hn10 hQ10 he10 hb10=>?_
    refine aL true try_mixed [[0,1,2,3,4,5,6,7,8,9,10,11,12],[0,1,2,3,4,5,10,6,7,8,9,11,12]] (by kernel_rfl) (fun F2 H2=>F2=[(2,.sl (some (bq,0)) sc.length cq),(3,iV g),(4,iV (K:Int)),(5,.ptr (some (H.length,0))),(12,.sl (some (H.length+1,j*6)) (QA.length-j) none),(13,.sl (some (H.length+2,0)) O.length (aS O.length)),(14,.ptr (some (H.length+3,0))),(15,.bool (tOk W Hh xs (g6 QA j) sc g))]/\H2=H++[.cells true 0 [iV W,iV Hh,.sl (some (bpp,0)) xs.length cpp],.cells true 6 (r6 QA),.cells (aI O.length) 6 (r6 O),.cells true 0 [iV (mkV (tOk W Hh xs (g6 QA j) sc g) ((tB W Hh xs (g6 QA j) sc g).1)),iV (mkV (tOk W Hh xs (g6 QA j) sc g) ((tB W Hh xs (g6 QA j) sc g).2.1)),iV (mkV (tOk W Hh xs (g6 QA j) sc g) ((tB W Hh xs (g6 QA j) sc g).2.2.1)),iV (mkV (tOk W Hh xs (g6 QA j) sc g) ((tB W Hh xs (g6 QA j) sc g).2.2.2.1)),iV (mkV (tOk W Hh xs (g6 QA j) sc g) ((tB W Hh xs (g6 QA j) sc g).2.2.2.2.1)),iV (mkV (tOk W Hh xs (g6 QA j) sc g) ((tB W Hh xs (g6 QA j) sc g).2.2.2.2.2))]]) ?_ ?_
    ·refine af ?_ (af ?_ (aQ))<;>intro J hJ
     ·have q6:=bD (l:=QA) (j:=j) (by omega)
      have G8:=jn q6 G7
      refine ag G8 ?_
      refine cd (rtrim_t _ W Hh _ xs (g6 QA j) _ sc g (zA2 hb0pp hbpp) (zA2 hb0q hbq) hV (by assumption) hsB hg) ?_
      refine ag G8 ?_
      refine ai (hJ _ _ ⟨_,_,_,⟨rfl,rfl⟩,bS hbel [0,1,2,3] (al (jn @ap (jn @au (jn @aA @ax))))⟩)
     have q7:=bD (l:=QA) (j:=j) (by omega)
     have G9:=jn q7 G7
     refine ag G9 ?_
     refine cd (rtrim_t _ W Hh _ xs (g6 QA j) _ sc g (zA2 hb0pp hbpp) (zA2 hb0q hbq) hV (by assumption) hsB hg) ?_
     refine ag G9 ?_
     refine ai (hJ _ _ ⟨_,_,_,⟨rfl,rfl⟩,bS hbel [0,1,2,3] (al (jn @ap (jn @au (jn @aA @ax))))⟩)
    rintro F2 H2 ⟨rfl,rfl⟩
    refine zQT hQ10 fun Q11 hn11 hQ11 he11=>?_
    refine aa G7 ?_
    refine hn11 _ _ (zQT hQ10 fun Q12 hn12 hQ12 he12=>?_)
    refine rcs G7 (fun h8 h8d G10=>?_) (fun h8 h8d G11=>?_)
    ·have htf:=h8d
     refine aa G10 ?_
     refine he12 _ _ _ ?_
     refine hb10 _ _ ?_
     refine hJ0 _ _ ⟨k0-1,by omega,_,_,_,⟨QA,j+1,K,O,by omega,by omega,by omega,hql,by omega,hqv,rfn_no hjl hm0 htf hrf,rfl,rfl⟩,bS hbel [0,1,2] (al (jn @Nat.zero_mul (jn @Nat.sub_zero (jn @List.length_drop.{0} (jn @ap (jn @au (jn @aA @ax)))))))⟩
    have hto:=h8d
    have htb:=(tB_ok hWW hHH hbv hto).1
    refine aa G11 ?_
    refine hn12 _ _ (zQT hQ10 fun Q13 hn13 hQ13 he13=>?_)
    refine aa G11 ?_
    rcases Bool.eq_false_or_eq_true (cg (tB W Hh xs (g6 QA j) sc g)) with h9|h9
    ·have h9d:=h9
     have hs2:=h9d
     have hso:=spl_ok htb hs2
     rcases Bool.eq_false_or_eq_true (decide (0<(QA.length-(j+1)))) with h10|h10
     ·have h10d:=h10
      have hsfz1:(QA.length-(j+1)==0)=false:=beq_eq_false_iff_ne.2 (by have:=of_decide_eq_true h10d;omega)
      have hdn:=List.append_nil ([]:List T6)
      have hlz:=hjl
      refine cv (rg _ (tB W Hh xs (g6 QA j) sc g) (by assumption) (by assumption)) ?_
      have G12:=jn h9 (jn h9d (jn h10 (j2 h10d hsfz1 G11)))
      refine aa G12 ?_
      refine hn13 _ _ (zQT hQ10 fun Q14 hn14 hQ14 he14=>?_)
      refine rgs G12 (fun h11 h11d _=>?_) (fun h11 h11d G17=>?_)
      ·have hK:0<K:=by omega
       have hsfk:(K:Int)-1=((K-1:Nat):Int):=by omega
       have G13:=jn h11 (j2 h11d hsfk G12)
       refine aa G13 ?_
       refine hn14 _ _ ?_
       refine db true (by rfl) (fun h=>?_) (fun h=>by cases h)
       refine zQT hQ10 fun Q15 hn15 hQ15 he15=>?_
       refine aa G13 ?_
       refine hn15 _ _ ?_
       refine ep true try_mixed [[0,1,2,3,4,5,6,7],[0,1,3,4,5,2,6,7],[1,3,4,5,0,2,6,7]] (by kernel_rfl) (fun F2 H2=>F2=[(2,.sl (some (bq,0)) sc.length cq),(3,iV g),(4,iV ((K-1:Nat):Int)),(5,.ptr (some (H.length,0))),(12,.sl (some (H.length+2,0)) (QA.length-(j+1)+2) none),(13,.sl (some (H.length+1,0)) O.length (aS O.length))]/\H2=H++[.cells true 0 [iV W,iV Hh,.sl (some (bpp,0)) xs.length cpp],.cells (aI O.length) 6 (r6 O),.cells true 6 (r6 ((List.drop (j+1) QA)++[(((bR (tB W Hh xs (g6 QA j) sc g)).1),((bR (tB W Hh xs (g6 QA j) sc g)).2.1),((bR (tB W Hh xs (g6 QA j) sc g)).2.2.1),((bR (tB W Hh xs (g6 QA j) sc g)).2.2.2.1),((bR (tB W Hh xs (g6 QA j) sc g)).2.2.2.2.1),((bR (tB W Hh xs (g6 QA j) sc g)).2.2.2.2.2)),(((bT (tB W Hh xs (g6 QA j) sc g)).1),((bT (tB W Hh xs (g6 QA j) sc g)).2.1),((bT (tB W Hh xs (g6 QA j) sc g)).2.2.1),((bT (tB W Hh xs (g6 QA j) sc g)).2.2.2.1),((bT (tB W Hh xs (g6 QA j) sc g)).2.2.2.2.1),((bT (tB W Hh xs (g6 QA j) sc g)).2.2.2.2.2))]))]) ?_ ?_
       ·refine af ?_ (af ?_ (af ?_ (aQ)))<;>intro J hJ
        ·have q12:=jf (l:=QA) (k:=j+1) (by omega)
         have q13:=oL (l:=List.drop (j+1) QA) (n:=QA.length-(j+1)) (by rw[List.length_drop])
         have G14:=jn q12 (jn q13 (jn @List.length_drop.{0} (jn @ba (jn @cH G13))))
         refine ag G14 ?_
         refine ai (hJ _ _ ⟨_,_,_,⟨rfl,rfl⟩,bS hbel [0,2,9] (al (jn @ap (jn @au (jn @aA @ax))))⟩)
        ·have q14:=jf (l:=QA) (k:=j+1) (by omega)
         have q15:=oL (l:=List.drop (j+1) QA) (n:=QA.length-(j+1)) (by rw[List.length_drop])
         have G15:=jn q14 (jn q15 (jn @List.length_drop.{0} (jn @ba (jn @cH G13))))
         refine ag G15 ?_
         refine ai (hJ _ _ ⟨_,_,_,⟨rfl,rfl⟩,bS hbel [0,2,9] (al (jn @ap (jn @au (jn @aA @ax))))⟩)
        have q16:=jf (l:=QA) (k:=j+1) (by omega)
        have q17:=oL (l:=List.drop (j+1) QA) (n:=QA.length-(j+1)) (by rw[List.length_drop])
        have G16:=jn q16 (jn q17 (jn @List.length_drop.{0} (jn @ba (jn @cH G13))))
        refine ag G16 ?_
        refine ai (hJ _ _ ⟨_,_,_,⟨rfl,rfl⟩,bS hbel [0,2,9] (al (jn @ap (jn @au (jn @aA @ax))))⟩)
       rintro F2 H2 ⟨rfl,rfl⟩
       refine hn10 _ _ ?_
       refine hJ0 _ _ ⟨k0-1,by omega,_,_,_,⟨List.drop (j+1) QA++[bR (tB W Hh xs (g6 QA j) sc g),bT (tB W Hh xs (g6 QA j) sc g)],0,K-1,O,by (simp only[List.length_append,List.length_drop,List.length_cons,List.length_nil];omega),Nat.zero_le _,by simp only[List.length_append,List.length_drop,List.length_cons,List.length_nil];omega,by simp only[List.length_append,List.length_drop,List.length_cons,List.length_nil];omega,by simp only[List.length_append,List.length_drop,List.length_cons,List.length_nil];omega,fun b hb'=>by
             rcases List.mem_append.1 hb' with q|q
             ·exact hqv b (List.mem_of_mem_drop q)
             rcases List.mem_cons.1 q with q|q
             ·rw[q];exact hso.1
             rw[List.mem_singleton.1 q];exact hso.2.1,oD hjl hm0 hto ⟨hK,hs2⟩ hrf,rfl,rfl⟩,bS hbel [0,2,1] (al (jn @Nat.zero_mul (jn @Nat.sub_zero (jn @List.length_drop.{0} (jn @ap (jn @au (jn @aA @ax)))))))⟩
      have hno:¬(0<K/\cg (tB W Hh xs (g6 QA j) sc g)=true):=fun q=>by omega
      refine aa G17 ?_
      refine hn14 _ _ ?_
      refine db false (by rfl) (fun h=>by cases h) (fun h=>?_)
      refine fnT ?_
      have G18:=jn @ba (jn @cH G17)
      refine aa G18 ?_
      refine hn10 _ _ ?_
      refine hJ0 _ _ ⟨k0-1,by omega,_,_,_,⟨QA,j+1,K,O++[(tB W Hh xs (g6 QA j) sc g)],by omega,by omega,by omega,hql,by simp only[List.length_append,List.length_drop,List.length_cons,List.length_nil];omega,hqv,iI hjl hm0 hto hno hrf,rfl,rfl⟩,bS hbel [0,1,7] (al (jn @Nat.zero_mul (jn @Nat.sub_zero (jn @List.length_drop.{0} (jn @ap (jn @au (jn @aA @ax)))))))⟩
     have h10d:=h10
     have hr0:QA.length-(j+1)=0:=by have:=of_decide_eq_false h10d;omega
     have hsfz1:(QA.length-(j+1)==0)=true:=by rw[hr0];rfl
     have hdn:List.drop (j+1) QA=[]:=List.drop_eq_nil_of_le (by omega)
     have hlz:=hr0
     refine cv (rg _ (tB W Hh xs (g6 QA j) sc g) (by assumption) (by assumption)) ?_
     have G19:=jn h9 (jn h9d (jn h10 (j2 h10d hsfz1 G11)))
     refine aa G19 ?_
     refine hn13 _ _ (zQT hQ10 fun Q16 hn16 hQ16 he16=>?_)
     refine rgs G19 (fun h18 h18d _=>?_) (fun h18 h18d G21=>?_)
     ·have hK:0<K:=by omega
      have hsfk:(K:Int)-1=((K-1:Nat):Int):=by omega
      have G20:=jn h18 (j2 h18d hsfk G19)
      refine aa G20 ?_
      refine hn16 _ _ ?_
      refine db true (by rfl) (fun h=>?_) (fun h=>by cases h)
      refine zQT hQ10 fun Q17 hn17 hQ17 he17=>?_
      refine aa G20 ?_
      refine hn17 _ _ ?_
      refine ep true try_mixed [[0,1,2,3,4,5,6,7],[0,1,3,4,5,2,6,7],[1,3,4,5,0,2,6,7]] (by kernel_rfl) (fun F2 H2=>F2=[(2,.sl (some (bq,0)) sc.length cq),(3,iV g),(4,iV ((K-1:Nat):Int)),(5,.ptr (some (H.length,0))),(12,.sl (some (H.length+2,0)) 2 none),(13,.sl (some (H.length+1,0)) O.length (aS O.length))]/\H2=H++[.cells true 0 [iV W,iV Hh,.sl (some (bpp,0)) xs.length cpp],.cells (aI O.length) 6 (r6 O),.cells true 6 [iV ((bR (tB W Hh xs (g6 QA j) sc g)).1),iV ((bR (tB W Hh xs (g6 QA j) sc g)).2.1),iV ((bR (tB W Hh xs (g6 QA j) sc g)).2.2.1),iV ((bR (tB W Hh xs (g6 QA j) sc g)).2.2.2.1),iV ((bR (tB W Hh xs (g6 QA j) sc g)).2.2.2.2.1),iV ((bR (tB W Hh xs (g6 QA j) sc g)).2.2.2.2.2),iV ((bT (tB W Hh xs (g6 QA j) sc g)).1),iV ((bT (tB W Hh xs (g6 QA j) sc g)).2.1),iV ((bT (tB W Hh xs (g6 QA j) sc g)).2.2.1),iV ((bT (tB W Hh xs (g6 QA j) sc g)).2.2.2.1),iV ((bT (tB W Hh xs (g6 QA j) sc g)).2.2.2.2.1),iV ((bT (tB W Hh xs (g6 QA j) sc g)).2.2.2.2.2)]]) ?_ ?_
      ·refine af ?_ (af ?_ (af ?_ (aQ)))<;>intro J hJ
       ·refine ag G20 ?_
        refine ai (hJ _ _ ⟨_,_,_,⟨rfl,rfl⟩,bS hbel [0,2,8] (al (jn @ap (jn @au (jn @aA @ax))))⟩)
       ·refine ag G20 ?_
        refine ai (hJ _ _ ⟨_,_,_,⟨rfl,rfl⟩,bS hbel [0,2,8] (al (jn @ap (jn @au (jn @aA @ax))))⟩)
       refine ag G20 ?_
       refine ai (hJ _ _ ⟨_,_,_,⟨rfl,rfl⟩,bS hbel [0,2,8] (al (jn @ap (jn @au (jn @aA @ax))))⟩)
      rintro F2 H2 ⟨rfl,rfl⟩
      refine hn10 _ _ ?_
      refine hJ0 _ _ ⟨k0-1,by omega,_,_,_,⟨List.drop (j+1) QA++[bR (tB W Hh xs (g6 QA j) sc g),bT (tB W Hh xs (g6 QA j) sc g)],0,K-1,O,by (simp only[List.length_append,List.length_drop,List.length_cons,List.length_nil];omega),Nat.zero_le _,by simp only[List.length_append,List.length_drop,List.length_cons,List.length_nil];omega,by simp only[List.length_append,List.length_drop,List.length_cons,List.length_nil];omega,by simp only[List.length_append,List.length_drop,List.length_cons,List.length_nil];omega,fun b hb'=>by
            rcases List.mem_append.1 hb' with q|q
            ·exact hqv b (List.mem_of_mem_drop q)
            rcases List.mem_cons.1 q with q|q
            ·rw[q];exact hso.1
            rw[List.mem_singleton.1 q];exact hso.2.1,oD hjl hm0 hto ⟨hK,hs2⟩ hrf,rfl,rfl⟩,bS hbel [0,2,1] (al (jn @Nat.zero_mul (jn @Nat.sub_zero (jn @hdn (jn @List.nil_append.{0} (jn @hlz (jn @List.length_drop.{0} (jn @ap (jn @au (jn @aA @ax))))))))))⟩
     have hno:¬(0<K/\cg (tB W Hh xs (g6 QA j) sc g)=true):=fun q=>by omega
     refine aa G21 ?_
     refine hn16 _ _ ?_
     refine db false (by rfl) (fun h=>by cases h) (fun h=>?_)
     refine fnT ?_
     have G22:=jn @ba (jn @cH G21)
     refine aa G22 ?_
     refine hn10 _ _ ?_
     refine hJ0 _ _ ⟨k0-1,by omega,_,_,_,⟨QA,j+1,K,O++[(tB W Hh xs (g6 QA j) sc g)],by omega,by omega,by omega,hql,by simp only[List.length_append,List.length_drop,List.length_cons,List.length_nil];omega,hqv,iI hjl hm0 hto hno hrf,rfl,rfl⟩,bS hbel [0,1,7] (al (jn @Nat.zero_mul (jn @Nat.sub_zero (jn @List.length_drop.{0} (jn @ap (jn @au (jn @aA @ax)))))))⟩
    have h9d:=h9
    have hno:¬(0<K/\cg (tB W Hh xs (g6 QA j) sc g)=true):=fun q=>absurd (q.2.symm.trans h9d) (by decide)
    refine cv (rsplit_f _ (tB W Hh xs (g6 QA j) sc g) (by assumption) (by assumption)) ?_
    have G23:=j2 h9 h9d G11
    refine aa G23 ?_
    refine hn13 _ _ (zQT hQ10 fun Q18 hn18 hQ18 he18=>?_)
    refine rgs G23 (fun h19 h19d _=>?_) (fun h19 h19d G26=>?_)
    ·have hK:0<K:=by omega
     have hsfk:(K:Int)-1=((K-1:Nat):Int):=by omega
     have G24:=jn h19 (j2 h19d hsfk G23)
     refine aa G24 ?_
     refine hn18 _ _ ?_
     refine db false (by rfl) (fun h=>by cases h) (fun h=>?_)
     refine fnT ?_
     have G25:=jn @ba (jn @cH G24)
     refine aa G25 ?_
     refine hn10 _ _ ?_
     refine hJ0 _ _ ⟨k0-1,by omega,_,_,_,⟨QA,j+1,K,O++[(tB W Hh xs (g6 QA j) sc g)],by omega,by omega,by omega,hql,by simp only[List.length_append,List.length_drop,List.length_cons,List.length_nil];omega,hqv,iI hjl hm0 hto hno hrf,rfl,rfl⟩,bS hbel [0,1,7] (al (jn @Nat.zero_mul (jn @Nat.sub_zero (jn @List.length_drop.{0} (jn @ap (jn @au (jn @aA @ax)))))))⟩
    have hno:¬(0<K/\cg (tB W Hh xs (g6 QA j) sc g)=true):=fun q=>by omega
    refine aa G26 ?_
    refine hn18 _ _ ?_
    refine db false (by rfl) (fun h=>by cases h) (fun h=>?_)
    refine fnT ?_
    have G27:=jn @ba (jn @cH G26)
    refine aa G27 ?_
    refine hn10 _ _ ?_
    refine hJ0 _ _ ⟨k0-1,by omega,_,_,_,⟨QA,j+1,K,O++[(tB W Hh xs (g6 QA j) sc g)],by omega,by omega,by omega,hql,by simp only[List.length_append,List.length_drop,List.length_cons,List.length_nil];omega,hqv,iI hjl hm0 hto hno hrf,rfl,rfl⟩,bS hbel [0,1,7] (al (jn @Nat.zero_mul (jn @Nat.sub_zero (jn @List.length_drop.{0} (jn @ap (jn @au (jn @aA @ax)))))))⟩
   have hfinR:aN W Hh xs l sc g K0=O:=rfn_end (by omega) hrf
   refine aa G28 ?_
   refine he9 _ _ _ ?_
   refine he8 _ _ _ ?_
   refine hb7 _ _ ?_
   refine hn6 _ _ ?_
   refine fnT ?_
   refine aa G28 ?_
   refine hQ _ _ (aM (.inl rfl) hbel (x1:=.tup [.sl (some (H.length+2,0)) O.length (aS O.length),iV 0]) (l2:=[.cells (aI O.length) 6 (r6 O)]) (.tup [.sl (some (H.length,0)) O.length (aS O.length),iV 0]) (aU results52) [] rfl [2] (by decide) ⟨by rw[hfinR],by rw[hfinR]⟩ ?_)
   exact aF @ax
  omega
 omega
theorem bbef_c (H:ac)(a1 a2 b1 b2:Int):zC 185 [.agg [iV a1,iV a2],.agg [iV b1,iV b2]] H (.bool (befB a1 a2 b1 b2)) H:=by
 refine AcT true func185 ?_;intro hbel Q hQ
 refine aC ?_
 refine bg (fun h1=>?_) (fun h1=>?_)
 ·have h1d:=bsT h1
  have G1:=jn h1 @h1d
  refine rgs G1 (fun h2 h2d _=>?_) (fun h2 h2d _=>?_)
  ·have G2:=jn h2 (jn h2d (jn @aK (jn @aJ G1)))
   exact eR G2 hQ hbel (.bool (decide (a1<b1))) results185 ⟨by simp[befB,h1d,h2d],rfl⟩
  have G3:=jn h2 (jn h2d (jn @aK (jn @aJ G1)))
  exact eR G3 hQ hbel (.bool false) results185 ⟨by simp[befB,h1d,h2d],rfl⟩
 have h1d:=bsT h1
 have G4:=jn h1 @h1d
 exact eR G4 hQ hbel (.bool true) results185 ⟨by simp[befB,h1d],rfl⟩
theorem putT_c (H:ac)(s:AV)(l:List (Int×Int))(x y:Int)(hs:SlP H s l)(hl:l.length<=100000000)(hst:l.Pairwise b9)(hm:(x,y)∈l):zC 140 [s,.agg [iV x,iV y]] H s H:=by
 obtain⟨bs,os,cs,rfl,hbs,hbls,hb0s⟩:=zA1 hs
 refine AcT true func140 ?_;intro hbel Q hQ
 have G5:=jn @hbs @hb0s
 refine aa G5 ?_
 refine glp (fun k F Hx=>∃i:Nat,i+k=l.length/\(∀j:Nat,(h:j<l.length)->j<i->b9 l[j] (x,y))/\F=[(0,.sl (some (bs,0)) l.length cs),(3,.ptr (some (H.length,0))),(5,iV (i:Int))]/\Hx=H++[.cells true 0 [iV x,iV y]]) (l.length) ?_ ?_
 ·refine⟨_,_,_,⟨0,by omega,fun j h h2=>by omega,rfl,rfl⟩,bS hbel [0] ar⟩
 rintro k0 F Hx ⟨i,hm0,hal,rfl,rfl⟩ J0 hJ0
 refine rgs G5 (fun h1 h1d _=>?_) (fun h1 h1d _=>?_)
 ·have hlt:i<l.length:=by omega
  have q2:=bN (l:=l) (j:=i) (by omega)
  have G6:=jn h1 (jn h1d (jn q2 G5))
  refine aa G6 ?_
  refine cd (bbef_c _ _ _ x y) ?_
  refine rcs G6 (fun h3 h3d G7=>?_) (fun h3 h3d _=>?_)
  ·have hbt:=h3d
   refine aa G7 ?_
   refine hJ0 _ _ ⟨k0-1,by omega,_,_,_,⟨i+1,by omega,fun j hj hji=>by
         rcases Nat.lt_or_ge j i with h|h
         ·exact hal j hj h
         obtain rfl:j=i:=by omega
         rw[<-bC hj];exact mM.1 hbt,rfl,rfl⟩,bS hbel [0] ar⟩
  have hnb:¬b9 l[i] (x,y):=by rw[<-bC hlt];exact befB_f h3d
  have q4:=bN (l:=l) (j:=i) (by omega)
  have G8:=jn h3 (jn h3d (jn q4 G6))
  refine rcs G8 (fun h5 h5d _=>?_) (fun h5 h5d _=>?_)
  ·have h5n:=bnT h5
   have hq:=h5d
   have G9:=jn h5 (jn h5n (jn @aK (jn @aJ G8)))
   refine aa G9 ?_
   refine hQ _ _ (aM (.inl rfl) hbel (x1:=.sl (some (bs,0)) l.length cs) (l2:=[]) (.sl (some (bs,0)) l.length cs) (aU results140) [] rfl [] (by decide) ⟨rfl,List.append_nil _⟩ ?_)
   exact ar
  have h5n:=bnT h5
  have hne:l[i]≠(x,y):=fun e=>by
   rw[<-bC hlt] at e
   injection e with e1 e2
   simp[e1,e2] at h5d
  exact absurd hm (put_in hal hst (fun _=>⟨hnb,hne⟩))
 exact absurd hm (put_in hal hst (fun h=>by omega))
theorem putF_c (H:ac)(s:AV)(l:List (Int×Int))(x y:Int)(hs:SlP H s l)(hl:l.length<=100000000)(hm:¬(x,y)∈l):zC 140 [s,.agg [iV x,iV y]] H (.sl (some (H.length,0)) ((c6 (x,y) l).length) none) (H++[.cells true 2 (prs (c6 (x,y) l))]):=by
 obtain⟨bs,os,cs,rfl,hbs,hbls,hb0s⟩:=zA1 hs
 refine AcT true func140 ?_;intro hbel Q hQ
 have G10:=jn @hbs @hb0s
 refine aa G10 ?_
 refine glp (fun k F Hx=>∃i:Nat,i+k=l.length/\(∀j:Nat,(h:j<l.length)->j<i->b9 l[j] (x,y))/\F=[(0,.sl (some (bs,0)) l.length cs),(3,.ptr (some (H.length,0))),(5,iV (i:Int))]/\Hx=H++[.cells true 0 [iV x,iV y]]) (l.length) ?_ ?_
 ·refine⟨_,_,_,⟨0,by omega,fun j h h2=>by omega,rfl,rfl⟩,bS hbel [0] ar⟩
 rintro k0 F Hx ⟨i,hm0,hal,rfl,rfl⟩ J0 hJ0
 refine rgs G10 (fun h1 h1d _=>?_) (fun h1 h1d _=>?_)
 ·have hlt:i<l.length:=by omega
  have q2:=bN (l:=l) (j:=i) (by omega)
  have G11:=jn h1 (jn h1d (jn q2 G10))
  refine aa G11 ?_
  refine cd (bbef_c _ _ _ x y) ?_
  refine rcs G11 (fun h3 h3d G12=>?_) (fun h3 h3d _=>?_)
  ·have hbt:=h3d
   refine aa G12 ?_
   refine hJ0 _ _ ⟨k0-1,by omega,_,_,_,⟨i+1,by omega,fun j hj hji=>by
         rcases Nat.lt_or_ge j i with h|h
         ·exact hal j hj h
         obtain rfl:j=i:=by omega
         rw[<-bC hj];exact mM.1 hbt,rfl,rfl⟩,bS hbel [0] ar⟩
  have hnb:¬b9 l[i] (x,y):=by rw[<-bC hlt];exact befB_f h3d
  have q4:=bN (l:=l) (j:=i) (by omega)
  have G13:=jn h3 (jn h3d (jn q4 G11))
  refine rcs G13 (fun h5 h5d _=>?_) (fun h5 h5d _=>?_)
  ·have h5n:=bnT h5
   have heq:l[i]=(x,y):=by
    have q:g1 l i=x/\g2 l i=y:=by simpa using h5d
    rw[<-bC hlt,q.1,q.2]
   exact absurd (by rw[<-heq];exact List.getElem_mem hlt) hm
  have h5n:=bnT h5
  have hne:l[i]≠(x,y):=fun e=>by
   rw[<-bC hlt] at e
   injection e with e1 e2
   simp[e1,e2] at h5d
  have hfinK:c6 (x,y) l=l.take i++(x,y)::l.drop i:=qX (by omega) hal (fun _=>⟨hnb,hne⟩)
  rcases Nat.eq_zero_or_pos i with h6|h6
  ·have h6z:=h6
   have h6e:(i==0)=true:=by rw[h6];rfl
   have q7:=@eI l i
   have q8:=jz (l:=l) (k:=i) (by omega)
   have q9:(1+(l.length-i)==0)=false:=beq_eq_false_iff_ne.2 (by omega)
   have G14:=jn h5 (jn h5n (jn @aK (jn @aJ (jn h6e (jn q7 (jn @ba (jn @cp (jn @List.length_take.{0} (jn @List.length_drop.{0} (jn @Nat.sub_zero (jn q8 (jn q9 G13))))))))))))
   refine aa G14 ?_
   refine hQ _ _ (aM (.inl rfl) hbel (x1:=.sl (some (H.length+4,0)) (1+(l.length-i)) none) (l2:=[.cells true 2 (prs ([(x,y)]++(List.drop i l)))]) (.sl (some (H.length,0)) (1+(l.length-i)) none) (aU results140) [] rfl [4] (by decide) ⟨by rw[hfinK];congr 1;simp only[List.length_append,List.length_cons,List.length_take,List.length_drop,List.length_nil];omega,by rw[hfinK];simp[h1d,h3d,h5d,hfinK,h6z]⟩ ?_)
   exact aF (jn @dX (jn @cJ (jn @eY @List.append_assoc.{0})))
  have h6z:=h6
  have h6e:(i==0)=false:=beq_eq_false_iff_ne.2 (by omega)
  have h6l:decide (0<i)=true:=decide_eq_true h6
  have q10:=@eI l i
  have q11:=jz (l:=l) (k:=i) (by omega)
  have q12:(i+1+(l.length-i)==0)=false:=beq_eq_false_iff_ne.2 (by omega)
  have hvA:List.take (i*2) (prs (List.take i l))=prs (List.take i l):=by rw[eI,List.take_take,Nat.min_self]
  have hvB:List.take ((i+1)*2) (prs (List.take i l)++[iV x,iV y])=prs (List.take i l)++[iV x,iV y]:=List.take_of_length_le (by simp only[List.length_append,ba,List.length_take,List.length_cons,List.length_nil];omega)
  have G15:=jn h5 (jn h5n (jn @aK (jn @aJ (jn h6e (jn h6l (jn q10 (jn @ba (jn @cp (jn @List.length_take.{0} (jn @List.length_drop.{0} (jn @Nat.sub_zero (jn @cH (jn q11 (jn q12 (j2 hvA hvB G13)))))))))))))))
  refine aa G15 ?_
  refine hQ _ _ (aM (.inl rfl) hbel (x1:=.sl (some (H.length+5,0)) (i+1+(l.length-i)) none) (l2:=[.cells true 2 (prs (((List.take i l)++[(x,y)])++(List.drop i l)))]) (.sl (some (H.length,0)) (i+1+(l.length-i)) none) (aU results140) [] rfl [5] (by decide) ⟨by rw[hfinK];congr 1;simp only[List.length_append,List.length_cons,List.length_take,List.length_drop,List.length_nil];omega,by rw[hfinK];simp[h1d,h3d,h5d,hfinK]⟩ ?_)
  exact aF (jn @dX (jn @cJ (jn @eY @List.append_assoc.{0})))
 have hfinK:c6 (x,y) l=l.take i++(x,y)::l.drop i:=qX (by omega) hal (fun h=>by omega)
 rcases Nat.eq_zero_or_pos i with h13|h13
 ·have h13z:=h13
  have h13e:(i==0)=true:=by rw[h13];rfl
  have q14:=@eI l i
  have q15:=jz (l:=l) (k:=i) (by omega)
  have q16:(1+(l.length-i)==0)=false:=beq_eq_false_iff_ne.2 (by omega)
  have G16:=jn h1 (jn h1d (jn h13e (jn q14 (jn @ba (jn @cp (jn @List.length_take.{0} (jn @List.length_drop.{0} (jn @Nat.sub_zero (jn q15 (jn q16 G10))))))))))
  refine aa G16 ?_
  refine hQ _ _ (aM (.inl rfl) hbel (x1:=.sl (some (H.length+4,0)) (1+(l.length-i)) none) (l2:=[.cells true 2 (prs ([(x,y)]++(List.drop i l)))]) (.sl (some (H.length,0)) (1+(l.length-i)) none) (aU results140) [] rfl [4] (by decide) ⟨by rw[hfinK];congr 1;simp only[List.length_append,List.length_cons,List.length_take,List.length_drop,List.length_nil];omega,by rw[hfinK];simp[h1d,hfinK,h13z]⟩ ?_)
  exact aF (jn @dX (jn @cJ (jn @eY @List.append_assoc.{0})))
 have h13z:=h13
 have h13e:(i==0)=false:=beq_eq_false_iff_ne.2 (by omega)
 have h13l:decide (0<i)=true:=decide_eq_true h13
 have q17:=@eI l i
 have q18:=jz (l:=l) (k:=i) (by omega)
 have q19:(i+1+(l.length-i)==0)=false:=beq_eq_false_iff_ne.2 (by omega)
 have hvA:List.take (i*2) (prs (List.take i l))=prs (List.take i l):=by rw[eI,List.take_take,Nat.min_self]
 have hvB:List.take ((i+1)*2) (prs (List.take i l)++[iV x,iV y])=prs (List.take i l)++[iV x,iV y]:=List.take_of_length_le (by simp only[List.length_append,ba,List.length_take,List.length_cons,List.length_nil];omega)
 have G17:=jn h1 (jn h1d (jn h13e (jn h13l (jn q17 (jn @ba (jn @cp (jn @List.length_take.{0} (jn @List.length_drop.{0} (jn @Nat.sub_zero (jn @cH (jn q18 (jn q19 (j2 hvA hvB G10)))))))))))))
 refine aa G17 ?_
 refine hQ _ _ (aM (.inl rfl) hbel (x1:=.sl (some (H.length+5,0)) (i+1+(l.length-i)) none) (l2:=[.cells true 2 (prs (((List.take i l)++[(x,y)])++(List.drop i l)))]) (.sl (some (H.length,0)) (i+1+(l.length-i)) none) (aU results140) [] rfl [5] (by decide) ⟨by rw[hfinK];congr 1;simp only[List.length_append,List.length_cons,List.length_take,List.length_drop,List.length_nil];omega,by rw[hfinK];simp[h1d,hfinK]⟩ ?_)
 exact aF (jn @dX (jn @cJ (jn @eY @List.append_assoc.{0})))
theorem tau_any {l:List T6}(h:l.any gt=true):dn l=false:=by unfold dn;rw[h];simp
theorem tau_sum {l:List T6}(h:∀j:Nat,j<l.length->gt (g6 l j)=false)(hS:bk l=true):dn l=decide (prsN l<=32):=by
 have e:l.any gt=false:=List.any_eq_false.2 fun b hb=>by
  obtain⟨j,hj,e⟩:=List.mem_iff_getElem.1 hb
  rw[<-e,<-jq hj]
  intro hh
  have q:false=true:=(h j hj).symm.trans hh
  cases q
 unfold dn prsN
 rw[e,if_pos hS];simp
theorem prs_end {l:List T6}{i:Nat}(h:i=l.length)(k:bk l=true\/i=0):sumC l i=prsN l:=by
 unfold prsN
 by_cases hS:bk l=true
 ·rw[if_pos hS,h]
 rw[if_neg hS,k.resolve_left hS];rfl
def inL (l:List (Int×Int)) (x y:Int):Bool:=decide ((x,y)∈l)
theorem rpairs_c (H:ac)(s:AV)(l:List T6)(hs:Sl H 6 s l.length (r6 l))(hl:l.length<=1000000000):zC 137 [s] H (iV (prsN l)) H:=by
 obtain⟨bs,os,cs,rfl,hbs,hbls,hb0s⟩:=zA1 hs
 have hsb:=fun (h:bk l=true)=>jQ h
 refine AcT true func137 ?_;intro hbel Q hQ
 have G1:=jn @hbs @hb0s
 refine aa G1 ?_
 refine glp (fun k F Hx=>∃i:Nat,i+k=l.length/\(bk l=true\/i=0)/\F=[(0,.sl (some (bs,0)) l.length cs),(3,iV (sumC l i)),(4,iV (i:Int))]/\H=Hx) (l.length) ?_ ?_
 ·refine⟨_,_,_,⟨0,by omega,.inr rfl,rfl,rfl⟩,Abs.by0 hbel ?_⟩
  exact aF @sumC.eq_1
 rintro k0 F Hx ⟨i,hm0,hor,rfl,rfl⟩ J0 hJ0
 refine rgs G1 (fun h1 h1d G2=>?_) (fun h1 h1d G5=>?_)
 ·have hlt:i<l.length:=by omega
  refine aa G2 ?_
  refine cv (jP _ _ l (zA2 hb0s hbs) (by omega)) ?_
  refine rcs G2 (fun h2 h2d _=>?_) (fun h2 h2d G4=>?_)
  ·have hSS:=h2d
   have hb1:=jQ hSS i (by omega)
   have hb2:=jQ hSS (i+1) (by omega)
   have hb3:=dU hSS
   have hb4:=nq hSS (n:=i) (by omega)
   have q3:=k9 (l:=l) (j:=i) (by omega)
   have G3:=jn h2 (jn h2d (jn @bo (jn q3 G2)))
   refine aa G3 ?_
   refine hJ0 _ _ ⟨k0-1,by omega,_,_,_,⟨i+1,by omega,.inl hSS,rfl,rfl⟩,Abs.by0 hbel ?_⟩
   exact aF @sumC.eq_2
  have hSS:=h2d
  have hi0:i=0:=by rcases hor with h|h;rw[h] at hSS;cases hSS;exact h
  have hfinS:sumC l i=prsN l:=by unfold prsN;rw[if_neg (by rw[hSS];decide),hi0];rfl
  exact eS G4 hQ hbel (iV (sumC l i)) results137 ⟨by rw[hfinS],rfl⟩
 have hie:i=l.length:=by omega
 have hfinS:sumC l i=prsN l:=prs_end hie hor
 exact eS G5 hQ hbel (iV (sumC l i)) results137 ⟨by rw[hfinS],rfl⟩
theorem mU (H:ac)(s:AV)(l:List T6)(hs:Sl H 6 s l.length (r6 l))(hS:bk l=true):zC 94 [s] H (.bool (dn l)) H:=by
 obtain⟨bs,os,cs,rfl,hbs,hbls,hb0s⟩:=zA1 hs
 have hl:=dU hS
 refine AcT true func94 ?_;intro hbel Q hQ
 have G6:=jn @hbs @hb0s
 refine aa G6 ?_
 refine glp (fun k F Hx=>∃i:Nat,i+k=l.length/\(∀j:Nat,j<i->gt (g6 l j)=false)/\F=[(0,.sl (some (bs,0)) l.length cs),(3,iV (i:Int))]/\H=Hx) (l.length) ?_ ?_
 ·refine⟨_,_,_,⟨0,by omega,fun j h=>by omega,rfl,rfl⟩,Abs.by0 hbel ?_⟩
  exact ar
 rintro k0 F Hx ⟨i,hm0,hal,rfl,rfl⟩ J0 hJ0
 refine rcs G6 (fun h1 h1d _=>?_) (fun h1 h1d G12=>?_)
 ·have hlt:i<l.length:=by omega
  have hbb:=bB.1 ((bi.1 hS).2 _ (bY hlt))
  have hbc:(-1048576<=g61 l i/\g61 l i<=g63 l i/\g63 l i<=1048576)/\(-1048576<=g62 l i/\g62 l i<=g64 l i/\g64 l i<=1048576):=⟨hbb.1,hbb.2.1⟩
  have q2:=iS (l:=l) (j:=i) (by omega)
  have q3:=g4 (l:=l) (j:=i) (by omega)
  have G7:=jn h1 (jn h1d (jn @bo (jn q2 (jn q3 G6))))
  refine rgs G7 (fun h4 h4d _=>?_) (fun h4 h4d G11=>?_)
  ·have hw1:=h4d
   have q5:=iT (l:=l) (j:=i) (by omega)
   have q6:=iR (l:=l) (j:=i) (by omega)
   have G8:=jn h4 (jn h4d (jn q5 (jn q6 G7)))
   refine rcs G8 (fun h7 h7d G9=>?_) (fun h7 h7d G10=>?_)
   ·have hfinS:dn l=false:=tau_any (List.any_eq_true.2 ⟨g6 l i,bY hlt,by unfold gt;rw[Bool.or_eq_true,decide_eq_true_eq,decide_eq_true_eq];exact .inr h7d⟩)
    exact eS G9 hQ hbel (.bool false) results94 ⟨by rw[hfinS],rfl⟩
   have hw2:gt (g6 l i)=false:=by unfold gt;rw[Bool.or_eq_false_iff,decide_eq_false_iff_not,decide_eq_false_iff_not];exact⟨hw1,h7d⟩
   refine aa G10 ?_
   refine hJ0 _ _ ⟨k0-1,by omega,_,_,_,⟨i+1,by omega,fun j hj=>by
         rcases Nat.lt_or_ge j i with h|h
         ·exact hal j h
         rw[show j=i by omega];exact hw2,rfl,rfl⟩,Abs.by0 hbel ?_⟩
   exact ar
  have hfinS:dn l=false:=tau_any (List.any_eq_true.2 ⟨g6 l i,bY hlt,by unfold gt;rw[Bool.or_eq_true,decide_eq_true_eq,decide_eq_true_eq];exact .inl h4d⟩)
  exact eS G11 hQ hbel (.bool false) results94 ⟨by rw[hfinS],rfl⟩
 obtain rfl:i=l.length:=by omega
 have hfinT:=tau_sum hal hS
 refine aa G12 ?_
 refine cvr G12 (rpairs_c _ _ l (zA2 hb0s hbs) (by omega)) ?_
 exact eQ hQ hbel (.bool (decide ((prsN l)<=32))) results94 ⟨by rw[hfinT],rfl⟩
theorem rh (H:ac)(W Hh:Int)(pp:AV)(xs:List Int)(s:AV)(l:List T6)(q:AV)(sc:List (Int×Int))(g:Int)(hpp:zI H pp xs)(hs:Sl H 6 s l.length (r6 l))(hq:SlP H q sc)(hl:l.length<=1000000000)(hsc:sc.length<=1000000000):zC 135 [.agg [iV W,iV Hh,pp],s,q,iV g] H (.bool (cl W Hh xs l sc g)) H:=by
 obtain⟨bpp,opp,cpp,rfl,hbpp,hblpp,hb0pp⟩:=zA1 hpp
 obtain⟨bs,os,cs,rfl,hbs,hbls,hb0s⟩:=zA1 hs
 obtain⟨bq,oq,cq,rfl,hbq,hblq,hb0q⟩:=zA1 hq
 refine AcT true func135 ?_;intro hbel Q hQ
 have G1:=jn @hbpp (jn @hb0pp (jn @hbs (jn @hb0s (jn @hbq @hb0q))))
 refine aa G1 ?_
 refine cv (iF _ W Hh _ xs (.inr (zA2 hb0pp hbpp))) ?_
 refine rgs G1 (fun h1 h1d G2=>?_) (fun h1 h1d G11=>?_)
 ·refine aa G2 ?_
  refine cv (jP _ _ l (zA2 hb0s hbs) (by omega)) ?_
  refine rgs G2 (fun h2 h2d G3=>?_) (fun h2 h2d G10=>?_)
  ·refine rgs G3 (fun h3 h3d G4=>?_) (fun h3 h3d G9=>?_)
   ·refine aa G4 ?_
    refine cv (ge _ _ sc (zA2 hb0q hbq)) ?_
    refine rgs G4 (fun h4 h4d G5=>?_) (fun h4 h4d G8=>?_)
    ·refine rgs G5 (fun h5 h5d G6=>?_) (fun h5 h5d G7=>?_)
     ·exact eR G6 hQ hbel (.bool (decide (g<=32))) results135 ⟨by (simp[cl,btw,h1d,h2d,h3d,h4d,h5d];omega),rfl⟩
     exact eR G7 hQ hbel (.bool false) results135 ⟨by simp[cl,btw,h1d,h2d,h3d,h4d,h5d],rfl⟩
    exact eR G8 hQ hbel (.bool false) results135 ⟨by simp[cl,btw,h1d,h2d,h3d,h4d],rfl⟩
   exact eR G9 hQ hbel (.bool false) results135 ⟨by (simp[cl,btw,h1d,h2d,h3d];omega),rfl⟩
  exact eR G10 hQ hbel (.bool false) results135 ⟨by simp[cl,btw,h1d,h2d],rfl⟩
 exact eR G11 hQ hbel (.bool false) results135 ⟨by simp[cl,btw,h1d],rfl⟩
theorem rsweptJ_c (H:ac)(l:List T6)(m r g:Int)(i j:Nat):zC 138 [.agg [iV (g61 l i),iV (g62 l i),iV (g63 l i),iV (g64 l i)],.agg [iV (aq (g65 l i+(j:Int)) m).1,iV (aq (g65 l i+(j:Int)) m).2.1,iV (aq (g65 l i+(j:Int)) m).2.2],iV (if 0<r-g then r-g else 0),iV (r+g)] H (.tup [.sl (some (H.length,0)) (spJ (g6 l i) m r g j).length (aS (spJ (g6 l i) m r g j).length),iV (eT (g61 l i) (g62 l i) (g63 l i) (g64 l i) (aq (g65 l i+(j:Int)) m).1 (aq (g65 l i+(j:Int)) m).2.1 (aq (g65 l i+(j:Int)) m).2.2 (if 0<r-g then r-g else 0) (r+g))]) (H++[.cells (aI (spJ (g6 l i) m r g j).length) 2 (prs (spJ (g6 l i) m r g j))]):=re H _ _ _ _ _ _ _ _ _
theorem rx (H:ac)(W Hh:Int)(pp:AV)(xs:List Int)(s:AV)(l:List T6)(m r g:Int)(hpp:zI H pp xs)(hs:Sl H 6 s l.length (r6 l))(hl:l.length<=1000000000):zC 95 [.agg [iV W,iV Hh,pp],s,.agg [iV m,iV r],iV g] H (.tup [.sl (some (H.length,0)) ((ssL W Hh xs l m r g).length) (aS (ssL W Hh xs l m r g).length),iV (ssE W Hh xs l m r g)]) (H++[.cells (aI (ssL W Hh xs l m r g).length) 2 (prs (ssL W Hh xs l m r g))]):=by
 obtain⟨bpp,opp,cpp,rfl,hbpp,hblpp,hb0pp⟩:=zA1 hpp
 obtain⟨bs,os,cs,rfl,hbs,hbls,hb0s⟩:=zA1 hs
 refine AcT false func95 ?_;intro hbel Q hQ
 have G1:=jn @hbpp (jn @hb0pp (jn @hbs @hb0s))
 refine aa G1 ?_
 refine cv (rh _ W _ _ xs _ l _ [(m,r)] g (zA2 hb0pp hbpp) (zA2 hb0s hbs) ⟨_,_,_,by rfl,by (rw[ah];rfl)⟩ (by omega) (by simp)) ?_
 refine rcs G1 (fun h1 h1d G2=>?_) (fun h1 h1d G3=>?_)
 ·have hfinP:=ss_f h1d
  refine aa G2 ?_
  refine hQ _ _ (aM (.inl rfl) hbel (x1:=.tup [.sl none 0 (some 0),iV 1]) (l2:=[.cells false 2 []]) (.tup [.sl (some (H.length,0)) 0 (some 0),iV 1]) (aU results95) [.cells false 2 []] rfl [3] (by decide) ⟨by (rw[hfinP.1,hfinP.2.1];rfl),by (rw[hfinP.2.1];rfl)⟩ ?_)
  exact ar
 have hR:=h1d
 obtain⟨hV,hl0,hS,hsB,hg⟩:=cT.1 hR
 have hbr:=fm.1 ((cw.1 hsB).2 (m,r) (List.mem_singleton.2 rfl))
 have hlb:=dU hS
 have hfinP:=ss_t hR
 refine rgs G3 (fun h2 h2d G4=>?_) (fun h2 h2d G17=>?_)
 ·refine aa G4 ?_
  refine cv (mU _ _ l (zA2 hb0s hbs) (by assumption)) ?_
  refine rcs G4 (fun h3 h3d G5=>?_) (fun h3 h3d G6=>?_)
  ·have hfinN:=kn (l:=l) (m:=m) (r:=r) (g:=g) (.inr h3d)
   refine aa G5 ?_
   refine hQ _ _ (aM (.inl rfl) hbel (x1:=.tup [.sl none 0 (some 0),iV 0]) (l2:=[.cells false 2 []]) (.tup [.sl (some (H.length,0)) 0 (some 0),iV 0]) (aU results95) [.cells false 2 []] rfl [3] (by decide) ⟨by (rw[hfinP.1,hfinP.2.1,hfinN.1];rfl),by (rw[hfinP.2.1,hfinN.1];rfl)⟩ ?_)
   exact ar
  have htau:=h3d
  have hr1:¬r = -1:=by omega
  refine aa G6 ?_
  refine glp (fun k F Hx=>∃i:Nat,i+k=l.length/\F=[(1,.sl (some (bs,0)) l.length cs),(3,iV g),(6,.ptr (some (H.length,0))),(10,.sl (some (H.length+1,0)) ((foP (rsI l m r g i)).length) (aS (foP (rsI l m r g i)).length)),(11,iV (i:Int))]/\Hx=H++[.cells true 0 [iV m,iV r],.cells (aI (foP (rsI l m r g i)).length) 2 (prs (foP (rsI l m r g i)))]) (l.length) ?_ ?_
  ·refine⟨_,_,_,⟨0,by omega,rfl,rfl⟩,Abs.byG hbel [.cells false 2 []] rfl [1,3] (by decide) ?_⟩
   exact al @rsI.eq_1
  rintro k0 F Hx ⟨i,hm0,rfl,rfl⟩ J0 hJ0
  have G7:=jn @ba (jn @cp G6)
  refine rcs G7 (fun h4 h4d _=>?_) (fun h4 h4d G16=>?_)
  ·have hlt:i<l.length:=by omega
   have hml:=gK hS hlt
   have hbb:=bB.1 ((bi.1 hS).2 _ (bY hlt))
   have hbc:(-1048576<=g61 l i/\g61 l i<=g63 l i/\g63 l i<=1048576)/\(-1048576<=g62 l i/\g62 l i<=g64 l i/\g64 l i<=1048576):=⟨hbb.1,hbb.2.1⟩
   have hbd:(0<=g65 l i/\g65 l i<=255)/\(1<=g66 l i/\g66 l i<=256):=by
    have q1:0<=g65 l i/\g65 l i<256:=(bh.1 hbb.2.2).1
    have q2:1<=g66 l i/\g66 l i<=256:=(bh.1 hbb.2.2).2.1
    omega
   have q5:=g4 (l:=l) (j:=i) (by omega)
   have q6:=iR (l:=l) (j:=i) (by omega)
   have q7:=iS (l:=l) (j:=i) (by omega)
   have q8:=iT (l:=l) (j:=i) (by omega)
   have G8:=jn h4 (jn h4d (jn @bo (jn q5 (jn q6 (jn q7 (jn q8 G7))))))
   refine aa G8 ?_
   refine glp (fun k F Hx=>∃j:Nat,j+k=(mkB (g6 l i)).length/\F=[(1,.sl (some (bs,0)) l.length cs),(3,iV g),(6,.ptr (some (H.length,0))),(10,.sl (some (H.length+2,0)) ((foP (rsI l m r g i++rsJ (g6 l i) m r g j)).length) (aS (foP (rsI l m r g i++rsJ (g6 l i) m r g j)).length)),(11,iV (i:Int)),(12,.ptr (some (H.length+1,0))),(13,iV (j:Int))]/\Hx=H++[.cells true 0 [iV m,iV r],.cells true 0 [iV (g61 l i),iV (g62 l i),iV (g63 l i),iV (g64 l i)],.cells (aI (foP (rsI l m r g i++rsJ (g6 l i) m r g j)).length) 2 (prs (foP (rsI l m r g i++rsJ (g6 l i) m r g j)))]) ((mkB (g6 l i)).length) ?_ ?_
   ·refine⟨_,_,_,⟨0,by omega,rfl,rfl⟩,bS hbel [0,2,1] (al (jn @rsJ.eq_1 @List.append_nil.{0}))⟩
   rintro k1 F Hx ⟨j,hm1,rfl,rfl⟩ J1 hJ1
   have q9:=k9 (l:=l) (j:=i) (by omega)
   have G9:=jn q9 G8
   refine rcs G9 (fun h10 h10d _=>?_) (fun h10 h10d G15=>?_)
   ·have hjt:j<(mkB (g6 l i)).length:=by omega
    have hsx:rsI l m r g i++rsJ (g6 l i) m r g (j+1)=rsI l m r g i++(rsJ (g6 l i) m r g j++spJ (g6 l i) m r g j):=by rw[rsJ]
    have hli:=rsI_len hS m r g i (by omega)
    have hlj:=oB (g6 l i) m r g j
    have hls:=spJ_len (g6 l i) m r g j
    have q11:=k8 (l:=l) (j:=i) (by omega)
    have G10:=jn h10 (jn h10d (jn q11 G9))
    refine aa G10 ?_
    refine cdr G10 (iG _ _ m) ?_
    refine cx (rsweptJ_c _ l m r g i j) ?_
    refine aa G10 ?_
    refine glp (fun k F Hx=>∃n:Nat,n+k=(spJ (g6 l i) m r g j).length/\F=[(1,.sl (some (bs,0)) l.length cs),(3,iV g),(6,.ptr (some (H.length,0))),(10,.sl (some (H.length+3,0)) ((foP (rsI l m r g i++(rsJ (g6 l i) m r g j++(spJ (g6 l i) m r g j).take n))).length) (aS (foP (rsI l m r g i++(rsJ (g6 l i) m r g j++(spJ (g6 l i) m r g j).take n))).length)),(11,iV (i:Int)),(12,.ptr (some (H.length+1,0))),(13,iV (j:Int)),(14,.sl (some (H.length+2,0)) ((spJ (g6 l i) m r g j).length) (aS (spJ (g6 l i) m r g j).length)),(16,iV (n:Int))]/\Hx=H++[.cells true 0 [iV m,iV r],.cells true 0 [iV (g61 l i),iV (g62 l i),iV (g63 l i),iV (g64 l i)],.cells (aI (spJ (g6 l i) m r g j).length) 2 (prs (spJ (g6 l i) m r g j)),.cells (aI (foP (rsI l m r g i++(rsJ (g6 l i) m r g j++(spJ (g6 l i) m r g j).take n))).length) 2 (prs (foP (rsI l m r g i++(rsJ (g6 l i) m r g j++(spJ (g6 l i) m r g j).take n))))]) ((spJ (g6 l i) m r g j).length) ?_ ?_
    ·refine⟨_,_,_,⟨0,by omega,rfl,rfl⟩,bS hbel [0,1,3,2] (al (jn @List.take_zero.{0} @List.append_nil.{0}))⟩
    rintro k2 F Hx ⟨n,hm2,rfl,rfl⟩ J2 hJ2
    refine rcs G10 (fun h12 h12d _=>?_) (fun h12 h12d G14=>?_)
    ·have hnt:n<(spJ (g6 l i) m r g j).length:=by omega
     have hst:foP (rsI l m r g i++(rsJ (g6 l i) m r g j++(spJ (g6 l i) m r g j).take (n+1)))=c6 (g1 (spJ (g6 l i) m r g j) n,g2 (spJ (g6 l i) m r g j) n) (foP (rsI l m r g i++(rsJ (g6 l i) m r g j++(spJ (g6 l i) m r g j).take n))):=by rw[List.take_succ_eq_append_getElem hnt,<-List.append_assoc,<-List.append_assoc,foP_s,List.append_assoc,bC hnt]
     have hfl:=foP_len (rsI l m r g i++(rsJ (g6 l i) m r g j++(spJ (g6 l i) m r g j).take n))
     rw[List.length_append,List.length_append,List.length_take] at hfl
     have q13:=bN (l:=spJ (g6 l i) m r g j) (j:=n) (by omega)
     have G11:=jn h12 (jn h12d (jn q13 G10))
     refine aa G11 ?_
     rcases Bool.eq_false_or_eq_true (inL (foP (rsI l m r g i++(rsJ (g6 l i) m r g j++(spJ (g6 l i) m r g j).take n))) (g1 (spJ (g6 l i) m r g j) n) (g2 (spJ (g6 l i) m r g j) n)) with h14|h14
     ·have h14d:=h14
      rw[putK_same (nF _) (of_decide_eq_true h14d)] at hst
      have hso:=hnt
      have hsc:=hnt
      refine cv (putT_c _ _ (foP (rsI l m r g i++(rsJ (g6 l i) m r g j++(spJ (g6 l i) m r g j).take n))) _ _ ⟨_,_,_,by rfl,by (rw[ah];rfl)⟩ (by omega) (nF _) (of_decide_eq_true (by assumption))) ?_
      have G12:=j2 h14 h14d G11
      refine aa G12 ?_
      refine hJ2 _ _ ⟨k2-1,by omega,_,_,_,⟨n+1,by omega,rfl,rfl⟩,bS hbel [0,1,2,3] (al (jn @hst (jn @hso @hsc)))⟩
     have h14d:=h14
     have hso:aI (c6 (g1 (spJ (g6 l i) m r g j) n,g2 (spJ (g6 l i) m r g j) n) (foP (rsI l m r g i++(rsJ (g6 l i) m r g j++(spJ (g6 l i) m r g j).take n)))).length=true:=dD qZ
     have hsc:aS (c6 (g1 (spJ (g6 l i) m r g j) n,g2 (spJ (g6 l i) m r g j) n) (foP (rsI l m r g i++(rsJ (g6 l i) m r g j++(spJ (g6 l i) m r g j).take n)))).length=none:=iQ qZ
     refine cv (putF_c _ _ (foP (rsI l m r g i++(rsJ (g6 l i) m r g j++(spJ (g6 l i) m r g j).take n))) _ _ ⟨_,_,_,by rfl,by (rw[ah];rfl)⟩ (by omega) (of_decide_eq_false (by assumption))) ?_
     have G13:=j2 h14 h14d G11
     refine aa G13 ?_
     refine hJ2 _ _ ⟨k2-1,by omega,_,_,_,⟨n+1,by omega,rfl,rfl⟩,bS hbel [0,1,2,4] (al (jn @hst (jn @hso @hsc)))⟩
    obtain rfl:n=(spJ (g6 l i) m r g j).length:=by omega
    have htl:(spJ (g6 l i) m r g j).take (spJ (g6 l i) m r g j).length=spJ (g6 l i) m r g j:=List.take_length
    refine aa G14 ?_
    refine hJ1 _ _ ⟨k1-1,by omega,_,_,_,⟨j+1,by omega,rfl,rfl⟩,bS hbel [0,1,3] (al (jn @hsx @htl))⟩
   obtain rfl:j=(mkB (g6 l i)).length:=by omega
   refine aa G15 ?_
   refine hJ0 _ _ ⟨k0-1,by omega,_,_,_,⟨i+1,by omega,rfl,rfl⟩,bS hbel [0,2] (al @rsI.eq_2)⟩
  obtain rfl:i=l.length:=by omega
  have hfinS:foP (rsI l m r g l.length)=bJ l m r g:=sus_fo hr1 htau
  refine aa G16 ?_
  refine hQ _ _ (aM (.inl rfl) hbel (x1:=.tup [.sl (some (H.length+1,0)) ((foP (rsI l m r g l.length)).length) (aS (foP (rsI l m r g l.length)).length),iV 0]) (l2:=[.cells (aI (foP (rsI l m r g l.length)).length) 2 (prs (foP (rsI l m r g l.length)))]) (.tup [.sl (some (H.length,0)) ((foP (rsI l m r g l.length)).length) (aS (foP (rsI l m r g l.length)).length),iV 0]) (aU results95) [] rfl [1] (by decide) ⟨by rw[hfinP.1,hfinP.2.1,<-hfinS],by rw[hfinP.2.1,<-hfinS]⟩ ?_)
  exact ar
 have hfinN:=kn (l:=l) (m:=m) (g:=g) (.inl (show r = -1 by omega))
 refine aa G17 ?_
 refine hQ _ _ (aM (.inl rfl) hbel (x1:=.tup [.sl none 0 (some 0),iV 0]) (l2:=[.cells false 2 []]) (.tup [.sl (some (H.length,0)) 0 (some 0),iV 0]) (aU results95) [.cells false 2 []] rfl [3] (by decide) ⟨by (rw[hfinP.1,hfinP.2.1,hfinN.1];rfl),by (rw[hfinP.2.1,hfinN.1];rfl)⟩ ?_)
 exact ar
theorem proves_c (H:ac)(s:AV)(l:List T6)(m r g c1 c2:Int)(hs:Sl H 6 s l.length (r6 l))(hS:bk l=true)(hm:0<=m/\m<=255)(hr : -1<=r/\r<=1024)(hg:1<=g/\g<=32)(hc1:0<=c1/\c1<=63)(hc2:0<=c2/\c2<=63):zC 136 [s,.agg [iV m,iV r],iV g,.agg [iV c1,iV c2]] H (.bool (fq l g (m,r) (c1,c2))) H:=by
 obtain⟨bs,os,cs,rfl,hbs,hbls,hb0s⟩:=zA1 hs
 have hl:=dU hS
 refine AcL true func136 ?_;intro hbel Q hQ
 have G1:=jn @hbs @hb0s
 refine rcs G1 (fun h1 h1d G2=>?_) (fun h1 h1d G25=>?_)
 ·have hff:aB r g=1024-g:=if_pos (by omega)
  refine aa G2 ?_
  refine go_loopA (fun k F Hx=>∃i:Nat,i+k=l.length/\(∀e∈dirS l m i,psC e (aB r g) (c1,c2)=true)/\F=[(0,.sl (some (bs,0)) l.length cs),(5,.ptr (some (H.length,0))),(7,.ptr (some (H.length+1,0))),(9,iV (1024-g)),(10,iV (i:Int))]/\Hx=H++[.cells true 0 [iV m,iV r],.cells true 0 [iV c1,iV c2]]) (l.length) ?_ ?_
  ·refine⟨_,_,_,⟨0,by omega,(fun e he=>(by cases he)),rfl,rfl⟩,bS hbel [0,1] ar⟩
  rintro k0 F Hx ⟨i,hm0,hA,rfl,rfl⟩ Q1 hJ0 hr1 he1
  have hQ1:=fun F H' h=>hr1 F H' (hQ F H' h)
  refine zQT hQ1 fun Q2 hn2 hQ2 he2=>?_
  refine rcs G2 (fun h2 h2d G3=>?_) (fun h2 h2d G24=>?_)
  ·have hlt:i<l.length:=by omega
   have hml:=gK hS hlt
   have hbb:=bB.1 ((bi.1 hS).2 _ (bY hlt))
   have hbd:(0<=g65 l i/\g65 l i<=255)/\(1<=g66 l i/\g66 l i<=256):=by
    have q1:0<=g65 l i/\g65 l i<256:=(bh.1 hbb.2.2).1
    have q2:1<=g66 l i/\g66 l i<=256:=(bh.1 hbb.2.2).2.1
    omega
   refine aa G3 ?_
   refine hn2 _ _ (sqR hQ1 fun Q3 hn3 hQ3 he3=>?_)
   refine bkR hQ3 fun Q4 hn4 hQ4 he4 hb4=>?_
   refine zQT hQ4 fun Q5 hn5 hQ5 he5=>?_
   have q3:=g4 (l:=l) (j:=i) (by omega)
   have q4:=iS (l:=l) (j:=i) (by omega)
   have q5:=g4 (l:=l) (j:=i) (by omega)
   have q6:=iS (l:=l) (j:=i) (by omega)
   have G4:=jn @bo (jn q3 (jn q4 (jn q5 (jn q6 G3))))
   refine aa G4 ?_
   refine hn5 _ _ (zQT hQ4 fun Q6 hn6 hQ6 he6=>?_)
   have q7:=iR (l:=l) (j:=i) (by omega)
   have q8:=iR (l:=l) (j:=i) (by omega)
   have q9:=iT (l:=l) (j:=i) (by omega)
   have q10:=iT (l:=l) (j:=i) (by omega)
   have G5:=jn q7 (jn q8 (jn q9 (jn q10 G4)))
   refine aa G5 ?_
   refine hn6 _ _ (zQT hQ4 fun Q7 hn7 hQ7 he7=>?_)
   refine aa G5 ?_
   refine hn7 _ _ ?_
   refine bkR hQ4 fun Q8 hn8 hQ8 he8 hb8=>?_
   refine cW (fun k F Hx=>∃j:Nat,j+k=(mkB (g6 l i)).length/\(∀e∈dirB (g6 l i) m j,psC e (aB r g) (c1,c2)=true)/\F=[(0,.sl (some (bs,0)) l.length cs),(5,.ptr (some (H.length,0))),(7,.ptr (some (H.length+1,0))),(9,iV (1024-g)),(10,iV (i:Int)),(11,.sl (some (H.length+2,0)) 4 (some 4)),(12,.sl (some (H.length+3,0)) 4 (some 4)),(13,iV (j:Int))]/\Hx=H++[.cells true 0 [iV m,iV r],.cells true 0 [iV c1,iV c2],.cells true 1 [iV (g61 l i),iV (g63 l i),iV (g61 l i),iV (g63 l i)],.cells true 1 [iV (g62 l i),iV (g62 l i),iV (g64 l i),iV (g64 l i)]]) ((mkB (g6 l i)).length) ?_ ?_
   ·refine⟨_,_,_,⟨0,by omega,(fun e he=>(by cases he)),rfl,rfl⟩,bS hbel [0,1,2,3] ar⟩
   rintro k1 F Hx ⟨j,hm1,hB,rfl,rfl⟩ Q9 hJ1 hr9 he9
   have hQ9:=fun F H' h=>hr9 F H' (hQ8 F H' h)
   refine zQT hQ9 fun Q10 hn10 hQ10 he10=>?_
   have q11:=k9 (l:=l) (j:=i) (by omega)
   have G6:=jn q11 G5
   refine rcs G6 (fun h12 h12d G7=>?_) (fun h12 h12d G23=>?_)
   ·have hjt:j<(mkB (g6 l i)).length:=by omega
    refine aa G7 ?_
    refine hn10 _ _ (sqR hQ9 fun Q11 hn11 hQ11 he11=>?_)
    refine bkR hQ11 fun Q12 hn12 hQ12 he12 hb12=>?_
    refine aL true try_mixed [[0,1,2,3,4,5,6,7,8,9,10,11],[0,1,2,3,4,5,6,7,8,10,9,11]] (by kernel_rfl) (fun F2 H2=>F2=[(0,.sl (some (bs,0)) l.length cs),(5,.ptr (some (H.length,0))),(7,.ptr (some (H.length+1,0))),(9,iV (1024-g)),(10,iV (i:Int)),(11,.sl (some (H.length+2,0)) 4 (some 4)),(12,.sl (some (H.length+3,0)) 4 (some 4)),(13,iV (j:Int)),(14,.ptr (some (H.length+4,0)))]/\H2=H++[.cells true 0 [iV m,iV r],.cells true 0 [iV c1,iV c2],.cells true 1 [iV (g61 l i),iV (g63 l i),iV (g61 l i),iV (g63 l i)],.cells true 1 [iV (g62 l i),iV (g62 l i),iV (g64 l i),iV (g64 l i)],.cells true 0 [iV ((aq ((g65 l i)+(j:Int)) m).1),iV ((aq ((g65 l i)+(j:Int)) m).2.1),iV ((aq ((g65 l i)+(j:Int)) m).2.2)]]) ?_ ?_
    ·refine af ?_ (af ?_ (aQ))<;>intro J hJ
     ·have q13:=k8 (l:=l) (j:=i) (by omega)
      have G8:=jn q13 G7
      refine ag G8 ?_
      refine cd (iG _ _ m) ?_
      refine ag G8 ?_
      refine ai (hJ _ _ ⟨_,_,_,⟨rfl,rfl⟩,bS hbel [0,1,2,3,4] ar⟩)
     have q14:=k8 (l:=l) (j:=i) (by omega)
     have G9:=jn q14 G7
     refine ag G9 ?_
     refine cd (iG _ _ m) ?_
     refine ag G9 ?_
     refine ai (hJ _ _ ⟨_,_,_,⟨rfl,rfl⟩,bS hbel [0,1,2,3,4] ar⟩)
    rintro F2 H2 ⟨rfl,rfl⟩
    refine fnT ?_
    refine aa G7 ?_
    refine glp (fun k F Hx=>∃q:Nat,q+k=4/\(∀n:Nat,n<q->crP (g6 l i) (aq (g65 l i+(j:Int)) m) (aB r g) c1 c2 n=true)/\F=[(0,.sl (some (bs,0)) l.length cs),(5,.ptr (some (H.length,0))),(7,.ptr (some (H.length+1,0))),(9,iV (1024-g)),(10,iV (i:Int)),(11,.sl (some (H.length+2,0)) 4 (some 4)),(12,.sl (some (H.length+3,0)) 4 (some 4)),(13,iV (j:Int)),(14,.ptr (some (H.length+4,0))),(15,iV (q:Int))]/\Hx=H++[.cells true 0 [iV m,iV r],.cells true 0 [iV c1,iV c2],.cells true 1 [iV (g61 l i),iV (g63 l i),iV (g61 l i),iV (g63 l i)],.cells true 1 [iV (g62 l i),iV (g62 l i),iV (g64 l i),iV (g64 l i)],.cells true 0 [iV ((aq ((g65 l i)+(j:Int)) m).1),iV ((aq ((g65 l i)+(j:Int)) m).2.1),iV ((aq ((g65 l i)+(j:Int)) m).2.2)]]) (4) ?_ ?_
    ·refine⟨_,_,_,⟨0,by omega,fun n hn=>by omega,rfl,rfl⟩,bS hbel [0,1,2,3,4] ar⟩
    rintro k2 F Hx ⟨q,hm2,hC,rfl,rfl⟩ J2 hJ2
    refine rcs G7 (fun h15 h15d _=>?_) (fun h15 h15d G22=>?_)
    ·obtain rfl|rfl|rfl|rfl:=(by omega:q=0\/q=1\/q=2\/q=3)
     ·have G10:=j2 h15 h15d G7
      refine aa G10 ?_
      refine cdr G10 (cM _ _ _ (by omega) (by omega)) ?_
      refine cd (dA _ _ _ _ _ _ _ _ _ _ _) ?_
      refine rcs G10 (fun h16 h16d G11=>?_) (fun h16 h16d G12=>?_)
      ·have hfinP:fq l g (m,r) (c1,c2)=false:=hI hlt hjt (n:=0) (by decide) (by rw[hff];exact h16d)
       exact eR G11 hQ12 hbel (.bool false) results136 ⟨by rw[hfinP],rfl⟩
      have hcn:crP (g6 l i) (aq (g65 l i+(j:Int)) m) (aB r g) c1 c2 0=true:=by rw[hff];exact h16d
      refine aa G12 ?_
      refine hJ2 _ _ ⟨k2-1,by omega,_,_,_,⟨0+1,by omega,fun n hn=>by
            rcases Nat.lt_or_ge n 0 with h|h
            ·exact hC n h
            rw[show n=0 by omega];exact hcn,rfl,rfl⟩,bS hbel [0,1,2,3,4] ar⟩
     ·have G13:=j2 h15 h15d G7
      refine aa G13 ?_
      refine cdr G13 (cM _ _ _ (by omega) (by omega)) ?_
      refine cd (dA _ _ _ _ _ _ _ _ _ _ _) ?_
      refine rcs G13 (fun h17 h17d G14=>?_) (fun h17 h17d G15=>?_)
      ·have hfinP:fq l g (m,r) (c1,c2)=false:=hI hlt hjt (n:=1) (by decide) (by rw[hff];exact h17d)
       exact eR G14 hQ12 hbel (.bool false) results136 ⟨by rw[hfinP],rfl⟩
      have hcn:crP (g6 l i) (aq (g65 l i+(j:Int)) m) (aB r g) c1 c2 1=true:=by rw[hff];exact h17d
      refine aa G15 ?_
      refine hJ2 _ _ ⟨k2-1,by omega,_,_,_,⟨1+1,by omega,fun n hn=>by
            rcases Nat.lt_or_ge n 1 with h|h
            ·exact hC n h
            rw[show n=1 by omega];exact hcn,rfl,rfl⟩,bS hbel [0,1,2,3,4] ar⟩
     ·have G16:=j2 h15 h15d G7
      refine aa G16 ?_
      refine cdr G16 (cM _ _ _ (by omega) (by omega)) ?_
      refine cd (dA _ _ _ _ _ _ _ _ _ _ _) ?_
      refine rcs G16 (fun h18 h18d G17=>?_) (fun h18 h18d G18=>?_)
      ·have hfinP:fq l g (m,r) (c1,c2)=false:=hI hlt hjt (n:=2) (by decide) (by rw[hff];exact h18d)
       exact eR G17 hQ12 hbel (.bool false) results136 ⟨by rw[hfinP],rfl⟩
      have hcn:crP (g6 l i) (aq (g65 l i+(j:Int)) m) (aB r g) c1 c2 2=true:=by rw[hff];exact h18d
      refine aa G18 ?_
      refine hJ2 _ _ ⟨k2-1,by omega,_,_,_,⟨2+1,by omega,fun n hn=>by
            rcases Nat.lt_or_ge n 2 with h|h
            ·exact hC n h
            rw[show n=2 by omega];exact hcn,rfl,rfl⟩,bS hbel [0,1,2,3,4] ar⟩
     have G19:=j2 h15 h15d G7
     refine aa G19 ?_
     refine cdr G19 (cM _ _ _ (by omega) (by omega)) ?_
     refine cd (dA _ _ _ _ _ _ _ _ _ _ _) ?_
     refine rcs G19 (fun h19 h19d G20=>?_) (fun h19 h19d G21=>?_)
     ·have hfinP:fq l g (m,r) (c1,c2)=false:=hI hlt hjt (n:=3) (by decide) (by rw[hff];exact h19d)
      exact eR G20 hQ12 hbel (.bool false) results136 ⟨by rw[hfinP],rfl⟩
     have hcn:crP (g6 l i) (aq (g65 l i+(j:Int)) m) (aB r g) c1 c2 3=true:=by rw[hff];exact h19d
     refine aa G21 ?_
     refine hJ2 _ _ ⟨k2-1,by omega,_,_,_,⟨3+1,by omega,fun n hn=>by
           rcases Nat.lt_or_ge n 3 with h|h
           ·exact hC n h
           rw[show n=3 by omega];exact hcn,rfl,rfl⟩,bS hbel [0,1,2,3,4] ar⟩
    obtain rfl:q=4:=by omega
    refine aa G22 ?_
    refine hn12 _ _ ?_
    refine hn11 _ _ ?_
    refine fnT ?_
    refine aa G22 ?_
    refine hJ1 _ _ ⟨k1-1,by omega,_,_,_,⟨j+1,by omega,nD hjt hB hC,rfl,rfl⟩,bS hbel [0,1,2,3] ar⟩
   obtain rfl:j=(mkB (g6 l i)).length:=by omega
   refine aa G23 ?_
   refine he10 _ _ _ ?_
   refine he9 _ _ _ ?_
   refine hb8 _ _ ?_
   refine hn4 _ _ ?_
   refine hn3 _ _ ?_
   refine fnT ?_
   refine aa G23 ?_
   refine hJ0 _ _ ⟨k0-1,by omega,_,_,_,⟨i+1,by omega,nE hA hB,rfl,rfl⟩,bS hbel [0,1] ar⟩
  obtain rfl:i=l.length:=by omega
  have hfinP:fq l g (m,r) (c1,c2)=true:=prv_yes hA
  refine aa G24 ?_
  refine he2 _ _ _ ?_
  refine he1 _ _ _ ?_
  exact eR G24 hQ hbel (.bool true) results136 ⟨by rw[hfinP],rfl⟩
 have hff:aB r g=r-g:=if_neg (by omega)
 refine aa G25 ?_
 refine go_loopA (fun k F Hx=>∃i:Nat,i+k=l.length/\(∀e∈dirS l m i,psC e (aB r g) (c1,c2)=true)/\F=[(0,.sl (some (bs,0)) l.length cs),(5,.ptr (some (H.length,0))),(7,.ptr (some (H.length+1,0))),(9,iV (r-g)),(10,iV (i:Int))]/\Hx=H++[.cells true 0 [iV m,iV r],.cells true 0 [iV c1,iV c2]]) (l.length) ?_ ?_
 ·refine⟨_,_,_,⟨0,by omega,(fun e he=>(by cases he)),rfl,rfl⟩,bS hbel [0,1] ar⟩
 rintro k0 F Hx ⟨i,hm0,hA,rfl,rfl⟩ Q13 hJ0 hr13 he13
 have hQ13:=fun F H' h=>hr13 F H' (hQ F H' h)
 refine zQT hQ13 fun Q14 hn14 hQ14 he14=>?_
 refine rcs G25 (fun h20 h20d G26=>?_) (fun h20 h20d G47=>?_)
 ·have hlt:i<l.length:=by omega
  have hml:=gK hS hlt
  have hbb:=bB.1 ((bi.1 hS).2 _ (bY hlt))
  have hbd:(0<=g65 l i/\g65 l i<=255)/\(1<=g66 l i/\g66 l i<=256):=by
   have q1:0<=g65 l i/\g65 l i<256:=(bh.1 hbb.2.2).1
   have q2:1<=g66 l i/\g66 l i<=256:=(bh.1 hbb.2.2).2.1
   omega
  refine aa G26 ?_
  refine hn14 _ _ (sqR hQ13 fun Q15 hn15 hQ15 he15=>?_)
  refine bkR hQ15 fun Q16 hn16 hQ16 he16 hb16=>?_
  refine zQT hQ16 fun Q17 hn17 hQ17 he17=>?_
  have q21:=g4 (l:=l) (j:=i) (by omega)
  have q22:=iS (l:=l) (j:=i) (by omega)
  have q23:=g4 (l:=l) (j:=i) (by omega)
  have q24:=iS (l:=l) (j:=i) (by omega)
  have G27:=jn @bo (jn q21 (jn q22 (jn q23 (jn q24 G26))))
  refine aa G27 ?_
  refine hn17 _ _ (zQT hQ16 fun Q18 hn18 hQ18 he18=>?_)
  have q25:=iR (l:=l) (j:=i) (by omega)
  have q26:=iR (l:=l) (j:=i) (by omega)
  have q27:=iT (l:=l) (j:=i) (by omega)
  have q28:=iT (l:=l) (j:=i) (by omega)
  have G28:=jn q25 (jn q26 (jn q27 (jn q28 G27)))
  refine aa G28 ?_
  refine hn18 _ _ (zQT hQ16 fun Q19 hn19 hQ19 he19=>?_)
  refine aa G28 ?_
  refine hn19 _ _ ?_
  refine bkR hQ16 fun Q20 hn20 hQ20 he20 hb20=>?_
  refine cW (fun k F Hx=>∃j:Nat,j+k=(mkB (g6 l i)).length/\(∀e∈dirB (g6 l i) m j,psC e (aB r g) (c1,c2)=true)/\F=[(0,.sl (some (bs,0)) l.length cs),(5,.ptr (some (H.length,0))),(7,.ptr (some (H.length+1,0))),(9,iV (r-g)),(10,iV (i:Int)),(11,.sl (some (H.length+2,0)) 4 (some 4)),(12,.sl (some (H.length+3,0)) 4 (some 4)),(13,iV (j:Int))]/\Hx=H++[.cells true 0 [iV m,iV r],.cells true 0 [iV c1,iV c2],.cells true 1 [iV (g61 l i),iV (g63 l i),iV (g61 l i),iV (g63 l i)],.cells true 1 [iV (g62 l i),iV (g62 l i),iV (g64 l i),iV (g64 l i)]]) ((mkB (g6 l i)).length) ?_ ?_
  ·refine⟨_,_,_,⟨0,by omega,(fun e he=>(by cases he)),rfl,rfl⟩,bS hbel [0,1,2,3] ar⟩
  rintro k1 F Hx ⟨j,hm1,hB,rfl,rfl⟩ Q21 hJ1 hr21 he21
  have hQ21:=fun F H' h=>hr21 F H' (hQ20 F H' h)
  refine zQT hQ21 fun Q22 hn22 hQ22 he22=>?_
  have q29:=k9 (l:=l) (j:=i) (by omega)
  have G29:=jn q29 G28
  refine rcs G29 (fun h30 h30d G30=>?_) (fun h30 h30d G46=>?_)
  ·have hjt:j<(mkB (g6 l i)).length:=by omega
   refine aa G30 ?_
   refine hn22 _ _ (sqR hQ21 fun Q23 hn23 hQ23 he23=>?_)
   refine bkR hQ23 fun Q24 hn24 hQ24 he24 hb24=>?_
   refine aL true try_mixed [[0,1,2,3,4,5,6,7,8,9,10,11],[0,1,2,3,4,5,6,7,8,10,9,11]] (by kernel_rfl) (fun F2 H2=>F2=[(0,.sl (some (bs,0)) l.length cs),(5,.ptr (some (H.length,0))),(7,.ptr (some (H.length+1,0))),(9,iV (r-g)),(10,iV (i:Int)),(11,.sl (some (H.length+2,0)) 4 (some 4)),(12,.sl (some (H.length+3,0)) 4 (some 4)),(13,iV (j:Int)),(14,.ptr (some (H.length+4,0)))]/\H2=H++[.cells true 0 [iV m,iV r],.cells true 0 [iV c1,iV c2],.cells true 1 [iV (g61 l i),iV (g63 l i),iV (g61 l i),iV (g63 l i)],.cells true 1 [iV (g62 l i),iV (g62 l i),iV (g64 l i),iV (g64 l i)],.cells true 0 [iV ((aq ((g65 l i)+(j:Int)) m).1),iV ((aq ((g65 l i)+(j:Int)) m).2.1),iV ((aq ((g65 l i)+(j:Int)) m).2.2)]]) ?_ ?_
   ·refine af ?_ (af ?_ (aQ))<;>intro J hJ
    ·have q31:=k8 (l:=l) (j:=i) (by omega)
     have G31:=jn q31 G30
     refine ag G31 ?_
     refine cd (iG _ _ m) ?_
     refine ag G31 ?_
     refine ai (hJ _ _ ⟨_,_,_,⟨rfl,rfl⟩,bS hbel [0,1,2,3,4] ar⟩)
    have q32:=k8 (l:=l) (j:=i) (by omega)
    have G32:=jn q32 G30
    refine ag G32 ?_
    refine cd (iG _ _ m) ?_
    refine ag G32 ?_
    refine ai (hJ _ _ ⟨_,_,_,⟨rfl,rfl⟩,bS hbel [0,1,2,3,4] ar⟩)
   rintro F2 H2 ⟨rfl,rfl⟩
   refine fnT ?_
   refine aa G30 ?_
   refine glp (fun k F Hx=>∃q:Nat,q+k=4/\(∀n:Nat,n<q->crP (g6 l i) (aq (g65 l i+(j:Int)) m) (aB r g) c1 c2 n=true)/\F=[(0,.sl (some (bs,0)) l.length cs),(5,.ptr (some (H.length,0))),(7,.ptr (some (H.length+1,0))),(9,iV (r-g)),(10,iV (i:Int)),(11,.sl (some (H.length+2,0)) 4 (some 4)),(12,.sl (some (H.length+3,0)) 4 (some 4)),(13,iV (j:Int)),(14,.ptr (some (H.length+4,0))),(15,iV (q:Int))]/\Hx=H++[.cells true 0 [iV m,iV r],.cells true 0 [iV c1,iV c2],.cells true 1 [iV (g61 l i),iV (g63 l i),iV (g61 l i),iV (g63 l i)],.cells true 1 [iV (g62 l i),iV (g62 l i),iV (g64 l i),iV (g64 l i)],.cells true 0 [iV ((aq ((g65 l i)+(j:Int)) m).1),iV ((aq ((g65 l i)+(j:Int)) m).2.1),iV ((aq ((g65 l i)+(j:Int)) m).2.2)]]) (4) ?_ ?_
   ·refine⟨_,_,_,⟨0,by omega,fun n hn=>by omega,rfl,rfl⟩,bS hbel [0,1,2,3,4] ar⟩
   rintro k2 F Hx ⟨q,hm2,hC,rfl,rfl⟩ J2 hJ2
   refine rcs G30 (fun h33 h33d _=>?_) (fun h33 h33d G45=>?_)
   ·obtain rfl|rfl|rfl|rfl:=(by omega:q=0\/q=1\/q=2\/q=3)
    ·have G33:=j2 h33 h33d G30
     refine aa G33 ?_
     refine cdr G33 (cM _ _ _ (by omega) (by omega)) ?_
     refine cd (dA _ _ _ _ _ _ _ _ _ _ _) ?_
     refine rcs G33 (fun h34 h34d G34=>?_) (fun h34 h34d G35=>?_)
     ·have hfinP:fq l g (m,r) (c1,c2)=false:=hI hlt hjt (n:=0) (by decide) (by rw[hff];exact h34d)
      exact eR G34 hQ24 hbel (.bool false) results136 ⟨by rw[hfinP],rfl⟩
     have hcn:crP (g6 l i) (aq (g65 l i+(j:Int)) m) (aB r g) c1 c2 0=true:=by rw[hff];exact h34d
     refine aa G35 ?_
     refine hJ2 _ _ ⟨k2-1,by omega,_,_,_,⟨0+1,by omega,fun n hn=>by
           rcases Nat.lt_or_ge n 0 with h|h
           ·exact hC n h
           rw[show n=0 by omega];exact hcn,rfl,rfl⟩,bS hbel [0,1,2,3,4] ar⟩
    ·have G36:=j2 h33 h33d G30
     refine aa G36 ?_
     refine cdr G36 (cM _ _ _ (by omega) (by omega)) ?_
     refine cd (dA _ _ _ _ _ _ _ _ _ _ _) ?_
     refine rcs G36 (fun h35 h35d G37=>?_) (fun h35 h35d G38=>?_)
     ·have hfinP:fq l g (m,r) (c1,c2)=false:=hI hlt hjt (n:=1) (by decide) (by rw[hff];exact h35d)
      exact eR G37 hQ24 hbel (.bool false) results136 ⟨by rw[hfinP],rfl⟩
     have hcn:crP (g6 l i) (aq (g65 l i+(j:Int)) m) (aB r g) c1 c2 1=true:=by rw[hff];exact h35d
     refine aa G38 ?_
     refine hJ2 _ _ ⟨k2-1,by omega,_,_,_,⟨1+1,by omega,fun n hn=>by
           rcases Nat.lt_or_ge n 1 with h|h
           ·exact hC n h
           rw[show n=1 by omega];exact hcn,rfl,rfl⟩,bS hbel [0,1,2,3,4] ar⟩
    ·have G39:=j2 h33 h33d G30
     refine aa G39 ?_
     refine cdr G39 (cM _ _ _ (by omega) (by omega)) ?_
     refine cd (dA _ _ _ _ _ _ _ _ _ _ _) ?_
     refine rcs G39 (fun h36 h36d G40=>?_) (fun h36 h36d G41=>?_)
     ·have hfinP:fq l g (m,r) (c1,c2)=false:=hI hlt hjt (n:=2) (by decide) (by rw[hff];exact h36d)
      exact eR G40 hQ24 hbel (.bool false) results136 ⟨by rw[hfinP],rfl⟩
     have hcn:crP (g6 l i) (aq (g65 l i+(j:Int)) m) (aB r g) c1 c2 2=true:=by rw[hff];exact h36d
     refine aa G41 ?_
     refine hJ2 _ _ ⟨k2-1,by omega,_,_,_,⟨2+1,by omega,fun n hn=>by
           rcases Nat.lt_or_ge n 2 with h|h
           ·exact hC n h
           rw[show n=2 by omega];exact hcn,rfl,rfl⟩,bS hbel [0,1,2,3,4] ar⟩
    have G42:=j2 h33 h33d G30
    refine aa G42 ?_
    refine cdr G42 (cM _ _ _ (by omega) (by omega)) ?_
    refine cd (dA _ _ _ _ _ _ _ _ _ _ _) ?_
    refine rcs G42 (fun h37 h37d G43=>?_) (fun h37 h37d G44=>?_)
    ·have hfinP:fq l g (m,r) (c1,c2)=false:=hI hlt hjt (n:=3) (by decide) (by rw[hff];exact h37d)
     exact eR G43 hQ24 hbel (.bool false) results136 ⟨by rw[hfinP],rfl⟩
    have hcn:crP (g6 l i) (aq (g65 l i+(j:Int)) m) (aB r g) c1 c2 3=true:=by rw[hff];exact h37d
    refine aa G44 ?_
    refine hJ2 _ _ ⟨k2-1,by omega,_,_,_,⟨3+1,by omega,fun n hn=>by
          rcases Nat.lt_or_ge n 3 with h|h
          ·exact hC n h
          rw[show n=3 by omega];exact hcn,rfl,rfl⟩,bS hbel [0,1,2,3,4] ar⟩
   obtain rfl:q=4:=by omega
   refine aa G45 ?_
   refine hn24 _ _ ?_
   refine hn23 _ _ ?_
   refine fnT ?_
   refine aa G45 ?_
   refine hJ1 _ _ ⟨k1-1,by omega,_,_,_,⟨j+1,by omega,nD hjt hB hC,rfl,rfl⟩,bS hbel [0,1,2,3] ar⟩
  obtain rfl:j=(mkB (g6 l i)).length:=by omega
  refine aa G46 ?_
  refine he22 _ _ _ ?_
  refine he21 _ _ _ ?_
  refine hb20 _ _ ?_
  refine hn16 _ _ ?_
  refine hn15 _ _ ?_
  refine fnT ?_
  refine aa G46 ?_
  refine hJ0 _ _ ⟨k0-1,by omega,_,_,_,⟨i+1,by omega,nE hA hB,rfl,rfl⟩,bS hbel [0,1] ar⟩
 obtain rfl:i=l.length:=by omega
 have hfinP:fq l g (m,r) (c1,c2)=true:=prv_yes hA
 refine aa G47 ?_
 refine he14 _ _ _ ?_
 refine he13 _ _ _ ?_
 exact eR G47 hQ hbel (.bool true) results136 ⟨by rw[hfinP],rfl⟩
theorem rProven_c (H:ac)(W Hh:Int)(pp:AV)(xs:List Int)(s:AV)(l:List T6)(q:AV)(sc:List (Int×Int))(g:Int)(hpp:zI H pp xs)(hs:Sl H 6 s l.length (r6 l))(hq:SlP H q sc)(hl:l.length<=1000000000)(hsc:sc.length<=1000000000):zC 92 [.agg [iV W,iV Hh,pp],s,q,iV g] H (.tup [.sl (some (H.length,0)) ((pvL W Hh xs l sc g).length) (aS (pvL W Hh xs l sc g).length),iV (pvE W Hh xs l sc g)]) (H++[.cells (aI (pvL W Hh xs l sc g).length) 2 (prs (pvL W Hh xs l sc g))]):=by
 obtain⟨bpp,opp,cpp,rfl,hbpp,hblpp,hb0pp⟩:=zA1 hpp
 obtain⟨bs,os,cs,rfl,hbs,hbls,hb0s⟩:=zA1 hs
 obtain⟨bq,oq,cq,rfl,hbq,hblq,hb0q⟩:=zA1 hq
 refine AcT false func92 ?_;intro hbel Q hQ
 have G1:=jn @hbpp (jn @hb0pp (jn @hbs (jn @hb0s (jn @hbq @hb0q))))
 refine aa G1 ?_
 refine cv (rh _ W _ _ xs _ l _ sc g (zA2 hb0pp hbpp) (zA2 hb0s hbs) (zA2 hb0q hbq) (by omega) (by omega)) ?_
 refine rcs G1 (fun h1 h1d G2=>?_) (fun h1 h1d G3=>?_)
 ·have hfinP:=pv_f h1d
  refine aa G2 ?_
  refine hQ _ _ (aM (.inl rfl) hbel (x1:=.tup [.sl none 0 (some 0),iV 1]) (l2:=[.cells false 2 []]) (.tup [.sl (some (H.length,0)) 0 (some 0),iV 1]) (aU results92) [.cells false 2 []] rfl [1] (by decide) ⟨by (rw[hfinP.1,hfinP.2.1];rfl),by (rw[hfinP.2.1];rfl)⟩ ?_)
  exact ar
 have hR:=h1d
 obtain⟨hV,hl0,hS,hsB,hg⟩:=cT.1 hR
 have hVV:=bp.1 hV
 have hWb:1<=W/\W<=64:=⟨hVV.w0,hVV.w1⟩
 have hHb:1<=Hh/\Hh<=64:=⟨hVV.h0,hVV.h1⟩
 have hsc2:=cw.1 hsB
 have hfinE:pvE W Hh xs l sc g=0:=(pv_t hR).1
 refine aa G3 ?_
 refine glp (fun k F Hx=>∃n:Nat,n+k=Hh.toNat/\(dn l=true\/n=0)/\F=[(1,.sl (some (bs,0)) l.length cs),(2,.sl (some (bq,0)) sc.length cq),(3,iV g),(4,.ptr (some (H.length,0))),(10,.sl (some (H.length+1,0)) ((be (cO l sc g) 0 W.toNat 0 n).length) (aS (be (cO l sc g) 0 W.toNat 0 n).length)),(11,iV (n:Int))]/\Hx=H++[.cells true 0 [iV W,iV Hh,.sl (some (bpp,0)) xs.length cpp],.cells (aI (be (cO l sc g) 0 W.toNat 0 n).length) 2 (prs (be (cO l sc g) 0 W.toNat 0 n))]) (Hh.toNat) ?_ ?_
 ·refine⟨_,_,_,⟨0,by omega,.inr rfl,rfl,rfl⟩,Abs.byG hbel [.cells false 2 []] rfl [0,1] (by decide) ?_⟩
  exact al @oe
 rintro k0 F Hx ⟨n,hm0,hor,rfl,rfl⟩ J0 hJ0
 have G4:=jn @ba (jn @cp G3)
 refine rgs G4 (fun h2 h2d G5=>?_) (fun h2 h2d G16=>?_)
 ·have hnt:n<Hh.toNat:=by omega
  refine aa G5 ?_
  refine cv (mU _ _ l (zA2 hb0s hbs) (by assumption)) ?_
  refine rcs G5 (fun h3 h3d G6=>?_) (fun h3 h3d G15=>?_)
  ·have htau:=h3d
   refine aa G6 ?_
   refine glp (fun k F Hx=>∃m:Nat,m+k=W.toNat/\F=[(1,.sl (some (bs,0)) l.length cs),(2,.sl (some (bq,0)) sc.length cq),(3,iV g),(4,.ptr (some (H.length,0))),(10,.sl (some (H.length+1,0)) ((be (cO l sc g) 0 W.toNat 0 n++rowR (cO l sc g) 0 (0+(n:Int)) m).length) (aS (be (cO l sc g) 0 W.toNat 0 n++rowR (cO l sc g) 0 (0+(n:Int)) m).length)),(11,iV (n:Int)),(12,iV (m:Int))]/\Hx=H++[.cells true 0 [iV W,iV Hh,.sl (some (bpp,0)) xs.length cpp],.cells (aI (be (cO l sc g) 0 W.toNat 0 n++rowR (cO l sc g) 0 (0+(n:Int)) m).length) 2 (prs (be (cO l sc g) 0 W.toNat 0 n++rowR (cO l sc g) 0 (0+(n:Int)) m))]) (W.toNat) ?_ ?_
   ·refine⟨_,_,_,⟨0,by omega,rfl,rfl⟩,bS hbel [0,1] (al (jn @rowR_0 @List.append_nil.{0}))⟩
   rintro k1 F Hx ⟨m,hm1,rfl,rfl⟩ J1 hJ1
   refine rcs G6 (fun h4 h4d G7=>?_) (fun h4 h4d G14=>?_)
   ·have hmt:m<W.toNat:=by omega
    have hgb:=jt (p:=cO l sc g) (x0:=0) (y0:=0) (w:=W.toNat) n
    have hgm:n*W.toNat<=64*64:=Nat.mul_le_mul (by omega) (by omega)
    have hrb:=kf (p:=cO l sc g) (x0:=0) (y:=0+(n:Int)) m
    refine aa G7 ?_
    refine glp (fun k F Hx=>∃i:Nat,i+k=sc.length/\F=[(1,.sl (some (bs,0)) l.length cs),(2,.sl (some (bq,0)) sc.length cq),(3,iV g),(4,.ptr (some (H.length,0))),(10,.sl (some (H.length+1,0)) ((be (cO l sc g) 0 W.toNat 0 n++rowR (cO l sc g) 0 (0+(n:Int)) m).length) (aS (be (cO l sc g) 0 W.toNat 0 n++rowR (cO l sc g) 0 (0+(n:Int)) m).length)),(11,iV (n:Int)),(12,iV (m:Int)),(13,.ptr (some (H.length+2,0))),(14,.bool (fndB l sc g (m:Int) (n:Int) i)),(15,iV (i:Int))]/\Hx=H++[.cells true 0 [iV W,iV Hh,.sl (some (bpp,0)) xs.length cpp],.cells (aI (be (cO l sc g) 0 W.toNat 0 n++rowR (cO l sc g) 0 (0+(n:Int)) m).length) 2 (prs (be (cO l sc g) 0 W.toNat 0 n++rowR (cO l sc g) 0 (0+(n:Int)) m)),.cells true 0 [iV (m:Int),iV (n:Int)]]) (sc.length) ?_ ?_
    ·refine⟨_,_,_,⟨0,by omega,rfl,rfl⟩,bS hbel [0,1,2] (al @fnd_0)⟩
    rintro k2 F Hx ⟨i,hm2,rfl,rfl⟩ J2 hJ2
    refine rgs G7 (fun h5 h5d G8=>?_) (fun h5 h5d G11=>?_)
    ·have hlt:i<sc.length:=by omega
     have hbi:=fm.1 (hsc2.2 _ (List.getElem_mem hlt))
     rw[<-bC hlt] at hbi
     refine rcs G8 (fun h6 h6d _=>?_) (fun h6 h6d _=>?_)
     ·have hst:=fnd_s hlt h6d
      have q7:=bN (l:=sc) (j:=i) (by omega)
      have G9:=jn h6 (jn h6d (jn q7 G8))
      refine aa G9 ?_
      refine cdr G9 (proves_c _ _ l _ _ g _ _ (zA2 hb0s hbs) hS (by omega) (by omega) hg (by omega) (by omega)) ?_
      refine hJ2 _ _ ⟨k2-1,by omega,_,_,_,⟨i+1,by omega,rfl,rfl⟩,bS hbel [0,1,2] (al @hst)⟩
     have hfd:=h6d
     have hrs:=rwR_t (p:=cO l sc g) (m:=m) (n:=n) (fnd_t hfd)
     have G10:=jn h6 (jn h6d (jn @cH G8))
     refine aa G10 ?_
     refine hJ1 _ _ ⟨k1-1,by omega,_,_,_,⟨m+1,by omega,rfl,rfl⟩,bS hbel [0,4] (al (jn @hrs @List.append_assoc.{0}))⟩
    refine rcs G11 (fun h8 h8d _=>?_) (fun h8 h8d G13=>?_)
    ·have hfd:=h8d
     have hrs:=rwR_t (p:=cO l sc g) (m:=m) (n:=n) (fnd_t hfd)
     have G12:=jn h8 (jn h8d (jn @cH G11))
     refine aa G12 ?_
     refine hJ1 _ _ ⟨k1-1,by omega,_,_,_,⟨m+1,by omega,rfl,rfl⟩,bS hbel [0,4] (al (jn @hrs @List.append_assoc.{0}))⟩
    have hrs:=rwR_f (p:=cO l sc g) (m:=m) (n:=n) (by rw[<-fnd_e,<-show i=sc.length by omega];exact h8d)
    refine aa G13 ?_
    refine hJ1 _ _ ⟨k1-1,by omega,_,_,_,⟨m+1,by omega,rfl,rfl⟩,bS hbel [0,1] (al (jn @hrs @List.append_assoc.{0}))⟩
   obtain rfl:m=W.toNat:=by omega
   refine aa G14 ?_
   refine hJ0 _ _ ⟨k0-1,by omega,_,_,_,⟨n+1,by omega,.inl htau,rfl,rfl⟩,bS hbel [0,1] (al @od)⟩
  have htau:=h3d
  have hn0:n=0:=by rcases hor with h|h;rw[h] at htau;cases htau;exact h
  have hfinG:be (cO l sc g) 0 W.toNat 0 n=pvL W Hh xs l sc g:=by rw[hn0,(pv_t hR).2.1,(mL htau).1];rfl
  refine aa G15 ?_
  refine hQ _ _ (aM (.inl rfl) hbel (x1:=.tup [.sl (some (H.length+1,0)) ((be (cO l sc g) 0 W.toNat 0 n).length) (aS (be (cO l sc g) 0 W.toNat 0 n).length),iV 0]) (l2:=[.cells (aI (be (cO l sc g) 0 W.toNat 0 n).length) 2 (prs (be (cO l sc g) 0 W.toNat 0 n))]) (.tup [.sl (some (H.length,0)) ((be (cO l sc g) 0 W.toNat 0 n).length) (aS (be (cO l sc g) 0 W.toNat 0 n).length),iV 0]) (aU results92) [] rfl [1] (by decide) ⟨by rw[hfinE,hfinG],by rw[hfinG]⟩ ?_)
  exact ar
 have hn1:n=Hh.toNat:=by omega
 have hfinG:be (cO l sc g) 0 W.toNat 0 n=pvL W Hh xs l sc g:=by
  rw[hn1]
  rcases hor with h|h
  ·exact pv_grid hR h
  omega
 refine aa G16 ?_
 refine hQ _ _ (aM (.inl rfl) hbel (x1:=.tup [.sl (some (H.length+1,0)) ((be (cO l sc g) 0 W.toNat 0 n).length) (aS (be (cO l sc g) 0 W.toNat 0 n).length),iV 0]) (l2:=[.cells (aI (be (cO l sc g) 0 W.toNat 0 n).length) 2 (prs (be (cO l sc g) 0 W.toNat 0 n))]) (.tup [.sl (some (H.length,0)) ((be (cO l sc g) 0 W.toNat 0 n).length) (aS (be (cO l sc g) 0 W.toNat 0 n).length),iV 0]) (aU results92) [] rfl [1] (by decide) ⟨by rw[hfinE,hfinG],by rw[hfinG]⟩ ?_)
 exact ar
theorem ri (H:ac)(W Hh:Int)(pp:AV)(xs:List Int)(s:AV)(l:List T6)(q:AV)(sc:List (Int×Int))(g:Int)(hpp:zI H pp xs)(hs:Sl H 6 s l.length (r6 l))(hq:SlP H q sc)(hl:l.length<=1000000000)(hsc:sc.length<=1000000000):zC 54 [.agg [iV W,iV Hh,pp],s,q,iV g] H (.tup [.agg [iV (lnZ W Hh xs l sc g W),iV (lnZ W Hh xs l sc g Hh),.sl (some (H.length,0)) ((lnX W Hh xs l sc g).length) none],iV (lnE W Hh xs l sc g)]) (H++[.cells (aI (lnX W Hh xs l sc g).length) 1 (ints .u8 (lnX W Hh xs l sc g))]):=by
 obtain⟨bpp,opp,cpp,rfl,hbpp,hblpp,hb0pp⟩:=zA1 hpp
 obtain⟨bs,os,cs,rfl,hbs,hbls,hb0s⟩:=zA1 hs
 obtain⟨bq,oq,cq,rfl,hbq,hblq,hb0q⟩:=zA1 hq
 (refine aR func54 _ rfl (Nat.le_of_ble_eq_true (by kernel_rfl)) rfl ?_;intro hbel Q hQ hQ' c hc;unfold Tryz.f54 at hc;simp only[Option.some.injEq] at hc;subst hc;clear hQ')
 refine fx false try_mixed (by kernel_rfl) (fun F Hx=>look F 1=.sl (some (bs,0)) l.length cs/\look F 2=.sl (some (bq,0)) sc.length cq/\look F 3=iV g/\look F 4=.ptr (some (H.length,0))/\look F 8=.ptr (some (H.length+1,0))/\look F 9=iV 0/\Hx=H++[.cells true 0 [iV W,iV Hh,.sl (some (bpp,0)) xs.length cpp],.cells true 0 [iV 0,iV 0,.sl none 0 (some 0)]]) ?_ ?_
 ·have G1:=jn @hbpp (jn @hb0pp (jn @hbs (jn @hb0s (jn @hbq @hb0q))))
  refine aa G1 ?_
  refine ai ?_
  exact absT
 rintro F Hx ⟨f1,f2,f3,f4,f5,f6,rfl⟩
 refine fx false try_mixed (by kernel_rfl) (fun F Hx=>look F 1=.sl (some (bs,0)) l.length cs/\look F 2=.sl (some (bq,0)) sc.length cq/\look F 3=iV g/\look F 4=.ptr (some (H.length,0))/\look F 8=.ptr (some (H.length+1,0))/\look F 9=iV 0/\look F 10=.sl (some (H.length+2,0)) ((pvL W Hh xs l sc g).length) (aS (pvL W Hh xs l sc g).length)/\look F 11=iV (pvE W Hh xs l sc g)/\Hx=H++[.cells true 0 [iV W,iV Hh,.sl (some (bpp,0)) xs.length cpp],.cells true 0 [iV 0,iV 0,.sl none 0 (some 0)],.cells (aI (pvL W Hh xs l sc g).length) 2 (prs (pvL W Hh xs l sc g))]) ?_ ?_
 ·have G2:=jn @hbpp (jn @hb0pp (jn @hbs (jn @hb0s (jn @hbq (jn @hb0q (jn @f1 (jn @f2 (jn @f3 (jn @f4 (jn @f5 @f6))))))))))
  refine aa G2 ?_
  refine cvr G2 (rProven_c _ W _ _ xs _ l _ sc g (zA2 hb0pp hbpp) (zA2 hb0s hbs) (zA2 hb0q hbq) (by omega) (by omega)) ?_
  refine ai ?_
  exact lw (jn @f1 (jn @f2 (jn @f3 (jn @f4 (jn @f5 @f6)))))
 rintro F Hx ⟨f7,f8,f9,f10,f11,f12,f13,f14,rfl⟩
 refine fx false try_mixed (by kernel_rfl) (fun F Hx=>((pvE W Hh xs l sc g)!=0)=false/\look F 1=.sl (some (bs,0)) l.length cs/\look F 2=.sl (some (bq,0)) sc.length cq/\look F 3=iV g/\look F 4=.ptr (some (H.length,0))/\look F 8=.ptr (some (H.length+1,0))/\look F 9=iV 0/\look F 10=.sl (some (H.length+2,0)) ((pvL W Hh xs l sc g).length) (aS (pvL W Hh xs l sc g).length)/\Hx=H++[.cells true 0 [iV W,iV Hh,.sl (some (bpp,0)) xs.length cpp],.cells true 0 [iV 0,iV 0,.sl none 0 (some 0)],.cells (aI (pvL W Hh xs l sc g).length) 2 (prs (pvL W Hh xs l sc g))]) ?_ ?_
 ·have G3:=jn @hbpp (jn @hb0pp (jn @hbs (jn @hb0s (jn @hbq (jn @hb0q (jn @f1 (jn @f2 (jn @f3 (jn @f4 (jn @f5 (jn @f6 (jn @f7 (jn @f8 (jn @f9 (jn @f10 (jn @f11 (jn @f12 (jn @f13 @f14))))))))))))))))))
  refine rcs G3 (fun h15 h15d _=>?_) (fun h15 h15d _=>?_)
  ·have h15n:=bnT h15
   have hRf:=pvE_f (by exact h15d)
   have hfinP:=ln_1 hRf
   have hfinE:pvE W Hh xs l sc g=1:=(pv_f hRf).1
   have G4:=jn h15 (jn h15n (jn @aK (jn @aJ G3)))
   refine aa G4 ?_
   refine hQ _ _ (aM (.inl rfl) hbel (x1:=.tup [.agg [iV 0,iV 0,.sl none 0 (some 0)],iV (pvE W Hh xs l sc g)]) (l2:=[.cells false 1 []]) (.tup [.agg [iV 0,iV 0,.sl (some (H.length,0)) 0 none],iV (pvE W Hh xs l sc g)]) (resTf (jn @f1 (jn @f2 (jn @f3 (jn @f4 (jn @f5 (jn @f6 (jn @f7 (jn @f8 (jn @f9 (jn @f10 (jn @f11 (jn @f12 (jn @f13 @f14))))))))))))) results54) [.cells false 1 []] rfl [3] (by decide) ⟨by (rw[hfinE,hfinP.1,hfinP.2.1,hfinP.2.2.1,hfinP.2.2.2];rfl),by (rw[hfinP.2.1];rfl)⟩ ?_)
   exact ar
  have h15n:=bnT h15
  have G5:=jn h15 (jn h15n (jn @aK (jn @aJ G3)))
  refine aa G5 ?_
  refine ai ?_
  exact lw (jn @f1 (jn @f2 (jn @f3 (jn @f4 (jn @f5 (jn @f6 (jn @f7 (jn @f8 (jn @f9 (jn @f10 (jn @f11 (jn @f12 (jn @f13 @f14)))))))))))))
 rintro F Hx ⟨h16d,f17,f18,f19,f20,f21,f22,f23,rfl⟩
 have hR:=pvE_t (by (simpa using h16d))
 obtain⟨hV,hl0,hS,hsB,hg⟩:=cT.1 hR
 have hVV:=bp.1 hV
 have hpp2:=hVV.pos
 have hWb:1<=W/\W<=64:=⟨hVV.w0,hVV.w1⟩
 have hHb:1<=Hh/\Hh<=64:=⟨hVV.h0,hVV.h1⟩
 have hx00:=(hVV.idx (show inB W Hh 0 0=true from c7.2 (by have:=hVV.w0;have:=hVV.h0;omega))).2.2.2.2.1
 have hx0:0<xs.length:=by omega
 have hx6:xs.length<=1000000:=by have h4:=hVV.len;have:=Int.mul_le_mul hVV.w1 hVV.h1 (by have:=hVV.h0;omega) (by decide);omega
 have hsc2:=cw.1 hsB
 have hAl:=pvL_le (W:=W) (Hh:=Hh) (xs:=xs) (l:=l) (sc:=sc) (g:=g)
 have hA:∀c∈(pvL W Hh xs l sc g),inB W Hh c.1 c.2=true:=fun c hc=>pvL_in hc
 have hsfz:(xs.length==0)=false:=beq_eq_false_iff_ne.2 (by omega)
 have hsfd:decide (0<xs.length)=true:=decide_eq_true hx0
 refine aL false try_mixed [[0,1,2,3,4,5,6,7,8,9,10],[0,1,2,3,4,5,6,9,7,8,10],[0,1,2,3,5,6,9,4,7,8,10]] (by kernel_rfl) (fun F2 H2=>F2=[(1,.sl (some (bs,0)) l.length cs),(2,.sl (some (bq,0)) sc.length cq),(3,iV g),(4,.ptr (some (H.length,0))),(8,.ptr (some (H.length+1,0))),(9,iV 0),(10,.sl (some (H.length+2,0)) ((pvL W Hh xs l sc g).length) (aS (pvL W Hh xs l sc g).length)),(12,.ptr (some (H.length+4,0)))]/\H2=H++[.cells true 0 [iV W,iV Hh,.sl (some (bpp,0)) xs.length cpp],.cells true 0 [iV 0,iV 0,.sl none 0 (some 0)],.cells (aI (pvL W Hh xs l sc g).length) 2 (prs (pvL W Hh xs l sc g)),.cells true 1 (ints .u8 xs),.cells true 0 [iV W,iV Hh,.sl (some (H.length+3,0)) xs.length none]]) ?_ ?_
 ·refine af ?_ (af ?_ (af ?_ (aQ)))<;>intro J hJ
  ·have G6:=jn @hbpp (jn @hb0pp (jn @hbs (jn @hb0s (jn @hbq (jn @hb0q (jn @f1 (jn @f2 (jn @f3 (jn @f4 (jn @f5 (jn @f6 (jn @f7 (jn @f8 (jn @f9 (jn @f10 (jn @f11 (jn @f12 (jn @f13 (jn @f14 (jn @f17 (jn @f18 (jn @f19 (jn @f20 (jn @f21 (jn @f22 (jn @f23 (jn h16d (jn @hsfz (jn @hsfd (jn @bU (jn @cr @ku)))))))))))))))))))))))))))))))
   refine ag G6 ?_
   refine ai (hJ _ _ ⟨_,_,_,⟨rfl,rfl⟩,bS hbel [0,1,2,4,5] (al (jn @f1 (jn @f2 (jn @f3 (jn @f4 (jn @f5 (jn @f6 (jn @f7 (jn @f8 (jn @f9 (jn @f10 (jn @f11 (jn @f12 (jn @f13 (jn @f14 (jn @f17 (jn @f18 (jn @f19 (jn @f20 (jn @f21 (jn @f22 @f23)))))))))))))))))))))⟩)
  ·have G7:=jn @hbpp (jn @hb0pp (jn @hbs (jn @hb0s (jn @hbq (jn @hb0q (jn @f1 (jn @f2 (jn @f3 (jn @f4 (jn @f5 (jn @f6 (jn @f7 (jn @f8 (jn @f9 (jn @f10 (jn @f11 (jn @f12 (jn @f13 (jn @f14 (jn @f17 (jn @f18 (jn @f19 (jn @f20 (jn @f21 (jn @f22 (jn @f23 (jn h16d (jn @hsfz (jn @hsfd (jn @bU (jn @cr @ku)))))))))))))))))))))))))))))))
   refine ag G7 ?_
   refine ai (hJ _ _ ⟨_,_,_,⟨rfl,rfl⟩,bS hbel [0,1,2,5,4] (al (jn @f1 (jn @f2 (jn @f3 (jn @f4 (jn @f5 (jn @f6 (jn @f7 (jn @f8 (jn @f9 (jn @f10 (jn @f11 (jn @f12 (jn @f13 (jn @f14 (jn @f17 (jn @f18 (jn @f19 (jn @f20 (jn @f21 (jn @f22 @f23)))))))))))))))))))))⟩)
  have G8:=jn @hbpp (jn @hb0pp (jn @hbs (jn @hb0s (jn @hbq (jn @hb0q (jn @f1 (jn @f2 (jn @f3 (jn @f4 (jn @f5 (jn @f6 (jn @f7 (jn @f8 (jn @f9 (jn @f10 (jn @f11 (jn @f12 (jn @f13 (jn @f14 (jn @f17 (jn @f18 (jn @f19 (jn @f20 (jn @f21 (jn @f22 (jn @f23 (jn h16d (jn @hsfz (jn @hsfd (jn @bU (jn @cr @ku)))))))))))))))))))))))))))))))
  refine ag G8 ?_
  refine ai (hJ _ _ ⟨_,_,_,⟨rfl,rfl⟩,bS hbel [0,1,2,5,3] (al (jn @f1 (jn @f2 (jn @f3 (jn @f4 (jn @f5 (jn @f6 (jn @f7 (jn @f8 (jn @f9 (jn @f10 (jn @f11 (jn @f12 (jn @f13 (jn @f14 (jn @f17 (jn @f18 (jn @f19 (jn @f20 (jn @f21 (jn @f22 @f23)))))))))))))))))))))⟩)
 rintro F2 H2 ⟨rfl,rfl⟩
 refine fnF ?_
 have G9:=jn @hbpp (jn @hb0pp (jn @hbs (jn @hb0s (jn @hbq (jn @hb0q (jn h16d (jn @hsfz (jn @hsfd (jn @ba (jn @cp (jn @bU @cr)))))))))))
 refine aa G9 ?_
 refine glp (fun k F Hx=>∃i:Nat,i+k=(pvL W Hh xs l sc g).length/\lrnR W Hh xs (pvL W Hh xs l sc g) xs=lrnR W Hh xs ((pvL W Hh xs l sc g).drop i) (lfS W (pvL W Hh xs l sc g) xs i)/\F=[(1,.sl (some (bs,0)) l.length cs),(2,.sl (some (bq,0)) sc.length cq),(3,iV g),(4,.ptr (some (H.length,0))),(8,.ptr (some (H.length+1,0))),(10,.sl (some (H.length+2,0)) ((pvL W Hh xs l sc g).length) (aS (pvL W Hh xs l sc g).length)),(12,.ptr (some (H.length+4,0))),(13,iV (i:Int))]/\Hx=H++[.cells true 0 [iV W,iV Hh,.sl (some (bpp,0)) xs.length cpp],.cells true 0 [iV 0,iV 0,.sl none 0 (some 0)],.cells (aI (pvL W Hh xs l sc g).length) 2 (prs (pvL W Hh xs l sc g)),.cells true 1 (ints .u8 (lfS W (pvL W Hh xs l sc g) xs i)),.cells true 0 [iV W,iV Hh,.sl (some (H.length+3,0)) ((lfS W (pvL W Hh xs l sc g) xs i).length) none]]) ((pvL W Hh xs l sc g).length) ?_ ?_
 ·refine⟨_,_,_,⟨0,by omega,rfl,rfl,rfl⟩,bS hbel [0,1,2,3,4] (al @lfS.eq_1)⟩
 rintro k0 F Hx ⟨i,hm0,hrem,rfl,rfl⟩ J0 hJ0
 refine rcs G9 (fun h24 h24d _=>?_) (fun h24 h24d G13=>?_)
 ·have hlt:i<(pvL W Hh xs l sc g).length:=by omega
  have hfv:=gb (W:=W) (A:=(pvL W Hh xs l sc g)) hV i
  obtain⟨j1,j2,j3,j4,j5,-⟩:=(bp.1 hfv).idx (gin_mem hlt hA)
  have q25:=bN (l:=pvL W Hh xs l sc g) (j:=i) (by omega)
  have G10:=jn h24 (jn h24d (jn q25 G9))
  refine aa G10 ?_
  refine cd (at_c (x:=(g1 (pvL W Hh xs l sc g) i)) (y:=(g2 (pvL W Hh xs l sc g) i)) (bp.1 hV) (by exact hb0pp _) rfl) ?_
  refine rcs G10 (fun h26 h26d _=>?_) (fun h26 h26d _=>?_)
  ·have h26n:=bnT h26
   have hfinP:=ln_11 hR ((lU hR).trans (by rw[hrem,pJ hlt hA,if_pos (by simpa using h26d)];rfl))
   have G11:=jn h26 (jn h26n (jn @aK (jn @aJ G10)))
   refine aa G11 ?_
   refine hQ _ _ (aM (.inl rfl) hbel (x1:=.tup [.agg [iV 0,iV 0,.sl none 0 (some 0)],iV 11]) (l2:=[.cells false 1 []]) (.tup [.agg [iV 0,iV 0,.sl (some (H.length,0)) 0 none],iV 11]) (aU results54) [.cells false 1 []] rfl [5] (by decide) ⟨by (rw[hfinP.1,hfinP.2.1,hfinP.2.2.1,hfinP.2.2.2];rfl),by (rw[hfinP.2.1];rfl)⟩ ?_)
   exact ar
  have h26n:=bnT h26
  have hne:¬atI W Hh xs (g1 (pvL W Hh xs l sc g) i) (g2 (pvL W Hh xs l sc g) i)=2:=by simpa using h26d
  have q27:=prs_at1 (l:=pvL W Hh xs l sc g) (j:=i) (by omega)
  have q28:=prs_at0 (l:=pvL W Hh xs l sc g) (j:=i) (by omega)
  have G12:=jn h26 (jn h26n (jn @aK (jn @aJ (jn q27 (jn q28 (jn @fU (jn @List.length_set.{0} G10)))))))
  refine aa G12 ?_
  refine hJ0 _ _ ⟨k0-1,by omega,_,_,_,⟨i+1,by omega,hrem.trans ((pJ hlt hA).trans (if_neg hne)),rfl,rfl⟩,bS hbel [0,1,2,3,4] (al (jn @lfS.eq_2 @List.length_set.{0}))⟩
 obtain rfl:i=(pvL W Hh xs l sc g).length:=by omega
 rw[List.drop_length] at hrem
 refine aa G13 ?_
 refine glp (fun k F Hx=>∃i:Nat,i+k=sc.length/\(dn l=true\/i=0)/\(∀_:dn l=true,lnO W Hh xs l sc g=e9 W Hh (gL l (sc.drop i) g) (lwS W Hh l sc g (lfS W (pvL W Hh xs l sc g) xs (pvL W Hh xs l sc g).length) i))/\F=[(1,.sl (some (bs,0)) l.length cs),(2,.sl (some (bq,0)) sc.length cq),(3,iV g),(4,.ptr (some (H.length,0))),(8,.ptr (some (H.length+1,0))),(12,.ptr (some (H.length+3,0))),(14,iV (i:Int))]/\Hx=H++[.cells true 0 [iV W,iV Hh,.sl (some (bpp,0)) xs.length cpp],.cells true 0 [iV 0,iV 0,.sl none 0 (some 0)],.cells true 1 (ints .u8 (lwS W Hh l sc g (lfS W (pvL W Hh xs l sc g) xs (pvL W Hh xs l sc g).length) i)),.cells true 0 [iV W,iV Hh,.sl (some (H.length+2,0)) ((lwS W Hh l sc g (lfS W (pvL W Hh xs l sc g) xs (pvL W Hh xs l sc g).length) i).length) none]]) (sc.length) ?_ ?_
 ·refine⟨_,_,_,⟨0,by omega,.inr rfl,fun h=>(lU hR).trans (by rw[hrem];exact if_pos h),rfl,rfl⟩,bS hbel [0,1,3,4] (al @lwS.eq_1)⟩
 rintro k1 F Hx ⟨i,hm1,hor,hrem2,rfl,rfl⟩ J1 hJ1
 refine rgs G13 (fun h29 h29d G14=>?_) (fun h29 h29d G29=>?_)
 ·have hlt:i<sc.length:=by omega
  have hbe:=hsc2.2 _ (List.getElem_mem hlt)
  rw[<-bC hlt] at hbe
  have hbi:=fm.1 hbe
  have hss:(ssL W Hh xs l (g1 sc i) (g2 sc i) g)=(bJ l (g1 sc i) (g2 sc i) g):=ss_bm hR hbe
  have hwv:=gM (W:=W) (Hh:=Hh) (l:=l) (sc:=sc) (g:=g) (gb (W:=W) (A:=(pvL W Hh xs l sc g)) hV (pvL W Hh xs l sc g).length) i
  have hsl:=ssL_le (W:=W) (Hh:=Hh) (xs:=xs) (l:=l) (m:=g1 sc i) (r:=g2 sc i) (g:=g)
  have hds:(bE (frP W Hh (lwS W Hh l sc g (lfS W (pvL W Hh xs l sc g) xs (pvL W Hh xs l sc g).length) i)) (ssL W Hh xs l (g1 sc i) (g2 sc i) g))=(bE (frP W Hh (lwS W Hh l sc g (lfS W (pvL W Hh xs l sc g) xs (pvL W Hh xs l sc g).length) i)) (bJ l (g1 sc i) (g2 sc i) g)):=by rw[hss]
  refine aa G14 ?_
  refine cv (mU _ _ l (zA2 hb0s hbs) (by assumption)) ?_
  refine rcs G14 (fun h30 h30d _=>?_) (fun h30 h30d G28=>?_)
  ·have htau:=h30d
   have q31:=prs_at1 (l:=sc) (j:=i) (by omega)
   have G15:=jn h30 (jn h30d (jn q31 G14))
   refine rcs G15 (fun h32 h32d G16=>?_) (fun h32 h32d _=>?_)
   ·have hr1:g2 sc i = -1:=by omega
    have hst:=qT (W:=W) (Hh:=Hh) (l:=l) (g:=g) (o:=(lfS W (pvL W Hh xs l sc g) xs (pvL W Hh xs l sc g).length)) hr1
    have hnx:=kp (W:=W) (Hh:=Hh) (l:=l) (g:=g) (o:=(lfS W (pvL W Hh xs l sc g) xs (pvL W Hh xs l sc g).length)) hlt (.inl hr1)
    refine aa G16 ?_
    refine hJ1 _ _ ⟨k1-1,by omega,_,_,_,⟨i+1,by omega,.inl htau,fun h=>(hrem2 h).trans hnx,rfl,rfl⟩,bS hbel [0,1,2,3] (al (jn @hst @List.length_set.{0}))⟩
   have hr1:¬g2 sc i = -1:=by omega
   have q33:=bN (l:=sc) (j:=i) (by omega)
   have G17:=jn h32 (jn h32d (jn q33 G15))
   refine aa G17 ?_
   refine cx (rx _ W _ _ xs _ l _ _ g (zA2 hb0pp hbpp) (zA2 hb0s hbs) (by omega)) ?_
   refine aa G17 ?_
   refine glp (fun k F Hx=>∃n:Nat,n+k=(ssL W Hh xs l (g1 sc i) (g2 sc i) g).length/\F=[(1,.sl (some (bs,0)) l.length cs),(2,.sl (some (bq,0)) sc.length cq),(3,iV g),(4,.ptr (some (H.length,0))),(8,.ptr (some (H.length+1,0))),(12,.ptr (some (H.length+3,0))),(14,iV (i:Int)),(15,.sl (some (H.length+4,0)) ((ssL W Hh xs l (g1 sc i) (g2 sc i) g).length) (aS (ssL W Hh xs l (g1 sc i) (g2 sc i) g).length)),(17,iV (((bE (frP W Hh (lwS W Hh l sc g (lfS W (pvL W Hh xs l sc g) xs (pvL W Hh xs l sc g).length) i)) ((ssL W Hh xs l (g1 sc i) (g2 sc i) g).take n)).length:Nat):Int)),(18,.ptr (some (H.length+5,0))),(19,iV (n:Int))]/\Hx=H++[.cells true 0 [iV W,iV Hh,.sl (some (bpp,0)) xs.length cpp],.cells true 0 [iV 0,iV 0,.sl none 0 (some 0)],.cells true 1 (ints .u8 (lwS W Hh l sc g (lfS W (pvL W Hh xs l sc g) xs (pvL W Hh xs l sc g).length) i)),.cells true 0 [iV W,iV Hh,.sl (some (H.length+2,0)) ((lwS W Hh l sc g (lfS W (pvL W Hh xs l sc g) xs (pvL W Hh xs l sc g).length) i).length) none],.cells (aI (ssL W Hh xs l (g1 sc i) (g2 sc i) g).length) 2 (prs (ssL W Hh xs l (g1 sc i) (g2 sc i) g)),.cells true 0 [iV ((fR (bE (frP W Hh (lwS W Hh l sc g (lfS W (pvL W Hh xs l sc g) xs (pvL W Hh xs l sc g).length) i)) ((ssL W Hh xs l (g1 sc i) (g2 sc i) g).take n))).1),iV ((fR (bE (frP W Hh (lwS W Hh l sc g (lfS W (pvL W Hh xs l sc g) xs (pvL W Hh xs l sc g).length) i)) ((ssL W Hh xs l (g1 sc i) (g2 sc i) g).take n))).2)]]) ((ssL W Hh xs l (g1 sc i) (g2 sc i) g).length) ?_ ?_
   ·refine⟨_,_,_,⟨0,by omega,rfl,rfl⟩,bS hbel [0,1,2,3,4,5] (al (jn @List.take_zero.{0} (jn @delL_nil @lasC_0)))⟩
   rintro k2 F Hx ⟨n,hm2,rfl,rfl⟩ J2 hJ2
   refine rcs G17 (fun h34 h34d _=>?_) (fun h34 h34d _=>?_)
   ·have hnt:n<(ssL W Hh xs l (g1 sc i) (g2 sc i) g).length:=by omega
    have hdk:=delL_tk (p:=frP W Hh (lwS W Hh l sc g (lfS W (pvL W Hh xs l sc g) xs (pvL W Hh xs l sc g).length) i)) (l:=(ssL W Hh xs l (g1 sc i) (g2 sc i) g)) (j:=n) (by omega)
    have q35:=bN (l:=ssL W Hh xs l (g1 sc i) (g2 sc i) g) (j:=n) (by omega)
    have G18:=jn h34 (jn h34d (jn q35 G17))
    refine aa G18 ?_
    refine cd (at_c (x:=(g1 (ssL W Hh xs l (g1 sc i) (g2 sc i) g) n)) (y:=(g2 (ssL W Hh xs l (g1 sc i) (g2 sc i) g) n)) (bp.1 hwv) (by (rw[ah];rfl)) rfl) ?_
    refine rcs G18 (fun h36 h36d _=>?_) (fun h36 h36d _=>?_)
    ·have h36n:=bnT h36
     have hst2:=delL_not (p:=frP W Hh (lwS W Hh l sc g (lfS W (pvL W Hh xs l sc g) xs (pvL W Hh xs l sc g).length) i)) hnt (show (atI W Hh (lwS W Hh l sc g (lfS W (pvL W Hh xs l sc g) xs (pvL W Hh xs l sc g).length) i) (g1 (ssL W Hh xs l (g1 sc i) (g2 sc i) g) n) (g2 (ssL W Hh xs l (g1 sc i) (g2 sc i) g) n)==1)=false from by simpa using h36d)
     have q37:=bN (l:=ssL W Hh xs l (g1 sc i) (g2 sc i) g) (j:=n) (by omega)
     have G19:=jn h36 (jn h36n (jn @aK (jn @aJ (jn q37 G18))))
     refine aa G19 ?_
     refine hJ2 _ _ ⟨k2-1,by omega,_,_,_,⟨n+1,by omega,rfl,rfl⟩,bS hbel [0,1,2,3,4,5] (al (jn @hst2 (jn @lasC_s (jn @Int.natCast_add @Int.natCast_one))))⟩
    have h36n:=bnT h36
    have hst2:=delL_yes (p:=frP W Hh (lwS W Hh l sc g (lfS W (pvL W Hh xs l sc g) xs (pvL W Hh xs l sc g).length) i)) hnt (show (atI W Hh (lwS W Hh l sc g (lfS W (pvL W Hh xs l sc g) xs (pvL W Hh xs l sc g).length) i) (g1 (ssL W Hh xs l (g1 sc i) (g2 sc i) g) n) (g2 (ssL W Hh xs l (g1 sc i) (g2 sc i) g) n)==1)=true from by simpa using h36d)
    have G20:=jn h36 (jn h36n (jn @aK (jn @aJ G18)))
    refine aa G20 ?_
    refine hJ2 _ _ ⟨k2-1,by omega,_,_,_,⟨n+1,by omega,rfl,rfl⟩,bS hbel [0,1,2,3,4,5] (al (jn @hst2 (jn @lasC_s (jn @Int.natCast_add @Int.natCast_one))))⟩
   obtain rfl:n=(ssL W Hh xs l (g1 sc i) (g2 sc i) g).length:=by omega
   have hsft:(ssL W Hh xs l (g1 sc i) (g2 sc i) g).take (ssL W Hh xs l (g1 sc i) (g2 sc i) g).length=(ssL W Hh xs l (g1 sc i) (g2 sc i) g):=List.take_length
   have G21:=jn h34 (j2 h34d hsft G17)
   refine rcs G21 (fun h38 h38d _=>?_) (fun h38 h38d _=>?_)
   ·have h38n:=bnT h38
    have hd0:(bE (frP W Hh (lwS W Hh l sc g (lfS W (pvL W Hh xs l sc g) xs (pvL W Hh xs l sc g).length) i)) (ssL W Hh xs l (g1 sc i) (g2 sc i) g)).length=0:=by have q:=h38d;omega
    rw[hds] at hd0
    have hfinP:=ln_11 hR ((hrem2 htau).trans (lwS_bad hlt hr1 hd0))
    have G22:=jn h38 (jn h38n (jn @aK (jn @aJ G21)))
    refine aa G22 ?_
    refine hQ _ _ (aM (.inl rfl) hbel (x1:=.tup [.agg [iV 0,iV 0,.sl none 0 (some 0)],iV 11]) (l2:=[.cells false 1 []]) (.tup [.agg [iV 0,iV 0,.sl (some (H.length,0)) 0 none],iV 11]) (aU results54) [.cells false 1 []] rfl [6] (by decide) ⟨by (rw[hfinP.1,hfinP.2.1,hfinP.2.2.1,hfinP.2.2.2];rfl),by (rw[hfinP.2.1];rfl)⟩ ?_)
    exact ar
   have h38n:=bnT h38
   have hd0:¬(bE (frP W Hh (lwS W Hh l sc g (lfS W (pvL W Hh xs l sc g) xs (pvL W Hh xs l sc g).length) i)) (ssL W Hh xs l (g1 sc i) (g2 sc i) g)).length=0:=by have q:=h38d;omega
   rw[hds] at hd0
   have hnx:=kp (W:=W) (Hh:=Hh) (l:=l) (g:=g) (o:=(lfS W (pvL W Hh xs l sc g) xs (pvL W Hh xs l sc g).length)) hlt (.inr hd0)
   have G23:=jn h38 (jn h38n (jn @aK (jn @aJ G21)))
   refine rgs G23 (fun h39 h39d _=>?_) (fun h39 h39d _=>?_)
   ·have h39n:=bnT h39
    have hd1:(bE (frP W Hh (lwS W Hh l sc g (lfS W (pvL W Hh xs l sc g) xs (pvL W Hh xs l sc g).length) i)) (ssL W Hh xs l (g1 sc i) (g2 sc i) g)).length=1:=by have q:=h39d;omega
    have G24:=j2 h39 h39n G23
    refine aa G24 ?_
    refine cv (pC (W:=W) (Hh:=Hh) (x:=((fR (bE (frP W Hh (lwS W Hh l sc g (lfS W (pvL W Hh xs l sc g) xs (pvL W Hh xs l sc g).length) i)) (ssL W Hh xs l (g1 sc i) (g2 sc i) g))).1)) (y:=((fR (bE (frP W Hh (lwS W Hh l sc g (lfS W (pvL W Hh xs l sc g) xs (pvL W Hh xs l sc g).length) i)) (ssL W Hh xs l (g1 sc i) (g2 sc i) g))).2))) ?_
    refine rcs G24 (fun h40 h40d _=>?_) (fun h40 h40d G26=>?_)
    ·have hin:=h40d
     have hst:=lwS_inn (o:=(lfS W (pvL W Hh xs l sc g) xs (pvL W Hh xs l sc g).length)) hr1 hds hd1 hin
     obtain⟨j1,j2,j3,j4,j5,-⟩:=(bp.1 hwv).idx hin
     have G25:=jn h40 (jn h40d (jn @fU (jn @List.length_set.{0} G24)))
     refine aa G25 ?_
     refine hJ1 _ _ ⟨k1-1,by omega,_,_,_,⟨i+1,by omega,.inl htau,fun h=>(hrem2 h).trans hnx,rfl,rfl⟩,bS hbel [0,1,2,3] (al (jn @hst @List.length_set.{0}))⟩
    have hst:=lwS_out (o:=(lfS W (pvL W Hh xs l sc g) xs (pvL W Hh xs l sc g).length)) hr1 hds (fun q=>by rw[h40d] at q;exact absurd q.2 (by decide))
    refine aa G26 ?_
    refine hJ1 _ _ ⟨k1-1,by omega,_,_,_,⟨i+1,by omega,.inl htau,fun h=>(hrem2 h).trans hnx,rfl,rfl⟩,bS hbel [0,1,2,3] (al (jn @hst @List.length_set.{0}))⟩
   have h39n:=bnT h39
   have hd1:¬(bE (frP W Hh (lwS W Hh l sc g (lfS W (pvL W Hh xs l sc g) xs (pvL W Hh xs l sc g).length) i)) (ssL W Hh xs l (g1 sc i) (g2 sc i) g)).length=1:=by have q:=h39d;omega
   have hst:=lwS_out (o:=(lfS W (pvL W Hh xs l sc g) xs (pvL W Hh xs l sc g).length)) hr1 hds (fun q=>hd1 q.1)
   have G27:=j2 h39 h39n G23
   refine aa G27 ?_
   refine hJ1 _ _ ⟨k1-1,by omega,_,_,_,⟨i+1,by omega,.inl htau,fun h=>(hrem2 h).trans hnx,rfl,rfl⟩,bS hbel [0,1,2,3] (al (jn @hst @List.length_set.{0}))⟩
  have htau:=h30d
  have hi0:i=0:=by rcases hor with h|h;rw[h] at htau;cases htau;exact h
  have hfinP:=ln_0 hR (show lnO W Hh xs l sc g=some (lwS W Hh l sc g (lfS W (pvL W Hh xs l sc g) xs (pvL W Hh xs l sc g).length) i) from by rw[hi0];exact(lU hR).trans (by rw[hrem];exact if_neg (by rw[htau];decide)))
  have hfinO:aI (lwS W Hh l sc g (lfS W (pvL W Hh xs l sc g) xs (pvL W Hh xs l sc g).length) i).length=true:=dD (by have:=oA hwv;omega)
  refine aa G28 ?_
  refine hQ _ _ (aM (.inl rfl) hbel (x1:=.tup [.agg [iV W,iV Hh,.sl (some (H.length+2,0)) ((lwS W Hh l sc g (lfS W (pvL W Hh xs l sc g) xs (pvL W Hh xs l sc g).length) i).length) none],iV 0]) (l2:=[.cells true 1 (ints .u8 (lwS W Hh l sc g (lfS W (pvL W Hh xs l sc g) xs (pvL W Hh xs l sc g).length) i))]) (.tup [.agg [iV W,iV Hh,.sl (some (H.length,0)) ((lwS W Hh l sc g (lfS W (pvL W Hh xs l sc g) xs (pvL W Hh xs l sc g).length) i).length) none],iV 0]) (aU results54) [] rfl [2] (by decide) ⟨by rw[hfinP.1,hfinP.2.1,hfinP.2.2.1,hfinP.2.2.2],by rw[hfinP.2.1,hfinO]⟩ ?_)
  exact ar
 obtain rfl:i=sc.length:=by omega
 have hfinO:aI (lwS W Hh l sc g (lfS W (pvL W Hh xs l sc g) xs (pvL W Hh xs l sc g).length) sc.length).length=true:=dD (by have:=oA (gM (W:=W) (Hh:=Hh) (l:=l) (sc:=sc) (g:=g) (gb (W:=W) (A:=(pvL W Hh xs l sc g)) hV (pvL W Hh xs l sc g).length) sc.length);omega)
 have hfinP:=ln_0 hR (show lnO W Hh xs l sc g=some (lwS W Hh l sc g (lfS W (pvL W Hh xs l sc g) xs (pvL W Hh xs l sc g).length) sc.length) from by
  rcases hor with h|h
  ·rw[hrem2 h,List.drop_length];rfl
  cases ht:dn l
  ·rw[h];exact(lU hR).trans (by rw[hrem];exact if_neg (by rw[ht];decide))
  rw[hrem2 ht,List.drop_length];rfl)
 refine aa G29 ?_
 refine hQ _ _ (aM (.inl rfl) hbel (x1:=.tup [.agg [iV W,iV Hh,.sl (some (H.length+2,0)) ((lwS W Hh l sc g (lfS W (pvL W Hh xs l sc g) xs (pvL W Hh xs l sc g).length) sc.length).length) none],iV 0]) (l2:=[.cells true 1 (ints .u8 (lwS W Hh l sc g (lfS W (pvL W Hh xs l sc g) xs (pvL W Hh xs l sc g).length) sc.length))]) (.tup [.agg [iV W,iV Hh,.sl (some (H.length,0)) ((lwS W Hh l sc g (lfS W (pvL W Hh xs l sc g) xs (pvL W Hh xs l sc g).length) sc.length).length) none],iV 0]) (aU results54) [] rfl [2] (by decide) ⟨by rw[hfinP.1,hfinP.2.1,hfinP.2.2.1,hfinP.2.2.2],by rw[hfinP.2.1,hfinO]⟩ ?_)
 exact ar
theorem pL (H:ac)(W Hh:Int)(pp:AV)(xs:List Int)(s:AV)(l:List T6)(q:AV)(sc:List (Int×Int))(g:Int)(o:List Int)(hpp:zI H pp xs)(hs:Sl H 6 s l.length (r6 l))(hq:SlP H q sc)(hR:cl W Hh xs l sc g=true)(ho:lnO W Hh xs l sc g=some o)(h0:0<o.length):
  zC 54 [.agg [iV W,iV Hh,pp],s,q,iV g] H (.tup [.agg [iV W,iV Hh,.sl (some (H.length,0)) o.length none],iV 0]) (H++[.cells true 1 (ints .u8 o)]):=by
 obtain⟨hV,hl0,hS,hsB,hg⟩:=cT.1 hR
 have k:=ri H W Hh pp xs s l q sc g hpp hs hq (by have:=dU hS;omega) (by have:=(cw.1 hsB).1;omega)
 obtain⟨e1,e2,e3,e4⟩:=ln_0 hR ho
 rw[e1,e2,e3,e4,dD h0] at k
 exact k
theorem pM (H:ac)(W Hh:Int)(pp:AV)(xs:List Int)(s:AV)(l:List T6)(q:AV)(sc:List (Int×Int))(g:Int)(hpp:zI H pp xs)(hs:Sl H 6 s l.length (r6 l))(hq:SlP H q sc)(hR:cl W Hh xs l sc g=true)(ho:lnO W Hh xs l sc g=none):
  zC 54 [.agg [iV W,iV Hh,pp],s,q,iV g] H (.tup [.agg [iV 0,iV 0,.sl (some (H.length,0)) ([]:List Int).length none],iV 11]) (H++[.cells (aI ([]:List Int).length) 1 (ints .u8 ([]:List Int))]):=by
 obtain⟨hV,hl0,hS,hsB,hg⟩:=cT.1 hR
 have k:=ri H W Hh pp xs s l q sc g hpp hs hq (by have:=dU hS;omega) (by have:=(cw.1 hsB).1;omega)
 have e1:lnE W Hh xs l sc g=11:=by unfold lnE;rw[if_pos hR,ho]
 have e2:lnX W Hh xs l sc g=[]:=by unfold lnX;rw[if_pos hR,ho];rfl
 have e3:∀n,lnZ W Hh xs l sc g n=0:=fun n=>if_neg (by rw[e1];decide)
 rw[e1,e2,e3,e3] at k
 exact k
theorem rse_a (H:ac)(W Hh:Int)(pp:AV)(xs:List Int)(s:AV)(l:List T6)(tu le sl ra:Int)(lost:Bool)(bz:Nat)(q:AV)(sc:List (Int×Int))(hpp:zI H pp xs)(hs:Sl H 6 s l.length (r6 l))(hz:∃o,H[bz]? = some (.cells o 0 [iV W,iV Hh,pp,s,iV tu,iV le,iV sl,iV ra,.bool lost]))(hq:SlP H q sc)(hsl:sc.length<=1000000000)(hsB:bP sc=false):zC 22 [.ptr (some (bz,0)),q] H (iV 1) H:=by
 obtain⟨bpp,opp,cpp,rfl,hbpp,hblpp,hb0pp⟩:=zA1 hpp
 obtain⟨bs,os,cs,rfl,hbs,hbls,hb0s⟩:=zA1 hs
 obtain⟨bq,oq,cq,rfl,hbq,hblq,hb0q⟩:=zA1 hq
 obtain⟨oz,hbz⟩:=hz
 have hblz:=getElem?_lt hbz
 have hb0z:=fun l=>ae (l:=l) hbz
 (refine aR func22 _ rfl (Nat.le_of_ble_eq_true (by kernel_rfl)) rfl ?_;intro hbel Q hQ hQ' c hc;unfold Tryz.f22 at hc;simp only[Option.some.injEq] at hc;subst hc;clear hQ')
 refine zQT hQ fun Q1 hn1 hQ1 he1=>?_
 have G1:=jn @hbpp (jn @hb0pp (jn @hbs (jn @hb0s (jn @hbq (jn @hb0q (jn @hbz (jn @hb0z (jn @hsB @Option.isNone_some.{0}))))))))
 refine aa G1 ?_
 refine hn1 _ _ (zQT hQ fun Q2 hn2 hQ2 he2=>?_)
 refine aa G1 ?_
 refine cvr G1 (ge _ _ sc (zA2 hb0q hbq)) ?_
 exact eQ hQ2 hbel (iV 1) results22 ⟨rfl,rfl⟩
theorem rse_s (H:ac)(W Hh:Int)(pp:AV)(xs:List Int)(s:AV)(l:List T6)(tu le sl ra:Int)(bz:Nat)(q:AV)(sc:List (Int×Int))(hpp:zI H pp xs)(hs:Sl H 6 s l.length (r6 l))(hz:∃o,H[bz]? = some (.cells o 0 [iV W,iV Hh,pp,s,iV tu,iV le,iV sl,iV ra,.bool true]))(hq:SlP H q sc)(hsl:sc.length<=1000000000)(hsB:bP sc=true):zC 22 [.ptr (some (bz,0)),q] H (iV 9) H:=by
 obtain⟨bpp,opp,cpp,rfl,hbpp,hblpp,hb0pp⟩:=zA1 hpp
 obtain⟨bs,os,cs,rfl,hbs,hbls,hb0s⟩:=zA1 hs
 obtain⟨bq,oq,cq,rfl,hbq,hblq,hb0q⟩:=zA1 hq
 obtain⟨oz,hbz⟩:=hz
 have hblz:=getElem?_lt hbz
 have hb0z:=fun l=>ae (l:=l) hbz
 (refine aR func22 _ rfl (Nat.le_of_ble_eq_true (by kernel_rfl)) rfl ?_;intro hbel Q hQ hQ' c hc;unfold Tryz.f22 at hc;simp only[Option.some.injEq] at hc;subst hc;clear hQ')
 refine zQT hQ fun Q3 hn3 hQ3 he3=>?_
 have G2:=jn @hbpp (jn @hb0pp (jn @hbs (jn @hb0s (jn @hbq (jn @hb0q (jn @hbz (jn @hb0z (jn @hsB @Option.isNone_some.{0}))))))))
 refine aa G2 ?_
 refine hn3 _ _ (zQT hQ fun Q4 hn4 hQ4 he4=>?_)
 refine aa G2 ?_
 refine cvr G2 (ge _ _ sc (zA2 hb0q hbq)) ?_
 refine hn4 _ _ (zQT hQ fun Q5 hn5 hQ5 he5=>?_)
 exact eS G2 hQ5 hbel (iV 9) results22 ⟨rfl,rfl⟩
theorem rse_e (H:ac)(W Hh:Int)(pp:AV)(xs:List Int)(s:AV)(l:List T6)(tu le sl ra:Int)(bz:Nat)(q:AV)(sc:List (Int×Int))(hpp:zI H pp xs)(hs:Sl H 6 s l.length (r6 l))(hz:H[bz]? = some (.cells true 0 [iV W,iV Hh,pp,s,iV tu,iV le,iV sl,iV ra,.bool false]))(hq:SlP H q sc)(hV:bK W Hh xs=true)(hS:bk l=true)(hl0:0<l.length)(hsB:bP sc=true)(hg:1<=ra/\ra<=32)(hRn:(aN W Hh xs l sc ra 32).length=0):zC 22 [.ptr (some (bz,0)),q] H (iV 12) (H.set bz (.cells true 0 [iV W,iV Hh,pp,s,iV tu,iV le,iV sl,iV ra,.bool true])):=by
 obtain⟨bpp,opp,cpp,rfl,hbpp,hblpp,hb0pp⟩:=zA1 hpp
 obtain⟨bs,os,cs,rfl,hbs,hbls,hb0s⟩:=zA1 hs
 obtain⟨bq,oq,cq,rfl,hbq,hblq,hb0q⟩:=zA1 hq
 have hbz:=hz
 have hblz:=getElem?_lt hbz
 have hb0z:=fun l=>ae (l:=l) hbz
 have hVV:=bp.1 hV
 have hSS:=bi.1 hS
 have hss:=cw.1 hsB
 have hsc9:=hss.1
 have hx6:xs.length<=1000000:=by have h4:=hVV.len;have:=Int.mul_le_mul hVV.w1 hVV.h1 (by have:=hVV.h0;omega) (by decide);omega
 have hok:(∀b∈aN W Hh xs l sc ra 32,bl b=true)/\(aN W Hh xs l sc ra 32).length<=l.length+32+([]:List T6).length:=eV (xs:=xs) (s:=sc) (g:=ra) ⟨hVV.w0,hVV.w1⟩ ⟨hVV.h0,hVV.h1⟩ (l.length+2*32) l 32 [] rfl hSS.2 (fun b hb=>by cases hb)
 have hR6:(aN W Hh xs l sc ra 32).length<=64:=by have h1:=hok.2;simp only[List.length_nil] at h1;have h2:=hSS.1;omega
 have hRv:=hok.1
 (refine aR func22 _ rfl (Nat.le_of_ble_eq_true (by kernel_rfl)) rfl ?_;intro hbel Q hQ hQ' c hc;unfold Tryz.f22 at hc;simp only[Option.some.injEq] at hc;subst hc;clear hQ')
 refine zQF hQ fun Q6 hn6 hQ6 he6=>?_
 have G3:=jn @hbpp (jn @hb0pp (jn @hbs (jn @hb0s (jn @hbq (jn @hb0q (jn @hbz (jn @hb0z (jn @hsB @Option.isNone_some.{0}))))))))
 refine aa G3 ?_
 refine hn6 _ _ (zQF hQ fun Q7 hn7 hQ7 he7=>?_)
 refine aa G3 ?_
 refine cvr G3 (ge _ _ sc (zA2 hb0q hbq)) ?_
 refine hn7 _ _ (zQF hQ fun Q8 hn8 hQ8 he8=>?_)
 refine aa G3 ?_
 refine hn8 _ _ (zQF hQ fun Q9 hn9 hQ9 he9=>?_)
 refine aa G3 ?_
 refine cx (lm _ W _ _ xs _ l _ sc _ 32 (zA2 hb0pp hbpp) (zA2 hb0s hbs) (zA2 hb0q hbq) (by assumption) (by assumption) (by assumption) (by assumption) (by assumption) (by omega)) ?_
 refine aa G3 ?_
 refine hn9 _ _ (zQF hQ fun Q10 hn10 hQ10 he10=>?_)
 refine rcs G3 (fun h1 h1d _=>?_) (fun h1 h1d _=>?_)
 ·have h1n:=bnT h1
  have G4:=jn h1 (jn h1n (jn @aK (jn @aJ (jn @hblz (jn @d5 (jn @ee (jn @ez (jn @d9 (jn @eW (jn @ft (jn @eX (jn @fu (jn @List.length_set.{0} (jn @List.set_set.{0} G3))))))))))))))
  refine aa G4 ?_
  refine hQ10 _ _ (fz (b1:=.cells true 0 [iV W,iV Hh,.sl (some (bpp,0)) xs.length cpp,.sl (some (bs,0)) l.length cs,iV tu,iV le,iV sl,iV ra,.bool true]) (.cells true 0 [iV W,iV Hh,.sl (some (bpp,0)) xs.length cpp,.sl (some (bs,0)) l.length cs,iV tu,iV le,iV sl,iV ra,.bool true]) (l1:=[.cells (aI (aN W Hh xs l sc ra 32).length) 6 (r6 (aN W Hh xs l sc ra 32))]) (l2:=[]) (.inl rfl) hbel hblz (by rfl) (x1:=iV 12) (iV 12) (aU results22) [] rfl [] (by decide) ⟨rfl,List.append_nil _⟩ ?_)
  exact aF (jn @hblpp (jn @hbls (jn @hblz @hblq)))
 have h1n:=bnT h1
 simp[hRn] at h1d
theorem rse_y (H:ac)(W Hh:Int)(pp:AV)(xs:List Int)(s:AV)(l:List T6)(tu le sl ra:Int)(bz:Nat)(q:AV)(sc:List (Int×Int))(hpp:zI H pp xs)(hs:Sl H 6 s l.length (r6 l))(hz:H[bz]? = some (.cells true 0 [iV W,iV Hh,pp,s,iV tu,iV le,iV sl,iV ra,.bool false]))(hq:SlP H q sc)(hV:bK W Hh xs=true)(hS:bk l=true)(hl0:0<l.length)(hsB:bP sc=true)(hg:1<=ra/\ra<=32)(hR0:0<(aN W Hh xs l sc ra 32).length)(o:List Int)(ho:lnO W Hh xs (cpL (aN W Hh xs l sc ra 32)) sc ra=some o)(ho0:0<o.length):zC 22 [.ptr (some (bz,0)),q] H (iV 0) (H.set bz (.cells true 0 [iV W,iV Hh,.sl (some (H.length,0)) o.length none,.sl (some (H.length+1,0)) ((cpL (aN W Hh xs l sc ra 32)).length) none,iV tu,iV le,iV sl,iV ra,.bool false])++[.cells true 1 (ints .u8 o),.cells true 6 (r6 (cpL (aN W Hh xs l sc ra 32)))]):=by
 obtain⟨bpp,opp,cpp,rfl,hbpp,hblpp,hb0pp⟩:=zA1 hpp
 obtain⟨bs,os,cs,rfl,hbs,hbls,hb0s⟩:=zA1 hs
 obtain⟨bq,oq,cq,rfl,hbq,hblq,hb0q⟩:=zA1 hq
 have hbz:=hz
 have hblz:=getElem?_lt hbz
 have hb0z:=fun l=>ae (l:=l) hbz
 have hVV:=bp.1 hV
 have hSS:=bi.1 hS
 have hss:=cw.1 hsB
 have hsc9:=hss.1
 have hx6:xs.length<=1000000:=by have h4:=hVV.len;have:=Int.mul_le_mul hVV.w1 hVV.h1 (by have:=hVV.h0;omega) (by decide);omega
 have hok:(∀b∈aN W Hh xs l sc ra 32,bl b=true)/\(aN W Hh xs l sc ra 32).length<=l.length+32+([]:List T6).length:=eV (xs:=xs) (s:=sc) (g:=ra) ⟨hVV.w0,hVV.w1⟩ ⟨hVV.h0,hVV.h1⟩ (l.length+2*32) l 32 [] rfl hSS.2 (fun b hb=>by cases hb)
 have hR6:(aN W Hh xs l sc ra 32).length<=64:=by have h1:=hok.2;simp only[List.length_nil] at h1;have h2:=hSS.1;omega
 have hRv:=hok.1
 have hcp:=jh hR0 hRv
 have hcS:=hcp.1
 have hc0:=hcp.2
 have hc16:=(bi.1 hcS).1
 have hRg:cl W Hh xs (cpL (aN W Hh xs l sc ra 32)) sc ra=true:=cT.2 ⟨hV,hc0,hcS,hsB,hg⟩
 (refine aR func22 _ rfl (Nat.le_of_ble_eq_true (by kernel_rfl)) rfl ?_;intro hbel Q hQ hQ' c hc;unfold Tryz.f22 at hc;simp only[Option.some.injEq] at hc;subst hc;clear hQ')
 refine zQF hQ fun Q11 hn11 hQ11 he11=>?_
 have G5:=jn @hbpp (jn @hb0pp (jn @hbs (jn @hb0s (jn @hbq (jn @hb0q (jn @hbz (jn @hb0z (jn @hsB @Option.isNone_some.{0}))))))))
 refine aa G5 ?_
 refine hn11 _ _ (zQF hQ fun Q12 hn12 hQ12 he12=>?_)
 refine aa G5 ?_
 refine cvr G5 (ge _ _ sc (zA2 hb0q hbq)) ?_
 refine hn12 _ _ (zQF hQ fun Q13 hn13 hQ13 he13=>?_)
 refine aa G5 ?_
 refine hn13 _ _ (zQF hQ fun Q14 hn14 hQ14 he14=>?_)
 refine aa G5 ?_
 refine cx (lm _ W _ _ xs _ l _ sc _ 32 (zA2 hb0pp hbpp) (zA2 hb0s hbs) (zA2 hb0q hbq) (by assumption) (by assumption) (by assumption) (by assumption) (by assumption) (by omega)) ?_
 refine aa G5 ?_
 refine hn14 _ _ (zQF hQ fun Q15 hn15 hQ15 he15=>?_)
 refine rcs G5 (fun h1 h1d _=>?_) (fun h1 h1d _=>?_)
 ·have h1n:=bnT h1
  omega
 have h1n:=bnT h1
 have G6:=jn h1 (jn h1n (jn @aK (jn @aJ G5)))
 refine aa G6 ?_
 refine hn15 _ _ (zQF hQ fun Q16 hn16 hQ16 he16=>?_)
 refine aa G6 ?_
 refine cvr G6 (rcomp_c _ _ (aN W Hh xs l sc ra 32) ⟨_,_,_,by rfl,by (rw[cN];rfl)⟩ (by omega) (by assumption) (by assumption)) ?_
 refine hn16 _ _ ?_
 refine aL false try_mixed [[0,1,2,3,4,5,6,7,8,9,10,11,12,13,14,15,16,17],[0,1,2,3,4,5,6,7,8,9,10,15,11,12,13,14,16,17]] (by kernel_rfl) (fun F2 H2=>F2=[(0,.ptr (some (bz,0))),(4,iV 0),(5,.sl (some (H.length,0)) ((cpL (aN W Hh xs l sc ra 32)).length) none),(7,.ptr (some (H.length+2,0))),(8,iV 0)]/\H2=H++[.cells true 6 (r6 (cpL (aN W Hh xs l sc ra 32))),.cells true 1 (ints .u8 o),.cells true 0 [iV W,iV Hh,.sl (some (H.length+1,0)) o.length none]]) ?_ ?_
 ·refine af ?_ (af ?_ (aQ))<;>intro J hJ
  ·refine ag G6 ?_
   refine cx (pL _ W Hh _ xs _ (cpL (aN W Hh xs l sc ra 32)) _ sc ra o (zA2 hb0pp hbpp) ⟨_,_,_,by rfl,by (rw[ah];rfl)⟩ (zA2 hb0q hbq) (by assumption) (by assumption) (by assumption)) ?_
   refine ag G6 ?_
   refine ai (hJ _ _ ⟨_,_,_,⟨rfl,rfl⟩,bS hbel [1,2,3] (al (jn @ap (jn @au (jn @aA @ax))))⟩)
  refine ag G6 ?_
  refine cx (pL _ W Hh _ xs _ (cpL (aN W Hh xs l sc ra 32)) _ sc ra o (zA2 hb0pp hbpp) ⟨_,_,_,by rfl,by (rw[ah];rfl)⟩ (zA2 hb0q hbq) (by assumption) (by assumption) (by assumption)) ?_
  refine ag G6 ?_
  refine ai (hJ _ _ ⟨_,_,_,⟨rfl,rfl⟩,bS hbel [1,3,2] (al (jn @ap (jn @au (jn @aA @ax))))⟩)
 rintro F2 H2 ⟨rfl,rfl⟩
 refine fnF ?_
 have G7:=jn @bo (jn @cQ (jn @bU (jn @cr (jn @hblz (jn @d5 (jn @ee (jn @ez (jn @d9 (jn @eW (jn @ft (jn @eX (jn @fu (jn @List.length_set.{0} (jn @List.set_set.{0} G6))))))))))))))
 refine aa G7 ?_
 refine hQ _ _ (fz (b1:=.cells true 0 [iV W,iV Hh,.sl (some (H.length+1,0)) o.length none,.sl (some (H.length,0)) ((cpL (aN W Hh xs l sc ra 32)).length) none,iV tu,iV le,iV sl,iV ra,.bool false]) (.cells true 0 [iV W,iV Hh,.sl (some (H.length,0)) o.length none,.sl (some (H.length+1,0)) ((cpL (aN W Hh xs l sc ra 32)).length) none,iV tu,iV le,iV sl,iV ra,.bool false]) (l1:=[.cells true 6 (r6 (cpL (aN W Hh xs l sc ra 32))),.cells true 1 (ints .u8 o),.cells true 0 [iV W,iV Hh,.sl (some (H.length+1,0)) o.length none]]) (l2:=[.cells true 1 (ints .u8 o),.cells true 6 (r6 (cpL (aN W Hh xs l sc ra 32)))]) (.inl rfl) hbel hblz (by rfl) (x1:=iV 0) (iV 0) (aU results22) [] rfl [1,0] (by decide) ⟨rfl,rfl⟩ ?_)
 exact aF (jn @ax (jn @eG (jn @hblpp (jn @hbls (jn @hblz @hblq)))))
def bdI (n:Int):Nat:=(n%12).toNat
theorem bdI_ok (n:Int):bO (((bdI n%2:Nat):Int)) (((bdI n%3:Nat):Int)) (((bdI n%4:Nat):Int)) (1+((bdI n:Nat):Int))=true:=by
 have h:bdI n<12:=by unfold bdI;omega
 simp only[bO,Bool.and_eq_true,bm]
 omega
theorem bdi_c (H:ac)(n:Int):zC 15 [iV n] H (.agg [iV ((bdI n%2:Nat):Int),iV ((bdI n%3:Nat):Int),iV ((bdI n%4:Nat):Int),iV (1+((bdI n:Nat):Int))]) H:=by
 refine AcT true func15 ?_;intro hbel Q hQ
 have G1:=jn @rem_n2 (jn @rem_n3 @rem_n4)
 refine aa G1 ?_
 refine cvr G1 (lb _ n _ (by omega) (by omega)) ?_
 exact eP hQ hbel (.agg [iV ((((n%12).toNat)%2:Nat):Int),iV ((((n%12).toNat)%3:Nat):Int),iV ((((n%12).toNat)%4:Nat):Int),iV (1+(((n%12).toNat:Nat):Int))]) results15 ⟨rfl,rfl⟩
theorem lmv_nil (H:ac)(t g:Int)(still:Bool):zC 19 [.ptr none,.agg [iV t,iV g],.bool still] H (iV 1) H:=by
 refine AcT true func19 ?_;intro hbel Q hQ
 have G2:=jn @Option.isNone_none.{0} trivial
 exact eR G2 hQ hbel (iV 1) results19 ⟨rfl,rfl⟩
theorem lse_nil (H:ac)(q:AV)(sc:List (Int×Int))(hq:SlP H q sc):zC 21 [.ptr none,q] H (iV 1) H:=by
 obtain⟨bq,oq,cq,rfl,hbq,hblq,hb0q⟩:=zA1 hq
 (refine aR func21 _ rfl (Nat.le_of_ble_eq_true (by kernel_rfl)) rfl ?_;intro hbel Q hQ hQ' c hc;unfold Tryz.f21 at hc;simp only[Option.some.injEq] at hc;subst hc;clear hQ')
 refine zQT hQ fun Q1 hn1 hQ1 he1=>?_
 have G3:=jn @hbq (jn @hb0q @Option.isNone_none.{0})
 refine aa G3 ?_
 refine hn1 _ _ (zQT hQ fun Q2 hn2 hQ2 he2=>?_)
 exact eS G3 hQ2 hbel (iV 1) results21 ⟨rfl,rfl⟩
theorem rmv_nil (H:ac)(t g:Int)(still:Bool):zC 20 [.ptr none,.agg [iV t,iV g],.bool still] H (iV 1) H:=by
 refine AcT true func20 ?_;intro hbel Q hQ
 have G4:=jn @Option.isNone_none.{0} trivial
 exact eR G4 hQ hbel (iV 1) results20 ⟨rfl,rfl⟩
theorem rse_nil (H:ac)(q:AV)(sc:List (Int×Int))(hq:SlP H q sc):zC 22 [.ptr none,q] H (iV 1) H:=by
 obtain⟨bq,oq,cq,rfl,hbq,hblq,hb0q⟩:=zA1 hq
 (refine aR func22 _ rfl (Nat.le_of_ble_eq_true (by kernel_rfl)) rfl ?_;intro hbel Q hQ hQ' c hc;unfold Tryz.f22 at hc;simp only[Option.some.injEq] at hc;subst hc;clear hQ')
 refine zQT hQ fun Q3 hn3 hQ3 he3=>?_
 have G5:=jn @hbq (jn @hb0q @Option.isNone_none.{0})
 refine aa G5 ?_
 refine hn3 _ _ (zQT hQ fun Q4 hn4 hQ4 he4=>?_)
 exact eS G5 hQ4 hbel (iV 1) results22 ⟨rfl,rfl⟩
theorem rse_l (H:ac)(W Hh:Int)(pp:AV)(xs:List Int)(s:AV)(l:List T6)(tu le sl ra:Int)(bz:Nat)(q:AV)(sc:List (Int×Int))(hpp:zI H pp xs)(hs:Sl H 6 s l.length (r6 l))(hz:H[bz]? = some (.cells true 0 [iV W,iV Hh,pp,s,iV tu,iV le,iV sl,iV ra,.bool false]))(hq:SlP H q sc)(hV:bK W Hh xs=true)(hS:bk l=true)(hl0:0<l.length)(hsB:bP sc=true)(hg:1<=ra/\ra<=32)(hR0:0<(aN W Hh xs l sc ra 32).length)(ho:lnO W Hh xs (cpL (aN W Hh xs l sc ra 32)) sc ra=none):zC 22 [.ptr (some (bz,0)),q] H (iV 11) (H.set bz (.cells true 0 [iV W,iV Hh,pp,s,iV tu,iV le,iV sl,iV ra,.bool true])):=by
 obtain⟨bpp,opp,cpp,rfl,hbpp,hblpp,hb0pp⟩:=zA1 hpp
 obtain⟨bs,os,cs,rfl,hbs,hbls,hb0s⟩:=zA1 hs
 obtain⟨bq,oq,cq,rfl,hbq,hblq,hb0q⟩:=zA1 hq
 have hbz:=hz
 have hblz:=getElem?_lt hbz
 have hb0z:=fun l=>ae (l:=l) hbz
 have hVV:=bp.1 hV
 have hSS:=bi.1 hS
 have hss:=cw.1 hsB
 have hsc9:=hss.1
 have hx6:xs.length<=1000000:=by have h4:=hVV.len;have:=Int.mul_le_mul hVV.w1 hVV.h1 (by have:=hVV.h0;omega) (by decide);omega
 have hok:(∀b∈aN W Hh xs l sc ra 32,bl b=true)/\(aN W Hh xs l sc ra 32).length<=l.length+32+([]:List T6).length:=eV (xs:=xs) (s:=sc) (g:=ra) ⟨hVV.w0,hVV.w1⟩ ⟨hVV.h0,hVV.h1⟩ (l.length+2*32) l 32 [] rfl hSS.2 (fun b hb=>by cases hb)
 have hR6:(aN W Hh xs l sc ra 32).length<=64:=by have h1:=hok.2;simp only[List.length_nil] at h1;have h2:=hSS.1;omega
 have hRv:=hok.1
 have hcp:=jh hR0 hRv
 have hcS:=hcp.1
 have hc0:=hcp.2
 have hc16:=(bi.1 hcS).1
 have hRg:cl W Hh xs (cpL (aN W Hh xs l sc ra 32)) sc ra=true:=cT.2 ⟨hV,hc0,hcS,hsB,hg⟩
 (refine aR func22 _ rfl (Nat.le_of_ble_eq_true (by kernel_rfl)) rfl ?_;intro hbel Q hQ hQ' c hc;unfold Tryz.f22 at hc;simp only[Option.some.injEq] at hc;subst hc;clear hQ')
 refine zQF hQ fun Q1 hn1 hQ1 he1=>?_
 have G1:=jn @hbpp (jn @hb0pp (jn @hbs (jn @hb0s (jn @hbq (jn @hb0q (jn @hbz (jn @hb0z (jn @hsB @Option.isNone_some.{0}))))))))
 refine aa G1 ?_
 refine hn1 _ _ (zQF hQ fun Q2 hn2 hQ2 he2=>?_)
 refine aa G1 ?_
 refine cvr G1 (ge _ _ sc (zA2 hb0q hbq)) ?_
 refine hn2 _ _ (zQF hQ fun Q3 hn3 hQ3 he3=>?_)
 refine aa G1 ?_
 refine hn3 _ _ (zQF hQ fun Q4 hn4 hQ4 he4=>?_)
 refine aa G1 ?_
 refine cx (lm _ W _ _ xs _ l _ sc _ 32 (zA2 hb0pp hbpp) (zA2 hb0s hbs) (zA2 hb0q hbq) (by assumption) (by assumption) (by assumption) (by assumption) (by assumption) (by omega)) ?_
 refine aa G1 ?_
 refine hn4 _ _ (zQF hQ fun Q5 hn5 hQ5 he5=>?_)
 refine rcs G1 (fun h1 h1d _=>?_) (fun h1 h1d _=>?_)
 ·have h1n:=bnT h1
  omega
 have h1n:=bnT h1
 have G2:=jn h1 (jn h1n (jn @aK (jn @aJ G1)))
 refine aa G2 ?_
 refine hn5 _ _ (zQF hQ fun Q6 hn6 hQ6 he6=>?_)
 refine aa G2 ?_
 refine cvr G2 (rcomp_c _ _ (aN W Hh xs l sc ra 32) ⟨_,_,_,by rfl,by (rw[cN];rfl)⟩ (by omega) (by assumption) (by assumption)) ?_
 refine hn6 _ _ ?_
 refine aL false try_mixed [[0,1,2,3,4,5,6,7,8,9,10,11,12,13,14,15,16,17],[0,1,2,3,4,5,6,7,8,9,10,15,11,12,13,14,16,17]] (by kernel_rfl) (fun F2 H2=>F2=[(0,.ptr (some (bz,0))),(4,iV 0),(5,.sl (some (H.length,0)) ((cpL (aN W Hh xs l sc ra 32)).length) none),(7,.ptr (some (H.length+2,0))),(8,iV 11)]/\H2=H++[.cells true 6 (r6 (cpL (aN W Hh xs l sc ra 32))),.cells (aI ([]:List Int).length) 1 (ints .u8 ([]:List Int)),.cells true 0 [iV 0,iV 0,.sl (some (H.length+1,0)) (([]:List Int).length) none]]) ?_ ?_
 ·refine af ?_ (af ?_ (aQ))<;>intro J hJ
  ·refine ag G2 ?_
   refine cx (pM _ W Hh _ xs _ (cpL (aN W Hh xs l sc ra 32)) _ sc ra (zA2 hb0pp hbpp) ⟨_,_,_,by rfl,by (rw[ah];rfl)⟩ (zA2 hb0q hbq) (by assumption) (by assumption)) ?_
   refine ag G2 ?_
   refine ai (hJ _ _ ⟨_,_,_,⟨rfl,rfl⟩,bS hbel [1,2,3] (al (jn @ap (jn @au (jn @aA @ax))))⟩)
  refine ag G2 ?_
  refine cx (pM _ W Hh _ xs _ (cpL (aN W Hh xs l sc ra 32)) _ sc ra (zA2 hb0pp hbpp) ⟨_,_,_,by rfl,by (rw[ah];rfl)⟩ (zA2 hb0q hbq) (by assumption) (by assumption)) ?_
  refine ag G2 ?_
  refine ai (hJ _ _ ⟨_,_,_,⟨rfl,rfl⟩,bS hbel [1,3,2] (al (jn @ap (jn @au (jn @aA @ax))))⟩)
 rintro F2 H2 ⟨rfl,rfl⟩
 refine fnF ?_
 have G3:=jn @bo (jn @cQ (jn @bU (jn @cr (jn @hblz (jn @d5 (jn @ee (jn @ez (jn @d9 (jn @eW (jn @ft (jn @eX (jn @fu (jn @List.length_set.{0} (jn @List.set_set.{0} G2))))))))))))))
 refine aa G3 ?_
 refine hQ _ _ (fz (b1:=.cells true 0 [iV W,iV Hh,.sl (some (bpp,0)) xs.length cpp,.sl (some (bs,0)) l.length cs,iV tu,iV le,iV sl,iV ra,.bool true]) (.cells true 0 [iV W,iV Hh,.sl (some (bpp,0)) xs.length cpp,.sl (some (bs,0)) l.length cs,iV tu,iV le,iV sl,iV ra,.bool true]) (l1:=[.cells true 6 (r6 (cpL (aN W Hh xs l sc ra 32))),.cells (aI ([]:List Int).length) 1 (ints .u8 ([]:List Int)),.cells true 0 [iV 0,iV 0,.sl (some (H.length+1,0)) (([]:List Int).length) none]]) (l2:=[]) (.inl rfl) hbel hblz (by rfl) (x1:=iV 11) (iV 11) (aU results22) [] rfl [] (by decide) ⟨rfl,List.append_nil _⟩ ?_)
 exact aF (jn @hblpp (jn @hbls (jn @hblz @hblq)))
def rMv (tu le sl:Int) (Q:List T6) (lo:Bool) (e:Ev):List T6:=if bL e.t e.g=true/\lo=false/\imA Q e.t (stF e.st e.g) tu le sl=true then imS Q e.t (stF e.st e.g) tu le sl Q.length else Q
def rSo (ks:List Int) (Q:List T6) (R:List T6):Option (List Int)->List Int×List T6×Bool
 |some o=>(o,R,false)
 |none=>(ks,Q,true)
def rSe (W Hh ra:Int) (ks:List Int) (Q:List T6) (lo:Bool) (sc:List (Int×Int)):List Int×List T6×Bool:=if bP sc=true/\lo=false then (if 0<(aN W Hh ks Q sc ra 32).length then rSo ks Q (cpL (aN W Hh ks Q sc ra 32)) (lnO W Hh ks (cpL (aN W Hh ks Q sc ra 32)) sc ra) else (ks,Q,true)) else (ks,Q,lo)
def rnN (W Hh tu le sl ra:Int) (xs:List Int) (l:List T6) (evs:List Ev):Nat->List Int×List T6×Bool
 |0=>(xs,l,false)
 |n+1=>rSe W Hh ra (rnN W Hh tu le sl ra xs l evs n).1 (rMv tu le sl (rnN W Hh tu le sl ra xs l evs n).2.1 (rnN W Hh tu le sl ra xs l evs n).2.2 (evG evs n)) (rnN W Hh tu le sl ra xs l evs n).2.2 (evG evs n).sc
section
variable {W Hh tu le sl ra:Int} {ks o:List Int} {Q:List T6} {lo:Bool} {e:Ev} {sc:List (Int×Int)}
theorem rMv_y (h1:bL e.t e.g=true)(h2:lo=false)(h3:imA Q e.t (stF e.st e.g) tu le sl=true):imS Q e.t (stF e.st e.g) tu le sl Q.length=rMv tu le sl Q lo e:=(if_pos ⟨h1,h2,h3⟩).symm
theorem rMv_1 (h1:bL e.t e.g=false):Q=rMv tu le sl Q lo e:=(if_neg (fun q=>by rw[h1] at q;exact absurd q.1 (by decide))).symm
theorem rMv_2 (h1:lo=true):Q=rMv tu le sl Q lo e:=(if_neg (fun q=>by rw[h1] at q;exact absurd q.2.1 (by decide))).symm
theorem rMv_3 (h1:imA Q e.t (stF e.st e.g) tu le sl=false):Q=rMv tu le sl Q lo e:=(if_neg (fun q=>by rw[h1] at q;exact absurd q.2.2 (by decide))).symm
theorem rSe_1 (h1:bP sc=false):(ks,Q,lo)=rSe W Hh ra ks Q lo sc:=(if_neg (fun q=>by rw[h1] at q;exact absurd q.1 (by decide))).symm
theorem rSe_2 (h1:lo=true):(ks,Q,lo)=rSe W Hh ra ks Q lo sc:=(if_neg (fun q=>by rw[h1] at q;exact absurd q.2 (by decide))).symm
theorem rSe_3 (h1:bP sc=true)(h2:lo=false)(h3:(aN W Hh ks Q sc ra 32).length=0):(ks,Q,true)=rSe W Hh ra ks Q lo sc:=((if_pos ⟨h1,h2⟩).trans (if_neg (by omega))).symm
theorem rSe_4 (h1:bP sc=true)(h2:lo=false)(h3:0<(aN W Hh ks Q sc ra 32).length)(h4:lnO W Hh ks (cpL (aN W Hh ks Q sc ra 32)) sc ra=none):(ks,Q,true)=rSe W Hh ra ks Q lo sc:=((if_pos ⟨h1,h2⟩).trans ((if_pos h3).trans (by rw[h4];rfl))).symm
theorem rSe_5 (h1:bP sc=true)(h2:lo=false)(h3:0<(aN W Hh ks Q sc ra 32).length)(h4:lnO W Hh ks (cpL (aN W Hh ks Q sc ra 32)) sc ra=some o):(o,cpL (aN W Hh ks Q sc ra 32),false)=rSe W Hh ra ks Q lo sc:=((if_pos ⟨h1,h2⟩).trans ((if_pos h3).trans (by rw[h4];rfl))).symm
theorem rnN_s {xs:List Int}{l Q1:List T6}{evs:List Ev}{n:Nat}{r:List Int×List T6×Bool}(h:(ks,Q,lo)=rnN W Hh tu le sl ra xs l evs n)(h1:Q1=rMv tu le sl Q lo (evG evs n))(h2:r=rSe W Hh ra ks Q1 lo (evG evs n).sc):r=rnN W Hh tu le sl ra xs l evs (n+1):=by
 show r=rSe W Hh ra (rnN W Hh tu le sl ra xs l evs n).1 (rMv tu le sl (rnN W Hh tu le sl ra xs l evs n).2.1 (rnN W Hh tu le sl ra xs l evs n).2.2 (evG evs n)) (rnN W Hh tu le sl ra xs l evs n).2.2 (evG evs n).sc
 rw[<-h]
 exact h2.trans (by rw[h1])
theorem tr3 {a a':List Int}{b b':List T6}{c c':Bool}(h:(a,b,c)=(a',b',c')):a=a'/\b=b'/\c=c':=by injection h with h1 h2;injection h2 with h2 h3;exact⟨h1,h2,h3⟩
end
theorem r6_st1:∀{l:List T6}{j:Nat}{a:Int},j<l.length->(r6 l).set (j*6) (.int .i64 a)=r6 (l.set j (a,g62 l j,g63 l j,g64 l j,g65 l j,g66 l j))
 |[],j,_,h=>by simp at h
 |p::l,0,_,_=>by simp[au];exact⟨rfl,rfl,rfl,rfl,rfl⟩
 | p::l,j+1,a,h=>by
  have ih:=r6_st1 (l:=l) (j:=j) (a:=a) (by simpa using h)
  have k:(j+1)*6=j*6+1+1+1+1+1+1:=by omega
  rw[au,k]
  simp only[List.set_cons_succ]
  rw[au,ih]
  rfl
theorem lmvY (H:ac)(W Hh:Int)(pp:AV)(xs:List Int)(s:AV)(l:List T6)(tu le sl ra:Int)(lost:Bool)(bz:Nat)(t g:Int)(still:Bool)(hpp:zI H pp xs)(hs:Sl H 6 s l.length (r6 l))(hz:H[bz]? = some (.cells true 0 [iV W,iV Hh,pp,s,iV tu,iV le,iV sl,iV ra,.bool lost]))(hS:bk l=true)(hl0:0<l.length)(hC:bL t g=true)(hB:bO tu le sl ra=true)(hA:imA l t (stF still g) tu le sl=true)(hlo:lost=false):zC 19 [.ptr (some (bz,0)),.agg [iV t,iV g],.bool still] H (iV 0) (H.set bz (.cells true 0 [iV W,iV Hh,pp,.sl (some (H.length,0)) ((imS l t (stF still g) tu le sl l.length).length) none,iV tu,iV le,iV sl,iV ra,.bool false])++[.cells true 6 (r6 (imS l t (stF still g) tu le sl l.length))]):=by
 subst hlo;exact lmv_y H W Hh pp xs s l tu le sl ra bz t g still hpp hs hz hS hl0 hC hB hA
theorem lmvN (H:ac)(W Hh:Int)(pp:AV)(xs:List Int)(s:AV)(l:List T6)(tu le sl ra:Int)(lost:Bool)(bz:Nat)(t g:Int)(still:Bool)(hpp:zI H pp xs)(hs:Sl H 6 s l.length (r6 l))(hz:∃o,H[bz]? = some (.cells o 0 [iV W,iV Hh,pp,s,iV tu,iV le,iV sl,iV ra,.bool lost]))(hS:bk l=true)(hl0:0<l.length)(hC:bL t g=true)(hB:bO tu le sl ra=true)(hA:imA l t (stF still g) tu le sl=false)(hlo:lost=false):zC 19 [.ptr (some (bz,0)),.agg [iV t,iV g],.bool still] H (iV 2) H:=by
 subst hlo;exact lmv_n H W Hh pp xs s l tu le sl ra bz t g still hpp hs hz hS hl0 hC hB hA
theorem lmvS (H:ac)(W Hh:Int)(pp:AV)(xs:List Int)(s:AV)(l:List T6)(tu le sl ra:Int)(lost:Bool)(bz:Nat)(t g:Int)(still:Bool)(hpp:zI H pp xs)(hs:Sl H 6 s l.length (r6 l))(hz:∃o,H[bz]? = some (.cells o 0 [iV W,iV Hh,pp,s,iV tu,iV le,iV sl,iV ra,.bool lost]))(hC:bL t g=true)(hlo:lost=true):zC 19 [.ptr (some (bz,0)),.agg [iV t,iV g],.bool still] H (iV 9) H:=by
 subst hlo;exact lmv_s H W Hh pp xs s l tu le sl ra bz t g still hpp hs hz hC
theorem lseS (H:ac)(W Hh:Int)(pp:AV)(xs:List Int)(s:AV)(l:List T6)(tu le sl ra:Int)(lost:Bool)(bz:Nat)(q:AV)(sc:List (Int×Int))(hpp:zI H pp xs)(hs:Sl H 6 s l.length (r6 l))(hz:∃o,H[bz]? = some (.cells o 0 [iV W,iV Hh,pp,s,iV tu,iV le,iV sl,iV ra,.bool lost]))(hq:SlP H q sc)(hsl:sc.length<=1000000000)(hsB:bP sc=true)(hlo:lost=true):zC 21 [.ptr (some (bz,0)),q] H (iV 9) H:=by
 subst hlo;exact lse_s H W Hh pp xs s l tu le sl ra bz q sc hpp hs hz hq hsl hsB
theorem lseE (H:ac)(W Hh:Int)(pp:AV)(xs:List Int)(s:AV)(l:List T6)(tu le sl ra:Int)(lost:Bool)(bz:Nat)(q:AV)(sc:List (Int×Int))(hpp:zI H pp xs)(hs:Sl H 6 s l.length (r6 l))(hz:H[bz]? = some (.cells true 0 [iV W,iV Hh,pp,s,iV tu,iV le,iV sl,iV ra,.bool lost]))(hq:SlP H q sc)(hV:bK W Hh xs=true)(hS:bk l=true)(hl0:0<l.length)(hsB:bP sc=true)(hg:1<=ra/\ra<=32)(hRn:(aN W Hh xs l sc ra 32).length=0)(hlo:lost=false):zC 21 [.ptr (some (bz,0)),q] H (iV 12) (H.set bz (.cells true 0 [iV W,iV Hh,pp,s,iV tu,iV le,iV sl,iV ra,.bool true])):=by
 subst hlo;exact lse_e H W Hh pp xs s l tu le sl ra bz q sc hpp hs hz hq hV hS hl0 hsB hg hRn
theorem lseL (H:ac)(W Hh:Int)(pp:AV)(xs:List Int)(s:AV)(l:List T6)(tu le sl ra:Int)(lost:Bool)(bz:Nat)(q:AV)(sc:List (Int×Int))(hpp:zI H pp xs)(hs:Sl H 6 s l.length (r6 l))(hz:H[bz]? = some (.cells true 0 [iV W,iV Hh,pp,s,iV tu,iV le,iV sl,iV ra,.bool lost]))(hq:SlP H q sc)(hV:bK W Hh xs=true)(hS:bk l=true)(hl0:0<l.length)(hsB:bP sc=true)(hg:1<=ra/\ra<=32)(hR0:0<(aN W Hh xs l sc ra 32).length)(ho:lnO W Hh xs (cpL (aN W Hh xs l sc ra 32)) sc ra=none)(hlo:lost=false):zC 21 [.ptr (some (bz,0)),q] H (iV 11) (H.set bz (.cells true 0 [iV W,iV Hh,pp,s,iV tu,iV le,iV sl,iV ra,.bool true])):=by
 subst hlo;exact lse_l H W Hh pp xs s l tu le sl ra bz q sc hpp hs hz hq hV hS hl0 hsB hg hR0 ho
theorem lseY (H:ac)(W Hh:Int)(pp:AV)(xs:List Int)(s:AV)(l:List T6)(tu le sl ra:Int)(lost:Bool)(bz:Nat)(q:AV)(sc:List (Int×Int))(hpp:zI H pp xs)(hs:Sl H 6 s l.length (r6 l))(hz:H[bz]? = some (.cells true 0 [iV W,iV Hh,pp,s,iV tu,iV le,iV sl,iV ra,.bool lost]))(hq:SlP H q sc)(hV:bK W Hh xs=true)(hS:bk l=true)(hl0:0<l.length)(hsB:bP sc=true)(hg:1<=ra/\ra<=32)(hR0:0<(aN W Hh xs l sc ra 32).length)(o:List Int)(ho:lnO W Hh xs (cpL (aN W Hh xs l sc ra 32)) sc ra=some o)(ho0:0<o.length)(hlo:lost=false):zC 21 [.ptr (some (bz,0)),q] H (iV 0) (H.set bz (.cells true 0 [iV W,iV Hh,.sl (some (H.length,0)) o.length none,.sl (some (H.length+1,0)) ((cpL (aN W Hh xs l sc ra 32)).length) none,iV tu,iV le,iV sl,iV ra,.bool false])++[.cells true 1 (ints .u8 o),.cells true 6 (r6 (cpL (aN W Hh xs l sc ra 32)))]):=by
 subst hlo;exact lse_y H W Hh pp xs s l tu le sl ra bz q sc hpp hs hz hq hV hS hl0 hsB hg hR0 o ho ho0
theorem rmvY (H:ac)(W Hh:Int)(pp:AV)(xs:List Int)(s:AV)(l:List T6)(tu le sl ra:Int)(lost:Bool)(bz:Nat)(t g:Int)(still:Bool)(hpp:zI H pp xs)(hs:Sl H 6 s l.length (r6 l))(hz:H[bz]? = some (.cells true 0 [iV W,iV Hh,pp,s,iV tu,iV le,iV sl,iV ra,.bool lost]))(hS:bk l=true)(hl0:0<l.length)(hC:bL t g=true)(hB:bO tu le sl ra=true)(hA:imA l t (stF still g) tu le sl=true)(hlo:lost=false):zC 20 [.ptr (some (bz,0)),.agg [iV t,iV g],.bool still] H (iV 0) (H.set bz (.cells true 0 [iV W,iV Hh,pp,.sl (some (H.length,0)) ((imS l t (stF still g) tu le sl l.length).length) none,iV tu,iV le,iV sl,iV ra,.bool false])++[.cells true 6 (r6 (imS l t (stF still g) tu le sl l.length))]):=by
 subst hlo;exact rmv_y H W Hh pp xs s l tu le sl ra bz t g still hpp hs hz hS hl0 hC hB hA
theorem rmvN (H:ac)(W Hh:Int)(pp:AV)(xs:List Int)(s:AV)(l:List T6)(tu le sl ra:Int)(lost:Bool)(bz:Nat)(t g:Int)(still:Bool)(hpp:zI H pp xs)(hs:Sl H 6 s l.length (r6 l))(hz:∃o,H[bz]? = some (.cells o 0 [iV W,iV Hh,pp,s,iV tu,iV le,iV sl,iV ra,.bool lost]))(hS:bk l=true)(hl0:0<l.length)(hC:bL t g=true)(hB:bO tu le sl ra=true)(hA:imA l t (stF still g) tu le sl=false)(hlo:lost=false):zC 20 [.ptr (some (bz,0)),.agg [iV t,iV g],.bool still] H (iV 2) H:=by
 subst hlo;exact rmv_n H W Hh pp xs s l tu le sl ra bz t g still hpp hs hz hS hl0 hC hB hA
theorem rmvS (H:ac)(W Hh:Int)(pp:AV)(xs:List Int)(s:AV)(l:List T6)(tu le sl ra:Int)(lost:Bool)(bz:Nat)(t g:Int)(still:Bool)(hpp:zI H pp xs)(hs:Sl H 6 s l.length (r6 l))(hz:∃o,H[bz]? = some (.cells o 0 [iV W,iV Hh,pp,s,iV tu,iV le,iV sl,iV ra,.bool lost]))(hC:bL t g=true)(hlo:lost=true):zC 20 [.ptr (some (bz,0)),.agg [iV t,iV g],.bool still] H (iV 9) H:=by
 subst hlo;exact rmv_s H W Hh pp xs s l tu le sl ra bz t g still hpp hs hz hC
theorem rseS (H:ac)(W Hh:Int)(pp:AV)(xs:List Int)(s:AV)(l:List T6)(tu le sl ra:Int)(lost:Bool)(bz:Nat)(q:AV)(sc:List (Int×Int))(hpp:zI H pp xs)(hs:Sl H 6 s l.length (r6 l))(hz:∃o,H[bz]? = some (.cells o 0 [iV W,iV Hh,pp,s,iV tu,iV le,iV sl,iV ra,.bool lost]))(hq:SlP H q sc)(hsl:sc.length<=1000000000)(hsB:bP sc=true)(hlo:lost=true):zC 22 [.ptr (some (bz,0)),q] H (iV 9) H:=by
 subst hlo;exact rse_s H W Hh pp xs s l tu le sl ra bz q sc hpp hs hz hq hsl hsB
theorem rseE (H:ac)(W Hh:Int)(pp:AV)(xs:List Int)(s:AV)(l:List T6)(tu le sl ra:Int)(lost:Bool)(bz:Nat)(q:AV)(sc:List (Int×Int))(hpp:zI H pp xs)(hs:Sl H 6 s l.length (r6 l))(hz:H[bz]? = some (.cells true 0 [iV W,iV Hh,pp,s,iV tu,iV le,iV sl,iV ra,.bool lost]))(hq:SlP H q sc)(hV:bK W Hh xs=true)(hS:bk l=true)(hl0:0<l.length)(hsB:bP sc=true)(hg:1<=ra/\ra<=32)(hRn:(aN W Hh xs l sc ra 32).length=0)(hlo:lost=false):zC 22 [.ptr (some (bz,0)),q] H (iV 12) (H.set bz (.cells true 0 [iV W,iV Hh,pp,s,iV tu,iV le,iV sl,iV ra,.bool true])):=by
 subst hlo;exact rse_e H W Hh pp xs s l tu le sl ra bz q sc hpp hs hz hq hV hS hl0 hsB hg hRn
theorem rseL (H:ac)(W Hh:Int)(pp:AV)(xs:List Int)(s:AV)(l:List T6)(tu le sl ra:Int)(lost:Bool)(bz:Nat)(q:AV)(sc:List (Int×Int))(hpp:zI H pp xs)(hs:Sl H 6 s l.length (r6 l))(hz:H[bz]? = some (.cells true 0 [iV W,iV Hh,pp,s,iV tu,iV le,iV sl,iV ra,.bool lost]))(hq:SlP H q sc)(hV:bK W Hh xs=true)(hS:bk l=true)(hl0:0<l.length)(hsB:bP sc=true)(hg:1<=ra/\ra<=32)(hR0:0<(aN W Hh xs l sc ra 32).length)(ho:lnO W Hh xs (cpL (aN W Hh xs l sc ra 32)) sc ra=none)(hlo:lost=false):zC 22 [.ptr (some (bz,0)),q] H (iV 11) (H.set bz (.cells true 0 [iV W,iV Hh,pp,s,iV tu,iV le,iV sl,iV ra,.bool true])):=by
 subst hlo;exact rse_l H W Hh pp xs s l tu le sl ra bz q sc hpp hs hz hq hV hS hl0 hsB hg hR0 ho
theorem rseY (H:ac)(W Hh:Int)(pp:AV)(xs:List Int)(s:AV)(l:List T6)(tu le sl ra:Int)(lost:Bool)(bz:Nat)(q:AV)(sc:List (Int×Int))(hpp:zI H pp xs)(hs:Sl H 6 s l.length (r6 l))(hz:H[bz]? = some (.cells true 0 [iV W,iV Hh,pp,s,iV tu,iV le,iV sl,iV ra,.bool lost]))(hq:SlP H q sc)(hV:bK W Hh xs=true)(hS:bk l=true)(hl0:0<l.length)(hsB:bP sc=true)(hg:1<=ra/\ra<=32)(hR0:0<(aN W Hh xs l sc ra 32).length)(o:List Int)(ho:lnO W Hh xs (cpL (aN W Hh xs l sc ra 32)) sc ra=some o)(ho0:0<o.length)(hlo:lost=false):zC 22 [.ptr (some (bz,0)),q] H (iV 0) (H.set bz (.cells true 0 [iV W,iV Hh,.sl (some (H.length,0)) o.length none,.sl (some (H.length+1,0)) ((cpL (aN W Hh xs l sc ra 32)).length) none,iV tu,iV le,iV sl,iV ra,.bool false])++[.cells true 1 (ints .u8 o),.cells true 6 (r6 (cpL (aN W Hh xs l sc ra 32)))]):=by
 subst hlo;exact rse_y H W Hh pp xs s l tu le sl ra bz q sc hpp hs hz hq hV hS hl0 hsB hg hR0 o ho ho0
theorem lcl_c (H:ac)(W Hh:Int)(pp:AV)(xs:List Int)(s:AV)(l:List T6)(ev:AV)(evs:List Ev)(hpp:zI H pp xs)(hs:Sl H 6 s l.length (r6 l))(hev:Sl H 5 ev evs.length (e5R evs))(hll:l.length<=9223372036854775807)(hel:evs.length<=9223372036854775807)(hvo:evOk H evs):zC 6 [.agg [iV W,iV Hh,pp],s,ev] H (.bool true) H:=by
 obtain⟨bpp,opp,cpp,rfl,hbpp,hblpp,hb0pp⟩:=zA1 hpp
 obtain⟨bs,os,cs,rfl,hbs,hbls,hb0s⟩:=zA1 hs
 obtain⟨bev,oev,cev,rfl,hbev,hblev,hb0ev⟩:=zA1 hev
 obtain⟨tu,le,sl,ra,hcB,hB⟩:∃tu le sl ra:Int,(∀H:ac,zC 15 [iV (3)] H (.agg [iV tu,iV le,iV sl,iV ra]) H)/\bO tu le sl ra=true:=⟨_,_,_,_,fun H=>bdi_c H (3),bdI_ok _⟩
 have hbi:=hB
 simp only[bO,Bool.and_eq_true,bm] at hbi
 have hg:1<=ra/\ra<=32:=by omega
 (refine aR func6 _ rfl (Nat.le_of_ble_eq_true (by kernel_rfl)) rfl ?_;intro hbel Q hQ hQ' c hc;unfold Tryz.f6 at hc;simp only[Option.some.injEq] at hc;subst hc;clear hQ')
 refine zQF hQ fun Q1 hn1 hQ1 he1=>?_
 have G1:=jn @hbpp (jn @hb0pp (jn @hbs (jn @hb0s (jn @hbev (jn @hb0ev (jn @Nat.add_assoc (jn @Option.isNone_some.{0} @Option.isNone_none.{0})))))))
 refine aa G1 ?_
 refine hn1 _ _ (zQF hQ fun Q2 hn2 hQ2 he2=>?_)
 refine aa G1 ?_
 refine cvr G1 (kaw_c _) ?_
 refine cv (few_c _ W Hh _ xs _ l _ evs (zA2 hb0pp hbpp) (zA2 hb0s hbs) (zA2 hb0ev hbev) (by omega) (by omega) (by exact hvo.app _)) ?_
 refine rcs G1 (fun h1 h1d G2=>?_) (fun h1 h1d G3=>?_)
 ·refine aa G2 ?_
  refine cvr G2 (kaw_c _) ?_
  exact eP hQ2 hbel (.bool true) results6 ⟨by rfl,rfl⟩
 obtain⟨hf1,hf2,hf3,hf4⟩:=fewB_ok h1d
 have hx6:xs.length<=1000000:=by omega
 refine aa G3 ?_
 refine hn2 _ _ (zQF hQ fun Q3 hn3 hQ3 he3=>?_)
 refine aa G3 ?_
 refine cdr G3 (hcB _) ?_
 rcases Bool.eq_false_or_eq_true (bK W Hh xs&&lsB l&&bO tu le sl ra) with h2|h2
 ·have h2d:=h2
  have hVL:=h2d
  rw[Bool.and_eq_true,Bool.and_eq_true] at hVL
  have hV:=hVL.1.1
  have hL:=hVL.1.2
  have hVV:=bp.1 hV
  have hw0:=hVV.w0
  have hh0:=hVV.h0
  have hw1:=hVV.w1
  have hh1:=hVV.h1
  have hS:=(gc.1 hL).2
  have hl0:=(gc.1 hL).1
  have hl16:=(bi.1 hS).1
  have hx0:0<xs.length:=by have:=(hVV.idx (show inB W Hh 0 0=true from c7.2 (by omega))).2.2.2.2.1;omega
  refine cx (lnew_y _ W _ _ xs _ l _ _ _ _ (zA2 hb0pp hbpp) (zA2 hb0s hbs) (by assumption) (by assumption) (by assumption)) ?_
  have G4:=j2 h2 h2d G3
  refine aa G4 ?_
  refine hn3 _ _ (zQF hQ fun Q4 hn4 hQ4 he4=>?_)
  refine aa G4 ?_
  refine cdr G4 (hcB _) ?_
  refine cx (rgnew_y _ W _ _ xs _ l _ _ _ _ (zA2 hb0pp hbpp) (zA2 hb0s hbs) (by assumption) (by assumption) (by assumption)) ?_
  refine aa G4 ?_
  refine hn4 _ _ (zQF hQ fun Q5 hn5 hQ5 he5=>?_)
  refine aa G4 ?_
  refine cvr G4 (lclone_c _ W Hh (.sl (some (H.length+1,0)) xs.length none) xs (.sl (some (H.length+2,0)) l.length none) l tu le sl ra false _ ⟨_,_,_,by rfl,by (rw[ah];rfl)⟩ ⟨_,_,_,by rfl,by (rw[ah];rfl)⟩ ⟨_,by (rw[ah];rfl)⟩ (by omega) (by omega) (by omega) (by omega)) ?_
  refine hn5 _ _ (zQF hQ fun Q6 hn6 hQ6 he6=>?_)
  refine aa G4 ?_
  refine cvr G4 (nK _ W Hh (.sl (some (H.length+1,0)) xs.length none) xs (.sl (some (H.length+2,0)) l.length none) l tu le sl ra false _ ⟨_,_,_,by rfl,by (rw[ah];rfl)⟩ ⟨_,_,_,by rfl,by (rw[ah];rfl)⟩ ⟨_,by (rw[ah];rfl)⟩ (by omega) (by assumption)) ?_
  refine hn6 _ _ (zQF hQ fun Q7 hn7 hQ7 he7=>?_)
  refine aa G4 ?_
  refine glp (fun k F Hx=>∃i:Nat,∃mm:List T6,i+k=l.length/\mm.length=l.length/\F=[(2,.sl (some (bev,0)) evs.length cev),(7,.ptr (some (H.length+2,0))),(9,.ptr (some (H.length+5,0))),(11,.ptr (some (H.length+8,0))),(12,.sl (some (H.length+9,0)) mm.length none),(13,iV (i:Int))]/\Hx=H++[.cells true 1 (ints .u8 xs),.cells true 6 (r6 l),.cells true 0 [iV W,iV Hh,.sl (some (H.length,0)) xs.length none,.sl (some (H.length+1,0)) l.length none,iV tu,iV le,iV sl,iV ra,.bool false],.cells true 1 (ints .u8 xs),.cells true 6 (r6 l),.cells true 0 [iV W,iV Hh,.sl (some (H.length+3,0)) xs.length none,.sl (some (H.length+4,0)) l.length none,iV tu,iV le,iV sl,iV ra,.bool false],.cells true 1 (ints .u8 xs),.cells true 6 (r6 l),.cells true 0 [iV W,iV Hh,.sl (some (H.length+6,0)) xs.length none,.sl (some (H.length+7,0)) l.length none,iV tu,iV le,iV sl,iV ra,.bool false],.cells true 6 (r6 mm)]) (l.length) ?_ ?_
  ·refine⟨_,_,_,⟨0,l,by omega,rfl,rfl,rfl⟩,bS hbel [1,2,3,4,5,6,7,8,9,10] (al (jn @ap (jn @au (jn @aA @ax))))⟩
  rintro k0 F Hx ⟨i,mm,hm0,hmm,rfl,rfl⟩ J0 hJ0
  have G5:=jn @bU (jn @cr (jn @bo (jn @cQ G4)))
  refine rcs G5 (fun h3 h3d _=>?_) (fun h3 h3d G7=>?_)
  ·have hlt:i<mm.length:=by omega
   have q4:=g4 (l:=mm) (j:=i) (by omega)
   have G6:=jn h3 (jn h3d (jn q4 (jn @r6_st1 (jn @List.length_set.{0} G5))))
   refine aa G6 ?_
   refine hJ0 _ _ ⟨k0-1,by omega,_,_,_,⟨i+1,(mm.set i (IntKind.i64.wrap ((g61 mm i)-1000),g62 mm i,g63 mm i,g64 mm i,g65 mm i,g66 mm i)),by omega,by rw[List.length_set];exact hmm,rfl,rfl⟩,bS hbel [0,1,2,3,4,5,6,7,8,9] (al (jn @List.length_set.{0} (jn @ap (jn @au (jn @aA @ax)))))⟩
  obtain rfl:i=l.length:=by omega
  refine aa G7 ?_
  refine hn7 _ _ (zQF hQ fun Q8 hn8 hQ8 he8=>?_)
  refine aa G7 ?_
  refine cvr G7 (oH _ W Hh (.sl (some (H.length,0)) xs.length none) xs (.sl (some (H.length+1,0)) l.length none) l tu le sl ra false _ ⟨_,_,_,by rfl,by (rw[cN];rfl)⟩ ⟨_,_,_,by rfl,by (rw[ah];rfl)⟩ ⟨_,by (rw[ah];rfl)⟩ (by omega) (by omega)) ?_
  refine hn8 _ _ (zQF hQ fun Q9 hn9 hQ9 he9=>?_)
  refine aa G7 ?_
  refine glp (fun k F Hx=>∃i:Nat,∃m2:List Int,i+k=xs.length/\m2.length=xs.length/\F=[(2,.sl (some (bev,0)) evs.length cev),(7,.ptr (some (H.length+2,0))),(9,.ptr (some (H.length+5,0))),(11,.ptr (some (H.length+8,0))),(14,.ptr (some (H.length+10,0))),(15,iV (i:Int))]/\Hx=H++[.cells true 1 (ints .u8 xs),.cells true 6 (r6 l),.cells true 0 [iV W,iV Hh,.sl (some (H.length,0)) xs.length none,.sl (some (H.length+1,0)) l.length none,iV tu,iV le,iV sl,iV ra,.bool false],.cells true 1 (ints .u8 xs),.cells true 6 (r6 l),.cells true 0 [iV W,iV Hh,.sl (some (H.length+3,0)) xs.length none,.sl (some (H.length+4,0)) l.length none,iV tu,iV le,iV sl,iV ra,.bool false],.cells true 1 (ints .u8 xs),.cells true 6 (r6 l),.cells true 0 [iV W,iV Hh,.sl (some (H.length+6,0)) xs.length none,.sl (some (H.length+7,0)) l.length none,iV tu,iV le,iV sl,iV ra,.bool false],.cells true 1 (ints .u8 m2),.cells true 0 [iV W,iV Hh,.sl (some (H.length+9,0)) m2.length none]]) (xs.length) ?_ ?_
  ·refine⟨_,_,_,⟨0,xs,by omega,rfl,rfl,rfl⟩,bS hbel [0,1,2,3,4,5,6,7,8,10,11] (al (jn @ap (jn @au (jn @aA @ax))))⟩
  rintro k1 F Hx ⟨i,m2,hm1,hm2,rfl,rfl⟩ J1 hJ1
  refine rcs G7 (fun h5 h5d _=>?_) (fun h5 h5d G9=>?_)
  ·have hlt:i<m2.length:=by omega
   have G8:=jn h5 (jn h5d (jn @fU (jn @List.length_set.{0} G7)))
   refine aa G8 ?_
   refine hJ1 _ _ ⟨k1-1,by omega,_,_,_,⟨i+1,(m2.set i 3),by omega,by rw[List.length_set];exact hm2,rfl,rfl⟩,bS hbel [0,1,2,3,4,5,6,7,8,9,10] (al (jn @List.length_set.{0} (jn @ap (jn @au (jn @aA @ax)))))⟩
  obtain rfl:i=xs.length:=by omega
  refine aa G9 ?_
  refine hn9 _ _ (sqR hQ fun Q10 hn10 hQ10 he10=>?_)
  refine zQF hQ10 fun Q11 hn11 hQ11 he11=>?_
  refine aa G9 ?_
  refine hn11 _ _ ?_
  refine bkR hQ10 fun Q12 hn12 hQ12 he12 hb12=>?_
  refine cW (fun k F Hx=>∃i:Nat,∃ksc:List Int,∃Qsc:List T6,∃losc:Bool,i+k=evs.length/\bK W Hh ksc=true/\bk Qsc=true/\0<Qsc.length/\(ksc,Qsc,losc)=rnN W Hh tu le sl ra xs l evs i/\F=[(2,.sl (some (bev,0)) evs.length cev),(7,.ptr (some (H.length+2,0))),(9,.ptr (some (H.length+5,0))),(11,.ptr (some (H.length+8,0))),(16,iV (i:Int))]/\Hx=H++[.cells true 1 (ints .u8 xs),.cells true 6 (r6 l),.cells true 0 [iV W,iV Hh,.sl (some (H.length,0)) xs.length none,.sl (some (H.length+1,0)) l.length none,iV tu,iV le,iV sl,iV ra,.bool false],.cells true 1 (ints .u8 xs),.cells true 6 (r6 l),.cells true 0 [iV W,iV Hh,.sl (some (H.length+3,0)) xs.length none,.sl (some (H.length+4,0)) l.length none,iV tu,iV le,iV sl,iV ra,.bool false],.cells true 1 (ints .u8 ksc),.cells true 6 (r6 Qsc),.cells true 0 [iV W,iV Hh,.sl (some (H.length+6,0)) ksc.length none,.sl (some (H.length+7,0)) Qsc.length none,iV tu,iV le,iV sl,iV ra,.bool losc]]) (evs.length) ?_ ?_
  ·refine⟨_,_,_,⟨0,xs,l,false,by omega,hV,hS,hl0,rfl,rfl,rfl⟩,bS hbel [0,1,2,3,4,5,6,7,8] (al (jn @ap (jn @au (jn @aA @ax))))⟩
  rintro k2 F Hx ⟨i,ksc,Qsc,losc,hm2,hkVc,hQSc,hQ0c,hrnc,rfl,rfl⟩ Q13 hJ2 hr13 he13
  have hQ13:=fun F H' h=>hr13 F H' (hQ12 F H' h)
  have hQ16c:=(bi.1 hQSc).1
  have hQvc:=(bi.1 hQSc).2
  have hklc:=(bp.1 hkVc).len
  have hwh:=g5 (a:=W) (b:=Hh) (by omega) hw1 (by omega) hh1
  have hk0c:0<ksc.length:=by have:=((bp.1 hkVc).idx (show inB W Hh 0 0=true from c7.2 (by omega))).2.2.2.2.1;omega
  refine zQF hQ13 fun Q14 hn14 hQ14 he14=>?_
  refine rcs G9 (fun h6 h6d G10=>?_) (fun h6 h6d G22=>?_)
  ·have hlt:i<evs.length:=by omega
   obtain⟨bq,oq,cq,hsq,hbq⟩:=hvo.at hlt
   have hblq:=getElem?_lt hbq
   have hb0q:=fun l'=>ae (l:=l') hbq
   have hscl:=hvo.len hlt
   have hsc8:=hf4 i hlt
   refine aa G10 ?_
   refine hn14 _ _ (sqR hQ13 fun Q15 hn15 hQ15 he15=>?_)
   refine bkR hQ15 fun Q16 hn16 hQ16 he16 hb16=>?_
   refine gP false try_mixed (by kernel_rfl) (H.length+6) (by simp) (fun F2 H2=>∃Q1c:List T6,(bk Q1c=true/\0<Q1c.length/\Q1c=rMv tu le sl Qsc losc (evG evs i))/\F2=[(2,.sl (some (bev,0)) evs.length cev),(7,.ptr (some (H.length+2,0))),(9,.ptr (some (H.length+5,0))),(11,.ptr (some (H.length+8,0))),(16,iV (i:Int))]/\H2=H++[.cells true 1 (ints .u8 xs),.cells true 6 (r6 l),.cells true 0 [iV W,iV Hh,.sl (some (H.length,0)) xs.length none,.sl (some (H.length+1,0)) l.length none,iV tu,iV le,iV sl,iV ra,.bool false],.cells true 1 (ints .u8 xs),.cells true 6 (r6 l),.cells true 0 [iV W,iV Hh,.sl (some (H.length+3,0)) xs.length none,.sl (some (H.length+4,0)) l.length none,iV tu,iV le,iV sl,iV ra,.bool false],.cells true 1 (ints .u8 ksc),.cells true 6 (r6 Q1c),.cells true 0 [iV W,iV Hh,.sl (some (H.length+6,0)) ksc.length none,.sl (some (H.length+7,0)) Q1c.length none,iV tu,iV le,iV sl,iV ra,.bool losc]]) ?_ ?_
   ·intro J hJ
    have q7:=jX (l:=evs) (j:=i) (by omega)
    have q8:=iJ (l:=evs) (j:=i) (by omega)
    have G11:=jn @dQ (jn q7 (jn q8 G10))
    refine aa G11 ?_
    rcases Bool.eq_false_or_eq_true (bL ((evG evs i).t) ((evG evs i).g)) with h9|h9
    ·have h9d:=h9
     have hC:=h9d
     have hC2:=gN ((evG evs i).st) hC
     simp only[bL,Bool.and_eq_true,bm] at hC2
     rcases Bool.eq_false_or_eq_true (losc) with h10|h10
     ·have h10d:=h10
      have hloTc:=h10d
      refine cd (lmvS _ W Hh (.sl (some (H.length+6,0)) ksc.length none) ksc (.sl (some (H.length+7,0)) Qsc.length none) Qsc tu le sl ra losc _ _ _ _ ⟨_,_,_,by rfl,by (rw[ah];rfl)⟩ ⟨_,_,_,by rfl,by (rw[ah];rfl)⟩ ⟨_,by (rw[ah];rfl)⟩ (by assumption) (by assumption)) ?_
      have G12:=jn h9 (jn h9d (j2 h10 h10d G11))
      refine aa G12 ?_
      refine ai (hJ _ _ ⟨_,_,_,⟨Qsc,⟨hQSc,hQ0c,rMv_2 hloTc⟩,rfl,rfl⟩,bS hbel [0,1,2,3,4,5,6,7,8] (al (jn @hloTc (jn @ap (jn @au (jn @aA @ax)))))⟩)
     have h10d:=h10
     have hloFc:=h10d
     rcases Bool.eq_false_or_eq_true (imA Qsc ((evG evs i).t) (stF ((evG evs i).st) ((evG evs i).g)) tu le sl) with h11|h11
     ·have h11d:=h11
      have himT:=h11d
      have hSi:bk (imS Qsc ((evG evs i).t) (stF ((evG evs i).st) ((evG evs i).g)) tu le sl Qsc.length)=true:=bi.2 ⟨by rw[cE];exact hQ16c,imS_ok hQvc (by omega) (by omega) (by omega) (by omega) himT⟩
      have h0i:0<(imS Qsc ((evG evs i).t) (stF ((evG evs i).st) ((evG evs i).g)) tu le sl Qsc.length).length:=by rw[cE];exact hQ0c
      refine call_w (by kernel_rfl) (by simp) (fun b h1 h2=>by exact lk (by omega) h1 h2) (lmvY _ W Hh (.sl (some (H.length+6,0)) ksc.length none) ksc (.sl (some (H.length+7,0)) Qsc.length none) Qsc tu le sl ra losc _ ((evG evs i).t) ((evG evs i).g) ((evG evs i).st) ⟨_,_,_,by rfl,by (rw[ah];rfl)⟩ ⟨_,_,_,by rfl,by (rw[ah];rfl)⟩ (by (rw[ah];rfl)) (by assumption) (by assumption) (by assumption) (by assumption) (by assumption) (by assumption)) ?_
      have G13:=jn h9 (jn h9d (jn h10 (jn h10d (j2 h11 h11d G11))))
      refine aa G13 ?_
      refine ai (hJ _ _ ⟨_,_,_,⟨(imS Qsc ((evG evs i).t) (stF ((evG evs i).st) ((evG evs i).g)) tu le sl Qsc.length),⟨hSi,h0i,rMv_y hC hloFc himT⟩,rfl,rfl⟩,bS hbel [0,1,2,3,4,5,6,9,8] (al (jn @hloFc (jn @ap (jn @au (jn @aA @ax)))))⟩)
     have h11d:=h11
     have himF:=h11d
     refine cd (lmvN _ W Hh (.sl (some (H.length+6,0)) ksc.length none) ksc (.sl (some (H.length+7,0)) Qsc.length none) Qsc tu le sl ra losc _ _ _ _ ⟨_,_,_,by rfl,by (rw[ah];rfl)⟩ ⟨_,_,_,by rfl,by (rw[ah];rfl)⟩ ⟨_,by (rw[ah];rfl)⟩ (by assumption) (by assumption) (by assumption) (by assumption) (by assumption) (by assumption)) ?_
     have G14:=jn h9 (jn h9d (jn h10 (jn h10d (j2 h11 h11d G11))))
     refine aa G14 ?_
     refine ai (hJ _ _ ⟨_,_,_,⟨Qsc,⟨hQSc,hQ0c,rMv_3 himF⟩,rfl,rfl⟩,bS hbel [0,1,2,3,4,5,6,7,8] (al (jn @hloFc (jn @ap (jn @au (jn @aA @ax)))))⟩)
    have h9d:=h9
    have hCF:=h9d
    refine cd (lmv_a _ W Hh (.sl (some (H.length+6,0)) ksc.length none) ksc (.sl (some (H.length+7,0)) Qsc.length none) Qsc tu le sl ra losc _ _ _ _ ⟨_,_,_,by rfl,by (rw[ah];rfl)⟩ ⟨_,_,_,by rfl,by (rw[ah];rfl)⟩ ⟨_,by (rw[ah];rfl)⟩ (by assumption)) ?_
    have G15:=j2 h9 h9d G11
    refine aa G15 ?_
    refine ai (hJ _ _ ⟨_,_,_,⟨Qsc,⟨hQSc,hQ0c,rMv_1 hCF⟩,rfl,rfl⟩,bS hbel [0,1,2,3,4,5,6,7,8] (al (jn @ap (jn @au (jn @aA @ax))))⟩)
   rintro F2 H2 ⟨Q1c,pmv,rfl,rfl⟩
   obtain⟨hS1c,h01c,hm1c⟩:=pmv
   refine kz false try_mixed (by kernel_rfl) (fun F2 H2=>∃ks2c:List Int,∃Q2c:List T6,∃lo2c:Bool,(bK W Hh ks2c=true/\bk Q2c=true/\0<Q2c.length/\(ks2c,Q2c,lo2c)=rSe W Hh ra ksc Q1c losc ((evG evs i).sc))/\F2=[(2,.sl (some (bev,0)) evs.length cev),(7,.ptr (some (H.length+2,0))),(9,.ptr (some (H.length+5,0))),(11,.ptr (some (H.length+8,0))),(16,iV (i:Int))]/\H2=H++[.cells true 1 (ints .u8 xs),.cells true 6 (r6 l),.cells true 0 [iV W,iV Hh,.sl (some (H.length,0)) xs.length none,.sl (some (H.length+1,0)) l.length none,iV tu,iV le,iV sl,iV ra,.bool false],.cells true 1 (ints .u8 xs),.cells true 6 (r6 l),.cells true 0 [iV W,iV Hh,.sl (some (H.length+3,0)) xs.length none,.sl (some (H.length+4,0)) l.length none,iV tu,iV le,iV sl,iV ra,.bool false],.cells true 1 (ints .u8 ks2c),.cells true 6 (r6 Q2c),.cells true 0 [iV W,iV Hh,.sl (some (H.length+6,0)) ks2c.length none,.sl (some (H.length+7,0)) Q2c.length none,iV tu,iV le,iV sl,iV ra,.bool lo2c]]) ?_ ?_
   ·intro J hJ
    have q12:=gO (l:=evs) (j:=i) (by omega) hsq
    have G16:=jn @dQ (jn q12 G10)
    refine aa G16 ?_
    rcases Bool.eq_false_or_eq_true (bP ((evG evs i).sc)) with h13|h13
    ·have h13d:=h13
     have hscT:=h13d
     rcases Bool.eq_false_or_eq_true (losc) with h14|h14
     ·have h14d:=h14
      have hloTc:=h14d
      refine cv (lseS _ W Hh (.sl (some (H.length+6,0)) ksc.length none) ksc (.sl (some (H.length+7,0)) Q1c.length none) Q1c tu le sl ra losc _ _ ((evG evs i).sc) ⟨_,_,_,by rfl,by (rw[ah];rfl)⟩ ⟨_,_,_,by rfl,by (rw[ah];rfl)⟩ ⟨_,by (rw[ah];rfl)⟩ (zA2 hb0q hbq) (by omega) (by assumption) (by assumption)) ?_
      have G17:=jn h13 (jn h13d (j2 h14 h14d G16))
      refine aa G17 ?_
      refine ai (hJ _ _ ⟨_,_,_,⟨ksc,Q1c,losc,⟨hkVc,hS1c,h01c,rSe_2 hloTc⟩,rfl,rfl⟩,bS hbel [0,1,2,3,4,5,6,7,8] (al (jn @hloTc (jn @ap (jn @au (jn @aA @ax)))))⟩)
     have h14d:=h14
     have hloFc:=h14d
     rcases Bool.eq_false_or_eq_true (decide (0<(aN W Hh ksc Q1c ((evG evs i).sc) ra 32).length)) with h15|h15
     ·have h15d:=h15
      have hR0:0<(aN W Hh ksc Q1c ((evG evs i).sc) ra 32).length:=of_decide_eq_true h15d
      have hok:(∀b∈aN W Hh ksc Q1c ((evG evs i).sc) ra 32,bl b=true)/\(aN W Hh ksc Q1c ((evG evs i).sc) ra 32).length<=Q1c.length+32+([]:List T6).length:=eV (xs:=ksc) (s:=(evG evs i).sc) (g:=ra) ⟨hw0,hw1⟩ ⟨hh0,hh1⟩ (Q1c.length+2*32) Q1c 32 [] rfl (bi.1 hS1c).2 (fun b hb=>by cases hb)
      have hcp:=jh hR0 hok.1
      have hcS:=hcp.1
      have hc0:=hcp.2
      rcases Bool.eq_false_or_eq_true ((lnO W Hh ksc (cpL (aN W Hh ksc Q1c ((evG evs i).sc) ra 32)) ((evG evs i).sc) ra).isSome) with h16|h16
      ·have h16d:=h16
       obtain⟨oo,hoo⟩:=Option.isSome_iff_exists.1 h16d
       have hov:=ln_v hkVc hoo
       have ho0:0<oo.length:=by rw[hov.2];exact hk0c
       refine cv (lseY _ W Hh (.sl (some (H.length+6,0)) ksc.length none) ksc (.sl (some (H.length+7,0)) Q1c.length none) Q1c tu le sl ra losc _ _ ((evG evs i).sc) ⟨_,_,_,by rfl,by (rw[ah];rfl)⟩ ⟨_,_,_,by rfl,by (rw[ah];rfl)⟩ (by (rw[ah];rfl)) (zA2 hb0q hbq) (by assumption) (by assumption) (by assumption) (by assumption) (by assumption) (by assumption) oo hoo ho0 (by assumption)) ?_
       have G18:=jn h13 (jn h13d (jn h14 (jn h14d (jn h15 (jn h15d (j2 h16 h16d G16))))))
       refine aa G18 ?_
       refine ai (hJ _ _ ⟨_,_,_,⟨oo,(cpL (aN W Hh ksc Q1c ((evG evs i).sc) ra 32)),false,⟨hov.1,hcS,hc0,rSe_5 hscT hloFc hR0 hoo⟩,rfl,rfl⟩,bS hbel [0,1,2,3,4,5,9,10,8] (al (jn @hloFc (jn @ap (jn @au (jn @aA @ax)))))⟩)
      have h16d:=h16
      have hon:=Option.not_isSome_iff_eq_none.1 (by rw[h16d];decide)
      refine cv (lseL _ W Hh (.sl (some (H.length+6,0)) ksc.length none) ksc (.sl (some (H.length+7,0)) Q1c.length none) Q1c tu le sl ra losc _ _ ((evG evs i).sc) ⟨_,_,_,by rfl,by (rw[ah];rfl)⟩ ⟨_,_,_,by rfl,by (rw[ah];rfl)⟩ (by (rw[ah];rfl)) (zA2 hb0q hbq) (by assumption) (by assumption) (by assumption) (by assumption) (by assumption) (by assumption) (by assumption) (by assumption)) ?_
      have G19:=jn h13 (jn h13d (jn h14 (jn h14d (jn h15 (jn h15d (j2 h16 h16d G16))))))
      refine aa G19 ?_
      refine ai (hJ _ _ ⟨_,_,_,⟨ksc,Q1c,true,⟨hkVc,hS1c,h01c,rSe_4 hscT hloFc hR0 hon⟩,rfl,rfl⟩,bS hbel [0,1,2,3,4,5,6,7,8] (al (jn @hloFc (jn @ap (jn @au (jn @aA @ax)))))⟩)
     have h15d:=h15
     have hRn:(aN W Hh ksc Q1c ((evG evs i).sc) ra 32).length=0:=by have:=of_decide_eq_false h15d;omega
     refine cv (lseE _ W Hh (.sl (some (H.length+6,0)) ksc.length none) ksc (.sl (some (H.length+7,0)) Q1c.length none) Q1c tu le sl ra losc _ _ ((evG evs i).sc) ⟨_,_,_,by rfl,by (rw[ah];rfl)⟩ ⟨_,_,_,by rfl,by (rw[ah];rfl)⟩ (by (rw[ah];rfl)) (zA2 hb0q hbq) (by assumption) (by assumption) (by assumption) (by assumption) (by assumption) (by assumption) (by assumption)) ?_
     have G20:=jn h13 (jn h13d (jn h14 (jn h14d (j2 h15 h15d G16))))
     refine aa G20 ?_
     refine ai (hJ _ _ ⟨_,_,_,⟨ksc,Q1c,true,⟨hkVc,hS1c,h01c,rSe_3 hscT hloFc hRn⟩,rfl,rfl⟩,bS hbel [0,1,2,3,4,5,6,7,8] (al (jn @hloFc (jn @ap (jn @au (jn @aA @ax)))))⟩)
    have h13d:=h13
    have hscF:=h13d
    refine cv (lse_a _ W Hh (.sl (some (H.length+6,0)) ksc.length none) ksc (.sl (some (H.length+7,0)) Q1c.length none) Q1c tu le sl ra losc _ _ ((evG evs i).sc) ⟨_,_,_,by rfl,by (rw[ah];rfl)⟩ ⟨_,_,_,by rfl,by (rw[ah];rfl)⟩ ⟨_,by (rw[ah];rfl)⟩ (zA2 hb0q hbq) (by omega) (by assumption)) ?_
    have G21:=j2 h13 h13d G16
    refine aa G21 ?_
    refine ai (hJ _ _ ⟨_,_,_,⟨ksc,Q1c,losc,⟨hkVc,hS1c,h01c,rSe_1 hscF⟩,rfl,rfl⟩,bS hbel [0,1,2,3,4,5,6,7,8] (al (jn @ap (jn @au (jn @aA @ax))))⟩)
   rintro F2 H2 ⟨ks2c,Q2c,lo2c,psv,rfl,rfl⟩
   obtain⟨hkV2c,hS2c,h02c,hs1c⟩:=psv
   refine hn16 _ _ ?_
   refine hn15 _ _ ?_
   refine fnF ?_
   refine aa G10 ?_
   refine hJ2 _ _ ⟨k2-1,by omega,_,_,_,⟨i+1,ks2c,Q2c,lo2c,by omega,hkV2c,hS2c,h02c,rnN_s hrnc hm1c hs1c,rfl,rfl⟩,bS hbel [0,1,2,3,4,5,6,7,8] (al (jn @ap (jn @au (jn @aA @ax))))⟩
  obtain rfl:i=evs.length:=by omega
  refine aa G22 ?_
  refine he14 _ _ _ ?_
  refine he13 _ _ _ ?_
  refine hb12 _ _ ?_
  refine hn10 _ _ (zQF hQ fun Q17 hn17 hQ17 he17=>?_)
  refine aa G22 ?_
  refine cvr G22 (same_y _ W Hh (.sl (some (H.length,0)) xs.length none) xs (.sl (some (H.length+1,0)) l.length none) l tu le sl ra false _ (.sl (some (H.length+3,0)) xs.length none) (.sl (some (H.length+4,0)) l.length none) _ ⟨_,_,_,by rfl,by (rw[cN];rfl)⟩ ⟨_,_,_,by rfl,by (rw[ah];rfl)⟩ ⟨_,by (rw[ah];rfl)⟩ ⟨_,_,_,by rfl,by (rw[ah];rfl)⟩ ⟨_,_,_,by rfl,by (rw[ah];rfl)⟩ ⟨_,by (rw[ah];rfl)⟩ (by omega) (by omega) (by assumption) (by assumption)) ?_
  refine hn17 _ _ (sqR hQ fun Q18 hn18 hQ18 he18=>?_)
  refine zQF hQ18 fun Q19 hn19 hQ19 he19=>?_
  refine aa G22 ?_
  refine hn19 _ _ ?_
  refine bkR hQ18 fun Q20 hn20 hQ20 he20 hb20=>?_
  refine cW (fun k F Hx=>∃i:Nat,∃ks:List Int,∃Q:List T6,∃lo:Bool,i+k=evs.length/\bK W Hh ks=true/\bk Q=true/\0<Q.length/\(ks,Q,lo)=rnN W Hh tu le sl ra xs l evs i/\F=[(2,.sl (some (bev,0)) evs.length cev),(7,.ptr (some (H.length+2,0))),(9,.ptr (some (H.length+5,0))),(11,.ptr (some (H.length+8,0))),(17,iV (i:Int))]/\Hx=H++[.cells true 1 (ints .u8 ks),.cells true 6 (r6 Q),.cells true 0 [iV W,iV Hh,.sl (some (H.length,0)) ks.length none,.sl (some (H.length+1,0)) Q.length none,iV tu,iV le,iV sl,iV ra,.bool lo],.cells true 1 (ints .u8 ks),.cells true 6 (r6 Q),.cells true 0 [iV W,iV Hh,.sl (some (H.length+3,0)) ks.length none,.sl (some (H.length+4,0)) Q.length none,iV tu,iV le,iV sl,iV ra,.bool lo],.cells true 1 (ints .u8 ksc),.cells true 6 (r6 Qsc),.cells true 0 [iV W,iV Hh,.sl (some (H.length+6,0)) ksc.length none,.sl (some (H.length+7,0)) Qsc.length none,iV tu,iV le,iV sl,iV ra,.bool losc]]) (evs.length) ?_ ?_
  ·refine⟨_,_,_,⟨0,xs,l,false,by omega,hV,hS,hl0,rfl,rfl,rfl⟩,bS hbel [0,1,2,3,4,5,6,7,8] (al (jn @ap (jn @au (jn @aA @ax))))⟩
  rintro k3 F Hx ⟨i,ks,Q,lo,hm3,hkVf,hQSf,hQ0f,hrnf,rfl,rfl⟩ Q21 hJ3 hr21 he21
  have hQ21:=fun F H' h=>hr21 F H' (hQ20 F H' h)
  have hQ16f:=(bi.1 hQSf).1
  have hQvf:=(bi.1 hQSf).2
  have hklf:=(bp.1 hkVf).len
  have hwh:=g5 (a:=W) (b:=Hh) (by omega) hw1 (by omega) hh1
  have hk0f:0<ks.length:=by have:=((bp.1 hkVf).idx (show inB W Hh 0 0=true from c7.2 (by omega))).2.2.2.2.1;omega
  have hQ16w:=hQ16f
  have hQvw:=hQvf
  have hQSw:=hQSf
  have hQ0w:=hQ0f
  have hkVw:=hkVf
  have hk0w:=hk0f
  refine zQF hQ21 fun Q22 hn22 hQ22 he22=>?_
  refine rcs G22 (fun h17 h17d G23=>?_) (fun h17 h17d G46=>?_)
  ·have hlt:i<evs.length:=by omega
   obtain⟨bq,oq,cq,hsq,hbq⟩:=hvo.at hlt
   have hblq:=getElem?_lt hbq
   have hb0q:=fun l'=>ae (l:=l') hbq
   have hscl:=hvo.len hlt
   have hsc8:=hf4 i hlt
   refine aa G23 ?_
   refine hn22 _ _ (sqR hQ21 fun Q23 hn23 hQ23 he23=>?_)
   refine bkR hQ23 fun Q24 hn24 hQ24 he24 hb24=>?_
   refine gP false try_mixed (by kernel_rfl) (H.length+0) (by simp) (fun F2 H2=>∃Q1:List T6,(bk Q1=true/\0<Q1.length/\Q1=rMv tu le sl Q lo (evG evs i))/\F2=[(2,.sl (some (bev,0)) evs.length cev),(7,.ptr (some (H.length+2,0))),(9,.ptr (some (H.length+5,0))),(11,.ptr (some (H.length+8,0))),(17,iV (i:Int))]/\H2=H++[.cells true 1 (ints .u8 ks),.cells true 6 (r6 Q1),.cells true 0 [iV W,iV Hh,.sl (some (H.length,0)) ks.length none,.sl (some (H.length+1,0)) Q1.length none,iV tu,iV le,iV sl,iV ra,.bool lo],.cells true 1 (ints .u8 ks),.cells true 6 (r6 Q),.cells true 0 [iV W,iV Hh,.sl (some (H.length+3,0)) ks.length none,.sl (some (H.length+4,0)) Q.length none,iV tu,iV le,iV sl,iV ra,.bool lo],.cells true 1 (ints .u8 ksc),.cells true 6 (r6 Qsc),.cells true 0 [iV W,iV Hh,.sl (some (H.length+6,0)) ksc.length none,.sl (some (H.length+7,0)) Qsc.length none,iV tu,iV le,iV sl,iV ra,.bool losc]]) ?_ ?_
   ·intro J hJ
    have q18:=jX (l:=evs) (j:=i) (by omega)
    have q19:=iJ (l:=evs) (j:=i) (by omega)
    have G24:=jn @dQ (jn q18 (jn q19 G23))
    refine aa G24 ?_
    rcases Bool.eq_false_or_eq_true (bL ((evG evs i).t) ((evG evs i).g)) with h20|h20
    ·have h20d:=h20
     have hC:=h20d
     have hC2:=gN ((evG evs i).st) hC
     simp only[bL,Bool.and_eq_true,bm] at hC2
     rcases Bool.eq_false_or_eq_true (lo) with h21|h21
     ·have h21d:=h21
      have hloTf:=h21d
      have hloTw:=h21d
      refine cd (lmvS _ W Hh (.sl (some (H.length,0)) ks.length none) ks (.sl (some (H.length+1,0)) Q.length none) Q tu le sl ra lo _ _ _ _ ⟨_,_,_,by rfl,by (rw[cN];rfl)⟩ ⟨_,_,_,by rfl,by (rw[ah];rfl)⟩ ⟨_,by (rw[ah];rfl)⟩ (by assumption) (by assumption)) ?_
      have G25:=jn h20 (jn h20d (j2 h21 h21d G24))
      refine aa G25 ?_
      refine ai (hJ _ _ ⟨_,_,_,⟨Q,⟨hQSf,hQ0f,rMv_2 hloTf⟩,rfl,rfl⟩,bS hbel [0,1,2,3,4,5,6,7,8] (al (jn @hloTf (jn @ap (jn @au (jn @aA @ax)))))⟩)
     have h21d:=h21
     have hloFf:=h21d
     have hloFw:=h21d
     rcases Bool.eq_false_or_eq_true (imA Q ((evG evs i).t) (stF ((evG evs i).st) ((evG evs i).g)) tu le sl) with h22|h22
     ·have h22d:=h22
      have himT:=h22d
      have hSi:bk (imS Q ((evG evs i).t) (stF ((evG evs i).st) ((evG evs i).g)) tu le sl Q.length)=true:=bi.2 ⟨by rw[cE];exact hQ16f,imS_ok hQvf (by omega) (by omega) (by omega) (by omega) himT⟩
      have h0i:0<(imS Q ((evG evs i).t) (stF ((evG evs i).st) ((evG evs i).g)) tu le sl Q.length).length:=by rw[cE];exact hQ0f
      refine call_w (by kernel_rfl) (by simp) (fun b h1 h2=>by exact lk (by omega) h1 h2) (lmvY _ W Hh (.sl (some (H.length,0)) ks.length none) ks (.sl (some (H.length+1,0)) Q.length none) Q tu le sl ra lo _ ((evG evs i).t) ((evG evs i).g) ((evG evs i).st) ⟨_,_,_,by rfl,by (rw[cN];rfl)⟩ ⟨_,_,_,by rfl,by (rw[ah];rfl)⟩ (by (rw[ah];rfl)) (by assumption) (by assumption) (by assumption) (by assumption) (by assumption) (by assumption)) ?_
      have G26:=jn h20 (jn h20d (jn h21 (jn h21d (j2 h22 h22d G24))))
      refine aa G26 ?_
      refine ai (hJ _ _ ⟨_,_,_,⟨(imS Q ((evG evs i).t) (stF ((evG evs i).st) ((evG evs i).g)) tu le sl Q.length),⟨hSi,h0i,rMv_y hC hloFf himT⟩,rfl,rfl⟩,bS hbel [0,9,2,3,4,5,6,7,8] (al (jn @hloFf (jn @ap (jn @au (jn @aA @ax)))))⟩)
     have h22d:=h22
     have himF:=h22d
     refine cd (lmvN _ W Hh (.sl (some (H.length,0)) ks.length none) ks (.sl (some (H.length+1,0)) Q.length none) Q tu le sl ra lo _ _ _ _ ⟨_,_,_,by rfl,by (rw[cN];rfl)⟩ ⟨_,_,_,by rfl,by (rw[ah];rfl)⟩ ⟨_,by (rw[ah];rfl)⟩ (by assumption) (by assumption) (by assumption) (by assumption) (by assumption) (by assumption)) ?_
     have G27:=jn h20 (jn h20d (jn h21 (jn h21d (j2 h22 h22d G24))))
     refine aa G27 ?_
     refine ai (hJ _ _ ⟨_,_,_,⟨Q,⟨hQSf,hQ0f,rMv_3 himF⟩,rfl,rfl⟩,bS hbel [0,1,2,3,4,5,6,7,8] (al (jn @hloFf (jn @ap (jn @au (jn @aA @ax)))))⟩)
    have h20d:=h20
    have hCF:=h20d
    refine cd (lmv_a _ W Hh (.sl (some (H.length,0)) ks.length none) ks (.sl (some (H.length+1,0)) Q.length none) Q tu le sl ra lo _ _ _ _ ⟨_,_,_,by rfl,by (rw[cN];rfl)⟩ ⟨_,_,_,by rfl,by (rw[ah];rfl)⟩ ⟨_,by (rw[ah];rfl)⟩ (by assumption)) ?_
    have G28:=j2 h20 h20d G24
    refine aa G28 ?_
    refine ai (hJ _ _ ⟨_,_,_,⟨Q,⟨hQSf,hQ0f,rMv_1 hCF⟩,rfl,rfl⟩,bS hbel [0,1,2,3,4,5,6,7,8] (al (jn @ap (jn @au (jn @aA @ax))))⟩)
   rintro F2 H2 ⟨Q1,pmv,rfl,rfl⟩
   obtain⟨hS1f,h01f,hm1f⟩:=pmv
   refine AW_join false try_mixed (by kernel_rfl) (fun F2 H2=>∃ks2:List Int,∃Q2:List T6,∃lo2:Bool,(bK W Hh ks2=true/\bk Q2=true/\0<Q2.length/\(ks2,Q2,lo2)=rSe W Hh ra ks Q1 lo ((evG evs i).sc))/\F2=[(2,.sl (some (bev,0)) evs.length cev),(7,.ptr (some (H.length+2,0))),(9,.ptr (some (H.length+5,0))),(11,.ptr (some (H.length+8,0))),(17,iV (i:Int))]/\H2=H++[.cells true 1 (ints .u8 ks2),.cells true 6 (r6 Q2),.cells true 0 [iV W,iV Hh,.sl (some (H.length,0)) ks2.length none,.sl (some (H.length+1,0)) Q2.length none,iV tu,iV le,iV sl,iV ra,.bool lo2],.cells true 1 (ints .u8 ks),.cells true 6 (r6 Q),.cells true 0 [iV W,iV Hh,.sl (some (H.length+3,0)) ks.length none,.sl (some (H.length+4,0)) Q.length none,iV tu,iV le,iV sl,iV ra,.bool lo],.cells true 1 (ints .u8 ksc),.cells true 6 (r6 Qsc),.cells true 0 [iV W,iV Hh,.sl (some (H.length+6,0)) ksc.length none,.sl (some (H.length+7,0)) Qsc.length none,iV tu,iV le,iV sl,iV ra,.bool losc]]) ?_ ?_
   ·intro J hJ
    have q23:=gO (l:=evs) (j:=i) (by omega) hsq
    have G29:=jn @dQ (jn q23 G23)
    refine aa G29 ?_
    rcases Bool.eq_false_or_eq_true (bP ((evG evs i).sc)) with h24|h24
    ·have h24d:=h24
     have hscT:=h24d
     rcases Bool.eq_false_or_eq_true (lo) with h25|h25
     ·have h25d:=h25
      have hloTf:=h25d
      have hloTw:=h25d
      refine cv (lseS _ W Hh (.sl (some (H.length,0)) ks.length none) ks (.sl (some (H.length+1,0)) Q1.length none) Q1 tu le sl ra lo _ _ ((evG evs i).sc) ⟨_,_,_,by rfl,by (rw[cN];rfl)⟩ ⟨_,_,_,by rfl,by (rw[ah];rfl)⟩ ⟨_,by (rw[ah];rfl)⟩ (zA2 hb0q hbq) (by omega) (by assumption) (by assumption)) ?_
      have G30:=jn h24 (jn h24d (j2 h25 h25d G29))
      refine aa G30 ?_
      refine ai (hJ _ _ ⟨_,_,_,⟨ks,Q1,lo,⟨hkVf,hS1f,h01f,rSe_2 hloTf⟩,rfl,rfl⟩,bS hbel [0,1,2,3,4,5,6,7,8] (al (jn @hloTf (jn @ap (jn @au (jn @aA @ax)))))⟩)
     have h25d:=h25
     have hloFf:=h25d
     have hloFw:=h25d
     rcases Bool.eq_false_or_eq_true (decide (0<(aN W Hh ks Q1 ((evG evs i).sc) ra 32).length)) with h26|h26
     ·have h26d:=h26
      have hR0:0<(aN W Hh ks Q1 ((evG evs i).sc) ra 32).length:=of_decide_eq_true h26d
      have hok:(∀b∈aN W Hh ks Q1 ((evG evs i).sc) ra 32,bl b=true)/\(aN W Hh ks Q1 ((evG evs i).sc) ra 32).length<=Q1.length+32+([]:List T6).length:=eV (xs:=ks) (s:=(evG evs i).sc) (g:=ra) ⟨hw0,hw1⟩ ⟨hh0,hh1⟩ (Q1.length+2*32) Q1 32 [] rfl (bi.1 hS1f).2 (fun b hb=>by cases hb)
      have hcp:=jh hR0 hok.1
      have hcS:=hcp.1
      have hc0:=hcp.2
      rcases Bool.eq_false_or_eq_true ((lnO W Hh ks (cpL (aN W Hh ks Q1 ((evG evs i).sc) ra 32)) ((evG evs i).sc) ra).isSome) with h27|h27
      ·have h27d:=h27
       obtain⟨oo,hoo⟩:=Option.isSome_iff_exists.1 h27d
       have hov:=ln_v hkVf hoo
       have ho0:0<oo.length:=by rw[hov.2];exact hk0f
       refine cv (lseY _ W Hh (.sl (some (H.length,0)) ks.length none) ks (.sl (some (H.length+1,0)) Q1.length none) Q1 tu le sl ra lo _ _ ((evG evs i).sc) ⟨_,_,_,by rfl,by (rw[cN];rfl)⟩ ⟨_,_,_,by rfl,by (rw[ah];rfl)⟩ (by (rw[ah];rfl)) (zA2 hb0q hbq) (by assumption) (by assumption) (by assumption) (by assumption) (by assumption) (by assumption) oo hoo ho0 (by assumption)) ?_
       have G31:=jn h24 (jn h24d (jn h25 (jn h25d (jn h26 (jn h26d (j2 h27 h27d G29))))))
       refine aa G31 ?_
       refine ai (hJ _ _ ⟨_,_,_,⟨oo,(cpL (aN W Hh ks Q1 ((evG evs i).sc) ra 32)),false,⟨hov.1,hcS,hc0,rSe_5 hscT hloFf hR0 hoo⟩,rfl,rfl⟩,bS hbel [9,10,2,3,4,5,6,7,8] (al (jn @hloFf (jn @ap (jn @au (jn @aA @ax)))))⟩)
      have h27d:=h27
      have hon:=Option.not_isSome_iff_eq_none.1 (by rw[h27d];decide)
      refine cv (lseL _ W Hh (.sl (some (H.length,0)) ks.length none) ks (.sl (some (H.length+1,0)) Q1.length none) Q1 tu le sl ra lo _ _ ((evG evs i).sc) ⟨_,_,_,by rfl,by (rw[cN];rfl)⟩ ⟨_,_,_,by rfl,by (rw[ah];rfl)⟩ (by (rw[ah];rfl)) (zA2 hb0q hbq) (by assumption) (by assumption) (by assumption) (by assumption) (by assumption) (by assumption) (by assumption) (by assumption)) ?_
      have G32:=jn h24 (jn h24d (jn h25 (jn h25d (jn h26 (jn h26d (j2 h27 h27d G29))))))
      refine aa G32 ?_
      refine ai (hJ _ _ ⟨_,_,_,⟨ks,Q1,true,⟨hkVf,hS1f,h01f,rSe_4 hscT hloFf hR0 hon⟩,rfl,rfl⟩,bS hbel [0,1,2,3,4,5,6,7,8] (al (jn @hloFf (jn @ap (jn @au (jn @aA @ax)))))⟩)
     have h26d:=h26
     have hRn:(aN W Hh ks Q1 ((evG evs i).sc) ra 32).length=0:=by have:=of_decide_eq_false h26d;omega
     refine cv (lseE _ W Hh (.sl (some (H.length,0)) ks.length none) ks (.sl (some (H.length+1,0)) Q1.length none) Q1 tu le sl ra lo _ _ ((evG evs i).sc) ⟨_,_,_,by rfl,by (rw[cN];rfl)⟩ ⟨_,_,_,by rfl,by (rw[ah];rfl)⟩ (by (rw[ah];rfl)) (zA2 hb0q hbq) (by assumption) (by assumption) (by assumption) (by assumption) (by assumption) (by assumption) (by assumption)) ?_
     have G33:=jn h24 (jn h24d (jn h25 (jn h25d (j2 h26 h26d G29))))
     refine aa G33 ?_
     refine ai (hJ _ _ ⟨_,_,_,⟨ks,Q1,true,⟨hkVf,hS1f,h01f,rSe_3 hscT hloFf hRn⟩,rfl,rfl⟩,bS hbel [0,1,2,3,4,5,6,7,8] (al (jn @hloFf (jn @ap (jn @au (jn @aA @ax)))))⟩)
    have h24d:=h24
    have hscF:=h24d
    refine cv (lse_a _ W Hh (.sl (some (H.length,0)) ks.length none) ks (.sl (some (H.length+1,0)) Q1.length none) Q1 tu le sl ra lo _ _ ((evG evs i).sc) ⟨_,_,_,by rfl,by (rw[cN];rfl)⟩ ⟨_,_,_,by rfl,by (rw[ah];rfl)⟩ ⟨_,by (rw[ah];rfl)⟩ (zA2 hb0q hbq) (by omega) (by assumption)) ?_
    have G34:=j2 h24 h24d G29
    refine aa G34 ?_
    refine ai (hJ _ _ ⟨_,_,_,⟨ks,Q1,lo,⟨hkVf,hS1f,h01f,rSe_1 hscF⟩,rfl,rfl⟩,bS hbel [0,1,2,3,4,5,6,7,8] (al (jn @ap (jn @au (jn @aA @ax))))⟩)
   rintro F2 H2 ⟨ks2,Q2,lo2,psv,rfl,rfl⟩
   obtain⟨hkV2f,hS2f,h02f,hs1f⟩:=psv
   refine gP false try_mixed (by kernel_rfl) (H.length+3) (by simp) (fun F2 H2=>∃Q3:List T6,(bk Q3=true/\0<Q3.length/\Q3=rMv tu le sl Q lo (evG evs i))/\F2=[(2,.sl (some (bev,0)) evs.length cev),(7,.ptr (some (H.length+2,0))),(9,.ptr (some (H.length+5,0))),(11,.ptr (some (H.length+8,0))),(17,iV (i:Int))]/\H2=H++[.cells true 1 (ints .u8 ks2),.cells true 6 (r6 Q2),.cells true 0 [iV W,iV Hh,.sl (some (H.length,0)) ks2.length none,.sl (some (H.length+1,0)) Q2.length none,iV tu,iV le,iV sl,iV ra,.bool lo2],.cells true 1 (ints .u8 ks),.cells true 6 (r6 Q3),.cells true 0 [iV W,iV Hh,.sl (some (H.length+3,0)) ks.length none,.sl (some (H.length+4,0)) Q3.length none,iV tu,iV le,iV sl,iV ra,.bool lo],.cells true 1 (ints .u8 ksc),.cells true 6 (r6 Qsc),.cells true 0 [iV W,iV Hh,.sl (some (H.length+6,0)) ksc.length none,.sl (some (H.length+7,0)) Qsc.length none,iV tu,iV le,iV sl,iV ra,.bool losc]]) ?_ ?_
   ·intro J hJ
    have q28:=jX (l:=evs) (j:=i) (by omega)
    have q29:=iJ (l:=evs) (j:=i) (by omega)
    have G35:=jn @dQ (jn q28 (jn q29 G23))
    refine aa G35 ?_
    rcases Bool.eq_false_or_eq_true (bL ((evG evs i).t) ((evG evs i).g)) with h30|h30
    ·have h30d:=h30
     have hC:=h30d
     have hC2:=gN ((evG evs i).st) hC
     simp only[bL,Bool.and_eq_true,bm] at hC2
     rcases Bool.eq_false_or_eq_true (lo) with h31|h31
     ·have h31d:=h31
      have hloTf:=h31d
      have hloTw:=h31d
      refine cd (rmvS _ W Hh (.sl (some (H.length+3,0)) ks.length none) ks (.sl (some (H.length+4,0)) Q.length none) Q tu le sl ra lo _ _ _ _ ⟨_,_,_,by rfl,by (rw[ah];rfl)⟩ ⟨_,_,_,by rfl,by (rw[ah];rfl)⟩ ⟨_,by (rw[ah];rfl)⟩ (by assumption) (by assumption)) ?_
      have G36:=jn h30 (jn h30d (j2 h31 h31d G35))
      refine aa G36 ?_
      refine ai (hJ _ _ ⟨_,_,_,⟨Q,⟨hQSw,hQ0w,rMv_2 hloTw⟩,rfl,rfl⟩,bS hbel [0,1,2,3,4,5,6,7,8] (al (jn @hloTw (jn @ap (jn @au (jn @aA @ax)))))⟩)
     have h31d:=h31
     have hloFf:=h31d
     have hloFw:=h31d
     rcases Bool.eq_false_or_eq_true (imA Q ((evG evs i).t) (stF ((evG evs i).st) ((evG evs i).g)) tu le sl) with h32|h32
     ·have h32d:=h32
      have himT:=h32d
      have hSi:bk (imS Q ((evG evs i).t) (stF ((evG evs i).st) ((evG evs i).g)) tu le sl Q.length)=true:=bi.2 ⟨by rw[cE];exact hQ16f,imS_ok hQvf (by omega) (by omega) (by omega) (by omega) himT⟩
      have h0i:0<(imS Q ((evG evs i).t) (stF ((evG evs i).st) ((evG evs i).g)) tu le sl Q.length).length:=by rw[cE];exact hQ0f
      refine call_w (by kernel_rfl) (by simp) (fun b h1 h2=>by exact lk (by omega) h1 h2) (rmvY _ W Hh (.sl (some (H.length+3,0)) ks.length none) ks (.sl (some (H.length+4,0)) Q.length none) Q tu le sl ra lo _ ((evG evs i).t) ((evG evs i).g) ((evG evs i).st) ⟨_,_,_,by rfl,by (rw[ah];rfl)⟩ ⟨_,_,_,by rfl,by (rw[ah];rfl)⟩ (by (rw[ah];rfl)) (by assumption) (by assumption) (by assumption) (by assumption) (by assumption) (by assumption)) ?_
      have G37:=jn h30 (jn h30d (jn h31 (jn h31d (j2 h32 h32d G35))))
      refine aa G37 ?_
      refine ai (hJ _ _ ⟨_,_,_,⟨(imS Q ((evG evs i).t) (stF ((evG evs i).st) ((evG evs i).g)) tu le sl Q.length),⟨hSi,h0i,rMv_y hC hloFw himT⟩,rfl,rfl⟩,bS hbel [0,1,2,3,9,5,6,7,8] (al (jn @hloFw (jn @ap (jn @au (jn @aA @ax)))))⟩)
     have h32d:=h32
     have himF:=h32d
     refine cd (rmvN _ W Hh (.sl (some (H.length+3,0)) ks.length none) ks (.sl (some (H.length+4,0)) Q.length none) Q tu le sl ra lo _ _ _ _ ⟨_,_,_,by rfl,by (rw[ah];rfl)⟩ ⟨_,_,_,by rfl,by (rw[ah];rfl)⟩ ⟨_,by (rw[ah];rfl)⟩ (by assumption) (by assumption) (by assumption) (by assumption) (by assumption) (by assumption)) ?_
     have G38:=jn h30 (jn h30d (jn h31 (jn h31d (j2 h32 h32d G35))))
     refine aa G38 ?_
     refine ai (hJ _ _ ⟨_,_,_,⟨Q,⟨hQSw,hQ0w,rMv_3 himF⟩,rfl,rfl⟩,bS hbel [0,1,2,3,4,5,6,7,8] (al (jn @hloFw (jn @ap (jn @au (jn @aA @ax)))))⟩)
    have h30d:=h30
    have hCF:=h30d
    refine cd (rmv_a _ W Hh (.sl (some (H.length+3,0)) ks.length none) ks (.sl (some (H.length+4,0)) Q.length none) Q tu le sl ra lo _ _ _ _ ⟨_,_,_,by rfl,by (rw[ah];rfl)⟩ ⟨_,_,_,by rfl,by (rw[ah];rfl)⟩ ⟨_,by (rw[ah];rfl)⟩ (by assumption)) ?_
    have G39:=j2 h30 h30d G35
    refine aa G39 ?_
    refine ai (hJ _ _ ⟨_,_,_,⟨Q,⟨hQSw,hQ0w,rMv_1 hCF⟩,rfl,rfl⟩,bS hbel [0,1,2,3,4,5,6,7,8] (al (jn @ap (jn @au (jn @aA @ax))))⟩)
   rintro F2 H2 ⟨Q3,pmv,rfl,rfl⟩
   obtain⟨hS1w,h01w,hm1w⟩:=pmv
   refine kz false try_mixed (by kernel_rfl) (fun F2 H2=>∃ks4:List Int,∃Q4:List T6,∃lo4:Bool,(bK W Hh ks4=true/\bk Q4=true/\0<Q4.length/\(ks4,Q4,lo4)=rSe W Hh ra ks Q3 lo ((evG evs i).sc))/\F2=[(2,.sl (some (bev,0)) evs.length cev),(7,.ptr (some (H.length+2,0))),(9,.ptr (some (H.length+5,0))),(11,.ptr (some (H.length+8,0))),(17,iV (i:Int))]/\H2=H++[.cells true 1 (ints .u8 ks2),.cells true 6 (r6 Q2),.cells true 0 [iV W,iV Hh,.sl (some (H.length,0)) ks2.length none,.sl (some (H.length+1,0)) Q2.length none,iV tu,iV le,iV sl,iV ra,.bool lo2],.cells true 1 (ints .u8 ks4),.cells true 6 (r6 Q4),.cells true 0 [iV W,iV Hh,.sl (some (H.length+3,0)) ks4.length none,.sl (some (H.length+4,0)) Q4.length none,iV tu,iV le,iV sl,iV ra,.bool lo4],.cells true 1 (ints .u8 ksc),.cells true 6 (r6 Qsc),.cells true 0 [iV W,iV Hh,.sl (some (H.length+6,0)) ksc.length none,.sl (some (H.length+7,0)) Qsc.length none,iV tu,iV le,iV sl,iV ra,.bool losc]]) ?_ ?_
   ·intro J hJ
    have q33:=gO (l:=evs) (j:=i) (by omega) hsq
    have G40:=jn @dQ (jn q33 G23)
    refine aa G40 ?_
    rcases Bool.eq_false_or_eq_true (bP ((evG evs i).sc)) with h34|h34
    ·have h34d:=h34
     have hscT:=h34d
     rcases Bool.eq_false_or_eq_true (lo) with h35|h35
     ·have h35d:=h35
      have hloTf:=h35d
      have hloTw:=h35d
      refine cv (rseS _ W Hh (.sl (some (H.length+3,0)) ks.length none) ks (.sl (some (H.length+4,0)) Q3.length none) Q3 tu le sl ra lo _ _ ((evG evs i).sc) ⟨_,_,_,by rfl,by (rw[ah];rfl)⟩ ⟨_,_,_,by rfl,by (rw[ah];rfl)⟩ ⟨_,by (rw[ah];rfl)⟩ (zA2 hb0q hbq) (by omega) (by assumption) (by assumption)) ?_
      have G41:=jn h34 (jn h34d (j2 h35 h35d G40))
      refine aa G41 ?_
      refine ai (hJ _ _ ⟨_,_,_,⟨ks,Q3,lo,⟨hkVw,hS1w,h01w,rSe_2 hloTw⟩,rfl,rfl⟩,bS hbel [0,1,2,3,4,5,6,7,8] (al (jn @hloTw (jn @ap (jn @au (jn @aA @ax)))))⟩)
     have h35d:=h35
     have hloFf:=h35d
     have hloFw:=h35d
     rcases Bool.eq_false_or_eq_true (decide (0<(aN W Hh ks Q3 ((evG evs i).sc) ra 32).length)) with h36|h36
     ·have h36d:=h36
      have hR0:0<(aN W Hh ks Q3 ((evG evs i).sc) ra 32).length:=of_decide_eq_true h36d
      have hok:(∀b∈aN W Hh ks Q3 ((evG evs i).sc) ra 32,bl b=true)/\(aN W Hh ks Q3 ((evG evs i).sc) ra 32).length<=Q3.length+32+([]:List T6).length:=eV (xs:=ks) (s:=(evG evs i).sc) (g:=ra) ⟨hw0,hw1⟩ ⟨hh0,hh1⟩ (Q3.length+2*32) Q3 32 [] rfl (bi.1 hS1w).2 (fun b hb=>by cases hb)
      have hcp:=jh hR0 hok.1
      have hcS:=hcp.1
      have hc0:=hcp.2
      rcases Bool.eq_false_or_eq_true ((lnO W Hh ks (cpL (aN W Hh ks Q3 ((evG evs i).sc) ra 32)) ((evG evs i).sc) ra).isSome) with h37|h37
      ·have h37d:=h37
       obtain⟨oo,hoo⟩:=Option.isSome_iff_exists.1 h37d
       have hov:=ln_v hkVw hoo
       have ho0:0<oo.length:=by rw[hov.2];exact hk0w
       refine cv (rseY _ W Hh (.sl (some (H.length+3,0)) ks.length none) ks (.sl (some (H.length+4,0)) Q3.length none) Q3 tu le sl ra lo _ _ ((evG evs i).sc) ⟨_,_,_,by rfl,by (rw[ah];rfl)⟩ ⟨_,_,_,by rfl,by (rw[ah];rfl)⟩ (by (rw[ah];rfl)) (zA2 hb0q hbq) (by assumption) (by assumption) (by assumption) (by assumption) (by assumption) (by assumption) oo hoo ho0 (by assumption)) ?_
       have G42:=jn h34 (jn h34d (jn h35 (jn h35d (jn h36 (jn h36d (j2 h37 h37d G40))))))
       refine aa G42 ?_
       refine ai (hJ _ _ ⟨_,_,_,⟨oo,(cpL (aN W Hh ks Q3 ((evG evs i).sc) ra 32)),false,⟨hov.1,hcS,hc0,rSe_5 hscT hloFw hR0 hoo⟩,rfl,rfl⟩,bS hbel [0,1,2,9,10,5,6,7,8] (al (jn @hloFw (jn @ap (jn @au (jn @aA @ax)))))⟩)
      have h37d:=h37
      have hon:=Option.not_isSome_iff_eq_none.1 (by rw[h37d];decide)
      refine cv (rseL _ W Hh (.sl (some (H.length+3,0)) ks.length none) ks (.sl (some (H.length+4,0)) Q3.length none) Q3 tu le sl ra lo _ _ ((evG evs i).sc) ⟨_,_,_,by rfl,by (rw[ah];rfl)⟩ ⟨_,_,_,by rfl,by (rw[ah];rfl)⟩ (by (rw[ah];rfl)) (zA2 hb0q hbq) (by assumption) (by assumption) (by assumption) (by assumption) (by assumption) (by assumption) (by assumption) (by assumption)) ?_
      have G43:=jn h34 (jn h34d (jn h35 (jn h35d (jn h36 (jn h36d (j2 h37 h37d G40))))))
      refine aa G43 ?_
      refine ai (hJ _ _ ⟨_,_,_,⟨ks,Q3,true,⟨hkVw,hS1w,h01w,rSe_4 hscT hloFw hR0 hon⟩,rfl,rfl⟩,bS hbel [0,1,2,3,4,5,6,7,8] (al (jn @hloFw (jn @ap (jn @au (jn @aA @ax)))))⟩)
     have h36d:=h36
     have hRn:(aN W Hh ks Q3 ((evG evs i).sc) ra 32).length=0:=by have:=of_decide_eq_false h36d;omega
     refine cv (rseE _ W Hh (.sl (some (H.length+3,0)) ks.length none) ks (.sl (some (H.length+4,0)) Q3.length none) Q3 tu le sl ra lo _ _ ((evG evs i).sc) ⟨_,_,_,by rfl,by (rw[ah];rfl)⟩ ⟨_,_,_,by rfl,by (rw[ah];rfl)⟩ (by (rw[ah];rfl)) (zA2 hb0q hbq) (by assumption) (by assumption) (by assumption) (by assumption) (by assumption) (by assumption) (by assumption)) ?_
     have G44:=jn h34 (jn h34d (jn h35 (jn h35d (j2 h36 h36d G40))))
     refine aa G44 ?_
     refine ai (hJ _ _ ⟨_,_,_,⟨ks,Q3,true,⟨hkVw,hS1w,h01w,rSe_3 hscT hloFw hRn⟩,rfl,rfl⟩,bS hbel [0,1,2,3,4,5,6,7,8] (al (jn @hloFw (jn @ap (jn @au (jn @aA @ax)))))⟩)
    have h34d:=h34
    have hscF:=h34d
    refine cv (rse_a _ W Hh (.sl (some (H.length+3,0)) ks.length none) ks (.sl (some (H.length+4,0)) Q3.length none) Q3 tu le sl ra lo _ _ ((evG evs i).sc) ⟨_,_,_,by rfl,by (rw[ah];rfl)⟩ ⟨_,_,_,by rfl,by (rw[ah];rfl)⟩ ⟨_,by (rw[ah];rfl)⟩ (zA2 hb0q hbq) (by omega) (by assumption)) ?_
    have G45:=j2 h34 h34d G40
    refine aa G45 ?_
    refine ai (hJ _ _ ⟨_,_,_,⟨ks,Q3,lo,⟨hkVw,hS1w,h01w,rSe_1 hscF⟩,rfl,rfl⟩,bS hbel [0,1,2,3,4,5,6,7,8] (al (jn @ap (jn @au (jn @aA @ax))))⟩)
   rintro F2 H2 ⟨ks4,Q4,lo4,psv,rfl,rfl⟩
   obtain⟨hkV2w,hS2w,h02w,hs1w⟩:=psv
   refine hn24 _ _ ?_
   refine hn23 _ _ ?_
   refine fnF ?_
   refine aa G23 ?_
   have he4:ks4=ks2/\Q4=Q2/\lo4=lo2:=tr3 (by rw[hs1w,hs1f,hm1w,hm1f])
   refine hJ3 _ _ ⟨k3-1,by omega,_,_,_,⟨i+1,ks2,Q2,lo2,by omega,hkV2f,hS2f,h02f,rnN_s hrnf hm1f hs1f,rfl,rfl⟩,bS hbel [0,1,2,3,4,5,6,7,8] (al (jn @he4.1 (jn @he4.2.1 (jn @he4.2.2 (jn @ap (jn @au (jn @aA @ax)))))))⟩
  obtain rfl:i=evs.length:=by omega
  obtain⟨hke,hqe,hle⟩:=tr3 (hrnf.trans hrnc.symm)
  subst hke
  subst hqe
  subst hle
  have hkl6:ks.length<=1000000:=by omega
  refine aa G46 ?_
  refine he22 _ _ _ ?_
  refine he21 _ _ _ ?_
  refine hb20 _ _ ?_
  refine hn18 _ _ ?_
  refine fnF ?_
  refine aa G46 ?_
  refine cvr G46 (same_y _ W Hh (.sl (some (H.length,0)) ks.length none) ks (.sl (some (H.length+1,0)) Q.length none) Q tu le sl ra lo _ (.sl (some (H.length+3,0)) ks.length none) (.sl (some (H.length+4,0)) Q.length none) _ ⟨_,_,_,by rfl,by (rw[cN];rfl)⟩ ⟨_,_,_,by rfl,by (rw[ah];rfl)⟩ ⟨_,by (rw[ah];rfl)⟩ ⟨_,_,_,by rfl,by (rw[ah];rfl)⟩ ⟨_,_,_,by rfl,by (rw[ah];rfl)⟩ ⟨_,by (rw[ah];rfl)⟩ (by omega) (by omega) (by assumption) (by assumption)) ?_
  refine cvr G46 (same_y _ W Hh (.sl (some (H.length+6,0)) ks.length none) ks (.sl (some (H.length+7,0)) Q.length none) Q tu le sl ra lo _ (.sl (some (H.length+3,0)) ks.length none) (.sl (some (H.length+4,0)) Q.length none) _ ⟨_,_,_,by rfl,by (rw[ah];rfl)⟩ ⟨_,_,_,by rfl,by (rw[ah];rfl)⟩ ⟨_,by (rw[ah];rfl)⟩ ⟨_,_,_,by rfl,by (rw[ah];rfl)⟩ ⟨_,_,_,by rfl,by (rw[ah];rfl)⟩ ⟨_,by (rw[ah];rfl)⟩ (by omega) (by omega) (by assumption) (by assumption)) ?_
  exact eP hQ hbel (.bool true) results6 ⟨by rfl,rfl⟩
 have h2d:=h2
 refine cd (lnew_n _ W _ _ xs _ l _ _ _ _ (zA2 hb0pp hbpp) (zA2 hb0s hbs) (by omega) (by assumption)) ?_
 have G47:=j2 h2 h2d G3
 refine aa G47 ?_
 refine hn3 _ _ (zQF hQ fun Q25 hn25 hQ25 he25=>?_)
 refine aa G47 ?_
 refine cdr G47 (hcB _) ?_
 refine cdr G47 (rgnew_n _ W _ _ xs _ l _ _ _ _ (zA2 hb0pp hbpp) (zA2 hb0s hbs) (by omega) (by assumption)) ?_
 refine hn25 _ _ (zQF hQ fun Q26 hn26 hQ26 he26=>?_)
 refine aa G47 ?_
 refine cvr G47 (lcl_n _) ?_
 refine hn26 _ _ (zQF hQ fun Q27 hn27 hQ27 he27=>?_)
 refine aa G47 ?_
 refine cvr G47 (lst_n _) ?_
 refine hn27 _ _ (zQF hQ fun Q28 hn28 hQ28 he28=>?_)
 refine aa G47 ?_
 refine glp (fun k F Hx=>∃z:Unit,k=0/\F=[(2,.sl (some (bev,0)) evs.length cev),(7,.ptr none),(9,.ptr none),(11,.ptr none),(12,.sl none 0 (some 0)),(13,iV 0)]/\H=Hx) (0) ?_ ?_
 ·refine⟨_,_,_,⟨(),by omega,rfl,rfl⟩,Abs.byN hbel ?_⟩
  exact ar
 rintro k10 F Hx ⟨z,hm10,rfl,rfl⟩ J10 hJ10
 refine aa G47 ?_
 refine hn28 _ _ (zQF hQ fun Q29 hn29 hQ29 he29=>?_)
 refine aa G47 ?_
 refine cvr G47 (lpl_n _) ?_
 refine hn29 _ _ (zQF hQ fun Q30 hn30 hQ30 he30=>?_)
 refine aa G47 ?_
 refine glp (fun k F Hx=>∃z:Unit,k=0/\F=[(2,.sl (some (bev,0)) evs.length cev),(7,.ptr none),(9,.ptr none),(11,.ptr none),(14,.ptr (some (H.length,0))),(15,iV 0)]/\Hx=H++[.cells true 0 [iV 0,iV 0,.sl none 0 (some 0)]]) (0) ?_ ?_
 ·refine⟨_,_,_,⟨(),by omega,rfl,rfl⟩,bS hbel [0] ar⟩
 rintro k11 F Hx ⟨z,hm11,rfl,rfl⟩ J11 hJ11
 refine aa G47 ?_
 refine hn30 _ _ (sqR hQ fun Q31 hn31 hQ31 he31=>?_)
 refine zQF hQ31 fun Q32 hn32 hQ32 he32=>?_
 refine aa G47 ?_
 refine hn32 _ _ ?_
 refine bkR hQ31 fun Q33 hn33 hQ33 he33 hb33=>?_
 refine cW (fun k F Hx=>∃i:Nat,i+k=evs.length/\F=[(2,.sl (some (bev,0)) evs.length cev),(7,.ptr none),(9,.ptr none),(11,.ptr none),(16,iV (i:Int))]/\H=Hx) (evs.length) ?_ ?_
 ·refine⟨_,_,_,⟨0,by omega,rfl,rfl⟩,Abs.byN hbel ?_⟩
  exact ar
 rintro k12 F Hx ⟨i,hm12,rfl,rfl⟩ Q34 hJ12 hr34 he34
 have hQ34:=fun F H' h=>hr34 F H' (hQ33 F H' h)
 refine zQF hQ34 fun Q35 hn35 hQ35 he35=>?_
 refine rcs G47 (fun h38 h38d G48=>?_) (fun h38 h38d G51=>?_)
 ·have hlt:i<evs.length:=by omega
  obtain⟨bq,oq,cq,hsq,hbq⟩:=hvo.at hlt
  have hblq:=getElem?_lt hbq
  have hb0q:=fun l'=>ae (l:=l') hbq
  have hscl:=hvo.len hlt
  have hsc8:=hf4 i hlt
  refine aa G48 ?_
  refine hn35 _ _ (sqR hQ34 fun Q36 hn36 hQ36 he36=>?_)
  refine bkR hQ36 fun Q37 hn37 hQ37 he37 hb37=>?_
  refine gP false try_mixed (by kernel_rfl) (H.length) (by simp) (fun F2 H2=>(True)/\F2=[(2,.sl (some (bev,0)) evs.length cev),(7,.ptr none),(9,.ptr none),(11,.ptr none),(16,iV (i:Int))]/\H=H2) ?_ ?_
  ·intro J hJ
   have q39:=jX (l:=evs) (j:=i) (by omega)
   have q40:=iJ (l:=evs) (j:=i) (by omega)
   have G49:=jn @dQ (jn q39 (jn q40 G48))
   refine aa G49 ?_
   refine cdr G49 (lmv_nil _ _ _ _) ?_
   refine ai (hJ _ _ ⟨_,_,_,⟨trivial,rfl,rfl⟩,Abs.by0 hbel ?_⟩)
   exact ar
  rintro F2 H2 ⟨pz,rfl,rfl⟩
  refine kz false try_mixed (by kernel_rfl) (fun F2 H2=>(True)/\F2=[(2,.sl (some (bev,0)) evs.length cev),(7,.ptr none),(9,.ptr none),(11,.ptr none),(16,iV (i:Int))]/\H=H2) ?_ ?_
  ·intro J hJ
   have q41:=gO (l:=evs) (j:=i) (by omega) hsq
   have G50:=jn @dQ (jn q41 G48)
   refine aa G50 ?_
   refine cvr G50 (lse_nil _ _ ((evG evs i).sc) (zA2 hb0q hbq)) ?_
   refine ai (hJ _ _ ⟨_,_,_,⟨trivial,rfl,rfl⟩,Abs.by0 hbel ?_⟩)
   exact ar
  rintro F2 H2 ⟨pz,rfl,rfl⟩
  refine hn37 _ _ ?_
  refine hn36 _ _ ?_
  refine fnF ?_
  refine aa G48 ?_
  refine hJ12 _ _ ⟨k12-1,by omega,_,_,_,⟨i+1,by omega,rfl,rfl⟩,Abs.by0 hbel ?_⟩
  exact ar
 obtain rfl:i=evs.length:=by omega
 refine aa G51 ?_
 refine he35 _ _ _ ?_
 refine he34 _ _ _ ?_
 refine hb33 _ _ ?_
 refine hn31 _ _ (zQF hQ fun Q38 hn38 hQ38 he38=>?_)
 refine aa G51 ?_
 refine cvr G51 (same_n _) ?_
 refine hn38 _ _ (sqR hQ fun Q39 hn39 hQ39 he39=>?_)
 refine zQF hQ39 fun Q40 hn40 hQ40 he40=>?_
 refine aa G51 ?_
 refine hn40 _ _ ?_
 refine bkR hQ39 fun Q41 hn41 hQ41 he41 hb41=>?_
 refine cW (fun k F Hx=>∃i:Nat,i+k=evs.length/\F=[(2,.sl (some (bev,0)) evs.length cev),(7,.ptr none),(9,.ptr none),(11,.ptr none),(17,iV (i:Int))]/\H=Hx) (evs.length) ?_ ?_
 ·refine⟨_,_,_,⟨0,by omega,rfl,rfl⟩,Abs.by0 hbel ?_⟩
  exact ar
 rintro k13 F Hx ⟨i,hm13,rfl,rfl⟩ Q42 hJ13 hr42 he42
 have hQ42:=fun F H' h=>hr42 F H' (hQ41 F H' h)
 refine zQF hQ42 fun Q43 hn43 hQ43 he43=>?_
 refine rcs G51 (fun h42 h42d G52=>?_) (fun h42 h42d G57=>?_)
 ·have hlt:i<evs.length:=by omega
  obtain⟨bq,oq,cq,hsq,hbq⟩:=hvo.at hlt
  have hblq:=getElem?_lt hbq
  have hb0q:=fun l'=>ae (l:=l') hbq
  have hscl:=hvo.len hlt
  have hsc8:=hf4 i hlt
  refine aa G52 ?_
  refine hn43 _ _ (sqR hQ42 fun Q44 hn44 hQ44 he44=>?_)
  refine bkR hQ44 fun Q45 hn45 hQ45 he45 hb45=>?_
  refine gP false try_mixed (by kernel_rfl) (H.length) (by simp) (fun F2 H2=>(True)/\F2=[(2,.sl (some (bev,0)) evs.length cev),(7,.ptr none),(9,.ptr none),(11,.ptr none),(17,iV (i:Int))]/\H=H2) ?_ ?_
  ·intro J hJ
   have q43:=jX (l:=evs) (j:=i) (by omega)
   have q44:=iJ (l:=evs) (j:=i) (by omega)
   have G53:=jn @dQ (jn q43 (jn q44 G52))
   refine aa G53 ?_
   refine cdr G53 (lmv_nil _ _ _ _) ?_
   refine ai (hJ _ _ ⟨_,_,_,⟨trivial,rfl,rfl⟩,Abs.by0 hbel ?_⟩)
   exact ar
  rintro F2 H2 ⟨pz,rfl,rfl⟩
  refine AW_join false try_mixed (by kernel_rfl) (fun F2 H2=>(True)/\F2=[(2,.sl (some (bev,0)) evs.length cev),(7,.ptr none),(9,.ptr none),(11,.ptr none),(17,iV (i:Int))]/\H=H2) ?_ ?_
  ·intro J hJ
   have q45:=gO (l:=evs) (j:=i) (by omega) hsq
   have G54:=jn @dQ (jn q45 G52)
   refine aa G54 ?_
   refine cvr G54 (lse_nil _ _ ((evG evs i).sc) (zA2 hb0q hbq)) ?_
   refine ai (hJ _ _ ⟨_,_,_,⟨trivial,rfl,rfl⟩,Abs.by0 hbel ?_⟩)
   exact ar
  rintro F2 H2 ⟨pz,rfl,rfl⟩
  refine gP false try_mixed (by kernel_rfl) (H.length) (by simp) (fun F2 H2=>(True)/\F2=[(2,.sl (some (bev,0)) evs.length cev),(7,.ptr none),(9,.ptr none),(11,.ptr none),(17,iV (i:Int))]/\H=H2) ?_ ?_
  ·intro J hJ
   have q46:=jX (l:=evs) (j:=i) (by omega)
   have q47:=iJ (l:=evs) (j:=i) (by omega)
   have G55:=jn @dQ (jn q46 (jn q47 G52))
   refine aa G55 ?_
   refine cdr G55 (rmv_nil _ _ _ _) ?_
   refine ai (hJ _ _ ⟨_,_,_,⟨trivial,rfl,rfl⟩,Abs.by0 hbel ?_⟩)
   exact ar
  rintro F2 H2 ⟨pz,rfl,rfl⟩
  refine kz false try_mixed (by kernel_rfl) (fun F2 H2=>(True)/\F2=[(2,.sl (some (bev,0)) evs.length cev),(7,.ptr none),(9,.ptr none),(11,.ptr none),(17,iV (i:Int))]/\H=H2) ?_ ?_
  ·intro J hJ
   have q48:=gO (l:=evs) (j:=i) (by omega) hsq
   have G56:=jn @dQ (jn q48 G52)
   refine aa G56 ?_
   refine cvr G56 (rse_nil _ _ ((evG evs i).sc) (zA2 hb0q hbq)) ?_
   refine ai (hJ _ _ ⟨_,_,_,⟨trivial,rfl,rfl⟩,Abs.by0 hbel ?_⟩)
   exact ar
  rintro F2 H2 ⟨pz,rfl,rfl⟩
  refine hn45 _ _ ?_
  refine hn44 _ _ ?_
  refine fnF ?_
  refine aa G52 ?_
  refine hJ13 _ _ ⟨k13-1,by omega,_,_,_,⟨i+1,by omega,rfl,rfl⟩,Abs.by0 hbel ?_⟩
  exact ar
 obtain rfl:i=evs.length:=by omega
 refine aa G57 ?_
 refine he43 _ _ _ ?_
 refine he42 _ _ _ ?_
 refine hb41 _ _ ?_
 refine hn39 _ _ ?_
 refine fnF ?_
 refine aa G57 ?_
 refine cvr G57 (same_n _) ?_
 refine cvr G57 (same_n _) ?_
 exact eQ hQ hbel (.bool true) results6 ⟨by rfl,rfl⟩
set_option maxRecDepth 100000 in
theorem mV (H:ac)(xs:List AV)(hn:xs.length=3)(hy:∀(j:Nat) (t:TypeId) (x:AV),[24,25,45][j]? = some t->xs[j]? = some x->ATy prog H 9 t x):ACalls prog 6 xs H (fun v H'=>v=.bool true/\H'=H):=by
 match xs,hn,hy with
 | [a0,a1,a2],_,hy =>
  obtain⟨ys0,e0,r0_0⟩:=(hy 0 _ a0 rfl rfl).agg (ls:=[3,3,22]) (by kernel_rfl) (by kernel_rfl)
  obtain⟨y0_0,q0_0,rfl,t0_0,r0_1⟩:=r0_0.cons
  obtain⟨z1,rfl,w1⟩:=t0_0.int (k:=.i64) (by kernel_rfl)
  obtain⟨y0_1,q0_1,rfl,t0_1,r0_2⟩:=r0_1.cons
  obtain⟨z2,rfl,w2⟩:=t0_1.int (k:=.i64) (by kernel_rfl)
  obtain⟨y0_2,q0_2,rfl,t0_2,r0_3⟩:=r0_2.cons
  obtain⟨l3,s3,m3,w3⟩:=t0_2.intsU (n:=7) (t:=22) (e:=5) (by kernel_rfl) (by kernel_rfl) (by kernel_rfl)
  obtain rfl:=r0_3.nil
  subst e0
  have t1:=(hy 1 _ a1 rfl rfl).one (by kernel_rfl) (by kernel_rfl)
  obtain⟨l4,s4,m4,w4⟩:=t1.rec6 (n:=7) (t:=25) (e:=56) (t1:=3) (t2:=3) (t3:=3) (t4:=3) (t5:=3) (t6:=3) (by kernel_rfl) (by kernel_rfl) (by kernel_rfl) (by kernel_rfl) (by kernel_rfl) (by kernel_rfl) (by kernel_rfl) (by kernel_rfl)
  have t2:=(hy 2 _ a2 rfl rfl).one (by kernel_rfl) (by kernel_rfl)
  obtain⟨l5,s5,m5,w5⟩:=t2.e5s (n:=6) (t:=45) (e:=52) (ti:=3) (tb:=4) (ts:=50) (te:=59) (u:=3) (v:=3) (by kernel_rfl) (by kernel_rfl) (by kernel_rfl) (by kernel_rfl) (by kernel_rfl) (by kernel_rfl) (by kernel_rfl) (by kernel_rfl)
  exact lcl_c H z1 z2 _ l3 _ l4 _ l5 s3 s4 s5 (by have q:=m4;unfold maxLen at q;exact q) (by have q:=m5;unfold maxLen at q;exact q) w5
section
open Go.ChangeShapes Go.WideShapes Go.ChangeAt Go.Joins
open Go.ChangeMaps (open_string shut_string)
set_option maxRecDepth 100000 in
theorem kE (os:Os)(started:os.Started)(H:Type)(enc:TypeId×Value->H):
  ReturnsInHanded {} Tryz.checked os 6 .any (Rows.locateClonesSpec.pre6 enc prog Tryz.f6 Rows.locateClonesRow.domain false) (Rows.locateClonesSpec.post enc prog Tryz.f6 false true false false):=by
 refine returnsInHanded_of_change (C:=Tryz.checked) own started (by kernel_rfl) func6
  (ChangeSpec.witness6 (enc:=enc) (C:=Tryz.checked) false ⟨#[],#[.agg #[.int .i64 0,.int .i64 0,.slice none 0 0],.slice none 0 0,.slice none 0 0],[]⟩ 8 (by kernel_rfl) (by kernel_rfl) (by kernel_rfl) (by kernel_rfl)) ?_
 intro W base args ds gs before hval0 hW hcnd _
 have hval:∀(j:Nat) t v,Tryz.f6.params[j]? = some t->args[j]? = some v->Value.okWide prog W .any base t v:=hval0
 have hW':=hW
 obtain⟨p,q,hA0,hV,rfl,hfz,hnd⟩:=hW
 have hA:DataW.TrodAll enc prog W 0 (fun _=>true) true Tryz.f6.params.toList args.toList ds p:=hA0
 rw[Tryz.params6] at hA hval
 have hwalk:=calls_top (n:=9) (f:=6) hA (fun j t v a b=>hval j t v (by simpa using a) (by simpa using b)) (by kernel_rfl) (fun H xs hn hy=>mV H xs hn hy)
 rw[Array.toArray_toList] at hwalk
 obtain⟨v0,vs0,d0,ds0,p0,q0,hargs,rfl,rfl,h0,r0⟩:=trodAll_cons hA
 obtain⟨v1,vs1,d1,ds1,p1,q1,rfl,rfl,rfl,h1,r1⟩:=trodAll_cons r0
 obtain⟨v2,vs2,d2,ds2,p2,q2,rfl,rfl,rfl,h2,r2⟩:=trodAll_cons r1
 obtain⟨rfl,rfl,rfl⟩:=trodAll_nil r2
 obtain rfl:args=#[v0,v1,v2]:=by cases args;simp_all
 obtain⟨rfl,rfl⟩:=trodVars_none hV
 have k0:=h0
 have lt0:∀x∈p0,x.block<W.heap.size:=by obtain⟨m,hm⟩:=k0;exact DataW.trod_lt m _ _ _ hm
 have k1:=h1
 have lt1:∀x∈p1,x.block<W.heap.size:=by obtain⟨m,hm⟩:=k1;exact DataW.trod_lt m _ _ _ hm
 have k2:=h2
 have lt2:∀x∈p2,x.block<W.heap.size:=by obtain⟨m,hm⟩:=k2;exact DataW.trod_lt m _ _ _ hm
 clear hA0 hval0
 refine hwalk.mono fun e W' ⟨he,bel⟩=>?_
 subst he
 exact⟨_,rfl,_,_,_,[],_,[],hW',trodAll_mk1 (shut_bool Tryz.underlying4 _),(trodAll_cons_mk (Below.trod lx (by kernel_rfl) (of_decide_eq_true (by kernel_rfl)) k0 bel lt0) (trodAll_cons_mk (Below.trod lx (by kernel_rfl) (of_decide_eq_true (by kernel_rfl)) k1 bel lt1) (trodAll_cons_mk (Below.trod lx (by kernel_rfl) (of_decide_eq_true (by kernel_rfl)) k2 bel lt2) trodAll_mk0))),rfl,bel.frame _,fun h=>by cases h⟩
theorem cV {a b:Bool}(h:a=true)(k:b=true):(a&&b)=true:=by rw[h,k];rfl
theorem nQ:(Rows.locateClonesRow.inPlace==Tryz.pinned.checked.prog.inPlace 6)=true:=by kernel_rfl
theorem nR:(Rows.locateClonesRow.unfollowed==Tryz.pinned.checked.prog.unfollowed 6)=true:=by kernel_rfl
theorem nS:(Rows.locateClonesRow.recurses==Tryz.pinned.checked.prog.recurses 6)=true:=by kernel_rfl
theorem nT:(Rows.locateClonesRow.named==Tryz.pinned.checked.prog.varsNamed 6)=true:=by kernel_rfl
theorem nU:Tryz.pinned.checked.prog.stopsHeard=true:=by kernel_rfl
theorem nV:Tryz.pinned.checked.prog.mayEnter=true:=by kernel_rfl
theorem nW:(Rows.locateClonesRow.lifted==Tryz.pinned.checked.prog.liftsFinal)=true:=by kernel_rfl
theorem kF:joinedFacts Tryz.pinned.checked.prog 6 Tryz.f6 Rows.locateClonesSpec Rows.locateClonesRow=true:=by
 unfold joinedFacts
 exact(cV (cV (cV (cV (cV (cV (cV (cV (cV (cV (cV (cV (cV (cV (cV (cV (cV (cV (cV (cV (cV (cV (cV (cV (cV (cV (cV (cV (cV (cV (cV (by kernel_rfl) lx) (by kernel_rfl)) (by kernel_rfl)) (by kernel_rfl)) (by kernel_rfl)) (by kernel_rfl)) (by kernel_rfl)) (by kernel_rfl)) nQ) nR) nS) nT) (by kernel_rfl)) (by kernel_rfl)) (by kernel_rfl)) (by kernel_rfl)) (by kernel_rfl)) (by kernel_rfl)) (by kernel_rfl)) (by kernel_rfl)) (by kernel_rfl)) (by kernel_rfl)) (by kernel_rfl)) nU) nV) nW) (by kernel_rfl)) (by kernel_rfl)) (by kernel_rfl)) (by kernel_rfl)) (by kernel_rfl))
theorem lX:Rows.locateClonesRow.holds Tryz.pinned (OpenSpec.ofChange Rows.locateClonesSpec) :=
 OpenClaim.holds_of_wide 6 Tryz.f6 rfl rfl rfl rfl rfl rfl rfl ⟨rfl,rfl,rfl,rfl,rfl⟩ rfl rfl rfl rfl rfl (by kernel_rfl) func6 kF
  (of_decide_eq_true (by kernel_rfl)) (by unfold Func.isWrapper;rw[if_neg (by decide +kernel)];exact⟨rfl,rfl⟩)
  (fun os started H enc _=>kE os started H enc)
theorem locateClones_proved:Rows.LocateClonesSaid:=lX
end
end Go.Proofs.YtidlfjajjieepaaGreat
