/- Parts of the proof: walks and plain facts. Conditions: as each theorem states. -/
import Derived.Test.YtjihmmoaaibmnaaGreatG3
import Derived.Test.YtjihmmoaaibmnaaGreatG2
import Derived.Test.YtjihmmoaaibmnaaGreatG4
import Derived.Deep.RegionHeld3
import Derived.Test.YtjihmmoaaibmnaaGreatG1
import Derived.Maps.AppendAt
import Derived.Deep.RegionLaw
import Derived.Lib.SliceRun
namespace Go.Proofs.YtjihmmoaaibmnaaGreat
set_option linter.unusedSimpArgs false
set_option linter.unusedVariables false
open Go.RowKit Go.Proofs.Tryz
set_option maxHeartbeats 4000000
set_option maxRecDepth 100000
theorem proven_c (H:aa)(W Hh:Int)(pp:AV)(xs:List Int)(s:AV)(l:List T6)(m r g:Int)(hpp:zI H pp xs)(hs:Sl H 6 s l.length (r6 l))(hV:bQ W Hh xs=true)(hS:cw l=true)(hl0:0<l.length)(hr : -1<=r/\r<=1024)(hg:1<=g/\g<=32):zC 131 [.agg [iV W,iV Hh,pp],s,.agg [iV m,iV r],iV g] H (.sl (some (H.length,0)) ((fh W Hh l m r g).length) (aW (fh W Hh l m r g).length)) (H++[.cells (aQ (fh W Hh l m r g).length) 2 (prs (fh W Hh l m r g))]):=by
 obtain⟨bpp,opp,cpp,rfl,hbpp,hblpp,hb0pp⟩:=zA1 hpp
 obtain⟨bs,os,cs,rfl,hbs,hbls,hb0s⟩:=zA1 hs
 have hvl:=bo.1 hV
 have hWb:1<=W/\W<=64/\1<=Hh/\Hh<=64:=by obtain⟨a,b,c,d,-⟩:=hvl;omega
 have hda:=kU hS m
 have hpair:∀j',j'<(az l m).length->bxB (g91 (az l m) j') (g92 (az l m) j') (g93 (az l m) j') (g94 (az l m) j') (g95 (az l m) j') (g96 (az l m) j')=true:=fun j' hj'=>by
  have k:=oU hS (g9_mem hj')
  unfold pairB at k;rw[Bool.and_eq_true] at k;exact k.1
 have hp0:=hpair 0 (by omega)
 have hfl:=fstL_len l m (aw r g)
 (refine bh func131 _ rfl (Nat.le_of_ble_eq_true (by kernel_rfl)) rfl ?_;intro hbel Q hQ hQ' c hc;unfold Tryz.f131 at hc;simp only[Option.some.injEq] at hc;subst hc;clear hQ')
 refine zQF hQ fun Q1 hn1 hQ1 he1=>?_
 have G1:=jn @hbpp (jn @hb0pp (jn @hbs @hb0s))
 refine ae G1 ?_
 refine hn1 _ _ (zQF hQ fun Q2 hn2 hQ2 he2=>?_)
 refine ae G1 ?_
 refine hn2 _ _ (zQF hQ fun Q3 hn3 hQ3 he3=>?_)
 refine rcs G1 (fun h1 h1d _=>?_) (fun h1 h1d _=>?_)
 ·have h1n:=bnT h1
  have hr1:r = -1:=by simpa using h1d
  have hsf1:1024-g=aw r g:=(if_pos hr1).symm
  have G2:=jn h1 (jn h1n (jn @aP (jn @aO (jn @hsf1 G1))))
  refine ae G2 ?_
  refine hn3 _ _ (zQF hQ fun Q4 hn4 hQ4 he4=>?_)
  refine rcs G2 (fun h2 h2d G3=>?_) (fun h2 h2d G4=>?_)
  ·have hfinL:fh W Hh l m r g=[]:=if_pos h2d
   refine ae G3 ?_
   refine hQ4 _ _ (ba (.inl rfl) hbel (x1:=.sl none 0 (some 0)) (l2:=[.cells false 2 []]) (.sl (some (H.length,0)) 0 (some 0)) (aY results131) [.cells false 2 []] rfl [3] (by decide) ⟨by (rw[hfinL];rfl),by (rw[hfinL];rfl)⟩ ?_)
   exact aJ
  have hfar:=h2d
  refine ae G4 ?_
  refine hn4 _ _ (zQF hQ fun Q5 hn5 hQ5 he5=>?_)
  refine ae G4 ?_
  refine cvr G4 (kX _ _ l m r (zA2 hb0s hbs) (by assumption)) ?_
  refine hn5 _ _ ?_
  refine mV false try_mixed [[0,1,2,3,4,5,6,7,8,9,10,11,12,13,14,15,16,17],[0,1,2,3,7,8,9,11,4,5,6,10,12,13,14,15,16,17],[0,1,2,3,7,8,9,10,4,5,6,11,12,13,14,15,16,17],[0,1,2,3,7,8,9,10,11,4,5,6,12,13,14,15,16,17]] (by kernel_rfl) (fun F2 H2=>F2=[(4,.ptr (some (H.length,0))),(8,.sl none 0 (some 0)),(9,.ptr (some (H.length+1,0))),(10,.sl (some (H.length+2,0)) ((az l m).length) (aW (az l m).length)),(11,.sl (some (H.length+3,0)) ((aT l m (aw r g)).length) (aW (aT l m (aw r g)).length))]/\H2=H++[.cells true 0 [iV W,iV Hh,.sl (some (bpp,0)) xs.length cpp],.cells true 0 [iV (aw r g)],.cells (aQ (az l m).length) 9 (r9 (az l m)),.cells (aQ (aT l m (aw r g)).length) 2 (prs (aT l m (aw r g)))]) ?_ ?_
  ·refine aj ?_ (aj ?_ (aj ?_ (aj ?_ (bu))))<;>intro J hJ
   ·have q3:=jT (l:=az l m) (by omega)
    have G5:=jn @eJ (jn q3 G4)
    refine ag G5 ?_
    refine cx (eK _ _ _ _ _ _ _ (by assumption)) ?_
    have q4:=jU (l:=az l m) (by omega)
    have G6:=jn q4 G5
    refine ag G6 ?_
    refine cx (fq _ l m _) ?_
    refine ag G6 ?_
    refine aq (hJ _ _ ⟨_,_,_,⟨rfl,rfl⟩,bS hbel [0,2,3,5] (aC (jn @bD (jn @bH (jn @cz @ct))))⟩)
   ·have q5:=jT (l:=az l m) (by omega)
    have G7:=jn @eJ (jn q5 G4)
    refine ag G7 ?_
    refine cx (eK _ _ _ _ _ _ _ (by assumption)) ?_
    have q6:=jU (l:=az l m) (by omega)
    have G8:=jn q6 G7
    refine ag G8 ?_
    refine cx (fq _ l m _) ?_
    refine ag G8 ?_
    refine aq (hJ _ _ ⟨_,_,_,⟨rfl,rfl⟩,bS hbel [0,2,3,5] (aC (jn @bD (jn @bH (jn @cz @ct))))⟩)
   ·have q7:=jT (l:=az l m) (by omega)
    have q8:=jU (l:=az l m) (by omega)
    have G9:=jn @eJ (jn q7 (jn q8 G4))
    refine ag G9 ?_
    refine cx (eK _ _ _ _ _ _ _ (by assumption)) ?_
    refine ag G9 ?_
    refine cx (fq _ l m _) ?_
    refine ag G9 ?_
    refine aq (hJ _ _ ⟨_,_,_,⟨rfl,rfl⟩,bS hbel [0,2,3,5] (aC (jn @bD (jn @bH (jn @cz @ct))))⟩)
   have q9:=jT (l:=az l m) (by omega)
   have q10:=jU (l:=az l m) (by omega)
   have G10:=jn @eJ (jn q9 (jn q10 G4))
   refine ag G10 ?_
   refine cx (eK _ _ _ _ _ _ _ (by assumption)) ?_
   refine ag G10 ?_
   refine cx (fq _ l m _) ?_
   refine ag G10 ?_
   refine aq (hJ _ _ ⟨_,_,_,⟨rfl,rfl⟩,bS hbel [0,2,3,5] (aC (jn @bD (jn @bH (jn @cz @ct))))⟩)
  rintro F2 H2 ⟨rfl,rfl⟩
  refine fnF ?_
  have G11:=jn @eJ (jn @lU (jn @bF (jn @cJ G4)))
  refine ae G11 ?_
  refine glp (fun k F Hx=>∃j:Nat,j+k=(aT l m (aw r g)).length/\F=[(4,.ptr (some (H.length,0))),(9,.ptr (some (H.length+1,0))),(10,.sl (some (H.length+2,0)) ((az l m).length) (aW (az l m).length)),(13,.sl (some (H.length+4,0)) ((((aT l m (aw r g)).take j).filter (bU W Hh l m (aw r g))).length) (aW (((aT l m (aw r g)).take j).filter (bU W Hh l m (aw r g))).length)),(49,.sl (some (H.length+3,0)) ((aT l m (aw r g)).length) (aW (aT l m (aw r g)).length)),(50,iV (((aT l m (aw r g)).length:Nat):Int)),(51,iV (j:Int))]/\Hx=H++[.cells true 0 [iV W,iV Hh,.sl (some (bpp,0)) xs.length cpp],.cells true 0 [iV (aw r g)],.cells (aQ (az l m).length) 9 (r9 (az l m)),.cells (aQ (aT l m (aw r g)).length) 2 (prs (aT l m (aw r g))),.cells (aQ (((aT l m (aw r g)).take j).filter (bU W Hh l m (aw r g))).length) 2 (prs (((aT l m (aw r g)).take j).filter (bU W Hh l m (aw r g))))]) ((aT l m (aw r g)).length) ?_ ?_
  ·refine⟨_,_,_,⟨0,by omega,rfl,rfl⟩,Abs.byG hbel [.cells false 2 []] rfl [0,1,2,3,4] (by decide) ?_⟩
   exact aC (jn @List.take_zero.{0} (jn @List.filter_nil.{0} (jn @bD (jn @bH (jn @cz @ct)))))
  rintro k0 F Hx ⟨j,hm0,rfl,rfl⟩ J0 hJ0
  refine rcs G11 (fun h11 h11d _=>?_) (fun h11 h11d G24=>?_)
  ·have hlt:j<(aT l m (aw r g)).length:=by omega
   have hpr:=(cP hlt).symm
   have hst:=rn (p:=(bU W Hh l m (aw r g))) hlt
   have hfln:=flt_len (p:=(bU W Hh l m (aw r g))) (l:=(aT l m (aw r g))) (j:=j)
   have q12:=c8 (l:=aT l m (aw r g)) (j:=j) (by omega)
   have G12:=jn h11 (jn h11d (jn q12 G11))
   refine ae G12 ?_
   rcases Bool.eq_false_or_eq_true (sqO (g1 (aT l m (aw r g)) j) (g2 (aT l m (aw r g)) j)) with h13|h13
   ·have h13d:=h13
    have hsq:=h13d
    refine cv (psqr_t _ _ _ (by assumption)) ?_
    have G13:=j2 h13 h13d G12
    refine ae G13 ?_
    refine cv (dq _ _ 0 _) ?_
    refine rgs G13 (fun h14 h14d G14=>?_) (fun h14 h14d G19=>?_)
    ·have hbx:=h14d
     refine ae G14 ?_
     refine cv (dq _ _ 0 _) ?_
     refine rgs G14 (fun h15 h15d G15=>?_) (fun h15 h15d G18=>?_)
     ·have hby:=h15d
      refine ae G15 ?_
      refine cv (has_r _ _ (az l m) ⟨_,_,_,by rfl,by (rw[aK];rfl)⟩ (by omega) _ [.ptr (some (H.length+6,0)),.ptr (some (H.length+1,0))] (by kernel_rfl) (by simp[AV.bels,AV.bel]) (fun e=>!psC e (aw r g) (g1 (aT l m (aw r g)) j,g2 (aT l m (aw r g)) j)) (fun j' hj'=>kprv1_c _ _ _ _ _ _ _ _ _ _ _ _ _ _ _ _ _ ⟨_,by (rw[aK];rfl)⟩ ⟨_,by (rw[aK];rfl)⟩ (hpair _ hj'))) ?_
      refine rcs G15 (fun h16 h16d _=>?_) (fun h16 h16d G17=>?_)
      ·have hok:bU W Hh l m (aw r g) (g1 (aT l m (aw r g)) j,g2 (aT l m (aw r g)) j)=true:=by unfold bU prvB;rw[hbx,hby,List.all_eq_not_any_not,h16d];rfl
       rw[hpr,if_pos hok] at hst
       have G16:=jn h16 (jn h16d (jn @d4 G15))
       refine ae G16 ?_
       refine hJ0 _ _ ⟨k0-1,by omega,_,_,_,⟨j+1,by omega,rfl,rfl⟩,bS hbel [0,1,2,3,8] (aC (jn @hst (jn @bD (jn @bH (jn @cz @ct)))))⟩
      have hok:bU W Hh l m (aw r g) (g1 (aT l m (aw r g)) j,g2 (aT l m (aw r g)) j)=false:=by unfold bU prvB;rw[hbx,hby,List.all_eq_not_any_not,h16d];rfl
      rw[hpr,if_neg (by rw[hok];decide),List.append_nil] at hst
      refine ae G17 ?_
      refine hJ0 _ _ ⟨k0-1,by omega,_,_,_,⟨j+1,by omega,rfl,rfl⟩,bS hbel [0,1,2,3,4] (aC (jn @hst (jn @bD (jn @bH (jn @cz @ct)))))⟩
     have hok:bU W Hh l m (aw r g) (g1 (aT l m (aw r g)) j,g2 (aT l m (aw r g)) j)=false:=by unfold bU;rw[hbx,h15d];rfl
     rw[hpr,if_neg (by rw[hok];decide),List.append_nil] at hst
     refine ae G18 ?_
     refine hJ0 _ _ ⟨k0-1,by omega,_,_,_,⟨j+1,by omega,rfl,rfl⟩,bS hbel [0,1,2,3,4] (aC (jn @hst (jn @bD (jn @bH (jn @cz @ct)))))⟩
    have hok:bU W Hh l m (aw r g) (g1 (aT l m (aw r g)) j,g2 (aT l m (aw r g)) j)=false:=by unfold bU;rw[h14d];rfl
    rw[hpr,if_neg (by rw[hok];decide),List.append_nil] at hst
    refine ae G19 ?_
    refine hJ0 _ _ ⟨k0-1,by omega,_,_,_,⟨j+1,by omega,rfl,rfl⟩,bS hbel [0,1,2,3,4] (aC (jn @hst (jn @bD (jn @bH (jn @cz @ct)))))⟩
   have h13d:=h13
   have hsq:=h13d
   refine cv (psqr_f _ _ _ (by assumption)) ?_
   have G20:=j2 h13 h13d G12
   refine ae G20 ?_
   refine cv (dq _ _ 0 _) ?_
   refine rgs G20 (fun h17 h17d G21=>?_) (fun h17 h17d G23=>?_)
   ·have hbx:=h17d
    refine ae G21 ?_
    refine cv (dq _ _ 0 _) ?_
    refine rgs G21 (fun h18 h18d _=>?_) (fun h18 h18d G22=>?_)
    ·have hby:=h18d
     have hq1:=aZ.1 hbx
     have hq2:=aZ.1 hby
     exact absurd (show sqO (g1 (aT l m (aw r g)) j) (g2 (aT l m (aw r g)) j)=true by unfold sqO;rw[Bool.and_eq_true,aL,aL];omega) (by rw[hsq];decide)
    have hok:bU W Hh l m (aw r g) (g1 (aT l m (aw r g)) j,g2 (aT l m (aw r g)) j)=false:=by unfold bU;rw[hbx,h18d];rfl
    rw[hpr,if_neg (by rw[hok];decide),List.append_nil] at hst
    refine ae G22 ?_
    refine hJ0 _ _ ⟨k0-1,by omega,_,_,_,⟨j+1,by omega,rfl,rfl⟩,bS hbel [0,1,2,3,4] (aC (jn @hst (jn @bD (jn @bH (jn @cz @ct)))))⟩
   have hok:bU W Hh l m (aw r g) (g1 (aT l m (aw r g)) j,g2 (aT l m (aw r g)) j)=false:=by unfold bU;rw[h17d];rfl
   rw[hpr,if_neg (by rw[hok];decide),List.append_nil] at hst
   refine ae G23 ?_
   refine hJ0 _ _ ⟨k0-1,by omega,_,_,_,⟨j+1,by omega,rfl,rfl⟩,bS hbel [0,1,2,3,4] (aC (jn @hst (jn @bD (jn @bH (jn @cz @ct)))))⟩
  obtain rfl:j=(aT l m (aw r g)).length:=by omega
  have hfinL:((aT l m (aw r g)).take (aT l m (aw r g)).length).filter (bU W Hh l m (aw r g))=fh W Hh l m r g:=by rw[List.take_length];exact(if_neg hfar).symm
  refine ae G24 ?_
  refine hQ _ _ (ba (.inl rfl) hbel (x1:=.sl (some (H.length+4,0)) ((((aT l m (aw r g)).take (aT l m (aw r g)).length).filter (bU W Hh l m (aw r g))).length) (aW (((aT l m (aw r g)).take (aT l m (aw r g)).length).filter (bU W Hh l m (aw r g))).length)) (l2:=[.cells (aQ (((aT l m (aw r g)).take (aT l m (aw r g)).length).filter (bU W Hh l m (aw r g))).length) 2 (prs (((aT l m (aw r g)).take (aT l m (aw r g)).length).filter (bU W Hh l m (aw r g))))]) (.sl (some (H.length,0)) ((((aT l m (aw r g)).take (aT l m (aw r g)).length).filter (bU W Hh l m (aw r g))).length) (aW (((aT l m (aw r g)).take (aT l m (aw r g)).length).filter (bU W Hh l m (aw r g))).length)) (aY results131) [] rfl [4] (by decide) ⟨by rw[hfinL],by rw[hfinL]⟩ ?_)
  exact aJ
 have h1n:=bnT h1
 have hr1:¬r = -1:=by simpa using h1d
 have hsf1:r-g=aw r g:=(if_neg hr1).symm
 have G25:=jn h1 (jn h1n (jn @aP (jn @aO (jn @hsf1 G1))))
 refine ae G25 ?_
 refine hn3 _ _ (zQF hQ fun Q6 hn6 hQ6 he6=>?_)
 refine rcs G25 (fun h19 h19d G26=>?_) (fun h19 h19d G27=>?_)
 ·have hfinL:fh W Hh l m r g=[]:=if_pos h19d
  refine ae G26 ?_
  refine hQ6 _ _ (ba (.inl rfl) hbel (x1:=.sl none 0 (some 0)) (l2:=[.cells false 2 []]) (.sl (some (H.length,0)) 0 (some 0)) (aY results131) [.cells false 2 []] rfl [3] (by decide) ⟨by (rw[hfinL];rfl),by (rw[hfinL];rfl)⟩ ?_)
  exact aJ
 have hfar:=h19d
 refine ae G27 ?_
 refine hn6 _ _ (zQF hQ fun Q7 hn7 hQ7 he7=>?_)
 refine ae G27 ?_
 refine cvr G27 (kX _ _ l m r (zA2 hb0s hbs) (by assumption)) ?_
 refine hn7 _ _ ?_
 refine mV false try_mixed [[0,1,2,3,4,5,6,7,8,9,10,11,12,13,14,15,16,17],[0,1,2,3,7,8,9,11,4,5,6,10,12,13,14,15,16,17],[0,1,2,3,7,8,9,10,4,5,6,11,12,13,14,15,16,17],[0,1,2,3,7,8,9,10,11,4,5,6,12,13,14,15,16,17]] (by kernel_rfl) (fun F2 H2=>F2=[(4,.ptr (some (H.length,0))),(8,.sl none 0 (some 0)),(9,.ptr (some (H.length+1,0))),(10,.sl (some (H.length+2,0)) ((az l m).length) (aW (az l m).length)),(11,.sl (some (H.length+3,0)) ((aT l m (aw r g)).length) (aW (aT l m (aw r g)).length))]/\H2=H++[.cells true 0 [iV W,iV Hh,.sl (some (bpp,0)) xs.length cpp],.cells true 0 [iV (aw r g)],.cells (aQ (az l m).length) 9 (r9 (az l m)),.cells (aQ (aT l m (aw r g)).length) 2 (prs (aT l m (aw r g)))]) ?_ ?_
 ·refine aj ?_ (aj ?_ (aj ?_ (aj ?_ (bu))))<;>intro J hJ
  ·have q20:=jT (l:=az l m) (by omega)
   have G28:=jn @eJ (jn q20 G27)
   refine ag G28 ?_
   refine cx (eK _ _ _ _ _ _ _ (by assumption)) ?_
   have q21:=jU (l:=az l m) (by omega)
   have G29:=jn q21 G28
   refine ag G29 ?_
   refine cx (fq _ l m _) ?_
   refine ag G29 ?_
   refine aq (hJ _ _ ⟨_,_,_,⟨rfl,rfl⟩,bS hbel [0,2,3,5] (aC (jn @bD (jn @bH (jn @cz @ct))))⟩)
  ·have q22:=jT (l:=az l m) (by omega)
   have G30:=jn @eJ (jn q22 G27)
   refine ag G30 ?_
   refine cx (eK _ _ _ _ _ _ _ (by assumption)) ?_
   have q23:=jU (l:=az l m) (by omega)
   have G31:=jn q23 G30
   refine ag G31 ?_
   refine cx (fq _ l m _) ?_
   refine ag G31 ?_
   refine aq (hJ _ _ ⟨_,_,_,⟨rfl,rfl⟩,bS hbel [0,2,3,5] (aC (jn @bD (jn @bH (jn @cz @ct))))⟩)
  ·have q24:=jT (l:=az l m) (by omega)
   have q25:=jU (l:=az l m) (by omega)
   have G32:=jn @eJ (jn q24 (jn q25 G27))
   refine ag G32 ?_
   refine cx (eK _ _ _ _ _ _ _ (by assumption)) ?_
   refine ag G32 ?_
   refine cx (fq _ l m _) ?_
   refine ag G32 ?_
   refine aq (hJ _ _ ⟨_,_,_,⟨rfl,rfl⟩,bS hbel [0,2,3,5] (aC (jn @bD (jn @bH (jn @cz @ct))))⟩)
  have q26:=jT (l:=az l m) (by omega)
  have q27:=jU (l:=az l m) (by omega)
  have G33:=jn @eJ (jn q26 (jn q27 G27))
  refine ag G33 ?_
  refine cx (eK _ _ _ _ _ _ _ (by assumption)) ?_
  refine ag G33 ?_
  refine cx (fq _ l m _) ?_
  refine ag G33 ?_
  refine aq (hJ _ _ ⟨_,_,_,⟨rfl,rfl⟩,bS hbel [0,2,3,5] (aC (jn @bD (jn @bH (jn @cz @ct))))⟩)
 rintro F2 H2 ⟨rfl,rfl⟩
 refine fnF ?_
 have G34:=jn @eJ (jn @lU (jn @bF (jn @cJ G27)))
 refine ae G34 ?_
 refine glp (fun k F Hx=>∃j:Nat,j+k=(aT l m (aw r g)).length/\F=[(4,.ptr (some (H.length,0))),(9,.ptr (some (H.length+1,0))),(10,.sl (some (H.length+2,0)) ((az l m).length) (aW (az l m).length)),(13,.sl (some (H.length+4,0)) ((((aT l m (aw r g)).take j).filter (bU W Hh l m (aw r g))).length) (aW (((aT l m (aw r g)).take j).filter (bU W Hh l m (aw r g))).length)),(49,.sl (some (H.length+3,0)) ((aT l m (aw r g)).length) (aW (aT l m (aw r g)).length)),(50,iV (((aT l m (aw r g)).length:Nat):Int)),(51,iV (j:Int))]/\Hx=H++[.cells true 0 [iV W,iV Hh,.sl (some (bpp,0)) xs.length cpp],.cells true 0 [iV (aw r g)],.cells (aQ (az l m).length) 9 (r9 (az l m)),.cells (aQ (aT l m (aw r g)).length) 2 (prs (aT l m (aw r g))),.cells (aQ (((aT l m (aw r g)).take j).filter (bU W Hh l m (aw r g))).length) 2 (prs (((aT l m (aw r g)).take j).filter (bU W Hh l m (aw r g))))]) ((aT l m (aw r g)).length) ?_ ?_
 ·refine⟨_,_,_,⟨0,by omega,rfl,rfl⟩,Abs.byG hbel [.cells false 2 []] rfl [0,1,2,3,4] (by decide) ?_⟩
  exact aC (jn @List.take_zero.{0} (jn @List.filter_nil.{0} (jn @bD (jn @bH (jn @cz @ct)))))
 rintro k0 F Hx ⟨j,hm0,rfl,rfl⟩ J0 hJ0
 refine rcs G34 (fun h28 h28d _=>?_) (fun h28 h28d G47=>?_)
 ·have hlt:j<(aT l m (aw r g)).length:=by omega
  have hpr:=(cP hlt).symm
  have hst:=rn (p:=(bU W Hh l m (aw r g))) hlt
  have hfln:=flt_len (p:=(bU W Hh l m (aw r g))) (l:=(aT l m (aw r g))) (j:=j)
  have q29:=c8 (l:=aT l m (aw r g)) (j:=j) (by omega)
  have G35:=jn h28 (jn h28d (jn q29 G34))
  refine ae G35 ?_
  rcases Bool.eq_false_or_eq_true (sqO (g1 (aT l m (aw r g)) j) (g2 (aT l m (aw r g)) j)) with h30|h30
  ·have h30d:=h30
   have hsq:=h30d
   refine cv (psqr_t _ _ _ (by assumption)) ?_
   have G36:=j2 h30 h30d G35
   refine ae G36 ?_
   refine cv (dq _ _ 0 _) ?_
   refine rgs G36 (fun h31 h31d G37=>?_) (fun h31 h31d G42=>?_)
   ·have hbx:=h31d
    refine ae G37 ?_
    refine cv (dq _ _ 0 _) ?_
    refine rgs G37 (fun h32 h32d G38=>?_) (fun h32 h32d G41=>?_)
    ·have hby:=h32d
     refine ae G38 ?_
     refine cv (has_r _ _ (az l m) ⟨_,_,_,by rfl,by (rw[aK];rfl)⟩ (by omega) _ [.ptr (some (H.length+6,0)),.ptr (some (H.length+1,0))] (by kernel_rfl) (by simp[AV.bels,AV.bel]) (fun e=>!psC e (aw r g) (g1 (aT l m (aw r g)) j,g2 (aT l m (aw r g)) j)) (fun j' hj'=>kprv1_c _ _ _ _ _ _ _ _ _ _ _ _ _ _ _ _ _ ⟨_,by (rw[aK];rfl)⟩ ⟨_,by (rw[aK];rfl)⟩ (hpair _ hj'))) ?_
     refine rcs G38 (fun h33 h33d _=>?_) (fun h33 h33d G40=>?_)
     ·have hok:bU W Hh l m (aw r g) (g1 (aT l m (aw r g)) j,g2 (aT l m (aw r g)) j)=true:=by unfold bU prvB;rw[hbx,hby,List.all_eq_not_any_not,h33d];rfl
      rw[hpr,if_pos hok] at hst
      have G39:=jn h33 (jn h33d (jn @d4 G38))
      refine ae G39 ?_
      refine hJ0 _ _ ⟨k0-1,by omega,_,_,_,⟨j+1,by omega,rfl,rfl⟩,bS hbel [0,1,2,3,8] (aC (jn @hst (jn @bD (jn @bH (jn @cz @ct)))))⟩
     have hok:bU W Hh l m (aw r g) (g1 (aT l m (aw r g)) j,g2 (aT l m (aw r g)) j)=false:=by unfold bU prvB;rw[hbx,hby,List.all_eq_not_any_not,h33d];rfl
     rw[hpr,if_neg (by rw[hok];decide),List.append_nil] at hst
     refine ae G40 ?_
     refine hJ0 _ _ ⟨k0-1,by omega,_,_,_,⟨j+1,by omega,rfl,rfl⟩,bS hbel [0,1,2,3,4] (aC (jn @hst (jn @bD (jn @bH (jn @cz @ct)))))⟩
    have hok:bU W Hh l m (aw r g) (g1 (aT l m (aw r g)) j,g2 (aT l m (aw r g)) j)=false:=by unfold bU;rw[hbx,h32d];rfl
    rw[hpr,if_neg (by rw[hok];decide),List.append_nil] at hst
    refine ae G41 ?_
    refine hJ0 _ _ ⟨k0-1,by omega,_,_,_,⟨j+1,by omega,rfl,rfl⟩,bS hbel [0,1,2,3,4] (aC (jn @hst (jn @bD (jn @bH (jn @cz @ct)))))⟩
   have hok:bU W Hh l m (aw r g) (g1 (aT l m (aw r g)) j,g2 (aT l m (aw r g)) j)=false:=by unfold bU;rw[h31d];rfl
   rw[hpr,if_neg (by rw[hok];decide),List.append_nil] at hst
   refine ae G42 ?_
   refine hJ0 _ _ ⟨k0-1,by omega,_,_,_,⟨j+1,by omega,rfl,rfl⟩,bS hbel [0,1,2,3,4] (aC (jn @hst (jn @bD (jn @bH (jn @cz @ct)))))⟩
  have h30d:=h30
  have hsq:=h30d
  refine cv (psqr_f _ _ _ (by assumption)) ?_
  have G43:=j2 h30 h30d G35
  refine ae G43 ?_
  refine cv (dq _ _ 0 _) ?_
  refine rgs G43 (fun h34 h34d G44=>?_) (fun h34 h34d G46=>?_)
  ·have hbx:=h34d
   refine ae G44 ?_
   refine cv (dq _ _ 0 _) ?_
   refine rgs G44 (fun h35 h35d _=>?_) (fun h35 h35d G45=>?_)
   ·have hby:=h35d
    have hq1:=aZ.1 hbx
    have hq2:=aZ.1 hby
    exact absurd (show sqO (g1 (aT l m (aw r g)) j) (g2 (aT l m (aw r g)) j)=true by unfold sqO;rw[Bool.and_eq_true,aL,aL];omega) (by rw[hsq];decide)
   have hok:bU W Hh l m (aw r g) (g1 (aT l m (aw r g)) j,g2 (aT l m (aw r g)) j)=false:=by unfold bU;rw[hbx,h35d];rfl
   rw[hpr,if_neg (by rw[hok];decide),List.append_nil] at hst
   refine ae G45 ?_
   refine hJ0 _ _ ⟨k0-1,by omega,_,_,_,⟨j+1,by omega,rfl,rfl⟩,bS hbel [0,1,2,3,4] (aC (jn @hst (jn @bD (jn @bH (jn @cz @ct)))))⟩
  have hok:bU W Hh l m (aw r g) (g1 (aT l m (aw r g)) j,g2 (aT l m (aw r g)) j)=false:=by unfold bU;rw[h34d];rfl
  rw[hpr,if_neg (by rw[hok];decide),List.append_nil] at hst
  refine ae G46 ?_
  refine hJ0 _ _ ⟨k0-1,by omega,_,_,_,⟨j+1,by omega,rfl,rfl⟩,bS hbel [0,1,2,3,4] (aC (jn @hst (jn @bD (jn @bH (jn @cz @ct)))))⟩
 obtain rfl:j=(aT l m (aw r g)).length:=by omega
 have hfinL:((aT l m (aw r g)).take (aT l m (aw r g)).length).filter (bU W Hh l m (aw r g))=fh W Hh l m r g:=by rw[List.take_length];exact(if_neg hfar).symm
 refine ae G47 ?_
 refine hQ _ _ (ba (.inl rfl) hbel (x1:=.sl (some (H.length+4,0)) ((((aT l m (aw r g)).take (aT l m (aw r g)).length).filter (bU W Hh l m (aw r g))).length) (aW (((aT l m (aw r g)).take (aT l m (aw r g)).length).filter (bU W Hh l m (aw r g))).length)) (l2:=[.cells (aQ (((aT l m (aw r g)).take (aT l m (aw r g)).length).filter (bU W Hh l m (aw r g))).length) 2 (prs (((aT l m (aw r g)).take (aT l m (aw r g)).length).filter (bU W Hh l m (aw r g))))]) (.sl (some (H.length,0)) ((((aT l m (aw r g)).take (aT l m (aw r g)).length).filter (bU W Hh l m (aw r g))).length) (aW (((aT l m (aw r g)).take (aT l m (aw r g)).length).filter (bU W Hh l m (aw r g))).length)) (aY results131) [] rfl [4] (by decide) ⟨by rw[hfinL],by rw[hfinL]⟩ ?_)
 exact aJ
open Go.Sort
set_option maxRecDepth 100000 in
theorem sortc_f {α:Type} [Inhabited α] (val:α->Int×Int) (cf:α->α->Int) (hO:SWO (ltOf cf)) (g:FuncId) (eg:∀args w,(callFunc g args).run Tryz.prog w=.ok (.enter g args) w)
  (hcmp:∀(x y:α) (W:World),Calls Tryz.prog g #[.agg #[.int .i64 (val x).1,.int .i64 (val x).2],.agg #[.int .i64 (val y).1,.int .i64 (val y).2]] W fun e w'=>e=.returned (.int .i64 (cf x y))/\∃q os',w'=grow (W.drewN q) os')
  {H:aa} {b n:Nat} {cap:Option Nat} {zs:List α} (hg:H[b]? = some (.cells true 2 (prs (zs.map val)))) (hn:n=zs.length) (h0:0<n) (h1:n<=1000000) :
  ACalls Tryz.prog 132 [.sl (some (b,0)) n cap,.fn g []] H
   (fun v H'=>v=.tup []/\∃ys:List α,ys.Perm zs/\ys.Pairwise (fun x y=>ltOf cf y x=false)/\H'=H.set b (.cells true 2 (prs (ys.map val)))):=fun E w vs hE hv=>by
 obtain⟨v1,l1,rfl,k1,h1'⟩:=lz hv
 obtain⟨v2,l2,rfl,k2,h2'⟩:=lz h1'
 obtain rfl:=qJ h2'
 have hf:v2=.func (.func g) #[] #[]:=by
  cases k2 with
  | fn _ _ cs hl _ =>
   have:cs=#[]:=by
    have:cs.size=0:=hl.symm
    exact Array.eq_empty_of_size_eq_zero this
   rw[this]
 subst hf
 cases k1 with
 |nils _ _ _ _=>exact absurd h0 (Nat.lt_irrefl 0)
 |sl _ _ _ _ c a hb h2 h3 h4 h5 h6 =>
 have hc:c≠0:=by omega
 obtain rfl:=h5.resolve_left hc
 obtain⟨m1,m2,-,-⟩:=hE.blk b _ hg
 obtain⟨o1,o2,o3,o4,o5⟩:=m2 rfl
 have hpl:(prs (zs.map val)).length=zs.length*2:=by rw[bF];simp
 have hH:HoldsK (encP val) 2 w (E.loc b).blk (E.loc b).off zs.toArray:=by
  show Holds id w _ _ (flatK (encP val) 2 zs.toArray)
  rw[p8]
  intro j hj
  have hj':j<zs.length*2:=by simpa [m5] using hj
  refine⟨?_,(o5 j (by omega)).2⟩
  have hx:(prs (zs.map val))[j]? = some (prs (zs.map val))[j]:=List.getElem?_eq_getElem (by omega)
  obtain⟨-,v,hv,hr⟩:=m1 j _ hx
  rw[hv]
  obtain⟨u,hu,hru⟩:=(nm (E:=E) (zs.map val)).get hx
  have:∀(k:Nat) (l:List (Int×Int)) (y:AV) (v u:Value),(prs l)[k]? = some y->Rel E y v->(fN l)[k]? = some u->v=u:=by
   intro k l
   induction l generalizing k with
   |nil=>intro y v u h;simp[prs] at h
   | cons p l ih =>
    intro y v u h1 h2 h3
    match k with
    |0=>simp[c7,fN] at h1 h3;subst h1 h3;exact oO h2
    |1=>simp[c7,fN] at h1 h3;subst h1 h3;exact oO h2
    | k+2 =>
     refine ih k y v u (by simpa [c7] using h1) h2 ?_
     simpa [fN] using h3
  have e:=this j _ _ v u hx hr hu
  subst e
  simp[List.getElem!_eq_getElem?_getD,hu]
 have hcon:=AnyQ.slices_SortFunc Tryz.sort132 2 Tryz.isAgg142 Tryz.sizeOf142 (encP val) (fun _=>rfl) (fun x v hv=>by simp[encP] at hv;rcases hv with rfl|rfl<;>rfl) cf hO g #[] (E.loc b).blk (E.loc b).off c zs.toArray w eg
  (fun _ _ _ _ x y=>by simpa [encP] using hcmp x y _) hH o2 (by simp;omega)
 change Calls Tryz.prog 132 _ _ _ at hcon
 have hsz:zs.toArray.size=n:=by simp[hn]
 rw[hsz] at hcon
 refine hcon.mono fun e w' ⟨he,d',q,os,hp,hs,hw⟩=>?_
 subst hw
 obtain⟨p1,-,p3⟩:=hp
 have hperm:d'.toList.Perm zs:=by
  have a1:d'.extract 0 n=d':=by rw[<-hsz,<-p1];simp
  have a2:zs.toArray.extract 0 n=zs.toArray:=by rw[<-hsz];simp
  rw[a1,a2] at p3
  simpa using p3
 have hl:(d'.toList.map val).length=(zs.map val).length:=by simp[hperm.length_eq]
 refine⟨E,_,_,.tup [],he,⟨rfl,d'.toList,hperm,?_,rfl⟩,.refl E,.tup [] #[] rfl (fun i x v h=>by simp at h),?_⟩
 ·rw[List.pairwise_iff_getElem]
  intro i j hi hj hij
  have:=hs i j (Nat.zero_le _) hij (by have:=hperm.length_eq;simp at hj this;omega)
  simp at hi hj
  simpa [hi,hj] using this
 have hd:d'=d'.toList.toArray:=by simp
 have e1:sortWorldK (encP val) 2 w (E.loc b).blk (E.loc b).off q d' os=grow ((w.drewN q).setCells (E.loc b).blk (E.loc b).off (fN (d'.toList.map val))) os:=by
  unfold sortWorldK
  congr 1
  show putRow id (Sort.ahead w q) _ _ (flatK (encP val) 2 d')=_
  rw[hd,p8]
  have:=Lib.putRow_eq_setCells id w (E.loc b).blk (E.loc b).off (flatK (encP val) 2 zs.toArray) (fN (d'.toList.map val)) q hH (by rw[m5,hl];simp)
  simpa using this
 rw[e1]
 exact hE.putP hg hl os
theorem or_h (a b:Int)(w:World)(blk off c:Nat)(h0:w.cell? ⟨blk,off,none⟩=some (.int .i64 a))(h1:w.cell? ⟨blk,off+1,none⟩=some (.int .i64 b)):
  Calls Tryz.prog 180 #[.slice (some ⟨blk,off,none⟩) 2 c] w fun e w'=>e=.returned (.int .i64 (if a=0 then b else a))/\w'=w:=by
 have g0:w.cell? ⟨blk,off+0,none⟩=some (.int .i64 a):=h0
 go_enter Tryz.func180,Tryz.ntmps180
 go_wp2
 go_loop [8] (fun i=>∃k:Nat,k<=2/\i=.int .i64 k/\Hid ((1<=k->a=0)/\(2<=k->b=0))) (fun i=>2-(intOf i).toNat)
 case atStart=>exact⟨0,by omega,rfl,⟨fun h=>by omega,fun h=>by omega⟩⟩
 case round =>
  obtain⟨k,hk,rfl,HK⟩:=hrel
  rcases (by omega:k=0\/k=1\/k=2) with rfl|rfl|rfl
  ·by_cases ha:a=0
   ·go_wp2
    go_round
    case rel=>exact⟨1,by omega,by go_num,⟨fun _=>ha,fun h=>by omega⟩⟩
    case measure=>simp[intOf]
   go_wp2
   go_ret
   exact⟨jj (by first|rfl|(rw[if_neg ha])),rfl⟩
  ·have ha:=HK.out.1 (by omega)
   by_cases hb:b=0
   ·go_wp2
    go_round
    case rel=>exact⟨2,by omega,by go_num,⟨fun _=>ha,fun h=>hb⟩⟩
    case measure=>simp[intOf]
   go_wp2
   go_ret
   exact⟨jj (by first|rfl|(rw[if_pos ha])),rfl⟩
  have ha:=HK.out.1 (by omega)
  have hb:=HK.out.2 (by omega)
  go_wp2
  go_ret
  exact⟨jj (by first|rfl|(rw[if_pos ha,hb])),rfl⟩
theorem lX (w:World)(cs:Array Value)(t B j:Nat)(hB:B=w.heap.size):(w.alloc (.cells cs t)).cell? ⟨B,j,none⟩=cs[j]? :=by
 subst hB
 unfold World.cell?
 have:(w.alloc (.cells cs t)).heap[w.heap.size]? = some (.cells cs t):=by
  show (w.heap.push _)[w.heap.size]? = _
  rw[Array.getElem?_push,if_pos rfl]
 rw[this];rfl
theorem om (w:World)(cs:Array Value)(t B j:Nat)(hB:B=w.heap.size):(w.alloc (.cells cs t)).drew.cell? ⟨B,j,none⟩=cs[j]? :=lX w cs t B j hB
def cfC (a b:Pt):Int:=if iU a.2 b.2=0 then iU a.1 b.1 else iU a.2 b.2
set_option maxHeartbeats 20000000 in
theorem before_h (x y:Pt)(W:World):Calls Tryz.prog 133 #[.agg #[.int .i64 x.1,.int .i64 x.2],.agg #[.int .i64 y.1,.int .i64 y.2]] W fun e w'=>e=.returned (.int .i64 (cfC x y))/\∃q os',w'=grow (W.drewN q) os':=by
 have hcon:=compare_h
 have hcon2:∀(w:World) (blk off c:Nat),w.cell? ⟨blk,off,none⟩=some (.int .i64 (iU x.2 y.2))->w.cell? ⟨blk,off+1,none⟩=some (.int .i64 (iU x.1 y.1)) ->
  Calls Tryz.prog 180 #[.slice (some ⟨blk,off,none⟩) 2 c] w fun e w'=>e=.returned (.int .i64 (cfC x y))/\w'=w:=by
  intro w blk off c h0 h1
  have k:=or_h (iU x.2 y.2) (iU x.1 y.1) w blk off c h0 h1
  unfold cfC
  exact k
 go_enter Tryz.func133,Tryz.ntmps133
 go_wp2_with (first|(go_at_call 181;refine(hcon _ _ _).mono ?_;rintro e w' ⟨rfl,rfl⟩)|fail)
 go_region_held3 (fun w'=>w'.cell? ⟨W.heap.size,0,none⟩=some (.int .i64 x.1)/\w'.cell? ⟨W.heap.size,1,none⟩=some (.int .i64 x.2)/\w'.cell? ⟨W.heap.size+1,0,none⟩=some (.int .i64 y.1)/\w'.cell? ⟨W.heap.size+1,1,none⟩=some (.int .i64 y.2)) (go_keep)
  (first
   |(go_at_call 181;refine(hcon _ _ _).mono ?_;rintro e w' ⟨rfl,rfl⟩)
   | (go_at_call 180;refine(hcon2 _ _ _ _ ?h1 ?h2).mono ?_;case h1=>first|exact(lX _ _ _ _ _ (by simp)).trans rfl|exact(om _ _ _ _ _ (by simp)).trans rfl
      case h2=>first|exact(lX _ _ _ _ _ (by simp)).trans rfl|exact(om _ _ _ _ _ (by simp)).trans rfl
      rintro e w' ⟨rfl,rfl⟩))
 go_wp2
 go_ret
 exact⟨rfl,1,_,by rw[alloc_eq_grow,alloc_eq_grow,alloc_eq_grow,grow_grow,grow_grow];rfl⟩
theorem mJ (x y:Pt):ltOf cfC x y=decide (dt x y):=by
 rw[Bool.eq_iff_iff]
 unfold ltOf
 rw[decide_eq_true_eq,decide_eq_true_eq]
 unfold cfC iU dt
 repeat' split
 all_goals omega
theorem swoC:SWO (ltOf cfC) where
 irrefl x:=by rw[mJ,decide_eq_false_iff_not];exact befP_irr
 trans x y z h1 h2:=by
  rw[mJ,decide_eq_true_eq] at *
  exact jg h1 h2
 ntrans x y z h1 h2:=by
  rw[mJ,decide_eq_false_iff_not] at *
  unfold dt at *;omega
set_option maxRecDepth 100000 in
theorem sortc_c (H:aa)(b:Nat)(cap:Option Nat)(l:List Pt)(hb:H[b]? = some (.cells true 2 (prs l)))(h0:0<l.length)(h1:l.length<=1000000):
  ACalls Tryz.prog 132 [.sl (some (b,0)) l.length cap,.fn 133 []] H (fun v H'=>v=.tup []/\H'=H.set b (.cells true 2 (prs (dY l)))):=by
 have eg:∀args w,(callFunc 133 args).run Tryz.prog w=.ok (.enter 133 args) w:=enters_of Tryz.func133 (by kernel_rfl) rfl
 refine(sortc_f (α:=Pt) id cfC swoC 133 eg (fun x y W=>before_h x y W) (zs:=l) (by rw[List.map_id];exact hb) rfl h0 h1).mono ?_
 rintro v H' ⟨rfl,ys,hp,hs,rfl⟩
 have e:ys=dY l:=by
  refine ru (hp.trans (gc l).symm) (hs.imp fun {x y} h=>?_) (jY l)
  rw[mJ,decide_eq_false_iff_not] at h
  rcases leC_tot x y with k|k
  ·exact k
  unfold leC at k ⊢
  rcases k with k|k
  ·exact .inl k.symm
  exact absurd k h
 rw[List.map_id,e]
 exact⟨rfl,rfl⟩
theorem ql {l:List (Int×Int)}{i m:Nat}(h:i+m<l.length):((prs l).drop (i*2+m*2)).take 2=[.int .i64 (g1 l (i+m)),.int .i64 (g2 l (i+m))]:=by
 rw[show i*2+m*2=(i+m)*2 by omega];exact c8 h
def NoEq (l:List (Int×Int)) (i:Nat):Prop:=∀j:Nat,1<=j->(h:j<l.length)->j<i->l[j-1]'(by omega)≠l[j]
theorem nH {l:List (Int×Int)}:∀{i:Nat},i<=l.length->NoEq l i->bW (l.take i)=l.take i
 |0,_,_=>rfl
 |1,h,_=>cpt_1 (by rw[List.length_take];omega)
 | i+2,h,k=>by
  rw[nA (by omega) (by omega),nH (i:=i+1) (by omega) (fun j h1 h2 h3=>k j h1 h2 (by omega)),if_neg (k (i+1) (by omega) (by omega) (by omega)),<-List.take_succ_eq_append_getElem]
theorem padL_id (l:List (Int×Int)):eV l.length l=l:=by simp[eV]
set_option maxRecDepth 100000 in
theorem cpt_cell (H:aa)(b:Nat)(cap:Option Nat)(l:List (Int×Int))(hb:H[b]? = some (.cells (aQ l.length) 2 (prs l)))(hl:l.length<=1000000000):
  ACalls prog 134 [.sl (some (b,0)) l.length cap] H (fun v H'=>v=.sl (some (b,0)) (bW l).length none/\H'=H.set b (.cells (aQ l.length) 2 (prs (eV l.length (bW l))))):=by
 have hbl:=getElem?_lt hb
 have hset:∀X L,(H.set b X++L)[b]? = some X:=fun X L=>by rw[List.getElem?_append_left (by simpa using hbl),List.getElem?_set_self hbl]
 have hset0:∀X,(H.set b X)[b]? = some X:=fun X=>List.getElem?_set_self hbl
 have hself:H.set b (.cells (aQ l.length) 2 (prs l))=H:=by
  refine List.ext_getElem? fun i=>?_
  rw[List.getElem?_set]
  split
  ·rename_i e;subst e;first|exact hb.symm|(rw[if_pos hbl];exact hb.symm)
  rfl
 have hend:bW l=l->H.set b (.cells (aQ l.length) 2 (prs (eV l.length (bW l))))=H:=fun e=>by rw[e,padL_id,hself]
 (refine bX try_mixed func134 true _ rfl (Nat.le_of_ble_eq_true (by kernel_rfl)) (by kernel_rfl) ?_;intro hbel Q hQ hQ' c hc;unfold Tryz.f134 at hc;simp only[Option.some.injEq] at hc;subst hc;clear hQ')
 simp -implicitDefEqProofs (disch:=omega) only [simprocAttr,aD,aE,Function.comp_apply,one1,lenV,ai,ar,au,aop,AV.ofValue,AV.ofCell,AV.cells,AV.flat,AV.one,arep,aN,ap,aA]
 refine cK (fun h1=>?_) (fun h1=>?_)
 ·have h1d:=of_decide_eq_true h1
  have e:=cpt_1 (l:=l) (by omega)
  simp -implicitDefEqProofs (disch:=omega) only [h1,simprocAttr,aD,aE,Function.comp_apply,one1,lenV,ai,ar,au,aop,AV.ofValue,AV.ofCell,AV.cells,AV.flat,AV.one,arep,aN,ap,aA]
  exact hQ _ _ (me (.inl rfl) hbel (x1:=.sl (some (b,0)) l.length cap) (l2:=[]) (.sl (some (b,0)) (bW l).length none) (aY results134) [] rfl [] (by decide) ⟨rfl,by rw[List.append_nil,hend e]⟩ (by rw[e];exact aJ))
 have h1d:=of_decide_eq_false h1
 have hown:aQ l.length=true:=fc (by omega)
 rw[hown] at hb hself
 simp -implicitDefEqProofs (disch:=omega) only [h1,simprocAttr,aD,aE,Function.comp_apply,one1,lenV,ai,ar,au,aop,AV.ofValue,AV.ofCell,AV.cells,AV.flat,AV.one,arep,aN,ap,aA]
 refine glp (fun k F Hx=>∃i:Nat,i+k=l.length/\1<=i/\NoEq l i/\F=[(0,.sl (some (b,0)) l.length cap),(3,.int .i64 (i:Int))]/\H=Hx) (l.length-1) ?_ ?_
 ·refine⟨_,_,_,⟨1,by omega,by omega,fun j h2 h3 h4=>by omega,rfl,rfl⟩,Abs.by0 hbel ?_⟩
  exact aJ
 rintro k F Hx ⟨i,hik,hi1,hne,rfl,rfl⟩ J hJ
 by_cases hi:i<l.length
 ·have hii:(i:Int)<(l.length:Int):=by omega
  have q1:=c8 (l:=l) (j:=i) hi
  have q2:=c8 (l:=l) (j:=i-1) (by omega)
  have hsub:((i:Int)-1).toNat=i-1:=by omega
  simp -implicitDefEqProofs (disch:=omega) only [hii,hb,q1,q2,hsub,bF,cJ,simprocAttr,aD,aE,Function.comp_apply,one1,lenV,ai,ar,au,aop,AV.ofValue,AV.ofCell,AV.cells,AV.flat,AV.one,arep,aN,ap,aA]
  repeat refine And.intro (by omega) ?_
  refine cK (fun h2=>?_) (fun h2=>?_)
  ·have heq:l[i-1]'(by omega)=l[i]:=by
    simp only[Bool.and_eq_true,beq_iff_eq] at h2
    rw[<-cP hi,<-cP (show i-1<l.length by omega),h2.1,h2.2]
   have hc0:bW (l.take (i+1))=l.take i:=by rw[nA hi1 hi,if_pos heq,List.append_nil,nH (by omega) hne]
   have hcl:(bW (l.take (i+1))).length=i:=by rw[hc0,List.length_take];omega
   have hsl:((i:Int)-0).toNat=i:=by omega
   simp -implicitDefEqProofs (disch:=omega) only [h2,hb,bF,cJ,simprocAttr,aD,aE,Function.comp_apply,one1,lenV,ai,ar,au,aop,AV.ofValue,AV.ofCell,AV.cells,AV.flat,AV.one,arep,aN,ap,aA]
   repeat refine And.intro (by omega) ?_
   refine glp (fun k F Hx=>∃(j c:Nat) (X:List (Int×Int)),j+k=l.length/\i+1<=j/\c=(bW (l.take j)).length/\c<j/\X.length=l.length/\X.take c=bW (l.take j)/\X.drop (j-1)=l.drop (j-1)/\F=[(0,.sl (some (b,0)) l.length cap),(3,.int .i64 (c:Int)),(4,.sl (some (b,i*2)) (l.length-i) none),(5,.int .i64 ((j-i:Nat):Int))]/\Hx=H.set b (.cells true 2 (prs X))) (l.length-(i+1)) ?_ ?_
   ·refine⟨_,_,_,⟨i+1,i,l,by omega,by omega,hcl.symm,by omega,rfl,hc0.symm,rfl,rfl,rfl⟩,Abs.by0e hself hbel ?_⟩
    have hi1':((i+1-i:Nat):Int)=1:=by omega
    exact aS @hi1'
   rintro k F Hx ⟨j,c,X,hjk,hij,hc,hcj,hXl,hXt,hXd,rfl,rfl⟩ J2 hJ2
   obtain⟨G,hG⟩:∃G,G=H.set b (.cells true 2 (prs X)):=⟨_,rfl⟩
   have hGl:G.length=H.length:=by rw[hG,List.length_set]
   have hG1:∀L,(G++L)[b]? = some (.cells true 2 (prs X)):=fun L=>by rw[hG];exact hset _ _
   have hG0:G[b]? = some (.cells true 2 (prs X)):=by rw[hG];exact hset0 _
   have hbG:b<G.length:=by omega
   have hGs0:∀Y,G.set b Y=H.set b Y:=fun Y=>by rw[hG,List.set_set]
   have hGs:∀Y L,(G++L).set b Y=H.set b Y++L:=fun Y L=>by rw[List.set_append_left _ _ hbG,hG,List.set_set]
   rw[<-hG]
   have hbelG:HBel H.length G:=by rw[hG];exact HBel.put hbel b eU
   by_cases hj:j<l.length
   ·have hjj:((j-i:Nat):Int)<((l.length-i:Nat):Int):=by omega
    have hXj:∀q,j-1<=q->(hq:q<l.length)->X[q]'(by omega)=l[q]:=fun q h1 hq=>by
     have:=congrArg (fun m=>m[q-(j-1)]?) hXd
     simp only[List.getElem?_drop] at this
     rw[show j-1+(q-(j-1))=q by omega,List.getElem?_eq_getElem (by omega),List.getElem?_eq_getElem hq] at this
     exact Option.some.inj this
    have q3:=ql (l:=X) (i:=i) (m:=j-i) (by omega)
    have q4:=ql (l:=X) (i:=i) (m:=j-i-1) (by omega)
    have hsub2:(((j-i:Nat):Int)-1).toNat=j-i-1:=by omega
    rw[show i+(j-i)=j by omega] at q3
    rw[show i+(j-i-1)=j-1 by omega] at q4
    simp -implicitDefEqProofs (disch:=omega) only [hjj,hG1,hG0,q3,q4,hsub2,bF,cJ,simprocAttr,aD,aE,Function.comp_apply,one1,lenV,ai,ar,au,aop,AV.ofValue,AV.ofCell,AV.cells,AV.flat,AV.one,arep,aN,ap,aA]
    repeat refine And.intro (by omega) ?_
    have hst:=nA (l:=l) (j:=j) (by omega) hj
    have hcX:c<X.length:=by omega
    have hjj2:((j+1-i:Nat):Int)=((j-i:Nat):Int)+1:=by omega
    have hpj:=cP (l:=X) (j:=j) (by omega)
    have hpj1:=cP (l:=X) (j:=j-1) (by omega)
    have hp2:=rg (a:=g1 X j) (b:=g2 X j) hcX
    have hXd2:X.drop j=l.drop j:=by
     have:=congrArg (fun m=>m.drop 1) hXd
     simp only[List.drop_drop] at this
     rwa [show j-1+1=j by omega] at this
    refine cK (fun h3=>?_) (fun h3=>?_)
    ·have hdif:¬l[j-1]'(by omega)=l[j]:=fun e=>by
      rw[<-hXj (j-1) (by omega) (by omega),<-hXj j (by omega) hj,<-hpj,<-hpj1] at e
      simp only[Prod.mk.injEq] at e
      rw[e.1,e.2] at h3
      simp at h3
     rw[if_neg hdif] at hst
     have hl5:(bW (l.take (j+1))).length=c+1:=by rw[hst,List.length_append,hc];rfl
     simp -implicitDefEqProofs (disch:=omega) only [h3,hG1,hG0,hGs,hGs0,q3,hp2,bF,cJ,simprocAttr,aD,aE,Function.comp_apply,one1,lenV,ai,ar,au,aop,AV.ofValue,AV.ofCell,AV.cells,AV.flat,AV.one,arep,aN,ap,aA]
     repeat refine And.intro (by omega) ?_
     refine hJ2 _ _ ⟨k-1,by omega,_,_,_,⟨j+1,c+1,X.set c (g1 X j,g2 X j),by omega,by omega,hl5.symm,by omega,by rw[List.length_set];exact hXl,?_,?_,rfl,rfl⟩,Abs.byS0 (by rw[List.length_set]) (HBel.put hbel b eU) ?_⟩
     ·rw[hst,List.take_succ_eq_append_getElem (by rw[List.length_set];exact hcX),List.getElem_set_self,List.take_set_of_le (Nat.le_refl _),hXt,hpj,hXj j (by omega) hj]
     ·rw[show j+1-1=j by omega,List.drop_set_of_lt (by omega),hXd2]
     exact aS (jn @hjj2 (jn @Int.natCast_add @Int.natCast_one))
    have heq2:l[j-1]'(by omega)=l[j]:=by
     rw[<-hXj (j-1) (by omega) (by omega),<-hXj j (by omega) hj,<-hpj,<-hpj1]
     simp only[Bool.not_eq_false',Bool.and_eq_true,beq_iff_eq] at h3
     rw[h3.1,h3.2]
    rw[if_pos heq2,List.append_nil] at hst
    simp -implicitDefEqProofs (disch:=omega) only [h3,simprocAttr,aD,aE,Function.comp_apply,one1,lenV,ai,ar,au,aop,AV.ofValue,AV.ofCell,AV.cells,AV.flat,AV.one,arep,aN,ap,aA]
    refine hJ2 _ _ ⟨k-1,by omega,_,_,_,⟨j+1,c,X,by omega,by omega,by rw[hst];exact hc,by omega,hXl,by rw[hst];exact hXt,by rw[show j+1-1=j by omega];exact hXd2,rfl,hG⟩,Abs.byS0 hGl hbelG ?_⟩
    exact aS (jn @hjj2 (jn @Int.natCast_add @Int.natCast_one))
   have hjj:¬((j-i:Nat):Int)<((l.length-i:Nat):Int):=by omega
   have hrep:=(prs_rep (m:=l.length-c)).symm
   have hne0:(l.length-c==0)=false:=beq_eq_false_iff_ne.2 (by omega)
   have hspl:=n8 (l:=X) (ys:=List.replicate (l.length-c) (0,0)) (i:=c) (by rw[List.length_replicate];omega)
   rw[hXt] at hspl
   simp -implicitDefEqProofs (disch:=omega) only [hjj,hG1,hG0,hrep,hne0,hspl,hGs0,bF,cJ,List.length_replicate,hset0,simprocAttr,aD,aE,Function.comp_apply,one1,lenV,ai,ar,au,aop,AV.ofValue,AV.ofCell,AV.cells,AV.flat,AV.one,arep,aN,ap,aA]
   refine⟨by omega,⟨by omega,.inl (Nat.le_refl _)⟩,by omega,by omega,⟨by omega,.inl (by omega)⟩,?_⟩
   obtain rfl:j=l.length:=by omega
   rw[List.take_length] at hc ⊢
   refine hQ _ _ (end_byS (by rw[List.length_set]) (.inl rfl) (HBel.put hbel b eU) (x1:=.sl (some (b,0)) (c-0) (Option.map (fun x=>x-0) cap)) (.sl (some (b,0)) (bW l).length none) (aY results134) ⟨rfl,by rw[hown,hc];rfl⟩ ?_)
   exact aS (jn @hc @Nat.sub_zero)
  have hdif:¬l[i-1]'(by omega)=l[i]:=fun e=>by
   rw[<-cP hi,<-cP (show i-1<l.length by omega)] at e
   simp only[Prod.mk.injEq] at e
   rw[e.1,e.2] at h2
   simp at h2
  simp -implicitDefEqProofs (disch:=omega) only [h2,simprocAttr,aD,aE,Function.comp_apply,one1,lenV,ai,ar,au,aop,AV.ofValue,AV.ofCell,AV.cells,AV.flat,AV.one,arep,aN,ap,aA]
  refine hJ _ _ ⟨k-1,by omega,_,_,_,⟨i+1,by omega,by omega,fun j h3 h4 h5=>by
   rcases Nat.lt_or_ge j i with h6|h6
   ·exact hne j h3 h4 h6
   obtain rfl:j=i:=by omega
   exact hdif,rfl,rfl⟩,Abs.by0 hbel ?_⟩
  exact aS (jn @Int.natCast_add @Int.natCast_one)
 have hii:¬(i:Int)<(l.length:Int):=by omega
 obtain rfl:i=l.length:=by omega
 have e:bW l=l:=by have:=nH (Nat.le_refl _) hne;rwa [List.take_length] at this
 simp -implicitDefEqProofs (disch:=omega) only [hii,simprocAttr,aD,aE,Function.comp_apply,one1,lenV,ai,ar,au,aop,AV.ofValue,AV.ofCell,AV.cells,AV.flat,AV.one,arep,aN,ap,aA]
 exact hQ _ _ (me (.inl rfl) hbel (x1:=.sl (some (b,0)) l.length cap) (l2:=[]) (.sl (some (b,0)) (bW l).length none) (aY results134) [] rfl [] (by decide) ⟨rfl,by rw[List.append_nil,hend e]⟩ (by rw[e];exact aJ))
theorem bits0_c (H:aa):zC 179 [.int .u64 0] H (iV 0) H:=by
 have h:=ext_ok 179 [.int .u64 0] H (iV 0) none (by kernel_rfl)
 exact h.2.2
theorem ins0_c (H:aa)(s:AV)(g:FuncId)(hs:Sl H 2 s 0 []):zC 223 [s,iV 0,iV 0,.fn g []] H (.tup []) H:=by
 obtain⟨bs,os,cs,rfl,hbs,hbls,hb0s⟩:=zA1 hs
 refine AcN true func223 ?_;intro hbel Q hQ
 have G1:=jn @hbs @hb0s
 refine ae G1 ?_
 refine glp (fun k F Hx=>∃z:Unit,k=0/\F=[(0,.sl (some (bs,0)) 0 cs),(1,iV 0),(2,iV 0),(3,.fn g []),(8,iV 1)]/\H=Hx) (0) ?_ ?_
 ·refine⟨_,_,_,⟨(),by omega,rfl,rfl⟩,Abs.by0 hbel ?_⟩
  exact aJ
 rintro k0 F Hx ⟨z,hm0,rfl,rfl⟩ J0 hJ0
 refine ae G1 ?_
 exact hQ _ _ (eI (by exact .inr rfl) hbel (x:=.tup []) (aY results223) rfl ⟨rfl,rfl⟩)
theorem pdq0_c (H:aa)(s:AV)(m:Int)(g:FuncId)(hs:Sl H 2 s 0 []):zC 178 [s,iV 0,iV 0,iV m,.fn g []] H (.tup []) H:=by
 obtain⟨bs,os,cs,rfl,hbs,hbls,hb0s⟩:=zA1 hs
 refine AcT true func178 ?_;intro hbel Q hQ
 have G2:=jn @hbs @hb0s
 refine ae G2 ?_
 refine glp (fun k F Hx=>∃z:Unit,k=0/\F=[(0,.sl (some (bs,0)) 0 cs),(1,iV 0),(2,iV 0),(3,iV m),(4,.fn g []),(10,.bool true),(11,.bool true)]/\H=Hx) (0) ?_ ?_
 ·refine⟨_,_,_,⟨(),by omega,rfl,rfl⟩,Abs.by0 hbel ?_⟩
  exact aJ
 rintro k0 F Hx ⟨z,hm0,rfl,rfl⟩ J0 hJ0
 refine ae G2 ?_
 refine cvr G2 (ins0_c _ _ g (zA2 hb0s hbs)) ?_
 exact eQ hQ hbel (.tup []) results178 ⟨rfl,rfl⟩
theorem srt0_c (H:aa)(s:AV)(g:FuncId)(hs:Sl H 2 s 0 []):zC 132 [s,.fn g []] H (.tup []) H:=by
 obtain⟨bs,os,cs,rfl,hbs,hbls,hb0s⟩:=zA1 hs
 refine AcN true func132 ?_;intro hbel Q hQ
 have G3:=jn @hbs @hb0s
 refine ae G3 ?_
 refine cvr G3 (bits0_c _) ?_
 refine cvr G3 (pdq0_c _ _ 0 g (zA2 hb0s hbs)) ?_
 exact hQ _ _ (eI (by exact .inr rfl) hbel (x:=.tup []) (aY results132) rfl ⟨rfl,rfl⟩)
theorem srtk_c (H:aa)(b:Nat)(cap:Option Nat)(l:List (Int×Int))(hb:H[b]? = some (.cells (aQ l.length) 2 (prs l)))(h1:l.length<=1000000):
  zC 132 [.sl (some (b,0)) l.length cap,.fn 133 []] H (.tup []) (H.set b (.cells (aQ l.length) 2 (prs (dY l)))):=by
 rcases Nat.eq_zero_or_pos l.length with h0|h0
 ·obtain rfl:=List.eq_nil_of_length_eq_zero h0
  rw[nB]
  have hself:H.set b (.cells (aQ ([]:List (Int×Int)).length) 2 (prs []))=H:=by
   refine List.ext_getElem? fun i=>?_
   rw[List.getElem?_set]
   split
   ·rename_i e;subst e;(rw[if_pos (getElem?_lt hb)];exact hb.symm)
   rfl
  rw[hself]
  exact srt0_c H _ _ ⟨b,_,cap,rfl,hb⟩
 rw[fc h0] at hb ⊢
 exact sortc_c H b cap l hb h0 h1
theorem cptk_c (H:aa)(b:Nat)(cap:Option Nat)(l:List (Int×Int))(hb:H[b]? = some (.cells (aQ l.length) 2 (prs (dY l))))(h1:l.length<=1000000):
  zC 134 [.sl (some (b,0)) l.length cap] H (.sl (some (b,0)) (bW (dY l)).length none) (H.set b (.cells (aQ l.length) 2 (prs (eV (dY l).length (bW (dY l)))))):=by
 have h:=cpt_cell H b cap (dY l) (by rw[iz];exact hb) (by rw[iz];omega)
 rw[iz l] at h ⊢
 exact h
theorem kall_c (H:aa)(W Hh:Int)(pp:AV)(xs:List Int)(s:AV)(l:List T6)(q:AV)(sc:List (Int×Int))(g:Int)(hpp:zI H pp xs)(hs:Sl H 6 s l.length (r6 l))(hq:SlP H q sc)(hV:bQ W Hh xs=true)(hS:cw l=true)(hl0:0<l.length)(hsB:di sc=true)(hg:1<=g/\g<=32):zC 83 [.agg [iV W,iV Hh,pp],s,q,iV g] H (.sl (some (H.length,0)) ((aU W Hh l sc g).length) none) (H++[.cells (aQ (iX W Hh l sc g).length) 2 (prs (aU W Hh l sc g))]):=by
 obtain⟨bpp,opp,cpp,rfl,hbpp,hblpp,hb0pp⟩:=zA1 hpp
 obtain⟨bs,os,cs,rfl,hbs,hbls,hb0s⟩:=zA1 hs
 obtain⟨bq,oq,cq,rfl,hbq,hblq,hb0q⟩:=zA1 hq
 have hsc:=dX.1 hsB
 have hpl:=mD W Hh l sc g sc.length
 refine AcT false func83 ?_;intro hbel Q hQ
 have G1:=jn @hbpp (jn @hb0pp (jn @hbs (jn @hb0s (jn @hbq @hb0q))))
 refine ae G1 ?_
 refine cv (lV _ _ l (zA2 hb0s hbs) (by assumption)) ?_
 refine rcs G1 (fun h1 h1d G2=>?_) (fun h1 h1d G3=>?_)
 ·have hfinA:=allL_nil (W:=W) (Hh:=Hh) (sc:=sc) (g:=g) h1d
  refine ae G2 ?_
  refine hQ _ _ (ba (.inl rfl) hbel (x1:=.sl none 0 (some 0)) (l2:=[.cells false 2 []]) (.sl (some (H.length,0)) 0 none) (aY results83) [.cells false 2 []] rfl [1] (by decide) ⟨by (rw[hfinA.1];rfl),by (rw[hfinA.1,hfinA.2];rfl)⟩ ?_)
  exact aS @jA
 have htau:=h1d
 have hfinB:iX W Hh l sc g=prS W Hh l sc g sc.length:=if_pos htau
 refine ae G3 ?_
 refine glp (fun k F Hx=>∃i:Nat,i+k=sc.length/\F=[(1,.sl (some (bs,0)) l.length cs),(3,iV g),(4,.ptr (some (H.length,0))),(9,.sl (some (H.length+1,0)) ((prS W Hh l sc g i).length) (aW (prS W Hh l sc g i).length)),(15,.sl (some (bq,0)) sc.length cq),(16,iV (sc.length:Int)),(17,iV (i:Int))]/\Hx=H++[.cells true 0 [iV W,iV Hh,.sl (some (bpp,0)) xs.length cpp],.cells (aQ (prS W Hh l sc g i).length) 2 (prs (prS W Hh l sc g i))]) (sc.length) ?_ ?_
 ·refine⟨_,_,_,⟨0,by omega,rfl,rfl⟩,Abs.byG hbel [.cells false 2 []] rfl [0,1] (by decide) ?_⟩
  exact aC @prS.eq_1
 rintro k0 F Hx ⟨i,hm0,rfl,rfl⟩ J0 hJ0
 have G4:=jn @bF (jn @cJ G3)
 refine rcs G4 (fun h2 h2d _=>?_) (fun h2 h2d G9=>?_)
 ·have hlt:i<sc.length:=by omega
  have hbi:=gK.1 (hsc.2 _ (List.getElem_mem hlt))
  rw[<-cP hlt] at hbi
  have hpi:=mD W Hh l sc g i
  have hvl:=ro W Hh l (g1 sc i) (g2 sc i) g
  have q3:=c8 (l:=sc) (j:=i) (by omega)
  have G5:=jn h2 (jn h2d (jn q3 G4))
  refine ae G5 ?_
  refine cv (proven_c _ W _ _ xs _ l _ _ g (zA2 hb0pp hbpp) (zA2 hb0s hbs) hV hS hl0 (by omega) (by omega)) ?_
  rcases Nat.eq_zero_or_pos ((fh W Hh l (g1 sc i) (g2 sc i) g).length) with h4|h4
  ·have h4e:fh W Hh l (g1 sc i) (g2 sc i) g=[]:=List.eq_nil_of_length_eq_zero h4
   rcases Nat.eq_zero_or_pos ((prS W Hh l sc g i).length) with h5|h5
   ·have h5e:prS W Hh l sc g i=[]:=List.eq_nil_of_length_eq_zero h5
    have G6:=jn h4 (jn h5 (jn @lC (jn @lD G5)))
    refine ae G6 ?_
    refine hJ0 _ _ ⟨k0-1,by omega,_,_,_,⟨i+1,by omega,rfl,rfl⟩,bS hbel [0,1] (aC (jn @prS.eq_2 (jn @List.append_nil.{0} (jn h4e @h5e))))⟩
   have h5c:=lE h5
   have h5o:=fc h5
   have h5z:((prS W Hh l sc g i).length==0)=false:=beq_eq_false_iff_ne.2 (by omega)
   have G7:=jn h4 (jn h5c (jn h5o (jn h5z (jn @mg G5))))
   refine ae G7 ?_
   refine hJ0 _ _ ⟨k0-1,by omega,_,_,_,⟨i+1,by omega,rfl,rfl⟩,bS hbel [0,4] (aC (jn @prS.eq_2 (jn @List.append_nil.{0} (jn h4e (jn h5c (jn h5o @Nat.add_zero))))))⟩
  have h4z:decide (0<(fh W Hh l (g1 sc i) (g2 sc i) g).length)=true:=decide_eq_true h4
  have h4c:=lE (n:=(prS W Hh l sc g i).length+(fh W Hh l (g1 sc i) (g2 sc i) g).length) (by omega)
  have h4o:=fc (n:=(prS W Hh l sc g i).length+(fh W Hh l (g1 sc i) (g2 sc i) g).length) (by omega)
  have G8:=jn h4 (jn h4z (jn @mg G5))
  refine ae G8 ?_
  refine hJ0 _ _ ⟨k0-1,by omega,_,_,_,⟨i+1,by omega,rfl,rfl⟩,bS hbel [0,4] (aC (jn @prS.eq_2 (jn @List.append_nil.{0} (jn h4c @h4o))))⟩
 obtain rfl:i=sc.length:=by omega
 refine ae G9 ?_
 refine cvr G9 (srtk_c _ _ _ (prS W Hh l sc g sc.length) (by (rw[aK];rfl)) (by omega)) ?_
 refine cvr G9 (cptk_c _ _ _ (prS W Hh l sc g sc.length) (by (rw[aK];rfl)) (by omega)) ?_
 refine hQ _ _ (ba (.inl rfl) hbel (x1:=.sl (some (H.length+1,0)) ((bW (dY (prS W Hh l sc g sc.length))).length) none) (l2:=[.cells (aQ (prS W Hh l sc g sc.length).length) 2 (prs (bW (dY (prS W Hh l sc g sc.length))))]) (.sl (some (H.length,0)) ((bW (dY (prS W Hh l sc g sc.length))).length) none) (aY results83) [] rfl [1] (by decide) ⟨by unfold aU;rw[hfinB],by unfold aU;rw[hfinB]⟩ ?_)
 exact aS @jA
theorem ksus_c (H:aa)(s:AV)(l:List T6)(m r g:Int)(hs:Sl H 6 s l.length (r6 l))(hS:cw l=true)(hr : -1<=r/\r<=1024)(hg:1<=g/\g<=32):zC 85 [s,.agg [iV m,iV r],iV g] H (.sl (some (H.length,0)) ((bL l m r g).length) none) (H++[.cells (aQ (gN l m r g).length) 2 (prs (bL l m r g))]):=by
 obtain⟨bs,os,cs,rfl,hbs,hbls,hb0s⟩:=zA1 hs
 have hda:=kU hS m
 have hsl:=mE (az l m) r g (az l m).length
 have hpair:∀j',j'<(az l m).length->bxB (g91 (az l m) j') (g92 (az l m) j') (g93 (az l m) j') (g94 (az l m) j') (g95 (az l m) j') (g96 (az l m) j')=true:=fun j' hj'=>by
  have k:=oU hS (g9_mem hj')
  unfold pairB at k;rw[Bool.and_eq_true] at k;exact k.1
 refine AcT false func85 ?_;intro hbel Q hQ
 have G1:=jn @hbs @hb0s
 refine rgs G1 (fun h1 h1d _=>?_) (fun h1 h1d _=>?_)
 ·have h1n:=bnT h1
  have hr1:¬r = -1:=by simpa using h1d
  have G2:=jn h1 (jn h1n (jn @aP (jn @aO G1)))
  refine ae G2 ?_
  refine cv (lV _ _ l (zA2 hb0s hbs) (by assumption)) ?_
  refine rcs G2 (fun h2 h2d G3=>?_) (fun h2 h2d G4=>?_)
  ·have hfinA:=rv (l:=l) (m:=m) (r:=r) (g:=g) (.inr h2d)
   refine ae G3 ?_
   refine hQ _ _ (ba (.inl rfl) hbel (x1:=.sl none 0 (some 0)) (l2:=[.cells false 2 []]) (.sl (some (H.length,0)) 0 none) (aY results85) [.cells false 2 []] rfl [1] (by decide) ⟨by (rw[hfinA.1];rfl),by (rw[hfinA.1,hfinA.2];rfl)⟩ ?_)
   exact aS @jA
  have htau:=h2d
  have hdt:=dirA_tau hS htau m
  have hfinB:gN l m r g=swS (az l m) r g (az l m).length:=by unfold gN;rw[decide_eq_false hr1,htau];rfl
  refine ae G4 ?_
  refine cvr G4 (kX _ _ l m r (zA2 hb0s hbs) (by assumption)) ?_
  refine glp (fun k F Hx=>∃i:Nat,i+k=(az l m).length/\F=[(2,iV g),(4,.ptr (some (H.length,0))),(7,.sl (some (H.length+2,0)) ((swS (az l m) r g i).length) (aW (swS (az l m) r g i).length)),(22,.sl (some (H.length+1,0)) ((az l m).length) (aW (az l m).length)),(23,iV (((az l m).length:Nat):Int)),(24,iV (i:Int))]/\Hx=H++[.cells true 0 [iV m,iV r],.cells (aQ (az l m).length) 9 (r9 (az l m)),.cells (aQ (swS (az l m) r g i).length) 2 (prs (swS (az l m) r g i))]) ((az l m).length) ?_ ?_
  ·refine⟨_,_,_,⟨0,by omega,rfl,rfl⟩,Abs.byG hbel [.cells false 2 []] rfl [0,1,2] (by decide) ?_⟩
   exact aC (jn @swS.eq_1 (jn @bD (jn @bH (jn @cz @ct))))
  rintro k0 F Hx ⟨i,hm0,rfl,rfl⟩ J0 hJ0
  have G5:=jn @eJ (jn @lU (jn @bF (jn @cJ G4)))
  refine rcs G5 (fun h3 h3d _=>?_) (fun h3 h3d G10=>?_)
  ·have hpi:=hpair i (by omega)
   have hsi:=mE (az l m) r g i
   have hvl:=nu (g91 (az l m) i) (g92 (az l m) i) (g93 (az l m) i) (g94 (az l m) i) (g97 (az l m) i) (g98 (az l m) i) (g99 (az l m) i) (if 0<r-g then r-g else 0) (r+g)
   have q4:=r9_load (l:=az l m) (j:=i) (by omega)
   have G6:=jn h3 (jn h3d (jn q4 G5))
   refine ae G6 ?_
   refine cdr G6 (rect_c _ _ _ _ _ _ _ hpi) ?_
   refine cx (swept_c _ _ _ _ _ _ _ _ _ _) ?_
   rcases Nat.eq_zero_or_pos ((cZ (g91 (az l m) i) (g92 (az l m) i) (g93 (az l m) i) (g94 (az l m) i) (g97 (az l m) i) (g98 (az l m) i) (g99 (az l m) i) (if 0<(r-g) then (r-g) else 0) (r+g)).length) with h5|h5
   ·have h5e:cZ (g91 (az l m) i) (g92 (az l m) i) (g93 (az l m) i) (g94 (az l m) i) (g97 (az l m) i) (g98 (az l m) i) (g99 (az l m) i) (if 0<(r-g) then (r-g) else 0) (r+g)=[]:=List.eq_nil_of_length_eq_zero h5
    rcases Nat.eq_zero_or_pos ((swS (az l m) r g i).length) with h6|h6
    ·have h6e:swS (az l m) r g i=[]:=List.eq_nil_of_length_eq_zero h6
     have G7:=jn h5 (jn h6 (jn @lC (jn @lD G6)))
     refine ae G7 ?_
     refine hJ0 _ _ ⟨k0-1,by omega,_,_,_,⟨i+1,by omega,rfl,rfl⟩,bS hbel [0,1,2] (aC (jn @swS.eq_2 (jn @List.append_nil.{0} (jn h5e (jn h6e (jn @bD (jn @bH (jn @cz @ct))))))))⟩
    have h6c:=lE h6
    have h6o:=fc h6
    have h6z:((swS (az l m) r g i).length==0)=false:=beq_eq_false_iff_ne.2 (by omega)
    have G8:=jn h5 (jn h6c (jn h6o (jn h6z (jn @mg G6))))
    refine ae G8 ?_
    refine hJ0 _ _ ⟨k0-1,by omega,_,_,_,⟨i+1,by omega,rfl,rfl⟩,bS hbel [0,1,5] (aC (jn @swS.eq_2 (jn @List.append_nil.{0} (jn h5e (jn h6c (jn h6o (jn @Nat.add_zero (jn @bD (jn @bH (jn @cz @ct))))))))))⟩
   have h5z:decide (0<(cZ (g91 (az l m) i) (g92 (az l m) i) (g93 (az l m) i) (g94 (az l m) i) (g97 (az l m) i) (g98 (az l m) i) (g99 (az l m) i) (if 0<(r-g) then (r-g) else 0) (r+g)).length)=true:=decide_eq_true h5
   have h5c:=lE (n:=(swS (az l m) r g i).length+(cZ (g91 (az l m) i) (g92 (az l m) i) (g93 (az l m) i) (g94 (az l m) i) (g97 (az l m) i) (g98 (az l m) i) (g99 (az l m) i) (if 0<(r-g) then (r-g) else 0) (r+g)).length) (by omega)
   have h5o:=fc (n:=(swS (az l m) r g i).length+(cZ (g91 (az l m) i) (g92 (az l m) i) (g93 (az l m) i) (g94 (az l m) i) (g97 (az l m) i) (g98 (az l m) i) (g99 (az l m) i) (if 0<(r-g) then (r-g) else 0) (r+g)).length) (by omega)
   have G9:=jn h5 (jn h5z (jn @mg G6))
   refine ae G9 ?_
   refine hJ0 _ _ ⟨k0-1,by omega,_,_,_,⟨i+1,by omega,rfl,rfl⟩,bS hbel [0,1,5] (aC (jn @swS.eq_2 (jn @List.append_nil.{0} (jn h5c (jn h5o (jn @bD (jn @bH (jn @cz @ct))))))))⟩
  obtain rfl:i=(az l m).length:=by omega
  refine ae G10 ?_
  refine cvr G10 (srtk_c _ _ _ (swS (az l m) r g (az l m).length) (by (rw[aK];rfl)) (by omega)) ?_
  refine cvr G10 (cptk_c _ _ _ (swS (az l m) r g (az l m).length) (by (rw[aK];rfl)) (by omega)) ?_
  refine hQ _ _ (ba (.inl rfl) hbel (x1:=.sl (some (H.length+2,0)) ((bW (dY (swS (az l m) r g (az l m).length))).length) none) (l2:=[.cells (aQ (swS (az l m) r g (az l m).length).length) 2 (prs (bW (dY (swS (az l m) r g (az l m).length))))]) (.sl (some (H.length,0)) ((bW (dY (swS (az l m) r g (az l m).length))).length) none) (aY results85) [] rfl [2] (by decide) ⟨by unfold bL;rw[hfinB],by unfold bL;rw[hfinB]⟩ ?_)
  exact aS @jA
 have h1n:=bnT h1
 have hr1:r = -1:=by simpa using h1d
 have hfinA:=rv (l:=l) (m:=m) (g:=g) (.inl hr1)
 have G11:=jn h1 (jn h1n (jn @aP (jn @aO G1)))
 refine ae G11 ?_
 refine hQ _ _ (ba (.inl rfl) hbel (x1:=.sl none 0 (some 0)) (l2:=[.cells false 2 []]) (.sl (some (H.length,0)) 0 none) (aY results85) [.cells false 2 []] rfl [1] (by decide) ⟨by (rw[hfinA.1];rfl),by (rw[hfinA.1,hfinA.2];rfl)⟩ ?_)
 exact aS @jA
set_option maxRecDepth 100000 in
theorem nI (H:aa)(s:AV)(xs:List Int)(hs:zI H s xs)(hl:xs.length<=1000000)(h0:0<xs.length):zC 69 [s] H (.sl (some (H.length,0)) xs.length none) (H++[.cells true 1 (ints .u8 xs)]):=by
 obtain⟨b,own,cap,rfl,hb⟩:=hs
 have hbl:=getElem?_lt hb
 have hb0:=fun l=>am (l:=l) hb
 generalize hm:xs.length=m at *
 refine AcT true func69 ?_;intro hbel Q hQ
 have htk:List.take m (ints .u8 xs)=ints .u8 xs:=List.take_of_length_le (by rw[co];omega)
 have htk1:List.take (m*1) (ints .u8 xs)=ints .u8 xs:=List.take_of_length_le (by rw[co];omega)
 have hm0:(m==0)=false:=beq_eq_false_iff_ne.2 (by omega)
 have hm1:(m != 0)=true:=bne_iff_ne.2 (by omega)
 simp -implicitDefEqProofs (disch:=omega) only [hb,hb0,Option.isNone_some,hm0,h0,htk,htk1,jt,hm1,simprocAttr,aD,aE,Function.comp_apply,one1,lenV,ai,ar,au,aop,AV.ofValue,AV.ofCell,AV.cells,AV.flat,AV.one,arep,aN,ap,aA]
 repeat refine And.intro (by omega) ?_
 refine hQ _ _ (end_by (.inl rfl) hbel (x1:=.sl (some (H.length+1,0)) m none) (.sl (some (H.length,0)) m none) (aY results69) [1] (by decide) ⟨rfl,rfl⟩ ?_)
 exact absT
theorem susL_own {l:List T6}{m r g:Int}:aQ (gN l m r g).length=aQ (bL l m r g).length:=by
 unfold bL
 have h:=iz (gN l m r g)
 generalize dY (gN l m r g)=s at *
 match s,h with
 |[],h=>rw[<-h];rfl
 | a::t,h =>
  have h2:a∈bW (a::t):=gb.2 (List.mem_cons_self ..)
  rw[fc (by rw[<-h];simp),fc (List.length_pos_of_mem h2)]
theorem ksus2_c (H:aa)(s:AV)(l:List T6)(m r g:Int)(hs:Sl H 6 s l.length (r6 l))(hS:cw l=true)(hr : -1<=r/\r<=1024)(hg:1<=g/\g<=32):zC 85 [s,.agg [iV m,iV r],iV g] H (.sl (some (H.length,0)) (bL l m r g).length none) (H++[.cells (aQ (bL l m r g).length) 2 (prs (bL l m r g))]):=by
 have h:=ksus_c H s l m r g hs hS hr hg
 rw[susL_own] at h
 exact h
theorem learn1_c (H:aa)(c1 c2 W Hh:Int)(pp:AV)(xs:List Int)(bz:Nat)(hpp:zI H pp xs)(hz:∃o,H[bz]? = some (.cells o 0 [iV W,iV Hh,pp]))(hV:bQ W Hh xs=true):zC 86 [.agg [iV c1,iV c2],.ptr (some (bz,0))] H (.bool (frP W Hh xs (c1,c2))) H:=by
 obtain⟨bpp,opp,cpp,rfl,hbpp,hblpp,hb0pp⟩:=zA1 hpp
 obtain⟨oz,hbz⟩:=hz
 have hblz:=getElem?_lt hbz
 have hb0z:=fun l=>am (l:=l) hbz
 refine AcT true func86 ?_;intro hbel Q hQ
 have G1:=jn @hbpp (jn @hb0pp (jn @hbz @hb0z))
 refine ae G1 ?_
 refine cvr G1 (pat_c _ W _ _ xs _ _ (zA2 hb0pp hbpp) hV) ?_
 exact eP hQ hbel (.bool ((atI W Hh xs c1 c2)==1)) results86 ⟨rfl,rfl⟩
theorem learn_c (H:aa)(W Hh:Int)(pp:AV)(xs:List Int)(s:AV)(l:List T6)(q:AV)(sc:List (Int×Int))(g:Int)(hpp:zI H pp xs)(hs:Sl H 6 s l.length (r6 l))(hq:SlP H q sc)(hl:l.length<=1000000000)(hsc:sc.length<=1000000000):zC 45 [.agg [iV W,iV Hh,pp],s,q,iV g] H (.tup [.agg [iV (lnZ W Hh xs l sc g W),iV (lnZ W Hh xs l sc g Hh),.sl (some (H.length,0)) ((lnX W Hh xs l sc g).length) none],iV (lnE W Hh xs l sc g)]) (H++[.cells (aQ (lnX W Hh xs l sc g).length) 1 (ints .u8 (lnX W Hh xs l sc g))]):=by
 obtain⟨bpp,opp,cpp,rfl,hbpp,hblpp,hb0pp⟩:=zA1 hpp
 obtain⟨bs,os,cs,rfl,hbs,hbls,hb0s⟩:=zA1 hs
 obtain⟨bq,oq,cq,rfl,hbq,hblq,hb0q⟩:=zA1 hq
 (refine bh func45 _ rfl (Nat.le_of_ble_eq_true (by kernel_rfl)) rfl ?_;intro hbel Q hQ hQ' c hc;unfold Tryz.f45 at hc;simp only[Option.some.injEq] at hc;subst hc;clear hQ')
 refine mf false try_mixed (by kernel_rfl) (fun F Hx=>look F 1=.sl (some (bs,0)) l.length cs/\look F 2=.sl (some (bq,0)) sc.length cq/\look F 3=iV g/\look F 4=.ptr (some (H.length,0))/\look F 8=.ptr (some (H.length+1,0))/\look F 9=iV 0/\Hx=H++[.cells true 0 [iV W,iV Hh,.sl (some (bpp,0)) xs.length cpp],.cells true 0 [iV 0,iV 0,.sl none 0 (some 0)]]) ?_ ?_
 ·have G2:=jn @hbpp (jn @hb0pp (jn @hbs (jn @hb0s (jn @hbq @hb0q))))
  refine ae G2 ?_
  refine aq ?_
  exact absT
 rintro F Hx ⟨f1,f2,f3,f4,f5,f6,rfl⟩
 refine mf false try_mixed (by kernel_rfl) (fun F Hx=>eW W Hh xs l sc g=true/\look F 1=.sl (some (bs,0)) l.length cs/\look F 2=.sl (some (bq,0)) sc.length cq/\look F 3=iV g/\look F 4=.ptr (some (H.length,0))/\look F 8=.ptr (some (H.length+1,0))/\look F 9=iV 0/\Hx=H++[.cells true 0 [iV W,iV Hh,.sl (some (bpp,0)) xs.length cpp],.cells true 0 [iV 0,iV 0,.sl none 0 (some 0)]]) ?_ ?_
 ·have G3:=jn @hbpp (jn @hb0pp (jn @hbs (jn @hb0s (jn @hbq (jn @hb0q (jn @f1 (jn @f2 (jn @f3 (jn @f4 (jn @f5 @f6))))))))))
  refine ae G3 ?_
  refine cv (kright_c _ W _ _ xs _ l _ sc g (zA2 hb0pp hbpp) (zA2 hb0s hbs) (zA2 hb0q hbq) (by omega) (by omega)) ?_
  refine rcs G3 (fun h7 h7d G4=>?_) (fun h7 h7d G5=>?_)
  ·have hfinP:=ln_1 h7d
   refine ae G4 ?_
   refine hQ _ _ (ba (.inl rfl) hbel (x1:=.tup [.agg [iV 0,iV 0,.sl none 0 (some 0)],iV 1]) (l2:=[.cells false 1 []]) (.tup [.agg [iV 0,iV 0,.sl (some (H.length,0)) 0 none],iV 1]) (resTf (jn @f1 (jn @f2 (jn @f3 (jn @f4 (jn @f5 @f6))))) results45) [.cells false 1 []] rfl [2] (by decide) ⟨by (rw[hfinP.1,hfinP.2.1,hfinP.2.2.1,hfinP.2.2.2];rfl),by (rw[hfinP.2.1];rfl)⟩ ?_)
   exact aJ
  refine ae G5 ?_
  refine aq ?_
  exact absTf (jn @f1 (jn @f2 (jn @f3 (jn @f4 (jn @f5 @f6)))))
 rintro F Hx ⟨h8d,f9,f10,f11,f12,f13,f14,rfl⟩
 have hR:=h8d
 obtain⟨hV,hl0,hS,hsB,hg⟩:=iw.1 hR
 have hVV:=bo.1 hV
 have hpp2:=hVV.pos
 have hWb:1<=W/\W<=64:=⟨hVV.w0,hVV.w1⟩
 have hHb:1<=Hh/\Hh<=64:=⟨hVV.h0,hVV.h1⟩
 have hx00:=(hVV.idx (show inB W Hh 0 0=true from dD.2 (by have:=hVV.w0;have:=hVV.h0;omega))).2.2.2.2.1
 have hx0:0<xs.length:=by omega
 have hx6:xs.length<=1000000:=by have h4:=hVV.len;have:=Int.mul_le_mul hVV.w1 hVV.h1 (by have:=hVV.h0;omega) (by decide);omega
 have hsc2:=dX.1 hsB
 have hAl:=allL_len (W:=W) (Hh:=Hh) (l:=l) (sc:=sc) (g:=g)
 have hA:∀c∈(aU W Hh l sc g),inB W Hh c.1 c.2=true:=fun c hc=>allL_in hc
 refine bt false try_mixed [[0,1,2,3,4,5,6,7,8,9],[0,1,2,3,4,5,8,6,7,9]] (by kernel_rfl) (fun F2 H2=>F2=[(1,.sl (some (bs,0)) l.length cs),(2,.sl (some (bq,0)) sc.length cq),(3,iV g),(4,.ptr (some (H.length,0))),(8,.ptr (some (H.length+1,0))),(9,iV 0),(10,.ptr (some (H.length+3,0)))]/\H2=H++[.cells true 0 [iV W,iV Hh,.sl (some (bpp,0)) xs.length cpp],.cells true 0 [iV 0,iV 0,.sl none 0 (some 0)],.cells true 1 (ints .u8 xs),.cells true 0 [iV W,iV Hh,.sl (some (H.length+2,0)) xs.length none]]) ?_ ?_
 ·refine aj ?_ (aj ?_ (bu))<;>intro J hJ
  ·have G6:=jn @hbpp (jn @hb0pp (jn @hbs (jn @hb0s (jn @hbq (jn @hb0q (jn @f1 (jn @f2 (jn @f3 (jn @f4 (jn @f5 (jn @f6 (jn @f9 (jn @f10 (jn @f11 (jn @f12 (jn @f13 (jn @f14 @h8d)))))))))))))))))
   refine ag G6 ?_
   refine cx (nI _ _ xs (zA2 hb0pp hbpp) hx6 hx0) ?_
   refine ag G6 ?_
   refine aq (hJ _ _ ⟨_,_,_,⟨rfl,rfl⟩,bS hbel [0,1,2,3] (aC (jn @f1 (jn @f2 (jn @f3 (jn @f4 (jn @f5 (jn @f6 (jn @f9 (jn @f10 (jn @f11 (jn @f12 (jn @f13 @f14))))))))))))⟩)
  have G7:=jn @hbpp (jn @hb0pp (jn @hbs (jn @hb0s (jn @hbq (jn @hb0q (jn @f1 (jn @f2 (jn @f3 (jn @f4 (jn @f5 (jn @f6 (jn @f9 (jn @f10 (jn @f11 (jn @f12 (jn @f13 (jn @f14 @h8d)))))))))))))))))
  refine ag G7 ?_
  refine cx (nI _ _ xs (zA2 hb0pp hbpp) hx6 hx0) ?_
  refine ag G7 ?_
  refine aq (hJ _ _ ⟨_,_,_,⟨rfl,rfl⟩,bS hbel [0,1,3,2] (aC (jn @f1 (jn @f2 (jn @f3 (jn @f4 (jn @f5 (jn @f6 (jn @f9 (jn @f10 (jn @f11 (jn @f12 (jn @f13 @f14))))))))))))⟩)
 rintro F2 H2 ⟨rfl,rfl⟩
 refine fnF ?_
 have G8:=jn @hbpp (jn @hb0pp (jn @hbs (jn @hb0s (jn @hbq (jn @hb0q (jn h8d (jn @co @cV)))))))
 refine ae G8 ?_
 refine cv (lV _ _ l (zA2 hb0s hbs) (by assumption)) ?_
 refine rcs G8 (fun h15 h15d G9=>?_) (fun h15 h15d G10=>?_)
 ·have hfinP:=ln_0 hR (if_neg (by rw[h15d];decide))
  have hfinO:=fc hx0
  refine ae G9 ?_
  refine hQ _ _ (ba (.inl rfl) hbel (x1:=.tup [.agg [iV W,iV Hh,.sl (some (H.length+2,0)) xs.length none],iV 0]) (l2:=[.cells true 1 (ints .u8 xs)]) (.tup [.agg [iV W,iV Hh,.sl (some (H.length,0)) xs.length none],iV 0]) (aY results45) [] rfl [2] (by decide) ⟨by rw[hfinP.1,hfinP.2.1,hfinP.2.2.1,hfinP.2.2.2],by rw[hfinP.2.1,hfinO]⟩ ?_)
  exact aJ
 have htau:=h15d
 refine ae G10 ?_
 refine cvr G10 (kall_c _ W _ _ xs _ l _ sc g (zA2 hb0pp hbpp) (zA2 hb0s hbs) (zA2 hb0q hbq) hV hS hl0 hsB (by omega)) ?_
 refine glp (fun k F Hx=>∃i:Nat,i+k=(aU W Hh l sc g).length/\iA W Hh (aU W Hh l sc g) xs=iA W Hh ((aU W Hh l sc g).drop i) (lfS W (aU W Hh l sc g) xs i)/\F=[(1,.sl (some (bs,0)) l.length cs),(2,.sl (some (bq,0)) sc.length cq),(3,iV g),(4,.ptr (some (H.length,0))),(8,.ptr (some (H.length+1,0))),(10,.ptr (some (H.length+3,0))),(41,.sl (some (H.length+4,0)) ((aU W Hh l sc g).length) none),(42,iV (((aU W Hh l sc g).length:Nat):Int)),(43,iV (i:Int))]/\Hx=H++[.cells true 0 [iV W,iV Hh,.sl (some (bpp,0)) xs.length cpp],.cells true 0 [iV 0,iV 0,.sl none 0 (some 0)],.cells true 1 (ints .u8 (lfS W (aU W Hh l sc g) xs i)),.cells true 0 [iV W,iV Hh,.sl (some (H.length+2,0)) ((lfS W (aU W Hh l sc g) xs i).length) none],.cells (aQ (iX W Hh l sc g).length) 2 (prs (aU W Hh l sc g))]) ((aU W Hh l sc g).length) ?_ ?_
 ·refine⟨_,_,_,⟨0,by omega,rfl,rfl,rfl⟩,bS hbel [0,1,2,3,4] (aC @lfS.eq_1)⟩
 rintro k0 F Hx ⟨i,hm0,hrem,rfl,rfl⟩ J0 hJ0
 have G11:=jn @bF (jn @cJ G10)
 refine rcs G11 (fun h16 h16d _=>?_) (fun h16 h16d G15=>?_)
 ·have hlt:i<(aU W Hh l sc g).length:=by omega
  have hfv:=km (W:=W) (A:=(aU W Hh l sc g)) hV i
  obtain⟨j1,j2,j3,j4,j5,-⟩:=(bo.1 hfv).idx (gin_mem hlt hA)
  have q17:=c8 (l:=aU W Hh l sc g) (j:=i) (by omega)
  have q18:=cn (k:=.u8) (xs:=lfS W (aU W Hh l sc g) xs i) (j:=(((g2 (aU W Hh l sc g) i)*W)+(g1 (aU W Hh l sc g) i)).toNat) (by omega)
  have G12:=jn h16 (jn h16d (jn q17 (jn q18 G11)))
  refine rcs G12 (fun h19 h19d _=>?_) (fun h19 h19d _=>?_)
  ·have h19n:=bnT h19
   have hfinP:=ln_11 hR (by unfold lnO;rw[if_pos htau,hrem,qh hlt hA,if_pos (by simpa using h19d)];rfl)
   have G13:=jn h19 (jn h19n (jn @aP (jn @aO G12)))
   refine ae G13 ?_
   refine hQ _ _ (ba (.inl rfl) hbel (x1:=.tup [.agg [iV 0,iV 0,.sl none 0 (some 0)],iV 11]) (l2:=[.cells false 1 []]) (.tup [.agg [iV 0,iV 0,.sl (some (H.length,0)) 0 none],iV 11]) (aY results45) [.cells false 1 []] rfl [6] (by decide) ⟨by (rw[hfinP.1,hfinP.2.1,hfinP.2.2.1,hfinP.2.2.2];rfl),by (rw[hfinP.2.1];rfl)⟩ ?_)
   exact aJ
  have h19n:=bnT h19
  have hne:¬gi (lfS W (aU W Hh l sc g) xs i) (((g2 (aU W Hh l sc g) i)*W)+(g1 (aU W Hh l sc g) i)).toNat=2:=by simpa using h19d
  have G14:=jn h19 (jn h19n (jn @aP (jn @aO (jn @jQ (jn @List.length_set.{0} G12)))))
  refine ae G14 ?_
  refine hJ0 _ _ ⟨k0-1,by omega,_,_,_,⟨i+1,by omega,hrem.trans ((qh hlt hA).trans (if_neg hne)),rfl,rfl⟩,bS hbel [0,1,2,3,4] (aC (jn @lfS.eq_2 @List.length_set.{0}))⟩
 obtain rfl:i=(aU W Hh l sc g).length:=by omega
 rw[List.drop_length] at hrem
 refine ae G15 ?_
 refine glp (fun k F Hx=>∃i:Nat,i+k=sc.length/\lnO W Hh xs l sc g=fJ W Hh (iY l (sc.drop i) g) (lwS W Hh l sc g (lfS W (aU W Hh l sc g) xs (aU W Hh l sc g).length) i)/\F=[(1,.sl (some (bs,0)) l.length cs),(3,iV g),(4,.ptr (some (H.length,0))),(8,.ptr (some (H.length+1,0))),(10,.ptr (some (H.length+3,0))),(66,.sl (some (bq,0)) sc.length cq),(67,iV (sc.length:Int)),(68,iV (i:Int))]/\Hx=H++[.cells true 0 [iV W,iV Hh,.sl (some (bpp,0)) xs.length cpp],.cells true 0 [iV 0,iV 0,.sl none 0 (some 0)],.cells true 1 (ints .u8 (lwS W Hh l sc g (lfS W (aU W Hh l sc g) xs (aU W Hh l sc g).length) i)),.cells true 0 [iV W,iV Hh,.sl (some (H.length+2,0)) ((lwS W Hh l sc g (lfS W (aU W Hh l sc g) xs (aU W Hh l sc g).length) i).length) none]]) (sc.length) ?_ ?_
 ·refine⟨_,_,_,⟨0,by omega,by unfold lnO;rw[if_pos htau,hrem];rfl,rfl,rfl⟩,bS hbel [0,1,2,3] (aC @lwS.eq_1)⟩
 rintro k1 F Hx ⟨i,hm1,hrem2,rfl,rfl⟩ J1 hJ1
 refine rcs G15 (fun h20 h20d _=>?_) (fun h20 h20d G27=>?_)
 ·have hlt:i<sc.length:=by omega
  have hbi:=gK.1 (hsc2.2 _ (List.getElem_mem hlt))
  rw[<-cP hlt] at hbi
  have hwv:=kn (W:=W) (Hh:=Hh) (l:=l) (sc:=sc) (g:=g) (km (W:=W) (A:=(aU W Hh l sc g)) hV (aU W Hh l sc g).length) i
  have hsl:=rB (l:=l) (m:=g1 sc i) (r:=g2 sc i) (g:=g) hS
  have q21:=c8 (l:=sc) (j:=i) (by omega)
  have G16:=jn h20 (jn h20d (jn q21 G15))
  refine rcs G16 (fun h22 h22d _=>?_) (fun h22 h22d _=>?_)
  ·have h22n:=bnT h22
   have hr1:g2 sc i = -1:=by simpa using h22d
   have hst:=lwS_skip (W:=W) (Hh:=Hh) (l:=l) (g:=g) (o:=(lfS W (aU W Hh l sc g) xs (aU W Hh l sc g).length)) hr1
   have hnx:=rA (W:=W) (Hh:=Hh) (l:=l) (g:=g) (o:=(lfS W (aU W Hh l sc g) xs (aU W Hh l sc g).length)) hlt (.inl hr1)
   have G17:=jn h22 (jn h22n (jn @aP (jn @aO G16)))
   refine ae G17 ?_
   refine hJ1 _ _ ⟨k1-1,by omega,_,_,_,⟨i+1,by omega,hrem2.trans hnx,rfl,rfl⟩,bS hbel [0,1,2,3] (aC (jn @hst @List.length_set.{0}))⟩
  have h22n:=bnT h22
  have hr1:¬g2 sc i = -1:=by simpa using h22d
  have G18:=jn h22 (jn h22n (jn @aP (jn @aO G16)))
  refine ae G18 ?_
  refine cvr G18 (ksus2_c _ _ l _ _ g (zA2 hb0s hbs) hS (by omega) (by omega)) ?_
  refine cv (del_cell _ _ _ (bL l (g1 sc i) (g2 sc i) g) (by rw[aK];rfl) (Nat.le_trans (rB hS) (by decide)) _ [.ptr (some (H.length+3,0))] (by kernel_rfl) (by simp[AV.bels,AV.bel]) (frP W Hh (lwS W Hh l sc g (lfS W (aU W Hh l sc g) xs (aU W Hh l sc g).length) i)) (fun X e L he=>learn1_c _ e.1 e.2 W Hh (.sl (some (H.length+2,0)) (lwS W Hh l sc g (lfS W (aU W Hh l sc g) xs (aU W Hh l sc g).length) i).length none) (lwS W Hh l sc g (lfS W (aU W Hh l sc g) xs (aU W Hh l sc g).length) i) _ ⟨_,_,_,rfl,by rw[kH,List.append_assoc,aK];rfl⟩ ⟨_,by rw[kH,List.append_assoc,aK];rfl⟩ (kn (km hV _) _))) ?_
  refine rcs G18 (fun h23 h23d _=>?_) (fun h23 h23d _=>?_)
  ·have h23n:=bnT h23
   have hd0:(cg (frP W Hh (lwS W Hh l sc g (lfS W (aU W Hh l sc g) xs (aU W Hh l sc g).length) i)) (bL l (g1 sc i) (g2 sc i) g)).length=0:=by have q:=h23d;omega
   have hfinP:=ln_11 hR (hrem2.trans (lwS_bad hlt hr1 hd0))
   have G19:=j2 h23 h23n G18
   refine ae G19 ?_
   refine hQ _ _ (ba (.inl rfl) hbel (x1:=.tup [.agg [iV 0,iV 0,.sl none 0 (some 0)],iV 11]) (l2:=[.cells false 1 []]) (.tup [.agg [iV 0,iV 0,.sl (some (H.length,0)) 0 none],iV 11]) (aY results45) [.cells false 1 []] rfl [6] (by decide) ⟨by (rw[hfinP.1,hfinP.2.1,hfinP.2.2.1,hfinP.2.2.2];rfl),by (rw[hfinP.2.1];rfl)⟩ ?_)
   exact aJ
  have h23n:=bnT h23
  have hd0:¬(cg (frP W Hh (lwS W Hh l sc g (lfS W (aU W Hh l sc g) xs (aU W Hh l sc g).length) i)) (bL l (g1 sc i) (g2 sc i) g)).length=0:=by have q:=h23d;omega
  have hp1:g1 (eV (bL l (g1 sc i) (g2 sc i) g).length (cg (frP W Hh (lwS W Hh l sc g (lfS W (aU W Hh l sc g) xs (aU W Hh l sc g).length) i)) (bL l (g1 sc i) (g2 sc i) g))) 0=g1 (cg (frP W Hh (lwS W Hh l sc g (lfS W (aU W Hh l sc g) xs (aU W Hh l sc g).length) i)) (bL l (g1 sc i) (g2 sc i) g)) 0:=pad_g1 hd0
  have hp2:g2 (eV (bL l (g1 sc i) (g2 sc i) g).length (cg (frP W Hh (lwS W Hh l sc g (lfS W (aU W Hh l sc g) xs (aU W Hh l sc g).length) i)) (bL l (g1 sc i) (g2 sc i) g))) 0=g2 (cg (frP W Hh (lwS W Hh l sc g (lfS W (aU W Hh l sc g) xs (aU W Hh l sc g).length) i)) (bL l (g1 sc i) (g2 sc i) g)) 0:=pad_g2 hd0
  have hsfp:=pad_len (p:=frP W Hh (lwS W Hh l sc g (lfS W (aU W Hh l sc g) xs (aU W Hh l sc g).length) i)) (l:=(bL l (g1 sc i) (g2 sc i) g))
  have hpn:=delL_le (p:=frP W Hh (lwS W Hh l sc g (lfS W (aU W Hh l sc g) xs (aU W Hh l sc g).length) i)) (l:=(bL l (g1 sc i) (g2 sc i) g))
  have hnx:=rA (W:=W) (Hh:=Hh) (l:=l) (g:=g) (o:=(lfS W (aU W Hh l sc g) xs (aU W Hh l sc g).length)) hlt (.inr hd0)
  have q24:=(show List.take 2 (prs (eV (bL l (g1 sc i) (g2 sc i) g).length (cg (frP W Hh (lwS W Hh l sc g (lfS W (aU W Hh l sc g) xs (aU W Hh l sc g).length) i)) (bL l (g1 sc i) (g2 sc i) g))))=[iV (g1 (eV (bL l (g1 sc i) (g2 sc i) g).length (cg (frP W Hh (lwS W Hh l sc g (lfS W (aU W Hh l sc g) xs (aU W Hh l sc g).length) i)) (bL l (g1 sc i) (g2 sc i) g))) 0),iV (g2 (eV (bL l (g1 sc i) (g2 sc i) g).length (cg (frP W Hh (lwS W Hh l sc g (lfS W (aU W Hh l sc g) xs (aU W Hh l sc g).length) i)) (bL l (g1 sc i) (g2 sc i) g))) 0)] from by have q:=c8 (l:=eV (bL l (g1 sc i) (g2 sc i) g).length (cg (frP W Hh (lwS W Hh l sc g (lfS W (aU W Hh l sc g) xs (aU W Hh l sc g).length) i)) (bL l (g1 sc i) (g2 sc i) g))) (j:=0) (by omega);rwa [Nat.zero_mul,List.drop_zero] at q)
  have G20:=jn h23 (jn h23n (jn @hsfp (jn q24 G18)))
  refine rgs G20 (fun h25 h25d _=>?_) (fun h25 h25d _=>?_)
  ·have h25n:=bnT h25
   have hd1:(cg (frP W Hh (lwS W Hh l sc g (lfS W (aU W Hh l sc g) xs (aU W Hh l sc g).length) i)) (bL l (g1 sc i) (g2 sc i) g)).length=1:=by have q:=h25d;omega
   have G21:=j2 h25 h25n G20
   refine ae G21 ?_
   refine cv (dq _ _ 0 _) ?_
   refine rgs G21 (fun h26 h26d G22=>?_) (fun h26 h26d G25=>?_)
   ·have hd2:=h26d
    rw[hp1] at hd2
    refine ae G22 ?_
    refine cv (dq _ _ 0 _) ?_
    refine rcs G22 (fun h27 h27d _=>?_) (fun h27 h27d G24=>?_)
    ·have hd3:=h27d
     rw[hp2] at hd3
     have hst:=lwS_set (W:=W) (Hh:=Hh) (l:=l) (g:=g) (o:=(lfS W (aU W Hh l sc g) xs (aU W Hh l sc g).length)) hr1 ⟨hd1,hd2,hd3⟩
     rw[<-hp1,<-hp2] at hst
     obtain⟨j1,j2,j3,j4,j5,-⟩:=(bo.1 hwv).idx (x:=g1 (eV (bL l (g1 sc i) (g2 sc i) g).length (cg (frP W Hh (lwS W Hh l sc g (lfS W (aU W Hh l sc g) xs (aU W Hh l sc g).length) i)) (bL l (g1 sc i) (g2 sc i) g))) 0) (y:=g2 (eV (bL l (g1 sc i) (g2 sc i) g).length (cg (frP W Hh (lwS W Hh l sc g (lfS W (aU W Hh l sc g) xs (aU W Hh l sc g).length) i)) (bL l (g1 sc i) (g2 sc i) g))) 0) (dD.2 (by rw[hp1,hp2];have:=aZ.1 hd2;have:=aZ.1 hd3;omega))
     have G23:=jn h27 (jn h27d (jn @jQ (jn @List.length_set.{0} G22)))
     refine ae G23 ?_
     refine hJ1 _ _ ⟨k1-1,by omega,_,_,_,⟨i+1,by omega,hrem2.trans hnx,rfl,rfl⟩,bS hbel [0,1,2,3] (aC (jn @hst @List.length_set.{0}))⟩
    have hd3:=h27d
    rw[hp2] at hd3
    have hst:=nC (W:=W) (Hh:=Hh) (l:=l) (g:=g) (o:=(lfS W (aU W Hh l sc g) xs (aU W Hh l sc g).length)) hr1 (fun q=>by rw[hd3] at q;exact absurd q.2.2 (by decide))
    refine ae G24 ?_
    refine hJ1 _ _ ⟨k1-1,by omega,_,_,_,⟨i+1,by omega,hrem2.trans hnx,rfl,rfl⟩,bS hbel [0,1,2,3] (aC (jn @hst @List.length_set.{0}))⟩
   have hd2:=h26d
   rw[hp1] at hd2
   have hst:=nC (W:=W) (Hh:=Hh) (l:=l) (g:=g) (o:=(lfS W (aU W Hh l sc g) xs (aU W Hh l sc g).length)) hr1 (fun q=>by rw[hd2] at q;exact absurd q.2.1 (by decide))
   refine ae G25 ?_
   refine hJ1 _ _ ⟨k1-1,by omega,_,_,_,⟨i+1,by omega,hrem2.trans hnx,rfl,rfl⟩,bS hbel [0,1,2,3] (aC (jn @hst @List.length_set.{0}))⟩
  have h25n:=bnT h25
  have hd1:¬(cg (frP W Hh (lwS W Hh l sc g (lfS W (aU W Hh l sc g) xs (aU W Hh l sc g).length) i)) (bL l (g1 sc i) (g2 sc i) g)).length=1:=by have q:=h25d;omega
  have hst:=nC (W:=W) (Hh:=Hh) (l:=l) (g:=g) (o:=(lfS W (aU W Hh l sc g) xs (aU W Hh l sc g).length)) hr1 (fun q=>hd1 q.1)
  have G26:=j2 h25 h25n G20
  refine ae G26 ?_
  refine hJ1 _ _ ⟨k1-1,by omega,_,_,_,⟨i+1,by omega,hrem2.trans hnx,rfl,rfl⟩,bS hbel [0,1,2,3] (aC (jn @hst @List.length_set.{0}))⟩
 obtain rfl:i=sc.length:=by omega
 rw[List.drop_length] at hrem2
 have hfinP:=ln_0 hR hrem2
 have hfinO:aQ (lwS W Hh l sc g (lfS W (aU W Hh l sc g) xs (aU W Hh l sc g).length) sc.length).length=true:=fc (by have:=vld_pos (kn (W:=W) (Hh:=Hh) (l:=l) (sc:=sc) (g:=g) (km (W:=W) (A:=(aU W Hh l sc g)) hV (aU W Hh l sc g).length) sc.length);omega)
 refine ae G27 ?_
 refine hQ _ _ (ba (.inl rfl) hbel (x1:=.tup [.agg [iV W,iV Hh,.sl (some (H.length+2,0)) ((lwS W Hh l sc g (lfS W (aU W Hh l sc g) xs (aU W Hh l sc g).length) sc.length).length) none],iV 0]) (l2:=[.cells true 1 (ints .u8 (lwS W Hh l sc g (lfS W (aU W Hh l sc g) xs (aU W Hh l sc g).length) sc.length))]) (.tup [.agg [iV W,iV Hh,.sl (some (H.length,0)) ((lwS W Hh l sc g (lfS W (aU W Hh l sc g) xs (aU W Hh l sc g).length) sc.length).length) none],iV 0]) (aY results45) [] rfl [2] (by decide) ⟨by rw[hfinP.1,hfinP.2.1,hfinP.2.2.1,hfinP.2.2.2],by rw[hfinP.2.1,hfinO]⟩ ?_)
 exact aJ
def lsB (l:List T6):Bool:=decide (0<(l.length:Int))&&(decide ((l.length:Int)<=16)&&!(l.any fun b=>!bA b))
theorem pf {l:List T6}:lsB l=true↔0<l.length/\cw l=true:=by
 rw[bN];unfold lsB
 simp only[Bool.and_eq_true,decide_eq_true_eq,Bool.not_eq_true',List.any_eq_false,Bool.not_eq_true',Bool.not_eq_false]
 constructor
 ·rintro⟨h1,h2,h3⟩;exact⟨by omega,by omega,fun b hb=>by simpa using h3 b hb⟩
 rintro⟨h1,h2,h3⟩;exact⟨by omega,by omega,fun b hb=>by simpa using h3 b hb⟩
theorem lvs1_c (H:aa)(x0 y0 x1 y1 f c:Int):zC 66 [.agg [iV x0,iV y0,iV x1,iV y1,iV f,iV c]] H (.bool (!(bA (x0,y0,x1,y1,f,c)))) H:=by
 refine AcT true func66 ?_;intro hbel Q hQ
 refine aB ?_
 refine cv (gy _ _ _ _ _ f c) ?_
 refine aB ?_
 exact eP hQ hbel (.bool (!(bxB x0 y0 x1 y1 f c))) results66 ⟨by rfl,rfl⟩
theorem lvset_c (H:aa)(s:AV)(l:List T6)(hs:Sl H 6 s l.length (r6 l))(hl:l.length<=1000000000):zC 35 [s] H (.bool (lsB l)) H:=by
 obtain⟨bs,os,cs,rfl,hbs,hbls,hb0s⟩:=zA1 hs
 refine AcT true func35 ?_;intro hbel Q hQ
 have G1:=jn @hbs @hb0s
 refine rgs G1 (fun h1 h1d G2=>?_) (fun h1 h1d G5=>?_)
 ·refine rgs G2 (fun h2 h2d G3=>?_) (fun h2 h2d G4=>?_)
  ·refine ae G3 ?_
   refine cvr G3 (ml _ _ l (zA2 hb0s hbs) (by omega) _ [] (by kernel_rfl) rfl (fun b=>!bA b) (fun j hj=>lvs1_c _ _ _ _ _ _ _)) ?_
   exact eQ hQ hbel (.bool (!(l.any (fun b=>!bA b)))) results35 ⟨by (unfold lsB;simp only[h1,h2];rfl),rfl⟩
  exact eS G4 hQ hbel (.bool false) results35 ⟨by simp[lsB,h1d,h2d],rfl⟩
 exact eS G5 hQ hbel (.bool false) results35 ⟨by (unfold lsB;simp only[h1];rfl),rfl⟩
theorem lvc1_c (H:aa)(m r:Int):zC 72 [.agg [iV m,iV r]] H (.bool (!(gJ (m,r)))) H:=by
 refine AcT true func72 ?_;intro hbel Q hQ
 refine aB ?_
 refine aV (fun h1=>?_) (fun h1=>?_)
 ·have h1d:=bsT h1
  have G6:=jn h1 @h1d
  refine rgs G6 (fun h2 h2d G7=>?_) (fun h2 h2d G10=>?_)
  ·refine rgs G7 (fun h3 h3d G8=>?_) (fun h3 h3d G9=>?_)
   ·exact eR G8 hQ hbel (.bool (decide (1024<r))) results72 ⟨by (by_cases hq:1024<r<;>simp[gJ,fI,btw,hq]<;>omega),rfl⟩
   exact eR G9 hQ hbel (.bool true) results72 ⟨by simp[gJ,fI,btw,h1d,h2d,h3d],rfl⟩
  exact eR G10 hQ hbel (.bool true) results72 ⟨by (by_cases hq:1024<r<;>simp[gJ,fI,btw,hq]<;>omega),rfl⟩
 have h1d:=bsT h1
 have G11:=jn h1 @h1d
 exact eR G11 hQ hbel (.bool true) results72 ⟨by simp[gJ,fI,btw,h1d],rfl⟩
theorem rH (H:aa)(q:AV)(sc:List (Int×Int))(hq:SlP H q sc)(hl:sc.length<=1000000000):zC 42 [q] H (.bool (di sc)) H:=by
 obtain⟨bq,oq,cq,rfl,hbq,hblq,hb0q⟩:=zA1 hq
 refine AcT true func42 ?_;intro hbel Q hQ
 have G12:=jn @hbq @hb0q
 refine rgs G12 (fun h1 h1d G13=>?_) (fun h1 h1d G14=>?_)
 ·refine ae G13 ?_
  refine cvr G13 (has_m _ _ sc (zA2 hb0q hbq) (by omega) _ [] (by kernel_rfl) rfl (fun e=>!gJ e) (fun j hj=>lvc1_c _ _ _)) ?_
  exact eQ hQ hbel (.bool (!(sc.any (fun e=>!gJ e)))) results42 ⟨by simp[di,h1d],rfl⟩
 exact eS G14 hQ hbel (.bool false) results42 ⟨by simp[di,h1d],rfl⟩
theorem lcop_c (H:aa)(W Hh:Int)(pp:AV)(xs:List Int)(hpp:zI H pp xs)(hx6:xs.length<=1000000)(hx0:0<xs.length):zC 37 [.agg [iV W,iV Hh,pp]] H (.agg [iV W,iV Hh,.sl (some (H.length,0)) xs.length none]) (H++[.cells true 1 (ints .u8 xs)]):=by
 obtain⟨bpp,opp,cpp,rfl,hbpp,hblpp,hb0pp⟩:=zA1 hpp
 refine AcT false func37 ?_;intro hbel Q hQ
 have G15:=jn @hbpp @hb0pp
 refine ae G15 ?_
 refine cx (nI _ _ xs (zA2 hb0pp hbpp) hx6 hx0) ?_
 refine ae G15 ?_
 refine hQ _ _ (ba (.inl rfl) hbel (x1:=.agg [iV W,iV Hh,.sl (some (H.length+2,0)) xs.length none]) (l2:=[.cells true 1 (ints .u8 xs)]) (.agg [iV W,iV Hh,.sl (some (H.length,0)) xs.length none]) (aY results37) [] rfl [2] (by decide) ⟨rfl,rfl⟩ ?_)
 exact aJ
theorem volI_bd (b:T6):0<=ej b/\ej b<=1125906929254400:=by
 unfold ej
 split
 ·rename_i h
  have hb:=bv.1 h
  have ha:=bm.1 hb.2.2
  have m1:=aH (a:=b.2.2.1-b.1+1) (b:=b.2.2.2.1-b.2.1+1) (A:=2097153) (B:=2097153) (by omega) (by omega)
  have p1:0<=(b.2.2.1-b.1+1)*(b.2.2.2.1-b.2.1+1):=Int.mul_nonneg (by omega) (by omega)
  have m2:=aH (a:=(b.2.2.1-b.1+1)*(b.2.2.2.1-b.2.1+1)) (b:=b.2.2.2.2.2) (A:=4398050705409) (B:=256) (by omega) (by omega)
  have p2:0<=(b.2.2.1-b.1+1)*(b.2.2.2.1-b.2.1+1)*b.2.2.2.2.2:=Int.mul_nonneg p1 (by omega)
  omega
 omega
def volS (l:List T6):Nat->Int
 |0=>0
 |n+1=>volS l n+ej (g6 l n)
theorem volS_bd (l:List T6):∀n:Nat,0<=volS l n/\volS l n<=1125906929254400*(n:Int)
 |0=>by simp[volS]
 | n+1=>by
  have:=volS_bd l n
  have e:=volI_bd (g6 l n)
  simp only[volS]
  omega
theorem mK (H:aa)(W Hh:Int)(pp:AV)(xs:List Int)(s:AV)(l:List T6)(tu le sl ra:Int)(lost:Bool)(bz:Nat)(hpp:zI H pp xs)(hs:Sl H 6 s l.length (r6 l))(hz:∃o,H[bz]? = some (.cells o 0 [iV W,iV Hh,pp,s,iV tu,iV le,iV sl,iV ra,.bool lost])):zC 15 [.ptr (some (bz,0))] H (.bool lost) H:=by
 obtain⟨bpp,opp,cpp,rfl,hbpp,hblpp,hb0pp⟩:=zA1 hpp
 obtain⟨bs,os,cs,rfl,hbs,hbls,hb0s⟩:=zA1 hs
 obtain⟨oz,hbz⟩:=hz
 have hblz:=getElem?_lt hbz
 have hb0z:=fun l=>am (l:=l) hbz
 refine AcT true func15 ?_;intro hbel Q hQ
 have G1:=jn @hbpp (jn @hb0pp (jn @hbs (jn @hb0s (jn @hbz (jn @hb0z @Option.isNone_some.{0})))))
 exact eS G1 hQ hbel (.bool lost) results15 ⟨rfl,rfl⟩
theorem ot (H:aa)(W Hh:Int)(pp:AV)(xs:List Int)(s:AV)(l:List T6)(tu le sl ra:Int)(lost:Bool)(bz:Nat)(hpp:zI H pp xs)(hs:Sl H 6 s l.length (r6 l))(hz:∃o,H[bz]? = some (.cells o 0 [iV W,iV Hh,pp,s,iV tu,iV le,iV sl,iV ra,.bool lost]))(hl16:l.length<=16)(hl0:0<l.length):zC 13 [.ptr (some (bz,0))] H (.sl (some (H.length,0)) l.length none) (H++[.cells true 6 (r6 l)]):=by
 obtain⟨bpp,opp,cpp,rfl,hbpp,hblpp,hb0pp⟩:=zA1 hpp
 obtain⟨bs,os,cs,rfl,hbs,hbls,hb0s⟩:=zA1 hs
 obtain⟨oz,hbz⟩:=hz
 have hblz:=getElem?_lt hbz
 have hb0z:=fun l=>am (l:=l) hbz
 refine AcT true func13 ?_;intro hbel Q hQ
 have G2:=jn @hbpp (jn @hb0pp (jn @hbs (jn @hb0s (jn @hbz (jn @hb0z @Option.isNone_some.{0})))))
 refine ae G2 ?_
 refine cvr G2 (k8 _ _ l (zA2 hb0s hbs) (by omega) (by omega)) ?_
 refine hQ _ _ (ba (.inl rfl) hbel (x1:=.sl (some (H.length,0)) l.length none) (l2:=[.cells true 6 (r6 l)]) (.sl (some (H.length,0)) l.length none) (aY results13) [] rfl [0] (by decide) ⟨rfl,rfl⟩ ?_)
 exact aS @bY
theorem lplan_c (H:aa)(W Hh:Int)(pp:AV)(xs:List Int)(s:AV)(l:List T6)(tu le sl ra:Int)(lost:Bool)(bz:Nat)(hpp:zI H pp xs)(hs:Sl H 6 s l.length (r6 l))(hz:∃o,H[bz]? = some (.cells o 0 [iV W,iV Hh,pp,s,iV tu,iV le,iV sl,iV ra,.bool lost]))(hx6:xs.length<=1000000)(hx0:0<xs.length):zC 17 [.ptr (some (bz,0))] H (.agg [iV W,iV Hh,.sl (some (H.length,0)) xs.length none]) (H++[.cells true 1 (ints .u8 xs)]):=by
 obtain⟨bpp,opp,cpp,rfl,hbpp,hblpp,hb0pp⟩:=zA1 hpp
 obtain⟨bs,os,cs,rfl,hbs,hbls,hb0s⟩:=zA1 hs
 obtain⟨oz,hbz⟩:=hz
 have hblz:=getElem?_lt hbz
 have hb0z:=fun l=>am (l:=l) hbz
 refine AcT true func17 ?_;intro hbel Q hQ
 have G3:=jn @hbpp (jn @hb0pp (jn @hbs (jn @hb0s (jn @hbz (jn @hb0z @Option.isNone_some.{0})))))
 refine ae G3 ?_
 refine cvr G3 (lcop_c _ W _ _ xs (zA2 hb0pp hbpp) hx6 hx0) ?_
 refine hQ _ _ (ba (.inl rfl) hbel (x1:=.agg [iV W,iV Hh,.sl (some (H.length+1,0)) xs.length none]) (l2:=[.cells true 1 (ints .u8 xs)]) (.agg [iV W,iV Hh,.sl (some (H.length,0)) xs.length none]) (aY results17) [] rfl [1] (by decide) ⟨rfl,rfl⟩ ?_)
 exact aJ
theorem lvol_c (H:aa)(W Hh:Int)(pp:AV)(xs:List Int)(s:AV)(l:List T6)(tu le sl ra:Int)(lost:Bool)(bz:Nat)(hpp:zI H pp xs)(hs:Sl H 6 s l.length (r6 l))(hz:∃o,H[bz]? = some (.cells o 0 [iV W,iV Hh,pp,s,iV tu,iV le,iV sl,iV ra,.bool lost]))(hl16:l.length<=16)(hl0:0<l.length):zC 27 [.ptr (some (bz,0))] H (iV (volS l l.length)) H:=by
 obtain⟨bpp,opp,cpp,rfl,hbpp,hblpp,hb0pp⟩:=zA1 hpp
 obtain⟨bs,os,cs,rfl,hbs,hbls,hb0s⟩:=zA1 hs
 obtain⟨oz,hbz⟩:=hz
 have hblz:=getElem?_lt hbz
 have hb0z:=fun l=>am (l:=l) hbz
 refine AcT true func27 ?_;intro hbel Q hQ
 have G4:=jn @hbpp (jn @hb0pp (jn @hbs (jn @hb0s (jn @hbz (jn @hb0z @Option.isNone_some.{0})))))
 refine ae G4 ?_
 refine cvr G4 (ot _ W Hh _ xs _ l tu le sl ra lost _ (zA2 hb0pp hbpp) (zA2 hb0s hbs) ⟨_,by exact hbz⟩ hl16 hl0) ?_
 refine glp (fun k F Hx=>∃i:Nat,i+k=l.length/\F=[(3,iV (volS l i)),(7,.sl (some (H.length,0)) l.length none),(8,iV (l.length:Int)),(9,iV (i:Int))]/\Hx=H++[.cells true 6 (r6 l)]) (l.length) ?_ ?_
 ·refine⟨_,_,_,⟨0,by omega,rfl,rfl⟩,bS hbel [0] (aC (jn @volS.eq_1 (jn @bR (jn @bG (jn @cB @bY)))))⟩
 rintro k0 F Hx ⟨i,hm0,rfl,rfl⟩ J0 hJ0
 have G5:=jn @cN (jn @gt G4)
 refine rcs G5 (fun h1 h1d _=>?_) (fun h1 h1d G7=>?_)
 ·have hlt:i<l.length:=by omega
  have hvb:=volI_bd (g61 l i,g62 l i,g63 l i,g64 l i,g65 l i,g66 l i)
  have hvs:=volS_bd l i
  have hve:ej (g61 l i,g62 l i,g63 l i,g64 l i,g65 l i,g66 l i)=ej (g6 l i):=rfl
  have q2:=dK (l:=l) (j:=i) (by omega)
  have G6:=jn h1 (jn h1d (jn q2 G5))
  refine ae G6 ?_
  refine cvr G6 (vol_c _ _ _ _ _ _ _) ?_
  refine hJ0 _ _ ⟨k0-1,by omega,_,_,_,⟨i+1,by omega,rfl,rfl⟩,bS hbel [0] (aC (jn @volS.eq_2 (jn @hve (jn @bR (jn @bG (jn @cB @bY))))))⟩
 obtain rfl:i=l.length:=by omega
 exact eR G7 hQ hbel (iV (volS l l.length)) results27 ⟨rfl,rfl⟩
theorem iF {α:Type}{H l:List α}{x:α}{b:Nat}(h:b<H.length):(H++l).set b x=H.set b x++l:=List.set_append_left _ _ h
theorem jq {α:Type}{H l:List α}{x:α}{b:Nat}(h:b<H.length):(H.set b x++l)[b]? = some x:=by
 rw[List.getElem?_append_left (by rw[List.length_set];exact h),List.getElem?_set_self h]
theorem iG {α:Type}{H:List α}{x:α}{b:Nat}(h:b<H.length):(H.set b x)[b]? = some x:=List.getElem?_set_self h
theorem gV {α:Type}{H l:List α}{x y:α}{b:Nat}(h:b<H.length):(H.set b x++l).set b y=H.set b y++l:=by
 rw[iF (by rw[List.length_set];exact h),List.set_set]
theorem jH {α:Type}{H l:List α}{x:α}{b k:Nat}:(H.set b x++l)[H.length+k]? = l[k]? :=by
 rw[List.getElem?_append_right (by rw[List.length_set];omega),List.length_set];congr 1;omega
theorem kr {α:Type}{H l:List α}{x:α}{b:Nat}:(H.set b x++l)[H.length]? = l[0]? :=jH (k:=0)
theorem jI {α:Type}{H l:List α}{x y:α}{b k:Nat}:(H.set b x++l).set (H.length+k) y=H.set b x++l.set k y:=by
 rw[List.set_append_right _ _ (by rw[List.length_set];omega),List.length_set];congr 2;omega
theorem ku {α:Type}{H l:List α}{x y:α}{b:Nat}:(H.set b x++l).set H.length y=H.set b x++l.set 0 y:=jI (k:=0)
theorem Abs0.put {n:Nat}{σ:Nat->Nat}{F1 F2:Fr}{H1 H2:aa}(h:Abs0 n σ F1 H1 F2 H2)(hs:∀c,n<=c->n<=σ c)(hi:∀b,σ b<H1.length->b<H2.length)(ho:∀(b:Nat) (x:ABlk),H2[b]? = some x->x.owned=true->∃x',H1[σ b]? = some x'/\x'.owned=true){bf:Nat}(hb:bf<n)(hd:H1[bf]? = some .dead)(y:ABlk):Abs0 n σ F1 (H1.set bf (y.mv σ)) F2 (H2.set bf y):=by
 have lt1:bf<H1.length:=getElem?_lt hd
 have lt2:bf<H2.length:=Nat.lt_of_lt_of_le hb h.len
 have hsb:∀c,c≠bf->σ c≠bf:=fun c hc=>by
  by_cases hcn:c<n
  ·rw[h.small c hcn];exact hc
  have:=hs c (by omega);omega
 have own:∀(b:Nat) (x:ABlk),(H2.set bf y)[b]? = some x->x.owned=true->∃x',(H1.set bf (y.mv σ))[σ b]? = some x'/\x'.owned=true:=fun b x hx ox=>by
  by_cases e:bf=b
  ·subst e
   rw[List.getElem?_set_self lt2] at hx;injection hx with hx;subst hx
   rw[h.small _ hb,List.getElem?_set_self lt1]
   exact⟨_,rfl,by cases y<;>exact ox⟩
  rw[List.getElem?_set_ne e] at hx
  rw[List.getElem?_set_ne (hsb b (fun k=>e k.symm)).symm]
  exact ho b x hx ox
 refine⟨h.small,by rw[List.length_set];exact h.len,fun E E' e1 e2 e3 t v hv=>h.frame E E' (by rw[e1,List.length_set]) (by rw[e2,List.length_set]) e3 t v hv,fun E E' e1 e2 eB e3 w hw b x hx=>?_,fun b c x z hx hz ox oz hbc=>⟨?_,own b x hx ox,own c z hz oz⟩⟩
 ·rw[List.length_set] at e1 e2
  by_cases e:bf=b
  ·subst e
   rw[List.getElem?_set_self lt2] at hx;injection hx with hx;subst hx
   have k:=hw bf _ (List.getElem?_set_self lt1)
   rw[e3,h.small _ hb]
   exact nV eB e3 (fun b hb=>by rw[e2];exact hi b (by rw[<-e1];exact hb)) k
  rw[List.getElem?_set_ne e] at hx
  refine h.heap E E' e1 e2 eB e3 w (fun c z hz=>?_) b x hx
  by_cases e':bf=c
  ·subst e';rw[hd] at hz;injection hz with hz;subst hz;trivial
  exact hw c z (by rw[List.getElem?_set_ne e'];exact hz)
 by_cases e:bf=b
 ·subst e;rw[h.small _ hb];exact(hsb c (fun k=>hbc k.symm)).symm
 by_cases e':bf=c
 ·subst e';rw[h.small _ hb];exact hsb b (fun k=>e k.symm)
 rw[List.getElem?_set_ne e] at hx
 rw[List.getElem?_set_ne e'] at hz
 exact(h.inj b c x z hx hz ox oz hbc).1
theorem Abs.byP {H M l1 l2:aa}{F1 F2:Fr}{bf:Nat}{b1:ABlk}(b2:ABlk) (hbel:HBel H.length H) (hbf:bf<H.length) (hM:M=H.set bf b1++l1) (G:aa) (hG:G.all gW=true) (sel:List Nat) (hnd:sel.Nodup)
  (h:fw (H.length+(l1++G).length) (sig H.length (l1++G).length sel) F1 F2/\b1=b2.mv (sig H.length (l1++G).length sel)/\fF (H.length+(l1++G).length) (sig H.length (l1++G).length sel) (l1++G) sel l2):Abs H.length (sig H.length (l1++G).length sel) F1 M F2 (H.set bf b2++l2):=by
 subst hM
 obtain⟨hF,hb,ha⟩:=h
 have hl:=(gF ha).1
 have hH:=(gF ha).2
 have hn:(H.set bf .dead).length=H.length:=List.length_set
 have hbel2:HBel H.length (H.set bf .dead):=fun b x hx=>by
  by_cases e:bf=b
  ·subst e;rw[List.getElem?_set_self hbf] at hx;injection hx with hx;subst hx;rfl
  rw[List.getElem?_set_ne e] at hx;exact hbel b x hx
 have k:=Abs0.of (n:=H.length) (H0:=H.set bf .dead) (l1:=l1++G) (l2:=l2) (F1:=F1) (F2:=F2) hn hbel2 sel hnd (ne hF) hl hH
 have small:∀b,b<H.length->sig H.length (l1++G).length sel b=b:=fun b hb=>by simp[sig,hb]
 have k2:=k.put (bf:=bf) (fun c hc=>by
   unfold sig
   rw[if_neg (by omega)]
   split<;>omega) (fun b hb=>by
   simp only[List.length_append,List.length_set] at hb ⊢
   unfold sig at hb
   split at hb
   ·omega
   ·split at hb
    ·rename_i q;have:=getElem?_lt q;omega
    omega) (fun b x hx ho=>by
   by_cases hbn:b<H.length
   ·rw[small b hbn,List.getElem?_append_left (by rw[hn];exact hbn)]
    rw[List.getElem?_append_left (by rw[hn];exact hbn)] at hx
    exact⟨x,hx,ho⟩
   rw[List.getElem?_append_right (by rw[hn];omega),hn] at hx
   have hlt:=getElem?_lt hx
   have h1:sel[b-H.length]? = some (sel[b-H.length]'(by omega)):=List.getElem?_eq_getElem _
   have h2:sig H.length (l1++G).length sel b=H.length+sel[b-H.length]'(by omega):=by unfold sig;rw[if_neg hbn,h1]
   rw[h2,List.getElem?_append_right (by rw[hn];omega),hn,show ∀i:Nat,H.length+i-H.length=i from fun i=>by omega]
   rcases hH _ _ x h1 hx with rfl|h4|h4
   ·cases ho
   ·exact⟨_,h4,by cases x<;>exact ho⟩
   exact h4.own (by cases x<;>exact ho)) hbf (by rw[List.getElem?_append_left (by rw[hn];exact hbf)];exact List.getElem?_set_self hbf) b2
 rw[gV hbf,gV hbf,<-hb,<-List.append_assoc] at k2
 exact⟨G,hG,k2⟩
theorem mL {P:Program}{fn:Func}{H M l1 l2:aa}{bf:Nat}{b1:ABlk}(b2:ABlk) {R:AV->aa->Prop}{F:Fr}{e:Exit}(he:e=.ret\/e=.normal) (hbel:HBel H.length H) (hbf:bf<H.length) (hM:M=H.set bf b1++l1) {x1:AV}(x2:AV) (hx:dh P fn F M=some x1) (G:aa) (hG:G.all gW=true) (sel:List Nat) (hnd:sel.Nodup) (hR:R x2 (H.set bf b2++l2))
  (h:W (H.length+(l1++G).length) x1 (x2.mv (sig H.length (l1++G).length sel))/\b1=b2.mv (sig H.length (l1++G).length sel)/\fF (H.length+(l1++G).length) (sig H.length (l1++G).length sel) (l1++G) sel l2):AEnd P fn H.length R e F M:=by
 have kk:=Abs.byP (F1:=[(0,x1)]) (F2:=[(0,x2)]) b2 hbel hbf hM G hG sel hnd ⟨⟨h.1,trivial⟩,h.2⟩
 rcases he with rfl|rfl
 ·exact⟨x1,hx,_,x2,_,hR,kk⟩
 exact⟨x1,hx,_,x2,_,hR,kk⟩
theorem boxes_p (H:aa)(s:AV)(l:List T6)(t g tu le sl ra:Int)(still:Bool)(hs:Sl H 6 s l.length (r6 l))(hS:cw l=true)(hl0:0<l.length)(hC:cM t g=true)(hB:bM tu le sl ra=true)(hA:imA l t (stF still g) tu le sl=true):zC 40 [s,.agg [iV t,iV g],.agg [iV tu,iV le,iV sl,iV ra],.bool still] H (.tup [.sl (some (H.length,0)) ((imS l t (stF still g) tu le sl l.length).length) none,iV 0]) (H++[.cells true 6 (r6 (imS l t (stF still g) tu le sl l.length))]):=by
 have k:=boxes_y H s l t g tu le sl ra still hs hS hC hB hA
 rw[lE (by rw[gl];exact hl0),fc (by rw[gl];exact hl0)] at k
 exact k
theorem lmv_y (H:aa)(W Hh:Int)(pp:AV)(xs:List Int)(s:AV)(l:List T6)(tu le sl ra:Int)(bz:Nat)(t g:Int)(still:Bool)(hpp:zI H pp xs)(hs:Sl H 6 s l.length (r6 l))(hz:H[bz]? = some (.cells true 0 [iV W,iV Hh,pp,s,iV tu,iV le,iV sl,iV ra,.bool false]))(hS:cw l=true)(hl0:0<l.length)(hC:cM t g=true)(hB:bM tu le sl ra=true)(hA:imA l t (stF still g) tu le sl=true):zC 11 [.ptr (some (bz,0)),.agg [iV t,iV g],.bool still] H (iV 0) (H.set bz (.cells true 0 [iV W,iV Hh,pp,.sl (some (H.length,0)) ((imS l t (stF still g) tu le sl l.length).length) none,iV tu,iV le,iV sl,iV ra,.bool false])++[.cells true 6 (r6 (imS l t (stF still g) tu le sl l.length))]):=by
 obtain⟨bpp,opp,cpp,rfl,hbpp,hblpp,hb0pp⟩:=zA1 hpp
 obtain⟨bs,os,cs,rfl,hbs,hbls,hb0s⟩:=zA1 hs
 have hbz:=hz
 have hblz:=getElem?_lt hbz
 have hb0z:=fun l=>am (l:=l) hbz
 refine AcT false func11 ?_;intro hbel Q hQ
 have G1:=jn @hbpp (jn @hb0pp (jn @hbs (jn @hb0s (jn @hbz (jn @hb0z (jn @hC (jn @hB (jn @hA @Option.isNone_some.{0}))))))))
 refine ae G1 ?_
 refine cvr G1 (lP _ t g) ?_
 rcases Bool.eq_false_or_eq_true (imA l t (stF still g) tu le sl) with h1|h1
 ·have h1d:=h1
  refine cx (boxes_p _ _ l t g _ _ _ _ _ (zA2 hb0s hbs) (by assumption) hl0 hC hB hA) ?_
  have G2:=jn h1 (jn h1d (jn @hblz (jn @gV (jn @iF (jn @jq (jn @iG (jn @jH (jn @kr (jn @jI (jn @ku (jn @List.length_set.{0} (jn @List.set_set.{0} G1))))))))))))
  refine ae G2 ?_
  refine hQ _ _ (mL (b1:=.cells true 0 [iV W,iV Hh,.sl (some (bpp,0)) xs.length cpp,.sl (some (H.length+1,0)) ((imS l t (stF still g) tu le sl l.length).length) none,iV tu,iV le,iV sl,iV ra,.bool false]) (.cells true 0 [iV W,iV Hh,.sl (some (bpp,0)) xs.length cpp,.sl (some (H.length,0)) ((imS l t (stF still g) tu le sl l.length).length) none,iV tu,iV le,iV sl,iV ra,.bool false]) (l1:=[.cells true 0 [iV t,iV g],.cells true 6 (r6 (imS l t (stF still g) tu le sl l.length))]) (l2:=[.cells true 6 (r6 (imS l t (stF still g) tu le sl l.length))]) (.inl rfl) hbel hblz (by rfl) (x1:=iV 0) (iV 0) (aY results11) [] rfl [1] (by decide) ⟨rfl,rfl⟩ ?_)
  exact aS (jn @bY (jn @hblpp (jn @hbls @hblz)))
 have h1d:=h1
 exact absurd (hA.symm.trans h1d) (by decide)
theorem lmv_s (H:aa)(W Hh:Int)(pp:AV)(xs:List Int)(s:AV)(l:List T6)(tu le sl ra:Int)(bz:Nat)(t g:Int)(still:Bool)(hpp:zI H pp xs)(hs:Sl H 6 s l.length (r6 l))(hz:∃o,H[bz]? = some (.cells o 0 [iV W,iV Hh,pp,s,iV tu,iV le,iV sl,iV ra,.bool true]))(hC:cM t g=true):zC 11 [.ptr (some (bz,0)),.agg [iV t,iV g],.bool still] H (iV 9) H:=by
 obtain⟨bpp,opp,cpp,rfl,hbpp,hblpp,hb0pp⟩:=zA1 hpp
 obtain⟨bs,os,cs,rfl,hbs,hbls,hb0s⟩:=zA1 hs
 obtain⟨oz,hbz⟩:=hz
 have hblz:=getElem?_lt hbz
 have hb0z:=fun l=>am (l:=l) hbz
 refine AcT true func11 ?_;intro hbel Q hQ
 have G6:=jn @hbpp (jn @hb0pp (jn @hbs (jn @hb0s (jn @hbz (jn @hb0z (jn @hC @Option.isNone_some.{0}))))))
 refine ae G6 ?_
 refine cvr G6 (lP _ t g) ?_
 exact eP hQ hbel (iV 9) results11 ⟨rfl,rfl⟩
theorem lrs_y (H:aa)(W Hh:Int)(pp:AV)(xs:List Int)(s:AV)(l:List T6)(tu le sl ra:Int)(lost:Bool)(bz:Nat)(q:AV)(m:List T6)(hpp:zI H pp xs)(hs:Sl H 6 s l.length (r6 l))(hz:H[bz]? = some (.cells true 0 [iV W,iV Hh,pp,s,iV tu,iV le,iV sl,iV ra,.bool lost]))(hq:Sl H 6 q m.length (r6 m))(hm:lsB m=true):zC 30 [.ptr (some (bz,0)),q] H (iV 0) (H.set bz (.cells true 0 [iV W,iV Hh,pp,.sl (some (H.length,0)) m.length none,iV tu,iV le,iV sl,iV ra,.bool false])++[.cells true 6 (r6 m)]):=by
 obtain⟨bpp,opp,cpp,rfl,hbpp,hblpp,hb0pp⟩:=zA1 hpp
 obtain⟨bs,os,cs,rfl,hbs,hbls,hb0s⟩:=zA1 hs
 obtain⟨bq,oq,cq,rfl,hbq,hblq,hb0q⟩:=zA1 hq
 have hbz:=hz
 have hblz:=getElem?_lt hbz
 have hb0z:=fun l=>am (l:=l) hbz
 have hmm:=pf.1 hm
 have hm16:=(bN.1 hmm.2).1
 have hm0:=hmm.1
 refine AcT false func30 ?_;intro hbel Q hQ
 have G8:=jn @hbpp (jn @hb0pp (jn @hbs (jn @hb0s (jn @hbq (jn @hb0q (jn @hbz (jn @hb0z (jn @hm @Option.isNone_some.{0}))))))))
 refine ae G8 ?_
 refine cvr G8 (lvset_c _ _ m (zA2 hb0q hbq) (by omega)) ?_
 refine cv (k8 _ _ m (zA2 hb0q hbq) (by omega) (by omega)) ?_
 have G9:=jn @hblz (jn @gV (jn @iF (jn @jq (jn @iG (jn @jH (jn @kr (jn @jI (jn @ku (jn @List.length_set.{0} (jn @List.set_set.{0} G8))))))))))
 refine ae G9 ?_
 refine hQ _ _ (mL (b1:=.cells true 0 [iV W,iV Hh,.sl (some (bpp,0)) xs.length cpp,.sl (some (H.length,0)) m.length none,iV tu,iV le,iV sl,iV ra,.bool false]) (.cells true 0 [iV W,iV Hh,.sl (some (bpp,0)) xs.length cpp,.sl (some (H.length,0)) m.length none,iV tu,iV le,iV sl,iV ra,.bool false]) (l1:=[.cells true 6 (r6 m)]) (l2:=[.cells true 6 (r6 m)]) (.inl rfl) hbel hblz (by rfl) (x1:=iV 0) (iV 0) (aY results30) [] rfl [0] (by decide) ⟨rfl,rfl⟩ ?_)
 exact aS (jn @bY (jn @hblpp (jn @hbls (jn @hblz @hblq))))

theorem Ints.drew {w:World}{k:IntKind}{A:Option Addr}{xs:List Int}(h:Ints w k A xs):Ints w.drew k A xs:=h

theorem bxInfo:(Tryz.prog.info? 39).map (fun i=>(i.zero,i.size,i.bytes))=some (some (.agg #[.int .i64 0,.int .i64 0,.int .i64 0,.int .i64 0,.int .i64 0,.int .i64 0]),6,48):=by kernel_rfl
theorem qs (z:Array Value):(Builtin.zeroCells z 1).toList=z.toList:=by
 simp only[Builtin.zeroCells,Nat.one_mul]
 apply List.ext_getElem
 ·simp
 intro i h1 h2
 simp only[Array.toList_map,Array.toList_range,List.getElem_map,List.getElem_range,Array.getElem_toList]
 have h3:i<z.size:=by simpa using h2
 rw[Nat.mod_eq_of_lt h3,getElem!_pos z i h3]
theorem run_clear1 {P:Program}(w:World) (t e ty:TypeId) (z:Value) (ht:P.underlying t=some (.slice e)) (hv:(zeroValue e).run P w=.ok z w) (h1:∀v∈z.cells.toList,v.oneCell'=true) (b o c:Nat)
  (hc:∀j,j<z.cells.toList.length->(w.cell? ⟨b,o+j,none⟩).isSome=true) (hf:∀j,j<z.cells.toList.length->w.frozen? ⟨b,o+j,none⟩=false) :
  (Builtin.clear_ #[t] ty #[.slice (some ⟨b,o,none⟩) 1 c]).run P w=.ok (.tuple #[]) (w.setCells b o z.cells.toList):=by
 have hst:=run_storeCells_cells (P:=P) b o z.cells.toList 0 w hc hf h1
 simp only[Nat.add_zero] at hst
 simp[Builtin.clear_,run_underlying ht,hv,qs,hst]
set_option maxHeartbeats 4000000 in
set_option maxRecDepth 1000000 in
theorem del_w (g off cap n i j:Nat) (w:World) (news:List Value) (hl:news.length=(n-j)*6) (hnews:∀t u,news[t]? = some u->w.cell? ⟨g,off+j*6+t,none⟩=some u) (h1:∀u∈news,u.oneCell'=true) (hc:∀t,t<n*6->(w.cell? ⟨g,off+t,none⟩).isSome=true/\w.frozen? ⟨g,off+t,none⟩=false) (hi:i<n) (hj1:j=i+1) (hn:n<=cap) (hm:cap<=9223372036854775807)
  (W1:World) (hW1:W1=w.drew.setCells g (off+i*6) news) (hc1:∀t,t<n*6->(W1.cell? ⟨g,off+t,none⟩).isSome=true/\W1.frozen? ⟨g,off+t,none⟩=false) :
  Calls Tryz.prog 80 #[.slice (some ⟨g,off,none⟩) n cap,.int .i64 (i:Int),.int .i64 (j:Int)] w fun e w'=>e=.returned (.slice (some ⟨g,off,none⟩) (i+(n-j)) cap)/\w'=W1.setCells g (off+(i+(n-j))*6) (List.replicate 6 (.int .i64 0)):=by
 obtain⟨i0,hi0,hz0,hz1,hz2⟩:=info_parts bxInfo
 obtain ⟨A,hA,hsrc⟩:∃A:Addr,(if cap=j then (some (⟨g,off,none⟩:Addr)) else some ⟨g,off+j*6,none⟩)=some A/\Hid (∀t u,news[t]? = some u->w.drew.cell? (A.add t)=some u):=by
  by_cases h:cap=j
  ·refine⟨⟨g,off,none⟩,by simp[h],fun t u hu=>?_⟩
   have h0:news.length=0:=by rw[hl];omega
   rw[List.length_eq_zero_iff.1 h0] at hu
   simp at hu
  refine⟨⟨g,off+j*6,none⟩,by simp[h],fun t u hu=>?_⟩
  rw[Addr.add_lit]
  exact hnews t u hu
 have s1:Hid (news.length=(n-j)*6):=hl
 have s2:Hid (∀u∈news,u.oneCell'=true):=h1
 have s3:Hid (∀t,t<news.length->(w.drew.cell? ⟨g,off+i*6+t,none⟩).isSome=true/\w.drew.frozen? ⟨g,off+i*6+t,none⟩=false):=by
  intro t ht
  rw[hl] at ht
  have:=hc (i*6+t) (by omega)
  rw[<-Nat.add_assoc] at this
  exact this
 have hcl:∀ty,(Builtin.clear_ #[45] ty #[.slice (some ⟨g,off+(i+(n-j))*6,none⟩) (n-(i+(n-j))) (cap-(i+(n-j)))]).run Tryz.prog W1=.ok (.tuple #[]) (W1.setCells g (off+(i+(n-j))*6) (List.replicate 6 (.int .i64 0))):=fun ty=>by
  have hzv:(zeroValue 39).run Tryz.prog W1=.ok (.agg #[.int .i64 0,.int .i64 0,.int .i64 0,.int .i64 0,.int .i64 0,.int .i64 0]) W1:=by simp[zeroValue,typeInfo,hi0,hz0]
  have hzl:(Value.agg #[.int .i64 0,.int .i64 0,.int .i64 0,.int .i64 0,.int .i64 0,.int .i64 0]).cells.toList=List.replicate 6 (.int .i64 0):=rfl
  have k:=run_clear1 (P:=Tryz.prog) W1 45 39 ty (.agg #[.int .i64 0,.int .i64 0,.int .i64 0,.int .i64 0,.int .i64 0,.int .i64 0]) Tryz.underlying45 hzv (by rw[hzl];intro v hv;rw[List.eq_of_mem_replicate hv];rfl) g (off+(i+(n-j))*6) (cap-(i+(n-j))) (fun t ht=>by rw[hzl,List.length_replicate] at ht;rw[Nat.add_assoc];exact(hc1 _ (by omega)).1) (fun t ht=>by rw[hzl,List.length_replicate] at ht;rw[Nat.add_assoc];exact(hc1 _ (by omega)).2)
  rw[hzl] at k
  rw[show n-(i+(n-j))=1 by omega]
  exact k
 have hW:Hid (W1=w.drew.setCells g (off+i*6) news):=hW1
 have hHi:=hid hi0
 have hHz:=hid hz1
 have hij:i<=j:=by omega
 have hne:¬(i=j):=by omega
 have hj:j<=n:=by omega
 have hic:i<=cap:=by omega
 have hjc:j<=cap:=by omega
 have hlt:i<j:=by omega
 have hr:=hid hj1
 clear hW1 hnews hl hc hc1 hi0 hz0 hz1 hz2 hj1
 go_enter Tryz.func80,Tryz.ntmps80
 go_wp2_with fail
 go_region_law (refine step_append_room rfl (.tmp 22) (.tmp 25) 45 rfl 39 i0 6 Tryz.underlying45 hHi.out hHz.out g off i cap (by simp[Act.eval,Act.put]) A (n-j) (cap-j) news (by simp[Act.eval,Act.put]) s1.out hsrc.out s2.out (by omega) s3.out ?_;rw[<-hW.out])
 go_wp2
 go_ret
 exact⟨rfl,rfl⟩
theorem sG {E:Env}{b o n:Nat}{cap:Option Nat}{v:Value}(h:Rel E (.sl (some (b,o)) n cap) v)(hn:0<n):∃c,v=.slice (some ⟨(E.loc b).blk,(E.loc b).off+o,none⟩) n c/\b<E.n/\n<=c/\c<=maxLen/\o+c*(E.loc b).es<=(E.loc b).sz:=by
 generalize hx:AV.sl (some (b,o)) n cap=x at h
 cases h with
 |nils b' cap' hb hc=>cases hx;omega
 | sl b' o' len cap' c a h0 h1 h2 h3 h4 h5 =>
  cases hx
  rcases h4 with h4|h4
  ·omega
  subst h4;exact⟨c,rfl,h0,h1,h2,h5⟩
 |_=>cases hx
theorem qm:∀(ys xs:List AV) (o:Nat),o+ys.length<=xs.length->splice xs o ys=xs.take o++ys++xs.drop (o+ys.length)
 | [],xs,o,h=>by
  rw[splice,List.append_nil,List.length_nil,Nat.add_zero,List.take_append_drop]
 | y::ys,xs,o,h=>by
  simp only[List.length_cons] at h
  rw[splice,qm ys _ _ (by rw[List.length_set];omega)]
  have ho:o<xs.length:=by omega
  rw[List.take_succ_eq_append_getElem (by simpa using ho),List.getElem_set_self,List.take_set_of_le (Nat.le_refl _),List.drop_set_of_lt (by omega),List.length_cons,show o+1+ys.length=o+(ys.length+1) by omega]
  simp
theorem r6_takeB {l:List T6}{j:Nat}:(r6 l).take (j*6)=r6 (l.take j):=by
 induction l generalizing j with
 |nil=>simp[cB]
 | cons p l ih =>
  cases j with
  |zero=>simp[cB]
  |succ j=>rw[bG,show (j+1)*6=j*6+1+1+1+1+1+1 by omega,List.take_succ_cons,List.take_succ_cons,List.take_succ_cons,List.take_succ_cons,List.take_succ_cons,List.take_succ_cons,ih];rfl
theorem r6_dropB {l:List T6}{j:Nat}:(r6 l).drop (j*6)=r6 (l.drop j):=by
 induction l generalizing j with
 |nil=>simp[cB]
 | cons p l ih =>
  cases j with
  |zero=>simp
  |succ j=>rw[bG,show (j+1)*6=j*6+1+1+1+1+1+1 by omega,List.drop_succ_cons,List.drop_succ_cons,List.drop_succ_cons,List.drop_succ_cons,List.drop_succ_cons,List.drop_succ_cons,ih];rfl
def r6z:List AV:=[.int .i64 0,.int .i64 0,.int .i64 0,.int .i64 0,.int .i64 0,.int .i64 0]
theorem r6_oneB:∀{l:List T6},(r6 l).all AV.one=true
 |[]=>rfl
 |p::l=>by rw[bG];simp only[List.all_cons,AV.one,Bool.true_and];exact r6_oneB
theorem del_b (H:aa)(b:Nat)(cap:Option Nat)(l:List T6)(z:Int)(hb:H[b]? = some (.cells true 6 (r6 l)))(h0:0<=z)(hz:z<(l.length:Int)):ACalls Tryz.prog 80 [.sl (some (b,0)) l.length cap,.int .i64 z,.int .i64 (z+1)] H (fun v H'=>v=.sl (some (b,0)) (l.take z.toNat++l.drop (z.toNat+1)).length none/\H'=H.set b (.cells true 6 (r6 (l.take z.toNat++l.drop (z.toNat+1))++r6z))):=by
 obtain⟨i,rfl⟩:∃i:Nat,z=(i:Int):=⟨z.toNat,by omega⟩
 rw[Int.toNat_natCast]
 have hi:i<l.length:=by omega
 intro E w vs hE hv
 match vs,hv with
 |[],hv=>exact absurd hv.1 (by simp)
 |[_],hv=>exact absurd hv.1 (by simp)
 |[_,_],hv=>exact absurd hv.1 (by simp)
 |_::_::_::_::_,hv=>exact absurd hv.1 (by simp)
 |[v0,v1,v2],hv =>
 obtain⟨r0,hv⟩:=hv.uncons
 obtain⟨r1,hv⟩:=hv.uncons
 obtain⟨r2,-⟩:=hv.uncons
 have e1:v1=.int .i64 (i:Int):=by cases r1;rfl
 have e2:v2=.int .i64 ((i+1:Nat):Int):=by cases r2;rfl
 subst e1 e2
 obtain⟨c,rfl,hbn,hnc,hcm,hsz⟩:=sG r0 (by omega)
 rw[Nat.add_zero]
 rw[Nat.zero_add] at hsz
 have hcells:∀{H':aa} {w':World} {ys:List AV},Emb E H' w'->H'[b]? = some (.cells true 6 ys)->∀t,t<l.length*6->ys.length=l.length*6->(w'.cell? ⟨(E.loc b).blk,(E.loc b).off+t,none⟩).isSome=true/\w'.frozen? ⟨(E.loc b).blk,(E.loc b).off+t,none⟩=false:=fun hE' hb' t ht hy=>by
  have k:=(hE'.blk b _ hb').2.1 rfl
  exact k.2.2.2.2 t (by omega)
 have hlen:(r6 (l.drop (i+1))).length=(l.length-(i+1))*6:=by rw[cN,List.length_drop]
 have hr:ards H b ((i+1)*6) ((l.length-(i+1))*6)=some (r6 (l.drop (i+1))):=by
  unfold ards;rw[hb]
  simp only
  rw[if_pos (.inl (by rw[cN];omega)),r6_dropB,List.take_of_length_le (by rw[hlen];omega)]
 obtain⟨o1,o2,ovs,o3,o4⟩:=fO hE hr
 have hol:ovs.length=(l.length-(i+1))*6:=by rw[<-o3.1,hlen]
 have hw1:awrite H b (i*6) (r6 (l.drop (i+1)))=some (H.set b (.cells true 6 (splice (r6 l) (i*6) (r6 (l.drop (i+1)))))):=by
  unfold awrite;rw[hb]
  simp only
  rw[if_pos ⟨by rw[hlen,cN];omega,r6_oneB⟩]
 obtain⟨x1,-,-,hE1⟩:=hE.drew.write o3 hw1
 have hblt:b<H.length:=getElem?_lt hb
 have hs1:splice (r6 l) (i*6) (r6 (l.drop (i+1)))=r6 (l.take i++l.drop (i+1))++(r6 l).drop ((l.length-1)*6):=by
  rw[qm _ _ _ (by rw[hlen,cN];omega),r6_takeB,bR,hlen,show i*6+(l.length-(i+1))*6=(l.length-1)*6 by omega]
 have hlA:(r6 (l.take i++l.drop (i+1))).length=(l.length-1)*6:=by rw[cN,List.length_append,List.length_take,List.length_drop];omega
 have hlB:((r6 l).drop ((l.length-1)*6)).length=6:=by rw[List.length_drop,cN];omega
 rw[hs1] at hE1
 have hb1:(H.set b (.cells true 6 (r6 (l.take i++l.drop (i+1))++(r6 l).drop ((l.length-1)*6))))[b]? = some (.cells true 6 (r6 (l.take i++l.drop (i+1))++(r6 l).drop ((l.length-1)*6))):=List.getElem?_set_self hblt
 have hw2:awrite (H.set b (.cells true 6 (r6 (l.take i++l.drop (i+1))++(r6 l).drop ((l.length-1)*6)))) b ((l.length-1)*6) r6z=some (H.set b (.cells true 6 (r6 (l.take i++l.drop (i+1))++r6z))):=by
  unfold awrite;rw[hb1]
  simp only
  rw[if_pos ⟨by rw[List.length_append,hlA,hlB];exact Nat.le_refl _,rfl⟩,List.set_set,jX _ _ _ (by rw[List.length_append,hlA,hlB];rfl),List.take_append_of_le_length (by rw[hlA];exact Nat.le_refl _),List.take_of_length_le (by rw[hlA];exact Nat.le_refl _)]
 have hz6:RelL E r6z (List.replicate 6 (.int .i64 0)):=.cons (.int _ _) (.cons (.int _ _) (.cons (.int _ _) (.cons (.int _ _) (.cons (.int _ _) (.cons (.int _ _) (.nil E))))))
 obtain⟨-,-,-,hE2⟩:=hE1.write hz6 hw2
 refine (del_w (E.loc b).blk (E.loc b).off c l.length i (i+1) w ovs hol (fun t u hu=>by
   exact o4 t u hu) x1 (fun t ht=>hcells hE hb t ht cN) hi rfl hnc hcm _ rfl (fun t ht=>hcells hE1 hb1 t ht (by rw[List.length_append,hlA,hlB];omega))).mono ?_
 rintro e w' ⟨rfl,rfl⟩
 refine⟨E,_,_,_,rfl,⟨rfl,rfl⟩,.refl E,?_,?_⟩
 ·have e3:(l.take i++l.drop (i+1)).length=i+(l.length-(i+1)):=by rw[List.length_append,List.length_take,List.length_drop];omega
  rw[e3]
  have k:=Rel.sl (E:=E) b 0 (i+(l.length-(i+1))) none c ⟨(E.loc b).blk,(E.loc b).off+0,none⟩ hbn (by omega) hcm (.inl rfl) (.inr rfl) (by rw[Nat.zero_add];exact hsz)
  rw[Nat.add_zero] at k
  exact k
 rw[show i+(l.length-(i+1))=l.length-1 by omega]
 exact hE2
theorem r6_set:∀{l:List T6}{j:Nat}{a b c d e f:Int},j<l.length->((((((r6 l).set (j*6) (iV a)).set (j*6+1) (iV b)).set (j*6+2) (iV c)).set (j*6+3) (iV d)).set (j*6+4) (iV e)).set (j*6+5) (iV f)=r6 (l.set j (a,b,c,d,e,f))
 |[],j,_,_,_,_,_,_,h=>by simp at h
 |p::l,0,_,_,_,_,_,_,_=>by simp[bG]
 | p::l,j+1,a,b,c,d,e,f,h=>by
  have ih:=r6_set (l:=l) (j:=j) (a:=a) (b:=b) (c:=c) (d:=d) (e:=e) (f:=f) (by simpa using h)
  have k:(j+1)*6=j*6+1+1+1+1+1+1:=by omega
  rw[bG,k]
  simp only[List.set_cons_succ]
  rw[bG,<-ih]
theorem BW_pre' {m e:Nat}{o:Bool}{ys zs:List AV}:BW m (some (.cells o e (ys++zs))) (.cells o e ys)=True:=eq_true BW.pre
theorem chp_c (H:aa)(s:AV)(l:List T6)(hs:Sl H 6 s l.length (r6 l))(hv:∀b∈l,bA b=true)(hl2:l.length<=256)(hl0:0<l.length):zC 79 [s] H (.tup [iV ((chO l l.length).1),iV ((chO l l.length).2.1),.agg [iV ((chO l l.length).2.2.2.1),iV ((chO l l.length).2.2.2.2.1),iV ((chO l l.length).2.2.2.2.2.1),iV ((chO l l.length).2.2.2.2.2.2.1),iV ((chO l l.length).2.2.2.2.2.2.2.1),iV ((chO l l.length).2.2.2.2.2.2.2.2)]]) H:=by
 obtain⟨bs,os,cs,rfl,hbs,hbls,hb0s⟩:=zA1 hs
 refine AcT true func79 ?_;intro hbel Q hQ
 have G1:=jn @hbs @hb0s
 refine ae G1 ?_
 refine glp (fun k F Hx=>∃i:Nat,i+k=l.length/\F=[(0,.sl (some (bs,0)) l.length cs),(4,.ptr (some (H.length,0))),(5,iV ((chO l i).1)),(6,iV ((chO l i).2.1)),(7,iV ((chO l i).2.2.1)),(8,.ptr (some (H.length+1,0))),(16,.sl (some (bs,0)) l.length cs),(17,iV (l.length:Int)),(18,iV (i:Int))]/\Hx=H++[.cells true 0 [iV 0,iV 0,iV 0,iV 0,iV 0,iV 0],.cells true 0 [iV ((chO l i).2.2.2.1),iV ((chO l i).2.2.2.2.1),iV ((chO l i).2.2.2.2.2.1),iV ((chO l i).2.2.2.2.2.2.1),iV ((chO l i).2.2.2.2.2.2.2.1),iV ((chO l i).2.2.2.2.2.2.2.2)]]) (l.length) ?_ ?_
 ·refine⟨_,_,_,⟨0,by omega,rfl,rfl⟩,bS hbel [0,1] (aS @chO.eq_1)⟩
 rintro k0 F Hx ⟨i,hm0,rfl,rfl⟩ J0 hJ0
 refine rcs G1 (fun h1 h1d _=>?_) (fun h1 h1d G9=>?_)
 ·have hlt:i<l.length:=by omega
  have hva:bxB (g61 l i) (g62 l i) (g63 l i) (g64 l i) (g65 l i) (g66 l i)=true:=hv _ (cQ hlt)
  have hcb:=chO_bd (l:=l) (n:=i) (by omega)
  have q2:=dK (l:=l) (j:=i) (by omega)
  have G2:=jn h1 (jn h1d (jn @cN (jn q2 G1)))
  refine ae G2 ?_
  refine glp (fun k F Hx=>∃j:Nat,j+k=l.length-(i+1)/\F=[(0,.sl (some (bs,0)) l.length cs),(4,.ptr (some (H.length,0))),(5,iV ((chR l i (chO l i) j).1)),(6,iV ((chR l i (chO l i) j).2.1)),(7,iV ((chR l i (chO l i) j).2.2.1)),(8,.ptr (some (H.length+1,0))),(9,iV (i:Int)),(10,.ptr (some (H.length+2,0))),(16,.sl (some (bs,0)) l.length cs),(17,iV (l.length:Int)),(18,iV (i:Int)),(26,.sl (some (bs,(i+1)*6)) (l.length-(i+1)) none),(27,iV ((l.length-(i+1):Nat):Int)),(28,iV (j:Int))]/\Hx=H++[.cells true 0 [iV 0,iV 0,iV 0,iV 0,iV 0,iV 0],.cells true 0 [iV ((chR l i (chO l i) j).2.2.2.1),iV ((chR l i (chO l i) j).2.2.2.2.1),iV ((chR l i (chO l i) j).2.2.2.2.2.1),iV ((chR l i (chO l i) j).2.2.2.2.2.2.1),iV ((chR l i (chO l i) j).2.2.2.2.2.2.2.1),iV ((chR l i (chO l i) j).2.2.2.2.2.2.2.2)],.cells true 0 [iV (g61 l i),iV (g62 l i),iV (g63 l i),iV (g64 l i),iV (g65 l i),iV (g66 l i)]]) (l.length-(i+1)) ?_ ?_
  ·refine⟨_,_,_,⟨0,by omega,rfl,rfl⟩,bS hbel [0,1,2] (aS @chR.eq_1)⟩
  rintro k1 F Hx ⟨j,hm1,rfl,rfl⟩ J1 hJ1
  refine rcs G2 (fun h3 h3d _=>?_) (fun h3 h3d G8=>?_)
  ·have hkt:j<l.length-(i+1):=by omega
   have hvb:bxB (g61 l (i+1+j)) (g62 l (i+1+j)) (g63 l (i+1+j)) (g64 l (i+1+j)) (g65 l (i+1+j)) (g66 l (i+1+j))=true:=hv _ (cQ (by omega))
   have hsfo:(i+1)*6+j*6=(i+1+j)*6:=by omega
   have hrb:=chR_bd (l:=l) (n:=i) (k:=j) (by omega) (by omega)
   have hv1:=ko (mnI (g61 l i) (g61 l (i+1+j)),mnI (g62 l i) (g62 l (i+1+j)),mxI (g63 l i) (g63 l (i+1+j)),mxI (g64 l i) (g64 l (i+1+j)),(cT (g65 l i) (g66 l i) (g65 l (i+1+j)) (g66 l (i+1+j))).1,(cT (g65 l i) (g66 l i) (g65 l (i+1+j)) (g66 l (i+1+j))).2)
   have hv2:=ko ((g61 l i),(g62 l i),(g63 l i),(g64 l i),(g65 l i),(g66 l i))
   have hv3:=ko ((g61 l (i+1+j)),(g62 l (i+1+j)),(g63 l (i+1+j)),(g64 l (i+1+j)),(g65 l (i+1+j)),(g66 l (i+1+j)))
   have q4:=dK (l:=l) (j:=i+1+j) (by omega)
   have G3:=jn h3 (jn h3d (jn @hsfo (jn q4 G2)))
   refine ae G3 ?_
   refine cvr G3 (bhull_c _ _ _ _ _ _ _ _ _ _ _ _ _ (by assumption) (by assumption)) ?_
   refine cdr G3 (vol_c _ _ _ _ _ _ _) ?_
   refine cdr G3 (vol_c _ _ _ _ _ _ _) ?_
   refine cd (vol_c _ _ _ _ _ _ _) ?_
   refine rgs G3 (fun h5 h5d G4=>?_) (fun h5 h5d G7=>?_)
   ·have hk5:=h5d
    refine rcs G4 (fun h6 h6d G5=>?_) (fun h6 h6d G6=>?_)
    ·have hU:chU l i j (chR l i (chO l i) j)=((i:Int),(i:Int)+1+(j:Int),chN l i (i+1+j),ey (g6 l i) (g6 l (i+1+j))):=if_pos (.inr h6d)
     have hc1:(chU l i j (chR l i (chO l i) j)).1=(i:Int):=by rw[hU]
     have hc2:(chU l i j (chR l i (chO l i) j)).2.1=(i:Int)+1+(j:Int):=by rw[hU]
     have hc3:(chU l i j (chR l i (chO l i) j)).2.2.1=(((ej ((mnI (g61 l i) (g61 l (i+1+j))),(mnI (g62 l i) (g62 l (i+1+j))),(mxI (g63 l i) (g63 l (i+1+j))),(mxI (g64 l i) (g64 l (i+1+j))),((cT (g65 l i) (g66 l i) (g65 l (i+1+j)) (g66 l (i+1+j))).1),((cT (g65 l i) (g66 l i) (g65 l (i+1+j)) (g66 l (i+1+j))).2)))-(ej (g6 l i)))-(ej (g6 l (i+1+j)))):=by rw[hU];rfl
     have hd0:(chU l i j (chR l i (chO l i) j)).2.2.2.1=mnI (g61 l i) (g61 l (i+1+j)):=by rw[hU];rfl
     have hd1:(chU l i j (chR l i (chO l i) j)).2.2.2.2.1=mnI (g62 l i) (g62 l (i+1+j)):=by rw[hU];rfl
     have hd2:(chU l i j (chR l i (chO l i) j)).2.2.2.2.2.1=mxI (g63 l i) (g63 l (i+1+j)):=by rw[hU];rfl
     have hd3:(chU l i j (chR l i (chO l i) j)).2.2.2.2.2.2.1=mxI (g64 l i) (g64 l (i+1+j)):=by rw[hU];rfl
     have hd4:(chU l i j (chR l i (chO l i) j)).2.2.2.2.2.2.2.1=(cT (g65 l i) (g66 l i) (g65 l (i+1+j)) (g66 l (i+1+j))).1:=by rw[hU];rfl
     have hd5:(chU l i j (chR l i (chO l i) j)).2.2.2.2.2.2.2.2=(cT (g65 l i) (g66 l i) (g65 l (i+1+j)) (g66 l (i+1+j))).2:=by rw[hU];rfl
     refine ae G5 ?_
     refine hJ1 _ _ ⟨k1-1,by omega,_,_,_,⟨j+1,by omega,rfl,rfl⟩,bS hbel [0,1,2] (aS (jn @chR.eq_2 (jn @hc1 (jn @hc2 (jn @hc3 (jn @hd0 (jn @hd1 (jn @hd2 (jn @hd3 (jn @hd4 @hd5))))))))))⟩
    have hU:chU l i j (chR l i (chO l i) j)=(chR l i (chO l i) j):=if_neg (fun q=>q.elim (fun q=>hk5 q) (fun q=>absurd q h6d))
    refine ae G6 ?_
    refine hJ1 _ _ ⟨k1-1,by omega,_,_,_,⟨j+1,by omega,rfl,rfl⟩,bS hbel [0,1,2] (aS (jn @chR.eq_2 @hU))⟩
   have hU:chU l i j (chR l i (chO l i) j)=((i:Int),(i:Int)+1+(j:Int),chN l i (i+1+j),ey (g6 l i) (g6 l (i+1+j))):=if_pos (.inl h5d)
   have hc1:(chU l i j (chR l i (chO l i) j)).1=(i:Int):=by rw[hU]
   have hc2:(chU l i j (chR l i (chO l i) j)).2.1=(i:Int)+1+(j:Int):=by rw[hU]
   have hc3:(chU l i j (chR l i (chO l i) j)).2.2.1=(((ej ((mnI (g61 l i) (g61 l (i+1+j))),(mnI (g62 l i) (g62 l (i+1+j))),(mxI (g63 l i) (g63 l (i+1+j))),(mxI (g64 l i) (g64 l (i+1+j))),((cT (g65 l i) (g66 l i) (g65 l (i+1+j)) (g66 l (i+1+j))).1),((cT (g65 l i) (g66 l i) (g65 l (i+1+j)) (g66 l (i+1+j))).2)))-(ej (g6 l i)))-(ej (g6 l (i+1+j)))):=by rw[hU];rfl
   have hd0:(chU l i j (chR l i (chO l i) j)).2.2.2.1=mnI (g61 l i) (g61 l (i+1+j)):=by rw[hU];rfl
   have hd1:(chU l i j (chR l i (chO l i) j)).2.2.2.2.1=mnI (g62 l i) (g62 l (i+1+j)):=by rw[hU];rfl
   have hd2:(chU l i j (chR l i (chO l i) j)).2.2.2.2.2.1=mxI (g63 l i) (g63 l (i+1+j)):=by rw[hU];rfl
   have hd3:(chU l i j (chR l i (chO l i) j)).2.2.2.2.2.2.1=mxI (g64 l i) (g64 l (i+1+j)):=by rw[hU];rfl
   have hd4:(chU l i j (chR l i (chO l i) j)).2.2.2.2.2.2.2.1=(cT (g65 l i) (g66 l i) (g65 l (i+1+j)) (g66 l (i+1+j))).1:=by rw[hU];rfl
   have hd5:(chU l i j (chR l i (chO l i) j)).2.2.2.2.2.2.2.2=(cT (g65 l i) (g66 l i) (g65 l (i+1+j)) (g66 l (i+1+j))).2:=by rw[hU];rfl
   refine ae G7 ?_
   refine hJ1 _ _ ⟨k1-1,by omega,_,_,_,⟨j+1,by omega,rfl,rfl⟩,bS hbel [0,1,2] (aS (jn @chR.eq_2 (jn @hc1 (jn @hc2 (jn @hc3 (jn @hd0 (jn @hd1 (jn @hd2 (jn @hd3 (jn @hd4 @hd5))))))))))⟩
  obtain rfl:j=l.length-(i+1):=by omega
  refine ae G8 ?_
  refine hJ0 _ _ ⟨k0-1,by omega,_,_,_,⟨i+1,by omega,rfl,rfl⟩,bS hbel [0,1] (aS @chO.eq_2)⟩
 obtain rfl:i=l.length:=by omega
 exact eR G9 hQ hbel (.tup [iV ((chO l l.length).1),iV ((chO l l.length).2.1),.agg [iV ((chO l l.length).2.2.2.1),iV ((chO l l.length).2.2.2.2.1),iV ((chO l l.length).2.2.2.2.2.1),iV ((chO l l.length).2.2.2.2.2.2.1),iV ((chO l l.length).2.2.2.2.2.2.2.1),iV ((chO l l.length).2.2.2.2.2.2.2.2)]]) results79 ⟨rfl,rfl⟩
theorem del_n (H:aa)(b n:Nat)(cap:Option Nat)(l:List T6)(z:Int)(hn:n=l.length)(hb:H[b]? = some (.cells true 6 (r6 l)))(h0:0<=z)(hz:z<(l.length:Int)):zC 80 [.sl (some (b,0)) n cap,iV z,iV (z+1)] H (.sl (some (b,0)) (l.take z.toNat++l.drop (z.toNat+1)).length none) (H.set b (.cells true 6 (r6 (l.take z.toNat++l.drop (z.toNat+1))++r6z))):=by
 subst hn;exact del_b H b cap l z hb h0 hz
theorem comp_c (H:aa)(s:AV)(l:List T6)(hs:Sl H 6 s l.length (r6 l))(hl:l.length<=64)(hl0:0<l.length)(hv:∀b∈l,bA b=true):zC 44 [s,iV 16] H (.tup [.sl (some (H.length,0)) ((cpL l).length) none,iV 0]) (H++[.cells true 6 (r6 (cpL l))]):=by
 obtain⟨bs,os,cs,rfl,hbs,hbls,hb0s⟩:=zA1 hs
 have hny:l.any (fun b=>!bA b)=false:=List.any_eq_false.2 fun b hb=>by rw[hv b hb];decide
 refine AcT false func44 ?_;intro hbel Q hQ
 have G1:=jn @hbs (jn @hb0s @hny)
 refine rcs G1 (fun h1 h1d _=>?_) (fun h1 h1d G2=>?_)
 ·omega
 refine ae G2 ?_
 refine cvr G2 (ml _ _ l (zA2 hb0s hbs) (by omega) _ [] (by kernel_rfl) rfl (fun b=>!bA b) (fun j hj=>cmp1_c _ _ _ _ _ _ _)) ?_
 refine cvr G2 (k8 _ _ l (zA2 hb0s hbs) (by omega) (by omega)) ?_
 refine glp (fun k F Hx=>∃QQ:List T6,QQ.length=k/\(∀b∈QQ,bA b=true)/\0<QQ.length/\QQ.length<=64/\cpI (QQ.length-16) QQ=cpL l/\F=[(1,iV 16),(6,.sl (some (H.length,0)) QQ.length none)]/\Hx=H++[.cells true 6 (r6 QQ)]) (l.length) ?_ ?_
 ·refine⟨_,_,_,⟨l,by omega,hv,hl0,hl,rfl,rfl,rfl⟩,bS hbel [0] (aC (jn @bR (jn @bG (jn @cB @bY))))⟩
 rintro k0 F Hx ⟨QQ,hm0,hqv,hq0,hq6,hqc,rfl,rfl⟩ J0 hJ0
 have G3:=jn @cN (jn @gt G2)
 refine rcs G3 (fun h2 h2d G4=>?_) (fun h2 h2d G6=>?_)
 ·have hgt:16<QQ.length:=by omega
  obtain⟨ci,cj,hci,hcj,hc1,hc2,hc3⟩:=chO_p (l:=QQ) (by omega)
  have hsn:=mH (l:=QQ) (by omega)
  have hcs:List.take (chO QQ QQ.length).2.1.toNat (List.set QQ (chO QQ QQ.length).1.toNat ((chO QQ QQ.length).2.2.2.1,(chO QQ QQ.length).2.2.2.2.1,(chO QQ QQ.length).2.2.2.2.2.1,(chO QQ QQ.length).2.2.2.2.2.2.1,(chO QQ QQ.length).2.2.2.2.2.2.2.1,(chO QQ QQ.length).2.2.2.2.2.2.2.2))++List.drop ((chO QQ QQ.length).2.1.toNat+1) (List.set QQ (chO QQ QQ.length).1.toNat ((chO QQ QQ.length).2.2.2.1,(chO QQ QQ.length).2.2.2.2.1,(chO QQ QQ.length).2.2.2.2.2.1,(chO QQ QQ.length).2.2.2.2.2.2.1,(chO QQ QQ.length).2.2.2.2.2.2.2.1,(chO QQ QQ.length).2.2.2.2.2.2.2.2))=cpS QQ:=rfl
  have hcl:(List.take (chO QQ QQ.length).2.1.toNat (List.set QQ (chO QQ QQ.length).1.toNat ((chO QQ QQ.length).2.2.2.1,(chO QQ QQ.length).2.2.2.2.1,(chO QQ QQ.length).2.2.2.2.2.1,(chO QQ QQ.length).2.2.2.2.2.2.1,(chO QQ QQ.length).2.2.2.2.2.2.2.1,(chO QQ QQ.length).2.2.2.2.2.2.2.2))).length+(List.drop ((chO QQ QQ.length).2.1.toNat+1) (List.set QQ (chO QQ QQ.length).1.toNat ((chO QQ QQ.length).2.2.2.1,(chO QQ QQ.length).2.2.2.2.1,(chO QQ QQ.length).2.2.2.2.2.1,(chO QQ QQ.length).2.2.2.2.2.2.1,(chO QQ QQ.length).2.2.2.2.2.2.2.1,(chO QQ QQ.length).2.2.2.2.2.2.2.2))).length=(cpS QQ).length:=by rw[<-List.length_append];rfl
  have hqn:cpI ((cpS QQ).length-16) (cpS QQ)=cpL l:=by rw[hsn,<-hqc,show QQ.length-16=(QQ.length-1-16)+1 by omega];rfl
  refine ae G4 ?_
  refine cv (chp_c _ _ QQ ⟨_,_,_,by rfl,by (rw[dV];rfl)⟩ (by assumption) (by omega) (by omega)) ?_
  have G5:=jn @r6_set (jn @List.length_set.{0} G4)
  refine ae G5 ?_
  refine cvr G5 (del_n _ _ _ _ (QQ.set (((chO QQ QQ.length).1).toNat) ((chO QQ QQ.length).2.2.2.1,(chO QQ QQ.length).2.2.2.2.1,(chO QQ QQ.length).2.2.2.2.2.1,(chO QQ QQ.length).2.2.2.2.2.2.1,(chO QQ QQ.length).2.2.2.2.2.2.2.1,(chO QQ QQ.length).2.2.2.2.2.2.2.2)) _ (by exact List.length_set.symm) (by (rw[dV];rfl)) (by omega) (by (rw[List.length_set];omega))) ?_
  refine hJ0 _ _ ⟨k0-1,by omega,_,_,_,⟨cpS QQ,by omega,cpS_ok (by omega) hqv,by omega,by omega,hqn,rfl,rfl⟩,bS hbel [0] (aC (jn @hcs (jn @hcl (jn @BW_pre' (jn @bY (jn @or_true (jn @true_or (jn @bR (jn @bG @cB)))))))))⟩
 obtain rfl:QQ=cpL l:=by rw[<-hqc,show QQ.length-16=0 by omega];rfl
 refine ae G6 ?_
 refine hQ _ _ (ba (.inl rfl) hbel (x1:=.tup [.sl (some (H.length,0)) ((cpL l).length) none,iV 0]) (l2:=[.cells true 6 (r6 (cpL l))]) (.tup [.sl (some (H.length,0)) ((cpL l).length) none,iV 0]) (aY results44) [] rfl [0] (by decide) ⟨rfl,rfl⟩ ?_)
 exact aS @bY
theorem learnT_c (H:aa)(W Hh:Int)(pp:AV)(xs:List Int)(s:AV)(l:List T6)(q:AV)(sc:List (Int×Int))(g:Int)(o:List Int)(hpp:zI H pp xs)(hs:Sl H 6 s l.length (r6 l))(hq:SlP H q sc)(hR:eW W Hh xs l sc g=true)(ho:lnO W Hh xs l sc g=some o):
  zC 45 [.agg [iV W,iV Hh,pp],s,q,iV g] H (.tup [.agg [iV W,iV Hh,.sl (some (H.length,0)) o.length none],iV 0]) (H++[.cells (aQ o.length) 1 (ints .u8 o)]):=by
 obtain⟨hV,hl0,hS,hsB,hg⟩:=iw.1 hR
 have k:=learn_c H W Hh pp xs s l q sc g hpp hs hq (by have:=jE hS;omega) (by have:=(dX.1 hsB).1;omega)
 obtain⟨e1,e2,e3,e4⟩:=ln_0 hR ho
 rw[e1,e2,e3,e4] at k
 exact k
theorem rI (H:aa)(W Hh:Int)(pp:AV)(xs:List Int)(s:AV)(l:List T6)(q:AV)(sc:List (Int×Int))(g:Int)(o:List Int)(hpp:zI H pp xs)(hs:Sl H 6 s l.length (r6 l))(hq:SlP H q sc)(hR:eW W Hh xs l sc g=true)(ho:lnO W Hh xs l sc g=some o)(h0:0<o.length):
  zC 45 [.agg [iV W,iV Hh,pp],s,q,iV g] H (.tup [.agg [iV W,iV Hh,.sl (some (H.length,0)) o.length none],iV 0]) (H++[.cells true 1 (ints .u8 o)]):=by
 have k:=learnT_c H W Hh pp xs s l q sc g o hpp hs hq hR ho
 rw[fc h0] at k
 exact k
theorem lse_e (H:aa)(W Hh:Int)(pp:AV)(xs:List Int)(s:AV)(l:List T6)(tu le sl ra:Int)(bz:Nat)(q:AV)(sc:List (Int×Int))(hpp:zI H pp xs)(hs:Sl H 6 s l.length (r6 l))(hz:H[bz]? = some (.cells true 0 [iV W,iV Hh,pp,s,iV tu,iV le,iV sl,iV ra,.bool false]))(hq:SlP H q sc)(hV:bQ W Hh xs=true)(hS:cw l=true)(hl0:0<l.length)(hsB:di sc=true)(hg:1<=ra/\ra<=32)(hRn:(bT W Hh xs l sc ra 32).length=0):zC 14 [.ptr (some (bz,0)),q] H (iV 12) (H.set bz (.cells true 0 [iV W,iV Hh,pp,s,iV tu,iV le,iV sl,iV ra,.bool true])):=by
 obtain⟨bpp,opp,cpp,rfl,hbpp,hblpp,hb0pp⟩:=zA1 hpp
 obtain⟨bs,os,cs,rfl,hbs,hbls,hb0s⟩:=zA1 hs
 obtain⟨bq,oq,cq,rfl,hbq,hblq,hb0q⟩:=zA1 hq
 have hbz:=hz
 have hblz:=getElem?_lt hbz
 have hb0z:=fun l=>am (l:=l) hbz
 have hVV:=bo.1 hV
 have hSS:=bN.1 hS
 have hss:=dX.1 hsB
 have hsc9:=hss.1
 have hx6:xs.length<=1000000:=by have h4:=hVV.len;have:=Int.mul_le_mul hVV.w1 hVV.h1 (by have:=hVV.h0;omega) (by decide);omega
 have hok:(∀b∈bT W Hh xs l sc ra 32,bA b=true)/\(bT W Hh xs l sc ra 32).length<=l.length+32+([]:List T6).length:=jG (xs:=xs) (s:=sc) (g:=ra) ⟨hVV.w0,hVV.w1⟩ ⟨hVV.h0,hVV.h1⟩ (l.length+2*32) l 32 [] rfl hSS.2 (fun b hb=>by cases hb)
 have hR6:(bT W Hh xs l sc ra 32).length<=64:=by have h1:=hok.2;simp only[List.length_nil] at h1;have h2:=hSS.1;omega
 have hRv:=hok.1
 (refine bh func14 _ rfl (Nat.le_of_ble_eq_true (by kernel_rfl)) rfl ?_;intro hbel Q hQ hQ' c hc;unfold Tryz.f14 at hc;simp only[Option.some.injEq] at hc;subst hc;clear hQ')
 refine zQF hQ fun Q5 hn5 hQ5 he5=>?_
 have G3:=jn @hbpp (jn @hb0pp (jn @hbs (jn @hb0s (jn @hbq (jn @hb0q (jn @hbz (jn @hb0z (jn @hsB @Option.isNone_some.{0}))))))))
 refine ae G3 ?_
 refine hn5 _ _ (zQF hQ fun Q6 hn6 hQ6 he6=>?_)
 refine ae G3 ?_
 refine cvr G3 (rH _ _ sc (zA2 hb0q hbq) (by omega)) ?_
 refine hn6 _ _ (zQF hQ fun Q7 hn7 hQ7 he7=>?_)
 refine ae G3 ?_
 refine cx (rG _ W _ _ xs _ l _ sc _ 32 (zA2 hb0pp hbpp) (zA2 hb0s hbs) (zA2 hb0q hbq) (by assumption) (by assumption) (by assumption) (by assumption) (by assumption) (by omega)) ?_
 refine ae G3 ?_
 refine hn7 _ _ (zQF hQ fun Q8 hn8 hQ8 he8=>?_)
 refine rcs G3 (fun h1 h1d _=>?_) (fun h1 h1d _=>?_)
 ·have h1n:=bnT h1
  have G4:=jn h1 (jn h1n (jn @aP (jn @aO (jn @hblz (jn @gV (jn @iF (jn @jq (jn @iG (jn @jH (jn @kr (jn @jI (jn @ku (jn @List.length_set.{0} (jn @List.set_set.{0} G3))))))))))))))
  refine ae G4 ?_
  refine hQ8 _ _ (mL (b1:=.cells true 0 [iV W,iV Hh,.sl (some (bpp,0)) xs.length cpp,.sl (some (bs,0)) l.length cs,iV tu,iV le,iV sl,iV ra,.bool true]) (.cells true 0 [iV W,iV Hh,.sl (some (bpp,0)) xs.length cpp,.sl (some (bs,0)) l.length cs,iV tu,iV le,iV sl,iV ra,.bool true]) (l1:=[.cells (aQ (bT W Hh xs l sc ra 32).length) 6 (r6 (bT W Hh xs l sc ra 32))]) (l2:=[]) (.inl rfl) hbel hblz (by rfl) (x1:=iV 12) (iV 12) (aY results14) [] rfl [] (by decide) ⟨rfl,List.append_nil _⟩ ?_)
  exact aS (jn @hblpp (jn @hbls (jn @hblz @hblq)))
 have h1n:=bnT h1
 simp[hRn] at h1d
theorem lrnF_v {W H:Int}:∀{l:List (Int×Int)}{o q:List Int},iA W H l o=some q->(∀v∈o,v<=2)->q.length=o.length/\∀v∈q,v<=2
 |[],o,q,h,ho=>by unfold iA at h;cases h;exact⟨rfl,ho⟩
 | c::l,o,q,h,ho=>by
  unfold iA at h
  split at h
  ·cases h
  have ih:=lrnF_v h (fun v hv=>(List.mem_or_eq_of_mem_set hv).elim (ho v) (fun e=>by omega))
  exact⟨by rw[ih.1,List.length_set],ih.2⟩
theorem ou {W H:Int}:∀{l:List (List (Int×Int))}{o q:List Int},fJ W H l o=some q->(∀v∈o,v<=2)->q.length=o.length/\∀v∈q,v<=2
 |[],o,q,h,ho=>by unfold fJ at h;cases h;exact⟨rfl,ho⟩
 | s :: l,o,q,h,ho=>by
  unfold fJ at h
  split at h
  ·cases h
  ·rename_i c hc
   split at h
   ·have ih:=ou h (fun v hv=>(List.mem_or_eq_of_mem_set hv).elim (ho v) (fun e=>by omega))
    exact⟨by rw[ih.1,List.length_set],ih.2⟩
   exact ou h ho
  exact ou h ho
theorem ln_v {W Hh:Int}{xs o:List Int}{l:List T6}{sc:List (Int×Int)}{g:Int}(hV:bQ W Hh xs=true)(h:lnO W Hh xs l sc g=some o):bQ W Hh o=true/\o.length=xs.length:=by
 obtain⟨a,b,c,d,e,f⟩:=bo.1 hV
 have key:o.length=xs.length/\∀v∈o,v<=2:=by
  unfold lnO at h
  split at h
  ·cases hq:iA W Hh (aU W Hh l sc g) xs with
   |none=>rw[hq] at h;cases h
   | some q =>
    rw[hq] at h
    have h':fJ W Hh (iY l sc g) q=some o:=h
    have k1:=lrnF_v hq f
    have k2:=ou h' k1.2
    exact⟨by rw[k2.1,k1.1],k2.2⟩
  cases h;exact⟨rfl,f⟩
 exact⟨bo.2 ⟨a,b,c,d,by rw[key.1];exact e,key.2⟩,key.1⟩
theorem lost_step {W Hh:Int}{ks xs:List Int}{s:List (Int×Int)}{Q:List T6}{x y h g:Int}(hV:bQ W Hh xs=true)(hB:∀z∈xs,1<=z/\z<=2)(hk:fk ks xs)(hx:0<=x/\x<=64*W)(hy:0<=y/\y<=64*Hh)(hh:0<=h/\h<=255)(hg:1<=g/\g<=32)(hs:di s=true)(hP:∀e∈s,ji W Hh xs x y h g e)(hS:cw Q=true)(hc:∃b∈Q,InP b x y h):
  0<(bT W Hh ks Q s g 32).length/\(∃b∈cpL (bT W Hh ks Q s g 32),InP b x y h)/\∃o,lnO W Hh ks (cpL (bT W Hh ks Q s g 32)) s g=some o/\fk o xs:=by
 have hv:=bo.1 hV
 have hss:=dX.1 hs
 have hSS:=bN.1 hS
 have ok:=jG (xs:=ks) (s:=s) (g:=g) ⟨hv.w0,hv.w1⟩ ⟨hv.h0,hv.h1⟩ (Q.length+2*32) Q 32 [] rfl hSS.2 (fun b hb=>by cases hb)
 have kp:=k7 (s:=s) ⟨hv.w0,hv.w1⟩ ⟨hv.h0,hv.h1⟩ hk hx hy hh hg hss.2 hP (Q.length+2*32) Q 32 [] rfl hSS.2 (.inl hc)
 have hR:(∀b∈bT W Hh ks Q s g 32,bA b=true)/\(bT W Hh ks Q s g 32).length<=Q.length+32+([]:List T6).length:=ok
 have hK:∃b∈bT W Hh ks Q s g 32,InP b x y h:=kp
 generalize bT W Hh ks Q s g 32=R at *
 have hR0:0<R.length:=by obtain⟨b,hb,-⟩:=hK;exact List.length_pos_of_mem hb
 have hcp:=cpL_ok hR0 hR.1
 have hci:=cpL_in hh hR0 hR.1 hK
 have cv:=in_cov hh (bN.1 hcp.1).2 hci
 have hVk:=bel_vld hk hV
 have hRg:eW W Hh ks (cpL R) s g=true:=iw.2 ⟨hVk,hcp.2,hcp.1,hs,hg⟩
 obtain⟨o,ho,hbo⟩:=sg hRg hk hV (fun i hi=>by rw[fM hi];exact hB _ (List.getElem_mem hi)) cv.2 hP
 exact⟨hR0,hci,o,ho,hbo⟩
structure Ev where
 k:Int
 t:Int
 g:Int
 st:Bool
 s:AV
 sc:List (Int×Int)
 x:Int
 y:Int
 h:Int
def evC (e:Ev):List AV:=[.int .i64 e.k,.int .i64 e.t,.int .i64 e.g,.bool e.st,e.s,.int .i64 e.x,.int .i64 e.y,.int .i64 e.h]
def evR (l:List Ev):List AV:=l.flatMap evC
def evG (l:List Ev) (j:Nat):Ev:=l.getD j ⟨0,0,0,false,.any,[],0,0,0⟩
def evOk (H:aa) (l:List Ev):Prop:=∀e∈l,Sl H 2 e.s e.sc.length (prs e.sc)/\e.sc.length<=maxLen
theorem evR_cons {p:Ev}{l:List Ev}:evR (p::l)=evC p++evR l:=rfl
theorem jJ:∀(a b:List AV) (n:Nat),(a++b).drop (a.length+n)=b.drop n
 |[],b,n=>by simp
 |x::a,b,n=>by rw[List.length_cons,show a.length+1+n=(a.length+n)+1 by omega];exact jJ a b n
theorem evG_mem {l:List Ev}{j:Nat}(h:j<l.length):evG l j∈l:=by
 unfold evG
 rw[List.getD_eq_getElem?_getD,List.getElem?_eq_getElem h]
 exact List.getElem_mem h
theorem evOk.at {H:aa}{l:List Ev}{j:Nat}(k:evOk H l)(h:j<l.length):∃b o c,(evG l j).s=.sl (some (b,0)) (evG l j).sc.length c/\H[b]? = some (.cells o 2 (prs (evG l j).sc)):=by
 obtain⟨b,o,c,e1,e2⟩:=(k _ (evG_mem h)).1
 exact⟨b,o,c,e1,e2⟩
theorem evOk.len {H:aa}{l:List Ev}{j:Nat}(k:evOk H l)(h:j<l.length):(evG l j).sc.length<=9223372036854775807:=by
 have q:=(k _ (evG_mem h)).2
 unfold maxLen at q;exact q
theorem rows_ev {P:Program}{H:aa}{n:Nat}{ti tb ts te u v:TypeId}(hi:P.underlying ti=some (.int .i64))(hb:P.underlying tb=some .bool)(hs:P.underlying ts=some (.slice te))(hu:P.underlying u=some (.int .i64))(hv:P.underlying v=some (.int .i64))(hl:bP P (n+1) te=some [u,v]):∀rows:List (List AV),(∀r:List AV,r∈rows->RTy P H (n+2) [ti,ti,ti,tb,ts,ti,ti,ti] r)->∃l:List Ev,l.length=rows.length/\rows.flatten=evR l/\evOk H l
 |[],_=>⟨[],rfl,rfl,fun e h=>by cases h⟩
 | r::rows,h=>by
  obtain⟨l,q1,q2,q3⟩:=rows_ev hi hb hs hu hv hl rows fun r' hr=>h r' (by simp[hr])
  have hr:=h r (by simp)
  obtain⟨y1,r',rfl,hy1,hr⟩:=hr.cons
  obtain⟨y2,r',rfl,hy2,hr⟩:=hr.cons
  obtain⟨y3,r',rfl,hy3,hr⟩:=hr.cons
  obtain⟨y4,r',rfl,hy4,hr⟩:=hr.cons
  obtain⟨y5,r',rfl,hy5,hr⟩:=hr.cons
  obtain⟨y6,r',rfl,hy6,hr⟩:=hr.cons
  obtain⟨y7,r',rfl,hy7,hr⟩:=hr.cons
  obtain⟨y8,r',rfl,hy8,hr⟩:=hr.cons
  obtain rfl:=hr.nil
  obtain⟨z1,rfl,-⟩:=hy1.int hi
  obtain⟨z2,rfl,-⟩:=hy2.int hi
  obtain⟨z3,rfl,-⟩:=hy3.int hi
  obtain⟨z4,rfl⟩:=hy4.bool hb
  obtain⟨sc,k1,k2,-⟩:=hy5.pairsU hs hu hv hl
  obtain⟨z6,rfl,-⟩:=hy6.int hi
  obtain⟨z7,rfl,-⟩:=hy7.int hi
  obtain⟨z8,rfl,-⟩:=hy8.int hi
  refine⟨⟨z1,z2,z3,z4,y5,sc,z6,z7,z8⟩::l,by simp[q1],by rw[evR_cons,List.flatten_cons,q2];rfl,fun e he=>?_⟩
  rcases List.mem_cons.1 he with rfl|he
  ·exact⟨k1,k2⟩
  exact q3 e he
theorem LTy.evs {P:Program}{H:aa}{n:Nat}{t e ti tb ts te u v:TypeId}{x:AV}(ht:P.underlying t=some (.slice e))(hle:bP P (n+2) e=some [ti,ti,ti,tb,ts,ti,ti,ti])(hi:P.underlying ti=some (.int .i64))(hb:P.underlying tb=some .bool)(hs:P.underlying ts=some (.slice te))(hu:P.underlying u=some (.int .i64))(hv:P.underlying v=some (.int .i64))(hl:bP P (n+1) te=some [u,v])(h:LTy P H (n+3) t x):
  ∃l:List Ev,Sl H 8 x l.length (evR l)/\l.length<=maxLen/\evOk H l:=by
 obtain⟨b,rows,rfl,k1,k2,k3⟩:=h.slice ht hle
 obtain⟨l,q1,q2,q3⟩:=rows_ev hi hb hs hu hv hl rows k3
 exact⟨l,⟨b,false,none,by rw[q1],by rw[<-q2];exact k2⟩,by omega,q3⟩
theorem sw_ok {W Hh:Int}{xs:List Int}{x y h g:Int}{mks ers:List Int}(hx:0<=x/\x<=64*W)(hy:0<=y/\y<=64*Hh)(hW:1<=W/\W<=64)(hH:1<=Hh/\Hh<=64)(hg:1<=g/\g<=32):di (cU W Hh xs x y h g mks ers)=true/\∀e∈cU W Hh xs x y h g mks ers,ji W Hh xs x y h g e:=by
 by_cases k:gO mks=0
 ·rw[o7 k]
  have hl:¬32<mks.length:=fun q=>by rw[swpE_6 q] at k;exact absurd k (by decide)
  have ha:mks.all dj=true:=by
   rw[<-Bool.not_eq_false];intro q
   unfold gO at k
   rw[if_neg hl,if_neg (by rw[q];decide)] at k
   exact absurd k (by decide)
  refine⟨dX.2 ⟨by rw[kZ];omega,fun e he=>?_⟩,fun e he=>?_⟩
  ·obtain⟨j,hj,rfl⟩:=nE he
   have q:=List.all_eq_true.1 ha _ (List.getElem_mem hj)
   rw[<-fM hj] at q
   unfold dj at q
   rw[Bool.and_eq_true,decide_eq_true_eq,decide_eq_true_eq] at q
   have:=(qj (xs:=xs) (h:=h) (m:=gi mks j) (e:=gi ers j) hx hy hW hH hg).2
   exact gK.2 (by omega)
  obtain⟨j,hj,rfl⟩:=nE he
  exact(qj hx hy hW hH hg).1
 rw[mG k]
 exact⟨by decide,fun e he=>by cases he⟩
def nrP (b:T6):Prop:=(-64<=b.1/\b.2.2.1<=4160) /\ -64<=b.2.1/\b.2.2.2.1<=4160
theorem nr_tB {W Hh:Int}{xs:List Int}{b:T6}{s:List (Int×Int)}{g:Int}(hW:W<=64)(hH:Hh<=64):nrP (tB W Hh xs b s g):=by
 have q1 : -64<=tX0 b:=by unfold tX0;split<;>omega
 have q2:tX1 W b<=4160:=by unfold tX1;split<;>omega
 have q3 : -64<=tY0 b:=by unfold tY0;split<;>omega
 have q4:tY1 Hh b<=4160:=by unfold tY1;split<;>omega
 exact⟨⟨q1,q2⟩,q3,q4⟩
theorem ov {W Hh:Int}{xs:List Int}{s:List (Int×Int)}{g:Int}(hW:W<=64)(hH:Hh<=64):∀(n:Nat) (Q:List T6) (k:Nat) (O:List T6),(∀b∈O,nrP b)->∀b∈rfn W Hh xs s g n Q k O,nrP b
 |0,Q,k,O,hO=>by unfold rfn;exact hO
 |n+1,[],k,O,hO=>by unfold rfn;exact hO
 | n + 1,b::Q,k,O,hO=>by
  unfold rfn
  split
  ·split
   ·exact ov hW hH n _ _ O hO
   exact ov hW hH n Q k _ fun c hc=>by
    rcases List.mem_append.1 hc with hc|hc
    ·exact hO c hc
    rw[List.mem_singleton.1 hc];exact nr_tB hW hH
  exact ov hW hH n Q k O hO
theorem nr_hul {a b:T6}(ha:nrP a)(hb:nrP b):nrP (ey a b):=by
 unfold nrP ey mnI mxI at *
 simp only
 split<;>split<;>split<;>split<;>omega
theorem nr_cpS {l:List T6}(h:2<=l.length)(hv:∀b∈l,nrP b):∀b∈cpS l,nrP b:=fun b hb=>by
 obtain⟨i,j,h1,h2,-,h4,-⟩:=pd h
 rcases h4 b hb with q|rfl
 ·exact hv b q
 exact nr_hul (hv _ (cQ (by omega))) (hv _ (cQ h2))
theorem nr_cpI:∀(n:Nat) (l:List T6),n+1<=l.length->(∀b∈l,nrP b)->∀b∈cpI n l,nrP b
 |0,l,_,hv=>hv
 |n+1,l,h,hv=>nr_cpI n (cpS l) (by have e:=mH (l:=l) (by omega);omega) (nr_cpS (by omega) hv)
theorem nr_cpL {l:List T6}(h0:0<l.length)(hv:∀b∈l,nrP b):∀b∈cpL l,nrP b:=nr_cpI _ l (by omega) hv
theorem nr_ref {W Hh:Int}{ks:List Int}{Q:List T6}{s:List (Int×Int)}{g:Int}(hW:W<=64)(hH:Hh<=64)(h0:0<(bT W Hh ks Q s g 32).length):∀b∈cpL (bT W Hh ks Q s g 32),nrP b:=nr_cpL h0 (ov hW hH _ _ _ [] (fun b hb=>by cases hb))
theorem nr_imA {l:List T6}{t f tu le sl:Int}(hv:∀b∈l,bA b=true)(hn:∀b∈l,nrP b)(hf:0<=f/\f<=32)(hl:0<=le/\le<=16)(hs:0<=sl/\sl<=8):imA l t f tu le sl=true:=List.all_eq_true.2 fun b hb=>by
 have r:=oi (L:=gp b.2.2.2.2.1 b.2.2.2.2.2 t tu) hf hl hs (gp b.2.2.2.2.1 b.2.2.2.2.2 t tu).length
 have e:imR b t f tu le sl=rcS f le sl (gp b.2.2.2.2.1 b.2.2.2.2.2 t tu) (gp b.2.2.2.2.1 b.2.2.2.2.2 t tu).length:=rfl
 rw[<-e] at r
 have hb6:=bv.1 (hv b hb)
 have hnb:=hn b hb
 unfold nrP at hnb
 have off:∀n:Int,-1048576<=n->n<=1048576->ir n=false:=fun n h1 h2=>by unfold ir;rw[decide_eq_false (by omega),decide_eq_false (by omega)];rfl
 unfold imO imB
 simp only[List.any_cons,List.any_nil]
 rw[off _ (by omega) (by omega),off _ (by omega) (by omega),off _ (by omega) (by omega),off _ (by omega) (by omega)]
 rfl
theorem off_0 (z:Int):d5 z (z/64*64) (z/64*64+64)=0:=by
 unfold d5
 repeat' split
 all_goals omega
theorem blk_in {W Hh:Int}{xs:List Int}{px py qx qy:Int}(hp:(-100000<=px/\px<=100000) /\ -100000<=py/\py<=100000)(hx : -1024<=px-qx/\px-qx<=1024)(hy : -1024<=py-qy/\py-qy<=1024)(h:blkB W Hh xs px py qx qy=false):(0<=qx/\qx<=64*W)/\0<=qy/\qy<=64*Hh:=by
 by_cases hi:(0<=qx/\qx<=64*W)/\0<=qy/\qy<=64*Hh
 ·exact hi
 exfalso
 have hat:atI W Hh xs (qx/64) (qy/64)=2:=by
  unfold atI
  rw[lN.2 (by omega)];rfl
 have off0:∀z:Int,d5 z (z/64*64) (z/64*64+64)=0:=off_0
 have hL:lnP px py=true:=cO.2 (by omega)
 have hQ:lnP qx qy=true:=cO.2 (by omega)
 have hR:lnR (qx/64*64) (qy/64*64) (qx/64*64+64) (qy/64*64+64)=true:=bZ.2 (by omega)
 have ht:bj px py qx qy (qx/64*64) (qy/64*64) (qx/64*64+64) (qy/64*64+64)=true:=by
  unfold bj eC gapI
  rw[hL,hQ,hR,aL.2 hx,aL.2 hy,off0,off0]
  simp
 have hb:blP W Hh xs px py qx qy (qx/64,qy/64)=true:=by
  unfold blP
  simp only
  rw[hat,ht];rfl
 have m1:=el (a:=px) (b:=qx)
 have x1:=eo (a:=px) (b:=qx)
 have m2:=el (a:=py) (b:=qy)
 have x2:=eo (a:=py) (b:=qy)
 have:=blk_t (W:=W) (Hh:=Hh) (xs:=xs) (px:=px) (py:=py) (qx:=qx) (qy:=qy) (n:=(qy/64-(mnI py qy/64-1)).toNat) (m:=(qx/64-(mnI px qx/64-1)).toNat) (by unfold blN;omega) (by unfold blN;omega) (by
  rw[show mnI px qx/64-1+(((qx/64-(mnI px qx/64-1)).toNat:Nat):Int)=qx/64 by omega,show mnI py qy/64-1+(((qy/64-(mnI py qy/64-1)).toNat:Nat):Int)=qy/64 by omega]
  exact hb)
 rw[h] at this;cases this
theorem st_wth {W Hh:Int}{xs:List Int}{ax ay ah t f eT eL eX eY tu le sl ra:Int}(hG:dN W Hh xs ax ay ah=true)(hB:bM tu le sl ra=true)(hC:cM t f=true)(h1 : -tu<=eT/\eT<=tu)(h2 : -le<=eL/\eL<=le)(h3 : -sl<=eX/\eX<=sl)(h4 : -sl<=eY/\eY<=sl):
  nxE ax ay ah t f eT eL eX eY=0/\dN W Hh xs (stX W Hh xs ax ay ah t f eT eL eX eY) (stY W Hh xs ax ay ah t f eT eL eX eY) (nxH ax ay ah t f eT eL eX eY)=true/\wthB tu le sl ra ax ay ah t f (stX W Hh xs ax ay ah t f eT eL eX eY) (stY W Hh xs ax ay ah t f eT eL eX eY) (nxH ax ay ah t f eT eL eX eY) (stB W Hh xs ax ay ah t f eT eL eX eY)=true:=by
 have hG':=hG
 unfold dN at hG'
 rw[Bool.and_eq_true] at hG'
 obtain⟨hI,hP⟩:=hG'
 obtain⟨hV,hax,hay⟩:=iC.1 hI
 have hv:=bo.1 hV
 have hw1:=hv.w1
 have hh1:=hv.h1
 have hPi:=dp.1 hP
 have hbt:=aZ.1 hPi.2
 have hBi:=hB
 simp only[bM,Bool.and_eq_true,aZ] at hBi
 have hCi:=hC
 simp only[cM,Bool.and_eq_true,aZ,aL] at hCi
 have hr:gI eT eL eX eY=true:=by unfold gI;simp only[Bool.and_eq_true,aL];omega
 have hnh:0<=nhI ah t eT/\nhI ah t eT<=255:=by unfold nhI;omega
 have hmx:0<=mxI (f+eL) 0/\mxI (f+eL) 0<=48:=by unfold mxI;split<;>omega
 have hwb:=jx (nhI ah t eT) hmx.1
 have hrx:ax-56<=rwX ax (nhI ah t eT) f eL eX/\rwX ax (nhI ah t eT) f eL eX<=ax+56:=by unfold rwX;split<;>omega
 have hry:ay-56<=rwY ay (nhI ah t eT) f eL eY/\rwY ay (nhI ah t eT) f eL eY<=ay+56:=by unfold rwY;split<;>omega
 have hE:nxE ax ay ah t f eT eL eX eY=0:=by
  unfold nxE
  rw[hP,hC,hr]
  simp only[Bool.and_self,if_true]
  split
  ·rfl
  rw[if_pos (dp.2 ⟨ix.2 (by omega),aZ.2 hnh⟩)]
 obtain⟨e1,e2,e3⟩:=nx_ok hE
 have hd:delI ((((ah+t)%256).toNat:Nat):Int) (nhI ah t eT)=eT:=by unfold delI nhI;split<;>omega
 have hw:br (delI ((((ah+t)%256).toNat:Nat):Int) (nhI ah t eT)) tu=true:=by rw[hd];exact aL.2 h1
 have good:∀x y:Int,(0<=x/\x<=64*W)->(0<=y/\y<=64*Hh)->dN W Hh xs x y (nhI ah t eT)=true/\dd x y (nhI ah t eT)=true:=fun x y q1 q2=>by
  have p:dd x y (nhI ah t eT)=true:=dp.2 ⟨ix.2 (by omega),aZ.2 hnh⟩
  refine⟨?_,p⟩
  unfold dN
  rw[iC.2 ⟨hV,q1,q2⟩,p];rfl
 refine⟨hE,?_⟩
 rw[e3]
 cases hb:stB W Hh xs ax ay ah t f eT eL eX eY with
 | true =>
  obtain⟨s1,s2⟩:=st_t hb
  rw[s1,s2]
  obtain⟨g1,g2⟩:=good ax ay hax hay
  refine⟨g1,?_⟩
  unfold wthB
  rw[hB,hP,hC,g2,hw]
  simp
 | false =>
  obtain⟨s1,s2⟩:=st_f hb
  rw[s1,s2,e1,e2]
  by_cases h0:f=0
  ·have r1:rwX ax (nhI ah t eT) f eL eX=ax:=if_pos h0
   have r2:rwY ay (nhI ah t eT) f eL eY=ay:=if_pos h0
   rw[r1,r2]
   obtain⟨g1,g2⟩:=good ax ay hax hay
   refine⟨g1,?_⟩
   unfold wthB
   rw[hB,hP,hC,g2,hw,h0]
   simp
  have hbk:blkB W Hh xs ax ay (rwX ax (nhI ah t eT) f eL eX) (rwY ay (nhI ah t eT) f eL eY)=false:=by
   have q:=hb
   unfold stB at q
   rw[decide_eq_true hE,e1,e2,show (f != 0)=true by simpa using h0,Bool.true_and,Bool.true_and] at q
   exact q
  obtain⟨i1,i2⟩:=blk_in (by omega) (by omega) (by omega) hbk
  obtain⟨g1,g2⟩:=good _ _ i1 i2
  refine⟨g1,?_⟩
  have r1:rwX ax (nhI ah t eT) f eL eX=ax+(cE (nhI ah t eT) (mxI (f+eL) 0)+eX):=if_neg h0
  have r2:rwY ay (nhI ah t eT) f eL eY=ay+(cF (nhI ah t eT) (mxI (f+eL) 0)+eY):=if_neg h0
  have hwi:wiA f le sl (rwX ax (nhI ah t eT) f eL eX-ax) (rwY ay (nhI ah t eT) f eL eY-ay) (nhI ah t eT)=true:=by
   refine wiA_y (j:=(eL+le).toNat) (by omega) ?_
   unfold wiC
   rw[show f+(0-le+(((eL+le).toNat:Nat):Int))=f+eL by omega,r1,r2,Bool.and_eq_true,aL,aL]
   omega
  unfold wthB
  rw[hB,hP,hC,g2,hw,hwi,show (f==0)=false by simpa using h0]
  rfl
def rfX (a:Int) (m:Nat):Int:=(a/64-2)+(m:Int)
def rfC (W Hh:Int) (xs:List Int) (x y:Int) (n m:Nat):Bool:=(atI W Hh xs (rfX x m) (rfX y n)==2)&&decide (gapP x y (rfX x m*64) (rfX y n*64) (rfX x m*64+64) (rfX y n*64+64)<=400)
def rfB (W Hh:Int) (xs:List Int) (x y:Int):Bool:=!((List.range 5).any fun n=>(List.range 5).any fun m=>rfC W Hh xs x y n m)
section
variable {W Hh:Int} {xs:List Int} {x y:Int} {n m:Nat}
theorem rf_y (hn:n<5)(hm:m<5)(h:rfC W Hh xs x y n m=true):rfB W Hh xs x y=false:=by
 unfold rfB
 rw[show ((List.range 5).any fun n=>(List.range 5).any fun m=>rfC W Hh xs x y n m)=true from List.any_eq_true.2 ⟨n,List.mem_range.2 hn,List.any_eq_true.2 ⟨m,List.mem_range.2 hm,h⟩⟩]
 rfl
theorem rf_n (h:∀n:Nat,n<5->∀m:Nat,m<5->rfC W Hh xs x y n m=false):rfB W Hh xs x y=true:=by
 unfold rfB
 rw [show ((List.range 5).any fun n=>(List.range 5).any fun m=>rfC W Hh xs x y n m)=false from by
  rw[List.any_eq_false]
  intro n hn
  rw[Bool.not_eq_true,List.any_eq_false]
  intro m hm
  rw[h n (List.mem_range.1 hn) m (List.mem_range.1 hm)];decide]
 rfl
theorem rf_in (h:rfB W Hh xs x y=true):(0<=x/\x<=64*W)/\0<=y/\y<=64*Hh:=by
 by_cases hi:inB W Hh (x/64) (y/64)=true
 ·rw[dD] at hi;omega
 exfalso
 have hc:rfC W Hh xs x y 2 2=true:=by
  have hg:∀a:Int,fG a (a/64*64) (a/64*64+64)=0:=fun a=>by
   unfold fG
   repeat' split
   all_goals omega
  have e:∀a:Int,rfX a 2=a/64:=fun a=>by unfold rfX;omega
  unfold rfC gapP atI
  rw[e,e,if_neg hi,hg,hg];rfl
 rw[rf_y (by decide) (by decide) hc] at h;cases h
end
theorem bes_if (n lo hi:Int):(if (if lo-n<0 then 0 else lo-n)<n-hi then n-hi else (if lo-n<0 then 0 else lo-n))=fG n lo hi:=rfl
def gg (W Hh:Int) (xs:List Int):Int:=if bQ W Hh xs=true then (if dI W Hh xs=true then 0 else 3) else 1
def rhB (x y h:Int) (b:T6):Bool:=bxB b.1 b.2.1 b.2.2.1 b.2.2.2.1 b.2.2.2.2.1 b.2.2.2.2.2&&(decide (b.1<=x)&&(decide (x<=b.2.2.1)&&(decide (b.2.1<=y)&&(decide (y<=b.2.2.2.1)&&decide ((((((((h%256).toNat:Nat):Int)-b.2.2.2.2.1)%256).toNat:Nat):Int)<b.2.2.2.2.2)))))
def rcvB (l:List T6) (x y h:Int):Bool:=l.any (rhB x y h)
theorem rh_in {b:T6}{x y h:Int}(hb:bA b=true)(hh:0<=h/\h<=255)(k:InP b x y h):rhB x y h b=true:=by
 obtain⟨k1,k2,k3⟩:=k
 unfold eq at k3
 unfold rhB
 rw[show bxB b.1 b.2.1 b.2.2.1 b.2.2.2.1 b.2.2.2.2.1 b.2.2.2.2.2=true from hb]
 simp only[Bool.and_eq_true,decide_eq_true_eq,Bool.true_and]
 refine⟨by omega,by omega,by omega,by omega,?_⟩
 rw[show ((((h%256).toNat:Nat)):Int)=h by omega]
 omega
theorem rcv_in {l:List T6}{x y h:Int}(hS:cw l=true)(hh:0<=h/\h<=255)(k:∃b∈l,InP b x y h):rcvB l x y h=true:=by
 obtain⟨b,hb,hi⟩:=k
 exact List.any_eq_true.2 ⟨b,hb,rh_in ((bN.1 hS).2 b hb) hh hi⟩
theorem rcv_y {l:List T6}{x y h:Int}{i:Nat}(hi:i<l.length)(k:rhB x y h (g6 l i)=true):rcvB l x y h=true:=List.any_eq_true.2 ⟨_,cQ hi,k⟩
theorem rcv_n {l:List T6}{x y h:Int}(k:∀j:Nat,j<l.length->rhB x y h (g6 l j)=false):rcvB l x y h=false:=List.any_eq_false.2 fun b hb=>by
 obtain⟨j,hj,rfl⟩:=List.mem_iff_getElem.1 hb
 rw[<-show g6 l j=l[j] from jR hj,k j hj];decide
theorem rchk_c (H:aa)(W Hh:Int)(pp:AV)(xs:List Int)(hpp:zI H pp xs):zC 56 [.agg [iV W,iV Hh,pp]] H (iV (gg W Hh xs)) H:=by
 obtain⟨bpp,opp,cpp,rfl,hbpp,hblpp,hb0pp⟩:=zA1 hpp
 refine AcT true func56 ?_;intro hbel Q hQ
 have G1:=jn @hbpp @hb0pp
 refine ae G1 ?_
 refine cv (mj _ W Hh _ xs (.inr (zA2 hb0pp hbpp))) ?_
 refine rcs G1 (fun h1 h1d G2=>?_) (fun h1 h1d G3=>?_)
 ·have hfinE:gg W Hh xs=1:=by unfold gg;rw[h1d];rfl
  exact eR G2 hQ hbel (iV 1) results56 ⟨by first|(rw[hfinE];done)|(rw[hfinE];rfl),rfl⟩
 have hfinV:=h1d
 refine ae G3 ?_
 refine cv (bld_c _ W _ _ xs (zA2 hb0pp hbpp)) ?_
 refine rcs G3 (fun h2 h2d G4=>?_) (fun h2 h2d G5=>?_)
 ·have hfinE:gg W Hh xs=3:=by unfold gg;rw[hfinV,h2d];rfl
  exact eR G4 hQ hbel (iV 3) results56 ⟨by first|(rw[hfinE];done)|(rw[hfinE];rfl),rfl⟩
 have hfinE:gg W Hh xs=0:=by unfold gg;rw[hfinV,h2d];rfl
 exact eR G5 hQ hbel (iV 0) results56 ⟨by first|(rw[hfinE];done)|(rw[hfinE];rfl),rfl⟩
theorem rgap_c (H:aa)(px py cx cy:Int)(kbpx : -2097152<=px/\px<=2097152)(kbpy : -2097152<=py/\py<=2097152)(kcx : -32768<=cx/\cx<=32768)(kcy : -32768<=cy/\cy<=32768):zC 109 [.agg [iV px,iV py],.agg [iV cx,iV cy]] H (iV (gapP px py (cx*64) (cy*64) (cx*64+64) (cy*64+64))) H:=by
 have hgx:=bes_bd (n:=px) (lo:=cx*64) (hi:=cx*64+64) (M:=4300000) (by omega) (by omega) (by omega)
 have hgy:=bes_bd (n:=py) (lo:=cy*64) (hi:=cy*64+64) (M:=4300000) (by omega) (by omega) (by omega)
 have hmx:=aH (a:=fG px (cx*64) (cx*64+64)) (b:=fG px (cx*64) (cx*64+64)) (A:=8600000) (B:=8600000) (by omega) (by omega)
 have hmy:=aH (a:=fG py (cy*64) (cy*64+64)) (b:=fG py (cy*64) (cy*64+64)) (A:=8600000) (B:=8600000) (by omega) (by omega)
 refine AcT true func109 ?_;intro hbel Q hQ
 have G6:=@bes_if
 refine ae G6 ?_
 refine cvr G6 (iR _ _ _ (by omega) (by omega)) ?_
 exact eP hQ hbel (iV (((fG px (cx*64) (cx*64+64))*(fG px (cx*64) (cx*64+64)))+((fG py (cy*64) (cy*64+64))*(fG py (cy*64) (cy*64+64))))) results109 ⟨rfl,rfl⟩
theorem rfits_c (H:aa)(W Hh:Int)(pp:AV)(xs:List Int)(x y:Int)(hpp:zI H pp xs)(hV:bQ W Hh xs=true)(hBl:dI W Hh xs=true)(hp:ptB x y=true):zC 59 [.agg [iV W,iV Hh,pp],.agg [iV x,iV y],iV 20] H (.bool (rfB W Hh xs x y)) H:=by
 obtain⟨bpp,opp,cpp,rfl,hbpp,hblpp,hb0pp⟩:=zA1 hpp
 have hVV:=bo.1 hV
 have hw0:=hVV.w0
 have hw1:=hVV.w1
 have hh0:=hVV.h0
 have hh1:=hVV.h1
 have hpp:=hp
 simp only[ptB,Bool.and_eq_true,aL] at hpp
 refine AcT true func59 ?_;intro hbel Q hQ
 have G7:=jn @hbpp (jn @hb0pp (jn @hBl @hp))
 refine ae G7 ?_
 refine cvr G7 (bld_c _ W _ _ xs (zA2 hb0pp hbpp)) ?_
 refine cvr G7 (bpt_c _ x y) ?_
 refine cdr G7 (fS _ x _ (by omega) (by omega)) ?_
 refine cdr G7 (fS _ y _ (by omega) (by omega)) ?_
 refine glp (fun k F Hx=>∃n:Nat,n+k=5/\(∀a:Nat,a<n->∀b:Nat,b<5->rfC W Hh xs x y a b=false)/\F=[(2,iV 20),(3,.ptr (some (H.length,0))),(4,.ptr (some (H.length+1,0))),(7,iV (x/64)),(8,iV (y/64)),(9,iV ((Int.tdiv 20 64)+2)),(10,iV (((y/64)-2)+(n:Int)))]/\Hx=H++[.cells true 0 [iV W,iV Hh,.sl (some (bpp,0)) xs.length cpp],.cells true 0 [iV x,iV y]]) (5) ?_ ?_
 ·refine⟨_,_,_,⟨0,by omega,fun a h=>by omega,rfl,rfl⟩,bS hbel [0,1] (aS (jn @Int.natCast_zero @Int.add_zero))⟩
 rintro k0 F Hx ⟨n,hm0,hon,rfl,rfl⟩ J0 hJ0
 refine rcs G7 (fun h1 h1d G8=>?_) (fun h1 h1d G15=>?_)
 ·have hnt:n<5:=by omega
  refine ae G8 ?_
  refine glp (fun k F Hx=>∃m:Nat,m+k=5/\(∀b:Nat,b<m->rfC W Hh xs x y n b=false)/\F=[(2,iV 20),(3,.ptr (some (H.length,0))),(4,.ptr (some (H.length+1,0))),(7,iV (x/64)),(8,iV (y/64)),(9,iV ((Int.tdiv 20 64)+2)),(10,iV (((y/64)-2)+(n:Int))),(11,iV (((x/64)-2)+(m:Int)))]/\Hx=H++[.cells true 0 [iV W,iV Hh,.sl (some (bpp,0)) xs.length cpp],.cells true 0 [iV x,iV y]]) (5) ?_ ?_
  ·refine⟨_,_,_,⟨0,by omega,fun b h=>by omega,rfl,rfl⟩,bS hbel [0,1] (aS (jn @Int.natCast_zero @Int.add_zero))⟩
  rintro k1 F Hx ⟨m,hm1,him,rfl,rfl⟩ J1 hJ1
  refine rcs G8 (fun h2 h2d G9=>?_) (fun h2 h2d G14=>?_)
  ·have hmt:m<5:=by omega
   refine ae G9 ?_
   refine cv (at_c (x:=(((x/64)-2)+(m:Int))) (y:=(((y/64)-2)+(n:Int))) (bo.1 hV) (by first|exact hb0pp _|exact hbpp) rfl) ?_
   refine rgs G9 (fun h3 h3d _=>?_) (fun h3 h3d _=>?_)
   ·have h3n:=bnT h3
    have hat2:=h3d
    have G10:=jn h3 (jn h3n (jn @aP (jn @aO G9)))
    refine ae G10 ?_
    refine cv (rgap_c _ x y _ _ (by omega) (by omega) (by omega) (by omega)) ?_
    refine rcs G10 (fun h4 h4d G11=>?_) (fun h4 h4d G12=>?_)
    ·have hfinF:rfB W Hh xs x y=false:=rf_y (n:=n) (m:=m) hnt hmt (by unfold rfC;rw[show (atI W Hh xs (rfX x m) (rfX y n)==2)=true from beq_iff_eq.2 (by first|exact hat2|simpa using hat2),Bool.true_and];exact decide_eq_true h4d)
     exact eR G11 hQ hbel (.bool false) results59 ⟨by first|(rw[hfinF];done)|(rw[hfinF];rfl),rfl⟩
    have hbc:rfC W Hh xs x y n m=false:=by unfold rfC;rw[show decide (gapP x y (rfX x m*64) (rfX y n*64) (rfX x m*64+64) (rfX y n*64+64)<=400)=false from decide_eq_false (by first|exact h4d|exact Int.not_le.2 h4d),Bool.and_false]
    refine ae G12 ?_
    refine hJ1 _ _ ⟨k1-1,by omega,_,_,_,⟨m+1,by omega,fun b hb=>by
          rcases Nat.lt_or_ge b m with z|z
          ·exact him b z
          rw[show b=m by omega];exact hbc,rfl,rfl⟩,bS hbel [0,1] (aS (jn @Int.natCast_add (jn @Int.natCast_one @Int.add_assoc)))⟩
   have h3n:=bnT h3
   have hbc:rfC W Hh xs x y n m=false:=by unfold rfC;rw[show (atI W Hh xs (rfX x m) (rfX y n)==2)=false from beq_eq_false_iff_ne.2 (by first|exact h3d|simpa using h3d)];rfl
   have G13:=jn h3 (jn h3n (jn @aP (jn @aO G9)))
   refine ae G13 ?_
   refine hJ1 _ _ ⟨k1-1,by omega,_,_,_,⟨m+1,by omega,fun b hb=>by
         rcases Nat.lt_or_ge b m with z|z
         ·exact him b z
         rw[show b=m by omega];exact hbc,rfl,rfl⟩,bS hbel [0,1] (aS (jn @Int.natCast_add (jn @Int.natCast_one @Int.add_assoc)))⟩
  have hrow:∀b:Nat,b<5->rfC W Hh xs x y n b=false:=fun b hb=>him b (by omega)
  refine ae G14 ?_
  refine hJ0 _ _ ⟨k0-1,by omega,_,_,_,⟨n+1,by omega,fun a ha b hb=>by
        rcases Nat.lt_or_ge a n with z|z
        ·exact hon a z b hb
        rw[show a=n by omega];exact hrow b hb,rfl,rfl⟩,bS hbel [0,1] (aS (jn @Int.natCast_add (jn @Int.natCast_one @Int.add_assoc)))⟩
 have hfinF:rfB W Hh xs x y=true:=rf_n (fun a ha b hb=>hon a (by omega) b hb)
 exact eR G15 hQ hbel (.bool true) results59 ⟨by first|(rw[hfinF];done)|(rw[hfinF];rfl),rfl⟩
theorem rhas_c (H:aa)(x0 y0 x1 y1 f c px py ph:Int):zC 41 [.agg [iV x0,iV y0,iV x1,iV y1,iV f,iV c],.agg [iV px,iV py,iV ph]] H (.bool (rhB px py ph (x0,y0,x1,y1,f,c))) H:=by
 refine AcT true func41 ?_;intro hbel Q hQ
 refine aB ?_
 refine cd (bbx_c _ _ _ _ _ f c) ?_
 refine aB ?_
 refine aV (fun h1=>?_) (fun h1=>?_)
 ·have h1d:=bsT h1
  have hbxi:=bv.1 h1d
  have hbxa:=bm.1 hbxi.2.2
  have G16:=jn h1 @h1d
  refine rgs G16 (fun h2 h2d G17=>?_) (fun h2 h2d G24=>?_)
  ·refine rgs G17 (fun h3 h3d G18=>?_) (fun h3 h3d G23=>?_)
   ·refine rgs G18 (fun h4 h4d G19=>?_) (fun h4 h4d G22=>?_)
    ·refine rgs G19 (fun h5 h5d G20=>?_) (fun h5 h5d G21=>?_)
     ·refine ae G20 ?_
      refine cdr G20 (da _ _ _ (by omega) (by omega)) ?_
      refine cdr G20 (da _ _ _ (by omega) (by omega)) ?_
      exact eP hQ hbel (.bool (decide ((((((((ph%256).toNat:Nat):Int)-f)%256).toNat:Nat):Int)<c))) results41 ⟨by first|(simp[rhB,h1d,h2d,h3d,h4d,h5d];done)|(unfold rhB;simp[h1d,h2d,h3d,h4d,h5d];done)|(unfold rhB;simp[h1d,h2d,h3d,h4d,h5d];omega),rfl⟩
     exact eR G21 hQ hbel (.bool false) results41 ⟨by first|(simp[rhB,h1d,h2d,h3d,h4d,h5d];done)|(unfold rhB;simp[h1d,h2d,h3d,h4d,h5d];done)|(unfold rhB;simp[h1d,h2d,h3d,h4d,h5d];omega),rfl⟩
    exact eR G22 hQ hbel (.bool false) results41 ⟨by first|(simp[rhB,h1d,h2d,h3d,h4d];done)|(unfold rhB;simp[h1d,h2d,h3d,h4d];done)|(unfold rhB;simp[h1d,h2d,h3d,h4d];omega),rfl⟩
   exact eR G23 hQ hbel (.bool false) results41 ⟨by first|(simp[rhB,h1d,h2d,h3d];done)|(unfold rhB;simp[h1d,h2d,h3d];done)|(unfold rhB;simp[h1d,h2d,h3d];omega),rfl⟩
  exact eR G24 hQ hbel (.bool false) results41 ⟨by first|(simp[rhB,h1d,h2d];done)|(unfold rhB;simp[h1d,h2d];done)|(unfold rhB;simp[h1d,h2d];omega),rfl⟩
 have h1d:=bsT h1
 have G25:=jn h1 @h1d
 exact eR G25 hQ hbel (.bool false) results41 ⟨by first|(simp[rhB,h1d];done)|(unfold rhB;simp[h1d];done)|(unfold rhB;simp[h1d];omega),rfl⟩
theorem rcov_c (H:aa)(s:AV)(l:List T6)(px py ph:Int)(hs:Sl H 6 s l.length (r6 l))(hl:l.length<=1000000000):zC 12 [s,.agg [iV px,iV py,iV ph]] H (.bool (rcvB l px py ph)) H:=by
 obtain⟨bs,os,cs,rfl,hbs,hbls,hb0s⟩:=zA1 hs
 refine AcT true func12 ?_;intro hbel Q hQ
 have G26:=jn @hbs @hb0s
 refine ae G26 ?_
 refine glp (fun k F Hx=>∃i:Nat,i+k=l.length/\(∀j:Nat,j<i->rhB px py ph (g6 l j)=false)/\F=[(0,.sl (some (bs,0)) l.length cs),(3,.ptr (some (H.length,0))),(5,iV (i:Int))]/\Hx=H++[.cells true 0 [iV px,iV py,iV ph]]) (l.length) ?_ ?_
 ·refine⟨_,_,_,⟨0,by omega,(fun j h=>by omega),rfl,rfl⟩,bS hbel [0] aJ⟩
 rintro k0 F Hx ⟨i,hm0,hal,rfl,rfl⟩ J0 hJ0
 refine rcs G26 (fun h1 h1d _=>?_) (fun h1 h1d G30=>?_)
 ·have hlt:i<l.length:=by omega
  have q2:=dK (l:=l) (j:=i) (by omega)
  have G27:=jn h1 (jn h1d (jn @cN (jn q2 G26)))
  refine ae G27 ?_
  refine cd (rhas_c _ (g61 l i) (g62 l i) (g63 l i) (g64 l i) (g65 l i) (g66 l i) px py ph) ?_
  refine rcs G27 (fun h3 h3d G28=>?_) (fun h3 h3d G29=>?_)
  ·have hfinV:rcvB l px py ph=true:=rcv_y hlt h3d
   exact eR G28 hQ hbel (.bool true) results12 ⟨by first|(rw[hfinV];done)|(rw[hfinV];rfl),rfl⟩
  have hno:rhB px py ph (g6 l i)=false:=h3d
  refine ae G29 ?_
  refine hJ0 _ _ ⟨k0-1,by omega,_,_,_,⟨i+1,by omega,fun j hj=>by
        rcases Nat.lt_or_ge j i with h|h
        ·exact hal j h
        rw[show j=i by omega];exact hno,rfl,rfl⟩,bS hbel [0] aJ⟩
 obtain rfl:i=l.length:=by omega
 have hfinV:=rcv_n hal
 exact eR G30 hQ hbel (.bool false) results12 ⟨by first|(rw[hfinV];done)|(rw[hfinV];rfl),rfl⟩
theorem lY (H:aa)(px py vx vy vd cx cy:Int):zC 214 [.agg [iV px,iV py],.agg [iV vx,iV vy,iV vd],.agg [iV (cx*64),iV (cy*64),iV (cx*64+64),iV (cy*64+64)]] H (.tup [.agg [iV (mkV (rOC px py vx vy vd (cx,cy)) (enC px py vx vy vd (cx,cy))),iV (mkV (rOC px py vx vy vd (cx,cy)) (edC px py vx vy vd (cx,cy)))],.bool (rOC px py vx vy vd (cx,cy))]) H:=renter_c H px py vx vy vd (cx*64) (cy*64) (cx*64+64) (cy*64+64)
theorem rless_c (H:aa)(a b c d:Int)(ha:0<=a/\a<=562949953421312)(hb:0<b/\b<=67108864)(hc:0<=c/\c<=562949953421312)(hd:0<d/\d<=67108864):zC 215 [.agg [iV a,iV b],.agg [iV c,iV d]] H (.bool (decide (a*d<c*b))) H:=by
 have e1:Int.tdiv a b=a/b:=Int.tdiv_eq_ediv_of_nonneg ha.1
 have e2:Int.tdiv c d=c/d:=Int.tdiv_eq_ediv_of_nonneg hc.1
 have e3:Int.tmod a b=a%b:=Int.tmod_eq_emod_of_nonneg ha.1
 have e4:Int.tmod c d=c%d:=Int.tmod_eq_emod_of_nonneg hc.1
 have b1:=Int.emod_nonneg a (show b≠0 by omega)
 have b2:=Int.emod_lt_of_pos a hb.1
 have b3:=Int.emod_nonneg c (show d≠0 by omega)
 have b4:=Int.emod_lt_of_pos c hd.1
 have q1:=Int.ediv_nonneg ha.1 (show 0<=b by omega)
 have q2:=Int.ediv_nonneg hc.1 (show 0<=d by omega)
 have q3:a/b<=a:=Int.ediv_le_self b ha.1
 have q4:c/d<=c:=Int.ediv_le_self d hc.1
 have m1:=aH (a:=a%b) (b:=d) (A:=67108864) (B:=67108864) (by omega) (by omega)
 have m2:=aH (a:=c%d) (b:=b) (A:=67108864) (B:=67108864) (by omega) (by omega)
 have hl:=less_iff ha.1 hb.1 hc.1 hd.1
 refine AcT true func215 ?_;intro hbel Q hQ
 have G1:=jn @e1 (jn @e2 (jn @e3 @e4))
 refine rcs G1 (fun h1 h1d _=>?_) (fun h1 h1d _=>?_)
 ·have h1n:=bnT h1
  have hfinL:=hl
  rw[if_pos (by first|exact h1d|simpa using h1d)] at hfinL
  have G2:=jn h1 (jn h1n (jn @aP (jn @aO G1)))
  exact eR G2 hQ hbel (.bool (decide ((a/b)<(c/d)))) results215 ⟨congrArg AV.bool (decide_eq_decide.2 hfinL),rfl⟩
 have h1n:=bnT h1
 have hfinL:=hl
 rw[if_neg (fun k=>k (by first|exact h1d|simpa using h1d))] at hfinL
 have G3:=jn h1 (jn h1n (jn @aP (jn @aO G1)))
 exact eR G3 hQ hbel (.bool (decide (((a%b)*d)<((c%d)*b)))) results215 ⟨congrArg AV.bool (decide_eq_decide.2 hfinL),rfl⟩
theorem rin_c (H:aa)(W Hh:Int)(pp:AV)(xs:List Int)(x y:Int)(hpp:zI H pp xs):zC 212 [.agg [iV W,iV Hh,pp],.agg [iV x,iV y]] H (.bool (ge W Hh xs x y)) H:=by
 obtain⟨bpp,opp,cpp,rfl,hbpp,hblpp,hb0pp⟩:=zA1 hpp
 refine AcT true func212 ?_;intro hbel Q hQ
 have G4:=jn @hbpp @hb0pp
 refine ae G4 ?_
 refine cv (mj _ W Hh _ xs (.inr (zA2 hb0pp hbpp))) ?_
 refine rgs G4 (fun h1 h1d G5=>?_) (fun h1 h1d G12=>?_)
 ·have hVV:=bo.1 h1d
  have hw1:=hVV.w1
  have hw0:=hVV.w0
  have hh1:=hVV.h1
  have hh0:=hVV.h0
  refine rgs G5 (fun h2 h2d G6=>?_) (fun h2 h2d G11=>?_)
  ·refine rgs G6 (fun h3 h3d G7=>?_) (fun h3 h3d G10=>?_)
   ·refine rgs G7 (fun h4 h4d G8=>?_) (fun h4 h4d G9=>?_)
    ·exact eR G8 hQ hbel (.bool (decide (y<=(64*Hh)))) results212 ⟨by first|(simp[ge,h1d,h2d,h3d,h4d];done)|(simp[ge,h1d,h2d,h3d,h4d];omega),rfl⟩
    exact eR G9 hQ hbel (.bool false) results212 ⟨by first|(simp[ge,h1d,h2d,h3d,h4d];done)|(simp[ge,h1d,h2d,h3d,h4d];omega),rfl⟩
   exact eR G10 hQ hbel (.bool false) results212 ⟨by first|(simp[ge,h1d,h2d,h3d];done)|(simp[ge,h1d,h2d,h3d];omega),rfl⟩
  exact eR G11 hQ hbel (.bool false) results212 ⟨by first|(simp[ge,h1d,h2d];done)|(simp[ge,h1d,h2d];omega),rfl⟩
 exact eR G12 hQ hbel (.bool false) results212 ⟨by first|(simp[ge,h1d];done)|(simp[ge,h1d];omega),rfl⟩
theorem rgood_c (H:aa)(W Hh:Int)(pp:AV)(xs:List Int)(x y h:Int)(hpp:zI H pp xs):zC 160 [.agg [iV W,iV Hh,pp],.agg [iV x,iV y,iV h]] H (.bool (dN W Hh xs x y h)) H:=by
 obtain⟨bpp,opp,cpp,rfl,hbpp,hblpp,hb0pp⟩:=zA1 hpp
 refine AcT true func160 ?_;intro hbel Q hQ
 have G13:=jn @hbpp @hb0pp
 refine ae G13 ?_
 refine cv (rin_c _ W _ _ xs x y (zA2 hb0pp hbpp)) ?_
 refine rgs G13 (fun h1 h1d G14=>?_) (fun h1 h1d G15=>?_)
 ·refine ae G14 ?_
  refine cvr G14 (kh _ x y h) ?_
  exact eP hQ hbel (.bool (dd x y h)) results160 ⟨by first|(simp[dN,h1d];done)|(unfold dN;simp[h1d];done),rfl⟩
 exact eR G15 hQ hbel (.bool false) results160 ⟨by first|(simp[dN,h1d];done)|(unfold dN;simp[h1d];done),rfl⟩
theorem rfirst_c (H:aa)(W Hh:Int)(pp:AV)(xs:List Int)(px py vx vy vd most:Int)(hpp:zI H pp xs)(hi:ge W Hh xs px py=true)(hv:du vx vy vd=true)(hm:0<=most/\most<=2048):zC 161 [.agg [iV W,iV Hh,pp],.agg [iV px,iV py],.agg [iV vx,iV vy,iV vd],iV most] H (.tup [.agg [iV (fsN px py vx vy vd (fsZ W Hh xs px py vx vy vd most)),iV (fsDn px py vx vy vd (fsZ W Hh xs px py vx vy vd most))],.agg [iV (oX (fsZ W Hh xs px py vx vy vd most)),iV (oY (fsZ W Hh xs px py vx vy vd most))],.bool ((fsZ W Hh xs px py vx vy vd most).isSome)]) H:=by
 obtain⟨bpp,opp,cpp,rfl,hbpp,hblpp,hb0pp⟩:=zA1 hpp
 have hma:=decide_eq_false (show ¬most<0 by omega)
 have hmb:=decide_eq_false (show ¬2048<most by omega)
 have hV:=(iC.1 hi).1
 have hVV:=bo.1 hV
 have hw1:=hVV.w1
 have hw0:=hVV.w0
 have hh1:=hVV.h1
 have hh0:=hVV.h0
 (refine bh func161 _ rfl (Nat.le_of_ble_eq_true (by kernel_rfl)) rfl ?_;intro hbel Q hQ hQ' c hc;unfold Tryz.f161 at hc;simp only[Option.some.injEq] at hc;subst hc;clear hQ')
 refine zQT hQ fun Q1 hn1 hQ1 he1=>?_
 have G16:=jn @hbpp (jn @hb0pp (jn @hi (jn @hv (jn @hma @hmb))))
 refine ae G16 ?_
 refine hn1 _ _ (zQT hQ fun Q2 hn2 hQ2 he2=>?_)
 refine ae G16 ?_
 refine hn2 _ _ (zQT hQ fun Q3 hn3 hQ3 he3=>?_)
 refine ae G16 ?_
 refine hn3 _ _ (zQT hQ fun Q4 hn4 hQ4 he4=>?_)
 refine ae G16 ?_
 refine hn4 _ _ (sqR hQ fun Q5 hn5 hQ5 he5=>?_)
 refine zQT hQ5 fun Q6 hn6 hQ6 he6=>?_
 refine ae G16 ?_
 refine cvr G16 (rin_c _ W _ _ xs _ _ (zA2 hb0pp hbpp)) ?_
 refine cvr G16 (bvec_c _ _ _ _) ?_
 refine hn6 _ _ ?_
 refine dR false (by rfl) (fun h=>by cases h) (fun h=>?_)
 refine fnT ?_
 refine ae G16 ?_
 refine hn5 _ _ (sqR hQ fun Q7 hn7 hQ7 he7=>?_)
 refine zQT hQ7 fun Q8 hn8 hQ8 he8=>?_
 refine ae G16 ?_
 refine hn8 _ _ ?_
 refine bkR hQ7 fun Q9 hn9 hQ9 he9 hb9=>?_
 refine gG (fun k F Hx=>∃n:Nat,n+k=(Hh+2).toNat/\F=[(3,iV most),(4,.ptr (some (H.length,0))),(5,.ptr (some (H.length+1,0))),(6,.ptr (some (H.length+2,0))),(8,.ptr (some (H.length+3,0))),(9,.ptr (some (H.length+4,0))),(11,.ptr (some (H.length+5,0))),(12,.ptr (some (H.length+6,0))),(13,.bool ((fsA W Hh xs px py vx vy vd most n 0).isSome)),(14,iV ((-1)+(n:Int)))]/\Hx=H++[.cells true 0 [iV W,iV Hh,.sl (some (bpp,0)) xs.length cpp],.cells true 0 [iV px,iV py],.cells true 0 [iV vx,iV vy,iV vd],.cells true 0 [iV 0,iV 0],.cells true 0 [iV 0,iV 0],.cells true 0 [iV (fsN px py vx vy vd (fsA W Hh xs px py vx vy vd most n 0)),iV (fsDn px py vx vy vd (fsA W Hh xs px py vx vy vd most n 0))],.cells true 0 [iV (oX (fsA W Hh xs px py vx vy vd most n 0)),iV (oY (fsA W Hh xs px py vx vy vd most n 0))]]) ((Hh+2).toNat) ?_ ?_
 ·refine⟨_,_,_,⟨0,by omega,rfl,rfl⟩,bS hbel [0,1,2,3,4,5,6] (aS (jn @fsA_0 (jn @fsN.eq_1 (jn @fsDn.eq_1 (jn @oX.eq_1 (jn @oY.eq_1 (jn @Option.isSome_none.{0} (jn @Int.natCast_zero @Int.add_zero))))))))⟩
 rintro k0 F Hx ⟨n,hm0,rfl,rfl⟩ Q10 hJ0 hr10 he10
 have hQ10:=fun F H' h=>hr10 F H' (hQ9 F H' h)
 refine zQT hQ10 fun Q11 hn11 hQ11 he11=>?_
 refine rcs G16 (fun h1 h1d G17=>?_) (fun h1 h1d G30=>?_)
 ·refine ae G17 ?_
  refine hn11 _ _ (sqR hQ10 fun Q12 hn12 hQ12 he12=>?_)
  refine bkR hQ12 fun Q13 hn13 hQ13 he13 hb13=>?_
  refine zQT hQ13 fun Q14 hn14 hQ14 he14=>?_
  refine ae G17 ?_
  refine hn14 _ _ ?_
  refine bkR hQ13 fun Q15 hn15 hQ15 he15 hb15=>?_
  refine gG (fun k F Hx=>∃m:Nat,m+k=(W+2).toNat/\F=[(3,iV most),(4,.ptr (some (H.length,0))),(5,.ptr (some (H.length+1,0))),(6,.ptr (some (H.length+2,0))),(8,.ptr (some (H.length+3,0))),(9,.ptr (some (H.length+4,0))),(11,.ptr (some (H.length+5,0))),(12,.ptr (some (H.length+6,0))),(13,.bool ((fsA W Hh xs px py vx vy vd most n m).isSome)),(14,iV ((-1)+(n:Int))),(15,iV ((-1)+(m:Int)))]/\Hx=H++[.cells true 0 [iV W,iV Hh,.sl (some (bpp,0)) xs.length cpp],.cells true 0 [iV px,iV py],.cells true 0 [iV vx,iV vy,iV vd],.cells true 0 [iV 0,iV 0],.cells true 0 [iV 0,iV 0],.cells true 0 [iV (fsN px py vx vy vd (fsA W Hh xs px py vx vy vd most n m)),iV (fsDn px py vx vy vd (fsA W Hh xs px py vx vy vd most n m))],.cells true 0 [iV (oX (fsA W Hh xs px py vx vy vd most n m)),iV (oY (fsA W Hh xs px py vx vy vd most n m))]]) ((W+2).toNat) ?_ ?_
  ·refine⟨_,_,_,⟨0,by omega,rfl,rfl⟩,bS hbel [0,1,2,3,4,5,6] (aS (jn @Int.natCast_zero @Int.add_zero))⟩
  rintro k1 F Hx ⟨m,hm1,rfl,rfl⟩ Q16 hJ1 hr16 he16
  have hQ16:=fun F H' h=>hr16 F H' (hQ15 F H' h)
  refine zQT hQ16 fun Q17 hn17 hQ17 he17=>?_
  refine rcs G17 (fun h2 h2d G18=>?_) (fun h2 h2d G29=>?_)
  ·refine ae G18 ?_
   refine hn17 _ _ (sqR hQ16 fun Q18 hn18 hQ18 he18=>?_)
   refine bkR hQ18 fun Q19 hn19 hQ19 he19 hb19=>?_
   refine zQT hQ19 fun Q20 hn20 hQ20 he20=>?_
   refine ae G18 ?_
   refine hn20 _ _ (zQT hQ19 fun Q21 hn21 hQ21 he21=>?_)
   refine ae G18 ?_
   refine cv (at_c (x:=((-1)+(m:Int))) (y:=((-1)+(n:Int))) (bo.1 hV) (by first|exact hb0pp _|exact hbpp) rfl) ?_
   refine rcs G18 (fun h3 h3d _=>?_) (fun h3 h3d _=>?_)
   ·have h3n:=bnT h3
    have hst:fsA W Hh xs px py vx vy vd most n (m+1)=fsA W Hh xs px py vx vy vd most n m:=fsA_s.trans (lW (by unfold fsQ;rw[beq_eq_false_iff_ne.2 (by first|exact h3d|simpa using h3d)];rfl))
    have hs1:=hst
    have hs2:=hst
    have hs3:=hst
    have G19:=jn h3 (jn h3n (jn @aP (jn @aO G18)))
    refine ae G19 ?_
    refine he21 _ _ _ ?_
    refine hb19 _ _ ?_
    refine hn18 _ _ ?_
    refine fnT ?_
    refine ae G19 ?_
    refine hJ1 _ _ ⟨k1-1,by omega,_,_,_,⟨m+1,by omega,rfl,rfl⟩,bS hbel [0,1,2,3,4,5,6] (aS (jn @hst (jn @hs1 (jn @hs2 (jn @hs3 (jn @oX.eq_2 (jn @oY.eq_2 (jn @Option.isSome_some.{0} (jn @Int.natCast_add (jn @Int.natCast_one @Int.add_assoc))))))))))⟩
   have h3n:=bnT h3
   have hat:atI W Hh xs ((-1)+(m:Int)) ((-1)+(n:Int))=2:=by first|exact h3d|simpa using h3d
   have G20:=jn h3 (jn h3n (jn @aP (jn @aO G18)))
   refine ae G20 ?_
   refine hn21 _ _ ?_
   refine bt true try_mixed [[0,1,2,3,4,5,6,7,8,9,10],[0,1,2,3,8,4,5,6,7,9,10],[0,1,2,8,3,4,5,6,7,9,10]] (by kernel_rfl) (fun F2 H2=>F2=[(3,iV most),(4,.ptr (some (H.length,0))),(5,.ptr (some (H.length+1,0))),(6,.ptr (some (H.length+2,0))),(8,.ptr (some (H.length+3,0))),(9,.ptr (some (H.length+4,0))),(11,.ptr (some (H.length+5,0))),(12,.ptr (some (H.length+6,0))),(13,.bool ((fsA W Hh xs px py vx vy vd most n m).isSome)),(14,iV ((-1)+(n:Int))),(15,iV ((-1)+(m:Int))),(16,.ptr (some (H.length+7,0))),(17,.ptr (some (H.length+8,0))),(18,.bool (rOC px py vx vy vd ((-1)+(m:Int),(-1)+(n:Int))))]/\H2=H++[.cells true 0 [iV W,iV Hh,.sl (some (bpp,0)) xs.length cpp],.cells true 0 [iV px,iV py],.cells true 0 [iV vx,iV vy,iV vd],.cells true 0 [iV 0,iV 0],.cells true 0 [iV 0,iV 0],.cells true 0 [iV (fsN px py vx vy vd (fsA W Hh xs px py vx vy vd most n m)),iV (fsDn px py vx vy vd (fsA W Hh xs px py vx vy vd most n m))],.cells true 0 [iV (oX (fsA W Hh xs px py vx vy vd most n m)),iV (oY (fsA W Hh xs px py vx vy vd most n m))],.cells true 0 [iV ((-1)+(m:Int)),iV ((-1)+(n:Int))],.cells true 0 [iV (mkV (rOC px py vx vy vd ((-1)+(m:Int),(-1)+(n:Int))) (enC px py vx vy vd ((-1)+(m:Int),(-1)+(n:Int)))),iV (mkV (rOC px py vx vy vd ((-1)+(m:Int),(-1)+(n:Int))) (edC px py vx vy vd ((-1)+(m:Int),(-1)+(n:Int))))]]) ?_ ?_
   ·refine aj ?_ (aj ?_ (aj ?_ (bu)))<;>intro J hJ
    ·refine ag G20 ?_
     refine cd (iR _ _ _ (by omega) (by omega)) ?_
     refine ag G20 ?_
     refine cd (lY _ _ _ _ _ _ ((-1)+(m:Int)) ((-1)+(n:Int))) ?_
     refine ag G20 ?_
     refine aq (hJ _ _ ⟨_,_,_,⟨rfl,rfl⟩,bS hbel [0,1,2,3,4,5,6,7,8] aJ⟩)
    ·refine ag G20 ?_
     refine cd (iR _ _ _ (by omega) (by omega)) ?_
     refine ag G20 ?_
     refine cd (lY _ _ _ _ _ _ ((-1)+(m:Int)) ((-1)+(n:Int))) ?_
     refine ag G20 ?_
     refine aq (hJ _ _ ⟨_,_,_,⟨rfl,rfl⟩,bS hbel [0,1,2,3,4,5,6,7,8] aJ⟩)
    refine ag G20 ?_
    refine cd (iR _ _ _ (by omega) (by omega)) ?_
    refine ag G20 ?_
    refine cd (lY _ _ _ _ _ _ ((-1)+(m:Int)) ((-1)+(n:Int))) ?_
    refine ag G20 ?_
    refine aq (hJ _ _ ⟨_,_,_,⟨rfl,rfl⟩,bS hbel [0,1,2,3,4,5,6,7,8] aJ⟩)
   rintro F2 H2 ⟨rfl,rfl⟩
   refine fnT ?_
   refine rgs G20 (fun h4 h4d G21=>?_) (fun h4 h4d G28=>?_)
   ·have hr:=h4d
    have heb:(0<=enC px py vx vy vd ((-1)+(m:Int),(-1)+(n:Int))/\enC px py vx vy vd ((-1)+(m:Int),(-1)+(n:Int))<=562949953421312)/\0<edC px py vx vy vd ((-1)+(m:Int),(-1)+(n:Int))/\edC px py vx vy vd ((-1)+(m:Int),(-1)+(n:Int))<=67108864:=(en_bd hr).1
    refine ae G21 ?_
    refine cv (rless_c _ most 1 (enC px py vx vy vd ((-1)+(m:Int),(-1)+(n:Int))) (edC px py vx vy vd ((-1)+(m:Int),(-1)+(n:Int))) (by omega) (by omega) (by omega) (by omega)) ?_
    refine rgs G21 (fun h5 h5d G22=>?_) (fun h5 h5d G27=>?_)
    ·have hle:=decide_eq_false h5d
     have hQ:fsQ W Hh xs px py vx vy vd most ((-1)+(m:Int),(-1)+(n:Int))=true:=by unfold fsQ;rw[hat,hr,hle];rfl
     refine rgs G22 (fun h6 h6d G23=>?_) (fun h6 h6d G26=>?_)
     ·have hsm:=h6d
      obtain⟨bb,hbb⟩:=Option.isSome_iff_exists.1 h6d
      have hbd0:=fsA_bd hbb
      have hn1:fsN px py vx vy vd (fsA W Hh xs px py vx vy vd most n m)=(fsD px py vx vy vd bb).1:=by rw[hbb];rfl
      have hn2:fsDn px py vx vy vd (fsA W Hh xs px py vx vy vd most n m)=(fsD px py vx vy vd bb).2:=by rw[hbb];rfl
      refine ae G23 ?_
      refine cv (rless_c _ (enC px py vx vy vd ((-1)+(m:Int),(-1)+(n:Int))) (edC px py vx vy vd ((-1)+(m:Int),(-1)+(n:Int))) (fsN px py vx vy vd (fsA W Hh xs px py vx vy vd most n m)) (fsDn px py vx vy vd (fsA W Hh xs px py vx vy vd most n m)) (by omega) (by omega) (by omega) (by omega)) ?_
      refine rcs G23 (fun h7 h7d G24=>?_) (fun h7 h7d G25=>?_)
      ·have hst:fsA W Hh xs px py vx vy vd most n (m+1)=some ((-1)+(m:Int),(-1)+(n:Int)):=fsA_s.trans (by rw[hbb];exact sf hQ (by rw[fj hr,<-hn1,<-hn2];exact h7d))
       have hs1:fsN px py vx vy vd (some ((-1)+(m:Int),(-1)+(n:Int)))=enC px py vx vy vd ((-1)+(m:Int),(-1)+(n:Int)):=congrArg Prod.fst (fj hr)
       have hs2:fsDn px py vx vy vd (some ((-1)+(m:Int),(-1)+(n:Int)))=edC px py vx vy vd ((-1)+(m:Int),(-1)+(n:Int)):=congrArg Prod.snd (fj hr)
       have hs3:=hst
       refine ae G24 ?_
       refine hn19 _ _ ?_
       refine hn18 _ _ ?_
       refine fnT ?_
       refine ae G24 ?_
       refine hJ1 _ _ ⟨k1-1,by omega,_,_,_,⟨m+1,by omega,rfl,rfl⟩,bS hbel [0,1,2,3,4,5,6] (aS (jn @hst (jn @hs1 (jn @hs2 (jn @hs3 (jn @oX.eq_2 (jn @oY.eq_2 (jn @Option.isSome_some.{0} (jn @Int.natCast_add (jn @Int.natCast_one @Int.add_assoc))))))))))⟩
      have hst:fsA W Hh xs px py vx vy vd most n (m+1)=fsA W Hh xs px py vx vy vd most n m:=fsA_s.trans (by rw[hbb];exact sD (by rw[fj hr,<-hn1,<-hn2];exact h7d))
      have hs1:=hst
      have hs2:=hst
      have hs3:=hsm
      refine ae G25 ?_
      refine hn19 _ _ ?_
      refine hn18 _ _ ?_
      refine fnT ?_
      refine ae G25 ?_
      refine hJ1 _ _ ⟨k1-1,by omega,_,_,_,⟨m+1,by omega,rfl,rfl⟩,bS hbel [0,1,2,3,4,5,6] (aS (jn @hst (jn @hs1 (jn @hs2 (jn @hs3 (jn @oX.eq_2 (jn @oY.eq_2 (jn @Option.isSome_some.{0} (jn @Int.natCast_add (jn @Int.natCast_one @Int.add_assoc))))))))))⟩
     have hnn:(fsA W Hh xs px py vx vy vd most n m)=none:=by simpa using h6d
     have hst:fsA W Hh xs px py vx vy vd most n (m+1)=some ((-1)+(m:Int),(-1)+(n:Int)):=fsA_s.trans (by rw[hnn];exact sE hQ)
     have hs1:fsN px py vx vy vd (some ((-1)+(m:Int),(-1)+(n:Int)))=enC px py vx vy vd ((-1)+(m:Int),(-1)+(n:Int)):=congrArg Prod.fst (fj hr)
     have hs2:fsDn px py vx vy vd (some ((-1)+(m:Int),(-1)+(n:Int)))=edC px py vx vy vd ((-1)+(m:Int),(-1)+(n:Int)):=congrArg Prod.snd (fj hr)
     have hs3:=hst
     refine ae G26 ?_
     refine hn19 _ _ ?_
     refine hn18 _ _ ?_
     refine fnT ?_
     refine ae G26 ?_
     refine hJ1 _ _ ⟨k1-1,by omega,_,_,_,⟨m+1,by omega,rfl,rfl⟩,bS hbel [0,1,2,3,4,5,6] (aS (jn @hst (jn @hs1 (jn @hs2 (jn @hs3 (jn @oX.eq_2 (jn @oY.eq_2 (jn @Option.isSome_some.{0} (jn @Int.natCast_add (jn @Int.natCast_one @Int.add_assoc))))))))))⟩
    have hst:fsA W Hh xs px py vx vy vd most n (m+1)=fsA W Hh xs px py vx vy vd most n m:=fsA_s.trans (lW (by unfold fsQ;rw[decide_eq_true h5d];simp))
    have hs1:=hst
    have hs2:=hst
    have hs3:=hst
    refine ae G27 ?_
    refine hn19 _ _ ?_
    refine hn18 _ _ ?_
    refine fnT ?_
    refine ae G27 ?_
    refine hJ1 _ _ ⟨k1-1,by omega,_,_,_,⟨m+1,by omega,rfl,rfl⟩,bS hbel [0,1,2,3,4,5,6] (aS (jn @hst (jn @hs1 (jn @hs2 (jn @hs3 (jn @oX.eq_2 (jn @oY.eq_2 (jn @Option.isSome_some.{0} (jn @Int.natCast_add (jn @Int.natCast_one @Int.add_assoc))))))))))⟩
   have hst:fsA W Hh xs px py vx vy vd most n (m+1)=fsA W Hh xs px py vx vy vd most n m:=fsA_s.trans (lW (by unfold fsQ;rw[h4d];simp))
   have hs1:=hst
   have hs2:=hst
   have hs3:=hst
   refine ae G28 ?_
   refine hn19 _ _ ?_
   refine hn18 _ _ ?_
   refine fnT ?_
   refine ae G28 ?_
   refine hJ1 _ _ ⟨k1-1,by omega,_,_,_,⟨m+1,by omega,rfl,rfl⟩,bS hbel [0,1,2,3,4,5,6] (aS (jn @hst (jn @hs1 (jn @hs2 (jn @hs3 (jn @oX.eq_2 (jn @oY.eq_2 (jn @Option.isSome_some.{0} (jn @Int.natCast_add (jn @Int.natCast_one @Int.add_assoc))))))))))⟩
  obtain rfl:m=(W+2).toNat:=by omega
  refine ae G29 ?_
  refine he17 _ _ _ ?_
  refine he16 _ _ _ ?_
  refine hb15 _ _ ?_
  refine hn13 _ _ ?_
  refine hn12 _ _ ?_
  refine fnT ?_
  refine ae G29 ?_
  refine hJ0 _ _ ⟨k0-1,by omega,_,_,_,⟨n+1,by omega,rfl,rfl⟩,bS hbel [0,1,2,3,4,5,6] (aS (jn @fsA_w (jn @Int.natCast_add (jn @Int.natCast_one @Int.add_assoc))))⟩
 obtain rfl:n=(Hh+2).toNat:=by omega
 refine ae G30 ?_
 refine he11 _ _ _ ?_
 refine he10 _ _ _ ?_
 refine hb9 _ _ ?_
 refine hn7 _ _ ?_
 refine bt true try_mixed [[0,1,2,3,4,5],[0,2,3,1,4,5]] (by kernel_rfl) (fun F2 H2=>F2=[(8,.ptr (some (H.length,0))),(9,.ptr (some (H.length+1,0))),(10,.bool ((fsA W Hh xs px py vx vy vd most (Hh+2).toNat 0).isSome))]/\H2=H++[.cells true 0 [iV (fsN px py vx vy vd (fsA W Hh xs px py vx vy vd most (Hh+2).toNat 0)),iV (fsDn px py vx vy vd (fsA W Hh xs px py vx vy vd most (Hh+2).toNat 0))],.cells true 0 [iV (oX (fsA W Hh xs px py vx vy vd most (Hh+2).toNat 0)),iV (oY (fsA W Hh xs px py vx vy vd most (Hh+2).toNat 0))]]) ?_ ?_
 ·refine aj ?_ (aj ?_ (bu))<;>intro J hJ
  ·refine ag G30 ?_
   refine aq (hJ _ _ ⟨_,_,_,⟨rfl,rfl⟩,bS hbel [3,4] aJ⟩)
  refine ag G30 ?_
  refine aq (hJ _ _ ⟨_,_,_,⟨rfl,rfl⟩,bS hbel [3,4] aJ⟩)
 rintro F2 H2 ⟨rfl,rfl⟩
 refine fnT ?_
 exact eR G30 hQ hbel (.tup [.agg [iV (fsN px py vx vy vd (fsA W Hh xs px py vx vy vd most (Hh+2).toNat 0)),iV (fsDn px py vx vy vd (fsA W Hh xs px py vx vy vd most (Hh+2).toNat 0))],.agg [iV (oX (fsA W Hh xs px py vx vy vd most (Hh+2).toNat 0)),iV (oY (fsA W Hh xs px py vx vy vd most (Hh+2).toNat 0))],.bool ((fsA W Hh xs px py vx vy vd most (Hh+2).toNat 0).isSome)]) results161 ⟨rfl,rfl⟩
theorem dF (H:aa)(W Hh:Int)(pp:AV)(xs:List Int)(x y h m:Int)(hpp:zI H pp xs)(hi:ge W Hh xs x y=true):zC 161 [.agg [iV W,iV Hh,pp],.agg [iV x,iV y],.agg [iV (aG h m).1,iV (aG h m).2.1,iV (aG h m).2.2],iV 1024] H (.tup [.agg [iV (fbN W Hh xs x y h m),iV (fbD W Hh xs x y h m)],.agg [iV (oX (fsB W Hh xs x y h m)),iV (oY (fsB W Hh xs x y h m))],.bool (fsB W Hh xs x y h m).isSome]) H:=rfirst_c H W Hh pp xs x y _ _ _ 1024 hpp hi (beam_ok h m) (by omega)
theorem rmeas_c (H:aa)(W Hh:Int)(pp:AV)(xs:List Int)(x y h m g e:Int)(hpp:zI H pp xs)(hG:dN W Hh xs x y h=true)(hg:1<=g/\g<=32):zC 114 [.agg [iV W,iV Hh,pp],.agg [iV x,iV y,iV h],iV m,iV g,iV e] H (.tup [iV (iD W Hh xs x y h g m e),iV (dO m)]) H:=by
 obtain⟨bpp,opp,cpp,rfl,hbpp,hblpp,hb0pp⟩:=zA1 hpp
 have hga:=decide_eq_false (show ¬g<1 by omega)
 have hgb:=decide_eq_false (show ¬32<g by omega)
 have hip:ge W Hh xs x y=true:=by have q:=hG;unfold dN at q;rw[Bool.and_eq_true] at q;exact q.1
 have hcl:=clgb (n:=e) (lo:=1-g) (hi:=g) (by omega)
 have htd:∀a b:Int,0<=a->Int.tdiv a b=a/b:=fun a b h=>Int.tdiv_eq_ediv_of_nonneg h
 have hzz:(if 0<(fbN W Hh xs x y h m)/(fbD W Hh xs x y h m)+af e (1-g) g then (fbN W Hh xs x y h m)/(fbD W Hh xs x y h m)+af e (1-g) g else 0)=zzI W Hh xs x y h g m e:=rfl
 (refine bh func114 _ rfl (Nat.le_of_ble_eq_true (by kernel_rfl)) rfl ?_;intro hbel Q hQ hQ' c hc;unfold Tryz.f114 at hc;simp only[Option.some.injEq] at hc;subst hc;clear hQ')
 refine zQT hQ fun Q1 hn1 hQ1 he1=>?_
 have G1:=jn @hbpp (jn @hb0pp (jn @hG (jn @hga (jn @hgb (jn @htd @hzz)))))
 refine ae G1 ?_
 refine hn1 _ _ (zQT hQ fun Q2 hn2 hQ2 he2=>?_)
 refine ae G1 ?_
 refine cvr G1 (rgood_c _ W _ _ xs x y h (zA2 hb0pp hbpp)) ?_
 refine hn2 _ _ (zQT hQ fun Q3 hn3 hQ3 he3=>?_)
 refine rgs G1 (fun h1 h1d G2=>?_) (fun h1 h1d G9=>?_)
 ·refine rcs G2 (fun h2 h2d G3=>?_) (fun h2 h2d G4=>?_)
  ·have hfinM:dj m=false:=by unfold dj;rw[decide_eq_false (show ¬m<=255 by omega)];simp
   exact eR G3 hQ3 hbel (.tup [iV 0,iV 2]) results114 ⟨by first|(unfold iD dO;rw[hfinM,hfinZ];rfl)|(unfold iD dO;rw[hfinM];rfl),rfl⟩
  have hfinM:dj m=true:=by unfold dj;rw[decide_eq_true (by omega),decide_eq_true (by omega)];rfl
  refine ae G4 ?_
  refine hn3 _ _ ?_
  refine bt true try_mixed [[0,1,2,3,4,5,6,7,8,9,10,11,12,13,14,15,16,17,18,19],[0,1,2,3,4,5,6,7,8,9,10,11,12,13,14,16,15,17,18,19],[0,1,2,3,4,5,6,7,8,9,16,10,11,12,13,14,15,17,18,19],[0,1,2,3,4,5,6,7,8,16,9,10,11,12,13,14,15,17,18,19],[0,1,2,3,4,5,6,7,8,9,15,10,11,12,13,14,16,17,18,19],[0,1,2,3,4,5,6,7,8,9,15,16,10,11,12,13,14,17,18,19],[0,1,2,3,4,5,6,7,8,9,16,15,10,11,12,13,14,17,18,19],[0,1,2,3,4,5,6,7,8,16,9,15,10,11,12,13,14,17,18,19],[0,1,2,3,4,5,6,7,8,15,9,10,11,12,13,14,16,17,18,19],[0,1,2,3,4,5,6,7,8,15,9,16,10,11,12,13,14,17,18,19],[0,1,2,3,4,5,6,7,8,15,16,9,10,11,12,13,14,17,18,19],[0,1,2,3,4,5,6,7,8,16,15,9,10,11,12,13,14,17,18,19]] (by kernel_rfl) (fun F2 H2=>F2=[(3,iV g),(4,iV e),(10,iV 0),(11,iV 0),(12,.ptr (some (H.length,0))),(14,.bool ((fsB W Hh xs x y h m).isSome))]/\H2=H++[.cells true 0 [iV (fbN W Hh xs x y h m),iV (fbD W Hh xs x y h m)]]) ?_ ?_
  ·refine aj ?_ (aj ?_ (aj ?_ (aj ?_ (aj ?_ (aj ?_ (aj ?_ (aj ?_ (aj ?_ (aj ?_ (aj ?_ (aj ?_ (bu))))))))))))<;>intro J hJ
   ·refine ag G4 ?_
    refine cd (eE _ h m) ?_
    refine ag G4 ?_
    refine cd (dF _ W _ _ xs x y h m (zA2 hb0pp hbpp) (by assumption)) ?_
    refine ag G4 ?_
    refine aq (hJ _ _ ⟨_,_,_,⟨rfl,rfl⟩,bS hbel [2] aJ⟩)
   ·refine ag G4 ?_
    refine cd (eE _ h m) ?_
    refine ag G4 ?_
    refine cd (dF _ W _ _ xs x y h m (zA2 hb0pp hbpp) (by assumption)) ?_
    refine ag G4 ?_
    refine aq (hJ _ _ ⟨_,_,_,⟨rfl,rfl⟩,bS hbel [3] aJ⟩)
   ·refine ag G4 ?_
    refine cd (eE _ h m) ?_
    refine ag G4 ?_
    refine cd (dF _ W _ _ xs x y h m (zA2 hb0pp hbpp) (by assumption)) ?_
    refine ag G4 ?_
    refine aq (hJ _ _ ⟨_,_,_,⟨rfl,rfl⟩,bS hbel [3] aJ⟩)
   ·refine ag G4 ?_
    refine cd (eE _ h m) ?_
    refine ag G4 ?_
    refine cd (dF _ W _ _ xs x y h m (zA2 hb0pp hbpp) (by assumption)) ?_
    refine ag G4 ?_
    refine aq (hJ _ _ ⟨_,_,_,⟨rfl,rfl⟩,bS hbel [3] aJ⟩)
   ·refine ag G4 ?_
    refine cd (eE _ h m) ?_
    refine ag G4 ?_
    refine cd (dF _ W _ _ xs x y h m (zA2 hb0pp hbpp) (by assumption)) ?_
    refine ag G4 ?_
    refine aq (hJ _ _ ⟨_,_,_,⟨rfl,rfl⟩,bS hbel [2] aJ⟩)
   ·refine ag G4 ?_
    refine cd (eE _ h m) ?_
    refine ag G4 ?_
    refine cd (dF _ W _ _ xs x y h m (zA2 hb0pp hbpp) (by assumption)) ?_
    refine ag G4 ?_
    refine aq (hJ _ _ ⟨_,_,_,⟨rfl,rfl⟩,bS hbel [2] aJ⟩)
   ·refine ag G4 ?_
    refine cd (eE _ h m) ?_
    refine ag G4 ?_
    refine cd (dF _ W _ _ xs x y h m (zA2 hb0pp hbpp) (by assumption)) ?_
    refine ag G4 ?_
    refine aq (hJ _ _ ⟨_,_,_,⟨rfl,rfl⟩,bS hbel [3] aJ⟩)
   ·refine ag G4 ?_
    refine cd (eE _ h m) ?_
    refine ag G4 ?_
    refine cd (dF _ W _ _ xs x y h m (zA2 hb0pp hbpp) (by assumption)) ?_
    refine ag G4 ?_
    refine aq (hJ _ _ ⟨_,_,_,⟨rfl,rfl⟩,bS hbel [3] aJ⟩)
   ·refine ag G4 ?_
    refine cd (eE _ h m) ?_
    refine ag G4 ?_
    refine cd (dF _ W _ _ xs x y h m (zA2 hb0pp hbpp) (by assumption)) ?_
    refine ag G4 ?_
    refine aq (hJ _ _ ⟨_,_,_,⟨rfl,rfl⟩,bS hbel [2] aJ⟩)
   ·refine ag G4 ?_
    refine cd (eE _ h m) ?_
    refine ag G4 ?_
    refine cd (dF _ W _ _ xs x y h m (zA2 hb0pp hbpp) (by assumption)) ?_
    refine ag G4 ?_
    refine aq (hJ _ _ ⟨_,_,_,⟨rfl,rfl⟩,bS hbel [2] aJ⟩)
   ·refine ag G4 ?_
    refine cd (eE _ h m) ?_
    refine ag G4 ?_
    refine cd (dF _ W _ _ xs x y h m (zA2 hb0pp hbpp) (by assumption)) ?_
    refine ag G4 ?_
    refine aq (hJ _ _ ⟨_,_,_,⟨rfl,rfl⟩,bS hbel [2] aJ⟩)
   refine ag G4 ?_
   refine cd (eE _ h m) ?_
   refine ag G4 ?_
   refine cd (dF _ W _ _ xs x y h m (zA2 hb0pp hbpp) (by assumption)) ?_
   refine ag G4 ?_
   refine aq (hJ _ _ ⟨_,_,_,⟨rfl,rfl⟩,bS hbel [3] aJ⟩)
  rintro F2 H2 ⟨rfl,rfl⟩
  refine fnT ?_
  refine rcs G4 (fun h3 h3d G5=>?_) (fun h3 h3d G6=>?_)
  ·have hfinZ:dQ W Hh xs x y h g m e = -1:=by unfold dQ;rw[h3d];rfl
   exact eR G5 hQ hbel (.tup [iV (-1),iV 0]) results114 ⟨by first|(unfold iD dO;rw[hfinM,hfinZ];rfl)|(unfold iD dO;rw[hfinM];rfl),rfl⟩
  obtain⟨bb,hbb⟩:=Option.isSome_iff_exists.1 h3d
  have hbd0:=fb_bd hbb
  have hdn:=Int.ediv_nonneg hbd0.1.1 (show 0<=fbD W Hh xs x y h m by omega)
  have hdl:fbN W Hh xs x y h m/fbD W Hh xs x y h m<=fbN W Hh xs x y h m:=Int.ediv_le_self _ hbd0.1.1
  have hfinS:=h3d
  have hfinT:=h3d
  refine ae G6 ?_
  refine cd (iu _ e _ g) ?_
  refine rcs G6 (fun h4 h4d G7=>?_) (fun h4 h4d G8=>?_)
  ·have hz1:1024<zzI W Hh xs x y h g m e:=h4d
   have hfinZ:dQ W Hh xs x y h g m e = -1:=by unfold dQ;rw[if_pos hfinS,if_pos hz1]
   exact eR G7 hQ hbel (.tup [iV (-1),iV 0]) results114 ⟨by first|(unfold iD dO;rw[hfinM,hfinZ];rfl)|(unfold iD dO;rw[hfinM];rfl),rfl⟩
  have hz1:¬1024<zzI W Hh xs x y h g m e:=by first|exact h4d|exact Int.not_lt.2 h4d
  have hfinZ:dQ W Hh xs x y h g m e=zzI W Hh xs x y h g m e:=by unfold dQ;rw[if_pos hfinS,if_neg hz1]
  exact eR G8 hQ hbel (.tup [iV (zzI W Hh xs x y h g m e),iV 0]) results114 ⟨by first|(unfold iD dO;rw[hfinM,hfinZ];rfl)|(unfold iD dO;rw[hfinM];rfl),rfl⟩
 have hfinM:dj m=false:=by unfold dj;rw[decide_eq_false (by omega)];rfl
 exact eR G9 hQ3 hbel (.tup [iV 0,iV 2]) results114 ⟨by first|(unfold iD dO;rw[hfinM,hfinZ];rfl)|(unfold iD dO;rw[hfinM];rfl),rfl⟩
theorem rJ (H:aa)(W Hh:Int)(pp:AV)(xs:List Int)(x y h:Int)(mk:AV)(mks:List Int)(g:Int)(er:AV)(ers:List Int)(hpp:zI H pp xs)(hmk:Sl H 1 mk mks.length (ints .i64 mks))(her:Sl H 1 er ers.length (ints .i64 ers))(hG:dN W Hh xs x y h=true)(hg:1<=g/\g<=32)(hle:ers.length<=1000000000):zC 63 [.agg [iV W,iV Hh,pp],.agg [iV x,iV y,iV h],mk,iV g,er] H (.tup [.sl (some (H.length,0)) ((cU W Hh xs x y h g mks ers).length) (aW (cU W Hh xs x y h g mks ers).length),iV (gO mks)]) (H++[.cells (aQ (cU W Hh xs x y h g mks ers).length) 2 (prs (cU W Hh xs x y h g mks ers))]):=by
 obtain⟨bpp,opp,cpp,rfl,hbpp,hblpp,hb0pp⟩:=zA1 hpp
 obtain⟨bmk,omk,cmk,rfl,hbmk,hblmk,hb0mk⟩:=zA1 hmk
 obtain⟨ber,oer,cer,rfl,hber,hbler,hb0er⟩:=zA1 her
 refine AcT false func63 ?_;intro hbel Q hQ
 have G10:=jn @hbpp (jn @hb0pp (jn @hbmk (jn @hb0mk (jn @hber @hb0er))))
 refine rcs G10 (fun h1 h1d G11=>?_) (fun h1 h1d G12=>?_)
 ·have hfinE:=swpE_6 (show 32<mks.length by omega)
  have hfinL:=mG (W:=W) (Hh:=Hh) (xs:=xs) (x:=x) (y:=y) (h:=h) (g:=g) (ers:=ers) (show ¬gO mks=0 by rw[hfinE];decide)
  refine ae G11 ?_
  refine hQ _ _ (ba (.inl rfl) hbel (x1:=.tup [.sl none 0 (some 0),iV 6]) (l2:=[.cells false 2 []]) (.tup [.sl (some (H.length,0)) 0 (some 0),iV 6]) (aY results63) [.cells false 2 []] rfl [2] (by decide) ⟨by first|(rw[hfinE,hfinL];done)|(rw[hfinE,hfinL];rfl)|(rw[hfinE,hfinL,hfinM];rfl),by first|(rw[hfinL];done)|(rw[hfinL];rfl)⟩ ?_)
  exact aJ
 have hl32:¬32<mks.length:=by omega
 refine ae G12 ?_
 refine glp (fun k F Hx=>∃i:Nat,i+k=mks.length/\(∀j:Nat,j<i->dj (gi mks j)=true)/\F=[(2,.sl (some (bmk,0)) mks.length cmk),(3,iV g),(4,.sl (some (ber,0)) ers.length cer),(5,.ptr (some (H.length,0))),(6,.ptr (some (H.length+1,0))),(12,.sl (some (H.length+2,0)) ((swpB W Hh xs x y h g mks ers i).length) (aW (swpB W Hh xs x y h g mks ers i).length)),(13,iV (i:Int))]/\Hx=H++[.cells true 0 [iV W,iV Hh,.sl (some (bpp,0)) xs.length cpp],.cells true 0 [iV x,iV y,iV h],.cells (aQ (swpB W Hh xs x y h g mks ers i).length) 2 (prs (swpB W Hh xs x y h g mks ers i))]) (mks.length) ?_ ?_
 ·refine⟨_,_,_,⟨0,by omega,(fun j h=>by omega),rfl,rfl⟩,Abs.byG hbel [.cells false 2 []] rfl [0,1,2] (by decide) ?_⟩
  exact aC @swpB.eq_1
 rintro k0 F Hx ⟨i,hm0,hal,rfl,rfl⟩ J0 hJ0
 have G13:=jn @bF (jn @cJ G12)
 refine rcs G13 (fun h2 h2d G14=>?_) (fun h2 h2d G21=>?_)
 ·have hlt:i<mks.length:=by omega
  have hbl:=kZ (W:=W) (Hh:=Hh) (xs:=xs) (x:=x) (y:=y) (h:=h) (g:=g) (mks:=mks) (ers:=ers) i
  refine rcs G14 (fun h3 h3d _=>?_) (fun h3 h3d _=>?_)
  ·have hsg:gi ers i=gi ers i:=rfl
   have q4:=cn (k:=.i64) (xs:=ers) (j:=i) (by omega)
   have q5:=cn (k:=.i64) (xs:=mks) (j:=i) (by omega)
   have G15:=jn h3 (jn h3d (jn q4 (jn q5 G14)))
   refine ae G15 ?_
   refine cd (rmeas_c _ W _ _ xs x y h _ g _ (zA2 hb0pp hbpp) hG hg) ?_
   refine rcs G15 (fun h6 h6d _=>?_) (fun h6 h6d _=>?_)
   ·have h6n:=bnT h6
    have hmf:dj (gi mks i)=false:=by
     cases q:dj (gi mks i)
     ·rfl
     exact absurd (show dO (gi mks i)=0 by unfold dO;rw[q];rfl) (by first|exact h6d|simpa using h6d)
    have hfinE:=swpE_2 hl32 hlt hmf
    have hfinM:dO (gi mks i)=2:=by unfold dO;rw[hmf];rfl
    have hfinL:=mG (W:=W) (Hh:=Hh) (xs:=xs) (x:=x) (y:=y) (h:=h) (g:=g) (ers:=ers) (show ¬gO mks=0 by rw[hfinE];decide)
    have G16:=jn h6 (jn h6n (jn @aP (jn @aO G15)))
    refine ae G16 ?_
    refine hQ _ _ (ba (.inl rfl) hbel (x1:=.tup [.sl none 0 (some 0),iV (dO (gi mks i))]) (l2:=[.cells false 2 []]) (.tup [.sl (some (H.length,0)) 0 (some 0),iV (dO (gi mks i))]) (aY results63) [.cells false 2 []] rfl [3] (by decide) ⟨by first|(rw[hfinE,hfinL];done)|(rw[hfinE,hfinL];rfl)|(rw[hfinE,hfinL,hfinM];rfl),by first|(rw[hfinL];done)|(rw[hfinL];rfl)⟩ ?_)
    exact aJ
   have h6n:=bnT h6
   have hmt:dj (gi mks i)=true:=by
    cases q:dj (gi mks i)
    ·exact absurd (show ¬dO (gi mks i)=0 by unfold dO;rw[q];decide) (not_not_intro (by first|exact h6d|simpa using h6d))
    rfl
   have hmv:∀e:Int,iD W Hh xs x y h g (gi mks i) e=dQ W Hh xs x y h g (gi mks i) e:=fun e=>if_pos hmt
   have hst:swpB W Hh xs x y h g mks ers (i+1)=swpB W Hh xs x y h g mks ers i++[(gi mks i,dQ W Hh xs x y h g (gi mks i) (gi ers i))]:=rfl
   have q7:=cn (k:=.i64) (xs:=mks) (j:=i) (by omega)
   have G17:=jn h6 (jn h6n (jn @aP (jn @aO (jn q7 (jn @d4 G15)))))
   refine ae G17 ?_
   refine hJ0 _ _ ⟨k0-1,by omega,_,_,_,⟨i+1,by omega,fun j hj=>by
         rcases Nat.lt_or_ge j i with h|h
         ·exact hal j h
         rw[show j=i by omega];exact hmt,rfl,rfl⟩,bS hbel [0,1,4] (aC (jn @hst (jn @hsg @hmv)))⟩
  have hsg:gi ers i=0:=gi_out (by omega)
  have q8:=cn (k:=.i64) (xs:=mks) (j:=i) (by omega)
  have G18:=jn h3 (jn h3d (jn q8 G14))
  refine ae G18 ?_
  refine cd (rmeas_c _ W _ _ xs x y h _ g 0 (zA2 hb0pp hbpp) hG hg) ?_
  refine rcs G18 (fun h9 h9d _=>?_) (fun h9 h9d _=>?_)
  ·have h9n:=bnT h9
   have hmf:dj (gi mks i)=false:=by
    cases q:dj (gi mks i)
    ·rfl
    exact absurd (show dO (gi mks i)=0 by unfold dO;rw[q];rfl) (by first|exact h9d|simpa using h9d)
   have hfinE:=swpE_2 hl32 hlt hmf
   have hfinM:dO (gi mks i)=2:=by unfold dO;rw[hmf];rfl
   have hfinL:=mG (W:=W) (Hh:=Hh) (xs:=xs) (x:=x) (y:=y) (h:=h) (g:=g) (ers:=ers) (show ¬gO mks=0 by rw[hfinE];decide)
   have G19:=jn h9 (jn h9n (jn @aP (jn @aO G18)))
   refine ae G19 ?_
   refine hQ _ _ (ba (.inl rfl) hbel (x1:=.tup [.sl none 0 (some 0),iV (dO (gi mks i))]) (l2:=[.cells false 2 []]) (.tup [.sl (some (H.length,0)) 0 (some 0),iV (dO (gi mks i))]) (aY results63) [.cells false 2 []] rfl [3] (by decide) ⟨by first|(rw[hfinE,hfinL];done)|(rw[hfinE,hfinL];rfl)|(rw[hfinE,hfinL,hfinM];rfl),by first|(rw[hfinL];done)|(rw[hfinL];rfl)⟩ ?_)
   exact aJ
  have h9n:=bnT h9
  have hmt:dj (gi mks i)=true:=by
   cases q:dj (gi mks i)
   ·exact absurd (show ¬dO (gi mks i)=0 by unfold dO;rw[q];decide) (not_not_intro (by first|exact h9d|simpa using h9d))
   rfl
  have hmv:∀e:Int,iD W Hh xs x y h g (gi mks i) e=dQ W Hh xs x y h g (gi mks i) e:=fun e=>if_pos hmt
  have hst:swpB W Hh xs x y h g mks ers (i+1)=swpB W Hh xs x y h g mks ers i++[(gi mks i,dQ W Hh xs x y h g (gi mks i) (gi ers i))]:=rfl
  have q10:=cn (k:=.i64) (xs:=mks) (j:=i) (by omega)
  have G20:=jn h9 (jn h9n (jn @aP (jn @aO (jn q10 (jn @d4 G18)))))
  refine ae G20 ?_
  refine hJ0 _ _ ⟨k0-1,by omega,_,_,_,⟨i+1,by omega,fun j hj=>by
        rcases Nat.lt_or_ge j i with h|h
        ·exact hal j h
        rw[show j=i by omega];exact hmt,rfl,rfl⟩,bS hbel [0,1,4] (aC (jn @hst (jn @hsg @hmv)))⟩
 obtain rfl:i=mks.length:=by omega
 have hfinE:=swpE_0 hl32 hal
 have hfinL:=o7 (W:=W) (Hh:=Hh) (xs:=xs) (x:=x) (y:=y) (h:=h) (g:=g) (ers:=ers) hfinE
 refine ae G21 ?_
 refine hQ _ _ (ba (.inl rfl) hbel (x1:=.tup [.sl (some (H.length+2,0)) ((swpB W Hh xs x y h g mks ers mks.length).length) (aW (swpB W Hh xs x y h g mks ers mks.length).length),iV 0]) (l2:=[.cells (aQ (swpB W Hh xs x y h g mks ers mks.length).length) 2 (prs (swpB W Hh xs x y h g mks ers mks.length))]) (.tup [.sl (some (H.length,0)) ((swpB W Hh xs x y h g mks ers mks.length).length) (aW (swpB W Hh xs x y h g mks ers mks.length).length),iV 0]) (aY results63) [] rfl [2] (by decide) ⟨by first|(rw[hfinE,hfinL];done)|(rw[hfinE,hfinL];rfl)|(rw[hfinE,hfinL,hfinM];rfl),by first|(rw[hfinL];done)|(rw[hfinL];rfl)⟩ ?_)
 exact aJ
theorem lse_y (H:aa)(W Hh:Int)(pp:AV)(xs:List Int)(s:AV)(l:List T6)(tu le sl ra:Int)(bz:Nat)(q:AV)(sc:List (Int×Int))(hpp:zI H pp xs)(hs:Sl H 6 s l.length (r6 l))(hz:H[bz]? = some (.cells true 0 [iV W,iV Hh,pp,s,iV tu,iV le,iV sl,iV ra,.bool false]))(hq:SlP H q sc)(hV:bQ W Hh xs=true)(hS:cw l=true)(hl0:0<l.length)(hsB:di sc=true)(hg:1<=ra/\ra<=32)(hR0:0<(bT W Hh xs l sc ra 32).length)(o:List Int)(ho:lnO W Hh xs (cpL (bT W Hh xs l sc ra 32)) sc ra=some o)(ho0:0<o.length):zC 14 [.ptr (some (bz,0)),q] H (iV 0) (H.set bz (.cells true 0 [iV W,iV Hh,.sl (some (H.length,0)) o.length none,.sl (some (H.length+1,0)) ((cpL (bT W Hh xs l sc ra 32)).length) none,iV tu,iV le,iV sl,iV ra,.bool false])++[.cells true 1 (ints .u8 o),.cells true 6 (r6 (cpL (bT W Hh xs l sc ra 32)))]):=by
 obtain⟨bpp,opp,cpp,rfl,hbpp,hblpp,hb0pp⟩:=zA1 hpp
 obtain⟨bs,os,cs,rfl,hbs,hbls,hb0s⟩:=zA1 hs
 obtain⟨bq,oq,cq,rfl,hbq,hblq,hb0q⟩:=zA1 hq
 have hbz:=hz
 have hblz:=getElem?_lt hbz
 have hb0z:=fun l=>am (l:=l) hbz
 have hVV:=bo.1 hV
 have hSS:=bN.1 hS
 have hss:=dX.1 hsB
 have hsc9:=hss.1
 have hx6:xs.length<=1000000:=by have h4:=hVV.len;have:=Int.mul_le_mul hVV.w1 hVV.h1 (by have:=hVV.h0;omega) (by decide);omega
 have hok:(∀b∈bT W Hh xs l sc ra 32,bA b=true)/\(bT W Hh xs l sc ra 32).length<=l.length+32+([]:List T6).length:=jG (xs:=xs) (s:=sc) (g:=ra) ⟨hVV.w0,hVV.w1⟩ ⟨hVV.h0,hVV.h1⟩ (l.length+2*32) l 32 [] rfl hSS.2 (fun b hb=>by cases hb)
 have hR6:(bT W Hh xs l sc ra 32).length<=64:=by have h1:=hok.2;simp only[List.length_nil] at h1;have h2:=hSS.1;omega
 have hRv:=hok.1
 have hcp:=cpL_ok hR0 hRv
 have hcS:=hcp.1
 have hc0:=hcp.2
 have hc16:=(bN.1 hcS).1
 have hRg:eW W Hh xs (cpL (bT W Hh xs l sc ra 32)) sc ra=true:=iw.2 ⟨hV,hc0,hcS,hsB,hg⟩
 (refine bh func14 _ rfl (Nat.le_of_ble_eq_true (by kernel_rfl)) rfl ?_;intro hbel Q hQ hQ' c hc;unfold Tryz.f14 at hc;simp only[Option.some.injEq] at hc;subst hc;clear hQ')
 refine zQF hQ fun Q1 hn1 hQ1 he1=>?_
 have G1:=jn @hbpp (jn @hb0pp (jn @hbs (jn @hb0s (jn @hbq (jn @hb0q (jn @hbz (jn @hb0z (jn @hsB @Option.isNone_some.{0}))))))))
 refine ae G1 ?_
 refine hn1 _ _ (zQF hQ fun Q2 hn2 hQ2 he2=>?_)
 refine ae G1 ?_
 refine cvr G1 (rH _ _ sc (zA2 hb0q hbq) (by omega)) ?_
 refine hn2 _ _ (zQF hQ fun Q3 hn3 hQ3 he3=>?_)
 refine ae G1 ?_
 refine cx (rG _ W _ _ xs _ l _ sc _ 32 (zA2 hb0pp hbpp) (zA2 hb0s hbs) (zA2 hb0q hbq) (by assumption) (by assumption) (by assumption) (by assumption) (by assumption) (by omega)) ?_
 refine ae G1 ?_
 refine hn3 _ _ (zQF hQ fun Q4 hn4 hQ4 he4=>?_)
 refine rcs G1 (fun h1 h1d _=>?_) (fun h1 h1d _=>?_)
 ·have h1n:=bnT h1
  omega
 have h1n:=bnT h1
 have G2:=jn h1 (jn h1n (jn @aP (jn @aO G1)))
 refine ae G2 ?_
 refine hn4 _ _ (zQF hQ fun Q5 hn5 hQ5 he5=>?_)
 refine ae G2 ?_
 refine cvr G2 (comp_c _ _ (bT W Hh xs l sc ra 32) ⟨_,_,_,by rfl,by (rw[dV];rfl)⟩ (by omega) (by assumption) (by assumption)) ?_
 refine hn5 _ _ ?_
 refine bt false try_mixed [[0,1,2,3,4,5,6,7,8,9,10,11,12,13,14,15,16,17],[0,1,2,3,4,5,6,7,8,9,10,15,11,12,13,14,16,17]] (by kernel_rfl) (fun F2 H2=>F2=[(0,.ptr (some (bz,0))),(4,iV 0),(5,.sl (some (H.length,0)) ((cpL (bT W Hh xs l sc ra 32)).length) none),(7,.ptr (some (H.length+2,0))),(8,iV 0)]/\H2=H++[.cells true 6 (r6 (cpL (bT W Hh xs l sc ra 32))),.cells true 1 (ints .u8 o),.cells true 0 [iV W,iV Hh,.sl (some (H.length+1,0)) o.length none]]) ?_ ?_
 ·refine aj ?_ (aj ?_ (bu))<;>intro J hJ
  ·refine ag G2 ?_
   refine cx (rI _ W Hh _ xs _ (cpL (bT W Hh xs l sc ra 32)) _ sc ra o (zA2 hb0pp hbpp) ⟨_,_,_,by rfl,by (rw[aK];rfl)⟩ (zA2 hb0q hbq) (by assumption) (by assumption) (by assumption)) ?_
   refine ag G2 ?_
   refine aq (hJ _ _ ⟨_,_,_,⟨rfl,rfl⟩,bS hbel [1,2,3] (aC (jn @bR (jn @bG (jn @cB @bY))))⟩)
  refine ag G2 ?_
  refine cx (rI _ W Hh _ xs _ (cpL (bT W Hh xs l sc ra 32)) _ sc ra o (zA2 hb0pp hbpp) ⟨_,_,_,by rfl,by (rw[aK];rfl)⟩ (zA2 hb0q hbq) (by assumption) (by assumption) (by assumption)) ?_
  refine ag G2 ?_
  refine aq (hJ _ _ ⟨_,_,_,⟨rfl,rfl⟩,bS hbel [1,3,2] (aC (jn @bR (jn @bG (jn @cB @bY))))⟩)
 rintro F2 H2 ⟨rfl,rfl⟩
 refine zQF hQ fun Q6 hn6 hQ6 he6=>?_
 have G3:=jn @cN (jn @gt (jn @co (jn @cV G2)))
 refine ae G3 ?_
 refine hn6 _ _ ?_
 refine bt false try_mixed [[0,1,2,3,4,5,6,7,8,9],[0,1,2,4,5,6,3,7,8,9]] (by kernel_rfl) (fun F2 H2=>F2=[(4,iV 0)]/\H2=H.set bz (.cells true 0 [iV W,iV Hh,.sl (some (H.length+1,0)) o.length none,.sl (some (H.length,0)) ((cpL (bT W Hh xs l sc ra 32)).length) none,iV tu,iV le,iV sl,iV ra,.bool false])++[.cells true 6 (r6 (cpL (bT W Hh xs l sc ra 32))),.cells true 1 (ints .u8 o)]) ?_ ?_
 ·refine aj ?_ (aj ?_ (bu))<;>intro J hJ
  ·have G4:=jn @hblz (jn @gV (jn @iF (jn @jq (jn @iG (jn @jH (jn @kr (jn @jI (jn @ku (jn @List.length_set.{0} (jn @List.set_set.{0} G3))))))))))
   refine ag G4 ?_
   refine aq (hJ _ _ ⟨_,_,_,⟨rfl,rfl⟩,Abs.byP (b1:=.cells true 0 [iV W,iV Hh,.sl (some (H.length+1,0)) o.length none,.sl (some (H.length,0)) ((cpL (bT W Hh xs l sc ra 32)).length) none,iV tu,iV le,iV sl,iV ra,.bool false]) (l1:=[.cells true 6 (r6 (cpL (bT W Hh xs l sc ra 32))),.cells true 1 (ints .u8 o),.cells true 0 [iV W,iV Hh,.sl (some (H.length+1,0)) o.length none]]) (.cells true 0 [iV W,iV Hh,.sl (some (H.length+1,0)) o.length none,.sl (some (H.length,0)) ((cpL (bT W Hh xs l sc ra 32)).length) none,iV tu,iV le,iV sl,iV ra,.bool false]) hbel hblz (by rfl) [] rfl [0,1] (by decide) ?_⟩)
   exact aC (jn @hblpp (jn @hbls (jn @hblz (jn @hblq (jn @bR (jn @bG (jn @cB @bY)))))))
  have G5:=jn @hblz (jn @gV (jn @iF (jn @jq (jn @iG (jn @jH (jn @kr (jn @jI (jn @ku (jn @List.length_set.{0} (jn @List.set_set.{0} G3))))))))))
  refine ag G5 ?_
  refine aq (hJ _ _ ⟨_,_,_,⟨rfl,rfl⟩,Abs.byP (b1:=.cells true 0 [iV W,iV Hh,.sl (some (H.length+1,0)) o.length none,.sl (some (H.length,0)) ((cpL (bT W Hh xs l sc ra 32)).length) none,iV tu,iV le,iV sl,iV ra,.bool false]) (l1:=[.cells true 6 (r6 (cpL (bT W Hh xs l sc ra 32))),.cells true 1 (ints .u8 o),.cells true 0 [iV W,iV Hh,.sl (some (H.length+1,0)) o.length none]]) (.cells true 0 [iV W,iV Hh,.sl (some (H.length+1,0)) o.length none,.sl (some (H.length,0)) ((cpL (bT W Hh xs l sc ra 32)).length) none,iV tu,iV le,iV sl,iV ra,.bool false]) hbel hblz (by rfl) [] rfl [0,1] (by decide) ?_⟩)
  exact aC (jn @hblpp (jn @hbls (jn @hblz (jn @hblq (jn @bR (jn @bG (jn @cB @bY)))))))
 rintro F2 H2 ⟨rfl,rfl⟩
 refine fnF ?_
 have G6:=jn @hblz (jn @gV (jn @iF (jn @jq (jn @iG (jn @jH (jn @kr (jn @jI (jn @ku (jn @List.length_set.{0} (jn @List.set_set.{0} G3))))))))))
 refine ae G6 ?_
 refine hQ _ _ (mL (b1:=.cells true 0 [iV W,iV Hh,.sl (some (H.length+1,0)) o.length none,.sl (some (H.length,0)) ((cpL (bT W Hh xs l sc ra 32)).length) none,iV tu,iV le,iV sl,iV ra,.bool false]) (.cells true 0 [iV W,iV Hh,.sl (some (H.length,0)) o.length none,.sl (some (H.length+1,0)) ((cpL (bT W Hh xs l sc ra 32)).length) none,iV tu,iV le,iV sl,iV ra,.bool false]) (l1:=[.cells true 6 (r6 (cpL (bT W Hh xs l sc ra 32))),.cells true 1 (ints .u8 o)]) (l2:=[.cells true 1 (ints .u8 o),.cells true 6 (r6 (cpL (bT W Hh xs l sc ra 32)))]) (.inl rfl) hbel hblz (by rfl) (x1:=iV 0) (iV 0) (aY results14) [] rfl [1,0] (by decide) ⟨rfl,rfl⟩ ?_)
 exact aS (jn @bY (jn @fu (jn @hblpp (jn @hbls (jn @hblz @hblq)))))
theorem IsI.parts {H:aa}{k:IntKind}{s:AV}{l:List Int}(h:IsI H k s l):∃a c,s=.sl a l.length c:=by
 rcases h with ⟨rfl,rfl⟩|⟨b,own,cap,rfl,hb⟩
 ·exact⟨_,_,rfl⟩
 exact⟨_,_,rfl⟩
def bys (xs:List Int):List UInt8:=xs.map fun n=>UInt8.ofNat n.toNat
theorem bys_map:∀xs:List Int,(ints .u8 xs).mapM ll=some (bys xs)
 |[]=>rfl
 | x::xs=>by
  have ih:=bys_map xs
  show (AV.int .u8 x::ints .u8 xs).mapM ll=_
  rw[List.mapM_cons,ih]
  rfl
theorem need_pos {p:Prop}[Decidable p](h:p):bE p=some ():=by unfold bE;rw[if_pos h]
theorem oA {H:aa}{s:AV}{xs:List Int}(hs:IsI H .u8 s xs):aA prog 22 9 s H=some (.str (bys xs)):=by
 have h1:=bys_map xs
 have key:∀a n c,aElems 1 (.sl a n c) H=some (n,ints .u8 xs)->aA prog 22 9 (.sl a n c) H=some (.str (bys xs)):=fun a n c he=>by
  unfold aA
  simp only[tElem22,Option.bind_some]
  rw[need_pos ⟨tInt5,by kernel_rfl⟩,Option.bind_some,he,Option.bind_some]
  simp only[h1,Option.map_some]
 rcases hs with ⟨rfl,rfl⟩|⟨b,own,cap,rfl,hb⟩
 ·exact key none 0 (some 0) rfl
 refine key _ _ _ ?_
 unfold aElems ards
 simp only[hb]
 rw[if_pos (by rw[co];omega),List.drop_zero,List.take_of_length_le (by rw[co];omega)]
 rfl
set_option maxRecDepth 100000 in
theorem plans_c (H:aa)(W Hh:Int)(xs:List Int)(s1 s2:AV)(h1:IsI H .u8 s1 xs)(h2:IsI H .u8 s2 xs):zC 28 [.agg [iV W,iV Hh,s1],.agg [iV W,iV Hh,s2]] H (.bool true) H:=by
 have hc1:=fun l=>oA (h1.app l)
 have hc2:=fun l=>oA (h2.app l)
 obtain⟨a1,c1,rfl⟩:=h1.parts
 obtain⟨a2,c2,rfl⟩:=h2.parts
 refine AcT true func28 ?_;intro hbel Q hQ
 simp -implicitDefEqProofs (disch:=omega) only [hc1,hc2,simprocAttr,aD,aE,Function.comp_apply,one1,lenV,ai,ar,au,aop,AV.ofValue,AV.ofCell,AV.cells,AV.flat,AV.one,arep,aN,ap]
 exact eP hQ hbel (.bool true) results28 ⟨rfl,rfl⟩
theorem plans2_c (H:aa)(W Hh W2 Hh2:Int)(xs ys:List Int)(s1 s2:AV)(h1:zI H s1 xs)(h2:zI H s2 ys)(e1:W=W2)(e2:Hh=Hh2)(e3:xs=ys):zC 28 [.agg [iV W,iV Hh,s1],.agg [iV W2,iV Hh2,s2]] H (.bool true) H:=by
 subst e1 e2 e3
 exact plans_c H W Hh xs s1 s2 (.inr h1) (.inr h2)
theorem lnew_y (H:aa)(W Hh:Int)(pp:AV)(xs:List Int)(s:AV)(l:List T6)(tu le sl ra:Int)(hpp:zI H pp xs)(hs:Sl H 6 s l.length (r6 l))(hV:bQ W Hh xs=true)(hL:lsB l=true)(hB:bM tu le sl ra=true):zC 10 [.agg [iV W,iV Hh,pp],s,.agg [iV tu,iV le,iV sl,iV ra]] H (.tup [.ptr (some (H.length+2,0)),iV 0]) (H++[.cells true 1 (ints .u8 xs),.cells true 6 (r6 l),.cells true 0 [iV W,iV Hh,.sl (some (H.length,0)) xs.length none,.sl (some (H.length+1,0)) l.length none,iV tu,iV le,iV sl,iV ra,.bool false]]):=by
 obtain⟨bpp,opp,cpp,rfl,hbpp,hblpp,hb0pp⟩:=zA1 hpp
 obtain⟨bs,os,cs,rfl,hbs,hbls,hb0s⟩:=zA1 hs
 have hVV:=bo.1 hV
 have hx6:xs.length<=1000000:=by have h4:=hVV.len;have:=Int.mul_le_mul hVV.w1 hVV.h1 (by have:=hVV.h0;omega) (by decide);omega
 have hx0:0<xs.length:=by have:=(hVV.idx (show inB W Hh 0 0=true from dD.2 (by have:=hVV.w0;have:=hVV.h0;omega))).2.2.2.2.1;omega
 have hLL:=pf.1 hL
 have hS16:=(bN.1 hLL.2).1
 have hl0:=hLL.1
 (refine bh func10 _ rfl (Nat.le_of_ble_eq_true (by kernel_rfl)) rfl ?_;intro hbel Q hQ hQ' c hc;unfold Tryz.f10 at hc;simp only[Option.some.injEq] at hc;subst hc;clear hQ')
 refine zQF hQ fun Q1 hn1 hQ1 he1=>?_
 have G1:=jn @hbpp (jn @hb0pp (jn @hbs (jn @hb0s (jn @hV (jn @hL @hB)))))
 refine ae G1 ?_
 refine hn1 _ _ (zQF hQ fun Q2 hn2 hQ2 he2=>?_)
 refine ae G1 ?_
 refine cvr G1 (mi _ W Hh _ xs (.inr (zA2 hb0pp hbpp))) ?_
 refine cvr G1 (lvset_c _ _ l (zA2 hb0s hbs) (by omega)) ?_
 refine cvr G1 (n7 _ _ _ _ _) ?_
 refine hn2 _ _ ?_
 refine bt false try_mixed [[0,1,2,3,4,5,6,7,8]] (by kernel_rfl) (fun F2 H2=>F2=[(6,.ptr (some (H.length+2,0))),(7,iV 0)]/\H2=H++[.cells true 1 (ints .u8 xs),.cells true 6 (r6 l),.cells true 0 [iV W,iV Hh,.sl (some (H.length,0)) xs.length none,.sl (some (H.length+1,0)) l.length none,iV tu,iV le,iV sl,iV ra,.bool false]]) ?_ ?_
 ·refine aj ?_ (bu)<;>intro J hJ
  refine ag G1 ?_
  refine cx (lcop_c _ W _ _ xs (zA2 hb0pp hbpp) hx6 hx0) ?_
  refine ag G1 ?_
  refine cx (k8 _ _ l (zA2 hb0s hbs) (by omega) (by omega)) ?_
  refine ag G1 ?_
  refine aq (hJ _ _ ⟨_,_,_,⟨rfl,rfl⟩,bS hbel [2,3,4] (aC (jn @bR (jn @bG (jn @cB @bY))))⟩)
 rintro F2 H2 ⟨rfl,rfl⟩
 refine fnF ?_
 have G2:=jn @co (jn @cV (jn @cN (jn @gt G1)))
 refine ae G2 ?_
 refine hQ _ _ (ba (.inl rfl) hbel (x1:=.tup [.ptr (some (H.length+2,0)),iV 0]) (l2:=[.cells true 1 (ints .u8 xs),.cells true 6 (r6 l),.cells true 0 [iV W,iV Hh,.sl (some (H.length,0)) xs.length none,.sl (some (H.length+1,0)) l.length none,iV tu,iV le,iV sl,iV ra,.bool false]]) (.tup [.ptr (some (H.length+2,0)),iV 0]) (aY results10) [] rfl [0,1,2] (by decide) ⟨rfl,rfl⟩ ?_)
 exact aS @bY
def hulN (l:List T6):Nat->T6
 |0=>g6 l 0
 |n+1=>ey (hulN l n) (g6 l (n+1))
theorem hulN_ok {l:List T6}(h:∀b∈l,bA b=true):∀n:Nat,n<l.length->bA (hulN l n)=true
 |0,h0=>h _ (cQ h0)
 |n+1,hn=>hulB_ok (hulN_ok h n (by omega)) (h _ (cQ hn))
theorem lbox_c (H:aa)(W Hh:Int)(pp:AV)(xs:List Int)(s:AV)(l:List T6)(tu le sl ra:Int)(lost:Bool)(bz:Nat)(hpp:zI H pp xs)(hs:Sl H 6 s l.length (r6 l))(hz:∃o,H[bz]? = some (.cells o 0 [iV W,iV Hh,pp,s,iV tu,iV le,iV sl,iV ra,.bool lost]))(hS:cw l=true)(hl0:0<l.length):zC 29 [.ptr (some (bz,0))] H (.tup [.agg [iV ((hulN l (l.length-1)).1),iV ((hulN l (l.length-1)).2.1),iV ((hulN l (l.length-1)).2.2.1),iV ((hulN l (l.length-1)).2.2.2.1),iV ((hulN l (l.length-1)).2.2.2.2.1),iV ((hulN l (l.length-1)).2.2.2.2.2)],.bool true]) H:=by
 obtain⟨bpp,opp,cpp,rfl,hbpp,hblpp,hb0pp⟩:=zA1 hpp
 obtain⟨bs,os,cs,rfl,hbs,hbls,hb0s⟩:=zA1 hs
 obtain⟨oz,hbz⟩:=hz
 have hblz:=getElem?_lt hbz
 have hb0z:=fun l=>am (l:=l) hbz
 have hSS:=bN.1 hS
 have hl16:=hSS.1
 refine AcT true func29 ?_;intro hbel Q hQ
 have q1:=r6_load0 (l:=l) (by omega)
 have G3:=jn @hbpp (jn @hb0pp (jn @hbs (jn @hb0s (jn @hbz (jn @hb0z (jn @cN (jn q1 @Option.isNone_some.{0})))))))
 refine ae G3 ?_
 refine glp (fun k F Hx=>∃i:Nat,i+k=l.length-1/\F=[(2,.ptr (some (H.length,0))),(4,.ptr (some (H.length+1,0))),(20,.sl (some (bs,6)) (l.length-1) none),(21,iV ((l.length-1:Nat):Int)),(22,iV (i:Int))]/\Hx=H++[.cells true 0 [iV 0,iV 0,iV 0,iV 0,iV 0,iV 0],.cells true 0 [iV ((hulN l i).1),iV ((hulN l i).2.1),iV ((hulN l i).2.2.1),iV ((hulN l i).2.2.2.1),iV ((hulN l i).2.2.2.2.1),iV ((hulN l i).2.2.2.2.2)]]) (l.length-1) ?_ ?_
 ·refine⟨_,_,_,⟨0,by omega,rfl,rfl⟩,bS hbel [0,1] (aS @hulN.eq_1)⟩
 rintro k0 F Hx ⟨i,hm0,rfl,rfl⟩ J0 hJ0
 refine rcs G3 (fun h2 h2d _=>?_) (fun h2 h2d G5=>?_)
 ·have hlt:i+1<l.length:=by omega
  have hb1:bxB ((hulN l i).1) ((hulN l i).2.1) ((hulN l i).2.2.1) ((hulN l i).2.2.2.1) ((hulN l i).2.2.2.2.1) ((hulN l i).2.2.2.2.2)=true:=hulN_ok hSS.2 i (by omega)
  have hb2:bxB (g61 l (i+1)) (g62 l (i+1)) (g63 l (i+1)) (g64 l (i+1)) (g65 l (i+1)) (g66 l (i+1))=true:=hSS.2 _ (cQ hlt)
  have hs0:(hulN l (i+1)).1=mnI ((hulN l i).1) (g61 l (i+1)):=rfl
  have hs1:(hulN l (i+1)).2.1=mnI ((hulN l i).2.1) (g62 l (i+1)):=rfl
  have hs2:(hulN l (i+1)).2.2.1=mxI ((hulN l i).2.2.1) (g63 l (i+1)):=rfl
  have hs3:(hulN l (i+1)).2.2.2.1=mxI ((hulN l i).2.2.2.1) (g64 l (i+1)):=rfl
  have hs4:(hulN l (i+1)).2.2.2.2.1=(cT ((hulN l i).2.2.2.2.1) ((hulN l i).2.2.2.2.2) (g65 l (i+1)) (g66 l (i+1))).1:=rfl
  have hs5:(hulN l (i+1)).2.2.2.2.2=(cT ((hulN l i).2.2.2.2.1) ((hulN l i).2.2.2.2.2) (g65 l (i+1)) (g66 l (i+1))).2:=rfl
  have q3:=r6_load1 (l:=l) (j:=i) (by omega)
  have G4:=jn h2 (jn h2d (jn q3 G3))
  refine ae G4 ?_
  refine cvr G4 (bhull_c _ _ _ _ _ _ _ _ _ _ _ _ _ (by assumption) (by assumption)) ?_
  refine hJ0 _ _ ⟨k0-1,by omega,_,_,_,⟨i+1,by omega,rfl,rfl⟩,bS hbel [0,1] (aS (jn @hs0 (jn @hs1 (jn @hs2 (jn @hs3 (jn @hs4 @hs5))))))⟩
 obtain rfl:i=l.length-1:=by omega
 exact eR G5 hQ hbel (.tup [.agg [iV ((hulN l (l.length-1)).1),iV ((hulN l (l.length-1)).2.1),iV ((hulN l (l.length-1)).2.2.1),iV ((hulN l (l.length-1)).2.2.2.1),iV ((hulN l (l.length-1)).2.2.2.2.1),iV ((hulN l (l.length-1)).2.2.2.2.2)],.bool true]) results29 ⟨rfl,rfl⟩
def laL:List T6:=[(32,32,32,32,0,1),(33,32,33,32,0,1),(34,32,34,32,0,1),(35,32,35,32,0,1),(36,32,36,32,0,1),(37,32,37,32,0,1),(38,32,38,32,0,1),(39,32,39,32,0,1),(40,32,40,32,0,1)]
theorem la_1:bT 4 1 [0,0,0,0] [(32,32,40,32,0,1)] [(0,160)] 4 32=laL:=by decide +kernel
theorem la_2:cpL laL=laL:=by decide +kernel
theorem la_tau:fZ laL=true:=by decide +kernel
theorem la_all:aU 4 1 laL [(0,160)] 4=[(0,0),(1,0),(2,0)]:=by rw[all_put];decide +kernel
theorem la_sus:bL laL 0 160 4=[(2,0),(3,0)]:=by rw[sus_put];decide +kernel
theorem la_ln:lnO 4 1 [0,0,0,0] laL [(0,160)] 4=some [1,1,1,2]:=by
 unfold lnO iY
 rw[if_pos la_tau,la_all]
 show Option.bind _ (fJ 4 1 [bL laL 0 160 4])=_
 rw[la_sus];decide +kernel
theorem la_v:bQ 4 1 [0,0,0,0]=true:=by decide +kernel
theorem la_l:lsB [(32,32,40,32,0,1)]=true:=by decide +kernel
theorem la_b:bM 0 0 0 4=true:=by decide +kernel
theorem la_s1:cw [(32,32,40,32,0,1)]=true:=by decide +kernel
theorem la_s2:cw laL=true:=by decide +kernel
theorem la_c1:di [(0,160)]=true:=by decide +kernel
theorem la_c2:di [(0,3)]=true:=by decide +kernel
theorem la_v2:bQ 4 1 [1,1,1,2]=true:=by decide +kernel
theorem la_vol:volS laL laL.length=9:=by decide +kernel
theorem la_see1 (H:aa)(pp s q:AV)(bz:Nat)(hpp:Sl H 1 pp 4 (ints .u8 [0,0,0,0]))(hs:Sl H 6 s 1 (r6 [(32,32,40,32,0,1)]))(hz:H[bz]? = some (.cells true 0 [iV 4,iV 1,pp,s,iV 0,iV 0,iV 0,iV 4,.bool false]))(hq:Sl H 2 q 1 (prs [(0,160)])):zC 14 [.ptr (some (bz,0)),q] H (iV 0) (H.set bz (.cells true 0 [iV 4,iV 1,.sl (some (H.length,0)) 4 none,.sl (some (H.length+1,0)) laL.length none,iV 0,iV 0,iV 0,iV 4,.bool false])++[.cells true 1 (ints .u8 [1,1,1,2]),.cells true 6 (r6 laL)]):=by
 have k:=lse_y H 4 1 pp [0,0,0,0] s [(32,32,40,32,0,1)] 0 0 0 4 bz q [(0,160)] hpp hs hz hq la_v la_s1 (by decide) la_c1 (by decide) (by rw[la_1];decide) [1,1,1,2] (by rw[la_1,la_2];exact la_ln) (by decide)
 rw[la_1,la_2] at k
 exact k
theorem la_volc (H:aa)(pp s:AV)(bz:Nat)(hpp:Sl H 1 pp 4 (ints .u8 [1,1,1,2]))(hs:Sl H 6 s laL.length (r6 laL))(hz:∃o,H[bz]? = some (.cells o 0 [iV 4,iV 1,pp,s,iV 0,iV 0,iV 0,iV 4,.bool false])):zC 27 [.ptr (some (bz,0))] H (iV 9) H:=by
 have k:=lvol_c H 4 1 pp [1,1,1,2] s laL 0 0 0 4 false bz hpp hs hz (by decide) (by decide)
 rw[la_vol] at k
 exact k
theorem evOk.app {H:aa}{l:List Ev}(h:evOk H l)(L:aa):evOk (H++L) l:=fun e he=>⟨(h e he).1.app L,(h e he).2⟩
def kpP (ks o:List Int):Prop:=o.length=ks.length/\∀i:Nat,i<ks.length->¬gi ks i=0->gi ks i=gi o i
def e5C (e:Ev):List AV:=[.int .i64 e.k,.int .i64 e.t,.int .i64 e.g,.bool e.st,e.s]
def e5R (l:List Ev):List AV:=l.flatMap e5C
theorem gh {p:Ev}{l:List Ev}:e5R (p::l)=e5C p++e5R l:=rfl
theorem pg:∀{l:List Ev},(e5R l).length=l.length*5
 |[]=>rfl
 |p::l=>by rw[gh,List.length_append,pg (l:=l),List.length_cons];show 5+_=_;omega
theorem oB:∀{l:List Ev}{j:Nat}(_h:j<l.length),(e5R l).drop (j*5)=e5C (evG l j)++(e5R l).drop ((j+1)*5)
 |[],j,h=>by simp at h
 |p::l,0,_=>by rw[gh];rfl
 | p::l,j+1,h=>by
  have ih:=oB (l:=l) (j:=j) (by simpa using h)
  rw[gh,show (j+1)*5=(e5C p).length+j*5 by show _=5+_;omega,show (j+1+1)*5=(e5C p).length+(j+1)*5 by show _=5+_;omega,jJ,jJ,ih]
  rfl
theorem e5R_p1 {l:List Ev}{j:Nat}(h:j<l.length):((e5R l).drop (j*5+1)).take 2=[.int .i64 (evG l j).t,.int .i64 (evG l j).g]:=by
 rw[<-List.drop_drop,oB h];rfl
theorem e5R_at3 {l:List Ev}{j:Nat}(h:j<l.length):(e5R l)[j*5+3]? = some (.bool (evG l j).st):=by
 have k:((e5R l).drop (j*5))[3]? = some (.bool (evG l j).st):=by rw[oB h];rfl
 rw[List.getElem?_drop] at k;exact k
theorem e5R_at4 {l:List Ev}{j:Nat}{v:AV}(h:j<l.length)(hs:(evG l j).s=v):(e5R l)[j*5+4]? = some v:=by
 have k:((e5R l).drop (j*5))[4]? = some (evG l j).s:=by rw[oB h];rfl
 rw[List.getElem?_drop] at k;rw[<-hs];exact k
def laM:List T6:=[(42,32,42,32,0,1),(43,32,43,32,0,1),(44,32,44,32,0,1),(45,32,45,32,0,1),(46,32,46,32,0,1),(47,32,47,32,0,1),(48,32,48,32,0,1),(49,32,49,32,0,1),(50,32,50,32,0,1)]
theorem lb_im:imA laL 0 (stF false 10) 0 0 0=true:=by decide +kernel
theorem lb_is:imS laL 0 (stF false 10) 0 0 0 laL.length=laM:=by decide +kernel
theorem lb_r:bT 4 1 [1,1,1,2] laM [(0,3)] 4 32=[]:=by decide +kernel
theorem lb_s:cw laM=true:=by decide +kernel
theorem lb_c1:cM 0 10=true:=by decide +kernel
theorem lb_c2:cM 0 0=true:=by decide +kernel
theorem lb_h:hulN laM (laM.length-1)=(42,32,50,32,0,1):=by decide +kernel
theorem lb_m:lsB [(100,32,100,32,0,1)]=true:=by decide +kernel
theorem lb_v:volS [(100,32,100,32,0,1)] ([(100,32,100,32,0,1)]:List T6).length=1:=by decide +kernel
structure Ac where
 t:Int
 f:Int
 eT:Int
 eL:Int
 eX:Int
 eY:Int
 mp:AV
 ep:AV
 mks:List Int
 ers:List Int
def acC (e:Ac):List AV:=[.int .i64 e.t,.int .i64 e.f,.int .i64 e.eT,.int .i64 e.eL,.int .i64 e.eX,.int .i64 e.eY,e.mp,e.ep]
def acR (l:List Ac):List AV:=l.flatMap acC
def acG (l:List Ac) (j:Nat):Ac:=l.getD j ⟨0,0,0,0,0,0,.any,.any,[],[]⟩
def acOk (H:aa) (l:List Ac):Prop:=∀e∈l,(Sl H 1 e.mp e.mks.length (ints .i64 e.mks)/\e.mks.length<=9223372036854775807)/\Sl H 1 e.ep e.ers.length (ints .i64 e.ers)/\e.ers.length<=9223372036854775807
theorem la {p:Ac}{l:List Ac}:acR (p::l)=acC p++acR l:=rfl
theorem c6:∀{l:List Ac},(acR l).length=l.length*8
 |[]=>rfl
 |p::l=>by rw[la,List.length_append,c6 (l:=l),List.length_cons];show 8+_=_;omega
theorem mM {l:List Ac}{j:Nat}(h:j<l.length):acG l j∈l:=by
 have e:acG l j=l[j]:=by unfold acG;rw[List.getD_eq_getElem?_getD,List.getElem?_eq_getElem h];rfl
 rw[e];exact List.getElem_mem h
theorem oC:∀{l:List Ac}{j:Nat}(_h:j<l.length),(acR l).drop (j*8)=acC (acG l j)++(acR l).drop ((j+1)*8)
 |[],j,h=>by simp at h
 |p::l,0,_=>by rw[la];rfl
 | p::l,j+1,h=>by
  have ih:=oC (l:=l) (j:=j) (by simpa using h)
  rw[la,show (j+1)*8=(acC p).length+j*8 by show _=8+_;omega,show (j+1+1)*8=(acC p).length+(j+1)*8 by show _=8+_;omega,jJ,jJ,ih]
  rfl
theorem ex {l:List Ac}{j:Nat}{u v:AV}(h:j<l.length)(hu:(acG l j).mp=u)(hv:(acG l j).ep=v):((acR l).drop (j*8)).take 8=[.int .i64 (acG l j).t,.int .i64 (acG l j).f,.int .i64 (acG l j).eT,.int .i64 (acG l j).eL,.int .i64 (acG l j).eX,.int .i64 (acG l j).eY,u,v]:=by
 rw[oC h,<-hu,<-hv];rfl
theorem acR_at6 {l:List Ac}{j:Nat}{v:AV}(h:j<l.length)(hs:(acG l j).mp=v):(acR l)[j*8+6]? = some v:=by
 have k:((acR l).drop (j*8))[6]? = some (acG l j).mp:=by rw[oC h];rfl
 rw[List.getElem?_drop] at k;rw[<-hs];exact k
theorem acR_at7 {l:List Ac}{j:Nat}{v:AV}(h:j<l.length)(hs:(acG l j).ep=v):(acR l)[j*8+7]? = some v:=by
 have k:((acR l).drop (j*8))[7]? = some (acG l j).ep:=by rw[oC h];rfl
 rw[List.getElem?_drop] at k;rw[<-hs];exact k
theorem acOk.at {H:aa}{l:List Ac}{j:Nat}(k:acOk H l)(h:j<l.length):(∃b o c,(acG l j).mp=.sl (some (b,0)) (acG l j).mks.length c/\H[b]? = some (.cells o 1 (ints .i64 (acG l j).mks)))/\∃b o c,(acG l j).ep=.sl (some (b,0)) (acG l j).ers.length c/\H[b]? = some (.cells o 1 (ints .i64 (acG l j).ers)):=by
 obtain⟨⟨⟨b,o,c,e1,e2⟩,-⟩,⟨b',o',c',e3,e4⟩,-⟩:=k _ (mM h)
 exact⟨⟨b,o,c,e1,e2⟩,b',o',c',e3,e4⟩
theorem acOk.len {H:aa}{l:List Ac}{j:Nat}(k:acOk H l)(h:j<l.length):(acG l j).mks.length<=9223372036854775807/\(acG l j).ers.length<=9223372036854775807:=⟨(k _ (mM h)).1.2,(k _ (mM h)).2.2⟩
theorem acOk.app {H:aa}{l:List Ac}(h:acOk H l)(L:aa):acOk (H++L) l:=fun e he=>⟨⟨(h e he).1.1.app L,(h e he).1.2⟩,(h e he).2.1.app L,(h e he).2.2⟩
theorem rows_ac {P:Program}{H:aa}{n:Nat}{ti ts te:TypeId}(hi:P.underlying ti=some (.int .i64))(hs:P.underlying ts=some (.slice te))(hu:P.underlying te=some (.int .i64))(hl:bP P (n+1) te=some [te]):∀rows:List (List AV),(∀r:List AV,r∈rows->RTy P H (n+2) [ti,ti,ti,ti,ti,ti,ts,ts] r)->∃l:List Ac,l.length=rows.length/\rows.flatten=acR l/\acOk H l
 |[],_=>⟨[],rfl,rfl,fun e h=>by cases h⟩
 | r::rows,h=>by
  obtain⟨l,q1,q2,q3⟩:=rows_ac hi hs hu hl rows fun r' hr=>h r' (by simp[hr])
  have hr:=h r (by simp)
  obtain⟨y1,r',rfl,hy1,hr⟩:=hr.cons
  obtain⟨y2,r',rfl,hy2,hr⟩:=hr.cons
  obtain⟨y3,r',rfl,hy3,hr⟩:=hr.cons
  obtain⟨y4,r',rfl,hy4,hr⟩:=hr.cons
  obtain⟨y5,r',rfl,hy5,hr⟩:=hr.cons
  obtain⟨y6,r',rfl,hy6,hr⟩:=hr.cons
  obtain⟨y7,r',rfl,hy7,hr⟩:=hr.cons
  obtain⟨y8,r',rfl,hy8,hr⟩:=hr.cons
  obtain rfl:=hr.nil
  obtain⟨z1,rfl,-⟩:=hy1.int hi
  obtain⟨z2,rfl,-⟩:=hy2.int hi
  obtain⟨z3,rfl,-⟩:=hy3.int hi
  obtain⟨z4,rfl,-⟩:=hy4.int hi
  obtain⟨z5,rfl,-⟩:=hy5.int hi
  obtain⟨z6,rfl,-⟩:=hy6.int hi
  obtain⟨d,k1,k2,-⟩:=hy7.intsU hs hu hl
  obtain⟨d',k3,k4,-⟩:=hy8.intsU hs hu hl
  refine⟨⟨z1,z2,z3,z4,z5,z6,y7,y8,d,d'⟩::l,by simp[q1],by rw[la,List.flatten_cons,q2];rfl,fun e he=>?_⟩
  rcases List.mem_cons.1 he with rfl|he
  ·exact⟨⟨k1,k2⟩,k3,k4⟩
  exact q3 e he
theorem LTy.acs {P:Program}{H:aa}{n:Nat}{t e ti ts te:TypeId}{x:AV}(ht:P.underlying t=some (.slice e))(hle:bP P (n+2) e=some [ti,ti,ti,ti,ti,ti,ts,ts])(hi:P.underlying ti=some (.int .i64))(hs:P.underlying ts=some (.slice te))(hu:P.underlying te=some (.int .i64))(hl:bP P (n+1) te=some [te])(h:LTy P H (n+3) t x):
  ∃l:List Ac,Sl H 8 x l.length (acR l)/\l.length<=maxLen/\acOk H l:=by
 obtain⟨b,rows,rfl,k1,k2,k3⟩:=h.slice ht hle
 obtain⟨l,q1,q2,q3⟩:=rows_ac hi hs hu hl rows k3
 exact⟨l,⟨b,false,none,by rw[q1],by rw[<-q2];exact k2⟩,by omega,q3⟩
def dr (t f:Int) (mks:List Int):Bool:=cM t f&&(decide (mks.length<=32)&&mks.all dj)
theorem ract_n {t f:Int}{mks:List Int}{i:Nat}(hi:i<mks.length)(k:dj (gi mks i)=false):dr t f mks=false:=by
 unfold dr
 rw [show mks.all dj=false from by
  rw[<-Bool.not_eq_true];intro q
  have:=List.all_eq_true.1 q _ (List.getElem_mem hi)
  rw[<-fM hi,k] at this;cases this]
 simp
theorem ract_y {t f:Int}{mks:List Int}(hC:cM t f=true)(hl:mks.length<=32)(k:∀j:Nat,j<mks.length->dj (gi mks j)=true):dr t f mks=true:=by
 unfold dr
 rw [hC,decide_eq_true hl,show mks.all dj=true from List.all_eq_true.2 fun v hv=>by
  obtain⟨j,hj,rfl⟩:=List.mem_iff_getElem.1 hv
  rw[<-fM hj];exact k j hj]
 rfl
theorem ract_swp {t f:Int}{mks:List Int}(h:dr t f mks=true):cM t f=true/\gO mks=0/\mks.length<=32:=by
 unfold dr at h
 rw[Bool.and_eq_true,Bool.and_eq_true,decide_eq_true_eq] at h
 exact⟨h.1,swpE_0 (by omega) (fun j hj=>by rw[fM hj];exact List.all_eq_true.1 h.2.2 _ (List.getElem_mem hj)),h.2.1⟩
def facC (e:Ac):Bool:=decide (e.mks.length<=3)&&decide (e.ers.length<=40)
def gP (xs:List Int) (al:List Ac):Bool:=(al.take 9).all facC&&(decide (xs.length<=49)&&decide (al.length<=4))
theorem fac_ok {xs:List Int}{al:List Ac}(h:gP xs al=true):xs.length<=49/\al.length<=4/\∀j:Nat,j<al.length->(acG al j).mks.length<=3/\(acG al j).ers.length<=40:=by
 unfold gP at h
 rw[Bool.and_eq_true,Bool.and_eq_true,decide_eq_true_eq,decide_eq_true_eq] at h
 refine⟨h.2.1,h.2.2,fun j hj=>?_⟩
 have k:=List.all_eq_true.1 h.1 (acG al j) (by rw[List.take_of_length_le (by omega)];exact mM hj)
 unfold facC at k
 simpa using k
theorem fac_n {xs:List Int}{al:List Ac}{i:Nat}(hi:i<al.length)(h9:i<9)(k:facC (acG al i)=false):gP xs al=false:=by
 unfold gP
 rw [show (al.take 9).all facC=false from by
  rw[<-Bool.not_eq_true];intro q
  have e:acG al i=al[i]:=by unfold acG;rw[List.getD_eq_getElem?_getD,List.getElem?_eq_getElem hi];rfl
  have:=List.all_eq_true.1 q (acG al i) (List.mem_iff_getElem.2 ⟨i,by rw[List.length_take];omega,by rw[List.getElem_take,e]⟩)
  rw[k] at this;cases this]
 rfl
theorem fac_y {xs:List Int}{al:List Ac}(k:∀j:Nat,j<al.length->j<9->facC (acG al j)=true):gP xs al=(decide (xs.length<=49)&&decide (al.length<=4)):=by
 unfold gP
 rw [show (al.take 9).all facC=true from List.all_eq_true.2 fun e he=>by
  obtain⟨j,hj,rfl⟩:=List.mem_iff_getElem.1 he
  rw[List.length_take] at hj
  have e:acG al j=al[j]:=by unfold acG;rw[List.getD_eq_getElem?_getD,List.getElem?_eq_getElem (by omega)];rfl
  rw[List.getElem_take,<-e];exact k j (by omega) (by omega)]
 rfl
def doE (W Hh:Int) (xs:List Int) (tu le sl ra x y h k:Int) (t f eT eL eX eY:Int) (mks ers:List Int):Ev :=
 ⟨k,t,f,stB W Hh xs x y h t f (af eT (0-tu) tu) (af eL (0-le) le) (af eX (0-sl) sl) (af eY (0-sl) sl),.any,
  cU W Hh xs (stX W Hh xs x y h t f (af eT (0-tu) tu) (af eL (0-le) le) (af eX (0-sl) sl) (af eY (0-sl) sl)) (stY W Hh xs x y h t f (af eT (0-tu) tu) (af eL (0-le) le) (af eX (0-sl) sl) (af eY (0-sl) sl)) (nxH x y h t f (af eT (0-tu) tu) (af eL (0-le) le) (af eX (0-sl) sl) (af eY (0-sl) sl)) ra mks ers,
  stX W Hh xs x y h t f (af eT (0-tu) tu) (af eL (0-le) le) (af eX (0-sl) sl) (af eY (0-sl) sl),stY W Hh xs x y h t f (af eT (0-tu) tu) (af eL (0-le) le) (af eX (0-sl) sl) (af eY (0-sl) sl),nxH x y h t f (af eT (0-tu) tu) (af eL (0-le) le) (af eX (0-sl) sl) (af eY (0-sl) sl)⟩
structure TickP (W Hh:Int) (xs:List Int) (tu le sl ra x y h:Int) (e:Ev):Prop where
 cmd:cM e.t e.g=true
 scn:di e.sc=true
 pla:∀q∈e.sc,ji W Hh xs e.x e.y e.h ra q
 wth:wthB tu le sl ra x y h e.t e.g e.x e.y e.h e.st=true
 goo:dN W Hh xs e.x e.y e.h=true
theorem pi {W Hh:Int}{xs:List Int}{tu le sl ra x y h k t f eT eL eX eY:Int}{mks ers:List Int}(hG:dN W Hh xs x y h=true)(hB:bM tu le sl ra=true)(hA:dr t f mks=true):TickP W Hh xs tu le sl ra x y h (doE W Hh xs tu le sl ra x y h k t f eT eL eX eY mks ers)/\(doE W Hh xs tu le sl ra x y h k t f eT eL eX eY mks ers).sc.length<=mks.length:=by
 have hBi:=hB
 simp only[bM,Bool.and_eq_true,aZ] at hBi
 have c1:=n9 (n:=eT) (k:=tu) (by omega)
 have c2:=n9 (n:=eL) (k:=le) (by omega)
 have c3:=n9 (n:=eX) (k:=sl) (by omega)
 have c4:=n9 (n:=eY) (k:=sl) (by omega)
 obtain⟨hC,hE,hl⟩:=ract_swp hA
 obtain⟨s1,s2,s3⟩:=st_wth hG hB hC c1 c2 c3 c4
 have g:=s2
 unfold dN at g
 rw[Bool.and_eq_true] at g
 obtain⟨hV,hx,hy⟩:=iC.1 g.1
 have hv:=bo.1 hV
 obtain⟨w1,w2⟩:=sw_ok (xs:=xs) (h:=nxH x y h t f (af eT (0-tu) tu) (af eL (0-le) le) (af eX (0-sl) sl) (af eY (0-sl) sl)) (g:=ra) (mks:=mks) (ers:=ers) hx hy ⟨hv.w0,hv.w1⟩ ⟨hv.h0,hv.h1⟩ (by omega)
 refine⟨⟨hC,w1,w2,s3,s2⟩,?_⟩
 show (cU _ _ _ _ _ _ _ _ _).length<=_
 rw[o7 hE,kZ];exact Nat.le_refl _
def stK (xs:List Int) (m:Nat):Nat->List Int
 |0=>List.replicate xs.length 0
 |i+1=>if (i+m)%4=0 then (stK xs m i).set i (gi xs i) else stK xs m i
def stP (xs:List Int) (m:Nat):List Int:=stK xs m xs.length
theorem kw {xs:List Int}{m:Nat}:∀i:Nat,(stK xs m i).length=xs.length
 |0=>List.length_replicate
 |i+1=>by rw[stK];split<;>simp[kw i]
theorem oD {xs:List Int}{m:Nat}:∀(i j:Nat),gi (stK xs m i) j=0\/gi (stK xs m i) j=gi xs j
 | 0,j=>.inl (by
  unfold stK gi
  rw[List.getD_eq_getElem?_getD,List.getElem?_replicate]
  split<;>rfl)
 | i + 1,j=>by
  rw[stK]
  split
  ·rcases Nat.lt_or_ge i xs.length with q|q
   ·by_cases e:i=j
    ·subst e
     right
     unfold gi
     rw[List.getD_eq_getElem?_getD,List.getElem?_set_self (by rw[kw];exact q)];rfl
    have k:=oD (xs:=xs) (m:=m) i j
    unfold gi at k ⊢
    rw[List.getD_eq_getElem?_getD,List.getElem?_set_ne e,<-List.getD_eq_getElem?_getD];exact k
   rw[List.set_eq_of_length_le (by rw[kw];exact q)];exact oD i j
  exact oD i j
theorem stP_bel (xs:List Int)(m:Nat):fk (stP xs m) xs:=⟨kw _,oD _⟩
theorem stK_t {xs:List Int}{m i:Nat}(h:(i+m)%4=0):stK xs m (i+1)=(stK xs m i).set i (gi xs i):=if_pos h
theorem stK_f {xs:List Int}{m i:Nat}(h:¬(i+m)%4=0):stK xs m (i+1)=stK xs m i:=if_neg h
theorem rem_nat3 (k:Nat):Int.tmod (k:Int) 3=((k%3:Nat):Int):=by rw[Int.tmod_eq_emod_of_nonneg (by omega)];omega
def sbX (ax ay ah:Int) (m:Nat):T6:=(ax-(m:Int),ay-((m%3:Nat):Int),ax+((m%3:Nat):Int),ay+(m:Int),(((ah-((m%3:Nat):Int))%256).toNat:Int),2*((m%3:Nat):Int)+1)
theorem sb_ok {ax ay ah:Int}{m:Nat}(hm:m<24)(hx:0<=ax/\ax<=4096)(hy:0<=ay/\ay<=4096)(hh:0<=ah/\ah<=255):bA (sbX ax ay ah m)=true/\InP (sbX ax ay ah m) ax ay ah/\nrP (sbX ax ay ah m):=by
 have h3:m%3<3:=Nat.mod_lt _ (by decide)
 have h3':m%3<=m:=Nat.mod_le ..
 refine⟨bv.2 ⟨?_,?_,bm.2 ?_⟩,⟨?_,?_,?_⟩,?_⟩
 ·unfold sbX;simp only;omega
 ·unfold sbX;simp only;omega
 ·unfold sbX;simp only;omega
 ·unfold sbX;simp only;omega
 ·unfold sbX;simp only;omega
 ·unfold sbX eq;simp only;omega
 unfold sbX nrP;simp only;omega
def iH (W Hh:Int) (xs:List Int) (tu le sl ra ax ay ah:Int):Bool:=dI W Hh xs&&(bM tu le sl ra&&(dd ax ay ah&&rfB W Hh xs ax ay))
def rnwE (W Hh:Int) (xs:List Int) (tu le sl ra ax ay ah:Int):Int:=if dI W Hh xs=true then (if (bM tu le sl ra&&dd ax ay ah)=true then 9 else 1) else gg W Hh xs
theorem rnwE_nz {W Hh:Int}{xs:List Int}{tu le sl ra ax ay ah:Int}:¬rnwE W Hh xs tu le sl ra ax ay ah=0:=by
 unfold rnwE
 split
 ·split<;>decide
 rename_i h
 unfold gg
 split
 ·first|decide|(rw[if_neg h];decide)
 decide
theorem mN {W Hh:Int}{xs:List Int}(h:dI W Hh xs=true):bQ W Hh xs=true:=by
 unfold dI at h;rw[Bool.and_eq_true] at h;exact h.1
theorem pj {W Hh:Int}{xs:List Int}{tu le sl ra ax ay ah:Int}(h:iH W Hh xs tu le sl ra ax ay ah=true):dI W Hh xs=true/\bM tu le sl ra=true/\dN W Hh xs ax ay ah=true/\dd ax ay ah=true/\rfB W Hh xs ax ay=true:=by
 unfold iH at h
 simp only[Bool.and_eq_true] at h
 obtain⟨h1,h2,h3,h4⟩:=h
 obtain⟨hx,hy⟩:=rf_in h4
 refine⟨h1,h2,?_,h3,h4⟩
 unfold dN
 rw[iC.2 ⟨mN h1,hx,hy⟩,h3];rfl
def kbI (k:Int) (b:Bool):Int:=if b=true then k+1 else k
theorem nJ {k:IntKind}{l:List Int}:(ints k l).take l.length=ints k l/\(ints k l).take (l.length*1)=ints k l:=⟨List.take_of_length_le (by rw[co];omega),List.take_of_length_le (by rw[co];omega)⟩
section
variable {W Hh:Int} {xs:List Int} {l:List T6} {sc:List (Int×Int)} {g:Int}
end
theorem rK (H:aa)(t f eT eL eX eY:Int)(mk:AV)(mks:List Int)(er:AV)(ers:List Int)(hmk:Sl H 1 mk mks.length (ints .i64 mks))(her:Sl H 1 er ers.length (ints .i64 ers))(hml:mks.length<=9223372036854775807):zC 60 [.agg [iV t,iV f,iV eT,iV eL,iV eX,iV eY,mk,er]] H (.bool (dr t f mks)) H:=by
 obtain⟨bmk,omk,cmk,rfl,hbmk,hblmk,hb0mk⟩:=zA1 hmk
 obtain⟨ber,oer,cer,rfl,hber,hbler,hb0er⟩:=zA1 her
 refine AcT true func60 ?_;intro hbel Q hQ
 have G1:=jn @hbmk (jn @hb0mk (jn @hber @hb0er))
 refine ae G1 ?_
 refine cv (bcmd_c _ t f) ?_
 refine rgs G1 (fun h1 h1d G2=>?_) (fun h1 h1d G11=>?_)
 ·have hC:=h1d
  refine rcs G2 (fun h2 h2d G3=>?_) (fun h2 h2d G4=>?_)
  ·have hfinR:dr t f mks=false:=by unfold dr;rw[decide_eq_false (show ¬mks.length<=32 by omega)];simp
   exact eR G3 hQ hbel (.bool false) results60 ⟨by first|(rw[hfinR];done)|(rw[hfinR];rfl),rfl⟩
  have hl32:mks.length<=32:=by omega
  refine ae G4 ?_
  refine glp (fun k F Hx=>∃i:Nat,i+k=mks.length/\(∀j:Nat,j<i->dj (gi mks j)=true)/\F=[(1,.ptr (some (H.length,0))),(3,iV (i:Int))]/\Hx=H++[.cells true 0 [iV t,iV f,iV eT,iV eL,iV eX,iV eY,.sl (some (bmk,0)) mks.length cmk,.sl (some (ber,0)) ers.length cer]]) (mks.length) ?_ ?_
  ·refine⟨_,_,_,⟨0,by omega,(fun j h=>by omega),rfl,rfl⟩,bS hbel [0] aJ⟩
  rintro k0 F Hx ⟨i,hm0,hal,rfl,rfl⟩ J0 hJ0
  refine rcs G4 (fun h3 h3d _=>?_) (fun h3 h3d G10=>?_)
  ·have hlt:i<mks.length:=by omega
   have q4:=cn (k:=.i64) (xs:=mks) (j:=i) (by omega)
   have G5:=jn h3 (jn h3d (jn q4 G4))
   refine rgs G5 (fun h5 h5d _=>?_) (fun h5 h5d G9=>?_)
   ·have q6:=cn (k:=.i64) (xs:=mks) (j:=i) (by omega)
    have G6:=jn h5 (jn h5d (jn q6 G5))
    refine rcs G6 (fun h7 h7d G7=>?_) (fun h7 h7d G8=>?_)
    ·have hfinR:dr t f mks=false:=ract_n hlt (by unfold dj;rw[decide_eq_false (show ¬gi mks i<=255 by omega)];simp)
     exact eR G7 hQ hbel (.bool false) results60 ⟨by first|(rw[hfinR];done)|(rw[hfinR];rfl),rfl⟩
    have hmt:dj (gi mks i)=true:=by unfold dj;rw[decide_eq_true (by omega),decide_eq_true (by omega)];rfl
    refine ae G8 ?_
    refine hJ0 _ _ ⟨k0-1,by omega,_,_,_,⟨i+1,by omega,fun j hj=>by
          rcases Nat.lt_or_ge j i with h|h
          ·exact hal j h
          rw[show j=i by omega];exact hmt,rfl,rfl⟩,bS hbel [0] aJ⟩
   have hfinR:dr t f mks=false:=ract_n hlt (by unfold dj;rw[decide_eq_false (by omega)];rfl)
   exact eR G9 hQ hbel (.bool false) results60 ⟨by first|(rw[hfinR];done)|(rw[hfinR];rfl),rfl⟩
  have hfinR:dr t f mks=true:=ract_y hC hl32 (fun j h=>hal j (by omega))
  exact eR G10 hQ hbel (.bool true) results60 ⟨by first|(rw[hfinR];done)|(rw[hfinR];rfl),rfl⟩
 have hfinR:dr t f mks=false:=by unfold dr;rw[h1d];rfl
 exact eR G11 hQ hbel (.bool false) results60 ⟨by first|(rw[hfinR];done)|(rw[hfinR];rfl),rfl⟩
theorem rnwy_c (H:aa)(W Hh:Int)(pp:AV)(xs:List Int)(tu le sl ra ax ay ah:Int)(hpp:zI H pp xs)(hV:bQ W Hh xs=true)(hBl:dI W Hh xs=true)(hB:bM tu le sl ra=true)(hP:dd ax ay ah=true)(hF:rfB W Hh xs ax ay=true)(hx6:xs.length<=1000000)(hx0:0<xs.length):zC 32 [.agg [iV W,iV Hh,pp],.agg [iV tu,iV le,iV sl,iV ra],.agg [iV ax,iV ay,iV ah]] H (.tup [.agg [iV W,iV Hh,.sl (some (H.length,0)) xs.length none,iV tu,iV le,iV sl,iV ra,iV ax,iV ay,iV ah,iV 0,iV 0],iV 0]) (H++[.cells true 1 (ints .u8 xs)]):=by
 obtain⟨bpp,opp,cpp,rfl,hbpp,hblpp,hb0pp⟩:=zA1 hpp
 have hE0:gg W Hh xs=0:=by unfold gg;rw[hV,hBl];rfl
 have hpt:=(dp.1 hP).1
 have hz1:(xs.length==0)=false:=beq_eq_false_iff_ne.2 (by omega)
 have hz2:decide (0<xs.length)=true:=decide_eq_true (by omega)
 (refine bh func32 _ rfl (Nat.le_of_ble_eq_true (by kernel_rfl)) rfl ?_;intro hbel Q hQ hQ' c hc;unfold Tryz.f32 at hc;simp only[Option.some.injEq] at hc;subst hc;clear hQ')
 refine zQF hQ fun Q1 hn1 hQ1 he1=>?_
 have G12:=jn @hbpp (jn @hb0pp (jn @hE0 (jn @hB (jn @hP (jn @hF (jn @hz1 @hz2))))))
 refine ae G12 ?_
 refine hn1 _ _ (zQF hQ fun Q2 hn2 hQ2 he2=>?_)
 refine ae G12 ?_
 refine cvr G12 (rchk_c _ W _ _ xs (zA2 hb0pp hbpp)) ?_
 refine hn2 _ _ (zQF hQ fun Q3 hn3 hQ3 he3=>?_)
 refine ae G12 ?_
 refine cvr G12 (bbnd_c _ _ _ _ _) ?_
 refine cvr G12 (kh _ _ _ _) ?_
 refine hn3 _ _ (zQF hQ fun Q4 hn4 hQ4 he4=>?_)
 refine ae G12 ?_
 refine cvr G12 (rfits_c _ W _ _ xs _ _ (zA2 hb0pp hbpp) hV hBl (by assumption)) ?_
 refine hn4 _ _ ?_
 refine bt false try_mixed [[0,1,2,3,4,5,6,7,8,9,10],[0,1,2,3,4,5,6,9,7,8,10],[0,1,2,3,5,6,9,4,7,8,10]] (by kernel_rfl) (fun F2 H2=>F2=[(4,.ptr (some (H.length,0))),(5,.ptr (some (H.length+1,0))),(6,.ptr (some (H.length+2,0))),(7,iV 0),(9,.ptr (some (H.length+4,0)))]/\H2=H++[.cells true 0 [iV tu,iV le,iV sl,iV ra],.cells true 0 [iV ax,iV ay,iV ah],.cells true 0 [iV 0,iV 0,.sl none 0 (some 0),iV 0,iV 0,iV 0,iV 0,iV 0,iV 0,iV 0,iV 0,iV 0],.cells true 1 (ints .u8 xs),.cells true 0 [iV W,iV Hh,.sl (some (H.length+3,0)) xs.length none]]) ?_ ?_
 ·refine aj ?_ (aj ?_ (aj ?_ (bu)))<;>intro J hJ
  ·have G13:=jn @co (jn @cV (jn @nJ G12))
   refine ag G13 ?_
   refine aq (hJ _ _ ⟨_,_,_,⟨rfl,rfl⟩,bS hbel [1,2,3,5,6] cD⟩)
  ·have G14:=jn @co (jn @cV (jn @nJ G12))
   refine ag G14 ?_
   refine aq (hJ _ _ ⟨_,_,_,⟨rfl,rfl⟩,bS hbel [1,2,3,6,5] cD⟩)
  have G15:=jn @co (jn @cV (jn @nJ G12))
  refine ag G15 ?_
  refine aq (hJ _ _ ⟨_,_,_,⟨rfl,rfl⟩,bS hbel [1,2,3,6,4] cD⟩)
 rintro F2 H2 ⟨rfl,rfl⟩
 refine fnF ?_
 have G16:=jn @co (jn @cV G12)
 refine ae G16 ?_
 refine hQ _ _ (ba (.inl rfl) hbel (x1:=.tup [.agg [iV W,iV Hh,.sl (some (H.length+3,0)) xs.length none,iV tu,iV le,iV sl,iV ra,iV ax,iV ay,iV ah,iV 0,iV 0],iV 0]) (l2:=[.cells true 1 (ints .u8 xs)]) (.tup [.agg [iV W,iV Hh,.sl (some (H.length,0)) xs.length none,iV tu,iV le,iV sl,iV ra,iV ax,iV ay,iV ah,iV 0,iV 0],iV 0]) (aY results32) [] rfl [3] (by decide) ⟨rfl,rfl⟩ ?_)
 exact aJ
theorem rnwn_c (H:aa)(W Hh:Int)(pp:AV)(xs:List Int)(tu le sl ra ax ay ah:Int)(hpp:zI H pp xs)(hn:iH W Hh xs tu le sl ra ax ay ah=false):zC 32 [.agg [iV W,iV Hh,pp],.agg [iV tu,iV le,iV sl,iV ra],.agg [iV ax,iV ay,iV ah]] H (.tup [.agg [iV 0,iV 0,.sl none 0 (some 0),iV 0,iV 0,iV 0,iV 0,iV 0,iV 0,iV 0,iV 0,iV 0],iV (rnwE W Hh xs tu le sl ra ax ay ah)]) H:=by
 obtain⟨bpp,opp,cpp,rfl,hbpp,hblpp,hb0pp⟩:=zA1 hpp
 (refine bh func32 _ rfl (Nat.le_of_ble_eq_true (by kernel_rfl)) rfl ?_;intro hbel Q hQ hQ' c hc;unfold Tryz.f32 at hc;simp only[Option.some.injEq] at hc;subst hc;clear hQ')
 refine zQT hQ fun Q5 hn5 hQ5 he5=>?_
 have G17:=jn @hbpp @hb0pp
 refine ae G17 ?_
 refine hn5 _ _ (zQT hQ fun Q6 hn6 hQ6 he6=>?_)
 refine ae G17 ?_
 refine cv (rchk_c _ W _ _ xs (zA2 hb0pp hbpp)) ?_
 refine rcs G17 (fun h1 h1d _=>?_) (fun h1 h1d _=>?_)
 ·have h1n:=bnT h1
  have hbf:dI W Hh xs=false:=by
   cases q:dI W Hh xs with
   |false=>rfl
   |true=>exact absurd (show gg W Hh xs=0 by unfold gg;rw[mN q,q];rfl) (by first|exact h1d|simpa using h1d)
  have hfinE:rnwE W Hh xs tu le sl ra ax ay ah=gg W Hh xs:=if_neg (by rw[hbf];decide)
  have G18:=jn h1 (jn h1n (jn @aP (jn @aO G17)))
  exact eR G18 hQ6 hbel (.tup [.agg [iV 0,iV 0,.sl none 0 (some 0),iV 0,iV 0,iV 0,iV 0,iV 0,iV 0,iV 0,iV 0,iV 0],iV (gg W Hh xs)]) results32 ⟨by first|(rw[hfinE];done)|(rw[hfinE];rfl),rfl⟩
 have h1n:=bnT h1
 have hBl:dI W Hh xs=true:=by
  have h0:gg W Hh xs=0:=by first|exact h1d|simpa using h1d
  cases q:dI W Hh xs with
  |true=>rfl
  | false =>
   unfold gg at h0
   rw[q] at h0
   split at h0<;>cases h0
 have hV:=mN hBl
 have hfinF:∀b:Bool,(bM tu le sl ra&&dd ax ay ah)=b->rnwE W Hh xs tu le sl ra ax ay ah=if b=true then 9 else 1:=fun b hb=>by unfold rnwE;rw[if_pos hBl,hb]
 have G19:=jn h1 (jn h1n (jn @aP (jn @aO G17)))
 refine ae G19 ?_
 refine hn6 _ _ (zQT hQ fun Q7 hn7 hQ7 he7=>?_)
 refine ae G19 ?_
 refine cv (bbnd_c _ _ _ _ _) ?_
 refine rgs G19 (fun h2 h2d G20=>?_) (fun h2 h2d G24=>?_)
 ·have hB:=h2d
  refine ae G20 ?_
  refine cv (kh _ _ _ _) ?_
  refine rcs G20 (fun h3 h3d G21=>?_) (fun h3 h3d G22=>?_)
  ·have hfinE:=hfinF false (by rw[h3d];simp)
   exact eR G21 hQ7 hbel (.tup [.agg [iV 0,iV 0,.sl none 0 (some 0),iV 0,iV 0,iV 0,iV 0,iV 0,iV 0,iV 0,iV 0,iV 0],iV 1]) results32 ⟨by first|(rw[hfinE];done)|(rw[hfinE];rfl),rfl⟩
  have hP:=h3d
  have hpt:=(dp.1 hP).1
  refine ae G22 ?_
  refine hn7 _ _ (zQT hQ fun Q8 hn8 hQ8 he8=>?_)
  refine ae G22 ?_
  refine cv (rfits_c _ W _ _ xs _ _ (zA2 hb0pp hbpp) hV hBl (by assumption)) ?_
  refine rcs G22 (fun h4 h4d G23=>?_) (fun h4 h4d _=>?_)
  ·have hfinE:=hfinF true (by rw[hB,hP];rfl)
   exact eR G23 hQ8 hbel (.tup [.agg [iV 0,iV 0,.sl none 0 (some 0),iV 0,iV 0,iV 0,iV 0,iV 0,iV 0,iV 0,iV 0,iV 0],iV 9]) results32 ⟨by first|(rw[hfinE];done)|(rw[hfinE];rfl),rfl⟩
  exact absurd (show iH W Hh xs tu le sl ra ax ay ah=true by unfold iH;rw[hBl,hB,hP,h4d];rfl) (by rw[hn];decide)
 have hfinE:=hfinF false (by rw[h2d];rfl)
 exact eR G24 hQ7 hbel (.tup [.agg [iV 0,iV 0,.sl none 0 (some 0),iV 0,iV 0,iV 0,iV 0,iV 0,iV 0,iV 0,iV 0,iV 0],iV 1]) results32 ⟨by first|(rw[hfinE];done)|(rw[hfinE];rfl),rfl⟩
theorem kz (H:aa)(W Hh:Int)(pp:AV)(xs:List Int)(tu le sl ra x y h k1 k2 t f eT eL eX eY:Int)(mk:AV)(mks:List Int)(er:AV)(ers:List Int)(hpp:zI H pp xs)(hmk:Sl H 1 mk mks.length (ints .i64 mks))(her:Sl H 1 er ers.length (ints .i64 ers))(hml:mks.length<=9223372036854775807)(hA:dr t f mks=false):zC 33 [.agg [iV W,iV Hh,pp,iV tu,iV le,iV sl,iV ra,iV x,iV y,iV h,iV k1,iV k2],.agg [iV t,iV f,iV eT,iV eL,iV eX,iV eY,mk,er]] H (.tup [.agg [iV W,iV Hh,pp,iV tu,iV le,iV sl,iV ra,iV x,iV y,iV h,iV k1,iV k2],.agg [iV 0,iV 0,iV 0,.bool false,.sl none 0 (some 0)],iV 1]) H:=by
 obtain⟨bpp,opp,cpp,rfl,hbpp,hblpp,hb0pp⟩:=zA1 hpp
 obtain⟨bmk,omk,cmk,rfl,hbmk,hblmk,hb0mk⟩:=zA1 hmk
 obtain⟨ber,oer,cer,rfl,hber,hbler,hb0er⟩:=zA1 her
 (refine bh func33 _ rfl (Nat.le_of_ble_eq_true (by kernel_rfl)) rfl ?_;intro hbel Q hQ hQ' c hc;unfold Tryz.f33 at hc;simp only[Option.some.injEq] at hc;subst hc;clear hQ')
 refine zQT hQ fun Q9 hn9 hQ9 he9=>?_
 have G25:=jn @hbpp (jn @hb0pp (jn @hbmk (jn @hb0mk (jn @hber (jn @hb0er @hA)))))
 refine ae G25 ?_
 refine hn9 _ _ (zQT hQ fun Q10 hn10 hQ10 he10=>?_)
 refine ae G25 ?_
 refine cvr G25 (rK _ t f _ _ _ _ _ mks _ ers (zA2 hb0mk hbmk) (zA2 hb0er hber) hml) ?_
 refine hQ10 _ _ (ba (.inl rfl) hbel (x1:=.tup [.agg [iV W,iV Hh,.sl (some (bpp,0)) xs.length cpp,iV tu,iV le,iV sl,iV ra,iV x,iV y,iV h,iV k1,iV k2],.agg [iV 0,iV 0,iV 0,.bool false,.sl none 0 (some 0)],iV 1]) (l2:=[]) (.tup [.agg [iV W,iV Hh,.sl (some (bpp,0)) xs.length cpp,iV tu,iV le,iV sl,iV ra,iV x,iV y,iV h,iV k1,iV k2],.agg [iV 0,iV 0,iV 0,.bool false,.sl none 0 (some 0)],iV 1]) (aY results33) [] rfl [] (by decide) ⟨rfl,List.append_nil _⟩ ?_)
 exact aJ
theorem rdoy_c (H:aa)(W Hh:Int)(pp:AV)(xs:List Int)(tu le sl ra x y h k1 k2 t f eT eL eX eY:Int)(mk:AV)(mks:List Int)(er:AV)(ers:List Int)(hpp:zI H pp xs)(hmk:Sl H 1 mk mks.length (ints .i64 mks))(her:Sl H 1 er ers.length (ints .i64 ers))(hml:mks.length<=9223372036854775807)(hle:ers.length<=1000000000)(hA:dr t f mks=true)(hBl:dI W Hh xs=true)(hB:bM tu le sl ra=true)(hG:dN W Hh xs x y h=true)(hk1:0<=k1/\k1<=1000000)(hk2:0<=k2/\k2<=1000000):zC 33 [.agg [iV W,iV Hh,pp,iV tu,iV le,iV sl,iV ra,iV x,iV y,iV h,iV k1,iV k2],.agg [iV t,iV f,iV eT,iV eL,iV eX,iV eY,mk,er]] H (.tup [.agg [iV W,iV Hh,pp,iV tu,iV le,iV sl,iV ra,iV ((doE W Hh xs tu le sl ra x y h (k1+1) t f eT eL eX eY mks ers).x),iV ((doE W Hh xs tu le sl ra x y h (k1+1) t f eT eL eX eY mks ers).y),iV ((doE W Hh xs tu le sl ra x y h (k1+1) t f eT eL eX eY mks ers).h),iV (k1+1),iV (kbI k2 (doE W Hh xs tu le sl ra x y h (k1+1) t f eT eL eX eY mks ers).st)],.agg [iV (k1+1),iV t,iV f,.bool ((doE W Hh xs tu le sl ra x y h (k1+1) t f eT eL eX eY mks ers).st),.sl (some (H.length,0)) (((doE W Hh xs tu le sl ra x y h (k1+1) t f eT eL eX eY mks ers).sc).length) (aW ((doE W Hh xs tu le sl ra x y h (k1+1) t f eT eL eX eY mks ers).sc).length)],iV 0]) (H++[.cells (aQ ((doE W Hh xs tu le sl ra x y h (k1+1) t f eT eL eX eY mks ers).sc).length) 2 (prs ((doE W Hh xs tu le sl ra x y h (k1+1) t f eT eL eX eY mks ers).sc))]):=by
 obtain⟨bpp,opp,cpp,rfl,hbpp,hblpp,hb0pp⟩:=zA1 hpp
 obtain⟨bmk,omk,cmk,rfl,hbmk,hblmk,hb0mk⟩:=zA1 hmk
 obtain⟨ber,oer,cer,rfl,hber,hbler,hb0er⟩:=zA1 her
 have hV:=mN hBl
 have hG2:dN W Hh xs (stX W Hh xs x y h t f (af eT (0-tu) tu) (af eL (0-le) le) (af eX (0-sl) sl) (af eY (0-sl) sl)) (stY W Hh xs x y h t f (af eT (0-tu) tu) (af eL (0-le) le) (af eX (0-sl) sl) (af eY (0-sl) sl)) (nxH x y h t f (af eT (0-tu) tu) (af eL (0-le) le) (af eX (0-sl) sl) (af eY (0-sl) sl))=true:=(pi (k:=k1+1) (eT:=eT) (eL:=eL) (eX:=eX) (eY:=eY) (ers:=ers) hG hB hA).1.goo
 have hP:dd x y h=true:=by have q:=hG;unfold dN at q;rw[Bool.and_eq_true] at q;exact q.2
 have hBi:=hB
 simp only[bM,Bool.and_eq_true,aZ] at hBi
 (refine bh func33 _ rfl (Nat.le_of_ble_eq_true (by kernel_rfl)) rfl ?_;intro hbel Q hQ hQ' c hc;unfold Tryz.f33 at hc;simp only[Option.some.injEq] at hc;subst hc;clear hQ')
 refine zQF hQ fun Q11 hn11 hQ11 he11=>?_
 have G26:=jn @hbpp (jn @hb0pp (jn @hbmk (jn @hb0mk (jn @hber (jn @hb0er @hA)))))
 refine ae G26 ?_
 refine hn11 _ _ (zQF hQ fun Q12 hn12 hQ12 he12=>?_)
 refine ae G26 ?_
 refine cvr G26 (rK _ t f _ _ _ _ _ mks _ ers (zA2 hb0mk hbmk) (zA2 hb0er hber) hml) ?_
 refine hn12 _ _ (zQF hQ fun Q13 hn13 hQ13 he13=>?_)
 refine ae G26 ?_
 refine cvr G26 (r11clip_c _ _ _ _ _ _ _ _ _ hB) ?_
 refine hn13 _ _ (zQF hQ fun Q14 hn14 hQ14 he14=>?_)
 refine ae G26 ?_
 refine cvr G26 (step_c _ W _ _ xs x y h t f _ _ _ _ (zA2 hb0pp hbpp) hV hBl hP) ?_
 refine hn14 _ _ (zQF hQ fun Q15 hn15 hQ15 he15=>?_)
 refine ae G26 ?_
 refine hn15 _ _ (zQF hQ fun Q16 hn16 hQ16 he16=>?_)
 refine ae G26 ?_
 refine hn16 _ _ (zQF hQ fun Q17 hn17 hQ17 he17=>?_)
 refine rcs G26 (fun h1 h1d G27=>?_) (fun h1 h1d G29=>?_)
 ·have e1:(doE W Hh xs tu le sl ra x y h (k1+1) t f eT eL eX eY mks ers).st=true:=h1d
  have e2:kbI k2 (doE W Hh xs tu le sl ra x y h (k1+1) t f eT eL eX eY mks ers).st=k2+1:=by rw[e1];rfl
  refine ae G27 ?_
  refine hn17 _ _ (zQF hQ fun Q18 hn18 hQ18 he18=>?_)
  refine ae G27 ?_
  refine cvr G27 (rJ _ W _ _ xs _ _ _ _ mks _ _ ers (zA2 hb0pp hbpp) (zA2 hb0mk hbmk) (zA2 hb0er hber) hG2 (by omega) hle) ?_
  refine hn18 _ _ ?_
  refine bt false try_mixed [[0,1,2,3,4,5,6,7,8,9,10],[0,1,2,3,5,6,8,4,7,9,10],[0,1,3,4,5,6,8,2,7,9,10],[0,1,3,5,6,8,2,4,7,9,10]] (by kernel_rfl) (fun F2 H2=>F2=[(4,.ptr (some (H.length,0))),(5,.ptr (some (H.length+1,0))),(6,iV 0)]/\H2=H++[.cells true 0 [iV W,iV Hh,.sl (some (bpp,0)) xs.length cpp,iV tu,iV le,iV sl,iV ra,iV (stX W Hh xs x y h t f (af eT (0-tu) tu) (af eL (0-le) le) (af eX (0-sl) sl) (af eY (0-sl) sl)),iV (stY W Hh xs x y h t f (af eT (0-tu) tu) (af eL (0-le) le) (af eX (0-sl) sl) (af eY (0-sl) sl)),iV (nxH x y h t f (af eT (0-tu) tu) (af eL (0-le) le) (af eX (0-sl) sl) (af eY (0-sl) sl)),iV (k1+1),iV (k2+1)],.cells true 0 [iV (k1+1),iV t,iV f,.bool true,.sl (some (H.length+2,0)) ((cU W Hh xs (stX W Hh xs x y h t f (af eT (0-tu) tu) (af eL (0-le) le) (af eX (0-sl) sl) (af eY (0-sl) sl)) (stY W Hh xs x y h t f (af eT (0-tu) tu) (af eL (0-le) le) (af eX (0-sl) sl) (af eY (0-sl) sl)) (nxH x y h t f (af eT (0-tu) tu) (af eL (0-le) le) (af eX (0-sl) sl) (af eY (0-sl) sl)) ra mks ers).length) (aW (cU W Hh xs (stX W Hh xs x y h t f (af eT (0-tu) tu) (af eL (0-le) le) (af eX (0-sl) sl) (af eY (0-sl) sl)) (stY W Hh xs x y h t f (af eT (0-tu) tu) (af eL (0-le) le) (af eX (0-sl) sl) (af eY (0-sl) sl)) (nxH x y h t f (af eT (0-tu) tu) (af eL (0-le) le) (af eX (0-sl) sl) (af eY (0-sl) sl)) ra mks ers).length)],.cells (aQ (cU W Hh xs (stX W Hh xs x y h t f (af eT (0-tu) tu) (af eL (0-le) le) (af eX (0-sl) sl) (af eY (0-sl) sl)) (stY W Hh xs x y h t f (af eT (0-tu) tu) (af eL (0-le) le) (af eX (0-sl) sl) (af eY (0-sl) sl)) (nxH x y h t f (af eT (0-tu) tu) (af eL (0-le) le) (af eX (0-sl) sl) (af eY (0-sl) sl)) ra mks ers).length) 2 (prs (cU W Hh xs (stX W Hh xs x y h t f (af eT (0-tu) tu) (af eL (0-le) le) (af eX (0-sl) sl) (af eY (0-sl) sl)) (stY W Hh xs x y h t f (af eT (0-tu) tu) (af eL (0-le) le) (af eX (0-sl) sl) (af eY (0-sl) sl)) (nxH x y h t f (af eT (0-tu) tu) (af eL (0-le) le) (af eX (0-sl) sl) (af eY (0-sl) sl)) ra mks ers))]) ?_ ?_
  ·refine aj ?_ (aj ?_ (aj ?_ (aj ?_ (bu))))<;>intro J hJ
   ·refine ag G27 ?_
    refine aq (hJ _ _ ⟨_,_,_,⟨rfl,rfl⟩,bS hbel [2,3,6] cD⟩)
   ·refine ag G27 ?_
    refine aq (hJ _ _ ⟨_,_,_,⟨rfl,rfl⟩,bS hbel [2,3,6] cD⟩)
   ·refine ag G27 ?_
    refine aq (hJ _ _ ⟨_,_,_,⟨rfl,rfl⟩,bS hbel [2,3,6] cD⟩)
   refine ag G27 ?_
   refine aq (hJ _ _ ⟨_,_,_,⟨rfl,rfl⟩,bS hbel [2,3,6] cD⟩)
  rintro F2 H2 ⟨rfl,rfl⟩
  refine fnF ?_
  have G28:=jn @bF (jn @cJ G27)
  refine ae G28 ?_
  refine hQ _ _ (ba (.inl rfl) hbel (x1:=.tup [.agg [iV W,iV Hh,.sl (some (bpp,0)) xs.length cpp,iV tu,iV le,iV sl,iV ra,iV (stX W Hh xs x y h t f (af eT (0-tu) tu) (af eL (0-le) le) (af eX (0-sl) sl) (af eY (0-sl) sl)),iV (stY W Hh xs x y h t f (af eT (0-tu) tu) (af eL (0-le) le) (af eX (0-sl) sl) (af eY (0-sl) sl)),iV (nxH x y h t f (af eT (0-tu) tu) (af eL (0-le) le) (af eX (0-sl) sl) (af eY (0-sl) sl)),iV (k1+1),iV (k2+1)],.agg [iV (k1+1),iV t,iV f,.bool true,.sl (some (H.length+2,0)) ((cU W Hh xs (stX W Hh xs x y h t f (af eT (0-tu) tu) (af eL (0-le) le) (af eX (0-sl) sl) (af eY (0-sl) sl)) (stY W Hh xs x y h t f (af eT (0-tu) tu) (af eL (0-le) le) (af eX (0-sl) sl) (af eY (0-sl) sl)) (nxH x y h t f (af eT (0-tu) tu) (af eL (0-le) le) (af eX (0-sl) sl) (af eY (0-sl) sl)) ra mks ers).length) (aW (cU W Hh xs (stX W Hh xs x y h t f (af eT (0-tu) tu) (af eL (0-le) le) (af eX (0-sl) sl) (af eY (0-sl) sl)) (stY W Hh xs x y h t f (af eT (0-tu) tu) (af eL (0-le) le) (af eX (0-sl) sl) (af eY (0-sl) sl)) (nxH x y h t f (af eT (0-tu) tu) (af eL (0-le) le) (af eX (0-sl) sl) (af eY (0-sl) sl)) ra mks ers).length)],iV 0]) (l2:=[.cells (aQ (cU W Hh xs (stX W Hh xs x y h t f (af eT (0-tu) tu) (af eL (0-le) le) (af eX (0-sl) sl) (af eY (0-sl) sl)) (stY W Hh xs x y h t f (af eT (0-tu) tu) (af eL (0-le) le) (af eX (0-sl) sl) (af eY (0-sl) sl)) (nxH x y h t f (af eT (0-tu) tu) (af eL (0-le) le) (af eX (0-sl) sl) (af eY (0-sl) sl)) ra mks ers).length) 2 (prs (cU W Hh xs (stX W Hh xs x y h t f (af eT (0-tu) tu) (af eL (0-le) le) (af eX (0-sl) sl) (af eY (0-sl) sl)) (stY W Hh xs x y h t f (af eT (0-tu) tu) (af eL (0-le) le) (af eX (0-sl) sl) (af eY (0-sl) sl)) (nxH x y h t f (af eT (0-tu) tu) (af eL (0-le) le) (af eX (0-sl) sl) (af eY (0-sl) sl)) ra mks ers))]) (.tup [.agg [iV W,iV Hh,.sl (some (bpp,0)) xs.length cpp,iV tu,iV le,iV sl,iV ra,iV (stX W Hh xs x y h t f (af eT (0-tu) tu) (af eL (0-le) le) (af eX (0-sl) sl) (af eY (0-sl) sl)),iV (stY W Hh xs x y h t f (af eT (0-tu) tu) (af eL (0-le) le) (af eX (0-sl) sl) (af eY (0-sl) sl)),iV (nxH x y h t f (af eT (0-tu) tu) (af eL (0-le) le) (af eX (0-sl) sl) (af eY (0-sl) sl)),iV (k1+1),iV (k2+1)],.agg [iV (k1+1),iV t,iV f,.bool true,.sl (some (H.length,0)) ((cU W Hh xs (stX W Hh xs x y h t f (af eT (0-tu) tu) (af eL (0-le) le) (af eX (0-sl) sl) (af eY (0-sl) sl)) (stY W Hh xs x y h t f (af eT (0-tu) tu) (af eL (0-le) le) (af eX (0-sl) sl) (af eY (0-sl) sl)) (nxH x y h t f (af eT (0-tu) tu) (af eL (0-le) le) (af eX (0-sl) sl) (af eY (0-sl) sl)) ra mks ers).length) (aW (cU W Hh xs (stX W Hh xs x y h t f (af eT (0-tu) tu) (af eL (0-le) le) (af eX (0-sl) sl) (af eY (0-sl) sl)) (stY W Hh xs x y h t f (af eT (0-tu) tu) (af eL (0-le) le) (af eX (0-sl) sl) (af eY (0-sl) sl)) (nxH x y h t f (af eT (0-tu) tu) (af eL (0-le) le) (af eX (0-sl) sl) (af eY (0-sl) sl)) ra mks ers).length)],iV 0]) (aY results33) [] rfl [2] (by decide) ⟨by first|(rw[e2,e1];done)|(rw[e2,e1];rfl),rfl⟩ ?_)
  exact aJ
 have e1:(doE W Hh xs tu le sl ra x y h (k1+1) t f eT eL eX eY mks ers).st=false:=h1d
 have e2:kbI k2 (doE W Hh xs tu le sl ra x y h (k1+1) t f eT eL eX eY mks ers).st=k2:=by rw[e1];rfl
 refine ae G29 ?_
 refine hn17 _ _ (zQF hQ fun Q19 hn19 hQ19 he19=>?_)
 refine ae G29 ?_
 refine cvr G29 (rJ _ W _ _ xs _ _ _ _ mks _ _ ers (zA2 hb0pp hbpp) (zA2 hb0mk hbmk) (zA2 hb0er hber) hG2 (by omega) hle) ?_
 refine hn19 _ _ ?_
 refine bt false try_mixed [[0,1,2,3,4,5,6,7,8,9,10],[0,1,2,3,5,6,8,4,7,9,10],[0,1,3,4,5,6,8,2,7,9,10],[0,1,3,5,6,8,2,4,7,9,10]] (by kernel_rfl) (fun F2 H2=>F2=[(4,.ptr (some (H.length,0))),(5,.ptr (some (H.length+1,0))),(6,iV 0)]/\H2=H++[.cells true 0 [iV W,iV Hh,.sl (some (bpp,0)) xs.length cpp,iV tu,iV le,iV sl,iV ra,iV (stX W Hh xs x y h t f (af eT (0-tu) tu) (af eL (0-le) le) (af eX (0-sl) sl) (af eY (0-sl) sl)),iV (stY W Hh xs x y h t f (af eT (0-tu) tu) (af eL (0-le) le) (af eX (0-sl) sl) (af eY (0-sl) sl)),iV (nxH x y h t f (af eT (0-tu) tu) (af eL (0-le) le) (af eX (0-sl) sl) (af eY (0-sl) sl)),iV (k1+1),iV k2],.cells true 0 [iV (k1+1),iV t,iV f,.bool false,.sl (some (H.length+2,0)) ((cU W Hh xs (stX W Hh xs x y h t f (af eT (0-tu) tu) (af eL (0-le) le) (af eX (0-sl) sl) (af eY (0-sl) sl)) (stY W Hh xs x y h t f (af eT (0-tu) tu) (af eL (0-le) le) (af eX (0-sl) sl) (af eY (0-sl) sl)) (nxH x y h t f (af eT (0-tu) tu) (af eL (0-le) le) (af eX (0-sl) sl) (af eY (0-sl) sl)) ra mks ers).length) (aW (cU W Hh xs (stX W Hh xs x y h t f (af eT (0-tu) tu) (af eL (0-le) le) (af eX (0-sl) sl) (af eY (0-sl) sl)) (stY W Hh xs x y h t f (af eT (0-tu) tu) (af eL (0-le) le) (af eX (0-sl) sl) (af eY (0-sl) sl)) (nxH x y h t f (af eT (0-tu) tu) (af eL (0-le) le) (af eX (0-sl) sl) (af eY (0-sl) sl)) ra mks ers).length)],.cells (aQ (cU W Hh xs (stX W Hh xs x y h t f (af eT (0-tu) tu) (af eL (0-le) le) (af eX (0-sl) sl) (af eY (0-sl) sl)) (stY W Hh xs x y h t f (af eT (0-tu) tu) (af eL (0-le) le) (af eX (0-sl) sl) (af eY (0-sl) sl)) (nxH x y h t f (af eT (0-tu) tu) (af eL (0-le) le) (af eX (0-sl) sl) (af eY (0-sl) sl)) ra mks ers).length) 2 (prs (cU W Hh xs (stX W Hh xs x y h t f (af eT (0-tu) tu) (af eL (0-le) le) (af eX (0-sl) sl) (af eY (0-sl) sl)) (stY W Hh xs x y h t f (af eT (0-tu) tu) (af eL (0-le) le) (af eX (0-sl) sl) (af eY (0-sl) sl)) (nxH x y h t f (af eT (0-tu) tu) (af eL (0-le) le) (af eX (0-sl) sl) (af eY (0-sl) sl)) ra mks ers))]) ?_ ?_
 ·refine aj ?_ (aj ?_ (aj ?_ (aj ?_ (bu))))<;>intro J hJ
  ·refine ag G29 ?_
   refine aq (hJ _ _ ⟨_,_,_,⟨rfl,rfl⟩,bS hbel [2,3,6] cD⟩)
  ·refine ag G29 ?_
   refine aq (hJ _ _ ⟨_,_,_,⟨rfl,rfl⟩,bS hbel [2,3,6] cD⟩)
  ·refine ag G29 ?_
   refine aq (hJ _ _ ⟨_,_,_,⟨rfl,rfl⟩,bS hbel [2,3,6] cD⟩)
  refine ag G29 ?_
  refine aq (hJ _ _ ⟨_,_,_,⟨rfl,rfl⟩,bS hbel [2,3,6] cD⟩)
 rintro F2 H2 ⟨rfl,rfl⟩
 refine fnF ?_
 have G30:=jn @bF (jn @cJ G29)
 refine ae G30 ?_
 refine hQ _ _ (ba (.inl rfl) hbel (x1:=.tup [.agg [iV W,iV Hh,.sl (some (bpp,0)) xs.length cpp,iV tu,iV le,iV sl,iV ra,iV (stX W Hh xs x y h t f (af eT (0-tu) tu) (af eL (0-le) le) (af eX (0-sl) sl) (af eY (0-sl) sl)),iV (stY W Hh xs x y h t f (af eT (0-tu) tu) (af eL (0-le) le) (af eX (0-sl) sl) (af eY (0-sl) sl)),iV (nxH x y h t f (af eT (0-tu) tu) (af eL (0-le) le) (af eX (0-sl) sl) (af eY (0-sl) sl)),iV (k1+1),iV k2],.agg [iV (k1+1),iV t,iV f,.bool false,.sl (some (H.length+2,0)) ((cU W Hh xs (stX W Hh xs x y h t f (af eT (0-tu) tu) (af eL (0-le) le) (af eX (0-sl) sl) (af eY (0-sl) sl)) (stY W Hh xs x y h t f (af eT (0-tu) tu) (af eL (0-le) le) (af eX (0-sl) sl) (af eY (0-sl) sl)) (nxH x y h t f (af eT (0-tu) tu) (af eL (0-le) le) (af eX (0-sl) sl) (af eY (0-sl) sl)) ra mks ers).length) (aW (cU W Hh xs (stX W Hh xs x y h t f (af eT (0-tu) tu) (af eL (0-le) le) (af eX (0-sl) sl) (af eY (0-sl) sl)) (stY W Hh xs x y h t f (af eT (0-tu) tu) (af eL (0-le) le) (af eX (0-sl) sl) (af eY (0-sl) sl)) (nxH x y h t f (af eT (0-tu) tu) (af eL (0-le) le) (af eX (0-sl) sl) (af eY (0-sl) sl)) ra mks ers).length)],iV 0]) (l2:=[.cells (aQ (cU W Hh xs (stX W Hh xs x y h t f (af eT (0-tu) tu) (af eL (0-le) le) (af eX (0-sl) sl) (af eY (0-sl) sl)) (stY W Hh xs x y h t f (af eT (0-tu) tu) (af eL (0-le) le) (af eX (0-sl) sl) (af eY (0-sl) sl)) (nxH x y h t f (af eT (0-tu) tu) (af eL (0-le) le) (af eX (0-sl) sl) (af eY (0-sl) sl)) ra mks ers).length) 2 (prs (cU W Hh xs (stX W Hh xs x y h t f (af eT (0-tu) tu) (af eL (0-le) le) (af eX (0-sl) sl) (af eY (0-sl) sl)) (stY W Hh xs x y h t f (af eT (0-tu) tu) (af eL (0-le) le) (af eX (0-sl) sl) (af eY (0-sl) sl)) (nxH x y h t f (af eT (0-tu) tu) (af eL (0-le) le) (af eX (0-sl) sl) (af eY (0-sl) sl)) ra mks ers))]) (.tup [.agg [iV W,iV Hh,.sl (some (bpp,0)) xs.length cpp,iV tu,iV le,iV sl,iV ra,iV (stX W Hh xs x y h t f (af eT (0-tu) tu) (af eL (0-le) le) (af eX (0-sl) sl) (af eY (0-sl) sl)),iV (stY W Hh xs x y h t f (af eT (0-tu) tu) (af eL (0-le) le) (af eX (0-sl) sl) (af eY (0-sl) sl)),iV (nxH x y h t f (af eT (0-tu) tu) (af eL (0-le) le) (af eX (0-sl) sl) (af eY (0-sl) sl)),iV (k1+1),iV k2],.agg [iV (k1+1),iV t,iV f,.bool false,.sl (some (H.length,0)) ((cU W Hh xs (stX W Hh xs x y h t f (af eT (0-tu) tu) (af eL (0-le) le) (af eX (0-sl) sl) (af eY (0-sl) sl)) (stY W Hh xs x y h t f (af eT (0-tu) tu) (af eL (0-le) le) (af eX (0-sl) sl) (af eY (0-sl) sl)) (nxH x y h t f (af eT (0-tu) tu) (af eL (0-le) le) (af eX (0-sl) sl) (af eY (0-sl) sl)) ra mks ers).length) (aW (cU W Hh xs (stX W Hh xs x y h t f (af eT (0-tu) tu) (af eL (0-le) le) (af eX (0-sl) sl) (af eY (0-sl) sl)) (stY W Hh xs x y h t f (af eT (0-tu) tu) (af eL (0-le) le) (af eX (0-sl) sl) (af eY (0-sl) sl)) (nxH x y h t f (af eT (0-tu) tu) (af eL (0-le) le) (af eX (0-sl) sl) (af eY (0-sl) sl)) ra mks ers).length)],iV 0]) (aY results33) [] rfl [2] (by decide) ⟨by first|(rw[e2,e1];done)|(rw[e2,e1];rfl),rfl⟩ ?_)
 exact aJ
theorem AW_joinD {P:Program}{N n:Nat}{Q:Exit->Fr->aa->Prop}{id:Nat}{ops:Array Oper}{b:Code}{F:Fr}{H:aa}(q:Bool) (hm:P.follows .mixedOrders=true) (hok:gX q N ops=true) (m:Nat) (hml:m<=H.length) (I:Fr->aa->Prop)
  (h1:∀J:Fr->aa->Prop,(∀F' H',(∃σ F2 H2,I F2 H2/\Abs n σ F' H' F2 H2)->J F' H')->AGo P N n q Q [.opsD m (ops.toList.map (lightOf (dsts ops))),.inv J] F H) (h2:∀F2 H2,I F2 H2->AW P N n b Q F2 H2):AW P N n (.seq (.region id ops true) b) Q F H:=by
 have k:=h1 (fun F' H'=>∃σ F2 H2,I F2 H2/\Abs n σ F' H' F2 H2) (fun _ _ h=>h)
 have k2:AOpsDL P q m (ops.toList.map (lightOf (dsts ops))) F H (fun F' H'=>gj (fun F' H'=>∃σ F2 H2,I F2 H2/\Abs n σ F' H' F2 H2) Q .normal F' H'):=k
 refine jv (AW.mono (AW_drawM q hm hok hml (il _ _ _ k2)) fun e F' H' hq=>?_)
 cases e with
 | normal =>
  obtain⟨σ,F2,H2,hi,ab⟩:=hq
  exact AW_abs ab (h2 F2 H2 hi)
 |_=>exact hq
theorem call_w {P:Program}{N n m:Nat}{Q:Exit->Fr->aa->Prop}{dst:Option Tmp}{os:List LOp}{r:List It}{F:Fr}{H H1:aa}{f:FuncId}{args:List AV}{x:AV}(hok:dG P f=true)(hl:H.length<=H1.length)(hf:∀b,b<m->b<H.length->H1[b]? = H[b]?)(h:ACalls P f args H fun y H'=>y=x/\H'=H1)(k:AGo P N n false Q (.opsD m os::r) (putF dst x F) H1):fR P N n false Q (some m) f args dst os r F H :=
 ⟨hok,x,H1,(fun h=>by cases h),⟨hl,hf⟩,h,k⟩
theorem qn {H l L:aa}{b c m:Nat}{x:ABlk}(hc:m<=c)(hb:b<m)(hlt:b<(H++l).length):((H++l).set c x++L)[b]? = (H++l)[b]? :=by
 rw[List.getElem?_append_left (by rw[List.length_set];exact hlt),List.getElem?_set_ne (by omega)]
theorem oE {H l:aa}{b c m:Nat}{x:ABlk}(hc:m<=c)(hb:b<m):((H++l).set c x)[b]? = (H++l)[b]? :=List.getElem?_set_ne (by omega)
theorem Abs0.le {n m:Nat}{σ:Nat->Nat}{F1 F2:Fr}{H1 H2:aa}(h:Abs0 m σ F1 H1 F2 H2)(hn:n<=m):Abs0 n σ F1 H1 F2 H2 :=
 ⟨fun b hb=>h.small b (Nat.lt_of_lt_of_le hb hn),Nat.le_trans hn h.len,h.frame,h.heap,h.inj⟩
theorem Abs.le {n m:Nat}{σ:Nat->Nat}{F1 F2:Fr}{H1 H2:aa}(h:Abs m σ F1 H1 F2 H2)(hn:n<=m):Abs n σ F1 H1 F2 H2:=by
 obtain⟨G,hG,k⟩:=h
 exact⟨G,hG,k.le hn⟩
theorem AEnd.le {P:Program}{fn:Func}{n m:Nat}{R:AV->aa->Prop}{e:Exit}{F:Fr}{H:aa}(h:AEnd P fn m R e F H)(hn:n<=m):AEnd P fn n R e F H:=by
 cases e with
 |normal=>obtain⟨x1,hx,σ,x2,H2,hr,ha⟩:=h;exact⟨x1,hx,σ,x2,H2,hr,ha.le hn⟩
 |ret=>obtain⟨x1,hx,σ,x2,H2,hr,ha⟩:=h;exact⟨x1,hx,σ,x2,H2,hr,ha.le hn⟩
 |_=>exact h
theorem grow1 {H X G:aa}{b:Nat}{x:ABlk}(hG:G=H++X)(h:∀l:aa,(H++l)[b]? = some x):G[b]? = some x:=by subst hG;exact h _
mutual
theorem bel_up1 {n m:Nat}(hn:n<=m):∀x:AV,x.bel n=true->x.bel m=true
 |.any,_=>rfl
 |.int _ _,_=>rfl
 |.bool _,_=>rfl
 |.str _,_=>rfl
 |.ptr none,_=>rfl
 |.ptr (some (b,o)),h=>by simp[AV.bel] at h ⊢;omega
 |.sl none _ _,_=>rfl
 |.sl (some (b,o)) _ _,h=>by simp[AV.bel] at h ⊢;omega
 |.mp none,_=>rfl
 |.mp (some b),h=>by simp[AV.bel] at h ⊢;omega
 |.nilfn,_=>rfl
 |.fn f caps,h=>by simp only[AV.bel] at h ⊢;exact bel_up hn caps h
 |.agg cs,h=>by simp only[AV.bel] at h ⊢;exact bel_up hn cs h
 |.tup cs,h=>by simp only[AV.bel] at h ⊢;exact bel_up hn cs h
theorem bel_up {n m:Nat}(hn:n<=m):∀xs:List AV,AV.bels n xs=true->AV.bels m xs=true
 |[],_=>rfl
 | x::r,h=>by
  simp only[AV.bels,Bool.and_eq_true] at h ⊢
  exact⟨bel_up1 hn x h.1,bel_up hn r h.2⟩
end
theorem ABlk.bel_up {n m:Nat}(hn:n<=m){x:ABlk}(h:x.bel n=true):x.bel m=true:=by
 cases x with
 |dead=>rfl
 |cells o e xs=>exact Go.Proofs.YtjihmmoaaibmnaaGreat.bel_up hn xs h
 | map es =>
  simp only[ABlk.bel,Bool.and_eq_true] at h ⊢
  exact⟨Go.Proofs.YtjihmmoaaibmnaaGreat.bel_up hn _ h.1,Go.Proofs.YtjihmmoaaibmnaaGreat.bel_up hn _ h.2⟩
 | fmap es bs ck =>
  simp only[ABlk.bel,Bool.and_eq_true] at h ⊢
  exact⟨Go.Proofs.YtjihmmoaaibmnaaGreat.bel_up hn _ h.1,Go.Proofs.YtjihmmoaaibmnaaGreat.bel_up hn _ h.2⟩
 | iter m bs sn ck =>
  simp only[ABlk.bel,decide_eq_true_eq] at h ⊢
  omega
theorem lZ {H X G:aa}(hG:G=H++X)(hb:HBel H.length H)(hX:∀x∈X,x.bel G.length=true):HBel G.length G:=fun b x hx=>by
 subst hG
 rcases Nat.lt_or_ge b H.length with q|q
 ·rw[List.getElem?_append_left q] at hx
  exact ABlk.bel_up (by simp) (hb b x hx)
 rw[List.getElem?_append_right q] at hx
 exact hX x (List.mem_of_getElem? hx)
theorem rL {n:Nat}:∀{a b:List AV},AV.bels n (a++b)=(AV.bels n a&&AV.bels n b)
 |[],b=>by simp[AV.bels]
 |x::a,b=>by rw[List.cons_append];simp only[AV.bels,rL (a:=a),Bool.and_assoc]
theorem rM {G X:aa}{x:ABlk}(h:∀y∈X,y.bel G.length=true)(hx:x.bel (G++[x]).length=true):∀y∈X++[x],y.bel (G++[x]).length=true:=fun y hy=>by
 rcases List.mem_append.1 hy with q|q
 ·exact ABlk.bel_up (by simp) (h y q)
 rw[List.mem_singleton.1 q];exact hx
theorem rN {G:aa}{x:ABlk}:(G++[x]).length=G.length+1:=by simp
theorem Abs.byX {n:Nat}{H0 l1 l2:aa}{x:ABlk}{F1 F2:Fr}(hn:n<=H0.length)(hsc:HBel H0.length H0)(G:aa)(hG:G.all gW=true)(sel:List Nat)(hnd:sel.Nodup)(h:fw (H0.length+(l1++G).length) (sig H0.length (l1++G).length sel) F1 F2/\fF (H0.length+(l1++G).length) (sig H0.length (l1++G).length sel) (l1++G) sel (x::l2)):Abs n (sig H0.length (l1++G).length sel) F1 (H0++l1) F2 ((H0++[x])++l2):=by
 have k:=(Abs.byG hsc G hG sel hnd h).le hn
 have e:H0++x::l2=(H0++[x])++l2:=by simp
 rw[<-e];exact k
theorem oF {P:Program}{fn:Func}{H G l1:aa}{R:AV->aa->Prop}{F:Fr}{e:Exit}(he:e=.ret\/e=.normal)(hG:∃X,G=H++X)(hbel:HBel H.length H){x:AV}(hx:dh P fn F (G++l1)=some x)(hp:x.bel 0=true)(hR:R x H):AEnd P fn H.length R e F (G++l1):=by
 obtain⟨X,rfl⟩:=hG
 rw[List.append_assoc] at hx ⊢
 exact b9 he hbel hx hp hR
theorem pre_le {H G:aa}(h:∃X,G=H++X):H.length<=G.length:=by obtain⟨X,rfl⟩:=h;simp
abbrev T3:=Int×Int×Int
def r3 (l:List T3):List AV:=l.flatMap fun p=>[.int .i64 p.1,.int .i64 p.2.1,.int .i64 p.2.2]
def g3 (l:List T3) (j:Nat):T3:=l.getD j (0,0,0)
def g31 (l:List T3) (j:Nat):Int:=(g3 l j).1
def g32 (l:List T3) (j:Nat):Int:=(g3 l j).2.1
def g33 (l:List T3) (j:Nat):Int:=(g3 l j).2.2
theorem db:r3 []=[]:=rfl
theorem cm {p:T3}{l:List T3}:r3 (p::l)=.int .i64 p.1::.int .i64 p.2.1::.int .i64 p.2.2::r3 l:=rfl
theorem ce {l m:List T3}:r3 (l++m)=r3 l++r3 m:=by simp[r3]
theorem oG:∀{l:List T3},(r3 l).length=l.length*3
 |[]=>rfl
 |p::l=>by rw[cm];simp only[List.length_cons,oG (l:=l)];omega
theorem cY {σ:Nat->Nat}:∀{l:List T3},AV.mvs σ (r3 l)=r3 l
 |[]=>rfl
 | p::l=>by
  rw[cm]
  show AV.mv σ _::AV.mv σ _::AV.mv σ _::AV.mvs σ (r3 l)=_
  rw[cY (l:=l)];rfl
theorem r3_at:∀{l:List T3}{j:Nat}(_h:j<l.length),(r3 l).drop (j*3)=.int .i64 (g31 l j)::.int .i64 (g32 l j)::.int .i64 (g33 l j)::(r3 l).drop ((j+1)*3)
 |[],j,h=>by simp at h
 |p::l,0,_=>by rw[cm];simp[g31,g32,g33,g3]
 | p::l,j+1,h=>by
  rw[cm,show (j+1)*3=j*3+1+1+1 by omega,List.drop_succ_cons,List.drop_succ_cons,List.drop_succ_cons,r3_at (l:=l) (by simpa using h),show (j+1+1)*3=(j+1)*3+1+1+1 by omega,List.drop_succ_cons,List.drop_succ_cons,List.drop_succ_cons]
  rfl
theorem r3_load {l:List T3}{j:Nat}(h:j<l.length):((r3 l).drop (j*3)).take 3=[.int .i64 (g31 l j),.int .i64 (g32 l j),.int .i64 (g33 l j)]:=by rw[r3_at h];rfl
theorem r3_one {l:List T3}:(r3 l).all AV.one=true:=by
 induction l with
 |nil=>rfl
 |cons p l ih=>rw[cm];simp[AV.one,ih]
section
variable {P:Program} {H:aa} {n:Nat}
end
end Go.Proofs.YtjihmmoaaibmnaaGreat
