/- Parts of the proof: walks and plain facts. Conditions: as each theorem states. -/
import Derived.Test.YtkkhdehdaaealaaGreatG4
import Derived.Test.YtkkhdehdaaealaaGreatG3
import Derived.Test.YtkkhdehdaaealaaGreatG1
import Derived.Maps.AppendAt
import Derived.Deep.RegionLaw
import Derived.Test.YtkkhdehdaaealaaGreatG2
import Derived.Lib.SliceRun
namespace Go.Proofs.YtkkhdehdaaealaaGreat
set_option linter.unusedSimpArgs false
set_option linter.unusedVariables false
open Go.RowKit Go.Proofs.Tryz
set_option maxHeartbeats 4000000
set_option maxRecDepth 100000
theorem srtk_c (H:aa)(b:Nat)(cap:Option Nat)(l:List (Int×Int))(hb:H[b]? = some (.cells (aL l.length) 2 (prs l)))(h1:l.length<=1000000):
  zC 109 [.sl (some (b,0)) l.length cap,.fn 110 []] H (.tup []) (H.set b (.cells (aL l.length) 2 (prs (dG l)))):=by
 rcases Nat.eq_zero_or_pos l.length with h0|h0
 ·obtain rfl:=List.eq_nil_of_length_eq_zero h0
  rw[mV]
  have hself:H.set b (.cells (aL ([]:List (Int×Int)).length) 2 (prs []))=H:=by
   refine List.ext_getElem? fun i=>?_
   rw[List.getElem?_set]
   split
   ·rename_i e;subst e;(rw[if_pos (getElem?_lt hb)];exact hb.symm)
   rfl
  rw[hself]
  exact srt0_c H _ _ ⟨b,_,cap,rfl,hb⟩
 rw[ex h0] at hb ⊢
 exact sortc_c H b cap l hb h0 h1
theorem cptk_c (H:aa)(b:Nat)(cap:Option Nat)(l:List (Int×Int))(hb:H[b]? = some (.cells (aL l.length) 2 (prs (dG l))))(h1:l.length<=1000000):
  zC 111 [.sl (some (b,0)) l.length cap] H (.sl (some (b,0)) (bR (dG l)).length none) (H.set b (.cells (aL l.length) 2 (prs (ej (dG l).length (bR (dG l)))))):=by
 have h:=cpt_cell H b cap (dG l) (by rw[gV];exact hb) (by rw[gV];omega)
 rw[gV l] at h ⊢
 exact h
theorem kall_c (H:aa)(W Hh:Int)(pp:AV)(xs:List Int)(s:AV)(l:List T6)(q:AV)(sc:List (Int×Int))(g:Int)(hpp:zI H pp xs)(hs:Sl H 6 s l.length (r6 l))(hq:SlP H q sc)(hV:bC W Hh xs=true)(hS:bM l=true)(hl0:0<l.length)(hsB:c7 sc=true)(hg:1<=g/\g<=32):zC 70 [.agg [iV W,iV Hh,pp],s,q,iV g] H (.sl (some (H.length,0)) ((aR W Hh l sc g).length) none) (H++[.cells (aL (iy W Hh l sc g).length) 2 (prs (aR W Hh l sc g))]):=by
 obtain⟨bpp,opp,cpp,rfl,hbpp,hblpp,hb0pp⟩:=zA1 hpp
 obtain⟨bs,os,cs,rfl,hbs,hbls,hb0s⟩:=zA1 hs
 obtain⟨bq,oq,cq,rfl,hbq,hblq,hb0q⟩:=zA1 hq
 have hsc:=dF.1 hsB
 have hpl:=l7 W Hh l sc g sc.length
 refine AcT false func70 ?_;intro hbel Q hQ
 have G1:=jn @hbpp (jn @hb0pp (jn @hbs (jn @hb0s (jn @hbq @hb0q))))
 refine ae G1 ?_
 refine cv (lB _ _ l (zA2 hb0s hbs) (by assumption)) ?_
 refine rcs G1 (fun h1 h1d G2=>?_) (fun h1 h1d G3=>?_)
 ·have hfinA:=allL_nil (W:=W) (Hh:=Hh) (sc:=sc) (g:=g) h1d
  refine ae G2 ?_
  refine hQ _ _ (aW (.inl rfl) hbel (x1:=.sl none 0 (some 0)) (l2:=[.cells false 2 []]) (.sl (some (H.length,0)) 0 none) (aZ results70) [.cells false 2 []] rfl [1] (by decide) ⟨by (rw[hfinA.1];rfl),by (rw[hfinA.1,hfinA.2];rfl)⟩ ?_)
  exact aN @jf
 have htau:=h1d
 have hfinB:iy W Hh l sc g=prS W Hh l sc g sc.length:=if_pos htau
 refine ae G3 ?_
 refine glp (fun k F Hx=>∃i:Nat,i+k=sc.length/\F=[(1,.sl (some (bs,0)) l.length cs),(3,iV g),(4,.ptr (some (H.length,0))),(9,.sl (some (H.length+1,0)) ((prS W Hh l sc g i).length) (aT (prS W Hh l sc g i).length)),(15,.sl (some (bq,0)) sc.length cq),(16,iV (sc.length:Int)),(17,iV (i:Int))]/\Hx=H++[.cells true 0 [iV W,iV Hh,.sl (some (bpp,0)) xs.length cpp],.cells (aL (prS W Hh l sc g i).length) 2 (prs (prS W Hh l sc g i))]) (sc.length) ?_ ?_
 ·refine⟨_,_,_,⟨0,by omega,rfl,rfl⟩,Abs.byG hbel [.cells false 2 []] rfl [0,1] (by decide) ?_⟩
  exact az @prS.eq_1
 rintro k0 F Hx ⟨i,hm0,rfl,rfl⟩ J0 hJ0
 have G4:=jn @bm (jn @cJ G3)
 refine rcs G4 (fun h2 h2d _=>?_) (fun h2 h2d G9=>?_)
 ·have hlt:i<sc.length:=by omega
  have hbi:=gb.1 (hsc.2 _ (List.getElem_mem hlt))
  rw[<-ct hlt] at hbi
  have hpi:=l7 W Hh l sc g i
  have hvl:=qR W Hh l (g1 sc i) (g2 sc i) g
  have q3:=cL (l:=sc) (j:=i) (by omega)
  have G5:=jn h2 (jn h2d (jn q3 G4))
  refine ae G5 ?_
  refine cv (proven_c _ W _ _ xs _ l _ _ g (zA2 hb0pp hbpp) (zA2 hb0s hbs) hV hS hl0 (by omega) (by omega)) ?_
  rcases Nat.eq_zero_or_pos ((eC W Hh l (g1 sc i) (g2 sc i) g).length) with h4|h4
  ·have h4e:eC W Hh l (g1 sc i) (g2 sc i) g=[]:=List.eq_nil_of_length_eq_zero h4
   rcases Nat.eq_zero_or_pos ((prS W Hh l sc g i).length) with h5|h5
   ·have h5e:prS W Hh l sc g i=[]:=List.eq_nil_of_length_eq_zero h5
    have G6:=jn h4 (jn h5 (jn @nv (jn @nw G5)))
    refine ae G6 ?_
    refine hJ0 _ _ ⟨k0-1,by omega,_,_,_,⟨i+1,by omega,rfl,rfl⟩,bS hbel [0,1] (az (jn @prS.eq_2 (jn @List.append_nil.{0} (jn h4e @h5e))))⟩
   have h5c:=ln h5
   have h5o:=ex h5
   have h5z:((prS W Hh l sc g i).length==0)=false:=beq_eq_false_iff_ne.2 (by omega)
   have G7:=jn h4 (jn h5c (jn h5o (jn h5z (jn @lR G5))))
   refine ae G7 ?_
   refine hJ0 _ _ ⟨k0-1,by omega,_,_,_,⟨i+1,by omega,rfl,rfl⟩,bS hbel [0,4] (az (jn @prS.eq_2 (jn @List.append_nil.{0} (jn h4e (jn h5c (jn h5o @Nat.add_zero))))))⟩
  have h4z:decide (0<(eC W Hh l (g1 sc i) (g2 sc i) g).length)=true:=decide_eq_true h4
  have h4c:=ln (n:=(prS W Hh l sc g i).length+(eC W Hh l (g1 sc i) (g2 sc i) g).length) (by omega)
  have h4o:=ex (n:=(prS W Hh l sc g i).length+(eC W Hh l (g1 sc i) (g2 sc i) g).length) (by omega)
  have G8:=jn h4 (jn h4z (jn @lR G5))
  refine ae G8 ?_
  refine hJ0 _ _ ⟨k0-1,by omega,_,_,_,⟨i+1,by omega,rfl,rfl⟩,bS hbel [0,4] (az (jn @prS.eq_2 (jn @List.append_nil.{0} (jn h4c @h4o))))⟩
 obtain rfl:i=sc.length:=by omega
 refine ae G9 ?_
 refine cvr G9 (srtk_c _ _ _ (prS W Hh l sc g sc.length) (by (rw[bO];rfl)) (by omega)) ?_
 refine cvr G9 (cptk_c _ _ _ (prS W Hh l sc g sc.length) (by (rw[bO];rfl)) (by omega)) ?_
 refine hQ _ _ (aW (.inl rfl) hbel (x1:=.sl (some (H.length+1,0)) ((bR (dG (prS W Hh l sc g sc.length))).length) none) (l2:=[.cells (aL (prS W Hh l sc g sc.length).length) 2 (prs (bR (dG (prS W Hh l sc g sc.length))))]) (.sl (some (H.length,0)) ((bR (dG (prS W Hh l sc g sc.length))).length) none) (aZ results70) [] rfl [1] (by decide) ⟨by unfold aR;rw[hfinB],by unfold aR;rw[hfinB]⟩ ?_)
 exact aN @jf
theorem ksus_c (H:aa)(s:AV)(l:List T6)(m r g:Int)(hs:Sl H 6 s l.length (r6 l))(hS:bM l=true)(hr : -1<=r/\r<=1024)(hg:1<=g/\g<=32):zC 72 [s,.agg [iV m,iV r],iV g] H (.sl (some (H.length,0)) ((bG l m r g).length) none) (H++[.cells (aL (gf l m r g).length) 2 (prs (bG l m r g))]):=by
 obtain⟨bs,os,cs,rfl,hbs,hbls,hb0s⟩:=zA1 hs
 have hda:=kG hS m
 have hsl:=l8 (aq l m) r g (aq l m).length
 have hpair:∀j',j'<(aq l m).length->bxB (g91 (aq l m) j') (g92 (aq l m) j') (g93 (aq l m) j') (g94 (aq l m) j') (g95 (aq l m) j') (g96 (aq l m) j')=true:=fun j' hj'=>by
  have k:=oB hS (g9_mem hj')
  unfold pairB at k;rw[Bool.and_eq_true] at k;exact k.1
 refine AcT false func72 ?_;intro hbel Q hQ
 have G1:=jn @hbs @hb0s
 refine rgs G1 (fun h1 h1d _=>?_) (fun h1 h1d _=>?_)
 ·have h1n:=bnT h1
  have hr1:¬r = -1:=by simpa using h1d
  have G2:=jn h1 (jn h1n (jn @aP (jn @aO G1)))
  refine ae G2 ?_
  refine cv (lB _ _ l (zA2 hb0s hbs) (by assumption)) ?_
  refine rcs G2 (fun h2 h2d G3=>?_) (fun h2 h2d G4=>?_)
  ·have hfinA:=qX (l:=l) (m:=m) (r:=r) (g:=g) (.inr h2d)
   refine ae G3 ?_
   refine hQ _ _ (aW (.inl rfl) hbel (x1:=.sl none 0 (some 0)) (l2:=[.cells false 2 []]) (.sl (some (H.length,0)) 0 none) (aZ results72) [.cells false 2 []] rfl [1] (by decide) ⟨by (rw[hfinA.1];rfl),by (rw[hfinA.1,hfinA.2];rfl)⟩ ?_)
   exact aN @jf
  have htau:=h2d
  have hdt:=dirA_tau hS htau m
  have hfinB:gf l m r g=swS (aq l m) r g (aq l m).length:=by unfold gf;rw[decide_eq_false hr1,htau];rfl
  refine ae G4 ?_
  refine cvr G4 (kI _ _ l m r (zA2 hb0s hbs) (by assumption)) ?_
  refine glp (fun k F Hx=>∃i:Nat,i+k=(aq l m).length/\F=[(2,iV g),(4,.ptr (some (H.length,0))),(7,.sl (some (H.length+2,0)) ((swS (aq l m) r g i).length) (aT (swS (aq l m) r g i).length)),(22,.sl (some (H.length+1,0)) ((aq l m).length) (aT (aq l m).length)),(23,iV (((aq l m).length:Nat):Int)),(24,iV (i:Int))]/\Hx=H++[.cells true 0 [iV m,iV r],.cells (aL (aq l m).length) 9 (r9 (aq l m)),.cells (aL (swS (aq l m) r g i).length) 2 (prs (swS (aq l m) r g i))]) ((aq l m).length) ?_ ?_
  ·refine⟨_,_,_,⟨0,by omega,rfl,rfl⟩,Abs.byG hbel [.cells false 2 []] rfl [0,1,2] (by decide) ?_⟩
   exact az (jn @swS.eq_1 (jn @bt (jn @bD (jn @cg @bW))))
  rintro k0 F Hx ⟨i,hm0,rfl,rfl⟩ J0 hJ0
  have G5:=jn @ec (jn @lA (jn @bm (jn @cJ G4)))
  refine rcs G5 (fun h3 h3d _=>?_) (fun h3 h3d G10=>?_)
  ·have hpi:=hpair i (by omega)
   have hsi:=l8 (aq l m) r g i
   have hvl:=mR (g91 (aq l m) i) (g92 (aq l m) i) (g93 (aq l m) i) (g94 (aq l m) i) (g97 (aq l m) i) (g98 (aq l m) i) (g99 (aq l m) i) (if 0<r-g then r-g else 0) (r+g)
   have q4:=r9_load (l:=aq l m) (j:=i) (by omega)
   have G6:=jn h3 (jn h3d (jn q4 G5))
   refine ae G6 ?_
   refine cdr G6 (rect_c _ _ _ _ _ _ _ hpi) ?_
   refine cx (swept_c _ _ _ _ _ _ _ _ _ _) ?_
   rcases Nat.eq_zero_or_pos ((cP (g91 (aq l m) i) (g92 (aq l m) i) (g93 (aq l m) i) (g94 (aq l m) i) (g97 (aq l m) i) (g98 (aq l m) i) (g99 (aq l m) i) (if 0<(r-g) then (r-g) else 0) (r+g)).length) with h5|h5
   ·have h5e:cP (g91 (aq l m) i) (g92 (aq l m) i) (g93 (aq l m) i) (g94 (aq l m) i) (g97 (aq l m) i) (g98 (aq l m) i) (g99 (aq l m) i) (if 0<(r-g) then (r-g) else 0) (r+g)=[]:=List.eq_nil_of_length_eq_zero h5
    rcases Nat.eq_zero_or_pos ((swS (aq l m) r g i).length) with h6|h6
    ·have h6e:swS (aq l m) r g i=[]:=List.eq_nil_of_length_eq_zero h6
     have G7:=jn h5 (jn h6 (jn @nv (jn @nw G6)))
     refine ae G7 ?_
     refine hJ0 _ _ ⟨k0-1,by omega,_,_,_,⟨i+1,by omega,rfl,rfl⟩,bS hbel [0,1,2] (az (jn @swS.eq_2 (jn @List.append_nil.{0} (jn h5e (jn h6e (jn @bt (jn @bD (jn @cg @bW))))))))⟩
    have h6c:=ln h6
    have h6o:=ex h6
    have h6z:((swS (aq l m) r g i).length==0)=false:=beq_eq_false_iff_ne.2 (by omega)
    have G8:=jn h5 (jn h6c (jn h6o (jn h6z (jn @lR G6))))
    refine ae G8 ?_
    refine hJ0 _ _ ⟨k0-1,by omega,_,_,_,⟨i+1,by omega,rfl,rfl⟩,bS hbel [0,1,5] (az (jn @swS.eq_2 (jn @List.append_nil.{0} (jn h5e (jn h6c (jn h6o (jn @Nat.add_zero (jn @bt (jn @bD (jn @cg @bW))))))))))⟩
   have h5z:decide (0<(cP (g91 (aq l m) i) (g92 (aq l m) i) (g93 (aq l m) i) (g94 (aq l m) i) (g97 (aq l m) i) (g98 (aq l m) i) (g99 (aq l m) i) (if 0<(r-g) then (r-g) else 0) (r+g)).length)=true:=decide_eq_true h5
   have h5c:=ln (n:=(swS (aq l m) r g i).length+(cP (g91 (aq l m) i) (g92 (aq l m) i) (g93 (aq l m) i) (g94 (aq l m) i) (g97 (aq l m) i) (g98 (aq l m) i) (g99 (aq l m) i) (if 0<(r-g) then (r-g) else 0) (r+g)).length) (by omega)
   have h5o:=ex (n:=(swS (aq l m) r g i).length+(cP (g91 (aq l m) i) (g92 (aq l m) i) (g93 (aq l m) i) (g94 (aq l m) i) (g97 (aq l m) i) (g98 (aq l m) i) (g99 (aq l m) i) (if 0<(r-g) then (r-g) else 0) (r+g)).length) (by omega)
   have G9:=jn h5 (jn h5z (jn @lR G6))
   refine ae G9 ?_
   refine hJ0 _ _ ⟨k0-1,by omega,_,_,_,⟨i+1,by omega,rfl,rfl⟩,bS hbel [0,1,5] (az (jn @swS.eq_2 (jn @List.append_nil.{0} (jn h5c (jn h5o (jn @bt (jn @bD (jn @cg @bW))))))))⟩
  obtain rfl:i=(aq l m).length:=by omega
  refine ae G10 ?_
  refine cvr G10 (srtk_c _ _ _ (swS (aq l m) r g (aq l m).length) (by (rw[bO];rfl)) (by omega)) ?_
  refine cvr G10 (cptk_c _ _ _ (swS (aq l m) r g (aq l m).length) (by (rw[bO];rfl)) (by omega)) ?_
  refine hQ _ _ (aW (.inl rfl) hbel (x1:=.sl (some (H.length+2,0)) ((bR (dG (swS (aq l m) r g (aq l m).length))).length) none) (l2:=[.cells (aL (swS (aq l m) r g (aq l m).length).length) 2 (prs (bR (dG (swS (aq l m) r g (aq l m).length))))]) (.sl (some (H.length,0)) ((bR (dG (swS (aq l m) r g (aq l m).length))).length) none) (aZ results72) [] rfl [2] (by decide) ⟨by unfold bG;rw[hfinB],by unfold bG;rw[hfinB]⟩ ?_)
  exact aN @jf
 have h1n:=bnT h1
 have hr1:r = -1:=by simpa using h1d
 have hfinA:=qX (l:=l) (m:=m) (g:=g) (.inl hr1)
 have G11:=jn h1 (jn h1n (jn @aP (jn @aO G1)))
 refine ae G11 ?_
 refine hQ _ _ (aW (.inl rfl) hbel (x1:=.sl none 0 (some 0)) (l2:=[.cells false 2 []]) (.sl (some (H.length,0)) 0 none) (aZ results72) [.cells false 2 []] rfl [1] (by decide) ⟨by (rw[hfinA.1];rfl),by (rw[hfinA.1,hfinA.2];rfl)⟩ ?_)
 exact aN @jf
set_option maxRecDepth 100000 in
theorem kO (H:aa)(s:AV)(xs:List Int)(hs:zI H s xs)(hl:xs.length<=1000000)(h0:0<xs.length):zC 42 [s] H (.sl (some (H.length,0)) xs.length none) (H++[.cells true 1 (ints .u8 xs)]):=by
 obtain⟨b,own,cap,rfl,hb⟩:=hs
 have hbl:=getElem?_lt hb
 have hb0:=fun l=>ai (l:=l) hb
 generalize hm:xs.length=m at *
 refine AcT true func42 ?_;intro hbel Q hQ
 have htk:List.take m (ints .u8 xs)=ints .u8 xs:=List.take_of_length_le (by rw[bZ];omega)
 have htk1:List.take (m*1) (ints .u8 xs)=ints .u8 xs:=List.take_of_length_le (by rw[bZ];omega)
 have hm0:(m==0)=false:=beq_eq_false_iff_ne.2 (by omega)
 have hm1:(m != 0)=true:=bne_iff_ne.2 (by omega)
 simp -implicitDefEqProofs (disch:=omega) only [hb,hb0,Option.isNone_some,hm0,h0,htk,htk1,i8,hm1,simprocAttr,aJ,aK,Function.comp_apply,one1,lenV,aj,av,aA,aop,AV.ofValue,AV.ofCell,AV.cells,AV.flat,AV.one,arep,aU,ap,aG]
 repeat refine And.intro (by omega) ?_
 refine hQ _ _ (end_by (.inl rfl) hbel (x1:=.sl (some (H.length+1,0)) m none) (.sl (some (H.length,0)) m none) (aZ results42) [1] (by decide) ⟨rfl,rfl⟩ ?_)
 exact absT
theorem susL_own {l:List T6}{m r g:Int}:aL (gf l m r g).length=aL (bG l m r g).length:=by
 unfold bG
 have h:=gV (gf l m r g)
 generalize dG (gf l m r g)=s at *
 match s,h with
 |[],h=>rw[<-h];rfl
 | a::t,h =>
  have h2:a∈bR (a::t):=fI.2 (List.mem_cons_self ..)
  rw[ex (by rw[<-h];simp),ex (List.length_pos_of_mem h2)]
theorem ksus2_c (H:aa)(s:AV)(l:List T6)(m r g:Int)(hs:Sl H 6 s l.length (r6 l))(hS:bM l=true)(hr : -1<=r/\r<=1024)(hg:1<=g/\g<=32):zC 72 [s,.agg [iV m,iV r],iV g] H (.sl (some (H.length,0)) (bG l m r g).length none) (H++[.cells (aL (bG l m r g).length) 2 (prs (bG l m r g))]):=by
 have h:=ksus_c H s l m r g hs hS hr hg
 rw[susL_own] at h
 exact h
theorem learn1_c (H:aa)(c1 c2 W Hh:Int)(pp:AV)(xs:List Int)(bz:Nat)(hpp:zI H pp xs)(hz:∃o,H[bz]? = some (.cells o 0 [iV W,iV Hh,pp]))(hV:bC W Hh xs=true):zC 73 [.agg [iV c1,iV c2],.ptr (some (bz,0))] H (.bool (frP W Hh xs (c1,c2))) H:=by
 obtain⟨bpp,opp,cpp,rfl,hbpp,hblpp,hb0pp⟩:=zA1 hpp
 obtain⟨oz,hbz⟩:=hz
 have hblz:=getElem?_lt hbz
 have hb0z:=fun l=>ai (l:=l) hbz
 refine AcT true func73 ?_;intro hbel Q hQ
 have G1:=jn @hbpp (jn @hb0pp (jn @hbz @hb0z))
 refine ae G1 ?_
 refine cvr G1 (pat_c _ W _ _ xs _ _ (zA2 hb0pp hbpp) hV) ?_
 exact eP hQ hbel (.bool ((atI W Hh xs c1 c2)==1)) results73 ⟨rfl,rfl⟩
theorem learn_c (H:aa)(W Hh:Int)(pp:AV)(xs:List Int)(s:AV)(l:List T6)(q:AV)(sc:List (Int×Int))(g:Int)(hpp:zI H pp xs)(hs:Sl H 6 s l.length (r6 l))(hq:SlP H q sc)(hl:l.length<=1000000000)(hsc:sc.length<=1000000000):zC 37 [.agg [iV W,iV Hh,pp],s,q,iV g] H (.tup [.agg [iV (lnZ W Hh xs l sc g W),iV (lnZ W Hh xs l sc g Hh),.sl (some (H.length,0)) ((lnX W Hh xs l sc g).length) none],iV (lnE W Hh xs l sc g)]) (H++[.cells (aL (lnX W Hh xs l sc g).length) 1 (ints .u8 (lnX W Hh xs l sc g))]):=by
 obtain⟨bpp,opp,cpp,rfl,hbpp,hblpp,hb0pp⟩:=zA1 hpp
 obtain⟨bs,os,cs,rfl,hbs,hbls,hb0s⟩:=zA1 hs
 obtain⟨bq,oq,cq,rfl,hbq,hblq,hb0q⟩:=zA1 hq
 (refine bI func37 _ rfl (Nat.le_of_ble_eq_true (by kernel_rfl)) rfl ?_;intro hbel Q hQ hQ' c hc;unfold Tryz.f37 at hc;simp only[Option.some.injEq] at hc;subst hc;clear hQ')
 refine jM false try_mixed (by kernel_rfl) (fun F Hx=>look F 1=.sl (some (bs,0)) l.length cs/\look F 2=.sl (some (bq,0)) sc.length cq/\look F 3=iV g/\look F 4=.ptr (some (H.length,0))/\look F 8=.ptr (some (H.length+1,0))/\look F 9=iV 0/\Hx=H++[.cells true 0 [iV W,iV Hh,.sl (some (bpp,0)) xs.length cpp],.cells true 0 [iV 0,iV 0,.sl none 0 (some 0)]]) ?_ ?_
 ·have G2:=jn @hbpp (jn @hb0pp (jn @hbs (jn @hb0s (jn @hbq @hb0q))))
  refine ae G2 ?_
  refine aC ?_
  exact absT
 rintro F Hx ⟨f1,f2,f3,f4,f5,f6,rfl⟩
 refine jM false try_mixed (by kernel_rfl) (fun F Hx=>eo W Hh xs l sc g=true/\look F 1=.sl (some (bs,0)) l.length cs/\look F 2=.sl (some (bq,0)) sc.length cq/\look F 3=iV g/\look F 4=.ptr (some (H.length,0))/\look F 8=.ptr (some (H.length+1,0))/\look F 9=iV 0/\Hx=H++[.cells true 0 [iV W,iV Hh,.sl (some (bpp,0)) xs.length cpp],.cells true 0 [iV 0,iV 0,.sl none 0 (some 0)]]) ?_ ?_
 ·have G3:=jn @hbpp (jn @hb0pp (jn @hbs (jn @hb0s (jn @hbq (jn @hb0q (jn @f1 (jn @f2 (jn @f3 (jn @f4 (jn @f5 @f6))))))))))
  refine ae G3 ?_
  refine cv (kright_c _ W _ _ xs _ l _ sc g (zA2 hb0pp hbpp) (zA2 hb0s hbs) (zA2 hb0q hbq) (by omega) (by omega)) ?_
  refine rcs G3 (fun h7 h7d G4=>?_) (fun h7 h7d G5=>?_)
  ·have hfinP:=ln_1 h7d
   refine ae G4 ?_
   refine hQ _ _ (aW (.inl rfl) hbel (x1:=.tup [.agg [iV 0,iV 0,.sl none 0 (some 0)],iV 1]) (l2:=[.cells false 1 []]) (.tup [.agg [iV 0,iV 0,.sl (some (H.length,0)) 0 none],iV 1]) (resTf (jn @f1 (jn @f2 (jn @f3 (jn @f4 (jn @f5 @f6))))) results37) [.cells false 1 []] rfl [2] (by decide) ⟨by (rw[hfinP.1,hfinP.2.1,hfinP.2.2.1,hfinP.2.2.2];rfl),by (rw[hfinP.2.1];rfl)⟩ ?_)
   exact aD
  refine ae G5 ?_
  refine aC ?_
  exact absTf (jn @f1 (jn @f2 (jn @f3 (jn @f4 (jn @f5 @f6)))))
 rintro F Hx ⟨h8d,f9,f10,f11,f12,f13,f14,rfl⟩
 have hR:=h8d
 obtain⟨hV,hl0,hS,hsB,hg⟩:=gT.1 hR
 have hVV:=bh.1 hV
 have hpp2:=hVV.pos
 have hWb:1<=W/\W<=64:=⟨hVV.w0,hVV.w1⟩
 have hHb:1<=Hh/\Hh<=64:=⟨hVV.h0,hVV.h1⟩
 have hx00:=(hVV.idx (show inB W Hh 0 0=true from cC.2 (by have:=hVV.w0;have:=hVV.h0;omega))).2.2.2.2.1
 have hx0:0<xs.length:=by omega
 have hx6:xs.length<=1000000:=by have h4:=hVV.len;have:=Int.mul_le_mul hVV.w1 hVV.h1 (by have:=hVV.h0;omega) (by decide);omega
 have hsc2:=dF.1 hsB
 have hAl:=allL_len (W:=W) (Hh:=Hh) (l:=l) (sc:=sc) (g:=g)
 have hA:∀c∈(aR W Hh l sc g),inB W Hh c.1 c.2=true:=fun c hc=>allL_in hc
 refine bT false try_mixed [[0,1,2,3,4,5,6,7,8,9],[0,1,2,3,4,5,8,6,7,9]] (by kernel_rfl) (fun F2 H2=>F2=[(1,.sl (some (bs,0)) l.length cs),(2,.sl (some (bq,0)) sc.length cq),(3,iV g),(4,.ptr (some (H.length,0))),(8,.ptr (some (H.length+1,0))),(9,iV 0),(10,.ptr (some (H.length+3,0)))]/\H2=H++[.cells true 0 [iV W,iV Hh,.sl (some (bpp,0)) xs.length cpp],.cells true 0 [iV 0,iV 0,.sl none 0 (some 0)],.cells true 1 (ints .u8 xs),.cells true 0 [iV W,iV Hh,.sl (some (H.length+2,0)) xs.length none]]) ?_ ?_
 ·refine am ?_ (am ?_ (bP))<;>intro J hJ
  ·have G6:=jn @hbpp (jn @hb0pp (jn @hbs (jn @hb0s (jn @hbq (jn @hb0q (jn @f1 (jn @f2 (jn @f3 (jn @f4 (jn @f5 (jn @f6 (jn @f9 (jn @f10 (jn @f11 (jn @f12 (jn @f13 (jn @f14 @h8d)))))))))))))))))
   refine ak G6 ?_
   refine cx (kO _ _ xs (zA2 hb0pp hbpp) hx6 hx0) ?_
   refine ak G6 ?_
   refine aC (hJ _ _ ⟨_,_,_,⟨rfl,rfl⟩,bS hbel [0,1,2,3] (az (jn @f1 (jn @f2 (jn @f3 (jn @f4 (jn @f5 (jn @f6 (jn @f9 (jn @f10 (jn @f11 (jn @f12 (jn @f13 @f14))))))))))))⟩)
  have G7:=jn @hbpp (jn @hb0pp (jn @hbs (jn @hb0s (jn @hbq (jn @hb0q (jn @f1 (jn @f2 (jn @f3 (jn @f4 (jn @f5 (jn @f6 (jn @f9 (jn @f10 (jn @f11 (jn @f12 (jn @f13 (jn @f14 @h8d)))))))))))))))))
  refine ak G7 ?_
  refine cx (kO _ _ xs (zA2 hb0pp hbpp) hx6 hx0) ?_
  refine ak G7 ?_
  refine aC (hJ _ _ ⟨_,_,_,⟨rfl,rfl⟩,bS hbel [0,1,3,2] (az (jn @f1 (jn @f2 (jn @f3 (jn @f4 (jn @f5 (jn @f6 (jn @f9 (jn @f10 (jn @f11 (jn @f12 (jn @f13 @f14))))))))))))⟩)
 rintro F2 H2 ⟨rfl,rfl⟩
 refine fnF ?_
 have G8:=jn @hbpp (jn @hb0pp (jn @hbs (jn @hb0s (jn @hbq (jn @hb0q (jn h8d (jn @bZ @cU)))))))
 refine ae G8 ?_
 refine cv (lB _ _ l (zA2 hb0s hbs) (by assumption)) ?_
 refine rcs G8 (fun h15 h15d G9=>?_) (fun h15 h15d G10=>?_)
 ·have hfinP:=ln_0 hR (if_neg (by rw[h15d];decide))
  have hfinO:=ex hx0
  refine ae G9 ?_
  refine hQ _ _ (aW (.inl rfl) hbel (x1:=.tup [.agg [iV W,iV Hh,.sl (some (H.length+2,0)) xs.length none],iV 0]) (l2:=[.cells true 1 (ints .u8 xs)]) (.tup [.agg [iV W,iV Hh,.sl (some (H.length,0)) xs.length none],iV 0]) (aZ results37) [] rfl [2] (by decide) ⟨by rw[hfinP.1,hfinP.2.1,hfinP.2.2.1,hfinP.2.2.2],by rw[hfinP.2.1,hfinO]⟩ ?_)
  exact aD
 have htau:=h15d
 refine ae G10 ?_
 refine cvr G10 (kall_c _ W _ _ xs _ l _ sc g (zA2 hb0pp hbpp) (zA2 hb0s hbs) (zA2 hb0q hbq) hV hS hl0 hsB (by omega)) ?_
 refine glp (fun k F Hx=>∃i:Nat,i+k=(aR W Hh l sc g).length/\gW W Hh (aR W Hh l sc g) xs=gW W Hh ((aR W Hh l sc g).drop i) (lfS W (aR W Hh l sc g) xs i)/\F=[(1,.sl (some (bs,0)) l.length cs),(2,.sl (some (bq,0)) sc.length cq),(3,iV g),(4,.ptr (some (H.length,0))),(8,.ptr (some (H.length+1,0))),(10,.ptr (some (H.length+3,0))),(41,.sl (some (H.length+4,0)) ((aR W Hh l sc g).length) none),(42,iV (((aR W Hh l sc g).length:Nat):Int)),(43,iV (i:Int))]/\Hx=H++[.cells true 0 [iV W,iV Hh,.sl (some (bpp,0)) xs.length cpp],.cells true 0 [iV 0,iV 0,.sl none 0 (some 0)],.cells true 1 (ints .u8 (lfS W (aR W Hh l sc g) xs i)),.cells true 0 [iV W,iV Hh,.sl (some (H.length+2,0)) ((lfS W (aR W Hh l sc g) xs i).length) none],.cells (aL (iy W Hh l sc g).length) 2 (prs (aR W Hh l sc g))]) ((aR W Hh l sc g).length) ?_ ?_
 ·refine⟨_,_,_,⟨0,by omega,rfl,rfl,rfl⟩,bS hbel [0,1,2,3,4] (az @lfS.eq_1)⟩
 rintro k0 F Hx ⟨i,hm0,hrem,rfl,rfl⟩ J0 hJ0
 have G11:=jn @bm (jn @cJ G10)
 refine rcs G11 (fun h16 h16d _=>?_) (fun h16 h16d G15=>?_)
 ·have hlt:i<(aR W Hh l sc g).length:=by omega
  have hfv:=jV (W:=W) (A:=(aR W Hh l sc g)) hV i
  obtain⟨j1,j2,j3,j4,j5,-⟩:=(bh.1 hfv).idx (gin_mem hlt hA)
  have q17:=cL (l:=aR W Hh l sc g) (j:=i) (by omega)
  have q18:=cS (k:=.u8) (xs:=lfS W (aR W Hh l sc g) xs i) (j:=(((g2 (aR W Hh l sc g) i)*W)+(g1 (aR W Hh l sc g) i)).toNat) (by omega)
  have G12:=jn h16 (jn h16d (jn q17 (jn q18 G11)))
  refine rcs G12 (fun h19 h19d _=>?_) (fun h19 h19d _=>?_)
  ·have h19n:=bnT h19
   have hfinP:=ln_11 hR (by unfold lnO;rw[if_pos htau,hrem,pN hlt hA,if_pos (by simpa using h19d)];rfl)
   have G13:=jn h19 (jn h19n (jn @aP (jn @aO G12)))
   refine ae G13 ?_
   refine hQ _ _ (aW (.inl rfl) hbel (x1:=.tup [.agg [iV 0,iV 0,.sl none 0 (some 0)],iV 11]) (l2:=[.cells false 1 []]) (.tup [.agg [iV 0,iV 0,.sl (some (H.length,0)) 0 none],iV 11]) (aZ results37) [.cells false 1 []] rfl [6] (by decide) ⟨by (rw[hfinP.1,hfinP.2.1,hfinP.2.2.1,hfinP.2.2.2];rfl),by (rw[hfinP.2.1];rfl)⟩ ?_)
   exact aD
  have h19n:=bnT h19
  have hne:¬gi (lfS W (aR W Hh l sc g) xs i) (((g2 (aR W Hh l sc g) i)*W)+(g1 (aR W Hh l sc g) i)).toNat=2:=by simpa using h19d
  have G14:=jn h19 (jn h19n (jn @aP (jn @aO (jn @jv (jn @List.length_set.{0} G12)))))
  refine ae G14 ?_
  refine hJ0 _ _ ⟨k0-1,by omega,_,_,_,⟨i+1,by omega,hrem.trans ((pN hlt hA).trans (if_neg hne)),rfl,rfl⟩,bS hbel [0,1,2,3,4] (az (jn @lfS.eq_2 @List.length_set.{0}))⟩
 obtain rfl:i=(aR W Hh l sc g).length:=by omega
 rw[List.drop_length] at hrem
 refine ae G15 ?_
 refine glp (fun k F Hx=>∃i:Nat,i+k=sc.length/\lnO W Hh xs l sc g=fo W Hh (iz l (sc.drop i) g) (lwS W Hh l sc g (lfS W (aR W Hh l sc g) xs (aR W Hh l sc g).length) i)/\F=[(1,.sl (some (bs,0)) l.length cs),(3,iV g),(4,.ptr (some (H.length,0))),(8,.ptr (some (H.length+1,0))),(10,.ptr (some (H.length+3,0))),(66,.sl (some (bq,0)) sc.length cq),(67,iV (sc.length:Int)),(68,iV (i:Int))]/\Hx=H++[.cells true 0 [iV W,iV Hh,.sl (some (bpp,0)) xs.length cpp],.cells true 0 [iV 0,iV 0,.sl none 0 (some 0)],.cells true 1 (ints .u8 (lwS W Hh l sc g (lfS W (aR W Hh l sc g) xs (aR W Hh l sc g).length) i)),.cells true 0 [iV W,iV Hh,.sl (some (H.length+2,0)) ((lwS W Hh l sc g (lfS W (aR W Hh l sc g) xs (aR W Hh l sc g).length) i).length) none]]) (sc.length) ?_ ?_
 ·refine⟨_,_,_,⟨0,by omega,by unfold lnO;rw[if_pos htau,hrem];rfl,rfl,rfl⟩,bS hbel [0,1,2,3] (az @lwS.eq_1)⟩
 rintro k1 F Hx ⟨i,hm1,hrem2,rfl,rfl⟩ J1 hJ1
 refine rcs G15 (fun h20 h20d _=>?_) (fun h20 h20d G27=>?_)
 ·have hlt:i<sc.length:=by omega
  have hbi:=gb.1 (hsc2.2 _ (List.getElem_mem hlt))
  rw[<-ct hlt] at hbi
  have hwv:=jW (W:=W) (Hh:=Hh) (l:=l) (sc:=sc) (g:=g) (jV (W:=W) (A:=(aR W Hh l sc g)) hV (aR W Hh l sc g).length) i
  have hsl:=rb (l:=l) (m:=g1 sc i) (r:=g2 sc i) (g:=g) hS
  have q21:=cL (l:=sc) (j:=i) (by omega)
  have G16:=jn h20 (jn h20d (jn q21 G15))
  refine rcs G16 (fun h22 h22d _=>?_) (fun h22 h22d _=>?_)
  ·have h22n:=bnT h22
   have hr1:g2 sc i = -1:=by simpa using h22d
   have hst:=lwS_skip (W:=W) (Hh:=Hh) (l:=l) (g:=g) (o:=(lfS W (aR W Hh l sc g) xs (aR W Hh l sc g).length)) hr1
   have hnx:=qZ (W:=W) (Hh:=Hh) (l:=l) (g:=g) (o:=(lfS W (aR W Hh l sc g) xs (aR W Hh l sc g).length)) hlt (.inl hr1)
   have G17:=jn h22 (jn h22n (jn @aP (jn @aO G16)))
   refine ae G17 ?_
   refine hJ1 _ _ ⟨k1-1,by omega,_,_,_,⟨i+1,by omega,hrem2.trans hnx,rfl,rfl⟩,bS hbel [0,1,2,3] (az (jn @hst @List.length_set.{0}))⟩
  have h22n:=bnT h22
  have hr1:¬g2 sc i = -1:=by simpa using h22d
  have G18:=jn h22 (jn h22n (jn @aP (jn @aO G16)))
  refine ae G18 ?_
  refine cvr G18 (ksus2_c _ _ l _ _ g (zA2 hb0s hbs) hS (by omega) (by omega)) ?_
  refine cv (del_cell _ _ _ (bG l (g1 sc i) (g2 sc i) g) (by rw[bO];rfl) (Nat.le_trans (rb hS) (by decide)) _ [.ptr (some (H.length+3,0))] (by kernel_rfl) (by simp[AV.bels,AV.bel]) (frP W Hh (lwS W Hh l sc g (lfS W (aR W Hh l sc g) xs (aR W Hh l sc g).length) i)) (fun X e L he=>learn1_c _ e.1 e.2 W Hh (.sl (some (H.length+2,0)) (lwS W Hh l sc g (lfS W (aR W Hh l sc g) xs (aR W Hh l sc g).length) i).length none) (lwS W Hh l sc g (lfS W (aR W Hh l sc g) xs (aR W Hh l sc g).length) i) _ ⟨_,_,_,rfl,by rw[ki,List.append_assoc,bO];rfl⟩ ⟨_,by rw[ki,List.append_assoc,bO];rfl⟩ (jW (jV hV _) _))) ?_
  refine rcs G18 (fun h23 h23d _=>?_) (fun h23 h23d _=>?_)
  ·have h23n:=bnT h23
   have hd0:(bV (frP W Hh (lwS W Hh l sc g (lfS W (aR W Hh l sc g) xs (aR W Hh l sc g).length) i)) (bG l (g1 sc i) (g2 sc i) g)).length=0:=by have q:=h23d;omega
   have hfinP:=ln_11 hR (hrem2.trans (lwS_bad hlt hr1 hd0))
   have G19:=j2 h23 h23n G18
   refine ae G19 ?_
   refine hQ _ _ (aW (.inl rfl) hbel (x1:=.tup [.agg [iV 0,iV 0,.sl none 0 (some 0)],iV 11]) (l2:=[.cells false 1 []]) (.tup [.agg [iV 0,iV 0,.sl (some (H.length,0)) 0 none],iV 11]) (aZ results37) [.cells false 1 []] rfl [6] (by decide) ⟨by (rw[hfinP.1,hfinP.2.1,hfinP.2.2.1,hfinP.2.2.2];rfl),by (rw[hfinP.2.1];rfl)⟩ ?_)
   exact aD
  have h23n:=bnT h23
  have hd0:¬(bV (frP W Hh (lwS W Hh l sc g (lfS W (aR W Hh l sc g) xs (aR W Hh l sc g).length) i)) (bG l (g1 sc i) (g2 sc i) g)).length=0:=by have q:=h23d;omega
  have hp1:g1 (ej (bG l (g1 sc i) (g2 sc i) g).length (bV (frP W Hh (lwS W Hh l sc g (lfS W (aR W Hh l sc g) xs (aR W Hh l sc g).length) i)) (bG l (g1 sc i) (g2 sc i) g))) 0=g1 (bV (frP W Hh (lwS W Hh l sc g (lfS W (aR W Hh l sc g) xs (aR W Hh l sc g).length) i)) (bG l (g1 sc i) (g2 sc i) g)) 0:=pad_g1 hd0
  have hp2:g2 (ej (bG l (g1 sc i) (g2 sc i) g).length (bV (frP W Hh (lwS W Hh l sc g (lfS W (aR W Hh l sc g) xs (aR W Hh l sc g).length) i)) (bG l (g1 sc i) (g2 sc i) g))) 0=g2 (bV (frP W Hh (lwS W Hh l sc g (lfS W (aR W Hh l sc g) xs (aR W Hh l sc g).length) i)) (bG l (g1 sc i) (g2 sc i) g)) 0:=pad_g2 hd0
  have hsfp:=pad_len (p:=frP W Hh (lwS W Hh l sc g (lfS W (aR W Hh l sc g) xs (aR W Hh l sc g).length) i)) (l:=(bG l (g1 sc i) (g2 sc i) g))
  have hpn:=delL_le (p:=frP W Hh (lwS W Hh l sc g (lfS W (aR W Hh l sc g) xs (aR W Hh l sc g).length) i)) (l:=(bG l (g1 sc i) (g2 sc i) g))
  have hnx:=qZ (W:=W) (Hh:=Hh) (l:=l) (g:=g) (o:=(lfS W (aR W Hh l sc g) xs (aR W Hh l sc g).length)) hlt (.inr hd0)
  have q24:=(show List.take 2 (prs (ej (bG l (g1 sc i) (g2 sc i) g).length (bV (frP W Hh (lwS W Hh l sc g (lfS W (aR W Hh l sc g) xs (aR W Hh l sc g).length) i)) (bG l (g1 sc i) (g2 sc i) g))))=[iV (g1 (ej (bG l (g1 sc i) (g2 sc i) g).length (bV (frP W Hh (lwS W Hh l sc g (lfS W (aR W Hh l sc g) xs (aR W Hh l sc g).length) i)) (bG l (g1 sc i) (g2 sc i) g))) 0),iV (g2 (ej (bG l (g1 sc i) (g2 sc i) g).length (bV (frP W Hh (lwS W Hh l sc g (lfS W (aR W Hh l sc g) xs (aR W Hh l sc g).length) i)) (bG l (g1 sc i) (g2 sc i) g))) 0)] from by have q:=cL (l:=ej (bG l (g1 sc i) (g2 sc i) g).length (bV (frP W Hh (lwS W Hh l sc g (lfS W (aR W Hh l sc g) xs (aR W Hh l sc g).length) i)) (bG l (g1 sc i) (g2 sc i) g))) (j:=0) (by omega);rwa [Nat.zero_mul,List.drop_zero] at q)
  have G20:=jn h23 (jn h23n (jn @hsfp (jn q24 G18)))
  refine rgs G20 (fun h25 h25d _=>?_) (fun h25 h25d _=>?_)
  ·have h25n:=bnT h25
   have hd1:(bV (frP W Hh (lwS W Hh l sc g (lfS W (aR W Hh l sc g) xs (aR W Hh l sc g).length) i)) (bG l (g1 sc i) (g2 sc i) g)).length=1:=by have q:=h25d;omega
   have G21:=j2 h25 h25n G20
   refine ae G21 ?_
   refine cv (dc _ _ 0 _) ?_
   refine rgs G21 (fun h26 h26d G22=>?_) (fun h26 h26d G25=>?_)
   ·have hd2:=h26d
    rw[hp1] at hd2
    refine ae G22 ?_
    refine cv (dc _ _ 0 _) ?_
    refine rcs G22 (fun h27 h27d _=>?_) (fun h27 h27d G24=>?_)
    ·have hd3:=h27d
     rw[hp2] at hd3
     have hst:=lwS_set (W:=W) (Hh:=Hh) (l:=l) (g:=g) (o:=(lfS W (aR W Hh l sc g) xs (aR W Hh l sc g).length)) hr1 ⟨hd1,hd2,hd3⟩
     rw[<-hp1,<-hp2] at hst
     obtain⟨j1,j2,j3,j4,j5,-⟩:=(bh.1 hwv).idx (x:=g1 (ej (bG l (g1 sc i) (g2 sc i) g).length (bV (frP W Hh (lwS W Hh l sc g (lfS W (aR W Hh l sc g) xs (aR W Hh l sc g).length) i)) (bG l (g1 sc i) (g2 sc i) g))) 0) (y:=g2 (ej (bG l (g1 sc i) (g2 sc i) g).length (bV (frP W Hh (lwS W Hh l sc g (lfS W (aR W Hh l sc g) xs (aR W Hh l sc g).length) i)) (bG l (g1 sc i) (g2 sc i) g))) 0) (cC.2 (by rw[hp1,hp2];have:=aS.1 hd2;have:=aS.1 hd3;omega))
     have G23:=jn h27 (jn h27d (jn @jv (jn @List.length_set.{0} G22)))
     refine ae G23 ?_
     refine hJ1 _ _ ⟨k1-1,by omega,_,_,_,⟨i+1,by omega,hrem2.trans hnx,rfl,rfl⟩,bS hbel [0,1,2,3] (az (jn @hst @List.length_set.{0}))⟩
    have hd3:=h27d
    rw[hp2] at hd3
    have hst:=mW (W:=W) (Hh:=Hh) (l:=l) (g:=g) (o:=(lfS W (aR W Hh l sc g) xs (aR W Hh l sc g).length)) hr1 (fun q=>by rw[hd3] at q;exact absurd q.2.2 (by decide))
    refine ae G24 ?_
    refine hJ1 _ _ ⟨k1-1,by omega,_,_,_,⟨i+1,by omega,hrem2.trans hnx,rfl,rfl⟩,bS hbel [0,1,2,3] (az (jn @hst @List.length_set.{0}))⟩
   have hd2:=h26d
   rw[hp1] at hd2
   have hst:=mW (W:=W) (Hh:=Hh) (l:=l) (g:=g) (o:=(lfS W (aR W Hh l sc g) xs (aR W Hh l sc g).length)) hr1 (fun q=>by rw[hd2] at q;exact absurd q.2.1 (by decide))
   refine ae G25 ?_
   refine hJ1 _ _ ⟨k1-1,by omega,_,_,_,⟨i+1,by omega,hrem2.trans hnx,rfl,rfl⟩,bS hbel [0,1,2,3] (az (jn @hst @List.length_set.{0}))⟩
  have h25n:=bnT h25
  have hd1:¬(bV (frP W Hh (lwS W Hh l sc g (lfS W (aR W Hh l sc g) xs (aR W Hh l sc g).length) i)) (bG l (g1 sc i) (g2 sc i) g)).length=1:=by have q:=h25d;omega
  have hst:=mW (W:=W) (Hh:=Hh) (l:=l) (g:=g) (o:=(lfS W (aR W Hh l sc g) xs (aR W Hh l sc g).length)) hr1 (fun q=>hd1 q.1)
  have G26:=j2 h25 h25n G20
  refine ae G26 ?_
  refine hJ1 _ _ ⟨k1-1,by omega,_,_,_,⟨i+1,by omega,hrem2.trans hnx,rfl,rfl⟩,bS hbel [0,1,2,3] (az (jn @hst @List.length_set.{0}))⟩
 obtain rfl:i=sc.length:=by omega
 rw[List.drop_length] at hrem2
 have hfinP:=ln_0 hR hrem2
 have hfinO:aL (lwS W Hh l sc g (lfS W (aR W Hh l sc g) xs (aR W Hh l sc g).length) sc.length).length=true:=ex (by have:=vld_pos (jW (W:=W) (Hh:=Hh) (l:=l) (sc:=sc) (g:=g) (jV (W:=W) (A:=(aR W Hh l sc g)) hV (aR W Hh l sc g).length) sc.length);omega)
 refine ae G27 ?_
 refine hQ _ _ (aW (.inl rfl) hbel (x1:=.tup [.agg [iV W,iV Hh,.sl (some (H.length+2,0)) ((lwS W Hh l sc g (lfS W (aR W Hh l sc g) xs (aR W Hh l sc g).length) sc.length).length) none],iV 0]) (l2:=[.cells true 1 (ints .u8 (lwS W Hh l sc g (lfS W (aR W Hh l sc g) xs (aR W Hh l sc g).length) sc.length))]) (.tup [.agg [iV W,iV Hh,.sl (some (H.length,0)) ((lwS W Hh l sc g (lfS W (aR W Hh l sc g) xs (aR W Hh l sc g).length) sc.length).length) none],iV 0]) (aZ results37) [] rfl [2] (by decide) ⟨by rw[hfinP.1,hfinP.2.1,hfinP.2.2.1,hfinP.2.2.2],by rw[hfinP.2.1,hfinO]⟩ ?_)
 exact aD
def lsB (l:List T6):Bool:=decide (0<(l.length:Int))&&(decide ((l.length:Int)<=16)&&!(l.any fun b=>!bj b))
theorem lsB_iff {l:List T6}:lsB l=true↔0<l.length/\bM l=true:=by
 rw[bF];unfold lsB
 simp only[Bool.and_eq_true,decide_eq_true_eq,Bool.not_eq_true',List.any_eq_false,Bool.not_eq_true',Bool.not_eq_false]
 constructor
 ·rintro⟨h1,h2,h3⟩;exact⟨by omega,by omega,fun b hb=>by simpa using h3 b hb⟩
 rintro⟨h1,h2,h3⟩;exact⟨by omega,by omega,fun b hb=>by simpa using h3 b hb⟩
theorem lvs1_c (H:aa)(x0 y0 x1 y1 f c:Int):zC 55 [.agg [iV x0,iV y0,iV x1,iV y1,iV f,iV c]] H (.bool (!(bj (x0,y0,x1,y1,f,c)))) H:=by
 refine AcT true func55 ?_;intro hbel Q hQ
 refine aI ?_
 refine cv (ft _ _ _ _ _ f c) ?_
 refine aI ?_
 exact eP hQ hbel (.bool (!(bxB x0 y0 x1 y1 f c))) results55 ⟨by rfl,rfl⟩
theorem lvset_c (H:aa)(s:AV)(l:List T6)(hs:Sl H 6 s l.length (r6 l))(hl:l.length<=1000000000):zC 28 [s] H (.bool (lsB l)) H:=by
 obtain⟨bs,os,cs,rfl,hbs,hbls,hb0s⟩:=zA1 hs
 refine AcT true func28 ?_;intro hbel Q hQ
 have G1:=jn @hbs @hb0s
 refine rgs G1 (fun h1 h1d G2=>?_) (fun h1 h1d G5=>?_)
 ·refine rgs G2 (fun h2 h2d G3=>?_) (fun h2 h2d G4=>?_)
  ·refine ae G3 ?_
   refine cvr G3 (jQ _ _ l (zA2 hb0s hbs) (by omega) _ [] (by kernel_rfl) rfl (fun b=>!bj b) (fun j hj=>lvs1_c _ _ _ _ _ _ _)) ?_
   exact eQ hQ hbel (.bool (!(l.any (fun b=>!bj b)))) results28 ⟨by (unfold lsB;simp only[h1,h2];rfl),rfl⟩
  exact eS G4 hQ hbel (.bool false) results28 ⟨by simp[lsB,h1d,h2d],rfl⟩
 exact eS G5 hQ hbel (.bool false) results28 ⟨by (unfold lsB;simp only[h1];rfl),rfl⟩
theorem lvc1_c (H:aa)(m r:Int):zC 59 [.agg [iV m,iV r]] H (.bool (!(ga (m,r)))) H:=by
 refine AcT true func59 ?_;intro hbel Q hQ
 refine aI ?_
 refine aY (fun h1=>?_) (fun h1=>?_)
 ·have h1d:=bsT h1
  have G6:=jn h1 @h1d
  refine rgs G6 (fun h2 h2d G7=>?_) (fun h2 h2d G10=>?_)
  ·refine rgs G7 (fun h3 h3d G8=>?_) (fun h3 h3d G9=>?_)
   ·exact eR G8 hQ hbel (.bool (decide (1024<r))) results59 ⟨by (by_cases hq:1024<r<;>simp[ga,fm,btw,hq]<;>omega),rfl⟩
   exact eR G9 hQ hbel (.bool true) results59 ⟨by simp[ga,fm,btw,h1d,h2d,h3d],rfl⟩
  exact eR G10 hQ hbel (.bool true) results59 ⟨by (by_cases hq:1024<r<;>simp[ga,fm,btw,hq]<;>omega),rfl⟩
 have h1d:=bsT h1
 have G11:=jn h1 @h1d
 exact eR G11 hQ hbel (.bool true) results59 ⟨by simp[ga,fm,btw,h1d],rfl⟩
theorem ri (H:aa)(q:AV)(sc:List (Int×Int))(hq:SlP H q sc)(hl:sc.length<=1000000000):zC 34 [q] H (.bool (c7 sc)) H:=by
 obtain⟨bq,oq,cq,rfl,hbq,hblq,hb0q⟩:=zA1 hq
 refine AcT true func34 ?_;intro hbel Q hQ
 have G12:=jn @hbq @hb0q
 refine rgs G12 (fun h1 h1d G13=>?_) (fun h1 h1d G14=>?_)
 ·refine ae G13 ?_
  refine cvr G13 (has_m _ _ sc (zA2 hb0q hbq) (by omega) _ [] (by kernel_rfl) rfl (fun e=>!ga e) (fun j hj=>lvc1_c _ _ _)) ?_
  exact eQ hQ hbel (.bool (!(sc.any (fun e=>!ga e)))) results34 ⟨by simp[c7,h1d],rfl⟩
 exact eS G14 hQ hbel (.bool false) results34 ⟨by simp[c7,h1d],rfl⟩
theorem lcop_c (H:aa)(W Hh:Int)(pp:AV)(xs:List Int)(hpp:zI H pp xs)(hx6:xs.length<=1000000)(hx0:0<xs.length):zC 30 [.agg [iV W,iV Hh,pp]] H (.agg [iV W,iV Hh,.sl (some (H.length,0)) xs.length none]) (H++[.cells true 1 (ints .u8 xs)]):=by
 obtain⟨bpp,opp,cpp,rfl,hbpp,hblpp,hb0pp⟩:=zA1 hpp
 refine AcT false func30 ?_;intro hbel Q hQ
 have G15:=jn @hbpp @hb0pp
 refine ae G15 ?_
 refine cx (kO _ _ xs (zA2 hb0pp hbpp) hx6 hx0) ?_
 refine ae G15 ?_
 refine hQ _ _ (aW (.inl rfl) hbel (x1:=.agg [iV W,iV Hh,.sl (some (H.length+2,0)) xs.length none]) (l2:=[.cells true 1 (ints .u8 xs)]) (.agg [iV W,iV Hh,.sl (some (H.length,0)) xs.length none]) (aZ results30) [] rfl [2] (by decide) ⟨rfl,rfl⟩ ?_)
 exact aD
theorem volI_bd (b:T6):0<=dT b/\dT b<=1125906929254400:=by
 unfold dT
 split
 ·rename_i h
  have hb:=bB.1 h
  have ha:=bo.1 hb.2.2
  have m1:=bg (a:=b.2.2.1-b.1+1) (b:=b.2.2.2.1-b.2.1+1) (A:=2097153) (B:=2097153) (by omega) (by omega)
  have p1:0<=(b.2.2.1-b.1+1)*(b.2.2.2.1-b.2.1+1):=Int.mul_nonneg (by omega) (by omega)
  have m2:=bg (a:=(b.2.2.1-b.1+1)*(b.2.2.2.1-b.2.1+1)) (b:=b.2.2.2.2.2) (A:=4398050705409) (B:=256) (by omega) (by omega)
  have p2:0<=(b.2.2.1-b.1+1)*(b.2.2.2.1-b.2.1+1)*b.2.2.2.2.2:=Int.mul_nonneg p1 (by omega)
  omega
 omega
def volS (l:List T6):Nat->Int
 |0=>0
 |n+1=>volS l n+dT (g6 l n)
theorem volS_bd (l:List T6):∀n:Nat,0<=volS l n/\volS l n<=1125906929254400*(n:Int)
 |0=>by simp[volS]
 | n+1=>by
  have:=volS_bd l n
  have e:=volI_bd (g6 l n)
  simp only[volS]
  omega
theorem llost_c (H:aa)(W Hh:Int)(pp:AV)(xs:List Int)(s:AV)(l:List T6)(tu le sl ra:Int)(lost:Bool)(bz:Nat)(hpp:zI H pp xs)(hs:Sl H 6 s l.length (r6 l))(hz:∃o,H[bz]? = some (.cells o 0 [iV W,iV Hh,pp,s,iV tu,iV le,iV sl,iV ra,.bool lost])):zC 14 [.ptr (some (bz,0))] H (.bool lost) H:=by
 obtain⟨bpp,opp,cpp,rfl,hbpp,hblpp,hb0pp⟩:=zA1 hpp
 obtain⟨bs,os,cs,rfl,hbs,hbls,hb0s⟩:=zA1 hs
 obtain⟨oz,hbz⟩:=hz
 have hblz:=getElem?_lt hbz
 have hb0z:=fun l=>ai (l:=l) hbz
 refine AcT true func14 ?_;intro hbel Q hQ
 have G1:=jn @hbpp (jn @hb0pp (jn @hbs (jn @hb0s (jn @hbz (jn @hb0z @Option.isNone_some.{0})))))
 exact eS G1 hQ hbel (.bool lost) results14 ⟨rfl,rfl⟩
theorem lset_c (H:aa)(W Hh:Int)(pp:AV)(xs:List Int)(s:AV)(l:List T6)(tu le sl ra:Int)(lost:Bool)(bz:Nat)(hpp:zI H pp xs)(hs:Sl H 6 s l.length (r6 l))(hz:∃o,H[bz]? = some (.cells o 0 [iV W,iV Hh,pp,s,iV tu,iV le,iV sl,iV ra,.bool lost]))(hl16:l.length<=16)(hl0:0<l.length):zC 15 [.ptr (some (bz,0))] H (.sl (some (H.length,0)) l.length none) (H++[.cells true 6 (r6 l)]):=by
 obtain⟨bpp,opp,cpp,rfl,hbpp,hblpp,hb0pp⟩:=zA1 hpp
 obtain⟨bs,os,cs,rfl,hbs,hbls,hb0s⟩:=zA1 hs
 obtain⟨oz,hbz⟩:=hz
 have hblz:=getElem?_lt hbz
 have hb0z:=fun l=>ai (l:=l) hbz
 refine AcT true func15 ?_;intro hbel Q hQ
 have G2:=jn @hbpp (jn @hb0pp (jn @hbs (jn @hb0s (jn @hbz (jn @hb0z @Option.isNone_some.{0})))))
 refine ae G2 ?_
 refine cvr G2 (m8 _ _ l (zA2 hb0s hbs) (by omega) (by omega)) ?_
 refine hQ _ _ (aW (.inl rfl) hbel (x1:=.sl (some (H.length,0)) l.length none) (l2:=[.cells true 6 (r6 l)]) (.sl (some (H.length,0)) l.length none) (aZ results15) [] rfl [0] (by decide) ⟨rfl,rfl⟩ ?_)
 exact aN @bE
theorem lplan_c (H:aa)(W Hh:Int)(pp:AV)(xs:List Int)(s:AV)(l:List T6)(tu le sl ra:Int)(lost:Bool)(bz:Nat)(hpp:zI H pp xs)(hs:Sl H 6 s l.length (r6 l))(hz:∃o,H[bz]? = some (.cells o 0 [iV W,iV Hh,pp,s,iV tu,iV le,iV sl,iV ra,.bool lost]))(hx6:xs.length<=1000000)(hx0:0<xs.length):zC 17 [.ptr (some (bz,0))] H (.agg [iV W,iV Hh,.sl (some (H.length,0)) xs.length none]) (H++[.cells true 1 (ints .u8 xs)]):=by
 obtain⟨bpp,opp,cpp,rfl,hbpp,hblpp,hb0pp⟩:=zA1 hpp
 obtain⟨bs,os,cs,rfl,hbs,hbls,hb0s⟩:=zA1 hs
 obtain⟨oz,hbz⟩:=hz
 have hblz:=getElem?_lt hbz
 have hb0z:=fun l=>ai (l:=l) hbz
 refine AcT true func17 ?_;intro hbel Q hQ
 have G3:=jn @hbpp (jn @hb0pp (jn @hbs (jn @hb0s (jn @hbz (jn @hb0z @Option.isNone_some.{0})))))
 refine ae G3 ?_
 refine cvr G3 (lcop_c _ W _ _ xs (zA2 hb0pp hbpp) hx6 hx0) ?_
 refine hQ _ _ (aW (.inl rfl) hbel (x1:=.agg [iV W,iV Hh,.sl (some (H.length+1,0)) xs.length none]) (l2:=[.cells true 1 (ints .u8 xs)]) (.agg [iV W,iV Hh,.sl (some (H.length,0)) xs.length none]) (aZ results17) [] rfl [1] (by decide) ⟨rfl,rfl⟩ ?_)
 exact aD
theorem lvol_c (H:aa)(W Hh:Int)(pp:AV)(xs:List Int)(s:AV)(l:List T6)(tu le sl ra:Int)(lost:Bool)(bz:Nat)(hpp:zI H pp xs)(hs:Sl H 6 s l.length (r6 l))(hz:∃o,H[bz]? = some (.cells o 0 [iV W,iV Hh,pp,s,iV tu,iV le,iV sl,iV ra,.bool lost]))(hl16:l.length<=16)(hl0:0<l.length):zC 18 [.ptr (some (bz,0))] H (iV (volS l l.length)) H:=by
 obtain⟨bpp,opp,cpp,rfl,hbpp,hblpp,hb0pp⟩:=zA1 hpp
 obtain⟨bs,os,cs,rfl,hbs,hbls,hb0s⟩:=zA1 hs
 obtain⟨oz,hbz⟩:=hz
 have hblz:=getElem?_lt hbz
 have hb0z:=fun l=>ai (l:=l) hbz
 refine AcT true func18 ?_;intro hbel Q hQ
 have G4:=jn @hbpp (jn @hb0pp (jn @hbs (jn @hb0s (jn @hbz (jn @hb0z @Option.isNone_some.{0})))))
 refine ae G4 ?_
 refine cvr G4 (lset_c _ W Hh _ xs _ l tu le sl ra lost _ (zA2 hb0pp hbpp) (zA2 hb0s hbs) ⟨_,by exact hbz⟩ hl16 hl0) ?_
 refine glp (fun k F Hx=>∃i:Nat,i+k=l.length/\F=[(3,iV (volS l i)),(7,.sl (some (H.length,0)) l.length none),(8,iV (l.length:Int)),(9,iV (i:Int))]/\Hx=H++[.cells true 6 (r6 l)]) (l.length) ?_ ?_
 ·refine⟨_,_,_,⟨0,by omega,rfl,rfl⟩,bS hbel [0] (az (jn @volS.eq_1 (jn @br (jn @ba (jn @bQ @bE)))))⟩
 rintro k0 F Hx ⟨i,hm0,rfl,rfl⟩ J0 hJ0
 have G5:=jn @ce (jn @fe G4)
 refine rcs G5 (fun h1 h1d _=>?_) (fun h1 h1d G7=>?_)
 ·have hlt:i<l.length:=by omega
  have hvb:=volI_bd (g61 l i,g62 l i,g63 l i,g64 l i,g65 l i,g66 l i)
  have hvs:=volS_bd l i
  have hve:dT (g61 l i,g62 l i,g63 l i,g64 l i,g65 l i,g66 l i)=dT (g6 l i):=rfl
  have q2:=di (l:=l) (j:=i) (by omega)
  have G6:=jn h1 (jn h1d (jn q2 G5))
  refine ae G6 ?_
  refine cvr G6 (vol_c _ _ _ _ _ _ _) ?_
  refine hJ0 _ _ ⟨k0-1,by omega,_,_,_,⟨i+1,by omega,rfl,rfl⟩,bS hbel [0] (az (jn @volS.eq_2 (jn @hve (jn @br (jn @ba (jn @bQ @bE))))))⟩
 obtain rfl:i=l.length:=by omega
 exact eR G7 hQ hbel (iV (volS l l.length)) results18 ⟨rfl,rfl⟩
theorem gZ {α:Type}{H l:List α}{x:α}{b:Nat}(h:b<H.length):(H++l).set b x=H.set b x++l:=List.set_append_left _ _ h
theorem iZ {α:Type}{H l:List α}{x:α}{b:Nat}(h:b<H.length):(H.set b x++l)[b]? = some x:=by
 rw[List.getElem?_append_left (by rw[List.length_set];exact h),List.getElem?_set_self h]
theorem g4 {α:Type}{H:List α}{x:α}{b:Nat}(h:b<H.length):(H.set b x)[b]? = some x:=List.getElem?_set_self h
theorem gn {α:Type}{H l:List α}{x y:α}{b:Nat}(h:b<H.length):(H.set b x++l).set b y=H.set b y++l:=by
 rw[gZ (by rw[List.length_set];exact h),List.set_set]
theorem gB {α:Type}{H l:List α}{x:α}{b k:Nat}:(H.set b x++l)[H.length+k]? = l[k]? :=by
 rw[List.getElem?_append_right (by rw[List.length_set];omega),List.length_set];congr 1;omega
theorem io {α:Type}{H l:List α}{x:α}{b:Nat}:(H.set b x++l)[H.length]? = l[0]? :=gB (k:=0)
theorem jm {α:Type}{H l:List α}{x y:α}{b k:Nat}:(H.set b x++l).set (H.length+k) y=H.set b x++l.set k y:=by
 rw[List.set_append_right _ _ (by rw[List.length_set];omega),List.length_set];congr 2;omega
theorem jZ {α:Type}{H l:List α}{x y:α}{b:Nat}:(H.set b x++l).set H.length y=H.set b x++l.set 0 y:=jm (k:=0)
theorem Abs0.put {n:Nat}{σ:Nat->Nat}{F1 F2:Fr}{H1 H2:aa}(h:Abs0 n σ F1 H1 F2 H2)(hs:∀c,n<=c->n<=σ c)(hi:∀b,σ b<H1.length->b<H2.length)(ho:∀(b:Nat) (x:ABlk),H2[b]? = some x->x.owned=true->∃x',H1[σ b]? = some x'/\x'.owned=true){bf:Nat}(hb:bf<n)(hd:H1[bf]? = some .dead)(y:ABlk):Abs0 n σ F1 (H1.set bf (y.mv σ)) F2 (H2.set bf y):=by
 have lt1:bf<H1.length:=getElem?_lt hd
 have lt2:bf<H2.length:=Nat.lt_of_lt_of_le hb h.len
 have hsb:∀c,c≠bf->σ c≠bf:=fun c hc=>by
  by_cases hcn:c<n
  ·rw[h.small c hcn];exact hc
  have:=hs c (by omega);omega
 have own:∀(b:Nat) (x:ABlk),(H2.set bf y)[b]? = some x->x.owned=true->∃x',(H1.set bf (y.mv σ))[σ b]? = some x'/\x'.owned=true:=fun b x hx ox=>by
  by_cases e:bf=b
  ·subst e
   rw[List.getElem?_set_self lt2] at hx;injection hx with hx;subst hx
   rw[h.small _ hb,List.getElem?_set_self lt1]
   exact⟨_,rfl,by cases y<;>exact ox⟩
  rw[List.getElem?_set_ne e] at hx
  rw[List.getElem?_set_ne (hsb b (fun k=>e k.symm)).symm]
  exact ho b x hx ox
 refine⟨h.small,by rw[List.length_set];exact h.len,fun E E' e1 e2 e3 t v hv=>h.frame E E' (by rw[e1,List.length_set]) (by rw[e2,List.length_set]) e3 t v hv,fun E E' e1 e2 eB e3 w hw b x hx=>?_,fun b c x z hx hz ox oz hbc=>⟨?_,own b x hx ox,own c z hz oz⟩⟩
 ·rw[List.length_set] at e1 e2
  by_cases e:bf=b
  ·subst e
   rw[List.getElem?_set_self lt2] at hx;injection hx with hx;subst hx
   have k:=hw bf _ (List.getElem?_set_self lt1)
   rw[e3,h.small _ hb]
   exact np eB e3 (fun b hb=>by rw[e2];exact hi b (by rw[<-e1];exact hb)) k
  rw[List.getElem?_set_ne e] at hx
  refine h.heap E E' e1 e2 eB e3 w (fun c z hz=>?_) b x hx
  by_cases e':bf=c
  ·subst e';rw[hd] at hz;injection hz with hz;subst hz;trivial
  exact hw c z (by rw[List.getElem?_set_ne e'];exact hz)
 by_cases e:bf=b
 ·subst e;rw[h.small _ hb];exact(hsb c (fun k=>hbc k.symm)).symm
 by_cases e':bf=c
 ·subst e';rw[h.small _ hb];exact hsb b (fun k=>e k.symm)
 rw[List.getElem?_set_ne e] at hx
 rw[List.getElem?_set_ne e'] at hz
 exact(h.inj b c x z hx hz ox oz hbc).1
theorem Abs.byP {H M l1 l2:aa}{F1 F2:Fr}{bf:Nat}{b1:ABlk}(b2:ABlk) (hbel:HBel H.length H) (hbf:bf<H.length) (hM:M=H.set bf b1++l1) (G:aa) (hG:G.all gp=true) (sel:List Nat) (hnd:sel.Nodup)
  (h:fj (H.length+(l1++G).length) (sig H.length (l1++G).length sel) F1 F2/\b1=b2.mv (sig H.length (l1++G).length sel)/\fB (H.length+(l1++G).length) (sig H.length (l1++G).length sel) (l1++G) sel l2):Abs H.length (sig H.length (l1++G).length sel) F1 M F2 (H.set bf b2++l2):=by
 subst hM
 obtain⟨hF,hb,ha⟩:=h
 have hl:=(fZ ha).1
 have hH:=(fZ ha).2
 have hn:(H.set bf .dead).length=H.length:=List.length_set
 have hbel2:HBel H.length (H.set bf .dead):=fun b x hx=>by
  by_cases e:bf=b
  ·subst e;rw[List.getElem?_set_self hbf] at hx;injection hx with hx;subst hx;rfl
  rw[List.getElem?_set_ne e] at hx;exact hbel b x hx
 have k:=Abs0.of (n:=H.length) (H0:=H.set bf .dead) (l1:=l1++G) (l2:=l2) (F1:=F1) (F2:=F2) hn hbel2 sel hnd (mF hF) hl hH
 have small:∀b,b<H.length->sig H.length (l1++G).length sel b=b:=fun b hb=>by simp[sig,hb]
 have k2:=k.put (bf:=bf) (fun c hc=>by
   unfold sig
   rw[if_neg (by omega)]
   split<;>omega) (fun b hb=>by
   simp only[List.length_append,List.length_set] at hb ⊢
   unfold sig at hb
   split at hb
   ·omega
   ·split at hb
    ·rename_i q;have:=getElem?_lt q;omega
    omega) (fun b x hx ho=>by
   by_cases hbn:b<H.length
   ·rw[small b hbn,List.getElem?_append_left (by rw[hn];exact hbn)]
    rw[List.getElem?_append_left (by rw[hn];exact hbn)] at hx
    exact⟨x,hx,ho⟩
   rw[List.getElem?_append_right (by rw[hn];omega),hn] at hx
   have hlt:=getElem?_lt hx
   have h1:sel[b-H.length]? = some (sel[b-H.length]'(by omega)):=List.getElem?_eq_getElem _
   have h2:sig H.length (l1++G).length sel b=H.length+sel[b-H.length]'(by omega):=by unfold sig;rw[if_neg hbn,h1]
   rw[h2,List.getElem?_append_right (by rw[hn];omega),hn,show ∀i:Nat,H.length+i-H.length=i from fun i=>by omega]
   rcases hH _ _ x h1 hx with rfl|h4|h4
   ·cases ho
   ·exact⟨_,h4,by cases x<;>exact ho⟩
   exact h4.own (by cases x<;>exact ho)) hbf (by rw[List.getElem?_append_left (by rw[hn];exact hbf)];exact List.getElem?_set_self hbf) b2
 rw[gn hbf,gn hbf,<-hb,<-List.append_assoc] at k2
 exact⟨G,hG,k2⟩
theorem j0 {P:Program}{fn:Func}{H M l1 l2:aa}{bf:Nat}{b1:ABlk}(b2:ABlk) {R:AV->aa->Prop}{F:Fr}{e:Exit}(he:e=.ret\/e=.normal) (hbel:HBel H.length H) (hbf:bf<H.length) (hM:M=H.set bf b1++l1) {x1:AV}(x2:AV) (hx:cW P fn F M=some x1) (G:aa) (hG:G.all gp=true) (sel:List Nat) (hnd:sel.Nodup) (hR:R x2 (H.set bf b2++l2))
  (h:W (H.length+(l1++G).length) x1 (x2.mv (sig H.length (l1++G).length sel))/\b1=b2.mv (sig H.length (l1++G).length sel)/\fB (H.length+(l1++G).length) (sig H.length (l1++G).length sel) (l1++G) sel l2):AEnd P fn H.length R e F M:=by
 have kk:=Abs.byP (F1:=[(0,x1)]) (F2:=[(0,x2)]) b2 hbel hbf hM G hG sel hnd ⟨⟨h.1,trivial⟩,h.2⟩
 rcases he with rfl|rfl
 ·exact⟨x1,hx,_,x2,_,hR,kk⟩
 exact⟨x1,hx,_,x2,_,hR,kk⟩
theorem boxes_p (H:aa)(s:AV)(l:List T6)(t g tu le sl ra:Int)(still:Bool)(hs:Sl H 6 s l.length (r6 l))(hS:bM l=true)(hl0:0<l.length)(hC:cH t g=true)(hB:bX tu le sl ra=true)(hA:imA l t (stF still g) tu le sl=true):zC 33 [s,.agg [iV t,iV g],.agg [iV tu,iV le,iV sl,iV ra],.bool still] H (.tup [.sl (some (H.length,0)) ((imS l t (stF still g) tu le sl l.length).length) none,iV 0]) (H++[.cells true 6 (r6 (imS l t (stF still g) tu le sl l.length))]):=by
 have k:=boxes_y H s l t g tu le sl ra still hs hS hC hB hA
 rw[ln (by rw[dP];exact hl0),ex (by rw[dP];exact hl0)] at k
 exact k
theorem lmv_y (H:aa)(W Hh:Int)(pp:AV)(xs:List Int)(s:AV)(l:List T6)(tu le sl ra:Int)(bz:Nat)(t g:Int)(still:Bool)(hpp:zI H pp xs)(hs:Sl H 6 s l.length (r6 l))(hz:H[bz]? = some (.cells true 0 [iV W,iV Hh,pp,s,iV tu,iV le,iV sl,iV ra,.bool false]))(hS:bM l=true)(hl0:0<l.length)(hC:cH t g=true)(hB:bX tu le sl ra=true)(hA:imA l t (stF still g) tu le sl=true):zC 12 [.ptr (some (bz,0)),.agg [iV t,iV g],.bool still] H (iV 0) (H.set bz (.cells true 0 [iV W,iV Hh,pp,.sl (some (H.length,0)) ((imS l t (stF still g) tu le sl l.length).length) none,iV tu,iV le,iV sl,iV ra,.bool false])++[.cells true 6 (r6 (imS l t (stF still g) tu le sl l.length))]):=by
 obtain⟨bpp,opp,cpp,rfl,hbpp,hblpp,hb0pp⟩:=zA1 hpp
 obtain⟨bs,os,cs,rfl,hbs,hbls,hb0s⟩:=zA1 hs
 have hbz:=hz
 have hblz:=getElem?_lt hbz
 have hb0z:=fun l=>ai (l:=l) hbz
 refine AcT false func12 ?_;intro hbel Q hQ
 have G1:=jn @hbpp (jn @hb0pp (jn @hbs (jn @hb0s (jn @hbz (jn @hb0z (jn @hC (jn @hB (jn @hA @Option.isNone_some.{0}))))))))
 refine ae G1 ?_
 refine cvr G1 (gx _ t g) ?_
 rcases Bool.eq_false_or_eq_true (imA l t (stF still g) tu le sl) with h1|h1
 ·have h1d:=h1
  refine cx (boxes_p _ _ l t g _ _ _ _ _ (zA2 hb0s hbs) (by assumption) hl0 hC hB hA) ?_
  have G2:=jn h1 (jn h1d (jn @hblz (jn @gn (jn @gZ (jn @iZ (jn @g4 (jn @gB (jn @io (jn @jm (jn @jZ (jn @List.length_set.{0} (jn @List.set_set.{0} G1))))))))))))
  refine ae G2 ?_
  refine hQ _ _ (j0 (b1:=.cells true 0 [iV W,iV Hh,.sl (some (bpp,0)) xs.length cpp,.sl (some (H.length+1,0)) ((imS l t (stF still g) tu le sl l.length).length) none,iV tu,iV le,iV sl,iV ra,.bool false]) (.cells true 0 [iV W,iV Hh,.sl (some (bpp,0)) xs.length cpp,.sl (some (H.length,0)) ((imS l t (stF still g) tu le sl l.length).length) none,iV tu,iV le,iV sl,iV ra,.bool false]) (l1:=[.cells true 0 [iV t,iV g],.cells true 6 (r6 (imS l t (stF still g) tu le sl l.length))]) (l2:=[.cells true 6 (r6 (imS l t (stF still g) tu le sl l.length))]) (.inl rfl) hbel hblz (by rfl) (x1:=iV 0) (iV 0) (aZ results12) [] rfl [1] (by decide) ⟨rfl,rfl⟩ ?_)
  exact aN (jn @bE (jn @hblpp (jn @hbls @hblz)))
 have h1d:=h1
 exact absurd (hA.symm.trans h1d) (by decide)
theorem lmv_n (H:aa)(W Hh:Int)(pp:AV)(xs:List Int)(s:AV)(l:List T6)(tu le sl ra:Int)(bz:Nat)(t g:Int)(still:Bool)(hpp:zI H pp xs)(hs:Sl H 6 s l.length (r6 l))(hz:∃o,H[bz]? = some (.cells o 0 [iV W,iV Hh,pp,s,iV tu,iV le,iV sl,iV ra,.bool false]))(hS:bM l=true)(hl0:0<l.length)(hC:cH t g=true)(hB:bX tu le sl ra=true)(hA:imA l t (stF still g) tu le sl=false):zC 12 [.ptr (some (bz,0)),.agg [iV t,iV g],.bool still] H (iV 2) H:=by
 obtain⟨bpp,opp,cpp,rfl,hbpp,hblpp,hb0pp⟩:=zA1 hpp
 obtain⟨bs,os,cs,rfl,hbs,hbls,hb0s⟩:=zA1 hs
 obtain⟨oz,hbz⟩:=hz
 have hblz:=getElem?_lt hbz
 have hb0z:=fun l=>ai (l:=l) hbz
 refine AcT true func12 ?_;intro hbel Q hQ
 have G3:=jn @hbpp (jn @hb0pp (jn @hbs (jn @hb0s (jn @hbz (jn @hb0z (jn @hC (jn @hB (jn @hA @Option.isNone_some.{0}))))))))
 refine ae G3 ?_
 refine cvr G3 (gx _ t g) ?_
 rcases Bool.eq_false_or_eq_true (imA l t (stF still g) tu le sl) with h1|h1
 ·have h1d:=h1
  exact absurd (hA.symm.trans h1d) (by decide)
 have h1d:=h1
 refine cd (boxes_n _ _ l t g _ _ _ _ _ (zA2 hb0s hbs) (by assumption) hC hB hA) ?_
 have G4:=j2 h1 h1d G3
 exact eR G4 hQ hbel (iV 2) results12 ⟨rfl,rfl⟩

theorem Ints.drew {w:World}{k:IntKind}{A:Option Addr}{xs:List Int}(h:Ints w k A xs):Ints w.drew k A xs:=h

theorem bxInfo:(Tryz.prog.info? 60).map (fun i=>(i.zero,i.size,i.bytes))=some (some (.agg #[.int .i64 0,.int .i64 0,.int .i64 0,.int .i64 0,.int .i64 0,.int .i64 0]),6,48):=by kernel_rfl
theorem pY (z:Array Value):(Builtin.zeroCells z 1).toList=z.toList:=by
 simp only[Builtin.zeroCells,Nat.one_mul]
 apply List.ext_getElem
 ·simp
 intro i h1 h2
 simp only[Array.toList_map,Array.toList_range,List.getElem_map,List.getElem_range,Array.getElem_toList]
 have h3:i<z.size:=by simpa using h2
 rw[Nat.mod_eq_of_lt h3,getElem!_pos z i h3]
theorem run_clear1 {P:Program}(w:World) (t e ty:TypeId) (z:Value) (ht:P.underlying t=some (.slice e)) (hv:(zeroValue e).run P w=.ok z w) (h1:∀v∈z.cells.toList,v.oneCell'=true) (b o c:Nat)
  (hc:∀j,j<z.cells.toList.length->(w.cell? ⟨b,o+j,none⟩).isSome=true) (hf:∀j,j<z.cells.toList.length->w.frozen? ⟨b,o+j,none⟩=false) :
  (Builtin.clear_ #[t] ty #[.slice (some ⟨b,o,none⟩) 1 c]).run P w=.ok (.tuple #[]) (w.setCells b o z.cells.toList):=by
 have hst:=run_storeCells_cells (P:=P) b o z.cells.toList 0 w hc hf h1
 simp only[Nat.add_zero] at hst
 simp[Builtin.clear_,run_underlying ht,hv,pY,hst]
set_option maxHeartbeats 4000000 in
set_option maxRecDepth 1000000 in
theorem del_w (g off cap n i j:Nat) (w:World) (news:List Value) (hl:news.length=(n-j)*6) (hnews:∀t u,news[t]? = some u->w.cell? ⟨g,off+j*6+t,none⟩=some u) (h1:∀u∈news,u.oneCell'=true) (hc:∀t,t<n*6->(w.cell? ⟨g,off+t,none⟩).isSome=true/\w.frozen? ⟨g,off+t,none⟩=false) (hi:i<n) (hj1:j=i+1) (hn:n<=cap) (hm:cap<=9223372036854775807)
  (W1:World) (hW1:W1=w.drew.setCells g (off+i*6) news) (hc1:∀t,t<n*6->(W1.cell? ⟨g,off+t,none⟩).isSome=true/\W1.frozen? ⟨g,off+t,none⟩=false) :
  Calls Tryz.prog 67 #[.slice (some ⟨g,off,none⟩) n cap,.int .i64 (i:Int),.int .i64 (j:Int)] w fun e w'=>e=.returned (.slice (some ⟨g,off,none⟩) (i+(n-j)) cap)/\w'=W1.setCells g (off+(i+(n-j))*6) (List.replicate 6 (.int .i64 0)):=by
 obtain⟨i0,hi0,hz0,hz1,hz2⟩:=info_parts bxInfo
 obtain ⟨A,hA,hsrc⟩:∃A:Addr,(if cap=j then (some (⟨g,off,none⟩:Addr)) else some ⟨g,off+j*6,none⟩)=some A/\Hid (∀t u,news[t]? = some u->w.drew.cell? (A.add t)=some u):=by
  by_cases h:cap=j
  ·refine⟨⟨g,off,none⟩,by simp[h],fun t u hu=>?_⟩
   have h0:news.length=0:=by rw[hl];omega
   rw[List.length_eq_zero_iff.1 h0] at hu
   simp at hu
  refine⟨⟨g,off+j*6,none⟩,by simp[h],fun t u hu=>?_⟩
  rw[Addr.add_lit]
  exact hnews t u hu
 have s1:Hid (news.length=(n-j)*6):=hl
 have s2:Hid (∀u∈news,u.oneCell'=true):=h1
 have s3:Hid (∀t,t<news.length->(w.drew.cell? ⟨g,off+i*6+t,none⟩).isSome=true/\w.drew.frozen? ⟨g,off+i*6+t,none⟩=false):=by
  intro t ht
  rw[hl] at ht
  have:=hc (i*6+t) (by omega)
  rw[<-Nat.add_assoc] at this
  exact this
 have hcl:∀ty,(Builtin.clear_ #[32] ty #[.slice (some ⟨g,off+(i+(n-j))*6,none⟩) (n-(i+(n-j))) (cap-(i+(n-j)))]).run Tryz.prog W1=.ok (.tuple #[]) (W1.setCells g (off+(i+(n-j))*6) (List.replicate 6 (.int .i64 0))):=fun ty=>by
  have hzv:(zeroValue 60).run Tryz.prog W1=.ok (.agg #[.int .i64 0,.int .i64 0,.int .i64 0,.int .i64 0,.int .i64 0,.int .i64 0]) W1:=by simp[zeroValue,typeInfo,hi0,hz0]
  have hzl:(Value.agg #[.int .i64 0,.int .i64 0,.int .i64 0,.int .i64 0,.int .i64 0,.int .i64 0]).cells.toList=List.replicate 6 (.int .i64 0):=rfl
  have k:=run_clear1 (P:=Tryz.prog) W1 32 60 ty (.agg #[.int .i64 0,.int .i64 0,.int .i64 0,.int .i64 0,.int .i64 0,.int .i64 0]) Tryz.underlying32 hzv (by rw[hzl];intro v hv;rw[List.eq_of_mem_replicate hv];rfl) g (off+(i+(n-j))*6) (cap-(i+(n-j))) (fun t ht=>by rw[hzl,List.length_replicate] at ht;rw[Nat.add_assoc];exact(hc1 _ (by omega)).1) (fun t ht=>by rw[hzl,List.length_replicate] at ht;rw[Nat.add_assoc];exact(hc1 _ (by omega)).2)
  rw[hzl] at k
  rw[show n-(i+(n-j))=1 by omega]
  exact k
 have hW:Hid (W1=w.drew.setCells g (off+i*6) news):=hW1
 have hHi:=hid hi0
 have hHz:=hid hz1
 have hij:i<=j:=by omega
 have hne:¬(i=j):=by omega
 have hj:j<=n:=by omega
 have hic:i<=cap:=by omega
 have hjc:j<=cap:=by omega
 have hlt:i<j:=by omega
 have hr:=hid hj1
 clear hW1 hnews hl hc hc1 hi0 hz0 hz1 hz2 hj1
 go_enter Tryz.func67,Tryz.ntmps67
 go_wp2_with fail
 go_region_law (refine step_append_room rfl (.tmp 22) (.tmp 25) 32 rfl 60 i0 6 Tryz.underlying32 hHi.out hHz.out g off i cap (by simp[Act.eval,Act.put]) A (n-j) (cap-j) news (by simp[Act.eval,Act.put]) s1.out hsrc.out s2.out (by omega) s3.out ?_;rw[<-hW.out])
 go_wp2
 go_ret
 exact⟨rfl,rfl⟩
theorem se {E:Env}{b o n:Nat}{cap:Option Nat}{v:Value}(h:Rel E (.sl (some (b,o)) n cap) v)(hn:0<n):∃c,v=.slice (some ⟨(E.loc b).blk,(E.loc b).off+o,none⟩) n c/\b<E.n/\n<=c/\c<=maxLen/\o+c*(E.loc b).es<=(E.loc b).sz:=by
 generalize hx:AV.sl (some (b,o)) n cap=x at h
 cases h with
 |nils b' cap' hb hc=>cases hx;omega
 | sl b' o' len cap' c a h0 h1 h2 h3 h4 h5 =>
  cases hx
  rcases h4 with h4|h4
  ·omega
  subst h4;exact⟨c,rfl,h0,h1,h2,h5⟩
 |_=>cases hx
theorem pS:∀(ys xs:List AV) (o:Nat),o+ys.length<=xs.length->splice xs o ys=xs.take o++ys++xs.drop (o+ys.length)
 | [],xs,o,h=>by
  rw[splice,List.append_nil,List.length_nil,Nat.add_zero,List.take_append_drop]
 | y::ys,xs,o,h=>by
  simp only[List.length_cons] at h
  rw[splice,pS ys _ _ (by rw[List.length_set];omega)]
  have ho:o<xs.length:=by omega
  rw[List.take_succ_eq_append_getElem (by simpa using ho),List.getElem_set_self,List.take_set_of_le (Nat.le_refl _),List.drop_set_of_lt (by omega),List.length_cons,show o+1+ys.length=o+(ys.length+1) by omega]
  simp
theorem r6_takeB {l:List T6}{j:Nat}:(r6 l).take (j*6)=r6 (l.take j):=by
 induction l generalizing j with
 |nil=>simp[bQ]
 | cons p l ih =>
  cases j with
  |zero=>simp[bQ]
  |succ j=>rw[ba,show (j+1)*6=j*6+1+1+1+1+1+1 by omega,List.take_succ_cons,List.take_succ_cons,List.take_succ_cons,List.take_succ_cons,List.take_succ_cons,List.take_succ_cons,ih];rfl
theorem r6_dropB {l:List T6}{j:Nat}:(r6 l).drop (j*6)=r6 (l.drop j):=by
 induction l generalizing j with
 |nil=>simp[bQ]
 | cons p l ih =>
  cases j with
  |zero=>simp
  |succ j=>rw[ba,show (j+1)*6=j*6+1+1+1+1+1+1 by omega,List.drop_succ_cons,List.drop_succ_cons,List.drop_succ_cons,List.drop_succ_cons,List.drop_succ_cons,List.drop_succ_cons,ih];rfl
def r6z:List AV:=[.int .i64 0,.int .i64 0,.int .i64 0,.int .i64 0,.int .i64 0,.int .i64 0]
theorem r6_oneB:∀{l:List T6},(r6 l).all AV.one=true
 |[]=>rfl
 |p::l=>by rw[ba];simp only[List.all_cons,AV.one,Bool.true_and];exact r6_oneB
theorem del_b (H:aa)(b:Nat)(cap:Option Nat)(l:List T6)(z:Int)(hb:H[b]? = some (.cells true 6 (r6 l)))(h0:0<=z)(hz:z<(l.length:Int)):ACalls Tryz.prog 67 [.sl (some (b,0)) l.length cap,.int .i64 z,.int .i64 (z+1)] H (fun v H'=>v=.sl (some (b,0)) (l.take z.toNat++l.drop (z.toNat+1)).length none/\H'=H.set b (.cells true 6 (r6 (l.take z.toNat++l.drop (z.toNat+1))++r6z))):=by
 obtain⟨i,rfl⟩:∃i:Nat,z=(i:Int):=⟨z.toNat,by omega⟩
 rw[Int.toNat_natCast]
 have hi:i<l.length:=by omega
 intro E w vs hE hv
 match vs,hv with
 |[],hv=>exact absurd hv.1 (by simp)
 |[_],hv=>exact absurd hv.1 (by simp)
 |[_,_],hv=>exact absurd hv.1 (by simp)
 |_::_::_::_::_,hv=>exact absurd hv.1 (by simp)
 |[v0,v1,v2],hv =>
 obtain⟨r0,hv⟩:=hv.uncons
 obtain⟨r1,hv⟩:=hv.uncons
 obtain⟨r2,-⟩:=hv.uncons
 have e1:v1=.int .i64 (i:Int):=by cases r1;rfl
 have e2:v2=.int .i64 ((i+1:Nat):Int):=by cases r2;rfl
 subst e1 e2
 obtain⟨c,rfl,hbn,hnc,hcm,hsz⟩:=se r0 (by omega)
 rw[Nat.add_zero]
 rw[Nat.zero_add] at hsz
 have hcells:∀{H':aa} {w':World} {ys:List AV},Emb E H' w'->H'[b]? = some (.cells true 6 ys)->∀t,t<l.length*6->ys.length=l.length*6->(w'.cell? ⟨(E.loc b).blk,(E.loc b).off+t,none⟩).isSome=true/\w'.frozen? ⟨(E.loc b).blk,(E.loc b).off+t,none⟩=false:=fun hE' hb' t ht hy=>by
  have k:=(hE'.blk b _ hb').2.1 rfl
  exact k.2.2.2.2 t (by omega)
 have hlen:(r6 (l.drop (i+1))).length=(l.length-(i+1))*6:=by rw[ce,List.length_drop]
 have hr:ards H b ((i+1)*6) ((l.length-(i+1))*6)=some (r6 (l.drop (i+1))):=by
  unfold ards;rw[hb]
  simp only
  rw[if_pos (.inl (by rw[ce];omega)),r6_dropB,List.take_of_length_le (by rw[hlen];omega)]
 obtain⟨o1,o2,ovs,o3,o4⟩:=fv hE hr
 have hol:ovs.length=(l.length-(i+1))*6:=by rw[<-o3.1,hlen]
 have hw1:awrite H b (i*6) (r6 (l.drop (i+1)))=some (H.set b (.cells true 6 (splice (r6 l) (i*6) (r6 (l.drop (i+1)))))):=by
  unfold awrite;rw[hb]
  simp only
  rw[if_pos ⟨by rw[hlen,ce];omega,r6_oneB⟩]
 obtain⟨x1,-,-,hE1⟩:=hE.drew.write o3 hw1
 have hblt:b<H.length:=getElem?_lt hb
 have hs1:splice (r6 l) (i*6) (r6 (l.drop (i+1)))=r6 (l.take i++l.drop (i+1))++(r6 l).drop ((l.length-1)*6):=by
  rw[pS _ _ _ (by rw[hlen,ce];omega),r6_takeB,br,hlen,show i*6+(l.length-(i+1))*6=(l.length-1)*6 by omega]
 have hlA:(r6 (l.take i++l.drop (i+1))).length=(l.length-1)*6:=by rw[ce,List.length_append,List.length_take,List.length_drop];omega
 have hlB:((r6 l).drop ((l.length-1)*6)).length=6:=by rw[List.length_drop,ce];omega
 rw[hs1] at hE1
 have hb1:(H.set b (.cells true 6 (r6 (l.take i++l.drop (i+1))++(r6 l).drop ((l.length-1)*6))))[b]? = some (.cells true 6 (r6 (l.take i++l.drop (i+1))++(r6 l).drop ((l.length-1)*6))):=List.getElem?_set_self hblt
 have hw2:awrite (H.set b (.cells true 6 (r6 (l.take i++l.drop (i+1))++(r6 l).drop ((l.length-1)*6)))) b ((l.length-1)*6) r6z=some (H.set b (.cells true 6 (r6 (l.take i++l.drop (i+1))++r6z))):=by
  unfold awrite;rw[hb1]
  simp only
  rw[if_pos ⟨by rw[List.length_append,hlA,hlB];exact Nat.le_refl _,rfl⟩,List.set_set,jD _ _ _ (by rw[List.length_append,hlA,hlB];rfl),List.take_append_of_le_length (by rw[hlA];exact Nat.le_refl _),List.take_of_length_le (by rw[hlA];exact Nat.le_refl _)]
 have hz6:RelL E r6z (List.replicate 6 (.int .i64 0)):=.cons (.int _ _) (.cons (.int _ _) (.cons (.int _ _) (.cons (.int _ _) (.cons (.int _ _) (.cons (.int _ _) (.nil E))))))
 obtain⟨-,-,-,hE2⟩:=hE1.write hz6 hw2
 refine (del_w (E.loc b).blk (E.loc b).off c l.length i (i+1) w ovs hol (fun t u hu=>by
   exact o4 t u hu) x1 (fun t ht=>hcells hE hb t ht ce) hi rfl hnc hcm _ rfl (fun t ht=>hcells hE1 hb1 t ht (by rw[List.length_append,hlA,hlB];omega))).mono ?_
 rintro e w' ⟨rfl,rfl⟩
 refine⟨E,_,_,_,rfl,⟨rfl,rfl⟩,.refl E,?_,?_⟩
 ·have e3:(l.take i++l.drop (i+1)).length=i+(l.length-(i+1)):=by rw[List.length_append,List.length_take,List.length_drop];omega
  rw[e3]
  have k:=Rel.sl (E:=E) b 0 (i+(l.length-(i+1))) none c ⟨(E.loc b).blk,(E.loc b).off+0,none⟩ hbn (by omega) hcm (.inl rfl) (.inr rfl) (by rw[Nat.zero_add];exact hsz)
  rw[Nat.add_zero] at k
  exact k
 rw[show i+(l.length-(i+1))=l.length-1 by omega]
 exact hE2
theorem r6_set:∀{l:List T6}{j:Nat}{a b c d e f:Int},j<l.length->((((((r6 l).set (j*6) (iV a)).set (j*6+1) (iV b)).set (j*6+2) (iV c)).set (j*6+3) (iV d)).set (j*6+4) (iV e)).set (j*6+5) (iV f)=r6 (l.set j (a,b,c,d,e,f))
 |[],j,_,_,_,_,_,_,h=>by simp at h
 |p::l,0,_,_,_,_,_,_,_=>by simp[ba]
 | p::l,j+1,a,b,c,d,e,f,h=>by
  have ih:=r6_set (l:=l) (j:=j) (a:=a) (b:=b) (c:=c) (d:=d) (e:=e) (f:=f) (by simpa using h)
  have k:(j+1)*6=j*6+1+1+1+1+1+1:=by omega
  rw[ba,k]
  simp only[List.set_cons_succ]
  rw[ba,<-ih]
theorem BW_pre' {m e:Nat}{o:Bool}{ys zs:List AV}:BW m (some (.cells o e (ys++zs))) (.cells o e ys)=True:=eq_true BW.pre
theorem chp_c (H:aa)(s:AV)(l:List T6)(hs:Sl H 6 s l.length (r6 l))(hv:∀b∈l,bj b=true)(hl2:l.length<=256)(hl0:0<l.length):zC 66 [s] H (.tup [iV ((chO l l.length).1),iV ((chO l l.length).2.1),.agg [iV ((chO l l.length).2.2.2.1),iV ((chO l l.length).2.2.2.2.1),iV ((chO l l.length).2.2.2.2.2.1),iV ((chO l l.length).2.2.2.2.2.2.1),iV ((chO l l.length).2.2.2.2.2.2.2.1),iV ((chO l l.length).2.2.2.2.2.2.2.2)]]) H:=by
 obtain⟨bs,os,cs,rfl,hbs,hbls,hb0s⟩:=zA1 hs
 refine AcT true func66 ?_;intro hbel Q hQ
 have G1:=jn @hbs @hb0s
 refine ae G1 ?_
 refine glp (fun k F Hx=>∃i:Nat,i+k=l.length/\F=[(0,.sl (some (bs,0)) l.length cs),(4,.ptr (some (H.length,0))),(5,iV ((chO l i).1)),(6,iV ((chO l i).2.1)),(7,iV ((chO l i).2.2.1)),(8,.ptr (some (H.length+1,0))),(16,.sl (some (bs,0)) l.length cs),(17,iV (l.length:Int)),(18,iV (i:Int))]/\Hx=H++[.cells true 0 [iV 0,iV 0,iV 0,iV 0,iV 0,iV 0],.cells true 0 [iV ((chO l i).2.2.2.1),iV ((chO l i).2.2.2.2.1),iV ((chO l i).2.2.2.2.2.1),iV ((chO l i).2.2.2.2.2.2.1),iV ((chO l i).2.2.2.2.2.2.2.1),iV ((chO l i).2.2.2.2.2.2.2.2)]]) (l.length) ?_ ?_
 ·refine⟨_,_,_,⟨0,by omega,rfl,rfl⟩,bS hbel [0,1] (aN @chO.eq_1)⟩
 rintro k0 F Hx ⟨i,hm0,rfl,rfl⟩ J0 hJ0
 refine rcs G1 (fun h1 h1d _=>?_) (fun h1 h1d G9=>?_)
 ·have hlt:i<l.length:=by omega
  have hva:bxB (g61 l i) (g62 l i) (g63 l i) (g64 l i) (g65 l i) (g66 l i)=true:=hv _ (cD hlt)
  have hcb:=chO_bd (l:=l) (n:=i) (by omega)
  have q2:=di (l:=l) (j:=i) (by omega)
  have G2:=jn h1 (jn h1d (jn @ce (jn q2 G1)))
  refine ae G2 ?_
  refine glp (fun k F Hx=>∃j:Nat,j+k=l.length-(i+1)/\F=[(0,.sl (some (bs,0)) l.length cs),(4,.ptr (some (H.length,0))),(5,iV ((chR l i (chO l i) j).1)),(6,iV ((chR l i (chO l i) j).2.1)),(7,iV ((chR l i (chO l i) j).2.2.1)),(8,.ptr (some (H.length+1,0))),(9,iV (i:Int)),(10,.ptr (some (H.length+2,0))),(16,.sl (some (bs,0)) l.length cs),(17,iV (l.length:Int)),(18,iV (i:Int)),(26,.sl (some (bs,(i+1)*6)) (l.length-(i+1)) none),(27,iV ((l.length-(i+1):Nat):Int)),(28,iV (j:Int))]/\Hx=H++[.cells true 0 [iV 0,iV 0,iV 0,iV 0,iV 0,iV 0],.cells true 0 [iV ((chR l i (chO l i) j).2.2.2.1),iV ((chR l i (chO l i) j).2.2.2.2.1),iV ((chR l i (chO l i) j).2.2.2.2.2.1),iV ((chR l i (chO l i) j).2.2.2.2.2.2.1),iV ((chR l i (chO l i) j).2.2.2.2.2.2.2.1),iV ((chR l i (chO l i) j).2.2.2.2.2.2.2.2)],.cells true 0 [iV (g61 l i),iV (g62 l i),iV (g63 l i),iV (g64 l i),iV (g65 l i),iV (g66 l i)]]) (l.length-(i+1)) ?_ ?_
  ·refine⟨_,_,_,⟨0,by omega,rfl,rfl⟩,bS hbel [0,1,2] (aN @chR.eq_1)⟩
  rintro k1 F Hx ⟨j,hm1,rfl,rfl⟩ J1 hJ1
  refine rcs G2 (fun h3 h3d _=>?_) (fun h3 h3d G8=>?_)
  ·have hkt:j<l.length-(i+1):=by omega
   have hvb:bxB (g61 l (i+1+j)) (g62 l (i+1+j)) (g63 l (i+1+j)) (g64 l (i+1+j)) (g65 l (i+1+j)) (g66 l (i+1+j))=true:=hv _ (cD (by omega))
   have hsfo:(i+1)*6+j*6=(i+1+j)*6:=by omega
   have hrb:=chR_bd (l:=l) (n:=i) (k:=j) (by omega) (by omega)
   have hv1:=jX (mnI (g61 l i) (g61 l (i+1+j)),mnI (g62 l i) (g62 l (i+1+j)),mxI (g63 l i) (g63 l (i+1+j)),mxI (g64 l i) (g64 l (i+1+j)),(cQ (g65 l i) (g66 l i) (g65 l (i+1+j)) (g66 l (i+1+j))).1,(cQ (g65 l i) (g66 l i) (g65 l (i+1+j)) (g66 l (i+1+j))).2)
   have hv2:=jX ((g61 l i),(g62 l i),(g63 l i),(g64 l i),(g65 l i),(g66 l i))
   have hv3:=jX ((g61 l (i+1+j)),(g62 l (i+1+j)),(g63 l (i+1+j)),(g64 l (i+1+j)),(g65 l (i+1+j)),(g66 l (i+1+j)))
   have q4:=di (l:=l) (j:=i+1+j) (by omega)
   have G3:=jn h3 (jn h3d (jn @hsfo (jn q4 G2)))
   refine ae G3 ?_
   refine cvr G3 (bhull_c _ _ _ _ _ _ _ _ _ _ _ _ _ (by assumption) (by assumption)) ?_
   refine cdr G3 (vol_c _ _ _ _ _ _ _) ?_
   refine cdr G3 (vol_c _ _ _ _ _ _ _) ?_
   refine cd (vol_c _ _ _ _ _ _ _) ?_
   refine rgs G3 (fun h5 h5d G4=>?_) (fun h5 h5d G7=>?_)
   ·have hk5:=h5d
    refine rcs G4 (fun h6 h6d G5=>?_) (fun h6 h6d G6=>?_)
    ·have hU:chU l i j (chR l i (chO l i) j)=((i:Int),(i:Int)+1+(j:Int),chN l i (i+1+j),el (g6 l i) (g6 l (i+1+j))):=if_pos (.inr h6d)
     have hc1:(chU l i j (chR l i (chO l i) j)).1=(i:Int):=by rw[hU]
     have hc2:(chU l i j (chR l i (chO l i) j)).2.1=(i:Int)+1+(j:Int):=by rw[hU]
     have hc3:(chU l i j (chR l i (chO l i) j)).2.2.1=(((dT ((mnI (g61 l i) (g61 l (i+1+j))),(mnI (g62 l i) (g62 l (i+1+j))),(mxI (g63 l i) (g63 l (i+1+j))),(mxI (g64 l i) (g64 l (i+1+j))),((cQ (g65 l i) (g66 l i) (g65 l (i+1+j)) (g66 l (i+1+j))).1),((cQ (g65 l i) (g66 l i) (g65 l (i+1+j)) (g66 l (i+1+j))).2)))-(dT (g6 l i)))-(dT (g6 l (i+1+j)))):=by rw[hU];rfl
     have hd0:(chU l i j (chR l i (chO l i) j)).2.2.2.1=mnI (g61 l i) (g61 l (i+1+j)):=by rw[hU];rfl
     have hd1:(chU l i j (chR l i (chO l i) j)).2.2.2.2.1=mnI (g62 l i) (g62 l (i+1+j)):=by rw[hU];rfl
     have hd2:(chU l i j (chR l i (chO l i) j)).2.2.2.2.2.1=mxI (g63 l i) (g63 l (i+1+j)):=by rw[hU];rfl
     have hd3:(chU l i j (chR l i (chO l i) j)).2.2.2.2.2.2.1=mxI (g64 l i) (g64 l (i+1+j)):=by rw[hU];rfl
     have hd4:(chU l i j (chR l i (chO l i) j)).2.2.2.2.2.2.2.1=(cQ (g65 l i) (g66 l i) (g65 l (i+1+j)) (g66 l (i+1+j))).1:=by rw[hU];rfl
     have hd5:(chU l i j (chR l i (chO l i) j)).2.2.2.2.2.2.2.2=(cQ (g65 l i) (g66 l i) (g65 l (i+1+j)) (g66 l (i+1+j))).2:=by rw[hU];rfl
     refine ae G5 ?_
     refine hJ1 _ _ ⟨k1-1,by omega,_,_,_,⟨j+1,by omega,rfl,rfl⟩,bS hbel [0,1,2] (aN (jn @chR.eq_2 (jn @hc1 (jn @hc2 (jn @hc3 (jn @hd0 (jn @hd1 (jn @hd2 (jn @hd3 (jn @hd4 @hd5))))))))))⟩
    have hU:chU l i j (chR l i (chO l i) j)=(chR l i (chO l i) j):=if_neg (fun q=>q.elim (fun q=>hk5 q) (fun q=>absurd q h6d))
    refine ae G6 ?_
    refine hJ1 _ _ ⟨k1-1,by omega,_,_,_,⟨j+1,by omega,rfl,rfl⟩,bS hbel [0,1,2] (aN (jn @chR.eq_2 @hU))⟩
   have hU:chU l i j (chR l i (chO l i) j)=((i:Int),(i:Int)+1+(j:Int),chN l i (i+1+j),el (g6 l i) (g6 l (i+1+j))):=if_pos (.inl h5d)
   have hc1:(chU l i j (chR l i (chO l i) j)).1=(i:Int):=by rw[hU]
   have hc2:(chU l i j (chR l i (chO l i) j)).2.1=(i:Int)+1+(j:Int):=by rw[hU]
   have hc3:(chU l i j (chR l i (chO l i) j)).2.2.1=(((dT ((mnI (g61 l i) (g61 l (i+1+j))),(mnI (g62 l i) (g62 l (i+1+j))),(mxI (g63 l i) (g63 l (i+1+j))),(mxI (g64 l i) (g64 l (i+1+j))),((cQ (g65 l i) (g66 l i) (g65 l (i+1+j)) (g66 l (i+1+j))).1),((cQ (g65 l i) (g66 l i) (g65 l (i+1+j)) (g66 l (i+1+j))).2)))-(dT (g6 l i)))-(dT (g6 l (i+1+j)))):=by rw[hU];rfl
   have hd0:(chU l i j (chR l i (chO l i) j)).2.2.2.1=mnI (g61 l i) (g61 l (i+1+j)):=by rw[hU];rfl
   have hd1:(chU l i j (chR l i (chO l i) j)).2.2.2.2.1=mnI (g62 l i) (g62 l (i+1+j)):=by rw[hU];rfl
   have hd2:(chU l i j (chR l i (chO l i) j)).2.2.2.2.2.1=mxI (g63 l i) (g63 l (i+1+j)):=by rw[hU];rfl
   have hd3:(chU l i j (chR l i (chO l i) j)).2.2.2.2.2.2.1=mxI (g64 l i) (g64 l (i+1+j)):=by rw[hU];rfl
   have hd4:(chU l i j (chR l i (chO l i) j)).2.2.2.2.2.2.2.1=(cQ (g65 l i) (g66 l i) (g65 l (i+1+j)) (g66 l (i+1+j))).1:=by rw[hU];rfl
   have hd5:(chU l i j (chR l i (chO l i) j)).2.2.2.2.2.2.2.2=(cQ (g65 l i) (g66 l i) (g65 l (i+1+j)) (g66 l (i+1+j))).2:=by rw[hU];rfl
   refine ae G7 ?_
   refine hJ1 _ _ ⟨k1-1,by omega,_,_,_,⟨j+1,by omega,rfl,rfl⟩,bS hbel [0,1,2] (aN (jn @chR.eq_2 (jn @hc1 (jn @hc2 (jn @hc3 (jn @hd0 (jn @hd1 (jn @hd2 (jn @hd3 (jn @hd4 @hd5))))))))))⟩
  obtain rfl:j=l.length-(i+1):=by omega
  refine ae G8 ?_
  refine hJ0 _ _ ⟨k0-1,by omega,_,_,_,⟨i+1,by omega,rfl,rfl⟩,bS hbel [0,1] (aN @chO.eq_2)⟩
 obtain rfl:i=l.length:=by omega
 exact eR G9 hQ hbel (.tup [iV ((chO l l.length).1),iV ((chO l l.length).2.1),.agg [iV ((chO l l.length).2.2.2.1),iV ((chO l l.length).2.2.2.2.1),iV ((chO l l.length).2.2.2.2.2.1),iV ((chO l l.length).2.2.2.2.2.2.1),iV ((chO l l.length).2.2.2.2.2.2.2.1),iV ((chO l l.length).2.2.2.2.2.2.2.2)]]) results66 ⟨rfl,rfl⟩
theorem del_n (H:aa)(b n:Nat)(cap:Option Nat)(l:List T6)(z:Int)(hn:n=l.length)(hb:H[b]? = some (.cells true 6 (r6 l)))(h0:0<=z)(hz:z<(l.length:Int)):zC 67 [.sl (some (b,0)) n cap,iV z,iV (z+1)] H (.sl (some (b,0)) (l.take z.toNat++l.drop (z.toNat+1)).length none) (H.set b (.cells true 6 (r6 (l.take z.toNat++l.drop (z.toNat+1))++r6z))):=by
 subst hn;exact del_b H b cap l z hb h0 hz
theorem comp_c (H:aa)(s:AV)(l:List T6)(hs:Sl H 6 s l.length (r6 l))(hl:l.length<=64)(hl0:0<l.length)(hv:∀b∈l,bj b=true):zC 36 [s,iV 16] H (.tup [.sl (some (H.length,0)) ((cpL l).length) none,iV 0]) (H++[.cells true 6 (r6 (cpL l))]):=by
 obtain⟨bs,os,cs,rfl,hbs,hbls,hb0s⟩:=zA1 hs
 have hny:l.any (fun b=>!bj b)=false:=List.any_eq_false.2 fun b hb=>by rw[hv b hb];decide
 refine AcT false func36 ?_;intro hbel Q hQ
 have G1:=jn @hbs (jn @hb0s @hny)
 refine rcs G1 (fun h1 h1d _=>?_) (fun h1 h1d G2=>?_)
 ·omega
 refine ae G2 ?_
 refine cvr G2 (jQ _ _ l (zA2 hb0s hbs) (by omega) _ [] (by kernel_rfl) rfl (fun b=>!bj b) (fun j hj=>cmp1_c _ _ _ _ _ _ _)) ?_
 refine cvr G2 (m8 _ _ l (zA2 hb0s hbs) (by omega) (by omega)) ?_
 refine glp (fun k F Hx=>∃QQ:List T6,QQ.length=k/\(∀b∈QQ,bj b=true)/\0<QQ.length/\QQ.length<=64/\cpI (QQ.length-16) QQ=cpL l/\F=[(1,iV 16),(6,.sl (some (H.length,0)) QQ.length none)]/\Hx=H++[.cells true 6 (r6 QQ)]) (l.length) ?_ ?_
 ·refine⟨_,_,_,⟨l,by omega,hv,hl0,hl,rfl,rfl,rfl⟩,bS hbel [0] (az (jn @br (jn @ba (jn @bQ @bE))))⟩
 rintro k0 F Hx ⟨QQ,hm0,hqv,hq0,hq6,hqc,rfl,rfl⟩ J0 hJ0
 have G3:=jn @ce (jn @fe G2)
 refine rcs G3 (fun h2 h2d G4=>?_) (fun h2 h2d G6=>?_)
 ·have hgt:16<QQ.length:=by omega
  obtain⟨ci,cj,hci,hcj,hc1,hc2,hc3⟩:=chO_p (l:=QQ) (by omega)
  have hsn:=ma (l:=QQ) (by omega)
  have hcs:List.take (chO QQ QQ.length).2.1.toNat (List.set QQ (chO QQ QQ.length).1.toNat ((chO QQ QQ.length).2.2.2.1,(chO QQ QQ.length).2.2.2.2.1,(chO QQ QQ.length).2.2.2.2.2.1,(chO QQ QQ.length).2.2.2.2.2.2.1,(chO QQ QQ.length).2.2.2.2.2.2.2.1,(chO QQ QQ.length).2.2.2.2.2.2.2.2))++List.drop ((chO QQ QQ.length).2.1.toNat+1) (List.set QQ (chO QQ QQ.length).1.toNat ((chO QQ QQ.length).2.2.2.1,(chO QQ QQ.length).2.2.2.2.1,(chO QQ QQ.length).2.2.2.2.2.1,(chO QQ QQ.length).2.2.2.2.2.2.1,(chO QQ QQ.length).2.2.2.2.2.2.2.1,(chO QQ QQ.length).2.2.2.2.2.2.2.2))=cpS QQ:=rfl
  have hcl:(List.take (chO QQ QQ.length).2.1.toNat (List.set QQ (chO QQ QQ.length).1.toNat ((chO QQ QQ.length).2.2.2.1,(chO QQ QQ.length).2.2.2.2.1,(chO QQ QQ.length).2.2.2.2.2.1,(chO QQ QQ.length).2.2.2.2.2.2.1,(chO QQ QQ.length).2.2.2.2.2.2.2.1,(chO QQ QQ.length).2.2.2.2.2.2.2.2))).length+(List.drop ((chO QQ QQ.length).2.1.toNat+1) (List.set QQ (chO QQ QQ.length).1.toNat ((chO QQ QQ.length).2.2.2.1,(chO QQ QQ.length).2.2.2.2.1,(chO QQ QQ.length).2.2.2.2.2.1,(chO QQ QQ.length).2.2.2.2.2.2.1,(chO QQ QQ.length).2.2.2.2.2.2.2.1,(chO QQ QQ.length).2.2.2.2.2.2.2.2))).length=(cpS QQ).length:=by rw[<-List.length_append];rfl
  have hqn:cpI ((cpS QQ).length-16) (cpS QQ)=cpL l:=by rw[hsn,<-hqc,show QQ.length-16=(QQ.length-1-16)+1 by omega];rfl
  refine ae G4 ?_
  refine cv (chp_c _ _ QQ ⟨_,_,_,by rfl,by (rw[dp];rfl)⟩ (by assumption) (by omega) (by omega)) ?_
  have G5:=jn @r6_set (jn @List.length_set.{0} G4)
  refine ae G5 ?_
  refine cvr G5 (del_n _ _ _ _ (QQ.set (((chO QQ QQ.length).1).toNat) ((chO QQ QQ.length).2.2.2.1,(chO QQ QQ.length).2.2.2.2.1,(chO QQ QQ.length).2.2.2.2.2.1,(chO QQ QQ.length).2.2.2.2.2.2.1,(chO QQ QQ.length).2.2.2.2.2.2.2.1,(chO QQ QQ.length).2.2.2.2.2.2.2.2)) _ (by exact List.length_set.symm) (by (rw[dp];rfl)) (by omega) (by (rw[List.length_set];omega))) ?_
  refine hJ0 _ _ ⟨k0-1,by omega,_,_,_,⟨cpS QQ,by omega,cpS_ok (by omega) hqv,by omega,by omega,hqn,rfl,rfl⟩,bS hbel [0] (az (jn @hcs (jn @hcl (jn @BW_pre' (jn @bE (jn @or_true (jn @true_or (jn @br (jn @ba @bQ)))))))))⟩
 obtain rfl:QQ=cpL l:=by rw[<-hqc,show QQ.length-16=0 by omega];rfl
 refine ae G6 ?_
 refine hQ _ _ (aW (.inl rfl) hbel (x1:=.tup [.sl (some (H.length,0)) ((cpL l).length) none,iV 0]) (l2:=[.cells true 6 (r6 (cpL l))]) (.tup [.sl (some (H.length,0)) ((cpL l).length) none,iV 0]) (aZ results36) [] rfl [0] (by decide) ⟨rfl,rfl⟩ ?_)
 exact aN @bE
theorem look_c (H:aa)(W Hh:Int)(pp:AV)(xs:List Int)(x y h m most:Int)(hpp:zI H pp xs)(hip:inpB W Hh xs x y=true)(hm:0<=most/\most<=1056):zC 134 [.agg [iV W,iV Hh,pp],.agg [iV x,iV y,iV h],iV m,iV most] H (.tup [.agg [iV (lkN W Hh xs x y h m most),iV (lkD W Hh xs x y h m most)],.bool ((lkS W Hh xs x y h m most).isSome)]) H:=by
 obtain⟨bpp,opp,cpp,rfl,hbpp,hblpp,hb0pp⟩:=zA1 hpp
 (refine bI func134 _ rfl (Nat.le_of_ble_eq_true (by kernel_rfl)) rfl ?_;intro hbel Q hQ hQ' c hc;unfold Tryz.f134 at hc;simp only[Option.some.injEq] at hc;subst hc;clear hQ')
 refine zQT hQ fun Q1 hn1 hQ1 he1=>?_
 have G1:=jn @hbpp @hb0pp
 refine ae G1 ?_
 refine hn1 _ _ ?_
 refine bT true try_mixed [[0,1,2,3,4,5,6,7,8,9,10,11,12,13,14,15,16,17,18,19,20],[0,1,2,3,4,5,6,7,8,9,10,11,12,13,14,15,17,16,18,19,20],[0,1,2,3,4,5,6,7,8,9,10,17,11,12,13,14,15,16,18,19,20],[0,1,2,3,4,5,6,7,8,10,17,9,11,12,13,14,15,16,18,19,20],[0,1,2,3,4,5,6,7,8,9,10,16,11,12,13,14,15,17,18,19,20],[0,1,2,3,4,5,6,7,8,9,10,16,17,11,12,13,14,15,18,19,20],[0,1,2,3,4,5,6,7,8,9,10,17,16,11,12,13,14,15,18,19,20],[0,1,2,3,4,5,6,7,8,10,17,9,16,11,12,13,14,15,18,19,20],[0,1,2,3,4,5,6,7,8,10,16,9,11,12,13,14,15,17,18,19,20],[0,1,2,3,4,5,6,7,8,10,16,9,17,11,12,13,14,15,18,19,20],[0,1,2,3,4,5,6,7,8,10,16,17,9,11,12,13,14,15,18,19,20],[0,1,2,3,4,5,6,7,8,10,17,16,9,11,12,13,14,15,18,19,20]] (by kernel_rfl) (fun F2 H2=>F2=[(8,.ptr (some (H.length,0))),(9,.bool false),(10,.ptr (some (H.length+1,0))),(12,.bool ((lkS W Hh xs x y h m most).isSome))]/\H2=H++[.cells true 0 [iV 0,iV 0],.cells true 0 [iV (lkN W Hh xs x y h m most),iV (lkD W Hh xs x y h m most)]]) ?_ ?_
 ·refine am ?_ (am ?_ (am ?_ (am ?_ (am ?_ (am ?_ (am ?_ (am ?_ (am ?_ (am ?_ (am ?_ (am ?_ (bP))))))))))))<;>intro J hJ
  ·refine ak G1 ?_
   refine cd (dD _ h m) ?_
   refine ak G1 ?_
   refine cd (dI _ W _ _ xs x y h m _ (zA2 hb0pp hbpp) hip (by omega)) ?_
   refine ak G1 ?_
   refine aC (hJ _ _ ⟨_,_,_,⟨rfl,rfl⟩,bS hbel [2,3] aD⟩)
  ·refine ak G1 ?_
   refine cd (dD _ h m) ?_
   refine ak G1 ?_
   refine cd (dI _ W _ _ xs x y h m _ (zA2 hb0pp hbpp) hip (by omega)) ?_
   refine ak G1 ?_
   refine aC (hJ _ _ ⟨_,_,_,⟨rfl,rfl⟩,bS hbel [2,4] aD⟩)
  ·refine ak G1 ?_
   refine cd (dD _ h m) ?_
   refine ak G1 ?_
   refine cd (dI _ W _ _ xs x y h m _ (zA2 hb0pp hbpp) hip (by omega)) ?_
   refine ak G1 ?_
   refine aC (hJ _ _ ⟨_,_,_,⟨rfl,rfl⟩,bS hbel [2,4] aD⟩)
  ·refine ak G1 ?_
   refine cd (dD _ h m) ?_
   refine ak G1 ?_
   refine cd (dI _ W _ _ xs x y h m _ (zA2 hb0pp hbpp) hip (by omega)) ?_
   refine ak G1 ?_
   refine aC (hJ _ _ ⟨_,_,_,⟨rfl,rfl⟩,bS hbel [2,4] aD⟩)
  ·refine ak G1 ?_
   refine cd (dD _ h m) ?_
   refine ak G1 ?_
   refine cd (dI _ W _ _ xs x y h m _ (zA2 hb0pp hbpp) hip (by omega)) ?_
   refine ak G1 ?_
   refine aC (hJ _ _ ⟨_,_,_,⟨rfl,rfl⟩,bS hbel [2,3] aD⟩)
  ·refine ak G1 ?_
   refine cd (dD _ h m) ?_
   refine ak G1 ?_
   refine cd (dI _ W _ _ xs x y h m _ (zA2 hb0pp hbpp) hip (by omega)) ?_
   refine ak G1 ?_
   refine aC (hJ _ _ ⟨_,_,_,⟨rfl,rfl⟩,bS hbel [2,3] aD⟩)
  ·refine ak G1 ?_
   refine cd (dD _ h m) ?_
   refine ak G1 ?_
   refine cd (dI _ W _ _ xs x y h m _ (zA2 hb0pp hbpp) hip (by omega)) ?_
   refine ak G1 ?_
   refine aC (hJ _ _ ⟨_,_,_,⟨rfl,rfl⟩,bS hbel [2,4] aD⟩)
  ·refine ak G1 ?_
   refine cd (dD _ h m) ?_
   refine ak G1 ?_
   refine cd (dI _ W _ _ xs x y h m _ (zA2 hb0pp hbpp) hip (by omega)) ?_
   refine ak G1 ?_
   refine aC (hJ _ _ ⟨_,_,_,⟨rfl,rfl⟩,bS hbel [2,4] aD⟩)
  ·refine ak G1 ?_
   refine cd (dD _ h m) ?_
   refine ak G1 ?_
   refine cd (dI _ W _ _ xs x y h m _ (zA2 hb0pp hbpp) hip (by omega)) ?_
   refine ak G1 ?_
   refine aC (hJ _ _ ⟨_,_,_,⟨rfl,rfl⟩,bS hbel [2,3] aD⟩)
  ·refine ak G1 ?_
   refine cd (dD _ h m) ?_
   refine ak G1 ?_
   refine cd (dI _ W _ _ xs x y h m _ (zA2 hb0pp hbpp) hip (by omega)) ?_
   refine ak G1 ?_
   refine aC (hJ _ _ ⟨_,_,_,⟨rfl,rfl⟩,bS hbel [2,3] aD⟩)
  ·refine ak G1 ?_
   refine cd (dD _ h m) ?_
   refine ak G1 ?_
   refine cd (dI _ W _ _ xs x y h m _ (zA2 hb0pp hbpp) hip (by omega)) ?_
   refine ak G1 ?_
   refine aC (hJ _ _ ⟨_,_,_,⟨rfl,rfl⟩,bS hbel [2,3] aD⟩)
  refine ak G1 ?_
  refine cd (dD _ h m) ?_
  refine ak G1 ?_
  refine cd (dI _ W _ _ xs x y h m _ (zA2 hb0pp hbpp) hip (by omega)) ?_
  refine ak G1 ?_
  refine aC (hJ _ _ ⟨_,_,_,⟨rfl,rfl⟩,bS hbel [2,4] aD⟩)
 rintro F2 H2 ⟨rfl,rfl⟩
 refine fnT ?_
 exact eR G1 hQ hbel (.tup [.agg [iV (lkN W Hh xs x y h m most),iV (lkD W Hh xs x y h m most)],.bool ((lkS W Hh xs x y h m most).isSome)]) results134 ⟨rfl,rfl⟩
theorem meas_c (H:aa)(W Hh:Int)(pp:AV)(xs:List Int)(x y h m g e:Int)(hpp:zI H pp xs)(hG:stdB W Hh xs x y h=true)(hg:1<=g/\g<=32):zC 89 [.agg [iV W,iV Hh,pp],.agg [iV x,iV y,iV h],iV m,iV g,iV e] H (.tup [iV (mpV W Hh xs x y h g m e),iV (dH m)]) H:=by
 obtain⟨bpp,opp,cpp,rfl,hbpp,hblpp,hb0pp⟩:=zA1 hpp
 have hgb:btw g 1 32=true:=aS.2 hg
 have hip:inpB W Hh xs x y=true:=by have q:=hG;unfold stdB at q;rw[Bool.and_eq_true] at q;exact q.1
 have hxy:=(fa.1 hip).2
 have hVV:=bh.1 (fa.1 hip).1
 have hw1:=hVV.w1
 have hh1:=hVV.h1
 have hcl:=clpE_bd (e:=e) hg.1
 have htd:∀a b:Int,0<=a->Int.tdiv a b=a/b:=fun a b h=>Int.tdiv_eq_ediv_of_nonneg h
 have ec1:(if e<1-g then 1-g else e)=clp1 e g:=rfl
 have ec2:(if g<clp1 e g then g else clp1 e g)=clpE e g:=rfl
 have ez:(if (lkN W Hh xs x y h m 1024)/(lkD W Hh xs x y h m 1024)+clpE e g<0 then 0 else (lkN W Hh xs x y h m 1024)/(lkD W Hh xs x y h m 1024)+clpE e g)=zpI W Hh xs x y h g m e:=rfl
 refine AcT true func89 ?_;intro hbel Q hQ
 have G2:=jn @hbpp (jn @hb0pp (jn @hG (jn @hgb (jn @htd (jn @ec1 (jn @ec2 @ez))))))
 refine ae G2 ?_
 refine cvr G2 (rpst_c _ W _ _ xs x y h (zA2 hb0pp hbpp)) ?_
 refine cvr G2 (lC _ g 1 _) ?_
 refine cv (lC _ m 0 _) ?_
 refine rcs G2 (fun h1 h1d G3=>?_) (fun h1 h1d G4=>?_)
 ·have hfinM:cV m=false:=h1d
  exact eR G3 hQ hbel (.tup [iV 0,iV 2]) results89 ⟨by first|(unfold mpV dH;rw[hfinM,hfinZ];rfl)|(unfold mpV dH;rw[hfinM];rfl),rfl⟩
 have hfinM:cV m=true:=by have q:=aS.1 h1d;unfold cV;rw[decide_eq_true q.1,decide_eq_true q.2];rfl
 refine ae G4 ?_
 refine cv (look_c _ W _ _ xs x y h m _ (zA2 hb0pp hbpp) hip (by omega)) ?_
 refine rcs G4 (fun h2 h2d G5=>?_) (fun h2 h2d G6=>?_)
 ·have hfinZ:mpZ W Hh xs x y h g m e = -1:=by unfold mpZ;rw[h2d];rfl
  exact eR G5 hQ hbel (.tup [iV (-1),iV 0]) results89 ⟨by first|(unfold mpV dH;rw[hfinM,hfinZ];rfl)|(unfold mpV dH;rw[hfinM];rfl),rfl⟩
 obtain⟨bb,hbb⟩:=Option.isSome_iff_exists.1 h2d
 have hbd0:=lk_bd (by omega) (by omega) (by omega) hbb
 have hdn:=Int.ediv_nonneg hbd0.1.1 (show 0<=lkD W Hh xs x y h m 1024 by omega)
 have hdl:lkN W Hh xs x y h m 1024/lkD W Hh xs x y h m 1024<=lkN W Hh xs x y h m 1024:=Int.ediv_le_self _ hbd0.1.1
 have hfinS:=h2d
 refine rcs G6 (fun h3 h3d G7=>?_) (fun h3 h3d G8=>?_)
 ·have hz1:1024<zpI W Hh xs x y h g m e:=h3d
  have hfinZ:mpZ W Hh xs x y h g m e = -1:=by unfold mpZ;rw[if_pos hfinS,if_pos hz1]
  exact eR G7 hQ hbel (.tup [iV (-1),iV 0]) results89 ⟨by first|(unfold mpV dH;rw[hfinM,hfinZ];rfl)|(unfold mpV dH;rw[hfinM];rfl),rfl⟩
 have hz1:¬1024<zpI W Hh xs x y h g m e:=by first|exact h3d|exact Int.not_lt.2 h3d
 have hfinZ:mpZ W Hh xs x y h g m e=zpI W Hh xs x y h g m e:=by unfold mpZ;rw[if_pos hfinS,if_neg hz1]
 exact eR G8 hQ hbel (.tup [iV (zpI W Hh xs x y h g m e),iV 0]) results89 ⟨by first|(unfold mpV dH;rw[hfinM,hfinZ];rfl)|(unfold mpV dH;rw[hfinM];rfl),rfl⟩
theorem raysw_c (H:aa)(W Hh:Int)(pp:AV)(xs:List Int)(x y h:Int)(mk:AV)(mks:List Int)(g:Int)(er:AV)(ers:List Int)(hpp:zI H pp xs)(hmk:Sl H 1 mk mks.length (ints .i64 mks))(her:Sl H 1 er ers.length (ints .i64 ers))(hG:stdB W Hh xs x y h=true)(hg:1<=g/\g<=32)(hle:ers.length<=9223372036854775807):zC 47 [.agg [iV W,iV Hh,pp],.agg [iV x,iV y,iV h],mk,iV g,er] H (.tup [.sl (some (H.length,0)) ((spL W Hh xs x y h g mks ers).length) (aT (spL W Hh xs x y h g mks ers).length),iV (gg mks)]) (H++[.cells (aL (spL W Hh xs x y h g mks ers).length) 2 (prs (spL W Hh xs x y h g mks ers))]):=by
 obtain⟨bpp,opp,cpp,rfl,hbpp,hblpp,hb0pp⟩:=zA1 hpp
 obtain⟨bmk,omk,cmk,rfl,hbmk,hblmk,hb0mk⟩:=zA1 hmk
 obtain⟨ber,oer,cer,rfl,hber,hbler,hb0er⟩:=zA1 her
 refine AcT false func47 ?_;intro hbel Q hQ
 have G9:=jn @hbpp (jn @hb0pp (jn @hbmk (jn @hb0mk (jn @hber @hb0er))))
 refine rcs G9 (fun h1 h1d G10=>?_) (fun h1 h1d G11=>?_)
 ·have hfinE:=swpE_6 (show 32<mks.length by omega)
  have hfinL:=spL_n (W:=W) (Hh:=Hh) (xs:=xs) (x:=x) (y:=y) (h:=h) (g:=g) (ers:=ers) (show ¬gg mks=0 by rw[hfinE];decide)
  refine ae G10 ?_
  refine hQ _ _ (aW (.inl rfl) hbel (x1:=.tup [.sl none 0 (some 0),iV 6]) (l2:=[.cells false 2 []]) (.tup [.sl (some (H.length,0)) 0 (some 0),iV 6]) (aZ results47) [.cells false 2 []] rfl [2] (by decide) ⟨by first|(rw[hfinE,hfinL];done)|(rw[hfinE,hfinL];rfl)|(rw[hfinE,hfinL,hfinM];rfl),by first|(rw[hfinL];done)|(rw[hfinL];rfl)⟩ ?_)
  exact aD
 have hl32:¬32<mks.length:=by omega
 refine ae G11 ?_
 refine glp (fun k F Hx=>∃i:Nat,i+k=mks.length/\(∀j:Nat,j<i->cV (gi mks j)=true)/\F=[(3,iV g),(4,.sl (some (ber,0)) ers.length cer),(5,.ptr (some (H.length,0))),(6,.ptr (some (H.length+1,0))),(12,.sl (some (H.length+2,0)) ((spB W Hh xs x y h g mks ers i).length) (aT (spB W Hh xs x y h g mks ers i).length)),(21,.sl (some (bmk,0)) mks.length cmk),(22,iV (mks.length:Int)),(23,iV (i:Int))]/\Hx=H++[.cells true 0 [iV W,iV Hh,.sl (some (bpp,0)) xs.length cpp],.cells true 0 [iV x,iV y,iV h],.cells (aL (spB W Hh xs x y h g mks ers i).length) 2 (prs (spB W Hh xs x y h g mks ers i))]) (mks.length) ?_ ?_
 ·refine⟨_,_,_,⟨0,by omega,(fun j h=>by omega),rfl,rfl⟩,Abs.byG hbel [.cells false 2 []] rfl [0,1,2] (by decide) ?_⟩
  exact az @spB.eq_1
 rintro k0 F Hx ⟨i,hm0,hal,rfl,rfl⟩ J0 hJ0
 have G12:=jn @bm (jn @cJ G11)
 refine rcs G12 (fun h2 h2d _=>?_) (fun h2 h2d G20=>?_)
 ·have hlt:i<mks.length:=by omega
  have hbl:=l9 (W:=W) (Hh:=Hh) (xs:=xs) (x:=x) (y:=y) (h:=h) (g:=g) (mks:=mks) (ers:=ers) i
  have q3:=cS (k:=.i64) (xs:=mks) (j:=i) (by omega)
  have G13:=jn h2 (jn h2d (jn q3 G12))
  refine rcs G13 (fun h4 h4d _=>?_) (fun h4 h4d G17=>?_)
  ·have hsg:gi ers i=gi ers i:=rfl
   have q5:=cS (k:=.i64) (xs:=ers) (j:=i) (by omega)
   have G14:=jn h4 (jn h4d (jn q5 G13))
   refine ae G14 ?_
   refine cv (meas_c _ W _ _ xs x y h _ g _ (zA2 hb0pp hbpp) hG hg) ?_
   refine rcs G14 (fun h6 h6d _=>?_) (fun h6 h6d _=>?_)
   ·have h6n:=bnT h6
    have hmf:cV (gi mks i)=false:=by
     cases q:cV (gi mks i)
     ·rfl
     exact absurd (show dH (gi mks i)=0 by unfold dH;rw[q];rfl) (by first|exact h6d|simpa using h6d)
    have hfinE:=swpE_2 hl32 hlt hmf
    have hfinM:dH (gi mks i)=2:=by unfold dH;rw[hmf];rfl
    have hfinL:=spL_n (W:=W) (Hh:=Hh) (xs:=xs) (x:=x) (y:=y) (h:=h) (g:=g) (ers:=ers) (show ¬gg mks=0 by rw[hfinE];decide)
    have G15:=jn h6 (jn h6n (jn @aP (jn @aO G14)))
    refine ae G15 ?_
    refine hQ _ _ (aW (.inl rfl) hbel (x1:=.tup [.sl none 0 (some 0),iV (dH (gi mks i))]) (l2:=[.cells false 2 []]) (.tup [.sl (some (H.length,0)) 0 (some 0),iV (dH (gi mks i))]) (aZ results47) [.cells false 2 []] rfl [3] (by decide) ⟨by first|(rw[hfinE,hfinL];done)|(rw[hfinE,hfinL];rfl)|(rw[hfinE,hfinL,hfinM];rfl),by first|(rw[hfinL];done)|(rw[hfinL];rfl)⟩ ?_)
    exact aD
   have h6n:=bnT h6
   have hmt:cV (gi mks i)=true:=by
    cases q:cV (gi mks i)
    ·exact absurd (show ¬dH (gi mks i)=0 by unfold dH;rw[q];decide) (not_not_intro (by first|exact h6d|simpa using h6d))
    rfl
   have hmv:∀e:Int,mpV W Hh xs x y h g (gi mks i) e=mpZ W Hh xs x y h g (gi mks i) e:=fun e=>if_pos hmt
   have hst:spB W Hh xs x y h g mks ers (i+1)=spB W Hh xs x y h g mks ers i++[(gi mks i,mpZ W Hh xs x y h g (gi mks i) (gi ers i))]:=rfl
   have G16:=jn h6 (jn h6n (jn @aP (jn @aO (jn @du G14))))
   refine ae G16 ?_
   refine hJ0 _ _ ⟨k0-1,by omega,_,_,_,⟨i+1,by omega,fun j hj=>by
         rcases Nat.lt_or_ge j i with h|h
         ·exact hal j h
         rw[show j=i by omega];exact hmt,rfl,rfl⟩,bS hbel [0,1,4] (az (jn @hst (jn @hsg @hmv)))⟩
  have hsg:gi ers i=0:=gi_out (by omega)
  refine ae G17 ?_
  refine cv (meas_c _ W _ _ xs x y h _ g 0 (zA2 hb0pp hbpp) hG hg) ?_
  refine rcs G17 (fun h7 h7d _=>?_) (fun h7 h7d _=>?_)
  ·have h7n:=bnT h7
   have hmf:cV (gi mks i)=false:=by
    cases q:cV (gi mks i)
    ·rfl
    exact absurd (show dH (gi mks i)=0 by unfold dH;rw[q];rfl) (by first|exact h7d|simpa using h7d)
   have hfinE:=swpE_2 hl32 hlt hmf
   have hfinM:dH (gi mks i)=2:=by unfold dH;rw[hmf];rfl
   have hfinL:=spL_n (W:=W) (Hh:=Hh) (xs:=xs) (x:=x) (y:=y) (h:=h) (g:=g) (ers:=ers) (show ¬gg mks=0 by rw[hfinE];decide)
   have G18:=jn h7 (jn h7n (jn @aP (jn @aO G17)))
   refine ae G18 ?_
   refine hQ _ _ (aW (.inl rfl) hbel (x1:=.tup [.sl none 0 (some 0),iV (dH (gi mks i))]) (l2:=[.cells false 2 []]) (.tup [.sl (some (H.length,0)) 0 (some 0),iV (dH (gi mks i))]) (aZ results47) [.cells false 2 []] rfl [3] (by decide) ⟨by first|(rw[hfinE,hfinL];done)|(rw[hfinE,hfinL];rfl)|(rw[hfinE,hfinL,hfinM];rfl),by first|(rw[hfinL];done)|(rw[hfinL];rfl)⟩ ?_)
   exact aD
  have h7n:=bnT h7
  have hmt:cV (gi mks i)=true:=by
   cases q:cV (gi mks i)
   ·exact absurd (show ¬dH (gi mks i)=0 by unfold dH;rw[q];decide) (not_not_intro (by first|exact h7d|simpa using h7d))
   rfl
  have hmv:∀e:Int,mpV W Hh xs x y h g (gi mks i) e=mpZ W Hh xs x y h g (gi mks i) e:=fun e=>if_pos hmt
  have hst:spB W Hh xs x y h g mks ers (i+1)=spB W Hh xs x y h g mks ers i++[(gi mks i,mpZ W Hh xs x y h g (gi mks i) (gi ers i))]:=rfl
  have G19:=jn h7 (jn h7n (jn @aP (jn @aO (jn @du G17))))
  refine ae G19 ?_
  refine hJ0 _ _ ⟨k0-1,by omega,_,_,_,⟨i+1,by omega,fun j hj=>by
        rcases Nat.lt_or_ge j i with h|h
        ·exact hal j h
        rw[show j=i by omega];exact hmt,rfl,rfl⟩,bS hbel [0,1,4] (az (jn @hst (jn @hsg @hmv)))⟩
 obtain rfl:i=mks.length:=by omega
 have hfinE:=swpE_0 hl32 hal
 have hfinL:=spL_y (W:=W) (Hh:=Hh) (xs:=xs) (x:=x) (y:=y) (h:=h) (g:=g) (ers:=ers) hfinE
 refine ae G20 ?_
 refine hQ _ _ (aW (.inl rfl) hbel (x1:=.tup [.sl (some (H.length+2,0)) ((spB W Hh xs x y h g mks ers mks.length).length) (aT (spB W Hh xs x y h g mks ers mks.length).length),iV 0]) (l2:=[.cells (aL (spB W Hh xs x y h g mks ers mks.length).length) 2 (prs (spB W Hh xs x y h g mks ers mks.length))]) (.tup [.sl (some (H.length,0)) ((spB W Hh xs x y h g mks ers mks.length).length) (aT (spB W Hh xs x y h g mks ers mks.length).length),iV 0]) (aZ results47) [] rfl [2] (by decide) ⟨by first|(rw[hfinE,hfinL];done)|(rw[hfinE,hfinL];rfl)|(rw[hfinE,hfinL,hfinM];rfl),by first|(rw[hfinL];done)|(rw[hfinL];rfl)⟩ ?_)
 exact aD
theorem learnT_c (H:aa)(W Hh:Int)(pp:AV)(xs:List Int)(s:AV)(l:List T6)(q:AV)(sc:List (Int×Int))(g:Int)(o:List Int)(hpp:zI H pp xs)(hs:Sl H 6 s l.length (r6 l))(hq:SlP H q sc)(hR:eo W Hh xs l sc g=true)(ho:lnO W Hh xs l sc g=some o):
  zC 37 [.agg [iV W,iV Hh,pp],s,q,iV g] H (.tup [.agg [iV W,iV Hh,.sl (some (H.length,0)) o.length none],iV 0]) (H++[.cells (aL o.length) 1 (ints .u8 o)]):=by
 obtain⟨hV,hl0,hS,hsB,hg⟩:=gT.1 hR
 have k:=learn_c H W Hh pp xs s l q sc g hpp hs hq (by have:=jj hS;omega) (by have:=(dF.1 hsB).1;omega)
 obtain⟨e1,e2,e3,e4⟩:=ln_0 hR ho
 rw[e1,e2,e3,e4] at k
 exact k
theorem rj (H:aa)(W Hh:Int)(pp:AV)(xs:List Int)(s:AV)(l:List T6)(q:AV)(sc:List (Int×Int))(g:Int)(o:List Int)(hpp:zI H pp xs)(hs:Sl H 6 s l.length (r6 l))(hq:SlP H q sc)(hR:eo W Hh xs l sc g=true)(ho:lnO W Hh xs l sc g=some o)(h0:0<o.length):
  zC 37 [.agg [iV W,iV Hh,pp],s,q,iV g] H (.tup [.agg [iV W,iV Hh,.sl (some (H.length,0)) o.length none],iV 0]) (H++[.cells true 1 (ints .u8 o)]):=by
 have k:=learnT_c H W Hh pp xs s l q sc g o hpp hs hq hR ho
 rw[ex h0] at k
 exact k
theorem lse_e (H:aa)(W Hh:Int)(pp:AV)(xs:List Int)(s:AV)(l:List T6)(tu le sl ra:Int)(bz:Nat)(q:AV)(sc:List (Int×Int))(hpp:zI H pp xs)(hs:Sl H 6 s l.length (r6 l))(hz:H[bz]? = some (.cells true 0 [iV W,iV Hh,pp,s,iV tu,iV le,iV sl,iV ra,.bool false]))(hq:SlP H q sc)(hV:bC W Hh xs=true)(hS:bM l=true)(hl0:0<l.length)(hsB:c7 sc=true)(hg:1<=ra/\ra<=32)(hRn:(bL W Hh xs l sc ra 32).length=0):zC 13 [.ptr (some (bz,0)),q] H (iV 12) (H.set bz (.cells true 0 [iV W,iV Hh,pp,s,iV tu,iV le,iV sl,iV ra,.bool true])):=by
 obtain⟨bpp,opp,cpp,rfl,hbpp,hblpp,hb0pp⟩:=zA1 hpp
 obtain⟨bs,os,cs,rfl,hbs,hbls,hb0s⟩:=zA1 hs
 obtain⟨bq,oq,cq,rfl,hbq,hblq,hb0q⟩:=zA1 hq
 have hbz:=hz
 have hblz:=getElem?_lt hbz
 have hb0z:=fun l=>ai (l:=l) hbz
 have hVV:=bh.1 hV
 have hSS:=bF.1 hS
 have hss:=dF.1 hsB
 have hsc9:=hss.1
 have hx6:xs.length<=1000000:=by have h4:=hVV.len;have:=Int.mul_le_mul hVV.w1 hVV.h1 (by have:=hVV.h0;omega) (by decide);omega
 have hok:(∀b∈bL W Hh xs l sc ra 32,bj b=true)/\(bL W Hh xs l sc ra 32).length<=l.length+32+([]:List T6).length:=jl (xs:=xs) (s:=sc) (g:=ra) ⟨hVV.w0,hVV.w1⟩ ⟨hVV.h0,hVV.h1⟩ (l.length+2*32) l 32 [] rfl hSS.2 (fun b hb=>by cases hb)
 have hR6:(bL W Hh xs l sc ra 32).length<=64:=by have h1:=hok.2;simp only[List.length_nil] at h1;have h2:=hSS.1;omega
 have hRv:=hok.1
 (refine bI func13 _ rfl (Nat.le_of_ble_eq_true (by kernel_rfl)) rfl ?_;intro hbel Q hQ hQ' c hc;unfold Tryz.f13 at hc;simp only[Option.some.injEq] at hc;subst hc;clear hQ')
 refine zQF hQ fun Q5 hn5 hQ5 he5=>?_
 have G3:=jn @hbpp (jn @hb0pp (jn @hbs (jn @hb0s (jn @hbq (jn @hb0q (jn @hbz (jn @hb0z (jn @hsB @Option.isNone_some.{0}))))))))
 refine ae G3 ?_
 refine hn5 _ _ (zQF hQ fun Q6 hn6 hQ6 he6=>?_)
 refine ae G3 ?_
 refine cvr G3 (ri _ _ sc (zA2 hb0q hbq) (by omega)) ?_
 refine hn6 _ _ (zQF hQ fun Q7 hn7 hQ7 he7=>?_)
 refine ae G3 ?_
 refine cx (rh _ W _ _ xs _ l _ sc _ 32 (zA2 hb0pp hbpp) (zA2 hb0s hbs) (zA2 hb0q hbq) (by assumption) (by assumption) (by assumption) (by assumption) (by assumption) (by omega)) ?_
 refine ae G3 ?_
 refine hn7 _ _ (zQF hQ fun Q8 hn8 hQ8 he8=>?_)
 refine rcs G3 (fun h1 h1d _=>?_) (fun h1 h1d _=>?_)
 ·have h1n:=bnT h1
  have G4:=jn h1 (jn h1n (jn @aP (jn @aO (jn @hblz (jn @gn (jn @gZ (jn @iZ (jn @g4 (jn @gB (jn @io (jn @jm (jn @jZ (jn @List.length_set.{0} (jn @List.set_set.{0} G3))))))))))))))
  refine ae G4 ?_
  refine hQ8 _ _ (j0 (b1:=.cells true 0 [iV W,iV Hh,.sl (some (bpp,0)) xs.length cpp,.sl (some (bs,0)) l.length cs,iV tu,iV le,iV sl,iV ra,.bool true]) (.cells true 0 [iV W,iV Hh,.sl (some (bpp,0)) xs.length cpp,.sl (some (bs,0)) l.length cs,iV tu,iV le,iV sl,iV ra,.bool true]) (l1:=[.cells (aL (bL W Hh xs l sc ra 32).length) 6 (r6 (bL W Hh xs l sc ra 32))]) (l2:=[]) (.inl rfl) hbel hblz (by rfl) (x1:=iV 12) (iV 12) (aZ results13) [] rfl [] (by decide) ⟨rfl,List.append_nil _⟩ ?_)
  exact aN (jn @hblpp (jn @hbls (jn @hblz @hblq)))
 have h1n:=bnT h1
 simp[hRn] at h1d
theorem lrnF_v {W H:Int}:∀{l:List (Int×Int)}{o q:List Int},gW W H l o=some q->(∀v∈o,v<=2)->q.length=o.length/\∀v∈q,v<=2
 |[],o,q,h,ho=>by unfold gW at h;cases h;exact⟨rfl,ho⟩
 | c::l,o,q,h,ho=>by
  unfold gW at h
  split at h
  ·cases h
  have ih:=lrnF_v h (fun v hv=>(List.mem_or_eq_of_mem_set hv).elim (ho v) (fun e=>by omega))
  exact⟨by rw[ih.1,List.length_set],ih.2⟩
theorem nS {W H:Int}:∀{l:List (List (Int×Int))}{o q:List Int},fo W H l o=some q->(∀v∈o,v<=2)->q.length=o.length/\∀v∈q,v<=2
 |[],o,q,h,ho=>by unfold fo at h;cases h;exact⟨rfl,ho⟩
 | s :: l,o,q,h,ho=>by
  unfold fo at h
  split at h
  ·cases h
  ·rename_i c hc
   split at h
   ·have ih:=nS h (fun v hv=>(List.mem_or_eq_of_mem_set hv).elim (ho v) (fun e=>by omega))
    exact⟨by rw[ih.1,List.length_set],ih.2⟩
   exact nS h ho
  exact nS h ho
theorem ln_v {W Hh:Int}{xs o:List Int}{l:List T6}{sc:List (Int×Int)}{g:Int}(hV:bC W Hh xs=true)(h:lnO W Hh xs l sc g=some o):bC W Hh o=true/\o.length=xs.length:=by
 obtain⟨a,b,c,d,e,f⟩:=bh.1 hV
 have key:o.length=xs.length/\∀v∈o,v<=2:=by
  unfold lnO at h
  split at h
  ·cases hq:gW W Hh (aR W Hh l sc g) xs with
   |none=>rw[hq] at h;cases h
   | some q =>
    rw[hq] at h
    have h':fo W Hh (iz l sc g) q=some o:=h
    have k1:=lrnF_v hq f
    have k2:=nS h' k1.2
    exact⟨by rw[k2.1,k1.1],k2.2⟩
  cases h;exact⟨rfl,f⟩
 exact⟨bh.2 ⟨a,b,c,d,by rw[key.1];exact e,key.2⟩,key.1⟩
theorem lost_step {W Hh:Int}{ks xs:List Int}{s:List (Int×Int)}{Q:List T6}{x y h g:Int}(hV:bC W Hh xs=true)(hB:∀z∈xs,1<=z/\z<=2)(hk:dZ ks xs)(hx:0<=x/\x<=64*W)(hy:0<=y/\y<=64*Hh)(hh:0<=h/\h<=255)(hg:1<=g/\g<=32)(hs:c7 s=true)(hP:∀e∈s,gA W Hh xs x y h g e)(hS:bM Q=true)(hc:∃b∈Q,InP b x y h):
  0<(bL W Hh ks Q s g 32).length/\(∃b∈cpL (bL W Hh ks Q s g 32),InP b x y h)/\∃o,lnO W Hh ks (cpL (bL W Hh ks Q s g 32)) s g=some o/\dZ o xs:=by
 have hv:=bh.1 hV
 have hss:=dF.1 hs
 have hSS:=bF.1 hS
 have ok:=jl (xs:=ks) (s:=s) (g:=g) ⟨hv.w0,hv.w1⟩ ⟨hv.h0,hv.h1⟩ (Q.length+2*32) Q 32 [] rfl hSS.2 (fun b hb=>by cases hb)
 have kp:=kK (s:=s) ⟨hv.w0,hv.w1⟩ ⟨hv.h0,hv.h1⟩ hk hx hy hh hg hss.2 hP (Q.length+2*32) Q 32 [] rfl hSS.2 (.inl hc)
 have hR:(∀b∈bL W Hh ks Q s g 32,bj b=true)/\(bL W Hh ks Q s g 32).length<=Q.length+32+([]:List T6).length:=ok
 have hK:∃b∈bL W Hh ks Q s g 32,InP b x y h:=kp
 generalize bL W Hh ks Q s g 32=R at *
 have hR0:0<R.length:=by obtain⟨b,hb,-⟩:=hK;exact List.length_pos_of_mem hb
 have hcp:=cpL_ok hR0 hR.1
 have hci:=cpL_in hh hR0 hR.1 hK
 have cv:=in_cov hh (bF.1 hcp.1).2 hci
 have hVk:=bel_vld hk hV
 have hRg:eo W Hh ks (cpL R) s g=true:=gT.2 ⟨hVk,hcp.2,hcp.1,hs,hg⟩
 obtain⟨o,ho,hbo⟩:=rL hRg hk hV (fun i hi=>by rw[fq hi];exact hB _ (List.getElem_mem hi)) cv.2 hP
 exact⟨hR0,hci,o,ho,hbo⟩
structure Ev where
 k:Int
 t:Int
 g:Int
 st:Bool
 s:AV
 sc:List (Int×Int)
 x:Int
 y:Int
 h:Int
def evC (e:Ev):List AV:=[.int .i64 e.k,.int .i64 e.t,.int .i64 e.g,.bool e.st,e.s,.int .i64 e.x,.int .i64 e.y,.int .i64 e.h]
def evR (l:List Ev):List AV:=l.flatMap evC
def evG (l:List Ev) (j:Nat):Ev:=l.getD j ⟨0,0,0,false,.any,[],0,0,0⟩
def evOk (H:aa) (l:List Ev):Prop:=∀e∈l,Sl H 2 e.s e.sc.length (prs e.sc)/\e.sc.length<=maxLen
theorem evR_cons {p:Ev}{l:List Ev}:evR (p::l)=evC p++evR l:=rfl
theorem jo:∀(a b:List AV) (n:Nat),(a++b).drop (a.length+n)=b.drop n
 |[],b,n=>by simp
 |x::a,b,n=>by rw[List.length_cons,show a.length+1+n=(a.length+n)+1 by omega];exact jo a b n
theorem evG_mem {l:List Ev}{j:Nat}(h:j<l.length):evG l j∈l:=by
 unfold evG
 rw[List.getD_eq_getElem?_getD,List.getElem?_eq_getElem h]
 exact List.getElem_mem h
theorem evOk.at {H:aa}{l:List Ev}{j:Nat}(k:evOk H l)(h:j<l.length):∃b o c,(evG l j).s=.sl (some (b,0)) (evG l j).sc.length c/\H[b]? = some (.cells o 2 (prs (evG l j).sc)):=by
 obtain⟨b,o,c,e1,e2⟩:=(k _ (evG_mem h)).1
 exact⟨b,o,c,e1,e2⟩
theorem evOk.len {H:aa}{l:List Ev}{j:Nat}(k:evOk H l)(h:j<l.length):(evG l j).sc.length<=9223372036854775807:=by
 have q:=(k _ (evG_mem h)).2
 unfold maxLen at q;exact q
theorem rows_ev {P:Program}{H:aa}{n:Nat}{ti tb ts te u v:TypeId}(hi:P.underlying ti=some (.int .i64))(hb:P.underlying tb=some .bool)(hs:P.underlying ts=some (.slice te))(hu:P.underlying u=some (.int .i64))(hv:P.underlying v=some (.int .i64))(hl:bH P (n+1) te=some [u,v]):∀rows:List (List AV),(∀r:List AV,r∈rows->RTy P H (n+2) [ti,ti,ti,tb,ts,ti,ti,ti] r)->∃l:List Ev,l.length=rows.length/\rows.flatten=evR l/\evOk H l
 |[],_=>⟨[],rfl,rfl,fun e h=>by cases h⟩
 | r::rows,h=>by
  obtain⟨l,q1,q2,q3⟩:=rows_ev hi hb hs hu hv hl rows fun r' hr=>h r' (by simp[hr])
  have hr:=h r (by simp)
  obtain⟨y1,r',rfl,hy1,hr⟩:=hr.cons
  obtain⟨y2,r',rfl,hy2,hr⟩:=hr.cons
  obtain⟨y3,r',rfl,hy3,hr⟩:=hr.cons
  obtain⟨y4,r',rfl,hy4,hr⟩:=hr.cons
  obtain⟨y5,r',rfl,hy5,hr⟩:=hr.cons
  obtain⟨y6,r',rfl,hy6,hr⟩:=hr.cons
  obtain⟨y7,r',rfl,hy7,hr⟩:=hr.cons
  obtain⟨y8,r',rfl,hy8,hr⟩:=hr.cons
  obtain rfl:=hr.nil
  obtain⟨z1,rfl,-⟩:=hy1.int hi
  obtain⟨z2,rfl,-⟩:=hy2.int hi
  obtain⟨z3,rfl,-⟩:=hy3.int hi
  obtain⟨z4,rfl⟩:=hy4.bool hb
  obtain⟨sc,k1,k2,-⟩:=hy5.pairsU hs hu hv hl
  obtain⟨z6,rfl,-⟩:=hy6.int hi
  obtain⟨z7,rfl,-⟩:=hy7.int hi
  obtain⟨z8,rfl,-⟩:=hy8.int hi
  refine⟨⟨z1,z2,z3,z4,y5,sc,z6,z7,z8⟩::l,by simp[q1],by rw[evR_cons,List.flatten_cons,q2];rfl,fun e he=>?_⟩
  rcases List.mem_cons.1 he with rfl|he
  ·exact⟨k1,k2⟩
  exact q3 e he
theorem LTy.evs {P:Program}{H:aa}{n:Nat}{t e ti tb ts te u v:TypeId}{x:AV}(ht:P.underlying t=some (.slice e))(hle:bH P (n+2) e=some [ti,ti,ti,tb,ts,ti,ti,ti])(hi:P.underlying ti=some (.int .i64))(hb:P.underlying tb=some .bool)(hs:P.underlying ts=some (.slice te))(hu:P.underlying u=some (.int .i64))(hv:P.underlying v=some (.int .i64))(hl:bH P (n+1) te=some [u,v])(h:LTy P H (n+3) t x):
  ∃l:List Ev,Sl H 8 x l.length (evR l)/\l.length<=maxLen/\evOk H l:=by
 obtain⟨b,rows,rfl,k1,k2,k3⟩:=h.slice ht hle
 obtain⟨l,q1,q2,q3⟩:=rows_ev hi hb hs hu hv hl rows k3
 exact⟨l,⟨b,false,none,by rw[q1],by rw[<-q2];exact k2⟩,by omega,q3⟩
def nrP (b:T6):Prop:=(-64<=b.1/\b.2.2.1<=4160) /\ -64<=b.2.1/\b.2.2.2.1<=4160
theorem nr_tB {W Hh:Int}{xs:List Int}{b:T6}{s:List (Int×Int)}{g:Int}(hW:W<=64)(hH:Hh<=64):nrP (tB W Hh xs b s g):=by
 have q1 : -64<=tX0 b:=by unfold tX0;split<;>omega
 have q2:tX1 W b<=4160:=by unfold tX1;split<;>omega
 have q3 : -64<=tY0 b:=by unfold tY0;split<;>omega
 have q4:tY1 Hh b<=4160:=by unfold tY1;split<;>omega
 exact⟨⟨q1,q2⟩,q3,q4⟩
theorem nT {W Hh:Int}{xs:List Int}{s:List (Int×Int)}{g:Int}(hW:W<=64)(hH:Hh<=64):∀(n:Nat) (Q:List T6) (k:Nat) (O:List T6),(∀b∈O,nrP b)->∀b∈rfn W Hh xs s g n Q k O,nrP b
 |0,Q,k,O,hO=>by unfold rfn;exact hO
 |n+1,[],k,O,hO=>by unfold rfn;exact hO
 | n + 1,b::Q,k,O,hO=>by
  unfold rfn
  split
  ·split
   ·exact nT hW hH n _ _ O hO
   exact nT hW hH n Q k _ fun c hc=>by
    rcases List.mem_append.1 hc with hc|hc
    ·exact hO c hc
    rw[List.mem_singleton.1 hc];exact nr_tB hW hH
  exact nT hW hH n Q k O hO
theorem nr_hul {a b:T6}(ha:nrP a)(hb:nrP b):nrP (el a b):=by
 unfold nrP el mnI mxI at *
 simp only
 split<;>split<;>split<;>split<;>omega
theorem nr_cpS {l:List T6}(h:2<=l.length)(hv:∀b∈l,nrP b):∀b∈cpS l,nrP b:=fun b hb=>by
 obtain⟨i,j,h1,h2,-,h4,-⟩:=oM h
 rcases h4 b hb with q|rfl
 ·exact hv b q
 exact nr_hul (hv _ (cD (by omega))) (hv _ (cD h2))
theorem nr_cpI:∀(n:Nat) (l:List T6),n+1<=l.length->(∀b∈l,nrP b)->∀b∈cpI n l,nrP b
 |0,l,_,hv=>hv
 |n+1,l,h,hv=>nr_cpI n (cpS l) (by have e:=ma (l:=l) (by omega);omega) (nr_cpS (by omega) hv)
theorem nr_cpL {l:List T6}(h0:0<l.length)(hv:∀b∈l,nrP b):∀b∈cpL l,nrP b:=nr_cpI _ l (by omega) hv
theorem nr_ref {W Hh:Int}{ks:List Int}{Q:List T6}{s:List (Int×Int)}{g:Int}(hW:W<=64)(hH:Hh<=64)(h0:0<(bL W Hh ks Q s g 32).length):∀b∈cpL (bL W Hh ks Q s g 32),nrP b:=nr_cpL h0 (nT hW hH _ _ _ [] (fun b hb=>by cases hb))
theorem nr_imA {l:List T6}{t f tu le sl:Int}(hv:∀b∈l,bj b=true)(hn:∀b∈l,nrP b)(hf:0<=f/\f<=32)(hl:0<=le/\le<=16)(hs:0<=sl/\sl<=8):imA l t f tu le sl=true:=List.all_eq_true.2 fun b hb=>by
 have r:=nO (L:=fT b.2.2.2.2.1 b.2.2.2.2.2 t tu) hf hl hs (fT b.2.2.2.2.1 b.2.2.2.2.2 t tu).length
 have e:imR b t f tu le sl=rcS f le sl (fT b.2.2.2.2.1 b.2.2.2.2.2 t tu) (fT b.2.2.2.2.1 b.2.2.2.2.2 t tu).length:=rfl
 rw[<-e] at r
 have hb6:=bB.1 (hv b hb)
 have hnb:=hn b hb
 unfold nrP at hnb
 have off:∀n:Int,-1048576<=n->n<=1048576->gR n=false:=fun n h1 h2=>by unfold gR;rw[decide_eq_false (by omega),decide_eq_false (by omega)];rfl
 unfold imO imB
 simp only[List.any_cons,List.any_nil]
 rw[off _ (by omega) (by omega),off _ (by omega) (by omega),off _ (by omega) (by omega),off _ (by omega) (by omega)]
 rfl
section
variable {W Hh:Int} {xs:List Int} {x y:Int} {n m:Nat}
end
def rhB (x y h:Int) (b:T6):Bool:=bxB b.1 b.2.1 b.2.2.1 b.2.2.2.1 b.2.2.2.2.1 b.2.2.2.2.2&&(decide (b.1<=x)&&(decide (x<=b.2.2.1)&&(decide (b.2.1<=y)&&(decide (y<=b.2.2.2.1)&&decide ((((((((h%256).toNat:Nat):Int)-b.2.2.2.2.1)%256).toNat:Nat):Int)<b.2.2.2.2.2)))))
def rcvB (l:List T6) (x y h:Int):Bool:=l.any (rhB x y h)
theorem rh_in {b:T6}{x y h:Int}(hb:bj b=true)(hh:0<=h/\h<=255)(k:InP b x y h):rhB x y h b=true:=by
 obtain⟨k1,k2,k3⟩:=k
 unfold dJ at k3
 unfold rhB
 rw[show bxB b.1 b.2.1 b.2.2.1 b.2.2.2.1 b.2.2.2.2.1 b.2.2.2.2.2=true from hb]
 simp only[Bool.and_eq_true,decide_eq_true_eq,Bool.true_and]
 refine⟨by omega,by omega,by omega,by omega,?_⟩
 rw[show ((((h%256).toNat:Nat)):Int)=h by omega]
 omega
theorem rcv_in {l:List T6}{x y h:Int}(hS:bM l=true)(hh:0<=h/\h<=255)(k:∃b∈l,InP b x y h):rcvB l x y h=true:=by
 obtain⟨b,hb,hi⟩:=k
 exact List.any_eq_true.2 ⟨b,hb,rh_in ((bF.1 hS).2 b hb) hh hi⟩
theorem lse_y (H:aa)(W Hh:Int)(pp:AV)(xs:List Int)(s:AV)(l:List T6)(tu le sl ra:Int)(bz:Nat)(q:AV)(sc:List (Int×Int))(hpp:zI H pp xs)(hs:Sl H 6 s l.length (r6 l))(hz:H[bz]? = some (.cells true 0 [iV W,iV Hh,pp,s,iV tu,iV le,iV sl,iV ra,.bool false]))(hq:SlP H q sc)(hV:bC W Hh xs=true)(hS:bM l=true)(hl0:0<l.length)(hsB:c7 sc=true)(hg:1<=ra/\ra<=32)(hR0:0<(bL W Hh xs l sc ra 32).length)(o:List Int)(ho:lnO W Hh xs (cpL (bL W Hh xs l sc ra 32)) sc ra=some o)(ho0:0<o.length):zC 13 [.ptr (some (bz,0)),q] H (iV 0) (H.set bz (.cells true 0 [iV W,iV Hh,.sl (some (H.length,0)) o.length none,.sl (some (H.length+1,0)) ((cpL (bL W Hh xs l sc ra 32)).length) none,iV tu,iV le,iV sl,iV ra,.bool false])++[.cells true 1 (ints .u8 o),.cells true 6 (r6 (cpL (bL W Hh xs l sc ra 32)))]):=by
 obtain⟨bpp,opp,cpp,rfl,hbpp,hblpp,hb0pp⟩:=zA1 hpp
 obtain⟨bs,os,cs,rfl,hbs,hbls,hb0s⟩:=zA1 hs
 obtain⟨bq,oq,cq,rfl,hbq,hblq,hb0q⟩:=zA1 hq
 have hbz:=hz
 have hblz:=getElem?_lt hbz
 have hb0z:=fun l=>ai (l:=l) hbz
 have hVV:=bh.1 hV
 have hSS:=bF.1 hS
 have hss:=dF.1 hsB
 have hsc9:=hss.1
 have hx6:xs.length<=1000000:=by have h4:=hVV.len;have:=Int.mul_le_mul hVV.w1 hVV.h1 (by have:=hVV.h0;omega) (by decide);omega
 have hok:(∀b∈bL W Hh xs l sc ra 32,bj b=true)/\(bL W Hh xs l sc ra 32).length<=l.length+32+([]:List T6).length:=jl (xs:=xs) (s:=sc) (g:=ra) ⟨hVV.w0,hVV.w1⟩ ⟨hVV.h0,hVV.h1⟩ (l.length+2*32) l 32 [] rfl hSS.2 (fun b hb=>by cases hb)
 have hR6:(bL W Hh xs l sc ra 32).length<=64:=by have h1:=hok.2;simp only[List.length_nil] at h1;have h2:=hSS.1;omega
 have hRv:=hok.1
 have hcp:=cpL_ok hR0 hRv
 have hcS:=hcp.1
 have hc0:=hcp.2
 have hc16:=(bF.1 hcS).1
 have hRg:eo W Hh xs (cpL (bL W Hh xs l sc ra 32)) sc ra=true:=gT.2 ⟨hV,hc0,hcS,hsB,hg⟩
 (refine bI func13 _ rfl (Nat.le_of_ble_eq_true (by kernel_rfl)) rfl ?_;intro hbel Q hQ hQ' c hc;unfold Tryz.f13 at hc;simp only[Option.some.injEq] at hc;subst hc;clear hQ')
 refine zQF hQ fun Q1 hn1 hQ1 he1=>?_
 have G1:=jn @hbpp (jn @hb0pp (jn @hbs (jn @hb0s (jn @hbq (jn @hb0q (jn @hbz (jn @hb0z (jn @hsB @Option.isNone_some.{0}))))))))
 refine ae G1 ?_
 refine hn1 _ _ (zQF hQ fun Q2 hn2 hQ2 he2=>?_)
 refine ae G1 ?_
 refine cvr G1 (ri _ _ sc (zA2 hb0q hbq) (by omega)) ?_
 refine hn2 _ _ (zQF hQ fun Q3 hn3 hQ3 he3=>?_)
 refine ae G1 ?_
 refine cx (rh _ W _ _ xs _ l _ sc _ 32 (zA2 hb0pp hbpp) (zA2 hb0s hbs) (zA2 hb0q hbq) (by assumption) (by assumption) (by assumption) (by assumption) (by assumption) (by omega)) ?_
 refine ae G1 ?_
 refine hn3 _ _ (zQF hQ fun Q4 hn4 hQ4 he4=>?_)
 refine rcs G1 (fun h1 h1d _=>?_) (fun h1 h1d _=>?_)
 ·have h1n:=bnT h1
  omega
 have h1n:=bnT h1
 have G2:=jn h1 (jn h1n (jn @aP (jn @aO G1)))
 refine ae G2 ?_
 refine hn4 _ _ (zQF hQ fun Q5 hn5 hQ5 he5=>?_)
 refine ae G2 ?_
 refine cvr G2 (comp_c _ _ (bL W Hh xs l sc ra 32) ⟨_,_,_,by rfl,by (rw[dp];rfl)⟩ (by omega) (by assumption) (by assumption)) ?_
 refine hn5 _ _ ?_
 refine bT false try_mixed [[0,1,2,3,4,5,6,7,8,9,10,11,12,13,14,15,16,17],[0,1,2,3,4,5,6,7,8,9,10,15,11,12,13,14,16,17]] (by kernel_rfl) (fun F2 H2=>F2=[(0,.ptr (some (bz,0))),(4,iV 0),(5,.sl (some (H.length,0)) ((cpL (bL W Hh xs l sc ra 32)).length) none),(7,.ptr (some (H.length+2,0))),(8,iV 0)]/\H2=H++[.cells true 6 (r6 (cpL (bL W Hh xs l sc ra 32))),.cells true 1 (ints .u8 o),.cells true 0 [iV W,iV Hh,.sl (some (H.length+1,0)) o.length none]]) ?_ ?_
 ·refine am ?_ (am ?_ (bP))<;>intro J hJ
  ·refine ak G2 ?_
   refine cx (rj _ W Hh _ xs _ (cpL (bL W Hh xs l sc ra 32)) _ sc ra o (zA2 hb0pp hbpp) ⟨_,_,_,by rfl,by (rw[bO];rfl)⟩ (zA2 hb0q hbq) (by assumption) (by assumption) (by assumption)) ?_
   refine ak G2 ?_
   refine aC (hJ _ _ ⟨_,_,_,⟨rfl,rfl⟩,bS hbel [1,2,3] (az (jn @br (jn @ba (jn @bQ @bE))))⟩)
  refine ak G2 ?_
  refine cx (rj _ W Hh _ xs _ (cpL (bL W Hh xs l sc ra 32)) _ sc ra o (zA2 hb0pp hbpp) ⟨_,_,_,by rfl,by (rw[bO];rfl)⟩ (zA2 hb0q hbq) (by assumption) (by assumption) (by assumption)) ?_
  refine ak G2 ?_
  refine aC (hJ _ _ ⟨_,_,_,⟨rfl,rfl⟩,bS hbel [1,3,2] (az (jn @br (jn @ba (jn @bQ @bE))))⟩)
 rintro F2 H2 ⟨rfl,rfl⟩
 refine zQF hQ fun Q6 hn6 hQ6 he6=>?_
 have G3:=jn @ce (jn @fe (jn @bZ (jn @cU G2)))
 refine ae G3 ?_
 refine hn6 _ _ ?_
 refine bT false try_mixed [[0,1,2,3,4,5,6,7,8,9],[0,1,2,4,5,6,3,7,8,9]] (by kernel_rfl) (fun F2 H2=>F2=[(4,iV 0)]/\H2=H.set bz (.cells true 0 [iV W,iV Hh,.sl (some (H.length+1,0)) o.length none,.sl (some (H.length,0)) ((cpL (bL W Hh xs l sc ra 32)).length) none,iV tu,iV le,iV sl,iV ra,.bool false])++[.cells true 6 (r6 (cpL (bL W Hh xs l sc ra 32))),.cells true 1 (ints .u8 o)]) ?_ ?_
 ·refine am ?_ (am ?_ (bP))<;>intro J hJ
  ·have G4:=jn @hblz (jn @gn (jn @gZ (jn @iZ (jn @g4 (jn @gB (jn @io (jn @jm (jn @jZ (jn @List.length_set.{0} (jn @List.set_set.{0} G3))))))))))
   refine ak G4 ?_
   refine aC (hJ _ _ ⟨_,_,_,⟨rfl,rfl⟩,Abs.byP (b1:=.cells true 0 [iV W,iV Hh,.sl (some (H.length+1,0)) o.length none,.sl (some (H.length,0)) ((cpL (bL W Hh xs l sc ra 32)).length) none,iV tu,iV le,iV sl,iV ra,.bool false]) (l1:=[.cells true 6 (r6 (cpL (bL W Hh xs l sc ra 32))),.cells true 1 (ints .u8 o),.cells true 0 [iV W,iV Hh,.sl (some (H.length+1,0)) o.length none]]) (.cells true 0 [iV W,iV Hh,.sl (some (H.length+1,0)) o.length none,.sl (some (H.length,0)) ((cpL (bL W Hh xs l sc ra 32)).length) none,iV tu,iV le,iV sl,iV ra,.bool false]) hbel hblz (by rfl) [] rfl [0,1] (by decide) ?_⟩)
   exact az (jn @hblpp (jn @hbls (jn @hblz (jn @hblq (jn @br (jn @ba (jn @bQ @bE)))))))
  have G5:=jn @hblz (jn @gn (jn @gZ (jn @iZ (jn @g4 (jn @gB (jn @io (jn @jm (jn @jZ (jn @List.length_set.{0} (jn @List.set_set.{0} G3))))))))))
  refine ak G5 ?_
  refine aC (hJ _ _ ⟨_,_,_,⟨rfl,rfl⟩,Abs.byP (b1:=.cells true 0 [iV W,iV Hh,.sl (some (H.length+1,0)) o.length none,.sl (some (H.length,0)) ((cpL (bL W Hh xs l sc ra 32)).length) none,iV tu,iV le,iV sl,iV ra,.bool false]) (l1:=[.cells true 6 (r6 (cpL (bL W Hh xs l sc ra 32))),.cells true 1 (ints .u8 o),.cells true 0 [iV W,iV Hh,.sl (some (H.length+1,0)) o.length none]]) (.cells true 0 [iV W,iV Hh,.sl (some (H.length+1,0)) o.length none,.sl (some (H.length,0)) ((cpL (bL W Hh xs l sc ra 32)).length) none,iV tu,iV le,iV sl,iV ra,.bool false]) hbel hblz (by rfl) [] rfl [0,1] (by decide) ?_⟩)
  exact az (jn @hblpp (jn @hbls (jn @hblz (jn @hblq (jn @br (jn @ba (jn @bQ @bE)))))))
 rintro F2 H2 ⟨rfl,rfl⟩
 refine fnF ?_
 have G6:=jn @hblz (jn @gn (jn @gZ (jn @iZ (jn @g4 (jn @gB (jn @io (jn @jm (jn @jZ (jn @List.length_set.{0} (jn @List.set_set.{0} G3))))))))))
 refine ae G6 ?_
 refine hQ _ _ (j0 (b1:=.cells true 0 [iV W,iV Hh,.sl (some (H.length+1,0)) o.length none,.sl (some (H.length,0)) ((cpL (bL W Hh xs l sc ra 32)).length) none,iV tu,iV le,iV sl,iV ra,.bool false]) (.cells true 0 [iV W,iV Hh,.sl (some (H.length,0)) o.length none,.sl (some (H.length+1,0)) ((cpL (bL W Hh xs l sc ra 32)).length) none,iV tu,iV le,iV sl,iV ra,.bool false]) (l1:=[.cells true 6 (r6 (cpL (bL W Hh xs l sc ra 32))),.cells true 1 (ints .u8 o)]) (l2:=[.cells true 1 (ints .u8 o),.cells true 6 (r6 (cpL (bL W Hh xs l sc ra 32)))]) (.inl rfl) hbel hblz (by rfl) (x1:=iV 0) (iV 0) (aZ results13) [] rfl [1,0] (by decide) ⟨rfl,rfl⟩ ?_)
 exact aN (jn @bE (jn @fz (jn @hblpp (jn @hbls (jn @hblz @hblq)))))
theorem IsI.parts {H:aa}{k:IntKind}{s:AV}{l:List Int}(h:IsI H k s l):∃a c,s=.sl a l.length c:=by
 rcases h with ⟨rfl,rfl⟩|⟨b,own,cap,rfl,hb⟩
 ·exact⟨_,_,rfl⟩
 exact⟨_,_,rfl⟩
def bys (xs:List Int):List UInt8:=xs.map fun n=>UInt8.ofNat n.toNat
theorem bys_map:∀xs:List Int,(ints .u8 xs).mapM lb=some (bys xs)
 |[]=>rfl
 | x::xs=>by
  have ih:=bys_map xs
  show (AV.int .u8 x::ints .u8 xs).mapM lb=_
  rw[List.mapM_cons,ih]
  rfl
theorem need_pos {p:Prop}[Decidable p](h:p):bu p=some ():=by unfold bu;rw[if_pos h]
theorem nU {H:aa}{s:AV}{xs:List Int}(hs:IsI H .u8 s xs):aG prog 22 9 s H=some (.str (bys xs)):=by
 have h1:=bys_map xs
 have key:∀a n c,aElems 1 (.sl a n c) H=some (n,ints .u8 xs)->aG prog 22 9 (.sl a n c) H=some (.str (bys xs)):=fun a n c he=>by
  unfold aG
  simp only[tElem22,Option.bind_some]
  rw[need_pos ⟨tInt5,by kernel_rfl⟩,Option.bind_some,he,Option.bind_some]
  simp only[h1,Option.map_some]
 rcases hs with ⟨rfl,rfl⟩|⟨b,own,cap,rfl,hb⟩
 ·exact key none 0 (some 0) rfl
 refine key _ _ _ ?_
 unfold aElems ards
 simp only[hb]
 rw[if_pos (by rw[bZ];omega),List.drop_zero,List.take_of_length_le (by rw[bZ];omega)]
 rfl
set_option maxRecDepth 100000 in
theorem bytes_s (H:aa)(xs:List Int)(s1 s2:AV)(h1:IsI H .u8 s1 xs)(h2:IsI H .u8 s2 xs):zC 19 [s1,s2] H (.bool true) H:=by
 have hc1:=nU h1
 have hc2:=nU h2
 obtain⟨a1,c1,rfl⟩:=h1.parts
 obtain⟨a2,c2,rfl⟩:=h2.parts
 refine AcT true func19 ?_;intro hbel Q hQ
 simp -implicitDefEqProofs (maxSteps:=2000000) (disch:=omega) only [hc1,hc2,simprocAttr,aJ,aK,Function.comp_apply,one1,lenV,aj,av,aA,aop,AV.ofValue,AV.ofCell,AV.cells,AV.flat,AV.one,arep,aU,ap]
 exact hQ _ _ (eO (.inl rfl) hbel (x:=.bool true) (jI results19 (by simp -implicitDefEqProofs (maxSteps:=2000000) (disch:=omega) only [simprocAttr,aJ,aK,Function.comp_apply,one1,lenV,aj,av,aA,aop,AV.ofValue,AV.ofCell,AV.cells,AV.flat,AV.one,arep,aU,ap,aG])) rfl ⟨rfl,rfl⟩)
theorem lnew_y (H:aa)(W Hh:Int)(pp:AV)(xs:List Int)(s:AV)(l:List T6)(tu le sl ra:Int)(hpp:zI H pp xs)(hs:Sl H 6 s l.length (r6 l))(hV:bC W Hh xs=true)(hL:lsB l=true)(hB:bX tu le sl ra=true):zC 10 [.agg [iV W,iV Hh,pp],s,.agg [iV tu,iV le,iV sl,iV ra]] H (.tup [.ptr (some (H.length+2,0)),iV 0]) (H++[.cells true 1 (ints .u8 xs),.cells true 6 (r6 l),.cells true 0 [iV W,iV Hh,.sl (some (H.length,0)) xs.length none,.sl (some (H.length+1,0)) l.length none,iV tu,iV le,iV sl,iV ra,.bool false]]):=by
 obtain⟨bpp,opp,cpp,rfl,hbpp,hblpp,hb0pp⟩:=zA1 hpp
 obtain⟨bs,os,cs,rfl,hbs,hbls,hb0s⟩:=zA1 hs
 have hVV:=bh.1 hV
 have hx6:xs.length<=1000000:=by have h4:=hVV.len;have:=Int.mul_le_mul hVV.w1 hVV.h1 (by have:=hVV.h0;omega) (by decide);omega
 have hx0:0<xs.length:=by have:=(hVV.idx (show inB W Hh 0 0=true from cC.2 (by have:=hVV.w0;have:=hVV.h0;omega))).2.2.2.2.1;omega
 have hLL:=lsB_iff.1 hL
 have hS16:=(bF.1 hLL.2).1
 have hl0:=hLL.1
 (refine bI func10 _ rfl (Nat.le_of_ble_eq_true (by kernel_rfl)) rfl ?_;intro hbel Q hQ hQ' c hc;unfold Tryz.f10 at hc;simp only[Option.some.injEq] at hc;subst hc;clear hQ')
 refine zQF hQ fun Q1 hn1 hQ1 he1=>?_
 have G1:=jn @hbpp (jn @hb0pp (jn @hbs (jn @hb0s (jn @hV (jn @hL @hB)))))
 refine ae G1 ?_
 refine hn1 _ _ (zQF hQ fun Q2 hn2 hQ2 he2=>?_)
 refine ae G1 ?_
 refine cvr G1 (d3 _ W Hh _ xs (.inr (zA2 hb0pp hbpp))) ?_
 refine cvr G1 (lvset_c _ _ l (zA2 hb0s hbs) (by omega)) ?_
 refine cvr G1 (ik _ _ _ _ _) ?_
 refine hn2 _ _ ?_
 refine bT false try_mixed [[0,1,2,3,4,5,6,7,8]] (by kernel_rfl) (fun F2 H2=>F2=[(6,.ptr (some (H.length+2,0))),(7,iV 0)]/\H2=H++[.cells true 1 (ints .u8 xs),.cells true 6 (r6 l),.cells true 0 [iV W,iV Hh,.sl (some (H.length,0)) xs.length none,.sl (some (H.length+1,0)) l.length none,iV tu,iV le,iV sl,iV ra,.bool false]]) ?_ ?_
 ·refine am ?_ (bP)<;>intro J hJ
  refine ak G1 ?_
  refine cx (lcop_c _ W _ _ xs (zA2 hb0pp hbpp) hx6 hx0) ?_
  refine ak G1 ?_
  refine cx (m8 _ _ l (zA2 hb0s hbs) (by omega) (by omega)) ?_
  refine ak G1 ?_
  refine aC (hJ _ _ ⟨_,_,_,⟨rfl,rfl⟩,bS hbel [2,3,4] (az (jn @br (jn @ba (jn @bQ @bE))))⟩)
 rintro F2 H2 ⟨rfl,rfl⟩
 refine fnF ?_
 have G2:=jn @bZ (jn @cU (jn @ce (jn @fe G1)))
 refine ae G2 ?_
 refine hQ _ _ (aW (.inl rfl) hbel (x1:=.tup [.ptr (some (H.length+2,0)),iV 0]) (l2:=[.cells true 1 (ints .u8 xs),.cells true 6 (r6 l),.cells true 0 [iV W,iV Hh,.sl (some (H.length,0)) xs.length none,.sl (some (H.length+1,0)) l.length none,iV tu,iV le,iV sl,iV ra,.bool false]]) (.tup [.ptr (some (H.length+2,0)),iV 0]) (aZ results10) [] rfl [0,1,2] (by decide) ⟨rfl,rfl⟩ ?_)
 exact aN @bE
def laL:List T6:=[(32,32,32,32,0,1),(33,32,33,32,0,1),(34,32,34,32,0,1),(35,32,35,32,0,1),(36,32,36,32,0,1),(37,32,37,32,0,1),(38,32,38,32,0,1),(39,32,39,32,0,1),(40,32,40,32,0,1)]
theorem la_1:bL 4 1 [0,0,0,0] [(32,32,40,32,0,1)] [(0,160)] 4 32=laL:=by decide +kernel
theorem la_2:cpL laL=laL:=by decide +kernel
theorem la_3:bL 4 1 [1,1,1,2] laL [(0,3)] 4 32=[]:=by decide +kernel
theorem la_tau:fG laL=true:=by decide +kernel
theorem la_all:aR 4 1 laL [(0,160)] 4=[(0,0),(1,0),(2,0)]:=by rw[all_put];decide +kernel
theorem la_sus:bG laL 0 160 4=[(2,0),(3,0)]:=by rw[sus_put];decide +kernel
theorem la_ln:lnO 4 1 [0,0,0,0] laL [(0,160)] 4=some [1,1,1,2]:=by
 unfold lnO iz
 rw[if_pos la_tau,la_all]
 show Option.bind _ (fo 4 1 [bG laL 0 160 4])=_
 rw[la_sus];decide +kernel
theorem la_v:bC 4 1 [0,0,0,0]=true:=by decide +kernel
theorem la_l:lsB [(32,32,40,32,0,1)]=true:=by decide +kernel
theorem la_b:bX 0 0 0 4=true:=by decide +kernel
theorem la_s1:bM [(32,32,40,32,0,1)]=true:=by decide +kernel
theorem la_s2:bM laL=true:=by decide +kernel
theorem la_c1:c7 [(0,160)]=true:=by decide +kernel
theorem la_c2:c7 [(0,3)]=true:=by decide +kernel
theorem la_v2:bC 4 1 [1,1,1,2]=true:=by decide +kernel
theorem la_vol:volS laL laL.length=9:=by decide +kernel
theorem la_see1 (H:aa)(pp s q:AV)(bz:Nat)(hpp:Sl H 1 pp 4 (ints .u8 [0,0,0,0]))(hs:Sl H 6 s 1 (r6 [(32,32,40,32,0,1)]))(hz:H[bz]? = some (.cells true 0 [iV 4,iV 1,pp,s,iV 0,iV 0,iV 0,iV 4,.bool false]))(hq:Sl H 2 q 1 (prs [(0,160)])):zC 13 [.ptr (some (bz,0)),q] H (iV 0) (H.set bz (.cells true 0 [iV 4,iV 1,.sl (some (H.length,0)) 4 none,.sl (some (H.length+1,0)) laL.length none,iV 0,iV 0,iV 0,iV 4,.bool false])++[.cells true 1 (ints .u8 [1,1,1,2]),.cells true 6 (r6 laL)]):=by
 have k:=lse_y H 4 1 pp [0,0,0,0] s [(32,32,40,32,0,1)] 0 0 0 4 bz q [(0,160)] hpp hs hz hq la_v la_s1 (by decide) la_c1 (by decide) (by rw[la_1];decide) [1,1,1,2] (by rw[la_1,la_2];exact la_ln) (by decide)
 rw[la_1,la_2] at k
 exact k
theorem la_see2 (H:aa)(pp s q:AV)(bz:Nat)(hpp:Sl H 1 pp 4 (ints .u8 [1,1,1,2]))(hs:Sl H 6 s laL.length (r6 laL))(hz:H[bz]? = some (.cells true 0 [iV 4,iV 1,pp,s,iV 0,iV 0,iV 0,iV 4,.bool false]))(hq:Sl H 2 q 1 (prs [(0,3)])):zC 13 [.ptr (some (bz,0)),q] H (iV 12) (H.set bz (.cells true 0 [iV 4,iV 1,pp,s,iV 0,iV 0,iV 0,iV 4,.bool true])) :=
 lse_e H 4 1 pp [1,1,1,2] s laL 0 0 0 4 bz q [(0,3)] hpp hs hz hq la_v2 la_s2 (by decide) la_c2 (by decide) (by rw[la_3];rfl)
theorem la_volc (H:aa)(pp s:AV)(bz:Nat)(hpp:Sl H 1 pp 4 (ints .u8 [1,1,1,2]))(hs:Sl H 6 s laL.length (r6 laL))(hz:∃o,H[bz]? = some (.cells o 0 [iV 4,iV 1,pp,s,iV 0,iV 0,iV 0,iV 4,.bool false])):zC 18 [.ptr (some (bz,0))] H (iV 9) H:=by
 have k:=lvol_c H 4 1 pp [1,1,1,2] s laL 0 0 0 4 false bz hpp hs hz (by decide) (by decide)
 rw[la_vol] at k
 exact k
set_option maxHeartbeats 4000000 in
set_option maxRecDepth 100000 in
theorem law_c (H:aa): zC 4 [] H (.bool true) H:=by
 refine AcT false func4 ?_;intro hbel Q hQ
 simp -implicitDefEqProofs (maxSteps:=2000000) (disch:=omega) only [Option.isNone_some.{0},Nat.add_assoc,cM,cz,cA,cN,simprocAttr,aJ,aK,Function.comp_apply,one1,lenV,aj,av,aA,aop,AV.ofValue,AV.ofCell,AV.cells,AV.flat,AV.one,arep,aU,aG]
 repeat refine And.intro (by omega) ?_
 refine cv (lnew_y _ 4 1 _ [0,0,0,0] _ [(32,32,40,32,0,1)] 0 0 0 4 slA slA la_v la_l la_b) ?_
 simp -implicitDefEqProofs (maxSteps:=2000000) (disch:=omega) only [Option.isNone_some.{0},Nat.add_assoc,cM,cz,cA,cN,simprocAttr,aJ,aK,Function.comp_apply,one1,lenV,aj,av,aA,aop,AV.ofValue,AV.ofCell,AV.cells,AV.flat,AV.one,arep,aU,aG]
 repeat refine And.intro (by omega) ?_
 refine cv (la_see1 _ (.sl (some (H.length+2,0)) 4 none) (.sl (some (H.length+3,0)) 1 none) _ _ slA slA hzB slA) ?_
 simp -implicitDefEqProofs (maxSteps:=2000000) (disch:=omega) only [Option.isNone_some.{0},Nat.add_assoc,cM,cz,cA,cN,simprocAttr,aJ,aK,Function.comp_apply,one1,lenV,aj,av,aA,aop,AV.ofValue,AV.ofCell,AV.cells,AV.flat,AV.one,arep,aU,aG]
 repeat refine And.intro (by omega) ?_
 refine cv (la_volc _ (.sl (some (H.length+6,0)) 4 none) (.sl (some (H.length+7,0)) laL.length none) _ slA slA hzA) ?_
 simp -implicitDefEqProofs (maxSteps:=2000000) (disch:=omega) only [Option.isNone_some.{0},Nat.add_assoc,cM,cz,cA,cN,simprocAttr,aJ,aK,Function.comp_apply,one1,lenV,aj,av,aA,aop,AV.ofValue,AV.ofCell,AV.cells,AV.flat,AV.one,arep,aU,aG]
 repeat refine And.intro (by omega) ?_
 refine cv (lplan_c _ 4 1 (.sl (some (H.length+6,0)) 4 none) [1,1,1,2] (.sl (some (H.length+7,0)) laL.length none) laL 0 0 0 4 false _ slA slA hzA (by decide) (by decide)) ?_
 simp -implicitDefEqProofs (maxSteps:=2000000) (disch:=omega) only [Option.isNone_some.{0},Nat.add_assoc,cM,cz,cA,cN,simprocAttr,aJ,aK,Function.comp_apply,one1,lenV,aj,av,aA,aop,AV.ofValue,AV.ofCell,AV.cells,AV.flat,AV.one,arep,aU,aG]
 repeat refine And.intro (by omega) ?_
 refine cv (bytes_s _ [1,1,1,2] _ _ (.inr slA) (.inr slA)) ?_
 simp -implicitDefEqProofs (maxSteps:=2000000) (disch:=omega) only [Option.isNone_some.{0},Nat.add_assoc,cM,cz,cA,cN,simprocAttr,aJ,aK,Function.comp_apply,one1,lenV,aj,av,aA,aop,AV.ofValue,AV.ofCell,AV.cells,AV.flat,AV.one,arep,aU,aG]
 repeat refine And.intro (by omega) ?_
 refine cv (llost_c _ 4 1 (.sl (some (H.length+6,0)) 4 none) [1,1,1,2] (.sl (some (H.length+7,0)) laL.length none) laL 0 0 0 4 false _ slA slA hzA) ?_
 simp -implicitDefEqProofs (maxSteps:=2000000) (disch:=omega) only [Option.isNone_some.{0},Nat.add_assoc,cM,cz,cA,cN,simprocAttr,aJ,aK,Function.comp_apply,one1,lenV,aj,av,aA,aop,AV.ofValue,AV.ofCell,AV.cells,AV.flat,AV.one,arep,aU,aG]
 repeat refine And.intro (by omega) ?_
 refine cv (la_see2 _ (.sl (some (H.length+6,0)) 4 none) (.sl (some (H.length+7,0)) laL.length none) _ _ slA slA hzB slA) ?_
 simp -implicitDefEqProofs (maxSteps:=2000000) (disch:=omega) only [Option.isNone_some.{0},Nat.add_assoc,cM,cz,cA,cN,simprocAttr,aJ,aK,Function.comp_apply,one1,lenV,aj,av,aA,aop,AV.ofValue,AV.ofCell,AV.cells,AV.flat,AV.one,arep,aU,aG]
 repeat refine And.intro (by omega) ?_
 exact hQ _ _ (dN (.inl rfl) hbel (x:=.bool true) (jI results4 (by simp -implicitDefEqProofs (maxSteps:=2000000) (disch:=omega) only [simprocAttr,aJ,aK,Function.comp_apply,one1,lenV,aj,av,aA,aop,AV.ofValue,AV.ofCell,AV.cells,AV.flat,AV.one,arep,aU,ap,aG])) rfl ⟨rfl,rfl⟩)
theorem evOk.app {H:aa}{l:List Ev}(h:evOk H l)(L:aa):evOk (H++L) l:=fun e he=>⟨(h e he).1.app L,(h e he).2⟩
def e5C (e:Ev):List AV:=[.int .i64 e.k,.int .i64 e.t,.int .i64 e.g,.bool e.st,e.s]
def e5R (l:List Ev):List AV:=l.flatMap e5C
theorem fL {p:Ev}{l:List Ev}:e5R (p::l)=e5C p++e5R l:=rfl
theorem j6:∀{l:List Ev},(e5R l).length=l.length*5
 |[]=>rfl
 |p::l=>by rw[fL,List.length_append,j6 (l:=l),List.length_cons];show 5+_=_;omega
theorem nV:∀{l:List Ev}{j:Nat}(_h:j<l.length),(e5R l).drop (j*5)=e5C (evG l j)++(e5R l).drop ((j+1)*5)
 |[],j,h=>by simp at h
 |p::l,0,_=>by rw[fL];rfl
 | p::l,j+1,h=>by
  have ih:=nV (l:=l) (j:=j) (by simpa using h)
  rw[fL,show (j+1)*5=(e5C p).length+j*5 by show _=5+_;omega,show (j+1+1)*5=(e5C p).length+(j+1)*5 by show _=5+_;omega,jo,jo,ih]
  rfl
theorem e5R_p1 {l:List Ev}{j:Nat}(h:j<l.length):((e5R l).drop (j*5+1)).take 2=[.int .i64 (evG l j).t,.int .i64 (evG l j).g]:=by
 rw[<-List.drop_drop,nV h];rfl
theorem e5R_at3 {l:List Ev}{j:Nat}(h:j<l.length):(e5R l)[j*5+3]? = some (.bool (evG l j).st):=by
 have k:((e5R l).drop (j*5))[3]? = some (.bool (evG l j).st):=by rw[nV h];rfl
 rw[List.getElem?_drop] at k;exact k
theorem e5R_at4 {l:List Ev}{j:Nat}{v:AV}(h:j<l.length)(hs:(evG l j).s=v):(e5R l)[j*5+4]? = some v:=by
 have k:((e5R l).drop (j*5))[4]? = some (evG l j).s:=by rw[nV h];rfl
 rw[List.getElem?_drop] at k;rw[<-hs];exact k
structure Ac where
 t:Int
 f:Int
 eT:Int
 eL:Int
 eX:Int
 eY:Int
 mp:AV
 ep:AV
 mks:List Int
 ers:List Int
def acC (e:Ac):List AV:=[.int .i64 e.t,.int .i64 e.f,.int .i64 e.eT,.int .i64 e.eL,.int .i64 e.eX,.int .i64 e.eY,e.mp,e.ep]
def acR (l:List Ac):List AV:=l.flatMap acC
def acG (l:List Ac) (j:Nat):Ac:=l.getD j ⟨0,0,0,0,0,0,.any,.any,[],[]⟩
def acOk (H:aa) (l:List Ac):Prop:=∀e∈l,(Sl H 1 e.mp e.mks.length (ints .i64 e.mks)/\e.mks.length<=9223372036854775807)/\Sl H 1 e.ep e.ers.length (ints .i64 e.ers)/\e.ers.length<=9223372036854775807
theorem kP {p:Ac}{l:List Ac}:acR (p::l)=acC p++acR l:=rfl
theorem j7:∀{l:List Ac},(acR l).length=l.length*8
 |[]=>rfl
 |p::l=>by rw[kP,List.length_append,j7 (l:=l),List.length_cons];show 8+_=_;omega
theorem j8 {l:List Ac}{j:Nat}(h:j<l.length):acG l j∈l:=by
 have e:acG l j=l[j]:=by unfold acG;rw[List.getD_eq_getElem?_getD,List.getElem?_eq_getElem h];rfl
 rw[e];exact List.getElem_mem h
theorem nW:∀{l:List Ac}{j:Nat}(_h:j<l.length),(acR l).drop (j*8)=acC (acG l j)++(acR l).drop ((j+1)*8)
 |[],j,h=>by simp at h
 |p::l,0,_=>by rw[kP];rfl
 | p::l,j+1,h=>by
  have ih:=nW (l:=l) (j:=j) (by simpa using h)
  rw[kP,show (j+1)*8=(acC p).length+j*8 by show _=8+_;omega,show (j+1+1)*8=(acC p).length+(j+1)*8 by show _=8+_;omega,jo,jo,ih]
  rfl
theorem acR_p {l:List Ac}{j:Nat}{u v:AV}(h:j<l.length)(hu:(acG l j).mp=u)(hv:(acG l j).ep=v):((acR l).drop (j*8)).take 8=[.int .i64 (acG l j).t,.int .i64 (acG l j).f,.int .i64 (acG l j).eT,.int .i64 (acG l j).eL,.int .i64 (acG l j).eX,.int .i64 (acG l j).eY,u,v]:=by
 rw[nW h,<-hu,<-hv];rfl
theorem acR_at6 {l:List Ac}{j:Nat}{v:AV}(h:j<l.length)(hs:(acG l j).mp=v):(acR l)[j*8+6]? = some v:=by
 have k:((acR l).drop (j*8))[6]? = some (acG l j).mp:=by rw[nW h];rfl
 rw[List.getElem?_drop] at k;rw[<-hs];exact k
theorem acR_at7 {l:List Ac}{j:Nat}{v:AV}(h:j<l.length)(hs:(acG l j).ep=v):(acR l)[j*8+7]? = some v:=by
 have k:((acR l).drop (j*8))[7]? = some (acG l j).ep:=by rw[nW h];rfl
 rw[List.getElem?_drop] at k;rw[<-hs];exact k
theorem acOk.at {H:aa}{l:List Ac}{j:Nat}(k:acOk H l)(h:j<l.length):(∃b o c,(acG l j).mp=.sl (some (b,0)) (acG l j).mks.length c/\H[b]? = some (.cells o 1 (ints .i64 (acG l j).mks)))/\∃b o c,(acG l j).ep=.sl (some (b,0)) (acG l j).ers.length c/\H[b]? = some (.cells o 1 (ints .i64 (acG l j).ers)):=by
 obtain⟨⟨⟨b,o,c,e1,e2⟩,-⟩,⟨b',o',c',e3,e4⟩,-⟩:=k _ (j8 h)
 exact⟨⟨b,o,c,e1,e2⟩,b',o',c',e3,e4⟩
theorem acOk.len {H:aa}{l:List Ac}{j:Nat}(k:acOk H l)(h:j<l.length):(acG l j).mks.length<=9223372036854775807/\(acG l j).ers.length<=9223372036854775807:=⟨(k _ (j8 h)).1.2,(k _ (j8 h)).2.2⟩
theorem acOk.app {H:aa}{l:List Ac}(h:acOk H l)(L:aa):acOk (H++L) l:=fun e he=>⟨⟨(h e he).1.1.app L,(h e he).1.2⟩,(h e he).2.1.app L,(h e he).2.2⟩
theorem rows_ac {P:Program}{H:aa}{n:Nat}{ti ts te:TypeId}(hi:P.underlying ti=some (.int .i64))(hs:P.underlying ts=some (.slice te))(hu:P.underlying te=some (.int .i64))(hl:bH P (n+1) te=some [te]):∀rows:List (List AV),(∀r:List AV,r∈rows->RTy P H (n+2) [ti,ti,ti,ti,ti,ti,ts,ts] r)->∃l:List Ac,l.length=rows.length/\rows.flatten=acR l/\acOk H l
 |[],_=>⟨[],rfl,rfl,fun e h=>by cases h⟩
 | r::rows,h=>by
  obtain⟨l,q1,q2,q3⟩:=rows_ac hi hs hu hl rows fun r' hr=>h r' (by simp[hr])
  have hr:=h r (by simp)
  obtain⟨y1,r',rfl,hy1,hr⟩:=hr.cons
  obtain⟨y2,r',rfl,hy2,hr⟩:=hr.cons
  obtain⟨y3,r',rfl,hy3,hr⟩:=hr.cons
  obtain⟨y4,r',rfl,hy4,hr⟩:=hr.cons
  obtain⟨y5,r',rfl,hy5,hr⟩:=hr.cons
  obtain⟨y6,r',rfl,hy6,hr⟩:=hr.cons
  obtain⟨y7,r',rfl,hy7,hr⟩:=hr.cons
  obtain⟨y8,r',rfl,hy8,hr⟩:=hr.cons
  obtain rfl:=hr.nil
  obtain⟨z1,rfl,-⟩:=hy1.int hi
  obtain⟨z2,rfl,-⟩:=hy2.int hi
  obtain⟨z3,rfl,-⟩:=hy3.int hi
  obtain⟨z4,rfl,-⟩:=hy4.int hi
  obtain⟨z5,rfl,-⟩:=hy5.int hi
  obtain⟨z6,rfl,-⟩:=hy6.int hi
  obtain⟨d,k1,k2,-⟩:=hy7.intsU hs hu hl
  obtain⟨d',k3,k4,-⟩:=hy8.intsU hs hu hl
  refine⟨⟨z1,z2,z3,z4,z5,z6,y7,y8,d,d'⟩::l,by simp[q1],by rw[kP,List.flatten_cons,q2];rfl,fun e he=>?_⟩
  rcases List.mem_cons.1 he with rfl|he
  ·exact⟨⟨k1,k2⟩,k3,k4⟩
  exact q3 e he
theorem LTy.acs {P:Program}{H:aa}{n:Nat}{t e ti ts te:TypeId}{x:AV}(ht:P.underlying t=some (.slice e))(hle:bH P (n+2) e=some [ti,ti,ti,ti,ti,ti,ts,ts])(hi:P.underlying ti=some (.int .i64))(hs:P.underlying ts=some (.slice te))(hu:P.underlying te=some (.int .i64))(hl:bH P (n+1) te=some [te])(h:LTy P H (n+3) t x):
  ∃l:List Ac,Sl H 8 x l.length (acR l)/\l.length<=maxLen/\acOk H l:=by
 obtain⟨b,rows,rfl,k1,k2,k3⟩:=h.slice ht hle
 obtain⟨l,q1,q2,q3⟩:=rows_ac hi hs hu hl rows k3
 exact⟨l,⟨b,false,none,by rw[q1],by rw[<-q2];exact k2⟩,by omega,q3⟩
def cX (t f:Int) (mks:List Int):Bool:=cH t f&&(decide (mks.length<=32)&&mks.all cV)
theorem ract_n {t f:Int}{mks:List Int}{i:Nat}(hi:i<mks.length)(k:cV (gi mks i)=false):cX t f mks=false:=by
 unfold cX
 rw [show mks.all cV=false from by
  rw[<-Bool.not_eq_true];intro q
  have:=List.all_eq_true.1 q _ (List.getElem_mem hi)
  rw[<-fq hi,k] at this;cases this]
 simp
theorem ract_y {t f:Int}{mks:List Int}(hC:cH t f=true)(hl:mks.length<=32)(k:∀j:Nat,j<mks.length->cV (gi mks j)=true):cX t f mks=true:=by
 unfold cX
 rw [hC,decide_eq_true hl,show mks.all cV=true from List.all_eq_true.2 fun v hv=>by
  obtain⟨j,hj,rfl⟩:=List.mem_iff_getElem.1 hv
  rw[<-fq hj];exact k j hj]
 rfl
theorem ract_swp {t f:Int}{mks:List Int}(h:cX t f mks=true):cH t f=true/\gg mks=0/\mks.length<=32:=by
 unfold cX at h
 rw[Bool.and_eq_true,Bool.and_eq_true,decide_eq_true_eq] at h
 exact⟨h.1,swpE_0 (by omega) (fun j hj=>by rw[fq hj];exact List.all_eq_true.1 h.2.2 _ (List.getElem_mem hj)),h.2.1⟩
structure TickP (W Hh:Int) (xs:List Int) (tu le sl ra x y h:Int) (e:Ev):Prop where
 cmd:cH e.t e.g=true
 scn:c7 e.sc=true
 pla:∀q∈e.sc,gA W Hh xs e.x e.y e.h ra q
 wth:wthB tu le sl ra x y h e.t e.g e.x e.y e.h e.st=true
 goo:e9 W Hh xs e.x e.y e.h=true
theorem bld_v {W Hh:Int}{xs:List Int}(h:ey W Hh xs=true):bC W Hh xs=true:=by
 unfold ey at h;rw[Bool.and_eq_true] at h;exact h.1
def kbI (k:Int) (b:Bool):Int:=if b=true then k+1 else k
theorem nb {k:IntKind}{l:List Int}:(ints k l).take l.length=ints k l/\(ints k l).take (l.length*1)=ints k l:=⟨List.take_of_length_le (by rw[bZ];omega),List.take_of_length_le (by rw[bZ];omega)⟩
section
variable {W Hh:Int} {xs:List Int} {l:List T6} {sc:List (Int×Int)} {g:Int}
end
theorem nd {P:Program}{N n:Nat}{Q:Exit->Fr->aa->Prop}{id:Nat}{ops:Array Oper}{b:Code}{F:Fr}{H:aa}(q:Bool) (hm:P.follows .mixedOrders=true) (hok:gq q N ops=true) (m:Nat) (hml:m<=H.length) (I:Fr->aa->Prop)
  (h1:∀J:Fr->aa->Prop,(∀F' H',(∃σ F2 H2,I F2 H2/\Abs n σ F' H' F2 H2)->J F' H')->AGo P N n q Q [.opsD m (ops.toList.map (lightOf (dsts ops))),.inv J] F H) (h2:∀F2 H2,I F2 H2->AW P N n b Q F2 H2):AW P N n (.seq (.region id ops true) b) Q F H:=by
 have k:=h1 (fun F' H'=>∃σ F2 H2,I F2 H2/\Abs n σ F' H' F2 H2) (fun _ _ h=>h)
 have k2:AOpsDL P q m (ops.toList.map (lightOf (dsts ops))) F H (fun F' H'=>fM (fun F' H'=>∃σ F2 H2,I F2 H2/\Abs n σ F' H' F2 H2) Q .normal F' H'):=k
 refine ja (AW.mono (AW_drawM q hm hok hml (gH _ _ _ k2)) fun e F' H' hq=>?_)
 cases e with
 | normal =>
  obtain⟨σ,F2,H2,hi,ab⟩:=hq
  exact AW_abs ab (h2 F2 H2 hi)
 |_=>exact hq
theorem call_w {P:Program}{N n m:Nat}{Q:Exit->Fr->aa->Prop}{dst:Option Tmp}{os:List LOp}{r:List It}{F:Fr}{H H1:aa}{f:FuncId}{args:List AV}{x:AV}(hok:dk P f=true)(hl:H.length<=H1.length)(hf:∀b,b<m->b<H.length->H1[b]? = H[b]?)(h:ACalls P f args H fun y H'=>y=x/\H'=H1)(k:AGo P N n false Q (.opsD m os::r) (putF dst x F) H1):fy P N n false Q (some m) f args dst os r F H :=
 ⟨hok,x,H1,(fun h=>by cases h),⟨hl,hf⟩,h,k⟩
theorem pT {H l L:aa}{b c m:Nat}{x:ABlk}(hc:m<=c)(hb:b<m)(hlt:b<(H++l).length):((H++l).set c x++L)[b]? = (H++l)[b]? :=by
 rw[List.getElem?_append_left (by rw[List.length_set];exact hlt),List.getElem?_set_ne (by omega)]
theorem nX {H l:aa}{b c m:Nat}{x:ABlk}(hc:m<=c)(hb:b<m):((H++l).set c x)[b]? = (H++l)[b]? :=List.getElem?_set_ne (by omega)
theorem Abs0.le {n m:Nat}{σ:Nat->Nat}{F1 F2:Fr}{H1 H2:aa}(h:Abs0 m σ F1 H1 F2 H2)(hn:n<=m):Abs0 n σ F1 H1 F2 H2 :=
 ⟨fun b hb=>h.small b (Nat.lt_of_lt_of_le hb hn),Nat.le_trans hn h.len,h.frame,h.heap,h.inj⟩
theorem Abs.le {n m:Nat}{σ:Nat->Nat}{F1 F2:Fr}{H1 H2:aa}(h:Abs m σ F1 H1 F2 H2)(hn:n<=m):Abs n σ F1 H1 F2 H2:=by
 obtain⟨G,hG,k⟩:=h
 exact⟨G,hG,k.le hn⟩
theorem AEnd.le {P:Program}{fn:Func}{n m:Nat}{R:AV->aa->Prop}{e:Exit}{F:Fr}{H:aa}(h:AEnd P fn m R e F H)(hn:n<=m):AEnd P fn n R e F H:=by
 cases e with
 |normal=>obtain⟨x1,hx,σ,x2,H2,hr,ha⟩:=h;exact⟨x1,hx,σ,x2,H2,hr,ha.le hn⟩
 |ret=>obtain⟨x1,hx,σ,x2,H2,hr,ha⟩:=h;exact⟨x1,hx,σ,x2,H2,hr,ha.le hn⟩
 |_=>exact h
theorem grow1 {H X G:aa}{b:Nat}{x:ABlk}(hG:G=H++X)(h:∀l:aa,(H++l)[b]? = some x):G[b]? = some x:=by subst hG;exact h _
mutual
theorem bel_up1 {n m:Nat}(hn:n<=m):∀x:AV,x.bel n=true->x.bel m=true
 |.any,_=>rfl
 |.int _ _,_=>rfl
 |.bool _,_=>rfl
 |.str _,_=>rfl
 |.ptr none,_=>rfl
 |.ptr (some (b,o)),h=>by simp[AV.bel] at h ⊢;omega
 |.sl none _ _,_=>rfl
 |.sl (some (b,o)) _ _,h=>by simp[AV.bel] at h ⊢;omega
 |.mp none,_=>rfl
 |.mp (some b),h=>by simp[AV.bel] at h ⊢;omega
 |.nilfn,_=>rfl
 |.fn f caps,h=>by simp only[AV.bel] at h ⊢;exact bel_up hn caps h
 |.agg cs,h=>by simp only[AV.bel] at h ⊢;exact bel_up hn cs h
 |.tup cs,h=>by simp only[AV.bel] at h ⊢;exact bel_up hn cs h
theorem bel_up {n m:Nat}(hn:n<=m):∀xs:List AV,AV.bels n xs=true->AV.bels m xs=true
 |[],_=>rfl
 | x::r,h=>by
  simp only[AV.bels,Bool.and_eq_true] at h ⊢
  exact⟨bel_up1 hn x h.1,bel_up hn r h.2⟩
end
theorem ABlk.bel_up {n m:Nat}(hn:n<=m){x:ABlk}(h:x.bel n=true):x.bel m=true:=by
 cases x with
 |dead=>rfl
 |cells o e xs=>exact Go.Proofs.YtkkhdehdaaealaaGreat.bel_up hn xs h
 | map es =>
  simp only[ABlk.bel,Bool.and_eq_true] at h ⊢
  exact⟨Go.Proofs.YtkkhdehdaaealaaGreat.bel_up hn _ h.1,Go.Proofs.YtkkhdehdaaealaaGreat.bel_up hn _ h.2⟩
 | fmap es bs ck =>
  simp only[ABlk.bel,Bool.and_eq_true] at h ⊢
  exact⟨Go.Proofs.YtkkhdehdaaealaaGreat.bel_up hn _ h.1,Go.Proofs.YtkkhdehdaaealaaGreat.bel_up hn _ h.2⟩
 | iter m bs sn ck =>
  simp only[ABlk.bel,decide_eq_true_eq] at h ⊢
  omega
theorem lE {H X G:aa}(hG:G=H++X)(hb:HBel H.length H)(hX:∀x∈X,x.bel G.length=true):HBel G.length G:=fun b x hx=>by
 subst hG
 rcases Nat.lt_or_ge b H.length with q|q
 ·rw[List.getElem?_append_left q] at hx
  exact ABlk.bel_up (by simp) (hb b x hx)
 rw[List.getElem?_append_right q] at hx
 exact hX x (List.mem_of_getElem? hx)
theorem rl {n:Nat}:∀{a b:List AV},AV.bels n (a++b)=(AV.bels n a&&AV.bels n b)
 |[],b=>by simp[AV.bels]
 |x::a,b=>by rw[List.cons_append];simp only[AV.bels,rl (a:=a),Bool.and_assoc]
theorem rm {G X:aa}{x:ABlk}(h:∀y∈X,y.bel G.length=true)(hx:x.bel (G++[x]).length=true):∀y∈X++[x],y.bel (G++[x]).length=true:=fun y hy=>by
 rcases List.mem_append.1 hy with q|q
 ·exact ABlk.bel_up (by simp) (h y q)
 rw[List.mem_singleton.1 q];exact hx
theorem rn {G:aa}{x:ABlk}:(G++[x]).length=G.length+1:=by simp
theorem Abs.byX {n:Nat}{H0 l1 l2:aa}{x:ABlk}{F1 F2:Fr}(hn:n<=H0.length)(hsc:HBel H0.length H0)(G:aa)(hG:G.all gp=true)(sel:List Nat)(hnd:sel.Nodup)(h:fj (H0.length+(l1++G).length) (sig H0.length (l1++G).length sel) F1 F2/\fB (H0.length+(l1++G).length) (sig H0.length (l1++G).length sel) (l1++G) sel (x::l2)):Abs n (sig H0.length (l1++G).length sel) F1 (H0++l1) F2 ((H0++[x])++l2):=by
 have k:=(Abs.byG hsc G hG sel hnd h).le hn
 have e:H0++x::l2=(H0++[x])++l2:=by simp
 rw[<-e];exact k
theorem kQ {P:Program}{fn:Func}{H G l1:aa}{R:AV->aa->Prop}{F:Fr}{e:Exit}(he:e=.ret\/e=.normal)(hG:∃X,G=H++X)(hbel:HBel H.length H){x:AV}(hx:cW P fn F (G++l1)=some x)(hp:x.bel 0=true)(hR:R x H):AEnd P fn H.length R e F (G++l1):=by
 obtain⟨X,rfl⟩:=hG
 rw[List.append_assoc] at hx ⊢
 exact dN he hbel hx hp hR
theorem mw {P:Program}{fn:Func}{H G:aa}{R:AV->aa->Prop}{F:Fr}{e:Exit}(he:e=.ret\/e=.normal)(hG:∃X,G=H++X)(hbel:HBel H.length H){x:AV}(hx:cW P fn F G=some x)(hp:x.bel 0=true)(hR:R x H):AEnd P fn H.length R e F G:=by
 obtain⟨X,rfl⟩:=hG
 exact dN he hbel hx hp hR
theorem pre_le {H G:aa}(h:∃X,G=H++X):H.length<=G.length:=by obtain⟨X,rfl⟩:=h;simp
abbrev T3:=Int×Int×Int
def r3 (l:List T3):List AV:=l.flatMap fun p=>[.int .i64 p.1,.int .i64 p.2.1,.int .i64 p.2.2]
def g3 (l:List T3) (j:Nat):T3:=l.getD j (0,0,0)
def g31 (l:List T3) (j:Nat):Int:=(g3 l j).1
def g32 (l:List T3) (j:Nat):Int:=(g3 l j).2.1
def g33 (l:List T3) (j:Nat):Int:=(g3 l j).2.2
theorem nY:r3 []=[]:=rfl
theorem fi {p:T3}{l:List T3}:r3 (p::l)=.int .i64 p.1::.int .i64 p.2.1::.int .i64 p.2.2::r3 l:=rfl
theorem jB {l m:List T3}:r3 (l++m)=r3 l++r3 m:=by simp[r3]
theorem nZ:∀{l:List T3},(r3 l).length=l.length*3
 |[]=>rfl
 |p::l=>by rw[fi];simp only[List.length_cons,nZ (l:=l)];omega
theorem j9 {σ:Nat->Nat}:∀{l:List T3},AV.mvs σ (r3 l)=r3 l
 |[]=>rfl
 | p::l=>by
  rw[fi]
  show AV.mv σ _::AV.mv σ _::AV.mv σ _::AV.mvs σ (r3 l)=_
  rw[j9 (l:=l)];rfl
theorem r3_at:∀{l:List T3}{j:Nat}(_h:j<l.length),(r3 l).drop (j*3)=.int .i64 (g31 l j)::.int .i64 (g32 l j)::.int .i64 (g33 l j)::(r3 l).drop ((j+1)*3)
 |[],j,h=>by simp at h
 |p::l,0,_=>by rw[fi];simp[g31,g32,g33,g3]
 | p::l,j+1,h=>by
  rw[fi,show (j+1)*3=j*3+1+1+1 by omega,List.drop_succ_cons,List.drop_succ_cons,List.drop_succ_cons,r3_at (l:=l) (by simpa using h),show (j+1+1)*3=(j+1)*3+1+1+1 by omega,List.drop_succ_cons,List.drop_succ_cons,List.drop_succ_cons]
  rfl
theorem r3_load {l:List T3}{j:Nat}(h:j<l.length):((r3 l).drop (j*3)).take 3=[.int .i64 (g31 l j),.int .i64 (g32 l j),.int .i64 (g33 l j)]:=by rw[r3_at h];rfl
theorem r3_one {l:List T3}:(r3 l).all AV.one=true:=by
 induction l with
 |nil=>rfl
 |cons p l ih=>rw[fi];simp[AV.one,ih]
section
variable {P:Program} {H:aa} {n:Nat}
end
def evl:Nat->List Ev->List Ev
 |_,[]=>[]
 |n,e::r=>⟨e.k,e.t,e.g,e.st,.sl (some (n,0)) e.sc.length (aT e.sc.length),e.sc,e.x,e.y,e.h⟩::evl (n+1) r
def evb (e:Ev):ABlk:=.cells (aL e.sc.length) 2 (prs e.sc)
theorem md {n:Nat}:e5R (evl n [])=[]:=rfl
theorem ef:∀{n:Nat}{es:List Ev},(evl n es).length=es.length
 |_,[]=>rfl
 |n,t::r=>by simp only[evl,List.length_cons,ef]
theorem evl_len {n:Nat}{es:List Ev}:(e5R (evl n es)).length=es.length*5:=by rw[j6,ef]
theorem ne:∀{n:Nat}{es:List Ev},(e5R (evl n es)).all AV.one=true
 |_,[]=>rfl
 | n,t::r=>by
  simp only[evl,fL,List.all_append,ne,Bool.and_true]
  rfl
theorem evl_app:∀{n:Nat}{es us:List Ev},evl n (es++us)=evl n es++evl (n+es.length) us
 |n,[],us=>rfl
 | n,t::r,us=>by
  rw[List.cons_append]
  simp only[evl,evl_app (n:=n+1) (es:=r),List.length_cons,List.cons_append]
  rw[show n+1+r.length=n+(r.length+1) by omega]
theorem e5R_app:∀{a b:List Ev},e5R (a++b)=e5R a++e5R b
 |[],b=>rfl
 |x::a,b=>by rw[List.cons_append,fL,fL,e5R_app,List.append_assoc]
theorem ro {n:Nat}{es:List Ev}{e:Ev}:e5R (evl n (es++[e]))=e5R (evl n es)++[.int .i64 e.k,.int .i64 e.t,.int .i64 e.g,.bool e.st,.sl (some (n+es.length,0)) e.sc.length (aT e.sc.length)]:=by
 rw[evl_app,e5R_app];rfl
theorem rp {σ:Nat->Nat}:∀{a b:List AV},AV.mvs σ (a++b)=AV.mvs σ a++AV.mvs σ b
 |[],b=>rfl
 |x::a,b=>by simp only[List.cons_append,AV.mvs,rp]
theorem oO {m k:Nat}{sel:List Nat}:∀{n:Nat}{es:List Ev},n+es.length<=m->AV.mvs (sig m k sel) (e5R (evl n es))=e5R (evl n es)
 |_,[],_=>rfl
 | n,t::r,h=>by
  simp only[List.length_cons] at h
  have ih:=oO (m:=m) (k:=k) (sel:=sel) (n:=n+1) (es:=r) (by omega)
  have hs:=ij (n:=m) (m:=k) (sel:=sel) (b:=n) (by omega)
  simp only[evl,fL,rp,ih,e5C,AV.mvs,AV.mv,hs]
theorem rq {m:Nat}:∀{n:Nat}{es:List Ev},n+es.length<=m->AV.bels m (e5R (evl n es))=true
 |_,[],_=>rfl
 | n,t::r,h=>by
  simp only[List.length_cons] at h
  have ih:=rq (m:=m) (n:=n+1) (es:=r) (by omega)
  have hs:n<m:=by omega
  simp only[evl,fL,rl,ih,e5C,AV.bels,AV.bel,hs,decide_true,Bool.and_true]
theorem evb_get {H K:aa}{es:List Ev}{i:Nat}(h:i<es.length):(H++(es.map evb++K))[H.length+i]? = some (evb es[i]):=by
 rw[List.getElem?_append_right (by omega),Nat.add_sub_cancel_left,List.getElem?_append_left (by simpa using h),List.getElem?_map,List.getElem?_eq_getElem h]
 rfl
theorem me:∀{n:Nat}{es:List Ev}{i:Nat}(h:i<es.length),(evl n es)[i]? = some ⟨es[i].k,es[i].t,es[i].g,es[i].st,.sl (some (n+i,0)) es[i].sc.length (aT es[i].sc.length),es[i].sc,es[i].x,es[i].y,es[i].h⟩
 |n,t::r,0,_=>rfl
 | n,t::r,i+1,h=>by
  have:=me (n:=n+1) (es:=r) (i:=i) (by simpa using h)
  rw[show n+1+i=n+(i+1) by omega] at this
  exact this
theorem evG_eq {es:List Ev}{i:Nat}(h:i<es.length):evG es i=es[i]:=by unfold evG;rw[List.getD_eq_getElem?_getD,List.getElem?_eq_getElem h];rfl
theorem evl_G {n:Nat}{es:List Ev}{i:Nat}(h:i<es.length):evG (evl n es) i=⟨(evG es i).k,(evG es i).t,(evG es i).g,(evG es i).st,.sl (some (n+i,0)) (evG es i).sc.length (aT (evG es i).sc.length),(evG es i).sc,(evG es i).x,(evG es i).y,(evG es i).h⟩:=by
 rw[evG_eq h]
 unfold evG
 rw[List.getD_eq_getElem?_getD,me h];rfl
theorem evl_ok {H K:aa}{es:List Ev}(h:∀e∈es,e.sc.length<=1000000):evOk (H++(es.map evb++K)) (evl H.length es):=fun e he=>by
 obtain⟨i,hi,rfl⟩:=List.mem_iff_getElem.1 he
 rw[ef] at hi
 have k:=me (n:=H.length) hi
 rw[List.getElem?_eq_getElem (by rw[ef];exact hi),Option.some.injEq] at k
 rw[k]
 refine⟨⟨H.length+i,_,_,rfl,evb_get hi⟩,?_⟩
 have:=h _ (List.getElem_mem hi)
 show es[i].sc.length<=_
 unfold maxLen;omega
def psl (es:List Ev):List T3:=es.map fun e=>(e.x,e.y,e.h)
theorem psl_nil:psl []=[]:=rfl
theorem kR {es:List Ev}:(psl es).length=es.length:=List.length_map _
theorem rr {es:List Ev}{e:Ev}:psl (es++[e])=psl es++[(e.x,e.y,e.h)]:=by unfold psl;rw[List.map_append];rfl
def pzX (ax:Int) (es:List Ev):Nat->Int
 |0=>ax
 |i+1=>(evG es i).x
def pzY (ay:Int) (es:List Ev):Nat->Int
 |0=>ay
 |i+1=>(evG es i).y
def pzH (ah:Int) (es:List Ev):Nat->Int
 |0=>ah
 |i+1=>(evG es i).h
def RunP (W Hh:Int) (xs:List Int) (tu le sl ra ax ay ah:Int) (es:List Ev):Prop:=∀i:Nat,i<es.length->TickP W Hh xs tu le sl ra (pzX ax es i) (pzY ay es i) (pzH ah es i) (evG es i)
theorem evG_app {es:List Ev}{e:Ev}{i:Nat}(h:i<es.length):evG (es++[e]) i=evG es i:=by
 unfold evG;rw[List.getD_eq_getElem?_getD,List.getD_eq_getElem?_getD,List.getElem?_append_left h]
theorem rt {es:List Ev}{e:Ev}:evG (es++[e]) es.length=e:=by
 unfold evG;rw[List.getD_eq_getElem?_getD,List.getElem?_append_right (Nat.le_refl _),Nat.sub_self];rfl
theorem pz_app {ax ay ah:Int}{es:List Ev}{e:Ev}:∀{i:Nat},i<=es.length->pzX ax (es++[e]) i=pzX ax es i/\pzY ay (es++[e]) i=pzY ay es i/\pzH ah (es++[e]) i=pzH ah es i
 |0,_=>⟨rfl,rfl,rfl⟩
 | i+1,h=>by
  have:=evG_app (es:=es) (e:=e) (i:=i) (by omega)
  exact⟨congrArg Ev.x this,congrArg Ev.y this,congrArg Ev.h this⟩
theorem pz_last {ax ay ah:Int}{es:List Ev}{e:Ev}:pzX ax (es++[e]) (es++[e]).length=e.x/\pzY ay (es++[e]) (es++[e]).length=e.y/\pzH ah (es++[e]) (es++[e]).length=e.h:=by
 rw[List.length_append]
 have:=rt (es:=es) (e:=e)
 exact⟨congrArg Ev.x this,congrArg Ev.y this,congrArg Ev.h this⟩
theorem run_snoc {W Hh:Int}{xs:List Int}{tu le sl ra ax ay ah x y h:Int}{es:List Ev}{e:Ev}(hR:RunP W Hh xs tu le sl ra ax ay ah es)(hx:pzX ax es es.length=x/\pzY ay es es.length=y/\pzH ah es es.length=h)(k:TickP W Hh xs tu le sl ra x y h e):RunP W Hh xs tu le sl ra ax ay ah (es++[e]):=fun i hi=>by
 rw[List.length_append] at hi
 rcases Nat.lt_or_ge i es.length with q|q
 ·obtain⟨p1,p2,p3⟩:=pz_app (ax:=ax) (ay:=ay) (ah:=ah) (es:=es) (e:=e) (i:=i) (by omega)
  rw[p1,p2,p3,evG_app q];exact hR i q
 obtain rfl:i=es.length:=by have:[e].length=1:=rfl;omega
 obtain⟨p1,p2,p3⟩:=pz_app (ax:=ax) (ay:=ay) (ah:=ah) (es:=es) (e:=e) (i:=es.length) (by omega)
 rw[p1,p2,p3,rt,hx.1,hx.2.1,hx.2.2];exact k
theorem run_nil {W Hh:Int}{xs:List Int}{tu le sl ra ax ay ah:Int}:RunP W Hh xs tu le sl ra ax ay ah []:=fun i hi=>absurd hi (Nat.not_lt_zero i)
theorem bel_evb {m:Nat}{e:Ev}:ABlk.bel m (evb e)=true:=ei
structure RndP (W Hh:Int) (xs ks:List Int) (Q:List T6) (x y h:Int):Prop where
 kV:bC W Hh ks=true
 bl:dZ ks xs
 S:bM Q=true
 l0:0<Q.length
 nr:∀b∈Q,nrP b
 cv:∃b∈Q,InP b x y h
theorem RndP.mv {W Hh:Int}{xs ks:List Int}{Q:List T6}{tu le sl ra x y h:Int}{e:Ev}(R:RndP W Hh xs ks Q x y h)(hB:bX tu le sl ra=true)(T:TickP W Hh xs tu le sl ra x y h e):imA Q e.t (stF e.st e.g) tu le sl=true:=by
 have hC2:=jY e.st T.cmd
 simp only[bX,Bool.and_eq_true,aS] at hB
 simp only[cH,Bool.and_eq_true,aS] at hC2
 exact nr_imA (bF.1 R.S).2 R.nr (by omega) (by omega) (by omega)
theorem n7 {W Hh:Int}{xs:List Int}{x y h:Int}(k:e9 W Hh xs x y h=true):bC W Hh xs=true/\((0<=x/\x<=64*W)/\0<=y/\y<=64*Hh)/\0<=h/\h<=255:=by
 unfold e9 at k
 rw[Bool.and_eq_true] at k
 obtain⟨k1,k2⟩:=fa.1 k.1
 exact⟨k1,k2,aS.1 (cK.1 k.2).2⟩
theorem rnd_mv {W Hh:Int}{xs:List Int}{Q Q1:List T6}{tu le sl ra x y h:Int}{e:Ev}(kS:bM Q=true)(k0:0<Q.length)(kc:∃b∈Q,InP b x y h)(hA:imA Q e.t (stF e.st e.g) tu le sl=true)(hB:bX tu le sl ra=true)(T:TickP W Hh xs tu le sl ra x y h e)(h1:imS Q e.t (stF e.st e.g) tu le sl Q.length=Q1):bM Q1=true/\0<Q1.length/\(∃b∈Q1,InP b e.x e.y e.h)/\rcvB Q1 e.x e.y e.h=true:=by
 have hC2:=jY e.st T.cmd
 have hBi:=hB
 simp only[bX,Bool.and_eq_true,aS] at hBi
 simp only[cH,Bool.and_eq_true,aS] at hC2
 have hSS:=bF.1 kS
 have s1:bM Q1=true:=by rw[<-h1];exact bF.2 ⟨by rw[dP];exact hSS.1,imS_ok hSS.2 (by omega) (by omega) (by omega) (by omega) hA⟩
 have s2:∃b∈Q1,InP b e.x e.y e.h:=by rw[<-h1];exact wth_set hSS.2 kc T.wth
 exact⟨s1,by rw[<-h1,dP];exact k0,s2,rcv_in s1 (n7 T.goo).2.2 s2⟩
theorem rnd_se {W Hh:Int}{xs ks:List Int}{Q1:List T6}{tu le sl ra x y h:Int}{e:Ev}(hnz:∀z∈xs,1<=z/\z<=2)(kV:bC W Hh ks=true)(bl:dZ ks xs)(hB:bX tu le sl ra=true)(T:TickP W Hh xs tu le sl ra x y h e)(kS:bM Q1=true)(kc:∃b∈Q1,InP b e.x e.y e.h):
  0<(bL W Hh ks Q1 e.sc ra 32).length/\∃oo,lnO W Hh ks (cpL (bL W Hh ks Q1 e.sc ra 32)) e.sc ra=some oo/\0<oo.length/\RndP W Hh xs oo (cpL (bL W Hh ks Q1 e.sc ra 32)) e.x e.y e.h/\rcvB (cpL (bL W Hh ks Q1 e.sc ra 32)) e.x e.y e.h=true:=by
 have hBi:=hB
 simp only[bX,Bool.and_eq_true,aS] at hBi
 obtain⟨hV,⟨hx,hy⟩,hh⟩:=n7 T.goo
 have hv:=bh.1 hV
 obtain⟨r1,r2,oo,r3,r4⟩:=lost_step hV hnz bl hx hy hh (by omega) T.scn T.pla kS kc
 have hk:=bh.1 kV
 have hov:=ln_v kV r3
 have hok:=(jl (xs:=ks) (s:=e.sc) (g:=ra) ⟨hv.w0,hv.w1⟩ ⟨hv.h0,hv.h1⟩ (Q1.length+2*32) Q1 32 [] rfl (bF.1 kS).2 (fun b hb=>by cases hb)).1
 have hcp:=cpL_ok r1 hok
 have ho0:0<oo.length:=by
  have:=((bh.1 hov.1).idx (show inB W Hh 0 0=true from cC.2 (by have:=hv.w0;have:=hv.h0;omega))).2.2.2.2.1
  omega
 exact⟨r1,oo,r3,ho0,⟨hov.1,r4,hcp.1,hcp.2,nr_ref hv.w1 hv.h1 r1,r2⟩,rcv_in hcp.1 hh r2⟩
theorem run_evl {W Hh:Int}{xs:List Int}{tu le sl ra ax ay ah:Int}{n:Nat}{es:List Ev}(h:RunP W Hh xs tu le sl ra ax ay ah es):RunP W Hh xs tu le sl ra ax ay ah (evl n es):=fun i hi=>by
 rw[ef] at hi
 have k:=h i hi
 have g:=evl_G (n:=n) hi
 have z:∀j:Nat,j<=es.length->pzX ax (evl n es) j=pzX ax es j/\pzY ay (evl n es) j=pzY ay es j/\pzH ah (evl n es) j=pzH ah es j:=fun j hj=>by
  cases j with
  |zero=>exact⟨rfl,rfl,rfl⟩
  | succ j =>
   have:=evl_G (n:=n) (es:=es) (i:=j) (by omega)
   refine⟨?_,?_,?_⟩<;>simp only[pzX,pzY,pzH,this]
 obtain⟨z1,z2,z3⟩:=z i (by omega)
 rw[z1,z2,z3,g]
 exact⟨k.cmd,k.scn,k.pla,k.wth,k.goo⟩
theorem psl_evl {n:Nat}{es:List Ev}:psl (evl n es)=psl es:=by
 unfold psl
 refine List.ext_getElem? fun i=>?_
 rw[List.getElem?_map,List.getElem?_map]
 rcases Nat.lt_or_ge i es.length with h|h
 ·rw[me h,List.getElem?_eq_getElem h];rfl
 rw[List.getElem?_eq_none (by rw[ef];exact h),List.getElem?_eq_none h]
theorem psl_g {es:List Ev}{i:Nat}(h:i<es.length):g31 (psl es) i=(evG es i).x/\g32 (psl es) i=(evG es i).y/\g33 (psl es) i=(evG es i).h:=by
 have e:(psl es).getD i (0,0,0)=((evG es i).x,(evG es i).y,(evG es i).h):=by
  unfold psl
  rw[List.getD_eq_getElem?_getD,List.getElem?_map,List.getElem?_eq_getElem h,evG_eq h];rfl
 exact⟨congrArg (fun p:T3=>p.1) e,congrArg (fun p:T3=>p.2.1) e,congrArg (fun p:T3=>p.2.2) e⟩
theorem lmv_w (H:aa)(W Hh:Int)(pp:AV)(xs:List Int)(s:AV)(l:List T6)(tu le sl ra:Int)(bz:Nat)(t g:Int)(still:Bool)(Q1:List T6)(hQ1:imS l t (stF still g) tu le sl l.length=Q1)(hpp:zI H pp xs)(hs:Sl H 6 s l.length (r6 l))(hz:H[bz]? = some (.cells true 0 [.int .i64 W,.int .i64 Hh,pp,s,.int .i64 tu,.int .i64 le,.int .i64 sl,.int .i64 ra,.bool false]))(hS:bM l=true)(hl0:0<l.length)(hC:cH t g=true)(hB:bX tu le sl ra=true)(hA:imA l t (stF still g) tu le sl=true):
  zC 12 [.ptr (some (bz,0)),.agg [.int .i64 t,.int .i64 g],.bool still] H (.int .i64 0) (H.set bz (.cells true 0 [.int .i64 W,.int .i64 Hh,pp,.sl (some (H.length,0)) Q1.length none,.int .i64 tu,.int .i64 le,.int .i64 sl,.int .i64 ra,.bool false])++[.cells true 6 (r6 Q1)]):=by
 subst hQ1
 exact lmv_y H W Hh pp xs s l tu le sl ra bz t g still hpp hs hz hS hl0 hC hB hA
theorem lse_w (H:aa)(W Hh:Int)(pp:AV)(xs:List Int)(s:AV)(l:List T6)(tu le sl ra:Int)(bz:Nat)(q:AV)(sc:List (Int×Int))(Q2:List T6)(hQ2:cpL (bL W Hh xs l sc ra 32)=Q2)(hpp:zI H pp xs)(hs:Sl H 6 s l.length (r6 l))(hz:H[bz]? = some (.cells true 0 [.int .i64 W,.int .i64 Hh,pp,s,.int .i64 tu,.int .i64 le,.int .i64 sl,.int .i64 ra,.bool false]))(hq:SlP H q sc)(hV:bC W Hh xs=true)(hS:bM l=true)(hl0:0<l.length)(hsB:c7 sc=true)(hg:1<=ra/\ra<=32)(hR0:0<(bL W Hh xs l sc ra 32).length)(o:List Int)(ho:lnO W Hh xs Q2 sc ra=some o)(ho0:0<o.length):
  zC 13 [.ptr (some (bz,0)),q] H (.int .i64 0) (H.set bz (.cells true 0 [.int .i64 W,.int .i64 Hh,.sl (some (H.length,0)) o.length none,.sl (some (H.length+1,0)) Q2.length none,.int .i64 tu,.int .i64 le,.int .i64 sl,.int .i64 ra,.bool false])++[.cells true 1 (ints .u8 o),.cells true 6 (r6 Q2)]):=by
 subst hQ2
 exact lse_y H W Hh pp xs s l tu le sl ra bz q sc hpp hs hz hq hV hS hl0 hsB hg hR0 o ho ho0
theorem hhas_c (H:aa)(f c h:Int):zC 51 [.agg [iV f,iV c],iV h] H (.bool (hsgB f c h)) H:=by
 refine AcT true func51 ?_;intro hbel Q hQ
 refine aI ?_
 refine cd (jh _ f c) ?_
 refine aI ?_
 refine aY (fun h1=>?_) (fun h1=>?_)
 ·have h1d:=bsT h1
  have G1:=jn h1 @h1d
  refine ae G1 ?_
  refine cdr G1 (jO _ _) ?_
  exact eP hQ hbel (.bool (decide (((((IntKind.i64.wrap (h-f))%256).toNat:Nat):Int)<c))) results51 ⟨by first|(simp[hsgB,h1d];done)|(unfold hsgB;simp[h1d];done),rfl⟩
 have h1d:=bsT h1
 have G2:=jn h1 @h1d
 exact eR G2 hQ hbel (.bool false) results51 ⟨by first|(simp[hsgB,h1d];done)|(unfold hsgB;simp[h1d];done),rfl⟩
theorem bhas_c (H:aa)(x0 y0 x1 y1 f c px py ph:Int):zC 26 [.agg [iV x0,iV y0,iV x1,iV y1,iV f,iV c],.agg [iV px,iV py,iV ph]] H (.bool (hbB px py ph (x0,y0,x1,y1,f,c))) H:=by
 refine AcT true func26 ?_;intro hbel Q hQ
 refine aI ?_
 refine cd (ft _ _ _ _ _ f c) ?_
 refine aI ?_
 refine aY (fun h1=>?_) (fun h1=>?_)
 ·have h1d:=bsT h1
  have G3:=jn h1 @h1d
  refine rgs G3 (fun h2 h2d G4=>?_) (fun h2 h2d G11=>?_)
  ·refine rgs G4 (fun h3 h3d G5=>?_) (fun h3 h3d G10=>?_)
   ·refine rgs G5 (fun h4 h4d G6=>?_) (fun h4 h4d G9=>?_)
    ·refine rgs G6 (fun h5 h5d G7=>?_) (fun h5 h5d G8=>?_)
     ·refine ae G7 ?_
      refine cdr G7 (fV _ _ _ _ _ f c) ?_
      refine cdr G7 (hhas_c _ f c _) ?_
      exact eP hQ hbel (.bool (hsgB f c ph)) results26 ⟨by first|(simp[hbB,h1d,h2d,h3d,h4d,h5d];done)|(unfold hbB;simp[h1d,h2d,h3d,h4d,h5d];done)|(unfold hbB;simp[h1d,h2d,h3d,h4d,h5d];omega),rfl⟩
     exact eR G8 hQ hbel (.bool false) results26 ⟨by first|(simp[hbB,h1d,h2d,h3d,h4d,h5d];done)|(unfold hbB;simp[h1d,h2d,h3d,h4d,h5d];done)|(unfold hbB;simp[h1d,h2d,h3d,h4d,h5d];omega),rfl⟩
    exact eR G9 hQ hbel (.bool false) results26 ⟨by first|(simp[hbB,h1d,h2d,h3d,h4d];done)|(unfold hbB;simp[h1d,h2d,h3d,h4d];done)|(unfold hbB;simp[h1d,h2d,h3d,h4d];omega),rfl⟩
   exact eR G10 hQ hbel (.bool false) results26 ⟨by first|(simp[hbB,h1d,h2d,h3d];done)|(unfold hbB;simp[h1d,h2d,h3d];done)|(unfold hbB;simp[h1d,h2d,h3d];omega),rfl⟩
  exact eR G11 hQ hbel (.bool false) results26 ⟨by first|(simp[hbB,h1d,h2d];done)|(unfold hbB;simp[h1d,h2d];done)|(unfold hbB;simp[h1d,h2d];omega),rfl⟩
 have h1d:=bsT h1
 have G12:=jn h1 @h1d
 exact eR G12 hQ hbel (.bool false) results26 ⟨by first|(simp[hbB,h1d];done)|(unfold hbB;simp[h1d];done)|(unfold hbB;simp[h1d];omega),rfl⟩
theorem bcov1_c (H:aa)(x0 y0 x1 y1 f c px py ph:Int)(bz:Nat)(hz:∃o,H[bz]? = some (.cells o 0 [iV px,iV py,iV ph])):zC 25 [.agg [iV x0,iV y0,iV x1,iV y1,iV f,iV c],.ptr (some (bz,0))] H (.bool (hbB px py ph (x0,y0,x1,y1,f,c))) H:=by
 obtain⟨oz,hbz⟩:=hz
 have hblz:=getElem?_lt hbz
 have hb0z:=fun l=>ai (l:=l) hbz
 refine AcT true func25 ?_;intro hbel Q hQ
 have G13:=jn @hbz @hb0z
 refine ae G13 ?_
 refine cvr G13 (bhas_c _ _ _ _ _ f c _ _ _) ?_
 exact eP hQ hbel (.bool (hbB px py ph (x0,y0,x1,y1,f,c))) results25 ⟨rfl,rfl⟩
theorem bcov_c (H:aa)(s:AV)(l:List T6)(px py ph:Int)(hs:Sl H 6 s l.length (r6 l))(hl:l.length<=1000000000):zC 9 [s,.agg [iV px,iV py,iV ph]] H (.bool (covB l px py ph)) H:=by
 obtain⟨bs,os,cs,rfl,hbs,hbls,hb0s⟩:=zA1 hs
 refine AcT true func9 ?_;intro hbel Q hQ
 have G14:=jn @hbs @hb0s
 refine ae G14 ?_
 refine cvr G14 (jQ _ _ l (zA2 hb0s hbs) (by omega) _ [.ptr (some (H.length,0))] (by kernel_rfl) (by simp[AV.bels,AV.bel]) (hbB px py ph) (fun j hj=>bcov1_c _ _ _ _ _ _ _ px py ph _ ⟨_,by first|(rw[bO];rfl)|(rw[dp];rfl)⟩)) ?_
 exact eP hQ hbel (.bool (l.any (hbB px py ph))) results9 ⟨rfl,rfl⟩
theorem nar_c (H:aa)(s:AV)(l:List T6)(hs:Sl H 6 s l.length (r6 l))(hl:l.length<=9223372036854775807):zC 6 [s] H (.bool (narB l)) H:=by
 obtain⟨bs,os,cs,rfl,hbs,hbls,hb0s⟩:=zA1 hs
 refine AcT true func6 ?_;intro hbel Q hQ
 have G15:=jn @hbs @hb0s
 refine ae G15 ?_
 refine glp (fun k F Hx=>∃i:Nat,i+k=l.length/\(∀j:Nat,j<i->¬6<g66 l j)/\F=[(0,.sl (some (bs,0)) l.length cs),(3,iV (i:Int))]/\H=Hx) (l.length) ?_ ?_
 ·refine⟨_,_,_,⟨0,by omega,(fun j h=>by omega),rfl,rfl⟩,Abs.by0 hbel ?_⟩
  exact aD
 rintro k0 F Hx ⟨i,hm0,hal,rfl,rfl⟩ J0 hJ0
 refine rcs G15 (fun h1 h1d _=>?_) (fun h1 h1d G19=>?_)
 ·have hlt:i<l.length:=by omega
  have q2:=r6_at5 (l:=l) (j:=i) (by omega)
  have G16:=jn h1 (jn h1d (jn @ce (jn q2 G15)))
  refine rcs G16 (fun h3 h3d G17=>?_) (fun h3 h3d G18=>?_)
  ·have hfinN:=nar_f hlt h3d
   exact eS G17 hQ hbel (.bool false) results6 ⟨by first|(rw[hfinN];done)|(rw[hfinN];rfl),rfl⟩
  have hn6:=h3d
  refine ae G18 ?_
  refine hJ0 _ _ ⟨k0-1,by omega,_,_,_,⟨i+1,by omega,fun j hj=>by
        rcases Nat.lt_or_ge j i with h|h
        ·exact hal j h
        rw[show j=i by omega];omega,rfl,rfl⟩,Abs.by0 hbel ?_⟩
  exact aD
 obtain rfl:i=l.length:=by omega
 have hfinN:=nar_e hal
 exact eS G19 hQ hbel (.bool (decide ((l.length:Int)<=3))) results6 ⟨by first|(rw[hfinN];done)|(rw[hfinN];rfl),rfl⟩
theorem below_c (H:aa)(W Hh:Int)(kk:AV)(ks:List Int)(W2 Hh2:Int)(pp:AV)(xs:List Int)(hkk:zI H kk ks)(hpp:zI H pp xs)(hVk:bC W Hh ks=true)(hVx:bC W2 Hh2 xs=true)(he1:W=W2)(he2:Hh=Hh2)(hbe:dZ ks xs):zC 16 [.agg [iV W,iV Hh,kk],.agg [iV W2,iV Hh2,pp]] H (.bool true) H:=by
 obtain⟨bkk,okk,ckk,rfl,hbkk,hblkk,hb0kk⟩:=zA1 hkk
 obtain⟨bpp,opp,cpp,rfl,hbpp,hblpp,hb0pp⟩:=zA1 hpp
 have hba:(W != W2)=false:=by rw[he1];simp
 have hbb:(Hh != Hh2)=false:=by rw[he2];simp
 have hlk:=hbe.1
 have hVV:=bh.1 hVk
 have hx6:ks.length<=1000000:=by have h4:=hVV.len;have:=Int.mul_le_mul hVV.w1 hVV.h1 (by have:=hVV.h0;omega) (by decide);omega
 refine AcT true func16 ?_;intro hbel Q hQ
 have G20:=jn @hbkk (jn @hb0kk (jn @hbpp (jn @hb0pp (jn @hVk (jn @hVx (jn @hba @hbb))))))
 refine ae G20 ?_
 refine cvr G20 (d3 _ W Hh _ ks (.inr (zA2 hb0kk hbkk))) ?_
 refine cvr G20 (d3 _ W2 Hh2 _ xs (.inr (zA2 hb0pp hbpp))) ?_
 refine glp (fun k F Hx=>∃i:Nat,i+k=ks.length/\F=[(3,.ptr (some (H.length,0))),(30,.sl (some (bkk,0)) ks.length ckk),(31,iV (ks.length:Int)),(32,iV (i:Int))]/\Hx=H++[.cells true 0 [iV W2,iV Hh2,.sl (some (bpp,0)) xs.length cpp]]) (ks.length) ?_ ?_
 ·refine⟨_,_,_,⟨0,by omega,rfl,rfl⟩,bS hbel [1] aD⟩
 rintro k0 F Hx ⟨i,hm0,rfl,rfl⟩ J0 hJ0
 refine rcs G20 (fun h1 h1d _=>?_) (fun h1 h1d G25=>?_)
 ·have hlt:i<ks.length:=by omega
  have q2:=cS (k:=.u8) (xs:=ks) (j:=i) (by omega)
  have G21:=jn h1 (jn h1d (jn q2 G20))
  refine rgs G21 (fun h3 h3d _=>?_) (fun h3 h3d _=>?_)
  ·have h3n:=bnT h3
   have hne:¬gi ks i=0:=by first|exact h3d|simpa using h3d
   have q4:=cS (k:=.u8) (xs:=xs) (j:=i) (by omega)
   have G22:=jn h3 (jn h3n (jn @aP (jn @aO (jn q4 G21))))
   refine rcs G22 (fun h5 h5d _=>?_) (fun h5 h5d _=>?_)
   ·have h5n:=bnT h5
    exact absurd ((hbe.2 i).resolve_left hne).symm (by first|exact h5d|simpa using h5d)
   have h5n:=bnT h5
   have G23:=j2 h5 h5n G22
   refine ae G23 ?_
   refine hJ0 _ _ ⟨k0-1,by omega,_,_,_,⟨i+1,by omega,rfl,rfl⟩,bS hbel [0] aD⟩
  have h3n:=bnT h3
  have G24:=jn h3 (jn h3n (jn @aP (jn @aO G21)))
  refine ae G24 ?_
  refine hJ0 _ _ ⟨k0-1,by omega,_,_,_,⟨i+1,by omega,rfl,rfl⟩,bS hbel [0] aD⟩
 exact eR G25 hQ hbel (.bool true) results16 ⟨rfl,rfl⟩
def vlC (vl:List Int) (i:Nat):Bool:=(IntKind.u8.wrap ((BitVec.ofInt IntKind.u8.bits (Int.fdiv (gi vl (i/8)) (2 ^ (min (i%8) 8))) &&& BitVec.ofInt IntKind.u8.bits 1).toNat:Nat))!=0
def vlK (xs vl:List Int):Nat->List Int
 |0=>xs
 |i+1=>if (decide ((i:Int)<IntKind.i64.wrap (8*(vl.length:Int)))&&vlC vl i)=true then (vlK xs vl i).set i 0 else vlK xs vl i
def vlP (xs vl:List Int):List Int:=vlK xs vl xs.length
theorem oP (xs vl:List Int):∀i:Nat,i<=xs.length->dZ (vlK xs vl i) xs
 |0,_=>⟨rfl,fun i=>.inr rfl⟩
 | i+1,hi=>by
  have ih:=oP xs vl i (by omega)
  unfold vlK
  split
  ·refine⟨by rw[List.length_set];exact ih.1,fun j=>?_⟩
   rw[oE (by rw[ih.1];omega)]
   split
   ·exact .inl rfl
   exact ih.2 j
  exact ih
theorem vlP_bel (xs vl:List Int):dZ (vlP xs vl) xs:=oP xs vl _ (Nat.le_refl _)
theorem vl_idx {vl:List Int}{i:Nat}(h:(i:Int)<IntKind.i64.wrap (8*(vl.length:Int)))(hi:i<64):i/8<vl.length:=by
 rcases Nat.lt_or_ge vl.length 8 with k|k
 ·rw[iS (by omega) (by omega)] at h;omega
 omega
theorem vlK_o {xs vl:List Int}{n:Nat}(h:¬(n:Int)<IntKind.i64.wrap (8*(vl.length:Int))):vlK xs vl (n+1)=vlK xs vl n:=if_neg (by rw[decide_eq_false h];simp)
theorem vlK_out {xs vl:List Int}{i:Nat}(h:¬(i:Int)<IntKind.i64.wrap (8*(vl.length:Int))):∀{j:Nat},vlK xs vl (i+j)=vlK xs vl i
 |0=>rfl
 |j+1=>(vlK_o (n:=i+j) (by omega)).trans (vlK_out h)
theorem vlK_t {xs vl:List Int}{i:Nat}(h:(i:Int)<IntKind.i64.wrap (8*(vl.length:Int)))(k:vlC vl i=true):vlK xs vl (i+1)=(vlK xs vl i).set i 0:=if_pos (by rw[decide_eq_true h,k];rfl)
theorem vlK_f {xs vl:List Int}{i:Nat}(k:vlC vl i=false):vlK xs vl (i+1)=vlK xs vl i:=if_neg (by rw[k];simp)
theorem jp (a:Nat):Int.tmod (a:Int) 8=((a%8:Nat):Int):=rfl
theorem ip (a:Nat):Int.tdiv (a:Int) 8=((a/8:Nat):Int):=rfl
theorem veil_c (H:aa)(W Hh:Int)(pp:AV)(xs:List Int)(v:AV)(vls:List Int)(hpp:zI H pp xs)(hv:zI H v vls)(hx0:0<xs.length)(hx6:xs.length<=64)(hv6:vls.length<=9223372036854775807):zC 11 [.agg [iV W,iV Hh,pp],v] H (.agg [iV W,iV Hh,.sl (some (H.length,0)) ((vlP xs vls).length) none]) (H++[.cells true 1 (ints .u8 (vlP xs vls))]):=by
 obtain⟨bpp,opp,cpp,rfl,hbpp,hblpp,hb0pp⟩:=zA1 hpp
 obtain⟨bv,ov,cv,rfl,hbv,hblv,hb0v⟩:=zA1 hv
 have hsfz:(xs.length==0)=false:=beq_eq_false_iff_ne.2 (by omega)
 have hsfd:decide (0<xs.length)=true:=decide_eq_true hx0
 (refine bI func11 _ rfl (Nat.le_of_ble_eq_true (by kernel_rfl)) rfl ?_;intro hbel Q hQ hQ' c hc;unfold Tryz.f11 at hc;simp only[Option.some.injEq] at hc;subst hc;clear hQ')
 refine jM false try_mixed (by kernel_rfl) (fun F Hx=>look F 1=.sl (some (bv,0)) vls.length cv/\look F 2=.ptr (some (H.length,0))/\look F 4=.ptr (some (H.length+1,0))/\Hx=H++[.cells true 0 [iV W,iV Hh,.sl (some (bpp,0)) xs.length cpp],.cells true 0 [iV 0,iV 0,.sl none 0 (some 0)]]) ?_ ?_
 ·have G1:=jn @hbpp (jn @hb0pp (jn @hbv (jn @hb0v (jn @jp (jn @ip (jn @hsfz @hsfd))))))
  refine ae G1 ?_
  refine aC ?_
  exact absT
 rintro F Hx ⟨f1,f2,f3,rfl⟩
 refine bT false try_mixed [[0,1,2,3,4,5,6,7,8,9,10],[0,1,2,3,4,5,6,9,7,8,10],[0,1,2,3,5,6,9,4,7,8,10]] (by kernel_rfl) (fun F2 H2=>F2=[(1,.sl (some (bv,0)) vls.length cv),(4,.ptr (some (H.length,0))),(5,.ptr (some (H.length+2,0)))]/\H2=H++[.cells true 0 [iV 0,iV 0,.sl none 0 (some 0)],.cells true 1 (ints .u8 xs),.cells true 0 [iV W,iV Hh,.sl (some (H.length+1,0)) xs.length none]]) ?_ ?_
 ·refine am ?_ (am ?_ (am ?_ (bP)))<;>intro J hJ
  ·have G2:=jn @hbpp (jn @hb0pp (jn @hbv (jn @hb0v (jn @f1 (jn @f2 (jn @f3 (jn @bZ (jn @cU (jn @nb (jn @jp (jn @ip (jn @hsfz @hsfd))))))))))))
   refine ak G2 ?_
   refine aC (hJ _ _ ⟨_,_,_,⟨rfl,rfl⟩,bS hbel [1,3,4] (az (jn @f1 (jn @f2 @f3)))⟩)
  ·have G3:=jn @hbpp (jn @hb0pp (jn @hbv (jn @hb0v (jn @f1 (jn @f2 (jn @f3 (jn @bZ (jn @cU (jn @nb (jn @jp (jn @ip (jn @hsfz @hsfd))))))))))))
   refine ak G3 ?_
   refine aC (hJ _ _ ⟨_,_,_,⟨rfl,rfl⟩,bS hbel [1,4,3] (az (jn @f1 (jn @f2 @f3)))⟩)
  have G4:=jn @hbpp (jn @hb0pp (jn @hbv (jn @hb0v (jn @f1 (jn @f2 (jn @f3 (jn @bZ (jn @cU (jn @nb (jn @jp (jn @ip (jn @hsfz @hsfd))))))))))))
  refine ak G4 ?_
  refine aC (hJ _ _ ⟨_,_,_,⟨rfl,rfl⟩,bS hbel [1,4,2] (az (jn @f1 (jn @f2 @f3)))⟩)
 rintro F2 H2 ⟨rfl,rfl⟩
 refine fnF ?_
 have G5:=jn @hbpp (jn @hb0pp (jn @hbv (jn @hb0v (jn @bZ (jn @cU (jn @jp (jn @ip (jn @hsfz @hsfd))))))))
 refine ae G5 ?_
 refine glp (fun k F Hx=>∃i:Nat,i+k=xs.length/\F=[(1,.sl (some (bv,0)) vls.length cv),(4,.ptr (some (H.length,0))),(5,.ptr (some (H.length+2,0))),(6,iV (i:Int))]/\Hx=H++[.cells true 0 [iV 0,iV 0,.sl none 0 (some 0)],.cells true 1 (ints .u8 (vlK xs vls i)),.cells true 0 [iV W,iV Hh,.sl (some (H.length+1,0)) ((vlK xs vls i).length) none]]) (xs.length) ?_ ?_
 ·refine⟨_,_,_,⟨0,by omega,rfl,rfl⟩,bS hbel [0,1,2] (az @vlK.eq_1)⟩
 rintro k0 F Hx ⟨i,hm0,rfl,rfl⟩ J0 hJ0
 have hvl:=(oP xs vls i (by omega)).1
 refine rgs G5 (fun h4 h4d G6=>?_) (fun h4 h4d G11=>?_)
 ·have hlt:i<xs.length:=by omega
  refine rcs G6 (fun h5 h5d _=>?_) (fun h5 h5d G10=>?_)
  ·have hb8:=h5d
   have hi8:=vl_idx hb8 (by omega)
   have q6:=cS (k:=.u8) (xs:=vls) (j:=i/8) (by omega)
   have G7:=jn h5 (jn h5d (jn q6 G6))
   refine rcs G7 (fun h7 h7d _=>?_) (fun h7 h7d _=>?_)
   ·have h7n:=bnT h7
    have hst:=vlK_t (xs:=xs) hb8 (show vlC vls i=true from h7)
    have G8:=jn h7 (jn h7n (jn @aP (jn @aO (jn @jv (jn @List.length_set.{0} G7)))))
    refine ae G8 ?_
    refine hJ0 _ _ ⟨k0-1,by omega,_,_,_,⟨i+1,by omega,rfl,rfl⟩,bS hbel [0,1,2] (az (jn @hst @List.length_set.{0}))⟩
   have h7n:=bnT h7
   have hst:=vlK_f (xs:=xs) (show vlC vls i=false from h7)
   have G9:=jn h7 (jn h7n (jn @aP (jn @aO G7)))
   refine ae G9 ?_
   refine hJ0 _ _ ⟨k0-1,by omega,_,_,_,⟨i+1,by omega,rfl,rfl⟩,bS hbel [0,1,2] (az (jn @hst @List.length_set.{0}))⟩
  have hfinV:vlP xs vls=vlK xs vls i:=by
   have q:=vlK_out (xs:=xs) (j:=xs.length-i) h5d
   rwa [show i+(xs.length-i)=xs.length by omega] at q
  refine ae G10 ?_
  refine hQ _ _ (aW (.inl rfl) hbel (x1:=.agg [iV W,iV Hh,.sl (some (H.length+1,0)) ((vlK xs vls i).length) none]) (l2:=[.cells true 1 (ints .u8 (vlK xs vls i))]) (.agg [iV W,iV Hh,.sl (some (H.length,0)) ((vlK xs vls i).length) none]) (aZ results11) [] rfl [1] (by decide) ⟨by first|(rw[hfinV];done)|(rw[hfinV];rfl),by first|(rw[hfinV];done)|(rw[hfinV];rfl)⟩ ?_)
  exact aD
 have hfinV:vlP xs vls=vlK xs vls i:=by unfold vlP;rw[show i=xs.length by omega]
 refine ae G11 ?_
 refine hQ _ _ (aW (.inl rfl) hbel (x1:=.agg [iV W,iV Hh,.sl (some (H.length+1,0)) ((vlK xs vls i).length) none]) (l2:=[.cells true 1 (ints .u8 (vlK xs vls i))]) (.agg [iV W,iV Hh,.sl (some (H.length,0)) ((vlK xs vls i).length) none]) (aZ results11) [] rfl [1] (by decide) ⟨by first|(rw[hfinV];done)|(rw[hfinV];rfl),by first|(rw[hfinV];done)|(rw[hfinV];rfl)⟩ ?_)
 exact aD
def idz (xs:List Int):Int:=Lib.indexByte (Lib.bytesOf xs) 0
def fcE (W Hh:Int) (xs:List Int):Int:=if bC W Hh xs=true then (if 0<=idz xs then 3 else 0) else 1
theorem idz_bld {W Hh:Int}{xs:List Int}(h0:∀z∈xs,0<=z)(h:fcE W Hh xs=0):ey W Hh xs=true:=by
 unfold fcE at h
 split at h
 ·rename_i hV
  split at h
  ·cases h
  rename_i hi
  have hm:idz xs = -1:=by have:=Lib.indexByte_ge (Lib.bytesOf xs) 0;unfold idz at hi ⊢;omega
  have hn:=Lib.indexByte_none (l:=Lib.bytesOf xs) (c:=0) hm
  unfold ey
  rw[hV,Bool.true_and,Bool.not_eq_true',List.any_eq_false]
  intro v hv
  obtain⟨j,hj,rfl⟩:=List.mem_iff_getElem.1 hv
  intro hz
  rw[beq_iff_eq] at hz
  refine hn j ?_
  unfold Lib.bytesOf
  rw[List.getElem?_map,List.getElem?_eq_getElem hj,hz]
  rfl
 cases h
def ftX (a:Int) (m:Nat):Int:=((a-20)/64-1)+(m:Int)
def ftN (a:Int):Nat:=((a+20)/64-(a-20)/64+3).toNat
def ftC (W Hh:Int) (xs:List Int) (x y:Int) (n m:Nat):Bool:=sqO (ftX x m) (ftX y n)&&((atI W Hh xs (ftX x m) (ftX y n)==2)&&decide (gapP x y (ftX x m*64) (ftX y n*64) (ftX x m*64+64) (ftX y n*64+64)<=400))
def iC (W Hh:Int) (xs:List Int) (x y:Int):Bool:=!((List.range (ftN y)).any fun n=>(List.range (ftN x)).any fun m=>ftC W Hh xs x y n m)&&gy W Hh x y
section
variable {W Hh:Int} {xs:List Int} {x y:Int} {n m:Nat}
theorem ft_y (hn:n<ftN y)(hm:m<ftN x)(h:ftC W Hh xs x y n m=true):iC W Hh xs x y=false:=by
 unfold iC
 rw[show ((List.range (ftN y)).any fun n=>(List.range (ftN x)).any fun m=>ftC W Hh xs x y n m)=true from List.any_eq_true.2 ⟨n,List.mem_range.2 hn,List.any_eq_true.2 ⟨m,List.mem_range.2 hm,h⟩⟩]
 rfl
theorem ft_n (h:∀n:Nat,n<ftN y->∀m:Nat,m<ftN x->ftC W Hh xs x y n m=false):iC W Hh xs x y=gy W Hh x y:=by
 unfold iC
 rw [show ((List.range (ftN y)).any fun n=>(List.range (ftN x)).any fun m=>ftC W Hh xs x y n m)=false from by
  rw[List.any_eq_false]
  intro n hn
  rw[Bool.not_eq_true,List.any_eq_false]
  intro m hm
  rw[h n (List.mem_range.1 hn) m (List.mem_range.1 hm)];decide]
 rfl
end
theorem bindexg_c (H:aa)(s:AV)(xs:List Int)(hs:zI H s xs):zC 76 [s,.int .u8 0] H (iV (idz xs)) H:=fun E w vs hE hv=>by
 obtain⟨b,o,c,rfl,hb⟩:=hs
 match vs,hv with
 |[],hv=>exact absurd hv.1 (by simp)
 |[_],hv=>exact absurd hv.1 (by simp)
 |_::_::_::_,hv=>exact absurd hv.1 (by simp)
 |[v1,v2],hv =>
 obtain⟨k1,hv⟩:=hv.uncons
 obtain⟨k2,-⟩:=hv.uncons
 obtain rfl:=jK k2
 obtain⟨h0,rfl⟩|⟨a,c,rfl,h⟩:=lZ hE hb rfl k1
 ·refine(Tryz.bytes_IndexByte_nil 0 w).mono fun e w' ⟨he,hw⟩=>?_
  subst hw
  have e0:idz xs = -1:=by rw[List.length_eq_zero_iff.1 h0];rfl
  rw[e0]
  exact⟨E,_,H,_,he,⟨rfl,rfl⟩,.refl E,.int _ _,hE⟩
 have hc:∀i,i<xs.length->w.cell? (a.add i)=some (.int .u8 (xs.getD i 0)):=fun i hi=>by
  rcases h with h0|⟨rfl,hc⟩
  ·omega
  rw[dm];exact hc i hi
 refine(Tryz.bytes_IndexByte_at a _ c xs 0 w rfl hc).mono fun e w' ⟨he,hw⟩=>?_
 subst hw
 exact⟨E,_,H,_,he,⟨rfl,rfl⟩,.refl E,.int _ _,hE⟩
theorem fchkg_c (H:aa)(W Hh:Int)(pp:AV)(xs:List Int)(hpp:zI H pp xs):zC 39 [.agg [iV W,iV Hh,pp]] H (iV (fcE W Hh xs)) H:=by
 obtain⟨bpp,opp,cpp,rfl,hbpp,hblpp,hb0pp⟩:=zA1 hpp
 refine AcT true func39 ?_;intro hbel Q hQ
 have G1:=jn @hbpp @hb0pp
 refine ae G1 ?_
 refine cv (d3 _ W Hh _ xs (.inr (zA2 hb0pp hbpp))) ?_
 refine rcs G1 (fun h1 h1d G2=>?_) (fun h1 h1d G3=>?_)
 ·have hfinV:bC W Hh xs=false:=h1d
  have hfinE:fcE W Hh xs=1:=if_neg (by rw[hfinV];decide)
  exact eR G2 hQ hbel (iV 1) results39 ⟨by first|(rw[hfinE];done)|(rw[hfinE];rfl),rfl⟩
 have hfinV:=h1d
 refine ae G3 ?_
 refine cv (bindexg_c _ _ xs (zA2 hb0pp hbpp)) ?_
 refine rcs G3 (fun h2 h2d G4=>?_) (fun h2 h2d G5=>?_)
 ·have hfinE:fcE W Hh xs=3:=by unfold fcE;rw[if_pos hfinV,if_pos h2d]
  exact eR G4 hQ hbel (iV 3) results39 ⟨by first|(rw[hfinE];done)|(rw[hfinE];rfl),rfl⟩
 have hfinE:fcE W Hh xs=0:=by unfold fcE;rw[if_pos hfinV,if_neg (by omega)]
 exact eR G5 hQ hbel (iV 0) results39 ⟨by first|(rw[hfinE];done)|(rw[hfinE];rfl),rfl⟩
theorem fitsg_c (H:aa)(W Hh:Int)(pp:AV)(xs:List Int)(x y:Int)(hpp:zI H pp xs)(hBl:ey W Hh xs=true)(hnz:∀v∈xs,1<=v/\v<=2)(hp:ptB x y=true):zC 41 [.agg [iV W,iV Hh,pp],.agg [iV x,iV y],iV 20] H (.bool (iC W Hh xs x y)) H:=by
 obtain⟨bpp,opp,cpp,rfl,hbpp,hblpp,hb0pp⟩:=zA1 hpp
 have hV:bC W Hh xs=true:=by have hh:=hBl;unfold ey at hh;rw[Bool.and_eq_true] at hh;exact hh.1
 have hVV:=bh.1 hV
 have hw0:=hVV.w0
 have hw1:=hVV.w1
 have hh0:=hVV.h0
 have hh1:=hVV.h1
 have hx0:0<xs.length:=by have:=(hVV.idx (show inB W Hh 0 0=true from cC.2 (by omega))).2.2.2.2.1;omega
 have hpp:=hp
 simp only[ptB,Bool.and_eq_true,aH] at hpp
 have hlp:lnP x y=true:=cE.2 (by omega)
 refine AcT true func41 ?_;intro hbel Q hQ
 have G6:=jn @hbpp @hb0pp
 refine ae G6 ?_
 refine cvr G6 (pof_c _ x y (by assumption)) ?_
 refine cvr G6 (fcheck0_c _ W _ _ xs (zA2 hb0pp hbpp) hBl hnz) ?_
 refine cvr G6 (l5 _ _ (by omega)) ?_
 refine glp (fun k F Hx=>∃n:Nat,n+k=((y+20)/64-(y-20)/64+3).toNat/\(∀a:Nat,a<n->∀b:Nat,b<ftN x->ftC W Hh xs x y a b=false)/\F=[(2,iV 20),(3,.ptr (some (H.length,0))),(4,.ptr (some (H.length+1,0))),(9,iV ((((y-20)/64)-1)+(n:Int)))]/\Hx=H++[.cells true 0 [iV W,iV Hh,.sl (some (bpp,0)) xs.length cpp],.cells true 0 [iV x,iV y]]) (((y+20)/64-(y-20)/64+3).toNat) ?_ ?_
 ·refine⟨_,_,_,⟨0,by omega,fun a h=>by omega,rfl,rfl⟩,bS hbel [0,1] (aN (jn @Int.natCast_zero @Int.add_zero))⟩
 rintro k0 F Hx ⟨n,hm0,hon,rfl,rfl⟩ J0 hJ0
 refine ae G6 ?_
 refine cv (l5 _ _ (by omega)) ?_
 refine rcs G6 (fun h1 h1d G7=>?_) (fun h1 h1d G16=>?_)
 ·have hnt:n<ftN y:=by unfold ftN;omega
  refine ae G7 ?_
  refine cvr G7 (l5 _ _ (by omega)) ?_
  refine glp (fun k F Hx=>∃m:Nat,m+k=((x+20)/64-(x-20)/64+3).toNat/\(∀b:Nat,b<m->ftC W Hh xs x y n b=false)/\F=[(2,iV 20),(3,.ptr (some (H.length,0))),(4,.ptr (some (H.length+1,0))),(9,iV ((((y-20)/64)-1)+(n:Int))),(10,iV ((((x-20)/64)-1)+(m:Int)))]/\Hx=H++[.cells true 0 [iV W,iV Hh,.sl (some (bpp,0)) xs.length cpp],.cells true 0 [iV x,iV y]]) (((x+20)/64-(x-20)/64+3).toNat) ?_ ?_
  ·refine⟨_,_,_,⟨0,by omega,fun b h=>by omega,rfl,rfl⟩,bS hbel [0,1] (aN (jn @Int.natCast_zero @Int.add_zero))⟩
  rintro k1 F Hx ⟨m,hm1,him,rfl,rfl⟩ J1 hJ1
  refine ae G7 ?_
  refine cv (l5 _ _ (by omega)) ?_
  refine rcs G7 (fun h2 h2d G8=>?_) (fun h2 h2d G15=>?_)
  ·have hmt:m<ftN x:=by unfold ftN;omega
   refine ae G8 ?_
   rcases Bool.eq_false_or_eq_true (sqO ((((x-20)/64)-1)+(m:Int)) ((((y-20)/64)-1)+(n:Int))) with h3|h3
   ·have h3d:=h3
    have hsqT:=h3d
    refine cv (nL _ _ _ (by assumption)) ?_
    have G9:=j2 h3 h3d G8
    refine ae G9 ?_
    refine cv (fvalue_c _ W _ _ xs _ _ (zA2 hb0pp hbpp) hV) ?_
    refine rgs G9 (fun h4 h4d _=>?_) (fun h4 h4d _=>?_)
    ·have h4n:=bnT h4
     have hat2:=h4d
     have hlr:lnR (((((x-20)/64)-1)+(m:Int))*64) (((((y-20)/64)-1)+(n:Int))*64) (((((x-20)/64)-1)+(m:Int))*64+64) (((((y-20)/64)-1)+(n:Int))*64+64)=true:=bA.2 (by omega)
     have G10:=jn h4 (jn h4n (jn @aP (jn @aO G9)))
     refine ae G10 ?_
     refine cv (gap_c _ x y _ _ _ _ (by assumption) (by assumption)) ?_
     refine rcs G10 (fun h5 h5d G11=>?_) (fun h5 h5d G12=>?_)
     ·have hfinF:iC W Hh xs x y=false:=ft_y (n:=n) (m:=m) hnt hmt (by unfold ftC;rw[show sqO (ftX x m) (ftX y n)=true from hsqT,show (atI W Hh xs (ftX x m) (ftX y n)==2)=true from beq_iff_eq.2 (by first|exact hat2|simpa using hat2),Bool.true_and,Bool.true_and];exact decide_eq_true h5d)
      exact eR G11 hQ hbel (.bool false) results41 ⟨by first|(rw[hfinF];done)|(rw[hfinF];rfl),rfl⟩
     have hbc:ftC W Hh xs x y n m=false:=by unfold ftC;rw[show decide (gapP x y (ftX x m*64) (ftX y n*64) (ftX x m*64+64) (ftX y n*64+64)<=400)=false from decide_eq_false (by first|exact h5d|exact Int.not_le.2 h5d),Bool.and_false,Bool.and_false]
     refine ae G12 ?_
     refine hJ1 _ _ ⟨k1-1,by omega,_,_,_,⟨m+1,by omega,fun b hb=>by
           rcases Nat.lt_or_ge b m with z|z
           ·exact him b z
           rw[show b=m by omega];exact hbc,rfl,rfl⟩,bS hbel [0,1] (aN (jn @Int.natCast_add (jn @Int.natCast_one @Int.add_assoc)))⟩
    have h4n:=bnT h4
    have hbc:ftC W Hh xs x y n m=false:=by unfold ftC;rw[show (atI W Hh xs (ftX x m) (ftX y n)==2)=false from beq_eq_false_iff_ne.2 (by first|exact h4d|simpa using h4d)];exact Bool.and_false _
    have G13:=jn h4 (jn h4n (jn @aP (jn @aO G9)))
    refine ae G13 ?_
    refine hJ1 _ _ ⟨k1-1,by omega,_,_,_,⟨m+1,by omega,fun b hb=>by
          rcases Nat.lt_or_ge b m with z|z
          ·exact him b z
          rw[show b=m by omega];exact hbc,rfl,rfl⟩,bS hbel [0,1] (aN (jn @Int.natCast_add (jn @Int.natCast_one @Int.add_assoc)))⟩
   have h3d:=h3
   have hbc:ftC W Hh xs x y n m=false:=by unfold ftC;rw[show sqO (ftX x m) (ftX y n)=false from h3d];rfl
   refine cv (psqr_f _ _ _ (by assumption)) ?_
   have G14:=j2 h3 h3d G8
   refine ae G14 ?_
   refine hJ1 _ _ ⟨k1-1,by omega,_,_,_,⟨m+1,by omega,fun b hb=>by
         rcases Nat.lt_or_ge b m with z|z
         ·exact him b z
         rw[show b=m by omega];exact hbc,rfl,rfl⟩,bS hbel [0,1] (aN (jn @Int.natCast_add (jn @Int.natCast_one @Int.add_assoc)))⟩
  have hrow:∀b:Nat,b<ftN x->ftC W Hh xs x y n b=false:=fun b hb=>him b (by unfold ftN at hb;omega)
  refine ae G15 ?_
  refine hJ0 _ _ ⟨k0-1,by omega,_,_,_,⟨n+1,by omega,fun a ha b hb=>by
        rcases Nat.lt_or_ge a n with z|z
        ·exact hon a z b hb
        rw[show a=n by omega];exact hrow b hb,rfl,rfl⟩,bS hbel [0,1] (aN (jn @Int.natCast_add (jn @Int.natCast_one @Int.add_assoc)))⟩
 have hfinF:iC W Hh xs x y=gy W Hh x y:=ft_n (fun a ha b hb=>hon a (by unfold ftN at ha;omega) b hb)
 refine ae G16 ?_
 refine cvr G16 (finside_c _ W _ _ xs x y (zA2 hb0pp hbpp) hV) ?_
 exact eP hQ hbel (.bool (gy W Hh x y)) results41 ⟨by first|(rw[hfinF];done)|(rw[hfinF];rfl),rfl⟩
theorem blg_in {W Hh:Int}{xs:List Int}{px py qx qy:Int}(h:bwB W Hh xs px py qx qy=false):(0<=qx/\qx<=64*W)/\0<=qy/\qy<=64*Hh:=by
 by_cases hi:(0<=qx/\qx<=64*W)/\0<=qy/\qy<=64*Hh
 ·exact hi
 exfalso
 have hat:atI W Hh xs (qx/64) (qy/64)=2:=by
  unfold atI
  rw[d7.2 (by omega)];rfl
 have hg:∀a:Int,dX a (a/64*64) ((a/64+1)*64)=0:=fun a=>by
  unfold dX
  repeat' split
  all_goals omega
 have ht:ptO px py qx qy (qx/64*64) (qy/64*64) ((qx/64+1)*64) ((qy/64+1)*64)=true:=by
  unfold ptO gapP
  rw[hg qx,hg qy];simp
 have m1:=dU (a:=px) (b:=qx)
 have x1:=dV (a:=px) (b:=qx)
 have m2:=dU (a:=py) (b:=qy)
 have x2:=dV (a:=py) (b:=qy)
 have e1:bwX px qx (qx/64-((mnI px qx-20)/64-1)).toNat=qx/64:=by unfold bwX;omega
 have e2:bwX py qy (qy/64-((mnI py qy-20)/64-1)).toNat=qy/64:=by unfold bwX;omega
 have:=bw_y (W:=W) (Hh:=Hh) (xs:=xs) (px:=px) (py:=py) (qx:=qx) (qy:=qy) (n:=(qy/64-((mnI py qy-20)/64-1)).toNat) (m:=(qx/64-((mnI px qx-20)/64-1)).toNat) (by unfold bwN;omega) (by unfold bwN;omega) (l6 (by rw[e1,e2];exact hat) (by rw[e1,e2];exact ht))
 rw[h] at this;cases this
theorem sg_wth {W Hh:Int}{xs:List Int}{ax ay ah t f eT eL eX eY tu le sl ra:Int}(hG:e9 W Hh xs ax ay ah=true)(hB:bX tu le sl ra=true)(hC:cH t f=true)(h1 : -tu<=eT/\eT<=tu)(h2 : -le<=eL/\eL<=le)(h3 : -sl<=eX/\eX<=sl)(h4 : -sl<=eY/\eY<=sl):
  e9 W Hh xs (sgX W Hh xs ax ay ah t f eT eL eX eY) (sgY W Hh xs ax ay ah t f eT eL eX eY) (nxH ax ay ah t f eT eL eX eY)=true/\wthB tu le sl ra ax ay ah t f (sgX W Hh xs ax ay ah t f eT eL eX eY) (sgY W Hh xs ax ay ah t f eT eL eX eY) (nxH ax ay ah t f eT eL eX eY) (sbB W Hh xs ax ay ah t f eT eL eX eY)=true:=by
 have hG':=hG
 unfold e9 at hG'
 rw[Bool.and_eq_true] at hG'
 obtain⟨hI,hP⟩:=hG'
 obtain⟨hV,hax,hay⟩:=fa.1 hI
 have hv:=bh.1 hV
 have hw1:=hv.w1
 have hh1:=hv.h1
 have hPi:=cK.1 hP
 have hbt:=aS.1 hPi.2
 have hBi:=hB
 simp only[bX,Bool.and_eq_true,aS] at hBi
 have hCi:=hC
 simp only[cH,Bool.and_eq_true,aS,aH] at hCi
 have hr:f0 eT eL eX eY=true:=by unfold f0;simp only[Bool.and_eq_true,aH];omega
 have hnh:0<=nhI ah t eT/\nhI ah t eT<=255:=by unfold nhI;omega
 have hmx:0<=mxI (f+eL) 0/\mxI (f+eL) 0<=48:=by unfold mxI;split<;>omega
 have hwb:=jd (nhI ah t eT) hmx.1
 have hrx:ax-56<=rwX ax (nhI ah t eT) f eL eX/\rwX ax (nhI ah t eT) f eL eX<=ax+56:=by unfold rwX;split<;>omega
 have hry:ay-56<=rwY ay (nhI ah t eT) f eL eY/\rwY ay (nhI ah t eT) f eL eY<=ay+56:=by unfold rwY;split<;>omega
 have hE:nxE ax ay ah t f eT eL eX eY=0:=by
  unfold nxE
  rw[hP,hC,hr]
  simp only[Bool.and_self,if_true]
  split
  ·rfl
  rw[if_pos (cK.2 ⟨fO.2 (by omega),aS.2 hnh⟩)]
 obtain⟨e1,e2,e3⟩:=nx_ok hE
 have hd:delI ((((ah+t)%256).toNat:Nat):Int) (nhI ah t eT)=eT:=by unfold delI nhI;split<;>omega
 have hw:bK (delI ((((ah+t)%256).toNat:Nat):Int) (nhI ah t eT)) tu=true:=by rw[hd];exact aH.2 h1
 have good:∀x y:Int,(0<=x/\x<=64*W)->(0<=y/\y<=64*Hh)->e9 W Hh xs x y (nhI ah t eT)=true/\cR x y (nhI ah t eT)=true:=fun x y q1 q2=>by
  have p:cR x y (nhI ah t eT)=true:=cK.2 ⟨fO.2 (by omega),aS.2 hnh⟩
  refine⟨?_,p⟩
  unfold e9
  rw[fa.2 ⟨hV,q1,q2⟩,p];rfl
 rw[e3]
 cases hb:sbB W Hh xs ax ay ah t f eT eL eX eY with
 | true =>
  have s1:sgX W Hh xs ax ay ah t f eT eL eX eY=ax:=if_pos hb
  have s2:sgY W Hh xs ax ay ah t f eT eL eX eY=ay:=if_pos hb
  rw[s1,s2]
  obtain⟨g1,g2⟩:=good ax ay hax hay
  refine⟨g1,?_⟩
  unfold wthB
  rw[hB,hP,hC,g2,hw]
  simp
 | false =>
  have s1:sgX W Hh xs ax ay ah t f eT eL eX eY=nxX ax ay ah t f eT eL eX eY:=if_neg (by rw[hb];decide)
  have s2:sgY W Hh xs ax ay ah t f eT eL eX eY=nxY ax ay ah t f eT eL eX eY:=if_neg (by rw[hb];decide)
  rw[s1,s2,e1,e2]
  by_cases h0:f=0
  ·have r1:rwX ax (nhI ah t eT) f eL eX=ax:=if_pos h0
   have r2:rwY ay (nhI ah t eT) f eL eY=ay:=if_pos h0
   rw[r1,r2]
   obtain⟨g1,g2⟩:=good ax ay hax hay
   refine⟨g1,?_⟩
   unfold wthB
   rw[hB,hP,hC,g2,hw,h0]
   simp
  have hbk:bwB W Hh xs ax ay (rwX ax (nhI ah t eT) f eL eX) (rwY ay (nhI ah t eT) f eL eY)=false:=by
   have q:=hb
   unfold sbB at q
   rw[decide_eq_true hE,e1,e2,decide_eq_true (show 0<f by omega),Bool.true_and,Bool.true_and] at q
   exact q
  obtain⟨i1,i2⟩:=blg_in hbk
  obtain⟨g1,g2⟩:=good _ _ i1 i2
  refine⟨g1,?_⟩
  have r1:rwX ax (nhI ah t eT) f eL eX=ax+(cu (nhI ah t eT) (mxI (f+eL) 0)+eX):=if_neg h0
  have r2:rwY ay (nhI ah t eT) f eL eY=ay+(cw (nhI ah t eT) (mxI (f+eL) 0)+eY):=if_neg h0
  have hwi:wiA f le sl (rwX ax (nhI ah t eT) f eL eX-ax) (rwY ay (nhI ah t eT) f eL eY-ay) (nhI ah t eT)=true:=by
   refine wiA_y (j:=(eL+le).toNat) (by omega) ?_
   unfold wiC
   rw[show f+(0-le+(((eL+le).toNat:Nat):Int))=f+eL by omega,r1,r2,Bool.and_eq_true,aH,aH]
   omega
  unfold wthB
  rw[hB,hP,hC,g2,hw,hwi,show (f==0)=false by simpa using h0]
  rfl
theorem fit_in {W Hh:Int}{xs:List Int}{x y:Int}(h:iC W Hh xs x y=true):(0<=x/\x<=64*W)/\0<=y/\y<=64*Hh:=by
 unfold iC at h
 rw[Bool.and_eq_true] at h
 have q:=h.2
 unfold gy at q
 simp only[Bool.and_eq_true,decide_eq_true_eq] at q
 omega
def pdE (W Hh:Int) (xs:List Int) (tu le sl ra x y h k:Int) (t f eT eL eX eY:Int) (mks ers:List Int):Ev :=
 ⟨k,t,f,sbB W Hh xs x y h t f (af eT (0-tu) tu) (af eL (0-le) le) (af eX (0-sl) sl) (af eY (0-sl) sl),.any,
  spL W Hh xs (sgX W Hh xs x y h t f (af eT (0-tu) tu) (af eL (0-le) le) (af eX (0-sl) sl) (af eY (0-sl) sl)) (sgY W Hh xs x y h t f (af eT (0-tu) tu) (af eL (0-le) le) (af eX (0-sl) sl) (af eY (0-sl) sl)) (nxH x y h t f (af eT (0-tu) tu) (af eL (0-le) le) (af eX (0-sl) sl) (af eY (0-sl) sl)) ra mks ers,
  sgX W Hh xs x y h t f (af eT (0-tu) tu) (af eL (0-le) le) (af eX (0-sl) sl) (af eY (0-sl) sl),sgY W Hh xs x y h t f (af eT (0-tu) tu) (af eL (0-le) le) (af eX (0-sl) sl) (af eY (0-sl) sl),nxH x y h t f (af eT (0-tu) tu) (af eL (0-le) le) (af eX (0-sl) sl) (af eY (0-sl) sl)⟩
theorem oQ {W Hh:Int}{xs:List Int}{tu le sl ra x y h k t f eT eL eX eY:Int}{mks ers:List Int}(hG:e9 W Hh xs x y h=true)(hB:bX tu le sl ra=true)(hA:cX t f mks=true):TickP W Hh xs tu le sl ra x y h (pdE W Hh xs tu le sl ra x y h k t f eT eL eX eY mks ers)/\(pdE W Hh xs tu le sl ra x y h k t f eT eL eX eY mks ers).sc.length<=mks.length:=by
 have hBi:=hB
 simp only[bX,Bool.and_eq_true,aS] at hBi
 have c1:=nD (n:=eT) (k:=tu) (by omega)
 have c2:=nD (n:=eL) (k:=le) (by omega)
 have c3:=nD (n:=eX) (k:=sl) (by omega)
 have c4:=nD (n:=eY) (k:=sl) (by omega)
 obtain⟨hC,hE,hl⟩:=ract_swp hA
 obtain⟨s2,s3⟩:=sg_wth hG hB hC c1 c2 c3 c4
 have g:=s2
 unfold e9 at g
 rw[Bool.and_eq_true] at g
 obtain⟨hV,hx,hy⟩:=fa.1 g.1
 have hv:=bh.1 hV
 have hw1:=hv.w1
 have hh1:=hv.h1
 obtain⟨w1,w2⟩:=spL_ok (W:=W) (Hh:=Hh) (xs:=xs) (h:=nxH x y h t f (af eT (0-tu) tu) (af eL (0-le) le) (af eX (0-sl) sl) (af eY (0-sl) sl)) (g:=ra) (mks:=mks) (ers:=ers) (x:=sgX W Hh xs x y h t f (af eT (0-tu) tu) (af eL (0-le) le) (af eX (0-sl) sl) (af eY (0-sl) sl)) (y:=sgY W Hh xs x y h t f (af eT (0-tu) tu) (af eL (0-le) le) (af eX (0-sl) sl) (af eY (0-sl) sl)) (by omega) (by omega) (by omega)
 refine⟨⟨hC,w1,w2,s3,s2⟩,?_⟩
 show (spL _ _ _ _ _ _ _ _ _).length<=_
 rw[spL_y hE,l9];exact Nat.le_refl _
def g5 (W Hh:Int) (xs:List Int) (tu le sl ra ax ay ah:Int):Bool:=decide (fcE W Hh xs=0)&&(bX tu le sl ra&&(cR ax ay ah&&iC W Hh xs ax ay))
def pnwE (W Hh:Int) (xs:List Int) (tu le sl ra ax ay ah:Int):Int:=if fcE W Hh xs=0 then (if (bX tu le sl ra&&cR ax ay ah)=true then 9 else 1) else fcE W Hh xs
theorem pnwE_nz {W Hh:Int}{xs:List Int}{tu le sl ra ax ay ah:Int}:¬pnwE W Hh xs tu le sl ra ax ay ah=0:=by
 unfold pnwE
 split
 ·split<;>decide
 assumption
theorem oR {W Hh:Int}{xs:List Int}{tu le sl ra ax ay ah:Int}(h0:∀z∈xs,0<=z)(h:g5 W Hh xs tu le sl ra ax ay ah=true):fcE W Hh xs=0/\ey W Hh xs=true/\bX tu le sl ra=true/\e9 W Hh xs ax ay ah=true/\cR ax ay ah=true/\iC W Hh xs ax ay=true:=by
 unfold g5 at h
 simp only[Bool.and_eq_true,decide_eq_true_eq] at h
 obtain⟨h1,h2,h3,h4⟩:=h
 have hb:=idz_bld h0 h1
 obtain⟨hx,hy⟩:=fit_in h4
 refine⟨h1,hb,h2,?_,h3,h4⟩
 unfold e9
 rw[fa.2 ⟨bld_v hb,hx,hy⟩,h3];rfl
def brC (e:Ac):Bool:=decide (e.mks.length<=4)&&decide (e.ers.length<=40)
def gC (xs:List Int) (al:List Ac):Bool:=(decide (xs.length<=64)&&decide (al.length<=10))&&al.all brC
theorem brf_ok {xs:List Int}{al:List Ac}(h:gC xs al=true):xs.length<=64/\al.length<=10/\∀j:Nat,j<al.length->(acG al j).mks.length<=4/\(acG al j).ers.length<=40:=by
 unfold gC at h
 rw[Bool.and_eq_true,Bool.and_eq_true,decide_eq_true_eq,decide_eq_true_eq] at h
 refine⟨h.1.1,h.1.2,fun j hj=>?_⟩
 have k:=List.all_eq_true.1 h.2 (acG al j) (j8 hj)
 unfold brC at k
 simpa using k
theorem brf_n {xs:List Int}{al:List Ac}{i:Nat}(hi:i<al.length)(k:brC (acG al i)=false):gC xs al=false:=by
 unfold gC
 rw [show al.all brC=false from by
  rw[<-Bool.not_eq_true];intro q
  have:=List.all_eq_true.1 q (acG al i) (j8 hi)
  rw[k] at this;cases this]
 exact Bool.and_false _
theorem brf_y {xs:List Int}{al:List Ac}(h1:xs.length<=64)(h2:al.length<=10)(k:∀j:Nat,j<al.length->brC (acG al j)=true):gC xs al=true:=by
 unfold gC
 rw [decide_eq_true h1,decide_eq_true h2,show al.all brC=true from List.all_eq_true.2 fun e he=>by
  obtain⟨j,hj,rfl⟩:=List.mem_iff_getElem.1 he
  have e:acG al j=al[j]:=by unfold acG;rw[List.getD_eq_getElem?_getD,List.getElem?_eq_getElem hj];rfl
  rw[<-e];exact k j hj]
 rfl
theorem goo_std {W Hh:Int}{xs:List Int}{x y h:Int}(k:e9 W Hh xs x y h=true):stdB W Hh xs x y h=true:=by
 unfold e9 at k
 rw[Bool.and_eq_true] at k
 unfold stdB
 rw[k.1,(cK.1 k.2).2];rfl
theorem ru {t f:Int}{mks:List Int}(h:(mks.any fun m=>!cV m)=true):cX t f mks=false:=by
 obtain⟨m,hm,hk⟩:=List.any_eq_true.1 h
 obtain⟨i,hi,rfl⟩:=List.mem_iff_getElem.1 hm
 exact ract_n hi (by rw[fq hi];simpa using hk)
theorem ract_all {t f:Int}{mks:List Int}(hC:cH t f=true)(hl:mks.length<=32)(h:(mks.any fun m=>!cV m)=false):cX t f mks=true:=ract_y hC hl fun j hj=>by
 have:=List.any_eq_false.1 h _ (List.getElem_mem hj)
 rw[fq hj];simpa using this
theorem wrong_c (H:aa)(m:Int):zC 44 [iV m] H (.bool (!cV m)) H:=by
 refine AcT true func44 ?_;intro hbel Q hQ
 refine aI ?_
 refine aY (fun h1=>?_) (fun h1=>?_)
 ·have h1d:=bsT h1
  have G1:=jn h1 @h1d
  exact eS G1 hQ hbel (.bool (decide (256<=m))) results44 ⟨by first|(simp[cV,h1d];done)|(unfold cV;simp[h1d];done)|(unfold cV;rw[decide_eq_true (show 0<=m by omega),Bool.true_and,<-decide_not];exact congrArg AV.bool (decide_eq_decide.2 (by omega))),rfl⟩
 have h1d:=bsT h1
 have G2:=jn h1 @h1d
 exact eS G2 hQ hbel (.bool true) results44 ⟨by first|(simp[cV,h1d];done)|(unfold cV;simp[h1d];done)|(unfold cV;rw[decide_eq_true (show 0<=m by omega),Bool.true_and,<-decide_not];exact congrArg AV.bool (decide_eq_decide.2 (by omega))),rfl⟩
theorem lim_c (H:aa)(n:Int):zC 40 [iV n] H (.bool (bK n 1048576)) H:=by
 refine AcT true func40 ?_;intro hbel Q hQ
 refine aI ?_
 refine aY (fun h1=>?_) (fun h1=>?_)
 ·have h1d:=bsT h1
  have G3:=jn h1 @h1d
  exact eS G3 hQ hbel (.bool (decide (n<=1048576))) results40 ⟨by first|(simp[bK,h1d];done)|(unfold bK;simp[h1d];omega),rfl⟩
 have h1d:=bsT h1
 have G4:=jn h1 @h1d
 exact eS G4 hQ hbel (.bool false) results40 ⟨by first|(simp[bK,h1d];done)|(unfold bK;simp[h1d];omega),rfl⟩
theorem ppose_c (H:aa)(W Hh:Int)(pp:AV)(xs:List Int)(tu le sl ra x y h k1 k2:Int)(bz:Nat)(hpp:zI H pp xs)(hz:∃o,H[bz]? = some (.cells o 0 [iV W,iV Hh,pp,iV tu,iV le,iV sl,iV ra,iV x,iV y,iV h,iV k1,iV k2])):zC 22 [.ptr (some (bz,0))] H (.agg [iV x,iV y,iV h]) H:=by
 obtain⟨bpp,opp,cpp,rfl,hbpp,hblpp,hb0pp⟩:=zA1 hpp
 obtain⟨oz,hbz⟩:=hz
 have hblz:=getElem?_lt hbz
 have hb0z:=fun l=>ai (l:=l) hbz
 refine AcT true func22 ?_;intro hbel Q hQ
 have G5:=jn @hbpp (jn @hb0pp (jn @hbz (jn @hb0z @Option.isNone_some.{0})))
 exact eR G5 hQ hbel (.agg [iV x,iV y,iV h]) results22 ⟨rfl,rfl⟩
theorem pnwy_c (H:aa)(W Hh:Int)(pp:AV)(xs:List Int)(tu le sl ra ax ay ah:Int)(hpp:zI H pp xs)(hE0:fcE W Hh xs=0)(hBl:ey W Hh xs=true)(hnz:∀v∈xs,1<=v/\v<=2)(hB:bX tu le sl ra=true)(hP:cR ax ay ah=true)(hF:iC W Hh xs ax ay=true)(hx6:xs.length<=1000000)(hx0:0<xs.length):zC 20 [.agg [iV W,iV Hh,pp],.agg [iV tu,iV le,iV sl,iV ra],.agg [iV ax,iV ay,iV ah]] H (.tup [.ptr (some (H.length+1,0)),iV 0]) (H++[.cells true 1 (ints .u8 xs),.cells true 0 [iV W,iV Hh,.sl (some (H.length,0)) xs.length none,iV tu,iV le,iV sl,iV ra,iV ax,iV ay,iV ah,iV 0,iV 0]]):=by
 obtain⟨bpp,opp,cpp,rfl,hbpp,hblpp,hb0pp⟩:=zA1 hpp
 have hPi:=cK.1 hP
 have hpt:=hPi.1
 have hbt:=aS.1 hPi.2
 have hpb:=hpt
 unfold ptB at hpb
 rw[Bool.and_eq_true] at hpb
 obtain⟨hpx,hpy⟩:=hpb
 have hz0:=decide_eq_false (show ¬ah<0 by omega)
 have hz9:=decide_eq_false (show ¬256<=ah by omega)
 refine AcT false func20 ?_;intro hbel Q hQ
 have G6:=jn @hbpp (jn @hb0pp (jn @hE0 (jn @hB (jn @hF (jn @hpx (jn @hpy (jn @hz0 @hz9)))))))
 refine ae G6 ?_
 refine cvr G6 (fchkg_c _ W _ _ xs (zA2 hb0pp hbpp)) ?_
 refine cvr G6 (ik _ _ _ _ _) ?_
 refine cvr G6 (lim_c _ _) ?_
 refine cvr G6 (lim_c _ _) ?_
 refine cvr G6 (fitsg_c _ W _ _ xs _ _ (zA2 hb0pp hbpp) hBl hnz (by assumption)) ?_
 refine cvr G6 (kO _ _ xs (zA2 hb0pp hbpp) hx6 hx0) ?_
 refine hQ _ _ (aW (.inl rfl) hbel (x1:=.tup [.ptr (some (H.length+4,0)),iV 0]) (l2:=[.cells true 1 (ints .u8 xs),.cells true 0 [iV W,iV Hh,.sl (some (H.length,0)) xs.length none,iV tu,iV le,iV sl,iV ra,iV ax,iV ay,iV ah,iV 0,iV 0]]) (.tup [.ptr (some (H.length+1,0)),iV 0]) (aZ results20) [] rfl [3,4] (by decide) ⟨rfl,rfl⟩ ?_)
 exact aD
theorem pnwn_c (H:aa)(W Hh:Int)(pp:AV)(xs:List Int)(tu le sl ra ax ay ah:Int)(hpp:zI H pp xs)(hn:g5 W Hh xs tu le sl ra ax ay ah=false)(h0:∀z∈xs,0<=z):zC 20 [.agg [iV W,iV Hh,pp],.agg [iV tu,iV le,iV sl,iV ra],.agg [iV ax,iV ay,iV ah]] H (.tup [.ptr none,iV (pnwE W Hh xs tu le sl ra ax ay ah)]) H:=by
 obtain⟨bpp,opp,cpp,rfl,hbpp,hblpp,hb0pp⟩:=zA1 hpp
 refine AcT false func20 ?_;intro hbel Q hQ
 have G7:=jn @hbpp @hb0pp
 refine ae G7 ?_
 refine cv (fchkg_c _ W _ _ xs (zA2 hb0pp hbpp)) ?_
 refine rcs G7 (fun h1 h1d _=>?_) (fun h1 h1d _=>?_)
 ·have h1n:=bnT h1
  have hfinE:pnwE W Hh xs tu le sl ra ax ay ah=fcE W Hh xs:=if_neg (by first|exact h1d|simpa using h1d)
  have G8:=jn h1 (jn h1n (jn @aP (jn @aO G7)))
  exact eR G8 hQ hbel (.tup [.ptr none,iV (fcE W Hh xs)]) results20 ⟨by first|(rw[hfinE];done)|(rw[hfinE];rfl),rfl⟩
 have h1n:=bnT h1
 have hE0:fcE W Hh xs=0:=by first|exact h1d|simpa using h1d
 have hBl:=idz_bld h0 hE0
 have hnz:=nK hBl h0
 have hfinF:∀b:Bool,(bX tu le sl ra&&cR ax ay ah)=b->pnwE W Hh xs tu le sl ra ax ay ah=if b=true then 9 else 1:=fun b hb=>by unfold pnwE;rw[if_pos hE0,hb]
 have G9:=jn h1 (jn h1n (jn @aP (jn @aO G7)))
 refine ae G9 ?_
 refine cv (ik _ _ _ _ _) ?_
 refine rgs G9 (fun h2 h2d G10=>?_) (fun h2 h2d G20=>?_)
 ·have hB:=h2d
  refine ae G10 ?_
  refine cv (lim_c _ _) ?_
  refine rgs G10 (fun h3 h3d G11=>?_) (fun h3 h3d G19=>?_)
  ·have hwx:=h3d
   refine ae G11 ?_
   refine cv (lim_c _ _) ?_
   refine rgs G11 (fun h4 h4d G12=>?_) (fun h4 h4d G18=>?_)
   ·have hwy:=h4d
    have hpt:ptB ax ay=true:=by unfold ptB;rw[hwx,hwy];rfl
    refine rgs G12 (fun h5 h5d G13=>?_) (fun h5 h5d G17=>?_)
    ·have hh0:0<=ah:=by omega
     refine rcs G13 (fun h6 h6d G14=>?_) (fun h6 h6d G15=>?_)
     ·have hfinE:=hfinF false (by unfold cR;rw[decide_eq_false (show ¬ah<256 by omega)];simp)
      exact eR G14 hQ hbel (.tup [.ptr none,iV 1]) results20 ⟨by first|(rw[hfinE];done)|(rw[hfinE];rfl),rfl⟩
     have hP:cR ax ay ah=true:=by unfold cR;rw[hwx,hwy,decide_eq_true hh0,decide_eq_true (show ah<256 by omega)];rfl
     refine ae G15 ?_
     refine cv (fitsg_c _ W _ _ xs _ _ (zA2 hb0pp hbpp) hBl hnz (by assumption)) ?_
     refine rcs G15 (fun h7 h7d G16=>?_) (fun h7 h7d _=>?_)
     ·have hfinE:=hfinF true (by rw[hB,hP];rfl)
      exact eR G16 hQ hbel (.tup [.ptr none,iV 9]) results20 ⟨by first|(rw[hfinE];done)|(rw[hfinE];rfl),rfl⟩
     exact absurd (show g5 W Hh xs tu le sl ra ax ay ah=true by unfold g5;rw[decide_eq_true hE0,hB,hP,h7d];rfl) (by rw[hn];decide)
    have hfinE:=hfinF false (by unfold cR;rw[decide_eq_false (show ¬0<=ah by omega)];simp)
    exact eR G17 hQ hbel (.tup [.ptr none,iV 1]) results20 ⟨by first|(rw[hfinE];done)|(rw[hfinE];rfl),rfl⟩
   have hfinE:=hfinF false (by unfold cR;rw[h4d];simp)
   exact eR G18 hQ hbel (.tup [.ptr none,iV 1]) results20 ⟨by first|(rw[hfinE];done)|(rw[hfinE];rfl),rfl⟩
  have hfinE:=hfinF false (by unfold cR;rw[h3d];simp)
  exact eR G19 hQ hbel (.tup [.ptr none,iV 1]) results20 ⟨by first|(rw[hfinE];done)|(rw[hfinE];rfl),rfl⟩
 have hfinE:=hfinF false (by rw[h2d];rfl)
 exact eR G20 hQ hbel (.tup [.ptr none,iV 1]) results20 ⟨by first|(rw[hfinE];done)|(rw[hfinE];rfl),rfl⟩
theorem pdon_c (H:aa)(W Hh:Int)(pp:AV)(xs:List Int)(tu le sl ra x y h k1 k2:Int)(bz:Nat)(t f eT eL eX eY:Int)(mk:AV)(mks:List Int)(er:AV)(ers:List Int)(hpp:zI H pp xs)(hz:∃o,H[bz]? = some (.cells o 0 [iV W,iV Hh,pp,iV tu,iV le,iV sl,iV ra,iV x,iV y,iV h,iV k1,iV k2]))(hmk:Sl H 1 mk mks.length (ints .i64 mks))(her:Sl H 1 er ers.length (ints .i64 ers))(hml:mks.length<=1000000)(hA:cX t f mks=false):zC 21 [.ptr (some (bz,0)),.agg [iV t,iV f,iV eT,iV eL,iV eX,iV eY,mk,er]] H (.tup [.agg [iV 0,iV 0,iV 0,.bool false,.sl none 0 (some 0)],iV 1]) H:=by
 obtain⟨bpp,opp,cpp,rfl,hbpp,hblpp,hb0pp⟩:=zA1 hpp
 obtain⟨bmk,omk,cmk,rfl,hbmk,hblmk,hb0mk⟩:=zA1 hmk
 obtain⟨ber,oer,cer,rfl,hber,hbler,hb0er⟩:=zA1 her
 obtain⟨oz,hbz⟩:=hz
 have hblz:=getElem?_lt hbz
 have hb0z:=fun l=>ai (l:=l) hbz
 (refine bI func21 _ rfl (Nat.le_of_ble_eq_true (by kernel_rfl)) rfl ?_;intro hbel Q hQ hQ' c hc;unfold Tryz.f21 at hc;simp only[Option.some.injEq] at hc;subst hc;clear hQ')
 refine zQF hQ fun Q1 hn1 hQ1 he1=>?_
 have G21:=jn @hbpp (jn @hb0pp (jn @hbmk (jn @hb0mk (jn @hber (jn @hb0er (jn @hbz (jn @hb0z @Option.isNone_some.{0})))))))
 refine ae G21 ?_
 refine hn1 _ _ (zQF hQ fun Q2 hn2 hQ2 he2=>?_)
 refine ae G21 ?_
 refine cv (gx _ t f) ?_
 refine rgs G21 (fun h1 h1d G22=>?_) (fun h1 h1d G26=>?_)
 ·have hC:=h1d
  refine rgs G22 (fun h2 h2d G23=>?_) (fun h2 h2d G25=>?_)
  ·have hl32:mks.length<=32:=by omega
   refine ae G23 ?_
   refine cv (lS _ _ mks (zA2 hb0mk hbmk) (by omega) _ [] (by kernel_rfl) rfl (fun m=>!cV m) (fun j hj=>wrong_c _ _)) ?_
   refine rcs G23 (fun h3 h3d G24=>?_) (fun h3 h3d _=>?_)
   ·have hfinR:cX t f mks=false:=ru h3d
    exact eR G24 hQ2 hbel (.tup [.agg [iV 0,iV 0,iV 0,.bool false,.sl none 0 (some 0)],iV 1]) results21 ⟨rfl,rfl⟩
   exact absurd ((ract_all hC hl32 h3d).symm.trans hA) (by decide)
  have hfinR:cX t f mks=false:=by unfold cX;rw[decide_eq_false (show ¬mks.length<=32 by omega)];simp
  exact eR G25 hQ2 hbel (.tup [.agg [iV 0,iV 0,iV 0,.bool false,.sl none 0 (some 0)],iV 1]) results21 ⟨rfl,rfl⟩
 have hfinR:cX t f mks=false:=by unfold cX;rw[h1d];rfl
 exact eR G26 hQ2 hbel (.tup [.agg [iV 0,iV 0,iV 0,.bool false,.sl none 0 (some 0)],iV 1]) results21 ⟨rfl,rfl⟩
theorem pdoy_c (H:aa)(W Hh:Int)(pp:AV)(xs:List Int)(tu le sl ra x y h k1 k2:Int)(bz:Nat)(t f eT eL eX eY:Int)(mk:AV)(mks:List Int)(er:AV)(ers:List Int)(hpp:zI H pp xs)(hz:H[bz]? = some (.cells true 0 [iV W,iV Hh,pp,iV tu,iV le,iV sl,iV ra,iV x,iV y,iV h,iV k1,iV k2]))(hmk:Sl H 1 mk mks.length (ints .i64 mks))(her:Sl H 1 er ers.length (ints .i64 ers))(hml:mks.length<=1000000)(hle:ers.length<=1000000000)(hA:cX t f mks=true)(hBl:ey W Hh xs=true)(hnz:∀v∈xs,1<=v/\v<=2)(hB:bX tu le sl ra=true)(hG:e9 W Hh xs x y h=true)(hk1:0<=k1/\k1<=1000000)(hk2:0<=k2/\k2<=1000000):zC 21 [.ptr (some (bz,0)),.agg [iV t,iV f,iV eT,iV eL,iV eX,iV eY,mk,er]] H (.tup [.agg [iV (k1+1),iV t,iV f,.bool ((pdE W Hh xs tu le sl ra x y h (k1+1) t f eT eL eX eY mks ers).st),.sl (some (H.length,0)) (((pdE W Hh xs tu le sl ra x y h (k1+1) t f eT eL eX eY mks ers).sc).length) (aT ((pdE W Hh xs tu le sl ra x y h (k1+1) t f eT eL eX eY mks ers).sc).length)],iV 0]) (H.set bz (.cells true 0 [iV W,iV Hh,pp,iV tu,iV le,iV sl,iV ra,iV ((pdE W Hh xs tu le sl ra x y h (k1+1) t f eT eL eX eY mks ers).x),iV ((pdE W Hh xs tu le sl ra x y h (k1+1) t f eT eL eX eY mks ers).y),iV ((pdE W Hh xs tu le sl ra x y h (k1+1) t f eT eL eX eY mks ers).h),iV (k1+1),iV (kbI k2 (pdE W Hh xs tu le sl ra x y h (k1+1) t f eT eL eX eY mks ers).st)])++[.cells (aL ((pdE W Hh xs tu le sl ra x y h (k1+1) t f eT eL eX eY mks ers).sc).length) 2 (prs ((pdE W Hh xs tu le sl ra x y h (k1+1) t f eT eL eX eY mks ers).sc))]):=by
 obtain⟨bpp,opp,cpp,rfl,hbpp,hblpp,hb0pp⟩:=zA1 hpp
 obtain⟨bmk,omk,cmk,rfl,hbmk,hblmk,hb0mk⟩:=zA1 hmk
 obtain⟨ber,oer,cer,rfl,hber,hbler,hb0er⟩:=zA1 her
 have hbz:=hz
 have hblz:=getElem?_lt hbz
 have hb0z:=fun l=>ai (l:=l) hbz
 have hwpp:∀x l,(H.set bz x++l)[bpp]? = some (.cells opp 1 (ints .u8 xs)):=fun x l=>by rw[List.getElem?_append_left (by rw[List.length_set];exact hblpp),List.getElem?_set_ne (fun e=>by subst e;rw[hbz] at hbpp;cases hbpp)];exact hbpp
 have hwmk:∀x l,(H.set bz x++l)[bmk]? = some (.cells omk 1 (ints .i64 mks)):=fun x l=>by rw[List.getElem?_append_left (by rw[List.length_set];exact hblmk),List.getElem?_set_ne (fun e=>by subst e;rw[hbz] at hbmk;cases hbmk)];exact hbmk
 have hwer:∀x l,(H.set bz x++l)[ber]? = some (.cells oer 1 (ints .i64 ers)):=fun x l=>by rw[List.getElem?_append_left (by rw[List.length_set];exact hbler),List.getElem?_set_ne (fun e=>by subst e;rw[hbz] at hber;cases hber)];exact hber
 have hV:=bld_v hBl
 have hG2:stdB W Hh xs (sgX W Hh xs x y h t f (af eT (0-tu) tu) (af eL (0-le) le) (af eX (0-sl) sl) (af eY (0-sl) sl)) (sgY W Hh xs x y h t f (af eT (0-tu) tu) (af eL (0-le) le) (af eX (0-sl) sl) (af eY (0-sl) sl)) (nxH x y h t f (af eT (0-tu) tu) (af eL (0-le) le) (af eX (0-sl) sl) (af eY (0-sl) sl))=true:=goo_std (oQ (k:=k1+1) (eT:=eT) (eL:=eL) (eX:=eX) (eY:=eY) (ers:=ers) hG hB hA).1.goo
 have hP:cR x y h=true:=by have q:=hG;unfold e9 at q;rw[Bool.and_eq_true] at q;exact q.2
 have hBi:=hB
 simp only[bX,Bool.and_eq_true,aS] at hBi
 (refine bI func21 _ rfl (Nat.le_of_ble_eq_true (by kernel_rfl)) rfl ?_;intro hbel Q hQ hQ' c hc;unfold Tryz.f21 at hc;simp only[Option.some.injEq] at hc;subst hc;clear hQ')
 refine zQF hQ fun Q3 hn3 hQ3 he3=>?_
 have G27:=jn @hbpp (jn @hb0pp (jn @hbmk (jn @hb0mk (jn @hber (jn @hb0er (jn @hbz (jn @hb0z @Option.isNone_some.{0})))))))
 refine ae G27 ?_
 refine hn3 _ _ (zQF hQ fun Q4 hn4 hQ4 he4=>?_)
 refine ae G27 ?_
 refine cv (gx _ t f) ?_
 refine rgs G27 (fun h1 h1d G28=>?_) (fun h1 h1d _=>?_)
 ·have hC:=h1d
  refine rgs G28 (fun h2 h2d G29=>?_) (fun h2 h2d _=>?_)
  ·have hl32:mks.length<=32:=by omega
   refine ae G29 ?_
   refine cv (lS _ _ mks (zA2 hb0mk hbmk) (by omega) _ [] (by kernel_rfl) rfl (fun m=>!cV m) (fun j hj=>wrong_c _ _)) ?_
   refine rcs G29 (fun h3 h3d _=>?_) (fun h3 h3d G30=>?_)
   ·exact absurd ((ru h3d).symm.trans hA) (by decide)
   refine ae G30 ?_
   refine hn4 _ _ ?_
   refine bT false try_mixed [[0,1,2,3,4,5,6,7,8,9,10,11,12],[0,1,2,3,4,5,10,6,7,8,9,11,12]] (by kernel_rfl) (fun F2 H2=>F2=[(0,.ptr (some (bz,0))),(3,.ptr (some (H.length,0))),(4,.ptr (some (H.length+1,0))),(5,iV 0),(6,.ptr (some (H.length+2,0)))]/\H2=H++[.cells true 0 [iV t,iV f,iV eT,iV eL,iV eX,iV eY,.sl (some (bmk,0)) mks.length cmk,.sl (some (ber,0)) ers.length cer],.cells true 0 [iV 0,iV 0,iV 0,.bool false,.sl none 0 (some 0)],.cells true 0 [iV (af eT (0-tu) tu),iV (af eL (0-le) le),iV (af eX (0-sl) sl),iV (af eY (0-sl) sl)]]) ?_ ?_
   ·refine am ?_ (am ?_ (bP))<;>intro J hJ
    ·refine ak G30 ?_
     refine cd (dclip_c _ _ _ _ _ _ _ _ _ (by assumption)) ?_
     refine ak G30 ?_
     refine aC (hJ _ _ ⟨_,_,_,⟨rfl,rfl⟩,bS hbel [0,1,2] aD⟩)
    refine ak G30 ?_
    refine cd (dclip_c _ _ _ _ _ _ _ _ _ (by assumption)) ?_
    refine ak G30 ?_
    refine aC (hJ _ _ ⟨_,_,_,⟨rfl,rfl⟩,bS hbel [0,1,2] aD⟩)
   rintro F2 H2 ⟨rfl,rfl⟩
   refine bT false try_mixed [[0,1,2,3,4,5,6,7,8,9,10,11,12,13,14,15,16,17,18,19],[0,1,2,3,4,5,6,7,8,9,10,16,11,12,13,14,15,17,18,19]] (by kernel_rfl) (fun F2 H2=>F2=[(0,.ptr (some (bz,0))),(3,.ptr (some (H.length,0))),(4,.ptr (some (H.length+1,0))),(5,iV 0),(8,.ptr (some (H.length+2,0))),(9,.bool (sbB W Hh xs x y h t f (af eT (0-tu) tu) (af eL (0-le) le) (af eX (0-sl) sl) (af eY (0-sl) sl)))]/\H2=H++[.cells true 0 [iV t,iV f,iV eT,iV eL,iV eX,iV eY,.sl (some (bmk,0)) mks.length cmk,.sl (some (ber,0)) ers.length cer],.cells true 0 [iV 0,iV 0,iV 0,.bool false,.sl none 0 (some 0)],.cells true 0 [iV (sgX W Hh xs x y h t f (af eT (0-tu) tu) (af eL (0-le) le) (af eX (0-sl) sl) (af eY (0-sl) sl)),iV (sgY W Hh xs x y h t f (af eT (0-tu) tu) (af eL (0-le) le) (af eX (0-sl) sl) (af eY (0-sl) sl)),iV (nxH x y h t f (af eT (0-tu) tu) (af eL (0-le) le) (af eX (0-sl) sl) (af eY (0-sl) sl))]]) ?_ ?_
   ·refine am ?_ (am ?_ (bP))<;>intro J hJ
    ·refine ak G30 ?_
     refine cd (qT _ W _ _ xs x y h t f _ _ _ _ (zA2 hb0pp hbpp) hBl hnz hP) ?_
     refine ak G30 ?_
     refine aC (hJ _ _ ⟨_,_,_,⟨rfl,rfl⟩,bS hbel [0,1,3] aD⟩)
    refine ak G30 ?_
    refine cd (qT _ W _ _ xs x y h t f _ _ _ _ (zA2 hb0pp hbpp) hBl hnz hP) ?_
    refine ak G30 ?_
    refine aC (hJ _ _ ⟨_,_,_,⟨rfl,rfl⟩,bS hbel [0,1,3] aD⟩)
   rintro F2 H2 ⟨rfl,rfl⟩
   refine fnF ?_
   have G31:=jn @hblz (jn @gn (jn @gZ (jn @iZ (jn @g4 (jn @gB (jn @io (jn @jm (jn @jZ (jn @List.length_set.{0} (jn @List.set_set.{0} G30))))))))))
   refine rcs G31 (fun h4 h4d G32=>?_) (fun h4 h4d G33=>?_)
   ·have e1:(pdE W Hh xs tu le sl ra x y h (k1+1) t f eT eL eX eY mks ers).st=true:=h4d
    have e2:kbI k2 (pdE W Hh xs tu le sl ra x y h (k1+1) t f eT eL eX eY mks ers).st=k2+1:=by rw[e1];rfl
    refine ae G32 ?_
    refine cx (raysw_c _ W _ _ xs _ _ _ _ mks _ _ ers ⟨_,_,_,rfl,by exact hwpp _ _⟩ ⟨_,_,_,rfl,by exact hwmk _ _⟩ ⟨_,_,_,rfl,by exact hwer _ _⟩ hG2 (by omega) (by omega)) ?_
    refine ae G32 ?_
    refine hQ _ _ (j0 (b1:=.cells true 0 [iV W,iV Hh,.sl (some (bpp,0)) xs.length cpp,iV tu,iV le,iV sl,iV ra,iV (sgX W Hh xs x y h t f (af eT (0-tu) tu) (af eL (0-le) le) (af eX (0-sl) sl) (af eY (0-sl) sl)),iV (sgY W Hh xs x y h t f (af eT (0-tu) tu) (af eL (0-le) le) (af eX (0-sl) sl) (af eY (0-sl) sl)),iV (nxH x y h t f (af eT (0-tu) tu) (af eL (0-le) le) (af eX (0-sl) sl) (af eY (0-sl) sl)),iV (k1+1),iV (k2+1)]) (.cells true 0 [iV W,iV Hh,.sl (some (bpp,0)) xs.length cpp,iV tu,iV le,iV sl,iV ra,iV (sgX W Hh xs x y h t f (af eT (0-tu) tu) (af eL (0-le) le) (af eX (0-sl) sl) (af eY (0-sl) sl)),iV (sgY W Hh xs x y h t f (af eT (0-tu) tu) (af eL (0-le) le) (af eX (0-sl) sl) (af eY (0-sl) sl)),iV (nxH x y h t f (af eT (0-tu) tu) (af eL (0-le) le) (af eX (0-sl) sl) (af eY (0-sl) sl)),iV (k1+1),iV (k2+1)]) (l1:=[.cells true 0 [iV t,iV f,iV eT,iV eL,iV eX,iV eY,.sl (some (bmk,0)) mks.length cmk,.sl (some (ber,0)) ers.length cer],.cells true 0 [iV (k1+1),iV t,iV f,.bool true,.sl (some (H.length+3,0)) ((spL W Hh xs (sgX W Hh xs x y h t f (af eT (0-tu) tu) (af eL (0-le) le) (af eX (0-sl) sl) (af eY (0-sl) sl)) (sgY W Hh xs x y h t f (af eT (0-tu) tu) (af eL (0-le) le) (af eX (0-sl) sl) (af eY (0-sl) sl)) (nxH x y h t f (af eT (0-tu) tu) (af eL (0-le) le) (af eX (0-sl) sl) (af eY (0-sl) sl)) ra mks ers).length) (aT (spL W Hh xs (sgX W Hh xs x y h t f (af eT (0-tu) tu) (af eL (0-le) le) (af eX (0-sl) sl) (af eY (0-sl) sl)) (sgY W Hh xs x y h t f (af eT (0-tu) tu) (af eL (0-le) le) (af eX (0-sl) sl) (af eY (0-sl) sl)) (nxH x y h t f (af eT (0-tu) tu) (af eL (0-le) le) (af eX (0-sl) sl) (af eY (0-sl) sl)) ra mks ers).length)],.cells true 0 [iV (sgX W Hh xs x y h t f (af eT (0-tu) tu) (af eL (0-le) le) (af eX (0-sl) sl) (af eY (0-sl) sl)),iV (sgY W Hh xs x y h t f (af eT (0-tu) tu) (af eL (0-le) le) (af eX (0-sl) sl) (af eY (0-sl) sl)),iV (nxH x y h t f (af eT (0-tu) tu) (af eL (0-le) le) (af eX (0-sl) sl) (af eY (0-sl) sl))],.cells (aL (spL W Hh xs (sgX W Hh xs x y h t f (af eT (0-tu) tu) (af eL (0-le) le) (af eX (0-sl) sl) (af eY (0-sl) sl)) (sgY W Hh xs x y h t f (af eT (0-tu) tu) (af eL (0-le) le) (af eX (0-sl) sl) (af eY (0-sl) sl)) (nxH x y h t f (af eT (0-tu) tu) (af eL (0-le) le) (af eX (0-sl) sl) (af eY (0-sl) sl)) ra mks ers).length) 2 (prs (spL W Hh xs (sgX W Hh xs x y h t f (af eT (0-tu) tu) (af eL (0-le) le) (af eX (0-sl) sl) (af eY (0-sl) sl)) (sgY W Hh xs x y h t f (af eT (0-tu) tu) (af eL (0-le) le) (af eX (0-sl) sl) (af eY (0-sl) sl)) (nxH x y h t f (af eT (0-tu) tu) (af eL (0-le) le) (af eX (0-sl) sl) (af eY (0-sl) sl)) ra mks ers))]) (l2:=[.cells (aL (spL W Hh xs (sgX W Hh xs x y h t f (af eT (0-tu) tu) (af eL (0-le) le) (af eX (0-sl) sl) (af eY (0-sl) sl)) (sgY W Hh xs x y h t f (af eT (0-tu) tu) (af eL (0-le) le) (af eX (0-sl) sl) (af eY (0-sl) sl)) (nxH x y h t f (af eT (0-tu) tu) (af eL (0-le) le) (af eX (0-sl) sl) (af eY (0-sl) sl)) ra mks ers).length) 2 (prs (spL W Hh xs (sgX W Hh xs x y h t f (af eT (0-tu) tu) (af eL (0-le) le) (af eX (0-sl) sl) (af eY (0-sl) sl)) (sgY W Hh xs x y h t f (af eT (0-tu) tu) (af eL (0-le) le) (af eX (0-sl) sl) (af eY (0-sl) sl)) (nxH x y h t f (af eT (0-tu) tu) (af eL (0-le) le) (af eX (0-sl) sl) (af eY (0-sl) sl)) ra mks ers))]) (.inl rfl) hbel hblz (by first|rfl|simp) (x1:=.tup [.agg [iV (k1+1),iV t,iV f,.bool true,.sl (some (H.length+3,0)) ((spL W Hh xs (sgX W Hh xs x y h t f (af eT (0-tu) tu) (af eL (0-le) le) (af eX (0-sl) sl) (af eY (0-sl) sl)) (sgY W Hh xs x y h t f (af eT (0-tu) tu) (af eL (0-le) le) (af eX (0-sl) sl) (af eY (0-sl) sl)) (nxH x y h t f (af eT (0-tu) tu) (af eL (0-le) le) (af eX (0-sl) sl) (af eY (0-sl) sl)) ra mks ers).length) (aT (spL W Hh xs (sgX W Hh xs x y h t f (af eT (0-tu) tu) (af eL (0-le) le) (af eX (0-sl) sl) (af eY (0-sl) sl)) (sgY W Hh xs x y h t f (af eT (0-tu) tu) (af eL (0-le) le) (af eX (0-sl) sl) (af eY (0-sl) sl)) (nxH x y h t f (af eT (0-tu) tu) (af eL (0-le) le) (af eX (0-sl) sl) (af eY (0-sl) sl)) ra mks ers).length)],iV 0]) (.tup [.agg [iV (k1+1),iV t,iV f,.bool true,.sl (some (H.length,0)) ((spL W Hh xs (sgX W Hh xs x y h t f (af eT (0-tu) tu) (af eL (0-le) le) (af eX (0-sl) sl) (af eY (0-sl) sl)) (sgY W Hh xs x y h t f (af eT (0-tu) tu) (af eL (0-le) le) (af eX (0-sl) sl) (af eY (0-sl) sl)) (nxH x y h t f (af eT (0-tu) tu) (af eL (0-le) le) (af eX (0-sl) sl) (af eY (0-sl) sl)) ra mks ers).length) (aT (spL W Hh xs (sgX W Hh xs x y h t f (af eT (0-tu) tu) (af eL (0-le) le) (af eX (0-sl) sl) (af eY (0-sl) sl)) (sgY W Hh xs x y h t f (af eT (0-tu) tu) (af eL (0-le) le) (af eX (0-sl) sl) (af eY (0-sl) sl)) (nxH x y h t f (af eT (0-tu) tu) (af eL (0-le) le) (af eX (0-sl) sl) (af eY (0-sl) sl)) ra mks ers).length)],iV 0]) (resTf (jn @gB @io) results21) [] rfl [3] (by decide) ⟨by first|(rw[e1];done)|(rw[e1];rfl),by first|(rw[e2];done)|(rw[e2];rfl)⟩ ?_)
    exact aN (jn @hblpp (jn @hblz (jn @hblmk @hbler)))
   have e1:(pdE W Hh xs tu le sl ra x y h (k1+1) t f eT eL eX eY mks ers).st=false:=h4d
   have e2:kbI k2 (pdE W Hh xs tu le sl ra x y h (k1+1) t f eT eL eX eY mks ers).st=k2:=by rw[e1];rfl
   refine ae G33 ?_
   refine cx (raysw_c _ W _ _ xs _ _ _ _ mks _ _ ers ⟨_,_,_,rfl,by exact hwpp _ _⟩ ⟨_,_,_,rfl,by exact hwmk _ _⟩ ⟨_,_,_,rfl,by exact hwer _ _⟩ hG2 (by omega) (by omega)) ?_
   refine ae G33 ?_
   refine hQ _ _ (j0 (b1:=.cells true 0 [iV W,iV Hh,.sl (some (bpp,0)) xs.length cpp,iV tu,iV le,iV sl,iV ra,iV (sgX W Hh xs x y h t f (af eT (0-tu) tu) (af eL (0-le) le) (af eX (0-sl) sl) (af eY (0-sl) sl)),iV (sgY W Hh xs x y h t f (af eT (0-tu) tu) (af eL (0-le) le) (af eX (0-sl) sl) (af eY (0-sl) sl)),iV (nxH x y h t f (af eT (0-tu) tu) (af eL (0-le) le) (af eX (0-sl) sl) (af eY (0-sl) sl)),iV (k1+1),iV k2]) (.cells true 0 [iV W,iV Hh,.sl (some (bpp,0)) xs.length cpp,iV tu,iV le,iV sl,iV ra,iV (sgX W Hh xs x y h t f (af eT (0-tu) tu) (af eL (0-le) le) (af eX (0-sl) sl) (af eY (0-sl) sl)),iV (sgY W Hh xs x y h t f (af eT (0-tu) tu) (af eL (0-le) le) (af eX (0-sl) sl) (af eY (0-sl) sl)),iV (nxH x y h t f (af eT (0-tu) tu) (af eL (0-le) le) (af eX (0-sl) sl) (af eY (0-sl) sl)),iV (k1+1),iV k2]) (l1:=[.cells true 0 [iV t,iV f,iV eT,iV eL,iV eX,iV eY,.sl (some (bmk,0)) mks.length cmk,.sl (some (ber,0)) ers.length cer],.cells true 0 [iV (k1+1),iV t,iV f,.bool false,.sl (some (H.length+3,0)) ((spL W Hh xs (sgX W Hh xs x y h t f (af eT (0-tu) tu) (af eL (0-le) le) (af eX (0-sl) sl) (af eY (0-sl) sl)) (sgY W Hh xs x y h t f (af eT (0-tu) tu) (af eL (0-le) le) (af eX (0-sl) sl) (af eY (0-sl) sl)) (nxH x y h t f (af eT (0-tu) tu) (af eL (0-le) le) (af eX (0-sl) sl) (af eY (0-sl) sl)) ra mks ers).length) (aT (spL W Hh xs (sgX W Hh xs x y h t f (af eT (0-tu) tu) (af eL (0-le) le) (af eX (0-sl) sl) (af eY (0-sl) sl)) (sgY W Hh xs x y h t f (af eT (0-tu) tu) (af eL (0-le) le) (af eX (0-sl) sl) (af eY (0-sl) sl)) (nxH x y h t f (af eT (0-tu) tu) (af eL (0-le) le) (af eX (0-sl) sl) (af eY (0-sl) sl)) ra mks ers).length)],.cells true 0 [iV (sgX W Hh xs x y h t f (af eT (0-tu) tu) (af eL (0-le) le) (af eX (0-sl) sl) (af eY (0-sl) sl)),iV (sgY W Hh xs x y h t f (af eT (0-tu) tu) (af eL (0-le) le) (af eX (0-sl) sl) (af eY (0-sl) sl)),iV (nxH x y h t f (af eT (0-tu) tu) (af eL (0-le) le) (af eX (0-sl) sl) (af eY (0-sl) sl))],.cells (aL (spL W Hh xs (sgX W Hh xs x y h t f (af eT (0-tu) tu) (af eL (0-le) le) (af eX (0-sl) sl) (af eY (0-sl) sl)) (sgY W Hh xs x y h t f (af eT (0-tu) tu) (af eL (0-le) le) (af eX (0-sl) sl) (af eY (0-sl) sl)) (nxH x y h t f (af eT (0-tu) tu) (af eL (0-le) le) (af eX (0-sl) sl) (af eY (0-sl) sl)) ra mks ers).length) 2 (prs (spL W Hh xs (sgX W Hh xs x y h t f (af eT (0-tu) tu) (af eL (0-le) le) (af eX (0-sl) sl) (af eY (0-sl) sl)) (sgY W Hh xs x y h t f (af eT (0-tu) tu) (af eL (0-le) le) (af eX (0-sl) sl) (af eY (0-sl) sl)) (nxH x y h t f (af eT (0-tu) tu) (af eL (0-le) le) (af eX (0-sl) sl) (af eY (0-sl) sl)) ra mks ers))]) (l2:=[.cells (aL (spL W Hh xs (sgX W Hh xs x y h t f (af eT (0-tu) tu) (af eL (0-le) le) (af eX (0-sl) sl) (af eY (0-sl) sl)) (sgY W Hh xs x y h t f (af eT (0-tu) tu) (af eL (0-le) le) (af eX (0-sl) sl) (af eY (0-sl) sl)) (nxH x y h t f (af eT (0-tu) tu) (af eL (0-le) le) (af eX (0-sl) sl) (af eY (0-sl) sl)) ra mks ers).length) 2 (prs (spL W Hh xs (sgX W Hh xs x y h t f (af eT (0-tu) tu) (af eL (0-le) le) (af eX (0-sl) sl) (af eY (0-sl) sl)) (sgY W Hh xs x y h t f (af eT (0-tu) tu) (af eL (0-le) le) (af eX (0-sl) sl) (af eY (0-sl) sl)) (nxH x y h t f (af eT (0-tu) tu) (af eL (0-le) le) (af eX (0-sl) sl) (af eY (0-sl) sl)) ra mks ers))]) (.inl rfl) hbel hblz (by first|rfl|simp) (x1:=.tup [.agg [iV (k1+1),iV t,iV f,.bool false,.sl (some (H.length+3,0)) ((spL W Hh xs (sgX W Hh xs x y h t f (af eT (0-tu) tu) (af eL (0-le) le) (af eX (0-sl) sl) (af eY (0-sl) sl)) (sgY W Hh xs x y h t f (af eT (0-tu) tu) (af eL (0-le) le) (af eX (0-sl) sl) (af eY (0-sl) sl)) (nxH x y h t f (af eT (0-tu) tu) (af eL (0-le) le) (af eX (0-sl) sl) (af eY (0-sl) sl)) ra mks ers).length) (aT (spL W Hh xs (sgX W Hh xs x y h t f (af eT (0-tu) tu) (af eL (0-le) le) (af eX (0-sl) sl) (af eY (0-sl) sl)) (sgY W Hh xs x y h t f (af eT (0-tu) tu) (af eL (0-le) le) (af eX (0-sl) sl) (af eY (0-sl) sl)) (nxH x y h t f (af eT (0-tu) tu) (af eL (0-le) le) (af eX (0-sl) sl) (af eY (0-sl) sl)) ra mks ers).length)],iV 0]) (.tup [.agg [iV (k1+1),iV t,iV f,.bool false,.sl (some (H.length,0)) ((spL W Hh xs (sgX W Hh xs x y h t f (af eT (0-tu) tu) (af eL (0-le) le) (af eX (0-sl) sl) (af eY (0-sl) sl)) (sgY W Hh xs x y h t f (af eT (0-tu) tu) (af eL (0-le) le) (af eX (0-sl) sl) (af eY (0-sl) sl)) (nxH x y h t f (af eT (0-tu) tu) (af eL (0-le) le) (af eX (0-sl) sl) (af eY (0-sl) sl)) ra mks ers).length) (aT (spL W Hh xs (sgX W Hh xs x y h t f (af eT (0-tu) tu) (af eL (0-le) le) (af eX (0-sl) sl) (af eY (0-sl) sl)) (sgY W Hh xs x y h t f (af eT (0-tu) tu) (af eL (0-le) le) (af eX (0-sl) sl) (af eY (0-sl) sl)) (nxH x y h t f (af eT (0-tu) tu) (af eL (0-le) le) (af eX (0-sl) sl) (af eY (0-sl) sl)) ra mks ers).length)],iV 0]) (resTf (jn @gB @io) results21) [] rfl [3] (by decide) ⟨by first|(rw[e1];done)|(rw[e1];rfl),by first|(rw[e2];done)|(rw[e2];rfl)⟩ ?_)
   exact aN (jn @hblpp (jn @hblz (jn @hblmk @hbler)))
  exact absurd ((show cX t f mks=false by unfold cX;rw[decide_eq_false (show ¬mks.length<=32 by omega)];simp).symm.trans hA) (by decide)
 exact absurd ((show cX t f mks=false by unfold cX;rw[h1d];rfl).symm.trans hA) (by decide)
theorem pdo_e (H:aa)(W Hh:Int)(pp:AV)(xs:List Int)(tu le sl ra x y h k1 k2:Int)(bz:Nat)(t f eT eL eX eY:Int)(mk:AV)(mks:List Int)(er:AV)(ers:List Int)(e:Ev)(he:pdE W Hh xs tu le sl ra x y h (k1+1) t f eT eL eX eY mks ers=e)(hpp:zI H pp xs)(hmk:Sl H 1 mk mks.length (ints .i64 mks))(her:Sl H 1 er ers.length (ints .i64 ers))(hz:H[bz]? = some (.cells true 0 [iV W,iV Hh,pp,iV tu,iV le,iV sl,iV ra,iV x,iV y,iV h,iV k1,iV k2]))(hml:mks.length<=1000000)(hle:ers.length<=1000000000)(hk1:0<=k1/\k1<=1000000)(hk2:0<=k2/\k2<=1000000)(hA:cX t f mks=true)(hBl:ey W Hh xs=true)(hnz:∀v∈xs,1<=v/\v<=2)(hB:bX tu le sl ra=true)(hG:e9 W Hh xs x y h=true):
  zC 21 [.ptr (some (bz,0)),.agg [iV t,iV f,iV eT,iV eL,iV eX,iV eY,mk,er]] H (.tup [.agg [iV e.k,iV e.t,iV e.g,.bool e.st,.sl (some (H.length,0)) e.sc.length (aT e.sc.length)],iV 0]) (H.set bz (.cells true 0 [iV W,iV Hh,pp,iV tu,iV le,iV sl,iV ra,iV e.x,iV e.y,iV e.h,iV e.k,iV (kbI k2 e.st)])++[.cells (aL e.sc.length) 2 (prs e.sc)]):=by
 subst he
 exact pdoy_c H W Hh pp xs tu le sl ra x y h k1 k2 bz t f eT eL eX eY mk mks er ers hpp hz hmk her hml hle hA hBl hnz hB hG hk1 hk2
theorem prun_y (H:aa)(n0:Nat)(W Hh:Int)(pp:AV)(xs:List Int)(tu le sl ra ax ay ah:Int)(ac:AV)(al:List Ac)(hpp:zI H pp xs)(hac:Sl H 8 ac al.length (acR al))(hao:acOk H al)(hsm:∀j:Nat,j<al.length->(acG al j).mks.length<=1000000/\(acG al j).ers.length<=1000000)(hll:al.length<=100000)(h0:∀z∈xs,0<=z)(hnw:g5 W Hh xs tu le sl ra ax ay ah=true)(hall:∀j:Nat,j<al.length->cX (acG al j).t (acG al j).f (acG al j).mks=true)(hn0:n0=H.length):ACalls prog 7 [.agg [iV W,iV Hh,pp],.agg [iV tu,iV le,iV sl,iV ra],.agg [iV ax,iV ay,iV ah],ac] H (fun v H'=>∃X:aa,∃es:List Ev,(∀x∈X,ABlk.bel (H++X).length x=true)/\(X=es.map evb)/\(es.length=al.length)/\(RunP W Hh xs tu le sl ra ax ay ah es)/\((∀e∈es,e.sc.length<=1000000))/\v=.tup [.sl (some ((H++X).length,0)) es.length (aT es.length),.sl (some ((H++X).length+1,0)) ((psl es).length) (aT (psl es).length),iV 0]/\H'=H++X++[.cells (aL es.length) 5 (e5R (evl n0 es)),.cells (aL (psl es).length) 3 (r3 (psl es))]):=by
 obtain⟨bpp,opp,cpp,rfl,hbpp,hblpp,hb0pp⟩:=zA1 hpp
 obtain⟨bac,oac,cac,rfl,hbac,hblac,hb0ac⟩:=zA1 hac
 obtain⟨hE0,hBl,hB,hG0,hP,hF⟩:=oR h0 hnw
 have hnz:=nK hBl h0
 have hV:=bld_v hBl
 have hVV:=bh.1 hV
 have hx6:xs.length<=1000000:=by have h4:=hVV.len;have:=Int.mul_le_mul hVV.w1 hVV.h1 (by have:=hVV.h0;omega) (by decide);omega
 have hx0:0<xs.length:=by have:=(hVV.idx (show inB W Hh 0 0=true from cC.2 (by have:=hVV.w0;have:=hVV.h0;omega))).2.2.2.2.1;omega
 refine AcT false func7 ?_;intro hbel Q hQ
 have h0bel:=hbel
 have G1:=jn @hbpp (jn @hb0pp (jn @hbac @hb0ac))
 refine ae G1 ?_
 rcases Bool.eq_false_or_eq_true (g5 W Hh xs tu le sl ra ax ay ah) with h1|h1
 ·have h1d:=h1
  refine cv (pnwy_c _ W _ _ xs _ _ _ _ _ _ _ (zA2 hb0pp hbpp) (by assumption) (by assumption) (by assumption) (by assumption) (by assumption) (by assumption) (by assumption) (by assumption)) ?_
  have G2:=j2 h1 h1d G1
  refine ae G2 ?_
  have hmvs:∀m k sel,AV.mvs (sig m k sel) (e5R (evl n0 []))=e5R (evl n0 []):=fun _ _ _=>rfl
  refine glp (fun k F Hx=>∃i:Nat,∃es:List Ev,∃x:Int,∃y:Int,∃h:Int,∃kt:Int,∃kb:Int,∃Hg0:aa,∃XX0:aa,i+k=al.length/\Hg0=H++XX0/\(∀x∈XX0,ABlk.bel Hg0.length x=true)/\n0+es.length=Hg0.length/\XX0=es.map evb/\es.length=i/\e9 W Hh xs x y h=true/\RunP W Hh xs tu le sl ra ax ay ah es/\(pzX ax es es.length=x/\pzY ay es es.length=y/\pzH ah es es.length=h)/\(∀e∈es,e.sc.length<=1000000)/\(0<=kt/\kt<=(i:Int))/\(0<=kb/\kb<=(i:Int))/\F=[(11,.ptr (some (Hg0.length+1,0))),(13,.sl (some (Hg0.length+2,0)) es.length (aT es.length)),(14,.sl (some (Hg0.length+3,0)) ((psl es).length) (aT (psl es).length)),(29,.sl (some (bac,0)) al.length cac),(30,iV (al.length:Int)),(31,iV (i:Int))]/\Hx=Hg0++[.cells true 1 (ints .u8 xs),.cells true 0 [iV W,iV Hh,.sl (some (Hg0.length,0)) xs.length none,iV tu,iV le,iV sl,iV ra,iV x,iV y,iV h,iV kt,iV kb],.cells (aL es.length) 5 (e5R (evl n0 es)),.cells (aL (psl es).length) 3 (r3 (psl es))]) (al.length) ?_ ?_
  ·refine⟨_,_,_,⟨0,[],ax,ay,ah,0,0,H,[],by omega,(List.append_nil _).symm,(fun x h=>by cases h),hn0,rfl,rfl,hG0,run_nil,⟨rfl,rfl,rfl⟩,(fun e he=>by cases he),⟨Int.le_refl _,Int.le_refl _⟩,⟨Int.le_refl _,Int.le_refl _⟩,rfl,rfl⟩,Abs.byG hbel [.cells false 5 [],.cells false 3 []] rfl [3,4,5,6] (by decide) ?_⟩
   exact az (jn @md (jn @psl_nil (jn @nY (jn @hmvs (jn @jB (jn @fi @j9))))))
  rintro k0 F Hx ⟨i,es,x,y,h,kt,kb,Hg0,XX0,hm0,hgX0,hXb_g0,hgl,hXX,hesl,hG,hR,hpz,hsc,hkt,hkb,rfl,rfl⟩ J0 hJ0
  have hbel_g0:=lE hgX0 hbel hXb_g0
  have hbpp_g0:=grow1 hgX0 hb0pp
  have hblpp_g0:=getElem?_lt hbpp_g0
  have hb0pp_g0:=fun l=>ai (l:=l) hbpp_g0
  have hbac_g0:=grow1 hgX0 hb0ac
  have hblac_g0:=getElem?_lt hbac_g0
  have hb0ac_g0:=fun l=>ai (l:=l) hbac_g0
  have hpre_g0:∃X,Hg0=H++X:=⟨_,hgX0⟩
  have hle_g0:=pre_le hpre_g0
  have hmvs:=fun k sel=>oO (m:=Hg0.length) (k:=k) (sel:=sel) (n:=n0) (es:=es) (by omega)
  have hpl:=kR (es:=es)
  have G3:=jn @hbpp_g0 (jn @hb0pp_g0 (jn @hbac_g0 (jn @hb0ac_g0 (jn h1 (jn h1d (jn @bZ (jn @cU (jn @evl_len (jn @ne (jn @nZ @r3_one))))))))))
  refine rcs G3 (fun h2 h2d _=>?_) (fun h2 h2d G6=>?_)
  ·have hlt:i<al.length:=by omega
   have haog:acOk Hg0 al:=by rw[hgX0];exact hao.app _
   obtain⟨⟨bq,oq,cq,hsq,hbq⟩,bp,op,cp,hsp,hbp⟩:=haog.at hlt
   have hblq:=getElem?_lt hbq
   have hb0q:=fun l'=>ai (l:=l') hbq
   have hblp:=getElem?_lt hbp
   have hb0p:=fun l'=>ai (l:=l') hbp
   have hsmi:=hsm i hlt
   obtain⟨e,he⟩:∃e,pdE W Hh xs tu le sl ra x y h (kt+1) (acG al i).t (acG al i).f (acG al i).eT (acG al i).eL (acG al i).eX (acG al i).eY (acG al i).mks (acG al i).ers=e:=⟨_,rfl⟩
   have hek:e.k=kt+1:=by rw[<-he];rfl
   rcases Bool.eq_false_or_eq_true (cX (acG al i).t (acG al i).f (acG al i).mks) with h3|h3
   ·have h3d:=h3
    have hAi:=h3d
    have htk:TickP W Hh xs tu le sl ra x y h e/\e.sc.length<=(acG al i).mks.length:=by rw[<-he];exact oQ hG hB hAi
    have hsc2:∀x∈es++[e],x.sc.length<=1000000:=fun z hz=>by
     rcases List.mem_append.1 hz with hz|hz
     ·exact hsc z hz
     rw[List.mem_singleton.1 hz];omega
    have q4:=acR_p (l:=al) (j:=i) (by omega) hsq hsp
    have G4:=jn h2 (jn h2d (jn h3 (jn h3d (jn @j7 (jn q4 G3)))))
    refine ae G4 ?_
    refine cv (pdo_e _ W Hh _ xs tu le sl ra x y h kt kb _ ((acG al i).t) ((acG al i).f) ((acG al i).eT) ((acG al i).eL) ((acG al i).eX) ((acG al i).eY) _ (acG al i).mks _ (acG al i).ers e he slA (zA2 hb0q hbq) (zA2 hb0p hbp) hzB (by omega) (by omega) (by omega) (by omega) (by assumption) (by assumption) (by assumption) (by assumption) (by assumption)) ?_
    have G5:=jn @bm (jn @du G4)
    refine ae G5 ?_
    refine cvr G5 (ppose_c _ W Hh _ xs tu le sl ra e.x e.y e.h e.k (kbI kb e.st) _ slA hzA) ?_
    refine hJ0 _ _ ⟨k0-1,by omega,_,_,_,⟨i+1,(es++[e]),e.x,e.y,e.h,e.k,(kbI kb e.st),(Hg0++[.cells (aL e.sc.length) 2 (prs e.sc)]),(XX0++[.cells (aL e.sc.length) 2 (prs e.sc)]),by omega,(by rw[hgX0,List.append_assoc]),rm hXb_g0 (by first|exact bel_evb|exact ei),(by rw[List.length_append,List.length_singleton,List.length_append,List.length_singleton];omega),(by rw[List.map_append,<-hXX];rfl),(by rw[List.length_append,hesl];rfl),htk.1.goo,(run_snoc hR hpz htk.1),pz_last,hsc2,(by omega),(by unfold kbI;split<;>omega),rfl,rfl⟩,Abs.byX hle_g0 hbel_g0 [] rfl [5,0,1,8,10] (by decide) ?_⟩
    exact az (jn @hmvs (jn @ro (jn @rr (jn @hgl (jn @jB (jn @fi (jn @nY (jn @rn (jn @Nat.add_assoc (jn @md @j9))))))))))
   have h3d:=h3
   exact absurd (hall i hlt) (by rw[h3d];decide)
  obtain rfl:i=al.length:=by omega
  refine ae G6 ?_
  refine hQ _ _ ((aW (.inl rfl) hbel_g0 (x1:=.tup [.sl (some (Hg0.length+2,0)) es.length (aT es.length),.sl (some (Hg0.length+3,0)) ((psl es).length) (aT (psl es).length),iV 0]) (l2:=[.cells (aL es.length) 5 (e5R (evl n0 es)),.cells (aL (psl es).length) 3 (r3 (psl es))]) (.tup [.sl (some (Hg0.length,0)) es.length (aT es.length),.sl (some (Hg0.length+1,0)) ((psl es).length) (aT (psl es).length),iV 0]) (aZ results7) [] rfl [2,3] (by decide) ⟨XX0,es,(by rw[<-hgX0];exact hXb_g0),hXX,hesl,hR,hsc,(by rw[<-hgX0]),(by rw[<-hgX0])⟩ ?_).le hle_g0)
  exact aN (jn @hmvs @j9)
 have h1d:=h1
 exact absurd hnw (by rw[h1d];decide)
theorem prun_n (H:aa)(n0:Nat)(W Hh:Int)(pp:AV)(xs:List Int)(tu le sl ra ax ay ah:Int)(ac:AV)(al:List Ac)(hpp:zI H pp xs)(hac:Sl H 8 ac al.length (acR al))(hao:acOk H al)(hsm:∀j:Nat,j<al.length->(acG al j).mks.length<=1000000/\(acG al j).ers.length<=1000000)(hll:al.length<=100000)(h0:∀z∈xs,0<=z)(hnw:g5 W Hh xs tu le sl ra ax ay ah=true)(hnot:¬∀j:Nat,j<al.length->cX (acG al j).t (acG al j).f (acG al j).mks=true)(hn0:n0=H.length):zC 7 [.agg [iV W,iV Hh,pp],.agg [iV tu,iV le,iV sl,iV ra],.agg [iV ax,iV ay,iV ah],ac] H (.tup [.sl none 0 (some 0),.sl none 0 (some 0),iV 1]) H:=by
 obtain⟨bpp,opp,cpp,rfl,hbpp,hblpp,hb0pp⟩:=zA1 hpp
 obtain⟨bac,oac,cac,rfl,hbac,hblac,hb0ac⟩:=zA1 hac
 obtain⟨hE0,hBl,hB,hG0,hP,hF⟩:=oR h0 hnw
 have hnz:=nK hBl h0
 have hV:=bld_v hBl
 have hVV:=bh.1 hV
 have hx6:xs.length<=1000000:=by have h4:=hVV.len;have:=Int.mul_le_mul hVV.w1 hVV.h1 (by have:=hVV.h0;omega) (by decide);omega
 have hx0:0<xs.length:=by have:=(hVV.idx (show inB W Hh 0 0=true from cC.2 (by have:=hVV.w0;have:=hVV.h0;omega))).2.2.2.2.1;omega
 refine AcT false func7 ?_;intro hbel Q hQ
 have h0bel:=hbel
 have G7:=jn @hbpp (jn @hb0pp (jn @hbac @hb0ac))
 refine ae G7 ?_
 rcases Bool.eq_false_or_eq_true (g5 W Hh xs tu le sl ra ax ay ah) with h1|h1
 ·have h1d:=h1
  refine cv (pnwy_c _ W _ _ xs _ _ _ _ _ _ _ (zA2 hb0pp hbpp) (by assumption) (by assumption) (by assumption) (by assumption) (by assumption) (by assumption) (by assumption) (by assumption)) ?_
  have G8:=j2 h1 h1d G7
  refine ae G8 ?_
  have hmvs:∀m k sel,AV.mvs (sig m k sel) (e5R (evl n0 []))=e5R (evl n0 []):=fun _ _ _=>rfl
  refine glp (fun k F Hx=>∃i:Nat,∃es:List Ev,∃x:Int,∃y:Int,∃h:Int,∃kt:Int,∃kb:Int,∃Hg0:aa,∃XX0:aa,i+k=al.length/\Hg0=H++XX0/\(∀x∈XX0,ABlk.bel Hg0.length x=true)/\n0+es.length=Hg0.length/\XX0=es.map evb/\es.length=i/\e9 W Hh xs x y h=true/\RunP W Hh xs tu le sl ra ax ay ah es/\(pzX ax es es.length=x/\pzY ay es es.length=y/\pzH ah es es.length=h)/\(∀e∈es,e.sc.length<=1000000)/\(0<=kt/\kt<=(i:Int))/\(0<=kb/\kb<=(i:Int))/\(∀j:Nat,j<i->cX (acG al j).t (acG al j).f (acG al j).mks=true)/\F=[(11,.ptr (some (Hg0.length+1,0))),(13,.sl (some (Hg0.length+2,0)) es.length (aT es.length)),(14,.sl (some (Hg0.length+3,0)) ((psl es).length) (aT (psl es).length)),(29,.sl (some (bac,0)) al.length cac),(30,iV (al.length:Int)),(31,iV (i:Int))]/\Hx=Hg0++[.cells true 1 (ints .u8 xs),.cells true 0 [iV W,iV Hh,.sl (some (Hg0.length,0)) xs.length none,iV tu,iV le,iV sl,iV ra,iV x,iV y,iV h,iV kt,iV kb],.cells (aL es.length) 5 (e5R (evl n0 es)),.cells (aL (psl es).length) 3 (r3 (psl es))]) (al.length) ?_ ?_
  ·refine⟨_,_,_,⟨0,[],ax,ay,ah,0,0,H,[],by omega,(List.append_nil _).symm,(fun x h=>by cases h),hn0,rfl,rfl,hG0,run_nil,⟨rfl,rfl,rfl⟩,(fun e he=>by cases he),⟨Int.le_refl _,Int.le_refl _⟩,⟨Int.le_refl _,Int.le_refl _⟩,(fun j h=>by omega),rfl,rfl⟩,Abs.byG hbel [.cells false 5 [],.cells false 3 []] rfl [3,4,5,6] (by decide) ?_⟩
   exact az (jn @md (jn @psl_nil (jn @nY (jn @hmvs (jn @jB (jn @fi @j9))))))
  rintro k0 F Hx ⟨i,es,x,y,h,kt,kb,Hg0,XX0,hm0,hgX0,hXb_g0,hgl,hXX,hesl,hG,hR,hpz,hsc,hkt,hkb,hal,rfl,rfl⟩ J0 hJ0
  have hbel_g0:=lE hgX0 hbel hXb_g0
  have hbpp_g0:=grow1 hgX0 hb0pp
  have hblpp_g0:=getElem?_lt hbpp_g0
  have hb0pp_g0:=fun l=>ai (l:=l) hbpp_g0
  have hbac_g0:=grow1 hgX0 hb0ac
  have hblac_g0:=getElem?_lt hbac_g0
  have hb0ac_g0:=fun l=>ai (l:=l) hbac_g0
  have hpre_g0:∃X,Hg0=H++X:=⟨_,hgX0⟩
  have hle_g0:=pre_le hpre_g0
  have hmvs:=fun k sel=>oO (m:=Hg0.length) (k:=k) (sel:=sel) (n:=n0) (es:=es) (by omega)
  have hpl:=kR (es:=es)
  have G9:=jn @hbpp_g0 (jn @hb0pp_g0 (jn @hbac_g0 (jn @hb0ac_g0 (jn h1 (jn h1d (jn @bZ (jn @cU (jn @evl_len (jn @ne (jn @nZ @r3_one))))))))))
  refine rcs G9 (fun h2 h2d _=>?_) (fun h2 h2d _=>?_)
  ·have hlt:i<al.length:=by omega
   have haog:acOk Hg0 al:=by rw[hgX0];exact hao.app _
   obtain⟨⟨bq,oq,cq,hsq,hbq⟩,bp,op,cp,hsp,hbp⟩:=haog.at hlt
   have hblq:=getElem?_lt hbq
   have hb0q:=fun l'=>ai (l:=l') hbq
   have hblp:=getElem?_lt hbp
   have hb0p:=fun l'=>ai (l:=l') hbp
   have hsmi:=hsm i hlt
   obtain⟨e,he⟩:∃e,pdE W Hh xs tu le sl ra x y h (kt+1) (acG al i).t (acG al i).f (acG al i).eT (acG al i).eL (acG al i).eX (acG al i).eY (acG al i).mks (acG al i).ers=e:=⟨_,rfl⟩
   have hek:e.k=kt+1:=by rw[<-he];rfl
   rcases Bool.eq_false_or_eq_true (cX (acG al i).t (acG al i).f (acG al i).mks) with h3|h3
   ·have h3d:=h3
    have hAi:=h3d
    have htk:TickP W Hh xs tu le sl ra x y h e/\e.sc.length<=(acG al i).mks.length:=by rw[<-he];exact oQ hG hB hAi
    have hsc2:∀x∈es++[e],x.sc.length<=1000000:=fun z hz=>by
     rcases List.mem_append.1 hz with hz|hz
     ·exact hsc z hz
     rw[List.mem_singleton.1 hz];omega
    have q4:=acR_p (l:=al) (j:=i) (by omega) hsq hsp
    have G10:=jn h2 (jn h2d (jn h3 (jn h3d (jn @j7 (jn q4 G9)))))
    refine ae G10 ?_
    refine cv (pdo_e _ W Hh _ xs tu le sl ra x y h kt kb _ ((acG al i).t) ((acG al i).f) ((acG al i).eT) ((acG al i).eL) ((acG al i).eX) ((acG al i).eY) _ (acG al i).mks _ (acG al i).ers e he slA (zA2 hb0q hbq) (zA2 hb0p hbp) hzB (by omega) (by omega) (by omega) (by omega) (by assumption) (by assumption) (by assumption) (by assumption) (by assumption)) ?_
    have G11:=jn @bm (jn @du G10)
    refine ae G11 ?_
    refine cvr G11 (ppose_c _ W Hh _ xs tu le sl ra e.x e.y e.h e.k (kbI kb e.st) _ slA hzA) ?_
    refine hJ0 _ _ ⟨k0-1,by omega,_,_,_,⟨i+1,(es++[e]),e.x,e.y,e.h,e.k,(kbI kb e.st),(Hg0++[.cells (aL e.sc.length) 2 (prs e.sc)]),(XX0++[.cells (aL e.sc.length) 2 (prs e.sc)]),by omega,(by rw[hgX0,List.append_assoc]),rm hXb_g0 (by first|exact bel_evb|exact ei),(by rw[List.length_append,List.length_singleton,List.length_append,List.length_singleton];omega),(by rw[List.map_append,<-hXX];rfl),(by rw[List.length_append,hesl];rfl),htk.1.goo,(run_snoc hR hpz htk.1),pz_last,hsc2,(by omega),(by unfold kbI;split<;>omega),fun j hj=>by
          rcases Nat.lt_or_ge j i with q|q
          ·exact hal j q
          rw[show j=i by omega];exact hAi,rfl,rfl⟩,Abs.byX hle_g0 hbel_g0 [] rfl [5,0,1,8,10] (by decide) ?_⟩
    exact az (jn @hmvs (jn @ro (jn @rr (jn @hgl (jn @jB (jn @fi (jn @nY (jn @rn (jn @Nat.add_assoc (jn @md @j9))))))))))
   have h3d:=h3
   have hAi:=h3d
   have q5:=acR_p (l:=al) (j:=i) (by omega) hsq hsp
   have G12:=jn h2 (jn h2d (jn h3 (jn h3d (jn @j7 (jn q5 G9)))))
   refine ae G12 ?_
   refine cvr G12 (pdon_c _ W Hh _ xs tu le sl ra x y h kt kb _ _ _ _ _ _ _ _ (acG al i).mks _ (acG al i).ers slA hzA (zA2 hb0q hbq) (zA2 hb0p hbp) (by omega) (by assumption)) ?_
   exact hQ _ _ (kQ (.inl rfl) hpre_g0 h0bel (x:=.tup [.sl none 0 (some 0),.sl none 0 (some 0),iV 1]) (aZ results7) rfl ⟨rfl,rfl⟩)
  obtain rfl:i=al.length:=by omega
  exact absurd hal hnot
 have h1d:=h1
 exact absurd hnw (by rw[h1d];decide)
theorem prun_z (H:aa)(W Hh:Int)(pp:AV)(xs:List Int)(tu le sl ra ax ay ah:Int)(ac:AV)(al:List Ac)(hpp:zI H pp xs)(hac:Sl H 8 ac al.length (acR al))(hao:acOk H al)(h0:∀z∈xs,0<=z)(hnw:g5 W Hh xs tu le sl ra ax ay ah=false):zC 7 [.agg [iV W,iV Hh,pp],.agg [iV tu,iV le,iV sl,iV ra],.agg [iV ax,iV ay,iV ah],ac] H (.tup [.sl none 0 (some 0),.sl none 0 (some 0),iV (pnwE W Hh xs tu le sl ra ax ay ah)]) H:=by
 obtain⟨bpp,opp,cpp,rfl,hbpp,hblpp,hb0pp⟩:=zA1 hpp
 obtain⟨bac,oac,cac,rfl,hbac,hblac,hb0ac⟩:=zA1 hac
 refine AcT false func7 ?_;intro hbel Q hQ
 have G13:=jn @hbpp (jn @hb0pp (jn @hbac @hb0ac))
 refine ae G13 ?_
 rcases Bool.eq_false_or_eq_true (g5 W Hh xs tu le sl ra ax ay ah) with h1|h1
 ·have h1d:=h1
  exact absurd hnw (by rw[h1d];decide)
 have h1d:=h1
 refine cv (pnwn_c _ W _ _ xs _ _ _ _ _ _ _ (zA2 hb0pp hbpp) (by assumption) (by assumption)) ?_
 have G14:=j2 h1 h1d G13
 refine rcs G14 (fun h2 h2d _=>?_) (fun h2 h2d _=>?_)
 ·have h2n:=bnT h2
  have G15:=jn h2 (jn h2n (jn @aP (jn @aO G14)))
  exact eR G15 hQ hbel (.tup [.sl none 0 (some 0),.sl none 0 (some 0),iV (pnwE W Hh xs tu le sl ra ax ay ah)]) results7 ⟨rfl,rfl⟩
 have h2n:=bnT h2
 exact absurd (by first|exact h2d|simpa using h2d) pnwE_nz
structure RndQ (W Hh:Int) (xs ks:List Int) (Q:List T6) (x y h:Int):Prop where
 kV:bC W Hh ks=true
 bl:dZ ks xs
 S:bM Q=true
 l0:0<Q.length
 cv:∃b∈Q,InP b x y h
theorem RndP.q {W Hh:Int}{xs ks:List Int}{Q:List T6}{x y h:Int}(R:RndP W Hh xs ks Q x y h):RndQ W Hh xs ks Q x y h:=⟨R.kV,R.bl,R.S,R.l0,R.cv⟩
theorem bcv_t (H:aa)(s:AV)(l:List T6)(px py ph:Int)(h:covB l px py ph=true)(hs:Sl H 6 s l.length (r6 l))(hl:l.length<=1000000000):zC 9 [s,.agg [iV px,iV py,iV ph]] H (.bool true) H:=by
 have:=bcov_c H s l px py ph hs hl
 rwa [h] at this
theorem wlo_2 (H:aa) (W Hh:Int) (xs vls:List Int) (l:List T6) (ax ay ah tu le sl ra:Int) (evs:List Ev) (hbel:HBel H.length H) (Q:Exit->Fr->aa->Prop) (hQ:∀F H',AEnd prog Tryz.f3 H.length (fun v H'=>v=.bool true/\H'=H) .ret F H'->dl Q F H') (G:aa) (bza bzb bpp bs bvl bev bps:Nat) (oza ozb opp os ovl oev ops:Bool) (cpp cs cvl cev cps:Option Nat) (hGb:HBel G.length G) (hpre:∃X,G=H++X)
  (hza:G[bza]? = some (.cells oza 0 [iV W,iV Hh,.sl (some (bpp,0)) xs.length cpp,iV tu,iV le,iV sl,iV ra,iV ax,iV ay,iV ah])) (hzb:G[bzb]? = some (.cells ozb 0 [.sl (some (bs,0)) l.length cs,.sl (some (bvl,0)) vls.length cvl])) (hpp:G[bpp]? = some (.cells opp 1 (ints .u8 xs))) (hs:G[bs]? = some (.cells os 6 (r6 l))) (hvl0:G[bvl]? = some (.cells ovl 1 (ints .u8 vls))) (hev:G[bev]? = some (.cells oev 5 (e5R evs))) (hps:G[bps]? = some (.cells ops 3 (r3 (psl evs))))
  (hvo:evOk G evs) (hR:RunP W Hh xs tu le sl ra ax ay ah evs) (hn6:evs.length<=6) (hnw:g5 W Hh xs tu le sl ra ax ay ah=true) (h0:∀z∈xs,0<=z) (hx64:xs.length<=64) (hl3:l.length<=3) (hvl:vls.length<=9223372036854775807) {a0 a1 a2 a3 c:Code} (hb:Tryz.f3.body=some (.seq a0 (.seq a1 (.seq a2 (.seq a3 c))))) :
  AW prog Tryz.f3.ntmps H.length c Q [(3,.ptr (some (bza,0))),(5,.ptr (some (bzb,0))),(6,.bool false),(7,.sl (some (bev,0)) evs.length cev),(8,.sl (some (bps,0)) (psl evs).length cps)] G:=by
 have hb':Tryz.f3.body=some (.seq _ (.seq _ (.seq _ (.seq _ _)))):=rfl
 have hc:=hb'.symm.trans hb
 simp only[Option.some.injEq,Code.seq.injEq] at hc
 obtain⟨-,-,-,-,rfl⟩:=hc
 clear hb hb'
 obtain⟨hE0,hBl,hB,hG0,hP,hF⟩:=oR h0 hnw
 obtain⟨hV,⟨hx,hy⟩,hbh⟩:=n7 hG0
 have hVV:=bh.1 hV
 have hw0:=hVV.w0
 have hw1:=hVV.w1
 have hh0:=hVV.h0
 have hh1:=hVV.h1
 have hnz:=nK hBl h0
 have hbi:=hB
 simp only[bX,Bool.and_eq_true,aS] at hbi
 have hg:1<=ra/\ra<=32:=by omega
 have hpl:=kR (es:=evs)
 have hx0:0<xs.length:=by have:=(hVV.idx (show inB W Hh 0 0=true from cC.2 (by omega))).2.2.2.2.1;omega
 have hbl0:=vlP_bel xs vls
 have hVk:=bel_vld hbl0 hV
 have h0bel:=hbel
 have hbel_b:=hGb
 have hpre_b:=hpre
 have hle_b:=pre_le hpre_b
 have hbza_b:=hza
 have hblza_b:=getElem?_lt hbza_b
 have hb0za_b:=fun l=>ai (l:=l) hbza_b
 have hbzb_b:=hzb
 have hblzb_b:=getElem?_lt hbzb_b
 have hb0zb_b:=fun l=>ai (l:=l) hbzb_b
 have hbpp_b:=hpp
 have hblpp_b:=getElem?_lt hbpp_b
 have hb0pp_b:=fun l=>ai (l:=l) hbpp_b
 have hbs_b:=hs
 have hbls_b:=getElem?_lt hbs_b
 have hb0s_b:=fun l=>ai (l:=l) hbs_b
 have hbvl_b:=hvl0
 have hblvl_b:=getElem?_lt hbvl_b
 have hb0vl_b:=fun l=>ai (l:=l) hbvl_b
 have hbev_b:=hev
 have hblev_b:=getElem?_lt hbev_b
 have hb0ev_b:=fun l=>ai (l:=l) hbev_b
 have hbps_b:=hps
 have hblps_b:=getElem?_lt hbps_b
 have hb0ps_b:=fun l=>ai (l:=l) hbps_b
 refine zQF hQ fun Q1 hn1 hQ1 he1=>?_
 have G1:=jn @hbza_b (jn @hbzb_b (jn @hbpp_b (jn @hbs_b (jn @hbvl_b (jn @hbev_b (jn @hbps_b (jn @hb0za_b (jn @hb0zb_b (jn @hb0pp_b (jn @hb0s_b (jn @hb0vl_b (jn @hb0ev_b (jn @hb0ps_b (jn @Nat.add_assoc (jn @Option.isNone_some.{0} @Option.isNone_none.{0})))))))))))))))
 refine ae G1 ?_
 refine cv (bset_c _ _ l (zA2 hb0s_b hbs_b) (by omega)) ?_
 refine rgs G1 (fun h1 h1d G2=>?_) (fun h1 h1d G13=>?_)
 ·have hS:=h1d
  refine ae G2 ?_
  refine cv (bcov_c _ _ l _ _ _ (zA2 hb0s_b hbs_b) (by omega)) ?_
  refine rcs G2 (fun h2 h2d G3=>?_) (fun h2 h2d G4=>?_)
  ·refine ae G3 ?_
   exact hQ1 _ _ (mw (.inl rfl) hpre_b h0bel (x:=.bool true) (aZ results3) rfl ⟨rfl,rfl⟩)
  have hcov:=h2d
  have hcv0:=cov_in hbh hcov
  have hl0:0<l.length:=by obtain⟨b,hb,-⟩:=hcv0;exact List.length_pos_of_mem hb
  have hLs:lsB l=true:=lsB_iff.2 ⟨hl0,hS⟩
  have hRn:RndQ W Hh xs (vlP xs vls) l ax ay ah:=⟨hVk,hbl0,hS,hl0,hcv0⟩
  refine ae G4 ?_
  refine hn1 _ _ (zQF hQ fun Q2 hn2 hQ2 he2=>?_)
  refine ae G4 ?_
  refine cx (veil_c _ W _ _ xs _ vls (zA2 hb0pp_b hbpp_b) (zA2 hb0vl_b hbvl_b) hx0 (by omega) (by omega)) ?_
  refine ae G4 ?_
  refine cx (lnew_y _ W _ _ (vlP xs vls) _ l _ _ _ _ slA (zA2 hb0s_b hbs_b) (by assumption) (by assumption) (by assumption)) ?_
  refine ae G4 ?_
  refine hn2 _ _ (zQF hQ fun Q3 hn3 hQ3 he3=>?_)
  refine ae G4 ?_
  refine hn3 _ _ (sqR hQ fun Q4 hn4 hQ4 he4=>?_)
  refine zQF hQ4 fun Q5 hn5 hQ5 he5=>?_
  refine ae G4 ?_
  refine hn5 _ _ ?_
  refine bkR hQ4 fun Q6 hn6 hQ6 he6 hb6=>?_
  refine kr (fun k F Hx=>∃i:Nat,∃ks:List Int,∃Q:List T6,i+k=evs.length/\RndQ W Hh xs ks Q (pzX ax evs i) (pzY ay evs i) (pzH ah evs i)/\F=[(3,.ptr (some (bza,0))),(7,.sl (some (bev,0)) evs.length cev),(8,.sl (some (bps,0)) ((psl evs).length) cps),(10,.ptr (some (G.length+2,0))),(12,iV (i:Int))]/\Hx=G++[.cells true 1 (ints .u8 ks),.cells true 6 (r6 Q),.cells true 0 [iV W,iV Hh,.sl (some (G.length,0)) ks.length none,.sl (some (G.length+1,0)) Q.length none,iV tu,iV le,iV sl,iV ra,.bool false]]) (evs.length) ?_ ?_
  ·refine⟨_,_,_,⟨0,(vlP xs vls),l,by omega,hRn,rfl,rfl⟩,(Abs.byG hbel_b [] rfl [1,2,3] (by decide) ?_).le hle_b⟩
   exact az (jn @br (jn @ba (jn @bQ @bE)))
  rintro k0 F Hx ⟨i,ks,Q,hm0,hRd,rfl,rfl⟩ Q7 hJ0 hr7 he7
  have hQ7:=fun F H' h=>hr7 F H' (hQ6 F H' h)
  refine zQF hQ7 fun Q8 hn8 hQ8 he8=>?_
  have G5:=jn @bZ (jn @cU (jn @ce (jn @fe G4)))
  refine rcs G5 (fun h3 h3d _=>?_) (fun h3 h3d G12=>?_)
  ·have hlt:i<evs.length:=by omega
   obtain⟨bq,oq,cq,hsq,hbq⟩:=hvo.at hlt
   have hblq:=getElem?_lt hbq
   have hb0q:=fun l'=>ai (l:=l') hbq
   have hT:=hR i hlt
   have hQ16:=(bF.1 hRd.S).1
   have hQS:=hRd.S
   have hQ0:=hRd.l0
   have hC:=hT.cmd
   have hkV:=hRd.kV
   have hscB:=hT.scn
   rcases Bool.eq_false_or_eq_true (imA Q (evG evs i).t (stF (evG evs i).st (evG evs i).g) tu le sl) with h4|h4
   ·have h4d:=h4
    have hIA:=h4d
    obtain⟨Q1,hQ1⟩:∃Q1,imS Q (evG evs i).t (stF (evG evs i).st (evG evs i).g) tu le sl Q.length=Q1:=⟨_,rfl⟩
    obtain⟨hS1,h01,hc1,-⟩:=rnd_mv hRd.S hRd.l0 hRd.cv hIA hB hT hQ1
    obtain⟨Q2,hQ2⟩:∃Q2,cpL (bL W Hh ks Q1 (evG evs i).sc ra 32)=Q2:=⟨_,rfl⟩
    obtain⟨hR1,oo,hoo,ho0,hRp,-⟩:=rnd_se hnz hRd.kV hRd.bl hB hT hS1 hc1
    rw[hQ2] at hoo hRp
    have hR2:=hRp.q
    have hv2:=(in_cov (n7 hT.goo).2.2 (bF.1 hR2.S).2 hR2.cv).1
    obtain⟨hg1,hg2,hg3⟩:=psl_g hlt
    rw[<-hg1,<-hg2,<-hg3] at hv2
    have hS116:=(bF.1 hS1).1
    have hS216:=(bF.1 hR2.S).1
    have hS2:=hR2.S
    have h02:=hR2.l0
    have hkl:=hR2.bl.1
    have hkV2:=hR2.kV
    have hbl2:=hR2.bl
    have G6:=jn h3 (jn h3d (j2 h4 h4d G5))
    refine ae G6 ?_
    refine hn8 _ _ (sqR hQ7 fun Q9 hn9 hQ9 he9=>?_)
    refine bkR hQ9 fun Q10 hn10 hQ10 he10 hb10=>?_
    refine sqR hQ10 fun Q11 hn11 hQ11 he11=>?_
    refine nd false try_mixed (by kernel_rfl) (G.length) (by simp) (fun F2 H2=>(True)/\F2=[(3,.ptr (some (bza,0))),(7,.sl (some (bev,0)) evs.length cev),(8,.sl (some (bps,0)) ((psl evs).length) cps),(10,.ptr (some (G.length+1,0))),(12,iV (i:Int)),(13,iV 0)]/\H2=G++[.cells true 1 (ints .u8 ks),.cells true 0 [iV W,iV Hh,.sl (some (G.length,0)) ks.length none,.sl (some (G.length+2,0)) Q1.length none,iV tu,iV le,iV sl,iV ra,.bool false],.cells true 6 (r6 Q1)]) ?_ ?_
    ·intro J hJ
     have q5:=e5R_p1 (l:=evs) (j:=i) (by omega)
     have q6:=e5R_at3 (l:=evs) (j:=i) (by omega)
     have G7:=jn @j6 (jn q5 (jn q6 G6))
     refine ae G7 ?_
     refine call_w (by kernel_rfl) (by simp) (fun b h1 h2=>by first|exact pT (by omega) h1 h2|exact nX (by omega) h1) (lmv_w _ W Hh (.sl (some (G.length,0)) ks.length none) ks (.sl (some (G.length+1,0)) Q.length none) Q tu le sl ra _ ((evG evs i).t) ((evG evs i).g) ((evG evs i).st) Q1 hQ1 slA slA hzB (by assumption) (by assumption) (by assumption) (by assumption) (by assumption)) ?_
     refine ae G7 ?_
     refine aC (hJ _ _ ⟨_,_,_,⟨trivial,rfl,rfl⟩,(Abs.byG hbel_b [] rfl [0,2,3] (by decide) ?_).le hle_b⟩)
     exact az (jn @br (jn @ba (jn @bQ @bE)))
    rintro F2 H2 ⟨pz,rfl,rfl⟩
    refine fnF ?_
    refine ae G6 ?_
    refine hn11 _ _ ?_
    refine nd false try_mixed (by kernel_rfl) (G.length) (by simp) (fun F2 H2=>(True)/\F2=[(3,.ptr (some (bza,0))),(7,.sl (some (bev,0)) evs.length cev),(8,.sl (some (bps,0)) ((psl evs).length) cps),(10,.ptr (some (G.length,0))),(12,iV (i:Int)),(129,.bool false)]/\H2=G++[.cells true 0 [iV W,iV Hh,.sl (some (G.length+1,0)) oo.length none,.sl (some (G.length+2,0)) Q2.length none,iV tu,iV le,iV sl,iV ra,.bool false],.cells true 1 (ints .u8 oo),.cells true 6 (r6 Q2)]) ?_ ?_
    ·intro J hJ
     have q7:=e5R_at4 (l:=evs) (j:=i) (by omega) hsq
     have G8:=jn @j6 (jn q7 G6)
     refine ae G8 ?_
     refine call_w (by kernel_rfl) (by simp) (fun b h1 h2=>by first|exact pT (by omega) h1 h2|exact nX (by omega) h1) (lse_w _ W Hh (.sl (some (G.length,0)) ks.length none) ks (.sl (some (G.length+2,0)) Q1.length none) Q1 tu le sl ra _ _ ((evG evs i).sc) Q2 hQ2 slA slA hzB (zA2 hb0q hbq) (by assumption) (by assumption) (by assumption) (by assumption) (by assumption) (by assumption) oo hoo ho0) ?_
     refine ae G8 ?_
     refine cdr G8 (llost_c _ W Hh (.sl (some (G.length+3,0)) oo.length none) oo (.sl (some (G.length+4,0)) Q2.length none) Q2 tu le sl ra false _ slA slA hzA) ?_
     refine cx (lset_c _ W Hh (.sl (some (G.length+3,0)) oo.length none) oo (.sl (some (G.length+4,0)) Q2.length none) Q2 tu le sl ra false _ slA slA hzA (by omega) (by assumption)) ?_
     have q8:=r3_load (l:=psl evs) (j:=i) (by omega)
     have G9:=jn @nZ (jn q8 G8)
     refine ae G9 ?_
     refine cdr G9 (bcv_t _ _ Q2 _ _ _ (by assumption) slA (by omega)) ?_
     refine cx (lplan_c _ W Hh (.sl (some (G.length+3,0)) oo.length none) oo (.sl (some (G.length+4,0)) Q2.length none) Q2 tu le sl ra false _ slA slA hzA (by omega) (by omega)) ?_
     refine ae G9 ?_
     refine cdr G9 (below_c _ W _ _ oo W _ _ xs slA (zA2 hb0pp_b hbpp_b) (by assumption) (by assumption) rfl rfl (by assumption)) ?_
     refine aC (hJ _ _ ⟨_,_,_,⟨trivial,rfl,rfl⟩,(Abs.byG hbel_b [] rfl [1,3,4] (by decide) ?_).le hle_b⟩)
     exact az (jn @br (jn @ba (jn @bQ @bE)))
    rintro F2 H2 ⟨pz,rfl,rfl⟩
    refine fnF ?_
    refine ae G6 ?_
    refine hn10 _ _ ?_
    refine hn9 _ _ ?_
    refine fnF ?_
    refine ae G6 ?_
    refine hJ0 _ _ ⟨k0-1,by omega,_,_,_,⟨i+1,oo,Q2,by omega,hR2,rfl,rfl⟩,(Abs.byG hbel_b [] rfl [1,2,0] (by decide) ?_).le hle_b⟩
    exact az (jn @br (jn @ba (jn @bQ @bE)))
   have h4d:=h4
   have hIA:=h4d
   have G10:=jn h3 (jn h3d (j2 h4 h4d G5))
   refine ae G10 ?_
   refine hn8 _ _ (sqR hQ7 fun Q12 hn12 hQ12 he12=>?_)
   refine bkR hQ12 fun Q13 hn13 hQ13 he13 hb13=>?_
   refine sqR hQ13 fun Q14 hn14 hQ14 he14=>?_
   refine nd false try_mixed (by kernel_rfl) (G.length) (by simp) (fun F2 H2=>(True)/\F2=[(3,.ptr (some (bza,0))),(7,.sl (some (bev,0)) evs.length cev),(8,.sl (some (bps,0)) ((psl evs).length) cps),(10,.ptr (some (G.length+2,0))),(12,iV (i:Int)),(13,iV 2)]/\H2=G++[.cells true 1 (ints .u8 ks),.cells true 6 (r6 Q),.cells true 0 [iV W,iV Hh,.sl (some (G.length,0)) ks.length none,.sl (some (G.length+1,0)) Q.length none,iV tu,iV le,iV sl,iV ra,.bool false]]) ?_ ?_
   ·intro J hJ
    have q9:=e5R_p1 (l:=evs) (j:=i) (by omega)
    have q10:=e5R_at3 (l:=evs) (j:=i) (by omega)
    have G11:=jn @j6 (jn q9 (jn q10 G10))
    refine ae G11 ?_
    refine cdr G11 (lmv_n _ W Hh (.sl (some (G.length,0)) ks.length none) ks (.sl (some (G.length+1,0)) Q.length none) Q tu le sl ra _ _ _ _ slA slA hzA (by assumption) (by assumption) (by assumption) (by assumption) (by assumption)) ?_
    refine aC (hJ _ _ ⟨_,_,_,⟨trivial,rfl,rfl⟩,(Abs.byG hbel_b [] rfl [0,1,2] (by decide) ?_).le hle_b⟩)
    exact az (jn @br (jn @ba (jn @bQ @bE)))
   rintro F2 H2 ⟨pz,rfl,rfl⟩
   refine fnF ?_
   refine ae G10 ?_
   exact hQ14 _ _ (kQ (.inl rfl) hpre_b h0bel (x:=.bool true) (aZ results3) rfl ⟨rfl,rfl⟩)
  refine ae G12 ?_
  refine he8 _ _ _ ?_
  refine he7 _ _ _ ?_
  refine hb6 _ _ ?_
  refine hn4 _ _ ?_
  refine fnF ?_
  refine ae G12 ?_
  exact hQ _ _ (kQ (.inl rfl) hpre_b h0bel (x:=.bool true) (aZ results3) rfl ⟨rfl,rfl⟩)
 refine ae G13 ?_
 exact hQ1 _ _ (mw (.inl rfl) hpre_b h0bel (x:=.bool true) (aZ results3) rfl ⟨rfl,rfl⟩)
theorem brf_c (H:aa)(W Hh:Int)(pp:AV)(xs:List Int)(tu le sl ra ax ay ah:Int)(ac:AV)(al:List Ac)(hpp:zI H pp xs)(hac:Sl H 8 ac al.length (acR al))(hao:acOk H al)(hll:al.length<=9223372036854775807)(hx6:xs.length<=9223372036854775807):zC 5 [.agg [iV W,iV Hh,pp,iV tu,iV le,iV sl,iV ra,iV ax,iV ay,iV ah],ac] H (.bool (gC xs al)) H:=by
 obtain⟨bpp,opp,cpp,rfl,hbpp,hblpp,hb0pp⟩:=zA1 hpp
 obtain⟨bac,oac,cac,rfl,hbac,hblac,hb0ac⟩:=zA1 hac
 refine AcT true func5 ?_;intro hbel Q hQ
 have G1:=jn @hbpp (jn @hb0pp (jn @hbac @hb0ac))
 refine rgs G1 (fun h1 h1d G2=>?_) (fun h1 h1d G11=>?_)
 ·have hx64:xs.length<=64:=by omega
  refine rcs G2 (fun h2 h2d G3=>?_) (fun h2 h2d G4=>?_)
  ·have hfinV:gC xs al=false:=by unfold gC;rw[decide_eq_false (show ¬al.length<=10 by omega)];simp
   exact eR G3 hQ hbel (.bool false) results5 ⟨by first|(rw[hfinV];done)|(rw[hfinV];rfl),rfl⟩
  have ha10:al.length<=10:=by omega
  refine ae G4 ?_
  refine glp (fun k F Hx=>∃i:Nat,i+k=al.length/\(∀j:Nat,j<i->brC (acG al j)=true)/\F=[(1,.sl (some (bac,0)) al.length cac),(5,iV (i:Int))]/\H=Hx) (al.length) ?_ ?_
  ·refine⟨_,_,_,⟨0,by omega,(fun j h=>by omega),rfl,rfl⟩,Abs.byN hbel ?_⟩
   exact aD
  rintro k0 F Hx ⟨i,hm0,hal,rfl,rfl⟩ J0 hJ0
  refine rcs G4 (fun h3 h3d _=>?_) (fun h3 h3d G10=>?_)
  ·have hlt:i<al.length:=by omega
   obtain⟨⟨bq,oq,cq,hsq,hbq⟩,bp,op,cp,hsp,hbp⟩:=hao.at hlt
   have hblq:=getElem?_lt hbq
   have hb0q:=fun l'=>ai (l:=l') hbq
   have hblp:=getElem?_lt hbp
   have hb0p:=fun l'=>ai (l:=l') hbp
   have hlen:=hao.len hlt
   have q4:=acR_at6 (l:=al) (j:=i) (by omega) hsq
   have G5:=jn h3 (jn h3d (jn @j7 (jn q4 G4)))
   refine rgs G5 (fun h5 h5d _=>?_) (fun h5 h5d G9=>?_)
   ·have hm4:(acG al i).mks.length<=4:=by omega
    have q6:=acR_at7 (l:=al) (j:=i) (by omega) hsp
    have G6:=jn h5 (jn h5d (jn q6 G5))
    refine rcs G6 (fun h7 h7d G7=>?_) (fun h7 h7d G8=>?_)
    ·have hfinV:gC xs al=false:=brf_n hlt (by unfold brC;rw[decide_eq_false (show ¬(acG al i).ers.length<=40 by omega)];simp)
     exact eS G7 hQ hbel (.bool false) results5 ⟨by first|(rw[hfinV];done)|(rw[hfinV];rfl),rfl⟩
    have hno:brC (acG al i)=true:=by unfold brC;rw[decide_eq_true (by omega),decide_eq_true (by omega)];rfl
    refine ae G8 ?_
    refine hJ0 _ _ ⟨k0-1,by omega,_,_,_,⟨i+1,by omega,fun j hj=>by
          rcases Nat.lt_or_ge j i with h|h
          ·exact hal j h
          rw[show j=i by omega];exact hno,rfl,rfl⟩,Abs.by0 hbel ?_⟩
    exact aD
   have hfinV:gC xs al=false:=brf_n hlt (by unfold brC;rw[decide_eq_false (by omega)];rfl)
   exact eS G9 hQ hbel (.bool false) results5 ⟨by first|(rw[hfinV];done)|(rw[hfinV];rfl),rfl⟩
  have hfinV:gC xs al=true:=brf_y hx64 ha10 (fun j h=>hal j (by omega))
  exact eS G10 hQ hbel (.bool true) results5 ⟨by first|(rw[hfinV];done)|(rw[hfinV];rfl),rfl⟩
 have hfinV:gC xs al=false:=by unfold gC;rw[decide_eq_false (show ¬xs.length<=64 by omega)];rfl
 exact eR G11 hQ hbel (.bool false) results5 ⟨by first|(rw[hfinV];done)|(rw[hfinV];rfl),rfl⟩
theorem rv {n:Nat}:∀{l:List T3},AV.bels n (r3 l)=true
 |[]=>rfl
 |p::l=>by rw[fi];simp only[AV.bels,AV.bel,rv (l:=l),Bool.true_and]
theorem AW.less0 {P:Program}{N n:Nat}{c:Code}{Q:Exit->Fr->aa->Prop}{F F2:Fr}{H:aa}(h:AW P N n c Q F2 H)(hf:∀t,look F2 t=.any\/look F2 t=look F t):AW P N n c Q F H:=fun E w a h1 h2 h3 h4 h5=>h E w a h1 h2 h3 (fun t=>by
 rcases hf t with q|q
 ·rw[q];exact .any _
 rw[q];exact h4 t) h5
theorem lwl_c (H:aa)(W Hh:Int)(pp:AV)(xs:List Int)(tu le sl ra ax ay ah:Int)(ac:AV)(al:List Ac)(s:AV)(l:List T6)(vl:AV)(vls:List Int)(hpp:zI H pp xs)(hac:Sl H 8 ac al.length (acR al))(hs:Sl H 6 s l.length (r6 l))(hvl:zI H vl vls)(h0:∀z∈xs,0<=z)(hxl:xs.length<=9223372036854775807)(hll:al.length<=9223372036854775807)(hao:acOk H al)(hlm:l.length<=9223372036854775807)(hvlm:vls.length<=9223372036854775807):zC 3 [.agg [iV W,iV Hh,pp,iV tu,iV le,iV sl,iV ra,iV ax,iV ay,iV ah],ac,.agg [s,vl]] H (.bool true) H:=by
 obtain⟨bpp,opp,cpp,rfl,hbpp,hblpp,hb0pp⟩:=zA1 hpp
 obtain⟨bac,oac,cac,rfl,hbac,hblac,hb0ac⟩:=zA1 hac
 obtain⟨bs,os,cs,rfl,hbs,hbls,hb0s⟩:=zA1 hs
 obtain⟨bvl,ovl,cvl,rfl,hbvl,hblvl,hb0vl⟩:=zA1 hvl
 (refine bI func3 _ rfl (Nat.le_of_ble_eq_true (by kernel_rfl)) rfl ?_;intro hbel Q hQ hQ' c hc;unfold Tryz.f3 at hc;simp only[Option.some.injEq] at hc;subst hc;clear hQ')
 refine zQF hQ fun Q1 hn1 hQ1 he1=>?_
 have G1:=jn @hbpp (jn @hb0pp (jn @hbac (jn @hb0ac (jn @hbs (jn @hb0s (jn @hbvl @hb0vl))))))
 refine ae G1 ?_
 refine hn1 _ _ (zQF hQ fun Q2 hn2 hQ2 he2=>?_)
 refine ae G1 ?_
 refine cvr G1 (law_c _) ?_
 refine cv (brf_c _ W _ _ xs _ _ _ _ _ _ _ _ al (zA2 hb0pp hbpp) (zA2 hb0ac hbac) (by first|assumption|exact hao.app _) (by omega) (by omega)) ?_
 refine rgs G1 (fun h1 h1d G2=>?_) (fun h1 h1d G8=>?_)
 ·obtain⟨hx64,hal10,hsm⟩:=brf_ok h1d
  refine rgs G2 (fun h2 h2d G3=>?_) (fun h2 h2d G7=>?_)
  ·have hal6:al.length<=6:=by omega
   refine ae G3 ?_
   refine cv (nar_c _ _ l (zA2 hb0s hbs) (by omega)) ?_
   refine rcs G3 (fun h3 h3d G4=>?_) (fun h3 h3d G5=>?_)
   ·refine ae G4 ?_
    refine cvr G4 (law_c _) ?_
    exact eP hQ2 hbel (.bool true) results3 ⟨rfl,rfl⟩
   have hl3:=narB_len h3d
   refine ae G5 ?_
   refine hn2 _ _ (zQF hQ fun Q3 hn3 hQ3 he3=>?_)
   refine ae G5 ?_
   rcases Bool.eq_false_or_eq_true (g5 W Hh xs tu le sl ra ax ay ah) with hr|hr
   ·by_cases hall:∀j:Nat,j<al.length->cX (acG al j).t (acG al j).f (acG al j).mks=true
    ·refine ol (by kernel_rfl) (prun_y _ _ W Hh _ xs tu le sl ra ax ay ah _ al (by exact⟨_,_,_,rfl,hb0pp _⟩) (by exact⟨_,_,_,rfl,hb0ac _⟩) (by exact hao.app _) (fun j hj=>by have:=hsm j hj;omega) (by omega) h0 hr hall rfl) ?_
     rintro _ _ ⟨X,es,hXb,hX,hel,hRu,hsc,rfl,rfl⟩
     refine ae G5 ?_
     refine hn3 _ _ (zQF hQ fun Q4 hn4 hQ4 he4=>?_)
     refine ae G5 ?_
     refine hn4 _ _ ?_
     have hN:(H++[ABlk.cells true 0 [iV W,iV Hh,.sl (some (bpp,0)) xs.length cpp,iV tu,iV le,iV sl,iV ra,iV ax,iV ay,iV ah],ABlk.cells true 0 [.sl (some (bs,0)) l.length cs,.sl (some (bvl,0)) vls.length cvl]]).length=H.length+2:=by simp
     have hXl:X.length=es.length:=by rw[hX,List.length_map]
     have hv:=evl_ok (H:=H++[ABlk.cells true 0 [iV W,iV Hh,.sl (some (bpp,0)) xs.length cpp,iV tu,iV le,iV sl,iV ra,iV ax,iV ay,iV ah],ABlk.cells true 0 [.sl (some (bs,0)) l.length cs,.sl (some (bvl,0)) vls.length cvl]]) (K:=[ABlk.cells (aL es.length) 5 (e5R (evl (H.length+2) es)),ABlk.cells (aL (psl es).length) 3 (r3 (psl es))]) (es:=es) hsc
     rw[<-hX,hN,List.append_assoc] at hv
     rw[List.length_append,hN] at hXb
     refine AW.less0 (wlo_2 H W Hh xs vls l ax ay ah tu le sl ra (evl (H.length+2) es) hbel Q hQ _ H.length (H.length+1) bpp bs bvl (H.length+(X.length+1+1)) (H.length+(X.length+1+1)+1) true true opp os ovl (aL es.length) (aL (psl es).length) cpp cs cvl (aT es.length) (aT (psl es).length) ?_ ⟨_,rfl⟩ ?_ ?_ ?_ ?_ ?_ ?_ ?_ hv (run_evl hRu) (by rw[ef];omega) hr h0 hx64 hl3 hvlm (hb:=rfl)) ?_
     ·refine lE rfl hbel fun x hx=>?_
      have hm:H.length+2+X.length<=(H++([ABlk.cells true 0 [iV W,iV Hh,.sl (some (bpp,0)) xs.length cpp,iV tu,iV le,iV sl,iV ra,iV ax,iV ay,iV ah],ABlk.cells true 0 [.sl (some (bs,0)) l.length cs,.sl (some (bvl,0)) vls.length cvl]]++(X++[ABlk.cells (aL es.length) 5 (e5R (evl (H.length+2) es)),ABlk.cells (aL (psl es).length) 3 (r3 (psl es))]))).length:=by simp only[List.length_append,List.length_cons,List.length_nil];omega
      simp only[List.mem_cons,List.mem_append,List.not_mem_nil,or_false] at hx
      rcases hx with (rfl|rfl)|hx|rfl|rfl
      ·have:bpp<_:=Nat.lt_of_lt_of_le hblpp (Nat.le_trans (by omega) hm)
       simp only[ABlk.bel,AV.bels,AV.bel,Bool.and_true,Bool.true_and,decide_eq_true_eq]
       exact this
      ·have h1:bs<_:=Nat.lt_of_lt_of_le hbls (Nat.le_trans (by omega) hm)
       have h2:bvl<_:=Nat.lt_of_lt_of_le hblvl (Nat.le_trans (by omega) hm)
       simp only[ABlk.bel,AV.bels,AV.bel,Bool.and_true,Bool.true_and,Bool.and_eq_true,decide_eq_true_eq]
       exact⟨h1,h2⟩
      ·exact ABlk.bel_up hm (hXb x hx)
      ·exact rq (by omega)
      exact rv
     ·rw[List.getElem?_append_right (Nat.le_refl _),Nat.sub_self];rfl
     ·rw[List.getElem?_append_right (by omega),Nat.add_sub_cancel_left];rfl
     ·exact hb0pp _
     ·exact hb0s _
     ·exact hb0vl _
     ·rw[List.getElem?_append_right (by omega),Nat.add_sub_cancel_left]
      simp only[List.cons_append,List.nil_append,List.getElem?_cons_succ]
      rw[List.getElem?_append_right (Nat.le_refl _),Nat.sub_self];rfl
     ·rw[Nat.add_assoc,List.getElem?_append_right (by omega),Nat.add_sub_cancel_left]
      simp only[List.cons_append,List.nil_append,List.getElem?_cons_succ]
      rw[List.getElem?_append_right (by omega),Nat.add_sub_cancel_left,psl_evl];rfl
     intro t
     rw[ef,psl_evl]
     by_cases h3':t=3
     ·subst h3';exact .inr rfl
     by_cases h5':t=5
     ·subst h5';exact .inr rfl
     by_cases h6':t=6
     ·subst h6';exact .inr rfl
     by_cases h7':t=7
     ·subst h7';exact .inr rfl
     by_cases h8':t=8
     ·subst h8';exact .inr rfl
     left
     have e3:((3:Nat)==t)=false:=beq_eq_false_iff_ne.2 (Ne.symm h3')
     have e5:((5:Nat)==t)=false:=beq_eq_false_iff_ne.2 (Ne.symm h5')
     have e6:((6:Nat)==t)=false:=beq_eq_false_iff_ne.2 (Ne.symm h6')
     have e7:((7:Nat)==t)=false:=beq_eq_false_iff_ne.2 (Ne.symm h7')
     have e8:((8:Nat)==t)=false:=beq_eq_false_iff_ne.2 (Ne.symm h8')
     simp only[look,e3,e5,e6,e7,e8,cond_false]
    refine cvr G5 (prun_n _ _ W _ _ xs _ _ _ _ _ _ _ _ al (by exact⟨_,_,_,rfl,hb0pp _⟩) (by exact⟨_,_,_,rfl,hb0ac _⟩) (by exact hao.app _) (fun j hj=>by have:=hsm j hj;omega) (by omega) h0 hr hall rfl) ?_
    refine hn3 _ _ (zQF hQ fun Q4 hn4 hQ4 he4=>?_)
    exact eR G5 hQ4 hbel (.bool true) results3 ⟨rfl,rfl⟩
   have hne:(pnwE W Hh xs tu le sl ra ax ay ah != 0)=true:=by simpa using pnwE_nz
   refine cv (prun_z _ W _ _ xs _ _ _ _ _ _ _ _ al (by exact⟨_,_,_,rfl,hb0pp _⟩) (by exact⟨_,_,_,rfl,hb0ac _⟩) (by exact hao.app _) h0 hr) ?_
   have G6:=jn @hne G5
   refine ae G6 ?_
   refine hn3 _ _ (zQF hQ fun Q4 hn4 hQ4 he4=>?_)
   exact eR G6 hQ4 hbel (.bool true) results3 ⟨rfl,rfl⟩
  refine ae G7 ?_
  refine cvr G7 (law_c _) ?_
  exact eP hQ2 hbel (.bool true) results3 ⟨rfl,rfl⟩
 refine ae G8 ?_
 refine cvr G8 (law_c _) ?_
 exact eP hQ2 hbel (.bool true) results3 ⟨rfl,rfl⟩
end Go.Proofs.YtkkhdehdaaealaaGreat
