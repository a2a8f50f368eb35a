/- Proved: the law LocateHolds returns true on every input, and its arguments read afterwards as before. Conditions: none beyond the given row's. -/
import Derived.Test.YtjihmmoaaibmnaaGreatG5
import Derived.Test.YtjihmmoaaibmnaaGreatG2
namespace Go.Proofs.YtjihmmoaaibmnaaGreat
set_option linter.unusedSimpArgs false
set_option linter.unusedVariables false
open Go.RowKit Go.Proofs.Tryz
def evl:Nat->List Ev->List Ev
 |_,[]=>[]
 |n,e::r=>⟨e.k,e.t,e.g,e.st,.sl (some (n,0)) e.sc.length (aW e.sc.length),e.sc,e.x,e.y,e.h⟩::evl (n+1) r
def evb (e:Ev):ABlk:=.cells (aQ e.sc.length) 2 (prs e.sc)
theorem cR {n:Nat}:e5R (evl n [])=[]:=rfl
theorem eM:∀{n:Nat}{es:List Ev},(evl n es).length=es.length
 |_,[]=>rfl
 |n,t::r=>by simp only[evl,List.length_cons,eM]
theorem evl_len {n:Nat}{es:List Ev}:(e5R (evl n es)).length=es.length*5:=by rw[pg,eM]
theorem nK:∀{n:Nat}{es:List Ev},(e5R (evl n es)).all AV.one=true
 |_,[]=>rfl
 | n,t::r=>by
  simp only[evl,gh,List.all_append,nK,Bool.and_true]
  rfl
theorem evl_app:∀{n:Nat}{es us:List Ev},evl n (es++us)=evl n es++evl (n+es.length) us
 |n,[],us=>rfl
 | n,t::r,us=>by
  rw[List.cons_append]
  simp only[evl,evl_app (n:=n+1) (es:=r),List.length_cons,List.cons_append]
  rw[show n+1+r.length=n+(r.length+1) by omega]
theorem e5R_app:∀{a b:List Ev},e5R (a++b)=e5R a++e5R b
 |[],b=>rfl
 |x::a,b=>by rw[List.cons_append,gh,gh,e5R_app,List.append_assoc]
theorem rP {n:Nat}{es:List Ev}{e:Ev}:e5R (evl n (es++[e]))=e5R (evl n es)++[.int .i64 e.k,.int .i64 e.t,.int .i64 e.g,.bool e.st,.sl (some (n+es.length,0)) e.sc.length (aW e.sc.length)]:=by
 rw[evl_app,e5R_app];rfl
theorem rQ {σ:Nat->Nat}:∀{a b:List AV},AV.mvs σ (a++b)=AV.mvs σ a++AV.mvs σ b
 |[],b=>rfl
 |x::a,b=>by simp only[List.cons_append,AV.mvs,rQ]
theorem pk {m k:Nat}{sel:List Nat}:∀{n:Nat}{es:List Ev},n+es.length<=m->AV.mvs (sig m k sel) (e5R (evl n es))=e5R (evl n es)
 |_,[],_=>rfl
 | n,t::r,h=>by
  simp only[List.length_cons] at h
  have ih:=pk (m:=m) (k:=k) (sel:=sel) (n:=n+1) (es:=r) (by omega)
  have hs:=g7 (n:=m) (m:=k) (sel:=sel) (b:=n) (by omega)
  simp only[evl,gh,rQ,ih,e5C,AV.mvs,AV.mv,hs]
theorem rR {m:Nat}:∀{n:Nat}{es:List Ev},n+es.length<=m->AV.bels m (e5R (evl n es))=true
 |_,[],_=>rfl
 | n,t::r,h=>by
  simp only[List.length_cons] at h
  have ih:=rR (m:=m) (n:=n+1) (es:=r) (by omega)
  have hs:n<m:=by omega
  simp only[evl,gh,rL,ih,e5C,AV.bels,AV.bel,hs,decide_true,Bool.and_true]
theorem evb_get {H K:aa}{es:List Ev}{i:Nat}(h:i<es.length):(H++(es.map evb++K))[H.length+i]? = some (evb es[i]):=by
 rw[List.getElem?_append_right (by omega),Nat.add_sub_cancel_left,List.getElem?_append_left (by simpa using h),List.getElem?_map,List.getElem?_eq_getElem h]
 rfl
theorem mO:∀{n:Nat}{es:List Ev}{i:Nat}(h:i<es.length),(evl n es)[i]? = some ⟨es[i].k,es[i].t,es[i].g,es[i].st,.sl (some (n+i,0)) es[i].sc.length (aW es[i].sc.length),es[i].sc,es[i].x,es[i].y,es[i].h⟩
 |n,t::r,0,_=>rfl
 | n,t::r,i+1,h=>by
  have:=mO (n:=n+1) (es:=r) (i:=i) (by simpa using h)
  rw[show n+1+i=n+(i+1) by omega] at this
  exact this
theorem evG_eq {es:List Ev}{i:Nat}(h:i<es.length):evG es i=es[i]:=by unfold evG;rw[List.getD_eq_getElem?_getD,List.getElem?_eq_getElem h];rfl
theorem evl_G {n:Nat}{es:List Ev}{i:Nat}(h:i<es.length):evG (evl n es) i=⟨(evG es i).k,(evG es i).t,(evG es i).g,(evG es i).st,.sl (some (n+i,0)) (evG es i).sc.length (aW (evG es i).sc.length),(evG es i).sc,(evG es i).x,(evG es i).y,(evG es i).h⟩:=by
 rw[evG_eq h]
 unfold evG
 rw[List.getD_eq_getElem?_getD,mO h];rfl
theorem evl_ok {H K:aa}{es:List Ev}(h:∀e∈es,e.sc.length<=1000000):evOk (H++(es.map evb++K)) (evl H.length es):=fun e he=>by
 obtain⟨i,hi,rfl⟩:=List.mem_iff_getElem.1 he
 rw[eM] at hi
 have k:=mO (n:=H.length) hi
 rw[List.getElem?_eq_getElem (by rw[eM];exact hi),Option.some.injEq] at k
 rw[k]
 refine⟨⟨H.length+i,_,_,rfl,evb_get hi⟩,?_⟩
 have:=h _ (List.getElem_mem hi)
 show es[i].sc.length<=_
 unfold maxLen;omega
def psl (es:List Ev):List T3:=es.map fun e=>(e.x,e.y,e.h)
theorem psl_nil:psl []=[]:=rfl
theorem lb {es:List Ev}:(psl es).length=es.length:=List.length_map _
theorem rS {es:List Ev}{e:Ev}:psl (es++[e])=psl es++[(e.x,e.y,e.h)]:=by unfold psl;rw[List.map_append];rfl
def pzX (ax:Int) (es:List Ev):Nat->Int
 |0=>ax
 |i+1=>(evG es i).x
def pzY (ay:Int) (es:List Ev):Nat->Int
 |0=>ay
 |i+1=>(evG es i).y
def pzH (ah:Int) (es:List Ev):Nat->Int
 |0=>ah
 |i+1=>(evG es i).h
def RunP (W Hh:Int) (xs:List Int) (tu le sl ra ax ay ah:Int) (es:List Ev):Prop:=∀i:Nat,i<es.length->TickP W Hh xs tu le sl ra (pzX ax es i) (pzY ay es i) (pzH ah es i) (evG es i)
theorem evG_app {es:List Ev}{e:Ev}{i:Nat}(h:i<es.length):evG (es++[e]) i=evG es i:=by
 unfold evG;rw[List.getD_eq_getElem?_getD,List.getD_eq_getElem?_getD,List.getElem?_append_left h]
theorem rT {es:List Ev}{e:Ev}:evG (es++[e]) es.length=e:=by
 unfold evG;rw[List.getD_eq_getElem?_getD,List.getElem?_append_right (Nat.le_refl _),Nat.sub_self];rfl
theorem pz_app {ax ay ah:Int}{es:List Ev}{e:Ev}:∀{i:Nat},i<=es.length->pzX ax (es++[e]) i=pzX ax es i/\pzY ay (es++[e]) i=pzY ay es i/\pzH ah (es++[e]) i=pzH ah es i
 |0,_=>⟨rfl,rfl,rfl⟩
 | i+1,h=>by
  have:=evG_app (es:=es) (e:=e) (i:=i) (by omega)
  exact⟨congrArg Ev.x this,congrArg Ev.y this,congrArg Ev.h this⟩
theorem pz_last {ax ay ah:Int}{es:List Ev}{e:Ev}:pzX ax (es++[e]) (es++[e]).length=e.x/\pzY ay (es++[e]) (es++[e]).length=e.y/\pzH ah (es++[e]) (es++[e]).length=e.h:=by
 rw[List.length_append]
 have:=rT (es:=es) (e:=e)
 exact⟨congrArg Ev.x this,congrArg Ev.y this,congrArg Ev.h this⟩
theorem run_snoc {W Hh:Int}{xs:List Int}{tu le sl ra ax ay ah x y h:Int}{es:List Ev}{e:Ev}(hR:RunP W Hh xs tu le sl ra ax ay ah es)(hx:pzX ax es es.length=x/\pzY ay es es.length=y/\pzH ah es es.length=h)(k:TickP W Hh xs tu le sl ra x y h e):RunP W Hh xs tu le sl ra ax ay ah (es++[e]):=fun i hi=>by
 rw[List.length_append] at hi
 rcases Nat.lt_or_ge i es.length with q|q
 ·obtain⟨p1,p2,p3⟩:=pz_app (ax:=ax) (ay:=ay) (ah:=ah) (es:=es) (e:=e) (i:=i) (by omega)
  rw[p1,p2,p3,evG_app q];exact hR i q
 obtain rfl:i=es.length:=by have:[e].length=1:=rfl;omega
 obtain⟨p1,p2,p3⟩:=pz_app (ax:=ax) (ay:=ay) (ah:=ah) (es:=es) (e:=e) (i:=es.length) (by omega)
 rw[p1,p2,p3,rT,hx.1,hx.2.1,hx.2.2];exact k
theorem run_nil {W Hh:Int}{xs:List Int}{tu le sl ra ax ay ah:Int}:RunP W Hh xs tu le sl ra ax ay ah []:=fun i hi=>absurd hi (Nat.not_lt_zero i)
theorem bel_evb {m:Nat}{e:Ev}:ABlk.bel m (evb e)=true:=eU
theorem gz (H:aa)(W Hh:Int)(pp:AV)(xs:List Int)(tu le sl ra x y h k1 k2 t f eT eL eX eY:Int)(mk:AV)(mks:List Int)(er:AV)(ers:List Int)(e:Ev)(he:doE W Hh xs tu le sl ra x y h (k1+1) t f eT eL eX eY mks ers=e)(hpp:zI H pp xs)(hmk:Sl H 1 mk mks.length (ints .i64 mks))(her:Sl H 1 er ers.length (ints .i64 ers))(hml:mks.length<=9223372036854775807)(hle:ers.length<=1000000000)(hA:dr t f mks=true)(hBl:dI W Hh xs=true)(hB:bM tu le sl ra=true)(hG:dN W Hh xs x y h=true)(hk1:0<=k1/\k1<=1000000)(hk2:0<=k2/\k2<=1000000):
  zC 33 [.agg [.int .i64 W,.int .i64 Hh,pp,.int .i64 tu,.int .i64 le,.int .i64 sl,.int .i64 ra,.int .i64 x,.int .i64 y,.int .i64 h,.int .i64 k1,.int .i64 k2],.agg [.int .i64 t,.int .i64 f,.int .i64 eT,.int .i64 eL,.int .i64 eX,.int .i64 eY,mk,er]] H (.tup [.agg [.int .i64 W,.int .i64 Hh,pp,.int .i64 tu,.int .i64 le,.int .i64 sl,.int .i64 ra,.int .i64 e.x,.int .i64 e.y,.int .i64 e.h,.int .i64 e.k,.int .i64 (kbI k2 e.st)],.agg [.int .i64 e.k,.int .i64 e.t,.int .i64 e.g,.bool e.st,.sl (some (H.length,0)) e.sc.length (aW e.sc.length)],.int .i64 0]) (H++[.cells (aQ e.sc.length) 2 (prs e.sc)]):=by
 subst he
 exact rdoy_c H W Hh pp xs tu le sl ra x y h k1 k2 t f eT eL eX eY mk mks er ers hpp hmk her hml hle hA hBl hB hG hk1 hk2
set_option maxHeartbeats 4000000
set_option maxRecDepth 100000
theorem rrun_y (H:aa)(n0:Nat)(W Hh:Int)(pp:AV)(xs:List Int)(tu le sl ra ax ay ah:Int)(ac:AV)(al:List Ac)(hpp:zI H pp xs)(hac:Sl H 8 ac al.length (acR al))(hao:acOk H al)(hsm:∀j:Nat,j<al.length->(acG al j).mks.length<=1000000/\(acG al j).ers.length<=1000000)(hll:al.length<=100000)(hnw:iH W Hh xs tu le sl ra ax ay ah=true)(hall:∀j:Nat,j<al.length->dr (acG al j).t (acG al j).f (acG al j).mks=true)(hn0:n0=H.length):ACalls prog 8 [.agg [iV W,iV Hh,pp],.agg [iV tu,iV le,iV sl,iV ra],.agg [iV ax,iV ay,iV ah],ac] H (fun v H'=>∃X:aa,∃es:List Ev,(∀x∈X,ABlk.bel (H++X).length x=true)/\(X=es.map evb)/\(es.length=al.length)/\(RunP W Hh xs tu le sl ra ax ay ah es)/\((∀e∈es,e.sc.length<=1000000))/\v=.tup [.sl (some ((H++X).length,0)) es.length (aW es.length),.sl (some ((H++X).length+1,0)) ((psl es).length) (aW (psl es).length),iV 0]/\H'=H++X++[.cells (aQ es.length) 5 (e5R (evl n0 es)),.cells (aQ (psl es).length) 3 (r3 (psl es))]):=by
 obtain⟨bpp,opp,cpp,rfl,hbpp,hblpp,hb0pp⟩:=zA1 hpp
 obtain⟨bac,oac,cac,rfl,hbac,hblac,hb0ac⟩:=zA1 hac
 obtain⟨hBl,hB,hG0,hP,hF⟩:=pj hnw
 have hV:=mN hBl
 have hVV:=bo.1 hV
 have hx6:xs.length<=1000000:=by have h4:=hVV.len;have:=Int.mul_le_mul hVV.w1 hVV.h1 (by have:=hVV.h0;omega) (by decide);omega
 have hx0:0<xs.length:=by have:=(hVV.idx (show inB W Hh 0 0=true from dD.2 (by have:=hVV.w0;have:=hVV.h0;omega))).2.2.2.2.1;omega
 (refine bh func8 _ rfl (Nat.le_of_ble_eq_true (by kernel_rfl)) rfl ?_;intro hbel Q hQ hQ' c hc;unfold Tryz.f8 at hc;simp only[Option.some.injEq] at hc;subst hc;clear hQ')
 have h0bel:=hbel
 refine zQF hQ fun Q1 hn1 hQ1 he1=>?_
 have G1:=jn @hbpp (jn @hb0pp (jn @hbac @hb0ac))
 refine ae G1 ?_
 refine hn1 _ _ (zQF hQ fun Q2 hn2 hQ2 he2=>?_)
 refine ae G1 ?_
 rcases Bool.eq_false_or_eq_true (iH W Hh xs tu le sl ra ax ay ah) with h1|h1
 ·have h1d:=h1
  refine cv (rnwy_c _ W _ _ xs _ _ _ _ _ _ _ (zA2 hb0pp hbpp) (by assumption) (by assumption) (by assumption) (by assumption) (by assumption) (by assumption) (by assumption)) ?_
  have G2:=j2 h1 h1d G1
  refine ae G2 ?_
  refine hn2 _ _ (zQF hQ fun Q3 hn3 hQ3 he3=>?_)
  refine ae G2 ?_
  refine hn3 _ _ (zQF hQ fun Q4 hn4 hQ4 he4=>?_)
  refine ae G2 ?_
  refine hn4 _ _ (zQF hQ fun Q5 hn5 hQ5 he5=>?_)
  refine ae G2 ?_
  refine hn5 _ _ (sqR hQ fun Q6 hn6 hQ6 he6=>?_)
  refine zQF hQ6 fun Q7 hn7 hQ7 he7=>?_
  refine ae G2 ?_
  refine hn7 _ _ ?_
  refine bkR hQ6 fun Q8 hn8 hQ8 he8 hb8=>?_
  have hmvs:∀m k sel,AV.mvs (sig m k sel) (e5R (evl n0 []))=e5R (evl n0 []):=fun _ _ _=>rfl
  refine gG (fun k F Hx=>∃i:Nat,∃es:List Ev,∃x:Int,∃y:Int,∃h:Int,∃kt:Int,∃kb:Int,∃Hg0:aa,∃XX0:aa,i+k=al.length/\Hg0=H++XX0/\(∀x∈XX0,ABlk.bel Hg0.length x=true)/\n0+es.length=Hg0.length/\XX0=es.map evb/\es.length=i/\dN W Hh xs x y h=true/\RunP W Hh xs tu le sl ra ax ay ah es/\(pzX ax es es.length=x/\pzY ay es es.length=y/\pzH ah es es.length=h)/\(∀e∈es,e.sc.length<=1000000)/\(0<=kt/\kt<=(i:Int))/\(0<=kb/\kb<=(i:Int))/\F=[(3,.sl (some (bac,0)) al.length cac),(11,.ptr (some (Hg0.length+1,0))),(13,.sl (some (Hg0.length+2,0)) es.length (aW es.length)),(14,.sl (some (Hg0.length+3,0)) ((psl es).length) (aW (psl es).length)),(15,iV (i:Int))]/\Hx=Hg0++[.cells true 1 (ints .u8 xs),.cells true 0 [iV W,iV Hh,.sl (some (Hg0.length,0)) xs.length none,iV tu,iV le,iV sl,iV ra,iV x,iV y,iV h,iV kt,iV kb],.cells (aQ es.length) 5 (e5R (evl n0 es)),.cells (aQ (psl es).length) 3 (r3 (psl es))]) (al.length) ?_ ?_
  ·refine⟨_,_,_,⟨0,[],ax,ay,ah,0,0,H,[],by omega,(List.append_nil _).symm,(fun x h=>by cases h),hn0,rfl,rfl,hG0,run_nil,⟨rfl,rfl,rfl⟩,(fun e he=>by cases he),⟨Int.le_refl _,Int.le_refl _⟩,⟨Int.le_refl _,Int.le_refl _⟩,rfl,rfl⟩,Abs.byG hbel [.cells false 5 [],.cells false 3 []] rfl [3,4,5,6] (by decide) ?_⟩
   exact aC (jn @cR (jn @psl_nil (jn @db (jn @hmvs (jn @ce (jn @cm @cY))))))
  rintro k0 F Hx ⟨i,es,x,y,h,kt,kb,Hg0,XX0,hm0,hgX0,hXb_g0,hgl,hXX,hesl,hG,hR,hpz,hsc,hkt,hkb,rfl,rfl⟩ Q9 hJ0 hr9 he9
  have hQ9:=fun F H' h=>hr9 F H' (hQ8 F H' h)
  have hbel_g0:=lZ hgX0 hbel hXb_g0
  have hbpp_g0:=grow1 hgX0 hb0pp
  have hblpp_g0:=getElem?_lt hbpp_g0
  have hb0pp_g0:=fun l=>am (l:=l) hbpp_g0
  have hbac_g0:=grow1 hgX0 hb0ac
  have hblac_g0:=getElem?_lt hbac_g0
  have hb0ac_g0:=fun l=>am (l:=l) hbac_g0
  have hpre_g0:∃X,Hg0=H++X:=⟨_,hgX0⟩
  have hle_g0:=pre_le hpre_g0
  have hmvs:=fun k sel=>pk (m:=Hg0.length) (k:=k) (sel:=sel) (n:=n0) (es:=es) (by omega)
  have hpl:=lb (es:=es)
  refine zQF hQ9 fun Q10 hn10 hQ10 he10=>?_
  have G3:=jn @hbpp_g0 (jn @hb0pp_g0 (jn @hbac_g0 (jn @hb0ac_g0 (jn h1 (jn h1d (jn @co (jn @cV (jn @evl_len (jn @nK (jn @oG @r3_one))))))))))
  refine rcs G3 (fun h2 h2d _=>?_) (fun h2 h2d G12=>?_)
  ·have hlt:i<al.length:=by omega
   have haog:acOk Hg0 al:=by rw[hgX0];exact hao.app _
   obtain⟨⟨bq,oq,cq,hsq,hbq⟩,bp,op,cp,hsp,hbp⟩:=haog.at hlt
   have hblq:=getElem?_lt hbq
   have hb0q:=fun l'=>am (l:=l') hbq
   have hblp:=getElem?_lt hbp
   have hb0p:=fun l'=>am (l:=l') hbp
   have hsmi:=hsm i hlt
   obtain⟨e,he⟩:∃e,doE W Hh xs tu le sl ra x y h (kt+1) (acG al i).t (acG al i).f (acG al i).eT (acG al i).eL (acG al i).eX (acG al i).eY (acG al i).mks (acG al i).ers=e:=⟨_,rfl⟩
   have hek:e.k=kt+1:=by rw[<-he];rfl
   rcases Bool.eq_false_or_eq_true (dr (acG al i).t (acG al i).f (acG al i).mks) with h3|h3
   ·have h3d:=h3
    have hAi:=h3d
    have htk:TickP W Hh xs tu le sl ra x y h e/\e.sc.length<=(acG al i).mks.length:=by rw[<-he];exact pi hG hB hAi
    have hsc2:∀x∈es++[e],x.sc.length<=1000000:=fun z hz=>by
     rcases List.mem_append.1 hz with hz|hz
     ·exact hsc z hz
     rw[List.mem_singleton.1 hz];omega
    have G4:=jn h2 (jn h2d (j2 h3 h3d G3))
    refine ae G4 ?_
    refine hn10 _ _ (sqR hQ9 fun Q11 hn11 hQ11 he11=>?_)
    refine bkR hQ11 fun Q12 hn12 hQ12 he12 hb12=>?_
    refine bt false try_mixed [[0,1,2,3,4,5,6,7,8,9,10,11,12,13,14],[0,1,2,3,4,5,6,7,8,9,11,10,12,13,14],[0,1,2,3,4,11,5,6,7,8,9,10,12,13,14],[0,1,2,3,4,10,5,6,7,8,9,11,12,13,14],[0,1,2,3,4,10,11,5,6,7,8,9,12,13,14],[0,1,2,3,4,11,10,5,6,7,8,9,12,13,14]] (by kernel_rfl) (fun F2 H2=>F2=[(3,.sl (some (bac,0)) al.length cac),(11,.ptr (some (Hg0.length+1,0))),(13,.sl (some (Hg0.length+2,0)) es.length (aW es.length)),(14,.sl (some (Hg0.length+3,0)) ((psl es).length) (aW (psl es).length)),(15,iV (i:Int)),(16,.ptr (some (Hg0.length+5,0))),(17,.ptr (some (Hg0.length+6,0))),(18,iV 0)]/\H2=Hg0++[.cells true 1 (ints .u8 xs),.cells true 0 [iV W,iV Hh,.sl (some (Hg0.length,0)) xs.length none,iV tu,iV le,iV sl,iV ra,iV x,iV y,iV h,iV kt,iV kb],.cells (aQ es.length) 5 (e5R (evl n0 es)),.cells (aQ (psl es).length) 3 (r3 (psl es)),.cells (aQ e.sc.length) 2 (prs e.sc),.cells true 0 [iV W,iV Hh,.sl (some (Hg0.length,0)) xs.length none,iV tu,iV le,iV sl,iV ra,iV e.x,iV e.y,iV e.h,iV e.k,iV (kbI kb e.st)],.cells true 0 [iV e.k,iV e.t,iV e.g,.bool e.st,.sl (some (Hg0.length+4,0)) e.sc.length (aW e.sc.length)]]) ?_ ?_
    ·refine aj ?_ (aj ?_ (aj ?_ (aj ?_ (aj ?_ (aj ?_ (bu))))))<;>intro J hJ
     ·have q4:=ex (l:=al) (j:=i) (by omega) hsq hsp
      have G5:=jn @c6 (jn q4 G4)
      refine ag G5 ?_
      refine cx (gz _ W Hh _ xs tu le sl ra x y h kt kb ((acG al i).t) ((acG al i).f) ((acG al i).eT) ((acG al i).eL) ((acG al i).eX) ((acG al i).eY) _ (acG al i).mks _ (acG al i).ers e he slA (zA2 hb0q hbq) (zA2 hb0p hbp) (by omega) (by omega) (by assumption) (by assumption) (by assumption) (by assumption) (by omega) (by omega)) ?_
      refine ag G5 ?_
      refine aq (hJ _ _ ⟨_,_,_,⟨rfl,rfl⟩,(Abs.byG hbel_g0 [] rfl [0,1,2,3,4,5,6] (by decide) ?_).le hle_g0⟩)
      exact aC (jn @cR (jn @hmvs (jn @ce (jn @cm (jn @db @cY)))))
     ·have q5:=ex (l:=al) (j:=i) (by omega) hsq hsp
      have G6:=jn @c6 (jn q5 G4)
      refine ag G6 ?_
      refine cx (gz _ W Hh _ xs tu le sl ra x y h kt kb ((acG al i).t) ((acG al i).f) ((acG al i).eT) ((acG al i).eL) ((acG al i).eX) ((acG al i).eY) _ (acG al i).mks _ (acG al i).ers e he slA (zA2 hb0q hbq) (zA2 hb0p hbp) (by omega) (by omega) (by assumption) (by assumption) (by assumption) (by assumption) (by omega) (by omega)) ?_
      refine ag G6 ?_
      refine aq (hJ _ _ ⟨_,_,_,⟨rfl,rfl⟩,(Abs.byG hbel_g0 [] rfl [0,1,2,3,4,6,5] (by decide) ?_).le hle_g0⟩)
      exact aC (jn @cR (jn @hmvs (jn @ce (jn @cm (jn @db @cY)))))
     ·have q6:=ex (l:=al) (j:=i) (by omega) hsq hsp
      have G7:=jn @c6 (jn q6 G4)
      refine ag G7 ?_
      refine cx (gz _ W Hh _ xs tu le sl ra x y h kt kb ((acG al i).t) ((acG al i).f) ((acG al i).eT) ((acG al i).eL) ((acG al i).eX) ((acG al i).eY) _ (acG al i).mks _ (acG al i).ers e he slA (zA2 hb0q hbq) (zA2 hb0p hbp) (by omega) (by omega) (by assumption) (by assumption) (by assumption) (by assumption) (by omega) (by omega)) ?_
      refine ag G7 ?_
      refine aq (hJ _ _ ⟨_,_,_,⟨rfl,rfl⟩,(Abs.byG hbel_g0 [] rfl [0,1,2,3,5,6,4] (by decide) ?_).le hle_g0⟩)
      exact aC (jn @cR (jn @hmvs (jn @ce (jn @cm (jn @db @cY)))))
     ·have q7:=ex (l:=al) (j:=i) (by omega) hsq hsp
      have G8:=jn @c6 (jn q7 G4)
      refine ag G8 ?_
      refine cx (gz _ W Hh _ xs tu le sl ra x y h kt kb ((acG al i).t) ((acG al i).f) ((acG al i).eT) ((acG al i).eL) ((acG al i).eX) ((acG al i).eY) _ (acG al i).mks _ (acG al i).ers e he slA (zA2 hb0q hbq) (zA2 hb0p hbp) (by omega) (by omega) (by assumption) (by assumption) (by assumption) (by assumption) (by omega) (by omega)) ?_
      refine ag G8 ?_
      refine aq (hJ _ _ ⟨_,_,_,⟨rfl,rfl⟩,(Abs.byG hbel_g0 [] rfl [0,1,2,3,5,4,6] (by decide) ?_).le hle_g0⟩)
      exact aC (jn @cR (jn @hmvs (jn @ce (jn @cm (jn @db @cY)))))
     ·have q8:=ex (l:=al) (j:=i) (by omega) hsq hsp
      have G9:=jn @c6 (jn q8 G4)
      refine ag G9 ?_
      refine cx (gz _ W Hh _ xs tu le sl ra x y h kt kb ((acG al i).t) ((acG al i).f) ((acG al i).eT) ((acG al i).eL) ((acG al i).eX) ((acG al i).eY) _ (acG al i).mks _ (acG al i).ers e he slA (zA2 hb0q hbq) (zA2 hb0p hbp) (by omega) (by omega) (by assumption) (by assumption) (by assumption) (by assumption) (by omega) (by omega)) ?_
      refine ag G9 ?_
      refine aq (hJ _ _ ⟨_,_,_,⟨rfl,rfl⟩,(Abs.byG hbel_g0 [] rfl [0,1,2,3,6,4,5] (by decide) ?_).le hle_g0⟩)
      exact aC (jn @cR (jn @hmvs (jn @ce (jn @cm (jn @db @cY)))))
     have q9:=ex (l:=al) (j:=i) (by omega) hsq hsp
     have G10:=jn @c6 (jn q9 G4)
     refine ag G10 ?_
     refine cx (gz _ W Hh _ xs tu le sl ra x y h kt kb ((acG al i).t) ((acG al i).f) ((acG al i).eT) ((acG al i).eL) ((acG al i).eX) ((acG al i).eY) _ (acG al i).mks _ (acG al i).ers e he slA (zA2 hb0q hbq) (zA2 hb0p hbp) (by omega) (by omega) (by assumption) (by assumption) (by assumption) (by assumption) (by omega) (by omega)) ?_
     refine ag G10 ?_
     refine aq (hJ _ _ ⟨_,_,_,⟨rfl,rfl⟩,(Abs.byG hbel_g0 [] rfl [0,1,2,3,6,5,4] (by decide) ?_).le hle_g0⟩)
     exact aC (jn @cR (jn @hmvs (jn @ce (jn @cm (jn @db @cY)))))
    rintro F2 H2 ⟨rfl,rfl⟩
    refine fnF ?_
    have G11:=jn @bF (jn @cJ (jn @d4 G4))
    refine ae G11 ?_
    refine hn12 _ _ ?_
    refine hn11 _ _ ?_
    refine fnF ?_
    refine ae G11 ?_
    refine hJ0 _ _ ⟨k0-1,by omega,_,_,_,⟨i+1,(es++[e]),e.x,e.y,e.h,e.k,(kbI kb e.st),(Hg0++[.cells (aQ e.sc.length) 2 (prs e.sc)]),(XX0++[.cells (aQ e.sc.length) 2 (prs e.sc)]),by omega,(by rw[hgX0,List.append_assoc]),rM hXb_g0 (by first|exact bel_evb|exact eU),(by rw[List.length_append,List.length_singleton,List.length_append,List.length_singleton];omega),(by rw[List.map_append,<-hXX];rfl),(by rw[List.length_append,hesl];rfl),htk.1.goo,(run_snoc hR hpz htk.1),pz_last,hsc2,(by omega),(by unfold kbI;split<;>omega),rfl,rfl⟩,Abs.byX hle_g0 hbel_g0 [] rfl [4,0,1,8,10] (by decide) ?_⟩
    exact aC (jn @hmvs (jn @rP (jn @rS (jn @hgl (jn @ce (jn @cm (jn @db (jn @rN (jn @Nat.add_assoc (jn @cR @cY))))))))))
   have h3d:=h3
   exact absurd (hall i hlt) (by rw[h3d];decide)
  obtain rfl:i=al.length:=by omega
  refine ae G12 ?_
  refine he10 _ _ _ ?_
  refine he9 _ _ _ ?_
  refine hb8 _ _ ?_
  refine hn6 _ _ ?_
  refine fnF ?_
  refine ae G12 ?_
  refine hQ _ _ ((ba (.inl rfl) hbel_g0 (x1:=.tup [.sl (some (Hg0.length+2,0)) es.length (aW es.length),.sl (some (Hg0.length+3,0)) ((psl es).length) (aW (psl es).length),iV 0]) (l2:=[.cells (aQ es.length) 5 (e5R (evl n0 es)),.cells (aQ (psl es).length) 3 (r3 (psl es))]) (.tup [.sl (some (Hg0.length,0)) es.length (aW es.length),.sl (some (Hg0.length+1,0)) ((psl es).length) (aW (psl es).length),iV 0]) (aY results8) [] rfl [2,3] (by decide) ⟨XX0,es,(by rw[<-hgX0];exact hXb_g0),hXX,hesl,hR,hsc,(by rw[<-hgX0]),(by rw[<-hgX0])⟩ ?_).le hle_g0)
  exact aS (jn @hmvs @cY)
 have h1d:=h1
 exact absurd hnw (by rw[h1d];decide)
theorem rrun_n (H:aa)(n0:Nat)(W Hh:Int)(pp:AV)(xs:List Int)(tu le sl ra ax ay ah:Int)(ac:AV)(al:List Ac)(hpp:zI H pp xs)(hac:Sl H 8 ac al.length (acR al))(hao:acOk H al)(hsm:∀j:Nat,j<al.length->(acG al j).mks.length<=1000000/\(acG al j).ers.length<=1000000)(hll:al.length<=100000)(hnw:iH W Hh xs tu le sl ra ax ay ah=true)(hnot:¬∀j:Nat,j<al.length->dr (acG al j).t (acG al j).f (acG al j).mks=true)(hn0:n0=H.length):zC 8 [.agg [iV W,iV Hh,pp],.agg [iV tu,iV le,iV sl,iV ra],.agg [iV ax,iV ay,iV ah],ac] H (.tup [.sl none 0 (some 0),.sl none 0 (some 0),iV 1]) H:=by
 obtain⟨bpp,opp,cpp,rfl,hbpp,hblpp,hb0pp⟩:=zA1 hpp
 obtain⟨bac,oac,cac,rfl,hbac,hblac,hb0ac⟩:=zA1 hac
 obtain⟨hBl,hB,hG0,hP,hF⟩:=pj hnw
 have hV:=mN hBl
 have hVV:=bo.1 hV
 have hx6:xs.length<=1000000:=by have h4:=hVV.len;have:=Int.mul_le_mul hVV.w1 hVV.h1 (by have:=hVV.h0;omega) (by decide);omega
 have hx0:0<xs.length:=by have:=(hVV.idx (show inB W Hh 0 0=true from dD.2 (by have:=hVV.w0;have:=hVV.h0;omega))).2.2.2.2.1;omega
 (refine bh func8 _ rfl (Nat.le_of_ble_eq_true (by kernel_rfl)) rfl ?_;intro hbel Q hQ hQ' c hc;unfold Tryz.f8 at hc;simp only[Option.some.injEq] at hc;subst hc;clear hQ')
 have h0bel:=hbel
 refine zQF hQ fun Q13 hn13 hQ13 he13=>?_
 have G13:=jn @hbpp (jn @hb0pp (jn @hbac @hb0ac))
 refine ae G13 ?_
 refine hn13 _ _ (zQF hQ fun Q14 hn14 hQ14 he14=>?_)
 refine ae G13 ?_
 rcases Bool.eq_false_or_eq_true (iH W Hh xs tu le sl ra ax ay ah) with h1|h1
 ·have h1d:=h1
  refine cv (rnwy_c _ W _ _ xs _ _ _ _ _ _ _ (zA2 hb0pp hbpp) (by assumption) (by assumption) (by assumption) (by assumption) (by assumption) (by assumption) (by assumption)) ?_
  have G14:=j2 h1 h1d G13
  refine ae G14 ?_
  refine hn14 _ _ (zQF hQ fun Q15 hn15 hQ15 he15=>?_)
  refine ae G14 ?_
  refine hn15 _ _ (zQF hQ fun Q16 hn16 hQ16 he16=>?_)
  refine ae G14 ?_
  refine hn16 _ _ (zQF hQ fun Q17 hn17 hQ17 he17=>?_)
  refine ae G14 ?_
  refine hn17 _ _ (sqR hQ fun Q18 hn18 hQ18 he18=>?_)
  refine zQF hQ18 fun Q19 hn19 hQ19 he19=>?_
  refine ae G14 ?_
  refine hn19 _ _ ?_
  refine bkR hQ18 fun Q20 hn20 hQ20 he20 hb20=>?_
  have hmvs:∀m k sel,AV.mvs (sig m k sel) (e5R (evl n0 []))=e5R (evl n0 []):=fun _ _ _=>rfl
  refine gG (fun k F Hx=>∃i:Nat,∃es:List Ev,∃x:Int,∃y:Int,∃h:Int,∃kt:Int,∃kb:Int,∃Hg0:aa,∃XX0:aa,i+k=al.length/\Hg0=H++XX0/\(∀x∈XX0,ABlk.bel Hg0.length x=true)/\n0+es.length=Hg0.length/\XX0=es.map evb/\es.length=i/\dN W Hh xs x y h=true/\RunP W Hh xs tu le sl ra ax ay ah es/\(pzX ax es es.length=x/\pzY ay es es.length=y/\pzH ah es es.length=h)/\(∀e∈es,e.sc.length<=1000000)/\(0<=kt/\kt<=(i:Int))/\(0<=kb/\kb<=(i:Int))/\(∀j:Nat,j<i->dr (acG al j).t (acG al j).f (acG al j).mks=true)/\F=[(3,.sl (some (bac,0)) al.length cac),(11,.ptr (some (Hg0.length+1,0))),(13,.sl (some (Hg0.length+2,0)) es.length (aW es.length)),(14,.sl (some (Hg0.length+3,0)) ((psl es).length) (aW (psl es).length)),(15,iV (i:Int))]/\Hx=Hg0++[.cells true 1 (ints .u8 xs),.cells true 0 [iV W,iV Hh,.sl (some (Hg0.length,0)) xs.length none,iV tu,iV le,iV sl,iV ra,iV x,iV y,iV h,iV kt,iV kb],.cells (aQ es.length) 5 (e5R (evl n0 es)),.cells (aQ (psl es).length) 3 (r3 (psl es))]) (al.length) ?_ ?_
  ·refine⟨_,_,_,⟨0,[],ax,ay,ah,0,0,H,[],by omega,(List.append_nil _).symm,(fun x h=>by cases h),hn0,rfl,rfl,hG0,run_nil,⟨rfl,rfl,rfl⟩,(fun e he=>by cases he),⟨Int.le_refl _,Int.le_refl _⟩,⟨Int.le_refl _,Int.le_refl _⟩,(fun j h=>by omega),rfl,rfl⟩,Abs.byG hbel [.cells false 5 [],.cells false 3 []] rfl [3,4,5,6] (by decide) ?_⟩
   exact aC (jn @cR (jn @psl_nil (jn @db (jn @hmvs (jn @ce (jn @cm @cY))))))
  rintro k0 F Hx ⟨i,es,x,y,h,kt,kb,Hg0,XX0,hm0,hgX0,hXb_g0,hgl,hXX,hesl,hG,hR,hpz,hsc,hkt,hkb,hal,rfl,rfl⟩ Q21 hJ0 hr21 he21
  have hQ21:=fun F H' h=>hr21 F H' (hQ20 F H' h)
  have hbel_g0:=lZ hgX0 hbel hXb_g0
  have hbpp_g0:=grow1 hgX0 hb0pp
  have hblpp_g0:=getElem?_lt hbpp_g0
  have hb0pp_g0:=fun l=>am (l:=l) hbpp_g0
  have hbac_g0:=grow1 hgX0 hb0ac
  have hblac_g0:=getElem?_lt hbac_g0
  have hb0ac_g0:=fun l=>am (l:=l) hbac_g0
  have hpre_g0:∃X,Hg0=H++X:=⟨_,hgX0⟩
  have hle_g0:=pre_le hpre_g0
  have hmvs:=fun k sel=>pk (m:=Hg0.length) (k:=k) (sel:=sel) (n:=n0) (es:=es) (by omega)
  have hpl:=lb (es:=es)
  refine zQF hQ21 fun Q22 hn22 hQ22 he22=>?_
  have G15:=jn @hbpp_g0 (jn @hb0pp_g0 (jn @hbac_g0 (jn @hb0ac_g0 (jn h1 (jn h1d (jn @co (jn @cV (jn @evl_len (jn @nK (jn @oG @r3_one))))))))))
  refine rcs G15 (fun h2 h2d _=>?_) (fun h2 h2d _=>?_)
  ·have hlt:i<al.length:=by omega
   have haog:acOk Hg0 al:=by rw[hgX0];exact hao.app _
   obtain⟨⟨bq,oq,cq,hsq,hbq⟩,bp,op,cp,hsp,hbp⟩:=haog.at hlt
   have hblq:=getElem?_lt hbq
   have hb0q:=fun l'=>am (l:=l') hbq
   have hblp:=getElem?_lt hbp
   have hb0p:=fun l'=>am (l:=l') hbp
   have hsmi:=hsm i hlt
   obtain⟨e,he⟩:∃e,doE W Hh xs tu le sl ra x y h (kt+1) (acG al i).t (acG al i).f (acG al i).eT (acG al i).eL (acG al i).eX (acG al i).eY (acG al i).mks (acG al i).ers=e:=⟨_,rfl⟩
   have hek:e.k=kt+1:=by rw[<-he];rfl
   rcases Bool.eq_false_or_eq_true (dr (acG al i).t (acG al i).f (acG al i).mks) with h3|h3
   ·have h3d:=h3
    have hAi:=h3d
    have htk:TickP W Hh xs tu le sl ra x y h e/\e.sc.length<=(acG al i).mks.length:=by rw[<-he];exact pi hG hB hAi
    have hsc2:∀x∈es++[e],x.sc.length<=1000000:=fun z hz=>by
     rcases List.mem_append.1 hz with hz|hz
     ·exact hsc z hz
     rw[List.mem_singleton.1 hz];omega
    have G16:=jn h2 (jn h2d (j2 h3 h3d G15))
    refine ae G16 ?_
    refine hn22 _ _ (sqR hQ21 fun Q23 hn23 hQ23 he23=>?_)
    refine bkR hQ23 fun Q24 hn24 hQ24 he24 hb24=>?_
    refine bt false try_mixed [[0,1,2,3,4,5,6,7,8,9,10,11,12,13,14],[0,1,2,3,4,5,6,7,8,9,11,10,12,13,14],[0,1,2,3,4,11,5,6,7,8,9,10,12,13,14],[0,1,2,3,4,10,5,6,7,8,9,11,12,13,14],[0,1,2,3,4,10,11,5,6,7,8,9,12,13,14],[0,1,2,3,4,11,10,5,6,7,8,9,12,13,14]] (by kernel_rfl) (fun F2 H2=>F2=[(3,.sl (some (bac,0)) al.length cac),(11,.ptr (some (Hg0.length+1,0))),(13,.sl (some (Hg0.length+2,0)) es.length (aW es.length)),(14,.sl (some (Hg0.length+3,0)) ((psl es).length) (aW (psl es).length)),(15,iV (i:Int)),(16,.ptr (some (Hg0.length+5,0))),(17,.ptr (some (Hg0.length+6,0))),(18,iV 0)]/\H2=Hg0++[.cells true 1 (ints .u8 xs),.cells true 0 [iV W,iV Hh,.sl (some (Hg0.length,0)) xs.length none,iV tu,iV le,iV sl,iV ra,iV x,iV y,iV h,iV kt,iV kb],.cells (aQ es.length) 5 (e5R (evl n0 es)),.cells (aQ (psl es).length) 3 (r3 (psl es)),.cells (aQ e.sc.length) 2 (prs e.sc),.cells true 0 [iV W,iV Hh,.sl (some (Hg0.length,0)) xs.length none,iV tu,iV le,iV sl,iV ra,iV e.x,iV e.y,iV e.h,iV e.k,iV (kbI kb e.st)],.cells true 0 [iV e.k,iV e.t,iV e.g,.bool e.st,.sl (some (Hg0.length+4,0)) e.sc.length (aW e.sc.length)]]) ?_ ?_
    ·refine aj ?_ (aj ?_ (aj ?_ (aj ?_ (aj ?_ (aj ?_ (bu))))))<;>intro J hJ
     ·have q4:=ex (l:=al) (j:=i) (by omega) hsq hsp
      have G17:=jn @c6 (jn q4 G16)
      refine ag G17 ?_
      refine cx (gz _ W Hh _ xs tu le sl ra x y h kt kb ((acG al i).t) ((acG al i).f) ((acG al i).eT) ((acG al i).eL) ((acG al i).eX) ((acG al i).eY) _ (acG al i).mks _ (acG al i).ers e he slA (zA2 hb0q hbq) (zA2 hb0p hbp) (by omega) (by omega) (by assumption) (by assumption) (by assumption) (by assumption) (by omega) (by omega)) ?_
      refine ag G17 ?_
      refine aq (hJ _ _ ⟨_,_,_,⟨rfl,rfl⟩,(Abs.byG hbel_g0 [] rfl [0,1,2,3,4,5,6] (by decide) ?_).le hle_g0⟩)
      exact aC (jn @cR (jn @hmvs (jn @ce (jn @cm (jn @db @cY)))))
     ·have q5:=ex (l:=al) (j:=i) (by omega) hsq hsp
      have G18:=jn @c6 (jn q5 G16)
      refine ag G18 ?_
      refine cx (gz _ W Hh _ xs tu le sl ra x y h kt kb ((acG al i).t) ((acG al i).f) ((acG al i).eT) ((acG al i).eL) ((acG al i).eX) ((acG al i).eY) _ (acG al i).mks _ (acG al i).ers e he slA (zA2 hb0q hbq) (zA2 hb0p hbp) (by omega) (by omega) (by assumption) (by assumption) (by assumption) (by assumption) (by omega) (by omega)) ?_
      refine ag G18 ?_
      refine aq (hJ _ _ ⟨_,_,_,⟨rfl,rfl⟩,(Abs.byG hbel_g0 [] rfl [0,1,2,3,4,6,5] (by decide) ?_).le hle_g0⟩)
      exact aC (jn @cR (jn @hmvs (jn @ce (jn @cm (jn @db @cY)))))
     ·have q6:=ex (l:=al) (j:=i) (by omega) hsq hsp
      have G19:=jn @c6 (jn q6 G16)
      refine ag G19 ?_
      refine cx (gz _ W Hh _ xs tu le sl ra x y h kt kb ((acG al i).t) ((acG al i).f) ((acG al i).eT) ((acG al i).eL) ((acG al i).eX) ((acG al i).eY) _ (acG al i).mks _ (acG al i).ers e he slA (zA2 hb0q hbq) (zA2 hb0p hbp) (by omega) (by omega) (by assumption) (by assumption) (by assumption) (by assumption) (by omega) (by omega)) ?_
      refine ag G19 ?_
      refine aq (hJ _ _ ⟨_,_,_,⟨rfl,rfl⟩,(Abs.byG hbel_g0 [] rfl [0,1,2,3,5,6,4] (by decide) ?_).le hle_g0⟩)
      exact aC (jn @cR (jn @hmvs (jn @ce (jn @cm (jn @db @cY)))))
     ·have q7:=ex (l:=al) (j:=i) (by omega) hsq hsp
      have G20:=jn @c6 (jn q7 G16)
      refine ag G20 ?_
      refine cx (gz _ W Hh _ xs tu le sl ra x y h kt kb ((acG al i).t) ((acG al i).f) ((acG al i).eT) ((acG al i).eL) ((acG al i).eX) ((acG al i).eY) _ (acG al i).mks _ (acG al i).ers e he slA (zA2 hb0q hbq) (zA2 hb0p hbp) (by omega) (by omega) (by assumption) (by assumption) (by assumption) (by assumption) (by omega) (by omega)) ?_
      refine ag G20 ?_
      refine aq (hJ _ _ ⟨_,_,_,⟨rfl,rfl⟩,(Abs.byG hbel_g0 [] rfl [0,1,2,3,5,4,6] (by decide) ?_).le hle_g0⟩)
      exact aC (jn @cR (jn @hmvs (jn @ce (jn @cm (jn @db @cY)))))
     ·have q8:=ex (l:=al) (j:=i) (by omega) hsq hsp
      have G21:=jn @c6 (jn q8 G16)
      refine ag G21 ?_
      refine cx (gz _ W Hh _ xs tu le sl ra x y h kt kb ((acG al i).t) ((acG al i).f) ((acG al i).eT) ((acG al i).eL) ((acG al i).eX) ((acG al i).eY) _ (acG al i).mks _ (acG al i).ers e he slA (zA2 hb0q hbq) (zA2 hb0p hbp) (by omega) (by omega) (by assumption) (by assumption) (by assumption) (by assumption) (by omega) (by omega)) ?_
      refine ag G21 ?_
      refine aq (hJ _ _ ⟨_,_,_,⟨rfl,rfl⟩,(Abs.byG hbel_g0 [] rfl [0,1,2,3,6,4,5] (by decide) ?_).le hle_g0⟩)
      exact aC (jn @cR (jn @hmvs (jn @ce (jn @cm (jn @db @cY)))))
     have q9:=ex (l:=al) (j:=i) (by omega) hsq hsp
     have G22:=jn @c6 (jn q9 G16)
     refine ag G22 ?_
     refine cx (gz _ W Hh _ xs tu le sl ra x y h kt kb ((acG al i).t) ((acG al i).f) ((acG al i).eT) ((acG al i).eL) ((acG al i).eX) ((acG al i).eY) _ (acG al i).mks _ (acG al i).ers e he slA (zA2 hb0q hbq) (zA2 hb0p hbp) (by omega) (by omega) (by assumption) (by assumption) (by assumption) (by assumption) (by omega) (by omega)) ?_
     refine ag G22 ?_
     refine aq (hJ _ _ ⟨_,_,_,⟨rfl,rfl⟩,(Abs.byG hbel_g0 [] rfl [0,1,2,3,6,5,4] (by decide) ?_).le hle_g0⟩)
     exact aC (jn @cR (jn @hmvs (jn @ce (jn @cm (jn @db @cY)))))
    rintro F2 H2 ⟨rfl,rfl⟩
    refine fnF ?_
    have G23:=jn @bF (jn @cJ (jn @d4 G16))
    refine ae G23 ?_
    refine hn24 _ _ ?_
    refine hn23 _ _ ?_
    refine fnF ?_
    refine ae G23 ?_
    refine hJ0 _ _ ⟨k0-1,by omega,_,_,_,⟨i+1,(es++[e]),e.x,e.y,e.h,e.k,(kbI kb e.st),(Hg0++[.cells (aQ e.sc.length) 2 (prs e.sc)]),(XX0++[.cells (aQ e.sc.length) 2 (prs e.sc)]),by omega,(by rw[hgX0,List.append_assoc]),rM hXb_g0 (by first|exact bel_evb|exact eU),(by rw[List.length_append,List.length_singleton,List.length_append,List.length_singleton];omega),(by rw[List.map_append,<-hXX];rfl),(by rw[List.length_append,hesl];rfl),htk.1.goo,(run_snoc hR hpz htk.1),pz_last,hsc2,(by omega),(by unfold kbI;split<;>omega),fun j hj=>by
          rcases Nat.lt_or_ge j i with q|q
          ·exact hal j q
          rw[show j=i by omega];exact hAi,rfl,rfl⟩,Abs.byX hle_g0 hbel_g0 [] rfl [4,0,1,8,10] (by decide) ?_⟩
    exact aC (jn @hmvs (jn @rP (jn @rS (jn @hgl (jn @ce (jn @cm (jn @db (jn @rN (jn @Nat.add_assoc (jn @cR @cY))))))))))
   have h3d:=h3
   have hAi:=h3d
   have G24:=jn h2 (jn h2d (j2 h3 h3d G15))
   refine ae G24 ?_
   refine hn22 _ _ (sqR hQ21 fun Q25 hn25 hQ25 he25=>?_)
   refine bkR hQ25 fun Q26 hn26 hQ26 he26 hb26=>?_
   refine bt false try_mixed [[0,1,2,3,4,5,6,7,8,9,10,11,12,13,14],[0,1,2,3,4,5,6,7,8,9,11,10,12,13,14],[0,1,2,3,4,11,5,6,7,8,9,10,12,13,14],[0,1,2,3,4,10,5,6,7,8,9,11,12,13,14],[0,1,2,3,4,10,11,5,6,7,8,9,12,13,14],[0,1,2,3,4,11,10,5,6,7,8,9,12,13,14]] (by kernel_rfl) (fun F2 H2=>F2=[(3,.sl (some (bac,0)) al.length cac),(11,.ptr (some (Hg0.length+1,0))),(13,.sl (some (Hg0.length+2,0)) es.length (aW es.length)),(14,.sl (some (Hg0.length+3,0)) ((psl es).length) (aW (psl es).length)),(15,iV (i:Int)),(16,.ptr (some (Hg0.length+4,0))),(17,.ptr (some (Hg0.length+5,0))),(18,iV 1)]/\H2=Hg0++[.cells true 1 (ints .u8 xs),.cells true 0 [iV W,iV Hh,.sl (some (Hg0.length,0)) xs.length none,iV tu,iV le,iV sl,iV ra,iV x,iV y,iV h,iV kt,iV kb],.cells (aQ es.length) 5 (e5R (evl n0 es)),.cells (aQ (psl es).length) 3 (r3 (psl es)),.cells true 0 [iV W,iV Hh,.sl (some (Hg0.length,0)) xs.length none,iV tu,iV le,iV sl,iV ra,iV x,iV y,iV h,iV kt,iV kb],.cells true 0 [iV 0,iV 0,iV 0,.bool false,.sl none 0 (some 0)]]) ?_ ?_
   ·refine aj ?_ (aj ?_ (aj ?_ (aj ?_ (aj ?_ (aj ?_ (bu))))))<;>intro J hJ
    ·have q10:=ex (l:=al) (j:=i) (by omega) hsq hsp
     have G25:=jn @c6 (jn q10 G24)
     refine ag G25 ?_
     refine cd (kz _ W _ _ xs _ _ _ _ x y h _ _ _ _ _ _ _ _ _ (acG al i).mks _ (acG al i).ers slA (zA2 hb0q hbq) (zA2 hb0p hbp) (by omega) (by assumption)) ?_
     refine ag G25 ?_
     refine aq (hJ _ _ ⟨_,_,_,⟨rfl,rfl⟩,(Abs.byG hbel_g0 [] rfl [0,1,2,3,4,5] (by decide) ?_).le hle_g0⟩)
     exact aC (jn @cR (jn @hmvs (jn @ce (jn @cm (jn @db @cY)))))
    ·have q11:=ex (l:=al) (j:=i) (by omega) hsq hsp
     have G26:=jn @c6 (jn q11 G24)
     refine ag G26 ?_
     refine cd (kz _ W _ _ xs _ _ _ _ x y h _ _ _ _ _ _ _ _ _ (acG al i).mks _ (acG al i).ers slA (zA2 hb0q hbq) (zA2 hb0p hbp) (by omega) (by assumption)) ?_
     refine ag G26 ?_
     refine aq (hJ _ _ ⟨_,_,_,⟨rfl,rfl⟩,(Abs.byG hbel_g0 [] rfl [0,1,2,3,5,4] (by decide) ?_).le hle_g0⟩)
     exact aC (jn @cR (jn @hmvs (jn @ce (jn @cm (jn @db @cY)))))
    ·have q12:=ex (l:=al) (j:=i) (by omega) hsq hsp
     have G27:=jn @c6 (jn q12 G24)
     refine ag G27 ?_
     refine cd (kz _ W _ _ xs _ _ _ _ x y h _ _ _ _ _ _ _ _ _ (acG al i).mks _ (acG al i).ers slA (zA2 hb0q hbq) (zA2 hb0p hbp) (by omega) (by assumption)) ?_
     refine ag G27 ?_
     refine aq (hJ _ _ ⟨_,_,_,⟨rfl,rfl⟩,(Abs.byG hbel_g0 [] rfl [0,1,2,3,5,4] (by decide) ?_).le hle_g0⟩)
     exact aC (jn @cR (jn @hmvs (jn @ce (jn @cm (jn @db @cY)))))
    ·have q13:=ex (l:=al) (j:=i) (by omega) hsq hsp
     have G28:=jn @c6 (jn q13 G24)
     refine ag G28 ?_
     refine cd (kz _ W _ _ xs _ _ _ _ x y h _ _ _ _ _ _ _ _ _ (acG al i).mks _ (acG al i).ers slA (zA2 hb0q hbq) (zA2 hb0p hbp) (by omega) (by assumption)) ?_
     refine ag G28 ?_
     refine aq (hJ _ _ ⟨_,_,_,⟨rfl,rfl⟩,(Abs.byG hbel_g0 [] rfl [0,1,2,3,4,5] (by decide) ?_).le hle_g0⟩)
     exact aC (jn @cR (jn @hmvs (jn @ce (jn @cm (jn @db @cY)))))
    ·have q14:=ex (l:=al) (j:=i) (by omega) hsq hsp
     have G29:=jn @c6 (jn q14 G24)
     refine ag G29 ?_
     refine cd (kz _ W _ _ xs _ _ _ _ x y h _ _ _ _ _ _ _ _ _ (acG al i).mks _ (acG al i).ers slA (zA2 hb0q hbq) (zA2 hb0p hbp) (by omega) (by assumption)) ?_
     refine ag G29 ?_
     refine aq (hJ _ _ ⟨_,_,_,⟨rfl,rfl⟩,(Abs.byG hbel_g0 [] rfl [0,1,2,3,4,5] (by decide) ?_).le hle_g0⟩)
     exact aC (jn @cR (jn @hmvs (jn @ce (jn @cm (jn @db @cY)))))
    have q15:=ex (l:=al) (j:=i) (by omega) hsq hsp
    have G30:=jn @c6 (jn q15 G24)
    refine ag G30 ?_
    refine cd (kz _ W _ _ xs _ _ _ _ x y h _ _ _ _ _ _ _ _ _ (acG al i).mks _ (acG al i).ers slA (zA2 hb0q hbq) (zA2 hb0p hbp) (by omega) (by assumption)) ?_
    refine ag G30 ?_
    refine aq (hJ _ _ ⟨_,_,_,⟨rfl,rfl⟩,(Abs.byG hbel_g0 [] rfl [0,1,2,3,5,4] (by decide) ?_).le hle_g0⟩)
    exact aC (jn @cR (jn @hmvs (jn @ce (jn @cm (jn @db @cY)))))
   rintro F2 H2 ⟨rfl,rfl⟩
   refine fnF ?_
   refine ae G24 ?_
   exact hQ26 _ _ (oF (.inl rfl) hpre_g0 h0bel (x:=.tup [.sl none 0 (some 0),.sl none 0 (some 0),iV 1]) (aY results8) rfl ⟨rfl,rfl⟩)
  obtain rfl:i=al.length:=by omega
  exact absurd hal hnot
 have h1d:=h1
 exact absurd hnw (by rw[h1d];decide)
theorem rrun_z (H:aa)(W Hh:Int)(pp:AV)(xs:List Int)(tu le sl ra ax ay ah:Int)(ac:AV)(al:List Ac)(hpp:zI H pp xs)(hac:Sl H 8 ac al.length (acR al))(hao:acOk H al)(hnw:iH W Hh xs tu le sl ra ax ay ah=false):zC 8 [.agg [iV W,iV Hh,pp],.agg [iV tu,iV le,iV sl,iV ra],.agg [iV ax,iV ay,iV ah],ac] H (.tup [.sl none 0 (some 0),.sl none 0 (some 0),iV (rnwE W Hh xs tu le sl ra ax ay ah)]) H:=by
 obtain⟨bpp,opp,cpp,rfl,hbpp,hblpp,hb0pp⟩:=zA1 hpp
 obtain⟨bac,oac,cac,rfl,hbac,hblac,hb0ac⟩:=zA1 hac
 (refine bh func8 _ rfl (Nat.le_of_ble_eq_true (by kernel_rfl)) rfl ?_;intro hbel Q hQ hQ' c hc;unfold Tryz.f8 at hc;simp only[Option.some.injEq] at hc;subst hc;clear hQ')
 refine zQF hQ fun Q27 hn27 hQ27 he27=>?_
 have G31:=jn @hbpp (jn @hb0pp (jn @hbac @hb0ac))
 refine ae G31 ?_
 refine hn27 _ _ (zQF hQ fun Q28 hn28 hQ28 he28=>?_)
 refine ae G31 ?_
 rcases Bool.eq_false_or_eq_true (iH W Hh xs tu le sl ra ax ay ah) with h1|h1
 ·have h1d:=h1
  exact absurd hnw (by rw[h1d];decide)
 have h1d:=h1
 refine cv (rnwn_c _ W _ _ xs _ _ _ _ _ _ _ (zA2 hb0pp hbpp) (by assumption)) ?_
 have G32:=j2 h1 h1d G31
 refine ae G32 ?_
 refine hn28 _ _ (zQF hQ fun Q29 hn29 hQ29 he29=>?_)
 refine rcs G32 (fun h2 h2d _=>?_) (fun h2 h2d _=>?_)
 ·have h2n:=bnT h2
  have G33:=jn h2 (jn h2n (jn @aP (jn @aO G32)))
  exact eR G33 hQ29 hbel (.tup [.sl none 0 (some 0),.sl none 0 (some 0),iV (rnwE W Hh xs tu le sl ra ax ay ah)]) results8 ⟨rfl,rfl⟩
 have h2n:=bnT h2
 exact absurd (by first|exact h2d|simpa using h2d) rnwE_nz
theorem lstart_c (H:aa)(W Hh:Int)(pp:AV)(xs:List Int)(ax ay ah n:Int)(hpp:zI H pp xs)(hx6:xs.length<=64)(hbx : -2097152<=ax/\ax<=2097152)(hby : -2097152<=ay/\ay<=2097152)(hbh:0<=ah/\ah<=255):zC 9 [.agg [iV W,iV Hh,pp],.agg [iV ax,iV ay,iV ah],iV n] H (.tup [.agg [iV W,iV Hh,.sl (some (H.length,0)) ((stP xs (n%24).toNat).length) none],.agg [iV ((sbX ax ay ah (n%24).toNat).1),iV ((sbX ax ay ah (n%24).toNat).2.1),iV ((sbX ax ay ah (n%24).toNat).2.2.1),iV ((sbX ax ay ah (n%24).toNat).2.2.2.1),iV ((sbX ax ay ah (n%24).toNat).2.2.2.2.1),iV ((sbX ax ay ah (n%24).toNat).2.2.2.2.2)]]) (H++[.cells true 1 (ints .u8 (stP xs (n%24).toNat))]):=by
 obtain⟨bpp,opp,cpp,rfl,hbpp,hblpp,hb0pp⟩:=zA1 hpp
 (refine bh func9 _ rfl (Nat.le_of_ble_eq_true (by kernel_rfl)) rfl ?_;intro hbel Q hQ hQ' c hc;unfold Tryz.f9 at hc;simp only[Option.some.injEq] at hc;subst hc;clear hQ')
 refine zQT hQ fun Q1 hn1 hQ1 he1=>?_
 have G1:=jn @hbpp (jn @hb0pp @rem_nat3)
 refine ae G1 ?_
 refine hn1 _ _ ?_
 refine bt true try_mixed [[0,1,2,3,4,5,6,7,8,9,10],[0,1,2,3,4,5,6,9,7,8,10]] (by kernel_rfl) (fun F2 H2=>F2=[(2,iV n),(3,.ptr (some (H.length,0))),(4,.ptr (some (H.length+1,0))),(6,.ptr (some (H.length+2,0))),(7,.ptr (some (H.length+3,0))),(8,.ptr (some (H.length+5,0)))]/\H2=H++[.cells true 0 [iV W,iV Hh,.sl (some (bpp,0)) xs.length cpp],.cells true 0 [iV ax,iV ay,iV ah],.cells true 0 [iV 0,iV 0,.sl none 0 (some 0)],.cells true 0 [iV 0,iV 0,iV 0,iV 0,iV 0,iV 0],.cells true 1 (ints .u8 (List.replicate xs.length 0)),.cells true 0 [iV W,iV Hh,.sl (some (H.length+4,0)) xs.length (some xs.length)]]) ?_ ?_
 ·refine aj ?_ (aj ?_ (bu))<;>intro J hJ
  ·have G2:=jn @bV (jn @List.length_replicate.{0} G1)
   refine ag G2 ?_
   refine aq (hJ _ _ ⟨_,_,_,⟨rfl,rfl⟩,bS hbel [0,1,2,3,4,5] cD⟩)
  have G3:=jn @bV (jn @List.length_replicate.{0} G1)
  refine ag G3 ?_
  refine aq (hJ _ _ ⟨_,_,_,⟨rfl,rfl⟩,bS hbel [0,1,2,3,5,4] cD⟩)
 rintro F2 H2 ⟨rfl,rfl⟩
 refine zQT hQ fun Q2 hn2 hQ2 he2=>?_
 have G4:=jn @co (jn @cV G1)
 refine ae G4 ?_
 refine cvr G4 (da _ n _ (by omega) (by omega)) ?_
 refine hn2 _ _ (zQT hQ fun Q3 hn3 hQ3 he3=>?_)
 refine ae G4 ?_
 refine glp (fun k F Hx=>∃i:Nat,i+k=xs.length/\F=[(2,iV (((n%24).toNat:Nat):Int)),(3,.ptr (some (H.length,0))),(4,.ptr (some (H.length+1,0))),(6,.ptr (some (H.length+2,0))),(7,.ptr (some (H.length+3,0))),(8,.ptr (some (H.length+5,0))),(9,iV (i:Int))]/\Hx=H++[.cells true 0 [iV W,iV Hh,.sl (some (bpp,0)) xs.length cpp],.cells true 0 [iV ax,iV ay,iV ah],.cells true 0 [iV 0,iV 0,.sl none 0 (some 0)],.cells true 0 [iV 0,iV 0,iV 0,iV 0,iV 0,iV 0],.cells true 1 (ints .u8 (stK xs (n%24).toNat i)),.cells true 0 [iV W,iV Hh,.sl (some (H.length+4,0)) ((stK xs (n%24).toNat i).length) none]]) (xs.length) ?_ ?_
 ·refine⟨_,_,_,⟨0,by omega,rfl,rfl⟩,Abs.byG hbel [] rfl [0,1,2,3,4,5] (by decide) ?_⟩
  simp -implicitDefEqProofs (disch:=omega) only [stK.eq_1,List.length_replicate.{0},List.length_append,List.length_cons,List.length_nil,d4,ownG_s,lC,lD,ni,lF,nj,lI,lJ,lK,j9,ke,kf,fw,fF,ij,jw,kE,kF,ii,gA,gB,gC,ik,look,List.cons_append,List.nil_append,List.append_nil,List.length_cons,List.length_nil,Nat.zero_add,Nat.reduceAdd,AV.mv,AV.mvs,ABlk.mv,gD,gE,g7,List.getElem?_cons_zero,List.getElem?_cons_succ,fu,fo,gS,eH,cond_true,cond_false,beq_self_eq_true,Nat.reduceBEq,true_and,and_true,or_true,true_or,and_self,decide_true,Nat.add_zero,reduceCtorEq,false_or,or_false]
  repeat' (first|exact True.intro|exact Nat.add_lt_add_left (by decide) _|exact Nat.lt_add_of_pos_right (by decide)|refine dZ ?_ (Or.inr rfl)|refine dZ ?_ (Or.inl rfl)|refine dC ?_ (Or.inr rfl)|refine dC ?_ (Or.inl rfl)|exact jM|rfl|refine And.intro ?_ ?_|exact Or.inl rfl|exact Or.inr rfl|exact Or.inr (Or.inl rfl)|exact Or.inr (Or.inr BW.emp)|exact Or.inr BW.emp|exact BW.emp|exact Or.inr (Or.inr BW.pre)|exact Or.inr BW.pre|exact BW.pre|refine Or.inr (BW.cells ?_)|refine BW.cells ?_|refine Or.inr (Or.inr (BW.cells ?_))|exact iO)
 rintro k0 F Hx ⟨i,hm0,rfl,rfl⟩ J0 hJ0
 have hvl:=kw (xs:=xs) (m:=(n%24).toNat) i
 refine rcs G4 (fun h1 h1d G5=>?_) (fun h1 h1d G8=>?_)
 ·have hlt:i<xs.length:=by omega
  refine rcs G5 (fun h2 h2d _=>?_) (fun h2 h2d _=>?_)
  ·have h2n:=bnT h2
   have hst:=stK_t (xs:=xs) (m:=(n%24).toNat) (i:=i) (by have q:=beq_iff_eq.1 h2;rw[Int.tmod_eq_emod_of_nonneg (by omega)] at q;omega)
   have q3:=cn (k:=.u8) (xs:=xs) (j:=i) (by omega)
   have G6:=jn h2 (jn h2n (jn @aP (jn @aO (jn q3 (jn @jQ (jn @List.length_set.{0} G5))))))
   refine ae G6 ?_
   refine hJ0 _ _ ⟨k0-1,by omega,_,_,_,⟨i+1,by omega,rfl,rfl⟩,bS hbel [0,1,2,3,4,5] (aC (jn @hst @List.length_set.{0}))⟩
  have h2n:=bnT h2
  have hst:=stK_f (xs:=xs) (m:=(n%24).toNat) (i:=i) (by have q:=beq_eq_false_iff_ne.1 h2;rw[Int.tmod_eq_emod_of_nonneg (by omega)] at q;omega)
  have G7:=jn h2 (jn h2n (jn @aP (jn @aO G5)))
  refine ae G7 ?_
  refine hJ0 _ _ ⟨k0-1,by omega,_,_,_,⟨i+1,by omega,rfl,rfl⟩,bS hbel [0,1,2,3,4,5] (aC (jn @hst @List.length_set.{0}))⟩
 have hfinV:stP xs (n%24).toNat=stK xs (n%24).toNat i:=by unfold stP;rw[show i=xs.length by omega]
 refine ae G8 ?_
 refine hn3 _ _ (zQT hQ fun Q4 hn4 hQ4 he4=>?_)
 refine ae G8 ?_
 refine hn4 _ _ ?_
 refine bt true try_mixed [[0,1,2,3,4,5,6,7,8,9,10,11,12,13,14,15,16,17,18,19,20,21,22,23,24,25,26,27],[0,1,2,3,4,5,6,7,8,9,10,11,12,13,15,17,18,19,20,21,22,23,24,26,14,16,25,27],[0,1,2,3,4,5,6,7,8,9,11,13,14,15,16,17,18,19,20,21,22,23,24,26,10,12,25,27],[0,1,2,3,4,5,6,7,8,9,11,13,15,17,18,19,20,21,22,23,24,26,10,12,14,16,25,27],[0,1,2,3,4,5,7,9,10,11,12,13,14,15,16,17,18,19,20,21,22,23,24,26,6,8,25,27],[0,1,2,3,4,5,7,9,10,11,12,13,15,17,18,19,20,21,22,23,24,26,6,8,14,16,25,27],[0,1,2,3,4,5,7,9,11,13,14,15,16,17,18,19,20,21,22,23,24,26,6,8,10,12,25,27],[0,1,2,3,4,5,7,9,11,13,15,17,18,19,20,21,22,23,24,26,6,8,10,12,14,16,25,27],[0,1,3,5,6,7,8,9,10,11,12,13,14,15,16,17,18,19,20,21,22,23,24,26,2,4,25,27],[0,1,3,5,6,7,8,9,10,11,12,13,15,17,18,19,20,21,22,23,24,26,2,4,14,16,25,27],[0,1,3,5,6,7,8,9,11,13,14,15,16,17,18,19,20,21,22,23,24,26,2,4,10,12,25,27],[0,1,3,5,6,7,8,9,11,13,15,17,18,19,20,21,22,23,24,26,2,4,10,12,14,16,25,27],[0,1,3,5,7,9,10,11,12,13,14,15,16,17,18,19,20,21,22,23,24,26,2,4,6,8,25,27],[0,1,3,5,7,9,10,11,12,13,15,17,18,19,20,21,22,23,24,26,2,4,6,8,14,16,25,27],[0,1,3,5,7,9,11,13,14,15,16,17,18,19,20,21,22,23,24,26,2,4,6,8,10,12,25,27],[0,1,3,5,7,9,11,13,15,17,18,19,20,21,22,23,24,26,2,4,6,8,10,12,14,16,25,27]] (by kernel_rfl) (fun F2 H2=>F2=[(6,.ptr (some (H.length,0))),(7,.ptr (some (H.length+1,0)))]/\H2=H++[.cells true 0 [iV W,iV Hh,.sl (some (H.length+2,0)) ((stK xs (n%24).toNat i).length) none],.cells true 0 [iV (ax-(((n%24).toNat:Nat):Int)),iV (ay-((((n%24).toNat)%3:Nat):Int)),iV (ax+((((n%24).toNat)%3:Nat):Int)),iV (ay+(((n%24).toNat:Nat):Int)),iV ((((ah-((((n%24).toNat)%3:Nat):Int))%256).toNat:Nat):Int),iV ((2*((((n%24).toNat)%3:Nat):Int))+1)],.cells true 1 (ints .u8 (stK xs (n%24).toNat i))]) ?_ ?_
 ·refine aj ?_ (aj ?_ (aj ?_ (aj ?_ (aj ?_ (aj ?_ (aj ?_ (aj ?_ (aj ?_ (aj ?_ (aj ?_ (aj ?_ (aj ?_ (aj ?_ (aj ?_ (aj ?_ (bu))))))))))))))))<;>intro J hJ
  ·refine ag G8 ?_
   refine cd (da _ _ _ (by omega) (by omega)) ?_
   refine ag G8 ?_
   refine aq (hJ _ _ ⟨_,_,_,⟨rfl,rfl⟩,bS hbel [2,3,4] cD⟩)
  ·refine ag G8 ?_
   refine cd (da _ _ _ (by omega) (by omega)) ?_
   refine ag G8 ?_
   refine aq (hJ _ _ ⟨_,_,_,⟨rfl,rfl⟩,bS hbel [2,3,4] cD⟩)
  ·refine ag G8 ?_
   refine cd (da _ _ _ (by omega) (by omega)) ?_
   refine ag G8 ?_
   refine aq (hJ _ _ ⟨_,_,_,⟨rfl,rfl⟩,bS hbel [2,3,4] cD⟩)
  ·refine ag G8 ?_
   refine cd (da _ _ _ (by omega) (by omega)) ?_
   refine ag G8 ?_
   refine aq (hJ _ _ ⟨_,_,_,⟨rfl,rfl⟩,bS hbel [2,3,4] cD⟩)
  ·refine ag G8 ?_
   refine cd (da _ _ _ (by omega) (by omega)) ?_
   refine ag G8 ?_
   refine aq (hJ _ _ ⟨_,_,_,⟨rfl,rfl⟩,bS hbel [2,3,4] cD⟩)
  ·refine ag G8 ?_
   refine cd (da _ _ _ (by omega) (by omega)) ?_
   refine ag G8 ?_
   refine aq (hJ _ _ ⟨_,_,_,⟨rfl,rfl⟩,bS hbel [2,3,4] cD⟩)
  ·refine ag G8 ?_
   refine cd (da _ _ _ (by omega) (by omega)) ?_
   refine ag G8 ?_
   refine aq (hJ _ _ ⟨_,_,_,⟨rfl,rfl⟩,bS hbel [2,3,4] cD⟩)
  ·refine ag G8 ?_
   refine cd (da _ _ _ (by omega) (by omega)) ?_
   refine ag G8 ?_
   refine aq (hJ _ _ ⟨_,_,_,⟨rfl,rfl⟩,bS hbel [2,3,4] cD⟩)
  ·refine ag G8 ?_
   refine cd (da _ _ _ (by omega) (by omega)) ?_
   refine ag G8 ?_
   refine aq (hJ _ _ ⟨_,_,_,⟨rfl,rfl⟩,bS hbel [2,3,4] cD⟩)
  ·refine ag G8 ?_
   refine cd (da _ _ _ (by omega) (by omega)) ?_
   refine ag G8 ?_
   refine aq (hJ _ _ ⟨_,_,_,⟨rfl,rfl⟩,bS hbel [2,3,4] cD⟩)
  ·refine ag G8 ?_
   refine cd (da _ _ _ (by omega) (by omega)) ?_
   refine ag G8 ?_
   refine aq (hJ _ _ ⟨_,_,_,⟨rfl,rfl⟩,bS hbel [2,3,4] cD⟩)
  ·refine ag G8 ?_
   refine cd (da _ _ _ (by omega) (by omega)) ?_
   refine ag G8 ?_
   refine aq (hJ _ _ ⟨_,_,_,⟨rfl,rfl⟩,bS hbel [2,3,4] cD⟩)
  ·refine ag G8 ?_
   refine cd (da _ _ _ (by omega) (by omega)) ?_
   refine ag G8 ?_
   refine aq (hJ _ _ ⟨_,_,_,⟨rfl,rfl⟩,bS hbel [2,3,4] cD⟩)
  ·refine ag G8 ?_
   refine cd (da _ _ _ (by omega) (by omega)) ?_
   refine ag G8 ?_
   refine aq (hJ _ _ ⟨_,_,_,⟨rfl,rfl⟩,bS hbel [2,3,4] cD⟩)
  ·refine ag G8 ?_
   refine cd (da _ _ _ (by omega) (by omega)) ?_
   refine ag G8 ?_
   refine aq (hJ _ _ ⟨_,_,_,⟨rfl,rfl⟩,bS hbel [2,3,4] cD⟩)
  refine ag G8 ?_
  refine cd (da _ _ _ (by omega) (by omega)) ?_
  refine ag G8 ?_
  refine aq (hJ _ _ ⟨_,_,_,⟨rfl,rfl⟩,bS hbel [2,3,4] cD⟩)
 rintro F2 H2 ⟨rfl,rfl⟩
 refine fnT ?_
 refine ae G8 ?_
 refine hQ _ _ (ba (.inl rfl) hbel (x1:=.tup [.agg [iV W,iV Hh,.sl (some (H.length+2,0)) ((stK xs (n%24).toNat i).length) none],.agg [iV (ax-(((n%24).toNat:Nat):Int)),iV (ay-((((n%24).toNat)%3:Nat):Int)),iV (ax+((((n%24).toNat)%3:Nat):Int)),iV (ay+(((n%24).toNat:Nat):Int)),iV ((((ah-((((n%24).toNat)%3:Nat):Int))%256).toNat:Nat):Int),iV ((2*((((n%24).toNat)%3:Nat):Int))+1)]]) (l2:=[.cells true 1 (ints .u8 (stK xs (n%24).toNat i))]) (.tup [.agg [iV W,iV Hh,.sl (some (H.length,0)) ((stK xs (n%24).toNat i).length) none],.agg [iV (ax-(((n%24).toNat:Nat):Int)),iV (ay-((((n%24).toNat)%3:Nat):Int)),iV (ax+((((n%24).toNat)%3:Nat):Int)),iV (ay+(((n%24).toNat:Nat):Int)),iV ((((ah-((((n%24).toNat)%3:Nat):Int))%256).toNat:Nat):Int),iV ((2*((((n%24).toNat)%3:Nat):Int))+1)]]) (aY results9) [] rfl [2] (by decide) ⟨by first|(rw[hfinV];done)|(rw[hfinV];rfl),by first|(rw[hfinV];done)|(rw[hfinV];rfl)⟩ ?_)
 exact aJ
theorem lfits_c (H:aa)(W Hh:Int)(pp:AV)(xs:List Int)(ac:AV)(al:List Ac)(hpp:zI H pp xs)(hac:Sl H 8 ac al.length (acR al))(hao:acOk H al)(hll:al.length<=9223372036854775807)(hx6:xs.length<=9223372036854775807):zC 6 [.agg [iV W,iV Hh,pp],ac] H (.bool (gP xs al)) H:=by
 obtain⟨bpp,opp,cpp,rfl,hbpp,hblpp,hb0pp⟩:=zA1 hpp
 obtain⟨bac,oac,cac,rfl,hbac,hblac,hb0ac⟩:=zA1 hac
 refine AcT true func6 ?_;intro hbel Q hQ
 have G9:=jn @hbpp (jn @hb0pp (jn @hbac @hb0ac))
 refine ae G9 ?_
 refine glp (fun k F Hx=>∃i:Nat,i+k=al.length/\(∀j:Nat,j<i->facC (acG al j)=true)/\F=[(1,.sl (some (bac,0)) al.length cac),(2,.ptr (some (H.length,0))),(5,iV (i:Int))]/\Hx=H++[.cells true 0 [iV W,iV Hh,.sl (some (bpp,0)) xs.length cpp]]) (al.length) ?_ ?_
 ·refine⟨_,_,_,⟨0,by omega,(fun j h=>by omega),rfl,rfl⟩,bS hbel [0] aJ⟩
 rintro k0 F Hx ⟨i,hm0,hal,rfl,rfl⟩ J0 hJ0
 refine rgs G9 (fun h1 h1d G10=>?_) (fun h1 h1d G19=>?_)
 ·have hlt:i<al.length:=by omega
  obtain⟨⟨bq,oq,cq,hsq,hbq⟩,bp,op,cp,hsp,hbp⟩:=hao.at hlt
  have hblq:=getElem?_lt hbq
  have hb0q:=fun l'=>am (l:=l') hbq
  have hblp:=getElem?_lt hbp
  have hb0p:=fun l'=>am (l:=l') hbp
  have hlen:=hao.len hlt
  refine rcs G10 (fun h2 h2d _=>?_) (fun h2 h2d G16=>?_)
  ·have hi9:i<9:=by omega
   have q3:=acR_at6 (l:=al) (j:=i) (by omega) hsq
   have G11:=jn h2 (jn h2d (jn @c6 (jn q3 G10)))
   refine rgs G11 (fun h4 h4d _=>?_) (fun h4 h4d G15=>?_)
   ·have hm3:(acG al i).mks.length<=3:=by omega
    have q5:=acR_at7 (l:=al) (j:=i) (by omega) hsp
    have G12:=jn h4 (jn h4d (jn q5 G11))
    refine rcs G12 (fun h6 h6d G13=>?_) (fun h6 h6d G14=>?_)
    ·have hfinV:gP xs al=false:=fac_n hlt hi9 (by unfold facC;rw[decide_eq_false (show ¬(acG al i).ers.length<=40 by omega)];simp)
     exact eR G13 hQ hbel (.bool false) results6 ⟨by first|(rw[hfinV];done)|(rw[hfinV];rfl),rfl⟩
    have hno:facC (acG al i)=true:=by unfold facC;rw[decide_eq_true (by omega),decide_eq_true (by omega)];rfl
    refine ae G14 ?_
    refine hJ0 _ _ ⟨k0-1,by omega,_,_,_,⟨i+1,by omega,fun j hj=>by
          rcases Nat.lt_or_ge j i with h|h
          ·exact hal j h
          rw[show j=i by omega];exact hno,rfl,rfl⟩,bS hbel [0] aJ⟩
   have hfinV:gP xs al=false:=fac_n hlt hi9 (by unfold facC;rw[decide_eq_false (by omega)];rfl)
   exact eR G15 hQ hbel (.bool false) results6 ⟨by first|(rw[hfinV];done)|(rw[hfinV];rfl),rfl⟩
  have hfinY:gP xs al=(decide (xs.length<=49)&&decide (al.length<=4)):=fac_y (fun j h1 h2=>hal j (by omega))
  refine rgs G16 (fun h7 h7d G17=>?_) (fun h7 h7d G18=>?_)
  ·have hfinV:gP xs al=decide ((al.length:Int)<=4):=by rw[hfinY,decide_eq_true (by omega),Bool.true_and];exact decide_eq_decide.2 (by omega)
   exact eR G17 hQ hbel (.bool (decide ((al.length:Int)<=4))) results6 ⟨by first|(rw[hfinV];done)|(rw[hfinV];rfl),rfl⟩
  have hfinV:gP xs al=false:=by rw[hfinY,decide_eq_false (by omega),Bool.false_and]
  exact eR G18 hQ hbel (.bool false) results6 ⟨by first|(rw[hfinV];done)|(rw[hfinV];rfl),rfl⟩
 have hfinY:gP xs al=(decide (xs.length<=49)&&decide (al.length<=4)):=fac_y (fun j h1 h2=>hal j (by omega))
 refine rgs G19 (fun h8 h8d G20=>?_) (fun h8 h8d G21=>?_)
 ·have hfinV:gP xs al=decide ((al.length:Int)<=4):=by rw[hfinY,decide_eq_true (by omega),Bool.true_and];exact decide_eq_decide.2 (by omega)
  exact eR G20 hQ hbel (.bool (decide ((al.length:Int)<=4))) results6 ⟨by first|(rw[hfinV];done)|(rw[hfinV];rfl),rfl⟩
 have hfinV:gP xs al=false:=by rw[hfinY,decide_eq_false (by omega),Bool.false_and]
 exact eR G21 hQ hbel (.bool false) results6 ⟨by first|(rw[hfinV];done)|(rw[hfinV];rfl),rfl⟩
theorem bel_kp {ks xs:List Int}(h:fk ks xs):kpP ks xs:=⟨h.1.symm,fun i _ hz=>(h.2 i).resolve_left hz⟩
structure RndP (W Hh:Int) (xs ks:List Int) (Q:List T6) (x y h:Int):Prop where
 kV:bQ W Hh ks=true
 bl:fk ks xs
 S:cw Q=true
 l0:0<Q.length
 nr:∀b∈Q,nrP b
 cv:∃b∈Q,InP b x y h
theorem RndP.mv {W Hh:Int}{xs ks:List Int}{Q:List T6}{tu le sl ra x y h:Int}{e:Ev}(R:RndP W Hh xs ks Q x y h)(hB:bM tu le sl ra=true)(T:TickP W Hh xs tu le sl ra x y h e):imA Q e.t (stF e.st e.g) tu le sl=true:=by
 have hC2:=mI e.st T.cmd
 simp only[bM,Bool.and_eq_true,aZ] at hB
 simp only[cM,Bool.and_eq_true,aZ] at hC2
 exact nr_imA (bN.1 R.S).2 R.nr (by omega) (by omega) (by omega)
theorem oH {W Hh:Int}{xs:List Int}{x y h:Int}(k:dN W Hh xs x y h=true):bQ W Hh xs=true/\((0<=x/\x<=64*W)/\0<=y/\y<=64*Hh)/\0<=h/\h<=255:=by
 unfold dN at k
 rw[Bool.and_eq_true] at k
 obtain⟨k1,k2⟩:=iC.1 k.1
 exact⟨k1,k2,aZ.1 (dp.1 k.2).2⟩
theorem rnd_mv {W Hh:Int}{xs:List Int}{Q Q1:List T6}{tu le sl ra x y h:Int}{e:Ev}(kS:cw Q=true)(k0:0<Q.length)(kc:∃b∈Q,InP b x y h)(hA:imA Q e.t (stF e.st e.g) tu le sl=true)(hB:bM tu le sl ra=true)(T:TickP W Hh xs tu le sl ra x y h e)(h1:imS Q e.t (stF e.st e.g) tu le sl Q.length=Q1):cw Q1=true/\0<Q1.length/\(∃b∈Q1,InP b e.x e.y e.h)/\rcvB Q1 e.x e.y e.h=true:=by
 have hC2:=mI e.st T.cmd
 have hBi:=hB
 simp only[bM,Bool.and_eq_true,aZ] at hBi
 simp only[cM,Bool.and_eq_true,aZ] at hC2
 have hSS:=bN.1 kS
 have s1:cw Q1=true:=by rw[<-h1];exact bN.2 ⟨by rw[gl];exact hSS.1,imS_ok hSS.2 (by omega) (by omega) (by omega) (by omega) hA⟩
 have s2:∃b∈Q1,InP b e.x e.y e.h:=by rw[<-h1];exact wth_set hSS.2 kc T.wth
 exact⟨s1,by rw[<-h1,gl];exact k0,s2,rcv_in s1 (oH T.goo).2.2 s2⟩
theorem rnd_se {W Hh:Int}{xs ks:List Int}{Q1:List T6}{tu le sl ra x y h:Int}{e:Ev}(hnz:∀z∈xs,1<=z/\z<=2)(kV:bQ W Hh ks=true)(bl:fk ks xs)(hB:bM tu le sl ra=true)(T:TickP W Hh xs tu le sl ra x y h e)(kS:cw Q1=true)(kc:∃b∈Q1,InP b e.x e.y e.h):
  0<(bT W Hh ks Q1 e.sc ra 32).length/\∃oo,lnO W Hh ks (cpL (bT W Hh ks Q1 e.sc ra 32)) e.sc ra=some oo/\0<oo.length/\RndP W Hh xs oo (cpL (bT W Hh ks Q1 e.sc ra 32)) e.x e.y e.h/\rcvB (cpL (bT W Hh ks Q1 e.sc ra 32)) e.x e.y e.h=true:=by
 have hBi:=hB
 simp only[bM,Bool.and_eq_true,aZ] at hBi
 obtain⟨hV,⟨hx,hy⟩,hh⟩:=oH T.goo
 have hv:=bo.1 hV
 obtain⟨r1,r2,oo,r3,r4⟩:=lost_step hV hnz bl hx hy hh (by omega) T.scn T.pla kS kc
 have hk:=bo.1 kV
 have hov:=ln_v kV r3
 have hok:=(jG (xs:=ks) (s:=e.sc) (g:=ra) ⟨hv.w0,hv.w1⟩ ⟨hv.h0,hv.h1⟩ (Q1.length+2*32) Q1 32 [] rfl (bN.1 kS).2 (fun b hb=>by cases hb)).1
 have hcp:=cpL_ok r1 hok
 have ho0:0<oo.length:=by
  have:=((bo.1 hov.1).idx (show inB W Hh 0 0=true from dD.2 (by have:=hv.w0;have:=hv.h0;omega))).2.2.2.2.1
  omega
 exact⟨r1,oo,r3,ho0,⟨hov.1,r4,hcp.1,hcp.2,nr_ref hv.w1 hv.h1 r1,r2⟩,rcv_in hcp.1 hh r2⟩
theorem run_evl {W Hh:Int}{xs:List Int}{tu le sl ra ax ay ah:Int}{n:Nat}{es:List Ev}(h:RunP W Hh xs tu le sl ra ax ay ah es):RunP W Hh xs tu le sl ra ax ay ah (evl n es):=fun i hi=>by
 rw[eM] at hi
 have k:=h i hi
 have g:=evl_G (n:=n) hi
 have z:∀j:Nat,j<=es.length->pzX ax (evl n es) j=pzX ax es j/\pzY ay (evl n es) j=pzY ay es j/\pzH ah (evl n es) j=pzH ah es j:=fun j hj=>by
  cases j with
  |zero=>exact⟨rfl,rfl,rfl⟩
  | succ j =>
   have:=evl_G (n:=n) (es:=es) (i:=j) (by omega)
   refine⟨?_,?_,?_⟩<;>simp only[pzX,pzY,pzH,this]
 obtain⟨z1,z2,z3⟩:=z i (by omega)
 rw[z1,z2,z3,g]
 exact⟨k.cmd,k.scn,k.pla,k.wth,k.goo⟩
theorem psl_evl {n:Nat}{es:List Ev}:psl (evl n es)=psl es:=by
 unfold psl
 refine List.ext_getElem? fun i=>?_
 rw[List.getElem?_map,List.getElem?_map]
 rcases Nat.lt_or_ge i es.length with h|h
 ·rw[mO h,List.getElem?_eq_getElem h];rfl
 rw[List.getElem?_eq_none (by rw[eM];exact h),List.getElem?_eq_none h]
theorem psl_g {es:List Ev}{i:Nat}(h:i<es.length):g31 (psl es) i=(evG es i).x/\g32 (psl es) i=(evG es i).y/\g33 (psl es) i=(evG es i).h:=by
 have e:(psl es).getD i (0,0,0)=((evG es i).x,(evG es i).y,(evG es i).h):=by
  unfold psl
  rw[List.getD_eq_getElem?_getD,List.getElem?_map,List.getElem?_eq_getElem h,evG_eq h];rfl
 exact⟨congrArg (fun p:T3=>p.1) e,congrArg (fun p:T3=>p.2.1) e,congrArg (fun p:T3=>p.2.2) e⟩
theorem rnd_0 {W Hh:Int}{xs:List Int}{ax ay ah:Int}{m:Nat}(hm:m<24)(hG:dN W Hh xs ax ay ah=true):RndP W Hh xs (stP xs m) [sbX ax ay ah m] ax ay ah:=by
 obtain⟨hV,⟨hx,hy⟩,hh⟩:=oH hG
 have hv:=bo.1 hV
 have:=hv.w1
 have:=hv.h1
 obtain⟨s1,s2,s3⟩:=sb_ok (ax:=ax) (ay:=ay) (ah:=ah) hm (by omega) (by omega) hh
 refine⟨bel_vld (stP_bel xs m) hV,stP_bel xs m,bN.2 ⟨by simp,fun b hb=>?_⟩,by simp,fun b hb=>?_,_,List.mem_singleton.2 rfl,s2⟩
 ·rw[List.mem_singleton.1 hb];exact s1
 rw[List.mem_singleton.1 hb];exact s3
theorem lst_e (H:aa)(W Hh:Int)(pp:AV)(xs:List Int)(ax ay ah n:Int)(ks:List Int)(x0 y0 x1 y1 f c:Int)(hk:stP xs (n%24).toNat=ks)(hb:sbX ax ay ah (n%24).toNat=(x0,y0,x1,y1,f,c))(hpp:zI H pp xs)(hx6:xs.length<=64)(hbx : -2097152<=ax/\ax<=2097152)(hby : -2097152<=ay/\ay<=2097152)(hbh:0<=ah/\ah<=255):zC 9 [.agg [.int .i64 W,.int .i64 Hh,pp],.agg [.int .i64 ax,.int .i64 ay,.int .i64 ah],.int .i64 n] H (.tup [.agg [.int .i64 W,.int .i64 Hh,.sl (some (H.length,0)) ks.length none],.agg [.int .i64 x0,.int .i64 y0,.int .i64 x1,.int .i64 y1,.int .i64 f,.int .i64 c]]) (H++[.cells true 1 (ints .u8 ks)]):=by
 subst hk
 have:=lstart_c H W Hh pp xs ax ay ah n hpp hx6 hbx hby hbh
 rwa [hb] at this
theorem lmv_w (H:aa)(W Hh:Int)(pp:AV)(xs:List Int)(s:AV)(l:List T6)(tu le sl ra:Int)(bz:Nat)(t g:Int)(still:Bool)(Q1:List T6)(hQ1:imS l t (stF still g) tu le sl l.length=Q1)(hpp:zI H pp xs)(hs:Sl H 6 s l.length (r6 l))(hz:H[bz]? = some (.cells true 0 [.int .i64 W,.int .i64 Hh,pp,s,.int .i64 tu,.int .i64 le,.int .i64 sl,.int .i64 ra,.bool false]))(hS:cw l=true)(hl0:0<l.length)(hC:cM t g=true)(hB:bM tu le sl ra=true)(hA:imA l t (stF still g) tu le sl=true):
  zC 11 [.ptr (some (bz,0)),.agg [.int .i64 t,.int .i64 g],.bool still] H (.int .i64 0) (H.set bz (.cells true 0 [.int .i64 W,.int .i64 Hh,pp,.sl (some (H.length,0)) Q1.length none,.int .i64 tu,.int .i64 le,.int .i64 sl,.int .i64 ra,.bool false])++[.cells true 6 (r6 Q1)]):=by
 subst hQ1
 exact lmv_y H W Hh pp xs s l tu le sl ra bz t g still hpp hs hz hS hl0 hC hB hA
theorem lse_w (H:aa)(W Hh:Int)(pp:AV)(xs:List Int)(s:AV)(l:List T6)(tu le sl ra:Int)(bz:Nat)(q:AV)(sc:List (Int×Int))(Q2:List T6)(hQ2:cpL (bT W Hh xs l sc ra 32)=Q2)(hpp:zI H pp xs)(hs:Sl H 6 s l.length (r6 l))(hz:H[bz]? = some (.cells true 0 [.int .i64 W,.int .i64 Hh,pp,s,.int .i64 tu,.int .i64 le,.int .i64 sl,.int .i64 ra,.bool false]))(hq:SlP H q sc)(hV:bQ W Hh xs=true)(hS:cw l=true)(hl0:0<l.length)(hsB:di sc=true)(hg:1<=ra/\ra<=32)(hR0:0<(bT W Hh xs l sc ra 32).length)(o:List Int)(ho:lnO W Hh xs Q2 sc ra=some o)(ho0:0<o.length):
  zC 14 [.ptr (some (bz,0)),q] H (.int .i64 0) (H.set bz (.cells true 0 [.int .i64 W,.int .i64 Hh,.sl (some (H.length,0)) o.length none,.sl (some (H.length+1,0)) Q2.length none,.int .i64 tu,.int .i64 le,.int .i64 sl,.int .i64 ra,.bool false])++[.cells true 1 (ints .u8 o),.cells true 6 (r6 Q2)]):=by
 subst hQ2
 exact lse_y H W Hh pp xs s l tu le sl ra bz q sc hpp hs hz hq hV hS hl0 hsB hg hR0 o ho ho0
theorem rcv_t (H:aa)(s:AV)(l:List T6)(px py ph:Int)(h:rcvB l px py ph=true)(hs:Sl H 6 s l.length (r6 l))(hl:l.length<=1000000000):zC 12 [s,.agg [.int .i64 px,.int .i64 py,.int .i64 ph]] H (.bool true) H:=by
 have:=rcov_c H s l px py ph hs hl
 rwa [h] at this
theorem rem_n2 (a:Nat):Int.tmod (a:Int) 2=((a%2:Nat):Int):=rfl
theorem rem_n4 (a:Nat):Int.tmod (a:Int) 4=((a%4:Nat):Int):=rfl
theorem bel25_c (H:aa)(W Hh:Int)(kk:AV)(ks:List Int)(W2 H2:Int)(oo:AV)(os:List Int)(hkk:zI H kk ks)(hoo:zI H oo os)(he1:W=W2)(he2:Hh=H2)(hk:kpP ks os)(hx:ks.length<=1000000):zC 16 [.agg [iV W,iV Hh,kk],.agg [iV W2,iV H2,oo]] H (.bool true) H:=by
 obtain⟨bkk,okk,ckk,rfl,hbkk,hblkk,hb0kk⟩:=zA1 hkk
 obtain⟨boo,ooo,coo,rfl,hboo,hbloo,hb0oo⟩:=zA1 hoo
 have hba:(W != W2)=false:=by rw[he1];simp
 have hbb:(Hh != H2)=false:=by rw[he2];simp
 have hkl:=hk.1
 refine AcT true func16 ?_;intro hbel Q hQ
 have G2:=jn @hbkk (jn @hb0kk (jn @hboo (jn @hb0oo (jn @hba @hbb))))
 refine rcs G2 (fun h1 h1d _=>?_) (fun h1 h1d _=>?_)
 ·have h1n:=bnT h1
  omega
 have h1n:=bnT h1
 have G3:=jn h1 (jn h1n (jn @aP (jn @aO G2)))
 refine ae G3 ?_
 refine glp (fun k F Hx=>∃i:Nat,i+k=os.length/\F=[(2,.ptr (some (H.length,0))),(3,.ptr (some (H.length+1,0))),(5,iV (i:Int))]/\Hx=H++[.cells true 0 [iV W,iV Hh,.sl (some (bkk,0)) ks.length ckk],.cells true 0 [iV W2,iV H2,.sl (some (boo,0)) os.length coo]]) (os.length) ?_ ?_
 ·refine⟨_,_,_,⟨0,by omega,rfl,rfl⟩,bS hbel [0,1] aJ⟩
 rintro k0 F Hx ⟨i,hm0,rfl,rfl⟩ J0 hJ0
 refine rcs G3 (fun h2 h2d _=>?_) (fun h2 h2d G8=>?_)
 ·have hlt:i<os.length:=by omega
  have q3:=cn (k:=.u8) (xs:=ks) (j:=i) (by omega)
  have G4:=jn h2 (jn h2d (jn q3 G3))
  refine rgs G4 (fun h4 h4d _=>?_) (fun h4 h4d _=>?_)
  ·have h4n:=bnT h4
   have hz:¬gi ks i=0:=by first|exact h4d|simpa using h4d
   have q5:=cn (k:=.u8) (xs:=ks) (j:=i) (by omega)
   have q6:=cn (k:=.u8) (xs:=os) (j:=i) (by omega)
   have G5:=jn h4 (jn h4n (jn q5 (jn q6 G4)))
   refine rcs G5 (fun h7 h7d _=>?_) (fun h7 h7d _=>?_)
   ·have h7n:=bnT h7
    exact absurd (hk.2 i (by omega) hz) (by first|exact h7d|simpa using h7d)
   have h7n:=bnT h7
   have G6:=j2 h7 h7n G5
   refine ae G6 ?_
   refine hJ0 _ _ ⟨k0-1,by omega,_,_,_,⟨i+1,by omega,rfl,rfl⟩,bS hbel [0,1] aJ⟩
  have h4n:=bnT h4
  have G7:=j2 h4 h4n G4
  refine ae G7 ?_
  refine hJ0 _ _ ⟨k0-1,by omega,_,_,_,⟨i+1,by omega,rfl,rfl⟩,bS hbel [0,1] aJ⟩
 exact eR G8 hQ hbel (.bool true) results16 ⟨rfl,rfl⟩
theorem lcl_n (H:aa): zC 26 [.ptr none] H (.ptr none) H:=by
 (refine bh func26 _ rfl (Nat.le_of_ble_eq_true (by kernel_rfl)) rfl ?_;intro hbel Q hQ hQ' c hc;unfold Tryz.f26 at hc;simp only[Option.some.injEq] at hc;subst hc;clear hQ')
 refine zQF hQ fun Q1 hn1 hQ1 he1=>?_
 have G9:=jn @Option.isNone_none.{0} trivial
 refine ae G9 ?_
 refine hn1 _ _ (zQF hQ fun Q2 hn2 hQ2 he2=>?_)
 exact eS G9 hQ2 hbel (.ptr none) results26 ⟨rfl,rfl⟩
theorem lls_n (H:aa): zC 15 [.ptr none] H (.bool false) H:=by
 refine AcT true func15 ?_;intro hbel Q hQ
 have G10:=jn @Option.isNone_none.{0} trivial
 exact eS G10 hQ hbel (.bool false) results15 ⟨rfl,rfl⟩
theorem lst_n (H:aa): zC 13 [.ptr none] H (.sl none 0 (some 0)) H:=by
 refine AcT true func13 ?_;intro hbel Q hQ
 have G11:=jn @Option.isNone_none.{0} trivial
 exact eS G11 hQ hbel (.sl none 0 (some 0)) results13 ⟨rfl,rfl⟩
theorem lvl_n (H:aa): zC 27 [.ptr none] H (iV 0) H:=by
 refine AcT true func27 ?_;intro hbel Q hQ
 have G12:=jn @Option.isNone_none.{0} trivial
 refine ae G12 ?_
 refine cvr G12 (lst_n _) ?_
 refine glp (fun k F Hx=>∃z:Unit,k=0/\F=[(3,iV 0),(7,.sl none 0 (some 0)),(8,iV 0),(9,iV 0)]/\H=Hx) (0) ?_ ?_
 ·refine⟨_,_,_,⟨(),by omega,rfl,rfl⟩,Abs.by0 hbel ?_⟩
  exact aJ
 rintro k0 F Hx ⟨z,hm0,rfl,rfl⟩ J0 hJ0
 exact eS G12 hQ hbel (iV 0) results27 ⟨rfl,rfl⟩
theorem lse_n (H:aa): zC 14 [.ptr none,.sl none 0 (some 0)] H (iV 1) H:=by
 (refine bh func14 _ rfl (Nat.le_of_ble_eq_true (by kernel_rfl)) rfl ?_;intro hbel Q hQ hQ' c hc;unfold Tryz.f14 at hc;simp only[Option.some.injEq] at hc;subst hc;clear hQ')
 refine zQT hQ fun Q3 hn3 hQ3 he3=>?_
 have G13:=jn @Option.isNone_none.{0} trivial
 refine ae G13 ?_
 refine hn3 _ _ (zQT hQ fun Q4 hn4 hQ4 he4=>?_)
 exact eS G13 hQ4 hbel (iV 1) results14 ⟨rfl,rfl⟩
theorem lb_mv (H:aa)(pp s:AV)(bz:Nat)(hpp:Sl H 1 pp 4 (ints .u8 [1,1,1,2]))(hs:Sl H 6 s laL.length (r6 laL))(hz:H[bz]? = some (.cells true 0 [iV 4,iV 1,pp,s,iV 0,iV 0,iV 0,iV 4,.bool false])):zC 11 [.ptr (some (bz,0)),.agg [iV 0,iV 10],.bool false] H (iV 0) (H.set bz (.cells true 0 [iV 4,iV 1,pp,.sl (some (H.length,0)) laM.length none,iV 0,iV 0,iV 0,iV 4,.bool false])++[.cells true 6 (r6 laM)]):=by
 have k:=lmv_y H 4 1 pp [1,1,1,2] s laL 0 0 0 4 bz 0 10 false hpp hs hz la_s2 (by decide) lb_c1 la_b lb_im
 rw[lb_is] at k
 exact k
theorem lb_see (H:aa)(pp s q:AV)(bz:Nat)(hpp:Sl H 1 pp 4 (ints .u8 [1,1,1,2]))(hs:Sl H 6 s laM.length (r6 laM))(hz:H[bz]? = some (.cells true 0 [iV 4,iV 1,pp,s,iV 0,iV 0,iV 0,iV 4,.bool false]))(hq:Sl H 2 q 1 (prs [(0,3)])):zC 14 [.ptr (some (bz,0)),q] H (iV 12) (H.set bz (.cells true 0 [iV 4,iV 1,pp,s,iV 0,iV 0,iV 0,iV 4,.bool true])) :=
 lse_e H 4 1 pp [1,1,1,2] s laM 0 0 0 4 bz q [(0,3)] hpp hs hz hq la_v2 lb_s (by decide) la_c2 (by decide) (by rw[lb_r];rfl)
theorem lb_mv2 (H:aa)(pp s:AV)(bz:Nat)(hpp:Sl H 1 pp 4 (ints .u8 [1,1,1,2]))(hs:Sl H 6 s laM.length (r6 laM))(hz:∃o,H[bz]? = some (.cells o 0 [iV 4,iV 1,pp,s,iV 0,iV 0,iV 0,iV 4,.bool true])):zC 11 [.ptr (some (bz,0)),.agg [iV 0,iV 0],.bool false] H (iV 9) H :=
 lmv_s H 4 1 pp [1,1,1,2] s laM 0 0 0 4 bz 0 0 false hpp hs hz lb_c2
theorem lb_box (H:aa)(pp s:AV)(bz:Nat)(hpp:Sl H 1 pp 4 (ints .u8 [1,1,1,2]))(hs:Sl H 6 s laM.length (r6 laM))(hz:∃o,H[bz]? = some (.cells o 0 [iV 4,iV 1,pp,s,iV 0,iV 0,iV 0,iV 4,.bool false])):zC 29 [.ptr (some (bz,0))] H (.tup [.agg [iV 42,iV 32,iV 50,iV 32,iV 0,iV 1],.bool true]) H:=by
 have k:=lbox_c H 4 1 pp [1,1,1,2] s laM 0 0 0 4 false bz hpp hs hz lb_s (by decide)
 rw[lb_h] at k
 exact k
theorem lb_res (H:aa)(pp s q:AV)(bz:Nat)(hpp:Sl H 1 pp 4 (ints .u8 [1,1,1,2]))(hs:Sl H 6 s laM.length (r6 laM))(hz:H[bz]? = some (.cells true 0 [iV 4,iV 1,pp,s,iV 0,iV 0,iV 0,iV 4,.bool true]))(hq:Sl H 6 q 1 (r6 [(100,32,100,32,0,1)])):zC 30 [.ptr (some (bz,0)),q] H (iV 0) (H.set bz (.cells true 0 [iV 4,iV 1,pp,.sl (some (H.length,0)) 1 none,iV 0,iV 0,iV 0,iV 4,.bool false])++[.cells true 6 (r6 [(100,32,100,32,0,1)])]) :=
 lrs_y H 4 1 pp [1,1,1,2] s laM 0 0 0 4 true bz q [(100,32,100,32,0,1)] hpp hs hz hq lb_m
theorem lb_vol (H:aa)(pp s:AV)(bz:Nat)(hpp:Sl H 1 pp 4 (ints .u8 [1,1,1,2]))(hs:Sl H 6 s 1 (r6 [(100,32,100,32,0,1)]))(hz:∃o,H[bz]? = some (.cells o 0 [iV 4,iV 1,pp,s,iV 0,iV 0,iV 0,iV 4,.bool false])):zC 27 [.ptr (some (bz,0))] H (iV 1) H:=by
 have k:=lvol_c H 4 1 pp [1,1,1,2] s [(100,32,100,32,0,1)] 0 0 0 4 false bz hpp hs hz (by decide) (by decide)
 rw[lb_v] at k
 exact k
theorem lb_set (H:aa)(pp s:AV)(bz:Nat)(hpp:Sl H 1 pp 4 (ints .u8 [1,1,1,2]))(hs:Sl H 6 s 1 (r6 [(100,32,100,32,0,1)]))(hz:∃o,H[bz]? = some (.cells o 0 [iV 4,iV 1,pp,s,iV 0,iV 0,iV 0,iV 4,.bool false])):zC 13 [.ptr (some (bz,0))] H (.sl (some (H.length,0)) 1 none) (H++[.cells true 6 (r6 [(100,32,100,32,0,1)])]) :=
 ot H 4 1 pp [1,1,1,2] s [(100,32,100,32,0,1)] 0 0 0 4 false bz hpp hs hz (by decide) (by decide)
set_option maxHeartbeats 4000000 in
set_option maxRecDepth 100000 in
theorem kaw_c (H:aa): zC 5 [] H (.bool true) H:=by
 refine AcT false func5 ?_;intro hbel Q hQ
 simp -implicitDefEqProofs (maxSteps:=2000000) (disch:=omega) only [bV,List.length_replicate,Option.isNone_some.{0},Option.isNone_none.{0},Nat.add_assoc,bI,bB,bC,bJ,simprocAttr,aD,aE,Function.comp_apply,one1,lenV,ai,ar,au,aop,AV.ofValue,AV.ofCell,AV.cells,AV.flat,AV.one,arep,aN,aA]
 repeat refine And.intro (by omega) ?_
 refine cv (lnew_y _ 4 1 _ [0,0,0,0] _ [(32,32,40,32,0,1)] 0 0 0 4 ⟨_,_,_,by rfl,by (rw[dV];rfl)⟩ ⟨_,_,_,by rfl,by (rw[aK];rfl)⟩ la_v la_l la_b) ?_
 simp -implicitDefEqProofs (maxSteps:=2000000) (disch:=omega) only [bV,List.length_replicate,Option.isNone_some.{0},Option.isNone_none.{0},Nat.add_assoc,bI,bB,bC,bJ,simprocAttr,aD,aE,Function.comp_apply,one1,lenV,ai,ar,au,aop,AV.ofValue,AV.ofCell,AV.cells,AV.flat,AV.one,arep,aN,aA]
 repeat refine And.intro (by omega) ?_
 refine cv (lcl_n _) ?_
 simp -implicitDefEqProofs (maxSteps:=2000000) (disch:=omega) only [bV,List.length_replicate,Option.isNone_some.{0},Option.isNone_none.{0},Nat.add_assoc,bI,bB,bC,bJ,simprocAttr,aD,aE,Function.comp_apply,one1,lenV,ai,ar,au,aop,AV.ofValue,AV.ofCell,AV.cells,AV.flat,AV.one,arep,aN,aA]
 repeat refine And.intro (by omega) ?_
 refine cv (lls_n _) ?_
 simp -implicitDefEqProofs (maxSteps:=2000000) (disch:=omega) only [bV,List.length_replicate,Option.isNone_some.{0},Option.isNone_none.{0},Nat.add_assoc,bI,bB,bC,bJ,simprocAttr,aD,aE,Function.comp_apply,one1,lenV,ai,ar,au,aop,AV.ofValue,AV.ofCell,AV.cells,AV.flat,AV.one,arep,aN,aA]
 repeat refine And.intro (by omega) ?_
 refine cv (lvl_n _) ?_
 simp -implicitDefEqProofs (maxSteps:=2000000) (disch:=omega) only [bV,List.length_replicate,Option.isNone_some.{0},Option.isNone_none.{0},Nat.add_assoc,bI,bB,bC,bJ,simprocAttr,aD,aE,Function.comp_apply,one1,lenV,ai,ar,au,aop,AV.ofValue,AV.ofCell,AV.cells,AV.flat,AV.one,arep,aN,aA]
 repeat refine And.intro (by omega) ?_
 refine cv (lse_n _) ?_
 simp -implicitDefEqProofs (maxSteps:=2000000) (disch:=omega) only [bV,List.length_replicate,Option.isNone_some.{0},Option.isNone_none.{0},Nat.add_assoc,bI,bB,bC,bJ,simprocAttr,aD,aE,Function.comp_apply,one1,lenV,ai,ar,au,aop,AV.ofValue,AV.ofCell,AV.cells,AV.flat,AV.one,arep,aN,aA]
 repeat refine And.intro (by omega) ?_
 refine cv (la_see1 _ (.sl (some (H.length+3,0)) 4 none) (.sl (some (H.length+4,0)) 1 none) _ _ ⟨_,_,_,by rfl,by (rw[aK];rfl)⟩ ⟨_,_,_,by rfl,by (rw[aK];rfl)⟩ (by (rw[aK];rfl)) ⟨_,_,_,by rfl,by (rw[aK];rfl)⟩) ?_
 simp -implicitDefEqProofs (maxSteps:=2000000) (disch:=omega) only [bV,List.length_replicate,Option.isNone_some.{0},Option.isNone_none.{0},Nat.add_assoc,bI,bB,bC,bJ,simprocAttr,aD,aE,Function.comp_apply,one1,lenV,ai,ar,au,aop,AV.ofValue,AV.ofCell,AV.cells,AV.flat,AV.one,arep,aN,aA]
 repeat refine And.intro (by omega) ?_
 refine cv (lplan_c _ 4 1 (.sl (some (H.length+7,0)) 4 none) [1,1,1,2] (.sl (some (H.length+8,0)) laL.length none) laL 0 0 0 4 false _ ⟨_,_,_,by rfl,by (rw[aK];rfl)⟩ ⟨_,_,_,by rfl,by (rw[aK];rfl)⟩ ⟨_,by (rw[aK];rfl)⟩ (by decide) (by decide)) ?_
 simp -implicitDefEqProofs (maxSteps:=2000000) (disch:=omega) only [bV,List.length_replicate,Option.isNone_some.{0},Option.isNone_none.{0},Nat.add_assoc,bI,bB,bC,bJ,simprocAttr,aD,aE,Function.comp_apply,one1,lenV,ai,ar,au,aop,AV.ofValue,AV.ofCell,AV.cells,AV.flat,AV.one,arep,aN,aA]
 repeat refine And.intro (by omega) ?_
 refine cv (plans2_c _ 4 1 4 1 [1,1,1,2] [1,1,1,2] _ _ ⟨_,_,_,by rfl,by (rw[aK];rfl)⟩ ⟨_,_,_,by rfl,by (rw[aK];rfl)⟩ (by rfl) (by rfl) (by rfl)) ?_
 simp -implicitDefEqProofs (maxSteps:=2000000) (disch:=omega) only [bV,List.length_replicate,Option.isNone_some.{0},Option.isNone_none.{0},Nat.add_assoc,bI,bB,bC,bJ,simprocAttr,aD,aE,Function.comp_apply,one1,lenV,ai,ar,au,aop,AV.ofValue,AV.ofCell,AV.cells,AV.flat,AV.one,arep,aN,aA]
 repeat refine And.intro (by omega) ?_
 refine cv (la_volc _ (.sl (some (H.length+7,0)) 4 none) (.sl (some (H.length+8,0)) laL.length none) _ ⟨_,_,_,by rfl,by (rw[aK];rfl)⟩ ⟨_,_,_,by rfl,by (rw[aK];rfl)⟩ ⟨_,by (rw[aK];rfl)⟩) ?_
 simp -implicitDefEqProofs (maxSteps:=2000000) (disch:=omega) only [bV,List.length_replicate,Option.isNone_some.{0},Option.isNone_none.{0},Nat.add_assoc,bI,bB,bC,bJ,simprocAttr,aD,aE,Function.comp_apply,one1,lenV,ai,ar,au,aop,AV.ofValue,AV.ofCell,AV.cells,AV.flat,AV.one,arep,aN,aA]
 repeat refine And.intro (by omega) ?_
 refine cv (mK _ 4 1 (.sl (some (H.length+7,0)) 4 none) [1,1,1,2] (.sl (some (H.length+8,0)) laL.length none) laL 0 0 0 4 false _ ⟨_,_,_,by rfl,by (rw[aK];rfl)⟩ ⟨_,_,_,by rfl,by (rw[aK];rfl)⟩ ⟨_,by (rw[aK];rfl)⟩) ?_
 simp -implicitDefEqProofs (maxSteps:=2000000) (disch:=omega) only [bV,List.length_replicate,Option.isNone_some.{0},Option.isNone_none.{0},Nat.add_assoc,bI,bB,bC,bJ,simprocAttr,aD,aE,Function.comp_apply,one1,lenV,ai,ar,au,aop,AV.ofValue,AV.ofCell,AV.cells,AV.flat,AV.one,arep,aN,aA]
 repeat refine And.intro (by omega) ?_
 refine cv (lb_mv _ (.sl (some (H.length+7,0)) 4 none) (.sl (some (H.length+8,0)) laL.length none) _ ⟨_,_,_,by rfl,by (rw[aK];rfl)⟩ ⟨_,_,_,by rfl,by (rw[aK];rfl)⟩ (by (rw[aK];rfl))) ?_
 simp -implicitDefEqProofs (maxSteps:=2000000) (disch:=omega) only [bV,List.length_replicate,Option.isNone_some.{0},Option.isNone_none.{0},Nat.add_assoc,bI,bB,bC,bJ,simprocAttr,aD,aE,Function.comp_apply,one1,lenV,ai,ar,au,aop,AV.ofValue,AV.ofCell,AV.cells,AV.flat,AV.one,arep,aN,aA]
 repeat refine And.intro (by omega) ?_
 refine cv (lb_box _ (.sl (some (H.length+7,0)) 4 none) (.sl (some (H.length+11,0)) laM.length none) _ ⟨_,_,_,by rfl,by (rw[aK];rfl)⟩ ⟨_,_,_,by rfl,by (rw[aK];rfl)⟩ ⟨_,by (rw[aK];rfl)⟩) ?_
 simp -implicitDefEqProofs (maxSteps:=2000000) (disch:=omega) only [bV,List.length_replicate,Option.isNone_some.{0},Option.isNone_none.{0},Nat.add_assoc,bI,bB,bC,bJ,simprocAttr,aD,aE,Function.comp_apply,one1,lenV,ai,ar,au,aop,AV.ofValue,AV.ofCell,AV.cells,AV.flat,AV.one,arep,aN,aA]
 repeat refine And.intro (by omega) ?_
 refine cv (lb_see _ (.sl (some (H.length+7,0)) 4 none) (.sl (some (H.length+11,0)) laM.length none) _ _ ⟨_,_,_,by rfl,by (rw[aK];rfl)⟩ ⟨_,_,_,by rfl,by (rw[aK];rfl)⟩ (by (rw[aK];rfl)) ⟨_,_,_,by rfl,by (rw[aK];rfl)⟩) ?_
 simp -implicitDefEqProofs (maxSteps:=2000000) (disch:=omega) only [bV,List.length_replicate,Option.isNone_some.{0},Option.isNone_none.{0},Nat.add_assoc,bI,bB,bC,bJ,simprocAttr,aD,aE,Function.comp_apply,one1,lenV,ai,ar,au,aop,AV.ofValue,AV.ofCell,AV.cells,AV.flat,AV.one,arep,aN,aA]
 repeat refine And.intro (by omega) ?_
 refine cv (mK _ 4 1 (.sl (some (H.length+7,0)) 4 none) [1,1,1,2] (.sl (some (H.length+11,0)) laM.length none) laM 0 0 0 4 true _ ⟨_,_,_,by rfl,by (rw[aK];rfl)⟩ ⟨_,_,_,by rfl,by (rw[aK];rfl)⟩ ⟨_,by (rw[aK];rfl)⟩) ?_
 simp -implicitDefEqProofs (maxSteps:=2000000) (disch:=omega) only [bV,List.length_replicate,Option.isNone_some.{0},Option.isNone_none.{0},Nat.add_assoc,bI,bB,bC,bJ,simprocAttr,aD,aE,Function.comp_apply,one1,lenV,ai,ar,au,aop,AV.ofValue,AV.ofCell,AV.cells,AV.flat,AV.one,arep,aN,aA]
 repeat refine And.intro (by omega) ?_
 refine cv (lb_mv2 _ (.sl (some (H.length+7,0)) 4 none) (.sl (some (H.length+11,0)) laM.length none) _ ⟨_,_,_,by rfl,by (rw[aK];rfl)⟩ ⟨_,_,_,by rfl,by (rw[aK];rfl)⟩ ⟨_,by (rw[aK];rfl)⟩) ?_
 simp -implicitDefEqProofs (maxSteps:=2000000) (disch:=omega) only [bV,List.length_replicate,Option.isNone_some.{0},Option.isNone_none.{0},Nat.add_assoc,bI,bB,bC,bJ,simprocAttr,aD,aE,Function.comp_apply,one1,lenV,ai,ar,au,aop,AV.ofValue,AV.ofCell,AV.cells,AV.flat,AV.one,arep,aN,aA]
 repeat refine And.intro (by omega) ?_
 refine cv (lb_res _ (.sl (some (H.length+7,0)) 4 none) (.sl (some (H.length+11,0)) laM.length none) _ _ ⟨_,_,_,by rfl,by (rw[aK];rfl)⟩ ⟨_,_,_,by rfl,by (rw[aK];rfl)⟩ (by (rw[aK];rfl)) ⟨_,_,_,by rfl,by (rw[aK];rfl)⟩) ?_
 simp -implicitDefEqProofs (maxSteps:=2000000) (disch:=omega) only [bV,List.length_replicate,Option.isNone_some.{0},Option.isNone_none.{0},Nat.add_assoc,bI,bB,bC,bJ,simprocAttr,aD,aE,Function.comp_apply,one1,lenV,ai,ar,au,aop,AV.ofValue,AV.ofCell,AV.cells,AV.flat,AV.one,arep,aN,aA]
 repeat refine And.intro (by omega) ?_
 refine cv (lb_vol _ (.sl (some (H.length+7,0)) 4 none) (.sl (some (H.length+15,0)) 1 none) _ ⟨_,_,_,by rfl,by (rw[aK];rfl)⟩ ⟨_,_,_,by rfl,by (rw[aK];rfl)⟩ ⟨_,by (rw[aK];rfl)⟩) ?_
 simp -implicitDefEqProofs (maxSteps:=2000000) (disch:=omega) only [bV,List.length_replicate,Option.isNone_some.{0},Option.isNone_none.{0},Nat.add_assoc,bI,bB,bC,bJ,simprocAttr,aD,aE,Function.comp_apply,one1,lenV,ai,ar,au,aop,AV.ofValue,AV.ofCell,AV.cells,AV.flat,AV.one,arep,aN,aA]
 repeat refine And.intro (by omega) ?_
 refine cv (mK _ 4 1 (.sl (some (H.length+7,0)) 4 none) [1,1,1,2] (.sl (some (H.length+15,0)) 1 none) [(100,32,100,32,0,1)] 0 0 0 4 false _ ⟨_,_,_,by rfl,by (rw[aK];rfl)⟩ ⟨_,_,_,by rfl,by (rw[aK];rfl)⟩ ⟨_,by (rw[aK];rfl)⟩) ?_
 simp -implicitDefEqProofs (maxSteps:=2000000) (disch:=omega) only [bV,List.length_replicate,Option.isNone_some.{0},Option.isNone_none.{0},Nat.add_assoc,bI,bB,bC,bJ,simprocAttr,aD,aE,Function.comp_apply,one1,lenV,ai,ar,au,aop,AV.ofValue,AV.ofCell,AV.cells,AV.flat,AV.one,arep,aN,aA]
 repeat refine And.intro (by omega) ?_
 refine cv (lb_set _ (.sl (some (H.length+7,0)) 4 none) (.sl (some (H.length+15,0)) 1 none) _ ⟨_,_,_,by rfl,by (rw[aK];rfl)⟩ ⟨_,_,_,by rfl,by (rw[aK];rfl)⟩ ⟨_,by (rw[aK];rfl)⟩) ?_
 simp -implicitDefEqProofs (maxSteps:=2000000) (disch:=omega) only [bV,List.length_replicate,Option.isNone_some.{0},Option.isNone_none.{0},Nat.add_assoc,bI,bB,bC,bJ,simprocAttr,aD,aE,Function.comp_apply,one1,lenV,ai,ar,au,aop,AV.ofValue,AV.ofCell,AV.cells,AV.flat,AV.one,arep,aN,aA]
 repeat refine And.intro (by omega) ?_
 exact hQ _ _ (b9 (.inl rfl) hbel (x:=.bool true) (ly results5 (by simp -implicitDefEqProofs (maxSteps:=2000000) (disch:=omega) only [simprocAttr,aD,aE,Function.comp_apply,one1,lenV,ai,ar,au,aop,AV.ofValue,AV.ofCell,AV.cells,AV.flat,AV.one,arep,aN,ap,aA])) rfl ⟨rfl,rfl⟩)
theorem lho_2 (H:aa) (W Hh:Int) (xs:List Int) (ax ay ah tu le sl ra:Int) (evs:List Ev) (hbel:HBel H.length H) (Q:Exit->Fr->aa->Prop) (hQ:∀F H',AEnd prog Tryz.f3 H.length (fun v H'=>v=.bool true/\H'=H) .ret F H'->dH Q F H') (G:aa) (bza bzb bzc bpp bev bps:Nat) (oza ozb ozc opp oev ops:Bool) (cpp cev cps:Option Nat) (hGb:HBel G.length G) (hpre:∃X,G=H++X)
  (hza:G[bza]? = some (.cells oza 0 [iV W,iV Hh,.sl (some (bpp,0)) xs.length cpp])) (hzb:G[bzb]? = some (.cells ozb 0 [iV ax,iV ay,iV ah])) (hzc:G[bzc]? = some (.cells ozc 0 [iV tu,iV le,iV sl,iV ra])) (hpp:G[bpp]? = some (.cells opp 1 (ints .u8 xs))) (hev:G[bev]? = some (.cells oev 5 (e5R evs))) (hps:G[bps]? = some (.cells ops 3 (r3 (psl evs))))
  (hvo:evOk G evs) (hR:RunP W Hh xs tu le sl ra ax ay ah evs) (hn4:evs.length<=4) (hnw:iH W Hh xs tu le sl ra ax ay ah=true) (h0:∀z∈xs,0<=z) (hx49:xs.length<=49) {a0 a1 a2 a3 a4 c:Code} (hb:Tryz.f3.body=some (.seq a0 (.seq a1 (.seq a2 (.seq a3 (.seq a4 c)))))) :
  AW prog Tryz.f3.ntmps H.length c Q [(3,.ptr (some (bza,0))),(4,.ptr (some (bzb,0))),(6,.bool false),(7,.ptr (some (bzc,0))),(8,.sl (some (bev,0)) evs.length cev),(9,.sl (some (bps,0)) (psl evs).length cps)] G:=by
 have hb':Tryz.f3.body=some (.seq _ (.seq _ (.seq _ (.seq _ (.seq _ _))))):=rfl
 have hc:=hb'.symm.trans hb
 simp only[Option.some.injEq,Code.seq.injEq] at hc
 obtain⟨-,-,-,-,-,rfl⟩:=hc
 clear hb hb'
 obtain⟨hBl,hB,hG0,hP,hF⟩:=pj hnw
 obtain⟨hV,⟨hx,hy⟩,hbh⟩:=oH hG0
 have hVV:=bo.1 hV
 have hw0:=hVV.w0
 have hw1:=hVV.w1
 have hh0:=hVV.h0
 have hh1:=hVV.h1
 have hnz:=bld_nz hBl h0
 have hbi:=hB
 simp only[bM,Bool.and_eq_true,aZ] at hbi
 have hg:1<=ra/\ra<=32:=by omega
 have hpl:=lb (es:=evs)
 have hm24:(ay%24).toNat<24:=by omega
 have hRn:=rnd_0 (m:=(ay%24).toNat) hm24 hG0
 obtain⟨ks0,hks⟩:∃k,stP xs (ay%24).toNat=k:=⟨_,rfl⟩
 obtain⟨x0,y0,x1,y1,f0,c0,hsb⟩:∃x0 y0 x1 y1 f c,sbX ax ay ah (ay%24).toNat=(x0,y0,x1,y1,f,c):=⟨_,_,_,_,_,_,rfl⟩
 rw[hks,hsb] at hRn
 have hVk:=hRn.kV
 have hLs:lsB [(x0,y0,x1,y1,f0,c0)]=true:=pf.2 ⟨hRn.l0,hRn.S⟩
 have hx64:xs.length<=64:=by omega
 have hbx : -2097152<=ax/\ax<=2097152:=by omega
 have hby : -2097152<=ay/\ay<=2097152:=by omega
 have h0bel:=hbel
 have hbel_b:=hGb
 have hpre_b:=hpre
 have hle_b:=pre_le hpre_b
 have hbza_b:=hza
 have hblza_b:=getElem?_lt hbza_b
 have hb0za_b:=fun l=>am (l:=l) hbza_b
 have hbzb_b:=hzb
 have hblzb_b:=getElem?_lt hbzb_b
 have hb0zb_b:=fun l=>am (l:=l) hbzb_b
 have hbzc_b:=hzc
 have hblzc_b:=getElem?_lt hbzc_b
 have hb0zc_b:=fun l=>am (l:=l) hbzc_b
 have hbpp_b:=hpp
 have hblpp_b:=getElem?_lt hbpp_b
 have hb0pp_b:=fun l=>am (l:=l) hbpp_b
 have hbev_b:=hev
 have hblev_b:=getElem?_lt hbev_b
 have hb0ev_b:=fun l=>am (l:=l) hbev_b
 have hbps_b:=hps
 have hblps_b:=getElem?_lt hbps_b
 have hb0ps_b:=fun l=>am (l:=l) hbps_b
 refine zQF hQ fun Q1 hn1 hQ1 he1=>?_
 have G1:=jn @hbza_b (jn @hbzb_b (jn @hbzc_b (jn @hbpp_b (jn @hbev_b (jn @hbps_b (jn @hb0za_b (jn @hb0zb_b (jn @hb0zc_b (jn @hb0pp_b (jn @hb0ev_b (jn @hb0ps_b (jn @Nat.add_assoc (jn @Option.isNone_some.{0} @Option.isNone_none.{0})))))))))))))
 refine ae G1 ?_
 refine cvr G1 (lst_e _ W _ _ xs _ _ _ _ ks0 x0 y0 x1 y1 f0 c0 hks hsb (zA2 hb0pp_b hbpp_b) hx64 hbx hby hbh) ?_
 refine hn1 _ _ (zQF hQ fun Q2 hn2 hQ2 he2=>?_)
 refine ae G1 ?_
 refine cvr G1 (lnew_y _ W _ _ ks0 _ [(x0,y0,x1,y1,f0,c0)] _ _ _ _ slA slA (by assumption) (by assumption) (by assumption)) ?_
 refine hn2 _ _ (zQF hQ fun Q3 hn3 hQ3 he3=>?_)
 refine ae G1 ?_
 refine hn3 _ _ (sqR hQ fun Q4 hn4 hQ4 he4=>?_)
 refine zQF hQ4 fun Q5 hn5 hQ5 he5=>?_
 refine ae G1 ?_
 refine hn5 _ _ ?_
 refine bkR hQ4 fun Q6 hn6 hQ6 he6 hb6=>?_
 refine gG (fun k F Hx=>∃i:Nat,∃ks:List Int,∃Q:List T6,i+k=evs.length/\RndP W Hh xs ks Q (pzX ax evs i) (pzY ay evs i) (pzH ah evs i)/\F=[(3,.ptr (some (bza,0))),(8,.sl (some (bev,0)) evs.length cev),(9,.sl (some (bps,0)) ((psl evs).length) cps),(13,.ptr (some (G.length+2,0))),(15,iV (i:Int))]/\Hx=G++[.cells true 1 (ints .u8 ks),.cells true 6 (r6 Q),.cells true 0 [iV W,iV Hh,.sl (some (G.length,0)) ks.length none,.sl (some (G.length+1,0)) Q.length none,iV tu,iV le,iV sl,iV ra,.bool false]]) (evs.length) ?_ ?_
 ·refine⟨_,_,_,⟨0,ks0,[(x0,y0,x1,y1,f0,c0)],by omega,hRn,rfl,rfl⟩,(Abs.byG hbel_b [] rfl [4,5,6] (by decide) ?_).le hle_b⟩
  exact aC (jn @bR (jn @bG (jn @cB @bY)))
 rintro k0 F Hx ⟨i,ks,Q,hm0,hRd,rfl,rfl⟩ Q7 hJ0 hr7 he7
 have hQ7:=fun F H' h=>hr7 F H' (hQ6 F H' h)
 refine zQF hQ7 fun Q8 hn8 hQ8 he8=>?_
 have G2:=jn @co (jn @cV (jn @cN (jn @gt G1)))
 refine rcs G2 (fun h1 h1d G3=>?_) (fun h1 h1d G8=>?_)
 ·have hlt:i<evs.length:=by omega
  obtain⟨bq,oq,cq,hsq,hbq⟩:=hvo.at hlt
  have hblq:=getElem?_lt hbq
  have hb0q:=fun l'=>am (l:=l') hbq
  have hT:=hR i hlt
  have hIA:=hRd.mv hB hT
  obtain⟨Q1,hQ1⟩:∃Q1,imS Q (evG evs i).t (stF (evG evs i).st (evG evs i).g) tu le sl Q.length=Q1:=⟨_,rfl⟩
  obtain⟨hS1,h01,hc1,hv1⟩:=rnd_mv hRd.S hRd.l0 hRd.cv hIA hB hT hQ1
  obtain⟨Q2,hQ2⟩:∃Q2,cpL (bT W Hh ks Q1 (evG evs i).sc ra 32)=Q2:=⟨_,rfl⟩
  obtain⟨hR1,oo,hoo,ho0,hR2,hv2⟩:=rnd_se hnz hRd.kV hRd.bl hB hT hS1 hc1
  rw[hQ2] at hoo hR2 hv2
  obtain⟨hg1,hg2,hg3⟩:=psl_g hlt
  rw[<-hg1,<-hg2,<-hg3] at hv1 hv2
  have hkp:=bel_kp hR2.bl
  have hQ16:=(bN.1 hRd.S).1
  have hS116:=(bN.1 hS1).1
  have hS216:=(bN.1 hR2.S).1
  have hS2:=hR2.S
  have h02:=hR2.l0
  have hkl:=hR2.bl.1
  have hQS:=hRd.S
  have hQ0:=hRd.l0
  have hC:=hT.cmd
  have hkV:=hRd.kV
  have hscB:=hT.scn
  refine ae G3 ?_
  refine hn8 _ _ (sqR hQ7 fun Q9 hn9 hQ9 he9=>?_)
  refine bkR hQ9 fun Q10 hn10 hQ10 he10 hb10=>?_
  refine AW_joinD false try_mixed (by kernel_rfl) (G.length) (by simp) (fun F2 H2=>(True)/\F2=[(3,.ptr (some (bza,0))),(8,.sl (some (bev,0)) evs.length cev),(9,.sl (some (bps,0)) ((psl evs).length) cps),(13,.ptr (some (G.length,0))),(15,iV (i:Int)),(116,.bool false)]/\H2=G++[.cells true 0 [iV W,iV Hh,.sl (some (G.length+1,0)) oo.length none,.sl (some (G.length+2,0)) Q2.length none,iV tu,iV le,iV sl,iV ra,.bool false],.cells true 1 (ints .u8 oo),.cells true 6 (r6 Q2)]) ?_ ?_
  ·intro J hJ
   have q2:=e5R_p1 (l:=evs) (j:=i) (by omega)
   have q3:=e5R_at3 (l:=evs) (j:=i) (by omega)
   have G4:=jn @pg (jn q2 (jn q3 G3))
   refine ae G4 ?_
   refine call_w (by kernel_rfl) (by simp) (fun b h1 h2=>by first|exact qn (by omega) h1 h2|exact oE (by omega) h1) (lmv_w _ W Hh (.sl (some (G.length,0)) ks.length none) ks (.sl (some (G.length+1,0)) Q.length none) Q tu le sl ra _ ((evG evs i).t) ((evG evs i).g) ((evG evs i).st) Q1 hQ1 slA slA hzB (by assumption) (by assumption) (by assumption) (by assumption) (by assumption)) ?_
   refine ae G4 ?_
   refine cx (ot _ W Hh (.sl (some (G.length,0)) ks.length none) ks (.sl (some (G.length+3,0)) Q1.length none) Q1 tu le sl ra false _ slA slA hzA (by omega) (by assumption)) ?_
   have q4:=r3_load (l:=psl evs) (j:=i) (by omega)
   have G5:=jn @oG (jn q4 G4)
   refine ae G5 ?_
   refine cd (rcv_t _ _ Q1 _ _ _ (by assumption) slA (by omega)) ?_
   have q5:=e5R_at4 (l:=evs) (j:=i) (by omega) hsq
   have G6:=jn q5 G5
   refine ae G6 ?_
   refine call_w (by kernel_rfl) (by simp) (fun b h1 h2=>by first|exact qn (by omega) h1 h2|exact oE (by omega) h1) (lse_w _ W Hh (.sl (some (G.length,0)) ks.length none) ks (.sl (some (G.length+3,0)) Q1.length none) Q1 tu le sl ra _ _ ((evG evs i).sc) Q2 hQ2 slA slA hzB (zA2 hb0q hbq) (by assumption) (by assumption) (by assumption) (by assumption) (by assumption) (by assumption) oo hoo ho0) ?_
   refine ae G6 ?_
   refine cx (ot _ W Hh (.sl (some (G.length+5,0)) oo.length none) oo (.sl (some (G.length+6,0)) Q2.length none) Q2 tu le sl ra false _ slA slA hzA (by omega) (by assumption)) ?_
   have q6:=r3_load (l:=psl evs) (j:=i) (by omega)
   have G7:=jn q6 G6
   refine ae G7 ?_
   refine cdr G7 (rcv_t _ _ Q2 _ _ _ (by assumption) slA (by omega)) ?_
   refine cdr G7 (mK _ W Hh (.sl (some (G.length+5,0)) oo.length none) oo (.sl (some (G.length+6,0)) Q2.length none) Q2 tu le sl ra false _ slA slA hzA) ?_
   refine cx (lplan_c _ W Hh (.sl (some (G.length+5,0)) oo.length none) oo (.sl (some (G.length+6,0)) Q2.length none) Q2 tu le sl ra false _ slA slA hzA (by omega) (by omega)) ?_
   refine ae G7 ?_
   refine cdr G7 (bel25_c _ W _ _ oo W _ _ xs slA (zA2 hb0pp_b hbpp_b) rfl rfl (by assumption) (by omega)) ?_
   refine aq (hJ _ _ ⟨_,_,_,⟨trivial,rfl,rfl⟩,(Abs.byG hbel_b [] rfl [2,5,6] (by decide) ?_).le hle_b⟩)
   exact aC (jn @bR (jn @bG (jn @cB @bY)))
  rintro F2 H2 ⟨pz,rfl,rfl⟩
  refine fnF ?_
  refine ae G3 ?_
  refine hn10 _ _ ?_
  refine hn9 _ _ ?_
  refine fnF ?_
  refine ae G3 ?_
  refine hJ0 _ _ ⟨k0-1,by omega,_,_,_,⟨i+1,oo,Q2,by omega,hR2,rfl,rfl⟩,(Abs.byG hbel_b [] rfl [1,2,0] (by decide) ?_).le hle_b⟩
  exact aC (jn @bR (jn @bG (jn @cB @bY)))
 refine ae G8 ?_
 refine he8 _ _ _ ?_
 refine he7 _ _ _ ?_
 refine hb6 _ _ ?_
 refine hn4 _ _ ?_
 refine fnF ?_
 refine ae G8 ?_
 exact hQ _ _ (oF (.inl rfl) hpre_b h0bel (x:=.bool true) (aY results3) rfl ⟨rfl,rfl⟩)
theorem rU {n:Nat}:∀{l:List T3},AV.bels n (r3 l)=true
 |[]=>rfl
 |p::l=>by rw[cm];simp only[AV.bels,AV.bel,rU (l:=l),Bool.true_and]
theorem AW.less0 {P:Program}{N n:Nat}{c:Code}{Q:Exit->Fr->aa->Prop}{F F2:Fr}{H:aa}(h:AW P N n c Q F2 H)(hf:∀t,look F2 t=.any\/look F2 t=look F t):AW P N n c Q F H:=fun E w a h1 h2 h3 h4 h5=>h E w a h1 h2 h3 (fun t=>by
 rcases hf t with q|q
 ·rw[q];exact .any _
 rw[q];exact h4 t) h5
def bdI (n:Int):Nat:=(n%12).toNat
theorem bdI_ok (n:Int):bM (((bdI n%2:Nat):Int)) (((bdI n%3:Nat):Int)) (((bdI n%4:Nat):Int)) (1+((bdI n:Nat):Int))=true:=by
 have h:bdI n<12:=by unfold bdI;omega
 simp only[bM,Bool.and_eq_true,aZ]
 omega
theorem bdi_c (H:aa)(n:Int):zC 7 [iV n] H (.agg [iV ((bdI n%2:Nat):Int),iV ((bdI n%3:Nat):Int),iV ((bdI n%4:Nat):Int),iV (1+((bdI n:Nat):Int))]) H:=by
 refine AcT true func7 ?_;intro hbel Q hQ
 have G1:=jn @rem_n2 (jn @rem_n3 @rem_n4)
 refine ae G1 ?_
 refine cvr G1 (da _ n _ (by omega) (by omega)) ?_
 exact eP hQ hbel (.agg [iV ((((n%12).toNat)%2:Nat):Int),iV ((((n%12).toNat)%3:Nat):Int),iV ((((n%12).toNat)%4:Nat):Int),iV (1+(((n%12).toNat:Nat):Int))]) results7 ⟨rfl,rfl⟩
theorem lho_c (H:aa)(W Hh:Int)(pp:AV)(xs:List Int)(ax ay ah:Int)(ac:AV)(al:List Ac)(hpp:zI H pp xs)(hac:Sl H 8 ac al.length (acR al))(h0:∀z∈xs,0<=z)(hxl:xs.length<=9223372036854775807)(hll:al.length<=9223372036854775807)(hao:acOk H al):zC 3 [.agg [iV W,iV Hh,pp],.agg [iV ax,iV ay,iV ah],ac] H (.bool true) H:=by
 obtain⟨bpp,opp,cpp,rfl,hbpp,hblpp,hb0pp⟩:=zA1 hpp
 obtain⟨bac,oac,cac,rfl,hbac,hblac,hb0ac⟩:=zA1 hac
 obtain⟨tu,le,sl,ra,hcB,hB⟩:∃tu le sl ra:Int,(∀H:aa,zC 7 [iV ax] H (.agg [iV tu,iV le,iV sl,iV ra]) H)/\bM tu le sl ra=true:=⟨_,_,_,_,fun H=>bdi_c H ax,bdI_ok _⟩
 (refine bh func3 _ rfl (Nat.le_of_ble_eq_true (by kernel_rfl)) rfl ?_;intro hbel Q hQ hQ' c hc;unfold Tryz.f3 at hc;simp only[Option.some.injEq] at hc;subst hc;clear hQ')
 refine zQF hQ fun Q1 hn1 hQ1 he1=>?_
 have G2:=jn @hbpp (jn @hb0pp (jn @hbac @hb0ac))
 refine ae G2 ?_
 refine hn1 _ _ (zQF hQ fun Q2 hn2 hQ2 he2=>?_)
 refine ae G2 ?_
 refine cvr G2 (kaw_c _) ?_
 refine cv (lfits_c _ W _ _ xs _ al ⟨_,_,_,rfl,hb0pp _⟩ ⟨_,_,_,rfl,hb0ac _⟩ (hao.app _) (by omega) (by omega)) ?_
 refine rcs G2 (fun h1 h1d G3=>?_) (fun h1 h1d G4=>?_)
 ·refine ae G3 ?_
  refine cvr G3 (kaw_c _) ?_
  exact eP hQ2 hbel (.bool true) results3 ⟨rfl,rfl⟩
 obtain⟨hx49,hal4,hsm⟩:=fac_ok h1d
 refine ae G4 ?_
 refine hn2 _ _ (zQF hQ fun Q3 hn3 hQ3 he3=>?_)
 refine ae G4 ?_
 refine cvr G4 (hcB _) ?_
 refine hn3 _ _ (zQF hQ fun Q4 hn4 hQ4 he4=>?_)
 refine ae G4 ?_
 rcases Bool.eq_false_or_eq_true (iH W Hh xs tu le sl ra ax ay ah) with hr|hr
 ·by_cases hall:∀j:Nat,j<al.length->dr (acG al j).t (acG al j).f (acG al j).mks=true
  ·refine oN (by kernel_rfl) (rrun_y _ _ W Hh _ xs tu le sl ra ax ay ah _ al (by exact⟨_,_,_,rfl,hb0pp _⟩) (by exact⟨_,_,_,rfl,hb0ac _⟩) (by exact hao.app _) (fun j hj=>by have:=hsm j hj;omega) (by omega) hr hall rfl) ?_
   rintro _ _ ⟨X,es,hXb,hX,hel,hRu,hsc,rfl,rfl⟩
   refine ae G4 ?_
   refine hn4 _ _ (zQF hQ fun Q5 hn5 hQ5 he5=>?_)
   refine ae G4 ?_
   refine hn5 _ _ ?_
   have hN:(H++[ABlk.cells true 0 [iV W,iV Hh,.sl (some (bpp,0)) xs.length cpp],ABlk.cells true 0 [iV ax,iV ay,iV ah],ABlk.cells true 0 [iV tu,iV le,iV sl,iV ra]]).length=H.length+3:=by simp
   have hXl:X.length=es.length:=by rw[hX,List.length_map]
   have hv:=evl_ok (H:=H++[ABlk.cells true 0 [iV W,iV Hh,.sl (some (bpp,0)) xs.length cpp],ABlk.cells true 0 [iV ax,iV ay,iV ah],ABlk.cells true 0 [iV tu,iV le,iV sl,iV ra]]) (K:=[ABlk.cells (aQ es.length) 5 (e5R (evl (H.length+3) es)),ABlk.cells (aQ (psl es).length) 3 (r3 (psl es))]) (es:=es) hsc
   rw[<-hX,hN,List.append_assoc] at hv
   rw[List.length_append,hN] at hXb
   refine AW.less0 (lho_2 H W Hh xs ax ay ah tu le sl ra (evl (H.length+3) es) hbel Q hQ _ H.length (H.length+1) (H.length+2) bpp (H.length+(X.length+1+1+1)) (H.length+(X.length+1+1+1)+1) true true true opp (aQ es.length) (aQ (psl es).length) cpp (aW es.length) (aW (psl es).length) ?_ ⟨_,rfl⟩ ?_ ?_ ?_ ?_ ?_ ?_ hv (run_evl hRu) (by rw[eM];omega) hr h0 hx49 (hb:=rfl)) ?_
   ·refine lZ rfl hbel fun x hx=>?_
    have hm:H.length+3+X.length<=(H++([ABlk.cells true 0 [iV W,iV Hh,.sl (some (bpp,0)) xs.length cpp],ABlk.cells true 0 [iV ax,iV ay,iV ah],ABlk.cells true 0 [iV tu,iV le,iV sl,iV ra]]++(X++[ABlk.cells (aQ es.length) 5 (e5R (evl (H.length+3) es)),ABlk.cells (aQ (psl es).length) 3 (r3 (psl es))]))).length:=by simp only[List.length_append,List.length_cons,List.length_nil];omega
    simp only[List.mem_cons,List.mem_append,List.not_mem_nil,or_false] at hx
    rcases hx with (rfl|rfl|rfl)|hx|rfl|rfl
    ·have:bpp<_:=Nat.lt_of_lt_of_le hblpp (Nat.le_trans (by omega) hm)
     simp only[ABlk.bel,AV.bels,AV.bel,Bool.and_true,Bool.true_and,decide_eq_true_eq]
     exact this
    ·rfl
    ·rfl
    ·exact ABlk.bel_up hm (hXb x hx)
    ·exact rR (by omega)
    exact rU
   ·rw[List.getElem?_append_right (Nat.le_refl _),Nat.sub_self];rfl
   ·rw[List.getElem?_append_right (by omega),Nat.add_sub_cancel_left];rfl
   ·rw[List.getElem?_append_right (by omega),Nat.add_sub_cancel_left];rfl
   ·exact hb0pp _
   ·rw[List.getElem?_append_right (by omega),Nat.add_sub_cancel_left]
    simp only[List.cons_append,List.nil_append,List.getElem?_cons_succ]
    rw[List.getElem?_append_right (Nat.le_refl _),Nat.sub_self];rfl
   ·rw[Nat.add_assoc,List.getElem?_append_right (by omega),Nat.add_sub_cancel_left]
    simp only[List.cons_append,List.nil_append,List.getElem?_cons_succ]
    rw[List.getElem?_append_right (by omega),Nat.add_sub_cancel_left,psl_evl];rfl
   intro t
   rw[eM,psl_evl]
   by_cases h3:t=3
   ·subst h3;exact .inr rfl
   by_cases h4:t=4
   ·subst h4;exact .inr rfl
   by_cases h6:t=6
   ·subst h6;exact .inr rfl
   by_cases h7:t=7
   ·subst h7;exact .inr rfl
   by_cases h8:t=8
   ·subst h8;exact .inr rfl
   by_cases h9:t=9
   ·subst h9;exact .inr rfl
   left
   have e3:((3:Nat)==t)=false:=beq_eq_false_iff_ne.2 (Ne.symm h3)
   have e4:((4:Nat)==t)=false:=beq_eq_false_iff_ne.2 (Ne.symm h4)
   have e6:((6:Nat)==t)=false:=beq_eq_false_iff_ne.2 (Ne.symm h6)
   have e7:((7:Nat)==t)=false:=beq_eq_false_iff_ne.2 (Ne.symm h7)
   have e8:((8:Nat)==t)=false:=beq_eq_false_iff_ne.2 (Ne.symm h8)
   have e9:((9:Nat)==t)=false:=beq_eq_false_iff_ne.2 (Ne.symm h9)
   simp only[look,e3,e4,e6,e7,e8,e9,cond_false]
  refine cvr G4 (rrun_n _ _ W _ _ xs _ _ _ _ _ _ _ _ al (by exact⟨_,_,_,rfl,hb0pp _⟩) (by exact⟨_,_,_,rfl,hb0ac _⟩) (by exact hao.app _) (fun j hj=>by have:=hsm j hj;omega) (by omega) hr hall rfl) ?_
  refine hn4 _ _ (zQF hQ fun Q5 hn5 hQ5 he5=>?_)
  exact eR G4 hQ5 hbel (.bool true) results3 ⟨rfl,rfl⟩
 have hne:(rnwE W Hh xs tu le sl ra ax ay ah != 0)=true:=by simpa using rnwE_nz
 refine cv (rrun_z _ W _ _ xs _ _ _ _ _ _ _ _ al (by exact⟨_,_,_,rfl,hb0pp _⟩) (by exact⟨_,_,_,rfl,hb0ac _⟩) (by exact hao.app _) hr) ?_
 have G5:=jn @hne G4
 refine ae G5 ?_
 refine hn4 _ _ (zQF hQ fun Q5 hn5 hQ5 he5=>?_)
 exact eR G5 hQ5 hbel (.bool true) results3 ⟨rfl,rfl⟩
set_option maxRecDepth 100000 in
theorem oI (H:aa)(xs:List AV)(hn:xs.length=3)(hy:∀(j:Nat) (t:TypeId) (x:AV),[24,26,27][j]? = some t->xs[j]? = some x->ATy prog H 9 t x):ACalls prog 3 xs H (fun v H'=>v=.bool true/\H'=H):=by
 match xs,hn,hy with
 | [a0,a1,a2],_,hy =>
  obtain⟨ys0,e0,r0_0⟩:=(hy 0 _ a0 rfl rfl).agg (ls:=[3,3,22]) (by kernel_rfl) (by kernel_rfl)
  obtain⟨y0_0,q0_0,rfl,t0_0,r0_1⟩:=r0_0.cons
  obtain⟨z1,rfl,w1⟩:=t0_0.int (k:=.i64) (by kernel_rfl)
  obtain⟨y0_1,q0_1,rfl,t0_1,r0_2⟩:=r0_1.cons
  obtain⟨z2,rfl,w2⟩:=t0_1.int (k:=.i64) (by kernel_rfl)
  obtain⟨y0_2,q0_2,rfl,t0_2,r0_3⟩:=r0_2.cons
  obtain⟨l3,s3,m3,w3⟩:=t0_2.intsU (n:=7) (t:=22) (e:=5) (by kernel_rfl) (by kernel_rfl) (by kernel_rfl)
  obtain rfl:=r0_3.nil
  subst e0
  obtain⟨ys1,e1,r1_0⟩:=(hy 1 _ a1 rfl rfl).agg (ls:=[3,3,3]) (by kernel_rfl) (by kernel_rfl)
  obtain⟨y1_0,q1_0,rfl,t1_0,r1_1⟩:=r1_0.cons
  obtain⟨z4,rfl,w4⟩:=t1_0.int (k:=.i64) (by kernel_rfl)
  obtain⟨y1_1,q1_1,rfl,t1_1,r1_2⟩:=r1_1.cons
  obtain⟨z5,rfl,w5⟩:=t1_1.int (k:=.i64) (by kernel_rfl)
  obtain⟨y1_2,q1_2,rfl,t1_2,r1_3⟩:=r1_2.cons
  obtain⟨z6,rfl,w6⟩:=t1_2.int (k:=.i64) (by kernel_rfl)
  obtain rfl:=r1_3.nil
  subst e1
  have t2:=(hy 2 _ a2 rfl rfl).one (by kernel_rfl) (by kernel_rfl)
  obtain⟨l7,s7,m7,w7⟩:=t2.acs (n:=6) (t:=27) (e:=77) (ti:=3) (ts:=75) (te:=3) (by kernel_rfl) (by kernel_rfl) (by kernel_rfl) (by kernel_rfl) (by kernel_rfl) (by kernel_rfl)
  exact lho_c H z1 z2 _ l3 z4 z5 z6 _ l7 s3 s7 (fun z hz=>(wf_u8 (w3 z hz)).1) (by have q:=m3;unfold maxLen at q;exact q) (by have q:=m7;unfold maxLen at q;exact q) w7
section
open Go.ChangeShapes Go.WideShapes Go.ChangeAt Go.Joins
open Go.ChangeMaps (open_string shut_string)
set_option maxRecDepth 100000 in
theorem l4 (os:Os)(started:os.Started)(H:Type)(enc:TypeId×Value->H):
  ReturnsInHanded {} Tryz.checked os 3 .any (Rows.locateHoldsSpec.pre6 enc prog Tryz.f3 Rows.locateHoldsRow.domain false) (Rows.locateHoldsSpec.post enc prog Tryz.f3 false true false false):=by
 refine returnsInHanded_of_change (C:=Tryz.checked) own started (by kernel_rfl) func3
  (ChangeSpec.witness6 (enc:=enc) (C:=Tryz.checked) false ⟨#[],#[.agg #[.int .i64 0,.int .i64 0,.slice none 0 0],.agg #[.int .i64 0,.int .i64 0,.int .i64 0],.slice none 0 0],[]⟩ 8 (by kernel_rfl) (by kernel_rfl) (by kernel_rfl) (by kernel_rfl)) ?_
 intro W base args ds gs before hval0 hW hcnd _
 have hval:∀(j:Nat) t v,Tryz.f3.params[j]? = some t->args[j]? = some v->Value.okWide prog W .any base t v:=hval0
 have hW':=hW
 obtain⟨p,q,hA0,hV,rfl,hfz,hnd⟩:=hW
 have hA:DataW.TrodAll enc prog W 0 (fun _=>true) true Tryz.f3.params.toList args.toList ds p:=hA0
 rw[Tryz.params3] at hA hval
 have hwalk:=calls_top (n:=9) (f:=3) hA (fun j t v a b=>hval j t v (by simpa using a) (by simpa using b)) (by kernel_rfl) (fun H xs hn hy=>oI H xs hn hy)
 rw[Array.toArray_toList] at hwalk
 obtain⟨v0,vs0,d0,ds0,p0,q0,hargs,rfl,rfl,h0,r0⟩:=trodAll_cons hA
 obtain⟨v1,vs1,d1,ds1,p1,q1,rfl,rfl,rfl,h1,r1⟩:=trodAll_cons r0
 obtain⟨v2,vs2,d2,ds2,p2,q2,rfl,rfl,rfl,h2,r2⟩:=trodAll_cons r1
 obtain⟨rfl,rfl,rfl⟩:=trodAll_nil r2
 obtain rfl:args=#[v0,v1,v2]:=by cases args;simp_all
 obtain⟨rfl,rfl⟩:=trodVars_none hV
 have k0:=h0
 have lt0:∀x∈p0,x.block<W.heap.size:=by obtain⟨m,hm⟩:=k0;exact DataW.trod_lt m _ _ _ hm
 have k1:=h1
 have lt1:∀x∈p1,x.block<W.heap.size:=by obtain⟨m,hm⟩:=k1;exact DataW.trod_lt m _ _ _ hm
 have k2:=h2
 have lt2:∀x∈p2,x.block<W.heap.size:=by obtain⟨m,hm⟩:=k2;exact DataW.trod_lt m _ _ _ hm
 clear hA0 hval0
 refine hwalk.mono fun e W' ⟨he,bel⟩=>?_
 subst he
 exact⟨_,rfl,_,_,_,[],_,[],hW',trodAll_mk1 (shut_bool Tryz.underlying4 _),(trodAll_cons_mk (Below.trod md (by kernel_rfl) (of_decide_eq_true (by kernel_rfl)) k0 bel lt0) (trodAll_cons_mk (Below.trod md (by kernel_rfl) (of_decide_eq_true (by kernel_rfl)) k1 bel lt1) (trodAll_cons_mk (Below.trod md (by kernel_rfl) (of_decide_eq_true (by kernel_rfl)) k2 bel lt2) trodAll_mk0))),rfl,bel.frame _,fun h=>by cases h⟩
theorem cS {a b:Bool}(h:a=true)(k:b=true):(a&&b)=true:=by rw[h,k];rfl
theorem pm:(Rows.locateHoldsRow.inPlace==Tryz.pinned.checked.prog.inPlace 3)=true:=by kernel_rfl
theorem pn:(Rows.locateHoldsRow.unfollowed==Tryz.pinned.checked.prog.unfollowed 3)=true:=by kernel_rfl
theorem pq:(Rows.locateHoldsRow.recurses==Tryz.pinned.checked.prog.recurses 3)=true:=by kernel_rfl
theorem pr:(Rows.locateHoldsRow.named==Tryz.pinned.checked.prog.varsNamed 3)=true:=by kernel_rfl
theorem pu:Tryz.pinned.checked.prog.stopsHeard=true:=by kernel_rfl
theorem pv:Tryz.pinned.checked.prog.mayEnter=true:=by kernel_rfl
theorem pw:(Rows.locateHoldsRow.lifted==Tryz.pinned.checked.prog.liftsFinal)=true:=by kernel_rfl
theorem l5:joinedFacts Tryz.pinned.checked.prog 3 Tryz.f3 Rows.locateHoldsSpec Rows.locateHoldsRow=true:=by
 unfold joinedFacts
 exact(cS (cS (cS (cS (cS (cS (cS (cS (cS (cS (cS (cS (cS (cS (cS (cS (cS (cS (cS (cS (cS (cS (cS (cS (cS (cS (cS (cS (cS (cS (cS (by kernel_rfl) md) (by kernel_rfl)) (by kernel_rfl)) (by kernel_rfl)) (by kernel_rfl)) (by kernel_rfl)) (by kernel_rfl)) (by kernel_rfl)) pm) pn) pq) pr) (by kernel_rfl)) (by kernel_rfl)) (by kernel_rfl)) (by kernel_rfl)) (by kernel_rfl)) (by kernel_rfl)) (by kernel_rfl)) (by kernel_rfl)) (by kernel_rfl)) (by kernel_rfl)) (by kernel_rfl)) pu) pv) pw) (by kernel_rfl)) (by kernel_rfl)) (by kernel_rfl)) (by kernel_rfl)) (by kernel_rfl))
theorem nL:Rows.locateHoldsRow.holds Tryz.pinned (OpenSpec.ofChange Rows.locateHoldsSpec) :=
 OpenClaim.holds_of_wide 3 Tryz.f3 rfl rfl rfl rfl rfl rfl rfl ⟨rfl,rfl,rfl,rfl,rfl⟩ rfl rfl rfl rfl rfl (by kernel_rfl) func3 l5
  (of_decide_eq_true (by kernel_rfl)) (by unfold Func.isWrapper;rw[if_neg (by decide +kernel)];exact⟨rfl,rfl⟩)
  (fun os started H enc _=>l4 os started H enc)
theorem locateHolds_proved:Rows.LocateHoldsSaid:=nL
end
end Go.Proofs.YtjihmmoaaibmnaaGreat
