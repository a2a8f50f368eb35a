/- Parts of the proof: walks and plain facts. Conditions: as each theorem states. -/
import Derived.Test.YtkkhdehdaaealaaGreatG3
import Derived.Test.YtkkhdehdaaealaaGreatG2
import Derived.Deep.RegionHeld3
namespace Go.Proofs.YtkkhdehdaaealaaGreat
set_option linter.unusedSimpArgs false
set_option linter.unusedVariables false
open Go.RowKit Go.Proofs.Tryz
theorem sbf_trL {px py vx vy vd far cx cy:Int}(h:dg px py vx vy vd far (cx*64) (cy*64) (cx*64+64) (cy*64+64)=true)(hp:ptB px py=true)(hc:(-16384<=cx/\cx<=16383) /\ -16384<=cy/\cy<=16383)(hf:far<=2048):(cx,cy)∈trL px py vx vy vd 0 far:=by
 unfold dg at h
 simp only[Bool.and_eq_true,decide_eq_true_eq] at h
 obtain⟨h0,h1,hg,hb⟩:=h
 have hv:=fg hg
 have hvB:=(cm.1 hg).2.1
 have hq:=fO.1 hp
 have k:=r8 hv.1 hv.2 hq.1 hq.2 (cx:=cx) (cy:=cy) (by omega) (by omega) h0
  (mnx:=if far*vx<0*vx then far*vx else 0*vx) (mxx:=if 0*vx<far*vx then far*vx else 0*vx) (mny:=if far*vy<0*vy then far*vy else 0*vy) (mxy:=if 0*vy<far*vy then far*vy else 0*vy)
  (by split<;>omega) (by split<;>omega) (by split<;>omega) (by split<;>omega) (by split<;>omega) (by split<;>omega) (by split<;>omega) (by split<;>omega) hb
 have e:trE px py vx vy vd 0 far=0:=by unfold trE;rw[if_pos (by rw[hp,hvB];rfl),if_pos (fH.2 ⟨by omega,h0,hf⟩)]
 unfold trL mkL;rw[if_pos e]
 refine(jk (by omega) (by omega) hvB ⟨by omega,h0,hf⟩).2 ?_
 unfold cl dY dR
 simp only[Bool.and_eq_true,decide_eq_true_eq]
 exact⟨⟨bA.2 (by omega),bA.2 (by omega),bA.2 (by omega)⟩,by omega,h0,h1,cm.2 ⟨cE.2 (by omega),hvB,bA.2 (by omega)⟩,k.1⟩
theorem dS {px py vx vy vd far x0 y0 x1 y1:Int}(h:dg px py vx vy vd far x0 y0 x1 y1=true):(0<=far/\far<=65536)/\thG px py vx vy vd x0 y0 x1 y1=true/\ix px py vx vy vd far x0 y0 x1 y1:=by
 unfold dg at h
 simp only[Bool.and_eq_true,decide_eq_true_eq] at h
 obtain⟨h0,h1,hg,hb⟩:=h
 have hv:=fg hg
 have n:=kz hg
 exact⟨⟨h0,h1⟩,hg,(ou hv.1 hv.2 n.1 n.2).1 hb⟩
theorem rc {px py vx vy vd far x0 y0 x1 y1:Int}(hf:0<=far/\far<=65536)(hg:thG px py vx vy vd x0 y0 x1 y1=true)(h:ix px py vx vy vd far x0 y0 x1 y1):dg px py vx vy vd far x0 y0 x1 y1=true:=by
 have hv:=fg hg
 have n:=kz hg
 unfold dg
 simp only[Bool.and_eq_true,decide_eq_true_eq]
 exact⟨hf.1,hf.2,hg,(ou hv.1 hv.2 n.1 n.2).2 h⟩
theorem sbf_pos {px py vx vy vd far x0 y0 x1 y1:Int}(h:dg px py vx vy vd far x0 y0 x1 y1=true):0<far:=by
 obtain⟨hf,hg,n,m,hn,hm,hlt,-⟩:=dS h
 have hv:=(fg hg).1
 rcases Int.lt_or_le 0 far with k|k
 ·exact k
 have e:far=0:=by omega
 rw[e,Int.zero_mul] at hlt
 have:=Int.mul_nonneg hn (show 0<=vd by omega)
 omega
def prvE (l:List T6) (g:Int) (e c:Int×Int):Bool:=prvB l e.1 (ar e.2 g) c
theorem dirA_0 {l:List T6}(hS:bM l=true)(hl:0<l.length)(m:Int):0<(aq l m).length:=by have:=kG hS m;omega
theorem prv_fst {l:List T6}{m far:Int}{c:Int×Int}(hS:bM l=true)(hl:0<l.length)(hf:far<=2048)(hc:(-16384<=c.1/\c.1<=16383) /\ -16384<=c.2/\c.2<=16383)(h:prvB l m far c=true):c∈aQ l m far/\0<far:=by
 have he:=g9_mem (dirA_0 hS hl m)
 have k:=List.all_eq_true.1 h _ he
 have ok:=oB hS he
 unfold pairB at ok
 rw[Bool.and_eq_true] at ok
 have hb:=bB.1 ok.1
 unfold psC psB at k
 rw[Bool.and_eq_true] at k
 have hp:ptB (g9 (aq l m) 0).1 (g9 (aq l m) 0).2.1=true:=fO.2 (by omega)
 exact⟨sbf_trL k.1 hp hc hf,sbf_pos k.1⟩
theorem prS_mem {W Hh:Int}{l:List T6}{sc:List (Int×Int)}{g:Int}{c:Int×Int}:∀{i:Nat},c∈prS W Hh l sc g i↔∃j:Nat,j<i/\c∈eC W Hh l (g1 sc j) (g2 sc j) g
 |0=>⟨fun h=>(by cases h),fun ⟨j,hj,_⟩=>(by omega)⟩
 | i+1=>by
  unfold prS
  rw[List.mem_append,prS_mem]
  constructor
  ·rintro(⟨j,hj,h⟩|h)
   ·exact⟨j,by omega,h⟩
   exact⟨i,by omega,h⟩
  rintro⟨j,hj,h⟩
  rcases Nat.lt_or_ge j i with k|k
  ·exact .inl ⟨j,k,h⟩
  rw[show j=i by omega] at h;exact .inr h
theorem inB_bd {W Hh:Int}{xs:List Int}{x y:Int}(hV:bC W Hh xs=true)(h:inB W Hh x y=true):(0<=x/\x<=63)/\0<=y/\y<=63:=by
 have q:=bh.1 hV
 have:=cC.1 h
 have:=q.w1;have:=q.h1
 omega
theorem mem_all {W Hh:Int}{xs:List Int}{l:List T6}{sc:List (Int×Int)}{g:Int}(hR:eo W Hh xs l sc g=true){c:Int×Int}:c∈aR W Hh l sc g↔fG l=true/\inB W Hh c.1 c.2=true/\∃e∈sc,prvE l g e c=true:=by
 obtain⟨hV,hl0,hS,hsB,hg⟩:=gT.1 hR
 have hs:=dF.1 hsB
 unfold aR
 rw[fI,(fJ _).mem_iff]
 unfold iy
 by_cases ht:fG l=true
 ·rw[if_pos ht,prS_mem]
  constructor
  ·rintro⟨j,hj,h⟩
   unfold eC at h
   split at h
   ·cases h
   have k:=(List.mem_filter.1 h).2
   unfold bN at k
   rw[Bool.and_eq_true,Bool.and_eq_true,aS,aS] at k
   refine⟨ht,cC.2 (by omega),sc[j],List.getElem_mem hj,?_⟩
   unfold prvE
   rw[<-ct hj];exact k.2.2
  rintro⟨-,hin,e,he,hp⟩
  obtain⟨j,hj,rfl⟩:=List.mem_iff_getElem.1 he
  have hbe:=gb.1 (hs.2 _ he)
  rw[<-ct hj] at hbe hp
  have hb:=inB_bd hV hin
  have hff:ar (g2 sc j) g<=2048:=by unfold ar;split<;>omega
  have q:=prv_fst hS hl0 hff (by omega) hp
  refine⟨j,hj,?_⟩
  unfold eC
  rw[if_neg (by omega)]
  refine List.mem_filter.2 ⟨q.1,?_⟩
  unfold bN
  rw[Bool.and_eq_true,Bool.and_eq_true,aS,aS]
  have:=cC.1 hin
  exact⟨by omega,by omega,hp⟩
 rw[if_neg ht]
 exact⟨fun h=>(by cases h),fun h=>absurd h.1 ht⟩
theorem nM {b:T6}{j:Nat}(h:j<(mkB b).length):gi (mkB b) j=(b.2.2.2.2.1+(j:Int))%256:=by
 have h2:j<b.2.2.2.2.2.toNat:=by have e:(mkB b).length=b.2.2.2.2.2.toNat:=eV _ _;omega
 show gi (aX b.2.2.2.2.1 b.2.2.2.2.2.toNat) j=_
 rw[fq (by rw[eV];exact h2)]
 unfold aX
 rw[List.getElem_map,List.getElem_range]
theorem all_put {W Hh:Int}{l:List T6}{sc:List (Int×Int)}{g:Int}:aR W Hh l sc g=(iy W Hh l sc g).foldl (fun o c=>gU c o) []:=cpt_put (jE _) fun _=>(fJ _).mem_iff
theorem sus_put {l:List T6}{m r g:Int}:bG l m r g=(gf l m r g).foldl (fun o c=>gU c o) []:=cpt_put (jE _) fun _=>(fJ _).mem_iff
def swT (r g:Int) (e:T9):List (Int×Int):=cP e.1 e.2.1 e.2.2.1 e.2.2.2.1 e.2.2.2.2.2.2.1 e.2.2.2.2.2.2.2.1 e.2.2.2.2.2.2.2.2 (if 0<r-g then r-g else 0) (r+g)
theorem rd {l:List T9}{r g:Int}:∀{i:Nat},i<=l.length->swS l r g i=(l.take i).flatMap (swT r g)
 |0,_=>by simp[swS]
 | i+1,hi=>by
  have h:i<l.length:=by omega
  rw[List.take_succ_eq_append_getElem h,List.flatMap_append,<-rd (by omega)]
  have e:=g9_eq h
  simp only[List.flatMap_cons,List.flatMap_nil,List.append_nil]
  rw[<-e];rfl
def sqBf (x y:Int) (v:Int×Int×Int) (far:Int) (c:Int×Int):Bool:=dg x y v.1 v.2.1 v.2.2 far (c.1*64) (c.2*64) (c.1*64+64) (c.2*64+64)
def eZ (x y:Int) (v:Int×Int×Int) (lo hi:Int) (c:Int×Int):Bool:=dR x y v.1 v.2.1 v.2.2 lo hi (c.1*64) (c.2*64) (c.1*64+64) (c.2*64+64)
def eq (r g:Int):Int:=if 0<r-g then r-g else 0
def CovP (l:List T6) (x y h:Int):Prop:=∃b∈l,(b.1<=x/\x<=b.2.2.1)/\(b.2.1<=y/\y<=b.2.2.2.1)/\∃j:Nat,j<(mkB b).length/\h=gi (mkB b) j
theorem psC_pt {l:List T6}{m far x y:Int}{c:Int×Int}{b:T6}{j:Nat}(hS:bM l=true)(hb:b∈l)(hx:b.1<=x/\x<=b.2.2.1)(hy:b.2.1<=y/\y<=b.2.2.2.1)(hj:j<(mkB b).length)(h:prvB l m far c=true):sqBf x y (aF (gi (mkB b) j) m) far c=true:=by
 obtain⟨i,hi,rfl⟩:=List.mem_iff_getElem.1 hb
 have hbi:g6 l i=l[i]:=hZ hi
 have hbx:=(bF.1 hS).2 _ hb
 have he:dirE l[i] m (gi (mkB l[i]) j)∈aq l m:=(kH (Nat.le_refl _)).2 ⟨i,j,hi,by rw[hbi];exact hj,by rw[hbi]⟩
 have k:=List.all_eq_true.1 h _ he
 unfold psC psB at k
 simp only[Bool.and_eq_true] at k
 obtain⟨k1,k2,k3,k4⟩:=k
 have p1:=dS k1
 have p2:=dS k2
 have p3:=dS k3
 have p4:=dS k4
 have hg:=cm.1 p1.2.1
 have hb4:=bB.1 hbx
 exact rc p1.1 (cm.2 ⟨cE.2 (by omega),hg.2.1,hg.2.2⟩) (bef_box hx hy p1.2.2 p2.2.2 p3.2.2 p4.2.2)
theorem dE {px py vx vy vd lo hi x0 y0 x1 y1:Int}:dR px py vx vy vd lo hi x0 y0 x1 y1=true↔(0<=lo/\lo<=hi/\hi<=65536)/\thG px py vx vy vd x0 y0 x1 y1=true/\∃n m:Int,0<=n/\0<m/\lo*m<=n*vd/\n*vd<=hi*m/\dq px py vx vy x0 y0 x1 y1 n m:=by
 unfold dR
 simp only[Bool.and_eq_true,decide_eq_true_eq]
 constructor
 ·rintro⟨h0,h1,h2,hg,hm⟩
  have hv:=fg hg
  have n:=kz hg
  exact⟨⟨h0,h1,h2⟩,hg,(lW hv.1 hv.2 n.1 n.2 h0 h1).1 hm⟩
 rintro⟨⟨h0,h1,h2⟩,hg,hm⟩
 have hv:=fg hg
 have n:=kz hg
 exact⟨h0,h1,h2,hg,(lW hv.1 hv.2 n.1 n.2 h0 h1).2 hm⟩
theorem tau_side {l:List T6}(h:fG l=true){b:T6}(hb:b∈l):b.2.2.1-b.1<=64/\b.2.2.2.1-b.2.1<=64:=by
 unfold fG at h
 rw[Bool.and_eq_true,Bool.not_eq_true',List.any_eq_false] at h
 have k:=h.2 b hb
 unfold wdeB at k
 rw[Bool.or_eq_true,decide_eq_true_eq,decide_eq_true_eq] at k
 omega
theorem sus_pt {l:List T6}{m r g x y:Int}{c:Int×Int}{b:T6}{j:Nat}(hS:bM l=true)(ht:fG l=true)(hr:0<=r/\r<=1024)(hg:1<=g/\g<=32)(hb:b∈l)(hx:b.1<=x/\x<=b.2.2.1)(hy:b.2.1<=y/\y<=b.2.2.2.1)(hj:j<(mkB b).length)(hc:(-1024<=c.1/\c.1<=1024) /\ -1024<=c.2/\c.2<=1024)(h:eZ x y (aF (gi (mkB b) j) m) (eq r g) (r+g) c=true):c∈bG l m r g:=by
 have hr1:¬r = -1:=by omega
 have e:gf l m r g=swS (aq l m) r g (aq l m).length:=by unfold gf;rw[decide_eq_false hr1,ht];rfl
 have hsd:=tau_side ht hb
 have hbx:=bB.1 ((bF.1 hS).2 _ hb)
 obtain⟨i,hi,rfl⟩:=List.mem_iff_getElem.1 hb
 have hbi:g6 l i=l[i]:=hZ hi
 have he:dirE l[i] m (gi (mkB l[i]) j)∈aq l m:=(kH (Nat.le_refl _)).2 ⟨i,j,hi,by rw[hbi];exact hj,by rw[hbi]⟩
 unfold bG
 rw[fI,(fJ _).mem_iff,e,rd (Nat.le_refl _),List.take_length,List.mem_flatMap]
 refine⟨_,he,?_⟩
 obtain⟨h1,h2,n,m',k1,k2,k3,k4,k5⟩:=dE.1 h
 have hv:=(cm.1 h2).2.1
 have hl0:0<=eq r g/\eq r g<=r+g/\r+g<=2048:=by unfold eq;split<;>omega
 unfold swT dirE
 show c∈cP _ _ _ _ _ _ _ (eq r g) (r+g)
 have hE:=(sptE_0 (x0:=l[i].1) (y0:=l[i].2.1) (x1:=l[i].2.2.1) (y1:=l[i].2.2.2.1) (ku.2 (by omega)) hv hl0 (by omega)).2
 rw[hE]
 refine(jk (by omega) (by omega) hv hl0).2 ?_
 unfold cl dY
 simp only[Bool.and_eq_true]
 exact⟨⟨bA.2 (by omega),bA.2 (by omega),bA.2 (by omega)⟩,dE.2 ⟨by omega,cm.2 ⟨cE.2 (by omega),hv,bA.2 (by omega)⟩,mee_box hx hy ⟨n,m',k1,k2,k3,k4,k5⟩⟩⟩
section
variable {W Hh:Int} {xs:List Int} {px py vx vy vd most:Int}
end
def inpB (W Hh:Int) (xs:List Int) (x y:Int):Bool:=bC W Hh xs&&(decide (0<=x)&&(decide (x<=64*W)&&(decide (0<=y)&&decide (y<=64*Hh))))
def e9 (W Hh:Int) (xs:List Int) (x y h:Int):Bool:=inpB W Hh xs x y&&cR x y h
theorem fa {W Hh:Int}{xs:List Int}{x y:Int}:inpB W Hh xs x y=true↔bC W Hh xs=true/\(0<=x/\x<=64*W)/\0<=y/\y<=64*Hh:=by
 unfold inpB;simp only[Bool.and_eq_true,decide_eq_true_eq]
 exact⟨fun ⟨a,b,c,d,e⟩=>⟨a,⟨b,c⟩,d,e⟩,fun ⟨a,⟨b,c⟩,d,e⟩=>⟨a,b,c,d,e⟩⟩
theorem mkV_t (n:Int):mkV true n=n:=rfl
def cV (m:Int):Bool:=decide (0<=m)&&decide (m<=255)
def dH (m:Int):Int:=if cV m=true then 0 else 2
def gg (mks:List Int):Int:=if 32<mks.length then 6 else if mks.all cV=true then 0 else 2
theorem gi_out {l:List Int}{i:Nat}(h:l.length<=i):gi l i=0:=by unfold gi;rw[List.getD_eq_getElem?_getD,List.getElem?_eq_none h];rfl
theorem swpE_6 {mks:List Int}(h:32<mks.length):gg mks=6:=if_pos h
theorem swpE_2 {mks:List Int}(h:¬32<mks.length){i:Nat}(hi:i<mks.length)(k:cV (gi mks i)=false):gg mks=2:=by
 unfold gg
 rw[if_neg h,if_neg]
 intro ha
 rw[fq hi,List.all_eq_true.1 ha _ (List.getElem_mem hi)] at k
 cases k
theorem swpE_0 {mks:List Int}(h:¬32<mks.length)(k:∀j:Nat,j<mks.length->cV (gi mks j)=true):gg mks=0:=by
 unfold gg
 rw[if_neg h,if_pos]
 refine List.all_eq_true.2 fun e he=>?_
 obtain⟨j,hj,rfl⟩:=List.mem_iff_getElem.1 he
 rw[<-fq hj];exact k j hj
def hsgB (f c h:Int):Bool:=b9 f c&&decide ((((IntKind.i64.wrap (h-f)%256).toNat:Nat):Int)<c)
def hbB (x y h:Int) (b:T6):Bool:=bxB b.1 b.2.1 b.2.2.1 b.2.2.2.1 b.2.2.2.2.1 b.2.2.2.2.2&&(decide (b.1<=x)&&(decide (x<=b.2.2.1)&&(decide (b.2.1<=y)&&(decide (y<=b.2.2.2.1)&&hsgB b.2.2.2.2.1 b.2.2.2.2.2 h))))
def covB (l:List T6) (x y h:Int):Bool:=l.any (hbB x y h)
theorem covB_iff {l:List T6}{x y h:Int}(hh:0<=h/\h<=255)(k:covB l x y h=true):∃b∈l,(b.1<=x/\x<=b.2.2.1)/\(b.2.1<=y/\y<=b.2.2.2.1)/\dJ b.2.2.2.2.1 b.2.2.2.2.2 h/\b9 b.2.2.2.2.1 b.2.2.2.2.2=true:=by
 obtain⟨b,hb,hk⟩:=List.any_eq_true.1 k
 unfold hbB hsgB at hk
 simp only[Bool.and_eq_true,decide_eq_true_eq] at hk
 obtain⟨-,h1,h2,h3,h4,h5,h6⟩:=hk
 have ha:=bo.1 h5
 rw[iS (by omega) (by omega)] at h6
 exact⟨b,hb,by omega,by omega,by unfold dJ;omega,h5⟩
def narB (l:List T6):Bool:=(l.all fun b=>decide (b.2.2.2.2.2<=6))&&decide (l.length<=3)
theorem narB_len {l:List T6}(h:narB l=true):l.length<=3:=by
 unfold narB at h;rw[Bool.and_eq_true,decide_eq_true_eq] at h;exact h.2
theorem nar_f {l:List T6}{i:Nat}(hi:i<l.length)(h:6<g66 l i):narB l=false:=by
 unfold narB
 rw[Bool.and_eq_false_iff];left
 rw[<-Bool.not_eq_true,List.all_eq_true]
 intro k
 have:=k (g6 l i) (cD hi)
 have q:g66 l i<=6:=of_decide_eq_true this
 omega
theorem nar_e {l : List T6}(h:∀j:Nat,j<l.length->¬6<g66 l j):narB l=decide ((l.length:Int)<=3):=by
 unfold narB
 have e : (l.all fun b => decide (b.2.2.2.2.2<=6))=true:=List.all_eq_true.2 fun b hb=>by
  obtain⟨j,hj,rfl⟩:=List.mem_iff_getElem.1 hb
  have k:=h j hj
  rw[<-hZ hj]
  exact decide_eq_true (by have:g66 l j<=6:=by omega
                           exact this)
 rw[e,Bool.true_and,decide_eq_decide]
 omega
theorem mee_conv {px qx py vx vy x0 y0 x1 y1 n m n' m' a T vd hi:Int}(hT:0<T) (ha:0<=a/\a<=T) (hn:0<=n) (hm:0<m) (hn':0<=n') (hm':0<m') (hb:n*vd<=hi*m) (hb':n'*vd<=hi*m') (h:dq px py vx vy x0 y0 x1 y1 n m) (h':dq qx py vx vy x0 y0 x1 y1 n' m')
  {rx:Int} (hx:T*rx=(T-a)*px+a*qx):∃k l:Int,0<=k/\0<l/\k*vd<=hi*l/\dq rx py vx vy x0 y0 x1 y1 k l:=by
 obtain⟨⟨a1,a2⟩,a3,a4⟩:=h
 obtain⟨⟨b1,b2⟩,b3,b4⟩:=h'
 -- the point (T-a)*(n/m) + a*(n'/m') over T
 have hTa:0<=T-a:=by omega
 have A:0<=(T-a)*m':=Int.mul_nonneg hTa (by omega)
 have B:0<=a*m:=Int.mul_nonneg ha.1 (by omega)
 have Tmm:0<T*m*m':=Int.mul_pos (Int.mul_pos hT hm) hm'
 refine⟨(T-a)*m'*n+a*m*n',T*m*m',by have:=Int.mul_nonneg A hn;have:=Int.mul_nonneg B hn';omega,Tmm,?_,⟨?_,?_⟩,?_,?_⟩
 ·have e1:((T-a)*m'*n+a*m*n')*vd=(T-a)*m'*(n*vd)+a*m*(n'*vd):=by grind
  have e2:hi*(T*m*m')=(T-a)*m'*(hi*m)+a*m*(hi*m'):=by grind
  rw[e1,e2]
  have p1:=Int.mul_le_mul_of_nonneg_left hb A
  have p2:=Int.mul_le_mul_of_nonneg_left hb' B
  omega
 ·have p1:=Int.mul_le_mul_of_nonneg_left a1 A
  have p2:=Int.mul_le_mul_of_nonneg_left b1 B
  have e:T*m*m'*rx+((T-a)*m'*n+a*m*n')*vx=(T-a)*m'*(m*px+n*vx)+a*m*(m'*qx+n'*vx):=by grind
  have e2:T*m*m'*x0=(T-a)*m'*(m*x0)+a*m*(m'*x0):=by grind
  omega
 ·have p1:=Int.mul_le_mul_of_nonneg_left a2 A
  have p2:=Int.mul_le_mul_of_nonneg_left b2 B
  have e:T*m*m'*rx+((T-a)*m'*n+a*m*n')*vx=(T-a)*m'*(m*px+n*vx)+a*m*(m'*qx+n'*vx):=by grind
  have e2:T*m*m'*x1=(T-a)*m'*(m*x1)+a*m*(m'*x1):=by grind
  omega
 ·have p1:=Int.mul_le_mul_of_nonneg_left a3 A
  have p2:=Int.mul_le_mul_of_nonneg_left b3 B
  have e:T*m*m'*py+((T-a)*m'*n+a*m*n')*vy=(T-a)*m'*(m*py+n*vy)+a*m*(m'*py+n'*vy):=by grind
  have e2:T*m*m'*y0=(T-a)*m'*(m*y0)+a*m*(m'*y0):=by grind
  omega
 have p1:=Int.mul_le_mul_of_nonneg_left a4 A
 have p2:=Int.mul_le_mul_of_nonneg_left b4 B
 have e:T*m*m'*py+((T-a)*m'*n+a*m*n')*vy=(T-a)*m'*(m*py+n*vy)+a*m*(m'*py+n'*vy):=by grind
 have e2:T*m*m'*y1=(T-a)*m'*(m*y1)+a*m*(m'*y1):=by grind
 omega

def iA (px py vx vy vd hi x0 y0 x1 y1:Int):Prop:=∃n m:Int,0<=n/\0<m/\n*vd<=hi*m/\dq px py vx vy x0 y0 x1 y1 n m
theorem mX {px py vx vy vd hi x0 y0 x1 y1:Int}:iA px py vx vy vd hi x0 y0 x1 y1↔iA py px vy vx vd hi y0 x0 y1 x1 :=
 ⟨fun ⟨n,m,a,b,c,d⟩=>⟨n,m,a,b,c,ky.1 d⟩,fun ⟨n,m,a,b,c,d⟩=>⟨n,m,a,b,c,ky.2 d⟩⟩
theorem mY {ax bx py vx vy vd hi x0 y0 x1 y1 rx:Int}(hr:ax<=rx/\rx<=bx)(h:iA ax py vx vy vd hi x0 y0 x1 y1)(k:iA bx py vx vy vd hi x0 y0 x1 y1):iA rx py vx vy vd hi x0 y0 x1 y1:=by
 by_cases e:ax=bx
 ·rw[show rx=ax by omega];exact h
 obtain⟨n,m,h1,h2,h3,h4⟩:=h
 obtain⟨n',m',k1,k2,k3,k4⟩:=k
 exact mee_conv (T:=bx-ax) (a:=rx-ax) (by omega) (by omega) h1 h2 k1 k2 h3 k3 h4 k4 (by grind)
theorem mee_box4 {ax ay bx by' vx vy vd hi x0 y0 x1 y1 rx ry:Int}(hx:ax<=rx/\rx<=bx)(hy:ay<=ry/\ry<=by')(h1:iA ax ay vx vy vd hi x0 y0 x1 y1)(h2:iA bx ay vx vy vd hi x0 y0 x1 y1)(h3:iA ax by' vx vy vd hi x0 y0 x1 y1)(h4:iA bx by' vx vy vd hi x0 y0 x1 y1):iA rx ry vx vy vd hi x0 y0 x1 y1 :=
 mX.1 (mY hy (mX.1 (mY hx h1 h2)) (mX.1 (mY hx h3 h4)))
theorem kJ {px py vx vy vd hi x0 y0 x1 y1:Int}(h:dR px py vx vy vd 0 hi x0 y0 x1 y1=true):(0<=hi/\hi<=65536)/\thG px py vx vy vd x0 y0 x1 y1=true/\iA px py vx vy vd hi x0 y0 x1 y1:=by
 obtain⟨h1,h2,n,m,k1,k2,-,k4,k5⟩:=dE.1 h
 exact⟨⟨h1.2.1,h1.2.2⟩,h2,n,m,k1,k2,k4,k5⟩
theorem mZ {px py vx vy vd hi x0 y0 x1 y1:Int}(h1:0<=hi/\hi<=65536)(h2:thG px py vx vy vd x0 y0 x1 y1=true)(h:iA px py vx vy vd hi x0 y0 x1 y1):dR px py vx vy vd 0 hi x0 y0 x1 y1=true:=by
 obtain⟨n,m,k1,k2,k4,k5⟩:=h
 have hv:=fg h2
 exact dE.2 ⟨⟨by omega,h1.1,h1.2⟩,h2,n,m,k1,k2,by rw[Int.zero_mul];exact Int.mul_nonneg k1 (by omega),k4,k5⟩
def hcB (op:Bool) (x y vx vy vd far cx cy:Int):Bool:=bif op then dg x y vx vy vd far (cx*64) (cy*64) ((cx+1)*64) ((cy+1)*64) else dR x y vx vy vd 0 far (cx*64) (cy*64) ((cx+1)*64) ((cy+1)*64)
def h4B (op:Bool) (x0 y0 x1 y1 vx vy vd far cx cy:Int):Bool:=hcB op x0 y0 vx vy vd far cx cy&&(hcB op x1 y0 vx vy vd far cx cy&&(hcB op x0 y1 vx vy vd far cx cy&&hcB op x1 y1 vx vy vd far cx cy))
def gz (W Hh:Int) (xs:List Int) (op:Bool) (x0 y0 x1 y1 vx vy vd far:Int) (c:Int×Int):Bool:=(atI W Hh xs c.1 c.2==2)&&h4B op x0 y0 x1 y1 vx vy vd far c.1 c.2
def eF (W Hh:Int) (xs:List Int) (x0 y0 x1 y1 vx vy vd far:Int) (op:Bool):Bool:=!decide (far<0)&&(trL x0 y0 vx vy vd 0 far).any (gz W Hh xs op x0 y0 x1 y1 vx vy vd far)
def frC (W Hh:Int) (xs:List Int) (c:Int×Int):Bool:=atI W Hh xs c.1 c.2==1
def empB (W Hh:Int) (xs:List Int) (x0 y0 x1 y1 vx vy vd lo hi:Int):Bool:=(cP x0 y0 x1 y1 vx vy vd lo hi).all (frC W Hh xs)
def refB (W Hh:Int) (xs:List Int) (x0 y0 x1 y1 h m r g:Int):Bool :=
 bif r == -1 then eF W Hh xs x0 y0 x1 y1 (aF h m).1 (aF h m).2.1 (aF h m).2.2 (1024-g) false
 else eF W Hh xs x0 y0 x1 y1 (aF h m).1 (aF h m).2.1 (aF h m).2.2 (r-g) true||empB W Hh xs x0 y0 x1 y1 (aF h m).1 (aF h m).2.1 (aF h m).2.2 (eq r g) (r+g)
def fK (x0 y0 x1 y1:Int):Bool:=btw x0 (-1048576) 1048576&&(btw y0 (-1048576) 1048576&&(btw x1 (-1048576) 1048576&&(btw y1 (-1048576) 1048576&&(btw (x1-x0) 0 1024&&btw (y1-y0) 0 1024))))
def badB (W Hh:Int) (xs:List Int) (x0 y0 x1 y1 h:Int) (s:List (Int×Int)) (g:Int):Bool:=fK x0 y0 x1 y1&&s.any fun e=>refB W Hh xs x0 y0 x1 y1 h e.1 e.2 g
theorem re {x0 y0 x1 y1:Int}:fK x0 y0 x1 y1=true↔((-1048576<=x0/\x0<=x1/\x1<=1048576) /\ -1048576<=y0/\y0<=y1/\y1<=1048576)/\x1-x0<=1024/\y1-y0<=1024:=by
 unfold fK
 simp only[Bool.and_eq_true,aS]
 omega
def gA (W Hh:Int) (xs:List Int) (x y h:Int) (g:Int) (e:Int×Int):Prop :=
 (¬e.2 = -1->(∀c,atI W Hh xs c.1 c.2=2->sqBf x y (aF h e.1) (e.2-g) c=false)/\∃c:Int×Int,((-1024<=c.1/\c.1<=1024) /\ -1024<=c.2/\c.2<=1024)/\atI W Hh xs c.1 c.2=2/\eZ x y (aF h e.1) (eq e.2 g) (e.2+g) c=true) /\
 (e.2 = -1->∀c,atI W Hh xs c.1 c.2=2->eZ x y (aF h e.1) 0 (1024-g) c=false)
theorem bel_two {W H x y:Int}{ks xs:List Int}(h:dZ ks xs)(k:atI W H ks x y=2):atI W H xs x y=2:=by
 unfold atI at *
 split at k
 ·rename_i hi
  rw[if_pos hi]
  rcases h.2 (y*W+x).toNat with q|q
  ·rw[q] at k;cases k
  rw[<-q];exact k
 rename_i hi
 rw[if_neg hi]
theorem hcB_sq {op:Bool}{x y vx vy vd far cx cy:Int}:hcB op x y vx vy vd far cx cy=bif op then sqBf x y (vx,vy,vd) far (cx,cy) else eZ x y (vx,vy,vd) 0 far (cx,cy):=by
 unfold hcB sqBf eZ
 rw[show (cx+1)*64=cx*64+64 by omega,show (cy+1)*64=cy*64+64 by omega]
theorem h4_pt {op:Bool}{x0 y0 x1 y1 x y vx vy vd far cx cy:Int}(hx:x0<=x/\x<=x1)(hy:y0<=y/\y<=y1)(h:h4B op x0 y0 x1 y1 vx vy vd far cx cy=true):hcB op x y vx vy vd far cx cy=true:=by
 unfold h4B at h
 simp only[Bool.and_eq_true] at h
 obtain⟨k1,k2,k3,k4⟩:=h
 unfold hcB at *
 cases op with
 | true =>
  simp only[cond_true] at *
  have p1:=dS k1
  have p2:=dS k2
  have p3:=dS k3
  have p4:=dS k4
  have hg:=cm.1 p1.2.1
  have q1:=cE.1 hg.1
  have q4:=cE.1 (cm.1 p4.2.1).1
  exact rc p1.1 (cm.2 ⟨cE.2 (by omega),hg.2.1,hg.2.2⟩) (bef_box hx hy p1.2.2 p2.2.2 p3.2.2 p4.2.2)
 | false =>
  simp only[cond_false] at *
  have p1:=kJ k1
  have p2:=kJ k2
  have p3:=kJ k3
  have p4:=kJ k4
  have hg:=cm.1 p1.2.1
  have q1:=cE.1 hg.1
  have q4:=cE.1 (cm.1 p4.2.1).1
  exact mZ p1.1 (cm.2 ⟨cE.2 (by omega),hg.2.1,hg.2.2⟩) (mee_box4 hx hy p1.2.2 p2.2.2 p3.2.2 p4.2.2)
theorem hid_f {W Hh:Int}{ks xs:List Int}{x0 y0 x1 y1 x y far:Int}{v:Int×Int×Int}{op:Bool}(hk:dZ ks xs)(hx:x0<=x/\x<=x1)(hy:y0<=y/\y<=y1)(h:∀c,atI W Hh xs c.1 c.2=2->(bif op then sqBf x y v far c else eZ x y v 0 far c)=false):eF W Hh ks x0 y0 x1 y1 v.1 v.2.1 v.2.2 far op=false:=by
 rw[<-Bool.not_eq_true]
 intro hb
 unfold eF at hb
 rw[Bool.and_eq_true,List.any_eq_true] at hb
 obtain⟨-,c,-,hc⟩:=hb
 unfold gz at hc
 rw[Bool.and_eq_true,beq_iff_eq] at hc
 have k:=h4_pt hx hy hc.2
 rw[hcB_sq] at k
 have q:=h c (bel_two hk hc.1)
 rw[show (bif op then sqBf x y v far c else eZ x y v 0 far c)=true from k] at q
 cases q
theorem ref_f {W Hh:Int}{ks xs:List Int}{x0 y0 x1 y1 x y h g:Int}{e:Int×Int}(hk:dZ ks xs)(hx:x0<=x/\x<=x1)(hy:y0<=y/\y<=y1)(ha:fK x0 y0 x1 y1=true)(hg:1<=g/\g<=32)(he:ga e=true)(hP:gA W Hh xs x y h g e):refB W Hh ks x0 y0 x1 y1 h e.1 e.2 g=false:=by
 have hbe:=gb.1 he
 unfold refB
 cases hr:(e.2 == -1) with
 | true =>
  have hr1:e.2 = -1:=by simpa using hr
  exact hid_f hk hx hy (hP.2 hr1)
 | false =>
  have hr1:¬e.2 = -1:=by simpa using hr
  obtain⟨h1,c,hc1,hc2,hc3⟩:=hP.1 hr1
  rw[cond_false,Bool.or_eq_false_iff]
  refine⟨hid_f hk hx hy h1,?_⟩
  rw[<-Bool.not_eq_true]
  intro hb
  unfold empB at hb
  rw[List.all_eq_true] at hb
  have had:=re.1 ha
  have hl0:0<=eq e.2 g/\eq e.2 g<=e.2+g/\e.2+g<=2048:=by unfold eq;split<;>omega
  obtain⟨_,h2,n,m',k1,k2,k3,k4,k5⟩:=dE.1 hc3
  have hv:=(cm.1 h2).2.1
  have hE:=(sptE_0 (x0:=x0) (y0:=y0) (x1:=x1) (y1:=y1) (ku.2 (by omega)) hv hl0 (by omega)).2
  have hm:c∈cP x0 y0 x1 y1 (aF h e.1).1 (aF h e.1).2.1 (aF h e.1).2.2 (eq e.2 g) (e.2+g):=by
   rw[hE]
   refine(jk (by omega) (by omega) hv hl0).2 ?_
   unfold cl dY
   simp only[Bool.and_eq_true]
   exact⟨⟨bA.2 (by omega),bA.2 (by omega),bA.2 (by omega)⟩,dE.2 ⟨by omega,cm.2 ⟨cE.2 (by omega),hv,bA.2 (by omega)⟩,mee_box hx hy ⟨n,m',k1,k2,k3,k4,k5⟩⟩⟩
  have q:=hb c hm
  unfold frC at q
  have q:=qY hk (show atI W Hh ks c.1 c.2=1 by simpa using q)
  rw[q] at hc2;cases hc2
theorem bad_f {W Hh:Int}{ks xs:List Int}{x0 y0 x1 y1 x y h g:Int}{s:List (Int×Int)}(hk:dZ ks xs)(hx:x0<=x/\x<=x1)(hy:y0<=y/\y<=y1)(hg:1<=g/\g<=32)(hs:∀e∈s,ga e=true)(hP:∀e∈s,gA W Hh xs x y h g e):badB W Hh ks x0 y0 x1 y1 h s g=false:=by
 unfold badB
 cases ha:fK x0 y0 x1 y1 with
 |false=>rfl
 | true =>
  rw[Bool.true_and,List.any_eq_false]
  intro e he
  rw[ref_f hk hx hy ha hg (hs e he) (hP e he)]
  decide
def ldN (p:Nat->Bool):Nat->Nat
 |0=>0
 |n+1=>if ldN p n=n/\p n=true then n+1 else ldN p n
def tlN (p:Nat->Bool):Nat->Nat
 |0=>0
 |n+1=>if p n=true then tlN p n else n+1
theorem ldN_le (p:Nat->Bool):∀n,ldN p n<=n
 |0=>Nat.le_refl _
 |n+1=>by have:=ldN_le p n;unfold ldN;split<;>omega
theorem oG (p:Nat->Bool):∀n k,k<ldN p n->p k=true
 |0,k,h=>by unfold ldN at h;omega
 | n+1,k,h=>by
  unfold ldN at h
  split at h
  ·rename_i q
   rcases Nat.lt_or_ge k n with hk|hk
   ·exact oG p n k (by omega)
   obtain rfl:k=n:=by omega
   exact q.2
  exact oG p n k h
theorem nN {p:Nat->Bool}{i:Nat}:∀{n:Nat},(∀k,k<i->p k=true)->i<=n->(i=n\/p i=false)->ldN p n=i
 |0,_,h,_=>by unfold ldN;omega
 | n+1,h1,h2,h3=>by
  unfold ldN
  rcases Nat.lt_or_ge i (n+1) with h|h
  ·have hp:p i=false:=h3.resolve_left (by omega)
   have e:=nN (n:=n) h1 (by omega) (.inr hp)
   rw[e,if_neg]
   rintro⟨rfl,q⟩
   rw[hp] at q;cases q
  obtain rfl:i=n+1:=by omega
  have e:=nN (p:=p) (i:=n) (n:=n) (fun k hk=>h1 k (by omega)) (Nat.le_refl _) (.inl rfl)
  rw[e,if_pos ⟨rfl,h1 n (by omega)⟩]
theorem ldN_n {p:Nat->Bool}{n k:Nat}(hk:k<n)(hp:p k=false):ldN p n<=k:=by
 rcases Nat.lt_or_ge k (ldN p n) with h|h
 ·have:=oG p n k h;rw[hp] at this;cases this
 exact h
theorem ldN_at {p:Nat->Bool}:∀{n:Nat},ldN p n<n->p (ldN p n)=false
 | n+1,h=>by
  unfold ldN at h ⊢
  split at h
  ·omega
  rename_i hn
  rw[if_neg hn]
  rcases Nat.lt_or_ge (ldN p n) n with q|q
  ·exact ldN_at q
  have e:ldN p n=n:=by have:=ldN_le p n;omega
  rw[e] at hn ⊢
  rw[<-Bool.not_eq_true]
  exact fun k=>hn ⟨rfl,k⟩
theorem tlN_le (p:Nat->Bool):∀n,tlN p n<=n
 |0=>Nat.le_refl _
 |n+1=>by have:=tlN_le p n;unfold tlN;split<;>omega
theorem tlN_lt {p:Nat->Bool}{k:Nat}(hp:p k=false):∀{n:Nat},k<n->k<tlN p n
 | n+1,h=>by
  unfold tlN
  split
  ·rename_i q
   refine tlN_lt hp ?_
   rcases Nat.lt_or_ge k n with h'|h'
   ·exact h'
   obtain rfl:k=n:=by omega
   rw[hp] at q;cases q
  exact h
theorem tlN_eq {p:Nat->Bool}{j:Nat}(hj:0<j/\p (j-1)=false):∀{n:Nat},j<=n->(∀k,j<=k->k<n->p k=true)->tlN p n=j
 |0,h,_=>by omega
 | n+1,h,h1=>by
  unfold tlN
  rcases Nat.lt_or_ge n j with q|q
  ·obtain rfl:j=n+1:=by omega
   rw[if_neg (by rw[show p n=false from hj.2];decide)]
  rw[if_pos (h1 n q (by omega))]
  exact tlN_eq hj q (fun k a b=>h1 k a (by omega))
def tX0 (b:T6):Int:=if b.1<0 then 0 else b.1
def tY0 (b:T6):Int:=if b.2.1<0 then 0 else b.2.1
def tX1 (W:Int) (b:T6):Int:=if 64*W<b.2.2.1 then 64*W else b.2.2.1
def tY1 (Hh:Int) (b:T6):Int:=if 64*Hh<b.2.2.2.1 then 64*Hh else b.2.2.2.1
def tP (W Hh:Int) (xs:List Int) (b:T6) (s:List (Int×Int)) (g:Int) (k:Nat):Bool:=badB W Hh xs (tX0 b) (tY0 b) (tX1 W b) (tY1 Hh b) (gi (mkB b) k) s g
def tI (W Hh:Int) (xs:List Int) (b:T6) (s:List (Int×Int)) (g:Int):Nat:=ldN (tP W Hh xs b s g) (mkB b).length
def tJ (W Hh:Int) (xs:List Int) (b:T6) (s:List (Int×Int)) (g:Int):Nat:=tlN (tP W Hh xs b s g) (mkB b).length
def tOk (W Hh:Int) (xs:List Int) (b:T6) (s:List (Int×Int)) (g:Int):Bool:=!decide (tX1 W b<tX0 b)&&(!decide (tY1 Hh b<tY0 b)&&decide (tI W Hh xs b s g<(mkB b).length))
def tB (W Hh:Int) (xs:List Int) (b:T6) (s:List (Int×Int)) (g:Int):T6:=(tX0 b,tY0 b,tX1 W b,tY1 Hh b,gi (mkB b) (tI W Hh xs b s g),(((tJ W Hh xs b s g-tI W Hh xs b s g:Nat)):Int))
def InP (b:T6) (x y h:Int):Prop:=(b.1<=x/\x<=b.2.2.1)/\(b.2.1<=y/\y<=b.2.2.2.1)/\dJ b.2.2.2.2.1 b.2.2.2.2.2 h
theorem mkB_n {b:T6}:(mkB b).length=b.2.2.2.2.2.toNat:=eV _ _
theorem inP_idx {b:T6}{x y h:Int}(hb:bj b=true)(hh:0<=h/\h<=255)(k:InP b x y h):∃j:Nat,j<(mkB b).length/\h=gi (mkB b) j:=by
 have ha:=bo.1 (bB.1 hb).2.2
 obtain⟨-,-,hi⟩:=k
 unfold dJ at hi
 refine⟨((h-b.2.2.2.2.1)%256).toNat,by rw[mkB_n];omega,?_⟩
 rw[nM (by rw[mkB_n];omega)]
 omega
theorem cov_in {l:List T6}{x y h:Int}(hh:0<=h/\h<=255)(k:covB l x y h=true):∃b∈l,InP b x y h:=by
 obtain⟨b,hb,h1,h2,h3,-⟩:=covB_iff hh k
 exact⟨b,hb,h1,h2,h3⟩
theorem in_cov {l:List T6}{x y h:Int}(hh:0<=h/\h<=255)(hS:∀b∈l,bj b=true)(k:∃b∈l,InP b x y h):covB l x y h=true/\CovP l x y h:=by
 obtain⟨b,hb,h1,h2,h3⟩:=k
 have hv:=hS b hb
 have hbx:=(bB.1 hv).2.2
 have ha:=bo.1 hbx
 constructor
 ·unfold covB
  rw[List.any_eq_true]
  refine⟨b,hb,?_⟩
  unfold hbB hsgB
  unfold dJ at h3
  rw[show bxB b.1 b.2.1 b.2.2.1 b.2.2.2.1 b.2.2.2.2.1 b.2.2.2.2.2=true from hv,hbx,iS (by omega) (by omega)]
  simp only[Bool.true_and,Bool.and_eq_true,decide_eq_true_eq]
  omega
 obtain⟨j,hj,e⟩:=inP_idx hv hh ⟨h1,h2,h3⟩
 exact⟨b,hb,h1,h2,j,hj,e⟩
theorem tB_ok {W Hh:Int}{xs:List Int}{b:T6}{s:List (Int×Int)}{g:Int}(hW:1<=W/\W<=64)(hH:1<=Hh/\Hh<=64)(hb:bj b=true)(h:tOk W Hh xs b s g=true):bj (tB W Hh xs b s g)=true/\tI W Hh xs b s g<tJ W Hh xs b s g/\tJ W Hh xs b s g<=(mkB b).length:=by
 unfold tOk at h
 simp only[Bool.and_eq_true,Bool.not_eq_true',decide_eq_false_iff_not,decide_eq_true_eq] at h
 obtain⟨h1,h2,h3⟩:=h
 have hb6:=bB.1 hb
 have ha:=bo.1 hb6.2.2
 have hf:tP W Hh xs b s g (tI W Hh xs b s g)=false:=ldN_at h3
 have h4:tI W Hh xs b s g<tJ W Hh xs b s g:=tlN_lt hf h3
 have h5:tJ W Hh xs b s g<=(mkB b).length:=tlN_le _ _
 refine⟨?_,h4,h5⟩
 have hgi:=nM (b:=b) h3
 rw[mkB_n] at h3 h5
 unfold bj tB
 simp only
 refine bB.2 ⟨?_,?_,bo.2 ?_⟩
 ·have q1:(tX0 b=0/\b.1<0)\/(tX0 b=b.1/\0<=b.1):=by unfold tX0;split<;>omega
  have q2:(tX1 W b=64*W/\64*W<b.2.2.1)\/(tX1 W b=b.2.2.1/\b.2.2.1<=64*W):=by unfold tX1;split<;>omega
  omega
 ·have q1:(tY0 b=0/\b.2.1<0)\/(tY0 b=b.2.1/\0<=b.2.1):=by unfold tY0;split<;>omega
  have q2:(tY1 Hh b=64*Hh/\64*Hh<b.2.2.2.1)\/(tY1 Hh b=b.2.2.2.1/\b.2.2.2.1<=64*Hh):=by unfold tY1;split<;>omega
  omega
 rw[hgi];omega
theorem trim_keep {W Hh:Int}{ks xs:List Int}{b:T6}{s:List (Int×Int)}{x y h g:Int}(hk:dZ ks xs)(hx:0<=x/\x<=64*W)(hy:0<=y/\y<=64*Hh)(hh:0<=h/\h<=255)(hb:bj b=true)(hg:1<=g/\g<=32)(hs:∀e∈s,ga e=true)(hP:∀e∈s,gA W Hh xs x y h g e)(hi:InP b x y h):tOk W Hh ks b s g=true/\InP (tB W Hh ks b s g) x y h:=by
 obtain⟨j,hj,e⟩:=inP_idx hb hh hi
 obtain⟨h1,h2,h3⟩:=hi
 have x0:tX0 b<=x/\x<=tX1 W b:=by unfold tX0 tX1;split<;>split<;>omega
 have y0:tY0 b<=y/\y<=tY1 Hh b:=by unfold tY0 tY1;split<;>split<;>omega
 have hp:tP W Hh ks b s g j=false:=by
  unfold tP
  rw[<-e]
  exact bad_f hk x0 y0 hg hs hP
 have hI:tI W Hh ks b s g<=j:=ldN_n hj hp
 have hJ:j<tJ W Hh ks b s g:=tlN_lt hp hj
 have hJ2:tJ W Hh ks b s g<=(mkB b).length:=tlN_le _ _
 constructor
 ·unfold tOk
  rw[decide_eq_false (show ¬tX1 W b<tX0 b by omega),decide_eq_false (show ¬tY1 Hh b<tY0 b by omega),decide_eq_true (show tI W Hh ks b s g<(mkB b).length by omega)]
  rfl
 refine⟨x0,y0,?_⟩
 have ha:=bo.1 (bB.1 hb).2.2
 have g1:=nM hj
 have g2:=nM (b:=b) (j:=tI W Hh ks b s g) (by omega)
 rw[mkB_n] at hj hJ2
 unfold dJ tB
 simp only
 rw[e,g1,g2]
 omega
def eu (n u:Int):Int:=if n=1 then 0 else n*u
def gX (b:T6):Int:=eu (b.2.2.1-b.1+1) 1
def iB (b:T6):Int:=eu (b.2.2.2.1-b.2.1+1) 1
def splC (b:T6):Int:=eu b.2.2.2.2.2 8
def dT (b:T6):Int:=if bj b=true then (b.2.2.1-b.1+1)*(b.2.2.2.1-b.2.1+1)*b.2.2.2.2.2 else 0
def dh (b:T6):Bool:=!decide (dT b<2)
def dL (b:T6):T6:=if iB b<=gX b/\splC b<=gX b then (b.1,b.2.1,b.1+(b.2.2.1-b.1+1)/2-1,b.2.2.2.1,b.2.2.2.2.1,b.2.2.2.2.2)
 else if splC b<=iB b then (b.1,b.2.1,b.2.2.1,b.2.1+(b.2.2.2.1-b.2.1+1)/2-1,b.2.2.2.2.1,b.2.2.2.2.2)
 else (b.1,b.2.1,b.2.2.1,b.2.2.2.1,b.2.2.2.2.1,b.2.2.2.2.2/2)
def dM (b:T6):T6:=if iB b<=gX b/\splC b<=gX b then (b.1+(b.2.2.1-b.1+1)/2,b.2.1,b.2.2.1,b.2.2.2.1,b.2.2.2.2.1,b.2.2.2.2.2)
 else if splC b<=iB b then (b.1,b.2.1+(b.2.2.2.1-b.2.1+1)/2,b.2.2.1,b.2.2.2.1,b.2.2.2.2.1,b.2.2.2.2.2)
 else (b.1,b.2.1,b.2.2.1,b.2.2.2.1,(b.2.2.2.2.1+b.2.2.2.2.2/2)%256,b.2.2.2.2.2-b.2.2.2.2.2/2)
theorem splS_1 {n:Int}(h:1<=n):(eu n 1=0/\n=1)\/(eu n 1=n/\2<=n):=by unfold eu;split<;>omega
theorem splS_8 {n:Int}(h:1<=n):(eu n 8=0/\n=1)\/(eu n 8=8*n/\2<=n):=by unfold eu;split<;>omega
theorem spl_ok {b:T6}(hb:bj b=true)(h:dh b=true):bj (dL b)=true/\bj (dM b)=true/\∀x y h:Int,InP b x y h->InP (dL b) x y h\/InP (dM b) x y h:=by
 have hb6:=bB.1 hb
 have ha:=bo.1 hb6.2.2
 have hA:(gX b=0/\b.2.2.1-b.1+1=1)\/(gX b=b.2.2.1-b.1+1/\2<=b.2.2.1-b.1+1):=splS_1 (by omega)
 have hB:(iB b=0/\b.2.2.2.1-b.2.1+1=1)\/(iB b=b.2.2.2.1-b.2.1+1/\2<=b.2.2.2.1-b.2.1+1):=splS_1 (by omega)
 have hC:(splC b=0/\b.2.2.2.2.2=1)\/(splC b=8*b.2.2.2.2.2/\2<=b.2.2.2.2.2):=splS_8 (by omega)
 have hn:¬(b.2.2.1-b.1+1=1/\b.2.2.2.1-b.2.1+1=1/\b.2.2.2.2.2=1):=fun ⟨q1,q2,q3⟩=>by
  unfold dh dT at h
  rw[if_pos hb,q1,q2,q3] at h
  revert h;decide
 unfold dL dM
 split
 ·rename_i hc
  refine⟨?_,?_,fun x y h ⟨k1,k2,k3⟩=>?_⟩
  ·exact bB.2 ⟨by simp only;omega,hb6.2.1,hb6.2.2⟩
  ·exact bB.2 ⟨by simp only;omega,hb6.2.1,hb6.2.2⟩
  rcases Int.lt_or_le x (b.1+(b.2.2.1-b.1+1)/2) with q|q
  ·exact .inl ⟨by simp only;omega,k2,k3⟩
  exact .inr ⟨by simp only;omega,k2,k3⟩
 split
 ·rename_i hc0 hc
  refine⟨?_,?_,fun x y h ⟨k1,k2,k3⟩=>?_⟩
  ·exact bB.2 ⟨hb6.1,by simp only;omega,hb6.2.2⟩
  ·exact bB.2 ⟨hb6.1,by simp only;omega,hb6.2.2⟩
  rcases Int.lt_or_le y (b.2.1+(b.2.2.2.1-b.2.1+1)/2) with q|q
  ·exact .inl ⟨k1,by simp only;omega,k3⟩
  exact .inr ⟨k1,by simp only;omega,k3⟩
 rename_i hc0 hc
 refine⟨?_,?_,fun x y h ⟨k1,k2,k3⟩=>?_⟩
 ·exact bB.2 ⟨hb6.1,hb6.2.1,bo.2 (by simp only;omega)⟩
 ·exact bB.2 ⟨hb6.1,hb6.2.1,bo.2 (by simp only;omega)⟩
 unfold dJ at k3
 rcases Int.lt_or_le ((h-b.2.2.2.2.1)%256) (b.2.2.2.2.2/2) with q|q
 ·exact .inl ⟨k1,k2,by unfold dJ;simp only;omega⟩
 exact .inr ⟨k1,k2,by unfold dJ;simp only;omega⟩
def rfn (W Hh:Int) (xs:List Int) (s:List (Int×Int)) (g:Int):Nat->List T6->Nat->List T6->List T6
 |0,_,_,O=>O
 |_+1,[],_,O=>O
 |n+1,b::Q,k,O=>if tOk W Hh xs b s g=true then (if 0<k/\dh (tB W Hh xs b s g)=true then rfn W Hh xs s g n (Q++[dL (tB W Hh xs b s g),dM (tB W Hh xs b s g)]) (k-1) O else rfn W Hh xs s g n Q k (O++[tB W Hh xs b s g])) else rfn W Hh xs s g n Q k O
def bL (W Hh:Int) (xs:List Int) (l:List T6) (s:List (Int×Int)) (g:Int) (k:Nat):List T6:=rfn W Hh xs s g (l.length+2*k) l k []
theorem jl {W Hh:Int}{xs:List Int}{s:List (Int×Int)}{g:Int}(hW:1<=W/\W<=64)(hH:1<=Hh/\Hh<=64):∀(n:Nat) (Q:List T6) (k:Nat) (O:List T6),n=Q.length+2*k->(∀b∈Q,bj b=true)->(∀b∈O,bj b=true)->(∀b∈rfn W Hh xs s g n Q k O,bj b=true)/\(rfn W Hh xs s g n Q k O).length<=Q.length+k+O.length
 |0,Q,k,O,hn,hQ,hO=>⟨hO,by unfold rfn;omega⟩
 |n+1,[],k,O,hn,hQ,hO=>⟨hO,by unfold rfn;omega⟩
 | n + 1,b::Q,k,O,hn,hQ,hO=>by
  have hb:=hQ b (List.mem_cons_self ..)
  have hQ':∀b∈Q,bj b=true:=fun c hc=>hQ c (List.mem_cons_of_mem _ hc)
  rw[List.length_cons] at hn ⊢
  unfold rfn
  split
  ·rename_i ht
   have hb':=(tB_ok hW hH hb ht).1
   split
   ·rename_i h2
    have hs:=spl_ok hb' h2.2
    have ih:=jl hW hH (xs:=xs) (s:=s) (g:=g) n (Q++[dL (tB W Hh xs b s g),dM (tB W Hh xs b s g)]) (k-1) O (by rw[List.length_append];simp only[List.length_cons,List.length_nil];omega) (fun c hc=>by
     rcases List.mem_append.1 hc with hc|hc
     ·exact hQ' c hc
     rcases List.mem_cons.1 hc with hc|hc
     ·rw[hc];exact hs.1
     rw[List.mem_singleton.1 hc];exact hs.2.1) hO
    refine⟨ih.1,?_⟩
    have:=ih.2
    rw[List.length_append] at this
    simp only[List.length_cons,List.length_nil] at this
    omega
   have hO':∀c∈O++[tB W Hh xs b s g],bj c=true:=fun c hc=>by
    rcases List.mem_append.1 hc with hc|hc
    ·exact hO c hc
    rw[List.mem_singleton.1 hc];exact hb'
   rcases Nat.eq_zero_or_pos n with hn0|hn0
   ·subst hn0
    refine⟨hO',?_⟩
    unfold rfn
    rw[List.length_append];simp only[List.length_cons,List.length_nil];omega
   have ih:=jl hW hH (xs:=xs) (s:=s) (g:=g) n Q k (O++[tB W Hh xs b s g]) (by omega) hQ' hO'
   refine⟨ih.1,?_⟩
   have:=ih.2
   rw[List.length_append] at this
   simp only[List.length_cons,List.length_nil] at this
   omega
  have ih:=jl hW hH (xs:=xs) (s:=s) (g:=g) n Q k O (by omega) hQ' hO
  exact⟨ih.1,by have:=ih.2;omega⟩
theorem kK {W Hh:Int}{ks xs:List Int}{s:List (Int×Int)}{x y h g:Int}(hW:1<=W/\W<=64)(hH:1<=Hh/\Hh<=64)(hk:dZ ks xs)(hx:0<=x/\x<=64*W)(hy:0<=y/\y<=64*Hh)(hh:0<=h/\h<=255)(hg:1<=g/\g<=32)(hs:∀e∈s,ga e=true)(hP:∀e∈s,gA W Hh xs x y h g e):∀(n:Nat) (Q:List T6) (k:Nat) (O:List T6),n=Q.length+2*k->(∀b∈Q,bj b=true)->((∃b∈Q,InP b x y h)\/∃b∈O,InP b x y h)->∃b∈rfn W Hh ks s g n Q k O,InP b x y h
 | 0,Q,k,O,hn,hQ,hI=>by
  have:Q=[]:=List.eq_nil_of_length_eq_zero (by omega)
  subst this
  exact hI.resolve_left (by simp)
 |n+1,[],k,O,hn,hQ,hI=>hI.resolve_left (by simp)
 | n + 1,b::Q,k,O,hn,hQ,hI=>by
  have hb:=hQ b (List.mem_cons_self ..)
  have hQ':∀b∈Q,bj b=true:=fun c hc=>hQ c (List.mem_cons_of_mem _ hc)
  rw[List.length_cons] at hn
  have keep:=fun hi=>trim_keep hk hx hy hh hb hg hs hP hi
  unfold rfn
  split
  ·rename_i ht
   have hb':=(tB_ok hW hH hb ht).1
   split
   ·rename_i h2
    have hs2:=spl_ok hb' h2.2
    refine kK hW hH hk hx hy hh hg hs hP n (Q++[dL (tB W Hh ks b s g),dM (tB W Hh ks b s g)]) (k-1) O (by rw[List.length_append];simp only[List.length_cons,List.length_nil];omega) (fun c hc=>by
     rcases List.mem_append.1 hc with hc|hc
     ·exact hQ' c hc
     rcases List.mem_cons.1 hc with hc|hc
     ·rw[hc];exact hs2.1
     rw[List.mem_singleton.1 hc];exact hs2.2.1) ?_
    rcases hI with ⟨c,hc,hi⟩|hI
    ·rcases List.mem_cons.1 hc with hc|hc
     ·rw[hc] at hi
      rcases hs2.2.2 x y h (keep hi).2 with q|q
      ·exact .inl ⟨_,List.mem_append_right _ (List.mem_cons_self ..),q⟩
      exact .inl ⟨_,List.mem_append_right _ (List.mem_cons_of_mem _ (List.mem_singleton.2 rfl)),q⟩
     exact .inl ⟨c,List.mem_append_left _ hc,hi⟩
    exact .inr hI
   have hI':(∃b∈Q,InP b x y h)\/∃c∈O++[tB W Hh ks b s g],InP c x y h:=by
    rcases hI with ⟨c,hc,hi⟩|⟨c,hc,hi⟩
    ·rcases List.mem_cons.1 hc with hc|hc
     ·rw[hc] at hi
      exact .inr ⟨_,List.mem_append_right _ (List.mem_singleton.2 rfl),(keep hi).2⟩
     exact .inl ⟨c,hc,hi⟩
    exact .inr ⟨c,List.mem_append_left _ hc,hi⟩
   exact kK hW hH hk hx hy hh hg hs hP n Q k _ (by omega) hQ' hI'
  rename_i ht
  refine kK hW hH hk hx hy hh hg hs hP n Q k O (by omega) hQ' ?_
  rcases hI with ⟨c,hc,hi⟩|hI
  ·rcases List.mem_cons.1 hc with hc|hc
   ·rw[hc] at hi
    exact absurd (keep hi).1 ht
   exact .inl ⟨c,hc,hi⟩
  exact .inr hI
theorem rL {W Hh:Int}{ks xs:List Int}{l:List T6}{sc:List (Int×Int)}{g x y h:Int}(hR:eo W Hh ks l sc g=true)(hk:dZ ks xs)(hV:bC W Hh xs=true)(hB:∀i,i<xs.length->1<=gi xs i/\gi xs i<=2)(hc:CovP l x y h)(hP:∀e∈sc,gA W Hh xs x y h g e):∃o,lnO W Hh ks l sc g=some o/\dZ o xs:=by
 obtain⟨hVk,hl0,hS,hsB,hg⟩:=gT.1 hR
 have hv:=bh.1 hV
 obtain⟨b,hb,hx,hy,j,hj,rfl⟩:=hc
 unfold lnO
 by_cases ht:fG l=true
 ·rw[if_pos ht]
  obtain ⟨q,hq,hqB⟩:=pL (t:=xs) (W:=W) (H:=Hh) hv.len (l:=aR W Hh l sc g) (o:=ks) (fun c hc=>by
   obtain⟨-,hin,e,he,hp⟩:=(mem_all hR).1 hc
   refine⟨hin,?_⟩
   have hlt:=oF hv.len hin
   have hne:¬atI W Hh xs c.1 c.2=2:=fun hw=>by
    have k2:=psC_pt hS hb hx hy hj hp
    have k1:sqBf x y (aF (gi (mkB b) j) e.1) (ar e.2 g) c=false:=by
     by_cases hr:e.2 = -1
     ·have e1:ar e.2 g=1024-g:=if_pos hr
      rw[e1] at k2 ⊢
      rw[<-Bool.not_eq_true]
      intro hbf
      have q:=(hP e he).2 hr c hw
      have p:=dS hbf
      obtain⟨n,m,a1,a2,a3,a4⟩:=p.2.2
      have:eZ x y (aF (gi (mkB b) j) e.1) 0 (1024-g) c=true:=mZ p.1 p.2.1 ⟨n,m,a1,a2,Int.le_of_lt a3,a4⟩
      rw[this] at q;cases q
     have e1:ar e.2 g=e.2-g:=if_neg hr
     rw[e1]
     exact((hP e he).1 hr).1 c hw
    rw[k2] at k1;cases k1
   have hb12:=hB _ hlt
   rw[at_in hin] at hne ⊢
   omega) hk
  rw[hq]
  obtain ⟨q2,hq2,hqB2⟩:=pM (t:=xs) (W:=W) (H:=Hh) hv.len (l:=iz l sc g) (o:=q) (fun s hs=>by
   obtain⟨e,he,rfl⟩:=List.mem_map.1 hs
   obtain⟨he1,he2⟩:=List.mem_filter.1 he
   have hr1:¬e.2 = -1:=by simpa using he2
   have hbe:=gb.1 ((dF.1 hsB).2 e he1)
   obtain⟨-,c,hcW,hc2,hcm⟩:=(hP e he1).1 hr1
   exact⟨c,sus_pt hS ht (by omega) hg hb hx hy hj hcW hcm,hc2⟩) hqB
  exact⟨q2,hq2,hqB2⟩
 rw[if_neg ht]
 exact⟨ks,rfl,hk⟩
section
variable {W Hh:Int} {xs:List Int} {x y:Int}
end
theorem lwD_pos {n d:Int}(hd:0<d):0<lwD n d:=by
 have hg:=lY (n:=n) hd
 unfold lwD
 obtain⟨b,hb⟩:(Int.gcd n d:Int) ∣ d:=Int.gcd_dvd_right ..
 generalize (Int.gcd n d:Int)=g at *
 subst hb
 rw[Int.mul_ediv_cancel_left _ (by omega)]
 rcases Int.lt_or_le 0 b with h|h
 ·exact h
 have:=Int.mul_nonpos_of_nonneg_of_nonpos (show 0<=g by omega) h;omega
def peS (px py vx vy:Int) (c:Int×Int):Fr2×Fr2:=thS px py vx vy (c.1*64) (c.2*64) (c.1*64+64) (c.2*64+64)
def peN (px py vx vy vd:Int) (c:Int×Int):Int:=lwN ((peS px py vx vy c).1.1*vd) (peS px py vx vy c).1.2
def peD (px py vx vy vd:Int) (c:Int×Int):Int:=lwD ((peS px py vx vy c).1.1*vd) (peS px py vx vy c).1.2
def peC (px py vx vy vd:Int) (c:Int×Int):Int×Int:=(peN px py vx vy vd c,peD px py vx vy vd c)
def onC (px py vx vy vd:Int) (c:Int×Int):Bool:=thO px py vx vy vd (c.1*64) (c.2*64) (c.1*64+64) (c.2*64+64)
def wlB (W Hh:Int) (xs:List Int) (c:Int×Int):Bool:=atI W Hh xs c.1 c.2==2
theorem gY {px py vx vy:Int}{c:Int×Int}:0<(peS px py vx vy c).1.2:=im.1
theorem oH {px py vx vy vd:Int}(c:Int×Int):0<(peC px py vx vy vd c).2:=lwD_pos gY
theorem on_nn {px py vx vy vd:Int}{c:Int×Int}(h:onC px py vx vy vd c=true):0<=(peS px py vx vy c).1.1/\dq px py vx vy (c.1*64) (c.2*64) (c.1*64+64) (c.2*64+64) (peS px py vx vy c).1.1 (peS px py vx vy c).1.2:=by
 obtain⟨hg,hb⟩:=jw h
 have k:=(lV im.1 hb).1 (th_lo (fg hg).2 hb)
 exact⟨k.1.1,k.2⟩
theorem jA {px py vx vy vd:Int}{c:Int×Int}(h:onC px py vx vy vd c=true):0<=peN px py vx vy vd c/\0<peD px py vx vy vd c/\peD px py vx vy vd c<=67108864/\(0<=(peS px py vx vy c).1.1/\(peS px py vx vy c).1.1<=8388608)/\0<(peS px py vx vy c).1.2/\(peS px py vx vy c).1.2<=67108864:=by
 obtain⟨hg,hb⟩:=jw h
 have n0:=(on_nn h).1
 have hv:=bk.1 (cm.1 hg).2.1
 obtain⟨⟨b1,b2⟩,b3,b4⟩:=(ly hg).2.1
 have hp:0<(peS px py vx vy c).1.2:=gY
 have n1:(peS px py vx vy c).1.1<=8388608:=b2
 have n2:(peS px py vx vy c).1.2<=67108864:=b4
 have m1:=bg (a:=(peS px py vx vy c).1.1) (b:=vd) (A:=8388608) (B:=67108864) (by omega) (by omega)
 have m2:=Int.mul_nonneg n0 (show 0<=vd by omega)
 have k:=lw_bd (n:=(peS px py vx vy c).1.1*vd) (d:=(peS px py vx vy c).1.2) (B:=562949953421312) (by omega) hp
 exact⟨k.1.1,k.2.1,Int.le_trans k.2.2 n2,⟨n0,n1⟩,hp,n2⟩
theorem kL {x y hi:Int}{v:Int×Int×Int}{c:Int×Int}(h:eZ x y v 0 hi c=true):onC x y v.1 v.2.1 v.2.2 c=true/\peN x y v.1 v.2.1 v.2.2 c<=hi*peD x y v.1 v.2.1 v.2.2 c:=by
 unfold eZ dR iw at h
 simp only[Bool.and_eq_true,decide_eq_true_eq] at h
 obtain⟨-,-,-,hg,hb,-,hl⟩:=h
 refine⟨?_,(lw_le gY).1.2 hl⟩
 unfold onC thO;rw[hg,hb];rfl
theorem on_me {x y lo hi:Int}{v:Int×Int×Int}{c:Int×Int}(h:onC x y v.1 v.2.1 v.2.2 c=true)(h0:0<=lo/\lo<=hi/\hi<=65536)(h1:lo*peD x y v.1 v.2.1 v.2.2 c<=peN x y v.1 v.2.1 v.2.2 c)(h2:peN x y v.1 v.2.1 v.2.2 c<=hi*peD x y v.1 v.2.1 v.2.2 c):eZ x y v lo hi c=true:=by
 have k:=on_nn h
 exact dE.2 ⟨h0,(jw h).1,_,_,k.1,gY,(lw_le gY).2.1 h1,(lw_le gY).1.1 h2,k.2⟩
theorem bf_on {x y far:Int}{v:Int×Int×Int}{c:Int×Int}(h:sqBf x y v far c=true):onC x y v.1 v.2.1 v.2.2 c=true/\peN x y v.1 v.2.1 v.2.2 c<far*peD x y v.1 v.2.1 v.2.2 c/\0<=far:=by
 unfold sqBf dg bfrB at h
 simp only[Bool.and_eq_true,decide_eq_true_eq] at h
 obtain⟨h0,-,hg,hb,hl⟩:=h
 refine⟨?_,(lw_lt gY).2 hl,h0⟩
 unfold onC thO;rw[hg,hb];rfl
theorem ray_near {px py vx vy vd hi x0 y0 x1 y1 n m:Int}(hn:0<=n)(hm:0<m)(h:n*vd<=hi*m)(hx : -vd<=vx/\vx<=vd)(hy : -vd<=vy/\vy<=vd)(hr:dq px py vx vy x0 y0 x1 y1 n m):(x0<=px+hi/\px-hi<=x1)/\y0<=py+hi/\py-hi<=y1:=by
 have one:∀{p v a b:Int},-vd<=v/\v<=vd->m*a<=m*p+n*v->m*p+n*v<=m*b->a<=p+hi/\p-hi<=b:=fun {p v a b} hv k1 k2=>by
  have a1:=Int.mul_le_mul_of_nonneg_left hv.2 hn
  have a2:=Int.mul_le_mul_of_nonneg_left hv.1 hn
  have e0:n * -vd = -(n*vd):=Int.mul_neg _ _
  have e1:m*(p+hi)=m*p+hi*m:=by grind
  have e2:m*(p-hi)=m*p-hi*m:=by grind
  exact⟨Int.le_of_mul_le_mul_left (by omega) hm,Int.le_of_mul_le_mul_left (by omega) hm⟩
 exact⟨one hx hr.1.1 hr.1.2,one hy hr.2.1 hr.2.2⟩
theorem oI {x y hi lo:Int}{v:Int×Int×Int}{c:Int×Int}(h:eZ x y v lo hi c=true):(c.1*64<=x+hi/\x-hi<=c.1*64+64)/\c.2*64<=y+hi/\y-hi<=c.2*64+64:=by
 obtain⟨-,hg,n,m,k1,k2,-,k4,k5⟩:=dE.1 h
 have hv:=bk.1 (cm.1 hg).2.1
 exact ray_near k1 k2 k4 (by omega) (by omega) k5
theorem fP {x y most:Int}{v:Int×Int×Int}{c:Int×Int}(hx : -1048576<=x/\x<=1048576)(hy : -1048576<=y/\y<=1048576)(hv:da v.1 v.2.1 v.2.2=true)(hm:0<=most/\most<=2048):c∈trL x y v.1 v.2.1 v.2.2 0 most↔eZ x y v 0 most c=true:=by
 rw[(trE_0 (fO.2 ⟨hx,hy⟩) hv ⟨Int.le_refl _,hm.1,hm.2⟩).2,jk (by omega) (by omega) hv ⟨Int.le_refl _,hm.1,hm.2⟩]
 constructor
 ·intro h
  have hc:=swp_bd h
  unfold cl dY at h
  simp only[Bool.and_eq_true,bA] at h
  obtain⟨⟨k1,-,k3⟩,k4⟩:=h
  obtain⟨-,-,n,m,q1,q2,q3,q4,q5⟩:=dE.1 k4
  exact dE.2 ⟨by omega,cm.2 ⟨cE.2 (by omega),hv,bA.2 (by omega)⟩,n,m,q1,q2,q3,q4,ray_sh.2 q5⟩
 intro h
 have hn:=oI h
 obtain⟨-,-,n,m,q1,q2,q3,q4,q5⟩:=dE.1 h
 unfold cl dY
 simp only[Bool.and_eq_true]
 exact⟨⟨bA.2 (by omega),bA.2 (by omega),bA.2 (by omega)⟩,dE.2 ⟨by omega,cm.2 ⟨cE.2 (by omega),hv,bA.2 (by omega)⟩,n,m,q1,q2,q3,q4,ray_sh.1 q5⟩⟩
def fpA (W Hh:Int) (xs:List Int) (px py vx vy vd most:Int) (i:Nat):Option (Int×Int):=fsF (wlB W Hh xs) (peC px py vx vy vd) ((trL px py vx vy vd 0 most).take i)
def fpZ (W Hh:Int) (xs:List Int) (px py vx vy vd most:Int):Option (Int×Int):=fpA W Hh xs px py vx vy vd most (trL px py vx vy vd 0 most).length
def fpN (px py vx vy vd:Int) (s:Option (Int×Int)):Int:=match s with|none=>0|some c=>peN px py vx vy vd c
def fpD (px py vx vy vd:Int) (s:Option (Int×Int)):Int:=match s with|none=>0|some c=>peD px py vx vy vd c
theorem fpA_0 {W Hh:Int}{xs:List Int}{px py vx vy vd most:Int}:fpA W Hh xs px py vx vy vd most 0=none:=rfl
theorem fpA_s {W Hh:Int}{xs:List Int}{px py vx vy vd most:Int}{i:Nat}(hi:i<(trL px py vx vy vd 0 most).length):fpA W Hh xs px py vx vy vd most (i+1)=eE (wlB W Hh xs) (peC px py vx vy vd) (fpA W Hh xs px py vx vy vd most i) (g1 (trL px py vx vy vd 0 most) i,g2 (trL px py vx vy vd 0 most) i):=by
 unfold fpA fsF
 rw[List.take_succ_eq_append_getElem hi,List.foldl_append,<-ct hi];rfl
theorem fpA_mem {W Hh:Int}{xs:List Int}{px py vx vy vd most:Int}{i:Nat}{b:Int×Int}(h:fpA W Hh xs px py vx vy vd most i=some b):b∈trL px py vx vy vd 0 most/\atI W Hh xs b.1 b.2=2:=by
 obtain⟨h1,h2,-⟩:=fs_some oH h
 exact⟨List.mem_of_mem_take h1,by unfold wlB at h2;simpa using h2⟩
theorem kM {W Hh:Int}{xs:List Int}{px py vx vy vd most:Int}{b:Int×Int}(h:fpZ W Hh xs px py vx vy vd most=some b):b∈trL px py vx vy vd 0 most/\atI W Hh xs b.1 b.2=2/\∀c∈trL px py vx vy vd 0 most,atI W Hh xs c.1 c.2=2->peN px py vx vy vd b*peD px py vx vy vd c<=peN px py vx vy vd c*peD px py vx vy vd b:=by
 have k:=fpA_mem h
 obtain⟨-,-,h3⟩:=fs_some oH h
 rw[List.take_length] at h3
 exact⟨k.1,k.2,fun c hc hw=>h3 c hc (by unfold wlB;rw[hw];rfl)⟩
theorem fpZ_none {W Hh:Int}{xs:List Int}{px py vx vy vd most:Int}(h:fpZ W Hh xs px py vx vy vd most=none):∀c∈trL px py vx vy vd 0 most,¬atI W Hh xs c.1 c.2=2:=fun c hc hw=>by
 have k:=(fs_none oH).1 h c (by rw[List.take_length];exact hc)
 unfold wlB at k
 rw[hw] at k;cases k
section
variable {W Hh:Int} {xs:List Int} {x y h m g z:Int} {c:Int×Int}
theorem oJ {x y lo hi hi2:Int}{v:Int×Int×Int}{c:Int×Int}(h:eZ x y v lo hi c=true)(k:hi<=hi2/\hi2<=65536):eZ x y v lo hi2 c=true:=by
 obtain⟨a,b,n,m,q1,q2,q3,q4,q5⟩:=dE.1 h
 have:=Int.mul_le_mul_of_nonneg_right k.1 (show 0<=m by omega)
 exact dE.2 ⟨by omega,b,n,m,q1,q2,q3,by omega,q5⟩
theorem bf_me {x y far:Int}{v:Int×Int×Int}{c:Int×Int}(h:sqBf x y v far c=true):eZ x y v 0 far c=true:=by
 have p:=dS h
 obtain⟨n,m,a1,a2,a3,a4⟩:=p.2.2
 exact mZ p.1 p.2.1 ⟨n,m,a1,a2,Int.le_of_lt a3,a4⟩
theorem fp_near {most far:Int}{v:Int×Int×Int}(hx : -1048576<=x/\x<=1048576)(hy : -1048576<=y/\y<=1048576)(hv:da v.1 v.2.1 v.2.2=true)(hm:0<=most/\most<=2048)(hf:fpZ W Hh xs x y v.1 v.2.1 v.2.2 most=some c)(h1:far*peD x y v.1 v.2.1 v.2.2 c<=peN x y v.1 v.2.1 v.2.2 c)(hfm:far<=most):∀c',atI W Hh xs c'.1 c'.2=2->sqBf x y v far c'=false:=fun c' hw=>by
 rw[<-Bool.not_eq_true]
 intro hb
 obtain⟨hcm,-,hmin⟩:=kM hf
 obtain⟨ho',hlt,h0⟩:=bf_on hb
 have hc':c'∈trL x y v.1 v.2.1 v.2.2 0 most:=(fP hx hy hv hm).2 (oJ (bf_me hb) ⟨hfm,by omega⟩)
 have k:=hmin c' hc' hw
 have ho:=(kL ((fP hx hy hv hm).1 hcm)).1
 have p:=jA ho
 have p':=jA ho'
 have a1:=Int.mul_lt_mul_of_pos_right hlt p.2.1
 have a2:=Int.mul_le_mul_of_nonneg_right h1 (show 0<=peD x y v.1 v.2.1 v.2.2 c' by omega)
 have e:far*peD x y v.1 v.2.1 v.2.2 c'*peD x y v.1 v.2.1 v.2.2 c=far*peD x y v.1 v.2.1 v.2.2 c*peD x y v.1 v.2.1 v.2.2 c':=by grind
 omega
theorem fp_clos {most far:Int}{v:Int×Int×Int}(hx : -1048576<=x/\x<=1048576)(hy : -1048576<=y/\y<=1048576)(hv:da v.1 v.2.1 v.2.2=true)(hm:0<=most/\most<=2048)(hf:fpZ W Hh xs x y v.1 v.2.1 v.2.2 most=some c)(h1:far*peD x y v.1 v.2.1 v.2.2 c<peN x y v.1 v.2.1 v.2.2 c)(hfm:far<=most):∀c',atI W Hh xs c'.1 c'.2=2->eZ x y v 0 far c'=false:=fun c' hw=>by
 rw[<-Bool.not_eq_true]
 intro hb
 obtain⟨hcm,-,hmin⟩:=kM hf
 obtain⟨ho',hlt⟩:=kL hb
 have hc':c'∈trL x y v.1 v.2.1 v.2.2 0 most:=(fP hx hy hv hm).2 (oJ hb ⟨hfm,by omega⟩)
 have k:=hmin c' hc' hw
 have ho:=(kL ((fP hx hy hv hm).1 hcm)).1
 have p:=jA ho
 have p':=jA ho'
 have a1:=Int.mul_le_mul_of_nonneg_right hlt (show 0<=peD x y v.1 v.2.1 v.2.2 c by omega)
 have a2:=Int.mul_lt_mul_of_pos_right h1 p'.2.1
 have e:far*peD x y v.1 v.2.1 v.2.2 c'*peD x y v.1 v.2.1 v.2.2 c=far*peD x y v.1 v.2.1 v.2.2 c*peD x y v.1 v.2.1 v.2.2 c':=by grind
 omega
theorem fp_no {most far:Int}{v:Int×Int×Int}(hx : -1048576<=x/\x<=1048576)(hy : -1048576<=y/\y<=1048576)(hv:da v.1 v.2.1 v.2.2=true)(hm:0<=most/\most<=2048)(hf:fpZ W Hh xs x y v.1 v.2.1 v.2.2 most=none)(hfm:far<=most):∀c',atI W Hh xs c'.1 c'.2=2->eZ x y v 0 far c'=false:=fun c' hw=>by
 rw[<-Bool.not_eq_true]
 intro hb
 exact fpZ_none hf c' ((fP hx hy hv hm).2 (oJ hb ⟨hfm,by omega⟩)) hw
theorem plau_some {most:Int}(hx:0<=x/\x<=4096)(hy:0<=y/\y<=4096)(hz:0<=z/\z<=1024)(hg:1<=g/\g<=32)(hm:0<=most/\most<=1056)(hzm:z-g<=most)(hf:fpZ W Hh xs x y (aF h m).1 (aF h m).2.1 (aF h m).2.2 most=some c)(h1:(z-g)*peD x y (aF h m).1 (aF h m).2.1 (aF h m).2.2 c<=peN x y (aF h m).1 (aF h m).2.1 (aF h m).2.2 c)(h2:peN x y (aF h m).1 (aF h m).2.1 (aF h m).2.2 c<=(z+g)*peD x y (aF h m).1 (aF h m).2.1 (aF h m).2.2 c):gA W Hh xs x y h g (m,z):=by
 obtain⟨hcm,hw,-⟩:=kM hf
 have hme:=(fP (v:=aF h m) (by omega) (by omega) (gS _ _) ⟨hm.1,by omega⟩).1 hcm
 have ho:=(kL hme).1
 have hn:=oI hme
 have p:=jA ho
 refine⟨fun _=>⟨fp_near (v:=aF h m) (by omega) (by omega) (gS _ _) ⟨hm.1,by omega⟩ hf h1 hzm,c,by omega,hw,?_⟩,fun e=>by have e:z = -1:=e;omega⟩
 refine on_me (v:=aF h m) ho ?_ ?_ h2
 ·show 0<=eq z g/\eq z g<=z+g/\z+g<=65536
  unfold eq;split<;>omega
 show eq z g*_<=_
 unfold eq;split
 ·exact h1
 rw[Int.zero_mul];exact p.1
theorem pP (hc:∀c',atI W Hh xs c'.1 c'.2=2->eZ x y (aF h m) 0 (1024-g) c'=false):gA W Hh xs x y h g (m,-1):=⟨fun e=>absurd rfl e,fun _=>hc⟩
def lkS (W Hh:Int) (xs:List Int) (x y h m most:Int):Option (Int×Int):=fpZ W Hh xs x y (aF h m).1 (aF h m).2.1 (aF h m).2.2 most
def lkN (W Hh:Int) (xs:List Int) (x y h m most:Int):Int:=fpN x y (aF h m).1 (aF h m).2.1 (aF h m).2.2 (lkS W Hh xs x y h m most)
def lkD (W Hh:Int) (xs:List Int) (x y h m most:Int):Int:=fpD x y (aF h m).1 (aF h m).2.1 (aF h m).2.2 (lkS W Hh xs x y h m most)
def clp1 (e g:Int):Int:=if e<1-g then 1-g else e
def clpE (e g:Int):Int:=if g<clp1 e g then g else clp1 e g
theorem clpE_bd {e g:Int}(hg:1<=g):1-g<=clpE e g/\clpE e g<=g:=by unfold clpE clp1;split<;>split<;>omega
def zpI (W Hh:Int) (xs:List Int) (x y h g m e:Int):Int:=if lkN W Hh xs x y h m 1024/lkD W Hh xs x y h m 1024+clpE e g<0 then 0 else lkN W Hh xs x y h m 1024/lkD W Hh xs x y h m 1024+clpE e g
def mpZ (W Hh:Int) (xs:List Int) (x y h g m e:Int):Int:=if (lkS W Hh xs x y h m 1024).isSome=true then (if 1024<zpI W Hh xs x y h g m e then -1 else zpI W Hh xs x y h g m e) else -1
def mpV (W Hh:Int) (xs:List Int) (x y h g m e:Int):Int:=if cV m=true then mpZ W Hh xs x y h g m e else 0
theorem lk_bd {most:Int}(hx : -1048576<=x/\x<=1048576)(hy : -1048576<=y/\y<=1048576)(hm:0<=most/\most<=2048)(hf:lkS W Hh xs x y h m most=some c):(0<=lkN W Hh xs x y h m most/\lkN W Hh xs x y h m most<=most*lkD W Hh xs x y h m most)/\0<lkD W Hh xs x y h m most/\lkD W Hh xs x y h m most<=67108864:=by
 obtain⟨hcm,-,-⟩:=kM hf
 obtain⟨ho,hl⟩:=kL ((fP (v:=aF h m) hx hy (gS _ _) hm).1 hcm)
 have p:=jA ho
 unfold lkN lkD
 rw[hf]
 exact⟨⟨p.1,hl⟩,p.2.1,p.2.2.1⟩
theorem mp_plau {e:Int}(hx:0<=x/\x<=4096)(hy:0<=y/\y<=4096)(hg:1<=g/\g<=32):gA W Hh xs x y h g (m,mpZ W Hh xs x y h g m e) /\ -1<=mpZ W Hh xs x y h g m e/\mpZ W Hh xs x y h g m e<=1024:=by
 cases hf:lkS W Hh xs x y h m 1024 with
 | none =>
  have ez:mpZ W Hh xs x y h g m e = -1:=by unfold mpZ;rw[hf];rfl
  rw[ez]
  exact⟨pP (fp_no (v:=aF h m) (most:=1024) (by omega) (by omega) (gS _ _) (by omega) hf (by omega)),by omega,by omega⟩
 | some c =>
  have hb:=lk_bd (by omega) (by omega) (by omega) hf
  have eN:lkN W Hh xs x y h m 1024=peN x y (aF h m).1 (aF h m).2.1 (aF h m).2.2 c:=by unfold lkN;rw[hf];rfl
  have eD:lkD W Hh xs x y h m 1024=peD x y (aF h m).1 (aF h m).2.1 (aF h m).2.2 c:=by unfold lkD;rw[hf];rfl
  have hc:=clpE_bd (e:=e) hg.1
  have hz0:0<=zpI W Hh xs x y h g m e:=by unfold zpI;split<;>omega
  have k:=read_bd (z:=zpI W Hh xs x y h g m e) hb.2.1 hb.1.1 hc (by unfold zpI;split<;>omega)
  rw[eN,eD] at k
  unfold mpZ
  rw[hf,if_pos (show (some c).isSome=true from rfl)]
  split
  ·rename_i h1
   refine⟨pP (fp_clos (v:=aF h m) (most:=1024) (by omega) (by omega) (gS _ _) (by omega) hf ?_ (by omega)),by omega,by omega⟩
   have p:=hb.2.1
   rw[eD] at p
   have a1:=Int.mul_le_mul_of_nonneg_right (show 1025-g<=zpI W Hh xs x y h g m e-g by omega) (show 0<=peD x y (aF h m).1 (aF h m).2.1 (aF h m).2.2 c by omega)
   have e1:(1025-g)*peD x y (aF h m).1 (aF h m).2.1 (aF h m).2.2 c=(1024-g)*peD x y (aF h m).1 (aF h m).2.1 (aF h m).2.2 c+peD x y (aF h m).1 (aF h m).2.1 (aF h m).2.2 c:=by grind
   omega
  rename_i h1
  exact⟨plau_some hx hy (by omega) hg (most:=1024) (by omega) (by omega) hf k.1 (Int.le_of_lt k.2),by omega,by omega⟩
end
def spB (W Hh:Int) (xs:List Int) (x y h g:Int) (mks ers:List Int):Nat->List (Int×Int)
 |0=>[]
 |i+1=>spB W Hh xs x y h g mks ers i++[(gi mks i,mpZ W Hh xs x y h g (gi mks i) (gi ers i))]
def spL (W Hh:Int) (xs:List Int) (x y h g:Int) (mks ers:List Int):List (Int×Int):=if gg mks=0 then spB W Hh xs x y h g mks ers mks.length else []
theorem l9 {W Hh:Int}{xs:List Int}{x y h g:Int}{mks ers:List Int}:∀i:Nat,(spB W Hh xs x y h g mks ers i).length=i
 |0=>rfl
 |i+1=>by rw[spB,List.length_append,l9 i];rfl
theorem oK {W Hh:Int}{xs:List Int}{x y h g:Int}{mks ers:List Int}{e:Int×Int}:∀{i:Nat},e∈spB W Hh xs x y h g mks ers i->∃j:Nat,j<i/\e=(gi mks j,mpZ W Hh xs x y h g (gi mks j) (gi ers j))
 |0,h=>by cases h
 | i+1,hm=>by
  rw[spB,List.mem_append,List.mem_singleton] at hm
  rcases hm with hm|hm
  ·obtain⟨j,h1,h2⟩:=oK hm
   exact⟨j,by omega,h2⟩
  exact⟨i,by omega,hm⟩
theorem spL_n {W Hh:Int}{xs:List Int}{x y h g:Int}{mks ers:List Int}(k:¬gg mks=0):spL W Hh xs x y h g mks ers=[]:=if_neg k
theorem spL_y {W Hh:Int}{xs:List Int}{x y h g:Int}{mks ers:List Int}(k:gg mks=0):spL W Hh xs x y h g mks ers=spB W Hh xs x y h g mks ers mks.length:=if_pos k
theorem spL_ok {W Hh:Int}{xs:List Int}{x y h g:Int}{mks ers:List Int}(hx:0<=x/\x<=4096)(hy:0<=y/\y<=4096)(hg:1<=g/\g<=32):c7 (spL W Hh xs x y h g mks ers)=true/\∀e∈spL W Hh xs x y h g mks ers,gA W Hh xs x y h g e:=by
 by_cases k:gg mks=0
 ·rw[spL_y k]
  have hl:¬32<mks.length:=fun q=>by rw[swpE_6 q] at k;exact absurd k (by decide)
  have ha:mks.all cV=true:=by
   rw[<-Bool.not_eq_false];intro q
   unfold gg at k
   rw[if_neg hl,if_neg (by rw[q];decide)] at k
   exact absurd k (by decide)
  refine⟨dF.2 ⟨by rw[l9];omega,fun e he=>?_⟩,fun e he=>?_⟩
  ·obtain⟨j,hj,rfl⟩:=oK he
   have q:=List.all_eq_true.1 ha _ (List.getElem_mem hj)
   rw[<-fq hj] at q
   unfold cV at q
   rw[Bool.and_eq_true,decide_eq_true_eq,decide_eq_true_eq] at q
   have:=(mp_plau (W:=W) (Hh:=Hh) (xs:=xs) (x:=x) (y:=y) (h:=h) (m:=gi mks j) (e:=gi ers j) hx hy hg).2
   exact gb.2 (by omega)
  obtain⟨j,hj,rfl⟩:=oK he
  exact(mp_plau hx hy hg).1
 rw[spL_n k]
 exact⟨by decide,fun e he=>by cases he⟩
def ow (i:Nat):Bool:=match i with
 |0=>false
 |_+1=>true
theorem mark_in2 {bf bc ah t e tu:Int}(hb:b9 bf bc=true)(hi:dJ bf bc ah)(ha:0<=ah/\ah<=255)(ht:0<=tu/\tu<=8)(he : -tu<=e/\e<=tu):nhI ah t e∈fT bf bc t tu:=by
 have hbi:=bo.1 hb
 unfold dJ at hi
 unfold fT aX
 rw[List.mem_map]
 by_cases hc:256<=bc+2*tu
 ·have e1:256<=cn bc+2*tu:=by unfold cn;split<;>omega
  have e2:grC (cn bc) tu=256:=if_pos e1
  have e3:grF (shF bf bc t) (cn bc) tu=0:=if_pos e1
  refine⟨(nhI ah t e).toNat,List.mem_range.2 ?_,?_⟩
  ·rw[e2];unfold nhI;omega
  rw[e3];unfold nhI;omega
 have e0:cn bc=bc:=if_neg (by omega)
 have e2:grC (cn bc) tu=bc+2*tu:=by rw[e0];exact if_neg hc
 have e4:shF bf bc t=(bf+(((t%256).toNat:Nat):Int))%256:=if_neg (by omega)
 have e3:grF (shF bf bc t) (cn bc) tu=(shF bf bc t-tu)%256:=by rw[e0];exact if_neg hc
 refine⟨(tu+e+(ah-bf)%256).toNat,List.mem_range.2 ?_,?_⟩
 ·rw[e2];omega
 rw[e3,e4];unfold nhI;clear e0 e2 e3 e4 hc;omega
abbrev T4:=Int×Int×Int×Int
def rqA (f le h:Int):Int:=cu h (mxI (f-le) 0)
def rqB (f le h:Int):Int:=cu h (mxI (f+le) 0)
def rqC (f le h:Int):Int:=cw h (mxI (f-le) 0)
def rqD (f le h:Int):Int:=cw h (mxI (f+le) 0)
def rqR (f le sl h:Int):T4:=if f=0 then (0,0,0,0) else (mnI (rqA f le h) (rqB f le h)-sl,mnI (rqC f le h) (rqD f le h)-sl,mxI (rqA f le h) (rqB f le h)+sl,mxI (rqC f le h) (rqD f le h)+sl)
def rcS (f le sl:Int) (L:List Int):Nat->T4
 |0=>(0,0,0,0)
 |n+1=>(mnI (if n=0 then (rqR f le sl (gi L n)).1 else (rcS f le sl L n).1) (rqR f le sl (gi L n)).1,mnI (if n=0 then (rqR f le sl (gi L n)).2.1 else (rcS f le sl L n).2.1) (rqR f le sl (gi L n)).2.1,mxI (if n=0 then (rqR f le sl (gi L n)).2.2.1 else (rcS f le sl L n).2.2.1) (rqR f le sl (gi L n)).2.2.1,mxI (if n=0 then (rqR f le sl (gi L n)).2.2.2 else (rcS f le sl L n).2.2.2) (rqR f le sl (gi L n)).2.2.2)
theorem dU {a b:Int}:mnI a b<=a/\mnI a b<=b/\(mnI a b=a\/mnI a b=b):=by unfold mnI;split<;>omega
theorem dV {a b:Int}:a<=mxI a b/\b<=mxI a b/\(mxI a b=a\/mxI a b=b):=by unfold mxI;split<;>omega
theorem rqR_bd {f le sl h:Int}(hf:0<=f/\f<=32)(hl:0<=le/\le<=16)(hs:0<=sl/\sl<=8):(-64<=(rqR f le sl h).1/\(rqR f le sl h).1<=(rqR f le sl h).2.2.1/\(rqR f le sl h).2.2.1<=64) /\ -64<=(rqR f le sl h).2.1/\(rqR f le sl h).2.1<=(rqR f le sl h).2.2.2/\(rqR f le sl h).2.2.2<=64:=by
 unfold rqR
 split
 ·exact⟨by decide,by decide⟩
 have m1:0<=mxI (f-le) 0/\mxI (f-le) 0<=48:=by unfold mxI;split<;>omega
 have m2:0<=mxI (f+le) 0/\mxI (f+le) 0<=48:=by unfold mxI;split<;>omega
 have w1:=jd h m1.1
 have w2:=jd h m2.1
 have e1:rqA f le h=cu h (mxI (f-le) 0):=rfl
 have e2:rqB f le h=cu h (mxI (f+le) 0):=rfl
 have e3:rqC f le h=cw h (mxI (f-le) 0):=rfl
 have e4:rqD f le h=cw h (mxI (f+le) 0):=rfl
 have n1:=dU (a:=rqA f le h) (b:=rqB f le h)
 have n2:=dU (a:=rqC f le h) (b:=rqD f le h)
 have x1:=dV (a:=rqA f le h) (b:=rqB f le h)
 have x2:=dV (a:=rqC f le h) (b:=rqD f le h)
 simp only
 omega
theorem nO {f le sl:Int}{L:List Int}(hf:0<=f/\f<=32)(hl:0<=le/\le<=16)(hs:0<=sl/\sl<=8):∀n:Nat,(-64<=(rcS f le sl L n).1/\(rcS f le sl L n).1<=(rcS f le sl L n).2.2.1/\(rcS f le sl L n).2.2.1<=64) /\ -64<=(rcS f le sl L n).2.1/\(rcS f le sl L n).2.1<=(rcS f le sl L n).2.2.2/\(rcS f le sl L n).2.2.2<=64
 |0=>by unfold rcS;exact⟨by decide,by decide⟩
 | n+1=>by
  have r:=rqR_bd (h:=gi L n) hf hl hs
  have ih:=nO (L:=L) hf hl hs n
  unfold rcS
  simp only
  by_cases h0:n=0
  ·rw[if_pos h0,if_pos h0,if_pos h0,if_pos h0]
   have n1:=dU (a:=(rqR f le sl (gi L n)).1) (b:=(rqR f le sl (gi L n)).1)
   have n2:=dU (a:=(rqR f le sl (gi L n)).2.1) (b:=(rqR f le sl (gi L n)).2.1)
   have x1:=dV (a:=(rqR f le sl (gi L n)).2.2.1) (b:=(rqR f le sl (gi L n)).2.2.1)
   have x2:=dV (a:=(rqR f le sl (gi L n)).2.2.2) (b:=(rqR f le sl (gi L n)).2.2.2)
   omega
  rw[if_neg h0,if_neg h0,if_neg h0,if_neg h0]
  have n1:=dU (a:=(rcS f le sl L n).1) (b:=(rqR f le sl (gi L n)).1)
  have n2:=dU (a:=(rcS f le sl L n).2.1) (b:=(rqR f le sl (gi L n)).2.1)
  have x1:=dV (a:=(rcS f le sl L n).2.2.1) (b:=(rqR f le sl (gi L n)).2.2.1)
  have x2:=dV (a:=(rcS f le sl L n).2.2.2) (b:=(rqR f le sl (gi L n)).2.2.2)
  omega
theorem rcS_has {f le sl:Int}{L:List Int}{j:Nat}:∀{n:Nat},j<n->((rcS f le sl L n).1<=(rqR f le sl (gi L j)).1/\(rqR f le sl (gi L j)).2.2.1<=(rcS f le sl L n).2.2.1)/\(rcS f le sl L n).2.1<=(rqR f le sl (gi L j)).2.1/\(rqR f le sl (gi L j)).2.2.2<=(rcS f le sl L n).2.2.2
 | n+1,h=>by
  unfold rcS
  simp only
  have n1:=dU (a:=if n=0 then (rqR f le sl (gi L n)).1 else (rcS f le sl L n).1) (b:=(rqR f le sl (gi L n)).1)
  have n2:=dU (a:=if n=0 then (rqR f le sl (gi L n)).2.1 else (rcS f le sl L n).2.1) (b:=(rqR f le sl (gi L n)).2.1)
  have x1:=dV (a:=if n=0 then (rqR f le sl (gi L n)).2.2.1 else (rcS f le sl L n).2.2.1) (b:=(rqR f le sl (gi L n)).2.2.1)
  have x2:=dV (a:=if n=0 then (rqR f le sl (gi L n)).2.2.2 else (rcS f le sl L n).2.2.2) (b:=(rqR f le sl (gi L n)).2.2.2)
  rcases Nat.lt_or_ge j n with q|q
  ·have ih:=rcS_has (f:=f) (le:=le) (sl:=sl) (L:=L) q
   have h0:¬n=0:=by omega
   rw[if_neg h0] at n1 n2 x1 x2
   rw[if_neg h0,if_neg h0,if_neg h0,if_neg h0]
   omega
  obtain rfl:j=n:=by omega
  omega
def imR (b:T6) (t f tu le sl:Int):T4:=rcS f le sl (fT b.2.2.2.2.1 b.2.2.2.2.2 t tu) (fT b.2.2.2.2.1 b.2.2.2.2.2 t tu).length
def imB (b:T6) (t f tu le sl:Int):T6:=(b.1+(imR b t f tu le sl).1,b.2.1+(imR b t f tu le sl).2.1,b.2.2.1+(imR b t f tu le sl).2.2.1,b.2.2.2.1+(imR b t f tu le sl).2.2.2,grF (shF b.2.2.2.2.1 b.2.2.2.2.2 t) (cn b.2.2.2.2.2) tu,grC (cn b.2.2.2.2.2) tu)
def imO (b:T6) (t f tu le sl:Int):Bool:=!([(imB b t f tu le sl).1,(imB b t f tu le sl).2.2.1,(imB b t f tu le sl).2.1,(imB b t f tu le sl).2.2.2.1].any gR)
def imE (b:T6) (t f tu le sl:Int):Int:=if imO b t f tu le sl=true then 0 else 2
theorem imB_ok {b:T6}{t f tu le sl:Int}(hb:bj b=true)(hf:0<=f/\f<=32)(hu:0<=tu/\tu<=8)(hl:0<=le/\le<=16)(hs:0<=sl/\sl<=8)(h:imO b t f tu le sl=true):bj (imB b t f tu le sl)=true:=by
 have hb6:=bB.1 hb
 have r:=nO (L:=fT b.2.2.2.2.1 b.2.2.2.2.2 t tu) hf hl hs (fT b.2.2.2.2.1 b.2.2.2.2.2 t tu).length
 have e:imR b t f tu le sl=rcS f le sl (fT b.2.2.2.2.1 b.2.2.2.2.2 t tu) (fT b.2.2.2.2.1 b.2.2.2.2.2 t tu).length:=rfl
 rw[<-e] at r
 unfold imO gR at h
 simp only[List.any_cons,List.any_nil,Bool.or_false,Bool.not_eq_true',Bool.or_eq_false_iff,decide_eq_false_iff_not] at h
 refine bB.2 ⟨?_,?_,?_⟩
 ·unfold imB at *;simp only at *;omega
 ·unfold imB at *;simp only at *;omega
 have ka:=bo.1 hb6.2.2
 show b9 (grF _ _ _) (grC _ _)=true
 exact jP (by unfold cn;split<;>omega)
def imS (l:List T6) (t f tu le sl:Int):Nat->List T6
 |0=>[]
 |n+1=>imS l t f tu le sl n++[imB (g6 l n) t f tu le sl]
def imA (l:List T6) (t f tu le sl:Int):Bool:=l.all fun b=>imO b t f tu le sl
theorem dP {l:List T6}{t f tu le sl:Int}:∀n:Nat,(imS l t f tu le sl n).length=n
 |0=>rfl
 |n+1=>by rw[imS,List.length_append,dP n];rfl
theorem oL {l:List T6}{t f tu le sl:Int}{b:T6}:∀{n:Nat},b∈imS l t f tu le sl n↔∃j:Nat,j<n/\b=imB (g6 l j) t f tu le sl
 |0=>by simp[imS]
 | n+1=>by
  rw[imS,List.mem_append,List.mem_singleton,oL]
  constructor
  ·rintro(⟨j,h1,h2⟩|h)
   ·exact⟨j,by omega,h2⟩
   exact⟨n,by omega,h⟩
  rintro⟨j,h1,h2⟩
  rcases Nat.lt_or_ge j n with q|q
  ·exact .inl ⟨j,q,h2⟩
  obtain rfl:j=n:=by omega
  exact .inr h2
theorem pQ {x:Int->Bool}{s:Int}{i:Nat}(hx:x ((s+(i:Int))%256)=true):∀n:Nat,i<n->(i:Int)<dW x s n
 |0,h=>by omega
 | n+1,h=>by
  rw[dW]
  split
  ·omega
  rename_i hn
  rcases Nat.lt_or_ge i n with q|q
  ·exact pQ hx n q
  obtain rfl:i=n:=by omega
  exact absurd hx hn
theorem hullA_in {f c f' c' m:Int}(h:b9 f c=true)(h':b9 f' c'=true)(hm:0<=m/\m<=255)(k:dJ f c m\/dJ f' c' m):dJ (cQ f c f' c').1 (cQ f c f' c').2 m:=by
 rw[<-hull_eq h h']
 have hs:=lx (x:=gQ f c f' c') 256 (Nat.le_refl _)
 unfold dJ
 rcases hs with ⟨e,-⟩|⟨-,e2,e3,-⟩
 ·rw[e];simp only;omega
 generalize ew (gQ f c f' c') 256=p at e2 e3 ⊢
 obtain⟨i,hi⟩:∃i:Nat,(i:Int)=(m-p.1)%256:=⟨((m-p.1)%256).toNat,by omega⟩
 have hx:gQ f c f' c' ((p.1+(i:Int))%256)=true:=by
  rw[show (p.1+(i:Int))%256=m by omega,ot];exact k
 have:=pQ hx 256 (by omega)
 rw[e3] at this
 omega
theorem hulB_in {a b:T6}{x y h:Int}(ha:bj a=true)(hb:bj b=true)(hh:0<=h/\h<=255)(k:InP a x y h\/InP b x y h):InP (el a b) x y h:=by
 have ka:=bB.1 ha
 have kb:=bB.1 hb
 have n1:=dU (a:=a.1) (b:=b.1)
 have n2:=dU (a:=a.2.1) (b:=b.2.1)
 have x1:=dV (a:=a.2.2.1) (b:=b.2.2.1)
 have x2:=dV (a:=a.2.2.2.1) (b:=b.2.2.2.1)
 have q:=hullA_in (m:=h) ka.2.2 kb.2.2 hh (k.imp (·.2.2) (·.2.2))
 unfold InP at k ⊢
 unfold el
 simp only
 refine⟨⟨by omega,by omega⟩,⟨by omega,by omega⟩,q⟩
abbrev C4:=Int×Int×Int×T6
def chN (l:List T6) (i j:Nat):Int:=dT (el (g6 l i) (g6 l j))-dT (g6 l i)-dT (g6 l j)
def chU (l:List T6) (i k:Nat) (s:C4):C4:=if s.1<0\/chN l i (i+1+k)<s.2.2.1 then ((i:Int),(i:Int)+1+(k:Int),chN l i (i+1+k),el (g6 l i) (g6 l (i+1+k))) else s
def chR (l:List T6) (i:Nat) (s:C4):Nat->C4
 |0=>s
 |k+1=>chU l i k (chR l i s k)
def chO (l:List T6):Nat->C4
 |0=>(-1,-1,0,(0,0,0,0,0,0))
 |n+1=>chR l n (chO l n) (l.length-(n+1))
def chP (l:List T6) (s:C4):Prop:=∃i j:Nat,i<j/\j<l.length/\s.1=(i:Int)/\s.2.1=(j:Int)/\s.2.2.2=el (g6 l i) (g6 l j)
theorem jX (b:T6):0<=dT b/\dT b<=1125906929254400:=by
 unfold dT
 split
 ·rename_i h
  have hb:=bB.1 h
  have ha:=bo.1 hb.2.2
  have m1:=bg (a:=b.2.2.1-b.1+1) (b:=b.2.2.2.1-b.2.1+1) (A:=2097153) (B:=2097153) (by omega) (by omega)
  have p1:0<=(b.2.2.1-b.1+1)*(b.2.2.2.1-b.2.1+1):=Int.mul_nonneg (by omega) (by omega)
  have m2:=bg (a:=(b.2.2.1-b.1+1)*(b.2.2.2.1-b.2.1+1)) (b:=b.2.2.2.2.2) (A:=4398050705409) (B:=256) (by omega) (by omega)
  have p2:0<=(b.2.2.1-b.1+1)*(b.2.2.2.1-b.2.1+1)*b.2.2.2.2.2:=Int.mul_nonneg p1 (by omega)
  omega
 omega
theorem chN_bd (l:List T6)(i j:Nat): -2251813858508800<=chN l i j/\chN l i j<=1125906929254400:=by
 have h1:=jX (el (g6 l i) (g6 l j))
 have h2:=jX (g6 l i)
 have h3:=jX (g6 l j)
 unfold chN;omega
theorem chU_c (l:List T6)(i k:Nat)(s:C4):(chU l i k s=((i:Int),(i:Int)+1+(k:Int),chN l i (i+1+k),el (g6 l i) (g6 l (i+1+k)))/\(s.1<0\/chN l i (i+1+k)<s.2.2.1))\/(chU l i k s=s/\¬s.1<0/\¬chN l i (i+1+k)<s.2.2.1):=by
 unfold chU
 split
 ·rename_i h;exact .inl ⟨rfl,h⟩
 rename_i h;exact .inr ⟨rfl,fun q=>h (.inl q),fun q=>h (.inr q)⟩
def chI (l:List T6) (s:C4):Prop:=(s.1 = -1/\s.2.1 = -1/\s.2.2.1=0)\/(chP l s /\ -2251813858508800<=s.2.2.1/\s.2.2.1<=1125906929254400)
theorem chU_i {l:List T6}{i k:Nat}{s:C4}(h:chI l s)(hk:i+1+k<l.length):chI l (chU l i k s)/\¬(chU l i k s).1<0:=by
 have e:((i:Int)+1+(k:Int))=((i+1+k:Nat):Int):=by omega
 rcases chU_c l i k s with ⟨q,-⟩|⟨q,h1,h2⟩
 ·rw[q]
  exact⟨.inr ⟨⟨i,i+1+k,by omega,hk,rfl,e,rfl⟩,chN_bd l i (i+1+k)⟩,by simp only;omega⟩
 rw[q];exact⟨h,h1⟩
theorem chR_i {l:List T6}{i:Nat}{s:C4}(h:chI l s):∀k:Nat,k<=l.length-(i+1)->chI l (chR l i s k)/\(0<k->¬(chR l i s k).1<0)/\(¬s.1<0->¬(chR l i s k).1<0)
 |0,_=>⟨h,fun q=>by omega,fun q=>q⟩
 | k+1,hk=>by
  have ih:=chR_i (i:=i) h k (by omega)
  have u:=chU_i (k:=k) (i:=i) ih.1 (by omega)
  exact⟨u.1,fun _=>u.2,fun _=>u.2⟩
theorem chO_i (l:List T6):∀n:Nat,n<=l.length->chI l (chO l n)/\(0<n->2<=l.length->¬(chO l n).1<0)
 |0,_=>⟨.inl ⟨rfl,rfl,rfl⟩,fun q=>by omega⟩
 | n+1,hn=>by
  have ih:=chO_i l n (by omega)
  have r:=chR_i (i:=n) ih.1 (l.length-(n+1)) (Nat.le_refl _)
  refine⟨r.1,fun _ h2=>?_⟩
  rcases Nat.eq_zero_or_pos n with h0|h0
  ·exact r.2.1 (by omega)
  exact r.2.2 (ih.2 h0 h2)
theorem chO_p {l:List T6}(h:2<=l.length):chP l (chO l l.length):=by
 have k:=chO_i l l.length (Nat.le_refl _)
 have k2:=k.2 (by omega) h
 rcases k.1 with ⟨q,-⟩|⟨q,-⟩
 ·omega
 exact q
theorem chO_bd {l:List T6}{n:Nat}(h:n<=l.length):(-1<=(chO l n).1/\(chO l n).1<=(l.length:Int)) /\ -2251813858508800<=(chO l n).2.2.1/\(chO l n).2.2.1<=1125906929254400:=by
 rcases (chO_i l n h).1 with ⟨a,b,c⟩|⟨⟨i,j,h1,h2,a,b,c⟩,d⟩<;>omega
theorem chR_bd {l:List T6}{n k:Nat}(h:n<=l.length)(hk:k<=l.length-(n+1)):(-1<=(chR l n (chO l n) k).1/\(chR l n (chO l n) k).1<=(l.length:Int)) /\ -2251813858508800<=(chR l n (chO l n) k).2.2.1/\(chR l n (chO l n) k).2.2.1<=1125906929254400:=by
 rcases (chR_i (i:=n) (chO_i l n h).1 k hk).1 with ⟨a,b,c⟩|⟨⟨i,j,h1,h2,a,b,c⟩,d⟩<;>omega
def cpA (l:List T6):List T6:=l.set (chO l l.length).1.toNat (chO l l.length).2.2.2
def cpS (l:List T6):List T6:=(cpA l).take (chO l l.length).2.1.toNat++(cpA l).drop ((chO l l.length).2.1.toNat+1)
def cpI:Nat->List T6->List T6
 |0,l=>l
 |n+1,l=>cpI n (cpS l)
def cpL (l:List T6):List T6:=cpI (l.length-16) l
theorem cpA_len (l:List T6):(cpA l).length=l.length:=List.length_set
theorem ma {l:List T6}(h:2<=l.length):(cpS l).length=l.length-1:=by
 obtain⟨i,j,h1,h2,a,b,c⟩:=chO_p h
 unfold cpS
 rw[List.length_append,List.length_take,List.length_drop,cpA_len,b]
 omega
theorem oM {l:List T6}(h:2<=l.length):∃i j:Nat,i<j/\j<l.length/\el (g6 l i) (g6 l j)∈cpS l/\(∀b∈cpS l,b∈l\/b=el (g6 l i) (g6 l j))/\∀n:Nat,n<l.length->n≠i->n≠j->g6 l n∈cpS l:=by
 obtain⟨i,j,h1,h2,a,b,c⟩:=chO_p h
 have eA:cpA l=l.set i (el (g6 l i) (g6 l j)):=by unfold cpA;rw[a,c];rfl
 have eS:cpS l=(l.set i (el (g6 l i) (g6 l j))).take j++(l.set i (el (g6 l i) (g6 l j))).drop (j+1):=by unfold cpS;rw[eA,b];rfl
 have hin:∀n:Nat,(hn:n<(l.set i (el (g6 l i) (g6 l j))).length)->n≠j->(l.set i (el (g6 l i) (g6 l j)))[n]∈cpS l:=fun n hn hne=>by
  rw[eS]
  rcases Nat.lt_or_ge n j with q|q
  ·refine List.mem_append_left _ (List.mem_iff_getElem.2 ⟨n,by rw[List.length_take];omega,?_⟩)
   rw[List.getElem_take]
  refine List.mem_append_right _ (List.mem_iff_getElem.2 ⟨n-(j+1),by rw[List.length_drop];omega,?_⟩)
  rw[List.getElem_drop]
  congr 1;omega
 refine⟨i,j,h1,h2,?_,fun b hb=>?_,fun n hn hi hj=>?_⟩
 ·have:=hin i (by rw[List.length_set];omega) (by omega)
  rwa [List.getElem_set_self] at this
 ·rw[eS] at hb
  have hb':b∈l.set i (el (g6 l i) (g6 l j)):=by
   rcases List.mem_append.1 hb with q|q
   ·exact List.mem_of_mem_take q
   exact List.mem_of_mem_drop q
  exact(List.mem_or_eq_of_mem_set hb').imp id id
 have:=hin n (by rw[List.length_set];exact hn) hj
 rw[List.getElem_set_ne (fun q=>hi q.symm)] at this
 rw[show g6 l n=l[n] from hZ hn];exact this
theorem cpS_ok {l:List T6}(h:2<=l.length)(hv:∀b∈l,bj b=true):∀b∈cpS l,bj b=true:=fun b hb=>by
 obtain⟨i,j,h1,h2,-,k,-⟩:=oM h
 rcases k b hb with q|q
 ·exact hv b q
 rw[q];exact hulB_ok (hv _ (cD (by omega))) (hv _ (cD h2))
theorem cpS_in {l:List T6}{x y m:Int}(h:2<=l.length)(hv:∀b∈l,bj b=true)(hm:0<=m/\m<=255)(hc:∃b∈l,InP b x y m):∃b∈cpS l,InP b x y m:=by
 obtain⟨i,j,h1,h2,k1,k2,k3⟩:=oM h
 obtain⟨b,hb,hi⟩:=hc
 obtain⟨n,hn,rfl⟩:=List.mem_iff_getElem.1 hb
 rw[<-show g6 l n=l[n] from hZ hn] at hi
 by_cases e1:n=i
 ·subst e1;exact⟨_,k1,hulB_in (hv _ (cD hn)) (hv _ (cD h2)) hm (.inl hi)⟩
 by_cases e2:n=j
 ·subst e2;exact⟨_,k1,hulB_in (hv _ (cD (by omega))) (hv _ (cD hn)) hm (.inr hi)⟩
 exact⟨_,k3 n hn e1 e2,hi⟩
theorem cpI_ok:∀(n:Nat) (l:List T6),n+1<=l.length->(∀b∈l,bj b=true)->(∀b∈cpI n l,bj b=true)/\(cpI n l).length=l.length-n
 |0,l,_,hv=>⟨hv,rfl⟩
 | n+1,l,h,hv=>by
  have e:=ma (l:=l) (by omega)
  have ih:=cpI_ok n (cpS l) (by omega) (cpS_ok (by omega) hv)
  exact⟨ih.1,by rw[cpI,ih.2,e];omega⟩
theorem cpI_in {x y m:Int}(hm:0<=m/\m<=255):∀(n:Nat) (l:List T6),n+1<=l.length->(∀b∈l,bj b=true)->(∃b∈l,InP b x y m)->∃b∈cpI n l,InP b x y m
 |0,l,_,hv,hc=>hc
 |n+1,l,h,hv,hc=>cpI_in hm n (cpS l) (by have e:=ma (l:=l) (by omega);omega) (cpS_ok (by omega) hv) (cpS_in (by omega) hv hm hc)
theorem cpL_ok {l:List T6}(h0:0<l.length)(hv:∀b∈l,bj b=true):bM (cpL l)=true/\0<(cpL l).length:=by
 have k:=cpI_ok (l.length-16) l (by omega) hv
 refine⟨bF.2 ⟨?_,k.1⟩,?_⟩
 ·show (cpI (l.length-16) l).length<=16;rw[k.2];omega
 show 0<(cpI (l.length-16) l).length;rw[k.2];omega
theorem cpL_in {l:List T6}{x y m:Int}(hm:0<=m/\m<=255)(h0:0<l.length)(hv:∀b∈l,bj b=true)(hc:∃b∈l,InP b x y m):∃b∈cpL l,InP b x y m:=cpI_in hm _ l (by omega) hv hc
set_option maxHeartbeats 4000000
set_option maxRecDepth 100000
def cqX (x0 x1:Int):Nat->Int
 |0=>x0
 |1=>x1
 |2=>x0
 |_=>x1
def cqY (y0 y1:Int):Nat->Int
 |0=>y0
 |1=>y0
 |2=>y1
 |_=>y1
def h4K (op:Bool) (x0 y0 x1 y1 vx vy vd far cx cy:Int):Nat->Bool
 |0=>true
 |n+1=>h4K op x0 y0 x1 y1 vx vy vd far cx cy n&&hcB op (cqX x0 x1 n) (cqY y0 y1 n) vx vy vd far cx cy
theorem h4K_4 {op:Bool}{x0 y0 x1 y1 vx vy vd far cx cy:Int}:h4K op x0 y0 x1 y1 vx vy vd far cx cy 4=h4B op x0 y0 x1 y1 vx vy vd far cx cy:=by
 simp only[h4K,h4B,cqX,cqY,Bool.true_and,Bool.and_assoc]
theorem hcB_t {op:Bool}(h:op=true){x y vx vy vd far cx cy:Int}:hcB op x y vx vy vd far cx cy=dg x y vx vy vd far (cx*64) (cy*64) ((cx+1)*64) ((cy+1)*64):=by unfold hcB;rw[h];rfl
theorem hcB_f {op:Bool}(h:op=false){x y vx vy vd far cx cy:Int}:hcB op x y vx vy vd far cx cy=dR x y vx vy vd 0 far (cx*64) (cy*64) ((cx+1)*64) ((cy+1)*64):=by unfold hcB;rw[h];rfl
def ad4 (x0 y0 x1 y1:Int):Nat->Int
 |0=>x0
 |1=>y0
 |2=>x1
 |_=>y1
theorem nP {α:Type}{p:α->Bool}{l:List α}(h:∀j:Nat,(hj:j<l.length)->p l[j]=false):l.any p=false:=List.any_eq_false.2 fun c hc=>by
 obtain⟨j,hj,rfl⟩:=List.mem_iff_getElem.1 hc
 rw[h j hj];decide
theorem dO (H:aa)(n lo hi:Int):zC 62 [iV n,iV lo,iV hi] H (.bool (btw n lo hi)) H:=by
 refine AcT true func62 ?_;intro hbel Q hQ
 refine aI ?_
 refine aY (fun h1=>?_) (fun h1=>?_)
 ·have h1d:=bsT h1
  have G1:=jn h1 @h1d
  exact eS G1 hQ hbel (.bool (decide (n<=hi))) results62 ⟨by simp[btw,h1d],rfl⟩
 have h1d:=bsT h1
 have G2:=jn h1 @h1d
 exact eS G2 hQ hbel (.bool false) results62 ⟨by simp[btw,h1d],rfl⟩
theorem cvb_c (H:aa)(m r:Int):zC 141 [.agg [iV m,iV r]] H (.bool (fm m r)) H:=by
 refine AcT true func141 ?_;intro hbel Q hQ
 refine aI ?_
 refine cv (dO _ m 0 _) ?_
 refine aI ?_
 refine aY (fun h1=>?_) (fun h1=>?_)
 ·have h1d:=bsT h1
  have G3:=jn h1 @h1d
  refine ae G3 ?_
  refine cvr G3 (dO _ r _ _) ?_
  exact eP hQ hbel (.bool (btw r (-1) 1024)) results141 ⟨by simp[fm,h1d],rfl⟩
 have h1d:=bsT h1
 have G4:=jn h1 @h1d
 exact eR G4 hQ hbel (.bool false) results141 ⟨by simp[fm,h1d],rfl⟩
theorem cvs_c (H:aa)(q:AV)(sc:List (Int×Int))(hq:SlP H q sc)(hl:sc.length<=1000000000):zC 98 [q] H (.bool (c7 sc)) H:=by
 obtain⟨bq,oq,cq,rfl,hbq,hblq,hb0q⟩:=zA1 hq
 refine AcT true func98 ?_;intro hbel Q hQ
 have G5:=jn @hbq @hb0q
 refine ae G5 ?_
 refine glp (fun k F Hx=>∃i:Nat,i+k=sc.length/\(∀j:Nat,j<i->fm (g1 sc j) (g2 sc j)=true)/\F=[(0,.sl (some (bq,0)) sc.length cq),(5,.sl (some (bq,0)) sc.length cq),(6,iV (sc.length:Int)),(7,iV (i:Int))]/\H=Hx) (sc.length) ?_ ?_
 ·refine⟨_,_,_,⟨0,by omega,(fun j h=>by omega),rfl,rfl⟩,Abs.by0 hbel ?_⟩
  exact aD
 rintro k0 F Hx ⟨i,hm0,hal,rfl,rfl⟩ J0 hJ0
 refine rcs G5 (fun h1 h1d _=>?_) (fun h1 h1d G9=>?_)
 ·have hlt:i<sc.length:=by omega
  have q2:=cL (l:=sc) (j:=i) (by omega)
  have G6:=jn h1 (jn h1d (jn q2 G5))
  refine ae G6 ?_
  refine cv (cvb_c _ _ _) ?_
  refine rcs G6 (fun h3 h3d G7=>?_) (fun h3 h3d G8=>?_)
  ·have hfinS:c7 sc=false:=by
    rw[<-Bool.not_eq_true];intro k
    have q:=(dF.1 k).2 _ (List.getElem_mem hlt)
    rw[<-ct hlt] at q
    exact absurd (q.symm.trans h3d) (by decide)
   exact eR G7 hQ hbel (.bool false) results98 ⟨by rw[hfinS],rfl⟩
  have hbk:=h3d
  refine ae G8 ?_
  refine hJ0 _ _ ⟨k0-1,by omega,_,_,_,⟨i+1,by omega,fun j hj=>by
        rcases Nat.lt_or_ge j i with h|h
        ·exact hal j h
        rw[show j=i by omega];exact hbk,rfl,rfl⟩,Abs.byN hbel ?_⟩
  exact aD
 obtain rfl:i=sc.length:=by omega
 have hfinS:c7 sc=decide ((sc.length:Int)<=32):=by
  unfold c7
  rw[nP (fun j hj=>by rw[<-ct hj];show (!fm _ _)=false;rw[hal j hj];rfl)];simp
 exact eS G9 hQ hbel (.bool (decide ((sc.length:Int)<=32))) results98 ⟨by rw[hfinS],rfl⟩
theorem cadm_c (H:aa)(x0 y0 x1 y1:Int):zC 142 [.agg [iV x0,iV y0,iV x1,iV y1]] H (.bool (fK x0 y0 x1 y1)) H:=by
 refine AcT true func142 ?_;intro hbel Q hQ
 refine aI ?_
 refine glp (fun k F Hx=>∃i:Nat,i+k=4/\(∀j:Nat,j<i->btw (ad4 x0 y0 x1 y1 j) (-1048576) 1048576=true)/\F=[(1,.ptr (some (H.length,0))),(13,.agg [iV x0,iV y0,iV x1,iV y1]),(14,iV (i:Int))]/\Hx=H++[.cells true 0 [iV x0,iV y0,iV x1,iV y1]]) (4) ?_ ?_
 ·refine⟨_,_,_,⟨0,by omega,(fun j h=>by omega),rfl,rfl⟩,bS hbel [0] aD⟩
 rintro k0 F Hx ⟨i,hm0,hal,rfl,rfl⟩ J0 hJ0
 refine aI ?_
 refine cO (fun h1=>?_) (fun h1=>?_)
 ·have h1d:=bsT h1
  obtain rfl|rfl|rfl|rfl:=(by omega:i=0\/i=1\/i=2\/i=3)
  ·have G10:=jn h1 @h1d
   refine ae G10 ?_
   refine cv (dO _ _ _ _) ?_
   refine rcs G10 (fun h2 h2d G11=>?_) (fun h2 h2d G12=>?_)
   ·have hfinA:fK x0 y0 x1 y1=false:=by unfold fK;simp[h2d]
    exact eR G11 hQ hbel (.bool false) results142 ⟨by rw[hfinA],rfl⟩
   have hbk:=h2d
   refine ae G12 ?_
   refine hJ0 _ _ ⟨k0-1,by omega,_,_,_,⟨0+1,by omega,fun j hj=>by
         rcases Nat.lt_or_ge j 0 with h|h
         ·exact hal j h
         rw[show j=0 by omega];exact hbk,rfl,rfl⟩,bS hbel [0] aD⟩
  ·have G13:=jn h1 @h1d
   refine ae G13 ?_
   refine cv (dO _ _ _ _) ?_
   refine rcs G13 (fun h3 h3d G14=>?_) (fun h3 h3d G15=>?_)
   ·have hfinA:fK x0 y0 x1 y1=false:=by unfold fK;simp[h3d]
    exact eR G14 hQ hbel (.bool false) results142 ⟨by rw[hfinA],rfl⟩
   have hbk:=h3d
   refine ae G15 ?_
   refine hJ0 _ _ ⟨k0-1,by omega,_,_,_,⟨1+1,by omega,fun j hj=>by
         rcases Nat.lt_or_ge j 1 with h|h
         ·exact hal j h
         rw[show j=1 by omega];exact hbk,rfl,rfl⟩,bS hbel [0] aD⟩
  ·have G16:=jn h1 @h1d
   refine ae G16 ?_
   refine cv (dO _ _ _ _) ?_
   refine rcs G16 (fun h4 h4d G17=>?_) (fun h4 h4d G18=>?_)
   ·have hfinA:fK x0 y0 x1 y1=false:=by unfold fK;simp[h4d]
    exact eR G17 hQ hbel (.bool false) results142 ⟨by rw[hfinA],rfl⟩
   have hbk:=h4d
   refine ae G18 ?_
   refine hJ0 _ _ ⟨k0-1,by omega,_,_,_,⟨2+1,by omega,fun j hj=>by
         rcases Nat.lt_or_ge j 2 with h|h
         ·exact hal j h
         rw[show j=2 by omega];exact hbk,rfl,rfl⟩,bS hbel [0] aD⟩
  have G19:=jn h1 @h1d
  refine ae G19 ?_
  refine cv (dO _ _ _ _) ?_
  refine rcs G19 (fun h5 h5d G20=>?_) (fun h5 h5d G21=>?_)
  ·have hfinA:fK x0 y0 x1 y1=false:=by unfold fK;simp[h5d]
   exact eR G20 hQ hbel (.bool false) results142 ⟨by rw[hfinA],rfl⟩
  have hbk:=h5d
  refine ae G21 ?_
  refine hJ0 _ _ ⟨k0-1,by omega,_,_,_,⟨3+1,by omega,fun j hj=>by
        rcases Nat.lt_or_ge j 3 with h|h
        ·exact hal j h
        rw[show j=3 by omega];exact hbk,rfl,rfl⟩,bS hbel [0] aD⟩
 have h1d:=bsT h1
 obtain rfl:i=4:=by omega
 have hfa0:btw x0 (-1048576) 1048576=true:=hal 0 (by omega)
 have hfa1:btw y0 (-1048576) 1048576=true:=hal 1 (by omega)
 have hfa2:btw x1 (-1048576) 1048576=true:=hal 2 (by omega)
 have hfa3:btw y1 (-1048576) 1048576=true:=hal 3 (by omega)
 have hxb:=aS.1 hfa0
 have hyb:=aS.1 hfa1
 have hxc:=aS.1 hfa2
 have hyc:=aS.1 hfa3
 have G22:=jn h1 @h1d
 refine ae G22 ?_
 refine cv (dO _ _ 0 _) ?_
 refine rgs G22 (fun h6 h6d G23=>?_) (fun h6 h6d G24=>?_)
 ·refine ae G23 ?_
  refine cvr G23 (dO _ _ 0 _) ?_
  exact eP hQ hbel (.bool (btw (y1-y0) 0 1024)) results142 ⟨by unfold fK;rw[hfa0,hfa1,hfa2,hfa3];simp[h1d,h6d],rfl⟩
 exact eR G24 hQ hbel (.bool false) results142 ⟨by unfold fK;rw[hfa0,hfa1,hfa2,hfa3];simp[h1d,h6d],rfl⟩
theorem cright_c (H:aa)(W Hh:Int)(pp:AV)(xs:List Int)(q:AV)(sc:List (Int×Int))(g:Int)(hpp:zI H pp xs)(hq:SlP H q sc)(hsc:sc.length<=1000000000):zC 61 [.agg [iV W,iV Hh,pp],q,iV g] H (.bool (bC W Hh xs&&(c7 sc&&btw g 1 32))) H:=by
 obtain⟨bpp,opp,cpp,rfl,hbpp,hblpp,hb0pp⟩:=zA1 hpp
 obtain⟨bq,oq,cq,rfl,hbq,hblq,hb0q⟩:=zA1 hq
 refine AcT true func61 ?_;intro hbel Q hQ
 have G25:=jn @hbpp (jn @hb0pp (jn @hbq @hb0q))
 refine ae G25 ?_
 refine cv (d3 _ W Hh _ xs (.inr (zA2 hb0pp hbpp))) ?_
 refine rgs G25 (fun h1 h1d G26=>?_) (fun h1 h1d G29=>?_)
 ·refine ae G26 ?_
  refine cv (cvs_c _ _ sc (zA2 hb0q hbq) (by omega)) ?_
  refine rgs G26 (fun h2 h2d G27=>?_) (fun h2 h2d G28=>?_)
  ·refine ae G27 ?_
   refine cvr G27 (dO _ g 1 _) ?_
   exact eP hQ hbel (.bool (btw g 1 32)) results61 ⟨by simp[h1d,h2d],rfl⟩
  exact eR G28 hQ hbel (.bool false) results61 ⟨by simp[h1d,h2d],rfl⟩
 exact eR G29 hQ hbel (.bool false) results61 ⟨by simp[h1d],rfl⟩
theorem hidt_c (H:aa)(W Hh:Int)(pp:AV)(xs:List Int)(x0 y0 x1 y1 vx vy vd far:Int)(hpp:zI H pp xs)(hV:bC W Hh xs=true)(hx : -1048576<=x0/\x0<=1048576)(hy : -1048576<=y0/\y0<=1048576):zC 172 [.agg [iV W,iV Hh,pp],.agg [iV x0,iV y0,iV x1,iV y1],.agg [iV vx,iV vy,iV vd],iV far,.bool true] H (.bool (eF W Hh xs x0 y0 x1 y1 vx vy vd far true)) H:=by
 obtain⟨bpp,opp,cpp,rfl,hbpp,hblpp,hb0pp⟩:=zA1 hpp
 have htl:=jU x0 y0 vx vy vd 0 far
 refine AcT true func172 ?_;intro hbel Q hQ
 have G1:=jn @hbpp @hb0pp
 refine rcs G1 (fun h1 h1d G2=>?_) (fun h1 h1d G3=>?_)
 ·have hfinH:eF W Hh xs x0 y0 x1 y1 vx vy vd far true=false:=by unfold eF;rw[decide_eq_true h1d];rfl
  exact eR G2 hQ hbel (.bool false) results172 ⟨by rw[hfinH],rfl⟩
 have hf0:=h1d
 refine ae G3 ?_
 refine cvr G3 (kE _ _ _ _ _ _ 0 _) ?_
 refine glp (fun k F Hx=>∃i:Nat,i+k=(trL x0 y0 vx vy vd 0 far).length/\(∀j:Nat,j<i->gz W Hh xs true x0 y0 x1 y1 vx vy vd far (g1 (trL x0 y0 vx vy vd 0 far) j,g2 (trL x0 y0 vx vy vd 0 far) j)=false)/\F=[(3,iV far),(4,.bool true),(5,.ptr (some (H.length,0))),(7,.ptr (some (H.length+1,0))),(11,.ptr (some (H.length+2,0))),(51,.sl (some (H.length+3,0)) ((trL x0 y0 vx vy vd 0 far).length) (aT (trL x0 y0 vx vy vd 0 far).length)),(52,iV (((trL x0 y0 vx vy vd 0 far).length:Nat):Int)),(53,iV (i:Int))]/\Hx=H++[.cells true 0 [iV W,iV Hh,.sl (some (bpp,0)) xs.length cpp],.cells true 0 [iV vx,iV vy,iV vd],.cells true 0 [iV x0,iV y0,iV x1,iV y0,iV x0,iV y1,iV x1,iV y1],.cells (aL (trL x0 y0 vx vy vd 0 far).length) 2 (prs (trL x0 y0 vx vy vd 0 far))]) ((trL x0 y0 vx vy vd 0 far).length) ?_ ?_
 ·refine⟨_,_,_,⟨0,by omega,(fun j h=>by omega),rfl,rfl⟩,bS hbel [0,2,3,4] fk⟩
 rintro k0 F Hx ⟨i,hm0,hal,rfl,rfl⟩ J0 hJ0
 have G4:=jn @bm (jn @cJ G3)
 refine rcs G4 (fun h2 h2d _=>?_) (fun h2 h2d G22=>?_)
 ·have hlt:i<(trL x0 y0 vx vy vd 0 far).length:=by omega
  have htm:=trL_mem (List.getElem_mem hlt)
  rw[<-ct hlt] at htm
  simp only at htm
  have q3:=cL (l:=trL x0 y0 vx vy vd 0 far) (j:=i) (by omega)
  have G5:=jn h2 (jn h2d (jn q3 G4))
  refine ae G5 ?_
  refine cv (pat_c _ W _ _ xs _ _ (zA2 hb0pp hbpp) hV) ?_
  refine rcs G5 (fun h4 h4d _=>?_) (fun h4 h4d _=>?_)
  ·have h4n:=bnT h4
   have hno:gz W Hh xs true x0 y0 x1 y1 vx vy vd far ((g1 (trL x0 y0 vx vy vd 0 far) i),(g2 (trL x0 y0 vx vy vd 0 far) i))=false:=by unfold gz;rw[beq_eq_false_iff_ne.2 (by exact h4d)];rfl
   have G6:=jn h4 (jn h4n (jn @aP (jn @aO G5)))
   refine ae G6 ?_
   refine hJ0 _ _ ⟨k0-1,by omega,_,_,_,⟨i+1,by omega,fun j hj=>by
         rcases Nat.lt_or_ge j i with h|h
         ·exact hal j h
         rw[show j=i by omega];exact hno,rfl,rfl⟩,bS hbel [0,1,2,3] fk⟩
  have h4n:=bnT h4
  have hat:atI W Hh xs (g1 (trL x0 y0 vx vy vd 0 far) i) (g2 (trL x0 y0 vx vy vd 0 far) i)=2:=by exact h4d
  have G7:=jn h4 (jn h4n (jn @aP (jn @aO G5)))
  refine ae G7 ?_
  refine glp (fun k F Hx=>∃n:Nat,n+k=4/\F=[(3,iV far),(4,.bool true),(5,.ptr (some (H.length,0))),(7,.ptr (some (H.length+1,0))),(11,.ptr (some (H.length+2,0))),(16,.ptr (some (H.length+4,0))),(17,.bool (h4K true x0 y0 x1 y1 vx vy vd far (g1 (trL x0 y0 vx vy vd 0 far) i) (g2 (trL x0 y0 vx vy vd 0 far) i) n)),(51,.sl (some (H.length+3,0)) ((trL x0 y0 vx vy vd 0 far).length) (aT (trL x0 y0 vx vy vd 0 far).length)),(52,iV (((trL x0 y0 vx vy vd 0 far).length:Nat):Int)),(53,iV (i:Int)),(76,.agg [iV x0,iV y0,iV x1,iV y0,iV x0,iV y1,iV x1,iV y1]),(77,iV (n:Int))]/\Hx=H++[.cells true 0 [iV W,iV Hh,.sl (some (bpp,0)) xs.length cpp],.cells true 0 [iV vx,iV vy,iV vd],.cells true 0 [iV x0,iV y0,iV x1,iV y0,iV x0,iV y1,iV x1,iV y1],.cells (aL (trL x0 y0 vx vy vd 0 far).length) 2 (prs (trL x0 y0 vx vy vd 0 far)),.cells true 0 [iV ((g1 (trL x0 y0 vx vy vd 0 far) i)*64),iV ((g2 (trL x0 y0 vx vy vd 0 far) i)*64),iV (((g1 (trL x0 y0 vx vy vd 0 far) i)+1)*64),iV (((g2 (trL x0 y0 vx vy vd 0 far) i)+1)*64)]]) (4) ?_ ?_
  ·refine⟨_,_,_,⟨0,by omega,rfl,rfl⟩,bS hbel [0,1,2,3,5] (az @h4K.eq_1)⟩
  rintro k1 F Hx ⟨n,hm1,rfl,rfl⟩ J1 hJ1
  refine rcs G7 (fun h5 h5d _=>?_) (fun h5 h5d G19=>?_)
  ·obtain rfl|rfl|rfl|rfl:=(by omega:n=0\/n=1\/n=2\/n=3)
   ·have G8:=j2 h5 h5d G7
    refine rgs G8 (fun h6 h6d G9=>?_) (fun h6 h6d _=>?_)
    ·have hst:h4K true x0 y0 x1 y1 vx vy vd far (g1 (trL x0 y0 vx vy vd 0 far) i) (g2 (trL x0 y0 vx vy vd 0 far) i) 1=dg x0 y0 vx vy vd far ((g1 (trL x0 y0 vx vy vd 0 far) i)*64) ((g2 (trL x0 y0 vx vy vd 0 far) i)*64) (((g1 (trL x0 y0 vx vy vd 0 far) i)+1)*64) (((g2 (trL x0 y0 vx vy vd 0 far) i)+1)*64):=by
      show (h4K true x0 y0 x1 y1 vx vy vd far (g1 (trL x0 y0 vx vy vd 0 far) i) (g2 (trL x0 y0 vx vy vd 0 far) i) 0&&hcB true x0 y0 vx vy vd far (g1 (trL x0 y0 vx vy vd 0 far) i) (g2 (trL x0 y0 vx vy vd 0 far) i))=_
      rw[h6d,Bool.true_and];exact hcB_t rfl
     refine ae G9 ?_
     refine cvr G9 (eH _ _ _ _ _ _ _ _ _ _ _) ?_
     refine hJ1 _ _ ⟨k1-1,by omega,_,_,_,⟨0+1,by omega,rfl,rfl⟩,bS hbel [0,1,2,3,4] (az @hst)⟩
    exact absurd (show true=false from h6d) (by decide)
   ·have G10:=j2 h5 h5d G7
    refine rgs G10 (fun h7 h7d G11=>?_) (fun h7 h7d G12=>?_)
    ·have hst:h4K true x0 y0 x1 y1 vx vy vd far (g1 (trL x0 y0 vx vy vd 0 far) i) (g2 (trL x0 y0 vx vy vd 0 far) i) 2=dg x1 y0 vx vy vd far ((g1 (trL x0 y0 vx vy vd 0 far) i)*64) ((g2 (trL x0 y0 vx vy vd 0 far) i)*64) (((g1 (trL x0 y0 vx vy vd 0 far) i)+1)*64) (((g2 (trL x0 y0 vx vy vd 0 far) i)+1)*64):=by
      show (h4K true x0 y0 x1 y1 vx vy vd far (g1 (trL x0 y0 vx vy vd 0 far) i) (g2 (trL x0 y0 vx vy vd 0 far) i) 1&&hcB true x1 y0 vx vy vd far (g1 (trL x0 y0 vx vy vd 0 far) i) (g2 (trL x0 y0 vx vy vd 0 far) i))=_
      rw[h7d,Bool.true_and];exact hcB_t rfl
     refine ae G11 ?_
     refine cvr G11 (eH _ _ _ _ _ _ _ _ _ _ _) ?_
     refine hJ1 _ _ ⟨k1-1,by omega,_,_,_,⟨1+1,by omega,rfl,rfl⟩,bS hbel [0,1,2,3,4] (az @hst)⟩
    have hst:h4K true x0 y0 x1 y1 vx vy vd far (g1 (trL x0 y0 vx vy vd 0 far) i) (g2 (trL x0 y0 vx vy vd 0 far) i) 2=false:=by
     show (h4K true x0 y0 x1 y1 vx vy vd far (g1 (trL x0 y0 vx vy vd 0 far) i) (g2 (trL x0 y0 vx vy vd 0 far) i) 1&&_)=false
     rw[h7d];rfl
    refine ae G12 ?_
    refine hJ1 _ _ ⟨k1-1,by omega,_,_,_,⟨1+1,by omega,rfl,rfl⟩,bS hbel [0,1,2,3,4] (az @hst)⟩
   ·have G13:=j2 h5 h5d G7
    refine rgs G13 (fun h8 h8d G14=>?_) (fun h8 h8d G15=>?_)
    ·have hst:h4K true x0 y0 x1 y1 vx vy vd far (g1 (trL x0 y0 vx vy vd 0 far) i) (g2 (trL x0 y0 vx vy vd 0 far) i) 3=dg x0 y1 vx vy vd far ((g1 (trL x0 y0 vx vy vd 0 far) i)*64) ((g2 (trL x0 y0 vx vy vd 0 far) i)*64) (((g1 (trL x0 y0 vx vy vd 0 far) i)+1)*64) (((g2 (trL x0 y0 vx vy vd 0 far) i)+1)*64):=by
      show (h4K true x0 y0 x1 y1 vx vy vd far (g1 (trL x0 y0 vx vy vd 0 far) i) (g2 (trL x0 y0 vx vy vd 0 far) i) 2&&hcB true x0 y1 vx vy vd far (g1 (trL x0 y0 vx vy vd 0 far) i) (g2 (trL x0 y0 vx vy vd 0 far) i))=_
      rw[h8d,Bool.true_and];exact hcB_t rfl
     refine ae G14 ?_
     refine cvr G14 (eH _ _ _ _ _ _ _ _ _ _ _) ?_
     refine hJ1 _ _ ⟨k1-1,by omega,_,_,_,⟨2+1,by omega,rfl,rfl⟩,bS hbel [0,1,2,3,4] (az @hst)⟩
    have hst:h4K true x0 y0 x1 y1 vx vy vd far (g1 (trL x0 y0 vx vy vd 0 far) i) (g2 (trL x0 y0 vx vy vd 0 far) i) 3=false:=by
     show (h4K true x0 y0 x1 y1 vx vy vd far (g1 (trL x0 y0 vx vy vd 0 far) i) (g2 (trL x0 y0 vx vy vd 0 far) i) 2&&_)=false
     rw[h8d];rfl
    refine ae G15 ?_
    refine hJ1 _ _ ⟨k1-1,by omega,_,_,_,⟨2+1,by omega,rfl,rfl⟩,bS hbel [0,1,2,3,4] (az @hst)⟩
   have G16:=j2 h5 h5d G7
   refine rgs G16 (fun h9 h9d G17=>?_) (fun h9 h9d G18=>?_)
   ·have hst:h4K true x0 y0 x1 y1 vx vy vd far (g1 (trL x0 y0 vx vy vd 0 far) i) (g2 (trL x0 y0 vx vy vd 0 far) i) 4=dg x1 y1 vx vy vd far ((g1 (trL x0 y0 vx vy vd 0 far) i)*64) ((g2 (trL x0 y0 vx vy vd 0 far) i)*64) (((g1 (trL x0 y0 vx vy vd 0 far) i)+1)*64) (((g2 (trL x0 y0 vx vy vd 0 far) i)+1)*64):=by
     show (h4K true x0 y0 x1 y1 vx vy vd far (g1 (trL x0 y0 vx vy vd 0 far) i) (g2 (trL x0 y0 vx vy vd 0 far) i) 3&&hcB true x1 y1 vx vy vd far (g1 (trL x0 y0 vx vy vd 0 far) i) (g2 (trL x0 y0 vx vy vd 0 far) i))=_
     rw[h9d,Bool.true_and];exact hcB_t rfl
    refine ae G17 ?_
    refine cvr G17 (eH _ _ _ _ _ _ _ _ _ _ _) ?_
    refine hJ1 _ _ ⟨k1-1,by omega,_,_,_,⟨3+1,by omega,rfl,rfl⟩,bS hbel [0,1,2,3,4] (az @hst)⟩
   have hst:h4K true x0 y0 x1 y1 vx vy vd far (g1 (trL x0 y0 vx vy vd 0 far) i) (g2 (trL x0 y0 vx vy vd 0 far) i) 4=false:=by
    show (h4K true x0 y0 x1 y1 vx vy vd far (g1 (trL x0 y0 vx vy vd 0 far) i) (g2 (trL x0 y0 vx vy vd 0 far) i) 3&&_)=false
    rw[h9d];rfl
   refine ae G18 ?_
   refine hJ1 _ _ ⟨k1-1,by omega,_,_,_,⟨3+1,by omega,rfl,rfl⟩,bS hbel [0,1,2,3,4] (az @hst)⟩
  obtain rfl:n=4:=by omega
  refine rcs G19 (fun h10 h10d G20=>?_) (fun h10 h10d G21=>?_)
  ·have hfinH:eF W Hh xs x0 y0 x1 y1 vx vy vd far true=true:=by
    unfold eF
    rw[decide_eq_false hf0]
    exact List.any_eq_true.2 ⟨_,List.getElem_mem hlt,by
     rw[<-ct hlt];unfold gz;rw[Bool.and_eq_true,beq_iff_eq];exact⟨hat,h4K_4.symm.trans h10d⟩⟩
   exact eR G20 hQ hbel (.bool true) results172 ⟨by rw[hfinH],rfl⟩
  have hno:gz W Hh xs true x0 y0 x1 y1 vx vy vd far ((g1 (trL x0 y0 vx vy vd 0 far) i),(g2 (trL x0 y0 vx vy vd 0 far) i))=false:=by unfold gz;rw[Bool.and_eq_false_iff];right;exact h4K_4.symm.trans h10d
  refine ae G21 ?_
  refine hJ0 _ _ ⟨k0-1,by omega,_,_,_,⟨i+1,by omega,fun j hj=>by
        rcases Nat.lt_or_ge j i with h|h
        ·exact hal j h
        rw[show j=i by omega];exact hno,rfl,rfl⟩,bS hbel [0,1,2,3] fk⟩
 obtain rfl:i=(trL x0 y0 vx vy vd 0 far).length:=by omega
 have hfinH:eF W Hh xs x0 y0 x1 y1 vx vy vd far true=false:=by
  unfold eF
  rw[nP (fun j hj=>by rw[<-ct hj];exact hal j hj)];simp
 exact eR G22 hQ hbel (.bool false) results172 ⟨by rw[hfinH],rfl⟩
theorem hidf_c (H:aa)(W Hh:Int)(pp:AV)(xs:List Int)(x0 y0 x1 y1 vx vy vd far:Int)(hpp:zI H pp xs)(hV:bC W Hh xs=true)(hx : -1048576<=x0/\x0<=1048576)(hy : -1048576<=y0/\y0<=1048576):zC 172 [.agg [iV W,iV Hh,pp],.agg [iV x0,iV y0,iV x1,iV y1],.agg [iV vx,iV vy,iV vd],iV far,.bool false] H (.bool (eF W Hh xs x0 y0 x1 y1 vx vy vd far false)) H:=by
 obtain⟨bpp,opp,cpp,rfl,hbpp,hblpp,hb0pp⟩:=zA1 hpp
 have htl:=jU x0 y0 vx vy vd 0 far
 refine AcT true func172 ?_;intro hbel Q hQ
 have G23:=jn @hbpp @hb0pp
 refine rcs G23 (fun h1 h1d G24=>?_) (fun h1 h1d G25=>?_)
 ·have hfinH:eF W Hh xs x0 y0 x1 y1 vx vy vd far false=false:=by unfold eF;rw[decide_eq_true h1d];rfl
  exact eR G24 hQ hbel (.bool false) results172 ⟨by rw[hfinH],rfl⟩
 have hf0:=h1d
 refine ae G25 ?_
 refine cvr G25 (kE _ _ _ _ _ _ 0 _) ?_
 refine glp (fun k F Hx=>∃i:Nat,i+k=(trL x0 y0 vx vy vd 0 far).length/\(∀j:Nat,j<i->gz W Hh xs false x0 y0 x1 y1 vx vy vd far (g1 (trL x0 y0 vx vy vd 0 far) j,g2 (trL x0 y0 vx vy vd 0 far) j)=false)/\F=[(3,iV far),(4,.bool false),(5,.ptr (some (H.length,0))),(7,.ptr (some (H.length+1,0))),(11,.ptr (some (H.length+2,0))),(51,.sl (some (H.length+3,0)) ((trL x0 y0 vx vy vd 0 far).length) (aT (trL x0 y0 vx vy vd 0 far).length)),(52,iV (((trL x0 y0 vx vy vd 0 far).length:Nat):Int)),(53,iV (i:Int))]/\Hx=H++[.cells true 0 [iV W,iV Hh,.sl (some (bpp,0)) xs.length cpp],.cells true 0 [iV vx,iV vy,iV vd],.cells true 0 [iV x0,iV y0,iV x1,iV y0,iV x0,iV y1,iV x1,iV y1],.cells (aL (trL x0 y0 vx vy vd 0 far).length) 2 (prs (trL x0 y0 vx vy vd 0 far))]) ((trL x0 y0 vx vy vd 0 far).length) ?_ ?_
 ·refine⟨_,_,_,⟨0,by omega,(fun j h=>by omega),rfl,rfl⟩,bS hbel [0,2,3,4] fk⟩
 rintro k0 F Hx ⟨i,hm0,hal,rfl,rfl⟩ J0 hJ0
 have G26:=jn @bm (jn @cJ G25)
 refine rcs G26 (fun h2 h2d _=>?_) (fun h2 h2d G44=>?_)
 ·have hlt:i<(trL x0 y0 vx vy vd 0 far).length:=by omega
  have htm:=trL_mem (List.getElem_mem hlt)
  rw[<-ct hlt] at htm
  simp only at htm
  have q3:=cL (l:=trL x0 y0 vx vy vd 0 far) (j:=i) (by omega)
  have G27:=jn h2 (jn h2d (jn q3 G26))
  refine ae G27 ?_
  refine cv (pat_c _ W _ _ xs _ _ (zA2 hb0pp hbpp) hV) ?_
  refine rcs G27 (fun h4 h4d _=>?_) (fun h4 h4d _=>?_)
  ·have h4n:=bnT h4
   have hno:gz W Hh xs false x0 y0 x1 y1 vx vy vd far ((g1 (trL x0 y0 vx vy vd 0 far) i),(g2 (trL x0 y0 vx vy vd 0 far) i))=false:=by unfold gz;rw[beq_eq_false_iff_ne.2 (by exact h4d)];rfl
   have G28:=jn h4 (jn h4n (jn @aP (jn @aO G27)))
   refine ae G28 ?_
   refine hJ0 _ _ ⟨k0-1,by omega,_,_,_,⟨i+1,by omega,fun j hj=>by
         rcases Nat.lt_or_ge j i with h|h
         ·exact hal j h
         rw[show j=i by omega];exact hno,rfl,rfl⟩,bS hbel [0,1,2,3] fk⟩
  have h4n:=bnT h4
  have hat:atI W Hh xs (g1 (trL x0 y0 vx vy vd 0 far) i) (g2 (trL x0 y0 vx vy vd 0 far) i)=2:=by exact h4d
  have G29:=jn h4 (jn h4n (jn @aP (jn @aO G27)))
  refine ae G29 ?_
  refine glp (fun k F Hx=>∃n:Nat,n+k=4/\F=[(3,iV far),(4,.bool false),(5,.ptr (some (H.length,0))),(7,.ptr (some (H.length+1,0))),(11,.ptr (some (H.length+2,0))),(16,.ptr (some (H.length+4,0))),(17,.bool (h4K false x0 y0 x1 y1 vx vy vd far (g1 (trL x0 y0 vx vy vd 0 far) i) (g2 (trL x0 y0 vx vy vd 0 far) i) n)),(51,.sl (some (H.length+3,0)) ((trL x0 y0 vx vy vd 0 far).length) (aT (trL x0 y0 vx vy vd 0 far).length)),(52,iV (((trL x0 y0 vx vy vd 0 far).length:Nat):Int)),(53,iV (i:Int)),(76,.agg [iV x0,iV y0,iV x1,iV y0,iV x0,iV y1,iV x1,iV y1]),(77,iV (n:Int))]/\Hx=H++[.cells true 0 [iV W,iV Hh,.sl (some (bpp,0)) xs.length cpp],.cells true 0 [iV vx,iV vy,iV vd],.cells true 0 [iV x0,iV y0,iV x1,iV y0,iV x0,iV y1,iV x1,iV y1],.cells (aL (trL x0 y0 vx vy vd 0 far).length) 2 (prs (trL x0 y0 vx vy vd 0 far)),.cells true 0 [iV ((g1 (trL x0 y0 vx vy vd 0 far) i)*64),iV ((g2 (trL x0 y0 vx vy vd 0 far) i)*64),iV (((g1 (trL x0 y0 vx vy vd 0 far) i)+1)*64),iV (((g2 (trL x0 y0 vx vy vd 0 far) i)+1)*64)]]) (4) ?_ ?_
  ·refine⟨_,_,_,⟨0,by omega,rfl,rfl⟩,bS hbel [0,1,2,3,5] (az @h4K.eq_1)⟩
  rintro k1 F Hx ⟨n,hm1,rfl,rfl⟩ J1 hJ1
  refine rcs G29 (fun h5 h5d _=>?_) (fun h5 h5d G41=>?_)
  ·obtain rfl|rfl|rfl|rfl:=(by omega:n=0\/n=1\/n=2\/n=3)
   ·have G30:=j2 h5 h5d G29
    refine rgs G30 (fun h6 h6d G31=>?_) (fun h6 h6d _=>?_)
    ·have hst:h4K false x0 y0 x1 y1 vx vy vd far (g1 (trL x0 y0 vx vy vd 0 far) i) (g2 (trL x0 y0 vx vy vd 0 far) i) 1=dR x0 y0 vx vy vd 0 far ((g1 (trL x0 y0 vx vy vd 0 far) i)*64) ((g2 (trL x0 y0 vx vy vd 0 far) i)*64) (((g1 (trL x0 y0 vx vy vd 0 far) i)+1)*64) (((g2 (trL x0 y0 vx vy vd 0 far) i)+1)*64):=by
      show (h4K false x0 y0 x1 y1 vx vy vd far (g1 (trL x0 y0 vx vy vd 0 far) i) (g2 (trL x0 y0 vx vy vd 0 far) i) 0&&hcB false x0 y0 vx vy vd far (g1 (trL x0 y0 vx vy vd 0 far) i) (g2 (trL x0 y0 vx vy vd 0 far) i))=_
      rw[h6d,Bool.true_and];exact hcB_f rfl
     refine ae G31 ?_
     refine cvr G31 (ji _ _ _ _ _ _ 0 _ _ _ _ _) ?_
     refine hJ1 _ _ ⟨k1-1,by omega,_,_,_,⟨0+1,by omega,rfl,rfl⟩,bS hbel [0,1,2,3,4] (az @hst)⟩
    exact absurd (show true=false from h6d) (by decide)
   ·have G32:=j2 h5 h5d G29
    refine rgs G32 (fun h7 h7d G33=>?_) (fun h7 h7d G34=>?_)
    ·have hst:h4K false x0 y0 x1 y1 vx vy vd far (g1 (trL x0 y0 vx vy vd 0 far) i) (g2 (trL x0 y0 vx vy vd 0 far) i) 2=dR x1 y0 vx vy vd 0 far ((g1 (trL x0 y0 vx vy vd 0 far) i)*64) ((g2 (trL x0 y0 vx vy vd 0 far) i)*64) (((g1 (trL x0 y0 vx vy vd 0 far) i)+1)*64) (((g2 (trL x0 y0 vx vy vd 0 far) i)+1)*64):=by
      show (h4K false x0 y0 x1 y1 vx vy vd far (g1 (trL x0 y0 vx vy vd 0 far) i) (g2 (trL x0 y0 vx vy vd 0 far) i) 1&&hcB false x1 y0 vx vy vd far (g1 (trL x0 y0 vx vy vd 0 far) i) (g2 (trL x0 y0 vx vy vd 0 far) i))=_
      rw[h7d,Bool.true_and];exact hcB_f rfl
     refine ae G33 ?_
     refine cvr G33 (ji _ _ _ _ _ _ 0 _ _ _ _ _) ?_
     refine hJ1 _ _ ⟨k1-1,by omega,_,_,_,⟨1+1,by omega,rfl,rfl⟩,bS hbel [0,1,2,3,4] (az @hst)⟩
    have hst:h4K false x0 y0 x1 y1 vx vy vd far (g1 (trL x0 y0 vx vy vd 0 far) i) (g2 (trL x0 y0 vx vy vd 0 far) i) 2=false:=by
     show (h4K false x0 y0 x1 y1 vx vy vd far (g1 (trL x0 y0 vx vy vd 0 far) i) (g2 (trL x0 y0 vx vy vd 0 far) i) 1&&_)=false
     rw[h7d];rfl
    refine ae G34 ?_
    refine hJ1 _ _ ⟨k1-1,by omega,_,_,_,⟨1+1,by omega,rfl,rfl⟩,bS hbel [0,1,2,3,4] (az @hst)⟩
   ·have G35:=j2 h5 h5d G29
    refine rgs G35 (fun h8 h8d G36=>?_) (fun h8 h8d G37=>?_)
    ·have hst:h4K false x0 y0 x1 y1 vx vy vd far (g1 (trL x0 y0 vx vy vd 0 far) i) (g2 (trL x0 y0 vx vy vd 0 far) i) 3=dR x0 y1 vx vy vd 0 far ((g1 (trL x0 y0 vx vy vd 0 far) i)*64) ((g2 (trL x0 y0 vx vy vd 0 far) i)*64) (((g1 (trL x0 y0 vx vy vd 0 far) i)+1)*64) (((g2 (trL x0 y0 vx vy vd 0 far) i)+1)*64):=by
      show (h4K false x0 y0 x1 y1 vx vy vd far (g1 (trL x0 y0 vx vy vd 0 far) i) (g2 (trL x0 y0 vx vy vd 0 far) i) 2&&hcB false x0 y1 vx vy vd far (g1 (trL x0 y0 vx vy vd 0 far) i) (g2 (trL x0 y0 vx vy vd 0 far) i))=_
      rw[h8d,Bool.true_and];exact hcB_f rfl
     refine ae G36 ?_
     refine cvr G36 (ji _ _ _ _ _ _ 0 _ _ _ _ _) ?_
     refine hJ1 _ _ ⟨k1-1,by omega,_,_,_,⟨2+1,by omega,rfl,rfl⟩,bS hbel [0,1,2,3,4] (az @hst)⟩
    have hst:h4K false x0 y0 x1 y1 vx vy vd far (g1 (trL x0 y0 vx vy vd 0 far) i) (g2 (trL x0 y0 vx vy vd 0 far) i) 3=false:=by
     show (h4K false x0 y0 x1 y1 vx vy vd far (g1 (trL x0 y0 vx vy vd 0 far) i) (g2 (trL x0 y0 vx vy vd 0 far) i) 2&&_)=false
     rw[h8d];rfl
    refine ae G37 ?_
    refine hJ1 _ _ ⟨k1-1,by omega,_,_,_,⟨2+1,by omega,rfl,rfl⟩,bS hbel [0,1,2,3,4] (az @hst)⟩
   have G38:=j2 h5 h5d G29
   refine rgs G38 (fun h9 h9d G39=>?_) (fun h9 h9d G40=>?_)
   ·have hst:h4K false x0 y0 x1 y1 vx vy vd far (g1 (trL x0 y0 vx vy vd 0 far) i) (g2 (trL x0 y0 vx vy vd 0 far) i) 4=dR x1 y1 vx vy vd 0 far ((g1 (trL x0 y0 vx vy vd 0 far) i)*64) ((g2 (trL x0 y0 vx vy vd 0 far) i)*64) (((g1 (trL x0 y0 vx vy vd 0 far) i)+1)*64) (((g2 (trL x0 y0 vx vy vd 0 far) i)+1)*64):=by
     show (h4K false x0 y0 x1 y1 vx vy vd far (g1 (trL x0 y0 vx vy vd 0 far) i) (g2 (trL x0 y0 vx vy vd 0 far) i) 3&&hcB false x1 y1 vx vy vd far (g1 (trL x0 y0 vx vy vd 0 far) i) (g2 (trL x0 y0 vx vy vd 0 far) i))=_
     rw[h9d,Bool.true_and];exact hcB_f rfl
    refine ae G39 ?_
    refine cvr G39 (ji _ _ _ _ _ _ 0 _ _ _ _ _) ?_
    refine hJ1 _ _ ⟨k1-1,by omega,_,_,_,⟨3+1,by omega,rfl,rfl⟩,bS hbel [0,1,2,3,4] (az @hst)⟩
   have hst:h4K false x0 y0 x1 y1 vx vy vd far (g1 (trL x0 y0 vx vy vd 0 far) i) (g2 (trL x0 y0 vx vy vd 0 far) i) 4=false:=by
    show (h4K false x0 y0 x1 y1 vx vy vd far (g1 (trL x0 y0 vx vy vd 0 far) i) (g2 (trL x0 y0 vx vy vd 0 far) i) 3&&_)=false
    rw[h9d];rfl
   refine ae G40 ?_
   refine hJ1 _ _ ⟨k1-1,by omega,_,_,_,⟨3+1,by omega,rfl,rfl⟩,bS hbel [0,1,2,3,4] (az @hst)⟩
  obtain rfl:n=4:=by omega
  refine rcs G41 (fun h10 h10d G42=>?_) (fun h10 h10d G43=>?_)
  ·have hfinH:eF W Hh xs x0 y0 x1 y1 vx vy vd far false=true:=by
    unfold eF
    rw[decide_eq_false hf0]
    exact List.any_eq_true.2 ⟨_,List.getElem_mem hlt,by
     rw[<-ct hlt];unfold gz;rw[Bool.and_eq_true,beq_iff_eq];exact⟨hat,h4K_4.symm.trans h10d⟩⟩
   exact eR G42 hQ hbel (.bool true) results172 ⟨by rw[hfinH],rfl⟩
  have hno:gz W Hh xs false x0 y0 x1 y1 vx vy vd far ((g1 (trL x0 y0 vx vy vd 0 far) i),(g2 (trL x0 y0 vx vy vd 0 far) i))=false:=by unfold gz;rw[Bool.and_eq_false_iff];right;exact h4K_4.symm.trans h10d
  refine ae G43 ?_
  refine hJ0 _ _ ⟨k0-1,by omega,_,_,_,⟨i+1,by omega,fun j hj=>by
        rcases Nat.lt_or_ge j i with h|h
        ·exact hal j h
        rw[show j=i by omega];exact hno,rfl,rfl⟩,bS hbel [0,1,2,3] fk⟩
 obtain rfl:i=(trL x0 y0 vx vy vd 0 far).length:=by omega
 have hfinH:eF W Hh xs x0 y0 x1 y1 vx vy vd far false=false:=by
  unfold eF
  rw[nP (fun j hj=>by rw[<-ct hj];exact hal j hj)];simp
 exact eR G44 hQ hbel (.bool false) results172 ⟨by rw[hfinH],rfl⟩
theorem emp_c (H:aa)(W Hh:Int)(pp:AV)(xs:List Int)(x0 y0 x1 y1 vx vy vd lo hi:Int)(hpp:zI H pp xs)(hV:bC W Hh xs=true):zC 173 [.agg [iV W,iV Hh,pp],.agg [iV x0,iV y0,iV x1,iV y1],.agg [iV vx,iV vy,iV vd],iV lo,iV hi] H (.bool (empB W Hh xs x0 y0 x1 y1 vx vy vd lo hi)) H:=by
 obtain⟨bpp,opp,cpp,rfl,hbpp,hblpp,hb0pp⟩:=zA1 hpp
 have htl:=mR x0 y0 x1 y1 vx vy vd lo hi
 refine AcT true func173 ?_;intro hbel Q hQ
 have G1:=jn @hbpp @hb0pp
 refine ae G1 ?_
 refine cvr G1 (swept_c _ _ _ _ _ _ _ _ _ _) ?_
 refine glp (fun k F Hx=>∃i:Nat,i+k=(cP x0 y0 x1 y1 vx vy vd lo hi).length/\(∀j:Nat,j<i->frC W Hh xs (g1 (cP x0 y0 x1 y1 vx vy vd lo hi) j,g2 (cP x0 y0 x1 y1 vx vy vd lo hi) j)=true)/\F=[(5,.ptr (some (H.length,0))),(23,.sl (some (H.length+1,0)) ((cP x0 y0 x1 y1 vx vy vd lo hi).length) (aT (cP x0 y0 x1 y1 vx vy vd lo hi).length)),(24,iV (((cP x0 y0 x1 y1 vx vy vd lo hi).length:Nat):Int)),(25,iV (i:Int))]/\Hx=H++[.cells true 0 [iV W,iV Hh,.sl (some (bpp,0)) xs.length cpp],.cells (aL (cP x0 y0 x1 y1 vx vy vd lo hi).length) 2 (prs (cP x0 y0 x1 y1 vx vy vd lo hi))]) ((cP x0 y0 x1 y1 vx vy vd lo hi).length) ?_ ?_
 ·refine⟨_,_,_,⟨0,by omega,(fun j h=>by omega),rfl,rfl⟩,bS hbel [0,3] fk⟩
 rintro k0 F Hx ⟨i,hm0,hal,rfl,rfl⟩ J0 hJ0
 have G2:=jn @bm (jn @cJ G1)
 refine rcs G2 (fun h1 h1d _=>?_) (fun h1 h1d G6=>?_)
 ·have hlt:i<(cP x0 y0 x1 y1 vx vy vd lo hi).length:=by omega
  have q2:=cL (l:=cP x0 y0 x1 y1 vx vy vd lo hi) (j:=i) (by omega)
  have G3:=jn h1 (jn h1d (jn q2 G2))
  refine ae G3 ?_
  refine cv (pat_c _ W _ _ xs _ _ (zA2 hb0pp hbpp) hV) ?_
  refine rcs G3 (fun h3 h3d _=>?_) (fun h3 h3d _=>?_)
  ·have h3n:=bnT h3
   have hfinE:empB W Hh xs x0 y0 x1 y1 vx vy vd lo hi=false:=by
    rw[<-Bool.not_eq_true];intro k
    have q:=List.all_eq_true.1 k _ (List.getElem_mem hlt)
    rw[<-ct hlt] at q
    have q2:atI W Hh xs (g1 (cP x0 y0 x1 y1 vx vy vd lo hi) i) (g2 (cP x0 y0 x1 y1 vx vy vd lo hi) i)=1:=by unfold frC at q;simpa using q
    exact absurd q2 (by exact h3d)
   have G4:=jn h3 (jn h3n (jn @aP (jn @aO G3)))
   exact eR G4 hQ hbel (.bool false) results173 ⟨by rw[hfinE],rfl⟩
  have h3n:=bnT h3
  have hone:frC W Hh xs ((g1 (cP x0 y0 x1 y1 vx vy vd lo hi) i),(g2 (cP x0 y0 x1 y1 vx vy vd lo hi) i))=true:=by unfold frC;rw[beq_iff_eq];exact h3d
  have G5:=jn h3 (jn h3n (jn @aP (jn @aO G3)))
  refine ae G5 ?_
  refine hJ0 _ _ ⟨k0-1,by omega,_,_,_,⟨i+1,by omega,fun j hj=>by
        rcases Nat.lt_or_ge j i with h|h
        ·exact hal j h
        rw[show j=i by omega];exact hone,rfl,rfl⟩,bS hbel [0,1] fk⟩
 obtain rfl:i=(cP x0 y0 x1 y1 vx vy vd lo hi).length:=by omega
 have hfinE:empB W Hh xs x0 y0 x1 y1 vx vy vd lo hi=true:=List.all_eq_true.2 fun c hc=>by
  obtain⟨j,hj,rfl⟩:=List.mem_iff_getElem.1 hc
  rw[<-ct hj];exact hal j hj
 exact eR G6 hQ hbel (.bool true) results173 ⟨by rw[hfinE],rfl⟩
theorem ref_c (H:aa)(W Hh:Int)(pp:AV)(xs:List Int)(x0 y0 x1 y1 h m r g:Int)(hpp:zI H pp xs)(hV:bC W Hh xs=true)(hA:fK x0 y0 x1 y1=true)(hg:1<=g/\g<=32)(hbe:fm m r=true):zC 143 [.agg [iV W,iV Hh,pp],.agg [iV x0,iV y0,iV x1,iV y1],iV h,.agg [iV m,iV r],iV g] H (.bool (refB W Hh xs x0 y0 x1 y1 h m r g)) H:=by
 obtain⟨bpp,opp,cpp,rfl,hbpp,hblpp,hb0pp⟩:=zA1 hpp
 have had:=re.1 hA
 have hbb:=gb.1 hbe
 have el0:(if 0<r-g then r-g else 0)=eq r g:=rfl
 have el1:0<=eq r g:=by unfold eq;split<;>omega
 refine AcT true func143 ?_;intro hbel Q hQ
 have G7:=jn @hbpp (jn @hb0pp @el0)
 refine ae G7 ?_
 refine cv (dD _ h m) ?_
 refine rcs G7 (fun h1 h1d _=>?_) (fun h1 h1d _=>?_)
 ·have h1n:=bnT h1
  have hfinR:refB W Hh xs x0 y0 x1 y1 h m r g=eF W Hh xs x0 y0 x1 y1 ((aF h m).1) ((aF h m).2.1) ((aF h m).2.2) (1024-g) false:=by unfold refB;rw[h1];rfl
  have G8:=jn h1 (jn h1n (jn @aP (jn @aO G7)))
  refine ae G8 ?_
  refine cvr G8 (hidf_c _ W _ _ xs _ _ _ _ _ _ _ _ (zA2 hb0pp hbpp) hV (by omega) (by omega)) ?_
  exact eP hQ hbel (.bool (eF W Hh xs x0 y0 x1 y1 ((aF h m).1) ((aF h m).2.1) ((aF h m).2.2) (1024-g) false)) results143 ⟨by rw[hfinR],rfl⟩
 have h1n:=bnT h1
 have hrf:=h1
 have G9:=jn h1 (jn h1n (jn @aP (jn @aO G7)))
 refine ae G9 ?_
 refine cv (hidt_c _ W _ _ xs _ _ _ _ _ _ _ _ (zA2 hb0pp hbpp) hV (by omega) (by omega)) ?_
 refine rgs G9 (fun h2 h2d G10=>?_) (fun h2 h2d G11=>?_)
 ·have hfinR:refB W Hh xs x0 y0 x1 y1 h m r g=empB W Hh xs x0 y0 x1 y1 (aF h m).1 (aF h m).2.1 (aF h m).2.2 (eq r g) (r+g):=by unfold refB;rw[hrf,h2d];rfl
  refine ae G10 ?_
  refine cvr G10 (emp_c _ W _ _ xs _ _ _ _ _ _ _ _ _ (zA2 hb0pp hbpp) hV) ?_
  exact eP hQ hbel (.bool (empB W Hh xs x0 y0 x1 y1 ((aF h m).1) ((aF h m).2.1) ((aF h m).2.2) (eq r g) (r+g))) results143 ⟨by rw[hfinR],rfl⟩
 have hfinR:refB W Hh xs x0 y0 x1 y1 h m r g=true:=by unfold refB;rw[hrf,h2d];rfl
 exact eR G11 hQ hbel (.bool true) results143 ⟨by rw[hfinR],rfl⟩
theorem bad_c (H:aa)(W Hh:Int)(pp:AV)(xs:List Int)(x0 y0 x1 y1 h:Int)(q:AV)(sc:List (Int×Int))(g:Int)(hpp:zI H pp xs)(hq:SlP H q sc)(hV:bC W Hh xs=true)(hg:1<=g/\g<=32)(hsB:c7 sc=true):zC 100 [.agg [iV W,iV Hh,pp],.agg [iV x0,iV y0,iV x1,iV y1],iV h,q,iV g] H (.bool (badB W Hh xs x0 y0 x1 y1 h sc g)) H:=by
 obtain⟨bpp,opp,cpp,rfl,hbpp,hblpp,hb0pp⟩:=zA1 hpp
 obtain⟨bq,oq,cq,rfl,hbq,hblq,hb0q⟩:=zA1 hq
 have hsc:=dF.1 hsB
 refine AcT true func100 ?_;intro hbel Q hQ
 have G12:=jn @hbpp (jn @hb0pp (jn @hbq @hb0q))
 refine ae G12 ?_
 refine cv (cadm_c _ _ _ _ _) ?_
 refine rcs G12 (fun h1 h1d G13=>?_) (fun h1 h1d G14=>?_)
 ·have hfinB:badB W Hh xs x0 y0 x1 y1 h sc g=false:=by unfold badB;rw[h1d];rfl
  exact eR G13 hQ hbel (.bool false) results100 ⟨by rw[hfinB],rfl⟩
 have hadm:=h1d
 refine ae G14 ?_
 refine glp (fun k F Hx=>∃i:Nat,i+k=sc.length/\(∀j:Nat,j<i->refB W Hh xs x0 y0 x1 y1 h (g1 sc j) (g2 sc j) g=false)/\F=[(2,iV h),(4,iV g),(5,.ptr (some (H.length,0))),(6,.ptr (some (H.length+1,0))),(16,.sl (some (bq,0)) sc.length cq),(17,iV (sc.length:Int)),(18,iV (i:Int))]/\Hx=H++[.cells true 0 [iV W,iV Hh,.sl (some (bpp,0)) xs.length cpp],.cells true 0 [iV x0,iV y0,iV x1,iV y1]]) (sc.length) ?_ ?_
 ·refine⟨_,_,_,⟨0,by omega,(fun j h=>by omega),rfl,rfl⟩,bS hbel [0,1] aD⟩
 rintro k0 F Hx ⟨i,hm0,hal,rfl,rfl⟩ J0 hJ0
 refine rcs G14 (fun h2 h2d _=>?_) (fun h2 h2d G18=>?_)
 ·have hlt:i<sc.length:=by omega
  have hbe:=hsc.2 _ (List.getElem_mem hlt)
  rw[<-ct hlt] at hbe
  have hbe2:fm (g1 sc i) (g2 sc i)=true:=hbe
  have q3:=cL (l:=sc) (j:=i) (by omega)
  have G15:=jn h2 (jn h2d (jn q3 G14))
  refine ae G15 ?_
  refine cv (ref_c _ W _ _ xs _ _ _ _ h _ _ g (zA2 hb0pp hbpp) hV (by assumption) hg (by assumption)) ?_
  refine rcs G15 (fun h4 h4d G16=>?_) (fun h4 h4d G17=>?_)
  ·have hfinB:badB W Hh xs x0 y0 x1 y1 h sc g=true:=by
    unfold badB
    rw[hadm]
    exact List.any_eq_true.2 ⟨_,List.getElem_mem hlt,by rw[<-ct hlt];exact h4d⟩
   exact eR G16 hQ hbel (.bool true) results100 ⟨by rw[hfinB],rfl⟩
  have hno:=h4d
  refine ae G17 ?_
  refine hJ0 _ _ ⟨k0-1,by omega,_,_,_,⟨i+1,by omega,fun j hj=>by
        rcases Nat.lt_or_ge j i with h|h
        ·exact hal j h
        rw[show j=i by omega];exact hno,rfl,rfl⟩,bS hbel [0,1] aD⟩
 obtain rfl:i=sc.length:=by omega
 have hfinB:badB W Hh xs x0 y0 x1 y1 h sc g=false:=by
  unfold badB
  rw[nP (fun j hj=>by rw[<-ct hj];exact hal j hj)];simp
 exact eR G18 hQ hbel (.bool false) results100 ⟨by rw[hfinB],rfl⟩
theorem tOk_x {W Hh:Int}{xs:List Int}{b:T6}{s:List (Int×Int)}{g:Int}(h:tX1 W b<tX0 b):tOk W Hh xs b s g=false:=by unfold tOk;rw[decide_eq_true h];rfl
theorem tOk_y {W Hh:Int}{xs:List Int}{b:T6}{s:List (Int×Int)}{g:Int}(h:tY1 Hh b<tY0 b):tOk W Hh xs b s g=false:=by unfold tOk;rw[decide_eq_true h];simp
theorem tOk_n {W Hh:Int}{xs:List Int}{b:T6}{s:List (Int×Int)}{g:Int}{i:Nat}(hi:i=(mkB b).length)(h:∀k:Nat,k<i->tP W Hh xs b s g k=true):tOk W Hh xs b s g=false:=by
 have e:tI W Hh xs b s g=(mkB b).length:=by unfold tI;rw[<-hi];exact nN h (Nat.le_refl _) (.inl rfl)
 unfold tOk;rw[e,decide_eq_false (Nat.lt_irrefl _)];simp
theorem tI_i {W Hh:Int}{xs:List Int}{b:T6}{s:List (Int×Int)}{g:Int}{i:Nat}(hi:i<(mkB b).length)(h:∀k:Nat,k<i->tP W Hh xs b s g k=true)(h0:tP W Hh xs b s g i=false):tI W Hh xs b s g=i:=nN h (by omega) (.inr h0)
theorem tOk_y2 {W Hh:Int}{xs:List Int}{b:T6}{s:List (Int×Int)}{g:Int}{i:Nat}(hx:¬tX1 W b<tX0 b)(hy:¬tY1 Hh b<tY0 b)(hi:i<(mkB b).length)(h:tI W Hh xs b s g=i):tOk W Hh xs b s g=true:=by
 unfold tOk;rw[decide_eq_false hx,decide_eq_false hy,h,decide_eq_true hi];rfl
theorem tJ_j {W Hh:Int}{xs:List Int}{b:T6}{s:List (Int×Int)}{g:Int}{j:Nat}(hj:0<j)(h0:tP W Hh xs b s g (j-1)=false)(hn:j<=(mkB b).length)(h:∀k:Nat,j<=k->k<(mkB b).length->tP W Hh xs b s g k=true):tJ W Hh xs b s g=j:=tlN_eq ⟨hj,h0⟩ hn h
theorem trim_c (H:aa)(W Hh:Int)(pp:AV)(xs:List Int)(x0 y0 x1 y1 f c:Int)(q:AV)(sc:List (Int×Int))(g:Int)(hpp:zI H pp xs)(hq:SlP H q sc)(hV:bC W Hh xs=true)(hb:bxB x0 y0 x1 y1 f c=true)(hsB:c7 sc=true)(hg:1<=g/\g<=32):zC 63 [.agg [iV W,iV Hh,pp],.agg [iV x0,iV y0,iV x1,iV y1,iV f,iV c],q,iV g] H (.tup [.agg [iV (mkV (tOk W Hh xs (x0,y0,x1,y1,f,c) sc g) ((tB W Hh xs (x0,y0,x1,y1,f,c) sc g).1)),iV (mkV (tOk W Hh xs (x0,y0,x1,y1,f,c) sc g) ((tB W Hh xs (x0,y0,x1,y1,f,c) sc g).2.1)),iV (mkV (tOk W Hh xs (x0,y0,x1,y1,f,c) sc g) ((tB W Hh xs (x0,y0,x1,y1,f,c) sc g).2.2.1)),iV (mkV (tOk W Hh xs (x0,y0,x1,y1,f,c) sc g) ((tB W Hh xs (x0,y0,x1,y1,f,c) sc g).2.2.2.1)),iV (mkV (tOk W Hh xs (x0,y0,x1,y1,f,c) sc g) ((tB W Hh xs (x0,y0,x1,y1,f,c) sc g).2.2.2.2.1)),iV (mkV (tOk W Hh xs (x0,y0,x1,y1,f,c) sc g) ((tB W Hh xs (x0,y0,x1,y1,f,c) sc g).2.2.2.2.2))],.bool (tOk W Hh xs (x0,y0,x1,y1,f,c) sc g)]) H:=by
 obtain⟨bpp,opp,cpp,rfl,hbpp,hblpp,hb0pp⟩:=zA1 hpp
 obtain⟨bq,oq,cq,rfl,hbq,hblq,hb0q⟩:=zA1 hq
 have hbb:=bB.1 hb
 have hab:=hbb.2.2
 have haa:=bo.1 hab
 have hVV:=bh.1 hV
 have hw0:=hVV.w0
 have hw1:=hVV.w1
 have hh0:=hVV.h0
 have hh1:=hVV.h1
 have hln:=eV f c.toNat
 have e0:(if x0<0 then 0 else x0)=tX0 (x0,y0,x1,y1,f,c):=rfl
 have e1:(if y0<0 then 0 else y0)=tY0 (x0,y0,x1,y1,f,c):=rfl
 have e2:(if 64*W<x1 then 64*W else x1)=tX1 W (x0,y0,x1,y1,f,c):=rfl
 have e3:(if 64*Hh<y1 then 64*Hh else y1)=tY1 Hh (x0,y0,x1,y1,f,c):=rfl
 refine AcT true func63 ?_;intro hbel Q hQ
 have G1:=jn @hbpp (jn @hb0pp (jn @hbq (jn @hb0q (jn @e0 (jn @e1 (jn @e2 @e3))))))
 refine rgs G1 (fun h1 h1d G2=>?_) (fun h1 h1d G15=>?_)
 ·have hnx:=h1d
  refine rcs G2 (fun h2 h2d G3=>?_) (fun h2 h2d G4=>?_)
  ·have hfinO:=tOk_y (W:=W) (Hh:=Hh) (xs:=xs) (b:=(x0,y0,x1,y1,f,c)) (s:=sc) (g:=g) h2d
   exact eR G3 hQ hbel (.tup [.agg [iV 0,iV 0,iV 0,iV 0,iV 0,iV 0],.bool false]) results63 ⟨by (rw[hfinO];rfl),rfl⟩
  have hny:=h2d
  refine ae G4 ?_
  refine cvr G4 (oC _ f c hab) ?_
  refine glp (fun k F Hx=>∃i:Nat,i+k=(aX f c.toNat).length/\(∀j:Nat,j<i->tP W Hh xs (x0,y0,x1,y1,f,c) sc g j=true)/\F=[(2,.sl (some (bq,0)) sc.length cq),(3,iV g),(4,.ptr (some (H.length,0))),(8,.ptr (some (H.length+1,0))),(10,.ptr (some (H.length+2,0))),(11,.sl (some (H.length+3,i)) ((aX f c.toNat).length-i) none)]/\Hx=H++[.cells true 0 [iV W,iV Hh,.sl (some (bpp,0)) xs.length cpp],.cells true 0 [iV 0,iV 0,iV 0,iV 0,iV 0,iV 0],.cells true 0 [iV (tX0 (x0,y0,x1,y1,f,c)),iV (tY0 (x0,y0,x1,y1,f,c)),iV (tX1 W (x0,y0,x1,y1,f,c)),iV (tY1 Hh (x0,y0,x1,y1,f,c))],.cells true 1 (ints .i64 (aX f c.toNat))]) ((aX f c.toNat).length) ?_ ?_
  ·refine⟨_,_,_,⟨0,by omega,(fun j h=>by omega),rfl,rfl⟩,bS hbel [0,2,3,4] fk⟩
  rintro k0 F Hx ⟨i,hm0,hal,rfl,rfl⟩ J0 hJ0
  have G5:=jn @bZ (jn @cU G4)
  refine rgs G5 (fun h3 h3d _=>?_) (fun h3 h3d G13=>?_)
  ·have q4:=cS (k:=.i64) (xs:=aX f c.toNat) (j:=i) (by omega)
   have G6:=jn h3 (jn h3d (jn q4 G5))
   refine ae G6 ?_
   refine cd (bad_c _ W _ _ xs _ _ _ _ _ _ sc g (zA2 hb0pp hbpp) (zA2 hb0q hbq) hV hg hsB) ?_
   refine rcs G6 (fun h5 h5d G7=>?_) (fun h5 h5d G8=>?_)
   ·have hbi:=h5d
    refine ae G7 ?_
    have hv1:(aX f c.toNat).length-i-1=(aX f c.toNat).length-(i+1):=by omega
    refine hJ0 _ _ ⟨k0-1,by omega,_,_,_,⟨i+1,by omega,fun j hj=>by
          rcases Nat.lt_or_ge j i with h|h
          ·exact hal j h
          rw[show j=i by omega];exact hbi,rfl,rfl⟩,bS hbel [0,1,2,3] (az @hv1)⟩
   have hpi:tP W Hh xs (x0,y0,x1,y1,f,c) sc g i=false:=h5d
   have hiN:i<(mkB (x0,y0,x1,y1,f,c)).length:=by show i<(aX f c.toNat).length;omega
   have hfinI:=tI_i hiN hal hpi
   have hfinO:=tOk_y2 hnx hny hiN hfinI
   refine rcs G8 (fun h6 h6d _=>?_) (fun h6 h6d _=>?_)
   ·have h6n:=bnT h6
    omega
   have h6n:=bnT h6
   have G9:=jn h6 (jn h6n (jn @aP (jn @aO G8)))
   refine ae G9 ?_
   refine glp (fun k F Hx=>∃j:Nat,i+k=j/\i<j/\j<=(aX f c.toNat).length/\(∀q:Nat,j<=q->q<(mkB (x0,y0,x1,y1,f,c)).length->tP W Hh xs (x0,y0,x1,y1,f,c) sc g q=true)/\F=[(2,.sl (some (bq,0)) sc.length cq),(3,iV g),(4,.ptr (some (H.length,0))),(8,.ptr (some (H.length+1,0))),(10,.ptr (some (H.length+2,0))),(11,.sl (some (H.length+3,i)) (j-i) none)]/\Hx=H++[.cells true 0 [iV W,iV Hh,.sl (some (bpp,0)) xs.length cpp],.cells true 0 [iV 0,iV 0,iV 0,iV 0,iV 0,iV 0],.cells true 0 [iV (tX0 (x0,y0,x1,y1,f,c)),iV (tY0 (x0,y0,x1,y1,f,c)),iV (tX1 W (x0,y0,x1,y1,f,c)),iV (tY1 Hh (x0,y0,x1,y1,f,c))],.cells true 1 (ints .i64 (aX f c.toNat))]) ((aX f c.toNat).length-i) ?_ ?_
   ·refine⟨_,_,_,⟨(aX f c.toNat).length,by omega,by omega,Nat.le_refl _,(fun q h1 h2=>by have h2':q<(aX f c.toNat).length:=h2;omega),rfl,rfl⟩,bS hbel [0,1,2,3] fk⟩
   rintro k1 F Hx ⟨j,hm1,hij,hjn,hbk,rfl,rfl⟩ J1 hJ1
   have hj1:((j-i:Nat):Int)-1=((j-1-i:Nat):Int):=by omega
   have hj2:i+(j-1-i)=j-1:=by omega
   have q7:=cS (k:=.i64) (xs:=aX f c.toNat) (j:=j-1) (by omega)
   have G10:=jn @hj1 (jn @hj2 (jn q7 G9))
   refine ae G10 ?_
   refine cd (bad_c _ W _ _ xs _ _ _ _ _ _ sc g (zA2 hb0pp hbpp) (zA2 hb0q hbq) hV hg hsB) ?_
   refine rcs G10 (fun h8 h8d G11=>?_) (fun h8 h8d _=>?_)
   ·have hbj:=h8d
    have hne:¬j-1=i:=fun e=>by
     have q:=hbj
     rw[e] at q
     exact absurd (q.symm.trans hpi) (by decide)
    refine ae G11 ?_
    refine hJ1 _ _ ⟨k1-1,by omega,_,_,_,⟨j-1,by omega,by omega,by omega,fun q h1 h2=>by
          rcases Nat.lt_or_ge q j with h|h
          ·rw[show q=j-1 by omega];exact hbj
          exact hbk q h h2,rfl,rfl⟩,bS hbel [0,1,2,3] fk⟩
   have hfinJ:=tJ_j (W:=W) (Hh:=Hh) (xs:=xs) (b:=(x0,y0,x1,y1,f,c)) (s:=sc) (g:=g) (j:=j) (by omega) h8d (by show j<=(aX f c.toNat).length;omega) hbk
   have q9:=cS (k:=.i64) (xs:=aX f c.toNat) (j:=i) (by omega)
   have G12:=jn h8 (jn h8d (jn q9 G10))
   exact eR G12 hQ hbel (.tup [.agg [iV (tX0 (x0,y0,x1,y1,f,c)),iV (tY0 (x0,y0,x1,y1,f,c)),iV (tX1 W (x0,y0,x1,y1,f,c)),iV (tY1 Hh (x0,y0,x1,y1,f,c)),iV (gi (aX f c.toNat) i),iV ((j-i:Nat):Int)],.bool true]) results63 ⟨by (unfold tB;rw[hfinO,hfinI,hfinJ];rfl),rfl⟩
  have hfinO:=tOk_n (W:=W) (Hh:=Hh) (xs:=xs) (b:=(x0,y0,x1,y1,f,c)) (s:=sc) (g:=g) (i:=i) (by show i=(aX f c.toNat).length;omega) hal
  refine rcs G13 (fun h10 h10d _=>?_) (fun h10 h10d _=>?_)
  ·have h10n:=bnT h10
   have G14:=jn h10 (jn h10n (jn @aP (jn @aO G13)))
   exact eR G14 hQ hbel (.tup [.agg [iV 0,iV 0,iV 0,iV 0,iV 0,iV 0],.bool false]) results63 ⟨by (rw[hfinO];rfl),rfl⟩
  have h10n:=bnT h10
  omega
 have hfinO:=tOk_x (W:=W) (Hh:=Hh) (xs:=xs) (b:=(x0,y0,x1,y1,f,c)) (s:=sc) (g:=g) h1d
 exact eR G15 hQ hbel (.tup [.agg [iV 0,iV 0,iV 0,iV 0,iV 0,iV 0],.bool false]) results63 ⟨by (rw[hfinO];rfl),rfl⟩
theorem trim_t (H:aa)(W Hh:Int)(pp:AV)(xs:List Int)(b:T6)(q:AV)(sc:List (Int×Int))(g:Int)(hpp:zI H pp xs)(hq:SlP H q sc)(hV:bC W Hh xs=true)(hb:bj b=true)(hsB:c7 sc=true)(hg:1<=g/\g<=32):
  zC 63 [.agg [iV W,iV Hh,pp],.agg [iV b.1,iV b.2.1,iV b.2.2.1,iV b.2.2.2.1,iV b.2.2.2.2.1,iV b.2.2.2.2.2],q,iV g] H (.tup [.agg [iV (mkV (tOk W Hh xs b sc g) (tB W Hh xs b sc g).1),iV (mkV (tOk W Hh xs b sc g) (tB W Hh xs b sc g).2.1),iV (mkV (tOk W Hh xs b sc g) (tB W Hh xs b sc g).2.2.1),iV (mkV (tOk W Hh xs b sc g) (tB W Hh xs b sc g).2.2.2.1),iV (mkV (tOk W Hh xs b sc g) (tB W Hh xs b sc g).2.2.2.2.1),iV (mkV (tOk W Hh xs b sc g) (tB W Hh xs b sc g).2.2.2.2.2)],.bool (tOk W Hh xs b sc g)]) H :=
 trim_c H W Hh pp xs b.1 b.2.1 b.2.2.1 b.2.2.2.1 b.2.2.2.2.1 b.2.2.2.2.2 q sc g hpp hq hV hb hsB hg
theorem mkV_f (n:Int):mkV false n=0:=rfl
set_option maxRecDepth 100000 in
theorem m8 (H:aa)(s:AV)(l:List T6)(hs:Sl H 6 s l.length (r6 l))(hl:l.length<=1000000)(h0:0<l.length):zC 31 [s] H (.sl (some (H.length,0)) l.length none) (H++[.cells true 6 (r6 l)]):=by
 obtain⟨b,own,cap,rfl,hb⟩:=hs
 have hbl:=getElem?_lt hb
 have hb0:=fun l=>ai (l:=l) hb
 generalize hm:l.length=m at *
 refine AcT true func31 ?_;intro hbel Q hQ
 have htk:List.take (m*6) (r6 l)=r6 l:=List.take_of_length_le (by rw[ce];omega)
 have hm0:(m==0)=false:=beq_eq_false_iff_ne.2 (by omega)
 have hm1:(m != 0)=true:=bne_iff_ne.2 (by omega)
 have hln:(r6 l).length=m*6:=by rw[ce,hm]
 simp -implicitDefEqProofs (disch:=omega) only [hb,hb0,Option.isNone_some,hm0,h0,htk,i8,hm1,fe,hln,simprocAttr,aJ,aK,Function.comp_apply,one1,lenV,aj,av,aA,aop,AV.ofValue,AV.ofCell,AV.cells,AV.flat,AV.one,arep,aU,ap,aG]
 repeat refine And.intro (by omega) ?_
 refine hQ _ _ (end_by (.inl rfl) hbel (x1:=.sl (some (H.length+1,0)) m none) (.sl (some (H.length,0)) m none) (aZ results31) [1] (by decide) ⟨rfl,rfl⟩ ?_)
 exact absTf @bE
theorem vol_c (H:aa)(x0 y0 x1 y1 f c:Int):zC 38 [.agg [iV x0,iV y0,iV x1,iV y1,iV f,iV c]] H (iV (dT (x0,y0,x1,y1,f,c))) H:=by
 refine AcT true func38 ?_;intro hbel Q hQ
 refine aI ?_
 refine cv (ft _ _ _ _ _ f c) ?_
 refine aI ?_
 refine cO (fun h1=>?_) (fun h1=>?_)
 ·have h1d:=bsT h1
  have hfinV:dT (x0,y0,x1,y1,f,c)=0:=if_neg (fun k=>absurd ((show bxB x0 y0 x1 y1 f c=true from k).symm.trans h1d) (by decide))
  have G1:=jn h1 @h1d
  exact eR G1 hQ hbel (iV 0) results38 ⟨by rw[hfinV],rfl⟩
 have h1d:=bsT h1
 have hbb:=bB.1 h1d
 have haa:=bo.1 hbb.2.2
 have m1:=bg (a:=x1-x0+1) (b:=y1-y0+1) (A:=2097153) (B:=2097153) (by omega) (by omega)
 have m2:=bg (a:=(x1-x0+1)*(y1-y0+1)) (b:=c) (A:=4398050705409) (B:=256) (by omega) (by omega)
 have hfinV:dT (x0,y0,x1,y1,f,c)=(x1-x0+1)*(y1-y0+1)*c:=if_pos h1d
 have G2:=jn h1 @h1d
 exact eR G2 hQ hbel (iV ((((x1-x0)+1)*((y1-y0)+1))*c)) results38 ⟨by rw[hfinV],rfl⟩
theorem spl1_c (H:aa)(n u:Int)(hn:0<=n/\n<=4194304)(hu:0<=u/\u<=8):zC 101 [iV n,iV u] H (iV (eu n u)) H:=by
 have m1:=bg (a:=n) (b:=u) (A:=4194304) (B:=8) (by omega) (by omega)
 refine AcT true func101 ?_;intro hbel Q hQ
 refine aI ?_
 refine cO (fun h1=>?_) (fun h1=>?_)
 ·have h1d:=bsT h1
  have G3:=jn h1 (jn h1d (jn @aP @aO))
  exact eS G3 hQ hbel (iV 0) results101 ⟨by unfold eu;rw[if_pos (by omega)],rfl⟩
 have h1d:=bsT h1
 have G4:=jn h1 (jn h1d (jn @aP @aO))
 exact eS G4 hQ hbel (iV (n*u)) results101 ⟨by unfold eu;rw[if_neg (by omega)],rfl⟩
theorem split_c (H:aa)(x0 y0 x1 y1 f c:Int)(hb:bxB x0 y0 x1 y1 f c=true):zC 64 [.agg [iV x0,iV y0,iV x1,iV y1,iV f,iV c]] H (.tup [.agg [iV (mkV (dh (x0,y0,x1,y1,f,c)) ((dL (x0,y0,x1,y1,f,c)).1)),iV (mkV (dh (x0,y0,x1,y1,f,c)) ((dL (x0,y0,x1,y1,f,c)).2.1)),iV (mkV (dh (x0,y0,x1,y1,f,c)) ((dL (x0,y0,x1,y1,f,c)).2.2.1)),iV (mkV (dh (x0,y0,x1,y1,f,c)) ((dL (x0,y0,x1,y1,f,c)).2.2.2.1)),iV (mkV (dh (x0,y0,x1,y1,f,c)) ((dL (x0,y0,x1,y1,f,c)).2.2.2.2.1)),iV (mkV (dh (x0,y0,x1,y1,f,c)) ((dL (x0,y0,x1,y1,f,c)).2.2.2.2.2))],.agg [iV (mkV (dh (x0,y0,x1,y1,f,c)) ((dM (x0,y0,x1,y1,f,c)).1)),iV (mkV (dh (x0,y0,x1,y1,f,c)) ((dM (x0,y0,x1,y1,f,c)).2.1)),iV (mkV (dh (x0,y0,x1,y1,f,c)) ((dM (x0,y0,x1,y1,f,c)).2.2.1)),iV (mkV (dh (x0,y0,x1,y1,f,c)) ((dM (x0,y0,x1,y1,f,c)).2.2.2.1)),iV (mkV (dh (x0,y0,x1,y1,f,c)) ((dM (x0,y0,x1,y1,f,c)).2.2.2.2.1)),iV (mkV (dh (x0,y0,x1,y1,f,c)) ((dM (x0,y0,x1,y1,f,c)).2.2.2.2.2))],.bool (dh (x0,y0,x1,y1,f,c))]) H:=by
 have hbb:=bB.1 hb
 have haa:=bo.1 hbb.2.2
 have et1:Int.tdiv (x1-x0+1) 2=(x1-x0+1)/2:=Int.tdiv_eq_ediv_of_nonneg (by omega)
 have et2:Int.tdiv (y1-y0+1) 2=(y1-y0+1)/2:=Int.tdiv_eq_ediv_of_nonneg (by omega)
 have et3:Int.tdiv c 2=c/2:=Int.tdiv_eq_ediv_of_nonneg (by omega)
 have et4:Int.tmod (f+c/2) 256=(f+c/2)%256:=Int.tmod_eq_emod_of_nonneg (by omega)
 (refine bI func64 _ rfl (Nat.le_of_ble_eq_true (by kernel_rfl)) rfl ?_;intro hbel Q hQ hQ' c hc;unfold Tryz.f64 at hc;simp only[Option.some.injEq] at hc;subst hc;clear hQ')
 refine zQT hQ fun Q1 hn1 hQ1 he1=>?_
 have G5:=jn @et1 (jn @et2 (jn @et3 @et4))
 refine ae G5 ?_
 refine hn1 _ _ (zQT hQ fun Q2 hn2 hQ2 he2=>?_)
 refine ae G5 ?_
 refine cv (vol_c _ _ _ _ _ f c) ?_
 refine rcs G5 (fun h1 h1d G6=>?_) (fun h1 h1d G7=>?_)
 ·have hfinV:dh (x0,y0,x1,y1,f,c)=false:=by unfold dh;rw[decide_eq_true h1d];rfl
  exact eR G6 hQ2 hbel (.tup [.agg [iV 0,iV 0,iV 0,iV 0,iV 0,iV 0],.agg [iV 0,iV 0,iV 0,iV 0,iV 0,iV 0],.bool false]) results64 ⟨by (rw[hfinV];rfl),rfl⟩
 have hfinV:dh (x0,y0,x1,y1,f,c)=true:=by unfold dh;rw[decide_eq_false (by omega)];rfl
 refine ae G7 ?_
 refine hn2 _ _ (zQT hQ fun Q3 hn3 hQ3 he3=>?_)
 refine ae G7 ?_
 refine hn3 _ _ (zQT hQ fun Q4 hn4 hQ4 he4=>?_)
 refine ae G7 ?_
 refine hn4 _ _ (zQT hQ fun Q5 hn5 hQ5 he5=>?_)
 refine ae G7 ?_
 refine cdr G7 (spl1_c _ _ 1 (by omega) (by omega)) ?_
 refine cdr G7 (spl1_c _ _ 1 (by omega) (by omega)) ?_
 refine cdr G7 (spl1_c _ c 8 (by omega) (by omega)) ?_
 refine hn5 _ _ ?_
 refine bT true try_mixed [[0,1,2,3,4,5],[0,2,3,4,1,5],[0,1,3,2,4,5],[0,3,2,4,1,5]] (by kernel_rfl) (fun F2 H2=>F2=[(1,.ptr (some (H.length,0))),(2,.ptr (some (H.length+1,0))),(3,.ptr (some (H.length+2,0))),(4,.bool false),(6,iV ((x1-x0)+1)),(7,iV ((y1-y0)+1)),(8,iV (eu ((x1-x0)+1) 1)),(9,iV (eu ((y1-y0)+1) 1)),(10,iV (eu c 8)),(11,.ptr (some (H.length+3,0))),(12,.ptr (some (H.length+4,0)))]/\H2=H++[.cells true 0 [iV x0,iV y0,iV x1,iV y1,iV f,iV c],.cells true 0 [iV 0,iV 0,iV 0,iV 0,iV 0,iV 0],.cells true 0 [iV 0,iV 0,iV 0,iV 0,iV 0,iV 0],.cells true 0 [iV x0,iV y0,iV x1,iV y1,iV f,iV c],.cells true 0 [iV x0,iV y0,iV x1,iV y1,iV f,iV c]]) ?_ ?_
 ·refine am ?_ (am ?_ (am ?_ (am ?_ (bP))))<;>intro J hJ
  ·refine ak G7 ?_
   refine aC (hJ _ _ ⟨_,_,_,⟨rfl,rfl⟩,bS hbel [0,1,2,3,4] aD⟩)
  ·refine ak G7 ?_
   refine aC (hJ _ _ ⟨_,_,_,⟨rfl,rfl⟩,bS hbel [0,1,2,3,4] aD⟩)
  ·refine ak G7 ?_
   refine aC (hJ _ _ ⟨_,_,_,⟨rfl,rfl⟩,bS hbel [0,1,2,4,3] aD⟩)
  refine ak G7 ?_
  refine aC (hJ _ _ ⟨_,_,_,⟨rfl,rfl⟩,bS hbel [0,1,2,4,3] aD⟩)
 rintro F2 H2 ⟨rfl,rfl⟩
 refine sqR hQ fun Q6 hn6 hQ6 he6=>?_
 refine bkR hQ6 fun Q7 hn7 hQ7 he7 hb7=>?_
 refine zQT hQ7 fun Q8 hn8 hQ8 he8=>?_
 refine rgs G7 (fun h2 h2d G8=>?_) (fun h2 h2d G12=>?_)
 ·have hc1:iB (x0,y0,x1,y1,f,c)<=gX (x0,y0,x1,y1,f,c):=h2d
  refine ae G8 ?_
  refine hn8 _ _ ?_
  refine gj (decide ((eu c 8)<=(eu ((x1-x0)+1) 1))) (by rfl) (fun h3=>?_) (fun h3=>?_)
  ·have h3d:=bsT h3
   have hfinX:dL (x0,y0,x1,y1,f,c)=(x0,y0,x0+((x1-x0)+1)/2-1,y1,f,c):=if_pos ⟨hc1,h3d⟩
   have hfinY:dM (x0,y0,x1,y1,f,c)=(x0+((x1-x0)+1)/2,y0,x1,y1,f,c):=if_pos ⟨hc1,h3d⟩
   refine fnT ?_
   have G9:=j2 h3 h3d G8
   refine ae G9 ?_
   refine hn7 _ _ ?_
   refine hn6 _ _ ?_
   refine bT true try_mixed [[0,1,2,3,4],[0,2,1,3,4]] (by kernel_rfl) (fun F2 H2=>F2=[(2,.ptr (some (H.length,0))),(3,.ptr (some (H.length+1,0))),(4,.bool true)]/\H2=H++[.cells true 0 [iV x0,iV y0,iV ((x0+(((x1-x0)+1)/2))-1),iV y1,iV f,iV c],.cells true 0 [iV (x0+(((x1-x0)+1)/2)),iV y0,iV x1,iV y1,iV f,iV c]]) ?_ ?_
   ·refine am ?_ (am ?_ (bP))<;>intro J hJ
    ·refine ak G9 ?_
     refine aC (hJ _ _ ⟨_,_,_,⟨rfl,rfl⟩,bS hbel [1,2] aD⟩)
    refine ak G9 ?_
    refine aC (hJ _ _ ⟨_,_,_,⟨rfl,rfl⟩,bS hbel [1,2] aD⟩)
   rintro F2 H2 ⟨rfl,rfl⟩
   refine fnT ?_
   exact eR G9 hQ hbel (.tup [.agg [iV x0,iV y0,iV ((x0+(((x1-x0)+1)/2))-1),iV y1,iV f,iV c],.agg [iV (x0+(((x1-x0)+1)/2)),iV y0,iV x1,iV y1,iV f,iV c],.bool true]) results64 ⟨by (rw[hfinV,hfinX,hfinY];rfl),rfl⟩
  have h3d:=bsT h3
  have hc2:¬splC (x0,y0,x1,y1,f,c)<=gX (x0,y0,x1,y1,f,c):=by have q:=h3d;exact Int.not_le.2 (by exact Int.not_le.1 q)
  have hn1:¬(iB (x0,y0,x1,y1,f,c)<=gX (x0,y0,x1,y1,f,c)/\splC (x0,y0,x1,y1,f,c)<=gX (x0,y0,x1,y1,f,c)):=fun q=>hc2 q.2
  refine zQT hQ7 fun Q9 hn9 hQ9 he9=>?_
  have G10:=j2 h3 h3d G8
  refine ae G10 ?_
  refine hn9 _ _ ?_
  refine gj (decide ((eu c 8)<=(eu ((y1-y0)+1) 1))) (by rfl) (fun h4=>?_) (fun h4=>?_)
  ·have h4d:=bsT h4
   exact(hc2 (Int.le_trans h4d hc1)).elim
  have h4d:=bsT h4
  have hc3:¬splC (x0,y0,x1,y1,f,c)<=iB (x0,y0,x1,y1,f,c):=by have q:=h4d;exact Int.not_le.2 (by exact Int.not_le.1 q)
  have hfinX:dL (x0,y0,x1,y1,f,c)=(x0,y0,x1,y1,f,c/2):=(if_neg hn1).trans (if_neg hc3)
  have hfinY:dM (x0,y0,x1,y1,f,c)=(x0,y0,x1,y1,(f+c/2)%256,c-c/2):=(if_neg hn1).trans (if_neg hc3)
  refine zQT hQ7 fun Q10 hn10 hQ10 he10=>?_
  have G11:=j2 h4 h4d G10
  refine ae G11 ?_
  refine hn10 _ _ (zQT hQ7 fun Q11 hn11 hQ11 he11=>?_)
  refine ae G11 ?_
  refine hn11 _ _ ?_
  refine ia true try_mixed [[0,1,2,3,4,5,6,7,8,9,10,11,12],[0,1,2,3,4,5,7,9,10,6,8,11,12]] (by kernel_rfl) (fun F2 H2=>F2=[(2,.ptr (some (H.length,0))),(3,.ptr (some (H.length+1,0))),(11,.ptr (some (H.length+2,0))),(12,.ptr (some (H.length+3,0)))]/\H2=H++[.cells true 0 [iV 0,iV 0,iV 0,iV 0,iV 0,iV 0],.cells true 0 [iV 0,iV 0,iV 0,iV 0,iV 0,iV 0],.cells true 0 [iV x0,iV y0,iV x1,iV y1,iV f,iV (c/2)],.cells true 0 [iV x0,iV y0,iV x1,iV y1,iV ((f+(c/2))%256),iV (c-(c/2))]]) ?_ ?_
  ·refine am ?_ (am ?_ (bP))<;>intro J hJ
   ·refine ak G11 ?_
    refine aC (hJ _ _ ⟨_,_,_,⟨rfl,rfl⟩,bS hbel [1,2,3,4] aD⟩)
   refine ak G11 ?_
   refine aC (hJ _ _ ⟨_,_,_,⟨rfl,rfl⟩,bS hbel [1,2,3,4] aD⟩)
  rintro F2 H2 ⟨rfl,rfl⟩
  refine hn7 _ _ ?_
  refine hn6 _ _ ?_
  refine bT true try_mixed [[0,1,2,3,4],[0,2,1,3,4]] (by kernel_rfl) (fun F2 H2=>F2=[(2,.ptr (some (H.length,0))),(3,.ptr (some (H.length+1,0))),(4,.bool true)]/\H2=H++[.cells true 0 [iV x0,iV y0,iV x1,iV y1,iV f,iV (c/2)],.cells true 0 [iV x0,iV y0,iV x1,iV y1,iV ((f+(c/2))%256),iV (c-(c/2))]]) ?_ ?_
  ·refine am ?_ (am ?_ (bP))<;>intro J hJ
   ·refine ak G11 ?_
    refine aC (hJ _ _ ⟨_,_,_,⟨rfl,rfl⟩,bS hbel [0,1] aD⟩)
   refine ak G11 ?_
   refine aC (hJ _ _ ⟨_,_,_,⟨rfl,rfl⟩,bS hbel [0,1] aD⟩)
  rintro F2 H2 ⟨rfl,rfl⟩
  refine fnT ?_
  exact eR G11 hQ hbel (.tup [.agg [iV x0,iV y0,iV x1,iV y1,iV f,iV (c/2)],.agg [iV x0,iV y0,iV x1,iV y1,iV ((f+(c/2))%256),iV (c-(c/2))],.bool true]) results64 ⟨by (rw[hfinV,hfinX,hfinY];rfl),rfl⟩
 have hc1:¬iB (x0,y0,x1,y1,f,c)<=gX (x0,y0,x1,y1,f,c):=by have q:=h2d;exact Int.not_le.2 (by exact Int.not_le.1 q)
 have hn1:¬(iB (x0,y0,x1,y1,f,c)<=gX (x0,y0,x1,y1,f,c)/\splC (x0,y0,x1,y1,f,c)<=gX (x0,y0,x1,y1,f,c)):=fun q=>hc1 q.1
 refine ae G12 ?_
 refine hn8 _ _ ?_
 refine gj false (by rfl) (fun h=>by cases h) (fun h=>?_)
 refine zQT hQ7 fun Q12 hn12 hQ12 he12=>?_
 refine ae G12 ?_
 refine hn12 _ _ ?_
 refine gj (decide ((eu c 8)<=(eu ((y1-y0)+1) 1))) (by rfl) (fun h5=>?_) (fun h5=>?_)
 ·have h5d:=bsT h5
  have hfinX:dL (x0,y0,x1,y1,f,c)=(x0,y0,x1,y0+((y1-y0)+1)/2-1,f,c):=(if_neg hn1).trans (if_pos h5d)
  have hfinY:dM (x0,y0,x1,y1,f,c)=(x0,y0+((y1-y0)+1)/2,x1,y1,f,c):=(if_neg hn1).trans (if_pos h5d)
  refine fnT ?_
  have G13:=j2 h5 h5d G12
  refine ae G13 ?_
  refine hn7 _ _ ?_
  refine hn6 _ _ ?_
  refine bT true try_mixed [[0,1,2,3,4],[0,2,1,3,4]] (by kernel_rfl) (fun F2 H2=>F2=[(2,.ptr (some (H.length,0))),(3,.ptr (some (H.length+1,0))),(4,.bool true)]/\H2=H++[.cells true 0 [iV x0,iV y0,iV x1,iV ((y0+(((y1-y0)+1)/2))-1),iV f,iV c],.cells true 0 [iV x0,iV (y0+(((y1-y0)+1)/2)),iV x1,iV y1,iV f,iV c]]) ?_ ?_
  ·refine am ?_ (am ?_ (bP))<;>intro J hJ
   ·refine ak G13 ?_
    refine aC (hJ _ _ ⟨_,_,_,⟨rfl,rfl⟩,bS hbel [1,2] aD⟩)
   refine ak G13 ?_
   refine aC (hJ _ _ ⟨_,_,_,⟨rfl,rfl⟩,bS hbel [1,2] aD⟩)
  rintro F2 H2 ⟨rfl,rfl⟩
  refine fnT ?_
  exact eR G13 hQ hbel (.tup [.agg [iV x0,iV y0,iV x1,iV ((y0+(((y1-y0)+1)/2))-1),iV f,iV c],.agg [iV x0,iV (y0+(((y1-y0)+1)/2)),iV x1,iV y1,iV f,iV c],.bool true]) results64 ⟨by (rw[hfinV,hfinX,hfinY];rfl),rfl⟩
 have h5d:=bsT h5
 have hc3:¬splC (x0,y0,x1,y1,f,c)<=iB (x0,y0,x1,y1,f,c):=by have q:=h5d;exact Int.not_le.2 (by exact Int.not_le.1 q)
 have hfinX:dL (x0,y0,x1,y1,f,c)=(x0,y0,x1,y1,f,c/2):=(if_neg hn1).trans (if_neg hc3)
 have hfinY:dM (x0,y0,x1,y1,f,c)=(x0,y0,x1,y1,(f+c/2)%256,c-c/2):=(if_neg hn1).trans (if_neg hc3)
 refine zQT hQ7 fun Q13 hn13 hQ13 he13=>?_
 have G14:=j2 h5 h5d G12
 refine ae G14 ?_
 refine hn13 _ _ (zQT hQ7 fun Q14 hn14 hQ14 he14=>?_)
 refine ae G14 ?_
 refine hn14 _ _ ?_
 refine ia true try_mixed [[0,1,2,3,4,5,6,7,8,9,10,11,12],[0,1,2,3,4,5,7,9,10,6,8,11,12]] (by kernel_rfl) (fun F2 H2=>F2=[(2,.ptr (some (H.length,0))),(3,.ptr (some (H.length+1,0))),(11,.ptr (some (H.length+2,0))),(12,.ptr (some (H.length+3,0)))]/\H2=H++[.cells true 0 [iV 0,iV 0,iV 0,iV 0,iV 0,iV 0],.cells true 0 [iV 0,iV 0,iV 0,iV 0,iV 0,iV 0],.cells true 0 [iV x0,iV y0,iV x1,iV y1,iV f,iV (c/2)],.cells true 0 [iV x0,iV y0,iV x1,iV y1,iV ((f+(c/2))%256),iV (c-(c/2))]]) ?_ ?_
 ·refine am ?_ (am ?_ (bP))<;>intro J hJ
  ·refine ak G14 ?_
   refine aC (hJ _ _ ⟨_,_,_,⟨rfl,rfl⟩,bS hbel [1,2,3,4] aD⟩)
  refine ak G14 ?_
  refine aC (hJ _ _ ⟨_,_,_,⟨rfl,rfl⟩,bS hbel [1,2,3,4] aD⟩)
 rintro F2 H2 ⟨rfl,rfl⟩
 refine hn7 _ _ ?_
 refine hn6 _ _ ?_
 refine bT true try_mixed [[0,1,2,3,4],[0,2,1,3,4]] (by kernel_rfl) (fun F2 H2=>F2=[(2,.ptr (some (H.length,0))),(3,.ptr (some (H.length+1,0))),(4,.bool true)]/\H2=H++[.cells true 0 [iV x0,iV y0,iV x1,iV y1,iV f,iV (c/2)],.cells true 0 [iV x0,iV y0,iV x1,iV y1,iV ((f+(c/2))%256),iV (c-(c/2))]]) ?_ ?_
 ·refine am ?_ (am ?_ (bP))<;>intro J hJ
  ·refine ak G14 ?_
   refine aC (hJ _ _ ⟨_,_,_,⟨rfl,rfl⟩,bS hbel [0,1] aD⟩)
  refine ak G14 ?_
  refine aC (hJ _ _ ⟨_,_,_,⟨rfl,rfl⟩,bS hbel [0,1] aD⟩)
 rintro F2 H2 ⟨rfl,rfl⟩
 refine fnT ?_
 exact eR G14 hQ hbel (.tup [.agg [iV x0,iV y0,iV x1,iV y1,iV f,iV (c/2)],.agg [iV x0,iV y0,iV x1,iV y1,iV ((f+(c/2))%256),iV (c-(c/2))],.bool true]) results64 ⟨by (rw[hfinV,hfinX,hfinY];rfl),rfl⟩
theorem split_t (H:aa)(b:T6)(hb:bj b=true)(h:dh b=true):zC 64 [.agg [iV b.1,iV b.2.1,iV b.2.2.1,iV b.2.2.2.1,iV b.2.2.2.2.1,iV b.2.2.2.2.2]] H (.tup [.agg [iV (dL b).1,iV (dL b).2.1,iV (dL b).2.2.1,iV (dL b).2.2.2.1,iV (dL b).2.2.2.2.1,iV (dL b).2.2.2.2.2],.agg [iV (dM b).1,iV (dM b).2.1,iV (dM b).2.2.1,iV (dM b).2.2.2.1,iV (dM b).2.2.2.2.1,iV (dM b).2.2.2.2.2],.bool true]) H:=by
 have q:=split_c H b.1 b.2.1 b.2.2.1 b.2.2.2.1 b.2.2.2.2.1 b.2.2.2.2.2 hb
 have e:dh (b.1,b.2.1,b.2.2.1,b.2.2.2.1,b.2.2.2.2.1,b.2.2.2.2.2)=true:=h
 simp only[e,mkV_t] at q;exact q
theorem split_f (H:aa)(b:T6)(hb:bj b=true)(h:dh b=false):zC 64 [.agg [iV b.1,iV b.2.1,iV b.2.2.1,iV b.2.2.2.1,iV b.2.2.2.2.1,iV b.2.2.2.2.2]] H (.tup [.agg [iV 0,iV 0,iV 0,iV 0,iV 0,iV 0],.agg [iV 0,iV 0,iV 0,iV 0,iV 0,iV 0],.bool false]) H:=by
 have q:=split_c H b.1 b.2.1 b.2.2.1 b.2.2.2.1 b.2.2.2.2.1 b.2.2.2.2.2 hb
 have e:dh (b.1,b.2.1,b.2.2.1,b.2.2.2.1,b.2.2.2.2.1,b.2.2.2.2.2)=false:=h
 simp only[e,mkV_f] at q;exact q
theorem cmp1_c (H:aa)(x0 y0 x1 y1 f c:Int):zC 65 [.agg [iV x0,iV y0,iV x1,iV y1,iV f,iV c]] H (.bool (!(bxB x0 y0 x1 y1 f c))) H:=by
 refine AcT true func65 ?_;intro hbel Q hQ
 refine aI ?_
 refine cv (ft _ _ _ _ _ f c) ?_
 refine aI ?_
 exact eP hQ hbel (.bool (!(bxB x0 y0 x1 y1 f c))) results65 ⟨rfl,rfl⟩
def kN (n:Int):Bool:=decide (n < -2097152)||decide (2097152<n)
def mvO (x0 y0 x1 y1 a b c d:Int):Bool:=!([x0+a,x1+b,y0+c,y1+d].any gR)
def mvE (x0 y0 x1 y1 a b c d:Int):Int:=if mvO x0 y0 x1 y1 a b c d=true then 0 else 2
theorem nQ {n:Int}(h : -64<=n/\n<=64):kN n=false:=by unfold kN;rw[decide_eq_false (by omega),decide_eq_false (by omega)];rfl
theorem off2_4 {a b c d:Int}(h1 : -64<=a/\a<=64)(h2 : -64<=b/\b<=64)(h3 : -64<=c/\c<=64)(h4 : -64<=d/\d<=64):[a,b,c,d].any kN=false:=by
 simp only[List.any_cons,List.any_nil,nQ h1,nQ h2,nQ h3,nQ h4];rfl
theorem drch_c (H:aa)(t f tu le sl ra h:Int)(hC:cH t f=true)(hB:bX tu le sl ra=true)(hh:0<=h/\h<=255):zC 140 [.agg [iV t,iV f],.agg [iV tu,iV le,iV sl,iV ra],iV h] H (.tup [.agg [iV ((rqR f le sl h).1),iV ((rqR f le sl h).2.1),iV ((rqR f le sl h).2.2.1),iV ((rqR f le sl h).2.2.2)],iV 0]) H:=by
 have hCi:=hC
 simp only[cH,Bool.and_eq_true,aS] at hCi
 have hBi:=hB
 simp only[bX,Bool.and_eq_true,aS] at hBi
 have hbt:btw h 0 255=true:=aS.2 hh
 have m1:0<=mxI (f-le) 0/\mxI (f-le) 0<=48:=by unfold mxI;split<;>omega
 have m2:0<=mxI (f+le) 0/\mxI (f+le) 0<=48:=by unfold mxI;split<;>omega
 have w1:=jd h m1.1
 have w2:=jd h m2.1
 have n1:=dU (a:=cu h (mxI (f-le) 0)) (b:=cu h (mxI (f+le) 0))
 have n2:=dU (a:=cw h (mxI (f-le) 0)) (b:=cw h (mxI (f+le) 0))
 have n3:=dV (a:=cu h (mxI (f-le) 0)) (b:=cu h (mxI (f+le) 0))
 have n4:=dV (a:=cw h (mxI (f-le) 0)) (b:=cw h (mxI (f+le) 0))
 have e1:(if (cu h (mxI (f+le) 0))<(cu h (mxI (f-le) 0)) then (cu h (mxI (f+le) 0)) else (cu h (mxI (f-le) 0)))=mnI (cu h (mxI (f-le) 0)) (cu h (mxI (f+le) 0)):=rfl
 have e2:(if (cw h (mxI (f+le) 0))<(cw h (mxI (f-le) 0)) then (cw h (mxI (f+le) 0)) else (cw h (mxI (f-le) 0)))=mnI (cw h (mxI (f-le) 0)) (cw h (mxI (f+le) 0)):=rfl
 have e3:(if (cu h (mxI (f-le) 0))<(cu h (mxI (f+le) 0)) then (cu h (mxI (f+le) 0)) else (cu h (mxI (f-le) 0)))=mxI (cu h (mxI (f-le) 0)) (cu h (mxI (f+le) 0)):=rfl
 have e4:(if (cw h (mxI (f-le) 0))<(cw h (mxI (f+le) 0)) then (cw h (mxI (f+le) 0)) else (cw h (mxI (f-le) 0)))=mxI (cw h (mxI (f-le) 0)) (cw h (mxI (f+le) 0)):=rfl
 (refine bI func140 _ rfl (Nat.le_of_ble_eq_true (by kernel_rfl)) rfl ?_;intro hbel Q hQ hQ' c hc;unfold Tryz.f140 at hc;simp only[Option.some.injEq] at hc;subst hc;clear hQ')
 refine zQT hQ fun Q1 hn1 hQ1 he1=>?_
 have G1:=jn @hC (jn @hB (jn @hbt (jn @e1 (jn @e2 (jn @e3 @e4)))))
 refine ae G1 ?_
 refine hn1 _ _ (zQT hQ fun Q2 hn2 hQ2 he2=>?_)
 refine ae G1 ?_
 refine cvr G1 (gx _ t f) ?_
 refine cvr G1 (ik _ _ _ _ _) ?_
 refine hn2 _ _ (zQT hQ fun Q3 hn3 hQ3 he3=>?_)
 refine ae G1 ?_
 refine cvr G1 (d8 _ h 0 _) ?_
 refine hn3 _ _ (zQT hQ fun Q4 hn4 hQ4 he4=>?_)
 refine rcs G1 (fun h1 h1d _=>?_) (fun h1 h1d _=>?_)
 ·have hfinZ:rqR f le sl h=(0,0,0,0):=if_pos h1d
  have G2:=jn h1 (jn h1d (jn @aP (jn @aO G1)))
  exact eR G2 hQ4 hbel (.tup [.agg [iV 0,iV 0,iV 0,iV 0],iV 0]) results140 ⟨by rw[hfinZ],rfl⟩
 have hfinZ:rqR f le sl h=(mnI (rqA f le h) (rqB f le h)-sl,mnI (rqC f le h) (rqD f le h)-sl,mxI (rqA f le h) (rqB f le h)+sl,mxI (rqC f le h) (rqD f le h)+sl):=if_neg h1d
 have G3:=jn h1 (jn h1d (jn @aP (jn @aO G1)))
 refine ae G3 ?_
 refine hn4 _ _ ?_
 refine bT true try_mixed [[0,1,2,3,4,5,6,7,8,9,10,11,12,13,14,15,16,17],[0,1,2,3,4,5,6,7,8,9,10,11,12,13,15,14,16,17],[0,1,2,3,4,5,6,7,8,9,10,11,12,15,13,14,16,17],[0,1,2,3,4,5,7,8,9,10,11,12,15,6,13,14,16,17],[0,1,2,3,4,5,6,7,8,9,10,11,12,14,13,15,16,17],[0,1,2,3,4,5,6,7,8,9,10,11,12,14,15,13,16,17],[0,1,2,3,4,5,6,7,8,9,10,11,12,15,14,13,16,17],[0,1,2,3,4,5,7,8,9,10,11,12,15,6,14,13,16,17],[0,1,2,3,4,5,7,8,9,10,11,12,14,6,13,15,16,17],[0,1,2,3,4,5,7,8,9,10,11,12,14,6,15,13,16,17],[0,1,2,3,4,5,7,8,9,10,11,12,14,15,6,13,16,17],[0,1,2,3,4,5,7,8,9,10,11,12,15,14,6,13,16,17]] (by kernel_rfl) (fun F2 H2=>F2=[(4,.ptr (some (H.length,0))),(6,.ptr (some (H.length+1,0))),(7,iV 0),(8,.ptr (some (H.length+2,0))),(9,.ptr (some (H.length+3,0)))]/\H2=H++[.cells true 0 [iV tu,iV le,iV sl,iV ra],.cells true 0 [iV 0,iV 0,iV 0,iV 0],.cells true 0 [iV (cu h (mxI (f-le) 0)),iV (cw h (mxI (f-le) 0))],.cells true 0 [iV (cu h (mxI (f+le) 0)),iV (cw h (mxI (f+le) 0))]]) ?_ ?_
 ·refine am ?_ (am ?_ (am ?_ (am ?_ (am ?_ (am ?_ (am ?_ (am ?_ (am ?_ (am ?_ (am ?_ (am ?_ (bP))))))))))))<;>intro J hJ
  ·refine ak G3 ?_
   refine cd (bU _ h _ (by omega)) ?_
   refine ak G3 ?_
   refine cd (bU _ h _ (by omega)) ?_
   refine ak G3 ?_
   refine aC (hJ _ _ ⟨_,_,_,⟨rfl,rfl⟩,bS hbel [1,2,3,4] aD⟩)
  ·refine ak G3 ?_
   refine cd (bU _ h _ (by omega)) ?_
   refine ak G3 ?_
   refine cd (bU _ h _ (by omega)) ?_
   refine ak G3 ?_
   refine aC (hJ _ _ ⟨_,_,_,⟨rfl,rfl⟩,bS hbel [1,2,4,3] aD⟩)
  ·refine ak G3 ?_
   refine cd (bU _ h _ (by omega)) ?_
   refine ak G3 ?_
   refine cd (bU _ h _ (by omega)) ?_
   refine ak G3 ?_
   refine aC (hJ _ _ ⟨_,_,_,⟨rfl,rfl⟩,bS hbel [1,2,4,3] aD⟩)
  ·refine ak G3 ?_
   refine cd (bU _ h _ (by omega)) ?_
   refine ak G3 ?_
   refine cd (bU _ h _ (by omega)) ?_
   refine ak G3 ?_
   refine aC (hJ _ _ ⟨_,_,_,⟨rfl,rfl⟩,bS hbel [1,2,4,3] aD⟩)
  ·refine ak G3 ?_
   refine cd (bU _ h _ (by omega)) ?_
   refine ak G3 ?_
   refine cd (bU _ h _ (by omega)) ?_
   refine ak G3 ?_
   refine aC (hJ _ _ ⟨_,_,_,⟨rfl,rfl⟩,bS hbel [1,2,3,4] aD⟩)
  ·refine ak G3 ?_
   refine cd (bU _ h _ (by omega)) ?_
   refine ak G3 ?_
   refine cd (bU _ h _ (by omega)) ?_
   refine ak G3 ?_
   refine aC (hJ _ _ ⟨_,_,_,⟨rfl,rfl⟩,bS hbel [1,2,3,4] aD⟩)
  ·refine ak G3 ?_
   refine cd (bU _ h _ (by omega)) ?_
   refine ak G3 ?_
   refine cd (bU _ h _ (by omega)) ?_
   refine ak G3 ?_
   refine aC (hJ _ _ ⟨_,_,_,⟨rfl,rfl⟩,bS hbel [1,2,4,3] aD⟩)
  ·refine ak G3 ?_
   refine cd (bU _ h _ (by omega)) ?_
   refine ak G3 ?_
   refine cd (bU _ h _ (by omega)) ?_
   refine ak G3 ?_
   refine aC (hJ _ _ ⟨_,_,_,⟨rfl,rfl⟩,bS hbel [1,2,4,3] aD⟩)
  ·refine ak G3 ?_
   refine cd (bU _ h _ (by omega)) ?_
   refine ak G3 ?_
   refine cd (bU _ h _ (by omega)) ?_
   refine ak G3 ?_
   refine aC (hJ _ _ ⟨_,_,_,⟨rfl,rfl⟩,bS hbel [1,2,3,4] aD⟩)
  ·refine ak G3 ?_
   refine cd (bU _ h _ (by omega)) ?_
   refine ak G3 ?_
   refine cd (bU _ h _ (by omega)) ?_
   refine ak G3 ?_
   refine aC (hJ _ _ ⟨_,_,_,⟨rfl,rfl⟩,bS hbel [1,2,3,4] aD⟩)
  ·refine ak G3 ?_
   refine cd (bU _ h _ (by omega)) ?_
   refine ak G3 ?_
   refine cd (bU _ h _ (by omega)) ?_
   refine ak G3 ?_
   refine aC (hJ _ _ ⟨_,_,_,⟨rfl,rfl⟩,bS hbel [1,2,3,4] aD⟩)
  refine ak G3 ?_
  refine cd (bU _ h _ (by omega)) ?_
  refine ak G3 ?_
  refine cd (bU _ h _ (by omega)) ?_
  refine ak G3 ?_
  refine aC (hJ _ _ ⟨_,_,_,⟨rfl,rfl⟩,bS hbel [1,2,4,3] aD⟩)
 rintro F2 H2 ⟨rfl,rfl⟩
 refine fnT ?_
 exact eR G3 hQ hbel (.tup [.agg [iV ((mnI (cu h (mxI (f-le) 0)) (cu h (mxI (f+le) 0)))-sl),iV ((mnI (cw h (mxI (f-le) 0)) (cw h (mxI (f+le) 0)))-sl),iV ((mxI (cu h (mxI (f-le) 0)) (cu h (mxI (f+le) 0)))+sl),iV ((mxI (cw h (mxI (f-le) 0)) (cw h (mxI (f+le) 0)))+sl)],iV 0]) results140 ⟨by (rw[hfinZ];rfl),rfl⟩
theorem bmv1_c (H:aa)(n:Int):zC 171 [iV n] H (.bool (kN n)) H:=by
 refine AcT true func171 ?_;intro hbel Q hQ
 refine aI ?_
 refine aY (fun h1=>?_) (fun h1=>?_)
 ·have h1d:=bsT h1
  have G1:=jn h1 @h1d
  exact eS G1 hQ hbel (.bool (decide (2097152<n))) results171 ⟨by simp[kN,h1d],rfl⟩
 have h1d:=bsT h1
 have G2:=jn h1 @h1d
 exact eS G2 hQ hbel (.bool true) results171 ⟨by simp[kN,h1d],rfl⟩
theorem bxmv_c (H:aa)(x0 y0 x1 y1 f c p q r s:Int)(hb:bxB x0 y0 x1 y1 f c=true)(hd1 : -64<=p/\p<=q/\q<=64)(hd2 : -64<=r/\r<=s/\s<=64):zC 139 [.agg [iV x0,iV y0,iV x1,iV y1,iV f,iV c],iV p,iV q,iV r,iV s] H (.tup [.agg [iV (mkV (mvO x0 y0 x1 y1 p q r s) (x0+p)),iV (mkV (mvO x0 y0 x1 y1 p q r s) (y0+r)),iV (mkV (mvO x0 y0 x1 y1 p q r s) (x1+q)),iV (mkV (mvO x0 y0 x1 y1 p q r s) (y1+s)),iV (mkV (mvO x0 y0 x1 y1 p q r s) f),iV (mkV (mvO x0 y0 x1 y1 p q r s) c)],iV (mvE x0 y0 x1 y1 p q r s)]) H:=by
 have hbb:=bB.1 hb
 have ho2:=off2_4 (a:=p) (b:=q) (c:=r) (d:=s) (by omega) (by omega) (by omega) (by omega)
 refine AcT true func139 ?_;intro hbel Q hQ
 have G3:=jn @hb @ho2
 refine ae G3 ?_
 refine cv (ft _ _ _ _ _ f c) ?_
 refine rgs G3 (fun h1 h1d G4=>?_) (fun h1 h1d _=>?_)
 ·refine rcs G4 (fun h2 h2d _=>?_) (fun h2 h2d G5=>?_)
  ·omega
  refine ae G5 ?_
  refine cvr G5 (lS _ _ [p,q,r,s] ⟨_,_,_,by rfl,by (rw[bO];rfl)⟩ (by simp) _ [] (by kernel_rfl) rfl kN (fun j hj=>bmv1_c _ _)) ?_
  refine cv (small_c _ _ [x0+p,x1+q,y0+r,y1+s] ⟨_,_,_,by rfl,by (rw[bO];rfl)⟩ (by simp)) ?_
  refine rcs G5 (fun h3 h3d G6=>?_) (fun h3 h3d G7=>?_)
  ·have hfinO:mvO x0 y0 x1 y1 p q r s=false:=by unfold mvO;rw[h3d];rfl
   exact eR G6 hQ hbel (.tup [.agg [iV 0,iV 0,iV 0,iV 0,iV 0,iV 0],iV 2]) results139 ⟨by unfold mvE;rw[hfinO];rfl,rfl⟩
  have hfinO:mvO x0 y0 x1 y1 p q r s=true:=by unfold mvO;rw[h3d];rfl
  exact eR G7 hQ hbel (.tup [.agg [iV (x0+p),iV (y0+r),iV (x1+q),iV (y1+s),iV f,iV c],iV 0]) results139 ⟨by unfold mvE;rw[hfinO];rfl,rfl⟩
 omega
theorem parc_c (H:aa)(x0 y0 x1 y1 f c:Int):zC 137 [.agg [iV x0,iV y0,iV x1,iV y1,iV f,iV c]] H (.agg [iV f,iV c]) H:=by
 refine AcT true func137 ?_;intro hbel Q hQ
 refine aI ?_
 exact eP hQ hbel (.agg [iV f,iV c]) results137 ⟨rfl,rfl⟩
theorem ptrn_c (H:aa)(x0 y0 x1 y1 f c t tu:Int)(ha:b9 f c=true)(hu:0<=tu/\tu<=256):zC 94 [.agg [iV x0,iV y0,iV x1,iV y1,iV f,iV c],iV t,iV tu] H (.agg [iV (grF (shF f c t) (cn c) tu),iV (grC (cn c) tu)]) H:=by
 have ka:=bo.1 ha
 have hs2:b9 (shF f c t) (cn c)=true:=jP (by omega)
 refine AcT true func94 ?_;intro hbel Q hQ
 refine aI ?_
 refine cv (parc_c _ _ _ _ _ f c) ?_
 refine aI ?_
 refine cv (hshift_c _ f c t (by assumption)) ?_
 refine aI ?_
 refine cv (hgrow_c _ _ _ _ (by assumption) (by omega)) ?_
 refine aI ?_
 exact eP hQ hbel (.agg [iV (grF (shF f c t) (cn c) tu),iV (grC (cn c) tu)]) results94 ⟨rfl,rfl⟩
theorem preach_c (H:aa)(t g tu le sl ra bf bc:Int)(hC:cH t g=true)(hB:bX tu le sl ra=true)(hA:b9 bf bc=true):zC 96 [.agg [iV t,iV g],.agg [iV tu,iV le,iV sl,iV ra],.agg [iV bf,iV bc]] H (.agg [iV ((rcS g le sl (aX bf bc.toNat) (aX bf bc.toNat).length).1),iV ((rcS g le sl (aX bf bc.toNat) (aX bf bc.toNat).length).2.1),iV ((rcS g le sl (aX bf bc.toNat) (aX bf bc.toNat).length).2.2.1),iV ((rcS g le sl (aX bf bc.toNat) (aX bf bc.toNat).length).2.2.2)]) H:=by
 have hCi:=hC
 simp only[cH,Bool.and_eq_true,aS] at hCi
 have hBi:=hB
 simp only[bX,Bool.and_eq_true,aS] at hBi
 have ka:=bo.1 hA
 have hln:=eV bf bc.toNat
 refine AcT true func96 ?_;intro hbel Q hQ
 refine aI ?_
 refine cv (oC _ _ _ hA) ?_
 refine aI ?_
 refine glp (fun k F Hx=>∃i:Nat,i+k=(aX bf bc.toNat).length/\F=[(3,.ptr (some (H.length,0))),(4,.ptr (some (H.length+1,0))),(6,.ptr (some (H.length+2,0))),(7,.ptr (some (H.length+3,0))),(13,.sl (some (H.length+4,0)) ((aX bf bc.toNat).length) none),(14,iV (((aX bf bc.toNat).length:Nat):Int)),(15,iV (i:Int))]/\Hx=H++[.cells true 0 [iV t,iV g],.cells true 0 [iV tu,iV le,iV sl,iV ra],.cells true 0 [iV 0,iV 0,iV 0,iV 0],.cells true 0 [iV ((rcS g le sl (aX bf bc.toNat) i).1),iV ((rcS g le sl (aX bf bc.toNat) i).2.1),iV ((rcS g le sl (aX bf bc.toNat) i).2.2.1),iV ((rcS g le sl (aX bf bc.toNat) i).2.2.2)],.cells true 1 (ints .i64 (aX bf bc.toNat))]) ((aX bf bc.toNat).length) ?_ ?_
 ·refine⟨_,_,_,⟨0,by omega,rfl,rfl⟩,bS hbel [0,1,3,4,5] (az @rcS.eq_1)⟩
 rintro k0 F Hx ⟨i,hm0,rfl,rfl⟩ J0 hJ0
 have G1:=jn @bZ @cU
 refine rcs G1 (fun h1 h1d _=>?_) (fun h1 h1d G5=>?_)
 ·have hiL:i<(aX bf bc.toNat).length:=by omega
  have hgi:=mrkL_bd (f:=bf) (n:=bc.toNat) _ (gi_mem hiL)
  have q2:=cS (k:=.i64) (xs:=aX bf bc.toNat) (j:=i) (by omega)
  have G2:=jn h1 (jn h1d (jn q2 G1))
  refine ae G2 ?_
  refine cv (drch_c _ t g _ _ _ _ _ (by assumption) (by assumption) (by omega)) ?_
  refine rcs G2 (fun h3 h3d _=>?_) (fun h3 h3d _=>?_)
  ·have h3n:=bnT h3
   have hi0:i=0:=by have q:=h3d;simpa using q
   have hs0:(rcS g le sl (aX bf bc.toNat) (i+1)).1=mnI ((rqR g le sl (gi (aX bf bc.toNat) i)).1) ((rqR g le sl (gi (aX bf bc.toNat) i)).1):=by rw[rcS];simp only;rw[if_pos hi0]
   have hs1:(rcS g le sl (aX bf bc.toNat) (i+1)).2.1=mnI ((rqR g le sl (gi (aX bf bc.toNat) i)).2.1) ((rqR g le sl (gi (aX bf bc.toNat) i)).2.1):=by rw[rcS];simp only;rw[if_pos hi0]
   have hs2:(rcS g le sl (aX bf bc.toNat) (i+1)).2.2.1=mxI ((rqR g le sl (gi (aX bf bc.toNat) i)).2.2.1) ((rqR g le sl (gi (aX bf bc.toNat) i)).2.2.1):=by rw[rcS];simp only;rw[if_pos hi0]
   have hs3:(rcS g le sl (aX bf bc.toNat) (i+1)).2.2.2=mxI ((rqR g le sl (gi (aX bf bc.toNat) i)).2.2.2) ((rqR g le sl (gi (aX bf bc.toNat) i)).2.2.2):=by rw[rcS];simp only;rw[if_pos hi0]
   have G3:=jn h3 (jn h3n (jn @aP (jn @aO G2)))
   refine ae G3 ?_
   refine hJ0 _ _ ⟨k0-1,by omega,_,_,_,⟨i+1,by omega,rfl,rfl⟩,bS hbel [0,1,2,3,4] (az (jn @hs0 (jn @hs1 (jn @hs2 @hs3))))⟩
  have h3n:=bnT h3
  have hi0:¬i=0:=by have q:=h3d;simpa using q
  have hs0:(rcS g le sl (aX bf bc.toNat) (i+1)).1=mnI ((rcS g le sl (aX bf bc.toNat) i).1) ((rqR g le sl (gi (aX bf bc.toNat) i)).1):=by rw[rcS];simp only;rw[if_neg hi0]
  have hs1:(rcS g le sl (aX bf bc.toNat) (i+1)).2.1=mnI ((rcS g le sl (aX bf bc.toNat) i).2.1) ((rqR g le sl (gi (aX bf bc.toNat) i)).2.1):=by rw[rcS];simp only;rw[if_neg hi0]
  have hs2:(rcS g le sl (aX bf bc.toNat) (i+1)).2.2.1=mxI ((rcS g le sl (aX bf bc.toNat) i).2.2.1) ((rqR g le sl (gi (aX bf bc.toNat) i)).2.2.1):=by rw[rcS];simp only;rw[if_neg hi0]
  have hs3:(rcS g le sl (aX bf bc.toNat) (i+1)).2.2.2=mxI ((rcS g le sl (aX bf bc.toNat) i).2.2.2) ((rqR g le sl (gi (aX bf bc.toNat) i)).2.2.2):=by rw[rcS];simp only;rw[if_neg hi0]
  have G4:=jn h3 (jn h3n (jn @aP (jn @aO G2)))
  refine ae G4 ?_
  refine hJ0 _ _ ⟨k0-1,by omega,_,_,_,⟨i+1,by omega,rfl,rfl⟩,bS hbel [0,1,2,3,4] (az (jn @hs0 (jn @hs1 (jn @hs2 @hs3))))⟩
 obtain rfl:i=(aX bf bc.toNat).length:=by omega
 exact eR G5 hQ hbel (.agg [iV ((rcS g le sl (aX bf bc.toNat) (aX bf bc.toNat).length).1),iV ((rcS g le sl (aX bf bc.toNat) (aX bf bc.toNat).length).2.1),iV ((rcS g le sl (aX bf bc.toNat) (aX bf bc.toNat).length).2.2.1),iV ((rcS g le sl (aX bf bc.toNat) (aX bf bc.toNat).length).2.2.2)]) results96 ⟨rfl,rfl⟩
theorem pval_c (H:aa)(x0 y0 x1 y1 f c t g tu le sl ra:Int):zC 93 [.agg [iV x0,iV y0,iV x1,iV y1,iV f,iV c],.agg [iV t,iV g],.agg [iV tu,iV le,iV sl,iV ra]] H (.bool (bxB x0 y0 x1 y1 f c&&cH t g&&bX tu le sl ra)) H:=by
 refine AcT true func93 ?_;intro hbel Q hQ
 refine aI ?_
 refine cv (ft _ _ _ _ _ f c) ?_
 refine aI ?_
 refine aY (fun h1=>?_) (fun h1=>?_)
 ·have h1d:=bsT h1
  have G1:=jn h1 @h1d
  refine ae G1 ?_
  refine cv (gx _ t g) ?_
  refine rgs G1 (fun h2 h2d G2=>?_) (fun h2 h2d G3=>?_)
  ·refine ae G2 ?_
   refine cvr G2 (ik _ _ _ _ _) ?_
   exact eP hQ hbel (.bool (bX tu le sl ra)) results93 ⟨by simp[h1d,h2d],rfl⟩
  exact eR G3 hQ hbel (.bool false) results93 ⟨by simp[h1d,h2d],rfl⟩
 have h1d:=bsT h1
 have G4:=jn h1 @h1d
 exact eR G4 hQ hbel (.bool false) results93 ⟨by simp[h1d],rfl⟩
theorem pmvd_c (H:aa)(x0 y0 x1 y1 f c nf nc p r q s:Int)(hb:bxB x0 y0 x1 y1 f c=true)(ha:b9 nf nc=true)(hd1 : -64<=p/\p<=q/\q<=64)(hd2 : -64<=r/\r<=s/\s<=64):zC 95 [.agg [iV x0,iV y0,iV x1,iV y1,iV f,iV c],.agg [iV nf,iV nc],.agg [iV p,iV r,iV q,iV s]] H (.tup [.agg [iV (mkV (mvO x0 y0 x1 y1 p q r s) (x0+p)),iV (mkV (mvO x0 y0 x1 y1 p q r s) (y0+r)),iV (mkV (mvO x0 y0 x1 y1 p q r s) (x1+q)),iV (mkV (mvO x0 y0 x1 y1 p q r s) (y1+s)),iV (mkV (mvO x0 y0 x1 y1 p q r s) nf),iV (mkV (mvO x0 y0 x1 y1 p q r s) nc)],iV (mvE x0 y0 x1 y1 p q r s)]) H:=by
 have hbb:=bB.1 hb
 have hb2:bxB x0 y0 x1 y1 nf nc=true:=bB.2 ⟨hbb.1,hbb.2.1,ha⟩
 (refine bI func95 _ rfl (Nat.le_of_ble_eq_true (by kernel_rfl)) rfl ?_;intro hbel Q hQ hQ' c hc;unfold Tryz.f95 at hc;simp only[Option.some.injEq] at hc;subst hc;clear hQ')
 refine zQT hQ fun Q1 hn1 hQ1 he1=>?_
 refine aI ?_
 refine hn1 _ _ ?_
 refine bT true try_mixed [[0,1,2,3,4,5,6,7],[0,1,2,4,5,3,6,7]] (by kernel_rfl) (fun F2 H2=>F2=[(3,.ptr (some (H.length,0))),(5,.ptr (some (H.length+1,0))),(6,.ptr (some (H.length+2,0))),(7,iV 0)]/\H2=H++[.cells true 0 [iV x0,iV y0,iV x1,iV y1,iV nf,iV nc],.cells true 0 [iV p,iV r,iV q,iV s],.cells true 0 [iV 0,iV 0,iV 0,iV 0,iV 0,iV 0]]) ?_ ?_
 ·refine am ?_ (am ?_ (bP))<;>intro J hJ
  ·refine runD ?_
   refine aC (hJ _ _ ⟨_,_,_,⟨rfl,rfl⟩,bS hbel [0,2,3] aD⟩)
  refine runD ?_
  refine aC (hJ _ _ ⟨_,_,_,⟨rfl,rfl⟩,bS hbel [0,2,3] aD⟩)
 rintro F2 H2 ⟨rfl,rfl⟩
 refine fnT ?_
 refine aI ?_
 refine cv (bxmv_c _ _ _ _ _ _ _ p q r s (by assumption) (by omega) (by omega)) ?_
 refine aI ?_
 exact eP hQ hbel (.tup [.agg [iV (mkV (mvO x0 y0 x1 y1 p q r s) (x0+p)),iV (mkV (mvO x0 y0 x1 y1 p q r s) (y0+r)),iV (mkV (mvO x0 y0 x1 y1 p q r s) (x1+q)),iV (mkV (mvO x0 y0 x1 y1 p q r s) (y1+s)),iV (mkV (mvO x0 y0 x1 y1 p q r s) nf),iV (mkV (mvO x0 y0 x1 y1 p q r s) nc)],iV (mvE x0 y0 x1 y1 p q r s)]) results95 ⟨rfl,rfl⟩
theorem preachq_c (H:aa)(t g tu le sl ra f c:Int)(hC:cH t g=true)(hB:bX tu le sl ra=true)(ha:b9 f c=true)(hu:0<=tu/\tu<=8){x0 y0 x1 y1:Int}:zC 96 [.agg [iV t,iV g],.agg [iV tu,iV le,iV sl,iV ra],.agg [iV (grF (shF f c t) (cn c) tu),iV (grC (cn c) tu)]] H (.agg [iV (imR (x0,y0,x1,y1,f,c) t g tu le sl).1,iV (imR (x0,y0,x1,y1,f,c) t g tu le sl).2.1,iV (imR (x0,y0,x1,y1,f,c) t g tu le sl).2.2.1,iV (imR (x0,y0,x1,y1,f,c) t g tu le sl).2.2.2]) H :=
 preach_c H t g tu le sl ra _ _ hC hB (by have k:=bo.1 ha;refine jP ?_;unfold cn;split<;>omega)
theorem image_c (H:aa)(x0 y0 x1 y1 f c t g tu le sl ra:Int)(hb:bxB x0 y0 x1 y1 f c=true)(hC:cH t g=true)(hB:bX tu le sl ra=true):zC 58 [.agg [iV x0,iV y0,iV x1,iV y1,iV f,iV c],.agg [iV t,iV g],.agg [iV tu,iV le,iV sl,iV ra]] H (.tup [.agg [iV (mkV (mvO x0 y0 x1 y1 (imR (x0,y0,x1,y1,f,c) t g tu le sl).1 (imR (x0,y0,x1,y1,f,c) t g tu le sl).2.2.1 (imR (x0,y0,x1,y1,f,c) t g tu le sl).2.1 (imR (x0,y0,x1,y1,f,c) t g tu le sl).2.2.2) (x0+(imR (x0,y0,x1,y1,f,c) t g tu le sl).1)),iV (mkV (mvO x0 y0 x1 y1 (imR (x0,y0,x1,y1,f,c) t g tu le sl).1 (imR (x0,y0,x1,y1,f,c) t g tu le sl).2.2.1 (imR (x0,y0,x1,y1,f,c) t g tu le sl).2.1 (imR (x0,y0,x1,y1,f,c) t g tu le sl).2.2.2) (y0+(imR (x0,y0,x1,y1,f,c) t g tu le sl).2.1)),iV (mkV (mvO x0 y0 x1 y1 (imR (x0,y0,x1,y1,f,c) t g tu le sl).1 (imR (x0,y0,x1,y1,f,c) t g tu le sl).2.2.1 (imR (x0,y0,x1,y1,f,c) t g tu le sl).2.1 (imR (x0,y0,x1,y1,f,c) t g tu le sl).2.2.2) (x1+(imR (x0,y0,x1,y1,f,c) t g tu le sl).2.2.1)),iV (mkV (mvO x0 y0 x1 y1 (imR (x0,y0,x1,y1,f,c) t g tu le sl).1 (imR (x0,y0,x1,y1,f,c) t g tu le sl).2.2.1 (imR (x0,y0,x1,y1,f,c) t g tu le sl).2.1 (imR (x0,y0,x1,y1,f,c) t g tu le sl).2.2.2) (y1+(imR (x0,y0,x1,y1,f,c) t g tu le sl).2.2.2)),iV (mkV (mvO x0 y0 x1 y1 (imR (x0,y0,x1,y1,f,c) t g tu le sl).1 (imR (x0,y0,x1,y1,f,c) t g tu le sl).2.2.1 (imR (x0,y0,x1,y1,f,c) t g tu le sl).2.1 (imR (x0,y0,x1,y1,f,c) t g tu le sl).2.2.2) (grF (shF f c t) (cn c) tu)),iV (mkV (mvO x0 y0 x1 y1 (imR (x0,y0,x1,y1,f,c) t g tu le sl).1 (imR (x0,y0,x1,y1,f,c) t g tu le sl).2.2.1 (imR (x0,y0,x1,y1,f,c) t g tu le sl).2.1 (imR (x0,y0,x1,y1,f,c) t g tu le sl).2.2.2) (grC (cn c) tu))],iV (mvE x0 y0 x1 y1 (imR (x0,y0,x1,y1,f,c) t g tu le sl).1 (imR (x0,y0,x1,y1,f,c) t g tu le sl).2.2.1 (imR (x0,y0,x1,y1,f,c) t g tu le sl).2.1 (imR (x0,y0,x1,y1,f,c) t g tu le sl).2.2.2)]) H:=by
 have hCi:=hC
 simp only[cH,Bool.and_eq_true,aS] at hCi
 have hBi:=hB
 simp only[bX,Bool.and_eq_true,aS] at hBi
 have hbb:=bB.1 hb
 have hab:=hbb.2.2
 have ka:=bo.1 hab
 have hs2:b9 (shF f c t) (cn c)=true:=jP (by omega)
 have htu:0<=tu/\tu<=8:=by omega
 have hg2:b9 (grF (shF f c t) (cn c) tu) (grC (cn c) tu)=true:=jP (by unfold cn;split<;>omega)
 have hbd:(-64<=(imR (x0,y0,x1,y1,f,c) t g tu le sl).1/\(imR (x0,y0,x1,y1,f,c) t g tu le sl).1<=(imR (x0,y0,x1,y1,f,c) t g tu le sl).2.2.1/\(imR (x0,y0,x1,y1,f,c) t g tu le sl).2.2.1<=64) /\ -64<=(imR (x0,y0,x1,y1,f,c) t g tu le sl).2.1/\(imR (x0,y0,x1,y1,f,c) t g tu le sl).2.1<=(imR (x0,y0,x1,y1,f,c) t g tu le sl).2.2.2/\(imR (x0,y0,x1,y1,f,c) t g tu le sl).2.2.2<=64:=nO (by omega) (by omega) (by omega) _
 (refine bI func58 _ rfl (Nat.le_of_ble_eq_true (by kernel_rfl)) rfl ?_;intro hbel Q hQ hQ' c hc;unfold Tryz.f58 at hc;simp only[Option.some.injEq] at hc;subst hc;clear hQ')
 refine zQT hQ fun Q2 hn2 hQ2 he2=>?_
 have G5:=jn @hb (jn @hC @hB)
 refine ae G5 ?_
 refine hn2 _ _ (zQT hQ fun Q3 hn3 hQ3 he3=>?_)
 refine ae G5 ?_
 refine cvr G5 (pval_c _ _ _ _ _ f c t g _ _ _ _) ?_
 refine hn3 _ _ (zQT hQ fun Q4 hn4 hQ4 he4=>?_)
 refine ae G5 ?_
 refine cvr G5 (ptrn_c _ _ _ _ _ f c t _ (by assumption) (by omega)) ?_
 refine hn4 _ _ ?_
 refine bT true try_mixed [[0,1,2,3,4,5,6,7,8,9,10]] (by kernel_rfl) (fun F2 H2=>F2=[(6,.ptr (some (H.length,0))),(7,iV (mvE x0 y0 x1 y1 ((imR (x0,y0,x1,y1,f,c) t g tu le sl).1) ((imR (x0,y0,x1,y1,f,c) t g tu le sl).2.2.1) ((imR (x0,y0,x1,y1,f,c) t g tu le sl).2.1) ((imR (x0,y0,x1,y1,f,c) t g tu le sl).2.2.2)))]/\H2=H++[.cells true 0 [iV (mkV (mvO x0 y0 x1 y1 ((imR (x0,y0,x1,y1,f,c) t g tu le sl).1) ((imR (x0,y0,x1,y1,f,c) t g tu le sl).2.2.1) ((imR (x0,y0,x1,y1,f,c) t g tu le sl).2.1) ((imR (x0,y0,x1,y1,f,c) t g tu le sl).2.2.2)) (x0+((imR (x0,y0,x1,y1,f,c) t g tu le sl).1))),iV (mkV (mvO x0 y0 x1 y1 ((imR (x0,y0,x1,y1,f,c) t g tu le sl).1) ((imR (x0,y0,x1,y1,f,c) t g tu le sl).2.2.1) ((imR (x0,y0,x1,y1,f,c) t g tu le sl).2.1) ((imR (x0,y0,x1,y1,f,c) t g tu le sl).2.2.2)) (y0+((imR (x0,y0,x1,y1,f,c) t g tu le sl).2.1))),iV (mkV (mvO x0 y0 x1 y1 ((imR (x0,y0,x1,y1,f,c) t g tu le sl).1) ((imR (x0,y0,x1,y1,f,c) t g tu le sl).2.2.1) ((imR (x0,y0,x1,y1,f,c) t g tu le sl).2.1) ((imR (x0,y0,x1,y1,f,c) t g tu le sl).2.2.2)) (x1+((imR (x0,y0,x1,y1,f,c) t g tu le sl).2.2.1))),iV (mkV (mvO x0 y0 x1 y1 ((imR (x0,y0,x1,y1,f,c) t g tu le sl).1) ((imR (x0,y0,x1,y1,f,c) t g tu le sl).2.2.1) ((imR (x0,y0,x1,y1,f,c) t g tu le sl).2.1) ((imR (x0,y0,x1,y1,f,c) t g tu le sl).2.2.2)) (y1+((imR (x0,y0,x1,y1,f,c) t g tu le sl).2.2.2))),iV (mkV (mvO x0 y0 x1 y1 ((imR (x0,y0,x1,y1,f,c) t g tu le sl).1) ((imR (x0,y0,x1,y1,f,c) t g tu le sl).2.2.1) ((imR (x0,y0,x1,y1,f,c) t g tu le sl).2.1) ((imR (x0,y0,x1,y1,f,c) t g tu le sl).2.2.2)) (grF (shF f c t) (cn c) tu)),iV (mkV (mvO x0 y0 x1 y1 ((imR (x0,y0,x1,y1,f,c) t g tu le sl).1) ((imR (x0,y0,x1,y1,f,c) t g tu le sl).2.2.1) ((imR (x0,y0,x1,y1,f,c) t g tu le sl).2.1) ((imR (x0,y0,x1,y1,f,c) t g tu le sl).2.2.2)) (grC (cn c) tu))]]) ?_ ?_
 ·refine am ?_ (bP)<;>intro J hJ
  refine ak G5 ?_
  refine cd (preachq_c (x0:=x0) (y0:=y0) (x1:=x1) (y1:=y1) _ t g tu le sl ra f c hC hB hab htu) ?_
  refine ak G5 ?_
  refine cd (pmvd_c _ _ _ _ _ f c _ _ _ _ _ _ (by assumption) (by assumption) (by omega) (by omega)) ?_
  refine ak G5 ?_
  refine aC (hJ _ _ ⟨_,_,_,⟨rfl,rfl⟩,bS hbel [3] aD⟩)
 rintro F2 H2 ⟨rfl,rfl⟩
 refine fnT ?_
 exact eR G5 hQ hbel (.tup [.agg [iV (mkV (mvO x0 y0 x1 y1 ((imR (x0,y0,x1,y1,f,c) t g tu le sl).1) ((imR (x0,y0,x1,y1,f,c) t g tu le sl).2.2.1) ((imR (x0,y0,x1,y1,f,c) t g tu le sl).2.1) ((imR (x0,y0,x1,y1,f,c) t g tu le sl).2.2.2)) (x0+((imR (x0,y0,x1,y1,f,c) t g tu le sl).1))),iV (mkV (mvO x0 y0 x1 y1 ((imR (x0,y0,x1,y1,f,c) t g tu le sl).1) ((imR (x0,y0,x1,y1,f,c) t g tu le sl).2.2.1) ((imR (x0,y0,x1,y1,f,c) t g tu le sl).2.1) ((imR (x0,y0,x1,y1,f,c) t g tu le sl).2.2.2)) (y0+((imR (x0,y0,x1,y1,f,c) t g tu le sl).2.1))),iV (mkV (mvO x0 y0 x1 y1 ((imR (x0,y0,x1,y1,f,c) t g tu le sl).1) ((imR (x0,y0,x1,y1,f,c) t g tu le sl).2.2.1) ((imR (x0,y0,x1,y1,f,c) t g tu le sl).2.1) ((imR (x0,y0,x1,y1,f,c) t g tu le sl).2.2.2)) (x1+((imR (x0,y0,x1,y1,f,c) t g tu le sl).2.2.1))),iV (mkV (mvO x0 y0 x1 y1 ((imR (x0,y0,x1,y1,f,c) t g tu le sl).1) ((imR (x0,y0,x1,y1,f,c) t g tu le sl).2.2.1) ((imR (x0,y0,x1,y1,f,c) t g tu le sl).2.1) ((imR (x0,y0,x1,y1,f,c) t g tu le sl).2.2.2)) (y1+((imR (x0,y0,x1,y1,f,c) t g tu le sl).2.2.2))),iV (mkV (mvO x0 y0 x1 y1 ((imR (x0,y0,x1,y1,f,c) t g tu le sl).1) ((imR (x0,y0,x1,y1,f,c) t g tu le sl).2.2.1) ((imR (x0,y0,x1,y1,f,c) t g tu le sl).2.1) ((imR (x0,y0,x1,y1,f,c) t g tu le sl).2.2.2)) (grF (shF f c t) (cn c) tu)),iV (mkV (mvO x0 y0 x1 y1 ((imR (x0,y0,x1,y1,f,c) t g tu le sl).1) ((imR (x0,y0,x1,y1,f,c) t g tu le sl).2.2.1) ((imR (x0,y0,x1,y1,f,c) t g tu le sl).2.1) ((imR (x0,y0,x1,y1,f,c) t g tu le sl).2.2.2)) (grC (cn c) tu))],iV (mvE x0 y0 x1 y1 ((imR (x0,y0,x1,y1,f,c) t g tu le sl).1) ((imR (x0,y0,x1,y1,f,c) t g tu le sl).2.2.1) ((imR (x0,y0,x1,y1,f,c) t g tu le sl).2.1) ((imR (x0,y0,x1,y1,f,c) t g tu le sl).2.2.2))]) results58 ⟨rfl,rfl⟩
theorem image_t (H:aa)(b:T6)(t g tu le sl ra:Int)(hb:bj b=true)(hC:cH t g=true)(hB:bX tu le sl ra=true):zC 58 [.agg [iV b.1,iV b.2.1,iV b.2.2.1,iV b.2.2.2.1,iV b.2.2.2.2.1,iV b.2.2.2.2.2],.agg [iV t,iV g],.agg [iV tu,iV le,iV sl,iV ra]] H (.tup [.agg [iV (mkV (imO b t g tu le sl) (imB b t g tu le sl).1),iV (mkV (imO b t g tu le sl) (imB b t g tu le sl).2.1),iV (mkV (imO b t g tu le sl) (imB b t g tu le sl).2.2.1),iV (mkV (imO b t g tu le sl) (imB b t g tu le sl).2.2.2.1),iV (mkV (imO b t g tu le sl) (imB b t g tu le sl).2.2.2.2.1),iV (mkV (imO b t g tu le sl) (imB b t g tu le sl).2.2.2.2.2)],iV (imE b t g tu le sl)]) H :=
 image_c H b.1 b.2.1 b.2.2.1 b.2.2.2.1 b.2.2.2.2.1 b.2.2.2.2.2 t g tu le sl ra hb hC hB
def stF (b:Bool) (g:Int):Int:=if b=true then 0 else g
theorem jY {t g:Int}(b:Bool)(h:cH t g=true):cH t (stF b g)=true:=by
 cases b
 ·exact h
 show cH t 0=true
 unfold cH at h ⊢
 rw[Bool.and_eq_true] at h ⊢
 exact⟨h.1,by decide⟩
theorem mb (H:aa)(b:T6)(t g tu le sl ra:Int)(hb:bj b=true)(hC:cH t g=true)(hB:bX tu le sl ra=true)(h:imO b t g tu le sl=true):zC 58 [.agg [iV b.1,iV b.2.1,iV b.2.2.1,iV b.2.2.2.1,iV b.2.2.2.2.1,iV b.2.2.2.2.2],.agg [iV t,iV g],.agg [iV tu,iV le,iV sl,iV ra]] H (.tup [.agg [iV (imB b t g tu le sl).1,iV (imB b t g tu le sl).2.1,iV (imB b t g tu le sl).2.2.1,iV (imB b t g tu le sl).2.2.2.1,iV (imB b t g tu le sl).2.2.2.2.1,iV (imB b t g tu le sl).2.2.2.2.2],iV 0]) H:=by
 have k:=image_t H b t g tu le sl ra hb hC hB
 unfold imE mkV at k
 simp only[h,if_true] at k
 exact k
theorem image_n (H:aa)(b:T6)(t g tu le sl ra:Int)(hb:bj b=true)(hC:cH t g=true)(hB:bX tu le sl ra=true)(h:imO b t g tu le sl=false):zC 58 [.agg [iV b.1,iV b.2.1,iV b.2.2.1,iV b.2.2.2.1,iV b.2.2.2.2.1,iV b.2.2.2.2.2],.agg [iV t,iV g],.agg [iV tu,iV le,iV sl,iV ra]] H (.tup [.agg [iV 0,iV 0,iV 0,iV 0,iV 0,iV 0],iV 2]) H:=by
 have k:=image_t H b t g tu le sl ra hb hC hB
 unfold imE mkV at k
 simp only[h,Bool.false_eq_true,if_false] at k
 exact k
theorem imA_at {l:List T6}{t f tu le sl:Int}(h:imA l t f tu le sl=true){j:Nat}(hj:j<l.length):imO (g6 l j) t f tu le sl=true:=List.all_eq_true.1 h _ (cD hj)
theorem imA_y {l:List T6}{t f tu le sl:Int}(h:∀j:Nat,j<l.length->imO (g6 l j) t f tu le sl=true):imA l t f tu le sl=true:=List.all_eq_true.2 fun b hb=>by
 obtain⟨j,hj,rfl⟩:=List.mem_iff_getElem.1 hb
 rw[<-hZ hj];exact h j hj
theorem boxes_y (H:aa)(s:AV)(l:List T6)(t g tu le sl ra:Int)(still:Bool)(hs:Sl H 6 s l.length (r6 l))(hS:bM l=true)(hC:cH t g=true)(hB:bX tu le sl ra=true)(hA:imA l t (stF still g) tu le sl=true):zC 33 [s,.agg [iV t,iV g],.agg [iV tu,iV le,iV sl,iV ra],.bool still] H (.tup [.sl (some (H.length,0)) ((imS l t (stF still g) tu le sl l.length).length) (aT (imS l t (stF still g) tu le sl l.length).length),iV 0]) (H++[.cells (aL (imS l t (stF still g) tu le sl l.length).length) 6 (r6 (imS l t (stF still g) tu le sl l.length))]):=by
 obtain⟨bs,os,cs,rfl,hbs,hbls,hb0s⟩:=zA1 hs
 have hSS:=bF.1 hS
 have hl16:=hSS.1
 have hC2:=jY still hC
 refine AcT true func33 ?_;intro hbel Q hQ
 have G1:=jn @hbs (jn @hb0s (jn @hC @hB))
 refine rgs G1 (fun h1 h1d G2=>?_) (fun h1 h1d _=>?_)
 ·refine ae G2 ?_
  refine cvr G2 (gx _ t g) ?_
  refine cvr G2 (ik _ _ _ _ _) ?_
  refine glp (fun k F Hx=>∃i:Nat,i+k=l.length/\F=[(0,.sl (some (bs,0)) l.length cs),(3,.bool still),(5,.ptr (some (H.length,0))),(6,.ptr (some (H.length+1,0))),(30,.sl (some (bs,0)) l.length cs),(31,iV (l.length:Int)),(32,iV (i:Int))]/\Hx=H++[.cells true 0 [iV t,iV g],.cells true 0 [iV tu,iV le,iV sl,iV ra]]) (l.length) ?_ ?_
  ·refine⟨_,_,_,⟨0,by omega,rfl,rfl⟩,bS hbel [0,1] aD⟩
  rintro k0 F Hx ⟨i,hm0,rfl,rfl⟩ J0 hJ0
  refine rcs G2 (fun h2 h2d _=>?_) (fun h2 h2d G5=>?_)
  ·have hlt:i<l.length:=by omega
   have q3:=di (l:=l) (j:=i) (by omega)
   have G3:=jn h2 (jn h2d (jn @ce (jn q3 G2)))
   refine ae G3 ?_
   refine cv (ft _ _ _ _ _ _ _) ?_
   refine rcs G3 (fun h4 h4d _=>?_) (fun h4 h4d G4=>?_)
   ·exact absurd ((show bj (g6 l i)=true from hSS.2 _ (cD hlt)).symm.trans h4d) (by decide)
   refine ae G4 ?_
   refine hJ0 _ _ ⟨k0-1,by omega,_,_,_,⟨i+1,by omega,rfl,rfl⟩,bS hbel [0,1] aD⟩
  obtain rfl:i=l.length:=by omega
  refine rcs G5 (fun h5 h5d G6=>?_) (fun h5 h5d G11=>?_)
  ·have hst0:stF still g=0:=by unfold stF;rw[h5d];rfl
   rw[hst0] at hA hC2
   refine ae G6 ?_
   refine glp (fun k F Hx=>∃i:Nat,i+k=l.length/\F=[(5,.ptr (some (H.length,0))),(6,.ptr (some (H.length+1,0))),(12,.sl (some (H.length+2,0)) ((imS l t 0 tu le sl i).length) (aT (imS l t 0 tu le sl i).length)),(42,.sl (some (bs,0)) l.length cs),(43,iV (l.length:Int)),(44,iV (i:Int))]/\Hx=H++[.cells true 0 [iV t,iV 0],.cells true 0 [iV tu,iV le,iV sl,iV ra],.cells (aL (imS l t 0 tu le sl i).length) 6 (r6 (imS l t 0 tu le sl i))]) (l.length) ?_ ?_
   ·refine⟨_,_,_,⟨0,by omega,rfl,rfl⟩,Abs.byG hbel [.cells false 6 []] rfl [0,1,2] (by decide) ?_⟩
    exact az (jn @imS.eq_1 (jn @br (jn @ba (jn @bQ @bE))))
   rintro k1 F Hx ⟨i,hm1,rfl,rfl⟩ J1 hJ1
   have hil0:=dP (l:=l) (t:=t) (f:=0) (tu:=tu) (le:=le) (sl:=sl) i
   have G7:=jn @ce (jn @fe G6)
   refine rcs G7 (fun h6 h6d _=>?_) (fun h6 h6d G10=>?_)
   ·have hlt:i<l.length:=by omega
    have hbv:bj (g6 l i)=true:=hSS.2 _ (cD hlt)
    have hil:=dP (l:=l) (t:=t) (f:=0) (tu:=tu) (le:=le) (sl:=sl) i
    have q7:=di (l:=l) (j:=i) (by omega)
    have G8:=jn h6 (jn h6d (jn q7 G7))
    refine ae G8 ?_
    rcases Bool.eq_false_or_eq_true (imO (g6 l i) t 0 tu le sl) with h8|h8
    ·have h8d:=h8
     refine cv (mb _ (g6 l i) t 0 _ _ _ _ (by assumption) (by assumption) (by assumption) (by assumption)) ?_
     have G9:=jn h8 (jn h8d (jn @bm (jn @du G8)))
     refine ae G9 ?_
     refine hJ1 _ _ ⟨k1-1,by omega,_,_,_,⟨i+1,by omega,rfl,rfl⟩,bS hbel [0,1,6] (az (jn @imS.eq_2 (jn @br (jn @ba (jn @bQ @bE)))))⟩
    have h8d:=h8
    exact absurd ((imA_at hA hlt).symm.trans h8d) (by decide)
   obtain rfl:i=l.length:=by omega
   refine ae G10 ?_
   refine hQ _ _ (aW (.inl rfl) hbel (x1:=.tup [.sl (some (H.length+2,0)) ((imS l t 0 tu le sl l.length).length) (aT (imS l t 0 tu le sl l.length).length),iV 0]) (l2:=[.cells (aL (imS l t 0 tu le sl l.length).length) 6 (r6 (imS l t 0 tu le sl l.length))]) (.tup [.sl (some (H.length,0)) ((imS l t 0 tu le sl l.length).length) (aT (imS l t 0 tu le sl l.length).length),iV 0]) (aZ results33) [] rfl [2] (by decide) ⟨by rw[hst0],by rw[hst0]⟩ ?_)
   exact aN @bE
  have hst0:stF still g=g:=by unfold stF;rw[h5d];rfl
  rw[hst0] at hA hC2
  refine ae G11 ?_
  refine glp (fun k F Hx=>∃i:Nat,i+k=l.length/\F=[(5,.ptr (some (H.length,0))),(6,.ptr (some (H.length+1,0))),(12,.sl (some (H.length+2,0)) ((imS l t g tu le sl i).length) (aT (imS l t g tu le sl i).length)),(42,.sl (some (bs,0)) l.length cs),(43,iV (l.length:Int)),(44,iV (i:Int))]/\Hx=H++[.cells true 0 [iV t,iV g],.cells true 0 [iV tu,iV le,iV sl,iV ra],.cells (aL (imS l t g tu le sl i).length) 6 (r6 (imS l t g tu le sl i))]) (l.length) ?_ ?_
  ·refine⟨_,_,_,⟨0,by omega,rfl,rfl⟩,Abs.byG hbel [.cells false 6 []] rfl [0,1,2] (by decide) ?_⟩
   exact az (jn @imS.eq_1 (jn @br (jn @ba (jn @bQ @bE))))
  rintro k2 F Hx ⟨i,hm2,rfl,rfl⟩ J2 hJ2
  have hil0:=dP (l:=l) (t:=t) (f:=g) (tu:=tu) (le:=le) (sl:=sl) i
  have G12:=jn @ce (jn @fe G11)
  refine rcs G12 (fun h9 h9d _=>?_) (fun h9 h9d G15=>?_)
  ·have hlt:i<l.length:=by omega
   have hbv:bj (g6 l i)=true:=hSS.2 _ (cD hlt)
   have hil:=dP (l:=l) (t:=t) (f:=g) (tu:=tu) (le:=le) (sl:=sl) i
   have q10:=di (l:=l) (j:=i) (by omega)
   have G13:=jn h9 (jn h9d (jn q10 G12))
   refine ae G13 ?_
   rcases Bool.eq_false_or_eq_true (imO (g6 l i) t g tu le sl) with h11|h11
   ·have h11d:=h11
    refine cv (mb _ (g6 l i) t g _ _ _ _ (by assumption) (by assumption) (by assumption) (by assumption)) ?_
    have G14:=jn h11 (jn h11d (jn @bm (jn @du G13)))
    refine ae G14 ?_
    refine hJ2 _ _ ⟨k2-1,by omega,_,_,_,⟨i+1,by omega,rfl,rfl⟩,bS hbel [0,1,6] (az (jn @imS.eq_2 (jn @br (jn @ba (jn @bQ @bE)))))⟩
   have h11d:=h11
   exact absurd ((imA_at hA hlt).symm.trans h11d) (by decide)
  obtain rfl:i=l.length:=by omega
  refine ae G15 ?_
  refine hQ _ _ (aW (.inl rfl) hbel (x1:=.tup [.sl (some (H.length+2,0)) ((imS l t g tu le sl l.length).length) (aT (imS l t g tu le sl l.length).length),iV 0]) (l2:=[.cells (aL (imS l t g tu le sl l.length).length) 6 (r6 (imS l t g tu le sl l.length))]) (.tup [.sl (some (H.length,0)) ((imS l t g tu le sl l.length).length) (aT (imS l t g tu le sl l.length).length),iV 0]) (aZ results33) [] rfl [2] (by decide) ⟨by rw[hst0],by rw[hst0]⟩ ?_)
  exact aN @bE
 omega
theorem boxes_n (H:aa)(s:AV)(l:List T6)(t g tu le sl ra:Int)(still:Bool)(hs:Sl H 6 s l.length (r6 l))(hS:bM l=true)(hC:cH t g=true)(hB:bX tu le sl ra=true)(hA:imA l t (stF still g) tu le sl=false):zC 33 [s,.agg [iV t,iV g],.agg [iV tu,iV le,iV sl,iV ra],.bool still] H (.tup [.sl none 0 (some 0),iV 2]) H:=by
 obtain⟨bs,os,cs,rfl,hbs,hbls,hb0s⟩:=zA1 hs
 have hSS:=bF.1 hS
 have hl16:=hSS.1
 have hC2:=jY still hC
 refine AcT true func33 ?_;intro hbel Q hQ
 have G16:=jn @hbs (jn @hb0s (jn @hC @hB))
 refine rgs G16 (fun h1 h1d G17=>?_) (fun h1 h1d _=>?_)
 ·refine ae G17 ?_
  refine cvr G17 (gx _ t g) ?_
  refine cvr G17 (ik _ _ _ _ _) ?_
  refine glp (fun k F Hx=>∃i:Nat,i+k=l.length/\F=[(0,.sl (some (bs,0)) l.length cs),(3,.bool still),(5,.ptr (some (H.length,0))),(6,.ptr (some (H.length+1,0))),(30,.sl (some (bs,0)) l.length cs),(31,iV (l.length:Int)),(32,iV (i:Int))]/\Hx=H++[.cells true 0 [iV t,iV g],.cells true 0 [iV tu,iV le,iV sl,iV ra]]) (l.length) ?_ ?_
  ·refine⟨_,_,_,⟨0,by omega,rfl,rfl⟩,bS hbel [0,1] aD⟩
  rintro k0 F Hx ⟨i,hm0,rfl,rfl⟩ J0 hJ0
  refine rcs G17 (fun h2 h2d _=>?_) (fun h2 h2d G20=>?_)
  ·have hlt:i<l.length:=by omega
   have q3:=di (l:=l) (j:=i) (by omega)
   have G18:=jn h2 (jn h2d (jn @ce (jn q3 G17)))
   refine ae G18 ?_
   refine cv (ft _ _ _ _ _ _ _) ?_
   refine rcs G18 (fun h4 h4d _=>?_) (fun h4 h4d G19=>?_)
   ·exact absurd ((show bj (g6 l i)=true from hSS.2 _ (cD hlt)).symm.trans h4d) (by decide)
   refine ae G19 ?_
   refine hJ0 _ _ ⟨k0-1,by omega,_,_,_,⟨i+1,by omega,rfl,rfl⟩,bS hbel [0,1] aD⟩
  obtain rfl:i=l.length:=by omega
  refine rcs G20 (fun h5 h5d G21=>?_) (fun h5 h5d G26=>?_)
  ·have hst0:stF still g=0:=by unfold stF;rw[h5d];rfl
   rw[hst0] at hA hC2
   refine ae G21 ?_
   refine glp (fun k F Hx=>∃i:Nat,i+k=l.length/\(∀j:Nat,j<i->imO (g6 l j) t 0 tu le sl=true)/\F=[(5,.ptr (some (H.length,0))),(6,.ptr (some (H.length+1,0))),(12,.sl (some (H.length+2,0)) ((imS l t 0 tu le sl i).length) (aT (imS l t 0 tu le sl i).length)),(42,.sl (some (bs,0)) l.length cs),(43,iV (l.length:Int)),(44,iV (i:Int))]/\Hx=H++[.cells true 0 [iV t,iV 0],.cells true 0 [iV tu,iV le,iV sl,iV ra],.cells (aL (imS l t 0 tu le sl i).length) 6 (r6 (imS l t 0 tu le sl i))]) (l.length) ?_ ?_
   ·refine⟨_,_,_,⟨0,by omega,fun j h=>by omega,rfl,rfl⟩,Abs.byG hbel [.cells false 6 []] rfl [0,1,2] (by decide) ?_⟩
    exact az (jn @imS.eq_1 (jn @br (jn @ba (jn @bQ @bE))))
   rintro k1 F Hx ⟨i,hm1,hall,rfl,rfl⟩ J1 hJ1
   have hil0:=dP (l:=l) (t:=t) (f:=0) (tu:=tu) (le:=le) (sl:=sl) i
   have G22:=jn @ce (jn @fe G21)
   refine rcs G22 (fun h6 h6d _=>?_) (fun h6 h6d _=>?_)
   ·have hlt:i<l.length:=by omega
    have hbv:bj (g6 l i)=true:=hSS.2 _ (cD hlt)
    have hil:=dP (l:=l) (t:=t) (f:=0) (tu:=tu) (le:=le) (sl:=sl) i
    have q7:=di (l:=l) (j:=i) (by omega)
    have G23:=jn h6 (jn h6d (jn q7 G22))
    refine ae G23 ?_
    rcases Bool.eq_false_or_eq_true (imO (g6 l i) t 0 tu le sl) with h8|h8
    ·have h8d:=h8
     have hio:=h8d
     refine cv (mb _ (g6 l i) t 0 _ _ _ _ (by assumption) (by assumption) (by assumption) (by assumption)) ?_
     have G24:=jn h8 (jn h8d (jn @bm (jn @du G23)))
     refine ae G24 ?_
     refine hJ1 _ _ ⟨k1-1,by omega,_,_,_,⟨i+1,by omega,fun j hj=>by
           rcases Nat.lt_or_ge j i with hji|hji
           ·exact hall j hji
           rw[show j=i by omega];exact hio,rfl,rfl⟩,bS hbel [0,1,6] (az (jn @imS.eq_2 (jn @br (jn @ba (jn @bQ @bE)))))⟩
    have h8d:=h8
    refine cv (image_n _ (g6 l i) t 0 _ _ _ _ (by assumption) (by assumption) (by assumption) (by assumption)) ?_
    have G25:=j2 h8 h8d G23
    exact eR G25 hQ hbel (.tup [.sl none 0 (some 0),iV 2]) results33 ⟨by rfl,rfl⟩
   obtain rfl:i=l.length:=by omega
   exact absurd ((imA_y hall).symm.trans hA) (by decide)
  have hst0:stF still g=g:=by unfold stF;rw[h5d];rfl
  rw[hst0] at hA hC2
  refine ae G26 ?_
  refine glp (fun k F Hx=>∃i:Nat,i+k=l.length/\(∀j:Nat,j<i->imO (g6 l j) t g tu le sl=true)/\F=[(5,.ptr (some (H.length,0))),(6,.ptr (some (H.length+1,0))),(12,.sl (some (H.length+2,0)) ((imS l t g tu le sl i).length) (aT (imS l t g tu le sl i).length)),(42,.sl (some (bs,0)) l.length cs),(43,iV (l.length:Int)),(44,iV (i:Int))]/\Hx=H++[.cells true 0 [iV t,iV g],.cells true 0 [iV tu,iV le,iV sl,iV ra],.cells (aL (imS l t g tu le sl i).length) 6 (r6 (imS l t g tu le sl i))]) (l.length) ?_ ?_
  ·refine⟨_,_,_,⟨0,by omega,fun j h=>by omega,rfl,rfl⟩,Abs.byG hbel [.cells false 6 []] rfl [0,1,2] (by decide) ?_⟩
   exact az (jn @imS.eq_1 (jn @br (jn @ba (jn @bQ @bE))))
  rintro k2 F Hx ⟨i,hm2,hall,rfl,rfl⟩ J2 hJ2
  have hil0:=dP (l:=l) (t:=t) (f:=g) (tu:=tu) (le:=le) (sl:=sl) i
  have G27:=jn @ce (jn @fe G26)
  refine rcs G27 (fun h9 h9d _=>?_) (fun h9 h9d _=>?_)
  ·have hlt:i<l.length:=by omega
   have hbv:bj (g6 l i)=true:=hSS.2 _ (cD hlt)
   have hil:=dP (l:=l) (t:=t) (f:=g) (tu:=tu) (le:=le) (sl:=sl) i
   have q10:=di (l:=l) (j:=i) (by omega)
   have G28:=jn h9 (jn h9d (jn q10 G27))
   refine ae G28 ?_
   rcases Bool.eq_false_or_eq_true (imO (g6 l i) t g tu le sl) with h11|h11
   ·have h11d:=h11
    have hio:=h11d
    refine cv (mb _ (g6 l i) t g _ _ _ _ (by assumption) (by assumption) (by assumption) (by assumption)) ?_
    have G29:=jn h11 (jn h11d (jn @bm (jn @du G28)))
    refine ae G29 ?_
    refine hJ2 _ _ ⟨k2-1,by omega,_,_,_,⟨i+1,by omega,fun j hj=>by
          rcases Nat.lt_or_ge j i with hji|hji
          ·exact hall j hji
          rw[show j=i by omega];exact hio,rfl,rfl⟩,bS hbel [0,1,6] (az (jn @imS.eq_2 (jn @br (jn @ba (jn @bQ @bE)))))⟩
   have h11d:=h11
   refine cv (image_n _ (g6 l i) t g _ _ _ _ (by assumption) (by assumption) (by assumption) (by assumption)) ?_
   have G30:=j2 h11 h11d G28
   exact eR G30 hQ hbel (.tup [.sl none 0 (some 0),iV 2]) results33 ⟨by rfl,rfl⟩
  obtain rfl:i=l.length:=by omega
  exact absurd ((imA_y hall).symm.trans hA) (by decide)
 omega
theorem way_mid {h m1 m m2:Int}(h1:m1<=m)(h2:m<=m2):(mnI (cu h m1) (cu h m2)<=cu h m/\cu h m<=mxI (cu h m1) (cu h m2))/\mnI (cw h m1) (cw h m2)<=cw h m/\cw h m<=mxI (cw h m1) (cw h m2):=by
 have hd:1<=(cF h).2.2:=(dw.1 (gM h)).1.1
 have key:∀a:Int,mnI (m1*a/(cF h).2.2) (m2*a/(cF h).2.2)<=m*a/(cF h).2.2/\m*a/(cF h).2.2<=mxI (m1*a/(cF h).2.2) (m2*a/(cF h).2.2):=fun a=>by
  have n:=dU (a:=m1*a/(cF h).2.2) (b:=m2*a/(cF h).2.2)
  have x:=dV (a:=m1*a/(cF h).2.2) (b:=m2*a/(cF h).2.2)
  rcases Int.le_total 0 a with ha|ha
  ·have a1:=Int.ediv_le_ediv (show 0<(cF h).2.2 by omega) (Int.mul_le_mul_of_nonneg_right h1 ha)
   have a2:=Int.ediv_le_ediv (show 0<(cF h).2.2 by omega) (Int.mul_le_mul_of_nonneg_right h2 ha)
   omega
  have a1:=Int.ediv_le_ediv (show 0<(cF h).2.2 by omega) (Int.mul_le_mul_of_nonpos_right h1 ha)
  have a2:=Int.ediv_le_ediv (show 0<(cF h).2.2 by omega) (Int.mul_le_mul_of_nonpos_right h2 ha)
  omega
 exact⟨key _,key _⟩
def wiC (f le sl dx dy h:Int) (j:Nat):Bool:=bK (dx-cu h (mxI (f+(0-le+(j:Int))) 0)) sl&&bK (dy-cw h (mxI (f+(0-le+(j:Int))) 0)) sl
def wiA (f le sl dx dy h:Int):Bool:=(List.range (2*le+1).toNat).any (wiC f le sl dx dy h)
theorem wiA_y {f le sl dx dy h:Int}{j:Nat}(hj:(j:Int)<=2*le)(k:wiC f le sl dx dy h j=true):wiA f le sl dx dy h=true:=List.any_eq_true.2 ⟨j,List.mem_range.2 (by omega),k⟩
def wthB (tu le sl ra x y h t f u v w:Int) (st:Bool):Bool:=bX tu le sl ra&&(cR x y h&&(cH t f&&(cR u v w&&(bK (delI ((((h+t)%256).toNat:Nat):Int) w) tu&&(bif st||f==0 then (u-x==0)&&(v-y==0) else wiA f le sl (u-x) (v-y) w)))))
theorem wth_in {b:T6}{tu le sl ra x y h t f u v w:Int}{st:Bool}(hb:bj b=true)(hi:InP b x y h)(k:wthB tu le sl ra x y h t f u v w st=true):InP (imB b t (stF st f) tu le sl) u v w:=by
 unfold wthB at k
 simp only[Bool.and_eq_true] at k
 obtain⟨kB,kp,kC,kq,kd,k⟩:=k
 simp only[bX,Bool.and_eq_true,aS] at kB
 have kC2:=jY st kC
 have hp:=aS.1 (cK.1 kp).2
 have hq:=aS.1 (cK.1 kq).2
 rw[aH] at kd
 have hb6:=bB.1 hb
 have hm:=mark_in2 (t:=t) (e:=delI ((((h+t)%256).toNat:Nat):Int) w) (tu:=tu) hb6.2.2 hi.2.2 hp (by omega) (by omega)
 have hw:nhI h t (delI ((((h+t)%256).toNat:Nat):Int) w)=w:=by unfold nhI delI;split<;>omega
 rw[hw] at hm
 obtain⟨j,hj,hjw⟩:=List.mem_iff_getElem.1 hm
 have hjg:gi (fT b.2.2.2.2.1 b.2.2.2.2.2 t tu) j=w:=by rw[fq hj];exact hjw
 have hr:=rcS_has (f:=stF st f) (le:=le) (sl:=sl) (L:=fT b.2.2.2.2.1 b.2.2.2.2.2 t tu) hj
 rw[hjg] at hr
 have hR:(rqR (stF st f) le sl w).1<=u-x/\u-x<=(rqR (stF st f) le sl w).2.2.1/\(rqR (stF st f) le sl w).2.1<=v-y/\v-y<=(rqR (stF st f) le sl w).2.2.2:=by
  by_cases h0:stF st f=0
  ·unfold rqR
   rw[if_pos h0]
   have hc:(st||f==0)=true:=by
    unfold stF at h0
    split at h0
    ·rename_i q;rw[q];rfl
    rw[h0];simp
   rw[hc,cond_true,Bool.and_eq_true,beq_iff_eq,beq_iff_eq] at k
   simp only;omega
  have hst:¬(st=true\/f=0):=fun q=>h0 (by
   unfold stF
   rcases q with q|q
   ·rw[if_pos q]
   split<;>first|rfl|exact q)
  have hf:stF st f=f:=by unfold stF;rw[if_neg (fun q=>hst (.inl q))]
  have hcf:(st||f==0)=false:=by
   cases hq:(st||f==0) with
   |false=>rfl
   | true =>
    rw[Bool.or_eq_true,beq_iff_eq] at hq
    exact absurd hq hst
  rw[hcf,cond_false] at k
  obtain⟨i,hi,hc⟩:=List.any_eq_true.1 k
  rw[List.mem_range] at hi
  unfold wiC at hc
  rw[Bool.and_eq_true,aH,aH] at hc
  rw[hf] at h0 ⊢
  have hmid:=way_mid (h:=w) (m1:=mxI (f-le) 0) (m:=mxI (f+(0-le+(i:Int))) 0) (m2:=mxI (f+le) 0) (by unfold mxI;split<;>split<;>omega) (by unfold mxI;split<;>split<;>omega)
  have e1:rqA f le w=cu w (mxI (f-le) 0):=rfl
  have e2:rqB f le w=cu w (mxI (f+le) 0):=rfl
  have e3:rqC f le w=cw w (mxI (f-le) 0):=rfl
  have e4:rqD f le w=cw w (mxI (f+le) 0):=rfl
  unfold rqR
  rw[if_neg h0,e1,e2,e3,e4]
  simp only
  omega
 unfold InP at hi ⊢
 unfold imB
 have e0:imR b t (stF st f) tu le sl=rcS (stF st f) le sl (fT b.2.2.2.2.1 b.2.2.2.2.2 t tu) (fT b.2.2.2.2.1 b.2.2.2.2.2 t tu).length:=rfl
 simp only
 rw[e0]
 refine⟨by omega,by omega,?_⟩
 unfold dJ
 have hin:w∈aX (grF (shF b.2.2.2.2.1 b.2.2.2.2.2 t) (cn b.2.2.2.2.2) tu) (grC (cn b.2.2.2.2.2) tu).toNat:=hm
 unfold aX at hin
 obtain⟨i,hir,hiw⟩:=List.mem_map.1 hin
 rw[List.mem_range] at hir
 have hg:1<=grC (cn b.2.2.2.2.2) tu/\grC (cn b.2.2.2.2.2) tu<=256:=by
  have:=bo.1 hb6.2.2
  unfold grC cn;split<;>split<;>omega
 omega
theorem wth_set {l:List T6}{tu le sl ra x y h t f u v w:Int}{st:Bool}(hv:∀b∈l,bj b=true)(hc:∃b∈l,InP b x y h)(k:wthB tu le sl ra x y h t f u v w st=true):∃b∈imS l t (stF st f) tu le sl l.length,InP b u v w:=by
 obtain⟨b,hb,hi⟩:=hc
 obtain⟨j,hj,rfl⟩:=List.mem_iff_getElem.1 hb
 rw[<-show g6 l j=l[j] from hZ hj] at hi hb
 exact⟨_,oL.2 ⟨j,hj,rfl⟩,wth_in (hv _ hb) hi k⟩
theorem imS_ok {l:List T6}{t f tu le sl:Int}(hv:∀b∈l,bj b=true)(hf:0<=f/\f<=32)(hu:0<=tu/\tu<=8)(hl:0<=le/\le<=16)(hs:0<=sl/\sl<=8)(hA:imA l t f tu le sl=true):∀b∈imS l t f tu le sl l.length,bj b=true:=fun b hb=>by
 obtain⟨j,hj,rfl⟩:=oL.1 hb
 exact imB_ok (hv _ (cD hj)) hf hu hl hs (List.all_eq_true.1 hA _ (cD hj))
def stdB (W Hh:Int) (xs:List Int) (x y h:Int):Bool:=inpB W Hh xs x y&&btw h 0 255
theorem m9 {W Hh:Int}{xs:List Int}{x y:Int}:inpB W Hh xs x y=(bC W Hh xs&&(btw x 0 (64*W)&&btw y 0 (64*Hh))):=by
 unfold inpB btw;simp only[Bool.and_assoc]
theorem rf {px py vx vy vd:Int}{b:Int×Int}:fpN px py vx vy vd (some b)=peN px py vx vy vd b:=rfl
theorem rg {px py vx vy vd:Int}{b:Int×Int}:fpD px py vx vy vd (some b)=peD px py vx vy vd b:=rfl
theorem lC (H:aa)(n lo hi:Int):zC 133 [iV n,iV lo,iV hi] H (.bool (btw n lo hi)) H:=by
 refine AcT true func133 ?_;intro hbel Q hQ
 refine aI ?_
 refine aY (fun h1=>?_) (fun h1=>?_)
 ·have h1d:=bsT h1
  have G1:=jn h1 @h1d
  exact eS G1 hQ hbel (.bool (decide (n<=hi))) results133 ⟨by simp[btw,h1d],rfl⟩
 have h1d:=bsT h1
 have G2:=jn h1 @h1d
 exact eS G2 hQ hbel (.bool false) results133 ⟨by simp[btw,h1d],rfl⟩
theorem dist_n (H:aa)(n0 d0:Nat)(vx vy:Int)(vd0:Nat)(h1:n0<=8388608)(h2:0<d0)(h3:d0<=67108864)(h4:0<vd0)(h5:vd0<=67108864):zC 211 [.agg [iV (n0:Int),iV (d0:Int)],.agg [iV vx,iV vy,iV (vd0:Int)]] H (.agg [iV (Int.tdiv ((n0*vd0:Nat):Int) ((Nat.gcd (n0*vd0) d0:Nat):Int)),iV (Int.tdiv (d0:Int) ((Nat.gcd (n0*vd0) d0:Nat):Int))]) H:=by
 have hpm:(n0:Int)*(vd0:Int)=((n0*vd0:Nat):Int):=(Int.natCast_mul _ _).symm
 have hpb:n0*vd0<=8388608*67108864:=Nat.mul_le_mul h1 h5
 have hgp:0<Nat.gcd (n0*vd0) d0:=Nat.gcd_pos_of_pos_right _ h2
 have hgl:Nat.gcd (n0*vd0) d0<=d0:=Nat.gcd_le_right _ h2
 refine AcT true func211 ?_;intro hbel Q hQ
 have G3:=jn @hpm @rem_nat
 refine ae G3 ?_
 refine glp (fun k F Hx=>∃a:Nat,∃b:Nat,b=k/\Nat.gcd a b=Nat.gcd (n0*vd0) d0/\F=[(4,.ptr (some (H.length,0))),(5,iV ((n0*vd0:Nat):Int)),(6,iV (d0:Int)),(7,iV (a:Int)),(8,iV (b:Int))]/\Hx=H++[.cells true 0 [iV 0,iV 0]]) (d0) ?_ ?_
 ·refine⟨_,_,_,⟨n0*vd0,d0,by omega,rfl,rfl,rfl⟩,bS hbel [2] aD⟩
 rintro k0 F Hx ⟨a,b,hm0,hG,rfl,rfl⟩ J0 hJ0
 refine rcs G3 (fun h1 h1d _=>?_) (fun h1 h1d _=>?_)
 ·have hlt:a%b<b:=Nat.mod_lt _ (by omega)
  have G4:=jn h1 (jn h1d (jn @aP (jn @aO G3)))
  refine ae G4 ?_
  refine hJ0 _ _ ⟨a%b,by omega,_,_,_,⟨b,a%b,by omega,by rw[<-hG,mL],rfl,rfl⟩,bS hbel [0] (aN @h1d)⟩
 obtain rfl:b=0:=by omega
 rw[Nat.gcd_zero_right] at hG
 have hfing:=hG
 have ht1:=gN (a:=((n0*vd0:Nat):Int)) (b:=(a:Int)) (by omega) (by omega)
 have ht2:=gN (a:=(d0:Int)) (b:=(a:Int)) (by omega) (by omega)
 have G5:=jn h1 (jn h1d (jn @aP (jn @aO G3)))
 refine rcs G5 (fun h2 h2d _=>?_) (fun h2 h2d G6=>?_)
 ·omega
 exact eR G6 hQ hbel (.agg [iV (Int.tdiv ((n0*vd0:Nat):Int) (a:Int)),iV (Int.tdiv (d0:Int) (a:Int))]) results211 ⟨by rw[hfing],rfl⟩
theorem dist_x (H:aa)(n d vx vy vd:Int)(hn:0<=n/\n<=8388608)(hd:0<d/\d<=67108864)(hv:0<vd/\vd<=67108864):zC 211 [.agg [iV n,iV d],.agg [iV vx,iV vy,iV vd]] H (.agg [iV (lwN (n*vd) d),iV (lwD (n*vd) d)]) H:=by
 obtain⟨a,rfl⟩:=Int.eq_ofNat_of_zero_le hn.1
 obtain⟨b,rfl⟩:=Int.eq_ofNat_of_zero_le (Int.le_of_lt hd.1)
 obtain⟨c,rfl⟩:=Int.eq_ofNat_of_zero_le (Int.le_of_lt hv.1)
 have k:=dist_n H a b vx vy c (by omega) (by omega) (by omega) (by omega) (by omega)
 have hl:=lw_tdiv (n:=(a:Int)*(c:Int)) (d:=(b:Int)) (Int.mul_nonneg (by omega) (by omega)) (by omega)
 have e:Int.gcd ((a:Int)*(c:Int)) (b:Int)=Nat.gcd (a*c) b:=by
  rw[<-Int.natCast_mul];rfl
 rw[e] at hl
 rw[<-hl.1,<-hl.2]
 exact k
theorem ent_c (H:aa)(px py vx vy vd x0 y0 x1 y1:Int)(ho:thO px py vx vy vd x0 y0 x1 y1=true):zC 202 [.agg [iV px,iV py],.agg [iV vx,iV vy,iV vd],.agg [iV x0,iV y0,iV x1,iV y1]] H (.tup [.agg [iV (lwN ((thS px py vx vy x0 y0 x1 y1).1.1*vd) (thS px py vx vy x0 y0 x1 y1).1.2),iV (lwD ((thS px py vx vy x0 y0 x1 y1).1.1*vd) (thS px py vx vy x0 y0 x1 y1).1.2)],.bool true]) H:=by
 refine AcT true func202 ?_;intro hbel Q hQ
 refine aI ?_
 rcases Bool.eq_false_or_eq_true (thO px py vx vy vd x0 y0 x1 y1) with h1|h1
 ·have h1d:=h1
  have hgT:=(jw ho).1
  have hbS:=(ly hgT).2
  obtain⟨⟨hb1,hb2⟩,hb3,hb4⟩:=hbS
  have hvT:=bk.1 (cm.1 hgT).2.1
  have hn0:=((lV im.1 (jw ho).2).1 (th_lo (fg hgT).2 (jw ho).2)).1.1
  refine cv (lz _ _ _ _ _ _ _ _ _ _ (by assumption)) ?_
  have G7:=jn h1 @h1d
  refine ae G7 ?_
  refine cvr G7 (dist_x _ _ _ _ _ _ (by omega) (by omega) (by omega)) ?_
  exact eP hQ hbel (.tup [.agg [iV (lwN (((thS px py vx vy x0 y0 x1 y1).1.1)*vd) ((thS px py vx vy x0 y0 x1 y1).1.2)),iV (lwD (((thS px py vx vy x0 y0 x1 y1).1.1)*vd) ((thS px py vx vy x0 y0 x1 y1).1.2))],.bool true]) results202 ⟨rfl,rfl⟩
 have h1d:=h1
 exact absurd (ho.symm.trans h1d) (by decide)
theorem entC_t (H:aa)(px py vx vy vd cx cy:Int)(h:onC px py vx vy vd (cx,cy)=true):zC 202 [.agg [iV px,iV py],.agg [iV vx,iV vy,iV vd],.agg [iV (cx*64),iV (cy*64),iV (cx*64+64),iV (cy*64+64)]] H (.tup [.agg [iV (peN px py vx vy vd (cx,cy)),iV (peD px py vx vy vd (cx,cy))],.bool true]) H:=ent_c H px py vx vy vd (cx*64) (cy*64) (cx*64+64) (cy*64+64) h
theorem rpin_c (H:aa)(W Hh:Int)(pp:AV)(xs:List Int)(x y:Int)(hpp:zI H pp xs):zC 168 [.agg [iV W,iV Hh,pp],.agg [iV x,iV y]] H (.bool (inpB W Hh xs x y)) H:=by
 obtain⟨bpp,opp,cpp,rfl,hbpp,hblpp,hb0pp⟩:=zA1 hpp
 refine AcT true func168 ?_;intro hbel Q hQ
 have G8:=jn @hbpp @hb0pp
 refine ae G8 ?_
 refine cv (d3 _ W Hh _ xs (.inr (zA2 hb0pp hbpp))) ?_
 refine rgs G8 (fun h1 h1d G9=>?_) (fun h1 h1d G12=>?_)
 ·have hVV:=bh.1 h1d
  have hw1:=hVV.w1
  have hw0:=hVV.w0
  have hh1:=hVV.h1
  have hh0:=hVV.h0
  refine ae G9 ?_
  refine cv (lC _ x 0 _) ?_
  refine rgs G9 (fun h2 h2d G10=>?_) (fun h2 h2d G11=>?_)
  ·refine ae G10 ?_
   refine cvr G10 (lC _ y 0 _) ?_
   exact eP hQ hbel (.bool (btw y 0 (64*Hh))) results168 ⟨by rw[m9];simp[h1d,h2d],rfl⟩
  exact eR G11 hQ hbel (.bool false) results168 ⟨by rw[m9];simp[h1d,h2d],rfl⟩
 exact eR G12 hQ hbel (.bool false) results168 ⟨by rw[m9];simp[h1d],rfl⟩
theorem rpst_c (H:aa)(W Hh:Int)(pp:AV)(xs:List Int)(x y h:Int)(hpp:zI H pp xs):zC 132 [.agg [iV W,iV Hh,pp],.agg [iV x,iV y,iV h]] H (.bool (stdB W Hh xs x y h)) H:=by
 obtain⟨bpp,opp,cpp,rfl,hbpp,hblpp,hb0pp⟩:=zA1 hpp
 refine AcT true func132 ?_;intro hbel Q hQ
 have G13:=jn @hbpp @hb0pp
 refine ae G13 ?_
 refine cv (rpin_c _ W _ _ xs x y (zA2 hb0pp hbpp)) ?_
 refine rgs G13 (fun h1 h1d G14=>?_) (fun h1 h1d G15=>?_)
 ·refine ae G14 ?_
  refine cvr G14 (lC _ h 0 _) ?_
  exact eP hQ hbel (.bool (btw h 0 255)) results132 ⟨by first|(simp[stdB,h1d];done)|(unfold stdB;simp[h1d];done),rfl⟩
 exact eR G15 hQ hbel (.bool false) results132 ⟨by first|(simp[stdB,h1d];done)|(unfold stdB;simp[h1d];done),rfl⟩
theorem first_c (H:aa)(W Hh:Int)(pp:AV)(xs:List Int)(px py vx vy vd most:Int)(hpp:zI H pp xs)(hi:inpB W Hh xs px py=true)(hv:da vx vy vd=true)(hm:0<=most/\most<=1056):zC 169 [.agg [iV W,iV Hh,pp],.agg [iV px,iV py],.agg [iV vx,iV vy,iV vd],iV most] H (.tup [.agg [iV (fpN px py vx vy vd (fpZ W Hh xs px py vx vy vd most)),iV (fpD px py vx vy vd (fpZ W Hh xs px py vx vy vd most))],.agg [iV (oX (fpZ W Hh xs px py vx vy vd most)),iV (oY (fpZ W Hh xs px py vx vy vd most))],.bool ((fpZ W Hh xs px py vx vy vd most).isSome)]) H:=by
 obtain⟨bpp,opp,cpp,rfl,hbpp,hblpp,hb0pp⟩:=zA1 hpp
 have hV:=(fa.1 hi).1
 have hVV:=bh.1 hV
 have hw1:=hVV.w1
 have hw0:=hVV.w0
 have hh1:=hVV.h1
 have hh0:=hVV.h0
 have hbb1:=(fa.1 hi).2
 have hte:((trE px py vx vy vd 0 most)!=0)=false:=by rw[(trE_0 (fO.2 (by omega)) hv (by omega)).1];rfl
 have htl:=jU px py vx vy vd 0 most
 (refine bI func169 _ rfl (Nat.le_of_ble_eq_true (by kernel_rfl)) rfl ?_;intro hbel Q hQ hQ' c hc;unfold Tryz.f169 at hc;simp only[Option.some.injEq] at hc;subst hc;clear hQ')
 refine zQT hQ fun Q1 hn1 hQ1 he1=>?_
 have G16:=jn @hbpp (jn @hb0pp (jn @hi @hte))
 refine ae G16 ?_
 refine hn1 _ _ (zQT hQ fun Q2 hn2 hQ2 he2=>?_)
 refine ae G16 ?_
 refine cvr G16 (rpin_c _ W _ _ xs _ _ (zA2 hb0pp hbpp)) ?_
 refine hn2 _ _ (zQT hQ fun Q3 hn3 hQ3 he3=>?_)
 refine ae G16 ?_
 refine cvr G16 (kE _ _ _ _ _ _ 0 _) ?_
 refine hn3 _ _ (zQT hQ fun Q4 hn4 hQ4 he4=>?_)
 refine ae G16 ?_
 refine hn4 _ _ (zQT hQ fun Q5 hn5 hQ5 he5=>?_)
 refine ae G16 ?_
 refine hn5 _ _ (zQT hQ fun Q6 hn6 hQ6 he6=>?_)
 refine ae G16 ?_
 refine hn6 _ _ (zQT hQ fun Q7 hn7 hQ7 he7=>?_)
 refine ae G16 ?_
 refine hn7 _ _ (sqR hQ fun Q8 hn8 hQ8 he8=>?_)
 refine zQT hQ8 fun Q9 hn9 hQ9 he9=>?_
 refine ae G16 ?_
 refine hn9 _ _ ?_
 refine bkR hQ8 fun Q10 hn10 hQ10 he10 hb10=>?_
 refine kr (fun k F Hx=>∃i:Nat,i+k=(trL px py vx vy vd 0 most).length/\F=[(4,.ptr (some (H.length,0))),(5,.ptr (some (H.length+1,0))),(6,.ptr (some (H.length+2,0))),(8,.ptr (some (H.length+3,0))),(9,.ptr (some (H.length+4,0))),(13,.ptr (some (H.length+6,0))),(14,.ptr (some (H.length+7,0))),(15,.bool ((fpA W Hh xs px py vx vy vd most i).isSome)),(39,.sl (some (H.length+5,0)) ((trL px py vx vy vd 0 most).length) (aT (trL px py vx vy vd 0 most).length)),(40,iV (((trL px py vx vy vd 0 most).length:Nat):Int)),(41,iV (i:Int))]/\Hx=H++[.cells true 0 [iV W,iV Hh,.sl (some (bpp,0)) xs.length cpp],.cells true 0 [iV px,iV py],.cells true 0 [iV vx,iV vy,iV vd],.cells true 0 [iV 0,iV 0],.cells true 0 [iV 0,iV 0],.cells (aL (trL px py vx vy vd 0 most).length) 2 (prs (trL px py vx vy vd 0 most)),.cells true 0 [iV (fpN px py vx vy vd (fpA W Hh xs px py vx vy vd most i)),iV (fpD px py vx vy vd (fpA W Hh xs px py vx vy vd most i))],.cells true 0 [iV (oX (fpA W Hh xs px py vx vy vd most i)),iV (oY (fpA W Hh xs px py vx vy vd most i))]]) ((trL px py vx vy vd 0 most).length) ?_ ?_
 ·refine⟨_,_,_,⟨0,by omega,rfl,rfl⟩,bS hbel [0,1,2,3,4,5,6,7] (az (jn @fpA_0 (jn @fpN.eq_1 (jn @fpD.eq_1 (jn @oX.eq_1 (jn @oY.eq_1 @Option.isSome_none.{0}))))))⟩
 rintro k0 F Hx ⟨i,hm0,rfl,rfl⟩ Q11 hJ0 hr11 he11
 have hQ11:=fun F H' h=>hr11 F H' (hQ10 F H' h)
 refine zQT hQ11 fun Q12 hn12 hQ12 he12=>?_
 have G17:=jn @bm (jn @cJ G16)
 refine ae G17 ?_
 refine hn12 _ _ (zQT hQ11 fun Q13 hn13 hQ13 he13=>?_)
 refine rcs G17 (fun h1 h1d G18=>?_) (fun h1 h1d G29=>?_)
 ·have hlt:i<(trL px py vx vy vd 0 most).length:=by omega
  have hcm:=List.getElem_mem hlt
  rw[<-ct hlt] at hcm
  have hme:=(fP (v:=(vx,vy,vd)) (by omega) (by omega) hv ⟨hm.1,by omega⟩).1 hcm
  have hco:=(kL hme)
  have hon:onC px py vx vy vd (g1 (trL px py vx vy vd 0 most) i,g2 (trL px py vx vy vd 0 most) i)=true:=hco.1
  have hcp:=jA hon
  have hcl:peN px py vx vy vd (g1 (trL px py vx vy vd 0 most) i,g2 (trL px py vx vy vd 0 most) i)<=most*peD px py vx vy vd (g1 (trL px py vx vy vd 0 most) i,g2 (trL px py vx vy vd 0 most) i):=hco.2
  have hcb:peN px py vx vy vd (g1 (trL px py vx vy vd 0 most) i,g2 (trL px py vx vy vd 0 most) i)<=70866960384:=by have q:=Int.mul_le_mul hm.2 hcp.2.2.1 (Int.le_of_lt hcp.2.1) (by decide);omega
  have hcn:=oI hme
  simp only at hcn
  have hsq:sqO (g1 (trL px py vx vy vd 0 most) i) (g2 (trL px py vx vy vd 0 most) i)=true:=by unfold sqO;rw[aH.2 (by omega),aH.2 (by omega)];rfl
  refine ae G18 ?_
  refine hn13 _ _ (sqR hQ11 fun Q14 hn14 hQ14 he14=>?_)
  refine bkR hQ14 fun Q15 hn15 hQ15 he15 hb15=>?_
  refine zQT hQ15 fun Q16 hn16 hQ16 he16=>?_
  have q2:=cL (l:=trL px py vx vy vd 0 most) (j:=i) (by omega)
  have G19:=jn q2 G18
  refine ae G19 ?_
  refine hn16 _ _ (zQT hQ15 fun Q17 hn17 hQ17 he17=>?_)
  refine ae G19 ?_
  refine cv (pat_c _ W _ _ xs _ _ (zA2 hb0pp hbpp) hV) ?_
  refine rcs G19 (fun h3 h3d _=>?_) (fun h3 h3d _=>?_)
  ·have h3n:=bnT h3
   have hst:fpA W Hh xs px py vx vy vd most (i+1)=fpA W Hh xs px py vx vy vd most i:=(fpA_s hlt).trans (fsStep_no (by unfold wlB;exact beq_eq_false_iff_ne.2 (by first|exact h3d|simpa using h3d)))
   have hs1:=hst
   have hs2:=hst
   have hs3:=hst
   have G20:=jn h3 (jn h3n (jn @aP (jn @aO G19)))
   refine ae G20 ?_
   refine he17 _ _ _ ?_
   refine hb15 _ _ ?_
   refine hn14 _ _ ?_
   refine fnT ?_
   refine ae G20 ?_
   refine hJ0 _ _ ⟨k0-1,by omega,_,_,_,⟨i+1,by omega,rfl,rfl⟩,bS hbel [0,1,2,3,4,5,6,7] (az (jn @hst (jn @hs1 (jn @hs2 (jn @hs3 (jn @oX.eq_2 (jn @oY.eq_2 @Option.isSome_some.{0})))))))⟩
  have h3n:=bnT h3
  have hat:atI W Hh xs (g1 (trL px py vx vy vd 0 most) i) (g2 (trL px py vx vy vd 0 most) i)=2:=by first|exact h3d|simpa using h3d
  have hQ:wlB W Hh xs (g1 (trL px py vx vy vd 0 most) i,g2 (trL px py vx vy vd 0 most) i)=true:=by unfold wlB;rw[hat];rfl
  have G21:=jn h3 (jn h3n (jn @aP (jn @aO G19)))
  refine ae G21 ?_
  refine hn17 _ _ (zQT hQ15 fun Q18 hn18 hQ18 he18=>?_)
  refine ae G21 ?_
  rcases Bool.eq_false_or_eq_true (sqO (g1 (trL px py vx vy vd 0 most) i) (g2 (trL px py vx vy vd 0 most) i)) with h4|h4
  ·have h4d:=h4
   refine cv (nL _ _ _ (by assumption)) ?_
   have G22:=j2 h4 h4d G21
   refine ae G22 ?_
   refine hn18 _ _ (zQT hQ15 fun Q19 hn19 hQ19 he19=>?_)
   refine ae G22 ?_
   refine cvr G22 (entC_t _ _ _ _ _ _ (g1 (trL px py vx vy vd 0 most) i) (g2 (trL px py vx vy vd 0 most) i) (by assumption)) ?_
   refine hn19 _ _ (zQT hQ15 fun Q20 hn20 hQ20 he20=>?_)
   refine rgs G22 (fun h5 h5d G23=>?_) (fun h5 h5d G28=>?_)
   ·obtain⟨bb,hbb⟩:=Option.isSome_iff_exists.1 h5d
    have hbm:=fpA_mem hbb
    have hbo:=kL ((fP (v:=(vx,vy,vd)) (by omega) (by omega) hv ⟨hm.1,by omega⟩).1 hbm.1)
    have hbp:=jA (px:=px) (py:=py) (vx:=vx) (vy:=vy) (vd:=vd) (c:=bb) hbo.1
    have hbl:peN px py vx vy vd bb<=most*peD px py vx vy vd bb:=hbo.2
    have hn1:fpN px py vx vy vd (fpA W Hh xs px py vx vy vd most i)=peN px py vx vy vd bb:=by rw[hbb];rfl
    have hn2:fpD px py vx vy vd (fpA W Hh xs px py vx vy vd most i)=peD px py vx vy vd bb:=by rw[hbb];rfl
    have hsm:=h5d
    have hb9:0<=fpN px py vx vy vd (fpA W Hh xs px py vx vy vd most i)/\fpN px py vx vy vd (fpA W Hh xs px py vx vy vd most i)<=70866960384:=by rw[hn1];have q:=Int.mul_le_mul hm.2 hbp.2.2.1 (Int.le_of_lt hbp.2.1) (by decide);omega
    have hb8:0<=fpD px py vx vy vd (fpA W Hh xs px py vx vy vd most i)/\fpD px py vx vy vd (fpA W Hh xs px py vx vy vd most i)<=67108864:=by rw[hn2];omega
    have hm8:=bg (a:=peN px py vx vy vd (g1 (trL px py vx vy vd 0 most) i,g2 (trL px py vx vy vd 0 most) i)) (b:=fpD px py vx vy vd (fpA W Hh xs px py vx vy vd most i)) (A:=70866960384) (B:=67108864) (by omega) (by omega)
    have hm9:=bg (a:=fpN px py vx vy vd (fpA W Hh xs px py vx vy vd most i)) (b:=peD px py vx vy vd (g1 (trL px py vx vy vd 0 most) i,g2 (trL px py vx vy vd 0 most) i)) (A:=70866960384) (B:=67108864) (by omega) (by omega)
    refine ae G23 ?_
    refine hn20 _ _ ?_
    refine gj (decide (((peN px py vx vy vd (g1 (trL px py vx vy vd 0 most) i,g2 (trL px py vx vy vd 0 most) i))*(fpD px py vx vy vd (fpA W Hh xs px py vx vy vd most i)))<((fpN px py vx vy vd (fpA W Hh xs px py vx vy vd most i))*(peD px py vx vy vd (g1 (trL px py vx vy vd 0 most) i,g2 (trL px py vx vy vd 0 most) i))))) (by rfl) (fun h6=>?_) (fun h6=>?_)
    ·have h6d:=bsT h6
     have hst:fpA W Hh xs px py vx vy vd most (i+1)=some (g1 (trL px py vx vy vd 0 most) i,g2 (trL px py vx vy vd 0 most) i):=(fpA_s hlt).trans (by rw[hbb];exact rK hQ (show peN px py vx vy vd (g1 (trL px py vx vy vd 0 most) i,g2 (trL px py vx vy vd 0 most) i)*peD px py vx vy vd bb<peN px py vx vy vd bb*peD px py vx vy vd (g1 (trL px py vx vy vd 0 most) i,g2 (trL px py vx vy vd 0 most) i) by rw[<-hn1,<-hn2];exact h6d))
     have hs1:=@rf px py vx vy vd (g1 (trL px py vx vy vd 0 most) i,g2 (trL px py vx vy vd 0 most) i)
     have hs2:=@rg px py vx vy vd (g1 (trL px py vx vy vd 0 most) i,g2 (trL px py vx vy vd 0 most) i)
     have hs3:=hst
     refine ia true try_mixed [[0,1,2,3,4],[0,2,1,3,4]] (by kernel_rfl) (fun F2 H2=>F2=[(4,.ptr (some (H.length,0))),(5,.ptr (some (H.length+1,0))),(6,.ptr (some (H.length+2,0))),(8,.ptr (some (H.length+3,0))),(9,.ptr (some (H.length+4,0))),(13,.ptr (some (H.length+6,0))),(14,.ptr (some (H.length+7,0))),(15,.bool true),(39,.sl (some (H.length+5,0)) ((trL px py vx vy vd 0 most).length) (aT (trL px py vx vy vd 0 most).length)),(40,iV (((trL px py vx vy vd 0 most).length:Nat):Int)),(41,iV (i:Int))]/\H2=H++[.cells true 0 [iV W,iV Hh,.sl (some (bpp,0)) xs.length cpp],.cells true 0 [iV px,iV py],.cells true 0 [iV vx,iV vy,iV vd],.cells true 0 [iV 0,iV 0],.cells true 0 [iV 0,iV 0],.cells (aL (trL px py vx vy vd 0 most).length) 2 (prs (trL px py vx vy vd 0 most)),.cells true 0 [iV (peN px py vx vy vd (g1 (trL px py vx vy vd 0 most) i,g2 (trL px py vx vy vd 0 most) i)),iV (peD px py vx vy vd (g1 (trL px py vx vy vd 0 most) i,g2 (trL px py vx vy vd 0 most) i))],.cells true 0 [iV (g1 (trL px py vx vy vd 0 most) i),iV (g2 (trL px py vx vy vd 0 most) i)]]) ?_ ?_
     ·refine am ?_ (am ?_ (bP))<;>intro J hJ
      ·have G24:=j2 h6 h6d G23
       refine ak G24 ?_
       refine aC (hJ _ _ ⟨_,_,_,⟨rfl,rfl⟩,bS hbel [0,1,2,3,4,5,6,7] fk⟩)
      have G25:=j2 h6 h6d G23
      refine ak G25 ?_
      refine aC (hJ _ _ ⟨_,_,_,⟨rfl,rfl⟩,bS hbel [0,1,2,3,4,5,6,7] fk⟩)
     rintro F2 H2 ⟨rfl,rfl⟩
     refine hn15 _ _ ?_
     refine hn14 _ _ ?_
     refine fnT ?_
     have G26:=j2 h6 h6d G23
     refine ae G26 ?_
     refine hJ0 _ _ ⟨k0-1,by omega,_,_,_,⟨i+1,by omega,rfl,rfl⟩,bS hbel [0,1,2,3,4,5,6,7] (az (jn @hst (jn @hs1 (jn @hs2 (jn @hs3 (jn @oX.eq_2 (jn @oY.eq_2 @Option.isSome_some.{0})))))))⟩
    have h6d:=bsT h6
    have hst:fpA W Hh xs px py vx vy vd most (i+1)=fpA W Hh xs px py vx vy vd most i:=(fpA_s hlt).trans (by rw[hbb];exact sa (show ¬peN px py vx vy vd (g1 (trL px py vx vy vd 0 most) i,g2 (trL px py vx vy vd 0 most) i)*peD px py vx vy vd bb<peN px py vx vy vd bb*peD px py vx vy vd (g1 (trL px py vx vy vd 0 most) i,g2 (trL px py vx vy vd 0 most) i) by rw[<-hn1,<-hn2];exact h6d))
    have hs1:=hst
    have hs2:=hst
    have hs3:=hsm
    refine fnT ?_
    have G27:=j2 h6 h6d G23
    refine ae G27 ?_
    refine hn15 _ _ ?_
    refine hn14 _ _ ?_
    refine fnT ?_
    refine ae G27 ?_
    refine hJ0 _ _ ⟨k0-1,by omega,_,_,_,⟨i+1,by omega,rfl,rfl⟩,bS hbel [0,1,2,3,4,5,6,7] (az (jn @hst (jn @hs1 (jn @hs2 (jn @hs3 (jn @oX.eq_2 (jn @oY.eq_2 @Option.isSome_some.{0})))))))⟩
   have hnn:fpA W Hh xs px py vx vy vd most i=none:=by simpa using h5d
   have hst:fpA W Hh xs px py vx vy vd most (i+1)=some (g1 (trL px py vx vy vd 0 most) i,g2 (trL px py vx vy vd 0 most) i):=(fpA_s hlt).trans (by rw[hnn];exact sb hQ)
   have hs1:=@rf px py vx vy vd (g1 (trL px py vx vy vd 0 most) i,g2 (trL px py vx vy vd 0 most) i)
   have hs2:=@rg px py vx vy vd (g1 (trL px py vx vy vd 0 most) i,g2 (trL px py vx vy vd 0 most) i)
   have hs3:=hst
   refine ae G28 ?_
   refine hn20 _ _ ?_
   refine gj true (by rfl) (fun h=>?_) (fun h=>by cases h)
   refine ia true try_mixed [[0,1,2,3,4],[0,2,1,3,4]] (by kernel_rfl) (fun F2 H2=>F2=[(4,.ptr (some (H.length,0))),(5,.ptr (some (H.length+1,0))),(6,.ptr (some (H.length+2,0))),(8,.ptr (some (H.length+3,0))),(9,.ptr (some (H.length+4,0))),(13,.ptr (some (H.length+6,0))),(14,.ptr (some (H.length+7,0))),(15,.bool true),(39,.sl (some (H.length+5,0)) ((trL px py vx vy vd 0 most).length) (aT (trL px py vx vy vd 0 most).length)),(40,iV (((trL px py vx vy vd 0 most).length:Nat):Int)),(41,iV (i:Int))]/\H2=H++[.cells true 0 [iV W,iV Hh,.sl (some (bpp,0)) xs.length cpp],.cells true 0 [iV px,iV py],.cells true 0 [iV vx,iV vy,iV vd],.cells true 0 [iV 0,iV 0],.cells true 0 [iV 0,iV 0],.cells (aL (trL px py vx vy vd 0 most).length) 2 (prs (trL px py vx vy vd 0 most)),.cells true 0 [iV (peN px py vx vy vd (g1 (trL px py vx vy vd 0 most) i,g2 (trL px py vx vy vd 0 most) i)),iV (peD px py vx vy vd (g1 (trL px py vx vy vd 0 most) i,g2 (trL px py vx vy vd 0 most) i))],.cells true 0 [iV (g1 (trL px py vx vy vd 0 most) i),iV (g2 (trL px py vx vy vd 0 most) i)]]) ?_ ?_
   ·refine am ?_ (am ?_ (bP))<;>intro J hJ
    ·refine ak G28 ?_
     refine aC (hJ _ _ ⟨_,_,_,⟨rfl,rfl⟩,bS hbel [0,1,2,3,4,5,6,7] fk⟩)
    refine ak G28 ?_
    refine aC (hJ _ _ ⟨_,_,_,⟨rfl,rfl⟩,bS hbel [0,1,2,3,4,5,6,7] fk⟩)
   rintro F2 H2 ⟨rfl,rfl⟩
   refine hn15 _ _ ?_
   refine hn14 _ _ ?_
   refine fnT ?_
   refine ae G28 ?_
   refine hJ0 _ _ ⟨k0-1,by omega,_,_,_,⟨i+1,by omega,rfl,rfl⟩,bS hbel [0,1,2,3,4,5,6,7] (az (jn @hst (jn @hs1 (jn @hs2 (jn @hs3 (jn @oX.eq_2 (jn @oY.eq_2 @Option.isSome_some.{0})))))))⟩
  have h4d:=h4
  exact absurd (hsq.symm.trans h4d) (by decide)
 obtain rfl:i=(trL px py vx vy vd 0 most).length:=by omega
 refine ae G29 ?_
 refine he13 _ _ _ ?_
 refine he11 _ _ _ ?_
 refine hb10 _ _ ?_
 refine hn8 _ _ ?_
 refine bT true try_mixed [[0,1,2,3,4,5],[0,2,3,1,4,5]] (by kernel_rfl) (fun F2 H2=>F2=[(8,.ptr (some (H.length,0))),(9,.ptr (some (H.length+1,0))),(10,.bool ((fpA W Hh xs px py vx vy vd most (trL px py vx vy vd 0 most).length).isSome))]/\H2=H++[.cells true 0 [iV (fpN px py vx vy vd (fpA W Hh xs px py vx vy vd most (trL px py vx vy vd 0 most).length)),iV (fpD px py vx vy vd (fpA W Hh xs px py vx vy vd most (trL px py vx vy vd 0 most).length))],.cells true 0 [iV (oX (fpA W Hh xs px py vx vy vd most (trL px py vx vy vd 0 most).length)),iV (oY (fpA W Hh xs px py vx vy vd most (trL px py vx vy vd 0 most).length))]]) ?_ ?_
 ·refine am ?_ (am ?_ (bP))<;>intro J hJ
  ·refine ak G29 ?_
   refine aC (hJ _ _ ⟨_,_,_,⟨rfl,rfl⟩,bS hbel [3,4] aD⟩)
  refine ak G29 ?_
  refine aC (hJ _ _ ⟨_,_,_,⟨rfl,rfl⟩,bS hbel [3,4] aD⟩)
 rintro F2 H2 ⟨rfl,rfl⟩
 refine fnT ?_
 exact eR G29 hQ hbel (.tup [.agg [iV (fpN px py vx vy vd (fpA W Hh xs px py vx vy vd most (trL px py vx vy vd 0 most).length)),iV (fpD px py vx vy vd (fpA W Hh xs px py vx vy vd most (trL px py vx vy vd 0 most).length))],.agg [iV (oX (fpA W Hh xs px py vx vy vd most (trL px py vx vy vd 0 most).length)),iV (oY (fpA W Hh xs px py vx vy vd most (trL px py vx vy vd 0 most).length))],.bool ((fpA W Hh xs px py vx vy vd most (trL px py vx vy vd 0 most).length).isSome)]) results169 ⟨rfl,rfl⟩
theorem dI (H:aa)(W Hh:Int)(pp:AV)(xs:List Int)(x y h m most:Int)(hpp:zI H pp xs)(hi:inpB W Hh xs x y=true)(hm:0<=most/\most<=1056):zC 169 [.agg [iV W,iV Hh,pp],.agg [iV x,iV y],.agg [iV (aF h m).1,iV (aF h m).2.1,iV (aF h m).2.2],iV most] H (.tup [.agg [iV (lkN W Hh xs x y h m most),iV (lkD W Hh xs x y h m most)],.agg [iV (oX (lkS W Hh xs x y h m most)),iV (oY (lkS W Hh xs x y h m most))],.bool (lkS W Hh xs x y h m most).isSome]) H :=
 first_c H W Hh pp xs x y (aF h m).1 (aF h m).2.1 (aF h m).2.2 most hpp hi (gS _ _) hm
theorem r6_drop {l:List T6}{j:Nat}:(r6 l).drop (j*6)=r6 (l.drop j):=by
 induction l generalizing j with
 |nil=>simp[bQ]
 | cons p l ih =>
  cases j with
  |zero=>simp
  |succ j=>rw[ba,show (j+1)*6=j*6+1+1+1+1+1+1 by omega,List.drop_succ_cons,List.drop_succ_cons,List.drop_succ_cons,List.drop_succ_cons,List.drop_succ_cons,List.drop_succ_cons,ih];rfl
theorem r6_dropv {l:List T6}{k:Nat}(h:k<=l.length):List.take ((l.length-k)*6) (List.drop (k*6) (r6 l))=r6 (List.drop k l):=by
 rw[r6_drop]
 exact List.take_of_length_le (by rw[ce,List.length_drop];omega)
theorem oN {l:List T6}{j:Nat}(h:j<l.length):l.drop j=g6 l j::l.drop (j+1):=by
 rw[List.drop_eq_getElem_cons h,<-hZ h];rfl
section
variable {W Hh:Int} {xs:List Int} {s:List (Int×Int)} {g:Int} {QA O R:List T6} {j K k:Nat}
theorem rfn_no (hj:j<QA.length)(hk:QA.length-j+2*K=k)(ht:tOk W Hh xs (g6 QA j) s g=false)(h:rfn W Hh xs s g k (QA.drop j) K O=R):rfn W Hh xs s g (k-1) (QA.drop (j+1)) K O=R:=by
 obtain⟨n,rfl⟩:∃n,k=n+1:=⟨k-1,by omega⟩
 rw[oN hj] at h
 unfold rfn at h
 rw[if_neg (by rw[ht];decide)] at h
 exact h
theorem rfn_two (hj:j<QA.length)(hk:QA.length-j+2*K=k)(ht:tOk W Hh xs (g6 QA j) s g=true)(h2:0<K/\dh (tB W Hh xs (g6 QA j) s g)=true)(h:rfn W Hh xs s g k (QA.drop j) K O=R):rfn W Hh xs s g (k-1) ((QA.drop (j+1)++[dL (tB W Hh xs (g6 QA j) s g),dM (tB W Hh xs (g6 QA j) s g)]).drop 0) (K-1) O=R:=by
 obtain⟨n,rfl⟩:∃n,k=n+1:=⟨k-1,by omega⟩
 rw[oN hj] at h
 unfold rfn at h
 rw[if_pos ht,if_pos h2] at h
 exact h
theorem rfn_out (hj:j<QA.length)(hk:QA.length-j+2*K=k)(ht:tOk W Hh xs (g6 QA j) s g=true)(h2:¬(0<K/\dh (tB W Hh xs (g6 QA j) s g)=true))(h:rfn W Hh xs s g k (QA.drop j) K O=R):rfn W Hh xs s g (k-1) (QA.drop (j+1)) K (O++[tB W Hh xs (g6 QA j) s g])=R:=by
 obtain⟨n,rfl⟩:∃n,k=n+1:=⟨k-1,by omega⟩
 rw[oN hj] at h
 unfold rfn at h
 rw[if_pos ht,if_neg h2] at h
 exact h
theorem rfn_end (hj:QA.length<=j)(h:rfn W Hh xs s g k (QA.drop j) K O=R):R=O:=by
 rw[List.drop_eq_nil_of_le hj] at h
 cases k<;>exact h.symm
end
theorem cright_t (H:aa)(W Hh:Int)(pp:AV)(xs:List Int)(q:AV)(sc:List (Int×Int))(g:Int)(hpp:zI H pp xs)(hq:SlP H q sc)(hV:bC W Hh xs=true)(hsB:c7 sc=true)(hg:1<=g/\g<=32):zC 61 [.agg [iV W,iV Hh,pp],q,iV g] H (.bool true) H:=by
 have k:=cright_c H W Hh pp xs q sc g hpp hq (by have:=(dF.1 hsB).1;omega)
 rw[hV,hsB,aS.2 hg] at k
 exact k
theorem rh (H:aa)(W Hh:Int)(pp:AV)(xs:List Int)(s:AV)(l:List T6)(q:AV)(sc:List (Int×Int))(g:Int)(K0:Nat)(hpp:zI H pp xs)(hs:Sl H 6 s l.length (r6 l))(hq:SlP H q sc)(hV:bC W Hh xs=true)(hS:bM l=true)(hl0:0<l.length)(hsB:c7 sc=true)(hg:1<=g/\g<=32)(hK0:K0<=64):zC 35 [.agg [iV W,iV Hh,pp],s,q,iV g,iV (K0:Int)] H (.tup [.sl (some (H.length,0)) ((bL W Hh xs l sc g K0).length) (aT (bL W Hh xs l sc g K0).length),iV 0]) (H++[.cells (aL (bL W Hh xs l sc g K0).length) 6 (r6 (bL W Hh xs l sc g K0))]):=by
 obtain⟨bpp,opp,cpp,rfl,hbpp,hblpp,hb0pp⟩:=zA1 hpp
 obtain⟨bs,os,cs,rfl,hbs,hbls,hb0s⟩:=zA1 hs
 obtain⟨bq,oq,cq,rfl,hbq,hblq,hb0q⟩:=zA1 hq
 have hsl0:(l.length==0)=false:=beq_eq_false_iff_ne.2 (by omega)
 have hsl1:decide (0<l.length)=true:=decide_eq_true hl0
 have hSS:=bF.1 hS
 have hl16:=hSS.1
 have hkb:btw (K0:Int) 0 64=true:=aS.2 (by omega)
 have hVV:=bh.1 hV
 have hWW:1<=W/\W<=64:=⟨hVV.w0,hVV.w1⟩
 have hHH:1<=Hh/\Hh<=64:=⟨hVV.h0,hVV.h1⟩
 (refine bI func35 _ rfl (Nat.le_of_ble_eq_true (by kernel_rfl)) rfl ?_;intro hbel Q hQ hQ' c hc;unfold Tryz.f35 at hc;simp only[Option.some.injEq] at hc;subst hc;clear hQ')
 refine zQT hQ fun Q1 hn1 hQ1 he1=>?_
 have G1:=jn @hbpp (jn @hb0pp (jn @hbs (jn @hb0s (jn @hbq (jn @hb0q (jn @mkV_t (jn @hkb (jn @hsl0 @hsl1))))))))
 refine ae G1 ?_
 refine hn1 _ _ (zQT hQ fun Q2 hn2 hQ2 he2=>?_)
 refine ae G1 ?_
 refine cv (cright_t _ W _ _ xs _ sc g (zA2 hb0pp hbpp) (zA2 hb0q hbq) hV hsB hg) ?_
 refine rcs G1 (fun h1 h1d _=>?_) (fun h1 h1d G2=>?_)
 ·omega
 refine ae G2 ?_
 refine hn2 _ _ (zQT hQ fun Q3 hn3 hQ3 he3=>?_)
 refine ae G2 ?_
 refine glp (fun k F Hx=>∃i:Nat,i+k=l.length/\F=[(1,.sl (some (bs,0)) l.length cs),(2,.sl (some (bq,0)) sc.length cq),(3,iV g),(4,iV (K0:Int)),(5,.ptr (some (H.length,0))),(31,.sl (some (bs,0)) l.length cs),(32,iV (l.length:Int)),(33,iV (i:Int))]/\Hx=H++[.cells true 0 [iV W,iV Hh,.sl (some (bpp,0)) xs.length cpp]]) (l.length) ?_ ?_
 ·refine⟨_,_,_,⟨0,by omega,rfl,rfl⟩,bS hbel [0] aD⟩
 rintro k0 F Hx ⟨i,hm0,rfl,rfl⟩ J0 hJ0
 refine rcs G2 (fun h2 h2d _=>?_) (fun h2 h2d G5=>?_)
 ·have hlt:i<l.length:=by omega
  have q3:=di (l:=l) (j:=i) (by omega)
  have G3:=jn h2 (jn h2d (jn @ce (jn q3 G2)))
  refine ae G3 ?_
  refine cv (ft _ _ _ _ _ _ _) ?_
  refine rcs G3 (fun h4 h4d _=>?_) (fun h4 h4d G4=>?_)
  ·exact absurd ((show bj (g6 l i)=true from hSS.2 _ (cD hlt)).symm.trans h4d) (by decide)
  refine ae G4 ?_
  refine hJ0 _ _ ⟨k0-1,by omega,_,_,_,⟨i+1,by omega,rfl,rfl⟩,bS hbel [0] aD⟩
 obtain rfl:i=l.length:=by omega
 refine ae G5 ?_
 refine hn3 _ _ (zQT hQ fun Q4 hn4 hQ4 he4=>?_)
 refine ae G5 ?_
 refine cvr G5 (dO _ _ 0 _) ?_
 refine hn4 _ _ (zQT hQ fun Q5 hn5 hQ5 he5=>?_)
 refine ae G5 ?_
 refine hn5 _ _ (zQT hQ fun Q6 hn6 hQ6 he6=>?_)
 have G6:=jn @ce (jn @fe (jn @r6_all G5))
 refine ae G6 ?_
 refine hn6 _ _ (sqR hQ fun Q7 hn7 hQ7 he7=>?_)
 refine bkR hQ7 fun Q8 hn8 hQ8 he8 hb8=>?_
 refine kr (fun k F Hx=>∃QA:List T6,∃j:Nat,∃K:Nat,∃O:List T6,QA.length-j+2*K=k/\j<=QA.length/\QA.length-j+K<=l.length+K0/\QA.length<=l.length+K0/\O.length+(QA.length-j)+K<=l.length+K0/\(∀b∈QA,bj b=true)/\rfn W Hh xs sc g k (QA.drop j) K O=bL W Hh xs l sc g K0/\F=[(2,.sl (some (bq,0)) sc.length cq),(3,iV g),(4,iV (K:Int)),(5,.ptr (some (H.length,0))),(14,.sl (some (H.length+1,0)) O.length (aT O.length)),(15,.sl (some (H.length+2,j*6)) (QA.length-j) none)]/\Hx=H++[.cells true 0 [iV W,iV Hh,.sl (some (bpp,0)) xs.length cpp],.cells (aL O.length) 6 (r6 O),.cells true 6 (r6 QA)]) (l.length+2*K0) ?_ ?_
 ·refine⟨_,_,_,⟨l,0,K0,[],by omega,Nat.zero_le _,by omega,by omega,by simp only[List.length_nil];omega,hSS.2,rfl,rfl,rfl⟩,Abs.byG hbel [.cells false 6 []] rfl [0,3,2] (by decide) ?_⟩
  exact az (jn @Nat.zero_mul (jn @Nat.sub_zero (jn @br (jn @ba (jn @bQ @bE)))))
 rintro k1 F Hx ⟨QA,j,K,O,hm1,hjq,hqb,hql,hol,hqv,hrf,rfl,rfl⟩ Q9 hJ1 hr9 he9
 have hQ9:=fun F H' h=>hr9 F H' (hQ8 F H' h)
 refine zQT hQ9 fun Q10 hn10 hQ10 he10=>?_
 refine rcs G6 (fun h5 h5d _=>?_) (fun h5 h5d G16=>?_)
 ·have hjl:j<QA.length:=by omega
  have hbv:bj (g6 QA j)=true:=hqv _ (cD hjl)
  have hsf1:QA.length-j-1=QA.length-(j+1):=by omega
  have hsf2:j*6+6=(j+1)*6:=by omega
  have G7:=jn h5 (jn h5d (j2 hsf1 hsf2 G6))
  refine ae G7 ?_
  refine hn10 _ _ ?_
  refine bkR hQ9 fun Q11 hn11 hQ11 he11 hb11=>?_
  refine bT true try_mixed [[0,1,2,3,4,5,6,7,8,9,10,11,12],[0,1,2,3,4,5,10,6,7,8,9,11,12]] (by kernel_rfl) (fun F2 H2=>F2=[(2,.sl (some (bq,0)) sc.length cq),(3,iV g),(4,iV (K:Int)),(5,.ptr (some (H.length,0))),(14,.sl (some (H.length+1,0)) O.length (aT O.length)),(15,.sl (some (H.length+2,j*6)) (QA.length-j) none),(16,.ptr (some (H.length+3,0))),(17,.bool (tOk W Hh xs (g6 QA j) sc g))]/\H2=H++[.cells true 0 [iV W,iV Hh,.sl (some (bpp,0)) xs.length cpp],.cells (aL O.length) 6 (r6 O),.cells true 6 (r6 QA),.cells true 0 [iV (mkV (tOk W Hh xs (g6 QA j) sc g) ((tB W Hh xs (g6 QA j) sc g).1)),iV (mkV (tOk W Hh xs (g6 QA j) sc g) ((tB W Hh xs (g6 QA j) sc g).2.1)),iV (mkV (tOk W Hh xs (g6 QA j) sc g) ((tB W Hh xs (g6 QA j) sc g).2.2.1)),iV (mkV (tOk W Hh xs (g6 QA j) sc g) ((tB W Hh xs (g6 QA j) sc g).2.2.2.1)),iV (mkV (tOk W Hh xs (g6 QA j) sc g) ((tB W Hh xs (g6 QA j) sc g).2.2.2.2.1)),iV (mkV (tOk W Hh xs (g6 QA j) sc g) ((tB W Hh xs (g6 QA j) sc g).2.2.2.2.2))]]) ?_ ?_
  ·refine am ?_ (am ?_ (bP))<;>intro J hJ
   ·have q6:=di (l:=QA) (j:=j) (by omega)
    have G8:=jn q6 G7
    refine ak G8 ?_
    refine cd (trim_t _ W Hh _ xs (g6 QA j) _ sc g (zA2 hb0pp hbpp) (zA2 hb0q hbq) hV (by assumption) hsB hg) ?_
    refine ak G8 ?_
    refine aC (hJ _ _ ⟨_,_,_,⟨rfl,rfl⟩,bS hbel [0,1,2,3] (az (jn @br (jn @ba (jn @bQ @bE))))⟩)
   have q7:=di (l:=QA) (j:=j) (by omega)
   have G9:=jn q7 G7
   refine ak G9 ?_
   refine cd (trim_t _ W Hh _ xs (g6 QA j) _ sc g (zA2 hb0pp hbpp) (zA2 hb0q hbq) hV (by assumption) hsB hg) ?_
   refine ak G9 ?_
   refine aC (hJ _ _ ⟨_,_,_,⟨rfl,rfl⟩,bS hbel [0,1,2,3] (az (jn @br (jn @ba (jn @bQ @bE))))⟩)
  rintro F2 H2 ⟨rfl,rfl⟩
  refine fnT ?_
  refine rcs G7 (fun h8 h8d G10=>?_) (fun h8 h8d G11=>?_)
  ·have htf:=h8d
   refine ae G10 ?_
   refine hb11 _ _ ?_
   refine hJ1 _ _ ⟨k1-1,by omega,_,_,_,⟨QA,j+1,K,O,by omega,by omega,by omega,hql,by omega,hqv,rfn_no hjl hm1 htf hrf,rfl,rfl⟩,bS hbel [0,1,2] (az (jn @Nat.zero_mul (jn @Nat.sub_zero (jn @List.length_drop.{0} (jn @br (jn @ba (jn @bQ @bE)))))))⟩
  have hto:=h8d
  have htb:=(tB_ok hWW hHH hbv hto).1
  refine rcs G11 (fun h9 h9d _=>?_) (fun h9 h9d _=>?_)
  ·have hK:0<K:=by omega
   have hsfk:(K:Int)-1=((K-1:Nat):Int):=by omega
   have G12:=jn h9 (j2 h9d hsfk G11)
   refine ae G12 ?_
   rcases Bool.eq_false_or_eq_true (dh (tB W Hh xs (g6 QA j) sc g)) with h10|h10
   ·have h10d:=h10
    have hs2:=h10d
    have hso:=spl_ok htb hs2
    have hdv:List.take ((QA.length-(j+1))*6) (List.drop ((j+1)*6) (r6 QA))=r6 (List.drop (j+1) QA):=r6_dropv (by omega)
    refine cv (split_t _ (tB W Hh xs (g6 QA j) sc g) (by assumption) (by assumption)) ?_
    have G13:=jn h10 (jn h10d (jn @bm (jn @du G12)))
    refine ae G13 ?_
    refine hb11 _ _ ?_
    refine hJ1 _ _ ⟨k1-1,by omega,_,_,_,⟨List.drop (j+1) QA++[dL (tB W Hh xs (g6 QA j) sc g),dM (tB W Hh xs (g6 QA j) sc g)],0,K-1,O,by (simp only[List.length_append,List.length_drop,List.length_cons,List.length_nil];omega),Nat.zero_le _,by simp only[List.length_append,List.length_drop,List.length_cons,List.length_nil];omega,by simp only[List.length_append,List.length_drop,List.length_cons,List.length_nil];omega,by simp only[List.length_append,List.length_drop,List.length_cons,List.length_nil];omega,fun b hb'=>by
          rcases List.mem_append.1 hb' with q|q
          ·exact hqv b (List.mem_of_mem_drop q)
          rcases List.mem_cons.1 q with q|q
          ·rw[q];exact hso.1
          rw[List.mem_singleton.1 q];exact hso.2.1,rfn_two hjl hm1 hto ⟨hK,hs2⟩ hrf,rfl,rfl⟩,bS hbel [0,1,7] (az (jn @Nat.zero_mul (jn @Nat.sub_zero (jn @List.length_drop.{0} (jn @hdv (jn @br (jn @ba (jn @bQ @bE))))))))⟩
   have h10d:=h10
   have hno:¬(0<K/\dh (tB W Hh xs (g6 QA j) sc g)=true):=fun q=>absurd (q.2.symm.trans h10d) (by decide)
   refine cv (split_f _ (tB W Hh xs (g6 QA j) sc g) (by assumption) (by assumption)) ?_
   have G14:=jn h10 (jn h10d (jn @bm (jn @du G12)))
   refine ae G14 ?_
   refine hn11 _ _ ?_
   refine hJ1 _ _ ⟨k1-1,by omega,_,_,_,⟨QA,j+1,K,O++[(tB W Hh xs (g6 QA j) sc g)],by omega,by omega,by omega,hql,by simp only[List.length_append,List.length_drop,List.length_cons,List.length_nil];omega,hqv,rfn_out hjl hm1 hto hno hrf,rfl,rfl⟩,bS hbel [0,7,2] (az (jn @Nat.zero_mul (jn @Nat.sub_zero (jn @List.length_drop.{0} (jn @br (jn @ba (jn @bQ @bE)))))))⟩
  have hno:¬(0<K/\dh (tB W Hh xs (g6 QA j) sc g)=true):=fun q=>by omega
  have G15:=jn h9 (jn h9d (jn @bm (jn @du G11)))
  refine ae G15 ?_
  refine hn11 _ _ ?_
  refine hJ1 _ _ ⟨k1-1,by omega,_,_,_,⟨QA,j+1,K,O++[(tB W Hh xs (g6 QA j) sc g)],by omega,by omega,by omega,hql,by simp only[List.length_append,List.length_drop,List.length_cons,List.length_nil];omega,hqv,rfn_out hjl hm1 hto hno hrf,rfl,rfl⟩,bS hbel [0,5,2] (az (jn @Nat.zero_mul (jn @Nat.sub_zero (jn @List.length_drop.{0} (jn @br (jn @ba (jn @bQ @bE)))))))⟩
 have hfinR:bL W Hh xs l sc g K0=O:=rfn_end (by omega) hrf
 refine ae G16 ?_
 refine he10 _ _ _ ?_
 refine he9 _ _ _ ?_
 refine hb8 _ _ ?_
 refine hn7 _ _ ?_
 refine fnT ?_
 refine ae G16 ?_
 refine hQ _ _ (aW (.inl rfl) hbel (x1:=.tup [.sl (some (H.length+1,0)) O.length (aT O.length),iV 0]) (l2:=[.cells (aL O.length) 6 (r6 O)]) (.tup [.sl (some (H.length,0)) O.length (aT O.length),iV 0]) (aZ results35) [] rfl [1] (by decide) ⟨by rw[hfinR],by rw[hfinR]⟩ ?_)
 exact aN @bE
theorem proven_c (H:aa)(W Hh:Int)(pp:AV)(xs:List Int)(s:AV)(l:List T6)(m r g:Int)(hpp:zI H pp xs)(hs:Sl H 6 s l.length (r6 l))(hV:bC W Hh xs=true)(hS:bM l=true)(hl0:0<l.length)(hr : -1<=r/\r<=1024)(hg:1<=g/\g<=32):zC 108 [.agg [iV W,iV Hh,pp],s,.agg [iV m,iV r],iV g] H (.sl (some (H.length,0)) ((eC W Hh l m r g).length) (aT (eC W Hh l m r g).length)) (H++[.cells (aL (eC W Hh l m r g).length) 2 (prs (eC W Hh l m r g))]):=by
 obtain⟨bpp,opp,cpp,rfl,hbpp,hblpp,hb0pp⟩:=zA1 hpp
 obtain⟨bs,os,cs,rfl,hbs,hbls,hb0s⟩:=zA1 hs
 have hvl:=bh.1 hV
 have hWb:1<=W/\W<=64/\1<=Hh/\Hh<=64:=by obtain⟨a,b,c,d,-⟩:=hvl;omega
 have hda:=kG hS m
 have hpair:∀j',j'<(aq l m).length->bxB (g91 (aq l m) j') (g92 (aq l m) j') (g93 (aq l m) j') (g94 (aq l m) j') (g95 (aq l m) j') (g96 (aq l m) j')=true:=fun j' hj'=>by
  have k:=oB hS (g9_mem hj')
  unfold pairB at k;rw[Bool.and_eq_true] at k;exact k.1
 have hp0:=hpair 0 (by omega)
 have hfl:=fstL_len l m (ar r g)
 (refine bI func108 _ rfl (Nat.le_of_ble_eq_true (by kernel_rfl)) rfl ?_;intro hbel Q hQ hQ' c hc;unfold Tryz.f108 at hc;simp only[Option.some.injEq] at hc;subst hc;clear hQ')
 refine zQF hQ fun Q1 hn1 hQ1 he1=>?_
 have G1:=jn @hbpp (jn @hb0pp (jn @hbs @hb0s))
 refine ae G1 ?_
 refine hn1 _ _ (zQF hQ fun Q2 hn2 hQ2 he2=>?_)
 refine ae G1 ?_
 refine hn2 _ _ (zQF hQ fun Q3 hn3 hQ3 he3=>?_)
 refine rcs G1 (fun h1 h1d _=>?_) (fun h1 h1d _=>?_)
 ·have h1n:=bnT h1
  have hr1:r = -1:=by simpa using h1d
  have hsf1:1024-g=ar r g:=(if_pos hr1).symm
  have G2:=jn h1 (jn h1n (jn @aP (jn @aO (jn @hsf1 G1))))
  refine ae G2 ?_
  refine hn3 _ _ (zQF hQ fun Q4 hn4 hQ4 he4=>?_)
  refine rcs G2 (fun h2 h2d G3=>?_) (fun h2 h2d G4=>?_)
  ·have hfinL:eC W Hh l m r g=[]:=if_pos h2d
   refine ae G3 ?_
   refine hQ4 _ _ (aW (.inl rfl) hbel (x1:=.sl none 0 (some 0)) (l2:=[.cells false 2 []]) (.sl (some (H.length,0)) 0 (some 0)) (aZ results108) [.cells false 2 []] rfl [3] (by decide) ⟨by (rw[hfinL];rfl),by (rw[hfinL];rfl)⟩ ?_)
   exact aD
  have hfar:=h2d
  refine ae G4 ?_
  refine hn4 _ _ (zQF hQ fun Q5 hn5 hQ5 he5=>?_)
  refine ae G4 ?_
  refine cvr G4 (kI _ _ l m r (zA2 hb0s hbs) (by assumption)) ?_
  refine hn5 _ _ ?_
  refine mo false try_mixed [[0,1,2,3,4,5,6,7,8,9,10,11,12,13,14,15,16,17],[0,1,2,3,7,8,9,11,4,5,6,10,12,13,14,15,16,17],[0,1,2,3,7,8,9,10,4,5,6,11,12,13,14,15,16,17],[0,1,2,3,7,8,9,10,11,4,5,6,12,13,14,15,16,17]] (by kernel_rfl) (fun F2 H2=>F2=[(4,.ptr (some (H.length,0))),(8,.sl none 0 (some 0)),(9,.ptr (some (H.length+1,0))),(10,.sl (some (H.length+2,0)) ((aq l m).length) (aT (aq l m).length)),(11,.sl (some (H.length+3,0)) ((aQ l m (ar r g)).length) (aT (aQ l m (ar r g)).length))]/\H2=H++[.cells true 0 [iV W,iV Hh,.sl (some (bpp,0)) xs.length cpp],.cells true 0 [iV (ar r g)],.cells (aL (aq l m).length) 9 (r9 (aq l m)),.cells (aL (aQ l m (ar r g)).length) 2 (prs (aQ l m (ar r g)))]) ?_ ?_
  ·refine am ?_ (am ?_ (am ?_ (am ?_ (bP))))<;>intro J hJ
   ·have q3:=jx (l:=aq l m) (by omega)
    have G5:=jn @ec (jn q3 G4)
    refine ak G5 ?_
    refine cx (ee _ _ _ _ _ _ _ (by assumption)) ?_
    have q4:=jy (l:=aq l m) (by omega)
    have G6:=jn q4 G5
    refine ak G6 ?_
    refine cx (eI _ l m _) ?_
    refine ak G6 ?_
    refine aC (hJ _ _ ⟨_,_,_,⟨rfl,rfl⟩,bS hbel [0,2,3,5] (az (jn @bt (jn @bD (jn @cg @bW))))⟩)
   ·have q5:=jx (l:=aq l m) (by omega)
    have G7:=jn @ec (jn q5 G4)
    refine ak G7 ?_
    refine cx (ee _ _ _ _ _ _ _ (by assumption)) ?_
    have q6:=jy (l:=aq l m) (by omega)
    have G8:=jn q6 G7
    refine ak G8 ?_
    refine cx (eI _ l m _) ?_
    refine ak G8 ?_
    refine aC (hJ _ _ ⟨_,_,_,⟨rfl,rfl⟩,bS hbel [0,2,3,5] (az (jn @bt (jn @bD (jn @cg @bW))))⟩)
   ·have q7:=jx (l:=aq l m) (by omega)
    have q8:=jy (l:=aq l m) (by omega)
    have G9:=jn @ec (jn q7 (jn q8 G4))
    refine ak G9 ?_
    refine cx (ee _ _ _ _ _ _ _ (by assumption)) ?_
    refine ak G9 ?_
    refine cx (eI _ l m _) ?_
    refine ak G9 ?_
    refine aC (hJ _ _ ⟨_,_,_,⟨rfl,rfl⟩,bS hbel [0,2,3,5] (az (jn @bt (jn @bD (jn @cg @bW))))⟩)
   have q9:=jx (l:=aq l m) (by omega)
   have q10:=jy (l:=aq l m) (by omega)
   have G10:=jn @ec (jn q9 (jn q10 G4))
   refine ak G10 ?_
   refine cx (ee _ _ _ _ _ _ _ (by assumption)) ?_
   refine ak G10 ?_
   refine cx (eI _ l m _) ?_
   refine ak G10 ?_
   refine aC (hJ _ _ ⟨_,_,_,⟨rfl,rfl⟩,bS hbel [0,2,3,5] (az (jn @bt (jn @bD (jn @cg @bW))))⟩)
  rintro F2 H2 ⟨rfl,rfl⟩
  refine fnF ?_
  have G11:=jn @ec (jn @lA (jn @bm (jn @cJ G4)))
  refine ae G11 ?_
  refine glp (fun k F Hx=>∃j:Nat,j+k=(aQ l m (ar r g)).length/\F=[(4,.ptr (some (H.length,0))),(9,.ptr (some (H.length+1,0))),(10,.sl (some (H.length+2,0)) ((aq l m).length) (aT (aq l m).length)),(13,.sl (some (H.length+4,0)) ((((aQ l m (ar r g)).take j).filter (bN W Hh l m (ar r g))).length) (aT (((aQ l m (ar r g)).take j).filter (bN W Hh l m (ar r g))).length)),(49,.sl (some (H.length+3,0)) ((aQ l m (ar r g)).length) (aT (aQ l m (ar r g)).length)),(50,iV (((aQ l m (ar r g)).length:Nat):Int)),(51,iV (j:Int))]/\Hx=H++[.cells true 0 [iV W,iV Hh,.sl (some (bpp,0)) xs.length cpp],.cells true 0 [iV (ar r g)],.cells (aL (aq l m).length) 9 (r9 (aq l m)),.cells (aL (aQ l m (ar r g)).length) 2 (prs (aQ l m (ar r g))),.cells (aL (((aQ l m (ar r g)).take j).filter (bN W Hh l m (ar r g))).length) 2 (prs (((aQ l m (ar r g)).take j).filter (bN W Hh l m (ar r g))))]) ((aQ l m (ar r g)).length) ?_ ?_
  ·refine⟨_,_,_,⟨0,by omega,rfl,rfl⟩,Abs.byG hbel [.cells false 2 []] rfl [0,1,2,3,4] (by decide) ?_⟩
   exact az (jn @List.take_zero.{0} (jn @List.filter_nil.{0} (jn @bt (jn @bD (jn @cg @bW)))))
  rintro k0 F Hx ⟨j,hm0,rfl,rfl⟩ J0 hJ0
  refine rcs G11 (fun h11 h11d _=>?_) (fun h11 h11d G24=>?_)
  ·have hlt:j<(aQ l m (ar r g)).length:=by omega
   have hpr:=(ct hlt).symm
   have hst:=qQ (p:=(bN W Hh l m (ar r g))) hlt
   have hfln:=flt_len (p:=(bN W Hh l m (ar r g))) (l:=(aQ l m (ar r g))) (j:=j)
   have q12:=cL (l:=aQ l m (ar r g)) (j:=j) (by omega)
   have G12:=jn h11 (jn h11d (jn q12 G11))
   refine ae G12 ?_
   rcases Bool.eq_false_or_eq_true (sqO (g1 (aQ l m (ar r g)) j) (g2 (aQ l m (ar r g)) j)) with h13|h13
   ·have h13d:=h13
    have hsq:=h13d
    refine cv (nL _ _ _ (by assumption)) ?_
    have G13:=j2 h13 h13d G12
    refine ae G13 ?_
    refine cv (dc _ _ 0 _) ?_
    refine rgs G13 (fun h14 h14d G14=>?_) (fun h14 h14d G19=>?_)
    ·have hbx:=h14d
     refine ae G14 ?_
     refine cv (dc _ _ 0 _) ?_
     refine rgs G14 (fun h15 h15d G15=>?_) (fun h15 h15d G18=>?_)
     ·have hby:=h15d
      refine ae G15 ?_
      refine cv (has_r _ _ (aq l m) ⟨_,_,_,by rfl,by (rw[bO];rfl)⟩ (by omega) _ [.ptr (some (H.length+6,0)),.ptr (some (H.length+1,0))] (by kernel_rfl) (by simp[AV.bels,AV.bel]) (fun e=>!psC e (ar r g) (g1 (aQ l m (ar r g)) j,g2 (aQ l m (ar r g)) j)) (fun j' hj'=>kprv1_c _ _ _ _ _ _ _ _ _ _ _ _ _ _ _ _ _ ⟨_,by (rw[bO];rfl)⟩ ⟨_,by (rw[bO];rfl)⟩ (hpair _ hj'))) ?_
      refine rcs G15 (fun h16 h16d _=>?_) (fun h16 h16d G17=>?_)
      ·have hok:bN W Hh l m (ar r g) (g1 (aQ l m (ar r g)) j,g2 (aQ l m (ar r g)) j)=true:=by unfold bN prvB;rw[hbx,hby,List.all_eq_not_any_not,h16d];rfl
       rw[hpr,if_pos hok] at hst
       have G16:=jn h16 (jn h16d (jn @du G15))
       refine ae G16 ?_
       refine hJ0 _ _ ⟨k0-1,by omega,_,_,_,⟨j+1,by omega,rfl,rfl⟩,bS hbel [0,1,2,3,8] (az (jn @hst (jn @bt (jn @bD (jn @cg @bW)))))⟩
      have hok:bN W Hh l m (ar r g) (g1 (aQ l m (ar r g)) j,g2 (aQ l m (ar r g)) j)=false:=by unfold bN prvB;rw[hbx,hby,List.all_eq_not_any_not,h16d];rfl
      rw[hpr,if_neg (by rw[hok];decide),List.append_nil] at hst
      refine ae G17 ?_
      refine hJ0 _ _ ⟨k0-1,by omega,_,_,_,⟨j+1,by omega,rfl,rfl⟩,bS hbel [0,1,2,3,4] (az (jn @hst (jn @bt (jn @bD (jn @cg @bW)))))⟩
     have hok:bN W Hh l m (ar r g) (g1 (aQ l m (ar r g)) j,g2 (aQ l m (ar r g)) j)=false:=by unfold bN;rw[hbx,h15d];rfl
     rw[hpr,if_neg (by rw[hok];decide),List.append_nil] at hst
     refine ae G18 ?_
     refine hJ0 _ _ ⟨k0-1,by omega,_,_,_,⟨j+1,by omega,rfl,rfl⟩,bS hbel [0,1,2,3,4] (az (jn @hst (jn @bt (jn @bD (jn @cg @bW)))))⟩
    have hok:bN W Hh l m (ar r g) (g1 (aQ l m (ar r g)) j,g2 (aQ l m (ar r g)) j)=false:=by unfold bN;rw[h14d];rfl
    rw[hpr,if_neg (by rw[hok];decide),List.append_nil] at hst
    refine ae G19 ?_
    refine hJ0 _ _ ⟨k0-1,by omega,_,_,_,⟨j+1,by omega,rfl,rfl⟩,bS hbel [0,1,2,3,4] (az (jn @hst (jn @bt (jn @bD (jn @cg @bW)))))⟩
   have h13d:=h13
   have hsq:=h13d
   refine cv (psqr_f _ _ _ (by assumption)) ?_
   have G20:=j2 h13 h13d G12
   refine ae G20 ?_
   refine cv (dc _ _ 0 _) ?_
   refine rgs G20 (fun h17 h17d G21=>?_) (fun h17 h17d G23=>?_)
   ·have hbx:=h17d
    refine ae G21 ?_
    refine cv (dc _ _ 0 _) ?_
    refine rgs G21 (fun h18 h18d _=>?_) (fun h18 h18d G22=>?_)
    ·have hby:=h18d
     have hq1:=aS.1 hbx
     have hq2:=aS.1 hby
     exact absurd (show sqO (g1 (aQ l m (ar r g)) j) (g2 (aQ l m (ar r g)) j)=true by unfold sqO;rw[Bool.and_eq_true,aH,aH];omega) (by rw[hsq];decide)
    have hok:bN W Hh l m (ar r g) (g1 (aQ l m (ar r g)) j,g2 (aQ l m (ar r g)) j)=false:=by unfold bN;rw[hbx,h18d];rfl
    rw[hpr,if_neg (by rw[hok];decide),List.append_nil] at hst
    refine ae G22 ?_
    refine hJ0 _ _ ⟨k0-1,by omega,_,_,_,⟨j+1,by omega,rfl,rfl⟩,bS hbel [0,1,2,3,4] (az (jn @hst (jn @bt (jn @bD (jn @cg @bW)))))⟩
   have hok:bN W Hh l m (ar r g) (g1 (aQ l m (ar r g)) j,g2 (aQ l m (ar r g)) j)=false:=by unfold bN;rw[h17d];rfl
   rw[hpr,if_neg (by rw[hok];decide),List.append_nil] at hst
   refine ae G23 ?_
   refine hJ0 _ _ ⟨k0-1,by omega,_,_,_,⟨j+1,by omega,rfl,rfl⟩,bS hbel [0,1,2,3,4] (az (jn @hst (jn @bt (jn @bD (jn @cg @bW)))))⟩
  obtain rfl:j=(aQ l m (ar r g)).length:=by omega
  have hfinL:((aQ l m (ar r g)).take (aQ l m (ar r g)).length).filter (bN W Hh l m (ar r g))=eC W Hh l m r g:=by rw[List.take_length];exact(if_neg hfar).symm
  refine ae G24 ?_
  refine hQ _ _ (aW (.inl rfl) hbel (x1:=.sl (some (H.length+4,0)) ((((aQ l m (ar r g)).take (aQ l m (ar r g)).length).filter (bN W Hh l m (ar r g))).length) (aT (((aQ l m (ar r g)).take (aQ l m (ar r g)).length).filter (bN W Hh l m (ar r g))).length)) (l2:=[.cells (aL (((aQ l m (ar r g)).take (aQ l m (ar r g)).length).filter (bN W Hh l m (ar r g))).length) 2 (prs (((aQ l m (ar r g)).take (aQ l m (ar r g)).length).filter (bN W Hh l m (ar r g))))]) (.sl (some (H.length,0)) ((((aQ l m (ar r g)).take (aQ l m (ar r g)).length).filter (bN W Hh l m (ar r g))).length) (aT (((aQ l m (ar r g)).take (aQ l m (ar r g)).length).filter (bN W Hh l m (ar r g))).length)) (aZ results108) [] rfl [4] (by decide) ⟨by rw[hfinL],by rw[hfinL]⟩ ?_)
  exact aD
 have h1n:=bnT h1
 have hr1:¬r = -1:=by simpa using h1d
 have hsf1:r-g=ar r g:=(if_neg hr1).symm
 have G25:=jn h1 (jn h1n (jn @aP (jn @aO (jn @hsf1 G1))))
 refine ae G25 ?_
 refine hn3 _ _ (zQF hQ fun Q6 hn6 hQ6 he6=>?_)
 refine rcs G25 (fun h19 h19d G26=>?_) (fun h19 h19d G27=>?_)
 ·have hfinL:eC W Hh l m r g=[]:=if_pos h19d
  refine ae G26 ?_
  refine hQ6 _ _ (aW (.inl rfl) hbel (x1:=.sl none 0 (some 0)) (l2:=[.cells false 2 []]) (.sl (some (H.length,0)) 0 (some 0)) (aZ results108) [.cells false 2 []] rfl [3] (by decide) ⟨by (rw[hfinL];rfl),by (rw[hfinL];rfl)⟩ ?_)
  exact aD
 have hfar:=h19d
 refine ae G27 ?_
 refine hn6 _ _ (zQF hQ fun Q7 hn7 hQ7 he7=>?_)
 refine ae G27 ?_
 refine cvr G27 (kI _ _ l m r (zA2 hb0s hbs) (by assumption)) ?_
 refine hn7 _ _ ?_
 refine mo false try_mixed [[0,1,2,3,4,5,6,7,8,9,10,11,12,13,14,15,16,17],[0,1,2,3,7,8,9,11,4,5,6,10,12,13,14,15,16,17],[0,1,2,3,7,8,9,10,4,5,6,11,12,13,14,15,16,17],[0,1,2,3,7,8,9,10,11,4,5,6,12,13,14,15,16,17]] (by kernel_rfl) (fun F2 H2=>F2=[(4,.ptr (some (H.length,0))),(8,.sl none 0 (some 0)),(9,.ptr (some (H.length+1,0))),(10,.sl (some (H.length+2,0)) ((aq l m).length) (aT (aq l m).length)),(11,.sl (some (H.length+3,0)) ((aQ l m (ar r g)).length) (aT (aQ l m (ar r g)).length))]/\H2=H++[.cells true 0 [iV W,iV Hh,.sl (some (bpp,0)) xs.length cpp],.cells true 0 [iV (ar r g)],.cells (aL (aq l m).length) 9 (r9 (aq l m)),.cells (aL (aQ l m (ar r g)).length) 2 (prs (aQ l m (ar r g)))]) ?_ ?_
 ·refine am ?_ (am ?_ (am ?_ (am ?_ (bP))))<;>intro J hJ
  ·have q20:=jx (l:=aq l m) (by omega)
   have G28:=jn @ec (jn q20 G27)
   refine ak G28 ?_
   refine cx (ee _ _ _ _ _ _ _ (by assumption)) ?_
   have q21:=jy (l:=aq l m) (by omega)
   have G29:=jn q21 G28
   refine ak G29 ?_
   refine cx (eI _ l m _) ?_
   refine ak G29 ?_
   refine aC (hJ _ _ ⟨_,_,_,⟨rfl,rfl⟩,bS hbel [0,2,3,5] (az (jn @bt (jn @bD (jn @cg @bW))))⟩)
  ·have q22:=jx (l:=aq l m) (by omega)
   have G30:=jn @ec (jn q22 G27)
   refine ak G30 ?_
   refine cx (ee _ _ _ _ _ _ _ (by assumption)) ?_
   have q23:=jy (l:=aq l m) (by omega)
   have G31:=jn q23 G30
   refine ak G31 ?_
   refine cx (eI _ l m _) ?_
   refine ak G31 ?_
   refine aC (hJ _ _ ⟨_,_,_,⟨rfl,rfl⟩,bS hbel [0,2,3,5] (az (jn @bt (jn @bD (jn @cg @bW))))⟩)
  ·have q24:=jx (l:=aq l m) (by omega)
   have q25:=jy (l:=aq l m) (by omega)
   have G32:=jn @ec (jn q24 (jn q25 G27))
   refine ak G32 ?_
   refine cx (ee _ _ _ _ _ _ _ (by assumption)) ?_
   refine ak G32 ?_
   refine cx (eI _ l m _) ?_
   refine ak G32 ?_
   refine aC (hJ _ _ ⟨_,_,_,⟨rfl,rfl⟩,bS hbel [0,2,3,5] (az (jn @bt (jn @bD (jn @cg @bW))))⟩)
  have q26:=jx (l:=aq l m) (by omega)
  have q27:=jy (l:=aq l m) (by omega)
  have G33:=jn @ec (jn q26 (jn q27 G27))
  refine ak G33 ?_
  refine cx (ee _ _ _ _ _ _ _ (by assumption)) ?_
  refine ak G33 ?_
  refine cx (eI _ l m _) ?_
  refine ak G33 ?_
  refine aC (hJ _ _ ⟨_,_,_,⟨rfl,rfl⟩,bS hbel [0,2,3,5] (az (jn @bt (jn @bD (jn @cg @bW))))⟩)
 rintro F2 H2 ⟨rfl,rfl⟩
 refine fnF ?_
 have G34:=jn @ec (jn @lA (jn @bm (jn @cJ G27)))
 refine ae G34 ?_
 refine glp (fun k F Hx=>∃j:Nat,j+k=(aQ l m (ar r g)).length/\F=[(4,.ptr (some (H.length,0))),(9,.ptr (some (H.length+1,0))),(10,.sl (some (H.length+2,0)) ((aq l m).length) (aT (aq l m).length)),(13,.sl (some (H.length+4,0)) ((((aQ l m (ar r g)).take j).filter (bN W Hh l m (ar r g))).length) (aT (((aQ l m (ar r g)).take j).filter (bN W Hh l m (ar r g))).length)),(49,.sl (some (H.length+3,0)) ((aQ l m (ar r g)).length) (aT (aQ l m (ar r g)).length)),(50,iV (((aQ l m (ar r g)).length:Nat):Int)),(51,iV (j:Int))]/\Hx=H++[.cells true 0 [iV W,iV Hh,.sl (some (bpp,0)) xs.length cpp],.cells true 0 [iV (ar r g)],.cells (aL (aq l m).length) 9 (r9 (aq l m)),.cells (aL (aQ l m (ar r g)).length) 2 (prs (aQ l m (ar r g))),.cells (aL (((aQ l m (ar r g)).take j).filter (bN W Hh l m (ar r g))).length) 2 (prs (((aQ l m (ar r g)).take j).filter (bN W Hh l m (ar r g))))]) ((aQ l m (ar r g)).length) ?_ ?_
 ·refine⟨_,_,_,⟨0,by omega,rfl,rfl⟩,Abs.byG hbel [.cells false 2 []] rfl [0,1,2,3,4] (by decide) ?_⟩
  exact az (jn @List.take_zero.{0} (jn @List.filter_nil.{0} (jn @bt (jn @bD (jn @cg @bW)))))
 rintro k0 F Hx ⟨j,hm0,rfl,rfl⟩ J0 hJ0
 refine rcs G34 (fun h28 h28d _=>?_) (fun h28 h28d G47=>?_)
 ·have hlt:j<(aQ l m (ar r g)).length:=by omega
  have hpr:=(ct hlt).symm
  have hst:=qQ (p:=(bN W Hh l m (ar r g))) hlt
  have hfln:=flt_len (p:=(bN W Hh l m (ar r g))) (l:=(aQ l m (ar r g))) (j:=j)
  have q29:=cL (l:=aQ l m (ar r g)) (j:=j) (by omega)
  have G35:=jn h28 (jn h28d (jn q29 G34))
  refine ae G35 ?_
  rcases Bool.eq_false_or_eq_true (sqO (g1 (aQ l m (ar r g)) j) (g2 (aQ l m (ar r g)) j)) with h30|h30
  ·have h30d:=h30
   have hsq:=h30d
   refine cv (nL _ _ _ (by assumption)) ?_
   have G36:=j2 h30 h30d G35
   refine ae G36 ?_
   refine cv (dc _ _ 0 _) ?_
   refine rgs G36 (fun h31 h31d G37=>?_) (fun h31 h31d G42=>?_)
   ·have hbx:=h31d
    refine ae G37 ?_
    refine cv (dc _ _ 0 _) ?_
    refine rgs G37 (fun h32 h32d G38=>?_) (fun h32 h32d G41=>?_)
    ·have hby:=h32d
     refine ae G38 ?_
     refine cv (has_r _ _ (aq l m) ⟨_,_,_,by rfl,by (rw[bO];rfl)⟩ (by omega) _ [.ptr (some (H.length+6,0)),.ptr (some (H.length+1,0))] (by kernel_rfl) (by simp[AV.bels,AV.bel]) (fun e=>!psC e (ar r g) (g1 (aQ l m (ar r g)) j,g2 (aQ l m (ar r g)) j)) (fun j' hj'=>kprv1_c _ _ _ _ _ _ _ _ _ _ _ _ _ _ _ _ _ ⟨_,by (rw[bO];rfl)⟩ ⟨_,by (rw[bO];rfl)⟩ (hpair _ hj'))) ?_
     refine rcs G38 (fun h33 h33d _=>?_) (fun h33 h33d G40=>?_)
     ·have hok:bN W Hh l m (ar r g) (g1 (aQ l m (ar r g)) j,g2 (aQ l m (ar r g)) j)=true:=by unfold bN prvB;rw[hbx,hby,List.all_eq_not_any_not,h33d];rfl
      rw[hpr,if_pos hok] at hst
      have G39:=jn h33 (jn h33d (jn @du G38))
      refine ae G39 ?_
      refine hJ0 _ _ ⟨k0-1,by omega,_,_,_,⟨j+1,by omega,rfl,rfl⟩,bS hbel [0,1,2,3,8] (az (jn @hst (jn @bt (jn @bD (jn @cg @bW)))))⟩
     have hok:bN W Hh l m (ar r g) (g1 (aQ l m (ar r g)) j,g2 (aQ l m (ar r g)) j)=false:=by unfold bN prvB;rw[hbx,hby,List.all_eq_not_any_not,h33d];rfl
     rw[hpr,if_neg (by rw[hok];decide),List.append_nil] at hst
     refine ae G40 ?_
     refine hJ0 _ _ ⟨k0-1,by omega,_,_,_,⟨j+1,by omega,rfl,rfl⟩,bS hbel [0,1,2,3,4] (az (jn @hst (jn @bt (jn @bD (jn @cg @bW)))))⟩
    have hok:bN W Hh l m (ar r g) (g1 (aQ l m (ar r g)) j,g2 (aQ l m (ar r g)) j)=false:=by unfold bN;rw[hbx,h32d];rfl
    rw[hpr,if_neg (by rw[hok];decide),List.append_nil] at hst
    refine ae G41 ?_
    refine hJ0 _ _ ⟨k0-1,by omega,_,_,_,⟨j+1,by omega,rfl,rfl⟩,bS hbel [0,1,2,3,4] (az (jn @hst (jn @bt (jn @bD (jn @cg @bW)))))⟩
   have hok:bN W Hh l m (ar r g) (g1 (aQ l m (ar r g)) j,g2 (aQ l m (ar r g)) j)=false:=by unfold bN;rw[h31d];rfl
   rw[hpr,if_neg (by rw[hok];decide),List.append_nil] at hst
   refine ae G42 ?_
   refine hJ0 _ _ ⟨k0-1,by omega,_,_,_,⟨j+1,by omega,rfl,rfl⟩,bS hbel [0,1,2,3,4] (az (jn @hst (jn @bt (jn @bD (jn @cg @bW)))))⟩
  have h30d:=h30
  have hsq:=h30d
  refine cv (psqr_f _ _ _ (by assumption)) ?_
  have G43:=j2 h30 h30d G35
  refine ae G43 ?_
  refine cv (dc _ _ 0 _) ?_
  refine rgs G43 (fun h34 h34d G44=>?_) (fun h34 h34d G46=>?_)
  ·have hbx:=h34d
   refine ae G44 ?_
   refine cv (dc _ _ 0 _) ?_
   refine rgs G44 (fun h35 h35d _=>?_) (fun h35 h35d G45=>?_)
   ·have hby:=h35d
    have hq1:=aS.1 hbx
    have hq2:=aS.1 hby
    exact absurd (show sqO (g1 (aQ l m (ar r g)) j) (g2 (aQ l m (ar r g)) j)=true by unfold sqO;rw[Bool.and_eq_true,aH,aH];omega) (by rw[hsq];decide)
   have hok:bN W Hh l m (ar r g) (g1 (aQ l m (ar r g)) j,g2 (aQ l m (ar r g)) j)=false:=by unfold bN;rw[hbx,h35d];rfl
   rw[hpr,if_neg (by rw[hok];decide),List.append_nil] at hst
   refine ae G45 ?_
   refine hJ0 _ _ ⟨k0-1,by omega,_,_,_,⟨j+1,by omega,rfl,rfl⟩,bS hbel [0,1,2,3,4] (az (jn @hst (jn @bt (jn @bD (jn @cg @bW)))))⟩
  have hok:bN W Hh l m (ar r g) (g1 (aQ l m (ar r g)) j,g2 (aQ l m (ar r g)) j)=false:=by unfold bN;rw[h34d];rfl
  rw[hpr,if_neg (by rw[hok];decide),List.append_nil] at hst
  refine ae G46 ?_
  refine hJ0 _ _ ⟨k0-1,by omega,_,_,_,⟨j+1,by omega,rfl,rfl⟩,bS hbel [0,1,2,3,4] (az (jn @hst (jn @bt (jn @bD (jn @cg @bW)))))⟩
 obtain rfl:j=(aQ l m (ar r g)).length:=by omega
 have hfinL:((aQ l m (ar r g)).take (aQ l m (ar r g)).length).filter (bN W Hh l m (ar r g))=eC W Hh l m r g:=by rw[List.take_length];exact(if_neg hfar).symm
 refine ae G47 ?_
 refine hQ _ _ (aW (.inl rfl) hbel (x1:=.sl (some (H.length+4,0)) ((((aQ l m (ar r g)).take (aQ l m (ar r g)).length).filter (bN W Hh l m (ar r g))).length) (aT (((aQ l m (ar r g)).take (aQ l m (ar r g)).length).filter (bN W Hh l m (ar r g))).length)) (l2:=[.cells (aL (((aQ l m (ar r g)).take (aQ l m (ar r g)).length).filter (bN W Hh l m (ar r g))).length) 2 (prs (((aQ l m (ar r g)).take (aQ l m (ar r g)).length).filter (bN W Hh l m (ar r g))))]) (.sl (some (H.length,0)) ((((aQ l m (ar r g)).take (aQ l m (ar r g)).length).filter (bN W Hh l m (ar r g))).length) (aT (((aQ l m (ar r g)).take (aQ l m (ar r g)).length).filter (bN W Hh l m (ar r g))).length)) (aZ results108) [] rfl [4] (by decide) ⟨by rw[hfinL],by rw[hfinL]⟩ ?_)
 exact aD
open Go.Sort
set_option maxRecDepth 100000 in
theorem sortc_f {α:Type} [Inhabited α] (val:α->Int×Int) (cf:α->α->Int) (hO:SWO (ltOf cf)) (g:FuncId) (eg:∀args w,(callFunc g args).run Tryz.prog w=.ok (.enter g args) w)
  (hcmp:∀(x y:α) (W:World),Calls Tryz.prog g #[.agg #[.int .i64 (val x).1,.int .i64 (val x).2],.agg #[.int .i64 (val y).1,.int .i64 (val y).2]] W fun e w'=>e=.returned (.int .i64 (cf x y))/\∃q os',w'=grow (W.drewN q) os')
  {H:aa} {b n:Nat} {cap:Option Nat} {zs:List α} (hg:H[b]? = some (.cells true 2 (prs (zs.map val)))) (hn:n=zs.length) (h0:0<n) (h1:n<=1000000) :
  ACalls Tryz.prog 109 [.sl (some (b,0)) n cap,.fn g []] H
   (fun v H'=>v=.tup []/\∃ys:List α,ys.Perm zs/\ys.Pairwise (fun x y=>ltOf cf y x=false)/\H'=H.set b (.cells true 2 (prs (ys.map val)))):=fun E w vs hE hv=>by
 obtain⟨v1,l1,rfl,k1,h1'⟩:=fC hv
 obtain⟨v2,l2,rfl,k2,h2'⟩:=fC h1'
 obtain rfl:=kl h2'
 have hf:v2=.func (.func g) #[] #[]:=by
  cases k2 with
  | fn _ _ cs hl _ =>
   have:cs=#[]:=by
    have:cs.size=0:=hl.symm
    exact Array.eq_empty_of_size_eq_zero this
   rw[this]
 subst hf
 cases k1 with
 |nils _ _ _ _=>exact absurd h0 (Nat.lt_irrefl 0)
 |sl _ _ _ _ c a hb h2 h3 h4 h5 h6 =>
 have hc:c≠0:=by omega
 obtain rfl:=h5.resolve_left hc
 obtain⟨m1,m2,-,-⟩:=hE.blk b _ hg
 obtain⟨o1,o2,o3,o4,o5⟩:=m2 rfl
 have hpl:(prs (zs.map val)).length=zs.length*2:=by rw[bm];simp
 have hH:HoldsK (encP val) 2 w (E.loc b).blk (E.loc b).off zs.toArray:=by
  show Holds id w _ _ (flatK (encP val) 2 zs.toArray)
  rw[pE]
  intro j hj
  have hj':j<zs.length*2:=by simpa [my] using hj
  refine⟨?_,(o5 j (by omega)).2⟩
  have hx:(prs (zs.map val))[j]? = some (prs (zs.map val))[j]:=List.getElem?_eq_getElem (by omega)
  obtain⟨-,v,hv,hr⟩:=m1 j _ hx
  rw[hv]
  obtain⟨u,hu,hru⟩:=(mK (E:=E) (zs.map val)).get hx
  have:∀(k:Nat) (l:List (Int×Int)) (y:AV) (v u:Value),(prs l)[k]? = some y->Rel E y v->(fu l)[k]? = some u->v=u:=by
   intro k l
   induction l generalizing k with
   |nil=>intro y v u h;simp[prs] at h
   | cons p l ih =>
    intro y v u h1 h2 h3
    match k with
    |0=>simp[cT,fu] at h1 h3;subst h1 h3;exact jK h2
    |1=>simp[cT,fu] at h1 h3;subst h1 h3;exact jK h2
    | k+2 =>
     refine ih k y v u (by simpa [cT] using h1) h2 ?_
     simpa [fu] using h3
  have e:=this j _ _ v u hx hr hu
  subst e
  simp[List.getElem!_eq_getElem?_getD,hu]
 have hcon:=AnyQ.slices_SortFunc Tryz.sort109 2 Tryz.isAgg133 Tryz.sizeOf133 (encP val) (fun _=>rfl) (fun x v hv=>by simp[encP] at hv;rcases hv with rfl|rfl<;>rfl) cf hO g #[] (E.loc b).blk (E.loc b).off c zs.toArray w eg
  (fun _ _ _ _ x y=>by simpa [encP] using hcmp x y _) hH o2 (by simp;omega)
 change Calls Tryz.prog 109 _ _ _ at hcon
 have hsz:zs.toArray.size=n:=by simp[hn]
 rw[hsz] at hcon
 refine hcon.mono fun e w' ⟨he,d',q,os,hp,hs,hw⟩=>?_
 subst hw
 obtain⟨p1,-,p3⟩:=hp
 have hperm:d'.toList.Perm zs:=by
  have a1:d'.extract 0 n=d':=by rw[<-hsz,<-p1];simp
  have a2:zs.toArray.extract 0 n=zs.toArray:=by rw[<-hsz];simp
  rw[a1,a2] at p3
  simpa using p3
 have hl:(d'.toList.map val).length=(zs.map val).length:=by simp[hperm.length_eq]
 refine⟨E,_,_,.tup [],he,⟨rfl,d'.toList,hperm,?_,rfl⟩,.refl E,.tup [] #[] rfl (fun i x v h=>by simp at h),?_⟩
 ·rw[List.pairwise_iff_getElem]
  intro i j hi hj hij
  have:=hs i j (Nat.zero_le _) hij (by have:=hperm.length_eq;simp at hj this;omega)
  simp at hi hj
  simpa [hi,hj] using this
 have hd:d'=d'.toList.toArray:=by simp
 have e1:sortWorldK (encP val) 2 w (E.loc b).blk (E.loc b).off q d' os=grow ((w.drewN q).setCells (E.loc b).blk (E.loc b).off (fu (d'.toList.map val))) os:=by
  unfold sortWorldK
  congr 1
  show putRow id (Sort.ahead w q) _ _ (flatK (encP val) 2 d')=_
  rw[hd,pE]
  have:=Lib.putRow_eq_setCells id w (E.loc b).blk (E.loc b).off (flatK (encP val) 2 zs.toArray) (fu (d'.toList.map val)) q hH (by rw[my,hl];simp)
  simpa using this
 rw[e1]
 exact hE.putP hg hl os
theorem or_h (a b:Int)(w:World)(blk off c:Nat)(h0:w.cell? ⟨blk,off,none⟩=some (.int .i64 a))(h1:w.cell? ⟨blk,off+1,none⟩=some (.int .i64 b)):
  Calls Tryz.prog 154 #[.slice (some ⟨blk,off,none⟩) 2 c] w fun e w'=>e=.returned (.int .i64 (if a=0 then b else a))/\w'=w:=by
 have g0:w.cell? ⟨blk,off+0,none⟩=some (.int .i64 a):=h0
 go_enter Tryz.func154,Tryz.ntmps154
 go_wp2
 go_loop [8] (fun i=>∃k:Nat,k<=2/\i=.int .i64 k/\Hid ((1<=k->a=0)/\(2<=k->b=0))) (fun i=>2-(intOf i).toNat)
 case atStart=>exact⟨0,by omega,rfl,⟨fun h=>by omega,fun h=>by omega⟩⟩
 case round =>
  obtain⟨k,hk,rfl,HK⟩:=hrel
  rcases (by omega:k=0\/k=1\/k=2) with rfl|rfl|rfl
  ·by_cases ha:a=0
   ·go_wp2
    go_round
    case rel=>exact⟨1,by omega,by go_num,⟨fun _=>ha,fun h=>by omega⟩⟩
    case measure=>simp[intOf]
   go_wp2
   go_ret
   exact⟨iN (by first|rfl|(rw[if_neg ha])),rfl⟩
  ·have ha:=HK.out.1 (by omega)
   by_cases hb:b=0
   ·go_wp2
    go_round
    case rel=>exact⟨2,by omega,by go_num,⟨fun _=>ha,fun h=>hb⟩⟩
    case measure=>simp[intOf]
   go_wp2
   go_ret
   exact⟨iN (by first|rfl|(rw[if_pos ha])),rfl⟩
  have ha:=HK.out.1 (by omega)
  have hb:=HK.out.2 (by omega)
  go_wp2
  go_ret
  exact⟨iN (by first|rfl|(rw[if_pos ha,hb])),rfl⟩
theorem lD (w:World)(cs:Array Value)(t B j:Nat)(hB:B=w.heap.size):(w.alloc (.cells cs t)).cell? ⟨B,j,none⟩=cs[j]? :=by
 subst hB
 unfold World.cell?
 have:(w.alloc (.cells cs t)).heap[w.heap.size]? = some (.cells cs t):=by
  show (w.heap.push _)[w.heap.size]? = _
  rw[Array.getElem?_push,if_pos rfl]
 rw[this];rfl
theorem nR (w:World)(cs:Array Value)(t B j:Nat)(hB:B=w.heap.size):(w.alloc (.cells cs t)).drew.cell? ⟨B,j,none⟩=cs[j]? :=lD w cs t B j hB
def cfC (a b:Pt):Int:=if iu a.2 b.2=0 then iu a.1 b.1 else iu a.2 b.2
set_option maxHeartbeats 20000000 in
theorem before_h (x y:Pt)(W:World):Calls Tryz.prog 110 #[.agg #[.int .i64 x.1,.int .i64 x.2],.agg #[.int .i64 y.1,.int .i64 y.2]] W fun e w'=>e=.returned (.int .i64 (cfC x y))/\∃q os',w'=grow (W.drewN q) os':=by
 have hcon:=compare_h
 have hcon2:∀(w:World) (blk off c:Nat),w.cell? ⟨blk,off,none⟩=some (.int .i64 (iu x.2 y.2))->w.cell? ⟨blk,off+1,none⟩=some (.int .i64 (iu x.1 y.1)) ->
  Calls Tryz.prog 154 #[.slice (some ⟨blk,off,none⟩) 2 c] w fun e w'=>e=.returned (.int .i64 (cfC x y))/\w'=w:=by
  intro w blk off c h0 h1
  have k:=or_h (iu x.2 y.2) (iu x.1 y.1) w blk off c h0 h1
  unfold cfC
  exact k
 go_enter Tryz.func110,Tryz.ntmps110
 go_wp2_with (first|(go_at_call 155;refine(hcon _ _ _).mono ?_;rintro e w' ⟨rfl,rfl⟩)|fail)
 go_region_held3 (fun w'=>w'.cell? ⟨W.heap.size,0,none⟩=some (.int .i64 x.1)/\w'.cell? ⟨W.heap.size,1,none⟩=some (.int .i64 x.2)/\w'.cell? ⟨W.heap.size+1,0,none⟩=some (.int .i64 y.1)/\w'.cell? ⟨W.heap.size+1,1,none⟩=some (.int .i64 y.2)) (go_keep)
  (first
   |(go_at_call 155;refine(hcon _ _ _).mono ?_;rintro e w' ⟨rfl,rfl⟩)
   | (go_at_call 154;refine(hcon2 _ _ _ _ ?h1 ?h2).mono ?_;case h1=>first|exact(lD _ _ _ _ _ (by simp)).trans rfl|exact(nR _ _ _ _ _ (by simp)).trans rfl
      case h2=>first|exact(lD _ _ _ _ _ (by simp)).trans rfl|exact(nR _ _ _ _ _ (by simp)).trans rfl
      rintro e w' ⟨rfl,rfl⟩))
 go_wp2
 go_ret
 exact⟨rfl,1,_,by rw[alloc_eq_grow,alloc_eq_grow,alloc_eq_grow,grow_grow,grow_grow];rfl⟩
theorem mc (x y:Pt):ltOf cfC x y=decide (dd x y):=by
 rw[Bool.eq_iff_iff]
 unfold ltOf
 rw[decide_eq_true_eq,decide_eq_true_eq]
 unfold cfC iu dd
 repeat' split
 all_goals omega
theorem swoC:SWO (ltOf cfC) where
 irrefl x:=by rw[mc,decide_eq_false_iff_not];exact befP_irr
 trans x y z h1 h2:=by
  rw[mc,decide_eq_true_eq] at *
  exact iM h1 h2
 ntrans x y z h1 h2:=by
  rw[mc,decide_eq_false_iff_not] at *
  unfold dd at *;omega
set_option maxRecDepth 100000 in
theorem sortc_c (H:aa)(b:Nat)(cap:Option Nat)(l:List Pt)(hb:H[b]? = some (.cells true 2 (prs l)))(h0:0<l.length)(h1:l.length<=1000000):
  ACalls Tryz.prog 109 [.sl (some (b,0)) l.length cap,.fn 110 []] H (fun v H'=>v=.tup []/\H'=H.set b (.cells true 2 (prs (dG l)))):=by
 have eg:∀args w,(callFunc 110 args).run Tryz.prog w=.ok (.enter 110 args) w:=enters_of Tryz.func110 (by kernel_rfl) rfl
 refine(sortc_f (α:=Pt) id cfC swoC 110 eg (fun x y W=>before_h x y W) (zs:=l) (by rw[List.map_id];exact hb) rfl h0 h1).mono ?_
 rintro v H' ⟨rfl,ys,hp,hs,rfl⟩
 have e:ys=dG l:=by
  refine qW (hp.trans (fJ l).symm) (hs.imp fun {x y} h=>?_) (jE l)
  rw[mc,decide_eq_false_iff_not] at h
  rcases leC_tot x y with k|k
  ·exact k
  unfold leC at k ⊢
  rcases k with k|k
  ·exact .inl k.symm
  exact absurd k h
 rw[List.map_id,e]
 exact⟨rfl,rfl⟩
theorem pR {l:List (Int×Int)}{i m:Nat}(h:i+m<l.length):((prs l).drop (i*2+m*2)).take 2=[.int .i64 (g1 l (i+m)),.int .i64 (g2 l (i+m))]:=by
 rw[show i*2+m*2=(i+m)*2 by omega];exact cL h
def NoEq (l:List (Int×Int)) (i:Nat):Prop:=∀j:Nat,1<=j->(h:j<l.length)->j<i->l[j-1]'(by omega)≠l[j]
theorem na {l:List (Int×Int)}:∀{i:Nat},i<=l.length->NoEq l i->bR (l.take i)=l.take i
 |0,_,_=>rfl
 |1,h,_=>cpt_1 (by rw[List.length_take];omega)
 | i+2,h,k=>by
  rw[mU (by omega) (by omega),na (i:=i+1) (by omega) (fun j h1 h2 h3=>k j h1 h2 (by omega)),if_neg (k (i+1) (by omega) (by omega) (by omega)),<-List.take_succ_eq_append_getElem]
theorem padL_id (l:List (Int×Int)):ej l.length l=l:=by simp[ej]
set_option maxRecDepth 100000 in
theorem cpt_cell (H:aa)(b:Nat)(cap:Option Nat)(l:List (Int×Int))(hb:H[b]? = some (.cells (aL l.length) 2 (prs l)))(hl:l.length<=1000000000):
  ACalls prog 111 [.sl (some (b,0)) l.length cap] H (fun v H'=>v=.sl (some (b,0)) (bR l).length none/\H'=H.set b (.cells (aL l.length) 2 (prs (ej l.length (bR l))))):=by
 have hbl:=getElem?_lt hb
 have hset:∀X L,(H.set b X++L)[b]? = some X:=fun X L=>by rw[List.getElem?_append_left (by simpa using hbl),List.getElem?_set_self hbl]
 have hset0:∀X,(H.set b X)[b]? = some X:=fun X=>List.getElem?_set_self hbl
 have hself:H.set b (.cells (aL l.length) 2 (prs l))=H:=by
  refine List.ext_getElem? fun i=>?_
  rw[List.getElem?_set]
  split
  ·rename_i e;subst e;first|exact hb.symm|(rw[if_pos hbl];exact hb.symm)
  rfl
 have hend:bR l=l->H.set b (.cells (aL l.length) 2 (prs (ej l.length (bR l))))=H:=fun e=>by rw[e,padL_id,hself]
 (refine cB try_mixed func111 true _ rfl (Nat.le_of_ble_eq_true (by kernel_rfl)) (by kernel_rfl) ?_;intro hbel Q hQ hQ' c hc;unfold Tryz.f111 at hc;simp only[Option.some.injEq] at hc;subst hc;clear hQ')
 simp -implicitDefEqProofs (disch:=omega) only [simprocAttr,aJ,aK,Function.comp_apply,one1,lenV,aj,av,aA,aop,AV.ofValue,AV.ofCell,AV.cells,AV.flat,AV.one,arep,aU,ap,aG]
 refine cO (fun h1=>?_) (fun h1=>?_)
 ·have h1d:=of_decide_eq_true h1
  have e:=cpt_1 (l:=l) (by omega)
  simp -implicitDefEqProofs (disch:=omega) only [h1,simprocAttr,aJ,aK,Function.comp_apply,one1,lenV,aj,av,aA,aop,AV.ofValue,AV.ofCell,AV.cells,AV.flat,AV.one,arep,aU,ap,aG]
  exact hQ _ _ (lN (.inl rfl) hbel (x1:=.sl (some (b,0)) l.length cap) (l2:=[]) (.sl (some (b,0)) (bR l).length none) (aZ results111) [] rfl [] (by decide) ⟨rfl,by rw[List.append_nil,hend e]⟩ (by rw[e];exact aD))
 have h1d:=of_decide_eq_false h1
 have hown:aL l.length=true:=ex (by omega)
 rw[hown] at hb hself
 simp -implicitDefEqProofs (disch:=omega) only [h1,simprocAttr,aJ,aK,Function.comp_apply,one1,lenV,aj,av,aA,aop,AV.ofValue,AV.ofCell,AV.cells,AV.flat,AV.one,arep,aU,ap,aG]
 refine glp (fun k F Hx=>∃i:Nat,i+k=l.length/\1<=i/\NoEq l i/\F=[(0,.sl (some (b,0)) l.length cap),(3,.int .i64 (i:Int))]/\H=Hx) (l.length-1) ?_ ?_
 ·refine⟨_,_,_,⟨1,by omega,by omega,fun j h2 h3 h4=>by omega,rfl,rfl⟩,Abs.by0 hbel ?_⟩
  exact aD
 rintro k F Hx ⟨i,hik,hi1,hne,rfl,rfl⟩ J hJ
 by_cases hi:i<l.length
 ·have hii:(i:Int)<(l.length:Int):=by omega
  have q1:=cL (l:=l) (j:=i) hi
  have q2:=cL (l:=l) (j:=i-1) (by omega)
  have hsub:((i:Int)-1).toNat=i-1:=by omega
  simp -implicitDefEqProofs (disch:=omega) only [hii,hb,q1,q2,hsub,bm,cJ,simprocAttr,aJ,aK,Function.comp_apply,one1,lenV,aj,av,aA,aop,AV.ofValue,AV.ofCell,AV.cells,AV.flat,AV.one,arep,aU,ap,aG]
  repeat refine And.intro (by omega) ?_
  refine cO (fun h2=>?_) (fun h2=>?_)
  ·have heq:l[i-1]'(by omega)=l[i]:=by
    simp only[Bool.and_eq_true,beq_iff_eq] at h2
    rw[<-ct hi,<-ct (show i-1<l.length by omega),h2.1,h2.2]
   have hc0:bR (l.take (i+1))=l.take i:=by rw[mU hi1 hi,if_pos heq,List.append_nil,na (by omega) hne]
   have hcl:(bR (l.take (i+1))).length=i:=by rw[hc0,List.length_take];omega
   have hsl:((i:Int)-0).toNat=i:=by omega
   simp -implicitDefEqProofs (disch:=omega) only [h2,hb,bm,cJ,simprocAttr,aJ,aK,Function.comp_apply,one1,lenV,aj,av,aA,aop,AV.ofValue,AV.ofCell,AV.cells,AV.flat,AV.one,arep,aU,ap,aG]
   repeat refine And.intro (by omega) ?_
   refine glp (fun k F Hx=>∃(j c:Nat) (X:List (Int×Int)),j+k=l.length/\i+1<=j/\c=(bR (l.take j)).length/\c<j/\X.length=l.length/\X.take c=bR (l.take j)/\X.drop (j-1)=l.drop (j-1)/\F=[(0,.sl (some (b,0)) l.length cap),(3,.int .i64 (c:Int)),(4,.sl (some (b,i*2)) (l.length-i) none),(5,.int .i64 ((j-i:Nat):Int))]/\Hx=H.set b (.cells true 2 (prs X))) (l.length-(i+1)) ?_ ?_
   ·refine⟨_,_,_,⟨i+1,i,l,by omega,by omega,hcl.symm,by omega,rfl,hc0.symm,rfl,rfl,rfl⟩,Abs.by0e hself hbel ?_⟩
    have hi1':((i+1-i:Nat):Int)=1:=by omega
    exact aN @hi1'
   rintro k F Hx ⟨j,c,X,hjk,hij,hc,hcj,hXl,hXt,hXd,rfl,rfl⟩ J2 hJ2
   obtain⟨G,hG⟩:∃G,G=H.set b (.cells true 2 (prs X)):=⟨_,rfl⟩
   have hGl:G.length=H.length:=by rw[hG,List.length_set]
   have hG1:∀L,(G++L)[b]? = some (.cells true 2 (prs X)):=fun L=>by rw[hG];exact hset _ _
   have hG0:G[b]? = some (.cells true 2 (prs X)):=by rw[hG];exact hset0 _
   have hbG:b<G.length:=by omega
   have hGs0:∀Y,G.set b Y=H.set b Y:=fun Y=>by rw[hG,List.set_set]
   have hGs:∀Y L,(G++L).set b Y=H.set b Y++L:=fun Y L=>by rw[List.set_append_left _ _ hbG,hG,List.set_set]
   rw[<-hG]
   have hbelG:HBel H.length G:=by rw[hG];exact HBel.put hbel b ei
   by_cases hj:j<l.length
   ·have hjj:((j-i:Nat):Int)<((l.length-i:Nat):Int):=by omega
    have hXj:∀q,j-1<=q->(hq:q<l.length)->X[q]'(by omega)=l[q]:=fun q h1 hq=>by
     have:=congrArg (fun m=>m[q-(j-1)]?) hXd
     simp only[List.getElem?_drop] at this
     rw[show j-1+(q-(j-1))=q by omega,List.getElem?_eq_getElem (by omega),List.getElem?_eq_getElem hq] at this
     exact Option.some.inj this
    have q3:=pR (l:=X) (i:=i) (m:=j-i) (by omega)
    have q4:=pR (l:=X) (i:=i) (m:=j-i-1) (by omega)
    have hsub2:(((j-i:Nat):Int)-1).toNat=j-i-1:=by omega
    rw[show i+(j-i)=j by omega] at q3
    rw[show i+(j-i-1)=j-1 by omega] at q4
    simp -implicitDefEqProofs (disch:=omega) only [hjj,hG1,hG0,q3,q4,hsub2,bm,cJ,simprocAttr,aJ,aK,Function.comp_apply,one1,lenV,aj,av,aA,aop,AV.ofValue,AV.ofCell,AV.cells,AV.flat,AV.one,arep,aU,ap,aG]
    repeat refine And.intro (by omega) ?_
    have hst:=mU (l:=l) (j:=j) (by omega) hj
    have hcX:c<X.length:=by omega
    have hjj2:((j+1-i:Nat):Int)=((j-i:Nat):Int)+1:=by omega
    have hpj:=ct (l:=X) (j:=j) (by omega)
    have hpj1:=ct (l:=X) (j:=j-1) (by omega)
    have hp2:=qJ (a:=g1 X j) (b:=g2 X j) hcX
    have hXd2:X.drop j=l.drop j:=by
     have:=congrArg (fun m=>m.drop 1) hXd
     simp only[List.drop_drop] at this
     rwa [show j-1+1=j by omega] at this
    refine cO (fun h3=>?_) (fun h3=>?_)
    ·have hdif:¬l[j-1]'(by omega)=l[j]:=fun e=>by
      rw[<-hXj (j-1) (by omega) (by omega),<-hXj j (by omega) hj,<-hpj,<-hpj1] at e
      simp only[Prod.mk.injEq] at e
      rw[e.1,e.2] at h3
      simp at h3
     rw[if_neg hdif] at hst
     have hl5:(bR (l.take (j+1))).length=c+1:=by rw[hst,List.length_append,hc];rfl
     simp -implicitDefEqProofs (disch:=omega) only [h3,hG1,hG0,hGs,hGs0,q3,hp2,bm,cJ,simprocAttr,aJ,aK,Function.comp_apply,one1,lenV,aj,av,aA,aop,AV.ofValue,AV.ofCell,AV.cells,AV.flat,AV.one,arep,aU,ap,aG]
     repeat refine And.intro (by omega) ?_
     refine hJ2 _ _ ⟨k-1,by omega,_,_,_,⟨j+1,c+1,X.set c (g1 X j,g2 X j),by omega,by omega,hl5.symm,by omega,by rw[List.length_set];exact hXl,?_,?_,rfl,rfl⟩,Abs.byS0 (by rw[List.length_set]) (HBel.put hbel b ei) ?_⟩
     ·rw[hst,List.take_succ_eq_append_getElem (by rw[List.length_set];exact hcX),List.getElem_set_self,List.take_set_of_le (Nat.le_refl _),hXt,hpj,hXj j (by omega) hj]
     ·rw[show j+1-1=j by omega,List.drop_set_of_lt (by omega),hXd2]
     exact aN (jn @hjj2 (jn @Int.natCast_add @Int.natCast_one))
    have heq2:l[j-1]'(by omega)=l[j]:=by
     rw[<-hXj (j-1) (by omega) (by omega),<-hXj j (by omega) hj,<-hpj,<-hpj1]
     simp only[Bool.not_eq_false',Bool.and_eq_true,beq_iff_eq] at h3
     rw[h3.1,h3.2]
    rw[if_pos heq2,List.append_nil] at hst
    simp -implicitDefEqProofs (disch:=omega) only [h3,simprocAttr,aJ,aK,Function.comp_apply,one1,lenV,aj,av,aA,aop,AV.ofValue,AV.ofCell,AV.cells,AV.flat,AV.one,arep,aU,ap,aG]
    refine hJ2 _ _ ⟨k-1,by omega,_,_,_,⟨j+1,c,X,by omega,by omega,by rw[hst];exact hc,by omega,hXl,by rw[hst];exact hXt,by rw[show j+1-1=j by omega];exact hXd2,rfl,hG⟩,Abs.byS0 hGl hbelG ?_⟩
    exact aN (jn @hjj2 (jn @Int.natCast_add @Int.natCast_one))
   have hjj:¬((j-i:Nat):Int)<((l.length-i:Nat):Int):=by omega
   have hrep:=(prs_rep (m:=l.length-c)).symm
   have hne0:(l.length-c==0)=false:=beq_eq_false_iff_ne.2 (by omega)
   have hspl:=nC (l:=X) (ys:=List.replicate (l.length-c) (0,0)) (i:=c) (by rw[List.length_replicate];omega)
   rw[hXt] at hspl
   simp -implicitDefEqProofs (disch:=omega) only [hjj,hG1,hG0,hrep,hne0,hspl,hGs0,bm,cJ,List.length_replicate,hset0,simprocAttr,aJ,aK,Function.comp_apply,one1,lenV,aj,av,aA,aop,AV.ofValue,AV.ofCell,AV.cells,AV.flat,AV.one,arep,aU,ap,aG]
   refine⟨by omega,⟨by omega,.inl (Nat.le_refl _)⟩,by omega,by omega,⟨by omega,.inl (by omega)⟩,?_⟩
   obtain rfl:j=l.length:=by omega
   rw[List.take_length] at hc ⊢
   refine hQ _ _ (end_byS (by rw[List.length_set]) (.inl rfl) (HBel.put hbel b ei) (x1:=.sl (some (b,0)) (c-0) (Option.map (fun x=>x-0) cap)) (.sl (some (b,0)) (bR l).length none) (aZ results111) ⟨rfl,by rw[hown,hc];rfl⟩ ?_)
   exact aN (jn @hc @Nat.sub_zero)
  have hdif:¬l[i-1]'(by omega)=l[i]:=fun e=>by
   rw[<-ct hi,<-ct (show i-1<l.length by omega)] at e
   simp only[Prod.mk.injEq] at e
   rw[e.1,e.2] at h2
   simp at h2
  simp -implicitDefEqProofs (disch:=omega) only [h2,simprocAttr,aJ,aK,Function.comp_apply,one1,lenV,aj,av,aA,aop,AV.ofValue,AV.ofCell,AV.cells,AV.flat,AV.one,arep,aU,ap,aG]
  refine hJ _ _ ⟨k-1,by omega,_,_,_,⟨i+1,by omega,by omega,fun j h3 h4 h5=>by
   rcases Nat.lt_or_ge j i with h6|h6
   ·exact hne j h3 h4 h6
   obtain rfl:j=i:=by omega
   exact hdif,rfl,rfl⟩,Abs.by0 hbel ?_⟩
  exact aN (jn @Int.natCast_add @Int.natCast_one)
 have hii:¬(i:Int)<(l.length:Int):=by omega
 obtain rfl:i=l.length:=by omega
 have e:bR l=l:=by have:=na (Nat.le_refl _) hne;rwa [List.take_length] at this
 simp -implicitDefEqProofs (disch:=omega) only [hii,simprocAttr,aJ,aK,Function.comp_apply,one1,lenV,aj,av,aA,aop,AV.ofValue,AV.ofCell,AV.cells,AV.flat,AV.one,arep,aU,ap,aG]
 exact hQ _ _ (lN (.inl rfl) hbel (x1:=.sl (some (b,0)) l.length cap) (l2:=[]) (.sl (some (b,0)) (bR l).length none) (aZ results111) [] rfl [] (by decide) ⟨rfl,by rw[List.append_nil,hend e]⟩ (by rw[e];exact aD))
theorem bits0_c (H:aa):zC 153 [.int .u64 0] H (iV 0) H:=by
 have h:=ext_ok 153 [.int .u64 0] H (iV 0) none (by kernel_rfl)
 exact h.2.2
theorem ins0_c (H:aa)(s:AV)(g:FuncId)(hs:Sl H 2 s 0 []):zC 177 [s,iV 0,iV 0,.fn g []] H (.tup []) H:=by
 obtain⟨bs,os,cs,rfl,hbs,hbls,hb0s⟩:=zA1 hs
 refine AcN true func177 ?_;intro hbel Q hQ
 have G1:=jn @hbs @hb0s
 refine ae G1 ?_
 refine glp (fun k F Hx=>∃z:Unit,k=0/\F=[(0,.sl (some (bs,0)) 0 cs),(1,iV 0),(2,iV 0),(3,.fn g []),(8,iV 1)]/\H=Hx) (0) ?_ ?_
 ·refine⟨_,_,_,⟨(),by omega,rfl,rfl⟩,Abs.by0 hbel ?_⟩
  exact aD
 rintro k0 F Hx ⟨z,hm0,rfl,rfl⟩ J0 hJ0
 refine ae G1 ?_
 exact hQ _ _ (eO (by exact .inr rfl) hbel (x:=.tup []) (aZ results177) rfl ⟨rfl,rfl⟩)
theorem pdq0_c (H:aa)(s:AV)(m:Int)(g:FuncId)(hs:Sl H 2 s 0 []):zC 152 [s,iV 0,iV 0,iV m,.fn g []] H (.tup []) H:=by
 obtain⟨bs,os,cs,rfl,hbs,hbls,hb0s⟩:=zA1 hs
 refine AcT true func152 ?_;intro hbel Q hQ
 have G2:=jn @hbs @hb0s
 refine ae G2 ?_
 refine glp (fun k F Hx=>∃z:Unit,k=0/\F=[(0,.sl (some (bs,0)) 0 cs),(1,iV 0),(2,iV 0),(3,iV m),(4,.fn g []),(10,.bool true),(11,.bool true)]/\H=Hx) (0) ?_ ?_
 ·refine⟨_,_,_,⟨(),by omega,rfl,rfl⟩,Abs.by0 hbel ?_⟩
  exact aD
 rintro k0 F Hx ⟨z,hm0,rfl,rfl⟩ J0 hJ0
 refine ae G2 ?_
 refine cvr G2 (ins0_c _ _ g (zA2 hb0s hbs)) ?_
 exact eQ hQ hbel (.tup []) results152 ⟨rfl,rfl⟩
theorem srt0_c (H:aa)(s:AV)(g:FuncId)(hs:Sl H 2 s 0 []):zC 109 [s,.fn g []] H (.tup []) H:=by
 obtain⟨bs,os,cs,rfl,hbs,hbls,hb0s⟩:=zA1 hs
 refine AcN true func109 ?_;intro hbel Q hQ
 have G3:=jn @hbs @hb0s
 refine ae G3 ?_
 refine cvr G3 (bits0_c _) ?_
 refine cvr G3 (pdq0_c _ _ 0 g (zA2 hb0s hbs)) ?_
 exact hQ _ _ (eO (by exact .inr rfl) hbel (x:=.tup []) (aZ results109) rfl ⟨rfl,rfl⟩)
end Go.Proofs.YtkkhdehdaaealaaGreat
