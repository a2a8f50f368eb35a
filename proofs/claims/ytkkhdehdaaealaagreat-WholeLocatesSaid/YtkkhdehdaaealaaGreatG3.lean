/- Parts of the proof: walks and plain facts. Conditions: as each theorem states. -/
import Derived.Test.YtkkhdehdaaealaaGreatG2
namespace Go.Proofs.YtkkhdehdaaealaaGreat
set_option linter.unusedSimpArgs false
set_option linter.unusedVariables false
open Go.RowKit Go.Proofs.Tryz
section
variable (H:aa)
theorem psize_c (x:Int):ACalls prog 53 [.int .i64 x] H (fun v H'=>v=.bool (decide (1<=x)&&decide (x<=64))/\H'=H):=by
 (refine cB try_mixed func53 true _ rfl (Nat.le_of_ble_eq_true (by kernel_rfl)) (by kernel_rfl) ?_;intro hbel Q hQ hQ' c hc;unfold Tryz.f53 at hc;simp only[Option.some.injEq] at hc;subst hc;clear hQ')
 by_cases h1:1<=x
 ·simp -implicitDefEqProofs (disch:=omega) only [h1,simprocAttr,aJ,aK,Function.comp_apply,one1,lenV,aj,av,aA,aop,AV.ofValue,AV.ofCell,AV.cells,AV.flat,AV.one,arep,aU,ap,aG]
  exact hQ _ _ (eO (.inl rfl) hbel (x:=.bool (decide (x<=64))) (aZ results53) rfl ⟨by simp only[h1,decide_true,Bool.true_and],rfl⟩)
 simp -implicitDefEqProofs (disch:=omega) only [h1,simprocAttr,aJ,aK,Function.comp_apply,one1,lenV,aj,av,aA,aop,AV.ofValue,AV.ofCell,AV.cells,AV.flat,AV.one,arep,aU,ap,aG]
 exact hQ _ _ (eO (.inl rfl) hbel (x:=.bool false) (aZ results53) rfl ⟨by simp only[h1,decide_false,Bool.false_and],rfl⟩)
set_option maxRecDepth 100000 in
theorem max_c (xs : List Int)(b : Nat)(own : Bool)(cap : Option Nat)(hb : H[b]? = some (.cells own 1 (ints .u8 xs)))(h0:0<xs.length)(hn:xs.length<=1000000):ACalls prog 54 [.sl (some (b,0)) xs.length cap] H (fun v H'=>∃m,v=.int .u8 m/\m∈xs/\(∀x∈xs,x<=m)/\H'=H):=by
 have hbl:=getElem?_lt hb
 have hg0:=cS (k:=.u8) (xs:=xs) (j:=0) h0
 (refine cB try_mixed func54 true _ rfl (Nat.le_of_ble_eq_true (by kernel_rfl)) (by kernel_rfl) ?_;intro hbel Q hQ hQ' c hc;unfold Tryz.f54 at hc;simp only[Option.some.injEq] at hc;subst hc;clear hQ')
 have h1:¬(xs.length:Int)<1:=by omega
 simp -implicitDefEqProofs (disch:=omega) only [h1,hb,hg0,simprocAttr,aJ,aK,Function.comp_apply,one1,lenV,aj,av,aA,aop,AV.ofValue,AV.ofCell,AV.cells,AV.flat,AV.one,arep,aU,ap,aG]
 repeat refine And.intro (by omega) ?_
 refine go_loop try_mixed (by kernel_rfl) (fun k F Hx=>∃(i:Nat) (m:Int),i+k=xs.length/\1<=i/\m∈xs/\(∀j,j<i->gi xs j<=m)/\F=[(0,.sl (some (b,0)) xs.length none),(3,.int .u8 m),(4,.int .i64 (i:Nat))]/\Hx=H) (xs.length-1) ?_ ?_
 ·refine ⟨_, _, _, ⟨1, gi xs 0, by omega, by omega, gi_mem h0, fun j hj => by obtain rfl:j=0:=by omega
                                                                              exact Int.le_refl _,rfl,rfl⟩,Abs.by0 hbel ?_⟩
  exact absT
 rintro k F Hx ⟨i,m,hik,hi1,hm,hle,rfl,rfl⟩ J hJ
 by_cases hi:i<xs.length
 ·have hii:(i:Int)<(xs.length:Int):=by omega
  have hg:=cS (k:=.u8) (xs:=xs) (j:=i) hi
  simp -implicitDefEqProofs (disch:=omega) only [hii,hb,hg,simprocAttr,aJ,aK,Function.comp_apply,one1,lenV,aj,av,aA,aop,AV.ofValue,AV.ofCell,AV.cells,AV.flat,AV.one,arep,aU,ap,aG]
  repeat refine And.intro (by omega) ?_
  refine hJ _ _ ⟨k-1,by omega,_,_,_,⟨i+1,if m<gi xs i then gi xs i else m,by omega,by omega,by split;exact gi_mem hi;exact hm,fun j hj=>?_,rfl,rfl⟩,Abs.by0 hbel ?_⟩
  ·by_cases hji:j=i
   ·subst hji;split<;>omega
   have:=hle j (by omega);split<;>omega
  exact absT
 have hnn:¬((i:Int)<(xs.length:Int)):=by omega
 simp -implicitDefEqProofs (disch:=omega) only [hnn,simprocAttr,aJ,aK,Function.comp_apply,one1,lenV,aj,av,aA,aop,AV.ofValue,AV.ofCell,AV.cells,AV.flat,AV.one,arep,aU,ap,aG]
 exact hQ _ _ (eO (.inl rfl) hbel (x:=.int .u8 m) (aZ results54) rfl ⟨m,rfl,hm,fun x hx=>by
  obtain⟨j,hj,rfl⟩:=List.getElem_of_mem hx
  rw[<-gi_lt hj];exact hle j (by omega),rfl⟩)
theorem mN {W Hh:Int}{xs:List Int}(h:¬(1<=W/\W<=64/\1<=Hh/\Hh<=64/\(xs.length:Int)=W*Hh)):bC W Hh xs=false:=vld_false.2 fun v=>h ⟨v.w0,v.w1,v.h0,v.h1,v.len⟩
set_option maxRecDepth 100000 in
theorem d3 (W Hh:Int)(s:AV)(xs:List Int)(hs:IsI H .u8 s xs):ACalls prog 27 [.agg [.int .i64 W,.int .i64 Hh,s]] H (fun v H'=>v=.bool (bC W Hh xs)/\H'=H):=by
 have hs1:∃a c,s=.sl a xs.length c:=by
  rcases hs with ⟨rfl,rfl⟩|⟨b,own,cap,rfl,hb⟩
  ·exact⟨_,_,rfl⟩
  exact⟨_,_,rfl⟩
 obtain⟨a1,c1,rfl⟩:=hs1
 (refine cB try_mixed func27 true _ rfl (Nat.le_of_ble_eq_true (by kernel_rfl)) (by kernel_rfl) ?_;intro hbel Q hQ hQ' c hc;unfold Tryz.f27 at hc;simp only[Option.some.injEq] at hc;subst hc;clear hQ')
 simp -implicitDefEqProofs (disch:=omega) only [simprocAttr,aJ,aK,Function.comp_apply,one1,lenV,aj,av,aA,aop,AV.ofValue,AV.ofCell,AV.cells,AV.flat,AV.one,arep,aU,ap,aG]
 refine dQ (by kernel_rfl) (psize_c _ _) ?_
 cases h1:(decide (1<=W)&&decide (W<=64))
 ·simp only[Bool.and_eq_false_iff,decide_eq_false_iff_not] at h1
  simp -implicitDefEqProofs (disch:=omega) only [simprocAttr,aJ,aK,Function.comp_apply,one1,lenV,aj,av,aA,aop,AV.ofValue,AV.ofCell,AV.cells,AV.flat,AV.one,arep,aU,ap,aG]
  exact hQ _ _ (dN (.inl rfl) hbel (x:=.bool false) (aZ results27) rfl ⟨by rw[mN (by omega)],rfl⟩)
 simp only[Bool.and_eq_true,decide_eq_true_eq] at h1
 simp -implicitDefEqProofs (disch:=omega) only [simprocAttr,aJ,aK,Function.comp_apply,one1,lenV,aj,av,aA,aop,AV.ofValue,AV.ofCell,AV.cells,AV.flat,AV.one,arep,aU,ap,aG]
 refine dQ (by kernel_rfl) (psize_c _ _) ?_
 cases h2:(decide (1<=Hh)&&decide (Hh<=64))
 ·simp only[Bool.and_eq_false_iff,decide_eq_false_iff_not] at h2
  simp -implicitDefEqProofs (disch:=omega) only [simprocAttr,aJ,aK,Function.comp_apply,one1,lenV,aj,av,aA,aop,AV.ofValue,AV.ofCell,AV.cells,AV.flat,AV.one,arep,aU,ap,aG]
  exact hQ _ _ (dN (.inl rfl) hbel (x:=.bool false) (aZ results27) rfl ⟨by rw[mN (by omega)],rfl⟩)
 simp only[Bool.and_eq_true,decide_eq_true_eq] at h2
 have hm:=pF (a:=W) (b:=Hh) (by omega) (by omega) (by omega) (by omega)
 have hm1:=Int.mul_le_mul (a:=1) (b:=1) (c:=W) (d:=Hh) h1.1 h2.1 (by omega) (by omega)
 by_cases h3:(xs.length:Int)=W*Hh
 ·have h3':((xs.length:Int)!=W*Hh)=false:=by simp[h3]
  have h4:((xs.length:Int)==0)=false:=beq_eq_false_iff_ne.2 (by omega)
  obtain⟨b,own,cap,e1,hb⟩:=hs.resolve_left (fun h=>by rw[h.1] at h3;simp at h3;omega)
  injection e1 with e1 _ e1';subst e1 e1'
  have hb0:=fun l=>ai (l:=l) hb
  have hbl:=getElem?_lt hb
  simp -implicitDefEqProofs (disch:=omega) only [h3',h4,simprocAttr,aJ,aK,Function.comp_apply,one1,lenV,aj,av,aA,aop,AV.ofValue,AV.ofCell,AV.cells,AV.flat,AV.one,arep,aU,ap,aG]
  refine ol (by kernel_rfl) (max_c _ xs b own c1 (hb0 _) (by omega) (by omega)) ?_
  rintro x H' ⟨m,rfl,hm,hle,rfl⟩
  simp -implicitDefEqProofs (disch:=omega) only [simprocAttr,aJ,aK,Function.comp_apply,one1,lenV,aj,av,aA,aop,AV.ofValue,AV.ofCell,AV.cells,AV.flat,AV.one,arep,aU,ap,aG]
  exact hQ _ _ (dN (.inl rfl) hbel (x:=.bool (decide (m<=2))) (aZ results27) rfl ⟨by
   congr 1
   rw[Bool.eq_iff_iff,bh,decide_eq_true_eq]
   exact⟨fun h=>⟨h1.1,h1.2,h2.1,h2.2,h3,fun v hv=>Int.le_trans (hle v hv) h⟩,fun h=>h.le m hm⟩,rfl⟩)
 have h3':((xs.length:Int)!=W*Hh)=true:=by simp[h3]
 simp -implicitDefEqProofs (disch:=omega) only [h3',simprocAttr,aJ,aK,Function.comp_apply,one1,lenV,aj,av,aA,aop,AV.ofValue,AV.ofCell,AV.cells,AV.flat,AV.one,arep,aU,ap,aG]
 exact hQ _ _ (dN (.inl rfl) hbel (x:=.bool false) (aZ results27) rfl ⟨by rw[mN (by omega)],rfl⟩)
end
section
variable {H:aa} {W Hh x y:Int} {s:AV} {xs:List Int} {g:Nat} {own:Bool} {cap:Option Nat} {n:Nat}
end
set_option maxRecDepth 100000 in
theorem idx_int (H:aa)(s:AV)(l:List Int)(hs:Sl H 1 s l.length (ints .i64 l))(hl:l.length<=1000000000)(g:FuncId)(caps:List AV)(hok:dk prog g=true)(hc:AV.bels H.length caps=true)(p:Int->Bool)(hf:∀j,j<l.length->ACalls prog g (.int .i64 (gi l j)::caps) H (fun v H'=>v=.bool (p (gi l j))/\H'=H)):
  ACalls prog 83 [s,.fn g caps] H (fun v H'=>v=.int .i64 (fD p l)/\H'=H):=by
 obtain⟨b,own,cap,rfl,hb⟩:=hs
 have hbl:=getElem?_lt hb
 have hmv:=fun m sel=>gP (n:=H.length) (m:=m) (sel:=sel) hc
 (refine cB try_mixed func83 true _ rfl (Nat.le_of_ble_eq_true (by kernel_rfl)) (by kernel_rfl) ?_;intro hbel Q hQ hQ' c hc;unfold Tryz.f83 at hc;simp only[Option.some.injEq] at hc;subst hc;clear hQ')
 simp -implicitDefEqProofs (disch:=omega) only [simprocAttr,aJ,aK,Function.comp_apply,one1,lenV,aj,av,aA,aop,AV.ofValue,AV.ofCell,AV.cells,AV.flat,AV.one,arep,aU,ap,aG]
 refine glp (fun k F Hx=>∃i:Nat,i+k=l.length/\(l.take i).any p=false/\F=[(0,.sl (some (b,0)) l.length none),(1,.fn g caps),(7,.int .i64 l.length),(8,.int .i64 (i:Nat))]/\Hx=H) l.length ?_ ?_
 ·refine⟨_,_,_,⟨0,by omega,rfl,rfl,rfl⟩,Abs.by0 hbel ?_⟩
  exact aN @hmv
 rintro k F Hx ⟨i,hik,ht,rfl,rfl⟩ J hJ
 by_cases hi:i<l.length
 ·have hii:(i:Int)<(l.length:Int):=by omega
  have q1:=cS (k:=.i64) hi
  have hg:=fq hi
  simp -implicitDefEqProofs (disch:=omega) only [hii,hb,q1,bZ,cU,simprocAttr,aJ,aK,Function.comp_apply,one1,lenV,aj,av,aA,aop,AV.ofValue,AV.ofCell,AV.cells,AV.flat,AV.one,arep,aU,ap,aG]
  refine And.intro (by omega) ?_
  refine dQ hok (hf i hi) ?_
  have hst:=je (p:=p) hi
  rw[ht,Bool.false_or,<-hg] at hst
  cases h1:p (gi l i)
  ·rw[h1] at hst
   simp -implicitDefEqProofs (disch:=omega) only [h1,simprocAttr,aJ,aK,Function.comp_apply,one1,lenV,aj,av,aA,aop,AV.ofValue,AV.ofCell,AV.cells,AV.flat,AV.one,arep,aU,ap,aG]
   refine hJ _ _ ⟨k-1,by omega,_,_,_,⟨i+1,by omega,hst,rfl,rfl⟩,Abs.by0 hbel ?_⟩
   exact aN @hmv
  simp -implicitDefEqProofs (disch:=omega) only [h1,simprocAttr,aJ,aK,Function.comp_apply,one1,lenV,aj,av,aA,aop,AV.ofValue,AV.ofCell,AV.cells,AV.flat,AV.one,arep,aU,ap,aG]
  exact eQ hQ hbel (.int .i64 (i:Nat)) results83 ⟨by rw[iU hi ht (by rw[<-hg];exact h1)],rfl⟩
 have hnn:¬((i:Int)<(l.length:Int)):=by omega
 simp -implicitDefEqProofs (disch:=omega) only [hnn,simprocAttr,aJ,aK,Function.comp_apply,one1,lenV,aj,av,aA,aop,AV.ofValue,AV.ofCell,AV.cells,AV.flat,AV.one,arep,aU,ap,aG]
 rw[List.take_of_length_le (by omega)] at ht
 exact eQ hQ hbel (.int .i64 (-1)) results83 ⟨by rw[fE ht],rfl⟩
theorem lS (H:aa)(s:AV)(l:List Int)(hs:Sl H 1 s l.length (ints .i64 l))(hl:l.length<=1000000000)(g:FuncId)(caps:List AV)(hok:dk prog g=true)(hc:AV.bels H.length caps=true)(p:Int->Bool)(hf:∀j,j<l.length->ACalls prog g (.int .i64 (gi l j)::caps) H (fun v H'=>v=.bool (p (gi l j))/\H'=H)):
  ACalls prog 43 [s,.fn g caps] H (fun v H'=>v=.bool (l.any p)/\H'=H):=by
 have key:=idx_int H s l hs hl g caps hok hc p hf
 obtain⟨b,own,cap,rfl,hb⟩:=hs
 have hbl:=getElem?_lt hb
 (refine cB try_mixed func43 true _ rfl (Nat.le_of_ble_eq_true (by kernel_rfl)) (by kernel_rfl) ?_;intro hbel Q hQ hQ' c hc;unfold Tryz.f43 at hc;simp only[Option.some.injEq] at hc;subst hc;clear hQ')
 simp -implicitDefEqProofs (disch:=omega) only [simprocAttr,aJ,aK,Function.comp_apply,one1,lenV,aj,av,aA,aop,AV.ofValue,AV.ofCell,AV.cells,AV.flat,AV.one,arep,aU,ap,aG]
 refine dQ (by kernel_rfl) key ?_
 simp -implicitDefEqProofs (disch:=omega) only [simprocAttr,aJ,aK,Function.comp_apply,one1,lenV,aj,av,aA,aop,AV.ofValue,AV.ofCell,AV.cells,AV.flat,AV.one,arep,aU,ap,aG]
 exact eQ hQ hbel (.bool (decide (0<=fD p l))) results43 ⟨by rw[kw],rfl⟩
set_option maxRecDepth 100000 in
theorem idx_box (H:aa)(s:AV)(l:List T6)(hs:Sl H 6 s l.length (r6 l))(hl:l.length<=1000000000)(g:FuncId)(caps:List AV)(hok:dk prog g=true)(hc:AV.bels H.length caps=true)(p:T6->Bool)(hf:∀j,j<l.length->ACalls prog g (.agg [.int .i64 (g61 l j),.int .i64 (g62 l j),.int .i64 (g63 l j),.int .i64 (g64 l j),.int .i64 (g65 l j),.int .i64 (g66 l j)]::caps) H (fun v H'=>v=.bool (p (g61 l j,g62 l j,g63 l j,g64 l j,g65 l j,g66 l j))/\H'=H)):
  ACalls prog 49 [s,.fn g caps] H (fun v H'=>v=.int .i64 (fD p l)/\H'=H):=by
 obtain⟨b,own,cap,rfl,hb⟩:=hs
 have hbl:=getElem?_lt hb
 have hmv:=fun m sel=>gP (n:=H.length) (m:=m) (sel:=sel) hc
 (refine cB try_mixed func49 true _ rfl (Nat.le_of_ble_eq_true (by kernel_rfl)) (by kernel_rfl) ?_;intro hbel Q hQ hQ' c hc;unfold Tryz.f49 at hc;simp only[Option.some.injEq] at hc;subst hc;clear hQ')
 simp -implicitDefEqProofs (disch:=omega) only [simprocAttr,aJ,aK,Function.comp_apply,one1,lenV,aj,av,aA,aop,AV.ofValue,AV.ofCell,AV.cells,AV.flat,AV.one,arep,aU,ap,aG]
 refine glp (fun k F Hx=>∃i:Nat,i+k=l.length/\(l.take i).any p=false/\F=[(0,.sl (some (b,0)) l.length none),(1,.fn g caps),(7,.int .i64 l.length),(8,.int .i64 (i:Nat))]/\Hx=H) l.length ?_ ?_
 ·refine⟨_,_,_,⟨0,by omega,rfl,rfl,rfl⟩,Abs.by0 hbel ?_⟩
  exact aN @hmv
 rintro k F Hx ⟨i,hik,ht,rfl,rfl⟩ J hJ
 by_cases hi:i<l.length
 ·have hii:(i:Int)<(l.length:Int):=by omega
  have q1:=di hi
  have hg:=hZ hi
  simp -implicitDefEqProofs (disch:=omega) only [hii,hb,q1,ce,fe,simprocAttr,aJ,aK,Function.comp_apply,one1,lenV,aj,av,aA,aop,AV.ofValue,AV.ofCell,AV.cells,AV.flat,AV.one,arep,aU,ap,aG]
  iterate 2 refine And.intro (by omega) ?_
  refine dQ hok (hf i hi) ?_
  have hst:=je (p:=p) hi
  rw[ht,Bool.false_or,<-hg] at hst
  cases h1:p (g61 l i,g62 l i,g63 l i,g64 l i,g65 l i,g66 l i)
  ·rw[h1] at hst
   simp -implicitDefEqProofs (disch:=omega) only [h1,simprocAttr,aJ,aK,Function.comp_apply,one1,lenV,aj,av,aA,aop,AV.ofValue,AV.ofCell,AV.cells,AV.flat,AV.one,arep,aU,ap,aG]
   refine hJ _ _ ⟨k-1,by omega,_,_,_,⟨i+1,by omega,hst,rfl,rfl⟩,Abs.by0 hbel ?_⟩
   exact aN @hmv
  simp -implicitDefEqProofs (disch:=omega) only [h1,simprocAttr,aJ,aK,Function.comp_apply,one1,lenV,aj,av,aA,aop,AV.ofValue,AV.ofCell,AV.cells,AV.flat,AV.one,arep,aU,ap,aG]
  exact eQ hQ hbel (.int .i64 (i:Nat)) results49 ⟨by rw[iU hi ht (by rw[<-hg];exact h1)],rfl⟩
 have hnn:¬((i:Int)<(l.length:Int)):=by omega
 simp -implicitDefEqProofs (disch:=omega) only [hnn,simprocAttr,aJ,aK,Function.comp_apply,one1,lenV,aj,av,aA,aop,AV.ofValue,AV.ofCell,AV.cells,AV.flat,AV.one,arep,aU,ap,aG]
 rw[List.take_of_length_le (by omega)] at ht
 exact eQ hQ hbel (.int .i64 (-1)) results49 ⟨by rw[fE ht],rfl⟩
theorem jQ (H:aa)(s:AV)(l:List T6)(hs:Sl H 6 s l.length (r6 l))(hl:l.length<=1000000000)(g:FuncId)(caps:List AV)(hok:dk prog g=true)(hc:AV.bels H.length caps=true)(p:T6->Bool)(hf:∀j,j<l.length->ACalls prog g (.agg [.int .i64 (g61 l j),.int .i64 (g62 l j),.int .i64 (g63 l j),.int .i64 (g64 l j),.int .i64 (g65 l j),.int .i64 (g66 l j)]::caps) H (fun v H'=>v=.bool (p (g61 l j,g62 l j,g63 l j,g64 l j,g65 l j,g66 l j))/\H'=H)):
  ACalls prog 24 [s,.fn g caps] H (fun v H'=>v=.bool (l.any p)/\H'=H):=by
 have key:=idx_box H s l hs hl g caps hok hc p hf
 obtain⟨b,own,cap,rfl,hb⟩:=hs
 have hbl:=getElem?_lt hb
 (refine cB try_mixed func24 true _ rfl (Nat.le_of_ble_eq_true (by kernel_rfl)) (by kernel_rfl) ?_;intro hbel Q hQ hQ' c hc;unfold Tryz.f24 at hc;simp only[Option.some.injEq] at hc;subst hc;clear hQ')
 simp -implicitDefEqProofs (disch:=omega) only [simprocAttr,aJ,aK,Function.comp_apply,one1,lenV,aj,av,aA,aop,AV.ofValue,AV.ofCell,AV.cells,AV.flat,AV.one,arep,aU,ap,aG]
 refine dQ (by kernel_rfl) key ?_
 simp -implicitDefEqProofs (disch:=omega) only [simprocAttr,aJ,aK,Function.comp_apply,one1,lenV,aj,av,aA,aop,AV.ofValue,AV.ofCell,AV.cells,AV.flat,AV.one,arep,aU,ap,aG]
 exact eQ hQ hbel (.bool (decide (0<=fD p l))) results24 ⟨by rw[kw],rfl⟩
set_option maxHeartbeats 4000000
set_option maxRecDepth 100000
theorem small1_c (H:aa)(n:Int):zC 135 [iV n] H (.bool (gR n)) H:=by
 refine AcT true func135 ?_;intro hbel Q hQ
 refine aI ?_
 refine aY (fun h1=>?_) (fun h1=>?_)
 ·have h1d:=bsT h1
  have G1:=jn h1 @h1d
  exact eS G1 hQ hbel (.bool (decide (1048576<n))) results135 ⟨by simp[gR,h1d],rfl⟩
 have h1d:=bsT h1
 have G2:=jn h1 @h1d
 exact eS G2 hQ hbel (.bool true) results135 ⟨by simp[gR,h1d],rfl⟩
theorem small_c (H:aa)(s:AV)(l:List Int)(hs:Sl H 1 s l.length (ints .i64 l))(hl:l.length<=1000000):zC 90 [s] H (.bool (!(l.any gR))) H:=by
 obtain⟨bs,os,cs,rfl,hbs,hbls,hb0s⟩:=zA1 hs
 refine AcT true func90 ?_;intro hbel Q hQ
 have G3:=jn @hbs @hb0s
 refine ae G3 ?_
 refine cvr G3 (lS _ _ l (zA2 hb0s hbs) (by omega) _ [] (by kernel_rfl) rfl gR (fun j hj=>small1_c _ _)) ?_
 exact eQ hQ hbel (.bool (!(l.any gR))) results90 ⟨rfl,rfl⟩
theorem jh (H:aa)(f c:Int):zC 91 [.agg [iV f,iV c]] H (.bool (b9 f c)) H:=by
 refine AcT true func91 ?_;intro hbel Q hQ
 refine aI ?_
 refine aY (fun h1=>?_) (fun h1=>?_)
 ·have h1d:=bsT h1
  have G4:=jn h1 @h1d
  refine rgs G4 (fun h2 h2d G5=>?_) (fun h2 h2d G12=>?_)
  ·refine rgs G5 (fun h3 h3d G6=>?_) (fun h3 h3d G11=>?_)
   ·refine rgs G6 (fun h4 h4d G7=>?_) (fun h4 h4d G10=>?_)
    ·refine rgs G7 (fun h5 h5d _=>?_) (fun h5 h5d _=>?_)
     ·have h5n:=bnT h5
      have G8:=jn h5 (jn h5n (jn @aP (jn @aO G7)))
      exact eR G8 hQ hbel (.bool (decide (c<256))) results91 ⟨by simp[b9,h1d,h2d,h3d,h4d,h5d],rfl⟩
     have h5n:=bnT h5
     have G9:=jn h5 (jn h5n (jn @aP (jn @aO G7)))
     exact eR G9 hQ hbel (.bool true) results91 ⟨by simp[b9,h1d,h2d,h3d,h4d,h5d],rfl⟩
    exact eR G10 hQ hbel (.bool false) results91 ⟨by simp[b9,h1d,h2d,h3d,h4d],rfl⟩
   exact eR G11 hQ hbel (.bool false) results91 ⟨by simp[b9,h1d,h2d,h3d],rfl⟩
  exact eR G12 hQ hbel (.bool false) results91 ⟨by simp[b9,h1d,h2d],rfl⟩
 have h1d:=bsT h1
 have G13:=jn h1 @h1d
 exact eR G13 hQ hbel (.bool false) results91 ⟨by simp[b9,h1d],rfl⟩
theorem barc_c (H:aa)(f c:Int):zC 48 [.agg [iV f,iV c]] H (.bool (b9 f c)) H:=by
 refine AcT true func48 ?_;intro hbel Q hQ
 refine aI ?_
 refine aY (fun h1=>?_) (fun h1=>?_)
 ·have h1d:=bsT h1
  have G14:=jn h1 @h1d
  refine rgs G14 (fun h2 h2d G15=>?_) (fun h2 h2d G22=>?_)
  ·refine rgs G15 (fun h3 h3d G16=>?_) (fun h3 h3d G21=>?_)
   ·refine rgs G16 (fun h4 h4d G17=>?_) (fun h4 h4d G20=>?_)
    ·refine rgs G17 (fun h5 h5d G18=>?_) (fun h5 h5d G19=>?_)
     ·exact eR G18 hQ hbel (.bool (f==0)) results48 ⟨by rw[<-iW];(simp[arcR,h1d,h2d,h3d,h4d,h5d];done),rfl⟩
     exact eR G19 hQ hbel (.bool true) results48 ⟨by rw[<-iW];(simp[arcR,h1d,h2d,h3d,h4d,h5d];done),rfl⟩
    exact eR G20 hQ hbel (.bool false) results48 ⟨by rw[<-iW];(simp[arcR,h1d,h2d,h3d,h4d];done),rfl⟩
   exact eR G21 hQ hbel (.bool false) results48 ⟨by rw[<-iW];(simp[arcR,h1d,h2d,h3d];done),rfl⟩
  exact eR G22 hQ hbel (.bool false) results48 ⟨by rw[<-iW];(simp[arcR,h1d,h2d];done),rfl⟩
 have h1d:=bsT h1
 have G23:=jn h1 @h1d
 exact eR G23 hQ hbel (.bool false) results48 ⟨by rw[<-iW];(simp[arcR,h1d];done),rfl⟩
theorem fV (H:aa)(x0 y0 x1 y1 f c:Int):zC 52 [.agg [iV x0,iV y0,iV x1,iV y1,iV f,iV c]] H (.agg [iV f,iV c]) H:=by
 refine AcT true func52 ?_;intro hbel Q hQ
 refine aI ?_
 exact eP hQ hbel (.agg [iV f,iV c]) results52 ⟨rfl,rfl⟩
theorem ft (H:aa)(x0 y0 x1 y1 f c:Int):zC 50 [.agg [iV x0,iV y0,iV x1,iV y1,iV f,iV c]] H (.bool (bxB x0 y0 x1 y1 f c)) H:=by
 refine AcT true func50 ?_;intro hbel Q hQ
 refine aI ?_
 refine aY (fun h1=>?_) (fun h1=>?_)
 ·have h1d:=bsT h1
  have G24:=jn h1 @h1d
  refine rgs G24 (fun h2 h2d G25=>?_) (fun h2 h2d G28=>?_)
  ·refine ae G25 ?_
   refine cv (small_c _ _ [x0,y0,x1,y1] ⟨_,_,_,by rfl,by (rw[bO];rfl)⟩ (by simp)) ?_
   refine rgs G25 (fun h3 h3d G26=>?_) (fun h3 h3d G27=>?_)
   ·refine ae G26 ?_
    refine cvr G26 (fV _ _ _ _ _ f c) ?_
    refine cvr G26 (jh _ f c) ?_
    exact eP hQ hbel (.bool (b9 f c)) results50 ⟨by simp[bxB,h1d,h2d,h3d],rfl⟩
   exact eR G27 hQ hbel (.bool false) results50 ⟨by simp[bxB,h1d,h2d,h3d],rfl⟩
  exact eR G28 hQ hbel (.bool false) results50 ⟨by simp[bxB,h1d,h2d],rfl⟩
 have h1d:=bsT h1
 have G29:=jn h1 @h1d
 exact eR G29 hQ hbel (.bool false) results50 ⟨by simp[bxB,h1d],rfl⟩
theorem bbx_c (H:aa)(x0 y0 x1 y1 f c:Int):zC 23 [.agg [iV x0,iV y0,iV x1,iV y1,iV f,iV c]] H (.bool (bxB x0 y0 x1 y1 f c)) H:=by
 refine AcT true func23 ?_;intro hbel Q hQ
 refine aI ?_
 refine aY (fun h1=>?_) (fun h1=>?_)
 ·have h1d:=bsT h1
  have G30:=jn h1 @h1d
  refine rgs G30 (fun h2 h2d G31=>?_) (fun h2 h2d G40=>?_)
  ·refine rgs G31 (fun h3 h3d G32=>?_) (fun h3 h3d G39=>?_)
   ·refine rgs G32 (fun h4 h4d G33=>?_) (fun h4 h4d G38=>?_)
    ·refine rgs G33 (fun h5 h5d G34=>?_) (fun h5 h5d G37=>?_)
     ·refine rgs G34 (fun h6 h6d G35=>?_) (fun h6 h6d G36=>?_)
      ·refine ae G35 ?_
       refine cvr G35 (barc_c _ f c) ?_
       exact eP hQ hbel (.bool (b9 f c)) results23 ⟨by rw[<-jg];simp[bxR,h1d,h2d,h3d,h4d,h5d,h6d],rfl⟩
      exact eR G36 hQ hbel (.bool false) results23 ⟨by rw[<-jg];simp[bxR,h1d,h2d,h3d,h4d,h5d,h6d],rfl⟩
     exact eR G37 hQ hbel (.bool false) results23 ⟨by rw[<-jg];simp[bxR,h1d,h2d,h3d,h4d,h5d],rfl⟩
    exact eR G38 hQ hbel (.bool false) results23 ⟨by rw[<-jg];simp[bxR,h1d,h2d,h3d,h4d],rfl⟩
   exact eR G39 hQ hbel (.bool false) results23 ⟨by rw[<-jg];simp[bxR,h1d,h2d,h3d],rfl⟩
  exact eR G40 hQ hbel (.bool false) results23 ⟨by rw[<-jg];simp[bxR,h1d,h2d],rfl⟩
 have h1d:=bsT h1
 have G41:=jn h1 @h1d
 exact eR G41 hQ hbel (.bool false) results23 ⟨by rw[<-jg];simp[bxR,h1d],rfl⟩
theorem bset_c (H:aa)(s:AV)(l:List T6)(hs:Sl H 6 s l.length (r6 l))(hl:l.length<=1000000000):zC 8 [s] H (.bool (bM l)) H:=by
 obtain⟨bs,os,cs,rfl,hbs,hbls,hb0s⟩:=zA1 hs
 refine AcT true func8 ?_;intro hbel Q hQ
 have G42:=jn @hbs @hb0s
 refine rcs G42 (fun h1 h1d G43=>?_) (fun h1 h1d G44=>?_)
 ·have hfinS:bM l=false:=by unfold bM;rw[decide_eq_false (by omega)];rfl
  exact eS G43 hQ hbel (.bool false) results8 ⟨by rw[hfinS],rfl⟩
 refine ae G44 ?_
 refine glp (fun k F Hx=>∃i:Nat,i+k=l.length/\(∀j:Nat,j<i->bj (g6 l j)=true)/\F=[(0,.sl (some (bs,0)) l.length cs),(3,iV (i:Int))]/\H=Hx) (l.length) ?_ ?_
 ·refine⟨_,_,_,⟨0,by omega,fun j h=>by omega,rfl,rfl⟩,Abs.by0 hbel ?_⟩
  exact aD
 rintro k0 F Hx ⟨i,hm0,hal,rfl,rfl⟩ J0 hJ0
 refine rcs G44 (fun h2 h2d _=>?_) (fun h2 h2d G48=>?_)
 ·have q3:=di (l:=l) (j:=i) (by omega)
  have G45:=jn h2 (jn h2d (jn @ce (jn q3 G44)))
  refine ae G45 ?_
  refine cv (bbx_c _ _ _ _ _ _ _) ?_
  refine rcs G45 (fun h4 h4d G46=>?_) (fun h4 h4d G47=>?_)
  ·have hfinS:bM l=false:=by
    rw[<-Bool.not_eq_true,bF];intro hh
    have:=hh.2 (g6 l i) (cD (by omega))
    exact absurd (this.symm.trans h4d) (by decide)
   exact eS G46 hQ hbel (.bool false) results8 ⟨by rw[hfinS],rfl⟩
  have hbi:bj (g6 l i)=true:=h4d
  refine ae G47 ?_
  refine hJ0 _ _ ⟨k0-1,by omega,_,_,_,⟨i+1,by omega,fun j hj=>by
        rcases Nat.lt_or_ge j i with h|h
        ·exact hal j h
        rw[show j=i by omega];exact hbi,rfl,rfl⟩,Abs.by0 hbel ?_⟩
  exact aD
 have hfinS:bM l=true:=bF.2 ⟨by omega,fun b hb=>by
  obtain⟨j,hj,e⟩:=List.mem_iff_getElem.1 hb
  rw[<-e,<-hZ hj];exact hal j (by omega)⟩
 exact eS G48 hQ hbel (.bool true) results8 ⟨by rw[hfinS],rfl⟩
theorem kx (H:aa)(s f c:Int)(k1:0<=s/\s<=255)(k2:0<=f/\f<=255)(k3:0<=c/\c<=256):zC 174 [iV s,.agg [iV f,iV c]] H (iV (bY s f c)) H:=by
 refine AcT true func174 ?_;intro hbel Q hQ
 refine aI ?_
 refine cd (jO _ _) ?_
 refine aI ?_
 exact eP hQ hbel (iV (((((f-s)%256).toNat:Nat):Int)+c)) results174 ⟨congrArg (AV.int .i64) (by unfold bY;omega),rfl⟩
theorem lT (H:aa)(f c f2 c2:Int)(ha:b9 f c=true)(hb:b9 f2 c2=true):zC 144 [.agg [iV f,iV c],.agg [iV f2,iV c2]] H (.tup [.agg [iV ((cQ f c f2 c2).1),iV ((cQ f c f2 c2).2)],iV 0]) H:=by
 have ka:=bo.1 ha
 have kb:=bo.1 hb
 have hm1:=max_i (bY f f c) (bY f f2 c2)
 have hm2:=max_i (bY f2 f c) (bY f2 f2 c2)
 have hz0:(hlS f c f2 c2 0).2=256/\(hlS f c f2 c2 0).1=0:=⟨rfl,rfl⟩
 have hc1:bY f f c=c:=by unfold bY;omega
 have hc2:bY f2 f2 c2=c2:=by unfold bY;omega
 have hc3:1<=bY f f2 c2/\bY f f2 c2<=511:=by unfold bY;omega
 have hc4:1<=bY f2 f c/\bY f2 f c<=511:=by unfold bY;omega
 refine AcT true func144 ?_;intro hbel Q hQ
 have G49:=jn @hm1 (jn @hm2 (jn @ha @hb))
 refine ae G49 ?_
 refine cvr G49 (jh _ f c) ?_
 refine cvr G49 (jh _ _ _) ?_
 refine glp (fun k F Hx=>∃j:Nat,j+k=2/\F=[(2,.ptr (some (H.length,0))),(3,.ptr (some (H.length+1,0))),(4,.ptr (some (H.length+2,0))),(6,.ptr (some (H.length+3,0))),(24,.agg [iV f,iV f2]),(25,iV (j:Int))]/\Hx=H++[.cells true 0 [iV f,iV c],.cells true 0 [iV f2,iV c2],.cells true 0 [iV 0,iV 0],.cells true 0 [iV ((hlS f c f2 c2 j).1),iV ((hlS f c f2 c2 j).2)]]) (2) ?_ ?_
 ·refine⟨_,_,_,⟨0,by omega,rfl,rfl⟩,bS hbel [0,1,2,3] (aN (jn @hlS.eq_1 @Int.natCast_zero))⟩
 rintro k0 F Hx ⟨j,hm0,rfl,rfl⟩ J0 hJ0
 refine rcs G49 (fun h1 h1d _=>?_) (fun h1 h1d G65=>?_)
 ·obtain rfl|rfl:=(by omega:j=0\/j=1)
  ·have G50:=j2 h1 h1d G49
   refine ae G50 ?_
   refine cdr G50 (kx _ f f c (by omega) (by omega) (by omega)) ?_
   refine cd (kx _ f _ _ (by omega) (by omega) (by omega)) ?_
   refine rgs G50 (fun h2 h2d G51=>?_) (fun h2 h2d G55=>?_)
   ·refine rgs G51 (fun h3 h3d _=>?_) (fun h3 h3d _=>?_)
    ·have h3n:=bnT h3
     have he0:max (bY f f c) (bY f f2 c2)=(hlS f c f2 c2 0).2:=by simpa using h3d
     have G52:=jn h3 (jn h3n (jn @aP (jn @aO G51)))
     refine rgs G52 (fun h4 h4d _=>?_) (fun h4 h4d G53=>?_)
     ·omega
     refine ae G53 ?_
     (have hst:hlS f c f2 c2 (0+1)=(0,256):=if_neg (by omega))
     refine hJ0 _ _ ⟨k0-1,by omega,_,_,_,⟨0+1,by omega,rfl,rfl⟩,bS hbel [0,1,2,3] (aN @hst)⟩
    have h3n:=bnT h3
    have G54:=jn h3 (jn h3n (jn @aP (jn @aO G51)))
    refine ae G54 ?_
    (have hst:hlS f c f2 c2 (0+1)=(0,256):=if_neg (by omega))
    refine hJ0 _ _ ⟨k0-1,by omega,_,_,_,⟨0+1,by omega,rfl,rfl⟩,bS hbel [0,1,2,3] (aN @hst)⟩
   refine ae G55 ?_
   (have hst:hlS f c f2 c2 (0+1)=(f,max (bY f f c) (bY f f2 c2)):=if_pos (by omega))
   refine hJ0 _ _ ⟨k0-1,by omega,_,_,_,⟨0+1,by omega,rfl,rfl⟩,bS hbel [0,1,2,3] (aN @hst)⟩
  have G56:=j2 h1 h1d G49
  refine ae G56 ?_
  refine cdr G56 (kx _ _ f c (by omega) (by omega) (by omega)) ?_
  refine cd (kx _ _ _ _ (by omega) (by omega) (by omega)) ?_
  refine rgs G56 (fun h5 h5d G57=>?_) (fun h5 h5d G64=>?_)
  ·refine rgs G57 (fun h6 h6d _=>?_) (fun h6 h6d _=>?_)
   ·have h6n:=bnT h6
    have he1:max (bY f2 f c) (bY f2 f2 c2)=(hlS f c f2 c2 1).2:=by simpa using h6d
    have G58:=jn h6 (jn h6n (jn @aP (jn @aO G57)))
    refine rgs G58 (fun h7 h7d G59=>?_) (fun h7 h7d G62=>?_)
    ·refine rcs G59 (fun h8 h8d G60=>?_) (fun h8 h8d G61=>?_)
     ·refine ae G60 ?_
      (have hst:hlS f c f2 c2 (1+1)=(f2,max (bY f2 f c) (bY f2 f2 c2)):=(hlS_2 f c f2 c2).trans (if_pos (by omega)))
      refine hJ0 _ _ ⟨k0-1,by omega,_,_,_,⟨1+1,by omega,rfl,rfl⟩,bS hbel [0,1,2,3] (aN @hst)⟩
     refine ae G61 ?_
     (have hst:hlS f c f2 c2 (1+1)=hlS f c f2 c2 1:=(hlS_2 f c f2 c2).trans (if_neg (by omega)))
     refine hJ0 _ _ ⟨k0-1,by omega,_,_,_,⟨1+1,by omega,rfl,rfl⟩,bS hbel [0,1,2,3] (aN @hst)⟩
    refine ae G62 ?_
    (have hst:hlS f c f2 c2 (1+1)=hlS f c f2 c2 1:=(hlS_2 f c f2 c2).trans (if_neg (by omega)))
    refine hJ0 _ _ ⟨k0-1,by omega,_,_,_,⟨1+1,by omega,rfl,rfl⟩,bS hbel [0,1,2,3] (aN @hst)⟩
   have h6n:=bnT h6
   have he1:¬max (bY f2 f c) (bY f2 f2 c2)=(hlS f c f2 c2 1).2:=by simpa using h6d
   have G63:=jn h6 (jn h6n (jn @aP (jn @aO G57)))
   refine ae G63 ?_
   (have hst:hlS f c f2 c2 (1+1)=hlS f c f2 c2 1:=(hlS_2 f c f2 c2).trans (if_neg (by omega)))
   refine hJ0 _ _ ⟨k0-1,by omega,_,_,_,⟨1+1,by omega,rfl,rfl⟩,bS hbel [0,1,2,3] (aN @hst)⟩
  refine ae G64 ?_
  (have hst:hlS f c f2 c2 (1+1)=(f2,max (bY f2 f c) (bY f2 f2 c2)):=(hlS_2 f c f2 c2).trans (if_pos (by omega)))
  refine hJ0 _ _ ⟨k0-1,by omega,_,_,_,⟨1+1,by omega,rfl,rfl⟩,bS hbel [0,1,2,3] (aN @hst)⟩
 obtain rfl:j=2:=by omega
 exact eR G65 hQ hbel (.tup [.agg [iV ((hlS f c f2 c2 2).1),iV ((hlS f c f2 c2 2).2)],iV 0]) results144 ⟨rfl,rfl⟩
theorem pinside_c (H:aa)(W Hh:Int)(pp:AV)(xs:List Int)(x y:Int)(hpp:zI H pp xs):zC 116 [.agg [iV W,iV Hh,pp],.agg [iV x,iV y]] H (.bool (inB W Hh x y)) H:=by
 obtain⟨bpp,opp,cpp,rfl,hbpp,hblpp,hb0pp⟩:=zA1 hpp
 refine AcT true func116 ?_;intro hbel Q hQ
 have G1:=jn @hbpp @hb0pp
 refine rgs G1 (fun h1 h1d G2=>?_) (fun h1 h1d G7=>?_)
 ·refine rgs G2 (fun h2 h2d G3=>?_) (fun h2 h2d G6=>?_)
  ·refine rgs G3 (fun h3 h3d G4=>?_) (fun h3 h3d G5=>?_)
   ·exact eR G4 hQ hbel (.bool (decide (y<Hh))) results116 ⟨by simp[inB,h1d,h2d,h3d],rfl⟩
   exact eR G5 hQ hbel (.bool false) results116 ⟨by simp[inB,h1d,h2d,h3d],rfl⟩
  exact eR G6 hQ hbel (.bool false) results116 ⟨by simp[inB,h1d,h2d],rfl⟩
 exact eR G7 hQ hbel (.bool false) results116 ⟨by simp[inB,h1d],rfl⟩
theorem pat_c (H:aa)(W Hh:Int)(pp:AV)(xs:List Int)(x y:Int)(hpp:zI H pp xs)(hV:bC W Hh xs=true):zC 74 [.agg [iV W,iV Hh,pp],.agg [iV x,iV y]] H (.int .u8 (atI W Hh xs x y)) H:=by
 obtain⟨bpp,opp,cpp,rfl,hbpp,hblpp,hb0pp⟩:=zA1 hpp
 have hVl:=bh.1 hV
 have hll:=hVl.len
 have hpp2:=hVl.pos
 refine AcT true func74 ?_;intro hbel Q hQ
 have G8:=jn @hbpp (jn @hb0pp @hV)
 refine ae G8 ?_
 refine cvr G8 (d3 _ W Hh _ xs (.inr (zA2 hb0pp hbpp))) ?_
 refine cv (pinside_c _ W _ _ xs x y (zA2 hb0pp hbpp)) ?_
 refine rcs G8 (fun h1 h1d G9=>?_) (fun h1 h1d _=>?_)
 ·exact eR G9 hQ hbel (.int .u8 2) results74 ⟨by simp[atI,h1d],rfl⟩
 have hin:=h1d
 obtain⟨i1,i2,i3,i4,i5,-⟩:=hVl.idx hin
 have q2:=cS (k:=.u8) (xs:=xs) (j:=((y*W)+x).toNat) (by omega)
 have G10:=jn h1 (jn h1d (jn q2 G8))
 exact eR G10 hQ hbel (.int .u8 (gi xs (((y*W)+x).toNat))) results74 ⟨by simp[atI,h1d],rfl⟩
theorem gl (H:aa)(x m:Int)(h:0<=m/\m<=4611686018427387904):zC 120 [iV x,iV m] H (.bool (bK x m)) H:=by
 refine AcT true func120 ?_;intro hbel Q hQ
 refine aI ?_
 refine aY (fun h1=>?_) (fun h1=>?_)
 ·have h1d:=bsT h1
  have G1:=jn h1 @h1d
  exact eS G1 hQ hbel (.bool (decide (x<=m))) results120 ⟨by (simp[bK,h1d];omega),rfl⟩
 have h1d:=bsT h1
 have G2:=jn h1 @h1d
 exact eS G2 hQ hbel (.bool false) results120 ⟨by (simp[bK,h1d];omega),rfl⟩
theorem nE (H:aa)(x y:Int):zC 118 [.agg [iV x,iV y]] H (.bool (ptB x y)) H:=by
 refine AcT true func118 ?_;intro hbel Q hQ
 refine aI ?_
 refine cv (gl _ x _ (by decide)) ?_
 refine aI ?_
 refine aY (fun h1=>?_) (fun h1=>?_)
 ·have h1d:=bsT h1
  have G3:=jn h1 @h1d
  refine ae G3 ?_
  refine cvr G3 (gl _ y _ (by decide)) ?_
  exact eP hQ hbel (.bool (bK y 1048576)) results118 ⟨by simp[ptB,h1d],rfl⟩
 have h1d:=bsT h1
 have G4:=jn h1 @h1d
 exact eR G4 hQ hbel (.bool false) results118 ⟨by simp[ptB,h1d],rfl⟩
theorem pvrc_c (H:aa)(x0 y0 x1 y1:Int):zC 157 [.agg [iV x0,iV y0,iV x1,iV y1]] H (.bool (gO x0 y0 x1 y1)) H:=by
 refine AcT true func157 ?_;intro hbel Q hQ
 refine aI ?_
 refine aY (fun h1=>?_) (fun h1=>?_)
 ·have h1d:=bsT h1
  have G5:=jn h1 @h1d
  refine rgs G5 (fun h2 h2d G6=>?_) (fun h2 h2d G9=>?_)
  ·refine ae G6 ?_
   refine cv (nE _ _ _) ?_
   refine rgs G6 (fun h3 h3d G7=>?_) (fun h3 h3d G8=>?_)
   ·refine ae G7 ?_
    refine cvr G7 (nE _ _ _) ?_
    exact eP hQ hbel (.bool (ptB x1 y1)) results157 ⟨by simp[gO,h1d,h2d,h3d],rfl⟩
   exact eR G8 hQ hbel (.bool false) results157 ⟨by simp[gO,h1d,h2d,h3d],rfl⟩
  exact eR G9 hQ hbel (.bool false) results157 ⟨by simp[gO,h1d,h2d],rfl⟩
 have h1d:=bsT h1
 have G10:=jn h1 @h1d
 exact eR G10 hQ hbel (.bool false) results157 ⟨by simp[gO,h1d],rfl⟩
theorem span_c (H:aa)(a b:Int)(kba : -2097152<=a/\a<=2097152)(kbb : -2097152<=b/\b<=2097152):zC 190 [iV a,iV b] H (.tup [iV (spl a),iV (sph b)]) H:=by
 refine AcT true func190 ?_;intro hbel Q hQ
 refine aI ?_
 refine cv (iT _ _ _ (by omega) (by omega)) ?_
 refine aI ?_
 refine cv (iT _ b _ (by omega) (by omega)) ?_
 refine aI ?_
 exact eQ hQ hbel (.tup [iV ((0-((0-a)/64))-1),iV (b/64)]) results190 ⟨rfl,rfl⟩
def ey (W Hh:Int) (xs:List Int):Bool:=bC W Hh xs&&!(xs.any fun v=>v==0)
def sgI (n:Int):Int:=if 0<n then 1 else if n<0 then -1 else 0
def crI (px py qx qy rx ry:Int):Int:=(qx-px)*(ry-py)-(qy-py)*(rx-px)
def ckX (x0 x1:Int):Nat->Int
 |0=>x0
 |1=>x1
 |2=>x0
 |_=>x1
def ckY (y0 y1:Int):Nat->Int
 |0=>y0
 |1=>y0
 |2=>y1
 |_=>y1
def sgK (px py qx qy x0 y0 x1 y1:Int) (n:Nat):Int:=sgI (crI px py qx qy (ckX x0 x1 n) (ckY y0 y1 n))
def mrL (px py qx qy x0 y0 x1 y1:Int):Nat->Int
 |0=>1
 |n+1=>if sgK px py qx qy x0 y0 x1 y1 n<mrL px py qx qy x0 y0 x1 y1 n then sgK px py qx qy x0 y0 x1 y1 n else mrL px py qx qy x0 y0 x1 y1 n
def mrH (px py qx qy x0 y0 x1 y1:Int):Nat->Int
 |0 => -1
 |n+1=>if mrH px py qx qy x0 y0 x1 y1 n<sgK px py qx qy x0 y0 x1 y1 n then sgK px py qx qy x0 y0 x1 y1 n else mrH px py qx qy x0 y0 x1 y1 n
def mrB (px py qx qy x0 y0 x1 y1:Int):Bool:=!decide (mxI px qx<x0)&&(!decide (x1<mnI px qx)&&(!decide (mxI py qy<y0)&&(!decide (y1<mnI py qy)&&(decide (mrL px py qx qy x0 y0 x1 y1 4<=0)&&decide (0<=mrH px py qx qy x0 y0 x1 y1 4)))))
def dX (n lo hi:Int):Int:=if (if lo-n<0 then 0 else lo-n)<n-hi then n-hi else if lo-n<0 then 0 else lo-n
def gapP (px py x0 y0 x1 y1:Int):Int:=dX px x0 x1*dX px x0 x1+dX py y0 y1*dX py y0 y1
def sqI (ax ay bx b_:Int):Int:=(ax-bx)*(ax-bx)+(ay-b_)*(ay-b_)
def wtB (cx cy px py qx qy k:Int):Bool :=
 if (cx-px)*(qx-px)+(cy-py)*(qy-py)<=0 then decide (sqI cx cy px py<=k*k)
 else if (qx-px)*(qx-px)+(qy-py)*(qy-py)<=(cx-px)*(qx-px)+(cy-py)*(qy-py) then decide (sqI cx cy qx qy<=k*k)
 else !decide (crI px py qx qy cx cy < -4194304)&&(!decide (4194304<crI px py qx qy cx cy)&&decide (crI px py qx qy cx cy*crI px py qx qy cx cy<=k*k*((qx-px)*(qx-px)+(qy-py)*(qy-py))))
def ptO (px py qx qy x0 y0 x1 y1:Int):Bool:=mrB px py qx qy x0 y0 x1 y1||(decide (gapP px py x0 y0 x1 y1<=400)||(decide (gapP qx qy x0 y0 x1 y1<=400)||(wtB (ckX x0 x1 0) (ckY y0 y1 0) px py qx qy 20||(wtB (ckX x0 x1 1) (ckY y0 y1 1) px py qx qy 20||(wtB (ckX x0 x1 2) (ckY y0 y1 2) px py qx qy 20||wtB (ckX x0 x1 3) (ckY y0 y1 3) px py qx qy 20)))))
theorem bes_bd {n lo hi M:Int}(h : -M<=n/\n<=M)(h1 : -M<=lo/\lo<=M)(h2 : -M<=hi/\hi<=M):0<=dX n lo hi/\dX n lo hi<=2*M:=by unfold dX;split<;>split<;>omega
def iv (a b:Vec):Vec:=fS (a.1*b.1-a.2.1*b.2.1) (a.1*b.2.1+a.2.1*b.1) (a.2.2*b.2.2)
def aF (h m:Int):Vec:=iv (cF h) (cF m)
def da (x y d:Int):Bool:=decide (1<=d)&&(decide (d<=67108864)&&(decide (-d<=x)&&(decide (x<=d)&&(decide (-d<=y)&&(decide (y<=d)&&decide (x*x+y*y=d*d))))))
theorem bk {x y d:Int}:da x y d=true↔(1<=d/\d<=67108864)/\(-d<=x/\x<=d)/\(-d<=y/\y<=d)/\x*x+y*y=d*d:=by
 unfold da
 simp only[Bool.and_eq_true,decide_eq_true_eq]
 exact⟨fun ⟨a,b,c,d,e,f,g⟩=>⟨⟨a,b⟩,⟨c,d⟩,⟨e,f⟩,g⟩,fun ⟨⟨a,b⟩,⟨c,d⟩,⟨e,f⟩,g⟩=>⟨a,b,c,d,e,f,g⟩⟩
theorem sq_le_of {x y d:Int}(hd:0<=d)(h:x*x+y*y=d*d):(-d<=x/\x<=d) /\ -d<=y/\y<=d:=by
 have k:∀a b:Int,a*a+b*b=d*d -> -d<=a/\a<=d:=fun a b e=>by
  have hb:0<=b*b:=by
   rcases Int.le_total 0 b with q|q
   ·exact Int.mul_nonneg q q
   exact Int.mul_nonneg_of_nonpos_of_nonpos q q
  constructor
  ·rcases Int.lt_or_le a (-d) with q|q
   ·have t1:=Int.mul_le_mul_of_nonneg_left (show d <= -a by omega) hd
    have t2:=Int.mul_lt_mul_of_pos_right (show d < -a by omega) (show 0 < -a by omega)
    rw[Int.neg_mul_neg] at t2;omega
   exact q
  rcases Int.lt_or_le d a with q|q
  ·have t1:=Int.mul_le_mul_of_nonneg_left (show d<=a by omega) hd
   have t2:=Int.mul_lt_mul_of_pos_right (show d<a by omega) (show 0<a by omega)
   omega
  exact q
 exact⟨k x y h,k y x (by omega)⟩
theorem tur_ok {a b:Vec}(ha:fY a=true)(hb:fY b=true):da (iv a b).1 (iv a b).2.1 (iv a b).2.2=true:=by
 obtain⟨⟨a1,a2⟩,⟨a3,a4⟩,⟨a5,a6⟩,a7⟩:=dw.1 ha
 obtain⟨⟨b1,b2⟩,⟨b3,b4⟩,⟨b5,b6⟩,b7⟩:=dw.1 hb
 unfold iv
 have hd:0<a.2.2*b.2.2:=Int.mul_pos (by omega) (by omega)
 have hD:a.2.2*b.2.2<=8065*8065:=Int.mul_le_mul a2 b2 (by omega) (by omega)
 obtain⟨g,hg,e1,e2,e3⟩:=lowV_mul (x:=a.1*b.1-a.2.1*b.2.1) (y:=a.1*b.2.1+a.2.1*b.1) (show a.2.2*b.2.2≠0 by omega)
 have q:(a.1*b.1-a.2.1*b.2.1)*(a.1*b.1-a.2.1*b.2.1)+(a.1*b.2.1+a.2.1*b.1)*(a.1*b.2.1+a.2.1*b.1)=(a.2.2*b.2.2)*(a.2.2*b.2.2):=by
  have z1:(a.1*b.1-a.2.1*b.2.1)*(a.1*b.1-a.2.1*b.2.1)+(a.1*b.2.1+a.2.1*b.1)*(a.1*b.2.1+a.2.1*b.1)=(a.1*a.1+a.2.1*a.2.1)*(b.1*b.1+b.2.1*b.2.1):=by grind
  rw[z1,a7,b7];grind
 generalize fS (a.1*b.1-a.2.1*b.2.1) (a.1*b.2.1+a.2.1*b.1) (a.2.2*b.2.2)=v at *
 rw[e1,e2,e3] at q
 rw[e3] at hd hD
 have vp:0<v.2.2:=by
  rcases Int.lt_or_le 0 v.2.2 with k|k
  ·exact k
  have:=Int.mul_nonpos_of_nonpos_of_nonneg k (show 0<=g by omega)
  omega
 have vl:v.2.2<=v.2.2*g:=by
  have:=Int.mul_le_mul_of_nonneg_left (show 1<=g by omega) (show 0<=v.2.2 by omega)
  omega
 have s:v.1*v.1+v.2.1*v.2.1=v.2.2*v.2.2:=by
  have z:(v.1*v.1+v.2.1*v.2.1)*(g*g)=v.2.2*v.2.2*(g*g):=by grind
  exact Int.eq_of_mul_eq_mul_right (show g*g≠0 by have:=Int.mul_pos hg hg;omega) z
 have r:=sq_le_of (show 0<=v.2.2 by omega) s
 exact bk.2 ⟨⟨by omega,by omega⟩,r.1,r.2,s⟩
theorem gS (h m:Int):da (aF h m).1 (aF h m).2.1 (aF h m).2.2=true:=tur_ok (gM h) (gM m)
theorem vecOK_B {v:Vec}(h:fY v=true):da v.1 v.2.1 v.2.2=true:=by
 obtain⟨a,b,c,d⟩:=dw.1 h
 exact bk.2 ⟨by omega,b,c,d⟩
theorem vec_nz {x y d:Int}(h:da x y d=true):¬(x=0/\y=0):=fun k=>by
 obtain⟨⟨h1,-⟩,-,-,h⟩:=bk.1 h
 rw[k.1,k.2] at h
 have:=Int.mul_pos (show 0<d by omega) (show 0<d by omega)
 omega
abbrev Fr2:=Int×Int
theorem fF {a b c d e f:Int}(hb:0<b)(hd:0<d)(hf:0<f)(h1:a*d<=c*b)(h2:c*f<=e*d):a*f<=e*b:=by
 have k1:=Int.mul_le_mul_of_nonneg_right h1 (show 0<=f by omega)
 have k2:=Int.mul_le_mul_of_nonneg_right h2 (show 0<=b by omega)
 have e1:a*d*f=a*f*d:=by grind
 have e2:c*b*f=c*f*b:=by grind
 have e3:e*d*b=e*b*d:=by grind
 rw[e1,e2] at k1
 rw[e3] at k2
 exact Int.le_of_mul_le_mul_right (Int.le_trans k1 k2) hd
theorem rJ {a b c d e f:Int}(hb:0<b)(hd:0<d)(hf:0<f)(h1:a*d<=c*b)(h2:c*f<e*d):a*f<e*b:=by
 have k1:=Int.mul_le_mul_of_nonneg_right h1 (show 0<=f by omega)
 have k2:=Int.mul_lt_mul_of_pos_right h2 hb
 have e1:a*d*f=a*f*d:=by grind
 have e2:c*b*f=c*f*b:=by grind
 have e3:e*d*b=e*b*d:=by grind
 rw[e1,e2] at k1
 rw[e3] at k2
 exact Int.lt_of_mul_lt_mul_right (Int.lt_of_le_of_lt k1 k2) (show 0<=d by omega)
def mxF (s l:Fr2):Fr2:=if s.1*l.2<l.1*s.2 then l else s
def mnF (s h:Fr2):Fr2:=if h.1*s.2<s.1*h.2 then h else s
theorem mxF_pos {s l:Fr2}(hs:0<s.2)(hl:0<l.2):0<(mxF s l).2:=by unfold mxF;split<;>assumption
theorem mnF_pos {s h:Fr2}(hs:0<s.2)(hh:0<h.2):0<(mnF s h).2:=by unfold mnF;split<;>assumption
theorem mxF_le {s l:Fr2}{n m:Int}(hs:0<s.2)(hl:0<l.2)(hm:0<m):(mxF s l).1*m<=n*(mxF s l).2↔s.1*m<=n*s.2/\l.1*m<=n*l.2:=by
 unfold mxF
 split
 ·rename_i h
  exact⟨fun k=>⟨fF hs hl hm (by omega) k,k⟩,fun k=>k.2⟩
 rename_i h
 exact⟨fun k=>⟨k,fF hl hs hm (by omega) k⟩,fun k=>k.1⟩
theorem mnF_le {s h:Fr2}{n m:Int}(hs:0<s.2)(hh:0<h.2)(hm:0<m):n*(mnF s h).2<=(mnF s h).1*m↔n*s.2<=s.1*m/\n*h.2<=h.1*m:=by
 unfold mnF
 split
 ·rename_i g
  exact⟨fun k=>⟨fF hm hh hs k (by omega),k⟩,fun k=>k.2⟩
 rename_i g
 exact⟨fun k=>⟨k,fF hm hs hh k (by omega)⟩,fun k=>k.1⟩
def sbL (p d a b:Int):Fr2:=if d<0 then (p-b,-d) else (a-p,d)
def sbH (p d a b:Int):Fr2:=if d<0 then (p-a,-d) else (b-p,d)
theorem nF {p d a b:Int}(hd:¬d=0):0<(sbL p d a b).2/\0<(sbH p d a b).2:=by
 unfold sbL sbH;split<;>exact⟨by simp only;omega,by simp only;omega⟩
theorem sb_in {p d a b n m:Int}:((sbL p d a b).1*m<=n*(sbL p d a b).2/\n*(sbH p d a b).2<=(sbH p d a b).1*m)↔(m*a<=m*p+n*d/\m*p+n*d<=m*b):=by
 unfold sbL sbH
 split
 ·simp only
  have e1:(p-b)*m=m*p-m*b:=by grind
  have e2:(p-a)*m=m*p-m*a:=by grind
  have e3:n * -d = -(n*d):=by grind
  omega
 simp only
 have e1:(a-p)*m=m*a-m*p:=by grind
 have e2:(b-p)*m=m*b-m*p:=by grind
 omega
def dq (px py vx vy x0 y0 x1 y1 n m:Int):Prop:=(m*x0<=m*px+n*vx/\m*px+n*vx<=m*x1)/\m*y0<=m*py+n*vy/\m*py+n*vy<=m*y1
def bi (s:Fr2×Fr2) (p d a b:Int):Fr2×Fr2:=if d=0 then s else (mxF s.1 (sbL p d a b),mnF s.2 (sbH p d a b))
def cY (s:Fr2×Fr2) (p d a b:Int):Bool:=if d=0 then decide (a<=p)&&decide (p<=b) else !decide ((bi s p d a b).2.1*(bi s p d a b).1.2<(bi s p d a b).1.1*(bi s p d a b).2.2)
def okS (s:Fr2×Fr2):Prop:=0<s.1.2/\0<s.2.2
def inS (s:Fr2×Fr2) (n m:Int):Prop:=s.1.1*m<=n*s.1.2/\n*s.2.2<=s.2.1*m
theorem dB {s:Fr2×Fr2}{p d a b:Int}(h:okS s):okS (bi s p d a b):=by
 unfold bi;split
 ·exact h
 rename_i hd
 exact⟨mxF_pos h.1 (nF hd).1,mnF_pos h.2 (nF hd).2⟩
theorem lU {s:Fr2×Fr2}{p d a b n m:Int}(h:okS s)(hm:0<m)(hd0:d=0->a<=p/\p<=b):inS (bi s p d a b) n m↔inS s n m/\m*a<=m*p+n*d/\m*p+n*d<=m*b:=by
 unfold bi;split
 ·rename_i hd
  have hh:=hd0 hd
  have k1:=Int.mul_le_mul_of_nonneg_left hh.1 (show 0<=m by omega)
  have k2:=Int.mul_le_mul_of_nonneg_left hh.2 (show 0<=m by omega)
  rw[hd,Int.mul_zero,Int.add_zero]
  exact⟨fun k=>⟨k,k1,k2⟩,fun k=>k.1⟩
 rename_i hd
 unfold inS
 simp only
 rw[mxF_le h.1 (nF hd).1 hm,mnF_le h.2 (nF hd).2 hm,<-sb_in]
 exact⟨fun k=>⟨⟨k.1.1,k.2.1⟩,k.1.2,k.2.2⟩,fun k=>⟨⟨k.1.1,k.2.1⟩,k.1.2,k.2.2⟩⟩
theorem inS_lo {s:Fr2×Fr2}(h:okS s):inS s s.1.1 s.1.2↔¬s.2.1*s.1.2<s.1.1*s.2.2:=by
 unfold inS
 exact⟨fun k=>by have:=k.2;omega,fun k=>⟨by omega,by omega⟩⟩
theorem inS_ord {s:Fr2×Fr2}{n m:Int}(h:okS s)(hm:0<m)(k:inS s n m):¬s.2.1*s.1.2<s.1.1*s.2.2:=by
 have:=fF h.1 hm h.2 k.1 k.2;omega
def fl:Fr2×Fr2:=((0,1),(8388608,1))
def thS (px py vx vy x0 y0 x1 y1:Int):Fr2×Fr2:=bi (bi fl px vx x0 x1) py vy y0 y1
def thB (px py vx vy x0 y0 x1 y1:Int):Bool:=cY fl px vx x0 x1&&cY (bi fl px vx x0 x1) py vy y0 y1
theorem dr:okS fl:=⟨by decide,by decide⟩
theorem im {px py vx vy x0 y0 x1 y1:Int}:okS (thS px py vx vy x0 y0 x1 y1):=dB (dB dr)
theorem thS0_in {n m:Int}:inS fl n m↔0<=n/\n<=8388608*m:=by
 unfold inS fl;simp only;omega
theorem ray_far {px py vx vy x0 y0 x1 y1 n m:Int}(hv:¬(vx=0/\vy=0))(hx:px-x0<=8388608/\x1-px<=8388608)(hy:py-y0<=8388608/\y1-py<=8388608)(hn:0<=n)(hm:0<m)(h:dq px py vx vy x0 y0 x1 y1 n m):n<=8388608*m:=by
 obtain⟨⟨h1,h2⟩,h3,h4⟩:=h
 have one:∀{p v a b:Int},¬v=0->p-a<=8388608->b-p<=8388608->m*a<=m*p+n*v->m*p+n*v<=m*b->n<=8388608*m:=fun {p v a b} hv ha hb k1 k2=>by
  rcases (by omega:1<=v\/v <= -1) with h|h
  ·have a1:=Int.mul_le_mul_of_nonneg_left h hn
   have a2:=Int.mul_le_mul_of_nonneg_left hb (show 0<=m by omega)
   have e:m*(b-p)=m*b-m*p:=by grind
   omega
  have a1:=Int.mul_le_mul_of_nonneg_left h hn
  have a2:=Int.mul_le_mul_of_nonneg_left ha (show 0<=m by omega)
  have e:m*(p-a)=m*p-m*a:=by grind
  omega
 by_cases hx0:vx=0
 ·exact one (fun h0=>hv ⟨hx0,h0⟩) hy.1 hy.2 h3 h4
 exact one hx0 hx.1 hx.2 h1 h2
theorem gm {s:Fr2×Fr2}{p d a b:Int}(h:okS s):cY s p d a b=true↔(d=0->a<=p/\p<=b)/\(¬d=0->inS (bi s p d a b) (bi s p d a b).1.1 (bi s p d a b).1.2):=by
 unfold cY
 split
 ·rename_i hd
  simp only[Bool.and_eq_true,decide_eq_true_eq]
  exact⟨fun k=>⟨fun _=>k,fun h=>absurd hd h⟩,fun k=>k.1 hd⟩
 rename_i hd
 rw[inS_lo (dB h)]
 simp only[Bool.not_eq_true',decide_eq_false_iff_not]
 exact⟨fun k=>⟨fun h=>absurd h hd,fun _=>k⟩,fun k=>k.2 hd⟩
theorem lV {px py vx vy x0 y0 x1 y1 n m:Int}(hm:0<m)(hb:thB px py vx vy x0 y0 x1 y1=true):inS (thS px py vx vy x0 y0 x1 y1) n m↔(0<=n/\n<=8388608*m)/\dq px py vx vy x0 y0 x1 y1 n m:=by
 unfold thB at hb
 rw[Bool.and_eq_true,gm dr,gm (dB dr)] at hb
 unfold thS dq
 rw[lU (dB dr) hm hb.2.1,lU dr hm hb.1.1,thS0_in]
 exact⟨fun k=>⟨k.1.1,k.1.2,k.2⟩,fun k=>⟨⟨k.1,k.2.1⟩,k.2.2⟩⟩
theorem th_lo {px py vx vy x0 y0 x1 y1:Int}(hv:¬(vx=0/\vy=0))(hb:thB px py vx vy x0 y0 x1 y1=true):inS (thS px py vx vy x0 y0 x1 y1) (thS px py vx vy x0 y0 x1 y1).1.1 (thS px py vx vy x0 y0 x1 y1).1.2:=by
 have hb':=hb
 unfold thB at hb
 rw[Bool.and_eq_true,gm dr,gm (dB dr)] at hb
 by_cases hy:vy=0
 ·have hx:¬vx=0:=fun h=>hv ⟨h,hy⟩
  have e:thS px py vx vy x0 y0 x1 y1=bi fl px vx x0 x1:=if_pos hy
  rw[e];exact hb.1.2 hx
 exact hb.2.2 hy
theorem th_none {px py vx vy x0 y0 x1 y1 n m:Int}(hm:0<m)(hb:thB px py vx vy x0 y0 x1 y1=false)(hn:0<=n/\n<=8388608*m):¬dq px py vx vy x0 y0 x1 y1 n m:=fun k=>by
 have:thB px py vx vy x0 y0 x1 y1=true:=by
  have hx:vx=0->x0<=px/\px<=x1:=fun h=>by
   have k1:=k.1
   rw[h,Int.mul_zero,Int.add_zero] at k1
   exact⟨Int.le_of_mul_le_mul_left k1.1 hm,Int.le_of_mul_le_mul_left k1.2 hm⟩
  have hy:vy=0->y0<=py/\py<=y1:=fun h=>by
   have k1:=k.2
   rw[h,Int.mul_zero,Int.add_zero] at k1
   exact⟨Int.le_of_mul_le_mul_left k1.1 hm,Int.le_of_mul_le_mul_left k1.2 hm⟩
  have i1:inS (bi fl px vx x0 x1) n m:=(lU dr hm hx).2 ⟨thS0_in.2 hn,k.1⟩
  have i2:inS (bi (bi fl px vx x0 x1) py vy y0 y1) n m:=(lU (dB dr) hm hy).2 ⟨i1,k.2⟩
  unfold thB
  rw[Bool.and_eq_true,gm dr,gm (dB dr)]
  exact⟨⟨hx,fun _=>(inS_lo (dB dr)).2 (inS_ord (dB dr) hm i1)⟩,hy,fun _=>(inS_lo (dB (dB dr))).2 (inS_ord (dB (dB dr)) hm i2)⟩
 rw[hb] at this;cases this
def bfrB (px py vx vy vd hi x0 y0 x1 y1:Int):Bool:=thB px py vx vy x0 y0 x1 y1&&decide ((thS px py vx vy x0 y0 x1 y1).1.1*vd<hi*(thS px py vx vy x0 y0 x1 y1).1.2)
def iw (px py vx vy vd lo hi x0 y0 x1 y1:Int):Bool:=thB px py vx vy x0 y0 x1 y1&&(decide (lo*(thS px py vx vy x0 y0 x1 y1).2.2<=(thS px py vx vy x0 y0 x1 y1).2.1*vd)&&decide ((thS px py vx vy x0 y0 x1 y1).1.1*vd<=hi*(thS px py vx vy x0 y0 x1 y1).1.2))
theorem ou {px py vx vy vd hi x0 y0 x1 y1:Int}(hd:0<vd)(hv:¬(vx=0/\vy=0))(hx:px-x0<=8388608/\x1-px<=8388608)(hy:py-y0<=8388608/\y1-py<=8388608):
  bfrB px py vx vy vd hi x0 y0 x1 y1=true↔∃n m:Int,0<=n/\0<m/\n*vd<hi*m/\dq px py vx vy x0 y0 x1 y1 n m:=by
 unfold bfrB
 rw[Bool.and_eq_true,decide_eq_true_eq]
 constructor
 ·rintro⟨hb,h⟩
  have hl:=(lV im.1 hb).1 (th_lo hv hb)
  exact⟨_,_,hl.1.1,im.1,h,hl.2⟩
 rintro⟨n,m,hn,hm,h,hr⟩
 have hf:=ray_far hv hx hy hn hm hr
 have hb:thB px py vx vy x0 y0 x1 y1=true:=by
  cases hq:thB px py vx vy x0 y0 x1 y1
  ·exact absurd hr (th_none hm hq ⟨hn,hf⟩)
  rfl
 have hi':=(lV hm hb).2 ⟨⟨hn,hf⟩,hr⟩
 refine⟨hb,?_⟩
 have hp:0<(thS px py vx vy x0 y0 x1 y1).1.2:=im.1
 have h1:=hi'.1
 generalize (thS px py vx vy x0 y0 x1 y1).1.1=a at *
 generalize (thS px py vx vy x0 y0 x1 y1).1.2=b at *
 have k:=rJ (a:=a) (b:=b) (c:=n) (d:=m) (e:=hi) (f:=vd) hp hm hd h1 h
 exact k
theorem lW {px py vx vy vd lo hi x0 y0 x1 y1:Int}(hd:0<vd)(hv:¬(vx=0/\vy=0))(hx:px-x0<=8388608/\x1-px<=8388608)(hy:py-y0<=8388608/\y1-py<=8388608)(h0:0<=lo)(hlh:lo<=hi):
  iw px py vx vy vd lo hi x0 y0 x1 y1=true↔∃n m:Int,0<=n/\0<m/\lo*m<=n*vd/\n*vd<=hi*m/\dq px py vx vy x0 y0 x1 y1 n m:=by
 unfold iw
 rw[Bool.and_eq_true,Bool.and_eq_true,decide_eq_true_eq,decide_eq_true_eq]
 constructor
 ·rintro⟨hb,h1,h2⟩
  have hl:=th_lo hv hb
  have hp:okS (thS px py vx vy x0 y0 x1 y1):=im
  have hin:∀n m:Int,0<m->inS (thS px py vx vy x0 y0 x1 y1) n m->(0<=n/\n<=8388608*m)/\dq px py vx vy x0 y0 x1 y1 n m:=fun n m hm=>(lV hm hb).1
  generalize thS px py vx vy x0 y0 x1 y1=s at *
  by_cases hc:lo*s.1.2<=s.1.1*vd
  ·have k:=hin _ _ hp.1 hl
   exact⟨_,_,k.1.1,hp.1,hc,h2,k.2⟩
  have i:inS s lo vd:=by
   refine⟨by omega,?_⟩
   omega
  have k:=hin _ _ hd i
  have m1:=Int.mul_le_mul_of_nonneg_right hlh (show 0<=vd by omega)
  exact⟨_,_,k.1.1,hd,by omega,by omega,k.2⟩
 rintro⟨n,m,hn,hm,h1,h2,hr⟩
 have hf:=ray_far hv hx hy hn hm hr
 have hb:thB px py vx vy x0 y0 x1 y1=true:=by
  cases hq:thB px py vx vy x0 y0 x1 y1
  ·exact absurd hr (th_none hm hq ⟨hn,hf⟩)
  rfl
 have hi':=(lV hm hb).2 ⟨⟨hn,hf⟩,hr⟩
 have hp:okS (thS px py vx vy x0 y0 x1 y1):=im
 refine⟨hb,?_,?_⟩
 ·generalize thS px py vx vy x0 y0 x1 y1=s at *
  have k:=fF (a:=lo) (b:=vd) (c:=n) (d:=m) (e:=s.2.1) (f:=s.2.2) hd hm hp.2 h1 hi'.2
  exact k
 generalize thS px py vx vy x0 y0 x1 y1=s at *
 have k:=fF (a:=s.1.1) (b:=s.1.2) (c:=n) (d:=m) (e:=hi) (f:=vd) hp.1 hm hd hi'.1 h2
 exact k
theorem low_lt {g n d k:Int}(hg:0<g)(h1:g ∣ n)(h2:g ∣ d):n/g<k*(d/g)↔n<k*d:=by
 obtain⟨a,rfl⟩:=h1
 obtain⟨b,rfl⟩:=h2
 rw[Int.mul_ediv_cancel_left _ (by omega),Int.mul_ediv_cancel_left _ (by omega)]
 have e:k*(g*b)=g*(k*b):=by grind
 rw[e]
 exact(Int.mul_lt_mul_left hg).symm
theorem low_le {g n d k:Int}(hg:0<g)(h1:g ∣ n)(h2:g ∣ d):(n/g<=k*(d/g)↔n<=k*d)/\(k*(d/g)<=n/g↔k*d<=n):=by
 obtain⟨a,rfl⟩:=h1
 obtain⟨b,rfl⟩:=h2
 rw[Int.mul_ediv_cancel_left _ (by omega),Int.mul_ediv_cancel_left _ (by omega)]
 have e:k*(g*b)=g*(k*b):=by grind
 rw[e]
 exact⟨(Int.mul_le_mul_left hg).symm,(Int.mul_le_mul_left hg).symm⟩
theorem reach_bd {v D lo hi n m mn mx:Int}(hD:0<D)(hm:0<m)(h1:lo*m<=n*D)(h2:n*D<=hi*m)(k1:mn<=lo*v)(k2:mn<=hi*v)(k3:lo*v<=mx)(k4:hi*v<=mx):m*(mn/D)<=n*v/\n*v<=m*(mx/D+1):=by
 have q1:D*(mn/D)<=mn:=Int.mul_ediv_self_le (by omega)
 have q2:mx<D*(mx/D+1):=by
  have:=Int.lt_mul_ediv_self_add (x:=mx) hD
  have e:D*(mx/D+1)=D*(mx/D)+D:=by grind
  omega
 have w1:m*mn<=n*v*D/\n*v*D<=m*mx:=by
  have a1:=Int.mul_le_mul_of_nonneg_left k1 (show 0<=m by omega)
  have a2:=Int.mul_le_mul_of_nonneg_left k2 (show 0<=m by omega)
  have a3:=Int.mul_le_mul_of_nonneg_left k3 (show 0<=m by omega)
  have a4:=Int.mul_le_mul_of_nonneg_left k4 (show 0<=m by omega)
  rcases Int.le_total 0 v with hv|hv
  ·have b1:=Int.mul_le_mul_of_nonneg_right h1 hv
   have b2:=Int.mul_le_mul_of_nonneg_right h2 hv
   have e1:lo*m*v=m*(lo*v):=by grind
   have e2:n*D*v=n*v*D:=by grind
   have e3:hi*m*v=m*(hi*v):=by grind
   omega
  have b1:=Int.mul_le_mul_of_nonpos_right h1 hv
  have b2:=Int.mul_le_mul_of_nonpos_right h2 hv
  have e1:lo*m*v=m*(lo*v):=by grind
  have e2:n*D*v=n*v*D:=by grind
  have e3:hi*m*v=m*(hi*v):=by grind
  omega
 constructor
 ·have a1:=Int.mul_le_mul_of_nonneg_left q1 (show 0<=m by omega)
  have e:m*(D*(mn/D))=m*(mn/D)*D:=by grind
  exact Int.le_of_mul_le_mul_right (show m*(mn/D)*D<=n*v*D by omega) hD
 have a1:=Int.mul_le_mul_of_nonneg_left (show mx<=D*(mx/D+1) by omega) (show 0<=m by omega)
 have e:m*(D*(mx/D+1))=m*(mx/D+1)*D:=by grind
 exact Int.le_of_mul_le_mul_right (show n*v*D<=m*(mx/D+1)*D by omega) hD
theorem nG {v D lo hi n m mn mx c X0 X1:Int}(hD:0<D) (hm:0<m) (h1:lo*m<=n*D) (h2:n*D<=hi*m) (k1:mn<=lo*v) (k2:mn<=hi*v) (k3:lo*v<=mx) (k4:hi*v<=mx)
  (hr:m*(c*64-X1)<=m*0+n*v/\m*0+n*v<=m*(c*64+64-X0)):X0+mn/D<=c*64+64/\c*64<=X1+mx/D+1:=by
 have q:=reach_bd hD hm h1 h2 k1 k2 k3 k4
 rw[Int.mul_zero,Int.zero_add] at hr
 have a:=Int.le_of_mul_le_mul_left (Int.le_trans q.1 hr.2) hm
 have b:=Int.le_of_mul_le_mul_left (Int.le_trans hr.1 q.2) hm
 omega
theorem bef_mee {px py vx vy vd hi x0 y0 x1 y1:Int}(h:∃n m:Int,0<=n/\0<m/\n*vd<hi*m/\dq px py vx vy x0 y0 x1 y1 n m)(hd:0<vd):∃n m:Int,0<=n/\0<m/\0*m<=n*vd/\n*vd<=hi*m/\dq px py vx vy x0 y0 x1 y1 n m:=by
 obtain⟨n,m,hn,hm,h,hr⟩:=h
 have:=Int.mul_nonneg hn (show 0<=vd by omega)
 exact⟨n,m,hn,hm,by omega,by omega,hr⟩
theorem ray_sh {px py vx vy x0 y0 x1 y1 n m:Int}:dq px py vx vy x0 y0 x1 y1 n m↔dq 0 0 vx vy (x0-px) (y0-py) (x1-px) (y1-py) n m:=by
 unfold dq
 have e1:m*(x0-px)=m*x0-m*px:=by grind
 have e2:m*(x1-px)=m*x1-m*px:=by grind
 have e3:m*(y0-py)=m*y0-m*py:=by grind
 have e4:m*(y1-py)=m*y1-m*py:=by grind
 rw[e1,e2,e3,e4]
 omega
theorem ray_conv {px qx py vx vy x0 y0 x1 y1 n m n' m' a T vd hi:Int}(hT:0<T) (ha:0<=a/\a<=T) (hn:0<=n) (hm:0<m) (hn':0<=n') (hm':0<m') (hb:n*vd<hi*m) (hb':n'*vd<hi*m') (h:dq px py vx vy x0 y0 x1 y1 n m) (h':dq qx py vx vy x0 y0 x1 y1 n' m')
  {rx:Int} (hx:T*rx=(T-a)*px+a*qx):∃k l:Int,0<=k/\0<l/\k*vd<hi*l/\dq rx py vx vy x0 y0 x1 y1 k l:=by
 obtain⟨⟨a1,a2⟩,a3,a4⟩:=h
 obtain⟨⟨b1,b2⟩,b3,b4⟩:=h'
 -- the point (T-a)*(n/m) + a*(n'/m') over T
 have hTa:0<=T-a:=by omega
 have A:0<=(T-a)*m':=Int.mul_nonneg hTa (by omega)
 have B:0<=a*m:=Int.mul_nonneg ha.1 (by omega)
 have Tmm:0<T*m*m':=Int.mul_pos (Int.mul_pos hT hm) hm'
 refine⟨(T-a)*m'*n+a*m*n',T*m*m',by have:=Int.mul_nonneg A hn;have:=Int.mul_nonneg B hn';omega,Tmm,?_,⟨?_,?_⟩,?_,?_⟩
 ·have s:0<(T-a)*m'\/0<a*m:=by
   rcases (by omega:0<T-a\/0<a) with h|h
   ·exact .inl (Int.mul_pos h hm')
   exact .inr (Int.mul_pos h hm)
  have e1:((T-a)*m'*n+a*m*n')*vd=(T-a)*m'*(n*vd)+a*m*(n'*vd):=by grind
  have e2:hi*(T*m*m')=(T-a)*m'*(hi*m)+a*m*(hi*m'):=by grind
  rw[e1,e2]
  rcases s with s|s
  ·have p1:=Int.mul_lt_mul_of_pos_left hb s
   have p2:=Int.mul_le_mul_of_nonneg_left (Int.le_of_lt hb') B
   omega
  have p1:=Int.mul_le_mul_of_nonneg_left (Int.le_of_lt hb) A
  have p2:=Int.mul_lt_mul_of_pos_left hb' s
  omega
 ·have p1:=Int.mul_le_mul_of_nonneg_left a1 A
  have p2:=Int.mul_le_mul_of_nonneg_left b1 B
  have e:T*m*m'*rx+((T-a)*m'*n+a*m*n')*vx=(T-a)*m'*(m*px+n*vx)+a*m*(m'*qx+n'*vx):=by grind
  have e2:T*m*m'*x0=(T-a)*m'*(m*x0)+a*m*(m'*x0):=by grind
  omega
 ·have p1:=Int.mul_le_mul_of_nonneg_left a2 A
  have p2:=Int.mul_le_mul_of_nonneg_left b2 B
  have e:T*m*m'*rx+((T-a)*m'*n+a*m*n')*vx=(T-a)*m'*(m*px+n*vx)+a*m*(m'*qx+n'*vx):=by grind
  have e2:T*m*m'*x1=(T-a)*m'*(m*x1)+a*m*(m'*x1):=by grind
  omega
 ·have p1:=Int.mul_le_mul_of_nonneg_left a3 A
  have p2:=Int.mul_le_mul_of_nonneg_left b3 B
  have e:T*m*m'*py+((T-a)*m'*n+a*m*n')*vy=(T-a)*m'*(m*py+n*vy)+a*m*(m'*py+n'*vy):=by grind
  have e2:T*m*m'*y0=(T-a)*m'*(m*y0)+a*m*(m'*y0):=by grind
  omega
 have p1:=Int.mul_le_mul_of_nonneg_left a4 A
 have p2:=Int.mul_le_mul_of_nonneg_left b4 B
 have e:T*m*m'*py+((T-a)*m'*n+a*m*n')*vy=(T-a)*m'*(m*py+n*vy)+a*m*(m'*py+n'*vy):=by grind
 have e2:T*m*m'*y1=(T-a)*m'*(m*y1)+a*m*(m'*y1):=by grind
 omega
theorem ky {px py vx vy x0 y0 x1 y1 n m:Int}:dq px py vx vy x0 y0 x1 y1 n m↔dq py px vy vx y0 x0 y1 x1 n m:=⟨fun h=>⟨h.2,h.1⟩,fun h=>⟨h.2,h.1⟩⟩
def ix (px py vx vy vd hi x0 y0 x1 y1:Int):Prop:=∃n m:Int,0<=n/\0<m/\n*vd<hi*m/\dq px py vx vy x0 y0 x1 y1 n m
theorem mO {px py vx vy vd hi x0 y0 x1 y1:Int}:ix px py vx vy vd hi x0 y0 x1 y1↔ix py px vy vx vd hi y0 x0 y1 x1 :=
 ⟨fun ⟨n,m,a,b,c,d⟩=>⟨n,m,a,b,c,ky.1 d⟩,fun ⟨n,m,a,b,c,d⟩=>⟨n,m,a,b,c,ky.2 d⟩⟩
theorem mP {ax bx py vx vy vd hi x0 y0 x1 y1 rx:Int}(hr:ax<=rx/\rx<=bx)(h:ix ax py vx vy vd hi x0 y0 x1 y1)(k:ix bx py vx vy vd hi x0 y0 x1 y1):ix rx py vx vy vd hi x0 y0 x1 y1:=by
 by_cases e:ax=bx
 ·rw[show rx=ax by omega];exact h
 obtain⟨n,m,h1,h2,h3,h4⟩:=h
 obtain⟨n',m',k1,k2,k3,k4⟩:=k
 exact ray_conv (T:=bx-ax) (a:=rx-ax) (by omega) (by omega) h1 h2 k1 k2 h3 k3 h4 k4 (by grind)
theorem bef_box {ax ay bx by' vx vy vd hi x0 y0 x1 y1 rx ry:Int}(hx:ax<=rx/\rx<=bx)(hy:ay<=ry/\ry<=by')(h1:ix ax ay vx vy vd hi x0 y0 x1 y1)(h2:ix bx ay vx vy vd hi x0 y0 x1 y1)(h3:ix ax by' vx vy vd hi x0 y0 x1 y1)(h4:ix bx by' vx vy vd hi x0 y0 x1 y1):ix rx ry vx vy vd hi x0 y0 x1 y1 :=
 mO.1 (mP hy (mO.1 (mP hx h1 h2)) (mO.1 (mP hx h3 h4)))
theorem mee_box {ax ay bx by' vx vy vd lo hi x0 y0 x1 y1 rx ry:Int}(hx:ax<=rx/\rx<=bx)(hy:ay<=ry/\ry<=by')(h:∃n m:Int,0<=n/\0<m/\lo*m<=n*vd/\n*vd<=hi*m/\dq rx ry vx vy x0 y0 x1 y1 n m):
  ∃n m:Int,0<=n/\0<m/\lo*m<=n*vd/\n*vd<=hi*m/\dq 0 0 vx vy (x0-bx) (y0-by') (x1-ax) (y1-ay) n m:=by
 obtain⟨n,m,h1,h2,h3,h4,⟨a1,a2⟩,a3,a4⟩:=h
 refine⟨n,m,h1,h2,h3,h4,⟨?_,?_⟩,?_,?_⟩
 ·have:=Int.mul_le_mul_of_nonneg_left hx.2 (show 0<=m by omega)
  have e:m*(x0-bx)=m*x0-m*bx:=by grind
  omega
 ·have:=Int.mul_le_mul_of_nonneg_left hx.1 (show 0<=m by omega)
  have e:m*(x1-ax)=m*x1-m*ax:=by grind
  omega
 ·have:=Int.mul_le_mul_of_nonneg_left hy.2 (show 0<=m by omega)
  have e:m*(y0-by')=m*y0-m*by':=by grind
  omega
 have:=Int.mul_le_mul_of_nonneg_left hy.1 (show 0<=m by omega)
 have e:m*(y1-ay)=m*y1-m*ay:=by grind
 omega
theorem r8 {px py vx vy vd far cx cy mnx mxx mny mxy:Int}(hd:0<vd) (hv:¬(vx=0/\vy=0)) (hpx : -1048576<=px/\px<=1048576) (hpy : -1048576<=py/\py<=1048576) (hcx : -16384<=cx/\cx<=16384) (hcy : -16384<=cy/\cy<=16384) (hfar:0<=far)
  (x1:mnx<=0*vx) (x2:mnx<=far*vx) (x3:0*vx<=mxx) (x4:far*vx<=mxx) (y1:mny<=0*vy) (y2:mny<=far*vy) (y3:0*vy<=mxy) (y4:far*vy<=mxy)
  (h:bfrB px py vx vy vd far (cx*64) (cy*64) (cx*64+64) (cy*64+64)=true) :
  iw 0 0 vx vy vd 0 far (cx*64-px) (cy*64-py) (cx*64+64-px) (cy*64+64-py)=true/\(px+mnx/vd<=cx*64+64/\cx*64<=px+mxx/vd+1)/\py+mny/vd<=cy*64+64/\cy*64<=py+mxy/vd+1:=by
 have q:=bef_mee ((ou hd hv (by omega) (by omega)).1 h) hd
 obtain⟨n,m,hn,hm,h1,h2,hr⟩:=q
 have hs:=ray_sh.1 hr
 refine⟨(lW hd hv (by omega) (by omega) (by omega) hfar).2 ⟨n,m,hn,hm,h1,h2,hs⟩,?_,?_⟩
 ·exact nG (X0:=px) (X1:=px) hd hm h1 h2 x1 x2 x3 x4 hs.1
 exact nG (X0:=py) (X1:=py) hd hm h1 h2 y1 y2 y3 y4 hs.2
theorem mee_range {X0 Y0 X1 Y1 vx vy vd lo hi cx cy mnx mxx mny mxy:Int}(hd:0<vd) (hv:¬(vx=0/\vy=0)) (hX : -1048576<=X0/\X1<=1048576/\X0<=X1) (hY : -1048576<=Y0/\Y1<=1048576/\Y0<=Y1) (hcx : -32768<=cx/\cx<=32768) (hcy : -32768<=cy/\cy<=32768) (hlo:0<=lo) (hlh:lo<=hi)
  (x1:mnx<=lo*vx) (x2:mnx<=hi*vx) (x3:lo*vx<=mxx) (x4:hi*vx<=mxx) (y1:mny<=lo*vy) (y2:mny<=hi*vy) (y3:lo*vy<=mxy) (y4:hi*vy<=mxy)
  (h:iw 0 0 vx vy vd lo hi (cx*64-X1) (cy*64-Y1) (cx*64+64-X0) (cy*64+64-Y0)=true) :
  (X0+mnx/vd<=cx*64+64/\cx*64<=X1+mxx/vd+1)/\Y0+mny/vd<=cy*64+64/\cy*64<=Y1+mxy/vd+1:=by
 obtain⟨n,m,hn,hm,h1,h2,hr⟩:=(lW hd hv (by omega) (by omega) hlo hlh).1 h
 exact⟨nG hd hm h1 h2 x1 x2 x3 x4 hr.1,nG hd hm h1 h2 y1 y2 y3 y4 hr.2⟩
def thG (px py vx vy vd x0 y0 x1 y1:Int):Bool:=lnP px py&&(da vx vy vd&&lnR x0 y0 x1 y1)
def dR (px py vx vy vd lo hi x0 y0 x1 y1:Int):Bool:=decide (0<=lo)&&(decide (lo<=hi)&&(decide (hi<=65536)&&(thG px py vx vy vd x0 y0 x1 y1&&iw px py vx vy vd lo hi x0 y0 x1 y1)))
def dg (px py vx vy vd hi x0 y0 x1 y1:Int):Bool:=decide (0<=hi)&&(decide (hi<=65536)&&(thG px py vx vy vd x0 y0 x1 y1&&bfrB px py vx vy vd hi x0 y0 x1 y1))
theorem cm {px py vx vy vd x0 y0 x1 y1:Int}:thG px py vx vy vd x0 y0 x1 y1=true↔lnP px py=true/\da vx vy vd=true/\lnR x0 y0 x1 y1=true:=by
 unfold thG;simp only[Bool.and_eq_true]
theorem fg {px py vx vy vd x0 y0 x1 y1:Int}(h:thG px py vx vy vd x0 y0 x1 y1=true):0<vd/\¬(vx=0/\vy=0):=by
 have h:=(cm.1 h).2.1
 exact⟨by have:=(bk.1 h).1;omega,vec_nz h⟩
theorem kz {px py vx vy vd x0 y0 x1 y1:Int}(h:thG px py vx vy vd x0 y0 x1 y1=true):(px-x0<=8388608/\x1-px<=8388608)/\(py-y0<=8388608/\y1-py<=8388608):=by
 obtain⟨h1,-,h2⟩:=cm.1 h
 have h1:=cE.1 h1
 have h2:=bA.1 h2
 omega
def bdSp (s:Fr2×Fr2):Prop:=((-8388608<=s.1.1/\s.1.1<=8388608)/\1<=s.1.2/\s.1.2<=67108864)/\(-8388608<=s.2.1/\s.2.1<=8388608)/\1<=s.2.2/\s.2.2<=67108864
def bdF (f:Fr2):Prop:=(-8388608<=f.1/\f.1<=8388608)/\1<=f.2/\f.2<=67108864
theorem mxF_bd {s l:Fr2}(hs:bdF s)(hl:bdF l):bdF (mxF s l):=by unfold mxF;split<;>assumption
theorem mnF_bd {s l:Fr2}(hs:bdF s)(hl:bdF l):bdF (mnF s l):=by unfold mnF;split<;>assumption
theorem sb_bd {p d a b:Int}(hp : -2097152<=p/\p<=2097152)(ha : -2097152<=a/\a<=2097152)(hb : -2097152<=b/\b<=2097152)(hd : -67108864<=d/\d<=67108864)(h0:¬d=0):bdF (sbL p d a b)/\bdF (sbH p d a b):=by
 unfold sbL sbH bdF;split<;>(simp only;omega)
theorem slab_bd {s:Fr2×Fr2}{p d a b:Int}(h:bdSp s)(hp : -2097152<=p/\p<=2097152)(ha : -2097152<=a/\a<=2097152)(hb : -2097152<=b/\b<=2097152)(hd : -67108864<=d/\d<=67108864):bdSp (bi s p d a b):=by
 unfold bi;split
 ·exact h
 rename_i h0
 have k:=sb_bd hp ha hb hd h0
 exact⟨mxF_bd h.1 k.1,mnF_bd h.2 k.2⟩
theorem thS0_bd:bdSp fl:=by unfold bdSp fl;decide
theorem ly {px py vx vy vd x0 y0 x1 y1:Int}(h:thG px py vx vy vd x0 y0 x1 y1=true):bdSp (bi fl px vx x0 x1)/\bdSp (thS px py vx vy x0 y0 x1 y1):=by
 obtain⟨h1,h3,h2⟩:=cm.1 h
 have h1:=cE.1 h1
 have h2:=bA.1 h2
 have h3:=bk.1 h3
 have k:=slab_bd (a:=x0) (b:=x1) (p:=px) (d:=vx) thS0_bd (by omega) (by omega) (by omega) (by omega)
 exact⟨k,slab_bd k (by omega) (by omega) (by omega) (by omega)⟩
def dY (a0 b0 a1 b1 x0 y0 x1 y1:Int):Bool:=lnR a0 b0 a1 b1&&(lnR x0 y0 x1 y1&&lnR (a0-x1) (b0-y1) (a1-x0) (b1-y0))
def aw (a n d lo hi:Int):Int:=a+(if hi*n<lo*n then hi*n else lo*n)/d
def bJ (b n d lo hi:Int):Int:=b+(if lo*n<hi*n then hi*n else lo*n)/d+1
def cl (x0 y0 x1 y1 vx vy vd lo hi:Int) (cx cy:Int):Bool:=dY (cx*64) (cy*64) (cx*64+64) (cy*64+64) x0 y0 x1 y1&&dR 0 0 vx vy vd lo hi (cx*64-x1) (cy*64-y1) (cx*64+64-x0) (cy*64+64-y0)
def dK (x0 y0 x1 y1 vx vy vd lo hi:Int):List (Int×Int):=cI (cl x0 y0 x1 y1 vx vy vd lo hi) (spl (aw x0 vx vd lo hi)) (co (aw x0 vx vd lo hi) (bJ x1 vx vd lo hi)) (spl (aw y0 vy vd lo hi)) (co (aw y0 vy vd lo hi) (bJ y1 vy vd lo hi))
theorem jR {a b n d lo hi:Int}(hd:0<d)(hn : -d<=n/\n<=d)(h0:0<=lo)(hh:lo<=hi)(h1:hi<=2048):(a-2048<=aw a n d lo hi/\aw a n d lo hi<=a+2048)/\(b-2047<=bJ b n d lo hi/\bJ b n d lo hi<=b+2049)/\(a<=b->aw a n d lo hi<=bJ b n d lo hi):=by
 have k:∀m:Int,0<=m->m<=2048 -> -2048*d<=m*n/\m*n<=2048*d:=fun m m0 m1=>by
  have a1:=Int.mul_le_mul_of_nonneg_left hn.1 m0
  have a2:=Int.mul_le_mul_of_nonneg_left hn.2 m0
  have a3:=Int.mul_le_mul_of_nonneg_right m1 (show 0<=d by omega)
  have e:m * -d = -(m*d):=Int.mul_neg _ _
  omega
 have q:∀m:Int,-2048*d<=m->m<=2048*d -> -2048<=m/d/\m/d<=2048:=fun m h h'=>⟨(Int.le_ediv_iff_mul_le hd).2 h,Int.ediv_le_of_le_mul hd h'⟩
 have k1:=k lo h0 (by omega)
 have k2:=k hi (by omega) h1
 have m1:∀m:Int,m=(if hi*n<lo*n then hi*n else lo*n) -> -2048<=m/d/\m/d<=2048:=fun m e=>q m (by rw[e];split<;>omega) (by rw[e];split<;>omega)
 have m2:∀m:Int,m=(if lo*n<hi*n then hi*n else lo*n) -> -2048<=m/d/\m/d<=2048:=fun m e=>q m (by rw[e];split<;>omega) (by rw[e];split<;>omega)
 have r1:=m1 _ rfl
 have r2:=m2 _ rfl
 have r3:(if hi*n<lo*n then hi*n else lo*n)/d<=(if lo*n<hi*n then hi*n else lo*n)/d:=Int.ediv_le_ediv hd (by split<;>split<;>omega)
 unfold aw bJ
 omega
theorem lX {a b:Int}(h : -1050624<=a/\a<=b/\b<=1050625):(-16418<=spl a/\spl a<=16416)/\(-16417<=sph b/\sph b<=16416)/\spl a<=sph b/\spl a+(co a b:Int)=sph b+1/\1<=co a b/\co a b<=32900:=by
 unfold co spl sph;omega
theorem swp_range {x0 y0 x1 y1 vx vy vd lo hi cx cy:Int}(hx : -1048576<=x0/\x0<=x1/\x1<=1048576)(hy : -1048576<=y0/\y0<=y1/\y1<=1048576)(h:cl x0 y0 x1 y1 vx vy vd lo hi cx cy=true):
  (aw x0 vx vd lo hi<=cx*64+64/\cx*64<=bJ x1 vx vd lo hi)/\aw y0 vy vd lo hi<=cy*64+64/\cy*64<=bJ y1 vy vd lo hi:=by
 unfold cl dR at h
 simp only[Bool.and_eq_true,decide_eq_true_eq] at h
 obtain⟨hm,h0,hl,h6,hg,hmee⟩:=h
 unfold dY at hm
 simp only[Bool.and_eq_true,bA] at hm
 have hv:=fg hg
 have k:=mee_range (X0:=x0) (Y0:=y0) (X1:=x1) (Y1:=y1) hv.1 hv.2 (by omega) (by omega) (cx:=cx) (cy:=cy) (by omega) (by omega) h0 hl
  (mnx:=if hi*vx<lo*vx then hi*vx else lo*vx) (mxx:=if lo*vx<hi*vx then hi*vx else lo*vx) (mny:=if hi*vy<lo*vy then hi*vy else lo*vy) (mxy:=if lo*vy<hi*vy then hi*vy else lo*vy)
  (by split<;>omega) (by split<;>omega) (by split<;>omega) (by split<;>omega) (by split<;>omega) (by split<;>omega) (by split<;>omega) (by split<;>omega) hmee
 unfold aw bJ
 omega
theorem spl_le {a c:Int}:spl a<=c↔a<=c*64+64:=by unfold spl;omega
theorem le_sph {b c:Int}:c<=sph b↔c*64<=b:=by unfold sph;omega
def lwN (n d:Int):Int:=n/(Int.gcd n d:Int)
def lwD (n d:Int):Int:=d/(Int.gcd n d:Int)
theorem lY {n d:Int}(hd:0<d):0<(Int.gcd n d:Int):=by
 have:Int.gcd n d≠0:=fun h=>by have:=(Int.gcd_eq_zero_iff.1 h).2;omega
 omega
theorem lw_lt {n d k:Int}(hd:0<d):lwN n d<k*lwD n d↔n<k*d:=low_lt (lY hd) (Int.gcd_dvd_left ..) (Int.gcd_dvd_right ..)
theorem lw_le {n d k:Int}(hd:0<d):(lwN n d<=k*lwD n d↔n<=k*d)/\(k*lwD n d<=lwN n d↔k*d<=n):=low_le (lY hd) (Int.gcd_dvd_left ..) (Int.gcd_dvd_right ..)
theorem lw_bd {n d B:Int}(hn:0<=n/\n<=B)(hd:0<d):(0<=lwN n d/\lwN n d<=B)/\(0<lwD n d/\lwD n d<=d):=by
 have hg:=lY (n:=n) hd
 unfold lwN lwD
 obtain⟨a,ha⟩:(Int.gcd n d:Int) ∣ n:=Int.gcd_dvd_left ..
 obtain⟨b,hb⟩:(Int.gcd n d:Int) ∣ d:=Int.gcd_dvd_right ..
 generalize (Int.gcd n d:Int)=g at *
 subst ha hb
 rw[Int.mul_ediv_cancel_left _ (by omega),Int.mul_ediv_cancel_left _ (by omega)]
 have hb:0<b:=by
  rcases Int.lt_or_le 0 b with h|h
  ·exact h
  have:=Int.mul_nonpos_of_nonneg_of_nonpos (show 0<=g by omega) h;omega
 have ha:0<=a:=by
  rcases Int.lt_or_le a 0 with h|h
  ·have:=Int.mul_neg_of_pos_of_neg hg h;omega
  exact h
 have e1:=Int.mul_le_mul_of_nonneg_right (show 1<=g by omega) ha
 have e2:=Int.mul_le_mul_of_nonneg_right (show 1<=g by omega) (show 0<=b by omega)
 omega
theorem set_last {H:aa}{a b:ABlk}:(H++[a]).set H.length b=H++[b]:=by
 rw[List.set_append_right _ _ (Nat.le_refl _),Nat.sub_self];rfl
theorem fh {P:Program}{fn:Func}{H l1:aa}{b0 b1:ABlk}{R:AV->aa->Prop}{F:Fr}{e:Exit}(he:e=.ret\/e=.normal)(hbel:HBel (H++[b0]).length (H++[b0]))(hb:b1.bel (H++[b0]).length=true){x:AV}(hx:cW P fn F (H++b1::l1)=some x)(hp:x.bel 0=true)(hR:R x (H++[b1])):AEnd P fn (H++[b0]).length R e F (H++b1::l1):=by
 have h:=hbel.put H.length hb
 rw[set_last] at h
 have hl:(H++[b1]).length=(H++[b0]).length:=by rw[List.length_append,List.length_append];rfl
 have ha:(H++[b1])++l1=H++b1::l1:=by rw[List.append_assoc];rfl
 have k:AEnd P fn (H++[b1]).length R e F ((H++[b1])++l1):=dN he (by rw[hl];exact h) (x:=x) (by rw[ha];exact hx) hp hR
 rw[hl,ha] at k;exact k
theorem ia {P:Program}{N n:Nat}{Q:Exit->Fr->aa->Prop}{ops:Array Oper}{id:Nat}{F:Fr}{H:aa}(q:Bool) (hm:P.follows .mixedOrders=true) (reps:List (List Nat)) (hok:lq q false N ops reps=true) (I:Fr->aa->Prop)
  (h1:∀τ∈reps,∀J:Fr->aa->Prop,(∀F' H',(∃σ F2 H2,I F2 H2/\Abs n σ F' H' F2 H2)->J F' H')->AGo P N n q Q [.opsD H.length (jt ops.toList τ),.inv J] F H) (h2:∀F2 H2,I F2 H2->Q .normal F2 H2):AW P N n (.region id ops true) Q F H:=by
 intro E w a k1 k2 k3 k4 k5
 have key:=om (id:=id) (q:=q) (Q:=fM (fun F' H'=>∃σ F2 H2,I F2 H2/\Abs n σ F' H' F2 H2) Q) hm reps hok (.inl rfl) (fun τ hτ=>h1 τ hτ (fun F' H'=>∃σ F2 H2,I F2 H2/\Abs n σ F' H' F2 H2) (fun _ _ h=>h)) E w a k1 k2 k3 k4 k5
 refine wp_mono key fun e a w hh=>?_
 obtain⟨E',F',H',hq,l,s,d,f,m⟩:=hh
 cases e with
 | normal =>
  obtain⟨σ,F2,H2,hi,ab⟩:=hq
  obtain⟨E2,l2,f2,m2⟩:=ab.emb l.n f m
  exact⟨E2,F2,H2,h2 F2 H2 hi,l.trans l2,s,d,f2,m2⟩
 |_=>exact⟨E',F',H',hq,l,s,d,f,m⟩
theorem AcN {P:Program}(q:Bool) {f:FuncId}{fn:Func}{args:List AV}{R:AV->aa->Prop}{H:aa}(hf:P.funcs[f]? = some fn) {c:Code}(h:HBel H.length H->∀Q:Exit->Fr->aa->Prop,(∀F H',AEnd P fn H.length R .normal F H'->Q .normal F H')->AGo P fn.ntmps H.length q Q [.code c] (argF 0 args) H)
  (hb:fn.body=some c:=by rfl) (hm:P.follows .mixedOrders=true:=by exact try_mixed) (ha:args.length<=fn.ntmps:=by exact Nat.le_of_ble_eq_true (by kernel_rfl)) (hc:db fn.ntmps q c=true:=by kernel_rfl):ACalls P f args H R :=
 cB hm hf q _ rfl ha (by rw[hb];exact congrArg some hc) fun hbel Q _ hQ c' hc'=>by
  rw[hb] at hc'
  injection hc' with hc'
  subst hc'
  exact h hbel Q hQ
def mkV (b:Bool) (n:Int):Int:=if b=true then n else 0
def thO (px py vx vy vd x0 y0 x1 y1:Int):Bool:=thG px py vx vy vd x0 y0 x1 y1&&thB px py vx vy x0 y0 x1 y1
def thV (px py vx vy vd x0 y0 x1 y1:Int):Fr2×Fr2:=if thO px py vx vy vd x0 y0 x1 y1=true then thS px py vx vy x0 y0 x1 y1 else ((0,0),(0,0))
theorem jw {px py vx vy vd x0 y0 x1 y1:Int}(h:thO px py vx vy vd x0 y0 x1 y1=true):thG px py vx vy vd x0 y0 x1 y1=true/\thB px py vx vy x0 y0 x1 y1=true:=by unfold thO at h;rwa [Bool.and_eq_true] at h
theorem thO_me {px py vx vy vd x0 y0 x1 y1 lo hi:Int}(h:thO px py vx vy vd x0 y0 x1 y1=false):dR px py vx vy vd lo hi x0 y0 x1 y1=false/\dg px py vx vy vd hi x0 y0 x1 y1=false:=by
 unfold dR dg iw bfrB
 unfold thO at h
 cases hg:thG px py vx vy vd x0 y0 x1 y1
 ·simp
 rw[hg,Bool.true_and] at h;rw[h];simp
theorem iX (H:aa)(n:Int):zC 160 [iV n] H (.bool (bK n 2097152)) H:=by
 refine AcT true func160 ?_;intro hbel Q hQ
 refine aI ?_
 refine aY (fun h1=>?_) (fun h1=>?_)
 ·have h1d:=bsT h1
  have G1:=jn h1 @h1d
  exact eS G1 hQ hbel (.bool (decide (n<=2097152))) results160 ⟨by simp[bK,h1d],rfl⟩
 have h1d:=bsT h1
 have G2:=jn h1 @h1d
 exact eS G2 hQ hbel (.bool false) results160 ⟨by simp[bK,h1d],rfl⟩
theorem nH (H:aa)(x y:Int):zC 122 [.agg [iV x,iV y]] H (.bool (lnP x y)) H:=by
 refine AcT true func122 ?_;intro hbel Q hQ
 refine aI ?_
 refine cv (iX _ x) ?_
 refine aI ?_
 refine aY (fun h1=>?_) (fun h1=>?_)
 ·have h1d:=bsT h1
  have G3:=jn h1 @h1d
  refine ae G3 ?_
  refine cvr G3 (iX _ y) ?_
  exact eP hQ hbel (.bool (bK y 2097152)) results122 ⟨by simp[lnP,h1d],rfl⟩
 have h1d:=bsT h1
 have G4:=jn h1 @h1d
 exact eR G4 hQ hbel (.bool false) results122 ⟨by simp[lnP,h1d],rfl⟩
theorem svv_c (H:aa)(x y d:Int):zC 212 [.agg [iV x,iV y,iV d]] H (.bool (da x y d)) H:=by
 refine AcT true func212 ?_;intro hbel Q hQ
 refine aI ?_
 refine aY (fun h1=>?_) (fun h1=>?_)
 ·have h1d:=bsT h1
  have G5:=jn h1 @h1d
  refine rgs G5 (fun h2 h2d G6=>?_) (fun h2 h2d G15=>?_)
  ·refine rgs G6 (fun h3 h3d G7=>?_) (fun h3 h3d G14=>?_)
   ·refine rgs G7 (fun h4 h4d G8=>?_) (fun h4 h4d G13=>?_)
    ·refine rgs G8 (fun h5 h5d G9=>?_) (fun h5 h5d G12=>?_)
     ·refine rcs G9 (fun h6 h6d G10=>?_) (fun h6 h6d G11=>?_)
      ·exact eR G10 hQ hbel (.bool false) results212 ⟨by (refine congrArg AV.bool ?_;rw[Bool.eq_iff_iff,bk];exact⟨fun e=>(by cases e),fun k=>(by omega)⟩),rfl⟩
      have hm1:=bg (a:=x) (b:=x) (A:=67108864) (B:=67108864) (by omega) (by omega)
      have hm2:=bg (a:=y) (b:=y) (A:=67108864) (B:=67108864) (by omega) (by omega)
      have hm3:=bg (a:=d) (b:=d) (A:=67108864) (B:=67108864) (by omega) (by omega)
      exact eR G11 hQ hbel (.bool (((x*x)+(y*y))==(d*d))) results212 ⟨by (refine congrArg AV.bool ?_;rw[Bool.eq_iff_iff,bk,beq_iff_eq];exact⟨fun e=>⟨⟨by omega,by omega⟩,⟨by omega,by omega⟩,⟨by omega,by omega⟩,e⟩,fun e=>e.2.2.2⟩),rfl⟩
     exact eR G12 hQ hbel (.bool false) results212 ⟨by (refine congrArg AV.bool ?_;rw[Bool.eq_iff_iff,bk];exact⟨fun e=>(by cases e),fun k=>(by omega)⟩),rfl⟩
    exact eR G13 hQ hbel (.bool false) results212 ⟨by (refine congrArg AV.bool ?_;rw[Bool.eq_iff_iff,bk];exact⟨fun e=>(by cases e),fun k=>(by omega)⟩),rfl⟩
   exact eR G14 hQ hbel (.bool false) results212 ⟨by (refine congrArg AV.bool ?_;rw[Bool.eq_iff_iff,bk];exact⟨fun e=>(by cases e),fun k=>(by omega)⟩),rfl⟩
  exact eR G15 hQ hbel (.bool false) results212 ⟨by (refine congrArg AV.bool ?_;rw[Bool.eq_iff_iff,bk];exact⟨fun e=>(by cases e),fun k=>(by omega)⟩),rfl⟩
 have h1d:=bsT h1
 have G16:=jn h1 @h1d
 exact eR G16 hQ hbel (.bool false) results212 ⟨by (refine congrArg AV.bool ?_;rw[Bool.eq_iff_iff,bk];exact⟨fun e=>(by cases e),fun k=>(by omega)⟩),rfl⟩
theorem jS (H:aa)(x0 y0 x1 y1:Int):zC 123 [.agg [iV x0,iV y0,iV x1,iV y1]] H (.bool (lnR x0 y0 x1 y1)) H:=by
 refine AcT true func123 ?_;intro hbel Q hQ
 refine aI ?_
 refine cv (iX _ _) ?_
 refine aI ?_
 refine aY (fun h1=>?_) (fun h1=>?_)
 ·have h1d:=bsT h1
  have wx0:=aH.1 h1d
  have G17:=jn h1 @h1d
  refine ae G17 ?_
  refine cv (iX _ _) ?_
  refine rgs G17 (fun h2 h2d G18=>?_) (fun h2 h2d G25=>?_)
  ·have wy0:=aH.1 h2d
   refine ae G18 ?_
   refine cv (iX _ _) ?_
   refine rgs G18 (fun h3 h3d G19=>?_) (fun h3 h3d G24=>?_)
   ·have wx1:=aH.1 h3d
    refine ae G19 ?_
    refine cv (iX _ _) ?_
    refine rgs G19 (fun h4 h4d G20=>?_) (fun h4 h4d G23=>?_)
    ·have wy1:=aH.1 h4d
     refine rgs G20 (fun h5 h5d G21=>?_) (fun h5 h5d G22=>?_)
     ·exact eR G21 hQ hbel (.bool (decide (y0<=y1))) results123 ⟨by (refine congrArg AV.bool ?_;rw[Bool.eq_iff_iff,bA,decide_eq_true_eq];omega),rfl⟩
     exact eR G22 hQ hbel (.bool false) results123 ⟨by (refine congrArg AV.bool ?_;rw[Bool.eq_iff_iff,bA];exact⟨fun e=>(by cases e),fun k=>(by omega)⟩),rfl⟩
    have wy1:¬(-2097152<=y1/\y1<=2097152):=mt aH.2 (by rw[h4d];decide)
    exact eR G23 hQ hbel (.bool false) results123 ⟨by (refine congrArg AV.bool ?_;rw[Bool.eq_iff_iff,bA];exact⟨fun e=>(by cases e),fun k=>(by omega)⟩),rfl⟩
   have wx1:¬(-2097152<=x1/\x1<=2097152):=mt aH.2 (by rw[h3d];decide)
   exact eR G24 hQ hbel (.bool false) results123 ⟨by (refine congrArg AV.bool ?_;rw[Bool.eq_iff_iff,bA];exact⟨fun e=>(by cases e),fun k=>(by omega)⟩),rfl⟩
  have wy0:¬(-2097152<=y0/\y0<=2097152):=mt aH.2 (by rw[h2d];decide)
  exact eR G25 hQ hbel (.bool false) results123 ⟨by (refine congrArg AV.bool ?_;rw[Bool.eq_iff_iff,bA];exact⟨fun e=>(by cases e),fun k=>(by omega)⟩),rfl⟩
 have h1d:=bsT h1
 have wx0:¬(-2097152<=x0/\x0<=2097152):=mt aH.2 (by rw[h1d];decide)
 have G26:=jn h1 @h1d
 exact eR G26 hQ hbel (.bool false) results123 ⟨by (refine congrArg AV.bool ?_;rw[Bool.eq_iff_iff,bA];exact⟨fun e=>(by cases e),fun k=>(by omega)⟩),rfl⟩
theorem dC (H:aa)(p1 p2 q1 q2:Int)(k1 : -8388608<=p1/\p1<=8388608)(k2:1<=p2/\p2<=67108864)(k3 : -8388608<=q1/\q1<=8388608)(k4:1<=q2/\q2<=67108864):zC 215 [.agg [iV p1,iV p2],.agg [iV q1,iV q2]] H (.bool (decide (p1*q2<q1*p2))) H:=by
 have hm1:=bg (a:=p1) (b:=q2) (A:=8388608) (B:=67108864) (by omega) (by omega)
 have hm2:=bg (a:=q1) (b:=p2) (A:=8388608) (B:=67108864) (by omega) (by omega)
 refine AcT true func215 ?_;intro hbel Q hQ
 refine aI ?_
 exact eP hQ hbel (.bool (decide ((p1*q2)<(q1*p2)))) results215 ⟨rfl,rfl⟩
theorem slab_c (H:aa)(S:Fr2×Fr2)(p d a b:Int)(hS:bdSp S)(hp : -2097152<=p/\p<=2097152)(hd : -67108864<=d/\d<=67108864)(ha : -2097152<=a/\a<=2097152)(hb : -2097152<=b/\b<=2097152):ACalls prog 213 [.ptr (some (H.length,0)),iV p,iV d,iV a,iV b] (H++[.cells true 0 [iV S.1.1,iV S.1.2,iV S.2.1,iV S.2.2]]) (fun v H'=>v=.bool (cY S p d a b)/\H'=H++[.cells true 0 [iV ((bi S p d a b).1.1),iV ((bi S p d a b).1.2),iV ((bi S p d a b).2.1),iV ((bi S p d a b).2.2)]]):=by
 obtain⟨⟨hS1,hS2⟩,hS3,hS4⟩:=id hS
 refine AcT true func213 ?_;intro hbel Q hQ
 refine aI ?_
 refine cO (fun h1=>?_) (fun h1=>?_)
 ·have h1d:=bsT h1
  have h1n:=bnT h1
  have hd0:d=0:=by simpa using h1d
  have G27:=jn h1 (jn h1n (jn @aP @aO))
  refine rgs G27 (fun h2 h2d G28=>?_) (fun h2 h2d G29=>?_)
  ·refine ae G28 ?_
   exact hQ _ _ (fh (b1:=.cells true 0 [iV S.1.1,iV S.1.2,iV S.2.1,iV S.2.2]) (.inl rfl) hbel (by simp only[ABlk.bel,AV.bels,AV.bel,Bool.true_and]) (x:=.bool (decide (p<=b))) (aZ results213) rfl ⟨by (try simp only[Int.zero_sub] at *);(simp[cY,bi,hd0,h2d,h1d];done),by (try simp only[Int.zero_sub] at *);(simp[cY,bi,hd0,h2d,h1d];done)⟩)
  refine ae G29 ?_
  exact hQ _ _ (fh (b1:=.cells true 0 [iV S.1.1,iV S.1.2,iV S.2.1,iV S.2.2]) (.inl rfl) hbel (by simp only[ABlk.bel,AV.bels,AV.bel,Bool.true_and]) (x:=.bool false) (aZ results213) rfl ⟨by (try simp only[Int.zero_sub] at *);(simp[cY,bi,hd0,h2d,h1d];done),by (try simp only[Int.zero_sub] at *);(simp[cY,bi,hd0,h2d,h1d];done)⟩)
 have h1d:=bsT h1
 have h1n:=bnT h1
 have hd0:¬d=0:=by simpa using h1d
 have G30:=jn h1 (jn h1n (jn @aP @aO))
 refine rcs G30 (fun h3 h3d G31=>?_) (fun h3 h3d G38=>?_)
 ·refine ae G31 ?_
  refine cd (dC _ _ _ _ _ (by omega) (by omega) (by omega) (by omega)) ?_
  refine rcs G31 (fun h4 h4d G32=>?_) (fun h4 h4d G35=>?_)
  ·refine ae G32 ?_
   refine cd (dC _ _ _ _ _ (by omega) (by omega) (by omega) (by omega)) ?_
   refine rcs G32 (fun h5 h5d G33=>?_) (fun h5 h5d G34=>?_)
   ·refine ae G33 ?_
    refine cdr G33 (dC _ _ _ _ _ (by omega) (by omega) (by omega) (by omega)) ?_
    exact hQ _ _ (fh (b1:=.cells true 0 [iV (p-b),iV (0-d),iV (p-a),iV (0-d)]) (.inl rfl) hbel (by simp only[ABlk.bel,AV.bels,AV.bel,Bool.true_and]) (x:=.bool (!(decide ((p-a)*(0-d)<(p-b)*(0-d))))) (aZ results213) rfl ⟨by (try simp only[Int.zero_sub] at *);(simp[cY,bi,mxF,mnF,sbL,sbH,hd0,h3d,h4d,h5d,h1d];done),by (try simp only[Int.zero_sub] at *);(simp[cY,bi,mxF,mnF,sbL,sbH,hd0,h3d,h4d,h5d,h1d];done)⟩)
   refine ae G34 ?_
   refine cdr G34 (dC _ _ _ _ _ (by omega) (by omega) (by omega) (by omega)) ?_
   exact hQ _ _ (fh (b1:=.cells true 0 [iV (p-b),iV (0-d),iV S.2.1,iV S.2.2]) (.inl rfl) hbel (by simp only[ABlk.bel,AV.bels,AV.bel,Bool.true_and]) (x:=.bool (!(decide (S.2.1*(0-d)<(p-b)*S.2.2)))) (aZ results213) rfl ⟨by (try simp only[Int.zero_sub] at *);(simp[cY,bi,mxF,mnF,sbL,sbH,hd0,h3d,h4d,h5d,h1d];done),by (try simp only[Int.zero_sub] at *);(simp[cY,bi,mxF,mnF,sbL,sbH,hd0,h3d,h4d,h5d,h1d];done)⟩)
  refine ae G35 ?_
  refine cd (dC _ _ _ _ _ (by omega) (by omega) (by omega) (by omega)) ?_
  refine rcs G35 (fun h6 h6d G36=>?_) (fun h6 h6d G37=>?_)
  ·refine ae G36 ?_
   refine cdr G36 (dC _ _ _ _ _ (by omega) (by omega) (by omega) (by omega)) ?_
   exact hQ _ _ (fh (b1:=.cells true 0 [iV S.1.1,iV S.1.2,iV (p-a),iV (0-d)]) (.inl rfl) hbel (by simp only[ABlk.bel,AV.bels,AV.bel,Bool.true_and]) (x:=.bool (!(decide ((p-a)*S.1.2<S.1.1*(0-d))))) (aZ results213) rfl ⟨by (try simp only[Int.zero_sub] at *);(simp[cY,bi,mxF,mnF,sbL,sbH,hd0,h3d,h4d,h6d,h1d];done),by (try simp only[Int.zero_sub] at *);(simp[cY,bi,mxF,mnF,sbL,sbH,hd0,h3d,h4d,h6d,h1d];done)⟩)
  refine ae G37 ?_
  refine cdr G37 (dC _ _ _ _ _ (by omega) (by omega) (by omega) (by omega)) ?_
  exact hQ _ _ (fh (b1:=.cells true 0 [iV S.1.1,iV S.1.2,iV S.2.1,iV S.2.2]) (.inl rfl) hbel (by simp only[ABlk.bel,AV.bels,AV.bel,Bool.true_and]) (x:=.bool (!(decide (S.2.1*S.1.2<S.1.1*S.2.2)))) (aZ results213) rfl ⟨by (try simp only[Int.zero_sub] at *);(simp[cY,bi,mxF,mnF,sbL,sbH,hd0,h3d,h4d,h6d,h1d];done),by (try simp only[Int.zero_sub] at *);(simp[cY,bi,mxF,mnF,sbL,sbH,hd0,h3d,h4d,h6d,h1d];done)⟩)
 refine ae G38 ?_
 refine cd (dC _ _ _ _ d (by omega) (by omega) (by omega) (by omega)) ?_
 refine rcs G38 (fun h7 h7d G39=>?_) (fun h7 h7d G42=>?_)
 ·refine ae G39 ?_
  refine cd (dC _ _ d _ _ (by omega) (by omega) (by omega) (by omega)) ?_
  refine rcs G39 (fun h8 h8d G40=>?_) (fun h8 h8d G41=>?_)
  ·refine ae G40 ?_
   refine cdr G40 (dC _ _ d _ d (by omega) (by omega) (by omega) (by omega)) ?_
   exact hQ _ _ (fh (b1:=.cells true 0 [iV (a-p),iV d,iV (b-p),iV d]) (.inl rfl) hbel (by simp only[ABlk.bel,AV.bels,AV.bel,Bool.true_and]) (x:=.bool (!(decide ((b-p)*d<(a-p)*d)))) (aZ results213) rfl ⟨by (try simp only[Int.zero_sub] at *);(simp[cY,bi,mxF,mnF,sbL,sbH,hd0,h3d,h7d,h8d,h1d];done),by (try simp only[Int.zero_sub] at *);(simp[cY,bi,mxF,mnF,sbL,sbH,hd0,h3d,h7d,h8d,h1d];done)⟩)
  refine ae G41 ?_
  refine cdr G41 (dC _ _ _ _ d (by omega) (by omega) (by omega) (by omega)) ?_
  exact hQ _ _ (fh (b1:=.cells true 0 [iV (a-p),iV d,iV S.2.1,iV S.2.2]) (.inl rfl) hbel (by simp only[ABlk.bel,AV.bels,AV.bel,Bool.true_and]) (x:=.bool (!(decide (S.2.1*d<(a-p)*S.2.2)))) (aZ results213) rfl ⟨by (try simp only[Int.zero_sub] at *);(simp[cY,bi,mxF,mnF,sbL,sbH,hd0,h3d,h7d,h8d,h1d];done),by (try simp only[Int.zero_sub] at *);(simp[cY,bi,mxF,mnF,sbL,sbH,hd0,h3d,h7d,h8d,h1d];done)⟩)
 refine ae G42 ?_
 refine cd (dC _ _ d _ _ (by omega) (by omega) (by omega) (by omega)) ?_
 refine rcs G42 (fun h9 h9d G43=>?_) (fun h9 h9d G44=>?_)
 ·refine ae G43 ?_
  refine cdr G43 (dC _ _ d _ _ (by omega) (by omega) (by omega) (by omega)) ?_
  exact hQ _ _ (fh (b1:=.cells true 0 [iV S.1.1,iV S.1.2,iV (b-p),iV d]) (.inl rfl) hbel (by simp only[ABlk.bel,AV.bels,AV.bel,Bool.true_and]) (x:=.bool (!(decide ((b-p)*S.1.2<S.1.1*d)))) (aZ results213) rfl ⟨by (try simp only[Int.zero_sub] at *);(simp[cY,bi,mxF,mnF,sbL,sbH,hd0,h3d,h7d,h9d,h1d];done),by (try simp only[Int.zero_sub] at *);(simp[cY,bi,mxF,mnF,sbL,sbH,hd0,h3d,h7d,h9d,h1d];done)⟩)
 refine ae G44 ?_
 refine cdr G44 (dC _ _ _ _ _ (by omega) (by omega) (by omega) (by omega)) ?_
 exact hQ _ _ (fh (b1:=.cells true 0 [iV S.1.1,iV S.1.2,iV S.2.1,iV S.2.2]) (.inl rfl) hbel (by simp only[ABlk.bel,AV.bels,AV.bel,Bool.true_and]) (x:=.bool (!(decide (S.2.1*S.1.2<S.1.1*S.2.2)))) (aZ results213) rfl ⟨by (try simp only[Int.zero_sub] at *);(simp[cY,bi,mxF,mnF,sbL,sbH,hd0,h3d,h7d,h9d,h1d];done),by (try simp only[Int.zero_sub] at *);(simp[cY,bi,mxF,mnF,sbL,sbH,hd0,h3d,h7d,h9d,h1d];done)⟩)
theorem slab4_c (H:aa)(A B C D:ABlk)(S:Fr2×Fr2)(p d a b:Int)(hS:bdSp S)(hp : -2097152<=p/\p<=2097152)(hd : -67108864<=d/\d<=67108864)(ha : -2097152<=a/\a<=2097152)(hb : -2097152<=b/\b<=2097152):
  ACalls prog 213 [.ptr (some (H.length+4,0)),iV p,iV d,iV a,iV b] (H++[A,B,C,D,.cells true 0 [iV S.1.1,iV S.1.2,iV S.2.1,iV S.2.2]]) (fun v H'=>v=.bool (cY S p d a b)/\H'=H++[A,B,C,D,.cells true 0 [iV (bi S p d a b).1.1,iV (bi S p d a b).1.2,iV (bi S p d a b).2.1,iV (bi S p d a b).2.2]]):=by
 have h:=slab_c (H++[A,B,C,D]) S p d a b hS hp hd ha hb
 simpa only[List.append_assoc,List.cons_append,List.nil_append,List.length_append,List.length_cons,List.length_nil,Nat.zero_add,Nat.reduceAdd] using h
theorem pI (H:aa)(px py vx vy vd x0 y0 x1 y1:Int):zC 203 [.agg [iV px,iV py],.agg [iV vx,iV vy,iV vd],.agg [iV x0,iV y0,iV x1,iV y1]] H (.tup [.agg [iV ((thV px py vx vy vd x0 y0 x1 y1).1.1),iV ((thV px py vx vy vd x0 y0 x1 y1).1.2),iV ((thV px py vx vy vd x0 y0 x1 y1).2.1),iV ((thV px py vx vy vd x0 y0 x1 y1).2.2)],.bool (thO px py vx vy vd x0 y0 x1 y1)]) H:=by
 refine AcT true func203 ?_;intro hbel Q hQ
 refine aI ?_
 refine cv (nH _ _ _) ?_
 refine aI ?_
 refine aY (fun h1=>?_) (fun h1=>?_)
 ·have h1d:=bsT h1
  have hvP:=h1d
  have hvp:=cE.1 h1d
  have G45:=jn h1 @h1d
  refine ae G45 ?_
  refine cv (svv_c _ _ _ _) ?_
  refine rgs G45 (fun h2 h2d G46=>?_) (fun h2 h2d G53=>?_)
  ·have hvV:=h2d
   have hvv:=bk.1 h2d
   refine ae G46 ?_
   refine cv (jS _ _ _ _ _) ?_
   refine rcs G46 (fun h3 h3d G47=>?_) (fun h3 h3d G48=>?_)
   ·have hfinO:thO px py vx vy vd x0 y0 x1 y1=false:=by simp[thO,thG,h3d]
    exact eR G47 hQ hbel (.tup [.agg [iV 0,iV 0,iV 0,iV 0],.bool false]) results203 ⟨by unfold thV;rw[hfinO];rfl,rfl⟩
   have hvr:=bA.1 h3d
   have hgT:thG px py vx vy vd x0 y0 x1 y1=true:=cm.2 ⟨hvP,hvV,h3d⟩
   have hb0:=thS0_bd
   have hb1:=(ly hgT).1
   refine ae G48 ?_
   refine cv (slab4_c _ _ _ _ _ fl px vx x0 x1 (by assumption) (by omega) (by omega) (by omega) (by omega)) ?_
   refine rgs G48 (fun h4 h4d G49=>?_) (fun h4 h4d G52=>?_)
   ·have hs1:=h4d
    refine ae G49 ?_
    refine cv (slab4_c _ _ _ _ _ (bi fl px vx x0 x1) py vy y0 y1 (by assumption) (by omega) (by omega) (by omega) (by omega)) ?_
    refine rcs G49 (fun h5 h5d G50=>?_) (fun h5 h5d G51=>?_)
    ·have hfinO:thO px py vx vy vd x0 y0 x1 y1=false:=by simp[thO,thB,h5d]
     exact eR G50 hQ hbel (.tup [.agg [iV 0,iV 0,iV 0,iV 0],.bool false]) results203 ⟨by unfold thV;rw[hfinO];rfl,rfl⟩
    have hfinO:thO px py vx vy vd x0 y0 x1 y1=true:=by unfold thO thB;rw[hgT,hs1,h5d];rfl
    exact eR G51 hQ hbel (.tup [.agg [iV ((bi (bi fl px vx x0 x1) py vy y0 y1).1.1),iV ((bi (bi fl px vx x0 x1) py vy y0 y1).1.2),iV ((bi (bi fl px vx x0 x1) py vy y0 y1).2.1),iV ((bi (bi fl px vx x0 x1) py vy y0 y1).2.2)],.bool true]) results203 ⟨by unfold thV;rw[hfinO];rfl,rfl⟩
   have hfinO:thO px py vx vy vd x0 y0 x1 y1=false:=by simp[thO,thB,h4d]
   exact eR G52 hQ hbel (.tup [.agg [iV 0,iV 0,iV 0,iV 0],.bool false]) results203 ⟨by unfold thV;rw[hfinO];rfl,rfl⟩
  have hfinO:thO px py vx vy vd x0 y0 x1 y1=false:=by simp[thO,thG,h2d]
  exact eR G53 hQ hbel (.tup [.agg [iV 0,iV 0,iV 0,iV 0],.bool false]) results203 ⟨by unfold thV;rw[hfinO];rfl,rfl⟩
 have h1d:=bsT h1
 have hfinO:thO px py vx vy vd x0 y0 x1 y1=false:=by simp[thO,thG,h1d]
 have G54:=jn h1 @h1d
 exact eR G54 hQ hbel (.tup [.agg [iV 0,iV 0,iV 0,iV 0],.bool false]) results203 ⟨by unfold thV;rw[hfinO];rfl,rfl⟩
theorem lz (H:aa)(px py vx vy vd x0 y0 x1 y1:Int)(h:thO px py vx vy vd x0 y0 x1 y1=true):zC 203 [.agg [iV px,iV py],.agg [iV vx,iV vy,iV vd],.agg [iV x0,iV y0,iV x1,iV y1]] H (.tup [.agg [iV (thS px py vx vy x0 y0 x1 y1).1.1,iV (thS px py vx vy x0 y0 x1 y1).1.2,iV (thS px py vx vy x0 y0 x1 y1).2.1,iV (thS px py vx vy x0 y0 x1 y1).2.2],.bool true]) H:=by
 have q:=pI H px py vx vy vd x0 y0 x1 y1
 simp only[thV,h,if_true] at q;exact q
theorem pJ (H:aa)(px py vx vy vd x0 y0 x1 y1:Int)(h:thO px py vx vy vd x0 y0 x1 y1=false):zC 203 [.agg [iV px,iV py],.agg [iV vx,iV vy,iV vd],.agg [iV x0,iV y0,iV x1,iV y1]] H (.tup [.agg [iV 0,iV 0,iV 0,iV 0],.bool false]) H:=by
 have q:=pI H px py vx vy vd x0 y0 x1 y1
 simp only[thV,h,if_false,Bool.false_eq_true] at q;exact q
theorem ji (H:aa)(px py vx vy vd lo hi x0 y0 x1 y1:Int):zC 192 [.agg [iV px,iV py],.agg [iV vx,iV vy,iV vd],iV lo,iV hi,.agg [iV x0,iV y0,iV x1,iV y1]] H (.bool (dR px py vx vy vd lo hi x0 y0 x1 y1)) H:=by
 refine AcT true func192 ?_;intro hbel Q hQ
 refine aI ?_
 refine aY (fun h1=>?_) (fun h1=>?_)
 ·have h1d:=bsT h1
  have G55:=jn h1 @h1d
  refine rgs G55 (fun h2 h2d G56=>?_) (fun h2 h2d G63=>?_)
  ·refine rcs G56 (fun h3 h3d G57=>?_) (fun h3 h3d G58=>?_)
   ·exact eR G57 hQ hbel (.bool false) results192 ⟨by (refine congrArg AV.bool ?_;rw[Bool.eq_iff_iff];unfold dR iw;simp only[Bool.and_eq_true,decide_eq_true_eq];first|(simp only[hfinG,hfinB,true_and];omega)|exact⟨fun e=>(by cases e),fun e=>(by omega)⟩),rfl⟩
   refine ae G58 ?_
   rcases Bool.eq_false_or_eq_true (thO px py vx vy vd x0 y0 x1 y1) with h4|h4
   ·have h4d:=h4
    have hgT:=jw h4d
    have hbS:=(ly hgT.1).2
    obtain⟨⟨hb1,hb2⟩,hb3,hb4⟩:=hbS
    have hvT:=bk.1 (cm.1 hgT.1).2.1
    have hm1:=bg (a:=lo) (b:=(thS px py vx vy x0 y0 x1 y1).2.2) (A:=65536) (B:=67108864) (by omega) (by omega)
    have hm2:=bg (a:=(thS px py vx vy x0 y0 x1 y1).2.1) (b:=vd) (A:=8388608) (B:=67108864) (by omega) (by omega)
    have hm3:=bg (a:=(thS px py vx vy x0 y0 x1 y1).1.1) (b:=vd) (A:=8388608) (B:=67108864) (by omega) (by omega)
    have hm4:=bg (a:=hi) (b:=(thS px py vx vy x0 y0 x1 y1).1.2) (A:=65536) (B:=67108864) (by omega) (by omega)
    have hfinG:=hgT.1
    have hfinB:=hgT.2
    refine cv (lz _ _ _ _ _ _ _ _ _ _ (by assumption)) ?_
    have G59:=j2 h4 h4d G58
    refine rgs G59 (fun h5 h5d G60=>?_) (fun h5 h5d G61=>?_)
    ·exact eR G60 hQ hbel (.bool (decide ((((thS px py vx vy x0 y0 x1 y1).1.1)*vd)<=(hi*((thS px py vx vy x0 y0 x1 y1).1.2))))) results192 ⟨by (refine congrArg AV.bool ?_;rw[Bool.eq_iff_iff];unfold dR iw;simp only[Bool.and_eq_true,decide_eq_true_eq];first|(simp only[hfinG,hfinB,true_and];omega)|exact⟨fun e=>(by cases e),fun e=>(by omega)⟩),rfl⟩
    exact eR G61 hQ hbel (.bool false) results192 ⟨by (refine congrArg AV.bool ?_;rw[Bool.eq_iff_iff];unfold dR iw;simp only[Bool.and_eq_true,decide_eq_true_eq];first|(simp only[hfinG,hfinB,true_and];omega)|exact⟨fun e=>(by cases e),fun e=>(by omega)⟩),rfl⟩
   have h4d:=h4
   have hfinN:=(thO_me (lo:=lo) (hi:=hi) h4d).1
   refine cv (pJ _ _ _ _ _ _ _ _ _ _ (by assumption)) ?_
   have G62:=j2 h4 h4d G58
   exact eR G62 hQ hbel (.bool false) results192 ⟨by rw[hfinN],rfl⟩
  exact eR G63 hQ hbel (.bool false) results192 ⟨by (refine congrArg AV.bool ?_;rw[Bool.eq_iff_iff];unfold dR iw;simp only[Bool.and_eq_true,decide_eq_true_eq];first|(simp only[hfinG,hfinB,true_and];omega)|exact⟨fun e=>(by cases e),fun e=>(by omega)⟩),rfl⟩
 have h1d:=bsT h1
 have G64:=jn h1 @h1d
 exact eR G64 hQ hbel (.bool false) results192 ⟨by (refine congrArg AV.bool ?_;rw[Bool.eq_iff_iff];unfold dR iw;simp only[Bool.and_eq_true,decide_eq_true_eq];first|(simp only[hfinG,hfinB,true_and];omega)|exact⟨fun e=>(by cases e),fun e=>(by omega)⟩),rfl⟩
theorem eH (H:aa)(px py vx vy vd hi x0 y0 x1 y1:Int):zC 175 [.agg [iV px,iV py],.agg [iV vx,iV vy,iV vd],iV hi,.agg [iV x0,iV y0,iV x1,iV y1]] H (.bool (dg px py vx vy vd hi x0 y0 x1 y1)) H:=by
 refine AcT true func175 ?_;intro hbel Q hQ
 refine aI ?_
 refine aY (fun h1=>?_) (fun h1=>?_)
 ·have h1d:=bsT h1
  have G65:=jn h1 @h1d
  refine rcs G65 (fun h2 h2d G66=>?_) (fun h2 h2d G67=>?_)
  ·exact eR G66 hQ hbel (.bool false) results175 ⟨by (refine congrArg AV.bool ?_;rw[Bool.eq_iff_iff];unfold dg bfrB;simp only[Bool.and_eq_true,decide_eq_true_eq];first|(simp only[hfinG,hfinB,true_and];omega)|exact⟨fun e=>(by cases e),fun e=>(by omega)⟩),rfl⟩
  refine ae G67 ?_
  rcases Bool.eq_false_or_eq_true (thO px py vx vy vd x0 y0 x1 y1) with h3|h3
  ·have h3d:=h3
   have hgT:=jw h3d
   have hbS:=(ly hgT.1).2
   obtain⟨⟨hb1,hb2⟩,hb3,hb4⟩:=hbS
   have hvT:=bk.1 (cm.1 hgT.1).2.1
   have hm3:=bg (a:=(thS px py vx vy x0 y0 x1 y1).1.1) (b:=vd) (A:=8388608) (B:=67108864) (by omega) (by omega)
   have hm4:=bg (a:=hi) (b:=(thS px py vx vy x0 y0 x1 y1).1.2) (A:=65536) (B:=67108864) (by omega) (by omega)
   have hfinG:=hgT.1
   have hfinB:=hgT.2
   refine cv (lz _ _ _ _ _ _ _ _ _ _ (by assumption)) ?_
   have G68:=j2 h3 h3d G67
   exact eR G68 hQ hbel (.bool (decide ((((thS px py vx vy x0 y0 x1 y1).1.1)*vd)<(hi*((thS px py vx vy x0 y0 x1 y1).1.2))))) results175 ⟨by (refine congrArg AV.bool ?_;rw[Bool.eq_iff_iff];unfold dg bfrB;simp only[Bool.and_eq_true,decide_eq_true_eq];first|(simp only[hfinG,hfinB,true_and];omega)|exact⟨fun e=>(by cases e),fun e=>(by omega)⟩),rfl⟩
  have h3d:=h3
  have hfinN:=(thO_me (lo:=0) (hi:=hi) h3d).2
  refine cv (pJ _ _ _ _ _ _ _ _ _ _ (by assumption)) ?_
  have G69:=j2 h3 h3d G67
  exact eR G69 hQ hbel (.bool false) results175 ⟨by rw[hfinN],rfl⟩
 have h1d:=bsT h1
 have G70:=jn h1 @h1d
 exact eR G70 hQ hbel (.bool false) results175 ⟨by (refine congrArg AV.bool ?_;rw[Bool.eq_iff_iff];unfold dg bfrB;simp only[Bool.and_eq_true,decide_eq_true_eq];first|(simp only[hfinG,hfinB,true_and];omega)|exact⟨fun e=>(by cases e),fun e=>(by omega)⟩),rfl⟩
theorem mQ (H:aa)(a0 b0 a1 b1 x0 y0 x1 y1:Int)(kba0 : -1099511627776<=a0/\a0<=1099511627776)(kbb0 : -1099511627776<=b0/\b0<=1099511627776)(kba1 : -1099511627776<=a1/\a1<=1099511627776)(kbb1 : -1099511627776<=b1/\b1<=1099511627776)(kbx0 : -1099511627776<=x0/\x0<=1099511627776)(kby0 : -1099511627776<=y0/\y0<=1099511627776)(kbx1 : -1099511627776<=x1/\x1<=1099511627776)(kby1 : -1099511627776<=y1/\y1<=1099511627776):zC 191 [.agg [iV a0,iV b0,iV a1,iV b1],.agg [iV x0,iV y0,iV x1,iV y1]] H (.tup [.agg [iV (mkV (dY a0 b0 a1 b1 x0 y0 x1 y1) (a0-x1)),iV (mkV (dY a0 b0 a1 b1 x0 y0 x1 y1) (b0-y1)),iV (mkV (dY a0 b0 a1 b1 x0 y0 x1 y1) (a1-x0)),iV (mkV (dY a0 b0 a1 b1 x0 y0 x1 y1) (b1-y0))],.bool (dY a0 b0 a1 b1 x0 y0 x1 y1)]) H:=by
 refine AcT true func191 ?_;intro hbel Q hQ
 refine aI ?_
 refine cv (jS _ _ _ _ _) ?_
 refine aI ?_
 refine aY (fun h1=>?_) (fun h1=>?_)
 ·have h1d:=bsT h1
  have G71:=jn h1 @h1d
  refine ae G71 ?_
  refine cv (jS _ _ _ _ _) ?_
  refine rgs G71 (fun h2 h2d G72=>?_) (fun h2 h2d G75=>?_)
  ·refine ae G72 ?_
   refine cv (jS _ _ _ _ _) ?_
   refine rcs G72 (fun h3 h3d G73=>?_) (fun h3 h3d G74=>?_)
   ·exact eR G73 hQ hbel (.tup [.agg [iV 0,iV 0,iV 0,iV 0],.bool false]) results191 ⟨by simp[dY,mkV,h1d,h2d,h3d],rfl⟩
   exact eR G74 hQ hbel (.tup [.agg [iV (a0-x1),iV (b0-y1),iV (a1-x0),iV (b1-y0)],.bool true]) results191 ⟨by simp[dY,mkV,h1d,h2d,h3d],rfl⟩
  exact eR G75 hQ hbel (.tup [.agg [iV 0,iV 0,iV 0,iV 0],.bool false]) results191 ⟨by simp[dY,mkV,h1d,h2d],rfl⟩
 have h1d:=bsT h1
 have G76:=jn h1 @h1d
 exact eR G76 hQ hbel (.tup [.agg [iV 0,iV 0,iV 0,iV 0],.bool false]) results191 ⟨by simp[dY,mkV,h1d],rfl⟩
theorem sgn_c (H:aa)(n:Int):zC 199 [iV n] H (iV (sgI n)) H:=by
 refine AcT true func199 ?_;intro hbel Q hQ
 refine aI ?_
 refine cO (fun h1=>?_) (fun h1=>?_)
 ·have h1d:=bsT h1
  have G1:=jn h1 @h1d
  exact eS G1 hQ hbel (iV 1) results199 ⟨by first|(unfold sgI;rw[if_pos (by omega)];done)|(unfold sgI;rw[if_neg (by omega),if_pos (by omega)];done)|(unfold sgI;rw[if_neg (by omega),if_neg (by omega)];done),rfl⟩
 have h1d:=bsT h1
 have G2:=jn h1 @h1d
 refine rcs G2 (fun h2 h2d G3=>?_) (fun h2 h2d G4=>?_)
 ·exact eS G3 hQ hbel (iV (-1)) results199 ⟨by first|(unfold sgI;rw[if_pos (by omega)];done)|(unfold sgI;rw[if_neg (by omega),if_pos (by omega)];done)|(unfold sgI;rw[if_neg (by omega),if_neg (by omega)];done),rfl⟩
 exact eS G4 hQ hbel (iV 0) results199 ⟨by first|(unfold sgI;rw[if_pos (by omega)];done)|(unfold sgI;rw[if_neg (by omega),if_pos (by omega)];done)|(unfold sgI;rw[if_neg (by omega),if_neg (by omega)];done),rfl⟩
theorem crs_c (H:aa)(px py qx qy rx ry:Int)(h1 : -1024<=qx-px/\qx-px<=1024)(h2 : -1024<=qy-py/\qy-py<=1024)(h3 : -8388608<=rx-px/\rx-px<=8388608)(h4 : -8388608<=ry-py/\ry-py<=8388608):zC 200 [.agg [iV px,iV py],.agg [iV qx,iV qy],.agg [iV rx,iV ry]] H (iV (crI px py qx qy rx ry)) H:=by
 have m1:=bg (a:=qx-px) (b:=ry-py) (A:=1024) (B:=8388608) (by omega) (by omega)
 have m2:=bg (a:=qy-py) (b:=rx-px) (A:=1024) (B:=8388608) (by omega) (by omega)
 refine AcT true func200 ?_;intro hbel Q hQ
 refine aI ?_
 exact eP hQ hbel (iV (((qx-px)*(ry-py))-((qy-py)*(rx-px)))) results200 ⟨rfl,rfl⟩
theorem bes_c (H:aa)(n lo hi:Int)(h1 : -16777216<=n/\n<=16777216)(h2 : -16777216<=lo/\lo<=16777216)(h3 : -16777216<=hi/\hi<=16777216):zC 124 [iV n,iV lo,iV hi] H (iV (dX n lo hi)) H:=by
 refine AcT true func124 ?_;intro hbel Q hQ
 refine aI ?_
 exact eQ hQ hbel (iV (if (if (lo-n)<0 then 0 else (lo-n))<(n-hi) then (n-hi) else (if (lo-n)<0 then 0 else (lo-n)))) results124 ⟨rfl,rfl⟩
theorem sqs_c (H:aa)(ax ay bx b_:Int)(h1 : -8388608<=ax-bx/\ax-bx<=8388608)(h2 : -8388608<=ay-b_/\ay-b_<=8388608):zC 201 [.agg [iV ax,iV ay],.agg [iV bx,iV b_]] H (iV (sqI ax ay bx b_)) H:=by
 have m1:=bg (a:=ax-bx) (b:=ax-bx) (A:=8388608) (B:=8388608) (by omega) (by omega)
 have m2:=bg (a:=ay-b_) (b:=ay-b_) (A:=8388608) (B:=8388608) (by omega) (by omega)
 refine AcT true func201 ?_;intro hbel Q hQ
 refine aI ?_
 exact eP hQ hbel (iV (((ax-bx)*(ax-bx))+((ay-b_)*(ay-b_)))) results201 ⟨rfl,rfl⟩
theorem scor_c (H:aa)(x0 y0 x1 y1:Int):zC 166 [.agg [iV x0,iV y0,iV x1,iV y1]] H (.agg [iV x0,iV y0,iV x1,iV y0,iV x0,iV y1,iV x1,iV y1]) H:=by
 refine AcT true func166 ?_;intro hbel Q hQ
 refine aI ?_
 exact eP hQ hbel (.agg [iV x0,iV y0,iV x1,iV y0,iV x0,iV y1,iV x1,iV y1]) results166 ⟨rfl,rfl⟩
theorem gap_c (H:aa)(px py x0 y0 x1 y1:Int)(hp:lnP px py=true)(hr:lnR x0 y0 x1 y1=true):zC 81 [.agg [iV px,iV py],.agg [iV x0,iV y0,iV x1,iV y1]] H (iV (gapP px py x0 y0 x1 y1)) H:=by
 have hp2:=cE.1 hp
 have hr2:=bA.1 hr
 have b1:=bes_bd (n:=px) (lo:=x0) (hi:=x1) (M:=2097152) (by omega) (by omega) (by omega)
 have b2:=bes_bd (n:=py) (lo:=y0) (hi:=y1) (M:=2097152) (by omega) (by omega) (by omega)
 have m1:=bg (a:=dX px x0 x1) (b:=dX px x0 x1) (A:=4194304) (B:=4194304) (by omega) (by omega)
 have m2:=bg (a:=dX py y0 y1) (b:=dX py y0 y1) (A:=4194304) (B:=4194304) (by omega) (by omega)
 refine AcT true func81 ?_;intro hbel Q hQ
 have G5:=jn @hp @hr
 refine ae G5 ?_
 refine cvr G5 (nH _ _ _) ?_
 refine cvr G5 (jS _ _ _ _ _) ?_
 refine cdr G5 (bes_c _ _ _ _ (by omega) (by omega) (by omega)) ?_
 refine cdr G5 (bes_c _ _ _ _ (by omega) (by omega) (by omega)) ?_
 exact eP hQ hbel (iV (((dX px x0 x1)*(dX px x0 x1))+((dX py y0 y1)*(dX py y0 y1)))) results81 ⟨rfl,rfl⟩
theorem nI (H:aa)(cx cy px py qx qy k:Int)(h1 : -1024<=qx-px/\qx-px<=1024)(h2 : -1024<=qy-py/\qy-py<=1024)(h3 : -4194304<=cx-px/\cx-px<=4194304)(h4 : -4194304<=cy-py/\cy-py<=4194304)(h5:0<=k/\k<=1024)(h6:(-2097152<=px/\px<=2097152) /\ -2097152<=py/\py<=2097152):zC 167 [.agg [iV cx,iV cy],.agg [iV px,iV py],.agg [iV qx,iV qy],iV k] H (.bool (wtB cx cy px py qx qy k)) H:=by
 have m1:=bg (a:=cx-px) (b:=qx-px) (A:=4194304) (B:=1024) (by omega) (by omega)
 have m2:=bg (a:=cy-py) (b:=qy-py) (A:=4194304) (B:=1024) (by omega) (by omega)
 have m3:=bg (a:=qx-px) (b:=qx-px) (A:=1024) (B:=1024) (by omega) (by omega)
 have m4:=bg (a:=qy-py) (b:=qy-py) (A:=1024) (B:=1024) (by omega) (by omega)
 have m5:=bg (a:=k) (b:=k) (A:=1024) (B:=1024) (by omega) (by omega)
 have n3:=sqz_nn (qx-px)
 have n4:=sqz_nn (qy-py)
 have n5:=sqz_nn k
 refine AcT true func167 ?_;intro hbel Q hQ
 refine aI ?_
 refine cO (fun h1=>?_) (fun h1=>?_)
 ·have h1d:=bsT h1
  have G6:=jn h1 @h1d
  refine ae G6 ?_
  refine cvr G6 (sqs_c _ _ _ _ _ (by omega) (by omega)) ?_
  exact eP hQ hbel (.bool (decide ((sqI cx cy px py)<=(k*k)))) results167 ⟨by first|(unfold wtB;simp[h1d];done)|(unfold wtB;rw[if_pos (by omega)];done)|(unfold wtB;rw[if_neg (by omega),if_pos (by omega)];done)|(unfold wtB;rw[if_neg (by omega),if_neg (by omega)];simp[h1d];done),rfl⟩
 have h1d:=bsT h1
 have G7:=jn h1 @h1d
 refine rcs G7 (fun h2 h2d G8=>?_) (fun h2 h2d G9=>?_)
 ·refine ae G8 ?_
  refine cvr G8 (sqs_c _ _ _ _ _ (by omega) (by omega)) ?_
  exact eP hQ hbel (.bool (decide ((sqI cx cy qx qy)<=(k*k)))) results167 ⟨by first|(unfold wtB;simp[h1d,h2d];done)|(unfold wtB;rw[if_pos (by omega)];done)|(unfold wtB;rw[if_neg (by omega),if_pos (by omega)];done)|(unfold wtB;rw[if_neg (by omega),if_neg (by omega)];simp[h1d,h2d];done),rfl⟩
 refine ae G9 ?_
 refine cv (crs_c _ _ _ _ _ _ _ (by omega) (by omega) (by omega) (by omega)) ?_
 refine rgs G9 (fun h3 h3d G10=>?_) (fun h3 h3d G13=>?_)
 ·refine rcs G10 (fun h4 h4d G11=>?_) (fun h4 h4d G12=>?_)
  ·exact eR G11 hQ hbel (.bool false) results167 ⟨by first|(unfold wtB;simp[h1d,h2d,h3d,h4d];done)|(unfold wtB;rw[if_pos (by omega)];done)|(unfold wtB;rw[if_neg (by omega),if_pos (by omega)];done)|(unfold wtB;rw[if_neg (by omega),if_neg (by omega)];simp[h1d,h2d,h3d,h4d];done),rfl⟩
  have m6:=bg (a:=crI px py qx qy cx cy) (b:=crI px py qx qy cx cy) (A:=4194304) (B:=4194304) (by omega) (by omega)
  have m7:=bg (a:=k*k) (b:=((qx-px)*(qx-px))+((qy-py)*(qy-py))) (A:=1048576) (B:=2097152) (by omega) (by omega)
  exact eR G12 hQ hbel (.bool (decide (((crI px py qx qy cx cy)*(crI px py qx qy cx cy))<=((k*k)*(((qx-px)*(qx-px))+((qy-py)*(qy-py))))))) results167 ⟨by first|(unfold wtB;simp[h1d,h2d,h3d,h4d];done)|(unfold wtB;rw[if_pos (by omega)];done)|(unfold wtB;rw[if_neg (by omega),if_pos (by omega)];done)|(unfold wtB;rw[if_neg (by omega),if_neg (by omega)];simp[h1d,h2d,h3d,h4d];done),rfl⟩
 exact eR G13 hQ hbel (.bool false) results167 ⟨by first|(unfold wtB;simp[h1d,h2d,h3d];done)|(unfold wtB;rw[if_pos (by omega)];done)|(unfold wtB;rw[if_neg (by omega),if_pos (by omega)];done)|(unfold wtB;rw[if_neg (by omega),if_neg (by omega)];simp[h1d,h2d,h3d];done),rfl⟩
theorem mrect_c (H:aa)(px py qx qy x0 y0 x1 y1:Int)(hp:lnP px py=true)(hq:lnP qx qy=true)(hr:lnR x0 y0 x1 y1=true)(hdx : -1024<=qx-px/\qx-px<=1024)(hdy : -1024<=qy-py/\qy-py<=1024):zC 165 [.agg [iV px,iV py],.agg [iV qx,iV qy],.agg [iV x0,iV y0,iV x1,iV y1]] H (.bool (mrB px py qx qy x0 y0 x1 y1)) H:=by
 have hp2:=cE.1 hp
 have hq2:=cE.1 hq
 have hr2:=bA.1 hr
 have hmn:∀a b:Int,(if b<a then b else a)=mnI a b:=fun _ _=>rfl
 have hmx:∀a b:Int,(if a<b then b else a)=mxI a b:=fun _ _=>rfl
 have hL0:mrL px py qx qy x0 y0 x1 y1 1=if sgI (crI px py qx qy x0 y0)<mrL px py qx qy x0 y0 x1 y1 0 then sgI (crI px py qx qy x0 y0) else mrL px py qx qy x0 y0 x1 y1 0:=rfl
 have hL1:mrL px py qx qy x0 y0 x1 y1 2=if sgI (crI px py qx qy x1 y0)<mrL px py qx qy x0 y0 x1 y1 1 then sgI (crI px py qx qy x1 y0) else mrL px py qx qy x0 y0 x1 y1 1:=rfl
 have hL2:mrL px py qx qy x0 y0 x1 y1 3=if sgI (crI px py qx qy x0 y1)<mrL px py qx qy x0 y0 x1 y1 2 then sgI (crI px py qx qy x0 y1) else mrL px py qx qy x0 y0 x1 y1 2:=rfl
 have hL3:mrL px py qx qy x0 y0 x1 y1 4=if sgI (crI px py qx qy x1 y1)<mrL px py qx qy x0 y0 x1 y1 3 then sgI (crI px py qx qy x1 y1) else mrL px py qx qy x0 y0 x1 y1 3:=rfl
 have hH0:mrH px py qx qy x0 y0 x1 y1 1=if mrH px py qx qy x0 y0 x1 y1 0<sgI (crI px py qx qy x0 y0) then sgI (crI px py qx qy x0 y0) else mrH px py qx qy x0 y0 x1 y1 0:=rfl
 have hH1:mrH px py qx qy x0 y0 x1 y1 2=if mrH px py qx qy x0 y0 x1 y1 1<sgI (crI px py qx qy x1 y0) then sgI (crI px py qx qy x1 y0) else mrH px py qx qy x0 y0 x1 y1 1:=rfl
 have hH2:mrH px py qx qy x0 y0 x1 y1 3=if mrH px py qx qy x0 y0 x1 y1 2<sgI (crI px py qx qy x0 y1) then sgI (crI px py qx qy x0 y1) else mrH px py qx qy x0 y0 x1 y1 2:=rfl
 have hH3:mrH px py qx qy x0 y0 x1 y1 4=if mrH px py qx qy x0 y0 x1 y1 3<sgI (crI px py qx qy x1 y1) then sgI (crI px py qx qy x1 y1) else mrH px py qx qy x0 y0 x1 y1 3:=rfl
 refine AcT true func165 ?_;intro hbel Q hQ
 have G1:=jn @hmn @hmx
 refine rgs G1 (fun h1 h1d G2=>?_) (fun h1 h1d G16=>?_)
 ·refine rgs G2 (fun h2 h2d G3=>?_) (fun h2 h2d G15=>?_)
  ·refine rgs G3 (fun h3 h3d G4=>?_) (fun h3 h3d G14=>?_)
   ·refine rcs G4 (fun h4 h4d G5=>?_) (fun h4 h4d G6=>?_)
    ·exact eR G5 hQ hbel (.bool false) results165 ⟨by first|(simp[mrB,h1d,h2d,h3d,h4d];done)|skip,rfl⟩
    refine ae G6 ?_
    refine cvr G6 (scor_c _ _ _ _ _) ?_
    refine glp (fun k F Hx=>∃i:Nat,i+k=4/\F=[(3,.ptr (some (H.length,0))),(4,.ptr (some (H.length+1,0))),(7,iV (mrL px py qx qy x0 y0 x1 y1 i)),(8,iV (mrH px py qx qy x0 y0 x1 y1 i)),(51,.agg [iV x0,iV y0,iV x1,iV y0,iV x0,iV y1,iV x1,iV y1]),(52,iV (i:Int))]/\Hx=H++[.cells true 0 [iV px,iV py],.cells true 0 [iV qx,iV qy]]) (4) ?_ ?_
    ·refine⟨_,_,_,⟨0,by omega,rfl,rfl⟩,bS hbel [0,1] (aN (jn @mrL.eq_1 @mrH.eq_1))⟩
    rintro k0 F Hx ⟨i,hm0,rfl,rfl⟩ J0 hJ0
    refine rcs G6 (fun h5 h5d _=>?_) (fun h5 h5d G11=>?_)
    ·obtain rfl|rfl|rfl|rfl:=(by omega:i=0\/i=1\/i=2\/i=3)
     ·have G7:=j2 h5 h5d G6
      refine ae G7 ?_
      refine cvr G7 (crs_c _ _ _ _ _ _ _ (by omega) (by omega) (by omega) (by omega)) ?_
      refine cvr G7 (sgn_c _ _) ?_
      refine hJ0 _ _ ⟨k0-1,by omega,_,_,_,⟨0+1,by omega,rfl,rfl⟩,bS hbel [0,1] (aN (jn @hL0 (jn @hL1 (jn @hL2 (jn @hL3 (jn @hH0 (jn @hH1 (jn @hH2 @hH3))))))))⟩
     ·have G8:=j2 h5 h5d G6
      refine ae G8 ?_
      refine cvr G8 (crs_c _ _ _ _ _ _ _ (by omega) (by omega) (by omega) (by omega)) ?_
      refine cvr G8 (sgn_c _ _) ?_
      refine hJ0 _ _ ⟨k0-1,by omega,_,_,_,⟨1+1,by omega,rfl,rfl⟩,bS hbel [0,1] (aN (jn @hL0 (jn @hL1 (jn @hL2 (jn @hL3 (jn @hH0 (jn @hH1 (jn @hH2 @hH3))))))))⟩
     ·have G9:=j2 h5 h5d G6
      refine ae G9 ?_
      refine cvr G9 (crs_c _ _ _ _ _ _ _ (by omega) (by omega) (by omega) (by omega)) ?_
      refine cvr G9 (sgn_c _ _) ?_
      refine hJ0 _ _ ⟨k0-1,by omega,_,_,_,⟨2+1,by omega,rfl,rfl⟩,bS hbel [0,1] (aN (jn @hL0 (jn @hL1 (jn @hL2 (jn @hL3 (jn @hH0 (jn @hH1 (jn @hH2 @hH3))))))))⟩
     have G10:=j2 h5 h5d G6
     refine ae G10 ?_
     refine cvr G10 (crs_c _ _ _ _ _ _ _ (by omega) (by omega) (by omega) (by omega)) ?_
     refine cvr G10 (sgn_c _ _) ?_
     refine hJ0 _ _ ⟨k0-1,by omega,_,_,_,⟨3+1,by omega,rfl,rfl⟩,bS hbel [0,1] (aN (jn @hL0 (jn @hL1 (jn @hL2 (jn @hL3 (jn @hH0 (jn @hH1 (jn @hH2 @hH3))))))))⟩
    obtain rfl:i=4:=by omega
    refine rgs G11 (fun h6 h6d G12=>?_) (fun h6 h6d G13=>?_)
    ·exact eR G12 hQ hbel (.bool (decide (0<=(mrH px py qx qy x0 y0 x1 y1 4)))) results165 ⟨by first|(simp[mrB,h1d,h2d,h3d,h4d,h5d,h6d];done)|skip,rfl⟩
    exact eR G13 hQ hbel (.bool false) results165 ⟨by first|(simp[mrB,h1d,h2d,h3d,h4d,h5d,h6d];done)|skip,rfl⟩
   exact eR G14 hQ hbel (.bool false) results165 ⟨by first|(simp[mrB,h1d,h2d,h3d];done)|skip,rfl⟩
  exact eR G15 hQ hbel (.bool false) results165 ⟨by first|(simp[mrB,h1d,h2d];done)|skip,rfl⟩
 exact eR G16 hQ hbel (.bool false) results165 ⟨by first|(simp[mrB,h1d];done)|skip,rfl⟩
theorem jT (H:aa)(px py qx qy x0 y0 x1 y1:Int)(hp:lnP px py=true)(hq:lnP qx qy=true)(hr:lnR x0 y0 x1 y1=true)(hdx : -1024<=qx-px/\qx-px<=1024)(hdy : -1024<=qy-py/\qy-py<=1024):zC 131 [.agg [iV px,iV py],.agg [iV qx,iV qy],.agg [iV x0,iV y0,iV x1,iV y1],iV 20] H (.bool (ptO px py qx qy x0 y0 x1 y1)) H:=by
 have hp2:=cE.1 hp
 have hq2:=cE.1 hq
 have hr2:=bA.1 hr
 have hb1:decide (0<dX qx (px-1024) (px+1024))=false:=decide_eq_false (by unfold dX;split<;>split<;>omega)
 have hb2:decide (0<dX qy (py-1024) (py+1024))=false:=decide_eq_false (by unfold dX;split<;>split<;>omega)
 refine AcT true func131 ?_;intro hbel Q hQ
 have G17:=jn @hp (jn @hq (jn @hr (jn @hb1 @hb2)))
 refine ae G17 ?_
 refine cvr G17 (nH _ _ _) ?_
 refine cvr G17 (nH _ _ _) ?_
 refine cvr G17 (jS _ _ _ _ _) ?_
 refine cvr G17 (bes_c _ _ _ _ (by omega) (by omega) (by omega)) ?_
 refine cvr G17 (bes_c _ _ _ _ (by omega) (by omega) (by omega)) ?_
 refine cv (mrect_c _ _ _ _ _ _ _ _ _ (by assumption) (by assumption) (by assumption) (by omega) (by omega)) ?_
 refine rgs G17 (fun h1 h1d G18=>?_) (fun h1 h1d G36=>?_)
 ·have ho0:=h1d
  refine ae G18 ?_
  refine cv (gap_c _ _ _ _ _ _ _ (by assumption) (by assumption)) ?_
  refine rgs G18 (fun h2 h2d G19=>?_) (fun h2 h2d G35=>?_)
  ·have ho1:=decide_eq_false h2d
   refine ae G19 ?_
   refine cv (gap_c _ _ _ _ _ _ _ (by assumption) (by assumption)) ?_
   refine rcs G19 (fun h3 h3d G20=>?_) (fun h3 h3d G21=>?_)
   ·have hfinO:ptO px py qx qy x0 y0 x1 y1=true:=by unfold ptO;rw[decide_eq_true h3d];simp
    exact eR G20 hQ hbel (.bool true) results131 ⟨by rw[hfinO],rfl⟩
   have ho2:=decide_eq_false h3d
   refine ae G21 ?_
   refine cvr G21 (scor_c _ _ _ _ _) ?_
   refine glp (fun k F Hx=>∃i:Nat,i+k=4/\((1<=i->wtB (ckX x0 x1 0) (ckY y0 y1 0) px py qx qy 20=false)/\(2<=i->wtB (ckX x0 x1 1) (ckY y0 y1 1) px py qx qy 20=false)/\(3<=i->wtB (ckX x0 x1 2) (ckY y0 y1 2) px py qx qy 20=false)/\(4<=i->wtB (ckX x0 x1 3) (ckY y0 y1 3) px py qx qy 20=false))/\F=[(3,iV 20),(4,.ptr (some (H.length,0))),(5,.ptr (some (H.length+1,0))),(77,.agg [iV x0,iV y0,iV x1,iV y0,iV x0,iV y1,iV x1,iV y1]),(78,iV (i:Int))]/\Hx=H++[.cells true 0 [iV px,iV py],.cells true 0 [iV qx,iV qy]]) (4) ?_ ?_
   ·refine⟨_,_,_,⟨0,by omega,⟨fun h=>by omega,fun h=>by omega,fun h=>by omega,fun h=>by omega⟩,rfl,rfl⟩,bS hbel [0,1] aD⟩
   rintro k0 F Hx ⟨i,hm0,hal,rfl,rfl⟩ J0 hJ0
   refine rcs G21 (fun h4 h4d _=>?_) (fun h4 h4d G34=>?_)
   ·obtain rfl|rfl|rfl|rfl:=(by omega:i=0\/i=1\/i=2\/i=3)
    ·have G22:=j2 h4 h4d G21
     refine ae G22 ?_
     refine cv (nI _ _ _ _ _ _ _ _ (by omega) (by omega) (by omega) (by omega) (by omega) (by omega)) ?_
     refine rcs G22 (fun h5 h5d G23=>?_) (fun h5 h5d G24=>?_)
     ·have hfinO:ptO px py qx qy x0 y0 x1 y1=true:=by
       have q:wtB (ckX x0 x1 0) (ckY y0 y1 0) px py qx qy 20=true:=h5d
       unfold ptO;rw[q];simp
      exact eR G23 hQ hbel (.bool true) results131 ⟨by rw[hfinO],rfl⟩
     have hc0:wtB (ckX x0 x1 0) (ckY y0 y1 0) px py qx qy 20=false:=h5d
     refine ae G24 ?_
     refine hJ0 _ _ ⟨k0-1,by omega,_,_,_,⟨0+1,by omega,by refine⟨fun h=>?_,fun h=>?_,fun h=>?_,fun h=>?_⟩<;>first|omega|assumption|exact hal.1 (by omega)|exact hal.2.1 (by omega)|exact hal.2.2.1 (by omega),rfl,rfl⟩,bS hbel [0,1] aD⟩
    ·have G25:=j2 h4 h4d G21
     refine ae G25 ?_
     refine cv (nI _ _ _ _ _ _ _ _ (by omega) (by omega) (by omega) (by omega) (by omega) (by omega)) ?_
     refine rcs G25 (fun h6 h6d G26=>?_) (fun h6 h6d G27=>?_)
     ·have hfinO:ptO px py qx qy x0 y0 x1 y1=true:=by
       have q:wtB (ckX x0 x1 1) (ckY y0 y1 1) px py qx qy 20=true:=h6d
       unfold ptO;rw[q];simp
      exact eR G26 hQ hbel (.bool true) results131 ⟨by rw[hfinO],rfl⟩
     have hc1:wtB (ckX x0 x1 1) (ckY y0 y1 1) px py qx qy 20=false:=h6d
     refine ae G27 ?_
     refine hJ0 _ _ ⟨k0-1,by omega,_,_,_,⟨1+1,by omega,by refine⟨fun h=>?_,fun h=>?_,fun h=>?_,fun h=>?_⟩<;>first|omega|assumption|exact hal.1 (by omega)|exact hal.2.1 (by omega)|exact hal.2.2.1 (by omega),rfl,rfl⟩,bS hbel [0,1] aD⟩
    ·have G28:=j2 h4 h4d G21
     refine ae G28 ?_
     refine cv (nI _ _ _ _ _ _ _ _ (by omega) (by omega) (by omega) (by omega) (by omega) (by omega)) ?_
     refine rcs G28 (fun h7 h7d G29=>?_) (fun h7 h7d G30=>?_)
     ·have hfinO:ptO px py qx qy x0 y0 x1 y1=true:=by
       have q:wtB (ckX x0 x1 2) (ckY y0 y1 2) px py qx qy 20=true:=h7d
       unfold ptO;rw[q];simp
      exact eR G29 hQ hbel (.bool true) results131 ⟨by rw[hfinO],rfl⟩
     have hc2:wtB (ckX x0 x1 2) (ckY y0 y1 2) px py qx qy 20=false:=h7d
     refine ae G30 ?_
     refine hJ0 _ _ ⟨k0-1,by omega,_,_,_,⟨2+1,by omega,by refine⟨fun h=>?_,fun h=>?_,fun h=>?_,fun h=>?_⟩<;>first|omega|assumption|exact hal.1 (by omega)|exact hal.2.1 (by omega)|exact hal.2.2.1 (by omega),rfl,rfl⟩,bS hbel [0,1] aD⟩
    have G31:=j2 h4 h4d G21
    refine ae G31 ?_
    refine cv (nI _ _ _ _ _ _ _ _ (by omega) (by omega) (by omega) (by omega) (by omega) (by omega)) ?_
    refine rcs G31 (fun h8 h8d G32=>?_) (fun h8 h8d G33=>?_)
    ·have hfinO:ptO px py qx qy x0 y0 x1 y1=true:=by
      have q:wtB (ckX x0 x1 3) (ckY y0 y1 3) px py qx qy 20=true:=h8d
      unfold ptO;rw[q];simp
     exact eR G32 hQ hbel (.bool true) results131 ⟨by rw[hfinO],rfl⟩
    have hc3:wtB (ckX x0 x1 3) (ckY y0 y1 3) px py qx qy 20=false:=h8d
    refine ae G33 ?_
    refine hJ0 _ _ ⟨k0-1,by omega,_,_,_,⟨3+1,by omega,by refine⟨fun h=>?_,fun h=>?_,fun h=>?_,fun h=>?_⟩<;>first|omega|assumption|exact hal.1 (by omega)|exact hal.2.1 (by omega)|exact hal.2.2.1 (by omega),rfl,rfl⟩,bS hbel [0,1] aD⟩
   have hfinO:ptO px py qx qy x0 y0 x1 y1=false:=by unfold ptO;rw[ho0,ho1,ho2,hal.1 (by omega),hal.2.1 (by omega),hal.2.2.1 (by omega),hal.2.2.2 (by omega)];rfl
   exact eR G34 hQ hbel (.bool false) results131 ⟨by rw[hfinO],rfl⟩
  have hfinO:ptO px py qx qy x0 y0 x1 y1=true:=by unfold ptO;rw[decide_eq_true h2d];simp
  exact eR G35 hQ hbel (.bool true) results131 ⟨by rw[hfinO],rfl⟩
 have hfinO:ptO px py qx qy x0 y0 x1 y1=true:=by unfold ptO;rw[h1d];rfl
 exact eR G36 hQ hbel (.bool true) results131 ⟨by rw[hfinO],rfl⟩
theorem qM {x y h:Int}:cR x y h=(ptB x y&&btw h 0 255):=by rw[Bool.eq_iff_iff,cK,Bool.and_eq_true]
theorem tm_a (h:Int):(Int.tmod h 256=h%256/\(0<=h\/h%256=0))\/(Int.tmod h 256=h%256-256/\h<0):=by
 rcases Int.lt_or_le h 0 with k|k
 ·have e:Int.tmod h 256 = -((-h)%256):=by
   have:=Int.neg_tmod (-h) 256
   rw[Int.neg_neg] at this
   rw[this,Int.tmod_eq_emod_of_nonneg (by omega)]
  rw[e];omega
 left;exact⟨Int.tmod_eq_emod_of_nonneg k,.inl k⟩
theorem trn (h:Int):Int.tmod (Int.tmod h 256+256) 256=(((h%256).toNat:Nat):Int):=by
 have a:=tm_a h
 rw[Int.tmod_eq_emod_of_nonneg (by omega)]
 omega
theorem iY (H:aa)(a b:Int)(hb:0<b)(hw : -4611686018427387904<=a/\a<=4611686018427387904):zC 130 [iV a,iV b] H (iV (a/b)) H:=by
 have htd:=gN (a:=a) (b:=b) hb hw
 refine AcT true func130 ?_;intro hbel Q hQ
 refine aI ?_
 refine cO (fun h1=>?_) (fun h1=>?_)
 ·have h1d:=bsT h1
  have hfinq:Int.tdiv a b-1=a/b:=by rw[<-jc hb,if_pos h1d]
  have G1:=jn h1 @h1d
  exact eS G1 hQ hbel (iV ((Int.tdiv a b)-1)) results130 ⟨congrArg (AV.int .i64) hfinq,rfl⟩
 have h1d:=bsT h1
 have hfinq:Int.tdiv a b=a/b:=by rw[<-jc hb,if_neg (by omega)]
 have G2:=jn h1 @h1d
 exact eS G2 hQ hbel (iV (Int.tdiv a b)) results130 ⟨congrArg (AV.int .i64) hfinq,rfl⟩
theorem nJ (H:aa)(x y:Int):zC 129 [.agg [iV x,iV y]] H (.bool (ptB x y)) H:=by
 refine AcT true func129 ?_;intro hbel Q hQ
 refine aI ?_
 refine cv (d9 _ x 1048576 (by decide)) ?_
 refine aI ?_
 refine aY (fun h1=>?_) (fun h1=>?_)
 ·have h1d:=bsT h1
  have G3:=jn h1 @h1d
  refine ae G3 ?_
  refine cvr G3 (d9 _ y 1048576 (by decide)) ?_
  exact eP hQ hbel (.bool (bK y 1048576)) results129 ⟨by simp[ptB,h1d],rfl⟩
 have h1d:=bsT h1
 have G4:=jn h1 @h1d
 exact eR G4 hQ hbel (.bool false) results129 ⟨by simp[ptB,h1d],rfl⟩
theorem kA (H:aa)(x y h:Int):zC 88 [.agg [iV x,iV y,iV h]] H (.agg [iV x,iV y]) H:=by
 refine AcT true func88 ?_;intro hbel Q hQ
 refine aI ?_
 exact eP hQ hbel (.agg [iV x,iV y]) results88 ⟨rfl,rfl⟩
theorem dvps_c (H:aa)(x y h:Int):zC 126 [.agg [iV x,iV y,iV h]] H (.bool (cR x y h)) H:=by
 refine AcT true func126 ?_;intro hbel Q hQ
 refine aI ?_
 refine cv (kA _ x y h) ?_
 refine aI ?_
 refine cv (nJ _ x y) ?_
 refine aI ?_
 refine aY (fun h1=>?_) (fun h1=>?_)
 ·have h1d:=bsT h1
  have G5:=jn h1 @h1d
  refine ae G5 ?_
  refine cvr G5 (d8 _ h 0 _) ?_
  exact eP hQ hbel (.bool (btw h 0 255)) results126 ⟨by rw[qM];simp[h1d],rfl⟩
 have h1d:=bsT h1
 have G6:=jn h1 @h1d
 exact eR G6 hQ hbel (.bool false) results126 ⟨by rw[qM];simp[h1d],rfl⟩
theorem dturn_c (H:aa)(h:Int)(hh : -1000<=h/\h<=1000):zC 127 [iV h] H (iV (((h%256).toNat:Nat):Int)) H:=by
 have htm:=tm_a h
 have htr:=trn h
 refine AcT true func127 ?_;intro hbel Q hQ
 have G7:=@htr
 exact eS G7 hQ hbel (iV (((h%256).toNat:Nat):Int)) results127 ⟨rfl,rfl⟩
theorem bU (H:aa)(h n:Int)(hn : -1000<=n/\n<=1000):zC 128 [iV h,iV n] H (.agg [iV (cu h (mxI n 0)),iV (cw h (mxI n 0))]) H:=by
 have hz:(if 0<n then n else 0)=mxI n 0:=by unfold mxI;split<;>split<;>omega
 have hzb:0<=mxI n 0/\mxI n 0<=1000:=by unfold mxI;split<;>omega
 have hdv:=dw.1 (gM h)
 have hm1:=bg (a:=mxI n 0) (b:=(cF h).1) (A:=1000) (B:=8065) (by omega) (by omega)
 have hm2:=bg (a:=mxI n 0) (b:=(cF h).2.1) (A:=1000) (B:=8065) (by omega) (by omega)
 refine AcT true func128 ?_;intro hbel Q hQ
 have G8:=@hz
 refine ae G8 ?_
 refine cvr G8 (dir_c _ h) ?_
 refine cdr G8 (iY _ _ _ (by omega) (by omega)) ?_
 refine cdr G8 (iY _ _ _ (by omega) (by omega)) ?_
 exact eP hQ hbel (.agg [iV (((mxI n 0)*((cF h).1))/((cF h).2.2)),iV (((mxI n 0)*((cF h).2.1))/((cF h).2.2))]) results128 ⟨rfl,rfl⟩
theorem kD (H:aa)(n k:Int)(hk:0<=k/\k<=1000):zC 84 [iV n,iV k] H (iV (af n (0-k) k)) H:=by
 refine AcT true func84 ?_;intro hbel Q hQ
 refine aI ?_
 exact eQ hQ hbel (iV (if (0-k)<(if k<n then k else n) then (if k<n then k else n) else (0-k))) results84 ⟨rfl,rfl⟩
theorem dclip_c (H:aa)(tu le sl ra eT eL eX eY:Int)(hb:bX tu le sl ra=true):zC 45 [.agg [iV tu,iV le,iV sl,iV ra],.agg [iV eT,iV eL,iV eX,iV eY]] H (.tup [.agg [iV (af eT (0-tu) tu),iV (af eL (0-le) le),iV (af eX (0-sl) sl),iV (af eY (0-sl) sl)],iV 0]) H:=by
 have hbi:=hb
 simp only[bX,Bool.and_eq_true,aS] at hbi
 refine AcT true func45 ?_;intro hbel Q hQ
 have G9:=@hb
 refine ae G9 ?_
 refine cvr G9 (ik _ _ _ _ _) ?_
 refine cdr G9 (kD _ _ _ (by omega)) ?_
 refine cdr G9 (kD _ _ _ (by omega)) ?_
 refine cdr G9 (kD _ _ _ (by omega)) ?_
 refine cdr G9 (kD _ _ _ (by omega)) ?_
 exact eP hQ hbel (.tup [.agg [iV (af eT (0-tu) tu),iV (af eL (0-le) le),iV (af eX (0-sl) sl),iV (af eY (0-sl) sl)],iV 0]) results45 ⟨rfl,rfl⟩
theorem dnext_c (H:aa)(ax ay ah t f eT eL eX eY:Int):zC 86 [.agg [iV ax,iV ay,iV ah],.agg [iV t,iV f],.agg [iV eT,iV eL,iV eX,iV eY]] H (.tup [.agg [iV (nxX ax ay ah t f eT eL eX eY),iV (nxY ax ay ah t f eT eL eX eY),iV (nxH ax ay ah t f eT eL eX eY)],iV (nxE ax ay ah t f eT eL eX eY)]) H:=by
 have hnhf:(((((ah+t)+eT)%256).toNat:Nat):Int)=nhI ah t eT:=rfl
 refine AcT true func86 ?_;intro hbel Q hQ
 have G10:=@hnhf
 refine ae G10 ?_
 refine cv (dvps_c _ _ _ _) ?_
 refine rgs G10 (fun h1 h1d G11=>?_) (fun h1 h1d G26=>?_)
 ·have hP:=h1d
  have hPi:=cK.1 hP
  have hbt:=aS.1 hPi.2
  have hpp:=hPi.1
  simp only[ptB,Bool.and_eq_true,aH] at hpp
  refine ae G11 ?_
  refine cv (gx _ t f) ?_
  refine rcs G11 (fun h2 h2d G12=>?_) (fun h2 h2d G13=>?_)
  ·have hfinE:nxE ax ay ah t f eT eL eX eY=1:=by unfold nxE;rw[hP,h2d];rfl
   obtain⟨hX1,hY1,hH1⟩:=il hfinE (by decide)
   have hfinX:=hX1
   have hfinY:=hY1
   have hfinH:=hH1
   exact eR G12 hQ hbel (.tup [.agg [iV 0,iV 0,iV 0],iV 1]) results86 ⟨by first|(rw[hfinX,hfinY,hfinH,hfinE];done)|(rw[hfinX,hfinY,hfinH,hfinE];rfl),rfl⟩
  have hC:=h2d
  have hCi:=hC
  simp only[cH,Bool.and_eq_true,aS,aH] at hCi
  refine ae G13 ?_
  refine cv (d9 _ eT 64 (by decide)) ?_
  refine rgs G13 (fun h3 h3d G14=>?_) (fun h3 h3d G25=>?_)
  ·have hw1:=aH.1 h3d
   have hww1:=h3d
   refine ae G14 ?_
   refine cv (d9 _ eL 64 (by decide)) ?_
   refine rgs G14 (fun h4 h4d G15=>?_) (fun h4 h4d G24=>?_)
   ·have hw2:=aH.1 h4d
    have hww2:=h4d
    refine ae G15 ?_
    refine cv (d9 _ eX 64 (by decide)) ?_
    refine rgs G15 (fun h5 h5d G16=>?_) (fun h5 h5d G23=>?_)
    ·have hw3:=aH.1 h5d
     have hww3:=h5d
     refine ae G16 ?_
     refine cv (d9 _ eY 64 (by decide)) ?_
     refine rcs G16 (fun h6 h6d G17=>?_) (fun h6 h6d G18=>?_)
     ·have herr:f0 eT eL eX eY=false:=by unfold f0;simp[h6d]
      have hfinE:nxE ax ay ah t f eT eL eX eY=2:=by unfold nxE;rw[hP,hC,herr];rfl
      obtain⟨hX1,hY1,hH1⟩:=il hfinE (by decide)
      have hfinX:=hX1
      have hfinY:=hY1
      have hfinH:=hH1
      exact eR G17 hQ hbel (.tup [.agg [iV 0,iV 0,iV 0],iV 2]) results86 ⟨by first|(rw[hfinX,hfinY,hfinH,hfinE];done)|(rw[hfinX,hfinY,hfinH,hfinE];rfl),rfl⟩
     have hw4:=aH.1 h6d
     have hww4:=h6d
     have herr:f0 eT eL eX eY=true:=by unfold f0;rw[hww1,hww2,hww3,hww4];rfl
     refine ae G18 ?_
     refine cv (dturn_c _ _ (by omega)) ?_
     refine rcs G18 (fun h7 h7d _=>?_) (fun h7 h7d _=>?_)
     ·have h7n:=bnT h7
      have hf0:f=0:=by simpa using h7d
      have hfinE:nxE ax ay ah t f eT eL eX eY=0:=by unfold nxE;rw[hP,hC,herr,if_pos hf0];rfl
      obtain⟨hX1,hY1,hfinH⟩:=nx_ok hfinE
      have hfinX:nxX ax ay ah t f eT eL eX eY=ax:=hX1.trans (if_pos hf0)
      have hfinY:nxY ax ay ah t f eT eL eX eY=ay:=hY1.trans (if_pos hf0)
      have G19:=jn h7 (jn h7n (jn @aP (jn @aO G18)))
      exact eR G19 hQ hbel (.tup [.agg [iV ax,iV ay,iV (nhI ah t eT)],iV 0]) results86 ⟨by first|(rw[hfinX,hfinY,hfinH,hfinE];done)|(rw[hfinX,hfinY,hfinH,hfinE];rfl),rfl⟩
     have h7n:=bnT h7
     have hf0:¬f=0:=by simpa using h7d
     have hrx:rwX ax (nhI ah t eT) f eL eX=ax+(cu (nhI ah t eT) (mxI (f+eL) 0)+eX):=if_neg hf0
     have hry:rwY ay (nhI ah t eT) f eL eY=ay+(cw (nhI ah t eT) (mxI (f+eL) 0)+eY):=if_neg hf0
     have hwb:=jd (nhI ah t eT) (m:=mxI (f+eL) 0) (by unfold mxI;split<;>omega)
     have hmx3:mxI (f+eL) 0<=96:=by unfold mxI;split<;>omega
     have hnh:btw (nhI ah t eT) 0 255=true:=by rw[aS];unfold nhI;omega
     have G20:=jn h7 (jn h7n (jn @aP (jn @aO G18)))
     refine ae G20 ?_
     refine cvr G20 (bU _ _ _ (by omega)) ?_
     refine cvr G20 (kA _ _ _ _) ?_
     refine cv (nJ _ _ _) ?_
     refine rcs G20 (fun h8 h8d G21=>?_) (fun h8 h8d G22=>?_)
     ·have hpo:cR (rwX ax (nhI ah t eT) f eL eX) (rwY ay (nhI ah t eT) f eL eY) (nhI ah t eT)=false:=by rw[<-Bool.not_eq_true,cK,hrx,hry];intro q;rw[h8d] at q;exact absurd q.1 (by decide)
      have hfinE:nxE ax ay ah t f eT eL eX eY=2:=by unfold nxE;rw[hP,hC,herr];simp[hf0,hpo]
      obtain⟨hX1,hY1,hH1⟩:=il hfinE (by decide)
      have hfinX:=hX1
      have hfinY:=hY1
      have hfinH:=hH1
      exact eR G21 hQ hbel (.tup [.agg [iV 0,iV 0,iV 0],iV 2]) results86 ⟨by first|(rw[hfinX,hfinY,hfinH,hfinE];done)|(rw[hfinX,hfinY,hfinH,hfinE];rfl),rfl⟩
     have hpo:cR (rwX ax (nhI ah t eT) f eL eX) (rwY ay (nhI ah t eT) f eL eY) (nhI ah t eT)=true:=by rw[cK,hrx,hry];exact⟨h8d,hnh⟩
     have hfinE:nxE ax ay ah t f eT eL eX eY=0:=by unfold nxE;rw[hP,hC,herr];simp[hf0,hpo]
     obtain⟨hX1,hY1,hfinH⟩:=nx_ok hfinE
     have hfinX:=hX1.trans hrx
     have hfinY:=hY1.trans hry
     exact eR G22 hQ hbel (.tup [.agg [iV (ax+((cu (nhI ah t eT) (mxI (f+eL) 0))+eX)),iV (ay+((cw (nhI ah t eT) (mxI (f+eL) 0))+eY)),iV (nhI ah t eT)],iV 0]) results86 ⟨by first|(rw[hfinX,hfinY,hfinH,hfinE];done)|(rw[hfinX,hfinY,hfinH,hfinE];rfl),rfl⟩
    have herr:f0 eT eL eX eY=false:=by unfold f0;simp[h5d]
    have hfinE:nxE ax ay ah t f eT eL eX eY=2:=by unfold nxE;rw[hP,hC,herr];rfl
    obtain⟨hX1,hY1,hH1⟩:=il hfinE (by decide)
    have hfinX:=hX1
    have hfinY:=hY1
    have hfinH:=hH1
    exact eR G23 hQ hbel (.tup [.agg [iV 0,iV 0,iV 0],iV 2]) results86 ⟨by first|(rw[hfinX,hfinY,hfinH,hfinE];done)|(rw[hfinX,hfinY,hfinH,hfinE];rfl),rfl⟩
   have herr:f0 eT eL eX eY=false:=by unfold f0;simp[h4d]
   have hfinE:nxE ax ay ah t f eT eL eX eY=2:=by unfold nxE;rw[hP,hC,herr];rfl
   obtain⟨hX1,hY1,hH1⟩:=il hfinE (by decide)
   have hfinX:=hX1
   have hfinY:=hY1
   have hfinH:=hH1
   exact eR G24 hQ hbel (.tup [.agg [iV 0,iV 0,iV 0],iV 2]) results86 ⟨by first|(rw[hfinX,hfinY,hfinH,hfinE];done)|(rw[hfinX,hfinY,hfinH,hfinE];rfl),rfl⟩
  have herr:f0 eT eL eX eY=false:=by unfold f0;simp[h3d]
  have hfinE:nxE ax ay ah t f eT eL eX eY=2:=by unfold nxE;rw[hP,hC,herr];rfl
  obtain⟨hX1,hY1,hH1⟩:=il hfinE (by decide)
  have hfinX:=hX1
  have hfinY:=hY1
  have hfinH:=hH1
  exact eR G25 hQ hbel (.tup [.agg [iV 0,iV 0,iV 0],iV 2]) results86 ⟨by first|(rw[hfinX,hfinY,hfinH,hfinE];done)|(rw[hfinX,hfinY,hfinH,hfinE];rfl),rfl⟩
 have hfinE:nxE ax ay ah t f eT eL eX eY=1:=by unfold nxE;rw[h1d];rfl
 obtain⟨hX1,hY1,hH1⟩:=il hfinE (by decide)
 have hfinX:=hX1
 have hfinY:=hY1
 have hfinH:=hH1
 exact eR G26 hQ hbel (.tup [.agg [iV 0,iV 0,iV 0],iV 1]) results86 ⟨by first|(rw[hfinX,hfinY,hfinH,hfinE];done)|(rw[hfinX,hfinY,hfinH,hfinE];rfl),rfl⟩
theorem nK {W Hh:Int}{xs:List Int}(h:ey W Hh xs=true)(h0:∀z∈xs,0<=z):∀v∈xs,1<=v/\v<=2:=fun v hv=>by
 unfold ey at h
 rw[Bool.and_eq_true,Bool.not_eq_true',List.any_eq_false] at h
 have h1:=h.2 v hv
 have h2:=(bh.1 h.1).le v hv
 have h3:=h0 v hv
 have:¬v=0:=by simpa using h1
 omega
theorem u8_nz {v:Int}(h:1<=v/\v<=2):¬UInt8.ofNat v.toNat=0:=by
 rcases (by omega:v=1\/v=2) with rfl|rfl<;>decide
theorem cnt_0 {xs:List Int}(h:∀v∈xs,1<=v/\v<=2):Lib.countByte (Lib.bytesOf xs) 0=0:=by
 unfold Lib.countByte
 refine List.count_eq_zero.2 fun hm=>?_
 unfold Lib.bytesOf at hm
 obtain⟨v,hv,e⟩:=List.mem_map.1 hm
 exact u8_nz (h v hv) e
theorem idx_0:∀{xs:List Int},(∀v∈xs,1<=v/\v<=2)->Lib.indexByte (Lib.bytesOf xs) 0 = -1
 |[],_=>rfl
 | v::xs,h=>by
  have ih:=idx_0 (xs:=xs) fun u hu=>h u (List.mem_cons_of_mem _ hu)
  have hv:=u8_nz (h v (List.mem_cons_self ..))
  show (if (UInt8.ofNat v.toNat==0)=true then _ else _)=_
  rw[if_neg (by simpa using hv)]
  show (if (Lib.indexByte (Lib.bytesOf xs) 0 == -1)=true then _ else _)=_
  rw[ih];rfl
theorem lZ {E:Env}{w:World}{H:aa}{b n:Nat}{own:Bool}{cap:Option Nat}{xs:List Int}{v:Value}(hE:Emb E H w)(hb:H[b]? = some (.cells own 1 (ints .u8 xs)))(hn:n=xs.length)(h:Rel E (.sl (some (b,0)) n cap) v):
  (n=0/\v=.slice none 0 0)\/(∃a c,v=.slice (some a) n c/\(n=0\/(a=⟨(E.loc b).blk,(E.loc b).off,none⟩/\∀i,i<n->w.cell? ⟨(E.loc b).blk,(E.loc b).off+i,none⟩=some (.int .u8 (xs.getD i 0))))):=by
 cases h with
 |nils _ _ h1 h2=>exact .inl ⟨rfl,rfl⟩
 | sl _ _ _ _ c a h1 q1 q2 q3 q4 q5 =>
  refine .inr ⟨a,c,rfl,?_⟩
  rcases Nat.eq_zero_or_pos n with h0|h0
  ·exact .inl h0
  refine .inr ⟨by rcases q4 with q4|q4;omega;simpa using q4,fun i hi=>?_⟩
  have hB:BlkOk E w (E.loc b) (.cells own 1 (ints .u8 xs)):=hE.blk b _ hb
  have hi2:i<xs.length:=by omega
  obtain⟨k1,u,k2,k3⟩:=hB.1 i (.int .u8 xs[i]) (by simp[ints,hi2])
  have e:u=.int .u8 xs[i]:=by cases k3;rfl
  rw[k2,e,List.getD_eq_getElem?_getD,List.getElem?_eq_getElem hi2];rfl
def fm (m r:Int):Bool:=btw m 0 255&&btw r (-1) 1024
def ga (e:Int×Int):Bool:=fm e.1 e.2
def c7 (s:List (Int×Int)):Bool:=decide ((s.length:Int)<=32)&&!(s.any fun e=>!ga e)
theorem gb {m r:Int}:fm m r=true↔(0<=m/\m<=255) /\ -1<=r/\r<=1024:=by
 unfold fm;rw[Bool.and_eq_true,aS,aS]
theorem dF {s:List (Int×Int)}:c7 s=true↔s.length<=32/\∀e∈s,ga e=true:=by
 unfold c7
 rw[Bool.and_eq_true,decide_eq_true_eq,Bool.not_eq_true',List.any_eq_false]
 refine⟨fun h=>⟨by omega,fun e he=>?_⟩,fun h=>⟨by omega,fun e he=>?_⟩⟩
 ·have:=h.2 e he
  simpa using this
 rw[h.2 e he];decide
def eo (W Hh:Int) (xs:List Int) (l:List T6) (s:List (Int×Int)) (g:Int):Bool:=bC W Hh xs&&(decide (0<(l.length:Int))&&(bM l&&(c7 s&&btw g 1 32)))
theorem gT {W Hh:Int}{xs:List Int}{l:List T6}{s:List (Int×Int)}{g:Int}:eo W Hh xs l s g=true↔bC W Hh xs=true/\0<l.length/\bM l=true/\c7 s=true/\1<=g/\g<=32:=by
 unfold eo;simp only[Bool.and_eq_true,decide_eq_true_eq,aS]
 exact⟨fun ⟨a,b,c,d,e⟩=>⟨a,by omega,c,d,e⟩,fun ⟨a,b,c,d,e⟩=>⟨a,by omega,c,d,e⟩⟩
def sumC (l:List T6):Nat->Int
 |0=>0
 |n+1=>sumC l n+g66 l n
theorem g66_bd {l:List T6}(h:bM l=true){n:Nat}(hn:n<l.length):1<=g66 l n/\g66 l n<=256:=by
 have:=(bF.1 h).2 (g6 l n) (cD hn)
 have:=(bo.1 (bB.1 this).2.2)
 exact this.2.1
theorem jj {l:List T6}(h:bM l=true):l.length<=16:=(bF.1 h).1
theorem sumC_bd {l:List T6}(h:bM l=true):∀n:Nat,n<=l.length->(n:Int)<=sumC l n/\sumC l n<=256*n
 |0,_=>by simp[sumC]
 | n+1,hn=>by
  have:=sumC_bd h n (by omega)
  have:=g66_bd h (show n<l.length by omega)
  simp only[sumC];omega
def wdeB (b:T6):Bool:=decide (64<b.2.2.1-b.1)||decide (64<b.2.2.2.1-b.2.1)
def fG (l:List T6):Bool:=decide (sumC l l.length<=32)&&!(l.any wdeB)
abbrev T9:=Int×Int×Int×Int×Int×Int×Int×Int×Int
def r9 (l:List T9):List AV:=l.flatMap fun p=>[.int .i64 p.1,.int .i64 p.2.1,.int .i64 p.2.2.1,.int .i64 p.2.2.2.1,.int .i64 p.2.2.2.2.1,.int .i64 p.2.2.2.2.2.1,.int .i64 p.2.2.2.2.2.2.1,.int .i64 p.2.2.2.2.2.2.2.1,.int .i64 p.2.2.2.2.2.2.2.2]
def g9 (l:List T9) (j:Nat):T9:=l.getD j (0,0,0,0,0,0,0,0,0)
def g91 (l:List T9) (j:Nat):Int:=(g9 l j).1
def g92 (l:List T9) (j:Nat):Int:=(g9 l j).2.1
def g93 (l:List T9) (j:Nat):Int:=(g9 l j).2.2.1
def g94 (l:List T9) (j:Nat):Int:=(g9 l j).2.2.2.1
def g95 (l:List T9) (j:Nat):Int:=(g9 l j).2.2.2.2.1
def g96 (l:List T9) (j:Nat):Int:=(g9 l j).2.2.2.2.2.1
def g97 (l:List T9) (j:Nat):Int:=(g9 l j).2.2.2.2.2.2.1
def g98 (l:List T9) (j:Nat):Int:=(g9 l j).2.2.2.2.2.2.2.1
def g99 (l:List T9) (j:Nat):Int:=(g9 l j).2.2.2.2.2.2.2.2
theorem g9_eq {l:List T9}{j:Nat}(h:j<l.length):(g91 l j,g92 l j,g93 l j,g94 l j,g95 l j,g96 l j,g97 l j,g98 l j,g99 l j)=l[j]:=by
 simp[g91,g92,g93,g94,g95,g96,g97,g98,g99,g9,h,List.getD_eq_getElem?_getD]
theorem cg:r9 []=[]:=rfl
theorem bD {p:T9}{l:List T9}:r9 (p::l)=.int .i64 p.1::.int .i64 p.2.1::.int .i64 p.2.2.1::.int .i64 p.2.2.2.1::.int .i64 p.2.2.2.2.1::.int .i64 p.2.2.2.2.2.1::.int .i64 p.2.2.2.2.2.2.1::.int .i64 p.2.2.2.2.2.2.2.1::.int .i64 p.2.2.2.2.2.2.2.2::r9 l:=rfl
theorem bt {l m:List T9}:r9 (l++m)=r9 l++r9 m:=by simp[r9]
theorem ec:∀{l:List T9},(r9 l).length=l.length*9
 |[]=>rfl
 |p::l=>by rw[bD];simp only[List.length_cons,ec (l:=l)];omega
theorem bW {σ:Nat->Nat}:∀{l:List T9},AV.mvs σ (r9 l)=r9 l
 |[]=>rfl
 | p::l=>by
  rw[bD]
  show AV.mv σ _::AV.mv σ _::AV.mv σ _::AV.mv σ _::AV.mv σ _::AV.mv σ _::AV.mv σ _::AV.mv σ _::AV.mv σ _::AV.mvs σ (r9 l)=_
  rw[bW (l:=l)];rfl
theorem r9_at:∀{l:List T9}{j:Nat}(_h:j<l.length),(r9 l).drop (j*9)=.int .i64 (g91 l j)::.int .i64 (g92 l j)::.int .i64 (g93 l j)::.int .i64 (g94 l j)::.int .i64 (g95 l j)::.int .i64 (g96 l j)::.int .i64 (g97 l j)::.int .i64 (g98 l j)::.int .i64 (g99 l j)::(r9 l).drop ((j+1)*9)
 |[],j,h=>by simp at h
 |p::l,0,_=>by rw[bD];simp[g91,g92,g93,g94,g95,g96,g97,g98,g99,g9]
 | p::l,j+1,h=>by
  rw[bD,show (j+1)*9=j*9+1+1+1+1+1+1+1+1+1 by omega,List.drop_succ_cons,List.drop_succ_cons,List.drop_succ_cons,List.drop_succ_cons,List.drop_succ_cons,List.drop_succ_cons,List.drop_succ_cons,List.drop_succ_cons,List.drop_succ_cons,r9_at (l:=l) (by simpa using h),show (j+1+1)*9=(j+1)*9+1+1+1+1+1+1+1+1+1 by omega,List.drop_succ_cons,List.drop_succ_cons,List.drop_succ_cons,List.drop_succ_cons,List.drop_succ_cons,List.drop_succ_cons,List.drop_succ_cons,List.drop_succ_cons,List.drop_succ_cons]
  rfl
theorem r9_load {l:List T9}{j:Nat}(h:j<l.length):((r9 l).drop (j*9)).take 9=[.int .i64 (g91 l j),.int .i64 (g92 l j),.int .i64 (g93 l j),.int .i64 (g94 l j),.int .i64 (g95 l j),.int .i64 (g96 l j),.int .i64 (g97 l j),.int .i64 (g98 l j),.int .i64 (g99 l j)]:=by rw[r9_at h];rfl
theorem r9_p0 {l:List T9}{j:Nat}(h:j<l.length):((r9 l).drop (j*9)).take 6=[.int .i64 (g91 l j),.int .i64 (g92 l j),.int .i64 (g93 l j),.int .i64 (g94 l j),.int .i64 (g95 l j),.int .i64 (g96 l j)]:=by rw[r9_at h];rfl
theorem jx {l:List T9}(h:0<l.length):(r9 l).take 6=[.int .i64 (g91 l 0),.int .i64 (g92 l 0),.int .i64 (g93 l 0),.int .i64 (g94 l 0),.int .i64 (g95 l 0),.int .i64 (g96 l 0)]:=by
 have:=r9_p0 h
 rwa [Nat.zero_mul,List.drop_zero] at this
theorem r9_p6 {l:List T9}{j:Nat}(h:j<l.length):((r9 l).drop (j*9+6)).take 3=[.int .i64 (g97 l j),.int .i64 (g98 l j),.int .i64 (g99 l j)]:=by rw[<-List.drop_drop,r9_at h];rfl
theorem jy {l:List T9}(h:0<l.length):((r9 l).drop 6).take 3=[.int .i64 (g97 l 0),.int .i64 (g98 l 0),.int .i64 (g99 l 0)]:=by
 have:=r9_p6 h
 rwa [Nat.zero_mul,Nat.zero_add] at this
theorem lA {l:List T9}:(r9 l).all AV.one=true:=by
 induction l with
 |nil=>rfl
 |cons p l ih=>rw[bD];simp[AV.one,ih]
section
variable {P:Program} {H:aa} {n:Nat}
end
theorem grid_bd2 {p:Int->Int->Bool}{x0 y0 y:Int}{w n m:Nat}(hn:n<=33000)(hw:w<=33000)(hm:m<=w):(cI p x0 w y0 n).length+(rowR p x0 y m).length<=1089033000:=by
 have h1:=lu (p:=p) (x0:=x0) (y0:=y0) (w:=w) n
 have h2:=mJ (p:=p) (x0:=x0) (y:=y) m
 have h3:=Nat.mul_le_mul hn hw
 omega
def rngB (lo hi:Int):Bool:=decide (0<=lo)&&(decide (lo<=hi)&&decide (hi<=2048))
def trE (px py vx vy vd lo hi:Int):Int:=if (ptB px py&&da vx vy vd)=true then (if rngB lo hi=true then 0 else 2) else 1
def trL (px py vx vy vd lo hi:Int):List (Int×Int):=mkL (trE px py vx vy vd lo hi) (dK px py px py vx vy vd lo hi)
def gc (x0 y0 x1 y1 vx vy vd lo hi:Int):Int:=if (gO x0 y0 x1 y1&&da vx vy vd)=true then (if rngB lo hi=true then (if 1024<x1-x0\/1024<y1-y0 then 6 else 0) else 2) else 1
def cP (x0 y0 x1 y1 vx vy vd lo hi:Int):List (Int×Int):=mkL (gc x0 y0 x1 y1 vx vy vd lo hi) (dK x0 y0 x1 y1 vx vy vd lo hi)
theorem fH {lo hi:Int}:rngB lo hi=true↔0<=lo/\lo<=hi/\hi<=2048:=by unfold rngB;simp only[Bool.and_eq_true,decide_eq_true_eq]
theorem fO {x y:Int}:ptB x y=true↔(-1048576<=x/\x<=1048576) /\ -1048576<=y/\y<=1048576:=by unfold ptB;rw[Bool.and_eq_true,aH,aH]
theorem trE_1 {px py vx vy vd lo hi:Int}(h:¬(ptB px py=true/\da vx vy vd=true)):trE px py vx vy vd lo hi=1/\trL px py vx vy vd lo hi=[]:=by
 have e:trE px py vx vy vd lo hi=1:=if_neg (by rw[Bool.and_eq_true];exact h)
 exact⟨e,if_neg (by rw[e];decide)⟩
theorem trE_2 {px py vx vy vd lo hi:Int}(h1:ptB px py=true)(h2:da vx vy vd=true)(h:¬(0<=lo/\lo<=hi/\hi<=2048)):trE px py vx vy vd lo hi=2/\trL px py vx vy vd lo hi=[]:=by
 have e:trE px py vx vy vd lo hi=2:=by unfold trE;rw[h1,h2,if_pos (show (true&&true)=true from rfl),if_neg (by rw[fH];exact h)]
 exact⟨e,if_neg (by rw[e];decide)⟩
theorem trE_0 {px py vx vy vd lo hi:Int}(h1:ptB px py=true)(h2:da vx vy vd=true)(h:0<=lo/\lo<=hi/\hi<=2048):trE px py vx vy vd lo hi=0/\trL px py vx vy vd lo hi=dK px py px py vx vy vd lo hi:=by
 have e:trE px py vx vy vd lo hi=0:=by unfold trE;rw[h1,h2,if_pos (show (true&&true)=true from rfl),if_pos (fH.2 h)]
 exact⟨e,if_pos e⟩
theorem sptE_1 {x0 y0 x1 y1 vx vy vd lo hi:Int}(h:¬(gO x0 y0 x1 y1=true/\da vx vy vd=true)):gc x0 y0 x1 y1 vx vy vd lo hi=1/\cP x0 y0 x1 y1 vx vy vd lo hi=[]:=by
 have e:gc x0 y0 x1 y1 vx vy vd lo hi=1:=if_neg (by rw[Bool.and_eq_true];exact h)
 exact⟨e,if_neg (by rw[e];decide)⟩
theorem sptE_2 {x0 y0 x1 y1 vx vy vd lo hi:Int}(h1:gO x0 y0 x1 y1=true)(h2:da vx vy vd=true)(h:¬(0<=lo/\lo<=hi/\hi<=2048)):gc x0 y0 x1 y1 vx vy vd lo hi=2/\cP x0 y0 x1 y1 vx vy vd lo hi=[]:=by
 have e:gc x0 y0 x1 y1 vx vy vd lo hi=2:=by unfold gc;rw[h1,h2,if_pos (show (true&&true)=true from rfl),if_neg (by rw[fH];exact h)]
 exact⟨e,if_neg (by rw[e];decide)⟩
theorem sptE_6 {x0 y0 x1 y1 vx vy vd lo hi:Int}(h1:gO x0 y0 x1 y1=true)(h2:da vx vy vd=true)(h:0<=lo/\lo<=hi/\hi<=2048)(k:1024<x1-x0\/1024<y1-y0):gc x0 y0 x1 y1 vx vy vd lo hi=6/\cP x0 y0 x1 y1 vx vy vd lo hi=[]:=by
 have e:gc x0 y0 x1 y1 vx vy vd lo hi=6:=by unfold gc;rw[h1,h2,if_pos (show (true&&true)=true from rfl),if_pos (fH.2 h),if_pos k]
 exact⟨e,if_neg (by rw[e];decide)⟩
theorem sptE_0 {x0 y0 x1 y1 vx vy vd lo hi:Int}(h1:gO x0 y0 x1 y1=true)(h2:da vx vy vd=true)(h:0<=lo/\lo<=hi/\hi<=2048)(k:¬(1024<x1-x0\/1024<y1-y0)):gc x0 y0 x1 y1 vx vy vd lo hi=0/\cP x0 y0 x1 y1 vx vy vd lo hi=dK x0 y0 x1 y1 vx vy vd lo hi:=by
 have e:gc x0 y0 x1 y1 vx vy vd lo hi=0:=by unfold gc;rw[h1,h2,if_pos (show (true&&true)=true from rfl),if_pos (fH.2 h),if_neg k]
 exact⟨e,if_pos e⟩
theorem qN {x0 y0 x1 y1 vx vy vd lo hi:Int}(hx : -1048576<=x0/\x0<=x1/\x1<=1048576)(hy : -1048576<=y0/\y0<=y1/\y1<=1048576)(hv:da vx vy vd=true)(h:0<=lo/\lo<=hi/\hi<=2048):(dK x0 y0 x1 y1 vx vy vd lo hi).length<=co (aw x0 vx vd lo hi) (bJ x1 vx vd lo hi)*co (aw y0 vy vd lo hi) (bJ y1 vy vd lo hi):=by
 have:=lu (p:=cl x0 y0 x1 y1 vx vy vd lo hi) (x0:=spl (aw x0 vx vd lo hi)) (y0:=spl (aw y0 vy vd lo hi)) (w:=co (aw x0 vx vd lo hi) (bJ x1 vx vd lo hi)) (co (aw y0 vy vd lo hi) (bJ y1 vy vd lo hi))
 unfold dK;rw[Nat.mul_comm];exact this
theorem l4 {a b n d lo hi:Int}(hd:0<d)(hn : -d<=n/\n<=d)(h0:0<=lo)(hh:lo<=hi)(h1:hi<=2048)(hab:a<=b/\b<=a+1024):co (aw a n d lo hi) (bJ b n d lo hi)<=85:=by
 have r:=jR (a:=a) (b:=b) hd hn h0 hh h1
 unfold co spl sph;omega
theorem trE_z {px py vx vy vd lo hi:Int}(h:trE px py vx vy vd lo hi=0):ptB px py=true/\da vx vy vd=true/\0<=lo/\lo<=hi/\hi<=2048:=by
 unfold trE at h
 split at h
 ·rename_i hv
  rw[Bool.and_eq_true] at hv
  split at h
  ·rename_i hr;exact⟨hv.1,hv.2,fH.1 hr⟩
  omega
 omega
theorem sptE_z {x0 y0 x1 y1 vx vy vd lo hi:Int}(h:gc x0 y0 x1 y1 vx vy vd lo hi=0):gO x0 y0 x1 y1=true/\da vx vy vd=true/\(0<=lo/\lo<=hi/\hi<=2048)/\¬(1024<x1-x0\/1024<y1-y0):=by
 unfold gc at h
 split at h
 ·rename_i hv
  rw[Bool.and_eq_true] at hv
  split at h
  ·rename_i hr
   split at h
   ·omega
   rename_i hk;exact⟨hv.1,hv.2,fH.1 hr,hk⟩
  omega
 omega
theorem mR (x0 y0 x1 y1 vx vy vd lo hi:Int):(cP x0 y0 x1 y1 vx vy vd lo hi).length<=7225:=by
 unfold cP mkL
 split
 ·rename_i h
  obtain⟨h1,h2,hr,hk⟩:=sptE_z h
  have hq:=ku.1 h1
  have hvv:=bk.1 h2
  have l:=qN hq.1 hq.2 h2 hr
  have c1:=l4 (a:=x0) (b:=x1) (n:=vx) (d:=vd) (lo:=lo) (hi:=hi) (by omega) (by omega) hr.1 hr.2.1 hr.2.2 (by omega)
  have c2:=l4 (a:=y0) (b:=y1) (n:=vy) (d:=vd) (lo:=lo) (hi:=hi) (by omega) (by omega) hr.1 hr.2.1 hr.2.2 (by omega)
  exact Nat.le_trans l (Nat.mul_le_mul c1 c2)
 simp
theorem jU (px py vx vy vd lo hi:Int):(trL px py vx vy vd lo hi).length<=7225:=by
 unfold trL mkL
 split
 ·rename_i h
  obtain⟨h1,h2,hr⟩:=trE_z h
  have hq:=fO.1 h1
  have hvv:=bk.1 h2
  have l:=qN (x0:=px) (x1:=px) (y0:=py) (y1:=py) (by omega) (by omega) h2 hr
  have c1:=l4 (a:=px) (b:=px) (n:=vx) (d:=vd) (lo:=lo) (hi:=hi) (by omega) (by omega) hr.1 hr.2.1 hr.2.2 (by omega)
  have c2:=l4 (a:=py) (b:=py) (n:=vy) (d:=vd) (lo:=lo) (hi:=hi) (by omega) (by omega) hr.1 hr.2.1 hr.2.2 (by omega)
  exact Nat.le_trans l (Nat.mul_le_mul c1 c2)
 simp
theorem jk {x0 y0 x1 y1 vx vy vd lo hi:Int}{c:Int×Int}(hx : -1048576<=x0/\x0<=x1/\x1<=1048576)(hy : -1048576<=y0/\y0<=y1/\y1<=1048576)(hv:da vx vy vd=true)(h:0<=lo/\lo<=hi/\hi<=2048):c∈dK x0 y0 x1 y1 vx vy vd lo hi↔cl x0 y0 x1 y1 vx vy vd lo hi c.1 c.2=true:=by
 have hvv:=bk.1 hv
 have r1:=jR (a:=x0) (b:=x1) (n:=vx) (d:=vd) (lo:=lo) (hi:=hi) (by omega) (by omega) h.1 h.2.1 h.2.2
 have r2:=jR (a:=y0) (b:=y1) (n:=vy) (d:=vd) (lo:=lo) (hi:=hi) (by omega) (by omega) h.1 h.2.1 h.2.2
 have c1:=lX (a:=aw x0 vx vd lo hi) (b:=bJ x1 vx vd lo hi) (by omega)
 have c2:=lX (a:=aw y0 vy vd lo hi) (b:=bJ y1 vy vd lo hi) (by omega)
 unfold dK
 rw[pD]
 constructor
 ·rintro⟨-,-,k⟩;exact k
 intro k
 obtain⟨⟨k1,k2⟩,k3,k4⟩:=swp_range hx hy k
 have k1:=spl_le.2 k1
 have k2:=le_sph.2 k2
 have k3:=spl_le.2 k3
 have k4:=le_sph.2 k4
 exact⟨by omega,by omega,k⟩
theorem swp_bd {x0 y0 x1 y1 vx vy vd lo hi a b:Int}(h:cl x0 y0 x1 y1 vx vy vd lo hi a b=true):(-32768<=a/\a<=32768) /\ -32768<=b/\b<=32768:=by
 unfold cl dY at h
 simp only[Bool.and_eq_true,bA] at h
 omega
theorem pvv_c (H:aa)(vx vy vd:Int):zC 158 [.agg [iV vx,iV vy,iV vd]] H (.bool (da vx vy vd)) H:=by
 refine AcT true func158 ?_;intro hbel Q hQ
 refine aI ?_
 refine aY (fun h1=>?_) (fun h1=>?_)
 ·have h1d:=bsT h1
  have G1:=jn h1 @h1d
  refine rgs G1 (fun h2 h2d G2=>?_) (fun h2 h2d G7=>?_)
  ·refine ae G2 ?_
   refine cv (gl _ _ _ (by omega)) ?_
   refine rgs G2 (fun h3 h3d G3=>?_) (fun h3 h3d G6=>?_)
   ·have hwx:=aH.1 h3d
    refine ae G3 ?_
    refine cv (gl _ _ _ (by omega)) ?_
    refine rgs G3 (fun h4 h4d G4=>?_) (fun h4 h4d G5=>?_)
    ·have hwy:=aH.1 h4d
     have hm1:=bg (a:=vx) (b:=vx) (A:=67108864) (B:=67108864) (by omega) (by omega)
     have hm2:=bg (a:=vy) (b:=vy) (A:=67108864) (B:=67108864) (by omega) (by omega)
     have hm3:=bg (a:=vd) (b:=vd) (A:=67108864) (B:=67108864) (by omega) (by omega)
     exact eR G4 hQ hbel (.bool (((vx*vx)+(vy*vy))==(vd*vd))) results158 ⟨by (refine congrArg AV.bool ?_;rw[Bool.eq_iff_iff,bk,beq_iff_eq];exact⟨fun e=>⟨⟨by omega,by omega⟩,⟨by omega,by omega⟩,⟨by omega,by omega⟩,e⟩,fun e=>e.2.2.2⟩),rfl⟩
    have hwy:¬(-vd<=vy/\vy<=vd):=mt aH.2 (by rw[h4d];decide)
    exact eR G5 hQ hbel (.bool false) results158 ⟨by (refine congrArg AV.bool ?_;rw[Bool.eq_iff_iff,bk];exact⟨fun e=>(by cases e),fun k=>(by omega)⟩),rfl⟩
   have hwx:¬(-vd<=vx/\vx<=vd):=mt aH.2 (by rw[h3d];decide)
   exact eR G6 hQ hbel (.bool false) results158 ⟨by (refine congrArg AV.bool ?_;rw[Bool.eq_iff_iff,bk];exact⟨fun e=>(by cases e),fun k=>(by omega)⟩),rfl⟩
  exact eR G7 hQ hbel (.bool false) results158 ⟨by (refine congrArg AV.bool ?_;rw[Bool.eq_iff_iff,bk];exact⟨fun e=>(by cases e),fun k=>(by omega)⟩),rfl⟩
 have h1d:=bsT h1
 have G8:=jn h1 @h1d
 exact eR G8 hQ hbel (.bool false) results158 ⟨by (refine congrArg AV.bool ?_;rw[Bool.eq_iff_iff,bk];exact⟨fun e=>(by cases e),fun k=>(by omega)⟩),rfl⟩
theorem jz (H:aa)(x y:Int)(kbx : -2097152<=x/\x<=2097152)(kby : -2097152<=y/\y<=2097152):zC 121 [.agg [iV x,iV y]] H (.agg [iV (x*64),iV (y*64),iV (x*64+64),iV (y*64+64)]) H:=by
 refine AcT true func121 ?_;intro hbel Q hQ
 refine aI ?_
 exact eP hQ hbel (.agg [iV (x*64),iV (y*64),iV ((x*64)+64),iV ((y*64)+64)]) results121 ⟨rfl,rfl⟩
theorem reach_c (H:aa)(a b n d lo hi:Int)(ha : -1048576<=a/\a<=1048576)(hb : -1048576<=b/\b<=1048576)(hd:1<=d/\d<=67108864)(hn : -d<=n/\n<=d)(h0:0<=lo)(hh:lo<=hi)(h1:hi<=2048):zC 189 [iV a,iV b,iV n,iV d,iV lo,iV hi] H (.tup [iV (aw a n d lo hi),iV (bJ b n d lo hi)]) H:=by
 have hm1:=bg (a:=lo) (b:=n) (A:=2048) (B:=67108864) (by omega) (by omega)
 have hm2:=bg (a:=hi) (b:=n) (A:=2048) (B:=67108864) (by omega) (by omega)
 have hr:=jR (a:=a) (b:=b) (n:=n) (d:=d) (lo:=lo) (hi:=hi) (by omega) hn h0 hh h1
 unfold aw bJ at hr
 have hmn : -137438953472<=(if hi*n<lo*n then hi*n else lo*n)/\(if hi*n<lo*n then hi*n else lo*n)<=137438953472:=by split<;>omega
 have hmx : -137438953472<=(if lo*n<hi*n then hi*n else lo*n)/\(if lo*n<hi*n then hi*n else lo*n)<=137438953472:=by split<;>omega
 refine AcT true func189 ?_;intro hbel Q hQ
 refine aI ?_
 refine cv (iT _ _ d (by omega) (by omega)) ?_
 refine aI ?_
 refine cv (iT _ _ d (by omega) (by omega)) ?_
 refine aI ?_
 exact eQ hQ hbel (.tup [iV (a+((if (hi*n)<(lo*n) then (hi*n) else (lo*n))/d)),iV ((b+((if (lo*n)<(hi*n) then (hi*n) else (lo*n))/d))+1)]) results189 ⟨rfl,rfl⟩
theorem qO (H:aa)(x0 y0 x1 y1 vx vy vd lo hi:Int)(hx : -1048576<=x0/\x0<=x1/\x1<=1048576)(hy : -1048576<=y0/\y0<=y1/\y1<=1048576)(hv:da vx vy vd=true)(hl:0<=lo/\lo<=hi/\hi<=2048):zC 159 [.agg [iV x0,iV y0,iV x1,iV y1],.agg [iV vx,iV vy,iV vd],iV lo,iV hi] H (.sl (some (H.length,0)) ((dK x0 y0 x1 y1 vx vy vd lo hi).length) (aT (dK x0 y0 x1 y1 vx vy vd lo hi).length)) (H++[.cells (aL (dK x0 y0 x1 y1 vx vy vd lo hi).length) 2 (prs (dK x0 y0 x1 y1 vx vy vd lo hi))]):=by
 have hvv:=bk.1 hv
 have hrx:=jR (a:=x0) (b:=x1) (n:=vx) (d:=vd) (lo:=lo) (hi:=hi) (by omega) (by omega) (by omega) (by omega) (by omega)
 have hry:=jR (a:=y0) (b:=y1) (n:=vy) (d:=vd) (lo:=lo) (hi:=hi) (by omega) (by omega) (by omega) (by omega) (by omega)
 have hcx:=lX (a:=(aw x0 vx vd lo hi)) (b:=(bJ x1 vx vd lo hi)) (by omega)
 have hcy:=lX (a:=(aw y0 vy vd lo hi)) (b:=(bJ y1 vy vd lo hi)) (by omega)
 refine AcL true func159 ?_;intro hbel Q hQ
 refine aI ?_
 refine cv (reach_c _ _ _ _ _ _ _ (by omega) (by omega) (by omega) (by omega) (by omega) (by omega) (by omega)) ?_
 refine aI ?_
 refine cv (reach_c _ _ _ _ _ _ _ (by omega) (by omega) (by omega) (by omega) (by omega) (by omega) (by omega)) ?_
 refine aI ?_
 refine cv (span_c _ _ _ (by omega) (by omega)) ?_
 refine aI ?_
 refine cv (span_c _ _ _ (by omega) (by omega)) ?_
 refine aI ?_
 refine go_loopA (fun k F Hx=>∃n:Nat,n+k=co (aw y0 vy vd lo hi) (bJ y1 vy vd lo hi)/\F=[(2,iV lo),(3,iV hi),(4,.ptr (some (H.length,0))),(5,.ptr (some (H.length+1,0))),(13,iV (spl (aw x0 vx vd lo hi))),(14,iV (sph (bJ x1 vx vd lo hi))),(16,iV (sph (bJ y1 vy vd lo hi))),(17,.sl (some (H.length+2,0)) ((cI (cl x0 y0 x1 y1 vx vy vd lo hi) (spl (aw x0 vx vd lo hi)) (co (aw x0 vx vd lo hi) (bJ x1 vx vd lo hi)) (spl (aw y0 vy vd lo hi)) n).length) (aT (cI (cl x0 y0 x1 y1 vx vy vd lo hi) (spl (aw x0 vx vd lo hi)) (co (aw x0 vx vd lo hi) (bJ x1 vx vd lo hi)) (spl (aw y0 vy vd lo hi)) n).length)),(18,iV ((spl (aw y0 vy vd lo hi))+(n:Int)))]/\Hx=H++[.cells true 0 [iV x0,iV y0,iV x1,iV y1],.cells true 0 [iV vx,iV vy,iV vd],.cells (aL (cI (cl x0 y0 x1 y1 vx vy vd lo hi) (spl (aw x0 vx vd lo hi)) (co (aw x0 vx vd lo hi) (bJ x1 vx vd lo hi)) (spl (aw y0 vy vd lo hi)) n).length) 2 (prs (cI (cl x0 y0 x1 y1 vx vy vd lo hi) (spl (aw x0 vx vd lo hi)) (co (aw x0 vx vd lo hi) (bJ x1 vx vd lo hi)) (spl (aw y0 vy vd lo hi)) n))]) (co (aw y0 vy vd lo hi) (bJ y1 vy vd lo hi)) ?_ ?_
 ·refine⟨_,_,_,⟨0,by omega,rfl,rfl⟩,Abs.byG hbel [.cells false 2 []] rfl [0,1,2] (by decide) ?_⟩
  exact az (jn @gridR_0 (jn @Int.natCast_zero @Int.add_zero))
 rintro k0 F Hx ⟨n,hm0,rfl,rfl⟩ Q1 hJ0 hr1 he1
 have hQ1:=fun F H' h=>hr1 F H' (hQ F H' h)
 refine zQT hQ1 fun Q2 hn2 hQ2 he2=>?_
 have G9:=jn @bm @cJ
 refine rcs G9 (fun h1 h1d G10=>?_) (fun h1 h1d G17=>?_)
 ·refine ae G10 ?_
  refine hn2 _ _ (sqR hQ1 fun Q3 hn3 hQ3 he3=>?_)
  refine bkR hQ3 fun Q4 hn4 hQ4 he4 hb4=>?_
  refine zQT hQ4 fun Q5 hn5 hQ5 he5=>?_
  refine ae G10 ?_
  refine hn5 _ _ ?_
  refine bkR hQ4 fun Q6 hn6 hQ6 he6 hb6=>?_
  refine kr (fun k F Hx=>∃m:Nat,m+k=(co (aw x0 vx vd lo hi) (bJ x1 vx vd lo hi))/\F=[(2,iV lo),(3,iV hi),(4,.ptr (some (H.length,0))),(5,.ptr (some (H.length+1,0))),(13,iV (spl (aw x0 vx vd lo hi))),(14,iV (sph (bJ x1 vx vd lo hi))),(16,iV (sph (bJ y1 vy vd lo hi))),(17,.sl (some (H.length+2,0)) ((cI (cl x0 y0 x1 y1 vx vy vd lo hi) (spl (aw x0 vx vd lo hi)) (co (aw x0 vx vd lo hi) (bJ x1 vx vd lo hi)) (spl (aw y0 vy vd lo hi)) n++rowR (cl x0 y0 x1 y1 vx vy vd lo hi) (spl (aw x0 vx vd lo hi)) ((spl (aw y0 vy vd lo hi))+(n:Int)) m).length) (aT (cI (cl x0 y0 x1 y1 vx vy vd lo hi) (spl (aw x0 vx vd lo hi)) (co (aw x0 vx vd lo hi) (bJ x1 vx vd lo hi)) (spl (aw y0 vy vd lo hi)) n++rowR (cl x0 y0 x1 y1 vx vy vd lo hi) (spl (aw x0 vx vd lo hi)) ((spl (aw y0 vy vd lo hi))+(n:Int)) m).length)),(18,iV ((spl (aw y0 vy vd lo hi))+(n:Int))),(19,iV ((spl (aw x0 vx vd lo hi))+(m:Int)))]/\Hx=H++[.cells true 0 [iV x0,iV y0,iV x1,iV y1],.cells true 0 [iV vx,iV vy,iV vd],.cells (aL (cI (cl x0 y0 x1 y1 vx vy vd lo hi) (spl (aw x0 vx vd lo hi)) (co (aw x0 vx vd lo hi) (bJ x1 vx vd lo hi)) (spl (aw y0 vy vd lo hi)) n++rowR (cl x0 y0 x1 y1 vx vy vd lo hi) (spl (aw x0 vx vd lo hi)) ((spl (aw y0 vy vd lo hi))+(n:Int)) m).length) 2 (prs (cI (cl x0 y0 x1 y1 vx vy vd lo hi) (spl (aw x0 vx vd lo hi)) (co (aw x0 vx vd lo hi) (bJ x1 vx vd lo hi)) (spl (aw y0 vy vd lo hi)) n++rowR (cl x0 y0 x1 y1 vx vy vd lo hi) (spl (aw x0 vx vd lo hi)) ((spl (aw y0 vy vd lo hi))+(n:Int)) m))]) ((co (aw x0 vx vd lo hi) (bJ x1 vx vd lo hi))) ?_ ?_
  ·refine⟨_,_,_,⟨0,by omega,rfl,rfl⟩,bS hbel [0,1,2] (az (jn @rowR_0 (jn @List.append_nil.{0} (jn @Int.natCast_zero @Int.add_zero))))⟩
  rintro k1 F Hx ⟨m,hm1,rfl,rfl⟩ Q7 hJ1 hr7 he7
  have hQ7:=fun F H' h=>hr7 F H' (hQ6 F H' h)
  refine zQT hQ7 fun Q8 hn8 hQ8 he8=>?_
  refine rcs G10 (fun h2 h2d G11=>?_) (fun h2 h2d G16=>?_)
  ·have hgb:=grid_bd2 (p:=(cl x0 y0 x1 y1 vx vy vd lo hi)) (x0:=(spl (aw x0 vx vd lo hi))) (y0:=(spl (aw y0 vy vd lo hi))) (y:=(spl (aw y0 vy vd lo hi))+(n:Int)) (w:=(co (aw x0 vx vd lo hi) (bJ x1 vx vd lo hi))) (n:=n) (m:=m) (by omega) (by omega) (by omega)
   refine ae G11 ?_
   refine hn8 _ _ (sqR hQ7 fun Q9 hn9 hQ9 he9=>?_)
   refine bkR hQ9 fun Q10 hn10 hQ10 he10 hb10=>?_
   refine zQT hQ10 fun Q11 hn11 hQ11 he11=>?_
   refine ae G11 ?_
   refine hn11 _ _ ?_
   refine bT true try_mixed [[0,1,2,3,4,5,6,7,8,9],[0,1,2,7,3,4,5,6,8,9],[0,2,7,1,3,4,5,6,8,9]] (by kernel_rfl) (fun F2 H2=>F2=[(2,iV lo),(3,iV hi),(4,.ptr (some (H.length,0))),(5,.ptr (some (H.length+1,0))),(13,iV (spl (aw x0 vx vd lo hi))),(14,iV (sph (bJ x1 vx vd lo hi))),(16,iV (sph (bJ y1 vy vd lo hi))),(17,.sl (some (H.length+2,0)) ((cI (cl x0 y0 x1 y1 vx vy vd lo hi) (spl (aw x0 vx vd lo hi)) (co (aw x0 vx vd lo hi) (bJ x1 vx vd lo hi)) (spl (aw y0 vy vd lo hi)) n++rowR (cl x0 y0 x1 y1 vx vy vd lo hi) (spl (aw x0 vx vd lo hi)) ((spl (aw y0 vy vd lo hi))+(n:Int)) m).length) (aT (cI (cl x0 y0 x1 y1 vx vy vd lo hi) (spl (aw x0 vx vd lo hi)) (co (aw x0 vx vd lo hi) (bJ x1 vx vd lo hi)) (spl (aw y0 vy vd lo hi)) n++rowR (cl x0 y0 x1 y1 vx vy vd lo hi) (spl (aw x0 vx vd lo hi)) ((spl (aw y0 vy vd lo hi))+(n:Int)) m).length)),(18,iV ((spl (aw y0 vy vd lo hi))+(n:Int))),(19,iV ((spl (aw x0 vx vd lo hi))+(m:Int))),(20,.ptr (some (H.length+3,0))),(21,.ptr (some (H.length+4,0))),(22,.bool (dY (((spl (aw x0 vx vd lo hi))+(m:Int))*64) (((spl (aw y0 vy vd lo hi))+(n:Int))*64) (((spl (aw x0 vx vd lo hi))+(m:Int))*64+64) (((spl (aw y0 vy vd lo hi))+(n:Int))*64+64) x0 y0 x1 y1))]/\H2=H++[.cells true 0 [iV x0,iV y0,iV x1,iV y1],.cells true 0 [iV vx,iV vy,iV vd],.cells (aL (cI (cl x0 y0 x1 y1 vx vy vd lo hi) (spl (aw x0 vx vd lo hi)) (co (aw x0 vx vd lo hi) (bJ x1 vx vd lo hi)) (spl (aw y0 vy vd lo hi)) n++rowR (cl x0 y0 x1 y1 vx vy vd lo hi) (spl (aw x0 vx vd lo hi)) ((spl (aw y0 vy vd lo hi))+(n:Int)) m).length) 2 (prs (cI (cl x0 y0 x1 y1 vx vy vd lo hi) (spl (aw x0 vx vd lo hi)) (co (aw x0 vx vd lo hi) (bJ x1 vx vd lo hi)) (spl (aw y0 vy vd lo hi)) n++rowR (cl x0 y0 x1 y1 vx vy vd lo hi) (spl (aw x0 vx vd lo hi)) ((spl (aw y0 vy vd lo hi))+(n:Int)) m)),.cells true 0 [iV ((spl (aw x0 vx vd lo hi))+(m:Int)),iV ((spl (aw y0 vy vd lo hi))+(n:Int))],.cells true 0 [iV (mkV (dY (((spl (aw x0 vx vd lo hi))+(m:Int))*64) (((spl (aw y0 vy vd lo hi))+(n:Int))*64) (((spl (aw x0 vx vd lo hi))+(m:Int))*64+64) (((spl (aw y0 vy vd lo hi))+(n:Int))*64+64) x0 y0 x1 y1) ((((spl (aw x0 vx vd lo hi))+(m:Int))*64)-x1)),iV (mkV (dY (((spl (aw x0 vx vd lo hi))+(m:Int))*64) (((spl (aw y0 vy vd lo hi))+(n:Int))*64) (((spl (aw x0 vx vd lo hi))+(m:Int))*64+64) (((spl (aw y0 vy vd lo hi))+(n:Int))*64+64) x0 y0 x1 y1) ((((spl (aw y0 vy vd lo hi))+(n:Int))*64)-y1)),iV (mkV (dY (((spl (aw x0 vx vd lo hi))+(m:Int))*64) (((spl (aw y0 vy vd lo hi))+(n:Int))*64) (((spl (aw x0 vx vd lo hi))+(m:Int))*64+64) (((spl (aw y0 vy vd lo hi))+(n:Int))*64+64) x0 y0 x1 y1) ((((spl (aw x0 vx vd lo hi))+(m:Int))*64+64)-x0)),iV (mkV (dY (((spl (aw x0 vx vd lo hi))+(m:Int))*64) (((spl (aw y0 vy vd lo hi))+(n:Int))*64) (((spl (aw x0 vx vd lo hi))+(m:Int))*64+64) (((spl (aw y0 vy vd lo hi))+(n:Int))*64+64) x0 y0 x1 y1) ((((spl (aw y0 vy vd lo hi))+(n:Int))*64+64)-y0))]]) ?_ ?_
   ·refine am ?_ (am ?_ (am ?_ (bP)))<;>intro J hJ
    ·refine ak G11 ?_
     refine cd (jz _ _ _ (by omega) (by omega)) ?_
     refine ak G11 ?_
     refine cd (mQ _ _ _ _ _ _ _ _ _ (by omega) (by omega) (by omega) (by omega) (by omega) (by omega) (by omega) (by omega)) ?_
     refine ak G11 ?_
     refine aC (hJ _ _ ⟨_,_,_,⟨rfl,rfl⟩,bS hbel [0,1,2,3,4] fk⟩)
    ·refine ak G11 ?_
     refine cd (jz _ _ _ (by omega) (by omega)) ?_
     refine ak G11 ?_
     refine cd (mQ _ _ _ _ _ _ _ _ _ (by omega) (by omega) (by omega) (by omega) (by omega) (by omega) (by omega) (by omega)) ?_
     refine ak G11 ?_
     refine aC (hJ _ _ ⟨_,_,_,⟨rfl,rfl⟩,bS hbel [0,1,2,3,4] fk⟩)
    refine ak G11 ?_
    refine cd (jz _ _ _ (by omega) (by omega)) ?_
    refine ak G11 ?_
    refine cd (mQ _ _ _ _ _ _ _ _ _ (by omega) (by omega) (by omega) (by omega) (by omega) (by omega) (by omega) (by omega)) ?_
    refine ak G11 ?_
    refine aC (hJ _ _ ⟨_,_,_,⟨rfl,rfl⟩,bS hbel [0,1,2,3,4] fk⟩)
   rintro F2 H2 ⟨rfl,rfl⟩
   refine fnT ?_
   refine rgs G11 (fun h3 h3d G12=>?_) (fun h3 h3d G15=>?_)
   ·have hmn:=h3d
    refine ae G12 ?_
    refine cv (ji _ 0 0 _ _ _ _ _ _ _ _ _) ?_
    refine rcs G12 (fun h4 h4d _=>?_) (fun h4 h4d G14=>?_)
    ·have hov:cl x0 y0 x1 y1 vx vy vd lo hi ((spl (aw x0 vx vd lo hi))+(m:Int)) ((spl (aw y0 vy vd lo hi))+(n:Int))=true:=by have q:=h4d;unfold cl;rw[hmn];exact q
     have G13:=jn h4 (jn h4d (jn @du G12))
     refine ae G13 ?_
     refine hn10 _ _ ?_
     refine hn9 _ _ ?_
     refine fnT ?_
     refine ae G13 ?_
     refine hJ1 _ _ ⟨k1-1,by omega,_,_,_,⟨m+1,by omega,rfl,rfl⟩,bS hbel [0,1,6] (az (jn @rowR.eq_2 (jn @hov (jn @if_true.{1} (jn @if_false.{1} (jn @Bool.false_eq_true (jn @List.append_nil.{0} (jn @List.append_assoc.{0} (jn @Int.natCast_add (jn @Int.natCast_one @Int.add_assoc))))))))))⟩
    have hov:cl x0 y0 x1 y1 vx vy vd lo hi ((spl (aw x0 vx vd lo hi))+(m:Int)) ((spl (aw y0 vy vd lo hi))+(n:Int))=false:=by have q:=h4d;unfold cl;rw[hmn];exact q
    refine ae G14 ?_
    refine hn10 _ _ ?_
    refine hn9 _ _ ?_
    refine fnT ?_
    refine ae G14 ?_
    refine hJ1 _ _ ⟨k1-1,by omega,_,_,_,⟨m+1,by omega,rfl,rfl⟩,bS hbel [0,1,2] (az (jn @rowR.eq_2 (jn @hov (jn @if_true.{1} (jn @if_false.{1} (jn @Bool.false_eq_true (jn @List.append_nil.{0} (jn @List.append_assoc.{0} (jn @Int.natCast_add (jn @Int.natCast_one @Int.add_assoc))))))))))⟩
   have hov:cl x0 y0 x1 y1 vx vy vd lo hi ((spl (aw x0 vx vd lo hi))+(m:Int)) ((spl (aw y0 vy vd lo hi))+(n:Int))=false:=by unfold cl;rw[h3d];rfl
   refine ae G15 ?_
   refine hn10 _ _ ?_
   refine hn9 _ _ ?_
   refine fnT ?_
   refine ae G15 ?_
   refine hJ1 _ _ ⟨k1-1,by omega,_,_,_,⟨m+1,by omega,rfl,rfl⟩,bS hbel [0,1,2] (az (jn @rowR.eq_2 (jn @hov (jn @if_true.{1} (jn @if_false.{1} (jn @Bool.false_eq_true (jn @List.append_nil.{0} (jn @List.append_assoc.{0} (jn @Int.natCast_add (jn @Int.natCast_one @Int.add_assoc))))))))))⟩
  obtain rfl:m=(co (aw x0 vx vd lo hi) (bJ x1 vx vd lo hi)):=by omega
  refine ae G16 ?_
  refine he8 _ _ _ ?_
  refine he7 _ _ _ ?_
  refine hb6 _ _ ?_
  refine hn4 _ _ ?_
  refine hn3 _ _ ?_
  refine fnT ?_
  refine ae G16 ?_
  refine hJ0 _ _ ⟨k0-1,by omega,_,_,_,⟨n+1,by omega,rfl,rfl⟩,bS hbel [0,1,2] (az (jn @gridR_s (jn @Int.natCast_add (jn @Int.natCast_one @Int.add_assoc))))⟩
 obtain rfl:n=co (aw y0 vy vd lo hi) (bJ y1 vy vd lo hi):=by omega
 refine ae G17 ?_
 refine he2 _ _ _ ?_
 refine he1 _ _ _ ?_
 refine ae G17 ?_
 refine hQ _ _ (aW (.inl rfl) hbel (x1:=.sl (some (H.length+2,0)) ((cI (cl x0 y0 x1 y1 vx vy vd lo hi) (spl (aw x0 vx vd lo hi)) (co (aw x0 vx vd lo hi) (bJ x1 vx vd lo hi)) (spl (aw y0 vy vd lo hi)) (co (aw y0 vy vd lo hi) (bJ y1 vy vd lo hi))).length) (aT (cI (cl x0 y0 x1 y1 vx vy vd lo hi) (spl (aw x0 vx vd lo hi)) (co (aw x0 vx vd lo hi) (bJ x1 vx vd lo hi)) (spl (aw y0 vy vd lo hi)) (co (aw y0 vy vd lo hi) (bJ y1 vy vd lo hi))).length)) (l2:=[.cells (aL (cI (cl x0 y0 x1 y1 vx vy vd lo hi) (spl (aw x0 vx vd lo hi)) (co (aw x0 vx vd lo hi) (bJ x1 vx vd lo hi)) (spl (aw y0 vy vd lo hi)) (co (aw y0 vy vd lo hi) (bJ y1 vy vd lo hi))).length) 2 (prs (cI (cl x0 y0 x1 y1 vx vy vd lo hi) (spl (aw x0 vx vd lo hi)) (co (aw x0 vx vd lo hi) (bJ x1 vx vd lo hi)) (spl (aw y0 vy vd lo hi)) (co (aw y0 vy vd lo hi) (bJ y1 vy vd lo hi))))]) (.sl (some (H.length,0)) ((cI (cl x0 y0 x1 y1 vx vy vd lo hi) (spl (aw x0 vx vd lo hi)) (co (aw x0 vx vd lo hi) (bJ x1 vx vd lo hi)) (spl (aw y0 vy vd lo hi)) (co (aw y0 vy vd lo hi) (bJ y1 vy vd lo hi))).length) (aT (cI (cl x0 y0 x1 y1 vx vy vd lo hi) (spl (aw x0 vx vd lo hi)) (co (aw x0 vx vd lo hi) (bJ x1 vx vd lo hi)) (spl (aw y0 vy vd lo hi)) (co (aw y0 vy vd lo hi) (bJ y1 vy vd lo hi))).length)) (aZ results159) [] rfl [2] (by decide) ⟨rfl,rfl⟩ ?_)
 exact aD
theorem kE (H:aa)(px py vx vy vd lo hi:Int):zC 147 [.agg [iV px,iV py],.agg [iV vx,iV vy,iV vd],iV lo,iV hi] H (.tup [.sl (some (H.length,0)) ((trL px py vx vy vd lo hi).length) (aT (trL px py vx vy vd lo hi).length),iV (trE px py vx vy vd lo hi)]) (H++[.cells (aL (trL px py vx vy vd lo hi).length) 2 (prs (trL px py vx vy vd lo hi))]):=by
 refine AcT true func147 ?_;intro hbel Q hQ
 refine aI ?_
 refine cv (nE _ _ _) ?_
 refine aI ?_
 refine aY (fun h1=>?_) (fun h1=>?_)
 ·have h1d:=bsT h1
  have hp1:=h1d
  have hp2:=fO.1 hp1
  have G18:=jn h1 @h1d
  refine ae G18 ?_
  refine cv (pvv_c _ _ _ _) ?_
  refine rcs G18 (fun h2 h2d G19=>?_) (fun h2 h2d G20=>?_)
  ·have hz:=trE_1 (px:=px) (py:=py) (vx:=vx) (vy:=vy) (vd:=vd) (lo:=lo) (hi:=hi) (fun hh=>by rw[h2d] at hh;exact absurd hh.2 (by decide))
   have hfinE:=hz.1
   have hfinL:=hz.2
   refine ae G19 ?_
   refine hQ _ _ (aW (.inl rfl) hbel (x1:=.tup [.sl none 0 (some 0),iV 1]) (l2:=[.cells false 2 []]) (.tup [.sl (some (H.length,0)) 0 (some 0),iV 1]) (aZ results147) [.cells false 2 []] rfl [2] (by decide) ⟨by (rw[hfinL,hfinE];rfl),by (rw[hfinL];rfl)⟩ ?_)
   exact aD
  have hv:=h2d
  refine rgs G20 (fun h3 h3d G21=>?_) (fun h3 h3d G26=>?_)
  ·refine rgs G21 (fun h4 h4d G22=>?_) (fun h4 h4d G25=>?_)
   ·refine rcs G22 (fun h5 h5d G23=>?_) (fun h5 h5d G24=>?_)
    ·have hz:=trE_2 (lo:=lo) (hi:=hi) hp1 hv (by omega)
     have hfinE:=hz.1
     have hfinL:=hz.2
     refine ae G23 ?_
     refine hQ _ _ (aW (.inl rfl) hbel (x1:=.tup [.sl none 0 (some 0),iV 2]) (l2:=[.cells false 2 []]) (.tup [.sl (some (H.length,0)) 0 (some 0),iV 2]) (aZ results147) [.cells false 2 []] rfl [2] (by decide) ⟨by (rw[hfinL,hfinE];rfl),by (rw[hfinL];rfl)⟩ ?_)
     exact aD
    have hlh:0<=lo/\lo<=hi/\hi<=2048:=by omega
    have hz:=trE_0 hp1 hv hlh
    have hfinE:=hz.1
    have hfinL:=hz.2
    refine ae G24 ?_
    refine cvr G24 (qO _ _ _ _ _ _ _ _ _ _ (by omega) (by omega) (by assumption) (by omega)) ?_
    refine hQ _ _ (aW (.inl rfl) hbel (x1:=.tup [.sl (some (H.length+2,0)) ((dK px py px py vx vy vd lo hi).length) (aT (dK px py px py vx vy vd lo hi).length),iV 0]) (l2:=[.cells (aL (dK px py px py vx vy vd lo hi).length) 2 (prs (dK px py px py vx vy vd lo hi))]) (.tup [.sl (some (H.length,0)) ((dK px py px py vx vy vd lo hi).length) (aT (dK px py px py vx vy vd lo hi).length),iV 0]) (aZ results147) [] rfl [2] (by decide) ⟨by rw[hfinL,hfinE],by rw[hfinL]⟩ ?_)
    exact aD
   have hz:=trE_2 (lo:=lo) (hi:=hi) hp1 hv (by omega)
   have hfinE:=hz.1
   have hfinL:=hz.2
   refine ae G25 ?_
   refine hQ _ _ (aW (.inl rfl) hbel (x1:=.tup [.sl none 0 (some 0),iV 2]) (l2:=[.cells false 2 []]) (.tup [.sl (some (H.length,0)) 0 (some 0),iV 2]) (aZ results147) [.cells false 2 []] rfl [2] (by decide) ⟨by (rw[hfinL,hfinE];rfl),by (rw[hfinL];rfl)⟩ ?_)
   exact aD
  have hz:=trE_2 (lo:=lo) (hi:=hi) hp1 hv (by omega)
  have hfinE:=hz.1
  have hfinL:=hz.2
  refine ae G26 ?_
  refine hQ _ _ (aW (.inl rfl) hbel (x1:=.tup [.sl none 0 (some 0),iV 2]) (l2:=[.cells false 2 []]) (.tup [.sl (some (H.length,0)) 0 (some 0),iV 2]) (aZ results147) [.cells false 2 []] rfl [2] (by decide) ⟨by (rw[hfinL,hfinE];rfl),by (rw[hfinL];rfl)⟩ ?_)
  exact aD
 have h1d:=bsT h1
 have hz:=trE_1 (px:=px) (py:=py) (vx:=vx) (vy:=vy) (vd:=vd) (lo:=lo) (hi:=hi) (fun hh=>by rw[h1d] at hh;exact absurd hh.1 (by decide))
 have hfinE:=hz.1
 have hfinL:=hz.2
 have G27:=jn h1 @h1d
 refine ae G27 ?_
 refine hQ _ _ (aW (.inl rfl) hbel (x1:=.tup [.sl none 0 (some 0),iV 1]) (l2:=[.cells false 2 []]) (.tup [.sl (some (H.length,0)) 0 (some 0),iV 1]) (aZ results147) [.cells false 2 []] rfl [2] (by decide) ⟨by (rw[hfinL,hfinE];rfl),by (rw[hfinL];rfl)⟩ ?_)
 exact aD
theorem swept_c (H:aa)(x0 y0 x1 y1 vx vy vd lo hi:Int):zC 114 [.agg [iV x0,iV y0,iV x1,iV y1],.agg [iV vx,iV vy,iV vd],iV lo,iV hi] H (.tup [.sl (some (H.length,0)) ((cP x0 y0 x1 y1 vx vy vd lo hi).length) (aT (cP x0 y0 x1 y1 vx vy vd lo hi).length),iV (gc x0 y0 x1 y1 vx vy vd lo hi)]) (H++[.cells (aL (cP x0 y0 x1 y1 vx vy vd lo hi).length) 2 (prs (cP x0 y0 x1 y1 vx vy vd lo hi))]):=by
 refine AcT true func114 ?_;intro hbel Q hQ
 refine aI ?_
 refine cv (pvrc_c _ _ _ _ _) ?_
 refine aI ?_
 refine aY (fun h1=>?_) (fun h1=>?_)
 ·have h1d:=bsT h1
  have hp1:=h1d
  have hp2:=ku.1 hp1
  have G28:=jn h1 @h1d
  refine ae G28 ?_
  refine cv (pvv_c _ _ _ _) ?_
  refine rcs G28 (fun h2 h2d G29=>?_) (fun h2 h2d G30=>?_)
  ·have hz:=sptE_1 (x0:=x0) (y0:=y0) (x1:=x1) (y1:=y1) (vx:=vx) (vy:=vy) (vd:=vd) (lo:=lo) (hi:=hi) (fun hh=>by rw[h2d] at hh;exact absurd hh.2 (by decide))
   have hfinE:=hz.1
   have hfinL:=hz.2
   refine ae G29 ?_
   refine hQ _ _ (aW (.inl rfl) hbel (x1:=.tup [.sl none 0 (some 0),iV 1]) (l2:=[.cells false 2 []]) (.tup [.sl (some (H.length,0)) 0 (some 0),iV 1]) (aZ results114) [.cells false 2 []] rfl [2] (by decide) ⟨by (rw[hfinL,hfinE];rfl),by (rw[hfinL];rfl)⟩ ?_)
   exact aD
  have hv:=h2d
  refine rgs G30 (fun h3 h3d G31=>?_) (fun h3 h3d G40=>?_)
  ·refine rgs G31 (fun h4 h4d G32=>?_) (fun h4 h4d G39=>?_)
   ·refine rcs G32 (fun h5 h5d G33=>?_) (fun h5 h5d G34=>?_)
    ·have hz:=sptE_2 (lo:=lo) (hi:=hi) hp1 hv (by omega)
     have hfinE:=hz.1
     have hfinL:=hz.2
     refine ae G33 ?_
     refine hQ _ _ (aW (.inl rfl) hbel (x1:=.tup [.sl none 0 (some 0),iV 2]) (l2:=[.cells false 2 []]) (.tup [.sl (some (H.length,0)) 0 (some 0),iV 2]) (aZ results114) [.cells false 2 []] rfl [2] (by decide) ⟨by (rw[hfinL,hfinE];rfl),by (rw[hfinL];rfl)⟩ ?_)
     exact aD
    have hlh:0<=lo/\lo<=hi/\hi<=2048:=by omega
    refine rgs G34 (fun h6 h6d G35=>?_) (fun h6 h6d G38=>?_)
    ·refine rcs G35 (fun h7 h7d G36=>?_) (fun h7 h7d G37=>?_)
     ·have hz:=sptE_6 hp1 hv hlh (.inr h7d)
      have hfinE:=hz.1
      have hfinL:=hz.2
      refine ae G36 ?_
      refine hQ _ _ (aW (.inl rfl) hbel (x1:=.tup [.sl none 0 (some 0),iV 6]) (l2:=[.cells false 2 []]) (.tup [.sl (some (H.length,0)) 0 (some 0),iV 6]) (aZ results114) [.cells false 2 []] rfl [2] (by decide) ⟨by (rw[hfinL,hfinE];rfl),by (rw[hfinL];rfl)⟩ ?_)
      exact aD
     have hz:=sptE_0 hp1 hv hlh (by omega)
     have hfinE:=hz.1
     have hfinL:=hz.2
     refine ae G37 ?_
     refine cvr G37 (qO _ _ _ _ _ _ _ _ _ _ (by omega) (by omega) (by assumption) (by omega)) ?_
     refine hQ _ _ (aW (.inl rfl) hbel (x1:=.tup [.sl (some (H.length+2,0)) ((dK x0 y0 x1 y1 vx vy vd lo hi).length) (aT (dK x0 y0 x1 y1 vx vy vd lo hi).length),iV 0]) (l2:=[.cells (aL (dK x0 y0 x1 y1 vx vy vd lo hi).length) 2 (prs (dK x0 y0 x1 y1 vx vy vd lo hi))]) (.tup [.sl (some (H.length,0)) ((dK x0 y0 x1 y1 vx vy vd lo hi).length) (aT (dK x0 y0 x1 y1 vx vy vd lo hi).length),iV 0]) (aZ results114) [] rfl [2] (by decide) ⟨by rw[hfinL,hfinE],by rw[hfinL]⟩ ?_)
     exact aD
    have hz:=sptE_6 hp1 hv hlh (.inl h6d)
    have hfinE:=hz.1
    have hfinL:=hz.2
    refine ae G38 ?_
    refine hQ _ _ (aW (.inl rfl) hbel (x1:=.tup [.sl none 0 (some 0),iV 6]) (l2:=[.cells false 2 []]) (.tup [.sl (some (H.length,0)) 0 (some 0),iV 6]) (aZ results114) [.cells false 2 []] rfl [2] (by decide) ⟨by (rw[hfinL,hfinE];rfl),by (rw[hfinL];rfl)⟩ ?_)
    exact aD
   have hz:=sptE_2 (lo:=lo) (hi:=hi) hp1 hv (by omega)
   have hfinE:=hz.1
   have hfinL:=hz.2
   refine ae G39 ?_
   refine hQ _ _ (aW (.inl rfl) hbel (x1:=.tup [.sl none 0 (some 0),iV 2]) (l2:=[.cells false 2 []]) (.tup [.sl (some (H.length,0)) 0 (some 0),iV 2]) (aZ results114) [.cells false 2 []] rfl [2] (by decide) ⟨by (rw[hfinL,hfinE];rfl),by (rw[hfinL];rfl)⟩ ?_)
   exact aD
  have hz:=sptE_2 (lo:=lo) (hi:=hi) hp1 hv (by omega)
  have hfinE:=hz.1
  have hfinL:=hz.2
  refine ae G40 ?_
  refine hQ _ _ (aW (.inl rfl) hbel (x1:=.tup [.sl none 0 (some 0),iV 2]) (l2:=[.cells false 2 []]) (.tup [.sl (some (H.length,0)) 0 (some 0),iV 2]) (aZ results114) [.cells false 2 []] rfl [2] (by decide) ⟨by (rw[hfinL,hfinE];rfl),by (rw[hfinL];rfl)⟩ ?_)
  exact aD
 have h1d:=bsT h1
 have hz:=sptE_1 (x0:=x0) (y0:=y0) (x1:=x1) (y1:=y1) (vx:=vx) (vy:=vy) (vd:=vd) (lo:=lo) (hi:=hi) (fun hh=>by rw[h1d] at hh;exact absurd hh.1 (by decide))
 have hfinE:=hz.1
 have hfinL:=hz.2
 have G41:=jn h1 @h1d
 refine ae G41 ?_
 refine hQ _ _ (aW (.inl rfl) hbel (x1:=.tup [.sl none 0 (some 0),iV 1]) (l2:=[.cells false 2 []]) (.tup [.sl (some (H.length,0)) 0 (some 0),iV 1]) (aZ results114) [.cells false 2 []] rfl [2] (by decide) ⟨by (rw[hfinL,hfinE];rfl),by (rw[hfinL];rfl)⟩ ?_)
 exact aD
def dirE (b:T6) (m h:Int):T9:=(b.1,b.2.1,b.2.2.1,b.2.2.2.1,b.2.2.2.2.1,b.2.2.2.2.2,(aF h m).1,(aF h m).2.1,(aF h m).2.2)
def mkB (b:T6):List Int:=aX b.2.2.2.2.1 b.2.2.2.2.2.toNat
def dirB (b:T6) (m:Int):Nat->List T9
 |0=>[]
 |j+1=>dirB b m j++[dirE b m (gi (mkB b) j)]
def dirS (l:List T6) (m:Int):Nat->List T9
 |0=>[]
 |i+1=>dirS l m i++dirB (g6 l i) m (mkB (g6 l i)).length
def aq (l:List T6) (m:Int):List T9:=dirS l m l.length
theorem kF (b:T6)(m:Int):∀j:Nat,(dirB b m j).length=j
 |0=>rfl
 |j+1=>by simp only[dirB,List.length_append,kF b m j];rfl
theorem oA {l:List T6}(h:bM l=true){i:Nat}(hi:i<l.length):1<=(mkB (g6 l i)).length/\(mkB (g6 l i)).length<=256/\(((mkB (g6 l i)).length:Nat):Int)=g66 l i:=by
 have:=g66_bd h hi
 unfold mkB
 rw[eV]
 have e:(g6 l i).2.2.2.2.2=g66 l i:=rfl
 rw[e];omega
theorem mS {l:List T6}(h:bM l=true)(m:Int):∀i:Nat,i<=l.length->i<=(dirS l m i).length/\(dirS l m i).length<=256*i
 |0,_=>by simp[dirS]
 | i+1,hi=>by
  have ih:=mS h m i (by omega)
  have k:=oA h (show i<l.length by omega)
  simp only[dirS,List.length_append,kF];omega
theorem kG {l:List T6}(h:bM l=true)(m:Int):l.length<=(aq l m).length/\(aq l m).length<=4096:=by
 have a:=mS h m l.length (Nat.le_refl _)
 have b:=jj h
 unfold aq;omega
theorem qP {b:T6}{m:Int}{e:T9}:∀{j:Nat},j<=(mkB b).length->(e∈dirB b m j↔∃q:Nat,q<j/\e=dirE b m (gi (mkB b) q))
 |0,_=>by simp[dirB]
 | j+1,hj=>by
  rw[dirB,List.mem_append,qP (by omega),List.mem_singleton]
  constructor
  ·rintro(⟨q,hq,rfl⟩|rfl)
   ·exact⟨q,by omega,rfl⟩
   exact⟨j,by omega,rfl⟩
  rintro⟨q,hq,rfl⟩
  rcases Nat.lt_or_ge q j with h|h
  ·exact .inl ⟨q,h,rfl⟩
  obtain rfl:q=j:=by omega
  exact .inr rfl
theorem kH {l:List T6}{m:Int}{e:T9}:∀{i:Nat},i<=l.length->(e∈dirS l m i↔∃j q:Nat,j<i/\q<(mkB (g6 l j)).length/\e=dirE (g6 l j) m (gi (mkB (g6 l j)) q))
 |0,_=>by simp[dirS]
 | i+1,hi=>by
  rw[dirS,List.mem_append,kH (by omega),qP (Nat.le_refl _)]
  constructor
  ·rintro(⟨j,q,h1,h2,h3⟩|⟨q,h2,h3⟩)
   ·exact⟨j,q,by omega,h2,h3⟩
   exact⟨i,q,by omega,h2,h3⟩
  rintro⟨j,q,h1,h2,h3⟩
  rcases Nat.lt_or_ge j i with h|h
  ·exact .inl ⟨j,q,h,h2,h3⟩
  obtain rfl:j=i:=by omega
  exact .inr ⟨q,h2,h3⟩
def pairB (e:T9):Bool:=bxB e.1 e.2.1 e.2.2.1 e.2.2.2.1 e.2.2.2.2.1 e.2.2.2.2.2.1&&da e.2.2.2.2.2.2.1 e.2.2.2.2.2.2.2.1 e.2.2.2.2.2.2.2.2
theorem oB {l:List T6}(h:bM l=true){m:Int}{e:T9}(he:e∈aq l m):pairB e=true:=by
 obtain⟨j,q,hj,hq,rfl⟩:=(kH (Nat.le_refl _)).1 he
 unfold pairB dirE
 rw[Bool.and_eq_true]
 exact⟨(bF.1 h).2 (g6 l j) (cD hj),gS _ _⟩
def psB (e:T9) (s0 t0 s1 t1 far:Int):Bool:=dg e.1 e.2.1 e.2.2.2.2.2.2.1 e.2.2.2.2.2.2.2.1 e.2.2.2.2.2.2.2.2 far s0 t0 s1 t1&&(dg e.2.2.1 e.2.1 e.2.2.2.2.2.2.1 e.2.2.2.2.2.2.2.1 e.2.2.2.2.2.2.2.2 far s0 t0 s1 t1&&(dg e.1 e.2.2.2.1 e.2.2.2.2.2.2.1 e.2.2.2.2.2.2.2.1 e.2.2.2.2.2.2.2.2 far s0 t0 s1 t1&&dg e.2.2.1 e.2.2.2.1 e.2.2.2.2.2.2.1 e.2.2.2.2.2.2.2.1 e.2.2.2.2.2.2.2.2 far s0 t0 s1 t1))
def psC (e:T9) (far:Int) (c:Int×Int):Bool:=psB e (c.1*64) (c.2*64) (c.1*64+64) (c.2*64+64) far
def prvB (l:List T6) (m far:Int) (c:Int×Int):Bool:=(aq l m).all fun e=>psC e far c
def ar (r g:Int):Int:=if r = -1 then 1024-g else r-g
def aQ (l:List T6) (m far:Int):List (Int×Int):=trL (g91 (aq l m) 0) (g92 (aq l m) 0) (g97 (aq l m) 0) (g98 (aq l m) 0) (g99 (aq l m) 0) 0 far
def bN (W Hh:Int) (l:List T6) (m far:Int) (c:Int×Int):Bool:=btw c.1 0 (W-1)&&(btw c.2 0 (Hh-1)&&prvB l m far c)
def eC (W Hh:Int) (l:List T6) (m r g:Int):List (Int×Int):=if ar r g<=0 then [] else (aQ l m (ar r g)).filter (bN W Hh l m (ar r g))
theorem qQ {α:Type}{p:α->Bool}{l:List α}{j:Nat}(h:j<l.length):(l.take (j+1)).filter p=(l.take j).filter p++(if p l[j]=true then [l[j]] else []):=by
 rw[List.take_succ_eq_append_getElem h,List.filter_append]
 congr 1
 cases hp:p l[j]<;>simp[hp]
theorem flt_len {α:Type}{p:α->Bool}{l:List α}{j:Nat}:((l.take j).filter p).length<=j:=by
 have:=List.length_filter_le p (l.take j)
 rw[List.length_take] at this;omega
theorem qR (W Hh:Int)(l:List T6)(m r g:Int):(eC W Hh l m r g).length<=7225:=by
 unfold eC;split
 ·simp
 exact Nat.le_trans (List.length_filter_le _ _) (jU _ _ _ _ _ _ _)
theorem trL_mem {px py vx vy vd lo hi:Int}{c:Int×Int}(h:c∈trL px py vx vy vd lo hi):(-32768<=c.1/\c.1<=32768) /\ -32768<=c.2/\c.2<=32768:=by
 unfold trL mkL at h
 split at h
 ·rename_i he
  obtain⟨h1,h2,hr⟩:=trE_z he
  have hq:=fO.1 h1
  exact swp_bd ((jk (by omega) (by omega) h2 hr).1 h)
 cases h
def sqO (x y:Int):Bool:=bK x 16384&&bK y 16384
theorem with_c (H:aa)(x0 y0 x1 y1 f c:Int):zC 145 [.agg [iV x0,iV y0,iV x1,iV y1],.agg [iV f,iV c]] H (.agg [iV x0,iV y0,iV x1,iV y1,iV f,iV c]) H:=by
 refine AcT true func145 ?_;intro hbel Q hQ
 refine aI ?_
 exact eP hQ hbel (.agg [iV x0,iV y0,iV x1,iV y1,iV f,iV c]) results145 ⟨rfl,rfl⟩
theorem bhull_c (H:aa)(x0 y0 x1 y1 f c u0 v0 u1 v1 fb cb:Int)(ha:bxB x0 y0 x1 y1 f c=true)(hb:bxB u0 v0 u1 v1 fb cb=true):zC 102 [.agg [iV x0,iV y0,iV x1,iV y1,iV f,iV c],.agg [iV u0,iV v0,iV u1,iV v1,iV fb,iV cb]] H (.tup [.agg [iV (mnI x0 u0),iV (mnI y0 v0),iV (mxI x1 u1),iV (mxI y1 v1),iV ((cQ f c fb cb).1),iV ((cQ f c fb cb).2)],iV 0]) H:=by
 have ka:=(bB.1 ha).2.2
 have kb:=(bB.1 hb).2.2
 (refine bI func102 _ rfl (Nat.le_of_ble_eq_true (by kernel_rfl)) rfl ?_;intro hbel Q hQ hQ' c hc;unfold Tryz.f102 at hc;simp only[Option.some.injEq] at hc;subst hc;clear hQ')
 refine jM false try_mixed (by kernel_rfl) (fun F Hx=>look F 2=.ptr (some (H.length,0))/\look F 3=.ptr (some (H.length+1,0))/\look F 4=.ptr (some (H.length+2,0))/\look F 5=iV 0/\Hx=H++[.cells true 0 [iV x0,iV y0,iV x1,iV y1,iV f,iV c],.cells true 0 [iV u0,iV v0,iV u1,iV v1,iV fb,iV cb],.cells true 0 [iV 0,iV 0,iV 0,iV 0,iV 0,iV 0]]) ?_ ?_
 ·have G1:=jn @ha @hb
  refine ae G1 ?_
  refine aC ?_
  exact absT
 rintro F Hx ⟨f1,f2,f3,f4,rfl⟩
 refine jM false try_mixed (by kernel_rfl) (fun F Hx=>look F 2=.ptr (some (H.length,0))/\look F 3=.ptr (some (H.length+1,0))/\look F 4=.ptr (some (H.length+2,0))/\look F 5=iV 0/\Hx=H++[.cells true 0 [iV x0,iV y0,iV x1,iV y1,iV f,iV c],.cells true 0 [iV u0,iV v0,iV u1,iV v1,iV fb,iV cb],.cells true 0 [iV 0,iV 0,iV 0,iV 0,iV 0,iV 0]]) ?_ ?_
 ·have G2:=jn @f1 (jn @f2 (jn @f3 (jn @f4 (jn @ha @hb))))
  refine ae G2 ?_
  refine cvr G2 (ft _ _ _ _ _ f c) ?_
  refine cvr G2 (ft _ _ _ _ _ _ _) ?_
  refine aC ?_
  exact absTf (jn @f1 (jn @f2 (jn @f3 @f4)))
 rintro F Hx ⟨f5,f6,f7,f8,rfl⟩
 refine bT false try_mixed [[0,1,2,3,4,5,6,7,8,9,10],[0,1,2,3,8,4,5,6,7,9,10],[0,1,2,8,3,4,5,6,7,9,10],[0,2,8,1,3,4,5,6,7,9,10]] (by kernel_rfl) (fun F2 H2=>F2=[(2,.ptr (some (H.length,0))),(3,.ptr (some (H.length+1,0))),(4,.ptr (some (H.length+2,0))),(5,iV 0),(6,.ptr (some (H.length+3,0)))]/\H2=H++[.cells true 0 [iV x0,iV y0,iV x1,iV y1,iV f,iV c],.cells true 0 [iV u0,iV v0,iV u1,iV v1,iV fb,iV cb],.cells true 0 [iV 0,iV 0,iV 0,iV 0,iV 0,iV 0],.cells true 0 [iV ((cQ f c fb cb).1),iV ((cQ f c fb cb).2)]]) ?_ ?_
 ·refine am ?_ (am ?_ (am ?_ (am ?_ (bP))))<;>intro J hJ
  ·have G3:=jn @f1 (jn @f2 (jn @f3 (jn @f4 (jn @f5 (jn @f6 (jn @f7 (jn @f8 (jn @ha @hb))))))))
   refine ak G3 ?_
   refine cd (fV _ _ _ _ _ f c) ?_
   refine ak G3 ?_
   refine cd (fV _ _ _ _ _ _ _) ?_
   refine ak G3 ?_
   refine cd (lT _ f c _ _ (by assumption) (by assumption)) ?_
   refine ak G3 ?_
   refine aC (hJ _ _ ⟨_,_,_,⟨rfl,rfl⟩,bS hbel [0,1,2,3] (aN (jn @f1 (jn @f2 (jn @f3 (jn @f4 (jn @f5 (jn @f6 (jn @f7 @f8))))))))⟩)
  ·have G4:=jn @f1 (jn @f2 (jn @f3 (jn @f4 (jn @f5 (jn @f6 (jn @f7 (jn @f8 (jn @ha @hb))))))))
   refine ak G4 ?_
   refine cd (fV _ _ _ _ _ f c) ?_
   refine ak G4 ?_
   refine cd (fV _ _ _ _ _ _ _) ?_
   refine ak G4 ?_
   refine cd (lT _ f c _ _ (by assumption) (by assumption)) ?_
   refine ak G4 ?_
   refine aC (hJ _ _ ⟨_,_,_,⟨rfl,rfl⟩,bS hbel [0,1,2,3] (aN (jn @f1 (jn @f2 (jn @f3 (jn @f4 (jn @f5 (jn @f6 (jn @f7 @f8))))))))⟩)
  ·have G5:=jn @f1 (jn @f2 (jn @f3 (jn @f4 (jn @f5 (jn @f6 (jn @f7 (jn @f8 (jn @ha @hb))))))))
   refine ak G5 ?_
   refine cd (fV _ _ _ _ _ f c) ?_
   refine ak G5 ?_
   refine cd (fV _ _ _ _ _ _ _) ?_
   refine ak G5 ?_
   refine cd (lT _ f c _ _ (by assumption) (by assumption)) ?_
   refine ak G5 ?_
   refine aC (hJ _ _ ⟨_,_,_,⟨rfl,rfl⟩,bS hbel [0,1,2,3] (aN (jn @f1 (jn @f2 (jn @f3 (jn @f4 (jn @f5 (jn @f6 (jn @f7 @f8))))))))⟩)
  have G6:=jn @f1 (jn @f2 (jn @f3 (jn @f4 (jn @f5 (jn @f6 (jn @f7 (jn @f8 (jn @ha @hb))))))))
  refine ak G6 ?_
  refine cd (fV _ _ _ _ _ f c) ?_
  refine ak G6 ?_
  refine cd (fV _ _ _ _ _ _ _) ?_
  refine ak G6 ?_
  refine cd (lT _ f c _ _ (by assumption) (by assumption)) ?_
  refine ak G6 ?_
  refine aC (hJ _ _ ⟨_,_,_,⟨rfl,rfl⟩,bS hbel [0,1,2,3] (aN (jn @f1 (jn @f2 (jn @f3 (jn @f4 (jn @f5 (jn @f6 (jn @f7 @f8))))))))⟩)
 rintro F2 H2 ⟨rfl,rfl⟩
 refine fnF ?_
 have G7:=jn @ha @hb
 refine ae G7 ?_
 refine cvr G7 (with_c _ _ _ _ _ _ _) ?_
 exact eP hQ hbel (.tup [.agg [iV (if u0<x0 then u0 else x0),iV (if v0<y0 then v0 else y0),iV (if x1<u1 then u1 else x1),iV (if y1<v1 then v1 else y1),iV ((cQ f c fb cb).1),iV ((cQ f c fb cb).2)],iV 0]) results102 ⟨rfl,rfl⟩
theorem arep_z {k:IntKind}{n:Nat}:(List.range n).map (fun j=>([.int k 0]:List AV).getD (j%1) .any)=ints k (List.replicate n 0):=by
 rw[<-kj]
 refine List.ext_getElem (by simp) fun i h1 h2=>?_
 simp[Nat.mod_one]
def ge (f:Int) (n i:Nat):List Int:=aX f i++List.replicate (n-i) 0
theorem qS {f:Int}{n i:Nat}(h:i<=n):(ge f n i).length=n:=by unfold ge;rw[List.length_append,eV,List.length_replicate];omega
theorem lisS_set {f:Int}{n i:Nat}(h:i<n):(ge f n i).set i ((f+(i:Int))%256)=ge f n (i+1):=by
 unfold ge
 obtain⟨k,hk⟩:∃k,n-i=k+1:=⟨n-i-1,by omega⟩
 rw[hk,List.replicate_succ,List.set_append_right _ _ (by rw[eV];exact Nat.le_refl _),eV,Nat.sub_self,List.set_cons_zero,mrkL_succ,List.append_assoc,show n-(i+1)=k by omega]
 rfl
theorem lisS_0 (f:Int)(n:Nat):ge f n 0=List.replicate n 0:=rfl
theorem lisS_n (f:Int)(n:Nat):ge f n n=aX f n:=by unfold ge;rw[Nat.sub_self];simp
theorem harc_c (H:aa)(f n:Int)(hn:1<=n/\n<=100000):zC 170 [iV f,iV n] H (.agg [iV (arcF f n),iV (cn n)]) H:=by
 refine AcT true func170 ?_;intro hbel Q hQ
 refine aI ?_
 refine cO (fun h1=>?_) (fun h1=>?_)
 ·have h1d:=bsT h1
  have G1:=jn h1 @h1d
  exact eR G1 hQ hbel (.agg [iV 0,iV 256]) results170 ⟨by unfold arcF cn;(rw[if_pos (by omega),if_pos (by omega)];done),rfl⟩
 have h1d:=bsT h1
 have G2:=jn h1 @h1d
 refine ae G2 ?_
 refine cvr G2 (jO _ f) ?_
 exact eP hQ hbel (.agg [iV (((f%256).toNat:Nat):Int),iV n]) results170 ⟨by unfold arcF cn;(rw[if_neg (by omega),if_neg (by omega),show (((f%256).toNat:Nat):Int)=f%256 by omega]),rfl⟩
theorem hshift_c (H:aa)(f c n:Int)(ha:b9 f c=true):zC 136 [.agg [iV f,iV c],iV n] H (.tup [.agg [iV (shF f c n),iV (cn c)],iV 0]) H:=by
 have ka:=bo.1 ha
 refine AcT true func136 ?_;intro hbel Q hQ
 have G3:=@ha
 refine ae G3 ?_
 refine cvr G3 (jh _ f c) ?_
 refine cdr G3 (jO _ n) ?_
 refine cdr G3 (harc_c _ _ c (by omega)) ?_
 exact eP hQ hbel (.tup [.agg [iV (arcF (f+(((n%256).toNat:Nat):Int)) c),iV (cn c)],iV 0]) results136 ⟨rfl,rfl⟩
theorem hgrow_c (H:aa)(f c n:Int)(ha:b9 f c=true)(hn:0<=n/\n<=256):zC 138 [.agg [iV f,iV c],iV n] H (.tup [.agg [iV (grF f c n),iV (grC c n)],iV 0]) H:=by
 have ka:=bo.1 ha
 refine AcT true func138 ?_;intro hbel Q hQ
 have G4:=@ha
 refine ae G4 ?_
 refine cv (jh _ f c) ?_
 refine rgs G4 (fun h1 h1d G5=>?_) (fun h1 h1d _=>?_)
 ·refine rcs G5 (fun h2 h2d _=>?_) (fun h2 h2d G6=>?_)
  ·omega
  refine ae G6 ?_
  refine cvr G6 (harc_c _ _ _ (by omega)) ?_
  exact eP hQ hbel (.tup [.agg [iV (arcF (f-n) (c+(2*n))),iV (cn (c+(2*n)))],iV 0]) results138 ⟨rfl,rfl⟩
 omega
theorem oC (H:aa)(f c:Int)(ha:b9 f c=true):zC 99 [.agg [iV f,iV c]] H (.sl (some (H.length,0)) ((aX f c.toNat).length) none) (H++[.cells true 1 (ints .i64 (aX f c.toNat))]):=by
 have ka:=bo.1 ha
 have harep:=arep_z (k:=.i64) (n:=c.toNat)
 have hrt:(c.toNat:Int)=c:=by omega
 refine AcT true func99 ?_;intro hbel Q hQ
 have G7:=jn @ha (jn @harep @hrt)
 refine ae G7 ?_
 refine cv (jh _ f c) ?_
 have G8:=jn @kj (jn @List.length_replicate.{0} G7)
 refine ae G8 ?_
 refine glp (fun k F Hx=>∃i:Nat,i+k=c.toNat/\F=[(1,.ptr (some (H.length,0))),(3,.sl (some (H.length+1,0)) ((ge f c.toNat i).length) none),(12,iV (c.toNat:Int)),(13,iV (i:Int))]/\Hx=H++[.cells true 0 [iV f,iV c],.cells true 1 (ints .i64 (ge f c.toNat i))]) (c.toNat) ?_ ?_
 ·refine⟨_,_,_,⟨0,by omega,rfl,rfl⟩,bS hbel [0,1] (az (jn @lisS_0 (jn @List.length_replicate.{0} @hrt)))⟩
 rintro k0 F Hx ⟨i,hm0,rfl,rfl⟩ J0 hJ0
 have hln:=qS (f:=f) (n:=c.toNat) (i:=i) (by omega)
 have G9:=jn @bZ (jn @cU G8)
 refine rcs G9 (fun h1 h1d G10=>?_) (fun h1 h1d G12=>?_)
 ·have hln2:=qS (f:=f) (n:=c.toNat) (i:=i+1) (by omega)
  have hst:(ge f c.toNat i).set i ((((f+(i:Int))%256).toNat:Nat):Int)=ge f c.toNat (i+1):=by rw[show ((((f+(i:Int))%256).toNat:Nat):Int)=(f+(i:Int))%256 by omega];exact lisS_set (by omega)
  refine ae G10 ?_
  refine cv (jO _ _) ?_
  have G11:=jn @jv (jn @List.length_set.{0} G10)
  refine ae G11 ?_
  refine hJ0 _ _ ⟨k0-1,by omega,_,_,_,⟨i+1,by omega,rfl,rfl⟩,bS hbel [0,1] (az (jn @hst (jn @List.length_set.{0} (jn @hln (jn @hln2 @hrt)))))⟩
 obtain rfl:i=c.toNat:=by omega
 refine ae G12 ?_
 refine hQ _ _ (aW (.inl rfl) hbel (x1:=.sl (some (H.length+1,0)) ((ge f c.toNat c.toNat).length) none) (l2:=[.cells true 1 (ints .i64 (ge f c.toNat c.toNat))]) (.sl (some (H.length,0)) ((ge f c.toNat c.toNat).length) none) (aZ results99) [] rfl [1] (by decide) ⟨by rw[lisS_n],by rw[lisS_n]⟩ ?_)
 exact aD
theorem rect_c (H:aa)(x0 y0 x1 y1 f c:Int)(ha:bxB x0 y0 x1 y1 f c=true):zC 115 [.agg [iV x0,iV y0,iV x1,iV y1,iV f,iV c]] H (.agg [iV x0,iV y0,iV x1,iV y1]) H:=by
 refine AcT true func115 ?_;intro hbel Q hQ
 have G13:=@ha
 refine ae G13 ?_
 refine cvr G13 (ft _ _ _ _ _ f c) ?_
 exact eP hQ hbel (.agg [iV x0,iV y0,iV x1,iV y1]) results115 ⟨rfl,rfl⟩
theorem hvv_c (H:aa)(vx vy vd:Int):zC 209 [.agg [iV vx,iV vy,iV vd]] H (.bool (da vx vy vd)) H:=by
 refine AcT true func209 ?_;intro hbel Q hQ
 refine aI ?_
 refine aY (fun h1=>?_) (fun h1=>?_)
 ·have h1d:=bsT h1
  have G1:=jn h1 @h1d
  refine rgs G1 (fun h2 h2d G2=>?_) (fun h2 h2d G11=>?_)
  ·refine rgs G2 (fun h3 h3d G3=>?_) (fun h3 h3d G10=>?_)
   ·refine rgs G3 (fun h4 h4d G4=>?_) (fun h4 h4d G9=>?_)
    ·refine rgs G4 (fun h5 h5d G5=>?_) (fun h5 h5d G8=>?_)
     ·refine rcs G5 (fun h6 h6d G6=>?_) (fun h6 h6d G7=>?_)
      ·exact eR G6 hQ hbel (.bool false) results209 ⟨by (refine congrArg AV.bool ?_;rw[Bool.eq_iff_iff,bk];exact⟨fun e=>(by cases e),fun k=>(by omega)⟩),rfl⟩
      have hm1:=bg (a:=vx) (b:=vx) (A:=67108864) (B:=67108864) (by omega) (by omega)
      have hm2:=bg (a:=vy) (b:=vy) (A:=67108864) (B:=67108864) (by omega) (by omega)
      have hm3:=bg (a:=vd) (b:=vd) (A:=67108864) (B:=67108864) (by omega) (by omega)
      exact eR G7 hQ hbel (.bool (((vx*vx)+(vy*vy))==(vd*vd))) results209 ⟨by (refine congrArg AV.bool ?_;rw[Bool.eq_iff_iff,bk,beq_iff_eq];exact⟨fun e=>⟨⟨by omega,by omega⟩,⟨by omega,by omega⟩,⟨by omega,by omega⟩,e⟩,fun e=>e.2.2.2⟩),rfl⟩
     exact eR G8 hQ hbel (.bool false) results209 ⟨by (refine congrArg AV.bool ?_;rw[Bool.eq_iff_iff,bk];exact⟨fun e=>(by cases e),fun k=>(by omega)⟩),rfl⟩
    exact eR G9 hQ hbel (.bool false) results209 ⟨by (refine congrArg AV.bool ?_;rw[Bool.eq_iff_iff,bk];exact⟨fun e=>(by cases e),fun k=>(by omega)⟩),rfl⟩
   exact eR G10 hQ hbel (.bool false) results209 ⟨by (refine congrArg AV.bool ?_;rw[Bool.eq_iff_iff,bk];exact⟨fun e=>(by cases e),fun k=>(by omega)⟩),rfl⟩
  exact eR G11 hQ hbel (.bool false) results209 ⟨by (refine congrArg AV.bool ?_;rw[Bool.eq_iff_iff,bk];exact⟨fun e=>(by cases e),fun k=>(by omega)⟩),rfl⟩
 have h1d:=bsT h1
 have G12:=jn h1 @h1d
 exact eR G12 hQ hbel (.bool false) results209 ⟨by (refine congrArg AV.bool ?_;rw[Bool.eq_iff_iff,bk];exact⟨fun e=>(by cases e),fun k=>(by omega)⟩),rfl⟩
theorem hturn_c (H:aa)(a b:Vec)(ha:fY a=true)(hb:fY b=true):zC 188 [.agg [iV a.1,iV a.2.1,iV a.2.2],.agg [iV b.1,iV b.2.1,iV b.2.2]] H (.tup [.agg [iV ((iv a b).1),iV ((iv a b).2.1),iV ((iv a b).2.2)],iV 0]) H:=by
 have hka:=dw.1 ha
 have hkb:=dw.1 hb
 have hBa:=vecOK_B ha
 have hBb:=vecOK_B hb
 have hT:=(bk.1 (tur_ok ha hb)).1
 unfold iv at hT
 have hm0:=bg (a:=a.1) (b:=b.1) (A:=8065) (B:=8065) (by omega) (by omega)
 have hm1:=bg (a:=a.2.1) (b:=b.2.1) (A:=8065) (B:=8065) (by omega) (by omega)
 have hm2:=bg (a:=a.1) (b:=b.2.1) (A:=8065) (B:=8065) (by omega) (by omega)
 have hm3:=bg (a:=a.2.1) (b:=b.1) (A:=8065) (B:=8065) (by omega) (by omega)
 have hm4:=bg (a:=a.2.2) (b:=b.2.2) (A:=8065) (B:=8065) (by omega) (by omega)
 have hpd:0<a.2.2*b.2.2:=Int.mul_pos (by omega) (by omega)
 have hnr:decide (67108864<(fS (a.1*b.1-a.2.1*b.2.1) (a.1*b.2.1+a.2.1*b.1) (a.2.2*b.2.2)).2.2)=false:=decide_eq_false (by omega)
 refine AcT true func188 ?_;intro hbel Q hQ
 have G13:=jn @hBa (jn @hBb @hnr)
 refine ae G13 ?_
 refine cvr G13 (hvv_c _ _ _ _) ?_
 refine cvr G13 (hvv_c _ _ _ _) ?_
 refine cvr G13 (low_c _ _ _ _ (by omega) (by omega) (by omega) (by omega)) ?_
 exact eP hQ hbel (.tup [.agg [iV ((fS ((a.1*b.1)-(a.2.1*b.2.1)) ((a.1*b.2.1)+(a.2.1*b.1)) (a.2.2*b.2.2)).1),iV ((fS ((a.1*b.1)-(a.2.1*b.2.1)) ((a.1*b.2.1)+(a.2.1*b.1)) (a.2.2*b.2.2)).2.1),iV ((fS ((a.1*b.1)-(a.2.1*b.2.1)) ((a.1*b.2.1)+(a.2.1*b.1)) (a.2.2*b.2.2)).2.2)],iV 0]) results188 ⟨rfl,rfl⟩
theorem dD (H:aa)(h m:Int):zC 156 [iV h,iV m] H (.agg [iV ((aF h m).1),iV ((aF h m).2.1),iV ((aF h m).2.2)]) H:=by
 refine AcT true func156 ?_;intro hbel Q hQ
 refine aI ?_
 refine cv (dir_c _ h) ?_
 refine aI ?_
 refine cv (dir_c _ m) ?_
 refine aI ?_
 refine cv (hturn_c _ (cF h) (cF m) (gM _) (gM _)) ?_
 refine aI ?_
 exact eP hQ hbel (.agg [iV ((iv (cF h) (cF m)).1),iV ((iv (cF h) (cF m)).2.1),iV ((iv (cF h) (cF m)).2.2)]) results156 ⟨rfl,rfl⟩
set_option maxRecDepth 100000 in
theorem idx_r (H:aa)(s:AV)(l:List T9)(hs:Sl H 9 s l.length (r9 l))(hl:l.length<=1000000000)(g:FuncId)(caps:List AV)(hok:dk prog g=true)(hc:AV.bels H.length caps=true)(p:T9->Bool)(hf:∀j,j<l.length->ACalls prog g (.agg [.int .i64 (g91 l j),.int .i64 (g92 l j),.int .i64 (g93 l j),.int .i64 (g94 l j),.int .i64 (g95 l j),.int .i64 (g96 l j),.int .i64 (g97 l j),.int .i64 (g98 l j),.int .i64 (g99 l j)]::caps) H (fun v H'=>v=.bool (p (g91 l j,g92 l j,g93 l j,g94 l j,g95 l j,g96 l j,g97 l j,g98 l j,g99 l j))/\H'=H)):
  ACalls prog 176 [s,.fn g caps] H (fun v H'=>v=.int .i64 (fD p l)/\H'=H):=by
 obtain⟨b,own,cap,rfl,hb⟩:=hs
 have hbl:=getElem?_lt hb
 have hmv:=fun m sel=>gP (n:=H.length) (m:=m) (sel:=sel) hc
 (refine cB try_mixed func176 true _ rfl (Nat.le_of_ble_eq_true (by kernel_rfl)) (by kernel_rfl) ?_;intro hbel Q hQ hQ' c hc;unfold Tryz.f176 at hc;simp only[Option.some.injEq] at hc;subst hc;clear hQ')
 simp -implicitDefEqProofs (disch:=omega) only [simprocAttr,aJ,aK,Function.comp_apply,one1,lenV,aj,av,aA,aop,AV.ofValue,AV.ofCell,AV.cells,AV.flat,AV.one,arep,aU,ap,aG]
 refine glp (fun k F Hx=>∃i:Nat,i+k=l.length/\(l.take i).any p=false/\F=[(0,.sl (some (b,0)) l.length none),(1,.fn g caps),(7,.int .i64 l.length),(8,.int .i64 (i:Nat))]/\Hx=H) l.length ?_ ?_
 ·refine⟨_,_,_,⟨0,by omega,rfl,rfl,rfl⟩,Abs.by0 hbel ?_⟩
  exact aN @hmv
 rintro k F Hx ⟨i,hik,ht,rfl,rfl⟩ J hJ
 by_cases hi:i<l.length
 ·have hii:(i:Int)<(l.length:Int):=by omega
  have q1:=r9_load hi
  have hg:=g9_eq hi
  simp -implicitDefEqProofs (disch:=omega) only [hii,hb,q1,ec,lA,simprocAttr,aJ,aK,Function.comp_apply,one1,lenV,aj,av,aA,aop,AV.ofValue,AV.ofCell,AV.cells,AV.flat,AV.one,arep,aU,ap,aG]
  iterate 2 refine And.intro (by omega) ?_
  refine dQ hok (hf i hi) ?_
  have hst:=je (p:=p) hi
  rw[ht,Bool.false_or,<-hg] at hst
  cases h1:p (g91 l i,g92 l i,g93 l i,g94 l i,g95 l i,g96 l i,g97 l i,g98 l i,g99 l i)
  ·rw[h1] at hst
   simp -implicitDefEqProofs (disch:=omega) only [h1,simprocAttr,aJ,aK,Function.comp_apply,one1,lenV,aj,av,aA,aop,AV.ofValue,AV.ofCell,AV.cells,AV.flat,AV.one,arep,aU,ap,aG]
   refine hJ _ _ ⟨k-1,by omega,_,_,_,⟨i+1,by omega,hst,rfl,rfl⟩,Abs.by0 hbel ?_⟩
   exact aN @hmv
  simp -implicitDefEqProofs (disch:=omega) only [h1,simprocAttr,aJ,aK,Function.comp_apply,one1,lenV,aj,av,aA,aop,AV.ofValue,AV.ofCell,AV.cells,AV.flat,AV.one,arep,aU,ap,aG]
  exact eQ hQ hbel (.int .i64 (i:Nat)) results176 ⟨by rw[iU hi ht (by rw[<-hg];exact h1)],rfl⟩
 have hnn:¬((i:Int)<(l.length:Int)):=by omega
 simp -implicitDefEqProofs (disch:=omega) only [hnn,simprocAttr,aJ,aK,Function.comp_apply,one1,lenV,aj,av,aA,aop,AV.ofValue,AV.ofCell,AV.cells,AV.flat,AV.one,arep,aU,ap,aG]
 rw[List.take_of_length_le (by omega)] at ht
 exact eQ hQ hbel (.int .i64 (-1)) results176 ⟨by rw[fE ht],rfl⟩
theorem has_r (H:aa)(s:AV)(l:List T9)(hs:Sl H 9 s l.length (r9 l))(hl:l.length<=1000000000)(g:FuncId)(caps:List AV)(hok:dk prog g=true)(hc:AV.bels H.length caps=true)(p:T9->Bool)(hf:∀j,j<l.length->ACalls prog g (.agg [.int .i64 (g91 l j),.int .i64 (g92 l j),.int .i64 (g93 l j),.int .i64 (g94 l j),.int .i64 (g95 l j),.int .i64 (g96 l j),.int .i64 (g97 l j),.int .i64 (g98 l j),.int .i64 (g99 l j)]::caps) H (fun v H'=>v=.bool (p (g91 l j,g92 l j,g93 l j,g94 l j,g95 l j,g96 l j,g97 l j,g98 l j,g99 l j))/\H'=H)):
  ACalls prog 151 [s,.fn g caps] H (fun v H'=>v=.bool (l.any p)/\H'=H):=by
 have key:=idx_r H s l hs hl g caps hok hc p hf
 obtain⟨b,own,cap,rfl,hb⟩:=hs
 have hbl:=getElem?_lt hb
 (refine cB try_mixed func151 true _ rfl (Nat.le_of_ble_eq_true (by kernel_rfl)) (by kernel_rfl) ?_;intro hbel Q hQ hQ' c hc;unfold Tryz.f151 at hc;simp only[Option.some.injEq] at hc;subst hc;clear hQ')
 simp -implicitDefEqProofs (disch:=omega) only [simprocAttr,aJ,aK,Function.comp_apply,one1,lenV,aj,av,aA,aop,AV.ofValue,AV.ofCell,AV.cells,AV.flat,AV.one,arep,aU,ap,aG]
 refine dQ (by kernel_rfl) key ?_
 simp -implicitDefEqProofs (disch:=omega) only [simprocAttr,aJ,aK,Function.comp_apply,one1,lenV,aj,av,aA,aop,AV.ofValue,AV.ofCell,AV.cells,AV.flat,AV.one,arep,aU,ap,aG]
 exact eQ hQ hbel (.bool (decide (0<=fD p l))) results151 ⟨by rw[kw],rfl⟩
set_option maxRecDepth 100000 in
theorem idx_m (H:aa)(s:AV)(l:List (Int×Int))(hs:SlP H s l)(hl:l.length<=1000000000)(g:FuncId)(caps:List AV)(hok:dk prog g=true)(hc:AV.bels H.length caps=true)(p:(Int×Int)->Bool)(hf:∀j,j<l.length->ACalls prog g (.agg [.int .i64 (g1 l j),.int .i64 (g2 l j)]::caps) H (fun v H'=>v=.bool (p (g1 l j,g2 l j))/\H'=H)):
  ACalls prog 97 [s,.fn g caps] H (fun v H'=>v=.int .i64 (fD p l)/\H'=H):=by
 obtain⟨b,own,cap,rfl,hb⟩:=hs
 have hbl:=getElem?_lt hb
 have hmv:=fun m sel=>gP (n:=H.length) (m:=m) (sel:=sel) hc
 (refine cB try_mixed func97 true _ rfl (Nat.le_of_ble_eq_true (by kernel_rfl)) (by kernel_rfl) ?_;intro hbel Q hQ hQ' c hc;unfold Tryz.f97 at hc;simp only[Option.some.injEq] at hc;subst hc;clear hQ')
 simp -implicitDefEqProofs (disch:=omega) only [simprocAttr,aJ,aK,Function.comp_apply,one1,lenV,aj,av,aA,aop,AV.ofValue,AV.ofCell,AV.cells,AV.flat,AV.one,arep,aU,ap,aG]
 refine glp (fun k F Hx=>∃i:Nat,i+k=l.length/\(l.take i).any p=false/\F=[(0,.sl (some (b,0)) l.length none),(1,.fn g caps),(7,.int .i64 l.length),(8,.int .i64 (i:Nat))]/\Hx=H) l.length ?_ ?_
 ·refine⟨_,_,_,⟨0,by omega,rfl,rfl,rfl⟩,Abs.by0 hbel ?_⟩
  exact aN @hmv
 rintro k F Hx ⟨i,hik,ht,rfl,rfl⟩ J hJ
 by_cases hi:i<l.length
 ·have hii:(i:Int)<(l.length:Int):=by omega
  have q1:=cL hi
  have hg:=ct hi
  simp -implicitDefEqProofs (disch:=omega) only [hii,hb,q1,bm,cJ,simprocAttr,aJ,aK,Function.comp_apply,one1,lenV,aj,av,aA,aop,AV.ofValue,AV.ofCell,AV.cells,AV.flat,AV.one,arep,aU,ap,aG]
  iterate 2 refine And.intro (by omega) ?_
  refine dQ hok (hf i hi) ?_
  have hst:=je (p:=p) hi
  rw[ht,Bool.false_or,<-hg] at hst
  cases h1:p (g1 l i,g2 l i)
  ·rw[h1] at hst
   simp -implicitDefEqProofs (disch:=omega) only [h1,simprocAttr,aJ,aK,Function.comp_apply,one1,lenV,aj,av,aA,aop,AV.ofValue,AV.ofCell,AV.cells,AV.flat,AV.one,arep,aU,ap,aG]
   refine hJ _ _ ⟨k-1,by omega,_,_,_,⟨i+1,by omega,hst,rfl,rfl⟩,Abs.by0 hbel ?_⟩
   exact aN @hmv
  simp -implicitDefEqProofs (disch:=omega) only [h1,simprocAttr,aJ,aK,Function.comp_apply,one1,lenV,aj,av,aA,aop,AV.ofValue,AV.ofCell,AV.cells,AV.flat,AV.one,arep,aU,ap,aG]
  exact eQ hQ hbel (.int .i64 (i:Nat)) results97 ⟨by rw[iU hi ht (by rw[<-hg];exact h1)],rfl⟩
 have hnn:¬((i:Int)<(l.length:Int)):=by omega
 simp -implicitDefEqProofs (disch:=omega) only [hnn,simprocAttr,aJ,aK,Function.comp_apply,one1,lenV,aj,av,aA,aop,AV.ofValue,AV.ofCell,AV.cells,AV.flat,AV.one,arep,aU,ap,aG]
 rw[List.take_of_length_le (by omega)] at ht
 exact eQ hQ hbel (.int .i64 (-1)) results97 ⟨by rw[fE ht],rfl⟩
theorem has_m (H:aa)(s:AV)(l:List (Int×Int))(hs:SlP H s l)(hl:l.length<=1000000000)(g:FuncId)(caps:List AV)(hok:dk prog g=true)(hc:AV.bels H.length caps=true)(p:(Int×Int)->Bool)(hf:∀j,j<l.length->ACalls prog g (.agg [.int .i64 (g1 l j),.int .i64 (g2 l j)]::caps) H (fun v H'=>v=.bool (p (g1 l j,g2 l j))/\H'=H)):
  ACalls prog 60 [s,.fn g caps] H (fun v H'=>v=.bool (l.any p)/\H'=H):=by
 have key:=idx_m H s l hs hl g caps hok hc p hf
 obtain⟨b,own,cap,rfl,hb⟩:=hs
 have hbl:=getElem?_lt hb
 (refine cB try_mixed func60 true _ rfl (Nat.le_of_ble_eq_true (by kernel_rfl)) (by kernel_rfl) ?_;intro hbel Q hQ hQ' c hc;unfold Tryz.f60 at hc;simp only[Option.some.injEq] at hc;subst hc;clear hQ')
 simp -implicitDefEqProofs (disch:=omega) only [simprocAttr,aJ,aK,Function.comp_apply,one1,lenV,aj,av,aA,aop,AV.ofValue,AV.ofCell,AV.cells,AV.flat,AV.one,arep,aU,ap,aG]
 refine dQ (by kernel_rfl) key ?_
 simp -implicitDefEqProofs (disch:=omega) only [simprocAttr,aJ,aK,Function.comp_apply,one1,lenV,aj,av,aA,aop,AV.ofValue,AV.ofCell,AV.cells,AV.flat,AV.one,arep,aU,ap,aG]
 exact eQ hQ hbel (.bool (decide (0<=fD p l))) results60 ⟨by rw[kw],rfl⟩
theorem dc (H:aa)(n lo hi:Int):zC 75 [iV n,iV lo,iV hi] H (.bool (btw n lo hi)) H:=by
 refine AcT true func75 ?_;intro hbel Q hQ
 refine aI ?_
 refine aY (fun h1=>?_) (fun h1=>?_)
 ·have h1d:=bsT h1
  have G1:=jn h1 @h1d
  exact eS G1 hQ hbel (.bool (decide (n<=hi))) results75 ⟨by simp[btw,h1d],rfl⟩
 have h1d:=bsT h1
 have G2:=jn h1 @h1d
 exact eS G2 hQ hbel (.bool false) results75 ⟨by simp[btw,h1d],rfl⟩
theorem kvb_c (H:aa)(m r:Int):zC 104 [.agg [iV m,iV r]] H (.bool (fm m r)) H:=by
 refine AcT true func104 ?_;intro hbel Q hQ
 refine aI ?_
 refine cv (dc _ m 0 _) ?_
 refine aI ?_
 refine aY (fun h1=>?_) (fun h1=>?_)
 ·have h1d:=bsT h1
  have G3:=jn h1 @h1d
  refine ae G3 ?_
  refine cvr G3 (dc _ r _ _) ?_
  exact eP hQ hbel (.bool (btw r (-1) 1024)) results104 ⟨by simp[fm,h1d],rfl⟩
 have h1d:=bsT h1
 have G4:=jn h1 @h1d
 exact eR G4 hQ hbel (.bool false) results104 ⟨by simp[fm,h1d],rfl⟩
theorem kright1_c (H:aa)(m r:Int):zC 103 [.agg [iV m,iV r]] H (.bool (!(ga (m,r)))) H:=by
 refine AcT true func103 ?_;intro hbel Q hQ
 refine aI ?_
 refine cv (kvb_c _ m r) ?_
 refine aI ?_
 exact eP hQ hbel (.bool (!(fm m r))) results103 ⟨rfl,rfl⟩
theorem kset1_c (H:aa)(x0 y0 x1 y1 f c:Int):zC 146 [.agg [iV x0,iV y0,iV x1,iV y1,iV f,iV c]] H (.bool (!(bxB x0 y0 x1 y1 f c))) H:=by
 refine AcT true func146 ?_;intro hbel Q hQ
 refine aI ?_
 refine cv (ft _ _ _ _ _ f c) ?_
 refine aI ?_
 exact eP hQ hbel (.bool (!(bxB x0 y0 x1 y1 f c))) results146 ⟨rfl,rfl⟩
theorem kset_c (H:aa)(s:AV)(l:List T6)(hs:Sl H 6 s l.length (r6 l))(hl:l.length<=1000000000):zC 105 [s] H (.bool (bM l)) H:=by
 obtain⟨bs,os,cs,rfl,hbs,hbls,hb0s⟩:=zA1 hs
 refine AcT true func105 ?_;intro hbel Q hQ
 have G1:=jn @hbs @hb0s
 refine rgs G1 (fun h1 h1d G2=>?_) (fun h1 h1d G3=>?_)
 ·refine ae G2 ?_
  refine cvr G2 (jQ _ _ l (zA2 hb0s hbs) (by omega) _ [] (by kernel_rfl) rfl (fun b=>!bj b) (fun j hj=>kset1_c _ _ _ _ _ _ _)) ?_
  exact eQ hQ hbel (.bool (!(l.any (fun b=>!bj b)))) results105 ⟨by simp[bM,h1d],rfl⟩
 exact eS G3 hQ hbel (.bool false) results105 ⟨by simp[bM,h1d],rfl⟩
theorem kpairs_c (H:aa)(s:AV)(l:List T6)(hs:Sl H 6 s l.length (r6 l))(hS:bM l=true):zC 107 [s] H (iV (sumC l l.length)) H:=by
 obtain⟨bs,os,cs,rfl,hbs,hbls,hb0s⟩:=zA1 hs
 have hln:=jj hS
 refine AcT true func107 ?_;intro hbel Q hQ
 have G4:=jn @hbs @hb0s
 refine ae G4 ?_
 refine glp (fun k F Hx=>∃i:Nat,i+k=l.length/\F=[(3,iV (sumC l i)),(6,.sl (some (bs,0)) l.length cs),(7,iV (l.length:Int)),(8,iV (i:Int))]/\H=Hx) (l.length) ?_ ?_
 ·refine⟨_,_,_,⟨0,by omega,rfl,rfl⟩,Abs.by0 hbel ?_⟩
  exact aN @sumC.eq_1
 rintro k0 F Hx ⟨i,hm0,rfl,rfl⟩ J0 hJ0
 refine rcs G4 (fun h1 h1d _=>?_) (fun h1 h1d G6=>?_)
 ·have hsb:=sumC_bd hS i (by omega)
  have hgb:=g66_bd hS (show i<l.length by omega)
  have q2:=di (l:=l) (j:=i) (by omega)
  have G5:=jn h1 (jn h1d (jn @ce (jn q2 G4)))
  refine ae G5 ?_
  refine hJ0 _ _ ⟨k0-1,by omega,_,_,_,⟨i+1,by omega,rfl,rfl⟩,Abs.byN hbel ?_⟩
  exact aN @sumC.eq_2
 obtain rfl:i=l.length:=by omega
 exact eS G6 hQ hbel (iV (sumC l l.length)) results107 ⟨rfl,rfl⟩
theorem ktau1_c (H:aa)(x0 y0 x1 y1 f c:Int)(hb:bxB x0 y0 x1 y1 f c=true):zC 106 [.agg [iV x0,iV y0,iV x1,iV y1,iV f,iV c]] H (.bool (wdeB (x0,y0,x1,y1,f,c))) H:=by
 have hbb:=bB.1 hb
 refine AcT true func106 ?_;intro hbel Q hQ
 refine aI ?_
 refine aY (fun h1=>?_) (fun h1=>?_)
 ·have h1d:=bsT h1
  have G7:=jn h1 @h1d
  exact eR G7 hQ hbel (.bool (decide (64<(y1-y0)))) results106 ⟨by simp[wdeB,h1d],rfl⟩
 have h1d:=bsT h1
 have G8:=jn h1 @h1d
 exact eR G8 hQ hbel (.bool true) results106 ⟨by simp[wdeB,h1d],rfl⟩
theorem lB (H:aa)(s:AV)(l:List T6)(hs:Sl H 6 s l.length (r6 l))(hS:bM l=true):zC 69 [s] H (.bool (fG l)) H:=by
 obtain⟨bs,os,cs,rfl,hbs,hbls,hb0s⟩:=zA1 hs
 have hln:=jj hS
 refine AcT true func69 ?_;intro hbel Q hQ
 have G1:=jn @hbs @hb0s
 refine ae G1 ?_
 refine cv (kpairs_c _ _ l (zA2 hb0s hbs) (by assumption)) ?_
 refine rgs G1 (fun h1 h1d G2=>?_) (fun h1 h1d G3=>?_)
 ·refine ae G2 ?_
  refine cvr G2 (jQ _ _ l (zA2 hb0s hbs) (by omega) _ [] (by kernel_rfl) rfl (wdeB) (fun j hj=>ktau1_c _ _ _ _ _ _ _ ((bF.1 hS).2 (g6 l j) (cD hj)))) ?_
  exact eQ hQ hbel (.bool (!(l.any (wdeB)))) results69 ⟨by simp[fG,h1d],rfl⟩
 exact eS G3 hQ hbel (.bool false) results69 ⟨by simp[fG,h1d],rfl⟩
theorem kright_c (H:aa)(W Hh:Int)(pp:AV)(xs:List Int)(s:AV)(l:List T6)(q:AV)(sc:List (Int×Int))(g:Int)(hpp:zI H pp xs)(hs:Sl H 6 s l.length (r6 l))(hq:SlP H q sc)(hl:l.length<=1000000000)(hsc:sc.length<=1000000000):zC 68 [.agg [iV W,iV Hh,pp],s,q,iV g] H (.bool (eo W Hh xs l sc g)) H:=by
 obtain⟨bpp,opp,cpp,rfl,hbpp,hblpp,hb0pp⟩:=zA1 hpp
 obtain⟨bs,os,cs,rfl,hbs,hbls,hb0s⟩:=zA1 hs
 obtain⟨bq,oq,cq,rfl,hbq,hblq,hb0q⟩:=zA1 hq
 refine AcT true func68 ?_;intro hbel Q hQ
 have G4:=jn @hbpp (jn @hb0pp (jn @hbs (jn @hb0s (jn @hbq @hb0q))))
 refine ae G4 ?_
 refine cv (d3 _ W Hh _ xs (.inr (zA2 hb0pp hbpp))) ?_
 refine rgs G4 (fun h1 h1d G5=>?_) (fun h1 h1d G14=>?_)
 ·refine rgs G5 (fun h2 h2d G6=>?_) (fun h2 h2d G13=>?_)
  ·refine ae G6 ?_
   refine cv (kset_c _ _ l (zA2 hb0s hbs) (by omega)) ?_
   refine rgs G6 (fun h3 h3d G7=>?_) (fun h3 h3d G12=>?_)
   ·refine rgs G7 (fun h4 h4d G8=>?_) (fun h4 h4d G11=>?_)
    ·refine ae G8 ?_
     refine cv (has_m _ _ sc (zA2 hb0q hbq) (by omega) _ [] (by kernel_rfl) rfl (fun e=>!ga e) (fun j hj=>kright1_c _ _ _)) ?_
     refine rgs G8 (fun h5 h5d G9=>?_) (fun h5 h5d G10=>?_)
     ·refine ae G9 ?_
      refine cvr G9 (dc _ g 1 _) ?_
      exact eP hQ hbel (.bool (btw g 1 32)) results68 ⟨by (unfold eo c7;simp only[h1,h2,h3,h4,h5];rfl),rfl⟩
     exact eR G10 hQ hbel (.bool false) results68 ⟨by simp[eo,c7,h1d,h2d,h3d,h4d,h5d],rfl⟩
    exact eR G11 hQ hbel (.bool false) results68 ⟨by simp[eo,c7,h1d,h2d,h3d,h4d],rfl⟩
   exact eR G12 hQ hbel (.bool false) results68 ⟨by simp[eo,c7,h1d,h2d,h3d],rfl⟩
  exact eR G13 hQ hbel (.bool false) results68 ⟨by (unfold eo c7;simp only[h1,h2];rfl),rfl⟩
 exact eR G14 hQ hbel (.bool false) results68 ⟨by simp[eo,c7,h1d],rfl⟩
theorem hlistk_c (H:aa)(l:List T6)(i:Nat)(ha:b9 (g65 l i) (g66 l i)=true):zC 99 [.agg [iV (g65 l i),iV (g66 l i)]] H (.sl (some (H.length,0)) (mkB (g6 l i)).length none) (H++[.cells true 1 (ints .i64 (mkB (g6 l i)))]):=oC H _ _ ha
theorem eI (H:aa)(l:List T6)(m far:Int):zC 147 [.agg [iV (g91 (aq l m) 0),iV (g92 (aq l m) 0)],.agg [iV (g97 (aq l m) 0),iV (g98 (aq l m) 0),iV (g99 (aq l m) 0)],iV 0,iV far] H (.tup [.sl (some (H.length,0)) (aQ l m far).length (aT (aQ l m far).length),iV (trE (g91 (aq l m) 0) (g92 (aq l m) 0) (g97 (aq l m) 0) (g98 (aq l m) 0) (g99 (aq l m) 0) 0 far)]) (H++[.cells (aL (aQ l m far).length) 2 (prs (aQ l m far))]):=kE H _ _ _ _ _ _ _
theorem g9_mem {l:List T9}{j:Nat}(h:j<l.length):g9 l j∈l:=by
 have:=g9_eq h
 have e:(g91 l j,g92 l j,g93 l j,g94 l j,g95 l j,g96 l j,g97 l j,g98 l j,g99 l j)=g9 l j:=rfl
 rw[e] at this;rw[this];exact List.getElem_mem h
theorem fstL_len (l:List T6)(m far:Int):(aQ l m far).length<=7225:=jU _ _ _ _ _ _ _
theorem ee (H:aa)(x0 y0 x1 y1 f c:Int)(ha:bxB x0 y0 x1 y1 f c=true):zC 148 [.agg [iV x0,iV y0,iV x1,iV y1,iV f,iV c]] H (.sl (some (H.length,0)) 4 none) (H++[.cells true 2 [iV x0,iV y0,iV x1,iV y0,iV x0,iV y1,iV x1,iV y1]]):=by
 refine AcT true func148 ?_;intro hbel Q hQ
 have G1:=@ha
 refine ae G1 ?_
 refine cvr G1 (ft _ _ _ _ _ f c) ?_
 refine hQ _ _ (aW (.inl rfl) hbel (x1:=.sl (some (H.length+1,0)) 4 (some 4)) (l2:=[.cells true 2 [iV x0,iV y0,iV x1,iV y0,iV x0,iV y1,iV x1,iV y1]]) (.sl (some (H.length,0)) 4 none) (aZ results148) [] rfl [1] (by decide) ⟨rfl,rfl⟩ ?_)
 exact aD
theorem kI (H:aa)(s:AV)(l:List T6)(m r:Int)(hs:Sl H 6 s l.length (r6 l))(hS:bM l=true):zC 113 [s,.agg [iV m,iV r]] H (.sl (some (H.length,0)) ((aq l m).length) (aT (aq l m).length)) (H++[.cells (aL (aq l m).length) 9 (r9 (aq l m))]):=by
 obtain⟨bs,os,cs,rfl,hbs,hbls,hb0s⟩:=zA1 hs
 have hln:=jj hS
 refine AcT true func113 ?_;intro hbel Q hQ
 have G2:=jn @hbs @hb0s
 refine ae G2 ?_
 refine glp (fun k F Hx=>∃i:Nat,i+k=l.length/\F=[(3,.ptr (some (H.length,0))),(5,.sl (some (H.length+1,0)) ((dirS l m i).length) (aT (dirS l m i).length)),(10,.sl (some (bs,0)) l.length cs),(11,iV (l.length:Int)),(12,iV (i:Int))]/\Hx=H++[.cells true 0 [iV m,iV r],.cells (aL (dirS l m i).length) 9 (r9 (dirS l m i))]) (l.length) ?_ ?_
 ·refine⟨_,_,_,⟨0,by omega,rfl,rfl⟩,Abs.byG hbel [.cells false 9 []] rfl [0,1] (by decide) ?_⟩
  exact az (jn @dirS.eq_1 (jn @bt (jn @bD (jn @cg @bW))))
 rintro k0 F Hx ⟨i,hm0,rfl,rfl⟩ J0 hJ0
 have G3:=jn @ec (jn @lA G2)
 refine rcs G3 (fun h1 h1d _=>?_) (fun h1 h1d G9=>?_)
 ·have hai:b9 (g65 l i) (g66 l i)=true:=(bB.1 ((bF.1 hS).2 (g6 l i) (cD (by omega)))).2.2
  have hdl:=mS hS m i (by omega)
  have hmk:=oA hS (show i<l.length by omega)
  have q2:=di (l:=l) (j:=i) (by omega)
  have G4:=jn h1 (jn h1d (jn @ce (jn q2 G3)))
  refine ae G4 ?_
  refine cvr G4 (hlistk_c _ l i hai) ?_
  refine glp (fun k F Hx=>∃j:Nat,j+k=(mkB (g6 l i)).length/\F=[(3,.ptr (some (H.length,0))),(5,.sl (some (H.length+3,0)) ((dirS l m i++dirB (g6 l i) m j).length) (aT (dirS l m i++dirB (g6 l i) m j).length)),(7,.ptr (some (H.length+1,0))),(10,.sl (some (bs,0)) l.length cs),(11,iV (l.length:Int)),(12,iV (i:Int)),(21,.sl (some (H.length+2,0)) ((mkB (g6 l i)).length) none),(22,iV (((mkB (g6 l i)).length:Nat):Int)),(23,iV (j:Int))]/\Hx=H++[.cells true 0 [iV m,iV r],.cells true 0 [iV (g61 l i),iV (g62 l i),iV (g63 l i),iV (g64 l i),iV (g65 l i),iV (g66 l i)],.cells true 1 (ints .i64 (mkB (g6 l i))),.cells (aL (dirS l m i++dirB (g6 l i) m j).length) 9 (r9 (dirS l m i++dirB (g6 l i) m j))]) ((mkB (g6 l i)).length) ?_ ?_
  ·refine⟨_,_,_,⟨0,by omega,rfl,rfl⟩,bS hbel [0,2,3,1] (az (jn @dirB.eq_1 (jn @List.append_nil.{0} (jn @bt (jn @bD (jn @cg @bW))))))⟩
  rintro k1 F Hx ⟨j,hm1,rfl,rfl⟩ J1 hJ1
  have hbl:=kF (g6 l i) m j
  have hst:dirB (g6 l i) m (j+1)=dirB (g6 l i) m j++[(g61 l i,g62 l i,g63 l i,g64 l i,g65 l i,g66 l i,(aF (gi (mkB (g6 l i)) j) m).1,(aF (gi (mkB (g6 l i)) j) m).2.1,(aF (gi (mkB (g6 l i)) j) m).2.2)]:=rfl
  have G5:=jn @bZ (jn @cU G4)
  refine rcs G5 (fun h3 h3d _=>?_) (fun h3 h3d G8=>?_)
  ·have q4:=cS (k:=.i64) (xs:=mkB (g6 l i)) (j:=j) (by omega)
   have G6:=jn h3 (jn h3d (jn q4 G5))
   refine ae G6 ?_
   refine cd (dD _ _ m) ?_
   have G7:=jn @bm (jn @du G6)
   refine ae G7 ?_
   refine hJ1 _ _ ⟨k1-1,by omega,_,_,_,⟨j+1,by omega,rfl,rfl⟩,bS hbel [0,1,2,5] (az (jn @hst (jn @List.append_assoc.{0} (jn @bt (jn @bD (jn @cg @bW))))))⟩
  obtain rfl:j=(mkB (g6 l i)).length:=by omega
  refine ae G8 ?_
  refine hJ0 _ _ ⟨k0-1,by omega,_,_,_,⟨i+1,by omega,rfl,rfl⟩,bS hbel [0,3] (az (jn @dirS.eq_2 (jn @bt (jn @bD (jn @cg @bW)))))⟩
 obtain rfl:i=l.length:=by omega
 refine ae G9 ?_
 refine hQ _ _ (aW (.inl rfl) hbel (x1:=.sl (some (H.length+1,0)) ((dirS l m l.length).length) (aT (dirS l m l.length).length)) (l2:=[.cells (aL (dirS l m l.length).length) 9 (r9 (dirS l m l.length))]) (.sl (some (H.length,0)) ((dirS l m l.length).length) (aT (dirS l m l.length).length)) (aZ results113) [] rfl [1] (by decide) ⟨rfl,rfl⟩ ?_)
 exact aN @bW
theorem passes_c (H:aa)(x0 y0 x1 y1 f c vx vy vd s0 t0 s1 t1 far:Int)(hp:bxB x0 y0 x1 y1 f c=true):zC 150 [.agg [iV x0,iV y0,iV x1,iV y1,iV f,iV c,iV vx,iV vy,iV vd],.agg [iV s0,iV t0,iV s1,iV t1],iV far] H (.bool (psB (x0,y0,x1,y1,f,c,vx,vy,vd) s0 t0 s1 t1 far)) H:=by
 refine AcT true func150 ?_;intro hbel Q hQ
 refine aI ?_
 refine cv (ee _ _ _ _ _ f c (by assumption)) ?_
 refine aI ?_
 refine glp (fun k F Hx=>∃j:Nat,j+k=4/\((1<=j->dg x0 y0 vx vy vd far s0 t0 s1 t1=true)/\(2<=j->dg x1 y0 vx vy vd far s0 t0 s1 t1=true)/\(3<=j->dg x0 y1 vx vy vd far s0 t0 s1 t1=true)/\(4<=j->dg x1 y1 vx vy vd far s0 t0 s1 t1=true))/\F=[(2,iV far),(3,.ptr (some (H.length,0))),(4,.ptr (some (H.length+1,0))),(11,.sl (some (H.length+2,0)) 4 none),(12,iV 4),(13,iV (j:Int))]/\Hx=H++[.cells true 0 [iV x0,iV y0,iV x1,iV y1,iV f,iV c,iV vx,iV vy,iV vd],.cells true 0 [iV s0,iV t0,iV s1,iV t1],.cells true 2 [iV x0,iV y0,iV x1,iV y0,iV x0,iV y1,iV x1,iV y1]]) (4) ?_ ?_
 ·refine⟨_,_,_,⟨0,by omega,⟨fun h=>by omega,fun h=>by omega,fun h=>by omega,fun h=>by omega⟩,rfl,rfl⟩,bS hbel [0,1,2] aD⟩
 rintro k0 F Hx ⟨j,hm0,hal,rfl,rfl⟩ J0 hJ0
 refine aI ?_
 refine cO (fun h1=>?_) (fun h1=>?_)
 ·have h1d:=bsT h1
  obtain rfl|rfl|rfl|rfl:=(by omega:j=0\/j=1\/j=2\/j=3)
  ·have G10:=jn h1 @h1d
   refine ae G10 ?_
   refine cv (eH _ _ _ _ _ _ _ _ _ _ _) ?_
   refine rcs G10 (fun h2 h2d G11=>?_) (fun h2 h2d G12=>?_)
   ·have hfinP:psB (x0,y0,x1,y1,f,c,vx,vy,vd) s0 t0 s1 t1 far=false:=by simp[psB,h2d]
    exact eR G11 hQ hbel (.bool false) results150 ⟨by rw[hfinP],rfl⟩
   have hc0:=h2d
   refine ae G12 ?_
   refine hJ0 _ _ ⟨k0-1,by omega,_,_,_,⟨0+1,by omega,by refine⟨fun h=>?_,fun h=>?_,fun h=>?_,fun h=>?_⟩<;>omega,rfl,rfl⟩,bS hbel [0,1,2] aD⟩
  ·have G13:=jn h1 @h1d
   refine ae G13 ?_
   refine cv (eH _ _ _ _ _ _ _ _ _ _ _) ?_
   refine rcs G13 (fun h3 h3d G14=>?_) (fun h3 h3d G15=>?_)
   ·have hfinP:psB (x0,y0,x1,y1,f,c,vx,vy,vd) s0 t0 s1 t1 far=false:=by simp[psB,h3d]
    exact eR G14 hQ hbel (.bool false) results150 ⟨by rw[hfinP],rfl⟩
   have hc1:=h3d
   refine ae G15 ?_
   refine hJ0 _ _ ⟨k0-1,by omega,_,_,_,⟨1+1,by omega,by refine⟨fun h=>?_,fun h=>?_,fun h=>?_,fun h=>?_⟩<;>first|omega|exact hal.1 (by omega),rfl,rfl⟩,bS hbel [0,1,2] aD⟩
  ·have G16:=jn h1 @h1d
   refine ae G16 ?_
   refine cv (eH _ _ _ _ _ _ _ _ _ _ _) ?_
   refine rcs G16 (fun h4 h4d G17=>?_) (fun h4 h4d G18=>?_)
   ·have hfinP:psB (x0,y0,x1,y1,f,c,vx,vy,vd) s0 t0 s1 t1 far=false:=by simp[psB,h4d]
    exact eR G17 hQ hbel (.bool false) results150 ⟨by rw[hfinP],rfl⟩
   have hc2:=h4d
   refine ae G18 ?_
   refine hJ0 _ _ ⟨k0-1,by omega,_,_,_,⟨2+1,by omega,by refine⟨fun h=>?_,fun h=>?_,fun h=>?_,fun h=>?_⟩<;>first|omega|exact hal.1 (by omega)|exact hal.2.1 (by omega),rfl,rfl⟩,bS hbel [0,1,2] aD⟩
  have G19:=jn h1 @h1d
  refine ae G19 ?_
  refine cv (eH _ _ _ _ _ _ _ _ _ _ _) ?_
  refine rcs G19 (fun h5 h5d G20=>?_) (fun h5 h5d G21=>?_)
  ·have hfinP:psB (x0,y0,x1,y1,f,c,vx,vy,vd) s0 t0 s1 t1 far=false:=by simp[psB,h5d]
   exact eR G20 hQ hbel (.bool false) results150 ⟨by rw[hfinP],rfl⟩
  have hc3:=h5d
  refine ae G21 ?_
  refine hJ0 _ _ ⟨k0-1,by omega,_,_,_,⟨3+1,by omega,by refine⟨fun h=>?_,fun h=>?_,fun h=>?_,fun h=>?_⟩<;>first|omega|exact hal.1 (by omega)|exact hal.2.1 (by omega)|exact hal.2.2.1 (by omega),rfl,rfl⟩,bS hbel [0,1,2] aD⟩
 have h1d:=bsT h1
 have hfinP:psB (x0,y0,x1,y1,f,c,vx,vy,vd) s0 t0 s1 t1 far=true:=by unfold psB;simp only;rw[hal.1 (by omega),hal.2.1 (by omega),hal.2.2.1 (by omega),hal.2.2.2 (by omega)];rfl
 have G22:=jn h1 @h1d
 exact eR G22 hQ hbel (.bool true) results150 ⟨by rw[hfinP],rfl⟩
theorem kprv1_c (H:aa)(x0 y0 x1 y1 f c vx vy vd s0 t0 s1 t1:Int)(bz:Nat)(far:Int)(bw:Nat)(hz:∃o,H[bz]? = some (.cells o 0 [iV s0,iV t0,iV s1,iV t1]))(hw:∃o,H[bw]? = some (.cells o 0 [iV far]))(hp:bxB x0 y0 x1 y1 f c=true):zC 149 [.agg [iV x0,iV y0,iV x1,iV y1,iV f,iV c,iV vx,iV vy,iV vd],.ptr (some (bz,0)),.ptr (some (bw,0))] H (.bool (!(psB (x0,y0,x1,y1,f,c,vx,vy,vd) s0 t0 s1 t1 far))) H:=by
 obtain⟨oz,hbz⟩:=hz
 have hblz:=getElem?_lt hbz
 have hb0z:=fun l=>ai (l:=l) hbz
 obtain⟨ow,hbw⟩:=hw
 have hblw:=getElem?_lt hbw
 have hb0w:=fun l=>ai (l:=l) hbw
 refine AcT true func149 ?_;intro hbel Q hQ
 have G23:=jn @hbz (jn @hb0z (jn @hbw @hb0w))
 refine ae G23 ?_
 refine cvr G23 (passes_c _ _ _ _ _ f c _ _ _ _ _ _ _ _ (by assumption)) ?_
 exact eP hQ hbel (.bool (!(psB (x0,y0,x1,y1,f,c,vx,vy,vd) s0 t0 s1 t1 far))) results149 ⟨rfl,rfl⟩
theorem psqr_c (H:aa)(x y:Int):zC 79 [.agg [iV x,iV y]] H (.tup [.agg [iV (mkV (sqO x y) (x*64)),iV (mkV (sqO x y) (y*64)),iV (mkV (sqO x y) (x*64+64)),iV (mkV (sqO x y) (y*64+64))],.bool (sqO x y)]) H:=by
 refine AcT true func79 ?_;intro hbel Q hQ
 refine aI ?_
 refine cv (gl _ x _ (by omega)) ?_
 refine aI ?_
 refine aY (fun h1=>?_) (fun h1=>?_)
 ·have h1d:=bsT h1
  have wx:=aH.1 h1d
  have G24:=jn h1 @h1d
  refine ae G24 ?_
  refine cv (gl _ y _ (by omega)) ?_
  refine rcs G24 (fun h2 h2d G25=>?_) (fun h2 h2d G26=>?_)
  ·have wy:¬(-16384<=y/\y<=16384):=mt aH.2 (by rw[h2d];decide)
   exact eR G25 hQ hbel (.tup [.agg [iV 0,iV 0,iV 0,iV 0],.bool false]) results79 ⟨by simp[mkV,sqO,h1d,h2d],rfl⟩
  have wy:=aH.1 h2d
  refine ae G26 ?_
  refine cvr G26 (jz _ x y (by omega) (by omega)) ?_
  exact eP hQ hbel (.tup [.agg [iV (x*64),iV (y*64),iV (x*64+64),iV (y*64+64)],.bool true]) results79 ⟨by simp[mkV,sqO,h1d,h2d],rfl⟩
 have h1d:=bsT h1
 have wx:¬(-16384<=x/\x<=16384):=mt aH.2 (by rw[h1d];decide)
 have G27:=jn h1 @h1d
 exact eR G27 hQ hbel (.tup [.agg [iV 0,iV 0,iV 0,iV 0],.bool false]) results79 ⟨by simp[mkV,sqO,h1d],rfl⟩
theorem nL (H:aa)(x y:Int)(h:sqO x y=true):zC 79 [.agg [iV x,iV y]] H (.tup [.agg [iV (x*64),iV (y*64),iV (x*64+64),iV (y*64+64)],.bool true]) H:=by
 have q:=psqr_c H x y
 simp only[h,mkV,if_true] at q;exact q
theorem psqr_f (H:aa)(x y:Int)(h:sqO x y=false):zC 79 [.agg [iV x,iV y]] H (.tup [.agg [iV 0,iV 0,iV 0,iV 0],.bool false]) H:=by
 have q:=psqr_c H x y
 simp only[h,mkV,if_false,Bool.false_eq_true] at q;exact q
theorem fdiv64 (a:Int):a.fdiv (2 ^ min 6 IntKind.i64.bits)=a/64:=by
 show a.fdiv 64=_
 exact Int.fdiv_eq_ediv_of_nonneg a (by decide)
theorem bcount0_c (H:aa)(s s2:AV)(xs:List Int)(hs:zI H s xs)(h2:Sl H 1 s2 1 [.int .u8 0])(hnz:∀v∈xs,1<=v/\v<=2)(hx0:0<xs.length):zC 125 [s,s2] H (iV 0) H:=fun E w vs hE hv=>by
 obtain⟨b,own,cap,rfl,hb⟩:=hs
 obtain⟨b2,own2,cap2,rfl,hb2⟩:=h2
 obtain⟨v1,r1,rfl,k1,hv1⟩:=fC hv
 obtain⟨v2,r2,rfl,k2,hv2⟩:=fC hv1
 obtain rfl:=kl hv2
 obtain⟨h0,-⟩|⟨a,c,rfl,h0|⟨rfl,hc⟩⟩:=lZ hE hb rfl k1
 ·omega
 ·omega
 obtain⟨h0,-⟩|⟨a2,c2,rfl,h0|⟨rfl,hc2⟩⟩:=lZ (xs:=[0]) hE hb2 rfl k2
 ·exact absurd h0 (by decide)
 ·exact absurd h0 (by decide)
 refine(Tryz.bytes_Count_one _ _ _ _ _ _ _ xs 0 w rfl (fun i hi=>by first|(simp;done)|simpa using hc i hi) (by simpa using hc2 0 (by decide))).mono fun e w' ⟨he,hw⟩=>?_
 subst hw
 have hz:Lib.countByte (Lib.bytesOf xs) (0:Int).toNat.toUInt8=0:=cnt_0 hnz
 rw[hz] at he
 exact⟨E,_,H,_,he,⟨rfl,rfl⟩,.refl E,.int _ _,hE⟩
theorem bindex0_c (H:aa)(s:AV)(xs:List Int)(hs:zI H s xs)(hnz:∀v∈xs,1<=v/\v<=2):zC 76 [s,.int .u8 0] H (iV (-1)) H:=fun E w vs hE hv=>by
 obtain⟨b,own,cap,rfl,hb⟩:=hs
 obtain⟨v1,r1,rfl,k1,hv1⟩:=fC hv
 obtain⟨v2,r2,rfl,k2,hv2⟩:=fC hv1
 obtain rfl:=kl hv2
 obtain rfl:=jK k2
 obtain⟨h0,rfl⟩|⟨a,c,rfl,h⟩:=lZ hE hb rfl k1
 ·refine(Tryz.bytes_IndexByte_nil 0 w).mono fun e w' ⟨he,hw⟩=>?_
  subst hw
  exact⟨E,_,H,_,he,⟨rfl,rfl⟩,.refl E,.int _ _,hE⟩
 have hc:∀i,i<xs.length->w.cell? (a.add i)=some (.int .u8 (xs.getD i 0)):=fun i hi=>by
  rcases h with h0|⟨rfl,hc⟩
  ·omega
  rw[dm];exact hc i hi
 refine(Tryz.bytes_IndexByte_at a _ c xs 0 w rfl hc).mono fun e w' ⟨he,hw⟩=>?_
 subst hw
 have hz:Lib.indexByte (Lib.bytesOf xs) (0:Int).toNat.toUInt8 = -1:=idx_0 hnz
 rw[hz] at he
 exact⟨E,_,H,_,he,⟨rfl,rfl⟩,.refl E,.int _ _,hE⟩
def gy (W Hh x y:Int):Bool:=decide (0<=x)&&(decide (0<=y)&&(decide (x<=W*64)&&decide (y<=Hh*64)))
theorem pK (H:aa)(W Hh:Int)(pp:AV)(xs:List Int)(hpp:zI H pp xs)(hBl:ey W Hh xs=true)(hnz:∀v∈xs,1<=v/\v<=2):zC 85 [.agg [iV W,iV Hh,pp],.int .u8 0] H (iV 0) H:=by
 obtain⟨bpp,opp,cpp,rfl,hbpp,hblpp,hb0pp⟩:=zA1 hpp
 have hV:bC W Hh xs=true:=by have hh:=hBl;unfold ey at hh;rw[Bool.and_eq_true] at hh;exact hh.1
 have hVV:=bh.1 hV
 have hw0:=hVV.w0
 have hw1:=hVV.w1
 have hh0:=hVV.h0
 have hh1:=hVV.h1
 have hx0:0<xs.length:=by have:=(hVV.idx (show inB W Hh 0 0=true from cC.2 (by omega))).2.2.2.2.1;omega
 refine AcT true func85 ?_;intro hbel Q hQ
 have G1:=jn @hbpp (jn @hb0pp @hV)
 refine ae G1 ?_
 refine cvr G1 (d3 _ W Hh _ xs (.inr (zA2 hb0pp hbpp))) ?_
 refine cvr G1 (bcount0_c _ _ _ xs (zA2 hb0pp hbpp) ⟨_,_,_,rfl,by first|(rw[bO];rfl)|(rw[dp];rfl)⟩ hnz hx0) ?_
 exact eP hQ hbel (iV 0) results85 ⟨rfl,rfl⟩
theorem fcheck0_c (H:aa)(W Hh:Int)(pp:AV)(xs:List Int)(hpp:zI H pp xs)(hBl:ey W Hh xs=true)(hnz:∀v∈xs,1<=v/\v<=2):zC 39 [.agg [iV W,iV Hh,pp]] H (iV 0) H:=by
 obtain⟨bpp,opp,cpp,rfl,hbpp,hblpp,hb0pp⟩:=zA1 hpp
 have hV:bC W Hh xs=true:=by have hh:=hBl;unfold ey at hh;rw[Bool.and_eq_true] at hh;exact hh.1
 have hVV:=bh.1 hV
 have hw0:=hVV.w0
 have hw1:=hVV.w1
 have hh0:=hVV.h0
 have hh1:=hVV.h1
 have hx0:0<xs.length:=by have:=(hVV.idx (show inB W Hh 0 0=true from cC.2 (by omega))).2.2.2.2.1;omega
 refine AcT true func39 ?_;intro hbel Q hQ
 have G2:=jn @hbpp (jn @hb0pp @hV)
 refine ae G2 ?_
 refine cvr G2 (d3 _ W Hh _ xs (.inr (zA2 hb0pp hbpp))) ?_
 refine cvr G2 (bindex0_c _ _ xs (zA2 hb0pp hbpp) hnz) ?_
 exact eP hQ hbel (iV 0) results39 ⟨rfl,rfl⟩
theorem l5 (H:aa)(n:Int)(hn : -16777216<=n/\n<=16777216):zC 78 [iV n] H (iV (n/64)) H:=by
 refine AcT true func78 ?_;intro hbel Q hQ
 have G3:=@fdiv64
 exact eS G3 hQ hbel (iV (n/64)) results78 ⟨rfl,rfl⟩
theorem fvalue_c (H:aa)(W Hh:Int)(pp:AV)(xs:List Int)(x y:Int)(hpp:zI H pp xs)(hV:bC W Hh xs=true):zC 80 [.agg [iV W,iV Hh,pp],.agg [iV x,iV y]] H (.int .u8 (atI W Hh xs x y)) H:=by
 obtain⟨bpp,opp,cpp,rfl,hbpp,hblpp,hb0pp⟩:=zA1 hpp
 have hVV:=bh.1 hV
 have hx6:xs.length<=1000000:=by have h4:=hVV.len;have:=Int.mul_le_mul hVV.w1 hVV.h1 (by have:=hVV.h0;omega) (by decide);omega
 refine AcT true func80 ?_;intro hbel Q hQ
 have G4:=jn @hbpp @hb0pp
 refine rgs G4 (fun h1 h1d G5=>?_) (fun h1 h1d G12=>?_)
 ·refine rgs G5 (fun h2 h2d G6=>?_) (fun h2 h2d G11=>?_)
  ·refine rgs G6 (fun h3 h3d G7=>?_) (fun h3 h3d G10=>?_)
   ·refine rcs G7 (fun h4 h4d G8=>?_) (fun h4 h4d _=>?_)
    ·have hfinA:atI W Hh xs x y=2:=if_neg (by rw[Bool.not_eq_true,d7];omega)
     exact eR G8 hQ hbel (.int .u8 2) results80 ⟨by rw[hfinA],rfl⟩
    have hin:inB W Hh x y=true:=cC.2 (by omega)
    obtain⟨j1,j2,j3,j4,j5,-⟩:=hVV.idx hin
    have hfinA:atI W Hh xs x y=gi xs ((y*W)+x).toNat:=if_pos hin
    have q5:=cS (k:=.u8) (xs:=xs) (j:=((y*W)+x).toNat) (by omega)
    have G9:=jn h4 (jn h4d (jn q5 G7))
    exact eR G9 hQ hbel (.int .u8 (gi xs (((y*W)+x).toNat))) results80 ⟨by rw[hfinA],rfl⟩
   have hfinA:atI W Hh xs x y=2:=if_neg (by rw[Bool.not_eq_true,d7];omega)
   exact eR G10 hQ hbel (.int .u8 2) results80 ⟨by rw[hfinA],rfl⟩
  have hfinA:atI W Hh xs x y=2:=if_neg (by rw[Bool.not_eq_true,d7];omega)
  exact eR G11 hQ hbel (.int .u8 2) results80 ⟨by rw[hfinA],rfl⟩
 have hfinA:atI W Hh xs x y=2:=if_neg (by rw[Bool.not_eq_true,d7];omega)
 exact eR G12 hQ hbel (.int .u8 2) results80 ⟨by rw[hfinA],rfl⟩
theorem finside_c (H:aa)(W Hh:Int)(pp:AV)(xs:List Int)(x y:Int)(hpp:zI H pp xs)(hV:bC W Hh xs=true):zC 82 [.agg [iV W,iV Hh,pp],.agg [iV x,iV y]] H (.bool (gy W Hh x y)) H:=by
 obtain⟨bpp,opp,cpp,rfl,hbpp,hblpp,hb0pp⟩:=zA1 hpp
 have hVV:=bh.1 hV
 have hw1:=hVV.w1
 have hw0:=hVV.w0
 have hh1:=hVV.h1
 have hh0:=hVV.h0
 refine AcT true func82 ?_;intro hbel Q hQ
 have G13:=jn @hbpp @hb0pp
 refine rgs G13 (fun h1 h1d G14=>?_) (fun h1 h1d G19=>?_)
 ·refine rgs G14 (fun h2 h2d G15=>?_) (fun h2 h2d G18=>?_)
  ·refine rgs G15 (fun h3 h3d G16=>?_) (fun h3 h3d G17=>?_)
   ·exact eR G16 hQ hbel (.bool (decide (y<=(Hh*64)))) results82 ⟨by first|(simp[gy,h1d,h2d,h3d];done)|(simp[gy,h1d,h2d,h3d];omega),rfl⟩
   exact eR G17 hQ hbel (.bool false) results82 ⟨by first|(simp[gy,h1d,h2d,h3d];done)|(simp[gy,h1d,h2d,h3d];omega),rfl⟩
  exact eR G18 hQ hbel (.bool false) results82 ⟨by first|(simp[gy,h1d,h2d];done)|(simp[gy,h1d,h2d];omega),rfl⟩
 exact eR G19 hQ hbel (.bool false) results82 ⟨by first|(simp[gy,h1d];done)|(simp[gy,h1d];omega),rfl⟩
theorem pof_c (H:aa)(x y:Int)(hp:ptB x y=true):zC 77 [.agg [iV x,iV y]] H (.tup [.agg [iV (x/64),iV (y/64)],.bool true]) H:=by
 have hpp:=hp
 simp only[ptB,Bool.and_eq_true,aH] at hpp
 refine AcT true func77 ?_;intro hbel Q hQ
 have G20:=@hp
 refine ae G20 ?_
 refine cvr G20 (nE _ x y) ?_
 refine cdr G20 (iT _ x _ (by omega) (by omega)) ?_
 refine cdr G20 (iT _ y _ (by omega) (by omega)) ?_
 exact eP hQ hbel (.tup [.agg [iV (x/64),iV (y/64)],.bool true]) results77 ⟨rfl,rfl⟩
def bwX (a b:Int) (m:Nat):Int:=((mnI a b-20)/64-1)+(m:Int)
def bwN (a b:Int):Nat:=((mxI a b+20)/64-(mnI a b-20)/64+2).toNat
def bwC (W Hh:Int) (xs:List Int) (px py qx qy:Int) (n m:Nat):Bool:=(atI W Hh xs (bwX px qx m) (bwX py qy n)==2)&&ptO px py qx qy (bwX px qx m*64) (bwX py qy n*64) ((bwX px qx m+1)*64) ((bwX py qy n+1)*64)
def bwB (W Hh:Int) (xs:List Int) (px py qx qy:Int):Bool:=(List.range (bwN py qy)).any fun n=>(List.range (bwN px qx)).any fun m=>bwC W Hh xs px py qx qy n m
section
variable {W Hh:Int} {xs:List Int} {px py qx qy:Int} {n m:Nat}
theorem l6 (h:atI W Hh xs (bwX px qx m) (bwX py qy n)=2)(k:ptO px py qx qy (bwX px qx m*64) (bwX py qy n*64) ((bwX px qx m+1)*64) ((bwX py qy n+1)*64)=true):bwC W Hh xs px py qx qy n m=true:=by
 unfold bwC;rw[k,h];rfl
theorem bwC_p (k:ptO px py qx qy (bwX px qx m*64) (bwX py qy n*64) ((bwX px qx m+1)*64) ((bwX py qy n+1)*64)=false):bwC W Hh xs px py qx qy n m=false:=by
 unfold bwC;rw[k,Bool.and_false]
theorem bwC_f (h:¬atI W Hh xs (bwX px qx m) (bwX py qy n)=2):bwC W Hh xs px py qx qy n m=false:=by
 unfold bwC;rw[beq_eq_false_iff_ne.2 h];rfl
theorem bw_y (hn:n<bwN py qy)(hm:m<bwN px qx)(h:bwC W Hh xs px py qx qy n m=true):bwB W Hh xs px py qx qy=true :=
 List.any_eq_true.2 ⟨n,List.mem_range.2 hn,List.any_eq_true.2 ⟨m,List.mem_range.2 hm,h⟩⟩
theorem bw_n (h:∀n:Nat,n<bwN py qy->∀m:Nat,m<bwN px qx->bwC W Hh xs px py qx qy n m=false):bwB W Hh xs px py qx qy=false:=by
 unfold bwB
 rw[List.any_eq_false]
 intro n hn
 rw[Bool.not_eq_true,List.any_eq_false]
 intro m hm
 rw[h n (List.mem_range.1 hn) m (List.mem_range.1 hm)];decide
end
def sbB (W Hh:Int) (xs:List Int) (ax ay ah t f eT eL eX eY:Int):Bool:=decide (nxE ax ay ah t f eT eL eX eY=0)&&(decide (0<f)&&bwB W Hh xs ax ay (nxX ax ay ah t f eT eL eX eY) (nxY ax ay ah t f eT eL eX eY))
def sgX (W Hh:Int) (xs:List Int) (ax ay ah t f eT eL eX eY:Int):Int:=if sbB W Hh xs ax ay ah t f eT eL eX eY=true then ax else nxX ax ay ah t f eT eL eX eY
def sgY (W Hh:Int) (xs:List Int) (ax ay ah t f eT eL eX eY:Int):Int:=if sbB W Hh xs ax ay ah t f eT eL eX eY=true then ay else nxY ax ay ah t f eT eL eX eY
theorem dblkg_c (H:aa)(W Hh:Int)(pp:AV)(xs:List Int)(px py qx qy:Int)(hpp:zI H pp xs)(hBl:ey W Hh xs=true)(hnz:∀v∈xs,1<=v/\v<=2)(hp:ptB px py=true)(hq:ptB qx qy=true)(hdx : -1024<=qx-px/\qx-px<=1024)(hdy : -1024<=qy-py/\qy-py<=1024):zC 87 [.agg [iV W,iV Hh,pp],.agg [iV px,iV py],.agg [iV qx,iV qy]] H (.bool (bwB W Hh xs px py qx qy)) H:=by
 obtain⟨bpp,opp,cpp,rfl,hbpp,hblpp,hb0pp⟩:=zA1 hpp
 have hV:bC W Hh xs=true:=by have hh:=hBl;unfold ey at hh;rw[Bool.and_eq_true] at hh;exact hh.1
 have hVV:=bh.1 hV
 have hW0:=hVV.w0
 have hW1:=hVV.w1
 have hh0:=hVV.h0
 have hh1:=hVV.h1
 have hx0:0<xs.length:=by have:=(hVV.idx (show inB W Hh 0 0=true from cC.2 (by omega))).2.2.2.2.1;omega
 have hw1:=aH.2 hdx
 have hw2:=aH.2 hdy
 have hpi:=hp
 have hqi:=hq
 simp only[ptB,Bool.and_eq_true,aH] at hpi hqi
 have hmn:∀a b:Int,(if b<a then b else a)=mnI a b:=fun _ _=>rfl
 have hmx:∀a b:Int,(if a<b then b else a)=mxI a b:=fun _ _=>rfl
 have hx1 : -1048576<=mnI px qx/\mnI px qx<=1048576/\mnI px qx<=mxI px qx/\mxI px qx<=1048576:=by unfold mnI mxI;split<;>split<;>omega
 have hy1 : -1048576<=mnI py qy/\mnI py qy<=1048576/\mnI py qy<=mxI py qy/\mxI py qy<=1048576:=by unfold mnI mxI;split<;>split<;>omega
 have hlp:lnP px py=true:=cE.2 (by omega)
 have hlq:lnP qx qy=true:=cE.2 (by omega)
 refine AcT true func87 ?_;intro hbel Q hQ
 have G1:=jn @hbpp (jn @hb0pp (jn @hV (jn @hp (jn @hq (jn @hw1 (jn @hw2 (jn @hmn @hmx)))))))
 refine ae G1 ?_
 refine cvr G1 (d3 _ W Hh _ xs (.inr (zA2 hb0pp hbpp))) ?_
 refine cvr G1 (pK _ W _ _ xs (zA2 hb0pp hbpp) hBl hnz) ?_
 refine cvr G1 (nJ _ _ _) ?_
 refine cvr G1 (nJ _ _ _) ?_
 refine cvr G1 (d9 _ (qx-px) 1024 (by decide)) ?_
 refine cvr G1 (d9 _ (qy-py) 1024 (by decide)) ?_
 refine cdr G1 (iY _ _ _ (by omega) (by omega)) ?_
 refine cdr G1 (iY _ _ _ (by omega) (by omega)) ?_
 refine cdr G1 (iY _ _ _ (by omega) (by omega)) ?_
 refine cdr G1 (iY _ _ _ (by omega) (by omega)) ?_
 refine glp (fun k F Hx=>∃n:Nat,n+k=((mxI py qy+20)/64-(mnI py qy-20)/64+2).toNat/\(∀a:Nat,a<n->∀b:Nat,b<bwN px qx->bwC W Hh xs px py qx qy a b=false)/\F=[(3,.ptr (some (H.length,0))),(4,.ptr (some (H.length+1,0))),(5,.ptr (some (H.length+2,0))),(7,iV ((((mnI px qx)-20)/64)-1)),(8,iV (((mxI px qx)+20)/64)),(10,iV (((mxI py qy)+20)/64)),(11,iV (((((mnI py qy)-20)/64)-1)+(n:Int)))]/\Hx=H++[.cells true 0 [iV W,iV Hh,.sl (some (bpp,0)) xs.length cpp],.cells true 0 [iV px,iV py],.cells true 0 [iV qx,iV qy]]) (((mxI py qy+20)/64-(mnI py qy-20)/64+2).toNat) ?_ ?_
 ·refine⟨_,_,_,⟨0,by omega,fun a h=>by omega,rfl,rfl⟩,bS hbel [0,1,2] (aN (jn @Int.natCast_zero @Int.add_zero))⟩
 rintro k0 F Hx ⟨n,hm0,hon,rfl,rfl⟩ J0 hJ0
 refine rcs G1 (fun h1 h1d G2=>?_) (fun h1 h1d G25=>?_)
 ·have hnt:n<bwN py qy:=by unfold bwN;omega
  refine ae G2 ?_
  refine glp (fun k F Hx=>∃m:Nat,m+k=((mxI px qx+20)/64-(mnI px qx-20)/64+2).toNat/\(∀b:Nat,b<m->bwC W Hh xs px py qx qy n b=false)/\F=[(3,.ptr (some (H.length,0))),(4,.ptr (some (H.length+1,0))),(5,.ptr (some (H.length+2,0))),(7,iV ((((mnI px qx)-20)/64)-1)),(8,iV (((mxI px qx)+20)/64)),(10,iV (((mxI py qy)+20)/64)),(11,iV (((((mnI py qy)-20)/64)-1)+(n:Int))),(12,iV (((((mnI px qx)-20)/64)-1)+(m:Int)))]/\Hx=H++[.cells true 0 [iV W,iV Hh,.sl (some (bpp,0)) xs.length cpp],.cells true 0 [iV px,iV py],.cells true 0 [iV qx,iV qy]]) (((mxI px qx+20)/64-(mnI px qx-20)/64+2).toNat) ?_ ?_
  ·refine⟨_,_,_,⟨0,by omega,fun b h=>by omega,rfl,rfl⟩,bS hbel [0,1,2] (aN (jn @Int.natCast_zero @Int.add_zero))⟩
  rintro k1 F Hx ⟨m,hm1,him,rfl,rfl⟩ J1 hJ1
  refine rcs G2 (fun h2 h2d G3=>?_) (fun h2 h2d G24=>?_)
  ·have hmt:m<bwN px qx:=by unfold bwN;omega
   refine rgs G3 (fun h3 h3d G4=>?_) (fun h3 h3d G21=>?_)
   ·refine rgs G4 (fun h4 h4d G5=>?_) (fun h4 h4d G18=>?_)
    ·refine rgs G5 (fun h5 h5d G6=>?_) (fun h5 h5d G15=>?_)
     ·refine rgs G6 (fun h6 h6d _=>?_) (fun h6 h6d G12=>?_)
      ·have hin:inB W Hh (((((mnI px qx)-20)/64)-1)+(m:Int)) (((((mnI py qy)-20)/64)-1)+(n:Int))=true:=cC.2 (by omega)
       obtain⟨j1,j2,j3,j4,j5,-⟩:=hVV.idx hin
       have q7:=cS (k:=.u8) (xs:=xs) (j:=(((((((mnI py qy)-20)/64)-1)+(n:Int))*W)+(((((mnI px qx)-20)/64)-1)+(m:Int))).toNat) (by omega)
       have G7:=jn h6 (jn h6d (jn q7 G6))
       refine rcs G7 (fun h8 h8d _=>?_) (fun h8 h8d _=>?_)
       ·have h8n:=bnT h8
        have hbc:bwC W Hh xs px py qx qy n m=false:=bwC_f (fun k=>absurd ((if_pos hin).symm.trans k) (by first|exact h8d|simpa using h8d))
        have G8:=jn h8 (jn h8n (jn @aP (jn @aO G7)))
        refine ae G8 ?_
        refine hJ1 _ _ ⟨k1-1,by omega,_,_,_,⟨m+1,by omega,fun b hb=>by
              rcases Nat.lt_or_ge b m with z|z
              ·exact him b z
              rw[show b=m by omega];exact hbc,rfl,rfl⟩,bS hbel [0,1,2] (aN (jn @Int.natCast_add (jn @Int.natCast_one @Int.add_assoc)))⟩
       have h8n:=bnT h8
       have hat2:atI W Hh xs (((((mnI px qx)-20)/64)-1)+(m:Int)) (((((mnI py qy)-20)/64)-1)+(n:Int))=2:=(if_pos hin).trans (by first|exact h8d|simpa using h8d)
       have G9:=jn h8 (jn h8n (jn @aP (jn @aO G7)))
       refine ae G9 ?_
       have hlr:lnR ((((((mnI px qx)-20)/64)-1)+(m:Int))*64) ((((((mnI py qy)-20)/64)-1)+(n:Int))*64) (((((((mnI px qx)-20)/64)-1)+(m:Int))+1)*64) (((((((mnI py qy)-20)/64)-1)+(n:Int))+1)*64)=true:=bA.2 (by omega)
       refine cv (jT _ _ _ _ _ _ _ _ _ (by assumption) (by assumption) (by assumption) (by omega) (by omega)) ?_
       refine rcs G9 (fun h9 h9d G10=>?_) (fun h9 h9d G11=>?_)
       ·have hfinB:bwB W Hh xs px py qx qy=true:=bw_y (n:=n) (m:=m) hnt hmt (l6 hat2 h9d)
        exact eR G10 hQ hbel (.bool true) results87 ⟨by first|(rw[hfinB];done)|(rw[hfinB];rfl),rfl⟩
       have hbc:bwC W Hh xs px py qx qy n m=false:=bwC_p h9d
       refine ae G11 ?_
       refine hJ1 _ _ ⟨k1-1,by omega,_,_,_,⟨m+1,by omega,fun b hb=>by
             rcases Nat.lt_or_ge b m with z|z
             ·exact him b z
             rw[show b=m by omega];exact hbc,rfl,rfl⟩,bS hbel [0,1,2] (aN (jn @Int.natCast_add (jn @Int.natCast_one @Int.add_assoc)))⟩
      have hat2:atI W Hh xs (((((mnI px qx)-20)/64)-1)+(m:Int)) (((((mnI py qy)-20)/64)-1)+(n:Int))=2:=if_neg (by rw[Bool.not_eq_true,d7];omega)
      refine ae G12 ?_
      have hlr:lnR ((((((mnI px qx)-20)/64)-1)+(m:Int))*64) ((((((mnI py qy)-20)/64)-1)+(n:Int))*64) (((((((mnI px qx)-20)/64)-1)+(m:Int))+1)*64) (((((((mnI py qy)-20)/64)-1)+(n:Int))+1)*64)=true:=bA.2 (by omega)
      refine cv (jT _ _ _ _ _ _ _ _ _ (by assumption) (by assumption) (by assumption) (by omega) (by omega)) ?_
      refine rcs G12 (fun h10 h10d G13=>?_) (fun h10 h10d G14=>?_)
      ·have hfinB:bwB W Hh xs px py qx qy=true:=bw_y (n:=n) (m:=m) hnt hmt (l6 hat2 h10d)
       exact eR G13 hQ hbel (.bool true) results87 ⟨by first|(rw[hfinB];done)|(rw[hfinB];rfl),rfl⟩
      have hbc:bwC W Hh xs px py qx qy n m=false:=bwC_p h10d
      refine ae G14 ?_
      refine hJ1 _ _ ⟨k1-1,by omega,_,_,_,⟨m+1,by omega,fun b hb=>by
            rcases Nat.lt_or_ge b m with z|z
            ·exact him b z
            rw[show b=m by omega];exact hbc,rfl,rfl⟩,bS hbel [0,1,2] (aN (jn @Int.natCast_add (jn @Int.natCast_one @Int.add_assoc)))⟩
     have hat2:atI W Hh xs (((((mnI px qx)-20)/64)-1)+(m:Int)) (((((mnI py qy)-20)/64)-1)+(n:Int))=2:=if_neg (by rw[Bool.not_eq_true,d7];omega)
     refine ae G15 ?_
     have hlr:lnR ((((((mnI px qx)-20)/64)-1)+(m:Int))*64) ((((((mnI py qy)-20)/64)-1)+(n:Int))*64) (((((((mnI px qx)-20)/64)-1)+(m:Int))+1)*64) (((((((mnI py qy)-20)/64)-1)+(n:Int))+1)*64)=true:=bA.2 (by omega)
     refine cv (jT _ _ _ _ _ _ _ _ _ (by assumption) (by assumption) (by assumption) (by omega) (by omega)) ?_
     refine rcs G15 (fun h11 h11d G16=>?_) (fun h11 h11d G17=>?_)
     ·have hfinB:bwB W Hh xs px py qx qy=true:=bw_y (n:=n) (m:=m) hnt hmt (l6 hat2 h11d)
      exact eR G16 hQ hbel (.bool true) results87 ⟨by first|(rw[hfinB];done)|(rw[hfinB];rfl),rfl⟩
     have hbc:bwC W Hh xs px py qx qy n m=false:=bwC_p h11d
     refine ae G17 ?_
     refine hJ1 _ _ ⟨k1-1,by omega,_,_,_,⟨m+1,by omega,fun b hb=>by
           rcases Nat.lt_or_ge b m with z|z
           ·exact him b z
           rw[show b=m by omega];exact hbc,rfl,rfl⟩,bS hbel [0,1,2] (aN (jn @Int.natCast_add (jn @Int.natCast_one @Int.add_assoc)))⟩
    have hat2:atI W Hh xs (((((mnI px qx)-20)/64)-1)+(m:Int)) (((((mnI py qy)-20)/64)-1)+(n:Int))=2:=if_neg (by rw[Bool.not_eq_true,d7];omega)
    refine ae G18 ?_
    have hlr:lnR ((((((mnI px qx)-20)/64)-1)+(m:Int))*64) ((((((mnI py qy)-20)/64)-1)+(n:Int))*64) (((((((mnI px qx)-20)/64)-1)+(m:Int))+1)*64) (((((((mnI py qy)-20)/64)-1)+(n:Int))+1)*64)=true:=bA.2 (by omega)
    refine cv (jT _ _ _ _ _ _ _ _ _ (by assumption) (by assumption) (by assumption) (by omega) (by omega)) ?_
    refine rcs G18 (fun h12 h12d G19=>?_) (fun h12 h12d G20=>?_)
    ·have hfinB:bwB W Hh xs px py qx qy=true:=bw_y (n:=n) (m:=m) hnt hmt (l6 hat2 h12d)
     exact eR G19 hQ hbel (.bool true) results87 ⟨by first|(rw[hfinB];done)|(rw[hfinB];rfl),rfl⟩
    have hbc:bwC W Hh xs px py qx qy n m=false:=bwC_p h12d
    refine ae G20 ?_
    refine hJ1 _ _ ⟨k1-1,by omega,_,_,_,⟨m+1,by omega,fun b hb=>by
          rcases Nat.lt_or_ge b m with z|z
          ·exact him b z
          rw[show b=m by omega];exact hbc,rfl,rfl⟩,bS hbel [0,1,2] (aN (jn @Int.natCast_add (jn @Int.natCast_one @Int.add_assoc)))⟩
   have hat2:atI W Hh xs (((((mnI px qx)-20)/64)-1)+(m:Int)) (((((mnI py qy)-20)/64)-1)+(n:Int))=2:=if_neg (by rw[Bool.not_eq_true,d7];omega)
   refine ae G21 ?_
   have hlr:lnR ((((((mnI px qx)-20)/64)-1)+(m:Int))*64) ((((((mnI py qy)-20)/64)-1)+(n:Int))*64) (((((((mnI px qx)-20)/64)-1)+(m:Int))+1)*64) (((((((mnI py qy)-20)/64)-1)+(n:Int))+1)*64)=true:=bA.2 (by omega)
   refine cv (jT _ _ _ _ _ _ _ _ _ (by assumption) (by assumption) (by assumption) (by omega) (by omega)) ?_
   refine rcs G21 (fun h13 h13d G22=>?_) (fun h13 h13d G23=>?_)
   ·have hfinB:bwB W Hh xs px py qx qy=true:=bw_y (n:=n) (m:=m) hnt hmt (l6 hat2 h13d)
    exact eR G22 hQ hbel (.bool true) results87 ⟨by first|(rw[hfinB];done)|(rw[hfinB];rfl),rfl⟩
   have hbc:bwC W Hh xs px py qx qy n m=false:=bwC_p h13d
   refine ae G23 ?_
   refine hJ1 _ _ ⟨k1-1,by omega,_,_,_,⟨m+1,by omega,fun b hb=>by
         rcases Nat.lt_or_ge b m with z|z
         ·exact him b z
         rw[show b=m by omega];exact hbc,rfl,rfl⟩,bS hbel [0,1,2] (aN (jn @Int.natCast_add (jn @Int.natCast_one @Int.add_assoc)))⟩
  have hrow:∀b:Nat,b<bwN px qx->bwC W Hh xs px py qx qy n b=false:=fun b hb=>him b (by unfold bwN at hb;omega)
  refine ae G24 ?_
  refine hJ0 _ _ ⟨k0-1,by omega,_,_,_,⟨n+1,by omega,fun a ha b hb=>by
        rcases Nat.lt_or_ge a n with z|z
        ·exact hon a z b hb
        rw[show a=n by omega];exact hrow b hb,rfl,rfl⟩,bS hbel [0,1,2] (aN (jn @Int.natCast_add (jn @Int.natCast_one @Int.add_assoc)))⟩
 have hfinB:bwB W Hh xs px py qx qy=false:=bw_n (fun a ha b hb=>hon a (by unfold bwN at ha;omega) b hb)
 exact eR G25 hQ hbel (.bool false) results87 ⟨by first|(rw[hfinB];done)|(rw[hfinB];rfl),rfl⟩
theorem qT (H:aa)(W Hh:Int)(pp:AV)(xs:List Int)(ax ay ah t f eT eL eX eY:Int)(hpp:zI H pp xs)(hBl:ey W Hh xs=true)(hnz:∀v∈xs,1<=v/\v<=2)(hP:cR ax ay ah=true):zC 46 [.agg [iV W,iV Hh,pp],.agg [iV ax,iV ay,iV ah],.agg [iV t,iV f],.agg [iV eT,iV eL,iV eX,iV eY]] H (.tup [.agg [iV (sgX W Hh xs ax ay ah t f eT eL eX eY),iV (sgY W Hh xs ax ay ah t f eT eL eX eY),iV (nxH ax ay ah t f eT eL eX eY)],.bool (sbB W Hh xs ax ay ah t f eT eL eX eY),iV (nxE ax ay ah t f eT eL eX eY)]) H:=by
 obtain⟨bpp,opp,cpp,rfl,hbpp,hblpp,hb0pp⟩:=zA1 hpp
 have hV:bC W Hh xs=true:=by have hh:=hBl;unfold ey at hh;rw[Bool.and_eq_true] at hh;exact hh.1
 have hVV:=bh.1 hV
 have hw0:=hVV.w0
 have hw1:=hVV.w1
 have hh0:=hVV.h0
 have hh1:=hVV.h1
 have hx0:0<xs.length:=by have:=(hVV.idx (show inB W Hh 0 0=true from cC.2 (by omega))).2.2.2.2.1;omega
 refine AcT true func46 ?_;intro hbel Q hQ
 have G26:=jn @hbpp (jn @hb0pp @hV)
 refine ae G26 ?_
 refine cvr G26 (d3 _ W Hh _ xs (.inr (zA2 hb0pp hbpp))) ?_
 refine cvr G26 (pK _ W _ _ xs (zA2 hb0pp hbpp) hBl hnz) ?_
 refine cv (dnext_c _ _ _ _ t f _ _ _ _) ?_
 refine rcs G26 (fun h1 h1d _=>?_) (fun h1 h1d _=>?_)
 ·have h1n:=bnT h1
  have hne:¬nxE ax ay ah t f eT eL eX eY=0:=by first|exact h1d|simpa using h1d
  obtain⟨hfinA,hfinB,hfinC⟩:=il rfl hne
  have hfinS:sbB W Hh xs ax ay ah t f eT eL eX eY=false:=by unfold sbB;rw[decide_eq_false hne];rfl
  have G27:=jn h1 (jn h1n (jn @aP (jn @aO G26)))
  exact eR G27 hQ hbel (.tup [.agg [iV 0,iV 0,iV 0],.bool false,iV (nxE ax ay ah t f eT eL eX eY)]) results46 ⟨by first|(unfold sgX sgY;rw[hfinS,hfinA,hfinB,hfinC];rfl)|(unfold sgX sgY;rw[hfinS,hfinE];rfl),rfl⟩
 have h1n:=bnT h1
 have hne:nxE ax ay ah t f eT eL eX eY=0:=by first|exact h1d|simpa using h1d
 have hfinE:=hne
 have hpn:=cK.1 (nx_pose hne hP)
 have hpp:=cK.1 hP
 have hpp0:=hpp.1
 have hpn0:=hpn.1
 have hwd:=nx_dist hne
 have G28:=jn h1 (jn h1n (jn @aP (jn @aO G26)))
 refine rgs G28 (fun h2 h2d G29=>?_) (fun h2 h2d G32=>?_)
 ·have hf0:decide (0<f)=true:=decide_eq_true (by omega)
  refine ae G29 ?_
  refine cdr G29 (kA _ _ _ _) ?_
  refine cdr G29 (kA _ _ _ _) ?_
  refine cd (dblkg_c _ W _ _ xs _ _ _ _ (zA2 hb0pp hbpp) hBl hnz (by assumption) (by assumption) (by omega) (by omega)) ?_
  refine rcs G29 (fun h3 h3d G30=>?_) (fun h3 h3d G31=>?_)
  ·have hfinS:sbB W Hh xs ax ay ah t f eT eL eX eY=true:=by unfold sbB;rw[decide_eq_true hne,hf0,h3d];rfl
   exact eR G30 hQ hbel (.tup [.agg [iV ax,iV ay,iV (nxH ax ay ah t f eT eL eX eY)],.bool true,iV 0]) results46 ⟨by first|(unfold sgX sgY;rw[hfinS,hfinA,hfinB,hfinC];rfl)|(unfold sgX sgY;rw[hfinS,hfinE];rfl),rfl⟩
  have hfinS:sbB W Hh xs ax ay ah t f eT eL eX eY=false:=by unfold sbB;rw[h3d];simp
  exact eR G31 hQ hbel (.tup [.agg [iV (nxX ax ay ah t f eT eL eX eY),iV (nxY ax ay ah t f eT eL eX eY),iV (nxH ax ay ah t f eT eL eX eY)],.bool false,iV 0]) results46 ⟨by first|(unfold sgX sgY;rw[hfinS,hfinA,hfinB,hfinC];rfl)|(unfold sgX sgY;rw[hfinS,hfinE];rfl),rfl⟩
 have hfinS:sbB W Hh xs ax ay ah t f eT eL eX eY=false:=by unfold sbB;rw[show decide (0<f)=false from decide_eq_false (by omega)];simp
 exact eR G32 hQ hbel (.tup [.agg [iV (nxX ax ay ah t f eT eL eX eY),iV (nxY ax ay ah t f eT eL eX eY),iV (nxH ax ay ah t f eT eL eX eY)],.bool false,iV 0]) results46 ⟨by first|(unfold sgX sgY;rw[hfinS,hfinA,hfinB,hfinC];rfl)|(unfold sgX sgY;rw[hfinS,hfinE];rfl),rfl⟩
theorem lw_tdiv {n d:Int}(hn:0<=n)(hd:0<d):Int.tdiv n (Int.gcd n d:Int)=lwN n d/\Int.tdiv d (Int.gcd n d:Int)=lwD n d:=⟨Int.tdiv_eq_ediv_of_nonneg hn,Int.tdiv_eq_ediv_of_nonneg (by omega)⟩
def eE (Q:Int×Int->Bool) (D:Int×Int->Int×Int) (s:Option (Int×Int)) (c:Int×Int):Option (Int×Int) :=
 if Q c=true/\(∀b,s=some b->(D c).1*(D b).2<(D b).1*(D c).2) then some c else s
def fsF (Q:Int×Int->Bool) (D:Int×Int->Int×Int) (l:List (Int×Int)):Option (Int×Int):=l.foldl (eE Q D) none
theorem fs_law {Q:Int×Int->Bool}{D:Int×Int->Int×Int}(hD:∀c,0<(D c).2):∀(l:List (Int×Int)) (s:Option (Int×Int)),(∀b,s=some b->Q b=true) ->
  (l.foldl (eE Q D) s=none↔s=none/\∀c∈l,Q c=false) /\
  (∀b,l.foldl (eE Q D) s=some b->(s=some b\/b∈l)/\Q b=true/\(∀c,s=some c->(D b).1*(D c).2<=(D c).1*(D b).2)/\∀c∈l,Q c=true->(D b).1*(D c).2<=(D c).1*(D b).2)
 | [],s,hs=>⟨by simp,fun b h=>⟨.inl h,hs b h,fun c hc=>by
   have h:s=some b:=h
   rw[hc] at h;cases h;exact Int.le_refl _,fun c hc=>absurd hc (by simp)⟩⟩
 | c :: l,s,hs=>by
  rw[List.foldl_cons]
  have hs':∀b,eE Q D s c=some b->Q b=true:=fun b hb=>by
   unfold eE at hb
   split at hb
   ·rename_i h;cases hb;exact h.1
   exact hs b hb
  have ih:=fs_law hD l (eE Q D s c) hs'
  have tr:∀{x y z:Int×Int},(D x).1*(D y).2<=(D y).1*(D x).2->(D y).1*(D z).2<=(D z).1*(D y).2->(D x).1*(D z).2<=(D z).1*(D x).2:=fun {x y z} h1 h2=>fF (hD x) (hD y) (hD z) h1 h2
  by_cases hq:Q c=true/\(∀b,s=some b->(D c).1*(D b).2<(D b).1*(D c).2)
  ·have e:eE Q D s c=some c:=if_pos hq
   rw[e] at ih ⊢
   refine⟨⟨fun h=>absurd (ih.1.1 h).1 (by simp),fun h=>absurd (h.2 c (List.mem_cons_self ..)) (by rw[hq.1];decide)⟩,fun b hb=>?_⟩
   obtain⟨i1,i2,i3,i4⟩:=ih.2 b hb
   have hbc:=i3 c rfl
   refine⟨?_,i2,fun x hx=>tr hbc (Int.le_of_lt (hq.2 x hx)),fun x hx hQ=>?_⟩
   ·rcases i1 with i1|i1
    ·cases i1;exact .inr (List.mem_cons_self ..)
    exact .inr (List.mem_cons_of_mem _ i1)
   rcases List.mem_cons.1 hx with q|q
   ·rw[q];exact hbc
   exact i4 x q hQ
  have e:eE Q D s c=s:=if_neg hq
  rw[e] at ih ⊢
  have hc:Q c=true->∃b,s=some b/\(D b).1*(D c).2<=(D c).1*(D b).2:=fun hQ=>by
   cases hs0:s with
   |none=>exact absurd ⟨hQ,fun b hb=>by rw[hs0] at hb;cases hb⟩ hq
   | some b=>exact⟨b,rfl,by
     rcases Int.lt_or_le ((D c).1*(D b).2) ((D b).1*(D c).2) with h|h
     ·exact absurd ⟨hQ,fun b' hb'=>by rw[hs0] at hb';cases hb';exact h⟩ hq
     exact h⟩
  refine⟨⟨fun h=>?_,fun h=>ih.1.2 ⟨h.1,fun x hx=>h.2 x (List.mem_cons_of_mem _ hx)⟩⟩,fun b hb=>?_⟩
  ·obtain⟨h1,h2⟩:=ih.1.1 h
   refine⟨h1,fun x hx=>?_⟩
   rcases List.mem_cons.1 hx with q|q
   ·rw[q]
    cases hQ:Q c
    ·rfl
    obtain⟨b,hb,-⟩:=hc hQ
    rw[h1] at hb;cases hb
   exact h2 x q
  obtain⟨i1,i2,i3,i4⟩:=ih.2 b hb
  refine⟨i1.elim .inl fun k=>.inr (List.mem_cons_of_mem _ k),i2,i3,fun x hx hQ=>?_⟩
  rcases List.mem_cons.1 hx with q|q
  ·rw[q] at hQ ⊢
   obtain⟨b',hb',h⟩:=hc hQ
   exact tr (i3 b' hb') h
  exact i4 x q hQ
theorem fs_some {Q:Int×Int->Bool}{D:Int×Int->Int×Int}(hD:∀c,0<(D c).2){l:List (Int×Int)}{b:Int×Int}(h:fsF Q D l=some b):b∈l/\Q b=true/\∀c∈l,Q c=true->(D b).1*(D c).2<=(D c).1*(D b).2:=by
 obtain⟨i1,i2,-,i4⟩:=(fs_law hD l none (fun b hb=>by cases hb)).2 b h
 exact⟨i1.resolve_left (by simp),i2,i4⟩
theorem fs_none {Q:Int×Int->Bool}{D:Int×Int->Int×Int}(hD:∀c,0<(D c).2){l:List (Int×Int)}:fsF Q D l=none↔∀c∈l,Q c=false:=by
 have:=(fs_law (Q:=Q) hD l none (fun b hb=>by cases hb)).1
 exact this.trans ⟨fun h=>h.2,fun h=>⟨rfl,h⟩⟩
theorem read_bd {N D e rng z:Int}(hD:0<D)(hN:0<=N)(he:1-rng<=e/\e<=rng)(hz:(0<=N/D+e/\z=N/D+e)\/(N/D+e<0/\z=0)):(z-rng)*D<=N/\N<(z+rng)*D:=by
 have q1:N/D*D<=N:=Int.ediv_mul_le N (by omega)
 have q2:N<(N/D+1)*D:=Int.lt_ediv_add_one_mul_self N hD
 have q0:0<=N/D:=Int.ediv_nonneg hN (by omega)
 rcases hz with ⟨h,rfl⟩|⟨h,rfl⟩
 ·have a1:=Int.mul_le_mul_of_nonneg_right (show N/D+e-rng<=N/D by omega) (show 0<=D by omega)
  have a2:=Int.mul_le_mul_of_nonneg_right (show N/D+1<=N/D+e+rng by omega) (show 0<=D by omega)
  omega
 have a1:=Int.mul_le_mul_of_nonneg_right (show 0-rng<=0 by omega) (show 0<=D by omega)
 have a2:=Int.mul_le_mul_of_nonneg_right (show N/D+1<=0+rng by omega) (show 0<=D by omega)
 rw[Int.zero_mul] at a1
 omega
def oX (s:Option (Int×Int)):Int:=match s with|none=>0|some c=>c.1
def oY (s:Option (Int×Int)):Int:=match s with|none=>0|some c=>c.2
theorem fsStep_no {Q:Int×Int->Bool}{D:Int×Int->Int×Int}{s:Option (Int×Int)}{c:Int×Int}(h:Q c=false):eE Q D s c=s:=if_neg (by rw[h];simp)
theorem sa {Q:Int×Int->Bool}{D:Int×Int->Int×Int}{b c:Int×Int}(h:¬(D c).1*(D b).2<(D b).1*(D c).2):eE Q D (some b) c=some b:=if_neg fun k=>h (k.2 b rfl)
theorem sb {Q:Int×Int->Bool}{D:Int×Int->Int×Int}{c:Int×Int}(h:Q c=true):eE Q D none c=some c:=if_pos ⟨h,fun b hb=>by cases hb⟩
theorem rK {Q:Int×Int->Bool}{D:Int×Int->Int×Int}{b c:Int×Int}(h:Q c=true)(k:(D c).1*(D b).2<(D b).1*(D c).2):eE Q D (some b) c=some c:=if_pos ⟨h,fun b' hb=>by cases hb;exact k⟩
theorem sd {a b:Int×Int}(h:dd a b):¬dd b a:=by unfold dd at *;omega
theorem befP_irr {a:Int×Int}:¬dd a a:=by unfold dd;omega
theorem iM {a b c:Int×Int}(h:dd a b)(k:dd b c):dd a c:=by unfold dd at *;omega
theorem qU (a b:Int×Int):dd a b\/a=b\/dd b a:=by
 unfold dd
 rcases Int.lt_trichotomy a.2 b.2 with h|h|h
 ·exact .inl (.inl h)
 ·rcases Int.lt_trichotomy a.1 b.1 with k|k|k
  ·exact .inl (.inr ⟨h,k⟩)
  ·exact .inr (.inl (Prod.ext k h))
  exact .inr (.inr (.inr ⟨h.symm,k⟩))
 exact .inr (.inr (.inl h))
def bR:List (Int×Int)->List (Int×Int)
 |[]=>[]
 |[a]=>[a]
 |a::b::l=>if a=b then bR (b::l) else a::bR (b::l)
theorem fI:∀{l:List (Int×Int)}{x:Int×Int},x∈bR l↔x∈l
 |[],_=>Iff.rfl
 |[_],_=>Iff.rfl
 | a::b::l,x=>by
  unfold bR
  split
  ·rename_i h
   rw[fI (l:=b::l),List.mem_cons (l:=b::l)]
   exact⟨.inr,fun k=>k.elim (fun q=>by rw[q,h];exact List.mem_cons_self ..) id⟩
  rw[List.mem_cons,List.mem_cons (l:=b::l),fI (l:=b::l)]
def leC (a b:Int×Int):Prop:=a=b\/dd a b
theorem mr:∀{l:List (Int×Int)},l.Pairwise leC->(bR l).Pairwise dd
 |[],_=>.nil
 |[a],_=>by unfold bR;simp
 | a::b::l,h=>by
  rw[List.pairwise_cons] at h
  have r:=mr h.2
  unfold bR
  split
  ·exact r
  rename_i hab
  rw[List.pairwise_cons]
  refine⟨fun x hx=>?_,r⟩
  have hm:=fI.1 hx
  have hb:dd a b:=(h.1 b (List.mem_cons_self ..)).resolve_left hab
  rcases List.mem_cons.1 hm with q|q
  ·rw[q];exact hb
  rcases (List.pairwise_cons.1 h.2).1 x q with k|k
  ·rw[<-k];exact hb
  exact iM hb k
def gU (c:Int×Int):List (Int×Int)->List (Int×Int)
 |[]=>[c]
 |a::l=>if a.2<c.2\/(a.2=c.2/\a.1<c.1) then a::gU c l else if a=c then a::l else c::a::l
theorem mT {c x:Int×Int}:∀{l:List (Int×Int)},x∈gU c l↔x=c\/x∈l
 |[]=>by simp[gU]
 | a::l=>by
  unfold gU
  split
  ·rw[List.mem_cons,mT (l:=l),List.mem_cons]
   exact⟨fun k=>k.elim (.inr∘.inl) (fun k=>k.elim .inl (.inr∘.inr)),fun k=>k.elim (.inr∘.inl) (fun k=>k.elim .inl (.inr∘.inr))⟩
  split
  ·rename_i h
   exact⟨.inr,fun k=>k.elim (fun q=>by rw[q,<-h];exact List.mem_cons_self ..) id⟩
  rw[List.mem_cons]
theorem mu {c:Int×Int}:∀{l:List (Int×Int)},l.Pairwise dd->(gU c l).Pairwise dd
 |[],_=>by unfold gU;simp
 | a::l,h=>by
  rw[List.pairwise_cons] at h
  unfold gU
  split
  ·rename_i k
   rw[List.pairwise_cons]
   refine⟨fun x hx=>?_,mu h.2⟩
   rcases mT.1 hx with q|q
   ·rw[q];exact k
   exact h.1 x q
  rename_i k
  split
  ·exact List.pairwise_cons.2 h
  rename_i e
  have hc:dd c a:=((qU c a).resolve_right fun q=>q.elim (fun q=>e q.symm) (fun q=>k q))
  rw[List.pairwise_cons]
  refine⟨fun x hx=>?_,List.pairwise_cons.2 h⟩
  rcases List.mem_cons.1 hx with q|q
  ·rw[q];exact hc
  exact iM hc (h.1 x q)
theorem cpt_put {l s:List (Int×Int)}(hs:s.Pairwise leC)(hm:∀x,x∈s↔x∈l):bR s=l.foldl (fun o c=>gU c o) []:=by
 have g:∀(l o:List (Int×Int)),o.Pairwise dd->(l.foldl (fun o c=>gU c o) o).Pairwise dd/\∀x,x∈l.foldl (fun o c=>gU c o) o↔x∈l\/x∈o:=by
  intro l
  induction l with
  |nil=>exact fun o ho=>⟨ho,fun x=>by simp⟩
  | cons a l ih =>
   intro o ho
   have k:=ih (gU a o) (mu ho)
   refine⟨k.1,fun x=>?_⟩
   rw[List.foldl_cons,k.2 x,mT,List.mem_cons]
   exact⟨fun q=>q.elim (.inl∘.inr) (fun q=>q.elim (.inl∘.inl) .inr),fun q=>q.elim (fun q=>q.elim (.inr∘.inl) .inl) (.inr∘.inr)⟩
 have k:=g l [] .nil
 exact eq_sorted (mr hs) k.1 fun x=>by rw[fI,hm,k.2];simp
theorem qV:∀(m:List (Int×Int)) (y x:Int×Int),bR (m++[y]++[x])=bR (m++[y])++(if y=x then [] else [x])
 | [],y,x=>by
  show bR [y,x]=bR [y]++_
  unfold bR
  split
  ·rename_i h;subst h;simp[bR]
  rename_i h;simp[bR]
 | [a],y,x=>by
  show bR (a::y::[x])=bR (a::y::[])++_
  simp only[bR]
  by_cases h:a=y
  ·by_cases k:y=x
   ·simp[h,k]
   simp[h,k]
  by_cases k:y=x
  ·simp[h,k]
  simp[h,k]
 | a::b::m,y,x=>by
  show bR (a::b::(m++[y]++[x]))=bR (a::b::(m++[y]))++_
  have ih:=qV (b::m) y x
  simp only[List.cons_append] at ih
  rw[bR,bR,ih]
  by_cases h:a=b
  ·rw[if_pos h,if_pos h]
  rw[if_neg h,if_neg h,List.cons_append]
theorem mU {l:List (Int×Int)}{j:Nat}(h1:1<=j)(hj:j<l.length):bR (l.take (j+1))=bR (l.take j)++(if l[j-1]'(by omega)=l[j] then [] else [l[j]]):=by
 obtain⟨i,rfl⟩:∃i,j=i+1:=⟨j-1,by omega⟩
 have e1:=List.take_succ_eq_append_getElem hj
 have e2:=List.take_succ_eq_append_getElem (show i<l.length by omega)
 rw[e1,e2]
 exact qV _ _ _
theorem cpt_1 {l:List (Int×Int)}(h:l.length<2):bR l=l:=by
 match l,h with
 |[],_=>rfl
 |[_],_=>rfl
theorem oD (l:List (Int×Int)):(bR l).length<=l.length:=by
 match l with
 |[]=>exact Nat.le_refl _
 |[_]=>exact Nat.le_refl _
 | a::b::m =>
  have:=oD (b::m)
  rw[bR]
  split
  ·exact Nat.le_trans this (by simp)
  simp only[List.length_cons] at *;omega
theorem leC_anti {a b:Int×Int}(h:leC a b)(k:leC b a):a=b:=by
 unfold leC at *
 rcases h with h|h
 ·exact h
 rcases k with k|k
 ·exact k.symm
 exact absurd k (sd h)
theorem qW:∀{l m:List (Int×Int)},l.Perm m->l.Pairwise leC->m.Pairwise leC->l=m
 |[],m,h,_,_=>(List.Perm.nil_eq h)
 |a::l,[],h,_,_=>absurd h.symm.nil_eq (by simp)
 | a::l,b::m,h,h1,h2=>by
  rw[List.pairwise_cons] at h1 h2
  have hab:a=b:=by
   have ha:a∈b::m:=h.subset (List.mem_cons_self ..)
   have hb:b∈a::l:=h.symm.subset (List.mem_cons_self ..)
   rcases List.mem_cons.1 ha with e|e
   ·exact e
   rcases List.mem_cons.1 hb with e2|e2
   ·exact e2.symm
   exact leC_anti (h1.1 b e2) (h2.1 a e)
  subst hab
  rw[qW (List.Perm.cons_inv h) h1.2 h2.2]
theorem leC_tot (a b:Int×Int):leC a b\/leC b a:=by
 unfold leC
 rcases qU a b with h|h|h
 ·exact .inl (.inr h)
 ·exact .inl (.inl h)
 exact .inr (.inr h)
theorem leC_trans {a b c:Int×Int}(h:leC a b)(k:leC b c):leC a c:=by
 unfold leC at *
 rcases h with rfl|h
 ·exact k
 rcases k with rfl|k
 ·exact .inr h
 exact .inr (iM h k)
instance (a b:Int×Int):Decidable (dd a b):=by unfold dd;infer_instance
instance (a b:Int×Int):Decidable (leC a b):=by unfold leC;infer_instance
def dG (l:List (Int×Int)):List (Int×Int):=l.mergeSort fun a b=>decide (leC a b)
theorem fJ (l:List (Int×Int)):(dG l).Perm l:=List.mergeSort_perm _ _
theorem gV (l:List (Int×Int)):(dG l).length=l.length:=(fJ l).length_eq
theorem jE (l:List (Int×Int)):(dG l).Pairwise leC:=by
 have h:=List.pairwise_mergeSort (le:=fun a b=>decide (leC a b)) (fun a b c h k=>by simp only[decide_eq_true_eq] at *;exact leC_trans h k) (fun a b=>by simp only[Bool.or_eq_true,decide_eq_true_eq];exact leC_tot a b) l
 unfold dG
 refine h.imp fun {a b} k=>?_
 simpa using k
theorem mV:dG []=[]:=by simp[dG]
def prS (W Hh:Int) (l:List T6) (sc:List (Int×Int)) (g:Int):Nat->List (Int×Int)
 |0=>[]
 |i+1=>prS W Hh l sc g i++eC W Hh l (g1 sc i) (g2 sc i) g
def iy (W Hh:Int) (l:List T6) (sc:List (Int×Int)) (g:Int):List (Int×Int):=if fG l=true then prS W Hh l sc g sc.length else []
def aR (W Hh:Int) (l:List T6) (sc:List (Int×Int)) (g:Int):List (Int×Int):=bR (dG (iy W Hh l sc g))
theorem l7 (W Hh:Int)(l:List T6)(sc:List (Int×Int))(g:Int):∀i:Nat,(prS W Hh l sc g i).length<=7225*i
 |0=>by simp[prS]
 | i+1=>by
  have:=l7 W Hh l sc g i
  have:=qR W Hh l (g1 sc i) (g2 sc i) g
  simp only[prS,List.length_append];omega
theorem allL_nil {W Hh:Int}{l:List T6}{sc:List (Int×Int)}{g:Int}(h:fG l=false):aR W Hh l sc g=[]/\iy W Hh l sc g=[]:=by
 have e:iy W Hh l sc g=[]:=if_neg (by rw[h];decide)
 exact⟨by unfold aR;rw[e,mV];rfl,e⟩
def swS (l:List T9) (r g:Int):Nat->List (Int×Int)
 |0=>[]
 |i+1=>swS l r g i++cP (g91 l i) (g92 l i) (g93 l i) (g94 l i) (g97 l i) (g98 l i) (g99 l i) (if 0<r-g then r-g else 0) (r+g)
def gf (l:List T6) (m r g:Int):List (Int×Int):=if (decide (r = -1)||!fG l)=true then [] else swS (aq l m) r g (aq l m).length
def bG (l:List T6) (m r g:Int):List (Int×Int):=bR (dG (gf l m r g))
theorem l8 (l:List T9)(r g:Int):∀i:Nat,(swS l r g i).length<=7225*i
 |0=>by simp[swS]
 | i+1=>by
  have:=l8 l r g i
  have:=mR (g91 l i) (g92 l i) (g93 l i) (g94 l i) (g97 l i) (g98 l i) (g99 l i) (if 0<r-g then r-g else 0) (r+g)
  simp only[swS,List.length_append];omega
theorem qX {l:List T6}{m r g:Int}(h:r = -1\/fG l=false):bG l m r g=[]/\gf l m r g=[]:=by
 have e:gf l m r g=[]:=if_pos (by rcases h with h|h<;>simp[h])
 exact⟨by unfold bG;rw[e,mV];rfl,e⟩
theorem dirA_tau {l:List T6}(hS:bM l=true)(h:fG l=true)(m:Int):(aq l m).length<=32:=by
 unfold fG at h
 rw[Bool.and_eq_true,decide_eq_true_eq] at h
 have k:∀i:Nat,i<=l.length->((dirS l m i).length:Int)=sumC l i:=fun i=>by
  induction i with
  |zero=>intro _;rfl
  | succ i ih =>
   intro hi
   have:=ih (by omega)
   have q:=oA hS (show i<l.length by omega)
   simp only[dirS,sumC,List.length_append,kF];omega
 have:=k l.length (Nat.le_refl _)
 unfold aq;omega
def dZ (ks xs:List Int):Prop:=ks.length=xs.length/\∀i:Nat,gi ks i=0\/gi ks i=gi xs i
theorem qY {W H x y:Int}{ks xs:List Int}(h:dZ ks xs)(k:atI W H ks x y=1):atI W H xs x y=1:=by
 unfold atI at *
 split at k
 ·rename_i hi
  rw[if_pos hi]
  rcases h.2 (y*W+x).toNat with q|q<;>omega
 omega
theorem bel_vld {W H:Int}{ks xs:List Int}(h:dZ ks xs)(v:bC W H xs=true):bC W H ks=true:=by
 obtain⟨a,b,c,d,e,f⟩:=bh.1 v
 refine bh.2 ⟨a,b,c,d,by rw[h.1];exact e,fun v hv=>?_⟩
 obtain⟨j,hj,rfl⟩:=List.mem_iff_getElem.1 hv
 rw[<-fq hj]
 rcases h.2 j with q|q
 ·omega
 rw[q]
 have hj':j<xs.length:=by rw[<-h.1];exact hj
 rw[fq hj'];exact f _ (List.getElem_mem _)
theorem oE {xs:List Int}{i j:Nat}{v:Int}(h:i<xs.length):gi (xs.set i v) j=if i=j then v else gi xs j:=by
 by_cases e:i=j
 ·subst e;simp[gi,List.getD_eq_getElem?_getD,h]
 simp[gi,List.getD_eq_getElem?_getD,e]
def cidx (W:Int) (c:Int×Int):Nat:=(c.2*W+c.1).toNat
theorem oF {W H:Int}{xs:List Int}{c:Int×Int}(hl:(xs.length:Int)=W*H)(h:inB W H c.1 c.2=true):cidx W c<xs.length:=by
 obtain⟨h1,h2,h3,h4⟩:=cC.1 h
 have k:=Int.mul_le_mul_of_nonneg_right (show c.2+1<=H by omega) (show 0<=W by omega)
 have e:(c.2+1)*W=c.2*W+W:=by grind
 have e2:H*W=W*H:=Int.mul_comm _ _
 have k0:=Int.mul_nonneg h3 (show 0<=W by omega)
 unfold cidx;omega
def gW (W H:Int):List (Int×Int)->List Int->Option (List Int)
 |[],o=>some o
 |c::l,o=>if atI W H o c.1 c.2=2 then none else gW W H l (o.set (cidx W c) 1)
def fo (W H:Int):List (List (Int×Int))->List Int->Option (List Int)
 |[],o=>some o
 | s::l,o=>match s.filter fun c=>!(atI W H o c.1 c.2==1) with
  |[]=>none
  |[c]=>fo W H l (if inB W H c.1 c.2=true then o.set (cidx W c) 2 else o)
  |_=>fo W H l o
theorem set_le {o:List Int}{i:Nat}{v:Int}(h:∀x∈o,x<=2)(hv:v<=2):∀x∈o.set i v,x<=2:=fun x hx=>by
 rcases List.mem_or_eq_of_mem_set hx with k|k
 ·exact h x k
 rw[k];exact hv
theorem at_in {W H:Int}{xs:List Int}{c:Int×Int}(h:inB W H c.1 c.2=true):atI W H xs c.1 c.2=gi xs (cidx W c):=if_pos h
theorem pL {W H:Int}{t:List Int}(hl:(t.length:Int)=W*H):∀{l:List (Int×Int)}{o:List Int},(∀c∈l,inB W H c.1 c.2=true/\atI W H t c.1 c.2=1)->dZ o t->∃q,gW W H l o=some q/\dZ q t
 |[],o,_,hk=>⟨o,rfl,hk⟩
 | c::l,o,hc,hk=>by
  obtain⟨hin,ht⟩:=hc c (List.mem_cons_self ..)
  have hlt:=oF hl hin
  rw[at_in hin] at ht
  unfold gW
  rw[at_in hin,if_neg (by rcases hk.2 (cidx W c) with q|q<;>omega)]
  refine pL hl (fun c hc'=>hc c (List.mem_cons_of_mem _ hc')) ⟨by rw[List.length_set];exact hk.1,fun i=>?_⟩
  rw[oE (by rw[hk.1];exact hlt)]
  split
  ·rename_i e;subst e;exact .inr ht.symm
  exact hk.2 i
theorem pM {W H:Int}{t:List Int}(hl:(t.length:Int)=W*H):∀{l:List (List (Int×Int))}{o:List Int},(∀s∈l,∃c∈s,atI W H t c.1 c.2=2)->dZ o t->∃q,fo W H l o=some q/\dZ q t
 |[],o,_,hk=>⟨o,rfl,hk⟩
 | s :: l,o,hc,hk=>by
  obtain⟨w,hw,h2⟩:=hc s (List.mem_cons_self ..)
  have ih:=fun {o} hk=>pM hl (l:=l) (o:=o) (fun s hs=>hc s (List.mem_cons_of_mem _ hs)) hk
  have hm:w∈s.filter fun c=>!(atI W H o c.1 c.2==1):=List.mem_filter.2 ⟨hw,by
   have:¬atI W H o w.1 w.2=1:=fun k=>by have:=qY hk k;omega
   simpa using this⟩
  unfold fo
  split
  ·rename_i hs;rw[hs] at hm;cases hm
  ·rename_i c hs
   rw[hs,List.mem_singleton] at hm
   subst hm
   refine ih ?_
   split
   ·rename_i hin
    have hlt:=oF hl hin
    rw[at_in hin] at h2
    refine⟨by rw[List.length_set];exact hk.1,fun i=>?_⟩
    rw[oE (by rw[hk.1];exact hlt)]
    split
    ·rename_i e;subst e;exact .inr h2.symm
    exact hk.2 i
   exact hk
  exact ih hk
def iz (l:List T6) (sc:List (Int×Int)) (g:Int):List (List (Int×Int)):=(sc.filter fun e=>!(e.2 == -1)).map fun e=>bG l e.1 e.2 g
def lnO (W Hh:Int) (xs:List Int) (l:List T6) (sc:List (Int×Int)) (g:Int):Option (List Int):=if fG l=true then (gW W Hh (aR W Hh l sc g) xs).bind (fo W Hh (iz l sc g)) else some xs
def lnE (W Hh:Int) (xs:List Int) (l:List T6) (sc:List (Int×Int)) (g:Int):Int:=if eo W Hh xs l sc g=true then (match lnO W Hh xs l sc g with|none=>11|some _=>0) else 1
def lnX (W Hh:Int) (xs:List Int) (l:List T6) (sc:List (Int×Int)) (g:Int):List Int:=if eo W Hh xs l sc g=true then (lnO W Hh xs l sc g).getD [] else []
def lnZ (W Hh:Int) (xs:List Int) (l:List T6) (sc:List (Int×Int)) (g:Int) (n:Int):Int:=if lnE W Hh xs l sc g=0 then n else 0
section
variable {W Hh:Int} {xs:List Int} {l:List T6} {sc:List (Int×Int)} {g:Int}
theorem ln_1 (h:eo W Hh xs l sc g=false):lnE W Hh xs l sc g=1/\lnX W Hh xs l sc g=[]/\lnZ W Hh xs l sc g W=0/\lnZ W Hh xs l sc g Hh=0:=by
 have e:lnE W Hh xs l sc g=1:=if_neg (by rw[h];decide)
 exact⟨e,if_neg (by rw[h];decide),if_neg (by rw[e];decide),if_neg (by rw[e];decide)⟩
theorem ln_11 (h:eo W Hh xs l sc g=true)(k:lnO W Hh xs l sc g=none):lnE W Hh xs l sc g=11/\lnX W Hh xs l sc g=[]/\lnZ W Hh xs l sc g W=0/\lnZ W Hh xs l sc g Hh=0:=by
 have e:lnE W Hh xs l sc g=11:=by unfold lnE;rw[if_pos h,k]
 exact⟨e,by unfold lnX;rw[if_pos h,k];rfl,if_neg (by rw[e];decide),if_neg (by rw[e];decide)⟩
theorem ln_0 {o:List Int}(h:eo W Hh xs l sc g=true)(k:lnO W Hh xs l sc g=some o):lnE W Hh xs l sc g=0/\lnX W Hh xs l sc g=o/\lnZ W Hh xs l sc g W=W/\lnZ W Hh xs l sc g Hh=Hh:=by
 have e:lnE W Hh xs l sc g=0:=by unfold lnE;rw[if_pos h,k]
 exact⟨e,by unfold lnX;rw[if_pos h,k];rfl,if_pos e,if_pos e⟩
theorem prS_in:∀{i:Nat}{c:Int×Int},c∈prS W Hh l sc g i->inB W Hh c.1 c.2=true
 |0,_,h=>by cases h
 | i+1,c,h=>by
  unfold prS at h
  rcases List.mem_append.1 h with h|h
  ·exact prS_in h
  unfold eC at h
  split at h
  ·cases h
  have k:=(List.mem_filter.1 h).2
  unfold bN at k
  rw[Bool.and_eq_true,Bool.and_eq_true,aS,aS] at k
  exact cC.2 ⟨by omega,by omega,by omega,by omega⟩
theorem allL_in {c:Int×Int}(h:c∈aR W Hh l sc g):inB W Hh c.1 c.2=true:=by
 unfold aR at h
 have h:=(fJ _).mem_iff.1 (fI.1 h)
 unfold iy at h
 split at h
 ·exact prS_in h
 cases h
def lfS (W:Int) (A:List (Int×Int)) (xs:List Int):Nat->List Int
 |0=>xs
 |i+1=>(lfS W A xs i).set ((g2 A i*W)+g1 A i).toNat 1
theorem vld_set {o:List Int}{i:Nat}{v:Int}(h:bC W Hh o=true)(hv:v<=2):bC W Hh (o.set i v)=true:=by
 have q:=bh.1 h
 exact bh.2 ⟨q.w0,q.w1,q.h0,q.h1,by rw[List.length_set];exact q.len,set_le q.le hv⟩
theorem jV {A:List (Int×Int)}(h:bC W Hh xs=true):∀i:Nat,bC W Hh (lfS W A xs i)=true
 |0=>h
 |i+1=>vld_set (jV h i) (by decide)
theorem pN {A:List (Int×Int)}{o:List Int}{i:Nat}(hi:i<A.length)(hA:∀c∈A,inB W Hh c.1 c.2=true):gW W Hh (A.drop i) o=if gi o ((g2 A i*W)+g1 A i).toNat=2 then none else gW W Hh (A.drop (i+1)) (o.set ((g2 A i*W)+g1 A i).toNat 1):=by
 rw[List.drop_eq_getElem_cons hi]
 have h:=hA _ (List.getElem_mem hi)
 have e:cidx W A[i]=((g2 A i*W)+g1 A i).toNat:=by rw[<-ct hi];rfl
 conv=>lhs;unfold gW
 rw[at_in h,e]
theorem gin_mem {A:List (Int×Int)}{i:Nat}(hi:i<A.length)(hA:∀c∈A,inB W Hh c.1 c.2=true):inB W Hh (g1 A i) (g2 A i)=true:=by
 have h:=hA _ (List.getElem_mem hi)
 rw[<-ct hi] at h;exact h
def frP (W Hh:Int) (o:List Int) (c:Int×Int):Bool:=atI W Hh o c.1 c.2==1
def lwU (W Hh:Int) (o:List Int) (d:List (Int×Int)):List Int:=if d.length=1/\btw (g1 d 0) 0 (W-1)=true/\btw (g2 d 0) 0 (Hh-1)=true then o.set ((g2 d 0*W)+g1 d 0).toNat 2 else o
def lwS (W Hh:Int) (l:List T6) (sc:List (Int×Int)) (g:Int) (o:List Int):Nat->List Int
 |0=>o
 |i+1=>if g2 sc i = -1 then lwS W Hh l sc g o i else lwU W Hh (lwS W Hh l sc g o i) (bV (frP W Hh (lwS W Hh l sc g o i)) (bG l (g1 sc i) (g2 sc i) g))
theorem lwU_vld {o:List Int}{d:List (Int×Int)}(h:bC W Hh o=true):bC W Hh (lwU W Hh o d)=true:=by
 unfold lwU;split
 ·exact vld_set h (by decide)
 exact h
theorem jW {o:List Int}(h:bC W Hh o=true):∀i:Nat,bC W Hh (lwS W Hh l sc g o i)=true
 |0=>h
 | i+1=>by
  unfold lwS;split
  ·exact jW h i
  exact lwU_vld (jW h i)
theorem pO {o:List Int}{i:Nat}(hi:i<sc.length):fo W Hh (iz l (sc.drop i) g) o=if g2 sc i = -1 then fo W Hh (iz l (sc.drop (i+1)) g) o else if (bV (frP W Hh o) (bG l (g1 sc i) (g2 sc i) g)).length=0 then none else fo W Hh (iz l (sc.drop (i+1)) g) (lwU W Hh o (bV (frP W Hh o) (bG l (g1 sc i) (g2 sc i) g))):=by
 have e:sc[i]=(g1 sc i,g2 sc i):=(ct hi).symm
 unfold iz
 rw[List.drop_eq_getElem_cons hi,List.filter_cons,e]
 by_cases h:g2 sc i = -1
 ·rw[if_pos h,if_neg (by simp[h])]
 rw[if_neg h,if_pos (by simpa using h),List.map_cons]
 conv=>lhs;unfold fo
 have hd:∀s:List (Int×Int),(s.filter fun c=>!(atI W Hh o c.1 c.2==1))=bV (frP W Hh o) s:=fun _=>rfl
 simp only[hd]
 generalize bV (frP W Hh o) (bG l (g1 sc i) (g2 sc i) g)=d
 match d with
 |[]=>simp
 | [c] =>
  simp only[List.length_cons,List.length_nil]
  unfold lwU
  have q:(btw (g1 [c] 0) 0 (W-1)=true/\btw (g2 [c] 0) 0 (Hh-1)=true)↔inB W Hh c.1 c.2=true:=by
   rw[aS,aS,cC];show ((0<=c.1/\c.1<=W-1)/\0<=c.2/\c.2<=Hh-1)↔_;omega
  simp only[List.length_cons,List.length_nil,Nat.zero_add,true_and,q,Nat.one_ne_zero,if_false]
  rfl
 |a::b::t=>simp[lwU]
theorem lwS_skip {o:List Int}{i:Nat}(h:g2 sc i = -1):lwS W Hh l sc g o (i+1)=lwS W Hh l sc g o i:=by simp only[lwS];rw[if_pos h]
theorem mW {o:List Int}{i:Nat}(h:¬g2 sc i = -1)(k:¬((bV (frP W Hh (lwS W Hh l sc g o i)) (bG l (g1 sc i) (g2 sc i) g)).length=1/\btw (g1 (bV (frP W Hh (lwS W Hh l sc g o i)) (bG l (g1 sc i) (g2 sc i) g)) 0) 0 (W-1)=true/\btw (g2 (bV (frP W Hh (lwS W Hh l sc g o i)) (bG l (g1 sc i) (g2 sc i) g)) 0) 0 (Hh-1)=true)):lwS W Hh l sc g o (i+1)=lwS W Hh l sc g o i:=by simp only[lwS];rw[if_neg h];exact if_neg k
theorem lwS_set {o:List Int}{i:Nat}(h:¬g2 sc i = -1)(k:(bV (frP W Hh (lwS W Hh l sc g o i)) (bG l (g1 sc i) (g2 sc i) g)).length=1/\btw (g1 (bV (frP W Hh (lwS W Hh l sc g o i)) (bG l (g1 sc i) (g2 sc i) g)) 0) 0 (W-1)=true/\btw (g2 (bV (frP W Hh (lwS W Hh l sc g o i)) (bG l (g1 sc i) (g2 sc i) g)) 0) 0 (Hh-1)=true):lwS W Hh l sc g o (i+1)=(lwS W Hh l sc g o i).set ((g2 (bV (frP W Hh (lwS W Hh l sc g o i)) (bG l (g1 sc i) (g2 sc i) g)) 0*W)+g1 (bV (frP W Hh (lwS W Hh l sc g o i)) (bG l (g1 sc i) (g2 sc i) g)) 0).toNat 2:=by simp only[lwS];rw[if_neg h];exact if_pos k
theorem qZ {o:List Int}{i:Nat}(hi:i<sc.length)(h:g2 sc i = -1\/¬(bV (frP W Hh (lwS W Hh l sc g o i)) (bG l (g1 sc i) (g2 sc i) g)).length=0):fo W Hh (iz l (sc.drop i) g) (lwS W Hh l sc g o i)=fo W Hh (iz l (sc.drop (i+1)) g) (lwS W Hh l sc g o (i+1)):=by
 rw[pO hi]
 simp only[lwS]
 by_cases k:g2 sc i = -1
 ·rw[if_pos k,if_pos k]
 rw[if_neg k,if_neg k,if_neg (by rcases h with h|h;exact absurd h k;exact h)]
theorem lwS_bad {o:List Int}{i:Nat}(hi:i<sc.length)(h:¬g2 sc i = -1)(k:(bV (frP W Hh (lwS W Hh l sc g o i)) (bG l (g1 sc i) (g2 sc i) g)).length=0):fo W Hh (iz l (sc.drop i) g) (lwS W Hh l sc g o i)=none:=by
 rw[pO hi,if_neg h,if_pos k]
theorem vld_pos {o:List Int}(h:bC W Hh o=true):0<o.length:=by
 have q:=bh.1 h
 have:=(q.idx (show inB W Hh 0 0=true from cC.2 (by have:=q.w0;have:=q.h0;omega))).2.2.2.2.1
 omega
theorem pad_len {p:Int×Int->Bool}{l:List (Int×Int)}:(ej l.length (bV p l)).length=l.length:=by
 have:=delL_le (p:=p) (l:=l)
 unfold ej;simp;omega
theorem pad_g1 {n:Nat}{d:List (Int×Int)}(h:¬d.length=0):g1 (ej n d) 0=g1 d 0:=by
 match d,h with
 |a::t,_=>rfl
theorem pad_g2 {n:Nat}{d:List (Int×Int)}(h:¬d.length=0):g2 (ej n d) 0=g2 d 0:=by
 match d,h with
 |a::t,_=>rfl
theorem rb {m r:Int}(hS:bM l=true):(bG l m r g).length<=7225*4096:=by
 have h1:=l8 (aq l m) r g (aq l m).length
 have h2:=kG hS m
 have h3:(gf l m r g).length<=7225*4096:=by
  unfold gf;split
  ·simp
  omega
 unfold bG
 have:=oD (dG (gf l m r g));rw[gV] at this;omega
theorem allL_len:(aR W Hh l sc g).length<=7225*sc.length:=by
 have h1:=l7 W Hh l sc g sc.length
 have h3:(iy W Hh l sc g).length<=7225*sc.length:=by
  unfold iy;split
  ·exact h1
  simp
 unfold aR
 have:=oD (dG (iy W Hh l sc g));rw[gV] at this;omega
end
section
variable {W Hh:Int} {xs:List Int} {sc:List (Int×Int)}
end
end Go.Proofs.YtkkhdehdaaealaaGreat
