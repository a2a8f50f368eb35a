/- Proved: the law WholeLocates returns true on every input, and its arguments read afterwards as before. Conditions: none beyond the given row's. -/
import Derived.Test.YtkkhdehdaaealaaGreatG2
import Derived.Test.YtkkhdehdaaealaaGreatG5
namespace Go.Proofs.YtkkhdehdaaealaaGreat
set_option linter.unusedSimpArgs false
set_option linter.unusedVariables false
open Go.RowKit Go.Proofs.Tryz
set_option maxRecDepth 100000 in
theorem ng (H:aa)(xs:List AV)(hn:xs.length=3)(hy:∀(j:Nat) (t:TypeId) (x:AV),[30,31,34][j]? = some t->xs[j]? = some x->ATy prog H 9 t x):ACalls prog 3 xs H (fun v H'=>v=.bool true/\H'=H):=by
 match xs,hn,hy with
 | [a0,a1,a2],_,hy =>
  obtain⟨ys0,e0,r0_0⟩:=(hy 0 _ a0 rfl rfl).agg (ls:=[3,3,22,3,3,3,3,3,3,3]) (by kernel_rfl) (by kernel_rfl)
  obtain⟨y0_0,q0_0,rfl,t0_0,r0_1⟩:=r0_0.cons
  obtain⟨z1,rfl,w1⟩:=t0_0.int (k:=.i64) (by kernel_rfl)
  obtain⟨y0_1,q0_1,rfl,t0_1,r0_2⟩:=r0_1.cons
  obtain⟨z2,rfl,w2⟩:=t0_1.int (k:=.i64) (by kernel_rfl)
  obtain⟨y0_2,q0_2,rfl,t0_2,r0_3⟩:=r0_2.cons
  obtain⟨l3,s3,m3,w3⟩:=t0_2.intsU (n:=7) (t:=22) (e:=5) (by kernel_rfl) (by kernel_rfl) (by kernel_rfl)
  obtain⟨y0_3,q0_3,rfl,t0_3,r0_4⟩:=r0_3.cons
  obtain⟨z4,rfl,w4⟩:=t0_3.int (k:=.i64) (by kernel_rfl)
  obtain⟨y0_4,q0_4,rfl,t0_4,r0_5⟩:=r0_4.cons
  obtain⟨z5,rfl,w5⟩:=t0_4.int (k:=.i64) (by kernel_rfl)
  obtain⟨y0_5,q0_5,rfl,t0_5,r0_6⟩:=r0_5.cons
  obtain⟨z6,rfl,w6⟩:=t0_5.int (k:=.i64) (by kernel_rfl)
  obtain⟨y0_6,q0_6,rfl,t0_6,r0_7⟩:=r0_6.cons
  obtain⟨z7,rfl,w7⟩:=t0_6.int (k:=.i64) (by kernel_rfl)
  obtain⟨y0_7,q0_7,rfl,t0_7,r0_8⟩:=r0_7.cons
  obtain⟨z8,rfl,w8⟩:=t0_7.int (k:=.i64) (by kernel_rfl)
  obtain⟨y0_8,q0_8,rfl,t0_8,r0_9⟩:=r0_8.cons
  obtain⟨z9,rfl,w9⟩:=t0_8.int (k:=.i64) (by kernel_rfl)
  obtain⟨y0_9,q0_9,rfl,t0_9,r0_10⟩:=r0_9.cons
  obtain⟨z10,rfl,w10⟩:=t0_9.int (k:=.i64) (by kernel_rfl)
  obtain rfl:=r0_10.nil
  subst e0
  have t1:=(hy 1 _ a1 rfl rfl).one (by kernel_rfl) (by kernel_rfl)
  obtain⟨l11,s11,m11,w11⟩:=t1.acs (n:=6) (t:=31) (e:=69) (ti:=3) (ts:=67) (te:=3) (by kernel_rfl) (by kernel_rfl) (by kernel_rfl) (by kernel_rfl) (by kernel_rfl) (by kernel_rfl)
  obtain⟨ys2,e2,r2_0⟩:=(hy 2 _ a2 rfl rfl).agg (ls:=[32,22]) (by kernel_rfl) (by kernel_rfl)
  obtain⟨y2_0,q2_0,rfl,t2_0,r2_1⟩:=r2_0.cons
  obtain⟨l12,s12,m12,w12⟩:=t2_0.rec6 (n:=7) (t:=32) (e:=60) (t1:=3) (t2:=3) (t3:=3) (t4:=3) (t5:=3) (t6:=3) (by kernel_rfl) (by kernel_rfl) (by kernel_rfl) (by kernel_rfl) (by kernel_rfl) (by kernel_rfl) (by kernel_rfl) (by kernel_rfl)
  obtain⟨y2_1,q2_1,rfl,t2_1,r2_2⟩:=r2_1.cons
  obtain⟨l13,s13,m13,w13⟩:=t2_1.intsU (n:=7) (t:=22) (e:=5) (by kernel_rfl) (by kernel_rfl) (by kernel_rfl)
  obtain rfl:=r2_2.nil
  subst e2
  exact lwl_c H z1 z2 _ l3 z4 z5 z6 z7 z8 z9 z10 _ l11 _ l12 _ l13 s3 s11 s12 s13 (fun z hz=>(wf_u8 (w3 z hz)).1) (by have q:=m3;unfold maxLen at q;exact q) (by have q:=m11;unfold maxLen at q;exact q) w11 (by have q:=m12;unfold maxLen at q;exact q) (by have q:=m13;unfold maxLen at q;exact q)
section
open Go.ChangeShapes Go.WideShapes Go.ChangeAt Go.Joins
open Go.ChangeMaps (open_string shut_string)
set_option maxRecDepth 100000 in
theorem kX (os:Os)(started:os.Started)(H:Type)(enc:TypeId×Value->H):
  ReturnsInHanded {} Tryz.checked os 3 .any (Rows.wholeLocatesSpec.pre6 enc prog Tryz.f3 Rows.wholeLocatesRow.domain false) (Rows.wholeLocatesSpec.post enc prog Tryz.f3 false true false false):=by
 refine returnsInHanded_of_change (C:=Tryz.checked) own started (by kernel_rfl) func3
  (ChangeSpec.witness6 (enc:=enc) (C:=Tryz.checked) false ⟨#[],#[.agg #[.int .i64 0,.int .i64 0,.slice none 0 0,.int .i64 0,.int .i64 0,.int .i64 0,.int .i64 0,.int .i64 0,.int .i64 0,.int .i64 0],.slice none 0 0,.agg #[.slice none 0 0,.slice none 0 0]],[]⟩ 8 (by kernel_rfl) (by kernel_rfl) (by kernel_rfl) (by kernel_rfl)) ?_
 intro W base args ds gs before hval0 hW hcnd _
 have hval:∀(j:Nat) t v,Tryz.f3.params[j]? = some t->args[j]? = some v->Value.okWide prog W .any base t v:=hval0
 have hW':=hW
 obtain⟨p,q,hA0,hV,rfl,hfz,hnd⟩:=hW
 have hA:DataW.TrodAll enc prog W 0 (fun _=>true) true Tryz.f3.params.toList args.toList ds p:=hA0
 rw[Tryz.params3] at hA hval
 have hwalk:=calls_top (n:=9) (f:=3) hA (fun j t v a b=>hval j t v (by simpa using a) (by simpa using b)) (by kernel_rfl) (fun H xs hn hy=>ng H xs hn hy)
 rw[Array.toArray_toList] at hwalk
 obtain⟨v0,vs0,d0,ds0,p0,q0,hargs,rfl,rfl,h0,r0⟩:=trodAll_cons hA
 obtain⟨v1,vs1,d1,ds1,p1,q1,rfl,rfl,rfl,h1,r1⟩:=trodAll_cons r0
 obtain⟨v2,vs2,d2,ds2,p2,q2,rfl,rfl,rfl,h2,r2⟩:=trodAll_cons r1
 obtain⟨rfl,rfl,rfl⟩:=trodAll_nil r2
 obtain rfl:args=#[v0,v1,v2]:=by cases args;simp_all
 obtain⟨rfl,rfl⟩:=trodVars_none hV
 have k0:=h0
 have lt0:∀x∈p0,x.block<W.heap.size:=by obtain⟨m,hm⟩:=k0;exact DataW.trod_lt m _ _ _ hm
 have k1:=h1
 have lt1:∀x∈p1,x.block<W.heap.size:=by obtain⟨m,hm⟩:=k1;exact DataW.trod_lt m _ _ _ hm
 have k2:=h2
 have lt2:∀x∈p2,x.block<W.heap.size:=by obtain⟨m,hm⟩:=k2;exact DataW.trod_lt m _ _ _ hm
 clear hA0 hval0
 refine hwalk.mono fun e W' ⟨he,bel⟩=>?_
 subst he
 exact⟨_,rfl,_,_,_,[],_,[],hW',trodAll_mk1 (shut_bool Tryz.underlying4 _),(trodAll_cons_mk (Below.trod lM (by kernel_rfl) (of_decide_eq_true (by kernel_rfl)) k0 bel lt0) (trodAll_cons_mk (Below.trod lM (by kernel_rfl) (of_decide_eq_true (by kernel_rfl)) k1 bel lt1) (trodAll_cons_mk (Below.trod lM (by kernel_rfl) (of_decide_eq_true (by kernel_rfl)) k2 bel lt2) trodAll_mk0))),rfl,bel.frame _,fun h=>by cases h⟩
theorem cG {a b:Bool}(h:a=true)(k:b=true):(a&&b)=true:=by rw[h,k];rfl
theorem n8:(Rows.wholeLocatesRow.inPlace==Tryz.pinned.checked.prog.inPlace 3)=true:=by kernel_rfl
theorem n9:(Rows.wholeLocatesRow.unfollowed==Tryz.pinned.checked.prog.unfollowed 3)=true:=by kernel_rfl
theorem oa:(Rows.wholeLocatesRow.recurses==Tryz.pinned.checked.prog.recurses 3)=true:=by kernel_rfl
theorem ob:(Rows.wholeLocatesRow.named==Tryz.pinned.checked.prog.varsNamed 3)=true:=by kernel_rfl
theorem oc:Tryz.pinned.checked.prog.stopsHeard=true:=by kernel_rfl
theorem od:Tryz.pinned.checked.prog.mayEnter=true:=by kernel_rfl
theorem oe:(Rows.wholeLocatesRow.lifted==Tryz.pinned.checked.prog.liftsFinal)=true:=by kernel_rfl
theorem kY:joinedFacts Tryz.pinned.checked.prog 3 Tryz.f3 Rows.wholeLocatesSpec Rows.wholeLocatesRow=true:=by
 unfold joinedFacts
 exact(cG (cG (cG (cG (cG (cG (cG (cG (cG (cG (cG (cG (cG (cG (cG (cG (cG (cG (cG (cG (cG (cG (cG (cG (cG (cG (cG (cG (cG (cG (cG (by kernel_rfl) lM) (by kernel_rfl)) (by kernel_rfl)) (by kernel_rfl)) (by kernel_rfl)) (by kernel_rfl)) (by kernel_rfl)) (by kernel_rfl)) n8) n9) oa) ob) (by kernel_rfl)) (by kernel_rfl)) (by kernel_rfl)) (by kernel_rfl)) (by kernel_rfl)) (by kernel_rfl)) (by kernel_rfl)) (by kernel_rfl)) (by kernel_rfl)) (by kernel_rfl)) (by kernel_rfl)) oc) od) oe) (by kernel_rfl)) (by kernel_rfl)) (by kernel_rfl)) (by kernel_rfl)) (by kernel_rfl))
theorem mf:Rows.wholeLocatesRow.holds Tryz.pinned (OpenSpec.ofChange Rows.wholeLocatesSpec) :=
 OpenClaim.holds_of_wide 3 Tryz.f3 rfl rfl rfl rfl rfl rfl rfl ⟨rfl,rfl,rfl,rfl,rfl⟩ rfl rfl rfl rfl rfl (by kernel_rfl) func3 kY
  (of_decide_eq_true (by kernel_rfl)) (by unfold Func.isWrapper;rw[if_neg (by decide +kernel)];exact⟨rfl,rfl⟩)
  (fun os started H enc _=>kX os started H enc)
theorem wholeLocates_proved:Rows.WholeLocatesSaid:=mf
end
end Go.Proofs.YtkkhdehdaaealaaGreat
