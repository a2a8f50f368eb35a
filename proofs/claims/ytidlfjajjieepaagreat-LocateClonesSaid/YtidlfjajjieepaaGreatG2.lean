/- Parts of the proof: walks and plain facts. Conditions: as each theorem states. -/
import Derived.Test.YtidlfjajjieepaaGreatG1
import Derived.WideShapes
import Derived.ChangeArms
import Derived.Deep.Fields
import Derived.Test.YtidlfjajjieepaaGreatRows
import Derived.ProofKit
import Derived.OpenShut
import Derived.ShutString
import Derived.ChangeOld
import Derived.Lib.SmallJoins
import Derived.Shelf.Small.Bits
import Derived.Shelf.Strconv.Itoa0
import Derived.Shelf.SlSortCmp.WholeK
import Derived.Shelf.SlGeneric
import Derived.Ground.SlsfProg
import Derived.Test.YtidlfjajjieepaaGreatProg
import Derived.Lib.SortBridge
import Derived.Lib.RowBridge
namespace Go.Proofs.YtidlfjajjieepaaGreat
set_option linter.unusedSimpArgs false
set_option linter.unusedVariables false
open Go.RowKit
section
variable {α:Type} {H l:List α} {x y:α}
theorem cN:(H++l)[H.length]? = l[0]? :=by rw[List.getElem?_append_right (Nat.le_refl _),Nat.sub_self]
theorem ah {k:Nat}:(H++l)[H.length+k]? = l[k]? :=by rw[List.getElem?_append_right (by omega)];congr 1;omega
theorem p9:(H++l).set H.length x=H++l.set 0 x:=by rw[List.set_append_right _ _ (Nat.le_refl _),Nat.sub_self]
theorem j8 {k:Nat}:(H++l).set (H.length+k) x=H++l.set k x:=by
 rw[List.set_append_right _ _ (by omega)];congr 2;omega
theorem get_old {b:Nat}(h:H[b]? = some x)(l:List α):(H++l)[b]? = some x:=by rw[List.getElem?_append_left (getElem?_lt h)];exact h
theorem qa:(H++[x]).length=H.length+1:=by simp
theorem len_lit:(H++l).length=H.length+l.length:=by simp
end
theorem n7 {x:Int}(h1 : -9223372036854775808<=x)(h2:x<=9223372036854775807):IntKind.i64.wrap x=x:=IntWalk.i64_in _ ⟨h1,h2⟩
theorem iP {n m:Nat}{sel:List Nat}{b:Nat}(h:b<n):sig n m sel b=b:=by simp[sig,h]
theorem gF {n m:Nat}{sel:List Nat}:sig n m sel n=match sel[0]? with|some i=>n+i|none=>n+(n+m):=by
 unfold sig;rw[if_neg (by omega),Nat.sub_self]<;>rfl
theorem gG {n m k:Nat}{sel:List Nat}:sig n m sel (n+k)=match sel[k]? with|some i=>n+i|none=>n+k+(n+m):=by
 unfold sig;rw[if_neg (by omega),Nat.add_sub_cancel_left]<;>rfl
theorem end_of {P:Program}{fn:Func}{H l1 l2:ac}{R:AV->ac->Prop}{F:Fr}{e:Exit}(he:e=.ret\/e=.normal) (hbel:HBel H.length H) {x1 x2:AV}(hx:dp P fn F (H++l1)=some x1) (sel:List Nat) (hnd:sel.Nodup) (hR:R x2 (H++l2))
  (hv:x1=x2.mv (sig H.length l1.length sel)) (hl:l2.length=sel.length) (hH:∀(i b:Nat) (x:ABlk),sel[i]? = some b->l2[i]? = some x->x=.dead\/l1[b]? = some (x.mv (sig H.length l1.length sel))):dE P fn H.length R e F (H++l1):=by
 have h:=Abs0.abs <| Abs0.of (n:=H.length) (H0:=H) (l1:=l1) (l2:=l2) (F1:=[(0,x1)]) (F2:=[(0,x2)]) rfl hbel sel hnd (fun p hp=>by simp at hp;subst hp;simp[look,hv,W.refl]) hl (fun i b x h1 h2=>(hH i b x h1 h2).imp id .inl)
 rcases he with rfl|rfl
 ·exact⟨x1,hx,_,x2,_,hR,h⟩
 exact⟨x1,hx,_,x2,_,hR,h⟩
theorem cA {P:Program}{fn:Func}{H l1:ac}{R:AV->ac->Prop}{F:Fr}{e:Exit}(he:e=.ret\/e=.normal)(hbel:HBel H.length H){x:AV}(hx:dp P fn F (H++l1)=some x)(hp:x.bel 0=true)(hR:R x H):dE P fn H.length R e F (H++l1) :=
 end_of (l2:=[]) he hbel hx [] (by simp) (by simpa using hR) (mv_id (n:=0) (fun b hb=>absurd hb (Nat.not_lt_zero b)) x hp).symm rfl (fun i b x h=>by simp at h)
theorem kU {P:Program}{fn:Func}{F:Fr}{H:ac}{l:List ResultVar}{x:AV}(h1:fn.results=l.toArray)(h2:(aRes P l F H).map one1=some x):dp P fn F H=some x:=by
 unfold dp;rw[h1];exact h2
theorem ae {α:Type}{H l:List α}{x:α}{b:Nat}(h:H[b]? = some x):(H++l)[b]? = some x:=get_old h l
theorem oZ:bI True=some ():=rfl
theorem o0 {n:Nat}:(n+1==0)=false:=rfl
theorem rng0:List.range 0=[]:=rfl
theorem rng1:List.range 1=[0]:=rfl
theorem rng2:List.range 2=[0,1]:=rfl
theorem rng3:List.range 3=[0,1,2]:=rfl
theorem rng4:List.range 4=[0,1,2,3]:=rfl
theorem rng5:List.range 5=[0,1,2,3,4]:=rfl
theorem rng6:List.range 6=[0,1,2,3,4,5]:=rfl
theorem rng7:List.range 7=[0,1,2,3,4,5,6]:=rfl
theorem rng8:List.range 8=[0,1,2,3,4,5,6,7]:=rfl
theorem rng9:List.range 9=[0,1,2,3,4,5,6,7,8]:=rfl
theorem rng10:List.range 10=[0,1,2,3,4,5,6,7,8,9]:=rfl
theorem rng11:List.range 11=[0,1,2,3,4,5,6,7,8,9,10]:=rfl
theorem rng12:List.range 12=[0,1,2,3,4,5,6,7,8,9,10,11]:=rfl
theorem rng16:List.range 16=[0,1,2,3,4,5,6,7,8,9,10,11,12,13,14,15]:=rfl
def ints (k:IntKind) (xs:List Int):List AV:=xs.map (AV.int k)
theorem c9 {k:IntKind}{xs:List Int}{j:Nat}(h:j<xs.length):(ints k xs)[j]? = some (.int k (gi xs j)):=by
 simp[ints,gi,h,List.getD_eq_getElem?_getD]
theorem bU {k:IntKind}{xs:List Int}:(ints k xs).length=xs.length:=by simp[ints]
theorem ml {k:IntKind}{xs:List Int}{j:Nat}{v:Int}:(ints k xs).set j (.int k v)=ints k (xs.set j v):=by simp[ints,List.map_set]
theorem ct {k:IntKind}{n:Nat}{v:Int}:List.replicate n (.int k v)=ints k (List.replicate n v):=by simp[ints]
def c8 (xs:List Bool):List AV:=xs.map AV.bool
def bget (bs:List Bool) (k:Nat):Bool:=bs.getD k false
theorem o6 {xs:List Bool}{j:Nat}(h:j<xs.length):(c8 xs)[j]? = some (.bool (bget xs j)):=by
 simp[c8,bget,h,List.getD_eq_getElem?_getD]
theorem jm {xs:List Bool}:(c8 xs).length=xs.length:=by simp[c8]
theorem kV {xs:List Bool}{j:Nat}{v:Bool}:(c8 xs).set j (.bool v)=c8 (xs.set j v):=by simp[c8,List.map_set]
theorem kW {n:Nat}{v:Bool}:List.replicate n (.bool v)=c8 (List.replicate n v):=by simp[c8]
theorem eG {σ:Nat->Nat}{k:IntKind}:∀{xs:List Int},AV.mvs σ (ints k xs)=ints k xs
 |[]=>rfl
 |x::r=>by show AV.mv σ (.int k x)::AV.mvs σ (ints k r)=_;rw[eG (xs:=r)];rfl
theorem fh {σ:Nat->Nat}:∀{xs:List Bool},AV.mvs σ (c8 xs)=c8 xs
 |[]=>rfl
 |x::r=>by show AV.mv σ (.bool x)::AV.mvs σ (c8 r)=_;rw[fh (xs:=r)];rfl
theorem eH {σ:Nat->Nat}:∀{xs ys:List AV},AV.mvs σ (xs++ys)=AV.mvs σ xs++AV.mvs σ ys
 |[],_=>rfl
 |x::r,ys=>by show AV.mv σ x::AV.mvs σ (r++ys)=_;rw[eH (xs:=r)];rfl
def prs (l:List (Int×Int)):List AV:=l.flatMap fun p=>[.int .i64 p.1,.int .i64 p.2]
theorem eY:prs []=[]:=rfl
theorem cJ {p:Int×Int}{l:List (Int×Int)}:prs (p::l)=.int .i64 p.1::.int .i64 p.2::prs l:=rfl
theorem dX {l m:List (Int×Int)}:prs (l++m)=prs l++prs m:=by simp[prs]
theorem ba:∀{l:List (Int×Int)},(prs l).length=l.length*2
 |[]=>rfl
 |p::l=>by rw[cJ];simp only[List.length_cons,ba (l:=l)];omega
theorem gH {σ:Nat->Nat}:∀{l:List (Int×Int)},AV.mvs σ (prs l)=prs l
 |[]=>rfl
 | p::l=>by
  rw[cJ]
  show AV.mv σ _::AV.mv σ _::AV.mvs σ (prs l)=_
  rw[gH (l:=l)];rfl
theorem ne:∀{l:List (Int×Int)}{j:Nat}(_h:j<l.length),(prs l).drop (j*2)=.int .i64 (g1 l j)::.int .i64 (g2 l j)::(prs l).drop ((j+1)*2)
 |[],j,h=>by simp at h
 |p::l,0,_=>by rw[cJ];simp[g1,g2]
 | p::l,j+1,h=>by
  rw[cJ,show (j+1)*2=j*2+1+1 by omega,List.drop_succ_cons,List.drop_succ_cons,ne (l:=l) (by simpa using h),show (j+1+1)*2=(j+1)*2+1+1 by omega,List.drop_succ_cons,List.drop_succ_cons]
  rfl
theorem prs_at0 {l:List (Int×Int)}{j:Nat}(h:j<l.length):(prs l)[j*2]? = some (.int .i64 (g1 l j)):=by
 have:=congrArg (fun x=>x[0]?) (ne h)
 simpa using this
theorem prs_at1 {l:List (Int×Int)}{j:Nat}(h:j<l.length):(prs l)[j*2+1]? = some (.int .i64 (g2 l j)):=by
 have:=congrArg (fun x=>x[1]?) (ne h)
 simpa using this
theorem bN {l:List (Int×Int)}{j:Nat}(h:j<l.length):((prs l).drop (j*2)).take 2=[.int .i64 (g1 l j),.int .i64 (g2 l j)]:=by rw[ne h];rfl
theorem eI {l:List (Int×Int)}{j:Nat}:(prs l).take (j*2)=prs (l.take j):=by
 induction l generalizing j with
 |nil=>simp[eY]
 | cons p l ih =>
  cases j with
  |zero=>simp[eY]
  |succ j=>rw[cJ,show (j+1)*2=j*2+1+1 by omega,List.take_succ_cons,List.take_succ_cons,ih];rfl
def fi (m:Nat) (σ:Nat->Nat) (F1:Fr):Fr->Prop
 |[]=>True
 |p::r=>W m (look F1 p.1) (p.2.mv σ)/\fi m σ F1 r
def fj (m:Nat) (σ:Nat->Nat) (l1:ac):List Nat->ac->Prop
 |i::s,x::l2=>(x=.dead\/l1[i]? = some (x.mv σ)\/BW m (l1[i]?) (x.mv σ))/\fj m σ l1 s l2
 |[],[]=>True
 |_,_=>False
theorem mo {m:Nat}{σ:Nat->Nat}{F1:Fr}:∀{F2:Fr},fi m σ F1 F2->∀p∈F2,W m (look F1 p.1) (p.2.mv σ)
 | _::_,h,p,hp=>by
  rcases List.mem_cons.1 hp with rfl|hp
  ·exact h.1
  exact mo h.2 p hp
theorem eJ {m:Nat}{σ:Nat->Nat}{l1:ac}:∀{sel:List Nat}{l2:ac},fj m σ l1 sel l2->l2.length=sel.length/\∀(i b:Nat) (x:ABlk),sel[i]? = some b->l2[i]? = some x->x=.dead\/l1[b]? = some (x.mv σ)\/BW m (l1[b]?) (x.mv σ)
 |[],[],_=>⟨rfl,fun i b x h=>by simp at h⟩
 | s::sel,y::l2,h=>by
  obtain⟨h1,h2⟩:=eJ h.2
  refine⟨by simp[h1],fun i b x hs hl=>?_⟩
  cases i with
  |zero=>simp at hs hl;subst hs hl;exact h.1
  |succ i=>exact h2 i b x (by simpa using hs) (by simpa using hl)
 |[],_::_,h=>h.elim
 |_::_,[],h=>h.elim
theorem Abs.byG {H0 l1 l2:ac}{F1 F2:Fr}(hsc:HBel H0.length H0)(G:ac)(hG:G.all gf=true)(sel:List Nat)(hnd:sel.Nodup)(h:fi (H0.length+(l1++G).length) (sig H0.length (l1++G).length sel) F1 F2/\fj (H0.length+(l1++G).length) (sig H0.length (l1++G).length sel) (l1++G) sel l2):Abs H0.length (sig H0.length (l1++G).length sel) F1 (H0++l1) F2 (H0++l2) :=
 Abs.of G hG rfl hsc sel hnd (mo h.1) (eJ h.2).1 (eJ h.2).2
theorem Abs.by {H0 l1 l2:ac}{F1 F2:Fr}(hsc:HBel H0.length H0)(sel:List Nat)(hnd:sel.Nodup)(h:fi (H0.length+l1.length) (sig H0.length l1.length sel) F1 F2/\fj (H0.length+l1.length) (sig H0.length l1.length sel) l1 sel l2):Abs H0.length (sig H0.length l1.length sel) F1 (H0++l1) F2 (H0++l2):=by
 have:=Abs.byG (l1:=l1) (l2:=l2) (F1:=F1) (F2:=F2) hsc [] rfl sel hnd (by simpa using h)
 simpa using this
theorem aM {P:Program}{fn:Func}{H l1 l2:ac}{R:AV->ac->Prop}{F:Fr}{e:Exit}(he:e=.ret\/e=.normal) (hbel:HBel H.length H) {x1:AV}(x2:AV) (hx:dp P fn F (H++l1)=some x1) (G:ac) (hG:G.all gf=true) (sel:List Nat) (hnd:sel.Nodup) (hR:R x2 (H++l2))
  (h:W (H.length+(l1++G).length) x1 (x2.mv (sig H.length (l1++G).length sel))/\fj (H.length+(l1++G).length) (sig H.length (l1++G).length sel) (l1++G) sel l2):dE P fn H.length R e F (H++l1):=by
 have h1:=Abs.of (n:=H.length) (H0:=H) (l1:=l1) (l2:=l2) (F1:=[(0,x1)]) (F2:=[(0,x2)]) G hG rfl hbel sel hnd (fun p hp=>by simp at hp;subst hp;exact h.1) (eJ h.2).1 (eJ h.2).2
 rcases he with rfl|rfl
 ·exact⟨x1,hx,_,x2,_,hR,h1⟩
 exact⟨x1,hx,_,x2,_,hR,h1⟩
theorem end_by {P:Program}{fn:Func}{H l1 l2:ac}{R:AV->ac->Prop}{F:Fr}{e:Exit}(he:e=.ret\/e=.normal) (hbel:HBel H.length H) {x1:AV}(x2:AV) (hx:dp P fn F (H++l1)=some x1) (sel:List Nat) (hnd:sel.Nodup) (hR:R x2 (H++l2))
  (h:x1=x2.mv (sig H.length l1.length sel)/\fj (H.length+l1.length) (sig H.length l1.length sel) l1 sel l2):dE P fn H.length R e F (H++l1) :=
 aM he hbel x2 hx [] rfl sel hnd hR ⟨by rw[List.append_nil,h.1];exact W.refl _,by rw[List.append_nil];exact h.2⟩
theorem eh {P:Program}{fn:Func}{H:ac}{R:AV->ac->Prop}{F:Fr}{e:Exit}(he:e=.ret\/e=.normal)(hbel:HBel H.length H){x:AV}(hx:dp P fn F H=some x)(hp:x.bel 0=true)(hR:R x H):dE P fn H.length R e F H:=by
 have h:=cA (P:=P) (fn:=fn) (l1:=[]) (F:=F) (R:=R) he hbel (x:=x) (by simpa using hx) hp hR
 simpa using h
theorem Abs.by0 {H0:ac}{F1 F2:Fr}(hsc:HBel H0.length H0)(h:fi H0.length (sig H0.length 0 []) F1 F2):Abs H0.length (sig H0.length 0 []) F1 H0 F2 H0:=by
 have:=Abs.by (l1:=[]) (l2:=[]) (F1:=F1) (F2:=F2) hsc [] (by simp) ⟨h,trivial⟩
 simpa using this
theorem dW {P:Program}{N n:Nat}{q:Bool}{Q:Exit->Fr->ac->Prop}{dst:Option Tmp}{os:List LOp}{r:List It}{F:Fr}{H H1:ac}{f:FuncId}{args:List AV}{x:AV}(hok:dB P f=true)(h:ACalls P f args H fun v H'=>v=x/\H'=H1)(k:AGo P N n q Q (.ops os::r) (putF dst x F) H1):fg P N n q Q none f args dst os r F H :=
 call_of hok h fun v H' ⟨h1,h2⟩=>by subst h1 h2;exact k
theorem call_d {P:Program}{N n m:Nat}{q:Bool}{Q:Exit->Fr->ac->Prop}{dst:Option Tmp}{os:List LOp}{r:List It}{F:Fr}{H:ac}{f:FuncId}{args:List AV}{x:AV}(hok:dB P f=true)(h:ACalls P f args H fun y H1=>y=x/\H1=H)(k:AGo P N n q Q (.opsD m os::r) (putF dst x F) H):fg P N n q Q (some m) f args dst os r F H :=
 ⟨hok,x,H,fun _=>rfl,⟨Nat.le_refl _,fun _ _ _=>rfl⟩,h,k⟩
theorem call_x {P:Program}{N n m:Nat}{Q:Exit->Fr->ac->Prop}{dst:Option Tmp}{os:List LOp}{r:List It}{F:Fr}{H l:ac}{f:FuncId}{args:List AV}{x:AV}(hok:dB P f=true)(_:True)(h:ACalls P f args H fun y H1=>y=x/\H1=H++l)(k:AGo P N n false Q (.opsD m os::r) (putF dst x F) (H++l)):fg P N n false Q (some m) f args dst os r F H :=
 ⟨hok,x,H++l,(fun h=>by cases h),⟨by simp,fun b _ hb=>List.getElem?_append_left hb⟩,h,k⟩
section
variable {E:Env} {H:ac} {w w':World}
theorem Emb.ownLt (h:Emb E H w){b:Nat}{x:ABlk}(hx:H[b]? = some x)(ho:x.owned=true):(E.loc b).blk<w.heap.size:=by
 have hk:=h.blk b x hx
 cases x with
 |dead=>cases ho
 |cells own e ys=>exact(hk.2.1 ho).2.1
 |map es=>exact hk.2.1
theorem Emb.up (h:Emb E H w)(hb:Below w.heap.size w w'):Emb E H w' where
 n:=h.n
 below:=h.below.trans (hb.mono h.base)
 base:=Nat.le_trans h.base hb.size
 blk b x hx:=(h.blk b x hx).mono (Env.le.refl E) hb.size (fun ho=>hb.block _ (h.ownLt hx ho)) (fun hB=>hb.block _ (Nat.lt_of_lt_of_le hB h.base))
 inj:=h.inj
theorem Emb.row (h:Emb E H w)(hb:Below w.heap.size w w'){base n sz:Nat}{e:TypeId}{v:Value}{vs:List Value}{xs:List AV}(hown:w'.ownsRow base e sz v n vs)(hB:w.heap.size<=base)(hn:0<n)(hr:RelL E xs vs)(ho:∀x∈xs,x.one=true):
  ∃E',E.le E'/\Rel E' (.sl (some (H.length,0)) n none) v/\Emb E' (H++[.cells true sz xs]) w':=by
 have hs:=Seg.of_own (iK hown (Nat.le_trans h.base hB))
 obtain⟨g,off,cap,rfl,h1,h2,h3,h4,h5⟩:=il hr ho hs hn
 have hg:base<=g:=by
  rcases hown.2 with ⟨hv,-⟩|⟨g',cap',cur,hv,hb',-⟩
  ·cases hv
  injection hv with hv;injection hv with hv;injection hv with hv;omega
 have hle:=E.le_push ⟨g,off,cap*sz,sz⟩
 refine⟨E.push ⟨g,off,cap*sz,sz⟩,hle,?_,h.grow (row:=none) ⟨hb.os,hb.tape,hb.output,hb.size,fun k hk _=>hb.block k hk⟩ (fun k hk=>by cases hk) rfl (fun c x hx=>.inr ⟨hx,fun _=>by simp⟩) _ _ (h5 _ hle) (fun c x hx ho=>?_)⟩
 ·have e1:(E.push ⟨g,off,cap*sz,sz⟩).loc H.length=⟨g,off,cap*sz,sz⟩:=by rw[<-h.n];exact Env.push_new _ _
  refine .sl _ _ _ _ _ _ (by simp[Env.push,h.n]) h3 h4 (.inl rfl) (.inr (by rw[e1];rfl)) ?_
  rw[e1];simp
 have:=h.ownLt hx ho
 show (E.loc c).blk≠g
 omega
theorem n8 {k:IntKind}{n:Int}{v:Value}(h:Rel E (.int k n) v):v=.int k n:=by cases h;rfl
theorem kX {x:AV}{xs:List AV}{vs:List Value}(h:RelL E (x::xs) vs):∃v us,vs=v::us/\Rel E x v/\RelL E xs us:=by
 cases vs with
 |nil=>have:=h.1;simp at this
 |cons v us=>exact⟨v,us,rfl,h.uncons⟩
theorem qb {vs:List Value}(h:RelL E [] vs):vs=[]:=by
 have:=h.1
 exact List.eq_nil_of_length_eq_zero (by simpa using this.symm)
end
open Go.ChangeShapes Go.WideShapes

def bX (P:Program):Nat->TypeId->Option (List TypeId)
 |0,_=>none
 | n+1,t =>
  match P.underlying t with
  |some (.int _)=>some [t]
  |some .bool=>some [t]
  |some (.slice e)=>(bX P n e).bind fun l=>if l.length=P.cellsOf e/\0<l.length then some [t] else none
  |some (.struct fs)=>(fs.toList.foldl (fun acc f=>acc.bind fun (l:List TypeId)=>(bX P n f.type).bind fun m=>if f.offset=l.length/\m.length=P.cellsOf f.type then some (l++m) else none) (some [])).bind fun l=>if l.length=P.cellsOf t then some l else none
  |_=>none
def LTy (P:Program) (H:ac):Nat->TypeId->AV->Prop
 |0,_,_=>False
 | n + 1,t,x =>
  match P.underlying t with
  |some .bool=>∃b,x=.bool b
  |some (.int k)=>∃z,x=.int k z/\(Lit.int k z).wf=true
  | some (.slice e)=>∃(b:Nat) (rows:List (List AV)) (ls:List TypeId),x=.sl (some (b,0)) rows.length none/\bX P n e=some ls/\rows.length<=maxLen/\H[b]? = some (.cells false ls.length rows.flatten) /\
    ∀r:List AV,r∈rows->r.length=ls.length/\∀(j:Nat) (l:TypeId) (y:AV),ls[j]? = some l->r[j]? = some y->LTy P H n l y
  |_=>False
theorem LTy.app {P:Program}{H:ac}(l':ac):∀{n:Nat}{t:TypeId}{x:AV},LTy P H n t x->LTy P (H++l') n t x
 |0,_,_,h=>by simp[LTy] at h
 | n+1,t,x,h=>by
  unfold LTy at h ⊢
  split at h
  ·exact h
  ·exact h
  ·obtain⟨b,rows,ls,h1,h2,h2',h3,h4⟩:=h
   exact⟨b,rows,ls,h1,h2,h2',ae h3,fun r hr=>⟨(h4 r hr).1,fun j l y hj hy=>((h4 r hr).2 j l y hj hy).app l'⟩⟩
  exact h
def RTy (P:Program) (H:ac) (n:Nat) (ls:List TypeId) (r:List AV):Prop:=r.length=ls.length/\∀(j:Nat) (l:TypeId) (y:AV),ls[j]? = some l->r[j]? = some y->LTy P H n l y
theorem RTy.app {P:Program}{H:ac}(l':ac){n:Nat}{ls:List TypeId}{r:List AV}(h:RTy P H n ls r):RTy P (H++l') n ls r:=⟨h.1,fun j l y a b=>(h.2 j l y a b).app l'⟩
def ATy (P:Program) (H:ac) (n:Nat) (t:TypeId) (x:AV):Prop:=∃ls xs,bX P n t=some ls/\RTy P H n ls xs/\((bb P t=some true/\x=.agg xs)\/(bb P t=some false/\xs=[x]))
theorem ATy.app {P:Program}{H:ac}(l':ac){n:Nat}{t:TypeId}{x:AV}(h:ATy P H n t x):ATy P (H++l') n t x:=by
 obtain⟨ls,xs,h1,h2,h3⟩:=h
 exact⟨ls,xs,h1,h2.app l',h3⟩
section
variable {K:Type} {enc:TypeId×Value->K} {P:Program} {w:World} {base:Nat} {held:Bool}
def Reads (enc:TypeId×Value->K) (P:Program) (w:World) (base:Nat) (held:Bool) (ls:List TypeId) (cs:List Value):Prop :=
 cs.length=ls.length/\∀(j:Nat) (l:TypeId) (v:Value),ls[j]? = some l->cs[j]? = some v->∃fuel y,DataW.trod enc P w base (fun _=>true) held fuel l [v]=some y
theorem Reads.append {ls ms:List TypeId}{cs ds:List Value}(h:Reads enc P w base held ls cs)(k:Reads enc P w base held ms ds):Reads enc P w base held (ls++ms) (cs++ds):=by
 refine⟨by simp[h.1,k.1],fun j l v hl hv=>?_⟩
 by_cases hj:j<ls.length
 ·rw[List.getElem?_append_left hj] at hl
  rw[List.getElem?_append_left (by rw[h.1];exact hj)] at hv
  exact h.2 j l v hl hv
 rw[List.getElem?_append_right (by omega)] at hl
 rw[List.getElem?_append_right (by rw[h.1];omega),h.1] at hv
 exact k.2 _ l v hl hv
theorem jB : ∀(n:Nat) (t:TypeId) (ls:List TypeId),bX P n t=some ls->∀(fuel:Nat) (cs:List Value) (y:DataW K×List MemPlace),DataW.trod enc P w base (fun _=>true) held fuel t cs=some y->Reads enc P w base held ls cs
 |0,_,_,h=>by simp[bX] at h
 | n + 1, t,ls,h=>by
  intro fuel cs y hy
  unfold bX at h
  split at h
  ·rename_i k ht
   simp at h;subst h
   obtain⟨z,rfl,-,-⟩:=DataW.trod_int ht hy
   exact ⟨rfl,fun j l v hl hv=>by cases j with
    |zero=>simp at hl hv;subst hl hv;exact⟨fuel,y,hy⟩
    |succ j=>simp at hl⟩
  ·rename_i ht
   simp at h;subst h
   obtain⟨z,rfl,-⟩:=DataW.trod_bool ht hy
   exact ⟨rfl,fun j l v hl hv=>by cases j with
    |zero=>simp at hl hv;subst hl hv;exact⟨fuel,y,hy⟩
    |succ j=>simp at hl⟩
  ·rename_i e ht
   obtain⟨l,-,h⟩:=am h
   split at h
   ·simp at h;subst h
    have h1:∃v,cs=[v]:=by
     rcases DataW.trod_slice ht hy with ⟨rfl,-⟩|⟨a,len,cap,_,_,_,-,rfl,-⟩
     ·exact⟨_,rfl⟩
     exact⟨_,rfl⟩
    obtain⟨v,rfl⟩:=h1
    exact ⟨rfl,fun j l v hl hv=>by cases j with
     |zero=>simp at hl hv;subst hl hv;exact⟨fuel,y,hy⟩
     |succ j=>simp at hl⟩
   cases h
  ·rename_i fs ht
   obtain⟨L,hL,h⟩:=am h
   split at h
   ·rename_i hlen
    simp at h;subst h
    obtain⟨xs,m,-,-,hcl,hxl,hf⟩:=DataW.trod_struct ht hy
    have gen:∀(l:List Field) (done:List TypeId),(∀f∈l,∃i:Nat,fs[i]? = some f)->done.length<=cs.length->Reads enc P w base held done (cs.take done.length) ->
      l.foldl (fun acc f=>acc.bind fun (l:List TypeId)=>(bX P n f.type).bind fun m=>if f.offset=l.length/\m.length=P.cellsOf f.type then some (l++m) else none) (some done)=some L->Reads enc P w base held L (cs.take L.length):=by
     intro l
     induction l with
     |nil=>intro done _ _ hd h;simp at h;subst h;exact hd
     | cons f l ih =>
      intro done hmem hle hd h
      simp only[List.foldl_cons,Option.bind_some] at h
      cases hm:bX P n f.type with
      | none =>
       rw[hm] at h
       simp only[Option.bind_none] at h
       exfalso
       clear ih hd hmem hL
       induction l with
       |nil=>simp at h
       |cons f' l ih=>simp only[List.foldl_cons,Option.bind_none] at h;exact ih h
      | some ms =>
       rw[hm] at h
       simp only[Option.bind_some] at h
       by_cases hc:f.offset=done.length/\ms.length=P.cellsOf f.type
       ·rw[if_pos hc] at h
        obtain⟨i,hi⟩:=hmem f (by simp)
        have h1:=hf i f hi
        have hxi:∃z,xs[i]? = some z:=by
         have:i<xs.length:=by
          have a:=(Array.getElem?_eq_some_iff.1 hi).1
          have b:=hxl
          omega
         exact⟨_,List.getElem?_eq_getElem this⟩
        obtain⟨z,hz⟩:=hxi
        rw[hz] at h1
        have hr:=jB n f.type ms hm m _ z h1
        have hrl:=hr.1
        rw[List.length_take,List.length_drop] at hrl
        have e1:cs.take (done++ms).length=cs.take done.length++(cs.drop f.offset).take (P.cellsOf f.type):=by
         rw[List.length_append,hc.1,<-hc.2,List.take_add]
        refine ih (done++ms) (fun f' hf'=>hmem f' (by simp[hf'])) (by rw[List.length_append];omega) ?_ h
        rw[e1]
        exact hd.append hr
       rw[if_neg hc] at h
       exfalso
       clear ih hd hmem hL
       induction l with
       |nil=>simp at h
       |cons f' l ih=>simp only[List.foldl_cons,Option.bind_none] at h;exact ih h
    have:=gen fs.toList [] (fun f hf=>by
     obtain⟨i,hi⟩:=List.getElem?_of_mem hf
     exact⟨i,by simpa using hi⟩) (by simp) ⟨by simp,fun j l v hl=>by simp at hl⟩ hL
    rwa [List.take_of_length_le (by omega)] at this
   cases h
  cases h
structure Top (E:Env) (H:ac) (w:World):Prop where
 emb:Emb E H w
 B:E.B=w.heap.size
 w0:E.w0=w
theorem Top.push {E:Env}{H:ac}(h:Top E H w) {a:Addr}{len cap es:Nat}{xs:List AV}(hsp:0<cap->a.spot=none) (hes:0<es) (hlen:xs.length=len*es) (hlc:len<=cap) (hcm:cap<=maxLen)
  (hx:∀(j:Nat) (x:AV),xs[j]? = some x->x.one=true/\∃v,w.cell? ⟨a.block,a.off+j,none⟩=some v/\Rel E x v) (hb:0<xs.length->a.block<w.heap.size) :
  ∃E',E.le E'/\Top E' (H++[.cells false es xs]) w/\Rel E' (.sl (some (H.length,0)) len none) (.slice (some a) len cap):=by
 have hle:=E.le_push ⟨a.block,a.off,cap*es,es⟩
 have hn:=h.emb.n
 have e1:(E.push ⟨a.block,a.off,cap*es,es⟩).loc H.length=⟨a.block,a.off,cap*es,es⟩:=by rw[<-hn];exact Env.push_new _ _
 refine⟨E.push ⟨a.block,a.off,cap*es,es⟩,hle,⟨⟨by simp[Env.push,hn],h.emb.below,h.emb.base,fun b x hbx=>?_,fun b c x y hbx hcy ox oy hbc=>?_⟩,h.B,h.w0⟩,?_⟩
 ·by_cases hbl:b<H.length
  ·rw[List.getElem?_append_left hbl] at hbx
   rw[Env.push_old _ _ (by omega)]
   exact(h.emb.blk b x hbx).mono hle (Nat.le_refl _) (fun _=>rfl) (fun _=>rfl)
  have hbe:b=H.length:=by have:=getElem?_lt hbx;simp at this;omega
  subst hbe
  rw[List.getElem?_append_right (Nat.le_refl _),Nat.sub_self] at hbx
  simp at hbx;subst hbx
  rw[e1]
  refine⟨fun j x hj=>?_,(fun h=>by cases h),fun _ h0=>?_,rfl⟩
  ·obtain⟨h1,v,h2,h3⟩:=hx j x hj
   exact⟨h1,v,h2,h3.mono hle⟩
  show a.block<E.B
  rw[h.B];exact hb h0
 ·by_cases hbl:b<H.length
  ·by_cases hcl:c<H.length
   ·rw[List.getElem?_append_left hbl] at hbx
    rw[List.getElem?_append_left hcl] at hcy
    rw[Env.push_old _ _ (by omega),Env.push_old _ _ (by omega)]
    exact h.emb.inj b c x y hbx hcy ox oy hbc
   have hbe:c=H.length:=by have:=getElem?_lt hcy;simp at this;omega
   subst hbe
   rw[List.getElem?_append_right (Nat.le_refl _),Nat.sub_self] at hcy
   simp at hcy;subst hcy;cases oy
  have hbe:b=H.length:=by have:=getElem?_lt hbx;simp at this;omega
  subst hbe
  rw[List.getElem?_append_right (Nat.le_refl _),Nat.sub_self] at hbx
  simp at hbx;subst hbx;cases ox
 refine .sl _ _ _ _ _ _ (by simp[Env.push,hn]) hlc hcm (.inl rfl) ?_ ?_
 ·rcases Nat.eq_zero_or_pos cap with h0|h0
  ·exact .inl h0
  right
  rw[e1]
  obtain⟨b,o,s⟩:=a
  simp only at hsp
  rw[hsp h0];rfl
 rw[e1];simp
def fw (P:Program) (t:TypeId):Bool:=match P.underlying t with
 |some (.int _)|some .bool|some (.slice _)=>true
 |_=>false
theorem gl {α β:Type}(f:Option β->α->Option β)(hf:∀a,f none a=none):∀l:List α,l.foldl f none=none
 |[]=>rfl
 |a::l=>by rw[List.foldl_cons,hf];exact gl f hf l
theorem ng {n:Nat}:∀(l:List Field) (done L:List TypeId),l.foldl (fun acc f=>acc.bind fun (l:List TypeId)=>(bX P n f.type).bind fun m=>if f.offset=l.length/\m.length=P.cellsOf f.type then some (l++m) else none) (some done)=some L ->
  ∀x∈L,x∈done\/∃f∈l,∃m,bX P n f.type=some m/\x∈m
 |[],done,L,h,x,hx=>by simp at h;subst h;exact .inl hx
 | f :: l,done,L,h,x,hx=>by
  simp only[List.foldl_cons,Option.bind_some] at h
  cases hm:bX P n f.type with
  |none=>rw[hm,Option.bind_none,gl _ (fun _=>rfl)] at h;cases h
  | some m =>
   rw[hm,Option.bind_some] at h
   split at h
   ·rcases ng l _ L h x hx with h1|⟨f',h1,h2⟩
    ·rcases List.mem_append.1 h1 with h1|h1
     ·exact .inl h1
     exact .inr ⟨f,by simp,m,hm,h1⟩
    exact .inr ⟨f',by simp[h1],h2⟩
   rw[gl _ (fun _=>rfl)] at h;cases h
theorem j9:∀(n:Nat) (t:TypeId) (ls:List TypeId),bX P n t=some ls->bX P (n+1) t=some ls
 |0,_,_,h=>by simp[bX] at h
 | n + 1,t,ls,h=>by
  unfold bX at h ⊢
  split at h
  ·exact h
  ·exact h
  ·obtain⟨l,h1,h2⟩:=am h
   rw[j9 n _ l h1]
   exact h2
  ·rename_i fs ht
   obtain⟨L,h1,h2⟩:=am h
   have gen:∀(l:List Field) (done:List TypeId),l.foldl (fun acc f=>acc.bind fun (l:List TypeId)=>(bX P n f.type).bind fun m=>if f.offset=l.length/\m.length=P.cellsOf f.type then some (l++m) else none) (some done)=some L ->
     l.foldl (fun acc f=>acc.bind fun (l:List TypeId)=>(bX P (n+1) f.type).bind fun m=>if f.offset=l.length/\m.length=P.cellsOf f.type then some (l++m) else none) (some done)=some L:=by
    intro l
    induction l with
    |nil=>exact fun _ h=>h
    | cons f l ih =>
     intro done h
     simp only[List.foldl_cons,Option.bind_some] at h ⊢
     cases hm:bX P n f.type with
     |none=>rw[hm,Option.bind_none,gl _ (fun _=>rfl)] at h;cases h
     | some m =>
      rw[hm,Option.bind_some] at h
      rw[j9 n _ m hm,Option.bind_some]
      split at h
      ·rename_i hc;rw[if_pos hc];exact ih _ h
      rw[gl _ (fun _=>rfl)] at h;cases h
   rw[gen _ _ h1]
   exact h2
  cases h
theorem kc:∀(n:Nat) (t:TypeId) (ls:List TypeId),bX P n t=some ls->∀l∈ls,fw P l=true/\bX P n l=some [l]
 |0,_,_,h=>by simp[bX] at h
 | n + 1,t,ls,h=>by
  have h0:=h
  unfold bX at h
  split at h
  ·rename_i k ht
   simp at h;subst h
   exact fun l hl=>by simp at hl;subst hl;exact⟨by unfold fw;rw[ht],h0⟩
  ·rename_i ht
   simp at h;subst h
   exact fun l hl=>by simp at hl;subst hl;exact⟨by unfold fw;rw[ht],h0⟩
  ·rename_i e ht
   obtain⟨l,h1,h2⟩:=am h
   split at h2
   ·simp at h2;subst h2
    exact fun l hl=>by simp at hl;subst hl;exact⟨by unfold fw;rw[ht],h0⟩
   cases h2
  ·rename_i fs ht
   obtain⟨L,h1,h2⟩:=am h
   split at h2
   ·simp at h2;subst h2
    intro l hl
    rcases ng _ _ _ h1 l hl with h3|⟨f,-,m,h4,h5⟩
    ·simp at h3
    obtain⟨k1,k2⟩:=kc n f.type m h4 l h5
    exact⟨k1,j9 n l _ k2⟩
   cases h2
  cases h
def OpenAt (K:Type) (enc:TypeId×Value->K) (P:Program) (w:World) (base:Nat) (held:Bool) (n:Nat):Prop :=
 ∀ (t:TypeId) (v:Value) (fuel:Nat) (y:DataW K×List MemPlace),fw P t=true->bX P n t=some [t]->DataW.trod enc P w base (fun _=>true) held fuel t [v]=some y->∀(E:Env) (H:ac),Top E H w ->
  ∃(E':Env) (l:ac) (x:AV),E.le E'/\Top E' (H++l) w/\Rel E' x v/\x.one=true/\LTy P (H++l) n t x
theorem mq {n:Nat}(IH:OpenAt K enc P w base held n):∀(ls:List TypeId) (cs:List Value),(∀l∈ls,fw P l=true/\bX P n l=some [l])->Reads enc P w base held ls cs->∀(E:Env) (H:ac),Top E H w ->
  ∃(E':Env) (l:ac) (xs:List AV),E.le E'/\Top E' (H++l) w/\RelL E' xs cs/\(∀x∈xs,x.one=true)/\RTy P (H++l) n ls xs
 | [],cs,_,hr,E,H,hT=>by
  have:cs=[]:=List.eq_nil_of_length_eq_zero hr.1
  subst this
  exact⟨E,[],[],.refl E,by simpa using hT,.nil E,fun x hx=>by simp at hx,rfl,fun j l y h=>by simp at h⟩
 | t :: ls,cs,hl,hr,E,H,hT=>by
  cases cs with
  |nil=>have:=hr.1;simp at this
  | cons v cs =>
   obtain⟨fuel,y,hy⟩:=hr.2 0 t v rfl rfl
   obtain⟨E1,l1,x,e1,t1,r1,o1,y1⟩:=IH t v fuel y (hl t (by simp)).1 (hl t (by simp)).2 hy E H hT
   obtain⟨E2,l2,xs,e2,t2,r2,o2,y2⟩:=mq IH ls cs (fun l h=>hl l (by simp[h])) ⟨by have:=hr.1;simpa using this,fun j l u h1 h2=>hr.2 (j+1) l u (by simpa using h1) (by simpa using h2)⟩ E1 (H++l1) t1
   refine⟨E2,l1++l2,x::xs,e1.trans e2,by simpa using t2,.cons (r1.mono e2) r2,fun z hz=>?_,by simp[y2.1],fun j l u h1 h2=>?_⟩
   ·rcases List.mem_cons.1 hz with rfl|hz
    ·exact o1
    exact o2 z hz
   cases j with
   | zero =>
    simp at h1 h2;subst h1 h2
    have:=y1.app l2
    simpa using this
   | succ j => 
    have:=y2.2 j l u (by simpa using h1) (by simpa using h2)
    simpa using this
theorem mr {es:Nat}:∀(rows:List (List AV)),(∀r:List AV,r∈rows->r.length=es)->rows.flatten.length=rows.length*es
 |[],_=>by simp
 | r::rows,h=>by
  have:=mr rows (fun r' h'=>h r' (by simp[h']))
  have:=h r (by simp)
  simp only[List.flatten_cons,List.length_append,List.length_cons,Nat.add_mul,Nat.one_mul]
  omega
theorem kY:∀(n:Nat),OpenAt K enc P w base held n
 |0=>fun _ _ _ _ _ h=>by simp[bX] at h
 | n + 1 => fun t v fuel y hp h hy E H hT=>by
  unfold bX at h
  split at h
  ·rename_i k ht
   obtain⟨z,hz,-,hw⟩:=DataW.trod_int ht hy
   simp at hz;subst hz
   exact⟨E,[],.int k z,.refl E,by simpa using hT,.int k z,rfl,by unfold LTy;rw[ht];exact⟨z,rfl,hw⟩⟩
  ·rename_i ht
   obtain⟨z,hz,-⟩:=DataW.trod_bool ht hy
   simp at hz;subst hz
   exact⟨E,[],.bool z,.refl E,by simpa using hT,.bool z,rfl,by unfold LTy;rw[ht];exact⟨z,rfl⟩⟩
  ·rename_i e ht
   obtain⟨ls,hls,h⟩:=am h
   split at h
   ·rename_i hc
    rcases DataW.trod_slice ht hy with ⟨hv,-⟩|⟨a,len,cap,elems,rest,m,-,hv,-,hb,hlc,hcm,hel,hei,hsp,-⟩
    ·simp at hv;subst hv
     refine⟨E.push ⟨0,0,0,ls.length⟩,[.cells false ls.length []],.sl (some (H.length,0)) 0 none,E.le_push _,⟨hT.emb.phantom rfl,hT.B,hT.w0⟩,.nils _ _ (by rw[<-hT.emb.n];exact Nat.lt_succ_self _) (.inl rfl),rfl,?_⟩
     unfold LTy;rw[ht]
     exact⟨H.length,[],ls,rfl,hls,by simp,by simp,fun r h=>by simp at h⟩
    simp at hv;subst hv
    obtain⟨hrl,hri⟩:=hsp rfl
    have hrow:∀i,i<len->∃cs,w.cells? base (a.add (i*P.cellsOf e)) (P.cellsOf e)=some cs/\Reads enc P w base held ls cs:=fun i hi=>by
     have h1:=hei i hi
     have hi':i<elems.length:=by omega
     rw[List.getElem?_eq_getElem hi'] at h1
     obtain⟨cs,h2,h3⟩:=Option.bind_eq_some_iff.1 h1
     exact⟨cs,h2,jB n e ls hls _ _ _ h3⟩
    have hspot:0<cap->a.spot=none:=fun h0=>by
     have hz:∃cs,w.cells? base (a.add (0*P.cellsOf e)) (P.cellsOf e)=some cs:=by
      rcases Nat.eq_zero_or_pos len with hl0|hl0
      ·have h1:=hri 0 (by omega)
       have hi':0<rest.length:=by omega
       rw[List.getElem?_eq_getElem hi',hl0,Nat.zero_add] at h1
       obtain⟨cs,h2,-⟩:=Option.bind_eq_some_iff.1 h1
       exact⟨cs,h2⟩
      obtain⟨cs,h2,-⟩:=hrow 0 hl0
      exact⟨cs,h2⟩
     obtain⟨cs,hz⟩:=hz
     obtain⟨-,hcl,hc0⟩:=World.cells?_some hz
     have:=hc0 0 (by omega)
     rw[List.getElem?_eq_getElem (by omega)] at this
     have hs:=World.cell?_spot this
     simpa [Addr.add] using hs
    have hrowlt:∀i,i<len->a.block<w.heap.size:=fun i hi=>by
     obtain⟨cs,h2,-⟩:=hrow i hi
     have:=World.cells?_block h2 (by omega)
     rwa [block_add] at this
    -- all rows, one behind the other
    have all:∀k,k<=len->∃(E':Env) (l:ac) (rows:List (List AV)),E.le E'/\Top E' (H++l) w/\rows.length=k/\(∀r:List AV,r∈rows->RTy P (H++l) n ls r) /\
      ∀(j:Nat) (x:AV),rows.flatten[j]? = some x->x.one=true/\∃v,w.cell? ⟨a.block,a.off+j,none⟩=some v/\Rel E' x v:=by
     intro k
     induction k with
     |zero=>exact fun _=>⟨E,[],[],.refl E,by simpa using hT,rfl,fun r hr=>by simp at hr,fun j x h=>by simp at h⟩
     | succ k ih =>
      intro hk
      obtain⟨E1,l1,rows,e1,t1,r1,r2,r3⟩:=ih (by omega)
      obtain⟨cs,c1,c2⟩:=hrow k (by omega)
      obtain⟨E2,l2,xs,e2,t2,x1,x2,x3⟩:=mq (kY n) ls cs (fun l hl=>kc n e ls hls l hl) c2 E1 (H++l1) t1
      obtain⟨-,hcl,hcc⟩:=World.cells?_some c1
      have hfl:rows.flatten.length=k*ls.length:=by rw[mr rows (fun r hr=>(r2 r hr).1),r1]
      refine⟨E2,l1++l2,rows++[xs],e1.trans e2,by simpa using t2,by simp[r1],fun r hr=>?_,fun j x hj=>?_⟩
      ·rcases List.mem_append.1 hr with hr|hr
       ·have:=(r2 r hr).app l2
        simpa using this
       simp at hr;subst hr
       simpa using x3
      rw[List.flatten_append] at hj
      simp only[List.flatten_cons,List.flatten_nil,List.append_nil] at hj
      by_cases hjl:j<rows.flatten.length
      ·rw[List.getElem?_append_left hjl] at hj
       obtain⟨q1,v,q2,q3⟩:=r3 j x hj
       exact⟨q1,v,q2,q3.mono e2⟩
      rw[List.getElem?_append_right (by omega)] at hj
      have hjx:=getElem?_lt hj
      have hxl:xs.length=cs.length:=x1.1
      have hcj:=hcc (j-rows.flatten.length) (by omega)
      obtain⟨v,hv,hr⟩:=x1.get hj
      refine⟨x2 x (List.mem_of_getElem? hj),v,?_,hr⟩
      rw[hv,hfl] at hcj
      have hs:=hspot (by omega)
      obtain⟨ab,ao,sp⟩:=a
      simp only at hs
      subst hs
      rw[<-hc.1] at hcj
      have ea:(({ block:=ab,off:=ao,spot:=none }:Addr).add (k*ls.length)).add (j-k*ls.length)=⟨ab,ao+j,none⟩:=by
       have:∀(m:Nat),({ block:=ab,off:=ao,spot:=none }:Addr).add m=⟨ab,ao+m,none⟩:=fun m=>d6 ab ao m
       rw[this,d6]
       congr 1;omega
      rw[ea] at hcj
      exact hcj
    obtain⟨E1,l1,rows,e1,t1,r1,r2,r3⟩:=all len (Nat.le_refl _)
    have hfl:rows.flatten.length=len*ls.length:=by rw[mr rows (fun r hr=>(r2 r hr).1),r1]
    obtain ⟨E2,e2,t2,hrel⟩:=t1.push (a:=a) (len:=len) (cap:=cap) (es:=ls.length) (xs:=rows.flatten) hspot hc.2 hfl hlc hcm r3 (fun h0=>hrowlt 0 (by
     rcases Nat.eq_zero_or_pos len with hl0|hl0
     ·rw[hfl,hl0] at h0;simp at h0
     exact hl0))
    refine⟨E2,l1++[.cells false ls.length rows.flatten],.sl (some ((H++l1).length,0)) len none,e1.trans e2,by simpa using t2,hrel,rfl,?_⟩
    unfold LTy
    rw[ht]
    refine⟨(H++l1).length,rows,ls,by rw[r1],hls,by omega,?_,fun r hr=>?_⟩
    ·rw[<-List.append_assoc,List.getElem?_append_right (Nat.le_refl _),Nat.sub_self];rfl
    have:=(r2 r hr).app [.cells false ls.length rows.flatten]
    rw[List.append_assoc] at this
    exact this
   cases h
  ·rename_i fs ht
   unfold fw at hp;rw[ht] at hp;cases hp
  cases h
theorem tAgg_leaf {t:TypeId}(h:fw P t=true):bb P t=some false:=by
 unfold fw at h
 unfold bb
 split at h<;>first|(rename_i h1;rw[h1])|cases h
theorem open_arg {r:Reach}{b0 n:Nat}{t:TypeId}{v:Value}{d:DataW K}{p:List MemPlace}{ls:List TypeId}(hl:bX P n t=some ls)(hok:Value.okWide P w r b0 t v)(h:DataW.Trod enc P w base (fun _=>true) held t v d p){E:Env}{H:ac}(hT:Top E H w):
  ∃(E':Env) (l:ac) (x:AV),E.le E'/\Top E' (H++l) w/\Rel E' x v/\ATy P (H++l) n t x:=by
 obtain⟨fuel,hf⟩:=h
 cases n with
 |zero=>simp[bX] at hl
 | succ n =>
  have hl0:=hl
  have leaf:∀(hp:fw P t=true) (hs:bX P (n+1) t=some [t]) (hv:v.cells.toList=[v]),∃(E':Env) (l:ac) (x:AV),E.le E'/\Top E' (H++l) w/\Rel E' x v/\ATy P (H++l) (n+1) t x:=fun hp hs hv=>by
   rw[hv] at hf
   obtain⟨E',l,x,e1,t1,r1,o1,y1⟩:=kY (n+1) t v fuel _ hp hs hf E H hT
   exact ⟨E',l,x,e1,t1,r1,[t],[x],hs,⟨rfl,fun j l y hj hy=>by cases j with
    |zero=>simp at hj hy;subst hj hy;exact y1
    |succ j=>simp at hj⟩,.inr ⟨tAgg_leaf hp,rfl⟩⟩
  unfold bX at hl
  split at hl
  ·rename_i k ht
   simp at hl;subst hl
   obtain⟨z,rfl⟩:=okWide_int ht hok
   exact leaf (by unfold fw;rw[ht]) hl0 rfl
  ·rename_i ht
   simp at hl;subst hl
   obtain⟨z,rfl⟩:=okWide_bool ht hok
   exact leaf (by unfold fw;rw[ht]) hl0 rfl
  ·rename_i e ht
   obtain⟨l,h1,h2⟩:=am hl
   split at h2
   ·simp at h2;subst h2
    obtain⟨a,b,c,rfl⟩:=okWide_slice ht hok
    exact leaf (by unfold fw;rw[ht]) hl0 rfl
   cases h2
  ·rename_i fs ht
   obtain⟨cs,rfl,hsz⟩:=okWide_struct ht hok
   have hr:=jB (n+1) t ls hl0 fuel _ _ hf
   obtain⟨E',l,xs,e1,t1,r1,o1,y1⟩:=mq (kY (n+1)) ls _ (fun l hl=>kc _ _ _ hl0 l hl) hr E H hT
   refine⟨E',l,.agg xs,e1,t1,?_,ls,xs,hl0,y1,.inl ⟨by unfold bb;rw[ht],rfl⟩⟩
   have:=RelL.agg r1
   simpa [Value.cells] using this
  cases hl
theorem o7 {r:Reach}{b0 n:Nat}:∀(ts:List TypeId) (vs:List Value) (ds:List (DataW K)) (p:List MemPlace),DataW.TrodAll enc P w base (fun _=>true) held ts vs ds p ->
  (∀(j:Nat) (t:TypeId) (v:Value),ts[j]? = some t->vs[j]? = some v->Value.okWide P w r b0 t v)->(ts.all fun t=>(bX P n t).isSome)=true->∀(E:Env) (H:ac),Top E H w ->
  ∃(E':Env) (l:ac) (xs:List AV),E.le E'/\Top E' (H++l) w/\RelL E' xs vs/\xs.length=ts.length/\∀(j:Nat) (t:TypeId) (x:AV),ts[j]? = some t->xs[j]? = some x->ATy P (H++l) n t x
 |[],[],[],_,_,_,_,E,H,hT=>⟨E,[],[],.refl E,by simpa using hT,.nil E,rfl,fun j t x h=>by simp at h⟩
 | t::ts,v::vs,d::ds,_,h,hok,hl,E,H,hT=>by
  obtain⟨p,q,h1,h2,-⟩:=h
  simp only[List.all_cons,Bool.and_eq_true] at hl
  obtain⟨ls,hls⟩:=Option.isSome_iff_exists.1 hl.1
  obtain⟨E1,l1,x,e1,t1,r1,y1⟩:=open_arg hls (hok 0 t v rfl rfl) h1 hT
  obtain⟨E2,l2,xs,e2,t2,r2,n2,y2⟩:=o7 ts vs ds q h2 (fun j t v a b=>hok (j+1) t v (by simpa using a) (by simpa using b)) hl.2 E1 (H++l1) t1
  refine⟨E2,l1++l2,x::xs,e1.trans e2,by simpa using t2,.cons (r1.mono e2) r2,by simp[n2],fun j t' x' a b=>?_⟩
  cases j with
  | zero =>
   simp at a b;subst a b
   have:=y1.app l2
   simpa using this
  | succ j =>
   have:=y2 j t' x' (by simpa using a) (by simpa using b)
   simpa using this
 |[],_::_,_,_,h,_,_,_,_,_=>by simp[DataW.TrodAll] at h
 |[],[],_::_,_,h,_,_,_,_,_=>by simp[DataW.TrodAll] at h
 |_::_,[],_,_,h,_,_,_,_,_=>by simp[DataW.TrodAll] at h
 |_::_,_::_,[],_,h,_,_,_,_,_=>by simp[DataW.TrodAll] at h
theorem calls_top {r:Reach}{b0 n:Nat}{f:FuncId}{ts:List TypeId}{vs:List Value}{ds:List (DataW K)}{p:List MemPlace}(hA:DataW.TrodAll enc P w base (fun _=>true) held ts vs ds p)
  (hok:∀(j:Nat) (t:TypeId) (v:Value),ts[j]? = some t->vs[j]? = some v->Value.okWide P w r b0 t v) (hl:(ts.all fun t=>(bX P n t).isSome)=true)
  (hc:∀(H:ac) (xs:List AV),xs.length=ts.length->(∀(j:Nat) (t:TypeId) (x:AV),ts[j]? = some t->xs[j]? = some x->ATy P H n t x)->ACalls P f xs H (fun v H'=>v=.bool true/\H'=H)) :
  Calls P f vs.toArray w fun e w'=>e=.returned (.bool true)/\Below w.heap.size w w':=by
 have hT0:Top ⟨w.heap.size,w,0,fun _=>⟨0,0,0,0⟩⟩ [] w:=⟨⟨rfl,.refl _ _,Nat.le_refl _,fun b x h=>by simp at h,fun b c x y h=>by simp at h⟩,rfl,rfl⟩
 obtain⟨E,l,xs,-,hT,hr,hn,hy⟩:=o7 ts vs ds p hA hok hl _ [] hT0
 refine(hc ([]++l) xs hn hy E w vs hT.emb hr).mono fun e w' ⟨E',v,H',x,he,⟨hx,_⟩,hle,hrel,hemb⟩=>⟨?_,?_⟩
 ·subst hx;cases hrel;exact he
 have:=hemb.below
 rw[hle.B,hle.w0,hT.B,hT.w0] at this
 exact this
end
section
variable {P:Program} {H:ac} {n:Nat}
def IsP (H:ac) (s:AV) (l:List (Int×Int)):Prop:=(l=[]/\s=.sl none 0 (some 0))\/∃b own cap,s=.sl (some (b,0)) l.length cap/\H[b]? = some (.cells own 2 (prs l))
theorem IsP.app {s:AV}{l:List (Int×Int)}(h:IsP H s l)(l':ac):IsP (H++l') s l:=by
 rcases h with h|⟨b,own,cap,h1,h2⟩
 ·exact .inl h
 exact .inr ⟨b,own,cap,h1,ae h2⟩
def IsI (H:ac) (k:IntKind) (s:AV) (l:List Int):Prop:=(l=[]/\s=.sl none 0 (some 0))\/∃b own cap,s=.sl (some (b,0)) l.length cap/\H[b]? = some (.cells own 1 (ints k l))
theorem IsI.app {k:IntKind}{s:AV}{l:List Int}(h:IsI H k s l)(l':ac):IsI (H++l') k s l:=by
 rcases h with h|⟨b,own,cap,h1,h2⟩
 ·exact .inl h
 exact .inr ⟨b,own,cap,h1,ae h2⟩
theorem RTy.cons {t:TypeId}{ls:List TypeId}{r:List AV}(h:RTy P H n (t::ls) r):∃y r',r=y::r'/\LTy P H n t y/\RTy P H n ls r':=by
 cases r with
 |nil=>have:=h.1;simp at this
 |cons y r=>exact⟨y,r,rfl,h.2 0 t y rfl rfl,by have:=h.1;simpa using this,fun j l u a b=>h.2 (j+1) l u (by simpa using a) (by simpa using b)⟩
theorem RTy.nil {r:List AV}(h:RTy P H n [] r):r=[]:=List.eq_nil_of_length_eq_zero h.1
theorem LTy.int {t:TypeId}{k:IntKind}{x:AV}(ht:P.underlying t=some (.int k))(h:LTy P H (n+1) t x):∃z,x=.int k z/\(Lit.int k z).wf=true:=by
 unfold LTy at h;rw[ht] at h;exact h
theorem LTy.bool {t:TypeId}{x:AV}(ht:P.underlying t=some .bool)(h:LTy P H (n+1) t x):∃b,x=.bool b:=by
 unfold LTy at h;rw[ht] at h;exact h
theorem LTy.slice {t e:TypeId}{x:AV}{ls:List TypeId}(ht:P.underlying t=some (.slice e))(hl:bX P n e=some ls)(h:LTy P H (n+1) t x):
  ∃(b:Nat) (rows:List (List AV)),x=.sl (some (b,0)) rows.length none/\rows.length<=maxLen/\H[b]? = some (.cells false ls.length rows.flatten)/\∀r:List AV,r∈rows->RTy P H n ls r:=by
 unfold LTy at h;rw[ht] at h
 obtain⟨b,rows,ls',h1,h2,h3,h4,h5⟩:=h
 rw[hl] at h2;simp at h2;subst h2
 exact⟨b,rows,h1,h3,h4,h5⟩
theorem ATy.agg {t:TypeId}{x:AV}{ls:List TypeId}(hl:bX P n t=some ls)(ha:bb P t=some true)(h:ATy P H n t x):∃xs,x=.agg xs/\RTy P H n ls xs:=by
 obtain⟨ls',xs,h1,h2,h3⟩:=h
 rw[hl] at h1;simp at h1;subst h1
 rcases h3 with ⟨-,h3⟩|⟨h3,-⟩
 ·exact⟨xs,h3,h2⟩
 rw[ha] at h3;cases h3
theorem ATy.one {t:TypeId}{x:AV}(hl:bX P n t=some [t])(ha:bb P t=some false)(h:ATy P H n t x):LTy P H n t x:=by
 obtain⟨ls',xs,h1,h2,h3⟩:=h
 rw[hl] at h1;simp at h1;subst h1
 rcases h3 with ⟨h3,-⟩|⟨-,h3⟩
 ·rw[ha] at h3;cases h3
 subst h3;exact h2.2 0 t x rfl rfl
theorem kZ {k:IntKind}{t:TypeId}(ht:P.underlying t=some (.int k)):∀rows:List (List AV),(∀r:List AV,r∈rows->RTy P H (n+1) [t] r)->∃l:List Int,l.length=rows.length/\rows.flatten=ints k l/\∀z∈l,(Lit.int k z).wf=true
 |[],_=>⟨[],rfl,rfl,fun z h=>by simp at h⟩
 | r::rows,h=>by
  obtain⟨l,h1,h2,h3⟩:=kZ ht rows fun r' hr=>h r' (by simp[hr])
  obtain⟨y,r',rfl,hy,hr⟩:=(h r (by simp)).cons
  obtain rfl:=hr.nil
  obtain⟨z,rfl,hz⟩:=hy.int ht
  exact ⟨z::l,by simp[h1],by simp[h2,ints],fun z' h'=>by
   rcases List.mem_cons.1 h' with rfl|h'
   ·exact hz
   exact h3 _ h'⟩
theorem qc {t u:TypeId}(ht:P.underlying t=some (.int .i64))(hu:P.underlying u=some (.int .i64)):∀rows:List (List AV),(∀r:List AV,r∈rows->RTy P H (n+1) [t,u] r)->∃l:List (Int×Int),l.length=rows.length/\rows.flatten=prs l/\∀p∈l,(Lit.int .i64 p.1).wf=true/\(Lit.int .i64 p.2).wf=true
 |[],_=>⟨[],rfl,rfl,fun z h=>by simp at h⟩
 | r::rows,h=>by
  obtain⟨l,h1,h2,h3⟩:=qc ht hu rows fun r' hr=>h r' (by simp[hr])
  obtain⟨y,r',rfl,hy,hr⟩:=(h r (by simp)).cons
  obtain⟨y2,r',rfl,hy2,hr⟩:=hr.cons
  obtain rfl:=hr.nil
  obtain⟨z,rfl,hz⟩:=hy.int ht
  obtain⟨z2,rfl,hz2⟩:=hy2.int hu
  exact ⟨(z,z2)::l,by simp[h1],by simp[h2,cJ],fun z' h'=>by
   rcases List.mem_cons.1 h' with rfl|h'
   ·exact⟨hz,hz2⟩
   exact h3 _ h'⟩
theorem LTy.ints {t e:TypeId}{k:IntKind}{x:AV}(ht:P.underlying t=some (.slice e))(he:P.underlying e=some (.int k))(hl:bX P (n+1) e=some [e])(h:LTy P H (n+2) t x):∃l:List Int,IsI H k x l/\l.length<=maxLen/\∀z∈l,(Lit.int k z).wf=true:=by
 obtain⟨b,rows,rfl,h1,h2,h3⟩:=h.slice ht hl
 obtain⟨l,k1,k2,k3⟩:=kZ he rows h3
 exact⟨l,.inr ⟨b,false,none,by rw[k1],by rw[<-k2];exact h2⟩,by omega,k3⟩
end
abbrev iV (x:Int):AV:=.int .i64 x
theorem amset0:type_of% (aiX @Int.natCast_zero <| And.intro (@gt_iff_lt.{0}) <| And.intro (@ge_iff_le.{0}) <| aiX @go_skip <| aiX @go_label <| aiX @go_seq <| aiX @go_block <| aiX @go_endB <| aiX @go_exit <| aiX @oX <| aiX @oY <| aiX @p7 <| aiX @go_ret <| aiX @go_cond <| aiX @cond_t <| aiX @cond_f <| aiX @go_region <| aiX @go_regionD <| aiX @go_ops_nil <| aiX @go_opsD_nil <| aiX @go_ops <| aiX @go_opsD <| And.intro (@Option.getD_some.{0}) <| (@oT)) :=
 aiX @Int.natCast_zero <| And.intro (@gt_iff_lt.{0}) <| And.intro (@ge_iff_le.{0}) <| aiX @go_skip <| aiX @go_label <| aiX @go_seq <| aiX @go_block <| aiX @go_endB <| aiX @go_exit <| aiX @oX <| aiX @oY <| aiX @p7 <| aiX @go_ret <| aiX @go_cond <| aiX @cond_t <| aiX @cond_f <| aiX @go_region <| aiX @go_regionD <| aiX @go_ops_nil <| aiX @go_opsD_nil <| aiX @go_ops <| aiX @go_opsD <| And.intro (@Option.getD_some.{0}) <| (@oT)
theorem amset1:type_of% (aiX @oU <| aiX @oV <| aiX @oW <| aiX @p6 <| aiX @k_some <| aiX @nb <| aiX @nd <| aiX @l9 <| aiX @k_cond <| And.intro (@bne_self_eq_false.{0}) <| aiX @Nat.add_sub_cancel <| aiX @oZ <| aiX @o0 <| And.intro (@if_true.{1}) <| And.intro (@if_false.{1}) <| aiX @p8 <| aiX @Int.toNat_natCast <| aiX @cN <| aiX @ah <| aiX @p9 <| aiX @j8 <| aiX @len_lit <| aiX @qa <| (@cond_true.{1})) :=
 aiX @oU <| aiX @oV <| aiX @oW <| aiX @p6 <| aiX @k_some <| aiX @nb <| aiX @nd <| aiX @l9 <| aiX @k_cond <| And.intro (@bne_self_eq_false.{0}) <| aiX @Nat.add_sub_cancel <| aiX @oZ <| aiX @o0 <| And.intro (@if_true.{1}) <| And.intro (@if_false.{1}) <| aiX @p8 <| aiX @Int.toNat_natCast <| aiX @cN <| aiX @ah <| aiX @p9 <| aiX @j8 <| aiX @len_lit <| aiX @qa <| (@cond_true.{1})
theorem amset2:type_of% (And.intro (@cond_false.{1}) <| And.intro (@List.map_cons.{0,0}) <| And.intro (@List.map_nil.{0,0}) <| And.intro (@Option.map_some.{0,0}) <| And.intro (@Option.map_none.{0,0}) <| And.intro (@Option.bind_some.{0,0}) <| And.intro (@Option.bind_none.{0,0}) <| And.intro (@Option.map_map.{0,0,0}) <| And.intro (@Option.map_bind.{0,0,0}) <| And.intro (@Option.bind_map.{0,0,0}) <| And.intro (@Function.comp_apply.{1,1,1}) <| And.intro (@List.cons_append.{0}) <| And.intro (@List.nil_append.{0}) <| And.intro (@List.append_assoc.{0}) <| And.intro (@List.append_nil.{0}) <| And.intro (@List.length_cons.{0}) <| And.intro (@List.length_nil.{0}) <| aiX @Nat.zero_add <| aiX @Nat.add_zero <| And.intro (@List.getElem?_cons_zero.{0}) <| And.intro (@List.getElem?_cons_succ.{0}) <| And.intro (@List.set_cons_zero.{0}) <| And.intro (@List.set_cons_succ.{0}) <| (@List.all_cons.{0})) :=
 And.intro (@cond_false.{1}) <| And.intro (@List.map_cons.{0,0}) <| And.intro (@List.map_nil.{0,0}) <| And.intro (@Option.map_some.{0,0}) <| And.intro (@Option.map_none.{0,0}) <| And.intro (@Option.bind_some.{0,0}) <| And.intro (@Option.bind_none.{0,0}) <| And.intro (@Option.map_map.{0,0,0}) <| And.intro (@Option.map_bind.{0,0,0}) <| And.intro (@Option.bind_map.{0,0,0}) <| And.intro (@Function.comp_apply.{1,1,1}) <| And.intro (@List.cons_append.{0}) <| And.intro (@List.nil_append.{0}) <| And.intro (@List.append_assoc.{0}) <| And.intro (@List.append_nil.{0}) <| And.intro (@List.length_cons.{0}) <| And.intro (@List.length_nil.{0}) <| aiX @Nat.zero_add <| aiX @Nat.add_zero <| And.intro (@List.getElem?_cons_zero.{0}) <| And.intro (@List.getElem?_cons_succ.{0}) <| And.intro (@List.set_cons_zero.{0}) <| And.intro (@List.set_cons_succ.{0}) <| (@List.all_cons.{0})
theorem amset3:type_of% (And.intro (@List.all_nil.{0}) <| aiX @Bool.and_true <| aiX @Bool.true_and <| aiX @Bool.and_self <| And.intro (@List.drop_zero.{0}) <| And.intro (@List.drop_succ_cons.{0}) <| And.intro (@List.take_succ_cons.{0}) <| And.intro (@List.take_zero.{0}) <| And.intro (@List.drop_nil.{0}) <| And.intro (@List.take_nil.{0}) <| And.intro (@beq_self_eq_true.{0}) <| aiX @true_and <| aiX @and_true <| aiX @Nat.lt_add_one <| aiX @decide_true <| aiX @decide_false <| aiX @Bool.not_true <| aiX @Bool.not_false <| aiX @Bool.or_true <| aiX @Bool.or_false <| aiX @Bool.false_or <| aiX @Bool.true_or <| aiX @beq_true <| (@beq_false)) :=
 And.intro (@List.all_nil.{0}) <| aiX @Bool.and_true <| aiX @Bool.true_and <| aiX @Bool.and_self <| And.intro (@List.drop_zero.{0}) <| And.intro (@List.drop_succ_cons.{0}) <| And.intro (@List.take_succ_cons.{0}) <| And.intro (@List.take_zero.{0}) <| And.intro (@List.drop_nil.{0}) <| And.intro (@List.take_nil.{0}) <| And.intro (@beq_self_eq_true.{0}) <| aiX @true_and <| aiX @and_true <| aiX @Nat.lt_add_one <| aiX @decide_true <| aiX @decide_false <| aiX @Bool.not_true <| aiX @Bool.not_false <| aiX @Bool.or_true <| aiX @Bool.or_false <| aiX @Bool.false_or <| aiX @Bool.true_or <| aiX @beq_true <| (@beq_false)
theorem amset4:type_of% (aiX @n7 <| aiX @rng0 <| aiX @rng1 <| aiX @rng2 <| aiX @rng3 <| aiX @rng4 <| aiX @rng5 <| aiX @rng6 <| aiX @rng7 <| aiX @rng8 <| aiX @rng9 <| aiX @rng10 <| aiX @rng11 <| aiX @rng12 <| aiX @rng16 <| aiX @bU <| aiX @ml <| aiX @ct <| aiX @jm <| aiX @kV <| aiX @kW <| aiX @ba <| And.intro (@List.length_append.{0}) <| (@Option.getD_none.{0})) :=
 aiX @n7 <| aiX @rng0 <| aiX @rng1 <| aiX @rng2 <| aiX @rng3 <| aiX @rng4 <| aiX @rng5 <| aiX @rng6 <| aiX @rng7 <| aiX @rng8 <| aiX @rng9 <| aiX @rng10 <| aiX @rng11 <| aiX @rng12 <| aiX @rng16 <| aiX @bU <| aiX @ml <| aiX @ct <| aiX @jm <| aiX @kV <| aiX @kW <| aiX @ba <| And.intro (@List.length_append.{0}) <| (@Option.getD_none.{0})
theorem amset5:type_of% (And.intro (@List.length_set.{0}) <| And.intro (@List.length_replicate.{0}) <| And.intro (@List.getD_cons_zero.{0}) <| And.intro (@List.getD_cons_succ.{0}) <| aiX @Nat.mul_one <| aiX @Nat.one_mul <| aiX @Nat.zero_mul <| (@Nat.mul_zero)) :=
 And.intro (@List.length_set.{0}) <| And.intro (@List.length_replicate.{0}) <| And.intro (@List.getD_cons_zero.{0}) <| And.intro (@List.getD_cons_succ.{0}) <| aiX @Nat.mul_one <| aiX @Nat.one_mul <| aiX @Nat.zero_mul <| (@Nat.mul_zero)
theorem amdef0:type_of% (aiX @AGd.eq_1 <| aiX @AGd.eq_2 <| aiX @gdL.eq_1 <| aiX @gdL.eq_2 <| aiX @gdL.eq_3 <| aiX @lightOf.eq_1 <| aiX @dsts.eq_1 <| aiX @ADo.eq_1 <| aiX @lenV.eq_1 <| aiX @lenV.eq_2 <| aiX @aev.eq_1 <| aiX @aev.eq_2 <| aiX @aev.eq_3 <| aiX @aev.eq_4 <| aiX @look.eq_1 <| aiX @look.eq_2 <| aiX @putF.eq_1 <| aiX @putF.eq_2 <| aiX @AV.cells.eq_1 <| aiX @AV.cells.eq_2 <| aiX @AV.flat.eq_1 <| aiX @AV.flat.eq_2 <| aiX @AV.flat.eq_3 <| (@AV.flat.eq_4)) :=
 aiX @AGd.eq_1 <| aiX @AGd.eq_2 <| aiX @gdL.eq_1 <| aiX @gdL.eq_2 <| aiX @gdL.eq_3 <| aiX @lightOf.eq_1 <| aiX @dsts.eq_1 <| aiX @ADo.eq_1 <| aiX @lenV.eq_1 <| aiX @lenV.eq_2 <| aiX @aev.eq_1 <| aiX @aev.eq_2 <| aiX @aev.eq_3 <| aiX @aev.eq_4 <| aiX @look.eq_1 <| aiX @look.eq_2 <| aiX @putF.eq_1 <| aiX @putF.eq_2 <| aiX @AV.cells.eq_1 <| aiX @AV.cells.eq_2 <| aiX @AV.flat.eq_1 <| aiX @AV.flat.eq_2 <| aiX @AV.flat.eq_3 <| (@AV.flat.eq_4)
theorem amdef1:type_of% (aiX @aAlloc.eq_1 <| aiX @aNew.eq_1 <| aiX @aBox.eq_1 <| aiX @aBuild.eq_1 <| aiX @afill.eq_1 <| aiX @afill.eq_2 <| aiX @splice.eq_1 <| aiX @splice.eq_2 <| aiX @aBuildSlice.eq_1 <| aiX @arep.eq_1 <| aiX @arep.eq_2 <| aiX @aLoad.eq_1 <| aiX @aLoad.eq_2 <| aiX @ard.eq_1 <| aiX @ards.eq_1 <| aiX @aStore.eq_1 <| aiX @aStore.eq_2 <| aiX @awrite.eq_1 <| aiX @aFieldAddr.eq_1 <| aiX @aFieldAddr.eq_2 <| aiX @aField.eq_1 <| aiX @aField.eq_2 <| aiX @aIndexAddr.eq_1 <| (@aIndexAddr.eq_2)) :=
 aiX @aAlloc.eq_1 <| aiX @aNew.eq_1 <| aiX @aBox.eq_1 <| aiX @aBuild.eq_1 <| aiX @afill.eq_1 <| aiX @afill.eq_2 <| aiX @splice.eq_1 <| aiX @splice.eq_2 <| aiX @aBuildSlice.eq_1 <| aiX @arep.eq_1 <| aiX @arep.eq_2 <| aiX @aLoad.eq_1 <| aiX @aLoad.eq_2 <| aiX @ard.eq_1 <| aiX @ards.eq_1 <| aiX @aStore.eq_1 <| aiX @aStore.eq_2 <| aiX @awrite.eq_1 <| aiX @aFieldAddr.eq_1 <| aiX @aFieldAddr.eq_2 <| aiX @aField.eq_1 <| aiX @aField.eq_2 <| aiX @aIndexAddr.eq_1 <| (@aIndexAddr.eq_2)
theorem amdef2:type_of% (aiX @aIndexAddr.eq_3 <| aiX @aIndex.eq_1 <| aiX @aIndex.eq_2 <| aiX @aExtract.eq_1 <| aiX @aExtract.eq_2 <| aiX @aBound.eq_1 <| aiX @aBound.eq_2 <| aiX @aBound.eq_3 <| aiX @aSlice.eq_1 <| aiX @aSlice.eq_2 <| aiX @aSlice.eq_3 <| aiX @aInt.eq_1 <| aiX @aInt.eq_2 <| aiX @aInt.eq_3 <| aiX @aInt.eq_4 <| aiX @aInt.eq_5 <| aiX @aInt.eq_6 <| aiX @aInt.eq_7 <| aiX @aInt.eq_8 <| aiX @aInt.eq_9 <| aiX @aInt.eq_10 <| aiX @aInt.eq_11 <| aiX @aInt.eq_12 <| (@aInt.eq_13)) :=
 aiX @aIndexAddr.eq_3 <| aiX @aIndex.eq_1 <| aiX @aIndex.eq_2 <| aiX @aExtract.eq_1 <| aiX @aExtract.eq_2 <| aiX @aBound.eq_1 <| aiX @aBound.eq_2 <| aiX @aBound.eq_3 <| aiX @aSlice.eq_1 <| aiX @aSlice.eq_2 <| aiX @aSlice.eq_3 <| aiX @aInt.eq_1 <| aiX @aInt.eq_2 <| aiX @aInt.eq_3 <| aiX @aInt.eq_4 <| aiX @aInt.eq_5 <| aiX @aInt.eq_6 <| aiX @aInt.eq_7 <| aiX @aInt.eq_8 <| aiX @aInt.eq_9 <| aiX @aInt.eq_10 <| aiX @aInt.eq_11 <| aiX @aInt.eq_12 <| (@aInt.eq_13)
theorem amdef3:type_of% (aiX @aInt.eq_14 <| aiX @aInt.eq_15 <| aiX @aInt.eq_16 <| aiX @aInt.eq_17 <| aiX @aUn.eq_1 <| aiX @aUn.eq_2 <| aiX @aUn.eq_3 <| aiX @aLen.eq_1 <| aiX @aLen.eq_2 <| aiX @aLen.eq_3 <| aiX @aLen.eq_4 <| aiX @aElems.eq_1 <| aiX @aElems.eq_2 <| aiX @aElems.eq_3 <| aiX @aCopy.eq_1 <| aiX @aMin2.eq_1 <| aiX @aMin2.eq_2 <| aiX @aMax2.eq_1 <| aiX @aMax2.eq_2 <| aiX @aFold.eq_1 <| aiX @aFold.eq_2 <| aiX @aBuiltin.eq_1 <| aiX @aBuiltin.eq_2 <| (@aBuiltin.eq_3)) :=
 aiX @aInt.eq_14 <| aiX @aInt.eq_15 <| aiX @aInt.eq_16 <| aiX @aInt.eq_17 <| aiX @aUn.eq_1 <| aiX @aUn.eq_2 <| aiX @aUn.eq_3 <| aiX @aLen.eq_1 <| aiX @aLen.eq_2 <| aiX @aLen.eq_3 <| aiX @aLen.eq_4 <| aiX @aElems.eq_1 <| aiX @aElems.eq_2 <| aiX @aElems.eq_3 <| aiX @aCopy.eq_1 <| aiX @aMin2.eq_1 <| aiX @aMin2.eq_2 <| aiX @aMax2.eq_1 <| aiX @aMax2.eq_2 <| aiX @aFold.eq_1 <| aiX @aFold.eq_2 <| aiX @aBuiltin.eq_1 <| aiX @aBuiltin.eq_2 <| (@aBuiltin.eq_3)
theorem amdef4:type_of% (aiX @aBuiltin.eq_4 <| aiX @aBuiltin.eq_5 <| aiX @aBuiltin.eq_6 <| aiX @aBuiltin.eq_7 <| aiX @aBuiltin.eq_8 <| aiX @aClear.eq_1 <| aiX @aMakeSlice.eq_1 <| aiX @aMakeSlice.eq_2 <| aiX @aMapUpdate.eq_1 <| aiX @aMapUpdate.eq_2 <| aiX @aDelete.eq_1 <| aiX @aDelete.eq_2 <| aiX @aLookup.eq_1 <| aiX @argF.eq_1 <| aiX @argF.eq_2 <| aiX @isSh.eq_1 <| aiX @isSh.eq_2 <| aiX @isSh.eq_3 <| aiX @aRes.eq_1 <| aiX @aRes.eq_2 <| aiX @aRes.eq_3 <| aiX @one1.eq_1 <| aiX @one1.eq_2 <| (@or_false)) :=
 aiX @aBuiltin.eq_4 <| aiX @aBuiltin.eq_5 <| aiX @aBuiltin.eq_6 <| aiX @aBuiltin.eq_7 <| aiX @aBuiltin.eq_8 <| aiX @aClear.eq_1 <| aiX @aMakeSlice.eq_1 <| aiX @aMakeSlice.eq_2 <| aiX @aMapUpdate.eq_1 <| aiX @aMapUpdate.eq_2 <| aiX @aDelete.eq_1 <| aiX @aDelete.eq_2 <| aiX @aLookup.eq_1 <| aiX @argF.eq_1 <| aiX @argF.eq_2 <| aiX @isSh.eq_1 <| aiX @isSh.eq_2 <| aiX @isSh.eq_3 <| aiX @aRes.eq_1 <| aiX @aRes.eq_2 <| aiX @aRes.eq_3 <| aiX @one1.eq_1 <| aiX @one1.eq_2 <| (@or_false)
theorem amdef5:type_of% (aiX @or_true <| (@true_or)) :=
 aiX @or_true <| (@true_or)
theorem amdef:type_of% (aiX @amdef0 <| aiX @amdef1 <| aiX @amdef2 <| aiX @amdef3 <| aiX @amdef4 <| (@amdef5)) :=
 aiX @amdef0 <| aiX @amdef1 <| aiX @amdef2 <| aiX @amdef3 <| aiX @amdef4 <| (@amdef5)
theorem qd:type_of% (aiX @Bool.not_eq_true' <| aiX @Bool.not_eq_false' <| aiX @decide_eq_true_eq <| aiX @decide_eq_false_iff_not <| And.intro (@beq_iff_eq Int _ _) <| And.intro (@bne_iff_ne Int _ _) <| aiX @Bool.not_eq_true <| aiX @Bool.not_eq_false <| And.intro (@beq_eq_false_iff_ne Int _ _) <| And.intro (@bne_eq_false_iff_eq Int _ _) <| aiX @Classical.not_not <| aiX @Bool.and_eq_true <| (@Bool.and_eq_false_imp)) :=
 aiX @Bool.not_eq_true' <| aiX @Bool.not_eq_false' <| aiX @decide_eq_true_eq <| aiX @decide_eq_false_iff_not <| And.intro (@beq_iff_eq Int _ _) <| And.intro (@bne_iff_ne Int _ _) <| aiX @Bool.not_eq_true <| aiX @Bool.not_eq_false <| And.intro (@beq_eq_false_iff_ne Int _ _) <| And.intro (@bne_eq_false_iff_eq Int _ _) <| aiX @Classical.not_not <| aiX @Bool.and_eq_true <| (@Bool.and_eq_false_imp)
theorem jI:type_of% ((@qd)) :=
 (@qd)
theorem aG:type_of% (aiX @amset0 <| aiX @amset1 <| aiX @amset2 <| aiX @amset3 <| aiX @amset4 <| aiX @amset5 <| (@amdef)) :=
 aiX @amset0 <| aiX @amset1 <| aiX @amset2 <| aiX @amset3 <| aiX @amset4 <| aiX @amset5 <| (@amdef)
theorem jn {a b:Prop}(x:a)(y:b):a/\b:=⟨x,y⟩
theorem aU {P:Program}{fn:Func}{F:Fr}{H:ac}{l:List ResultVar}{x:AV}(h1:fn.results=l.toArray)(h2:(aRes P l F H).map one1=some x:=by simp -implicitDefEqProofs (disch:=omega) only [simprocAttr,aG,aH,Function.comp_apply,one1,lenV,ak,ay,az,aop,AV.ofValue,AV.ofCell,AV.cells,AV.flat,AV.one,arep,aT,av,aE]):dp P fn F H=some x:=kU h1 h2
theorem resTf {r:Prop}(f:r){P:Program}{fn:Func}{F:Fr}{H:ac}{l:List ResultVar}{x:AV}(h1:fn.results=l.toArray)(h2:r->(aRes P l F H).map one1=some x:=by intro hs;simp -implicitDefEqProofs (disch:=omega) only [hs,simprocAttr,aG,aH,Function.comp_apply,one1,lenV,ak,ay,az,aop,AV.ofValue,AV.ofCell,AV.cells,AV.flat,AV.one,arep,aT,av,aE]):dp P fn F H=some x:=kU h1 (h2 f)
theorem absT {p:Prop}(h:p:=by
 simp -implicitDefEqProofs (disch:=omega) only [fi,fj,iy,jH,j0,lr,ix,gA,gB,gC,iz,look,List.cons_append,List.nil_append,List.append_nil,List.length_cons,List.length_nil,Nat.zero_add,Nat.reduceAdd,AV.mv,AV.mvs,ABlk.mv,gF,gG,iP,List.getElem?_cons_zero,List.getElem?_cons_succ,eG,fh,gH,eH,cond_true,cond_false,beq_self_eq_true,Nat.reduceBEq,true_and,and_true,or_true,true_or,and_self,decide_true,Nat.add_zero,reduceCtorEq,false_or,or_false]
 repeat' (first|exact True.intro|exact Nat.add_lt_add_left (by decide) _|exact Nat.lt_add_of_pos_right (by decide)|refine d7 ?_ (Or.inr rfl)|refine d7 ?_ (Or.inl rfl)|refine dN ?_ (Or.inr rfl)|refine dN ?_ (Or.inl rfl)|exact j6|rfl|refine And.intro ?_ ?_|exact Or.inl rfl|exact Or.inr rfl|exact Or.inr (Or.inl rfl)|exact Or.inr (Or.inr BW.emp)|exact Or.inr BW.emp|exact BW.emp|exact Or.inr (Or.inr BW.pre)|exact Or.inr BW.pre|exact BW.pre|refine Or.inr (BW.cells ?_)|refine BW.cells ?_|refine Or.inr (Or.inr (BW.cells ?_))|exact iO)):p:=h
theorem lw {p r:Prop}(f:r) (h:r->p:=by
 intro hs
 simp -implicitDefEqProofs (disch:=omega) only [hs,fi,fj,iy,jH,j0,lr,ix,gA,gB,gC,iz,look,List.cons_append,List.nil_append,List.append_nil,List.length_cons,List.length_nil,Nat.zero_add,Nat.reduceAdd,AV.mv,AV.mvs,ABlk.mv,gF,gG,iP,List.getElem?_cons_zero,List.getElem?_cons_succ,eG,fh,gH,eH,cond_true,cond_false,beq_self_eq_true,Nat.reduceBEq,true_and,and_true,or_true,true_or,and_self,decide_true,Nat.add_zero,reduceCtorEq,false_or,or_false]
 repeat' (first|exact True.intro|exact Nat.add_lt_add_left (by decide) _|exact Nat.lt_add_of_pos_right (by decide)|refine d7 ?_ (Or.inr rfl)|refine d7 ?_ (Or.inl rfl)|refine dN ?_ (Or.inr rfl)|refine dN ?_ (Or.inl rfl)|exact j6|rfl|refine And.intro ?_ ?_|exact Or.inl rfl|exact Or.inr rfl|exact Or.inr (Or.inl rfl)|exact Or.inr (Or.inr BW.emp)|exact Or.inr BW.emp|exact BW.emp|exact Or.inr (Or.inr BW.pre)|exact Or.inr BW.pre|exact BW.pre|refine Or.inr (BW.cells ?_)|refine BW.cells ?_|refine Or.inr (Or.inr (BW.cells ?_))|exact iO)):p:=h f
theorem ar {p:Prop}(h:p:=by
 simp -implicitDefEqProofs (disch:=omega) only [nl,nm,nn,lz,lA,lB,fi,fj,iy,jH,j0,lr,ix,gA,gB,gC,iz,look,List.cons_append,List.nil_append,List.append_nil,List.length_cons,List.length_nil,Nat.zero_add,Nat.reduceAdd,AV.mv,AV.mvs,ABlk.mv,gF,gG,iP,List.getElem?_cons_zero,List.getElem?_cons_succ,eG,fh,gH,eH,cond_true,cond_false,beq_self_eq_true,Nat.reduceBEq,true_and,and_true,or_true,true_or,and_self,decide_true,Nat.add_zero,reduceCtorEq,false_or,or_false]
 repeat' (first|exact True.intro|exact Nat.add_lt_add_left (by decide) _|exact Nat.lt_add_of_pos_right (by decide)|refine d7 ?_ (Or.inr rfl)|refine d7 ?_ (Or.inl rfl)|refine dN ?_ (Or.inr rfl)|refine dN ?_ (Or.inl rfl)|exact j6|rfl|refine And.intro ?_ ?_|exact Or.inl rfl|exact Or.inr rfl|exact Or.inr (Or.inl rfl)|exact Or.inr (Or.inr BW.emp)|exact Or.inr BW.emp|exact BW.emp|exact Or.inr (Or.inr BW.pre)|exact Or.inr BW.pre|exact BW.pre|refine Or.inr (BW.cells ?_)|refine BW.cells ?_|refine Or.inr (Or.inr (BW.cells ?_))|exact iO)):p:=h
theorem aF {p r:Prop}(f:r) (h:r->p:=by
 intro hs
 simp -implicitDefEqProofs (disch:=omega) only [hs,nl,nm,nn,lz,lA,lB,fi,fj,iy,jH,j0,lr,ix,gA,gB,gC,iz,look,List.cons_append,List.nil_append,List.append_nil,List.length_cons,List.length_nil,Nat.zero_add,Nat.reduceAdd,AV.mv,AV.mvs,ABlk.mv,gF,gG,iP,List.getElem?_cons_zero,List.getElem?_cons_succ,eG,fh,gH,eH,cond_true,cond_false,beq_self_eq_true,Nat.reduceBEq,true_and,and_true,or_true,true_or,and_self,decide_true,Nat.add_zero,reduceCtorEq,false_or,or_false]
 repeat' (first|exact True.intro|exact Nat.add_lt_add_left (by decide) _|exact Nat.lt_add_of_pos_right (by decide)|refine d7 ?_ (Or.inr rfl)|refine d7 ?_ (Or.inl rfl)|refine dN ?_ (Or.inr rfl)|refine dN ?_ (Or.inl rfl)|exact j6|rfl|refine And.intro ?_ ?_|exact Or.inl rfl|exact Or.inr rfl|exact Or.inr (Or.inl rfl)|exact Or.inr (Or.inr BW.emp)|exact Or.inr BW.emp|exact BW.emp|exact Or.inr (Or.inr BW.pre)|exact Or.inr BW.pre|exact BW.pre|refine Or.inr (BW.cells ?_)|refine BW.cells ?_|refine Or.inr (Or.inr (BW.cells ?_))|exact iO)):p:=h f
theorem dS {p:Prop}(h:p:=by
 simp -implicitDefEqProofs (disch:=omega) only [List.length_append,List.length_cons,List.length_nil,cH,ownG_s,nh,ni,dX,cJ,eY,qo,o9,mu,pd,nj,pe,nl,nm,nn,lz,lA,lB,fi,fj,iy,jH,j0,lr,ix,gA,gB,gC,iz,look,List.cons_append,List.nil_append,List.append_nil,List.length_cons,List.length_nil,Nat.zero_add,Nat.reduceAdd,AV.mv,AV.mvs,ABlk.mv,gF,gG,iP,List.getElem?_cons_zero,List.getElem?_cons_succ,eG,fh,gH,eH,cond_true,cond_false,beq_self_eq_true,Nat.reduceBEq,true_and,and_true,or_true,true_or,and_self,decide_true,Nat.add_zero,reduceCtorEq,false_or,or_false]
 repeat' (first|exact True.intro|exact Nat.add_lt_add_left (by decide) _|exact Nat.lt_add_of_pos_right (by decide)|refine d7 ?_ (Or.inr rfl)|refine d7 ?_ (Or.inl rfl)|refine dN ?_ (Or.inr rfl)|refine dN ?_ (Or.inl rfl)|exact j6|rfl|refine And.intro ?_ ?_|exact Or.inl rfl|exact Or.inr rfl|exact Or.inr (Or.inl rfl)|exact Or.inr (Or.inr BW.emp)|exact Or.inr BW.emp|exact BW.emp|exact Or.inr (Or.inr BW.pre)|exact Or.inr BW.pre|exact BW.pre|refine Or.inr (BW.cells ?_)|refine BW.cells ?_|refine Or.inr (Or.inr (BW.cells ?_))|exact iO)):p:=h
theorem al {p r:Prop}(f:r) (h:r->p:=by
 intro hs
 simp -implicitDefEqProofs (disch:=omega) only [hs,List.length_append,List.length_cons,List.length_nil,cH,ownG_s,nh,ni,dX,cJ,eY,qo,o9,mu,pd,nj,pe,nl,nm,nn,lz,lA,lB,fi,fj,iy,jH,j0,lr,ix,gA,gB,gC,iz,look,List.cons_append,List.nil_append,List.append_nil,List.length_cons,List.length_nil,Nat.zero_add,Nat.reduceAdd,AV.mv,AV.mvs,ABlk.mv,gF,gG,iP,List.getElem?_cons_zero,List.getElem?_cons_succ,eG,fh,gH,eH,cond_true,cond_false,beq_self_eq_true,Nat.reduceBEq,true_and,and_true,or_true,true_or,and_self,decide_true,Nat.add_zero,reduceCtorEq,false_or,or_false]
 repeat' (first|exact True.intro|exact Nat.add_lt_add_left (by decide) _|exact Nat.lt_add_of_pos_right (by decide)|refine d7 ?_ (Or.inr rfl)|refine d7 ?_ (Or.inl rfl)|refine dN ?_ (Or.inr rfl)|refine dN ?_ (Or.inl rfl)|exact j6|rfl|refine And.intro ?_ ?_|exact Or.inl rfl|exact Or.inr rfl|exact Or.inr (Or.inl rfl)|exact Or.inr (Or.inr BW.emp)|exact Or.inr BW.emp|exact BW.emp|exact Or.inr (Or.inr BW.pre)|exact Or.inr BW.pre|exact BW.pre|refine Or.inr (BW.cells ?_)|refine BW.cells ?_|refine Or.inr (Or.inr (BW.cells ?_))|exact iO)):p:=h f
open Go.Proofs.Tryz
theorem try_mixed:prog.follows .mixedOrders=true:=by kernel_rfl
theorem tInt5:fB prog 5=some .u8:=by kernel_rfl
theorem tElem22:cP prog 22=some 5:=by kernel_rfl
theorem tEq26 (a0 a1 a2 a3 b0 b1 b2 b3:Int):aEq prog 20 26 [.int .i64 a0,.int .i64 a1,.int .i64 a2,.int .i64 a3] [.int .i64 b0,.int .i64 b1,.int .i64 b2,.int .i64 b3]=some ((a0==b0)&&((a1==b1)&&((a2==b2)&&((a3==b3)&&true)))):=by kernel_rfl
theorem tEq27 (a0 a1 a2 a3 b0 b1 b2 b3:Int):aEq prog 20 27 [.int .i64 a0,.int .i64 a1,.int .i64 a2,.int .i64 a3] [.int .i64 b0,.int .i64 b1,.int .i64 b2,.int .i64 b3]=some ((a0==b0)&&((a1==b1)&&((a2==b2)&&((a3==b3)&&true)))):=by kernel_rfl
theorem tEq48 (a0 a1 b0 b1:Int):aEq prog 20 48 [.int .i64 a0,.int .i64 a1] [.int .i64 b0,.int .i64 b1]=some ((a0==b0)&&((a1==b1)&&true)):=by kernel_rfl
theorem tEq49 (a0 a1 b0 b1:Int):aEq prog 20 49 [.int .i64 a0,.int .i64 a1] [.int .i64 b0,.int .i64 b1]=some ((a0==b0)&&((a1==b1)&&true)):=by kernel_rfl
theorem tEq55 (a0 a1 a2 a3 a4 a5 b0 b1 b2 b3 b4 b5:Int):aEq prog 20 55 [.int .i64 a0,.int .i64 a1,.int .i64 a2,.int .i64 a3,.int .i64 a4,.int .i64 a5] [.int .i64 b0,.int .i64 b1,.int .i64 b2,.int .i64 b3,.int .i64 b4,.int .i64 b5]=some ((a0==b0)&&((a1==b1)&&((a2==b2)&&((a3==b3)&&((a4==b4)&&((a5==b5)&&true)))))):=by kernel_rfl
theorem tEq56 (a0 a1 a2 a3 a4 a5 b0 b1 b2 b3 b4 b5:Int):aEq prog 20 56 [.int .i64 a0,.int .i64 a1,.int .i64 a2,.int .i64 a3,.int .i64 a4,.int .i64 a5] [.int .i64 b0,.int .i64 b1,.int .i64 b2,.int .i64 b3,.int .i64 b4,.int .i64 b5]=some ((a0==b0)&&((a1==b1)&&((a2==b2)&&((a3==b3)&&((a4==b4)&&((a5==b5)&&true)))))):=by kernel_rfl
theorem tEq58 (a0 a1 b0 b1:Int):aEq prog 20 58 [.int .i64 a0,.int .i64 a1] [.int .i64 b0,.int .i64 b1]=some ((a0==b0)&&((a1==b1)&&true)):=by kernel_rfl
theorem tEq59 (a0 a1 b0 b1:Int):aEq prog 20 59 [.int .i64 a0,.int .i64 a1] [.int .i64 b0,.int .i64 b1]=some ((a0==b0)&&((a1==b1)&&true)):=by kernel_rfl
theorem tEq103 (a0 a1 b0 b1:Int):aEq prog 20 103 [.int .i64 a0,.int .i64 a1] [.int .i64 b0,.int .i64 b1]=some ((a0==b0)&&((a1==b1)&&true)):=by kernel_rfl
theorem tEq104 (a0 a1 b0 b1:Int):aEq prog 20 104 [.int .i64 a0,.int .i64 a1] [.int .i64 b0,.int .i64 b1]=some ((a0==b0)&&((a1==b1)&&true)):=by kernel_rfl
theorem tEq114 (a0 a1 b0 b1:Int):aEq prog 20 114 [.int .i64 a0,.int .i64 a1] [.int .i64 b0,.int .i64 b1]=some ((a0==b0)&&((a1==b1)&&true)):=by kernel_rfl
theorem tEq115 (a0 a1 b0 b1:Int):aEq prog 20 115 [.int .i64 a0,.int .i64 a1] [.int .i64 b0,.int .i64 b1]=some ((a0==b0)&&((a1==b1)&&true)):=by kernel_rfl
theorem tEq120 (a0 a1 a2 a3 b0 b1 b2 b3:Int):aEq prog 20 120 [.int .i64 a0,.int .i64 a1,.int .i64 a2,.int .i64 a3] [.int .i64 b0,.int .i64 b1,.int .i64 b2,.int .i64 b3]=some ((a0==b0)&&((a1==b1)&&((a2==b2)&&((a3==b3)&&true)))):=by kernel_rfl
theorem tEq121 (a0 a1 a2 a3 b0 b1 b2 b3:Int):aEq prog 20 121 [.int .i64 a0,.int .i64 a1,.int .i64 a2,.int .i64 a3] [.int .i64 b0,.int .i64 b1,.int .i64 b2,.int .i64 b3]=some ((a0==b0)&&((a1==b1)&&((a2==b2)&&((a3==b3)&&true)))):=by kernel_rfl
theorem tEq143 (a0 a1 a2 b0 b1 b2:Int):aEq prog 20 143 [.int .i64 a0,.int .i64 a1,.int .i64 a2] [.int .i64 b0,.int .i64 b1,.int .i64 b2]=some ((a0==b0)&&((a1==b1)&&((a2==b2)&&true))):=by kernel_rfl
theorem tEq144 (a0 a1 a2 b0 b1 b2:Int):aEq prog 20 144 [.int .i64 a0,.int .i64 a1,.int .i64 a2] [.int .i64 b0,.int .i64 b1,.int .i64 b2]=some ((a0==b0)&&((a1==b1)&&((a2==b2)&&true))):=by kernel_rfl
theorem tEq145 (a0 a1 a2 a3 a4 a5 a6 a7 a8 b0 b1 b2 b3 b4 b5 b6 b7 b8:Int):aEq prog 20 145 [.int .i64 a0,.int .i64 a1,.int .i64 a2,.int .i64 a3,.int .i64 a4,.int .i64 a5,.int .i64 a6,.int .i64 a7,.int .i64 a8] [.int .i64 b0,.int .i64 b1,.int .i64 b2,.int .i64 b3,.int .i64 b4,.int .i64 b5,.int .i64 b6,.int .i64 b7,.int .i64 b8]=some (((a0==b0)&&((a1==b1)&&((a2==b2)&&((a3==b3)&&((a4==b4)&&((a5==b5)&&true))))))&&(((a6==b6)&&((a7==b7)&&((a8==b8)&&true)))&&true)):=by kernel_rfl
theorem tEq146 (a0 a1 a2 a3 a4 a5 a6 a7 a8 b0 b1 b2 b3 b4 b5 b6 b7 b8:Int):aEq prog 20 146 [.int .i64 a0,.int .i64 a1,.int .i64 a2,.int .i64 a3,.int .i64 a4,.int .i64 a5,.int .i64 a6,.int .i64 a7,.int .i64 a8] [.int .i64 b0,.int .i64 b1,.int .i64 b2,.int .i64 b3,.int .i64 b4,.int .i64 b5,.int .i64 b6,.int .i64 b7,.int .i64 b8]=some (((a0==b0)&&((a1==b1)&&((a2==b2)&&((a3==b3)&&((a4==b4)&&((a5==b5)&&true))))))&&(((a6==b6)&&((a7==b7)&&((a8==b8)&&true)))&&true)):=by kernel_rfl
theorem tEq165 (a0 a1 b0 b1:Int):aEq prog 20 165 [.int .i64 a0,.int .i64 a1] [.int .i64 b0,.int .i64 b1]=some ((a0==b0)&&((a1==b1)&&true)):=by kernel_rfl
theorem tEq211 (a0 a1 b0 b1:Int):aEq prog 20 211 [.int .i64 a0,.int .i64 a1] [.int .i64 b0,.int .i64 b1]=some ((a0==b0)&&((a1==b1)&&true)):=by kernel_rfl
theorem tEq212 (a0 a1 b0 b1:Int):aEq prog 20 212 [.int .i64 a0,.int .i64 a1] [.int .i64 b0,.int .i64 b1]=some ((a0==b0)&&((a1==b1)&&true)):=by kernel_rfl
theorem tEq217 (a0 a1 a2 a3 b0 b1 b2 b3:Int):aEq prog 20 217 [.int .i64 a0,.int .i64 a1,.int .i64 a2,.int .i64 a3] [.int .i64 b0,.int .i64 b1,.int .i64 b2,.int .i64 b3]=some (((a0==b0)&&((a1==b1)&&true))&&(((a2==b2)&&((a3==b3)&&true))&&true)):=by kernel_rfl
theorem tEq218 (a0 a1 a2 a3 b0 b1 b2 b3:Int):aEq prog 20 218 [.int .i64 a0,.int .i64 a1,.int .i64 a2,.int .i64 a3] [.int .i64 b0,.int .i64 b1,.int .i64 b2,.int .i64 b3]=some (((a0==b0)&&((a1==b1)&&true))&&(((a2==b2)&&((a3==b3)&&true))&&true)):=by kernel_rfl
theorem tyset0:bb prog 2=some false/\tSz prog 2=some 1/\aV prog 2=some 8/\aX prog 2=some [.int .i64 0]/\fB prog 2=some .i64/\prog.underlying 2=some (.int .i64)/\bb prog 3=some false/\tSz prog 3=some 1/\aV prog 3=some 8/\aX prog 3=some [.int .i64 0]/\fB prog 3=some .i64/\prog.underlying 3=some (.int .i64)/\bb prog 4=some false/\tSz prog 4=some 1/\aV prog 4=some 1/\aX prog 4=some [.bool false]/\ln prog 4=true/\bb prog 5=some false/\tSz prog 5=some 1/\aV prog 5=some 1/\aX prog 5=some [.int .u8 0]/\fB prog 5=some .u8/\prog.underlying 5=some (.int .u8)/\bb prog 7=some true:=by (repeat' refine And.intro ?_ ?_)<;>kernel_rfl
theorem tyset1:tSz prog 7=some 4/\aV prog 7=some 24/\aX prog 7=some [.int .i64 0,.int .i64 0,.bool false,.int .u8 0]/\bt prog 7=some [(0,1),(1,1),(2,1),(3,1)]/\aO prog 7 0=some (0,2)/\aO prog 7 1=some (1,3)/\aO prog 7 2=some (2,4)/\aO prog 7 3=some (3,6)/\prog.eqGuardType prog.depth 7=false/\bb prog 9=some false/\tSz prog 9=some 1/\aV prog 9=some 16/\aX prog 9=some [.str []]/\bb prog 12=some false/\tSz prog 12=some 1/\aV prog 12=some 8/\aX prog 12=some [.int .u64 0]/\fB prog 12=some .u64/\prog.underlying 12=some (.int .u64)/\bb prog 13=some true/\tSz prog 13=some 2/\aV prog 13=some 24/\aX prog 13=some [.str [],.int .u64 0]/\bt prog 13=some [(0,1),(1,1)]:=by (repeat' refine And.intro ?_ ?_)<;>kernel_rfl
theorem tyset2:aO prog 13 0=some (0,9)/\aO prog 13 1=some (1,12)/\prog.eqGuardType prog.depth 13=false/\bb prog 17=some false/\tSz prog 17=some 1/\aV prog 17=some 8/\aX prog 17=some [.ptr none]/\fD prog 17=true/\bb prog 18=some true/\tSz prog 18=some 1/\aV prog 18=some 8/\aX prog 18=some [.ptr none]/\bt prog 18=some [(0,1)]/\aO prog 18 0=some (0,17)/\prog.eqGuardType prog.depth 18=false/\bb prog 21=some false/\tSz prog 21=some 1/\aV prog 21=some 4/\aX prog 21=some [.int .i32 0]/\fB prog 21=some .i32/\prog.underlying 21=some (.int .i32)/\bb prog 22=some false/\tSz prog 22=some 1/\aV prog 22=some 24:=by (repeat' refine And.intro ?_ ?_)<;>kernel_rfl
theorem tyset3:aX prog 22=some [.sl none 0 (some 0)]/\cP prog 22=some 5/\dR prog 22=true/\bb prog 23=some true/\tSz prog 23=some 3/\aV prog 23=some 40/\aX prog 23=some [.int .i64 0,.int .i64 0,.sl none 0 (some 0)]/\bt prog 23=some [(0,1),(1,1),(2,1)]/\aO prog 23 0=some (0,3)/\aO prog 23 1=some (1,3)/\aO prog 23 2=some (2,22)/\prog.eqGuardType prog.depth 23=false/\bb prog 24=some true/\tSz prog 24=some 3/\aV prog 24=some 40/\aX prog 24=some [.int .i64 0,.int .i64 0,.sl none 0 (some 0)]/\bt prog 24=some [(0,1),(1,1),(2,1)]/\aO prog 24 0=some (0,3)/\aO prog 24 1=some (1,3)/\aO prog 24 2=some (2,22)/\prog.eqGuardType prog.depth 24=false/\bb prog 25=some false/\tSz prog 25=some 1/\aV prog 25=some 24:=by (repeat' refine And.intro ?_ ?_)<;>kernel_rfl
theorem tyset4k:aX prog 25=some [.sl none 0 (some 0)]/\cP prog 25=some 56/\dR prog 25=true/\bb prog 26=some true/\tSz prog 26=some 4/\aV prog 26=some 32/\aX prog 26=some [.int .i64 0,.int .i64 0,.int .i64 0,.int .i64 0]/\bt prog 26=some [(0,1),(1,1),(2,1),(3,1)]/\aO prog 26 0=some (0,3)/\aO prog 26 1=some (1,3)/\aO prog 26 2=some (2,3)/\aO prog 26 3=some (3,3)/\prog.eqGuardType prog.depth 26=false/\bb prog 27=some true/\tSz prog 27=some 4/\aV prog 27=some 32/\aX prog 27=some [.int .i64 0,.int .i64 0,.int .i64 0,.int .i64 0]/\bt prog 27=some [(0,1),(1,1),(2,1),(3,1)]/\aO prog 27 0=some (0,3)/\aO prog 27 1=some (1,3)/\aO prog 27 2=some (2,3)/\aO prog 27 3=some (3,3)/\prog.eqGuardType prog.depth 27=false:=by (repeat' refine And.intro ?_ ?_)<;>kernel_rfl
theorem tyset4:type_of% (aiX @tEq26 <| (@tyset4k)):=aiX @tEq26 <| (@tyset4k)
theorem tyset5k:bb prog 29=some false/\tSz prog 29=some 1/\aV prog 29=some 8/\aX prog 29=some [.ptr none]/\fD prog 29=true/\bb prog 30=some false/\tSz prog 30=some 1/\aV prog 30=some 8/\aX prog 30=some [.int .i64 0]/\fB prog 30=some .i64/\prog.underlying 30=some (.int .i64)/\bb prog 33=some false/\tSz prog 33=some 1/\aV prog 33=some 8/\aX prog 33=some [.ptr none]/\fD prog 33=true/\bb prog 45=some false/\tSz prog 45=some 1/\aV prog 45=some 24/\aX prog 45=some [.sl none 0 (some 0)]/\cP prog 45=some 52/\dR prog 45=true/\bb prog 48=some true:=by (repeat' refine And.intro ?_ ?_)<;>kernel_rfl
theorem tyset5:type_of% (aiX @tEq27 <| (@tyset5k)):=aiX @tEq27 <| (@tyset5k)
theorem tyset6k:tSz prog 48=some 2/\aV prog 48=some 16/\aX prog 48=some [.int .i64 0,.int .i64 0]/\bt prog 48=some [(0,1),(1,1)]/\aO prog 48 0=some (0,3)/\aO prog 48 1=some (1,3)/\prog.eqGuardType prog.depth 48=false/\bb prog 49=some true/\tSz prog 49=some 2/\aV prog 49=some 16/\aX prog 49=some [.int .i64 0,.int .i64 0]/\bt prog 49=some [(0,1),(1,1)]/\aO prog 49 0=some (0,3)/\aO prog 49 1=some (1,3)/\prog.eqGuardType prog.depth 49=false/\bb prog 50=some false/\tSz prog 50=some 1/\aV prog 50=some 24/\aX prog 50=some [.sl none 0 (some 0)]/\cP prog 50=some 59/\dR prog 50=true/\bb prog 51=some true:=by (repeat' refine And.intro ?_ ?_)<;>kernel_rfl
theorem tyset6:type_of% (aiX @tEq48 <| aiX @tEq49 <| (@tyset6k)):=aiX @tEq48 <| aiX @tEq49 <| (@tyset6k)
theorem tyset7:tSz prog 51=some 5/\aV prog 51=some 56/\aX prog 51=some [.int .i64 0,.int .i64 0,.int .i64 0,.bool false,.sl none 0 (some 0)]/\bt prog 51=some [(0,1),(1,2),(3,1),(4,1)]/\aO prog 51 0=some (0,3)/\aO prog 51 1=some (1,49)/\aO prog 51 2=some (3,4)/\aO prog 51 3=some (4,50)/\prog.eqGuardType prog.depth 51=false/\bb prog 52=some true/\tSz prog 52=some 5/\aV prog 52=some 56/\aX prog 52=some [.int .i64 0,.int .i64 0,.int .i64 0,.bool false,.sl none 0 (some 0)]/\bt prog 52=some [(0,1),(1,2),(3,1),(4,1)]/\aO prog 52 0=some (0,3)/\aO prog 52 1=some (1,49)/\aO prog 52 2=some (3,4)/\aO prog 52 3=some (4,50)/\prog.eqGuardType prog.depth 52=false/\bb prog 55=some true/\tSz prog 55=some 6/\aV prog 55=some 48/\aX prog 55=some [.int .i64 0,.int .i64 0,.int .i64 0,.int .i64 0,.int .i64 0,.int .i64 0]/\bt prog 55=some [(0,1),(1,1),(2,1),(3,1),(4,1),(5,1)]:=by (repeat' refine And.intro ?_ ?_)<;>kernel_rfl
theorem tyset8k:aO prog 55 0=some (0,3)/\aO prog 55 1=some (1,3)/\aO prog 55 2=some (2,3)/\aO prog 55 3=some (3,3)/\aO prog 55 4=some (4,3)/\aO prog 55 5=some (5,3)/\prog.eqGuardType prog.depth 55=false/\bb prog 56=some true/\tSz prog 56=some 6/\aV prog 56=some 48/\aX prog 56=some [.int .i64 0,.int .i64 0,.int .i64 0,.int .i64 0,.int .i64 0,.int .i64 0]/\bt prog 56=some [(0,1),(1,1),(2,1),(3,1),(4,1),(5,1)]/\aO prog 56 0=some (0,3)/\aO prog 56 1=some (1,3)/\aO prog 56 2=some (2,3)/\aO prog 56 3=some (3,3)/\aO prog 56 4=some (4,3)/\aO prog 56 5=some (5,3)/\prog.eqGuardType prog.depth 56=false/\bb prog 58=some true/\tSz prog 58=some 2/\aV prog 58=some 16:=by (repeat' refine And.intro ?_ ?_)<;>kernel_rfl
theorem tyset8:type_of% (aiX @tEq55 <| aiX @tEq56 <| (@tyset8k)):=aiX @tEq55 <| aiX @tEq56 <| (@tyset8k)
theorem tyset9k:aX prog 58=some [.int .i64 0,.int .i64 0]/\bt prog 58=some [(0,1),(1,1)]/\aO prog 58 0=some (0,3)/\aO prog 58 1=some (1,3)/\prog.eqGuardType prog.depth 58=false/\bb prog 59=some true/\tSz prog 59=some 2/\aV prog 59=some 16/\aX prog 59=some [.int .i64 0,.int .i64 0]/\bt prog 59=some [(0,1),(1,1)]/\aO prog 59 0=some (0,3)/\aO prog 59 1=some (1,3)/\prog.eqGuardType prog.depth 59=false/\bb prog 67=some true/\tSz prog 67=some 9/\aV prog 67=some 104/\aX prog 67=some [.int .i64 0,.int .i64 0,.sl none 0 (some 0),.sl none 0 (some 0),.int .i64 0,.int .i64 0,.int .i64 0,.int .i64 0,.bool false]/\bt prog 67=some [(0,3),(3,1),(4,4),(8,1)]/\aO prog 67 0=some (0,24)/\aO prog 67 1=some (3,25)/\aO prog 67 2=some (4,27)/\aO prog 67 3=some (8,4):=by (repeat' refine And.intro ?_ ?_)<;>kernel_rfl
theorem tyset9:type_of% (aiX @tEq58 <| aiX @tEq59 <| (@tyset9k)):=aiX @tEq58 <| aiX @tEq59 <| (@tyset9k)
theorem tyset10:prog.eqGuardType prog.depth 67=false/\bb prog 68=some true/\tSz prog 68=some 9/\aV prog 68=some 104/\aX prog 68=some [.int .i64 0,.int .i64 0,.sl none 0 (some 0),.sl none 0 (some 0),.int .i64 0,.int .i64 0,.int .i64 0,.int .i64 0,.bool false]/\bt prog 68=some [(0,3),(3,1),(4,4),(8,1)]/\aO prog 68 0=some (0,24)/\aO prog 68 1=some (3,25)/\aO prog 68 2=some (4,27)/\aO prog 68 3=some (8,4)/\prog.eqGuardType prog.depth 68=false/\bb prog 69=some true/\tSz prog 69=some 9/\aV prog 69=some 104/\aX prog 69=some [.int .i64 0,.int .i64 0,.sl none 0 (some 0),.sl none 0 (some 0),.int .i64 0,.int .i64 0,.int .i64 0,.int .i64 0,.bool false]/\bt prog 69=some [(0,3),(3,1),(4,4),(8,1)]/\aO prog 69 0=some (0,24)/\aO prog 69 1=some (3,25)/\aO prog 69 2=some (4,27)/\aO prog 69 3=some (8,4)/\prog.eqGuardType prog.depth 69=false/\bb prog 70=some true/\tSz prog 70=some 9/\aV prog 70=some 104:=by (repeat' refine And.intro ?_ ?_)<;>kernel_rfl
theorem qe:aX prog 70=some [.int .i64 0,.int .i64 0,.sl none 0 (some 0),.sl none 0 (some 0),.int .i64 0,.int .i64 0,.int .i64 0,.int .i64 0,.bool false]/\bt prog 70=some [(0,3),(3,1),(4,4),(8,1)]/\aO prog 70 0=some (0,24)/\aO prog 70 1=some (3,25)/\aO prog 70 2=some (4,27)/\aO prog 70 3=some (8,4)/\prog.eqGuardType prog.depth 70=false/\bb prog 101=some false/\tSz prog 101=some 1/\aV prog 101=some 24/\aX prog 101=some [.sl none 0 (some 0)]/\cP prog 101=some 104/\dR prog 101=true/\bb prog 103=some true/\tSz prog 103=some 2/\aV prog 103=some 16/\aX prog 103=some [.int .i64 0,.int .i64 0]/\bt prog 103=some [(0,1),(1,1)]/\aO prog 103 0=some (0,3)/\aO prog 103 1=some (1,3)/\prog.eqGuardType prog.depth 103=false/\bb prog 104=some true/\tSz prog 104=some 2:=by (repeat' refine And.intro ?_ ?_)<;>kernel_rfl
theorem tyset11:type_of% (aiX @tEq103 <| (@qe)):=aiX @tEq103 <| (@qe)
theorem qf:aV prog 104=some 16/\aX prog 104=some [.int .i64 0,.int .i64 0]/\bt prog 104=some [(0,1),(1,1)]/\aO prog 104 0=some (0,3)/\aO prog 104 1=some (1,3)/\prog.eqGuardType prog.depth 104=false/\bb prog 105=some false/\tSz prog 105=some 1/\aV prog 105=some 8/\aX prog 105=some [.ptr none]/\fD prog 105=true/\bb prog 114=some true/\tSz prog 114=some 2/\aV prog 114=some 16/\aX prog 114=some [.int .i64 0,.int .i64 0]/\bt prog 114=some [(0,1),(1,1)]/\aO prog 114 0=some (0,3)/\aO prog 114 1=some (1,3)/\prog.eqGuardType prog.depth 114=false/\bb prog 115=some true/\tSz prog 115=some 2/\aV prog 115=some 16:=by (repeat' refine And.intro ?_ ?_)<;>kernel_rfl
theorem tyset12:type_of% (aiX @tEq104 <| aiX @tEq114 <| (@qf)):=aiX @tEq104 <| aiX @tEq114 <| (@qf)
theorem qg:aX prog 115=some [.int .i64 0,.int .i64 0]/\bt prog 115=some [(0,1),(1,1)]/\aO prog 115 0=some (0,3)/\aO prog 115 1=some (1,3)/\prog.eqGuardType prog.depth 115=false/\bb prog 120=some true/\tSz prog 120=some 4/\aV prog 120=some 32/\aX prog 120=some [.int .i64 0,.int .i64 0,.int .i64 0,.int .i64 0]/\bt prog 120=some [(0,1),(1,1),(2,1),(3,1)]/\aO prog 120 0=some (0,3)/\aO prog 120 1=some (1,3)/\aO prog 120 2=some (2,3)/\aO prog 120 3=some (3,3)/\prog.eqGuardType prog.depth 120=false/\bb prog 121=some true/\tSz prog 121=some 4/\aV prog 121=some 32/\aX prog 121=some [.int .i64 0,.int .i64 0,.int .i64 0,.int .i64 0]/\bt prog 121=some [(0,1),(1,1),(2,1),(3,1)]/\aO prog 121 0=some (0,3)/\aO prog 121 1=some (1,3):=by (repeat' refine And.intro ?_ ?_)<;>kernel_rfl
theorem tyset13:type_of% (aiX @tEq115 <| aiX @tEq120 <| (@qg)):=aiX @tEq115 <| aiX @tEq120 <| (@qg)
theorem qh:aO prog 121 2=some (2,3)/\aO prog 121 3=some (3,3)/\prog.eqGuardType prog.depth 121=false/\bb prog 132=some false/\tSz prog 132=some 1/\aV prog 132=some 24/\aX prog 132=some [.sl none 0 (some 0)]/\cP prog 132=some 3/\dR prog 132=true/\bb prog 141=some false/\tSz prog 141=some 1/\aV prog 141=some 24/\aX prog 141=some [.sl none 0 (some 0)]/\cP prog 141=some 146/\dR prog 141=true/\bb prog 143=some true/\tSz prog 143=some 3/\aV prog 143=some 24/\aX prog 143=some [.int .i64 0,.int .i64 0,.int .i64 0]/\bt prog 143=some [(0,1),(1,1),(2,1)]/\aO prog 143 0=some (0,3)/\aO prog 143 1=some (1,3)/\aO prog 143 2=some (2,3):=by (repeat' refine And.intro ?_ ?_)<;>kernel_rfl
theorem tyset14:type_of% (aiX @tEq121 <| (@qh)):=aiX @tEq121 <| (@qh)
theorem qi:prog.eqGuardType prog.depth 143=false/\bb prog 144=some true/\tSz prog 144=some 3/\aV prog 144=some 24/\aX prog 144=some [.int .i64 0,.int .i64 0,.int .i64 0]/\bt prog 144=some [(0,1),(1,1),(2,1)]/\aO prog 144 0=some (0,3)/\aO prog 144 1=some (1,3)/\aO prog 144 2=some (2,3)/\prog.eqGuardType prog.depth 144=false/\bb prog 145=some true/\tSz prog 145=some 9/\aV prog 145=some 72/\aX prog 145=some [.int .i64 0,.int .i64 0,.int .i64 0,.int .i64 0,.int .i64 0,.int .i64 0,.int .i64 0,.int .i64 0,.int .i64 0]/\bt prog 145=some [(0,6),(6,3)]/\aO prog 145 0=some (0,56)/\aO prog 145 1=some (6,144)/\prog.eqGuardType prog.depth 145=false/\bb prog 146=some true/\tSz prog 146=some 9/\aV prog 146=some 72:=by (repeat' refine And.intro ?_ ?_)<;>kernel_rfl
theorem tyset15:type_of% (aiX @tEq143 <| aiX @tEq144 <| aiX @tEq145 <| (@qi)):=aiX @tEq143 <| aiX @tEq144 <| aiX @tEq145 <| (@qi)
theorem qj:aX prog 146=some [.int .i64 0,.int .i64 0,.int .i64 0,.int .i64 0,.int .i64 0,.int .i64 0,.int .i64 0,.int .i64 0,.int .i64 0]/\bt prog 146=some [(0,6),(6,3)]/\aO prog 146 0=some (0,56)/\aO prog 146 1=some (6,144)/\prog.eqGuardType prog.depth 146=false/\bb prog 152=some true/\tSz prog 152=some 2/\aV prog 152=some 16/\aX prog 152=some [.int .i64 0,.int .i64 0]/\tIdx prog 152=some (some 2,3)/\bt prog 152=some [(0,1),(1,1)]/\bb prog 155=some false/\tSz prog 155=some 1/\aV prog 155=some 24/\aX prog 155=some [.sl none 0 (some 0)]/\cP prog 155=some 4/\dR prog 155=true/\bb prog 165=some true/\tSz prog 165=some 2/\aV prog 165=some 16/\aX prog 165=some [.int .i64 0,.int .i64 0]/\bt prog 165=some [(0,1),(1,1)]/\aO prog 165 0=some (0,3):=by (repeat' refine And.intro ?_ ?_)<;>kernel_rfl
theorem tyset16:type_of% (aiX @tEq146 <| (@qj)):=aiX @tEq146 <| (@qj)
theorem qk:aO prog 165 1=some (1,3)/\prog.eqGuardType prog.depth 165=false/\bb prog 166=some false/\tSz prog 166=some 1/\aV prog 166=some 24/\aX prog 166=some [.sl none 0 (some 0)]/\cP prog 166=some 165/\dR prog 166=true/\bb prog 175=some false/\tSz prog 175=some 1/\aV prog 175=some 8/\aX prog 175=some [.int .u64 0]/\fB prog 175=some .u64/\prog.underlying 175=some (.int .u64)/\bb prog 191=some true/\tSz prog 191=some 4/\aV prog 191=some 32/\aX prog 191=some [.int .i64 0,.int .i64 0,.int .i64 0,.int .i64 0]/\tIdx prog 191=some (some 4,3)/\bt prog 191=some [(0,1),(1,1),(2,1),(3,1)]/\bb prog 197=some false/\tSz prog 197=some 1/\aV prog 197=some 8:=by (repeat' refine And.intro ?_ ?_)<;>kernel_rfl
theorem tyset17:type_of% (aiX @tEq165 <| (@qk)):=aiX @tEq165 <| (@qk)
theorem ql:aX prog 197=some [.int .i64 0]/\fB prog 197=some .i64/\prog.underlying 197=some (.int .i64)/\bb prog 205=some false/\tSz prog 205=some 1/\aV prog 205=some 4/\aX prog 205=some [.int .u32 0]/\fB prog 205=some .u32/\prog.underlying 205=some (.int .u32)/\bb prog 207=some false/\tSz prog 207=some 1/\aV prog 207=some 8/\aX prog 207=some [.int .u64 0]/\fB prog 207=some .u64/\prog.underlying 207=some (.int .u64)/\bb prog 211=some true/\tSz prog 211=some 2/\aV prog 211=some 16/\aX prog 211=some [.int .i64 0,.int .i64 0]/\bt prog 211=some [(0,1),(1,1)]/\aO prog 211 0=some (0,3)/\aO prog 211 1=some (1,3)/\prog.eqGuardType prog.depth 211=false:=by (repeat' refine And.intro ?_ ?_)<;>kernel_rfl
theorem tyset18:type_of% (aiX @tEq211 <| (@ql)):=aiX @tEq211 <| (@ql)
theorem qm:bb prog 212=some true/\tSz prog 212=some 2/\aV prog 212=some 16/\aX prog 212=some [.int .i64 0,.int .i64 0]/\bt prog 212=some [(0,1),(1,1)]/\aO prog 212 0=some (0,3)/\aO prog 212 1=some (1,3)/\prog.eqGuardType prog.depth 212=false/\bb prog 216=some true/\tSz prog 216=some 8/\aV prog 216=some 64/\aX prog 216=some [.int .i64 0,.int .i64 0,.int .i64 0,.int .i64 0,.int .i64 0,.int .i64 0,.int .i64 0,.int .i64 0]/\tIdx prog 216=some (some 4,165)/\bt prog 216=some [(0,2),(2,2),(4,2),(6,2)]/\bb prog 217=some true/\tSz prog 217=some 4/\aV prog 217=some 32/\aX prog 217=some [.int .i64 0,.int .i64 0,.int .i64 0,.int .i64 0]/\bt prog 217=some [(0,2),(2,2)]/\aO prog 217 0=some (0,212)/\aO prog 217 1=some (2,212)/\prog.eqGuardType prog.depth 217=false:=by (repeat' refine And.intro ?_ ?_)<;>kernel_rfl
theorem tyset19:type_of% (aiX @tEq212 <| aiX @tEq217 <| (@qm)):=aiX @tEq212 <| aiX @tEq217 <| (@qm)
theorem qn:bb prog 218=some true/\tSz prog 218=some 4/\aV prog 218=some 32/\aX prog 218=some [.int .i64 0,.int .i64 0,.int .i64 0,.int .i64 0]/\bt prog 218=some [(0,2),(2,2)]/\aO prog 218 0=some (0,212)/\aO prog 218 1=some (2,212)/\prog.eqGuardType prog.depth 218=false/\bb prog 221=some false/\tSz prog 221=some 1/\aV prog 221=some 8/\aX prog 221=some [.int .u64 0]/\fB prog 221=some .u64/\prog.underlying 221=some (.int .u64)/\bb prog 225=some false/\tSz prog 225=some 1/\aV prog 225=some 8/\aX prog 225=some [.ptr none]/\fD prog 225=true/\bb prog 228=some true/\tSz prog 228=some 6/\aV prog 228=some 40/\aX prog 228=some [.int .i64 0,.int .i64 0,.int .i64 0,.int .i64 0,.bool false,.bool false]:=by (repeat' refine And.intro ?_ ?_)<;>kernel_rfl
theorem tyset20:type_of% (aiX @tEq218 <| (@qn)):=aiX @tEq218 <| (@qn)
theorem tyset21:bt prog 228=some [(0,1),(1,1),(2,1),(3,1),(4,1),(5,1)]/\aO prog 228 0=some (0,3)/\aO prog 228 1=some (1,3)/\aO prog 228 2=some (2,3)/\aO prog 228 3=some (3,3)/\aO prog 228 4=some (4,4)/\aO prog 228 5=some (5,4)/\prog.eqGuardType prog.depth 228=false/\bb prog 229=some true/\tSz prog 229=some 6/\aV prog 229=some 40/\aX prog 229=some [.int .i64 0,.int .i64 0,.int .i64 0,.int .i64 0,.bool false,.bool false]/\bt prog 229=some [(0,1),(1,1),(2,1),(3,1),(4,1),(5,1)]/\aO prog 229 0=some (0,3)/\aO prog 229 1=some (1,3)/\aO prog 229 2=some (2,3)/\aO prog 229 3=some (3,3)/\aO prog 229 4=some (4,4)/\aO prog 229 5=some (5,4)/\prog.eqGuardType prog.depth 229=false/\bb prog 234=some false/\tSz prog 234=some 1/\aV prog 234=some 8/\aX prog 234=some [.ptr none]:=by (repeat' refine And.intro ?_ ?_)<;>kernel_rfl
theorem tyset22:fD prog 234=true/\bb prog 237=some false/\tSz prog 237=some 1/\aV prog 237=some 8/\aX prog 237=some [.ptr none]/\fD prog 237=true/\bb prog 240=some true/\tSz prog 240=some 4/\aV prog 240=some 40/\aX prog 240=some [.ptr none,.ptr none,.ptr none,.str []]/\bt prog 240=some [(0,1),(1,1),(2,1),(3,1)]/\aO prog 240 0=some (0,17)/\aO prog 240 1=some (1,17)/\aO prog 240 2=some (2,17)/\aO prog 240 3=some (3,9)/\prog.eqGuardType prog.depth 240=false/\bb prog 250=some true/\tSz prog 250=some 11/\aV prog 250=some 48/\aX prog 250=some [.int .u64 0,.int .u64 0,.int .u32 0,.int .u8 0,.int .u8 0,.int .u8 0,.int .u8 0,.nilfn,.ptr none,.int .i32 0,.int .i32 0]/\bt prog 250=some [(0,1),(1,1),(2,1),(3,1),(4,1),(5,1),(6,1),(7,1),(8,1),(9,1),(10,1)]/\aO prog 250 0=some (0,12)/\aO prog 250 1=some (1,12)/\aO prog 250 2=some (2,205):=by (repeat' refine And.intro ?_ ?_)<;>kernel_rfl
theorem tyset23:aO prog 250 3=some (3,245)/\aO prog 250 4=some (4,5)/\aO prog 250 5=some (5,5)/\aO prog 250 6=some (6,246)/\aO prog 250 7=some (7,247)/\aO prog 250 8=some (8,105)/\aO prog 250 9=some (9,248)/\aO prog 250 10=some (10,249)/\prog.eqGuardType prog.depth 250=false:=by (repeat' refine And.intro ?_ ?_)<;>kernel_rfl
theorem aH:type_of% (aiX @tyset0 <| aiX @tyset1 <| aiX @tyset2 <| aiX @tyset3 <| aiX @tyset4 <| aiX @tyset5 <| aiX @tyset6 <| aiX @tyset7 <| aiX @tyset8 <| aiX @tyset9 <| aiX @tyset10 <| aiX @tyset11 <| aiX @tyset12 <| aiX @tyset13 <| aiX @tyset14 <| aiX @tyset15 <| aiX @tyset16 <| aiX @tyset17 <| aiX @tyset18 <| aiX @tyset19 <| aiX @tyset20 <| aiX @tyset21 <| aiX @tyset22 <| (@tyset23)) :=
 aiX @tyset0 <| aiX @tyset1 <| aiX @tyset2 <| aiX @tyset3 <| aiX @tyset4 <| aiX @tyset5 <| aiX @tyset6 <| aiX @tyset7 <| aiX @tyset8 <| aiX @tyset9 <| aiX @tyset10 <| aiX @tyset11 <| aiX @tyset12 <| aiX @tyset13 <| aiX @tyset14 <| aiX @tyset15 <| aiX @tyset16 <| aiX @tyset17 <| aiX @tyset18 <| aiX @tyset19 <| aiX @tyset20 <| aiX @tyset21 <| aiX @tyset22 <| (@tyset23)

theorem own:ownKnob prog.godebug=none:=by kernel_rfl
theorem lx:laidOutB prog=true:=by kernel_rfl
def Sl (H:ac) (sz:Nat) (s:AV) (n:Nat) (xs:List AV):Prop:=∃b own cap,s=.sl (some (b,0)) n cap/\H[b]? = some (.cells own sz xs)
theorem Sl.app {H:ac}{sz n:Nat}{s:AV}{xs:List AV}(h:Sl H sz s n xs)(l:ac):Sl (H++l) sz s n xs:=by
 obtain⟨b,own,cap,h1,h2⟩:=h
 exact⟨b,own,cap,h1,ae h2⟩
abbrev SlP (H:ac) (s:AV) (l:List (Int×Int)):Prop:=Sl H 2 s l.length (prs l)
abbrev SlI (H:ac) (k:IntKind) (s:AV) (l:List Int):Prop:=Sl H 1 s l.length (ints k l)
def aS (n:Nat):Option Nat:=match n with|0=>some 0|_+1=>none
def aI (n:Nat):Bool:=match n with|0=>false|_+1=>true
theorem nh:aS 0=some 0:=rfl
theorem ni:aI 0=false:=rfl
theorem cH {n:Nat}:aS (n+1)=none:=rfl
theorem ownG_s {n:Nat}:aI (n+1)=true:=rfl
theorem iQ {n:Nat}(h:0<n):aS n=none:=by cases n<;>first|rfl|omega
theorem dD {n:Nat}(h:0<n):aI n=true:=by cases n<;>first|rfl|omega
theorem bV {P:Program}{t:TypeId}{n:Nat}{c:Option Nat}{x:AV}{H:ac}:av P t (.sl none n c) x H=(cP P t).bind fun e=>(tSz P e).bind fun sz=>(aV P e).bind fun by_=>(aX P e).bind fun z=>(aElems sz x H).bind fun mx =>
  (bI (z.length=sz/\0<sz/\0<by_)).bind fun _=>(bI (n=0)).bind fun _=>bif mx.1==0 then some (.sl none 0 (some 0),H) else (bI (mx.1*by_<=140737488355328)).map fun _=>(.sl (some (H.length,0)) mx.1 none,H++[.cells true sz mx.2]):=rfl
theorem bF {P:Program}{t:TypeId}{b o n:Nat}{x:AV}{H:ac}:av P t (.sl (some (b,o)) n none) x H=(cP P t).bind fun e=>(tSz P e).bind fun sz=>(aV P e).bind fun by_=>(aX P e).bind fun z=>(aElems sz x H).bind fun mx =>
  (bI (z.length=sz/\0<sz/\0<by_)).bind fun _=>(ards H b o (n*sz)).bind fun olds=>(bI ((n+mx.1)*by_<=140737488355328)).bind fun _ =>
   bif n+mx.1==0 then some (.sl (some (b,o)) 0 none,H)
   else match H[b]? with
    |some (.cells true es _)=>(bI (es=sz)).map fun _=>(.sl (some (H.length,0)) (n+mx.1) none,H.set b .dead++[.cells true sz (olds++mx.2)])
    |_=>none:=rfl
theorem bG {P:Program}{t:TypeId}{b o n c:Nat}{x:AV}{H:ac}:av P t (.sl (some (b,o)) n (some c)) x H=(cP P t).bind fun e=>(tSz P e).bind fun sz=>(aV P e).bind fun by_=>(aX P e).bind fun z=>(aElems sz x H).bind fun mx =>
  (bI (z.length=sz/\0<sz/\0<by_)).bind fun _=>(ards H b o (n*sz)).bind fun olds=>(bI ((n+mx.1)*by_<=140737488355328)).bind fun _ =>
   bif n+mx.1==0 then some (.sl (some (b,o)) 0 (some c),H)
   else bif decide (c<n+mx.1) then some (.sl (some (H.length,0)) (n+mx.1) none,H++[.cells true sz (olds++mx.2)])
   else match H[b]? with
    |some (.cells true es _)=>(bI (es=sz)).map fun _=>(.sl (some (H.length,0)) (n+mx.1) none,H.set b .dead++[.cells true sz (olds++mx.2)])
    |_=>none:=rfl
def killG (n:Nat) (X:ABlk):ABlk:=match n with|0=>X|_+1=>.dead
theorem rF {P:Program}{t:TypeId}{b n:Nat}{x:AV}{H:ac}:av P t (.sl (some (b,0)) n (aS n)) x H=(cP P t).bind fun e=>(tSz P e).bind fun sz=>(aV P e).bind fun by_=>(aX P e).bind fun z=>(aElems sz x H).bind fun mx =>
  (bI (z.length=sz/\0<sz/\0<by_)).bind fun _=>match H[b]? with
   | some (.cells own es xs)=>bif (own==aI n)&&(decide (es=sz)&&(decide (xs.length=n*sz)&&(decide (0<mx.1)&&xs.all AV.one))) then
     (bI ((n+mx.1)*by_<=140737488355328)).map fun _=>(.sl (some (H.length,0)) (n+mx.1) none,H.set b (killG n (.cells own es xs))++[.cells true sz (xs++mx.2)])
    else av P t (.sl (some (b,0)) n (aS n)) x H
   |_=>av P t (.sl (some (b,0)) n (aS n)) x H:=by
 cases h1:cP P t with
 |none=>simp[av,h1]
 |some e =>
 cases h2:tSz P e with
 |none=>simp[av,h1,h2]
 |some sz =>
 cases h3:aV P e with
 |none=>simp[av,h1,h2,h3]
 |some by_ =>
 cases h4:aX P e with
 |none=>simp[av,h1,h2,h3,h4]
 |some z =>
 cases h5:aElems sz x H with
 |none=>simp[av,h1,h2,h3,h4,h5]
 |some mx =>
 simp only[Option.bind_some,h2,h3,h4,h5]
 by_cases hz:z.length=sz/\0<sz/\0<by_
 ·have hn:bI (z.length=sz/\0<sz/\0<by_)=some ():=if_pos hz
  rw[hn,Option.bind_some]
  split
  ·rename_i own es xs hb
   cases hc:(own==aI n)&&(decide (es=sz)&&(decide (xs.length=n*sz)&&(decide (0<mx.1)&&xs.all AV.one))) with
   |false=>rfl
   | true =>
    rw[cond_true]
    simp only[Bool.and_eq_true,beq_iff_eq,decide_eq_true_eq] at hc
    obtain⟨rfl,rfl,hl,hm,ho⟩:=hc
    have hard:ards H b 0 (n*es)=some xs:=by
     unfold ards
     rw[hb]
     simp only
     rw[List.drop_zero,List.take_of_length_le (by omega)]
     simp[hl,ho]
    cases n with
    | zero =>
     simp only[av,h1,h2,h3,h4,h5,Option.bind_some,hn,hard,aS,killG]
     have e0:(0+mx.1==0)=false:=beq_eq_false_iff_ne.2 (by omega)
     rw[e0,cond_false,decide_eq_true (by omega:(0:Nat)<0+mx.1),cond_true]
     have hs:H.set b (.cells (aI 0) es xs)=H:=by
      refine List.ext_getElem? fun i=>?_
      rw[List.getElem?_set]
      split
      ·rename_i e;subst e
       split
       ·rw[hb]
       rename_i hh;exact absurd (getElem?_lt hb) hh
      rfl
     rw[hs]
     unfold bI
     split<;>rfl
    | succ n =>
     simp only[av,h1,h2,h3,h4,h5,Option.bind_some,hn,hard,aS,killG,hb,aI]
     have e0:(n+1+mx.1==0)=false:=beq_eq_false_iff_ne.2 (by omega)
     rw[e0,cond_false,cond_false]
     have e1:bI True=some ():=if_pos trivial
     rw[e1]
     unfold bI
     split<;>rfl
  rfl
 have hn:bI (z.length=sz/\0<sz/\0<by_)=none:=if_neg hz
 simp only[av,h1,h2,h3,h4,h5,Option.bind_some,hn,Option.bind_none]
theorem cp {l:List (Int×Int)}:(prs l).all AV.one=true:=by
 induction l with
 |nil=>rfl
 |cons p l ih=>rw[cJ];simp[AV.one,ih]
theorem cr {k:IntKind}{l:List Int}:(ints k l).all AV.one=true:=by simp[ints,AV.one]
theorem o8 {l:List Bool}:(c8 l).all AV.one=true:=by simp[c8,AV.one]
section
variable {P:Program} {f:FuncId} {args:List AV} {H l1:ac} {x:AV}
theorem ACalls.weak (h:ACalls P f args H fun y H1=>y=x/\H1=H++l1) (G:ac) (hG:G.all gf=true) (sel:List Nat) (hnd:sel.Nodup) (x2:AV) (l2:ac)
  (hw:W (H.length+(l1++G).length) x (x2.mv (sig H.length (l1++G).length sel))/\fj (H.length+(l1++G).length) (sig H.length (l1++G).length sel) (l1++G) sel l2) :
  ACalls P f args H fun y H1=>y=x2/\H1=H++l2:=fun E w vs hE hv=>by
 refine(h E w vs hE hv).mono ?_
 rintro e w' ⟨E',v,H',x',he,⟨rfl,rfl⟩,hle,hr,hemb⟩
 have hab:=Abs.of (n:=H.length) (H0:=H) (l1:=l1) (l2:=l2) (F1:=[(0,x')]) (F2:=[(0,x2)]) G hG rfl hE.bel sel hnd (fun p hp=>by simp at hp;subst hp;exact hw.1) (eJ hw.2).1 (eJ hw.2).2
 obtain ⟨E2,l,f2,e2⟩:=hab.emb (a:=⟨#[v],[]⟩) (by rw[hemb.n];simp) (fun t=>by
  unfold look
  cases t with
  |zero=>simpa using hr
  |succ t=>simp[look];exact .any _) hemb
 refine⟨E2,v,_,x2,he,⟨rfl,rfl⟩,?_,by have:=f2 0;simpa [look] using this,e2⟩
 have hn:=hE.n
 exact⟨l.B.trans hle.B,l.w0.trans hle.w0,by rw[hn];exact l.n,fun b hb=>(l.loc b (by rw[<-hn];exact hb)).trans (hle.loc b hb)⟩
theorem ACalls.ghost {R:AV->ac->Prop}{es:Nat}(h:ACalls P f args (H++[.cells false es []]) R):ACalls P f args H R:=fun E w vs hE hv=>by
 refine(h _ w vs (hE.phantom rfl) (hv.mono (E.le_push _))).mono ?_
 rintro e w' ⟨E',v,H',x,he,hR,hle,hr,hemb⟩
 exact⟨E',v,H',x,he,hR,(E.le_push _).trans hle,hr,hemb⟩
theorem ACalls.wargs {args2:List AV}{R:AV->ac->Prop}(h:ACalls P f args2 H R)(hw:Ws H.length args args2):ACalls P f args H R:=fun E w vs hE hv =>
 h E w vs hE (na (by rw[hE.n];exact Nat.le_refl _) _ _ vs hw hv)
end
section
variable {P:Program} {f:FuncId} {H:ac}
end
theorem Abs.byN {H0 l1:ac}{F1 F2:Fr}(hsc:HBel H0.length H0)(h:fi (H0.length+l1.length) (sig H0.length l1.length []) F1 F2):Abs H0.length (sig H0.length l1.length []) F1 (H0++l1) F2 H0:=by
 have:=Abs.by (l1:=l1) (l2:=[]) (F1:=F1) (F2:=F2) hsc [] (by simp) ⟨h,trivial⟩
 simpa using this
theorem ly {P:Program}{fn:Func}{H l2:ac}{R:AV->ac->Prop}{F:Fr}{e:Exit}(he:e=.ret\/e=.normal) (hbel:HBel H.length H) {x1:AV}(x2:AV) (hx:dp P fn F H=some x1) (G:ac) (hG:G.all gf=true) (sel:List Nat) (hnd:sel.Nodup) (hR:R x2 (H++l2))
  (h:W (H.length+G.length) x1 (x2.mv (sig H.length G.length sel))/\fj (H.length+G.length) (sig H.length G.length sel) G sel l2):dE P fn H.length R e F H:=by
 have h1:=aM (P:=P) (fn:=fn) (l1:=[]) (l2:=l2) (R:=R) (F:=F) he hbel x2 (by simpa using hx) G hG sel hnd hR h
 simpa using h1
theorem qo {k:IntKind}{l m:List Int}:ints k (l++m)=ints k l++ints k m:=by simp[ints]
theorem o9 {k:IntKind}{x:Int}{l:List Int}:ints k (x::l)=.int k x::ints k l:=rfl
theorem mu {k:IntKind}:ints k []=[]:=rfl
theorem pd {l m:List Bool}:c8 (l++m)=c8 l++c8 m:=by simp[c8]
theorem nj {x:Bool}{l:List Bool}:c8 (x::l)=.bool x::c8 l:=rfl
theorem pe:c8 []=[]:=rfl

def depI (q z:Bool) (ops:Array Oper) (i j:Nat):Bool :=
 match ops[i]?,ops[j]? with
 | some a,some b =>
  let free:=fun (i:Nat) (a b:Oper)=>(match a.dst with|some t=>b.dst != some t&&!(b.looksAt ops).contains t|none=>true)&&(!dl q a.op||dk b.op||(!z&&(kExt ops i a.op&&dM b.op)))
  !(free i a b&&free j b a)
 |_,_=>false
def gm (q z:Bool) (ops:Array Oper) (τ:List Nat):Array Oper :=
 (τ.zipIdx.map fun p=>{ (ops[p.1]?.getD default) with after:=(((List.range p.2).filter fun k=>depI q z ops ((τ[k]?).getD 0) p.1).map fun k=>(⟨k,.data⟩:Edge)).toArray,guard:=none }).toArray
def jo (l:List Oper) (τ:List Nat):List LOp:=τ.map fun i=>((l[i]?).map fun o=>(⟨o.dst,o.op,none⟩:LOp)).getD ⟨none,.move (.tmp 0),none⟩
def ordB (mk:List Nat) (i j:Nat):Bool:=(mk.getD j 0).testBit i
def loose (q z:Bool) (ops:Array Oper) (mk:List Nat):List (Nat×Nat) :=
 (List.range ops.size).flatMap fun j=>((List.range j).filter fun i=>depI q z ops i j&&!ordB mk i j&&!ordB mk j i).map fun i=>(i,j)
def k6:List (Nat×Nat)->List Bool->List (Nat×Nat)
 |p::ps,b::bs=>(bif b then p else (p.2,p.1))::k6 ps bs
 |_,_=>[]
def allV:Nat->List (List Bool)
 |0=>[[]]
 |n+1=>(allV n).flatMap fun v=>[true::v,false::v]
def kd (mk:List Nat) (x y:Nat):Bool:=x==y||ordB mk x y
def refuted (mk:List Nat) (O:List (Nat×Nat)):Bool :=
 (O.any fun a=>O.any fun b=>kd mk a.2 b.1&&kd mk b.2 a.1)||O.any fun a=>O.any fun b=>O.any fun c=>kd mk a.2 b.1&&kd mk b.2 c.1&&kd mk c.2 a.1
def okRep (q z:Bool) (ops:Array Oper) (mk:List Nat) (O:List (Nat×Nat)) (τ:List Nat):Bool :=
 (List.range τ.length).all fun k=>(List.range k).all fun k'=>let i:=(τ[k']?).getD 0;let j:=(τ[k]?).getD 0;!depI q z ops i j||ordB mk i j||O.contains (i,j)
def coverB (q z:Bool) (ops:Array Oper) (reps:List (List Nat)):Bool :=
 let mk:=gS ops
 let U:=loose q z ops mk
 (allV U.length).all fun v=>let O:=k6 U v;refuted mk O||reps.any fun τ=>okRep q z ops mk O τ
def permB (n:Nat) (τ:List Nat):Bool:=τ.length==n&&((List.range n).all fun i=>τ.contains i)&&(τ.all fun i=>Nat.blt i n)&&(List.range n).all fun k=>τ.idxOf ((τ[k]?).getD 0)==k
def strictB (q:Bool) (ops:Array Oper):Bool :=
 let m:=gS ops;ops.toList.zipIdx.all fun p=>ops.toList.zipIdx.all fun r=>p.2==r.2||((m.getD r.2 0).testBit p.2||(m.getD p.2 0).testBit r.2||!dl q p.1.op||dk r.1.op)
theorem qp {q:Bool}{ops:Array Oper}(h:strictB q ops=true):m8 q ops:=fun i j a b ha hb hij hc hp=>by
 have zi:∀i o,ops[i]? = some o->(o,i)∈ops.toList.zipIdx:=fun i o ho=>List.mem_iff_getElem?.2 ⟨i,by simp[List.getElem?_zipIdx,ho]⟩
 have:=List.all_eq_true.1 (List.all_eq_true.1 h _ (zi i a ha)) _ (zi j b hb)
 simp only[Bool.or_eq_true,beq_iff_eq] at this
 rcases this with h|((h|h)|h)|h
 ·exact absurd h hij
 ·exact .inl (ef h)
 ·exact .inr (ef h)
 ·rw[hc] at h;cases h
 rw[hp] at h;cases h
def k7 (q z:Bool) (N:Nat) (ops:Array Oper) (reps:List (List Nat)):Bool :=
 (ops.toList.all fun o=>o.guard.isNone)&&(ops.toList.zipIdx.all fun p=>p.1.after.all fun e=>!Region.binds .any e||decide (e.on<p.2)) &&
 (reps.all fun τ=>permB ops.size τ&&gg q N (gm q z ops τ)&&(!z||strictB q (gm q z ops τ)))&&coverB q z ops reps
section
variable {P:Program} {N n m:Nat} {Q:Exit->Fr->ac->Prop} {q z:Bool} {ops:Array Oper}
theorem idx_ne {a b:Nat}{l:List Nat}(h:a≠b):(a::l).idxOf b=l.idxOf b+1:=by
 rw[List.idxOf_cons]
 have:(a==b)=false:=by simp[h]
 rw[this];rfl
inductive ValidL (ops:Array Oper):Array Bool->List Nat->Prop where
 |nil {listed:Array Bool}:Region.ready .any ops listed=[]->ValidL ops listed []
 |cons {listed:Array Bool} {i:Nat} {π:List Nat}:i∈Region.ready .any ops listed->ValidL ops (listed.setIfInBounds i true) π->ValidL ops listed (i::π)
theorem go_valid:∀(fuel t:Nat) (listed:Array Bool),listed.size=ops.size->unl listed.toList<=fuel->ValidL ops listed (Region.linearise.go .any ops fuel t listed [])
 | 0,t,listed,hs,hu=>by
  refine .nil ?_
  apply List.eq_nil_iff_forall_not_mem.2
  intro j hj
  obtain⟨h0,o,ho,-⟩:=mem_ready.1 hj
  have hj':=(Array.getElem?_eq_some_iff.1 ho).1
  have hi':j<listed.toList.length:=by simp;omega
  have:=List.countP_eq_zero.1 (Nat.le_zero.1 hu) listed.toList[j] (List.getElem_mem hi')
  simp at this
  simp[hs,hj',this] at h0
 | fuel+1,t,listed,hs,hu=>by
  simp only[Region.linearise.go]
  change ValidL ops listed (match (Region.ready .any ops listed)[t%(Region.ready .any ops listed).length]? with
   |some i=>Region.linearise.go .any ops fuel (t/(Region.ready .any ops listed).length) (listed.setIfInBounds i true) [i]
   |none=>[].reverse)
  cases hi:(Region.ready .any ops listed)[t%(Region.ready .any ops listed).length]? with
  | none =>
   refine .nil ?_
   cases hr:Region.ready .any ops listed with
   |nil=>rfl
   | cons x xs =>
    rw[hr] at hi
    have hlt:t%(x::xs).length<(x::xs).length:=Nat.mod_lt _ (by simp)
    simp at hi
    simp at hlt
    omega
  | some i =>
   simp only[]
   rw[linearise_go_acc,List.reverse_singleton,List.singleton_append]
   have hmem:=List.mem_of_getElem? hi
   refine .cons hmem (go_valid fuel _ _ (by simp[hs]) ?_)
   obtain⟨h0,o,ho,-⟩:=mem_ready.1 hmem
   have hj':=(Array.getElem?_eq_some_iff.1 ho).1
   have:=unl_set (l:=listed.toList) (k:=i) (by simp;omega) (by
    rw[Array.getElem?_toList]
    simp[hs,hj'] at h0
    rw[Array.getElem?_eq_getElem (by omega),h0])
   rw[Array.toList_setIfInBounds]
   omega
theorem pf {Q:Exit->Act->World->Prop}:∀(π:List Nat) (fuel:Nat) (listed:Array Bool) (a:Act) (w:World),π.length<=fuel->wpAny P .any ops Q fuel listed a w->ValidL ops listed π->wpOps P ops Q π a w
 |[],0,_,_,_,_,h,_=>h.2
 |[],_+1,_,_,_,_,h,hv=>by cases hv with|nil hr=>exact h.1 hr
 |i::π,0,_,_,_,hl,_,_=>by simp at hl
 | i::π,fuel+1,listed,a,w,hl,h,hv=>by
  cases hv with
  | cons hi hv =>
   rw[wpOps_cons]
   exact wpOp_mono (fun a w hh=>pf π fuel _ a w (by simp at hl;omega) hh hv) (h.2 i hi)
theorem pg (hback:∀(i:Nat) (o:Oper) (e:Edge),ops[i]? = some o->e∈o.after->Region.binds .any e=true->e.on<i):∀(π:List Nat) (listed:Array Bool),listed.size=ops.size->ValidL ops listed π ->
  (∀i,i<ops.size->listed.getD i false=false->i∈π)/\(∀i∈π,i<ops.size/\listed.getD i false=false)/\π.Nodup/\∀(j:Nat) (o:Oper) (e:Edge),j∈π->ops[j]? = some o->e∈o.after->Region.binds .any e=true->listed.getD e.on false=true\/π.idxOf e.on<π.idxOf j
 | [], listed,hs,hv=>by
  cases hv with
  | nil hr =>
   refine⟨fun i hi hli=>?_,fun i h=>by simp at h,List.nodup_nil,fun j o e h=>by simp at h⟩
   exfalso
   have hall:∀i,i<ops.size->listed.getD i false=true:=by
    intro i
    induction i using Nat.strongRecOn with
    | _ i ihi =>
     intro hi
     cases hli:listed.getD i false with
     |true=>rfl
     | false =>
      exfalso
      have ho:ops[i]? = some ops[i]:=Array.getElem?_eq_getElem hi
      have:i∈Region.ready .any ops listed:=mem_ready.2 ⟨by simp[hs,hi] at hli ⊢;exact hli,_,ho,fun e he hb=>by
       have hlt:=hback i _ e ho he hb
       exact ihi e.on hlt (by omega)⟩
      rw[hr] at this;cases this
   rw[hall i hi] at hli;cases hli
 | i :: π,listed,hs,hv=>by
  cases hv with
  | cons hi hv =>
   obtain⟨h1,h2,h3,h4⟩:=pg hback π _ (by simp[hs]) hv
   obtain⟨h0,o,ho,hed⟩:=mem_ready.1 hi
   have hin:=(Array.getElem?_eq_some_iff.1 ho).1
   have hli:listed.getD i false=false:=by simp[hs,hin] at h0 ⊢;exact h0
   have hget:∀j,(listed.setIfInBounds i true).getD j false=if j=i then true else listed.getD j false:=fun j=>by
    by_cases e:j=i
    ·subst e;simp[hs,hin]
    rw[if_neg e,getD_set_ne false (fun e'=>e e'.symm)]
   have hni:i∉π:=fun hm=>by
    have:=(h2 i hm).2
    rw[hget,if_pos rfl] at this;cases this
   refine⟨fun j hj hjl=>?_,fun j hj=>?_,List.nodup_cons.2 ⟨hni,h3⟩,fun j o' e hj ho' he hb=>?_⟩
   ·by_cases e:j=i
    ·simp[e]
    exact List.mem_cons_of_mem _ (h1 j hj (by rw[hget,if_neg e];exact hjl))
   ·rcases List.mem_cons.1 hj with rfl|hj
    ·exact⟨hin,hli⟩
    have:=h2 j hj
    rw[hget] at this
    by_cases e:j=i
    ·rw[if_pos e] at this;cases this.2
    rw[if_neg e] at this;exact this
   by_cases eji:j=i
   ·subst eji
    rw[ho] at ho';simp at ho';subst ho'
    exact .inl (hed e he hb)
   have hj':j∈π:=(List.mem_cons.1 hj).resolve_left eji
   have hidx:(i::π).idxOf j=π.idxOf j+1:=by rw[idx_ne (fun e=>eji e.symm)]
   rcases h4 j o' e hj' ho' he hb with h5|h5
   ·rw[hget] at h5
    by_cases e2:e.on=i
    ·right;rw[e2,List.idxOf_cons_self,hidx];omega
    rw[if_neg e2] at h5;exact .inl h5
   by_cases e2:e.on=i
   ·right;rw[e2,List.idxOf_cons_self,hidx];omega
   right;rw[idx_ne (fun e'=>e2 e'.symm),hidx];omega
theorem qq:∀(v:List Bool),v∈allV v.length
 |[]=>by simp[allV]
 | b::v=>by
  simp only[List.length_cons,allV,List.mem_flatMap]
  refine⟨v,qq v,?_⟩
  cases b<;>simp
theorem ph {rk:Nat->Nat}:∀(U:List (Nat×Nat)),(∀p∈U,rk p.1≠rk p.2)->∀p∈k6 U (U.map fun p=>decide (rk p.1<rk p.2)),rk p.1<rk p.2
 |[],_,p,h=>by simp[k6] at h
 | u::U,hU,p,h=>by
  simp only[List.map_cons,k6,List.mem_cons] at h
  rcases h with rfl|h
  ·by_cases hd:rk u.1<rk u.2
   ·rw[decide_eq_true hd,cond_true];exact hd
   rw[decide_eq_false hd,cond_false]
   have:=hU u (by simp)
   show rk u.2<rk u.1
   omega
  exact ph U (fun p hp=>hU p (by simp[hp])) p h
theorem cover_rep {reps:List (List Nat)}{rk:Nat->Nat}(hc:coverB q z ops reps=true)(hord:∀i j,ordB (gS ops) i j=true->rk i<rk j)(hU:∀p∈loose q z ops (gS ops),rk p.1≠rk p.2):
  ∃τ∈reps,∀k k':Nat,k<τ.length->k'<k->depI q z ops ((τ[k']?).getD 0) ((τ[k]?).getD 0)=true->rk ((τ[k']?).getD 0)<rk ((τ[k]?).getD 0):=by
 have hlt:=ph (rk:=rk) _ hU
 have hv:=List.all_eq_true.1 hc ((loose q z ops (gS ops)).map fun p=>decide (rk p.1<rk p.2)) (by
  have:=qq ((loose q z ops (gS ops)).map fun p=>decide (rk p.1<rk p.2))
  simpa using this)
 simp only[Bool.or_eq_true] at hv
 have hlink:∀x y,kd (gS ops) x y=true->rk x<=rk y:=fun x y h=>by
  unfold kd at h
  simp only[Bool.or_eq_true,beq_iff_eq] at h
  rcases h with rfl|h
  ·exact Nat.le_refl _
  exact Nat.le_of_lt (hord _ _ h)
 rcases hv with hv|hv
 ·exfalso
  unfold refuted at hv
  simp only[Bool.or_eq_true,List.any_eq_true,Bool.and_eq_true] at hv
  rcases hv with ⟨a,ha,b,hb,h1,h2⟩|⟨a,ha,b,hb,c,hc',⟨h1,h2⟩,h3⟩
  ·have:=hlt a ha;have:=hlt b hb;have:=hlink _ _ h1;have:=hlink _ _ h2;omega
  have:=hlt a ha;have:=hlt b hb;have:=hlt c hc';have:=hlink _ _ h1;have:=hlink _ _ h2;have:=hlink _ _ h3;omega
 obtain⟨τ,hτ,hk⟩:=List.any_eq_true.1 hv
 refine⟨τ,hτ,fun k k' h1 h2 hd=>?_⟩
 have:=List.all_eq_true.1 (List.all_eq_true.1 hk k (List.mem_range.2 h1)) k' (List.mem_range.2 h2)
 simp only[hd,Bool.not_true,Bool.false_or,Bool.or_eq_true] at this
 rcases this with h|h
 ·exact hord _ _ h
 exact hlt _ (by simpa using h)
theorem mw {τ:List Nat}{k i:Nat}(hk:τ[k]? = some i):(gm q z ops τ)[k]? = some { (ops[i]?.getD default) with after:=(((List.range k).filter fun k'=>depI q z ops ((τ[k']?).getD 0) i).map fun k'=>(⟨k',.data⟩:Edge)).toArray,guard:=none }:=by
 unfold gm
 simp[List.getElem?_zipIdx,hk]
theorem jp {τ:List Nat}:(gm q z ops τ).size=τ.length:=by simp[gm]
theorem rG {A B:List Nat}{i:Nat}(h:(A++B).idxOf i<A.length):i∈A:=by
 by_cases hi:i∈A
 ·exact hi
 rw[List.idxOf_append,if_neg hi] at h;omega
theorem validT {τ π0:List Nat}(hlen:τ.length=ops.size) (hmem:∀i,i<ops.size->i∈τ) (hpos:∀k,k<ops.size->τ.idxOf ((τ[k]?).getD 0)=k) (hin:∀i∈τ,i<ops.size)
  (hnd:π0.Nodup) (hall:∀i,i<ops.size->i∈π0) (hπ:∀i∈π0,i<ops.size)
  (hag:∀k k':Nat,k<τ.length->k'<k->depI q z ops ((τ[k']?).getD 0) ((τ[k]?).getD 0)=true->π0.idxOf ((τ[k']?).getD 0)<π0.idxOf ((τ[k]?).getD 0)) :
  ∀(π A:List Nat) (L:Array Bool),π0=A++π->L.size=ops.size->(∀k,k<ops.size->L.getD k false=decide ((τ[k]?).getD 0∈A))->ValidL (gm q z ops τ) L (π.map fun i=>τ.idxOf i)
 | [],A,L,e,hs,hL=>by
  refine .nil ?_
  apply List.eq_nil_iff_forall_not_mem.2
  intro k hk
  obtain⟨h0,o,ho,-⟩:=mem_ready.1 hk
  have hk':=(Array.getElem?_eq_some_iff.1 ho).1
  rw[jp,hlen] at hk'
  have h1:=hL k hk'
  have hτ:τ[k]? = some τ[k]:=List.getElem?_eq_getElem (by omega)
  rw[hτ] at h1
  have:τ[k]∈A:=by
   rw[List.append_nil] at e
   rw[<-e];exact hall _ (hin _ (List.getElem_mem _))
  simp[this] at h1
  simp[hs,hk'] at h0 h1
  rw[h1] at h0;cases h0
 | j :: π,A,L,e,hs,hL=>by
  have hj:j<ops.size:=hπ j (by rw[e];simp)
  have hjm:=hmem j hj
  have hkl:τ.idxOf j<τ.length:=List.idxOf_lt_length_of_mem hjm
  have hτk:τ[τ.idxOf j]? = some j:=by rw[List.getElem?_eq_getElem hkl,List.getElem_idxOf]
  have hjA:j∉A:=fun h=>by
   rw[e] at hnd
   exact(List.nodup_append.1 hnd).2.2 j h j (by simp) rfl
  have hget:=mw (q:=q) (z:=z) (ops:=ops) hτk
  refine .cons (mem_ready.2 ⟨?_,_,hget,fun ed he _=>?_⟩) (validT hlen hmem hpos hin hnd hall hπ hag π (A++[j]) _ (by rw[e];simp) (by simp[hs]) fun k hk=>?_)
  ·have:=hL (τ.idxOf j) (by omega)
   rw[hτk] at this
   simp[hjA] at this
   show L.getD (τ.idxOf j) true=false
   rw[Array.getD_eq_getD_getElem?]
   rw[Array.getElem?_eq_getElem (by omega)] at this ⊢
   simpa using this
  ·simp only[List.mem_toArray,List.mem_map,List.mem_filter,List.mem_range] at he
   obtain⟨k',⟨hk1,hk2⟩,rfl⟩:=he
   have h1:=hag (τ.idxOf j) k' hkl hk1 (by rw[hτk];exact hk2)
   rw[hτk] at h1
   simp only[Option.getD_some] at h1
   have hjx:π0.idxOf j=A.length:=by
    rw[e,List.idxOf_append,if_neg hjA,List.idxOf_cons_self,Nat.zero_add]
   rw[hjx,e] at h1
   have:=rG h1
   rw[hL k' (by omega)]
   simp[this]
  by_cases ek:k=τ.idxOf j
  ·subst ek
   rw[hτk]
   simp[hs,hj,hlen▸hkl]
  rw[getD_set_ne false (fun e'=>ek e'.symm),hL k hk]
  have hne:(τ[k]?).getD 0≠j:=fun h=>ek (by have:=hpos k hk;rw[h] at this;exact this.symm)
  simp[hne]
theorem wpOps_T {Q:Exit->Act->World->Prop}{τ:List Nat}(hmem:∀i,i<ops.size->i∈τ)(hg:∀(i:Nat) (o:Oper),ops[i]? = some o->o.guard=none):∀(π:List Nat) (a:Act) (w:World),(∀i∈π,i<ops.size)->wpOps P (gm q z ops τ) Q (π.map fun i=>τ.idxOf i) a w->wpOps P ops Q π a w
 |[],_,_,_,h=>h
 | i::π,a,w,hπ,h=>by
  rw[List.map_cons,wpOps_cons] at h
  rw[wpOps_cons]
  have h1:=wpOp_mono (fun a w hh=>wpOps_T hmem hg π a w (fun j hj=>hπ j (by simp[hj])) hh) h
  have hi:=hπ i (by simp)
  have him:=hmem i hi
  have hτk:τ[τ.idxOf i]? = some i:=by rw[List.getElem?_eq_getElem (List.idxOf_lt_length_of_mem him),List.getElem_idxOf]
  have ho:ops[i]? = some ops[i]:=Array.getElem?_eq_getElem hi
  unfold wpOp at h1 ⊢
  rw[mw hτk] at h1
  rw[ho] at h1 ⊢
  have hgi:=hg i _ ho
  simp only[Region.wanted,hgi,if_true,Option.getD_some] at h1 ⊢
  exact h1
theorem pick_opsT {τ:List Nat}(hin:∀i∈τ,i<ops.size):(gm q z ops τ).toList.map (lightOf (dsts (gm q z ops τ)))=jo ops.toList τ:=by
 refine List.ext_getElem? fun k=>?_
 unfold jo
 rw[List.getElem?_map,List.getElem?_map,Array.getElem?_toList]
 cases hk:τ[k]? with
 | none =>
  have:(gm q z ops τ)[k]? = none:=Array.getElem?_eq_none (by rw[jp];exact List.getElem?_eq_none_iff.1 hk)
  rw[this];rfl
 | some i =>
  rw[mw hk]
  have hi:=hin i (List.mem_of_getElem? hk)
  simp only[Option.map_some,lightOf,Option.map_none]
  rw[Array.getElem?_toList,Array.getElem?_eq_getElem hi]
  rfl
theorem pi:∀(n:Nat) (l:List Nat),l.Nodup->(∀i∈l,i<n)->l.length<=n
 | 0,l,_,h=>by
  cases l with
  |nil=>simp
  |cons x l=>exact absurd (h x (by simp)) (Nat.not_lt_zero x)
 | n+1,l,hd,h=>by
  have h1:=pi n (l.filter fun i=>i != n) (hd.filter _) (fun i hi=>by
   simp only[List.mem_filter,bne_iff_ne] at hi
   have:=h i hi.1
   omega)
  have h2:=List.length_eq_countP_add_countP (fun i=>i != n) (l:=l)
  rw[<-List.countP_eq_length_filter] at h1
  have h3:List.countP (fun a=>decide ¬(a != n)=true) l=l.count n:=by
   unfold List.count
   congr 1
   funext a
   by_cases e:a=n<;>simp[e]
  have h4:=List.nodup_iff_count.1 hd n
  omega
theorem n9 {id:Nat}{F:Fr}{H:ac}(hm:P.follows .mixedOrders=true) (reps:List (List Nat)) (hok:k7 q z N ops reps=true) (hmz:m=H.length\/z=true)
  (hh:∀τ∈reps,AOpsDL P q m (jo ops.toList τ) F H (fun F' H'=>Q .normal F' H')):AW P N n (.region id ops true) Q F H:=by
 intro E w a h1 h2 h3 h4 h5
 unfold k7 at hok
 simp only[Bool.and_eq_true] at hok
 obtain⟨⟨⟨k1,k2⟩,k3⟩,k4⟩:=hok
 have zi:∀i o,ops[i]? = some o->(o,i)∈ops.toList.zipIdx:=fun i o ho=>List.mem_iff_getElem?.2 ⟨i,by simp[List.getElem?_zipIdx,ho]⟩
 have hg:∀(i:Nat) (o:Oper),ops[i]? = some o->o.guard=none:=fun i o ho=>by
  have:=List.all_eq_true.1 k1 o (by simpa using Array.mem_of_getElem? ho)
  simpa using this
 have hback:∀(i:Nat) (o:Oper) (e:Edge),ops[i]? = some o->e∈o.after->Region.binds .any e=true->e.on<i:=fun i o e ho he hb=>by
  have:=List.all_eq_true.1 k2 _ (zi i o ho)
  have:=Array.all_eq_true_iff_forall_mem.1 this e he
  simpa [hb] using this
 refine wp_region_draw fun t=>?_
 simp only[Region.schedule,hm,Bool.true_or,if_true]
 have hv:ValidL ops (Array.replicate ops.size false) (Region.linearise .any ops t):=go_valid _ t _ (by simp) (by simp[unl,List.countP_replicate])
 generalize Region.linearise .any ops t=π at hv
 have hL:∀i,(Array.replicate ops.size false).getD i false=false:=fun i=>by
  rw[Array.getD_eq_getD_getElem?]
  cases hq:(Array.replicate ops.size false)[i]? with
  |none=>rfl
  |some b=>rw[Array.getElem?_replicate] at hq;split at hq<;>simp at hq;subst hq;rfl
 obtain⟨v1,v2,v3,v4⟩:=pg hback π _ (by simp) hv
 have hall:∀i,i<ops.size->i∈π:=fun i hi=>v1 i hi (hL i)
 have hπ:∀i∈π,i<ops.size:=fun i hi=>(v2 i hi).1
 have hpred:∀i j,Pred ops i j->j<ops.size->π.idxOf i<π.idxOf j:=fun i j hp=>by
  induction hp with
  | edge ho he hb =>
   intro hj
   rcases v4 _ _ _ (hall _ hj) ho he hb with h|h
   ·rw[hL] at h;cases h
   exact h
  | step ho he hb _ ih =>
   intro hj
   rcases v4 _ _ _ (hall _ hj) ho he hb with h|h
   ·rw[hL] at h;cases h
   exact Nat.lt_trans (ih (by have:=hback _ _ _ ho he hb;omega)) h
 have predlt:∀i j,Pred ops i j->j<ops.size:=fun i j hp=>by
  cases hp with
  |edge ho _ _=>exact(Array.getElem?_eq_some_iff.1 ho).1
  |step ho _ _ _=>exact(Array.getElem?_eq_some_iff.1 ho).1
 obtain ⟨τ,hτ,hag⟩:=cover_rep (rk:=fun i=>π.idxOf i) k4 (fun i j h=>hpred i j (ef h) (predlt i j (ef h))) (fun p hp=>by
  unfold loose at hp
  simp only[List.mem_flatMap,List.mem_range,List.mem_map,List.mem_filter] at hp
  obtain⟨j,hj,i,⟨hi,-⟩,rfl⟩:=hp
  intro e
  have h1:π[π.idxOf i]? = some i:=by rw[List.getElem?_eq_getElem (List.idxOf_lt_length_of_mem (hall i (by omega))),List.getElem_idxOf]
  have h2:π[π.idxOf j]? = some j:=by rw[List.getElem?_eq_getElem (List.idxOf_lt_length_of_mem (hall j hj)),List.getElem_idxOf]
  simp only at e
  rw[e,h2] at h1
  simp at h1;omega)
 have hr:=List.all_eq_true.1 k3 τ hτ
 simp only[Bool.and_eq_true] at hr
 obtain⟨⟨hp,hd⟩,hz⟩:=hr
 unfold permB at hp
 simp only[Bool.and_eq_true,beq_iff_eq] at hp
 obtain⟨⟨⟨p1,p2⟩,p3⟩,p4⟩:=hp
 have hmem:∀i,i<ops.size->i∈τ:=fun i hi=>by
  have:=List.all_eq_true.1 p2 i (List.mem_range.2 hi)
  simpa using this
 have hin:∀i∈τ,i<ops.size:=fun i hi=>Nat.le_of_ble_eq_true (List.all_eq_true.1 p3 i hi)
 have hpos:∀k,k<ops.size->τ.idxOf ((τ[k]?).getD 0)=k:=fun k hk=>by
  have:=List.all_eq_true.1 p4 k (List.mem_range.2 hk)
  simpa using this
 refine wpOps_T (q:=q) (z:=z) hmem hg π a _ hπ ?_
 have hvT:=validT (q:=q) (z:=z) p1 hmem hpos hin v3 hall hπ hag π [] (Array.replicate (gm q z ops τ).size false) (by simp) (by simp[jp,p1]) (fun k hk=>by
  rw[Array.getD_eq_getD_getElem?]
  cases hq:(Array.replicate (gm q z ops τ).size false)[k]? with
  |none=>simp
  |some b=>rw[Array.getElem?_replicate] at hq;split at hq<;>simp at hq;subst hq;simp)
 have hany:=mj (P:=P) (N:=N) (n:=n) (Q:=Q) q hd (hmz.imp (fun e=>Nat.le_of_eq e) fun e=>qp (by rw[e] at hz;simpa [e] using hz)) (gD (gm q z ops τ).toList F H (by rw[pick_opsT hin];exact hh τ hτ)) h1 h2 h3 h4 h5
 refine pf _ _ _ _ _ ?_ hany hvT
 rw[List.length_map,jp,p1]
 have:=pi ops.size π v3 hπ
 omega
theorem nk {c:Code}{Q:Exit->Fr->ac->Prop}{σ:Nat->Nat}{F F2:Fr}{H H2:ac}(ab:Abs n σ F H F2 H2)(h:AW P N n c Q F2 H2):AW P N n c Q F H:=by
 intro E w a h1 h2 h3 h4 h5
 obtain⟨E',hle,f,e⟩:=ab.emb h1 h4 h5
 exact wp_mono (h E' w a hle.n h2 h3 f e) fun e a w hh=>LiftQ.shift hle hh
theorem fx {a b:Code}{F:Fr}{H:ac}(q:Bool)(hm:P.follows .mixedOrders=true)(hc:dd N q a=true)(J:Fr->ac->Prop)(h1:AGo P N n q Q [.code a,.inv J] F H)(h2:∀F H,J F H->AW P N n b Q F H):AW P N n (.seq a b) Q F H:=by
 refine gY (AW.mono (gk hm a hc _ F H h1) fun e F H hq=>?_)
 cases e<;>first|exact h2 F H hq|exact hq
theorem AW_fin {a:Code}{F:Fr}{H:ac}(q:Bool)(hm:P.follows .mixedOrders=true)(hc:dd N q a=true)(h:AGo P N n q Q [.code a] F H):AW P N n a Q F H:=gk hm a hc _ F H h
theorem aL {id:Nat}{b:Code}{F:Fr}{H:ac}(q:Bool) (hm:P.follows .mixedOrders=true) (reps:List (List Nat)) (hok:k7 q false N ops reps=true) (I:Fr->ac->Prop)
  (h1:∀τ∈reps,∀J:Fr->ac->Prop,(∀F' H',(∃σ F2 H2,I F2 H2/\Abs n σ F' H' F2 H2)->J F' H')->AGo P N n q Q [.opsD H.length (jo ops.toList τ),.inv J] F H) (h2:∀F2 H2,I F2 H2->AW P N n b Q F2 H2):AW P N n (.seq (.region id ops true) b) Q F H:=by
 refine gY (AW.mono (n9 (Q:=fv (fun F' H'=>∃σ F2 H2,I F2 H2/\Abs n σ F' H' F2 H2) Q) hm reps hok (.inl rfl) fun τ hτ=>?_) fun e F H hq=>?_)
 ·exact h1 τ hτ (fun F' H'=>∃σ F2 H2,I F2 H2/\Abs n σ F' H' F2 H2) (fun _ _ h=>h)
 cases e with
 | normal =>
  obtain⟨σ,F2,H2,hi,ab⟩:=hq
  exact nk ab (h2 F2 H2 hi)
 |_=>exact hq
theorem ma {id:Nat}{b:Code}{F:Fr}{H:ac}(q:Bool) (hm:P.follows .mixedOrders=true) (reps:List (List Nat)) (hok:k7 q true N ops reps=true) (I:Fr->ac->Prop)
  (h1:∀τ∈reps,∀J:Fr->ac->Prop,(∀F' H',(∃σ F2 H2,I F2 H2/\Abs n σ F' H' F2 H2)->J F' H')->AGo P N n q Q [.opsD (H.length+1000000) (jo ops.toList τ),.inv J] F H) (h2:∀F2 H2,I F2 H2->AW P N n b Q F2 H2):AW P N n (.seq (.region id ops true) b) Q F H:=by
 refine gY (AW.mono (n9 (m:=H.length+1000000) (Q:=fv (fun F' H'=>∃σ F2 H2,I F2 H2/\Abs n σ F' H' F2 H2) Q) hm reps hok (.inr rfl) fun τ hτ=>?_) fun e F H hq=>?_)
 ·exact h1 τ hτ (fun F' H'=>∃σ F2 H2,I F2 H2/\Abs n σ F' H' F2 H2) (fun _ _ h=>h)
 cases e with
 | normal =>
  obtain⟨σ,F2,H2,hi,ab⟩:=hq
  exact nk ab (h2 F2 H2 hi)
 |_=>exact hq
theorem af {p:List Nat->Prop}{τ:List Nat}{l:List (List Nat)}(h:p τ)(h2:∀τ∈l,p τ):∀τ'∈τ::l,p τ':=fun τ' h'=>by
 rcases List.mem_cons.1 h' with rfl|h'
 ·exact h
 exact h2 _ h'
theorem aQ {p:List Nat->Prop}:∀τ'∈([]:List (List Nat)),p τ':=fun τ' h=>by simp at h
theorem ai {J:Fr->ac->Prop}{r:List It}{F:Fr}{H:ac}(h:J F H):AGo P N n q Q (.inv J::r) F H:=h
theorem aR {f:FuncId}{fn:Func}{args:List AV}{R:AV->ac->Prop}{H:ac}(hf:P.funcs[f]? = some fn) (N:Nat) (hN:fn.ntmps=N) (ha:args.length<=N) (hsome:fn.body.isSome=true)
  (h:HBel H.length H->∀Q,(∀F H',dE P fn H.length R .ret F H'->dF Q F H')->(∀F H',dE P fn H.length R .normal F H'->Q .normal F H')->∀c,fn.body=some c->AW P N H.length c Q (argF 0 args) H):ACalls P f args H R:=by
 cases hb:fn.body with
 |none=>rw[hb] at hsome;cases hsome
 |some c=>exact kT hf hb hN ha fun hbel=>h hbel (dE P fn H.length R) (fun _ _ k=>k) (fun _ _ k=>k) c hb
def eZ (N:Nat) (q:Bool):Code->Bool
 |.seq a b=>eZ N q a&&eZ N q b
 |.cond _ a b=>eZ N q a&&eZ N q b
 |.block _ c=>eZ N q c
 |.region _ ops draw=>bif draw then gg q N ops else kN N ops
 |_=>true
theorem jJ (hm:P.follows .mixedOrders=true):∀(c:Code),eZ N q c=true->∀(Q:Exit->Fr->ac->Prop) (F:Fr) (H:ac),AWr P N n q c Q F H->AW P N n c Q F H
 |.skip,_,_,_,_,h=>AW_skip h
 |.label _,_,_,_,_,h=>pW h
 | .seq a b,hc,Q,F,H,h=>by
  simp only[eZ,Bool.and_eq_true] at hc
  refine gY (AW.mono (jJ hm a hc.1 _ F H h) fun e F H hq=>?_)
  cases e with
  |normal=>exact jJ hm b hc.2 _ F H hq
  |_=>exact hq
 | .cond c a b,hc,Q,F,H,h=>by
  simp only[eZ,Bool.and_eq_true] at hc
  obtain⟨t,h1,h2,h3⟩:=h
  exact db t h1 (fun e=>jJ hm a hc.1 _ F H (h2 e)) (fun e=>jJ hm b hc.2 _ F H (h3 e))
 |.block id c,hc,Q,F,H,h=>mh (jJ hm c hc _ F H h)
 |.exit _,_,_,_,_,h=>AW_exit h
 |.ret,_,_,_,_,h=>AW_ret h
 | .region id ops draw,hc,Q,F,H,h=>by
  cases draw
  ·exact oP hc (lu _ _ _ h)
  exact AW_draw q hm hc (gD _ _ _ h)
 |.loop c,_,_,_,_,h=>h
 |.rangeFunc ..,_,_,_,_,h=>h.elim
 |.scope _,_,_,_,_,h=>h.elim
 |.goto _,_,_,_,_,h=>h.elim
 |.refuse _,_,_,_,_,h=>h.elim
theorem ru {f:FuncId}{fn:Func}{args:List AV}{R:AV->ac->Prop}{H:ac}(hm:P.follows .mixedOrders=true) (hf:P.funcs[f]? = some fn) (q:Bool) (N:Nat) (hN:fn.ntmps=N) (ha:args.length<=N)
  (hc:(fn.body.map (eZ N q))=some true) (h:HBel H.length H->∀Q,(∀F H',dE P fn H.length R .ret F H'->dF Q F H')->(∀F H',dE P fn H.length R .normal F H'->Q .normal F H')->∀c,fn.body=some c->AGo P N H.length q Q [.code c] (argF 0 args) H):ACalls P f args H R:=by
 cases hb:fn.body with
 |none=>rw[hb] at hc;cases hc
 | some c =>
  rw[hb] at hc
  simp at hc
  exact kT hf hb hN ha fun hbel=>jJ hm c hc _ _ _ (h hbel (dE P fn H.length R) (fun _ _ k=>k) (fun _ _ k=>k) c hb)
theorem AW_seqQ {a b:Code}{F:Fr}{H:ac}(h:∀Q2:Exit->Fr->ac->Prop,(∀F H,AW P N n b Q F H->Q2 .normal F H)->(∀F H,dF Q F H->dF Q2 F H)->(∀id F H,Q (.exit id) F H->Q2 (.exit id) F H)->AW P N n a Q2 F H):AW P N n (.seq a b) Q F H :=
 gY (h (fv (fun F H=>AW P N n b Q F H) Q) (fun _ _ k=>k) (fun _ _ k=>k) (fun _ _ _ k=>k))
theorem AW_blockQ {id:Nat}{c:Code}{F:Fr}{H:ac}(h:∀Q2:Exit->Fr->ac->Prop,(∀F H,Q .normal F H->Q2 .normal F H)->(∀F H,dF Q F H->dF Q2 F H)->(∀id',id'≠id->∀F H,Q (.exit id') F H->Q2 (.exit id') F H)->(∀F H,Q .normal F H->Q2 (.exit id) F H)->AW P N n c Q2 F H):AW P N n (.block id c) Q F H :=
 mh (h (ff id Q) (fun _ _ k=>k) (fun _ _ k=>k) (fun id' hne F H k=>by simp only[ff];rw[if_neg hne];exact k) (fun F H k=>by simp only[ff,if_true];exact k))
theorem go_loopA {c:Code}{r:List It}{F:Fr}{H:ac}(I:Nat->Fr->ac->Prop) (k0:Nat) (h0:∃σ F2 H2,I k0 F2 H2/\Abs n σ F H F2 H2)
  (round:∀k F H,I k F H->∀Q2:Exit->Fr->ac->Prop,(∀F' H',(∃k',k'<k/\∃σ F2 H2,I k' F2 H2/\Abs n σ F' H' F2 H2)->Q2 .normal F' H')->(∀F H,dF Q F H->dF Q2 F H)->(∀id F H,jl P N n q Q id r F H->Q2 (.exit id) F H)->AW P N n c Q2 F H):AGo P N n q Q (.code (.loop c)::r) F H :=
 nY I k0 h0 fun k F H hi=>round k F H hi (fv _ (St P N n q Q r)) (fun _ _ k=>k) (fun F H k=>by show St P N n q Q r .ret F H;rw[gE];exact k) (fun _ _ _ k=>k)
theorem cW {c:Code}{F:Fr}{H:ac}(I:Nat->Fr->ac->Prop) (k0:Nat) (h0:∃σ F2 H2,I k0 F2 H2/\Abs n σ F H F2 H2)
  (round:∀k F H,I k F H->∀Q2:Exit->Fr->ac->Prop,(∀F' H',(∃k',k'<k/\∃σ F2 H2,I k' F2 H2/\Abs n σ F' H' F2 H2)->Q2 .normal F' H')->(∀F H,dF Q F H->dF Q2 F H)->(∀id F H,Q (.exit id) F H->Q2 (.exit id) F H)->AW P N n c Q2 F H):AW P N n (.loop c) Q F H :=
 nY I k0 h0 fun k F H hi=>round k F H hi (fv _ Q) (fun _ _ k=>k) (fun F H k=>k) (fun _ _ _ k=>k)
theorem AcT (q:Bool) {f:FuncId}{fn:Func}{args:List AV}{R:AV->ac->Prop}{H:ac}(hf:P.funcs[f]? = some fn) {c:Code}(h:HBel H.length H->∀Q:Exit->Fr->ac->Prop,(∀F H',dE P fn H.length R .ret F H'->dF Q F H')->AGo P fn.ntmps H.length q Q [.code c] (argF 0 args) H)
  (hb:fn.body=some c:=by rfl) (hm:P.follows .mixedOrders=true:=by exact try_mixed) (ha:args.length<=fn.ntmps:=by exact Nat.le_of_ble_eq_true (by kernel_rfl)) (hc:dd fn.ntmps q c=true:=by kernel_rfl):ACalls P f args H R :=
 co hm hf q _ rfl ha (by rw[hb];exact congrArg some hc) fun hbel Q hQ _ c' hc'=>by
  rw[hb] at hc'
  injection hc' with hc'
  subst hc'
  exact h hbel Q hQ
theorem AcL (q:Bool) {f:FuncId}{fn:Func}{args:List AV}{R:AV->ac->Prop}{H:ac}(hf:P.funcs[f]? = some fn) {c:Code}(h:HBel H.length H->∀Q:Exit->Fr->ac->Prop,(∀F H',dE P fn H.length R .ret F H'->dF Q F H')->AGo P fn.ntmps H.length q Q [.code c] (argF 0 args) H)
  (hb:fn.body=some c:=by rfl) (hm:P.follows .mixedOrders=true:=by exact try_mixed) (ha:args.length<=fn.ntmps:=by exact Nat.le_of_ble_eq_true (by kernel_rfl)) (hc:eZ fn.ntmps q c=true:=by kernel_rfl):ACalls P f args H R :=
 ru hm hf q _ rfl ha (by rw[hb];exact congrArg some hc) fun hbel Q hQ _ c' hc'=>by
  rw[hb] at hc'
  injection hc' with hc'
  subst hc'
  exact h hbel Q hQ
end
def qr (P:Program) (t:TypeId) (s x:AV) (H:ac):Option (AV×ac):=av P t s x H
theorem bW {P:Program}{t:TypeId}{b n:Nat}{x:AV}{H:ac}:av P t (.sl (some (b,0)) n (aS n)) x H=(cP P t).bind fun e=>(tSz P e).bind fun sz=>(aV P e).bind fun by_=>(aX P e).bind fun z=>(aElems sz x H).bind fun mx =>
  (bI (z.length=sz/\0<sz/\0<by_)).bind fun _=>match H[b]? with
   | some (.cells own es xs)=>bif (own==aI n)&&(decide (es=sz)&&(decide (xs.length=n*sz)&&(decide (0<mx.1)&&xs.all AV.one))) then
     (bI ((n+mx.1)*by_<=140737488355328)).map fun _=>(.sl (some (H.length,0)) (n+mx.1) none,H.set b (killG n (.cells own es xs))++[.cells true sz (xs++mx.2)])
    else qr P t (.sl (some (b,0)) n (aS n)) x H
   |_=>qr P t (.sl (some (b,0)) n (aS n)) x H:=rF
theorem nl {m b:Nat}(h:b<m):W m (.sl none 0 (some 0)) (.sl (some (b,0)) 0 none)=True:=eq_true (d7 h (.inl rfl))
theorem nm {m b:Nat}(h:b<m):W m (.sl none 0 (some 0)) (.sl (some (b,0)) 0 (some 0))=True:=eq_true (d7 h (.inr rfl))
theorem nn {m n:Nat}{p:Nat×Nat}{c:Option Nat}:W m (.sl (some p) n c) (.sl (some p) n none)=True:=eq_true j6
theorem lz {m b:Nat}(h:b<m):Wc m (.sl none 0 (some 0)) (.sl (some (b,0)) 0 none)=True:=eq_true (dN h (.inl rfl))
theorem lA {m b:Nat}(h:b<m):Wc m (.sl none 0 (some 0)) (.sl (some (b,0)) 0 (some 0))=True:=eq_true (dN h (.inr rfl))
theorem lB {m n:Nat}{p:Nat×Nat}{c:Option Nat}:Wc m (.sl (some p) n c) (.sl (some p) n none)=True:=eq_true iO
theorem aJ (a b:Int):(a==b)=decide (a=b):=rfl
theorem aK (a b:Int):(a != b)=!decide (a=b):=rfl
theorem oa (a b:Nat):Int.tmod (a:Int) (b:Int)=((a%b:Nat):Int):=rfl
section
variable {P:Program} {H:ac} {n:Nat}
theorem LTy.pairsU {t e u v:TypeId}{x:AV}(ht:P.underlying t=some (.slice e))(hu:P.underlying u=some (.int .i64))(hv:P.underlying v=some (.int .i64))(hl:bX P (n+1) e=some [u,v])(h:LTy P H (n+2) t x):
  ∃l:List (Int×Int),SlP H x l/\l.length<=maxLen/\∀p∈l,(Lit.int .i64 p.1).wf=true/\(Lit.int .i64 p.2).wf=true:=by
 obtain⟨b,rows,rfl,h1,h2,h3⟩:=h.slice ht hl
 obtain⟨l,k1,k2,k3⟩:=qc hu hv rows h3
 exact⟨l,⟨b,false,none,by rw[k1],by rw[<-k2];exact h2⟩,by omega,k3⟩
theorem LTy.intsU {t e:TypeId}{k:IntKind}{x:AV}(ht:P.underlying t=some (.slice e))(he:P.underlying e=some (.int k))(hl:bX P (n+1) e=some [e])(h:LTy P H (n+2) t x):∃l:List Int,SlI H k x l/\l.length<=maxLen/\∀z∈l,(Lit.int k z).wf=true:=by
 obtain⟨b,rows,rfl,h1,h2,h3⟩:=h.slice ht hl
 obtain⟨l,k1,k2,k3⟩:=kZ he rows h3
 exact⟨l,⟨b,false,none,by rw[k1],by rw[<-k2];exact h2⟩,by omega,k3⟩
end
theorem aC {p q:Prop}(hq:q) (h:q->p:=by
 intro hq
 simp -implicitDefEqProofs (disch:=omega) only [bV,bF,bG,bW,simprocAttr,aG,aH,Function.comp_apply,one1,lenV,ak,ay,az,aop,AV.ofValue,AV.ofCell,AV.cells,AV.flat,AV.one,arep,aT,aE]
 repeat refine And.intro (by clear hq;omega) ?_
 exact hq):p:=h hq
theorem aa {p q r:Prop}(f:r) (hq:q) (h:r->q->p:=by
 intro hs hq
 simp -implicitDefEqProofs (disch:=omega) only [hs,bV,bF,bG,bW,simprocAttr,aG,aH,Function.comp_apply,one1,lenV,ak,ay,az,aop,AV.ofValue,AV.ofCell,AV.cells,AV.flat,AV.one,arep,aT,aE]
 repeat refine And.intro (by clear hq;omega) ?_
 exact hq):p:=h f hq
theorem runD {p q:Prop}(hq:q) (h:q->p:=by
 intro hq
 simp -implicitDefEqProofs (disch:=omega) only [jo,bV,bF,bG,bW,simprocAttr,aG,aH,Function.comp_apply,one1,lenV,ak,ay,az,aop,AV.ofValue,AV.ofCell,AV.cells,AV.flat,AV.one,arep,aT,aE]
 repeat refine And.intro (by clear hq;omega) ?_
 exact hq):p:=h hq
theorem ag {p q r:Prop}(f:r) (hq:q) (h:r->q->p:=by
 intro hs hq
 simp -implicitDefEqProofs (disch:=omega) only [hs,jo,bV,bF,bG,bW,simprocAttr,aG,aH,Function.comp_apply,one1,lenV,ak,ay,az,aop,AV.ofValue,AV.ofCell,AV.cells,AV.flat,AV.one,arep,aT,aE]
 repeat refine And.intro (by clear hq;omega) ?_
 exact hq):p:=h f hq
theorem bsT {p q:Prop}(h:p) (e:p->q:=by
 intro h
 try simp only[jI,beq_iff_eq,ne_eq] at h
 exact h):q:=e h
theorem bnT {p q:Prop}(h:p) (e:p->q:=by
 intro h
 try simp only[aK,aJ,Bool.not_eq_true',Bool.not_eq_false',Bool.not_not] at h
 exact h):q:=e h
theorem sqR {P:Program}{N n:Nat}{Q:Exit->Fr->ac->Prop}{a b:Code}{F:Fr}{H:ac}{E:Fr->ac->Prop}(hQ:∀F H',E F H'->dF Q F H')(h:∀Q2:Exit->Fr->ac->Prop,(∀F H,AW P N n b Q F H->Q2 .normal F H)->(∀F H',E F H'->dF Q2 F H')->(∀id F H,Q (.exit id) F H->Q2 (.exit id) F H)->AW P N n a Q2 F H):AW P N n (.seq a b) Q F H :=
 AW_seqQ fun Q2 hn hr he=>h Q2 hn (fun F H' k=>hr F H' (hQ F H' k)) he
theorem bkR {P:Program}{N n:Nat}{Q:Exit->Fr->ac->Prop}{id:Nat}{c:Code}{F:Fr}{H:ac}{E:Fr->ac->Prop}(hQ:∀F H',E F H'->dF Q F H')(h:∀Q2:Exit->Fr->ac->Prop,(∀F H,Q .normal F H->Q2 .normal F H)->(∀F H',E F H'->dF Q2 F H')->(∀id',id'≠id->∀F H,Q (.exit id') F H->Q2 (.exit id') F H)->(∀F H,Q .normal F H->Q2 (.exit id) F H)->AW P N n c Q2 F H):AW P N n (.block id c) Q F H :=
 AW_blockQ fun Q2 hn hr he hb=>h Q2 hn (fun F H' k=>hr F H' (hQ F H' k)) he hb
theorem cv {P:Program}{N n:Nat}{q:Bool}{Q:Exit->Fr->ac->Prop}{dst:Option Tmp}{os:List LOp}{r:List It}{F:Fr}{H H1:ac}{f:FuncId}{args:List AV}{x:AV}(h:ACalls P f args H fun v H'=>v=x/\H'=H1)(k:AGo P N n q Q (.ops os::r) (putF dst x F) H1)(hok:dB P f=true:=by kernel_rfl):fg P N n q Q none f args dst os r F H:=dW hok h k
theorem cd {P:Program}{N n m:Nat}{q:Bool}{Q:Exit->Fr->ac->Prop}{dst:Option Tmp}{os:List LOp}{r:List It}{F:Fr}{H:ac}{f:FuncId}{args:List AV}{x:AV}(h:ACalls P f args H fun y H1=>y=x/\H1=H)(k:AGo P N n q Q (.opsD m os::r) (putF dst x F) H)(hok:dB P f=true:=by kernel_rfl):fg P N n q Q (some m) f args dst os r F H:=call_d hok h k
theorem cx {P:Program}{N n m:Nat}{Q:Exit->Fr->ac->Prop}{dst:Option Tmp}{os:List LOp}{r:List It}{F:Fr}{H l:ac}{f:FuncId}{args:List AV}{x:AV}(h:ACalls P f args H fun y H1=>y=x/\H1=H++l)(k:AGo P N n false Q (.opsD m os::r) (putF dst x F) (H++l))(hok:dB P f=true:=by kernel_rfl):fg P N n false Q (some m) f args dst os r F H:=call_x hok trivial h k
theorem fnT {P:Program}{N n:Nat}{Q:Exit->Fr->ac->Prop}{a:Code}{F:Fr}{H:ac}(h:AGo P N n true Q [.code a] F H)(hc:dd N true a=true:=by kernel_rfl)(hm:P.follows .mixedOrders=true:=by exact try_mixed):AW P N n a Q F H:=AW_fin true hm hc h
theorem fnF {P:Program}{N n:Nat}{Q:Exit->Fr->ac->Prop}{a:Code}{F:Fr}{H:ac}(h:AGo P N n false Q [.code a] F H)(hc:dd N false a=true:=by kernel_rfl)(hm:P.follows .mixedOrders=true:=by exact try_mixed):AW P N n a Q F H:=AW_fin false hm hc h
theorem glp {P:Program}{N n:Nat}{q:Bool}{Q:Exit->Fr->ac->Prop}{r:List It}{F:Fr}{H:ac}{c:Code}(I:Nat->Fr->ac->Prop) (k0:Nat) (h0:∃σ F2 H2,I k0 F2 H2/\Abs n σ F H F2 H2)
  (round:∀k F H,I k F H->∀J:Fr->ac->Prop,(∀F' H',(∃k',k'<k/\∃σ F2 H2,I k' F2 H2/\Abs n σ F' H' F2 H2)->J F' H')->AGo P N n q Q (.code c::.inv J::r) F H) (hc:dd N q c=true:=by kernel_rfl) (hm:P.follows .mixedOrders=true:=by exact try_mixed):AGo P N n q Q (.code (.loop c)::r) F H:=go_loop hm hc I k0 h0 round
theorem eP {P:Program}{fn:Func}{H l1:ac}{R:AV->ac->Prop}{F:Fr}{Q:Exit->Fr->ac->Prop}(hQ:∀F H',dE P fn H.length R .ret F H'->dF Q F H')(hbel:HBel H.length H)(x:AV){l:List ResultVar}(h1:fn.results=l.toArray)(hR:R x H)(h2:(aRes P l F (H++l1)).map one1=some x:=by simp -implicitDefEqProofs (disch:=omega) only [simprocAttr,aG,aH,Function.comp_apply,one1,lenV,ak,ay,az,aop,AV.ofValue,AV.ofCell,AV.cells,AV.flat,AV.one,arep,aT,av,aE])(hp:x.bel 0=true:=by rfl):dF Q F (H++l1):=hQ _ _ (cA (.inl rfl) hbel (kU h1 h2) hp hR)
theorem eQ {P:Program}{fn:Func}{H:ac}{R:AV->ac->Prop}{F:Fr}{Q:Exit->Fr->ac->Prop}(hQ:∀F H',dE P fn H.length R .ret F H'->dF Q F H')(hbel:HBel H.length H)(x:AV){l:List ResultVar}(h1:fn.results=l.toArray)(hR:R x H)(h2:(aRes P l F H).map one1=some x:=by simp -implicitDefEqProofs (disch:=omega) only [simprocAttr,aG,aH,Function.comp_apply,one1,lenV,ak,ay,az,aop,AV.ofValue,AV.ofCell,AV.cells,AV.flat,AV.one,arep,aT,av,aE])(hp:x.bel 0=true:=by rfl):dF Q F H:=hQ _ _ (eh (.inl rfl) hbel (kU h1 h2) hp hR)
theorem j2 {a b c:Prop}(x:a)(y:b)(z:c):a/\b/\c:=⟨x,y,z⟩
theorem rcs {P:Program}{N n:Nat}{q:Bool}{Q:Exit->Fr->ac->Prop}{r:List It}{F:Fr}{H:ac}{t:Bool}{a b:Code}{s p1 p2 G:Prop}(g:G) (k1:t=true->p1->(t=true/\p1/\G)->AGo P N n q Q (.code a::r) F H) (k2:t=false->p2->(t=false/\p2/\G)->AGo P N n q Q (.code b::r) F H) (h:G->j7 P N n q Q (.bool t) a b r F H->s:=by
 intro hs hq
 simp -implicitDefEqProofs (disch:=omega) only [hs,bV,bF,bG,bW,simprocAttr,aG,aH,Function.comp_apply,one1,lenV,ak,ay,az,aop,AV.ofValue,AV.ofCell,AV.cells,AV.flat,AV.one,arep,aT,aE]
 repeat refine And.intro (by clear hq;omega) ?_
 exact hq) (e1:t=true->p1:=by
 intro h
 try simp only[jI,beq_iff_eq,ne_eq] at h
 exact h) (e2:t=false->p2:=by
 intro h
 try simp only[jI,beq_iff_eq,ne_eq] at h
 exact h):s:=h g (cn (fun k=>k1 k (e1 k) ⟨k,e1 k,g⟩) fun k=>k2 k (e2 k) ⟨k,e2 k,g⟩)
theorem rgs {P:Program}{N n:Nat}{q:Bool}{Q:Exit->Fr->ac->Prop}{d:Option Nat}{o:Op}{dst:Option Tmp}{os:List LOp}{r:List It}{F:Fr}{H:ac}{t:Bool}{s p1 p2 G:Prop}(g:G) (k1:t=true->p1->(t=true/\p1/\G)->ADo P N n q Q d o dst os r F H) (k2:t=false->p2->(t=false/\p2/\G)->AGo P N n q Q (itOf d os::r) (putF dst (.tup []) F) H) (h:G->AGd P N n q Q d (some t) o dst os r F H->s:=by
 intro hs hq
 simp -implicitDefEqProofs (disch:=omega) only [hs,bV,bF,bG,bW,simprocAttr,aG,aH,Function.comp_apply,one1,lenV,ak,ay,az,aop,AV.ofValue,AV.ofCell,AV.cells,AV.flat,AV.one,arep,aT,aE]
 repeat refine And.intro (by clear hq;omega) ?_
 exact hq) (e1:t=true->p1:=by
 intro h
 try simp only[jI,beq_iff_eq,ne_eq] at h
 exact h) (e2:t=false->p2:=by
 intro h
 try simp only[jI,beq_iff_eq,ne_eq] at h
 exact h):s:=h g (bg (fun k=>k1 k (e1 k) ⟨k,e1 k,g⟩) fun k=>k2 k (e2 k) ⟨k,e2 k,g⟩)
theorem cvr {P:Program}{N n:Nat}{q:Bool}{Q:Exit->Fr->ac->Prop}{dst:Option Tmp}{os:List LOp}{r:List It}{F:Fr}{H H1:ac}{f:FuncId}{args:List AV}{x:AV}{s G:Prop}(g:G) (c:ACalls P f args H fun v H'=>v=x/\H'=H1) (k:s) (h:G->s->AGo P N n q Q (.ops os::r) (putF dst x F) H1:=by
 intro hs hq
 simp -implicitDefEqProofs (disch:=omega) only [hs,bV,bF,bG,bW,simprocAttr,aG,aH,Function.comp_apply,one1,lenV,ak,ay,az,aop,AV.ofValue,AV.ofCell,AV.cells,AV.flat,AV.one,arep,aT,aE]
 repeat refine And.intro (by clear hq;omega) ?_
 exact hq) (hok:dB P f=true:=by kernel_rfl):fg P N n q Q none f args dst os r F H:=dW hok c (h g k)
theorem cdr {P:Program}{N n m:Nat}{q:Bool}{Q:Exit->Fr->ac->Prop}{dst:Option Tmp}{os:List LOp}{r:List It}{F:Fr}{H:ac}{f:FuncId}{args:List AV}{x:AV}{s G:Prop}(g:G) (c:ACalls P f args H fun y H1=>y=x/\H1=H) (k:s) (h:G->s->AGo P N n q Q (.opsD m os::r) (putF dst x F) H:=by
 intro hs hq
 simp -implicitDefEqProofs (disch:=omega) only [hs,bV,bF,bG,bW,simprocAttr,aG,aH,Function.comp_apply,one1,lenV,ak,ay,az,aop,AV.ofValue,AV.ofCell,AV.cells,AV.flat,AV.one,arep,aT,aE]
 repeat refine And.intro (by clear hq;omega) ?_
 exact hq) (hok:dB P f=true:=by kernel_rfl):fg P N n q Q (some m) f args dst os r F H:=call_d hok c (h g k)
theorem bS {H0 l1 l2:ac}{F1 F2:Fr}(hsc:HBel H0.length H0)(sel:List Nat)(h:fi (H0.length+(l1++[]).length) (sig H0.length (l1++[]).length sel) F1 F2/\fj (H0.length+(l1++[]).length) (sig H0.length (l1++[]).length sel) (l1++[]) sel l2)(hnd:sel.Nodup:=by decide):Abs H0.length (sig H0.length (l1++[]).length sel) F1 (H0++l1) F2 (H0++l2):=Abs.byG hsc [] rfl sel hnd h
theorem eR {P:Program}{fn:Func}{H l1:ac}{R:AV->ac->Prop}{F:Fr}{Q:Exit->Fr->ac->Prop}{G s:Prop}(g:G) (hQ:∀F H',dE P fn H.length R .ret F H'->dF Q F H') (hbel:HBel H.length H) (x:AV) {l:List ResultVar}(h1:fn.results=l.toArray) (hR:R x H) (h:G->dF Q F (H++l1)->s:=by
 intro hs hq
 simp -implicitDefEqProofs (disch:=omega) only [hs,bV,bF,bG,bW,simprocAttr,aG,aH,Function.comp_apply,one1,lenV,ak,ay,az,aop,AV.ofValue,AV.ofCell,AV.cells,AV.flat,AV.one,arep,aT,aE]
 repeat refine And.intro (by clear hq;omega) ?_
 exact hq) (h2:(aRes P l F (H++l1)).map one1=some x:=by simp -implicitDefEqProofs (disch:=omega) only [simprocAttr,aG,aH,Function.comp_apply,one1,lenV,ak,ay,az,aop,AV.ofValue,AV.ofCell,AV.cells,AV.flat,AV.one,arep,aT,av,aE]) (hp:x.bel 0=true:=by rfl):s:=h g (eP hQ hbel x h1 hR h2 hp)
theorem eS {P:Program}{fn:Func}{H:ac}{R:AV->ac->Prop}{F:Fr}{Q:Exit->Fr->ac->Prop}{G s:Prop}(g:G) (hQ:∀F H',dE P fn H.length R .ret F H'->dF Q F H') (hbel:HBel H.length H) (x:AV) {l:List ResultVar}(h1:fn.results=l.toArray) (hR:R x H) (h:G->dF Q F H->s:=by
 intro hs hq
 simp -implicitDefEqProofs (disch:=omega) only [hs,bV,bF,bG,bW,simprocAttr,aG,aH,Function.comp_apply,one1,lenV,ak,ay,az,aop,AV.ofValue,AV.ofCell,AV.cells,AV.flat,AV.one,arep,aT,aE]
 repeat refine And.intro (by clear hq;omega) ?_
 exact hq) (h2:(aRes P l F H).map one1=some x:=by simp -implicitDefEqProofs (disch:=omega) only [simprocAttr,aG,aH,Function.comp_apply,one1,lenV,ak,ay,az,aop,AV.ofValue,AV.ofCell,AV.cells,AV.flat,AV.one,arep,aT,av,aE]) (hp:x.bel 0=true:=by rfl):s:=h g (eQ hQ hbel x h1 hR h2 hp)
theorem zA1 {H:ac}{sz n:Nat}{s:AV}{xs:List AV}(h:Sl H sz s n xs):∃b own cap,s=.sl (some (b,0)) n cap/\H[b]? = some (.cells own sz xs)/\b<H.length/\∀l:ac,(H++l)[b]? = some (.cells own sz xs):=by
 obtain⟨b,o,c,h1,h2⟩:=h
 exact⟨b,o,c,h1,h2,getElem?_lt h2,fun l=>ae (l:=l) h2⟩
theorem zA2 {H K:ac}{b sz n:Nat}{o:Bool}{c:Option Nat}{xs:List AV}(h0:∀l:ac,(H++l)[b]? = some (.cells o sz xs))(h:H[b]? = some (.cells o sz xs))(e:K=H\/∃l,K=H++l:=by first|exact .inl rfl|exact .inr ⟨_,rfl⟩):Sl K sz (.sl (some (b,0)) n c) n xs:=by
 have k:K[b]? = some (.cells o sz xs):=by
  rcases e with rfl|⟨l,rfl⟩
  · exact h
  · exact h0 l
 exact⟨b,o,c,rfl,k⟩
abbrev zI (H:ac) (s:AV) (l:List Int):Prop:=Sl H 1 s l.length (ints .u8 l)
theorem zQT {P:Program}{N n:Nat}{Q:Exit->Fr->ac->Prop}{a b:Code}{F:Fr}{H:ac}{E:Fr->ac->Prop}(hQ:∀F H',E F H'->dF Q F H')(h:∀Q2:Exit->Fr->ac->Prop,(∀F H,AW P N n b Q F H->Q2 .normal F H)->(∀F H',E F H'->dF Q2 F H')->(∀id F H,Q (.exit id) F H->Q2 (.exit id) F H)->AGo P N n true Q2 [.code a] F H)(hc:dd N true a=true:=by kernel_rfl)(hm:P.follows .mixedOrders=true:=by exact try_mixed):AW P N n (.seq a b) Q F H:=sqR hQ fun Q2 x y z=>AW_fin true hm hc (h Q2 x y z)
theorem zQF {P:Program}{N n:Nat}{Q:Exit->Fr->ac->Prop}{a b:Code}{F:Fr}{H:ac}{E:Fr->ac->Prop}(hQ:∀F H',E F H'->dF Q F H')(h:∀Q2:Exit->Fr->ac->Prop,(∀F H,AW P N n b Q F H->Q2 .normal F H)->(∀F H',E F H'->dF Q2 F H')->(∀id F H,Q (.exit id) F H->Q2 (.exit id) F H)->AGo P N n false Q2 [.code a] F H)(hc:dd N false a=true:=by kernel_rfl)(hm:P.follows .mixedOrders=true:=by exact try_mixed):AW P N n (.seq a b) Q F H:=sqR hQ fun Q2 x y z=>AW_fin false hm hc (h Q2 x y z)
abbrev T6:=Int×Int×Int×Int×Int×Int
def r6 (l:List T6):List AV:=l.flatMap fun p=>[.int .i64 p.1,.int .i64 p.2.1,.int .i64 p.2.2.1,.int .i64 p.2.2.2.1,.int .i64 p.2.2.2.2.1,.int .i64 p.2.2.2.2.2]
def g6 (l:List T6) (j:Nat):T6:=l.getD j (0,0,0,0,0,0)
def g61 (l:List T6) (j:Nat):Int:=(g6 l j).1
def g62 (l:List T6) (j:Nat):Int:=(g6 l j).2.1
def g63 (l:List T6) (j:Nat):Int:=(g6 l j).2.2.1
def g64 (l:List T6) (j:Nat):Int:=(g6 l j).2.2.2.1
def g65 (l:List T6) (j:Nat):Int:=(g6 l j).2.2.2.2.1
def g66 (l:List T6) (j:Nat):Int:=(g6 l j).2.2.2.2.2
theorem jq {l:List T6}{j:Nat}(h:j<l.length):(g61 l j,g62 l j,g63 l j,g64 l j,g65 l j,g66 l j)=l[j]:=by
 simp[g61,g62,g63,g64,g65,g66,g6,h,List.getD_eq_getElem?_getD]
theorem aA:r6 []=[]:=rfl
theorem au {p:T6}{l:List T6}:r6 (p::l)=.int .i64 p.1::.int .i64 p.2.1::.int .i64 p.2.2.1::.int .i64 p.2.2.2.1::.int .i64 p.2.2.2.2.1::.int .i64 p.2.2.2.2.2::r6 l:=rfl
theorem ap {l m:List T6}:r6 (l++m)=r6 l++r6 m:=by simp[r6]
theorem bo:∀{l:List T6},(r6 l).length=l.length*6
 |[]=>rfl
 |p::l=>by rw[au];simp only[List.length_cons,bo (l:=l)];omega
theorem ax {σ:Nat->Nat}:∀{l:List T6},AV.mvs σ (r6 l)=r6 l
 |[]=>rfl
 | p::l=>by
  rw[au]
  show AV.mv σ _::AV.mv σ _::AV.mv σ _::AV.mv σ _::AV.mv σ _::AV.mv σ _::AV.mvs σ (r6 l)=_
  rw[ax (l:=l)];rfl
theorem jr:∀{l:List T6}{j:Nat}(_h:j<l.length),(r6 l).drop (j*6)=.int .i64 (g61 l j)::.int .i64 (g62 l j)::.int .i64 (g63 l j)::.int .i64 (g64 l j)::.int .i64 (g65 l j)::.int .i64 (g66 l j)::(r6 l).drop ((j+1)*6)
 |[],j,h=>by simp at h
 |p::l,0,_=>by rw[au];simp[g61,g62,g63,g64,g65,g66,g6]
 | p::l,j+1,h=>by
  rw[au,show (j+1)*6=j*6+1+1+1+1+1+1 by omega,List.drop_succ_cons,List.drop_succ_cons,List.drop_succ_cons,List.drop_succ_cons,List.drop_succ_cons,List.drop_succ_cons,jr (l:=l) (by simpa using h),show (j+1+1)*6=(j+1)*6+1+1+1+1+1+1 by omega,List.drop_succ_cons,List.drop_succ_cons,List.drop_succ_cons,List.drop_succ_cons,List.drop_succ_cons,List.drop_succ_cons]
  rfl
theorem g4 {l:List T6}{j:Nat}(h:j<l.length):(r6 l)[j*6]? = some (.int .i64 (g61 l j)):=by
 have:=congrArg (fun x=>x[0]?) (jr h)
 simpa using this
theorem iR {l:List T6}{j:Nat}(h:j<l.length):(r6 l)[j*6+1]? = some (.int .i64 (g62 l j)):=by
 have:=congrArg (fun x=>x[1]?) (jr h)
 simpa using this
theorem iS {l:List T6}{j:Nat}(h:j<l.length):(r6 l)[j*6+2]? = some (.int .i64 (g63 l j)):=by
 have:=congrArg (fun x=>x[2]?) (jr h)
 simpa using this
theorem iT {l:List T6}{j:Nat}(h:j<l.length):(r6 l)[j*6+3]? = some (.int .i64 (g64 l j)):=by
 have:=congrArg (fun x=>x[3]?) (jr h)
 simpa using this
theorem k8 {l:List T6}{j:Nat}(h:j<l.length):(r6 l)[j*6+4]? = some (.int .i64 (g65 l j)):=by
 have:=congrArg (fun x=>x[4]?) (jr h)
 simpa using this
theorem k9 {l:List T6}{j:Nat}(h:j<l.length):(r6 l)[j*6+5]? = some (.int .i64 (g66 l j)):=by
 have:=congrArg (fun x=>x[5]?) (jr h)
 simpa using this
theorem bD {l:List T6}{j:Nat}(h:j<l.length):((r6 l).drop (j*6)).take 6=[.int .i64 (g61 l j),.int .i64 (g62 l j),.int .i64 (g63 l j),.int .i64 (g64 l j),.int .i64 (g65 l j),.int .i64 (g66 l j)]:=by rw[jr h];rfl
theorem qs {l:List T6}(h:0<l.length):(r6 l).take 6=[.int .i64 (g61 l 0),.int .i64 (g62 l 0),.int .i64 (g63 l 0),.int .i64 (g64 l 0),.int .i64 (g65 l 0),.int .i64 (g66 l 0)]:=by
 have:=bD h
 rwa [Nat.zero_mul,List.drop_zero] at this
theorem r6_load1 {l:List T6}{j:Nat}(h:j+1<l.length):((r6 l).drop (6+j*6)).take 6=[.int .i64 (g61 l (j+1)),.int .i64 (g62 l (j+1)),.int .i64 (g63 l (j+1)),.int .i64 (g64 l (j+1)),.int .i64 (g65 l (j+1)),.int .i64 (g66 l (j+1))]:=by
 rw[show 6+j*6=(j+1)*6 by omega];exact bD h
theorem ob {l:List T6}{j:Nat}:(r6 l).take (j*6)=r6 (l.take j):=by
 induction l generalizing j with
 |nil=>simp[aA]
 | cons p l ih =>
  cases j with
  |zero=>simp[aA]
  |succ j=>rw[au,show (j+1)*6=j*6+1+1+1+1+1+1 by omega,List.take_succ_cons,List.take_succ_cons,List.take_succ_cons,List.take_succ_cons,List.take_succ_cons,List.take_succ_cons,ih];rfl
theorem iU {l:List T6}:(r6 l).take (l.length*6)=r6 l:=by rw[ob,List.take_length]
theorem cQ {l:List T6}:(r6 l).all AV.one=true:=by
 induction l with
 |nil=>rfl
 |cons p l ih=>rw[au];simp[AV.one,ih]
section
variable {P:Program} {H:ac} {n:Nat}
theorem rows_r6 {t1 t2 t3 t4 t5 t6:TypeId}(h1:P.underlying t1=some (.int .i64))(h2:P.underlying t2=some (.int .i64))(h3:P.underlying t3=some (.int .i64))(h4:P.underlying t4=some (.int .i64))(h5:P.underlying t5=some (.int .i64))(h6:P.underlying t6=some (.int .i64)):∀rows:List (List AV),(∀r:List AV,r∈rows->RTy P H (n+1) [t1,t2,t3,t4,t5,t6] r)->∃l:List T6,l.length=rows.length/\rows.flatten=r6 l/\∀p∈l,(Lit.int .i64 p.1).wf=true/\(Lit.int .i64 p.2.1).wf=true/\(Lit.int .i64 p.2.2.1).wf=true/\(Lit.int .i64 p.2.2.2.1).wf=true/\(Lit.int .i64 p.2.2.2.2.1).wf=true/\(Lit.int .i64 p.2.2.2.2.2).wf=true
 |[],_=>⟨[],rfl,rfl,fun z h=>by simp at h⟩
 | r::rows,h=>by
  obtain⟨l,h1',h2',h3'⟩:=rows_r6 h1 h2 h3 h4 h5 h6 rows fun r' hr=>h r' (by simp[hr])
  have hr:=h r (by simp)
  obtain⟨y1,r',rfl,hy1,hr⟩:=hr.cons
  obtain⟨y2,r',rfl,hy2,hr⟩:=hr.cons
  obtain⟨y3,r',rfl,hy3,hr⟩:=hr.cons
  obtain⟨y4,r',rfl,hy4,hr⟩:=hr.cons
  obtain⟨y5,r',rfl,hy5,hr⟩:=hr.cons
  obtain⟨y6,r',rfl,hy6,hr⟩:=hr.cons
  obtain rfl:=hr.nil
  obtain⟨z1,rfl,hz1⟩:=hy1.int h1
  obtain⟨z2,rfl,hz2⟩:=hy2.int h2
  obtain⟨z3,rfl,hz3⟩:=hy3.int h3
  obtain⟨z4,rfl,hz4⟩:=hy4.int h4
  obtain⟨z5,rfl,hz5⟩:=hy5.int h5
  obtain⟨z6,rfl,hz6⟩:=hy6.int h6
  exact ⟨(z1,z2,z3,z4,z5,z6)::l,by simp[h1'],by simp[h2',au],fun z' h'=>by
   rcases List.mem_cons.1 h' with rfl|h'
   ·exact⟨hz1,hz2,hz3,hz4,hz5,hz6⟩
   exact h3' _ h'⟩
abbrev Sl6 (H:ac) (s:AV) (l:List T6):Prop:=Sl H 6 s l.length (r6 l)
theorem LTy.rec6 {t e t1 t2 t3 t4 t5 t6:TypeId}{x:AV}(ht:P.underlying t=some (.slice e))(h1:P.underlying t1=some (.int .i64))(h2:P.underlying t2=some (.int .i64))(h3:P.underlying t3=some (.int .i64))(h4:P.underlying t4=some (.int .i64))(h5:P.underlying t5=some (.int .i64))(h6:P.underlying t6=some (.int .i64))(hl:bX P (n+1) e=some [t1,t2,t3,t4,t5,t6])(h:LTy P H (n+2) t x):
  ∃l:List T6,Sl6 H x l/\l.length<=maxLen/\∀p∈l,(Lit.int .i64 p.1).wf=true/\(Lit.int .i64 p.2.1).wf=true/\(Lit.int .i64 p.2.2.1).wf=true/\(Lit.int .i64 p.2.2.2.1).wf=true/\(Lit.int .i64 p.2.2.2.2.1).wf=true/\(Lit.int .i64 p.2.2.2.2.2).wf=true:=by
 obtain⟨b,rows,rfl,k1,k2,k3⟩:=h.slice ht hl
 obtain⟨l,q1,q2,q3⟩:=rows_r6 h1 h2 h3 h4 h5 h6 rows k3
 exact⟨l,⟨b,false,none,by rw[q1],by rw[<-q2];exact k2⟩,by omega,q3⟩
end
abbrev Pt:=Int×Int
def crs (a b:Pt):Int:=a.1*b.2-a.2*b.1
def up (p:Pt):Prop:=0<p.2\/(p.2=0/\0<p.1)
instance (p:Pt):Decidable (up p):=inferInstanceAs (Decidable (_\/_))
theorem crs_self (a:Pt):crs a a=0:=by unfold crs;rw[Int.mul_comm];omega
theorem crs_anti (a b:Pt):crs b a = -crs a b:=by unfold crs;rw[Int.mul_comm b.1,Int.mul_comm b.2];omega
def padd (a b:Pt):Pt:=(a.1+b.1,a.2+b.2)
theorem rH (a b c:Pt):padd (padd a b) c=padd a (padd b c):=by simp[padd,Int.add_assoc]
theorem padd_zero (a:Pt):padd a (0,0)=a:=by simp[padd]
theorem pj (a:Pt):padd (0,0) a=a:=by simp[padd]
def ia:List Pt->Pt->Pt
 |[],_=>(0,0)
 |h::l,g=>if crs h g=0 then padd h (ia l g) else ia l g
theorem mb (g:Pt):∀l m:List Pt,ia (l++m) g=padd (ia l g) (ia m g)
 |[],m=>by rw[List.nil_append];exact(pj _).symm
 | h::l,m=>by
  simp only[List.cons_append,ia,mb g l m]
  split
  ·rw[rH]
  rfl
theorem pk {l:List Pt}{g:Pt}(h:∀e∈l,crs e g≠0):ia l g=(0,0):=by
 induction l with
 |nil=>rfl
 | cons x l ih =>
  simp only[ia]
  rw[if_neg (h x (by simp)),ih fun e he=>h e (by simp[he])]
structure Can (C S:List Pt):Prop where
 sorted:C.Pairwise fun a b=>0<crs a b
 ups:∀e∈C,up e
 sums:∀g,up g->ia C g=ia S g
theorem Can.own {C S:List Pt}(h:Can C S){e:Pt}(he:e∈C):ia C e=e:=by
 obtain⟨A,B,rfl⟩:=List.append_of_mem he
 have hs:=h.sorted
 rw[List.pairwise_append] at hs
 obtain⟨h1,h2,h3⟩:=hs
 rw[List.pairwise_cons] at h2
 rw[mb]
 simp only[ia,crs_self,if_true]
 rw[pk (l:=A) fun a ha=>by have:=h3 a ha e (by simp);omega,pk (l:=B) fun b hb=>by have:=h2.1 b hb;rw[crs_anti];omega,padd_zero,pj]
theorem la {r:Pt->Pt->Prop}(has:∀a b,r a b->¬r b a):∀(l m:List Pt),l.Pairwise r->m.Pairwise r->(∀x,x∈l↔x∈m)->l=m
 |[],[],_,_,_=>rfl
 |[],b::m,_,_,h=>absurd ((h b).2 (by simp)) (by simp)
 |a::l,[],_,_,h=>absurd ((h a).1 (by simp)) (by simp)
 | a :: l,b::m,h1,h2,h=>by
  rw[List.pairwise_cons] at h1 h2
  have hirr:∀x,¬r x x:=fun x hx=>has x x hx hx
  have hab:a=b:=by
   rcases List.mem_cons.1 ((h a).1 (by simp)) with e|hm
   ·exact e
   rcases List.mem_cons.1 ((h b).2 (by simp)) with e|hl
   ·exact e.symm
   exact absurd (h1.1 b hl) (has _ _ (h2.1 a hm))
  subst hab
  have:l=m:=la has l m h1.2 h2.2 fun x=>by
   constructor
   ·intro hx
    rcases List.mem_cons.1 ((h x).1 (by simp[hx])) with e|hm
    ·subst e;exact absurd (h1.1 x hx) (hirr x)
    exact hm
   intro hx
   rcases List.mem_cons.1 ((h x).2 (by simp[hx])) with e|hm
   ·subst e;exact absurd (h2.1 x hx) (hirr x)
   exact hm
  rw[this]
def rowR (p:Int->Int->Bool) (x0 y:Int):Nat->List Pt
 |0=>[]
 |n+1=>rowR p x0 y n++(if p (x0+n) y=true then [(x0+n,y)] else [])
def be (p:Int->Int->Bool) (x0:Int) (w:Nat) (y0:Int):Nat->List Pt
 |0=>[]
 |n+1=>be p x0 w y0 n++rowR p x0 (y0+n) w
def b9 (a b:Pt):Prop:=a.2<b.2\/(a.2=b.2/\a.1<b.1)
theorem befP_anti (a b:Pt)(h:b9 a b):¬b9 b a:=by unfold b9 at *;omega
theorem ke {p:Int->Int->Bool}{x0 y:Int}:∀{n:Nat}{c:Pt},c∈rowR p x0 y n↔(x0<=c.1/\c.1<x0+n)/\c.2=y/\p c.1 c.2=true
 |0,c=>by simp only[rowR,List.not_mem_nil,false_iff];omega
 | n + 1,c=>by
  rw[rowR,List.mem_append,ke]
  constructor
  ·rintro(h|h)
   ·exact⟨by omega,h.2⟩
   split at h
   ·rename_i hp
    simp only[List.mem_singleton] at h
    subst h
    exact⟨by simp only;omega,rfl,hp⟩
   cases h
  rintro⟨h1,h2,h3⟩
  rcases (by omega:c.1<x0+n\/x0+n<=c.1) with h|h
  ·exact .inl ⟨by omega,h2,h3⟩
  right
  have e:c=(x0+n,y):=Prod.ext (by simp only;omega) h2
  rw[e] at h3
  rw[if_pos h3,e];simp
theorem fT {p:Int->Int->Bool}{x0 y0:Int}{w:Nat}:∀{n:Nat}{c:Pt},c∈be p x0 w y0 n↔(x0<=c.1/\c.1<x0+w)/\(y0<=c.2/\c.2<y0+n)/\p c.1 c.2=true
 |0,c=>by simp only[be,List.not_mem_nil,false_iff];omega
 | n+1,c=>by
  rw[be,List.mem_append,fT,ke]
  constructor
  ·rintro(h|h)
   ·exact⟨h.1,by omega,h.2.2⟩
   exact⟨h.1,by omega,h.2.2⟩
  rintro⟨h1,h2,h3⟩
  rcases (by omega:c.2<y0+n\/y0+n<=c.2) with h|h
  ·exact .inl ⟨h1,by omega,h3⟩
  exact .inr ⟨h1,by omega,h3⟩
theorem mc {p:Int->Int->Bool}{x0 y:Int}:∀n:Nat,(rowR p x0 y n).Pairwise b9
 |0=>.nil
 | n+1=>by
  rw[rowR,List.pairwise_append]
  refine⟨mc n,by split<;>simp,fun a ha b hb=>?_⟩
  have h:=ke.1 ha
  split at hb
  ·simp only[List.mem_singleton] at hb
   subst hb
   unfold b9;simp only;omega
  cases hb
theorem gn {p:Int->Int->Bool}{x0 y0:Int}{w:Nat}:∀n:Nat,(be p x0 w y0 n).Pairwise b9
 |0=>.nil
 | n+1=>by
  rw[be,List.pairwise_append]
  refine⟨gn n,mc w,fun a ha b hb=>?_⟩
  have h:=fT.1 ha
  have k:=ke.1 hb
  unfold b9;omega
theorem js {l m:List Pt}(hl:l.Pairwise b9)(hm:m.Pairwise b9)(h:∀c,c∈l↔c∈m):l=m:=la befP_anti l m hl hm h
theorem kf {p:Int->Int->Bool}{x0 y:Int}:∀n:Nat,(rowR p x0 y n).length<=n
 |0=>Nat.le_refl _
 | n+1=>by
  have:=kf (p:=p) (x0:=x0) (y:=y) n
  rw[rowR,List.length_append]
  split
  ·rw[List.length_singleton];omega
  rw[List.length_nil];omega
theorem jt {p:Int->Int->Bool}{x0 y0:Int}{w:Nat}:∀n:Nat,(be p x0 w y0 n).length<=n*w
 |0=>by simp[be]
 | n+1=>by
  have:=jt (p:=p) (x0:=x0) (y0:=y0) (w:=w) n
  have:=kf (p:=p) (x0:=x0) (y:=y0+n) w
  rw[be,List.length_append,Nat.succ_mul];omega
theorem gridR_eq {p q:Int->Int->Bool}{x0 y0 x0' y0':Int}{w w' n n':Nat}(h:∀a b:Int,((x0<=a/\a<x0+w)/\(y0<=b/\b<y0+n)/\p a b=true)↔((x0'<=a/\a<x0'+w')/\(y0'<=b/\b<y0'+n')/\q a b=true)):be p x0 w y0 n=be q x0' w' y0' n' :=
 js (gn n) (gn n') fun c=>by rw[fT,fT];exact h c.1 c.2
end Go.Proofs.YtidlfjajjieepaaGreat
namespace Go.Proofs
open Go.Shelf
def Tryz.lays128_ren:Go.Shelf.Ren:=⟨fun|128=>207|n=>n,fun|51=>205|3=>3|4=>4|46=>175|5=>5|9=>9|n=>n,fun|n=>n⟩
theorem Tryz.lays128:Go.Proofs.Lays.n128 Tryz.prog Tryz.lays128_ren:={
 mixed:=by kernel_rfl
 f128:=Tryz.func207.trans (congrArg some (by kernel_rfl))
 t3:=Tryz.underlying3
 a3:=Tryz.isAgg3
 z3:=Tryz.sizeOf3
 v3:=Tryz.zeroValue3
 t4:=Tryz.underlying4
 a4:=Tryz.isAgg4
 z4:=Tryz.sizeOf4
 v4:=Tryz.zeroValue4
 t5:=Tryz.underlying5
 a5:=Tryz.isAgg5
 z5:=Tryz.sizeOf5
 v5:=Tryz.zeroValue5
 t9:=Tryz.underlying9
 a9:=Tryz.isAgg9
 z9:=Tryz.sizeOf9
 v9:=Tryz.zeroValue9
 t46:=Tryz.underlying175
 a46:=Tryz.isAgg175
 z46:=Tryz.sizeOf175
 v46:=Tryz.zeroValue175
 t51:=Tryz.underlying205
 a51:=Tryz.isAgg205
 z51:=Tryz.sizeOf205
 v51:=Tryz.zeroValue205 }
theorem Tryz.bits_Len32 (x:Int)(w:World)(h0:0<=x)(h1:x<=4294967295):
  Calls Tryz.prog 207 #[.int .u32 x] w fun e w'=>e=.returned (.int .i64 (Lib.bitLen x.toNat))/\w'=w:=Any.bits_Len32 Tryz.lays128 x w h0 h1
def Tryz.lays125_ren:Go.Shelf.Ren:=⟨fun|125=>167|128=>207|129=>208|n=>n,fun|46=>175|3=>3|51=>205|53=>207|4=>4|5=>5|9=>9|n=>n,fun|n=>n⟩
theorem Tryz.lays125:Go.Proofs.Lays.n125 Tryz.prog Tryz.lays125_ren:={
 mixed:=by kernel_rfl
 f125:=Tryz.func167.trans (congrArg some (by kernel_rfl))
 f128:=Tryz.func207.trans (congrArg some (by kernel_rfl))
 f129:=Tryz.func208.trans (congrArg some (by kernel_rfl))
 t3:=Tryz.underlying3
 a3:=Tryz.isAgg3
 z3:=Tryz.sizeOf3
 v3:=Tryz.zeroValue3
 t4:=Tryz.underlying4
 a4:=Tryz.isAgg4
 z4:=Tryz.sizeOf4
 v4:=Tryz.zeroValue4
 t5:=Tryz.underlying5
 a5:=Tryz.isAgg5
 z5:=Tryz.sizeOf5
 v5:=Tryz.zeroValue5
 t9:=Tryz.underlying9
 a9:=Tryz.isAgg9
 z9:=Tryz.sizeOf9
 v9:=Tryz.zeroValue9
 t46:=Tryz.underlying175
 a46:=Tryz.isAgg175
 z46:=Tryz.sizeOf175
 v46:=Tryz.zeroValue175
 t51:=Tryz.underlying205
 a51:=Tryz.isAgg205
 z51:=Tryz.sizeOf205
 v51:=Tryz.zeroValue205
 t53:=Tryz.underlying207
 a53:=Tryz.isAgg207
 z53:=Tryz.sizeOf207
 v53:=Tryz.zeroValue207 }
theorem Tryz.bits_Len (x:Int)(w:World)(h0:0<=x)(h1:x<=18446744073709551615):
  Calls Tryz.prog 167 #[.int .u64 x] w fun e w'=>e=.returned (.int .i64 (Lib.bitLen x.toNat))/\w'=w:=Any.bits_Len Tryz.lays125 x w h0 h1
def Tryz.lays129_ren:Go.Shelf.Ren:=⟨fun|129=>208|n=>n,fun|53=>207|3=>3|4=>4|46=>175|5=>5|9=>9|n=>n,fun|n=>n⟩
theorem Tryz.lays129:Go.Proofs.Lays.n129 Tryz.prog Tryz.lays129_ren:={
 mixed:=by kernel_rfl
 f129:=Tryz.func208.trans (congrArg some (by kernel_rfl))
 t3:=Tryz.underlying3
 a3:=Tryz.isAgg3
 z3:=Tryz.sizeOf3
 v3:=Tryz.zeroValue3
 t4:=Tryz.underlying4
 a4:=Tryz.isAgg4
 z4:=Tryz.sizeOf4
 v4:=Tryz.zeroValue4
 t5:=Tryz.underlying5
 a5:=Tryz.isAgg5
 z5:=Tryz.sizeOf5
 v5:=Tryz.zeroValue5
 t9:=Tryz.underlying9
 a9:=Tryz.isAgg9
 z9:=Tryz.sizeOf9
 v9:=Tryz.zeroValue9
 t46:=Tryz.underlying175
 a46:=Tryz.isAgg175
 z46:=Tryz.sizeOf175
 v46:=Tryz.zeroValue175
 t53:=Tryz.underlying207
 a53:=Tryz.isAgg207
 z53:=Tryz.sizeOf207
 v53:=Tryz.zeroValue207 }
theorem Tryz.bits_Len64 (x:Int)(w:World)(h0:0<=x)(h1:x<=18446744073709551615):
  Calls Tryz.prog 208 #[.int .u64 x] w fun e w'=>e=.returned (.int .i64 (Lib.bitLen x.toNat))/\w'=w:=Any.bits_Len64 Tryz.lays129 x w h0 h1
def Tryz.sort125_ren:Go.Shelf.Ren:=⟨fun|6=>125|15=>167|14=>166|28=>207|29=>208|20=>199|21=>200|22=>201|23=>202|24=>203|25=>204|26=>205|27=>206|46=>225|47=>226|48=>227|49=>228|50=>229|57=>242|n=>n,fun|22=>101|24=>104|25=>138|3=>3|39=>175|0=>0|53=>205|55=>207|4=>4|46=>198|45=>197|50=>202|5=>5|9=>9|66=>221|70=>225|76=>234|77=>208|n=>n,fun|n=>n⟩
theorem Tryz.sort125:Go.Proofs.SlLaysF0.n6 Tryz.prog Tryz.sort125_ren:={
 mixed:=by kernel_rfl
 f6:=⟨Tryz.f125.name,by decide,Tryz.func125.trans (congrArg some (by kernel_rfl))⟩
 f14:=⟨Tryz.f166.name,by decide,Tryz.func166.trans (congrArg some (by kernel_rfl))⟩
 f15:=Tryz.func167.trans (congrArg some (by kernel_rfl))
 f20:=⟨Tryz.f199.name,by decide,Tryz.func199.trans (congrArg some (by kernel_rfl))⟩
 f21:=⟨Tryz.f200.name,by decide,Tryz.func200.trans (congrArg some (by kernel_rfl))⟩
 f22:=⟨Tryz.f201.name,by decide,Tryz.func201.trans (congrArg some (by kernel_rfl))⟩
 f23:=⟨Tryz.f202.name,by decide,Tryz.func202.trans (congrArg some (by kernel_rfl))⟩
 f24:=⟨Tryz.f203.name,by decide,Tryz.func203.trans (congrArg some (by kernel_rfl))⟩
 f25:=⟨Tryz.f204.name,by decide,Tryz.func204.trans (congrArg some (by kernel_rfl))⟩
 f26:=⟨Tryz.f205.name,by decide,Tryz.func205.trans (congrArg some (by kernel_rfl))⟩
 f27:=⟨Tryz.f206.name,by decide,Tryz.func206.trans (congrArg some (by kernel_rfl))⟩
 f28:=Tryz.func207.trans (congrArg some (by kernel_rfl))
 f29:=Tryz.func208.trans (congrArg some (by kernel_rfl))
 f46:=⟨Tryz.f225.name,by decide,Tryz.func225.trans (congrArg some (by kernel_rfl))⟩
 f47:=Tryz.func226.trans (congrArg some (by kernel_rfl))
 f48:=Tryz.func227.trans (congrArg some (by kernel_rfl))
 f49:=⟨Tryz.f228.name,by decide,Tryz.func228.trans (congrArg some (by kernel_rfl))⟩
 f50:=⟨Tryz.f229.name,by decide,Tryz.func229.trans (congrArg some (by kernel_rfl))⟩
 f57:=⟨Tryz.f242.name,by decide,Tryz.func242.trans (congrArg some (by kernel_rfl))⟩
 t0:=Tryz.underlying0
 a0:=Tryz.isAgg0
 z0:=Tryz.sizeOf0
 v0:=Tryz.zeroValue0
 t3:=Tryz.underlying3
 a3:=Tryz.isAgg3
 z3:=Tryz.sizeOf3
 v3:=Tryz.zeroValue3
 t4:=Tryz.underlying4
 a4:=Tryz.isAgg4
 z4:=Tryz.sizeOf4
 v4:=Tryz.zeroValue4
 t5:=Tryz.underlying5
 a5:=Tryz.isAgg5
 z5:=Tryz.sizeOf5
 v5:=Tryz.zeroValue5
 t9:=Tryz.underlying9
 a9:=Tryz.isAgg9
 z9:=Tryz.sizeOf9
 v9:=Tryz.zeroValue9
 t22:=Tryz.underlying101
 a22:=Tryz.isAgg101
 z22:=Tryz.sizeOf101
 v22:=Tryz.zeroValue101
 t25:=Tryz.underlying138
 a25:=Tryz.isAgg138
 z25:=Tryz.sizeOf138
 v25:=Tryz.zeroValue138
 t39:=Tryz.underlying175
 a39:=Tryz.isAgg175
 z39:=Tryz.sizeOf175
 v39:=Tryz.zeroValue175
 t45:=Tryz.underlying197
 a45:=Tryz.isAgg197
 z45:=Tryz.sizeOf197
 v45:=Tryz.zeroValue197
 t46:=Tryz.underlying198
 a46:=Tryz.isAgg198
 z46:=Tryz.sizeOf198
 v46:=Tryz.zeroValue198
 t50:=Tryz.underlying202
 a50:=Tryz.isAgg202
 z50:=Tryz.sizeOf202
 v50:=Tryz.zeroValue202
 t53:=Tryz.underlying205
 a53:=Tryz.isAgg205
 z53:=Tryz.sizeOf205
 v53:=Tryz.zeroValue205
 t55:=Tryz.underlying207
 a55:=Tryz.isAgg207
 z55:=Tryz.sizeOf207
 v55:=Tryz.zeroValue207
 t66:=Tryz.underlying221
 a66:=Tryz.isAgg221
 z66:=Tryz.sizeOf221
 v66:=Tryz.zeroValue221
 t70:=Tryz.underlying225
 a70:=Tryz.isAgg225
 z70:=Tryz.sizeOf225
 v70:=Tryz.zeroValue225
 t76:=Tryz.underlying234
 a76:=Tryz.isAgg234
 z76:=Tryz.sizeOf234
 v76:=Tryz.zeroValue234
 t77:=Tryz.underlying208
 a77:=Tryz.isAgg208
 z77:=Tryz.sizeOf208
 v77:=Tryz.zeroValue208 }
end Go.Proofs
namespace Go.Proofs.YtidlfjajjieepaaGreat
set_option linter.unusedSimpArgs false
set_option linter.unusedVariables false
open Go.RowKit Go.Sort
theorem rI (w:World)(os:Array Obj):Below w.heap.size w (Go.Sort.grow w os):=⟨rfl,rfl,rfl,by simp[grow],fun k hk=>heap_grow_old w os hk⟩
theorem rJ {xs ys:List AV}(h:ys.length=xs.length):splice xs 0 ys=ys:=by
 have hl:0+ys.length<=xs.length:=by omega
 refine List.ext_getElem? fun j=>?_
 rw[ik hl]
 by_cases hj:j<ys.length
 ·rw[if_pos ⟨by omega,by omega⟩,Nat.sub_zero]
 rw[if_neg (by omega),List.getElem?_eq_none (by omega),List.getElem?_eq_none (by omega)]
theorem my {E:Env}:∀(l:List (Int×Int)),RelL E (prs l) (fc l)
 |[]=>.nil E
 |p::l=>.cons (.int _ _) (.cons (.int _ _) (my l))
theorem qt:∀(l:List (Int×Int)),(prs l).all AV.one=true
 |[]=>rfl
 |p::l=>by rw[cJ];simp[AV.one,qt l]
section
variable {E:Env} {H:ac} {w:World}
theorem Emb.putP (h:Emb E H w){b q:Nat}{zs ys:List (Int×Int)}(hg:H[b]? = some (.cells true 2 (prs zs)))(hl:ys.length=zs.length)(os:Array Obj):
  Emb E (H.set b (.cells true 2 (prs ys))) (Go.Sort.grow ((w.drewN q).setCells (E.loc b).blk ((E.loc b).off) (fc ys)) os):=by
 have h0:Emb E H (w.drewN q):=h.up (below_drewN (Below.refl _ _) q)
 have hw:awrite H b 0 (prs ys)=some (H.set b (.cells true 2 (prs ys))):=by
  unfold awrite
  rw[hg]
  simp only
  rw[if_pos ⟨by simp[ba,hl],qt ys⟩,rJ (by simp[ba,hl])]
 exact((h0.write (my ys) hw).2.2.2).up (rI _ os)
end
def encP {α:Type}(val:α->Int×Int) (x:α):List Value:=[.int .i64 (val x).1,.int .i64 (val x).2]
theorem pm {α:Type}[Inhabited α](val:α->Int×Int)(zs:List α):flatK (encP val) 2 zs.toArray=(fc (zs.map val)).toArray:=by
 refine ext_get! (by simp[me]) fun t ht=>?_
 have ht':t<zs.length*2:=by simpa using ht
 rw[get_flatK _ _ _ _ (by simpa using ht')]
 have hj:t/2<zs.length:=by omega
 obtain⟨e1,e2⟩:=enc2_at (zs.map val) (t/2) (by simpa using hj)
 have hx:zs.toArray[t/2]! = zs[t/2]:=by simp[hj]
 rw[hx]
 have hr:(fc (zs.map val)).toArray[t]! = ((fc (zs.map val))[t]?).getD default:=by simp[List.getElem!_eq_getElem?_getD]
 rw[hr]
 rcases Nat.mod_two_eq_zero_or_one t with h|h
 ·have:t=t/2*2:=by omega
  rw[<-this] at e1
  rw[h,e1]
  simp[encP]
 have:t=t/2*2+1:=by omega
 rw[<-this] at e2
 rw[h,e2]
 simp[encP]
theorem Can.nil:Can [] []:=⟨.nil,by simp,fun _ _=>rfl⟩
def ib (x y:Int):Int:=if x<y then -1 else if y<x then 1 else 0
def Bd (M:Int) (p:Pt):Prop := -M<=p.1/\p.1<=M /\ -M<=p.2/\p.2<=M
theorem aP {a b A B:Int}(h1 : -A<=a/\a<=A)(h2 : -B<=b/\b<=B): -(A*B)<=a*b/\a*b<=A*B:=by
 have e1:=Int.mul_nonneg (a:=A-a) (b:=B+b) (by omega) (by omega)
 have e2:=Int.mul_nonneg (a:=A+a) (b:=B-b) (by omega) (by omega)
 have e3:=Int.mul_nonneg (a:=A-a) (b:=B-b) (by omega) (by omega)
 have e4:=Int.mul_nonneg (a:=A+a) (b:=B+b) (by omega) (by omega)
 simp only[Int.sub_mul,Int.add_mul,Int.mul_sub,Int.mul_add] at e1 e2 e3 e4
 omega
theorem isNaN_h (x:Int)(W:World):Calls Tryz.prog 209 #[.int .i64 x] W fun e w'=>e=.returned (.bool false)/\w'=W:=by
 go_enter Tryz.func209,Tryz.ntmps209
 go_wp2
 go_ret
 exact⟨by simp,rfl⟩
theorem compare_h (x y:Int)(W:World):Calls Tryz.prog 169 #[.int .i64 x,.int .i64 y] W fun e w'=>e=.returned (.int .i64 (ib x y))/\w'=W:=by
 have hcon:=isNaN_h
 go_enter Tryz.func169,Tryz.ntmps169
 go_wp2_with (go_at_call 209;refine(hcon _ _).mono ?_;rintro e w' ⟨rfl,rfl⟩)
 ·go_ret
  exact⟨iu (by unfold ib;rw[if_pos (by assumption)]),rfl⟩
 ·go_ret
  exact⟨iu (by unfold ib;rw[if_neg (by omega),if_pos (by assumption)]),rfl⟩
 go_ret
 exact⟨iu (by unfold ib;rw[if_neg (by omega),if_neg (by omega)]),rfl⟩
structure Up where
 p:Pt
 up:up p
 bd:Bd 268435456 p
instance:Inhabited Up:=⟨⟨(1,0),.inr ⟨rfl,by decide⟩,by unfold Bd;simp⟩⟩

def bK (W H:Int) (xs:List Int):Bool:=decide (1<=W/\W<=64/\1<=H/\H<=64/\(xs.length:Int)=W*H/\∀v∈xs,v<=2)
def inB (W H x y:Int):Bool:=decide (0<=x/\x<W/\0<=y/\y<H)
def atI (W H:Int) (xs:List Int) (x y:Int):Int:=if inB W H x y then gi xs (y*W+x).toNat else 2
structure Vld (W H:Int) (xs:List Int):Prop where
 w0:1<=W
 w1:W<=64
 h0:1<=H
 h1:H<=64
 len:(xs.length:Int)=W*H
 le:∀v∈xs,v<=2
theorem bp {W H:Int}{xs:List Int}:bK W H xs=true↔Vld W H xs:=by
 unfold bK
 rw[decide_eq_true_iff]
 exact⟨fun ⟨a,b,c,d,e,f⟩=>⟨a,b,c,d,e,f⟩,fun ⟨a,b,c,d,e,f⟩=>⟨a,b,c,d,e,f⟩⟩
theorem pn {W H:Int}{xs:List Int}:bK W H xs=false↔¬Vld W H xs:=by
 rw[<-bp];simp
theorem c7 {W H x y:Int}:inB W H x y=true↔0<=x/\x<W/\0<=y/\y<H:=by
 unfold inB;rw[decide_eq_true_iff]
theorem g5 {a b:Int}(h0:0<=a)(h1:a<=64)(h2:0<=b)(h3:b<=64):0<=a*b/\a*b<=4096 :=
 ⟨Int.mul_nonneg h0 h2,Int.le_trans (Int.mul_le_mul h1 h3 h2 (by omega)) (by omega)⟩
theorem Vld.pos {W H:Int}{xs:List Int}(h:Vld W H xs):1<=W*H/\W*H<=4096/\0<xs.length/\xs.length<=4096:=by
 have h1:1*1<=W*H:=Int.mul_le_mul h.w0 h.h0 (by omega) (by have:=h.w0;omega)
 have h2:=g5 (a:=W) (b:=H) (by have:=h.w0;omega) h.w1 (by have:=h.h0;omega) h.h1
 have h3:=h.len
 omega
theorem idx_bd {W H x y:Int}(h:inB W H x y=true):0<=y*W/\0<=y*W+x/\y*W+x<W*H:=by
 obtain⟨a,b,c,d⟩:=c7.1 h
 have h1:0<=y*W:=Int.mul_nonneg c (by omega)
 have h2:(y+1)*W<=H*W:=Int.mul_le_mul_of_nonneg_right (by omega) (by omega)
 rw[Int.add_mul,Int.one_mul] at h2
 rw[Int.mul_comm W H]
 omega
theorem Vld.idx {W H x y:Int}{xs:List Int}(hv:Vld W H xs)(h:inB W H x y=true):0<=y*W/\y*W<=4096/\0<=y*W+x/\y*W+x<W*H/\(y*W+x).toNat<xs.length/\0<=x/\x<64/\0<=y/\y<64:=by
 have h1:=idx_bd h
 have h2:=hv.pos
 have h3:=hv.len
 obtain⟨a,b,c,d⟩:=c7.1 h
 have:=hv.w1
 have:=hv.h1
 omega



inductive FT where
 |nil
 |leaf (x:AV)
 |node (l r:FT)
def FT.get:Nat->FT->Nat->AV
 |0,f,_=>(match f with | .leaf x=>x|_=>.any)
 |d+1,f,t=>(match f with | .node l r=>bif Nat.beq (t%2) 0 then FT.get d l (t/2) else FT.get d r (t/2)|_=>.any)
def FT.set:Nat->Nat->AV->FT->FT
 |0,_,x,_=>.leaf x
 | d+1,t,x,f=>(match f with
  |.node l r=>bif Nat.beq (t%2) 0 then .node (FT.set d (t/2) x l) r else .node l (FT.set d (t/2) x r)
  |_=>bif Nat.beq (t%2) 0 then .node (FT.set d (t/2) x .nil) .nil else .node .nil (FT.set d (t/2) x .nil))
def getT (f:FT) (t:Nat):AV:=bif Nat.blt t 1024 then FT.get 10 f t else .any
def ev (f:FT):Operand->AV
 |.tmp t=>getT f t
 |.const v=>AV.ofValue v
 |.global _=>.any
 |.func g=>.fn g []
abbrev Caller:=FuncId->List AV->ac->Option (AV×Option ac)
def CallOk (P:Program) (call:Caller):Prop:=∀f args H x o,call f args H=some (x,o)->dB P f=true/\H.length<=(o.getD H).length/\ACalls P f args H (fun y H1=>y=x/\H1=o.getD H)
section
section
variable {P:Program} {N n m:Nat} {d:Option Nat} {q keep:Bool} {call:Caller}
theorem Rel.env {E E':Env}{x:AV}{v:Value}(h:Rel E x v)(hn:E'.n=E.n)(hl:∀b,E'.loc b=E.loc b):Rel E' x v:=by
 induction h with
 |any v=>exact .any v
 |int k n=>exact .int k n
 |bool b=>exact .bool b
 |str s=>exact .str s
 |nilptr=>exact .nilptr
 |ptr b o hb=>rw[<-hl b];exact .ptr b o (by rw[hn];exact hb)
 |nilsl=>exact .nilsl
 |nils b cap hb hc=>exact .nils b cap (by rw[hn];exact hb) hc
 |sl b o len cap c a hb h1 h2 h3 h4 h5=>exact .sl b o len cap c a (by rw[hn];exact hb) h1 h2 h3 (by rw[hl];exact h4) (by rw[hl];exact h5)
 |nilmp=>exact .nilmp
 |mp b hb=>rw[<-hl b];exact .mp b (by rw[hn];exact hb)
 |nilfn=>exact .nilfn
 |fn f caps cs hl' _ ih=>exact .fn f caps cs hl' ih
 |agg xs cs hl' _ ih=>exact .agg xs cs hl' ih
 |tup xs cs hl' _ ih=>exact .tup xs cs hl' ih
theorem RelL.env {E E':Env}{xs:List AV}{vs:List Value}(h:RelL E xs vs)(hn:E'.n=E.n)(hl:∀b,E'.loc b=E.loc b):RelL E' xs vs:=⟨h.1,fun i x v hx hv=>(h.2 i x v hx hv).env hn hl⟩
theorem BlkOk.env {E E':Env}{w:World}{L:Loc}{x:ABlk}(h:BlkOk E w L x)(hB:E'.B=E.B)(hn:E'.n=E.n)(hl:∀b,E'.loc b=E.loc b):BlkOk E' w L x:=by
 cases x with
 |dead=>trivial
 | cells own es xs =>
  obtain⟨h1,h2,h3,h4⟩:=h
  refine⟨fun j x hj=>?_,fun ho=>by rw[hB];exact h2 ho,fun ho hl=>by rw[hB];exact h3 ho hl,h4⟩
  obtain⟨a,v,hv,hr⟩:=h1 j x hj
  exact⟨a,v,hv,hr.env hn hl⟩
 | map es =>
  obtain⟨h1,h2,ents,clock,h3,h4,h5⟩:=h
  exact⟨by rw[hB];exact h1,h2,ents,clock,h3,h4.env hn hl,h5.env hn hl⟩
theorem Abs0.same (n:Nat){F G:Fr}(h:look F=look G){H:ac}(hn:n<=H.length):Abs0 n id F H G H where
 small _ _:=rfl
 len:=hn
 frame E E' h1 h2 h3 t v hv:=by
  rw[<-h]
  exact hv.env (h2.trans h1.symm) h3
 heap E E' h1 h2 h3 h4 w hw b x hx:=by
  rw[h4 b]
  exact(hw b x hx).env h3 (h2.trans h1.symm) h4
 inj b c x y hx hy ox oy hbc:=⟨hbc,⟨x,hx,ox⟩,y,hy,oy⟩
theorem Abs.same (n:Nat){F G:Fr}(h:look F=look G){H:ac}(hn:n<=H.length):Abs n id F H G H:=(Abs0.same n h hn).abs
inductive TbOk (P:Program):List (Nat×Bool×Func)->Prop where
 |nil:TbOk P []
 |cons {f:Nat} {q:Bool} {fn:Func} {r:List (Nat×Bool×Func)}:dB P f=true->P.funcs[f]? = some fn->(fn.body.map (dd fn.ntmps q))=some true->TbOk P r->TbOk P ((f,q,fn)::r)
end
end
open Go.Proofs.Tryz
noncomputable def tb:List (Nat×Bool×Func):=[(31,false,Tryz.f31),(58,false,Tryz.f58),(61,false,Tryz.f61),(63,false,Tryz.f63),(72,false,Tryz.f72),(79,false,Tryz.f79),(83,false,Tryz.f83),(102,false,Tryz.f102),(114,false,Tryz.f114),(125,false,Tryz.f125),(127,false,Tryz.f127),(128,false,Tryz.f128),(142,false,Tryz.f142),(165,false,Tryz.f165),(166,false,Tryz.f166),(168,false,Tryz.f168),(169,false,Tryz.f169),(186,false,Tryz.f186),(198,false,Tryz.f198),(199,false,Tryz.f199),(200,false,Tryz.f200),(201,false,Tryz.f201),(202,false,Tryz.f202),(203,false,Tryz.f203),(204,false,Tryz.f204),(205,false,Tryz.f205),(206,false,Tryz.f206),(209,false,Tryz.f209),(225,false,Tryz.f225),(226,false,Tryz.f226),(228,false,Tryz.f228),(229,false,Tryz.f229),(242,false,Tryz.f242)]
abbrev zC (f:FuncId) (a:List AV) (H:ac) (x:AV) (K:ac):Prop:=ACalls prog f a H fun v H'=>v=x/\H'=K
def ext:Caller:=fun f args _ =>
 match args with
 |[.int .u64 x]=>bif Nat.beq f 167&&(decide (0<=x)&&decide (x<=18446744073709551615)) then some (.int .i64 (Lib.bitLen x.toNat),none) else none
 |_=>none
theorem ext_ok:CallOk prog ext:=fun f args H x o h=>by
 unfold ext at h
 split at h
 ·rename_i x'
  cases hb:Nat.beq f 167&&(decide (0<=x')&&decide (x'<=18446744073709551615))
  ·rw[hb] at h;cases h
  rw[hb,cond_true] at h
  simp only[Option.some.injEq,Prod.mk.injEq] at h
  obtain⟨rfl,rfl⟩:=h
  simp only[Bool.and_eq_true,decide_eq_true_eq] at hb
  obtain⟨h1,h2,h3⟩:=hb
  have e:=Nat.eq_of_beq_eq_true h1
  subst e
  refine⟨by kernel_rfl,Nat.le_refl _,fun E w vs hE hv=>?_⟩
  obtain⟨v1,l1,rfl,k1,hr⟩:=kX hv
  obtain rfl:=qb hr
  obtain rfl:=n8 k1
  refine(Tryz.bits_Len x' w h2 h3).mono fun e w' ⟨he,hw⟩=>?_
  subst hw
  exact⟨E,_,H,_,he,⟨rfl,rfl⟩,.refl E,.int _ _,hE⟩
 cases h
def gp (l:List Pt) (i:Nat):Pt:=(g1 l i,g2 l i)
section
variable (H:ac)
def cR (x m:Int):Bool:=decide (0-m<=x)&&decide (x<=m)
theorem oc (x m:Int)(h:0<=m/\m<=4611686018427387904):zC 69 [.int .i64 x,.int .i64 m] H (.bool (cR x m)) H:=by
 (refine co try_mixed func69 true _ rfl (Nat.le_of_ble_eq_true (by kernel_rfl)) (by kernel_rfl) ?_;intro hbel Q hQ hQ' c hc;unfold Tryz.f69 at hc;simp only[Option.some.injEq] at hc;subst hc;clear hQ')
 by_cases h1:0-m<=x
 ·simp -implicitDefEqProofs (disch:=omega) only [h1,ge_iff_le,simprocAttr,aG,aH,Function.comp_apply,one1,lenV,ak,ay,az,aop,AV.ofValue,AV.ofCell,AV.cells,AV.flat,AV.one,arep,aT,av,aE]
  repeat refine And.intro (by omega) ?_
  exact hQ _ _ (eh (.inl rfl) hbel (x:=.bool (decide (x<=m))) (aU results69) rfl ⟨by simp only[cR,h1,decide_true,Bool.true_and],rfl⟩)
 simp -implicitDefEqProofs (disch:=omega) only [h1,ge_iff_le,simprocAttr,aG,aH,Function.comp_apply,one1,lenV,ak,ay,az,aop,AV.ofValue,AV.ofCell,AV.cells,AV.flat,AV.one,arep,aT,av,aE]
 repeat refine And.intro (by omega) ?_
 exact hQ _ _ (eh (.inl rfl) hbel (x:=.bool false) (aU results69) rfl ⟨by simp only[cR,h1,decide_false,Bool.false_and],rfl⟩)
def absI (n:Int):Int:=if n<0 then -n else n
end
theorem IsP.parts {H:ac}{s:AV}{l:List Pt}(h:IsP H s l):∃a c,s=.sl a l.length c:=by
 rcases h with ⟨rfl,rfl⟩|⟨b,own,cap,rfl,hb⟩
 ·exact⟨_,_,rfl⟩
 exact⟨_,_,rfl⟩
theorem IsP.pos {H:ac}{s:AV}{l:List Pt}(h:IsP H s l)(h0:0<l.length):∃b own cap,s=.sl (some (b,0)) l.length cap/\H[b]? = some (.cells own 2 (prs l)):=by
 rcases h with ⟨rfl,rfl⟩|⟨b,own,cap,rfl,hb⟩
 ·simp at h0
 exact⟨b,own,cap,rfl,hb⟩
section
variable (H:ac)
end
section
variable (H:ac)
end
theorem bx {x m:Int}:cR x m=true ↔ -m<=x/\x<=m:=by unfold cR;simp
def dotP (n g:Pt):Int:=n.1*g.1+n.2*g.2
def spr (n:Pt):List Pt->Int
 |[]=>0
 |g::l=>absI (dotP n g)+spr n l
theorem absI_neg (x:Int):absI (-x)=absI x:=by unfold absI;split<;>split<;>omega
theorem absI_le {x M:Int}:absI x<=M ↔ -M<=x/\x<=M:=by unfold absI;split<;>omega
theorem pq (n g:Pt):dotP (-n.1,-n.2) g = -dotP n g:=by unfold dotP;simp only[Int.neg_mul];omega
theorem qu (n g:Pt)(l:List Pt):spr n (g::l)=absI (dotP n g)+spr n l:=rfl
theorem qv (n:Pt):∀l:List Pt,spr (-n.1,-n.2) l=spr n l
 |[]=>rfl
 |g::l=>by rw[qu,qu,qv n l,pq,absI_neg]
def inZ (L:List Pt) (d:Pt):Prop:=∀n:Pt,dotP n d<=spr n L
theorem inZ.abs {L:List Pt}{d:Pt}(h:inZ L d)(n:Pt):absI (dotP n d)<=spr n L:=by
 rw[absI_le]
 have h1:=h n
 have h2:=h (-n.1,-n.2)
 rw[pq,qv] at h2
 omega
def mkL (e:Int) (L:List Pt):List Pt:=if e=0 then L else []
theorem lC {l:List Pt}:(prs l).take (l.length*2)=prs l:=by rw[eI,List.take_length]
theorem and255 (a:Int):(BitVec.ofInt 64 a &&& BitVec.ofInt 64 255).toNat=(a%256).toNat:=by
 rw[BitVec.toNat_and,BitVec.toNat_ofInt,BitVec.toNat_ofInt]
 have e:((255:Int)%((2 ^ 64:Nat):Int)).toNat=2 ^ 8-1:=by decide
 rw[e,Nat.and_two_pow_sub_one_eq_mod]
 have:(((a%((2 ^ 64:Nat):Int)).toNat:Nat):Int)=a%18446744073709551616:=by
  rw[Int.toNat_of_nonneg (Int.emod_nonneg _ (by decide))];rfl
 omega
def dw (x y d:Int):Nat:=Nat.gcd (Nat.gcd d.natAbs x.natAbs) y.natAbs
abbrev Vec:=Int×Int×Int
def dT (x y d:Int):Vec:=(x.tdiv (dw x y d),y.tdiv (dw x y d),d.tdiv (dw x y d))
theorem gcd3_comm (x y d:Int):Nat.gcd (Nat.gcd x.natAbs y.natAbs) d.natAbs=dw x y d:=by
 unfold dw
 rw[Nat.gcd_comm d.natAbs,Nat.gcd_assoc,Nat.gcd_assoc,Nat.gcd_comm d.natAbs]
theorem mz {x y d:Int}(h:d≠0):0<dw x y d:=by
 unfold dw
 exact Nat.gcd_pos_of_pos_left _ (Nat.gcd_pos_of_pos_left _ (Int.natAbs_pos.2 h))
theorem gcd3_dvd (x y d:Int):((dw x y d:Nat):Int) ∣ x/\((dw x y d:Nat):Int) ∣ y/\((dw x y d:Nat):Int) ∣ d:=by
 unfold dw
 have h1:=Nat.gcd_dvd_left (Nat.gcd d.natAbs x.natAbs) y.natAbs
 have h2:=Nat.gcd_dvd_right (Nat.gcd d.natAbs x.natAbs) y.natAbs
 exact⟨Int.ofNat_dvd_left.2 (Nat.dvd_trans h1 (Nat.gcd_dvd_right _ _)),Int.ofNat_dvd_left.2 h2,Int.ofNat_dvd_left.2 (Nat.dvd_trans h1 (Nat.gcd_dvd_left _ _))⟩
theorem lowV_mul {x y d:Int}(h:d≠0):∃g:Int,0<g/\x=(dT x y d).1*g/\y=(dT x y d).2.1*g/\d=(dT x y d).2.2*g:=by
 obtain⟨a,b,c⟩:=gcd3_dvd x y d
 have hp:=mz (x:=x) (y:=y) h
 refine⟨dw x y d,by omega,?_,?_,?_⟩<;>(unfold dT;simp only;rw[Int.tdiv_mul_cancel (by assumption)])
def dir0 (k:Nat):Vec:=dT (4096-(k:Int)*k) (128*k) (4096+(k:Int)*k)
def rotN (v:Vec):Nat->Vec
 |0=>v
 |n+1=>(-(rotN v n).2.1,(rotN v n).1,(rotN v n).2.2)
def dirN (h:Nat):Vec:=rotN (dir0 (h%64)) (h/64)
def cG (h:Int):Vec:=dirN (h%256).toNat
def eK (v:Vec):Bool:=decide (1<=v.2.2)&&decide (v.2.2<=8065)&&decide (-v.2.2<=v.1)&&decide (v.1<=v.2.2)&&decide (-v.2.2<=v.2.1)&&decide (v.2.1<=v.2.2)&&decide (v.1*v.1+v.2.1*v.2.1=v.2.2*v.2.2)
theorem dirs_ok:(List.range 256).all (fun h=>eK (dirN h))=true:=by decide +kernel
theorem e6 (h:Int):eK (cG h)=true:=by
 have:=List.all_eq_true.1 dirs_ok (h%256).toNat (by simp;omega)
 exact this
theorem df {v:Vec}:eK v=true↔(1<=v.2.2/\v.2.2<=8065)/\(-v.2.2<=v.1/\v.1<=v.2.2)/\(-v.2.2<=v.2.1/\v.2.1<=v.2.2)/\v.1*v.1+v.2.1*v.2.1=v.2.2*v.2.2:=by
 unfold eK
 simp only[Bool.and_eq_true,decide_eq_true_eq]
 constructor
 ·rintro⟨⟨⟨⟨⟨⟨a,b⟩,c⟩,d⟩,e⟩,f⟩,g⟩;exact⟨⟨a,b⟩,⟨c,d⟩,⟨e,f⟩,g⟩
 rintro⟨⟨a,b⟩,⟨c,d⟩,⟨e,f⟩,g⟩;exact⟨⟨⟨⟨⟨⟨a,b⟩,c⟩,d⟩,e⟩,f⟩,g⟩
theorem fK {a b:Int}(h:0<b):(if a.tmod b<0 then a.tdiv b-1 else a.tdiv b)=a/b:=by
 rw[Int.tdiv_eq_ediv,Int.tmod_eq_emod]
 have h1:=Int.emod_nonneg a (by omega:b≠0)
 have h2:=Int.emod_lt_of_pos a h
 have hs:b.sign=1:=Int.sign_eq_one_of_pos h
 have hn:(b.natAbs:Int)=b:=by omega
 split
 ·rw[if_neg (by omega)];omega
 rw[if_pos (by omega),hs];omega
def cK (h m:Int):Int:=m*(cG h).1/(cG h).2.2
def cL (h m:Int):Int:=m*(cG h).2.1/(cG h).2.2
theorem div_bd {m a d:Int}(hd:1<=d)(ha : -d<=a/\a<=d)(hm:0<=m): -m<=m*a/d/\m*a/d<=m:=by
 constructor
 ·rw[Int.le_ediv_iff_mul_le (by omega)]
  have:=Int.mul_le_mul_of_nonneg_left ha.1 hm
  rw[Int.mul_neg] at this
  rw[Int.neg_mul];exact this
 have:=Int.mul_le_mul_of_nonneg_left ha.2 hm
 have h2:m*a/d<=m*d/d:=Int.ediv_le_ediv (by omega) this
 rwa [Int.mul_ediv_cancel _ (by omega)] at h2
theorem jK (h:Int){m:Int}(hm:0<=m):(-m<=cK h m/\cK h m<=m)/\(-m<=cL h m/\cL h m<=m):=by
 have hv:=df.1 (e6 h)
 exact⟨div_bd hv.1.1 hv.2.1 hm,div_bd hv.1.1 hv.2.2.1 hm⟩
def btw (n lo hi:Int):Bool:=decide (lo<=n)&&decide (n<=hi)
theorem bm {n lo hi:Int}:btw n lo hi=true↔lo<=n/\n<=hi:=by unfold btw;simp
def bL (t f:Int):Bool:=cR t 32&&btw f 0 32
def bO (tu le sl ra:Int):Bool:=btw tu 0 8&&(btw le 0 16&&(btw sl 0 8&&btw ra 1 32))
set_option maxHeartbeats 4000000
set_option maxRecDepth 100000
theorem eu {a b:Int}(hb:0<b)(hw : -4611686018427387904<=a/\a<=4611686018427387904): -4611686018427387904<=Int.tdiv a b/\Int.tdiv a b<=4611686018427387904:=by
 have h:=fK (a:=a) hb
 have h1:a/b<=4611686018427387904:=Int.ediv_le_of_le_mul hb (by have:=Int.mul_le_mul_of_nonneg_left (show (1:Int)<=b by omega) (by decide:(0:Int)<=4611686018427387904);omega)
 have h2 : -4611686018427387904<=a/b:=by
  rw[Int.le_ediv_iff_mul_le hb]
  have:=Int.mul_le_mul_of_nonneg_left (show (1:Int)<=b by omega) (by decide:(0:Int)<=4611686018427387904)
  rw[Int.neg_mul];omega
 rw[Int.tdiv_eq_ediv]
 have hs:b.sign=1:=Int.sign_eq_one_of_pos hb
 split
 ·omega
 rename_i hh
 rw[hs]
 rcases (by omega:a/b<=4611686018427387903\/a/b=4611686018427387904) with k|k
 ·omega
 exfalso
 have h3:4611686018427387904*b<=a:=by rw[<-Int.le_ediv_iff_mul_le hb];omega
 have:=Int.mul_le_mul_of_nonneg_left (show (1:Int)<=b by omega) (by decide:(0:Int)<=4611686018427387904)
 omega
theorem rK (a:Int):IntKind.i64.wrap ((BitVec.ofInt IntKind.i64.bits a &&& BitVec.ofInt IntKind.i64.bits 255).toNat:Int)=(((a%256).toNat:Nat):Int):=by
 have h:=and255 a
 show IntKind.i64.wrap (((BitVec.ofInt 64 a &&& BitVec.ofInt 64 255).toNat:Nat):Int)=_
 rw[h]
 exact n7 (by omega) (by omega)
theorem rem_n64 (a:Nat):Int.tmod (a:Int) 64=((a%64:Nat):Int):=rfl
theorem quo_n64 (a:Nat):Int.tdiv (a:Int) 64=((a/64:Nat):Int):=rfl
theorem mod_nn {a b:Int}(hb:0<b):(if Int.tmod a b<0 then Int.tmod a b+b else Int.tmod a b)=a%b:=by
 rw[Int.tmod_eq_emod]
 have h1:=Int.emod_nonneg a (by omega:b≠0)
 have h2:=Int.emod_lt_of_pos a hb
 have hn:(b.natAbs:Int)=b:=by omega
 split
 ·rw[if_neg (by omega)];omega
 rw[if_pos (by omega)];omega
theorem eL (H:ac)(n lo hi:Int):zC 62 [iV n,iV lo,iV hi] H (.bool (btw n lo hi)) H:=by
 refine AcT true func62 ?_;intro hbel Q hQ
 refine aC ?_
 refine bg (fun h1=>?_) (fun h1=>?_)
 ·have h1d:=bsT h1
  have G1:=jn h1 @h1d
  exact eS G1 hQ hbel (.bool (decide (n<=hi))) results62 ⟨by simp[btw,h1d],rfl⟩
 have h1d:=bsT h1
 have G2:=jn h1 @h1d
 exact eS G2 hQ hbel (.bool false) results62 ⟨by simp[btw,h1d],rfl⟩
theorem dwithin_c (H:ac)(x m:Int)(h:0<=m/\m<=4611686018427387904):zC 67 [iV x,iV m] H (.bool (cR x m)) H:=by
 refine AcT true func67 ?_;intro hbel Q hQ
 refine aC ?_
 refine cv (eL _ x _ m) ?_
 refine aC ?_
 exact eQ hQ hbel (.bool (btw x (0-m) m)) results67 ⟨by simp[btw,cR,true_and],rfl⟩
theorem g7 (H:ac)(t f:Int):zC 43 [.agg [iV t,iV f]] H (.bool (bL t f)) H:=by
 refine AcT true func43 ?_;intro hbel Q hQ
 refine aC ?_
 refine cv (dwithin_c _ t 32 (by decide)) ?_
 refine aC ?_
 refine bg (fun h1=>?_) (fun h1=>?_)
 ·have h1d:=bsT h1
  have G3:=jn h1 @h1d
  refine aa G3 ?_
  refine cvr G3 (eL _ f 0 _) ?_
  exact eP hQ hbel (.bool (btw f 0 32)) results43 ⟨by simp[bL,h1d],rfl⟩
 have h1d:=bsT h1
 have G4:=jn h1 @h1d
 exact eR G4 hQ hbel (.bool false) results43 ⟨by simp[bL,h1d],rfl⟩
theorem g8 (H:ac)(t f:Int):zC 45 [.agg [iV t,iV f]] H (.bool (bL t f)) H:=by
 refine AcT true func45 ?_;intro hbel Q hQ
 refine aC ?_
 refine cv (oc _ _ _ (by decide)) ?_
 refine aC ?_
 refine bg (fun h1=>?_) (fun h1=>?_)
 ·have h1d:=bsT h1
  have G5:=jn h1 @h1d
  refine rgs G5 (fun h2 h2d G6=>?_) (fun h2 h2d G7=>?_)
  ·exact eR G6 hQ hbel (.bool (decide (f<=32))) results45 ⟨by simp[bL,btw,h1d,h2d],rfl⟩
  exact eR G7 hQ hbel (.bool false) results45 ⟨by simp[bL,btw,h1d,h2d],rfl⟩
 have h1d:=bsT h1
 have G8:=jn h1 @h1d
 exact eR G8 hQ hbel (.bool false) results45 ⟨by simp[bL,btw,h1d],rfl⟩
theorem jL (H:ac)(tu le sl ra:Int):zC 29 [.agg [iV tu,iV le,iV sl,iV ra]] H (.bool (bO tu le sl ra)) H:=by
 refine AcT true func29 ?_;intro hbel Q hQ
 refine aC ?_
 refine cv (eL _ _ 0 8) ?_
 refine aC ?_
 refine bg (fun h1=>?_) (fun h1=>?_)
 ·have h1d:=bsT h1
  have G9:=jn h1 @h1d
  refine aa G9 ?_
  refine cv (eL _ _ 0 _) ?_
  refine rgs G9 (fun h2 h2d G10=>?_) (fun h2 h2d G13=>?_)
  ·refine aa G10 ?_
   refine cv (eL _ _ 0 8) ?_
   refine rgs G10 (fun h3 h3d G11=>?_) (fun h3 h3d G12=>?_)
   ·refine aa G11 ?_
    refine cvr G11 (eL _ _ 1 _) ?_
    exact eP hQ hbel (.bool (btw ra 1 32)) results29 ⟨by simp[bO,h1d,h2d,h3d],rfl⟩
   exact eR G12 hQ hbel (.bool false) results29 ⟨by simp[bO,h1d,h2d,h3d],rfl⟩
  exact eR G13 hQ hbel (.bool false) results29 ⟨by simp[bO,h1d,h2d],rfl⟩
 have h1d:=bsT h1
 have G14:=jn h1 @h1d
 exact eR G14 hQ hbel (.bool false) results29 ⟨by simp[bO,h1d],rfl⟩
theorem jM (H:ac)(tu le sl ra:Int):zC 34 [.agg [iV tu,iV le,iV sl,iV ra]] H (.bool (bO tu le sl ra)) H:=by
 refine AcT true func34 ?_;intro hbel Q hQ
 refine aC ?_
 refine bg (fun h1=>?_) (fun h1=>?_)
 ·have h1d:=bsT h1
  have G15:=jn h1 @h1d
  refine rgs G15 (fun h2 h2d G16=>?_) (fun h2 h2d G27=>?_)
  ·refine rgs G16 (fun h3 h3d G17=>?_) (fun h3 h3d G26=>?_)
   ·refine rgs G17 (fun h4 h4d G18=>?_) (fun h4 h4d G25=>?_)
    ·refine rgs G18 (fun h5 h5d G19=>?_) (fun h5 h5d G24=>?_)
     ·refine rgs G19 (fun h6 h6d G20=>?_) (fun h6 h6d G23=>?_)
      ·refine rgs G20 (fun h7 h7d G21=>?_) (fun h7 h7d G22=>?_)
       ·exact eR G21 hQ hbel (.bool (decide (ra<=32))) results34 ⟨by simp[bO,btw,h1d,h2d,h3d,h4d,h5d,h6d,h7d],rfl⟩
       exact eR G22 hQ hbel (.bool false) results34 ⟨by simp[bO,btw,h1d,h2d,h3d,h4d,h5d,h6d,h7d],rfl⟩
      exact eR G23 hQ hbel (.bool false) results34 ⟨by simp[bO,btw,h1d,h2d,h3d,h4d,h5d,h6d],rfl⟩
     exact eR G24 hQ hbel (.bool false) results34 ⟨by simp[bO,btw,h1d,h2d,h3d,h4d,h5d],rfl⟩
    exact eR G25 hQ hbel (.bool false) results34 ⟨by simp[bO,btw,h1d,h2d,h3d,h4d],rfl⟩
   exact eR G26 hQ hbel (.bool false) results34 ⟨by simp[bO,btw,h1d,h2d,h3d],rfl⟩
  exact eR G27 hQ hbel (.bool false) results34 ⟨by simp[bO,btw,h1d,h2d],rfl⟩
 have h1d:=bsT h1
 have G28:=jn h1 @h1d
 exact eR G28 hQ hbel (.bool false) results34 ⟨by simp[bO,btw,h1d],rfl⟩
theorem dx (H:ac)(a b:Int)(hb:0<b)(hw : -4611686018427387904<=a/\a<=4611686018427387904):zC 179 [iV a,iV b] H (iV (a/b)) H:=by
 have htd:=eu (a:=a) (b:=b) hb hw
 refine AcT true func179 ?_;intro hbel Q hQ
 refine aC ?_
 refine cn (fun h1=>?_) (fun h1=>?_)
 ·have h1d:=bsT h1
  have hfinq:Int.tdiv a b-1=a/b:=by rw[<-fK hb,if_pos h1d]
  have G29:=jn h1 @h1d
  exact eS G29 hQ hbel (iV ((Int.tdiv a b)-1)) results179 ⟨congrArg (AV.int .i64) hfinq,rfl⟩
 have h1d:=bsT h1
 have hfinq:Int.tdiv a b=a/b:=by rw[<-fK hb,if_neg (by omega)]
 have G30:=jn h1 @h1d
 exact eS G30 hQ hbel (iV (Int.tdiv a b)) results179 ⟨congrArg (AV.int .i64) hfinq,rfl⟩
theorem lD (H:ac)(a b:Int)(hb:0<b)(hw : -4611686018427387904<=a/\a<=4611686018427387904):zC 232 [iV a,iV b] H (iV (a/b)) H:=by
 have htd:=eu (a:=a) (b:=b) hb hw
 refine AcT true func232 ?_;intro hbel Q hQ
 refine aC ?_
 refine cn (fun h1=>?_) (fun h1=>?_)
 ·have h1d:=bsT h1
  have hfinq:Int.tdiv a b-1=a/b:=by rw[<-fK hb,if_pos h1d]
  have G31:=jn h1 @h1d
  exact eS G31 hQ hbel (iV ((Int.tdiv a b)-1)) results232 ⟨congrArg (AV.int .i64) hfinq,rfl⟩
 have h1d:=bsT h1
 have hfinq:Int.tdiv a b=a/b:=by rw[<-fK hb,if_neg (by omega)]
 have G32:=jn h1 @h1d
 exact eS G32 hQ hbel (iV (Int.tdiv a b)) results232 ⟨congrArg (AV.int .i64) hfinq,rfl⟩
theorem lb (H:ac)(a b:Int)(hb:0<b)(hw:b<=4611686018427387904):zC 41 [iV a,iV b] H (iV (((a%b).toNat:Nat):Int)) H:=by
 have hmd:=mod_nn (a:=a) hb
 have hm1:=Int.emod_nonneg a (by omega:b≠0)
 have hm2:=Int.emod_lt_of_pos a hb
 have hm3 : -b<=Int.tmod a b/\Int.tmod a b<b:=by split at hmd<;>omega
 refine AcT true func41 ?_;intro hbel Q hQ
 refine aC ?_
 refine cn (fun h1=>?_) (fun h1=>?_)
 ·have h1d:=bsT h1
  have hfinq:Int.tmod a b+b=(((a%b).toNat:Nat):Int):=by rw[if_pos h1d] at hmd;omega
  have G33:=jn h1 @h1d
  exact eS G33 hQ hbel (iV ((Int.tmod a b)+b)) results41 ⟨congrArg (AV.int .i64) hfinq,rfl⟩
 have h1d:=bsT h1
 have hfinq:Int.tmod a b=(((a%b).toNat:Nat):Int):=by rw[if_neg (by omega)] at hmd;omega
 have G34:=jn h1 @h1d
 exact eS G34 hQ hbel (iV (Int.tmod a b)) results41 ⟨congrArg (AV.int .i64) hfinq,rfl⟩
theorem lc (H:ac)(h:Int):zC 156 [iV h] H (iV (((h%256).toNat:Nat):Int)) H:=by
 refine AcT true func156 ?_;intro hbel Q hQ
 have G35:=@rK
 exact eS G35 hQ hbel (iV (((h%256).toNat:Nat):Int)) results156 ⟨rfl,rfl⟩
def gst (x y d:Int):Nat->Nat
 |0=>d.natAbs
 |1=>Nat.gcd d.natAbs x.natAbs
 |_+2=>dw x y d
def nst (x y:Int):Nat->Nat
 |0=>x.natAbs
 |_+1=>y.natAbs
theorem iW (a b:Nat):Nat.gcd b (a%b)=Nat.gcd a b:=by rw[Nat.gcd_comm b,<-Nat.gcd_rec,Nat.gcd_comm]
theorem rot_ok {v:Vec}(h:eK v=true):∀n,eK (rotN v n)=true
 |0=>h
 | n+1=>by
  have ih:=df.1 (rot_ok h n)
  rw[df]
  unfold rotN
  simp only
  refine⟨ih.1,by omega,by omega,?_⟩
  rw[Int.neg_mul_neg];omega
theorem dir0_ok {k:Nat}(h:k<64):eK (dir0 k)=true:=by
 have:=List.all_eq_true.1 dirs_ok k (by simp;omega)
 unfold dirN at this
 rwa [Nat.mod_eq_of_lt h,Nat.div_eq_of_lt h] at this
theorem rotN_D (v:Vec):∀n,(rotN v n).2.2=v.2.2
 |0=>rfl
 |n+1=>rotN_D v n
theorem abs4_c (H:ac)(n:Int)(h : -4611686018427387904<=n/\n<=4611686018427387904):zC 238 [iV n] H (iV (n.natAbs:Int)) H:=by
 refine AcT true func238 ?_;intro hbel Q hQ
 refine aC ?_
 refine cn (fun h1=>?_) (fun h1=>?_)
 ·have h1d:=bsT h1
  have G1:=jn h1 @h1d
  exact eS G1 hQ hbel (iV (0-n)) results238 ⟨congrArg (AV.int .i64) (by omega),rfl⟩
 have h1d:=bsT h1
 have G2:=jn h1 @h1d
 exact eS G2 hQ hbel (iV n) results238 ⟨congrArg (AV.int .i64) (by omega),rfl⟩
theorem gcd_n (H:ac)(a0 b0 c0:Nat):zC 237 [iV (a0:Int),iV (b0:Int),iV (c0:Int)] H (iV ((Nat.gcd (Nat.gcd a0 b0) c0:Nat):Int)) H:=by
 refine AcT true func237 ?_;intro hbel Q hQ
 have G3:=@oa
 refine aa G3 ?_
 refine glp (fun k F Hx=>∃a:Nat,∃b:Nat,b=k/\Nat.gcd a b=Nat.gcd a0 b0/\F=[(0,iV (a:Int)),(1,iV (b:Int)),(2,iV (c0:Int))]/\H=Hx) (b0) ?_ ?_
 ·refine⟨_,_,_,⟨a0,b0,by omega,rfl,rfl,rfl⟩,Abs.by0 hbel ?_⟩
  exact ar
 rintro k0 F Hx ⟨a,b,hm0,hG,rfl,rfl⟩ J0 hJ0
 refine rcs G3 (fun h1 h1d G4=>?_) (fun h1 h1d G5=>?_)
 ·have hlt:a%b<b:=Nat.mod_lt _ (by omega)
  refine aa G4 ?_
  refine hJ0 _ _ ⟨a%b,by omega,_,_,_,⟨b,a%b,by omega,by rw[<-hG,iW],rfl,rfl⟩,Abs.by0 hbel ?_⟩
  exact ar
 obtain rfl:b=0:=by omega
 rw[Nat.gcd_zero_right] at hG
 refine aa G5 ?_
 refine glp (fun k F Hx=>∃a2:Nat,∃c:Nat,c=k/\Nat.gcd a2 c=Nat.gcd (Nat.gcd a0 b0) c0/\F=[(0,iV (a2:Int)),(2,iV (c:Int))]/\H=Hx) (c0) ?_ ?_
 ·refine⟨_,_,_,⟨a,c0,by omega,by rw[hG],rfl,rfl⟩,Abs.by0 hbel ?_⟩
  exact ar
 rintro k1 F Hx ⟨a2,c,hm1,hG,rfl,rfl⟩ J1 hJ1
 refine rcs G5 (fun h2 h2d G6=>?_) (fun h2 h2d G7=>?_)
 ·have hlt:a2%c<c:=Nat.mod_lt _ (by omega)
  refine aa G6 ?_
  refine hJ1 _ _ ⟨a2%c,by omega,_,_,_,⟨c,a2%c,by omega,by rw[<-hG,iW],rfl,rfl⟩,Abs.by0 hbel ?_⟩
  exact ar
 obtain rfl:c=0:=by omega
 rw[Nat.gcd_zero_right] at hG
 have hfing:=hG
 exact eS G7 hQ hbel (iV (a2:Int)) results237 ⟨congrArg (AV.int .i64) (by rw[hfing]),rfl⟩
theorem gcd_x (H:ac)(x y d:Int)(hd:0<=d):zC 237 [iV (x.natAbs:Int),iV (y.natAbs:Int),iV d] H (iV ((dw x y d:Nat):Int)) H:=by
 obtain⟨n,rfl⟩:=Int.eq_ofNat_of_zero_le hd
 have h:=gcd_n H x.natAbs y.natAbs n
 rw[<-gcd3_comm,Int.natAbs_natCast]
 exact h
theorem rlow_c (H:ac)(x y d:Int)(hd:0<d)(kbx : -1152921504606846976<=x/\x<=1152921504606846976)(kby : -1152921504606846976<=y/\y<=1152921504606846976)(kbd : -1152921504606846976<=d/\d<=1152921504606846976):zC 222 [iV x,iV y,iV d] H (.agg [iV ((dT x y d).1),iV ((dT x y d).2.1),iV ((dT x y d).2.2)]) H:=by
 refine AcT true func222 ?_;intro hbel Q hQ
 refine aC ?_
 refine cv (abs4_c _ x (by omega)) ?_
 refine aC ?_
 refine cv (abs4_c _ y (by omega)) ?_
 refine aC ?_
 refine cv (gcd_x _ x y d (by omega)) ?_
 have hg0:0<dw x y d:=mz (by omega)
 have t1:=eu (a:=x) (b:=((dw x y d:Nat):Int)) (by omega) (by omega)
 have t2:=eu (a:=y) (b:=((dw x y d:Nat):Int)) (by omega) (by omega)
 have t3:=eu (a:=d) (b:=((dw x y d:Nat):Int)) (by omega) (by omega)
 refine aC ?_
 exact eP hQ hbel (.agg [iV (Int.tdiv x ((dw x y d:Nat):Int)),iV (Int.tdiv y ((dw x y d:Nat):Int)),iV (Int.tdiv d ((dw x y d:Nat):Int))]) results222 ⟨rfl,rfl⟩
theorem low_c (H:ac)(x y d:Int)(hd:0<d)(kbx : -1152921504606846976<=x/\x<=1152921504606846976)(kby : -1152921504606846976<=y/\y<=1152921504606846976)(kbd : -1152921504606846976<=d/\d<=1152921504606846976):zC 231 [iV x,iV y,iV d] H (.agg [iV ((dT x y d).1),iV ((dT x y d).2.1),iV ((dT x y d).2.2)]) H:=by
 have hmx:(if x<0-x then 0-x else x)=(x.natAbs:Int):=by split<;>omega
 have hmy:(if y<0-y then 0-y else y)=(y.natAbs:Int):=by split<;>omega
 have hg00:((gst x y d 0:Nat):Int)=d:=by simp only[gst];omega
 have hg2:gst x y d 2=dw x y d:=rfl
 have hg0:0<dw x y d:=mz (by omega)
 have t1:=eu (a:=x) (b:=((dw x y d:Nat):Int)) (by omega) (by omega)
 have t2:=eu (a:=y) (b:=((dw x y d:Nat):Int)) (by omega) (by omega)
 have t3:=eu (a:=d) (b:=((dw x y d:Nat):Int)) (by omega) (by omega)
 refine AcT true func231 ?_;intro hbel Q hQ
 have G8:=jn @hmx (jn @hmy (jn @hg2 @oa))
 refine aa G8 ?_
 refine glp (fun k F Hx=>∃j:Nat,j+k=2/\F=[(0,iV x),(1,iV y),(2,iV d),(6,.ptr (some (H.length,0))),(7,iV ((gst x y d j:Nat):Int)),(13,.agg [iV x,iV y]),(14,iV (j:Int))]/\Hx=H++[.cells true 0 [iV 0,iV 0,iV 0]]) (2) ?_ ?_
 ·refine⟨_,_,_,⟨0,by omega,rfl,rfl⟩,bS hbel [0] (aF (jn @hg00 @Int.natCast_zero))⟩
 rintro k0 F Hx ⟨j,hm0,rfl,rfl⟩ J0 hJ0
 refine rcs G8 (fun h1 h1d _=>?_) (fun h1 h1d G15=>?_)
 ·obtain rfl|rfl:=(by omega:j=0\/j=1)
  ·have G9:=j2 h1 h1d G8
   refine aa G9 ?_
   refine glp (fun k F Hx=>∃a:Nat,∃b:Nat,b=k/\Nat.gcd a b=gst x y d (0+1)/\F=[(0,iV x),(1,iV y),(2,iV d),(6,.ptr (some (H.length,0))),(7,iV (a:Int)),(9,iV (b:Int)),(13,.agg [iV x,iV y]),(14,iV 0)]/\Hx=H++[.cells true 0 [iV 0,iV 0,iV 0]]) (nst x y 0) ?_ ?_
   ·refine⟨_,_,_,⟨gst x y d 0,nst x y 0,by omega,rfl,rfl,rfl⟩,bS hbel [0] (aF (jn @nst.eq_1 @nst.eq_2))⟩
   rintro k1 F Hx ⟨a,b,hm1,hG,rfl,rfl⟩ J1 hJ1
   refine rcs G9 (fun h2 h2d _=>?_) (fun h2 h2d _=>?_)
   ·have hlt:a%b<b:=Nat.mod_lt _ (by omega)
    have G10:=jn h2 (jn h2d (jn @aK (jn @aJ G9)))
    refine aa G10 ?_
    refine hJ1 _ _ ⟨a%b,by omega,_,_,_,⟨b,a%b,by omega,by rw[<-hG,iW],rfl,rfl⟩,bS hbel [0] (aF @h2d)⟩
   obtain rfl:b=0:=by omega
   rw[Nat.gcd_zero_right] at hG
   have G11:=jn h2 (jn h2d (jn @aK (jn @aJ G9)))
   refine aa G11 ?_
   refine hJ0 _ _ ⟨k0-1,by omega,_,_,_,⟨0+1,by omega,rfl,rfl⟩,bS hbel [0] (aF (jn @hG @h2d))⟩
  have G12:=j2 h1 h1d G8
  refine aa G12 ?_
  refine glp (fun k F Hx=>∃a:Nat,∃b:Nat,b=k/\Nat.gcd a b=gst x y d (1+1)/\F=[(0,iV x),(1,iV y),(2,iV d),(6,.ptr (some (H.length,0))),(7,iV (a:Int)),(9,iV (b:Int)),(13,.agg [iV x,iV y]),(14,iV 1)]/\Hx=H++[.cells true 0 [iV 0,iV 0,iV 0]]) (nst x y 1) ?_ ?_
  ·refine⟨_,_,_,⟨gst x y d 1,nst x y 1,by omega,rfl,rfl,rfl⟩,bS hbel [0] (aF (jn @nst.eq_1 @nst.eq_2))⟩
  rintro k1 F Hx ⟨a,b,hm1,hG,rfl,rfl⟩ J1 hJ1
  refine rcs G12 (fun h3 h3d _=>?_) (fun h3 h3d _=>?_)
  ·have hlt:a%b<b:=Nat.mod_lt _ (by omega)
   have G13:=jn h3 (jn h3d (jn @aK (jn @aJ G12)))
   refine aa G13 ?_
   refine hJ1 _ _ ⟨a%b,by omega,_,_,_,⟨b,a%b,by omega,by rw[<-hG,iW],rfl,rfl⟩,bS hbel [0] (aF @h3d)⟩
  obtain rfl:b=0:=by omega
  rw[Nat.gcd_zero_right] at hG
  have G14:=jn h3 (jn h3d (jn @aK (jn @aJ G12)))
  refine aa G14 ?_
  refine hJ0 _ _ ⟨k0-1,by omega,_,_,_,⟨1+1,by omega,rfl,rfl⟩,bS hbel [0] (aF (jn @hG @h3d))⟩
 obtain rfl:j=2:=by omega
 skip
 exact eR G15 hQ hbel (.agg [iV (Int.tdiv x ((dw x y d:Nat):Int)),iV (Int.tdiv y ((dw x y d:Nat):Int)),iV (Int.tdiv d ((dw x y d:Nat):Int))]) results231 ⟨rfl,rfl⟩
theorem dir_c (H:ac)(h:Int):zC 211 [iV h] H (.agg [iV ((cG h).1),iV ((cG h).2.1),iV ((cG h).2.2)]) H:=by
 have hK:((h%256).toNat%64)<64:=Nat.mod_lt _ (by decide)
 have hN:((h%256).toNat/64)<=3:=by omega
 have hkk:=aP (a:=((((h%256).toNat%64):Nat):Int)) (b:=((((h%256).toNat%64):Nat):Int)) (A:=63) (B:=63) (by omega) (by omega)
 refine AcT true func211 ?_;intro hbel Q hQ
 have G16:=jn @rem_n64 @quo_n64
 refine aa G16 ?_
 refine cvr G16 (lc _ h) ?_
 refine cvr G16 (low_c _ _ _ _ (by omega) (by omega) (by omega) (by omega)) ?_
 refine glp (fun k F Hx=>∃n:Nat,n+k=((h%256).toNat/64)/\F=[(2,.ptr (some (H.length,0))),(4,.ptr (some (H.length+1,0))),(21,iV ((((h%256).toNat)/64:Nat):Int)),(22,iV (n:Int))]/\Hx=H++[.cells true 0 [iV 0,iV 0,iV 0],.cells true 0 [iV ((rotN (dir0 ((h%256).toNat%64)) n).1),iV ((rotN (dir0 ((h%256).toNat%64)) n).2.1),iV ((dT (4096-(((((h%256).toNat)%64:Nat):Int)*((((h%256).toNat)%64:Nat):Int))) (128*((((h%256).toNat)%64:Nat):Int)) (4096+(((((h%256).toNat)%64:Nat):Int)*((((h%256).toNat)%64:Nat):Int)))).2.2)]]) (((h%256).toNat/64)) ?_ ?_
 ·refine⟨_,_,_,⟨0,by omega,rfl,rfl⟩,bS hbel [0,1] (aF (jn @rotN.eq_1 @dir0.eq_1))⟩
 rintro k0 F Hx ⟨n,hm0,rfl,rfl⟩ J0 hJ0
 refine rcs G16 (fun h1 h1d G17=>?_) (fun h1 h1d G18=>?_)
 ·have hro:=df.1 (rot_ok (dir0_ok hK) n)
  refine aa G17 ?_
  refine hJ0 _ _ ⟨k0-1,by omega,_,_,_,⟨n+1,by omega,rfl,rfl⟩,bS hbel [0,1] (aF (jn @rotN.eq_2 @Int.zero_sub))⟩
 have hfinn:n=((h%256).toNat/64):=by omega
 exact eR G18 hQ hbel (.agg [iV ((rotN (dir0 ((h%256).toNat%64)) n).1),iV ((rotN (dir0 ((h%256).toNat%64)) n).2.1),iV ((dT (4096-(((((h%256).toNat)%64:Nat):Int)*((((h%256).toNat)%64:Nat):Int))) (128*((((h%256).toNat)%64:Nat):Int)) (4096+(((((h%256).toNat)%64:Nat):Int)*((((h%256).toNat)%64:Nat):Int)))).2.2)]) results211 ⟨by subst hfinn;rw[show cG h=rotN (dir0 ((h%256).toNat%64)) ((h%256).toNat/64) from rfl,rotN_D];rfl,rfl⟩
theorem rdir_c (H:ac)(h:Int):zC 184 [iV h] H (.agg [iV ((cG h).1),iV ((cG h).2.1),iV ((cG h).2.2)]) H:=by
 have hK:((h%256).toNat%64)<64:=Nat.mod_lt _ (by decide)
 have hN:((h%256).toNat/64)<=3:=by omega
 have hkk:=aP (a:=((((h%256).toNat%64):Nat):Int)) (b:=((((h%256).toNat%64):Nat):Int)) (A:=63) (B:=63) (by omega) (by omega)
 refine AcT true func184 ?_;intro hbel Q hQ
 have G19:=jn @rem_n64 @quo_n64
 refine aa G19 ?_
 refine cvr G19 (lb _ h _ (by omega) (by omega)) ?_
 refine cvr G19 (rlow_c _ _ _ _ (by omega) (by omega) (by omega) (by omega)) ?_
 refine glp (fun k F Hx=>∃n:Nat,n+k=((h%256).toNat/64)/\F=[(0,iV (((h%256).toNat:Nat):Int)),(2,.ptr (some (H.length,0))),(4,.ptr (some (H.length+1,0))),(5,iV (n:Int))]/\Hx=H++[.cells true 0 [iV 0,iV 0,iV 0],.cells true 0 [iV ((rotN (dir0 ((h%256).toNat%64)) n).1),iV ((rotN (dir0 ((h%256).toNat%64)) n).2.1),iV ((dT (4096-(((((h%256).toNat)%64:Nat):Int)*((((h%256).toNat)%64:Nat):Int))) (128*((((h%256).toNat)%64:Nat):Int)) (4096+(((((h%256).toNat)%64:Nat):Int)*((((h%256).toNat)%64:Nat):Int)))).2.2)]]) (((h%256).toNat/64)) ?_ ?_
 ·refine⟨_,_,_,⟨0,by omega,rfl,rfl⟩,bS hbel [0,1] (aF (jn @rotN.eq_1 @dir0.eq_1))⟩
 rintro k0 F Hx ⟨n,hm0,rfl,rfl⟩ J0 hJ0
 refine rcs G19 (fun h1 h1d G20=>?_) (fun h1 h1d G21=>?_)
 ·have hro:=df.1 (rot_ok (dir0_ok hK) n)
  refine aa G20 ?_
  refine hJ0 _ _ ⟨k0-1,by omega,_,_,_,⟨n+1,by omega,rfl,rfl⟩,bS hbel [0,1] (aF (jn @rotN.eq_2 @Int.zero_sub))⟩
 have hfinn:n=((h%256).toNat/64):=by omega
 exact eR G21 hQ hbel (.agg [iV ((rotN (dir0 ((h%256).toNat%64)) n).1),iV ((rotN (dir0 ((h%256).toNat%64)) n).2.1),iV ((dT (4096-(((((h%256).toNat)%64:Nat):Int)*((((h%256).toNat)%64:Nat):Int))) (128*((((h%256).toNat)%64:Nat):Int)) (4096+(((((h%256).toNat)%64:Nat):Int)*((((h%256).toNat)%64:Nat):Int)))).2.2)]) results184 ⟨by subst hfinn;rw[show cG h=rotN (dir0 ((h%256).toNat%64)) ((h%256).toNat/64) from rfl,rotN_D];rfl,rfl⟩
def ptB (x y:Int):Bool:=cR x 1048576&&cR y 1048576
def fL (x0 y0 x1 y1:Int):Bool:=decide (x0<=x1)&&(decide (y0<=y1)&&(ptB x0 y0&&ptB x1 y1))
def rgtB (x0 y0 x1 y1:Int):Bool:=decide (-1048576<=x0)&&(decide (x0<=x1)&&(decide (x1<=1048576)&&(decide (-1048576<=y0)&&(decide (y0<=y1)&&decide (y1<=1048576)))))
theorem iX {x0 y0 x1 y1:Int}:fL x0 y0 x1 y1=true↔(-1048576<=x0/\x0<=x1/\x1<=1048576)/\(-1048576<=y0/\y0<=y1/\y1<=1048576):=by
 unfold fL ptB;simp only[Bool.and_eq_true,decide_eq_true_eq,bx];omega
theorem rgtB_eq (x0 y0 x1 y1:Int):rgtB x0 y0 x1 y1=fL x0 y0 x1 y1:=by
 rw[Bool.eq_iff_iff,iX];unfold rgtB;simp only[Bool.and_eq_true,decide_eq_true_eq];omega
def spl (a:Int):Int:=0-(0-a)/64-1
def sph (b:Int):Int:=b/64
def cu (a b:Int):Nat:=(sph b-spl a+1).toNat
theorem od {p:Int->Int->Bool}{x0 y0:Int}{w n:Nat}:be p x0 w y0 (n+1)=be p x0 w y0 n++rowR p x0 (y0+n) w:=rfl
theorem oe {p:Int->Int->Bool}{x0 y0:Int}{w:Nat}:be p x0 w y0 0=[]:=rfl
theorem rowR_0 {p:Int->Int->Bool}{x0 y:Int}:rowR p x0 y 0=[]:=rfl
def arN (a b:Int):Nat:=(b/64+1-(a/64-1)+1).toNat
def fk {α:Type}(p:α->Bool) (l:List α):Int:=if l.any p=true then ((l.findIdx p:Nat):Int) else -1
theorem iA {α:Type}{p:α->Bool}{l:List α}{i:Nat}(hi:i<l.length)(h0:(l.take i).any p=false)(h1:p l[i]=true):fk p l=(i:Int):=by
 have ha:l.any p=true:=List.any_eq_true.2 ⟨l[i],List.getElem_mem hi,h1⟩
 have hf:l.findIdx p=i:=(List.findIdx_eq hi).2 ⟨h1,fun j hj=>by
  have:=List.any_eq_false.1 h0 l[j] (by rw[List.mem_take_iff_getElem];exact⟨j,by omega,rfl⟩)
  simpa using this⟩
 unfold fk;rw[if_pos ha,hf]
theorem fl {α:Type}{p:α->Bool}{l:List α}(h:l.any p=false):fk p l = -1:=by
 unfold fk;rw[if_neg (by simp[h])]
theorem kg {α:Type}{p:α->Bool}{l:List α}:decide (0<=fk p l)=l.any p:=by
 cases h:l.any p
 ·rw[fl h];rfl
 unfold fk;rw[if_pos h];exact decide_eq_true (by omega)
theorem rL {α:Type}(p:α->Bool)(l:List α):(fk p l = -1/\l.any p=false)\/∃i:Nat,∃hi:i<l.length,fk p l=(i:Int)/\(l.take i).any p=false/\p l[i]=true:=by
 cases h:l.any p
 ·exact .inl ⟨fl h,rfl⟩
 right
 have hl:l.findIdx p<l.length:=List.findIdx_lt_length_of_exists (by simpa using h)
 have h1:p l[l.findIdx p]=true:=List.findIdx_getElem
 have h0:(l.take (l.findIdx p)).any p=false:=List.any_eq_false.2 fun x hx=>by
  obtain⟨j,hj,rfl⟩:=List.mem_take_iff_getElem.1 hx
  have:=List.not_of_lt_findIdx (p:=p) (xs:=l) (i:=j) (by omega)
  simpa using this
 exact⟨_,hl,iA hl h0 h1,h0,h1⟩
theorem bC {l:List (Int×Int)}{j:Nat}(h:j<l.length):(g1 l j,g2 l j)=l[j]:=by
 simp[g1,g2,h,List.getD_eq_getElem?_getD]
theorem gi_eq {l:List Int}{j:Nat}(h:j<l.length):(gi l j)=l[j]:=by
 simp[gi,h,List.getD_eq_getElem?_getD]
theorem iY {α:Type}{l:List α}{p:α->Bool}{i:Nat}(h:i<l.length):(l.take (i+1)).any p=((l.take i).any p||p l[i]):=by
 rw[List.take_succ_eq_append_getElem h,List.any_append];simp
theorem gI {n m:Nat}{sel:List Nat}{caps:List AV}(h:AV.bels n caps=true):AV.mvs (sig n m sel) caps=caps:=jG (fun b hb=>iP hb) caps h
set_option maxRecDepth 100000 in
theorem idx_cell (H:ac)(s:AV)(l:List (Int×Int))(hs:SlP H s l)(hl:l.length<=1000000000)(g:FuncId)(caps:List AV)(hok:dB prog g=true)(hc:AV.bels H.length caps=true)(p:(Int×Int)->Bool)(hf:∀j,j<l.length->ACalls prog g (.agg [.int .i64 (g1 l j),.int .i64 (g2 l j)]::caps) H (fun v H'=>v=.bool (p (g1 l j,g2 l j))/\H'=H)):
  ACalls prog 128 [s,.fn g caps] H (fun v H'=>v=.int .i64 (fk p l)/\H'=H):=by
 obtain⟨b,own,cap,rfl,hb⟩:=hs
 have hbl:=getElem?_lt hb
 have hmv:=fun m sel=>gI (n:=H.length) (m:=m) (sel:=sel) hc
 (refine co try_mixed func128 true _ rfl (Nat.le_of_ble_eq_true (by kernel_rfl)) (by kernel_rfl) ?_;intro hbel Q hQ hQ' c hc;unfold Tryz.f128 at hc;simp only[Option.some.injEq] at hc;subst hc;clear hQ')
 simp -implicitDefEqProofs (disch:=omega) only [simprocAttr,aG,aH,Function.comp_apply,one1,lenV,ak,ay,az,aop,AV.ofValue,AV.ofCell,AV.cells,AV.flat,AV.one,arep,aT,av,aE]
 refine glp (fun k F Hx=>∃i:Nat,i+k=l.length/\(l.take i).any p=false/\F=[(0,.sl (some (b,0)) l.length none),(1,.fn g caps),(7,.int .i64 l.length),(8,.int .i64 (i:Nat))]/\Hx=H) l.length ?_ ?_
 ·refine⟨_,_,_,⟨0,by omega,rfl,rfl,rfl⟩,Abs.by0 hbel ?_⟩
  exact aF @hmv
 rintro k F Hx ⟨i,hik,ht,rfl,rfl⟩ J hJ
 by_cases hi:i<l.length
 ·have hii:(i:Int)<(l.length:Int):=by omega
  have q1:=bN hi
  have hg:=bC hi
  simp -implicitDefEqProofs (disch:=omega) only [hii,hb,q1,ba,cp,simprocAttr,aG,aH,Function.comp_apply,one1,lenV,ak,ay,az,aop,AV.ofValue,AV.ofCell,AV.cells,AV.flat,AV.one,arep,aT,av,aE]
  iterate 2 refine And.intro (by omega) ?_
  refine dW hok (hf i hi) ?_
  have hst:=iY (p:=p) hi
  rw[ht,Bool.false_or,<-hg] at hst
  cases h1:p (g1 l i,g2 l i)
  ·rw[h1] at hst
   simp -implicitDefEqProofs (disch:=omega) only [h1,simprocAttr,aG,aH,Function.comp_apply,one1,lenV,ak,ay,az,aop,AV.ofValue,AV.ofCell,AV.cells,AV.flat,AV.one,arep,aT,av,aE]
   refine hJ _ _ ⟨k-1,by omega,_,_,_,⟨i+1,by omega,hst,rfl,rfl⟩,Abs.by0 hbel ?_⟩
   exact aF @hmv
  simp -implicitDefEqProofs (disch:=omega) only [h1,simprocAttr,aG,aH,Function.comp_apply,one1,lenV,ak,ay,az,aop,AV.ofValue,AV.ofCell,AV.cells,AV.flat,AV.one,arep,aT,av,aE]
  exact eQ hQ hbel (.int .i64 (i:Nat)) results128 ⟨by rw[iA hi ht (by rw[<-hg];exact h1)],rfl⟩
 have hnn:¬((i:Int)<(l.length:Int)):=by omega
 simp -implicitDefEqProofs (disch:=omega) only [hnn,simprocAttr,aG,aH,Function.comp_apply,one1,lenV,ak,ay,az,aop,AV.ofValue,AV.ofCell,AV.cells,AV.flat,AV.one,arep,aT,av,aE]
 rw[List.take_of_length_le (by omega)] at ht
 exact eQ hQ hbel (.int .i64 (-1)) results128 ⟨by rw[fl ht],rfl⟩
theorem qw {l:List (Int×Int)}{j:Nat}{a b:Int}(h:j<l.length):((prs l).set (j*2) (.int .i64 a)).set (j*2+1) (.int .i64 b)=prs (l.set j (a,b)):=by
 induction l generalizing j with
 |nil=>simp at h
 | cons p l ih =>
  cases j with
  |zero=>simp[cJ]
  | succ j =>
   have e1:(j+1)*2=(j*2).succ.succ:=by omega
   have e2:(j+1)*2+1=(j*2+1).succ.succ:=by omega
   rw[cJ,e2,e1]
   show _::_::((prs l).set (j*2) (.int .i64 a)).set (j*2+1) (.int .i64 b)=_
   rw[ih (by simpa using h)]
   rfl
theorem prs_rep {m:Nat}:prs (List.replicate m (0,0))=(List.range (m*2)).map fun j=>([.int .i64 0,.int .i64 0]:List AV).getD (j%2) .any:=by
 induction m with
 |zero=>rfl
 | succ m ih =>
  have e:List.replicate (m+1) ((0:Int),(0:Int))=List.replicate m (0,0)++[(0,0)]:=by rw[List.replicate_succ']
  rw[e,dX,ih,Nat.succ_mul,List.range_succ,List.range_succ,List.map_append,List.map_append]
  have e1:m*2%2=0:=by omega
  have e2:(m*2+1)%2=1:=by omega
  simp[cJ,eY,e1,e2]
theorem jC:∀(ys xs:List AV) (o:Nat),o+ys.length=xs.length->splice xs o ys=xs.take o++ys
 | [],xs,o,h=>by
  rw[splice,List.append_nil,List.take_of_length_le]
  simp at h;omega
 | y::ys,xs,o,h=>by
  rw[splice,jC ys _ _ (by simp at h ⊢;omega)]
  simp only[List.length_cons] at h
  have ho:o<xs.length:=by omega
  rw[List.take_succ_eq_append_getElem (by simpa using ho),List.getElem_set_self,List.take_set_of_le (Nat.le_refl _)]
  simp
theorem no {l ys:List (Int×Int)}{i:Nat}(h:i+ys.length=l.length):splice (prs l) (i*2) (prs ys)=prs (l.take i++ys):=by
 rw[jC _ _ _ (by rw[ba,ba];omega),eI,dX]
theorem fU {k:IntKind}{l:List Int}{j:Nat}{a:Int}:(ints k l).set j (.int k a)=ints k (l.set j a):=ml
theorem fM {n:Nat}:∀{l:List (Int×Int)},AV.bels n (prs l)=true
 |[]=>rfl
 |p::l=>by rw[cJ];simp only[AV.bels,AV.bel,Bool.true_and];exact fM
theorem HBel.put {n:Nat}{H:ac}(h:HBel n H)(b:Nat){x:ABlk}(hx:x.bel n=true):HBel n (H.set b x):=fun c y hy=>by
 rw[List.getElem?_set] at hy
 split at hy
 ·split at hy
  ·simp at hy;subst hy;exact hx
  cases hy
 exact h c y hy
theorem Abs.byS0 {H0:ac}{F1 F2:Fr}{n:Nat}(hn:H0.length=n)(hsc:HBel n H0)(h:fi n (sig n 0 []) F1 F2):Abs n (sig n 0 []) F1 H0 F2 H0:=by
 subst hn;exact Abs.by0 hsc h
theorem Abs.byS1 {H0 l1:ac}{F1 F2:Fr}{n:Nat}(hn:H0.length=n)(hsc:HBel n H0)(h:fi (n+l1.length) (sig n l1.length []) F1 F2):Abs n (sig n l1.length []) F1 (H0++l1) F2 H0:=by
 subst hn;exact Abs.byN hsc h
theorem Abs.by0e {H0 H2:ac}{F1 F2:Fr}(e:H2=H0)(hsc:HBel H0.length H0)(h:fi H0.length (sig H0.length 0 []) F1 F2):Abs H0.length (sig H0.length 0 []) F1 H0 F2 H2:=by
 subst e;exact Abs.by0 hsc h
theorem end_byS {P:Program}{fn:Func}{H0:ac}{R:AV->ac->Prop}{F:Fr}{e:Exit}{n:Nat}(hn:H0.length=n)(he:e=.ret\/e=.normal)(hbel:HBel n H0){x1:AV}(x2:AV)(hx:dp P fn F H0=some x1)(hR:R x2 H0)(h:W n x1 (x2.mv (sig n 0 []))):dE P fn n R e F H0:=by
 subst hn
 exact ly (l2:=[]) he hbel x2 hx [] rfl [] (by simp) (by rw[List.append_nil];exact hR) ⟨h,trivial⟩
def bE {α:Type}(p:α->Bool) (l:List α):List α:=l.filter fun e=>!p e
theorem ld {α:Type}{p:α->Bool}{l:List α}(h:l.any p=false):bE p l=l:=by
 unfold bE
 rw[List.filter_eq_self]
 intro a ha
 have:=List.any_eq_false.1 h a ha
 simpa using this
theorem ju {α:Type}{p:α->Bool}{l:List α}{j:Nat}(h:j<l.length):bE p (l.take (j+1))=bE p (l.take j)++(if p l[j]=true then [] else [l[j]]):=by
 unfold bE
 rw[List.take_succ_eq_append_getElem h,List.filter_append]
 congr 1
 cases hp:p l[j]<;>simp[hp]
theorem delL_nil {α:Type}{p:α->Bool}:bE p ([]:List α)=[]:=rfl
theorem og {α:Type}{p:α->Bool}{l:List α}:(bE p l).length<=l.length:=List.length_filter_le _ _
theorem delL_tk {α:Type}{p:α->Bool}{l:List α}{j:Nat}(h:j<=l.length):(bE p (l.take j)).length<=j:=by
 have:=og (p:=p) (l:=l.take j)
 rw[List.length_take] at this;omega
def eo (n:Nat) (l:List (Int×Int)):List (Int×Int):=l++List.replicate (n-l.length) (0,0)
theorem iZ {n:Nat}{l:List (Int×Int)}:prs (eo n l)=prs l++prs (List.replicate (n-l.length) (0,0)):=dX
set_option maxRecDepth 100000 in
theorem del_cell (H:ac) (b:Nat) (cap:Option Nat) (l:List (Int×Int)) (hb:H[b]? = some (.cells (aI l.length) 2 (prs l))) (hl:l.length<=1000000000) (g:FuncId) (caps:List AV) (hok:dB prog g=true) (hc:AV.bels H.length caps=true) (p:(Int×Int)->Bool)
  (hf:∀(X:List (Int×Int)) (e:Int×Int) (L:ac),e∈l->ACalls prog g (.agg [.int .i64 e.1,.int .i64 e.2]::caps) (H.set b (.cells (aI l.length) 2 (prs X))++L) (fun v H'=>v=.bool (p e)/\H'=H.set b (.cells (aI l.length) 2 (prs X))++L)) :
  ACalls prog 83 [.sl (some (b,0)) l.length cap,.fn g caps] H (fun v H'=>v=.sl (some (b,0)) (bE p l).length none/\H'=H.set b (.cells (aI l.length) 2 (prs (eo l.length (bE p l))))):=by
 have hbl:=getElem?_lt hb
 have hset:∀X L,(H.set b X++L)[b]? = some X:=fun X L=>by rw[List.getElem?_append_left (by simpa using hbl),List.getElem?_set_self hbl]
 have hset0:∀X,(H.set b X)[b]? = some X:=fun X=>List.getElem?_set_self hbl
 have hself:H.set b (.cells (aI l.length) 2 (prs l))=H:=by
  refine List.ext_getElem? fun i=>?_
  rw[List.getElem?_set]
  split
  ·rename_i e;subst e;first|exact hb.symm|(rw[if_pos hbl];exact hb.symm)
  rfl
 have hmv:=fun m sel=>gI (n:=H.length) (m:=m) (sel:=sel) hc
 have key:=idx_cell H (.sl (some (b,0)) l.length cap) l ⟨b,_,cap,rfl,hb⟩ hl g caps hok hc p (fun j hj=>by
  have:=hf l (g1 l j,g2 l j) [] (by rw[bC hj];exact List.getElem_mem hj)
  rw[List.append_nil,hself] at this
  exact this)
 (refine co try_mixed func83 true _ rfl (Nat.le_of_ble_eq_true (by kernel_rfl)) (by kernel_rfl) ?_;intro hbel Q hQ hQ' c hc;unfold Tryz.f83 at hc;simp only[Option.some.injEq] at hc;subst hc;clear hQ')
 simp -implicitDefEqProofs (disch:=omega) only [simprocAttr,aG,aH,Function.comp_apply,one1,lenV,ak,ay,az,aop,AV.ofValue,AV.ofCell,AV.cells,AV.flat,AV.one,arep,aT,av,aE]
 refine dW (by kernel_rfl) key ?_
 rcases rL p l with ⟨h1,h2⟩|⟨i,hi,h1,h2,h3⟩
 ·rw[h1]
  simp -implicitDefEqProofs (disch:=omega) only [simprocAttr,aG,aH,Function.comp_apply,one1,lenV,ak,ay,az,aop,AV.ofValue,AV.ofCell,AV.cells,AV.flat,AV.one,arep,aT,av,aE]
  have e:H.set b (.cells (aI l.length) 2 (prs (eo l.length (bE p l))))=H:=by rw[ld h2];simp[eo,hself]
  exact hQ _ _ (ly (.inl rfl) hbel (x1:=.sl (some (b,0)) l.length cap) (l2:=[]) (.sl (some (b,0)) (bE p l).length none) (aU results83) [] rfl [] (by decide) ⟨rfl,by rw[List.append_nil,e]⟩ (by rw[ld h2];exact ar))
 rw[h1]
 have hne:((i:Int) == -1)=false:=beq_eq_false_iff_ne.2 (by omega)
 have hown:aI l.length=true:=dD (by omega)
 rw[hown] at hb hf hself
 simp -implicitDefEqProofs (disch:=omega) only [hne,simprocAttr,aG,aH,Function.comp_apply,one1,lenV,ak,ay,az,aop,AV.ofValue,AV.ofCell,AV.cells,AV.flat,AV.one,arep,aT,av,aE]
 have hd0:bE p (l.take (i+1))=l.take i:=by rw[ju hi,if_pos h3,List.append_nil,ld h2]
 have hdi:(bE p (l.take (i+1))).length=i:=by rw[hd0,List.length_take];omega
 refine glp (fun k F Hx=>∃(j:Nat) (X:List (Int×Int)),j+k=l.length/\(bE p (l.take j)).length<j/\X.length=l.length/\X.take (bE p (l.take j)).length=bE p (l.take j)/\X.drop j=l.drop j/\F=[(0,.sl (some (b,0)) l.length cap),(1,.fn g caps),(5,.int .i64 (((bE p (l.take j)).length:Nat):Int)),(6,.int .i64 (j:Int))]/\Hx=H.set b (.cells true 2 (prs X))) (l.length-(i+1)) ?_ ?_
 ·refine⟨_,_,_,⟨i+1,l,by omega,by rw[hdi];omega,rfl,by rw[hd0,List.length_take,Nat.min_eq_left (by omega)],rfl,rfl,rfl⟩,Abs.by0e hself hbel ?_⟩
  exact aF (jn @hdi @hmv)
 rintro k F Hx ⟨j,X,hjk,hij,hXl,hXt,hXd,rfl,rfl⟩ J hJ
 obtain⟨G,hG⟩:∃G,G=H.set b (.cells true 2 (prs X)):=⟨_,rfl⟩
 have hGl:G.length=H.length:=by rw[hG,List.length_set]
 have hG1:∀L,(G++L)[b]? = some (.cells true 2 (prs X)):=fun L=>by rw[hG];exact hset _ _
 have hG0:G[b]? = some (.cells true 2 (prs X)):=by rw[hG];exact hset0 _
 have hbG:b<G.length:=by omega
 have hGs:∀Y L,(G++L).set b Y=H.set b Y++L:=fun Y L=>by rw[List.set_append_left _ _ hbG,hG,List.set_set]
 have hcall:=fun e L=>hf X e L
 rw[<-hG] at hcall ⊢
 have hbelG:HBel H.length G:=by rw[hG];exact HBel.put hbel b fM
 obtain⟨n,hn⟩:∃n,n=(bE p (l.take j)).length:=⟨_,rfl⟩
 have hnj:n<j:=by rw[hn];exact hij
 rw[<-hn] at hXt ⊢
 by_cases hj:j<l.length
 ·have hjj:(j:Int)<(l.length:Int):=by omega
  have hXj:X[j]'(by omega)=l[j]:=by
   have:=congrArg (fun m=>m[0]?) hXd
   simpa [hj,hXl] using this
  have q1:=bN (l:=X) (j:=j) (by omega)
  have hg:=bC (l:=X) (j:=j) (by omega)
  simp -implicitDefEqProofs (disch:=omega) only [hjj,hG1,hG0,q1,ba,cp,simprocAttr,aG,aH,Function.comp_apply,one1,lenV,ak,ay,az,aop,AV.ofValue,AV.ofCell,AV.cells,AV.flat,AV.one,arep,aT,av,aE]
  iterate 2 refine And.intro (by omega) ?_
  refine dW hok (hcall (g1 X j,g2 X j) _ (by rw[hg,hXj];exact List.getElem_mem hj)) ?_
  have hst:=ju (p:=p) hj
  rw[<-hXj,<-hg] at hst
  cases h5:p (g1 X j,g2 X j)
  ·rw[h5,if_neg Bool.false_ne_true] at hst
   have hl5:(bE p (l.take (j+1))).length=n+1:=by rw[hst,List.length_append,hn];rfl
   have hnX:n<X.length:=by omega
   have hp2:=qw (a:=g1 X j) (b:=g2 X j) hnX
   simp -implicitDefEqProofs (disch:=omega) only [h5,hG1,hG0,hGs,hp2,ba,cp,simprocAttr,aG,aH,Function.comp_apply,one1,lenV,ak,ay,az,aop,AV.ofValue,AV.ofCell,AV.cells,AV.flat,AV.one,arep,aT,av,aE]
   iterate 2 refine And.intro (by omega) ?_
   refine hJ _ _ ⟨k-1,by omega,_,_,_,⟨j+1,X.set n (g1 X j,g2 X j),by omega,by rw[hl5];omega,by rw[List.length_set];exact hXl,?_,?_,rfl,rfl⟩,Abs.byS1 (by rw[List.length_set]) (HBel.put hbel b fM) ?_⟩
   ·rw[hl5,hst,List.take_succ_eq_append_getElem (by rw[List.length_set];exact hnX),List.getElem_set_self,List.take_set_of_le (Nat.le_refl _),hXt]
   ·rw[List.drop_set_of_lt (by omega),<-List.drop_drop,hXd,List.drop_drop]
   exact aF (jn @hl5 (jn @hmv (jn @Int.natCast_add @Int.natCast_one)))
  rw[h5,if_pos rfl,List.append_nil] at hst
  have hl5:(bE p (l.take (j+1))).length=n:=by rw[hst,hn]
  simp -implicitDefEqProofs (disch:=omega) only [h5,simprocAttr,aG,aH,Function.comp_apply,one1,lenV,ak,ay,az,aop,AV.ofValue,AV.ofCell,AV.cells,AV.flat,AV.one,arep,aT,av,aE]
  refine hJ _ _ ⟨k-1,by omega,_,_,_,⟨j+1,X,by omega,by rw[hl5];omega,hXl,by rw[hst,<-hn];exact hXt,by rw[<-List.drop_drop,hXd,List.drop_drop],rfl,hG⟩,Abs.byS1 hGl hbelG ?_⟩
  exact aF (jn @hl5 @hmv)
 have hjj:¬((j:Int)<(l.length:Int)):=by omega
 have hrep:=(prs_rep (m:=l.length-n)).symm
 have hne0:(l.length-n==0)=false:=beq_eq_false_iff_ne.2 (by omega)
 have hspl:=no (l:=X) (ys:=List.replicate (l.length-n) (0,0)) (i:=n) (by rw[List.length_replicate];omega)
 have hGs0:∀Y,G.set b Y=H.set b Y:=fun Y=>by rw[hG,List.set_set]
 rw[hXt] at hspl
 simp -implicitDefEqProofs (disch:=omega) only [hjj,hG1,hG0,hrep,hne0,hspl,hGs0,ba,cp,List.length_replicate,hset0,simprocAttr,aG,aH,Function.comp_apply,one1,lenV,ak,ay,az,aop,AV.ofValue,AV.ofCell,AV.cells,AV.flat,AV.one,arep,aT,av,aE]
 refine⟨by omega,⟨by omega,.inl (Nat.le_refl _)⟩,by omega,by omega,⟨by omega,.inl (by omega)⟩,?_⟩
 obtain rfl:j=l.length:=by omega
 rw[List.take_length] at hn ⊢
 refine hQ _ _ (end_byS (by rw[List.length_set]) (.inl rfl) (HBel.put hbel b fM) (x1:=.sl (some (b,0)) (n-0) (Option.map (fun x=>x-0) cap)) (.sl (some (b,0)) (bE p l).length none) (aU results83) ⟨rfl,by rw[hown,hn];rfl⟩ ?_)
 exact aF (jn @hn @Nat.sub_zero)
def bZ (f c:Int):Bool:=decide (0<=f)&&(decide (f<256)&&(decide (1<=c)&&(decide (c<=256)&&(decide (f=0)||decide (c<256)))))
theorem bh {f c:Int}:bZ f c=true↔(0<=f/\f<256)/\(1<=c/\c<=256)/\(f=0\/c<256):=by
 unfold bZ
 simp only[Bool.and_eq_true,Bool.or_eq_true,decide_eq_true_eq]
 omega
def gq (f c:Int):Int:=if 256<=c then 0 else f%256
def ce (c:Int):Int:=if 256<=c then 256 else c
theorem fV {f c:Int}(h:1<=c):bZ (gq f c) (ce c)=true:=by
 rw[bh];unfold gq ce;split<;>omega
def aw (f:Int) (n:Nat):List Int:=(List.range n).map fun (i:Nat)=>(f+(i:Int))%256
theorem dm (f:Int)(n:Nat):(aw f n).length=n:=by simp[aw]
theorem pr (f:Int)(n:Nat):aw f (n+1)=aw f n++[(f+(n:Int))%256]:=by
 unfold aw;rw[List.range_succ,List.map_append];rfl
theorem oh {f:Int}{n:Nat}:∀e∈aw f n,0<=e/\e<=255:=fun e he=>by
 unfold aw at he
 obtain⟨i,-,rfl⟩:=List.mem_map.1 he
 omega
def cC (s f c:Int):Int:=(f-s)%256+c
def lE (f c m:Int):Prop:=(m-f)%256<c
instance (f c m:Int):Decidable (lE f c m):=by unfold lE;exact inferInstance
def eM (s n bf bn:Int):Int×Int:=if n<bn\/(n=bn/\n<256/\s<bf) then (s,n) else (bf,bn)
def bM (f c f' c':Int):Int×Int :=
 let p:=eM f (max (cC f f c) (cC f f' c')) 0 256
 eM f' (max (cC f' f c) (cC f' f' c')) p.1 p.2
def needN (x:Int->Bool) (s:Int):Nat->Int
 |0=>0
 |n+1=>if x ((s+(n:Int))%256)=true then (n:Int)+1 else needN x s n
def bestN (x:Int->Bool):Nat->Int×Int
 |0=>(0,256)
 | n+1 =>
  let p:=bestN x n
  let s:Int:=255-(n:Int)
  let m:=needN x s 256
  if m<256/\m<=p.2 then (s,m) else p
theorem mA (x:Int->Bool)(s:Int):∀n:Nat,0<=needN x s n/\needN x s n<=n
 |0=>by simp[needN]
 | n+1=>by
  have:=mA x s n
  rw[needN];split<;>omega
theorem mB {x:Int->Bool}{s:Int}{m:Nat}(hm:x ((s+(m:Int))%256)=true):∀n:Nat,m<n->(∀i:Nat,m<i->i<n->x ((s+i)%256)=false)->needN x s n=m+1
 |0,h,_=>by omega
 | n+1,h,k=>by
  rw[needN]
  rcases Nat.lt_or_ge m n with h1|h1
  ·rw[k n h1 (by omega)]
   exact mB hm n h1 fun i a b=>k i a (by omega)
  obtain rfl:n=m:=by omega
  rw[hm];rfl
def uniB (f c f' c' m:Int):Bool:=decide ((m-f)%256<c)||decide ((m-f')%256<c')
theorem uni_iff {f c f' c' m:Int}:uniB f c f' c' m=true↔(m-f)%256<c\/(m-f')%256<c':=by unfold uniB;simp
theorem uni_not {f c f' c' m:Int}:uniB f c f' c' m=false↔c<=(m-f)%256/\c'<=(m-f')%256:=by
 unfold uniB;simp
theorem need_uni {f c f' c':Int}(h:bZ f c=true)(h':bZ f' c'=true){s:Int}(hs:0<=s/\s<=255):needN (uniB f c f' c') s 256=min 256 (max (cC s f c) (cC s f' c')):=by
 rw[bh] at h h'
 obtain⟨M,hM⟩:∃M:Int,M=max (cC s f c) (cC s f' c'):=⟨_,rfl⟩
 rw[<-hM]
 unfold cC at hM
 rcases (by omega:M<=256\/256<M) with hle|hgt
 ·have hpos:1<=M:=by omega
  have e:=mB (x:=uniB f c f' c') (s:=s) (m:=(M-1).toNat) (by rw[uni_iff];omega) 256 (by omega) fun i a b=>by rw[uni_not];omega
  rw[e];omega
 have e:=mB (x:=uniB f c f' c') (s:=s) (m:=255) (by rw[uni_iff];omega) 256 (by omega) fun i a b=>by omega
 rw[e];omega
theorem pu {x:Int->Bool}:∀n:Nat,n<=256->((bestN x n=(0,256)/\∀s:Int,256-(n:Int)<=s->s<=255->needN x s 256=256) \/
  ((bestN x n).2<256/\(256-(n:Int)<=(bestN x n).1/\(bestN x n).1<=255)/\needN x (bestN x n).1 256=(bestN x n).2/\∀s:Int,256-(n:Int)<=s->s<=255->(bestN x n).2<=needN x s 256/\(needN x s 256=(bestN x n).2->(bestN x n).1<=s)))
 |0,_=>.inl ⟨rfl,fun s a b=>by omega⟩
 | n+1,hn=>by
  have ih:=pu (x:=x) n (by omega)
  have hb:=mA x (255-(n:Int)) 256
  have eb:bestN x (n+1)=if needN x (255-(n:Int)) 256<256/\needN x (255-(n:Int)) 256<=(bestN x n).2 then (255-(n:Int),needN x (255-(n:Int)) 256) else bestN x n:=rfl
  rw[eb]
  split
  ·rename_i hc
   right
   try dsimp only
   refine⟨hc.1,by omega,rfl,fun s a b=>?_⟩
   rcases (by omega:s=255-(n:Int)\/256-(n:Int)<=s) with rfl|h2
   ·exact⟨Int.le_refl _,fun _=>Int.le_refl _⟩
   rcases ih with ⟨e,ih⟩|⟨e1,e2,e3,ih⟩
   ·have:=ih s h2 b;rw[this];omega
   have:=ih s h2 b;omega
  rename_i hc
  rcases ih with ⟨e,ih⟩|⟨e1,e2,e3,ih⟩
  ·left
   refine⟨e,fun s a b=>?_⟩
   rcases (by omega:s=255-(n:Int)\/256-(n:Int)<=s) with rfl|h2
   ·rw[e] at hc;simp only at hc;omega
   exact ih s h2 b
  right
  refine⟨e1,by omega,e3,fun s a b=>?_⟩
  rcases (by omega:s=255-(n:Int)\/256-(n:Int)<=s) with rfl|h2
  ·omega
  exact ih s h2 b
theorem hull_eq {f c f' c':Int}(h:bZ f c=true)(h':bZ f' c'=true):bestN (uniB f c f' c') 256=bM f c f' c':=by
 have hs:=pu (x:=uniB f c f' c') 256 (Nat.le_refl _)
 have hu:=fun s hs=>need_uni h h' (s:=s) hs
 rw[bh] at h h'
 have hf:=hu f (by omega)
 have hf':=hu f' (by omega)
 generalize bestN (uniB f c f' c') 256=p at hs ⊢
 obtain⟨p1,p2⟩:=p
 unfold bM
 simp only at hs ⊢
 obtain⟨n1,hn1⟩:∃n,n=max (cC f f c) (cC f f' c'):=⟨_,rfl⟩
 obtain⟨n2,hn2⟩:∃n,n=max (cC f' f c) (cC f' f' c'):=⟨_,rfl⟩
 rw[<-hn1,<-hn2]
 rw[<-hn1] at hf
 rw[<-hn2] at hf'
 rcases hs with ⟨e,k⟩|⟨e1,e2,e3,k⟩
 ·rw[Prod.mk.injEq] at e
  have k1:=k f (by omega) (by omega)
  have k2:=k f' (by omega) (by omega)
  have q1:eM f n1 0 256=(0,256):=if_neg (by omega)
  rw[q1]
  have q2:eM f' n2 0 256=(0,256):=if_neg (by omega)
  dsimp only
  rw[q2]
  exact Prod.ext e.1 e.2
 have k1:=k f (by omega) (by omega)
 have k2:=k f' (by omega) (by omega)
 have k3:=hu p1 (by omega)
 have hp:p1=f\/p1=f':=by
  by_cases hne:p1=f\/p1=f'
  ·exact hne
  exfalso
  unfold cC at k3 hn1 hn2
  obtain⟨d1,hd1⟩:∃d,d=(f-p1)%256:=⟨_,rfl⟩
  obtain⟨d2,hd2⟩:∃d,d=(f'-p1)%256:=⟨_,rfl⟩
  rw[<-hd1,<-hd2] at k3
  have b1:1<=d1/\d1<=255:=by omega
  have b2:1<=d2/\d2<=255:=by omega
  have a1:(f-f)%256=0:=by omega
  have a2:(f'-f')%256=0:=by omega
  rw[a1] at hn1
  rw[a2] at hn2
  rcases (by omega:d1<=d2\/d2<=d1) with hd|hd
  ·have a3:(f'-f)%256=d2-d1:=by omega
   rw[a3] at hn1
   clear hn2 hd1 hd2 a1 a2 a3 hf' k2 e2 hu
   omega
  have a3:(f-f')%256=d1-d2:=by omega
  rw[a3] at hn2
  clear hn1 hd1 hd2 a1 a2 a3 hf k1 e2 hu
  omega
 rcases hp with rfl|rfl
 ·have q1:eM p1 n1 0 256=(p1,n1):=if_pos (by omega)
  rw[q1]
  dsimp only
  have q2:eM f' n2 p1 n1=(p1,n1):=if_neg (by omega)
  rw[q2]
  exact Prod.ext rfl (by simp only;omega)
 by_cases hq:n1<256
 ·have q1:eM f n1 0 256=(f,n1):=if_pos (by omega)
  rw[q1]
  dsimp only
  unfold eM
  split
  ·exact Prod.ext rfl (by simp only;omega)
  exact Prod.ext (by simp only;omega) (by simp only;omega)
 have q1:eM f n1 0 256=(0,256):=if_neg (by omega)
 rw[q1]
 dsimp only
 have q2:eM p1 n2 0 256=(p1,n2):=if_pos (by omega)
 rw[q2]
 exact Prod.ext rfl (by simp only;omega)
def gJ (n:Int):Bool:=decide (n < -1048576)||decide (1048576<n)
def bxB (x0 y0 x1 y1 f c:Int):Bool:=decide (x0<=x1)&&(decide (y0<=y1)&&((!([x0,y0,x1,y1].any gJ))&&bZ f c))
theorem bB {x0 y0 x1 y1 f c:Int}:bxB x0 y0 x1 y1 f c=true↔(-1048576<=x0/\x0<=x1/\x1<=1048576)/\(-1048576<=y0/\y0<=y1/\y1<=1048576)/\bZ f c=true:=by
 unfold bxB gJ
 simp only[Bool.and_eq_true,decide_eq_true_eq,List.any_cons,List.any_nil,Bool.or_false,Bool.not_eq_true',Bool.or_eq_false_iff,decide_eq_false_iff_not]
 constructor
 ·rintro⟨a,b,c,d⟩;exact⟨by omega,by omega,d⟩
 rintro⟨a,b,d⟩;exact⟨by omega,by omega,by omega,d⟩
def arcR (f c:Int):Bool:=decide (0<=f)&&(decide (f<256)&&(decide (1<=c)&&(decide (c<=256)&&(decide (c<256)||f==0))))
theorem iB (f c:Int):arcR f c=bZ f c:=by
 rw[Bool.eq_iff_iff,bh];unfold arcR;simp only[Bool.and_eq_true,Bool.or_eq_true,decide_eq_true_eq,beq_iff_eq];omega
def bxR (x0 y0 x1 y1 f c:Int):Bool:=decide (-1048576<=x0)&&(decide (x0<=x1)&&(decide (x1<=1048576)&&(decide (-1048576<=y0)&&(decide (y0<=y1)&&(decide (y1<=1048576)&&bZ f c)))))
theorem i6 (x0 y0 x1 y1 f c:Int):bxR x0 y0 x1 y1 f c=bxB x0 y0 x1 y1 f c:=by
 rw[Bool.eq_iff_iff,bB];unfold bxR;simp only[Bool.and_eq_true,decide_eq_true_eq]
 constructor
 ·rintro⟨a,b,c,d,e,f,g⟩;exact⟨by omega,by omega,g⟩
 rintro⟨a,b,g⟩;exact⟨by omega,by omega,by omega,by omega,by omega,by omega,g⟩
def bl (b:T6):Bool:=bxB b.1 b.2.1 b.2.2.1 b.2.2.2.1 b.2.2.2.2.1 b.2.2.2.2.2
def bk (l:List T6):Bool:=decide ((l.length:Int)<=16)&&!(l.any fun b=>!bl b)
theorem bi {l:List T6}:bk l=true↔l.length<=16/\∀b∈l,bl b=true:=by
 unfold bk
 rw[Bool.and_eq_true,decide_eq_true_eq,Bool.not_eq_true',List.any_eq_false]
 constructor
 ·rintro⟨a,b⟩;exact⟨by omega,fun x hx=>by have:=b x hx;simpa using this⟩
 rintro⟨a,b⟩;exact⟨by omega,fun x hx=>by simp[b x hx]⟩
def mnI (a b:Int):Int:=if b<a then b else a
def mxI (a b:Int):Int:=if a<b then b else a
def ew (a b:T6):T6:=(mnI a.1 b.1,mnI a.2.1 b.2.1,mxI a.2.2.1 b.2.2.1,mxI a.2.2.2.1 b.2.2.2.1,(bM a.2.2.2.2.1 a.2.2.2.2.2 b.2.2.2.2.1 b.2.2.2.2.2).1,(bM a.2.2.2.2.1 a.2.2.2.2.2 b.2.2.2.2.1 b.2.2.2.2.2).2)
theorem qx {s n bf bn:Int}(hs:0<=s/\s<256)(hn:1<=n)(hb:bZ bf bn=true):bZ (eM s n bf bn).1 (eM s n bf bn).2=true:=by
 rw[bh] at hb ⊢
 unfold eM
 split<;>simp only<;>omega
theorem hullA_ok {f c f' c':Int}(h:bZ f c=true)(h':bZ f' c'=true):bZ (bM f c f' c').1 (bM f c f' c').2=true:=by
 have k:=bh.1 h
 have k':=bh.1 h'
 unfold bM
 refine qx k'.1 (by unfold cC;omega) (qx k.1 (by unfold cC;omega) (by decide))
theorem hulB_ok {a b:T6}(ha:bl a=true)(hb:bl b=true):bl (ew a b)=true:=by
 unfold bl at *
 rw[bB] at *
 unfold ew mnI mxI
 simp only
 refine⟨by omega,by omega,hullA_ok ha.2.2 hb.2.2⟩
def hlS (f c f2 c2:Int):Nat->Int×Int
 |0=>(0,256)
 |1=>eM f (max (cC f f c) (cC f f2 c2)) 0 256
 |_+2=>bM f c f2 c2
theorem hlS_2 (f c f2 c2:Int):hlS f c f2 c2 2=eM f2 (max (cC f2 f c) (cC f2 f2 c2)) (hlS f c f2 c2 1).1 (hlS f c f2 c2 1).2:=rfl
theorem max_i (a b:Int):(if a<b then b else a)=max a b:=by split<;>omega
theorem bY {l:List T6}{j:Nat}(h:j<l.length):g6 l j∈l:=by
 unfold g6;rw[List.getD_eq_getElem?_getD];simp[h]
def stM (L:List Int):Nat->List Bool
 |0=>List.replicate 256 false
 |n+1=>(stM L n).set (gi L n).toNat true
theorem jN (L:List Int):∀n:Nat,(stM L n).length=256
 |0=>List.length_replicate
 |n+1=>by rw[stM,List.length_set,jN L n]
theorem stM_get (L:List Int)(hL:∀j:Nat,j<L.length->0<=gi L j/\gi L j<=255)(m:Nat)(hm:m<256):∀n:Nat,n<=L.length->(bget (stM L n) m=true↔∃j:Nat,j<n/\gi L j=(m:Int))
 | 0,_=>by
  have e:bget (stM L 0) m=false:=by
   show (List.replicate 256 false).getD m false=false
   rw[List.getD_eq_getElem?_getD,List.getElem?_replicate];split<;>rfl
  rw[e]
  exact⟨fun h=>(by cases h),fun ⟨j,hj,_⟩=>absurd hj (Nat.not_lt_zero j)⟩
 | n+1,hn=>by
  have ih:=stM_get L hL m hm n (by omega)
  have hb:=hL n (by omega)
  have e:bget (stM L (n+1)) m=if (gi L n).toNat=m then true else bget (stM L n) m:=by
   simp only[stM,bget,List.getD_eq_getElem?_getD,List.getElem?_set,jN]
   split
   ·simp[show (gi L n).toNat<256 by omega]
   rfl
  rw[e]
  split
  ·rename_i h
   exact⟨fun _=>⟨n,by omega,by omega⟩,fun _=>rfl⟩
  rename_i h
  rw[ih]
  constructor
  ·rintro⟨j,a,b⟩;exact⟨j,by omega,b⟩
  rintro⟨j,a,b⟩
  rcases (by omega:j<n\/j=n) with k|rfl
  ·exact⟨j,k,b⟩
  omega
theorem i7 {f:Int}{n j:Nat}(h:j<n):gi (aw f n) j=(f+(j:Int))%256:=by
 simp[gi,aw,h,List.getD_eq_getElem?_getD]
def cD (f c:Int):List Bool:=stM (aw f c.toNat) c.toNat
theorem qy (f c:Int):(cD f c).length=256:=jN _ _
theorem qz {f c:Int}(h:bZ f c=true){m:Int}(hm:0<=m/\m<256):bget (cD f c) m.toNat=decide ((m-f)%256<c):=by
 rw[bh] at h
 have hs:=stM_get (aw f c.toNat) (fun j hj=>by rw[dm] at hj;rw[i7 hj];omega) m.toNat (by omega) c.toNat (by rw[dm];exact Nat.le_refl _)
 rw[Bool.eq_iff_iff,decide_eq_true_eq]
 unfold cD
 rw[hs]
 constructor
 ·rintro⟨j,hj,e⟩;rw[i7 hj] at e;omega
 intro k
 refine⟨((m-f)%256).toNat,by omega,?_⟩
 rw[i7 (by omega)];omega
def d8 (A B:List Bool) (m:Int):Bool:=bget A m.toNat||bget B m.toNat
theorem qA {x y:Int->Bool}(h:∀m:Int,0<=m->m<256->x m=y m)(s:Int):∀n:Nat,needN x s n=needN y s n
 |0=>rfl
 |n+1=>by rw[needN,needN,qA h s n,h _ (by omega) (by omega)]
theorem qB {x y:Int->Bool}(h:∀m:Int,0<=m->m<256->x m=y m):∀n:Nat,bestN x n=bestN y n
 |0=>rfl
 |n+1=>by simp only[bestN];rw[qB h n,qA h]
theorem best_hull {f c f' c':Int}(h:bZ f c=true)(h':bZ f' c'=true):bestN (d8 (cD f c) (cD f' c')) 256=bM f c f' c':=by
 rw[<-hull_eq h h']
 refine qB (fun m a b=>?_) 256
 unfold d8 uniB
 rw[qz h ⟨a,b⟩,qz h' ⟨a,b⟩]
theorem oi (x:Int->Bool)(n:Nat):bestN x (n+1)=if needN x (255-(n:Int)) 256<256/\needN x (255-(n:Int)) 256<=(bestN x n).2 then (255-(n:Int),needN x (255-(n:Int)) 256) else bestN x n:=rfl
theorem oj (x:Int->Bool)(s:Int)(n:Nat):needN x s (n+1)=if x ((s+(n:Int))%256)=true then (n:Int)+1 else needN x s n:=rfl
def shF (bf bc t:Int):Int:=gq (bf+(((t%256).toNat:Nat):Int)) bc
def grF (F C n:Int):Int:=gq (F-n) (C+2*n)
def grC (C n:Int):Int:=ce (C+2*n)
def mrkA (bf bc t tu:Int):List Int:=aw (grF (shF bf bc t) (ce bc) tu) (grC (ce bc) tu).toNat
set_option maxRecDepth 100000 in
theorem idx_int (H:ac)(s:AV)(l:List Int)(hs:Sl H 1 s l.length (ints .i64 l))(hl:l.length<=1000000000)(g:FuncId)(caps:List AV)(hok:dB prog g=true)(hc:AV.bels H.length caps=true)(p:Int->Bool)(hf:∀j,j<l.length->ACalls prog g (.int .i64 (gi l j)::caps) H (fun v H'=>v=.bool (p (gi l j))/\H'=H)):
  ACalls prog 186 [s,.fn g caps] H (fun v H'=>v=.int .i64 (fk p l)/\H'=H):=by
 obtain⟨b,own,cap,rfl,hb⟩:=hs
 have hbl:=getElem?_lt hb
 have hmv:=fun m sel=>gI (n:=H.length) (m:=m) (sel:=sel) hc
 (refine co try_mixed func186 true _ rfl (Nat.le_of_ble_eq_true (by kernel_rfl)) (by kernel_rfl) ?_;intro hbel Q hQ hQ' c hc;unfold Tryz.f186 at hc;simp only[Option.some.injEq] at hc;subst hc;clear hQ')
 simp -implicitDefEqProofs (disch:=omega) only [simprocAttr,aG,aH,Function.comp_apply,one1,lenV,ak,ay,az,aop,AV.ofValue,AV.ofCell,AV.cells,AV.flat,AV.one,arep,aT,av,aE]
 refine glp (fun k F Hx=>∃i:Nat,i+k=l.length/\(l.take i).any p=false/\F=[(0,.sl (some (b,0)) l.length none),(1,.fn g caps),(7,.int .i64 l.length),(8,.int .i64 (i:Nat))]/\Hx=H) l.length ?_ ?_
 ·refine⟨_,_,_,⟨0,by omega,rfl,rfl,rfl⟩,Abs.by0 hbel ?_⟩
  exact aF @hmv
 rintro k F Hx ⟨i,hik,ht,rfl,rfl⟩ J hJ
 by_cases hi:i<l.length
 ·have hii:(i:Int)<(l.length:Int):=by omega
  have q1:=c9 (k:=.i64) hi
  have hg:=gi_eq hi
  simp -implicitDefEqProofs (disch:=omega) only [hii,hb,q1,bU,cr,simprocAttr,aG,aH,Function.comp_apply,one1,lenV,ak,ay,az,aop,AV.ofValue,AV.ofCell,AV.cells,AV.flat,AV.one,arep,aT,av,aE]
  refine And.intro (by omega) ?_
  refine dW hok (hf i hi) ?_
  have hst:=iY (p:=p) hi
  rw[ht,Bool.false_or,<-hg] at hst
  cases h1:p (gi l i)
  ·rw[h1] at hst
   simp -implicitDefEqProofs (disch:=omega) only [h1,simprocAttr,aG,aH,Function.comp_apply,one1,lenV,ak,ay,az,aop,AV.ofValue,AV.ofCell,AV.cells,AV.flat,AV.one,arep,aT,av,aE]
   refine hJ _ _ ⟨k-1,by omega,_,_,_,⟨i+1,by omega,hst,rfl,rfl⟩,Abs.by0 hbel ?_⟩
   exact aF @hmv
  simp -implicitDefEqProofs (disch:=omega) only [h1,simprocAttr,aG,aH,Function.comp_apply,one1,lenV,ak,ay,az,aop,AV.ofValue,AV.ofCell,AV.cells,AV.flat,AV.one,arep,aT,av,aE]
  exact eQ hQ hbel (.int .i64 (i:Nat)) results186 ⟨by rw[iA hi ht (by rw[<-hg];exact h1)],rfl⟩
 have hnn:¬((i:Int)<(l.length:Int)):=by omega
 simp -implicitDefEqProofs (disch:=omega) only [hnn,simprocAttr,aG,aH,Function.comp_apply,one1,lenV,ak,ay,az,aop,AV.ofValue,AV.ofCell,AV.cells,AV.flat,AV.one,arep,aT,av,aE]
 rw[List.take_of_length_le (by omega)] at ht
 exact eQ hQ hbel (.int .i64 (-1)) results186 ⟨by rw[fl ht],rfl⟩
theorem has_int (H:ac)(s:AV)(l:List Int)(hs:Sl H 1 s l.length (ints .i64 l))(hl:l.length<=1000000000)(g:FuncId)(caps:List AV)(hok:dB prog g=true)(hc:AV.bels H.length caps=true)(p:Int->Bool)(hf:∀j,j<l.length->ACalls prog g (.int .i64 (gi l j)::caps) H (fun v H'=>v=.bool (p (gi l j))/\H'=H)):
  ACalls prog 142 [s,.fn g caps] H (fun v H'=>v=.bool (l.any p)/\H'=H):=by
 have key:=idx_int H s l hs hl g caps hok hc p hf
 obtain⟨b,own,cap,rfl,hb⟩:=hs
 have hbl:=getElem?_lt hb
 (refine co try_mixed func142 true _ rfl (Nat.le_of_ble_eq_true (by kernel_rfl)) (by kernel_rfl) ?_;intro hbel Q hQ hQ' c hc;unfold Tryz.f142 at hc;simp only[Option.some.injEq] at hc;subst hc;clear hQ')
 simp -implicitDefEqProofs (disch:=omega) only [simprocAttr,aG,aH,Function.comp_apply,one1,lenV,ak,ay,az,aop,AV.ofValue,AV.ofCell,AV.cells,AV.flat,AV.one,arep,aT,av,aE]
 refine dW (by kernel_rfl) key ?_
 simp -implicitDefEqProofs (disch:=omega) only [simprocAttr,aG,aH,Function.comp_apply,one1,lenV,ak,ay,az,aop,AV.ofValue,AV.ofCell,AV.cells,AV.flat,AV.one,arep,aT,av,aE]
 exact eQ hQ hbel (.bool (decide (0<=fk p l))) results142 ⟨by rw[kg],rfl⟩
set_option maxRecDepth 100000 in
theorem idx_box (H:ac)(s:AV)(l:List T6)(hs:Sl H 6 s l.length (r6 l))(hl:l.length<=1000000000)(g:FuncId)(caps:List AV)(hok:dB prog g=true)(hc:AV.bels H.length caps=true)(p:T6->Bool)(hf:∀j,j<l.length->ACalls prog g (.agg [.int .i64 (g61 l j),.int .i64 (g62 l j),.int .i64 (g63 l j),.int .i64 (g64 l j),.int .i64 (g65 l j),.int .i64 (g66 l j)]::caps) H (fun v H'=>v=.bool (p (g61 l j,g62 l j,g63 l j,g64 l j,g65 l j,g66 l j))/\H'=H)):
  ACalls prog 102 [s,.fn g caps] H (fun v H'=>v=.int .i64 (fk p l)/\H'=H):=by
 obtain⟨b,own,cap,rfl,hb⟩:=hs
 have hbl:=getElem?_lt hb
 have hmv:=fun m sel=>gI (n:=H.length) (m:=m) (sel:=sel) hc
 (refine co try_mixed func102 true _ rfl (Nat.le_of_ble_eq_true (by kernel_rfl)) (by kernel_rfl) ?_;intro hbel Q hQ hQ' c hc;unfold Tryz.f102 at hc;simp only[Option.some.injEq] at hc;subst hc;clear hQ')
 simp -implicitDefEqProofs (disch:=omega) only [simprocAttr,aG,aH,Function.comp_apply,one1,lenV,ak,ay,az,aop,AV.ofValue,AV.ofCell,AV.cells,AV.flat,AV.one,arep,aT,av,aE]
 refine glp (fun k F Hx=>∃i:Nat,i+k=l.length/\(l.take i).any p=false/\F=[(0,.sl (some (b,0)) l.length none),(1,.fn g caps),(7,.int .i64 l.length),(8,.int .i64 (i:Nat))]/\Hx=H) l.length ?_ ?_
 ·refine⟨_,_,_,⟨0,by omega,rfl,rfl,rfl⟩,Abs.by0 hbel ?_⟩
  exact aF @hmv
 rintro k F Hx ⟨i,hik,ht,rfl,rfl⟩ J hJ
 by_cases hi:i<l.length
 ·have hii:(i:Int)<(l.length:Int):=by omega
  have q1:=bD hi
  have hg:=jq hi
  simp -implicitDefEqProofs (disch:=omega) only [hii,hb,q1,bo,cQ,simprocAttr,aG,aH,Function.comp_apply,one1,lenV,ak,ay,az,aop,AV.ofValue,AV.ofCell,AV.cells,AV.flat,AV.one,arep,aT,av,aE]
  iterate 2 refine And.intro (by omega) ?_
  refine dW hok (hf i hi) ?_
  have hst:=iY (p:=p) hi
  rw[ht,Bool.false_or,<-hg] at hst
  cases h1:p (g61 l i,g62 l i,g63 l i,g64 l i,g65 l i,g66 l i)
  ·rw[h1] at hst
   simp -implicitDefEqProofs (disch:=omega) only [h1,simprocAttr,aG,aH,Function.comp_apply,one1,lenV,ak,ay,az,aop,AV.ofValue,AV.ofCell,AV.cells,AV.flat,AV.one,arep,aT,av,aE]
   refine hJ _ _ ⟨k-1,by omega,_,_,_,⟨i+1,by omega,hst,rfl,rfl⟩,Abs.by0 hbel ?_⟩
   exact aF @hmv
  simp -implicitDefEqProofs (disch:=omega) only [h1,simprocAttr,aG,aH,Function.comp_apply,one1,lenV,ak,ay,az,aop,AV.ofValue,AV.ofCell,AV.cells,AV.flat,AV.one,arep,aT,av,aE]
  exact eQ hQ hbel (.int .i64 (i:Nat)) results102 ⟨by rw[iA hi ht (by rw[<-hg];exact h1)],rfl⟩
 have hnn:¬((i:Int)<(l.length:Int)):=by omega
 simp -implicitDefEqProofs (disch:=omega) only [hnn,simprocAttr,aG,aH,Function.comp_apply,one1,lenV,ak,ay,az,aop,AV.ofValue,AV.ofCell,AV.cells,AV.flat,AV.one,arep,aT,av,aE]
 rw[List.take_of_length_le (by omega)] at ht
 exact eQ hQ hbel (.int .i64 (-1)) results102 ⟨by rw[fl ht],rfl⟩
theorem lF (H:ac)(s:AV)(l:List T6)(hs:Sl H 6 s l.length (r6 l))(hl:l.length<=1000000000)(g:FuncId)(caps:List AV)(hok:dB prog g=true)(hc:AV.bels H.length caps=true)(p:T6->Bool)(hf:∀j,j<l.length->ACalls prog g (.agg [.int .i64 (g61 l j),.int .i64 (g62 l j),.int .i64 (g63 l j),.int .i64 (g64 l j),.int .i64 (g65 l j),.int .i64 (g66 l j)]::caps) H (fun v H'=>v=.bool (p (g61 l j,g62 l j,g63 l j,g64 l j,g65 l j,g66 l j))/\H'=H)):
  ACalls prog 61 [s,.fn g caps] H (fun v H'=>v=.bool (l.any p)/\H'=H):=by
 have key:=idx_box H s l hs hl g caps hok hc p hf
 obtain⟨b,own,cap,rfl,hb⟩:=hs
 have hbl:=getElem?_lt hb
 (refine co try_mixed func61 true _ rfl (Nat.le_of_ble_eq_true (by kernel_rfl)) (by kernel_rfl) ?_;intro hbel Q hQ hQ' c hc;unfold Tryz.f61 at hc;simp only[Option.some.injEq] at hc;subst hc;clear hQ')
 simp -implicitDefEqProofs (disch:=omega) only [simprocAttr,aG,aH,Function.comp_apply,one1,lenV,ak,ay,az,aop,AV.ofValue,AV.ofCell,AV.cells,AV.flat,AV.one,arep,aT,av,aE]
 refine dW (by kernel_rfl) key ?_
 simp -implicitDefEqProofs (disch:=omega) only [simprocAttr,aG,aH,Function.comp_apply,one1,lenV,ak,ay,az,aop,AV.ofValue,AV.ofCell,AV.cells,AV.flat,AV.one,arep,aT,av,aE]
 exact eQ hQ hbel (.bool (decide (0<=fk p l))) results61 ⟨by rw[kg],rfl⟩
theorem small1_c (H:ac)(n:Int):zC 143 [iV n] H (.bool (gJ n)) H:=by
 refine AcT true func143 ?_;intro hbel Q hQ
 refine aC ?_
 refine bg (fun h1=>?_) (fun h1=>?_)
 ·have h1d:=bsT h1
  have G1:=jn h1 @h1d
  exact eS G1 hQ hbel (.bool (decide (1048576<n))) results143 ⟨by simp[gJ,h1d],rfl⟩
 have h1d:=bsT h1
 have G2:=jn h1 @h1d
 exact eS G2 hQ hbel (.bool true) results143 ⟨by simp[gJ,h1d],rfl⟩
theorem small_c (H:ac)(s:AV)(l:List Int)(hs:Sl H 1 s l.length (ints .i64 l))(hl:l.length<=1000000):zC 100 [s] H (.bool (!(l.any gJ))) H:=by
 obtain⟨bs,os,cs,rfl,hbs,hbls,hb0s⟩:=zA1 hs
 refine AcT true func100 ?_;intro hbel Q hQ
 have G3:=jn @hbs @hb0s
 refine aa G3 ?_
 refine cvr G3 (has_int _ _ l (zA2 hb0s hbs) (by omega) _ [] (by kernel_rfl) rfl gJ (fun j hj=>small1_c _ _)) ?_
 exact eQ hQ hbel (.bool (!(l.any gJ))) results100 ⟨rfl,rfl⟩
theorem jO (H:ac)(f c:Int):zC 101 [.agg [iV f,iV c]] H (.bool (bZ f c)) H:=by
 refine AcT true func101 ?_;intro hbel Q hQ
 refine aC ?_
 refine bg (fun h1=>?_) (fun h1=>?_)
 ·have h1d:=bsT h1
  have G4:=jn h1 @h1d
  refine rgs G4 (fun h2 h2d G5=>?_) (fun h2 h2d G12=>?_)
  ·refine rgs G5 (fun h3 h3d G6=>?_) (fun h3 h3d G11=>?_)
   ·refine rgs G6 (fun h4 h4d G7=>?_) (fun h4 h4d G10=>?_)
    ·refine rgs G7 (fun h5 h5d _=>?_) (fun h5 h5d _=>?_)
     ·have h5n:=bnT h5
      have G8:=jn h5 (jn h5n (jn @aK (jn @aJ G7)))
      exact eR G8 hQ hbel (.bool (decide (c<256))) results101 ⟨by simp[bZ,h1d,h2d,h3d,h4d,h5d],rfl⟩
     have h5n:=bnT h5
     have G9:=jn h5 (jn h5n (jn @aK (jn @aJ G7)))
     exact eR G9 hQ hbel (.bool true) results101 ⟨by simp[bZ,h1d,h2d,h3d,h4d,h5d],rfl⟩
    exact eR G10 hQ hbel (.bool false) results101 ⟨by simp[bZ,h1d,h2d,h3d,h4d],rfl⟩
   exact eR G11 hQ hbel (.bool false) results101 ⟨by simp[bZ,h1d,h2d,h3d],rfl⟩
  exact eR G12 hQ hbel (.bool false) results101 ⟨by simp[bZ,h1d,h2d],rfl⟩
 have h1d:=bsT h1
 have G13:=jn h1 @h1d
 exact eR G13 hQ hbel (.bool false) results101 ⟨by simp[bZ,h1d],rfl⟩
theorem barc_c (H:ac)(f c:Int):zC 134 [.agg [iV f,iV c]] H (.bool (bZ f c)) H:=by
 refine AcT true func134 ?_;intro hbel Q hQ
 refine aC ?_
 refine bg (fun h1=>?_) (fun h1=>?_)
 ·have h1d:=bsT h1
  have G14:=jn h1 @h1d
  refine rgs G14 (fun h2 h2d G15=>?_) (fun h2 h2d G22=>?_)
  ·refine rgs G15 (fun h3 h3d G16=>?_) (fun h3 h3d G21=>?_)
   ·refine rgs G16 (fun h4 h4d G17=>?_) (fun h4 h4d G20=>?_)
    ·refine rgs G17 (fun h5 h5d G18=>?_) (fun h5 h5d G19=>?_)
     ·exact eR G18 hQ hbel (.bool (f==0)) results134 ⟨by rw[<-iB];(simp[arcR,h1d,h2d,h3d,h4d,h5d];done),rfl⟩
     exact eR G19 hQ hbel (.bool true) results134 ⟨by rw[<-iB];(simp[arcR,h1d,h2d,h3d,h4d,h5d];done),rfl⟩
    exact eR G20 hQ hbel (.bool false) results134 ⟨by rw[<-iB];(simp[arcR,h1d,h2d,h3d,h4d];done),rfl⟩
   exact eR G21 hQ hbel (.bool false) results134 ⟨by rw[<-iB];(simp[arcR,h1d,h2d,h3d];done),rfl⟩
  exact eR G22 hQ hbel (.bool false) results134 ⟨by rw[<-iB];(simp[arcR,h1d,h2d];done),rfl⟩
 have h1d:=bsT h1
 have G23:=jn h1 @h1d
 exact eR G23 hQ hbel (.bool false) results134 ⟨by rw[<-iB];(simp[arcR,h1d];done),rfl⟩
theorem i8 (H:ac)(f c:Int):zC 144 [.agg [iV f,iV c]] H (.bool (bZ f c)) H:=by
 refine AcT true func144 ?_;intro hbel Q hQ
 refine aC ?_
 refine cv (barc_c _ f c) ?_
 refine aC ?_
 exact eP hQ hbel (.bool (bZ f c)) results144 ⟨rfl,rfl⟩
theorem gr (H:ac)(x0 y0 x1 y1 f c:Int):zC 98 [.agg [iV x0,iV y0,iV x1,iV y1,iV f,iV c]] H (.agg [iV f,iV c]) H:=by
 refine AcT true func98 ?_;intro hbel Q hQ
 refine aC ?_
 exact eP hQ hbel (.agg [iV f,iV c]) results98 ⟨rfl,rfl⟩
theorem fW (H:ac)(x0 y0 x1 y1 f c:Int):zC 104 [.agg [iV x0,iV y0,iV x1,iV y1,iV f,iV c]] H (.agg [iV f,iV c]) H:=by
 refine AcT true func104 ?_;intro hbel Q hQ
 refine aC ?_
 exact eP hQ hbel (.agg [iV f,iV c]) results104 ⟨rfl,rfl⟩
theorem fy (H:ac)(x0 y0 x1 y1 f c:Int):zC 60 [.agg [iV x0,iV y0,iV x1,iV y1,iV f,iV c]] H (.bool (bxB x0 y0 x1 y1 f c)) H:=by
 refine AcT true func60 ?_;intro hbel Q hQ
 refine aC ?_
 refine bg (fun h1=>?_) (fun h1=>?_)
 ·have h1d:=bsT h1
  have G24:=jn h1 @h1d
  refine rgs G24 (fun h2 h2d G25=>?_) (fun h2 h2d G28=>?_)
  ·refine aa G25 ?_
   refine cv (small_c _ _ [x0,y0,x1,y1] ⟨_,_,_,by rfl,by (rw[ah];rfl)⟩ (by simp)) ?_
   refine rgs G25 (fun h3 h3d G26=>?_) (fun h3 h3d G27=>?_)
   ·refine aa G26 ?_
    refine cvr G26 (gr _ _ _ _ _ f c) ?_
    refine cvr G26 (jO _ f c) ?_
    exact eP hQ hbel (.bool (bZ f c)) results60 ⟨by simp[bxB,h1d,h2d,h3d],rfl⟩
   exact eR G27 hQ hbel (.bool false) results60 ⟨by simp[bxB,h1d,h2d,h3d],rfl⟩
  exact eR G28 hQ hbel (.bool false) results60 ⟨by simp[bxB,h1d,h2d],rfl⟩
 have h1d:=bsT h1
 have G29:=jn h1 @h1d
 exact eR G29 hQ hbel (.bool false) results60 ⟨by simp[bxB,h1d],rfl⟩
theorem iq (H:ac)(x0 y0 x1 y1 f c:Int):zC 91 [.agg [iV x0,iV y0,iV x1,iV y1,iV f,iV c]] H (.bool (bxB x0 y0 x1 y1 f c)) H:=by
 refine AcT true func91 ?_;intro hbel Q hQ
 refine aC ?_
 refine bg (fun h1=>?_) (fun h1=>?_)
 ·have h1d:=bsT h1
  have G30:=jn h1 @h1d
  refine rgs G30 (fun h2 h2d G31=>?_) (fun h2 h2d G40=>?_)
  ·refine rgs G31 (fun h3 h3d G32=>?_) (fun h3 h3d G39=>?_)
   ·refine rgs G32 (fun h4 h4d G33=>?_) (fun h4 h4d G38=>?_)
    ·refine rgs G33 (fun h5 h5d G34=>?_) (fun h5 h5d G37=>?_)
     ·refine rgs G34 (fun h6 h6d G35=>?_) (fun h6 h6d G36=>?_)
      ·refine aa G35 ?_
       refine cvr G35 (barc_c _ f c) ?_
       exact eP hQ hbel (.bool (bZ f c)) results91 ⟨by rw[<-i6];simp[bxR,h1d,h2d,h3d,h4d,h5d,h6d],rfl⟩
      exact eR G36 hQ hbel (.bool false) results91 ⟨by rw[<-i6];simp[bxR,h1d,h2d,h3d,h4d,h5d,h6d],rfl⟩
     exact eR G37 hQ hbel (.bool false) results91 ⟨by rw[<-i6];simp[bxR,h1d,h2d,h3d,h4d,h5d],rfl⟩
    exact eR G38 hQ hbel (.bool false) results91 ⟨by rw[<-i6];simp[bxR,h1d,h2d,h3d,h4d],rfl⟩
   exact eR G39 hQ hbel (.bool false) results91 ⟨by rw[<-i6];simp[bxR,h1d,h2d,h3d],rfl⟩
  exact eR G40 hQ hbel (.bool false) results91 ⟨by rw[<-i6];simp[bxR,h1d,h2d],rfl⟩
 have h1d:=bsT h1
 have G41:=jn h1 @h1d
 exact eR G41 hQ hbel (.bool false) results91 ⟨by rw[<-i6];simp[bxR,h1d],rfl⟩
theorem jP (H:ac)(s:AV)(l:List T6)(hs:Sl H 6 s l.length (r6 l))(hl:l.length<=1000000000):zC 64 [s] H (.bool (bk l)) H:=by
 obtain⟨bs,os,cs,rfl,hbs,hbls,hb0s⟩:=zA1 hs
 refine AcT true func64 ?_;intro hbel Q hQ
 have G42:=jn @hbs @hb0s
 refine rcs G42 (fun h1 h1d G43=>?_) (fun h1 h1d G44=>?_)
 ·have hfinS:bk l=false:=by unfold bk;rw[decide_eq_false (by omega)];rfl
  exact eS G43 hQ hbel (.bool false) results64 ⟨by rw[hfinS],rfl⟩
 refine aa G44 ?_
 refine glp (fun k F Hx=>∃i:Nat,i+k=l.length/\(∀j:Nat,j<i->bl (g6 l j)=true)/\F=[(0,.sl (some (bs,0)) l.length cs),(3,iV (i:Int))]/\H=Hx) (l.length) ?_ ?_
 ·refine⟨_,_,_,⟨0,by omega,fun j h=>by omega,rfl,rfl⟩,Abs.by0 hbel ?_⟩
  exact ar
 rintro k0 F Hx ⟨i,hm0,hal,rfl,rfl⟩ J0 hJ0
 refine rcs G44 (fun h2 h2d _=>?_) (fun h2 h2d G48=>?_)
 ·have q3:=bD (l:=l) (j:=i) (by omega)
  have G45:=jn h2 (jn h2d (jn @bo (jn q3 G44)))
  refine aa G45 ?_
  refine cv (iq _ _ _ _ _ _ _) ?_
  refine rcs G45 (fun h4 h4d G46=>?_) (fun h4 h4d G47=>?_)
  ·have hfinS:bk l=false:=by
    rw[<-Bool.not_eq_true,bi];intro hh
    have:=hh.2 (g6 l i) (bY (by omega))
    exact absurd (this.symm.trans h4d) (by decide)
   exact eS G46 hQ hbel (.bool false) results64 ⟨by rw[hfinS],rfl⟩
  have hbi:bl (g6 l i)=true:=h4d
  refine aa G47 ?_
  refine hJ0 _ _ ⟨k0-1,by omega,_,_,_,⟨i+1,by omega,fun j hj=>by
        rcases Nat.lt_or_ge j i with h|h
        ·exact hal j h
        rw[show j=i by omega];exact hbi,rfl,rfl⟩,Abs.by0 hbel ?_⟩
  exact ar
 have hfinS:bk l=true:=bi.2 ⟨by omega,fun b hb=>by
  obtain⟨j,hj,e⟩:=List.mem_iff_getElem.1 hb
  rw[<-e,<-jq hj];exact hal j (by omega)⟩
 exact eS G48 hQ hbel (.bool true) results64 ⟨by rw[hfinS],rfl⟩
theorem kh (H:ac)(s f c:Int)(k1:0<=s/\s<=255)(k2:0<=f/\f<=255)(k3:0<=c/\c<=256):zC 141 [iV s,.agg [iV f,iV c]] H (iV (cC s f c)) H:=by
 refine AcT true func141 ?_;intro hbel Q hQ
 refine aC ?_
 refine cd (lc _ _) ?_
 refine aC ?_
 exact eP hQ hbel (iV (((((f-s)%256).toNat:Nat):Int)+c)) results141 ⟨congrArg (AV.int .i64) (by unfold cC;omega),rfl⟩
theorem lG (H:ac)(f c f2 c2:Int)(ha:bZ f c=true)(hb:bZ f2 c2=true):zC 97 [.agg [iV f,iV c],.agg [iV f2,iV c2]] H (.tup [.agg [iV ((bM f c f2 c2).1),iV ((bM f c f2 c2).2)],iV 0]) H:=by
 have ka:=bh.1 ha
 have kb:=bh.1 hb
 have hm1:=max_i (cC f f c) (cC f f2 c2)
 have hm2:=max_i (cC f2 f c) (cC f2 f2 c2)
 have hz0:(hlS f c f2 c2 0).2=256/\(hlS f c f2 c2 0).1=0:=⟨rfl,rfl⟩
 have hc1:cC f f c=c:=by unfold cC;omega
 have hc2:cC f2 f2 c2=c2:=by unfold cC;omega
 have hc3:1<=cC f f2 c2/\cC f f2 c2<=511:=by unfold cC;omega
 have hc4:1<=cC f2 f c/\cC f2 f c<=511:=by unfold cC;omega
 refine AcT true func97 ?_;intro hbel Q hQ
 have G49:=jn @hm1 (jn @hm2 (jn @ha @hb))
 refine aa G49 ?_
 refine cvr G49 (jO _ f c) ?_
 refine cvr G49 (jO _ _ _) ?_
 refine glp (fun k F Hx=>∃j:Nat,j+k=2/\F=[(2,.ptr (some (H.length,0))),(3,.ptr (some (H.length+1,0))),(4,.ptr (some (H.length+2,0))),(6,.ptr (some (H.length+3,0))),(24,.agg [iV f,iV f2]),(25,iV (j:Int))]/\Hx=H++[.cells true 0 [iV f,iV c],.cells true 0 [iV f2,iV c2],.cells true 0 [iV 0,iV 0],.cells true 0 [iV ((hlS f c f2 c2 j).1),iV ((hlS f c f2 c2 j).2)]]) (2) ?_ ?_
 ·refine⟨_,_,_,⟨0,by omega,rfl,rfl⟩,bS hbel [0,1,2,3] (aF (jn @hlS.eq_1 @Int.natCast_zero))⟩
 rintro k0 F Hx ⟨j,hm0,rfl,rfl⟩ J0 hJ0
 refine rcs G49 (fun h1 h1d _=>?_) (fun h1 h1d G65=>?_)
 ·obtain rfl|rfl:=(by omega:j=0\/j=1)
  ·have G50:=j2 h1 h1d G49
   refine aa G50 ?_
   refine cdr G50 (kh _ f f c (by omega) (by omega) (by omega)) ?_
   refine cd (kh _ f _ _ (by omega) (by omega) (by omega)) ?_
   refine rgs G50 (fun h2 h2d G51=>?_) (fun h2 h2d G55=>?_)
   ·refine rgs G51 (fun h3 h3d _=>?_) (fun h3 h3d _=>?_)
    ·have h3n:=bnT h3
     have he0:max (cC f f c) (cC f f2 c2)=(hlS f c f2 c2 0).2:=by simpa using h3d
     have G52:=jn h3 (jn h3n (jn @aK (jn @aJ G51)))
     refine rgs G52 (fun h4 h4d _=>?_) (fun h4 h4d G53=>?_)
     ·omega
     refine aa G53 ?_
     (have hst:hlS f c f2 c2 (0+1)=(0,256):=if_neg (by omega))
     refine hJ0 _ _ ⟨k0-1,by omega,_,_,_,⟨0+1,by omega,rfl,rfl⟩,bS hbel [0,1,2,3] (aF @hst)⟩
    have h3n:=bnT h3
    have G54:=jn h3 (jn h3n (jn @aK (jn @aJ G51)))
    refine aa G54 ?_
    (have hst:hlS f c f2 c2 (0+1)=(0,256):=if_neg (by omega))
    refine hJ0 _ _ ⟨k0-1,by omega,_,_,_,⟨0+1,by omega,rfl,rfl⟩,bS hbel [0,1,2,3] (aF @hst)⟩
   refine aa G55 ?_
   (have hst:hlS f c f2 c2 (0+1)=(f,max (cC f f c) (cC f f2 c2)):=if_pos (by omega))
   refine hJ0 _ _ ⟨k0-1,by omega,_,_,_,⟨0+1,by omega,rfl,rfl⟩,bS hbel [0,1,2,3] (aF @hst)⟩
  have G56:=j2 h1 h1d G49
  refine aa G56 ?_
  refine cdr G56 (kh _ _ f c (by omega) (by omega) (by omega)) ?_
  refine cd (kh _ _ _ _ (by omega) (by omega) (by omega)) ?_
  refine rgs G56 (fun h5 h5d G57=>?_) (fun h5 h5d G64=>?_)
  ·refine rgs G57 (fun h6 h6d _=>?_) (fun h6 h6d _=>?_)
   ·have h6n:=bnT h6
    have he1:max (cC f2 f c) (cC f2 f2 c2)=(hlS f c f2 c2 1).2:=by simpa using h6d
    have G58:=jn h6 (jn h6n (jn @aK (jn @aJ G57)))
    refine rgs G58 (fun h7 h7d G59=>?_) (fun h7 h7d G62=>?_)
    ·refine rcs G59 (fun h8 h8d G60=>?_) (fun h8 h8d G61=>?_)
     ·refine aa G60 ?_
      (have hst:hlS f c f2 c2 (1+1)=(f2,max (cC f2 f c) (cC f2 f2 c2)):=(hlS_2 f c f2 c2).trans (if_pos (by omega)))
      refine hJ0 _ _ ⟨k0-1,by omega,_,_,_,⟨1+1,by omega,rfl,rfl⟩,bS hbel [0,1,2,3] (aF @hst)⟩
     refine aa G61 ?_
     (have hst:hlS f c f2 c2 (1+1)=hlS f c f2 c2 1:=(hlS_2 f c f2 c2).trans (if_neg (by omega)))
     refine hJ0 _ _ ⟨k0-1,by omega,_,_,_,⟨1+1,by omega,rfl,rfl⟩,bS hbel [0,1,2,3] (aF @hst)⟩
    refine aa G62 ?_
    (have hst:hlS f c f2 c2 (1+1)=hlS f c f2 c2 1:=(hlS_2 f c f2 c2).trans (if_neg (by omega)))
    refine hJ0 _ _ ⟨k0-1,by omega,_,_,_,⟨1+1,by omega,rfl,rfl⟩,bS hbel [0,1,2,3] (aF @hst)⟩
   have h6n:=bnT h6
   have he1:¬max (cC f2 f c) (cC f2 f2 c2)=(hlS f c f2 c2 1).2:=by simpa using h6d
   have G63:=jn h6 (jn h6n (jn @aK (jn @aJ G57)))
   refine aa G63 ?_
   (have hst:hlS f c f2 c2 (1+1)=hlS f c f2 c2 1:=(hlS_2 f c f2 c2).trans (if_neg (by omega)))
   refine hJ0 _ _ ⟨k0-1,by omega,_,_,_,⟨1+1,by omega,rfl,rfl⟩,bS hbel [0,1,2,3] (aF @hst)⟩
  refine aa G64 ?_
  (have hst:hlS f c f2 c2 (1+1)=(f2,max (cC f2 f c) (cC f2 f2 c2)):=(hlS_2 f c f2 c2).trans (if_pos (by omega)))
  refine hJ0 _ _ ⟨k0-1,by omega,_,_,_,⟨1+1,by omega,rfl,rfl⟩,bS hbel [0,1,2,3] (aF @hst)⟩
 obtain rfl:j=2:=by omega
 exact eR G65 hQ hbel (.tup [.agg [iV ((hlS f c f2 c2 2).1),iV ((hlS f c f2 c2 2).2)],iV 0]) results97 ⟨rfl,rfl⟩
end Go.Proofs.YtidlfjajjieepaaGreat
