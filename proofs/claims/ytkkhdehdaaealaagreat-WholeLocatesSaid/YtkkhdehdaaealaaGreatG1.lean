/- Parts of the proof: walks and plain facts. Conditions: as each theorem states. -/
import Derived.Test.YtkkhdehdaaealaaGreatProg
import Derived.WalkKit
import Derived.WalkSpells
import Derived.WalkLawsBesides
import Derived.Deep.OwnRows
import Derived.OwnWalk
import Derived.ArgAppend
import Derived.Deep.AppendLies
import Derived.Laws.IdiomCopy
import Derived.Laws.StructEq
import Derived.ChangeKeysEq
import Derived.Laws.Tables
import Derived.Laws.BytesString
import Derived.Deep.LoopGhost
import Derived.Orders
namespace Go.Proofs.YtkkhdehdaaealaaGreat
theorem aiX {a b:Prop}(h:a)(k:b):a/\b:=⟨h,k⟩
set_option linter.unusedSimpArgs false
set_option linter.unusedVariables false
open Go.RowKit

theorem hid {p:Prop}(h:p):Hid p:=h
theorem iN {k:IntKind}{a b:Int}(h:a=b):Ending.returned (.int k a)=.returned (.int k b):=by rw[h]
theorem after {W w1:World}(hb:Below W.heap.size W w1):(∀b o,b<W.heap.size->w1.cell? ⟨b,o,none⟩=W.cell? ⟨b,o,none⟩)/\(∀b o,b<W.heap.size->w1.frozen? ⟨b,o,none⟩=W.frozen? ⟨b,o,none⟩)/\(∀b,b<W.heap.size->b<w1.heap.size) :=
 ⟨fun b o h=>hb.cell (p:=⟨b,o,none⟩) h,fun b o h=>hb.frozen (p:=⟨b,o,none⟩) h,fun _ h=>Nat.lt_of_lt_of_le h hb.size⟩
theorem iD {w:World}{p:Addr}{v:Value}(h:w.cell? p=some v)(o:Obj):(w.alloc o).cell? p=some v :=
 (World.cell?_alloc_lt w o p (World.block_lt_of_cell? w p h)).trans h
theorem iE {w w':World}{p:Addr}{v:Value}(h:w.cell? p=some v)(hb:Below w.heap.size w w'):w'.cell? p=some v :=
 (hb.cell (World.block_lt_of_cell? w p h)).trans h

def gi (xs:List Int) (k:Nat):Int:=xs.getD k 0
theorem gi_lt {xs:List Int}{k:Nat}(h:k<xs.length):gi xs k=xs[k]:=by simp[gi,List.getD_eq_getElem?_getD,h]
theorem gi_mem {xs:List Int}{k:Nat}(h:k<xs.length):gi xs k∈xs:=by rw[gi_lt h];exact List.getElem_mem h

def Ints (w:World) (k:IntKind) (A:Option Addr) (xs:List Int):Prop :=
 xs=[]\/∃b off,A=some ⟨b,off,none⟩/\∀j,j<xs.length->w.cell? ⟨b,off+j,none⟩=some (.int k (gi xs j))
section
variable {w w':World} {k:IntKind} {A:Option Addr} {xs:List Int}
theorem Ints.alloc (h:Ints w k A xs)(o:Obj):Ints (w.alloc o) k A xs :=
 h.imp id fun ⟨b,off,e,hc⟩=>⟨b,off,e,fun j hj=>iD (hc j hj) o⟩
theorem Ints.below (h:Ints w k A xs)(hb:Below w.heap.size w w'):Ints w' k A xs :=
 h.imp id fun ⟨b,off,e,hc⟩=>⟨b,off,e,fun j hj=>iE (hc j hj) hb⟩
theorem Ints.open (h:Ints w k A xs)(h0:0<xs.length):∃b off,A=some ⟨b,off,none⟩/\∀j,j<xs.length->w.cell? ⟨b,off+j,none⟩=some (.int k (gi xs j)):=by
 rcases h with rfl|h
 ·simp at h0
 exact h
theorem Ints.lt {b off:Nat}(h:Ints w k (some ⟨b,off,none⟩) xs)(h0:0<xs.length):b<w.heap.size:=by
 obtain⟨b',off',e,hc⟩:=h.open h0
 injection e with e
 injection e with e1
 subst e1
 exact World.block_lt_of_cell? w _ (hc 0 h0)
end

theorem ba1 (w:World)(o1:Obj):Below w.heap.size w (w.alloc o1):=(Below.refl _ _).alloc (Nat.le_refl _) o1
def Cells (w:World) (b:Nat) (vs:List Value):Prop:=∀j v,vs[j]? = some v->w.cell? ⟨b,j,none⟩=some v/\w.frozen? ⟨b,j,none⟩=false
section
variable {w w':World} {b:Nat} {vs:List Value} {v0 v1 v2:Value}
theorem pZ {w:World}{p:Addr}(h:p.block<w.heap.size)(o:Obj):(w.alloc o).frozen? p=w.frozen? p :=
 World.frozen?_of_block (Below.heap_alloc w o p.block h)
theorem Cells.alloc (h:Cells w b vs)(o:Obj):Cells (w.alloc o) b vs:=fun j v hj =>
 ⟨iD (h j v hj).1 o,(pZ (World.block_lt_of_cell? w _ (h j v hj).1) o).trans (h j v hj).2⟩
theorem Cells.below (h:Cells w b vs)(hb:Below w.heap.size w w'):Cells w' b vs:=fun j v hj =>
 ⟨iE (h j v hj).1 hb,(hb.frozen (World.block_lt_of_cell? w _ (h j v hj).1)).trans (h j v hj).2⟩
theorem Cells.lt (h:Cells w b (v0::vs)):b<w.heap.size:=World.block_lt_of_cell? w _ (h 0 v0 rfl).1
theorem Cells.new (w:World)(vs:List Value)(t:TypeId):Cells (w.alloc (.cells vs.toArray t)) w.heap.size vs:=fun j v hj=>by
 have hh:(w.alloc (.cells vs.toArray t)).heap[w.heap.size]? = some (.cells vs.toArray t (0,0)):=heap_alloc_new w _
 exact⟨by rw[cell_of_row _ _ _ _ _ _ hh];simpa using hj,by unfold World.frozen?;rw[hh];simp⟩
end

def Arr (w:World) (g:Nat) (t:TypeId) (k:IntKind) (xs:List Int):Prop:=w.heap[g]? = some (.cells (xs.map (Value.int k)).toArray t (0,0))
section
variable {w w':World} {g:Nat} {t:TypeId} {k:IntKind} {xs:List Int}
theorem Arr.cell (h:Arr w g t k xs){j:Nat}(hj:j<xs.length):w.cell? ⟨g,j,none⟩=some (.int k (gi xs j)):=by
 rw[cell_of_row w g j _ t (0,0) h]
 simp[gi,hj,List.getD_eq_getElem?_getD]
theorem Arr.frozen (h:Arr w g t k xs)(j:Nat):w.frozen? ⟨g,j,none⟩=false:=by
 unfold Arr at h
 unfold World.frozen?
 rw[h];simp
theorem Arr.lt (h:Arr w g t k xs):g<w.heap.size:=(Array.getElem?_eq_some_iff.1 h).1
theorem Arr.alloc (h:Arr w g t k xs)(o:Obj):Arr (w.alloc o) g t k xs:=(Below.heap_alloc w o g h.lt).trans h
theorem Arr.below (h:Arr w g t k xs)(hb:Below w.heap.size w w'):Arr w' g t k xs:=(hb.block g h.lt).trans h
theorem Arr.far (h:Arr w g t k xs){p:Addr}(hp:g≠p.block)(u:Value):Arr (w.setCell p u) g t k xs:=(Below.heap_setCell w p u g hp).trans h
theorem Arr.drew (h:Arr w g t k xs):Arr w.drew g t k xs:=h
theorem Arr.drewN (h:Arr w g t k xs)(m:Nat):Arr (w.drewN m) g t k xs:=h
theorem Arr.set (h:Arr w g t k xs)(j:Nat)(v:Int):Arr (w.setCell ⟨g,j,none⟩ (.int k v)) g t k (xs.set j v):=by
 unfold Arr at h ⊢
 simp[World.setCell,Array.getElem?_modify,h,List.map_set]
theorem Arr.ints (h:Arr w g t k xs):Ints w k (some ⟨g,0,none⟩) xs:=.inr ⟨g,0,rfl,fun j hj=>by rw[Nat.zero_add];exact h.cell hj⟩
end

section
variable {w w':World} {base:Nat} {e:TypeId} {size:Nat} {v:Value} {n:Nat} {xs:List Value}
theorem i6 {base':Nat}(h:w.ownsRow base e size v n xs)(hb:base'<=base):w.ownsRow base' e size v n xs :=
 ⟨h.1,h.2.elim .inl (fun ⟨g,cap,cur,hv,hg,r⟩=>.inr ⟨g,cap,cur,hv,Nat.le_trans hb hg,r⟩)⟩
end

def fu (cs:List (Int×Int)):List Value:=cs.flatMap fun p=>[.int .i64 p.1,.int .i64 p.2]
theorem my (cs:List (Int×Int)):(fu cs).length=cs.length*2:=by
 induction cs with
 |nil=>rfl
 |cons a l ih=>simp only[fu,List.flatMap_cons,List.length_append,List.length_cons,List.length_nil] at *;omega
theorem enc2_at (cs:List (Int×Int)):∀j (h:j<cs.length),(fu cs)[j*2]? = some (.int .i64 cs[j].1)/\(fu cs)[j*2+1]? = some (.int .i64 cs[j].2):=by
 induction cs with
 |nil=>intro j h;simp at h
 | cons a l ih =>
  intro j h
  cases j with
  |zero=>simp[fu]
  | succ j =>
   have h2:=ih j (by simpa using h)
   have e:(j+1)*2=j*2+1+1:=by omega
   simp only[fu,List.flatMap_cons,e,List.cons_append,List.nil_append,List.getElem?_cons_succ,List.getElem_cons_succ] at h2 ⊢
   exact h2
def g1 (cs:List (Int×Int)) (j:Nat):Int:=(cs.getD j (0,0)).1
def g2 (cs:List (Int×Int)) (j:Nat):Int:=(cs.getD j (0,0)).2
def Pts (w:World) (A:Option Addr) (cs:List (Int×Int)):Prop :=
 cs=[]\/∃b off,A=some ⟨b,off,none⟩/\∀j,j<cs.length->w.cell? ⟨b,off+j*2,none⟩=some (.int .i64 (g1 cs j))/\w.cell? ⟨b,off+j*2+1,none⟩=some (.int .i64 (g2 cs j))
section
variable {w w':World} {A:Option Addr} {cs:List (Int×Int)}
theorem Pts.alloc (h:Pts w A cs)(o:Obj):Pts (w.alloc o) A cs :=
 h.imp id fun ⟨b,off,e,hc⟩=>⟨b,off,e,fun j hj=>⟨iD (hc j hj).1 o,iD (hc j hj).2 o⟩⟩
theorem Pts.below (h:Pts w A cs)(hb:Below w.heap.size w w'):Pts w' A cs :=
 h.imp id fun ⟨b,off,e,hc⟩=>⟨b,off,e,fun j hj=>⟨iE (hc j hj).1 hb,iE (hc j hj).2 hb⟩⟩
theorem Pts.open (h:Pts w A cs)(h0:0<cs.length):∃b off,A=some ⟨b,off,none⟩/\∀j,j<cs.length->w.cell? ⟨b,off+j*2,none⟩=some (.int .i64 (g1 cs j))/\w.cell? ⟨b,off+j*2+1,none⟩=some (.int .i64 (g2 cs j)):=by
 rcases h with rfl|h
 ·simp at h0
 exact h
theorem Pts.drew (h:Pts w A cs):Pts w.drew A cs:=h
end

def Seg (w:World) (base size:Nat) (v:Value) (n:Nat) (xs:List Value):Prop :=
 xs.length=n*size /\
 ((v = .slice none 0 0/\n=0) \/
  ∃ g off cap,v=.slice (some ⟨g,off,none⟩) n cap/\base<=g/\g<w.heap.size/\n<=cap/\cap<=maxLen /\
    (∀j,j<cap*size->(w.cell? ⟨g,off+j,none⟩).isSome=true/\w.frozen? ⟨g,off+j,none⟩=false) /\
    ∀j u,xs[j]? = some u->w.cell? ⟨g,off+j,none⟩=some u)
section
variable {w w':World} {base size n:Nat} {v:Value} {xs:List Value}
theorem Seg.below (h:Seg w base size v n xs)(hb:Below w.heap.size w w'):Seg w' base size v n xs:=by
 refine⟨h.1,h.2.imp id ?_⟩
 rintro⟨g,off,cap,hv,hg,hlt,hn,hm,hc,hx⟩
 refine⟨g,off,cap,hv,hg,Nat.lt_of_lt_of_le hlt hb.size,hn,hm,fun j hj=>?_,fun j u hu=>?_⟩
 ·rw[hb.cell (p:=⟨g,off+j,none⟩) hlt,hb.frozen (p:=⟨g,off+j,none⟩) hlt]
  exact hc j hj
 rw[hb.cell (p:=⟨g,off+j,none⟩) hlt]
 exact hx j u hu
theorem Seg.alloc (h:Seg w base size v n xs)(o:Obj):Seg (w.alloc o) base size v n xs:=h.below (ba1 w o)
theorem Seg.far (h:Seg w base size v n xs){p:Addr}(hp:∀g,v.ownBlock=some g->g≠p.block)(u:Value):Seg (w.setCell p u) base size v n xs:=by
 refine⟨h.1,h.2.imp id ?_⟩
 rintro⟨g,off,cap,hv,hg,hlt,hn,hm,hc,hx⟩
 have hne:g≠p.block:=hp g (by rw[hv];rfl)
 have hcell:∀j,(w.setCell p u).cell? ⟨g,off+j,none⟩=w.cell? ⟨g,off+j,none⟩:=fun j =>
  World.cell?_setCell_other _ _ _ _ (by intro e;apply hne;rw[e])
 refine⟨g,off,cap,hv,hg,by simpa [World.setCell] using hlt,hn,hm,fun j hj=>?_,fun j u' hu=>?_⟩
 ·rw[hcell,World.frozen?_setCell];exact hc j hj
 rw[hcell];exact hx j u' hu
theorem Seg.of_own {e:TypeId}(h:w.ownsRow base e size v n xs):Seg w base size v n xs:=by
 refine⟨h.1,?_⟩
 rcases h.2 with h0|⟨g,cap,cur,rfl,hb,hh,hnc,hcm,hcs,ht⟩
 ·exact .inl h0
 refine .inr ⟨g,0,cap,rfl,hb,(Array.getElem?_eq_some_iff.1 hh).1,hnc,hcm,fun j hj=>?_,fun j u hu=>?_⟩
 ·rw[Nat.zero_add]
  refine⟨?_,frozen_of_row w g j cur e hh⟩
  rw[cell_of_row w g j cur e (0,0) hh,Array.getElem?_eq_getElem (by omega)];rfl
 rw[Nat.zero_add,cell_of_row w g j cur e (0,0) hh]
 rw[<-ht,List.getElem?_take] at hu
 split at hu
 ·simpa using hu
 cases hu
theorem Seg.slice (h:Seg w base size v n xs):∃A c,v=.slice A n c:=by
 rcases h.2 with ⟨rfl,rfl⟩|⟨g,off,cap,rfl,_⟩
 ·exact⟨_,_,rfl⟩
 exact⟨_,_,rfl⟩
end
theorem kT (b:Nat):∀(vs:List Value) (o:Nat) (w:World),(w.setCells b o vs).heap.size=w.heap.size/\(∀k,k≠b->(w.setCells b o vs).heap[k]? = w.heap[k]?)/\(w.setCells b o vs).os=w.os/\(w.setCells b o vs).tape=w.tape/\(w.setCells b o vs).output=w.output
 |[],_,_=>⟨rfl,fun _ _=>rfl,rfl,rfl,rfl⟩
 | v::r,o,w=>by
  obtain⟨h1,h2,h3,h4,h5⟩:=kT b r (o+1) (w.setCell ⟨b,o,none⟩ v)
  exact⟨h1.trans (by simp[World.setCell]),fun k hk=>(h2 k hk).trans (Below.heap_setCell w ⟨b,o,none⟩ v k hk),h3,h4,h5⟩

theorem run_app_seg {P:Program}{w:World}(base:Nat) (t ty e:TypeId) (i:TypeInfo) (z:Value) (size bytes:Nat) (ht:P.underlying t=some (.slice e)) (hi:P.info? e=some i) (hz:i.zero=some z)
  (hsize:i.size=size) (hby:i.bytes=bytes) (hzs:z.cells.size=size) (hsz:0<size)
  (v:Value) (n:Nat) (xs:List Value) (hown:Seg w base size v n xs) (ad:Addr) (m c:Nat) (news:List Value) (hl:news.length=m*size) (hnews:∀j u,news[j]? = some u->w.cell? (ad.add j)=some u) (h1:∀u∈news,u.oneCell'=true)
  (h63:n+m<=maxLen) (hbytes:(n+m)*bytes<=140737488355328) (hbase:base<=w.heap.size) :
  ∃v' w',(Builtin.append_ #[t,t] ty #[v,.slice (some ad) m c]).run P w=.ok v' w'/\Seg w' base size v' (n+m) (xs++news)/\w.grownBy w' v.ownBlock/\(∀g,v'.ownBlock=some g->v.ownBlock=some g\/w.heap.size<=g):=by
 rcases hown.2 with ⟨rfl,h0⟩|⟨g,off,cap,rfl,hb,hlt,hnc,hcm,hc,hx⟩
 ·subst h0
  have hx0:xs=[]:=List.length_eq_zero_iff.1 (by rw[hown.1];simp)
  subst hx0
  obtain⟨v',w',hrun,h2,h3,_⟩:=run_append_own (P:=P) w w.heap.size t ty e i z size bytes ht hi hz hsize hby hzs hsz (.slice none 0 0) 0 [] (World.ownsRow_nil w w.heap.size e size) ad m c news hl hnews h1 h63 hbytes (Nat.le_refl _)
  exact⟨v',w',hrun,Seg.of_own (i6 h2 hbase),h3,fun g hg=>.inr (h2.lt g hg).1⟩
 by_cases hroom:n+m<=cap
 ·have hfit:n*size+m*size<=cap*size:=by rw[<-Nat.add_mul];exact Nat.mul_le_mul_right _ hroom
  have hcn:∀j,j<news.length->(w.cell? ⟨g,off+n*size+j,none⟩).isSome=true/\w.frozen? ⟨g,off+n*size+j,none⟩=false:=fun j hj=>by
   have:=hc (n*size+j) (by omega)
   rwa [<-Nat.add_assoc] at this
  subst hsize
  have hrun:=run_append_room_cells (P:=P) w t ty e i ht hi g off n cap ad m c news hl hnews h1 hroom (fun j hj=>(hcn j hj).1) (fun j hj=>(hcn j hj).2)
  obtain⟨k1,k2,k3,k4,k5⟩:=kT g news (off+n*i.size) w
  refine⟨_,_,hrun,⟨by rw[List.length_append,hown.1,hl,Nat.add_mul],.inr ⟨g,off,cap,rfl,hb,by rw[k1];exact hlt,hroom,hcm,fun j hj=>?_,fun j u hu=>?_⟩⟩,⟨k3,k4,k5,by rw[k1];exact Nat.le_refl _,fun k _ hk=>k2 k (fun e=>hk (by rw[e];rfl))⟩,fun g hg=>.inl hg⟩
  ·rw[World.frozen?_setCells]
   refine⟨?_,(hc j hj).2⟩
   by_cases hin:n*i.size<=j/\j<n*i.size+news.length
   ·have h4:=World.cell?_setCells_in g news (off+n*i.size) w (fun j hj=>(hcn j hj).1) (j-n*i.size) (by omega)
    rw[show off+n*i.size+(j-n*i.size)=off+j by omega] at h4
    rw[h4];rfl
   rw[World.cell?_setCells_out g news (off+n*i.size) w _ (fun _ _=>by show off+j<_\/_<=off+j;omega)]
   exact(hc j hj).1
  have hxl:=hown.1
  by_cases hj:j<xs.length
  ·rw[List.getElem?_append_left hj] at hu
   rw[World.cell?_setCells_out g news (off+n*i.size) w _ (fun _ _=>by show off+j<_\/_<=off+j;omega)]
   exact hx j u hu
  rw[List.getElem?_append_right (by omega)] at hu
  have hjn:j-xs.length<news.length:=by
   rcases Nat.lt_or_ge (j-xs.length) news.length with h|h
   ·exact h
   rw[List.getElem?_eq_none h] at hu;cases hu
  have h4:=World.cell?_setCells_in g news (off+n*i.size) w (fun j hj=>(hcn j hj).1) (j-xs.length) hjn
  rw[show off+n*i.size+(j-xs.length)=off+j by omega] at h4
  rw[h4,<-hu,List.getElem?_eq_getElem hjn]
 have holds:∀j u,xs[j]? = some u->w.cell? ((⟨g,off,none⟩:Addr).add j)=some u:=fun j u hu=>by
  have e1:(⟨g,off,none⟩:Addr).add j=⟨g,off+j,none⟩:=by unfold Addr.add;split<;>simp_all
  rw[e1];exact hx j u hu
 obtain⟨v',w',hrun,h2,h3⟩:=run_append_arg_grows (P:=P) w t ty e i z size bytes ht hi hz hsize hby hzs hsz ⟨g,off,none⟩ n cap xs hown.1 holds ad m c news hl hnews (by omega) h63 hbytes
 exact⟨v',w',hrun,Seg.of_own (i6 h2 hbase),⟨h3.os,h3.tape,h3.output,h3.size,fun k hk _=>h3.block k hk (by simp)⟩,fun g hg=>.inr (h2.lt g hg).1⟩


inductive AV where
 |any
 |int (k:IntKind) (n:Int)
 |bool (b:Bool)
 |str (s:List UInt8)
 |ptr (a:Option (Nat×Nat))
 |sl (a:Option (Nat×Nat)) (len:Nat) (cap:Option Nat)
 |mp (r:Option Nat)
 |fn (f:FuncId) (caps:List AV)
 |nilfn
 |agg (cs:List AV)
 |tup (vs:List AV)
 deriving Inhabited
def AV.one:AV->Bool
 |.any | .agg _ | .tup _=>false
 |_=>true
def AV.cells:AV->List AV
 |.agg cs=>cs
 |v=>[v]
inductive ABlk where
 |dead
 |cells (own:Bool) (es:Nat) (xs:List AV)
 |map (es:List (AV×AV))
 |fmap (es:List (AV×AV)) (bs:List Nat) (ck:Nat)
 |iter (m:Nat) (bs sn:List Nat) (ck:Nat)
 deriving Inhabited
def ABlk.owned:ABlk->Bool
 |.cells o _ _=>o
 |.map _=>true
 |.fmap _ _ _=>true
 |.iter _ _ _ _=>true
 |.dead=>false
abbrev aa:=List ABlk
structure Loc where
 blk:Nat
 off:Nat
 sz:Nat
 es:Nat
structure Env where
 B:Nat
 w0:World
 n:Nat
 loc:Nat->Loc
structure Env.le (E E':Env):Prop where
 B:E'.B=E.B
 w0:E'.w0=E.w0
 n:E.n<=E'.n
 loc:∀b,b<E.n->E'.loc b=E.loc b
theorem Env.le.refl (E:Env):E.le E:=⟨rfl,rfl,Nat.le_refl _,fun _ _=>rfl⟩
theorem Env.le.trans {E E' E'':Env}(h:E.le E')(k:E'.le E''):E.le E'' :=
 ⟨k.B.trans h.B,k.w0.trans h.w0,Nat.le_trans h.n k.n,fun b hb=>(k.loc b (Nat.lt_of_lt_of_le hb h.n)).trans (h.loc b hb)⟩
def Env.push (E:Env) (L:Loc):Env:={ E with n:=E.n+1,loc:=fun b=>if b=E.n then L else E.loc b }
theorem Env.le_push (E:Env)(L:Loc):E.le (E.push L):=⟨rfl,rfl,Nat.le_succ _,fun b hb=>by simp[Env.push];omega⟩
theorem Env.push_new (E:Env)(L:Loc):(E.push L).loc E.n=L:=by simp[Env.push]
theorem Env.push_old (E:Env)(L:Loc){b:Nat}(h:b<E.n):(E.push L).loc b=E.loc b:=by simp[Env.push];omega

inductive Rel (E:Env):AV->Value->Prop where
 |any (v):Rel E .any v
 |int (k n):Rel E (.int k n) (.int k n)
 |bool (b):Rel E (.bool b) (.bool b)
 |str (s:List UInt8):Rel E (.str s) (.string ⟨s.toArray⟩)
 |nilptr:Rel E (.ptr none) (.pointer none)
 |ptr (b o:Nat):b<E.n->Rel E (.ptr (some (b,o))) (.pointer (some ⟨(E.loc b).blk,(E.loc b).off+o,none⟩))
 |nilsl:Rel E (.sl none 0 (some 0)) (.slice none 0 0)
 |nils (b cap):b<E.n->(cap=none\/cap=some 0)->Rel E (.sl (some (b,0)) 0 cap) (.slice none 0 0)
 | sl (b o len cap c a):b<E.n->len<=c->c<=maxLen->(cap=none\/cap=some c)->(c=0\/a=⟨(E.loc b).blk,(E.loc b).off+o,none⟩) ->
   o+c*(E.loc b).es<=(E.loc b).sz->Rel E (.sl (some (b,o)) len cap) (.slice (some a) len c)
 |nilmp:Rel E (.mp none) (.map none)
 |mp (b):b<E.n->Rel E (.mp (some b)) (.map (some (E.loc b).blk))
 |nilfn:Rel E .nilfn .nilFunc
 |fn (f) (caps:List AV) (cs:Array Value):caps.length=cs.size->(∀(i:Nat) (x:AV) (v:Value),caps[i]? = some x->cs[i]? = some v->Rel E x v)->Rel E (.fn f caps) (.func (.func f) #[] cs)
 |agg (xs:List AV) (cs:Array Value):xs.length=cs.size->(∀(i:Nat) (x:AV) (v:Value),xs[i]? = some x->cs[i]? = some v->Rel E x v)->Rel E (.agg xs) (.agg cs)
 |tup (xs:List AV) (cs:Array Value):xs.length=cs.size->(∀(i:Nat) (x:AV) (v:Value),xs[i]? = some x->cs[i]? = some v->Rel E x v)->Rel E (.tup xs) (.tuple cs)
theorem Rel.mono {E E':Env}{x:AV}{v:Value}(h:Rel E x v)(he:E.le E'):Rel E' x v:=by
 induction h with
 |any v=>exact .any v
 |int k n=>exact .int k n
 |bool b=>exact .bool b
 |str s=>exact .str s
 |nilptr=>exact .nilptr
 |ptr b o hb=>rw[<-he.loc b hb];exact .ptr b o (Nat.lt_of_lt_of_le hb he.n)
 |nilsl=>exact .nilsl
 |nils b cap hb hc=>exact .nils b cap (Nat.lt_of_lt_of_le hb he.n) hc
 | sl b o len cap c a hb h1 h2 h3 h4 h5 =>
  have e:=he.loc b hb
  exact .sl b o len cap c a (Nat.lt_of_lt_of_le hb he.n) h1 h2 h3 (by rw[e];exact h4) (by rw[e];exact h5)
 |nilmp=>exact .nilmp
 |mp b hb=>rw[<-he.loc b hb];exact .mp b (Nat.lt_of_lt_of_le hb he.n)
 |nilfn=>exact .nilfn
 |fn f caps cs hl _ ih=>exact .fn f caps cs hl ih
 |agg xs cs hl _ ih=>exact .agg xs cs hl ih
 |tup xs cs hl _ ih=>exact .tup xs cs hl ih
theorem Rel.one {E:Env}{x:AV}{v:Value}(h:Rel E x v)(ho:x.one=true):v.oneCell'=true:=by
 cases h<;>first|rfl|(simp[AV.one] at ho)
def RelL (E:Env) (xs:List AV) (vs:List Value):Prop:=xs.length=vs.length/\∀(i:Nat) (x:AV) (v:Value),xs[i]? = some x->vs[i]? = some v->Rel E x v
theorem RelL.mono {E E':Env}{xs:List AV}{vs:List Value}(h:RelL E xs vs)(he:E.le E'):RelL E' xs vs:=⟨h.1,fun i x v hx hv=>(h.2 i x v hx hv).mono he⟩
theorem RelL.nil (E:Env):RelL E [] []:=⟨rfl,fun i x v h=>by simp at h⟩
theorem RelL.cons {E:Env}{x:AV}{v:Value}{xs:List AV}{vs:List Value}(h:Rel E x v)(hs:RelL E xs vs):RelL E (x::xs) (v::vs) :=
 ⟨by simp[hs.1],fun i y u hy hu=>by
  cases i with
  |zero=>simp at hy hu;subst hy hu;exact h
  |succ i=>exact hs.2 i y u (by simpa using hy) (by simpa using hu)⟩
theorem RelL.uncons {E:Env}{x:AV}{v:Value}{xs:List AV}{vs:List Value}(h:RelL E (x::xs) (v::vs)):Rel E x v/\RelL E xs vs :=
 ⟨h.2 0 x v rfl rfl,by have:=h.1;simpa using this,fun i y u hy hu=>h.2 (i+1) y u (by simpa using hy) (by simpa using hu)⟩
theorem RelL.append {E:Env}{xs ys:List AV}{vs us:List Value}(h:RelL E xs vs)(k:RelL E ys us):RelL E (xs++ys) (vs++us) :=
 ⟨by simp[h.1,k.1],fun i x v hx hv=>by
  rw[List.getElem?_append] at hx hv
  rw[h.1] at hx
  by_cases hi:i<vs.length
  ·rw[if_pos hi] at hx hv;exact h.2 i x v hx hv
  rw[if_neg hi] at hx hv;exact k.2 _ x v hx hv⟩
theorem RelL.get {E:Env}{xs:List AV}{vs:List Value}(h:RelL E xs vs){i:Nat}{x:AV}(hx:xs[i]? = some x):∃v,vs[i]? = some v/\Rel E x v:=by
 have hi:i<xs.length:=by
  rcases Nat.lt_or_ge i xs.length with h|h
  ·exact h
  rw[List.getElem?_eq_none h] at hx;cases hx
 have hv:vs[i]? = some (vs[i]'(by rw[<-h.1];exact hi)):=List.getElem?_eq_getElem _
 exact⟨_,hv,h.2 i x _ hx hv⟩
theorem RelL.drop {E:Env}{xs:List AV}{vs:List Value}(h:RelL E xs vs)(k:Nat):RelL E (xs.drop k) (vs.drop k) :=
 ⟨by simp[h.1],fun i x v hx hv=>h.2 (k+i) x v (by simpa using hx) (by simpa using hv)⟩
theorem RelL.take {E:Env}{xs:List AV}{vs:List Value}(h:RelL E xs vs)(k:Nat):RelL E (xs.take k) (vs.take k) :=
 ⟨by simp[h.1],fun i x v hx hv=>by
  rw[List.getElem?_take] at hx hv
  split at hx
  ·exact h.2 i x v hx (by simpa [*] using hv)
  cases hx⟩
theorem RelL.agg {E:Env}{xs:List AV}{vs:List Value}(h:RelL E xs vs):Rel E (.agg xs) (.agg vs.toArray) :=
 .agg xs _ (by simp[h.1]) fun i x v hx hv=>h.2 i x v hx (by simpa using hv)
theorem RelL.tup {E:Env}{xs:List AV}{vs:List Value}(h:RelL E xs vs):Rel E (.tup xs) (.tuple vs.toArray) :=
 .tup xs _ (by simp[h.1]) fun i x v hx hv=>h.2 i x v hx (by simpa using hv)
theorem RelL.fn {E:Env}{f:FuncId}{xs:List AV}{vs:List Value}(h:RelL E xs vs):Rel E (.fn f xs) (.func (.func f) #[] vs.toArray) :=
 .fn f xs _ (by simp[h.1]) fun i x v hx hv=>h.2 i x v hx (by simpa using hv)
theorem RelL.of_agg {E:Env}{xs:List AV}{cs:Array Value}(h:Rel E (.agg xs) (.agg cs)):RelL E xs cs.toList:=by
 cases h with
 |agg _ _ hl h=>exact⟨by simpa using hl,fun i x v hx hv=>h i x v hx (by simpa using hv)⟩
theorem RelL.of_tup {E:Env}{xs:List AV}{cs:Array Value}(h:Rel E (.tup xs) (.tuple cs)):RelL E xs cs.toList:=by
 cases h with
 |tup _ _ hl h=>exact⟨by simpa using hl,fun i x v hx hv=>h i x v hx (by simpa using hv)⟩
theorem Rel.cells {E:Env}{x:AV}{v:Value}(h:Rel E x v)(ho:x.one=true\/∃cs,x=.agg cs):RelL E x.cells v.cells.toList:=by
 rcases ho with ho|⟨cs,rfl⟩
 ·cases h<;>first|(simp[AV.one] at ho;done)|skip
  all_goals exact .cons (by constructor<;>assumption) (.nil E)
 cases h with
 |agg _ cs' hl h=>exact⟨by simpa [AV.cells,Value.cells] using hl,fun i x v hx hv=>h i x v hx (by simpa [Value.cells] using hv)⟩
theorem mg {p:Nat->Value->Prop}:∀n,(∀j,j<n->∃v,p j v)->∃vs:List Value,vs.length=n/\∀j v,vs[j]? = some v->p j v
 |0,_=>⟨[],rfl,fun j v h=>by simp at h⟩
 | n+1,h=>by
  obtain⟨vs,hl,hp⟩:=mg n (fun j hj=>h j (by omega))
  obtain⟨v,hv⟩:=h n (by omega)
  refine⟨vs++[v],by simp[hl],fun j u hu=>?_⟩
  rw[List.getElem?_append] at hu
  split at hu
  ·exact hp j u hu
  have:j-vs.length=0:=by
   rcases Nat.eq_zero_or_pos (j-vs.length) with h0|h0
   ·exact h0
   rw[List.getElem?_eq_none (by simp;omega)] at hu;cases hu
  rw[this] at hu
  simp at hu;subst hu
  have:j=n:=by omega
  subst this;exact hv

def MOk (ents:Array MapEntry) (clock:Nat):Prop:=(∀e∈ents.toList,e.born<clock)/\(ents.toList.map (·.born)).Nodup
def BlkOk (E:Env) (w:World) (L:Loc):ABlk->Prop
 |.dead=>True
 | .cells own es xs=>(∀(j:Nat) (x:AV),xs[j]? = some x->x.one=true/\∃v,w.cell? ⟨L.blk,L.off+j,none⟩=some v/\Rel E x v) /\
   (own=true->E.B<=L.blk/\L.blk<w.heap.size/\L.es=es/\xs.length<=L.sz/\∀j,j<L.sz->(w.cell? ⟨L.blk,L.off+j,none⟩).isSome=true/\w.frozen? ⟨L.blk,L.off+j,none⟩=false) /\
   (own=false->0<xs.length->L.blk<E.B)/\L.es=es
 |.map es=>E.B<=L.blk/\L.blk<w.heap.size/\∃(ents:Array MapEntry) (clock:Nat),w.heap[L.blk]? = some (.map ents clock)/\RelL E (es.map (·.1)) (ents.toList.map (·.key))/\RelL E (es.map (·.2)) (ents.toList.map (·.val))/\MOk ents clock
 |.fmap es bs ck=>E.B<=L.blk/\L.blk<w.heap.size/\∃ents:Array MapEntry,w.heap[L.blk]? = some (.map ents ck)/\RelL E (es.map (·.1)) (ents.toList.map (·.key))/\RelL E (es.map (·.2)) (ents.toList.map (·.val))/\ents.toList.map (·.born)=bs
 |.iter m bs sn ck=>E.B<=L.blk/\L.blk<w.heap.size/\m<E.n/\L.off=0/\bs.Nodup/\(∀x∈bs,x<ck)/\w.heap[L.blk]? = some (.mapIter (some (E.loc m).blk) ck sn.toArray ck)
structure Emb (E:Env) (H:aa) (w:World):Prop where
 n:E.n=H.length
 below:Below E.B E.w0 w
 base:E.B<=w.heap.size
 blk:∀(b:Nat) (x:ABlk),H[b]? = some x->BlkOk E w (E.loc b) x
 inj:∀(b c:Nat) (x y:ABlk),H[b]? = some x->H[c]? = some y->x.owned=true->y.owned=true->b≠c->(E.loc b).blk≠(E.loc c).blk
theorem getElem?_lt {α:Type}{l:List α}{i:Nat}{x:α}(h:l[i]? = some x):i<l.length:=by
 rcases Nat.lt_or_ge i l.length with k|k
 ·exact k
 rw[List.getElem?_eq_none k] at h;cases h
theorem BlkOk.mono {E E':Env}{w w':World}{L:Loc}{x:ABlk}(h:BlkOk E w L x)(he:E.le E')(hs:w.heap.size<=w'.heap.size)(hb:x.owned=true->w'.heap[L.blk]? = w.heap[L.blk]?)(hB:L.blk<E.B->w'.heap[L.blk]? = w.heap[L.blk]?):BlkOk E' w' L x:=by
 cases x with
 |dead=>trivial
 | cells own es xs =>
  obtain⟨h1,h2,h3,h4⟩:=h
  have hblk:0<xs.length\/own=true->w'.heap[L.blk]? = w.heap[L.blk]? :=fun hx=>by
   cases own
   ·exact hB (h3 rfl (hx.resolve_right (by simp)))
   exact hb rfl
  refine⟨fun j x hj=>?_,fun ho=>?_,fun ho hl=>by rw[he.B];exact h3 ho hl,h4⟩
  ·obtain⟨a,v,hv,hr⟩:=h1 j x hj
   have:=hblk (.inl (by have:=getElem?_lt hj;omega))
   exact⟨a,v,(World.cell?_of_block (w:=w) (w':=w') (a:=⟨L.blk,L.off+j,none⟩) this).trans hv,hr.mono he⟩
  obtain⟨a1,a2,a3,a4,a5⟩:=h2 ho
  have:=hblk (.inr ho)
  refine⟨by rw[he.B];exact a1,Nat.lt_of_lt_of_le a2 hs,a3,a4,fun j hj=>?_⟩
  rw[World.cell?_of_block (w:=w) (w':=w') (a:=⟨L.blk,L.off+j,none⟩) this,World.frozen?_of_block (w:=w) (w':=w') (a:=⟨L.blk,L.off+j,none⟩) this]
  exact a5 j hj
 | map es =>
  obtain⟨h1,h2,ents,clock,h3,h4,h5,h6⟩:=h
  exact⟨by rw[he.B];exact h1,Nat.lt_of_lt_of_le h2 hs,ents,clock,(hb rfl).trans h3,h4.mono he,h5.mono he,h6⟩
 | fmap es bs ck =>
  obtain⟨h1,h2,ents,h3,h4,h5,h6⟩:=h
  exact⟨by rw[he.B];exact h1,Nat.lt_of_lt_of_le h2 hs,ents,(hb rfl).trans h3,h4.mono he,h5.mono he,h6⟩
 | iter m bs sn ck =>
  obtain⟨h1,h2,h3,h4,h5,h6,h7⟩:=h
  exact⟨by rw[he.B];exact h1,Nat.lt_of_lt_of_le h2 hs,Nat.lt_of_lt_of_le h3 he.n,h4,h5,h6,by rw[he.loc m h3];exact(hb rfl).trans h7⟩
theorem Emb.alloc {E:Env}{H:aa}{w:World}(h:Emb E H w)(es:Nat){xs:List AV}{vs:List Value}(hr:RelL E xs vs)(ho:∀x∈xs,x.one=true)(t:TypeId):
  Emb (E.push ⟨w.heap.size,0,xs.length,es⟩) (H++[.cells true es xs]) (w.alloc (.cells vs.toArray t)):=by
 have hle:=E.le_push ⟨w.heap.size,0,xs.length,es⟩
 have hold:∀b,b<w.heap.size->(w.alloc (.cells vs.toArray t)).heap[b]? = w.heap[b]? :=fun b hb=>Below.heap_alloc _ _ _ hb
 have hnew:(w.alloc (.cells vs.toArray t)).heap[w.heap.size]? = some (.cells vs.toArray t (0,0)):=heap_alloc_new w _
 refine⟨by simp[Env.push,h.n],?_,?_,fun b x hx=>?_,fun b c x y hx hy ox oy hbc=>?_⟩
 ·exact h.below.alloc h.base _
 ·simp[Env.push];have:=h.base;omega
 ·rw[List.getElem?_append] at hx
  split at hx
  ·rename_i hb
   rw[Env.push_old _ _ (by rw[h.n];exact hb)]
   have hk:=h.blk b x hx
   refine hk.mono hle (by simp) (fun ho=>hold _ ?_) (fun hB=>hold _ (Nat.lt_of_lt_of_le hB h.base))
   cases x with
   |dead=>cases ho
   |cells own e ys=>exact(hk.2.1 ho).2.1
   |map es=>exact hk.2.1
   |fmap es bs ck=>exact hk.2.1
   |iter m bs sn ck=>exact hk.2.1
  rename_i hb
  have hb0:b-H.length=0:=by
   rcases Nat.eq_zero_or_pos (b-H.length) with h0|h0
   ·exact h0
   rw[List.getElem?_eq_none (by simp;omega)] at hx;cases hx
  rw[hb0] at hx
  simp at hx;subst hx
  have hbn:b=E.n:=by rw[h.n];omega
  subst hbn
  rw[Env.push_new]
  have hcell:∀j,(w.alloc (.cells vs.toArray t)).cell? ⟨w.heap.size,0+j,none⟩=vs[j]? :=fun j=>by rw[Nat.zero_add,cell_of_row _ _ _ _ _ _ hnew];simp
  refine⟨fun j x hj=>?_,fun _=>⟨h.base,by simp,rfl,Nat.le_refl _,fun j hj=>?_⟩,(fun ho=>by cases ho),rfl⟩
  ·obtain⟨v,hv,hrv⟩:=hr.get hj
   exact⟨ho x (List.mem_of_getElem? hj),v,by rw[hcell];exact hv,hrv.mono hle⟩
  rw[hcell]
  have hj':j<vs.length:=by rw[<-hr.1];exact hj
  refine⟨by rw[List.getElem?_eq_getElem hj'];rfl,?_⟩
  exact frozen_of_row _ _ _ _ _ hnew
 have key:∀b x,(H++[ABlk.cells true es xs])[b]? = some x->x.owned=true->(b<H.length/\H[b]? = some x/\((E.push ⟨w.heap.size,0,xs.length,es⟩).loc b).blk=(E.loc b).blk/\(E.loc b).blk<w.heap.size)\/(b=H.length/\((E.push ⟨w.heap.size,0,xs.length,es⟩).loc b).blk=w.heap.size):=by
  intro b x hx ho
  rw[List.getElem?_append] at hx
  split at hx
  ·rename_i hb
   refine .inl ⟨hb,hx,by rw[Env.push_old _ _ (by rw[h.n];exact hb)],?_⟩
   have hk:=h.blk b x hx
   cases x with
   |dead=>cases ho
   |cells own e ys=>exact(hk.2.1 ho).2.1
   |map es=>exact hk.2.1
   |fmap es bs ck=>exact hk.2.1
   |iter m bs sn ck=>exact hk.2.1
  rename_i hb
  have hb0:b-H.length=0:=by
   rcases Nat.eq_zero_or_pos (b-H.length) with h0|h0
   ·exact h0
   rw[List.getElem?_eq_none (by simp;omega)] at hx;cases hx
  have hbn:b=H.length:=by omega
  exact .inr ⟨hbn,by rw[hbn,<-h.n,Env.push_new]⟩
 rcases key b x hx ox with ⟨b1,b2,b3,b4⟩|⟨b1,b2⟩<;>rcases key c y hy oy with ⟨c1,c2,c3,c4⟩|⟨c1,c2⟩
 ·rw[b3,c3];exact h.inj b c x y b2 c2 ox oy hbc
 ·rw[b3,c2];omega
 ·rw[b2,c3];omega
 omega
end Go.Proofs.YtkkhdehdaaealaaGreat
/- The abstract machine's operations on memory and their meaning. Conditions: as each theorem states. -/
namespace Go.Proofs.YtkkhdehdaaealaaGreat
open Go.RowKit

abbrev Fr:=List (Nat×AV)
def look:Fr->Nat->AV
 |[],_=>.any
 |(s,v)::r,t=>bif s==t then v else look r t
def AV.ofCell:Value->AV
 |.int k n=>.int k n
 |.bool b=>.bool b
 |.string s=>.str s.data.toList
 |.pointer none=>.ptr none
 |.slice none 0 0=>.sl none 0 (some 0)
 |.map none=>.mp none
 |.nilFunc=>.nilfn
 |_=>.any
def AV.ofValue:Value->AV
 |.agg cs=>.agg (cs.toList.map AV.ofCell)
 |v=>AV.ofCell v
def aev (F:Fr):Operand->AV
 |.tmp t=>look F t
 |.const v=>AV.ofValue v
 |.global _=>.any
 |.func f=>.fn f []
def FrRel (E:Env) (F:Fr) (a:Act):Prop:=∀t,Rel E (look F t) (a.tmps.getD t undef)
theorem iF (E:Env)(v:Value):Rel E (AV.ofCell v) v:=by
 unfold AV.ofCell
 split<;>constructor
theorem fp (E:Env)(vs:List Value):RelL E (vs.map AV.ofCell) vs :=
 ⟨by simp,fun i x v hx hv=>by rw[List.getElem?_map,hv] at hx;simp at hx;subst hx;exact iF E v⟩
theorem mh (E:Env)(v:Value):Rel E (AV.ofValue v) v:=by
 unfold AV.ofValue
 split
 ·rename_i cs
  have:=(fp E cs.toList).agg
  simpa using this
 exact iF E _
theorem FrRel.ev {E:Env}{F:Fr}{a:Act}(h:FrRel E F a)(x:Operand):Rel E (aev F x) (a.eval x):=by
 cases x with
 |tmp t=>exact h t
 |const v=>exact mh E v
 |global g=>exact .any _
 |func f=>exact RelL.fn (RelL.nil E)
theorem FrRel.mono {E E':Env}{F:Fr}{a:Act}(h:FrRel E F a)(he:E.le E'):FrRel E' F a:=fun t=>(h t).mono he
theorem FrRel.put {E:Env}{F:Fr}{a:Act}(h:FrRel E F a){d:Nat}(hd:d<a.tmps.size){x:AV}{v:Value}(hv:Rel E x v):FrRel E ((d,x)::F) (a.put (some d) v):=by
 intro t
 unfold look Act.put
 by_cases e:d=t
 ·subst e;simpa [hd] using hv
 have:(d==t)=false:=by simp[e]
 rw[this]
 simp only[cond_false]
 have hh:=h t
 simp only[Array.getD_eq_getD_getElem?,Array.getElem?_setIfInBounds_ne e] at hh ⊢
 exact hh
def bu (p:Prop) [Decidable p]:Option Unit:=if p then some () else none
theorem dj {p:Prop}[Decidable p]{u:Unit}(h:bu p=some u):p:=by
 unfold bu at h;split at h
 ·assumption
 cases h

def Snd (P:Program) (E:Env) (w:World) (s:Sem Value) (r:AV×aa):Prop:=∃E' v w',s.run P w=.ok v w'/\E.le E'/\Rel E' r.1 v/\Emb E' r.2 w'
def SndU (P:Program) (E:Env) (w:World) (s:Sem Unit) (H:aa):Prop:=∃E' w',s.run P w=.ok () w'/\E.le E'/\Emb E' H w'
theorem Snd.pure {P:Program}{E:Env}{w:World}{H:aa}(h:Emb E H w){x:AV}{v:Value}(hv:Rel E x v):Snd P E w (Pure.pure v) (x,H):=⟨E,v,w,rfl,.refl E,hv,h⟩
theorem Snd.of_run {P:Program}{E:Env}{w:World}{H:aa}(h:Emb E H w){s:Sem Value}{x:AV}{v:Value}(hs:s.run P w=.ok v w)(hv:Rel E x v):Snd P E w s (x,H):=⟨E,v,w,hs,.refl E,hv,h⟩

def aM (P:Program) (t:TypeId):Option Bool :=
 match P.underlying t with
 |some (.struct _)|some (.array _ _)=>some true
 |some _=>some false
 |none=>none
def tSz (P:Program) (t:TypeId):Option Nat:=(P.info? t).map (·.size)
def aB (P:Program) (t:TypeId):Option Nat:=(P.info? t).map (·.bytes)
def aE (P:Program) (t:TypeId):Option (List AV) :=
 ((P.info? t).bind (·.zero)).bind fun z =>
  let l:=z.cells.toList.map AV.ofCell
  if l.all AV.one then some l else none
def cr (P:Program) (t:TypeId):Option TypeId :=
 match P.underlying t with
 |some (.slice e)=>some e
 |_=>none
def au (P:Program) (t:TypeId) (f:Nat):Option (Nat×TypeId) :=
 match P.underlying t with
 |some (.struct fs)=>(fs[f]?).map fun x=>(x.offset,x.type)
 |_=>none
section
variable {P:Program} {w:World}
theorem run_isAgg {t:TypeId}{b:Bool}(h:aM P t=some b):(isAgg t).run P w=.ok b w:=by
 unfold aM at h
 cases hu:P.underlying t with
 |none=>rw[hu] at h;cases h
 | some d =>
  rw[hu] at h
  cases d<;>simp at h<;>subst h<;>simp[isAgg,run_underlying hu]
theorem run_sizeOf' {t:TypeId}{n:Nat}(h:tSz P t=some n):(sizeOf t).run P w=.ok n w:=by
 unfold tSz at h
 cases hi:P.info? t with
 |none=>rw[hi] at h;cases h
 |some i=>rw[hi] at h;simp at h;subst h;simp[sizeOf,run_typeInfo w hi]
theorem run_bytes {t:TypeId}{n:Nat}(h:aB P t=some n):∃i,P.info? t=some i/\i.bytes=n:=by
 unfold aB at h
 cases hi:P.info? t with
 |none=>rw[hi] at h;cases h
 |some i=>rw[hi] at h;simp at h;exact⟨i,rfl,h⟩
theorem run_zero {t:TypeId}{l:List AV}(h:aE P t=some l):∃z:Value,(zeroValue t).run P w=.ok z w/\l=z.cells.toList.map AV.ofCell/\(∀x∈l,x.one=true)/\∃i,P.info? t=some i/\i.zero=some z:=by
 unfold aE at h
 cases hi:P.info? t with
 |none=>rw[hi] at h;cases h
 | some i =>
  rw[hi] at h
  cases hz:i.zero with
  |none=>simp[hz] at h
  | some z =>
   simp only[Option.bind_some,hz] at h
   split at h
   ·rename_i ha
    simp at h
    refine⟨z,by simp[zeroValue,run_typeInfo w hi,hz],h.symm,?_,i,rfl,hz⟩
    rw[<-h]
    exact List.all_eq_true.1 ha
   cases h
theorem dt {t e:TypeId}(h:cr P t=some e):P.underlying t=some (.slice e):=by
 unfold cr at h
 split at h
 ·rename_i x hx;simp at h;subst h;exact hx
 cases h
theorem dm (b o n:Nat):(⟨b,o,none⟩:Addr).add n=⟨b,o+n,none⟩:=by
 unfold Addr.add;split<;>simp_all
theorem run_loadCellsFrom (b o:Nat):∀(vs:List Value) (i:Nat) (acc:Array Value),(∀j v,vs[j]? = some v->w.cell? ⟨b,o+i+j,none⟩=some v) ->
  (loadCellsFrom ⟨b,o,none⟩ i vs.length acc).run P w=.ok (acc++vs.toArray) w
 |[],i,acc,_=>by simp[loadCellsFrom]
 | v::r,i,acc,h=>by
  have h0:=h 0 v rfl
  simp only[Nat.add_zero] at h0
  have ih:=run_loadCellsFrom b o r (i+1) (acc.push v) (fun j u hu=>by
   have:=h (j+1) u (by simpa using hu)
   rwa [show o+i+(j+1)=o+(i+1)+j by omega] at this)
  simp only[List.length_cons,loadCellsFrom,Sem.run_bind,dm,run_load,h0,Result.andThen_ok,ih]
  simp
theorem run_loadCells' (b o:Nat)(vs:List Value)(h:∀(j:Nat) (v:Value),vs[j]? = some v->w.cell? ⟨b,o+j,none⟩=some v):(loadCells ⟨b,o,none⟩ vs.length).run P w=.ok vs.toArray w:=by
 unfold loadCells
 rw[run_loadCellsFrom b o vs 0 #[] (fun j v hj=>by simpa using h j v hj)]
 simp
end
section
variable {P:Program} {E:Env} {H:aa} {w:World}
def ard (H:aa) (b o:Nat):Option AV :=
 match H[b]? with
 |some (.cells _ _ xs)=>xs[o]?
 |_=>none
def ards (H:aa) (b o n:Nat):Option (List AV) :=
 match H[b]? with
 |some (.cells _ _ xs)=>if o+n<=xs.length\/n=0 then some ((xs.drop o).take n) else none
 |_=>none
theorem p6 (h:Emb E H w){b o:Nat}{x:AV}(hx:ard H b o=some x):x.one=true/\∃v,w.cell? ⟨(E.loc b).blk,(E.loc b).off+o,none⟩=some v/\Rel E x v:=by
 unfold ard at hx
 split at hx
 ·rename_i own es xs hb
  exact(h.blk b _ hb).1 o x hx
 cases hx
theorem fv (h:Emb E H w){b o n:Nat}{xs:List AV}(hx:ards H b o n=some xs):xs.length=n/\(∀x∈xs,x.one=true)/\∃vs:List Value,RelL E xs vs/\∀(j:Nat) (v:Value),vs[j]? = some v->w.cell? ⟨(E.loc b).blk,(E.loc b).off+o+j,none⟩=some v:=by
 unfold ards at hx
 split at hx
 ·rename_i own es ys hb
  split at hx
  ·rename_i hl
   simp at hx
   have hlen:xs.length=n:=by rw[<-hx];simp;omega
   have hk:=(h.blk b _ hb).1
   have hcell:∀j x,xs[j]? = some x->x.one=true/\∃v,w.cell? ⟨(E.loc b).blk,(E.loc b).off+o+j,none⟩=some v/\Rel E x v:=fun j x hj=>by
    rw[<-hx,List.getElem?_take] at hj
    split at hj
    ·rw[List.getElem?_drop] at hj
     have:=hk _ x hj
     rwa [<-Nat.add_assoc] at this
    cases hj
   obtain ⟨vs,hvl,hvs⟩:=mg (p:=fun j v=>w.cell? ⟨(E.loc b).blk,(E.loc b).off+o+j,none⟩=some v/\∀x,xs[j]? = some x->Rel E x v) n (fun j hj=>by
    have hj':j<xs.length:=by omega
    obtain⟨-,v,hv,hr⟩:=hcell j xs[j] (List.getElem?_eq_getElem hj')
    exact⟨v,hv,fun x hx=>by rw[List.getElem?_eq_getElem hj'] at hx;simp at hx;subst hx;exact hr⟩)
   refine⟨hlen,fun x hxm=>?_,vs,⟨by omega,fun i x v hi hv=>(hvs i v hv).2 x hi⟩,fun j v hv=>(hvs j v hv).1⟩
   obtain⟨j,hj⟩:=List.mem_iff_getElem?.1 hxm
   exact(hcell j x hj).1
  cases hx
 cases hx
def aLoad (P:Program) (t:TypeId) (x:AV) (H:aa):Option (AV×aa) :=
 match x with
 |.ptr (some (b,o))=>(aM P t).bind fun g=>bif g then (tSz P t).bind fun n=>(ards H b o n).map fun l=>(.agg l,H) else (ard H b o).map fun v=>(v,H)
 |_=>none
theorem snd_load (h:Emb E H w){t:TypeId}{x:AV}{v:Value}(hv:Rel E x v){r:AV×aa}(hr:aLoad P t x H=some r):Snd P E w (Instr.loadAt t v) r:=by
 unfold aLoad at hr
 split at hr
 ·rename_i b o
  cases hv with
  |ptr _ _ hb =>
  cases hg:aM P t with
  |none=>simp[hg] at hr
  | some g =>
   simp only[hg,Option.bind_some] at hr
   cases g
   ·simp only[cond_false,Option.map_eq_some_iff] at hr
    obtain⟨y,hy,rfl⟩:=hr
    obtain⟨-,u,hu,hru⟩:=p6 h hy
    exact .of_run h (by simp[Instr.loadAt,Instr.sureAddr,loadVar,run_isAgg hg,hu]) hru
   simp only[cond_true] at hr
   cases hn:tSz P t with
   |none=>simp[hn] at hr
   | some n =>
    simp only[hn,Option.bind_some,Option.map_eq_some_iff] at hr
    obtain⟨l,hl,rfl⟩:=hr
    obtain⟨h1,-,vs,h2,h3⟩:=fv h hl
    have hrun:=run_loadCells' (P:=P) (w:=w) (E.loc b).blk ((E.loc b).off+o) vs h3
    rw[<-h2.1,h1] at hrun
    exact .of_run h (by simp[Instr.loadAt,Instr.sureAddr,loadVar,run_isAgg hg,run_sizeOf' hn,hrun]) h2.agg
 cases hr
def splice:List AV->Nat->List AV->List AV
 |xs,_,[]=>xs
 |xs,o,y::r=>splice (xs.set o y) (o+1) r
def awrite (H:aa) (b o:Nat) (ys:List AV):Option aa :=
 match H[b]? with
 |some (.cells true es xs)=>if o+ys.length<=xs.length/\ys.all AV.one=true then some (H.set b (.cells true es (splice xs o ys))) else none
 |_=>none
theorem kU (g:Nat):∀(vs:List Value) (o:Nat) (w:World) (p:Addr),(∀j,j<vs.length->(w.cell? ⟨g,o+j,none⟩).isSome=true) ->
  (w.setCells g o vs).cell? p=if p.block=g/\p.spot=none/\o<=p.off/\p.off<o+vs.length then vs[p.off-o]? else w.cell? p
 |[],o,w,p,_=>by simp[World.setCells];intros;omega
 | v :: r,o,w,p,hc=>by
  have h0:(w.cell? ⟨g,o,none⟩).isSome=true:=by have:=hc 0 (by simp);simpa using this
  obtain⟨u,hu⟩:=Option.isSome_iff_exists.1 h0
  have hc':∀j,j<r.length->((w.setCell ⟨g,o,none⟩ v).cell? ⟨g,o+1+j,none⟩).isSome=true:=fun j hj=>by
   rw[World.cell?_setCell_other _ _ _ _ (by intro e;injection e;omega)]
   have:=hc (j+1) (by simp;omega)
   rwa [show o+(j+1)=o+1+j by omega] at this
  have ih:=kU g r (o+1) (w.setCell ⟨g,o,none⟩ v) p hc'
  show ((w.setCell ⟨g,o,none⟩ v).setCells g (o+1) r).cell? p=_
  rw[ih]
  obtain⟨pb,po,ps⟩:=p
  by_cases hp:pb=g/\ps=none
  ·obtain⟨rfl,rfl⟩:=hp
   simp only[true_and,List.length_cons]
   by_cases h1:o+1<=po/\po<o+1+r.length
   ·rw[if_pos h1,if_pos (by omega),show po-o=(po-(o+1))+1 by omega,List.getElem?_cons_succ]
   rw[if_neg h1]
   by_cases h2:po=o
   ·subst h2
    rw[if_pos (by omega),World.cell?_setCell_same _ _ _ hu]
    simp
   rw[if_neg (by omega),World.cell?_setCell_other _ _ _ _ (by intro e;injection e;omega)]
  rw[if_neg (fun h=>hp ⟨h.1,h.2.1⟩),if_neg (fun h=>hp ⟨h.1,h.2.1⟩),World.cell?_setCell_other _ _ _ _ (by intro e;apply hp;injection e with e1 e2 e3;exact⟨e1.symm,e3.symm⟩)]
theorem jq (g:Nat):∀(vs:List Value) (o:Nat) (w:World) (p:Addr),(w.setCells g o vs).frozen? p=w.frozen? p
 |[],_,_,_=>rfl
 | v::r,o,w,p=>by
  show ((w.setCell ⟨g,o,none⟩ v).setCells g (o+1) r).frozen? p=_
  rw[jq g r (o+1) _ p,World.frozen?_setCell]
theorem iq (g:Nat):∀(vs:List Value) (o:Nat) (w:World) (k:Nat),k≠g->(w.setCells g o vs).heap[k]? = w.heap[k]?
 |[],_,_,_,_=>rfl
 | v::r,o,w,k,hk=>by
  show ((w.setCell ⟨g,o,none⟩ v).setCells g (o+1) r).heap[k]? = _
  rw[iq g r (o+1) _ k hk]
  exact Below.heap_setCell _ _ _ _ hk
theorem fW (g:Nat):∀(vs:List Value) (o:Nat) (w:World),(w.setCells g o vs).heap.size=w.heap.size
 |[],_,_=>rfl
 | v::r,o,w=>by
  show ((w.setCell ⟨g,o,none⟩ v).setCells g (o+1) r).heap.size=_
  rw[fW g r (o+1) _];simp
theorem jF {B:Nat}(a:World)(g:Nat)(hg:B<=g):∀(vs:List Value) (o:Nat) (w:World),Below B a w->Below B a (w.setCells g o vs)
 |[],_,_,h=>h
 |v::r,o,_,h=>jF a g hg r (o+1) _ (h.setCell hg v)
theorem nh:∀(ys xs:List AV) (o:Nat),(splice xs o ys).length=xs.length
 |[],_,_=>rfl
 |y::r,xs,o=>by unfold splice;rw[nh r];simp
theorem fX {xs ys:List AV}{o:Nat}(_h:o+ys.length<=xs.length):(splice xs o ys).length=xs.length:=nh ys xs o
theorem iG:∀{ys xs:List AV}{o:Nat}(_h:o+ys.length<=xs.length) (j:Nat),(splice xs o ys)[j]? = if o<=j/\j<o+ys.length then ys[j-o]? else xs[j]?
 |[],xs,o,_,j=>by unfold splice;rw[if_neg (fun h=>by simp only[List.length_nil] at h;omega)]
 | y::r,xs,o,h,j=>by
  unfold splice
  simp only[List.length_cons] at h ⊢
  rw[iG (by rw[List.length_set];omega) j]
  by_cases h1:o+1<=j/\j<o+1+r.length
  ·rw[if_pos h1,if_pos (by omega),show j-o=j-(o+1)+1 by omega,List.getElem?_cons_succ]
  rw[if_neg h1,List.getElem?_set]
  by_cases h2:o=j
  ·subst h2
   rw[if_pos rfl,if_pos (by omega),if_pos (by omega),Nat.sub_self];rfl
  rw[if_neg h2,if_neg (by omega)]
theorem ni:∀{ys xs:List AV}{o:Nat}{x:AV},x∈splice xs o ys->x∈xs\/x∈ys
 |[],_,_,_,h=>.inl h
 | y::r,xs,o,x,h=>by
  unfold splice at h
  rcases ni h with h|h
  ·rcases List.mem_or_eq_of_mem_set h with h|h
   ·exact .inl h
   exact .inr (by simp[h])
  exact .inr (by simp[h])
theorem Emb.write (h:Emb E H w){b o:Nat}{ys:List AV}{vs:List Value}(hr:RelL E ys vs){H':aa}(hw:awrite H b o ys=some H'):
  (∀v∈vs,v.oneCell'=true)/\(∀j,j<vs.length->(w.cell? ⟨(E.loc b).blk,(E.loc b).off+o+j,none⟩).isSome=true)/\(∀j,j<vs.length->w.frozen? ⟨(E.loc b).blk,(E.loc b).off+o+j,none⟩=false) /\
   Emb E H' (w.setCells (E.loc b).blk ((E.loc b).off+o) vs):=by
 unfold awrite at hw
 split at hw
 ·rename_i es xs hb
  split at hw
  ·rename_i hc
   obtain⟨hlen,hone⟩:=hc
   simp at hw
   subst hw
   have hk:=h.blk b _ hb
   obtain⟨k1,k2,k3,k4,k5⟩:=hk.2.1 rfl
   have hall:∀j,j<vs.length->(w.cell? ⟨(E.loc b).blk,(E.loc b).off+o+j,none⟩).isSome=true/\w.frozen? ⟨(E.loc b).blk,(E.loc b).off+o+j,none⟩=false:=fun j hj=>by
    have:=k5 (o+j) (by have:=hr.1;omega)
    rwa [<-Nat.add_assoc] at this
   have hcells:∀v∈vs,v.oneCell'=true:=fun v hv=>by
    obtain⟨i,hi⟩:=List.mem_iff_getElem?.1 hv
    have hi':i<ys.length:=by have:=getElem?_lt hi;have:=hr.1;omega
    exact(hr.2 i ys[i] v (List.getElem?_eq_getElem hi') hi).one (by simp at hone;exact hone _ (List.getElem_mem hi'))
   refine⟨hcells,fun j hj=>(hall j hj).1,fun j hj=>(hall j hj).2,?_⟩
   have hbl:=getElem?_lt hb
   have hcell:=kU (E.loc b).blk vs ((E.loc b).off+o) w
   have hget:∀c x,(H.set b (.cells true es (splice xs o ys)))[c]? = some x->(c=b/\x=.cells true es (splice xs o ys))\/(c≠b/\H[c]? = some x):=fun c x hx=>by
    rw[List.getElem?_set] at hx
    by_cases e:b=c
    ·subst e;simp[hbl] at hx;exact .inl ⟨rfl,hx.symm⟩
    rw[if_neg e] at hx;exact .inr ⟨fun e'=>e e'.symm,hx⟩
   refine⟨by simp[h.n],jF _ _ k1 _ _ _ h.below,by rw[fW];exact h.base,fun c x hx=>?_,fun c d x y hx hy ox oy hcd=>?_⟩
   ·rcases hget c x hx with ⟨rfl,rfl⟩|⟨hcb,hx⟩
    ·refine⟨fun j x hj=>?_,fun _=>⟨k1,by rw[fW];exact k2,k3,by rw[fX hlen];exact k4,fun j hj=>?_⟩,(fun hf=>by cases hf),k3⟩
     ·rw[iG hlen] at hj
      rw[hcell _ (fun j hj=>(hall j hj).1)]
      simp only[true_and]
      split at hj
      ·rename_i hin
       rw[if_pos (by have:=hr.1;omega),show (E.loc c).off+j-((E.loc c).off+o)=j-o by omega]
       obtain⟨v,hv,hrv⟩:=hr.get hj
       exact⟨by simp at hone;exact hone x (List.mem_of_getElem? hj),v,hv,hrv⟩
      rename_i hin
      rw[if_neg (by have:=hr.1;omega)]
      exact hk.1 j x hj
     rw[hcell _ (fun j hj=>(hall j hj).1),jq]
     refine⟨?_,(k5 j hj).2⟩
     split
     ·rename_i hin
      obtain⟨-,-,q1,q2⟩:=hin
      simp only at q1 q2
      rw[List.getElem?_eq_getElem (by show (E.loc c).off+j-((E.loc c).off+o)<_;omega)];rfl
     exact(k5 j hj).1
    have hne:x.owned=true->(E.loc c).blk≠(E.loc b).blk:=fun ho=>h.inj c b x _ hx hb ho rfl hcb
    refine(h.blk c x hx).mono (.refl E) (by rw[fW];exact Nat.le_refl _) (fun ho=>iq _ _ _ _ _ (hne ho)) (fun hB=>iq _ _ _ _ _ (by omega))
   have ow:∀(c:Nat) (x:ABlk),(H.set b (.cells true es (splice xs o ys)))[c]? = some x->x.owned=true->∃x':ABlk,H[c]? = some x'/\x'.owned=true:=fun c x hx ho=>by
    rcases hget c x hx with ⟨rfl,rfl⟩|⟨_,hx⟩
    ·exact⟨_,hb,rfl⟩
    exact⟨x,hx,ho⟩
   obtain⟨x',hx',ox'⟩:=ow c x hx ox
   obtain⟨y',hy',oy'⟩:=ow d y hy oy
   exact h.inj c d x' y' hx' hy' ox' oy' hcd
  cases hw
 cases hw
def AV.flat:AV->Bool
 |.any | .tup _=>false
 |.agg cs=>cs.all AV.one
 |_=>true
theorem AV.flat_one {y:AV}(h:y.flat=true):(∀x∈y.cells,x.one=true)/\(y.one=true\/∃cs,y=.agg cs):=by
 cases y<;>simp[AV.flat,AV.cells,AV.one] at h ⊢
 exact h
def aStore (P:Program) (t:TypeId) (x y:AV) (H:aa):Option aa :=
 match x with
 |.ptr (some (b,o))=>(bu (tSz P t=some y.cells.length/\y.flat=true)).bind fun _=>awrite H b o y.cells
 |_=>none
end
end Go.Proofs.YtkkhdehdaaealaaGreat
/- The abstract machine's other operations on memory: new variables, literals, fields, indexes, slices, make, append. Conditions: as each theorem states. -/
namespace Go.Proofs.YtkkhdehdaaealaaGreat
open Go.RowKit
section
variable {P:Program} {E:Env} {H:aa} {w:World}

theorem snd_store (h:Emb E H w){t:TypeId}{x y:AV}{v u:Value}(hv:Rel E x v)(hu:Rel E y u){H':aa}(hr:aStore P t x y H=some H'):SndU P E w (Instr.storeAt t v u) H':=by
 unfold aStore at hr
 split at hr
 ·rename_i b o
  cases hv with
  |ptr _ _ hb =>
  cases hn:bu (tSz P t=some y.cells.length/\y.flat=true) with
  |none=>rw[hn] at hr;cases hr
  | some q =>
   rw[hn] at hr
   simp only[Option.bind_some] at hr
   obtain⟨h1,h2⟩:=dj hn
   obtain⟨f1,f2⟩:=AV.flat_one h2
   have hcs:=hu.cells f2
   obtain⟨w1,w2,w3,w4⟩:=h.write hcs hr
   have hrun:=run_storeCells_cells (P:=P) (E.loc b).blk ((E.loc b).off+o) u.cells.toList 0 w (by simpa using w2) (by simpa using w3) w1
   have hsz:u.cells.size=y.cells.length:=by have:=hcs.1;simpa using this.symm
   rw[Nat.add_zero] at hrun
   exact⟨E,_,by simp only[Instr.storeAt,Instr.sureAddr,storeVar,Sem.run_bind,Sem.run_pure,Result.andThen_ok,run_sizeOf' h1,hsz,ne_eq,not_true,if_false,hrun],.refl E,w4⟩
 cases hr
def aNew (es:Nat) (xs:List AV) (H:aa):AV×aa:=(.ptr (some (H.length,0)),H++[.cells true es xs])
theorem nj (h:Emb E H w){xs:List AV}{v:Value}(hr:RelL E xs v.cells.toList)(ho:∀x∈xs,x.one=true)(t:TypeId):
  Snd P E w (do Pure.pure (.pointer (some (<-newVar t v)))) (aNew 0 xs H):=by
 have hE:=h.alloc 0 hr ho t
 have hp:Rel (E.push ⟨w.heap.size,0,xs.length,0⟩) (.ptr (some (H.length,0))) (.pointer (some ⟨w.heap.size,0,none⟩)):=by
  have:=Rel.ptr (E:=E.push ⟨w.heap.size,0,xs.length,0⟩) H.length 0 (by simp[Env.push,h.n])
  rw[<-h.n,Env.push_new] at this
  simpa [h.n] using this
 refine⟨_,_,_,?_,E.le_push _,hp,hE⟩
 simp[newVar,newRow]
def aAlloc (P:Program) (t:TypeId) (H:aa):Option (AV×aa):=(aE P t).map fun z=>aNew 0 z H
theorem snd_alloc (h:Emb E H w){t:TypeId}{r:AV×aa}(hr:aAlloc P t H=some r):Snd P E w (Instr.alloc t true (.tuple #[])) r:=by
 unfold aAlloc at hr
 cases hz:aE P t with
 |none=>simp[hz] at hr
 | some l =>
  simp[hz] at hr;subst hr
  obtain⟨z,h1,h2,h3,-⟩:=run_zero (w:=w) hz
  obtain⟨E',v,w',k1,k2,k3,k4⟩:=nj (P:=P) h (xs:=l) (v:=z) (by rw[h2];exact fp E _) h3 t
  refine⟨E',v,w',?_,k2,k3,k4⟩
  simp only[Instr.alloc,Sem.run_bind,h1,Result.andThen_ok]
  exact k1
def aBox (x:AV) (H:aa):Option (AV×aa):=(bu (x.flat=true)).map fun _=>aNew 0 x.cells H
theorem snd_box (h:Emb E H w){t:TypeId}{x:AV}{v:Value}(hv:Rel E x v){r:AV×aa}(hr:aBox x H=some r):Snd P E w (Instr.box t v) r:=by
 unfold aBox at hr
 cases hn:bu (x.flat=true) with
 |none=>simp[hn] at hr
 | some q =>
  simp[hn] at hr;subst hr
  obtain⟨f1,f2⟩:=AV.flat_one (dj hn)
  exact nj (P:=P) h (hv.cells f2) f1 t

def afill (pl:List (Nat×Nat)):List AV->List (Nat×AV)->Option (List AV)
 |cs,[]=>some cs
 | cs,(i,v)::rest =>
  match pl[i]? with
  |none=>none
  |some (off,size)=>if v.flat=true/\v.cells.length=size/\off+size<=cs.length then afill pl (splice cs off v.cells) rest else none
theorem p7:∀(l:List Value) (k off:Nat) (cs:Array Value),((l.zipIdx k).foldl (fun cs p=>cs.setIfInBounds (off+p.2) p.1) cs).size=cs.size /\
  ∀i,i<cs.size->((l.zipIdx k).foldl (fun cs p=>cs.setIfInBounds (off+p.2) p.1) cs)[i]? = if off+k<=i/\i<off+k+l.length then l[i-(off+k)]? else cs[i]?
 |[],k,off,cs=>⟨by simp,fun i hi=>by simp;intros;omega⟩
 | v::l,k,off,cs=>by
  obtain⟨h1,h2⟩:=p7 l (k+1) off (cs.setIfInBounds (off+k) v)
  simp only[List.zipIdx_cons,List.foldl_cons]
  refine⟨by rw[h1];simp,fun i hi=>?_⟩
  rw[h2 i (by simpa using hi)]
  simp only[List.length_cons]
  by_cases e:i=off+k
  ·subst e
   rw[if_neg (by omega),if_pos (by omega)]
   simp[hi]
  by_cases e2:off+(k+1)<=i/\i<off+(k+1)+l.length
  ·rw[if_pos e2,if_pos (by omega),show i-(off+k)=i-(off+(k+1))+1 by omega,List.getElem?_cons_succ]
  rw[if_neg e2,if_neg (by omega),Array.getElem?_setIfInBounds_ne (by omega)]
theorem rz {xs ys:List AV}{cs:Array Value}{us:List Value}(h:RelL E xs cs.toList)(k:RelL E ys us){o:Nat}(ho:o+ys.length<=xs.length):
  RelL E (splice xs o ys) ((us.zipIdx 0).foldl (fun cs p=>cs.setIfInBounds (o+p.2) p.1) cs).toList:=by
 obtain⟨h1,h2⟩:=p7 us 0 o cs
 have hl:=h.1
 simp at hl
 refine⟨by rw[fX ho];simp[h1,hl],fun i x v hx hv=>?_⟩
 have hi:i<xs.length:=by have:=getElem?_lt hx;rwa [fX ho] at this
 rw[Array.getElem?_toList,h2 i (by omega)] at hv
 rw[iG ho] at hx
 simp only[Nat.add_zero] at hv
 have:=k.1
 split at hx
 ·rw[if_pos (by omega)] at hv;exact k.2 _ x v hx hv
 rw[if_neg (by omega)] at hv;exact h.2 i x v hx (by simpa using hv)
theorem mz (pl:List (Nat×Nat))(place:Nat->Option (Nat×Nat))(hp:∀i p,pl[i]? = some p->place i=some p):∀(parts:List (Nat×AV)) (vparts:List (Nat×Value)) (xs:List AV) (cs:Array Value) (r:List AV),
  parts.map (·.1)=vparts.map (·.1)->RelL E (parts.map (·.2)) (vparts.map (·.2))->RelL E xs cs.toList->(∀x∈xs,x.one=true)->afill pl xs parts=some r ->
  ∃cs':Array Value,Instr.fill place cs vparts=some cs'/\RelL E r cs'.toList/\∀x∈r,x.one=true
 | [],vparts,xs,cs,r,h1,h2,h3,h4,h5=>by
  simp at h1;subst h1
  simp[afill] at h5;subst h5
  exact⟨cs,by simp[Instr.fill],h3,h4⟩
 |(i,x)::rest,[],xs,cs,r,h1,h2,h3,h4,h5=>by simp at h1
 | (i,x)::rest,(j,v)::vrest,xs,cs,r,h1,h2,h3,h4,h5=>by
  simp at h1
  obtain⟨rfl,h1⟩:=h1
  obtain⟨hx,hrest⟩:=RelL.uncons (by simpa using h2)
  unfold afill at h5
  split at h5
  ·cases h5
  rename_i off size hpl
  split at h5
  ·rename_i hc
   obtain⟨hf,hsz,hoff⟩:=hc
   obtain⟨f1,f2⟩:=AV.flat_one hf
   have hcs:=hx.cells f2
   have hvs:v.cells.size=size:=by have:=hcs.1;simp at this;omega
   have hcl:cs.size=xs.length:=by have:=h3.1;simp at this;omega
   have hsp:=rz h3 hcs (o:=off) (by omega)
   have hone:∀y∈splice xs off x.cells,y.one=true:=fun y hy=>by
    rcases ni hy with hy|hy
    ·exact h4 y hy
    exact f1 y hy
   obtain⟨cs',k1,k2,k3⟩:=mz pl place hp rest vrest _ _ r (by simpa using h1) hrest hsp hone h5
   refine⟨cs',?_,k2,k3⟩
   unfold Instr.fill
   rw[hp _ _ hpl]
   simp only
   rw[if_neg (by simp[hvs];omega),<-k1]
   congr 1
   rw[<-Array.foldl_toList,Array.toList_zipIdx]
  cases h5
def aV (P:Program) (t:TypeId):Option (List (Nat×Nat)) :=
 match P.underlying t with
 |some (.struct fields)=>fields.toList.mapM fun f=>(P.info? f.type).map fun i=>(f.offset,i.size)
 |some (.array n e)=>(tSz P e).map fun s=>(List.range n).map fun i=>(i*s,s)
 |_=>none
def aBuild (P:Program) (t:TypeId) (parts:List (Nat×AV)):Option AV:=(aE P t).bind fun z=>(aV P t).bind fun pl=>(afill pl z parts).map AV.agg
theorem i7 {F:Fr}{a:Act}(ps:List Operand)(hF:∀p∈ps,Rel E (aev F p) (a.eval p)):RelL E (ps.map (aev F)) (ps.map a.eval) :=
 ⟨by simp,fun i x v hx hv=>by
  rw[List.getElem?_map] at hx hv
  cases hp:ps[i]? with
  |none=>rw[hp] at hx;cases hx
  |some p=>rw[hp] at hx hv;simp at hx hv;subst hx hv;exact hF p (List.mem_of_getElem? hp)⟩
theorem snd_build (h:Emb E H w){F:Fr}{a:Act}{t:TypeId}{parts:Array (Nat×Operand)}(hF:∀p∈parts.toList.map (·.2),Rel E (aev F p) (a.eval p)){x:AV}(hr:aBuild P t (parts.toList.map fun p=>(p.1,aev F p.2))=some x):
  Snd P E w (Instr.build t (parts.map fun (i,x)=>(i,a.eval x))) (x,H):=by
 unfold aBuild at hr
 cases hz:aE P t with
 |none=>simp[hz] at hr
 | some z =>
  cases hpl:aV P t with
  |none=>simp[hz,hpl] at hr
  | some pl =>
   simp only[hz,hpl,Option.bind_some,Option.map_eq_some_iff] at hr
   obtain⟨l,hl,rfl⟩:=hr
   obtain⟨zv,z1,z2,z3,i,z4,z5⟩:=run_zero (w:=w) hz
   have hp2:=i7 (parts.toList.map (·.2)) hF
   have go:∀place,(∀i p,pl[i]? = some p->place i=some p)->∃cs',Instr.fill place zv.cells (parts.map fun (i,x)=>(i,a.eval x)).toList=some cs'/\RelL E l cs'.toList:=fun place hplace=>by
    obtain ⟨cs',k1,k2,-⟩:=mz (E:=E) pl place hplace (parts.toList.map fun p=>(p.1,aev F p.2)) (parts.map fun (i,x)=>(i,a.eval x)).toList z zv.cells l
     (by simp) (by simpa [Function.comp_def] using hp2) (by rw[z2];exact fp E _) z3 hl
    exact⟨cs',k1,k2⟩
   unfold aV at hpl
   cases hu:P.underlying t with
   |none=>rw[hu] at hpl;cases hpl
   | some d =>
    rw[hu] at hpl
    cases d<;>try (simp at hpl;done)
    ·rename_i n e
     simp only[Option.map_eq_some_iff] at hpl
     obtain⟨s,hs,hpl⟩:=hpl
     obtain ⟨ie,hie,hies⟩:∃ie,P.info? e=some ie/\ie.size=s:=by
      unfold tSz at hs
      cases hie:P.info? e with
      |none=>rw[hie] at hs;cases hs
      |some ie=>rw[hie] at hs;simp at hs;exact⟨ie,rfl,hs⟩
     obtain ⟨cs',k1,k2⟩:=go (fun i=>some (i*s,s)) (fun i p hip=>by
      rw[<-hpl,List.getElem?_map] at hip
      cases hri:(List.range n)[i]? with
      |none=>rw[hri] at hip;cases hip
      | some q =>
       rw[hri] at hip
       obtain⟨q1,q2⟩:=List.getElem?_eq_some_iff.1 hri
       simp at q2 hip
       subst q2
       rw[<-hip])
     refine .of_run h (run_build w t _ cs' ?_) (by simpa using k2.agg)
     unfold Program.built
     rw[z4,hu]
     simp only[z5,hie,hies]
     exact k1
    rename_i fields
    obtain⟨cs',k1,k2⟩:=go (pl.toArray[·]?) (fun i p hip=>by simpa using hip)
    refine .of_run h (run_build w t _ cs' ?_) (by simpa using k2.agg)
    unfold Program.built
    rw[z4,hu]
    simp only[z5,hpl]
    exact k1
def arep (z:List AV) (m:Nat):List AV :=
 match z with
 |[x]=>List.replicate m x
 |_=>(List.range (m*z.length)).map fun j=>z.getD (j%z.length) .any
theorem mA {z:List AV}{zv:Value}(hz:z=zv.cells.toList.map AV.ofCell)(ho:∀x∈z,x.one=true)(h0:0<z.length)(m:Nat):
  RelL E (arep z m) (madeCells zv.cells (m*zv.cells.size)).toList/\(arep z m).length=m*z.length/\∀x∈arep z m,x.one=true:=by
 have hlen:z.length=zv.cells.size:=by rw[hz];simp
 have hget:∀j:Nat,j<m*z.length->(arep z m)[j]? = some (z.getD (j%z.length) .any):=fun j hj=>by
  unfold arep
  split
  ·simp only[List.length_cons,List.length_nil,Nat.zero_add,Nat.mul_one] at hj
   rw[List.getElem?_replicate,if_pos hj]
   simp[Nat.mod_one]
  simp[hj]
 have hal:(arep z m).length=m*z.length:=by
  unfold arep
  split<;>simp
 refine⟨⟨by rw[hal];simp[madeCells,hlen],fun i x v hx hv=>?_⟩,hal,fun x hx=>?_⟩
 ·have hi:i<m*z.length:=by have:=getElem?_lt hx;rwa [hal] at this
  rw[hget i hi] at hx
  simp at hx
  rw[Array.getElem?_toList,madeCells,Array.getElem?_map,Option.map_eq_some_iff] at hv
  obtain⟨q,hq,hv⟩:=hv
  obtain⟨q1,q2⟩:=Array.getElem?_eq_some_iff.1 hq
  simp at q2
  subst q2
  have hmod:i%zv.cells.size<zv.cells.size:=Nat.mod_lt _ (by omega)
  rw[getElem!_pos zv.cells _ hmod] at hv
  subst hv
  rw[<-hx,hlen,hz]
  simp[hmod]
  exact iF E _
 obtain⟨j,hj⟩:=List.mem_iff_getElem?.1 hx
 have hi:j<m*z.length:=by have:=getElem?_lt hj;rwa [hal] at this
 rw[hget j hi] at hj
 simp at hj
 have hmod:j%z.length<z.length:=Nat.mod_lt _ h0
 rw[<-hj]
 simp only[List.getElem?_eq_getElem hmod,Option.getD_some]
 exact ho _ (List.getElem_mem hmod)
theorem kZ (h:Emb E H w){es n c k:Nat}(hn:n<=c)(hc:c<=maxLen)(hk:c*es<=k):Rel (E.push ⟨w.heap.size,0,k,es⟩) (.sl (some (H.length,0)) n (some c)) (.slice (some ⟨w.heap.size,0,none⟩) n c):=by
 have e:=Env.push_new E ⟨w.heap.size,0,k,es⟩
 rw[h.n] at e
 exact Rel.sl H.length 0 n (some c) c _ (by simp[Env.push,h.n]) hn hc (.inr rfl) (.inr (by rw[e])) (by rw[e];simpa using hk)
def aMakeSlice (P:Program) (t:TypeId) (l c:AV) (H:aa):Option (AV×aa) :=
 match l,c with
 | .int _ n,.int _ m=>(cr P t).bind fun e=>(aE P e).bind fun z=>(tSz P e).bind fun s=>(aB P e).bind fun by_ =>
   (bu (0<=n/\n<=m/\m<=9223372036854775807/\(by_:Int)*m<=281474976710656/\z.length=s/\0<s)).map fun _=>(.sl (some (H.length,0)) n.toNat (some m.toNat),H++[.cells true s (arep z m.toNat)])
 |_,_=>none
theorem pU (h:Emb E H w){t:TypeId}{l c:AV}{lv cv:Value}(hl:Rel E l lv)(hc:Rel E c cv){r:AV×aa}(hr:aMakeSlice P t l c H=some r):Snd P E w (Instr.makeSlice t lv cv) r:=by
 unfold aMakeSlice at hr
 split at hr
 ·rename_i k1 n k2 m
  cases hl
  cases hc
  cases he:cr P t with
  |none=>simp[he] at hr
  |some e =>
  cases hz:aE P e with
  |none=>simp[he,hz] at hr
  |some z =>
  cases hs:tSz P e with
  |none=>simp[he,hz,hs] at hr
  |some s =>
  cases hb:aB P e with
  |none=>simp[he,hz,hs,hb] at hr
  | some by_ =>
   simp only[he,hz,hs,hb,Option.bind_some,Option.map_eq_some_iff] at hr
   obtain⟨u,hu,rfl⟩:=hr
   obtain⟨n1,n2,n3,n4,n5,n6⟩:=dj hu
   obtain⟨zv,z1,z2,z3,i,z4,z5⟩:=run_zero (w:=w) hz
   obtain⟨i',hi',hby⟩:=run_bytes hb
   rw[z4] at hi';simp at hi';subst hi'
   have hsz:i.size=s:=by unfold tSz at hs;rw[z4] at hs;simpa using hs
   have hzl:zv.cells.size=s:=by rw[<-n5,z2];simp
   obtain⟨a1,a2,a3⟩:=mA (E:=E) z2 z3 (by omega) m.toNat
   have hE:=h.alloc s a1 a3 e
   have hrun:=run_make w t e i zv (dt he) z4 z5 k1 k2 n m n1 n2 (by rw[hby];exact n4) n3
   refine⟨E.push ⟨w.heap.size,0,(arep z m.toNat).length,s⟩,_,_,hrun,E.le_push _,kZ h (by omega) (by simp[maxLen];omega) (by rw[a2,n5];exact Nat.le_refl _),?_⟩
   have hzi:i.size=zv.cells.size:=by omega
   rw[hzi]
   simpa using hE
 cases hr
end
end Go.Proofs.YtkkhdehdaaealaaGreat
/- The abstract machine's operations on values: fields, indexes, slices, numbers, comparisons. Conditions: as each theorem states. -/
namespace Go.Proofs.YtkkhdehdaaealaaGreat
open Go.RowKit
section
variable {P:Program} {E:Env} {H:aa} {w:World}

def aBuildSlice (P:Program) (t:TypeId) (len:Nat) (parts:List (Nat×AV)) (H:aa):Option (AV×aa) :=
 (cr P t).bind fun e=>(aE P e).bind fun z=>(tSz P e).bind fun s =>
  (bu (z.length=s/\0<s/\len*s<=2 ^ 24)).bind fun _=>(afill ((List.range len).map fun i=>(i*s,s)) (arep z len) parts).map fun l=>(.sl (some (H.length,0)) len (some len),H++[.cells true s l])
theorem k7 (pl:List (Nat×Nat)):∀(parts:List (Nat×AV)) (xs r:List AV),afill pl xs parts=some r->r.length=xs.length
 |[],xs,r,h=>by simp[afill] at h;rw[h]
 | (i,v)::rest,xs,r,h=>by
  unfold afill at h
  split at h
  ·cases h
  split at h
  ·rename_i hc
   rw[k7 pl rest _ r h,fX (by omega)]
  cases h
theorem og (h:Emb E H w){F:Fr}{a:Act}{t:TypeId}{len:Nat}{parts:Array (Nat×Operand)}(hF:∀p∈parts.toList.map (·.2),Rel E (aev F p) (a.eval p)){r:AV×aa}(hr:aBuildSlice P t len (parts.toList.map fun p=>(p.1,aev F p.2)) H=some r):
  Snd P E w (Instr.buildSlice t len (parts.map fun (i,x)=>(i,a.eval x))) r:=by
 unfold aBuildSlice at hr
 cases he:cr P t with
 |none=>simp[he] at hr
 |some e =>
 cases hz:aE P e with
 |none=>simp[he,hz] at hr
 |some z =>
 cases hs:tSz P e with
 |none=>simp[he,hz,hs] at hr
 |some s =>
 simp only[he,hz,hs,Option.bind_some] at hr
 cases hn:bu (z.length=s/\0<s/\len*s<=2 ^ 24) with
 |none=>simp[hn] at hr
 |some u =>
 simp only[hn,Option.bind_some,Option.map_eq_some_iff] at hr
 obtain⟨l,hl,rfl⟩:=hr
 obtain⟨n1,n2,n3⟩:=dj hn
 obtain⟨zv,z1,z2,z3,i,z4,z5⟩:=run_zero (w:=w) hz
 have hsz:i.size=s:=by unfold tSz at hs;rw[z4] at hs;simpa using hs
 have hzl:zv.cells.size=s:=by rw[<-n1,z2];simp
 obtain⟨a1,a2,a3⟩:=mA (E:=E) z2 z3 (by omega) len
 have hp2:=i7 (parts.toList.map (·.2)) hF
 obtain ⟨cs',k1,k2,k3⟩:=mz (E:=E) _ (fun i=>some (i*s,s)) (fun i p hip=>by
   rw[List.getElem?_map] at hip
   cases hri:(List.range len)[i]? with
   |none=>rw[hri] at hip;cases hip
   | some q =>
    rw[hri] at hip
    obtain⟨q1,q2⟩:=List.getElem?_eq_some_iff.1 hri
    simp at q2 hip
    subst q2
    rw[<-hip]) (parts.toList.map fun p=>(p.1,aev F p.2)) (parts.map fun (i,x)=>(i,a.eval x)).toList _ (madeCells zv.cells (len*zv.cells.size)) l
   (by simp) (by simpa [Function.comp_def] using hp2) a1 a3 hl
 have hE:=h.alloc s k2 k3 e
 have hll:l.length=len*s:=by rw[k7 _ _ _ _ hl,a2,n1]
 refine⟨E.push ⟨w.heap.size,0,l.length,s⟩,_,w.alloc (.cells cs' e),?_,E.le_push _,kZ h (Nat.le_refl _) (by simp only[maxLen];have:len<=len*s:=Nat.le_mul_of_pos_right _ n2;omega) (by rw[hll];exact Nat.le_refl _),by simpa using hE⟩
 have hfill:Instr.fill (fun i=>some (i*s,s)) (madeCells zv.cells (len*s)) (parts.map fun (i,x)=>(i,a.eval x)).toList=some cs':=by rw[<-k1,hzl]
 unfold Instr.buildSlice
 simp only[Sem.run_bind,run_underlying (dt he),Result.andThen_ok,run_sizeOf' hs]
 rw[if_neg (by omega)]
 by_cases h0:len*s=0
 ·have hfill0:Instr.fill (fun i=>some (i*s,s)) ((Array.range (len*s)).map (#[][·%(#[]:Array Value).size]!)) (parts.map fun (i,x)=>(i,a.eval x)).toList=some cs':=by
   rw[<-hfill];congr 1;simp[madeCells,h0]
  rw[if_pos h0]
  simp only[Sem.run_bind,Sem.run_pure,Result.andThen_ok,hfill0]
  simp[newRow]
 rw[if_neg h0]
 simp only[Sem.run_bind,z1,Sem.run_pure,Result.andThen_ok]
 have hfill1:Instr.fill (fun i=>some (i*s,s)) ((Array.range (len*s)).map (zv.cells[·%zv.cells.size]!)) (parts.map fun (i,x)=>(i,a.eval x)).toList=some cs':=hfill
 simp only[hfill1]
 simp[newRow]

theorem oS {t:TypeId}{f o:Nat}{ty:TypeId}(h:au P t f=some (o,ty)):∃(fs:Array Field) (x:Field),P.underlying t=some (.struct fs)/\fs[f]? = some x/\x.offset=o/\x.type=ty:=by
 unfold au at h
 split at h
 ·rename_i fs hfs
  simp only[Option.map_eq_some_iff] at h
  obtain⟨x,hx,he⟩:=h
  injection he with e1 e2
  exact⟨fs,x,hfs,hx,e1,e2⟩
 cases h
def aFieldAddr (P:Program) (t:TypeId) (x:AV) (f:Nat):Option AV :=
 match x with
 |.ptr (some (b,o))=>(au P t f).bind fun p=>(tSz P p.2).bind fun s=>(bu (0<s)).map fun _=>.ptr (some (b,o+p.1))
 |_=>none
theorem pV (h:Emb E H w){t:TypeId}{x:AV}{v:Value}(hv:Rel E x v){f:Nat}{r:AV}(hr:aFieldAddr P t x f=some r):Snd P E w (Instr.fieldAt t v f) (r,H):=by
 unfold aFieldAddr at hr
 split at hr
 ·rename_i b o
  cases hv with
  |ptr _ _ hb =>
  cases hf:au P t f with
  |none=>simp[hf] at hr
  |some p =>
  cases hs:tSz P p.2 with
  |none=>simp[hf,hs] at hr
  | some s =>
   simp only[hf,hs,Option.bind_some,Option.map_eq_some_iff] at hr
   obtain⟨u,hu,rfl⟩:=hr
   have h0:=dj hu
   obtain⟨po,pt⟩:=p
   obtain⟨fs,y,f1,f2,f3,f4⟩:=oS hf
   refine .of_run h (v:=.pointer (some ⟨(E.loc b).blk,(E.loc b).off+o+po,none⟩)) ?_ ?_
   ·subst f3 f4
    simp only[Instr.fieldAt,Sem.run_bind,run_underlying f1,Result.andThen_ok,f2,Instr.sureAddr,Sem.run_pure,fieldPlace,run_sizeOf' hs]
    rw[if_neg (by omega)]
    simp[dm]
   have:=Rel.ptr (E:=E) b (o+po) hb
   rwa [<-Nat.add_assoc] at this
 cases hr
def aField (P:Program) (t:TypeId) (x:AV) (f:Nat):Option AV :=
 match x with
 |.agg cs=>(au P t f).bind fun p=>(aM P p.2).bind fun g=>bif g then (tSz P p.2).map fun s=>.agg ((cs.drop p.1).take s) else cs[p.1]?
 |_=>none
theorem run_part {ty:TypeId}{cs:Array Value}{off:Nat}{g:Bool}(hg:aM P ty=some g){v:Value}(hv:if g=true then ∃s,tSz P ty=some s/\v=.agg (cs.extract off (off+s)) else cs[off]? = some v):(part ty cs off).run P w=.ok v w:=by
 cases g
 ·simp at hv
  simp[part,run_isAgg hg,hv]
 simp at hv
 obtain⟨s,hs,rfl⟩:=hv
 simp[part,run_isAgg hg,run_sizeOf' hs]
theorem k8 {xs:List AV}{cs:Array Value}(h:RelL E xs cs.toList)(o s:Nat):RelL E ((xs.drop o).take s) (cs.extract o (o+s)).toList:=by
 have:=(h.drop o).take s
 have e:(cs.extract o (o+s)).toList=(cs.toList.drop o).take s:=by
  rw[Array.toList_extract,List.extract_eq_take_drop];simp
 rw[e];exact this
theorem snd_field (h:Emb E H w){t:TypeId}{x:AV}{v:Value}(hv:Rel E x v){f:Nat}{r:AV}(hr:aField P t x f=some r):Snd P E w (Instr.field t v f) (r,H):=by
 unfold aField at hr
 split at hr
 ·rename_i xs
  cases hv with
  |agg _ cs hl hc =>
  have hL:RelL E xs cs.toList:=RelL.of_agg (.agg xs cs hl hc)
  cases hf:au P t f with
  |none=>simp[hf] at hr
  |some p =>
  obtain⟨po,pt⟩:=p
  obtain⟨fs,y,f1,f2,f3,f4⟩:=oS hf
  subst f3 f4
  cases hg:aM P y.type with
  |none=>simp[hf,hg] at hr
  | some g =>
   simp only[hf,hg,Option.bind_some] at hr
   cases g
   ·simp only[cond_false] at hr
    obtain⟨u,hu,hru⟩:=hL.get hr
    refine .of_run h ?_ hru
    simp[Instr.field,run_underlying f1,f2,asAgg,run_part (w:=w) hg (v:=u) (cs:=cs) (off:=y.offset) (by simpa using hu)]
   simp only[cond_true,Option.map_eq_some_iff] at hr
   obtain⟨s,hs,rfl⟩:=hr
   have:=(k8 hL y.offset s).agg
   rw[Array.toArray_toList] at this
   refine .of_run h ?_ this
   simp only[Instr.field,Sem.run_bind,run_underlying f1,Result.andThen_ok,f2,asAgg,Sem.run_pure]
   exact run_part (w:=w) hg (by rw[if_pos rfl];exact⟨s,hs,rfl⟩)
 cases hr
def tIdx (P:Program) (t:TypeId):Option (Option Nat×TypeId) :=
 match P.underlying t with
 |some (.slice e)=>some (none,e)
 |some (.array n e)=>some (some n,e)
 |_=>none
def aIndexAddr (P:Program) (t:TypeId) (x i:AV):Option AV :=
 match x,i with
 |.sl (some (b,o)) len _,.int _ n=>(cr P t).bind fun e=>(tSz P e).bind fun s=>(bu (0<=n/\n<len)).map fun _=>.ptr (some (b,o+n.toNat*s))
 |.ptr (some (b,o)),.int _ n=>(tIdx P t).bind fun p=>(tSz P p.2).bind fun s=>(p.1).bind fun m=>(bu (0<=n/\n<(m:Int))).map fun _=>.ptr (some (b,o+n.toNat*s))
 |_,_=>none
theorem pW (h:Emb E H w){t:TypeId}{x i:AV}{v u:Value}(hv:Rel E x v)(hi:Rel E i u){r:AV}(hr:aIndexAddr P t x i=some r):Snd P E w (Instr.indexAt t v u) (r,H):=by
 unfold aIndexAddr at hr
 split at hr
 ·rename_i b o len cap k n
  cases hi
  cases hv with
  | nils _ _ hb hc =>
   exfalso
   obtain⟨_,-,hr⟩:=Option.bind_eq_some_iff.1 hr
   obtain⟨_,-,hr⟩:=Option.bind_eq_some_iff.1 hr
   obtain⟨_,hq,-⟩:=Option.map_eq_some_iff.1 hr
   have:=dj hq
   omega
  |sl _ _ _ _ c a hb h1 h2 h3 h4 h5 =>
  cases he:cr P t with
  |none=>simp[he] at hr
  |some e =>
  cases hs:tSz P e with
  |none=>simp[he,hs] at hr
  | some s =>
   simp only[he,hs,Option.bind_some,Option.map_eq_some_iff] at hr
   obtain⟨q,hq,rfl⟩:=hr
   obtain⟨q1,q2⟩:=dj hq
   obtain rfl:=h4.resolve_left (by omega)
   refine .of_run h (v:=.pointer (some ⟨(E.loc b).blk,(E.loc b).off+o+n.toNat*s,none⟩)) ?_ ?_
   ·simp only[Instr.indexAt,asIntOf,Sem.run_bind,Sem.run_pure,Result.andThen_ok,run_underlying (dt he)]
    rw[if_pos ⟨q1,q2⟩]
    simp[run_sizeOf' hs,dm]
   have:=Rel.ptr (E:=E) b (o+n.toNat*s) hb
   rwa [<-Nat.add_assoc] at this
 ·rename_i b o k n
  cases hi
  cases hv with
  |ptr _ _ hb =>
  unfold tIdx at hr
  cases hu:P.underlying t with
  |none=>simp[hu] at hr
  | some d =>
   cases d<;>try (simp[hu] at hr;done)
   rename_i m e
   simp only[hu,Option.bind_some] at hr
   cases hs:tSz P e with
   |none=>simp[hs] at hr
   | some s =>
    simp only[hs,Option.bind_some,Option.map_eq_some_iff] at hr
    obtain⟨q,hq,rfl⟩:=hr
    obtain⟨q1,q2⟩:=dj hq
    refine .of_run h (v:=.pointer (some ⟨(E.loc b).blk,(E.loc b).off+o+n.toNat*s,none⟩)) ?_ ?_
    ·simp only[Instr.indexAt,asIntOf,Sem.run_bind,Sem.run_pure,Result.andThen_ok,run_underlying hu,Instr.sureAddr]
     rw[if_pos ⟨q1,q2⟩]
     simp[run_sizeOf' hs,dm]
    have:=Rel.ptr (E:=E) b (o+n.toNat*s) hb
    rwa [<-Nat.add_assoc] at this
 cases hr
def aIndex (P:Program) (t:TypeId) (x i:AV):Option AV :=
 match x,i with
 |.agg cs,.int _ n=>(tIdx P t).bind fun p=>(tSz P p.2).bind fun s=>(p.1).bind fun m=>(aM P p.2).bind fun g=>(bu (0<=n/\n<(m:Int))).bind fun _=>bif g then some (.agg ((cs.drop (n.toNat*s)).take s)) else cs[n.toNat*s]?
 |_,_=>none
theorem snd_index (h:Emb E H w){t:TypeId}{x i:AV}{v u:Value}(hv:Rel E x v)(hi:Rel E i u){r:AV}(hr:aIndex P t x i=some r):Snd P E w (Instr.index t v u) (r,H):=by
 unfold aIndex at hr
 split at hr
 ·rename_i xs k n
  cases hi
  cases hv with
  |agg _ cs hl hc =>
  have hL:RelL E xs cs.toList:=RelL.of_agg (.agg xs cs hl hc)
  unfold tIdx at hr
  cases hu:P.underlying t with
  |none=>simp[hu] at hr
  | some d =>
   cases d<;>try (simp[hu] at hr;done)
   rename_i m e
   simp only[hu,Option.bind_some] at hr
   cases hs:tSz P e with
   |none=>simp[hs] at hr
   |some s =>
   cases hg:aM P e with
   |none=>simp[hs,hg] at hr
   | some g =>
    simp only[hs,hg,Option.bind_some] at hr
    cases hq:bu (0<=n/\n<(m:Int)) with
    |none=>simp[hq] at hr
    | some q =>
     simp only[hq,Option.bind_some] at hr
     have q12:=dj hq
     cases g
     ·simp only[cond_false] at hr
      obtain⟨u,hu',hru⟩:=hL.get hr
      refine .of_run h ?_ hru
      simp only[Instr.index,asIntOf,Sem.run_bind,Sem.run_pure,Result.andThen_ok,run_underlying hu]
      rw[if_pos q12]
      simp[run_sizeOf' hs,run_part (w:=w) hg (v:=u) (cs:=cs) (off:=n.toNat*s) (by simpa using hu')]
     simp only[cond_true,Option.some.injEq] at hr
     subst hr
     have:=(k8 hL (n.toNat*s) s).agg
     rw[Array.toArray_toList] at this
     refine .of_run h ?_ this
     simp only[Instr.index,asIntOf,Sem.run_bind,Sem.run_pure,Result.andThen_ok,run_underlying hu]
     rw[if_pos q12]
     simp only[Sem.run_bind,run_sizeOf' hs,Result.andThen_ok]
     exact run_part (w:=w) hg (by rw[if_pos rfl];exact⟨s,hs,rfl⟩)
 cases hr
def aExtract (x:AV) (i:Nat):Option AV :=
 match x with
 |.tup vs=>vs[i]?
 |_=>none
theorem rA (h:Emb E H w){x:AV}{v:Value}(hv:Rel E x v){i:Nat}{r:AV}(hr:aExtract x i=some r):Snd P E w (Instr.extract v i) (r,H):=by
 unfold aExtract at hr
 split at hr
 ·cases hv with
  |tup _ cs hl hc =>
  obtain⟨u,hu,hru⟩:=(RelL.of_tup (.tup _ cs hl hc)).get hr
  rw[Array.getElem?_toList] at hu
  exact .of_run h (by simp[Instr.extract,hu]) hru
 cases hr
def aBound (x:Option AV) (d:Nat):Option Nat :=
 match x with
 |none=>some d
 |some (.int _ i)=>(bu (0<=i)).map fun _=>i.toNat
 |_=>none
theorem run_sliceBound' {x:AV}{v:Value}(hv:Rel E x v){d n y:Nat}(hb:aBound (some x) d=some n)(hy:n<=y)(code:BoundsCode):(Instr.sliceBound v y code).run P w=.ok n w:=by
 unfold aBound at hb
 split at hb
 ·rename_i e;cases e
 ·rename_i k i e
  injection e with e;subst e
  cases hv
  simp only[Option.map_eq_some_iff] at hb
  obtain⟨u,hu,rfl⟩:=hb
  have:=dj hu
  exact run_sliceBound w k i y code this (by omega)
 cases hb
def fc (E:Env):Option AV->Option Value->Prop
 |none,none=>True
 |some x,some v=>Rel E x v
 |_,_=>False
theorem run_bounds {len cap:Nat}{lo hi mx:Option AV}{lv hv mv:Option Value}(r1:fc E lo lv) (r2:fc E hi hv) (r3:fc E mx mv) {l hh m:Nat}
  (b1:aBound lo 0=some l) (b2:aBound hi len=some hh) (b3:aBound mx cap=some m) (c1:l<=hh) (c2:hh<=m) (c3:m<=cap) (c4:mx.isSome=true->hi.isSome=true) (isS:Bool) :
  (Instr.sliceBounds isS len cap lv hv mv).run P w=.ok (l,hh,m) w:=by
 cases mx<;>cases mv<;>simp only[fc] at r3<;>cases hi<;>cases hv<;>simp only[fc] at r2<;>cases lo<;>cases lv<;>simp only[fc] at r1
 ·simp only[aBound,Option.some.injEq] at b1 b2 b3;subst b1 b2 b3;simp[Instr.sliceBounds]
 ·simp only[aBound,Option.some.injEq] at b2 b3;subst b2 b3
  simp[Instr.sliceBounds,run_sliceBound' r1 b1 c1]
 ·simp only[aBound,Option.some.injEq] at b1 b3;subst b1 b3
  simp[Instr.sliceBounds,run_sliceBound' r2 b2 c2]
 ·simp only[aBound,Option.some.injEq] at b3;subst b3
  simp[Instr.sliceBounds,run_sliceBound' r2 b2 c2,run_sliceBound' r1 b1 c1]
 ·simp at c4
 ·simp at c4
 ·simp only[aBound,Option.some.injEq] at b1;subst b1
  simp[Instr.sliceBounds,run_sliceBound' r3 b3 c3,run_sliceBound' r2 b2 c2]
 simp[Instr.sliceBounds,run_sliceBound' r3 b3 c3,run_sliceBound' r2 b2 c2,run_sliceBound' r1 b1 c1]
def aSlice (P:Program) (t:TypeId) (x:AV) (lo hi mx:Option AV) (H:aa):Option AV :=
 match x with
 |.sl none _ _=>(cr P t).bind fun _=>(cr P t).bind fun e=>(tSz P e).bind fun _=>(aBound lo 0).bind fun l=>(aBound hi 0).bind fun h=>(aBound mx 0).bind fun m=>(bu (l=0/\h=0/\m=0/\(mx.isSome=true->hi.isSome=true))).map fun _=>.sl none 0 (some 0)
 | .sl (some (b,o)) len cap =>
  match H[b]? with
  | some (.cells _ es _)=>(cr P t).bind fun e=>(tSz P e).bind fun s=>(aBound lo 0).bind fun l=>(aBound hi len).bind fun h =>
   match mx with
   |none=>(bu (l<=h/\s=es/\(h<=len\/h<=cap.getD 0))).map fun _=>.sl (some (b,o+l*s)) (h-l) (cap.map (·-l))
   |some _=>(aBound mx 0).bind fun m=>(bu (l<=h/\h<=m/\s=es/\(m<=len\/m<=cap.getD 0)/\hi.isSome=true)).map fun _=>.sl (some (b,o+l*s)) (h-l) (some (m-l))
  |_=>none
 |_=>none
end
end Go.Proofs.YtkkhdehdaaealaaGreat
/- The abstract machine: slices of slices, numbers, comparisons, append, copy. Conditions: as each theorem states. -/
namespace Go.Proofs.YtkkhdehdaaealaaGreat
open Go.RowKit
section
variable {P:Program} {E:Env} {H:aa} {w:World}
theorem cZ {p:Prop}[Decidable p]{α:Type}{f:Unit->α}{r:α}(h:(bu p).map f=some r):p/\f ()=r:=by
 cases hn:bu p with
 |none=>simp[hn] at h
 |some u=>simp[hn] at h;exact⟨dj hn,h⟩
theorem eG {p:Prop}[Decidable p]{α:Type}{f:Unit->Option α}{r:α}(h:(bu p).bind f=some r):p/\f ()=some r:=by
 cases hn:bu p with
 |none=>simp[hn] at h
 |some u=>simp[hn] at h;exact⟨dj hn,h⟩
theorem ag {α β:Type}{x:Option α}{f:α->Option β}{r:β}(h:x.bind f=some r):∃a,x=some a/\f a=some r:=Option.bind_eq_some_iff.1 h
theorem bounds_d (x:AV)(d d':Nat):aBound (some x) d=aBound (some x) d':=by cases x<;>rfl
theorem snd_slice (h:Emb E H w){t:TypeId}{x:AV}{v:Value}(hv:Rel E x v){lo hi mx:Option AV}{lv hv' mv:Option Value}(r1:fc E lo lv)(r2:fc E hi hv')(r3:fc E mx mv){r:AV}(hr:aSlice P t x lo hi mx H=some r):
  Snd P E w (Instr.sliceAt t v lv hv' mv) (r,H):=by
 unfold aSlice at hr
 split at hr
 ·obtain⟨_,-,hr⟩:=ag hr
  obtain⟨e,he,hr⟩:=ag hr
  obtain⟨s,hs,hr⟩:=ag hr
  obtain⟨l,hl,hr⟩:=ag hr
  obtain⟨hh,hhh,hr⟩:=ag hr
  obtain⟨m,hm,hr⟩:=ag hr
  obtain⟨⟨rfl,rfl,rfl,q⟩,rfl⟩:=cZ hr
  have hu:=dt he
  cases hv with
  | nilsl =>
   have hb:=run_bounds (P:=P) (w:=w) r1 r2 r3 hl hhh hm (Nat.le_refl _) (Nat.le_refl _) (Nat.le_refl _) q true
   refine .of_run h (v:=.slice none 0 0) ?_ .nilsl
   simp[Instr.sliceAt,run_underlying hu,Instr.slice,hb,run_sizeOf' hs]
 ·rename_i b o len cap
  split at hr
  ·rename_i own es xs hb
   obtain⟨e,he,hr⟩:=ag hr
   obtain⟨s,hs,hr⟩:=ag hr
   obtain⟨l,hl,hr⟩:=ag hr
   obtain⟨hh,hhh,hr⟩:=ag hr
   have hu:=dt he
   cases hv with
   | nils _ _ hbn hc =>
    have hg:∀q,q<=0\/q<=cap.getD 0->q=0:=fun q hq=>by rcases hc with rfl|rfl<;>simpa using hq
    split at hr
    ·obtain⟨⟨c1,c2,c3⟩,rfl⟩:=cZ hr
     cases mv<;>simp only[fc] at r3
     obtain rfl:=hg _ c3
     obtain rfl:l=0:=by omega
     have hbd:=run_bounds (P:=P) (w:=w) (mx:=none) (mv:=none) r1 r2 trivial hl hhh rfl (Nat.le_refl _) (Nat.le_refl _) (Nat.le_refl _) (by simp) true
     refine .of_run h (v:=.slice none 0 0) ?_ ?_
     ·simp[Instr.sliceAt,run_underlying hu,Instr.slice,hbd,run_sizeOf' hs]
     have:=Rel.nils (E:=E) b (cap.map (·-0)) hbn (by rcases hc with rfl|rfl<;>simp)
     simpa using this
    rename_i y
    obtain⟨m,hm,hr⟩:=ag hr
    obtain⟨⟨c1,c2,c3,c4,c5⟩,rfl⟩:=cZ hr
    obtain rfl:=hg _ c4
    obtain rfl:hh=0:=by omega
    obtain rfl:l=0:=by omega
    have hbd:=run_bounds (P:=P) (w:=w) r1 r2 r3 hl hhh hm (Nat.le_refl _) (Nat.le_refl _) (Nat.le_refl _) (fun _=>c5) true
    refine .of_run h (v:=.slice none 0 0) ?_ ?_
    ·simp[Instr.sliceAt,run_underlying hu,Instr.slice,hbd,run_sizeOf' hs]
    have:=Rel.nils (E:=E) b (some 0) hbn (.inr rfl)
    simpa using this
   |sl _ _ _ _ c a hbn h1 h2 h3 h4 h5 =>
   have hes:=(h.blk b _ hb).2.2.2
   have hcap:∀q,q<=len\/q<=cap.getD 0->q<=c:=fun q hq=>by
    rcases hq with hq|hq
    ·omega
    rcases h3 with rfl|rfl
    ·simp at hq;omega
    simpa using hq
   have fin:∀m cap',l<=hh->hh<=m->m<=c->s=es->(cap'=none\/cap'=some (m-l))->(Instr.sliceBounds true len c lv hv' mv).run P w=.ok (l,hh,m) w->Snd P E w (Instr.sliceAt t (.slice (some a) len c) lv hv' mv) (.sl (some (b,o+l*s)) (hh-l) cap',H):=by
    intro m cap' c1 c2 c3 c4 c5 hbd
    refine .of_run h (v:=.slice (some (if m=l then a else a.add (l*s))) (hh-l) (m-l)) ?_ ?_
    ·simp only[Instr.sliceAt,Sem.run_bind,run_underlying hu,Result.andThen_ok,Instr.slice,hbd,run_sizeOf' hs,Sem.run_pure]
     split<;>simp
    refine .sl b _ _ _ _ _ hbn (by omega) (by omega) c5 ?_ ?_
    ·by_cases e:m=l
     ·left;omega
     right
     rw[if_neg e]
     obtain rfl:=h4.resolve_left (by omega)
     rw[dm,Nat.add_assoc]
    rw[hes]
    rw[hes] at h5
    have hl':l*s+(m-l)*es=m*es:=by rw[c4,<-Nat.add_mul];congr 1;omega
    have hm':m*es<=c*es:=Nat.mul_le_mul_right _ c3
    omega
   split at hr
   ·obtain⟨⟨c1,c2,c3⟩,rfl⟩:=cZ hr
    cases mv<;>simp only[fc] at r3
    have hhc:=hcap hh c3
    refine fin c _ c1 hhc (Nat.le_refl _) c2 ?_ (run_bounds (mx:=none) (mv:=none) r1 r2 trivial hl hhh rfl c1 hhc (Nat.le_refl _) (by simp) true)
    rcases h3 with rfl|rfl
    ·exact .inl rfl
    exact .inr rfl
   rename_i y
   obtain⟨m,hm,hr⟩:=ag hr
   obtain⟨⟨c1,c2,c3,c4,c5⟩,rfl⟩:=cZ hr
   have hmc:=hcap m c4
   exact fin m _ c1 c2 hmc c3 (.inr rfl) (run_bounds r1 r2 r3 hl hhh (by rw[bounds_d _ _ 0];exact hm) c1 c2 hmc (fun _=>c5) true)
  cases hr
 cases hr

def aInt (op:BinOp) (k:IntKind) (a b:Int):Option AV :=
 match op with
 |.add=>some (.int k (k.wrap (a+b)))
 |.sub=>some (.int k (k.wrap (a-b)))
 |.mul=>some (.int k (k.wrap (a*b)))
 |.quo=>(bu (b≠0)).map fun _=>.int k (k.wrap (a.tdiv b))
 |.rem=>(bu (b≠0)).map fun _=>.int k (a.tmod b)
 |.and=>some (.int k (k.wrap (BitVec.ofInt k.bits a &&& BitVec.ofInt k.bits b).toNat))
 |.or=>some (.int k (k.wrap (BitVec.ofInt k.bits a ||| BitVec.ofInt k.bits b).toNat))
 |.xor=>some (.int k (k.wrap (BitVec.ofInt k.bits a ^^^ BitVec.ofInt k.bits b).toNat))
 |.andNot=>some (.int k (k.wrap (BitVec.ofInt k.bits a &&& ~~~(BitVec.ofInt k.bits b)).toNat))
 |.eql=>some (.bool (a==b))
 |.neq=>some (.bool (a != b))
 |.lss=>some (.bool (decide (a<b)))
 |.leq=>some (.bool (decide (a<=b)))
 |.gtr=>some (.bool (decide (a>b)))
 |.geq=>some (.bool (decide (a≥b)))
 |.shl=>(bu (0<=b)).map fun _=>.int k (k.wrap (a*2 ^ (min b.toNat k.bits)))
 |.shr=>(bu (0<=b)).map fun _=>.int k (a.fdiv (2 ^ (min b.toNat k.bits)))
def lF (P:Program) (t:TypeId):Bool:=match P.underlying t with|some .bool=>true|_=>false
def dn (P:Program) (t:TypeId):Bool:=match P.underlying t with|some (.slice _)=>true|_=>false
def aEq (P:Program):Nat->TypeId->List AV->List AV->Option Bool
 |0,_,_,_=>none
 | d + 1,t,xs,ys =>
  match P.underlying t with
  |some (.int _)=>(match xs,ys with|[.int k a],[.int k' b]=>if k=k' then some (a==b) else none|_,_=>none)
  |some .bool=>(match xs,ys with|[.bool a],[.bool b]=>some (a==b)|_,_=>none)
  |some .string=>(match xs,ys with|[.str a],[.str b]=>some (a==b)|_,_=>none)
  | some (.struct fs)=>if P.stoodInHeld t then none else
    fs.toList.foldr (fun f acc => acc.bind fun r => if f.name = "_" then none else (tSz P f.type).bind fun n => (aEq P d f.type ((xs.drop f.offset).take n) ((ys.drop f.offset).take n)).map fun b => b && r) (some true)
  |_=>none
def c6 (P:Program) (t:TypeId) (cs:List Value) (v:Value):Prop:=if aM P t=some true then v=.agg cs.toArray else cs=[v]
def dAgg:TypeDesc->Bool
 |.struct _ | .array _ _=>true
 |_=>false
theorem gh {t:TypeId}{d:TypeDesc}(h:P.underlying t=some d):aM P t=some (dAgg d):=by
 unfold aM;rw[h];cases d<;>rfl
theorem de {x:AV}{vs:List Value}(h:RelL E [x] vs):∃v,vs=[v]/\Rel E x v:=by
 match vs,h with
 |[v],h=>exact⟨v,rfl,(RelL.uncons h).1⟩
theorem run_aEq:∀(d:Nat) (t:TypeId) (xs ys:List AV) (vs us:List Value) (v u:Value) (r:Bool),aEq P d t xs ys=some r->RelL E xs vs->RelL E ys us->c6 P t vs v->c6 P t us u->∀D w,(Op.equalIn (d+D) t v u).run P w=.ok r w
 |0,_,_,_,_,_,_,_,_,h,_,_,_,_,_,_=>by simp[aEq] at h
 | d + 1,t,xs,ys,vs,us,v,u,r,h,hx,hy,hv,hu,D,w=>by
  rw[show d+1+D=(d+D)+1 by omega]
  unfold aEq at h
  unfold c6 at hv hu
  cases ht:P.underlying t with
  |none=>rw[ht] at h;cases h
  | some td =>
   rw[ht] at h
   rw[gh ht] at hv hu
   cases td<;>try (simp at h;done)
   ·simp only[dAgg,Option.some.injEq,Bool.false_eq_true,if_false] at hv hu
    simp only at h
    split at h
    ·obtain⟨v',e1,q1⟩:=de hx
     obtain⟨u',e2,q2⟩:=de hy
     rw[hv] at e1;rw[hu] at e2
     simp at e1 e2 h;subst e1 e2 h
     cases q1;cases q2
     exact run_equalIn_bool w (d+D) t _ _ ht
    cases h
   ·simp only[dAgg,Option.some.injEq,Bool.false_eq_true,if_false] at hv hu
    simp only at h
    split at h
    ·split at h
     ·rename_i hk
      obtain⟨v',e1,q1⟩:=de hx
      obtain⟨u',e2,q2⟩:=de hy
      rw[hv] at e1;rw[hu] at e2
      simp at e1 e2 h;subst e1 e2 h hk
      cases q1;cases q2
      exact run_equalIn_int w (d+D) t _ _ _ _ ht
     cases h
    cases h
   ·simp only[dAgg,Option.some.injEq,Bool.false_eq_true,if_false] at hv hu
    simp only at h
    split at h
    ·obtain⟨v',e1,q1⟩:=de hx
     obtain⟨u',e2,q2⟩:=de hy
     rw[hv] at e1;rw[hu] at e2
     simp at e1 e2 h;subst e1 e2 h
     cases q1;cases q2
     rename_i a b
     rw[run_equalIn_string w (d+D) t _ _ ht]
     simp[ByteArray.toList_eq]
    cases h
   rename_i fs
   simp only[dAgg,if_true] at hv hu
   subst hv hu
   simp only at h
   split at h
   ·cases h
   rename_i hst
   have hst':P.stoodInHeld t=false:=by simpa using hst
   have hfo:P.fieldsOf t=fs:=by unfold Program.fieldsOf;rw[ht]
   rw[run_equalIn_struct w (d+D) t _ _ (by rw[hfo];exact ht) hst',hfo]
   clear hst hst' hfo ht
   generalize fs.toList=l at h ⊢
   induction l generalizing r with
   |nil=>simp at h;subst h;simp[Op.eqFields]
   | cons f l ih =>
    simp only[List.foldr_cons] at h
    obtain⟨r',hr',h⟩:=ag h
    split at h
    ·cases h
    rename_i hname
    obtain⟨n,hn,h⟩:=ag h
    simp only[Option.map_eq_some_iff] at h
    obtain⟨b,hb,rfl⟩:=h
    have part:∀(ps:List AV) (cs:List Value),RelL E ps cs->(∃g,aM P f.type=some g/\(g=false->((ps.drop f.offset).take n).length=1))->∃x,(part f.type cs.toArray f.offset).run P w=.ok x w/\c6 P f.type ((cs.drop f.offset).take n) x:=by
     rintro ps cs hac ⟨g,hg,hg1⟩
     cases g
     ·obtain⟨x,hx⟩:=List.length_eq_one_iff.1 (hg1 rfl)
      obtain⟨y,hy,hxy⟩:=de (by rw[<-hx];exact(hac.drop f.offset).take n)
      refine⟨y,run_part (w:=w) hg ?_,?_⟩
      ·have h0:=congrArg (·[0]?) hy
       simp only[List.getElem?_cons_zero] at h0
       rw[List.getElem?_take] at h0
       split at h0
       ·simpa using h0
       cases h0
      unfold c6;rw[hg];simp[hy]
     refine⟨_,run_part (w:=w) hg (by simp only[if_true];exact⟨n,hn,rfl⟩),?_⟩
     unfold c6
     rw[hg]
     simp[List.extract_eq_take_drop]
    have hg:∃g,aM P f.type=some g/\(g=false->((xs.drop f.offset).take n).length=1/\((ys.drop f.offset).take n).length=1):=by
     cases d with
     |zero=>simp[aEq] at hb
     | succ d' =>
      unfold aEq at hb
      cases hft:P.underlying f.type with
      |none=>rw[hft] at hb;cases hb
      | some fd =>
       rw[gh hft]
       rw[hft] at hb
       refine⟨_,rfl,fun hgf=>?_⟩
       cases fd<;>try (simp[dAgg] at hgf;done)
       all_goals (simp only at hb;try (cases hb;done))
       all_goals (split at hb<;>first|(cases hb;done)|(rename_i e1 e2;rw[e1,e2];exact⟨rfl,rfl⟩))
    obtain⟨g,hg1,hg2⟩:=hg
    obtain⟨a,pa,ca⟩:=part xs vs hx ⟨g,hg1,fun e=>(hg2 e).1⟩
    obtain⟨c,pc,cc⟩:=part ys us hy ⟨g,hg1,fun e=>(hg2 e).2⟩
    have hrun:=run_aEq d f.type _ _ _ _ a c b hb ((hx.drop f.offset).take n) ((hy.drop f.offset).take n) ca cc D w
    simp only[Op.eqFields,hname,ne_eq,not_false_eq_true,if_true,Sem.run_bind,pa,pc,Result.andThen_ok,hrun]
    cases b
    ·simp
    simp only[Bool.not_true,Bool.false_eq_true,if_false,Bool.true_and]
    exact ih r' hr'
end
set_option linter.unusedSimpArgs false
set_option linter.unusedVariables false
section
variable {P:Program} {E:Env} {H:aa} {w:World}
def aElems (sz:Nat) (x:AV) (H:aa):Option (Nat×List AV) :=
 match x with
 |.sl none n _=>(bu (n=0)).map fun _=>(0,[])
 |.sl (some (b,o)) n _=>(ards H b o (n*sz)).map fun l=>(n,l)
 |_=>none
theorem mi (h:Emb E H w){x:AV}{v:Value}(hv:Rel E x v){sz n:Nat}{xs:List AV}(hx:aElems sz x H=some (n,xs)):
  xs.length=n*sz/\(∀y∈xs,y.one=true)/\∃vs:List Value,RelL E xs vs/\((v=.slice none 0 0/\n=0)\/∃(a:Addr) (c:Nat),v=.slice (some a) n c/\n<=c/\∀(j:Nat) (u:Value),vs[j]? = some u->w.cell? (a.add j)=some u):=by
 unfold aElems at hx
 split at hx
 ·obtain⟨rfl,e⟩:=cZ hx
  injection e with e1 e2
  subst e1 e2
  cases hv
  exact⟨by simp,by simp,[],RelL.nil E,.inl ⟨rfl,rfl⟩⟩
 ·rename_i b o m cap
  simp only[Option.map_eq_some_iff] at hx
  obtain⟨l,hl,e⟩:=hx
  injection e with e1 e2
  subst e1 e2
  cases hv with
  | nils _ _ hb hc =>
   obtain⟨k1,k2,vs,k3,-⟩:=fv h hl
   exact⟨k1,k2,vs,k3,.inl ⟨rfl,rfl⟩⟩
  |sl _ _ _ _ c a hb h1 h2 h3 h4 h5 =>
  obtain⟨k1,k2,vs,k3,k4⟩:=fv h hl
  refine⟨k1,k2,vs,k3,.inr ⟨a,c,rfl,h1,fun j u hu=>?_⟩⟩
  rcases h4 with rfl|rfl
  ·have hm:m=0:=by omega
   subst hm
   have:vs.length=0:=by rw[<-k3.1,k1];simp
   have:=getElem?_lt hu
   omega
  rw[dm];exact k4 j u hu
 cases hx
theorem Emb.grow (h:Emb E H w) {w':World}{row:Option Nat}(hg:w.grownBy w' row) (hrow:∀k,row=some k->E.B<=k) {H1:aa}(hl:H1.length=H.length)
  (hH1:∀(c:Nat) (x:ABlk),H1[c]? = some x->x=.dead\/(H[c]? = some x/\(x.owned=true->some (E.loc c).blk≠row))) (L:Loc) (X:ABlk)
  (hL:BlkOk (E.push L) w' L X) (hne:∀c x,H1[c]? = some x->x.owned=true->(E.loc c).blk≠L.blk):Emb (E.push L) (H1++[X]) w':=by
 have hle:=E.le_push L
 have lt_own:∀c x,H[c]? = some x->x.owned=true->(E.loc c).blk<w.heap.size:=fun c x hx ho=>by
  have hk:=h.blk c x hx
  cases x with
  |dead=>cases ho
  |cells own e ys=>exact(hk.2.1 ho).2.1
  |map es=>exact hk.2.1
  |fmap es bs ck=>exact hk.2.1
  |iter m bs sn ck=>exact hk.2.1
 have key:∀b x,(H1++[X])[b]? = some x->(b<H.length/\H1[b]? = some x/\(E.push L).loc b=E.loc b)\/(b=H.length/\x=X/\(E.push L).loc b=L):=by
  intro b x hx
  rw[List.getElem?_append,hl] at hx
  split at hx
  ·rename_i hb
   exact .inl ⟨hb,hx,Env.push_old _ _ (by rw[h.n];exact hb)⟩
  rename_i hb
  have hb0:b-H.length=0:=by
   rcases Nat.eq_zero_or_pos (b-H.length) with h0|h0
   ·exact h0
   rw[List.getElem?_eq_none (by simp;omega)] at hx;cases hx
  rw[hb0] at hx
  simp at hx
  have hbn:b=H.length:=by omega
  exact .inr ⟨hbn,hx.symm,by rw[hbn,<-h.n,Env.push_new]⟩
 refine⟨by simp[Env.push,h.n,hl],?_,Nat.le_trans h.base hg.size,fun b x hx=>?_,fun b c x y hx hy ox oy hbc=>?_⟩
 ·exact h.below.grown hg h.base hrow
 ·rcases key b x hx with ⟨hb,hx,e⟩|⟨hb,rfl,e⟩
  ·rw[e]
   rcases hH1 b x hx with rfl|⟨hx',hr⟩
   ·trivial
   exact(h.blk b x hx').mono hle hg.size (fun ho=>hg.block _ (lt_own b x hx' ho) (hr ho)) (fun hB=>hg.block _ (Nat.lt_of_lt_of_le hB h.base) (fun e=>by have:=hrow _ e.symm;omega))
  rw[e];exact hL
 rcases key b x hx with ⟨b1,b2,b3⟩|⟨b1,b2,b3⟩<;>rcases key c y hy with ⟨c1,c2,c3⟩|⟨c1,c2,c3⟩
 ·rw[b3,c3]
  rcases hH1 b x b2 with rfl|⟨b2,_⟩
  ·cases ox
  rcases hH1 c y c2 with rfl|⟨c2,_⟩
  ·cases oy
  exact h.inj b c x y b2 c2 ox oy hbc
 ·rw[b3,c3];exact hne b x b2 ox
 ·rw[b3,c3];exact(hne c y c2 oy).symm
 omega
def ap (P:Program) (t:TypeId) (s x:AV) (H:aa):Option (AV×aa) :=
 (cr P t).bind fun e=>(tSz P e).bind fun sz=>(aB P e).bind fun by_=>(aE P e).bind fun z=>(aElems sz x H).bind fun mx =>
  (bu (z.length=sz/\0<sz/\0<by_)).bind fun _ =>
  match s with
  |.sl none n _=>(bu (n=0)).bind fun _=>bif mx.1==0 then some (.sl none 0 (some 0),H) else (bu (mx.1*by_<=140737488355328)).map fun _=>(.sl (some (H.length,0)) mx.1 none,H++[.cells true sz mx.2])
  | .sl (some (b,o)) n cap=>(ards H b o (n*sz)).bind fun olds=>(bu ((n+mx.1)*by_<=140737488355328)).bind fun _ =>
   bif n+mx.1==0 then some (.sl (some (b,o)) 0 cap,H)
   else bif (match cap with|some c=>decide (c<n+mx.1)|none=>false) then some (.sl (some (H.length,0)) (n+mx.1) none,H++[.cells true sz (olds++mx.2)])
   else match H[b]? with
    |some (.cells true es _)=>(bu (es=sz)).map fun _=>(.sl (some (H.length,0)) (n+mx.1) none,H.set b .dead++[.cells true sz (olds++mx.2)])
    |_=>none
  |_=>none
theorem iH {w':World}{sz n:Nat}{v':Value}{xs:List AV}{vs:List Value}(hr:RelL E xs vs)(ho:∀x∈xs,x.one=true)(hs:Seg w' E.B sz v' n vs)(hn:0<n):
  ∃g off cap,v'=.slice (some ⟨g,off,none⟩) n cap/\E.B<=g/\g<w'.heap.size/\n<=cap/\cap<=maxLen/\∀E',E.le E'->BlkOk E' w' ⟨g,off,cap*sz,sz⟩ (.cells true sz xs):=by
 obtain⟨h1,h2⟩:=hs
 rcases h2 with ⟨-,h0⟩|⟨g,off,cap,rfl,hb,hlt,hnc,hcm,hc,hx⟩
 ·omega
 refine⟨g,off,cap,rfl,hb,hlt,hnc,hcm,fun E' hle=>⟨fun j x hj=>?_,fun _=>⟨by rw[hle.B];exact hb,hlt,rfl,?_,hc⟩,(fun hf=>by cases hf),rfl⟩⟩
 ·obtain⟨v,hv,hrv⟩:=hr.get hj
  exact⟨ho x (List.mem_of_getElem? hj),v,hx j v hv,hrv.mono hle⟩
 rw[hr.1,h1];exact Nat.mul_le_mul_right _ hnc
theorem rM (h:Emb E H w){t ty:TypeId}{s x:AV}{v u:Value}(hv:Rel E s v)(hu:Rel E x u){r:AV×aa}(hr:ap P t s x H=some r):Snd P E w (Builtin.append_ #[t,t] ty #[v,u]) r:=by
 unfold ap at hr
 obtain⟨e,he,hr1⟩:=ag hr
 obtain⟨sz,hs,hr2⟩:=ag hr1
 obtain⟨by_,hb,hr3⟩:=ag hr2
 obtain⟨z,hz,hr4⟩:=ag hr3
 obtain⟨⟨m,news⟩,hm,hr5⟩:=ag hr4
 obtain⟨⟨n1,n2,n3⟩,hr6⟩:=eG hr5
 clear hr hr1 hr2 hr3 hr4 hr5
 obtain⟨zv,z1,z2,z3,i,z4,z5⟩:=run_zero (w:=w) hz
 obtain⟨i',hi',hby⟩:=run_bytes hb
 rw[z4] at hi';simp at hi';subst hi'
 have hsz:i.size=sz:=by unfold tSz at hs;rw[z4] at hs;simpa using hs
 have hzl:zv.cells.size=sz:=by rw[<-n1,z2];simp
 have ht:=dt he
 obtain⟨m1,m2,nvs,m3,m4⟩:=mi h hu hm
 have nvl:nvs.length=m*sz:=by rw[<-m3.1,m1]
 have none1:∀y∈nvs,y.oneCell'=true:=fun y hy=>by
  obtain⟨j,hj⟩:=List.mem_iff_getElem?.1 hy
  have hj':j<news.length:=by have:=getElem?_lt hj;have:=m3.1;omega
  exact(m3.2 j news[j] y (List.getElem?_eq_getElem hj') hj).one (m2 _ (List.getElem_mem hj'))
 have small:∀q:Nat,q*by_<=140737488355328->q<=maxLen:=fun q hq=>by
  have:q<=q*by_:=Nat.le_mul_of_pos_right _ n3
  simp only[maxLen];omega
 have dead:∀b:Nat,∀(c:Nat) (y:ABlk),(H.set b .dead)[c]? = some y->y=.dead\/(H[c]? = some y/\c≠b):=fun b c y hy=>by
  rw[List.getElem?_set] at hy
  by_cases ebc:b=c
  ·rw[if_pos ebc] at hy;split at hy
   ·simp at hy;exact .inl hy.symm
   cases hy
  rw[if_neg ebc] at hy;exact .inr ⟨hy,fun e=>ebc e.symm⟩
 have lt_own:∀(c:Nat) (y:ABlk),H[c]? = some y->y.owned=true->(E.loc c).blk<w.heap.size:=fun c y hy ho=>by
  have hk:=h.blk c y hy
  cases y with
  |dead=>cases ho
  |cells own e ys=>exact(hk.2.1 ho).2.1
  |map es=>exact hk.2.1
  |fmap es bs ck=>exact hk.2.1
  |iter m bs sn ck=>exact hk.2.1
 simp only at hr6
 split at hr6
 ·-- nil
  obtain⟨rfl,hr⟩:=eG hr6
  clear hr6
  cases hv with
  |nilsl =>
  cases hm0:(m==0) with
  | true =>
   have hm0':m=0:=by simpa using hm0
   rw[hm0] at hr
   simp only[cond_true,Option.some.injEq] at hr
   subst hr
   subst hm0'
   refine .of_run h ?_ .nilsl
   rcases m4 with ⟨rfl,-⟩|⟨a,c,rfl,-,-⟩
   ·simp[Builtin.append_,run_underlying ht,sizeOf,typeInfo,z4,Builtin.lenOf,Builtin.firstCells]
   simp[Builtin.append_,run_underlying ht,sizeOf,typeInfo,z4,Builtin.lenOf,Builtin.firstCells,loadCells,loadCellsFrom]
  | false =>
   have hm0':0<m:=by simp at hm0;omega
   simp only[hm0,cond_false] at hr
   obtain⟨hbd,rfl⟩:=cZ hr
   rcases m4 with ⟨-,h0⟩|⟨a,c,rfl,-,hcell⟩
   ·omega
   have hseg:Seg w E.B sz (.slice none 0 0) 0 []:=⟨by simp,.inl ⟨rfl,rfl⟩⟩
   obtain⟨v',w',hrun,s2,s3,s4⟩:=run_app_seg (P:=P) E.B t ty e i zv sz by_ ht z4 z5 hsz hby hzl n2 _ _ _ hseg a m c nvs nvl hcell none1 (by rw[Nat.zero_add];exact small _ hbd) (by rw[Nat.zero_add];exact hbd) h.base
   rw[Nat.zero_add,List.nil_append] at s2
   obtain⟨g,off,cap,rfl,b1,b2,b3,b4,b5⟩:=iH (E:=E) m3 m2 s2 hm0'
   have hgs:w.heap.size<=g:=(s4 g rfl).resolve_left (by intro hh;cases hh)
   have hE:=h.grow s3 (fun k hk=>by cases hk) rfl (fun c y hy=>.inr ⟨hy,fun _ hh=>by cases hh⟩) ⟨g,off,cap*sz,sz⟩ (.cells true sz news) (b5 _ (E.le_push _)) (fun c y hy ho=>by have:=lt_own c y hy ho;show (E.loc c).blk≠g;omega)
   refine⟨_,_,_,hrun,E.le_push _,?_,hE⟩
   have en:=Env.push_new E ⟨g,off,cap*sz,sz⟩
   rw[h.n] at en
   exact Rel.sl H.length 0 m none cap _ (by simp[Env.push,h.n]) b3 b4 (.inl rfl) (.inr (by rw[en];rfl)) (by rw[en];simp)
 ·-- a slice
  rename_i b o n cap
  obtain⟨olds,hold,hr7⟩:=ag hr6
  obtain⟨hbd,hr⟩:=eG hr7
  clear hr6 hr7
  obtain⟨o1,o2,ovs,o3,o4⟩:=fv h hold
  have ovl:ovs.length=n*sz:=by rw[<-o3.1,o1]
  cases hv with
  | nils _ _ hbn hc =>
   have ho0:olds=[]:=List.length_eq_zero_iff.1 (by rw[o1];simp)
   subst ho0
   rw[Nat.zero_add] at hr hbd
   cases hm0:(m==0) with
   | true =>
    have hm0':m=0:=by simpa using hm0
    rw[hm0] at hr
    simp only[cond_true,Option.some.injEq] at hr
    subst hr
    subst hm0'
    refine .of_run h ?_ (.nils b cap hbn hc)
    rcases m4 with ⟨rfl,-⟩|⟨a,c,rfl,-,-⟩
    ·simp[Builtin.append_,run_underlying ht,sizeOf,typeInfo,z4,Builtin.lenOf,Builtin.firstCells]
    simp[Builtin.append_,run_underlying ht,sizeOf,typeInfo,z4,Builtin.lenOf,Builtin.firstCells,loadCells,loadCellsFrom]
   | false =>
    have hm0':0<m:=by simp at hm0;omega
    have fin0:∀(H1:aa),H1.length=H.length->(∀(c:Nat) (x:ABlk),H1[c]? = some x->x=.dead\/H[c]? = some x)->Snd P E w (Builtin.append_ #[t,t] ty #[.slice none 0 0,u]) (.sl (some (H.length,0)) m none,H1++[.cells true sz news]):=fun H1 hl1 hH1=>by
     rcases m4 with ⟨-,h0⟩|⟨a,c,rfl,-,hcell⟩
     ·omega
     have hseg:Seg w E.B sz (.slice none 0 0) 0 []:=⟨by simp,.inl ⟨rfl,rfl⟩⟩
     obtain⟨v',w',hrun,s2,s3,s4⟩:=run_app_seg (P:=P) E.B t ty e i zv sz by_ ht z4 z5 hsz hby hzl n2 _ _ _ hseg a m c nvs nvl hcell none1 (by rw[Nat.zero_add];exact small _ hbd) (by rw[Nat.zero_add];exact hbd) h.base
     rw[Nat.zero_add,List.nil_append] at s2
     obtain⟨g,off,cap,rfl,b1,b2,b3,b4,b5⟩:=iH (E:=E) m3 m2 s2 hm0'
     have hgs:w.heap.size<=g:=(s4 g rfl).resolve_left (by intro hh;cases hh)
     have hE:=h.grow s3 (fun k hk=>by cases hk) hl1 (fun c y hy=>(hH1 c y hy).imp id fun hh=>⟨hh,fun _ hh'=>by cases hh'⟩) ⟨g,off,cap*sz,sz⟩ (.cells true sz news) (b5 _ (E.le_push _)) (fun c y hy ho=>by
      rcases hH1 c y hy with rfl|hy'
      ·cases ho
      have:=lt_own c y hy' ho;show (E.loc c).blk≠g;omega)
     refine⟨_,_,_,hrun,E.le_push _,?_,hE⟩
     have en:=Env.push_new E ⟨g,off,cap*sz,sz⟩
     rw[h.n] at en
     exact Rel.sl H.length 0 m none cap _ (by simp[Env.push,h.n]) b3 b4 (.inl rfl) (.inr (by rw[en];rfl)) (by rw[en];simp)
    simp only[hm0,cond_false,List.nil_append] at hr
    cases hgrow:(match cap with|some c=>decide (c<m)|none=>false) with
    | true =>
     rw[hgrow] at hr
     simp only[cond_true,Option.some.injEq] at hr
     subst hr
     exact fin0 H rfl fun c y hy=>.inr hy
    | false =>
     rw[hgrow] at hr
     simp only[cond_false] at hr
     split at hr
     ·obtain⟨rfl,rfl⟩:=cZ hr
      exact fin0 _ (by simp) fun c y hy=>(dead b c y hy).imp id (·.1)
     cases hr
  |sl _ _ _ _ c a hbn h1 h2 h3 h4 h5 =>
  have hcat:RelL E (olds++news) (ovs++nvs):=o3.append m3
  have hone:∀y∈olds++news,y.one=true:=fun y hy=>(List.mem_append.1 hy).elim (o2 y) (m2 y)
  have holds:∀(j:Nat) (y:Value),ovs[j]? = some y->w.cell? (a.add j)=some y:=fun j y hj=>by
   rcases h4 with rfl|rfl
   ·have hn0:n=0:=by omega
    subst hn0
    have:=getElem?_lt hj
    rw[ovl] at this;omega
   rw[dm];exact o4 j y hj
  have fin:∀(H1:aa) (v':Value) (w':World) (row:Option Nat) (base:Nat),E.B<=base->(Builtin.append_ #[t,t] ty #[.slice (some a) n c,u]).run P w=.ok v' w'->0<n+m->Seg w' E.B sz v' (n+m) (ovs++nvs)->w.grownBy w' row ->
    (∀k,row=some k->E.B<=k)->H1.length=H.length->(∀(c:Nat) (x:ABlk),H1[c]? = some x->x=.dead\/(H[c]? = some x/\(x.owned=true->some (E.loc c).blk≠row)))->(∀g,v'.ownBlock=some g->some g=row\/w.heap.size<=g) ->
    Snd P E w (Builtin.append_ #[t,t] ty #[.slice (some a) n c,u]) (.sl (some (H.length,0)) (n+m) none,H1++[.cells true sz (olds++news)]):=by
   intro H1 v' w' row base hB hrun hpos s2 s3 hrow hlen hH1 hown
   obtain⟨g,off,cap',rfl,b1,b2,b3,b4,b5⟩:=iH (E:=E) hcat hone s2 hpos
   have hE:=h.grow s3 hrow hlen hH1 ⟨g,off,cap'*sz,sz⟩ (.cells true sz (olds++news)) (b5 _ (E.le_push _)) (fun d y hy ho=>by
    show (E.loc d).blk≠g
    rcases hH1 d y hy with rfl|⟨hy',hr'⟩
    ·cases ho
    rcases hown g rfl with hg'|hg'
    ·intro e';exact hr' ho (by rw[e'];exact hg')
    have:=lt_own d y hy' ho;omega)
   refine⟨_,_,_,hrun,E.le_push _,?_,hE⟩
   have en:=Env.push_new E ⟨g,off,cap'*sz,sz⟩
   rw[h.n] at en
   exact Rel.sl H.length 0 (n+m) none cap' _ (by simp[Env.push,h.n]) b3 b4 (.inl rfl) (.inr (by rw[en];rfl)) (by rw[en];simp)
  have same:H.length=H.length/\∀(c:Nat) (x:ABlk),H[c]? = some x->x=.dead\/(H[c]? = some x/\(x.owned=true->some (E.loc c).blk≠none)):=⟨rfl,fun c x hx=>.inr ⟨hx,fun _ hh=>by cases hh⟩⟩
  -- it grows
  have grows:c<n+m->Snd P E w (Builtin.append_ #[t,t] ty #[.slice (some a) n c,u]) (.sl (some (H.length,0)) (n+m) none,H++[.cells true sz (olds++news)]):=fun hc=>by
   rcases m4 with ⟨-,h0⟩|⟨ad,c',rfl,-,hcell⟩
   ·omega
   obtain⟨v',w',hrun,s2,s3⟩:=run_append_arg_grows (P:=P) w t ty e i zv sz by_ ht z4 z5 hsz hby hzl n2 a n c ovs ovl holds ad m c' nvs nvl hcell hc (small _ hbd) hbd
   exact fin H v' w' none w.heap.size h.base hrun (by omega) (Seg.of_own (i6 s2 h.base)) s3 (fun k hk=>by cases hk) same.1 same.2 (fun g hg=>.inr (s2.lt g hg).1)
  -- nothing is appended to an empty one
  cases hz0:(n+m==0) with
  | true =>
   rw[hz0] at hr
   simp only[cond_true,Option.some.injEq] at hr
   subst hr
   have hz0':n+m=0:=by simpa using hz0
   obtain⟨rfl,rfl⟩:n=0/\m=0:=by omega
   refine .of_run h (v:=.slice (some a) 0 c) ?_ (.sl b o 0 cap c a hbn h1 h2 h3 h4 h5)
   rcases m4 with ⟨rfl,-⟩|⟨a',c',rfl,-,-⟩
   ·simp[Builtin.append_,run_underlying ht,sizeOf,typeInfo,z4,Builtin.lenOf,Builtin.firstCells,storeCells]
   simp[Builtin.append_,run_underlying ht,sizeOf,typeInfo,z4,Builtin.lenOf,Builtin.firstCells,loadCells,loadCellsFrom,storeCells]
  |false =>
  rw[hz0] at hr
  simp only[cond_false] at hr
  have hpos:0<n+m:=by simp at hz0;omega
  cases hgrow:(match cap with|some c=>decide (c<n+m)|none=>false) with
  | true =>
   rw[hgrow] at hr
   simp only[cond_true,Option.some.injEq] at hr
   subst hr
   cases cap with
   |none=>cases hgrow
   | some c0 =>
    have:c0=c:=by simpa using h3
    subst this
    exact grows (by simpa using hgrow)
  | false =>
   rw[hgrow] at hr
   simp only[cond_false] at hr
   split at hr
   ·rename_i es xs hbb
    obtain⟨rfl,rfl⟩:=cZ hr
    obtain⟨q1,q2,q3,q4⟩:=h.blk b _ hbb
    obtain⟨p1,p2,p3,p4,p5⟩:=q2 rfl
    by_cases hc0:c=0
    ·-- it grows: the elder block is forgotten all the same
     have hcg:c<n+m:=by omega
     rcases m4 with ⟨-,h0⟩|⟨ad,c',rfl,-,hcell⟩
     ·omega
     obtain⟨v',w',hrun,s2,s3⟩:=run_append_arg_grows (P:=P) w t ty e i zv es by_ ht z4 z5 hsz hby hzl n2 a n c ovs ovl holds ad m c' nvs nvl hcell hcg (small _ hbd) hbd
     exact fin (H.set b .dead) v' w' none w.heap.size h.base hrun (by omega) (Seg.of_own (i6 s2 h.base)) s3 (fun k hk=>by cases hk) (by simp) (fun d y hy=>(dead b d y hy).imp id (fun hh=>⟨hh.1,fun _ hh'=>by cases hh'⟩)) (fun g hg=>.inr (s2.lt g hg).1)
    obtain rfl:=h4.resolve_left hc0
    rw[p3] at h5
    have hseg:Seg w E.B es (.slice (some ⟨(E.loc b).blk,(E.loc b).off+o,none⟩) n c) n ovs:=by
     refine⟨ovl,.inr ⟨_,_,c,rfl,p1,p2,h1,h2,fun j hj=>?_,fun j y hy=>?_⟩⟩
     ·have:=p5 (o+j) (by omega)
      rwa [<-Nat.add_assoc] at this
     have:=holds j y hy
     rwa [dm] at this
    rcases m4 with ⟨rfl,rfl⟩|⟨ad,c',rfl,-,hcell⟩
    ·-- nil is appended
     have hnv:nvs=[]:=List.length_eq_zero_iff.1 (by rw[nvl];simp)
     subst hnv
     have hrun:(Builtin.append_ #[t,t] ty #[.slice (some ⟨(E.loc b).blk,(E.loc b).off+o,none⟩) n c,.slice none 0 0]).run P w=.ok (.slice (some ⟨(E.loc b).blk,(E.loc b).off+o,none⟩) n c) w:=by
      simp[Builtin.append_,run_underlying ht,sizeOf,typeInfo,z4,Builtin.lenOf,Builtin.firstCells,storeCells,h1]
     refine fin (H.set b .dead) _ w (some (E.loc b).blk) E.B (Nat.le_refl _) hrun hpos (by simpa using hseg) ⟨rfl,rfl,rfl,Nat.le_refl _,fun _ _ _=>rfl⟩ (fun k hk=>by simp at hk;omega) (by simp) (fun d y hy=>(dead b d y hy).imp id (fun hh=>⟨hh.1,fun ho hh'=>h.inj d b y _ hh.1 hbb ho rfl hh.2 (by simpa using hh')⟩)) (fun g hg=>.inl hg.symm)
    obtain⟨v',w',hrun,s2,s3,s4⟩:=run_app_seg (P:=P) E.B t ty e i zv es by_ ht z4 z5 hsz hby hzl n2 _ _ _ hseg ad m c' nvs nvl hcell none1 (small _ hbd) hbd h.base
    refine fin (H.set b .dead) v' w' (some (E.loc b).blk) E.B (Nat.le_refl _) hrun hpos s2 s3 (fun k hk=>by simp at hk;omega) (by simp) (fun d y hy=>(dead b d y hy).imp id (fun hh=>⟨hh.1,fun ho hh'=>h.inj d b y _ hh.1 hbb ho rfl hh.2 (by simpa using hh')⟩)) (fun g hg=>(s4 g hg).imp (fun e=>by simpa [Value.ownBlock] using e.symm) id)
   cases hr
 cases hr6
end
end Go.Proofs.YtkkhdehdaaealaaGreat
/- The abstract machine: maps with keys that are structs of numbers; copy. Conditions: as each theorem states. -/
namespace Go.Proofs.YtkkhdehdaaealaaGreat
open Go.RowKit
section
variable {P:Program} {E:Env} {H:aa} {w:World}
def tMap (P:Program) (t:TypeId):Option (TypeId×TypeId) :=
 match P.underlying t with
 |some (.map k e)=>(match P.underlying k with|some (.struct _)=>some (k,e)|_=>none)
 |_=>none
theorem ib {t k e:TypeId}(h:tMap P t=some (k,e)):P.underlying t=some (.map k e)/\∃fs,P.underlying k=some (.struct fs):=by
 unfold tMap at h
 split at h
 ·rename_i k' e' hu
  split at h
  ·rename_i fs hk
   injection h with h;injection h with h1 h2
   subst h1 h2
   exact⟨hu,fs,hk⟩
  cases h
 cases h
def iI (P:Program) (kt:TypeId) (ks:List AV):List (AV×AV)->Option (Option (Nat×AV))
 |[]=>some none
 |(.agg ks',v)::r=>(aEq P 20 kt ks ks').bind fun b=>bif b then some (some (0,v)) else (iI P kt ks r).map fun o=>o.map fun p=>(p.1+1,p.2)
 |_=>none
def gD:List AV->List AV->Bool
 |[],[]=>true
 |.int k a::r,.int k' b::s=>decide (k=k')&&(decide (a=b)&&gD r s)
 |_,_=>false
theorem k9:∀{xs ys:List AV}{vs us:List Value},gD xs ys=true->RelL E xs vs->RelL E ys us->vs=us
 | [],[],vs,us,_,h1,h2=>by
  have e1:=List.length_eq_zero_iff.1 h1.1.symm
  have e2:=List.length_eq_zero_iff.1 h2.1.symm
  rw[e1,e2]
 | .int k a::r,.int k' b::s,vs,us,h,h1,h2=>by
  simp[gD] at h
  obtain⟨rfl,rfl,h⟩:=h
  match vs,us,h1,h2 with
  | v::vs,u::us,h1,h2 =>
   obtain⟨a1,a2⟩:=h1.uncons
   obtain⟨b1,b2⟩:=h2.uncons
   cases a1;cases b1
   rw[k9 h a2 b2]
def aKey (P:Program) (kt:TypeId) (k:AV):Option (List AV) :=
 match k with
 |.agg xs=>(aEq P 20 kt xs xs).bind fun _=>(bu (gD xs xs=true)).map fun _=>xs
 |_=>none
theorem run_checkKey (em:Bool):∀(d:Nat) (t:TypeId) (xs:List AV) (vs:List Value) (v:Value) (r:Bool),aEq P d t xs xs=some r->RelL E xs vs->c6 P t vs v->∀D w,(Instr.checkKey em (d+D) t v).run P w=.ok () w
 |0,_,_,_,_,_,h,_,_,_,_=>by simp[aEq] at h
 | d + 1,t,xs,vs,v,r,h,hx,hv,D,w=>by
  rw[show d+1+D=(d+D)+1 by omega]
  unfold aEq at h
  unfold c6 at hv
  cases ht:P.underlying t with
  |none=>rw[ht] at h;cases h
  | some td =>
   rw[ht] at h
   rw[gh ht] at hv
   cases td<;>try (simp at h;done)
   ·simp only[dAgg,Option.some.injEq,Bool.false_eq_true,if_false] at hv
    simp[Instr.checkKey,run_underlying ht]
   ·simp[Instr.checkKey,run_underlying ht]
   ·simp[Instr.checkKey,run_underlying ht]
   rename_i fs
   simp only[dAgg,if_true] at hv
   subst hv
   simp only at h
   split at h
   ·cases h
   simp only[Instr.checkKey,Sem.run_bind,run_underlying ht,Result.andThen_ok]
   rw[<-Array.forIn_toList]
   clear ht
   generalize fs.toList=l at h ⊢
   induction l generalizing r with
   |nil=>simp
   | cons f l ih =>
    simp only[List.foldr_cons] at h
    obtain⟨r',hr',h⟩:=ag h
    split at h
    ·cases h
    rename_i hname
    obtain⟨n,hn,h⟩:=ag h
    simp only[Option.map_eq_some_iff] at h
    obtain⟨b,hb,rfl⟩:=h
    have hg:∃g,aM P f.type=some g/\(g=false->((xs.drop f.offset).take n).length=1):=by
     cases d with
     |zero=>simp[aEq] at hb
     | succ d' =>
      unfold aEq at hb
      cases hft:P.underlying f.type with
      |none=>rw[hft] at hb;cases hb
      | some fd =>
       rw[gh hft]
       rw[hft] at hb
       refine⟨_,rfl,fun hgf=>?_⟩
       cases fd<;>try (simp[dAgg] at hgf;done)
       all_goals (simp only at hb;try (cases hb;done))
       all_goals (split at hb<;>first|(cases hb;done)|(rename_i e1 e2;rw[e1];rfl))
    obtain⟨g,hg0,hg1⟩:=hg
    have hpart:∃x,(part f.type vs.toArray f.offset).run P w=.ok x w/\c6 P f.type ((vs.drop f.offset).take n) x:=by
     cases g
     ·obtain⟨x,hxx⟩:=List.length_eq_one_iff.1 (hg1 rfl)
      obtain⟨y,hy,hxy⟩:=de (by rw[<-hxx];exact(hx.drop f.offset).take n)
      refine⟨y,run_part (w:=w) hg0 ?_,?_⟩
      ·have h0:=congrArg (·[0]?) hy
       simp only[List.getElem?_cons_zero] at h0
       rw[List.getElem?_take] at h0
       split at h0
       ·simpa using h0
       cases h0
      unfold c6;rw[hg0];simp[hy]
     refine⟨_,run_part (w:=w) hg0 (by simp only[if_true];exact⟨n,hn,rfl⟩),?_⟩
     unfold c6
     rw[hg0]
     simp[List.extract_eq_take_drop]
    obtain⟨x,p1,p2⟩:=hpart
    have hrun:=run_checkKey em d f.type _ _ x b hb ((hx.drop f.offset).take n) p2 D w
    simp only[List.forIn_cons,Sem.run_bind,hname,ne_eq,not_false_eq_true,if_true,p1,Result.andThen_ok,hrun,Sem.run_pure]
    exact ih r' hr'
theorem la {kt:TypeId}{k:AV}{xs:List AV}(h:aKey P kt k=some xs):k=.agg xs/\gD xs xs=true/\∃r,aEq P 20 kt xs xs=some r:=by
 unfold aKey at h
 split at h
 ·obtain⟨r,hr,h⟩:=ag h
  obtain⟨h1,rfl⟩:=cZ h
  exact⟨rfl,h1,r,hr⟩
 cases h
theorem df {xs:List AV}{v:Value}(h:Rel E (.agg xs) v):∃vs:List Value,v=.agg vs.toArray/\RelL E xs vs:=by
 cases h with
 |agg _ cs hl hc=>exact⟨cs.toList,by simp,RelL.of_agg (.agg xs cs hl hc)⟩
theorem run_findAsking {kt:TypeId}{fs:Array Field}(hkt:P.underlying kt=some (.struct fs)){ks:List AV}{kvs:List Value}(hk:RelL E ks kvs):∀(es:List (AV×AV)) (ents:List MapEntry) (o:Option (Nat×AV)) (i:Nat),
  RelL E (es.map (·.1)) (ents.map (·.key))->RelL E (es.map (·.2)) (ents.map (·.val))->iI P kt ks es=some o ->
  ∃o':Option (Nat×Value),(Instr.findAsking kt (.agg kvs.toArray) ents i).run P w=.ok o' w/\(o=none->o'=none)/\(∀j x,o=some (j,x)->∃v,o'=some (i+j,v)/\Rel E x v)
 | [],ents,o,i,h1,h2,h=>by
  have:ents=[]:=by simpa using (List.length_eq_zero_iff.1 h1.1.symm)
  subst this
  simp[iI] at h
  subst h
  exact⟨none,by simp[Instr.findAsking],fun _=>rfl,fun j x e=>by cases e⟩
 |(k',v)::es,[],o,i,h1,h2,h=>by have:=h1.1;simp at this
 | (k',v)::es,e::ents,o,i,h1,h2,h=>by
  simp only[List.map_cons] at h1 h2
  obtain⟨a1,a2⟩:=h1.uncons
  obtain⟨b1,b2⟩:=h2.uncons
  unfold iI at h
  split at h
  ·rename_i e1;cases e1
  ·rename_i ks' v' r e1
   injection e1 with e1 e2
   injection e1 with e1 e3
   subst e1 e2 e3
   obtain⟨b,hb,h⟩:=ag h
   obtain⟨us,hus,husr⟩:=df a1
   have hag:aM P kt=some true:=by rw[gh hkt];rfl
   have heq:(Op.equal kt (.agg kvs.toArray) e.key).run P w=.ok b w:=by
    rw[hus]
    exact run_aEq 20 kt _ _ _ _ _ _ b hb hk husr (by unfold c6;rw[if_pos hag]) (by unfold c6;rw[if_pos hag]) 9980 w
   cases b with
   | true =>
    simp at h
    subst h
    exact⟨some (i,e.val),by simp[Instr.findAsking,heq],(fun hh=>by cases hh),fun j x hh=>by simp at hh;obtain⟨rfl,rfl⟩:=hh;exact⟨_,rfl,b1⟩⟩
   | false =>
    simp only[cond_false,Option.map_eq_some_iff] at h
    obtain⟨o1,ho1,rfl⟩:=h
    obtain⟨o',q1,q2,q3⟩:=run_findAsking hkt hk es ents o1 (i+1) a2 b2 ho1
    refine⟨o',by simp[Instr.findAsking,heq,q1],fun hh=>q2 (by cases o1<;>simp_all),fun j x hh=>?_⟩
    cases o1 with
    |none=>cases hh
    | some p =>
     simp at hh
     obtain⟨rfl,rfl⟩:=hh
     obtain⟨u,hu,hru⟩:=q3 p.1 p.2 rfl
     exact⟨u,by rw[hu];congr 2;omega,hru⟩
  cases h
theorem run_findKey {kt:TypeId}{fs:Array Field}(hkt:P.underlying kt=some (.struct fs)) {ks:List AV}{kvs:List Value}(hk:RelL E ks kvs) {es:List (AV×AV)}{ents:List MapEntry}{o:Option (Nat×AV)}
  (h1:RelL E (es.map (·.1)) (ents.map (·.key))) (h2:RelL E (es.map (·.2)) (ents.map (·.val))) (h:iI P kt ks es=some o) :
  ∃o':Option (Nat×Value),(Instr.findKey kt (.agg kvs.toArray) ents).run P w=.ok o' w/\(o=none->o'=none)/\(∀j x,o=some (j,x)->∃v,o'=some (j,v)/\Rel E x v):=by
 unfold Instr.findKey
 simp only[Sem.run_bind,run_underlying hkt,Result.andThen_ok]
 cases ents with
 | nil =>
  have:es=[]:=by simpa using (List.length_eq_zero_iff.1 h1.1)
  subst this
  simp[iI] at h
  subst h
  exact⟨none,by simp[Instr.findNow],fun _=>rfl,fun j x e=>by cases e⟩
 | cons e ents =>
  have hn:Instr.findNow (.struct fs) (.agg kvs.toArray) (e::ents) 0=none:=by simp[Instr.findNow,Instr.sameNow]
  rw[hn]
  obtain⟨o',q1,q2,q3⟩:=run_findAsking (w:=w) hkt hk es (e::ents) o 0 h1 h2 h
  exact⟨o',q1,q2,fun j x hh=>by obtain⟨v,hv,hr⟩:=q3 j x hh;exact⟨v,by rw[hv];simp,hr⟩⟩
def aEnts (H:aa) (m:AV):Option (List (AV×AV)) :=
 match m with
 |.mp none=>some []
 |.mp (some b)=>(match H[b]? with|some (.map es)=>some es|_=>none)
 |_=>none
def zeroAV (P:Program) (t:TypeId):Option AV:=(aE P t).bind fun z=>(aM P t).bind fun g=>bif g then some (.agg z) else (match z with|[x]=>some x|_=>none)
theorem rB {t:TypeId}{x:AV}(h:zeroAV P t=some x)(hz:∀z:Value,(P.info? t).bind (·.zero)=some z->(aM P t=some true->∃cs,z=.agg cs)/\(aM P t=some false->∀cs,z≠.agg cs)):∃v,(zeroValue t).run P w=.ok v w/\Rel E x v:=by
 unfold zeroAV at h
 obtain⟨z,hz1,h⟩:=ag h
 obtain⟨g,hg,h⟩:=ag h
 obtain⟨zv,z1,z2,z3,i,z4,z5⟩:=run_zero (w:=w) hz1
 have hzz:=hz zv (by simp[z4,z5])
 refine⟨zv,z1,?_⟩
 cases g
 ·simp only[cond_false] at h
  split at h
  ·simp at h;subst h
   have hne:=hzz.2 hg
   have hc:zv.cells=#[zv]:=by cases zv<;>first|rfl|(exact absurd rfl (hne _))
   rw[hc] at z2
   simp at z2
   subst z2
   exact iF E zv
  cases h
 simp only[cond_true,Option.some.injEq] at h
 subst h
 obtain⟨cs,rfl⟩:=hzz.1 hg
 have:=(fp E cs.toList).agg
 rw[z2]
 simpa [Value.cells] using this
def tZeroOk (P:Program) (t:TypeId):Bool :=
 match (P.info? t).bind (·.zero),aM P t with
 |some (.agg _),some true=>true
 |some (.agg _),some false=>false
 |some _,some false=>true
 |_,_=>false
def aLookup (P:Program) (t:TypeId) (m k:AV) (ok:Bool) (H:aa):Option AV :=
 (tMap P t).bind fun p=>(aEnts H m).bind fun es=>(aKey P p.1 k).bind fun ks=>(iI P p.1 ks es).bind fun o=>(bu (tZeroOk P p.2=true)).bind fun _=>(zeroAV P p.2).map fun z =>
  match o with
  |some q=>bif ok then .tup [q.2,.bool true] else q.2
  |none=>bif ok then .tup [z,.bool false] else z
theorem nk (h:Emb E H w){m:AV}{v:Value}(hv:Rel E m v){es:List (AV×AV)}(he:aEnts H m=some es):
  ∃ents:List MapEntry,RelL E (es.map (·.1)) (ents.map (·.key))/\RelL E (es.map (·.2)) (ents.map (·.val))/\((v=.map none/\ents=[])\/∃b clock,m=.mp (some b)/\v=.map (some (E.loc b).blk)/\w.heap[(E.loc b).blk]? = some (.map ents.toArray clock)):=by
 unfold aEnts at he
 split at he
 ·simp at he;subst he
  cases hv
  exact⟨[],by simpa using RelL.nil E,by simpa using RelL.nil E,.inl ⟨rfl,rfl⟩⟩
 ·rename_i b
  split at he
  ·rename_i es' hb
   simp at he;subst he
   cases hv with
   |mp _ hbn =>
   obtain⟨k1,k2,ents,clock,k3,k4,k5,k6⟩:=h.blk b _ hb
   exact⟨ents.toList,k4,k5,.inr ⟨b,clock,rfl,rfl,by simpa using k3⟩⟩
  cases he
 cases he
theorem rN (h:Emb E H w){t:TypeId}{m k:AV}{mv kv:Value}(hm:Rel E m mv)(hk:Rel E k kv){ok:Bool}{r:AV}(hr:aLookup P t m k ok H=some r):Snd P E w (Instr.lookup t mv kv ok) (r,H):=by
 unfold aLookup at hr
 obtain⟨⟨kt,et⟩,ht,hr1⟩:=ag hr
 obtain⟨es,hes,hr2⟩:=ag hr1
 obtain⟨ks,hks,hr3⟩:=ag hr2
 obtain⟨o,ho,hr4⟩:=ag hr3
 obtain⟨hzo,hr5⟩:=eG hr4
 simp only[Option.map_eq_some_iff] at hr5
 obtain⟨z,hz,hr6⟩:=hr5
 obtain⟨hu,fs,hkt⟩:=ib ht
 obtain⟨rfl,-,q,hq⟩:=la hks
 obtain⟨kvs,rfl,hkr⟩:=df hk
 obtain⟨ents,e1,e2,e3⟩:=nk h hm hes
 have hag:aM P kt=some true:=by rw[gh hkt];rfl
 obtain⟨o',q1,q2,q3⟩:=run_findKey (w:=w) hkt hkr e1 e2 ho
 have hck:∀em,(Instr.checkKey em 10000 kt (.agg kvs.toArray)).run P w=.ok () w:=fun em=>run_checkKey em 20 kt ks kvs _ q hq hkr (by unfold c6;rw[if_pos hag]) 9980 w
 obtain ⟨zv,z1,z2⟩:=rB (E:=E) (w:=w) hz (fun zv hzv=>by
  unfold tZeroOk at hzo
  simp only at hzo
  rw[hzv] at hzo
  constructor
  ·intro hg;rw[hg] at hzo;cases zv<;>simp at hzo;exact⟨_,rfl⟩
  intro hg cs hcs;subst hcs;rw[hg] at hzo;simp at hzo)
 clear hr hr1 hr2 hr3 hr4
 have go:∀(x:Value) (y:AV),Rel E y x->((mv=.map none/\ents=[])\/(∃b clock,mv=.map (some b)/\w.heap[b]? = some (.map ents.toArray clock))->(Instr.lookup t mv (.agg kvs.toArray) ok).run P w=.ok x w)->Snd P E w (Instr.lookup t mv (.agg kvs.toArray) ok) (y,H):=fun x y hy hx =>
  .of_run h (hx (e3.imp id fun ⟨b,clock,_,e,hh⟩=>⟨_,clock,e,hh⟩)) hy
 cases o with
 | none =>
  have:=q2 rfl
  subst this
  simp only at hr6
  subst hr6
  cases ok
  ·refine go zv _ z2 ?_
   rintro(⟨rfl,rfl⟩|⟨b,clock,rfl,hheap⟩)
   ·simp[Instr.lookup,run_underlying hu,hck,q1,z1]
   have hget:(getObj b).run P w=.ok (.map ents.toArray clock) w:=by simp[getObj,Sem.run,hheap]
   simp[Instr.lookup,run_underlying hu,hget,hck,q1,z1]
  refine go (.tuple #[zv,.bool false]) _ ((RelL.cons z2 (.cons (.bool false) (.nil E))).tup) ?_
  rintro(⟨rfl,rfl⟩|⟨b,clock,rfl,hheap⟩)
  ·simp[Instr.lookup,run_underlying hu,hck,q1,z1]
  have hget:(getObj b).run P w=.ok (.map ents.toArray clock) w:=by simp[getObj,Sem.run,hheap]
  simp[Instr.lookup,run_underlying hu,hget,hck,q1,z1]
 | some p =>
  obtain⟨v,rfl,hv⟩:=q3 p.1 p.2 rfl
  simp only at hr6
  subst hr6
  cases ok
  ·refine go v _ hv ?_
   rintro(⟨rfl,rfl⟩|⟨b,clock,rfl,hheap⟩)
   ·simp[Instr.lookup,run_underlying hu,hck,q1]
   have hget:(getObj b).run P w=.ok (.map ents.toArray clock) w:=by simp[getObj,Sem.run,hheap]
   simp[Instr.lookup,run_underlying hu,hget,hck,q1]
  refine go (.tuple #[v,.bool true]) _ ((RelL.cons hv (.cons (.bool true) (.nil E))).tup) ?_
  rintro(⟨rfl,rfl⟩|⟨b,clock,rfl,hheap⟩)
  ·simp[Instr.lookup,run_underlying hu,hck,q1]
  have hget:(getObj b).run P w=.ok (.map ents.toArray clock) w:=by simp[getObj,Sem.run,hheap]
  simp[Instr.lookup,run_underlying hu,hget,hck,q1]
end
end Go.Proofs.YtkkhdehdaaealaaGreat
/- The abstract machine: maps written, lengths, copy, small builtins. Conditions: as each theorem states. -/
namespace Go.Proofs.YtkkhdehdaaealaaGreat
open Go.RowKit
section
variable {P:Program} {E:Env} {H:aa} {w:World}
theorem Emb.drew (h:Emb E H w):Emb E H w.drew:=⟨h.n,h.below.drew,h.base,h.blk,h.inj⟩
theorem nl {α β:Type}(f:α->β):∀(l:List α) (i:Nat),(l.map f).eraseIdx i=(l.eraseIdx i).map f
 |[],i=>by simp
 |x::l,0=>by simp
 |x::l,i+1=>by simp[nl f l i]
theorem mok_push {ents:Array MapEntry}{clock:Nat}(h:MOk ents clock){k v:Value}:MOk (ents.push { key:=k,val:=v,born:=clock }) (clock+1):=by
 refine⟨fun e he=>?_,?_⟩
 ·rw[Array.toList_push,List.mem_append,List.mem_singleton] at he
  rcases he with he|rfl
  ·exact Nat.lt_succ_of_lt (h.1 e he)
  exact Nat.lt_succ_self _
 rw[Array.toList_push,List.map_append,List.nodup_append]
 refine⟨h.2,List.nodup_cons.2 ⟨by simp,List.nodup_nil⟩,fun a ha b hb=>?_⟩
 obtain⟨e,he,rfl⟩:=List.mem_map.1 ha
 have:=h.1 e he
 simp at hb
 omega
theorem rO {ents:Array MapEntry}{clock i:Nat}(h:MOk ents clock){k v:Value}:MOk (ents.modify i fun e=>{ e with key:=k,val:=v }) clock:=by
 have e:(ents.modify i fun e=>{ e with key:=k,val:=v }).toList.map (·.born)=ents.toList.map (·.born):=by
  refine List.ext_getElem? fun j=>?_
  simp only[List.getElem?_map,Array.toList_modify,List.getElem?_modify]
  by_cases q:i=j
  ·subst q;cases ents.toList[i]? <;>simp
  simp[q]
 refine⟨fun x hx=>?_,by rw[e];exact h.2⟩
 have:=List.mem_map_of_mem (f:=(·.born)) hx
 rw[e] at this
 obtain⟨y,hy,q⟩:=List.mem_map.1 this
 have:=h.1 y hy
 omega
theorem mok_erase {ents:Array MapEntry}{clock i:Nat}(h:MOk ents clock):MOk (ents.eraseIdxIfInBounds i) clock:=by
 have e:(ents.eraseIdxIfInBounds i).toList=ents.toList.eraseIdx i:=by simp
 refine⟨fun x hx=>h.1 x ?_,?_⟩
 ·rw[e] at hx;exact List.mem_of_mem_eraseIdx hx
 rw[e,<-nl];exact h.2.sublist (List.eraseIdx_sublist _ _)
theorem Emb.setMap (h:Emb E H w){b:Nat}{es es':List (AV×AV)}(hb:H[b]? = some (.map es)){ents:Array MapEntry}(clock:Nat)(h1:RelL E (es'.map (·.1)) (ents.toList.map (·.key)))(h2:RelL E (es'.map (·.2)) (ents.toList.map (·.val)))(h3:MOk ents clock):
  Emb E (H.set b (.map es')) { w with heap:=w.heap.setIfInBounds (E.loc b).blk (.map ents clock) }:=by
 obtain⟨k1,k2,-⟩:=h.blk b _ hb
 have hbl:=getElem?_lt hb
 have hother:∀k,k≠(E.loc b).blk->({ w with heap:=w.heap.setIfInBounds (E.loc b).blk (.map ents clock) }:World).heap[k]? = w.heap[k]? :=fun k hk=>by
  simp only;rw[Array.getElem?_setIfInBounds_ne (by omega)]
 have hget:∀c x,(H.set b (.map es'))[c]? = some x->(c=b/\x=.map es')\/(c≠b/\H[c]? = some x):=fun c x hx=>by
  rw[List.getElem?_set] at hx
  by_cases e:b=c
  ·subst e;simp[hbl] at hx;exact .inl ⟨rfl,hx.symm⟩
  rw[if_neg e] at hx;exact .inr ⟨fun e'=>e e'.symm,hx⟩
 refine⟨by simp[h.n],h.below.trans ⟨rfl,rfl,rfl,by simp,fun k hk=>hother k (by omega)⟩,by simpa using h.base,fun c x hx=>?_,fun c d x y hx hy ox oy hcd=>?_⟩
 ·rcases hget c x hx with ⟨rfl,rfl⟩|⟨hcb,hx⟩
  ·exact⟨k1,by simpa using k2,ents,clock,by simp[k2],h1,h2,h3⟩
  exact(h.blk c x hx).mono (.refl E) (by simp) (fun ho=>hother _ (h.inj c b x _ hx hb ho rfl hcb)) (fun hB=>hother _ (by omega))
 have ow:∀(c:Nat) (x:ABlk),(H.set b (.map es'))[c]? = some x->x.owned=true->∃x':ABlk,H[c]? = some x'/\x'.owned=true:=fun c x hx ho=>by
  rcases hget c x hx with ⟨rfl,rfl⟩|⟨_,hx⟩
  ·exact⟨_,hb,rfl⟩
  exact⟨x,hx,ho⟩
 obtain⟨x',hx',ox'⟩:=ow c x hx ox
 obtain⟨y',hy',oy'⟩:=ow d y hy oy
 exact h.inj c d x' y' hx' hy' ox' oy' hcd
theorem run_setObj {r:Nat}{ents:Array MapEntry}{clock:Nat}(hh:w.heap[r]? = some (.map ents clock))(o:Obj):(setObj r o).run P w=.ok () { w with heap:=w.heap.setIfInBounds r o }:=by
 simp[setObj,Sem.run,hh]
theorem run_keyStays (k:Value):∃w',(Instr.keyThatStays k k).run P w=.ok k w'/\(w'=w\/w'=w.drew):=by
 unfold Instr.keyThatStays
 split
 ·exact⟨w,by simp,.inl rfl⟩
 by_cases hf : (Question.extern "map.whichKeyStays" 2).forced = true
 ·exact⟨w,by simp[hf],.inl rfl⟩
 exact⟨w.drew,by simp[hf],.inr rfl⟩
def aMapUpdate (P:Program) (t:TypeId) (m k x:AV) (H:aa):Option aa :=
 match m with
 | .mp (some b) =>
  match H[b]? with
  | some (.map es)=>(tMap P t).bind fun p=>(aKey P p.1 k).bind fun ks=>(iI P p.1 ks es).bind fun o =>
   match o with
   |none=>some (H.set b (.map (es++[(.agg ks,x)])))
   |some q=>(bu ((match es[q.1]? with|some (.agg ks',_)=>gD ks' ks|_=>false)=true)).map fun _=>H.set b (.map (es.set q.1 (.agg ks,x)))
  |_=>none
 |_=>none
theorem p8 {xs:List AV}{vs:List Value}(h:RelL E xs vs)(i:Nat){x:AV}{v:Value}(hv:Rel E x v):RelL E (xs.set i x) (vs.set i v) :=
 ⟨by simp[h.1],fun j y u hy hu=>by
  rw[List.getElem?_set] at hy hu
  by_cases e:i=j
  ·rw[if_pos e] at hy hu
   split at hy
   ·split at hu
    ·simp at hy hu;subst hy hu;exact hv
    cases hu
   cases hy
  rw[if_neg e] at hy hu;exact h.2 j y u hy hu⟩
theorem pX (h:Emb E H w){t:TypeId}{m k x:AV}{mv kv xv:Value}(hm:Rel E m mv)(hk:Rel E k kv)(hx:Rel E x xv){H':aa}(hr:aMapUpdate P t m k x H=some H'):SndU P E w (Instr.mapUpdate t mv kv xv) H':=by
 unfold aMapUpdate at hr
 split at hr
 ·rename_i b
  split at hr
  ·rename_i es hb
   obtain⟨⟨kt,et⟩,ht,hr1⟩:=ag hr
   obtain⟨ks,hks,hr2⟩:=ag hr1
   obtain⟨o,ho,hr3⟩:=ag hr2
   clear hr hr1 hr2
   obtain⟨hu,fs,hkt⟩:=ib ht
   obtain⟨rfl,-,q,hq⟩:=la hks
   obtain⟨kvs,rfl,hkr⟩:=df hk
   cases hm with
   |mp _ hbn =>
   obtain⟨k1,k2,ents,clock,k3,k4,k5,k6⟩:=h.blk b _ hb
   have hag:aM P kt=some true:=by rw[gh hkt];rfl
   obtain⟨o',q1,q2,q3⟩:=run_findKey (w:=w) hkt hkr k4 k5 ho
   have hck:∀em,(Instr.checkKey em 10000 kt (.agg kvs.toArray)).run P w=.ok () w:=fun em=>run_checkKey em 20 kt ks kvs _ q hq hkr (by unfold c6;rw[if_pos hag]) 9980 w
   have hget:(getObj (E.loc b).blk).run P w=.ok (.map ents clock) w:=by simp[getObj,Sem.run,k3]
   cases o with
   | none =>
    have:=q2 rfl
    subst this
    simp at hr3
    subst hr3
    refine⟨E,_,?_,.refl E,h.setMap hb (ents:=ents.push { key:=.agg kvs.toArray,val:=xv,born:=clock }) (clock+1) ?_ ?_ (mok_push k6)⟩
    ·simp only[Instr.mapUpdate,Sem.run_bind,run_underlying hu,Result.andThen_ok,hget,hck,q1,run_setObj k3]
    ·simpa using k4.append (.cons hk (.nil E))
    simpa using k5.append (.cons hx (.nil E))
   | some p =>
    obtain⟨i,y⟩:=p
    obtain⟨v,rfl,hv⟩:=q3 i y rfl
    obtain⟨hsame,rfl⟩:=cZ hr3
    simp only at hsame
    split at hsame
    ·rename_i ks' y' hes
     have hkeyrel:∃e,ents[i]? = some e/\Rel E (.agg ks') e.key:=by
      obtain⟨u,hu1,hu2⟩:=k4.get (i:=i) (x:=.agg ks') (by rw[List.getElem?_map,hes];rfl)
      rw[List.getElem?_map] at hu1
      cases hei:ents.toList[i]? with
      |none=>rw[hei] at hu1;cases hu1
      |some e=>rw[hei] at hu1;simp at hu1;subst hu1;exact⟨e,by simpa using hei,hu2⟩
     obtain⟨e,he,her⟩:=hkeyrel
     obtain⟨us,hus,husr⟩:=df her
     have hkeq:=k9 hsame husr hkr
     subst hkeq
     obtain⟨w1,hw1,hw1'⟩:=run_keyStays (P:=P) (w:=w) (.agg us.toArray)
     have hE1:Emb E H w1:=by rcases hw1' with rfl|rfl;exact h;exact h.drew
     have k3':w1.heap[(E.loc b).blk]? = some (.map ents clock):=by rcases hw1' with rfl|rfl<;>exact k3
     refine⟨E,_,?_,.refl E,hE1.setMap hb (ents:=ents.modify i fun e=>{ e with key:=.agg us.toArray,val:=xv }) clock ?_ ?_ (rO k6)⟩
     ·have hmap:((ents[i]?.map (·.key)).getD (.agg us.toArray))=.agg us.toArray:=by rw[he];exact hus
      simp only[Instr.mapUpdate,Sem.run_bind,run_underlying hu,Result.andThen_ok,hget,hck,q1]
      simp only[hmap,hw1,Result.andThen_ok,run_setObj k3']
     ·have:=p8 k4 i hk
      refine⟨by have:=this.1;simp at this ⊢;exact this,fun j y u hy hu=>this.2 j y u (by rw[<-hy];simp[List.map_set]) ?_⟩
      rw[<-hu]
      simp only[List.getElem?_set,List.getElem?_map,List.length_map,Array.toList_modify,List.getElem?_modify]
      by_cases e:i=j
      ·subst e;simp[he]
       exact(Array.getElem?_eq_some_iff.1 he).1
      simp[e]
     have:=p8 k5 i hx
     refine⟨by have:=this.1;simp at this ⊢;exact this,fun j y u hy hu=>this.2 j y u (by rw[<-hy];simp[List.map_set]) ?_⟩
     rw[<-hu]
     simp only[List.getElem?_set,List.getElem?_map,List.length_map,Array.toList_modify,List.getElem?_modify]
     by_cases e:i=j
     ·subst e;simp[he]
      exact(Array.getElem?_eq_some_iff.1 he).1
     simp[e]
    cases hsame
  cases hr
 cases hr
def aDelete (P:Program) (t:TypeId) (m k:AV) (H:aa):Option aa :=
 match m with
 | .mp (some b) =>
  match H[b]? with
  | some (.map es)=>(tMap P t).bind fun p=>(aKey P p.1 k).bind fun ks=>(iI P p.1 ks es).map fun o =>
   match o with
   |none=>H.set b (.map es)
   |some q=>H.set b (.map (es.eraseIdx q.1))
  |_=>none
 |_=>none
theorem ic {α β:Type}(f:α->β):∀(l:List α) (i:Nat),(l.map f).eraseIdx i=(l.eraseIdx i).map f
 |[],i=>by simp
 |x::l,0=>by simp
 |x::l,i+1=>by simp[ic f l i]
theorem nm {xs:List AV}{vs:List Value}(h:RelL E xs vs)(i:Nat):RelL E (xs.eraseIdx i) (vs.eraseIdx i) :=
 ⟨by simp[List.length_eraseIdx,h.1],fun j y u hy hu=>by
  rw[List.getElem?_eraseIdx] at hy hu
  split at hy
  ·exact h.2 j y u hy (by simpa [*] using hu)
  exact h.2 (j+1) y u hy (by simpa [*] using hu)⟩
theorem rP (h:Emb E H w){t ty:TypeId}{m k:AV}{mv kv:Value}(hm:Rel E m mv)(hk:Rel E k kv)(at_:Array TypeId)(hat:at_[0]? = some t){H':aa}(hr:aDelete P t m k H=some H'):Snd P E w (Builtin.delete_ at_ ty #[mv,kv]) (.any,H'):=by
 unfold aDelete at hr
 split at hr
 ·rename_i b
  split at hr
  ·rename_i es hb
   obtain⟨⟨kt,et⟩,ht,hr1⟩:=ag hr
   obtain⟨ks,hks,hr2⟩:=ag hr1
   simp only[Option.map_eq_some_iff] at hr2
   obtain⟨o,ho,hr3⟩:=hr2
   clear hr hr1
   obtain⟨hu,fs,hkt⟩:=ib ht
   obtain⟨rfl,-,q,hq⟩:=la hks
   obtain⟨kvs,rfl,hkr⟩:=df hk
   cases hm with
   |mp _ hbn =>
   obtain⟨k1,k2,ents,clock,k3,k4,k5,k6⟩:=h.blk b _ hb
   have hag:aM P kt=some true:=by rw[gh hkt];rfl
   obtain⟨o',q1,q2,q3⟩:=run_findKey (w:=w) hkt hkr k4 k5 ho
   have hck:∀em,(Instr.checkKey em 10000 kt (.agg kvs.toArray)).run P w=.ok () w:=fun em=>run_checkKey em 20 kt ks kvs _ q hq hkr (by unfold c6;rw[if_pos hag]) 9980 w
   have hget:(getObj (E.loc b).blk).run P w=.ok (.map ents clock) w:=by simp[getObj,Sem.run,k3]
   cases o with
   | none =>
    have:=q2 rfl
    subst this
    simp at hr3
    subst hr3
    refine⟨E,.tuple #[],_,?_,.refl E,.any _,h.setMap hb (ents:=ents) clock k4 k5 k6⟩
    simp only[Builtin.delete_,hat,List.getElem?_toArray,List.getElem?_cons_zero,List.getElem?_cons_succ,Sem.run_bind,run_underlying hu,Result.andThen_ok,hget,hck,q1,run_setObj k3]
    simp
   | some p =>
    obtain⟨i,y⟩:=p
    obtain⟨v,rfl,hv⟩:=q3 i y rfl
    simp at hr3
    subst hr3
    refine⟨E,.tuple #[],_,?_,.refl E,.any _,h.setMap hb (ents:=ents.eraseIdxIfInBounds i) clock ?_ ?_ (mok_erase k6)⟩
    ·simp only[Builtin.delete_,hat,List.getElem?_toArray,List.getElem?_cons_zero,List.getElem?_cons_succ,Sem.run_bind,run_underlying hu,Result.andThen_ok,hget,hck,q1,run_setObj k3]
     simp
    ·have:=nm k4 i
     rw[ic,ic] at this
     simpa using this
    have:=nm k5 i
    rw[ic,ic] at this
    simpa using this
  cases hr
 cases hr
theorem mj (h:Emb E H w)(t:TypeId):Snd P E w (Instr.makeMap t none) (.mp (some H.length),H++[.map []]):=by
 have hg:w.grownBy (w.alloc (.map #[] 0)) none:=⟨rfl,rfl,rfl,by simp,fun k hk _=>Below.heap_alloc _ _ _ hk⟩
 have hE:=h.grow hg (fun k hk=>by cases hk) rfl (fun c x hx=>.inr ⟨hx,fun _ hh=>by cases hh⟩) ⟨w.heap.size,0,0,0⟩ (.map []) ⟨h.base,by simp,#[],0,heap_alloc_new w _,by simpa using RelL.nil _,by simpa using RelL.nil _,by simp[MOk]⟩
  (fun c x hx ho=>by
   have hk:=h.blk c x hx
   have:(E.loc c).blk<w.heap.size:=by
    cases x with
    |dead=>cases ho
    |cells own e ys=>exact(hk.2.1 ho).2.1
    |map es=>exact hk.2.1
    |fmap es bs ck=>exact hk.2.1
    |iter m bs sn ck=>exact hk.2.1
   show (E.loc c).blk≠w.heap.size
   omega)
 have en:=Env.push_new E ⟨w.heap.size,0,0,0⟩
 rw[h.n] at en
 have hp:=Rel.mp (E:=E.push ⟨w.heap.size,0,0,0⟩) H.length (by simp[Env.push,h.n])
 rw[en] at hp
 exact⟨_,_,_,by simp[Instr.makeMap],E.le_push _,hp,hE⟩
def aLen (P:Program) (t:TypeId) (x:AV) (H:aa):Option AV :=
 match x with
 |.sl _ n _=>(cr P t).map fun _=>.int .i64 n
 |.mp m=>(tMap P t).bind fun _=>(aEnts H (.mp m)).map fun es=>.int .i64 es.length
 |.str s=>(bu (aM P t=some false/\cr P t=none/\tMap P t=none/\(match P.underlying t with|some .string=>true|_=>false)=true)).map fun _=>.int .i64 s.length
 |_=>none
theorem snd_len (h:Emb E H w){t ty:TypeId}{x:AV}{v:Value}(hv:Rel E x v)(at_:Array TypeId)(hat:at_[0]? = some t){r:AV}(hr:aLen P t x H=some r):Snd P E w (Builtin.len_ at_ ty #[v]) (r,H):=by
 unfold aLen at hr
 split at hr
 ·rename_i a n c
  simp only[Option.map_eq_some_iff] at hr
  obtain⟨e,he,rfl⟩:=hr
  have hu:=dt he
  cases hv with
  |nilsl=>exact .of_run h (by simp[Builtin.len_,hat,run_underlying hu];rfl) (.int .i64 _)
  |nils _ _ hb hc=>exact .of_run h (by simp[Builtin.len_,hat,run_underlying hu];rfl) (.int .i64 _)
  |sl _ _ _ _ c a=>exact .of_run h (by simp[Builtin.len_,hat,run_underlying hu];rfl) (.int .i64 _)
 ·rename_i m
  obtain⟨⟨kt,et⟩,ht,hr1⟩:=ag hr
  simp only[Option.map_eq_some_iff] at hr1
  obtain⟨es,hes,rfl⟩:=hr1
  obtain⟨hu,-,-⟩:=ib ht
  obtain⟨ents,e1,-,e3⟩:=nk h hv hes
  have hl:es.length=ents.length:=by have:=e1.1;simpa using this
  rcases e3 with ⟨rfl,rfl⟩|⟨b,clock,-,rfl,hheap⟩
  ·rw[hl];exact .of_run h (by simp[Builtin.len_,hat,run_underlying hu];rfl) (.int .i64 _)
  rw[hl]
  have hget:(getObj (E.loc b).blk).run P w=.ok (.map ents.toArray clock) w:=by simp[getObj,Sem.run,hheap]
  exact .of_run h (by simp[Builtin.len_,hat,run_underlying hu,hget];rfl) (.int .i64 _)
 ·rename_i s
  obtain⟨⟨-,-,-,q⟩,rfl⟩:=cZ hr
  split at q
  ·rename_i hu
   cases hv
   exact .of_run h (by simp[Builtin.len_,hat,run_underlying hu];rfl) (.int .i64 _)
  cases q
 cases hr
def aCopy (P:Program) (t:TypeId) (d s:AV) (H:aa):Option (AV×aa) :=
 (cr P t).bind fun e=>(tSz P e).bind fun sz =>
  match d,s with
  |.sl (some (b,o)) n _,.sl (some (b',o')) m _=>bif min m n==0 then some (.int .i64 0,H) else (ards H b' o' (min m n*sz)).bind fun l=>(awrite H b o l).map fun H'=>(.int .i64 (min m n:Nat),H')
  |.sl none _ _,.sl _ _ _=>some (.int .i64 0,H)
  |.sl _ _ _,.sl none _ _=>some (.int .i64 0,H)
  |_,_=>none
theorem snd_copy (h:Emb E H w){t ty:TypeId}{d s:AV}{dv sv:Value}(hd:Rel E d dv)(hs:Rel E s sv)(at_:Array TypeId)(hat:at_[0]? = some t){r:AV×aa}(hr:aCopy P t d s H=some r):Snd P E w (Builtin.copy_ at_ ty #[dv,sv]) r:=by
 unfold aCopy at hr
 obtain⟨e,he,hr1⟩:=ag hr
 obtain⟨sz,hsz,hr2⟩:=ag hr1
 clear hr hr1
 have hu:=dt he
 split at hr2
 ·rename_i b o n c b' o' m c'
  have c00:∀A q,(Builtin.copy_ at_ ty #[.slice none 0 0,.slice A m q]).run P w=.ok (.int .i64 0) w:=fun A q=>by
   cases A<;>(simp[Builtin.copy_,hat,run_underlying hu,Builtin.lenOf,run_sizeOf' hsz,Builtin.firstCells,loadCells,loadCellsFrom];rfl)
  have c01:∀A q,(Builtin.copy_ at_ ty #[.slice A n q,.slice none 0 0]).run P w=.ok (.int .i64 0) w:=fun A q=>by
   cases A<;>(simp[Builtin.copy_,hat,run_underlying hu,Builtin.lenOf,run_sizeOf' hsz,Builtin.firstCells,storeCells];rfl)
  cases hd with
  | nils _ _ hb hc =>
   rw[show (min m 0==0)=true by simp] at hr2
   simp only[cond_true,Option.some.injEq] at hr2;subst hr2
   cases hs with
   |nils _ _ hb' hc'=>exact .of_run h (c00 _ _) (.int .i64 0)
   |sl _ _ _ _ q' a' hb' h1' h2' h3' h4' h5'=>exact .of_run h (c00 _ _) (.int .i64 0)
  |sl _ _ _ _ q a hb h1 h2 h3 h4 h5 =>
  cases hs with
  | nils _ _ hb' hc' =>
   rw[show (min 0 n==0)=true by simp] at hr2
   simp only[cond_true,Option.some.injEq] at hr2;subst hr2
   exact .of_run h (c01 _ _) (.int .i64 0)
  |sl _ _ _ _ q' a' hb' h1' h2' h3' h4' h5' =>
  cases h0:(min m n==0) with
  | true =>
   rw[h0] at hr2
   simp at hr2;subst hr2
   have h00:Nat.min m n=0:=by simpa using h0
   exact .of_run h (by simp[Builtin.copy_,hat,run_underlying hu,Builtin.lenOf,run_sizeOf' hsz,h00,Builtin.firstCells,loadCells,loadCellsFrom,storeCells];rfl) (.int .i64 0)
  | false =>
   rw[h0] at hr2
   simp only[cond_false] at hr2
   obtain⟨l,hl,hr3⟩:=ag hr2
   simp only[Option.map_eq_some_iff] at hr3
   obtain⟨H',hw,rfl⟩:=hr3
   have hpos:0<min m n:=by simp at h0;omega
   obtain rfl:=h4.resolve_left (by omega)
   obtain rfl:=h4'.resolve_left (by omega)
   obtain⟨k1,k2,vs,k3,k4⟩:=fv h hl
   have hrun:=run_loadCells' (P:=P) (w:=w) (E.loc b').blk ((E.loc b').off+o') vs k4
   rw[<-k3.1,k1] at hrun
   obtain⟨w1,w2,w3,w4⟩:=h.write k3 hw
   have hst:=run_storeCells_cells (P:=P) (E.loc b).blk ((E.loc b).off+o) vs 0 w (by simpa using w2) (by simpa using w3) w1
   rw[Nat.add_zero] at hst
   refine⟨E,.int .i64 (min m n:Nat),_,?_,.refl E,.int .i64 _,w4⟩
   have hmin:Nat.min m n=min m n:=rfl
   simp only[Builtin.copy_,hat,List.getElem?_toArray,List.getElem?_cons_zero,List.getElem?_cons_succ,Sem.run_bind,run_underlying hu,Result.andThen_ok,Builtin.lenOf,Sem.run_pure,run_sizeOf' hsz,Builtin.firstCells,hmin,hrun,hst]
   rfl
 ·simp at hr2;subst hr2
  cases hd with
  |nilsl =>
  cases hs with
  |nilsl=>exact .of_run h (by simp[Builtin.copy_,hat,run_underlying hu,Builtin.lenOf,run_sizeOf' hsz,Builtin.firstCells];rfl) (.int .i64 0)
  |nils _ _ hb hc=>exact .of_run h (by simp[Builtin.copy_,hat,run_underlying hu,Builtin.lenOf,run_sizeOf' hsz,Builtin.firstCells];rfl) (.int .i64 0)
  |sl _ _ _ _ q a=>exact .of_run h (by simp[Builtin.copy_,hat,run_underlying hu,Builtin.lenOf,run_sizeOf' hsz,Builtin.firstCells,loadCells,loadCellsFrom];rfl) (.int .i64 0)
 ·simp at hr2;subst hr2
  cases hs with
  |nilsl =>
  cases hd with
  |nilsl=>exact .of_run h (by simp[Builtin.copy_,hat,run_underlying hu,Builtin.lenOf,run_sizeOf' hsz,Builtin.firstCells];rfl) (.int .i64 0)
  |nils _ _ hb hc=>exact .of_run h (by simp[Builtin.copy_,hat,run_underlying hu,Builtin.lenOf,run_sizeOf' hsz,Builtin.firstCells];rfl) (.int .i64 0)
  |sl _ _ _ _ q a=>exact .of_run h (by simp[Builtin.copy_,hat,run_underlying hu,Builtin.lenOf,run_sizeOf' hsz,Builtin.firstCells,storeCells];rfl) (.int .i64 0)
 cases hr2
end
end Go.Proofs.YtkkhdehdaaealaaGreat
/- The abstract machine: one operation that calls nothing, and its meaning. Conditions: as each theorem states. -/
namespace Go.Proofs.YtkkhdehdaaealaaGreat
open Go.RowKit
section
variable {P:Program} {E:Env} {H:aa} {w:World}
def isSh:BinOp->Bool
 |.shl=>true
 |.shr=>true
 |_=>false
def i8 (a:Option (Nat×Nat)) (n:Nat) (c:Option Nat):Bool :=
 match a with
 |none=>true
 |some (_,o)=>n != 0||(o != 0||match c with|some m=>m != 0|none=>false)
def fU (P:Program) (t:TypeId):Bool:=match P.underlying t with|some (.pointer _)=>true|_=>false
def aU (P:Program) (op:BinOp) (t:TypeId) (x y:AV):Option AV :=
 match x,y with
 |.ptr a,.ptr none=>bif fU P t then (match op with | .eql=>some (.bool a.isNone) | .neq=>some (.bool (!a.isNone))|_=>none) else none
 |.int k a,.int k' b=>bif isSh op||decide (k=k') then aInt op k a b else none
 |.bool a,.bool b=>bif lF P t then (match op with | .eql=>some (.bool (a==b)) | .neq=>some (.bool (!(a==b)))|_=>none) else none
 |.str a,.str b=>(match op with | .eql=>some (.bool (a==b)) | .neq=>some (.bool (!(a==b)))|_=>none)
 |.agg xs,.agg ys=>bif P.eqGuardType P.depth t||!(aM P t==some true) then none else (match op with | .eql=>(aEq P 20 t xs ys).map .bool | .neq=>(aEq P 20 t xs ys).map fun b=>.bool (!b)|_=>none)
 |.sl a n c,.sl none _ _=>bif dn P t&&i8 a n c then (match op with | .eql=>some (.bool a.isNone) | .neq=>some (.bool (!a.isNone))|_=>none) else none
 |_,_=>none
theorem snd_int {op:BinOp}{k:IntKind}{a b:Int}{r:AV}(hr:aInt op k a b=some r)(h:Emb E H w){t:TypeId}{k':IntKind}(hk:op=.shl\/op=.shr\/k=k'):Snd P E w (binOp op t (.int k a) (.int k' b)) (r,H):=by
 cases op
 case shl =>
  obtain⟨hb,rfl⟩:=cZ hr
  rw[binOp_shl];unfold Op.shift;rw[if_neg (by omega)]
  exact .pure h (.int _ _)
 case shr =>
  obtain⟨hb,rfl⟩:=cZ hr
  rw[binOp_shr];unfold Op.shift;rw[if_neg (by omega)]
  exact .pure h (.int _ _)
 all_goals
  obtain rfl:k=k':=by simpa using hk
  simp only[aInt,Option.some.injEq] at hr
 case quo =>
  obtain⟨hb,rfl⟩:=cZ hr
  rw[binOp_quo];unfold Op.intDiv;rw[if_neg hb]
  exact .pure h (.int _ _)
 case rem =>
  obtain⟨hb,rfl⟩:=cZ hr
  rw[binOp_rem];unfold Op.intDiv;rw[if_neg hb]
  exact .pure h (.int _ _)
 all_goals
  subst hr
  simp only[binOp_add,binOp_sub,binOp_mul,binOp_and,binOp_or,binOp_xor,binOp_andNot,binOp_eql,binOp_neq,binOp_lss,binOp_leq,binOp_gtr,binOp_geq,Op.intArith,Op.intBits]
  exact .pure h (by first|exact .int _ _|exact .bool _)
theorem run_eq_slice_nil (d:Nat){t e:TypeId}(hue:P.underlying t=some (.slice e)){A:Option Addr}{n c:Nat}:(Op.equalIn (d+1) t (.slice A n c) (.slice none 0 0)).run P w=.ok A.isNone w:=by
 cases A<;>simp[Op.equalIn,run_underlying hue]
theorem run_eq_ptr_nil (d:Nat){t e:TypeId}(hue:P.underlying t=some (.pointer e)){A:Option Addr}:(Op.equalIn (d+1) t (.pointer A) (.pointer none)).run P w=.ok A.isNone w:=by
 cases A<;>simp[Op.equalIn,run_underlying hue]
theorem snd_bin (h:Emb E H w){op:BinOp}{t:TypeId}{x y:AV}{v u:Value}(hv:Rel E x v)(hu:Rel E y u)(ox oy:Operand){r:AV}(hr:aU P op t x y=some r):
  Snd P E w (do eqGuard op t ox oy v u;binOp op t v u) (r,H):=by
 have guard:∀s:Sem Value,(eqGuard op t ox oy v u).run P w=.ok () w->Snd P E w s (r,H)->Snd P E w (do eqGuard op t ox oy v u;s) (r,H):=by
  rintro s hg ⟨E',v',w',h1,h2,h3,h4⟩
  exact⟨E',v',w',by simp[hg,h1],h2,h3,h4⟩
 unfold aU at hr
 split at hr
 ·rename_i a
  cases hc:fU P t with
  |false=>rw[hc] at hr;cases hr
  | true =>
   rw[hc] at hr
   simp only[cond_true] at hr
   obtain ⟨e,hue⟩:∃e,P.underlying t=some (.pointer e):=by
    unfold fU at hc;split at hc
    ·exact⟨_,by assumption⟩
    cases hc
   cases hu with
   |nilptr =>
   have hv':∃A:Option Addr,v=.pointer A/\A.isNone=a.isNone:=by
    cases hv with
    |nilptr=>exact⟨_,rfl,rfl⟩
    |ptr=>exact⟨_,rfl,rfl⟩
   obtain⟨A,rfl,hA⟩:=hv'
   have hrun:(Op.equalIn 10000 t (.pointer A) (.pointer none)).run P w=.ok a.isNone w:=by
    rw[<-hA]
    exact run_eq_ptr_nil 9999 hue
   refine guard _ (by rw[eqGuard_at_pointer];rfl) ?_
   cases op<;>simp only at hr<;>try (cases hr;done)
   ·simp only[Option.some.injEq] at hr
    subst hr
    exact .of_run h (v:=.bool a.isNone) (by simp[binOp,Op.equal,Op.maxDepth,hrun]) (.bool _)
   simp only[Option.some.injEq] at hr
   subst hr
   exact .of_run h (v:=.bool (!a.isNone)) (by simp[binOp,Op.equal,Op.maxDepth,hrun]) (.bool _)
 ·rename_i k a k' b
  cases hv;cases hu
  refine guard _ (by rw[eqGuard_at_int];rfl) ?_
  cases hc:(isSh op||decide (k=k')) with
  |false=>rw[hc] at hr;cases hr
  | true =>
   rw[hc] at hr
   simp only[cond_true] at hr
   exact snd_int hr h (by
    simp only[Bool.or_eq_true,decide_eq_true_eq] at hc
    rcases hc with hc|hc
    ·cases op<;>simp[isSh] at hc<;>simp
    exact .inr (.inr hc))
 ·rename_i a b
  cases hv;cases hu
  cases hc:lF P t with
  |false=>rw[hc] at hr;cases hr
  | true =>
   rw[hc] at hr
   simp only[cond_true] at hr
   have hu:P.underlying t=some .bool:=by
    unfold lF at hc;split at hc
    ·assumption
    cases hc
   refine guard _ (by rw[eqGuard_at_bool];rfl) ?_
   cases op<;>simp at hr<;>subst hr
   ·exact .of_run h (by simp[binOp,Op.equal,Op.maxDepth,run_equalIn_bool w 9999 t _ _ hu]) (.bool _)
   exact .of_run h (by simp[binOp,Op.equal,Op.maxDepth,run_equalIn_bool w 9999 t _ _ hu]) (.bool _)
 ·rename_i a b
  cases hv;cases hu
  refine guard _ (by rw[eqGuard_at_string];rfl) ?_
  cases op<;>simp at hr<;>subst hr
  ·exact .of_run h (v:=.bool (a==b)) (by simp[binOp,Op.stringOp,ByteArray.toList_eq]) (.bool _)
  exact .of_run h (v:=.bool (!(a==b))) (by simp[binOp,Op.stringOp,ByteArray.toList_eq]) (.bool _)
 ·rename_i xs ys
  obtain⟨vs,rfl,hvs⟩:=df hv
  obtain⟨us,rfl,hus⟩:=df hu
  cases hc:(P.eqGuardType P.depth t||!(aM P t==some true)) with
  |true=>rw[hc] at hr;cases hr
  | false =>
   rw[hc] at hr
   simp only[cond_false] at hr
   simp only[Bool.or_eq_false_iff,Bool.not_eq_false',beq_iff_eq] at hc
   refine guard _ (run_eqGuard_agg w op t ox oy _ _ hc.1) ?_
   have key:∀b,aEq P 20 t xs ys=some b->(Op.equalIn 10000 t (.agg vs.toArray) (.agg us.toArray)).run P w=.ok b w:=fun b hb =>
    run_aEq 20 t _ _ _ _ _ _ b hb hvs hus (by unfold c6;rw[if_pos hc.2]) (by unfold c6;rw[if_pos hc.2]) 9980 w
   cases op<;>simp only[Option.map_eq_some_iff] at hr<;>try (cases hr;done)
   ·obtain⟨b,hb,rfl⟩:=hr
    exact .of_run h (by rw[run_eql_struct,key b hb];rfl) (.bool _)
   obtain⟨b,hb,rfl⟩:=hr
   exact .of_run h (by rw[run_neq_struct,key b hb];rfl) (.bool _)
 ·rename_i a n c n' c'
  cases hc:dn P t with
  |false=>rw[hc] at hr;cases hr
  | true =>
   cases hnk:i8 a n c with
   |false=>rw[hc,hnk] at hr;cases hr
   |true =>
   rw[hc,hnk] at hr
   simp only[Bool.and_self,cond_true] at hr
   obtain ⟨e,hue⟩:∃e,P.underlying t=some (.slice e):=by
    unfold dn at hc;split at hc
    ·exact⟨_,by assumption⟩
    cases hc
   cases hu with
   |nilsl =>
   have hv':∃(A:Option Addr) (n1 c1:Nat),v=.slice A n1 c1/\A.isNone=a.isNone:=by
    cases hv with
    |nilsl=>exact⟨_,_,_,rfl,rfl⟩
    |nils _ _ hb hc'=>rcases hc' with rfl|rfl<;>simp[i8] at hnk
    |sl=>exact⟨_,_,_,rfl,rfl⟩
   obtain⟨A,n1,c1,rfl,hA⟩:=hv'
   have hrun:(Op.equalIn 10000 t (.slice A n1 c1) (.slice none 0 0)).run P w=.ok a.isNone w:=by
    rw[<-hA]
    exact run_eq_slice_nil 9999 hue
   refine guard _ (by rw[eqGuard_at_slice];rfl) ?_
   cases op<;>simp only at hr<;>try (cases hr;done)
   ·simp only[Option.some.injEq] at hr
    subst hr
    exact .of_run h (v:=.bool a.isNone) (by simp[binOp,Op.equal,Op.maxDepth,hrun]) (.bool _)
   simp only[Option.some.injEq] at hr
   subst hr
   exact .of_run h (v:=.bool (!a.isNone)) (by simp[binOp,Op.equal,Op.maxDepth,hrun]) (.bool _)
 cases hr
def aUn (op:UnOp) (x:AV):Option AV :=
 match op,x with
 |.neg,.int k n=>some (.int k (k.wrap (0-n)))
 |.not,.bool b=>some (.bool (!b))
 |_,_=>none
theorem snd_un (h:Emb E H w){op:UnOp}{x:AV}{v:Value}(hv:Rel E x v){r:AV}(hr:aUn op x=some r):Snd P E w (Op.unary op v) (r,H):=by
 unfold aUn at hr
 split at hr
 ·cases hv;simp at hr;subst hr;exact .of_run h (by simp[Op.unary,Op.intArith]) (.int _ _)
 ·cases hv;simp at hr;subst hr;exact .of_run h (by simp[Op.unary]) (.bool _)
 cases hr
def fQ (P:Program) (t:TypeId):Option IntKind:=match P.underlying t with|some (.int k)=>some k|_=>none
def lb:AV->Option UInt8
 |.int .u8 n=>some (UInt8.ofNat n.toNat)
 |_=>none
def aG (P:Program) (s d:TypeId) (x:AV) (H:aa):Option AV :=
 match x with
 |.int _ n=>(P.underlying s).bind fun _=>(fQ P d).map fun k=>.int k (k.wrap n)
 |.sl a n c=>(cr P s).bind fun e=>(bu (fQ P e=some .u8/\(match P.underlying d with|some .string=>true|_=>false)=true)).bind fun _=>(aElems 1 (.sl a n c) H).bind fun p=>(p.2.mapM lb).map AV.str
 |_=>none
theorem oT:∀(xs:List AV) (vs:List Value) (bs:List UInt8),RelL E xs vs->xs.mapM lb=some bs->∃ns:List Int,vs=ns.map (Value.int .u8)/\bs=ns.map fun n=>UInt8.ofNat n.toNat
 | [],vs,bs,h,hb=>by
  have:vs=[]:=List.length_eq_zero_iff.1 h.1.symm
  subst this
  simp at hb;subst hb
  exact⟨[],rfl,rfl⟩
 |x::xs,[],bs,h,hb=>by have:=h.1;simp at this
 | x::xs,v::vs,bs,h,hb=>by
  obtain⟨h1,h2⟩:=h.uncons
  simp only[List.mapM_cons,Option.bind_eq_bind,Option.pure_def] at hb
  obtain⟨b,hb1,hb⟩:=ag hb
  obtain⟨bs',hb2,hb⟩:=ag hb
  simp at hb;subst hb
  obtain⟨ns,e1,e2⟩:=oT xs vs bs' h2 hb2
  unfold lb at hb1
  split at hb1
  ·rename_i n
   cases h1
   simp at hb1
   exact⟨n::ns,by simp[e1],by simp[e2,hb1]⟩
  cases hb1
theorem rQ (ns:List Int):∀s:ByteArray,ns.foldl (fun r n=>r.push (UInt8.ofNat n.toNat)) s=⟨(s.data.toList++ns.map fun n=>UInt8.ofNat n.toNat).toArray⟩:=by
 induction ns with
 |nil=>intro s;simp
 | cons n ns ih =>
  intro s
  simp only[List.foldl_cons,ih]
  obtain⟨⟨l⟩⟩:=s
  simp[ByteArray.push]
theorem snd_conv (h:Emb E H w){s d:TypeId}{x:AV}{v:Value}(hv:Rel E x v){r:AV}(hr:aG P s d x H=some r):Snd P E w (convert s d v) (r,H):=by
 unfold aG at hr
 split at hr
 ·obtain⟨q,hq,hr1⟩:=ag hr
  simp only[Option.map_eq_some_iff] at hr1
  obtain⟨k,hk,rfl⟩:=hr1
  cases hv
  have hd:P.underlying d=some (.int k):=by
   unfold fQ at hk;split at hk
   ·simp at hk;subst hk;assumption
   cases hk
  exact .of_run h (by simp[convert,run_underlying hq,run_underlying hd,Conv.intToInt]) (.int _ _)
 ·rename_i a n c
  obtain⟨e,he,hr1⟩:=ag hr
  obtain⟨⟨n1,n2⟩,hr2⟩:=eG hr1
  obtain⟨⟨m,l⟩,hp,hr3⟩:=ag hr2
  simp only[Option.map_eq_some_iff] at hr3
  obtain⟨bs,hbs,rfl⟩:=hr3
  have hue:P.underlying e=some (.int .u8):=by
   unfold fQ at n1;split at n1
   ·simp at n1;subst n1;assumption
   cases n1
  have hud:P.underlying d=some .string:=by split at n2;assumption;cases n2
  have hus:=dt he
  obtain⟨k1,k2,vs,k3,k4⟩:=mi h hv hp
  obtain⟨ns,e1,e2⟩:=oT l vs bs k3 hbs
  rcases k4 with ⟨rfl,rfl⟩|⟨ad,c',rfl,-,hcell⟩
  ·have:vs=[]:=List.length_eq_zero_iff.1 (by rw[<-k3.1,k1])
   subst this
   have:ns=[]:=by simpa using e1.symm
   subst this
   simp at e2;subst e2
   refine .of_run h ?_ (.str [])
   simp[convert,run_underlying hus,run_underlying hud,run_underlying hue,Conv.bytesToString]
   exact(rfl:ByteArray.empty=ByteArray.mk #[])
  subst e1 e2
  obtain⟨ab,ao,as_⟩:=ad
  have hspot:0<ns.length->as_=none:=fun h0=>by
   have:=hcell 0 _ (by rw[List.getElem?_map,List.getElem?_eq_getElem h0];rfl)
   simp[Addr.add,World.cell?] at this
   split at this
   ·split at this
    ·cases this
    rename_i hs;simpa using hs
   cases this
  have hm:m=ns.length:=by have:=k3.1;simp at this k1;omega
  have hload:(loadCells ⟨ab,ao,as_⟩ m).run P w=.ok (ns.map (Value.int .u8)).toArray w:=by
   rcases Nat.eq_zero_or_pos ns.length with h0|h0
   ·have:ns=[]:=List.length_eq_zero_iff.1 h0
    subst this
    rw[hm];simp[loadCells,loadCellsFrom]
   obtain rfl:=hspot h0
   have:=run_loadCells' (P:=P) (w:=w) ab ao (ns.map (Value.int .u8)) (fun j y hj=>by have:=hcell j y hj;rwa [dm] at this)
   rwa [List.length_map,<-hm] at this
  have hb:=run_bytesToString w ⟨ab,ao,as_⟩ m c' ns hload
  rw[rQ] at hb
  refine .of_run h ?_ (.str _)
  have hd0:(ByteArray.empty.data.toList++ns.map fun n=>UInt8.ofNat n.toNat)=ns.map fun n=>UInt8.ofNat n.toNat:=rfl
  rw[hd0] at hb
  simp[convert,run_underlying hus,run_underlying hud,run_underlying hue,hb]
 cases hr
end
end Go.Proofs.YtkkhdehdaaealaaGreat
/- The abstract machine: any operation that calls nothing, and its meaning. Conditions: as each theorem states. -/
namespace Go.Proofs.YtkkhdehdaaealaaGreat
open Go.RowKit
section
variable {P:Program} {E:Env} {H:aa} {w:World}
def aMin2:AV->AV->Option AV
 |.int k x,.int _ y=>some (.int k (if y<x then y else x))
 |_,_=>none
def aMax2:AV->AV->Option AV
 |.int k x,.int _ y=>some (.int k (if y>x then y else x))
 |_,_=>none
def aFold (f:AV->AV->Option AV):AV->List AV->Option AV
 |x,[]=>some x
 |x,y::r=>(f x y).bind fun z=>aFold f z r
theorem run_fold (f:AV->AV->Option AV)(g:Value->Value->Sem Value)(hfg:∀x y r v u,f x y=some r->Rel E x v->Rel E y u->∃z,(g v u).run P w=.ok z w/\Rel E r z):
  ∀(l:List AV) (vs:List Value) (x r:AV) (v:Value),RelL E l vs->Rel E x v->aFold f x l=some r->∃z,(vs.foldlM g v).run P w=.ok z w/\Rel E r z
 | [],vs,x,r,v,hl,hx,hr=>by
  have:vs=[]:=List.length_eq_zero_iff.1 hl.1.symm
  subst this
  simp[aFold] at hr;subst hr
  exact⟨v,by simp,hx⟩
 |y::l,[],x,r,v,hl,hx,hr=>by have:=hl.1;simp at this
 | y::l,u::vs,x,r,v,hl,hx,hr=>by
  obtain⟨h1,h2⟩:=hl.uncons
  unfold aFold at hr
  obtain⟨z,hz,hr⟩:=ag hr
  obtain⟨z',q1,q2⟩:=hfg x y z v u hz hx h1
  obtain⟨z'',q3,q4⟩:=run_fold f g hfg l vs z r z' h2 q2 hr
  exact⟨z'',by simp[q1,q3],q4⟩
def aClear (P:Program) (t:TypeId) (s:AV) (H:aa):Option aa :=
 (cr P t).bind fun e=>(aE P e).bind fun z=>(bu (0<z.length)).bind fun _ =>
  match s with
  |.sl none _ _=>some H
  |.sl (some (b,o)) n _=>bif n==0 then some H else awrite H b o (arep z n)
  |_=>none
theorem snd_clear (h:Emb E H w){t ty:TypeId}{s:AV}{sv:Value}(hs:Rel E s sv)(at_:Array TypeId)(hat:at_[0]? = some t){H':aa}(hr:aClear P t s H=some H'):Snd P E w (Builtin.clear_ at_ ty #[sv]) (.any,H'):=by
 unfold aClear at hr
 obtain⟨e,he,hr1⟩:=ag hr
 obtain⟨z,hz,hr2⟩:=ag hr1
 obtain⟨h0,hr3⟩:=eG hr2
 clear hr hr1 hr2
 have hu:=dt he
 split at hr3
 ·simp at hr3;subst hr3
  cases hs with
  |nilsl=>exact .of_run (v:=.tuple #[]) h (by simp[Builtin.clear_,hat,run_underlying hu]) (.any _)
 ·rename_i b o n c
  cases hn:(n==0) with
  | true =>
   rw[hn] at hr3
   simp at hr3 hn
   subst hr3 hn
   cases hs with
   |nils _ _ hb hc=>exact .of_run (v:=.tuple #[]) h (by simp[Builtin.clear_,hat,run_underlying hu]) (.any _)
   |sl _ _ _ _ q a hb h1 h2 h3 h4 h5=>exact .of_run (v:=.tuple #[]) h (by simp[Builtin.clear_,hat,run_underlying hu]) (.any _)
  | false =>
   rw[hn] at hr3
   simp only[cond_false] at hr3
   simp at hn
   cases hs with
   |nils _ _ hb hc=>exact absurd rfl hn
   | sl _ _ _ _ q a hb h1 h2 h3 h4 h5 =>
    obtain rfl:=h4.resolve_left (by omega)
    obtain⟨zv,z1,z2,z3,-⟩:=run_zero (w:=w) hz
    obtain⟨a1,a2,a3⟩:=mA (E:=E) z2 z3 h0 n
    obtain⟨w1,w2,w3,w4⟩:=h.write a1 hr3
    have hst:=run_storeCells_cells (P:=P) (E.loc b).blk ((E.loc b).off+o) (madeCells zv.cells (n*zv.cells.size)).toList 0 w (by simpa using w2) (by simpa using w3) w1
    rw[Nat.add_zero] at hst
    refine⟨E,.tuple #[],_,?_,.refl E,.any _,w4⟩
    obtain⟨m,rfl⟩:∃m,n=m+1:=⟨n-1,by omega⟩
    have hzc:Builtin.zeroCells zv.cells (m+1)=madeCells zv.cells ((m+1)*zv.cells.size):=rfl
    simp only[Builtin.clear_,hat,List.getElem?_toArray,List.getElem?_cons_zero,Sem.run_bind,run_underlying hu,Result.andThen_ok,Sem.run_pure,z1,hzc,hst]
 simp at hr3
def aBuiltin (P:Program) (b:Builtin) (ts:List TypeId) (xs:List AV) (H:aa):Option (AV×aa) :=
 match b,ts,xs with
 |.len,[t],[x]=>(aLen P t x H).map fun r=>(r,H)
 |.append,[t,t'],[s,x]=>(bu (t=t')).bind fun _=>ap P t s x H
 |.copy,[t,_],[d,s]=>aCopy P t d s H
 |.delete,[t,_],[m,k]=>(aDelete P t m k H).map fun H'=>(.any,H')
 |.clear,[t],[s]=>(aClear P t s H).map fun H'=>(.any,H')
 |.min,_,x::r=>(aFold aMin2 x r).map fun z=>(z,H)
 |.max,_,x::r=>(aFold aMax2 x r).map fun z=>(z,H)
 |_,_,_=>none
def aop (P:Program) (o:Op) (F:Fr) (H:aa):Option (AV×aa) :=
 match o with
 |.move x=>some (aev F x,H)
 |.assign x=>some (aev F x,H)
 |.pick c a b=>(match aev F c with | .bool t=>some (bif t then aev F a else aev F b,H)|_=>none)
 |.alloc t=>aAlloc P t H
 |.box _ x=>aBox (aev F x) H
 |.build t ps=>(aBuild P t (ps.toList.map fun p=>(p.1,aev F p.2))).map fun r=>(r,H)
 |.buildSlice t n ps=>aBuildSlice P t n (ps.toList.map fun p=>(p.1,aev F p.2)) H
 |.load t a=>aLoad P t (aev F a) H
 |.store t a x=>(aStore P t (aev F a) (aev F x) H).map fun H'=>(.any,H')
 |.nilCheck x=>(match aev F x with | .ptr (some a)=>some (.ptr (some a),H) | .fn f c=>some (.fn f c,H)|_=>none)
 |.binOp op t x y _=>(aU P op t (aev F x) (aev F y)).map fun r=>(r,H)
 |.unOp op _ x=>(aUn op (aev F x)).map fun r=>(r,H)
 |.convert s d x=>(aG P s d (aev F x) H).map fun r=>(r,H)
 |.makeFunc fn first caps=>(match fn with | .func f=>(bu (first.toList.length=0)).map fun _=>(.fn f (caps.toList.map (aev F)),H)|_=>none)
 |.makeMap t r=>(match r with|none=>some (.mp (some H.length),H++[.map []])|some x=>(match aev F x with | .int _ _=>(tMap P t).map fun _=>(.mp (some H.length),H++[.map []])|_=>none))
 |.makeSlice t l c=>aMakeSlice P t (aev F l) (aev F c) H
 |.slice t x lo hi mx=>(aSlice P t (aev F x) (lo.map (aev F)) (hi.map (aev F)) (mx.map (aev F)) H).map fun r=>(r,H)
 |.fieldAddr t x f=>(aFieldAddr P t (aev F x) f).map fun r=>(r,H)
 |.field t x f=>(aField P t (aev F x) f).map fun r=>(r,H)
 |.indexAddr t x i=>(aIndexAddr P t (aev F x) (aev F i)).map fun r=>(r,H)
 |.index t x i=>(aIndex P t (aev F x) (aev F i)).map fun r=>(r,H)
 |.lookup t m k ok=>(aLookup P t (aev F m) (aev F k) ok H).map fun r=>(r,H)
 |.mapUpdate t m k x=>(aMapUpdate P t (aev F m) (aev F k) (aev F x) H).map fun H'=>(.any,H')
 |.extract x i=>(aExtract (aev F x) i).map fun r=>(r,H)
 |.call c=>(match c.callee with | .builtin b=>aBuiltin P b c.argTypes.toList (c.args.toList.map (aev F)) H|_=>none)
 |_=>none
theorem i9 {b:Bool}{v:Value}(h:Rel E (.bool b) v):v=.bool b:=by cases h;rfl
theorem rC {k:IntKind}{n:Int}{v:Value}(h:Rel E (.int k n) v):v=.int k n:=by cases h;rfl
theorem lc {α β:Type}(f:α->β)(xs:Array α):(xs.toList.map f).toArray=xs.map f:=by rw[<-Array.toList_map,Array.toArray_toList]
def SndO (P:Program) (E:Env) (w:World) (s:Sem Next) (r:AV×aa):Prop :=
 ∃E' n w',s.run P w=.ok n w'/\((n=.skip/\r.1=.any)\/∃v,n=.value v/\Rel E' r.1 v)/\E.le E'/\Emb E' r.2 w'
theorem SndO.of {s:Sem Value}{r:AV×aa}(h:Snd P E w s r):SndO P E w (do Pure.pure (.value (<-s))) r:=by
 obtain⟨E',v,w',h1,h2,h3,h4⟩:=h
 exact⟨E',.value v,w',by simp[h1],.inr ⟨v,rfl,h3⟩,h2,h4⟩
theorem SndO.ofU {s:Sem Unit}{H':aa}(h:SndU P E w s H'):SndO P E w (do s;Pure.pure .skip) (.any,H'):=by
 obtain⟨E',w',h1,h2,h3⟩:=h
 exact⟨E',.skip,w',by simp[h1],.inl ⟨rfl,rfl⟩,h2,h3⟩
theorem ke {F:Fr}{a:Act}(x:Option Operand)(hF:∀y,x=some y->Rel E (aev F y) (a.eval y)):fc E (x.map (aev F)) (x.map a.eval):=by
 cases x with
 |none=>trivial
 |some x=>exact hF x rfl
theorem rD (h:Emb E H w){b:Builtin}{ts:List TypeId}{xs:List AV}{vs:List Value}(hx:RelL E xs vs)(type:TypeId)(cs:Array Bool){r:AV×aa}(hr:aBuiltin P b ts xs H=some r):
  SndO P E w (builtin b ts.toArray type cs vs.toArray) r:=by
 unfold aBuiltin at hr
 split at hr
 ·simp only[Option.map_eq_some_iff] at hr
  obtain⟨q,hq,rfl⟩:=hr
  obtain⟨v,rfl,hv⟩:=de hx
  exact .of (snd_len h hv #[_] rfl hq)
 ·obtain⟨rfl,hr'⟩:=eG hr
  match vs,hx with
  | [v,u],hx =>
   obtain⟨h1,h2⟩:=hx.uncons
   exact .of (rM h h1 h2.uncons.1 hr')
 ·match vs,hx with
  | [v,u],hx =>
   obtain⟨h1,h2⟩:=hx.uncons
   exact .of (snd_copy h h1 h2.uncons.1 _ rfl hr)
 ·simp only[Option.map_eq_some_iff] at hr
  obtain⟨q,hq,rfl⟩:=hr
  match vs,hx with
  | [v,u],hx =>
   obtain⟨h1,h2⟩:=hx.uncons
   exact .of (rP h h1 h2.uncons.1 _ rfl hq)
 ·simp only[Option.map_eq_some_iff] at hr
  obtain⟨q,hq,rfl⟩:=hr
  obtain⟨v,rfl,hv⟩:=de hx
  exact .of (snd_clear h hv #[_] rfl hq)
 ·rename_i x l
  simp only[Option.map_eq_some_iff] at hr
  obtain⟨q,hq,rfl⟩:=hr
  match vs,hx with
  | v::vs,hx =>
   obtain⟨h1,h2⟩:=hx.uncons
   obtain ⟨z,q1,q2⟩:=run_fold (P:=P) (w:=w) aMin2 Builtin.min2 (fun x y r v u hxy hx hy=>by
    unfold aMin2 at hxy
    split at hxy
    ·cases hx;cases hy;simp at hxy;subst hxy;exact⟨_,rfl,.int _ _⟩
    cases hxy) l vs x q v h2 h1 hq
   exact .of (.of_run h (by simpa [Builtin.min_] using q1) q2)
 ·rename_i x l
  simp only[Option.map_eq_some_iff] at hr
  obtain⟨q,hq,rfl⟩:=hr
  match vs,hx with
  | v::vs,hx =>
   obtain⟨h1,h2⟩:=hx.uncons
   obtain ⟨z,q1,q2⟩:=run_fold (P:=P) (w:=w) aMax2 Builtin.max2 (fun x y r v u hxy hx hy=>by
    unfold aMax2 at hxy
    split at hxy
    ·cases hx;cases hy;simp at hxy;subst hxy;exact⟨_,rfl,.int _ _⟩
    cases hxy) l vs x q v h2 h1 hq
   exact .of (.of_run h (by simpa [Builtin.max_] using q1) q2)
 cases hr
theorem snd_op (h:Emb E H w){F:Fr}{a:Act}(o:Oper)(hF:∀x∈o.op.operands,Rel E (aev F x) (a.eval x)){r:AV×aa}(hr:aop P o.op F H=some r):SndO P E w (execOp a.eval o) r:=by
 obtain⟨dst,op,type,pos,after,guard⟩:=o
 simp only at hr hF
 unfold aop at hr
 split at hr
 ·simp only[Option.some.injEq] at hr;subst hr
  exact⟨E,_,w,rfl,.inr ⟨_,rfl,hF _ (by simp[Op.operands])⟩,.refl E,h⟩
 ·simp only[Option.some.injEq] at hr;subst hr
  exact⟨E,_,w,rfl,.inr ⟨_,rfl,hF _ (by simp[Op.operands])⟩,.refl E,h⟩
 ·rename_i c x y
  split at hr
  ·rename_i t hc
   simp only[Option.some.injEq] at hr;subst hr
   have:=hF c (by simp[Op.operands])
   rw[hc] at this
   have hcv:a.eval c=.bool t:=i9 this
   refine⟨E,_,w,by simp[execOp,hcv,asBool];rfl,.inr ⟨_,rfl,?_⟩,.refl E,h⟩
   cases t
   ·exact hF y (by simp[Op.operands])
   exact hF x (by simp[Op.operands])
  cases hr
 ·exact .of (snd_alloc h hr)
 ·exact .of (snd_box h (hF _ (by simp[Op.operands])) hr)
 ·simp only[Option.map_eq_some_iff] at hr
  obtain⟨q,hq,rfl⟩:=hr
  exact .of (snd_build h (fun p hp=>hF p (by simpa [Op.operands] using hp)) hq)
 ·exact .of (og h (fun p hp=>hF p (by simpa [Op.operands] using hp)) hr)
 ·exact .of (snd_load h (hF _ (by simp[Op.operands])) hr)
 ·simp only[Option.map_eq_some_iff] at hr
  obtain⟨q,hq,rfl⟩:=hr
  exact .ofU (snd_store h (hF _ (by simp[Op.operands])) (hF _ (by simp[Op.operands])) hq)
 ·rename_i x
  split at hr
  ·rename_i q hx
   simp only[Option.some.injEq] at hr;subst hr
   have:=hF x (by simp[Op.operands])
   rw[hx] at this
   generalize hev:a.eval x=v at this
   cases this with
   |ptr b o hb=>exact⟨E,_,w,by simp only[execOp,hev];rfl,.inr ⟨_,rfl,.ptr b o hb⟩,.refl E,h⟩
  ·rename_i f c hx
   simp only[Option.some.injEq] at hr;subst hr
   have:=hF x (by simp[Op.operands])
   rw[hx] at this
   generalize hev:a.eval x=v at this
   cases this with
   |fn _ _ cs h1 h2=>exact⟨E,_,w,by simp only[execOp,hev];rfl,.inr ⟨_,rfl,.fn f c cs h1 h2⟩,.refl E,h⟩
  cases hr
 ·simp only[Option.map_eq_some_iff] at hr
  obtain⟨q,hq,rfl⟩:=hr
  exact .of (snd_bin h (hF _ (by simp[Op.operands])) (hF _ (by simp[Op.operands])) _ _ hq)
 ·simp only[Option.map_eq_some_iff] at hr
  obtain⟨q,hq,rfl⟩:=hr
  exact .of (snd_un h (hF _ (by simp[Op.operands])) hq)
 ·simp only[Option.map_eq_some_iff] at hr
  obtain⟨q,hq,rfl⟩:=hr
  exact .of (snd_conv h (hF _ (by simp[Op.operands])) hq)
 ·rename_i fn first caps
  split at hr
  ·rename_i f
   obtain⟨h0,rfl⟩:=cZ hr
   have hf0:first.map a.eval=#[]:=by
    have:first=#[]:=by apply Array.eq_empty_of_size_eq_zero;simpa using h0
    rw[this];simp
   refine⟨E,.value (.func (.func f) #[] (caps.map a.eval)),w,by simp[execOp,Instr.makeFunc,hf0],.inr ⟨_,rfl,?_⟩,.refl E,h⟩
   have:=(i7 caps.toList (fun p hp=>hF p (by simp[Op.operands];exact .inr (by simpa using hp)))).fn (f:=f)
   rwa [lc] at this
  cases hr
 ·rename_i t rs
  split at hr
  ·simp only[Option.some.injEq] at hr;subst hr
   exact .of (mj h t)
  rename_i x
  split at hr
  ·rename_i k n hx
   simp only[Option.map_eq_some_iff] at hr
   obtain⟨⟨kt,et⟩,ht,rfl⟩:=hr
   obtain⟨hu,-,-⟩:=ib ht
   have:=hF x (by simp[Op.operands])
   rw[hx] at this
   have hev:a.eval x=.int k n:=rC this
   obtain⟨E',v,w',h1,h2,h3,h4⟩:=mj (P:=P) h t
   refine⟨E',.value v,w',?_,.inr ⟨v,rfl,h3⟩,h2,h4⟩
   simp only[Instr.makeMap] at h1
   simp[execOp,Instr.makeMap,hev,run_underlying hu,asInt,asIntOf] at h1 ⊢
   exact h1
  cases hr
 ·exact .of (pU h (hF _ (by simp[Op.operands])) (hF _ (by simp[Op.operands])) hr)
 ·simp only[Option.map_eq_some_iff] at hr
  obtain⟨q,hq,rfl⟩:=hr
  exact .of (snd_slice h (hF _ (by simp[Op.operands])) (ke _ (fun y e=>hF y (by simp[Op.operands,e]))) (ke _ (fun y e=>hF y (by simp[Op.operands,e]))) (ke _ (fun y e=>hF y (by simp[Op.operands,e]))) hq)
 ·simp only[Option.map_eq_some_iff] at hr
  obtain⟨q,hq,rfl⟩:=hr
  exact .of (pV h (hF _ (by simp[Op.operands])) hq)
 ·simp only[Option.map_eq_some_iff] at hr
  obtain⟨q,hq,rfl⟩:=hr
  exact .of (snd_field h (hF _ (by simp[Op.operands])) hq)
 ·simp only[Option.map_eq_some_iff] at hr
  obtain⟨q,hq,rfl⟩:=hr
  exact .of (pW h (hF _ (by simp[Op.operands])) (hF _ (by simp[Op.operands])) hq)
 ·simp only[Option.map_eq_some_iff] at hr
  obtain⟨q,hq,rfl⟩:=hr
  exact .of (snd_index h (hF _ (by simp[Op.operands])) (hF _ (by simp[Op.operands])) hq)
 ·simp only[Option.map_eq_some_iff] at hr
  obtain⟨q,hq,rfl⟩:=hr
  exact .of (rN h (hF _ (by simp[Op.operands])) (hF _ (by simp[Op.operands])) hq)
 ·simp only[Option.map_eq_some_iff] at hr
  obtain⟨q,hq,rfl⟩:=hr
  exact .ofU (pX h (hF _ (by simp[Op.operands])) (hF _ (by simp[Op.operands])) (hF _ (by simp[Op.operands])) hq)
 ·simp only[Option.map_eq_some_iff] at hr
  obtain⟨q,hq,rfl⟩:=hr
  exact .of (rA h (hF _ (by simp[Op.operands])) hq)
 ·rename_i c
  split at hr
  ·rename_i b hc
   obtain⟨callee,args,argTypes⟩:=c
   simp only at hc hr
   subst hc
   have:=rD h (i7 args.toList (fun p hp=>hF p (by simp[Op.operands,Call.operands];simpa using hp))) type (args.map fun | .const _=>true|_=>false) hr
   simp only[execOp,resolve]
   obtain⟨E',n,w',h1,h2⟩:=this
   refine⟨E',n,w',?_,h2⟩
   simp only[Sem.run_bind,Sem.run_pure,Result.andThen_ok,invoke]
   rw[lc,Array.toArray_toList] at h1
   exact h1
  cases hr
 cases hr
end
set_option linter.unusedSimpArgs false
set_option linter.unusedVariables false

theorem wp_mono2 {P:Program}{o:Oper}{a:Act}{w:World}{K K':Act->World->Prop}{Q Q':Exit->Act->World->Prop}(h:∀a w,K a w->K' a w)(hq:∀e a w,Q e a w->Q' e a w)(hh:o.wp P a w K Q):o.wp P a w K' Q':=by
 unfold Oper.wp at *
 generalize (execOp a.eval o).run P w=r at *
 cases r with
 | ok n w' =>
  cases n<;>simp only[Oper.upon] at hh ⊢ <;>
   first
    |exact h _ _ hh
    |exact Calls.mono hh (fun e w'' he=>by cases e<;>first|exact h _ _ he|exact hq _ _ _ he|exact(let ⟨a,w,q⟩:=he;⟨a,w,hq _ _ _ q⟩))
    |exact Rows.mono hh (fun _ _ he=>h _ _ he)
 |halt x w'=>cases x<;>simp only[Oper.upon] at hh ⊢<;>exact hq _ _ _ hh
theorem wpOps_mono' {P:Program}{ops:Array Oper}{Q Q':Exit->Act->World->Prop}(hq:∀e a w,Q e a w->Q' e a w):∀(l:List Nat) (a:Act) (w:World),wpOps P ops Q l a w->wpOps P ops Q' l a w
 |[],a,w,h=>hq _ _ _ h
 | i::l,a,w,h=>by
  unfold wpOps at h ⊢
  split
  ·rename_i ho;rw[ho] at h;exact wpOps_mono' hq l a w h
  rename_i o ho
  rw[ho] at h
  simp only at h
  split
  ·rename_i hw
   rw[if_pos hw] at h
   rcases h with h|⟨h1,a0,w0,h2⟩
   ·exact .inl (wp_mono2 (fun a w=>wpOps_mono' hq l a w) hq h)
   exact .inr ⟨h1,a0,w0,hq _ _ _ h2⟩
  rename_i hw
  rw[if_neg hw] at h
  exact wpOps_mono' hq l _ w h
def ACalls (P:Program) (f:FuncId) (args:List AV) (H:aa) (R:AV->aa->Prop):Prop :=
 ∀(E:Env) (w:World) (vs:List Value),Emb E H w->RelL E args vs->Calls P f vs.toArray w fun e w'=>∃E' v H' x,e=.returned v/\R x H'/\E.le E'/\Rel E' x v/\Emb E' H' w'
theorem ACalls.mono {P:Program}{f:FuncId}{args:List AV}{H:aa}{R R':AV->aa->Prop}(h:ACalls P f args H R)(hr:∀x H',R x H'->R' x H'):ACalls P f args H R' :=
 fun E w vs hE hv=>(h E w vs hE hv).mono fun _ _ ⟨E',v,H',x,e,hR,r⟩=>⟨E',v,H',x,e,hr _ _ hR,r⟩
def dk (P:Program) (f:FuncId):Bool :=
 match P.funcs[f]? with
 | some fn => fn.body.isSome && fn.name != "runtime.NumGoroutine"
 |none=>false
def aj (o:Op) (F:Fr):Option (FuncId×List AV) :=
 match o with
 |.call c=>(match c.callee with | .value f=>(match aev F f with | .fn k caps=>some (k,c.args.toList.map (aev F)++caps)|_=>none)|_=>none)
 |_=>none
def AOp (P:Program) (o:Op) (F:Fr) (H:aa) (K:AV->aa->Prop):Prop :=
 match aj o F with
 |some p=>dk P p.1=true/\ACalls P p.1 p.2 H K
 |none=>∃r,aop P o F H=some r/\K r.1 r.2
def putF (d:Option Tmp) (x:AV) (F:Fr):Fr :=
 match d with
 |some t=>(t,x)::F
 |none=>F
def gd (ops:Array Oper) (F:Fr) (o:Oper):Option Bool :=
 match o.guard with
 |none=>some true
 | some g =>
  match (ops[g.1]?).bind (·.dst) with
  |some t=>(match look F t with | .bool b=>some (b==g.2) | .tup []=>some false|_=>none)
  |none=>none
def AOps (P:Program) (ops:Array Oper):List Oper->Fr->aa->(Fr->aa->Prop)->Prop
 |[],F,H,K=>K F H
 | o::os,F,H,K =>
  match gd ops F o with
  |some true=>AOp P o.op F H fun x H'=>AOps P ops os (putF o.dst x F) H' K
  |some false=>AOps P ops os (putF o.dst (.tup []) F) H K
  |none=>False
structure Env.leN (m:Nat) (E E':Env):Prop where
 B:E'.B=E.B
 w0:E'.w0=E.w0
 n:m<=E'.n
 loc:∀b,b<m->E'.loc b=E.loc b
theorem Env.le.leN {n:Nat}{E E':Env}(h:E.le E')(hn:n<=E.n):Env.leN n E E':=⟨h.B,h.w0,Nat.le_trans hn h.n,fun b hb=>h.loc b (Nat.lt_of_lt_of_le hb hn)⟩
theorem Env.leN.trans {n:Nat}{E E' E'':Env}(h:Env.leN n E E')(k:Env.leN n E' E''):Env.leN n E E'':=⟨k.B.trans h.B,k.w0.trans h.w0,k.n,fun b hb=>(k.loc b hb).trans (h.loc b hb)⟩
def LiftQ (N n:Nat) (Q:Exit->Fr->aa->Prop) (E:Env) (e:Exit) (a:Act) (w:World):Prop :=
 ∃E' F H,Q e F H/\Env.leN n E E'/\a.tmps.size=N/\a.defers=[]/\FrRel E' F a/\Emb E' H w
def AW (P:Program) (N n:Nat) (c:Code) (Q:Exit->Fr->aa->Prop) (F:Fr) (H:aa):Prop :=
 ∀(E:Env) (w:World) (a:Act),n<=E.n->a.tmps.size=N->a.defers=[]->FrRel E F a->Emb E H w->c.wp P (LiftQ N n Q E) a w
theorem LiftQ.shift {N n:Nat}{Q:Exit->Fr->aa->Prop}{E E':Env}(hle:Env.leN n E E'){e:Exit}{a:Act}{w:World}(h:LiftQ N n Q E' e a w):LiftQ N n Q E e a w:=by
 obtain⟨E2,F,H,q,l,r⟩:=h
 exact⟨E2,F,H,q,hle.trans l,r⟩
def fM (K:Fr->aa->Prop) (Q:Exit->Fr->aa->Prop):Exit->Fr->aa->Prop
 |.normal,F,H=>K F H
 |e,F,H=>Q e F H
def fw (id:Nat) (Q:Exit->Fr->aa->Prop):Exit->Fr->aa->Prop
 |.exit id',F,H=>if id'=id then Q .normal F H else Q (.exit id') F H
 |e,F,H=>Q e F H
section
variable {P:Program} {N n:Nat} {Q:Exit->Fr->aa->Prop} {F:Fr} {H:aa}
theorem AW.mono {c:Code}{Q':Exit->Fr->aa->Prop}(h:AW P N n c Q F H)(hq:∀e F H,Q e F H->Q' e F H):AW P N n c Q' F H :=
 fun E w a h1 h2 h3 h4 h5=>wp_mono (h E w a h1 h2 h3 h4 h5) fun _ _ _ ⟨E',F,H,q,r⟩=>⟨E',F,H,hq _ _ _ q,r⟩
theorem AW_skip (h:Q .normal F H):AW P N n .skip Q F H:=fun E w a h1 h2 h3 h4 h5=>wp_skip ⟨E,F,H,h,(Env.le.refl E).leN h1,h2,h3,h4,h5⟩
theorem p9 {l:Nat}(h:Q .normal F H):AW P N n (.label l) Q F H:=fun E w a h1 h2 h3 h4 h5=>wp_label ⟨E,F,H,h,(Env.le.refl E).leN h1,h2,h3,h4,h5⟩
theorem AW_exit {id:Nat}(h:Q (.exit id) F H):AW P N n (.exit id) Q F H:=fun E w a h1 h2 h3 h4 h5=>wp_exit ⟨E,F,H,h,(Env.le.refl E).leN h1,h2,h3,h4,h5⟩
theorem AW_ret (h:Q .ret F H):AW P N n .ret Q F H:=fun E w a h1 h2 h3 h4 h5=>wp_ret ⟨E,F,H,h,(Env.le.refl E).leN h1,h2,h3,h4,h5⟩
theorem ja {x y:Code}(h:AW P N n x (fM (fun F H=>AW P N n y Q F H) Q) F H):AW P N n (.seq x y) Q F H:=by
 intro E w a h1 h2 h3 h4 h5
 refine wp_seq (wp_mono (h E w a h1 h2 h3 h4 h5) ?_)
 rintro e a' w' ⟨E',F',H',q,l,k2,k3,k4,k5⟩
 cases e with
 |normal=>exact wp_mono (q E' w' a' l.n k2 k3 k4 k5) fun _ _ _ hq=>hq.shift l
 |exit id=>exact⟨E',F',H',q,l,k2,k3,k4,k5⟩
 |goto id=>exact⟨E',F',H',q,l,k2,k3,k4,k5⟩
 |ret=>exact⟨E',F',H',q,l,k2,k3,k4,k5⟩
 |panic ch=>exact⟨E',F',H',q,l,k2,k3,k4,k5⟩
 |outgrown=>exact⟨E',F',H',q,l,k2,k3,k4,k5⟩
theorem gj {c:Operand}{x y:Code}(t:Bool)(hc:aev F c=.bool t)(h1:t=true->AW P N n x Q F H)(h2:t=false->AW P N n y Q F H):AW P N n (.cond c x y) Q F H:=by
 intro E w a k1 k2 k3 k4 k5
 have:=k4.ev c
 rw[hc] at this
 exact wp_cond_split (i9 this) (fun e=>h1 e E w a k1 k2 k3 k4 k5) (fun e=>h2 e E w a k1 k2 k3 k4 k5)
theorem mB {id:Nat}{c:Code}(h:AW P N n c (fw id Q) F H):AW P N n (.block id c) Q F H:=by
 intro E w a h1 h2 h3 h4 h5
 refine wp_block (wp_mono (h E w a h1 h2 h3 h4 h5) ?_)
 rintro e a' w' ⟨E',F',H',q,r⟩
 cases e with
 |normal=>exact⟨E',F',H',q,r⟩
 | exit id' =>
  show Exit.inBlock id _ (.exit id') a' w'
  simp only[Exit.inBlock,fw] at q ⊢
  split
  ·rename_i e;rw[if_pos e] at q;exact⟨E',F',H',q,r⟩
  rename_i e;rw[if_neg e] at q;exact⟨E',F',H',q,r⟩
 |goto id=>exact⟨E',F',H',q,r⟩
 |ret=>exact⟨E',F',H',q,r⟩
 |panic ch=>exact⟨E',F',H',q,r⟩
 |outgrown=>exact⟨E',F',H',q,r⟩

structure Abs0 (n:Nat) (σ:Nat->Nat) (F1:Fr) (H1:aa) (F2:Fr) (H2:aa):Prop where
 small:∀b,b<n->σ b=b
 len:n<=H2.length
 frame:∀E E':Env,E.n=H1.length->E'.n=H2.length->(∀b,E'.loc b=E.loc (σ b))->∀t v,Rel E (look F1 t) v->Rel E' (look F2 t) v
 heap:∀E E':Env,E.n=H1.length->E'.n=H2.length->E'.B=E.B->(∀b,E'.loc b=E.loc (σ b))->∀(w:World),(∀(b:Nat) (x:ABlk),H1[b]? = some x->BlkOk E w (E.loc b) x)->∀(b:Nat) (x:ABlk),H2[b]? = some x->BlkOk E' w (E'.loc b) x
 inj:∀(b c:Nat) (x y:ABlk),H2[b]? = some x->H2[c]? = some y->x.owned=true->y.owned=true->b≠c->σ b≠σ c/\(∃x',H1[σ b]? = some x'/\x'.owned=true)/\∃y',H1[σ c]? = some y'/\y'.owned=true
theorem Abs0.emb {σ:Nat->Nat}{F1 F2:Fr}{H1 H2:aa}(h:Abs0 n σ F1 H1 F2 H2){E:Env}{w:World}{a:Act}(hn:n<=E.n)(hF:FrRel E F1 a)(hE:Emb E H1 w):
  ∃E',Env.leN n E E'/\FrRel E' F2 a/\Emb E' H2 w :=
 let E':Env:={ B:=E.B,w0:=E.w0,n:=H2.length,loc:=fun b=>E.loc (σ b) }
 ⟨E',⟨rfl,rfl,h.len,fun b hb=>by show E.loc (σ b)=_;rw[h.small b hb]⟩,fun t=>h.frame E E' hE.n rfl (fun _=>rfl) t _ (hF t),
  ⟨rfl,hE.below,hE.base,h.heap E E' hE.n rfl rfl (fun _=>rfl) w hE.blk,fun b c x y hx hy ox oy hbc=>by
   obtain⟨h1,⟨x',hx',ox'⟩,y',hy',oy'⟩:=h.inj b c x y hx hy ox oy hbc
   exact hE.inj _ _ x' y' hx' hy' ox' oy' h1⟩⟩
def gp:ABlk->Bool
 |.cells false _ []=>true
 |_=>false
theorem phant_inv {X:ABlk}(h:gp X=true):∃es,X=.cells false es []:=by
 unfold gp at h
 split at h
 ·exact⟨_,rfl⟩
 cases h
theorem Emb.phantom {E:Env}{w:World}{H:aa}(h:Emb E H w){es:Nat}{X:ABlk}(hX:X=.cells false es []):Emb (E.push ⟨0,0,0,es⟩) (H++[X]) w:=by
 subst hX
 have hle:=E.le_push ⟨0,0,0,es⟩
 have hn:=h.n
 have e1:(E.push ⟨0,0,0,es⟩).loc H.length=⟨0,0,0,es⟩:=by rw[<-hn];exact Env.push_new _ _
 refine⟨by simp[Env.push,hn],h.below,h.base,fun b x hbx=>?_,fun b c x y hbx hcy ox oy hbc=>?_⟩
 ·by_cases hbl:b<H.length
  ·rw[List.getElem?_append_left hbl] at hbx
   rw[Env.push_old _ _ (by omega)]
   exact(h.blk b x hbx).mono hle (Nat.le_refl _) (fun _=>rfl) (fun _=>rfl)
  have hbe:b=H.length:=by have:=getElem?_lt hbx;simp at this;omega
  subst hbe
  rw[List.getElem?_append_right (Nat.le_refl _),Nat.sub_self] at hbx
  simp at hbx;subst hbx
  rw[e1]
  exact⟨fun j x hj=>by simp at hj,(fun h=>by cases h),fun _ h0=>by simp at h0,rfl⟩
 by_cases hbl:b<H.length
 ·by_cases hcl:c<H.length
  ·rw[List.getElem?_append_left hbl] at hbx
   rw[List.getElem?_append_left hcl] at hcy
   rw[Env.push_old _ _ (by omega),Env.push_old _ _ (by omega)]
   exact h.inj b c x y hbx hcy ox oy hbc
  have hbe:c=H.length:=by have:=getElem?_lt hcy;simp at this;omega
  subst hbe
  rw[List.getElem?_append_right (Nat.le_refl _),Nat.sub_self] at hcy
  simp at hcy;subst hcy;cases oy
 have hbe:b=H.length:=by have:=getElem?_lt hbx;simp at this;omega
 subst hbe
 rw[List.getElem?_append_right (Nat.le_refl _),Nat.sub_self] at hbx
 simp at hbx;subst hbx;cases ox
theorem Emb.phantoms {w:World}:∀(G:aa) {E:Env}{H:aa},G.all gp=true->Emb E H w->∃E',E.le E'/\Emb E' (H++G) w
 |[],E,H,_,h=>⟨E,.refl E,by simpa using h⟩
 | X::G,E,H,hG,h=>by
  simp only[List.all_cons,Bool.and_eq_true] at hG
  obtain⟨es,hX⟩:=phant_inv hG.1
  obtain⟨E',h1,h2⟩:=Emb.phantoms G hG.2 (h.phantom hX)
  exact⟨E',(E.le_push _).trans h1,by rw[List.append_assoc] at h2;exact h2⟩
def Abs (n:Nat) (σ:Nat->Nat) (F1:Fr) (H1:aa) (F2:Fr) (H2:aa):Prop:=∃G:aa,G.all gp=true/\Abs0 n σ F1 (H1++G) F2 H2
theorem Abs0.abs {σ:Nat->Nat}{F1 F2:Fr}{H1 H2:aa}(h:Abs0 n σ F1 H1 F2 H2):Abs n σ F1 H1 F2 H2:=⟨[],rfl,by simpa using h⟩
theorem Abs.emb {σ:Nat->Nat}{F1 F2:Fr}{H1 H2:aa}(h:Abs n σ F1 H1 F2 H2){E:Env}{w:World}{a:Act}(hn:n<=E.n)(hF:FrRel E F1 a)(hE:Emb E H1 w):
  ∃E',Env.leN n E E'/\FrRel E' F2 a/\Emb E' H2 w:=by
 obtain⟨G,hG,h⟩:=h
 obtain⟨E1,h1,h2⟩:=hE.phantoms G hG
 obtain⟨E2,h3,h4,h5⟩:=h.emb (Nat.le_trans hn h1.n) (hF.mono h1) h2
 exact⟨E2,(h1.leN hn).trans h3,h4,h5⟩
theorem oh {c:Code}(I:Nat->Fr->aa->Prop) (k0:Nat) (h0:∃σ F2 H2,I k0 F2 H2/\Abs n σ F H F2 H2)
  (round:∀k F H,I k F H->AW P N n c (fM (fun F' H'=>∃k',k'<k/\∃σ F2 H2,I k' F2 H2/\Abs n σ F' H' F2 H2) Q) F H):AW P N n (.loop c) Q F H:=by
 intro E w a h1 h2 h3 h4 h5
 obtain⟨σ,F2,H2,i0,ab⟩:=h0
 obtain⟨E1,l1,f1,e1⟩:=ab.emb h1 h4 h5
 refine wp_loop_ghost (fun k a w=>∃E' F' H',I k F' H'/\Env.leN n E E'/\a.tmps.size=N/\a.defers=[]/\FrRel E' F' a/\Emb E' H' w) k0 ⟨E1,F2,H2,i0,l1,h2,h3,f1,e1⟩ ?_
 rintro k a' w' ⟨E',F',H',i,l,k2,k3,k4,k5⟩
 refine wp_mono (round k F' H' i E' w' a' l.n k2 k3 k4 k5) ?_
 rintro e a'' w'' ⟨E'',F'',H'',q,l',r2,r3,r4,r5⟩
 cases e with
 | normal =>
  obtain⟨k',hk,σ',F3,H3,i',ab'⟩:=q
  obtain⟨E3,l3,f3,e3⟩:=ab'.emb l'.n r4 r5
  exact⟨k',hk,E3,F3,H3,i',(l.trans l').trans l3,r2,r3,f3,e3⟩
 |exit id=>exact⟨E'',F'',H'',q,l.trans l',r2,r3,r4,r5⟩
 |goto id=>exact⟨E'',F'',H'',q,l.trans l',r2,r3,r4,r5⟩
 |ret=>exact⟨E'',F'',H'',q,l.trans l',r2,r3,r4,r5⟩
 |panic ch=>exact⟨E'',F'',H'',q,l.trans l',r2,r3,r4,r5⟩
 |outgrown=>exact⟨E'',F'',H'',q,l.trans l',r2,r3,r4,r5⟩

theorem run_callOp {E:Env}{a:Act}{o:Oper}(hF:∀x∈o.op.operands,Rel E (aev F x) (a.eval x)){f:FuncId}{args:List AV}(hc:aj o.op F=some (f,args))(hok:dk P f=true)(w:World):
  ∃vs:List Value,(execOp a.eval o).run P w=.ok (.enter f vs.toArray) w/\RelL E args vs:=by
 obtain⟨dst,op,type,pos,after,guard⟩:=o
 simp only at hc hF
 unfold aj at hc
 split at hc
 ·rename_i c
  split at hc
  ·rename_i g hg
   split at hc
   ·rename_i k caps hk
    injection hc with hc
    injection hc with e1 e2
    subst e1 e2
    obtain⟨callee,cargs,argTypes⟩:=c
    simp only at hg
    subst hg
    have hgv:=hF g (by simp[Op.operands,Call.operands])
    rw[hk] at hgv
    generalize hev:a.eval g=gv at hgv
    cases hgv with
    |fn _ _ cs h1 h2 =>
    have hargs:=i7 (E:=E) (F:=F) (a:=a) cargs.toList (fun p hp=>hF p (by simp[Op.operands,Call.operands];exact .inr (by simpa using hp)))
    have hcaps:RelL E caps cs.toList:=⟨by simpa using h1,fun i x v hx hv=>h2 i x v hx (by simpa using hv)⟩
    refine⟨cargs.toList.map a.eval++cs.toList,?_,hargs.append hcaps⟩
    unfold dk at hok
    cases hfn:P.funcs[k]? with
    |none=>rw[hfn] at hok;cases hok
    | some fn =>
     rw[hfn] at hok
     simp only[Bool.and_eq_true] at hok
     have hb:fn.body≠none:=by cases hbb:fn.body<;>simp_all
     have hnm : fn.name ≠ "runtime.NumGoroutine" := by simpa using hok.2
     have hcat:(cargs.toList.map a.eval++cs.toList).toArray=cargs.map a.eval++cs:=by
      rw[<-List.append_toArray,lc,Array.toArray_toList]
     rw[hcat]
     simp[execOp,resolve,hev,Deferred.ofValue,invoke,callFunc,hfn,hb,hnm]
   cases hc
  cases hc
 cases hc
theorem gd_spec {E:Env}{a:Act}{ops:Array Oper}{o:Oper}{b:Bool}(hg:gd ops F o=some b)(hF:∀t,(∃g,o.guard=some g/\(ops[g.1]?).bind (·.dst)=some t)->Rel E (look F t) (a.tmps.getD t undef)):
  Region.wanted o (yielded ops a.tmps)=b:=by
 unfold gd at hg
 unfold Region.wanted
 split at hg
 ·rename_i h;rw[h];simpa using hg
 rename_i g h
 obtain⟨j,want⟩:=g
 rw[h]
 simp only at hg ⊢
 split at hg
 ·rename_i t ht
  have hr:=hF t ⟨(j,want),h,ht⟩
  split at hg
  ·rename_i c hl
   simp only[Option.some.injEq] at hg
   rw[hl] at hr
   have hv:=i9 hr
   have:yielded ops a.tmps j=some c:=by
    simp only[yielded,ht,Option.bind_some]
    rw[Array.getD_eq_getD_getElem?] at hv
    cases hq:a.tmps[t]? with
    |none=>rw[hq] at hv;simp[undef] at hv
    |some q=>rw[hq] at hv;simp at hv;subst hv;rfl
   rw[this,<-hg]
   cases c<;>cases want<;>rfl
  ·rename_i hl
   simp only[Option.some.injEq] at hg
   rw[hl] at hr
   have hv:a.tmps.getD t undef=.tuple #[]:=by
    generalize a.tmps.getD t undef=q at hr
    cases hr with
    |tup _ cs h1 h2=>simp at h1;rw[Array.eq_empty_of_size_eq_zero h1.symm]
   have:yielded ops a.tmps j=none:=by
    simp only[yielded,ht,Option.bind_some]
    rw[Array.getD_eq_getD_getElem?] at hv
    cases hq:a.tmps[t]? with
    |none=>rfl
    |some q=>rw[hq] at hv;simp at hv;subst hv;rfl
   rw[this,<-hg]
   rfl
  cases hg
 cases hg
theorem oU (E:Env):Rel E (.tup []) undef:=(RelL.nil E).tup
def ld (N:Nat) (ops:Array Oper):Bool:=ops.all fun o=>match o.dst with|some d=>decide (d<N)|none=>true
theorem lG {E:Env}{a:Act}(hF:FrRel E F a)(hN:a.tmps.size=N){d:Option Tmp}(hd:∀t,d=some t->t<N){x:AV}{v:Value}(hv:Rel E x v):FrRel E (putF d x F) (a.put d v)/\(a.put d v).tmps.size=N/\(a.put d v).defers=a.defers:=by
 cases d with
 |none=>exact⟨hF,hN,rfl⟩
 |some t=>exact⟨hF.put (by rw[hN];exact hd t rfl) hv,by simp[Act.put,hN],rfl⟩
theorem AOps_wp {ops:Array Oper}(hN:ld N ops=true):∀(l:List Oper) (k:Nat),ops.toList.drop k=l->∀(F:Fr) (H:aa),AOps P ops l F H (fun F' H'=>Q .normal F' H') ->
  ∀(E:Env) (w:World) (a:Act),n<=E.n->a.tmps.size=N->a.defers=[]->FrRel E F a->Emb E H w->wpOps P ops (LiftQ N n Q E) (List.range' k l.length) a w
 |[],k,_,F,H,h,E,w,a,h1,h2,h3,h4,h5=>⟨E,F,H,h,(Env.le.refl E).leN h1,h2,h3,h4,h5⟩
 | o :: os,k,hk,F,H,h,E,w,a,h1,h2,h3,h4,h5=>by
  have ho:ops[k]? = some o:=by
   have:=congrArg (·[0]?) hk
   simpa using this
  have hos:ops.toList.drop (k+1)=os:=by
   have:=congrArg (List.drop 1) hk
   simpa using this
  have hd:∀t,o.dst=some t->t<N:=fun t ht=>by
   have:=Array.all_eq_true_iff_forall_mem.1 hN o (Array.mem_of_getElem? ho)
   rw[ht] at this
   simpa using this
  have next:∀(F':Fr) (H':aa),AOps P ops os F' H' (fun F' H'=>Q .normal F' H')->∀(E':Env) (w':World) (a':Act),E.le E'->a'.tmps.size=N->a'.defers=[]->FrRel E' F' a'->Emb E' H' w'->wpOps P ops (LiftQ N n Q E) (List.range' (k+1) os.length) a' w':=fun F' H' h' E' w' a' hle k2 k3 k4 k5=>by
   have:=AOps_wp hN os (k+1) hos F' H' h' E' w' a' (Nat.le_trans h1 hle.n) k2 k3 k4 k5
   exact wpOps_mono' (fun e a w hq=>hq.shift (hle.leN h1)) _ _ _ this
  have hops:∀x∈o.op.operands,Rel E (aev F x) (a.eval x):=fun x _=>h4.ev x
  simp only[List.length_cons,List.range'_succ,wpOps,ho]
  unfold AOps at h
  cases hg:gd ops F o with
  |none=>rw[hg] at h;exact h.elim
  | some b =>
   rw[hg] at h
   rw[gd_spec hg (fun t _=>h4 t)]
   cases b
   ·simp only at h
    simp only[Bool.false_eq_true,if_false]
    obtain⟨q1,q2,q3⟩:=lG h4 h2 hd (oU E)
    exact next _ _ h E w _ (.refl E) q2 (q3.trans h3) q1 h5
   simp only[AOp] at h
   simp only[if_true]
   left
   unfold Oper.wp
   cases hc:aj o.op F with
   | some p =>
    obtain⟨f,args⟩:=p
    rw[hc] at h
    obtain⟨hok,hcall⟩:=h
    obtain⟨vs,hrun,hvs⟩:=run_callOp hops hc hok w
    rw[hrun,Oper.upon_enter]
    refine(hcall E w vs h5 hvs).mono ?_
    rintro e w' ⟨E',v,H',x,rfl,hx,hle,hv,hE'⟩
    obtain⟨q1,q2,q3⟩:=lG (h4.mono hle) h2 hd hv
    exact next _ _ hx E' w' _ hle q2 (q3.trans h3) q1 hE'
   | none =>
    rw[hc] at h
    obtain⟨r,hr,h⟩:=h
    obtain⟨E',nx,w',hrun,hn,hle,hE'⟩:=snd_op h5 o hops hr
    rw[hrun]
    rcases hn with ⟨rfl,hany⟩|⟨v,rfl,hv⟩
    ·rw[Oper.upon_skip]
     obtain⟨q1,q2,q3⟩:=lG (h4.mono hle) h2 hd (x:=r.1) (v:=undef) (by rw[hany];exact .any _)
     exact next _ _ h E' w' _ hle q2 (q3.trans h3) q1 hE'
    rw[Oper.upon_value]
    obtain⟨q1,q2,q3⟩:=lG (h4.mono hle) h2 hd hv
    exact next _ _ h E' w' _ hle q2 (q3.trans h3) q1 hE'
theorem oV {id:Nat}{ops:Array Oper}(hN:ld N ops=true)(h:AOps P ops ops.toList F H (fun F' H'=>Q .normal F' H')):AW P N n (.region id ops false) Q F H:=by
 intro E w a h1 h2 h3 h4 h5
 refine wp_region ?_
 have:=AOps_wp (n:=n) hN ops.toList 0 rfl F H h E w a h1 h2 h3 h4 h5
 rwa [<-List.range_eq_range',Array.length_toList] at this
end

def c8:Op->Bool
 |.move _ | .assign _ | .pick .. | .nilCheck _ | .binOp .. | .unOp .. | .makeFunc .. | .fieldAddr .. | .field .. | .indexAddr .. | .index .. | .extract .. | .build ..=>true
 |.call c=>(match c.callee with | .builtin .min | .builtin .max=>true|_=>false)
 |_=>false
def c9 (q:Bool):Op->Bool
 |.move _ | .assign _ | .pick .. | .nilCheck _ | .binOp .. | .unOp .. | .makeFunc .. | .fieldAddr .. | .field .. | .indexAddr .. | .index .. | .extract .. | .build ..=>false
 |.load .. | .lookup .. | .slice .. | .convert ..=>false
 |.call c=>(match c.callee with | .builtin .min | .builtin .max | .builtin .len=>false | .value _=>!q|_=>true)
 |_=>true
def dz:Op->Bool
 |.load ..=>true
 |.slice ..=>true
 |.call c=>(match c.callee with | .builtin .len=>true|_=>false)
 |_=>false
def kNew:Op->Bool
 |.alloc _ | .box .. | .buildSlice .. | .makeSlice .. | .makeMap ..=>true
 |_=>false
def aA (m:Nat):AV->Prop
 |.ptr (some (b,_))=>b<m
 |.sl (some (b,_)) _ _=>b<m
 |_=>True
def lenV (m:Nat):AV->Prop
 |.mp (some b)=>b<m
 |_=>True
def av (m:Nat) (o:Op) (F:Fr):Prop :=
 match o with
 |.load _ a=>aA m (aev F a)
 |.slice _ x _ _ _=>aA m (aev F x)
 |.call c=>(match c.callee,c.args.toList with | .builtin .len,x::_=>lenV m (aev F x)|_,_=>True)
 |_=>True
def AOpD (P:Program) (q:Bool) (m:Nat) (o:Op) (F:Fr) (H:aa) (K:AV->aa->Prop):Prop :=
 match aj o F with
 |some p=>dk P p.1=true/\∃x H',(q=true->H'=H)/\(H.length<=H'.length/\∀b,b<m->b<H.length->H'[b]? = H[b]?)/\ACalls P p.1 p.2 H (fun y H1=>y=x/\H1=H')/\K x H'
 |none=>av m o F/\∃r,aop P o F H=some r/\K r.1 r.2
def g7 (P:Program) (q:Bool) (m:Nat) (ops:Array Oper):List Oper->Fr->aa->(Fr->aa->Prop)->Prop
 |[],F,H,K=>K F H
 | o::os,F,H,K =>
  match gd ops F o with
  |some true=>AOpD P q m o.op F H fun x H'=>g7 P q m ops os (putF o.dst x F) H' K
  |some false=>g7 P q m ops os (putF o.dst (.tup []) F) H K
  |none=>False
def DoOp (P:Program) (q:Bool) (m:Nat) (o:Op) (F:Fr) (H:aa) (x:AV) (H':aa):Prop :=
 match aj o F with
 |some p=>dk P p.1=true/\(q=true->H'=H)/\(H.length<=H'.length/\∀b,b<m->b<H.length->H'[b]? = H[b]?)/\ACalls P p.1 p.2 H (fun y H1=>y=x/\H1=H')
 |none=>av m o F/\aop P o F H=some (x,H')
structure Steps' (P:Program) (q:Bool) (m:Nat) (ops:Array Oper) (k:Nat) (F:Fr) (H:aa) (r:Nat->AV) (h:Nat->aa) (fr:Nat->Fr):Prop where
 fr0:fr k=F
 h0:h k=H
 step:∀i o,k<=i->ops[i]? = some o->fr (i+1)=putF o.dst (r i) (fr i)/\((gd ops (fr i) o=some true/\DoOp P q m o.op (fr i) (h i) (r i) (h (i+1)))\/(gd ops (fr i) o=some false/\r i=.tup []/\h (i+1)=h i))
section
variable {P:Program} {N n m:Nat} {Q:Exit->Fr->aa->Prop} {q:Bool} {ops:Array Oper}
theorem ml {K:Fr->aa->Prop}:∀(l:List Oper) (k:Nat),ops.toList.drop k=l->∀(F:Fr) (H:aa),g7 P q m ops l F H K->∃r h fr,Steps' P q m ops k F H r h fr/\K (fr (k+l.length)) (h (k+l.length))
 | [],k,hk,F,H,hh=>by
  refine⟨fun _=>.any,fun _=>H,fun _=>F,⟨rfl,rfl,fun i o hi ho=>?_⟩,hh⟩
  have:=congrArg (·[i-k]?) hk
  simp[show k+(i-k)=i by omega,ho] at this
 | o :: os,k,hk,F,H,hh=>by
  have ho:ops[k]? = some o:=by
   have:=congrArg (·[0]?) hk
   simpa using this
  have hos:ops.toList.drop (k+1)=os:=by
   have:=congrArg (List.drop 1) hk
   simpa using this
  have fin:∀x H1,g7 P q m ops os (putF o.dst x F) H1 K->((gd ops F o=some true/\DoOp P q m o.op F H x H1)\/(gd ops F o=some false/\x=.tup []/\H1=H))->∃r h fr,Steps' P q m ops k F H r h fr/\K (fr (k+(o::os).length)) (h (k+(o::os).length)):=by
   intro x H1 h1 h2
   obtain⟨r,h,fr,⟨e1,e2,e3⟩,e4⟩:=ml os (k+1) hos _ _ h1
   refine⟨fun i=>if i=k then x else r i,fun i=>if i=k then H else h i,fun i=>if i=k then F else fr i,⟨by simp,by simp,fun i o' hi ho'=>?_⟩,?_⟩
   ·by_cases e:i=k
    ·subst e
     rw[ho] at ho';simp at ho';subst ho'
     simp only[if_true,if_neg (show ¬i+1=i by omega),e1,e2]
     exact⟨trivial,h2⟩
    simp only[if_neg e,if_neg (show ¬i+1=k by omega)]
    exact e3 i o' (by omega) ho'
   simp only[List.length_cons,if_neg (show ¬k+(os.length+1)=k by omega)]
   rw[show k+(os.length+1)=k+1+os.length by omega]
   exact e4
  unfold g7 at hh
  cases hg:gd ops F o with
  |none=>rw[hg] at hh;exact hh.elim
  | some b =>
   rw[hg] at hh
   cases b
   ·exact fin _ _ hh (.inr ⟨hg,rfl,rfl⟩)
   simp only[AOpD] at hh
   cases hc:aj o.op F with
   | some p =>
    rw[hc] at hh
    obtain⟨a1,x,H',a2,a2',a3,a4⟩:=hh
    exact fin x H' a4 (.inl ⟨hg,by unfold DoOp;rw[hc];exact⟨a1,a2,a2',a3⟩⟩)
   | none =>
    rw[hc] at hh
    obtain⟨a0,r,a1,a2⟩:=hh
    exact fin r.1 r.2 a2 (.inl ⟨hg,by unfold DoOp;rw[hc];exact⟨a0,a1⟩⟩)
theorem iJ {o:Op}(hp:c8 o=true){F:Fr}{H:aa}{r:AV×aa}(hr:aop P o F H=some r):r.2=H/\∀H',aop P o F H'=some (r.1,H'):=by
 cases o<;>simp only[c8,Bool.false_eq_true] at hp
 case pick c a b =>
  simp only[aop] at hr ⊢
  split at hr
  ·simp only[Option.some.injEq] at hr;subst hr;exact⟨rfl,fun _=>rfl⟩
  cases hr
 case nilCheck x =>
  simp only[aop] at hr ⊢
  split at hr
  ·simp only[Option.some.injEq] at hr;subst hr;exact⟨rfl,fun _=>rfl⟩
  ·simp only[Option.some.injEq] at hr;subst hr;exact⟨rfl,fun _=>rfl⟩
  cases hr
 case makeFunc fn first caps =>
  simp only[aop] at hr ⊢
  split at hr
  ·obtain⟨h0,rfl⟩:=cZ hr
   exact⟨rfl,fun _=>by simp[bu,h0]⟩
  cases hr
 case call c =>
  obtain⟨callee,args,ts⟩:=c
  simp only at hp
  split at hp
  ·simp only[aop,aBuiltin] at hr ⊢
   split at hr<;>(try simp only[Option.map_eq_some_iff] at hr)<;>try (cases hr;done)
   all_goals simp_all
   all_goals (obtain⟨a,ha,rfl⟩:=hr;simp_all)
  ·simp only[aop,aBuiltin] at hr ⊢
   split at hr<;>(try simp only[Option.map_eq_some_iff] at hr)<;>try (cases hr;done)
   all_goals simp_all
   all_goals (obtain⟨a,ha,rfl⟩:=hr;simp_all)
  cases hp
 all_goals
  simp only[aop,Option.map_eq_some_iff,Option.some.injEq] at hr ⊢
  first
   |(subst hr;exact⟨rfl,fun _=>rfl⟩)
   |(obtain⟨a,ha,rfl⟩:=hr;exact⟨rfl,fun H'=>⟨a,ha,rfl⟩⟩)
theorem qa {o:Op}(hp:c8 o=true)(F:Fr):aj o F=none:=by
 unfold aj
 split
 ·rename_i c
  obtain⟨callee,args,ts⟩:=c
  unfold c8 at hp
  cases callee with
  |value f=>simp at hp
  |_=>rfl
 rfl
theorem jr {o:Op}(hp:c8 o=true):c9 q o=false:=by
 cases o<;>simp only[c8,Bool.false_eq_true] at hp<;>simp only[c9]
 rename_i c
 split at hp
 ·rename_i h;rw[h]
 ·rename_i h;rw[h]
 cases hp
theorem oW {o:Op}(hp:c9 q o=false){F:Fr}(hc:aj o F=none){H:aa}{r:AV×aa}(hr:aop P o F H=some r):r.2=H:=by
 cases o<;>simp only[c9,Bool.true_eq_false] at hp
 case pick c a b=>exact(iJ rfl hr).1
 case nilCheck x=>exact(iJ rfl hr).1
 case makeFunc fn first caps=>exact(iJ rfl hr).1
 case load t x =>
  simp only[aop,aLoad] at hr
  split at hr
  ·obtain⟨g,-,hr⟩:=ag hr
   cases g
   ·simp only[cond_false,Option.map_eq_some_iff] at hr;obtain⟨a,-,rfl⟩:=hr;rfl
   simp only[cond_true] at hr
   obtain⟨a,-,hr⟩:=ag hr
   simp only[Option.map_eq_some_iff] at hr;obtain⟨a,-,rfl⟩:=hr;rfl
  cases hr
 case call c =>
  obtain⟨callee,args,ts⟩:=c
  simp only at hp
  simp only[aop] at hr
  split at hp
  ·simp only[aBuiltin] at hr
   split at hr<;>(try simp only[Option.map_eq_some_iff] at hr)<;>try (cases hr;done)
   all_goals simp_all
   all_goals (obtain⟨a,ha,rfl⟩:=hr;simp_all)
  ·simp only[aBuiltin] at hr
   split at hr<;>(try simp only[Option.map_eq_some_iff] at hr)<;>try (cases hr;done)
   all_goals simp_all
   all_goals (obtain⟨a,ha,rfl⟩:=hr;simp_all)
  ·simp only[aBuiltin] at hr
   split at hr<;>(try simp only[Option.map_eq_some_iff] at hr)<;>try (cases hr;done)
   all_goals simp_all
   all_goals (obtain⟨a,ha,rfl⟩:=hr;simp_all)
  ·cases hr
  cases hp
 all_goals
  simp only[aop,Option.map_eq_some_iff,Option.some.injEq] at hr
  first
   |(subst hr;rfl)
   |(obtain⟨a,ha,rfl⟩:=hr;rfl)
inductive Pred (ops:Array Oper):Nat->Nat->Prop where
 |edge {j:Nat} {o:Oper} {e:Edge}:ops[j]? = some o->e∈o.after->Region.binds .any e=true->Pred ops e.on j
 |step {i j:Nat} {o:Oper} {e:Edge}:ops[j]? = some o->e∈o.after->Region.binds .any e=true->Pred ops i e.on->Pred ops i j
def maskOf (acc:List Nat) (o:Oper):Nat:=o.after.toList.foldl (fun s e=>if Region.binds .any e then s ||| 2 ^ e.on ||| acc.getD e.on 0 else s) 0
def oi:List Oper->List Nat->List Nat
 |[],acc=>acc
 |o::os,acc=>oi os (acc++[maskOf acc o])
def g8 (ops:Array Oper):List Nat:=oi ops.toList []
theorem qb (acc:List Nat)(i:Nat):∀(l:List Edge) (s:Nat),(l.foldl (fun s e=>if Region.binds .any e then s ||| 2 ^ e.on ||| acc.getD e.on 0 else s) s).testBit i=true ->
  s.testBit i=true\/∃e∈l,Region.binds .any e=true/\(e.on=i\/(acc.getD e.on 0).testBit i=true)
 |[],s,h=>.inl h
 | e :: l,s,h=>by
  simp only[List.foldl_cons] at h
  rcases qb acc i l _ h with h|⟨e',h1,h2⟩
  ·split at h
   ·rename_i hb
    simp only[Nat.testBit_or,Bool.or_eq_true] at h
    rcases h with (h|h)|h
    ·exact .inl h
    ·rw[Nat.testBit_two_pow] at h
     exact .inr ⟨e,by simp,hb,.inl (by simpa using h)⟩
    exact .inr ⟨e,by simp,hb,.inr h⟩
   exact .inl h
  exact .inr ⟨e',by simp[h1],h2⟩
theorem lf (ops:Array Oper):∀(l:List Oper) (acc:List Nat),ops.toList.drop acc.length=l->(∀j i,(acc.getD j 0).testBit i=true->Pred ops i j)->∀j i,((oi l acc).getD j 0).testBit i=true->Pred ops i j
 |[],acc,_,h=>h
 | o::os,acc,hl,h=>by
  have ho:ops[acc.length]? = some o:=by
   have:=congrArg (·[0]?) hl
   simpa using this
  refine lf ops os _ (by have:=congrArg (List.drop 1) hl;simpa using this) ?_
  intro j i hb
  by_cases hj:j<acc.length
  ·refine h j i ?_
   rwa [List.getD_eq_getElem?_getD,List.getElem?_append_left hj,<-List.getD_eq_getElem?_getD] at hb
  by_cases hj2:j=acc.length
  ·subst hj2
   rw[List.getD_eq_getElem?_getD,List.getElem?_append_right (Nat.le_refl _)] at hb
   simp at hb
   unfold maskOf at hb
   rcases qb acc i _ _ hb with hb|⟨e,h1,h2,h3⟩
   ·simp at hb
   rcases h3 with rfl|h3
   ·exact .edge ho (by simpa using h1) h2
   exact .step ho (by simpa using h1) h2 (h _ _ h3)
  rw[List.getD_eq_getElem?_getD,List.getElem?_eq_none (by simp;omega)] at hb
  simp at hb
theorem d4 {ops:Array Oper}{i j:Nat}(h:((g8 ops).getD j 0).testBit i=true):Pred ops i j :=
 lf ops ops.toList [] rfl (fun j i h=>by simp at h) j i h
def iO (ops:Array Oper):Nat->Tmp->Bool
 |0,_=>false
 | i + 1,t =>
  match ops[i]? with
  | some o=>bif o.dst==some t then (match o.op with
    |.buildSlice ..=>true
    |.call c=>(match c.callee,c.args.toList with | .builtin .append,.tmp s::_=>iO ops i s|_,_=>false)
    |_=>false) else iO ops i t
  |none=>false
def kExt (ops:Array Oper) (i:Nat) (o:Op):Bool :=
 kNew o||(match o with
  |.call c=>(match c.callee,c.args.toList with | .value _,_=>true | .builtin .append,.tmp s::_=>iO ops i s|_,_=>false)
  |_=>false)
def lg (q:Bool) (ops:Array Oper) (m:List Nat) (i j:Nat) (a b:Oper):Bool :=
 (match a.dst with|some t=>b.dst != some t&&((m.getD j 0).testBit i||(m.getD i 0).testBit j||!(b.looksAt ops).contains t)|none=>true) &&
 ((m.getD j 0).testBit i||(m.getD i 0).testBit j||!c9 q a.op||c8 b.op||(kExt ops i a.op&&dz b.op))
def gq (q:Bool) (N:Nat) (ops:Array Oper):Bool :=
 ld N ops&&(ops.toList.zipIdx.all fun p=>p.1.after.all fun e=>!Region.binds .any e||decide (e.on<p.2)) &&
 (let m:=g8 ops;ops.toList.zipIdx.all fun p=>ops.toList.zipIdx.all fun r=>p.2==r.2||lg q ops m p.2 r.2 p.1 r.1)
structure DrawOk (q:Bool) (N:Nat) (ops:Array Oper):Prop where
 dst:∀(i:Nat) (o:Oper) (t:Tmp),ops[i]? = some o->o.dst=some t->t<N
 back:∀(i:Nat) (o:Oper) (e:Edge),ops[i]? = some o->e∈o.after->Region.binds .any e=true->e.on<i
 one:∀(i j:Nat) (a b:Oper) (t:Tmp),ops[i]? = some a->ops[j]? = some b->i≠j->a.dst=some t->b.dst≠some t
 look:∀(i j:Nat) (a b:Oper) (t:Tmp),ops[i]? = some a->ops[j]? = some b->i≠j->a.dst=some t->t∈b.looksAt ops->Pred ops i j\/Pred ops j i
 chg:∀(i j:Nat) (a b:Oper),ops[i]? = some a->ops[j]? = some b->i≠j->c9 q a.op=true->c8 b.op=false->(Pred ops i j\/Pred ops j i)\/(kExt ops i a.op=true/\dz b.op=true)
theorem rE {q:Bool}{N:Nat}{ops:Array Oper}(h:gq q N ops=true):DrawOk q N ops:=by
 unfold gq at h
 simp only[Bool.and_eq_true] at h
 obtain⟨⟨h1,h2⟩,h3⟩:=h
 have zi:∀i o,ops[i]? = some o->(o,i)∈ops.toList.zipIdx:=fun i o ho=>List.mem_iff_getElem?.2 ⟨i,by simp[List.getElem?_zipIdx,ho]⟩
 have pair:∀i j a b,ops[i]? = some a->ops[j]? = some b->i≠j->lg q ops (g8 ops) i j a b=true:=fun i j a b ha hb hij=>by
  have:=List.all_eq_true.1 (List.all_eq_true.1 h3 _ (zi i a ha)) _ (zi j b hb)
  simp only[Bool.or_eq_true,beq_iff_eq] at this
  exact this.resolve_left hij
 refine⟨fun i o t ho ht=>?_,fun i o e ho he hb=>?_,fun i j a b t ha hb hij ht=>?_,fun i j a b t ha hb hij ht hl=>?_,fun i j a b ha hb hij hc hp=>?_⟩
 ·have:=Array.all_eq_true_iff_forall_mem.1 h1 o (Array.mem_of_getElem? ho)
  rw[ht] at this
  simpa using this
 ·have:=List.all_eq_true.1 h2 _ (zi i o ho)
  have:=Array.all_eq_true_iff_forall_mem.1 this e he
  simpa [hb] using this
 ·have:=pair i j a b ha hb hij
  unfold lg at this
  rw[ht] at this
  simp only[Bool.and_eq_true,bne_iff_ne] at this
  exact this.1.1
 ·have:=pair i j a b ha hb hij
  unfold lg at this
  rw[ht] at this
  simp only[Bool.and_eq_true,Bool.or_eq_true] at this
  rcases this.1.2 with (h|h)|h
  ·exact .inl (d4 h)
  ·exact .inr (d4 h)
  simp at h;exact absurd hl h
 have:=pair i j a b ha hb hij
 unfold lg at this
 simp only[Bool.and_eq_true,Bool.or_eq_true] at this
 rcases this.2 with (((h|h)|h)|h)|h
 ·exact .inl (.inl (d4 h))
 ·exact .inl (.inr (d4 h))
 ·rw[hc] at h;cases h
 ·rw[hp] at h;cases h
 exact .inr h
theorem Pred.lt {ops:Array Oper}{q:Bool}{N:Nat}(hok:DrawOk q N ops){i j:Nat}(h:Pred ops i j):i<j:=by
 induction h with
 |edge ho he hb=>exact hok.back _ _ _ ho he hb
 |step ho he hb _ ih=>exact Nat.lt_trans ih (hok.back _ _ _ ho he hb)
def Closed (ops:Array Oper) (L:Nat->Bool):Prop:=∀(j:Nat) (o:Oper) (e:Edge),ops[j]? = some o->L j=true->e∈o.after->Region.binds .any e=true->L e.on=true
theorem Pred.listed {ops:Array Oper}{L:Nat->Bool}(hc:Closed ops L){i j:Nat}(h:Pred ops i j):(∀o e,ops[j]? = some o->e∈o.after->Region.binds .any e=true->L e.on=true)->L i=true:=by
 induction h with
 |edge ho he hb=>exact fun hr=>hr _ _ ho he hb
 |step ho he hb _ ih=>exact fun hr=>ih fun o' e' ho' he' hb'=>hc _ o' e' ho' (hr _ _ ho he hb) he' hb'
def fR (ops:Array Oper) (L:Nat->Bool) (r:Nat->AV) (F:Fr):Nat->Nat->AV
 |0,t=>look F t
 |k+1,t=>if L k=true/\(ops[k]?).bind (·.dst)=some t then r k else fR ops L r F k t
def eh (q:Bool) (ops:Array Oper) (L:Nat->Bool) (h:Nat->aa) (H:aa):Nat->aa
 |0=>H
 |k+1=>if L k=true/\((ops[k]?).map fun o=>c9 q o.op)=some true then h (k+1) else eh q ops L h H k
theorem lh {ops:Array Oper}{L:Nat->Bool}{r:Nat->AV}{F:Fr}{t k:Nat}:fR ops L r F (k+1) t=if L k=true/\(ops[k]?).bind (·.dst)=some t then r k else fR ops L r F k t:=rfl
theorem li {q:Bool}{ops:Array Oper}{L:Nat->Bool}{h:Nat->aa}{H:aa}{k:Nat}:eh q ops L h H (k+1)=if L k=true/\((ops[k]?).map fun o=>c9 q o.op)=some true then h (k+1) else eh q ops L h H k:=rfl
theorem gr {ops:Array Oper}{L L':Nat->Bool}{r:Nat->AV}{F:Fr}{t:Nat}:∀k,(∀i,i<k->(ops[i]?).bind (·.dst)=some t->L i=L' i)->fR ops L r F k t=fR ops L' r F k t
 |0,_=>rfl
 | k+1,h=>by
  unfold fR
  have ih:=gr (L:=L) (L':=L') (r:=r) (F:=F) k (fun i hi=>h i (by omega))
  by_cases hd:(ops[k]?).bind (·.dst)=some t
  ·rw[h k (by omega) hd,ih]
  rw[if_neg (fun hh=>hd hh.2),if_neg (fun hh=>hd hh.2),ih]
theorem eJ {q:Bool}{ops:Array Oper}{L L':Nat->Bool}{h:Nat->aa}{H:aa}:∀k,(∀i,i<k->((ops[i]?).map fun o=>c9 q o.op)=some true->L i=L' i)->eh q ops L h H k=eh q ops L' h H k
 |0,_=>rfl
 | k+1,hh=>by
  unfold eh
  have ih:=eJ (L:=L) (L':=L') (h:=h) (H:=H) k (fun i hi=>hh i (by omega))
  by_cases hd:((ops[k]?).map fun o=>c9 q o.op)=some true
  ·rw[hh k (by omega) hd,ih]
  rw[if_neg (fun x=>hd x.2),if_neg (fun x=>hd x.2),ih]
theorem nn {ops:Array Oper}{r:Nat->AV}{F:Fr}{t j:Nat}:∀k,j<=k->fR ops (fun i=>decide (i<j)) r F k t=fR ops (fun _=>true) r F j t
 | 0,h=>by
  have:j=0:=by omega
  subst this;rfl
 | k+1,h=>by
  by_cases hj:j=k+1
  ·subst hj
   exact gr _ (fun i hi _=>by simpa using hi)
  rw[lh (k:=k)]
  rw[if_neg (fun hh=>by have:=hh.1;simp at this;omega)]
  exact nn (j:=j) k (by omega)
theorem iK {q:Bool}{ops:Array Oper}{h:Nat->aa}{H:aa}{j:Nat}:∀k,j<=k->eh q ops (fun i=>decide (i<j)) h H k=eh q ops (fun _=>true) h H j
 | 0,hh=>by
  have:j=0:=by omega
  subst this;rfl
 | k+1,hh=>by
  by_cases hj:j=k+1
  ·subst hj
   exact eJ _ (fun i hi _=>by simpa using hi)
  rw[li (k:=k)]
  rw[if_neg (fun hh=>by have:=hh.1;simp at this;omega)]
  exact iK (j:=j) k (by omega)
theorem lj {P:Program}{q:Bool}{m:Nat}{ops:Array Oper}{F:Fr}{H:aa}{r:Nat->AV}{h:Nat->aa}{fr:Nat->Fr}(st:Steps' P q m ops 0 F H r h fr)(t:Nat):∀k,k<=ops.size->fR ops (fun _=>true) r F k t=look (fr k) t
 |0,_=>by rw[st.fr0];rfl
 | k+1,hk=>by
  have ho:ops[k]? = some ops[k]:=Array.getElem?_eq_getElem (by omega)
  have ih:=lj st t k (by omega)
  obtain⟨e1,-⟩:=st.step k _ (by omega) ho
  unfold fR
  have hb:(ops[k]?).bind (·.dst)=ops[k].dst:=by rw[ho];rfl
  rw[e1,ih,hb]
  cases hd:ops[k].dst with
  |none=>simp[putF]
  | some d =>
   show (if (fun _=>true) k=true/\some d=some t then r k else look (fr k) t)=(bif d==t then r k else look (fr k) t)
   by_cases e:d=t
   ·simp[e]
   have e':(d==t)=false:=by simp[e]
   simp[e,e']
theorem gt {P:Program}{q:Bool}{m:Nat}{ops:Array Oper}{F:Fr}{H:aa}{r:Nat->AV}{h:Nat->aa}{fr:Nat->Fr}(st:Steps' P q m ops 0 F H r h fr){k:Nat}{o:Oper}(ho:ops[k]? = some o)(hc:c9 q o.op=false):h (k+1)=h k:=by
 obtain⟨-,h2⟩:=st.step k o (by omega) ho
 rcases h2 with ⟨-,h2⟩|⟨-,-,h2⟩
 ·unfold DoOp at h2
  cases hcal:aj o.op (fr k) with
  | some p =>
   rw[hcal] at h2
   refine h2.2.1 ?_
   cases hop:o.op<;>rw[hop] at hcal hc<;>try (simp[aj] at hcal;done)
   rename_i c
   obtain⟨callee,args,ts⟩:=c
   cases callee<;>simp[aj] at hcal
   simpa [c9] using hc
  | none =>
   rw[hcal] at h2
   exact oW hc hcal h2.2
 exact h2
theorem ig {P:Program}{q:Bool}{m:Nat}{ops:Array Oper}{F:Fr}{H:aa}{r:Nat->AV}{h:Nat->aa}{fr:Nat->Fr}(st:Steps' P q m ops 0 F H r h fr):∀k,k<=ops.size->eh q ops (fun _=>true) h H k=h k
 |0,_=>by rw[st.h0];rfl
 | k+1,hk=>by
  have ho:ops[k]? = some ops[k]:=Array.getElem?_eq_getElem (by omega)
  unfold eh
  rw[ho]
  simp only[Option.map_some,Option.some.injEq,true_and]
  by_cases hc:c9 q ops[k].op=true
  ·rw[if_pos hc]
  rw[if_neg hc,ig st k (by omega),gt st ho (by simpa using hc)]
def unl (l:List Bool):Nat:=l.countP (fun b=>!b)
theorem unl_set {l:List Bool}{k:Nat}(hk:k<l.length)(hb:l[k]? = some false):unl (l.set k true)+1=unl l:=by
 induction l generalizing k with
 |nil=>simp at hk
 | cons b bs ih =>
  cases k with
  | zero =>
   have:b=false:=by simpa using hb
   subst this
   simp[unl]
  | succ k =>
   have:=ih (k:=k) (by simpa using hk) (by simpa using hb)
   cases b<;>simp[unl] at this ⊢<;>omega
theorem ii {o:Op}(h:c9 q o=true):dz o=false:=by
 cases o<;>first|rfl|(simp[c9] at h;done)|skip
 rename_i c
 obtain⟨callee,args,ts⟩:=c
 simp only[c9] at h
 simp only[dz]
 split at h<;>simp_all
theorem rR {o:Op}(h:dz o=true):c8 o=false:=by
 cases o<;>first|rfl|(simp[dz] at h;done)|skip
 rename_i c
 obtain⟨callee,args,ts⟩:=c
 simp only[dz] at h
 simp only[c8]
 split at h<;>simp_all
theorem qc {o:Op}(h:dz o=true){F:Fr}:aj o F=none:=by
 cases o<;>first|rfl|(simp[dz] at h;done)|skip
 rename_i c
 obtain⟨callee,args,ts⟩:=c
 simp only[dz] at h
 split at h
 ·rfl
 cases h
theorem load_same {o:Op}(ho:dz o=true){F:Fr}{H1 H2 H':aa}{x:AV}(hl:av m o F)(h:aop P o F H1=some (x,H'))(he:∀b,b<m->H2[b]? = H1[b]?):aop P o F H2=some (x,H2):=by
 cases o<;>first|(simp[dz] at ho;done)|skip
 case load t a =>
  simp only[aop,aLoad] at h ⊢
  simp only[av] at hl
  split at h
  ·rename_i b o hab
   rw[hab] at hl
   simp only[aA] at hl
   have e1:∀n,ards H2 b o n=ards H1 b o n:=fun n=>by unfold ards;rw[he b hl]
   have e2:ard H2 b o=ard H1 b o:=by unfold ard;rw[he b hl]
   rw[e2]
   obtain⟨g,hg,h⟩:=ag h
   rw[hg]
   simp only[Option.bind_some]
   cases g
   ·simp only[cond_false,Option.map_eq_some_iff,Prod.mk.injEq] at h ⊢
    obtain⟨v,h1,rfl,_⟩:=h
    exact⟨v,h1,rfl,trivial⟩
   simp only[cond_true] at h ⊢
   obtain⟨n,hn,h⟩:=ag h
   rw[hn]
   simp only[Option.bind_some]
   rw[e1]
   simp only[Option.map_eq_some_iff,Prod.mk.injEq] at h ⊢
   obtain⟨v,h1,rfl,_⟩:=h
   exact⟨v,h1,rfl,trivial⟩
  cases h
 case slice t a lo hi mx =>
  simp only[aop,Option.map_eq_some_iff,Prod.mk.injEq] at h ⊢
  obtain⟨v,h1,rfl,_⟩:=h
  refine⟨v,?_,rfl,trivial⟩
  rw[<-h1]
  simp only[av] at hl
  generalize aev F a=y at *
  unfold aSlice
  cases y<;>try rfl
  rename_i a' n c
  cases a' with
  |none=>rfl
  | some p =>
   obtain⟨b,o⟩:=p
   simp only[aA] at hl
   simp only[he b hl]
 case call c =>
  obtain⟨callee,args,ts⟩:=c
  simp only[dz] at ho
  split at ho
  ·simp only[aop,aBuiltin] at h ⊢
   simp only[av] at hl
   split at h
   all_goals first|(cases h;done)|skip
   all_goals first|(simp_all;done)|skip
   rename_i t x e1 e2 e3
   simp only[Option.map_eq_some_iff,Prod.mk.injEq] at h
   obtain⟨v,h1,rfl,_⟩:=h
   simp only[Option.map_eq_some_iff,Prod.mk.injEq]
   refine⟨v,?_,rfl,trivial⟩
   rw[<-h1]
   unfold aLen
   cases x<;>try rfl
   rename_i r
   cases r with
   |none=>rfl
   | some b =>
    cases ha:args.toList with
    |nil=>rw[ha] at e3;simp at e3
    | cons y ys =>
     rw[ha] at e3 hl
     simp only[List.map_cons,List.cons.injEq] at e3
     simp only[e3.1,lenV] at hl
     simp only[aEnts,he b hl]
  cases ho
theorem oZ {o:Op}(ho:kNew o=true){F:Fr}{H:aa}{r:AV×aa}(h:aop P o F H=some r):∃l,r.2=H++l:=by
 cases o<;>first|(simp[kNew] at ho;done)|skip
 case alloc t =>
  simp only[aop,aAlloc,aNew,Option.map_eq_some_iff] at h
  obtain⟨z,-,rfl⟩:=h;exact⟨_,rfl⟩
 case box t x =>
  simp only[aop,aBox,aNew,Option.map_eq_some_iff] at h
  obtain⟨z,-,rfl⟩:=h;exact⟨_,rfl⟩
 case buildSlice t n ps =>
  simp only[aop,aBuildSlice] at h
  obtain⟨_,-,h⟩:=ag h
  obtain⟨_,-,h⟩:=ag h
  obtain⟨_,-,h⟩:=ag h
  obtain⟨_,-,h⟩:=ag h
  simp only[Option.map_eq_some_iff] at h
  obtain⟨_,-,rfl⟩:=h;exact⟨_,rfl⟩
 case makeSlice t l c =>
  simp only[aop,aMakeSlice] at h
  split at h
  ·obtain⟨_,-,h⟩:=ag h
   obtain⟨_,-,h⟩:=ag h
   obtain⟨_,-,h⟩:=ag h
   obtain⟨_,-,h⟩:=ag h
   simp only[Option.map_eq_some_iff] at h
   obtain⟨_,-,rfl⟩:=h;exact⟨_,rfl⟩
  cases h
 case makeMap t x =>
  simp only[aop] at h
  split at h
  ·simp only[Option.some.injEq] at h;subst h;exact⟨_,rfl⟩
  split at h
  ·simp only[Option.map_eq_some_iff] at h
   obtain⟨_,-,rfl⟩:=h;exact⟨_,rfl⟩
  cases h
theorem kf {H:aa}{b o:Nat}{ys:List AV}{H':aa}(h:awrite H b o ys=some H'):H'.length=H.length:=by
 unfold awrite at h
 split at h
 ·split at h
  ·simp only[Option.some.injEq] at h;subst h;simp
  cases h
 cases h
theorem rS {t:TypeId}{x y:AV}{H H':aa}(h:aStore P t x y H=some H'):H'.length=H.length:=by
 unfold aStore at h
 split at h
 ·obtain⟨_,-,h⟩:=ag h
  exact kf h
 cases h
theorem lH {α:Type}{c:Bool}{a b r:Option α}(h:(bif c then a else b)=r):a=r\/b=r:=by
 cases c
 ·exact .inr h
 exact .inl h
theorem rF {t:TypeId}{s x:AV}{H:aa}{r:AV×aa}(h:ap P t s x H=some r):H.length<=r.2.length:=by
 unfold ap at h
 obtain⟨_,-,h1⟩:=ag h
 obtain⟨_,-,h2⟩:=ag h1
 obtain⟨_,-,h3⟩:=ag h2
 obtain⟨_,-,h4⟩:=ag h3
 obtain⟨mx,-,h5⟩:=ag h4
 obtain⟨_,-,h6⟩:=ag h5
 clear h h1 h2 h3 h4 h5
 have h:=h6
 clear h6
 split at h
 ·obtain⟨_,-,h⟩:=ag h
  cases hz:mx.1==0
  ·rw[hz,cond_false] at h
   simp only[Option.map_eq_some_iff] at h
   obtain⟨_,-,rfl⟩:=h
   simp
  rw[hz,cond_true] at h
  simp only[Option.some.injEq] at h;subst h;exact Nat.le_refl _
 ·rename_i b o n cap
  obtain⟨_,-,h⟩:=ag h
  obtain⟨_,-,h⟩:=ag h
  rcases lH h with h|h
  ·simp only[Option.some.injEq] at h;subst h;exact Nat.le_refl _
  rcases lH h with h|h
  ·simp only[Option.some.injEq] at h;subst h;simp
  split at h
  ·simp only[Option.map_eq_some_iff] at h
   obtain⟨_,-,rfl⟩:=h
   simp
  cases h
 cases h
theorem aCopy_len {t:TypeId}{d s:AV}{H:aa}{r:AV×aa}(h:aCopy P t d s H=some r):H.length<=r.2.length:=by
 unfold aCopy at h
 obtain⟨_,-,h1⟩:=ag h
 obtain⟨_,-,h2⟩:=ag h1
 clear h h1
 have h:=h2
 clear h2
 split at h
 ·rename_i b o n c b' o' k c'
  cases hz:min k n==0
  ·rw[hz,cond_false] at h
   obtain⟨_,-,h⟩:=ag h
   simp only[Option.map_eq_some_iff] at h
   obtain⟨_,h1,rfl⟩:=h
   rw[kf h1];exact Nat.le_refl _
  rw[hz,cond_true] at h
  simp only[Option.some.injEq] at h;subst h;exact Nat.le_refl _
 ·simp only[Option.some.injEq] at h;subst h;exact Nat.le_refl _
 ·simp only[Option.some.injEq] at h;subst h;exact Nat.le_refl _
 cases h
theorem rT {t:TypeId}{d:AV}{H H':aa}(h:aClear P t d H=some H'):H'.length=H.length:=by
 unfold aClear at h
 obtain⟨_,-,h1⟩:=ag h
 obtain⟨_,-,h2⟩:=ag h1
 obtain⟨-,h3⟩:=eG h2
 clear h h1 h2
 split at h3
 ·simp at h3;subst h3;rfl
 ·rename_i b o n c
  cases hz:n==0
  ·rw[hz,cond_false] at h3;exact kf h3
  rw[hz,cond_true] at h3;simp at h3;subst h3;rfl
 cases h3
theorem rG {t:TypeId}{d k:AV}{H H':aa}(h:aDelete P t d k H=some H'):H'.length=H.length:=by
 unfold aDelete at h
 split at h
 ·split at h
  ·obtain⟨_,-,h⟩:=ag h
   obtain⟨_,-,h⟩:=ag h
   simp only[Option.map_eq_some_iff] at h
   obtain⟨z,-,h⟩:=h
   subst h
   cases z<;>simp
  cases h
 cases h
theorem oj {t:TypeId}{d k x:AV}{H H':aa}(h:aMapUpdate P t d k x H=some H'):H'.length=H.length:=by
 unfold aMapUpdate at h
 split at h
 ·split at h
  ·obtain⟨_,-,h⟩:=ag h
   obtain⟨_,-,h⟩:=ag h
   obtain⟨z,-,h⟩:=ag h
   cases z with
   |none=>simp only[Option.some.injEq] at h;subst h;simp
   | some z =>
    simp only[Option.map_eq_some_iff] at h
    obtain⟨_,-,rfl⟩:=h
    simp
  cases h
 cases h
theorem aop_len {o:Op}{F:Fr}{H:aa}{r:AV×aa}(h:aop P o F H=some r):H.length<=r.2.length:=by
 cases hk:kNew o with
 | true =>
  obtain⟨l,hl⟩:=oZ hk h
  rw[hl];simp
 | false =>
  cases o<;>first|(have:=oW (q:=true) rfl rfl h;rw[this];exact Nat.le_refl _)|(simp[kNew] at hk;done)|(simp[aop] at h;done)|skip
  case store t a x =>
   simp only[aop,Option.map_eq_some_iff] at h
   obtain⟨_,h1,rfl⟩:=h
   rw[rS h1];exact Nat.le_refl _
  case mapUpdate t a k x =>
   simp only[aop,Option.map_eq_some_iff] at h
   obtain⟨_,h1,rfl⟩:=h
   rw[oj h1];exact Nat.le_refl _
  case call c =>
   simp only[aop] at h
   split at h
   ·simp only[aBuiltin] at h
    split at h
    ·simp only[Option.map_eq_some_iff] at h;obtain⟨_,-,rfl⟩:=h;exact Nat.le_refl _
    ·obtain⟨_,-,h⟩:=ag h
     exact rF h
    ·exact aCopy_len h
    ·simp only[Option.map_eq_some_iff] at h;obtain⟨_,h1,rfl⟩:=h;rw[rG h1];exact Nat.le_refl _
    ·simp only[Option.map_eq_some_iff] at h;obtain⟨_,h1,rfl⟩:=h;rw[rT h1];exact Nat.le_refl _
    ·simp only[Option.map_eq_some_iff] at h;obtain⟨_,-,rfl⟩:=h;exact Nat.le_refl _
    ·simp only[Option.map_eq_some_iff] at h;obtain⟨_,-,rfl⟩:=h;exact Nat.le_refl _
    cases h
   cases h
theorem rH {o:Op}(h:kNew o=true){F:Fr}:aj o F=none:=by
 cases o<;>first|rfl|(simp[kNew] at h)
theorem h_mono {F:Fr}{H:aa}{r:Nat->AV}{h:Nat->aa}{fr:Nat->Fr}(st:Steps' P q m ops 0 F H r h fr):∀k,k<=ops.size->H.length<=(h k).length
 |0,_=>by rw[st.h0];exact Nat.le_refl _
 | k+1,hk=>by
  have ho:ops[k]? = some ops[k]:=Array.getElem?_eq_getElem (by omega)
  have ih:=h_mono st k (by omega)
  obtain⟨-,h2⟩:=st.step k _ (by omega) ho
  rcases h2 with ⟨-,h2⟩|⟨-,-,h2⟩
  ·unfold DoOp at h2
   cases hcal:aj ops[k].op (fr k) with
   |some p=>rw[hcal] at h2;exact Nat.le_trans ih h2.2.2.1.1
   |none=>rw[hcal] at h2;exact Nat.le_trans ih (aop_len h2.2)
  rw[h2];exact ih
def freshV (m:Nat):AV->Prop
 |.sl (some (b,_)) _ _=>m<=b
 |_=>True
theorem kW {t:TypeId}{s x:AV}{H:aa}{r:AV×aa}(hs:freshV m s)(hm:m<=H.length)(h:ap P t s x H=some r):freshV m r.1/\∀b,b<m->r.2[b]? = H[b]? :=by
 unfold ap at h
 obtain⟨_,-,h1⟩:=ag h
 obtain⟨_,-,h2⟩:=ag h1
 obtain⟨_,-,h3⟩:=ag h2
 obtain⟨_,-,h4⟩:=ag h3
 obtain⟨mx,-,h5⟩:=ag h4
 obtain⟨_,-,h6⟩:=ag h5
 clear h h1 h2 h3 h4 h5
 have h:=h6
 clear h6
 split at h
 ·obtain⟨_,-,h⟩:=ag h
  cases hz:mx.1==0
  ·rw[hz,cond_false] at h
   simp only[Option.map_eq_some_iff] at h
   obtain⟨_,-,rfl⟩:=h
   exact⟨hm,fun b hb=>List.getElem?_append_left (Nat.lt_of_lt_of_le hb hm)⟩
  rw[hz,cond_true] at h
  simp only[Option.some.injEq] at h;subst h;exact⟨trivial,fun _ _=>rfl⟩
 ·rename_i b o n cap
  obtain⟨_,-,h⟩:=ag h
  obtain⟨_,-,h⟩:=ag h
  rcases lH h with h|h
  ·simp only[Option.some.injEq] at h;subst h;exact⟨hs,fun _ _=>rfl⟩
  rcases lH h with h|h
  ·simp only[Option.some.injEq] at h;subst h
   exact⟨hm,fun b hb=>List.getElem?_append_left (Nat.lt_of_lt_of_le hb hm)⟩
  split at h
  ·simp only[Option.map_eq_some_iff] at h
   obtain⟨_,-,rfl⟩:=h
   refine⟨hm,fun b' hb=>?_⟩
   have hs':m<=b:=hs
   show (H.set b .dead++_)[b']? = _
   rw[List.getElem?_append_left (by rw[List.length_set];omega),List.getElem?_set_ne (by omega)]
  cases h
 cases h
theorem mC {F:Fr}{H:aa}{r:Nat->AV}{h:Nat->aa}{fr:Nat->Fr}(st:Steps' P q m ops 0 F H r h fr)(hml:∀k,k<=ops.size->m<=(h k).length):∀(i:Nat) (t:Tmp),i<=ops.size->iO ops i t=true->freshV m (look (fr i) t)
 |0,_,_,hf=>by simp[iO] at hf
 | i + 1,t,hi,hf=>by
  unfold iO at hf
  have ho:ops[i]? = some ops[i]:=Array.getElem?_eq_getElem (by omega)
  rw[ho] at hf
  simp only at hf
  obtain⟨e1,h2⟩:=st.step i _ (by omega) ho
  rw[e1]
  cases hd:ops[i].dst==some t with
  | false =>
   rw[hd,cond_false] at hf
   have ih:=mC st hml i t (by omega) hf
   unfold putF
   cases hdst:ops[i].dst with
   |none=>simpa [hdst] using ih
   | some d =>
    rw[hdst] at hd
    have hne:(d==t)=false:=by simpa using hd
    simp only[look,hne,cond_false]
    exact ih
  | true =>
   rw[hd,cond_true] at hf
   have hdst:ops[i].dst=some t:=by simpa using hd
   rw[hdst]
   simp only[putF,look,beq_self_eq_true,cond_true]
   rcases h2 with ⟨-,h2⟩|⟨-,h2,-⟩
   ·unfold DoOp at h2
    split at hf
    ·rename_i t' n' ps hop
     rw[hop] at h2
     simp only[aj] at h2
     have h3:=h2.2
     simp only[aop,aBuildSlice] at h3
     obtain⟨_,-,h3⟩:=ag h3
     obtain⟨_,-,h3⟩:=ag h3
     obtain⟨_,-,h3⟩:=ag h3
     obtain⟨_,-,h3⟩:=ag h3
     simp only[Option.map_eq_some_iff,Prod.mk.injEq] at h3
     obtain⟨_,-,h4,-⟩:=h3
     rw[<-h4]
     exact hml i (by omega)
    ·rename_i c hop
     split at hf
     ·rename_i s args hc1 hc2
      have ih:=mC st hml i s (by omega) hf
      rw[hop] at h2
      have hcal:aj (.call c) (fr i)=none:=by unfold aj;simp only[hc1]
      rw[hcal] at h2
      have h3:=h2.2
      simp only[aop,hc1,hc2,aBuiltin,List.map_cons,aev] at h3
      split at h3
      all_goals first|(cases h3;done)|skip
      all_goals first|(simp_all;done)|skip
      rename_i e4 e5
      simp only[List.cons.injEq] at e5
      obtain⟨_,-,h3⟩:=ag h3
      rw[<-e5.1] at h3
      exact(kW ih (hml i (by omega)) h3).1
     cases hf
    cases hf
   rw[h2];trivial
theorem ext_step {F:Fr}{H:aa}{r:Nat->AV}{h:Nat->aa}{fr:Nat->Fr}(st:Steps' P q m ops 0 F H r h fr)(hml:∀k,k<=ops.size->m<=(h k).length){i:Nat}{c:Oper}(ho:ops[i]? = some c)(hk:kExt ops i c.op=true):∀b,b<m->(h (i+1))[b]? = (h i)[b]? :=by
 have hi:i<ops.size:=(Array.getElem?_eq_some_iff.1 ho).1
 obtain⟨-,h2⟩:=st.step i c (by omega) ho
 rcases h2 with ⟨-,h2⟩|⟨-,-,h2⟩
 ·unfold DoOp at h2
  unfold kExt at hk
  cases hn:kNew c.op with
  | true =>
   rw[rH hn] at h2
   obtain⟨l',hl'⟩:=oZ hn h2.2
   simp only at hl'
   exact fun b hb=>by rw[hl',List.getElem?_append_left (Nat.lt_of_lt_of_le hb (hml i (by omega)))]
  | false =>
   rw[hn,Bool.false_or] at hk
   split at hk
   ·rename_i cc hop
    split at hk
    ·cases hcal:aj c.op (fr i) with
     |some p=>rw[hcal] at h2;exact fun b hb=>h2.2.2.1.2 b hb (Nat.lt_of_lt_of_le hb (hml i (by omega)))
     | none =>
      have hc1:∃f,cc.callee=.value f:=⟨_,by assumption⟩
      obtain⟨f,hc1⟩:=hc1
      rw[hcal] at h2
      have h3:=h2.2
      rw[hop] at h3
      simp only[aop,hc1] at h3
      cases h3
    ·rename_i s args hc1 hc2
     have hcal:aj c.op (fr i)=none:=by rw[hop];unfold aj;simp only[hc1]
     rw[hcal] at h2
     have h3:=h2.2
     rw[hop] at h3
     simp only[aop,hc1,hc2,aBuiltin,List.map_cons,aev] at h3
     split at h3
     all_goals first|(cases h3;done)|skip
     all_goals first|(simp_all;done)|skip
     rename_i e4 e5
     simp only[List.cons.injEq] at e5
     obtain⟨_,-,h3⟩:=ag h3
     rw[<-e5.1] at h3
     exact(kW (mC st hml i s (by omega) hk) (hml i (by omega)) h3).2
    cases hk
   cases hk
 exact fun b _=>by rw[h2]
theorem h_keep {F:Fr}{H:aa}{r:Nat->AV}{h:Nat->aa}{fr:Nat->Fr}(st:Steps' P q m ops 0 F H r h fr)(hml:∀k,k<=ops.size->m<=(h k).length):∀(d i0:Nat),i0+d<=ops.size->(∀i c,i0<=i->i<i0+d->ops[i]? = some c->c9 q c.op=true->kExt ops i c.op=true)->∀b,b<m->(h (i0+d))[b]? = (h i0)[b]?
 |0,i0,_,_=>fun b _=>rfl
 | d+1,i0,hd,hn=>fun b hb=>by
  have ih:=h_keep st hml d i0 (by omega) (fun i c h1 h2=>hn i c h1 (by omega)) b hb
  have ho:ops[i0+d]? = some ops[i0+d]:=Array.getElem?_eq_getElem (by omega)
  rw[show i0+(d+1)=i0+d+1 by omega]
  cases hc:c9 q ops[i0+d].op with
  |false=>rw[gt st ho hc];exact ih
  |true=>rw[ext_step st hml ho (hn _ _ (by omega) (by omega) ho hc) b hb];exact ih
theorem curH_is {L:Nat->Bool}{h:Nat->aa}{H:aa}(h0:h 0=H):∀k,∃s,s<=k/\eh q ops L h H k=h s/\(s=0\/∃c,ops[s-1]? = some c/\L (s-1)=true/\c9 q c.op=true)/\∀i c,s<=i->i<k->ops[i]? = some c->c9 q c.op=true->L i=false
 |0=>⟨0,Nat.le_refl _,h0.symm,.inl rfl,fun i c h1 h2=>by omega⟩
 | k+1=>by
  obtain⟨s,s1,s2,s3,s4⟩:=curH_is (L:=L) h0 k
  rw[li]
  by_cases hc:L k=true/\((ops[k]?).map fun o=>c9 q o.op)=some true
  ·rw[if_pos hc]
   obtain⟨c,h1,h2⟩:=Option.map_eq_some_iff.1 hc.2
   exact⟨k+1,Nat.le_refl _,rfl,.inr ⟨c,by simpa using h1,by simpa using hc.1,h2⟩,fun i c h1 h2=>by omega⟩
  rw[if_neg hc]
  refine⟨s,by omega,s2,s3,fun i c h1 h2 hi hcc=>?_⟩
  by_cases e:i=k
  ·subst e
   cases hL:L i with
   |false=>rfl
   |true=>exact absurd ⟨hL,by rw[hi];simp[hcc]⟩ hc
  exact s4 i c h1 (by omega) hi hcc
def no (q:Bool) (ops:Array Oper):Prop:=∀(i j:Nat) (a b:Oper),ops[i]? = some a->ops[j]? = some b->i≠j->c9 q a.op=true->c8 b.op=false->Pred ops i j\/Pred ops j i
theorem drawn_aux {F0:Fr}{H0:aa}{r:Nat->AV}{h:Nat->aa}{fr:Nat->Fr}(hmz:m<=H0.length\/no q ops)(hok:DrawOk q N ops)(st:Steps' P q m ops 0 F0 H0 r h fr)(hQ:Q .normal (fr ops.size) (h ops.size)){E0:Env}:
  ∀ (fuel:Nat) (listed:Array Bool) (E:Env) (w:World) (a:Act),listed.size=ops.size->unl listed.toList=fuel->Closed ops (fun i=>listed.getD i false)->Env.leN n E0 E->n<=E.n->a.tmps.size=N->a.defers=[] ->
   (∀t,Rel E (fR ops (fun i=>listed.getD i false) r F0 ops.size t) (a.tmps.getD t undef))->Emb E (eh q ops (fun i=>listed.getD i false) h H0 ops.size) w->wpAny P .any ops (LiftQ N n Q E0) fuel listed a w:=by
 intro fuel
 induction fuel with
 | zero =>
  intro listed E w a hs hu hc hl hn h2 h3 h4 h5
  have hall:∀i,i<ops.size->listed.getD i false=true:=fun i hi=>by
   have hi':i<listed.toList.length:=by simp;omega
   have:=List.countP_eq_zero.1 hu listed.toList[i] (List.getElem_mem hi')
   simp at this
   simp[hs,hi,this]
  have hready:Region.ready .any ops listed=[]:=by
   apply List.eq_nil_iff_forall_not_mem.2
   intro j hj
   obtain⟨h0,o,ho,-⟩:=mem_ready.1 hj
   have hj':=(Array.getElem?_eq_some_iff.1 ho).1
   have:=hall j hj'
   simp[hs,hj'] at h0 this
   rw[this] at h0;cases h0
  refine⟨hready,E,fr ops.size,h ops.size,hQ,hl,h2,h3,fun t=>?_,?_⟩
  ·have:=h4 t
   rwa [gr (L':=fun _=>true) ops.size (fun i hi _=>hall i hi),lj st t ops.size (Nat.le_refl _)] at this
  rwa [eJ (L':=fun _=>true) ops.size (fun i hi _=>hall i hi),ig st ops.size (Nat.le_refl _)] at h5
 | succ fuel ih =>
  intro listed E w a hs hu hc hl hn h2 h3 h4 h5
  refine⟨fun hr=>?_,fun j hj=>?_⟩
  ·-- none is ready: all are listed
   exfalso
   have hall:∀i,i<ops.size->listed.getD i false=true:=by
    intro i
    induction i using Nat.strongRecOn with
    | _ i ihi =>
     intro hi
     cases hli:listed.getD i false with
     |true=>rfl
     | false =>
      exfalso
      have ho:ops[i]? = some ops[i]:=Array.getElem?_eq_getElem hi
      have:i∈Region.ready .any ops listed:=mem_ready.2 ⟨by simp[hs,hi] at hli ⊢;exact hli,_,ho,fun e he hb=>by
       have hlt:=hok.back i _ e ho he hb
       exact ihi e.on hlt (by omega)⟩
      rw[hr] at this;cases this
   have:unl listed.toList=0:=List.countP_eq_zero.2 fun b hb=>by
    obtain⟨i,hi⟩:=List.mem_iff_getElem?.1 hb
    have hi':=getElem?_lt hi
    have:=hall i (by simp at hi';omega)
    simp at hi hi'
    rw[Array.getD_eq_getD_getElem?,hi] at this
    simpa using this
   omega
  obtain⟨hj0,o,ho,hed⟩:=mem_ready.1 hj
  have hj':=(Array.getElem?_eq_some_iff.1 ho).1
  have hjl:listed.getD j false=false:=by simp[hs,hj'] at hj0 ⊢;exact hj0
  have hedge:∀o' e,ops[j]? = some o'->e∈o'.after->Region.binds .any e=true->listed.getD e.on false=true:=fun o' e ho' he hb=>by
   rw[ho] at ho';simp at ho';subst ho';exact hed e he hb
  have predL:∀i,Pred ops i j->listed.getD i false=true:=fun i hp=>Pred.listed hc hp hedge
  have notL:∀i,Pred ops j i->listed.getD i false=false:=fun i hp=>by
   cases hli:listed.getD i false with
   |false=>rfl
   | true =>
    have:=Pred.listed hc hp (fun o' e ho' he hb=>hc i o' e ho' hli he hb)
    rw[hjl] at this;cases this
  have order:∀i,i≠j->(Pred ops i j\/Pred ops j i)->listed.getD i false=decide (i<j):=fun i hij hp=>by
   rcases hp with hp|hp
   ·rw[predL i hp];have:=hp.lt hok;simp[this]
   rw[notL i hp];have:=hp.lt hok;symm;simp;omega
  -- the slots that the operation looks at
  have slots:∀t∈o.looksAt ops,Rel E (look (fr j) t) (a.tmps.getD t undef):=fun t ht=>by
   have:=h4 t
   rw [gr (L':=fun i=>decide (i<j)) ops.size (fun i hi hd=>by
    by_cases hij:i=j
    ·subst hij;rw[hjl];simp
    cases hoi:ops[i]? with
    |none=>rw[hoi] at hd;cases hd
    | some b =>
     rw[hoi] at hd
     exact order i hij (hok.look i j b o t hoi ho hij (by simpa using hd) ht)),nn ops.size (by omega),lj st t j (by omega)] at this
   exact this
  have mem:c8 o.op=false->dz o.op=false->eh q ops (fun i=>listed.getD i false) h H0 ops.size=h j:=fun hp hnr=>by
   rw [eJ (L':=fun i=>decide (i<j)) ops.size (fun i hi hd=>by
    by_cases hij:i=j
    ·subst hij;rw[hjl];simp
    cases hoi:ops[i]? with
    |none=>rw[hoi] at hd;cases hd
    | some b =>
     rw[hoi] at hd
     exact order i hij ((hok.chg i j b o hoi ho hij (by simpa using hd) hp).resolve_right fun hh=>by rw[hnr] at hh;cases hh.2)),iK ops.size (by omega),ig st j (by omega)]
  have memS:c8 o.op=false->no q ops->eh q ops (fun i=>listed.getD i false) h H0 ops.size=h j:=fun hp hz=>by
   rw [eJ (L':=fun i=>decide (i<j)) ops.size (fun i hi hd=>by
    by_cases hij:i=j
    ·subst hij;rw[hjl];simp
    cases hoi:ops[i]? with
    |none=>rw[hoi] at hd;cases hd
    | some b =>
     rw[hoi] at hd
     exact order i hij (hz i j b o hoi ho hij (by simpa using hd) hp)),iK ops.size (by omega),ig st j (by omega)]
  have memR:m<=H0.length->dz o.op=true->∀b,b<m->(eh q ops (fun i=>listed.getD i false) h H0 ops.size)[b]? = (h j)[b]? :=fun hm hrd b hb=>by
   have hnp:c8 o.op=false:=rR hrd
   obtain⟨s,hs1,hs2,hs3,hs4⟩:=curH_is (q:=q) (ops:=ops) (L:=fun i=>listed.getD i false) (h:=h) (H:=H0) st.h0 ops.size
   have hnew:∀i c,ops[i]? = some c->c9 q c.op=true->i≠j->listed.getD i false≠decide (i<j)->kExt ops i c.op=true:=fun i c hi hc' hij hne=>by
    rcases hok.chg i j c o hi ho hij hc' hnp with h1|h1
    ·exact absurd (order i hij h1) hne
    exact h1.1
   rw[hs2]
   have hjc:c9 q o.op=false:=by
    cases hh:c9 q o.op with
    |false=>rfl
    |true=>have:=ii hh;rw[hrd] at this;cases this
   rcases Nat.le_total s j with hsj|hsj
   ·have hl:=h_keep st (fun k hk=>Nat.le_trans hm (h_mono st k hk)) (j-s) s (by omega) (fun i c hi1 hi2 hi hc'=>hnew i c hi hc' (by omega) (by
     rw[hs4 i c hi1 (by omega) hi hc'];simp;omega)) b hb
    rw[show s+(j-s)=j by omega] at hl
    exact hl.symm
   have hL:∀i c,j<=i->i<s->ops[i]? = some c->c9 q c.op=true->listed.getD i false=true:=fun i c hi1 hi2 hi hc'=>by
    rcases hs3 with h0|⟨c2,k1,k2,k3⟩
    ·omega
    by_cases e:i=s-1
    ·rw[e];exact k2
    have h2:dz c2.op=false:=ii k3
    have h3:c8 c2.op=false:=by
     cases hp:c8 c2.op with
     |false=>rfl
     |true=>rw[jr hp] at k3;cases k3
    rcases hok.chg i (s-1) c c2 hi k1 e hc' h3 with (h4|h4)|h4
    ·exact Pred.listed hc h4 fun o' e' ho' he' hb'=>hc (s-1) o' e' ho' k2 he' hb'
    ·have:=h4.lt hok;omega
    rw[h2] at h4;cases h4.2
   have hl:=h_keep st (fun k hk=>Nat.le_trans hm (h_mono st k hk)) (s-j) j (by omega) (fun i c hi1 hi2 hi hc'=>by
    have hij:i≠j:=fun e=>by subst e;rw[ho] at hi;simp at hi;subst hi;rw[hjc] at hc';cases hc'
    exact hnew i c hi hc' hij (by rw[hL i c hi1 (by omega) hi hc'];simp;omega)) b hb
   rw[show j+(s-j)=s by omega] at hl
   exact hl
  -- what comes next
  have get':∀i,(listed.setIfInBounds j true).getD i false=if i=j then true else listed.getD i false:=fun i=>by
   by_cases e:i=j
   ·subst e;simp[hs,hj']
   rw[if_neg e,getD_set_ne false (fun e'=>e e'.symm)]
  have closed':Closed ops (fun i=>(listed.setIfInBounds j true).getD i false):=fun i o' e ho' hli he hb=>by
   simp only[get'] at hli ⊢
   by_cases eij:i=j
   ·subst eij
    split
    ·rfl
    exact hedge o' e ho' he hb
   rw[if_neg eij] at hli
   split
   ·rfl
   exact hc i o' e ho' hli he hb
  have unl':unl (listed.setIfInBounds j true).toList=fuel:=by
   have:=unl_set (l:=listed.toList) (k:=j) (by simp;omega) (by
    rw[Array.getElem?_toList]
    rw[Array.getD_eq_getD_getElem?] at hjl
    cases hq:listed[j]? with
    |none=>have:=Array.getElem?_eq_none_iff.1 hq;omega
    |some b=>rw[hq] at hjl;simp at hjl;rw[hjl])
   rw[Array.toList_setIfInBounds]
   omega
  have heap':∀H',(c9 q o.op=true->H'=h (j+1))->(c9 q o.op=false->H'=eh q ops (fun i=>listed.getD i false) h H0 ops.size)->eh q ops (fun i=>(listed.setIfInBounds j true).getD i false) h H0 ops.size=H':=fun H' k1 k2=>by
   cases hcg:c9 q o.op with
   | false =>
    rw[k2 hcg]
    exact eJ _ fun i hi hd=>by
     simp only[get']
     by_cases e:i=j
     ·subst e;rw[ho] at hd;simp[hcg] at hd
     rw[if_neg e]
   | true =>
    rw[k1 hcg]
    have hnp:c8 o.op=false:=by
     cases hp:c8 o.op with
     |false=>rfl
     |true=>have:=jr (q:=q) hp;rw[hcg] at this;cases this
    have hnr:=ii hcg
    rw [eJ (L':=fun i=>decide (i<j+1)) ops.size (fun i hi hd=>by
     simp only[get']
     by_cases e:i=j
     ·subst e;simp
     rw[if_neg e]
     cases hoi:ops[i]? with
     |none=>rw[hoi] at hd;cases hd
     | some b =>
      rw[hoi] at hd
      rw[order i e ((hok.chg i j b o hoi ho e (by simpa using hd) hnp).resolve_right fun hh=>by rw[hnr] at hh;cases hh.2)]
      simp only[decide_eq_decide]
      omega),iK ops.size (by omega),ig st (j+1) (by omega)]
  have next:∀(E':Env) (w':World) (v:Value),E.le E'->Rel E' (r j) v->Emb E' (eh q ops (fun i=>(listed.setIfInBounds j true).getD i false) h H0 ops.size) w' ->
    wpAny P .any ops (LiftQ N n Q E0) fuel (listed.setIfInBounds j true) (a.put o.dst v) w':=fun E' w' v hle hv hE'=>by
   have hput:(a.put o.dst v).tmps.size=N/\(a.put o.dst v).defers=[]:=by
    cases o.dst with
    |none=>exact⟨h2,h3⟩
    |some d=>exact⟨by simp[Act.put,h2],h3⟩
   refine ih _ E' w' _ (by simp[hs]) unl' closed' (hl.trans (hle.leN hn)) (Nat.le_trans hn hle.n) hput.1 hput.2 (fun t=>?_) hE'
   by_cases hd:o.dst=some t
   ·-- the slot that has been written
    have htN:=hok.dst j o t ho hd
    have e1:fR ops (fun i=>(listed.setIfInBounds j true).getD i false) r F0 ops.size t=r j:=by
     have gen:∀k,j<k->k<=ops.size->fR ops (fun i=>(listed.setIfInBounds j true).getD i false) r F0 k t=r j:=by
      intro k
      induction k with
      |zero=>intro h0;omega
      | succ k ihk =>
       intro hjk hk
       rw[lh]
       by_cases e:k=j
       ·subst e
        rw[if_pos ⟨by simp only[get'];simp,by rw[ho];exact hd⟩]
       rw [if_neg (fun hh=>by
        cases hok':ops[k]? with
        |none=>rw[hok'] at hh;cases hh.2
        |some b=>rw[hok'] at hh;exact hok.one j k o b t ho hok' (fun e'=>e e'.symm) hd (by simpa using hh.2))]
       exact ihk (by omega) (by omega)
     exact gen ops.size hj' (Nat.le_refl _)
    rw[e1,hd]
    simp only[Act.put]
    rw[Array.getD_eq_getD_getElem?,Array.getElem?_setIfInBounds_self_of_lt (by rw[h2];exact htN)]
    exact hv
   have e1:fR ops (fun i=>(listed.setIfInBounds j true).getD i false) r F0 ops.size t=fR ops (fun i=>listed.getD i false) r F0 ops.size t:=gr _ fun i hi hdi=>by
    simp only[get']
    by_cases e:i=j
    ·subst e;rw[ho] at hdi;exact absurd (by simpa using hdi) hd
    rw[if_neg e]
   rw[e1]
   have e2:(a.put o.dst v).tmps.getD t undef=a.tmps.getD t undef:=by
    cases hod:o.dst with
    |none=>rfl
    | some d =>
     have:d≠t:=fun e=>hd (by rw[hod,e])
     simp only[Act.put,Array.getD_eq_getD_getElem?,Array.getElem?_setIfInBounds_ne this]
   rw[e2]
   exact(h4 t).mono hle
  obtain⟨-,hstep⟩:=st.step j o (by omega) ho
  have hwant:∀b,gd ops (fr j) o=some b->Region.wanted o (yielded ops a.tmps)=b:=fun b hb=>gd_spec hb fun t ⟨g,hg1,hg2⟩=>slots t (by
   unfold Oper.looksAt
   rw[hg1]
   obtain⟨g1,g2⟩:=g
   simp only at hg2 ⊢
   rw[hg2]
   simp)
  have hops:∀x∈o.op.operands,Rel E (aev (fr j) x) (a.eval x):=fun x hx=>by
   cases x with
   |tmp t=>exact slots t (List.mem_append_left _ (List.mem_filterMap.2 ⟨.tmp t,by simpa using hx,rfl⟩))
   |const v=>exact mh E v
   |global g=>exact .any _
   |func f=>exact RelL.fn (RelL.nil E)
  unfold wpOp
  rw[ho]
  simp only
  rcases hstep with ⟨hg,hdo⟩|⟨hg,hr0,hh0⟩
  ·rw[if_pos (hwant true hg)]
   left
   unfold Oper.wp
   unfold DoOp at hdo
   cases hcal:aj o.op (fr j) with
   | some p =>
    rw[hcal] at hdo
    obtain⟨hokf,hqk,_,hcall⟩:=hdo
    have hnp:c8 o.op=false:=by
     cases hp:c8 o.op with
     |false=>rfl
     |true=>rw[qa hp] at hcal;cases hcal
    have hnr:dz o.op=false:=by
     cases hr:dz o.op with
     |false=>rfl
     |true=>rw[qc hr] at hcal;cases hcal
    obtain⟨vs,hrun,hvs⟩:=run_callOp hops (f:=p.1) (args:=p.2) hcal hokf w
    rw[hrun,Oper.upon_enter]
    rw[mem hnp hnr] at h5
    refine(hcall E w vs h5 hvs).mono ?_
    rintro e w' ⟨E',v,H',x,rfl,⟨rfl,rfl⟩,hle,hv,hE'⟩
    refine next E' w' v hle hv ?_
    rw[heap' (h (j+1)) (fun _=>rfl) (fun hcf=>by rw[mem hnp hnr];exact gt st ho hcf)]
    exact hE'
   | none =>
    rw[hcal] at hdo
    obtain⟨hlate,hdo⟩:=hdo
    have fin:∀Hc H',aop P o.op (fr j) Hc=some (r j,H')->Emb E Hc w->eh q ops (fun i=>(listed.setIfInBounds j true).getD i false) h H0 ops.size=H'->o.upon P a (wpAny P .any ops (LiftQ N n Q E0) fuel (listed.setIfInBounds j true)) (LiftQ N n Q E0) ((execOp a.eval o).run P w):=fun Hc H' ha hEc hH'=>by
     obtain⟨E',nx,w',hrun,hn',hle,hE'⟩:=snd_op hEc o hops ha
     rw[hrun]
     rcases hn' with ⟨rfl,hany⟩|⟨v,rfl,hv⟩
     ·rw[Oper.upon_skip]
      exact next E' w' undef hle (by simp only at hany;rw[hany];exact .any _) (by rw[hH'];exact hE')
     rw[Oper.upon_value]
     exact next E' w' v hle hv (by rw[hH'];exact hE')
    cases hp:c8 o.op with
    | true =>
     obtain⟨-,p2⟩:=iJ hp hdo
     exact fin _ _ (p2 _) h5 (heap' _ (fun hc'=>by rw[jr hp] at hc';cases hc') (fun _=>rfl))
    | false =>
     cases hrd:dz o.op with
     | false =>
      rw[mem hp hrd] at h5
      exact fin _ _ hdo h5 (heap' _ (fun _=>rfl) (fun hcf=>by rw[mem hp hrd];exact gt st ho hcf))
     | true =>
      rcases hmz with hm|hz
      ·refine fin _ _ (load_same hrd hlate hdo fun b hb=>?_) h5 (heap' _ (fun hc'=>by have:=ii hc';rw[hrd] at this;cases this) (fun _=>rfl))
       exact memR hm hrd b hb
      rw[memS hp hz] at h5
      exact fin _ _ hdo h5 (heap' _ (fun _=>rfl) (fun hcf=>by rw[memS hp hz];exact gt st ho hcf))
  rw[if_neg (by rw[hwant false hg];simp)]
  refine next E w undef (.refl E) (by rw[hr0];exact oU E) ?_
  rw [heap' (eh q ops (fun i=>listed.getD i false) h H0 ops.size) (fun hc'=>by
   have hnp:c8 o.op=false:=by
    cases hp:c8 o.op with
    |false=>rfl
    |true=>rw[jr hp] at hc';cases hc'
   rw[mem hnp (ii hc'),hh0]) (fun _=>rfl)]
  exact h5
theorem mD (q:Bool){F:Fr}{H:aa}(hok:gq q N ops=true)(hmz:m<=H.length\/no q ops)(hh:g7 P q m ops ops.toList F H (fun F' H'=>Q .normal F' H')){E:Env}{w:World}{a:Act}(h1:n<=E.n)(h2:a.tmps.size=N)(h3:a.defers=[])(h4:FrRel E F a)(h5:Emb E H w):
  wpAny P .any ops (LiftQ N n Q E) ops.size (Array.replicate ops.size false) a w.drew:=by
 obtain⟨r,h,fr,st,hQ⟩:=ml ops.toList 0 rfl F H hh
 rw[Nat.zero_add,Array.length_toList] at hQ
 have hok':=rE hok
 have hL:∀i,(Array.replicate ops.size false).getD i false=false:=fun i=>by
  rw[Array.getD_eq_getD_getElem?]
  cases hq:(Array.replicate ops.size false)[i]? with
  |none=>rfl
  |some b=>rw[Array.getElem?_replicate] at hq;split at hq<;>simp at hq;subst hq;rfl
 have v0:∀k t,fR ops (fun i=>(Array.replicate ops.size false).getD i false) r F k t=look F t:=fun k t=>by
  induction k with
  |zero=>rfl
  |succ k ih=>rw[lh,if_neg (fun hh=>by have:=hh.1;rw[hL] at this;cases this),ih]
 have m0:∀k,eh q ops (fun i=>(Array.replicate ops.size false).getD i false) h H k=H:=fun k=>by
  induction k with
  |zero=>rfl
  |succ k ih=>rw[li,if_neg (fun hh=>by have:=hh.1;rw[hL] at this;cases this),ih]
 refine drawn_aux (E0:=E) hmz hok' st hQ ops.size _ E w.drew a (by simp) ?_ (fun j o e ho hl=>by simp only[hL] at hl;cases hl) ((Env.le.refl E).leN h1) h1 h2 h3 (fun t=>by rw[v0];exact h4 t) (by rw[m0];exact h5.drew)
 simp[unl,List.countP_replicate]
theorem AW_draw (q:Bool){id:Nat}{F:Fr}{H:aa}(hm:P.follows .mixedOrders=true)(hok:gq q N ops=true)(hh:g7 P q H.length ops ops.toList F H (fun F' H'=>Q .normal F' H')):AW P N n (.region id ops true) Q F H:=by
 intro E w a h1 h2 h3 h4 h5
 exact wp_region_any hm (mD q hok (.inl (Nat.le_refl _)) hh h1 h2 h3 h4 h5)
theorem AW_drawM (q:Bool){id:Nat}{F:Fr}{H:aa}(hm:P.follows .mixedOrders=true)(hok:gq q N ops=true)(hml:m<=H.length)(hh:g7 P q m ops ops.toList F H (fun F' H'=>Q .normal F' H')):AW P N n (.region id ops true) Q F H:=by
 intro E w a h1 h2 h3 h4 h5
 exact wp_region_any hm (mD q hok (.inl hml) hh h1 h2 h3 h4 h5)
end

mutual
def AV.mv (σ:Nat->Nat):AV->AV
 |.any=>.any
 |.int k n=>.int k n
 |.bool b=>.bool b
 |.str s=>.str s
 |.ptr none=>.ptr none
 |.ptr (some (b,o))=>.ptr (some (σ b,o))
 |.sl none n c=>.sl none n c
 |.sl (some (b,o)) n c=>.sl (some (σ b,o)) n c
 |.mp none=>.mp none
 |.mp (some b)=>.mp (some (σ b))
 |.fn f caps=>.fn f (AV.mvs σ caps)
 |.nilfn=>.nilfn
 |.agg cs=>.agg (AV.mvs σ cs)
 |.tup vs=>.tup (AV.mvs σ vs)
def AV.mvs (σ:Nat->Nat):List AV->List AV
 |[]=>[]
 |x::r=>x.mv σ::AV.mvs σ r
end
mutual
def AV.bel (n:Nat):AV->Bool
 |.ptr (some (b,_))=>decide (b<n)
 |.sl (some (b,_)) _ _=>decide (b<n)
 |.mp (some b)=>decide (b<n)
 |.fn _ caps=>AV.bels n caps
 |.agg cs=>AV.bels n cs
 |.tup vs=>AV.bels n vs
 |_=>true
def AV.bels (n:Nat):List AV->Bool
 |[]=>true
 |x::r=>x.bel n&&AV.bels n r
end
theorem AV.mvs_eq (σ:Nat->Nat):∀xs:List AV,AV.mvs σ xs=xs.map (AV.mv σ)
 |[]=>rfl
 |x::r=>by simp[AV.mvs,AV.mvs_eq σ r]
theorem AV.bels_eq (n:Nat):∀xs:List AV,AV.bels n xs=xs.all (AV.bel n)
 |[]=>rfl
 |x::r=>by simp[AV.bels,AV.bels_eq n r]
mutual
theorem lI {n:Nat}{σ:Nat->Nat}(h:∀b,b<n->σ b=b):∀x:AV,x.bel n=true->x.mv σ=x
 |.any,_=>rfl
 |.int _ _,_=>rfl
 |.bool _,_=>rfl
 |.str _,_=>rfl
 |.ptr none,_=>rfl
 |.ptr (some (b,o)),hb=>by simp[AV.bel] at hb;simp[AV.mv,h b hb]
 |.sl none _ _,_=>rfl
 |.sl (some (b,o)) _ _,hb=>by simp[AV.bel] at hb;simp[AV.mv,h b hb]
 |.mp none,_=>rfl
 |.mp (some b),hb=>by simp[AV.bel] at hb;simp[AV.mv,h b hb]
 |.nilfn,_=>rfl
 |.fn f caps,hb=>by simp only[AV.bel] at hb;simp only[AV.mv,jG h caps hb]
 |.agg cs,hb=>by simp only[AV.bel] at hb;simp only[AV.mv,jG h cs hb]
 |.tup cs,hb=>by simp only[AV.bel] at hb;simp only[AV.mv,jG h cs hb]
theorem jG {n:Nat}{σ:Nat->Nat}(h:∀b,b<n->σ b=b):∀xs:List AV,AV.bels n xs=true->AV.mvs σ xs=xs
 |[],_=>rfl
 | x::r,hb=>by
  simp only[AV.bels,Bool.and_eq_true] at hb
  simp only[AV.mvs,lI h x hb.1,jG h r hb.2]
end
mutual
theorem rel_mv {E E':Env}{σ:Nat->Nat}(hl:∀b,E'.loc b=E.loc (σ b))(hn:∀b,σ b<E.n->b<E'.n):∀(x:AV) (v:Value),Rel E (x.mv σ) v->Rel E' x v
 |.any,v,_=>.any v
 |.int _ _,v,h=>by simp only[AV.mv] at h;cases h;exact .int _ _
 |.bool _,v,h=>by simp only[AV.mv] at h;cases h;exact .bool _
 |.str _,v,h=>by simp only[AV.mv] at h;cases h;exact .str _
 |.ptr none,v,h=>by simp only[AV.mv] at h;cases h;exact .nilptr
 | .ptr (some (b,o)),v,h=>by
  simp only[AV.mv] at h
  cases h with
  |ptr _ _ hb=>rw[<-hl];exact .ptr b o (hn b hb)
 |.sl none _ _,v,h=>by simp only[AV.mv] at h;cases h;exact .nilsl
 | .sl (some (b,o)) n c,v,h=>by
  simp only[AV.mv] at h
  cases h with
  |nils _ _ hb hc=>exact .nils b c (hn b hb) hc
  |sl _ _ _ _ q a hb h1 h2 h3 h4 h5=>exact .sl b o n c q a (hn b hb) h1 h2 h3 (by rw[hl];exact h4) (by rw[hl];exact h5)
 |.mp none,v,h=>by simp only[AV.mv] at h;cases h;exact .nilmp
 | .mp (some b),v,h=>by
  simp only[AV.mv] at h
  cases h with
  |mp _ hb=>rw[<-hl];exact .mp b (hn b hb)
 |.nilfn,v,h=>by simp only[AV.mv] at h;cases h;exact .nilfn
 | .fn f caps,v,h=>by
  simp only[AV.mv] at h
  cases h with
  | fn _ _ cs h1 h2 =>
   have:=gk hl hn caps cs.toList ⟨by simpa using h1,fun i x v hx hv=>h2 i x v hx (by simpa using hv)⟩
   have:=this.fn (f:=f)
   simpa using this
 | .agg xs,v,h=>by
  simp only[AV.mv] at h
  obtain⟨vs,rfl,hr⟩:=df h
  exact(gk hl hn xs vs hr).agg
 | .tup xs,v,h=>by
  simp only[AV.mv] at h
  cases h with
  | tup _ cs h1 h2 =>
   have:=(gk hl hn xs cs.toList ⟨by simpa using h1,fun i x v hx hv=>h2 i x v hx (by simpa using hv)⟩).tup
   simpa using this
theorem gk {E E':Env}{σ:Nat->Nat}(hl:∀b,E'.loc b=E.loc (σ b))(hn:∀b,σ b<E.n->b<E'.n):∀(xs:List AV) (vs:List Value),RelL E (AV.mvs σ xs) vs->RelL E' xs vs
 | [],vs,h=>by
  have:vs=[]:=List.length_eq_zero_iff.1 (by have:=h.1;simpa [AV.mvs] using this.symm)
  subst this
  exact RelL.nil E'
 |x::r,[],h=>by have:=h.1;simp[AV.mvs] at this
 | x::r,v::vs,h=>by
  simp only[AV.mvs] at h
  obtain⟨h1,h2⟩:=h.uncons
  exact .cons (rel_mv hl hn x v h1) (gk hl hn r vs h2)
end
mutual
theorem rel_bel {E:Env}:∀(x:AV) (v:Value),Rel E x v->x.bel E.n=true
 |.any,v,_=>rfl
 |.int _ _,v,h=>rfl
 |.bool _,v,h=>rfl
 |.str _,v,h=>rfl
 |.ptr none,v,h=>rfl
 |.ptr (some (b,o)),v,h=>by cases h with|ptr _ _ hb=>simp[AV.bel,hb]
 |.sl none _ _,v,h=>rfl
 |.sl (some (b,o)) n c,v,h=>by cases h with|nils _ _ hb=>simp[AV.bel,hb]|sl _ _ _ _ q a hb=>simp[AV.bel,hb]
 |.mp none,v,h=>rfl
 |.mp (some b),v,h=>by cases h with|mp _ hb=>simp[AV.bel,hb]
 |.nilfn,v,h=>rfl
 | .fn f caps,v,h=>by
  cases h with
  | fn _ _ cs h1 h2 =>
   simp only[AV.bel]
   exact fx caps cs.toList ⟨by simpa using h1,fun i x v hx hv=>h2 i x v hx (by simpa using hv)⟩
 | .agg xs,v,h=>by
  obtain⟨vs,rfl,hr⟩:=df h
  simp only[AV.bel]
  exact fx xs vs hr
 | .tup xs,v,h=>by
  cases h with
  | tup _ cs h1 h2 =>
   simp only[AV.bel]
   exact fx xs cs.toList ⟨by simpa using h1,fun i x v hx hv=>h2 i x v hx (by simpa using hv)⟩
theorem fx {E:Env}:∀(xs:List AV) (vs:List Value),RelL E xs vs->AV.bels E.n xs=true
 |[],vs,h=>rfl
 |x::r,[],h=>by have:=h.1;simp at this
 | x::r,v::vs,h=>by
  obtain⟨h1,h2⟩:=h.uncons
  simp only[AV.bels,Bool.and_eq_true]
  exact⟨rel_bel x v h1,fx r vs h2⟩
end
def ABlk.bel (n:Nat):ABlk->Bool
 |.dead=>true
 |.cells _ _ xs=>AV.bels n xs
 |.map es=>AV.bels n (es.map (·.1))&&AV.bels n (es.map (·.2))
 |.fmap es _ _=>AV.bels n (es.map (·.1))&&AV.bels n (es.map (·.2))
 |.iter m _ _ _=>decide (m<n)
def ABlk.mv (σ:Nat->Nat):ABlk->ABlk
 |.dead=>.dead
 |.cells o e xs=>.cells o e (AV.mvs σ xs)
 |.map es=>.map (es.map fun p=>(p.1.mv σ,p.2.mv σ))
 |.fmap es bs ck=>.fmap (es.map fun p=>(p.1.mv σ,p.2.mv σ)) bs ck
 |.iter m bs sn ck=>.iter (σ m) bs sn ck
def HBel (n:Nat) (H:aa):Prop:=∀(b:Nat) (x:ABlk),H[b]? = some x->x.bel n=true
theorem Emb.bel {E:Env}{H:aa}{w:World}(h:Emb E H w):HBel H.length H:=fun b x hx=>by
 rw[<-h.n]
 have hk:=h.blk b x hx
 cases x with
 |dead=>rfl
 | cells own es xs =>
  simp only[ABlk.bel]
  rw[AV.bels_eq,List.all_eq_true]
  intro y hy
  obtain⟨j,hj⟩:=List.mem_iff_getElem?.1 hy
  obtain⟨-,v,-,hr⟩:=hk.1 j y hj
  exact rel_bel y v hr
 | map es =>
  obtain⟨-,-,ents,clock,-,h4,h5,-⟩:=hk
  simp only[ABlk.bel,Bool.and_eq_true]
  exact⟨fx _ _ h4,fx _ _ h5⟩
 | fmap es bs ck =>
  obtain⟨-,-,ents,-,h4,h5,-⟩:=hk
  simp only[ABlk.bel,Bool.and_eq_true]
  exact⟨fx _ _ h4,fx _ _ h5⟩
 |iter m bs sn ck=>exact decide_eq_true hk.2.2.1
theorem np {E E':Env}{σ:Nat->Nat}(hB:E'.B=E.B)(hl:∀b,E'.loc b=E.loc (σ b))(hn:∀b,σ b<E.n->b<E'.n){w:World}{L:Loc}:∀{x:ABlk},BlkOk E w L (x.mv σ)->BlkOk E' w L x
 |.dead,_=>trivial
 | .cells own es xs,h=>by
  simp only[ABlk.mv] at h
  obtain⟨h1,h2,h3,h4⟩:=h
  refine⟨fun j y hj=>?_,fun ho=>?_,fun ho hlen=>?_,h4⟩
  ·obtain⟨a1,v,a2,a3⟩:=h1 j (y.mv σ) (by rw[AV.mvs_eq,List.getElem?_map,hj];rfl)
   exact⟨by cases y<;>simp[AV.mv,AV.one] at a1 ⊢,v,a2,rel_mv hl hn y v a3⟩
  ·rw[hB]
   have:=h2 ho
   rw[AV.mvs_eq,List.length_map] at this
   exact this
  rw[hB]
  exact h3 ho (by rw[AV.mvs_eq,List.length_map];exact hlen)
 | .map es,h=>by
  simp only[ABlk.mv] at h
  obtain⟨h1,h2,ents,clock,h3,h4,h5,h6⟩:=h
  refine⟨by rw[hB];exact h1,h2,ents,clock,h3,gk hl hn _ _ ?_,gk hl hn _ _ ?_,h6⟩
  ·rw[AV.mvs_eq];simpa [Function.comp_def] using h4
  rw[AV.mvs_eq];simpa [Function.comp_def] using h5
 | .fmap es bs ck,h=>by
  simp only[ABlk.mv] at h
  obtain⟨h1,h2,ents,h3,h4,h5,h6⟩:=h
  refine⟨by rw[hB];exact h1,h2,ents,h3,gk hl hn _ _ ?_,gk hl hn _ _ ?_,h6⟩
  ·rw[AV.mvs_eq];simpa [Function.comp_def] using h4
  rw[AV.mvs_eq];simpa [Function.comp_def] using h5
 | .iter m bs sn ck,h=>by
  simp only[ABlk.mv] at h
  obtain⟨h1,h2,h3,h4,h5,h6,h7⟩:=h
  exact⟨by rw[hB];exact h1,h2,hn m h3,h4,h5,h6,by rw[hl m];exact h7⟩
def Wc (m:Nat) (x y:AV):Prop:=x=y\/(∃b c,x=.sl none 0 (some 0)/\y=.sl (some (b,0)) 0 c/\b<m/\(c=none\/c=some 0))\/∃p n c,x=.sl (some p) n c/\y=.sl (some p) n none
theorem Wc.rel {E:Env}{m:Nat}{x y:AV}{v:Value}(hm:m<=E.n)(h:Wc m x y)(hx:Rel E x v):Rel E y v:=by
 rcases h with rfl|⟨b,c,rfl,rfl,hb,hc⟩|⟨p,n,c,rfl,rfl⟩
 ·exact hx
 ·cases hx;exact .nils _ _ (by omega) hc
 cases hx with
 |nils _ _ hb hc=>exact .nils _ none hb (.inl rfl)
 |sl _ _ _ _ q a hb h1 h2 h3 h4 h5=>exact .sl _ _ _ none q a hb h1 h2 (.inl rfl) h4 h5
theorem Wc.one {m:Nat}{x y:AV}(h:Wc m x y)(hx:x.one=true):y.one=true:=by
 rcases h with rfl|⟨b,c,rfl,rfl,hb,hc⟩|⟨p,n,c,rfl,rfl⟩
 ·exact hx
 ·rfl
 rfl
def Wcs (m:Nat):List AV->List AV->Prop
 |[],[]=>True
 |x::xs,y::ys=>Wc m x y/\Wcs m xs ys
 |_,_=>False
theorem Wcs.get {m:Nat}:∀{xs ys:List AV},Wcs m xs ys->xs.length=ys.length/\∀(i:Nat) (y:AV),ys[i]? = some y->∃x,xs[i]? = some x/\Wc m x y
 |[],[],_=>⟨rfl,fun i y h=>by simp at h⟩
 | x::xs,y::ys,h=>by
  obtain⟨h1,h2⟩:=Wcs.get h.2
  refine⟨by simp[h1],fun i u hu=>?_⟩
  cases i with
  |zero=>simp at hu;subst hu;exact⟨x,rfl,h.1⟩
  |succ i=>exact h2 i u (by simpa using hu)
 |[],_::_,h=>h.elim
 |_::_,[],h=>h.elim
mutual
def W (m:Nat):AV->AV->Prop
 |.agg xs,y=>y=.any\/(match y with | .agg ys=>Ws m xs ys|_=>False)
 |.tup xs,y=>y=.any\/(match y with | .tup ys=>Ws m xs ys|_=>False)
 |x,y=>y=.any\/Wc m x y
def Ws (m:Nat):List AV->List AV->Prop
 |[],ys=>(match ys with|[]=>True|_=>False)
 |x::xs,ys=>(match ys with|y::ys=>W m x y/\Ws m xs ys|[]=>False)
end
mutual
theorem W.refl {m:Nat}:∀(x:AV),W m x x
 |.agg xs=>.inr (Ws.refl xs)
 |.tup xs=>.inr (Ws.refl xs)
 |.any=>.inl rfl
 |.int _ _=>.inr (.inl rfl)
 |.bool _=>.inr (.inl rfl)
 |.str _=>.inr (.inl rfl)
 |.ptr _=>.inr (.inl rfl)
 |.sl _ _ _=>.inr (.inl rfl)
 |.mp _=>.inr (.inl rfl)
 |.fn _ _=>.inr (.inl rfl)
 |.nilfn=>.inr (.inl rfl)
theorem Ws.refl {m:Nat}:∀(xs:List AV),Ws m xs xs
 |[]=>trivial
 |x::xs=>⟨W.refl x,Ws.refl xs⟩
end
theorem W_any {m:Nat}:∀(x:AV),W m x .any
 |.agg _ | .tup _ | .any | .int _ _ | .bool _ | .str _ | .ptr _ | .sl _ _ _ | .mp _ | .fn _ _ | .nilfn=>.inl rfl
theorem lJ {m:Nat}{xs ys:List AV}:W m (.agg xs) (.agg ys)=Ws m xs ys:=by
 show (AV.agg ys=.any\/Ws m xs ys)=_
 simp
theorem lK {m:Nat}{xs ys:List AV}:W m (.tup xs) (.tup ys)=Ws m xs ys:=by
 show (AV.tup ys=.any\/Ws m xs ys)=_
 simp
theorem iP {m:Nat}{x y:AV}{xs ys:List AV}:Ws m (x::xs) (y::ys)=(W m x y/\Ws m xs ys):=rfl
theorem iQ {m:Nat}{x:AV}:W m x x=True:=eq_true (W.refl x)
theorem gE {m:Nat}{xs:List AV}:Ws m xs xs=True:=eq_true (Ws.refl xs)
theorem jH {m:Nat}{x:AV}:W m x .any=True:=eq_true (W_any x)
theorem d5 {m b:Nat}{c:Option Nat}(hb:b<m)(hc:c=none\/c=some 0):W m (.sl none 0 (some 0)) (.sl (some (b,0)) 0 c):=.inr (.inr (.inl ⟨b,c,rfl,rfl,hb,hc⟩))
theorem kg {m n:Nat}{p:Nat×Nat}{c:Option Nat}:W m (.sl (some p) n c) (.sl (some p) n none):=.inr (.inr (.inr ⟨p,n,c,rfl,rfl⟩))
theorem dA {m b:Nat}{c:Option Nat}(hb:b<m)(hc:c=none\/c=some 0):Wc m (.sl none 0 (some 0)) (.sl (some (b,0)) 0 c):=.inr (.inl ⟨b,c,rfl,rfl,hb,hc⟩)
theorem jb {m n:Nat}{p:Nat×Nat}{c:Option Nat}:Wc m (.sl (some p) n c) (.sl (some p) n none):=.inr (.inr ⟨p,n,c,rfl,rfl⟩)
theorem gF {m:Nat}{x:AV}:Wc m x x=True:=eq_true (.inl rfl)
theorem gG {m:Nat}{x y:AV}{xs ys:List AV}:Wcs m (x::xs) (y::ys)=(Wc m x y/\Wcs m xs ys):=rfl
theorem iR {m:Nat}:Wcs m [] []=True:=rfl
mutual
theorem rel_W {E:Env}{m:Nat}(hm:m<=E.n):∀(x y:AV) (v:Value),W m x y->Rel E x v->Rel E y v
 | .agg xs,y,v,h,hx=>by
  rcases h with rfl|h
  ·exact .any v
  cases y<;>first|exact h.elim|skip
  obtain⟨vs,rfl,hr⟩:=df hx
  exact(relL_W hm xs _ vs h hr).agg
 | .tup xs,y,v,h,hx=>by
  rcases h with rfl|h
  ·exact .any v
  cases y<;>first|exact h.elim|skip
  cases hx with
  | tup _ cs h1 h2 =>
   have:=(relL_W hm xs _ cs.toList h ⟨by simpa using h1,fun i x v hx hv=>h2 i x v hx (by simpa using hv)⟩).tup
   simpa using this
 |.any,y,v,h,hx=>by rcases h with rfl|h;exact .any v;exact h.rel hm hx
 |.int _ _,y,v,h,hx=>by rcases h with rfl|h;exact .any v;exact h.rel hm hx
 |.bool _,y,v,h,hx=>by rcases h with rfl|h;exact .any v;exact h.rel hm hx
 |.str _,y,v,h,hx=>by rcases h with rfl|h;exact .any v;exact h.rel hm hx
 |.ptr _,y,v,h,hx=>by rcases h with rfl|h;exact .any v;exact h.rel hm hx
 |.sl _ _ _,y,v,h,hx=>by rcases h with rfl|h;exact .any v;exact h.rel hm hx
 |.mp _,y,v,h,hx=>by rcases h with rfl|h;exact .any v;exact h.rel hm hx
 |.fn _ _,y,v,h,hx=>by rcases h with rfl|h;exact .any v;exact h.rel hm hx
 |.nilfn,y,v,h,hx=>by rcases h with rfl|h;exact .any v;exact h.rel hm hx
theorem relL_W {E:Env}{m:Nat}(hm:m<=E.n):∀(xs ys:List AV) (vs:List Value),Ws m xs ys->RelL E xs vs->RelL E ys vs
 |[],ys,vs,h,hr=>by cases ys<;>first|exact hr|exact h.elim
 | x :: xs,ys,vs,h,hr=>by
  cases ys with
  |nil=>exact h.elim
  | cons y ys =>
   cases vs with
   |nil=>have:=hr.1;simp at this
   | cons v vs =>
    obtain⟨h1,h2⟩:=hr.uncons
    exact .cons (rel_W hm x y v h.1 h1) (relL_W hm xs ys vs h.2 h2)
end
def BW (m:Nat) (a:Option ABlk) (x:ABlk):Prop :=
 match a,x with
 |some (.cells o e xs),.cells o' e' ys=>e=e'/\((xs=[]/\ys=[]/\o'=false)\/(o=o'/\Wcs m xs ys)\/(o=o'/\∃zs,xs=ys++zs))
 |_,_=>False
theorem BW.ok {E:Env}{m:Nat}(hm:m<=E.n){w:World}{L:Loc}{a x:ABlk}(h:BW m (some a) x)(ha:BlkOk E w L a):BlkOk E w L x:=by
 unfold BW at h
 split at h
 ·rename_i o e xs o' e' ys e1
  injection e1 with e1;subst e1
  obtain⟨rfl,h⟩:=h
  obtain⟨k1,k2,k3,k4⟩:=ha
  rcases h with ⟨rfl,rfl,rfl⟩|⟨rfl,h⟩|⟨rfl,zs,rfl⟩
  ·exact⟨fun j y hj=>by simp at hj,(fun h=>by cases h),fun _ h0=>by simp at h0,k4⟩
  rotate_left
  ·refine⟨fun j y hj=>k1 j y (by rw[List.getElem?_append_left (getElem?_lt hj)];exact hj),fun ho=>?_,fun ho hl=>k3 ho (by rw[List.length_append];omega),k4⟩
   obtain⟨a1,a2,a3,a4,a5⟩:=k2 ho
   rw[List.length_append] at a4
   exact⟨a1,a2,a3,by omega,a5⟩
  obtain⟨q1,q2⟩:=h.get
  refine⟨fun j y hj=>?_,fun ho=>?_,fun ho hl=>k3 ho (by omega),k4⟩
  ·obtain⟨x,hx,hw⟩:=q2 j y hj
   obtain⟨a1,v,a2,a3⟩:=k1 j x hx
   exact⟨hw.one a1,v,a2,hw.rel hm a3⟩
  rw[<-q1];exact k2 ho
 exact h.elim
theorem BW.own {m:Nat}{a:Option ABlk}{x:ABlk}(h:BW m a x)(ho:x.owned=true):∃y,a=some y/\y.owned=true:=by
 unfold BW at h
 split at h
 ·obtain⟨rfl,h⟩:=h
  rcases h with ⟨rfl,rfl,rfl⟩|⟨rfl,h⟩|⟨rfl,h⟩
  ·cases ho
  ·exact⟨_,rfl,ho⟩
  exact⟨_,rfl,ho⟩
 exact h.elim
theorem BW.emp {m e:Nat}{o:Bool}:BW m (some (.cells o e [])) (.cells false e []):=⟨rfl,.inl ⟨rfl,rfl,rfl⟩⟩
theorem BW.cells {m e:Nat}{o:Bool}{xs ys:List AV}(h:Wcs m xs ys):BW m (some (.cells o e xs)) (.cells o e ys):=⟨rfl,.inr (.inl ⟨rfl,h⟩)⟩
theorem BW.pre {m e:Nat}{o:Bool}{ys zs:List AV}:BW m (some (.cells o e (ys++zs))) (.cells o e ys):=⟨rfl,.inr (.inr ⟨rfl,zs,rfl⟩)⟩
def sig (n m:Nat) (sel:List Nat) (b:Nat):Nat:=if b<n then b else match sel[b-n]? with|some i=>n+i|none=>b+(n+m)
theorem Abs0.of {n:Nat}{H0 l1 l2:aa}{F1 F2:Fr}(hlen:H0.length=n) (hsc:HBel n H0) (sel:List Nat) (hnd:sel.Nodup)
  (hF:∀p∈F2,W (n+l1.length) (look F1 p.1) (p.2.mv (sig n l1.length sel))) (hl:l2.length=sel.length) (hH:∀(i b:Nat) (x:ABlk),sel[i]? = some b->l2[i]? = some x->x=.dead\/l1[b]? = some (x.mv (sig n l1.length sel))\/BW (n+l1.length) (l1[b]?) (x.mv (sig n l1.length sel))) :
  Abs0 n (sig n l1.length sel) F1 (H0++l1) F2 (H0++l2):=by
 have small:∀b,b<n->sig n l1.length sel b=b:=fun b hb=>by simp[sig,hb]
 have inr:∀E E':Env,E.n=(H0++l1).length->E'.n=(H0++l2).length->∀b,sig n l1.length sel b<E.n->b<E'.n:=fun E E' e1 e2 b hb=>by
  rw[e1] at hb
  rw[e2]
  simp only[List.length_append,hlen,hl] at hb ⊢
  unfold sig at hb
  split at hb
  ·omega
  split at hb
  ·rename_i h;have:=getElem?_lt h;omega
  omega
 have new:∀(b:Nat) (x:ABlk),¬b<n->(H0++l2)[b]? = some x->∃i,sel[b-n]? = some i/\sig n l1.length sel b=n+i/\l2[b-n]? = some x:=fun b x hb hx=>by
  rw[List.getElem?_append_right (by omega),hlen] at hx
  have:=getElem?_lt hx
  have h1:sel[b-n]? = some (sel[b-n]'(by omega)):=List.getElem?_eq_getElem _
  exact⟨_,h1,by unfold sig;rw[if_neg hb,h1],hx⟩
 refine⟨small,by simp[hlen],fun E E' e1 e2 e3 t v hv=>?_,fun E E' e1 e2 eB e3 w hw b x hx=>?_,fun b c x y hx hy ox oy hbc=>?_⟩
 ·have hlook:look F2 t=.any\/∃p∈F2,p.1=t/\look F2 t=p.2:=by
   clear hF
   induction F2 with
   |nil=>exact .inl rfl
   | cons p F2 ih =>
    obtain⟨s,y⟩:=p
    unfold look
    by_cases e:s=t
    ·subst e;simp
    have:(s==t)=false:=by simp[e]
    rw[this]
    simp only[cond_false]
    rcases ih with h|⟨p,h1,h2,h3⟩
    ·exact .inl h
    exact .inr ⟨p,by simp[h1],h2,h3⟩
  rcases hlook with h|⟨p,h1,rfl,h3⟩
  ·rw[h];exact .any v
  rw[h3]
  exact rel_mv e3 (inr E E' e1 e2) _ v (rel_W (by rw[e1,List.length_append,hlen];exact Nat.le_refl _) _ _ v (hF p h1) hv)
 ·by_cases hb:b<n
  ·rw[List.getElem?_append_left (by omega)] at hx
   have h1:=hw b x (by rw[List.getElem?_append_left (by omega)];exact hx)
   have hbel:=hsc b x hx
   have hmv:x.mv (sig n l1.length sel)=x:=by
    cases x with
    |dead=>rfl
    |cells o e xs=>simp only[ABlk.bel] at hbel;simp only[ABlk.mv,jG small xs hbel]
    | map es =>
     simp only[ABlk.bel,Bool.and_eq_true] at hbel
     simp only[ABlk.mv]
     congr 1
     obtain⟨q1,q2⟩:=hbel
     rw[AV.bels_eq,List.all_eq_true] at q1 q2
     have:es.map (fun p=>(p.1.mv (sig n l1.length sel),p.2.mv (sig n l1.length sel)))=es.map id:=List.map_congr_left fun p hp=>by
      rw[lI small p.1 (q1 _ (List.mem_map_of_mem hp)),lI small p.2 (q2 _ (List.mem_map_of_mem hp))]
      rfl
     rw[this,List.map_id]
    | fmap es bs ck =>
     simp only[ABlk.bel,Bool.and_eq_true] at hbel
     simp only[ABlk.mv]
     congr 1
     obtain⟨q1,q2⟩:=hbel
     rw[AV.bels_eq,List.all_eq_true] at q1 q2
     have:es.map (fun p=>(p.1.mv (sig n l1.length sel),p.2.mv (sig n l1.length sel)))=es.map id:=List.map_congr_left fun p hp=>by
      rw[lI small p.1 (q1 _ (List.mem_map_of_mem hp)),lI small p.2 (q2 _ (List.mem_map_of_mem hp))]
      rfl
     rw[this,List.map_id]
    |iter m bs sn ck=>simp only[ABlk.bel,decide_eq_true_eq] at hbel;simp only[ABlk.mv,small m hbel]
   rw[e3 b,small b hb]
   exact np eB e3 (inr E E' e1 e2) (by rw[hmv];exact h1)
  obtain⟨i,h1,h2,h3⟩:=new b x hb hx
  rcases hH _ i x h1 h3 with rfl|h4|h4
  ·trivial
  ·have h5:=hw (n+i) _ (by rw[List.getElem?_append_right (by omega),hlen,show n+i-n=i by omega];exact h4)
   rw[e3 b,h2]
   exact np eB e3 (inr E E' e1 e2) h5
  cases ha:l1[i]? with
  |none=>rw[ha] at h4;exact h4.elim
  |some a =>
  rw[ha] at h4
  have h5:=hw (n+i) a (by rw[List.getElem?_append_right (by omega),hlen,show n+i-n=i by omega];exact ha)
  rw[e3 b,h2]
  exact np eB e3 (inr E E' e1 e2) (h4.ok (by rw[e1,List.length_append,hlen];exact Nat.le_refl _) h5)
 have own:∀(b:Nat) (x:ABlk),(H0++l2)[b]? = some x->x.owned=true->∃x',(H0++l1)[sig n l1.length sel b]? = some x'/\x'.owned=true:=fun b x hx ho=>by
  by_cases hb:b<n
  ·rw[small b hb,List.getElem?_append_left (by omega)]
   rw[List.getElem?_append_left (by omega)] at hx
   exact⟨x,hx,ho⟩
  obtain⟨i,h1,h2,h3⟩:=new b x hb hx
  rcases hH _ i x h1 h3 with rfl|h4|h4
  ·cases ho
  rotate_left
  ·rw[h2,List.getElem?_append_right (by omega),hlen,show n+i-n=i by omega]
   exact h4.own (by cases x<;>exact ho)
  rw[h2,List.getElem?_append_right (by omega),hlen,show n+i-n=i by omega]
  exact⟨_,h4,by cases x<;>exact ho⟩
 refine⟨?_,own b x hx ox,own c y hy oy⟩
 by_cases hb:b<n<;>by_cases hc:c<n
 ·rw[small b hb,small c hc];exact hbc
 ·obtain⟨j,-,h2,-⟩:=new c y hc hy
  rw[small b hb,h2];omega
 ·obtain⟨i,-,h2,-⟩:=new b x hb hx
  rw[small c hc,h2];omega
 obtain⟨i,h1,h2,-⟩:=new b x hb hx
 obtain⟨j,h3,h4,-⟩:=new c y hc hy
 rw[h2,h4]
 intro e
 have hij:i=j:=by omega
 subst hij
 have hb1:=getElem?_lt h1
 have:=(List.getElem?_inj hb1 hnd).1 (h1.trans h3.symm)
 omega

theorem Abs.of {n:Nat}{H0 l1 l2:aa}{F1 F2:Fr}(G:aa) (hG:G.all gp=true) (hlen:H0.length=n) (hsc:HBel n H0) (sel:List Nat) (hnd:sel.Nodup)
  (hF:∀p∈F2,W (n+(l1++G).length) (look F1 p.1) (p.2.mv (sig n (l1++G).length sel))) (hl:l2.length=sel.length)
  (hH:∀(i b:Nat) (x:ABlk),sel[i]? = some b->l2[i]? = some x->x=.dead\/(l1++G)[b]? = some (x.mv (sig n (l1++G).length sel))\/BW (n+(l1++G).length) ((l1++G)[b]?) (x.mv (sig n (l1++G).length sel))) :
  Abs n (sig n (l1++G).length sel) F1 (H0++l1) F2 (H0++l2):=⟨G,hG,by rw[List.append_assoc];exact Abs0.of hlen hsc sel hnd hF hl hH⟩
section
section
variable {P:Program} {N:Nat} {H:aa}
def argF:Nat->List AV->Fr
 |_,[]=>[]
 |i,x::r=>(i,x)::argF (i+1) r
theorem o0:∀(xs:List AV) (i t:Nat),look (argF i xs) t=if i<=t then (xs[t-i]?).getD .any else .any
 |[],i,t=>by simp[argF,look]
 | x::r,i,t=>by
  unfold argF look
  by_cases e:i=t
  ·subst e;simp
  have:(i==t)=false:=by simp[e]
  rw[this,cond_false,o0 r (i+1) t]
  by_cases h:i+1<=t
  ·rw[if_pos h,if_pos (by omega),show t-i=t-(i+1)+1 by omega,List.getElem?_cons_succ]
  rw[if_neg h,if_neg (by omega)]
def aRes (P:Program):List ResultVar->Fr->aa->Option (List AV)
 |[],_,_=>some []
 |.tmp t::rs,F,H=>(aRes P rs F H).map fun l=>look F t::l
 |.cell a t::rs,F,H=>(aLoad P t (look F a) H).bind fun x=>(aRes P rs F H).map fun l=>x.1::l
def one1:List AV->AV
 |[x]=>x
 |l=>.tup l
def cW (P:Program) (fn:Func) (F:Fr) (H:aa):Option AV:=(aRes P fn.results.toList F H).map one1
theorem run_loadAt_same {E:Env}{w:World}(h:Emb E H w){t:TypeId}{x:AV}{v:Value}(hv:Rel E x v){r:AV×aa}(hr:aLoad P t x H=some r):∃u,(do loadVar t (<-asAddr v)).run P w=.ok u w/\Rel E r.1 u:=by
 unfold aLoad at hr
 split at hr
 ·rename_i b o
  cases hv with
  |ptr _ _ hb =>
  obtain⟨g,hg,hr⟩:=ag hr
  cases g
  ·simp only[cond_false,Option.map_eq_some_iff] at hr
   obtain⟨y,hy,rfl⟩:=hr
   obtain⟨-,u,hu,hru⟩:=p6 h hy
   exact⟨u,by simp[asAddr,loadVar,run_isAgg hg,hu],hru⟩
  simp only[cond_true] at hr
  obtain⟨n,hn,hr⟩:=ag hr
  simp only[Option.map_eq_some_iff] at hr
  obtain⟨l,hl,rfl⟩:=hr
  obtain⟨h1,-,vs,h2,h3⟩:=fv h hl
  have hrun:=run_loadCells' (P:=P) (w:=w) (E.loc b).blk ((E.loc b).off+o) vs h3
  rw[<-h2.1,h1] at hrun
  exact⟨_,by simp[asAddr,loadVar,run_isAgg hg,run_sizeOf' hn,hrun],h2.agg⟩
 cases hr
theorem run_aRes {E:Env}{w:World}(h:Emb E H w){F:Fr}{a:Act}(hF:FrRel E F a)(f:ResultVar->Sem Value)(f1:∀t,f (.tmp t)=Pure.pure (a.tmps.getD t undef))(f2:∀b t,f (.cell b t)=do loadVar t (<-asAddr (a.tmps.getD b undef))):∀(rs:List ResultVar) (l:List AV),aRes P rs F H=some l ->
  ∃vs:List Value,(rs.mapM f).run P w=.ok vs w/\RelL E l vs
 | [],l,hl=>by
  simp[aRes] at hl;subst hl
  exact⟨[],by simp,RelL.nil E⟩
 | .tmp t::rs,l,hl=>by
  simp only[aRes,Option.map_eq_some_iff] at hl
  obtain⟨l',hl',rfl⟩:=hl
  obtain⟨vs,h1,h2⟩:=run_aRes h hF f f1 f2 rs l' hl'
  exact⟨_::vs,by simp only[List.mapM_cons,f1,Sem.run_bind,Sem.run_pure,Result.andThen_ok,h1],.cons (hF t) h2⟩
 | .cell b t::rs,l,hl=>by
  simp only[aRes] at hl
  obtain⟨q,hq,hl⟩:=ag hl
  simp only[Option.map_eq_some_iff] at hl
  obtain⟨l',hl',rfl⟩:=hl
  obtain⟨vs,h1,h2⟩:=run_aRes h hF f f1 f2 rs l' hl'
  obtain⟨u,hu,hru⟩:=run_loadAt_same h (hF b) hq
  exact⟨u::vs,by rw[List.mapM_cons,f2,Sem.run_bind,hu];simp only[Sem.run_bind,Result.andThen_ok,Sem.run_pure,h1],.cons hru h2⟩
def AEnd (P:Program) (fn:Func) (n:Nat) (R:AV->aa->Prop):Exit->Fr->aa->Prop
 |.normal,F,H | .ret,F,H=>∃x1,cW P fn F H=some x1/\∃σ x2 H2,R x2 H2/\Abs n σ [(0,x1)] H [(0,x2)] H2
 |_,_,_=>False
theorem run_results {E:Env}{w:World}(h:Emb E H w){F:Fr}{a:Act}(hF:FrRel E F a){fn:Func}{x:AV}(hx:cW P fn F H=some x):∃v,(results fn a.tmps).run P w=.ok v w/\Rel E x v:=by
 unfold cW at hx
 simp only[Option.map_eq_some_iff] at hx
 obtain⟨l,hl,rfl⟩:=hx
 have fin:∀vs:List Value,RelL E l vs->Rel E (one1 l) (if h:vs.toArray.size=1 then vs.toArray[0] else .tuple vs.toArray):=fun vs h2=>by
  match l,vs,h2 with
  |[],[],h2=>exact h2.tup
  |[x],[v],h2=>exact h2.uncons.1
  |x::y::r,v::u::s,h2=>exact h2.tup
 have gen:∀f:ResultVar->Sem Value,(∀t,f (.tmp t)=Pure.pure (a.tmps.getD t undef))->(∀b t,f (.cell b t)=do loadVar t (<-asAddr (a.tmps.getD b undef))) ->
   ∃v,(do let vs <-fn.results.mapM f;Pure.pure (if h:vs.size=1 then vs[0] else .tuple vs):Sem Value).run P w=.ok v w/\Rel E (one1 l) v:=fun f f1 f2=>by
  obtain⟨vs,h1,h2⟩:=run_aRes h hF f f1 f2 _ l hl
  refine⟨_,?_,fin vs h2⟩
  rw[Array.mapM_eq_mapM_toList]
  simp only[Sem.run_bind,Sem.run_map]
  rw[h1]
  simp
 unfold results
 refine gen _ ?_ ?_
 ·intro t;rfl
 intro b t;rfl
theorem lk {f:FuncId}{fn:Func}{c:Code}{args:List AV}{R:AV->aa->Prop}(hf:P.funcs[f]? = some fn) (hb:fn.body=some c) (hN:fn.ntmps=N) (ha:args.length<=N)
  (h:HBel H.length H->AW P N H.length c (AEnd P fn H.length R) (argF 0 args) H):ACalls P f args H R:=by
 intro E w vs hE hv
 refine calls_of_wp hf hb (wp_mono (h hE.bel E w _ (by rw[hE.n];exact Nat.le_refl _) (by have:=hv.1;simp;omega) rfl (fun t=>?_) hE) ?_)
 ·rw[o0]
  simp only[Nat.zero_le,if_true,Nat.sub_zero]
  cases hx:args[t]? with
  |none=>exact .any _
  | some x =>
   obtain⟨v,hv1,hv2⟩:=hv.get hx
   have hlt:=getElem?_lt hv1
   simp only[Option.getD_some]
   rw[Array.getD_eq_getD_getElem?,Array.getElem?_append_left (by simpa using hlt)]
   simp[hv1,hv2]
 rintro e a w' ⟨E',F,H1,q,l,k2,k3,k4,k5⟩
 have fin:(∃x1,cW P fn F H1=some x1/\∃σ x2 H2,R x2 H2/\Abs H.length σ [(0,x1)] H1 [(0,x2)] H2)->∃v,(results fn a.tmps).run P w'=.ok v w'/\∃E' v' H' x,Ending.returned v=.returned v'/\R x H'/\E.le E'/\Rel E' x v'/\Emb E' H' w':=by
  rintro⟨x1,hx1,σ,x2,H2,hR,hab⟩
  obtain⟨v,hv1,hv2⟩:=run_results k5 k4 hx1
  obtain ⟨E2,l2,f2,e2⟩:=hab.emb (a:=⟨#[v],[]⟩) l.n (fun t=>by
   unfold look
   cases t with
   |zero=>simpa using hv2
   |succ t=>simp[look];exact .any _) k5
  refine⟨v,hv1,E2,v,H2,x2,rfl,hR,?_,?_,e2⟩
  ·have:=l.trans l2
   exact⟨this.B,this.w0,by rw[hE.n];exact this.n,fun b hb=>this.loc b (by rw[<-hE.n];exact hb)⟩
  have:=f2 0
  simpa [look] using this
 cases e with
 | normal =>
  obtain⟨v,h1,h2⟩:=fin q
  exact⟨k3,v,h1,h2⟩
 | ret =>
  obtain⟨v,h1,h2⟩:=fin q
  exact⟨k3,v,h1,h2⟩
 |exit id=>exact q.elim
 |goto id=>exact q.elim
 |panic ch=>exact q.elim
 |outgrown=>exact q.elim
end
end
end Go.Proofs.YtkkhdehdaaealaaGreat
