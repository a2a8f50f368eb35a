/- Parts of the proof: walks and plain facts. Conditions: as each theorem states. -/
import Derived.Test.YtkkhdehdaaealaaGreatG1
import Derived.WideShapes
import Derived.ChangeArms
import Derived.Deep.Fields
import Derived.Test.YtkkhdehdaaealaaGreatRows
import Derived.ProofKit
import Derived.OpenShut
import Derived.ShutString
import Derived.ChangeOld
import Derived.Lib.SmallJoins
import Derived.Shelf.Small.Bits
import Derived.Shelf.Utf8.RuneCount
import Derived.Shelf.Strconv.Itoa0
import Derived.Shelf.Strings.Search1
import Derived.Shelf.Strings.RuneCount
import Derived.Ground.Names2Prog
import Derived.Shelf.Slices.SearchI
import Derived.Shelf.Bytes.SlIndexSmall
import Derived.Ground.SlbNamesProg
import Derived.Shelf.Bytes.SlCountOne
import Derived.Shelf.Bytes.SlIndexAt
import Derived.Shelf.Bytes.SlSearch0
import Derived.Shelf.Bytes.SlSearch1
import Derived.Shelf.Bytes.Small
import Derived.Shelf.Bytes.IndexByte
import Derived.Shelf.SlSortCmp.WholeK
import Derived.Shelf.SlGeneric
import Derived.Ground.SlsfProg
import Derived.Test.YtkkhdehdaaealaaGreatProg
import Derived.Lib.SortBridge
import Derived.Lib.RowBridge
namespace Go.Proofs.YtkkhdehdaaealaaGreat
set_option linter.unusedSimpArgs false
set_option linter.unusedVariables false
open Go.RowKit

structure LOp where
 dst:Option Tmp
 op:Op
 g:Option (Option Tmp×Bool)
def lightOf (ds:List (Option Tmp)) (o:Oper):LOp:=⟨o.dst,o.op,o.guard.map fun g=>((ds[g.1]?).getD none,g.2)⟩
def dsts (ops:Array Oper):List (Option Tmp):=ops.toList.map Oper.dst
def gdL (F:Fr):Option (Option Tmp×Bool)->Option Bool
 |none=>some true
 |some (none,_)=>none
 |some (some t,want)=>(match look F t with | .bool b=>some (b==want) | .tup []=>some false|_=>none)
def AOpsL (P:Program):List LOp->Fr->aa->(Fr->aa->Prop)->Prop
 |[],F,H,K=>K F H
 | o::os,F,H,K =>
  match gdL F o.g with
  |some true=>AOp P o.op F H fun x H'=>AOpsL P os (putF o.dst x F) H' K
  |some false=>AOpsL P os (putF o.dst (.tup []) F) H K
  |none=>False
def AOpsDL (P:Program) (q:Bool) (m:Nat):List LOp->Fr->aa->(Fr->aa->Prop)->Prop
 |[],F,H,K=>K F H
 | o::os,F,H,K =>
  match gdL F o.g with
  |some true=>AOpD P q m o.op F H fun x H'=>AOpsDL P q m os (putF o.dst x F) H' K
  |some false=>AOpsDL P q m os (putF o.dst (.tup []) F) H K
  |none=>False
section
variable {P:Program} {N n m:Nat} {q:Bool}
theorem gdL_eq (ops:Array Oper)(F:Fr)(o:Oper):gd ops F o=gdL F (lightOf (dsts ops) o).g:=by
 unfold gd lightOf
 cases h:o.guard with
 |none=>rfl
 | some g =>
  have e:((dsts ops)[g.1]?).getD none=(ops[g.1]?).bind (·.dst):=by
   unfold dsts
   rw[List.getElem?_map,Array.getElem?_toList]
   cases ops[g.1]? <;>rfl
  simp only[Option.map_some,e]
  cases h2:(ops[g.1]?).bind (·.dst) with
  |none=>rfl
  |some t=>rfl
theorem AOp.mono {o:Op}{F:Fr}{H:aa}{K K':AV->aa->Prop}(h:AOp P o F H K)(hk:∀x H',K x H'->K' x H'):AOp P o F H K':=by
 unfold AOp at h ⊢
 split at h
 ·exact⟨h.1,h.2.mono hk⟩
 obtain⟨r,h1,h2⟩:=h;exact⟨r,h1,hk _ _ h2⟩
theorem AOpD.mono {o:Op}{F:Fr}{H:aa}{K K':AV->aa->Prop}(h:AOpD P q m o F H K)(hk:∀x H',K x H'->K' x H'):AOpD P q m o F H K':=by
 unfold AOpD at h ⊢
 split at h
 ·obtain⟨h1,x,H',h2,h2',h3,h4⟩:=h;exact⟨h1,x,H',h2,h2',h3,hk _ _ h4⟩
 obtain⟨h0,r,h1,h2⟩:=h;exact⟨h0,r,h1,hk _ _ h2⟩
theorem lL {ops:Array Oper}{K:Fr->aa->Prop}:∀(l:List Oper) (F:Fr) (H:aa),AOpsL P (l.map (lightOf (dsts ops))) F H K->AOps P ops l F H K
 |[],_,_,h=>h
 | o::os,F,H,h=>by
  simp only[List.map_cons] at h
  unfold AOpsL at h
  unfold AOps
  rw[gdL_eq]
  cases hg:gdL F (lightOf (dsts ops) o).g with
  |none=>rw[hg] at h;exact h
  | some b =>
   rw[hg] at h
   cases b
   ·exact lL os _ _ h
   exact AOp.mono h fun x H' hh=>lL os _ _ hh
theorem gH {ops:Array Oper}{K:Fr->aa->Prop}:∀(l:List Oper) (F:Fr) (H:aa),AOpsDL P q m (l.map (lightOf (dsts ops))) F H K->g7 P q m ops l F H K
 |[],_,_,h=>h
 | o::os,F,H,h=>by
  simp only[List.map_cons] at h
  unfold AOpsDL at h
  unfold g7
  rw[gdL_eq]
  cases hg:gdL F (lightOf (dsts ops) o).g with
  |none=>rw[hg] at h;exact h
  | some b =>
   rw[hg] at h
   cases b
   ·exact gH os _ _ h
   exact AOpD.mono h fun x H' hh=>gH os _ _ hh
def AWr (P:Program) (N n:Nat) (q:Bool):Code->(Exit->Fr->aa->Prop)->Fr->aa->Prop
 |.skip,Q,F,H=>Q .normal F H
 |.label _,Q,F,H=>Q .normal F H
 |.seq a b,Q,F,H=>AWr P N n q a (fM (fun F H=>AWr P N n q b Q F H) Q) F H
 |.cond c a b,Q,F,H=>∃t,aev F c=.bool t/\(t=true->AWr P N n q a Q F H)/\(t=false->AWr P N n q b Q F H)
 |.block id c,Q,F,H=>AWr P N n q c (fw id Q) F H
 |.exit id,Q,F,H=>Q (.exit id) F H
 |.ret,Q,F,H=>Q .ret F H
 |.region _ ops draw,Q,F,H=>bif draw then AOpsDL P q H.length (ops.toList.map (lightOf (dsts ops))) F H (Q .normal) else AOpsL P (ops.toList.map (lightOf (dsts ops))) F H (Q .normal)
 |.loop c,Q,F,H=>AW P N n (.loop c) Q F H
 |_,_,_,_=>False
theorem AOpsL.mono {K K':Fr->aa->Prop}(hk:∀F H,K F H->K' F H):∀(l:List LOp) (F:Fr) (H:aa),AOpsL P l F H K->AOpsL P l F H K'
 |[],F,H,h=>hk F H h
 | o::os,F,H,h=>by
  unfold AOpsL at h ⊢
  cases hg:gdL F o.g with
  |none=>rw[hg] at h;exact h
  | some b =>
   rw[hg] at h
   cases b
   ·exact AOpsL.mono hk os _ _ h
   exact AOp.mono h fun x H' hh=>AOpsL.mono hk os _ _ hh
theorem AOpsDL.mono {K K':Fr->aa->Prop}(hk:∀F H,K F H->K' F H):∀(l:List LOp) (F:Fr) (H:aa),AOpsDL P q m l F H K->AOpsDL P q m l F H K'
 |[],F,H,h=>hk F H h
 | o::os,F,H,h=>by
  unfold AOpsDL at h ⊢
  cases hg:gdL F o.g with
  |none=>rw[hg] at h;exact h
  | some b =>
   rw[hg] at h
   cases b
   ·exact AOpsDL.mono hk os _ _ h
   exact AOpD.mono h fun x H' hh=>AOpsDL.mono hk os _ _ hh
theorem AWr.mono:∀(c:Code) {Q Q':Exit->Fr->aa->Prop}{F:Fr}{H:aa},(∀e F H,Q e F H->Q' e F H)->AWr P N n q c Q F H->AWr P N n q c Q' F H
 |.skip,_,_,_,_,hq,h=>hq _ _ _ h
 |.label _,_,_,_,_,hq,h=>hq _ _ _ h
 |.seq a b,_,_,_,_,hq,h=>AWr.mono a (fun e F H hh=>by cases e<;>first|exact AWr.mono b hq hh|exact hq _ _ _ hh) h
 | .cond c a b,_,_,_,_,hq,h=>by
  obtain⟨t,h1,h2,h3⟩:=h
  exact⟨t,h1,fun e=>AWr.mono a hq (h2 e),fun e=>AWr.mono b hq (h3 e)⟩
 | .block id c,_,_,_,_,hq,h=>AWr.mono c (fun e F H hh=>by
   cases e with
   | exit id' =>
    simp only[fw] at hh ⊢
    split
    ·rename_i e;rw[if_pos e] at hh;exact hq _ _ _ hh
    rename_i e;rw[if_neg e] at hh;exact hq _ _ _ hh
   |_=>exact hq _ _ _ hh) h
 |.exit _,_,_,_,_,hq,h=>hq _ _ _ h
 |.ret,_,_,_,_,hq,h=>hq _ _ _ h
 | .region id ops draw,_,_,_,_,hq,h=>by
  cases draw
  ·exact AOpsL.mono (fun F H=>hq _ F H) _ _ _ h
  exact AOpsDL.mono (fun F H=>hq _ F H) _ _ _ h
 |.loop c,_,_,_,_,hq,h=>AW.mono h hq
 |.rangeFunc ..,_,_,_,_,_,h=>h.elim
 |.scope _,_,_,_,_,_,h=>h.elim
 |.goto _,_,_,_,_,_,h=>h.elim
 |.refuse _,_,_,_,_,_,h=>h.elim
def db (N:Nat) (q:Bool):Code->Bool
 |.seq a b=>db N q a&&db N q b
 |.cond _ a b=>db N q a&&db N q b
 |.block _ c=>db N q c
 |.loop c=>db N q c
 |.scope c=>db N q c
 |.region _ ops draw=>bif draw then gq q N ops else ld N ops
 |_=>true
theorem iL (hm:P.follows .mixedOrders=true):∀(c:Code),db N q c=true->∀(Q:Exit->Fr->aa->Prop) (F:Fr) (H:aa),AWr P N n q c Q F H->AW P N n c Q F H
 |.skip,_,_,_,_,h=>AW_skip h
 |.label _,_,_,_,_,h=>p9 h
 | .seq a b,hc,Q,F,H,h=>by
  simp only[db,Bool.and_eq_true] at hc
  refine ja (AW.mono (iL hm a hc.1 _ F H h) fun e F H hq=>?_)
  cases e with
  |normal=>exact iL hm b hc.2 _ F H hq
  |_=>exact hq
 | .cond c a b,hc,Q,F,H,h=>by
  simp only[db,Bool.and_eq_true] at hc
  obtain⟨t,h1,h2,h3⟩:=h
  exact gj t h1 (fun e=>iL hm a hc.1 _ F H (h2 e)) (fun e=>iL hm b hc.2 _ F H (h3 e))
 |.block id c,hc,Q,F,H,h=>mB (iL hm c hc _ F H h)
 |.exit _,_,_,_,_,h=>AW_exit h
 |.ret,_,_,_,_,h=>AW_ret h
 | .region id ops draw,hc,Q,F,H,h=>by
  cases draw
  ·exact oV hc (lL _ _ _ h)
  exact AW_draw q hm hc (gH _ _ _ h)
 |.loop c,_,_,_,_,h=>h
 |.rangeFunc ..,_,_,_,_,h=>h.elim
 |.scope _,_,_,_,_,h=>h.elim
 |.goto _,_,_,_,_,h=>h.elim
 |.refuse _,_,_,_,_,h=>h.elim
inductive It where
 |code (c:Code)
 |ops (l:List LOp)
 |opsD (m:Nat) (l:List LOp)
 |endB (id:Nat)
 |inv (J:Fr->aa->Prop)
def St (P:Program) (N n:Nat) (q:Bool) (Q:Exit->Fr->aa->Prop):List It->Exit->Fr->aa->Prop
 |[],e,F,H=>Q e F H
 |.code c::r,e,F,H=>(match e with | .normal=>AWr P N n q c (St P N n q Q r) F H|e=>St P N n q Q r e F H)
 |.ops l::r,e,F,H=>(match e with | .normal=>AOpsL P l F H (fun F H=>St P N n q Q r .normal F H)|e=>St P N n q Q r e F H)
 |.opsD m l::r,e,F,H=>(match e with | .normal=>AOpsDL P q m l F H (fun F H=>St P N n q Q r .normal F H)|e=>St P N n q Q r e F H)
 |.endB id::r,e,F,H=>(match e with | .exit id'=>if id'=id then St P N n q Q r .normal F H else St P N n q Q r (.exit id') F H|e=>St P N n q Q r e F H)
 |.inv J::r,e,F,H=>(match e with | .normal=>J F H|e=>St P N n q Q r e F H)
def AGo (P:Program) (N n:Nat) (q:Bool) (Q:Exit->Fr->aa->Prop) (r:List It) (F:Fr) (H:aa):Prop:=St P N n q Q r .normal F H
def js (P:Program) (N n:Nat) (q:Bool) (Q:Exit->Fr->aa->Prop) (id:Nat) (r:List It) (F:Fr) (H:aa):Prop:=St P N n q Q r (.exit id) F H
def dl (Q:Exit->Fr->aa->Prop) (F:Fr) (H:aa):Prop:=Q .ret F H
def itOf (d:Option Nat) (os:List LOp):It :=
 match d with
 |some m=>.opsD m os
 |none=>.ops os
theorem o6 {os:List LOp}:itOf none os=.ops os:=rfl
theorem o7 {m:Nat}{os:List LOp}:itOf (some m) os=.opsD m os:=rfl
def AK (P:Program) (N n:Nat) (q:Bool) (Q:Exit->Fr->aa->Prop) (d:Option Nat) (x:Option (AV×aa)) (dst:Option Tmp) (os:List LOp) (r:List It) (F:Fr):Prop :=
 match x with
 |some p=>AGo P N n q Q (itOf d os::r) (putF dst p.1 F) p.2
 |none=>False
def fy (P:Program) (N n:Nat) (q:Bool) (Q:Exit->Fr->aa->Prop) (d:Option Nat) (f:FuncId) (args:List AV) (dst:Option Tmp) (os:List LOp) (r:List It) (F:Fr) (H:aa):Prop :=
 dk P f=true/\match d with
  |some m=>∃x H',(q=true->H'=H)/\(H.length<=H'.length/\∀b,b<m->b<H.length->H'[b]? = H[b]?)/\ACalls P f args H (fun y H1=>y=x/\H1=H')/\AGo P N n q Q (.opsD m os::r) (putF dst x F) H'
  |none=>ACalls P f args H fun x H'=>AGo P N n q Q (.ops os::r) (putF dst x F) H'
def lateD (d:Option Nat) (o:Op) (F:Fr):Prop :=
 match d with
 |some m=>av m o F
 |none=>True
theorem o8 {o:Op}{F:Fr}:lateD none o F=True:=rfl
theorem o9 {m:Nat}{o:Op}{F:Fr}:lateD (some m) o F=av m o F:=rfl
theorem qd {b m:Nat}{p:Prop}(h:b<m):(b<m/\p)=p:=by simp[h]
def ADo (P:Program) (N n:Nat) (q:Bool) (Q:Exit->Fr->aa->Prop) (d:Option Nat) (o:Op) (dst:Option Tmp) (os:List LOp) (r:List It) (F:Fr) (H:aa):Prop :=
 match aj o F with
 |some p=>fy P N n q Q d p.1 p.2 dst os r F H
 |none=>lateD d o F/\AK P N n q Q d (aop P o F H) dst os r F
def AGd (P:Program) (N n:Nat) (q:Bool) (Q:Exit->Fr->aa->Prop) (d:Option Nat) (b:Option Bool) (o:Op) (dst:Option Tmp) (os:List LOp) (r:List It) (F:Fr) (H:aa):Prop :=
 match b with
 |some true=>ADo P N n q Q d o dst os r F H
 |some false=>AGo P N n q Q (itOf d os::r) (putF dst (.tup []) F) H
 |none=>False
def kh (P:Program) (N n:Nat) (q:Bool) (Q:Exit->Fr->aa->Prop) (x:AV) (a b:Code) (r:List It) (F:Fr) (H:aa):Prop :=
 ∃t,x=.bool t/\(t=true->AGo P N n q Q (.code a::r) F H)/\(t=false->AGo P N n q Q (.code b::r) F H)
section
variable {Q:Exit->Fr->aa->Prop} {r:List It} {F:Fr} {H:aa}
theorem go_skip:AGo P N n q Q (.code .skip::r) F H=AGo P N n q Q r F H:=rfl
theorem go_label {l:Nat}:AGo P N n q Q (.code (.label l)::r) F H=AGo P N n q Q r F H:=rfl
theorem st_code (c:Code):St P N n q Q (.code c::r)=fM (fun F H=>AWr P N n q c (St P N n q Q r) F H) (St P N n q Q r):=by
 funext e F H;cases e<;>rfl
theorem go_seq {a b:Code}:AGo P N n q Q (.code (.seq a b)::r) F H=AGo P N n q Q (.code a::.code b::r) F H:=by
 show AWr P N n q a (fM _ _) F H=AWr P N n q a (St P N n q Q (.code b::r)) F H
 rw[st_code]
theorem go_block {id:Nat}{c:Code}:AGo P N n q Q (.code (.block id c)::r) F H=AGo P N n q Q (.code c::.endB id::r) F H:=by
 show AWr P N n q c (fw id _) F H=AWr P N n q c (St P N n q Q (.endB id::r)) F H
 congr 1
 funext e F H
 cases e<;>rfl
theorem go_endB {id:Nat}:AGo P N n q Q (.endB id::r) F H=AGo P N n q Q r F H:=rfl
theorem go_exit {id:Nat}:AGo P N n q Q (.code (.exit id)::r) F H=js P N n q Q id r F H:=rfl
theorem pd {id:Nat}{c:Code}:js P N n q Q id (.code c::r) F H=js P N n q Q id r F H:=rfl
theorem pe {id id':Nat}:js P N n q Q id (.endB id'::r) F H=bif id==id' then AGo P N n q Q r F H else js P N n q Q id r F H:=by
 show (if id=id' then _ else _)=_
 by_cases e:id=id'
 ·subst e;simp;rfl
 have:(id==id')=false:=by simp[e]
 rw[if_neg e,this];rfl
theorem qe {id:Nat}{J:Fr->aa->Prop}:js P N n q Q id (.inv J::r) F H=js P N n q Q id r F H:=rfl
theorem gI:∀r:List It,St P N n q Q r .ret F H=dl Q F H
 |[]=>rfl
 |.code _::r=>gI r
 |.ops _::r=>gI r
 |.opsD _ _::r=>gI r
 |.endB _::r=>gI r
 |.inv _::r=>gI r
theorem go_ret:AGo P N n q Q (.code .ret::r) F H=dl Q F H:=gI r
theorem go_cond {c:Operand}{a b:Code}:AGo P N n q Q (.code (.cond c a b)::r) F H=kh P N n q Q (aev F c) a b r F H:=rfl
theorem cond_t {a b:Code}:kh P N n q Q (.bool true) a b r F H=AGo P N n q Q (.code a::r) F H:=by simp[kh]
theorem cond_f {a b:Code}:kh P N n q Q (.bool false) a b r F H=AGo P N n q Q (.code b::r) F H:=by simp[kh]
theorem cO {t:Bool}{a b:Code}(h1:t=true->AGo P N n q Q (.code a::r) F H)(h2:t=false->AGo P N n q Q (.code b::r) F H):kh P N n q Q (.bool t) a b r F H:=⟨t,rfl,h1,h2⟩
theorem go_region {id:Nat}{ops:Array Oper}:AGo P N n q Q (.code (.region id ops false)::r) F H=AGo P N n q Q (.ops (ops.toList.map (lightOf (dsts ops)))::r) F H:=rfl
theorem go_regionD {id:Nat}{ops:Array Oper}:AGo P N n q Q (.code (.region id ops true)::r) F H=AGo P N n q Q (.opsD H.length (ops.toList.map (lightOf (dsts ops)))::r) F H:=rfl
theorem go_ops_nil:AGo P N n q Q (.ops []::r) F H=AGo P N n q Q r F H:=rfl
theorem go_opsD_nil:AGo P N n q Q (.opsD m []::r) F H=AGo P N n q Q r F H:=rfl
theorem go_ops {o:LOp}{os:List LOp}:AGo P N n q Q (.ops (o::os)::r) F H=AGd P N n q Q none (gdL F o.g) o.op o.dst os r F H:=by
 show AOpsL P (o::os) F H _=_
 unfold AOpsL AGd
 cases hg:gdL F o.g with
 |none=>rfl
 | some b =>
  cases b with
  |false=>rfl
  | true =>
   simp only
   unfold AOp ADo
   cases hc:aj o.op F with
   |some p=>rfl
   | none =>
    simp only
    unfold AK
    cases hx:aop P o.op F H with
    |none=>simp
    |some p=>simp[lateD];rfl
theorem go_opsD {o:LOp}{os:List LOp}:AGo P N n q Q (.opsD m (o::os)::r) F H=AGd P N n q Q (some m) (gdL F o.g) o.op o.dst os r F H:=by
 show AOpsDL P q m (o::os) F H _=_
 unfold AOpsDL AGd
 cases hg:gdL F o.g with
 |none=>rfl
 | some b =>
  cases b with
  |false=>rfl
  | true =>
   simp only
   unfold AOpD ADo
   cases hc:aj o.op F with
   |some p=>rfl
   | none =>
    simp only
    unfold AK
    cases hx:aop P o.op F H with
    |none=>simp
    |some p=>simp[lateD];exact fun _=>Iff.rfl
variable {d:Option Nat} {dst:Option Tmp} {os:List LOp} {o:Op}
theorem aY {b:Bool}(h1:b=true->ADo P N n q Q d o dst os r F H)(h2:b=false->AGo P N n q Q (itOf d os::r) (putF dst (.tup []) F) H):AGd P N n q Q d (some b) o dst os r F H:=by
 cases b
 ·exact h2 rfl
 exact h1 rfl
theorem k_some {x:AV}{H':aa}:AK P N n q Q d (some (x,H')) dst os r F=AGo P N n q Q (itOf d os::r) (putF dst x F) H':=rfl
theorem nq:AK P N n q Q d none dst os r F=False:=rfl
theorem nt {p:Prop}[Decidable p]{f:Unit->AV×aa}:AK P N n q Q d ((bu p).map f) dst os r F=(p/\AK P N n q Q d (some (f ())) dst os r F):=by
 unfold bu;by_cases h:p
 ·simp[h]
 simp[h,nq]
theorem mm {p:Prop}[Decidable p]{f:Unit->Option (AV×aa)}:AK P N n q Q d ((bu p).bind f) dst os r F=(p/\AK P N n q Q d (f ()) dst os r F):=by
 unfold bu;by_cases h:p
 ·simp[h]
 simp[h,nq]
theorem k_cond {b:Bool}{x y:Option (AV×aa)}:AK P N n q Q d (bif b then x else y) dst os r F=((b=true->AK P N n q Q d x dst os r F)/\(b=false->AK P N n q Q d y dst os r F)):=by
 cases b<;>simp
theorem qf {α:Type}{p:Prop}[Decidable p]{x:α}:(if p then some x else none)=(bu p).map fun _=>x:=by
 unfold bu;by_cases h:p<;>simp[h]
theorem ol {f:FuncId}{args:List AV}{R:AV->aa->Prop}(hok:dk P f=true)(h:ACalls P f args H R)(k:∀x H',R x H'->AGo P N n q Q (.ops os::r) (putF dst x F) H'):fy P N n q Q none f args dst os r F H :=
 ⟨hok,h.mono k⟩
theorem go_loop {c:Code}(hm:P.follows .mixedOrders=true) (hc:db N q c=true) (I:Nat->Fr->aa->Prop) (k0:Nat) (h0:∃σ F2 H2,I k0 F2 H2/\Abs n σ F H F2 H2)
  (round:∀k F H,I k F H->∀J:Fr->aa->Prop,(∀F' H',(∃k',k'<k/\∃σ F2 H2,I k' F2 H2/\Abs n σ F' H' F2 H2)->J F' H')->AGo P N n q Q (.code c::.inv J::r) F H):AGo P N n q Q (.code (.loop c)::r) F H:=by
 refine oh I k0 h0 fun k F H hi=>iL hm c hc _ F H ?_
 have:=round k F H hi _ (fun _ _ h=>h)
 have e:St P N n q Q (.inv (fun F' H'=>∃k',k'<k/\∃σ F2 H2,I k' F2 H2/\Abs n σ F' H' F2 H2)::r)=fM (fun F' H'=>∃k',k'<k/\∃σ F2 H2,I k' F2 H2/\Abs n σ F' H' F2 H2) (St P N n q Q r):=by
  funext e F H;cases e<;>rfl
 rw[<-e]
 exact this
theorem cB {f:FuncId}{fn:Func}{args:List AV}{R:AV->aa->Prop}(hm:P.follows .mixedOrders=true) (hf:P.funcs[f]? = some fn) (q:Bool) (N:Nat) (hN:fn.ntmps=N) (ha:args.length<=N)
  (hc:(fn.body.map (db N q))=some true) (h:HBel H.length H->∀Q,(∀F H',AEnd P fn H.length R .ret F H'->dl Q F H')->(∀F H',AEnd P fn H.length R .normal F H'->Q .normal F H')->∀c,fn.body=some c->AGo P N H.length q Q [.code c] (argF 0 args) H):ACalls P f args H R:=by
 cases hb:fn.body with
 |none=>rw[hb] at hc;cases hc
 | some c =>
  rw[hb] at hc
  simp at hc
  exact lk hf hb hN ha fun hbel=>iL hm c hc _ _ _ (h hbel (AEnd P fn H.length R) (fun _ _ k=>k) (fun _ _ k=>k) c hb)
end
end
section
variable {α:Type} {H l:List α} {x y:α}
theorem dp:(H++l)[H.length]? = l[0]? :=by rw[List.getElem?_append_right (Nat.le_refl _),Nat.sub_self]
theorem bO {k:Nat}:(H++l)[H.length+k]? = l[k]? :=by rw[List.getElem?_append_right (by omega)];congr 1;omega
theorem qg:(H++l).set H.length x=H++l.set 0 x:=by rw[List.set_append_right _ _ (Nat.le_refl _),Nat.sub_self]
theorem ki {k:Nat}:(H++l).set (H.length+k) x=H++l.set k x:=by
 rw[List.set_append_right _ _ (by omega)];congr 2;omega
theorem get_old {b:Nat}(h:H[b]? = some x)(l:List α):(H++l)[b]? = some x:=by rw[List.getElem?_append_left (getElem?_lt h)];exact h
theorem qh:(H++[x]).length=H.length+1:=by simp
theorem len_lit:(H++l).length=H.length+l.length:=by simp
end
theorem iS {x:Int}(h1 : -9223372036854775808<=x)(h2:x<=9223372036854775807):IntKind.i64.wrap x=x:=IntWalk.i64_in _ ⟨h1,h2⟩
theorem ij {n m:Nat}{sel:List Nat}{b:Nat}(h:b<n):sig n m sel b=b:=by simp[sig,h]
theorem gJ {n m:Nat}{sel:List Nat}:sig n m sel n=match sel[0]? with|some i=>n+i|none=>n+(n+m):=by
 unfold sig;rw[if_neg (by omega),Nat.sub_self]<;>rfl
theorem gK {n m k:Nat}{sel:List Nat}:sig n m sel (n+k)=match sel[k]? with|some i=>n+i|none=>n+k+(n+m):=by
 unfold sig;rw[if_neg (by omega),Nat.add_sub_cancel_left]<;>rfl
theorem end_of {P:Program}{fn:Func}{H l1 l2:aa}{R:AV->aa->Prop}{F:Fr}{e:Exit}(he:e=.ret\/e=.normal) (hbel:HBel H.length H) {x1 x2:AV}(hx:cW P fn F (H++l1)=some x1) (sel:List Nat) (hnd:sel.Nodup) (hR:R x2 (H++l2))
  (hv:x1=x2.mv (sig H.length l1.length sel)) (hl:l2.length=sel.length) (hH:∀(i b:Nat) (x:ABlk),sel[i]? = some b->l2[i]? = some x->x=.dead\/l1[b]? = some (x.mv (sig H.length l1.length sel))):AEnd P fn H.length R e F (H++l1):=by
 have h:=Abs0.abs <| Abs0.of (n:=H.length) (H0:=H) (l1:=l1) (l2:=l2) (F1:=[(0,x1)]) (F2:=[(0,x2)]) rfl hbel sel hnd (fun p hp=>by simp at hp;subst hp;simp[look,hv,W.refl]) hl (fun i b x h1 h2=>(hH i b x h1 h2).imp id .inl)
 rcases he with rfl|rfl
 ·exact⟨x1,hx,_,x2,_,hR,h⟩
 exact⟨x1,hx,_,x2,_,hR,h⟩
theorem dN {P:Program}{fn:Func}{H l1:aa}{R:AV->aa->Prop}{F:Fr}{e:Exit}(he:e=.ret\/e=.normal)(hbel:HBel H.length H){x:AV}(hx:cW P fn F (H++l1)=some x)(hp:x.bel 0=true)(hR:R x H):AEnd P fn H.length R e F (H++l1) :=
 end_of (l2:=[]) he hbel hx [] (by simp) (by simpa using hR) (lI (n:=0) (fun b hb=>absurd hb (Nat.not_lt_zero b)) x hp).symm rfl (fun i b x h=>by simp at h)
theorem jI {P:Program}{fn:Func}{F:Fr}{H:aa}{l:List ResultVar}{x:AV}(h1:fn.results=l.toArray)(h2:(aRes P l F H).map one1=some x):cW P fn F H=some x:=by
 unfold cW;rw[h1];exact h2
theorem ai {α:Type}{H l:List α}{x:α}{b:Nat}(h:H[b]? = some x):(H++l)[b]? = some x:=get_old h l
theorem pf:bu True=some ():=rfl
theorem pg {n:Nat}:(n+1==0)=false:=rfl
theorem rng0:List.range 0=[]:=rfl
theorem rng1:List.range 1=[0]:=rfl
theorem rng2:List.range 2=[0,1]:=rfl
theorem rng3:List.range 3=[0,1,2]:=rfl
theorem rng4:List.range 4=[0,1,2,3]:=rfl
theorem rng5:List.range 5=[0,1,2,3,4]:=rfl
theorem rng6:List.range 6=[0,1,2,3,4,5]:=rfl
theorem rng7:List.range 7=[0,1,2,3,4,5,6]:=rfl
theorem rng8:List.range 8=[0,1,2,3,4,5,6,7]:=rfl
theorem rng9:List.range 9=[0,1,2,3,4,5,6,7,8]:=rfl
theorem rng10:List.range 10=[0,1,2,3,4,5,6,7,8,9]:=rfl
theorem rng11:List.range 11=[0,1,2,3,4,5,6,7,8,9,10]:=rfl
theorem rng12:List.range 12=[0,1,2,3,4,5,6,7,8,9,10,11]:=rfl
theorem rng16:List.range 16=[0,1,2,3,4,5,6,7,8,9,10,11,12,13,14,15]:=rfl
def ints (k:IntKind) (xs:List Int):List AV:=xs.map (AV.int k)
theorem cS {k:IntKind}{xs:List Int}{j:Nat}(h:j<xs.length):(ints k xs)[j]? = some (.int k (gi xs j)):=by
 simp[ints,gi,h,List.getD_eq_getElem?_getD]
theorem bZ {k:IntKind}{xs:List Int}:(ints k xs).length=xs.length:=by simp[ints]
theorem mE {k:IntKind}{xs:List Int}{j:Nat}{v:Int}:(ints k xs).set j (.int k v)=ints k (xs.set j v):=by simp[ints,List.map_set]
theorem kj {k:IntKind}{n:Nat}{v:Int}:List.replicate n (.int k v)=ints k (List.replicate n v):=by simp[ints]
def d6 (xs:List Bool):List AV:=xs.map AV.bool
theorem pi {xs:List Bool}:(d6 xs).length=xs.length:=by simp[d6]
theorem pj {xs:List Bool}{j:Nat}{v:Bool}:(d6 xs).set j (.bool v)=d6 (xs.set j v):=by simp[d6,List.map_set]
theorem pk {n:Nat}{v:Bool}:List.replicate n (.bool v)=d6 (List.replicate n v):=by simp[d6]
theorem fz {σ:Nat->Nat}{k:IntKind}:∀{xs:List Int},AV.mvs σ (ints k xs)=ints k xs
 |[]=>rfl
 |x::r=>by show AV.mv σ (.int k x)::AV.mvs σ (ints k r)=_;rw[fz (xs:=r)];rfl
theorem fA {σ:Nat->Nat}:∀{xs:List Bool},AV.mvs σ (d6 xs)=d6 xs
 |[]=>rfl
 |x::r=>by show AV.mv σ (.bool x)::AV.mvs σ (d6 r)=_;rw[fA (xs:=r)];rfl
theorem eK {σ:Nat->Nat}:∀{xs ys:List AV},AV.mvs σ (xs++ys)=AV.mvs σ xs++AV.mvs σ ys
 |[],_=>rfl
 |x::r,ys=>by show AV.mv σ x::AV.mvs σ (r++ys)=_;rw[eK (xs:=r)];rfl
def prs (l:List (Int×Int)):List AV:=l.flatMap fun p=>[.int .i64 p.1,.int .i64 p.2]
theorem jJ:prs []=[]:=rfl
theorem cT {p:Int×Int}{l:List (Int×Int)}:prs (p::l)=.int .i64 p.1::.int .i64 p.2::prs l:=rfl
theorem eM {l m:List (Int×Int)}:prs (l++m)=prs l++prs m:=by simp[prs]
theorem bm:∀{l:List (Int×Int)},(prs l).length=l.length*2
 |[]=>rfl
 |p::l=>by rw[cT];simp only[List.length_cons,bm (l:=l)];omega
theorem gL {σ:Nat->Nat}:∀{l:List (Int×Int)},AV.mvs σ (prs l)=prs l
 |[]=>rfl
 | p::l=>by
  rw[cT]
  show AV.mv σ _::AV.mv σ _::AV.mvs σ (prs l)=_
  rw[gL (l:=l)];rfl
theorem prs_at:∀{l:List (Int×Int)}{j:Nat}(_h:j<l.length),(prs l).drop (j*2)=.int .i64 (g1 l j)::.int .i64 (g2 l j)::(prs l).drop ((j+1)*2)
 |[],j,h=>by simp at h
 |p::l,0,_=>by rw[cT];simp[g1,g2]
 | p::l,j+1,h=>by
  rw[cT,show (j+1)*2=j*2+1+1 by omega,List.drop_succ_cons,List.drop_succ_cons,prs_at (l:=l) (by simpa using h),show (j+1+1)*2=(j+1)*2+1+1 by omega,List.drop_succ_cons,List.drop_succ_cons]
  rfl
theorem cL {l:List (Int×Int)}{j:Nat}(h:j<l.length):((prs l).drop (j*2)).take 2=[.int .i64 (g1 l j),.int .i64 (g2 l j)]:=by rw[prs_at h];rfl
theorem qi {l:List (Int×Int)}{j:Nat}:(prs l).take (j*2)=prs (l.take j):=by
 induction l generalizing j with
 |nil=>simp[jJ]
 | cons p l ih =>
  cases j with
  |zero=>simp[jJ]
  |succ j=>rw[cT,show (j+1)*2=j*2+1+1 by omega,List.take_succ_cons,List.take_succ_cons,ih];rfl
def fj (m:Nat) (σ:Nat->Nat) (F1:Fr):Fr->Prop
 |[]=>True
 |p::r=>W m (look F1 p.1) (p.2.mv σ)/\fj m σ F1 r
def fB (m:Nat) (σ:Nat->Nat) (l1:aa):List Nat->aa->Prop
 |i::s,x::l2=>(x=.dead\/l1[i]? = some (x.mv σ)\/BW m (l1[i]?) (x.mv σ))/\fB m σ l1 s l2
 |[],[]=>True
 |_,_=>False
theorem mF {m:Nat}{σ:Nat->Nat}{F1:Fr}:∀{F2:Fr},fj m σ F1 F2->∀p∈F2,W m (look F1 p.1) (p.2.mv σ)
 | _::_,h,p,hp=>by
  rcases List.mem_cons.1 hp with rfl|hp
  ·exact h.1
  exact mF h.2 p hp
theorem fZ {m:Nat}{σ:Nat->Nat}{l1:aa}:∀{sel:List Nat}{l2:aa},fB m σ l1 sel l2->l2.length=sel.length/\∀(i b:Nat) (x:ABlk),sel[i]? = some b->l2[i]? = some x->x=.dead\/l1[b]? = some (x.mv σ)\/BW m (l1[b]?) (x.mv σ)
 |[],[],_=>⟨rfl,fun i b x h=>by simp at h⟩
 | s::sel,y::l2,h=>by
  obtain⟨h1,h2⟩:=fZ h.2
  refine⟨by simp[h1],fun i b x hs hl=>?_⟩
  cases i with
  |zero=>simp at hs hl;subst hs hl;exact h.1
  |succ i=>exact h2 i b x (by simpa using hs) (by simpa using hl)
 |[],_::_,h=>h.elim
 |_::_,[],h=>h.elim
theorem Abs.byG {H0 l1 l2:aa}{F1 F2:Fr}(hsc:HBel H0.length H0)(G:aa)(hG:G.all gp=true)(sel:List Nat)(hnd:sel.Nodup)(h:fj (H0.length+(l1++G).length) (sig H0.length (l1++G).length sel) F1 F2/\fB (H0.length+(l1++G).length) (sig H0.length (l1++G).length sel) (l1++G) sel l2):Abs H0.length (sig H0.length (l1++G).length sel) F1 (H0++l1) F2 (H0++l2) :=
 Abs.of G hG rfl hsc sel hnd (mF h.1) (fZ h.2).1 (fZ h.2).2
theorem Abs.by {H0 l1 l2:aa}{F1 F2:Fr}(hsc:HBel H0.length H0)(sel:List Nat)(hnd:sel.Nodup)(h:fj (H0.length+l1.length) (sig H0.length l1.length sel) F1 F2/\fB (H0.length+l1.length) (sig H0.length l1.length sel) l1 sel l2):Abs H0.length (sig H0.length l1.length sel) F1 (H0++l1) F2 (H0++l2):=by
 have:=Abs.byG (l1:=l1) (l2:=l2) (F1:=F1) (F2:=F2) hsc [] rfl sel hnd (by simpa using h)
 simpa using this
theorem aW {P:Program}{fn:Func}{H l1 l2:aa}{R:AV->aa->Prop}{F:Fr}{e:Exit}(he:e=.ret\/e=.normal) (hbel:HBel H.length H) {x1:AV}(x2:AV) (hx:cW P fn F (H++l1)=some x1) (G:aa) (hG:G.all gp=true) (sel:List Nat) (hnd:sel.Nodup) (hR:R x2 (H++l2))
  (h:W (H.length+(l1++G).length) x1 (x2.mv (sig H.length (l1++G).length sel))/\fB (H.length+(l1++G).length) (sig H.length (l1++G).length sel) (l1++G) sel l2):AEnd P fn H.length R e F (H++l1):=by
 have h1:=Abs.of (n:=H.length) (H0:=H) (l1:=l1) (l2:=l2) (F1:=[(0,x1)]) (F2:=[(0,x2)]) G hG rfl hbel sel hnd (fun p hp=>by simp at hp;subst hp;exact h.1) (fZ h.2).1 (fZ h.2).2
 rcases he with rfl|rfl
 ·exact⟨x1,hx,_,x2,_,hR,h1⟩
 exact⟨x1,hx,_,x2,_,hR,h1⟩
theorem end_by {P:Program}{fn:Func}{H l1 l2:aa}{R:AV->aa->Prop}{F:Fr}{e:Exit}(he:e=.ret\/e=.normal) (hbel:HBel H.length H) {x1:AV}(x2:AV) (hx:cW P fn F (H++l1)=some x1) (sel:List Nat) (hnd:sel.Nodup) (hR:R x2 (H++l2))
  (h:x1=x2.mv (sig H.length l1.length sel)/\fB (H.length+l1.length) (sig H.length l1.length sel) l1 sel l2):AEnd P fn H.length R e F (H++l1) :=
 aW he hbel x2 hx [] rfl sel hnd hR ⟨by rw[List.append_nil,h.1];exact W.refl _,by rw[List.append_nil];exact h.2⟩
theorem eO {P:Program}{fn:Func}{H:aa}{R:AV->aa->Prop}{F:Fr}{e:Exit}(he:e=.ret\/e=.normal)(hbel:HBel H.length H){x:AV}(hx:cW P fn F H=some x)(hp:x.bel 0=true)(hR:R x H):AEnd P fn H.length R e F H:=by
 have h:=dN (P:=P) (fn:=fn) (l1:=[]) (F:=F) (R:=R) he hbel (x:=x) (by simpa using hx) hp hR
 simpa using h
theorem Abs.by0 {H0:aa}{F1 F2:Fr}(hsc:HBel H0.length H0)(h:fj H0.length (sig H0.length 0 []) F1 F2):Abs H0.length (sig H0.length 0 []) F1 H0 F2 H0:=by
 have:=Abs.by (l1:=[]) (l2:=[]) (F1:=F1) (F2:=F2) hsc [] (by simp) ⟨h,trivial⟩
 simpa using this
theorem dQ {P:Program}{N n:Nat}{q:Bool}{Q:Exit->Fr->aa->Prop}{dst:Option Tmp}{os:List LOp}{r:List It}{F:Fr}{H H1:aa}{f:FuncId}{args:List AV}{x:AV}(hok:dk P f=true)(h:ACalls P f args H fun v H'=>v=x/\H'=H1)(k:AGo P N n q Q (.ops os::r) (putF dst x F) H1):fy P N n q Q none f args dst os r F H :=
 ol hok h fun v H' ⟨h1,h2⟩=>by subst h1 h2;exact k
theorem call_d {P:Program}{N n m:Nat}{q:Bool}{Q:Exit->Fr->aa->Prop}{dst:Option Tmp}{os:List LOp}{r:List It}{F:Fr}{H:aa}{f:FuncId}{args:List AV}{x:AV}(hok:dk P f=true)(h:ACalls P f args H fun y H1=>y=x/\H1=H)(k:AGo P N n q Q (.opsD m os::r) (putF dst x F) H):fy P N n q Q (some m) f args dst os r F H :=
 ⟨hok,x,H,fun _=>rfl,⟨Nat.le_refl _,fun _ _ _=>rfl⟩,h,k⟩
theorem call_x {P:Program}{N n m:Nat}{Q:Exit->Fr->aa->Prop}{dst:Option Tmp}{os:List LOp}{r:List It}{F:Fr}{H l:aa}{f:FuncId}{args:List AV}{x:AV}(hok:dk P f=true)(_:True)(h:ACalls P f args H fun y H1=>y=x/\H1=H++l)(k:AGo P N n false Q (.opsD m os::r) (putF dst x F) (H++l)):fy P N n false Q (some m) f args dst os r F H :=
 ⟨hok,x,H++l,(fun h=>by cases h),⟨by simp,fun b _ hb=>List.getElem?_append_left hb⟩,h,k⟩
section
variable {E:Env} {H:aa} {w w':World}
theorem Emb.ownLt (h:Emb E H w){b:Nat}{x:ABlk}(hx:H[b]? = some x)(ho:x.owned=true):(E.loc b).blk<w.heap.size:=by
 have hk:=h.blk b x hx
 cases x with
 |dead=>cases ho
 |cells own e ys=>exact(hk.2.1 ho).2.1
 |map es=>exact hk.2.1
 |fmap es bs ck=>exact hk.2.1
 |iter m bs sn ck=>exact hk.2.1
theorem Emb.up (h:Emb E H w)(hb:Below w.heap.size w w'):Emb E H w' where
 n:=h.n
 below:=h.below.trans (hb.mono h.base)
 base:=Nat.le_trans h.base hb.size
 blk b x hx:=(h.blk b x hx).mono (Env.le.refl E) hb.size (fun ho=>hb.block _ (h.ownLt hx ho)) (fun hB=>hb.block _ (Nat.lt_of_lt_of_le hB h.base))
 inj:=h.inj
theorem Emb.row (h:Emb E H w)(hb:Below w.heap.size w w'){base n sz:Nat}{e:TypeId}{v:Value}{vs:List Value}{xs:List AV}(hown:w'.ownsRow base e sz v n vs)(hB:w.heap.size<=base)(hn:0<n)(hr:RelL E xs vs)(ho:∀x∈xs,x.one=true):
  ∃E',E.le E'/\Rel E' (.sl (some (H.length,0)) n none) v/\Emb E' (H++[.cells true sz xs]) w':=by
 have hs:=Seg.of_own (i6 hown (Nat.le_trans h.base hB))
 obtain⟨g,off,cap,rfl,h1,h2,h3,h4,h5⟩:=iH hr ho hs hn
 have hg:base<=g:=by
  rcases hown.2 with ⟨hv,-⟩|⟨g',cap',cur,hv,hb',-⟩
  ·cases hv
  injection hv with hv;injection hv with hv;injection hv with hv;omega
 have hle:=E.le_push ⟨g,off,cap*sz,sz⟩
 refine⟨E.push ⟨g,off,cap*sz,sz⟩,hle,?_,h.grow (row:=none) ⟨hb.os,hb.tape,hb.output,hb.size,fun k hk _=>hb.block k hk⟩ (fun k hk=>by cases hk) rfl (fun c x hx=>.inr ⟨hx,fun _=>by simp⟩) _ _ (h5 _ hle) (fun c x hx ho=>?_)⟩
 ·have e1:(E.push ⟨g,off,cap*sz,sz⟩).loc H.length=⟨g,off,cap*sz,sz⟩:=by rw[<-h.n];exact Env.push_new _ _
  refine .sl _ _ _ _ _ _ (by simp[Env.push,h.n]) h3 h4 (.inl rfl) (.inr (by rw[e1];rfl)) ?_
  rw[e1];simp
 have:=h.ownLt hx ho
 show (E.loc c).blk≠g
 omega
theorem jK {k:IntKind}{n:Int}{v:Value}(h:Rel E (.int k n) v):v=.int k n:=by cases h;rfl
theorem fC {x:AV}{xs:List AV}{vs:List Value}(h:RelL E (x::xs) vs):∃v us,vs=v::us/\Rel E x v/\RelL E xs us:=by
 cases vs with
 |nil=>have:=h.1;simp at this
 |cons v us=>exact⟨v,us,rfl,h.uncons⟩
theorem kl {vs:List Value}(h:RelL E [] vs):vs=[]:=by
 have:=h.1
 exact List.eq_nil_of_length_eq_zero (by simpa using this.symm)
end
open Go.ChangeShapes Go.WideShapes

def bH (P:Program):Nat->TypeId->Option (List TypeId)
 |0,_=>none
 | n+1,t =>
  match P.underlying t with
  |some (.int _)=>some [t]
  |some .bool=>some [t]
  |some (.slice e)=>(bH P n e).bind fun l=>if l.length=P.cellsOf e/\0<l.length then some [t] else none
  |some (.struct fs)=>(fs.toList.foldl (fun acc f=>acc.bind fun (l:List TypeId)=>(bH P n f.type).bind fun m=>if f.offset=l.length/\m.length=P.cellsOf f.type then some (l++m) else none) (some [])).bind fun l=>if l.length=P.cellsOf t then some l else none
  |_=>none
def LTy (P:Program) (H:aa):Nat->TypeId->AV->Prop
 |0,_,_=>False
 | n + 1,t,x =>
  match P.underlying t with
  |some .bool=>∃b,x=.bool b
  |some (.int k)=>∃z,x=.int k z/\(Lit.int k z).wf=true
  | some (.slice e)=>∃(b:Nat) (rows:List (List AV)) (ls:List TypeId),x=.sl (some (b,0)) rows.length none/\bH P n e=some ls/\rows.length<=maxLen/\H[b]? = some (.cells false ls.length rows.flatten) /\
    ∀r:List AV,r∈rows->r.length=ls.length/\∀(j:Nat) (l:TypeId) (y:AV),ls[j]? = some l->r[j]? = some y->LTy P H n l y
  |_=>False
theorem LTy.app {P:Program}{H:aa}(l':aa):∀{n:Nat}{t:TypeId}{x:AV},LTy P H n t x->LTy P (H++l') n t x
 |0,_,_,h=>by simp[LTy] at h
 | n+1,t,x,h=>by
  unfold LTy at h ⊢
  split at h
  ·exact h
  ·exact h
  ·obtain⟨b,rows,ls,h1,h2,h2',h3,h4⟩:=h
   exact⟨b,rows,ls,h1,h2,h2',ai h3,fun r hr=>⟨(h4 r hr).1,fun j l y hj hy=>((h4 r hr).2 j l y hj hy).app l'⟩⟩
  exact h
def RTy (P:Program) (H:aa) (n:Nat) (ls:List TypeId) (r:List AV):Prop:=r.length=ls.length/\∀(j:Nat) (l:TypeId) (y:AV),ls[j]? = some l->r[j]? = some y->LTy P H n l y
theorem RTy.app {P:Program}{H:aa}(l':aa){n:Nat}{ls:List TypeId}{r:List AV}(h:RTy P H n ls r):RTy P (H++l') n ls r:=⟨h.1,fun j l y a b=>(h.2 j l y a b).app l'⟩
def ATy (P:Program) (H:aa) (n:Nat) (t:TypeId) (x:AV):Prop:=∃ls xs,bH P n t=some ls/\RTy P H n ls xs/\((aM P t=some true/\x=.agg xs)\/(aM P t=some false/\xs=[x]))
theorem ATy.app {P:Program}{H:aa}(l':aa){n:Nat}{t:TypeId}{x:AV}(h:ATy P H n t x):ATy P (H++l') n t x:=by
 obtain⟨ls,xs,h1,h2,h3⟩:=h
 exact⟨ls,xs,h1,h2.app l',h3⟩
section
variable {K:Type} {enc:TypeId×Value->K} {P:Program} {w:World} {base:Nat} {held:Bool}
def Reads (enc:TypeId×Value->K) (P:Program) (w:World) (base:Nat) (held:Bool) (ls:List TypeId) (cs:List Value):Prop :=
 cs.length=ls.length/\∀(j:Nat) (l:TypeId) (v:Value),ls[j]? = some l->cs[j]? = some v->∃fuel y,DataW.trod enc P w base (fun _=>true) held fuel l [v]=some y
theorem Reads.append {ls ms:List TypeId}{cs ds:List Value}(h:Reads enc P w base held ls cs)(k:Reads enc P w base held ms ds):Reads enc P w base held (ls++ms) (cs++ds):=by
 refine⟨by simp[h.1,k.1],fun j l v hl hv=>?_⟩
 by_cases hj:j<ls.length
 ·rw[List.getElem?_append_left hj] at hl
  rw[List.getElem?_append_left (by rw[h.1];exact hj)] at hv
  exact h.2 j l v hl hv
 rw[List.getElem?_append_right (by omega)] at hl
 rw[List.getElem?_append_right (by rw[h.1];omega),h.1] at hv
 exact k.2 _ l v hl hv
theorem jC : ∀(n:Nat) (t:TypeId) (ls:List TypeId),bH P n t=some ls->∀(fuel:Nat) (cs:List Value) (y:DataW K×List MemPlace),DataW.trod enc P w base (fun _=>true) held fuel t cs=some y->Reads enc P w base held ls cs
 |0,_,_,h=>by simp[bH] at h
 | n + 1, t,ls,h=>by
  intro fuel cs y hy
  unfold bH at h
  split at h
  ·rename_i k ht
   simp at h;subst h
   obtain⟨z,rfl,-,-⟩:=DataW.trod_int ht hy
   exact ⟨rfl,fun j l v hl hv=>by cases j with
    |zero=>simp at hl hv;subst hl hv;exact⟨fuel,y,hy⟩
    |succ j=>simp at hl⟩
  ·rename_i ht
   simp at h;subst h
   obtain⟨z,rfl,-⟩:=DataW.trod_bool ht hy
   exact ⟨rfl,fun j l v hl hv=>by cases j with
    |zero=>simp at hl hv;subst hl hv;exact⟨fuel,y,hy⟩
    |succ j=>simp at hl⟩
  ·rename_i e ht
   obtain⟨l,-,h⟩:=ag h
   split at h
   ·simp at h;subst h
    have h1:∃v,cs=[v]:=by
     rcases DataW.trod_slice ht hy with ⟨rfl,-⟩|⟨a,len,cap,_,_,_,-,rfl,-⟩
     ·exact⟨_,rfl⟩
     exact⟨_,rfl⟩
    obtain⟨v,rfl⟩:=h1
    exact ⟨rfl,fun j l v hl hv=>by cases j with
     |zero=>simp at hl hv;subst hl hv;exact⟨fuel,y,hy⟩
     |succ j=>simp at hl⟩
   cases h
  ·rename_i fs ht
   obtain⟨L,hL,h⟩:=ag h
   split at h
   ·rename_i hlen
    simp at h;subst h
    obtain⟨xs,m,-,-,hcl,hxl,hf⟩:=DataW.trod_struct ht hy
    have gen:∀(l:List Field) (done:List TypeId),(∀f∈l,∃i:Nat,fs[i]? = some f)->done.length<=cs.length->Reads enc P w base held done (cs.take done.length) ->
      l.foldl (fun acc f=>acc.bind fun (l:List TypeId)=>(bH P n f.type).bind fun m=>if f.offset=l.length/\m.length=P.cellsOf f.type then some (l++m) else none) (some done)=some L->Reads enc P w base held L (cs.take L.length):=by
     intro l
     induction l with
     |nil=>intro done _ _ hd h;simp at h;subst h;exact hd
     | cons f l ih =>
      intro done hmem hle hd h
      simp only[List.foldl_cons,Option.bind_some] at h
      cases hm:bH P n f.type with
      | none =>
       rw[hm] at h
       simp only[Option.bind_none] at h
       exfalso
       clear ih hd hmem hL
       induction l with
       |nil=>simp at h
       |cons f' l ih=>simp only[List.foldl_cons,Option.bind_none] at h;exact ih h
      | some ms =>
       rw[hm] at h
       simp only[Option.bind_some] at h
       by_cases hc:f.offset=done.length/\ms.length=P.cellsOf f.type
       ·rw[if_pos hc] at h
        obtain⟨i,hi⟩:=hmem f (by simp)
        have h1:=hf i f hi
        have hxi:∃z,xs[i]? = some z:=by
         have:i<xs.length:=by
          have a:=(Array.getElem?_eq_some_iff.1 hi).1
          have b:=hxl
          omega
         exact⟨_,List.getElem?_eq_getElem this⟩
        obtain⟨z,hz⟩:=hxi
        rw[hz] at h1
        have hr:=jC n f.type ms hm m _ z h1
        have hrl:=hr.1
        rw[List.length_take,List.length_drop] at hrl
        have e1:cs.take (done++ms).length=cs.take done.length++(cs.drop f.offset).take (P.cellsOf f.type):=by
         rw[List.length_append,hc.1,<-hc.2,List.take_add]
        refine ih (done++ms) (fun f' hf'=>hmem f' (by simp[hf'])) (by rw[List.length_append];omega) ?_ h
        rw[e1]
        exact hd.append hr
       rw[if_neg hc] at h
       exfalso
       clear ih hd hmem hL
       induction l with
       |nil=>simp at h
       |cons f' l ih=>simp only[List.foldl_cons,Option.bind_none] at h;exact ih h
    have:=gen fs.toList [] (fun f hf=>by
     obtain⟨i,hi⟩:=List.getElem?_of_mem hf
     exact⟨i,by simpa using hi⟩) (by simp) ⟨by simp,fun j l v hl=>by simp at hl⟩ hL
    rwa [List.take_of_length_le (by omega)] at this
   cases h
  cases h
structure Top (E:Env) (H:aa) (w:World):Prop where
 emb:Emb E H w
 B:E.B=w.heap.size
 w0:E.w0=w
theorem Top.push {E:Env}{H:aa}(h:Top E H w) {a:Addr}{len cap es:Nat}{xs:List AV}(hsp:0<cap->a.spot=none) (hes:0<es) (hlen:xs.length=len*es) (hlc:len<=cap) (hcm:cap<=maxLen)
  (hx:∀(j:Nat) (x:AV),xs[j]? = some x->x.one=true/\∃v,w.cell? ⟨a.block,a.off+j,none⟩=some v/\Rel E x v) (hb:0<xs.length->a.block<w.heap.size) :
  ∃E',E.le E'/\Top E' (H++[.cells false es xs]) w/\Rel E' (.sl (some (H.length,0)) len none) (.slice (some a) len cap):=by
 have hle:=E.le_push ⟨a.block,a.off,cap*es,es⟩
 have hn:=h.emb.n
 have e1:(E.push ⟨a.block,a.off,cap*es,es⟩).loc H.length=⟨a.block,a.off,cap*es,es⟩:=by rw[<-hn];exact Env.push_new _ _
 refine⟨E.push ⟨a.block,a.off,cap*es,es⟩,hle,⟨⟨by simp[Env.push,hn],h.emb.below,h.emb.base,fun b x hbx=>?_,fun b c x y hbx hcy ox oy hbc=>?_⟩,h.B,h.w0⟩,?_⟩
 ·by_cases hbl:b<H.length
  ·rw[List.getElem?_append_left hbl] at hbx
   rw[Env.push_old _ _ (by omega)]
   exact(h.emb.blk b x hbx).mono hle (Nat.le_refl _) (fun _=>rfl) (fun _=>rfl)
  have hbe:b=H.length:=by have:=getElem?_lt hbx;simp at this;omega
  subst hbe
  rw[List.getElem?_append_right (Nat.le_refl _),Nat.sub_self] at hbx
  simp at hbx;subst hbx
  rw[e1]
  refine⟨fun j x hj=>?_,(fun h=>by cases h),fun _ h0=>?_,rfl⟩
  ·obtain⟨h1,v,h2,h3⟩:=hx j x hj
   exact⟨h1,v,h2,h3.mono hle⟩
  show a.block<E.B
  rw[h.B];exact hb h0
 ·by_cases hbl:b<H.length
  ·by_cases hcl:c<H.length
   ·rw[List.getElem?_append_left hbl] at hbx
    rw[List.getElem?_append_left hcl] at hcy
    rw[Env.push_old _ _ (by omega),Env.push_old _ _ (by omega)]
    exact h.emb.inj b c x y hbx hcy ox oy hbc
   have hbe:c=H.length:=by have:=getElem?_lt hcy;simp at this;omega
   subst hbe
   rw[List.getElem?_append_right (Nat.le_refl _),Nat.sub_self] at hcy
   simp at hcy;subst hcy;cases oy
  have hbe:b=H.length:=by have:=getElem?_lt hbx;simp at this;omega
  subst hbe
  rw[List.getElem?_append_right (Nat.le_refl _),Nat.sub_self] at hbx
  simp at hbx;subst hbx;cases ox
 refine .sl _ _ _ _ _ _ (by simp[Env.push,hn]) hlc hcm (.inl rfl) ?_ ?_
 ·rcases Nat.eq_zero_or_pos cap with h0|h0
  ·exact .inl h0
  right
  rw[e1]
  obtain⟨b,o,s⟩:=a
  simp only at hsp
  rw[hsp h0];rfl
 rw[e1];simp
def fN (P:Program) (t:TypeId):Bool:=match P.underlying t with
 |some (.int _)|some .bool|some (.slice _)=>true
 |_=>false
theorem gu {α β:Type}(f:Option β->α->Option β)(hf:∀a,f none a=none):∀l:List α,l.foldl f none=none
 |[]=>rfl
 |a::l=>by rw[List.foldl_cons,hf];exact gu f hf l
theorem nu {n:Nat}:∀(l:List Field) (done L:List TypeId),l.foldl (fun acc f=>acc.bind fun (l:List TypeId)=>(bH P n f.type).bind fun m=>if f.offset=l.length/\m.length=P.cellsOf f.type then some (l++m) else none) (some done)=some L ->
  ∀x∈L,x∈done\/∃f∈l,∃m,bH P n f.type=some m/\x∈m
 |[],done,L,h,x,hx=>by simp at h;subst h;exact .inl hx
 | f :: l,done,L,h,x,hx=>by
  simp only[List.foldl_cons,Option.bind_some] at h
  cases hm:bH P n f.type with
  |none=>rw[hm,Option.bind_none,gu _ (fun _=>rfl)] at h;cases h
  | some m =>
   rw[hm,Option.bind_some] at h
   split at h
   ·rcases nu l _ L h x hx with h1|⟨f',h1,h2⟩
    ·rcases List.mem_append.1 h1 with h1|h1
     ·exact .inl h1
     exact .inr ⟨f,by simp,m,hm,h1⟩
    exact .inr ⟨f',by simp[h1],h2⟩
   rw[gu _ (fun _=>rfl)] at h;cases h
theorem km:∀(n:Nat) (t:TypeId) (ls:List TypeId),bH P n t=some ls->bH P (n+1) t=some ls
 |0,_,_,h=>by simp[bH] at h
 | n + 1,t,ls,h=>by
  unfold bH at h ⊢
  split at h
  ·exact h
  ·exact h
  ·obtain⟨l,h1,h2⟩:=ag h
   rw[km n _ l h1]
   exact h2
  ·rename_i fs ht
   obtain⟨L,h1,h2⟩:=ag h
   have gen:∀(l:List Field) (done:List TypeId),l.foldl (fun acc f=>acc.bind fun (l:List TypeId)=>(bH P n f.type).bind fun m=>if f.offset=l.length/\m.length=P.cellsOf f.type then some (l++m) else none) (some done)=some L ->
     l.foldl (fun acc f=>acc.bind fun (l:List TypeId)=>(bH P (n+1) f.type).bind fun m=>if f.offset=l.length/\m.length=P.cellsOf f.type then some (l++m) else none) (some done)=some L:=by
    intro l
    induction l with
    |nil=>exact fun _ h=>h
    | cons f l ih =>
     intro done h
     simp only[List.foldl_cons,Option.bind_some] at h ⊢
     cases hm:bH P n f.type with
     |none=>rw[hm,Option.bind_none,gu _ (fun _=>rfl)] at h;cases h
     | some m =>
      rw[hm,Option.bind_some] at h
      rw[km n _ m hm,Option.bind_some]
      split at h
      ·rename_i hc;rw[if_pos hc];exact ih _ h
      rw[gu _ (fun _=>rfl)] at h;cases h
   rw[gen _ _ h1]
   exact h2
  cases h
theorem kn:∀(n:Nat) (t:TypeId) (ls:List TypeId),bH P n t=some ls->∀l∈ls,fN P l=true/\bH P n l=some [l]
 |0,_,_,h=>by simp[bH] at h
 | n + 1,t,ls,h=>by
  have h0:=h
  unfold bH at h
  split at h
  ·rename_i k ht
   simp at h;subst h
   exact fun l hl=>by simp at hl;subst hl;exact⟨by unfold fN;rw[ht],h0⟩
  ·rename_i ht
   simp at h;subst h
   exact fun l hl=>by simp at hl;subst hl;exact⟨by unfold fN;rw[ht],h0⟩
  ·rename_i e ht
   obtain⟨l,h1,h2⟩:=ag h
   split at h2
   ·simp at h2;subst h2
    exact fun l hl=>by simp at hl;subst hl;exact⟨by unfold fN;rw[ht],h0⟩
   cases h2
  ·rename_i fs ht
   obtain⟨L,h1,h2⟩:=ag h
   split at h2
   ·simp at h2;subst h2
    intro l hl
    rcases nu _ _ _ h1 l hl with h3|⟨f,-,m,h4,h5⟩
    ·simp at h3
    obtain⟨k1,k2⟩:=kn n f.type m h4 l h5
    exact⟨k1,km n l _ k2⟩
   cases h2
  cases h
def OpenAt (K:Type) (enc:TypeId×Value->K) (P:Program) (w:World) (base:Nat) (held:Bool) (n:Nat):Prop :=
 ∀ (t:TypeId) (v:Value) (fuel:Nat) (y:DataW K×List MemPlace),fN P t=true->bH P n t=some [t]->DataW.trod enc P w base (fun _=>true) held fuel t [v]=some y->∀(E:Env) (H:aa),Top E H w ->
  ∃(E':Env) (l:aa) (x:AV),E.le E'/\Top E' (H++l) w/\Rel E' x v/\x.one=true/\LTy P (H++l) n t x
theorem mG {n:Nat}(IH:OpenAt K enc P w base held n):∀(ls:List TypeId) (cs:List Value),(∀l∈ls,fN P l=true/\bH P n l=some [l])->Reads enc P w base held ls cs->∀(E:Env) (H:aa),Top E H w ->
  ∃(E':Env) (l:aa) (xs:List AV),E.le E'/\Top E' (H++l) w/\RelL E' xs cs/\(∀x∈xs,x.one=true)/\RTy P (H++l) n ls xs
 | [],cs,_,hr,E,H,hT=>by
  have:cs=[]:=List.eq_nil_of_length_eq_zero hr.1
  subst this
  exact⟨E,[],[],.refl E,by simpa using hT,.nil E,fun x hx=>by simp at hx,rfl,fun j l y h=>by simp at h⟩
 | t :: ls,cs,hl,hr,E,H,hT=>by
  cases cs with
  |nil=>have:=hr.1;simp at this
  | cons v cs =>
   obtain⟨fuel,y,hy⟩:=hr.2 0 t v rfl rfl
   obtain⟨E1,l1,x,e1,t1,r1,o1,y1⟩:=IH t v fuel y (hl t (by simp)).1 (hl t (by simp)).2 hy E H hT
   obtain⟨E2,l2,xs,e2,t2,r2,o2,y2⟩:=mG IH ls cs (fun l h=>hl l (by simp[h])) ⟨by have:=hr.1;simpa using this,fun j l u h1 h2=>hr.2 (j+1) l u (by simpa using h1) (by simpa using h2)⟩ E1 (H++l1) t1
   refine⟨E2,l1++l2,x::xs,e1.trans e2,by simpa using t2,.cons (r1.mono e2) r2,fun z hz=>?_,by simp[y2.1],fun j l u h1 h2=>?_⟩
   ·rcases List.mem_cons.1 hz with rfl|hz
    ·exact o1
    exact o2 z hz
   cases j with
   | zero =>
    simp at h1 h2;subst h1 h2
    have:=y1.app l2
    simpa using this
   | succ j => 
    have:=y2.2 j l u (by simpa using h1) (by simpa using h2)
    simpa using this
theorem mH {es:Nat}:∀(rows:List (List AV)),(∀r:List AV,r∈rows->r.length=es)->rows.flatten.length=rows.length*es
 |[],_=>by simp
 | r::rows,h=>by
  have:=mH rows (fun r' h'=>h r' (by simp[h']))
  have:=h r (by simp)
  simp only[List.flatten_cons,List.length_append,List.length_cons,Nat.add_mul,Nat.one_mul]
  omega
theorem ll:∀(n:Nat),OpenAt K enc P w base held n
 |0=>fun _ _ _ _ _ h=>by simp[bH] at h
 | n + 1 => fun t v fuel y hp h hy E H hT=>by
  unfold bH at h
  split at h
  ·rename_i k ht
   obtain⟨z,hz,-,hw⟩:=DataW.trod_int ht hy
   simp at hz;subst hz
   exact⟨E,[],.int k z,.refl E,by simpa using hT,.int k z,rfl,by unfold LTy;rw[ht];exact⟨z,rfl,hw⟩⟩
  ·rename_i ht
   obtain⟨z,hz,-⟩:=DataW.trod_bool ht hy
   simp at hz;subst hz
   exact⟨E,[],.bool z,.refl E,by simpa using hT,.bool z,rfl,by unfold LTy;rw[ht];exact⟨z,rfl⟩⟩
  ·rename_i e ht
   obtain⟨ls,hls,h⟩:=ag h
   split at h
   ·rename_i hc
    rcases DataW.trod_slice ht hy with ⟨hv,-⟩|⟨a,len,cap,elems,rest,m,-,hv,-,hb,hlc,hcm,hel,hei,hsp,-⟩
    ·simp at hv;subst hv
     refine⟨E.push ⟨0,0,0,ls.length⟩,[.cells false ls.length []],.sl (some (H.length,0)) 0 none,E.le_push _,⟨hT.emb.phantom rfl,hT.B,hT.w0⟩,.nils _ _ (by rw[<-hT.emb.n];exact Nat.lt_succ_self _) (.inl rfl),rfl,?_⟩
     unfold LTy;rw[ht]
     exact⟨H.length,[],ls,rfl,hls,by simp,by simp,fun r h=>by simp at h⟩
    simp at hv;subst hv
    obtain⟨hrl,hri⟩:=hsp rfl
    have hrow:∀i,i<len->∃cs,w.cells? base (a.add (i*P.cellsOf e)) (P.cellsOf e)=some cs/\Reads enc P w base held ls cs:=fun i hi=>by
     have h1:=hei i hi
     have hi':i<elems.length:=by omega
     rw[List.getElem?_eq_getElem hi'] at h1
     obtain⟨cs,h2,h3⟩:=Option.bind_eq_some_iff.1 h1
     exact⟨cs,h2,jC n e ls hls _ _ _ h3⟩
    have hspot:0<cap->a.spot=none:=fun h0=>by
     have hz:∃cs,w.cells? base (a.add (0*P.cellsOf e)) (P.cellsOf e)=some cs:=by
      rcases Nat.eq_zero_or_pos len with hl0|hl0
      ·have h1:=hri 0 (by omega)
       have hi':0<rest.length:=by omega
       rw[List.getElem?_eq_getElem hi',hl0,Nat.zero_add] at h1
       obtain⟨cs,h2,-⟩:=Option.bind_eq_some_iff.1 h1
       exact⟨cs,h2⟩
      obtain⟨cs,h2,-⟩:=hrow 0 hl0
      exact⟨cs,h2⟩
     obtain⟨cs,hz⟩:=hz
     obtain⟨-,hcl,hc0⟩:=World.cells?_some hz
     have:=hc0 0 (by omega)
     rw[List.getElem?_eq_getElem (by omega)] at this
     have hs:=World.cell?_spot this
     simpa [Addr.add] using hs
    have hrowlt:∀i,i<len->a.block<w.heap.size:=fun i hi=>by
     obtain⟨cs,h2,-⟩:=hrow i hi
     have:=World.cells?_block h2 (by omega)
     rwa [block_add] at this
    -- all rows, one behind the other
    have all:∀k,k<=len->∃(E':Env) (l:aa) (rows:List (List AV)),E.le E'/\Top E' (H++l) w/\rows.length=k/\(∀r:List AV,r∈rows->RTy P (H++l) n ls r) /\
      ∀(j:Nat) (x:AV),rows.flatten[j]? = some x->x.one=true/\∃v,w.cell? ⟨a.block,a.off+j,none⟩=some v/\Rel E' x v:=by
     intro k
     induction k with
     |zero=>exact fun _=>⟨E,[],[],.refl E,by simpa using hT,rfl,fun r hr=>by simp at hr,fun j x h=>by simp at h⟩
     | succ k ih =>
      intro hk
      obtain⟨E1,l1,rows,e1,t1,r1,r2,r3⟩:=ih (by omega)
      obtain⟨cs,c1,c2⟩:=hrow k (by omega)
      obtain⟨E2,l2,xs,e2,t2,x1,x2,x3⟩:=mG (ll n) ls cs (fun l hl=>kn n e ls hls l hl) c2 E1 (H++l1) t1
      obtain⟨-,hcl,hcc⟩:=World.cells?_some c1
      have hfl:rows.flatten.length=k*ls.length:=by rw[mH rows (fun r hr=>(r2 r hr).1),r1]
      refine⟨E2,l1++l2,rows++[xs],e1.trans e2,by simpa using t2,by simp[r1],fun r hr=>?_,fun j x hj=>?_⟩
      ·rcases List.mem_append.1 hr with hr|hr
       ·have:=(r2 r hr).app l2
        simpa using this
       simp at hr;subst hr
       simpa using x3
      rw[List.flatten_append] at hj
      simp only[List.flatten_cons,List.flatten_nil,List.append_nil] at hj
      by_cases hjl:j<rows.flatten.length
      ·rw[List.getElem?_append_left hjl] at hj
       obtain⟨q1,v,q2,q3⟩:=r3 j x hj
       exact⟨q1,v,q2,q3.mono e2⟩
      rw[List.getElem?_append_right (by omega)] at hj
      have hjx:=getElem?_lt hj
      have hxl:xs.length=cs.length:=x1.1
      have hcj:=hcc (j-rows.flatten.length) (by omega)
      obtain⟨v,hv,hr⟩:=x1.get hj
      refine⟨x2 x (List.mem_of_getElem? hj),v,?_,hr⟩
      rw[hv,hfl] at hcj
      have hs:=hspot (by omega)
      obtain⟨ab,ao,sp⟩:=a
      simp only at hs
      subst hs
      rw[<-hc.1] at hcj
      have ea:(({ block:=ab,off:=ao,spot:=none }:Addr).add (k*ls.length)).add (j-k*ls.length)=⟨ab,ao+j,none⟩:=by
       have:∀(m:Nat),({ block:=ab,off:=ao,spot:=none }:Addr).add m=⟨ab,ao+m,none⟩:=fun m=>dm ab ao m
       rw[this,dm]
       congr 1;omega
      rw[ea] at hcj
      exact hcj
    obtain⟨E1,l1,rows,e1,t1,r1,r2,r3⟩:=all len (Nat.le_refl _)
    have hfl:rows.flatten.length=len*ls.length:=by rw[mH rows (fun r hr=>(r2 r hr).1),r1]
    obtain ⟨E2,e2,t2,hrel⟩:=t1.push (a:=a) (len:=len) (cap:=cap) (es:=ls.length) (xs:=rows.flatten) hspot hc.2 hfl hlc hcm r3 (fun h0=>hrowlt 0 (by
     rcases Nat.eq_zero_or_pos len with hl0|hl0
     ·rw[hfl,hl0] at h0;simp at h0
     exact hl0))
    refine⟨E2,l1++[.cells false ls.length rows.flatten],.sl (some ((H++l1).length,0)) len none,e1.trans e2,by simpa using t2,hrel,rfl,?_⟩
    unfold LTy
    rw[ht]
    refine⟨(H++l1).length,rows,ls,by rw[r1],hls,by omega,?_,fun r hr=>?_⟩
    ·rw[<-List.append_assoc,List.getElem?_append_right (Nat.le_refl _),Nat.sub_self];rfl
    have:=(r2 r hr).app [.cells false ls.length rows.flatten]
    rw[List.append_assoc] at this
    exact this
   cases h
  ·rename_i fs ht
   unfold fN at hp;rw[ht] at hp;cases hp
  cases h
theorem tAgg_leaf {t:TypeId}(h:fN P t=true):aM P t=some false:=by
 unfold fN at h
 unfold aM
 split at h<;>first|(rename_i h1;rw[h1])|cases h
theorem open_arg {r:Reach}{b0 n:Nat}{t:TypeId}{v:Value}{d:DataW K}{p:List MemPlace}{ls:List TypeId}(hl:bH P n t=some ls)(hok:Value.okWide P w r b0 t v)(h:DataW.Trod enc P w base (fun _=>true) held t v d p){E:Env}{H:aa}(hT:Top E H w):
  ∃(E':Env) (l:aa) (x:AV),E.le E'/\Top E' (H++l) w/\Rel E' x v/\ATy P (H++l) n t x:=by
 obtain⟨fuel,hf⟩:=h
 cases n with
 |zero=>simp[bH] at hl
 | succ n =>
  have hl0:=hl
  have leaf:∀(hp:fN P t=true) (hs:bH P (n+1) t=some [t]) (hv:v.cells.toList=[v]),∃(E':Env) (l:aa) (x:AV),E.le E'/\Top E' (H++l) w/\Rel E' x v/\ATy P (H++l) (n+1) t x:=fun hp hs hv=>by
   rw[hv] at hf
   obtain⟨E',l,x,e1,t1,r1,o1,y1⟩:=ll (n+1) t v fuel _ hp hs hf E H hT
   exact ⟨E',l,x,e1,t1,r1,[t],[x],hs,⟨rfl,fun j l y hj hy=>by cases j with
    |zero=>simp at hj hy;subst hj hy;exact y1
    |succ j=>simp at hj⟩,.inr ⟨tAgg_leaf hp,rfl⟩⟩
  unfold bH at hl
  split at hl
  ·rename_i k ht
   simp at hl;subst hl
   obtain⟨z,rfl⟩:=okWide_int ht hok
   exact leaf (by unfold fN;rw[ht]) hl0 rfl
  ·rename_i ht
   simp at hl;subst hl
   obtain⟨z,rfl⟩:=okWide_bool ht hok
   exact leaf (by unfold fN;rw[ht]) hl0 rfl
  ·rename_i e ht
   obtain⟨l,h1,h2⟩:=ag hl
   split at h2
   ·simp at h2;subst h2
    obtain⟨a,b,c,rfl⟩:=okWide_slice ht hok
    exact leaf (by unfold fN;rw[ht]) hl0 rfl
   cases h2
  ·rename_i fs ht
   obtain⟨cs,rfl,hsz⟩:=okWide_struct ht hok
   have hr:=jC (n+1) t ls hl0 fuel _ _ hf
   obtain⟨E',l,xs,e1,t1,r1,o1,y1⟩:=mG (ll (n+1)) ls _ (fun l hl=>kn _ _ _ hl0 l hl) hr E H hT
   refine⟨E',l,.agg xs,e1,t1,?_,ls,xs,hl0,y1,.inl ⟨by unfold aM;rw[ht],rfl⟩⟩
   have:=RelL.agg r1
   simpa [Value.cells] using this
  cases hl
theorem pm {r:Reach}{b0 n:Nat}:∀(ts:List TypeId) (vs:List Value) (ds:List (DataW K)) (p:List MemPlace),DataW.TrodAll enc P w base (fun _=>true) held ts vs ds p ->
  (∀(j:Nat) (t:TypeId) (v:Value),ts[j]? = some t->vs[j]? = some v->Value.okWide P w r b0 t v)->(ts.all fun t=>(bH P n t).isSome)=true->∀(E:Env) (H:aa),Top E H w ->
  ∃(E':Env) (l:aa) (xs:List AV),E.le E'/\Top E' (H++l) w/\RelL E' xs vs/\xs.length=ts.length/\∀(j:Nat) (t:TypeId) (x:AV),ts[j]? = some t->xs[j]? = some x->ATy P (H++l) n t x
 |[],[],[],_,_,_,_,E,H,hT=>⟨E,[],[],.refl E,by simpa using hT,.nil E,rfl,fun j t x h=>by simp at h⟩
 | t::ts,v::vs,d::ds,_,h,hok,hl,E,H,hT=>by
  obtain⟨p,q,h1,h2,-⟩:=h
  simp only[List.all_cons,Bool.and_eq_true] at hl
  obtain⟨ls,hls⟩:=Option.isSome_iff_exists.1 hl.1
  obtain⟨E1,l1,x,e1,t1,r1,y1⟩:=open_arg hls (hok 0 t v rfl rfl) h1 hT
  obtain⟨E2,l2,xs,e2,t2,r2,n2,y2⟩:=pm ts vs ds q h2 (fun j t v a b=>hok (j+1) t v (by simpa using a) (by simpa using b)) hl.2 E1 (H++l1) t1
  refine⟨E2,l1++l2,x::xs,e1.trans e2,by simpa using t2,.cons (r1.mono e2) r2,by simp[n2],fun j t' x' a b=>?_⟩
  cases j with
  | zero =>
   simp at a b;subst a b
   have:=y1.app l2
   simpa using this
  | succ j =>
   have:=y2 j t' x' (by simpa using a) (by simpa using b)
   simpa using this
 |[],_::_,_,_,h,_,_,_,_,_=>by simp[DataW.TrodAll] at h
 |[],[],_::_,_,h,_,_,_,_,_=>by simp[DataW.TrodAll] at h
 |_::_,[],_,_,h,_,_,_,_,_=>by simp[DataW.TrodAll] at h
 |_::_,_::_,[],_,h,_,_,_,_,_=>by simp[DataW.TrodAll] at h
theorem calls_top {r:Reach}{b0 n:Nat}{f:FuncId}{ts:List TypeId}{vs:List Value}{ds:List (DataW K)}{p:List MemPlace}(hA:DataW.TrodAll enc P w base (fun _=>true) held ts vs ds p)
  (hok:∀(j:Nat) (t:TypeId) (v:Value),ts[j]? = some t->vs[j]? = some v->Value.okWide P w r b0 t v) (hl:(ts.all fun t=>(bH P n t).isSome)=true)
  (hc:∀(H:aa) (xs:List AV),xs.length=ts.length->(∀(j:Nat) (t:TypeId) (x:AV),ts[j]? = some t->xs[j]? = some x->ATy P H n t x)->ACalls P f xs H (fun v H'=>v=.bool true/\H'=H)) :
  Calls P f vs.toArray w fun e w'=>e=.returned (.bool true)/\Below w.heap.size w w':=by
 have hT0:Top ⟨w.heap.size,w,0,fun _=>⟨0,0,0,0⟩⟩ [] w:=⟨⟨rfl,.refl _ _,Nat.le_refl _,fun b x h=>by simp at h,fun b c x y h=>by simp at h⟩,rfl,rfl⟩
 obtain⟨E,l,xs,-,hT,hr,hn,hy⟩:=pm ts vs ds p hA hok hl _ [] hT0
 refine(hc ([]++l) xs hn hy E w vs hT.emb hr).mono fun e w' ⟨E',v,H',x,he,⟨hx,_⟩,hle,hrel,hemb⟩=>⟨?_,?_⟩
 ·subst hx;cases hrel;exact he
 have:=hemb.below
 rw[hle.B,hle.w0,hT.B,hT.w0] at this
 exact this
end
section
variable {P:Program} {H:aa} {n:Nat}
def IsP (H:aa) (s:AV) (l:List (Int×Int)):Prop:=(l=[]/\s=.sl none 0 (some 0))\/∃b own cap,s=.sl (some (b,0)) l.length cap/\H[b]? = some (.cells own 2 (prs l))
theorem IsP.app {s:AV}{l:List (Int×Int)}(h:IsP H s l)(l':aa):IsP (H++l') s l:=by
 rcases h with h|⟨b,own,cap,h1,h2⟩
 ·exact .inl h
 exact .inr ⟨b,own,cap,h1,ai h2⟩
def IsI (H:aa) (k:IntKind) (s:AV) (l:List Int):Prop:=(l=[]/\s=.sl none 0 (some 0))\/∃b own cap,s=.sl (some (b,0)) l.length cap/\H[b]? = some (.cells own 1 (ints k l))
theorem IsI.app {k:IntKind}{s:AV}{l:List Int}(h:IsI H k s l)(l':aa):IsI (H++l') k s l:=by
 rcases h with h|⟨b,own,cap,h1,h2⟩
 ·exact .inl h
 exact .inr ⟨b,own,cap,h1,ai h2⟩
theorem wf_u8 {z:Int}(h:(Lit.int .u8 z).wf=true):0<=z/\z<=255:=by
 simp[Lit.wf,IntKind.min,IntKind.max,IntKind.bits,IntKind.signed] at h
 omega
theorem RTy.cons {t:TypeId}{ls:List TypeId}{r:List AV}(h:RTy P H n (t::ls) r):∃y r',r=y::r'/\LTy P H n t y/\RTy P H n ls r':=by
 cases r with
 |nil=>have:=h.1;simp at this
 |cons y r=>exact⟨y,r,rfl,h.2 0 t y rfl rfl,by have:=h.1;simpa using this,fun j l u a b=>h.2 (j+1) l u (by simpa using a) (by simpa using b)⟩
theorem RTy.nil {r:List AV}(h:RTy P H n [] r):r=[]:=List.eq_nil_of_length_eq_zero h.1
theorem LTy.int {t:TypeId}{k:IntKind}{x:AV}(ht:P.underlying t=some (.int k))(h:LTy P H (n+1) t x):∃z,x=.int k z/\(Lit.int k z).wf=true:=by
 unfold LTy at h;rw[ht] at h;exact h
theorem LTy.bool {t:TypeId}{x:AV}(ht:P.underlying t=some .bool)(h:LTy P H (n+1) t x):∃b,x=.bool b:=by
 unfold LTy at h;rw[ht] at h;exact h
theorem LTy.slice {t e:TypeId}{x:AV}{ls:List TypeId}(ht:P.underlying t=some (.slice e))(hl:bH P n e=some ls)(h:LTy P H (n+1) t x):
  ∃(b:Nat) (rows:List (List AV)),x=.sl (some (b,0)) rows.length none/\rows.length<=maxLen/\H[b]? = some (.cells false ls.length rows.flatten)/\∀r:List AV,r∈rows->RTy P H n ls r:=by
 unfold LTy at h;rw[ht] at h
 obtain⟨b,rows,ls',h1,h2,h3,h4,h5⟩:=h
 rw[hl] at h2;simp at h2;subst h2
 exact⟨b,rows,h1,h3,h4,h5⟩
theorem ATy.agg {t:TypeId}{x:AV}{ls:List TypeId}(hl:bH P n t=some ls)(ha:aM P t=some true)(h:ATy P H n t x):∃xs,x=.agg xs/\RTy P H n ls xs:=by
 obtain⟨ls',xs,h1,h2,h3⟩:=h
 rw[hl] at h1;simp at h1;subst h1
 rcases h3 with ⟨-,h3⟩|⟨h3,-⟩
 ·exact⟨xs,h3,h2⟩
 rw[ha] at h3;cases h3
theorem ATy.one {t:TypeId}{x:AV}(hl:bH P n t=some [t])(ha:aM P t=some false)(h:ATy P H n t x):LTy P H n t x:=by
 obtain⟨ls',xs,h1,h2,h3⟩:=h
 rw[hl] at h1;simp at h1;subst h1
 rcases h3 with ⟨h3,-⟩|⟨-,h3⟩
 ·rw[ha] at h3;cases h3
 subst h3;exact h2.2 0 t x rfl rfl
theorem lm {k:IntKind}{t:TypeId}(ht:P.underlying t=some (.int k)):∀rows:List (List AV),(∀r:List AV,r∈rows->RTy P H (n+1) [t] r)->∃l:List Int,l.length=rows.length/\rows.flatten=ints k l/\∀z∈l,(Lit.int k z).wf=true
 |[],_=>⟨[],rfl,rfl,fun z h=>by simp at h⟩
 | r::rows,h=>by
  obtain⟨l,h1,h2,h3⟩:=lm ht rows fun r' hr=>h r' (by simp[hr])
  obtain⟨y,r',rfl,hy,hr⟩:=(h r (by simp)).cons
  obtain rfl:=hr.nil
  obtain⟨z,rfl,hz⟩:=hy.int ht
  exact ⟨z::l,by simp[h1],by simp[h2,ints],fun z' h'=>by
   rcases List.mem_cons.1 h' with rfl|h'
   ·exact hz
   exact h3 _ h'⟩
theorem qj {t u:TypeId}(ht:P.underlying t=some (.int .i64))(hu:P.underlying u=some (.int .i64)):∀rows:List (List AV),(∀r:List AV,r∈rows->RTy P H (n+1) [t,u] r)->∃l:List (Int×Int),l.length=rows.length/\rows.flatten=prs l/\∀p∈l,(Lit.int .i64 p.1).wf=true/\(Lit.int .i64 p.2).wf=true
 |[],_=>⟨[],rfl,rfl,fun z h=>by simp at h⟩
 | r::rows,h=>by
  obtain⟨l,h1,h2,h3⟩:=qj ht hu rows fun r' hr=>h r' (by simp[hr])
  obtain⟨y,r',rfl,hy,hr⟩:=(h r (by simp)).cons
  obtain⟨y2,r',rfl,hy2,hr⟩:=hr.cons
  obtain rfl:=hr.nil
  obtain⟨z,rfl,hz⟩:=hy.int ht
  obtain⟨z2,rfl,hz2⟩:=hy2.int hu
  exact ⟨(z,z2)::l,by simp[h1],by simp[h2,cT],fun z' h'=>by
   rcases List.mem_cons.1 h' with rfl|h'
   ·exact⟨hz,hz2⟩
   exact h3 _ h'⟩
theorem LTy.ints {t e:TypeId}{k:IntKind}{x:AV}(ht:P.underlying t=some (.slice e))(he:P.underlying e=some (.int k))(hl:bH P (n+1) e=some [e])(h:LTy P H (n+2) t x):∃l:List Int,IsI H k x l/\l.length<=maxLen/\∀z∈l,(Lit.int k z).wf=true:=by
 obtain⟨b,rows,rfl,h1,h2,h3⟩:=h.slice ht hl
 obtain⟨l,k1,k2,k3⟩:=lm he rows h3
 exact⟨l,.inr ⟨b,false,none,by rw[k1],by rw[<-k2];exact h2⟩,by omega,k3⟩
end
abbrev iV (x:Int):AV:=.int .i64 x
theorem amset0:type_of% (aiX @Int.natCast_zero <| And.intro (@gt_iff_lt.{0}) <| And.intro (@ge_iff_le.{0}) <| aiX @go_skip <| aiX @go_label <| aiX @go_seq <| aiX @go_block <| aiX @go_endB <| aiX @go_exit <| aiX @pd <| aiX @pe <| aiX @qe <| aiX @go_ret <| aiX @go_cond <| aiX @cond_t <| aiX @cond_f <| aiX @go_region <| aiX @go_regionD <| aiX @go_ops_nil <| aiX @go_opsD_nil <| aiX @go_ops <| aiX @go_opsD <| And.intro (@Option.getD_some.{0}) <| (@o6)) :=
 aiX @Int.natCast_zero <| And.intro (@gt_iff_lt.{0}) <| And.intro (@ge_iff_le.{0}) <| aiX @go_skip <| aiX @go_label <| aiX @go_seq <| aiX @go_block <| aiX @go_endB <| aiX @go_exit <| aiX @pd <| aiX @pe <| aiX @qe <| aiX @go_ret <| aiX @go_cond <| aiX @cond_t <| aiX @cond_f <| aiX @go_region <| aiX @go_regionD <| aiX @go_ops_nil <| aiX @go_opsD_nil <| aiX @go_ops <| aiX @go_opsD <| And.intro (@Option.getD_some.{0}) <| (@o6)
theorem amset1:type_of% (aiX @o7 <| aiX @o8 <| aiX @o9 <| aiX @qd <| aiX @k_some <| aiX @nq <| aiX @nt <| aiX @mm <| aiX @k_cond <| And.intro (@bne_self_eq_false.{0}) <| aiX @Nat.add_sub_cancel <| aiX @pf <| aiX @pg <| And.intro (@if_true.{1}) <| And.intro (@if_false.{1}) <| aiX @qf <| aiX @Int.toNat_natCast <| aiX @dp <| aiX @bO <| aiX @qg <| aiX @ki <| aiX @len_lit <| aiX @qh <| (@cond_true.{1})) :=
 aiX @o7 <| aiX @o8 <| aiX @o9 <| aiX @qd <| aiX @k_some <| aiX @nq <| aiX @nt <| aiX @mm <| aiX @k_cond <| And.intro (@bne_self_eq_false.{0}) <| aiX @Nat.add_sub_cancel <| aiX @pf <| aiX @pg <| And.intro (@if_true.{1}) <| And.intro (@if_false.{1}) <| aiX @qf <| aiX @Int.toNat_natCast <| aiX @dp <| aiX @bO <| aiX @qg <| aiX @ki <| aiX @len_lit <| aiX @qh <| (@cond_true.{1})
theorem amset2:type_of% (And.intro (@cond_false.{1}) <| And.intro (@List.map_cons.{0,0}) <| And.intro (@List.map_nil.{0,0}) <| And.intro (@Option.map_some.{0,0}) <| And.intro (@Option.map_none.{0,0}) <| And.intro (@Option.bind_some.{0,0}) <| And.intro (@Option.bind_none.{0,0}) <| And.intro (@Option.map_map.{0,0,0}) <| And.intro (@Option.map_bind.{0,0,0}) <| And.intro (@Option.bind_map.{0,0,0}) <| And.intro (@Function.comp_apply.{1,1,1}) <| And.intro (@List.cons_append.{0}) <| And.intro (@List.nil_append.{0}) <| And.intro (@List.append_assoc.{0}) <| And.intro (@List.append_nil.{0}) <| And.intro (@List.length_cons.{0}) <| And.intro (@List.length_nil.{0}) <| aiX @Nat.zero_add <| aiX @Nat.add_zero <| And.intro (@List.getElem?_cons_zero.{0}) <| And.intro (@List.getElem?_cons_succ.{0}) <| And.intro (@List.set_cons_zero.{0}) <| And.intro (@List.set_cons_succ.{0}) <| (@List.all_cons.{0})) :=
 And.intro (@cond_false.{1}) <| And.intro (@List.map_cons.{0,0}) <| And.intro (@List.map_nil.{0,0}) <| And.intro (@Option.map_some.{0,0}) <| And.intro (@Option.map_none.{0,0}) <| And.intro (@Option.bind_some.{0,0}) <| And.intro (@Option.bind_none.{0,0}) <| And.intro (@Option.map_map.{0,0,0}) <| And.intro (@Option.map_bind.{0,0,0}) <| And.intro (@Option.bind_map.{0,0,0}) <| And.intro (@Function.comp_apply.{1,1,1}) <| And.intro (@List.cons_append.{0}) <| And.intro (@List.nil_append.{0}) <| And.intro (@List.append_assoc.{0}) <| And.intro (@List.append_nil.{0}) <| And.intro (@List.length_cons.{0}) <| And.intro (@List.length_nil.{0}) <| aiX @Nat.zero_add <| aiX @Nat.add_zero <| And.intro (@List.getElem?_cons_zero.{0}) <| And.intro (@List.getElem?_cons_succ.{0}) <| And.intro (@List.set_cons_zero.{0}) <| And.intro (@List.set_cons_succ.{0}) <| (@List.all_cons.{0})
theorem amset3:type_of% (And.intro (@List.all_nil.{0}) <| aiX @Bool.and_true <| aiX @Bool.true_and <| aiX @Bool.and_self <| And.intro (@List.drop_zero.{0}) <| And.intro (@List.drop_succ_cons.{0}) <| And.intro (@List.take_succ_cons.{0}) <| And.intro (@List.take_zero.{0}) <| And.intro (@List.drop_nil.{0}) <| And.intro (@List.take_nil.{0}) <| And.intro (@beq_self_eq_true.{0}) <| aiX @true_and <| aiX @and_true <| aiX @Nat.lt_add_one <| aiX @decide_true <| aiX @decide_false <| aiX @Bool.not_true <| aiX @Bool.not_false <| aiX @Bool.or_true <| aiX @Bool.or_false <| aiX @Bool.false_or <| aiX @Bool.true_or <| aiX @beq_true <| (@beq_false)) :=
 And.intro (@List.all_nil.{0}) <| aiX @Bool.and_true <| aiX @Bool.true_and <| aiX @Bool.and_self <| And.intro (@List.drop_zero.{0}) <| And.intro (@List.drop_succ_cons.{0}) <| And.intro (@List.take_succ_cons.{0}) <| And.intro (@List.take_zero.{0}) <| And.intro (@List.drop_nil.{0}) <| And.intro (@List.take_nil.{0}) <| And.intro (@beq_self_eq_true.{0}) <| aiX @true_and <| aiX @and_true <| aiX @Nat.lt_add_one <| aiX @decide_true <| aiX @decide_false <| aiX @Bool.not_true <| aiX @Bool.not_false <| aiX @Bool.or_true <| aiX @Bool.or_false <| aiX @Bool.false_or <| aiX @Bool.true_or <| aiX @beq_true <| (@beq_false)
theorem amset4:type_of% (aiX @iS <| aiX @rng0 <| aiX @rng1 <| aiX @rng2 <| aiX @rng3 <| aiX @rng4 <| aiX @rng5 <| aiX @rng6 <| aiX @rng7 <| aiX @rng8 <| aiX @rng9 <| aiX @rng10 <| aiX @rng11 <| aiX @rng12 <| aiX @rng16 <| aiX @bZ <| aiX @mE <| aiX @kj <| aiX @pi <| aiX @pj <| aiX @pk <| aiX @bm <| And.intro (@List.length_append.{0}) <| (@Option.getD_none.{0})) :=
 aiX @iS <| aiX @rng0 <| aiX @rng1 <| aiX @rng2 <| aiX @rng3 <| aiX @rng4 <| aiX @rng5 <| aiX @rng6 <| aiX @rng7 <| aiX @rng8 <| aiX @rng9 <| aiX @rng10 <| aiX @rng11 <| aiX @rng12 <| aiX @rng16 <| aiX @bZ <| aiX @mE <| aiX @kj <| aiX @pi <| aiX @pj <| aiX @pk <| aiX @bm <| And.intro (@List.length_append.{0}) <| (@Option.getD_none.{0})
theorem amset5:type_of% (And.intro (@List.length_set.{0}) <| And.intro (@List.length_replicate.{0}) <| And.intro (@List.getD_cons_zero.{0}) <| And.intro (@List.getD_cons_succ.{0}) <| aiX @Nat.mul_one <| aiX @Nat.one_mul <| aiX @Nat.zero_mul <| (@Nat.mul_zero)) :=
 And.intro (@List.length_set.{0}) <| And.intro (@List.length_replicate.{0}) <| And.intro (@List.getD_cons_zero.{0}) <| And.intro (@List.getD_cons_succ.{0}) <| aiX @Nat.mul_one <| aiX @Nat.one_mul <| aiX @Nat.zero_mul <| (@Nat.mul_zero)
theorem amdef0:type_of% (aiX @AGd.eq_1 <| aiX @AGd.eq_2 <| aiX @gdL.eq_1 <| aiX @gdL.eq_2 <| aiX @gdL.eq_3 <| aiX @lightOf.eq_1 <| aiX @dsts.eq_1 <| aiX @ADo.eq_1 <| aiX @lenV.eq_1 <| aiX @lenV.eq_2 <| aiX @aev.eq_1 <| aiX @aev.eq_2 <| aiX @aev.eq_3 <| aiX @aev.eq_4 <| aiX @look.eq_1 <| aiX @look.eq_2 <| aiX @putF.eq_1 <| aiX @putF.eq_2 <| aiX @AV.cells.eq_1 <| aiX @AV.cells.eq_2 <| aiX @AV.flat.eq_1 <| aiX @AV.flat.eq_2 <| aiX @AV.flat.eq_3 <| (@AV.flat.eq_4)) :=
 aiX @AGd.eq_1 <| aiX @AGd.eq_2 <| aiX @gdL.eq_1 <| aiX @gdL.eq_2 <| aiX @gdL.eq_3 <| aiX @lightOf.eq_1 <| aiX @dsts.eq_1 <| aiX @ADo.eq_1 <| aiX @lenV.eq_1 <| aiX @lenV.eq_2 <| aiX @aev.eq_1 <| aiX @aev.eq_2 <| aiX @aev.eq_3 <| aiX @aev.eq_4 <| aiX @look.eq_1 <| aiX @look.eq_2 <| aiX @putF.eq_1 <| aiX @putF.eq_2 <| aiX @AV.cells.eq_1 <| aiX @AV.cells.eq_2 <| aiX @AV.flat.eq_1 <| aiX @AV.flat.eq_2 <| aiX @AV.flat.eq_3 <| (@AV.flat.eq_4)
theorem amdef1:type_of% (aiX @aAlloc.eq_1 <| aiX @aNew.eq_1 <| aiX @aBox.eq_1 <| aiX @aBuild.eq_1 <| aiX @afill.eq_1 <| aiX @afill.eq_2 <| aiX @splice.eq_1 <| aiX @splice.eq_2 <| aiX @aBuildSlice.eq_1 <| aiX @arep.eq_1 <| aiX @arep.eq_2 <| aiX @aLoad.eq_1 <| aiX @aLoad.eq_2 <| aiX @ard.eq_1 <| aiX @ards.eq_1 <| aiX @aStore.eq_1 <| aiX @aStore.eq_2 <| aiX @awrite.eq_1 <| aiX @aFieldAddr.eq_1 <| aiX @aFieldAddr.eq_2 <| aiX @aField.eq_1 <| aiX @aField.eq_2 <| aiX @aIndexAddr.eq_1 <| (@aIndexAddr.eq_2)) :=
 aiX @aAlloc.eq_1 <| aiX @aNew.eq_1 <| aiX @aBox.eq_1 <| aiX @aBuild.eq_1 <| aiX @afill.eq_1 <| aiX @afill.eq_2 <| aiX @splice.eq_1 <| aiX @splice.eq_2 <| aiX @aBuildSlice.eq_1 <| aiX @arep.eq_1 <| aiX @arep.eq_2 <| aiX @aLoad.eq_1 <| aiX @aLoad.eq_2 <| aiX @ard.eq_1 <| aiX @ards.eq_1 <| aiX @aStore.eq_1 <| aiX @aStore.eq_2 <| aiX @awrite.eq_1 <| aiX @aFieldAddr.eq_1 <| aiX @aFieldAddr.eq_2 <| aiX @aField.eq_1 <| aiX @aField.eq_2 <| aiX @aIndexAddr.eq_1 <| (@aIndexAddr.eq_2)
theorem amdef2:type_of% (aiX @aIndexAddr.eq_3 <| aiX @aIndex.eq_1 <| aiX @aIndex.eq_2 <| aiX @aExtract.eq_1 <| aiX @aExtract.eq_2 <| aiX @aBound.eq_1 <| aiX @aBound.eq_2 <| aiX @aBound.eq_3 <| aiX @aSlice.eq_1 <| aiX @aSlice.eq_2 <| aiX @aSlice.eq_3 <| aiX @aInt.eq_1 <| aiX @aInt.eq_2 <| aiX @aInt.eq_3 <| aiX @aInt.eq_4 <| aiX @aInt.eq_5 <| aiX @aInt.eq_6 <| aiX @aInt.eq_7 <| aiX @aInt.eq_8 <| aiX @aInt.eq_9 <| aiX @aInt.eq_10 <| aiX @aInt.eq_11 <| aiX @aInt.eq_12 <| (@aInt.eq_13)) :=
 aiX @aIndexAddr.eq_3 <| aiX @aIndex.eq_1 <| aiX @aIndex.eq_2 <| aiX @aExtract.eq_1 <| aiX @aExtract.eq_2 <| aiX @aBound.eq_1 <| aiX @aBound.eq_2 <| aiX @aBound.eq_3 <| aiX @aSlice.eq_1 <| aiX @aSlice.eq_2 <| aiX @aSlice.eq_3 <| aiX @aInt.eq_1 <| aiX @aInt.eq_2 <| aiX @aInt.eq_3 <| aiX @aInt.eq_4 <| aiX @aInt.eq_5 <| aiX @aInt.eq_6 <| aiX @aInt.eq_7 <| aiX @aInt.eq_8 <| aiX @aInt.eq_9 <| aiX @aInt.eq_10 <| aiX @aInt.eq_11 <| aiX @aInt.eq_12 <| (@aInt.eq_13)
theorem amdef3:type_of% (aiX @aInt.eq_14 <| aiX @aInt.eq_15 <| aiX @aInt.eq_16 <| aiX @aInt.eq_17 <| aiX @aUn.eq_1 <| aiX @aUn.eq_2 <| aiX @aUn.eq_3 <| aiX @aLen.eq_1 <| aiX @aLen.eq_2 <| aiX @aLen.eq_3 <| aiX @aLen.eq_4 <| aiX @aElems.eq_1 <| aiX @aElems.eq_2 <| aiX @aElems.eq_3 <| aiX @aCopy.eq_1 <| aiX @aMin2.eq_1 <| aiX @aMin2.eq_2 <| aiX @aMax2.eq_1 <| aiX @aMax2.eq_2 <| aiX @aFold.eq_1 <| aiX @aFold.eq_2 <| aiX @aBuiltin.eq_1 <| aiX @aBuiltin.eq_2 <| (@aBuiltin.eq_3)) :=
 aiX @aInt.eq_14 <| aiX @aInt.eq_15 <| aiX @aInt.eq_16 <| aiX @aInt.eq_17 <| aiX @aUn.eq_1 <| aiX @aUn.eq_2 <| aiX @aUn.eq_3 <| aiX @aLen.eq_1 <| aiX @aLen.eq_2 <| aiX @aLen.eq_3 <| aiX @aLen.eq_4 <| aiX @aElems.eq_1 <| aiX @aElems.eq_2 <| aiX @aElems.eq_3 <| aiX @aCopy.eq_1 <| aiX @aMin2.eq_1 <| aiX @aMin2.eq_2 <| aiX @aMax2.eq_1 <| aiX @aMax2.eq_2 <| aiX @aFold.eq_1 <| aiX @aFold.eq_2 <| aiX @aBuiltin.eq_1 <| aiX @aBuiltin.eq_2 <| (@aBuiltin.eq_3)
theorem amdef4:type_of% (aiX @aBuiltin.eq_4 <| aiX @aBuiltin.eq_5 <| aiX @aBuiltin.eq_6 <| aiX @aBuiltin.eq_7 <| aiX @aBuiltin.eq_8 <| aiX @aClear.eq_1 <| aiX @aMakeSlice.eq_1 <| aiX @aMakeSlice.eq_2 <| aiX @aMapUpdate.eq_1 <| aiX @aMapUpdate.eq_2 <| aiX @aDelete.eq_1 <| aiX @aDelete.eq_2 <| aiX @aLookup.eq_1 <| aiX @argF.eq_1 <| aiX @argF.eq_2 <| aiX @isSh.eq_1 <| aiX @isSh.eq_2 <| aiX @isSh.eq_3 <| aiX @aRes.eq_1 <| aiX @aRes.eq_2 <| aiX @aRes.eq_3 <| aiX @one1.eq_1 <| aiX @one1.eq_2 <| (@or_false)) :=
 aiX @aBuiltin.eq_4 <| aiX @aBuiltin.eq_5 <| aiX @aBuiltin.eq_6 <| aiX @aBuiltin.eq_7 <| aiX @aBuiltin.eq_8 <| aiX @aClear.eq_1 <| aiX @aMakeSlice.eq_1 <| aiX @aMakeSlice.eq_2 <| aiX @aMapUpdate.eq_1 <| aiX @aMapUpdate.eq_2 <| aiX @aDelete.eq_1 <| aiX @aDelete.eq_2 <| aiX @aLookup.eq_1 <| aiX @argF.eq_1 <| aiX @argF.eq_2 <| aiX @isSh.eq_1 <| aiX @isSh.eq_2 <| aiX @isSh.eq_3 <| aiX @aRes.eq_1 <| aiX @aRes.eq_2 <| aiX @aRes.eq_3 <| aiX @one1.eq_1 <| aiX @one1.eq_2 <| (@or_false)
theorem amdef5:type_of% (aiX @or_true <| (@true_or)) :=
 aiX @or_true <| (@true_or)
theorem amdef:type_of% (aiX @amdef0 <| aiX @amdef1 <| aiX @amdef2 <| aiX @amdef3 <| aiX @amdef4 <| (@amdef5)) :=
 aiX @amdef0 <| aiX @amdef1 <| aiX @amdef2 <| aiX @amdef3 <| aiX @amdef4 <| (@amdef5)
theorem qk:type_of% (aiX @Bool.not_eq_true' <| aiX @Bool.not_eq_false' <| aiX @decide_eq_true_eq <| aiX @decide_eq_false_iff_not <| And.intro (@beq_iff_eq Int _ _) <| And.intro (@bne_iff_ne Int _ _) <| aiX @Bool.not_eq_true <| aiX @Bool.not_eq_false <| And.intro (@beq_eq_false_iff_ne Int _ _) <| And.intro (@bne_eq_false_iff_eq Int _ _) <| aiX @Classical.not_not <| aiX @Bool.and_eq_true <| (@Bool.and_eq_false_imp)) :=
 aiX @Bool.not_eq_true' <| aiX @Bool.not_eq_false' <| aiX @decide_eq_true_eq <| aiX @decide_eq_false_iff_not <| And.intro (@beq_iff_eq Int _ _) <| And.intro (@bne_iff_ne Int _ _) <| aiX @Bool.not_eq_true <| aiX @Bool.not_eq_false <| And.intro (@beq_eq_false_iff_ne Int _ _) <| And.intro (@bne_eq_false_iff_eq Int _ _) <| aiX @Classical.not_not <| aiX @Bool.and_eq_true <| (@Bool.and_eq_false_imp)
theorem jL:type_of% ((@qk)) :=
 (@qk)
theorem aJ:type_of% (aiX @amset0 <| aiX @amset1 <| aiX @amset2 <| aiX @amset3 <| aiX @amset4 <| aiX @amset5 <| (@amdef)) :=
 aiX @amset0 <| aiX @amset1 <| aiX @amset2 <| aiX @amset3 <| aiX @amset4 <| aiX @amset5 <| (@amdef)
theorem jn {a b:Prop}(x:a)(y:b):a/\b:=⟨x,y⟩
theorem aZ {P:Program}{fn:Func}{F:Fr}{H:aa}{l:List ResultVar}{x:AV}(h1:fn.results=l.toArray)(h2:(aRes P l F H).map one1=some x:=by simp -implicitDefEqProofs (disch:=omega) only [simprocAttr,aJ,aK,Function.comp_apply,one1,lenV,aj,av,aA,aop,AV.ofValue,AV.ofCell,AV.cells,AV.flat,AV.one,arep,aU,ap,aG]):cW P fn F H=some x:=jI h1 h2
theorem resTf {r:Prop}(f:r){P:Program}{fn:Func}{F:Fr}{H:aa}{l:List ResultVar}{x:AV}(h1:fn.results=l.toArray)(h2:r->(aRes P l F H).map one1=some x:=by intro hs;simp -implicitDefEqProofs (disch:=omega) only [hs,simprocAttr,aJ,aK,Function.comp_apply,one1,lenV,aj,av,aA,aop,AV.ofValue,AV.ofCell,AV.cells,AV.flat,AV.one,arep,aU,ap,aG]):cW P fn F H=some x:=jI h1 (h2 f)
theorem absT {p:Prop}(h:p:=by
 simp -implicitDefEqProofs (disch:=omega) only [fj,fB,iQ,jH,lJ,lK,iP,gE,gF,gG,iR,look,List.cons_append,List.nil_append,List.append_nil,List.length_cons,List.length_nil,Nat.zero_add,Nat.reduceAdd,AV.mv,AV.mvs,ABlk.mv,gJ,gK,ij,List.getElem?_cons_zero,List.getElem?_cons_succ,fz,fA,gL,eK,cond_true,cond_false,beq_self_eq_true,Nat.reduceBEq,true_and,and_true,or_true,true_or,and_self,decide_true,Nat.add_zero,reduceCtorEq,false_or,or_false]
 repeat' (first|exact True.intro|exact Nat.add_lt_add_left (by decide) _|exact Nat.lt_add_of_pos_right (by decide)|refine d5 ?_ (Or.inr rfl)|refine d5 ?_ (Or.inl rfl)|refine dA ?_ (Or.inr rfl)|refine dA ?_ (Or.inl rfl)|exact kg|rfl|refine And.intro ?_ ?_|exact Or.inl rfl|exact Or.inr rfl|exact Or.inr (Or.inl rfl)|exact Or.inr (Or.inr BW.emp)|exact Or.inr BW.emp|exact BW.emp|exact Or.inr (Or.inr BW.pre)|exact Or.inr BW.pre|exact BW.pre|refine Or.inr (BW.cells ?_)|refine BW.cells ?_|refine Or.inr (Or.inr (BW.cells ?_))|exact jb)):p:=h
theorem absTf {p r:Prop}(f:r) (h:r->p:=by
 intro hs
 simp -implicitDefEqProofs (disch:=omega) only [hs,fj,fB,iQ,jH,lJ,lK,iP,gE,gF,gG,iR,look,List.cons_append,List.nil_append,List.append_nil,List.length_cons,List.length_nil,Nat.zero_add,Nat.reduceAdd,AV.mv,AV.mvs,ABlk.mv,gJ,gK,ij,List.getElem?_cons_zero,List.getElem?_cons_succ,fz,fA,gL,eK,cond_true,cond_false,beq_self_eq_true,Nat.reduceBEq,true_and,and_true,or_true,true_or,and_self,decide_true,Nat.add_zero,reduceCtorEq,false_or,or_false]
 repeat' (first|exact True.intro|exact Nat.add_lt_add_left (by decide) _|exact Nat.lt_add_of_pos_right (by decide)|refine d5 ?_ (Or.inr rfl)|refine d5 ?_ (Or.inl rfl)|refine dA ?_ (Or.inr rfl)|refine dA ?_ (Or.inl rfl)|exact kg|rfl|refine And.intro ?_ ?_|exact Or.inl rfl|exact Or.inr rfl|exact Or.inr (Or.inl rfl)|exact Or.inr (Or.inr BW.emp)|exact Or.inr BW.emp|exact BW.emp|exact Or.inr (Or.inr BW.pre)|exact Or.inr BW.pre|exact BW.pre|refine Or.inr (BW.cells ?_)|refine BW.cells ?_|refine Or.inr (Or.inr (BW.cells ?_))|exact jb)):p:=h f
theorem aD {p:Prop}(h:p:=by
 simp -implicitDefEqProofs (disch:=omega) only [nz,nA,nB,lO,lP,lQ,fj,fB,iQ,jH,lJ,lK,iP,gE,gF,gG,iR,look,List.cons_append,List.nil_append,List.append_nil,List.length_cons,List.length_nil,Nat.zero_add,Nat.reduceAdd,AV.mv,AV.mvs,ABlk.mv,gJ,gK,ij,List.getElem?_cons_zero,List.getElem?_cons_succ,fz,fA,gL,eK,cond_true,cond_false,beq_self_eq_true,Nat.reduceBEq,true_and,and_true,or_true,true_or,and_self,decide_true,Nat.add_zero,reduceCtorEq,false_or,or_false]
 repeat' (first|exact True.intro|exact Nat.add_lt_add_left (by decide) _|exact Nat.lt_add_of_pos_right (by decide)|refine d5 ?_ (Or.inr rfl)|refine d5 ?_ (Or.inl rfl)|refine dA ?_ (Or.inr rfl)|refine dA ?_ (Or.inl rfl)|exact kg|rfl|refine And.intro ?_ ?_|exact Or.inl rfl|exact Or.inr rfl|exact Or.inr (Or.inl rfl)|exact Or.inr (Or.inr BW.emp)|exact Or.inr BW.emp|exact BW.emp|exact Or.inr (Or.inr BW.pre)|exact Or.inr BW.pre|exact BW.pre|refine Or.inr (BW.cells ?_)|refine BW.cells ?_|refine Or.inr (Or.inr (BW.cells ?_))|exact jb)):p:=h
theorem aN {p r:Prop}(f:r) (h:r->p:=by
 intro hs
 simp -implicitDefEqProofs (disch:=omega) only [hs,nz,nA,nB,lO,lP,lQ,fj,fB,iQ,jH,lJ,lK,iP,gE,gF,gG,iR,look,List.cons_append,List.nil_append,List.append_nil,List.length_cons,List.length_nil,Nat.zero_add,Nat.reduceAdd,AV.mv,AV.mvs,ABlk.mv,gJ,gK,ij,List.getElem?_cons_zero,List.getElem?_cons_succ,fz,fA,gL,eK,cond_true,cond_false,beq_self_eq_true,Nat.reduceBEq,true_and,and_true,or_true,true_or,and_self,decide_true,Nat.add_zero,reduceCtorEq,false_or,or_false]
 repeat' (first|exact True.intro|exact Nat.add_lt_add_left (by decide) _|exact Nat.lt_add_of_pos_right (by decide)|refine d5 ?_ (Or.inr rfl)|refine d5 ?_ (Or.inl rfl)|refine dA ?_ (Or.inr rfl)|refine dA ?_ (Or.inl rfl)|exact kg|rfl|refine And.intro ?_ ?_|exact Or.inl rfl|exact Or.inr rfl|exact Or.inr (Or.inl rfl)|exact Or.inr (Or.inr BW.emp)|exact Or.inr BW.emp|exact BW.emp|exact Or.inr (Or.inr BW.pre)|exact Or.inr BW.pre|exact BW.pre|refine Or.inr (BW.cells ?_)|refine BW.cells ?_|refine Or.inr (Or.inr (BW.cells ?_))|exact jb)):p:=h f
theorem fk {p:Prop}(h:p:=by
 simp -implicitDefEqProofs (disch:=omega) only [List.length_append,List.length_cons,List.length_nil,du,ownG_s,nv,nw,eM,cT,jJ,qz,pn,qA,pq,ny,pr,nz,nA,nB,lO,lP,lQ,fj,fB,iQ,jH,lJ,lK,iP,gE,gF,gG,iR,look,List.cons_append,List.nil_append,List.append_nil,List.length_cons,List.length_nil,Nat.zero_add,Nat.reduceAdd,AV.mv,AV.mvs,ABlk.mv,gJ,gK,ij,List.getElem?_cons_zero,List.getElem?_cons_succ,fz,fA,gL,eK,cond_true,cond_false,beq_self_eq_true,Nat.reduceBEq,true_and,and_true,or_true,true_or,and_self,decide_true,Nat.add_zero,reduceCtorEq,false_or,or_false]
 repeat' (first|exact True.intro|exact Nat.add_lt_add_left (by decide) _|exact Nat.lt_add_of_pos_right (by decide)|refine d5 ?_ (Or.inr rfl)|refine d5 ?_ (Or.inl rfl)|refine dA ?_ (Or.inr rfl)|refine dA ?_ (Or.inl rfl)|exact kg|rfl|refine And.intro ?_ ?_|exact Or.inl rfl|exact Or.inr rfl|exact Or.inr (Or.inl rfl)|exact Or.inr (Or.inr BW.emp)|exact Or.inr BW.emp|exact BW.emp|exact Or.inr (Or.inr BW.pre)|exact Or.inr BW.pre|exact BW.pre|refine Or.inr (BW.cells ?_)|refine BW.cells ?_|refine Or.inr (Or.inr (BW.cells ?_))|exact jb)):p:=h
theorem az {p r:Prop}(f:r) (h:r->p:=by
 intro hs
 simp -implicitDefEqProofs (disch:=omega) only [hs,List.length_append,List.length_cons,List.length_nil,du,ownG_s,nv,nw,eM,cT,jJ,qz,pn,qA,pq,ny,pr,nz,nA,nB,lO,lP,lQ,fj,fB,iQ,jH,lJ,lK,iP,gE,gF,gG,iR,look,List.cons_append,List.nil_append,List.append_nil,List.length_cons,List.length_nil,Nat.zero_add,Nat.reduceAdd,AV.mv,AV.mvs,ABlk.mv,gJ,gK,ij,List.getElem?_cons_zero,List.getElem?_cons_succ,fz,fA,gL,eK,cond_true,cond_false,beq_self_eq_true,Nat.reduceBEq,true_and,and_true,or_true,true_or,and_self,decide_true,Nat.add_zero,reduceCtorEq,false_or,or_false]
 repeat' (first|exact True.intro|exact Nat.add_lt_add_left (by decide) _|exact Nat.lt_add_of_pos_right (by decide)|refine d5 ?_ (Or.inr rfl)|refine d5 ?_ (Or.inl rfl)|refine dA ?_ (Or.inr rfl)|refine dA ?_ (Or.inl rfl)|exact kg|rfl|refine And.intro ?_ ?_|exact Or.inl rfl|exact Or.inr rfl|exact Or.inr (Or.inl rfl)|exact Or.inr (Or.inr BW.emp)|exact Or.inr BW.emp|exact BW.emp|exact Or.inr (Or.inr BW.pre)|exact Or.inr BW.pre|exact BW.pre|refine Or.inr (BW.cells ?_)|refine BW.cells ?_|refine Or.inr (Or.inr (BW.cells ?_))|exact jb)):p:=h f
open Go.Proofs.Tryz
theorem try_mixed:prog.follows .mixedOrders=true:=by kernel_rfl
theorem tInt5:fQ prog 5=some .u8:=by kernel_rfl
theorem tElem22:cr prog 22=some 5:=by kernel_rfl
theorem tEq25 (a0 a1 a2 a3 b0 b1 b2 b3:Int):aEq prog 20 25 [.int .i64 a0,.int .i64 a1,.int .i64 a2,.int .i64 a3] [.int .i64 b0,.int .i64 b1,.int .i64 b2,.int .i64 b3]=some ((a0==b0)&&((a1==b1)&&((a2==b2)&&((a3==b3)&&true)))):=by kernel_rfl
theorem tEq26 (a0 a1 a2 a3 b0 b1 b2 b3:Int):aEq prog 20 26 [.int .i64 a0,.int .i64 a1,.int .i64 a2,.int .i64 a3] [.int .i64 b0,.int .i64 b1,.int .i64 b2,.int .i64 b3]=some ((a0==b0)&&((a1==b1)&&((a2==b2)&&((a3==b3)&&true)))):=by kernel_rfl
theorem tEq27 (a0 a1 a2 b0 b1 b2:Int):aEq prog 20 27 [.int .i64 a0,.int .i64 a1,.int .i64 a2] [.int .i64 b0,.int .i64 b1,.int .i64 b2]=some ((a0==b0)&&((a1==b1)&&((a2==b2)&&true))):=by kernel_rfl
theorem tEq28 (a0 a1 a2 b0 b1 b2:Int):aEq prog 20 28 [.int .i64 a0,.int .i64 a1,.int .i64 a2] [.int .i64 b0,.int .i64 b1,.int .i64 b2]=some ((a0==b0)&&((a1==b1)&&((a2==b2)&&true))):=by kernel_rfl
theorem tEq49 (a0 a1 b0 b1:Int):aEq prog 20 49 [.int .i64 a0,.int .i64 a1] [.int .i64 b0,.int .i64 b1]=some ((a0==b0)&&((a1==b1)&&true)):=by kernel_rfl
theorem tEq50 (a0 a1 b0 b1:Int):aEq prog 20 50 [.int .i64 a0,.int .i64 a1] [.int .i64 b0,.int .i64 b1]=some ((a0==b0)&&((a1==b1)&&true)):=by kernel_rfl
theorem tEq59 (a0 a1 a2 a3 a4 a5 b0 b1 b2 b3 b4 b5:Int):aEq prog 20 59 [.int .i64 a0,.int .i64 a1,.int .i64 a2,.int .i64 a3,.int .i64 a4,.int .i64 a5] [.int .i64 b0,.int .i64 b1,.int .i64 b2,.int .i64 b3,.int .i64 b4,.int .i64 b5]=some ((a0==b0)&&((a1==b1)&&((a2==b2)&&((a3==b3)&&((a4==b4)&&((a5==b5)&&true)))))):=by kernel_rfl
theorem tEq60 (a0 a1 a2 a3 a4 a5 b0 b1 b2 b3 b4 b5:Int):aEq prog 20 60 [.int .i64 a0,.int .i64 a1,.int .i64 a2,.int .i64 a3,.int .i64 a4,.int .i64 a5] [.int .i64 b0,.int .i64 b1,.int .i64 b2,.int .i64 b3,.int .i64 b4,.int .i64 b5]=some ((a0==b0)&&((a1==b1)&&((a2==b2)&&((a3==b3)&&((a4==b4)&&((a5==b5)&&true)))))):=by kernel_rfl
theorem tEq61 (a0 a1 b0 b1:Int):aEq prog 20 61 [.int .i64 a0,.int .i64 a1] [.int .i64 b0,.int .i64 b1]=some ((a0==b0)&&((a1==b1)&&true)):=by kernel_rfl
theorem tEq62 (a0 a1 b0 b1:Int):aEq prog 20 62 [.int .i64 a0,.int .i64 a1] [.int .i64 b0,.int .i64 b1]=some ((a0==b0)&&((a1==b1)&&true)):=by kernel_rfl
theorem tEq65 (a0 a1 a2 a3 b0 b1 b2 b3:Int):aEq prog 20 65 [.int .i64 a0,.int .i64 a1,.int .i64 a2,.int .i64 a3] [.int .i64 b0,.int .i64 b1,.int .i64 b2,.int .i64 b3]=some ((a0==b0)&&((a1==b1)&&((a2==b2)&&((a3==b3)&&true)))):=by kernel_rfl
theorem tEq66 (a0 a1 a2 a3 b0 b1 b2 b3:Int):aEq prog 20 66 [.int .i64 a0,.int .i64 a1,.int .i64 a2,.int .i64 a3] [.int .i64 b0,.int .i64 b1,.int .i64 b2,.int .i64 b3]=some ((a0==b0)&&((a1==b1)&&((a2==b2)&&((a3==b3)&&true)))):=by kernel_rfl
theorem tEq97 (a0 a1 b0 b1:Int):aEq prog 20 97 [.int .i64 a0,.int .i64 a1] [.int .i64 b0,.int .i64 b1]=some ((a0==b0)&&((a1==b1)&&true)):=by kernel_rfl
theorem tEq98 (a0 a1 b0 b1:Int):aEq prog 20 98 [.int .i64 a0,.int .i64 a1] [.int .i64 b0,.int .i64 b1]=some ((a0==b0)&&((a1==b1)&&true)):=by kernel_rfl
theorem tEq110 (a0 a1 b0 b1:Int):aEq prog 20 110 [.int .i64 a0,.int .i64 a1] [.int .i64 b0,.int .i64 b1]=some ((a0==b0)&&((a1==b1)&&true)):=by kernel_rfl
theorem tEq111 (a0 a1 b0 b1:Int):aEq prog 20 111 [.int .i64 a0,.int .i64 a1] [.int .i64 b0,.int .i64 b1]=some ((a0==b0)&&((a1==b1)&&true)):=by kernel_rfl
theorem tEq133 (a0 a1 b0 b1:Int):aEq prog 20 133 [.int .i64 a0,.int .i64 a1] [.int .i64 b0,.int .i64 b1]=some ((a0==b0)&&((a1==b1)&&true)):=by kernel_rfl
theorem tEq143 (a0 a1 a2 a3 b0 b1 b2 b3:Int):aEq prog 20 143 [.int .i64 a0,.int .i64 a1,.int .i64 a2,.int .i64 a3] [.int .i64 b0,.int .i64 b1,.int .i64 b2,.int .i64 b3]=some ((a0==b0)&&((a1==b1)&&((a2==b2)&&((a3==b3)&&true)))):=by kernel_rfl
theorem tEq144 (a0 a1 a2 a3 b0 b1 b2 b3:Int):aEq prog 20 144 [.int .i64 a0,.int .i64 a1,.int .i64 a2,.int .i64 a3] [.int .i64 b0,.int .i64 b1,.int .i64 b2,.int .i64 b3]=some ((a0==b0)&&((a1==b1)&&((a2==b2)&&((a3==b3)&&true)))):=by kernel_rfl
theorem tEq175 (a0 a1 a2 b0 b1 b2:Int):aEq prog 20 175 [.int .i64 a0,.int .i64 a1,.int .i64 a2] [.int .i64 b0,.int .i64 b1,.int .i64 b2]=some ((a0==b0)&&((a1==b1)&&((a2==b2)&&true))):=by kernel_rfl
theorem tEq176 (a0 a1 a2 b0 b1 b2:Int):aEq prog 20 176 [.int .i64 a0,.int .i64 a1,.int .i64 a2] [.int .i64 b0,.int .i64 b1,.int .i64 b2]=some ((a0==b0)&&((a1==b1)&&((a2==b2)&&true))):=by kernel_rfl
theorem tEq177 (a0 a1 a2 a3 a4 a5 a6 a7 a8 b0 b1 b2 b3 b4 b5 b6 b7 b8:Int):aEq prog 20 177 [.int .i64 a0,.int .i64 a1,.int .i64 a2,.int .i64 a3,.int .i64 a4,.int .i64 a5,.int .i64 a6,.int .i64 a7,.int .i64 a8] [.int .i64 b0,.int .i64 b1,.int .i64 b2,.int .i64 b3,.int .i64 b4,.int .i64 b5,.int .i64 b6,.int .i64 b7,.int .i64 b8]=some (((a0==b0)&&((a1==b1)&&((a2==b2)&&((a3==b3)&&((a4==b4)&&((a5==b5)&&true))))))&&(((a6==b6)&&((a7==b7)&&((a8==b8)&&true)))&&true)):=by kernel_rfl
theorem tEq178 (a0 a1 a2 a3 a4 a5 a6 a7 a8 b0 b1 b2 b3 b4 b5 b6 b7 b8:Int):aEq prog 20 178 [.int .i64 a0,.int .i64 a1,.int .i64 a2,.int .i64 a3,.int .i64 a4,.int .i64 a5,.int .i64 a6,.int .i64 a7,.int .i64 a8] [.int .i64 b0,.int .i64 b1,.int .i64 b2,.int .i64 b3,.int .i64 b4,.int .i64 b5,.int .i64 b6,.int .i64 b7,.int .i64 b8]=some (((a0==b0)&&((a1==b1)&&((a2==b2)&&((a3==b3)&&((a4==b4)&&((a5==b5)&&true))))))&&(((a6==b6)&&((a7==b7)&&((a8==b8)&&true)))&&true)):=by kernel_rfl
theorem tEq193 (a0 a1 b0 b1:Int):aEq prog 20 193 [.int .i64 a0,.int .i64 a1] [.int .i64 b0,.int .i64 b1]=some ((a0==b0)&&((a1==b1)&&true)):=by kernel_rfl
theorem tEq194 (a0 a1 b0 b1:Int):aEq prog 20 194 [.int .i64 a0,.int .i64 a1] [.int .i64 b0,.int .i64 b1]=some ((a0==b0)&&((a1==b1)&&true)):=by kernel_rfl
theorem tEq257 (a0 a1 a2 a3 b0 b1 b2 b3:Int):aEq prog 20 257 [.int .i64 a0,.int .i64 a1,.int .i64 a2,.int .i64 a3] [.int .i64 b0,.int .i64 b1,.int .i64 b2,.int .i64 b3]=some (((a0==b0)&&((a1==b1)&&true))&&(((a2==b2)&&((a3==b3)&&true))&&true)):=by kernel_rfl
theorem tEq258 (a0 a1 a2 a3 b0 b1 b2 b3:Int):aEq prog 20 258 [.int .i64 a0,.int .i64 a1,.int .i64 a2,.int .i64 a3] [.int .i64 b0,.int .i64 b1,.int .i64 b2,.int .i64 b3]=some (((a0==b0)&&((a1==b1)&&true))&&(((a2==b2)&&((a3==b3)&&true))&&true)):=by kernel_rfl
theorem tyset0:aM prog 2=some false/\tSz prog 2=some 1/\aB prog 2=some 8/\aE prog 2=some [.int .i64 0]/\fQ prog 2=some .i64/\prog.underlying 2=some (.int .i64)/\aM prog 3=some false/\tSz prog 3=some 1/\aB prog 3=some 8/\aE prog 3=some [.int .i64 0]/\fQ prog 3=some .i64/\prog.underlying 3=some (.int .i64)/\aM prog 4=some false/\tSz prog 4=some 1/\aB prog 4=some 1/\aE prog 4=some [.bool false]/\lF prog 4=true/\aM prog 5=some false/\tSz prog 5=some 1/\aB prog 5=some 1/\aE prog 5=some [.int .u8 0]/\fQ prog 5=some .u8/\prog.underlying 5=some (.int .u8)/\aM prog 7=some true:=by (repeat' refine And.intro ?_ ?_)<;>kernel_rfl
theorem tyset1:tSz prog 7=some 4/\aB prog 7=some 24/\aE prog 7=some [.int .i64 0,.int .i64 0,.bool false,.int .u8 0]/\aV prog 7=some [(0,1),(1,1),(2,1),(3,1)]/\au prog 7 0=some (0,2)/\au prog 7 1=some (1,3)/\au prog 7 2=some (2,4)/\au prog 7 3=some (3,6)/\prog.eqGuardType prog.depth 7=false/\aM prog 9=some false/\tSz prog 9=some 1/\aB prog 9=some 16/\aE prog 9=some [.str []]/\aM prog 12=some false/\tSz prog 12=some 1/\aB prog 12=some 8/\aE prog 12=some [.int .u64 0]/\fQ prog 12=some .u64/\prog.underlying 12=some (.int .u64)/\aM prog 13=some true/\tSz prog 13=some 2/\aB prog 13=some 24/\aE prog 13=some [.str [],.int .u64 0]/\aV prog 13=some [(0,1),(1,1)]:=by (repeat' refine And.intro ?_ ?_)<;>kernel_rfl
theorem tyset2:au prog 13 0=some (0,9)/\au prog 13 1=some (1,12)/\prog.eqGuardType prog.depth 13=false/\aM prog 17=some false/\tSz prog 17=some 1/\aB prog 17=some 8/\aE prog 17=some [.ptr none]/\fU prog 17=true/\aM prog 18=some true/\tSz prog 18=some 1/\aB prog 18=some 8/\aE prog 18=some [.ptr none]/\aV prog 18=some [(0,1)]/\au prog 18 0=some (0,17)/\prog.eqGuardType prog.depth 18=false/\aM prog 21=some false/\tSz prog 21=some 1/\aB prog 21=some 4/\aE prog 21=some [.int .i32 0]/\fQ prog 21=some .i32/\prog.underlying 21=some (.int .i32)/\aM prog 22=some false/\tSz prog 22=some 1/\aB prog 22=some 24:=by (repeat' refine And.intro ?_ ?_)<;>kernel_rfl
theorem tyset3:aE prog 22=some [.sl none 0 (some 0)]/\cr prog 22=some 5/\dn prog 22=true/\aM prog 23=some true/\tSz prog 23=some 3/\aB prog 23=some 40/\aE prog 23=some [.int .i64 0,.int .i64 0,.sl none 0 (some 0)]/\aV prog 23=some [(0,1),(1,1),(2,1)]/\au prog 23 0=some (0,3)/\au prog 23 1=some (1,3)/\au prog 23 2=some (2,22)/\prog.eqGuardType prog.depth 23=false/\aM prog 24=some true/\tSz prog 24=some 3/\aB prog 24=some 40/\aE prog 24=some [.int .i64 0,.int .i64 0,.sl none 0 (some 0)]/\aV prog 24=some [(0,1),(1,1),(2,1)]/\au prog 24 0=some (0,3)/\au prog 24 1=some (1,3)/\au prog 24 2=some (2,22)/\prog.eqGuardType prog.depth 24=false/\aM prog 25=some true/\tSz prog 25=some 4/\aB prog 25=some 32:=by (repeat' refine And.intro ?_ ?_)<;>kernel_rfl
theorem tyset4k:aE prog 25=some [.int .i64 0,.int .i64 0,.int .i64 0,.int .i64 0]/\aV prog 25=some [(0,1),(1,1),(2,1),(3,1)]/\au prog 25 0=some (0,3)/\au prog 25 1=some (1,3)/\au prog 25 2=some (2,3)/\au prog 25 3=some (3,3)/\prog.eqGuardType prog.depth 25=false/\aM prog 26=some true/\tSz prog 26=some 4/\aB prog 26=some 32/\aE prog 26=some [.int .i64 0,.int .i64 0,.int .i64 0,.int .i64 0]/\aV prog 26=some [(0,1),(1,1),(2,1),(3,1)]/\au prog 26 0=some (0,3)/\au prog 26 1=some (1,3)/\au prog 26 2=some (2,3)/\au prog 26 3=some (3,3)/\prog.eqGuardType prog.depth 26=false/\aM prog 27=some true/\tSz prog 27=some 3/\aB prog 27=some 24/\aE prog 27=some [.int .i64 0,.int .i64 0,.int .i64 0]/\aV prog 27=some [(0,1),(1,1),(2,1)]:=by (repeat' refine And.intro ?_ ?_)<;>kernel_rfl
theorem tyset4:type_of% (aiX @tEq25 <| aiX @tEq26 <| (@tyset4k)):=aiX @tEq25 <| aiX @tEq26 <| (@tyset4k)
theorem tyset5k:au prog 27 0=some (0,3)/\au prog 27 1=some (1,3)/\au prog 27 2=some (2,3)/\prog.eqGuardType prog.depth 27=false/\aM prog 28=some true/\tSz prog 28=some 3/\aB prog 28=some 24/\aE prog 28=some [.int .i64 0,.int .i64 0,.int .i64 0]/\aV prog 28=some [(0,1),(1,1),(2,1)]/\au prog 28 0=some (0,3)/\au prog 28 1=some (1,3)/\au prog 28 2=some (2,3)/\prog.eqGuardType prog.depth 28=false/\aM prog 29=some true/\tSz prog 29=some 10/\aB prog 29=some 96/\aE prog 29=some [.int .i64 0,.int .i64 0,.sl none 0 (some 0),.int .i64 0,.int .i64 0,.int .i64 0,.int .i64 0,.int .i64 0,.int .i64 0,.int .i64 0]/\aV prog 29=some [(0,3),(3,4),(7,3)]/\au prog 29 0=some (0,24)/\au prog 29 1=some (3,26)/\au prog 29 2=some (7,28)/\prog.eqGuardType prog.depth 29=false:=by (repeat' refine And.intro ?_ ?_)<;>kernel_rfl
theorem tyset5:type_of% (aiX @tEq27 <| aiX @tEq28 <| (@tyset5k)):=aiX @tEq27 <| aiX @tEq28 <| (@tyset5k)
theorem tyset6:aM prog 30=some true/\tSz prog 30=some 10/\aB prog 30=some 96/\aE prog 30=some [.int .i64 0,.int .i64 0,.sl none 0 (some 0),.int .i64 0,.int .i64 0,.int .i64 0,.int .i64 0,.int .i64 0,.int .i64 0,.int .i64 0]/\aV prog 30=some [(0,3),(3,4),(7,3)]/\au prog 30 0=some (0,24)/\au prog 30 1=some (3,26)/\au prog 30 2=some (7,28)/\prog.eqGuardType prog.depth 30=false/\aM prog 31=some false/\tSz prog 31=some 1/\aB prog 31=some 24/\aE prog 31=some [.sl none 0 (some 0)]/\cr prog 31=some 69/\dn prog 31=true/\aM prog 32=some false/\tSz prog 32=some 1/\aB prog 32=some 24/\aE prog 32=some [.sl none 0 (some 0)]/\cr prog 32=some 60/\dn prog 32=true/\aM prog 33=some true/\tSz prog 33=some 2/\aB prog 33=some 48:=by (repeat' refine And.intro ?_ ?_)<;>kernel_rfl
theorem tyset7:aE prog 33=some [.sl none 0 (some 0),.sl none 0 (some 0)]/\aV prog 33=some [(0,1),(1,1)]/\au prog 33 0=some (0,32)/\au prog 33 1=some (1,22)/\prog.eqGuardType prog.depth 33=false/\aM prog 34=some true/\tSz prog 34=some 2/\aB prog 34=some 48/\aE prog 34=some [.sl none 0 (some 0),.sl none 0 (some 0)]/\aV prog 34=some [(0,1),(1,1)]/\au prog 34 0=some (0,32)/\au prog 34 1=some (1,22)/\prog.eqGuardType prog.depth 34=false/\aM prog 38=some false/\tSz prog 38=some 1/\aB prog 38=some 24/\aE prog 38=some [.sl none 0 (some 0)]/\cr prog 38=some 53/\dn prog 38=true/\aM prog 39=some false/\tSz prog 39=some 1/\aB prog 39=some 24/\aE prog 39=some [.sl none 0 (some 0)]/\cr prog 39=some 28:=by (repeat' refine And.intro ?_ ?_)<;>kernel_rfl
theorem tyset8k:dn prog 39=true/\aM prog 40=some false/\tSz prog 40=some 1/\aB prog 40=some 8/\aE prog 40=some [.int .i64 0]/\fQ prog 40=some .i64/\prog.underlying 40=some (.int .i64)/\aM prog 44=some false/\tSz prog 44=some 1/\aB prog 44=some 8/\aE prog 44=some [.ptr none]/\fU prog 44=true/\aM prog 49=some true/\tSz prog 49=some 2/\aB prog 49=some 16/\aE prog 49=some [.int .i64 0,.int .i64 0]/\aV prog 49=some [(0,1),(1,1)]/\au prog 49 0=some (0,3)/\au prog 49 1=some (1,3)/\prog.eqGuardType prog.depth 49=false/\aM prog 50=some true/\tSz prog 50=some 2/\aB prog 50=some 16:=by (repeat' refine And.intro ?_ ?_)<;>kernel_rfl
theorem tyset8:type_of% (aiX @tEq49 <| (@tyset8k)):=aiX @tEq49 <| (@tyset8k)
theorem tyset9k:aE prog 50=some [.int .i64 0,.int .i64 0]/\aV prog 50=some [(0,1),(1,1)]/\au prog 50 0=some (0,3)/\au prog 50 1=some (1,3)/\prog.eqGuardType prog.depth 50=false/\aM prog 51=some false/\tSz prog 51=some 1/\aB prog 51=some 24/\aE prog 51=some [.sl none 0 (some 0)]/\cr prog 51=some 62/\dn prog 51=true/\aM prog 52=some true/\tSz prog 52=some 5/\aB prog 52=some 56/\aE prog 52=some [.int .i64 0,.int .i64 0,.int .i64 0,.bool false,.sl none 0 (some 0)]/\aV prog 52=some [(0,1),(1,2),(3,1),(4,1)]/\au prog 52 0=some (0,3)/\au prog 52 1=some (1,50)/\au prog 52 2=some (3,4)/\au prog 52 3=some (4,51)/\prog.eqGuardType prog.depth 52=false/\aM prog 53=some true/\tSz prog 53=some 5:=by (repeat' refine And.intro ?_ ?_)<;>kernel_rfl
theorem tyset9:type_of% (aiX @tEq50 <| (@tyset9k)):=aiX @tEq50 <| (@tyset9k)
theorem ql:aB prog 53=some 56/\aE prog 53=some [.int .i64 0,.int .i64 0,.int .i64 0,.bool false,.sl none 0 (some 0)]/\aV prog 53=some [(0,1),(1,2),(3,1),(4,1)]/\au prog 53 0=some (0,3)/\au prog 53 1=some (1,50)/\au prog 53 2=some (3,4)/\au prog 53 3=some (4,51)/\prog.eqGuardType prog.depth 53=false/\aM prog 59=some true/\tSz prog 59=some 6/\aB prog 59=some 48/\aE prog 59=some [.int .i64 0,.int .i64 0,.int .i64 0,.int .i64 0,.int .i64 0,.int .i64 0]/\aV prog 59=some [(0,1),(1,1),(2,1),(3,1),(4,1),(5,1)]/\au prog 59 0=some (0,3)/\au prog 59 1=some (1,3)/\au prog 59 2=some (2,3)/\au prog 59 3=some (3,3)/\au prog 59 4=some (4,3)/\au prog 59 5=some (5,3)/\prog.eqGuardType prog.depth 59=false/\aM prog 60=some true/\tSz prog 60=some 6/\aB prog 60=some 48:=by (repeat' refine And.intro ?_ ?_)<;>kernel_rfl
theorem tyset10:type_of% (aiX @tEq59 <| (@ql)):=aiX @tEq59 <| (@ql)
theorem qm:aE prog 60=some [.int .i64 0,.int .i64 0,.int .i64 0,.int .i64 0,.int .i64 0,.int .i64 0]/\aV prog 60=some [(0,1),(1,1),(2,1),(3,1),(4,1),(5,1)]/\au prog 60 0=some (0,3)/\au prog 60 1=some (1,3)/\au prog 60 2=some (2,3)/\au prog 60 3=some (3,3)/\au prog 60 4=some (4,3)/\au prog 60 5=some (5,3)/\prog.eqGuardType prog.depth 60=false/\aM prog 61=some true/\tSz prog 61=some 2/\aB prog 61=some 16/\aE prog 61=some [.int .i64 0,.int .i64 0]/\aV prog 61=some [(0,1),(1,1)]/\au prog 61 0=some (0,3)/\au prog 61 1=some (1,3)/\prog.eqGuardType prog.depth 61=false/\aM prog 62=some true/\tSz prog 62=some 2/\aB prog 62=some 16/\aE prog 62=some [.int .i64 0,.int .i64 0]/\aV prog 62=some [(0,1),(1,1)]:=by (repeat' refine And.intro ?_ ?_)<;>kernel_rfl
theorem tyset11:type_of% (aiX @tEq60 <| aiX @tEq61 <| (@qm)):=aiX @tEq60 <| aiX @tEq61 <| (@qm)
theorem qn:au prog 62 0=some (0,3)/\au prog 62 1=some (1,3)/\prog.eqGuardType prog.depth 62=false/\aM prog 65=some true/\tSz prog 65=some 4/\aB prog 65=some 32/\aE prog 65=some [.int .i64 0,.int .i64 0,.int .i64 0,.int .i64 0]/\aV prog 65=some [(0,1),(1,1),(2,1),(3,1)]/\au prog 65 0=some (0,3)/\au prog 65 1=some (1,3)/\au prog 65 2=some (2,3)/\au prog 65 3=some (3,3)/\prog.eqGuardType prog.depth 65=false/\aM prog 66=some true/\tSz prog 66=some 4/\aB prog 66=some 32/\aE prog 66=some [.int .i64 0,.int .i64 0,.int .i64 0,.int .i64 0]/\aV prog 66=some [(0,1),(1,1),(2,1),(3,1)]/\au prog 66 0=some (0,3)/\au prog 66 1=some (1,3)/\au prog 66 2=some (2,3)/\au prog 66 3=some (3,3):=by (repeat' refine And.intro ?_ ?_)<;>kernel_rfl
theorem tyset12:type_of% (aiX @tEq62 <| aiX @tEq65 <| (@qn)):=aiX @tEq62 <| aiX @tEq65 <| (@qn)
theorem qo:prog.eqGuardType prog.depth 66=false/\aM prog 67=some false/\tSz prog 67=some 1/\aB prog 67=some 24/\aE prog 67=some [.sl none 0 (some 0)]/\cr prog 67=some 3/\dn prog 67=true/\aM prog 68=some true/\tSz prog 68=some 8/\aB prog 68=some 96/\aE prog 68=some [.int .i64 0,.int .i64 0,.int .i64 0,.int .i64 0,.int .i64 0,.int .i64 0,.sl none 0 (some 0),.sl none 0 (some 0)]/\aV prog 68=some [(0,2),(2,4),(6,1),(7,1)]/\au prog 68 0=some (0,50)/\au prog 68 1=some (2,66)/\au prog 68 2=some (6,67)/\au prog 68 3=some (7,67)/\prog.eqGuardType prog.depth 68=false/\aM prog 69=some true/\tSz prog 69=some 8/\aB prog 69=some 96/\aE prog 69=some [.int .i64 0,.int .i64 0,.int .i64 0,.int .i64 0,.int .i64 0,.int .i64 0,.sl none 0 (some 0),.sl none 0 (some 0)]/\aV prog 69=some [(0,2),(2,4),(6,1),(7,1)]/\au prog 69 0=some (0,50):=by (repeat' refine And.intro ?_ ?_)<;>kernel_rfl
theorem tyset13:type_of% (aiX @tEq66 <| (@qo)):=aiX @tEq66 <| (@qo)
theorem tyset14:au prog 69 1=some (2,66)/\au prog 69 2=some (6,67)/\au prog 69 3=some (7,67)/\prog.eqGuardType prog.depth 69=false/\aM prog 70=some false/\tSz prog 70=some 1/\aB prog 70=some 8/\aE prog 70=some [.ptr none]/\fU prog 70=true/\aM prog 83=some true/\tSz prog 83=some 9/\aB prog 83=some 104/\aE prog 83=some [.int .i64 0,.int .i64 0,.sl none 0 (some 0),.sl none 0 (some 0),.int .i64 0,.int .i64 0,.int .i64 0,.int .i64 0,.bool false]/\aV prog 83=some [(0,3),(3,1),(4,4),(8,1)]/\au prog 83 0=some (0,24)/\au prog 83 1=some (3,32)/\au prog 83 2=some (4,26)/\au prog 83 3=some (8,4)/\prog.eqGuardType prog.depth 83=false/\aM prog 84=some true/\tSz prog 84=some 9/\aB prog 84=some 104/\aE prog 84=some [.int .i64 0,.int .i64 0,.sl none 0 (some 0),.sl none 0 (some 0),.int .i64 0,.int .i64 0,.int .i64 0,.int .i64 0,.bool false]/\aV prog 84=some [(0,3),(3,1),(4,4),(8,1)]:=by (repeat' refine And.intro ?_ ?_)<;>kernel_rfl
theorem qp:au prog 84 0=some (0,24)/\au prog 84 1=some (3,32)/\au prog 84 2=some (4,26)/\au prog 84 3=some (8,4)/\prog.eqGuardType prog.depth 84=false/\aM prog 97=some true/\tSz prog 97=some 2/\aB prog 97=some 16/\aE prog 97=some [.int .i64 0,.int .i64 0]/\aV prog 97=some [(0,1),(1,1)]/\au prog 97 0=some (0,3)/\au prog 97 1=some (1,3)/\prog.eqGuardType prog.depth 97=false/\aM prog 98=some true/\tSz prog 98=some 2/\aB prog 98=some 16/\aE prog 98=some [.int .i64 0,.int .i64 0]/\aV prog 98=some [(0,1),(1,1)]/\au prog 98 0=some (0,3)/\au prog 98 1=some (1,3)/\prog.eqGuardType prog.depth 98=false/\aM prog 100=some true:=by (repeat' refine And.intro ?_ ?_)<;>kernel_rfl
theorem tyset15:type_of% (aiX @tEq97 <| aiX @tEq98 <| (@qp)):=aiX @tEq97 <| aiX @tEq98 <| (@qp)
theorem tyset16:tSz prog 100=some 12/\aB prog 100=some 112/\aE prog 100=some [.int .i64 0,.int .i64 0,.sl none 0 (some 0),.int .i64 0,.int .i64 0,.int .i64 0,.int .i64 0,.int .i64 0,.int .i64 0,.int .i64 0,.int .i64 0,.int .i64 0]/\aV prog 100=some [(0,3),(3,4),(7,3),(10,1),(11,1)]/\au prog 100 0=some (0,24)/\au prog 100 1=some (3,26)/\au prog 100 2=some (7,28)/\au prog 100 3=some (10,3)/\au prog 100 4=some (11,3)/\prog.eqGuardType prog.depth 100=false/\aM prog 101=some true/\tSz prog 101=some 12/\aB prog 101=some 112/\aE prog 101=some [.int .i64 0,.int .i64 0,.sl none 0 (some 0),.int .i64 0,.int .i64 0,.int .i64 0,.int .i64 0,.int .i64 0,.int .i64 0,.int .i64 0,.int .i64 0,.int .i64 0]/\aV prog 101=some [(0,3),(3,4),(7,3),(10,1),(11,1)]/\au prog 101 0=some (0,24)/\au prog 101 1=some (3,26)/\au prog 101 2=some (7,28)/\au prog 101 3=some (10,3)/\au prog 101 4=some (11,3)/\prog.eqGuardType prog.depth 101=false/\aM prog 110=some true/\tSz prog 110=some 2/\aB prog 110=some 16:=by (repeat' refine And.intro ?_ ?_)<;>kernel_rfl
theorem qq:aE prog 110=some [.int .i64 0,.int .i64 0]/\aV prog 110=some [(0,1),(1,1)]/\au prog 110 0=some (0,3)/\au prog 110 1=some (1,3)/\prog.eqGuardType prog.depth 110=false/\aM prog 111=some true/\tSz prog 111=some 2/\aB prog 111=some 16/\aE prog 111=some [.int .i64 0,.int .i64 0]/\aV prog 111=some [(0,1),(1,1)]/\au prog 111 0=some (0,3)/\au prog 111 1=some (1,3)/\prog.eqGuardType prog.depth 111=false/\aM prog 131=some false/\tSz prog 131=some 1/\aB prog 131=some 24/\aE prog 131=some [.sl none 0 (some 0)]/\cr prog 131=some 133/\dn prog 131=true/\aM prog 133=some true/\tSz prog 133=some 2/\aB prog 133=some 16:=by (repeat' refine And.intro ?_ ?_)<;>kernel_rfl
theorem tyset17:type_of% (aiX @tEq110 <| aiX @tEq111 <| (@qq)):=aiX @tEq110 <| aiX @tEq111 <| (@qq)
theorem qr:aE prog 133=some [.int .i64 0,.int .i64 0]/\aV prog 133=some [(0,1),(1,1)]/\au prog 133 0=some (0,3)/\au prog 133 1=some (1,3)/\prog.eqGuardType prog.depth 133=false/\aM prog 134=some false/\tSz prog 134=some 1/\aB prog 134=some 8/\aE prog 134=some [.ptr none]/\fU prog 134=true/\aM prog 143=some true/\tSz prog 143=some 4/\aB prog 143=some 32/\aE prog 143=some [.int .i64 0,.int .i64 0,.int .i64 0,.int .i64 0]/\aV prog 143=some [(0,1),(1,1),(2,1),(3,1)]/\au prog 143 0=some (0,3)/\au prog 143 1=some (1,3)/\au prog 143 2=some (2,3)/\au prog 143 3=some (3,3)/\prog.eqGuardType prog.depth 143=false/\aM prog 144=some true/\tSz prog 144=some 4:=by (repeat' refine And.intro ?_ ?_)<;>kernel_rfl
theorem tyset18:type_of% (aiX @tEq133 <| aiX @tEq143 <| (@qr)):=aiX @tEq133 <| aiX @tEq143 <| (@qr)
theorem qs:aB prog 144=some 32/\aE prog 144=some [.int .i64 0,.int .i64 0,.int .i64 0,.int .i64 0]/\aV prog 144=some [(0,1),(1,1),(2,1),(3,1)]/\au prog 144 0=some (0,3)/\au prog 144 1=some (1,3)/\au prog 144 2=some (2,3)/\au prog 144 3=some (3,3)/\prog.eqGuardType prog.depth 144=false/\aM prog 173=some false/\tSz prog 173=some 1/\aB prog 173=some 24/\aE prog 173=some [.sl none 0 (some 0)]/\cr prog 173=some 178/\dn prog 173=true/\aM prog 175=some true/\tSz prog 175=some 3/\aB prog 175=some 24/\aE prog 175=some [.int .i64 0,.int .i64 0,.int .i64 0]/\aV prog 175=some [(0,1),(1,1),(2,1)]/\au prog 175 0=some (0,3)/\au prog 175 1=some (1,3)/\au prog 175 2=some (2,3)/\prog.eqGuardType prog.depth 175=false:=by (repeat' refine And.intro ?_ ?_)<;>kernel_rfl
theorem tyset19:type_of% (aiX @tEq144 <| (@qs)):=aiX @tEq144 <| (@qs)
theorem qt:aM prog 176=some true/\tSz prog 176=some 3/\aB prog 176=some 24/\aE prog 176=some [.int .i64 0,.int .i64 0,.int .i64 0]/\aV prog 176=some [(0,1),(1,1),(2,1)]/\au prog 176 0=some (0,3)/\au prog 176 1=some (1,3)/\au prog 176 2=some (2,3)/\prog.eqGuardType prog.depth 176=false/\aM prog 177=some true/\tSz prog 177=some 9/\aB prog 177=some 72/\aE prog 177=some [.int .i64 0,.int .i64 0,.int .i64 0,.int .i64 0,.int .i64 0,.int .i64 0,.int .i64 0,.int .i64 0,.int .i64 0]/\aV prog 177=some [(0,6),(6,3)]/\au prog 177 0=some (0,60)/\au prog 177 1=some (6,176)/\prog.eqGuardType prog.depth 177=false/\aM prog 178=some true/\tSz prog 178=some 9/\aB prog 178=some 72/\aE prog 178=some [.int .i64 0,.int .i64 0,.int .i64 0,.int .i64 0,.int .i64 0,.int .i64 0,.int .i64 0,.int .i64 0,.int .i64 0]:=by (repeat' refine And.intro ?_ ?_)<;>kernel_rfl
theorem tyset20:type_of% (aiX @tEq175 <| aiX @tEq176 <| aiX @tEq177 <| (@qt)):=aiX @tEq175 <| aiX @tEq176 <| aiX @tEq177 <| (@qt)
theorem qu:aV prog 178=some [(0,6),(6,3)]/\au prog 178 0=some (0,60)/\au prog 178 1=some (6,176)/\prog.eqGuardType prog.depth 178=false/\aM prog 184=some false/\tSz prog 184=some 1/\aB prog 184=some 8/\aE prog 184=some [.int .u64 0]/\fQ prog 184=some .u64/\prog.underlying 184=some (.int .u64)/\aM prog 193=some true/\tSz prog 193=some 2/\aB prog 193=some 16/\aE prog 193=some [.int .i64 0,.int .i64 0]/\aV prog 193=some [(0,1),(1,1)]/\au prog 193 0=some (0,3)/\au prog 193 1=some (1,3)/\prog.eqGuardType prog.depth 193=false/\aM prog 194=some true/\tSz prog 194=some 2/\aB prog 194=some 16/\aE prog 194=some [.int .i64 0,.int .i64 0]:=by (repeat' refine And.intro ?_ ?_)<;>kernel_rfl
theorem tyset21:type_of% (aiX @tEq178 <| aiX @tEq193 <| (@qu)):=aiX @tEq178 <| aiX @tEq193 <| (@qu)
theorem qv:aV prog 194=some [(0,1),(1,1)]/\au prog 194 0=some (0,3)/\au prog 194 1=some (1,3)/\prog.eqGuardType prog.depth 194=false/\aM prog 206=some false/\tSz prog 206=some 1/\aB prog 206=some 24/\aE prog 206=some [.sl none 0 (some 0)]/\cr prog 206=some 98/\dn prog 206=true/\aM prog 220=some true/\tSz prog 220=some 8/\aB prog 220=some 64/\aE prog 220=some [.int .i64 0,.int .i64 0,.int .i64 0,.int .i64 0,.int .i64 0,.int .i64 0,.int .i64 0,.int .i64 0]/\tIdx prog 220=some (some 4,98)/\aV prog 220=some [(0,2),(2,2),(4,2),(6,2)]/\aM prog 226=some true/\tSz prog 226=some 4/\aB prog 226=some 32/\aE prog 226=some [.int .i64 0,.int .i64 0,.int .i64 0,.int .i64 0]/\tIdx prog 226=some (some 4,3)/\aV prog 226=some [(0,1),(1,1),(2,1),(3,1)]/\aM prog 229=some true:=by (repeat' refine And.intro ?_ ?_)<;>kernel_rfl
theorem tyset22:type_of% (aiX @tEq194 <| (@qv)):=aiX @tEq194 <| (@qv)
theorem tyset23:tSz prog 229=some 2/\aB prog 229=some 16/\aE prog 229=some [.int .i64 0,.int .i64 0]/\tIdx prog 229=some (some 2,3)/\aV prog 229=some [(0,1),(1,1)]/\aM prog 234=some false/\tSz prog 234=some 1/\aB prog 234=some 8/\aE prog 234=some [.int .i64 0]/\fQ prog 234=some .i64/\prog.underlying 234=some (.int .i64)/\aM prog 242=some false/\tSz prog 242=some 1/\aB prog 242=some 4/\aE prog 242=some [.int .u32 0]/\fQ prog 242=some .u32/\prog.underlying 242=some (.int .u32)/\aM prog 244=some false/\tSz prog 244=some 1/\aB prog 244=some 8/\aE prog 244=some [.int .u64 0]/\fQ prog 244=some .u64/\prog.underlying 244=some (.int .u64)/\aM prog 257=some true:=by (repeat' refine And.intro ?_ ?_)<;>kernel_rfl
theorem qw:tSz prog 257=some 4/\aB prog 257=some 32/\aE prog 257=some [.int .i64 0,.int .i64 0,.int .i64 0,.int .i64 0]/\aV prog 257=some [(0,2),(2,2)]/\au prog 257 0=some (0,194)/\au prog 257 1=some (2,194)/\prog.eqGuardType prog.depth 257=false/\aM prog 258=some true/\tSz prog 258=some 4/\aB prog 258=some 32/\aE prog 258=some [.int .i64 0,.int .i64 0,.int .i64 0,.int .i64 0]/\aV prog 258=some [(0,2),(2,2)]/\au prog 258 0=some (0,194)/\au prog 258 1=some (2,194)/\prog.eqGuardType prog.depth 258=false/\aM prog 261=some false/\tSz prog 261=some 1/\aB prog 261=some 8/\aE prog 261=some [.int .u64 0]/\fQ prog 261=some .u64/\prog.underlying 261=some (.int .u64)/\aM prog 265=some false:=by (repeat' refine And.intro ?_ ?_)<;>kernel_rfl
theorem tyset24:type_of% (aiX @tEq257 <| aiX @tEq258 <| (@qw)):=aiX @tEq257 <| aiX @tEq258 <| (@qw)
theorem tyset25:tSz prog 265=some 1/\aB prog 265=some 8/\aE prog 265=some [.ptr none]/\fU prog 265=true/\aM prog 271=some false/\tSz prog 271=some 1/\aB prog 271=some 8/\aE prog 271=some [.ptr none]/\fU prog 271=true/\aM prog 273=some false/\tSz prog 273=some 1/\aB prog 273=some 8/\aE prog 273=some [.ptr none]/\fU prog 273=true/\aM prog 276=some true/\tSz prog 276=some 4/\aB prog 276=some 40/\aE prog 276=some [.ptr none,.ptr none,.ptr none,.str []]/\aV prog 276=some [(0,1),(1,1),(2,1),(3,1)]/\au prog 276 0=some (0,17)/\au prog 276 1=some (1,17)/\au prog 276 2=some (2,17)/\au prog 276 3=some (3,9)/\prog.eqGuardType prog.depth 276=false:=by (repeat' refine And.intro ?_ ?_)<;>kernel_rfl
theorem tyset26:aM prog 286=some true/\tSz prog 286=some 11/\aB prog 286=some 48/\aE prog 286=some [.int .u64 0,.int .u64 0,.int .u32 0,.int .u8 0,.int .u8 0,.int .u8 0,.int .u8 0,.nilfn,.ptr none,.int .i32 0,.int .i32 0]/\aV prog 286=some [(0,1),(1,1),(2,1),(3,1),(4,1),(5,1),(6,1),(7,1),(8,1),(9,1),(10,1)]/\au prog 286 0=some (0,12)/\au prog 286 1=some (1,12)/\au prog 286 2=some (2,242)/\au prog 286 3=some (3,281)/\au prog 286 4=some (4,5)/\au prog 286 5=some (5,5)/\au prog 286 6=some (6,282)/\au prog 286 7=some (7,283)/\au prog 286 8=some (8,134)/\au prog 286 9=some (9,284)/\au prog 286 10=some (10,285)/\prog.eqGuardType prog.depth 286=false:=by (repeat' refine And.intro ?_ ?_)<;>kernel_rfl
theorem aK:type_of% (aiX @tyset0 <| aiX @tyset1 <| aiX @tyset2 <| aiX @tyset3 <| aiX @tyset4 <| aiX @tyset5 <| aiX @tyset6 <| aiX @tyset7 <| aiX @tyset8 <| aiX @tyset9 <| aiX @tyset10 <| aiX @tyset11 <| aiX @tyset12 <| aiX @tyset13 <| aiX @tyset14 <| aiX @tyset15 <| aiX @tyset16 <| aiX @tyset17 <| aiX @tyset18 <| aiX @tyset19 <| aiX @tyset20 <| aiX @tyset21 <| aiX @tyset22 <| aiX @tyset23 <| aiX @tyset24 <| aiX @tyset25 <| (@tyset26)) :=
 aiX @tyset0 <| aiX @tyset1 <| aiX @tyset2 <| aiX @tyset3 <| aiX @tyset4 <| aiX @tyset5 <| aiX @tyset6 <| aiX @tyset7 <| aiX @tyset8 <| aiX @tyset9 <| aiX @tyset10 <| aiX @tyset11 <| aiX @tyset12 <| aiX @tyset13 <| aiX @tyset14 <| aiX @tyset15 <| aiX @tyset16 <| aiX @tyset17 <| aiX @tyset18 <| aiX @tyset19 <| aiX @tyset20 <| aiX @tyset21 <| aiX @tyset22 <| aiX @tyset23 <| aiX @tyset24 <| aiX @tyset25 <| (@tyset26)

theorem own:ownKnob prog.godebug=none:=by kernel_rfl
theorem lM:laidOutB prog=true:=by kernel_rfl
def Sl (H:aa) (sz:Nat) (s:AV) (n:Nat) (xs:List AV):Prop:=∃b own cap,s=.sl (some (b,0)) n cap/\H[b]? = some (.cells own sz xs)
theorem Sl.app {H:aa}{sz n:Nat}{s:AV}{xs:List AV}(h:Sl H sz s n xs)(l:aa):Sl (H++l) sz s n xs:=by
 obtain⟨b,own,cap,h1,h2⟩:=h
 exact⟨b,own,cap,h1,ai h2⟩
abbrev SlP (H:aa) (s:AV) (l:List (Int×Int)):Prop:=Sl H 2 s l.length (prs l)
abbrev SlI (H:aa) (k:IntKind) (s:AV) (l:List Int):Prop:=Sl H 1 s l.length (ints k l)
def aT (n:Nat):Option Nat:=match n with|0=>some 0|_+1=>none
def aL (n:Nat):Bool:=match n with|0=>false|_+1=>true
theorem nv:aT 0=some 0:=rfl
theorem nw:aL 0=false:=rfl
theorem du {n:Nat}:aT (n+1)=none:=rfl
theorem ownG_s {n:Nat}:aL (n+1)=true:=rfl
theorem ln {n:Nat}(h:0<n):aT n=none:=by cases n<;>first|rfl|omega
theorem ex {n:Nat}(h:0<n):aL n=true:=by cases n<;>first|rfl|omega
theorem cM {P:Program}{t:TypeId}{n:Nat}{c:Option Nat}{x:AV}{H:aa}:ap P t (.sl none n c) x H=(cr P t).bind fun e=>(tSz P e).bind fun sz=>(aB P e).bind fun by_=>(aE P e).bind fun z=>(aElems sz x H).bind fun mx =>
  (bu (z.length=sz/\0<sz/\0<by_)).bind fun _=>(bu (n=0)).bind fun _=>bif mx.1==0 then some (.sl none 0 (some 0),H) else (bu (mx.1*by_<=140737488355328)).map fun _=>(.sl (some (H.length,0)) mx.1 none,H++[.cells true sz mx.2]):=rfl
theorem cz {P:Program}{t:TypeId}{b o n:Nat}{x:AV}{H:aa}:ap P t (.sl (some (b,o)) n none) x H=(cr P t).bind fun e=>(tSz P e).bind fun sz=>(aB P e).bind fun by_=>(aE P e).bind fun z=>(aElems sz x H).bind fun mx =>
  (bu (z.length=sz/\0<sz/\0<by_)).bind fun _=>(ards H b o (n*sz)).bind fun olds=>(bu ((n+mx.1)*by_<=140737488355328)).bind fun _ =>
   bif n+mx.1==0 then some (.sl (some (b,o)) 0 none,H)
   else match H[b]? with
    |some (.cells true es _)=>(bu (es=sz)).map fun _=>(.sl (some (H.length,0)) (n+mx.1) none,H.set b .dead++[.cells true sz (olds++mx.2)])
    |_=>none:=rfl
theorem cA {P:Program}{t:TypeId}{b o n c:Nat}{x:AV}{H:aa}:ap P t (.sl (some (b,o)) n (some c)) x H=(cr P t).bind fun e=>(tSz P e).bind fun sz=>(aB P e).bind fun by_=>(aE P e).bind fun z=>(aElems sz x H).bind fun mx =>
  (bu (z.length=sz/\0<sz/\0<by_)).bind fun _=>(ards H b o (n*sz)).bind fun olds=>(bu ((n+mx.1)*by_<=140737488355328)).bind fun _ =>
   bif n+mx.1==0 then some (.sl (some (b,o)) 0 (some c),H)
   else bif decide (c<n+mx.1) then some (.sl (some (H.length,0)) (n+mx.1) none,H++[.cells true sz (olds++mx.2)])
   else match H[b]? with
    |some (.cells true es _)=>(bu (es=sz)).map fun _=>(.sl (some (H.length,0)) (n+mx.1) none,H.set b .dead++[.cells true sz (olds++mx.2)])
    |_=>none:=rfl
def killG (n:Nat) (X:ABlk):ABlk:=match n with|0=>X|_+1=>.dead
theorem rU {P:Program}{t:TypeId}{b n:Nat}{x:AV}{H:aa}:ap P t (.sl (some (b,0)) n (aT n)) x H=(cr P t).bind fun e=>(tSz P e).bind fun sz=>(aB P e).bind fun by_=>(aE P e).bind fun z=>(aElems sz x H).bind fun mx =>
  (bu (z.length=sz/\0<sz/\0<by_)).bind fun _=>match H[b]? with
   | some (.cells own es xs)=>bif (own==aL n)&&(decide (es=sz)&&(decide (xs.length=n*sz)&&(decide (0<mx.1)&&xs.all AV.one))) then
     (bu ((n+mx.1)*by_<=140737488355328)).map fun _=>(.sl (some (H.length,0)) (n+mx.1) none,H.set b (killG n (.cells own es xs))++[.cells true sz (xs++mx.2)])
    else ap P t (.sl (some (b,0)) n (aT n)) x H
   |_=>ap P t (.sl (some (b,0)) n (aT n)) x H:=by
 cases h1:cr P t with
 |none=>simp[ap,h1]
 |some e =>
 cases h2:tSz P e with
 |none=>simp[ap,h1,h2]
 |some sz =>
 cases h3:aB P e with
 |none=>simp[ap,h1,h2,h3]
 |some by_ =>
 cases h4:aE P e with
 |none=>simp[ap,h1,h2,h3,h4]
 |some z =>
 cases h5:aElems sz x H with
 |none=>simp[ap,h1,h2,h3,h4,h5]
 |some mx =>
 simp only[Option.bind_some,h2,h3,h4,h5]
 by_cases hz:z.length=sz/\0<sz/\0<by_
 ·have hn:bu (z.length=sz/\0<sz/\0<by_)=some ():=if_pos hz
  rw[hn,Option.bind_some]
  split
  ·rename_i own es xs hb
   cases hc:(own==aL n)&&(decide (es=sz)&&(decide (xs.length=n*sz)&&(decide (0<mx.1)&&xs.all AV.one))) with
   |false=>rfl
   | true =>
    rw[cond_true]
    simp only[Bool.and_eq_true,beq_iff_eq,decide_eq_true_eq] at hc
    obtain⟨rfl,rfl,hl,hm,ho⟩:=hc
    have hard:ards H b 0 (n*es)=some xs:=by
     unfold ards
     rw[hb]
     simp only
     rw[List.drop_zero,List.take_of_length_le (by omega)]
     simp[hl,ho]
    cases n with
    | zero =>
     simp only[ap,h1,h2,h3,h4,h5,Option.bind_some,hn,hard,aT,killG]
     have e0:(0+mx.1==0)=false:=beq_eq_false_iff_ne.2 (by omega)
     rw[e0,cond_false,decide_eq_true (by omega:(0:Nat)<0+mx.1),cond_true]
     have hs:H.set b (.cells (aL 0) es xs)=H:=by
      refine List.ext_getElem? fun i=>?_
      rw[List.getElem?_set]
      split
      ·rename_i e;subst e
       split
       ·rw[hb]
       rename_i hh;exact absurd (getElem?_lt hb) hh
      rfl
     rw[hs]
     unfold bu
     split<;>rfl
    | succ n =>
     simp only[ap,h1,h2,h3,h4,h5,Option.bind_some,hn,hard,aT,killG,hb,aL]
     have e0:(n+1+mx.1==0)=false:=beq_eq_false_iff_ne.2 (by omega)
     rw[e0,cond_false,cond_false]
     have e1:bu True=some ():=if_pos trivial
     rw[e1]
     unfold bu
     split<;>rfl
  rfl
 have hn:bu (z.length=sz/\0<sz/\0<by_)=none:=if_neg hz
 simp only[ap,h1,h2,h3,h4,h5,Option.bind_some,hn,Option.bind_none]
theorem cJ {l:List (Int×Int)}:(prs l).all AV.one=true:=by
 induction l with
 |nil=>rfl
 |cons p l ih=>rw[cT];simp[AV.one,ih]
theorem cU {k:IntKind}{l:List Int}:(ints k l).all AV.one=true:=by simp[ints,AV.one]
section
variable {P:Program} {f:FuncId} {args:List AV} {H l1:aa} {x:AV}
end
section
variable {P:Program} {f:FuncId} {H:aa}
end
theorem Abs.byN {H0 l1:aa}{F1 F2:Fr}(hsc:HBel H0.length H0)(h:fj (H0.length+l1.length) (sig H0.length l1.length []) F1 F2):Abs H0.length (sig H0.length l1.length []) F1 (H0++l1) F2 H0:=by
 have:=Abs.by (l1:=l1) (l2:=[]) (F1:=F1) (F2:=F2) hsc [] (by simp) ⟨h,trivial⟩
 simpa using this
theorem lN {P:Program}{fn:Func}{H l2:aa}{R:AV->aa->Prop}{F:Fr}{e:Exit}(he:e=.ret\/e=.normal) (hbel:HBel H.length H) {x1:AV}(x2:AV) (hx:cW P fn F H=some x1) (G:aa) (hG:G.all gp=true) (sel:List Nat) (hnd:sel.Nodup) (hR:R x2 (H++l2))
  (h:W (H.length+G.length) x1 (x2.mv (sig H.length G.length sel))/\fB (H.length+G.length) (sig H.length G.length sel) G sel l2):AEnd P fn H.length R e F H:=by
 have h1:=aW (P:=P) (fn:=fn) (l1:=[]) (l2:=l2) (R:=R) (F:=F) he hbel x2 (by simpa using hx) G hG sel hnd hR h
 simpa using h1
theorem qz {k:IntKind}{l m:List Int}:ints k (l++m)=ints k l++ints k m:=by simp[ints]
theorem pn {k:IntKind}{x:Int}{l:List Int}:ints k (x::l)=.int k x::ints k l:=rfl
theorem qA {k:IntKind}:ints k []=[]:=rfl
theorem pq {l m:List Bool}:d6 (l++m)=d6 l++d6 m:=by simp[d6]
theorem ny {x:Bool}{l:List Bool}:d6 (x::l)=.bool x::d6 l:=rfl
theorem pr:d6 []=[]:=rfl

def depI (q z:Bool) (ops:Array Oper) (i j:Nat):Bool :=
 match ops[i]?,ops[j]? with
 | some a,some b =>
  let free:=fun (i:Nat) (a b:Oper)=>(match a.dst with|some t=>b.dst != some t&&!(b.looksAt ops).contains t|none=>true)&&(!c9 q a.op||c8 b.op||(!z&&(kExt ops i a.op&&dz b.op)))
  !(free i a b&&free j b a)
 |_,_=>false
def gw (q z:Bool) (ops:Array Oper) (τ:List Nat):Array Oper :=
 (τ.zipIdx.map fun p=>{ (ops[p.1]?.getD default) with after:=(((List.range p.2).filter fun k=>depI q z ops ((τ[k]?).getD 0) p.1).map fun k=>(⟨k,.data⟩:Edge)).toArray,guard:=none }).toArray
def jt (l:List Oper) (τ:List Nat):List LOp:=τ.map fun i=>((l[i]?).map fun o=>(⟨o.dst,o.op,none⟩:LOp)).getD ⟨none,.move (.tmp 0),none⟩
def ordB (mk:List Nat) (i j:Nat):Bool:=(mk.getD j 0).testBit i
def loose (q z:Bool) (ops:Array Oper) (mk:List Nat):List (Nat×Nat) :=
 (List.range ops.size).flatMap fun j=>((List.range j).filter fun i=>depI q z ops i j&&!ordB mk i j&&!ordB mk j i).map fun i=>(i,j)
def lp:List (Nat×Nat)->List Bool->List (Nat×Nat)
 |p::ps,b::bs=>(bif b then p else (p.2,p.1))::lp ps bs
 |_,_=>[]
def allV:Nat->List (List Bool)
 |0=>[[]]
 |n+1=>(allV n).flatMap fun v=>[true::v,false::v]
def ko (mk:List Nat) (x y:Nat):Bool:=x==y||ordB mk x y
def refuted (mk:List Nat) (O:List (Nat×Nat)):Bool :=
 (O.any fun a=>O.any fun b=>ko mk a.2 b.1&&ko mk b.2 a.1)||O.any fun a=>O.any fun b=>O.any fun c=>ko mk a.2 b.1&&ko mk b.2 c.1&&ko mk c.2 a.1
def okRep (q z:Bool) (ops:Array Oper) (mk:List Nat) (O:List (Nat×Nat)) (τ:List Nat):Bool :=
 (List.range τ.length).all fun k=>(List.range k).all fun k'=>let i:=(τ[k']?).getD 0;let j:=(τ[k]?).getD 0;!depI q z ops i j||ordB mk i j||O.contains (i,j)
def coverB (q z:Bool) (ops:Array Oper) (reps:List (List Nat)):Bool :=
 let mk:=g8 ops
 let U:=loose q z ops mk
 (allV U.length).all fun v=>let O:=lp U v;refuted mk O||reps.any fun τ=>okRep q z ops mk O τ
def permB (n:Nat) (τ:List Nat):Bool:=τ.length==n&&((List.range n).all fun i=>τ.contains i)&&(τ.all fun i=>Nat.blt i n)&&(List.range n).all fun k=>τ.idxOf ((τ[k]?).getD 0)==k
def strictB (q:Bool) (ops:Array Oper):Bool :=
 let m:=g8 ops;ops.toList.zipIdx.all fun p=>ops.toList.zipIdx.all fun r=>p.2==r.2||((m.getD r.2 0).testBit p.2||(m.getD p.2 0).testBit r.2||!c9 q p.1.op||c8 r.1.op)
theorem qB {q:Bool}{ops:Array Oper}(h:strictB q ops=true):no q ops:=fun i j a b ha hb hij hc hp=>by
 have zi:∀i o,ops[i]? = some o->(o,i)∈ops.toList.zipIdx:=fun i o ho=>List.mem_iff_getElem?.2 ⟨i,by simp[List.getElem?_zipIdx,ho]⟩
 have:=List.all_eq_true.1 (List.all_eq_true.1 h _ (zi i a ha)) _ (zi j b hb)
 simp only[Bool.or_eq_true,beq_iff_eq] at this
 rcases this with h|((h|h)|h)|h
 ·exact absurd h hij
 ·exact .inl (d4 h)
 ·exact .inr (d4 h)
 ·rw[hc] at h;cases h
 rw[hp] at h;cases h
def lq (q z:Bool) (N:Nat) (ops:Array Oper) (reps:List (List Nat)):Bool :=
 (ops.toList.all fun o=>o.guard.isNone)&&(ops.toList.zipIdx.all fun p=>p.1.after.all fun e=>!Region.binds .any e||decide (e.on<p.2)) &&
 (reps.all fun τ=>permB ops.size τ&&gq q N (gw q z ops τ)&&(!z||strictB q (gw q z ops τ)))&&coverB q z ops reps
section
variable {P:Program} {N n m:Nat} {Q:Exit->Fr->aa->Prop} {q z:Bool} {ops:Array Oper}
theorem idx_ne {a b:Nat}{l:List Nat}(h:a≠b):(a::l).idxOf b=l.idxOf b+1:=by
 rw[List.idxOf_cons]
 have:(a==b)=false:=by simp[h]
 rw[this];rfl
inductive ValidL (ops:Array Oper):Array Bool->List Nat->Prop where
 |nil {listed:Array Bool}:Region.ready .any ops listed=[]->ValidL ops listed []
 |cons {listed:Array Bool} {i:Nat} {π:List Nat}:i∈Region.ready .any ops listed->ValidL ops (listed.setIfInBounds i true) π->ValidL ops listed (i::π)
theorem go_valid:∀(fuel t:Nat) (listed:Array Bool),listed.size=ops.size->unl listed.toList<=fuel->ValidL ops listed (Region.linearise.go .any ops fuel t listed [])
 | 0,t,listed,hs,hu=>by
  refine .nil ?_
  apply List.eq_nil_iff_forall_not_mem.2
  intro j hj
  obtain⟨h0,o,ho,-⟩:=mem_ready.1 hj
  have hj':=(Array.getElem?_eq_some_iff.1 ho).1
  have hi':j<listed.toList.length:=by simp;omega
  have:=List.countP_eq_zero.1 (Nat.le_zero.1 hu) listed.toList[j] (List.getElem_mem hi')
  simp at this
  simp[hs,hj',this] at h0
 | fuel+1,t,listed,hs,hu=>by
  simp only[Region.linearise.go]
  change ValidL ops listed (match (Region.ready .any ops listed)[t%(Region.ready .any ops listed).length]? with
   |some i=>Region.linearise.go .any ops fuel (t/(Region.ready .any ops listed).length) (listed.setIfInBounds i true) [i]
   |none=>[].reverse)
  cases hi:(Region.ready .any ops listed)[t%(Region.ready .any ops listed).length]? with
  | none =>
   refine .nil ?_
   cases hr:Region.ready .any ops listed with
   |nil=>rfl
   | cons x xs =>
    rw[hr] at hi
    have hlt:t%(x::xs).length<(x::xs).length:=Nat.mod_lt _ (by simp)
    simp at hi
    simp at hlt
    omega
  | some i =>
   simp only[]
   rw[linearise_go_acc,List.reverse_singleton,List.singleton_append]
   have hmem:=List.mem_of_getElem? hi
   refine .cons hmem (go_valid fuel _ _ (by simp[hs]) ?_)
   obtain⟨h0,o,ho,-⟩:=mem_ready.1 hmem
   have hj':=(Array.getElem?_eq_some_iff.1 ho).1
   have:=unl_set (l:=listed.toList) (k:=i) (by simp;omega) (by
    rw[Array.getElem?_toList]
    simp[hs,hj'] at h0
    rw[Array.getElem?_eq_getElem (by omega),h0])
   rw[Array.toList_setIfInBounds]
   omega
theorem pu {Q:Exit->Act->World->Prop}:∀(π:List Nat) (fuel:Nat) (listed:Array Bool) (a:Act) (w:World),π.length<=fuel->wpAny P .any ops Q fuel listed a w->ValidL ops listed π->wpOps P ops Q π a w
 |[],0,_,_,_,_,h,_=>h.2
 |[],_+1,_,_,_,_,h,hv=>by cases hv with|nil hr=>exact h.1 hr
 |i::π,0,_,_,_,hl,_,_=>by simp at hl
 | i::π,fuel+1,listed,a,w,hl,h,hv=>by
  cases hv with
  | cons hi hv =>
   rw[wpOps_cons]
   exact wpOp_mono (fun a w hh=>pu π fuel _ a w (by simp at hl;omega) hh hv) (h.2 i hi)
theorem pv (hback:∀(i:Nat) (o:Oper) (e:Edge),ops[i]? = some o->e∈o.after->Region.binds .any e=true->e.on<i):∀(π:List Nat) (listed:Array Bool),listed.size=ops.size->ValidL ops listed π ->
  (∀i,i<ops.size->listed.getD i false=false->i∈π)/\(∀i∈π,i<ops.size/\listed.getD i false=false)/\π.Nodup/\∀(j:Nat) (o:Oper) (e:Edge),j∈π->ops[j]? = some o->e∈o.after->Region.binds .any e=true->listed.getD e.on false=true\/π.idxOf e.on<π.idxOf j
 | [], listed,hs,hv=>by
  cases hv with
  | nil hr =>
   refine⟨fun i hi hli=>?_,fun i h=>by simp at h,List.nodup_nil,fun j o e h=>by simp at h⟩
   exfalso
   have hall:∀i,i<ops.size->listed.getD i false=true:=by
    intro i
    induction i using Nat.strongRecOn with
    | _ i ihi =>
     intro hi
     cases hli:listed.getD i false with
     |true=>rfl
     | false =>
      exfalso
      have ho:ops[i]? = some ops[i]:=Array.getElem?_eq_getElem hi
      have:i∈Region.ready .any ops listed:=mem_ready.2 ⟨by simp[hs,hi] at hli ⊢;exact hli,_,ho,fun e he hb=>by
       have hlt:=hback i _ e ho he hb
       exact ihi e.on hlt (by omega)⟩
      rw[hr] at this;cases this
   rw[hall i hi] at hli;cases hli
 | i :: π,listed,hs,hv=>by
  cases hv with
  | cons hi hv =>
   obtain⟨h1,h2,h3,h4⟩:=pv hback π _ (by simp[hs]) hv
   obtain⟨h0,o,ho,hed⟩:=mem_ready.1 hi
   have hin:=(Array.getElem?_eq_some_iff.1 ho).1
   have hli:listed.getD i false=false:=by simp[hs,hin] at h0 ⊢;exact h0
   have hget:∀j,(listed.setIfInBounds i true).getD j false=if j=i then true else listed.getD j false:=fun j=>by
    by_cases e:j=i
    ·subst e;simp[hs,hin]
    rw[if_neg e,getD_set_ne false (fun e'=>e e'.symm)]
   have hni:i∉π:=fun hm=>by
    have:=(h2 i hm).2
    rw[hget,if_pos rfl] at this;cases this
   refine⟨fun j hj hjl=>?_,fun j hj=>?_,List.nodup_cons.2 ⟨hni,h3⟩,fun j o' e hj ho' he hb=>?_⟩
   ·by_cases e:j=i
    ·simp[e]
    exact List.mem_cons_of_mem _ (h1 j hj (by rw[hget,if_neg e];exact hjl))
   ·rcases List.mem_cons.1 hj with rfl|hj
    ·exact⟨hin,hli⟩
    have:=h2 j hj
    rw[hget] at this
    by_cases e:j=i
    ·rw[if_pos e] at this;cases this.2
    rw[if_neg e] at this;exact this
   by_cases eji:j=i
   ·subst eji
    rw[ho] at ho';simp at ho';subst ho'
    exact .inl (hed e he hb)
   have hj':j∈π:=(List.mem_cons.1 hj).resolve_left eji
   have hidx:(i::π).idxOf j=π.idxOf j+1:=by rw[idx_ne (fun e=>eji e.symm)]
   rcases h4 j o' e hj' ho' he hb with h5|h5
   ·rw[hget] at h5
    by_cases e2:e.on=i
    ·right;rw[e2,List.idxOf_cons_self,hidx];omega
    rw[if_neg e2] at h5;exact .inl h5
   by_cases e2:e.on=i
   ·right;rw[e2,List.idxOf_cons_self,hidx];omega
   right;rw[idx_ne (fun e'=>e2 e'.symm),hidx];omega
theorem qC:∀(v:List Bool),v∈allV v.length
 |[]=>by simp[allV]
 | b::v=>by
  simp only[List.length_cons,allV,List.mem_flatMap]
  refine⟨v,qC v,?_⟩
  cases b<;>simp
theorem pw {rk:Nat->Nat}:∀(U:List (Nat×Nat)),(∀p∈U,rk p.1≠rk p.2)->∀p∈lp U (U.map fun p=>decide (rk p.1<rk p.2)),rk p.1<rk p.2
 |[],_,p,h=>by simp[lp] at h
 | u::U,hU,p,h=>by
  simp only[List.map_cons,lp,List.mem_cons] at h
  rcases h with rfl|h
  ·by_cases hd:rk u.1<rk u.2
   ·rw[decide_eq_true hd,cond_true];exact hd
   rw[decide_eq_false hd,cond_false]
   have:=hU u (by simp)
   show rk u.2<rk u.1
   omega
  exact pw U (fun p hp=>hU p (by simp[hp])) p h
theorem cover_rep {reps:List (List Nat)}{rk:Nat->Nat}(hc:coverB q z ops reps=true)(hord:∀i j,ordB (g8 ops) i j=true->rk i<rk j)(hU:∀p∈loose q z ops (g8 ops),rk p.1≠rk p.2):
  ∃τ∈reps,∀k k':Nat,k<τ.length->k'<k->depI q z ops ((τ[k']?).getD 0) ((τ[k]?).getD 0)=true->rk ((τ[k']?).getD 0)<rk ((τ[k]?).getD 0):=by
 have hlt:=pw (rk:=rk) _ hU
 have hv:=List.all_eq_true.1 hc ((loose q z ops (g8 ops)).map fun p=>decide (rk p.1<rk p.2)) (by
  have:=qC ((loose q z ops (g8 ops)).map fun p=>decide (rk p.1<rk p.2))
  simpa using this)
 simp only[Bool.or_eq_true] at hv
 have hlink:∀x y,ko (g8 ops) x y=true->rk x<=rk y:=fun x y h=>by
  unfold ko at h
  simp only[Bool.or_eq_true,beq_iff_eq] at h
  rcases h with rfl|h
  ·exact Nat.le_refl _
  exact Nat.le_of_lt (hord _ _ h)
 rcases hv with hv|hv
 ·exfalso
  unfold refuted at hv
  simp only[Bool.or_eq_true,List.any_eq_true,Bool.and_eq_true] at hv
  rcases hv with ⟨a,ha,b,hb,h1,h2⟩|⟨a,ha,b,hb,c,hc',⟨h1,h2⟩,h3⟩
  ·have:=hlt a ha;have:=hlt b hb;have:=hlink _ _ h1;have:=hlink _ _ h2;omega
  have:=hlt a ha;have:=hlt b hb;have:=hlt c hc';have:=hlink _ _ h1;have:=hlink _ _ h2;have:=hlink _ _ h3;omega
 obtain⟨τ,hτ,hk⟩:=List.any_eq_true.1 hv
 refine⟨τ,hτ,fun k k' h1 h2 hd=>?_⟩
 have:=List.all_eq_true.1 (List.all_eq_true.1 hk k (List.mem_range.2 h1)) k' (List.mem_range.2 h2)
 simp only[hd,Bool.not_true,Bool.false_or,Bool.or_eq_true] at this
 rcases this with h|h
 ·exact hord _ _ h
 exact hlt _ (by simpa using h)
theorem mI {τ:List Nat}{k i:Nat}(hk:τ[k]? = some i):(gw q z ops τ)[k]? = some { (ops[i]?.getD default) with after:=(((List.range k).filter fun k'=>depI q z ops ((τ[k']?).getD 0) i).map fun k'=>(⟨k',.data⟩:Edge)).toArray,guard:=none }:=by
 unfold gw
 simp[List.getElem?_zipIdx,hk]
theorem ju {τ:List Nat}:(gw q z ops τ).size=τ.length:=by simp[gw]
theorem rV {A B:List Nat}{i:Nat}(h:(A++B).idxOf i<A.length):i∈A:=by
 by_cases hi:i∈A
 ·exact hi
 rw[List.idxOf_append,if_neg hi] at h;omega
theorem validT {τ π0:List Nat}(hlen:τ.length=ops.size) (hmem:∀i,i<ops.size->i∈τ) (hpos:∀k,k<ops.size->τ.idxOf ((τ[k]?).getD 0)=k) (hin:∀i∈τ,i<ops.size)
  (hnd:π0.Nodup) (hall:∀i,i<ops.size->i∈π0) (hπ:∀i∈π0,i<ops.size)
  (hag:∀k k':Nat,k<τ.length->k'<k->depI q z ops ((τ[k']?).getD 0) ((τ[k]?).getD 0)=true->π0.idxOf ((τ[k']?).getD 0)<π0.idxOf ((τ[k]?).getD 0)) :
  ∀(π A:List Nat) (L:Array Bool),π0=A++π->L.size=ops.size->(∀k,k<ops.size->L.getD k false=decide ((τ[k]?).getD 0∈A))->ValidL (gw q z ops τ) L (π.map fun i=>τ.idxOf i)
 | [],A,L,e,hs,hL=>by
  refine .nil ?_
  apply List.eq_nil_iff_forall_not_mem.2
  intro k hk
  obtain⟨h0,o,ho,-⟩:=mem_ready.1 hk
  have hk':=(Array.getElem?_eq_some_iff.1 ho).1
  rw[ju,hlen] at hk'
  have h1:=hL k hk'
  have hτ:τ[k]? = some τ[k]:=List.getElem?_eq_getElem (by omega)
  rw[hτ] at h1
  have:τ[k]∈A:=by
   rw[List.append_nil] at e
   rw[<-e];exact hall _ (hin _ (List.getElem_mem _))
  simp[this] at h1
  simp[hs,hk'] at h0 h1
  rw[h1] at h0;cases h0
 | j :: π,A,L,e,hs,hL=>by
  have hj:j<ops.size:=hπ j (by rw[e];simp)
  have hjm:=hmem j hj
  have hkl:τ.idxOf j<τ.length:=List.idxOf_lt_length_of_mem hjm
  have hτk:τ[τ.idxOf j]? = some j:=by rw[List.getElem?_eq_getElem hkl,List.getElem_idxOf]
  have hjA:j∉A:=fun h=>by
   rw[e] at hnd
   exact(List.nodup_append.1 hnd).2.2 j h j (by simp) rfl
  have hget:=mI (q:=q) (z:=z) (ops:=ops) hτk
  refine .cons (mem_ready.2 ⟨?_,_,hget,fun ed he _=>?_⟩) (validT hlen hmem hpos hin hnd hall hπ hag π (A++[j]) _ (by rw[e];simp) (by simp[hs]) fun k hk=>?_)
  ·have:=hL (τ.idxOf j) (by omega)
   rw[hτk] at this
   simp[hjA] at this
   show L.getD (τ.idxOf j) true=false
   rw[Array.getD_eq_getD_getElem?]
   rw[Array.getElem?_eq_getElem (by omega)] at this ⊢
   simpa using this
  ·simp only[List.mem_toArray,List.mem_map,List.mem_filter,List.mem_range] at he
   obtain⟨k',⟨hk1,hk2⟩,rfl⟩:=he
   have h1:=hag (τ.idxOf j) k' hkl hk1 (by rw[hτk];exact hk2)
   rw[hτk] at h1
   simp only[Option.getD_some] at h1
   have hjx:π0.idxOf j=A.length:=by
    rw[e,List.idxOf_append,if_neg hjA,List.idxOf_cons_self,Nat.zero_add]
   rw[hjx,e] at h1
   have:=rV h1
   rw[hL k' (by omega)]
   simp[this]
  by_cases ek:k=τ.idxOf j
  ·subst ek
   rw[hτk]
   simp[hs,hj,hlen▸hkl]
  rw[getD_set_ne false (fun e'=>ek e'.symm),hL k hk]
  have hne:(τ[k]?).getD 0≠j:=fun h=>ek (by have:=hpos k hk;rw[h] at this;exact this.symm)
  simp[hne]
theorem wpOps_T {Q:Exit->Act->World->Prop}{τ:List Nat}(hmem:∀i,i<ops.size->i∈τ)(hg:∀(i:Nat) (o:Oper),ops[i]? = some o->o.guard=none):∀(π:List Nat) (a:Act) (w:World),(∀i∈π,i<ops.size)->wpOps P (gw q z ops τ) Q (π.map fun i=>τ.idxOf i) a w->wpOps P ops Q π a w
 |[],_,_,_,h=>h
 | i::π,a,w,hπ,h=>by
  rw[List.map_cons,wpOps_cons] at h
  rw[wpOps_cons]
  have h1:=wpOp_mono (fun a w hh=>wpOps_T hmem hg π a w (fun j hj=>hπ j (by simp[hj])) hh) h
  have hi:=hπ i (by simp)
  have him:=hmem i hi
  have hτk:τ[τ.idxOf i]? = some i:=by rw[List.getElem?_eq_getElem (List.idxOf_lt_length_of_mem him),List.getElem_idxOf]
  have ho:ops[i]? = some ops[i]:=Array.getElem?_eq_getElem hi
  unfold wpOp at h1 ⊢
  rw[mI hτk] at h1
  rw[ho] at h1 ⊢
  have hgi:=hg i _ ho
  simp only[Region.wanted,hgi,if_true,Option.getD_some] at h1 ⊢
  exact h1
theorem pick_opsT {τ:List Nat}(hin:∀i∈τ,i<ops.size):(gw q z ops τ).toList.map (lightOf (dsts (gw q z ops τ)))=jt ops.toList τ:=by
 refine List.ext_getElem? fun k=>?_
 unfold jt
 rw[List.getElem?_map,List.getElem?_map,Array.getElem?_toList]
 cases hk:τ[k]? with
 | none =>
  have:(gw q z ops τ)[k]? = none:=Array.getElem?_eq_none (by rw[ju];exact List.getElem?_eq_none_iff.1 hk)
  rw[this];rfl
 | some i =>
  rw[mI hk]
  have hi:=hin i (List.mem_of_getElem? hk)
  simp only[Option.map_some,lightOf,Option.map_none]
  rw[Array.getElem?_toList,Array.getElem?_eq_getElem hi]
  rfl
theorem pA:∀(n:Nat) (l:List Nat),l.Nodup->(∀i∈l,i<n)->l.length<=n
 | 0,l,_,h=>by
  cases l with
  |nil=>simp
  |cons x l=>exact absurd (h x (by simp)) (Nat.not_lt_zero x)
 | n+1,l,hd,h=>by
  have h1:=pA n (l.filter fun i=>i != n) (hd.filter _) (fun i hi=>by
   simp only[List.mem_filter,bne_iff_ne] at hi
   have:=h i hi.1
   omega)
  have h2:=List.length_eq_countP_add_countP (fun i=>i != n) (l:=l)
  rw[<-List.countP_eq_length_filter] at h1
  have h3:List.countP (fun a=>decide ¬(a != n)=true) l=l.count n:=by
   unfold List.count
   congr 1
   funext a
   by_cases e:a=n<;>simp[e]
  have h4:=List.nodup_iff_count.1 hd n
  omega
theorem om {id:Nat}{F:Fr}{H:aa}(hm:P.follows .mixedOrders=true) (reps:List (List Nat)) (hok:lq q z N ops reps=true) (hmz:m=H.length\/z=true)
  (hh:∀τ∈reps,AOpsDL P q m (jt ops.toList τ) F H (fun F' H'=>Q .normal F' H')):AW P N n (.region id ops true) Q F H:=by
 intro E w a h1 h2 h3 h4 h5
 unfold lq at hok
 simp only[Bool.and_eq_true] at hok
 obtain⟨⟨⟨k1,k2⟩,k3⟩,k4⟩:=hok
 have zi:∀i o,ops[i]? = some o->(o,i)∈ops.toList.zipIdx:=fun i o ho=>List.mem_iff_getElem?.2 ⟨i,by simp[List.getElem?_zipIdx,ho]⟩
 have hg:∀(i:Nat) (o:Oper),ops[i]? = some o->o.guard=none:=fun i o ho=>by
  have:=List.all_eq_true.1 k1 o (by simpa using Array.mem_of_getElem? ho)
  simpa using this
 have hback:∀(i:Nat) (o:Oper) (e:Edge),ops[i]? = some o->e∈o.after->Region.binds .any e=true->e.on<i:=fun i o e ho he hb=>by
  have:=List.all_eq_true.1 k2 _ (zi i o ho)
  have:=Array.all_eq_true_iff_forall_mem.1 this e he
  simpa [hb] using this
 refine wp_region_draw fun t=>?_
 simp only[Region.schedule,hm,Bool.true_or,if_true]
 have hv:ValidL ops (Array.replicate ops.size false) (Region.linearise .any ops t):=go_valid _ t _ (by simp) (by simp[unl,List.countP_replicate])
 generalize Region.linearise .any ops t=π at hv
 have hL:∀i,(Array.replicate ops.size false).getD i false=false:=fun i=>by
  rw[Array.getD_eq_getD_getElem?]
  cases hq:(Array.replicate ops.size false)[i]? with
  |none=>rfl
  |some b=>rw[Array.getElem?_replicate] at hq;split at hq<;>simp at hq;subst hq;rfl
 obtain⟨v1,v2,v3,v4⟩:=pv hback π _ (by simp) hv
 have hall:∀i,i<ops.size->i∈π:=fun i hi=>v1 i hi (hL i)
 have hπ:∀i∈π,i<ops.size:=fun i hi=>(v2 i hi).1
 have hpred:∀i j,Pred ops i j->j<ops.size->π.idxOf i<π.idxOf j:=fun i j hp=>by
  induction hp with
  | edge ho he hb =>
   intro hj
   rcases v4 _ _ _ (hall _ hj) ho he hb with h|h
   ·rw[hL] at h;cases h
   exact h
  | step ho he hb _ ih =>
   intro hj
   rcases v4 _ _ _ (hall _ hj) ho he hb with h|h
   ·rw[hL] at h;cases h
   exact Nat.lt_trans (ih (by have:=hback _ _ _ ho he hb;omega)) h
 have predlt:∀i j,Pred ops i j->j<ops.size:=fun i j hp=>by
  cases hp with
  |edge ho _ _=>exact(Array.getElem?_eq_some_iff.1 ho).1
  |step ho _ _ _=>exact(Array.getElem?_eq_some_iff.1 ho).1
 obtain ⟨τ,hτ,hag⟩:=cover_rep (rk:=fun i=>π.idxOf i) k4 (fun i j h=>hpred i j (d4 h) (predlt i j (d4 h))) (fun p hp=>by
  unfold loose at hp
  simp only[List.mem_flatMap,List.mem_range,List.mem_map,List.mem_filter] at hp
  obtain⟨j,hj,i,⟨hi,-⟩,rfl⟩:=hp
  intro e
  have h1:π[π.idxOf i]? = some i:=by rw[List.getElem?_eq_getElem (List.idxOf_lt_length_of_mem (hall i (by omega))),List.getElem_idxOf]
  have h2:π[π.idxOf j]? = some j:=by rw[List.getElem?_eq_getElem (List.idxOf_lt_length_of_mem (hall j hj)),List.getElem_idxOf]
  simp only at e
  rw[e,h2] at h1
  simp at h1;omega)
 have hr:=List.all_eq_true.1 k3 τ hτ
 simp only[Bool.and_eq_true] at hr
 obtain⟨⟨hp,hd⟩,hz⟩:=hr
 unfold permB at hp
 simp only[Bool.and_eq_true,beq_iff_eq] at hp
 obtain⟨⟨⟨p1,p2⟩,p3⟩,p4⟩:=hp
 have hmem:∀i,i<ops.size->i∈τ:=fun i hi=>by
  have:=List.all_eq_true.1 p2 i (List.mem_range.2 hi)
  simpa using this
 have hin:∀i∈τ,i<ops.size:=fun i hi=>Nat.le_of_ble_eq_true (List.all_eq_true.1 p3 i hi)
 have hpos:∀k,k<ops.size->τ.idxOf ((τ[k]?).getD 0)=k:=fun k hk=>by
  have:=List.all_eq_true.1 p4 k (List.mem_range.2 hk)
  simpa using this
 refine wpOps_T (q:=q) (z:=z) hmem hg π a _ hπ ?_
 have hvT:=validT (q:=q) (z:=z) p1 hmem hpos hin v3 hall hπ hag π [] (Array.replicate (gw q z ops τ).size false) (by simp) (by simp[ju,p1]) (fun k hk=>by
  rw[Array.getD_eq_getD_getElem?]
  cases hq:(Array.replicate (gw q z ops τ).size false)[k]? with
  |none=>simp
  |some b=>rw[Array.getElem?_replicate] at hq;split at hq<;>simp at hq;subst hq;simp)
 have hany:=mD (P:=P) (N:=N) (n:=n) (Q:=Q) q hd (hmz.imp (fun e=>Nat.le_of_eq e) fun e=>qB (by rw[e] at hz;simpa [e] using hz)) (gH (gw q z ops τ).toList F H (by rw[pick_opsT hin];exact hh τ hτ)) h1 h2 h3 h4 h5
 refine pu _ _ _ _ _ ?_ hany hvT
 rw[List.length_map,ju,p1]
 have:=pA ops.size π v3 hπ
 omega
theorem AW_abs {c:Code}{Q:Exit->Fr->aa->Prop}{σ:Nat->Nat}{F F2:Fr}{H H2:aa}(ab:Abs n σ F H F2 H2)(h:AW P N n c Q F2 H2):AW P N n c Q F H:=by
 intro E w a h1 h2 h3 h4 h5
 obtain⟨E',hle,f,e⟩:=ab.emb h1 h4 h5
 exact wp_mono (h E' w a hle.n h2 h3 f e) fun e a w hh=>LiftQ.shift hle hh
theorem jM {a b:Code}{F:Fr}{H:aa}(q:Bool)(hm:P.follows .mixedOrders=true)(hc:db N q a=true)(J:Fr->aa->Prop)(h1:AGo P N n q Q [.code a,.inv J] F H)(h2:∀F H,J F H->AW P N n b Q F H):AW P N n (.seq a b) Q F H:=by
 refine ja (AW.mono (iL hm a hc _ F H h1) fun e F H hq=>?_)
 cases e<;>first|exact h2 F H hq|exact hq
theorem AW_fin {a:Code}{F:Fr}{H:aa}(q:Bool)(hm:P.follows .mixedOrders=true)(hc:db N q a=true)(h:AGo P N n q Q [.code a] F H):AW P N n a Q F H:=iL hm a hc _ F H h
theorem bT {id:Nat}{b:Code}{F:Fr}{H:aa}(q:Bool) (hm:P.follows .mixedOrders=true) (reps:List (List Nat)) (hok:lq q false N ops reps=true) (I:Fr->aa->Prop)
  (h1:∀τ∈reps,∀J:Fr->aa->Prop,(∀F' H',(∃σ F2 H2,I F2 H2/\Abs n σ F' H' F2 H2)->J F' H')->AGo P N n q Q [.opsD H.length (jt ops.toList τ),.inv J] F H) (h2:∀F2 H2,I F2 H2->AW P N n b Q F2 H2):AW P N n (.seq (.region id ops true) b) Q F H:=by
 refine ja (AW.mono (om (Q:=fM (fun F' H'=>∃σ F2 H2,I F2 H2/\Abs n σ F' H' F2 H2) Q) hm reps hok (.inl rfl) fun τ hτ=>?_) fun e F H hq=>?_)
 ·exact h1 τ hτ (fun F' H'=>∃σ F2 H2,I F2 H2/\Abs n σ F' H' F2 H2) (fun _ _ h=>h)
 cases e with
 | normal =>
  obtain⟨σ,F2,H2,hi,ab⟩:=hq
  exact AW_abs ab (h2 F2 H2 hi)
 |_=>exact hq
theorem mo {id:Nat}{b:Code}{F:Fr}{H:aa}(q:Bool) (hm:P.follows .mixedOrders=true) (reps:List (List Nat)) (hok:lq q true N ops reps=true) (I:Fr->aa->Prop)
  (h1:∀τ∈reps,∀J:Fr->aa->Prop,(∀F' H',(∃σ F2 H2,I F2 H2/\Abs n σ F' H' F2 H2)->J F' H')->AGo P N n q Q [.opsD (H.length+1000000) (jt ops.toList τ),.inv J] F H) (h2:∀F2 H2,I F2 H2->AW P N n b Q F2 H2):AW P N n (.seq (.region id ops true) b) Q F H:=by
 refine ja (AW.mono (om (m:=H.length+1000000) (Q:=fM (fun F' H'=>∃σ F2 H2,I F2 H2/\Abs n σ F' H' F2 H2) Q) hm reps hok (.inr rfl) fun τ hτ=>?_) fun e F H hq=>?_)
 ·exact h1 τ hτ (fun F' H'=>∃σ F2 H2,I F2 H2/\Abs n σ F' H' F2 H2) (fun _ _ h=>h)
 cases e with
 | normal =>
  obtain⟨σ,F2,H2,hi,ab⟩:=hq
  exact AW_abs ab (h2 F2 H2 hi)
 |_=>exact hq
theorem am {p:List Nat->Prop}{τ:List Nat}{l:List (List Nat)}(h:p τ)(h2:∀τ∈l,p τ):∀τ'∈τ::l,p τ':=fun τ' h'=>by
 rcases List.mem_cons.1 h' with rfl|h'
 ·exact h
 exact h2 _ h'
theorem bP {p:List Nat->Prop}:∀τ'∈([]:List (List Nat)),p τ':=fun τ' h=>by simp at h
theorem aC {J:Fr->aa->Prop}{r:List It}{F:Fr}{H:aa}(h:J F H):AGo P N n q Q (.inv J::r) F H:=h
theorem bI {f:FuncId}{fn:Func}{args:List AV}{R:AV->aa->Prop}{H:aa}(hf:P.funcs[f]? = some fn) (N:Nat) (hN:fn.ntmps=N) (ha:args.length<=N) (hsome:fn.body.isSome=true)
  (h:HBel H.length H->∀Q,(∀F H',AEnd P fn H.length R .ret F H'->dl Q F H')->(∀F H',AEnd P fn H.length R .normal F H'->Q .normal F H')->∀c,fn.body=some c->AW P N H.length c Q (argF 0 args) H):ACalls P f args H R:=by
 cases hb:fn.body with
 |none=>rw[hb] at hsome;cases hsome
 |some c=>exact lk hf hb hN ha fun hbel=>h hbel (AEnd P fn H.length R) (fun _ _ k=>k) (fun _ _ k=>k) c hb
def ff (N:Nat) (q:Bool):Code->Bool
 |.seq a b=>ff N q a&&ff N q b
 |.cond _ a b=>ff N q a&&ff N q b
 |.block _ c=>ff N q c
 |.region _ ops draw=>bif draw then gq q N ops else ld N ops
 |_=>true
theorem jN (hm:P.follows .mixedOrders=true):∀(c:Code),ff N q c=true->∀(Q:Exit->Fr->aa->Prop) (F:Fr) (H:aa),AWr P N n q c Q F H->AW P N n c Q F H
 |.skip,_,_,_,_,h=>AW_skip h
 |.label _,_,_,_,_,h=>p9 h
 | .seq a b,hc,Q,F,H,h=>by
  simp only[ff,Bool.and_eq_true] at hc
  refine ja (AW.mono (jN hm a hc.1 _ F H h) fun e F H hq=>?_)
  cases e with
  |normal=>exact jN hm b hc.2 _ F H hq
  |_=>exact hq
 | .cond c a b,hc,Q,F,H,h=>by
  simp only[ff,Bool.and_eq_true] at hc
  obtain⟨t,h1,h2,h3⟩:=h
  exact gj t h1 (fun e=>jN hm a hc.1 _ F H (h2 e)) (fun e=>jN hm b hc.2 _ F H (h3 e))
 |.block id c,hc,Q,F,H,h=>mB (jN hm c hc _ F H h)
 |.exit _,_,_,_,_,h=>AW_exit h
 |.ret,_,_,_,_,h=>AW_ret h
 | .region id ops draw,hc,Q,F,H,h=>by
  cases draw
  ·exact oV hc (lL _ _ _ h)
  exact AW_draw q hm hc (gH _ _ _ h)
 |.loop c,_,_,_,_,h=>h
 |.rangeFunc ..,_,_,_,_,h=>h.elim
 |.scope _,_,_,_,_,h=>h.elim
 |.goto _,_,_,_,_,h=>h.elim
 |.refuse _,_,_,_,_,h=>h.elim
theorem rI {f:FuncId}{fn:Func}{args:List AV}{R:AV->aa->Prop}{H:aa}(hm:P.follows .mixedOrders=true) (hf:P.funcs[f]? = some fn) (q:Bool) (N:Nat) (hN:fn.ntmps=N) (ha:args.length<=N)
  (hc:(fn.body.map (ff N q))=some true) (h:HBel H.length H->∀Q,(∀F H',AEnd P fn H.length R .ret F H'->dl Q F H')->(∀F H',AEnd P fn H.length R .normal F H'->Q .normal F H')->∀c,fn.body=some c->AGo P N H.length q Q [.code c] (argF 0 args) H):ACalls P f args H R:=by
 cases hb:fn.body with
 |none=>rw[hb] at hc;cases hc
 | some c =>
  rw[hb] at hc
  simp at hc
  exact lk hf hb hN ha fun hbel=>jN hm c hc _ _ _ (h hbel (AEnd P fn H.length R) (fun _ _ k=>k) (fun _ _ k=>k) c hb)
theorem AW_seqQ {a b:Code}{F:Fr}{H:aa}(h:∀Q2:Exit->Fr->aa->Prop,(∀F H,AW P N n b Q F H->Q2 .normal F H)->(∀F H,dl Q F H->dl Q2 F H)->(∀id F H,Q (.exit id) F H->Q2 (.exit id) F H)->AW P N n a Q2 F H):AW P N n (.seq a b) Q F H :=
 ja (h (fM (fun F H=>AW P N n b Q F H) Q) (fun _ _ k=>k) (fun _ _ k=>k) (fun _ _ _ k=>k))
theorem AW_blockQ {id:Nat}{c:Code}{F:Fr}{H:aa}(h:∀Q2:Exit->Fr->aa->Prop,(∀F H,Q .normal F H->Q2 .normal F H)->(∀F H,dl Q F H->dl Q2 F H)->(∀id',id'≠id->∀F H,Q (.exit id') F H->Q2 (.exit id') F H)->(∀F H,Q .normal F H->Q2 (.exit id) F H)->AW P N n c Q2 F H):AW P N n (.block id c) Q F H :=
 mB (h (fw id Q) (fun _ _ k=>k) (fun _ _ k=>k) (fun id' hne F H k=>by simp only[fw];rw[if_neg hne];exact k) (fun F H k=>by simp only[fw,if_true];exact k))
theorem go_loopA {c:Code}{r:List It}{F:Fr}{H:aa}(I:Nat->Fr->aa->Prop) (k0:Nat) (h0:∃σ F2 H2,I k0 F2 H2/\Abs n σ F H F2 H2)
  (round:∀k F H,I k F H->∀Q2:Exit->Fr->aa->Prop,(∀F' H',(∃k',k'<k/\∃σ F2 H2,I k' F2 H2/\Abs n σ F' H' F2 H2)->Q2 .normal F' H')->(∀F H,dl Q F H->dl Q2 F H)->(∀id F H,js P N n q Q id r F H->Q2 (.exit id) F H)->AW P N n c Q2 F H):AGo P N n q Q (.code (.loop c)::r) F H :=
 oh I k0 h0 fun k F H hi=>round k F H hi (fM _ (St P N n q Q r)) (fun _ _ k=>k) (fun F H k=>by show St P N n q Q r .ret F H;rw[gI];exact k) (fun _ _ _ k=>k)
theorem kr {c:Code}{F:Fr}{H:aa}(I:Nat->Fr->aa->Prop) (k0:Nat) (h0:∃σ F2 H2,I k0 F2 H2/\Abs n σ F H F2 H2)
  (round:∀k F H,I k F H->∀Q2:Exit->Fr->aa->Prop,(∀F' H',(∃k',k'<k/\∃σ F2 H2,I k' F2 H2/\Abs n σ F' H' F2 H2)->Q2 .normal F' H')->(∀F H,dl Q F H->dl Q2 F H)->(∀id F H,Q (.exit id) F H->Q2 (.exit id) F H)->AW P N n c Q2 F H):AW P N n (.loop c) Q F H :=
 oh I k0 h0 fun k F H hi=>round k F H hi (fM _ Q) (fun _ _ k=>k) (fun F H k=>k) (fun _ _ _ k=>k)
theorem AcT (q:Bool) {f:FuncId}{fn:Func}{args:List AV}{R:AV->aa->Prop}{H:aa}(hf:P.funcs[f]? = some fn) {c:Code}(h:HBel H.length H->∀Q:Exit->Fr->aa->Prop,(∀F H',AEnd P fn H.length R .ret F H'->dl Q F H')->AGo P fn.ntmps H.length q Q [.code c] (argF 0 args) H)
  (hb:fn.body=some c:=by rfl) (hm:P.follows .mixedOrders=true:=by exact try_mixed) (ha:args.length<=fn.ntmps:=by exact Nat.le_of_ble_eq_true (by kernel_rfl)) (hc:db fn.ntmps q c=true:=by kernel_rfl):ACalls P f args H R :=
 cB hm hf q _ rfl ha (by rw[hb];exact congrArg some hc) fun hbel Q hQ _ c' hc'=>by
  rw[hb] at hc'
  injection hc' with hc'
  subst hc'
  exact h hbel Q hQ
theorem AcL (q:Bool) {f:FuncId}{fn:Func}{args:List AV}{R:AV->aa->Prop}{H:aa}(hf:P.funcs[f]? = some fn) {c:Code}(h:HBel H.length H->∀Q:Exit->Fr->aa->Prop,(∀F H',AEnd P fn H.length R .ret F H'->dl Q F H')->AGo P fn.ntmps H.length q Q [.code c] (argF 0 args) H)
  (hb:fn.body=some c:=by rfl) (hm:P.follows .mixedOrders=true:=by exact try_mixed) (ha:args.length<=fn.ntmps:=by exact Nat.le_of_ble_eq_true (by kernel_rfl)) (hc:ff fn.ntmps q c=true:=by kernel_rfl):ACalls P f args H R :=
 rI hm hf q _ rfl ha (by rw[hb];exact congrArg some hc) fun hbel Q hQ _ c' hc'=>by
  rw[hb] at hc'
  injection hc' with hc'
  subst hc'
  exact h hbel Q hQ
end
def qD (P:Program) (t:TypeId) (s x:AV) (H:aa):Option (AV×aa):=ap P t s x H
theorem cN {P:Program}{t:TypeId}{b n:Nat}{x:AV}{H:aa}:ap P t (.sl (some (b,0)) n (aT n)) x H=(cr P t).bind fun e=>(tSz P e).bind fun sz=>(aB P e).bind fun by_=>(aE P e).bind fun z=>(aElems sz x H).bind fun mx =>
  (bu (z.length=sz/\0<sz/\0<by_)).bind fun _=>match H[b]? with
   | some (.cells own es xs)=>bif (own==aL n)&&(decide (es=sz)&&(decide (xs.length=n*sz)&&(decide (0<mx.1)&&xs.all AV.one))) then
     (bu ((n+mx.1)*by_<=140737488355328)).map fun _=>(.sl (some (H.length,0)) (n+mx.1) none,H.set b (killG n (.cells own es xs))++[.cells true sz (xs++mx.2)])
    else qD P t (.sl (some (b,0)) n (aT n)) x H
   |_=>qD P t (.sl (some (b,0)) n (aT n)) x H:=rU
theorem nz {m b:Nat}(h:b<m):W m (.sl none 0 (some 0)) (.sl (some (b,0)) 0 none)=True:=eq_true (d5 h (.inl rfl))
theorem nA {m b:Nat}(h:b<m):W m (.sl none 0 (some 0)) (.sl (some (b,0)) 0 (some 0))=True:=eq_true (d5 h (.inr rfl))
theorem nB {m n:Nat}{p:Nat×Nat}{c:Option Nat}:W m (.sl (some p) n c) (.sl (some p) n none)=True:=eq_true kg
theorem lO {m b:Nat}(h:b<m):Wc m (.sl none 0 (some 0)) (.sl (some (b,0)) 0 none)=True:=eq_true (dA h (.inl rfl))
theorem lP {m b:Nat}(h:b<m):Wc m (.sl none 0 (some 0)) (.sl (some (b,0)) 0 (some 0))=True:=eq_true (dA h (.inr rfl))
theorem lQ {m n:Nat}{p:Nat×Nat}{c:Option Nat}:Wc m (.sl (some p) n c) (.sl (some p) n none)=True:=eq_true jb
theorem aO (a b:Int):(a==b)=decide (a=b):=rfl
theorem aP (a b:Int):(a != b)=!decide (a=b):=rfl
theorem rem_nat (a b:Nat):Int.tmod (a:Int) (b:Int)=((a%b:Nat):Int):=rfl
section
variable {P:Program} {H:aa} {n:Nat}
theorem LTy.pairsU {t e u v:TypeId}{x:AV}(ht:P.underlying t=some (.slice e))(hu:P.underlying u=some (.int .i64))(hv:P.underlying v=some (.int .i64))(hl:bH P (n+1) e=some [u,v])(h:LTy P H (n+2) t x):
  ∃l:List (Int×Int),SlP H x l/\l.length<=maxLen/\∀p∈l,(Lit.int .i64 p.1).wf=true/\(Lit.int .i64 p.2).wf=true:=by
 obtain⟨b,rows,rfl,h1,h2,h3⟩:=h.slice ht hl
 obtain⟨l,k1,k2,k3⟩:=qj hu hv rows h3
 exact⟨l,⟨b,false,none,by rw[k1],by rw[<-k2];exact h2⟩,by omega,k3⟩
theorem LTy.intsU {t e:TypeId}{k:IntKind}{x:AV}(ht:P.underlying t=some (.slice e))(he:P.underlying e=some (.int k))(hl:bH P (n+1) e=some [e])(h:LTy P H (n+2) t x):∃l:List Int,SlI H k x l/\l.length<=maxLen/\∀z∈l,(Lit.int k z).wf=true:=by
 obtain⟨b,rows,rfl,h1,h2,h3⟩:=h.slice ht hl
 obtain⟨l,k1,k2,k3⟩:=lm he rows h3
 exact⟨l,⟨b,false,none,by rw[k1],by rw[<-k2];exact h2⟩,by omega,k3⟩
end
theorem aI {p q:Prop}(hq:q) (h:q->p:=by
 intro hq
 simp -implicitDefEqProofs (disch:=omega) only [cM,cz,cA,cN,simprocAttr,aJ,aK,Function.comp_apply,one1,lenV,aj,av,aA,aop,AV.ofValue,AV.ofCell,AV.cells,AV.flat,AV.one,arep,aU,aG]
 repeat refine And.intro (by clear hq;omega) ?_
 exact hq):p:=h hq
theorem ae {p q r:Prop}(f:r) (hq:q) (h:r->q->p:=by
 intro hs hq
 simp -implicitDefEqProofs (disch:=omega) only [hs,cM,cz,cA,cN,simprocAttr,aJ,aK,Function.comp_apply,one1,lenV,aj,av,aA,aop,AV.ofValue,AV.ofCell,AV.cells,AV.flat,AV.one,arep,aU,aG]
 repeat refine And.intro (by clear hq;omega) ?_
 exact hq):p:=h f hq
theorem runD {p q:Prop}(hq:q) (h:q->p:=by
 intro hq
 simp -implicitDefEqProofs (disch:=omega) only [jt,cM,cz,cA,cN,simprocAttr,aJ,aK,Function.comp_apply,one1,lenV,aj,av,aA,aop,AV.ofValue,AV.ofCell,AV.cells,AV.flat,AV.one,arep,aU,aG]
 repeat refine And.intro (by clear hq;omega) ?_
 exact hq):p:=h hq
theorem ak {p q r:Prop}(f:r) (hq:q) (h:r->q->p:=by
 intro hs hq
 simp -implicitDefEqProofs (disch:=omega) only [hs,jt,cM,cz,cA,cN,simprocAttr,aJ,aK,Function.comp_apply,one1,lenV,aj,av,aA,aop,AV.ofValue,AV.ofCell,AV.cells,AV.flat,AV.one,arep,aU,aG]
 repeat refine And.intro (by clear hq;omega) ?_
 exact hq):p:=h f hq
theorem bsT {p q:Prop}(h:p) (e:p->q:=by
 intro h
 try simp only[jL,beq_iff_eq,ne_eq] at h
 exact h):q:=e h
theorem bnT {p q:Prop}(h:p) (e:p->q:=by
 intro h
 try simp only[aP,aO,Bool.not_eq_true',Bool.not_eq_false',Bool.not_not] at h
 exact h):q:=e h
theorem sqR {P:Program}{N n:Nat}{Q:Exit->Fr->aa->Prop}{a b:Code}{F:Fr}{H:aa}{E:Fr->aa->Prop}(hQ:∀F H',E F H'->dl Q F H')(h:∀Q2:Exit->Fr->aa->Prop,(∀F H,AW P N n b Q F H->Q2 .normal F H)->(∀F H',E F H'->dl Q2 F H')->(∀id F H,Q (.exit id) F H->Q2 (.exit id) F H)->AW P N n a Q2 F H):AW P N n (.seq a b) Q F H :=
 AW_seqQ fun Q2 hn hr he=>h Q2 hn (fun F H' k=>hr F H' (hQ F H' k)) he
theorem bkR {P:Program}{N n:Nat}{Q:Exit->Fr->aa->Prop}{id:Nat}{c:Code}{F:Fr}{H:aa}{E:Fr->aa->Prop}(hQ:∀F H',E F H'->dl Q F H')(h:∀Q2:Exit->Fr->aa->Prop,(∀F H,Q .normal F H->Q2 .normal F H)->(∀F H',E F H'->dl Q2 F H')->(∀id',id'≠id->∀F H,Q (.exit id') F H->Q2 (.exit id') F H)->(∀F H,Q .normal F H->Q2 (.exit id) F H)->AW P N n c Q2 F H):AW P N n (.block id c) Q F H :=
 AW_blockQ fun Q2 hn hr he hb=>h Q2 hn (fun F H' k=>hr F H' (hQ F H' k)) he hb
theorem cv {P:Program}{N n:Nat}{q:Bool}{Q:Exit->Fr->aa->Prop}{dst:Option Tmp}{os:List LOp}{r:List It}{F:Fr}{H H1:aa}{f:FuncId}{args:List AV}{x:AV}(h:ACalls P f args H fun v H'=>v=x/\H'=H1)(k:AGo P N n q Q (.ops os::r) (putF dst x F) H1)(hok:dk P f=true:=by kernel_rfl):fy P N n q Q none f args dst os r F H:=dQ hok h k
theorem cd {P:Program}{N n m:Nat}{q:Bool}{Q:Exit->Fr->aa->Prop}{dst:Option Tmp}{os:List LOp}{r:List It}{F:Fr}{H:aa}{f:FuncId}{args:List AV}{x:AV}(h:ACalls P f args H fun y H1=>y=x/\H1=H)(k:AGo P N n q Q (.opsD m os::r) (putF dst x F) H)(hok:dk P f=true:=by kernel_rfl):fy P N n q Q (some m) f args dst os r F H:=call_d hok h k
theorem cx {P:Program}{N n m:Nat}{Q:Exit->Fr->aa->Prop}{dst:Option Tmp}{os:List LOp}{r:List It}{F:Fr}{H l:aa}{f:FuncId}{args:List AV}{x:AV}(h:ACalls P f args H fun y H1=>y=x/\H1=H++l)(k:AGo P N n false Q (.opsD m os::r) (putF dst x F) (H++l))(hok:dk P f=true:=by kernel_rfl):fy P N n false Q (some m) f args dst os r F H:=call_x hok trivial h k
theorem fnT {P:Program}{N n:Nat}{Q:Exit->Fr->aa->Prop}{a:Code}{F:Fr}{H:aa}(h:AGo P N n true Q [.code a] F H)(hc:db N true a=true:=by kernel_rfl)(hm:P.follows .mixedOrders=true:=by exact try_mixed):AW P N n a Q F H:=AW_fin true hm hc h
theorem fnF {P:Program}{N n:Nat}{Q:Exit->Fr->aa->Prop}{a:Code}{F:Fr}{H:aa}(h:AGo P N n false Q [.code a] F H)(hc:db N false a=true:=by kernel_rfl)(hm:P.follows .mixedOrders=true:=by exact try_mixed):AW P N n a Q F H:=AW_fin false hm hc h
theorem glp {P:Program}{N n:Nat}{q:Bool}{Q:Exit->Fr->aa->Prop}{r:List It}{F:Fr}{H:aa}{c:Code}(I:Nat->Fr->aa->Prop) (k0:Nat) (h0:∃σ F2 H2,I k0 F2 H2/\Abs n σ F H F2 H2)
  (round:∀k F H,I k F H->∀J:Fr->aa->Prop,(∀F' H',(∃k',k'<k/\∃σ F2 H2,I k' F2 H2/\Abs n σ F' H' F2 H2)->J F' H')->AGo P N n q Q (.code c::.inv J::r) F H) (hc:db N q c=true:=by kernel_rfl) (hm:P.follows .mixedOrders=true:=by exact try_mixed):AGo P N n q Q (.code (.loop c)::r) F H:=go_loop hm hc I k0 h0 round
theorem eP {P:Program}{fn:Func}{H l1:aa}{R:AV->aa->Prop}{F:Fr}{Q:Exit->Fr->aa->Prop}(hQ:∀F H',AEnd P fn H.length R .ret F H'->dl Q F H')(hbel:HBel H.length H)(x:AV){l:List ResultVar}(h1:fn.results=l.toArray)(hR:R x H)(h2:(aRes P l F (H++l1)).map one1=some x:=by simp -implicitDefEqProofs (disch:=omega) only [simprocAttr,aJ,aK,Function.comp_apply,one1,lenV,aj,av,aA,aop,AV.ofValue,AV.ofCell,AV.cells,AV.flat,AV.one,arep,aU,ap,aG])(hp:x.bel 0=true:=by rfl):dl Q F (H++l1):=hQ _ _ (dN (.inl rfl) hbel (jI h1 h2) hp hR)
theorem eQ {P:Program}{fn:Func}{H:aa}{R:AV->aa->Prop}{F:Fr}{Q:Exit->Fr->aa->Prop}(hQ:∀F H',AEnd P fn H.length R .ret F H'->dl Q F H')(hbel:HBel H.length H)(x:AV){l:List ResultVar}(h1:fn.results=l.toArray)(hR:R x H)(h2:(aRes P l F H).map one1=some x:=by simp -implicitDefEqProofs (disch:=omega) only [simprocAttr,aJ,aK,Function.comp_apply,one1,lenV,aj,av,aA,aop,AV.ofValue,AV.ofCell,AV.cells,AV.flat,AV.one,arep,aU,ap,aG])(hp:x.bel 0=true:=by rfl):dl Q F H:=hQ _ _ (eO (.inl rfl) hbel (jI h1 h2) hp hR)
theorem slA {H:aa}{sz n b:Nat}{s:AV}{xs:List AV}{o:Bool}{c:Option Nat}(h1:s=.sl (some (b,0)) n c:=by first|rfl|(rw[List.length_append];done)|(rw[List.length_append];rfl))(h2:H[b]? = some (.cells o sz xs):=by first|rfl|(rw[bO];rfl)|(rw[dp];rfl)|(rw[bO,eM];rfl)|(rw[dp,eM];rfl)):Sl H sz s n xs:=⟨b,o,c,h1,h2⟩
theorem hzA {H:aa}{b:Nat}{x:List AV}{o:Bool}(h:H[b]? = some (.cells o 0 x):=by first|rfl|(rw[bO];rfl)|(rw[dp];rfl)|(rw[dp])):∃o,H[b]? = some (.cells o 0 x):=⟨o,h⟩
theorem hzB {H:aa}{b:Nat}{x:Option ABlk}(h:H[b]? = x:=by first|rfl|(rw[bO];rfl)|(rw[dp];rfl)|(rw[dp])):H[b]? = x:=h
theorem j2 {a b c:Prop}(x:a)(y:b)(z:c):a/\b/\c:=⟨x,y,z⟩
theorem rcs {P:Program}{N n:Nat}{q:Bool}{Q:Exit->Fr->aa->Prop}{r:List It}{F:Fr}{H:aa}{t:Bool}{a b:Code}{s p1 p2 G:Prop}(g:G) (k1:t=true->p1->(t=true/\p1/\G)->AGo P N n q Q (.code a::r) F H) (k2:t=false->p2->(t=false/\p2/\G)->AGo P N n q Q (.code b::r) F H) (h:G->kh P N n q Q (.bool t) a b r F H->s:=by
 intro hs hq
 simp -implicitDefEqProofs (disch:=omega) only [hs,cM,cz,cA,cN,simprocAttr,aJ,aK,Function.comp_apply,one1,lenV,aj,av,aA,aop,AV.ofValue,AV.ofCell,AV.cells,AV.flat,AV.one,arep,aU,aG]
 repeat refine And.intro (by clear hq;omega) ?_
 exact hq) (e1:t=true->p1:=by
 intro h
 try simp only[jL,beq_iff_eq,ne_eq] at h
 exact h) (e2:t=false->p2:=by
 intro h
 try simp only[jL,beq_iff_eq,ne_eq] at h
 exact h):s:=h g (cO (fun k=>k1 k (e1 k) ⟨k,e1 k,g⟩) fun k=>k2 k (e2 k) ⟨k,e2 k,g⟩)
theorem rgs {P:Program}{N n:Nat}{q:Bool}{Q:Exit->Fr->aa->Prop}{d:Option Nat}{o:Op}{dst:Option Tmp}{os:List LOp}{r:List It}{F:Fr}{H:aa}{t:Bool}{s p1 p2 G:Prop}(g:G) (k1:t=true->p1->(t=true/\p1/\G)->ADo P N n q Q d o dst os r F H) (k2:t=false->p2->(t=false/\p2/\G)->AGo P N n q Q (itOf d os::r) (putF dst (.tup []) F) H) (h:G->AGd P N n q Q d (some t) o dst os r F H->s:=by
 intro hs hq
 simp -implicitDefEqProofs (disch:=omega) only [hs,cM,cz,cA,cN,simprocAttr,aJ,aK,Function.comp_apply,one1,lenV,aj,av,aA,aop,AV.ofValue,AV.ofCell,AV.cells,AV.flat,AV.one,arep,aU,aG]
 repeat refine And.intro (by clear hq;omega) ?_
 exact hq) (e1:t=true->p1:=by
 intro h
 try simp only[jL,beq_iff_eq,ne_eq] at h
 exact h) (e2:t=false->p2:=by
 intro h
 try simp only[jL,beq_iff_eq,ne_eq] at h
 exact h):s:=h g (aY (fun k=>k1 k (e1 k) ⟨k,e1 k,g⟩) fun k=>k2 k (e2 k) ⟨k,e2 k,g⟩)
theorem cvr {P:Program}{N n:Nat}{q:Bool}{Q:Exit->Fr->aa->Prop}{dst:Option Tmp}{os:List LOp}{r:List It}{F:Fr}{H H1:aa}{f:FuncId}{args:List AV}{x:AV}{s G:Prop}(g:G) (c:ACalls P f args H fun v H'=>v=x/\H'=H1) (k:s) (h:G->s->AGo P N n q Q (.ops os::r) (putF dst x F) H1:=by
 intro hs hq
 simp -implicitDefEqProofs (disch:=omega) only [hs,cM,cz,cA,cN,simprocAttr,aJ,aK,Function.comp_apply,one1,lenV,aj,av,aA,aop,AV.ofValue,AV.ofCell,AV.cells,AV.flat,AV.one,arep,aU,aG]
 repeat refine And.intro (by clear hq;omega) ?_
 exact hq) (hok:dk P f=true:=by kernel_rfl):fy P N n q Q none f args dst os r F H:=dQ hok c (h g k)
theorem cdr {P:Program}{N n m:Nat}{q:Bool}{Q:Exit->Fr->aa->Prop}{dst:Option Tmp}{os:List LOp}{r:List It}{F:Fr}{H:aa}{f:FuncId}{args:List AV}{x:AV}{s G:Prop}(g:G) (c:ACalls P f args H fun y H1=>y=x/\H1=H) (k:s) (h:G->s->AGo P N n q Q (.opsD m os::r) (putF dst x F) H:=by
 intro hs hq
 simp -implicitDefEqProofs (disch:=omega) only [hs,cM,cz,cA,cN,simprocAttr,aJ,aK,Function.comp_apply,one1,lenV,aj,av,aA,aop,AV.ofValue,AV.ofCell,AV.cells,AV.flat,AV.one,arep,aU,aG]
 repeat refine And.intro (by clear hq;omega) ?_
 exact hq) (hok:dk P f=true:=by kernel_rfl):fy P N n q Q (some m) f args dst os r F H:=call_d hok c (h g k)
theorem bS {H0 l1 l2:aa}{F1 F2:Fr}(hsc:HBel H0.length H0)(sel:List Nat)(h:fj (H0.length+(l1++[]).length) (sig H0.length (l1++[]).length sel) F1 F2/\fB (H0.length+(l1++[]).length) (sig H0.length (l1++[]).length sel) (l1++[]) sel l2)(hnd:sel.Nodup:=by decide):Abs H0.length (sig H0.length (l1++[]).length sel) F1 (H0++l1) F2 (H0++l2):=Abs.byG hsc [] rfl sel hnd h
theorem eR {P:Program}{fn:Func}{H l1:aa}{R:AV->aa->Prop}{F:Fr}{Q:Exit->Fr->aa->Prop}{G s:Prop}(g:G) (hQ:∀F H',AEnd P fn H.length R .ret F H'->dl Q F H') (hbel:HBel H.length H) (x:AV) {l:List ResultVar}(h1:fn.results=l.toArray) (hR:R x H) (h:G->dl Q F (H++l1)->s:=by
 intro hs hq
 simp -implicitDefEqProofs (disch:=omega) only [hs,cM,cz,cA,cN,simprocAttr,aJ,aK,Function.comp_apply,one1,lenV,aj,av,aA,aop,AV.ofValue,AV.ofCell,AV.cells,AV.flat,AV.one,arep,aU,aG]
 repeat refine And.intro (by clear hq;omega) ?_
 exact hq) (h2:(aRes P l F (H++l1)).map one1=some x:=by simp -implicitDefEqProofs (disch:=omega) only [simprocAttr,aJ,aK,Function.comp_apply,one1,lenV,aj,av,aA,aop,AV.ofValue,AV.ofCell,AV.cells,AV.flat,AV.one,arep,aU,ap,aG]) (hp:x.bel 0=true:=by rfl):s:=h g (eP hQ hbel x h1 hR h2 hp)
theorem eS {P:Program}{fn:Func}{H:aa}{R:AV->aa->Prop}{F:Fr}{Q:Exit->Fr->aa->Prop}{G s:Prop}(g:G) (hQ:∀F H',AEnd P fn H.length R .ret F H'->dl Q F H') (hbel:HBel H.length H) (x:AV) {l:List ResultVar}(h1:fn.results=l.toArray) (hR:R x H) (h:G->dl Q F H->s:=by
 intro hs hq
 simp -implicitDefEqProofs (disch:=omega) only [hs,cM,cz,cA,cN,simprocAttr,aJ,aK,Function.comp_apply,one1,lenV,aj,av,aA,aop,AV.ofValue,AV.ofCell,AV.cells,AV.flat,AV.one,arep,aU,aG]
 repeat refine And.intro (by clear hq;omega) ?_
 exact hq) (h2:(aRes P l F H).map one1=some x:=by simp -implicitDefEqProofs (disch:=omega) only [simprocAttr,aJ,aK,Function.comp_apply,one1,lenV,aj,av,aA,aop,AV.ofValue,AV.ofCell,AV.cells,AV.flat,AV.one,arep,aU,ap,aG]) (hp:x.bel 0=true:=by rfl):s:=h g (eQ hQ hbel x h1 hR h2 hp)
theorem zA1 {H:aa}{sz n:Nat}{s:AV}{xs:List AV}(h:Sl H sz s n xs):∃b own cap,s=.sl (some (b,0)) n cap/\H[b]? = some (.cells own sz xs)/\b<H.length/\∀l:aa,(H++l)[b]? = some (.cells own sz xs):=by
 obtain⟨b,o,c,h1,h2⟩:=h
 exact⟨b,o,c,h1,h2,getElem?_lt h2,fun l=>ai (l:=l) h2⟩
theorem zA2 {H K:aa}{b sz n:Nat}{o:Bool}{c:Option Nat}{xs:List AV}(h0:∀l:aa,(H++l)[b]? = some (.cells o sz xs))(h:H[b]? = some (.cells o sz xs))(e:K=H\/∃l,K=H++l:=by first|exact .inl rfl|exact .inr ⟨_,rfl⟩):Sl K sz (.sl (some (b,0)) n c) n xs:=by
 have k:K[b]? = some (.cells o sz xs):=by
  rcases e with rfl|⟨l,rfl⟩
  · exact h
  · exact h0 l
 exact⟨b,o,c,rfl,k⟩
abbrev zI (H:aa) (s:AV) (l:List Int):Prop:=Sl H 1 s l.length (ints .u8 l)
theorem zQT {P:Program}{N n:Nat}{Q:Exit->Fr->aa->Prop}{a b:Code}{F:Fr}{H:aa}{E:Fr->aa->Prop}(hQ:∀F H',E F H'->dl Q F H')(h:∀Q2:Exit->Fr->aa->Prop,(∀F H,AW P N n b Q F H->Q2 .normal F H)->(∀F H',E F H'->dl Q2 F H')->(∀id F H,Q (.exit id) F H->Q2 (.exit id) F H)->AGo P N n true Q2 [.code a] F H)(hc:db N true a=true:=by kernel_rfl)(hm:P.follows .mixedOrders=true:=by exact try_mixed):AW P N n (.seq a b) Q F H:=sqR hQ fun Q2 x y z=>AW_fin true hm hc (h Q2 x y z)
theorem zQF {P:Program}{N n:Nat}{Q:Exit->Fr->aa->Prop}{a b:Code}{F:Fr}{H:aa}{E:Fr->aa->Prop}(hQ:∀F H',E F H'->dl Q F H')(h:∀Q2:Exit->Fr->aa->Prop,(∀F H,AW P N n b Q F H->Q2 .normal F H)->(∀F H',E F H'->dl Q2 F H')->(∀id F H,Q (.exit id) F H->Q2 (.exit id) F H)->AGo P N n false Q2 [.code a] F H)(hc:db N false a=true:=by kernel_rfl)(hm:P.follows .mixedOrders=true:=by exact try_mixed):AW P N n (.seq a b) Q F H:=sqR hQ fun Q2 x y z=>AW_fin false hm hc (h Q2 x y z)
abbrev T6:=Int×Int×Int×Int×Int×Int
def r6 (l:List T6):List AV:=l.flatMap fun p=>[.int .i64 p.1,.int .i64 p.2.1,.int .i64 p.2.2.1,.int .i64 p.2.2.2.1,.int .i64 p.2.2.2.2.1,.int .i64 p.2.2.2.2.2]
def g6 (l:List T6) (j:Nat):T6:=l.getD j (0,0,0,0,0,0)
def g61 (l:List T6) (j:Nat):Int:=(g6 l j).1
def g62 (l:List T6) (j:Nat):Int:=(g6 l j).2.1
def g63 (l:List T6) (j:Nat):Int:=(g6 l j).2.2.1
def g64 (l:List T6) (j:Nat):Int:=(g6 l j).2.2.2.1
def g65 (l:List T6) (j:Nat):Int:=(g6 l j).2.2.2.2.1
def g66 (l:List T6) (j:Nat):Int:=(g6 l j).2.2.2.2.2
theorem hZ {l:List T6}{j:Nat}(h:j<l.length):(g61 l j,g62 l j,g63 l j,g64 l j,g65 l j,g66 l j)=l[j]:=by
 simp[g61,g62,g63,g64,g65,g66,g6,h,List.getD_eq_getElem?_getD]
theorem bQ:r6 []=[]:=rfl
theorem ba {p:T6}{l:List T6}:r6 (p::l)=.int .i64 p.1::.int .i64 p.2.1::.int .i64 p.2.2.1::.int .i64 p.2.2.2.1::.int .i64 p.2.2.2.2.1::.int .i64 p.2.2.2.2.2::r6 l:=rfl
theorem br {l m:List T6}:r6 (l++m)=r6 l++r6 m:=by simp[r6]
theorem ce:∀{l:List T6},(r6 l).length=l.length*6
 |[]=>rfl
 |p::l=>by rw[ba];simp only[List.length_cons,ce (l:=l)];omega
theorem bE {σ:Nat->Nat}:∀{l:List T6},AV.mvs σ (r6 l)=r6 l
 |[]=>rfl
 | p::l=>by
  rw[ba]
  show AV.mv σ _::AV.mv σ _::AV.mv σ _::AV.mv σ _::AV.mv σ _::AV.mv σ _::AV.mvs σ (r6 l)=_
  rw[bE (l:=l)];rfl
theorem r6_at:∀{l:List T6}{j:Nat}(_h:j<l.length),(r6 l).drop (j*6)=.int .i64 (g61 l j)::.int .i64 (g62 l j)::.int .i64 (g63 l j)::.int .i64 (g64 l j)::.int .i64 (g65 l j)::.int .i64 (g66 l j)::(r6 l).drop ((j+1)*6)
 |[],j,h=>by simp at h
 |p::l,0,_=>by rw[ba];simp[g61,g62,g63,g64,g65,g66,g6]
 | p::l,j+1,h=>by
  rw[ba,show (j+1)*6=j*6+1+1+1+1+1+1 by omega,List.drop_succ_cons,List.drop_succ_cons,List.drop_succ_cons,List.drop_succ_cons,List.drop_succ_cons,List.drop_succ_cons,r6_at (l:=l) (by simpa using h),show (j+1+1)*6=(j+1)*6+1+1+1+1+1+1 by omega,List.drop_succ_cons,List.drop_succ_cons,List.drop_succ_cons,List.drop_succ_cons,List.drop_succ_cons,List.drop_succ_cons]
  rfl
theorem r6_at5 {l:List T6}{j:Nat}(h:j<l.length):(r6 l)[j*6+5]? = some (.int .i64 (g66 l j)):=by
 have:=congrArg (fun x=>x[5]?) (r6_at h)
 simpa using this
theorem di {l:List T6}{j:Nat}(h:j<l.length):((r6 l).drop (j*6)).take 6=[.int .i64 (g61 l j),.int .i64 (g62 l j),.int .i64 (g63 l j),.int .i64 (g64 l j),.int .i64 (g65 l j),.int .i64 (g66 l j)]:=by rw[r6_at h];rfl
theorem r6_take {l:List T6}{j:Nat}:(r6 l).take (j*6)=r6 (l.take j):=by
 induction l generalizing j with
 |nil=>simp[bQ]
 | cons p l ih =>
  cases j with
  |zero=>simp[bQ]
  |succ j=>rw[ba,show (j+1)*6=j*6+1+1+1+1+1+1 by omega,List.take_succ_cons,List.take_succ_cons,List.take_succ_cons,List.take_succ_cons,List.take_succ_cons,List.take_succ_cons,ih];rfl
theorem r6_all {l:List T6}:(r6 l).take (l.length*6)=r6 l:=by rw[r6_take,List.take_length]
theorem fe {l:List T6}:(r6 l).all AV.one=true:=by
 induction l with
 |nil=>rfl
 |cons p l ih=>rw[ba];simp[AV.one,ih]
section
variable {P:Program} {H:aa} {n:Nat}
theorem rows_r6 {t1 t2 t3 t4 t5 t6:TypeId}(h1:P.underlying t1=some (.int .i64))(h2:P.underlying t2=some (.int .i64))(h3:P.underlying t3=some (.int .i64))(h4:P.underlying t4=some (.int .i64))(h5:P.underlying t5=some (.int .i64))(h6:P.underlying t6=some (.int .i64)):∀rows:List (List AV),(∀r:List AV,r∈rows->RTy P H (n+1) [t1,t2,t3,t4,t5,t6] r)->∃l:List T6,l.length=rows.length/\rows.flatten=r6 l/\∀p∈l,(Lit.int .i64 p.1).wf=true/\(Lit.int .i64 p.2.1).wf=true/\(Lit.int .i64 p.2.2.1).wf=true/\(Lit.int .i64 p.2.2.2.1).wf=true/\(Lit.int .i64 p.2.2.2.2.1).wf=true/\(Lit.int .i64 p.2.2.2.2.2).wf=true
 |[],_=>⟨[],rfl,rfl,fun z h=>by simp at h⟩
 | r::rows,h=>by
  obtain⟨l,h1',h2',h3'⟩:=rows_r6 h1 h2 h3 h4 h5 h6 rows fun r' hr=>h r' (by simp[hr])
  have hr:=h r (by simp)
  obtain⟨y1,r',rfl,hy1,hr⟩:=hr.cons
  obtain⟨y2,r',rfl,hy2,hr⟩:=hr.cons
  obtain⟨y3,r',rfl,hy3,hr⟩:=hr.cons
  obtain⟨y4,r',rfl,hy4,hr⟩:=hr.cons
  obtain⟨y5,r',rfl,hy5,hr⟩:=hr.cons
  obtain⟨y6,r',rfl,hy6,hr⟩:=hr.cons
  obtain rfl:=hr.nil
  obtain⟨z1,rfl,hz1⟩:=hy1.int h1
  obtain⟨z2,rfl,hz2⟩:=hy2.int h2
  obtain⟨z3,rfl,hz3⟩:=hy3.int h3
  obtain⟨z4,rfl,hz4⟩:=hy4.int h4
  obtain⟨z5,rfl,hz5⟩:=hy5.int h5
  obtain⟨z6,rfl,hz6⟩:=hy6.int h6
  exact ⟨(z1,z2,z3,z4,z5,z6)::l,by simp[h1'],by simp[h2',ba],fun z' h'=>by
   rcases List.mem_cons.1 h' with rfl|h'
   ·exact⟨hz1,hz2,hz3,hz4,hz5,hz6⟩
   exact h3' _ h'⟩
abbrev Sl6 (H:aa) (s:AV) (l:List T6):Prop:=Sl H 6 s l.length (r6 l)
theorem LTy.rec6 {t e t1 t2 t3 t4 t5 t6:TypeId}{x:AV}(ht:P.underlying t=some (.slice e))(h1:P.underlying t1=some (.int .i64))(h2:P.underlying t2=some (.int .i64))(h3:P.underlying t3=some (.int .i64))(h4:P.underlying t4=some (.int .i64))(h5:P.underlying t5=some (.int .i64))(h6:P.underlying t6=some (.int .i64))(hl:bH P (n+1) e=some [t1,t2,t3,t4,t5,t6])(h:LTy P H (n+2) t x):
  ∃l:List T6,Sl6 H x l/\l.length<=maxLen/\∀p∈l,(Lit.int .i64 p.1).wf=true/\(Lit.int .i64 p.2.1).wf=true/\(Lit.int .i64 p.2.2.1).wf=true/\(Lit.int .i64 p.2.2.2.1).wf=true/\(Lit.int .i64 p.2.2.2.2.1).wf=true/\(Lit.int .i64 p.2.2.2.2.2).wf=true:=by
 obtain⟨b,rows,rfl,k1,k2,k3⟩:=h.slice ht hl
 obtain⟨l,q1,q2,q3⟩:=rows_r6 h1 h2 h3 h4 h5 h6 rows k3
 exact⟨l,⟨b,false,none,by rw[q1],by rw[<-q2];exact k2⟩,by omega,q3⟩
end
abbrev Pt:=Int×Int
def crs (a b:Pt):Int:=a.1*b.2-a.2*b.1
def up (p:Pt):Prop:=0<p.2\/(p.2=0/\0<p.1)
instance (p:Pt):Decidable (up p):=inferInstanceAs (Decidable (_\/_))
theorem crs_self (a:Pt):crs a a=0:=by unfold crs;rw[Int.mul_comm];omega
theorem crs_anti (a b:Pt):crs b a = -crs a b:=by unfold crs;rw[Int.mul_comm b.1,Int.mul_comm b.2];omega
def padd (a b:Pt):Pt:=(a.1+b.1,a.2+b.2)
theorem rW (a b c:Pt):padd (padd a b) c=padd a (padd b c):=by simp[padd,Int.add_assoc]
theorem padd_zero (a:Pt):padd a (0,0)=a:=by simp[padd]
theorem pB (a:Pt):padd (0,0) a=a:=by simp[padd]
def ir:List Pt->Pt->Pt
 |[],_=>(0,0)
 |h::l,g=>if crs h g=0 then padd h (ir l g) else ir l g
theorem mq (g:Pt):∀l m:List Pt,ir (l++m) g=padd (ir l g) (ir m g)
 |[],m=>by rw[List.nil_append];exact(pB _).symm
 | h::l,m=>by
  simp only[List.cons_append,ir,mq g l m]
  split
  ·rw[rW]
  rfl
theorem pC {l:List Pt}{g:Pt}(h:∀e∈l,crs e g≠0):ir l g=(0,0):=by
 induction l with
 |nil=>rfl
 | cons x l ih =>
  simp only[ir]
  rw[if_neg (h x (by simp)),ih fun e he=>h e (by simp[he])]
structure Can (C S:List Pt):Prop where
 sorted:C.Pairwise fun a b=>0<crs a b
 ups:∀e∈C,up e
 sums:∀g,up g->ir C g=ir S g
theorem Can.own {C S:List Pt}(h:Can C S){e:Pt}(he:e∈C):ir C e=e:=by
 obtain⟨A,B,rfl⟩:=List.append_of_mem he
 have hs:=h.sorted
 rw[List.pairwise_append] at hs
 obtain⟨h1,h2,h3⟩:=hs
 rw[List.pairwise_cons] at h2
 rw[mq]
 simp only[ir,crs_self,if_true]
 rw[pC (l:=A) fun a ha=>by have:=h3 a ha e (by simp);omega,pC (l:=B) fun b hb=>by have:=h2.1 b hb;rw[crs_anti];omega,padd_zero,pB]
theorem lr {r:Pt->Pt->Prop}(has:∀a b,r a b->¬r b a):∀(l m:List Pt),l.Pairwise r->m.Pairwise r->(∀x,x∈l↔x∈m)->l=m
 |[],[],_,_,_=>rfl
 |[],b::m,_,_,h=>absurd ((h b).2 (by simp)) (by simp)
 |a::l,[],_,_,h=>absurd ((h a).1 (by simp)) (by simp)
 | a :: l,b::m,h1,h2,h=>by
  rw[List.pairwise_cons] at h1 h2
  have hirr:∀x,¬r x x:=fun x hx=>has x x hx hx
  have hab:a=b:=by
   rcases List.mem_cons.1 ((h a).1 (by simp)) with e|hm
   ·exact e
   rcases List.mem_cons.1 ((h b).2 (by simp)) with e|hl
   ·exact e.symm
   exact absurd (h1.1 b hl) (has _ _ (h2.1 a hm))
  subst hab
  have:l=m:=lr has l m h1.2 h2.2 fun x=>by
   constructor
   ·intro hx
    rcases List.mem_cons.1 ((h x).1 (by simp[hx])) with e|hm
    ·subst e;exact absurd (h1.1 x hx) (hirr x)
    exact hm
   intro hx
   rcases List.mem_cons.1 ((h x).2 (by simp[hx])) with e|hm
   ·subst e;exact absurd (h2.1 x hx) (hirr x)
   exact hm
  rw[this]
def rowR (p:Int->Int->Bool) (x0 y:Int):Nat->List Pt
 |0=>[]
 |n+1=>rowR p x0 y n++(if p (x0+n) y=true then [(x0+n,y)] else [])
def cI (p:Int->Int->Bool) (x0:Int) (w:Nat) (y0:Int):Nat->List Pt
 |0=>[]
 |n+1=>cI p x0 w y0 n++rowR p x0 (y0+n) w
def dd (a b:Pt):Prop:=a.2<b.2\/(a.2=b.2/\a.1<b.1)
theorem befP_anti (a b:Pt)(h:dd a b):¬dd b a:=by unfold dd at *;omega
theorem qE {p:Int->Int->Bool}{x0 y:Int}:∀{n:Nat}{c:Pt},c∈rowR p x0 y n↔(x0<=c.1/\c.1<x0+n)/\c.2=y/\p c.1 c.2=true
 |0,c=>by simp only[rowR,List.not_mem_nil,false_iff];omega
 | n + 1,c=>by
  rw[rowR,List.mem_append,qE]
  constructor
  ·rintro(h|h)
   ·exact⟨by omega,h.2⟩
   split at h
   ·rename_i hp
    simp only[List.mem_singleton] at h
    subst h
    exact⟨by simp only;omega,rfl,hp⟩
   cases h
  rintro⟨h1,h2,h3⟩
  rcases (by omega:c.1<x0+n\/x0+n<=c.1) with h|h
  ·exact .inl ⟨by omega,h2,h3⟩
  right
  have e:c=(x0+n,y):=Prod.ext (by simp only;omega) h2
  rw[e] at h3
  rw[if_pos h3,e];simp
theorem pD {p:Int->Int->Bool}{x0 y0:Int}{w:Nat}:∀{n:Nat}{c:Pt},c∈cI p x0 w y0 n↔(x0<=c.1/\c.1<x0+w)/\(y0<=c.2/\c.2<y0+n)/\p c.1 c.2=true
 |0,c=>by simp only[cI,List.not_mem_nil,false_iff];omega
 | n+1,c=>by
  rw[cI,List.mem_append,pD,qE]
  constructor
  ·rintro(h|h)
   ·exact⟨h.1,by omega,h.2.2⟩
   exact⟨h.1,by omega,h.2.2⟩
  rintro⟨h1,h2,h3⟩
  rcases (by omega:c.2<y0+n\/y0+n<=c.2) with h|h
  ·exact .inl ⟨h1,by omega,h3⟩
  exact .inr ⟨h1,by omega,h3⟩
theorem eq_sorted {l m:List Pt}(hl:l.Pairwise dd)(hm:m.Pairwise dd)(h:∀c,c∈l↔c∈m):l=m:=lr befP_anti l m hl hm h
theorem mJ {p:Int->Int->Bool}{x0 y:Int}:∀n:Nat,(rowR p x0 y n).length<=n
 |0=>Nat.le_refl _
 | n+1=>by
  have:=mJ (p:=p) (x0:=x0) (y:=y) n
  rw[rowR,List.length_append]
  split
  ·rw[List.length_singleton];omega
  rw[List.length_nil];omega
theorem lu {p:Int->Int->Bool}{x0 y0:Int}{w:Nat}:∀n:Nat,(cI p x0 w y0 n).length<=n*w
 |0=>by simp[cI]
 | n+1=>by
  have:=lu (p:=p) (x0:=x0) (y0:=y0) (w:=w) n
  have:=mJ (p:=p) (x0:=x0) (y:=y0+n) w
  rw[cI,List.length_append,Nat.succ_mul];omega
end Go.Proofs.YtkkhdehdaaealaaGreat
namespace Go.Proofs
open Go.Shelf
def Tryz.lays128_ren:Go.Shelf.Ren:=⟨fun|128=>185|n=>n,fun|51=>242|3=>3|4=>4|46=>184|5=>5|9=>9|n=>n,fun|n=>n⟩
theorem Tryz.lays128:Go.Proofs.Lays.n128 Tryz.prog Tryz.lays128_ren:={
 mixed:=by kernel_rfl
 f128:=Tryz.func185.trans (congrArg some (by kernel_rfl))
 t3:=Tryz.underlying3
 a3:=Tryz.isAgg3
 z3:=Tryz.sizeOf3
 v3:=Tryz.zeroValue3
 t4:=Tryz.underlying4
 a4:=Tryz.isAgg4
 z4:=Tryz.sizeOf4
 v4:=Tryz.zeroValue4
 t5:=Tryz.underlying5
 a5:=Tryz.isAgg5
 z5:=Tryz.sizeOf5
 v5:=Tryz.zeroValue5
 t9:=Tryz.underlying9
 a9:=Tryz.isAgg9
 z9:=Tryz.sizeOf9
 v9:=Tryz.zeroValue9
 t46:=Tryz.underlying184
 a46:=Tryz.isAgg184
 z46:=Tryz.sizeOf184
 v46:=Tryz.zeroValue184
 t51:=Tryz.underlying242
 a51:=Tryz.isAgg242
 z51:=Tryz.sizeOf242
 v51:=Tryz.zeroValue242 }
theorem Tryz.bits_Len32 (x:Int)(w:World)(h0:0<=x)(h1:x<=4294967295):
  Calls Tryz.prog 185 #[.int .u32 x] w fun e w'=>e=.returned (.int .i64 (Lib.bitLen x.toNat))/\w'=w:=Any.bits_Len32 Tryz.lays128 x w h0 h1
def Tryz.lays125_ren:Go.Shelf.Ren:=⟨fun|125=>153|128=>185|129=>186|n=>n,fun|46=>184|3=>3|51=>242|53=>244|4=>4|5=>5|9=>9|n=>n,fun|n=>n⟩
theorem Tryz.lays125:Go.Proofs.Lays.n125 Tryz.prog Tryz.lays125_ren:={
 mixed:=by kernel_rfl
 f125:=Tryz.func153.trans (congrArg some (by kernel_rfl))
 f128:=Tryz.func185.trans (congrArg some (by kernel_rfl))
 f129:=Tryz.func186.trans (congrArg some (by kernel_rfl))
 t3:=Tryz.underlying3
 a3:=Tryz.isAgg3
 z3:=Tryz.sizeOf3
 v3:=Tryz.zeroValue3
 t4:=Tryz.underlying4
 a4:=Tryz.isAgg4
 z4:=Tryz.sizeOf4
 v4:=Tryz.zeroValue4
 t5:=Tryz.underlying5
 a5:=Tryz.isAgg5
 z5:=Tryz.sizeOf5
 v5:=Tryz.zeroValue5
 t9:=Tryz.underlying9
 a9:=Tryz.isAgg9
 z9:=Tryz.sizeOf9
 v9:=Tryz.zeroValue9
 t46:=Tryz.underlying184
 a46:=Tryz.isAgg184
 z46:=Tryz.sizeOf184
 v46:=Tryz.zeroValue184
 t51:=Tryz.underlying242
 a51:=Tryz.isAgg242
 z51:=Tryz.sizeOf242
 v51:=Tryz.zeroValue242
 t53:=Tryz.underlying244
 a53:=Tryz.isAgg244
 z53:=Tryz.sizeOf244
 v53:=Tryz.zeroValue244 }
theorem Tryz.bits_Len (x:Int)(w:World)(h0:0<=x)(h1:x<=18446744073709551615):
  Calls Tryz.prog 153 #[.int .u64 x] w fun e w'=>e=.returned (.int .i64 (Lib.bitLen x.toNat))/\w'=w:=Any.bits_Len Tryz.lays125 x w h0 h1
def Tryz.lays195_ren:Go.Shelf.Ren:=⟨fun|195=>193|n=>n,fun|9=>9|3=>3|0=>0|4=>4|n=>n,fun|n=>n⟩
theorem Tryz.lays195:Go.Proofs.Lays.n195 Tryz.prog Tryz.lays195_ren:={
 mixed:=by kernel_rfl
 f195:=Tryz.func193.trans (congrArg some (by kernel_rfl))
 t0:=Tryz.underlying0
 a0:=Tryz.isAgg0
 z0:=Tryz.sizeOf0
 v0:=Tryz.zeroValue0
 t3:=Tryz.underlying3
 a3:=Tryz.isAgg3
 z3:=Tryz.sizeOf3
 v3:=Tryz.zeroValue3
 t4:=Tryz.underlying4
 a4:=Tryz.isAgg4
 z4:=Tryz.sizeOf4
 v4:=Tryz.zeroValue4
 t9:=Tryz.underlying9
 a9:=Tryz.isAgg9
 z9:=Tryz.sizeOf9
 v9:=Tryz.zeroValue9 }
open Go.RowKit in
theorem Tryz.utf8_RuneCountInString (s:ByteArray)(w:World)(hs:s.size<9223372036854775807):
  Calls Tryz.prog 193 #[.string s] w fun e w'=>e=.returned (.int .i64 (Lib.runeCount s))/\∃pos,w'=w.iter s pos:=Any.utf8_RuneCountInString Tryz.lays195 s w hs
def Tryz.lays129_ren:Go.Shelf.Ren:=⟨fun|129=>186|n=>n,fun|53=>244|3=>3|4=>4|46=>184|5=>5|9=>9|n=>n,fun|n=>n⟩
theorem Tryz.lays129:Go.Proofs.Lays.n129 Tryz.prog Tryz.lays129_ren:={
 mixed:=by kernel_rfl
 f129:=Tryz.func186.trans (congrArg some (by kernel_rfl))
 t3:=Tryz.underlying3
 a3:=Tryz.isAgg3
 z3:=Tryz.sizeOf3
 v3:=Tryz.zeroValue3
 t4:=Tryz.underlying4
 a4:=Tryz.isAgg4
 z4:=Tryz.sizeOf4
 v4:=Tryz.zeroValue4
 t5:=Tryz.underlying5
 a5:=Tryz.isAgg5
 z5:=Tryz.sizeOf5
 v5:=Tryz.zeroValue5
 t9:=Tryz.underlying9
 a9:=Tryz.isAgg9
 z9:=Tryz.sizeOf9
 v9:=Tryz.zeroValue9
 t46:=Tryz.underlying184
 a46:=Tryz.isAgg184
 z46:=Tryz.sizeOf184
 v46:=Tryz.zeroValue184
 t53:=Tryz.underlying244
 a53:=Tryz.isAgg244
 z53:=Tryz.sizeOf244
 v53:=Tryz.zeroValue244 }
theorem Tryz.bits_Len64 (x:Int)(w:World)(h0:0<=x)(h1:x<=18446744073709551615):
  Calls Tryz.prog 186 #[.int .u64 x] w fun e w'=>e=.returned (.int .i64 (Lib.bitLen x.toNat))/\w'=w:=Any.bits_Len64 Tryz.lays129 x w h0 h1
def Tryz.lays224_ren:Go.Shelf.Ren:=⟨fun|224=>196|n=>n,fun|3=>3|n=>n,fun|n=>n⟩
theorem Tryz.lays224:Go.Proofs.Lays.n224 Tryz.prog Tryz.lays224_ren:={
 mixed:=by kernel_rfl
 f224:=Tryz.func196.trans (congrArg some (by kernel_rfl))
 t3:=Tryz.underlying3
 a3:=Tryz.isAgg3
 z3:=Tryz.sizeOf3
 v3:=Tryz.zeroValue3 }
open Go.Lib
theorem Tryz.bytealg_Cutover (n:Int)(h0:0<=n)(h1:n<4611686018427387904)(w:World):
  Calls Tryz.prog 196 #[.int .i64 n] w fun e w'=>e=.returned (.int .i64 ((n+16)/8))/\w'=w:=Any.bytealg_Cutover Tryz.lays224 n h0 h1 w
theorem Tryz.utf8_RuneCountInString_ascii (s:ByteArray)(w:World)(hs:s.size<4294967281)(hascii:∀(j:Nat) b,s.data.toList[j]? = some b->b.toNat<128):
  Calls Tryz.prog 193 #[.string s] w fun e w'=>e=.returned (.int .i64 s.size)/\w'=w.iter s s.size:=Any.utf8_RuneCountInString_ascii Tryz.lays195 s w hs hascii
def Tryz.laysNm237_ren:Go.Shelf.Ren:=⟨fun|37=>187|n=>n,fun|3=>3|4=>4|n=>n,fun|n=>n⟩
theorem Tryz.laysNm237:Go.Proofs.Lays2.n37 Tryz.prog Tryz.laysNm237_ren:={
 mixed:=by kernel_rfl
 f37:=Tryz.func187.trans (congrArg some (by kernel_rfl))
 t3:=Tryz.underlying3
 a3:=Tryz.isAgg3
 z3:=Tryz.sizeOf3
 v3:=Tryz.zeroValue3
 t4:=Tryz.underlying4
 a4:=Tryz.isAgg4
 z4:=Tryz.sizeOf4
 v4:=Tryz.zeroValue4 }
theorem Tryz.cmp_isNaN_int2 (x:Int)(w:World):
  Calls Tryz.prog 187 #[.int .i64 x] w fun e w'=>e=.returned (.bool false)/\w'=w:=Any.cmp_isNaN_int2 Tryz.laysNm237 x w
def Tryz.lays185_ren:Go.Shelf.Ren:=⟨fun|185=>163|187=>76|115=>194|253=>195|224=>196|254=>197|255=>117|291=>210|n=>n,fun|37=>22|3=>3|4=>4|0=>0|5=>5|46=>184|9=>9|146=>267|51=>242|n=>n,fun|1=>0|n=>n⟩
theorem Tryz.lays185:Go.Proofs.Lays.n185 Tryz.prog Tryz.lays185_ren:={
 mixed:=by kernel_rfl
 f115:=Tryz.func194.trans (congrArg some (by kernel_rfl))
 f185:=Tryz.func163.trans (congrArg some (by kernel_rfl))
 f187:=Tryz.func76.trans (congrArg some (by kernel_rfl))
 f224:=Tryz.func196.trans (congrArg some (by kernel_rfl))
 f253:=Tryz.func195.trans (congrArg some (by kernel_rfl))
 f254:=Tryz.func197.trans (congrArg some (by kernel_rfl))
 f255:=Tryz.func117.trans (congrArg some (by kernel_rfl))
 f291:=Tryz.func210.trans (congrArg some (by kernel_rfl))
 t0:=Tryz.underlying0
 a0:=Tryz.isAgg0
 z0:=Tryz.sizeOf0
 v0:=Tryz.zeroValue0
 t3:=Tryz.underlying3
 a3:=Tryz.isAgg3
 z3:=Tryz.sizeOf3
 v3:=Tryz.zeroValue3
 t4:=Tryz.underlying4
 a4:=Tryz.isAgg4
 z4:=Tryz.sizeOf4
 v4:=Tryz.zeroValue4
 t5:=Tryz.underlying5
 a5:=Tryz.isAgg5
 z5:=Tryz.sizeOf5
 v5:=Tryz.zeroValue5
 t9:=Tryz.underlying9
 a9:=Tryz.isAgg9
 z9:=Tryz.sizeOf9
 v9:=Tryz.zeroValue9
 t37:=Tryz.underlying22
 a37:=Tryz.isAgg22
 z37:=Tryz.sizeOf22
 v37:=Tryz.zeroValue22
 t46:=Tryz.underlying184
 a46:=Tryz.isAgg184
 z46:=Tryz.sizeOf184
 v46:=Tryz.zeroValue184
 t51:=Tryz.underlying242
 a51:=Tryz.isAgg242
 z51:=Tryz.sizeOf242
 v51:=Tryz.zeroValue242
 t146:=Tryz.underlying267
 a146:=Tryz.isAgg267
 z146:=Tryz.sizeOf267
 v146:=Tryz.zeroValue267
 g1:=by kernel_rfl }
theorem Tryz.bytes_Index_one (b o n c b2 o2 d:Nat)(xs:List Int)(cv:Int)(w:World)(hx:xs.length=n)(hc:∀i,i<n->w.cell? ⟨b,o+i,none⟩=some (.int .u8 (xs.getD i 0)))(hc2:w.cell? ⟨b2,o2,none⟩=some (.int .u8 cv)):
  Calls Tryz.prog 163 #[.slice (some ⟨b,o,none⟩) n c,.slice (some ⟨b2,o2,none⟩) 1 d] w fun e w'=>e=.returned (.int .i64 (Lib.indexByte (Lib.bytesOf xs) cv.toNat.toUInt8))/\w'=w:=Any.bytes_Index_one Tryz.lays185 b o n c b2 o2 d xs cv w hx hc hc2
theorem Tryz.bytes_Index_one_nil (b2 o2 d:Nat)(cv:Int)(w:World)(hc2:w.cell? ⟨b2,o2,none⟩=some (.int .u8 cv)):
  Calls Tryz.prog 163 #[.slice none 0 0,.slice (some ⟨b2,o2,none⟩) 1 d] w fun e w'=>e=.returned (.int .i64 (-1))/\w'=w:=Any.bytes_Index_one_nil Tryz.lays185 b2 o2 d cv w hc2
theorem Tryz.bytes_Index_none (p q:Option Addr)(n c d:Nat)(w:World):
  Calls Tryz.prog 163 #[.slice p n c,.slice q 0 d] w fun e w'=>e=.returned (.int .i64 0)/\w'=w:=Any.bytes_Index_none Tryz.lays185 p q n c d w
theorem Tryz.bytes_Index_longer (p q:Option Addr)(n c m d:Nat)(w:World)(h2:2<=m)(hnm:n<m)(hm:m<=9223372036854775807):
  Calls Tryz.prog 163 #[.slice p n c,.slice q m d] w fun e w'=>e=.returned (.int .i64 (-1))/\w'=w:=Any.bytes_Index_longer Tryz.lays185 p q n c m d w h2 hnm hm
theorem Tryz.bytes_Index_same (b o c b2 o2 d n:Nat)(xs ys:List Int)(w:World)(h2:2<=n)(hm:n<=9223372036854775807)(hx:xs.length=n)(hy:ys.length=n)(hc:∀i,i<n->w.cell? ⟨b,o+i,none⟩=some (.int .u8 (xs.getD i 0)))(hc2:∀i,i<n->w.cell? ⟨b2,o2+i,none⟩=some (.int .u8 (ys.getD i 0))):
  Calls Tryz.prog 163 #[.slice (some ⟨b,o,none⟩) n c,.slice (some ⟨b2,o2,none⟩) n d] w fun e w'=>e=.returned (.int .i64 (if Lib.bytesOf ys==Lib.bytesOf xs then 0 else -1))/\w'=w:=Any.bytes_Index_same Tryz.lays185 b o c b2 o2 d n xs ys w h2 hm hx hy hc hc2
def Tryz.laysSlB13_ren:Go.Shelf.Ren:=⟨fun|13=>125|24=>161|25=>162|12=>163|31=>193|19=>76|20=>194|21=>195|22=>196|23=>197|29=>117|30=>210|n=>n,fun|22=>22|3=>3|4=>4|0=>0|5=>5|9=>9|33=>184|40=>267|39=>242|n=>n,fun|0=>0|n=>n⟩
theorem Tryz.laysSlB13:Go.Proofs.SlLaysB.n13 Tryz.prog Tryz.laysSlB13_ren:={
 mixed:=by kernel_rfl
 f13:=Tryz.func125.trans (congrArg some (by kernel_rfl))
 f25:=Tryz.func162.trans (congrArg some (by kernel_rfl))
 t0:=Tryz.underlying0
 a0:=Tryz.isAgg0
 z0:=Tryz.sizeOf0
 v0:=Tryz.zeroValue0
 t3:=Tryz.underlying3
 a3:=Tryz.isAgg3
 z3:=Tryz.sizeOf3
 v3:=Tryz.zeroValue3
 t4:=Tryz.underlying4
 a4:=Tryz.isAgg4
 z4:=Tryz.sizeOf4
 v4:=Tryz.zeroValue4
 t5:=Tryz.underlying5
 a5:=Tryz.isAgg5
 z5:=Tryz.sizeOf5
 v5:=Tryz.zeroValue5
 t22:=Tryz.underlying22
 a22:=Tryz.isAgg22
 z22:=Tryz.sizeOf22
 v22:=Tryz.zeroValue22 }
theorem Tryz.bytes_Count_one (b o n c b2 o2 d:Nat)(xs:List Int)(cv:Int)(w:World)(hx:xs.length=n)(hc:∀i,i<n->w.cell? ⟨b,o+i,none⟩=some (.int .u8 (xs.getD i 0)))(hc2:w.cell? ⟨b2,o2,none⟩=some (.int .u8 cv)):
  Calls Tryz.prog 125 #[.slice (some ⟨b,o,none⟩) n c,.slice (some ⟨b2,o2,none⟩) 1 d] w fun e w'=>e=.returned (.int .i64 (Lib.countByte (Lib.bytesOf xs) cv.toNat.toUInt8))/\w'=w:=Any.bytes_Count_one Tryz.laysSlB13 b o n c b2 o2 d xs cv w hx hc hc2
theorem Tryz.bytes_Count_one_at (a:Addr)(n c b2 o2 d:Nat)(xs:List Int)(cv:Int)(w:World)(hx:xs.length=n)(hc:∀i,i<n->w.cell? (a.add i)=some (.int .u8 (xs.getD i 0)))(hc2:w.cell? ⟨b2,o2,none⟩=some (.int .u8 cv)):
  Calls Tryz.prog 125 #[.slice (some a) n c,.slice (some ⟨b2,o2,none⟩) 1 d] w fun e w'=>e=.returned (.int .i64 (Lib.countByte (Lib.bytesOf xs) cv.toNat.toUInt8))/\w'=w:=Any.bytes_Count_one_at Tryz.laysSlB13 a n c b2 o2 d xs cv w hx hc hc2
theorem Tryz.bytes_Count_one_nil (b2 o2 d:Nat)(cv:Int)(w:World)(hc2:w.cell? ⟨b2,o2,none⟩=some (.int .u8 cv)):
  Calls Tryz.prog 125 #[.slice none 0 0,.slice (some ⟨b2,o2,none⟩) 1 d] w fun e w'=>e=.returned (.int .i64 0)/\w'=w:=Any.bytes_Count_one_nil Tryz.laysSlB13 b2 o2 d cv w hc2
def Tryz.lays187_ren:Go.Shelf.Ren:=⟨fun|187=>76|255=>117|n=>n,fun|37=>22|5=>5|3=>3|n=>n,fun|n=>n⟩
theorem Tryz.lays187:Go.Proofs.Lays.n187 Tryz.prog Tryz.lays187_ren:={
 mixed:=by kernel_rfl
 f187:=Tryz.func76.trans (congrArg some (by kernel_rfl))
 f255:=Tryz.func117.trans (congrArg some (by kernel_rfl))
 t3:=Tryz.underlying3
 a3:=Tryz.isAgg3
 z3:=Tryz.sizeOf3
 v3:=Tryz.zeroValue3
 t5:=Tryz.underlying5
 a5:=Tryz.isAgg5
 z5:=Tryz.sizeOf5
 v5:=Tryz.zeroValue5
 t37:=Tryz.underlying22
 a37:=Tryz.isAgg22
 z37:=Tryz.sizeOf22
 v37:=Tryz.zeroValue22 }
theorem Tryz.bytes_IndexByte_at (a:Addr)(n c:Nat)(xs:List Int)(cv:Int)(w:World)(hx:xs.length=n)(hc:∀i,i<n->w.cell? (a.add i)=some (.int .u8 (xs.getD i 0))):
  Calls Tryz.prog 76 #[.slice (some a) n c,.int .u8 cv] w fun e w'=>e=.returned (.int .i64 (Lib.indexByte (Lib.bytesOf xs) cv.toNat.toUInt8))/\w'=w:=Any.bytes_IndexByte_at Tryz.lays187 a n c xs cv w hx hc
theorem Tryz.bytes_Index_one_at (a:Addr)(n c b2 o2 d:Nat)(xs:List Int)(cv:Int)(w:World)(hx:xs.length=n)(hc:∀i,i<n->w.cell? (a.add i)=some (.int .u8 (xs.getD i 0)))(hc2:w.cell? ⟨b2,o2,none⟩=some (.int .u8 cv)):
  Calls Tryz.prog 163 #[.slice (some a) n c,.slice (some ⟨b2,o2,none⟩) 1 d] w fun e w'=>e=.returned (.int .i64 (Lib.indexByte (Lib.bytesOf xs) cv.toNat.toUInt8))/\w'=w:=Any.bytes_Index_one_at Tryz.lays185 a n c b2 o2 d xs cv w hx hc hc2
open Go.Proofs
theorem Tryz.bytes_IndexByte_bytes (b o cap:Nat)(t:ByteArray)(cv:Int)(w:World)(hc:Lib.Bytes w b o t):
  Calls Tryz.prog 76 #[.slice (some ⟨b,o,none⟩) t.size cap,.int .u8 cv] w fun e w'=>e=.returned (.int .i64 (Lib.indexByte t.data.toList cv.toNat.toUInt8))/\w'=w:=Any.bytes_IndexByte_bytes Tryz.lays187 b o cap t cv w hc
def Tryz.lays115_ren:Go.Shelf.Ren:=⟨fun|115=>194|n=>n,fun|37=>22|4=>4|9=>9|5=>5|n=>n,fun|n=>n⟩
theorem Tryz.lays115:Go.Proofs.Lays.n115 Tryz.prog Tryz.lays115_ren:={
 mixed:=by kernel_rfl
 f115:=Tryz.func194.trans (congrArg some (by kernel_rfl))
 t4:=Tryz.underlying4
 a4:=Tryz.isAgg4
 z4:=Tryz.sizeOf4
 v4:=Tryz.zeroValue4
 t9:=Tryz.underlying9
 a9:=Tryz.isAgg9
 z9:=Tryz.sizeOf9
 v9:=Tryz.zeroValue9
 t37:=Tryz.underlying22
 a37:=Tryz.isAgg22
 z37:=Tryz.sizeOf22
 v37:=Tryz.zeroValue22 }
theorem Tryz.bytes_Equal_strs (v1 v2:Value)(t1 t2:ByteArray)(w:World)(h1:(convert 22 9 v1).run Tryz.prog w=.ok (.string t1) w)(h2:(convert 22 9 v2).run Tryz.prog w=.ok (.string t2) w):
  Calls Tryz.prog 194 #[v1,v2] w fun e w'=>e=.returned (.bool (t1.toList==t2.toList))/\w'=w:=Any.bytes_Equal_strs Tryz.lays115 v1 v2 t1 t2 w h1 h2
def Tryz.lays291_ren:Go.Shelf.Ren:=⟨fun|291=>210|n=>n,fun|37=>22|51=>242|3=>3|4=>4|0=>0|5=>5|46=>184|n=>n,fun|n=>n⟩
theorem Tryz.lays291:Go.Proofs.Lays.n291 Tryz.prog Tryz.lays291_ren:={
 mixed:=by kernel_rfl
 f291:=Tryz.func210.trans (congrArg some (by kernel_rfl))
 t0:=Tryz.underlying0
 a0:=Tryz.isAgg0
 z0:=Tryz.sizeOf0
 v0:=Tryz.zeroValue0
 t3:=Tryz.underlying3
 a3:=Tryz.isAgg3
 z3:=Tryz.sizeOf3
 v3:=Tryz.zeroValue3
 t4:=Tryz.underlying4
 a4:=Tryz.isAgg4
 z4:=Tryz.sizeOf4
 v4:=Tryz.zeroValue4
 t5:=Tryz.underlying5
 a5:=Tryz.isAgg5
 z5:=Tryz.sizeOf5
 v5:=Tryz.zeroValue5
 t37:=Tryz.underlying22
 a37:=Tryz.isAgg22
 z37:=Tryz.sizeOf22
 v37:=Tryz.zeroValue22
 t46:=Tryz.underlying184
 a46:=Tryz.isAgg184
 z46:=Tryz.sizeOf184
 v46:=Tryz.zeroValue184
 t51:=Tryz.underlying242
 a51:=Tryz.isAgg242
 z51:=Tryz.sizeOf242
 v51:=Tryz.zeroValue242 }
theorem Tryz.bytealg_hashStr_bytes (b o c:Nat)(sep:ByteArray)(hs:sep.size<4294967281)(w:World)(hc:Lib.Bytes w b o sep):
  Calls Tryz.prog 210 #[.slice (some ⟨b,o,none⟩) sep.size c] w fun e w'=>e=.returned (.tuple #[.int .u32 (RK.H sep.data.toList%4294967296),.int .u32 (16777619 ^ sep.size%4294967296)])/\w'=w:=Any.bytealg_hashStr_bytes Tryz.lays291 b o c sep hs w hc
def Tryz.lays254_ren:Go.Shelf.Ren:=⟨fun|254=>197|291=>210|n=>n,fun|37=>22|3=>3|146=>267|51=>242|4=>4|0=>0|5=>5|9=>9|46=>184|n=>n,fun|n=>n⟩
theorem Tryz.lays254:Go.Proofs.Lays.n254 Tryz.prog Tryz.lays254_ren:={
 mixed:=by kernel_rfl
 f254:=Tryz.func197.trans (congrArg some (by kernel_rfl))
 f291:=Tryz.func210.trans (congrArg some (by kernel_rfl))
 t0:=Tryz.underlying0
 a0:=Tryz.isAgg0
 z0:=Tryz.sizeOf0
 v0:=Tryz.zeroValue0
 t3:=Tryz.underlying3
 a3:=Tryz.isAgg3
 z3:=Tryz.sizeOf3
 v3:=Tryz.zeroValue3
 t4:=Tryz.underlying4
 a4:=Tryz.isAgg4
 z4:=Tryz.sizeOf4
 v4:=Tryz.zeroValue4
 t5:=Tryz.underlying5
 a5:=Tryz.isAgg5
 z5:=Tryz.sizeOf5
 v5:=Tryz.zeroValue5
 t9:=Tryz.underlying9
 a9:=Tryz.isAgg9
 z9:=Tryz.sizeOf9
 v9:=Tryz.zeroValue9
 t37:=Tryz.underlying22
 a37:=Tryz.isAgg22
 z37:=Tryz.sizeOf22
 v37:=Tryz.zeroValue22
 t46:=Tryz.underlying184
 a46:=Tryz.isAgg184
 z46:=Tryz.sizeOf184
 v46:=Tryz.zeroValue184
 t51:=Tryz.underlying242
 a51:=Tryz.isAgg242
 z51:=Tryz.sizeOf242
 v51:=Tryz.zeroValue242
 t146:=Tryz.underlying267
 a146:=Tryz.isAgg267
 z146:=Tryz.sizeOf267
 v146:=Tryz.zeroValue267 }
theorem Tryz.bytealg_IndexRabinKarp_bytes (b1 o1 c1 b2 o2 c2:Nat)(s sep:ByteArray)(h1:1<=sep.size)(h2:sep.size<=s.size)(hs:s.size<4294967281)(w:World)(hc1:Lib.Bytes w b1 o1 s)(hc2:Lib.Bytes w b2 o2 sep)(hcap:s.size<=c1):
  Calls Tryz.prog 197 #[.slice (some ⟨b1,o1,none⟩) s.size c1,.slice (some ⟨b2,o2,none⟩) sep.size c2] w fun e w'=>e=.returned (.int .i64 (Lib.index s.data.toList sep.data.toList))/\∃q,w'=w.drewN q:=Any.bytealg_IndexRabinKarp_bytes Tryz.lays254 b1 o1 c1 b2 o2 c2 s sep h1 h2 hs w hc1 hc2 hcap
theorem Tryz.bytes_Equal (v1 v2:Value)(xs ys:List Int)(w:World)(h1:(convert 22 9 v1).run Tryz.prog w=.ok (.string (strOfNums xs)) w)(h2:(convert 22 9 v2).run Tryz.prog w=.ok (.string (strOfNums ys)) w):
  Calls Tryz.prog 194 #[v1,v2] w fun e w'=>e=.returned (.bool (Lib.bytesOf xs==Lib.bytesOf ys))/\w'=w:=Any.bytes_Equal Tryz.lays115 v1 v2 xs ys w h1 h2
theorem Tryz.bytes_IndexByte (b o n c:Nat)(xs:List Int)(cv:Int)(w:World)(hx:xs.length=n)(hc:∀i,i<n->w.cell? ⟨b,o+i,none⟩=some (.int .u8 (xs.getD i 0))):
  Calls Tryz.prog 76 #[.slice (some ⟨b,o,none⟩) n c,.int .u8 cv] w fun e w'=>e=.returned (.int .i64 (Lib.indexByte (Lib.bytesOf xs) cv.toNat.toUInt8))/\w'=w:=Any.bytes_IndexByte Tryz.lays187 b o n c xs cv w hx hc
theorem Tryz.bytes_IndexByte_nil (cv:Int)(w:World):
  Calls Tryz.prog 76 #[.slice none 0 0,.int .u8 cv] w fun e w'=>e=.returned (.int .i64 (-1))/\w'=w:=Any.bytes_IndexByte_nil Tryz.lays187 cv w
def Tryz.sort109_ren:Go.Shelf.Ren:=⟨fun|6=>109|15=>153|14=>152|28=>185|29=>186|20=>177|21=>178|22=>179|23=>180|24=>181|25=>182|26=>183|27=>184|46=>204|47=>205|48=>206|49=>207|50=>208|57=>214|n=>n,fun|22=>131|24=>133|25=>170|3=>3|39=>184|0=>0|53=>242|55=>244|4=>4|46=>235|45=>234|50=>239|5=>5|9=>9|66=>261|70=>265|76=>271|77=>247|n=>n,fun|n=>n⟩
theorem Tryz.sort109:Go.Proofs.SlLaysF0.n6 Tryz.prog Tryz.sort109_ren:={
 mixed:=by kernel_rfl
 f6:=⟨Tryz.f109.name,by decide,Tryz.func109.trans (congrArg some (by kernel_rfl))⟩
 f14:=⟨Tryz.f152.name,by decide,Tryz.func152.trans (congrArg some (by kernel_rfl))⟩
 f15:=Tryz.func153.trans (congrArg some (by kernel_rfl))
 f20:=⟨Tryz.f177.name,by decide,Tryz.func177.trans (congrArg some (by kernel_rfl))⟩
 f21:=⟨Tryz.f178.name,by decide,Tryz.func178.trans (congrArg some (by kernel_rfl))⟩
 f22:=⟨Tryz.f179.name,by decide,Tryz.func179.trans (congrArg some (by kernel_rfl))⟩
 f23:=⟨Tryz.f180.name,by decide,Tryz.func180.trans (congrArg some (by kernel_rfl))⟩
 f24:=⟨Tryz.f181.name,by decide,Tryz.func181.trans (congrArg some (by kernel_rfl))⟩
 f25:=⟨Tryz.f182.name,by decide,Tryz.func182.trans (congrArg some (by kernel_rfl))⟩
 f26:=⟨Tryz.f183.name,by decide,Tryz.func183.trans (congrArg some (by kernel_rfl))⟩
 f27:=⟨Tryz.f184.name,by decide,Tryz.func184.trans (congrArg some (by kernel_rfl))⟩
 f28:=Tryz.func185.trans (congrArg some (by kernel_rfl))
 f29:=Tryz.func186.trans (congrArg some (by kernel_rfl))
 f46:=⟨Tryz.f204.name,by decide,Tryz.func204.trans (congrArg some (by kernel_rfl))⟩
 f47:=Tryz.func205.trans (congrArg some (by kernel_rfl))
 f48:=Tryz.func206.trans (congrArg some (by kernel_rfl))
 f49:=⟨Tryz.f207.name,by decide,Tryz.func207.trans (congrArg some (by kernel_rfl))⟩
 f50:=⟨Tryz.f208.name,by decide,Tryz.func208.trans (congrArg some (by kernel_rfl))⟩
 f57:=⟨Tryz.f214.name,by decide,Tryz.func214.trans (congrArg some (by kernel_rfl))⟩
 t0:=Tryz.underlying0
 a0:=Tryz.isAgg0
 z0:=Tryz.sizeOf0
 v0:=Tryz.zeroValue0
 t3:=Tryz.underlying3
 a3:=Tryz.isAgg3
 z3:=Tryz.sizeOf3
 v3:=Tryz.zeroValue3
 t4:=Tryz.underlying4
 a4:=Tryz.isAgg4
 z4:=Tryz.sizeOf4
 v4:=Tryz.zeroValue4
 t5:=Tryz.underlying5
 a5:=Tryz.isAgg5
 z5:=Tryz.sizeOf5
 v5:=Tryz.zeroValue5
 t9:=Tryz.underlying9
 a9:=Tryz.isAgg9
 z9:=Tryz.sizeOf9
 v9:=Tryz.zeroValue9
 t22:=Tryz.underlying131
 a22:=Tryz.isAgg131
 z22:=Tryz.sizeOf131
 v22:=Tryz.zeroValue131
 t25:=Tryz.underlying170
 a25:=Tryz.isAgg170
 z25:=Tryz.sizeOf170
 v25:=Tryz.zeroValue170
 t39:=Tryz.underlying184
 a39:=Tryz.isAgg184
 z39:=Tryz.sizeOf184
 v39:=Tryz.zeroValue184
 t45:=Tryz.underlying234
 a45:=Tryz.isAgg234
 z45:=Tryz.sizeOf234
 v45:=Tryz.zeroValue234
 t46:=Tryz.underlying235
 a46:=Tryz.isAgg235
 z46:=Tryz.sizeOf235
 v46:=Tryz.zeroValue235
 t50:=Tryz.underlying239
 a50:=Tryz.isAgg239
 z50:=Tryz.sizeOf239
 v50:=Tryz.zeroValue239
 t53:=Tryz.underlying242
 a53:=Tryz.isAgg242
 z53:=Tryz.sizeOf242
 v53:=Tryz.zeroValue242
 t55:=Tryz.underlying244
 a55:=Tryz.isAgg244
 z55:=Tryz.sizeOf244
 v55:=Tryz.zeroValue244
 t66:=Tryz.underlying261
 a66:=Tryz.isAgg261
 z66:=Tryz.sizeOf261
 v66:=Tryz.zeroValue261
 t70:=Tryz.underlying265
 a70:=Tryz.isAgg265
 z70:=Tryz.sizeOf265
 v70:=Tryz.zeroValue265
 t76:=Tryz.underlying271
 a76:=Tryz.isAgg271
 z76:=Tryz.sizeOf271
 v76:=Tryz.zeroValue271
 t77:=Tryz.underlying247
 a77:=Tryz.isAgg247
 z77:=Tryz.sizeOf247
 v77:=Tryz.zeroValue247 }
end Go.Proofs
namespace Go.Proofs.YtkkhdehdaaealaaGreat
set_option linter.unusedSimpArgs false
set_option linter.unusedVariables false
open Go.RowKit Go.Sort
theorem rX (w:World)(os:Array Obj):Below w.heap.size w (Go.Sort.grow w os):=⟨rfl,rfl,rfl,by simp[grow],fun k hk=>heap_grow_old w os hk⟩
theorem rY {xs ys:List AV}(h:ys.length=xs.length):splice xs 0 ys=ys:=by
 have hl:0+ys.length<=xs.length:=by omega
 refine List.ext_getElem? fun j=>?_
 rw[iG hl]
 by_cases hj:j<ys.length
 ·rw[if_pos ⟨by omega,by omega⟩,Nat.sub_zero]
 rw[if_neg (by omega),List.getElem?_eq_none (by omega),List.getElem?_eq_none (by omega)]
theorem mK {E:Env}:∀(l:List (Int×Int)),RelL E (prs l) (fu l)
 |[]=>.nil E
 |p::l=>.cons (.int _ _) (.cons (.int _ _) (mK l))
theorem qF:∀(l:List (Int×Int)),(prs l).all AV.one=true
 |[]=>rfl
 |p::l=>by rw[cT];simp[AV.one,qF l]
section
variable {E:Env} {H:aa} {w:World}
theorem Emb.putP (h:Emb E H w){b q:Nat}{zs ys:List (Int×Int)}(hg:H[b]? = some (.cells true 2 (prs zs)))(hl:ys.length=zs.length)(os:Array Obj):
  Emb E (H.set b (.cells true 2 (prs ys))) (Go.Sort.grow ((w.drewN q).setCells (E.loc b).blk ((E.loc b).off) (fu ys)) os):=by
 have h0:Emb E H (w.drewN q):=h.up (below_drewN (Below.refl _ _) q)
 have hw:awrite H b 0 (prs ys)=some (H.set b (.cells true 2 (prs ys))):=by
  unfold awrite
  rw[hg]
  simp only
  rw[if_pos ⟨by simp[bm,hl],qF ys⟩,rY (by simp[bm,hl])]
 exact((h0.write (mK ys) hw).2.2.2).up (rX _ os)
end
def encP {α:Type}(val:α->Int×Int) (x:α):List Value:=[.int .i64 (val x).1,.int .i64 (val x).2]
theorem pE {α:Type}[Inhabited α](val:α->Int×Int)(zs:List α):flatK (encP val) 2 zs.toArray=(fu (zs.map val)).toArray:=by
 refine ext_get! (by simp[my]) fun t ht=>?_
 have ht':t<zs.length*2:=by simpa using ht
 rw[get_flatK _ _ _ _ (by simpa using ht')]
 have hj:t/2<zs.length:=by omega
 obtain⟨e1,e2⟩:=enc2_at (zs.map val) (t/2) (by simpa using hj)
 have hx:zs.toArray[t/2]! = zs[t/2]:=by simp[hj]
 rw[hx]
 have hr:(fu (zs.map val)).toArray[t]! = ((fu (zs.map val))[t]?).getD default:=by simp[List.getElem!_eq_getElem?_getD]
 rw[hr]
 rcases Nat.mod_two_eq_zero_or_one t with h|h
 ·have:t=t/2*2:=by omega
  rw[<-this] at e1
  rw[h,e1]
  simp[encP]
 have:t=t/2*2+1:=by omega
 rw[<-this] at e2
 rw[h,e2]
 simp[encP]
theorem Can.nil:Can [] []:=⟨.nil,by simp,fun _ _=>rfl⟩
def iu (x y:Int):Int:=if x<y then -1 else if y<x then 1 else 0
def Bd (M:Int) (p:Pt):Prop := -M<=p.1/\p.1<=M /\ -M<=p.2/\p.2<=M
theorem bg {a b A B:Int}(h1 : -A<=a/\a<=A)(h2 : -B<=b/\b<=B): -(A*B)<=a*b/\a*b<=A*B:=by
 have e1:=Int.mul_nonneg (a:=A-a) (b:=B+b) (by omega) (by omega)
 have e2:=Int.mul_nonneg (a:=A+a) (b:=B-b) (by omega) (by omega)
 have e3:=Int.mul_nonneg (a:=A-a) (b:=B-b) (by omega) (by omega)
 have e4:=Int.mul_nonneg (a:=A+a) (b:=B+b) (by omega) (by omega)
 simp only[Int.sub_mul,Int.add_mul,Int.mul_sub,Int.mul_add] at e1 e2 e3 e4
 omega
theorem isNaN_h (x:Int)(W:World):Calls Tryz.prog 187 #[.int .i64 x] W fun e w'=>e=.returned (.bool false)/\w'=W:=by
 go_enter Tryz.func187,Tryz.ntmps187
 go_wp2
 go_ret
 exact⟨by simp,rfl⟩
theorem compare_h (x y:Int)(W:World):Calls Tryz.prog 155 #[.int .i64 x,.int .i64 y] W fun e w'=>e=.returned (.int .i64 (iu x y))/\w'=W:=by
 have hcon:=isNaN_h
 go_enter Tryz.func155,Tryz.ntmps155
 go_wp2_with (go_at_call 187;refine(hcon _ _).mono ?_;rintro e w' ⟨rfl,rfl⟩)
 ·go_ret
  exact⟨iN (by unfold iu;rw[if_pos (by assumption)]),rfl⟩
 ·go_ret
  exact⟨iN (by unfold iu;rw[if_neg (by omega),if_pos (by assumption)]),rfl⟩
 go_ret
 exact⟨iN (by unfold iu;rw[if_neg (by omega),if_neg (by omega)]),rfl⟩
structure Up where
 p:Pt
 up:up p
 bd:Bd 268435456 p
instance:Inhabited Up:=⟨⟨(1,0),.inr ⟨rfl,by decide⟩,by unfold Bd;simp⟩⟩

def bC (W H:Int) (xs:List Int):Bool:=decide (1<=W/\W<=64/\1<=H/\H<=64/\(xs.length:Int)=W*H/\∀v∈xs,v<=2)
def inB (W H x y:Int):Bool:=decide (0<=x/\x<W/\0<=y/\y<H)
def atI (W H:Int) (xs:List Int) (x y:Int):Int:=if inB W H x y then gi xs (y*W+x).toNat else 2
structure Vld (W H:Int) (xs:List Int):Prop where
 w0:1<=W
 w1:W<=64
 h0:1<=H
 h1:H<=64
 len:(xs.length:Int)=W*H
 le:∀v∈xs,v<=2
theorem bh {W H:Int}{xs:List Int}:bC W H xs=true↔Vld W H xs:=by
 unfold bC
 rw[decide_eq_true_iff]
 exact⟨fun ⟨a,b,c,d,e,f⟩=>⟨a,b,c,d,e,f⟩,fun ⟨a,b,c,d,e,f⟩=>⟨a,b,c,d,e,f⟩⟩
theorem vld_false {W H:Int}{xs:List Int}:bC W H xs=false↔¬Vld W H xs:=by
 rw[<-bh];simp
theorem cC {W H x y:Int}:inB W H x y=true↔0<=x/\x<W/\0<=y/\y<H:=by
 unfold inB;rw[decide_eq_true_iff]
theorem d7 {W H x y:Int}:inB W H x y=false↔¬(0<=x/\x<W/\0<=y/\y<H):=by
 unfold inB;rw[decide_eq_false_iff_not]

theorem pF {a b:Int}(h0:0<=a)(h1:a<=64)(h2:0<=b)(h3:b<=64):0<=a*b/\a*b<=4096 :=
 ⟨Int.mul_nonneg h0 h2,Int.le_trans (Int.mul_le_mul h1 h3 h2 (by omega)) (by omega)⟩
theorem Vld.pos {W H:Int}{xs:List Int}(h:Vld W H xs):1<=W*H/\W*H<=4096/\0<xs.length/\xs.length<=4096:=by
 have h1:1*1<=W*H:=Int.mul_le_mul h.w0 h.h0 (by omega) (by have:=h.w0;omega)
 have h2:=pF (a:=W) (b:=H) (by have:=h.w0;omega) h.w1 (by have:=h.h0;omega) h.h1
 have h3:=h.len
 omega
theorem idx_bd {W H x y:Int}(h:inB W H x y=true):0<=y*W/\0<=y*W+x/\y*W+x<W*H:=by
 obtain⟨a,b,c,d⟩:=cC.1 h
 have h1:0<=y*W:=Int.mul_nonneg c (by omega)
 have h2:(y+1)*W<=H*W:=Int.mul_le_mul_of_nonneg_right (by omega) (by omega)
 rw[Int.add_mul,Int.one_mul] at h2
 rw[Int.mul_comm W H]
 omega
theorem Vld.idx {W H x y:Int}{xs:List Int}(hv:Vld W H xs)(h:inB W H x y=true):0<=y*W/\y*W<=4096/\0<=y*W+x/\y*W+x<W*H/\(y*W+x).toNat<xs.length/\0<=x/\x<64/\0<=y/\y<64:=by
 have h1:=idx_bd h
 have h2:=hv.pos
 have h3:=hv.len
 obtain⟨a,b,c,d⟩:=cC.1 h
 have:=hv.w1
 have:=hv.h1
 omega



inductive FT where
 |nil
 |leaf (x:AV)
 |node (l r:FT)
def FT.get:Nat->FT->Nat->AV
 |0,f,_=>(match f with | .leaf x=>x|_=>.any)
 |d+1,f,t=>(match f with | .node l r=>bif Nat.beq (t%2) 0 then FT.get d l (t/2) else FT.get d r (t/2)|_=>.any)
def FT.set:Nat->Nat->AV->FT->FT
 |0,_,x,_=>.leaf x
 | d+1,t,x,f=>(match f with
  |.node l r=>bif Nat.beq (t%2) 0 then .node (FT.set d (t/2) x l) r else .node l (FT.set d (t/2) x r)
  |_=>bif Nat.beq (t%2) 0 then .node (FT.set d (t/2) x .nil) .nil else .node .nil (FT.set d (t/2) x .nil))
def getT (f:FT) (t:Nat):AV:=bif Nat.blt t 1024 then FT.get 10 f t else .any
def ev (f:FT):Operand->AV
 |.tmp t=>getT f t
 |.const v=>AV.ofValue v
 |.global _=>.any
 |.func g=>.fn g []
abbrev Caller:=FuncId->List AV->aa->Option (AV×Option aa)
def CallOk (P:Program) (call:Caller):Prop:=∀f args H x o,call f args H=some (x,o)->dk P f=true/\H.length<=(o.getD H).length/\ACalls P f args H (fun y H1=>y=x/\H1=o.getD H)
section
section
variable {P:Program} {N n m:Nat} {d:Option Nat} {q keep:Bool} {call:Caller}
theorem Rel.env {E E':Env}{x:AV}{v:Value}(h:Rel E x v)(hn:E'.n=E.n)(hl:∀b,E'.loc b=E.loc b):Rel E' x v:=by
 induction h with
 |any v=>exact .any v
 |int k n=>exact .int k n
 |bool b=>exact .bool b
 |str s=>exact .str s
 |nilptr=>exact .nilptr
 |ptr b o hb=>rw[<-hl b];exact .ptr b o (by rw[hn];exact hb)
 |nilsl=>exact .nilsl
 |nils b cap hb hc=>exact .nils b cap (by rw[hn];exact hb) hc
 |sl b o len cap c a hb h1 h2 h3 h4 h5=>exact .sl b o len cap c a (by rw[hn];exact hb) h1 h2 h3 (by rw[hl];exact h4) (by rw[hl];exact h5)
 |nilmp=>exact .nilmp
 |mp b hb=>rw[<-hl b];exact .mp b (by rw[hn];exact hb)
 |nilfn=>exact .nilfn
 |fn f caps cs hl' _ ih=>exact .fn f caps cs hl' ih
 |agg xs cs hl' _ ih=>exact .agg xs cs hl' ih
 |tup xs cs hl' _ ih=>exact .tup xs cs hl' ih
theorem RelL.env {E E':Env}{xs:List AV}{vs:List Value}(h:RelL E xs vs)(hn:E'.n=E.n)(hl:∀b,E'.loc b=E.loc b):RelL E' xs vs:=⟨h.1,fun i x v hx hv=>(h.2 i x v hx hv).env hn hl⟩
theorem BlkOk.env {E E':Env}{w:World}{L:Loc}{x:ABlk}(h:BlkOk E w L x)(hB:E'.B=E.B)(hn:E'.n=E.n)(hl:∀b,E'.loc b=E.loc b):BlkOk E' w L x:=by
 cases x with
 |dead=>trivial
 | cells own es xs =>
  obtain⟨h1,h2,h3,h4⟩:=h
  refine⟨fun j x hj=>?_,fun ho=>by rw[hB];exact h2 ho,fun ho hl=>by rw[hB];exact h3 ho hl,h4⟩
  obtain⟨a,v,hv,hr⟩:=h1 j x hj
  exact⟨a,v,hv,hr.env hn hl⟩
 | map es =>
  obtain⟨h1,h2,ents,clock,h3,h4,h5,h6⟩:=h
  exact⟨by rw[hB];exact h1,h2,ents,clock,h3,h4.env hn hl,h5.env hn hl,h6⟩
 | fmap es bs ck =>
  obtain⟨h1,h2,ents,h3,h4,h5,h6⟩:=h
  exact⟨by rw[hB];exact h1,h2,ents,h3,h4.env hn hl,h5.env hn hl,h6⟩
 | iter m bs sn ck =>
  obtain⟨h1,h2,h3,h4,h5,h6,h7⟩:=h
  exact⟨by rw[hB];exact h1,h2,by rw[hn];exact h3,h4,h5,h6,by rw[hl m];exact h7⟩
theorem Abs0.same (n:Nat){F G:Fr}(h:look F=look G){H:aa}(hn:n<=H.length):Abs0 n id F H G H where
 small _ _:=rfl
 len:=hn
 frame E E' h1 h2 h3 t v hv:=by
  rw[<-h]
  exact hv.env (h2.trans h1.symm) h3
 heap E E' h1 h2 h3 h4 w hw b x hx:=by
  rw[h4 b]
  exact(hw b x hx).env h3 (h2.trans h1.symm) h4
 inj b c x y hx hy ox oy hbc:=⟨hbc,⟨x,hx,ox⟩,y,hy,oy⟩
theorem Abs.same (n:Nat){F G:Fr}(h:look F=look G){H:aa}(hn:n<=H.length):Abs n id F H G H:=(Abs0.same n h hn).abs
inductive TbOk (P:Program):List (Nat×Bool×Func)->Prop where
 |nil:TbOk P []
 |cons {f:Nat} {q:Bool} {fn:Func} {r:List (Nat×Bool×Func)}:dk P f=true->P.funcs[f]? = some fn->(fn.body.map (db fn.ntmps q))=some true->TbOk P r->TbOk P ((f,q,fn)::r)
end
end
open Go.Proofs.Tryz
noncomputable def tb:List (Nat×Bool×Func):=[(24,false,Tryz.f24),(31,false,Tryz.f31),(42,false,Tryz.f42),(43,false,Tryz.f43),(49,false,Tryz.f49),(54,false,Tryz.f54),(60,false,Tryz.f60),(67,false,Tryz.f67),(71,false,Tryz.f71),(83,false,Tryz.f83),(97,false,Tryz.f97),(109,false,Tryz.f109),(111,false,Tryz.f111),(112,false,Tryz.f112),(151,false,Tryz.f151),(152,false,Tryz.f152),(154,false,Tryz.f154),(155,false,Tryz.f155),(176,false,Tryz.f176),(177,false,Tryz.f177),(178,false,Tryz.f178),(179,false,Tryz.f179),(180,false,Tryz.f180),(181,false,Tryz.f181),(182,false,Tryz.f182),(183,false,Tryz.f183),(184,false,Tryz.f184),(187,false,Tryz.f187),(204,false,Tryz.f204),(205,false,Tryz.f205),(207,false,Tryz.f207),(208,false,Tryz.f208),(214,false,Tryz.f214)]
abbrev zC (f:FuncId) (a:List AV) (H:aa) (x:AV) (K:aa):Prop:=ACalls prog f a H fun v H'=>v=x/\H'=K
def ext:Caller:=fun f args _ =>
 match args with
 |[.int .u64 x]=>bif Nat.beq f 153&&(decide (0<=x)&&decide (x<=18446744073709551615)) then some (.int .i64 (Lib.bitLen x.toNat),none) else none
 |_=>none
theorem ext_ok:CallOk prog ext:=fun f args H x o h=>by
 unfold ext at h
 split at h
 ·rename_i x'
  cases hb:Nat.beq f 153&&(decide (0<=x')&&decide (x'<=18446744073709551615))
  ·rw[hb] at h;cases h
  rw[hb,cond_true] at h
  simp only[Option.some.injEq,Prod.mk.injEq] at h
  obtain⟨rfl,rfl⟩:=h
  simp only[Bool.and_eq_true,decide_eq_true_eq] at hb
  obtain⟨h1,h2,h3⟩:=hb
  have e:=Nat.eq_of_beq_eq_true h1
  subst e
  refine⟨by kernel_rfl,Nat.le_refl _,fun E w vs hE hv=>?_⟩
  obtain⟨v1,l1,rfl,k1,hr⟩:=fC hv
  obtain rfl:=kl hr
  obtain rfl:=jK k1
  refine(Tryz.bits_Len x' w h2 h3).mono fun e w' ⟨he,hw⟩=>?_
  subst hw
  exact⟨E,_,H,_,he,⟨rfl,rfl⟩,.refl E,.int _ _,hE⟩
 cases h
section
variable (H:aa)
def bK (x m:Int):Bool:=decide (0-m<=x)&&decide (x<=m)
def absI (n:Int):Int:=if n<0 then -n else n
end
theorem IsP.parts {H:aa}{s:AV}{l:List Pt}(h:IsP H s l):∃a c,s=.sl a l.length c:=by
 rcases h with ⟨rfl,rfl⟩|⟨b,own,cap,rfl,hb⟩
 ·exact⟨_,_,rfl⟩
 exact⟨_,_,rfl⟩
theorem IsP.pos {H:aa}{s:AV}{l:List Pt}(h:IsP H s l)(h0:0<l.length):∃b own cap,s=.sl (some (b,0)) l.length cap/\H[b]? = some (.cells own 2 (prs l)):=by
 rcases h with ⟨rfl,rfl⟩|⟨b,own,cap,rfl,hb⟩
 ·simp at h0
 exact⟨b,own,cap,rfl,hb⟩
section
variable (H:aa)
end
section
variable (H:aa)
end
theorem aH {x m:Int}:bK x m=true ↔ -m<=x/\x<=m:=by unfold bK;simp
def dotP (n g:Pt):Int:=n.1*g.1+n.2*g.2
def spr (n:Pt):List Pt->Int
 |[]=>0
 |g::l=>absI (dotP n g)+spr n l
theorem absI_neg (x:Int):absI (-x)=absI x:=by unfold absI;split<;>split<;>omega
theorem absI_le {x M:Int}:absI x<=M ↔ -M<=x/\x<=M:=by unfold absI;split<;>omega
theorem pG (n g:Pt):dotP (-n.1,-n.2) g = -dotP n g:=by unfold dotP;simp only[Int.neg_mul];omega
theorem qG (n g:Pt)(l:List Pt):spr n (g::l)=absI (dotP n g)+spr n l:=rfl
theorem qH (n:Pt):∀l:List Pt,spr (-n.1,-n.2) l=spr n l
 |[]=>rfl
 |g::l=>by rw[qG,qG,qH n l,pG,absI_neg]
def inZ (L:List Pt) (d:Pt):Prop:=∀n:Pt,dotP n d<=spr n L
theorem inZ.abs {L:List Pt}{d:Pt}(h:inZ L d)(n:Pt):absI (dotP n d)<=spr n L:=by
 rw[absI_le]
 have h1:=h n
 have h2:=h (-n.1,-n.2)
 rw[pG,qH] at h2
 omega
def mkL (e:Int) (L:List Pt):List Pt:=if e=0 then L else []
theorem lR {l:List Pt}:(prs l).take (l.length*2)=prs l:=by rw[qi,List.take_length]
theorem and255 (a:Int):(BitVec.ofInt 64 a &&& BitVec.ofInt 64 255).toNat=(a%256).toNat:=by
 rw[BitVec.toNat_and,BitVec.toNat_ofInt,BitVec.toNat_ofInt]
 have e:((255:Int)%((2 ^ 64:Nat):Int)).toNat=2 ^ 8-1:=by decide
 rw[e,Nat.and_two_pow_sub_one_eq_mod]
 have:(((a%((2 ^ 64:Nat):Int)).toNat:Nat):Int)=a%18446744073709551616:=by
  rw[Int.toNat_of_nonneg (Int.emod_nonneg _ (by decide))];rfl
 omega
def eU (x y d:Int):Nat:=Nat.gcd (Nat.gcd d.natAbs x.natAbs) y.natAbs
abbrev Vec:=Int×Int×Int
def fS (x y d:Int):Vec:=(x.tdiv (eU x y d),y.tdiv (eU x y d),d.tdiv (eU x y d))
theorem qI {x y d:Int}(h:d≠0):0<eU x y d:=by
 unfold eU
 exact Nat.gcd_pos_of_pos_left _ (Nat.gcd_pos_of_pos_left _ (Int.natAbs_pos.2 h))
theorem gcd3_dvd (x y d:Int):((eU x y d:Nat):Int) ∣ x/\((eU x y d:Nat):Int) ∣ y/\((eU x y d:Nat):Int) ∣ d:=by
 unfold eU
 have h1:=Nat.gcd_dvd_left (Nat.gcd d.natAbs x.natAbs) y.natAbs
 have h2:=Nat.gcd_dvd_right (Nat.gcd d.natAbs x.natAbs) y.natAbs
 exact⟨Int.ofNat_dvd_left.2 (Nat.dvd_trans h1 (Nat.gcd_dvd_right _ _)),Int.ofNat_dvd_left.2 h2,Int.ofNat_dvd_left.2 (Nat.dvd_trans h1 (Nat.gcd_dvd_left _ _))⟩
theorem lowV_mul {x y d:Int}(h:d≠0):∃g:Int,0<g/\x=(fS x y d).1*g/\y=(fS x y d).2.1*g/\d=(fS x y d).2.2*g:=by
 obtain⟨a,b,c⟩:=gcd3_dvd x y d
 have hp:=qI (x:=x) (y:=y) h
 refine⟨eU x y d,by omega,?_,?_,?_⟩<;>(unfold fS;simp only;rw[Int.tdiv_mul_cancel (by assumption)])
def dir0 (k:Nat):Vec:=fS (4096-(k:Int)*k) (128*k) (4096+(k:Int)*k)
def rotN (v:Vec):Nat->Vec
 |0=>v
 |n+1=>(-(rotN v n).2.1,(rotN v n).1,(rotN v n).2.2)
def dirN (h:Nat):Vec:=rotN (dir0 (h%64)) (h/64)
def cF (h:Int):Vec:=dirN (h%256).toNat
def fY (v:Vec):Bool:=decide (1<=v.2.2)&&decide (v.2.2<=8065)&&decide (-v.2.2<=v.1)&&decide (v.1<=v.2.2)&&decide (-v.2.2<=v.2.1)&&decide (v.2.1<=v.2.2)&&decide (v.1*v.1+v.2.1*v.2.1=v.2.2*v.2.2)
theorem dirs_ok:(List.range 256).all (fun h=>fY (dirN h))=true:=by decide +kernel
theorem gM (h:Int):fY (cF h)=true:=by
 have:=List.all_eq_true.1 dirs_ok (h%256).toNat (by simp;omega)
 exact this
theorem dw {v:Vec}:fY v=true↔(1<=v.2.2/\v.2.2<=8065)/\(-v.2.2<=v.1/\v.1<=v.2.2)/\(-v.2.2<=v.2.1/\v.2.1<=v.2.2)/\v.1*v.1+v.2.1*v.2.1=v.2.2*v.2.2:=by
 unfold fY
 simp only[Bool.and_eq_true,decide_eq_true_eq]
 constructor
 ·rintro⟨⟨⟨⟨⟨⟨a,b⟩,c⟩,d⟩,e⟩,f⟩,g⟩;exact⟨⟨a,b⟩,⟨c,d⟩,⟨e,f⟩,g⟩
 rintro⟨⟨a,b⟩,⟨c,d⟩,⟨e,f⟩,g⟩;exact⟨⟨⟨⟨⟨⟨a,b⟩,c⟩,d⟩,e⟩,f⟩,g⟩
theorem jc {a b:Int}(h:0<b):(if a.tmod b<0 then a.tdiv b-1 else a.tdiv b)=a/b:=by
 rw[Int.tdiv_eq_ediv,Int.tmod_eq_emod]
 have h1:=Int.emod_nonneg a (by omega:b≠0)
 have h2:=Int.emod_lt_of_pos a h
 have hs:b.sign=1:=Int.sign_eq_one_of_pos h
 have hn:(b.natAbs:Int)=b:=by omega
 split
 ·rw[if_neg (by omega)];omega
 rw[if_pos (by omega),hs];omega
def cu (h m:Int):Int:=m*(cF h).1/(cF h).2.2
def cw (h m:Int):Int:=m*(cF h).2.1/(cF h).2.2
theorem div_bd {m a d:Int}(hd:1<=d)(ha : -d<=a/\a<=d)(hm:0<=m): -m<=m*a/d/\m*a/d<=m:=by
 constructor
 ·rw[Int.le_ediv_iff_mul_le (by omega)]
  have:=Int.mul_le_mul_of_nonneg_left ha.1 hm
  rw[Int.mul_neg] at this
  rw[Int.neg_mul];exact this
 have:=Int.mul_le_mul_of_nonneg_left ha.2 hm
 have h2:m*a/d<=m*d/d:=Int.ediv_le_ediv (by omega) this
 rwa [Int.mul_ediv_cancel _ (by omega)] at h2
theorem jd (h:Int){m:Int}(hm:0<=m):(-m<=cu h m/\cu h m<=m)/\(-m<=cw h m/\cw h m<=m):=by
 have hv:=dw.1 (gM h)
 exact⟨div_bd hv.1.1 hv.2.1 hm,div_bd hv.1.1 hv.2.2.1 hm⟩
def btw (n lo hi:Int):Bool:=decide (lo<=n)&&decide (n<=hi)
theorem aS {n lo hi:Int}:btw n lo hi=true↔lo<=n/\n<=hi:=by unfold btw;simp
def cH (t f:Int):Bool:=bK t 32&&btw f 0 32
def bX (tu le sl ra:Int):Bool:=btw tu 0 8&&(btw le 0 16&&(btw sl 0 8&&btw ra 1 32))
set_option maxHeartbeats 4000000
set_option maxRecDepth 100000
theorem gN {a b:Int}(hb:0<b)(hw : -4611686018427387904<=a/\a<=4611686018427387904): -4611686018427387904<=Int.tdiv a b/\Int.tdiv a b<=4611686018427387904:=by
 have h:=jc (a:=a) hb
 have h1:a/b<=4611686018427387904:=Int.ediv_le_of_le_mul hb (by have:=Int.mul_le_mul_of_nonneg_left (show (1:Int)<=b by omega) (by decide:(0:Int)<=4611686018427387904);omega)
 have h2 : -4611686018427387904<=a/b:=by
  rw[Int.le_ediv_iff_mul_le hb]
  have:=Int.mul_le_mul_of_nonneg_left (show (1:Int)<=b by omega) (by decide:(0:Int)<=4611686018427387904)
  rw[Int.neg_mul];omega
 rw[Int.tdiv_eq_ediv]
 have hs:b.sign=1:=Int.sign_eq_one_of_pos hb
 split
 ·omega
 rename_i hh
 rw[hs]
 rcases (by omega:a/b<=4611686018427387903\/a/b=4611686018427387904) with k|k
 ·omega
 exfalso
 have h3:4611686018427387904*b<=a:=by rw[<-Int.le_ediv_iff_mul_le hb];omega
 have:=Int.mul_le_mul_of_nonneg_left (show (1:Int)<=b by omega) (by decide:(0:Int)<=4611686018427387904)
 omega
theorem rZ (a:Int):IntKind.i64.wrap ((BitVec.ofInt IntKind.i64.bits a &&& BitVec.ofInt IntKind.i64.bits 255).toNat:Int)=(((a%256).toNat:Nat):Int):=by
 have h:=and255 a
 show IntKind.i64.wrap (((BitVec.ofInt 64 a &&& BitVec.ofInt 64 255).toNat:Nat):Int)=_
 rw[h]
 exact iS (by omega) (by omega)
theorem rem_n64 (a:Nat):Int.tmod (a:Int) 64=((a%64:Nat):Int):=rfl
theorem quo_n64 (a:Nat):Int.tdiv (a:Int) 64=((a/64:Nat):Int):=rfl
theorem d8 (H:aa)(n lo hi:Int):zC 56 [iV n,iV lo,iV hi] H (.bool (btw n lo hi)) H:=by
 refine AcT true func56 ?_;intro hbel Q hQ
 refine aI ?_
 refine aY (fun h1=>?_) (fun h1=>?_)
 ·have h1d:=bsT h1
  have G1:=jn h1 @h1d
  exact eS G1 hQ hbel (.bool (decide (n<=hi))) results56 ⟨by simp[btw,h1d],rfl⟩
 have h1d:=bsT h1
 have G2:=jn h1 @h1d
 exact eS G2 hQ hbel (.bool false) results56 ⟨by simp[btw,h1d],rfl⟩
theorem d9 (H:aa)(x m:Int)(h:0<=m/\m<=4611686018427387904):zC 57 [iV x,iV m] H (.bool (bK x m)) H:=by
 refine AcT true func57 ?_;intro hbel Q hQ
 refine aI ?_
 refine cv (d8 _ x _ m) ?_
 refine aI ?_
 exact eQ hQ hbel (.bool (btw x (0-m) m)) results57 ⟨by simp[btw,bK,true_and],rfl⟩
theorem gx (H:aa)(t f:Int):zC 32 [.agg [iV t,iV f]] H (.bool (cH t f)) H:=by
 refine AcT true func32 ?_;intro hbel Q hQ
 refine aI ?_
 refine cv (d9 _ t 32 (by decide)) ?_
 refine aI ?_
 refine aY (fun h1=>?_) (fun h1=>?_)
 ·have h1d:=bsT h1
  have G3:=jn h1 @h1d
  refine ae G3 ?_
  refine cvr G3 (d8 _ f 0 _) ?_
  exact eP hQ hbel (.bool (btw f 0 32)) results32 ⟨by simp[cH,h1d],rfl⟩
 have h1d:=bsT h1
 have G4:=jn h1 @h1d
 exact eR G4 hQ hbel (.bool false) results32 ⟨by simp[cH,h1d],rfl⟩
theorem ik (H:aa)(tu le sl ra:Int):zC 29 [.agg [iV tu,iV le,iV sl,iV ra]] H (.bool (bX tu le sl ra)) H:=by
 refine AcT true func29 ?_;intro hbel Q hQ
 refine aI ?_
 refine cv (d8 _ _ 0 8) ?_
 refine aI ?_
 refine aY (fun h1=>?_) (fun h1=>?_)
 ·have h1d:=bsT h1
  have G5:=jn h1 @h1d
  refine ae G5 ?_
  refine cv (d8 _ _ 0 _) ?_
  refine rgs G5 (fun h2 h2d G6=>?_) (fun h2 h2d G9=>?_)
  ·refine ae G6 ?_
   refine cv (d8 _ _ 0 8) ?_
   refine rgs G6 (fun h3 h3d G7=>?_) (fun h3 h3d G8=>?_)
   ·refine ae G7 ?_
    refine cvr G7 (d8 _ _ 1 _) ?_
    exact eP hQ hbel (.bool (btw ra 1 32)) results29 ⟨by simp[bX,h1d,h2d,h3d],rfl⟩
   exact eR G8 hQ hbel (.bool false) results29 ⟨by simp[bX,h1d,h2d,h3d],rfl⟩
  exact eR G9 hQ hbel (.bool false) results29 ⟨by simp[bX,h1d,h2d],rfl⟩
 have h1d:=bsT h1
 have G10:=jn h1 @h1d
 exact eR G10 hQ hbel (.bool false) results29 ⟨by simp[bX,h1d],rfl⟩
theorem iT (H:aa)(a b:Int)(hb:0<b)(hw : -4611686018427387904<=a/\a<=4611686018427387904):zC 119 [iV a,iV b] H (iV (a/b)) H:=by
 have htd:=gN (a:=a) (b:=b) hb hw
 refine AcT true func119 ?_;intro hbel Q hQ
 refine aI ?_
 refine cO (fun h1=>?_) (fun h1=>?_)
 ·have h1d:=bsT h1
  have hfinq:Int.tdiv a b-1=a/b:=by rw[<-jc hb,if_pos h1d]
  have G11:=jn h1 @h1d
  exact eS G11 hQ hbel (iV ((Int.tdiv a b)-1)) results119 ⟨congrArg (AV.int .i64) hfinq,rfl⟩
 have h1d:=bsT h1
 have hfinq:Int.tdiv a b=a/b:=by rw[<-jc hb,if_neg (by omega)]
 have G12:=jn h1 @h1d
 exact eS G12 hQ hbel (iV (Int.tdiv a b)) results119 ⟨congrArg (AV.int .i64) hfinq,rfl⟩
theorem jO (H:aa)(h:Int):zC 92 [iV h] H (iV (((h%256).toNat:Nat):Int)) H:=by
 refine AcT true func92 ?_;intro hbel Q hQ
 have G13:=@rZ
 exact eS G13 hQ hbel (iV (((h%256).toNat:Nat):Int)) results92 ⟨rfl,rfl⟩
def gst (x y d:Int):Nat->Nat
 |0=>d.natAbs
 |1=>Nat.gcd d.natAbs x.natAbs
 |_+2=>eU x y d
def nst (x y:Int):Nat->Nat
 |0=>x.natAbs
 |_+1=>y.natAbs
theorem mL (a b:Nat):Nat.gcd b (a%b)=Nat.gcd a b:=by rw[Nat.gcd_comm b,<-Nat.gcd_rec,Nat.gcd_comm]
theorem rot_ok {v:Vec}(h:fY v=true):∀n,fY (rotN v n)=true
 |0=>h
 | n+1=>by
  have ih:=dw.1 (rot_ok h n)
  rw[dw]
  unfold rotN
  simp only
  refine⟨ih.1,by omega,by omega,?_⟩
  rw[Int.neg_mul_neg];omega
theorem dir0_ok {k:Nat}(h:k<64):fY (dir0 k)=true:=by
 have:=List.all_eq_true.1 dirs_ok k (by simp;omega)
 unfold dirN at this
 rwa [Nat.mod_eq_of_lt h,Nat.div_eq_of_lt h] at this
theorem rotN_D (v:Vec):∀n,(rotN v n).2.2=v.2.2
 |0=>rfl
 |n+1=>rotN_D v n
theorem low_c (H:aa)(x y d:Int)(hd:0<d)(kbx : -1152921504606846976<=x/\x<=1152921504606846976)(kby : -1152921504606846976<=y/\y<=1152921504606846976)(kbd : -1152921504606846976<=d/\d<=1152921504606846976):zC 198 [iV x,iV y,iV d] H (.agg [iV ((fS x y d).1),iV ((fS x y d).2.1),iV ((fS x y d).2.2)]) H:=by
 have hmx:(if x<0-x then 0-x else x)=(x.natAbs:Int):=by split<;>omega
 have hmy:(if y<0-y then 0-y else y)=(y.natAbs:Int):=by split<;>omega
 have hg00:((gst x y d 0:Nat):Int)=d:=by simp only[gst];omega
 have hg2:gst x y d 2=eU x y d:=rfl
 have hg0:0<eU x y d:=qI (by omega)
 have t1:=gN (a:=x) (b:=((eU x y d:Nat):Int)) (by omega) (by omega)
 have t2:=gN (a:=y) (b:=((eU x y d:Nat):Int)) (by omega) (by omega)
 have t3:=gN (a:=d) (b:=((eU x y d:Nat):Int)) (by omega) (by omega)
 refine AcT true func198 ?_;intro hbel Q hQ
 have G1:=jn @hmx (jn @hmy (jn @hg2 @rem_nat))
 refine ae G1 ?_
 refine glp (fun k F Hx=>∃j:Nat,j+k=2/\F=[(0,iV x),(1,iV y),(2,iV d),(6,.ptr (some (H.length,0))),(7,iV ((gst x y d j:Nat):Int)),(13,.agg [iV x,iV y]),(14,iV (j:Int))]/\Hx=H++[.cells true 0 [iV 0,iV 0,iV 0]]) (2) ?_ ?_
 ·refine⟨_,_,_,⟨0,by omega,rfl,rfl⟩,bS hbel [0] (aN (jn @hg00 @Int.natCast_zero))⟩
 rintro k0 F Hx ⟨j,hm0,rfl,rfl⟩ J0 hJ0
 refine rcs G1 (fun h1 h1d _=>?_) (fun h1 h1d G8=>?_)
 ·obtain rfl|rfl:=(by omega:j=0\/j=1)
  ·have G2:=j2 h1 h1d G1
   refine ae G2 ?_
   refine glp (fun k F Hx=>∃a:Nat,∃b:Nat,b=k/\Nat.gcd a b=gst x y d (0+1)/\F=[(0,iV x),(1,iV y),(2,iV d),(6,.ptr (some (H.length,0))),(7,iV (a:Int)),(9,iV (b:Int)),(13,.agg [iV x,iV y]),(14,iV 0)]/\Hx=H++[.cells true 0 [iV 0,iV 0,iV 0]]) (nst x y 0) ?_ ?_
   ·refine⟨_,_,_,⟨gst x y d 0,nst x y 0,by omega,rfl,rfl,rfl⟩,bS hbel [0] (aN (jn @nst.eq_1 @nst.eq_2))⟩
   rintro k1 F Hx ⟨a,b,hm1,hG,rfl,rfl⟩ J1 hJ1
   refine rcs G2 (fun h2 h2d _=>?_) (fun h2 h2d _=>?_)
   ·have hlt:a%b<b:=Nat.mod_lt _ (by omega)
    have G3:=jn h2 (jn h2d (jn @aP (jn @aO G2)))
    refine ae G3 ?_
    refine hJ1 _ _ ⟨a%b,by omega,_,_,_,⟨b,a%b,by omega,by rw[<-hG,mL],rfl,rfl⟩,bS hbel [0] (aN @h2d)⟩
   obtain rfl:b=0:=by omega
   rw[Nat.gcd_zero_right] at hG
   have G4:=jn h2 (jn h2d (jn @aP (jn @aO G2)))
   refine ae G4 ?_
   refine hJ0 _ _ ⟨k0-1,by omega,_,_,_,⟨0+1,by omega,rfl,rfl⟩,bS hbel [0] (aN (jn @hG @h2d))⟩
  have G5:=j2 h1 h1d G1
  refine ae G5 ?_
  refine glp (fun k F Hx=>∃a:Nat,∃b:Nat,b=k/\Nat.gcd a b=gst x y d (1+1)/\F=[(0,iV x),(1,iV y),(2,iV d),(6,.ptr (some (H.length,0))),(7,iV (a:Int)),(9,iV (b:Int)),(13,.agg [iV x,iV y]),(14,iV 1)]/\Hx=H++[.cells true 0 [iV 0,iV 0,iV 0]]) (nst x y 1) ?_ ?_
  ·refine⟨_,_,_,⟨gst x y d 1,nst x y 1,by omega,rfl,rfl,rfl⟩,bS hbel [0] (aN (jn @nst.eq_1 @nst.eq_2))⟩
  rintro k1 F Hx ⟨a,b,hm1,hG,rfl,rfl⟩ J1 hJ1
  refine rcs G5 (fun h3 h3d _=>?_) (fun h3 h3d _=>?_)
  ·have hlt:a%b<b:=Nat.mod_lt _ (by omega)
   have G6:=jn h3 (jn h3d (jn @aP (jn @aO G5)))
   refine ae G6 ?_
   refine hJ1 _ _ ⟨a%b,by omega,_,_,_,⟨b,a%b,by omega,by rw[<-hG,mL],rfl,rfl⟩,bS hbel [0] (aN @h3d)⟩
  obtain rfl:b=0:=by omega
  rw[Nat.gcd_zero_right] at hG
  have G7:=jn h3 (jn h3d (jn @aP (jn @aO G5)))
  refine ae G7 ?_
  refine hJ0 _ _ ⟨k0-1,by omega,_,_,_,⟨1+1,by omega,rfl,rfl⟩,bS hbel [0] (aN (jn @hG @h3d))⟩
 obtain rfl:j=2:=by omega
 skip
 exact eR G8 hQ hbel (.agg [iV (Int.tdiv x ((eU x y d:Nat):Int)),iV (Int.tdiv y ((eU x y d:Nat):Int)),iV (Int.tdiv d ((eU x y d:Nat):Int))]) results198 ⟨rfl,rfl⟩
theorem dir_c (H:aa)(h:Int):zC 164 [iV h] H (.agg [iV ((cF h).1),iV ((cF h).2.1),iV ((cF h).2.2)]) H:=by
 have hK:((h%256).toNat%64)<64:=Nat.mod_lt _ (by decide)
 have hN:((h%256).toNat/64)<=3:=by omega
 have hkk:=bg (a:=((((h%256).toNat%64):Nat):Int)) (b:=((((h%256).toNat%64):Nat):Int)) (A:=63) (B:=63) (by omega) (by omega)
 refine AcT true func164 ?_;intro hbel Q hQ
 have G9:=jn @rem_n64 @quo_n64
 refine ae G9 ?_
 refine cvr G9 (jO _ h) ?_
 refine cvr G9 (low_c _ _ _ _ (by omega) (by omega) (by omega) (by omega)) ?_
 refine glp (fun k F Hx=>∃n:Nat,n+k=((h%256).toNat/64)/\F=[(2,.ptr (some (H.length,0))),(4,.ptr (some (H.length+1,0))),(21,iV ((((h%256).toNat)/64:Nat):Int)),(22,iV (n:Int))]/\Hx=H++[.cells true 0 [iV 0,iV 0,iV 0],.cells true 0 [iV ((rotN (dir0 ((h%256).toNat%64)) n).1),iV ((rotN (dir0 ((h%256).toNat%64)) n).2.1),iV ((fS (4096-(((((h%256).toNat)%64:Nat):Int)*((((h%256).toNat)%64:Nat):Int))) (128*((((h%256).toNat)%64:Nat):Int)) (4096+(((((h%256).toNat)%64:Nat):Int)*((((h%256).toNat)%64:Nat):Int)))).2.2)]]) (((h%256).toNat/64)) ?_ ?_
 ·refine⟨_,_,_,⟨0,by omega,rfl,rfl⟩,bS hbel [0,1] (aN (jn @rotN.eq_1 @dir0.eq_1))⟩
 rintro k0 F Hx ⟨n,hm0,rfl,rfl⟩ J0 hJ0
 refine rcs G9 (fun h1 h1d G10=>?_) (fun h1 h1d G11=>?_)
 ·have hro:=dw.1 (rot_ok (dir0_ok hK) n)
  refine ae G10 ?_
  refine hJ0 _ _ ⟨k0-1,by omega,_,_,_,⟨n+1,by omega,rfl,rfl⟩,bS hbel [0,1] (aN (jn @rotN.eq_2 @Int.zero_sub))⟩
 have hfinn:n=((h%256).toNat/64):=by omega
 exact eR G11 hQ hbel (.agg [iV ((rotN (dir0 ((h%256).toNat%64)) n).1),iV ((rotN (dir0 ((h%256).toNat%64)) n).2.1),iV ((fS (4096-(((((h%256).toNat)%64:Nat):Int)*((((h%256).toNat)%64:Nat):Int))) (128*((((h%256).toNat)%64:Nat):Int)) (4096+(((((h%256).toNat)%64:Nat):Int)*((((h%256).toNat)%64:Nat):Int)))).2.2)]) results164 ⟨by subst hfinn;rw[show cF h=rotN (dir0 ((h%256).toNat%64)) ((h%256).toNat/64) from rfl,rotN_D];rfl,rfl⟩
def ptB (x y:Int):Bool:=bK x 1048576&&bK y 1048576
def gO (x0 y0 x1 y1:Int):Bool:=decide (x0<=x1)&&(decide (y0<=y1)&&(ptB x0 y0&&ptB x1 y1))
theorem ku {x0 y0 x1 y1:Int}:gO x0 y0 x1 y1=true↔(-1048576<=x0/\x0<=x1/\x1<=1048576)/\(-1048576<=y0/\y0<=y1/\y1<=1048576):=by
 unfold gO ptB;simp only[Bool.and_eq_true,decide_eq_true_eq,aH];omega
def spl (a:Int):Int:=0-(0-a)/64-1
def sph (b:Int):Int:=b/64
def co (a b:Int):Nat:=(sph b-spl a+1).toNat
theorem gridR_s {p:Int->Int->Bool}{x0 y0:Int}{w n:Nat}:cI p x0 w y0 (n+1)=cI p x0 w y0 n++rowR p x0 (y0+n) w:=rfl
theorem gridR_0 {p:Int->Int->Bool}{x0 y0:Int}{w:Nat}:cI p x0 w y0 0=[]:=rfl
theorem rowR_0 {p:Int->Int->Bool}{x0 y:Int}:rowR p x0 y 0=[]:=rfl
def fD {α:Type}(p:α->Bool) (l:List α):Int:=if l.any p=true then ((l.findIdx p:Nat):Int) else -1
theorem iU {α:Type}{p:α->Bool}{l:List α}{i:Nat}(hi:i<l.length)(h0:(l.take i).any p=false)(h1:p l[i]=true):fD p l=(i:Int):=by
 have ha:l.any p=true:=List.any_eq_true.2 ⟨l[i],List.getElem_mem hi,h1⟩
 have hf:l.findIdx p=i:=(List.findIdx_eq hi).2 ⟨h1,fun j hj=>by
  have:=List.any_eq_false.1 h0 l[j] (by rw[List.mem_take_iff_getElem];exact⟨j,by omega,rfl⟩)
  simpa using this⟩
 unfold fD;rw[if_pos ha,hf]
theorem fE {α:Type}{p:α->Bool}{l:List α}(h:l.any p=false):fD p l = -1:=by
 unfold fD;rw[if_neg (by simp[h])]
theorem kw {α:Type}{p:α->Bool}{l:List α}:decide (0<=fD p l)=l.any p:=by
 cases h:l.any p
 ·rw[fE h];rfl
 unfold fD;rw[if_pos h];exact decide_eq_true (by omega)
theorem r7 {α:Type}(p:α->Bool)(l:List α):(fD p l = -1/\l.any p=false)\/∃i:Nat,∃hi:i<l.length,fD p l=(i:Int)/\(l.take i).any p=false/\p l[i]=true:=by
 cases h:l.any p
 ·exact .inl ⟨fE h,rfl⟩
 right
 have hl:l.findIdx p<l.length:=List.findIdx_lt_length_of_exists (by simpa using h)
 have h1:p l[l.findIdx p]=true:=List.findIdx_getElem
 have h0:(l.take (l.findIdx p)).any p=false:=List.any_eq_false.2 fun x hx=>by
  obtain⟨j,hj,rfl⟩:=List.mem_take_iff_getElem.1 hx
  have:=List.not_of_lt_findIdx (p:=p) (xs:=l) (i:=j) (by omega)
  simpa using this
 exact⟨_,hl,iU hl h0 h1,h0,h1⟩
theorem ct {l:List (Int×Int)}{j:Nat}(h:j<l.length):(g1 l j,g2 l j)=l[j]:=by
 simp[g1,g2,h,List.getD_eq_getElem?_getD]
theorem fq {l:List Int}{j:Nat}(h:j<l.length):(gi l j)=l[j]:=by
 simp[gi,h,List.getD_eq_getElem?_getD]
theorem je {α:Type}{l:List α}{p:α->Bool}{i:Nat}(h:i<l.length):(l.take (i+1)).any p=((l.take i).any p||p l[i]):=by
 rw[List.take_succ_eq_append_getElem h,List.any_append];simp
theorem gP {n m:Nat}{sel:List Nat}{caps:List AV}(h:AV.bels n caps=true):AV.mvs (sig n m sel) caps=caps:=jG (fun b hb=>ij hb) caps h
set_option maxRecDepth 100000 in
theorem idx_cell (H:aa)(s:AV)(l:List (Int×Int))(hs:SlP H s l)(hl:l.length<=1000000000)(g:FuncId)(caps:List AV)(hok:dk prog g=true)(hc:AV.bels H.length caps=true)(p:(Int×Int)->Bool)(hf:∀j,j<l.length->ACalls prog g (.agg [.int .i64 (g1 l j),.int .i64 (g2 l j)]::caps) H (fun v H'=>v=.bool (p (g1 l j,g2 l j))/\H'=H)):
  ACalls prog 112 [s,.fn g caps] H (fun v H'=>v=.int .i64 (fD p l)/\H'=H):=by
 obtain⟨b,own,cap,rfl,hb⟩:=hs
 have hbl:=getElem?_lt hb
 have hmv:=fun m sel=>gP (n:=H.length) (m:=m) (sel:=sel) hc
 (refine cB try_mixed func112 true _ rfl (Nat.le_of_ble_eq_true (by kernel_rfl)) (by kernel_rfl) ?_;intro hbel Q hQ hQ' c hc;unfold Tryz.f112 at hc;simp only[Option.some.injEq] at hc;subst hc;clear hQ')
 simp -implicitDefEqProofs (disch:=omega) only [simprocAttr,aJ,aK,Function.comp_apply,one1,lenV,aj,av,aA,aop,AV.ofValue,AV.ofCell,AV.cells,AV.flat,AV.one,arep,aU,ap,aG]
 refine glp (fun k F Hx=>∃i:Nat,i+k=l.length/\(l.take i).any p=false/\F=[(0,.sl (some (b,0)) l.length none),(1,.fn g caps),(7,.int .i64 l.length),(8,.int .i64 (i:Nat))]/\Hx=H) l.length ?_ ?_
 ·refine⟨_,_,_,⟨0,by omega,rfl,rfl,rfl⟩,Abs.by0 hbel ?_⟩
  exact aN @hmv
 rintro k F Hx ⟨i,hik,ht,rfl,rfl⟩ J hJ
 by_cases hi:i<l.length
 ·have hii:(i:Int)<(l.length:Int):=by omega
  have q1:=cL hi
  have hg:=ct hi
  simp -implicitDefEqProofs (disch:=omega) only [hii,hb,q1,bm,cJ,simprocAttr,aJ,aK,Function.comp_apply,one1,lenV,aj,av,aA,aop,AV.ofValue,AV.ofCell,AV.cells,AV.flat,AV.one,arep,aU,ap,aG]
  iterate 2 refine And.intro (by omega) ?_
  refine dQ hok (hf i hi) ?_
  have hst:=je (p:=p) hi
  rw[ht,Bool.false_or,<-hg] at hst
  cases h1:p (g1 l i,g2 l i)
  ·rw[h1] at hst
   simp -implicitDefEqProofs (disch:=omega) only [h1,simprocAttr,aJ,aK,Function.comp_apply,one1,lenV,aj,av,aA,aop,AV.ofValue,AV.ofCell,AV.cells,AV.flat,AV.one,arep,aU,ap,aG]
   refine hJ _ _ ⟨k-1,by omega,_,_,_,⟨i+1,by omega,hst,rfl,rfl⟩,Abs.by0 hbel ?_⟩
   exact aN @hmv
  simp -implicitDefEqProofs (disch:=omega) only [h1,simprocAttr,aJ,aK,Function.comp_apply,one1,lenV,aj,av,aA,aop,AV.ofValue,AV.ofCell,AV.cells,AV.flat,AV.one,arep,aU,ap,aG]
  exact eQ hQ hbel (.int .i64 (i:Nat)) results112 ⟨by rw[iU hi ht (by rw[<-hg];exact h1)],rfl⟩
 have hnn:¬((i:Int)<(l.length:Int)):=by omega
 simp -implicitDefEqProofs (disch:=omega) only [hnn,simprocAttr,aJ,aK,Function.comp_apply,one1,lenV,aj,av,aA,aop,AV.ofValue,AV.ofCell,AV.cells,AV.flat,AV.one,arep,aU,ap,aG]
 rw[List.take_of_length_le (by omega)] at ht
 exact eQ hQ hbel (.int .i64 (-1)) results112 ⟨by rw[fE ht],rfl⟩
theorem qJ {l:List (Int×Int)}{j:Nat}{a b:Int}(h:j<l.length):((prs l).set (j*2) (.int .i64 a)).set (j*2+1) (.int .i64 b)=prs (l.set j (a,b)):=by
 induction l generalizing j with
 |nil=>simp at h
 | cons p l ih =>
  cases j with
  |zero=>simp[cT]
  | succ j =>
   have e1:(j+1)*2=(j*2).succ.succ:=by omega
   have e2:(j+1)*2+1=(j*2+1).succ.succ:=by omega
   rw[cT,e2,e1]
   show _::_::((prs l).set (j*2) (.int .i64 a)).set (j*2+1) (.int .i64 b)=_
   rw[ih (by simpa using h)]
   rfl
theorem prs_rep {m:Nat}:prs (List.replicate m (0,0))=(List.range (m*2)).map fun j=>([.int .i64 0,.int .i64 0]:List AV).getD (j%2) .any:=by
 induction m with
 |zero=>rfl
 | succ m ih =>
  have e:List.replicate (m+1) ((0:Int),(0:Int))=List.replicate m (0,0)++[(0,0)]:=by rw[List.replicate_succ']
  rw[e,eM,ih,Nat.succ_mul,List.range_succ,List.range_succ,List.map_append,List.map_append]
  have e1:m*2%2=0:=by omega
  have e2:(m*2+1)%2=1:=by omega
  simp[cT,jJ,e1,e2]
theorem jD:∀(ys xs:List AV) (o:Nat),o+ys.length=xs.length->splice xs o ys=xs.take o++ys
 | [],xs,o,h=>by
  rw[splice,List.append_nil,List.take_of_length_le]
  simp at h;omega
 | y::ys,xs,o,h=>by
  rw[splice,jD ys _ _ (by simp at h ⊢;omega)]
  simp only[List.length_cons] at h
  have ho:o<xs.length:=by omega
  rw[List.take_succ_eq_append_getElem (by simpa using ho),List.getElem_set_self,List.take_set_of_le (Nat.le_refl _)]
  simp
theorem nC {l ys:List (Int×Int)}{i:Nat}(h:i+ys.length=l.length):splice (prs l) (i*2) (prs ys)=prs (l.take i++ys):=by
 rw[jD _ _ _ (by rw[bm,bm];omega),qi,eM]
theorem jv {k:IntKind}{l:List Int}{j:Nat}{a:Int}:(ints k l).set j (.int k a)=ints k (l.set j a):=mE
theorem ei {n:Nat}:∀{l:List (Int×Int)},AV.bels n (prs l)=true
 |[]=>rfl
 |p::l=>by rw[cT];simp only[AV.bels,AV.bel,Bool.true_and];exact ei
theorem HBel.put {n:Nat}{H:aa}(h:HBel n H)(b:Nat){x:ABlk}(hx:x.bel n=true):HBel n (H.set b x):=fun c y hy=>by
 rw[List.getElem?_set] at hy
 split at hy
 ·split at hy
  ·simp at hy;subst hy;exact hx
  cases hy
 exact h c y hy
theorem Abs.byS0 {H0:aa}{F1 F2:Fr}{n:Nat}(hn:H0.length=n)(hsc:HBel n H0)(h:fj n (sig n 0 []) F1 F2):Abs n (sig n 0 []) F1 H0 F2 H0:=by
 subst hn;exact Abs.by0 hsc h
theorem Abs.byS1 {H0 l1:aa}{F1 F2:Fr}{n:Nat}(hn:H0.length=n)(hsc:HBel n H0)(h:fj (n+l1.length) (sig n l1.length []) F1 F2):Abs n (sig n l1.length []) F1 (H0++l1) F2 H0:=by
 subst hn;exact Abs.byN hsc h
theorem Abs.by0e {H0 H2:aa}{F1 F2:Fr}(e:H2=H0)(hsc:HBel H0.length H0)(h:fj H0.length (sig H0.length 0 []) F1 F2):Abs H0.length (sig H0.length 0 []) F1 H0 F2 H2:=by
 subst e;exact Abs.by0 hsc h
theorem end_byS {P:Program}{fn:Func}{H0:aa}{R:AV->aa->Prop}{F:Fr}{e:Exit}{n:Nat}(hn:H0.length=n)(he:e=.ret\/e=.normal)(hbel:HBel n H0){x1:AV}(x2:AV)(hx:cW P fn F H0=some x1)(hR:R x2 H0)(h:W n x1 (x2.mv (sig n 0 []))):AEnd P fn n R e F H0:=by
 subst hn
 exact lN (l2:=[]) he hbel x2 hx [] rfl [] (by simp) (by rw[List.append_nil];exact hR) ⟨h,trivial⟩
def bV {α:Type}(p:α->Bool) (l:List α):List α:=l.filter fun e=>!p e
theorem lw {α:Type}{p:α->Bool}{l:List α}(h:l.any p=false):bV p l=l:=by
 unfold bV
 rw[List.filter_eq_self]
 intro a ha
 have:=List.any_eq_false.1 h a ha
 simpa using this
theorem pH {α:Type}{p:α->Bool}{l:List α}{j:Nat}(h:j<l.length):bV p (l.take (j+1))=bV p (l.take j)++(if p l[j]=true then [] else [l[j]]):=by
 unfold bV
 rw[List.take_succ_eq_append_getElem h,List.filter_append]
 congr 1
 cases hp:p l[j]<;>simp[hp]
theorem delL_le {α:Type}{p:α->Bool}{l:List α}:(bV p l).length<=l.length:=List.length_filter_le _ _
def ej (n:Nat) (l:List (Int×Int)):List (Int×Int):=l++List.replicate (n-l.length) (0,0)
theorem jf {n:Nat}{l:List (Int×Int)}:prs (ej n l)=prs l++prs (List.replicate (n-l.length) (0,0)):=eM
set_option maxRecDepth 100000 in
theorem del_cell (H:aa) (b:Nat) (cap:Option Nat) (l:List (Int×Int)) (hb:H[b]? = some (.cells (aL l.length) 2 (prs l))) (hl:l.length<=1000000000) (g:FuncId) (caps:List AV) (hok:dk prog g=true) (hc:AV.bels H.length caps=true) (p:(Int×Int)->Bool)
  (hf:∀(X:List (Int×Int)) (e:Int×Int) (L:aa),e∈l->ACalls prog g (.agg [.int .i64 e.1,.int .i64 e.2]::caps) (H.set b (.cells (aL l.length) 2 (prs X))++L) (fun v H'=>v=.bool (p e)/\H'=H.set b (.cells (aL l.length) 2 (prs X))++L)) :
  ACalls prog 71 [.sl (some (b,0)) l.length cap,.fn g caps] H (fun v H'=>v=.sl (some (b,0)) (bV p l).length none/\H'=H.set b (.cells (aL l.length) 2 (prs (ej l.length (bV p l))))):=by
 have hbl:=getElem?_lt hb
 have hset:∀X L,(H.set b X++L)[b]? = some X:=fun X L=>by rw[List.getElem?_append_left (by simpa using hbl),List.getElem?_set_self hbl]
 have hset0:∀X,(H.set b X)[b]? = some X:=fun X=>List.getElem?_set_self hbl
 have hself:H.set b (.cells (aL l.length) 2 (prs l))=H:=by
  refine List.ext_getElem? fun i=>?_
  rw[List.getElem?_set]
  split
  ·rename_i e;subst e;first|exact hb.symm|(rw[if_pos hbl];exact hb.symm)
  rfl
 have hmv:=fun m sel=>gP (n:=H.length) (m:=m) (sel:=sel) hc
 have key:=idx_cell H (.sl (some (b,0)) l.length cap) l ⟨b,_,cap,rfl,hb⟩ hl g caps hok hc p (fun j hj=>by
  have:=hf l (g1 l j,g2 l j) [] (by rw[ct hj];exact List.getElem_mem hj)
  rw[List.append_nil,hself] at this
  exact this)
 (refine cB try_mixed func71 true _ rfl (Nat.le_of_ble_eq_true (by kernel_rfl)) (by kernel_rfl) ?_;intro hbel Q hQ hQ' c hc;unfold Tryz.f71 at hc;simp only[Option.some.injEq] at hc;subst hc;clear hQ')
 simp -implicitDefEqProofs (disch:=omega) only [simprocAttr,aJ,aK,Function.comp_apply,one1,lenV,aj,av,aA,aop,AV.ofValue,AV.ofCell,AV.cells,AV.flat,AV.one,arep,aU,ap,aG]
 refine dQ (by kernel_rfl) key ?_
 rcases r7 p l with ⟨h1,h2⟩|⟨i,hi,h1,h2,h3⟩
 ·rw[h1]
  simp -implicitDefEqProofs (disch:=omega) only [simprocAttr,aJ,aK,Function.comp_apply,one1,lenV,aj,av,aA,aop,AV.ofValue,AV.ofCell,AV.cells,AV.flat,AV.one,arep,aU,ap,aG]
  have e:H.set b (.cells (aL l.length) 2 (prs (ej l.length (bV p l))))=H:=by rw[lw h2];simp[ej,hself]
  exact hQ _ _ (lN (.inl rfl) hbel (x1:=.sl (some (b,0)) l.length cap) (l2:=[]) (.sl (some (b,0)) (bV p l).length none) (aZ results71) [] rfl [] (by decide) ⟨rfl,by rw[List.append_nil,e]⟩ (by rw[lw h2];exact aD))
 rw[h1]
 have hne:((i:Int) == -1)=false:=beq_eq_false_iff_ne.2 (by omega)
 have hown:aL l.length=true:=ex (by omega)
 rw[hown] at hb hf hself
 simp -implicitDefEqProofs (disch:=omega) only [hne,simprocAttr,aJ,aK,Function.comp_apply,one1,lenV,aj,av,aA,aop,AV.ofValue,AV.ofCell,AV.cells,AV.flat,AV.one,arep,aU,ap,aG]
 have hd0:bV p (l.take (i+1))=l.take i:=by rw[pH hi,if_pos h3,List.append_nil,lw h2]
 have hdi:(bV p (l.take (i+1))).length=i:=by rw[hd0,List.length_take];omega
 refine glp (fun k F Hx=>∃(j:Nat) (X:List (Int×Int)),j+k=l.length/\(bV p (l.take j)).length<j/\X.length=l.length/\X.take (bV p (l.take j)).length=bV p (l.take j)/\X.drop j=l.drop j/\F=[(0,.sl (some (b,0)) l.length cap),(1,.fn g caps),(5,.int .i64 (((bV p (l.take j)).length:Nat):Int)),(6,.int .i64 (j:Int))]/\Hx=H.set b (.cells true 2 (prs X))) (l.length-(i+1)) ?_ ?_
 ·refine⟨_,_,_,⟨i+1,l,by omega,by rw[hdi];omega,rfl,by rw[hd0,List.length_take,Nat.min_eq_left (by omega)],rfl,rfl,rfl⟩,Abs.by0e hself hbel ?_⟩
  exact aN (jn @hdi @hmv)
 rintro k F Hx ⟨j,X,hjk,hij,hXl,hXt,hXd,rfl,rfl⟩ J hJ
 obtain⟨G,hG⟩:∃G,G=H.set b (.cells true 2 (prs X)):=⟨_,rfl⟩
 have hGl:G.length=H.length:=by rw[hG,List.length_set]
 have hG1:∀L,(G++L)[b]? = some (.cells true 2 (prs X)):=fun L=>by rw[hG];exact hset _ _
 have hG0:G[b]? = some (.cells true 2 (prs X)):=by rw[hG];exact hset0 _
 have hbG:b<G.length:=by omega
 have hGs:∀Y L,(G++L).set b Y=H.set b Y++L:=fun Y L=>by rw[List.set_append_left _ _ hbG,hG,List.set_set]
 have hcall:=fun e L=>hf X e L
 rw[<-hG] at hcall ⊢
 have hbelG:HBel H.length G:=by rw[hG];exact HBel.put hbel b ei
 obtain⟨n,hn⟩:∃n,n=(bV p (l.take j)).length:=⟨_,rfl⟩
 have hnj:n<j:=by rw[hn];exact hij
 rw[<-hn] at hXt ⊢
 by_cases hj:j<l.length
 ·have hjj:(j:Int)<(l.length:Int):=by omega
  have hXj:X[j]'(by omega)=l[j]:=by
   have:=congrArg (fun m=>m[0]?) hXd
   simpa [hj,hXl] using this
  have q1:=cL (l:=X) (j:=j) (by omega)
  have hg:=ct (l:=X) (j:=j) (by omega)
  simp -implicitDefEqProofs (disch:=omega) only [hjj,hG1,hG0,q1,bm,cJ,simprocAttr,aJ,aK,Function.comp_apply,one1,lenV,aj,av,aA,aop,AV.ofValue,AV.ofCell,AV.cells,AV.flat,AV.one,arep,aU,ap,aG]
  iterate 2 refine And.intro (by omega) ?_
  refine dQ hok (hcall (g1 X j,g2 X j) _ (by rw[hg,hXj];exact List.getElem_mem hj)) ?_
  have hst:=pH (p:=p) hj
  rw[<-hXj,<-hg] at hst
  cases h5:p (g1 X j,g2 X j)
  ·rw[h5,if_neg Bool.false_ne_true] at hst
   have hl5:(bV p (l.take (j+1))).length=n+1:=by rw[hst,List.length_append,hn];rfl
   have hnX:n<X.length:=by omega
   have hp2:=qJ (a:=g1 X j) (b:=g2 X j) hnX
   simp -implicitDefEqProofs (disch:=omega) only [h5,hG1,hG0,hGs,hp2,bm,cJ,simprocAttr,aJ,aK,Function.comp_apply,one1,lenV,aj,av,aA,aop,AV.ofValue,AV.ofCell,AV.cells,AV.flat,AV.one,arep,aU,ap,aG]
   iterate 2 refine And.intro (by omega) ?_
   refine hJ _ _ ⟨k-1,by omega,_,_,_,⟨j+1,X.set n (g1 X j,g2 X j),by omega,by rw[hl5];omega,by rw[List.length_set];exact hXl,?_,?_,rfl,rfl⟩,Abs.byS1 (by rw[List.length_set]) (HBel.put hbel b ei) ?_⟩
   ·rw[hl5,hst,List.take_succ_eq_append_getElem (by rw[List.length_set];exact hnX),List.getElem_set_self,List.take_set_of_le (Nat.le_refl _),hXt]
   ·rw[List.drop_set_of_lt (by omega),<-List.drop_drop,hXd,List.drop_drop]
   exact aN (jn @hl5 (jn @hmv (jn @Int.natCast_add @Int.natCast_one)))
  rw[h5,if_pos rfl,List.append_nil] at hst
  have hl5:(bV p (l.take (j+1))).length=n:=by rw[hst,hn]
  simp -implicitDefEqProofs (disch:=omega) only [h5,simprocAttr,aJ,aK,Function.comp_apply,one1,lenV,aj,av,aA,aop,AV.ofValue,AV.ofCell,AV.cells,AV.flat,AV.one,arep,aU,ap,aG]
  refine hJ _ _ ⟨k-1,by omega,_,_,_,⟨j+1,X,by omega,by rw[hl5];omega,hXl,by rw[hst,<-hn];exact hXt,by rw[<-List.drop_drop,hXd,List.drop_drop],rfl,hG⟩,Abs.byS1 hGl hbelG ?_⟩
  exact aN (jn @hl5 @hmv)
 have hjj:¬((j:Int)<(l.length:Int)):=by omega
 have hrep:=(prs_rep (m:=l.length-n)).symm
 have hne0:(l.length-n==0)=false:=beq_eq_false_iff_ne.2 (by omega)
 have hspl:=nC (l:=X) (ys:=List.replicate (l.length-n) (0,0)) (i:=n) (by rw[List.length_replicate];omega)
 have hGs0:∀Y,G.set b Y=H.set b Y:=fun Y=>by rw[hG,List.set_set]
 rw[hXt] at hspl
 simp -implicitDefEqProofs (disch:=omega) only [hjj,hG1,hG0,hrep,hne0,hspl,hGs0,bm,cJ,List.length_replicate,hset0,simprocAttr,aJ,aK,Function.comp_apply,one1,lenV,aj,av,aA,aop,AV.ofValue,AV.ofCell,AV.cells,AV.flat,AV.one,arep,aU,ap,aG]
 refine⟨by omega,⟨by omega,.inl (Nat.le_refl _)⟩,by omega,by omega,⟨by omega,.inl (by omega)⟩,?_⟩
 obtain rfl:j=l.length:=by omega
 rw[List.take_length] at hn ⊢
 refine hQ _ _ (end_byS (by rw[List.length_set]) (.inl rfl) (HBel.put hbel b ei) (x1:=.sl (some (b,0)) (n-0) (Option.map (fun x=>x-0) cap)) (.sl (some (b,0)) (bV p l).length none) (aZ results71) ⟨rfl,by rw[hown,hn];rfl⟩ ?_)
 exact aN (jn @hn @Nat.sub_zero)
def b9 (f c:Int):Bool:=decide (0<=f)&&(decide (f<256)&&(decide (1<=c)&&(decide (c<=256)&&(decide (f=0)||decide (c<256)))))
theorem bo {f c:Int}:b9 f c=true↔(0<=f/\f<256)/\(1<=c/\c<=256)/\(f=0\/c<256):=by
 unfold b9
 simp only[Bool.and_eq_true,Bool.or_eq_true,decide_eq_true_eq]
 omega
def arcF (f c:Int):Int:=if 256<=c then 0 else f%256
def cn (c:Int):Int:=if 256<=c then 256 else c
theorem jP {f c:Int}(h:1<=c):b9 (arcF f c) (cn c)=true:=by
 rw[bo];unfold arcF cn;split<;>omega
def aX (f:Int) (n:Nat):List Int:=(List.range n).map fun (i:Nat)=>(f+(i:Int))%256
theorem eV (f:Int)(n:Nat):(aX f n).length=n:=by simp[aX]
theorem mrkL_succ (f:Int)(n:Nat):aX f (n+1)=aX f n++[(f+(n:Int))%256]:=by
 unfold aX;rw[List.range_succ,List.map_append];rfl
theorem mrkL_bd {f:Int}{n:Nat}:∀e∈aX f n,0<=e/\e<=255:=fun e he=>by
 unfold aX at he
 obtain⟨i,-,rfl⟩:=List.mem_map.1 he
 omega
def delI (a b:Int):Int:=if 128<=(b-a)%256 then (b-a)%256-256 else (b-a)%256
def bY (s f c:Int):Int:=(f-s)%256+c
def dJ (f c m:Int):Prop:=(m-f)%256<c
instance (f c m:Int):Decidable (dJ f c m):=by unfold dJ;exact inferInstance
def eW (s n bf bn:Int):Int×Int:=if n<bn\/(n=bn/\n<256/\s<bf) then (s,n) else (bf,bn)
def cQ (f c f' c':Int):Int×Int :=
 let p:=eW f (max (bY f f c) (bY f f' c')) 0 256
 eW f' (max (bY f' f c) (bY f' f' c')) p.1 p.2
def dW (x:Int->Bool) (s:Int):Nat->Int
 |0=>0
 |n+1=>if x ((s+(n:Int))%256)=true then (n:Int)+1 else dW x s n
def ew (x:Int->Bool):Nat->Int×Int
 |0=>(0,256)
 | n+1 =>
  let p:=ew x n
  let s:Int:=255-(n:Int)
  let m:=dW x s 256
  if m<256/\m<=p.2 then (s,m) else p
theorem qK (x:Int->Bool)(s:Int):∀n:Nat,0<=dW x s n/\dW x s n<=n
 |0=>by simp[dW]
 | n+1=>by
  have:=qK x s n
  rw[dW];split<;>omega
theorem mM {x:Int->Bool}{s:Int}{m:Nat}(hm:x ((s+(m:Int))%256)=true):∀n:Nat,m<n->(∀i:Nat,m<i->i<n->x ((s+i)%256)=false)->dW x s n=m+1
 |0,h,_=>by omega
 | n+1,h,k=>by
  rw[dW]
  rcases Nat.lt_or_ge m n with h1|h1
  ·rw[k n h1 (by omega)]
   exact mM hm n h1 fun i a b=>k i a (by omega)
  obtain rfl:n=m:=by omega
  rw[hm];rfl
def gQ (f c f' c' m:Int):Bool:=decide ((m-f)%256<c)||decide ((m-f')%256<c')
theorem ot {f c f' c' m:Int}:gQ f c f' c' m=true↔(m-f)%256<c\/(m-f')%256<c':=by unfold gQ;simp
theorem uni_not {f c f' c' m:Int}:gQ f c f' c' m=false↔c<=(m-f)%256/\c'<=(m-f')%256:=by
 unfold gQ;simp
theorem need_uni {f c f' c':Int}(h:b9 f c=true)(h':b9 f' c'=true){s:Int}(hs:0<=s/\s<=255):dW (gQ f c f' c') s 256=min 256 (max (bY s f c) (bY s f' c')):=by
 rw[bo] at h h'
 obtain⟨M,hM⟩:∃M:Int,M=max (bY s f c) (bY s f' c'):=⟨_,rfl⟩
 rw[<-hM]
 unfold bY at hM
 rcases (by omega:M<=256\/256<M) with hle|hgt
 ·have hpos:1<=M:=by omega
  have e:=mM (x:=gQ f c f' c') (s:=s) (m:=(M-1).toNat) (by rw[ot];omega) 256 (by omega) fun i a b=>by rw[uni_not];omega
  rw[e];omega
 have e:=mM (x:=gQ f c f' c') (s:=s) (m:=255) (by rw[ot];omega) 256 (by omega) fun i a b=>by omega
 rw[e];omega
theorem lx {x:Int->Bool}:∀n:Nat,n<=256->((ew x n=(0,256)/\∀s:Int,256-(n:Int)<=s->s<=255->dW x s 256=256) \/
  ((ew x n).2<256/\(256-(n:Int)<=(ew x n).1/\(ew x n).1<=255)/\dW x (ew x n).1 256=(ew x n).2/\∀s:Int,256-(n:Int)<=s->s<=255->(ew x n).2<=dW x s 256/\(dW x s 256=(ew x n).2->(ew x n).1<=s)))
 |0,_=>.inl ⟨rfl,fun s a b=>by omega⟩
 | n+1,hn=>by
  have ih:=lx (x:=x) n (by omega)
  have hb:=qK x (255-(n:Int)) 256
  have eb:ew x (n+1)=if dW x (255-(n:Int)) 256<256/\dW x (255-(n:Int)) 256<=(ew x n).2 then (255-(n:Int),dW x (255-(n:Int)) 256) else ew x n:=rfl
  rw[eb]
  split
  ·rename_i hc
   right
   try dsimp only
   refine⟨hc.1,by omega,rfl,fun s a b=>?_⟩
   rcases (by omega:s=255-(n:Int)\/256-(n:Int)<=s) with rfl|h2
   ·exact⟨Int.le_refl _,fun _=>Int.le_refl _⟩
   rcases ih with ⟨e,ih⟩|⟨e1,e2,e3,ih⟩
   ·have:=ih s h2 b;rw[this];omega
   have:=ih s h2 b;omega
  rename_i hc
  rcases ih with ⟨e,ih⟩|⟨e1,e2,e3,ih⟩
  ·left
   refine⟨e,fun s a b=>?_⟩
   rcases (by omega:s=255-(n:Int)\/256-(n:Int)<=s) with rfl|h2
   ·rw[e] at hc;simp only at hc;omega
   exact ih s h2 b
  right
  refine⟨e1,by omega,e3,fun s a b=>?_⟩
  rcases (by omega:s=255-(n:Int)\/256-(n:Int)<=s) with rfl|h2
  ·omega
  exact ih s h2 b
theorem hull_eq {f c f' c':Int}(h:b9 f c=true)(h':b9 f' c'=true):ew (gQ f c f' c') 256=cQ f c f' c':=by
 have hs:=lx (x:=gQ f c f' c') 256 (Nat.le_refl _)
 have hu:=fun s hs=>need_uni h h' (s:=s) hs
 rw[bo] at h h'
 have hf:=hu f (by omega)
 have hf':=hu f' (by omega)
 generalize ew (gQ f c f' c') 256=p at hs ⊢
 obtain⟨p1,p2⟩:=p
 unfold cQ
 simp only at hs ⊢
 obtain⟨n1,hn1⟩:∃n,n=max (bY f f c) (bY f f' c'):=⟨_,rfl⟩
 obtain⟨n2,hn2⟩:∃n,n=max (bY f' f c) (bY f' f' c'):=⟨_,rfl⟩
 rw[<-hn1,<-hn2]
 rw[<-hn1] at hf
 rw[<-hn2] at hf'
 rcases hs with ⟨e,k⟩|⟨e1,e2,e3,k⟩
 ·rw[Prod.mk.injEq] at e
  have k1:=k f (by omega) (by omega)
  have k2:=k f' (by omega) (by omega)
  have q1:eW f n1 0 256=(0,256):=if_neg (by omega)
  rw[q1]
  have q2:eW f' n2 0 256=(0,256):=if_neg (by omega)
  dsimp only
  rw[q2]
  exact Prod.ext e.1 e.2
 have k1:=k f (by omega) (by omega)
 have k2:=k f' (by omega) (by omega)
 have k3:=hu p1 (by omega)
 have hp:p1=f\/p1=f':=by
  by_cases hne:p1=f\/p1=f'
  ·exact hne
  exfalso
  unfold bY at k3 hn1 hn2
  obtain⟨d1,hd1⟩:∃d,d=(f-p1)%256:=⟨_,rfl⟩
  obtain⟨d2,hd2⟩:∃d,d=(f'-p1)%256:=⟨_,rfl⟩
  rw[<-hd1,<-hd2] at k3
  have b1:1<=d1/\d1<=255:=by omega
  have b2:1<=d2/\d2<=255:=by omega
  have a1:(f-f)%256=0:=by omega
  have a2:(f'-f')%256=0:=by omega
  rw[a1] at hn1
  rw[a2] at hn2
  rcases (by omega:d1<=d2\/d2<=d1) with hd|hd
  ·have a3:(f'-f)%256=d2-d1:=by omega
   rw[a3] at hn1
   clear hn2 hd1 hd2 a1 a2 a3 hf' k2 e2 hu
   omega
  have a3:(f-f')%256=d1-d2:=by omega
  rw[a3] at hn2
  clear hn1 hd1 hd2 a1 a2 a3 hf k1 e2 hu
  omega
 rcases hp with rfl|rfl
 ·have q1:eW p1 n1 0 256=(p1,n1):=if_pos (by omega)
  rw[q1]
  dsimp only
  have q2:eW f' n2 p1 n1=(p1,n1):=if_neg (by omega)
  rw[q2]
  exact Prod.ext rfl (by simp only;omega)
 by_cases hq:n1<256
 ·have q1:eW f n1 0 256=(f,n1):=if_pos (by omega)
  rw[q1]
  dsimp only
  unfold eW
  split
  ·exact Prod.ext rfl (by simp only;omega)
  exact Prod.ext (by simp only;omega) (by simp only;omega)
 have q1:eW f n1 0 256=(0,256):=if_neg (by omega)
 rw[q1]
 dsimp only
 have q2:eW p1 n2 0 256=(p1,n2):=if_pos (by omega)
 rw[q2]
 exact Prod.ext rfl (by simp only;omega)
def gR (n:Int):Bool:=decide (n < -1048576)||decide (1048576<n)
def bxB (x0 y0 x1 y1 f c:Int):Bool:=decide (x0<=x1)&&(decide (y0<=y1)&&((!([x0,y0,x1,y1].any gR))&&b9 f c))
theorem bB {x0 y0 x1 y1 f c:Int}:bxB x0 y0 x1 y1 f c=true↔(-1048576<=x0/\x0<=x1/\x1<=1048576)/\(-1048576<=y0/\y0<=y1/\y1<=1048576)/\b9 f c=true:=by
 unfold bxB gR
 simp only[Bool.and_eq_true,decide_eq_true_eq,List.any_cons,List.any_nil,Bool.or_false,Bool.not_eq_true',Bool.or_eq_false_iff,decide_eq_false_iff_not]
 constructor
 ·rintro⟨a,b,c,d⟩;exact⟨by omega,by omega,d⟩
 rintro⟨a,b,d⟩;exact⟨by omega,by omega,by omega,d⟩
def arcR (f c:Int):Bool:=decide (0<=f)&&(decide (f<256)&&(decide (1<=c)&&(decide (c<=256)&&(decide (c<256)||f==0))))
theorem iW (f c:Int):arcR f c=b9 f c:=by
 rw[Bool.eq_iff_iff,bo];unfold arcR;simp only[Bool.and_eq_true,Bool.or_eq_true,decide_eq_true_eq,beq_iff_eq];omega
def bxR (x0 y0 x1 y1 f c:Int):Bool:=decide (-1048576<=x0)&&(decide (x0<=x1)&&(decide (x1<=1048576)&&(decide (-1048576<=y0)&&(decide (y0<=y1)&&(decide (y1<=1048576)&&b9 f c)))))
theorem jg (x0 y0 x1 y1 f c:Int):bxR x0 y0 x1 y1 f c=bxB x0 y0 x1 y1 f c:=by
 rw[Bool.eq_iff_iff,bB];unfold bxR;simp only[Bool.and_eq_true,decide_eq_true_eq]
 constructor
 ·rintro⟨a,b,c,d,e,f,g⟩;exact⟨by omega,by omega,g⟩
 rintro⟨a,b,g⟩;exact⟨by omega,by omega,by omega,by omega,by omega,by omega,g⟩
def bj (b:T6):Bool:=bxB b.1 b.2.1 b.2.2.1 b.2.2.2.1 b.2.2.2.2.1 b.2.2.2.2.2
def bM (l:List T6):Bool:=decide ((l.length:Int)<=16)&&!(l.any fun b=>!bj b)
theorem bF {l:List T6}:bM l=true↔l.length<=16/\∀b∈l,bj b=true:=by
 unfold bM
 rw[Bool.and_eq_true,decide_eq_true_eq,Bool.not_eq_true',List.any_eq_false]
 constructor
 ·rintro⟨a,b⟩;exact⟨by omega,fun x hx=>by have:=b x hx;simpa using this⟩
 rintro⟨a,b⟩;exact⟨by omega,fun x hx=>by simp[b x hx]⟩
def mnI (a b:Int):Int:=if b<a then b else a
def mxI (a b:Int):Int:=if a<b then b else a
def el (a b:T6):T6:=(mnI a.1 b.1,mnI a.2.1 b.2.1,mxI a.2.2.1 b.2.2.1,mxI a.2.2.2.1 b.2.2.2.1,(cQ a.2.2.2.2.1 a.2.2.2.2.2 b.2.2.2.2.1 b.2.2.2.2.2).1,(cQ a.2.2.2.2.1 a.2.2.2.2.2 b.2.2.2.2.1 b.2.2.2.2.2).2)
theorem qL {s n bf bn:Int}(hs:0<=s/\s<256)(hn:1<=n)(hb:b9 bf bn=true):b9 (eW s n bf bn).1 (eW s n bf bn).2=true:=by
 rw[bo] at hb ⊢
 unfold eW
 split<;>simp only<;>omega
theorem hullA_ok {f c f' c':Int}(h:b9 f c=true)(h':b9 f' c'=true):b9 (cQ f c f' c').1 (cQ f c f' c').2=true:=by
 have k:=bo.1 h
 have k':=bo.1 h'
 unfold cQ
 refine qL k'.1 (by unfold bY;omega) (qL k.1 (by unfold bY;omega) (by decide))
theorem hulB_ok {a b:T6}(ha:bj a=true)(hb:bj b=true):bj (el a b)=true:=by
 unfold bj at *
 rw[bB] at *
 unfold el mnI mxI
 simp only
 refine⟨by omega,by omega,hullA_ok ha.2.2 hb.2.2⟩
def hlS (f c f2 c2:Int):Nat->Int×Int
 |0=>(0,256)
 |1=>eW f (max (bY f f c) (bY f f2 c2)) 0 256
 |_+2=>cQ f c f2 c2
theorem hlS_2 (f c f2 c2:Int):hlS f c f2 c2 2=eW f2 (max (bY f2 f c) (bY f2 f2 c2)) (hlS f c f2 c2 1).1 (hlS f c f2 c2 1).2:=rfl
theorem max_i (a b:Int):(if a<b then b else a)=max a b:=by split<;>omega
theorem cD {l:List T6}{j:Nat}(h:j<l.length):g6 l j∈l:=by
 unfold g6;rw[List.getD_eq_getElem?_getD];simp[h]
def shF (bf bc t:Int):Int:=arcF (bf+(((t%256).toNat:Nat):Int)) bc
def grF (F C n:Int):Int:=arcF (F-n) (C+2*n)
def grC (C n:Int):Int:=cn (C+2*n)
def fT (bf bc t tu:Int):List Int:=aX (grF (shF bf bc t) (cn bc) tu) (grC (cn bc) tu).toNat
theorem sqz_nn (a:Int):0<=a*a:=by
 rcases Int.le_total 0 a with h|h
 ·exact Int.mul_nonneg h h
 have:=Int.mul_nonneg (show 0 <= -a by omega) (show 0 <= -a by omega)
 rwa [Int.neg_mul_neg] at this
def lnP (x y:Int):Bool:=bK x 2097152&&bK y 2097152
def lnR (x0 y0 x1 y1:Int):Bool:=decide (-2097152<=x0)&&(decide (x0<=x1)&&(decide (x1<=2097152)&&(decide (-2097152<=y0)&&(decide (y0<=y1)&&decide (y1<=2097152)))))
theorem cE {x y:Int}:lnP x y=true↔(-2097152<=x/\x<=2097152) /\ -2097152<=y/\y<=2097152:=by unfold lnP;rw[Bool.and_eq_true,aH,aH]
theorem bA {x0 y0 x1 y1:Int}:lnR x0 y0 x1 y1=true↔(-2097152<=x0/\x0<=x1/\x1<=2097152) /\ -2097152<=y0/\y0<=y1/\y1<=2097152:=by
 unfold lnR;simp only[Bool.and_eq_true,decide_eq_true_eq];omega
def af (n lo hi:Int):Int:=if lo<(if hi<n then hi else n) then (if hi<n then hi else n) else lo
set_option maxHeartbeats 800000
def cR (x y h:Int):Bool:=bK x 1048576&&(bK y 1048576&&(decide (0<=h)&&decide (h<256)))
theorem cK {x y h:Int}:cR x y h=true↔(ptB x y=true/\btw h 0 255=true):=by
 unfold cR ptB;simp only[Bool.and_eq_true,aH,aS,decide_eq_true_eq];omega
def f0 (eT eL eX eY:Int):Bool:=bK eT 64&&(bK eL 64&&(bK eX 64&&bK eY 64))
def nhI (ah t eT:Int):Int:=(((((ah+t)+eT)%256).toNat:Nat):Int)
def rwX (ax h f eL eX:Int):Int:=if f=0 then ax else ax+(cu h (mxI (f+eL) 0)+eX)
def rwY (ay h f eL eY:Int):Int:=if f=0 then ay else ay+(cw h (mxI (f+eL) 0)+eY)
def nxE (ax ay ah t f eT eL eX eY:Int):Int:=if (cR ax ay ah&&cH t f)=true then (if f0 eT eL eX eY=true then (if f=0 then 0 else if cR (rwX ax (nhI ah t eT) f eL eX) (rwY ay (nhI ah t eT) f eL eY) (nhI ah t eT)=true then 0 else 2) else 2) else 1
def nxX (ax ay ah t f eT eL eX eY:Int):Int:=if nxE ax ay ah t f eT eL eX eY=0 then rwX ax (nhI ah t eT) f eL eX else 0
def nxY (ax ay ah t f eT eL eX eY:Int):Int:=if nxE ax ay ah t f eT eL eX eY=0 then rwY ay (nhI ah t eT) f eL eY else 0
def nxH (ax ay ah t f eT eL eX eY:Int):Int:=if nxE ax ay ah t f eT eL eX eY=0 then nhI ah t eT else 0
theorem il {ax ay ah t f eT eL eX eY e:Int}(h:nxE ax ay ah t f eT eL eX eY=e)(he:¬e=0):nxX ax ay ah t f eT eL eX eY=0/\nxY ax ay ah t f eT eL eX eY=0/\nxH ax ay ah t f eT eL eX eY=0:=⟨if_neg (by rw[h];exact he),if_neg (by rw[h];exact he),if_neg (by rw[h];exact he)⟩
theorem nx_ok {ax ay ah t f eT eL eX eY:Int}(h:nxE ax ay ah t f eT eL eX eY=0):nxX ax ay ah t f eT eL eX eY=rwX ax (nhI ah t eT) f eL eX/\nxY ax ay ah t f eT eL eX eY=rwY ay (nhI ah t eT) f eL eY/\nxH ax ay ah t f eT eL eX eY=nhI ah t eT:=⟨if_pos h,if_pos h,if_pos h⟩
theorem nD {n k:Int}(hk:0<=k): -k<=af n (0-k) k/\af n (0-k) k<=k:=by
 unfold af;repeat' split
 all_goals omega
theorem nx_dist {ax ay ah t f eT eL eX eY:Int}(h:nxE ax ay ah t f eT eL eX eY=0):(-1024<=ax-nxX ax ay ah t f eT eL eX eY/\ax-nxX ax ay ah t f eT eL eX eY<=1024) /\ -1024<=ay-nxY ax ay ah t f eT eL eX eY/\ay-nxY ax ay ah t f eT eL eX eY<=1024:=by
 obtain⟨e1,e2,-⟩:=nx_ok h
 have hg:f0 eT eL eX eY=true/\cH t f=true:=by
  unfold nxE at h;split at h
  ·rename_i hc
   rw[Bool.and_eq_true] at hc
   split at h
   ·rename_i he;exact⟨he,hc.2⟩
   omega
  omega
 unfold f0 cH at hg
 simp only[Bool.and_eq_true,aH,aS] at hg
 rw[e1,e2]
 have hw:=jd (nhI ah t eT) (m:=mxI (f+eL) 0) (by unfold mxI;split<;>omega)
 have hm:mxI (f+eL) 0<=96:=by unfold mxI;split<;>omega
 unfold rwX rwY
 split<;>omega
theorem nx_pose {ax ay ah t f eT eL eX eY:Int}(h:nxE ax ay ah t f eT eL eX eY=0)(ha:cR ax ay ah=true):cR (nxX ax ay ah t f eT eL eX eY) (nxY ax ay ah t f eT eL eX eY) (nxH ax ay ah t f eT eL eX eY)=true:=by
 obtain⟨e1,e2,e3⟩:=nx_ok h
 rw[e1,e2,e3]
 unfold nxE at h
 split at h
 ·split at h
  ·split at h
   ·rename_i h0
    unfold rwX rwY;rw[if_pos h0,if_pos h0]
    have:=cK.1 ha
    exact cK.2 ⟨this.1,aS.2 (by unfold nhI;omega)⟩
   split at h
   ·assumption
   omega
  omega
 omega
end Go.Proofs.YtkkhdehdaaealaaGreat
