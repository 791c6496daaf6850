/- Texts. -/
import Derived.Deep.MidRow
import Derived.Test.YtphjagkehiklkaaGreatDoorUK04
set_option linter.unusedVariables false
set_option linter.unusedSimpArgs false
set_option maxRecDepth 100000
set_option maxHeartbeats 1000000
namespace Go.Proofs.YtphjagkehiklkaaGreatDoor
open Go.RowKit
def bj(w:World)(v:Value)(e:Ending)(w':World):Prop:=e= .returned v∧w=w'
def aR(p:Prop):Prop:=p
theorem aR.go{p:Prop}(h:aR p):p:=h
theorem jg{P:Program}(w:World)(b:Addr)(ty:TypeId)(cs:List Value)(d:TypeDesc)(f:∀j v,cs[j]? =some v→w.cell? (b.add j)=some v)
  (hu:P.underlying ty=some d)(k:d.isRow=true)(e:(P.info? ty).map (·.size)=some cs.length):(loadVar ty b).run P w= .ok (.agg cs.toArray) w:=by
 have g:(loadCells b cs.length).run P w= .ok cs.toArray w:=run_loadCells_list (P:=P) w b cs f;cases c:P.info? ty with
 |none=>simp[c]at e
 |some i=>
  have h:i.size=cs.length:=by simpa[c]using e
  have a:(isAgg ty).run P w= .ok true w:=by
   unfold isAgg;rw[Sem.run_bind,run_underlying hu w];cases d<;>simp_all
  simp[loadVar,Sem.run_bind,a,sizeOf,typeInfo,c,h,g]
theorem ar{P:Program}{op:Oper}{a:Act}{w:World}{K:Act→World→Prop}{Q:Exit→Act→World→Prop}(ty:TypeId)(x:Operand)(g:op.op= .load ty x)
  (b:Addr)(i:a.eval x= .pointer (some b))(cs:List Value)(d:TypeDesc)(c:∀j v,cs[j]? =some v→w.cell? (b.add j)=some v)
  (hu:P.underlying ty=some d)(e:d.isRow=true)(f:(P.info? ty).map (·.size)=some cs.length)
  (h:K (a.put op.dst (.agg cs.toArray)) w):op.wp P a w K Q:=by
 unfold Oper.wp execOp;simp only[g,i,Instr.loadAt,Instr.sureAddr,Sem.run_bind,Sem.run_pure,Result.andThen_ok,jg w b ty cs d c hu e f];exact h
theorem aw{P:Program}{ops:Array Oper}{rest:List Oper}{op:Oper}{a:Act}{w:World}{Q:Exit→Act→World→Prop}(c:op.guard=none)(ty:TypeId)(x:Operand)(k:op.op= .load ty x)
  (b:Addr)(l:a.eval x= .pointer (some b))(cs:List Value)(d:TypeDesc)(f:∀j v,cs[j]? =some v→w.cell? (b.add j)=some v)
  (hu:P.underlying ty=some d)(g:d.isRow=true)(i:(P.info? ty).map (·.size)=some cs.length)
  (h:wpList P ops Q rest (a.put op.dst (.agg cs.toArray)) w):wpList P ops Q (op::rest) a w:=
 wpList_plain c fun _ e=>ar ty x k b l cs d f hu g i (e _ _ h)
structure aD where
 kind:Int
 owner:ByteArray
 number:Int
 index:Int
 text:ByteArray
def aD.cells(n:aD):List Value:=[.int .i64 n.kind, .string n.owner, .int .i64 n.number, .int .i64 n.index, .string n.text]
def aD.val(n:aD):Value:= .agg n.cells.toArray
theorem aD.dE(n:aD):n.cells.length=5:=rfl
theorem aX:(Tryz.prog.info? 106).map (·.size)=some 5:=by kernel_rfl
inductive Tr where
 |leaf
 |node(l:Tr)(nm:aD)(v:ByteArray)(r:Tr)
def Tr.bQ:Tr→Nat
 | .leaf=>0
 | .node l _ _ r=>1+max l.bQ r.bQ
def Tr.size:Tr→Nat
 | .leaf=>0
 | .node l _ _ r=>1+l.size+r.size
def Tr.bytes:Tr→Nat
 | .leaf=>0
 | .node l _ v r=>v.size+l.bytes+r.bytes
theorem Tr.jb:∀t:Tr,t.bQ≤t.size
 | .leaf=>Nat.le_refl _
 | .node l _ _ r=>by
  have:=l.jb;have:=r.jb;simp only[Tr.bQ,Tr.size];omega
def qD(a b:Option Addr)(t:Tr):List Value:=
 match t with
 | .leaf=>[]
 | .node _ nm v _=>[.pointer a, .pointer b]++nm.cells++[.string v, .int .i64 (t.bQ:Nat), .int .i64 (t.size:Nat), .int .i64 (t.bytes:Nat)]
theorem xH(a b:Option Addr)(nm:aD)(v:ByteArray)(h z y:Int):
  Tryz.prog.built 177 [(0, .pointer a),(1, .pointer b),(2, .agg #[.int .i64 nm.kind, .string nm.owner, .int .i64 nm.number, .int .i64 nm.index, .string nm.text]),(3, .string v),(4, .int .i64 h),(5, .int .i64 z),(6, .int .i64 y)]=some #[.pointer a, .pointer b, .int .i64 nm.kind, .string nm.owner, .int .i64 nm.number, .int .i64 nm.index, .string nm.text, .string v, .int .i64 h, .int .i64 z, .int .i64 y]:=by kernel_rfl
theorem dH{P:Program}{ops:Array Oper}{rest:List Oper}{j:Oper}{a:Act}{w:World}{Q:Exit→Act→World→Prop}(e:j.guard=none)(t:TypeId)(parts:Array (Nat×Operand))(f:j.op= .build t parts)
  (cells:Array Value)(c:List (Nat×Value))(g:(parts.map fun(i,x)=>(i,a.eval x)).toList=c)(b:P.built t c=some cells)(h:wpList P ops Q rest (a.put j.dst (.agg cells)) w):wpList P ops Q (j::rest) a w:=by
 subst g;exact wpList_plain e fun _ d=>wp_build t parts f (by rw[b];rfl) (by rw[b];exact d _ _ h)
def bO(w:World):Option Addr→Tr→Prop
 |a, .leaf=>a=none
 |a, .node l nm v r=>∃g b c,a=some ⟨g,0,none⟩∧bO w b l∧bO w c r∧ak w g 177 (qD b c (.node l nm v r)).toArray
theorem bO.al{w w':World}:∀{a:Option Addr}{t:Tr},bO w a t→Fr af w w'→bO w' a t
 |_, .leaf,h,_=>h
 |_, .node _ _ _ _,⟨g,i,j,e,c,d,f⟩,b=>⟨g,i,j,e,c.al b,d.al b,f.fr b (fun x=>x)⟩
structure Mid(w:World)(g:Nat)(nm:aD)(v:ByteArray):Prop where
 name:∀j x,nm.cells[j]? =some x→w.cell? ⟨g,2+j,none⟩=some x
 val:w.cell? ⟨g,7,none⟩=some (.string v)
theorem Mid.al{w w':World}{g:Nat}{nm:aD}{v:ByteArray}(h:Mid w g nm v)(a:Fr af w w'):Mid w' g nm v:=
 ⟨fun j x b=>a.aj (h.name j x b) (fun x=>x),a.aj h.val (fun x=>x)⟩
theorem Mid.of{w:World}{g:Nat}{a b c d e:Value}{nm:aD}{v:ByteArray}(h:ak w g 177 ([a,b]++nm.cells++[.string v,c,d,e]).toArray):Mid w g nm v:=by
 refine⟨fun j x f=>?_,h.cell 7⟩;have i:j<5:=(List.getElem?_eq_some_iff.1 f).1;rw[h.cell,List.getElem?_toArray,List.append_assoc,List.getElem?_append_right (by simp),List.getElem?_append_left (by simp[aD.cells];omega)];rw[show 2+j-[a,b].length=j by simp];exact f
theorem bO.kr{w:World}{g:Nat}{l r:Tr}{nm:aD}{v:ByteArray}(h:bO w (some ⟨g,0,none⟩) (.node l nm v r)):Mid w g nm v:=by
 obtain⟨b,c,d,e,_,_,a⟩:=h;cases e;exact Mid.of a
theorem eh(w:World)(a:Option Addr)(t:Tr)(h:bO w a t):Calls Tryz.prog 181 #[.pointer a] w (bj w (.int .i64 (t.bQ:Nat))):=by
 cases t with
 |leaf=>
  obtain rfl:a=none:=h;go_enter Tryz.func181,Tryz.ntmps181;go_wp2;go_ret;exact⟨rfl,rfl⟩
 |node l nm v r=>
  obtain⟨g,d,e,rfl,_,_,b⟩:=h;have c:w.cell? ⟨g,8,none⟩=some (.int .i64 ((Tr.node l nm v r).bQ:Nat)):=b.cell 8;generalize(Tr.node l nm v r).bQ=x at*;clear b;go_enter Tryz.func181,Tryz.ntmps181;go_wp2;go_ret;exact⟨rfl,rfl⟩
theorem nK(w:World)(a:Option Addr)(t:Tr)(h:bO w a t):Calls Tryz.prog 137 #[.pointer a] w (bj w (.int .i64 (t.size:Nat))):=by
 cases t with
 |leaf=>
  obtain rfl:a=none:=h;go_enter Tryz.func137,Tryz.ntmps137;go_wp2;go_ret;exact⟨rfl,rfl⟩
 |node l nm v r=>
  obtain⟨g,d,e,rfl,_,_,b⟩:=h;have c:w.cell? ⟨g,9,none⟩=some (.int .i64 ((Tr.node l nm v r).size:Nat)):=b.cell 9;generalize(Tr.node l nm v r).size=x at*;clear b;go_enter Tryz.func137,Tryz.ntmps137;go_wp2;go_ret;exact⟨rfl,rfl⟩
theorem pG(w:World)(a:Option Addr)(t:Tr)(h:bO w a t):Calls Tryz.prog 138 #[.pointer a] w (bj w (.int .i64 (t.bytes:Nat))):=by
 cases t with
 |leaf=>
  obtain rfl:a=none:=h;go_enter Tryz.func138,Tryz.ntmps138;go_wp2;go_ret;exact⟨rfl,rfl⟩
 |node l nm v r=>
  obtain⟨g,d,e,rfl,_,_,b⟩:=h;have c:w.cell? ⟨g,10,none⟩=some (.int .i64 ((Tr.node l nm v r).bytes:Nat)):=b.cell 10;generalize(Tr.node l nm v r).bytes=x at*;clear b;go_enter Tryz.func138,Tryz.ntmps138;go_wp2;go_ret;exact⟨rfl,rfl⟩
theorem ep(w:World)(m n:Option Addr)(l r:Tr)(g:Nat)(nm:aD)(v:ByteArray)(o:bO w m l)(p:bO w n r)(S:Mid w g nm v)(aP:l.size+r.size≤1048576)(aO:v.size+l.bytes+r.bytes≤1099511627776):
  Calls Tryz.prog 178 #[.pointer m, .pointer (some ⟨g,0,none⟩), .pointer n] w (fun e w'=>∃a,e= .returned (.pointer a)∧bO w' a (.node l nm v r)∧Fr af w w'):=by
 have y:Hid (∀w',Fr af w w'→Calls Tryz.prog 181 #[.pointer m] w' (bj w' (.int .i64 (l.bQ:Nat)))):=fun w' k=>eh w' m l (o.al k);have z:Hid (∀w',Fr af w w'→Calls Tryz.prog 181 #[.pointer n] w' (bj w' (.int .i64 (r.bQ:Nat)))):=fun w' k=>eh w' n r (p.al k);have A:Hid (∀w',Fr af w w'→Calls Tryz.prog 137 #[.pointer m] w' (bj w' (.int .i64 (l.size:Nat)))):=fun w' k=>nK w' m l (o.al k);have B:Hid (∀w',Fr af w w'→Calls Tryz.prog 137 #[.pointer n] w' (bj w' (.int .i64 (r.size:Nat)))):=fun w' k=>nK w' n r (p.al k);have s:Hid (∀w',Fr af w w'→Calls Tryz.prog 138 #[.pointer m] w' (bj w' (.int .i64 (l.bytes:Nat)))):=fun w' k=>pG w' m l (o.al k);have t:Hid (∀w',Fr af w w'→Calls Tryz.prog 138 #[.pointer n] w' (bj w' (.int .i64 (r.bytes:Nat)))):=fun w' k=>pG w' n r (p.al k);have Z:=Lib.hid S;have E:=l.jb;have F:=r.jb;have Y:Hid (∀w' X,Fr af w w'→ak w' X 177 (qD m n (.node l nm v r)).toArray→bO w' (some ⟨X,0,none⟩) (.node l nm v r)):=fun w' X k a9=>⟨X,m,n,rfl,o.al k,p.al k,a9⟩;have q:Hid (qD m n (.node l nm v r)=[.pointer m, .pointer n]++nm.cells++[.string v, .int .i64 ((1+max l.bQ r.bQ:Nat):Int), .int .i64 ((1+l.size+r.size:Nat):Int), .int .i64 ((v.size+l.bytes+r.bytes:Nat):Int)]):=rfl;generalize qD m n (.node l nm v r)=C at*;obtain⟨I,O⟩:∃I,I=l.bQ:=⟨_,rfl⟩;obtain⟨J,P⟩:∃J,J=r.bQ:=⟨_,rfl⟩;obtain⟨K,Q⟩:∃K,K=l.size:=⟨_,rfl⟩;obtain⟨L,R⟩:∃L,L=r.size:=⟨_,rfl⟩;obtain⟨G,M⟩:∃G,G=l.bytes:=⟨_,rfl⟩;obtain⟨H,N⟩:∃H,H=r.bytes:=⟨_,rfl⟩;rw[←O]at y E q;rw[←P]at z F q;rw[←Q]at A aP E q;rw[←R]at B aP F q;rw[←M]at s aO q;rw[←N]at t aO q;obtain⟨hm,ae⟩:∃hm:Nat,max (I:Int) (J:Int)=(hm:Int):=⟨max I J,by omega⟩;obtain⟨D,ad⟩:∃D:Nat,(1:Int)+(hm:Int)=(D:Int):=⟨1+hm,by omega⟩;obtain⟨s1,ah⟩:∃s1:Nat,(1:Int)+(K:Int)=(s1:Int):=⟨1+K,by omega⟩;obtain⟨s2,ai⟩:∃s2:Nat,(s1:Int)+(L:Int)=(s2:Int):=⟨s1+L,by omega⟩;obtain⟨b1,ab⟩:∃b1:Nat,(v.size:Int)+(G:Int)=(b1:Int):=⟨v.size+G,by omega⟩;obtain⟨b2,ac⟩:∃b2:Nat,(b1:Int)+(H:Int)=(b2:Int):=⟨b1+H,by omega⟩;have bc:IntKind.i64.wrap (D:Int)=(D:Int):=IntWalk.i64_in _ (by omega);have aT:IntKind.i64.wrap (s1:Int)=(s1:Int):=IntWalk.i64_in _ (by omega);have aU:IntKind.i64.wrap (s2:Int)=(s2:Int):=IntWalk.i64_in _ (by omega);have aQ:IntKind.i64.wrap (b1:Int)=(b1:Int):=IntWalk.i64_in _ (by omega);have aS:IntKind.i64.wrap (b2:Int)=(b2:Int):=IntWalk.i64_in _ (by omega);rw[show(1+max I J:Nat)=D by omega,show(1+K+L:Nat)=s2 by omega,show v.size+G+H=b2 by omega]at q;have a1:Hid (Tryz.prog.built 177 [(0, .pointer m),(1, .pointer n),(2, .agg nm.cells.toArray),(3, .string v),(4, .int .i64 (D:Nat)),(5, .int .i64 (s2:Nat)),(6, .int .i64 (b2:Nat))]=some C.toArray):=by rw[q.out];exact xH m n nm v _ _ _
 clear o p S O P Q R M N E F aP aO;go_enter Tryz.func178,Tryz.ntmps178;go_upto_region 1 with fail;refine aA 33 af [Is (.pointer m),Is (.pointer n),Is (.pointer (some ⟨g,0,none⟩)),Is (.pointer (some ⟨g,0,none⟩)),Is (.pointer (some ⟨g,2,none⟩)),Is (.agg nm.cells.toArray),Is (.pointer (some ⟨g,0,none⟩)),Is (.pointer (some ⟨g,0,none⟩)),Is (.pointer (some ⟨g,7,none⟩)),Is (.string v),Is (.pointer m),Is (.int .i64 I),Is (.pointer n),Is (.int .i64 J),Is (.int .i64 hm),Is (.int .i64 D),Is (.pointer m),Is (.int .i64 K),Is (.int .i64 s1),Is (.pointer n),Is (.int .i64 L),Is (.int .i64 s2),Is (.pointer (some ⟨g,0,none⟩)),Is (.pointer (some ⟨g,0,none⟩)),Is (.pointer (some ⟨g,7,none⟩)),Is (.string v),Is (.int .i64 v.size),Is (.pointer m),Is (.int .i64 G),Is (.int .i64 b1),Is (.pointer n),Is (.int .i64 H),Is (.int .i64 b2)] [] (fun _=>True) (fun _ _=>false) (by kernel_rfl) (by kernel_rfl) (by kernel_rfl) (by kernel_rfl) ⟨Is.ag _,Is.ag _,Is.ag _,Is.ag _,Is.ag _,Is.ag _,Is.ag _,Is.ag _,Is.ag _,Is.ag _,Is.ag _,Is.ag _,Is.ag _,Is.ag _,Is.ag _,Is.ag _,Is.ag _,Is.ag _,Is.ag _,Is.ag _,Is.ag _,Is.ag _,Is.ag _,Is.ag _,Is.ag _,Is.ag _,Is.ag _,Is.ag _,Is.ag _,Is.ag _,Is.ag _,Is.ag _,Is.ag _,trivial⟩ trivial (fun _ _ _ _ h=>h) trivial ?_ ?_
 ·refine⟨fun u w' d k b f c i=>?_,fun u w' d k b f c i=>?_,fun u w' d k b f c i=>?_,fun u w' d k b f c i=>?_,fun u w' d k b f c i=>?_,fun u w' d k b f c i=>?_,fun u w' d k b f c i=>?_,fun u w' d k b f c i=>?_,fun u w' d k b f c i=>?_,fun u w' d k b f c i=>?_,fun u w' d k b f c i=>?_,fun u w' d k b f c i=>?_,fun u w' d k b f c i=>?_,fun u w' d k b f c i=>?_,fun u w' d k b f c i=>?_,fun u w' d k b f c i=>?_,fun u w' d k b f c i=>?_,fun u w' d k b f c i=>?_,fun u w' d k b f c i=>?_,fun u w' d k b f c i=>?_,fun u w' d k b f c i=>?_,fun u w' d k b f c i=>?_,fun u w' d k b f c i=>?_,fun u w' d k b f c i=>?_,fun u w' d k b f c i=>?_,fun u w' d k b f c i=>?_,fun u w' d k b f c i=>?_,fun u w' d k b f c i=>?_,fun u w' d k b f c i=>?_,fun u w' d k b f c i=>?_,fun u w' d k b f c i=>?_,fun u w' d k b f c i=>?_,fun u w' d k b f c i=>?_,trivial⟩;all_goals simp only[List.take_succ_cons,List.take_zero,List.map_cons,List.map_nil,an,Act.put,List.setIfInBounds_toArray,List.set_cons_zero,List.set_cons_succ,Nat.reduceAdd,Nat.zero_add]
  ·clear b f c i;refine .inl ⟨by kernel_rfl,?_⟩;go_simp;exact⟨_,rfl,Fr.refl _ _,rfl,trivial⟩
  ·clear b f c i;refine .inl ⟨by kernel_rfl,?_⟩;go_simp;exact⟨_,rfl,Fr.refl _ _,rfl,trivial⟩
  ·clear b f c i;refine .inl ⟨by kernel_rfl,?_⟩;go_simp;exact⟨_,rfl,Fr.refl _ _,rfl,trivial⟩
  ·have a3:u 2=_:=b 2 (by kernel_rfl);clear b f c i;simp only[a3];refine .inl ⟨by kernel_rfl,?_⟩;go_simp;exact⟨_,rfl,Fr.refl _ _,rfl,trivial⟩
  ·have a4:u 3=_:=b 3 (by kernel_rfl);clear b f c i;simp only[a4];refine .inl ⟨by kernel_rfl,?_⟩;go_simp;exact⟨_,rfl,Fr.refl _ _,rfl,trivial⟩
  ·have a5:u 4=_:=b 4 (by kernel_rfl);clear b f c i;simp only[a5];refine .inl ⟨by kernel_rfl,?_⟩;exact ar _ _ rfl ⟨g,2,none⟩ rfl nm.cells _ (fun j x bb=>by rw[Addr.add_mid];exact k.aj (Z.out.name j x bb) (fun x=>x)) Tryz.underlying106 rfl aX ⟨_,rfl,Fr.refl _ _,rfl,trivial⟩
  ·clear b f c i;refine .inl ⟨by kernel_rfl,?_⟩;go_simp;exact⟨_,rfl,Fr.refl _ _,rfl,trivial⟩
  ·have a6:u 6=_:=b 6 (by kernel_rfl);clear b f c i;simp only[a6];refine .inl ⟨by kernel_rfl,?_⟩;go_simp;exact⟨_,rfl,Fr.refl _ _,rfl,trivial⟩
  ·have a7:u 7=_:=b 7 (by kernel_rfl);clear b f c i;simp only[a7];refine .inl ⟨by kernel_rfl,?_⟩;go_simp;exact⟨_,rfl,Fr.refl _ _,rfl,trivial⟩
  ·have a8:u 8=_:=b 8 (by kernel_rfl);clear b f c i;simp only[a8];refine .inl ⟨by kernel_rfl,?_⟩;have ba:w'.cell? ⟨g,7,none⟩=some (.string v):=k.aj Z.out.val (fun x=>x);go_simp;exact⟨_,rfl,Fr.refl _ _,rfl,trivial⟩
  ·clear b f c i;refine .inl ⟨by kernel_rfl,?_⟩;go_simp;exact⟨_,rfl,Fr.refl _ _,rfl,trivial⟩
  ·have am:u 10=_:=b 10 (by kernel_rfl);clear b f c i;simp only[am];refine .inl ⟨by kernel_rfl,?_⟩;go_simp;refine(y.out _ k).mono ?_;rintro e W⟨rfl,rfl⟩;exact⟨_,rfl,Fr.refl _ _,rfl,trivial⟩
  ·clear b f c i;refine .inl ⟨by kernel_rfl,?_⟩;go_simp;exact⟨_,rfl,Fr.refl _ _,rfl,trivial⟩
  ·have ap:u 12=_:=b 12 (by kernel_rfl);clear b f c i;simp only[ap];refine .inl ⟨by kernel_rfl,?_⟩;go_simp;refine(z.out _ k).mono ?_;rintro e W⟨rfl,rfl⟩;exact⟨_,rfl,Fr.refl _ _,rfl,trivial⟩
  ·have ao:u 11=_:=b 11 (by kernel_rfl);have aq:u 13=_:=b 13 (by kernel_rfl);clear b f c i;simp only[ao,aq];refine .inl ⟨by kernel_rfl,?_⟩;go_simp;exact⟨_,rfl,Fr.refl _ _,rfl,trivial⟩
  ·have av:u 14=_:=b 14 (by kernel_rfl);clear b f c i;simp only[av];refine .inl ⟨by kernel_rfl,?_⟩;go_simp;exact⟨_,rfl,Fr.refl _ _,rfl,trivial⟩
  ·clear b f c i;refine .inl ⟨by kernel_rfl,?_⟩;go_simp;exact⟨_,rfl,Fr.refl _ _,rfl,trivial⟩
  ·have aw:u 16=_:=b 16 (by kernel_rfl);clear b f c i;simp only[aw];refine .inl ⟨by kernel_rfl,?_⟩;go_simp;refine(A.out _ k).mono ?_;rintro e W⟨rfl,rfl⟩;exact⟨_,rfl,Fr.refl _ _,rfl,trivial⟩
  ·have ax:u 17=_:=b 17 (by kernel_rfl);clear b f c i;simp only[ax];refine .inl ⟨by kernel_rfl,?_⟩;go_simp;exact⟨_,rfl,Fr.refl _ _,rfl,trivial⟩
  ·clear b f c i;refine .inl ⟨by kernel_rfl,?_⟩;go_simp;exact⟨_,rfl,Fr.refl _ _,rfl,trivial⟩
  ·have aB:u 19=_:=b 19 (by kernel_rfl);clear b f c i;simp only[aB];refine .inl ⟨by kernel_rfl,?_⟩;go_simp;refine(B.out _ k).mono ?_;rintro e W⟨rfl,rfl⟩;exact⟨_,rfl,Fr.refl _ _,rfl,trivial⟩
  ·have ay:u 18=_:=b 18 (by kernel_rfl);have aC:u 20=_:=b 20 (by kernel_rfl);clear b f c i;simp only[ay,aC];refine .inl ⟨by kernel_rfl,?_⟩;go_simp;exact⟨_,rfl,Fr.refl _ _,rfl,trivial⟩
  ·clear b f c i;refine .inl ⟨by kernel_rfl,?_⟩;go_simp;exact⟨_,rfl,Fr.refl _ _,rfl,trivial⟩
  ·have aE:u 22=_:=b 22 (by kernel_rfl);clear b f c i;simp only[aE];refine .inl ⟨by kernel_rfl,?_⟩;go_simp;exact⟨_,rfl,Fr.refl _ _,rfl,trivial⟩
  ·have aF:u 23=_:=b 23 (by kernel_rfl);clear b f c i;simp only[aF];refine .inl ⟨by kernel_rfl,?_⟩;go_simp;exact⟨_,rfl,Fr.refl _ _,rfl,trivial⟩
  ·have aG:u 24=_:=b 24 (by kernel_rfl);clear b f c i;simp only[aG];refine .inl ⟨by kernel_rfl,?_⟩;have ba:w'.cell? ⟨g,7,none⟩=some (.string v):=k.aj Z.out.val (fun x=>x);go_simp;exact⟨_,rfl,Fr.refl _ _,rfl,trivial⟩
  ·have aH:u 25=_:=b 25 (by kernel_rfl);clear b f c i;simp only[aH];refine .inl ⟨by kernel_rfl,?_⟩;go_simp;exact⟨_,rfl,Fr.refl _ _,rfl,trivial⟩
  ·clear b f c i;refine .inl ⟨by kernel_rfl,?_⟩;go_simp;exact⟨_,rfl,Fr.refl _ _,rfl,trivial⟩
  ·have aJ:u 27=_:=b 27 (by kernel_rfl);clear b f c i;simp only[aJ];refine .inl ⟨by kernel_rfl,?_⟩;go_simp;refine(s.out _ k).mono ?_;rintro e W⟨rfl,rfl⟩;exact⟨_,rfl,Fr.refl _ _,rfl,trivial⟩
  ·have aI:u 26=_:=b 26 (by kernel_rfl);have aK:u 28=_:=b 28 (by kernel_rfl);clear b f c i;simp only[aI,aK];refine .inl ⟨by kernel_rfl,?_⟩;go_simp;exact⟨_,rfl,Fr.refl _ _,rfl,trivial⟩
  ·clear b f c i;refine .inl ⟨by kernel_rfl,?_⟩;go_simp;exact⟨_,rfl,Fr.refl _ _,rfl,trivial⟩
  ·have aM:u 30=_:=b 30 (by kernel_rfl);clear b f c i;simp only[aM];refine .inl ⟨by kernel_rfl,?_⟩;go_simp;refine(t.out _ k).mono ?_;rintro e W⟨rfl,rfl⟩;exact⟨_,rfl,Fr.refl _ _,rfl,trivial⟩
  ·have aL:u 29=_:=b 29 (by kernel_rfl);have aN:u 31=_:=b 31 (by kernel_rfl);clear b f c i;simp only[aL,aN];refine .inl ⟨by kernel_rfl,?_⟩;go_simp;exact⟨_,rfl,Fr.refl _ _,rfl,trivial⟩
 ·intro u w' k b i;have c:u 0=_:=b 0 (by omega);have f:u 1=_:=b 1 (by omega);have aY:u 5=_:=b 5 (by omega);have aZ:u 9=_:=b 9 (by omega);have T:u 15=_:=b 15 (by omega);have U:u 21=_:=b 21 (by omega);have V:u 32=_:=b 32 (by omega);clear b i;simp only[List.take_succ_cons,List.take_zero,List.map_cons,List.map_nil,an,Act.put,List.setIfInBounds_toArray,List.set_cons_zero,List.set_cons_succ,List.drop_succ_cons,List.drop_zero,Nat.reduceAdd,Nat.zero_add,c,f,aY,aZ,T,U,V];have aV:=Lib.hid k;clear k c f aY aZ T U V ae ad ah ai ab ac bc aT aU aQ aS y z A B s t;go_wp2_with(refine dH rfl 177 _ rfl C.toArray _ (by simp only[List.map_toArray,List.map_cons,List.map_nil];rfl) a1.out (aR.go ?hold));unfold aR;go_wp2_with(refine au rfl 177 (.tmp 40) rfl C.toArray rfl ?_);intro w2 a0;have aa:=Lib.hid a0;clear a0;generalize aW:w'.heap.size=g2 at*;have a2:=Lib.hid aW;clear aW;go_wp2;go_ret;exact⟨_,rfl,Y.out w2 g2 (aV.out.trans aa.out.fr) (by have h:=aa.out.az;rw[a2.out]at h;exact h),aV.out.trans aa.out.fr⟩
end Go.Proofs.YtphjagkehiklkaaGreatDoor
namespace Go.Proofs.YtphjagkehiklkaaGreatDoor
open Go.RowKit
theorem ti(a:Int)(w:World):Calls Tryz.prog 164 #[.int .i64 a] w (bj w (.bool false)):=by
 go_enter Tryz.func164,Tryz.ntmps164;go_wp2;go_ret;exact⟨rfl,rfl⟩
def Bo(a b:Int):Int:=if a<b then-1 else if b<a then 1 else 0
theorem gC(a b:Int)(w:World):Calls Tryz.prog 133 #[.int .i64 a, .int .i64 b] w (bj w (.int .i64 (Bo a b))):=by
 have f:=Lib.hid (fun w=>ti a w);have g:=Lib.hid (fun w=>ti b w);unfold Bo;by_cases c:a<b;·rw[if_pos c];have t1:decide (a<b)=true:=decide_eq_true c;clear c;go_enter Tryz.func133,Tryz.ntmps133;go_wp2_with fail;refine(f.out _).mono ?_;rintro e w'⟨rfl,rfl⟩;go_wp2_with fail;refine(g.out _).mono ?_;rintro e w'⟨rfl,rfl⟩;go_wp2;go_ret;exact⟨rfl,rfl⟩
 ·rw[if_neg c];have t1:decide (a<b)=false:=decide_eq_false c;by_cases d:b<a;·rw[if_pos d];have t2:decide (b<a)=true:=decide_eq_true d;clear c d;go_enter Tryz.func133,Tryz.ntmps133;go_wp2_with fail;refine(f.out _).mono ?_;rintro e w'⟨rfl,rfl⟩;go_wp2_with fail;refine(g.out _).mono ?_;rintro e w'⟨rfl,rfl⟩;go_wp2;go_ret;exact⟨rfl,rfl⟩
  ·rw[if_neg d];have t2:decide (b<a)=false:=decide_eq_false d;go_enter Tryz.func133,Tryz.ntmps133;go_wp2_with fail;refine(f.out _).mono ?_;rintro e w'⟨rfl,rfl⟩;go_wp2_with fail;refine(g.out _).mono ?_;rintro e w'⟨rfl,rfl⟩;go_wp2;go_ret;exact⟨rfl,rfl⟩
theorem zV(a:ByteArray)(w:World):Calls Tryz.prog 176 #[.string a] w (bj w (.bool false)):=by
 go_enter Tryz.func176,Tryz.ntmps176;go_wp2;go_ret;exact⟨rfl,rfl⟩
theorem nC(a:ByteArray)(w:World):Calls Tryz.prog 134 #[.string a, .string a] w (bj w (.int .i64 0)):=by
 go_enter Tryz.func134,Tryz.ntmps134;go_wp2;go_ret;exact⟨rfl,rfl⟩
def mf:aD:=⟨15,ByteArray.empty,0,0,ByteArray.empty⟩
def jW:Array Value:=#[.int .i64 15, .string ByteArray.empty, .int .i64 0, .int .i64 0, .string ByteArray.empty]
end Go.Proofs.YtphjagkehiklkaaGreatDoor
namespace Go.Proofs.YtphjagkehiklkaaGreatDoor
open Go.RowKit
def qC:Value:= .agg #[.int .i64 0, .string ByteArray.empty, .int .i64 0, .int .i64 0, .string ByteArray.empty]
theorem BY(w:World):(zeroValue 106).run Tryz.prog w= .ok qC w:=by kernel_rfl
theorem xG:Tryz.prog.built 106 [(0, .int .i64 15)]=some jW:=by kernel_rfl
theorem zH:jW.all (·.oneCell')=true:=by kernel_rfl
theorem pA(w:World):Calls Tryz.prog 54 #[] w (aH w (.agg jW)):=by
 have B:=Lib.hid xG;have O:=Lib.hid zH;have j:Hid ((Tryz.prog.info? 106).map (·.size)=some jW.size):=aX;have Z:Hid ((#[.int .i64 0, .string ByteArray.empty, .int .i64 0, .int .i64 0, .string ByteArray.empty]:Array Value).size=jW.size):=rfl;generalize jW=a at*;go_enter Tryz.func54,Tryz.ntmps54;go_wp2_with(refine ai rfl 106 rfl qC BY #[.int .i64 0, .string ByteArray.empty, .int .i64 0, .int .i64 0, .string ByteArray.empty] rfl ?_);intro w1 n1;have b:=Lib.hid n1;clear n1;go_wp2_with(refine dH rfl 106 #[(0, .const (.int .i64 15))] rfl a _ (by simp only[List.map_toArray,List.map_cons,List.map_nil];rfl) B.out (aR.go ?hold));unfold aR;refine ah rfl 106 (.tmp 0) _ rfl w.heap.size a rfl rfl _ _ b.out.az j.out Z.out O.out ?_;intro c b5 f5;have d:=Lib.hid b5;have f:Hid (Fr af w c):=b.out.fr.ao f5 (fun i h e=>by have g:i=w.heap.size:=e;omega);clear b5 f5;go_wp2;exact bodyPost_ret (results_cell_row (fn:=Tryz.f54) (p:=0) (ty:=106) Tryz.results54 _ c _ 106 a (0,0) _ rfl d.out Tryz.underlying106 rfl j.out) rfl ⟨rfl,f.out⟩
theorem qv(n nm:aD)(v:ByteArray)(l r:Tr)(g:Nat)(w:World)(t:bO w (some ⟨g,0,none⟩) (.node l nm v r))
  (s:∀w',Fr af w w'→Calls Tryz.prog 128 #[.agg n.cells.toArray, .agg nm.cells.toArray] w' (aH w' (.int .i64 0))):
  Calls Tryz.prog 108 #[.pointer (some ⟨g,0,none⟩), .agg n.cells.toArray] w (aH w (.pointer (some ⟨g,0,none⟩))):=by
 have y:=Lib.hid s;have o:=Lib.hid t.kr;clear s t;go_enter Tryz.func108,Tryz.ntmps108;go_wp2_with(refine au rfl 106 (.tmp 1) rfl n.cells.toArray rfl ?_);intro w1 n1;have m:=Lib.hid n1.fr;have k:=Lib.hid n1.az;clear n1;generalize w.heap.size=q at*;have B:Hid (ak w1 q 106 n.cells.toArray):=k.out;clear k;have A:=Lib.hid (o.out.al m.out);go_wp2;refine wp_loop_rounds 1 ?_;rw[rounds_succ];go_upto_region 2 with fail;refine aA 7 af [Is (.agg n.cells.toArray),Is (.pointer (some ⟨g,0,none⟩)),Is (.pointer (some ⟨g,0,none⟩)),Is (.pointer (some ⟨g,2,none⟩)),Is (.agg nm.cells.toArray),Is (.int .i64 0),Is (.int .i64 0)] [] (fun _=>True) (fun _ _=>false) (by kernel_rfl) (by kernel_rfl) (by kernel_rfl) (by kernel_rfl) ⟨Is.ag _,Is.ag _,Is.ag _,Is.ag _,Is.ag _,Is.ag _,Is.ag _,trivial⟩ trivial (fun _ _ _ _ h=>h) trivial ?_ ?_
 ·refine⟨fun u w' d i a f c b=>?_,fun u w' d i a f c b=>?_,fun u w' d i a f c b=>?_,fun u w' d i a f c b=>?_,fun u w' d i a f c b=>?_,fun u w' d i a f c b=>?_,fun u w' d i a f c b=>?_,trivial⟩;all_goals simp only[List.take_succ_cons,List.take_zero,List.map_cons,List.map_nil,an,Act.put,List.setIfInBounds_toArray,List.set_cons_zero,List.set_cons_succ,Nat.reduceAdd,Nat.zero_add]
  ·clear a f c b;refine .inl ⟨by kernel_rfl,?_⟩;exact ar _ _ rfl ⟨q,0,none⟩ rfl n.cells _ (fun j x p=>by rw[Addr.add_mid,Nat.zero_add];exact(B.out.fr i (fun x=>x)).cell j|>.trans (by rw[List.getElem?_toArray];exact p)) Tryz.underlying106 rfl aX ⟨_,rfl,Fr.refl _ _,rfl,trivial⟩
  ·clear a f c b;refine .inl ⟨by kernel_rfl,?_⟩;go_simp;exact⟨_,rfl,Fr.refl _ _,rfl,trivial⟩
  ·have D:u 1=_:=a 1 (by kernel_rfl);clear a f c b;simp only[D];refine .inl ⟨by kernel_rfl,?_⟩;go_simp;exact⟨_,rfl,Fr.refl _ _,rfl,trivial⟩
  ·have E:u 2=_:=a 2 (by kernel_rfl);clear a f c b;simp only[E];refine .inl ⟨by kernel_rfl,?_⟩;go_simp;exact⟨_,rfl,Fr.refl _ _,rfl,trivial⟩
  ·have F:u 3=_:=a 3 (by kernel_rfl);clear a f c b;simp only[F];refine .inl ⟨by kernel_rfl,?_⟩;exact ar _ _ rfl ⟨g,2,none⟩ rfl nm.cells _ (fun j x p=>by rw[Addr.add_mid];exact i.aj (A.out.name j x p) (fun x=>x)) Tryz.underlying106 rfl aX ⟨_,rfl,Fr.refl _ _,rfl,trivial⟩
  ·have C:u 0=_:=a 0 (by kernel_rfl);have G:u 4=_:=a 4 (by kernel_rfl);clear a f c b;simp only[C,G];refine .inl ⟨by kernel_rfl,?_⟩;go_simp;refine(y.out _ (m.out.trans i)).mono ?_;rintro e I⟨rfl,f4⟩;exact⟨_,rfl,f4.bA,rfl,trivial⟩
  ·have H:u 5=_:=a 5 (by kernel_rfl);clear a f c b;simp only[H];refine .inl ⟨by kernel_rfl,?_⟩;go_simp;exact⟨_,rfl,Fr.refl _ _,rfl,trivial⟩
 ·intro u w' i a b;have k6:u 6=_:=a 6 (by omega);clear a b;simp only[List.take_succ_cons,List.take_zero,List.map_cons,List.map_nil,an,Act.put,List.setIfInBounds_toArray,List.set_cons_zero,List.set_cons_succ,List.drop_succ_cons,List.drop_zero,Nat.reduceAdd,Nat.zero_add,k6];have z:=Lib.hid (m.out.trans i);clear i k6;go_wp2;go_ret;exact⟨rfl,z.out⟩
theorem AW(nm:aD)(v:ByteArray)(g:Nat)(w:World)(c:Mid w g nm v)(h:v.size≤1099511627776):
  Calls Tryz.prog 163 #[.pointer none, .pointer (some ⟨g,0,none⟩)] w (fun e w'=>∃a,e= .returned (.pointer a)∧bO w' a (.node .leaf nm v .leaf)∧Fr af w w'):=by
 have d:=Lib.hid (ep w none none .leaf .leaf g nm v rfl rfl c (by simp[Tr.size]) (by simp only[Tr.bytes];omega));clear c;go_enter Tryz.func163,Tryz.ntmps163;go_wp2_with fail;refine d.out.mono ?_;rintro e w1⟨a,rfl,b,f1⟩;have H1:=Lib.hid b;have f:=Lib.hid f1;clear b f1;go_wp2;go_ret;exact⟨_,rfl,H1.out,f.out⟩
end Go.Proofs.YtphjagkehiklkaaGreatDoor
namespace Go.Proofs.YtphjagkehiklkaaGreatDoor
open Go.RowKit
def str(l:List UInt8):ByteArray:=⟨l.toArray⟩
structure fM where
 word:ByteArray
 owner:Bool
 number:Bool
 index:Bool
 text:Bool
 aJ:Int
def fM.cells(u:fM):List Value:=[.string u.word, .bool u.owner, .bool u.number, .bool u.index, .bool u.text, .int .i64 u.aJ]
def fQ:List fM:=[
 ⟨str [],false,false,false,false,0⟩,
 ⟨str [112,114,111,99,101,115,115],true,false,false,false,0⟩,
 ⟨str [114,101,103,105,115,116,101,114,115],true,false,false,false,0⟩,
 ⟨str [112,97,103,101],true,false,true,false,63⟩,
 ⟨str [116,97,98,108,101],true,false,false,false,0⟩,
 ⟨str [99,111,117,110,116,101,114],true,false,false,false,0⟩,
 ⟨str [112,101,110,100,105,110,103],true,false,false,false,0⟩,
 ⟨str [110,111,100,101],true,true,false,false,0⟩,
 ⟨str [98,108,111,99,107],true,true,true,false,63⟩,
 ⟨str [101,110,116,114,121],true,true,false,true,0⟩,
 ⟨str [108,105,115,116,105,110,103],true,true,false,false,0⟩,
 ⟨str [112,105,112,101],true,true,false,false,0⟩,
 ⟨str [108,111,99,107],true,true,false,false,0⟩,
 ⟨str [116,101,114,109,105,110,97,108],false,true,false,false,0⟩,
 ⟨str [97,99,99,111,117,110,116],false,false,false,true,0⟩,
 ⟨str [99,108,111,99,107],false,false,false,false,0⟩,
 ⟨str [112,111,114,116],false,true,false,false,0⟩,
 ⟨str [98,111,120],false,false,false,true,0⟩,
 ⟨str [111,117,116],true,true,true,false,1073741824⟩,
 ⟨str [115,104,101,108,108],true,false,false,false,0⟩,
 ⟨str [101,112,111,99,104],false,false,false,false,0⟩]
def D1:List Value:=[.string (str [99,108,111,99,107]), .bool false, .bool false, .bool false, .bool false, .int .i64 0]
structure dy(w:World):Prop where
 row:∀k u,fQ[k]? =some u→∀j v,u.cells[j]? =some v→w.cell? ⟨0,k*6+j,none⟩=some v
theorem dy.al{w w':World}(h:dy w)(a:Fr af w w'):dy w':=⟨fun k u b j v c=>a.aj (h.row k u b j v c) (fun x=>x)⟩
theorem dy.clock{w:World}(h:dy w):∀j v,D1[j]? =some v→w.cell? ⟨0,90+j,none⟩=some v:=fun j v a=>h.row 15 _ rfl j v a
def BM:Value:= .agg #[.string ByteArray.empty, .bool false, .bool false, .bool false, .bool false, .int .i64 0]
theorem ud(w:World):(zeroValue 189).run Tryz.prog w= .ok BM w:=by kernel_rfl
theorem jc:(Tryz.prog.info? 189).map (·.size)=some 6:=by kernel_rfl
end Go.Proofs.YtphjagkehiklkaaGreatDoor
namespace Go.Proofs.YtphjagkehiklkaaGreatDoor
open Go.RowKit
def Cj(w:World)(s:Nat)(t:Tr):Prop:=∃a,ak w s 174 #[.pointer a]∧bO w a t
theorem Cj.al{w w':World}{s:Nat}{t:Tr}(h:Cj w s t)(b:Fr af w w'):Cj w' s t:=by
 obtain⟨a,c,d⟩:=h;exact⟨a,c.fr b (fun x=>x),d.al b⟩
theorem iu{P:Program}{f:Oper}{a:Act}{w:World}{K:Act→World→Prop}{Q:Exit→Act→World→Prop}(t:TypeId)(parts:Array (Nat×Operand))(d:f.op= .build t parts)
  (cells:Array Value)(c:List (Nat×Value))(e:(parts.map fun(i,x)=>(i,a.eval x)).toList=c)(b:P.built t c=some cells)(h:K (a.put f.dst (.agg cells)) w):f.wp P a w K Q:=by
 subst e;exact wp_build t parts d (by rw[b];rfl) (by rw[b];exact h)
theorem py(w:World):Calls Tryz.prog 52 #[] w (fun e w'=>∃s,e= .returned (.pointer (some ⟨s,0,none⟩))∧Cj w' s .leaf∧Fr af w w'):=by
 go_enter Tryz.func52,Tryz.ntmps52;go_wp2_with(refine au rfl 174 (.tmp 1) rfl #[.pointer none] rfl ?_);intro w1 n1;have a:=Lib.hid n1;clear n1;go_wp2;go_ret;exact⟨_,rfl,⟨none,a.out.az,rfl⟩,a.out.fr⟩
theorem xw(w:World)(s:Nat)(t:Tr)(h:Cj w s t):Calls Tryz.prog 94 #[.pointer (some ⟨s,0,none⟩)] w (bj w (.int .i64 (t.size:Nat))):=by
 obtain⟨a,b,d⟩:=h;have f:=Lib.hid (nK w a t d);have c:w.cell? ⟨s,0,none⟩=some (.pointer a):=b.cell 0;clear b d;go_enter Tryz.func94,Tryz.ntmps94;go_wp2_with fail;refine f.out.mono ?_;rintro e w'⟨rfl,rfl⟩;go_wp2;go_ret;exact⟨rfl,rfl⟩
end Go.Proofs.YtphjagkehiklkaaGreatDoor
namespace Go.Proofs.YtphjagkehiklkaaGreatDoor
open Go.RowKit
theorem aM{P:Program}{ops:Array Oper}{rest:List Oper}{u:Oper}{a:Act}{w:World}{Q:Exit→Act→World→Prop}(j:u.guard=none)(ty:TypeId)(x y:Operand)(p:u.op= .store ty x y)
  (g f:Nat)(v:Value)(r:a.eval x= .pointer (some ⟨g,f,none⟩))(s:a.eval y=v)(m:v.oneCell'=true)(d:(P.info? ty).map (·.size)=some 1)
  (t:TypeId)(cs cs':Array Value)(e:ak w g t cs)(o:f<cs.size)(i:cs.setIfInBounds f v=cs')
  (h:∀w',ak w' g t cs'→Fr (fun k=>k=g) w w'→wpList P ops Q rest (a.put u.dst undef) w'):wpList P ops Q (u::rest) a w:=by
 subst i;obtain⟨b,l,q⟩:∃b,P.info? ty=some b∧b.size=1:=by
  cases he:P.info? ty with
  |none=>rw[he]at d;cases d
  |some b=>rw[he]at d;exact⟨b,rfl,by simpa using d⟩
 have c:=Lib.rl_storeVar_one (P:=P) ty b l q ⟨g,f,none⟩ v (cs[f]) m w (by rw[e.cell];simp[o]) (e.frozen _);refine wpList_plain j fun K n=>?_;unfold Oper.wp execOp;simp only[p,r,s,Instr.storeAt,Instr.sureAddr,Sem.run_bind,Sem.run_pure,Result.andThen_ok,c];exact n _ _ (h _ (e.iV f v) (Fr.setCell (T:=fun k=>k=g) (Fr.refl _ w) (fun _=>rfl) v))
theorem gP{P:Program}{r:Oper}{a:Act}{w:World}{K:Act→World→Prop}{Q:Exit→Act→World→Prop}(ty:TypeId)(x y:Operand)(n:r.op= .store ty x y)
  (g f:Nat)(v:Value)(p:a.eval x= .pointer (some ⟨g,f,none⟩))(q:a.eval y=v)(l:v.oneCell'=true)(d:(P.info? ty).map (·.size)=some 1)
  (t:TypeId)(cs cs':Array Value)(e:ak w g t cs)(m:f<cs.size)(i:cs.setIfInBounds f v=cs')
  (h:∀w',ak w' g t cs'→Fr (fun k=>k=g) w w'→K (a.put r.dst undef) w'):r.wp P a w K Q:=by
 subst i;obtain⟨b,j,o⟩:∃b,P.info? ty=some b∧b.size=1:=by
  cases he:P.info? ty with
  |none=>rw[he]at d;cases d
  |some b=>rw[he]at d;exact⟨b,rfl,by simpa using d⟩
 have c:=Lib.rl_storeVar_one (P:=P) ty b j o ⟨g,f,none⟩ v (cs[f]) l w (by rw[e.cell];simp[m]) (e.frozen _);unfold Oper.wp execOp;simp only[n,p,q,Instr.storeAt,Instr.sureAddr,Sem.run_bind,Sem.run_pure,Result.andThen_ok,c];exact h _ (e.iV f v) (Fr.setCell (T:=fun k=>k=g) (Fr.refl _ w) (fun _=>rfl) v)
structure CV where
 nm:aD
 value:ByteArray
 aV:Bool
def CV.cells(c:CV):List Value:=c.nm.cells++[.string c.value, .bool c.aV]
theorem CV.dE(c:CV):c.cells.length=7:=rfl
theorem iD:(Tryz.prog.info? 119).map (·.size)=some 7:=by kernel_rfl
theorem nA:(Tryz.prog.info? 9).map (·.size)=some 1:=by kernel_rfl
theorem CV.one(c:CV):c.cells.toArray.all (·.oneCell')=true:=by
 simp[CV.cells,aD.cells,Value.oneCell']
theorem aD.one(n:aD):n.cells.toArray.all (·.oneCell')=true:=by
 simp[aD.cells,Value.oneCell']
theorem EU:∀(xs:List CV)(k:Nat)(c:CV),xs[k]? =some c→∀j x,c.cells[j]? =some x→(xs.flatMap CV.cells)[k*7+j]? =some x
 |[],_,_,h,_,_,_=>by simp at h
 |y::b,0,c,h,j,x,a=>by
  simp only[List.getElem?_cons_zero,Option.some.injEq]at h;subst h;have d:j<7:=(List.getElem?_eq_some_iff.1 a).1;rw[List.flatMap_cons,Nat.zero_mul,Nat.zero_add,List.getElem?_append_left d];exact a
 |y::b,k+1,c,h,j,x,a=>by
  rw[List.flatMap_cons,List.getElem?_append_right (by rw[CV.dE];omega),CV.dE,show(k+1)*7+j-7=k*7+j by omega];exact EU b k c (by simpa using h) j x a
structure CL(w:World)(S:Nat→Prop)(A:Option Addr)(n:Nat)(xs:List CV):Prop where
 rd:Rd w S 7 A n (xs.flatMap CV.cells)
 len:xs.length=n
theorem CL.al{w w':World}{S:Nat→Prop}{A:Option Addr}{n:Nat}{xs:List CV}(h:CL w S A n xs)(a:Fr af w w'):CL w' S A n xs:=⟨h.rd.al a,h.len⟩
theorem CL.at_{w:World}{S:Nat→Prop}{A:Option Addr}{n k:Nat}{xs:List CV}(h:CL w S A n xs)(f:k<n):∃b c,A=some b∧xs[k]? =some c∧∀j x,c.cells[j]? =some x→w.cell? ((b.add (k*7)).add j)=some x:=by
 obtain⟨b,e,i,d⟩:=h.rd.2 (by omega);have a:k<xs.length:=by rw[h.len];exact f
 refine⟨b,xs[k],e,List.getElem?_eq_getElem a,fun j x g=>?_⟩;rw[gA];exact d _ x (EU xs k xs[k] (List.getElem?_eq_getElem a) j x g)
end Go.Proofs.YtphjagkehiklkaaGreatDoor
namespace Go.Proofs.YtphjagkehiklkaaGreatDoor
open Go.RowKit
def cE:Value:= .agg #[.int .i64 0, .string ByteArray.empty, .int .i64 0, .int .i64 0, .string ByteArray.empty, .string ByteArray.empty, .bool false]
theorem nS:(Tryz.prog.info? 119).map (fun i=>(i.zero,i.size,i.bytes))=some (some cE,7,80):=by kernel_rfl
theorem foldl_set:∀(l:List Value)(k off:Nat)(b:List Value),off+k+l.length≤b.length→(l.zipIdx k).foldl (fun cs x=>cs.setIfInBounds (off+x.2) x.1) b.toArray=(b.take (off+k)++l++b.drop (off+k+l.length)).toArray
 |[],k,off,b,_=>by simp
 |c::r,k,off,b,h=>by
  simp only[List.length_cons]at h;rw[List.zipIdx_cons,List.foldl_cons,List.setIfInBounds_toArray,foldl_set r (k+1) off (b.set (off+k) c) (by rw[List.length_set];omega)];congr 1;have a:(b.set (off+k) c).take (off+(k+1))=b.take (off+k)++[c]:=by
   rw[List.take_set,show off+(k+1)=(off+k)+1 by omega,List.take_succ_eq_append_getElem (by omega:off+k<b.length),List.set_append_right _ _ (by simp;omega)];simp;rw[show off+k-min (off+k) b.length=0 by omega];rfl
  have d:(b.set (off+k) c).drop (off+(k+1)+r.length)=b.drop (off+k+(c::r).length):=by
   rw[List.drop_set_of_lt (by omega)];congr 1;simp only[List.length_cons];omega
  rw[a,d];simp
theorem j8(cs b:Array Value)(off:Nat)(h:off+cs.size≤b.size):cs.zipIdx.foldl (fun cs(x:Value×Nat)=>cs.setIfInBounds (off+x.2) x.1) b=(b.toList.take off++cs.toList++b.toList.drop (off+cs.size)).toArray:=by
 rw[←Array.foldl_toList,Array.toList_zipIdx];have:=foldl_set cs.toList 0 off b.toList (by simpa using h);simpa using this
theorem kV(cs b:Array Value)(d:cs.size=7)(c:b.size=7):Instr.fill (fun i=>some (i*7,7)) b [(0, .agg cs)]=some cs:=by
 have a:=j8 cs b 0 (by omega);simp only[Instr.fill,Value.cells,d,c,Nat.zero_mul,Nat.zero_add,ne_eq,not_true_eq_false,decide_false,Bool.false_or,gt_iff_lt,Nat.lt_irrefl,Bool.false_eq_true,if_false];simp only[Nat.zero_add,List.take_zero,List.nil_append,d]at a;rw[List.drop_of_length_le (by simp[c]),List.append_nil]at a;rw[a]
theorem my{w:World}{base n m:Nat}{e l:TypeId}{size a:Nat}{v o:Value}{xs r:List Value}(h:w.ownsRow base e size v n xs)(p:w.ownsRow base l a o m r)(f:e≠l):∀k,v.ownBlock=some k→o.ownBlock≠some k:=by
 intro k c d;rcases h.2 with⟨rfl,_⟩|⟨g,cap,cur,rfl,_,q,_⟩;·cases c
 ·rcases p.2 with⟨rfl,_⟩|⟨s,i,j,rfl,_,b,_⟩;·cases d
  ·simp only[Value.ownBlock,Option.some.injEq]at c d;subst c;subst d;rw[q]at b;cases b;exact f rfl
theorem Fr.Gs{w w':World}(h:Fr af w w'):w.grownBy w' none:=⟨h.os,h.tape,h.output,h.size,fun k a _=>h.block k a (fun x=>x)⟩
def pE(w:World)(e:Ending)(w':World):Prop:=e= .returned (.bool true)∧Fr af w w'
end Go.Proofs.YtphjagkehiklkaaGreatDoor
