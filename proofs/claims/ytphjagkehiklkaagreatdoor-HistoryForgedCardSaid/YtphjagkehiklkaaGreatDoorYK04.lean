/- Texts. -/
import Derived.LoopIn
import Derived.LoopNIn
import Derived.RangeFuncBound
import Derived.RangeFuncNested
import Derived.Shelf.RegionOpen
import Derived.Test.YtphjagkehiklkaaGreatDoorYK03
set_option linter.unusedVariables false
set_option linter.unusedSimpArgs false
set_option maxRecDepth 100000
set_option maxHeartbeats 4000000
namespace Go.Proofs.YtphjagkehiklkaaGreatDoor
open Go.RowKit
def bG(w:World)(v:Value)(e:Ending)(w':World):Prop:=e= .returned v∧w=w'
def bh(p:Prop):Prop:=p
theorem bh.go{p:Prop}(h:bh p):p:=h
theorem jV{P:Program}(w:World)(b:Addr)(ty:TypeId)(cs:List Value)(d:TypeDesc)(f:∀j v,cs[j]? =some v→w.cell? (b.add j)=some v)
  (hu:P.underlying ty=some d)(k:d.isRow=true)(e:(P.info? ty).map (·.size)=some cs.length):(loadVar ty b).run P w= .ok (.agg cs.toArray) w:=by
 have g:(loadCells b cs.length).run P w= .ok cs.toArray w:=run_loadCells_list (P:=P) w b cs f;cases c:P.info? ty with
 |none=>simp[c]at e
 |some i=>
  have h:i.size=cs.length:=by simpa[c]using e
  have a:(isAgg ty).run P w= .ok true w:=by
   unfold isAgg;rw[Sem.run_bind,run_underlying hu w];cases d<;>simp_all
  simp[loadVar,Sem.run_bind,a,sizeOf,typeInfo,c,h,g]
theorem az{P:Program}{op:Oper}{a:Act}{w:World}{K:Act→World→Prop}{Q:Exit→Act→World→Prop}(ty:TypeId)(x:Operand)(g:op.op= .load ty x)
  (b:Addr)(i:a.eval x= .pointer (some b))(cs:List Value)(d:TypeDesc)(c:∀j v,cs[j]? =some v→w.cell? (b.add j)=some v)
  (hu:P.underlying ty=some d)(e:d.isRow=true)(f:(P.info? ty).map (·.size)=some cs.length)
  (h:K (a.put op.dst (.agg cs.toArray)) w):op.wp P a w K Q:=by
 unfold Oper.wp execOp;simp only[g,i,Instr.loadAt,Instr.sureAddr,Sem.run_bind,Sem.run_pure,Result.andThen_ok,jV w b ty cs d c hu e f];exact h
theorem aB{P:Program}{ops:Array Oper}{rest:List Oper}{op:Oper}{a:Act}{w:World}{Q:Exit→Act→World→Prop}(c:op.guard=none)(ty:TypeId)(x:Operand)(k:op.op= .load ty x)
  (b:Addr)(l:a.eval x= .pointer (some b))(cs:List Value)(d:TypeDesc)(f:∀j v,cs[j]? =some v→w.cell? (b.add j)=some v)
  (hu:P.underlying ty=some d)(g:d.isRow=true)(i:(P.info? ty).map (·.size)=some cs.length)
  (h:wpList P ops Q rest (a.put op.dst (.agg cs.toArray)) w):wpList P ops Q (op::rest) a w:=
 wpList_plain c fun _ e=>az ty x k b l cs d f hu g i (e _ _ h)
structure aI where
 kind:Int
 owner:ByteArray
 number:Int
 index:Int
 text:ByteArray
def aI.cells(n:aI):List Value:=[.int .i64 n.kind, .string n.owner, .int .i64 n.number, .int .i64 n.index, .string n.text]
def aI.val(n:aI):Value:= .agg n.cells.toArray
theorem aI.eA(n:aI):n.cells.length=5:=rfl
theorem bB:(Tryz.prog.info? 106).map (·.size)=some 5:=by kernel_rfl
inductive Tr where
 |leaf
 |node(l:Tr)(nm:aI)(v:ByteArray)(r:Tr)
def Tr.cD:Tr→Nat
 | .leaf=>0
 | .node l _ _ r=>1+max l.cD r.cD
def Tr.size:Tr→Nat
 | .leaf=>0
 | .node l _ _ r=>1+l.size+r.size
def Tr.bytes:Tr→Nat
 | .leaf=>0
 | .node l _ v r=>v.size+l.bytes+r.bytes
theorem Tr.jP:∀t:Tr,t.cD≤t.size
 | .leaf=>Nat.le_refl _
 | .node l _ _ r=>by
  have:=l.jP;have:=r.jP;simp only[Tr.cD,Tr.size];omega
def rZ(a b:Option Addr)(t:Tr):List Value:=
 match t with
 | .leaf=>[]
 | .node _ nm v _=>[.pointer a, .pointer b]++nm.cells++[.string v, .int .i64 (t.cD:Nat), .int .i64 (t.size:Nat), .int .i64 (t.bytes:Nat)]
theorem zr(a b:Option Addr)(nm:aI)(v:ByteArray)(h z y:Int):
  Tryz.prog.built 177 [(0, .pointer a),(1, .pointer b),(2, .agg #[.int .i64 nm.kind, .string nm.owner, .int .i64 nm.number, .int .i64 nm.index, .string nm.text]),(3, .string v),(4, .int .i64 h),(5, .int .i64 z),(6, .int .i64 y)]=some #[.pointer a, .pointer b, .int .i64 nm.kind, .string nm.owner, .int .i64 nm.number, .int .i64 nm.index, .string nm.text, .string v, .int .i64 h, .int .i64 z, .int .i64 y]:=by kernel_rfl
theorem eD{P:Program}{ops:Array Oper}{rest:List Oper}{j:Oper}{a:Act}{w:World}{Q:Exit→Act→World→Prop}(e:j.guard=none)(t:TypeId)(parts:Array (Nat×Operand))(f:j.op= .build t parts)
  (cells:Array Value)(c:List (Nat×Value))(g:(parts.map fun(i,x)=>(i,a.eval x)).toList=c)(b:P.built t c=some cells)(h:wpList P ops Q rest (a.put j.dst (.agg cells)) w):wpList P ops Q (j::rest) a w:=by
 subst g;exact wpList_plain e fun _ d=>wp_build t parts f (by rw[b];rfl) (by rw[b];exact d _ _ h)
def cq(w:World):Option Addr→Tr→Prop
 |a, .leaf=>a=none
 |a, .node l nm v r=>∃g b c,a=some ⟨g,0,none⟩∧cq w b l∧cq w c r∧ao w g 177 (rZ b c (.node l nm v r)).toArray
theorem cq.aq{w w':World}:∀{a:Option Addr}{t:Tr},cq w a t→Fr ag w w'→cq w' a t
 |_, .leaf,h,_=>h
 |_, .node _ _ _ _,⟨g,i,j,e,c,d,f⟩,b=>⟨g,i,j,e,c.aq b,d.aq b,f.fr b (fun x=>x)⟩
structure Mid(w:World)(g:Nat)(nm:aI)(v:ByteArray):Prop where
 name:∀j x,nm.cells[j]? =some x→w.cell? ⟨g,2+j,none⟩=some x
 val:w.cell? ⟨g,7,none⟩=some (.string v)
theorem Mid.aq{w w':World}{g:Nat}{nm:aI}{v:ByteArray}(h:Mid w g nm v)(a:Fr ag w w'):Mid w' g nm v:=
 ⟨fun j x b=>a.an (h.name j x b) (fun x=>x),a.an h.val (fun x=>x)⟩
theorem Mid.of{w:World}{g:Nat}{a b c d e:Value}{nm:aI}{v:ByteArray}(h:ao w g 177 ([a,b]++nm.cells++[.string v,c,d,e]).toArray):Mid w g nm v:=by
 refine⟨fun j x f=>?_,h.cell 7⟩;have i:j<5:=(List.getElem?_eq_some_iff.1 f).1;rw[h.cell,bD,List.append_assoc,List.getElem?_append_right (by simp),List.getElem?_append_left (by simp[aI.cells];omega)];rw[show 2+j-[a,b].length=j by simp];exact f
theorem cq.lI{w:World}{g:Nat}{l r:Tr}{nm:aI}{v:ByteArray}(h:cq w (some ⟨g,0,none⟩) (.node l nm v r)):Mid w g nm v:=by
 obtain⟨b,c,d,e,_,_,a⟩:=h;cases e;exact Mid.of a
theorem fm(w:World)(a:Option Addr)(t:Tr)(h:cq w a t):Calls Tryz.prog 181 #[.pointer a] w (bG w (.int .i64 (t.cD:Nat))):=by
 cases t with
 |leaf=>
  obtain rfl:a=none:=h;go_enter Tryz.func181,Tryz.ntmps181;go_wp2;go_ret;exact⟨rfl,rfl⟩
 |node l nm v r=>
  obtain⟨g,d,e,rfl,_,_,b⟩:=h;have c:w.cell? ⟨g,8,none⟩=some (.int .i64 ((Tr.node l nm v r).cD:Nat)):=b.cell 8;generalize(Tr.node l nm v r).cD=x at*;clear b;go_enter Tryz.func181,Tryz.ntmps181;go_wp2;go_ret;exact⟨rfl,rfl⟩
theorem oT(w:World)(a:Option Addr)(t:Tr)(h:cq w a t):Calls Tryz.prog 137 #[.pointer a] w (bG w (.int .i64 (t.size:Nat))):=by
 cases t with
 |leaf=>
  obtain rfl:a=none:=h;go_enter Tryz.func137,Tryz.ntmps137;go_wp2;go_ret;exact⟨rfl,rfl⟩
 |node l nm v r=>
  obtain⟨g,d,e,rfl,_,_,b⟩:=h;have c:w.cell? ⟨g,9,none⟩=some (.int .i64 ((Tr.node l nm v r).size:Nat)):=b.cell 9;generalize(Tr.node l nm v r).size=x at*;clear b;go_enter Tryz.func137,Tryz.ntmps137;go_wp2;go_ret;exact⟨rfl,rfl⟩
theorem qR(w:World)(a:Option Addr)(t:Tr)(h:cq w a t):Calls Tryz.prog 138 #[.pointer a] w (bG w (.int .i64 (t.bytes:Nat))):=by
 cases t with
 |leaf=>
  obtain rfl:a=none:=h;go_enter Tryz.func138,Tryz.ntmps138;go_wp2;go_ret;exact⟨rfl,rfl⟩
 |node l nm v r=>
  obtain⟨g,d,e,rfl,_,_,b⟩:=h;have c:w.cell? ⟨g,10,none⟩=some (.int .i64 ((Tr.node l nm v r).bytes:Nat)):=b.cell 10;generalize(Tr.node l nm v r).bytes=x at*;clear b;go_enter Tryz.func138,Tryz.ntmps138;go_wp2;go_ret;exact⟨rfl,rfl⟩
theorem fw(w:World)(m n:Option Addr)(l r:Tr)(g:Nat)(nm:aI)(v:ByteArray)(o:cq w m l)(p:cq w n r)(S:Mid w g nm v)(aS:l.size+r.size≤1048576)(aR:v.size+l.bytes+r.bytes≤1099511627776):
  Calls Tryz.prog 178 #[.pointer m, .pointer (some ⟨g,0,none⟩), .pointer n] w (fun e w'=>∃a,e= .returned (.pointer a)∧cq w' a (.node l nm v r)∧Fr ag w w'):=by
 have y:Hid (∀w',Fr ag w w'→Calls Tryz.prog 181 #[.pointer m] w' (bG w' (.int .i64 (l.cD:Nat)))):=fun w' k=>fm w' m l (o.aq k);have z:Hid (∀w',Fr ag w w'→Calls Tryz.prog 181 #[.pointer n] w' (bG w' (.int .i64 (r.cD:Nat)))):=fun w' k=>fm w' n r (p.aq k);have A:Hid (∀w',Fr ag w w'→Calls Tryz.prog 137 #[.pointer m] w' (bG w' (.int .i64 (l.size:Nat)))):=fun w' k=>oT w' m l (o.aq k);have B:Hid (∀w',Fr ag w w'→Calls Tryz.prog 137 #[.pointer n] w' (bG w' (.int .i64 (r.size:Nat)))):=fun w' k=>oT w' n r (p.aq k);have s:Hid (∀w',Fr ag w w'→Calls Tryz.prog 138 #[.pointer m] w' (bG w' (.int .i64 (l.bytes:Nat)))):=fun w' k=>qR w' m l (o.aq k);have t:Hid (∀w',Fr ag w w'→Calls Tryz.prog 138 #[.pointer n] w' (bG w' (.int .i64 (r.bytes:Nat)))):=fun w' k=>qR w' n r (p.aq k);have Z:=af S;have E:=l.jP;have F:=r.jP;have Y:Hid (∀w' X,Fr ag w w'→ao w' X 177 (rZ m n (.node l nm v r)).toArray→cq w' (some ⟨X,0,none⟩) (.node l nm v r)):=fun w' X k ba=>⟨X,m,n,rfl,o.aq k,p.aq k,ba⟩;have q:Hid (rZ m n (.node l nm v r)=[.pointer m, .pointer n]++nm.cells++[.string v, .int .i64 ((1+max l.cD r.cD:Nat):Int), .int .i64 ((1+l.size+r.size:Nat):Int), .int .i64 ((v.size+l.bytes+r.bytes:Nat):Int)]):=rfl;generalize rZ m n (.node l nm v r)=C at*;obtain⟨I,O⟩:∃I,I=l.cD:=⟨_,rfl⟩;obtain⟨J,P⟩:∃J,J=r.cD:=⟨_,rfl⟩;obtain⟨K,Q⟩:∃K,K=l.size:=⟨_,rfl⟩;obtain⟨L,R⟩:∃L,L=r.size:=⟨_,rfl⟩;obtain⟨G,M⟩:∃G,G=l.bytes:=⟨_,rfl⟩;obtain⟨H,N⟩:∃H,H=r.bytes:=⟨_,rfl⟩;rw[←O]at y E q;rw[←P]at z F q;rw[←Q]at A aS E q;rw[←R]at B aS F q;rw[←M]at s aR q;rw[←N]at t aR q;obtain⟨hm,ae⟩:∃hm:Nat,max (I:Int) (J:Int)=(hm:Int):=⟨max I J,by omega⟩;obtain⟨D,ad⟩:∃D:Nat,(1:Int)+(hm:Int)=(D:Int):=⟨1+hm,by omega⟩;obtain⟨s1,ai⟩:∃s1:Nat,(1:Int)+(K:Int)=(s1:Int):=⟨1+K,by omega⟩;obtain⟨s2,ak⟩:∃s2:Nat,(s1:Int)+(L:Int)=(s2:Int):=⟨s1+L,by omega⟩;obtain⟨b1,ab⟩:∃b1:Nat,(v.size:Int)+(G:Int)=(b1:Int):=⟨v.size+G,by omega⟩;obtain⟨b2,ac⟩:∃b2:Nat,(b1:Int)+(H:Int)=(b2:Int):=⟨b1+H,by omega⟩;have bd:IntKind.i64.wrap (D:Int)=(D:Int):=IntWalk.i64_in _ (by omega);have aV:IntKind.i64.wrap (s1:Int)=(s1:Int):=IntWalk.i64_in _ (by omega);have aW:IntKind.i64.wrap (s2:Int)=(s2:Int):=IntWalk.i64_in _ (by omega);have aT:IntKind.i64.wrap (b1:Int)=(b1:Int):=IntWalk.i64_in _ (by omega);have aU:IntKind.i64.wrap (b2:Int)=(b2:Int):=IntWalk.i64_in _ (by omega);rw[show(1+max I J:Nat)=D by omega,show(1+K+L:Nat)=s2 by omega,show v.size+G+H=b2 by omega]at q;have a2:Hid (Tryz.prog.built 177 [(0, .pointer m),(1, .pointer n),(2, .agg nm.cells.toArray),(3, .string v),(4, .int .i64 (D:Nat)),(5, .int .i64 (s2:Nat)),(6, .int .i64 (b2:Nat))]=some C.toArray):=by rw[q.out];exact zr m n nm v _ _ _
 clear o p S O P Q R M N E F aS aR;go_enter Tryz.func178,Tryz.ntmps178;go_upto_region 1 with fail;refine aE 33 ag [Is (.pointer m),Is (.pointer n),Is (.pointer (some ⟨g,0,none⟩)),Is (.pointer (some ⟨g,0,none⟩)),Is (.pointer (some ⟨g,2,none⟩)),Is (.agg nm.cells.toArray),Is (.pointer (some ⟨g,0,none⟩)),Is (.pointer (some ⟨g,0,none⟩)),Is (.pointer (some ⟨g,7,none⟩)),Is (.string v),Is (.pointer m),Is (.int .i64 I),Is (.pointer n),Is (.int .i64 J),Is (.int .i64 hm),Is (.int .i64 D),Is (.pointer m),Is (.int .i64 K),Is (.int .i64 s1),Is (.pointer n),Is (.int .i64 L),Is (.int .i64 s2),Is (.pointer (some ⟨g,0,none⟩)),Is (.pointer (some ⟨g,0,none⟩)),Is (.pointer (some ⟨g,7,none⟩)),Is (.string v),Is (.int .i64 v.size),Is (.pointer m),Is (.int .i64 G),Is (.int .i64 b1),Is (.pointer n),Is (.int .i64 H),Is (.int .i64 b2)] [] (fun _=>True) (fun _ _=>false) (by kernel_rfl) (by kernel_rfl) (by kernel_rfl) (by kernel_rfl) ⟨Is.ah _,Is.ah _,Is.ah _,Is.ah _,Is.ah _,Is.ah _,Is.ah _,Is.ah _,Is.ah _,Is.ah _,Is.ah _,Is.ah _,Is.ah _,Is.ah _,Is.ah _,Is.ah _,Is.ah _,Is.ah _,Is.ah _,Is.ah _,Is.ah _,Is.ah _,Is.ah _,Is.ah _,Is.ah _,Is.ah _,Is.ah _,Is.ah _,Is.ah _,Is.ah _,Is.ah _,Is.ah _,Is.ah _,trivial⟩ trivial (fun _ _ _ _ h=>h) trivial ?_ ?_
 ·refine⟨?_,?_,?_,?_,?_,?_,?_,?_,?_,?_,?_,?_,?_,?_,?_,?_,?_,?_,?_,?_,?_,?_,?_,?_,?_,?_,?_,?_,?_,?_,?_,?_,?_,trivial⟩;all_goals intro u w' d k b f c i
  all_goals simp only[bJ,bK,bL,bM,au,Act.put,bN,bO,bP,Nat.reduceAdd,Nat.zero_add]
  ·clear b f c i;refine aj ?_;go_simp;exact⟨_,rfl,al⟩
  ·clear b f c i;refine aj ?_;go_simp;exact⟨_,rfl,al⟩
  ·clear b f c i;refine aj ?_;go_simp;exact⟨_,rfl,al⟩
  ·have a4:u 2=_:=b 2;clear b f c i;simp only[a4];refine aj ?_;go_simp;exact⟨_,rfl,al⟩
  ·have a5:u 3=_:=b 3;clear b f c i;simp only[a5];refine aj ?_;go_simp;exact⟨_,rfl,al⟩
  ·have a6:u 4=_:=b 4;clear b f c i;simp only[a6];refine aj ?_;exact az _ _ rfl ⟨g,2,none⟩ rfl nm.cells _ (fun j x bc=>by rw[Addr.add_mid];exact k.an (Z.out.name j x bc) (fun x=>x)) Tryz.underlying106 rfl bB ⟨_,rfl,al⟩
  ·clear b f c i;refine aj ?_;go_simp;exact⟨_,rfl,al⟩
  ·have a7:u 6=_:=b 6;clear b f c i;simp only[a7];refine aj ?_;go_simp;exact⟨_,rfl,al⟩
  ·have a8:u 7=_:=b 7;clear b f c i;simp only[a8];refine aj ?_;go_simp;exact⟨_,rfl,al⟩
  ·have a9:u 8=_:=b 8;clear b f c i;simp only[a9];refine aj ?_;have bb:w'.cell? ⟨g,7,none⟩=some (.string v):=k.an Z.out.val (fun x=>x);go_simp;exact⟨_,rfl,al⟩
  ·clear b f c i;refine aj ?_;go_simp;exact⟨_,rfl,al⟩
  ·have am:u 10=_:=b 10;clear b f c i;simp only[am];refine aj ?_;go_simp;refine(y.out _ k).mono ?_;rintro e W⟨rfl,rfl⟩;exact⟨_,rfl,al⟩
  ·clear b f c i;refine aj ?_;go_simp;exact⟨_,rfl,al⟩
  ·have ar:u 12=_:=b 12;clear b f c i;simp only[ar];refine aj ?_;go_simp;refine(z.out _ k).mono ?_;rintro e W⟨rfl,rfl⟩;exact⟨_,rfl,al⟩
  ·have ap:u 11=_:=b 11;have av:u 13=_:=b 13;clear b f c i;simp only[ap,av];refine aj ?_;go_simp;exact⟨_,rfl,al⟩
  ·have aw:u 14=_:=b 14;clear b f c i;simp only[aw];refine aj ?_;go_simp;exact⟨_,rfl,al⟩
  ·clear b f c i;refine aj ?_;go_simp;exact⟨_,rfl,al⟩
  ·have ax:u 16=_:=b 16;clear b f c i;simp only[ax];refine aj ?_;go_simp;refine(A.out _ k).mono ?_;rintro e W⟨rfl,rfl⟩;exact⟨_,rfl,al⟩
  ·have aA:u 17=_:=b 17;clear b f c i;simp only[aA];refine aj ?_;go_simp;exact⟨_,rfl,al⟩
  ·clear b f c i;refine aj ?_;go_simp;exact⟨_,rfl,al⟩
  ·have aC:u 19=_:=b 19;clear b f c i;simp only[aC];refine aj ?_;go_simp;refine(B.out _ k).mono ?_;rintro e W⟨rfl,rfl⟩;exact⟨_,rfl,al⟩
  ·have aB:u 18=_:=b 18;have aD:u 20=_:=b 20;clear b f c i;simp only[aB,aD];refine aj ?_;go_simp;exact⟨_,rfl,al⟩
  ·clear b f c i;refine aj ?_;go_simp;exact⟨_,rfl,al⟩
  ·have aG:u 22=_:=b 22;clear b f c i;simp only[aG];refine aj ?_;go_simp;exact⟨_,rfl,al⟩
  ·have aH:u 23=_:=b 23;clear b f c i;simp only[aH];refine aj ?_;go_simp;exact⟨_,rfl,al⟩
  ·have aJ:u 24=_:=b 24;clear b f c i;simp only[aJ];refine aj ?_;have bb:w'.cell? ⟨g,7,none⟩=some (.string v):=k.an Z.out.val (fun x=>x);go_simp;exact⟨_,rfl,al⟩
  ·have aK:u 25=_:=b 25;clear b f c i;simp only[aK];refine aj ?_;go_simp;exact⟨_,rfl,al⟩
  ·clear b f c i;refine aj ?_;go_simp;exact⟨_,rfl,al⟩
  ·have aM:u 27=_:=b 27;clear b f c i;simp only[aM];refine aj ?_;go_simp;refine(s.out _ k).mono ?_;rintro e W⟨rfl,rfl⟩;exact⟨_,rfl,al⟩
  ·have aL:u 26=_:=b 26;have aN:u 28=_:=b 28;clear b f c i;simp only[aL,aN];refine aj ?_;go_simp;exact⟨_,rfl,al⟩
  ·clear b f c i;refine aj ?_;go_simp;exact⟨_,rfl,al⟩
  ·have aP:u 30=_:=b 30;clear b f c i;simp only[aP];refine aj ?_;go_simp;refine(t.out _ k).mono ?_;rintro e W⟨rfl,rfl⟩;exact⟨_,rfl,al⟩
  ·have aO:u 29=_:=b 29;have aQ:u 31=_:=b 31;clear b f c i;simp only[aO,aQ];refine aj ?_;go_simp;exact⟨_,rfl,al⟩
 ·intro u w' k b i;have c:u 0=_:=b 0 (by omega);have f:u 1=_:=b 1 (by omega);have aZ:u 5=_:=b 5 (by omega);have a0:u 9=_:=b 9 (by omega);have T:u 15=_:=b 15 (by omega);have U:u 21=_:=b 21 (by omega);have V:u 32=_:=b 32 (by omega);clear b i;simp only[bJ,bK,bL,bM,au,Act.put,bN,bO,bP,dL,dM,Nat.reduceAdd,Nat.zero_add,c,f,aZ,a0,T,U,V];have aX:=af k;clear k c f aZ a0 T U V ae ad ai ak ab ac bd aV aW aT aU y z A B s t;go_wp2_with(refine eD rfl 177 _ rfl C.toArray _ (by simp only[List.map_toArray,List.map_cons,List.map_nil];rfl) a2.out (bh.go ?hold));unfold bh;go_wp2_with(refine ay rfl 177 (.tmp 40) rfl C.toArray rfl ?_);intro w2 a1;have aa:=af a1;clear a1;generalize aY:w'.heap.size=g2 at*;have a3:=af aY;clear aY;go_wp2;go_ret;exact⟨_,rfl,Y.out w2 g2 (aX.out.trans aa.out.fr) (by have h:=aa.out.aF;rw[a3.out]at h;exact h),aX.out.trans aa.out.fr⟩
theorem uU(a:Int)(w:World):Calls Tryz.prog 164 #[.int .i64 a] w (bG w (.bool false)):=by
 go_enter Tryz.func164,Tryz.ntmps164;go_wp2;go_ret;exact⟨rfl,rfl⟩
def Ek(a b:Int):Int:=if a<b then-1 else if b<a then 1 else 0
theorem iq(a b:Int)(w:World):Calls Tryz.prog 133 #[.int .i64 a, .int .i64 b] w (bG w (.int .i64 (Ek a b))):=by
 have f:=af (fun w=>uU a w);have g:=af (fun w=>uU b w);unfold Ek;by_cases c:a<b;·rw[if_pos c];have t1:decide (a<b)=true:=decide_eq_true c;clear c;go_enter Tryz.func133,Tryz.ntmps133;go_wp2_with fail;refine(f.out _).mono ?_;rintro e w'⟨rfl,rfl⟩;go_wp2_with fail;refine(g.out _).mono ?_;rintro e w'⟨rfl,rfl⟩;go_wp2;go_ret;exact⟨rfl,rfl⟩
 ·rw[if_neg c];have t1:decide (a<b)=false:=decide_eq_false c;by_cases d:b<a;·rw[if_pos d];have t2:decide (b<a)=true:=decide_eq_true d;clear c d;go_enter Tryz.func133,Tryz.ntmps133;go_wp2_with fail;refine(f.out _).mono ?_;rintro e w'⟨rfl,rfl⟩;go_wp2_with fail;refine(g.out _).mono ?_;rintro e w'⟨rfl,rfl⟩;go_wp2;go_ret;exact⟨rfl,rfl⟩
  ·rw[if_neg d];have t2:decide (b<a)=false:=decide_eq_false d;go_enter Tryz.func133,Tryz.ntmps133;go_wp2_with fail;refine(f.out _).mono ?_;rintro e w'⟨rfl,rfl⟩;go_wp2_with fail;refine(g.out _).mono ?_;rintro e w'⟨rfl,rfl⟩;go_wp2;go_ret;exact⟨rfl,rfl⟩
theorem Cr(a:ByteArray)(w:World):Calls Tryz.prog 176 #[.string a] w (bG w (.bool false)):=by
 go_enter Tryz.func176,Tryz.ntmps176;go_wp2;go_ret;exact⟨rfl,rfl⟩
theorem oL(a:ByteArray)(w:World):Calls Tryz.prog 134 #[.string a, .string a] w (bG w (.int .i64 0)):=by
 go_enter Tryz.func134,Tryz.ntmps134;go_wp2;go_ret;exact⟨rfl,rfl⟩
def nt:aI:=⟨15,ByteArray.empty,0,0,ByteArray.empty⟩
def kO:Array Value:=#[.int .i64 15, .string ByteArray.empty, .int .i64 0, .int .i64 0, .string ByteArray.empty]
def rY:Value:= .agg #[.int .i64 0, .string ByteArray.empty, .int .i64 0, .int .i64 0, .string ByteArray.empty]
theorem EJ(w:World):(zeroValue 106).run Tryz.prog w= .ok rY w:=by kernel_rfl
theorem zp:Tryz.prog.built 106 [(0, .int .i64 15)]=some kO:=by kernel_rfl
theorem Cd:kO.all (·.oneCell')=true:=by kernel_rfl
theorem qI(w:World):Calls Tryz.prog 54 #[] w (aK w (.agg kO)):=by
 have B:=af zp;have O:=af Cd;have j:Hid ((Tryz.prog.info? 106).map (·.size)=some kO.size):=bB;have Z:Hid ((#[.int .i64 0, .string ByteArray.empty, .int .i64 0, .int .i64 0, .string ByteArray.empty]:Array Value).size=kO.size):=rfl;generalize kO=a at*;go_enter Tryz.func54,Tryz.ntmps54;go_wp2_with(refine ak rfl 106 rfl rY EJ #[.int .i64 0, .string ByteArray.empty, .int .i64 0, .int .i64 0, .string ByteArray.empty] rfl ?_);intro w1 n1;have b:=af n1;clear n1;go_wp2_with(refine eD rfl 106 #[(0, .const (.int .i64 15))] rfl a _ (by simp only[List.map_toArray,List.map_cons,List.map_nil];rfl) B.out (bh.go ?hold));unfold bh;refine ai rfl 106 (.tmp 0) _ rfl w.heap.size a rfl rfl _ _ b.out.aF j.out Z.out O.out ?_;intro c b5 f5;have d:=af b5;have f:Hid (Fr ag w c):=b.out.fr.aw f5 (fun i h e=>by have g:i=w.heap.size:=e;omega);clear b5 f5;go_wp2;exact bodyPost_ret (results_cell_row (fn:=Tryz.f54) (p:=0) (ty:=106) Tryz.results54 _ c _ 106 a (0,0) _ rfl d.out Tryz.underlying106 rfl j.out) rfl ⟨rfl,f.out⟩
theorem rR(n nm:aI)(v:ByteArray)(l r:Tr)(g:Nat)(w:World)(t:cq w (some ⟨g,0,none⟩) (.node l nm v r))
  (s:∀w',Fr ag w w'→Calls Tryz.prog 128 #[.agg n.cells.toArray, .agg nm.cells.toArray] w' (aK w' (.int .i64 0))):
  Calls Tryz.prog 108 #[.pointer (some ⟨g,0,none⟩), .agg n.cells.toArray] w (aK w (.pointer (some ⟨g,0,none⟩))):=by
 have y:=af s;have o:=af t.lI;clear s t;go_enter Tryz.func108,Tryz.ntmps108;go_wp2_with(refine ay rfl 106 (.tmp 1) rfl n.cells.toArray rfl ?_);intro w1 n1;have m:=af n1.fr;have k:=af n1.aF;clear n1;generalize w.heap.size=q at*;have B:Hid (ao w1 q 106 n.cells.toArray):=k.out;clear k;have A:=af (o.out.aq m.out);go_wp2;refine wp_loop_rounds 1 ?_;rw[rounds_succ];go_upto_region 2 with fail;refine aE 7 ag [Is (.agg n.cells.toArray),Is (.pointer (some ⟨g,0,none⟩)),Is (.pointer (some ⟨g,0,none⟩)),Is (.pointer (some ⟨g,2,none⟩)),Is (.agg nm.cells.toArray),Is (.int .i64 0),Is (.int .i64 0)] [] (fun _=>True) (fun _ _=>false) (by kernel_rfl) (by kernel_rfl) (by kernel_rfl) (by kernel_rfl) ⟨Is.ah _,Is.ah _,Is.ah _,Is.ah _,Is.ah _,Is.ah _,Is.ah _,trivial⟩ trivial (fun _ _ _ _ h=>h) trivial ?_ ?_
 ·refine⟨?_,?_,?_,?_,?_,?_,?_,trivial⟩;all_goals intro u w' d i a f c b
  all_goals simp only[bJ,bK,bL,bM,au,Act.put,bN,bO,bP,Nat.reduceAdd,Nat.zero_add]
  ·clear a f c b;refine aj ?_;exact az _ _ rfl ⟨q,0,none⟩ rfl n.cells _ (fun j x p=>by rw[Addr.add_mid,Nat.zero_add];exact(B.out.fr i (fun x=>x)).cell j|>.trans (by rw[bD];exact p)) Tryz.underlying106 rfl bB ⟨_,rfl,al⟩
  ·clear a f c b;refine aj ?_;go_simp;exact⟨_,rfl,al⟩
  ·have D:u 1=_:=a 1;clear a f c b;simp only[D];refine aj ?_;go_simp;exact⟨_,rfl,al⟩
  ·have E:u 2=_:=a 2;clear a f c b;simp only[E];refine aj ?_;go_simp;exact⟨_,rfl,al⟩
  ·have F:u 3=_:=a 3;clear a f c b;simp only[F];refine aj ?_;exact az _ _ rfl ⟨g,2,none⟩ rfl nm.cells _ (fun j x p=>by rw[Addr.add_mid];exact i.an (A.out.name j x p) (fun x=>x)) Tryz.underlying106 rfl bB ⟨_,rfl,al⟩
  ·have C:u 0=_:=a 0;have G:u 4=_:=a 4;clear a f c b;simp only[C,G];refine aj ?_;go_simp;refine(y.out _ (m.out.trans i)).mono ?_;rintro e I⟨rfl,f4⟩;exact⟨_,rfl,f4.bI,rfl,trivial⟩
  ·have H:u 5=_:=a 5;clear a f c b;simp only[H];refine aj ?_;go_simp;exact⟨_,rfl,al⟩
 ·intro u w' i a b;have k6:u 6=_:=a 6 (by omega);clear a b;simp only[bJ,bK,bL,bM,au,Act.put,bN,bO,bP,dL,dM,Nat.reduceAdd,Nat.zero_add,k6];have z:=af (m.out.trans i);clear i k6;go_wp2;go_ret;exact⟨rfl,z.out⟩
theorem DT(nm:aI)(v:ByteArray)(g:Nat)(w:World)(c:Mid w g nm v)(h:v.size≤1099511627776):
  Calls Tryz.prog 163 #[.pointer none, .pointer (some ⟨g,0,none⟩)] w (fun e w'=>∃a,e= .returned (.pointer a)∧cq w' a (.node .leaf nm v .leaf)∧Fr ag w w'):=by
 have d:=af (fw w none none .leaf .leaf g nm v rfl rfl c (by simp[Tr.size]) (by simp only[Tr.bytes];omega));clear c;go_enter Tryz.func163,Tryz.ntmps163;go_wp2_with fail;refine d.out.mono ?_;rintro e w1⟨a,rfl,b,f1⟩;have H1:=af b;have f:=af f1;clear b f1;go_wp2;go_ret;exact⟨_,rfl,H1.out,f.out⟩
def str(l:List UInt8):ByteArray:=⟨l.toArray⟩
structure gX where
 word:ByteArray
 owner:Bool
 number:Bool
 index:Bool
 text:Bool
 aO:Int
def gX.cells(u:gX):List Value:=[.string u.word, .bool u.owner, .bool u.number, .bool u.index, .bool u.text, .int .i64 u.aO]
def ij:List gX:=[
 ⟨str [],false,false,false,false,0⟩,
 ⟨str [112,114,111,99,101,115,115],true,false,false,false,0⟩,
 ⟨str [114,101,103,105,115,116,101,114,115],true,false,false,false,0⟩,
 ⟨str [112,97,103,101],true,false,true,false,63⟩,
 ⟨str [116,97,98,108,101],true,false,false,false,0⟩,
 ⟨str [99,111,117,110,116,101,114],true,false,false,false,0⟩,
 ⟨str [112,101,110,100,105,110,103],true,false,false,false,0⟩,
 ⟨str [110,111,100,101],true,true,false,false,0⟩,
 ⟨str [98,108,111,99,107],true,true,true,false,63⟩,
 ⟨str [101,110,116,114,121],true,true,false,true,0⟩,
 ⟨str [108,105,115,116,105,110,103],true,true,false,false,0⟩,
 ⟨str [112,105,112,101],true,true,false,false,0⟩,
 ⟨str [108,111,99,107],true,true,false,false,0⟩,
 ⟨str [116,101,114,109,105,110,97,108],false,true,false,false,0⟩,
 ⟨str [97,99,99,111,117,110,116],false,false,false,true,0⟩,
 ⟨str [99,108,111,99,107],false,false,false,false,0⟩,
 ⟨str [112,111,114,116],false,true,false,false,0⟩,
 ⟨str [98,111,120],false,false,false,true,0⟩,
 ⟨str [111,117,116],true,true,true,false,1073741824⟩,
 ⟨str [115,104,101,108,108],true,false,false,false,0⟩,
 ⟨str [101,112,111,99,104],false,false,false,false,0⟩]
def GY:List Value:=[.string (str [99,108,111,99,107]), .bool false, .bool false, .bool false, .bool false, .int .i64 0]
structure eG(w:World):Prop where
 row:∀k u,ij[k]? =some u→∀j v,u.cells[j]? =some v→w.cell? ⟨0,k*6+j,none⟩=some v
theorem eG.aq{w w':World}(h:eG w)(a:Fr ag w w'):eG w':=⟨fun k u b j v c=>a.an (h.row k u b j v c) (fun x=>x)⟩
theorem eG.clock{w:World}(h:eG w):∀j v,GY[j]? =some v→w.cell? ⟨0,90+j,none⟩=some v:=fun j v a=>h.row 15 _ rfl j v a
def EE:Value:= .agg #[.string ByteArray.empty, .bool false, .bool false, .bool false, .bool false, .int .i64 0]
theorem vS(w:World):(zeroValue 189).run Tryz.prog w= .ok EE w:=by kernel_rfl
theorem jQ:(Tryz.prog.info? 189).map (·.size)=some 6:=by kernel_rfl
def EX(w:World)(s:Nat)(t:Tr):Prop:=∃a,ao w s 174 #[.pointer a]∧cq w a t
theorem EX.aq{w w':World}{s:Nat}{t:Tr}(h:EX w s t)(b:Fr ag w w'):EX w' s t:=by
 obtain⟨a,c,d⟩:=h;exact⟨a,c.fr b (fun x=>x),d.aq b⟩
theorem jY{P:Program}{f:Oper}{a:Act}{w:World}{K:Act→World→Prop}{Q:Exit→Act→World→Prop}(t:TypeId)(parts:Array (Nat×Operand))(d:f.op= .build t parts)
  (cells:Array Value)(c:List (Nat×Value))(e:(parts.map fun(i,x)=>(i,a.eval x)).toList=c)(b:P.built t c=some cells)(h:K (a.put f.dst (.agg cells)) w):f.wp P a w K Q:=by
 subst e;exact wp_build t parts d (by rw[b];rfl) (by rw[b];exact h)
theorem qG(w:World):Calls Tryz.prog 52 #[] w (fun e w'=>∃s,e= .returned (.pointer (some ⟨s,0,none⟩))∧EX w' s .leaf∧Fr ag w w'):=by
 go_enter Tryz.func52,Tryz.ntmps52;go_wp2_with(refine ay rfl 174 (.tmp 1) rfl #[.pointer none] rfl ?_);intro w1 n1;have a:=af n1;clear n1;go_wp2;go_ret;exact⟨_,rfl,⟨none,a.out.aF,rfl⟩,a.out.fr⟩
theorem zf(w:World)(s:Nat)(t:Tr)(h:EX w s t):Calls Tryz.prog 94 #[.pointer (some ⟨s,0,none⟩)] w (bG w (.int .i64 (t.size:Nat))):=by
 obtain⟨a,b,d⟩:=h;have f:=af (oT w a t d);have c:w.cell? ⟨s,0,none⟩=some (.pointer a):=b.cell 0;clear b d;go_enter Tryz.func94,Tryz.ntmps94;go_wp2_with fail;refine f.out.mono ?_;rintro e w'⟨rfl,rfl⟩;go_wp2;go_ret;exact⟨rfl,rfl⟩
theorem aS{P:Program}{ops:Array Oper}{rest:List Oper}{u:Oper}{a:Act}{w:World}{Q:Exit→Act→World→Prop}(j:u.guard=none)(ty:TypeId)(x y:Operand)(p:u.op= .store ty x y)
  (g f:Nat)(v:Value)(r:a.eval x= .pointer (some ⟨g,f,none⟩))(s:a.eval y=v)(m:v.oneCell'=true)(d:(P.info? ty).map (·.size)=some 1)
  (t:TypeId)(cs cs':Array Value)(e:ao w g t cs)(o:f<cs.size)(i:cs.setIfInBounds f v=cs')
  (h:∀w',ao w' g t cs'→Fr (fun k=>k=g) w w'→wpList P ops Q rest (a.put u.dst undef) w'):wpList P ops Q (u::rest) a w:=by
 subst i;obtain⟨b,l,q⟩:∃b,P.info? ty=some b∧b.size=1:=by
  cases he:P.info? ty with
  |none=>rw[he]at d;cases d
  |some b=>rw[he]at d;exact⟨b,rfl,by simpa using d⟩
 have c:=Lib.rl_storeVar_one (P:=P) ty b l q ⟨g,f,none⟩ v (cs[f]) m w (by rw[e.cell];simp[o]) (e.frozen _);refine wpList_plain j fun K n=>?_;unfold Oper.wp execOp;simp only[p,r,s,Instr.storeAt,Instr.sureAddr,Sem.run_bind,Sem.run_pure,Result.andThen_ok,c];exact n _ _ (h _ (e.jI f v) (Fr.setCell (T:=fun k=>k=g) (Fr.refl _ w) (fun _=>rfl) v))
theorem kV{P:Program}{r:Oper}{a:Act}{w:World}{K:Act→World→Prop}{Q:Exit→Act→World→Prop}(ty:TypeId)(x y:Operand)(n:r.op= .store ty x y)
  (g f:Nat)(v:Value)(p:a.eval x= .pointer (some ⟨g,f,none⟩))(q:a.eval y=v)(l:v.oneCell'=true)(d:(P.info? ty).map (·.size)=some 1)
  (t:TypeId)(cs cs':Array Value)(e:ao w g t cs)(m:f<cs.size)(i:cs.setIfInBounds f v=cs')
  (h:∀w',ao w' g t cs'→Fr (fun k=>k=g) w w'→K (a.put r.dst undef) w'):r.wp P a w K Q:=by
 subst i;obtain⟨b,j,o⟩:∃b,P.info? ty=some b∧b.size=1:=by
  cases he:P.info? ty with
  |none=>rw[he]at d;cases d
  |some b=>rw[he]at d;exact⟨b,rfl,by simpa using d⟩
 have c:=Lib.rl_storeVar_one (P:=P) ty b j o ⟨g,f,none⟩ v (cs[f]) l w (by rw[e.cell];simp[m]) (e.frozen _);unfold Oper.wp execOp;simp only[n,p,q,Instr.storeAt,Instr.sureAddr,Sem.run_bind,Sem.run_pure,Result.andThen_ok,c];exact h _ (e.jI f v) (Fr.setCell (T:=fun k=>k=g) (Fr.refl _ w) (fun _=>rfl) v)
structure CV where
 nm:aI
 value:ByteArray
 bm:Bool
def CV.cells(c:CV):List Value:=c.nm.cells++[.string c.value, .bool c.bm]
theorem CV.eA(c:CV):c.cells.length=7:=rfl
def xi(s:ByteArray)(k:Int):ByteArray:=s.extract 0 (min (s.size:Int) k).toNat
def CV.cut(c:CV):CV:=⟨⟨c.nm.kind,xi c.nm.owner 100,c.nm.number,c.nm.index,xi c.nm.text 100⟩,xi c.value 200,c.bm⟩
theorem Cp:(Tryz.prog.info? 247).map (·.size)=some 7:=by kernel_rfl
theorem jw:(Tryz.prog.info? 119).map (·.size)=some 7:=by kernel_rfl
theorem oK:(Tryz.prog.info? 9).map (·.size)=some 1:=by kernel_rfl
theorem CV.one(c:CV):c.cells.toArray.all (·.oneCell')=true:=by
 simp[CV.cells,aI.cells,Value.oneCell']
theorem aI.one(n:aI):n.cells.toArray.all (·.oneCell')=true:=by
 simp[aI.cells,Value.oneCell']
theorem BU(n:aI):Tryz.prog.built 106 [(0, .int .i64 n.kind),(1, .string n.owner),(2, .int .i64 n.number),(3, .int .i64 n.index),(4, .string n.text)]=some n.cells.toArray:=by kernel_rfl
theorem Hv(n:aI)(w:World):Calls Tryz.prog 160 #[.agg n.cells.toArray] w (aK w (.agg n.cells.toArray)):=by
 have B:=af (BU n);have O:=af n.one;have E:Hid ((Tryz.prog.info? 106).map (·.size)=some n.cells.toArray.size):=bB;have Z:Hid ((#[.int .i64 0, .string ByteArray.empty, .int .i64 0, .int .i64 0, .string ByteArray.empty]:Array Value).size=n.cells.toArray.size):=rfl;go_enter Tryz.func160,Tryz.ntmps160;go_wp2_with(refine ay rfl 245 (.tmp 0) rfl n.cells.toArray rfl ?_);intro w1 n1;have j:=af n1.fr;have k:=af n1.aF;clear n1;generalize w.heap.size=c at*;go_wp2_with(refine ak rfl 106 rfl rY EJ #[.int .i64 0, .string ByteArray.empty, .int .i64 0, .int .i64 0, .string ByteArray.empty] rfl ?_);intro w2 m;have f:=af m;clear m;have q:=af (j.out.trans f.out.fr);have a:=af (k.out.fr f.out.fr (fun x=>x));generalize d:w1.heap.size=g at*;have b:=af d;clear d;have l:Hid (ao w2 g 106 #[.int .i64 0, .string ByteArray.empty, .int .i64 0, .int .i64 0, .string ByteArray.empty]):=by have h:=f.out.aF;rw[b.out]at h;exact h
 have t:w2.cell? ⟨c,0,none⟩=some (.int .i64 n.kind):=a.out.cell 0;have u:w2.cell? ⟨c,1,none⟩=some (.string n.owner):=a.out.cell 1;have v:w2.cell? ⟨c,2,none⟩=some (.int .i64 n.number):=a.out.cell 2;have c3:w2.cell? ⟨c,3,none⟩=some (.int .i64 n.index):=a.out.cell 3;have y:w2.cell? ⟨c,4,none⟩=some (.string n.text):=a.out.cell 4;clear k;go_wp2_with(refine eD rfl 106 _ rfl n.cells.toArray _ (by simp only[List.map_toArray,List.map_cons,List.map_nil];rfl) B.out (bh.go ?hold));unfold bh;refine ai rfl 106 (.tmp 2) _ rfl g n.cells.toArray rfl rfl _ _ l.out E.out Z.out O.out ?_;intro o b5 f5;have r:=af b5;have s:Hid (Fr ag w o):=q.out.aw f5 (fun i A e=>by have z:i=g:=e;have C:=b.out;have D:=j.out.size;omega);clear b5 f5 f a l b t u v c3 y;go_wp2;exact bodyPost_ret (results_cell_row (fn:=Tryz.f160) (p:=2) (ty:=106) Tryz.results160 _ o _ 106 n.cells.toArray (0,0) _ rfl r.out Tryz.underlying106 rfl E.out) rfl ⟨rfl,s.out⟩
theorem Iv:∀(xs:List CV)(k:Nat)(c:CV),xs[k]? =some c→∀j x,c.cells[j]? =some x→(xs.flatMap CV.cells)[k*7+j]? =some x
 |[],_,_,h,_,_,_=>by simp at h
 |y::b,0,c,h,j,x,a=>by
  simp only[List.getElem?_cons_zero,Option.some.injEq]at h;subst h;have d:j<7:=(List.getElem?_eq_some_iff.1 a).1;rw[List.flatMap_cons,Nat.zero_mul,Nat.zero_add,List.getElem?_append_left d];exact a
 |y::b,k+1,c,h,j,x,a=>by
  rw[List.flatMap_cons,List.getElem?_append_right (by rw[CV.eA];omega),CV.eA,show(k+1)*7+j-7=k*7+j by omega];exact Iv b k c (by simpa using h) j x a
structure CL(w:World)(S:Nat→Prop)(A:Option Addr)(n:Nat)(xs:List CV):Prop where
 rd:Rd w S 7 A n (xs.flatMap CV.cells)
 len:xs.length=n
theorem CL.aq{w w':World}{S:Nat→Prop}{A:Option Addr}{n:Nat}{xs:List CV}(h:CL w S A n xs)(a:Fr ag w w'):CL w' S A n xs:=⟨h.rd.aq a,h.len⟩
theorem CL.at_{w:World}{S:Nat→Prop}{A:Option Addr}{n k:Nat}{xs:List CV}(h:CL w S A n xs)(f:k<n):∃b c,A=some b∧xs[k]? =some c∧∀j x,c.cells[j]? =some x→w.cell? ((b.add (k*7)).add j)=some x:=by
 obtain⟨b,e,i,d⟩:=h.rd.2 (by omega);have a:k<xs.length:=by rw[h.len];exact f
 refine⟨b,xs[k],e,List.getElem?_eq_getElem a,fun j x g=>?_⟩;rw[gD];exact d _ x (Iv xs k xs[k] (List.getElem?_eq_getElem a) j x g)
theorem KU:(Tryz.prog.info? 245).map (·.size)=some 5:=by kernel_rfl
theorem Ic(c:CV):Tryz.prog.built 119 [(0, .agg c.nm.cells.toArray),(1, .string c.value),(2, .bool c.bm)]=some c.cells.toArray:=by kernel_rfl
def dj:Value:= .agg #[.int .i64 0, .string ByteArray.empty, .int .i64 0, .int .i64 0, .string ByteArray.empty, .string ByteArray.empty, .bool false]
theorem LH(w:World):(zeroValue 247).run Tryz.prog w= .ok dj w:=by kernel_rfl
theorem Kj:(Tryz.prog.info? 247).map (fun i=>(i.zero,i.size,i.bytes))=some (some dj,7,80):=by kernel_rfl
theorem o3:(Tryz.prog.info? 119).map (fun i=>(i.zero,i.size,i.bytes))=some (some dj,7,80):=by kernel_rfl
theorem foldl_set:∀(l:List Value)(k off:Nat)(b:List Value),off+k+l.length≤b.length→(l.zipIdx k).foldl (fun cs x=>cs.setIfInBounds (off+x.2) x.1) b.toArray=(b.take (off+k)++l++b.drop (off+k+l.length)).toArray
 |[],k,off,b,_=>by simp
 |c::r,k,off,b,h=>by
  simp only[List.length_cons]at h;rw[List.zipIdx_cons,List.foldl_cons,List.setIfInBounds_toArray,foldl_set r (k+1) off (b.set (off+k) c) (by rw[List.length_set];omega)];congr 1;have a:(b.set (off+k) c).take (off+(k+1))=b.take (off+k)++[c]:=by
   rw[List.take_set,show off+(k+1)=(off+k)+1 by omega,List.take_succ_eq_append_getElem (by omega:off+k<b.length),List.set_append_right _ _ (by simp;omega)];simp;rw[show off+k-min (off+k) b.length=0 by omega];rfl
  have d:(b.set (off+k) c).drop (off+(k+1)+r.length)=b.drop (off+k+(c::r).length):=by
   rw[List.drop_set_of_lt (by omega)];congr 1;simp only[List.length_cons];omega
  rw[a,d];simp
theorem jO(cs b:Array Value)(off:Nat)(h:off+cs.size≤b.size):cs.zipIdx.foldl (fun cs(x:Value×Nat)=>cs.setIfInBounds (off+x.2) x.1) b=(b.toList.take off++cs.toList++b.toList.drop (off+cs.size)).toArray:=by
 rw[←Array.foldl_toList,Array.toList_zipIdx];have:=foldl_set cs.toList 0 off b.toList (by simpa using h);simpa using this
theorem mi(cs b:Array Value)(d:cs.size=7)(c:b.size=7):Instr.fill (fun i=>some (i*7,7)) b [(0, .agg cs)]=some cs:=by
 have a:=jO cs b 0 (by omega);simp only[Instr.fill,Value.cells,d,c,Nat.zero_mul,Nat.zero_add,ne_eq,not_true_eq_false,decide_false,Bool.false_or,gt_iff_lt,Nat.lt_irrefl,Bool.false_eq_true,if_false];simp only[Nat.zero_add,List.take_zero,List.nil_append,d]at a;rw[List.drop_of_length_le (by simp[c]),List.append_nil]at a;rw[a]
theorem nL{w:World}{base n m:Nat}{e l:TypeId}{size a:Nat}{v o:Value}{xs r:List Value}(h:w.ownsRow base e size v n xs)(p:w.ownsRow base l a o m r)(f:e≠l):∀k,v.ownBlock=some k→o.ownBlock≠some k:=by
 intro k c d;rcases h.2 with⟨rfl,_⟩|⟨g,cap,cur,rfl,_,q,_⟩;·cases c
 ·rcases p.2 with⟨rfl,_⟩|⟨s,i,j,rfl,_,b,_⟩;·cases d
  ·simp only[Value.ownBlock,Option.some.injEq]at c d;subst c;subst d;rw[q]at b;cases b;exact f rfl
theorem J2{w:World}{base n k:Nat}{e:TypeId}{size:Nat}{v:Value}{xs:List Value}(h:w.ownsRow base e size v n xs)(a:v.ownBlock=some k):k<w.heap.size:=by
 rcases h.2 with⟨rfl,_⟩|⟨g,cap,cur,rfl,_,b,_⟩;·cases a
 ·simp only[Value.ownBlock,Option.some.injEq]at a;subst a;exact(Array.getElem?_eq_some_iff.1 b).1
theorem bW.move{e:TypeId}{size:Nat}{w w1 w2:World}{v:Value}{n:Nat}{xs:List Value}{T:Nat→Prop}(h:bW e size w (.slice none 0 0) w1 v n xs)(c:Fr T w1 w2)(b:∀k,v.ownBlock=some k→¬T k)(a:Fr ag w w2):bW e size w (.slice none 0 0) w2 v n xs:=
 ⟨aQ h.own c b,a.bI,h.ez⟩
theorem Jv(n:Nat)(xs:List CV)(A:Option Addr)(cq:Nat)(S:Nat→Prop)(w:World)(cb:CL w S A n xs)(cB:n≤9223372036854775807):
  Calls Tryz.prog 127 #[.slice A n cq] w (fun e w'=>∃v4 v5,e= .returned (.tuple #[v4,v5])∧bW 119 7 w (.slice none 0 0) w' v4 (min n 24) (((xs.take (min n 24)).map CV.cut).flatMap CV.cells)∧bW 247 7 w (.slice none 0 0) w' v5 (min n 24) (((xs.take (min n 24)).map CV.cut).flatMap CV.cells)):=by
 obtain⟨X,aR,aV,E,bx⟩:=info_parts Kj;obtain⟨Y,aT,aX,F,bz⟩:=info_parts o3;have cl:=af cb;clear cb;go_enter Tryz.func127,Tryz.ntmps127;go_wp2;go_loopw[4,5,6](fun v4 v5 i wr=>∃k:Nat,k≤min n 24∧i= .int .i64 k∧bW 119 7 w (.slice none 0 0) wr v4 k (((xs.take k).map CV.cut).flatMap CV.cells)∧bW 247 7 w (.slice none 0 0) wr v5 k (((xs.take k).map CV.cut).flatMap CV.cells))(fun _ _ i _=>24-(intOf i).toNat);case atStart=>exact⟨0,by omega,rfl,bW.start ⟨rfl, .inl ⟨rfl,rfl⟩⟩,bW.start ⟨rfl, .inl ⟨rfl,rfl⟩⟩⟩
 case round=>
  obtain⟨k,cv,rfl,T,U⟩:=hrel;have B:=af T;have D:=af U;obtain⟨ad,n4,ay,rfl,cy,_⟩:=aW T.own;obtain⟨ae,n5,c5,rfl,cz,_⟩:=aW U.own;clear T U;by_cases bE:k<min n 24
  ·have v:k<n:=by omega
   have cc:(k:Int)<(n:Int):=by omega
   have bv:(k:Int)<24:=by omega
   have aH:k<24:=by omega
   obtain⟨cA,c,rfl,C,z⟩:=(cl.out.aq B.out.aq).at_ v;have a3:=af z;have cj:=af c.one;have b0:Hid (((xs.take (k+1)).map CV.cut).flatMap CV.cells=((xs.take k).map CV.cut).flatMap CV.cells++c.cut.cells):=by
    simp only[Hid];rw[List.take_add_one,C];simp
   have f0:Fr ag w wr:=B.out.aq;have ck:=af f0;have NE:=af (nL B.out.own D.out.own (by decide));obtain⟨aa,bA⟩:∃aa:Int,min (c.value.size:Int) 200=aa:=⟨_,rfl⟩;obtain⟨ab,bB⟩:∃ab:Int,min (c.nm.owner.size:Int) 100=ab:=⟨_,rfl⟩;obtain⟨ac,bC⟩:∃ac:Int,min (c.nm.text.size:Int) 100=ac:=⟨_,rfl⟩;have cC:0≤aa:=by omega
   have cF:aa≤(c.value.size:Int):=by omega
   have cD:0≤ab:=by omega
   have cG:ab≤(c.nm.owner.size:Int):=by omega
   have cE:0≤ac:=by omega
   have cw:ac≤(c.nm.text.size:Int):=by omega
   obtain⟨v5,bH⟩:∃v5,c.value.extract 0 aa.toNat=v5:=⟨_,rfl⟩;obtain⟨r,bF⟩:∃r,c.nm.owner.extract 0 ab.toNat=r:=⟨_,rfl⟩;obtain⟨t5,bG⟩:∃t5,c.nm.text.extract 0 ac.toNat=t5:=⟨_,rfl⟩;have J:Hid (c.cut=⟨⟨c.nm.kind,r,c.nm.number,c.nm.index,t5⟩,v5,c.bm⟩):=by
    simp only[Hid,CV.cut,xi,bA,bB,bC,bH,bF,bG]
   clear z C f0 bE cv;go_wp2_with(refine aB rfl 247 (.tmp 20) rfl _ rfl c.cells _ ?zB Tryz.underlying247 rfl Cp (bh.go ?hold));case zB=>exact a3.out
   unfold bh;go_wp2_with(refine ak rfl 247 rfl dj LH #[.int .i64 0, .string ByteArray.empty, .int .i64 0, .int .i64 0, .string ByteArray.empty, .string ByteArray.empty, .bool false] rfl ?_);intro cx cf;have a7:=af cf;clear cf;generalize aP:wr.heap.size=g7 at*;have t:=af aP;clear aP;have bV:Hid (ao cx g7 247 #[.int .i64 0, .string ByteArray.empty, .int .i64 0, .int .i64 0, .string ByteArray.empty, .string ByteArray.empty, .bool false]):=by have h:=a7.out.aF;rw[t.out]at h;exact h
   go_wp2_with(refine ai rfl 247 (.tmp 7) _ rfl g7 c.cells.toArray rfl rfl _ _ bV.out Cp rfl cj.out ?_);intro ch bb ca;have bS:Hid (ao ch g7 247 #[.int .i64 c.nm.kind, .string c.nm.owner, .int .i64 c.nm.number, .int .i64 c.nm.index, .string c.nm.text, .string c.value, .bool c.bm]):=bb;have bY:Hid (Fr ag wr ch):=a7.out.fr.aw ca (fun i G e=>by have ba:i=g7:=e;have:=t.out;omega);clear bb ca a7 bV;have cn:Hid ((Value.string v5).oneCell'=true):=by simp[Hid,Value.oneCell']
   go_upto_region 7 with fail;refine ft 9 (fun k=>k=g7) [Is (.pointer (some ⟨g7,5,none⟩)),Is (.string c.value),Is (.pointer (some ⟨g7,5,none⟩)),Is (.string c.value),Is (.int .i64 c.value.size),Is (.int .i64 aa),Is (.string v5),Is (.pointer (some ⟨g7,5,none⟩)),Is (undef)] [(8,fun W=>ao W g7 247 #[.int .i64 c.nm.kind, .string c.nm.owner, .int .i64 c.nm.number, .int .i64 c.nm.index, .string c.nm.text, .string v5, .bool c.bm])] (fun W=>ao W g7 247 #[.int .i64 c.nm.kind, .string c.nm.owner, .int .i64 c.nm.number, .int .i64 c.nm.index, .string c.nm.text, .string c.value, .bool c.bm]) (fun i j=>j==8&&decide (i<8)) (by kernel_rfl) (by kernel_rfl) (by kernel_rfl) ⟨Is.ah _,Is.ah _,Is.ah _,Is.ah _,Is.ah _,Is.ah _,Is.ah _,Is.ah _,Is.ah _,trivial⟩ ⟨fun _ _ _ o h=>h.fr o (fun x=>x),trivial⟩ (fun _ _ _ o h=>h.fr o (fun x=>x)) bS.out ?_ ?_
   ·refine⟨?_,?_,?_,?_,?_,?_,?_,?_,?_,trivial⟩;all_goals intro u w' d o a m l f
    all_goals simp only[bJ,bK,bL,bM,au,Act.put,bN,bO,bP,Nat.reduceAdd,Nat.zero_add]
    ·clear a m l f;refine aj ?_;go_simp;exact⟨_,rfl,al⟩
    ·have bj:u 0=_:=a 0;clear a;simp only[bj];refine aj ?_;have s:ao w' g7 247 #[.int .i64 c.nm.kind, .string c.nm.owner, .int .i64 c.nm.number, .int .i64 c.nm.index, .string c.nm.text, .string c.value, .bool c.bm]:=by rw[dn,if_neg (by rw[l 8 (by kernel_rfl)];exact Bool.false_ne_true)]at f;exact f
     clear m l f;have C:w'.cell? ⟨g7,5,none⟩=some (.string c.value):=s.cell 5;go_simp;exact⟨_,rfl,al⟩
    ·clear a m l f;refine aj ?_;go_simp;exact⟨_,rfl,al⟩
    ·have aG:u 2=_:=a 2;clear a;simp only[aG];refine aj ?_;have s:ao w' g7 247 #[.int .i64 c.nm.kind, .string c.nm.owner, .int .i64 c.nm.number, .int .i64 c.nm.index, .string c.nm.text, .string c.value, .bool c.bm]:=by rw[dn,if_neg (by rw[l 8 (by kernel_rfl)];exact Bool.false_ne_true)]at f;exact f
     clear m l f;have C:w'.cell? ⟨g7,5,none⟩=some (.string c.value):=s.cell 5;go_simp;exact⟨_,rfl,al⟩
    ·have aJ:u 3=_:=a 3;clear a m l f;simp only[aJ];refine aj ?_;go_simp;exact⟨_,rfl,al⟩
    ·have aK:u 4=_:=a 4;clear a m l f;simp only[aK];refine aj ?_;go_simp;exact⟨_,rfl,al⟩
    ·have aD:u 1=_:=a 1;have aL:u 5=_:=a 5;clear a m l f;simp only[aD,aL];refine aj ?_;go_simp;exact⟨_,rfl,al⟩
    ·clear a m l f;refine aj ?_;go_simp;exact⟨_,rfl,al⟩
    ·have aN:u 7=_:=a 7;have aM:u 6=_:=a 6;clear a;simp only[aN,aM];refine aj ?_;have s:ao w' g7 247 #[.int .i64 c.nm.kind, .string c.nm.owner, .int .i64 c.nm.number, .int .i64 c.nm.index, .string c.nm.text, .string c.value, .bool c.bm]:=by rw[dn,if_neg (by rw[l 8 (by kernel_rfl)];exact Bool.false_ne_true)]at f;exact f
     clear m l f;refine kV 9 (.tmp 29) (.tmp 28) rfl g7 5 (.string v5) rfl rfl cn.out oK _ _ #[.int .i64 c.nm.kind, .string c.nm.owner, .int .i64 c.nm.number, .int .i64 c.nm.index, .string c.nm.text, .string v5, .bool c.bm] s (show 5<7 by decide) rfl ?_;intro cg b4 f4;exact⟨_,rfl,f4,rfl,b4⟩
   ·intro u w' o a f;clear a;simp only[bJ,bK,bL,bM,au,Act.put,bN,bO,bP,dL,dM,Nat.reduceAdd,Nat.zero_add];generalize w'=wc at*;have bT:Hid (ao wc g7 247 #[.int .i64 c.nm.kind, .string c.nm.owner, .int .i64 c.nm.number, .int .i64 c.nm.index, .string c.nm.text, .string v5, .bool c.bm]):=f;have bZ:Hid (Fr ag wr wc):=bY.out.aw o (fun i G e=>by have ba:i=g7:=e;have:=t.out;omega);clear f o bS bY;go_upto_region 8 with fail;refine aE 23 (fun k=>k=g7) [Is (.pointer (some ⟨g7,0,none⟩)),Is (.pointer (some ⟨g7,1,none⟩)),Is (.string c.nm.owner),Is (.pointer (some ⟨g7,0,none⟩)),Is (.pointer (some ⟨g7,1,none⟩)),Is (.string c.nm.owner),Is (.int .i64 c.nm.owner.size),Is (.int .i64 ab),Is (.string r),Is (.pointer (some ⟨g7,0,none⟩)),Is (.pointer (some ⟨g7,4,none⟩)),Is (.string c.nm.text),Is (.pointer (some ⟨g7,0,none⟩)),Is (.pointer (some ⟨g7,4,none⟩)),Is (.string c.nm.text),Is (.int .i64 c.nm.text.size),Is (.int .i64 ac),Is (.string t5),Is (.pointer (some ⟨g7,0,none⟩)),Is (.pointer (some ⟨g7,1,none⟩)),Is (undef),Is (.pointer (some ⟨g7,0,none⟩)),Is (.pointer (some ⟨g7,4,none⟩))] [(20,fun W=>ao W g7 247 #[.int .i64 c.nm.kind, .string r, .int .i64 c.nm.number, .int .i64 c.nm.index, .string c.nm.text, .string v5, .bool c.bm])] (fun W=>ao W g7 247 #[.int .i64 c.nm.kind, .string c.nm.owner, .int .i64 c.nm.number, .int .i64 c.nm.index, .string c.nm.text, .string v5, .bool c.bm]) (fun i j=>j==20&&(decide (i<15)||i==19)) (by kernel_rfl) (by kernel_rfl) (by kernel_rfl) (by kernel_rfl) ⟨Is.ah _,Is.ah _,Is.ah _,Is.ah _,Is.ah _,Is.ah _,Is.ah _,Is.ah _,Is.ah _,Is.ah _,Is.ah _,Is.ah _,Is.ah _,Is.ah _,Is.ah _,Is.ah _,Is.ah _,Is.ah _,Is.ah _,Is.ah _,Is.ah _,Is.ah _,Is.ah _,trivial⟩ ⟨fun _ _ _ o h=>h.fr o (fun x=>x),trivial⟩ (fun _ _ _ o h=>h.fr o (fun x=>x)) bT.out.drew ?_ ?_
    ·refine⟨?_,?_,?_,?_,?_,?_,?_,?_,?_,?_,?_,?_,?_,?_,?_,?_,?_,?_,?_,?_,?_,?_,?_,trivial⟩;all_goals intro u w' d o a m l f
     all_goals simp only[bJ,bK,bL,bM,au,Act.put,bN,bO,bP,Nat.reduceAdd,Nat.zero_add]
     ·clear a m l f;refine aj ?_;go_simp;exact⟨_,rfl,al⟩
     ·have bj:u 0=_:=a 0;clear a m l f;simp only[bj];refine aj ?_;go_simp;exact⟨_,rfl,al⟩
     ·have aD:u 1=_:=a 1;clear a;simp only[aD];refine aj ?_;have s:ao w' g7 247 #[.int .i64 c.nm.kind, .string c.nm.owner, .int .i64 c.nm.number, .int .i64 c.nm.index, .string c.nm.text, .string v5, .bool c.bm]:=by rw[dn,if_neg (by rw[l 20 (by kernel_rfl)];exact Bool.false_ne_true)]at f;exact f
      clear m l f;have C:w'.cell? ⟨g7,1,none⟩=some (.string c.nm.owner):=s.cell 1;go_simp;exact⟨_,rfl,al⟩
     ·clear a m l f;refine aj ?_;go_simp;exact⟨_,rfl,al⟩
     ·have aJ:u 3=_:=a 3;clear a m l f;simp only[aJ];refine aj ?_;go_simp;exact⟨_,rfl,al⟩
     ·have aK:u 4=_:=a 4;clear a;simp only[aK];refine aj ?_;have s:ao w' g7 247 #[.int .i64 c.nm.kind, .string c.nm.owner, .int .i64 c.nm.number, .int .i64 c.nm.index, .string c.nm.text, .string v5, .bool c.bm]:=by rw[dn,if_neg (by rw[l 20 (by kernel_rfl)];exact Bool.false_ne_true)]at f;exact f
      clear m l f;have C:w'.cell? ⟨g7,1,none⟩=some (.string c.nm.owner):=s.cell 1;go_simp;exact⟨_,rfl,al⟩
     ·have aL:u 5=_:=a 5;clear a m l f;simp only[aL];refine aj ?_;go_simp;exact⟨_,rfl,al⟩
     ·have aM:u 6=_:=a 6;clear a m l f;simp only[aM];refine aj ?_;go_simp;exact⟨_,rfl,al⟩
     ·have aG:u 2=_:=a 2;have aN:u 7=_:=a 7;clear a m l f;simp only[aG,aN];refine aj ?_;go_simp;exact⟨_,rfl,al⟩
     ·clear a m l f;refine aj ?_;go_simp;exact⟨_,rfl,al⟩
     ·have cr:u 9=_:=a 9;clear a m l f;simp only[cr];refine aj ?_;go_simp;exact⟨_,rfl,al⟩
     ·have bk:u 10=_:=a 10;clear a;simp only[bk];refine aj ?_;have s:ao w' g7 247 #[.int .i64 c.nm.kind, .string c.nm.owner, .int .i64 c.nm.number, .int .i64 c.nm.index, .string c.nm.text, .string v5, .bool c.bm]:=by rw[dn,if_neg (by rw[l 20 (by kernel_rfl)];exact Bool.false_ne_true)]at f;exact f
      clear m l f;have C:w'.cell? ⟨g7,4,none⟩=some (.string c.nm.text):=s.cell 4;go_simp;exact⟨_,rfl,al⟩
     ·clear a m l f;refine aj ?_;go_simp;exact⟨_,rfl,al⟩
     ·have bn:u 12=_:=a 12;clear a m l f;simp only[bn];refine aj ?_;go_simp;exact⟨_,rfl,al⟩
     ·have bo:u 13=_:=a 13;clear a;simp only[bo];refine aj ?_;have s:ao w' g7 247 #[.int .i64 c.nm.kind, .string c.nm.owner, .int .i64 c.nm.number, .int .i64 c.nm.index, .string c.nm.text, .string v5, .bool c.bm]:=by rw[dn,if_neg (by rw[l 20 (by kernel_rfl)];exact Bool.false_ne_true)]at f;exact f
      clear m l f;have C:w'.cell? ⟨g7,4,none⟩=some (.string c.nm.text):=s.cell 4;go_simp;exact⟨_,rfl,al⟩
     ·have bp:u 14=_:=a 14;clear a m l f;simp only[bp];refine aj ?_;go_simp;exact⟨_,rfl,al⟩
     ·have bq:u 15=_:=a 15;clear a m l f;simp only[bq];refine aj ?_;go_simp;exact⟨_,rfl,al⟩
     ·have bl:u 11=_:=a 11;have br:u 16=_:=a 16;clear a m l f;simp only[bl,br];refine aj ?_;go_simp;exact⟨_,rfl,al⟩
     ·clear a m l f;refine aj ?_;go_simp;exact⟨_,rfl,al⟩
     ·have bs:u 18=_:=a 18;clear a m l f;simp only[bs];refine aj ?_;go_simp;exact⟨_,rfl,al⟩
     ·have bt:u 19=_:=a 19;have bw:u 8=_:=a 8;clear a;simp only[bt,bw];refine aj ?_;have s:ao w' g7 247 #[.int .i64 c.nm.kind, .string c.nm.owner, .int .i64 c.nm.number, .int .i64 c.nm.index, .string c.nm.text, .string v5, .bool c.bm]:=by rw[dn,if_neg (by rw[l 20 (by kernel_rfl)];exact Bool.false_ne_true)]at f;exact f
      clear m l f;refine kV 9 (.tmp 49) (.tmp 38) rfl g7 1 (.string r) rfl rfl rfl oK _ _ _ s (show 1<7 by decide) rfl ?_;intro cg b4 f4;exact⟨_,rfl,f4,rfl,b4⟩
     ·clear a m l f;refine aj ?_;go_simp;exact⟨_,rfl,al⟩
     ·have bu:u 21=_:=a 21;clear a m l f;simp only[bu];refine aj ?_;go_simp;exact⟨_,rfl,al⟩
    ·intro u w' o a f;have aY:u 17=_:=a 17 (by omega);have aZ:u 22=_:=a 22 (by omega);clear a;simp only[bJ,bK,bL,bM,au,Act.put,bN,bO,bP,dL,dM,Nat.reduceAdd,Nat.zero_add,aY,aZ];have bU:Hid (ao w' g7 247 #[.int .i64 c.nm.kind, .string r, .int .i64 c.nm.number, .int .i64 c.nm.index, .string c.nm.text, .string v5, .bool c.bm]):=f;have bX:Hid (Fr ag wr w'):=bZ.out.aw o (fun i G e=>by have ba:i=g7:=e;have:=t.out;omega);have b3:Hid ((Value.string t5).oneCell'=true):=by simp[Hid,Value.oneCell']
     have ax:Hid (4<(#[.int .i64 c.nm.kind, .string r, .int .i64 c.nm.number, .int .i64 c.nm.index, .string c.nm.text, .string v5, .bool c.bm]:Array Value).size):=by simp[Hid]
     have av:Hid ((#[.int .i64 c.nm.kind, .string r, .int .i64 c.nm.number, .int .i64 c.nm.index, .string c.nm.text, .string v5, .bool c.bm]:Array Value).setIfInBounds 4 (.string t5)=#[.int .i64 c.nm.kind, .string r, .int .i64 c.nm.number, .int .i64 c.nm.index, .string t5, .string v5, .bool c.bm]):=rfl;clear f o bT bZ aY aZ;refine aS rfl 9 (.tmp 51) (.tmp 47) rfl g7 4 (.string t5) rfl rfl b3.out oK 247 #[.int .i64 c.nm.kind, .string r, .int .i64 c.nm.number, .int .i64 c.nm.index, .string c.nm.text, .string v5, .bool c.bm] #[.int .i64 c.nm.kind, .string r, .int .i64 c.nm.number, .int .i64 c.nm.index, .string t5, .string v5, .bool c.bm] bU.out ax.out av.out ?_;intro wd b8 fd;have I:=af b8;have Z:Hid (Fr ag wr wd):=bX.out.aw fd (fun i G e=>by have ba:i=g7:=e;have:=t.out;omega);clear b8 fd bU bX b3 ax av;obtain⟨y,aU⟩:∃y:CV,y=⟨⟨c.nm.kind,r,c.nm.number,c.nm.index,t5⟩,v5,c.bm⟩:=⟨_,rfl⟩;have b1:Hid (c.cut=y):=by rw[aU];exact J.out
     have b5:Hid (∀W,ao W g7 247 #[.int .i64 c.nm.kind, .string r, .int .i64 c.nm.number, .int .i64 c.nm.index, .string t5, .string v5, .bool c.bm]→ao W g7 247 y.cells.toArray):=fun W h=>by rw[aU];exact h
     obtain⟨L,V⟩:∃L:aI,L=y.nm:=⟨_,rfl⟩;have cp:Hid (∀W,ao W g7 247 #[.int .i64 c.nm.kind, .string r, .int .i64 c.nm.number, .int .i64 c.nm.index, .string t5, .string v5, .bool c.bm]→∀j x,L.cells[j]? =some x→W.cell? ⟨g7,j,none⟩=some x):=fun W h j x H=>by
      have cu:j<5:=(List.getElem?_eq_some_iff.1 H).1;rw[(b5.out W h).cell,bD,CV.cells,List.getElem?_append_left (by rw[aI.eA];exact cu),←V];exact H
     have a1:Hid (Tryz.prog.built 119 [(0, .agg L.cells.toArray),(1, .string v5),(2, .bool c.bm)]=some y.cells.toArray):=by
      have h:=Ic y;rw[←V,show y.value=v5 by rw[aU],show y.bm=c.bm by rw[aU]]at h;exact h
     have b7:Hid (∀u∈y.cells.toArray.toList,u.oneCell'=true):=by
      intro u hu;have h:=y.one;rw[Array.all_eq_true_iff_forall_mem]at h;exact h u (by simpa using hu)
     have b6:Hid (y.cells.toArray.size=1*7):=rfl;have co:Hid (y.cells=y.cells.toArray.toList):=by simp[Hid]
     have M:=af (b5.out _ I.out);have aC:Hid (Instr.fill (fun i=>some (i*7,7)) ((Array.range (1*7)).map (dj.cells[· %dj.cells.size]!)) [(0, .agg y.cells.toArray)]=some y.cells.toArray):=mi _ _ rfl (by simp);clear J aU V;generalize aO:y.cells=p at*;have N:=af aO;clear aO;have bc:Hid (¬1*X.size>2^24):=by simp only[Hid];rw[E];omega
     have bd:Hid (¬1*X.size=0):=by simp only[Hid];rw[E];omega
     have be:Hid (Instr.fill (fun i=>some (i*X.size,X.size)) ((Array.range (1*X.size)).map (dj.cells[· %dj.cells.size]!)) [(0, .agg p.toArray)]=some p.toArray):=by simp only[Hid];rw[E];exact aC.out
     have bf:Hid (¬1*Y.size>2^24):=by simp only[Hid];rw[F];omega
     have bg:Hid (¬1*Y.size=0):=by simp only[Hid];rw[F];omega
     have bi:Hid (Instr.fill (fun i=>some (i*Y.size,Y.size)) ((Array.range (1*Y.size)).map (dj.cells[· %dj.cells.size]!)) [(0, .agg p.toArray)]=some p.toArray):=by simp only[Hid];rw[F];exact aC.out
     have a4:Hid ((Tryz.prog.info? 247).map (·.size)=some p.length):=by rw[←N.out];exact Cp
     have cm:Hid (∀i,(Value.slice ae n5 c5).ownBlock=some i→i<g7):=fun i G=>by have q:=J2 D.out.own G;have cw:=t.out;omega
     have b2:Hid (wd.ownsRow 0 247 7 (.slice ae n5 c5) k (((xs.take k).map CV.cut).flatMap CV.cells)):=aQ D.out.own Z.out (fun _ _ x=>x);have a6:Hid (wd.ownsRow 0 119 7 (.slice ad n4 ay) k (((xs.take k).map CV.cut).flatMap CV.cells)):=aQ B.out.own Z.out (fun _ _ x=>x);go_wp2_with(refine aB rfl 247 (.tmp 7) rfl ⟨g7,0,none⟩ rfl p _ ?zA Tryz.underlying247 rfl a4.out (bh.go ?zC));case zA=>exact fun j x H=>by first|(rw[Addr.add_mid,Nat.zero_add,M.out.cell,bD];exact H)|(rw[M.out.cell,bD];exact H)
     unfold bh;refine wpList_buildSlice rfl 55 247 1 #[(0, .tmp 53)] rfl p.toArray X dj Tryz.underlying55 aR aV bc.out bd.out (by simp only[List.map_toArray,List.map_cons,List.map_nil];exact be.out) ?_;refine dE _ rfl _ _ 55 rfl 247 X dj 7 80 Tryz.underlying55 aR aV E bx rfl (by decide) _ _ _ rfl b2.out 1 p.toArray _ rfl rfl b6.out b7.out (by omega) (by decide) ?_;intro a0 bR K;have a2:Hid (Fr ag w wd):=ck.out.trans Z.out;have ar:Hid (bW 247 7 w (.slice none 0 0) wd (.slice ae n5 c5) k (((xs.take k).map CV.cut).flatMap CV.cells)):=D.out.behind Z.out;have P:Hid (bW 247 7 w (.slice none 0 0) bR a0 (k+1) (((xs.take (k+1)).map CV.cut).flatMap CV.cells)):=by
      have h:=ar.out.trans K;simp only[Hid];rw[b0.out,b1.out,N.out];exact h
     have O:Hid (bW 119 7 w (.slice none 0 0) bR (.slice ad n4 ay) k (((xs.take k).map CV.cut).flatMap CV.cells)):=(B.out.behind Z.out).move K.fr (fun i G e=>NE.out i G e) P.out.aq;have am:Hid (ao bR g7 247 #[.int .i64 c.nm.kind, .string r, .int .i64 c.nm.number, .int .i64 c.nm.index, .string t5, .string v5, .bool c.bm]):=I.out.fr K.fr (fun e=>by have q:=cm.out g7 e;omega);clear K D B ar b2 a6 I Z a2 M;have I:=am;have a6:=af O.out.own;go_upto_region 10 with fail;refine aE 10 ag [Is (.slice ad n4 ay),Is (.pointer (some ⟨g7,0,none⟩)),Is (.agg L.cells.toArray),Is (.agg L.cells.toArray),Is (.pointer (some ⟨g7,5,none⟩)),Is (.string v5),Is (.pointer (some ⟨g7,6,none⟩)),Is (.bool c.bm),Is (.agg p.toArray),fun x W=>∃g,x= .slice (some ⟨g,0,none⟩) 1 1∧ao W g 119 p.toArray] [] (fun _=>True) (fun _ _=>false) (by kernel_rfl) (by kernel_rfl) (by kernel_rfl) (by kernel_rfl) ⟨Is.ah _,Is.ah _,Is.ah _,Is.ah _,Is.ah _,Is.ah _,Is.ah _,Is.ah _,Is.ah _,fun _ _ _ _ o⟨g,h,b⟩=>⟨g,h,b.fr o (fun x=>x)⟩,trivial⟩ trivial (fun _ _ _ _ h=>h) trivial ?_ ?_
     ·refine⟨?_,?_,?_,?_,?_,?_,?_,?_,?_,?_,trivial⟩;all_goals intro u w' d o a m l f
      all_goals simp only[bJ,bK,bL,bM,au,Act.put,bN,bO,bP,Nat.reduceAdd,Nat.zero_add]
      ·clear a m l f;refine aj ?_;go_simp;exact⟨_,rfl,al⟩
      ·clear a m l f;refine aj ?_;go_simp;exact⟨_,rfl,al⟩
      ·have aD:u 1=_:=a 1;clear a m l f;simp only[aD];refine aj ?_;exact az _ _ rfl ⟨g7,0,none⟩ rfl L.cells _ (fun j x H=>by rw[Addr.add_mid,Nat.zero_add];exact cp.out _ (I.out.fr o (fun x=>x)) j x H) Tryz.underlying245 rfl KU ⟨_,rfl,al⟩
      ·have aG:u 2=_:=a 2;clear a m l f;simp only[aG];refine aj ?_;go_simp;refine(Hv L _).mono ?_;rintro e cg⟨rfl,f4⟩;exact⟨_,rfl,f4.bI,rfl,trivial⟩
      ·clear a m l f;refine aj ?_;go_simp;exact⟨_,rfl,al⟩
      ·have aK:u 4=_:=a 4;clear a m l f;simp only[aK];refine aj ?_;have C:w'.cell? ⟨g7,5,none⟩=some (.string v5):=(I.out.fr o (fun x=>x)).cell 5;go_simp;exact⟨_,rfl,al⟩
      ·clear a m l f;refine aj ?_;go_simp;exact⟨_,rfl,al⟩
      ·have aM:u 6=_:=a 6;clear a m l f;simp only[aM];refine aj ?_;have C:w'.cell? ⟨g7,6,none⟩=some (.bool c.bm):=(I.out.fr o (fun x=>x)).cell 6;go_simp;exact⟨_,rfl,al⟩
      ·have aJ:u 3=_:=a 3;have aL:u 5=_:=a 5;have aN:u 7=_:=a 7;clear a m l f;simp only[aJ,aL,aN];refine aj ?_;exact jY 119 _ rfl p.toArray _ (by simp only[List.map_toArray,List.map_cons,List.map_nil];rfl) a1.out ⟨_,rfl,al⟩
      ·have bw:u 8=_:=a 8;clear a m l f;simp only[bw];refine aj ?_;refine wp_buildSlice 44 119 1 #[(0, .tmp 64)] rfl p.toArray Y dj Tryz.underlying44 aT aX bf.out bg.out ?_ ?_;·simp only[List.map_toArray,List.map_cons,List.map_nil];exact bi.out
       ·exact⟨_,rfl,aA.alloc _,⟨w'.heap.size,rfl,ao.new _ _ _⟩,trivial⟩
     ·intro u w' o a f;have l:u 0=_:=a 0 (by omega);obtain⟨g9,ce,b9⟩:∃g,u 9= .slice (some ⟨g,0,none⟩) 1 1∧ao w' g 119 p.toArray:=a 9 (by omega);clear a f;simp only[bJ,bK,bL,bM,au,Act.put,bN,bO,bP,dL,dM,Nat.reduceAdd,Nat.zero_add,l,ce];have ci:=af b9;have R:=af (aQ a6.out o (fun _ _ x=>x));have ap:=af (O.out.behind o);have Q:=af (P.out.behind o);have a9:Hid (∀u∈p,u.oneCell'=true):=fun u hu=>b7.out u (by simpa using hu);have a8:Hid (p.length=1*7):=by have h:=b6.out;rw[List.size_toArray]at h;exact h
      clear o l ce b9 I am;refine iF _ rfl _ _ 44 rfl 119 Y dj 7 80 Tryz.underlying44 aT aX F bz rfl (by decide) _ _ _ rfl R.out (fun _=>True) (some ⟨g9,0,none⟩) 1 1 p rfl ⟨a8.out,fun _=>⟨_,rfl,trivial,fun j x H=>by rw[Addr.add_mid,Nat.zero_add,ci.out.cell,bD];exact H⟩⟩ a9.out (by omega) (by decide) ?_;intro bQ wf K;have an:Hid (bW 119 7 w (.slice none 0 0) wf bQ (k+1) (((xs.take (k+1)).map CV.cut).flatMap CV.cells)):=by
       have h:=ap.out.trans K;simp only[Hid];rw[b0.out,b1.out,N.out];exact h
      have a5:Hid (bW 247 7 w (.slice none 0 0) wf a0 (k+1) (((xs.take (k+1)).map CV.cut).flatMap CV.cells)):=Q.out.move K.fr (fun i G e=>nL Q.out.own R.out (by decide) i G e) an.out.aq;clear K ap Q R O P;go_wp2;go_roundw;case rel=>exact⟨k+1,by omega,by go_num,an.out,a5.out⟩
      case measure=>simp[intOf];omega
  ·have v:k=min n 24:=by omega
   have cd:¬((k:Int)<(n:Int)∧(k:Int)<24):=by omega
   by_cases cc:(k:Int)<(n:Int)
   ·have bv:decide ((k:Int)<24)=false:=cN (by omega);have aH:¬k<24:=by omega
    have hIn:k<n:=by omega
    go_wp2;go_ret2;exact⟨.slice ad n4 ay, .slice ae n5 c5,rfl,by rw[←v];first|exact B.out|(rw[←List.map_take];exact B.out),by rw[←v];first|exact D.out|(rw[←List.map_take];exact D.out)⟩
   ·have cs:decide ((k:Int)<(n:Int))=false:=decide_eq_false cc;have ct:¬k<n:=by omega
    go_wp2;go_ret2;exact⟨.slice ad n4 ay, .slice ae n5 c5,rfl,by rw[←v];first|exact B.out|(rw[←List.map_take];exact B.out),by rw[←v];first|exact D.out|(rw[←List.map_take];exact D.out)⟩
theorem Fr.JE{w w':World}(h:Fr ag w w'):w.grownBy w' none:=⟨h.os,h.tape,h.output,h.size,fun k a _=>h.block k a (fun x=>x)⟩
def ui(w:World)(e:Ending)(w':World):Prop:=e= .returned (.bool true)∧Fr ag w w'
end Go.Proofs.YtphjagkehiklkaaGreatDoor
namespace Go.Proofs.YtphjagkehiklkaaGreatDoor
open Go.RowKit Go.Shelf
attribute[local go_sem]Oper.semAt_some
theorem RoundIn.jM{F:Fence}(a:F.depth=none){m b:Nat}{P:Program}{l:Nat}{f:FuncId}{tmps:Array Value}{assign body:Code}{w:World}{e:Ending→World→Prop}
  (h:RoundIn F m P l f tmps assign body w e):RoundIn F b P l f tmps assign body w e:=⟨h.1,fun c cs _=>h.2 c cs (fun d h=>by rw[a]at h;cases h)⟩
theorem YieldAt.jM{F:Fence}(b:F.depth=none){m:Nat}(d:Nat){P:Program}{l:Nat}{args:Array Value}{W:World}{e:Ending→World→Prop}(h:YieldAt F m P l args W e):YieldAt F d P l args W e:=by
 obtain⟨fn,tmps,assign,body,c,a⟩:=h;exact⟨fn,tmps,assign,body,c,RoundIn.jM b a⟩
def Tr.bA:Tr→List (aI×ByteArray)
 | .leaf=>[]
 | .node l nm v r=>l.bA++(nm,v)::r.bA
theorem Tr.cJ:∀t:Tr,t.bA.length=t.size
 | .leaf=>rfl
 | .node l nm v r=>by
  simp only[Tr.bA,Tr.size,aY,List.length_cons,l.cJ,r.cJ];omega
def KN(A B:World):Prop:=∀g cs,ao A g 177 cs→ao B g 177 cs
theorem KN.refl(A:World):KN A A:=fun _ _ h=>h
theorem KN.trans{A B C:World}(h:KN A B)(k:KN B C):KN A C:=fun g cs a=>k g cs (h g cs a)
theorem KN.fr{A B:World}{T:Nat→Prop}(h:Fr T A B)(b:∀g cs,ao A g 177 cs→¬T g):KN A B:=fun g cs a=>a.fr h (b g cs a)
theorem KN.below{A B:World}(h:Below A.heap.size A B):KN A B:=fun g _ a=>(h.block g a.lt).trans a
theorem cq.kn{w w':World}:∀{a:Option Addr}{t:Tr},cq w a t→KN w w'→cq w' a t
 |_, .leaf,h,_=>h
 |_, .node _ _ _ _,⟨g,i,j,e,c,d,f⟩,b=>⟨g,i,j,e,c.kn b,d.kn b,b g _ f⟩
structure Nd where
 g:Nat
 nm:aI
 v:ByteArray
def nZ(w:World)(x:Nd):Prop:=∃a b c d e,ao w x.g 177 ([a,b]++x.nm.cells++[Value.string x.v,c,d,e]).toArray
theorem nZ.kn{w w':World}{x:Nd}(h:nZ w x)(k:KN w w'):nZ w' x:=by
 obtain⟨a,b,c,d,e,f⟩:=h;exact⟨a,b,c,d,e,k _ _ f⟩
theorem nZ.lI{w:World}{x:Nd}(h:nZ w x):Mid w x.g x.nm x.v:=by
 obtain⟨a,b,c,d,e,f⟩:=h;exact Mid.of f
abbrev Hm(w:World):={x:Nd//nZ w x}
def Lm{w:World}(x:Hm w):aI×ByteArray:=(x.1.nm,x.1.v)
theorem kt{n:Nat}{P:Program}{ops:Array Oper}{Q:Exit→Act→World→Prop}{a:Act}{w:World}{rest:List Oper}{b:Oper}(hw:Region.wanted b (yielded ops a.tmps)=false)
  (h:wpListIn Fence.wide n P ops Q rest (a.put b.dst undef) w):wpListIn Fence.wide n P ops Q (b::rest) a w:=by
 rw[wpListIn,if_neg (by rw[hw];simp)];exact⟨fun _ _=>trivial,h⟩
inductive Ord(w:World):Option Addr→Tr→List (Hm w)→Prop where
 |leaf:Ord w none .leaf []
 |node{l r:Tr}{nm:aI}{v:ByteArray}{g:Nat}{a b:Option Addr}{L h:List (Hm w)}(d:Ord w a l L)(e:Ord w b r h)
   (c:ao w g 177 (rZ a b (.node l nm v r)).toArray)(x:Hm w)(f:x.1=⟨g,nm,v⟩):Ord w (some ⟨g,0,none⟩) (.node l nm v r) (L++x::h)
theorem Ord.of{w:World}:∀{a:Option Addr}{t:Tr},cq w a t→∃L,Ord w a t L
 |_, .leaf,h=>by
  obtain rfl:_=none:=h;exact⟨[], .leaf⟩
 |_, .node l nm v r,⟨g,j,k,e,c,d,b⟩=>by
  subst e;obtain⟨L,f⟩:=Ord.of c;obtain⟨m,i⟩:=Ord.of d;exact⟨_, .node f i b ⟨⟨g,nm,v⟩,_,_,_,_,_,b⟩ rfl⟩
theorem Ord.bA{w:World}{a:Option Addr}{t:Tr}{L:List (Hm w)}(h:Ord w a t L):L.map Lm=t.bA:=by
 induction h with
 |leaf=>rfl
 |node _ _ _ x d b c=>
  rw[List.map_append,List.map_cons,b,c,Tr.bA];simp only[Lm,d]
end Go.Proofs.YtphjagkehiklkaaGreatDoor
namespace Go.Proofs.YtphjagkehiklkaaGreatDoor
open Go.RowKit Go.Shelf
attribute[local go_sem]Oper.semAt_some
theorem He{P:Program}{Q:Exit→Act→World→Prop}{a:Act}{w:World}{l:List Oper}(n:Nat)(T:Nat→Prop)(f:List (Value→World→Prop))(ws:List (Nat×(World→Prop)))(b:World→Prop)(B:Nat→Nat→Bool)(z:oI l.toArray n=true)
  (v:fM l.toArray n B=true)(g:(gK B (ws.map (·.1))&&(ws.map (·.1)).all (fun p=>decide (p<n)))=true)
  (k:dy T w f)(o:iV T w ws)(i:∀w' e,Fr T w w'→Fr ag w' e→b w'→b e)(s:b w.drew)
  (A:ib P l.toArray Q T w (fun u=>au ((l.take n).map (·.dst)) 0 u a) (bZ f) ws b B n 0 (l.take n))
  (q:∀u w',Fr T w w'→(∀j,j<n→bZ f j (u j) w')→lH ws b w'→wpList P l.toArray Q (l.drop n) (au ((l.take n).map (·.dst)) 0 u a) w'):wpAny P .any l.toArray Q l.toArray.size (Array.replicate l.toArray.size false) a w.drew:=by
 have ok:=pV.of z;obtain⟨D,r⟩:=gF ((l.take n).map (·.dst)) 0 a;have d:HeadInv .any l.toArray n (Array.replicate l.toArray.size false):=
  ⟨by simp,fun j F _ c=>(by rw[getD_replicate_false]at c;cases c),fun t _ q=>getD_in (by simpa using q) (getD_replicate_false _ _)⟩;have y:ck (fun j=>!(Array.replicate l.toArray.size false).getD j false) n=n:=by
  have h:∀m,ck (fun j=>!(Array.replicate l.toArray.size false).getD j false) m=m:=by
   intro m;induction m with
   |zero=>rfl
   |succ m C=>rw[ck,C,getD_replicate_false];rfl
  exact h n
 have:=Ji (P:=P) (Q:=Q) (a:=a) ok v g k o i (by simpa using A) (by simpa using q) n _ D w.drew d y (aA.drew) (by rw[kj ws b _ (fun x _=>getD_replicate_false _ _)];exact s) (fun j E c=>by rw[getD_replicate_false]at c;cases c);rw[show(l.toArray.toList.take n).map (·.dst)=(l.take n).map (·.dst)by simp,r,show n+(l.toArray.size-n)=l.toArray.size by have:=ok.le;omega]at this;exact this
theorem oZ{r m:Nat}{P:Program}{id:Nat}{Q:Exit→Act→World→Prop}{a:Act}{w:World}{l:List Oper}(n:Nat)(T:Nat→Prop)(d:List (Value→World→Prop))(ws:List (Nat×(World→Prop)))(b:World→Prop)(B:Nat→Nat→Bool)(s:(l.all gS)=true)(hm:P.follows .mixedOrders=true)(t:oI l.toArray n=true)
  (q:fM l.toArray n B=true)(f:(gK B (ws.map (·.1))&&(ws.map (·.1)).all (fun p=>decide (p<n)))=true)
  (h:dy T w d)(k:iV T w ws)(g:∀w' c,Fr T w w'→Fr ag w' c→b w'→b c)(o:b w.drew)
  (v:ib P l.toArray (fun e a w=>Q e a w∧e= .normal) T w (fun u=>au ((l.take n).map (·.dst)) 0 u a) (bZ d) ws b B n 0 (l.take n))
  (y:∀u w',Fr T w w'→(∀j,j<n→bZ d j (u j) w')→lH ws b w'→wpList P l.toArray (fun e a w=>Q e a w∧e= .normal) (l.drop n) (au ((l.take n).map (·.dst)) 0 u a) w'):(Code.region id l.toArray true).wpIn (Fence.wide.inRound r) m P Q a w:=
 wpIn_region_any hm (iE (fun i z x=>List.all_eq_true.1 s z (List.mem_of_getElem? (by simpa using x))) _ _ _ _ (He n T d ws b B t q f h k g o v y))
theorem bV{P:Program}{ops:Array Oper}{rest:List Oper}{m:Oper}{a:Act}{w:World}{Q:Exit→Act→World→Prop}(c:m.guard=none)(ty:TypeId)(x y:Operand)(i:m.op= .store ty x y)
  (g:Nat)(v:Value)(j:a.eval x= .pointer (some ⟨g,0,none⟩))(l:a.eval y=v)(e:v.oneCell'=true)
  (t:TypeId)(b:Value)(d:ao w g t #[b])(f:(P.info? ty).map (·.size)=some 1)
  (h:∀w',ao w' g t #[v]→Fr (fun k=>k=g) w w'→wpList P ops Q rest (a.put m.dst undef) w'):wpList P ops Q (m::rest) a w:=by
 subst l;exact wpList_store_one c ty x y i g j e t b d f (h _ (ig d) ((Fr.refl (fun k=>k=g) w).setRow (fun _=>rfl) _))
theorem cM{w:World}{base:Nat}{e:TypeId}{size n k:Nat}{v:Value}{xs:List Value}(h:w.ownsRow base e size v n xs)(a:v.ownBlock=some k):∃c f,w.heap[k]? =some (.cells c e f):=by
 rcases h.2 with⟨rfl,_⟩|⟨g,b,cur,rfl,_,d,_⟩;·simp[Value.ownBlock]at a
 ·simp[Value.ownBlock]at a;subst a;exact⟨_,_,d⟩
def lL(t:TypeId):Op→Bool
 | .load a _=>t==a
 |_=>false
theorem cp{r n:Nat}{P:Program}{ops:Array Oper}{Q:Exit→Act→World→Prop}{d:Oper}{l:List Oper}{a:Act}{w:World}(f:Op→Bool)(b:f d.op=true)(c:((d::l).all gS)=true)(h:wpList P ops (fun e a w=>Q e a w∧e= .normal) (d::l) a w):wpListIn (Fence.wide.inRound r) n P ops Q (d::l) a w:=
 jc c h
def Sz(w:World)(g:Nat):Prop:=w.heap.size≤g
structure sG{α:Type}(b d:World)(g2:Nat)(c e:TypeId)(sz:Nat)(a:List α→Nat)(cells:List α→List Value)(pre:List α)(W:World):Prop where
 fr:Fr ag b W
 kn:KN d W
 row:∃v,ao W g2 c #[v]∧W.ownsRow 0 e sz v (a pre) (cells pre)∧∀k,v.ownBlock=some k→b.heap.size≤k∧k≠g2
theorem sG.iX{α:Type}{r x:World}{g2:Nat}{s e:TypeId}{sz B:Nat}{l:List α→Nat}{cells:List α→List Value}(t:g2<B)(y:r.heap.size≤B):OwnFrom B (sG r x g2 s e sz l cells):=by
 intro pre X Y row h u o;have b:∀k,k<B→some k≠row:=fun k q e=>by have:=(o k e.symm).1;omega
 have j:Fr (fun k=>some k=row) X Y:=Fr.grown u;obtain⟨v,mO,a,w⟩:=h.row;refine⟨h.fr.aw j (fun i z e=>absurd e (b i (by omega))),h.kn.trans (KN.fr j (fun g cs p e=>?_)),⟨v,mO.fr j (fun e=>b _ t e),aQ a j (fun k q e=>?_),w⟩⟩;·obtain⟨_,A,d,m⟩:=o g e.symm;unfold ao at p;rw[p]at d;cases d;simp[Obj.isCells]at m
 ·obtain⟨_,A,d,m⟩:=o k e.symm;obtain⟨c,f,n⟩:=cM a q;rw[n]at d;cases d;simp[Obj.isCells]at m
theorem sG.same{α:Type}{g i W X:World}{g2:Nat}{f e:TypeId}{sz:Nat}{b:List α→Nat}{cells:List α→List Value}{pre a:List α}(h:sG g i g2 f e sz b cells pre W)(d:Fr ag W X)(j:b a=b pre)(k:cells a=cells pre):sG g i g2 f e sz b cells a X:=by
 obtain⟨v,mO,c,l⟩:=h.row;refine⟨h.fr.trans d,h.kn.trans (KN.fr d (fun _ _ _ x=>x)),⟨v,mO.fr d (fun x=>x),?_,l⟩⟩;rw[j,k];exact aQ c d (fun _ _ x=>x)
theorem sG.step{α:Type}{m A W X s l:World}{g2 B:Nat}{n e:TypeId}{sz:Nat}{d:List α→Nat}{cells:List α→List Value}{pre b:List α}{v v2:Value}
  (u:sG m A g2 n e sz d cells pre W)(D:g2<B)(E:m.heap.size≤B)(H:m.heap.size≤g2)(x:n≠177)(he:e≠177)(w:ao W g2 n #[v])
  (j:W.ownsRow 0 e sz v (d pre) (cells pre))(a:∀k,v.ownBlock=some k→m.heap.size≤k∧k≠g2)
  (z:Fr ag W X)(t:bW e sz X v s v2 (d b) (cells b))(f3:Fr (fun k=>k=g2) s l)(b3:ao l g2 n #[v2]):
  KeepsFrom B W l∧KN W l∧sG m A g2 n e sz d cells b l:=by
 have s1:m.heap.size≤W.heap.size:=u.fr.size;have s2:W.heap.size≤X.heap.size:=z.size;have J:g2<W.heap.size:=w.lt;have o:∀k,v2.ownBlock=some k→m.heap.size≤k∧k≠g2:=fun k y=>by
  rcases t.ez k y with h|h;·exact a k h
  ·constructor<;>omega
 have F:Fr (fun k=>k=g2∨v.ownBlock=some k) W l:=by
  have C:Fr (fun k=>k=g2∨v.ownBlock=some k) W s:=(z.bI).trans (t.fr.mono (fun i _ h=> .inr h));exact C.trans (f3.mono (fun i _ h=> .inl h))
 have K:KN W l:=KN.fr F (fun g cs p h=>by
  unfold ao at p w;rcases h with rfl|h;·rw[w]at p;cases p;exact x rfl
  ·obtain⟨c,f,q⟩:=cM j h;rw[q]at p;cases p;exact he rfl);refine⟨⟨F.size,fun k L _ q G=>?_⟩,K,?_,u.kn.trans K,?_⟩
 ·refine(F.block k (Array.getElem?_eq_some_iff.1 q).1 ?_).trans q;rintro(rfl|h);·omega
  ·obtain⟨c,f,r⟩:=cM j h;rw[q]at r;cases r;simp[Obj.isCells]at G
 ·refine u.fr.aw F (fun i I h=>?_);rcases h with h|h;·omega
  ·have:=(a i h).1;omega
 ·exact⟨v2,b3,aQ t.own f3 (fun k y e=>(o k y).2 e),o⟩
theorem KN.put(W:World)(l:Nat)(f b:Obj)(h:W.heap[l]? =some f)(d:f.isCells=false):KN W (W.putObj l b):=
 KN.fr (Fr.grown (grownBy_putObj' W l b)) (fun g cs a e=>by
  have c:g=l:=by simpa using e
  subst c;unfold ao at a;rw[a]at h;cases h;simp[Obj.isCells]at d)
theorem lJ(a:Option Addr)(w:World):Calls Tryz.prog 144 #[.pointer a] w fun r w'=>r= .returned (.func (.func 169) #[] #[.pointer (some ⟨w.heap.size,0,none⟩)])∧Fr ag w w'∧ao w' w.heap.size 25 #[.pointer a]:=by
 go_enter Tryz.func144,Tryz.ntmps144;go_wp2_with(refine ay rfl 25 (.tmp 0) rfl #[.pointer a] rfl ?_);intro w1 n1;have b:=af n1;clear n1;go_wp2;go_ret;exact⟨rfl,b.out.fr,b.out.aF⟩
def Ku(x:Nd):Value:= .pointer (some ⟨x.g,0,none⟩)
end Go.Proofs.YtphjagkehiklkaaGreatDoor
