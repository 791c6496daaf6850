/- Texts. -/
import Derived.Deep.MidRow
import Derived.LoopIn
import Derived.LoopNIn
import Derived.RangeFuncBound
import Derived.RangeFuncNested
import Derived.Shelf.RegionOpen
import Derived.Test.YtphjagkehiklkaaGreatDoorWK04
set_option linter.unusedVariables false
set_option linter.unusedSimpArgs false
set_option maxRecDepth 100000
set_option maxHeartbeats 1000000
namespace Go.Proofs.YtphjagkehiklkaaGreatDoor
open Go.RowKit
def aY(w:World)(v:Value)(e:Ending)(w':World):Prop:=e= .returned v∧w=w'
def bj(p:Prop):Prop:=p
theorem bj.go{p:Prop}(h:bj p):p:=h
theorem jP{P:Program}(w:World)(b:Addr)(ty:TypeId)(cs:List Value)(d:TypeDesc)(f:∀j v,cs[j]? =some v→w.cell? (b.add j)=some v)
  (hu:P.underlying ty=some d)(k:d.isRow=true)(e:(P.info? ty).map (·.size)=some cs.length):(loadVar ty b).run P w= .ok (.agg cs.toArray) w:=by
 have g:(loadCells b cs.length).run P w= .ok cs.toArray w:=run_loadCells_list (P:=P) w b cs f;cases c:P.info? ty with
 |none=>simp[c]at e
 |some i=>
  have h:i.size=cs.length:=by simpa[c]using e
  have a:(isAgg ty).run P w= .ok true w:=by
   unfold isAgg;rw[Sem.run_bind,run_underlying hu w];cases d<;>simp_all
  simp[loadVar,Sem.run_bind,a,sizeOf,typeInfo,c,h,g]
theorem az{P:Program}{op:Oper}{a:Act}{w:World}{K:Act→World→Prop}{Q:Exit→Act→World→Prop}(ty:TypeId)(x:Operand)(g:op.op= .load ty x)
  (b:Addr)(i:a.eval x= .pointer (some b))(cs:List Value)(d:TypeDesc)(c:∀j v,cs[j]? =some v→w.cell? (b.add j)=some v)
  (hu:P.underlying ty=some d)(e:d.isRow=true)(f:(P.info? ty).map (·.size)=some cs.length)
  (h:K (a.put op.dst (.agg cs.toArray)) w):op.wp P a w K Q:=by
 unfold Oper.wp execOp;simp only[g,i,Instr.loadAt,Instr.sureAddr,Sem.run_bind,Sem.run_pure,Result.andThen_ok,jP w b ty cs d c hu e f];exact h
theorem aF{P:Program}{ops:Array Oper}{rest:List Oper}{op:Oper}{a:Act}{w:World}{Q:Exit→Act→World→Prop}(c:op.guard=none)(ty:TypeId)(x:Operand)(k:op.op= .load ty x)
  (b:Addr)(l:a.eval x= .pointer (some b))(cs:List Value)(d:TypeDesc)(f:∀j v,cs[j]? =some v→w.cell? (b.add j)=some v)
  (hu:P.underlying ty=some d)(g:d.isRow=true)(i:(P.info? ty).map (·.size)=some cs.length)
  (h:wpList P ops Q rest (a.put op.dst (.agg cs.toArray)) w):wpList P ops Q (op::rest) a w:=
 wpList_plain c fun _ e=>az ty x k b l cs d f hu g i (e _ _ h)
structure aK where
 kind:Int
 owner:ByteArray
 number:Int
 index:Int
 text:ByteArray
def aK.cells(n:aK):List Value:=[.int .i64 n.kind, .string n.owner, .int .i64 n.number, .int .i64 n.index, .string n.text]
def aK.val(n:aK):Value:= .agg n.cells.toArray
theorem aK.ey(n:aK):n.cells.length=5:=rfl
theorem bD:(Tryz.prog.info? 106).map (·.size)=some 5:=by kernel_rfl
inductive Tr where
 |leaf
 |node(l:Tr)(nm:aK)(v:ByteArray)(r:Tr)
def Tr.cG:Tr→Nat
 | .leaf=>0
 | .node l _ _ r=>1+max l.cG r.cG
def Tr.size:Tr→Nat
 | .leaf=>0
 | .node l _ _ r=>1+l.size+r.size
def Tr.bytes:Tr→Nat
 | .leaf=>0
 | .node l _ v r=>v.size+l.bytes+r.bytes
theorem Tr.jI:∀t:Tr,t.cG≤t.size
 | .leaf=>Nat.le_refl _
 | .node l _ _ r=>by
  have:=l.jI;have:=r.jI;simp only[Tr.cG,Tr.size];omega
def rO(a ra:Option Addr)(t:Tr):List Value:=
 match t with
 | .leaf=>[]
 | .node _ nm v _=>[.pointer a, .pointer ra]++nm.cells++[.string v, .int .i64 (t.cG:Nat), .int .i64 (t.size:Nat), .int .i64 (t.bytes:Nat)]
theorem yR(a ra:Option Addr)(nm:aK)(v:ByteArray)(h z y:Int):
  Tryz.prog.built 177 [(0, .pointer a),(1, .pointer ra),(2, .agg #[.int .i64 nm.kind, .string nm.owner, .int .i64 nm.number, .int .i64 nm.index, .string nm.text]),(3, .string v),(4, .int .i64 h),(5, .int .i64 z),(6, .int .i64 y)]=some #[.pointer a, .pointer ra, .int .i64 nm.kind, .string nm.owner, .int .i64 nm.number, .int .i64 nm.index, .string nm.text, .string v, .int .i64 h, .int .i64 z, .int .i64 y]:=by kernel_rfl
theorem eA{P:Program}{ops:Array Oper}{rest:List Oper}{j:Oper}{a:Act}{w:World}{Q:Exit→Act→World→Prop}(e:j.guard=none)(t:TypeId)(parts:Array (Nat×Operand))(f:j.op= .build t parts)
  (cells:Array Value)(c:List (Nat×Value))(g:(parts.map fun(i,x)=>(i,a.eval x)).toList=c)(b:P.built t c=some cells)(h:wpList P ops Q rest (a.put j.dst (.agg cells)) w):wpList P ops Q (j::rest) a w:=by
 subst g;exact wpList_plain e fun _ d=>wp_build t parts f (by rw[b];rfl) (by rw[b];exact d _ _ h)
def cE(w:World):Option Addr→Tr→Prop
 |a, .leaf=>a=none
 |a, .node l nm v r=>∃g b ra,a=some ⟨g,0,none⟩∧cE w b l∧cE w ra r∧aq w g 177 (rO b ra (.node l nm v r)).toArray
theorem cE.ar{w w':World}:∀{a:Option Addr}{t:Tr},cE w a t→Fr ag w w'→cE w' a t
 |_, .leaf,h,_=>h
 |_, .node _ _ _ _,⟨g,i,ra,e,c,d,f⟩,b=>⟨g,i,ra,e,c.ar b,d.ar b,f.fr b (fun x=>x)⟩
structure Mid(w:World)(g:Nat)(nm:aK)(v:ByteArray):Prop where
 name:∀j x,nm.cells[j]? =some x→w.cell? ⟨g,2+j,none⟩=some x
 val:w.cell? ⟨g,7,none⟩=some (.string v)
theorem Mid.ar{w w':World}{g:Nat}{nm:aK}{v:ByteArray}(h:Mid w g nm v)(a:Fr ag w w'):Mid w' g nm v:=
 ⟨fun j x b=>a.an (h.name j x b) (fun x=>x),a.an h.val (fun x=>x)⟩
theorem Mid.of{w:World}{g:Nat}{a b c d e:Value}{nm:aK}{v:ByteArray}(h:aq w g 177 ([a,b]++nm.cells++[.string v,c,d,e]).toArray):Mid w g nm v:=by
 refine⟨fun j x f=>?_,h.cell 7⟩;have i:j<5:=(List.getElem?_eq_some_iff.1 f).1;rw[h.cell,bR,List.append_assoc,List.getElem?_append_right (by simp),List.getElem?_append_left (by simp[aK.cells];omega)];rw[show 2+j-[a,b].length=j by simp];exact f
theorem cE.lA{w:World}{g:Nat}{l r:Tr}{nm:aK}{v:ByteArray}(h:cE w (some ⟨g,0,none⟩) (.node l nm v r)):Mid w g nm v:=by
 obtain⟨b,c,ra,e,_,_,a⟩:=h;cases e;exact Mid.of a
theorem fh(w:World)(a:Option Addr)(t:Tr)(h:cE w a t):Calls Tryz.prog 181 #[.pointer a] w (aY w (.int .i64 (t.cG:Nat))):=by
 cases t with
 |leaf=>
  obtain rfl:a=none:=h;go_enter Tryz.func181,Tryz.ntmps181;go_wp2;go_ret;exact⟨rfl,rfl⟩
 |node l nm v r=>
  obtain⟨g,d,ra,rfl,_,_,b⟩:=h;have c:w.cell? ⟨g,8,none⟩=some (.int .i64 ((Tr.node l nm v r).cG:Nat)):=b.cell 8;generalize(Tr.node l nm v r).cG=x at*;clear b;go_enter Tryz.func181,Tryz.ntmps181;go_wp2;go_ret;exact⟨rfl,rfl⟩
theorem oW(w:World)(a:Option Addr)(t:Tr)(h:cE w a t):Calls Tryz.prog 137 #[.pointer a] w (aY w (.int .i64 (t.size:Nat))):=by
 cases t with
 |leaf=>
  obtain rfl:a=none:=h;go_enter Tryz.func137,Tryz.ntmps137;go_wp2;go_ret;exact⟨rfl,rfl⟩
 |node l nm v r=>
  obtain⟨g,d,ra,rfl,_,_,b⟩:=h;have c:w.cell? ⟨g,9,none⟩=some (.int .i64 ((Tr.node l nm v r).size:Nat)):=b.cell 9;generalize(Tr.node l nm v r).size=x at*;clear b;go_enter Tryz.func137,Tryz.ntmps137;go_wp2;go_ret;exact⟨rfl,rfl⟩
theorem qI(w:World)(a:Option Addr)(t:Tr)(h:cE w a t):Calls Tryz.prog 138 #[.pointer a] w (aY w (.int .i64 (t.bytes:Nat))):=by
 cases t with
 |leaf=>
  obtain rfl:a=none:=h;go_enter Tryz.func138,Tryz.ntmps138;go_wp2;go_ret;exact⟨rfl,rfl⟩
 |node l nm v r=>
  obtain⟨g,d,ra,rfl,_,_,b⟩:=h;have c:w.cell? ⟨g,10,none⟩=some (.int .i64 ((Tr.node l nm v r).bytes:Nat)):=b.cell 10;generalize(Tr.node l nm v r).bytes=x at*;clear b;go_enter Tryz.func138,Tryz.ntmps138;go_wp2;go_ret;exact⟨rfl,rfl⟩
theorem fm(w:World)(m ra:Option Addr)(l r:Tr)(g:Nat)(nm:aK)(v:ByteArray)(n:cE w m l)(o:cE w ra r)(R:Mid w g nm v)(aR:l.size+r.size≤1048576)(aQ:v.size+l.bytes+r.bytes≤1099511627776):
  Calls Tryz.prog 178 #[.pointer m, .pointer (some ⟨g,0,none⟩), .pointer ra] w (fun e w'=>∃a,e= .returned (.pointer a)∧cE w' a (.node l nm v r)∧Fr ag w w'):=by
 have t:Hid (∀w',Fr ag w w'→Calls Tryz.prog 181 #[.pointer m] w' (aY w' (.int .i64 (l.cG:Nat)))):=fun w' k=>fh w' m l (n.ar k);have y:Hid (∀w',Fr ag w w'→Calls Tryz.prog 181 #[.pointer ra] w' (aY w' (.int .i64 (r.cG:Nat)))):=fun w' k=>fh w' ra r (o.ar k);have z:Hid (∀w',Fr ag w w'→Calls Tryz.prog 137 #[.pointer m] w' (aY w' (.int .i64 (l.size:Nat)))):=fun w' k=>oW w' m l (n.ar k);have A:Hid (∀w',Fr ag w w'→Calls Tryz.prog 137 #[.pointer ra] w' (aY w' (.int .i64 (r.size:Nat)))):=fun w' k=>oW w' ra r (o.ar k);have q:Hid (∀w',Fr ag w w'→Calls Tryz.prog 138 #[.pointer m] w' (aY w' (.int .i64 (l.bytes:Nat)))):=fun w' k=>qI w' m l (n.ar k);have s:Hid (∀w',Fr ag w w'→Calls Tryz.prog 138 #[.pointer ra] w' (aY w' (.int .i64 (r.bytes:Nat)))):=fun w' k=>qI w' ra r (o.ar k);have Y:=af R;have D:=l.jI;have E:=r.jI;have X:Hid (∀w' W,Fr ag w w'→aq w' W 177 (rO m ra (.node l nm v r)).toArray→cE w' (some ⟨W,0,none⟩) (.node l nm v r)):=fun w' W k ba=>⟨W,m,ra,rfl,n.ar k,o.ar k,ba⟩;have p:Hid (rO m ra (.node l nm v r)=[.pointer m, .pointer ra]++nm.cells++[.string v, .int .i64 ((1+max l.cG r.cG:Nat):Int), .int .i64 ((1+l.size+r.size:Nat):Int), .int .i64 ((v.size+l.bytes+r.bytes:Nat):Int)]):=rfl;generalize rO m ra (.node l nm v r)=B at*;obtain⟨H,N⟩:∃H,H=l.cG:=⟨_,rfl⟩;obtain⟨I,O⟩:∃I,I=r.cG:=⟨_,rfl⟩;obtain⟨J,P⟩:∃J,J=l.size:=⟨_,rfl⟩;obtain⟨K,Q⟩:∃K,K=r.size:=⟨_,rfl⟩;obtain⟨F,L⟩:∃F,F=l.bytes:=⟨_,rfl⟩;obtain⟨G,M⟩:∃G,G=r.bytes:=⟨_,rfl⟩;rw[←N]at t D p;rw[←O]at y E p;rw[←P]at z aR D p;rw[←Q]at A aR E p;rw[←L]at q aQ p;rw[←M]at s aQ p;obtain⟨hm,ad⟩:∃hm:Nat,max (H:Int) (I:Int)=(hm:Int):=⟨max H I,by omega⟩;obtain⟨C,ac⟩:∃C:Nat,(1:Int)+(hm:Int)=(C:Int):=⟨1+hm,by omega⟩;obtain⟨s1,ae⟩:∃s1:Nat,(1:Int)+(J:Int)=(s1:Int):=⟨1+J,by omega⟩;obtain⟨s2,ai⟩:∃s2:Nat,(s1:Int)+(K:Int)=(s2:Int):=⟨s1+K,by omega⟩;obtain⟨b1,aa⟩:∃b1:Nat,(v.size:Int)+(F:Int)=(b1:Int):=⟨v.size+F,by omega⟩;obtain⟨b2,ab⟩:∃b2:Nat,(b1:Int)+(G:Int)=(b2:Int):=⟨b1+G,by omega⟩;have bd:IntKind.i64.wrap (C:Int)=(C:Int):=IntWalk.i64_in _ (by omega);have aU:IntKind.i64.wrap (s1:Int)=(s1:Int):=IntWalk.i64_in _ (by omega);have aV:IntKind.i64.wrap (s2:Int)=(s2:Int):=IntWalk.i64_in _ (by omega);have aS:IntKind.i64.wrap (b1:Int)=(b1:Int):=IntWalk.i64_in _ (by omega);have aT:IntKind.i64.wrap (b2:Int)=(b2:Int):=IntWalk.i64_in _ (by omega);rw[show(1+max H I:Nat)=C by omega,show(1+J+K:Nat)=s2 by omega,show v.size+F+G=b2 by omega]at p;have a2:Hid (Tryz.prog.built 177 [(0, .pointer m),(1, .pointer ra),(2, .agg nm.cells.toArray),(3, .string v),(4, .int .i64 (C:Nat)),(5, .int .i64 (s2:Nat)),(6, .int .i64 (b2:Nat))]=some B.toArray):=by rw[p.out];exact yR m ra nm v _ _ _
 clear n o R N O P Q L M D E aR aQ;go_enter Tryz.func178,Tryz.ntmps178;go_upto_region 1 with fail;refine aC 33 ag [Is (.pointer m),Is (.pointer ra),Is (.pointer (some ⟨g,0,none⟩)),Is (.pointer (some ⟨g,0,none⟩)),Is (.pointer (some ⟨g,2,none⟩)),Is (.agg nm.cells.toArray),Is (.pointer (some ⟨g,0,none⟩)),Is (.pointer (some ⟨g,0,none⟩)),Is (.pointer (some ⟨g,7,none⟩)),Is (.string v),Is (.pointer m),Is (.int .i64 H),Is (.pointer ra),Is (.int .i64 I),Is (.int .i64 hm),Is (.int .i64 C),Is (.pointer m),Is (.int .i64 J),Is (.int .i64 s1),Is (.pointer ra),Is (.int .i64 K),Is (.int .i64 s2),Is (.pointer (some ⟨g,0,none⟩)),Is (.pointer (some ⟨g,0,none⟩)),Is (.pointer (some ⟨g,7,none⟩)),Is (.string v),Is (.int .i64 v.size),Is (.pointer m),Is (.int .i64 F),Is (.int .i64 b1),Is (.pointer ra),Is (.int .i64 G),Is (.int .i64 b2)] [] (fun _=>True) (fun _ _=>false) (by kernel_rfl) (by kernel_rfl) (by kernel_rfl) (by kernel_rfl) ⟨Is.ah _,Is.ah _,Is.ah _,Is.ah _,Is.ah _,Is.ah _,Is.ah _,Is.ah _,Is.ah _,Is.ah _,Is.ah _,Is.ah _,Is.ah _,Is.ah _,Is.ah _,Is.ah _,Is.ah _,Is.ah _,Is.ah _,Is.ah _,Is.ah _,Is.ah _,Is.ah _,Is.ah _,Is.ah _,Is.ah _,Is.ah _,Is.ah _,Is.ah _,Is.ah _,Is.ah _,Is.ah _,Is.ah _,trivial⟩ trivial (fun _ _ _ _ h=>h) trivial ?_ ?_
 ·refine⟨?_,?_,?_,?_,?_,?_,?_,?_,?_,?_,?_,?_,?_,?_,?_,?_,?_,?_,?_,?_,?_,?_,?_,?_,?_,?_,?_,?_,?_,?_,?_,?_,?_,trivial⟩;all_goals intro u w' d k b f c i
  all_goals simp only[bH,bI,bJ,bK,ay,Act.put,bL,bM,bN,Nat.reduceAdd,Nat.zero_add]
  ·clear b f c i;refine aj ?_;go_simp;exact⟨_,rfl,al⟩
  ·clear b f c i;refine aj ?_;go_simp;exact⟨_,rfl,al⟩
  ·clear b f c i;refine aj ?_;go_simp;exact⟨_,rfl,al⟩
  ·have a4:u 2=_:=b 2;clear b f c i;simp only[a4];refine aj ?_;go_simp;exact⟨_,rfl,al⟩
  ·have a5:u 3=_:=b 3;clear b f c i;simp only[a5];refine aj ?_;go_simp;exact⟨_,rfl,al⟩
  ·have a6:u 4=_:=b 4;clear b f c i;simp only[a6];refine aj ?_;exact az _ _ rfl ⟨g,2,none⟩ rfl nm.cells _ (fun j x bc=>by rw[Addr.add_mid];exact k.an (Y.out.name j x bc) (fun x=>x)) Tryz.underlying106 rfl bD ⟨_,rfl,al⟩
  ·clear b f c i;refine aj ?_;go_simp;exact⟨_,rfl,al⟩
  ·have a7:u 6=_:=b 6;clear b f c i;simp only[a7];refine aj ?_;go_simp;exact⟨_,rfl,al⟩
  ·have a8:u 7=_:=b 7;clear b f c i;simp only[a8];refine aj ?_;go_simp;exact⟨_,rfl,al⟩
  ·have a9:u 8=_:=b 8;clear b f c i;simp only[a9];refine aj ?_;have bb:w'.cell? ⟨g,7,none⟩=some (.string v):=k.an Y.out.val (fun x=>x);go_simp;exact⟨_,rfl,al⟩
  ·clear b f c i;refine aj ?_;go_simp;exact⟨_,rfl,al⟩
  ·have ak:u 10=_:=b 10;clear b f c i;simp only[ak];refine aj ?_;go_simp;refine(t.out _ k).mono ?_;rintro e V⟨rfl,rfl⟩;exact⟨_,rfl,al⟩
  ·clear b f c i;refine aj ?_;go_simp;exact⟨_,rfl,al⟩
  ·have ao:u 12=_:=b 12;clear b f c i;simp only[ao];refine aj ?_;go_simp;refine(y.out _ k).mono ?_;rintro e V⟨rfl,rfl⟩;exact⟨_,rfl,al⟩
  ·have am:u 11=_:=b 11;have ap:u 13=_:=b 13;clear b f c i;simp only[am,ap];refine aj ?_;go_simp;exact⟨_,rfl,al⟩
  ·have au:u 14=_:=b 14;clear b f c i;simp only[au];refine aj ?_;go_simp;exact⟨_,rfl,al⟩
  ·clear b f c i;refine aj ?_;go_simp;exact⟨_,rfl,al⟩
  ·have av:u 16=_:=b 16;clear b f c i;simp only[av];refine aj ?_;go_simp;refine(z.out _ k).mono ?_;rintro e V⟨rfl,rfl⟩;exact⟨_,rfl,al⟩
  ·have aw:u 17=_:=b 17;clear b f c i;simp only[aw];refine aj ?_;go_simp;exact⟨_,rfl,al⟩
  ·clear b f c i;refine aj ?_;go_simp;exact⟨_,rfl,al⟩
  ·have aB:u 19=_:=b 19;clear b f c i;simp only[aB];refine aj ?_;go_simp;refine(A.out _ k).mono ?_;rintro e V⟨rfl,rfl⟩;exact⟨_,rfl,al⟩
  ·have ax:u 18=_:=b 18;have aD:u 20=_:=b 20;clear b f c i;simp only[ax,aD];refine aj ?_;go_simp;exact⟨_,rfl,al⟩
  ·clear b f c i;refine aj ?_;go_simp;exact⟨_,rfl,al⟩
  ·have aE:u 22=_:=b 22;clear b f c i;simp only[aE];refine aj ?_;go_simp;exact⟨_,rfl,al⟩
  ·have aF:u 23=_:=b 23;clear b f c i;simp only[aF];refine aj ?_;go_simp;exact⟨_,rfl,al⟩
  ·have aG:u 24=_:=b 24;clear b f c i;simp only[aG];refine aj ?_;have bb:w'.cell? ⟨g,7,none⟩=some (.string v):=k.an Y.out.val (fun x=>x);go_simp;exact⟨_,rfl,al⟩
  ·have aI:u 25=_:=b 25;clear b f c i;simp only[aI];refine aj ?_;go_simp;exact⟨_,rfl,al⟩
  ·clear b f c i;refine aj ?_;go_simp;exact⟨_,rfl,al⟩
  ·have aL:u 27=_:=b 27;clear b f c i;simp only[aL];refine aj ?_;go_simp;refine(q.out _ k).mono ?_;rintro e V⟨rfl,rfl⟩;exact⟨_,rfl,al⟩
  ·have aJ:u 26=_:=b 26;have aM:u 28=_:=b 28;clear b f c i;simp only[aJ,aM];refine aj ?_;go_simp;exact⟨_,rfl,al⟩
  ·clear b f c i;refine aj ?_;go_simp;exact⟨_,rfl,al⟩
  ·have aO:u 30=_:=b 30;clear b f c i;simp only[aO];refine aj ?_;go_simp;refine(s.out _ k).mono ?_;rintro e V⟨rfl,rfl⟩;exact⟨_,rfl,al⟩
  ·have aN:u 29=_:=b 29;have aP:u 31=_:=b 31;clear b f c i;simp only[aN,aP];refine aj ?_;go_simp;exact⟨_,rfl,al⟩
 ·intro u w' k b i;have c:u 0=_:=b 0 (by omega);have f:u 1=_:=b 1 (by omega);have aZ:u 5=_:=b 5 (by omega);have a0:u 9=_:=b 9 (by omega);have S:u 15=_:=b 15 (by omega);have T:u 21=_:=b 21 (by omega);have U:u 32=_:=b 32 (by omega);clear b i;simp only[bH,bI,bJ,bK,ay,Act.put,bL,bM,bN,dD,dE,Nat.reduceAdd,Nat.zero_add,c,f,aZ,a0,S,T,U];have aW:=af k;clear k c f aZ a0 S T U ad ac ae ai aa ab bd aU aV aS aT t y z A q s;go_wp2_with(refine eA rfl 177 _ rfl B.toArray _ (by simp only[List.map_toArray,List.map_cons,List.map_nil];rfl) a2.out (bj.go ?hold));unfold bj;go_wp2_with(refine aA rfl 177 (.tmp 40) rfl B.toArray rfl ?_);intro w2 a1;have Z:=af a1;clear a1;generalize aX:w'.heap.size=g2 at*;have a3:=af aX;clear aX;go_wp2;go_ret;exact⟨_,rfl,X.out w2 g2 (aW.out.trans Z.out.fr) (by have h:=Z.out.aH;rw[a3.out]at h;exact h),aW.out.trans Z.out.fr⟩
theorem uC(a:Int)(w:World):Calls Tryz.prog 164 #[.int .i64 a] w (aY w (.bool false)):=by
 go_enter Tryz.func164,Tryz.ntmps164;go_wp2;go_ret;exact⟨rfl,rfl⟩
def Dv(a b:Int):Int:=if a<b then-1 else if b<a then 1 else 0
theorem iu(a b:Int)(w:World):Calls Tryz.prog 133 #[.int .i64 a, .int .i64 b] w (aY w (.int .i64 (Dv a b))):=by
 have f:=af (fun w=>uC a w);have g:=af (fun w=>uC b w);unfold Dv;by_cases c:a<b;·rw[if_pos c];have t1:decide (a<b)=true:=decide_eq_true c;clear c;go_enter Tryz.func133,Tryz.ntmps133;go_wp2_with fail;refine(f.out _).mono ?_;rintro e w'⟨rfl,rfl⟩;go_wp2_with fail;refine(g.out _).mono ?_;rintro e w'⟨rfl,rfl⟩;go_wp2;go_ret;exact⟨rfl,rfl⟩
 ·rw[if_neg c];have t1:decide (a<b)=false:=decide_eq_false c;by_cases d:b<a;·rw[if_pos d];have t2:decide (b<a)=true:=decide_eq_true d;clear c d;go_enter Tryz.func133,Tryz.ntmps133;go_wp2_with fail;refine(f.out _).mono ?_;rintro e w'⟨rfl,rfl⟩;go_wp2_with fail;refine(g.out _).mono ?_;rintro e w'⟨rfl,rfl⟩;go_wp2;go_ret;exact⟨rfl,rfl⟩
  ·rw[if_neg d];have t2:decide (b<a)=false:=decide_eq_false d;go_enter Tryz.func133,Tryz.ntmps133;go_wp2_with fail;refine(f.out _).mono ?_;rintro e w'⟨rfl,rfl⟩;go_wp2_with fail;refine(g.out _).mono ?_;rintro e w'⟨rfl,rfl⟩;go_wp2;go_ret;exact⟨rfl,rfl⟩
theorem Bx(a:ByteArray)(w:World):Calls Tryz.prog 176 #[.string a] w (aY w (.bool false)):=by
 go_enter Tryz.func176,Tryz.ntmps176;go_wp2;go_ret;exact⟨rfl,rfl⟩
theorem oN(a:ByteArray)(w:World):Calls Tryz.prog 134 #[.string a, .string a] w (aY w (.int .i64 0)):=by
 go_enter Tryz.func134,Tryz.ntmps134;go_wp2;go_ret;exact⟨rfl,rfl⟩
def nk:aK:=⟨15,ByteArray.empty,0,0,ByteArray.empty⟩
def kC:Array Value:=#[.int .i64 15, .string ByteArray.empty, .int .i64 0, .int .i64 0, .string ByteArray.empty]
def rN:Value:= .agg #[.int .i64 0, .string ByteArray.empty, .int .i64 0, .int .i64 0, .string ByteArray.empty]
theorem DY(w:World):(zeroValue 106).run Tryz.prog w= .ok rN w:=by kernel_rfl
theorem yQ:Tryz.prog.built 106 [(0, .int .i64 15)]=some kC:=by kernel_rfl
theorem Ba:kC.all (·.oneCell')=true:=by kernel_rfl
theorem qD(w:World):Calls Tryz.prog 54 #[] w (aJ w (.agg kC)):=by
 have B:=af yQ;have O:=af Ba;have j:Hid ((Tryz.prog.info? 106).map (·.size)=some kC.size):=bD;have Z:Hid ((#[.int .i64 0, .string ByteArray.empty, .int .i64 0, .int .i64 0, .string ByteArray.empty]:Array Value).size=kC.size):=rfl;generalize kC=a at*;go_enter Tryz.func54,Tryz.ntmps54;go_wp2_with(refine ak rfl 106 rfl rN DY #[.int .i64 0, .string ByteArray.empty, .int .i64 0, .int .i64 0, .string ByteArray.empty] rfl ?_);intro w1 n1;have b:=af n1;clear n1;go_wp2_with(refine eA rfl 106 #[(0, .const (.int .i64 15))] rfl a _ (by simp only[List.map_toArray,List.map_cons,List.map_nil];rfl) B.out (bj.go ?hold));unfold bj;refine ai rfl 106 (.tmp 0) _ rfl w.heap.size a rfl rfl _ _ b.out.aH j.out Z.out O.out ?_;intro c b5 f5;have d:=af b5;have f:Hid (Fr ag w c):=b.out.fr.aw f5 (fun i h e=>by have g:i=w.heap.size:=e;omega);clear b5 f5;go_wp2;exact bodyPost_ret (results_cell_row (fn:=Tryz.f54) (p:=0) (ty:=106) Tryz.results54 _ c _ 106 a (0,0) _ rfl d.out Tryz.underlying106 rfl j.out) rfl ⟨rfl,f.out⟩
theorem rG(n nm:aK)(v:ByteArray)(l r:Tr)(g:Nat)(w:World)(t:cE w (some ⟨g,0,none⟩) (.node l nm v r))
  (s:∀w',Fr ag w w'→Calls Tryz.prog 128 #[.agg n.cells.toArray, .agg nm.cells.toArray] w' (aJ w' (.int .i64 0))):
  Calls Tryz.prog 108 #[.pointer (some ⟨g,0,none⟩), .agg n.cells.toArray] w (aJ w (.pointer (some ⟨g,0,none⟩))):=by
 have y:=af s;have o:=af t.lA;clear s t;go_enter Tryz.func108,Tryz.ntmps108;go_wp2_with(refine aA rfl 106 (.tmp 1) rfl n.cells.toArray rfl ?_);intro w1 n1;have m:=af n1.fr;have k:=af n1.aH;clear n1;generalize w.heap.size=q at*;have B:Hid (aq w1 q 106 n.cells.toArray):=k.out;clear k;have A:=af (o.out.ar m.out);go_wp2;refine wp_loop_rounds 1 ?_;rw[rounds_succ];go_upto_region 2 with fail;refine aC 7 ag [Is (.agg n.cells.toArray),Is (.pointer (some ⟨g,0,none⟩)),Is (.pointer (some ⟨g,0,none⟩)),Is (.pointer (some ⟨g,2,none⟩)),Is (.agg nm.cells.toArray),Is (.int .i64 0),Is (.int .i64 0)] [] (fun _=>True) (fun _ _=>false) (by kernel_rfl) (by kernel_rfl) (by kernel_rfl) (by kernel_rfl) ⟨Is.ah _,Is.ah _,Is.ah _,Is.ah _,Is.ah _,Is.ah _,Is.ah _,trivial⟩ trivial (fun _ _ _ _ h=>h) trivial ?_ ?_
 ·refine⟨?_,?_,?_,?_,?_,?_,?_,trivial⟩;all_goals intro u w' d i a f c b
  all_goals simp only[bH,bI,bJ,bK,ay,Act.put,bL,bM,bN,Nat.reduceAdd,Nat.zero_add]
  ·clear a f c b;refine aj ?_;exact az _ _ rfl ⟨q,0,none⟩ rfl n.cells _ (fun j x p=>by rw[Addr.add_mid,Nat.zero_add];exact(B.out.fr i (fun x=>x)).cell j|>.trans (by rw[bR];exact p)) Tryz.underlying106 rfl bD ⟨_,rfl,al⟩
  ·clear a f c b;refine aj ?_;go_simp;exact⟨_,rfl,al⟩
  ·have D:u 1=_:=a 1;clear a f c b;simp only[D];refine aj ?_;go_simp;exact⟨_,rfl,al⟩
  ·have E:u 2=_:=a 2;clear a f c b;simp only[E];refine aj ?_;go_simp;exact⟨_,rfl,al⟩
  ·have F:u 3=_:=a 3;clear a f c b;simp only[F];refine aj ?_;exact az _ _ rfl ⟨g,2,none⟩ rfl nm.cells _ (fun j x p=>by rw[Addr.add_mid];exact i.an (A.out.name j x p) (fun x=>x)) Tryz.underlying106 rfl bD ⟨_,rfl,al⟩
  ·have C:u 0=_:=a 0;have G:u 4=_:=a 4;clear a f c b;simp only[C,G];refine aj ?_;go_simp;refine(y.out _ (m.out.trans i)).mono ?_;rintro e I⟨rfl,f4⟩;exact⟨_,rfl,f4.bP,rfl,trivial⟩
  ·have H:u 5=_:=a 5;clear a f c b;simp only[H];refine aj ?_;go_simp;exact⟨_,rfl,al⟩
 ·intro u w' i a b;have k6:u 6=_:=a 6 (by omega);clear a b;simp only[bH,bI,bJ,bK,ay,Act.put,bL,bM,bN,dD,dE,Nat.reduceAdd,Nat.zero_add,k6];have z:=af (m.out.trans i);clear i k6;go_wp2;go_ret;exact⟨rfl,z.out⟩
theorem Dd(nm:aK)(v:ByteArray)(g:Nat)(w:World)(c:Mid w g nm v)(h:v.size≤1099511627776):
  Calls Tryz.prog 163 #[.pointer none, .pointer (some ⟨g,0,none⟩)] w (fun e w'=>∃a,e= .returned (.pointer a)∧cE w' a (.node .leaf nm v .leaf)∧Fr ag w w'):=by
 have d:=af (fm w none none .leaf .leaf g nm v rfl rfl c (by simp[Tr.size]) (by simp only[Tr.bytes];omega));clear c;go_enter Tryz.func163,Tryz.ntmps163;go_wp2_with fail;refine d.out.mono ?_;rintro e w1⟨a,rfl,b,f1⟩;have H1:=af b;have f:=af f1;clear b f1;go_wp2;go_ret;exact⟨_,rfl,H1.out,f.out⟩
def str(l:List UInt8):ByteArray:=⟨l.toArray⟩
structure gT where
 word:ByteArray
 owner:Bool
 number:Bool
 index:Bool
 text:Bool
 aP:Int
def gT.cells(u:gT):List Value:=[.string u.word, .bool u.owner, .bool u.number, .bool u.index, .bool u.text, .int .i64 u.aP]
def ig:List gT:=[
 ⟨str [],false,false,false,false,0⟩,
 ⟨str [112,114,111,99,101,115,115],true,false,false,false,0⟩,
 ⟨str [114,101,103,105,115,116,101,114,115],true,false,false,false,0⟩,
 ⟨str [112,97,103,101],true,false,true,false,63⟩,
 ⟨str [116,97,98,108,101],true,false,false,false,0⟩,
 ⟨str [99,111,117,110,116,101,114],true,false,false,false,0⟩,
 ⟨str [112,101,110,100,105,110,103],true,false,false,false,0⟩,
 ⟨str [110,111,100,101],true,true,false,false,0⟩,
 ⟨str [98,108,111,99,107],true,true,true,false,63⟩,
 ⟨str [101,110,116,114,121],true,true,false,true,0⟩,
 ⟨str [108,105,115,116,105,110,103],true,true,false,false,0⟩,
 ⟨str [112,105,112,101],true,true,false,false,0⟩,
 ⟨str [108,111,99,107],true,true,false,false,0⟩,
 ⟨str [116,101,114,109,105,110,97,108],false,true,false,false,0⟩,
 ⟨str [97,99,99,111,117,110,116],false,false,false,true,0⟩,
 ⟨str [99,108,111,99,107],false,false,false,false,0⟩,
 ⟨str [112,111,114,116],false,true,false,false,0⟩,
 ⟨str [98,111,120],false,false,false,true,0⟩,
 ⟨str [111,117,116],true,true,true,false,1073741824⟩,
 ⟨str [115,104,101,108,108],true,false,false,false,0⟩,
 ⟨str [101,112,111,99,104],false,false,false,false,0⟩]
def FQ:List Value:=[.string (str [99,108,111,99,107]), .bool false, .bool false, .bool false, .bool false, .int .i64 0]
structure eE(w:World):Prop where
 row:∀k u,ig[k]? =some u→∀j v,u.cells[j]? =some v→w.cell? ⟨0,k*6+j,none⟩=some v
theorem eE.ar{w w':World}(h:eE w)(a:Fr ag w w'):eE w':=⟨fun k u b j v c=>a.an (h.row k u b j v c) (fun x=>x)⟩
theorem eE.clock{w:World}(h:eE w):∀j v,FQ[j]? =some v→w.cell? ⟨0,90+j,none⟩=some v:=fun j v a=>h.row 15 _ rfl j v a
def DT:Value:= .agg #[.string ByteArray.empty, .bool false, .bool false, .bool false, .bool false, .int .i64 0]
theorem vz(w:World):(zeroValue 189).run Tryz.prog w= .ok DT w:=by kernel_rfl
theorem jJ:(Tryz.prog.info? 189).map (·.size)=some 6:=by kernel_rfl
def Ei(w:World)(s:Nat)(t:Tr):Prop:=∃a,aq w s 174 #[.pointer a]∧cE w a t
theorem Ei.ar{w w':World}{s:Nat}{t:Tr}(h:Ei w s t)(b:Fr ag w w'):Ei w' s t:=by
 obtain⟨a,c,d⟩:=h;exact⟨a,c.fr b (fun x=>x),d.ar b⟩
theorem iF{P:Program}{f:Oper}{a:Act}{w:World}{K:Act→World→Prop}{Q:Exit→Act→World→Prop}(t:TypeId)(parts:Array (Nat×Operand))(d:f.op= .build t parts)
  (cells:Array Value)(c:List (Nat×Value))(e:(parts.map fun(i,x)=>(i,a.eval x)).toList=c)(b:P.built t c=some cells)(h:K (a.put f.dst (.agg cells)) w):f.wp P a w K Q:=by
 subst e;exact wp_build t parts d (by rw[b];rfl) (by rw[b];exact h)
theorem qB(w:World):Calls Tryz.prog 52 #[] w (fun e w'=>∃s,e= .returned (.pointer (some ⟨s,0,none⟩))∧Ei w' s .leaf∧Fr ag w w'):=by
 go_enter Tryz.func52,Tryz.ntmps52;go_wp2_with(refine aA rfl 174 (.tmp 1) rfl #[.pointer none] rfl ?_);intro w1 n1;have a:=af n1;clear n1;go_wp2;go_ret;exact⟨_,rfl,⟨none,a.out.aH,rfl⟩,a.out.fr⟩
theorem yF(w:World)(s:Nat)(t:Tr)(h:Ei w s t):Calls Tryz.prog 94 #[.pointer (some ⟨s,0,none⟩)] w (aY w (.int .i64 (t.size:Nat))):=by
 obtain⟨a,b,d⟩:=h;have f:=af (oW w a t d);have c:w.cell? ⟨s,0,none⟩=some (.pointer a):=b.cell 0;clear b d;go_enter Tryz.func94,Tryz.ntmps94;go_wp2_with fail;refine f.out.mono ?_;rintro e w'⟨rfl,rfl⟩;go_wp2;go_ret;exact⟨rfl,rfl⟩
theorem aT{P:Program}{ops:Array Oper}{rest:List Oper}{u:Oper}{a:Act}{w:World}{Q:Exit→Act→World→Prop}(j:u.guard=none)(ty:TypeId)(x y:Operand)(p:u.op= .store ty x y)
  (g f:Nat)(v:Value)(r:a.eval x= .pointer (some ⟨g,f,none⟩))(s:a.eval y=v)(m:v.oneCell'=true)(d:(P.info? ty).map (·.size)=some 1)
  (t:TypeId)(cs cs':Array Value)(e:aq w g t cs)(o:f<cs.size)(i:cs.setIfInBounds f v=cs')
  (h:∀w',aq w' g t cs'→Fr (fun k=>k=g) w w'→wpList P ops Q rest (a.put u.dst undef) w'):wpList P ops Q (u::rest) a w:=by
 subst i;obtain⟨b,l,q⟩:∃b,P.info? ty=some b∧b.size=1:=by
  cases he:P.info? ty with
  |none=>rw[he]at d;cases d
  |some b=>rw[he]at d;exact⟨b,rfl,by simpa using d⟩
 have c:=Lib.rl_storeVar_one (P:=P) ty b l q ⟨g,f,none⟩ v (cs[f]) m w (by rw[e.cell];simp[o]) (e.frozen _);refine wpList_plain j fun K n=>?_;unfold Oper.wp execOp;simp only[p,r,s,Instr.storeAt,Instr.sureAddr,Sem.run_bind,Sem.run_pure,Result.andThen_ok,c];exact n _ _ (h _ (e.jC f v) (Fr.setCell (T:=fun k=>k=g) (Fr.refl _ w) (fun _=>rfl) v))
theorem kN{P:Program}{r:Oper}{a:Act}{w:World}{K:Act→World→Prop}{Q:Exit→Act→World→Prop}(ty:TypeId)(x y:Operand)(n:r.op= .store ty x y)
  (g f:Nat)(v:Value)(p:a.eval x= .pointer (some ⟨g,f,none⟩))(q:a.eval y=v)(l:v.oneCell'=true)(d:(P.info? ty).map (·.size)=some 1)
  (t:TypeId)(cs cs':Array Value)(e:aq w g t cs)(m:f<cs.size)(i:cs.setIfInBounds f v=cs')
  (h:∀w',aq w' g t cs'→Fr (fun k=>k=g) w w'→K (a.put r.dst undef) w'):r.wp P a w K Q:=by
 subst i;obtain⟨b,j,o⟩:∃b,P.info? ty=some b∧b.size=1:=by
  cases he:P.info? ty with
  |none=>rw[he]at d;cases d
  |some b=>rw[he]at d;exact⟨b,rfl,by simpa using d⟩
 have c:=Lib.rl_storeVar_one (P:=P) ty b j o ⟨g,f,none⟩ v (cs[f]) l w (by rw[e.cell];simp[m]) (e.frozen _);unfold Oper.wp execOp;simp only[n,p,q,Instr.storeAt,Instr.sureAddr,Sem.run_bind,Sem.run_pure,Result.andThen_ok,c];exact h _ (e.jC f v) (Fr.setCell (T:=fun k=>k=g) (Fr.refl _ w) (fun _=>rfl) v)
structure CV where
 nm:aK
 value:ByteArray
 bA:Bool
def CV.cells(c:CV):List Value:=c.nm.cells++[.string c.value, .bool c.bA]
theorem CV.ey(c:CV):c.cells.length=7:=rfl
def wG(s:ByteArray)(k:Int):ByteArray:=s.extract 0 (min (s.size:Int) k).toNat
def CV.cut(c:CV):CV:=⟨⟨c.nm.kind,wG c.nm.owner 100,c.nm.number,c.nm.index,wG c.nm.text 100⟩,wG c.value 200,c.bA⟩
theorem Bu:(Tryz.prog.info? 247).map (·.size)=some 7:=by kernel_rfl
theorem jr:(Tryz.prog.info? 119).map (·.size)=some 7:=by kernel_rfl
theorem oM:(Tryz.prog.info? 9).map (·.size)=some 1:=by kernel_rfl
theorem CV.one(c:CV):c.cells.toArray.all (·.oneCell')=true:=by
 simp[CV.cells,aK.cells,Value.oneCell']
theorem aK.one(n:aK):n.cells.toArray.all (·.oneCell')=true:=by
 simp[aK.cells,Value.oneCell']
theorem AU(n:aK):Tryz.prog.built 106 [(0, .int .i64 n.kind),(1, .string n.owner),(2, .int .i64 n.number),(3, .int .i64 n.index),(4, .string n.text)]=some n.cells.toArray:=by kernel_rfl
theorem Gw(n:aK)(w:World):Calls Tryz.prog 160 #[.agg n.cells.toArray] w (aJ w (.agg n.cells.toArray)):=by
 have B:=af (AU n);have O:=af n.one;have E:Hid ((Tryz.prog.info? 106).map (·.size)=some n.cells.toArray.size):=bD;have Z:Hid ((#[.int .i64 0, .string ByteArray.empty, .int .i64 0, .int .i64 0, .string ByteArray.empty]:Array Value).size=n.cells.toArray.size):=rfl;go_enter Tryz.func160,Tryz.ntmps160;go_wp2_with(refine aA rfl 245 (.tmp 0) rfl n.cells.toArray rfl ?_);intro w1 n1;have j:=af n1.fr;have k:=af n1.aH;clear n1;generalize w.heap.size=c at*;go_wp2_with(refine ak rfl 106 rfl rN DY #[.int .i64 0, .string ByteArray.empty, .int .i64 0, .int .i64 0, .string ByteArray.empty] rfl ?_);intro w2 m;have f:=af m;clear m;have q:=af (j.out.trans f.out.fr);have a:=af (k.out.fr f.out.fr (fun x=>x));generalize d:w1.heap.size=g at*;have b:=af d;clear d;have l:Hid (aq w2 g 106 #[.int .i64 0, .string ByteArray.empty, .int .i64 0, .int .i64 0, .string ByteArray.empty]):=by have h:=f.out.aH;rw[b.out]at h;exact h
 have t:w2.cell? ⟨c,0,none⟩=some (.int .i64 n.kind):=a.out.cell 0;have u:w2.cell? ⟨c,1,none⟩=some (.string n.owner):=a.out.cell 1;have v:w2.cell? ⟨c,2,none⟩=some (.int .i64 n.number):=a.out.cell 2;have c3:w2.cell? ⟨c,3,none⟩=some (.int .i64 n.index):=a.out.cell 3;have y:w2.cell? ⟨c,4,none⟩=some (.string n.text):=a.out.cell 4;clear k;go_wp2_with(refine eA rfl 106 _ rfl n.cells.toArray _ (by simp only[List.map_toArray,List.map_cons,List.map_nil];rfl) B.out (bj.go ?hold));unfold bj;refine ai rfl 106 (.tmp 2) _ rfl g n.cells.toArray rfl rfl _ _ l.out E.out Z.out O.out ?_;intro o b5 f5;have r:=af b5;have s:Hid (Fr ag w o):=q.out.aw f5 (fun i A e=>by have z:i=g:=e;have C:=b.out;have D:=j.out.size;omega);clear b5 f5 f a l b t u v c3 y;go_wp2;exact bodyPost_ret (results_cell_row (fn:=Tryz.f160) (p:=2) (ty:=106) Tryz.results160 _ o _ 106 n.cells.toArray (0,0) _ rfl r.out Tryz.underlying106 rfl E.out) rfl ⟨rfl,s.out⟩
theorem Hb:∀(xs:List CV)(k:Nat)(c:CV),xs[k]? =some c→∀j x,c.cells[j]? =some x→(xs.flatMap CV.cells)[k*7+j]? =some x
 |[],_,_,h,_,_,_=>by simp at h
 |y::b,0,c,h,j,x,a=>by
  simp only[List.getElem?_cons_zero,Option.some.injEq]at h;subst h;have d:j<7:=(List.getElem?_eq_some_iff.1 a).1;rw[List.flatMap_cons,Nat.zero_mul,Nat.zero_add,List.getElem?_append_left d];exact a
 |y::b,k+1,c,h,j,x,a=>by
  rw[List.flatMap_cons,List.getElem?_append_right (by rw[CV.ey];omega),CV.ey,show(k+1)*7+j-7=k*7+j by omega];exact Hb b k c (by simpa using h) j x a
structure CL(w:World)(S:Nat→Prop)(A:Option Addr)(n:Nat)(xs:List CV):Prop where
 rd:Rd w S 7 A n (xs.flatMap CV.cells)
 len:xs.length=n
theorem CL.ar{w w':World}{S:Nat→Prop}{A:Option Addr}{n:Nat}{xs:List CV}(h:CL w S A n xs)(a:Fr ag w w'):CL w' S A n xs:=⟨h.rd.ar a,h.len⟩
theorem CL.at_{w:World}{S:Nat→Prop}{A:Option Addr}{n k:Nat}{xs:List CV}(h:CL w S A n xs)(f:k<n):∃b c,A=some b∧xs[k]? =some c∧∀j x,c.cells[j]? =some x→w.cell? ((b.add (k*7)).add j)=some x:=by
 obtain⟨b,e,i,d⟩:=h.rd.2 (by omega);have a:k<xs.length:=by rw[h.len];exact f
 refine⟨b,xs[k],e,List.getElem?_eq_getElem a,fun j x g=>?_⟩;rw[iq];exact d _ x (Hb xs k xs[k] (List.getElem?_eq_getElem a) j x g)
end Go.Proofs.YtphjagkehiklkaaGreatDoor
namespace Go.Proofs.YtphjagkehiklkaaGreatDoor
open Go.RowKit Go.Shelf
attribute[local go_sem]Oper.semAt_some
theorem RoundIn.jF{F:Fence}(a:F.depth=none){m b:Nat}{P:Program}{l:Nat}{f:FuncId}{tmps:Array Value}{assign body:Code}{w:World}{e:Ending→World→Prop}
  (h:RoundIn F m P l f tmps assign body w e):RoundIn F b P l f tmps assign body w e:=⟨h.1,fun c cs _=>h.2 c cs (fun d h=>by rw[a]at h;cases h)⟩
theorem YieldAt.jF{F:Fence}(b:F.depth=none){m:Nat}(d:Nat){P:Program}{l:Nat}{args:Array Value}{W:World}{e:Ending→World→Prop}(h:YieldAt F m P l args W e):YieldAt F d P l args W e:=by
 obtain⟨fn,tmps,assign,body,c,a⟩:=h;exact⟨fn,tmps,assign,body,c,RoundIn.jF b a⟩
def Tr.bC:Tr→List (aK×ByteArray)
 | .leaf=>[]
 | .node l nm v r=>l.bC++(nm,v)::r.bC
theorem Tr.cM:∀t:Tr,t.bC.length=t.size
 | .leaf=>rfl
 | .node l nm v r=>by
  simp only[Tr.bC,Tr.size,bh,List.length_cons,l.cM,r.cM];omega
def KN(A B:World):Prop:=∀g cs,aq A g 177 cs→aq B g 177 cs
theorem KN.refl(A:World):KN A A:=fun _ _ h=>h
theorem KN.trans{A B C:World}(h:KN A B)(k:KN B C):KN A C:=fun g cs a=>k g cs (h g cs a)
theorem KN.fr{A B:World}{T:Nat→Prop}(h:Fr T A B)(b:∀g cs,aq A g 177 cs→¬T g):KN A B:=fun g cs a=>a.fr h (b g cs a)
theorem KN.below{A B:World}(h:Below A.heap.size A B):KN A B:=fun g _ a=>(h.block g a.lt).trans a
theorem cE.kn{w w':World}:∀{a:Option Addr}{t:Tr},cE w a t→KN w w'→cE w' a t
 |_, .leaf,h,_=>h
 |_, .node _ _ _ _,⟨g,i,ra,e,c,d,f⟩,b=>⟨g,i,ra,e,c.kn b,d.kn b,b g _ f⟩
structure Nd where
 g:Nat
 nm:aK
 v:ByteArray
def oe(w:World)(x:Nd):Prop:=∃a b c d e,aq w x.g 177 ([a,b]++x.nm.cells++[Value.string x.v,c,d,e]).toArray
theorem oe.kn{w w':World}{x:Nd}(h:oe w x)(k:KN w w'):oe w' x:=by
 obtain⟨a,b,c,d,e,f⟩:=h;exact⟨a,b,c,d,e,k _ _ f⟩
theorem oe.lA{w:World}{x:Nd}(h:oe w x):Mid w x.g x.nm x.v:=by
 obtain⟨a,b,c,d,e,f⟩:=h;exact Mid.of f
abbrev Gm(w:World):={x:Nd//oe w x}
def Kb{w:World}(x:Gm w):aK×ByteArray:=(x.1.nm,x.1.v)
theorem kl{n:Nat}{P:Program}{ops:Array Oper}{Q:Exit→Act→World→Prop}{a:Act}{w:World}{rest:List Oper}{b:Oper}(hw:Region.wanted b (yielded ops a.tmps)=false)
  (h:wpListIn Fence.wide n P ops Q rest (a.put b.dst undef) w):wpListIn Fence.wide n P ops Q (b::rest) a w:=by
 rw[wpListIn,if_neg (by rw[hw];simp)];exact⟨fun _ _=>trivial,h⟩
inductive Ord(w:World):Option Addr→Tr→List (Gm w)→Prop where
 |leaf:Ord w none .leaf []
 |node{l r:Tr}{nm:aK}{v:ByteArray}{g:Nat}{a ra:Option Addr}{L f:List (Gm w)}(c:Ord w a l L)(d:Ord w ra r f)
   (b:aq w g 177 (rO a ra (.node l nm v r)).toArray)(x:Gm w)(e:x.1=⟨g,nm,v⟩):Ord w (some ⟨g,0,none⟩) (.node l nm v r) (L++x::f)
theorem Ord.of{w:World}:∀{a:Option Addr}{t:Tr},cE w a t→∃L,Ord w a t L
 |_, .leaf,h=>by
  obtain rfl:_=none:=h;exact⟨[], .leaf⟩
 |_, .node l nm v r,⟨g,j,ra,e,c,d,b⟩=>by
  subst e;obtain⟨L,f⟩:=Ord.of c;obtain⟨k,i⟩:=Ord.of d;exact⟨_, .node f i b ⟨⟨g,nm,v⟩,_,_,_,_,_,b⟩ rfl⟩
theorem Ord.bC{w:World}{a:Option Addr}{t:Tr}{L:List (Gm w)}(h:Ord w a t L):L.map Kb=t.bC:=by
 induction h with
 |leaf=>rfl
 |node _ _ _ x d b c=>
  rw[List.map_append,List.map_cons,b,c,Tr.bC];simp only[Kb,d]
end Go.Proofs.YtphjagkehiklkaaGreatDoor
