/- Texts. -/
import Derived.LoopIn
import Derived.LoopNIn
import Derived.RangeFuncBound
import Derived.RangeFuncNested
import Derived.Shelf.RegionOpen
import Derived.Test.YtphjagkehiklkaaGreatDoorCards
import Derived.Test.YtphjagkehiklkaaGreatDoorZK03
set_option linter.unusedVariables false
set_option linter.unusedSimpArgs false
set_option maxRecDepth 100000
set_option maxHeartbeats 4000000
namespace Go.Proofs.YtphjagkehiklkaaGreatDoor
open Go.RowKit
def bm(w:World)(v:Value)(e:Ending)(w':World):Prop:=e= .returned v∧w=w'
def aR(p:Prop):Prop:=p
theorem aR.go{p:Prop}(h:aR p):p:=h
theorem ku{P:Program}(w:World)(b:Addr)(ty:TypeId)(cs:List Value)(d:TypeDesc)(f:∀j v,cs[j]? =some v→w.cell? (b.add j)=some v)
  (hu:P.underlying ty=some d)(k:d.isRow=true)(e:(P.info? ty).map (·.size)=some cs.length):(loadVar ty b).run P w= .ok (.agg cs.toArray) w:=by
 have g:(loadCells b cs.length).run P w= .ok cs.toArray w:=run_loadCells_list (P:=P) w b cs f;cases c:P.info? ty with
 |none=>simp[c]at e
 |some i=>
  have h:i.size=cs.length:=by simpa[c]using e
  have a:(isAgg ty).run P w= .ok true w:=by
   unfold isAgg;rw[Sem.run_bind,run_underlying hu w];cases d<;>simp_all
  simp[loadVar,Sem.run_bind,a,sizeOf,typeInfo,c,h,g]
theorem au{P:Program}{op:Oper}{a:Act}{w:World}{K:Act→World→Prop}{Q:Exit→Act→World→Prop}(ty:TypeId)(x:Operand)(g:op.op= .load ty x)
  (b:Addr)(i:a.eval x= .pointer (some b))(cs:List Value)(d:TypeDesc)(c:∀j v,cs[j]? =some v→w.cell? (b.add j)=some v)
  (hu:P.underlying ty=some d)(e:d.isRow=true)(f:(P.info? ty).map (·.size)=some cs.length)
  (h:K (a.put op.dst (.agg cs.toArray)) w):op.wp P a w K Q:=by
 unfold Oper.wp execOp;simp only[g,i,Instr.loadAt,Instr.sureAddr,Sem.run_bind,Sem.run_pure,Result.andThen_ok,ku w b ty cs d c hu e f];exact h
theorem aC{P:Program}{ops:Array Oper}{rest:List Oper}{op:Oper}{a:Act}{w:World}{Q:Exit→Act→World→Prop}(c:op.guard=none)(ty:TypeId)(x:Operand)(k:op.op= .load ty x)
  (b:Addr)(l:a.eval x= .pointer (some b))(cs:List Value)(d:TypeDesc)(f:∀j v,cs[j]? =some v→w.cell? (b.add j)=some v)
  (hu:P.underlying ty=some d)(g:d.isRow=true)(i:(P.info? ty).map (·.size)=some cs.length)
  (h:wpList P ops Q rest (a.put op.dst (.agg cs.toArray)) w):wpList P ops Q (op::rest) a w:=
 wpList_plain c fun _ e=>au ty x k b l cs d f hu g i (e _ _ h)
structure aJ where
 kind:Int
 owner:ByteArray
 number:Int
 index:Int
 text:ByteArray
def aJ.cells(n:aJ):List Value:=[.int .i64 n.kind, .string n.owner, .int .i64 n.number, .int .i64 n.index, .string n.text]
def aJ.val(n:aJ):Value:= .agg n.cells.toArray
theorem aJ.eK(n:aJ):n.cells.length=5:=rfl
theorem aT:(Tryz.prog.info? 106).map (·.size)=some 5:=by kernel_rfl
inductive Tr where
 |leaf
 |node(l:Tr)(nm:aJ)(v:ByteArray)(r:Tr)
def Tr.cL:Tr→Nat
 | .leaf=>0
 | .node l _ _ r=>1+max l.cL r.cL
def Tr.size:Tr→Nat
 | .leaf=>0
 | .node l _ _ r=>1+l.size+r.size
def Tr.bytes:Tr→Nat
 | .leaf=>0
 | .node l _ v r=>v.size+l.bytes+r.bytes
theorem Tr.kh:∀t:Tr,t.cL≤t.size
 | .leaf=>Nat.le_refl _
 | .node l _ _ r=>by
  have:=l.kh;have:=r.kh;simp only[Tr.cL,Tr.size];omega
def oH(a ra:Option Addr)(t:Tr):List Value:=
 match t with
 | .leaf=>[]
 | .node _ nm v _=>[.pointer a, .pointer ra]++nm.cells++[.string v, .int .i64 (t.cL:Nat), .int .i64 (t.size:Nat), .int .i64 (t.bytes:Nat)]
theorem AW(a ra:Option Addr)(nm:aJ)(v:ByteArray)(h z y:Int):
  Tryz.prog.built 177 [(0, .pointer a),(1, .pointer ra),(2, .agg #[.int .i64 nm.kind, .string nm.owner, .int .i64 nm.number, .int .i64 nm.index, .string nm.text]),(3, .string v),(4, .int .i64 h),(5, .int .i64 z),(6, .int .i64 y)]=some #[.pointer a, .pointer ra, .int .i64 nm.kind, .string nm.owner, .int .i64 nm.number, .int .i64 nm.index, .string nm.text, .string v, .int .i64 h, .int .i64 z, .int .i64 y]:=by kernel_rfl
theorem dM{P:Program}{ops:Array Oper}{rest:List Oper}{j:Oper}{a:Act}{w:World}{Q:Exit→Act→World→Prop}(e:j.guard=none)(t:TypeId)(parts:Array (Nat×Operand))(f:j.op= .build t parts)
  (cells:Array Value)(c:List (Nat×Value))(g:(parts.map fun(i,x)=>(i,a.eval x)).toList=c)(b:P.built t c=some cells)(h:wpList P ops Q rest (a.put j.dst (.agg cells)) w):wpList P ops Q (j::rest) a w:=by
 subst g;exact wpList_plain e fun _ d=>wp_build t parts f (by rw[b];rfl) (by rw[b];exact d _ _ h)
def cm(w:World):Option Addr→Tr→Prop
 |a, .leaf=>a=none
 |a, .node l nm v r=>∃g b ra,a=some ⟨g,0,none⟩∧cm w b l∧cm w ra r∧aq w g 177 (oH b ra (.node l nm v r)).toArray
theorem cm.ao{w w':World}:∀{a:Option Addr}{t:Tr},cm w a t→Fr ag w w'→cm w' a t
 |_, .leaf,h,_=>h
 |_, .node _ _ _ _,⟨g,i,ra,e,c,d,f⟩,b=>⟨g,i,ra,e,c.ao b,d.ao b,f.fr b (fun x=>x)⟩
structure Mid(w:World)(g:Nat)(nm:aJ)(v:ByteArray):Prop where
 name:∀j x,nm.cells[j]? =some x→w.cell? ⟨g,2+j,none⟩=some x
 val:w.cell? ⟨g,7,none⟩=some (.string v)
theorem Mid.ao{w w':World}{g:Nat}{nm:aJ}{v:ByteArray}(h:Mid w g nm v)(a:Fr ag w w'):Mid w' g nm v:=
 ⟨fun j x b=>a.ak (h.name j x b) (fun x=>x),a.ak h.val (fun x=>x)⟩
theorem Mid.of{w:World}{g:Nat}{a b c d e:Value}{nm:aJ}{v:ByteArray}(h:aq w g 177 ([a,b]++nm.cells++[.string v,c,d,e]).toArray):Mid w g nm v:=by
 refine⟨fun j x f=>?_,h.cell 7⟩;have i:j<5:=(List.getElem?_eq_some_iff.1 f).1;rw[h.cell,bP,List.append_assoc,List.getElem?_append_right (by simp),List.getElem?_append_left (by simp[aJ.cells];omega)];rw[show 2+j-[a,b].length=j by simp];exact f
theorem cm.ko{w:World}{g:Nat}{l r:Tr}{nm:aJ}{v:ByteArray}(h:cm w (some ⟨g,0,none⟩) (.node l nm v r)):Mid w g nm v:=by
 obtain⟨b,c,ra,e,_,_,a⟩:=h;cases e;exact Mid.of a
theorem fF(w:World)(a:Option Addr)(t:Tr)(h:cm w a t):Calls Tryz.prog 181 #[.pointer a] w (bm w (.int .i64 (t.cL:Nat))):=by
 cases t with
 |leaf=>
  obtain rfl:a=none:=h;go_enter Tryz.func181,Tryz.ntmps181;go_wp2;go_ret;exact⟨rfl,rfl⟩
 |node l nm v r=>
  obtain⟨g,d,ra,rfl,_,_,b⟩:=h;have c:w.cell? ⟨g,8,none⟩=some (.int .i64 ((Tr.node l nm v r).cL:Nat)):=b.cell 8;generalize(Tr.node l nm v r).cL=x at*;clear b;go_enter Tryz.func181,Tryz.ntmps181;go_wp2;go_ret;exact⟨rfl,rfl⟩
theorem pU(w:World)(a:Option Addr)(t:Tr)(h:cm w a t):Calls Tryz.prog 137 #[.pointer a] w (bm w (.int .i64 (t.size:Nat))):=by
 cases t with
 |leaf=>
  obtain rfl:a=none:=h;go_enter Tryz.func137,Tryz.ntmps137;go_wp2;go_ret;exact⟨rfl,rfl⟩
 |node l nm v r=>
  obtain⟨g,d,ra,rfl,_,_,b⟩:=h;have c:w.cell? ⟨g,9,none⟩=some (.int .i64 ((Tr.node l nm v r).size:Nat)):=b.cell 9;generalize(Tr.node l nm v r).size=x at*;clear b;go_enter Tryz.func137,Tryz.ntmps137;go_wp2;go_ret;exact⟨rfl,rfl⟩
theorem oi(w:World)(a:Option Addr)(t:Tr)(h:cm w a t):Calls Tryz.prog 138 #[.pointer a] w (bm w (.int .i64 (t.bytes:Nat))):=by
 cases t with
 |leaf=>
  obtain rfl:a=none:=h;go_enter Tryz.func138,Tryz.ntmps138;go_wp2;go_ret;exact⟨rfl,rfl⟩
 |node l nm v r=>
  obtain⟨g,d,ra,rfl,_,_,b⟩:=h;have c:w.cell? ⟨g,10,none⟩=some (.int .i64 ((Tr.node l nm v r).bytes:Nat)):=b.cell 10;generalize(Tr.node l nm v r).bytes=x at*;clear b;go_enter Tryz.func138,Tryz.ntmps138;go_wp2;go_ret;exact⟨rfl,rfl⟩
theorem fU(w:World)(m ra:Option Addr)(l r:Tr)(g:Nat)(nm:aJ)(v:ByteArray)(n:cm w m l)(o:cm w ra r)(R:Mid w g nm v)(aS:l.size+r.size≤1048576)(aQ:v.size+l.bytes+r.bytes≤1099511627776):
  Calls Tryz.prog 178 #[.pointer m, .pointer (some ⟨g,0,none⟩), .pointer ra] w (fun e w'=>∃a,e= .returned (.pointer a)∧cm w' a (.node l nm v r)∧Fr ag w w'):=by
 have t:Hid (∀w',Fr ag w w'→Calls Tryz.prog 181 #[.pointer m] w' (bm w' (.int .i64 (l.cL:Nat)))):=fun w' k=>fF w' m l (n.ao k);have y:Hid (∀w',Fr ag w w'→Calls Tryz.prog 181 #[.pointer ra] w' (bm w' (.int .i64 (r.cL:Nat)))):=fun w' k=>fF w' ra r (o.ao k);have z:Hid (∀w',Fr ag w w'→Calls Tryz.prog 137 #[.pointer m] w' (bm w' (.int .i64 (l.size:Nat)))):=fun w' k=>pU w' m l (n.ao k);have A:Hid (∀w',Fr ag w w'→Calls Tryz.prog 137 #[.pointer ra] w' (bm w' (.int .i64 (r.size:Nat)))):=fun w' k=>pU w' ra r (o.ao k);have q:Hid (∀w',Fr ag w w'→Calls Tryz.prog 138 #[.pointer m] w' (bm w' (.int .i64 (l.bytes:Nat)))):=fun w' k=>oi w' m l (n.ao k);have s:Hid (∀w',Fr ag w w'→Calls Tryz.prog 138 #[.pointer ra] w' (bm w' (.int .i64 (r.bytes:Nat)))):=fun w' k=>oi w' ra r (o.ao k);have Y:=af R;have D:=l.kh;have E:=r.kh;have X:Hid (∀w' W,Fr ag w w'→aq w' W 177 (oH m ra (.node l nm v r)).toArray→cm w' (some ⟨W,0,none⟩) (.node l nm v r)):=fun w' W k bb=>⟨W,m,ra,rfl,n.ao k,o.ao k,bb⟩;have p:Hid (oH m ra (.node l nm v r)=[.pointer m, .pointer ra]++nm.cells++[.string v, .int .i64 ((1+max l.cL r.cL:Nat):Int), .int .i64 ((1+l.size+r.size:Nat):Int), .int .i64 ((v.size+l.bytes+r.bytes:Nat):Int)]):=rfl;generalize oH m ra (.node l nm v r)=B at*;obtain⟨H,N⟩:∃H,H=l.cL:=⟨_,rfl⟩;obtain⟨I,O⟩:∃I,I=r.cL:=⟨_,rfl⟩;obtain⟨J,P⟩:∃J,J=l.size:=⟨_,rfl⟩;obtain⟨K,Q⟩:∃K,K=r.size:=⟨_,rfl⟩;obtain⟨F,L⟩:∃F,F=l.bytes:=⟨_,rfl⟩;obtain⟨G,M⟩:∃G,G=r.bytes:=⟨_,rfl⟩;rw[←N]at t D p;rw[←O]at y E p;rw[←P]at z aS D p;rw[←Q]at A aS E p;rw[←L]at q aQ p;rw[←M]at s aQ p;obtain⟨hm,ad⟩:∃hm:Nat,max (H:Int) (I:Int)=(hm:Int):=⟨max H I,by omega⟩;obtain⟨C,ac⟩:∃C:Nat,(1:Int)+(hm:Int)=(C:Int):=⟨1+hm,by omega⟩;obtain⟨s1,ae⟩:∃s1:Nat,(1:Int)+(J:Int)=(s1:Int):=⟨1+J,by omega⟩;obtain⟨s2,ai⟩:∃s2:Nat,(s1:Int)+(K:Int)=(s2:Int):=⟨s1+K,by omega⟩;obtain⟨b1,aa⟩:∃b1:Nat,(v.size:Int)+(F:Int)=(b1:Int):=⟨v.size+F,by omega⟩;obtain⟨b2,ab⟩:∃b2:Nat,(b1:Int)+(G:Int)=(b2:Int):=⟨b1+G,by omega⟩;have be:IntKind.i64.wrap (C:Int)=(C:Int):=IntWalk.i64_in _ (by omega);have aW:IntKind.i64.wrap (s1:Int)=(s1:Int):=IntWalk.i64_in _ (by omega);have aX:IntKind.i64.wrap (s2:Int)=(s2:Int):=IntWalk.i64_in _ (by omega);have aU:IntKind.i64.wrap (b1:Int)=(b1:Int):=IntWalk.i64_in _ (by omega);have aV:IntKind.i64.wrap (b2:Int)=(b2:Int):=IntWalk.i64_in _ (by omega);rw[show(1+max H I:Nat)=C by omega,show(1+J+K:Nat)=s2 by omega,show v.size+F+G=b2 by omega]at p;have a3:Hid (Tryz.prog.built 177 [(0, .pointer m),(1, .pointer ra),(2, .agg nm.cells.toArray),(3, .string v),(4, .int .i64 (C:Nat)),(5, .int .i64 (s2:Nat)),(6, .int .i64 (b2:Nat))]=some B.toArray):=by rw[p.out];exact AW m ra nm v _ _ _
 clear n o R N O P Q L M D E aS aQ;go_enter Tryz.func178,Tryz.ntmps178;go_upto_region 1 with fail;refine ay 33 ag [Is (.pointer m),Is (.pointer ra),Is (.pointer (some ⟨g,0,none⟩)),Is (.pointer (some ⟨g,0,none⟩)),Is (.pointer (some ⟨g,2,none⟩)),Is (.agg nm.cells.toArray),Is (.pointer (some ⟨g,0,none⟩)),Is (.pointer (some ⟨g,0,none⟩)),Is (.pointer (some ⟨g,7,none⟩)),Is (.string v),Is (.pointer m),Is (.int .i64 H),Is (.pointer ra),Is (.int .i64 I),Is (.int .i64 hm),Is (.int .i64 C),Is (.pointer m),Is (.int .i64 J),Is (.int .i64 s1),Is (.pointer ra),Is (.int .i64 K),Is (.int .i64 s2),Is (.pointer (some ⟨g,0,none⟩)),Is (.pointer (some ⟨g,0,none⟩)),Is (.pointer (some ⟨g,7,none⟩)),Is (.string v),Is (.int .i64 v.size),Is (.pointer m),Is (.int .i64 F),Is (.int .i64 b1),Is (.pointer ra),Is (.int .i64 G),Is (.int .i64 b2)] [] (fun _=>True) (fun _ _=>false) (by kernel_rfl) (by kernel_rfl) (by kernel_rfl) (by kernel_rfl) ⟨Is.ah _,Is.ah _,Is.ah _,Is.ah _,Is.ah _,Is.ah _,Is.ah _,Is.ah _,Is.ah _,Is.ah _,Is.ah _,Is.ah _,Is.ah _,Is.ah _,Is.ah _,Is.ah _,Is.ah _,Is.ah _,Is.ah _,Is.ah _,Is.ah _,Is.ah _,Is.ah _,Is.ah _,Is.ah _,Is.ah _,Is.ah _,Is.ah _,Is.ah _,Is.ah _,Is.ah _,Is.ah _,Is.ah _,trivial⟩ trivial (fun _ _ _ _ h=>h) trivial ?_ ?_
 ·refine⟨?_,?_,?_,?_,?_,?_,?_,?_,?_,?_,?_,?_,?_,?_,?_,?_,?_,?_,?_,?_,?_,?_,?_,?_,?_,?_,?_,?_,?_,?_,?_,?_,?_,trivial⟩;all_goals intro u w' d k b f c i
  all_goals simp only[bw,bC,bD,bE,ar,Act.put,bF,bG,bH,Nat.reduceAdd,Nat.zero_add]
  ·clear b f c i;refine aj ?_;go_simp;exact⟨_,rfl,al⟩
  ·clear b f c i;refine aj ?_;go_simp;exact⟨_,rfl,al⟩
  ·clear b f c i;refine aj ?_;go_simp;exact⟨_,rfl,al⟩
  ·have a5:u 2=_:=b 2;clear b f c i;simp only[a5];refine aj ?_;go_simp;exact⟨_,rfl,al⟩
  ·have a6:u 3=_:=b 3;clear b f c i;simp only[a6];refine aj ?_;go_simp;exact⟨_,rfl,al⟩
  ·have a7:u 4=_:=b 4;clear b f c i;simp only[a7];refine aj ?_;exact au _ _ rfl ⟨g,2,none⟩ rfl nm.cells _ (fun j x bd=>by rw[Addr.add_mid];exact k.ak (Y.out.name j x bd) (fun x=>x)) Tryz.underlying106 rfl aT ⟨_,rfl,al⟩
  ·clear b f c i;refine aj ?_;go_simp;exact⟨_,rfl,al⟩
  ·have a8:u 6=_:=b 6;clear b f c i;simp only[a8];refine aj ?_;go_simp;exact⟨_,rfl,al⟩
  ·have a9:u 7=_:=b 7;clear b f c i;simp only[a9];refine aj ?_;go_simp;exact⟨_,rfl,al⟩
  ·have ba:u 8=_:=b 8;clear b f c i;simp only[ba];refine aj ?_;have bc:w'.cell? ⟨g,7,none⟩=some (.string v):=k.ak Y.out.val (fun x=>x);go_simp;exact⟨_,rfl,al⟩
  ·clear b f c i;refine aj ?_;go_simp;exact⟨_,rfl,al⟩
  ·have am:u 10=_:=b 10;clear b f c i;simp only[am];refine aj ?_;go_simp;refine(t.out _ k).mono ?_;rintro e V⟨rfl,rfl⟩;exact⟨_,rfl,al⟩
  ·clear b f c i;refine aj ?_;go_simp;exact⟨_,rfl,al⟩
  ·have ap:u 12=_:=b 12;clear b f c i;simp only[ap];refine aj ?_;go_simp;refine(y.out _ k).mono ?_;rintro e V⟨rfl,rfl⟩;exact⟨_,rfl,al⟩
  ·have an:u 11=_:=b 11;have av:u 13=_:=b 13;clear b f c i;simp only[an,av];refine aj ?_;go_simp;exact⟨_,rfl,al⟩
  ·have aw:u 14=_:=b 14;clear b f c i;simp only[aw];refine aj ?_;go_simp;exact⟨_,rfl,al⟩
  ·clear b f c i;refine aj ?_;go_simp;exact⟨_,rfl,al⟩
  ·have ax:u 16=_:=b 16;clear b f c i;simp only[ax];refine aj ?_;go_simp;refine(z.out _ k).mono ?_;rintro e V⟨rfl,rfl⟩;exact⟨_,rfl,al⟩
  ·have az:u 17=_:=b 17;clear b f c i;simp only[az];refine aj ?_;go_simp;exact⟨_,rfl,al⟩
  ·clear b f c i;refine aj ?_;go_simp;exact⟨_,rfl,al⟩
  ·have aC:u 19=_:=b 19;clear b f c i;simp only[aC];refine aj ?_;go_simp;refine(A.out _ k).mono ?_;rintro e V⟨rfl,rfl⟩;exact⟨_,rfl,al⟩
  ·have aA:u 18=_:=b 18;have aD:u 20=_:=b 20;clear b f c i;simp only[aA,aD];refine aj ?_;go_simp;exact⟨_,rfl,al⟩
  ·clear b f c i;refine aj ?_;go_simp;exact⟨_,rfl,al⟩
  ·have aF:u 22=_:=b 22;clear b f c i;simp only[aF];refine aj ?_;go_simp;exact⟨_,rfl,al⟩
  ·have aG:u 23=_:=b 23;clear b f c i;simp only[aG];refine aj ?_;go_simp;exact⟨_,rfl,al⟩
  ·have aH:u 24=_:=b 24;clear b f c i;simp only[aH];refine aj ?_;have bc:w'.cell? ⟨g,7,none⟩=some (.string v):=k.ak Y.out.val (fun x=>x);go_simp;exact⟨_,rfl,al⟩
  ·have aI:u 25=_:=b 25;clear b f c i;simp only[aI];refine aj ?_;go_simp;exact⟨_,rfl,al⟩
  ·clear b f c i;refine aj ?_;go_simp;exact⟨_,rfl,al⟩
  ·have aL:u 27=_:=b 27;clear b f c i;simp only[aL];refine aj ?_;go_simp;refine(q.out _ k).mono ?_;rintro e V⟨rfl,rfl⟩;exact⟨_,rfl,al⟩
  ·have aK:u 26=_:=b 26;have aM:u 28=_:=b 28;clear b f c i;simp only[aK,aM];refine aj ?_;go_simp;exact⟨_,rfl,al⟩
  ·clear b f c i;refine aj ?_;go_simp;exact⟨_,rfl,al⟩
  ·have aO:u 30=_:=b 30;clear b f c i;simp only[aO];refine aj ?_;go_simp;refine(s.out _ k).mono ?_;rintro e V⟨rfl,rfl⟩;exact⟨_,rfl,al⟩
  ·have aN:u 29=_:=b 29;have aP:u 31=_:=b 31;clear b f c i;simp only[aN,aP];refine aj ?_;go_simp;exact⟨_,rfl,al⟩
 ·intro u w' k b i;have c:u 0=_:=b 0 (by omega);have f:u 1=_:=b 1 (by omega);have a0:u 5=_:=b 5 (by omega);have a1:u 9=_:=b 9 (by omega);have S:u 15=_:=b 15 (by omega);have T:u 21=_:=b 21 (by omega);have U:u 32=_:=b 32 (by omega);clear b i;simp only[bw,bC,bD,bE,ar,Act.put,bF,bG,bH,dj,dk,Nat.reduceAdd,Nat.zero_add,c,f,a0,a1,S,T,U];have aY:=af k;clear k c f a0 a1 S T U ad ac ae ai aa ab be aW aX aU aV t y z A q s;go_wp2_with(refine dM rfl 177 _ rfl B.toArray _ (by simp only[List.map_toArray,List.map_cons,List.map_nil];rfl) a3.out (aR.go ?hold));unfold aR;go_wp2_with(refine aB rfl 177 (.tmp 40) rfl B.toArray rfl ?_);intro w2 a2;have Z:=af a2;clear a2;generalize aZ:w'.heap.size=g2 at*;have a4:=af aZ;clear aZ;go_wp2;go_ret;exact⟨_,rfl,X.out w2 g2 (aY.out.trans Z.out.fr) (by have h:=Z.out.aE;rw[a4.out]at h;exact h),aY.out.trans Z.out.fr⟩
theorem wM(a:Int)(w:World):Calls Tryz.prog 164 #[.int .i64 a] w (bm w (.bool false)):=by
 go_enter Tryz.func164,Tryz.ntmps164;go_wp2;go_ret;exact⟨rfl,rfl⟩
def Gs(a b:Int):Int:=if a<b then-1 else if b<a then 1 else 0
theorem iV(a b:Int)(w:World):Calls Tryz.prog 133 #[.int .i64 a, .int .i64 b] w (bm w (.int .i64 (Gs a b))):=by
 have f:=af (fun w=>wM a w);have g:=af (fun w=>wM b w);unfold Gs;by_cases c:a<b;·rw[if_pos c];have t1:decide (a<b)=true:=decide_eq_true c;clear c;go_enter Tryz.func133,Tryz.ntmps133;go_wp2_with fail;refine(f.out _).mono ?_;rintro e w'⟨rfl,rfl⟩;go_wp2_with fail;refine(g.out _).mono ?_;rintro e w'⟨rfl,rfl⟩;go_wp2;go_ret;exact⟨rfl,rfl⟩
 ·rw[if_neg c];have t1:decide (a<b)=false:=decide_eq_false c;by_cases d:b<a;·rw[if_pos d];have t2:decide (b<a)=true:=decide_eq_true d;clear c d;go_enter Tryz.func133,Tryz.ntmps133;go_wp2_with fail;refine(f.out _).mono ?_;rintro e w'⟨rfl,rfl⟩;go_wp2_with fail;refine(g.out _).mono ?_;rintro e w'⟨rfl,rfl⟩;go_wp2;go_ret;exact⟨rfl,rfl⟩
  ·rw[if_neg d];have t2:decide (b<a)=false:=decide_eq_false d;go_enter Tryz.func133,Tryz.ntmps133;go_wp2_with fail;refine(f.out _).mono ?_;rintro e w'⟨rfl,rfl⟩;go_wp2_with fail;refine(g.out _).mono ?_;rintro e w'⟨rfl,rfl⟩;go_wp2;go_ret;exact⟨rfl,rfl⟩
theorem Ex(a:ByteArray)(w:World):Calls Tryz.prog 176 #[.string a] w (bm w (.bool false)):=by
 go_enter Tryz.func176,Tryz.ntmps176;go_wp2;go_ret;exact⟨rfl,rfl⟩
theorem pM(a:ByteArray)(w:World):Calls Tryz.prog 134 #[.string a, .string a] w (bm w (.int .i64 0)):=by
 go_enter Tryz.func134,Tryz.ntmps134;go_wp2;go_ret;exact⟨rfl,rfl⟩
def ou:aJ:=⟨15,ByteArray.empty,0,0,ByteArray.empty⟩
def lH:Array Value:=#[.int .i64 15, .string ByteArray.empty, .int .i64 0, .int .i64 0, .string ByteArray.empty]
def sY:Value:= .agg #[.int .i64 0, .string ByteArray.empty, .int .i64 0, .int .i64 0, .string ByteArray.empty]
theorem GY(w:World):(zeroValue 106).run Tryz.prog w= .ok sY w:=by kernel_rfl
theorem AU:Tryz.prog.built 106 [(0, .int .i64 15)]=some lH:=by kernel_rfl
theorem Ef:lH.all (·.oneCell')=true:=by kernel_rfl
theorem rL(w:World):Calls Tryz.prog 54 #[] w (aH w (.agg lH)):=by
 have B:=af AU;have O:=af Ef;have j:Hid ((Tryz.prog.info? 106).map (·.size)=some lH.size):=aT;have Z:Hid ((#[.int .i64 0, .string ByteArray.empty, .int .i64 0, .int .i64 0, .string ByteArray.empty]:Array Value).size=lH.size):=rfl;generalize lH=a at*;go_enter Tryz.func54,Tryz.ntmps54;go_wp2_with(refine an rfl 106 rfl sY GY #[.int .i64 0, .string ByteArray.empty, .int .i64 0, .int .i64 0, .string ByteArray.empty] rfl ?_);intro w1 n1;have b:=af n1;clear n1;go_wp2_with(refine dM rfl 106 #[(0, .const (.int .i64 15))] rfl a _ (by simp only[List.map_toArray,List.map_cons,List.map_nil];rfl) B.out (aR.go ?hold));unfold aR;refine ai rfl 106 (.tmp 0) _ rfl w.heap.size a rfl rfl _ _ b.out.aE j.out Z.out O.out ?_;intro c b5 f5;have d:=af b5;have f:Hid (Fr ag w c):=b.out.fr.aw f5 (fun i h e=>by have g:i=w.heap.size:=e;omega);clear b5 f5;go_wp2;exact bodyPost_ret (results_cell_row (fn:=Tryz.f54) (p:=0) (ty:=106) Tryz.results54 _ c _ 106 a (0,0) _ rfl d.out Tryz.underlying106 rfl j.out) rfl ⟨rfl,f.out⟩
theorem sU(n nm:aJ)(v:ByteArray)(l r:Tr)(g:Nat)(w:World)(t:cm w (some ⟨g,0,none⟩) (.node l nm v r))
  (s:∀w',Fr ag w w'→Calls Tryz.prog 128 #[.agg n.cells.toArray, .agg nm.cells.toArray] w' (aH w' (.int .i64 0))):
  Calls Tryz.prog 108 #[.pointer (some ⟨g,0,none⟩), .agg n.cells.toArray] w (aH w (.pointer (some ⟨g,0,none⟩))):=by
 have y:=af s;have o:=af t.ko;clear s t;go_enter Tryz.func108,Tryz.ntmps108;go_wp2_with(refine aB rfl 106 (.tmp 1) rfl n.cells.toArray rfl ?_);intro w1 n1;have m:=af n1.fr;have k:=af n1.aE;clear n1;generalize w.heap.size=q at*;have B:Hid (aq w1 q 106 n.cells.toArray):=k.out;clear k;have A:=af (o.out.ao m.out);go_wp2;refine wp_loop_rounds 1 ?_;rw[rounds_succ];go_upto_region 2 with fail;refine ay 7 ag [Is (.agg n.cells.toArray),Is (.pointer (some ⟨g,0,none⟩)),Is (.pointer (some ⟨g,0,none⟩)),Is (.pointer (some ⟨g,2,none⟩)),Is (.agg nm.cells.toArray),Is (.int .i64 0),Is (.int .i64 0)] [] (fun _=>True) (fun _ _=>false) (by kernel_rfl) (by kernel_rfl) (by kernel_rfl) (by kernel_rfl) ⟨Is.ah _,Is.ah _,Is.ah _,Is.ah _,Is.ah _,Is.ah _,Is.ah _,trivial⟩ trivial (fun _ _ _ _ h=>h) trivial ?_ ?_
 ·refine⟨?_,?_,?_,?_,?_,?_,?_,trivial⟩;all_goals intro u w' d i a f c b
  all_goals simp only[bw,bC,bD,bE,ar,Act.put,bF,bG,bH,Nat.reduceAdd,Nat.zero_add]
  ·clear a f c b;refine aj ?_;exact au _ _ rfl ⟨q,0,none⟩ rfl n.cells _ (fun j x p=>by rw[Addr.add_mid,Nat.zero_add];exact(B.out.fr i (fun x=>x)).cell j|>.trans (by rw[bP];exact p)) Tryz.underlying106 rfl aT ⟨_,rfl,al⟩
  ·clear a f c b;refine aj ?_;go_simp;exact⟨_,rfl,al⟩
  ·have D:u 1=_:=a 1;clear a f c b;simp only[D];refine aj ?_;go_simp;exact⟨_,rfl,al⟩
  ·have E:u 2=_:=a 2;clear a f c b;simp only[E];refine aj ?_;go_simp;exact⟨_,rfl,al⟩
  ·have F:u 3=_:=a 3;clear a f c b;simp only[F];refine aj ?_;exact au _ _ rfl ⟨g,2,none⟩ rfl nm.cells _ (fun j x p=>by rw[Addr.add_mid];exact i.ak (A.out.name j x p) (fun x=>x)) Tryz.underlying106 rfl aT ⟨_,rfl,al⟩
  ·have C:u 0=_:=a 0;have G:u 4=_:=a 4;clear a f c b;simp only[C,G];refine aj ?_;go_simp;refine(y.out _ (m.out.trans i)).mono ?_;rintro e I⟨rfl,f4⟩;exact⟨_,rfl,f4.bO,rfl,trivial⟩
  ·have H:u 5=_:=a 5;clear a f c b;simp only[H];refine aj ?_;go_simp;exact⟨_,rfl,al⟩
 ·intro u w' i a b;have k6:u 6=_:=a 6 (by omega);clear a b;simp only[bw,bC,bD,bE,ar,Act.put,bF,bG,bH,dj,dk,Nat.reduceAdd,Nat.zero_add,k6];have z:=af (m.out.trans i);clear i k6;go_wp2;go_ret;exact⟨rfl,z.out⟩
theorem Gb(nm:aJ)(v:ByteArray)(g:Nat)(w:World)(c:Mid w g nm v)(h:v.size≤1099511627776):
  Calls Tryz.prog 163 #[.pointer none, .pointer (some ⟨g,0,none⟩)] w (fun e w'=>∃a,e= .returned (.pointer a)∧cm w' a (.node .leaf nm v .leaf)∧Fr ag w w'):=by
 have d:=af (fU w none none .leaf .leaf g nm v rfl rfl c (by simp[Tr.size]) (by simp only[Tr.bytes];omega));clear c;go_enter Tryz.func163,Tryz.ntmps163;go_wp2_with fail;refine d.out.mono ?_;rintro e w1⟨a,rfl,b,f1⟩;have H1:=af b;have f:=af f1;clear b f1;go_wp2;go_ret;exact⟨_,rfl,H1.out,f.out⟩
def str(l:List UInt8):ByteArray:=⟨l.toArray⟩
structure iC where
 word:ByteArray
 owner:Bool
 number:Bool
 index:Bool
 text:Bool
 aP:Int
def iC.cells(u:iC):List Value:=[.string u.word, .bool u.owner, .bool u.number, .bool u.index, .bool u.text, .int .i64 u.aP]
def iP:List iC:=[
 ⟨str [],false,false,false,false,0⟩,
 ⟨str [112,114,111,99,101,115,115],true,false,false,false,0⟩,
 ⟨str [114,101,103,105,115,116,101,114,115],true,false,false,false,0⟩,
 ⟨str [112,97,103,101],true,false,true,false,63⟩,
 ⟨str [116,97,98,108,101],true,false,false,false,0⟩,
 ⟨str [99,111,117,110,116,101,114],true,false,false,false,0⟩,
 ⟨str [112,101,110,100,105,110,103],true,false,false,false,0⟩,
 ⟨str [110,111,100,101],true,true,false,false,0⟩,
 ⟨str [98,108,111,99,107],true,true,true,false,63⟩,
 ⟨str [101,110,116,114,121],true,true,false,true,0⟩,
 ⟨str [108,105,115,116,105,110,103],true,true,false,false,0⟩,
 ⟨str [112,105,112,101],true,true,false,false,0⟩,
 ⟨str [108,111,99,107],true,true,false,false,0⟩,
 ⟨str [116,101,114,109,105,110,97,108],false,true,false,false,0⟩,
 ⟨str [97,99,99,111,117,110,116],false,false,false,true,0⟩,
 ⟨str [99,108,111,99,107],false,false,false,false,0⟩,
 ⟨str [112,111,114,116],false,true,false,false,0⟩,
 ⟨str [98,111,120],false,false,false,true,0⟩,
 ⟨str [111,117,116],true,true,true,false,1073741824⟩,
 ⟨str [115,104,101,108,108],true,false,false,false,0⟩,
 ⟨str [101,112,111,99,104],false,false,false,false,0⟩]
def Jm:List Value:=[.string (str [99,108,111,99,107]), .bool false, .bool false, .bool false, .bool false, .int .i64 0]
structure eh(w:World):Prop where
 row:∀k u,iP[k]? =some u→∀j v,u.cells[j]? =some v→w.cell? ⟨0,k*6+j,none⟩=some v
theorem eh.ao{w w':World}(h:eh w)(a:Fr ag w w'):eh w':=⟨fun k u b j v c=>a.ak (h.row k u b j v c) (fun x=>x)⟩
theorem eh.clock{w:World}(h:eh w):∀j v,Jm[j]? =some v→w.cell? ⟨0,90+j,none⟩=some v:=fun j v a=>h.row 15 _ rfl j v a
def GS:Value:= .agg #[.string ByteArray.empty, .bool false, .bool false, .bool false, .bool false, .int .i64 0]
theorem xL(w:World):(zeroValue 189).run Tryz.prog w= .ok GS w:=by kernel_rfl
theorem ki:(Tryz.prog.info? 189).map (·.size)=some 6:=by kernel_rfl
def xP(w:World)(s:Nat)(t:Tr):Prop:=∃a,aq w s 174 #[.pointer a]∧cm w a t
theorem xP.ao{w w':World}{s:Nat}{t:Tr}(h:xP w s t)(b:Fr ag w w'):xP w' s t:=by
 obtain⟨a,c,d⟩:=h;exact⟨a,c.fr b (fun x=>x),d.ao b⟩
theorem iA{P:Program}{f:Oper}{a:Act}{w:World}{K:Act→World→Prop}{Q:Exit→Act→World→Prop}(t:TypeId)(parts:Array (Nat×Operand))(d:f.op= .build t parts)
  (cells:Array Value)(c:List (Nat×Value))(e:(parts.map fun(i,x)=>(i,a.eval x)).toList=c)(b:P.built t c=some cells)(h:K (a.put f.dst (.agg cells)) w):f.wp P a w K Q:=by
 subst e;exact wp_build t parts d (by rw[b];rfl) (by rw[b];exact h)
theorem rJ(w:World):Calls Tryz.prog 52 #[] w (fun e w'=>∃s,e= .returned (.pointer (some ⟨s,0,none⟩))∧xP w' s .leaf∧Fr ag w w'):=by
 go_enter Tryz.func52,Tryz.ntmps52;go_wp2_with(refine aB rfl 174 (.tmp 1) rfl #[.pointer none] rfl ?_);intro w1 n1;have a:=af n1;clear n1;go_wp2;go_ret;exact⟨_,rfl,⟨none,a.out.aE,rfl⟩,a.out.fr⟩
theorem pj(w:World)(s:Nat)(t:Tr)(h:xP w s t):Calls Tryz.prog 94 #[.pointer (some ⟨s,0,none⟩)] w (bm w (.int .i64 (t.size:Nat))):=by
 obtain⟨a,b,d⟩:=h;have f:=af (pU w a t d);have c:w.cell? ⟨s,0,none⟩=some (.pointer a):=b.cell 0;clear b d;go_enter Tryz.func94,Tryz.ntmps94;go_wp2_with fail;refine f.out.mono ?_;rintro e w'⟨rfl,rfl⟩;go_wp2;go_ret;exact⟨rfl,rfl⟩
theorem uU(w:World)(s:Nat)(t:Tr)(h:xP w s t):Calls Tryz.prog 95 #[.pointer (some ⟨s,0,none⟩)] w (bm w (.int .i64 (t.bytes:Nat))):=by
 obtain⟨a,b,d⟩:=h;have f:=af (oi w a t d);have c:w.cell? ⟨s,0,none⟩=some (.pointer a):=b.cell 0;clear b d;go_enter Tryz.func95,Tryz.ntmps95;go_wp2_with fail;refine f.out.mono ?_;rintro e w'⟨rfl,rfl⟩;go_wp2;go_ret;exact⟨rfl,rfl⟩
theorem aW{P:Program}{ops:Array Oper}{rest:List Oper}{u:Oper}{a:Act}{w:World}{Q:Exit→Act→World→Prop}(j:u.guard=none)(ty:TypeId)(x y:Operand)(p:u.op= .store ty x y)
  (g f:Nat)(v:Value)(r:a.eval x= .pointer (some ⟨g,f,none⟩))(s:a.eval y=v)(m:v.oneCell'=true)(d:(P.info? ty).map (·.size)=some 1)
  (t:TypeId)(cs cs':Array Value)(e:aq w g t cs)(o:f<cs.size)(i:cs.setIfInBounds f v=cs')
  (h:∀w',aq w' g t cs'→Fr (fun k=>k=g) w w'→wpList P ops Q rest (a.put u.dst undef) w'):wpList P ops Q (u::rest) a w:=by
 subst i;obtain⟨b,l,q⟩:∃b,P.info? ty=some b∧b.size=1:=by
  cases he:P.info? ty with
  |none=>rw[he]at d;cases d
  |some b=>rw[he]at d;exact⟨b,rfl,by simpa using d⟩
 have c:=Lib.rl_storeVar_one (P:=P) ty b l q ⟨g,f,none⟩ v (cs[f]) m w (by rw[e.cell];simp[o]) (e.frozen _);refine wpList_plain j fun K n=>?_;unfold Oper.wp execOp;simp only[p,r,s,Instr.storeAt,Instr.sureAddr,Sem.run_bind,Sem.run_pure,Result.andThen_ok,c];exact n _ _ (h _ (e.j7 f v) (Fr.setCell (T:=fun k=>k=g) (Fr.refl _ w) (fun _=>rfl) v))
theorem lQ{P:Program}{r:Oper}{a:Act}{w:World}{K:Act→World→Prop}{Q:Exit→Act→World→Prop}(ty:TypeId)(x y:Operand)(n:r.op= .store ty x y)
  (g f:Nat)(v:Value)(p:a.eval x= .pointer (some ⟨g,f,none⟩))(q:a.eval y=v)(l:v.oneCell'=true)(d:(P.info? ty).map (·.size)=some 1)
  (t:TypeId)(cs cs':Array Value)(e:aq w g t cs)(m:f<cs.size)(i:cs.setIfInBounds f v=cs')
  (h:∀w',aq w' g t cs'→Fr (fun k=>k=g) w w'→K (a.put r.dst undef) w'):r.wp P a w K Q:=by
 subst i;obtain⟨b,j,o⟩:∃b,P.info? ty=some b∧b.size=1:=by
  cases he:P.info? ty with
  |none=>rw[he]at d;cases d
  |some b=>rw[he]at d;exact⟨b,rfl,by simpa using d⟩
 have c:=Lib.rl_storeVar_one (P:=P) ty b j o ⟨g,f,none⟩ v (cs[f]) l w (by rw[e.cell];simp[m]) (e.frozen _);unfold Oper.wp execOp;simp only[n,p,q,Instr.storeAt,Instr.sureAddr,Sem.run_bind,Sem.run_pure,Result.andThen_ok,c];exact h _ (e.j7 f v) (Fr.setCell (T:=fun k=>k=g) (Fr.refl _ w) (fun _=>rfl) v)
structure CV where
 nm:aJ
 value:ByteArray
 bI:Bool
def CV.cells(c:CV):List Value:=c.nm.cells++[.string c.value, .bool c.bI]
theorem CV.eK(c:CV):c.cells.length=7:=rfl
def yw(s:ByteArray)(k:Int):ByteArray:=s.extract 0 (min (s.size:Int) k).toNat
def CV.cut(c:CV):CV:=⟨⟨c.nm.kind,yw c.nm.owner 100,c.nm.number,c.nm.index,yw c.nm.text 100⟩,yw c.value 200,c.bI⟩
theorem Ev:(Tryz.prog.info? 247).map (·.size)=some 7:=by kernel_rfl
theorem jQ:(Tryz.prog.info? 119).map (·.size)=some 7:=by kernel_rfl
theorem pL:(Tryz.prog.info? 9).map (·.size)=some 1:=by kernel_rfl
theorem CV.one(c:CV):c.cells.toArray.all (·.oneCell')=true:=by
 simp[CV.cells,aJ.cells,Value.oneCell']
theorem aJ.one(n:aJ):n.cells.toArray.all (·.oneCell')=true:=by
 simp[aJ.cells,Value.oneCell']
theorem Ea(n:aJ):Tryz.prog.built 106 [(0, .int .i64 n.kind),(1, .string n.owner),(2, .int .i64 n.number),(3, .int .i64 n.index),(4, .string n.text)]=some n.cells.toArray:=by kernel_rfl
theorem JL(n:aJ)(w:World):Calls Tryz.prog 160 #[.agg n.cells.toArray] w (aH w (.agg n.cells.toArray)):=by
 have B:=af (Ea n);have O:=af n.one;have E:Hid ((Tryz.prog.info? 106).map (·.size)=some n.cells.toArray.size):=aT;have Z:Hid ((#[.int .i64 0, .string ByteArray.empty, .int .i64 0, .int .i64 0, .string ByteArray.empty]:Array Value).size=n.cells.toArray.size):=rfl;go_enter Tryz.func160,Tryz.ntmps160;go_wp2_with(refine aB rfl 245 (.tmp 0) rfl n.cells.toArray rfl ?_);intro w1 n1;have j:=af n1.fr;have k:=af n1.aE;clear n1;generalize w.heap.size=c at*;go_wp2_with(refine an rfl 106 rfl sY GY #[.int .i64 0, .string ByteArray.empty, .int .i64 0, .int .i64 0, .string ByteArray.empty] rfl ?_);intro w2 m;have f:=af m;clear m;have q:=af (j.out.trans f.out.fr);have a:=af (k.out.fr f.out.fr (fun x=>x));generalize d:w1.heap.size=g at*;have b:=af d;clear d;have l:Hid (aq w2 g 106 #[.int .i64 0, .string ByteArray.empty, .int .i64 0, .int .i64 0, .string ByteArray.empty]):=by have h:=f.out.aE;rw[b.out]at h;exact h
 have t:w2.cell? ⟨c,0,none⟩=some (.int .i64 n.kind):=a.out.cell 0;have u:w2.cell? ⟨c,1,none⟩=some (.string n.owner):=a.out.cell 1;have v:w2.cell? ⟨c,2,none⟩=some (.int .i64 n.number):=a.out.cell 2;have c3:w2.cell? ⟨c,3,none⟩=some (.int .i64 n.index):=a.out.cell 3;have y:w2.cell? ⟨c,4,none⟩=some (.string n.text):=a.out.cell 4;clear k;go_wp2_with(refine dM rfl 106 _ rfl n.cells.toArray _ (by simp only[List.map_toArray,List.map_cons,List.map_nil];rfl) B.out (aR.go ?hold));unfold aR;refine ai rfl 106 (.tmp 2) _ rfl g n.cells.toArray rfl rfl _ _ l.out E.out Z.out O.out ?_;intro o b5 f5;have r:=af b5;have s:Hid (Fr ag w o):=q.out.aw f5 (fun i A e=>by have z:i=g:=e;have C:=b.out;have D:=j.out.size;omega);clear b5 f5 f a l b t u v c3 y;go_wp2;exact bodyPost_ret (results_cell_row (fn:=Tryz.f160) (p:=2) (ty:=106) Tryz.results160 _ o _ 106 n.cells.toArray (0,0) _ rfl r.out Tryz.underlying106 rfl E.out) rfl ⟨rfl,s.out⟩
theorem Kl:∀(xs:List CV)(k:Nat)(c:CV),xs[k]? =some c→∀j x,c.cells[j]? =some x→(xs.flatMap CV.cells)[k*7+j]? =some x
 |[],_,_,h,_,_,_=>by simp at h
 |y::b,0,c,h,j,x,a=>by
  simp only[List.getElem?_cons_zero,Option.some.injEq]at h;subst h;have d:j<7:=(List.getElem?_eq_some_iff.1 a).1;rw[List.flatMap_cons,Nat.zero_mul,Nat.zero_add,List.getElem?_append_left d];exact a
 |y::b,k+1,c,h,j,x,a=>by
  rw[List.flatMap_cons,List.getElem?_append_right (by rw[CV.eK];omega),CV.eK,show(k+1)*7+j-7=k*7+j by omega];exact Kl b k c (by simpa using h) j x a
structure CL(w:World)(S:Nat→Prop)(A:Option Addr)(n:Nat)(xs:List CV):Prop where
 rd:Rd w S 7 A n (xs.flatMap CV.cells)
 len:xs.length=n
theorem CL.ao{w w':World}{S:Nat→Prop}{A:Option Addr}{n:Nat}{xs:List CV}(h:CL w S A n xs)(a:Fr ag w w'):CL w' S A n xs:=⟨h.rd.ao a,h.len⟩
theorem CL.at_{w:World}{S:Nat→Prop}{A:Option Addr}{n k:Nat}{xs:List CV}(h:CL w S A n xs)(f:k<n):∃b c,A=some b∧xs[k]? =some c∧∀j x,c.cells[j]? =some x→w.cell? ((b.add (k*7)).add j)=some x:=by
 obtain⟨b,e,i,d⟩:=h.rd.2 (by omega);have a:k<xs.length:=by rw[h.len];exact f
 refine⟨b,xs[k],e,List.getElem?_eq_getElem a,fun j x g=>?_⟩;rw[iT];exact d _ x (Kl xs k xs[k] (List.getElem?_eq_getElem a) j x g)
theorem Nk:(Tryz.prog.info? 245).map (·.size)=some 5:=by kernel_rfl
theorem JT(c:CV):Tryz.prog.built 119 [(0, .agg c.nm.cells.toArray),(1, .string c.value),(2, .bool c.bI)]=some c.cells.toArray:=by kernel_rfl
def bY:Value:= .agg #[.int .i64 0, .string ByteArray.empty, .int .i64 0, .int .i64 0, .string ByteArray.empty, .string ByteArray.empty, .bool false]
theorem NW(w:World):(zeroValue 247).run Tryz.prog w= .ok bY w:=by kernel_rfl
theorem ME:(Tryz.prog.info? 247).map (fun i=>(i.zero,i.size,i.bytes))=some (some bY,7,80):=by kernel_rfl
theorem nV:(Tryz.prog.info? 119).map (fun i=>(i.zero,i.size,i.bytes))=some (some bY,7,80):=by kernel_rfl
theorem foldl_set:∀(l:List Value)(k off:Nat)(b:List Value),off+k+l.length≤b.length→(l.zipIdx k).foldl (fun cs x=>cs.setIfInBounds (off+x.2) x.1) b.toArray=(b.take (off+k)++l++b.drop (off+k+l.length)).toArray
 |[],k,off,b,_=>by simp
 |c::r,k,off,b,h=>by
  simp only[List.length_cons]at h;rw[List.zipIdx_cons,List.foldl_cons,List.setIfInBounds_toArray,foldl_set r (k+1) off (b.set (off+k) c) (by rw[List.length_set];omega)];congr 1;have a:(b.set (off+k) c).take (off+(k+1))=b.take (off+k)++[c]:=by
   rw[List.take_set,show off+(k+1)=(off+k)+1 by omega,List.take_succ_eq_append_getElem (by omega:off+k<b.length),List.set_append_right _ _ (by simp;omega)];simp;rw[show off+k-min (off+k) b.length=0 by omega];rfl
  have d:(b.set (off+k) c).drop (off+(k+1)+r.length)=b.drop (off+k+(c::r).length):=by
   rw[List.drop_set_of_lt (by omega)];congr 1;simp only[List.length_cons];omega
  rw[a,d];simp
theorem lT(cs b:Array Value)(off:Nat)(h:off+cs.size≤b.size):cs.zipIdx.foldl (fun cs(x:Value×Nat)=>cs.setIfInBounds (off+x.2) x.1) b=(b.toList.take off++cs.toList++b.toList.drop (off+cs.size)).toArray:=by
 rw[←Array.foldl_toList,Array.toList_zipIdx];have:=foldl_set cs.toList 0 off b.toList (by simpa using h);simpa using this
theorem kT(cs b:Array Value)(d:cs.size=7)(c:b.size=7):Instr.fill (fun i=>some (i*7,7)) b [(0, .agg cs)]=some cs:=by
 have a:=lT cs b 0 (by omega);simp only[Instr.fill,Value.cells,d,c,Nat.zero_mul,Nat.zero_add,ne_eq,not_true_eq_false,decide_false,Bool.false_or,gt_iff_lt,Nat.lt_irrefl,Bool.false_eq_true,if_false];simp only[Nat.zero_add,List.take_zero,List.nil_append,d]at a;rw[List.drop_of_length_le (by simp[c]),List.append_nil]at a;rw[a]
theorem oJ{w:World}{base n m:Nat}{e l:TypeId}{size a:Nat}{v o:Value}{xs r:List Value}(h:w.ownsRow base e size v n xs)(p:w.ownsRow base l a o m r)(f:e≠l):∀k,v.ownBlock=some k→o.ownBlock≠some k:=by
 intro k c d;rcases h.2 with⟨rfl,_⟩|⟨g,cap,cur,rfl,_,q,_⟩;·cases c
 ·rcases p.2 with⟨rfl,_⟩|⟨s,i,j,rfl,_,b,_⟩;·cases d
  ·simp only[Value.ownBlock,Option.some.injEq]at c d;subst c;subst d;rw[q]at b;cases b;exact f rfl
theorem GJ{w:World}{base n k:Nat}{e:TypeId}{size:Nat}{v:Value}{xs:List Value}(h:w.ownsRow base e size v n xs)(a:v.ownBlock=some k):k<w.heap.size:=by
 rcases h.2 with⟨rfl,_⟩|⟨g,cap,cur,rfl,_,b,_⟩;·cases a
 ·simp only[Value.ownBlock,Option.some.injEq]at a;subst a;exact(Array.getElem?_eq_some_iff.1 b).1
theorem bK.move{e:TypeId}{size:Nat}{w w1 w2:World}{v:Value}{n:Nat}{xs:List Value}{T:Nat→Prop}(h:bK e size w (.slice none 0 0) w1 v n xs)(c:Fr T w1 w2)(b:∀k,v.ownBlock=some k→¬T k)(a:Fr ag w w2):bK e size w (.slice none 0 0) w2 v n xs:=
 ⟨aL h.own c b,a.bO,h.eG⟩
theorem LJ(n:Nat)(xs:List CV)(A:Option Addr)(cr:Nat)(S:Nat→Prop)(w:World)(cc:CL w S A n xs)(cC:n≤9223372036854775807):
  Calls Tryz.prog 127 #[.slice A n cr] w (fun e w'=>∃v4 v5,e= .returned (.tuple #[v4,v5])∧bK 119 7 w (.slice none 0 0) w' v4 (min n 24) (((xs.take (min n 24)).map CV.cut).flatMap CV.cells)∧bK 247 7 w (.slice none 0 0) w' v5 (min n 24) (((xs.take (min n 24)).map CV.cut).flatMap CV.cells)):=by
 obtain⟨X,aT,aX,E,bx⟩:=info_parts ME;obtain⟨Y,aU,aY,F,bz⟩:=info_parts nV;have cm:=af cc;clear cc;go_enter Tryz.func127,Tryz.ntmps127;go_wp2;go_loopw[4,5,6](fun v4 v5 i wr=>∃k:Nat,k≤min n 24∧i= .int .i64 k∧bK 119 7 w (.slice none 0 0) wr v4 k (((xs.take k).map CV.cut).flatMap CV.cells)∧bK 247 7 w (.slice none 0 0) wr v5 k (((xs.take k).map CV.cut).flatMap CV.cells))(fun _ _ i _=>24-(intOf i).toNat);case atStart=>exact⟨0,by omega,rfl,bK.start ⟨rfl, .inl ⟨rfl,rfl⟩⟩,bK.start ⟨rfl, .inl ⟨rfl,rfl⟩⟩⟩
 case round=>
  obtain⟨k,cw,rfl,T,U⟩:=hrel;have B:=af T;have D:=af U;obtain⟨ad,n4,aB,rfl,cz,_⟩:=aG T.own;obtain⟨ae,n5,c5,rfl,cA,_⟩:=aG U.own;clear T U;by_cases bL:k<min n 24
  ·have v:k<n:=by omega
   have cd:(k:Int)<(n:Int):=by omega
   have bu:(k:Int)<24:=by omega
   have aI:k<24:=by omega
   obtain⟨cB,c,rfl,C,z⟩:=(cm.out.ao B.out.ao).at_ v;have a4:=af z;have ck:=af c.one;have b1:Hid (((xs.take (k+1)).map CV.cut).flatMap CV.cells=((xs.take k).map CV.cut).flatMap CV.cells++c.cut.cells):=by
    simp only[Hid];rw[List.take_add_one,C];simp
   have f0:Fr ag w wr:=B.out.ao;have cl:=af f0;have NE:=af (oJ B.out.own D.out.own (by decide));obtain⟨aa,bA⟩:∃aa:Int,min (c.value.size:Int) 200=aa:=⟨_,rfl⟩;obtain⟨ab,bB⟩:∃ab:Int,min (c.nm.owner.size:Int) 100=ab:=⟨_,rfl⟩;obtain⟨ac,bJ⟩:∃ac:Int,min (c.nm.text.size:Int) 100=ac:=⟨_,rfl⟩;have cE:0≤aa:=by omega
   have cH:aa≤(c.value.size:Int):=by omega
   have cF:0≤ab:=by omega
   have cI:ab≤(c.nm.owner.size:Int):=by omega
   have cG:0≤ac:=by omega
   have cx:ac≤(c.nm.text.size:Int):=by omega
   obtain⟨v5,bQ⟩:∃v5,c.value.extract 0 aa.toNat=v5:=⟨_,rfl⟩;obtain⟨r,bM⟩:∃r,c.nm.owner.extract 0 ab.toNat=r:=⟨_,rfl⟩;obtain⟨t5,bN⟩:∃t5,c.nm.text.extract 0 ac.toNat=t5:=⟨_,rfl⟩;have J:Hid (c.cut=⟨⟨c.nm.kind,r,c.nm.number,c.nm.index,t5⟩,v5,c.bI⟩):=by
    simp only[Hid,CV.cut,yw,bA,bB,bJ,bQ,bM,bN]
   clear z C f0 bL cw;go_wp2_with(refine aC rfl 247 (.tmp 20) rfl _ rfl c.cells _ ?zB Tryz.underlying247 rfl Ev (aR.go ?hold));case zB=>exact a4.out
   unfold aR;go_wp2_with(refine an rfl 247 rfl bY NW #[.int .i64 0, .string ByteArray.empty, .int .i64 0, .int .i64 0, .string ByteArray.empty, .string ByteArray.empty, .bool false] rfl ?_);intro cy cg;have a8:=af cg;clear cg;generalize aS:wr.heap.size=g7 at*;have t:=af aS;clear aS;have bW:Hid (aq cy g7 247 #[.int .i64 0, .string ByteArray.empty, .int .i64 0, .int .i64 0, .string ByteArray.empty, .string ByteArray.empty, .bool false]):=by have h:=a8.out.aE;rw[t.out]at h;exact h
   go_wp2_with(refine ai rfl 247 (.tmp 7) _ rfl g7 c.cells.toArray rfl rfl _ _ bW.out Ev rfl ck.out ?_);intro ci bb cb;have bT:Hid (aq ci g7 247 #[.int .i64 c.nm.kind, .string c.nm.owner, .int .i64 c.nm.number, .int .i64 c.nm.index, .string c.nm.text, .string c.value, .bool c.bI]):=bb;have bZ:Hid (Fr ag wr ci):=a8.out.fr.aw cb (fun i G e=>by have bc:i=g7:=e;have:=t.out;omega);clear bb cb a8 bW;have co:Hid ((Value.string v5).oneCell'=true):=by simp[Hid,Value.oneCell']
   go_upto_region 7 with fail;refine iG 9 (fun k=>k=g7) [Is (.pointer (some ⟨g7,5,none⟩)),Is (.string c.value),Is (.pointer (some ⟨g7,5,none⟩)),Is (.string c.value),Is (.int .i64 c.value.size),Is (.int .i64 aa),Is (.string v5),Is (.pointer (some ⟨g7,5,none⟩)),Is (undef)] [(8,fun W=>aq W g7 247 #[.int .i64 c.nm.kind, .string c.nm.owner, .int .i64 c.nm.number, .int .i64 c.nm.index, .string c.nm.text, .string v5, .bool c.bI])] (fun W=>aq W g7 247 #[.int .i64 c.nm.kind, .string c.nm.owner, .int .i64 c.nm.number, .int .i64 c.nm.index, .string c.nm.text, .string c.value, .bool c.bI]) (fun i j=>j==8&&decide (i<8)) (by kernel_rfl) (by kernel_rfl) (by kernel_rfl) ⟨Is.ah _,Is.ah _,Is.ah _,Is.ah _,Is.ah _,Is.ah _,Is.ah _,Is.ah _,Is.ah _,trivial⟩ ⟨fun _ _ _ o h=>h.fr o (fun x=>x),trivial⟩ (fun _ _ _ o h=>h.fr o (fun x=>x)) bT.out ?_ ?_
   ·refine⟨?_,?_,?_,?_,?_,?_,?_,?_,?_,trivial⟩;all_goals intro u w' d o a m l f
    all_goals simp only[bw,bC,bD,bE,ar,Act.put,bF,bG,bH,Nat.reduceAdd,Nat.zero_add]
    ·clear a m l f;refine aj ?_;go_simp;exact⟨_,rfl,al⟩
    ·have bj:u 0=_:=a 0;clear a;simp only[bj];refine aj ?_;have s:aq w' g7 247 #[.int .i64 c.nm.kind, .string c.nm.owner, .int .i64 c.nm.number, .int .i64 c.nm.index, .string c.nm.text, .string c.value, .bool c.bI]:=by rw[dq,if_neg (by rw[l 8 (by kernel_rfl)];exact Bool.false_ne_true)]at f;exact f
     clear m l f;have C:w'.cell? ⟨g7,5,none⟩=some (.string c.value):=s.cell 5;go_simp;exact⟨_,rfl,al⟩
    ·clear a m l f;refine aj ?_;go_simp;exact⟨_,rfl,al⟩
    ·have aH:u 2=_:=a 2;clear a;simp only[aH];refine aj ?_;have s:aq w' g7 247 #[.int .i64 c.nm.kind, .string c.nm.owner, .int .i64 c.nm.number, .int .i64 c.nm.index, .string c.nm.text, .string c.value, .bool c.bI]:=by rw[dq,if_neg (by rw[l 8 (by kernel_rfl)];exact Bool.false_ne_true)]at f;exact f
     clear m l f;have C:w'.cell? ⟨g7,5,none⟩=some (.string c.value):=s.cell 5;go_simp;exact⟨_,rfl,al⟩
    ·have aK:u 3=_:=a 3;clear a m l f;simp only[aK];refine aj ?_;go_simp;exact⟨_,rfl,al⟩
    ·have aM:u 4=_:=a 4;clear a m l f;simp only[aM];refine aj ?_;go_simp;exact⟨_,rfl,al⟩
    ·have aF:u 1=_:=a 1;have aN:u 5=_:=a 5;clear a m l f;simp only[aF,aN];refine aj ?_;go_simp;exact⟨_,rfl,al⟩
    ·clear a m l f;refine aj ?_;go_simp;exact⟨_,rfl,al⟩
    ·have aP:u 7=_:=a 7;have aO:u 6=_:=a 6;clear a;simp only[aP,aO];refine aj ?_;have s:aq w' g7 247 #[.int .i64 c.nm.kind, .string c.nm.owner, .int .i64 c.nm.number, .int .i64 c.nm.index, .string c.nm.text, .string c.value, .bool c.bI]:=by rw[dq,if_neg (by rw[l 8 (by kernel_rfl)];exact Bool.false_ne_true)]at f;exact f
     clear m l f;refine lQ 9 (.tmp 29) (.tmp 28) rfl g7 5 (.string v5) rfl rfl co.out pL _ _ #[.int .i64 c.nm.kind, .string c.nm.owner, .int .i64 c.nm.number, .int .i64 c.nm.index, .string c.nm.text, .string v5, .bool c.bI] s (show 5<7 by decide) rfl ?_;intro ch b4 f4;exact⟨_,rfl,f4,rfl,b4⟩
   ·intro u w' o a f;clear a;simp only[bw,bC,bD,bE,ar,Act.put,bF,bG,bH,dj,dk,Nat.reduceAdd,Nat.zero_add];generalize w'=wc at*;have bU:Hid (aq wc g7 247 #[.int .i64 c.nm.kind, .string c.nm.owner, .int .i64 c.nm.number, .int .i64 c.nm.index, .string c.nm.text, .string v5, .bool c.bI]):=f;have b0:Hid (Fr ag wr wc):=bZ.out.aw o (fun i G e=>by have bc:i=g7:=e;have:=t.out;omega);clear f o bT bZ;go_upto_region 8 with fail;refine ay 23 (fun k=>k=g7) [Is (.pointer (some ⟨g7,0,none⟩)),Is (.pointer (some ⟨g7,1,none⟩)),Is (.string c.nm.owner),Is (.pointer (some ⟨g7,0,none⟩)),Is (.pointer (some ⟨g7,1,none⟩)),Is (.string c.nm.owner),Is (.int .i64 c.nm.owner.size),Is (.int .i64 ab),Is (.string r),Is (.pointer (some ⟨g7,0,none⟩)),Is (.pointer (some ⟨g7,4,none⟩)),Is (.string c.nm.text),Is (.pointer (some ⟨g7,0,none⟩)),Is (.pointer (some ⟨g7,4,none⟩)),Is (.string c.nm.text),Is (.int .i64 c.nm.text.size),Is (.int .i64 ac),Is (.string t5),Is (.pointer (some ⟨g7,0,none⟩)),Is (.pointer (some ⟨g7,1,none⟩)),Is (undef),Is (.pointer (some ⟨g7,0,none⟩)),Is (.pointer (some ⟨g7,4,none⟩))] [(20,fun W=>aq W g7 247 #[.int .i64 c.nm.kind, .string r, .int .i64 c.nm.number, .int .i64 c.nm.index, .string c.nm.text, .string v5, .bool c.bI])] (fun W=>aq W g7 247 #[.int .i64 c.nm.kind, .string c.nm.owner, .int .i64 c.nm.number, .int .i64 c.nm.index, .string c.nm.text, .string v5, .bool c.bI]) (fun i j=>j==20&&(decide (i<15)||i==19)) (by kernel_rfl) (by kernel_rfl) (by kernel_rfl) (by kernel_rfl) ⟨Is.ah _,Is.ah _,Is.ah _,Is.ah _,Is.ah _,Is.ah _,Is.ah _,Is.ah _,Is.ah _,Is.ah _,Is.ah _,Is.ah _,Is.ah _,Is.ah _,Is.ah _,Is.ah _,Is.ah _,Is.ah _,Is.ah _,Is.ah _,Is.ah _,Is.ah _,Is.ah _,trivial⟩ ⟨fun _ _ _ o h=>h.fr o (fun x=>x),trivial⟩ (fun _ _ _ o h=>h.fr o (fun x=>x)) bU.out.drew ?_ ?_
    ·refine⟨?_,?_,?_,?_,?_,?_,?_,?_,?_,?_,?_,?_,?_,?_,?_,?_,?_,?_,?_,?_,?_,?_,?_,trivial⟩;all_goals intro u w' d o a m l f
     all_goals simp only[bw,bC,bD,bE,ar,Act.put,bF,bG,bH,Nat.reduceAdd,Nat.zero_add]
     ·clear a m l f;refine aj ?_;go_simp;exact⟨_,rfl,al⟩
     ·have bj:u 0=_:=a 0;clear a m l f;simp only[bj];refine aj ?_;go_simp;exact⟨_,rfl,al⟩
     ·have aF:u 1=_:=a 1;clear a;simp only[aF];refine aj ?_;have s:aq w' g7 247 #[.int .i64 c.nm.kind, .string c.nm.owner, .int .i64 c.nm.number, .int .i64 c.nm.index, .string c.nm.text, .string v5, .bool c.bI]:=by rw[dq,if_neg (by rw[l 20 (by kernel_rfl)];exact Bool.false_ne_true)]at f;exact f
      clear m l f;have C:w'.cell? ⟨g7,1,none⟩=some (.string c.nm.owner):=s.cell 1;go_simp;exact⟨_,rfl,al⟩
     ·clear a m l f;refine aj ?_;go_simp;exact⟨_,rfl,al⟩
     ·have aK:u 3=_:=a 3;clear a m l f;simp only[aK];refine aj ?_;go_simp;exact⟨_,rfl,al⟩
     ·have aM:u 4=_:=a 4;clear a;simp only[aM];refine aj ?_;have s:aq w' g7 247 #[.int .i64 c.nm.kind, .string c.nm.owner, .int .i64 c.nm.number, .int .i64 c.nm.index, .string c.nm.text, .string v5, .bool c.bI]:=by rw[dq,if_neg (by rw[l 20 (by kernel_rfl)];exact Bool.false_ne_true)]at f;exact f
      clear m l f;have C:w'.cell? ⟨g7,1,none⟩=some (.string c.nm.owner):=s.cell 1;go_simp;exact⟨_,rfl,al⟩
     ·have aN:u 5=_:=a 5;clear a m l f;simp only[aN];refine aj ?_;go_simp;exact⟨_,rfl,al⟩
     ·have aO:u 6=_:=a 6;clear a m l f;simp only[aO];refine aj ?_;go_simp;exact⟨_,rfl,al⟩
     ·have aH:u 2=_:=a 2;have aP:u 7=_:=a 7;clear a m l f;simp only[aH,aP];refine aj ?_;go_simp;exact⟨_,rfl,al⟩
     ·clear a m l f;refine aj ?_;go_simp;exact⟨_,rfl,al⟩
     ·have cs:u 9=_:=a 9;clear a m l f;simp only[cs];refine aj ?_;go_simp;exact⟨_,rfl,al⟩
     ·have bk:u 10=_:=a 10;clear a;simp only[bk];refine aj ?_;have s:aq w' g7 247 #[.int .i64 c.nm.kind, .string c.nm.owner, .int .i64 c.nm.number, .int .i64 c.nm.index, .string c.nm.text, .string v5, .bool c.bI]:=by rw[dq,if_neg (by rw[l 20 (by kernel_rfl)];exact Bool.false_ne_true)]at f;exact f
      clear m l f;have C:w'.cell? ⟨g7,4,none⟩=some (.string c.nm.text):=s.cell 4;go_simp;exact⟨_,rfl,al⟩
     ·clear a m l f;refine aj ?_;go_simp;exact⟨_,rfl,al⟩
     ·have bm:u 12=_:=a 12;clear a m l f;simp only[bm];refine aj ?_;go_simp;exact⟨_,rfl,al⟩
     ·have bn:u 13=_:=a 13;clear a;simp only[bn];refine aj ?_;have s:aq w' g7 247 #[.int .i64 c.nm.kind, .string c.nm.owner, .int .i64 c.nm.number, .int .i64 c.nm.index, .string c.nm.text, .string v5, .bool c.bI]:=by rw[dq,if_neg (by rw[l 20 (by kernel_rfl)];exact Bool.false_ne_true)]at f;exact f
      clear m l f;have C:w'.cell? ⟨g7,4,none⟩=some (.string c.nm.text):=s.cell 4;go_simp;exact⟨_,rfl,al⟩
     ·have bo:u 14=_:=a 14;clear a m l f;simp only[bo];refine aj ?_;go_simp;exact⟨_,rfl,al⟩
     ·have bp:u 15=_:=a 15;clear a m l f;simp only[bp];refine aj ?_;go_simp;exact⟨_,rfl,al⟩
     ·have bl:u 11=_:=a 11;have bq:u 16=_:=a 16;clear a m l f;simp only[bl,bq];refine aj ?_;go_simp;exact⟨_,rfl,al⟩
     ·clear a m l f;refine aj ?_;go_simp;exact⟨_,rfl,al⟩
     ·have br:u 18=_:=a 18;clear a m l f;simp only[br];refine aj ?_;go_simp;exact⟨_,rfl,al⟩
     ·have bs:u 19=_:=a 19;have bv:u 8=_:=a 8;clear a;simp only[bs,bv];refine aj ?_;have s:aq w' g7 247 #[.int .i64 c.nm.kind, .string c.nm.owner, .int .i64 c.nm.number, .int .i64 c.nm.index, .string c.nm.text, .string v5, .bool c.bI]:=by rw[dq,if_neg (by rw[l 20 (by kernel_rfl)];exact Bool.false_ne_true)]at f;exact f
      clear m l f;refine lQ 9 (.tmp 49) (.tmp 38) rfl g7 1 (.string r) rfl rfl rfl pL _ _ _ s (show 1<7 by decide) rfl ?_;intro ch b4 f4;exact⟨_,rfl,f4,rfl,b4⟩
     ·clear a m l f;refine aj ?_;go_simp;exact⟨_,rfl,al⟩
     ·have bt:u 21=_:=a 21;clear a m l f;simp only[bt];refine aj ?_;go_simp;exact⟨_,rfl,al⟩
    ·intro u w' o a f;have aZ:u 17=_:=a 17 (by omega);have a0:u 22=_:=a 22 (by omega);clear a;simp only[bw,bC,bD,bE,ar,Act.put,bF,bG,bH,dj,dk,Nat.reduceAdd,Nat.zero_add,aZ,a0];have bV:Hid (aq w' g7 247 #[.int .i64 c.nm.kind, .string r, .int .i64 c.nm.number, .int .i64 c.nm.index, .string c.nm.text, .string v5, .bool c.bI]):=f;have bX:Hid (Fr ag wr w'):=b0.out.aw o (fun i G e=>by have bc:i=g7:=e;have:=t.out;omega);have b5:Hid ((Value.string t5).oneCell'=true):=by simp[Hid,Value.oneCell']
     have aA:Hid (4<(#[.int .i64 c.nm.kind, .string r, .int .i64 c.nm.number, .int .i64 c.nm.index, .string c.nm.text, .string v5, .bool c.bI]:Array Value).size):=by simp[Hid]
     have ax:Hid ((#[.int .i64 c.nm.kind, .string r, .int .i64 c.nm.number, .int .i64 c.nm.index, .string c.nm.text, .string v5, .bool c.bI]:Array Value).setIfInBounds 4 (.string t5)=#[.int .i64 c.nm.kind, .string r, .int .i64 c.nm.number, .int .i64 c.nm.index, .string t5, .string v5, .bool c.bI]):=rfl;clear f o bU b0 aZ a0;refine aW rfl 9 (.tmp 51) (.tmp 47) rfl g7 4 (.string t5) rfl rfl b5.out pL 247 #[.int .i64 c.nm.kind, .string r, .int .i64 c.nm.number, .int .i64 c.nm.index, .string c.nm.text, .string v5, .bool c.bI] #[.int .i64 c.nm.kind, .string r, .int .i64 c.nm.number, .int .i64 c.nm.index, .string t5, .string v5, .bool c.bI] bV.out aA.out ax.out ?_;intro wd ca fd;have I:=af ca;have Z:Hid (Fr ag wr wd):=bX.out.aw fd (fun i G e=>by have bc:i=g7:=e;have:=t.out;omega);clear ca fd bV bX b5 aA ax;obtain⟨y,aV⟩:∃y:CV,y=⟨⟨c.nm.kind,r,c.nm.number,c.nm.index,t5⟩,v5,c.bI⟩:=⟨_,rfl⟩;have b2:Hid (c.cut=y):=by rw[aV];exact J.out
     have b6:Hid (∀W,aq W g7 247 #[.int .i64 c.nm.kind, .string r, .int .i64 c.nm.number, .int .i64 c.nm.index, .string t5, .string v5, .bool c.bI]→aq W g7 247 y.cells.toArray):=fun W h=>by rw[aV];exact h
     obtain⟨L,V⟩:∃L:aJ,L=y.nm:=⟨_,rfl⟩;have cq:Hid (∀W,aq W g7 247 #[.int .i64 c.nm.kind, .string r, .int .i64 c.nm.number, .int .i64 c.nm.index, .string t5, .string v5, .bool c.bI]→∀j x,L.cells[j]? =some x→W.cell? ⟨g7,j,none⟩=some x):=fun W h j x H=>by
      have cv:j<5:=(List.getElem?_eq_some_iff.1 H).1;rw[(b6.out W h).cell,bP,CV.cells,List.getElem?_append_left (by rw[aJ.eK];exact cv),←V];exact H
     have a2:Hid (Tryz.prog.built 119 [(0, .agg L.cells.toArray),(1, .string v5),(2, .bool c.bI)]=some y.cells.toArray):=by
      have h:=JT y;rw[←V,show y.value=v5 by rw[aV],show y.bI=c.bI by rw[aV]]at h;exact h
     have b8:Hid (∀u∈y.cells.toArray.toList,u.oneCell'=true):=by
      intro u hu;have h:=y.one;rw[Array.all_eq_true_iff_forall_mem]at h;exact h u (by simpa using hu)
     have b7:Hid (y.cells.toArray.size=1*7):=rfl;have cp:Hid (y.cells=y.cells.toArray.toList):=by simp[Hid]
     have M:=af (b6.out _ I.out);have aD:Hid (Instr.fill (fun i=>some (i*7,7)) ((Array.range (1*7)).map (bY.cells[· %bY.cells.size]!)) [(0, .agg y.cells.toArray)]=some y.cells.toArray):=kT _ _ rfl (by simp);clear J aV V;generalize aQ:y.cells=p at*;have N:=af aQ;clear aQ;have bd:Hid (¬1*X.size>2^24):=by simp only[Hid];rw[E];omega
     have be:Hid (¬1*X.size=0):=by simp only[Hid];rw[E];omega
     have bf:Hid (Instr.fill (fun i=>some (i*X.size,X.size)) ((Array.range (1*X.size)).map (bY.cells[· %bY.cells.size]!)) [(0, .agg p.toArray)]=some p.toArray):=by simp only[Hid];rw[E];exact aD.out
     have bg:Hid (¬1*Y.size>2^24):=by simp only[Hid];rw[F];omega
     have bh:Hid (¬1*Y.size=0):=by simp only[Hid];rw[F];omega
     have bi:Hid (Instr.fill (fun i=>some (i*Y.size,Y.size)) ((Array.range (1*Y.size)).map (bY.cells[· %bY.cells.size]!)) [(0, .agg p.toArray)]=some p.toArray):=by simp only[Hid];rw[F];exact aD.out
     have a5:Hid ((Tryz.prog.info? 247).map (·.size)=some p.length):=by rw[←N.out];exact Ev
     have cn:Hid (∀i,(Value.slice ae n5 c5).ownBlock=some i→i<g7):=fun i G=>by have q:=GJ D.out.own G;have cx:=t.out;omega
     have b3:Hid (wd.ownsRow 0 247 7 (.slice ae n5 c5) k (((xs.take k).map CV.cut).flatMap CV.cells)):=aL D.out.own Z.out (fun _ _ x=>x);have a7:Hid (wd.ownsRow 0 119 7 (.slice ad n4 aB) k (((xs.take k).map CV.cut).flatMap CV.cells)):=aL B.out.own Z.out (fun _ _ x=>x);go_wp2_with(refine aC rfl 247 (.tmp 7) rfl ⟨g7,0,none⟩ rfl p _ ?zA Tryz.underlying247 rfl a5.out (aR.go ?zC));case zA=>exact fun j x H=>by first|(rw[Addr.add_mid,Nat.zero_add,M.out.cell,bP];exact H)|(rw[M.out.cell,bP];exact H)
     unfold aR;refine wpList_buildSlice rfl 55 247 1 #[(0, .tmp 53)] rfl p.toArray X bY Tryz.underlying55 aT aX bd.out be.out (by simp only[List.map_toArray,List.map_cons,List.map_nil];exact bf.out) ?_;refine cP _ rfl _ _ 55 rfl 247 X bY 7 80 Tryz.underlying55 aT aX E bx rfl (by decide) _ _ _ rfl b3.out 1 p.toArray _ rfl rfl b7.out b8.out (by omega) (by decide) ?_;intro a1 bS K;have a3:Hid (Fr ag w wd):=cl.out.trans Z.out;have av:Hid (bK 247 7 w (.slice none 0 0) wd (.slice ae n5 c5) k (((xs.take k).map CV.cut).flatMap CV.cells)):=D.out.behind Z.out;have P:Hid (bK 247 7 w (.slice none 0 0) bS a1 (k+1) (((xs.take (k+1)).map CV.cut).flatMap CV.cells)):=by
      have h:=av.out.trans K;simp only[Hid];rw[b1.out,b2.out,N.out];exact h
     have O:Hid (bK 119 7 w (.slice none 0 0) bS (.slice ad n4 aB) k (((xs.take k).map CV.cut).flatMap CV.cells)):=(B.out.behind Z.out).move K.fr (fun i G e=>NE.out i G e) P.out.ao;have ak:Hid (aq bS g7 247 #[.int .i64 c.nm.kind, .string r, .int .i64 c.nm.number, .int .i64 c.nm.index, .string t5, .string v5, .bool c.bI]):=I.out.fr K.fr (fun e=>by have q:=cn.out g7 e;omega);clear K D B av b3 a7 I Z a3 M;have I:=ak;have a7:=af O.out.own;go_upto_region 10 with fail;refine ay 10 ag [Is (.slice ad n4 aB),Is (.pointer (some ⟨g7,0,none⟩)),Is (.agg L.cells.toArray),Is (.agg L.cells.toArray),Is (.pointer (some ⟨g7,5,none⟩)),Is (.string v5),Is (.pointer (some ⟨g7,6,none⟩)),Is (.bool c.bI),Is (.agg p.toArray),fun x W=>∃g,x= .slice (some ⟨g,0,none⟩) 1 1∧aq W g 119 p.toArray] [] (fun _=>True) (fun _ _=>false) (by kernel_rfl) (by kernel_rfl) (by kernel_rfl) (by kernel_rfl) ⟨Is.ah _,Is.ah _,Is.ah _,Is.ah _,Is.ah _,Is.ah _,Is.ah _,Is.ah _,Is.ah _,fun _ _ _ _ o⟨g,h,b⟩=>⟨g,h,b.fr o (fun x=>x)⟩,trivial⟩ trivial (fun _ _ _ _ h=>h) trivial ?_ ?_
     ·refine⟨?_,?_,?_,?_,?_,?_,?_,?_,?_,?_,trivial⟩;all_goals intro u w' d o a m l f
      all_goals simp only[bw,bC,bD,bE,ar,Act.put,bF,bG,bH,Nat.reduceAdd,Nat.zero_add]
      ·clear a m l f;refine aj ?_;go_simp;exact⟨_,rfl,al⟩
      ·clear a m l f;refine aj ?_;go_simp;exact⟨_,rfl,al⟩
      ·have aF:u 1=_:=a 1;clear a m l f;simp only[aF];refine aj ?_;exact au _ _ rfl ⟨g7,0,none⟩ rfl L.cells _ (fun j x H=>by rw[Addr.add_mid,Nat.zero_add];exact cq.out _ (I.out.fr o (fun x=>x)) j x H) Tryz.underlying245 rfl Nk ⟨_,rfl,al⟩
      ·have aH:u 2=_:=a 2;clear a m l f;simp only[aH];refine aj ?_;go_simp;refine(JL L _).mono ?_;rintro e ch⟨rfl,f4⟩;exact⟨_,rfl,f4.bO,rfl,trivial⟩
      ·clear a m l f;refine aj ?_;go_simp;exact⟨_,rfl,al⟩
      ·have aM:u 4=_:=a 4;clear a m l f;simp only[aM];refine aj ?_;have C:w'.cell? ⟨g7,5,none⟩=some (.string v5):=(I.out.fr o (fun x=>x)).cell 5;go_simp;exact⟨_,rfl,al⟩
      ·clear a m l f;refine aj ?_;go_simp;exact⟨_,rfl,al⟩
      ·have aO:u 6=_:=a 6;clear a m l f;simp only[aO];refine aj ?_;have C:w'.cell? ⟨g7,6,none⟩=some (.bool c.bI):=(I.out.fr o (fun x=>x)).cell 6;go_simp;exact⟨_,rfl,al⟩
      ·have aK:u 3=_:=a 3;have aN:u 5=_:=a 5;have aP:u 7=_:=a 7;clear a m l f;simp only[aK,aN,aP];refine aj ?_;exact iA 119 _ rfl p.toArray _ (by simp only[List.map_toArray,List.map_cons,List.map_nil];rfl) a2.out ⟨_,rfl,al⟩
      ·have bv:u 8=_:=a 8;clear a m l f;simp only[bv];refine aj ?_;refine wp_buildSlice 44 119 1 #[(0, .tmp 64)] rfl p.toArray Y bY Tryz.underlying44 aU aY bg.out bh.out ?_ ?_;·simp only[List.map_toArray,List.map_cons,List.map_nil];exact bi.out
       ·exact⟨_,rfl,az.alloc _,⟨w'.heap.size,rfl,aq.new _ _ _⟩,trivial⟩
     ·intro u w' o a f;have l:u 0=_:=a 0 (by omega);obtain⟨g9,cf,b9⟩:∃g,u 9= .slice (some ⟨g,0,none⟩) 1 1∧aq w' g 119 p.toArray:=a 9 (by omega);clear a f;simp only[bw,bC,bD,bE,ar,Act.put,bF,bG,bH,dj,dk,Nat.reduceAdd,Nat.zero_add,l,cf];have cj:=af b9;have R:=af (aL a7.out o (fun _ _ x=>x));have ap:=af (O.out.behind o);have Q:=af (P.out.behind o);have ba:Hid (∀u∈p,u.oneCell'=true):=fun u hu=>b8.out u (by simpa using hu);have a9:Hid (p.length=1*7):=by have h:=b7.out;rw[List.size_toArray]at h;exact h
      clear o l cf b9 I ak;refine dR _ rfl _ _ 44 rfl 119 Y bY 7 80 Tryz.underlying44 aU aY F bz rfl (by decide) _ _ _ rfl R.out (fun _=>True) (some ⟨g9,0,none⟩) 1 1 p rfl ⟨a9.out,fun _=>⟨_,rfl,trivial,fun j x H=>by rw[Addr.add_mid,Nat.zero_add,cj.out.cell,bP];exact H⟩⟩ ba.out (by omega) (by decide) ?_;intro bR wf K;have am:Hid (bK 119 7 w (.slice none 0 0) wf bR (k+1) (((xs.take (k+1)).map CV.cut).flatMap CV.cells)):=by
       have h:=ap.out.trans K;simp only[Hid];rw[b1.out,b2.out,N.out];exact h
      have a6:Hid (bK 247 7 w (.slice none 0 0) wf a1 (k+1) (((xs.take (k+1)).map CV.cut).flatMap CV.cells)):=Q.out.move K.fr (fun i G e=>oJ Q.out.own R.out (by decide) i G e) am.out.ao;clear K ap Q R O P;go_wp2;go_roundw;case rel=>exact⟨k+1,by omega,by go_num,am.out,a6.out⟩
      case measure=>simp[intOf];omega
  ·have v:k=min n 24:=by omega
   have ce:¬((k:Int)<(n:Int)∧(k:Int)<24):=by omega
   by_cases cd:(k:Int)<(n:Int)
   ·have bu:decide ((k:Int)<24)=false:=cD (by omega);have aI:¬k<24:=by omega
    have hIn:k<n:=by omega
    go_wp2;go_ret2;exact⟨.slice ad n4 aB, .slice ae n5 c5,rfl,by rw[←v];first|exact B.out|(rw[←List.map_take];exact B.out),by rw[←v];first|exact D.out|(rw[←List.map_take];exact D.out)⟩
   ·have ct:decide ((k:Int)<(n:Int))=false:=decide_eq_false cd;have cu:¬k<n:=by omega
    go_wp2;go_ret2;exact⟨.slice ad n4 aB, .slice ae n5 c5,rfl,by rw[←v];first|exact B.out|(rw[←List.map_take];exact B.out),by rw[←v];first|exact D.out|(rw[←List.map_take];exact D.out)⟩
theorem Fr.L0{w w':World}(h:Fr ag w w'):w.grownBy w' none:=⟨h.os,h.tape,h.output,h.size,fun k a _=>h.block k a (fun x=>x)⟩
def AI(w:World)(e:Ending)(w':World):Prop:=e= .returned (.bool true)∧Fr ag w w'
end Go.Proofs.YtphjagkehiklkaaGreatDoor
namespace Go.Proofs.YtphjagkehiklkaaGreatDoor
open Go.RowKit Go.Shelf
attribute[local go_sem]Oper.semAt_some
theorem RoundIn.jI{F:Fence}(a:F.depth=none){m b:Nat}{P:Program}{l:Nat}{f:FuncId}{tmps:Array Value}{assign body:Code}{w:World}{e:Ending→World→Prop}
  (h:RoundIn F m P l f tmps assign body w e):RoundIn F b P l f tmps assign body w e:=⟨h.1,fun c cs _=>h.2 c cs (fun d h=>by rw[a]at h;cases h)⟩
theorem YieldAt.jI{F:Fence}(b:F.depth=none){m:Nat}(d:Nat){P:Program}{l:Nat}{args:Array Value}{W:World}{e:Ending→World→Prop}(h:YieldAt F m P l args W e):YieldAt F d P l args W e:=by
 obtain⟨fn,tmps,assign,body,c,a⟩:=h;exact⟨fn,tmps,assign,body,c,RoundIn.jI b a⟩
def Tr.bJ:Tr→List (aJ×ByteArray)
 | .leaf=>[]
 | .node l nm v r=>l.bJ++(nm,v)::r.bJ
theorem Tr.bW:∀t:Tr,t.bJ.length=t.size
 | .leaf=>rfl
 | .node l nm v r=>by
  simp only[Tr.bJ,Tr.size,aS,List.length_cons,l.bW,r.bW];omega
def KN(A B:World):Prop:=∀g cs,aq A g 177 cs→aq B g 177 cs
theorem KN.refl(A:World):KN A A:=fun _ _ h=>h
theorem KN.trans{A B C:World}(h:KN A B)(k:KN B C):KN A C:=fun g cs a=>k g cs (h g cs a)
theorem KN.fr{A B:World}{T:Nat→Prop}(h:Fr T A B)(b:∀g cs,aq A g 177 cs→¬T g):KN A B:=fun g cs a=>a.fr h (b g cs a)
theorem KN.below{A B:World}(h:Below A.heap.size A B):KN A B:=fun g _ a=>(h.block g a.lt).trans a
theorem cm.kn{w w':World}:∀{a:Option Addr}{t:Tr},cm w a t→KN w w'→cm w' a t
 |_, .leaf,h,_=>h
 |_, .node _ _ _ _,⟨g,i,ra,e,c,d,f⟩,b=>⟨g,i,ra,e,c.kn b,d.kn b,b g _ f⟩
structure Nd where
 g:Nat
 nm:aJ
 v:ByteArray
def lW(w:World)(x:Nd):Prop:=∃a b c d e,aq w x.g 177 ([a,b]++x.nm.cells++[Value.string x.v,c,d,e]).toArray
theorem lW.kn{w w':World}{x:Nd}(h:lW w x)(k:KN w w'):lW w' x:=by
 obtain⟨a,b,c,d,e,f⟩:=h;exact⟨a,b,c,d,e,k _ _ f⟩
theorem lW.ko{w:World}{x:Nd}(h:lW w x):Mid w x.g x.nm x.v:=by
 obtain⟨a,b,c,d,e,f⟩:=h;exact Mid.of f
abbrev pf(w:World):={x:Nd//lW w x}
def EJ{w:World}(x:pf w):Array Value:=#[.pointer (some ⟨x.1.g,0,none⟩)]
def NF{w:World}(x:pf w):aJ×ByteArray:=(x.1.nm,x.1.v)
theorem gj{n:Nat}{P:Program}{ops:Array Oper}{Q:Exit→Act→World→Prop}{a:Act}{w:World}{rest:List Oper}{b:Oper}(hw:Region.wanted b (yielded ops a.tmps)=false)
  (h:wpListIn Fence.wide n P ops Q rest (a.put b.dst undef) w):wpListIn Fence.wide n P ops Q (b::rest) a w:=by
 rw[wpListIn,if_neg (by rw[hw];simp)];exact⟨fun _ _=>trivial,h⟩
def Ly(w:World)(b a:List (pf w)→World→Prop)(pre xs:List (pf w))(e:Ending)(W':World):Prop:=
 (e= .returned (.bool true)∧b (pre++xs) W'∧KN w W')∨(e= .returned (.bool false)∧∃q,q<+:xs∧a (pre++q) W')
inductive Ord(w:World):Option Addr→Tr→List (pf w)→Prop where
 |leaf:Ord w none .leaf []
 |node{l r:Tr}{nm:aJ}{v:ByteArray}{g:Nat}{a ra:Option Addr}{L f:List (pf w)}(c:Ord w a l L)(d:Ord w ra r f)
   (b:aq w g 177 (oH a ra (.node l nm v r)).toArray)(x:pf w)(e:x.1=⟨g,nm,v⟩):Ord w (some ⟨g,0,none⟩) (.node l nm v r) (L++x::f)
theorem Ord.of{w:World}:∀{a:Option Addr}{t:Tr},cm w a t→∃L,Ord w a t L
 |_, .leaf,h=>by
  obtain rfl:_=none:=h;exact⟨[], .leaf⟩
 |_, .node l nm v r,⟨g,j,ra,e,c,d,b⟩=>by
  subst e;obtain⟨L,f⟩:=Ord.of c;obtain⟨k,i⟩:=Ord.of d;exact⟨_, .node f i b ⟨⟨g,nm,v⟩,_,_,_,_,_,b⟩ rfl⟩
theorem Ord.bJ{w:World}{a:Option Addr}{t:Tr}{L:List (pf w)}(h:Ord w a t L):L.map NF=t.bJ:=by
 induction h with
 |leaf=>rfl
 |node _ _ _ x d b c=>
  rw[List.map_append,List.map_cons,b,c,Tr.bJ];simp only[NF,d]
theorem Kc(l N:Nat)(w:World)(J p:List (pf w)→World→Prop)
  (hY:∀m pre x W,J pre W→KN w W→pre.length<N→YieldAt Fence.wide m Tryz.prog l (EJ x) W fun e W'=>(e= .returned (.bool true)∧J (pre++[x]) W'∧KN W W')∨(e= .returned (.bool false)∧p (pre++[x]) W'))
  {a:Option Addr}{t:Tr}{L:List (pf w)}(h:Ord w a t L):
  ∀(m:Nat)(pre:List (pf w))(W:World),J pre W→KN w W→pre.length+L.length≤N→
   CallsIn Fence.wide m Tryz.prog 170 #[.pointer a, .func (.yield l) #[] #[]] W (Ly w J p pre L):=by
 induction h with
 |leaf=>
  intro m pre W r i _;refine callsIn_of_wp Tryz.func170 rfl trivial ?_ rfl;simp only[Tryz.ntmps170,List.size_toArray,List.length_cons,List.length_nil,Nat.reduceAdd,Nat.reduceSub,Array.replicate_succ,Array.replicate_zero,List.push_toArray,List.append_toArray,List.nil_append,List.cons_append];gi_wp2_with(refine gj rfl ?_);go_ret;exact .inl ⟨rfl,by simpa using r,i⟩
 |@node ad ae nm v g Y ra L R aa ab I x X C D=>
  intro m pre W r i P;have d:∀k:Nat,(Fence.wide.depth.isSome=true→1≤k):=fun k h=>by cases h
  rw[aS,List.length_cons]at P;have n:EJ x=#[Value.pointer (some ⟨g,0,none⟩)]:=by rw[EJ,X]
  have y:∀b,J (pre++L) b→KN w b→YieldAt Fence.wide (m-1) Tryz.prog l #[.pointer (some ⟨g,0,none⟩)] b fun e c=>
    (e= .returned (.bool true)∧J (pre++L++[x]) c∧KN b c)∨(e= .returned (.bool false)∧p (pre++L++[x]) c):=fun b F H=>by
   have:=hY (m-1) (pre++L) x b F H (by simp;omega);rw[n]at this;exact this
  have A:=af ((C (m-1) pre W r i (by omega)).mono (R':=fun e b=>
    (e= .returned (.bool true)∧KN w b∧YieldAt Fence.wide (m-1) Tryz.prog l #[.pointer (some ⟨g,0,none⟩)] b fun e c=>
     (e= .returned (.bool true)∧J (pre++L++[x]) c∧KN b c)∨(e= .returned (.bool false)∧p (pre++L++[x]) c))∨
    (e= .returned (.bool false)∧∃q,q<+:L∧p (pre++q) b))
   (fun e b h=>h.elim (fun⟨he,V,j⟩=> .inl ⟨he,j,y b V j⟩) .inr));have B:=af (fun W r i=>D (m-1) (pre++L++[x]) W r i (by simp;omega));have T:W.cell? ⟨g,0,none⟩=some (.pointer Y):=(i _ _ I).cell 0;have HB:=af I;clear y C D hY P I n;refine callsIn_of_wp Tryz.func170 rfl trivial ?_ rfl;simp only[Tryz.ntmps170,List.size_toArray,List.length_cons,List.length_nil,Nat.reduceAdd,Nat.reduceSub,Array.replicate_succ,Array.replicate_zero,List.push_toArray,List.append_toArray,List.nil_append,List.cons_append];gi_wp2_with((try refine⟨trivial,d _,?_⟩);gi_at_call 170;refine A.out.mono ?_;clear A;rintro e b(⟨rfl,f,fn,tmps,assign,body,ac,Q⟩|⟨rfl,q,n,K⟩))
  ·have o:=af f;have U:b.cell? ⟨g,1,none⟩=some (.pointer ra):=(f _ _ HB.out).cell 1;clear f T;refine⟨d _,?_⟩;refine Q.mono ?_;clear Q;rintro e c(⟨rfl,s,u⟩|⟨rfl,M⟩)
   ·have j:=o.out.trans u;have S:=af j;have E:=af s;have U:c.cell? ⟨g,1,none⟩=some (.pointer ra):=(j _ _ HB.out).cell 1;clear j u s o;gi_wp2_with((try refine⟨trivial,d _,?_⟩);gi_at_call 170;refine(B.out _ E.out S.out).mono ?_;clear B;rintro e Z(⟨rfl,G,hk3⟩|⟨rfl,q,n,O⟩));·go_ret;exact .inl ⟨rfl,by simpa[List.append_assoc]using G,hk3⟩
    ·go_ret;exact .inr ⟨rfl,L++x::q,by
      obtain⟨z,rfl⟩:=n;exact⟨z,by simp⟩,by simpa[List.append_assoc]using O⟩
   ·gi_wp2_with(refine gj rfl ?_);go_ret;exact .inr ⟨rfl,L++[x],by exact⟨R,by simp⟩,by simpa[List.append_assoc]using M⟩
  ·refine⟨fun _ h=>(by cases h),?_⟩;gi_wp2_with(refine gj rfl ?_);go_ret;exact .inr ⟨rfl,q,n.trans (List.prefix_append _ _),K⟩
theorem zX(m B s:Nat)(a:Option Addr)(t:Tr)(w:World)(L:List (pf w))(r:Ord w a t L)(f:aq w B 25 #[.pointer (some ⟨s,0,none⟩)])(i:aq w s 174 #[.pointer a]):
  SeqStopsK Fence.wide m Tryz.prog 169 #[.pointer (some ⟨B,0,none⟩)] (fun x:pf w=>#[Value.pointer (some ⟨x.1.g,0,none⟩)]) KN (fun C=>C=L) (fun pre=>pre<+:L) L.length w:=by
 intro l G n W c _ _ u o;have d:∀k:Nat,(Fence.wide.depth.isSome=true→1≤k):=fun k h=>by cases h
 have j:=Kc l L.length w G n (fun m pre x W v _ y=>YieldAt.jI rfl m (u pre x W v y)) r (m-1) [] W o (KN.below c) (by simp);have E:W.cell? ⟨B,0,none⟩=some (.pointer (some ⟨s,0,none⟩)):=(c.cell (p:=⟨B,0,none⟩) f.lt).trans (f.cell 0);have F:W.cell? ⟨s,0,none⟩=some (.pointer a):=(c.cell (p:=⟨s,0,none⟩) i.lt).trans (i.cell 0);refine callsIn_of_wp Tryz.func169 rfl trivial ?_ rfl;simp only[Tryz.ntmps169,List.size_toArray,List.length_cons,List.length_nil,Nat.reduceAdd,Nat.reduceSub,Array.replicate_succ,Array.replicate_zero,List.push_toArray,List.append_toArray,List.nil_append,List.cons_append];gi_wp2_with((try refine⟨trivial,d _,?_⟩);gi_at_call 170;refine j.mono ?_;clear j;rintro e D(⟨rfl,b,_⟩|⟨rfl,q,z,A⟩));·go_end0;exact⟨⟨_,rfl⟩, .inl ⟨_,rfl,by simpa using b⟩⟩
 ·go_end0;exact⟨⟨_,rfl⟩, .inr ⟨q,z,by simpa using A⟩⟩
end Go.Proofs.YtphjagkehiklkaaGreatDoor
namespace Go.Proofs.YtphjagkehiklkaaGreatDoor
open Go.ChangeShapes Go.WideShapes Go.ChangeAt Go.RowKit
theorem sM:Tryz.prog.cellsOf 3=1:=by kernel_rfl
theorem sN:Tryz.prog.cellsOf 9=1:=by kernel_rfl
theorem vF:Tryz.prog.cellsOf 4=1:=by kernel_rfl
theorem Be:Tryz.prog.cellsOf 245=5:=by kernel_rfl
theorem Gr:Tryz.prog.cellsOf 247=7:=by kernel_rfl
theorem yv:Tryz.prog.cellsOf 189=6:=by kernel_rfl
theorem Eb:Tryz.prog.cellsOf 190=126:=by kernel_rfl
theorem yF:Tryz.prog.globalNamed "replevin/object.usages"=some 0:=by kernel_rfl
theorem Fz:(Tryz.prog.globals[0]?).map (·.type)=some 190:=by kernel_rfl
def iC.datum{H:Type}(u:iC):DataW H:= .agg [.lit (.string u.word.data.toList), .lit (.bool u.owner), .lit (.bool u.number), .lit (.bool u.index), .lit (.bool u.text), .lit (.int .i64 u.aP)]
theorem Jn:(Rows.laid_replevin_object_usages:DataW Unit)= .agg (iP.map iC.datum):=by kernel_rfl
theorem IV{H:Type}{enc:TypeId×Value→H}{w:World}{base:Nat}{sp:Nat→Bool}{held:Bool}{fuel:Nat}{l:List Value}{u:iC}{x:DataW H×List MemPlace}(m:x.1=u.datum)
  (h:DataW.trod enc Tryz.prog w base sp held fuel 189 l=some x):l=u.cells:=by
 obtain⟨s,v,_,rfl,b,c,a⟩:=DataW.trod_struct Tryz.underlying189 h;rw[yv]at b;match l,b with
 |[y,z,A,x3,B,C],_=>
  have g0:=a 0 _ rfl;have g1:=a 1 _ rfl;have g2:=a 2 _ rfl;have g3:=a 3 _ rfl;have g4:=a 4 _ rfl;have g5:=a 5 _ rfl;match s,c with
  |[D,E,F,y3,y4,G],_=>
   simp[sM,sN,vF]at g0 g1 g2 g3 g4 g5;obtain⟨a0,d,rfl,_⟩:=DataW.trod_string Tryz.underlying9 g0;obtain⟨t,e,rfl⟩:=DataW.trod_bool Tryz.underlying4 g1;obtain⟨a2,f,rfl⟩:=DataW.trod_bool Tryz.underlying4 g2;obtain⟨a3,g,rfl⟩:=DataW.trod_bool Tryz.underlying4 g3;obtain⟨a4,i,rfl⟩:=DataW.trod_bool Tryz.underlying4 g4;obtain⟨a5,j,rfl,_⟩:=DataW.trod_int Tryz.underlying3 g5;simp only[List.cons.injEq,and_true]at d e f g i j;subst d e f g i j;simp only[iC.datum,List.map_cons,List.map_nil,DataW.agg.injEq,List.cons.injEq,DataW.lit.injEq,Lit.string.injEq,Lit.bool.injEq,Lit.int.injEq,and_true,true_and]at m;obtain⟨k,n,o,p,q,r⟩:=m;have hw:a0=u.word:=by
    cases a0;cases hu:u.word;rw[hu]at k;simpa[Array.toList_inj]using k
   rw[iC.cells,hw,n,o,p,q,r]
theorem My{W:World}{rest:List (String×DataW Unit)}(h:laidMet Tryz.prog (("replevin/object.usages",Rows.laid_replevin_object_usages)::rest) W):eh W:=by
 obtain⟨z,⟨y,A,cs,fuel,p,q,c,e,b,r,_,_⟩,_⟩:=h;obtain rfl:=Option.some.inj (yF.symm.trans c);obtain rfl:=Option.some.inj (Fz.symm.trans e);obtain⟨xs,m,_,i,w,x,s⟩:=DataW.trod_array Tryz.underlying190 r;rw[Eb]at w;refine⟨fun k u n j v f=>?_⟩;have d:k<21:=by
  have:=(List.getElem?_eq_some_iff.1 n).1;simpa[iP]using this
 have g:=s k d;rw[yv,List.getElem?_eq_getElem (by omega)]at g;have a:(xs[k]).1=u.datum:=by
  rw[Jn]at i;simp only[Prod.mk.injEq,DataW.agg.injEq]at i;have l:=congrArg (·[k]?) i.1;simp only[List.getElem?_map,n,Option.map_some,List.getElem?_eq_getElem (show k<xs.length by omega),Option.some.injEq]at l;exact l.symm
 have o:=IV a g;have t:j<6:=by
  have:=(List.getElem?_eq_some_iff.1 f).1;simpa[iC.cells]using this
 refine World.var?_cell yF b (k*6+j)|>.trans ?_;rw[←o,List.getElem?_take_of_lt t,List.getElem?_drop]at f;simpa using f
end Go.Proofs.YtphjagkehiklkaaGreatDoor
