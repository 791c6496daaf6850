/- Texts. -/
import Derived.LoopIn
import Derived.LoopNIn
import Derived.RangeFuncBound
import Derived.RangeFuncNested
import Derived.Shelf.RegionOpen
import Derived.Test.YtphjagkehiklkaaGreatDoorCards
import Derived.Test.YtphjagkehiklkaaGreatDoorXK03
set_option linter.unusedVariables false
set_option linter.unusedSimpArgs false
set_option maxRecDepth 100000
set_option maxHeartbeats 4000000
namespace Go.Proofs.YtphjagkehiklkaaGreatDoor
open Go.RowKit
def bG(w:World)(v:Value)(e:Ending)(w':World):Prop:=e= .returned v∧w=w'
def aR(p:Prop):Prop:=p
theorem aR.go{p:Prop}(h:aR p):p:=h
theorem j4{P:Program}(w:World)(b:Addr)(ty:TypeId)(cs:List Value)(d:TypeDesc)(f:∀j v,cs[j]? =some v→w.cell? (b.add j)=some v)
  (hu:P.underlying ty=some d)(k:d.isRow=true)(e:(P.info? ty).map (·.size)=some cs.length):(loadVar ty b).run P w= .ok (.agg cs.toArray) w:=by
 have g:(loadCells b cs.length).run P w= .ok cs.toArray w:=run_loadCells_list (P:=P) w b cs f;cases c:P.info? ty with
 |none=>simp[c]at e
 |some i=>
  have h:i.size=cs.length:=by simpa[c]using e
  have a:(isAgg ty).run P w= .ok true w:=by
   unfold isAgg;rw[Sem.run_bind,run_underlying hu w];cases d<;>simp_all
  simp[loadVar,Sem.run_bind,a,sizeOf,typeInfo,c,h,g]
theorem aw{P:Program}{op:Oper}{a:Act}{w:World}{K:Act→World→Prop}{Q:Exit→Act→World→Prop}(ty:TypeId)(x:Operand)(g:op.op= .load ty x)
  (b:Addr)(i:a.eval x= .pointer (some b))(cs:List Value)(d:TypeDesc)(c:∀j v,cs[j]? =some v→w.cell? (b.add j)=some v)
  (hu:P.underlying ty=some d)(e:d.isRow=true)(f:(P.info? ty).map (·.size)=some cs.length)
  (h:K (a.put op.dst (.agg cs.toArray)) w):op.wp P a w K Q:=by
 unfold Oper.wp execOp;simp only[g,i,Instr.loadAt,Instr.sureAddr,Sem.run_bind,Sem.run_pure,Result.andThen_ok,j4 w b ty cs d c hu e f];exact h
theorem aC{P:Program}{ops:Array Oper}{rest:List Oper}{op:Oper}{a:Act}{w:World}{Q:Exit→Act→World→Prop}(c:op.guard=none)(ty:TypeId)(x:Operand)(k:op.op= .load ty x)
  (b:Addr)(l:a.eval x= .pointer (some b))(cs:List Value)(d:TypeDesc)(f:∀j v,cs[j]? =some v→w.cell? (b.add j)=some v)
  (hu:P.underlying ty=some d)(g:d.isRow=true)(i:(P.info? ty).map (·.size)=some cs.length)
  (h:wpList P ops Q rest (a.put op.dst (.agg cs.toArray)) w):wpList P ops Q (op::rest) a w:=
 wpList_plain c fun _ e=>aw ty x k b l cs d f hu g i (e _ _ h)
structure aI where
 kind:Int
 owner:ByteArray
 number:Int
 index:Int
 text:ByteArray
def aI.cells(n:aI):List Value:=[.int .i64 n.kind, .string n.owner, .int .i64 n.number, .int .i64 n.index, .string n.text]
def aI.val(n:aI):Value:= .agg n.cells.toArray
theorem aI.eF(n:aI):n.cells.length=5:=rfl
theorem aT:(Tryz.prog.info? 106).map (·.size)=some 5:=by kernel_rfl
inductive Tr where
 |leaf
 |node(l:Tr)(nm:aI)(v:ByteArray)(r:Tr)
def Tr.cF:Tr→Nat
 | .leaf=>0
 | .node l _ _ r=>1+max l.cF r.cF
def Tr.size:Tr→Nat
 | .leaf=>0
 | .node l _ _ r=>1+l.size+r.size
def Tr.bytes:Tr→Nat
 | .leaf=>0
 | .node l _ v r=>v.size+l.bytes+r.bytes
theorem Tr.jS:∀t:Tr,t.cF≤t.size
 | .leaf=>Nat.le_refl _
 | .node l _ _ r=>by
  have:=l.jS;have:=r.jS;simp only[Tr.cF,Tr.size];omega
def nP(a ra:Option Addr)(t:Tr):List Value:=
 match t with
 | .leaf=>[]
 | .node _ nm v _=>[.pointer a, .pointer ra]++nm.cells++[.string v, .int .i64 (t.cF:Nat), .int .i64 (t.size:Nat), .int .i64 (t.bytes:Nat)]
theorem zD(a ra:Option Addr)(nm:aI)(v:ByteArray)(h z y:Int):
  Tryz.prog.built 177 [(0, .pointer a),(1, .pointer ra),(2, .agg #[.int .i64 nm.kind, .string nm.owner, .int .i64 nm.number, .int .i64 nm.index, .string nm.text]),(3, .string v),(4, .int .i64 h),(5, .int .i64 z),(6, .int .i64 y)]=some #[.pointer a, .pointer ra, .int .i64 nm.kind, .string nm.owner, .int .i64 nm.number, .int .i64 nm.index, .string nm.text, .string v, .int .i64 h, .int .i64 z, .int .i64 y]:=by kernel_rfl
theorem dL{P:Program}{ops:Array Oper}{rest:List Oper}{j:Oper}{a:Act}{w:World}{Q:Exit→Act→World→Prop}(e:j.guard=none)(t:TypeId)(parts:Array (Nat×Operand))(f:j.op= .build t parts)
  (cells:Array Value)(c:List (Nat×Value))(g:(parts.map fun(i,x)=>(i,a.eval x)).toList=c)(b:P.built t c=some cells)(h:wpList P ops Q rest (a.put j.dst (.agg cells)) w):wpList P ops Q (j::rest) a w:=by
 subst g;exact wpList_plain e fun _ d=>wp_build t parts f (by rw[b];rfl) (by rw[b];exact d _ _ h)
def ck(w:World):Option Addr→Tr→Prop
 |a, .leaf=>a=none
 |a, .node l nm v r=>∃g b ra,a=some ⟨g,0,none⟩∧ck w b l∧ck w ra r∧aq w g 177 (nP b ra (.node l nm v r)).toArray
theorem ck.ao{w w':World}:∀{a:Option Addr}{t:Tr},ck w a t→Fr ah w w'→ck w' a t
 |_, .leaf,h,_=>h
 |_, .node _ _ _ _,⟨g,i,ra,e,c,d,f⟩,b=>⟨g,i,ra,e,c.ao b,d.ao b,f.fr b (fun x=>x)⟩
structure Mid(w:World)(g:Nat)(nm:aI)(v:ByteArray):Prop where
 name:∀j x,nm.cells[j]? =some x→w.cell? ⟨g,2+j,none⟩=some x
 val:w.cell? ⟨g,7,none⟩=some (.string v)
theorem Mid.ao{w w':World}{g:Nat}{nm:aI}{v:ByteArray}(h:Mid w g nm v)(a:Fr ah w w'):Mid w' g nm v:=
 ⟨fun j x b=>a.aj (h.name j x b) (fun x=>x),a.aj h.val (fun x=>x)⟩
theorem Mid.of{w:World}{g:Nat}{a b c d e:Value}{nm:aI}{v:ByteArray}(h:aq w g 177 ([a,b]++nm.cells++[.string v,c,d,e]).toArray):Mid w g nm v:=by
 refine⟨fun j x f=>?_,h.cell 7⟩;have i:j<5:=(List.getElem?_eq_some_iff.1 f).1;rw[h.cell,bQ,List.append_assoc,List.getElem?_append_right (by simp),List.getElem?_append_left (by simp[aI.cells];omega)];rw[show 2+j-[a,b].length=j by simp];exact f
theorem ck.jW{w:World}{g:Nat}{l r:Tr}{nm:aI}{v:ByteArray}(h:ck w (some ⟨g,0,none⟩) (.node l nm v r)):Mid w g nm v:=by
 obtain⟨b,c,ra,e,_,_,a⟩:=h;cases e;exact Mid.of a
theorem fp(w:World)(a:Option Addr)(t:Tr)(h:ck w a t):Calls Tryz.prog 181 #[.pointer a] w (bG w (.int .i64 (t.cF:Nat))):=by
 cases t with
 |leaf=>
  obtain rfl:a=none:=h;go_enter Tryz.func181,Tryz.ntmps181;go_wp2;go_ret;exact⟨rfl,rfl⟩
 |node l nm v r=>
  obtain⟨g,d,ra,rfl,_,_,b⟩:=h;have c:w.cell? ⟨g,8,none⟩=some (.int .i64 ((Tr.node l nm v r).cF:Nat)):=b.cell 8;generalize(Tr.node l nm v r).cF=x at*;clear b;go_enter Tryz.func181,Tryz.ntmps181;go_wp2;go_ret;exact⟨rfl,rfl⟩
theorem pe(w:World)(a:Option Addr)(t:Tr)(h:ck w a t):Calls Tryz.prog 137 #[.pointer a] w (bG w (.int .i64 (t.size:Nat))):=by
 cases t with
 |leaf=>
  obtain rfl:a=none:=h;go_enter Tryz.func137,Tryz.ntmps137;go_wp2;go_ret;exact⟨rfl,rfl⟩
 |node l nm v r=>
  obtain⟨g,d,ra,rfl,_,_,b⟩:=h;have c:w.cell? ⟨g,9,none⟩=some (.int .i64 ((Tr.node l nm v r).size:Nat)):=b.cell 9;generalize(Tr.node l nm v r).size=x at*;clear b;go_enter Tryz.func137,Tryz.ntmps137;go_wp2;go_ret;exact⟨rfl,rfl⟩
theorem nt(w:World)(a:Option Addr)(t:Tr)(h:ck w a t):Calls Tryz.prog 138 #[.pointer a] w (bG w (.int .i64 (t.bytes:Nat))):=by
 cases t with
 |leaf=>
  obtain rfl:a=none:=h;go_enter Tryz.func138,Tryz.ntmps138;go_wp2;go_ret;exact⟨rfl,rfl⟩
 |node l nm v r=>
  obtain⟨g,d,ra,rfl,_,_,b⟩:=h;have c:w.cell? ⟨g,10,none⟩=some (.int .i64 ((Tr.node l nm v r).bytes:Nat)):=b.cell 10;generalize(Tr.node l nm v r).bytes=x at*;clear b;go_enter Tryz.func138,Tryz.ntmps138;go_wp2;go_ret;exact⟨rfl,rfl⟩
theorem fw(w:World)(m ra:Option Addr)(l r:Tr)(g:Nat)(nm:aI)(v:ByteArray)(n:ck w m l)(o:ck w ra r)(R:Mid w g nm v)(aS:l.size+r.size≤1048576)(aQ:v.size+l.bytes+r.bytes≤1099511627776):
  Calls Tryz.prog 178 #[.pointer m, .pointer (some ⟨g,0,none⟩), .pointer ra] w (fun e w'=>∃a,e= .returned (.pointer a)∧ck w' a (.node l nm v r)∧Fr ah w w'):=by
 have t:Hid (∀w',Fr ah w w'→Calls Tryz.prog 181 #[.pointer m] w' (bG w' (.int .i64 (l.cF:Nat)))):=fun w' k=>fp w' m l (n.ao k);have y:Hid (∀w',Fr ah w w'→Calls Tryz.prog 181 #[.pointer ra] w' (bG w' (.int .i64 (r.cF:Nat)))):=fun w' k=>fp w' ra r (o.ao k);have z:Hid (∀w',Fr ah w w'→Calls Tryz.prog 137 #[.pointer m] w' (bG w' (.int .i64 (l.size:Nat)))):=fun w' k=>pe w' m l (n.ao k);have A:Hid (∀w',Fr ah w w'→Calls Tryz.prog 137 #[.pointer ra] w' (bG w' (.int .i64 (r.size:Nat)))):=fun w' k=>pe w' ra r (o.ao k);have q:Hid (∀w',Fr ah w w'→Calls Tryz.prog 138 #[.pointer m] w' (bG w' (.int .i64 (l.bytes:Nat)))):=fun w' k=>nt w' m l (n.ao k);have s:Hid (∀w',Fr ah w w'→Calls Tryz.prog 138 #[.pointer ra] w' (bG w' (.int .i64 (r.bytes:Nat)))):=fun w' k=>nt w' ra r (o.ao k);have Y:=af R;have D:=l.jS;have E:=r.jS;have X:Hid (∀w' W,Fr ah w w'→aq w' W 177 (nP m ra (.node l nm v r)).toArray→ck w' (some ⟨W,0,none⟩) (.node l nm v r)):=fun w' W k bb=>⟨W,m,ra,rfl,n.ao k,o.ao k,bb⟩;have p:Hid (nP m ra (.node l nm v r)=[.pointer m, .pointer ra]++nm.cells++[.string v, .int .i64 ((1+max l.cF r.cF:Nat):Int), .int .i64 ((1+l.size+r.size:Nat):Int), .int .i64 ((v.size+l.bytes+r.bytes:Nat):Int)]):=rfl;generalize nP m ra (.node l nm v r)=B at*;obtain⟨H,N⟩:∃H,H=l.cF:=⟨_,rfl⟩;obtain⟨I,O⟩:∃I,I=r.cF:=⟨_,rfl⟩;obtain⟨J,P⟩:∃J,J=l.size:=⟨_,rfl⟩;obtain⟨K,Q⟩:∃K,K=r.size:=⟨_,rfl⟩;obtain⟨F,L⟩:∃F,F=l.bytes:=⟨_,rfl⟩;obtain⟨G,M⟩:∃G,G=r.bytes:=⟨_,rfl⟩;rw[←N]at t D p;rw[←O]at y E p;rw[←P]at z aS D p;rw[←Q]at A aS E p;rw[←L]at q aQ p;rw[←M]at s aQ p;obtain⟨hm,ad⟩:∃hm:Nat,max (H:Int) (I:Int)=(hm:Int):=⟨max H I,by omega⟩;obtain⟨C,ac⟩:∃C:Nat,(1:Int)+(hm:Int)=(C:Int):=⟨1+hm,by omega⟩;obtain⟨s1,ae⟩:∃s1:Nat,(1:Int)+(J:Int)=(s1:Int):=⟨1+J,by omega⟩;obtain⟨s2,ak⟩:∃s2:Nat,(s1:Int)+(K:Int)=(s2:Int):=⟨s1+K,by omega⟩;obtain⟨b1,aa⟩:∃b1:Nat,(v.size:Int)+(F:Int)=(b1:Int):=⟨v.size+F,by omega⟩;obtain⟨b2,ab⟩:∃b2:Nat,(b1:Int)+(G:Int)=(b2:Int):=⟨b1+G,by omega⟩;have be:IntKind.i64.wrap (C:Int)=(C:Int):=IntWalk.i64_in _ (by omega);have aW:IntKind.i64.wrap (s1:Int)=(s1:Int):=IntWalk.i64_in _ (by omega);have aX:IntKind.i64.wrap (s2:Int)=(s2:Int):=IntWalk.i64_in _ (by omega);have aU:IntKind.i64.wrap (b1:Int)=(b1:Int):=IntWalk.i64_in _ (by omega);have aV:IntKind.i64.wrap (b2:Int)=(b2:Int):=IntWalk.i64_in _ (by omega);rw[show(1+max H I:Nat)=C by omega,show(1+J+K:Nat)=s2 by omega,show v.size+F+G=b2 by omega]at p;have a3:Hid (Tryz.prog.built 177 [(0, .pointer m),(1, .pointer ra),(2, .agg nm.cells.toArray),(3, .string v),(4, .int .i64 (C:Nat)),(5, .int .i64 (s2:Nat)),(6, .int .i64 (b2:Nat))]=some B.toArray):=by rw[p.out];exact zD m ra nm v _ _ _
 clear n o R N O P Q L M D E aS aQ;go_enter Tryz.func178,Tryz.ntmps178;go_upto_region 1 with fail;refine ay 33 ah [Is (.pointer m),Is (.pointer ra),Is (.pointer (some ⟨g,0,none⟩)),Is (.pointer (some ⟨g,0,none⟩)),Is (.pointer (some ⟨g,2,none⟩)),Is (.agg nm.cells.toArray),Is (.pointer (some ⟨g,0,none⟩)),Is (.pointer (some ⟨g,0,none⟩)),Is (.pointer (some ⟨g,7,none⟩)),Is (.string v),Is (.pointer m),Is (.int .i64 H),Is (.pointer ra),Is (.int .i64 I),Is (.int .i64 hm),Is (.int .i64 C),Is (.pointer m),Is (.int .i64 J),Is (.int .i64 s1),Is (.pointer ra),Is (.int .i64 K),Is (.int .i64 s2),Is (.pointer (some ⟨g,0,none⟩)),Is (.pointer (some ⟨g,0,none⟩)),Is (.pointer (some ⟨g,7,none⟩)),Is (.string v),Is (.int .i64 v.size),Is (.pointer m),Is (.int .i64 F),Is (.int .i64 b1),Is (.pointer ra),Is (.int .i64 G),Is (.int .i64 b2)] [] (fun _=>True) (fun _ _=>false) (by kernel_rfl) (by kernel_rfl) (by kernel_rfl) (by kernel_rfl) ⟨Is.ag _,Is.ag _,Is.ag _,Is.ag _,Is.ag _,Is.ag _,Is.ag _,Is.ag _,Is.ag _,Is.ag _,Is.ag _,Is.ag _,Is.ag _,Is.ag _,Is.ag _,Is.ag _,Is.ag _,Is.ag _,Is.ag _,Is.ag _,Is.ag _,Is.ag _,Is.ag _,Is.ag _,Is.ag _,Is.ag _,Is.ag _,Is.ag _,Is.ag _,Is.ag _,Is.ag _,Is.ag _,Is.ag _,trivial⟩ trivial (fun _ _ _ _ h=>h) trivial ?_ ?_
 ·refine⟨?_,?_,?_,?_,?_,?_,?_,?_,?_,?_,?_,?_,?_,?_,?_,?_,?_,?_,?_,?_,?_,?_,?_,?_,?_,?_,?_,?_,?_,?_,?_,?_,?_,trivial⟩;all_goals intro u w' d k b f c i
  all_goals simp only[bm,bp,bw,bC,ar,Act.put,bD,bE,bF,Nat.reduceAdd,Nat.zero_add]
  ·clear b f c i;refine ai ?_;go_simp;exact⟨_,rfl,al⟩
  ·clear b f c i;refine ai ?_;go_simp;exact⟨_,rfl,al⟩
  ·clear b f c i;refine ai ?_;go_simp;exact⟨_,rfl,al⟩
  ·have a5:u 2=_:=b 2;clear b f c i;simp only[a5];refine ai ?_;go_simp;exact⟨_,rfl,al⟩
  ·have a6:u 3=_:=b 3;clear b f c i;simp only[a6];refine ai ?_;go_simp;exact⟨_,rfl,al⟩
  ·have a7:u 4=_:=b 4;clear b f c i;simp only[a7];refine ai ?_;exact aw _ _ rfl ⟨g,2,none⟩ rfl nm.cells _ (fun j x bd=>by rw[Addr.add_mid];exact k.aj (Y.out.name j x bd) (fun x=>x)) Tryz.underlying106 rfl aT ⟨_,rfl,al⟩
  ·clear b f c i;refine ai ?_;go_simp;exact⟨_,rfl,al⟩
  ·have a8:u 6=_:=b 6;clear b f c i;simp only[a8];refine ai ?_;go_simp;exact⟨_,rfl,al⟩
  ·have a9:u 7=_:=b 7;clear b f c i;simp only[a9];refine ai ?_;go_simp;exact⟨_,rfl,al⟩
  ·have ba:u 8=_:=b 8;clear b f c i;simp only[ba];refine ai ?_;have bc:w'.cell? ⟨g,7,none⟩=some (.string v):=k.aj Y.out.val (fun x=>x);go_simp;exact⟨_,rfl,al⟩
  ·clear b f c i;refine ai ?_;go_simp;exact⟨_,rfl,al⟩
  ·have am:u 10=_:=b 10;clear b f c i;simp only[am];refine ai ?_;go_simp;refine(t.out _ k).mono ?_;rintro e V⟨rfl,rfl⟩;exact⟨_,rfl,al⟩
  ·clear b f c i;refine ai ?_;go_simp;exact⟨_,rfl,al⟩
  ·have ap:u 12=_:=b 12;clear b f c i;simp only[ap];refine ai ?_;go_simp;refine(y.out _ k).mono ?_;rintro e V⟨rfl,rfl⟩;exact⟨_,rfl,al⟩
  ·have an:u 11=_:=b 11;have au:u 13=_:=b 13;clear b f c i;simp only[an,au];refine ai ?_;go_simp;exact⟨_,rfl,al⟩
  ·have av:u 14=_:=b 14;clear b f c i;simp only[av];refine ai ?_;go_simp;exact⟨_,rfl,al⟩
  ·clear b f c i;refine ai ?_;go_simp;exact⟨_,rfl,al⟩
  ·have ax:u 16=_:=b 16;clear b f c i;simp only[ax];refine ai ?_;go_simp;refine(z.out _ k).mono ?_;rintro e V⟨rfl,rfl⟩;exact⟨_,rfl,al⟩
  ·have az:u 17=_:=b 17;clear b f c i;simp only[az];refine ai ?_;go_simp;exact⟨_,rfl,al⟩
  ·clear b f c i;refine ai ?_;go_simp;exact⟨_,rfl,al⟩
  ·have aC:u 19=_:=b 19;clear b f c i;simp only[aC];refine ai ?_;go_simp;refine(A.out _ k).mono ?_;rintro e V⟨rfl,rfl⟩;exact⟨_,rfl,al⟩
  ·have aA:u 18=_:=b 18;have aE:u 20=_:=b 20;clear b f c i;simp only[aA,aE];refine ai ?_;go_simp;exact⟨_,rfl,al⟩
  ·clear b f c i;refine ai ?_;go_simp;exact⟨_,rfl,al⟩
  ·have aF:u 22=_:=b 22;clear b f c i;simp only[aF];refine ai ?_;go_simp;exact⟨_,rfl,al⟩
  ·have aG:u 23=_:=b 23;clear b f c i;simp only[aG];refine ai ?_;go_simp;exact⟨_,rfl,al⟩
  ·have aH:u 24=_:=b 24;clear b f c i;simp only[aH];refine ai ?_;have bc:w'.cell? ⟨g,7,none⟩=some (.string v):=k.aj Y.out.val (fun x=>x);go_simp;exact⟨_,rfl,al⟩
  ·have aJ:u 25=_:=b 25;clear b f c i;simp only[aJ];refine ai ?_;go_simp;exact⟨_,rfl,al⟩
  ·clear b f c i;refine ai ?_;go_simp;exact⟨_,rfl,al⟩
  ·have aL:u 27=_:=b 27;clear b f c i;simp only[aL];refine ai ?_;go_simp;refine(q.out _ k).mono ?_;rintro e V⟨rfl,rfl⟩;exact⟨_,rfl,al⟩
  ·have aK:u 26=_:=b 26;have aM:u 28=_:=b 28;clear b f c i;simp only[aK,aM];refine ai ?_;go_simp;exact⟨_,rfl,al⟩
  ·clear b f c i;refine ai ?_;go_simp;exact⟨_,rfl,al⟩
  ·have aO:u 30=_:=b 30;clear b f c i;simp only[aO];refine ai ?_;go_simp;refine(s.out _ k).mono ?_;rintro e V⟨rfl,rfl⟩;exact⟨_,rfl,al⟩
  ·have aN:u 29=_:=b 29;have aP:u 31=_:=b 31;clear b f c i;simp only[aN,aP];refine ai ?_;go_simp;exact⟨_,rfl,al⟩
 ·intro u w' k b i;have c:u 0=_:=b 0 (by omega);have f:u 1=_:=b 1 (by omega);have a0:u 5=_:=b 5 (by omega);have a1:u 9=_:=b 9 (by omega);have S:u 15=_:=b 15 (by omega);have T:u 21=_:=b 21 (by omega);have U:u 32=_:=b 32 (by omega);clear b i;simp only[bm,bp,bw,bC,ar,Act.put,bD,bE,bF,cZ,da,Nat.reduceAdd,Nat.zero_add,c,f,a0,a1,S,T,U];have aY:=af k;clear k c f a0 a1 S T U ad ac ae ak aa ab be aW aX aU aV t y z A q s;go_wp2_with(refine dL rfl 177 _ rfl B.toArray _ (by simp only[List.map_toArray,List.map_cons,List.map_nil];rfl) a3.out (aR.go ?hold));unfold aR;go_wp2_with(refine aB rfl 177 (.tmp 40) rfl B.toArray rfl ?_);intro w2 a2;have Z:=af a2;clear a2;generalize aZ:w'.heap.size=g2 at*;have a4:=af aZ;clear aZ;go_wp2;go_ret;exact⟨_,rfl,X.out w2 g2 (aY.out.trans Z.out.fr) (by have h:=Z.out.aD;rw[a4.out]at h;exact h),aY.out.trans Z.out.fr⟩
theorem uV(a:Int)(w:World):Calls Tryz.prog 164 #[.int .i64 a] w (bG w (.bool false)):=by
 go_enter Tryz.func164,Tryz.ntmps164;go_wp2;go_ret;exact⟨rfl,rfl⟩
def Ev(a b:Int):Int:=if a<b then-1 else if b<a then 1 else 0
theorem iy(a b:Int)(w:World):Calls Tryz.prog 133 #[.int .i64 a, .int .i64 b] w (bG w (.int .i64 (Ev a b))):=by
 have f:=af (fun w=>uV a w);have g:=af (fun w=>uV b w);unfold Ev;by_cases c:a<b;·rw[if_pos c];have t1:decide (a<b)=true:=decide_eq_true c;clear c;go_enter Tryz.func133,Tryz.ntmps133;go_wp2_with fail;refine(f.out _).mono ?_;rintro e w'⟨rfl,rfl⟩;go_wp2_with fail;refine(g.out _).mono ?_;rintro e w'⟨rfl,rfl⟩;go_wp2;go_ret;exact⟨rfl,rfl⟩
 ·rw[if_neg c];have t1:decide (a<b)=false:=decide_eq_false c;by_cases d:b<a;·rw[if_pos d];have t2:decide (b<a)=true:=decide_eq_true d;clear c d;go_enter Tryz.func133,Tryz.ntmps133;go_wp2_with fail;refine(f.out _).mono ?_;rintro e w'⟨rfl,rfl⟩;go_wp2_with fail;refine(g.out _).mono ?_;rintro e w'⟨rfl,rfl⟩;go_wp2;go_ret;exact⟨rfl,rfl⟩
  ·rw[if_neg d];have t2:decide (b<a)=false:=decide_eq_false d;go_enter Tryz.func133,Tryz.ntmps133;go_wp2_with fail;refine(f.out _).mono ?_;rintro e w'⟨rfl,rfl⟩;go_wp2_with fail;refine(g.out _).mono ?_;rintro e w'⟨rfl,rfl⟩;go_wp2;go_ret;exact⟨rfl,rfl⟩
theorem Dd(a:ByteArray)(w:World):Calls Tryz.prog 176 #[.string a] w (bG w (.bool false)):=by
 go_enter Tryz.func176,Tryz.ntmps176;go_wp2;go_ret;exact⟨rfl,rfl⟩
theorem oX(a:ByteArray)(w:World):Calls Tryz.prog 134 #[.string a, .string a] w (bG w (.int .i64 0)):=by
 go_enter Tryz.func134,Tryz.ntmps134;go_wp2;go_ret;exact⟨rfl,rfl⟩
def nF:aI:=⟨15,ByteArray.empty,0,0,ByteArray.empty⟩
def kS:Array Value:=#[.int .i64 15, .string ByteArray.empty, .int .i64 0, .int .i64 0, .string ByteArray.empty]
def sf:Value:= .agg #[.int .i64 0, .string ByteArray.empty, .int .i64 0, .int .i64 0, .string ByteArray.empty]
theorem EY(w:World):(zeroValue 106).run Tryz.prog w= .ok sf w:=by kernel_rfl
theorem zB:Tryz.prog.built 106 [(0, .int .i64 15)]=some kS:=by kernel_rfl
theorem Cq:kS.all (·.oneCell')=true:=by kernel_rfl
theorem qQ(w:World):Calls Tryz.prog 54 #[] w (aK w (.agg kS)):=by
 have B:=af zB;have O:=af Cq;have j:Hid ((Tryz.prog.info? 106).map (·.size)=some kS.size):=aT;have Z:Hid ((#[.int .i64 0, .string ByteArray.empty, .int .i64 0, .int .i64 0, .string ByteArray.empty]:Array Value).size=kS.size):=rfl;generalize kS=a at*;go_enter Tryz.func54,Tryz.ntmps54;go_wp2_with(refine an rfl 106 rfl sf EY #[.int .i64 0, .string ByteArray.empty, .int .i64 0, .int .i64 0, .string ByteArray.empty] rfl ?_);intro w1 n1;have b:=af n1;clear n1;go_wp2_with(refine dL rfl 106 #[(0, .const (.int .i64 15))] rfl a _ (by simp only[List.map_toArray,List.map_cons,List.map_nil];rfl) B.out (aR.go ?hold));unfold aR;refine ak rfl 106 (.tmp 0) _ rfl w.heap.size a rfl rfl _ _ b.out.aD j.out Z.out O.out ?_;intro c b5 f5;have d:=af b5;have f:Hid (Fr ah w c):=b.out.fr.au f5 (fun i h e=>by have g:i=w.heap.size:=e;omega);clear b5 f5;go_wp2;exact bodyPost_ret (results_cell_row (fn:=Tryz.f54) (p:=0) (ty:=106) Tryz.results54 _ c _ 106 a (0,0) _ rfl d.out Tryz.underlying106 rfl j.out) rfl ⟨rfl,f.out⟩
theorem rZ(n nm:aI)(v:ByteArray)(l r:Tr)(g:Nat)(w:World)(t:ck w (some ⟨g,0,none⟩) (.node l nm v r))
  (s:∀w',Fr ah w w'→Calls Tryz.prog 128 #[.agg n.cells.toArray, .agg nm.cells.toArray] w' (aK w' (.int .i64 0))):
  Calls Tryz.prog 108 #[.pointer (some ⟨g,0,none⟩), .agg n.cells.toArray] w (aK w (.pointer (some ⟨g,0,none⟩))):=by
 have y:=af s;have o:=af t.jW;clear s t;go_enter Tryz.func108,Tryz.ntmps108;go_wp2_with(refine aB rfl 106 (.tmp 1) rfl n.cells.toArray rfl ?_);intro w1 n1;have m:=af n1.fr;have k:=af n1.aD;clear n1;generalize w.heap.size=q at*;have B:Hid (aq w1 q 106 n.cells.toArray):=k.out;clear k;have A:=af (o.out.ao m.out);go_wp2;refine wp_loop_rounds 1 ?_;rw[rounds_succ];go_upto_region 2 with fail;refine ay 7 ah [Is (.agg n.cells.toArray),Is (.pointer (some ⟨g,0,none⟩)),Is (.pointer (some ⟨g,0,none⟩)),Is (.pointer (some ⟨g,2,none⟩)),Is (.agg nm.cells.toArray),Is (.int .i64 0),Is (.int .i64 0)] [] (fun _=>True) (fun _ _=>false) (by kernel_rfl) (by kernel_rfl) (by kernel_rfl) (by kernel_rfl) ⟨Is.ag _,Is.ag _,Is.ag _,Is.ag _,Is.ag _,Is.ag _,Is.ag _,trivial⟩ trivial (fun _ _ _ _ h=>h) trivial ?_ ?_
 ·refine⟨?_,?_,?_,?_,?_,?_,?_,trivial⟩;all_goals intro u w' d i a f c b
  all_goals simp only[bm,bp,bw,bC,ar,Act.put,bD,bE,bF,Nat.reduceAdd,Nat.zero_add]
  ·clear a f c b;refine ai ?_;exact aw _ _ rfl ⟨q,0,none⟩ rfl n.cells _ (fun j x p=>by rw[Addr.add_mid,Nat.zero_add];exact(B.out.fr i (fun x=>x)).cell j|>.trans (by rw[bQ];exact p)) Tryz.underlying106 rfl aT ⟨_,rfl,al⟩
  ·clear a f c b;refine ai ?_;go_simp;exact⟨_,rfl,al⟩
  ·have D:u 1=_:=a 1;clear a f c b;simp only[D];refine ai ?_;go_simp;exact⟨_,rfl,al⟩
  ·have E:u 2=_:=a 2;clear a f c b;simp only[E];refine ai ?_;go_simp;exact⟨_,rfl,al⟩
  ·have F:u 3=_:=a 3;clear a f c b;simp only[F];refine ai ?_;exact aw _ _ rfl ⟨g,2,none⟩ rfl nm.cells _ (fun j x p=>by rw[Addr.add_mid];exact i.aj (A.out.name j x p) (fun x=>x)) Tryz.underlying106 rfl aT ⟨_,rfl,al⟩
  ·have C:u 0=_:=a 0;have G:u 4=_:=a 4;clear a f c b;simp only[C,G];refine ai ?_;go_simp;refine(y.out _ (m.out.trans i)).mono ?_;rintro e I⟨rfl,f4⟩;exact⟨_,rfl,f4.bJ,rfl,trivial⟩
  ·have H:u 5=_:=a 5;clear a f c b;simp only[H];refine ai ?_;go_simp;exact⟨_,rfl,al⟩
 ·intro u w' i a b;have k6:u 6=_:=a 6 (by omega);clear a b;simp only[bm,bp,bw,bC,ar,Act.put,bD,bE,bF,cZ,da,Nat.reduceAdd,Nat.zero_add,k6];have z:=af (m.out.trans i);clear i k6;go_wp2;go_ret;exact⟨rfl,z.out⟩
theorem Ed(nm:aI)(v:ByteArray)(g:Nat)(w:World)(c:Mid w g nm v)(h:v.size≤1099511627776):
  Calls Tryz.prog 163 #[.pointer none, .pointer (some ⟨g,0,none⟩)] w (fun e w'=>∃a,e= .returned (.pointer a)∧ck w' a (.node .leaf nm v .leaf)∧Fr ah w w'):=by
 have d:=af (fw w none none .leaf .leaf g nm v rfl rfl c (by simp[Tr.size]) (by simp only[Tr.bytes];omega));clear c;go_enter Tryz.func163,Tryz.ntmps163;go_wp2_with fail;refine d.out.mono ?_;rintro e w1⟨a,rfl,b,f1⟩;have H1:=af b;have f:=af f1;clear b f1;go_wp2;go_ret;exact⟨_,rfl,H1.out,f.out⟩
def str(l:List UInt8):ByteArray:=⟨l.toArray⟩
structure gX where
 word:ByteArray
 owner:Bool
 number:Bool
 index:Bool
 text:Bool
 aP:Int
def gX.cells(u:gX):List Value:=[.string u.word, .bool u.owner, .bool u.number, .bool u.index, .bool u.text, .int .i64 u.aP]
def ik:List gX:=[
 ⟨str [],false,false,false,false,0⟩,
 ⟨str [112,114,111,99,101,115,115],true,false,false,false,0⟩,
 ⟨str [114,101,103,105,115,116,101,114,115],true,false,false,false,0⟩,
 ⟨str [112,97,103,101],true,false,true,false,63⟩,
 ⟨str [116,97,98,108,101],true,false,false,false,0⟩,
 ⟨str [99,111,117,110,116,101,114],true,false,false,false,0⟩,
 ⟨str [112,101,110,100,105,110,103],true,false,false,false,0⟩,
 ⟨str [110,111,100,101],true,true,false,false,0⟩,
 ⟨str [98,108,111,99,107],true,true,true,false,63⟩,
 ⟨str [101,110,116,114,121],true,true,false,true,0⟩,
 ⟨str [108,105,115,116,105,110,103],true,true,false,false,0⟩,
 ⟨str [112,105,112,101],true,true,false,false,0⟩,
 ⟨str [108,111,99,107],true,true,false,false,0⟩,
 ⟨str [116,101,114,109,105,110,97,108],false,true,false,false,0⟩,
 ⟨str [97,99,99,111,117,110,116],false,false,false,true,0⟩,
 ⟨str [99,108,111,99,107],false,false,false,false,0⟩,
 ⟨str [112,111,114,116],false,true,false,false,0⟩,
 ⟨str [98,111,120],false,false,false,true,0⟩,
 ⟨str [111,117,116],true,true,true,false,1073741824⟩,
 ⟨str [115,104,101,108,108],true,false,false,false,0⟩,
 ⟨str [101,112,111,99,104],false,false,false,false,0⟩]
def Hc:List Value:=[.string (str [99,108,111,99,107]), .bool false, .bool false, .bool false, .bool false, .int .i64 0]
structure ed(w:World):Prop where
 row:∀k u,ik[k]? =some u→∀j v,u.cells[j]? =some v→w.cell? ⟨0,k*6+j,none⟩=some v
theorem ed.ao{w w':World}(h:ed w)(a:Fr ah w w'):ed w':=⟨fun k u b j v c=>a.aj (h.row k u b j v c) (fun x=>x)⟩
theorem ed.clock{w:World}(h:ed w):∀j v,Hc[j]? =some v→w.cell? ⟨0,90+j,none⟩=some v:=fun j v a=>h.row 15 _ rfl j v a
def ET:Value:= .agg #[.string ByteArray.empty, .bool false, .bool false, .bool false, .bool false, .int .i64 0]
theorem vX(w:World):(zeroValue 189).run Tryz.prog w= .ok ET w:=by kernel_rfl
theorem jT:(Tryz.prog.info? 189).map (·.size)=some 6:=by kernel_rfl
def wA(w:World)(s:Nat)(t:Tr):Prop:=∃a,aq w s 174 #[.pointer a]∧ck w a t
theorem wA.ao{w w':World}{s:Nat}{t:Tr}(h:wA w s t)(b:Fr ah w w'):wA w' s t:=by
 obtain⟨a,c,d⟩:=h;exact⟨a,c.fr b (fun x=>x),d.ao b⟩
theorem gR{P:Program}{f:Oper}{a:Act}{w:World}{K:Act→World→Prop}{Q:Exit→Act→World→Prop}(t:TypeId)(parts:Array (Nat×Operand))(d:f.op= .build t parts)
  (cells:Array Value)(c:List (Nat×Value))(e:(parts.map fun(i,x)=>(i,a.eval x)).toList=c)(b:P.built t c=some cells)(h:K (a.put f.dst (.agg cells)) w):f.wp P a w K Q:=by
 subst e;exact wp_build t parts d (by rw[b];rfl) (by rw[b];exact h)
theorem qO(w:World):Calls Tryz.prog 52 #[] w (fun e w'=>∃s,e= .returned (.pointer (some ⟨s,0,none⟩))∧wA w' s .leaf∧Fr ah w w'):=by
 go_enter Tryz.func52,Tryz.ntmps52;go_wp2_with(refine aB rfl 174 (.tmp 1) rfl #[.pointer none] rfl ?_);intro w1 n1;have a:=af n1;clear n1;go_wp2;go_ret;exact⟨_,rfl,⟨none,a.out.aD,rfl⟩,a.out.fr⟩
theorem oD(w:World)(s:Nat)(t:Tr)(h:wA w s t):Calls Tryz.prog 94 #[.pointer (some ⟨s,0,none⟩)] w (bG w (.int .i64 (t.size:Nat))):=by
 obtain⟨a,b,d⟩:=h;have f:=af (pe w a t d);have c:w.cell? ⟨s,0,none⟩=some (.pointer a):=b.cell 0;clear b d;go_enter Tryz.func94,Tryz.ntmps94;go_wp2_with fail;refine f.out.mono ?_;rintro e w'⟨rfl,rfl⟩;go_wp2;go_ret;exact⟨rfl,rfl⟩
theorem tY(w:World)(s:Nat)(t:Tr)(h:wA w s t):Calls Tryz.prog 95 #[.pointer (some ⟨s,0,none⟩)] w (bG w (.int .i64 (t.bytes:Nat))):=by
 obtain⟨a,b,d⟩:=h;have f:=af (nt w a t d);have c:w.cell? ⟨s,0,none⟩=some (.pointer a):=b.cell 0;clear b d;go_enter Tryz.func95,Tryz.ntmps95;go_wp2_with fail;refine f.out.mono ?_;rintro e w'⟨rfl,rfl⟩;go_wp2;go_ret;exact⟨rfl,rfl⟩
theorem aM{P:Program}{ops:Array Oper}{rest:List Oper}{u:Oper}{a:Act}{w:World}{Q:Exit→Act→World→Prop}(j:u.guard=none)(ty:TypeId)(x y:Operand)(p:u.op= .store ty x y)
  (g f:Nat)(v:Value)(r:a.eval x= .pointer (some ⟨g,f,none⟩))(s:a.eval y=v)(m:v.oneCell'=true)(d:(P.info? ty).map (·.size)=some 1)
  (t:TypeId)(cs cs':Array Value)(e:aq w g t cs)(o:f<cs.size)(i:cs.setIfInBounds f v=cs')
  (h:∀w',aq w' g t cs'→Fr (fun k=>k=g) w w'→wpList P ops Q rest (a.put u.dst undef) w'):wpList P ops Q (u::rest) a w:=by
 subst i;obtain⟨b,l,q⟩:∃b,P.info? ty=some b∧b.size=1:=by
  cases he:P.info? ty with
  |none=>rw[he]at d;cases d
  |some b=>rw[he]at d;exact⟨b,rfl,by simpa using d⟩
 have c:=Lib.rl_storeVar_one (P:=P) ty b l q ⟨g,f,none⟩ v (cs[f]) m w (by rw[e.cell];simp[o]) (e.frozen _);refine wpList_plain j fun K n=>?_;unfold Oper.wp execOp;simp only[p,r,s,Instr.storeAt,Instr.sureAddr,Sem.run_bind,Sem.run_pure,Result.andThen_ok,c];exact n _ _ (h _ (e.jM f v) (Fr.setCell (T:=fun k=>k=g) (Fr.refl _ w) (fun _=>rfl) v))
theorem lh{P:Program}{r:Oper}{a:Act}{w:World}{K:Act→World→Prop}{Q:Exit→Act→World→Prop}(ty:TypeId)(x y:Operand)(n:r.op= .store ty x y)
  (g f:Nat)(v:Value)(p:a.eval x= .pointer (some ⟨g,f,none⟩))(q:a.eval y=v)(l:v.oneCell'=true)(d:(P.info? ty).map (·.size)=some 1)
  (t:TypeId)(cs cs':Array Value)(e:aq w g t cs)(m:f<cs.size)(i:cs.setIfInBounds f v=cs')
  (h:∀w',aq w' g t cs'→Fr (fun k=>k=g) w w'→K (a.put r.dst undef) w'):r.wp P a w K Q:=by
 subst i;obtain⟨b,j,o⟩:∃b,P.info? ty=some b∧b.size=1:=by
  cases he:P.info? ty with
  |none=>rw[he]at d;cases d
  |some b=>rw[he]at d;exact⟨b,rfl,by simpa using d⟩
 have c:=Lib.rl_storeVar_one (P:=P) ty b j o ⟨g,f,none⟩ v (cs[f]) l w (by rw[e.cell];simp[m]) (e.frozen _);unfold Oper.wp execOp;simp only[n,p,q,Instr.storeAt,Instr.sureAddr,Sem.run_bind,Sem.run_pure,Result.andThen_ok,c];exact h _ (e.jM f v) (Fr.setCell (T:=fun k=>k=g) (Fr.refl _ w) (fun _=>rfl) v)
structure CV where
 nm:aI
 value:ByteArray
 bH:Bool
def CV.cells(c:CV):List Value:=c.nm.cells++[.string c.value, .bool c.bH]
theorem CV.eF(c:CV):c.cells.length=7:=rfl
def xg(s:ByteArray)(k:Int):ByteArray:=s.extract 0 (min (s.size:Int) k).toNat
def CV.cut(c:CV):CV:=⟨⟨c.nm.kind,xg c.nm.owner 100,c.nm.number,c.nm.index,xg c.nm.text 100⟩,xg c.value 200,c.bH⟩
theorem Db:(Tryz.prog.info? 247).map (·.size)=some 7:=by kernel_rfl
theorem jC:(Tryz.prog.info? 119).map (·.size)=some 7:=by kernel_rfl
theorem oW:(Tryz.prog.info? 9).map (·.size)=some 1:=by kernel_rfl
theorem CV.one(c:CV):c.cells.toArray.all (·.oneCell')=true:=by
 simp[CV.cells,aI.cells,Value.oneCell']
theorem aI.one(n:aI):n.cells.toArray.all (·.oneCell')=true:=by
 simp[aI.cells,Value.oneCell']
theorem Cl(n:aI):Tryz.prog.built 106 [(0, .int .i64 n.kind),(1, .string n.owner),(2, .int .i64 n.number),(3, .int .i64 n.index),(4, .string n.text)]=some n.cells.toArray:=by kernel_rfl
theorem Hy(n:aI)(w:World):Calls Tryz.prog 160 #[.agg n.cells.toArray] w (aK w (.agg n.cells.toArray)):=by
 have B:=af (Cl n);have O:=af n.one;have E:Hid ((Tryz.prog.info? 106).map (·.size)=some n.cells.toArray.size):=aT;have Z:Hid ((#[.int .i64 0, .string ByteArray.empty, .int .i64 0, .int .i64 0, .string ByteArray.empty]:Array Value).size=n.cells.toArray.size):=rfl;go_enter Tryz.func160,Tryz.ntmps160;go_wp2_with(refine aB rfl 245 (.tmp 0) rfl n.cells.toArray rfl ?_);intro w1 n1;have j:=af n1.fr;have k:=af n1.aD;clear n1;generalize w.heap.size=c at*;go_wp2_with(refine an rfl 106 rfl sf EY #[.int .i64 0, .string ByteArray.empty, .int .i64 0, .int .i64 0, .string ByteArray.empty] rfl ?_);intro w2 m;have f:=af m;clear m;have q:=af (j.out.trans f.out.fr);have a:=af (k.out.fr f.out.fr (fun x=>x));generalize d:w1.heap.size=g at*;have b:=af d;clear d;have l:Hid (aq w2 g 106 #[.int .i64 0, .string ByteArray.empty, .int .i64 0, .int .i64 0, .string ByteArray.empty]):=by have h:=f.out.aD;rw[b.out]at h;exact h
 have t:w2.cell? ⟨c,0,none⟩=some (.int .i64 n.kind):=a.out.cell 0;have u:w2.cell? ⟨c,1,none⟩=some (.string n.owner):=a.out.cell 1;have v:w2.cell? ⟨c,2,none⟩=some (.int .i64 n.number):=a.out.cell 2;have c3:w2.cell? ⟨c,3,none⟩=some (.int .i64 n.index):=a.out.cell 3;have y:w2.cell? ⟨c,4,none⟩=some (.string n.text):=a.out.cell 4;clear k;go_wp2_with(refine dL rfl 106 _ rfl n.cells.toArray _ (by simp only[List.map_toArray,List.map_cons,List.map_nil];rfl) B.out (aR.go ?hold));unfold aR;refine ak rfl 106 (.tmp 2) _ rfl g n.cells.toArray rfl rfl _ _ l.out E.out Z.out O.out ?_;intro o b5 f5;have r:=af b5;have s:Hid (Fr ah w o):=q.out.au f5 (fun i A e=>by have z:i=g:=e;have C:=b.out;have D:=j.out.size;omega);clear b5 f5 f a l b t u v c3 y;go_wp2;exact bodyPost_ret (results_cell_row (fn:=Tryz.f160) (p:=2) (ty:=106) Tryz.results160 _ o _ 106 n.cells.toArray (0,0) _ rfl r.out Tryz.underlying106 rfl E.out) rfl ⟨rfl,s.out⟩
theorem IE:∀(xs:List CV)(k:Nat)(c:CV),xs[k]? =some c→∀j x,c.cells[j]? =some x→(xs.flatMap CV.cells)[k*7+j]? =some x
 |[],_,_,h,_,_,_=>by simp at h
 |y::b,0,c,h,j,x,a=>by
  simp only[List.getElem?_cons_zero,Option.some.injEq]at h;subst h;have d:j<7:=(List.getElem?_eq_some_iff.1 a).1;rw[List.flatMap_cons,Nat.zero_mul,Nat.zero_add,List.getElem?_append_left d];exact a
 |y::b,k+1,c,h,j,x,a=>by
  rw[List.flatMap_cons,List.getElem?_append_right (by rw[CV.eF];omega),CV.eF,show(k+1)*7+j-7=k*7+j by omega];exact IE b k c (by simpa using h) j x a
structure CL(w:World)(S:Nat→Prop)(A:Option Addr)(n:Nat)(xs:List CV):Prop where
 rd:Rd w S 7 A n (xs.flatMap CV.cells)
 len:xs.length=n
theorem CL.ao{w w':World}{S:Nat→Prop}{A:Option Addr}{n:Nat}{xs:List CV}(h:CL w S A n xs)(a:Fr ah w w'):CL w' S A n xs:=⟨h.rd.ao a,h.len⟩
theorem CL.at_{w:World}{S:Nat→Prop}{A:Option Addr}{n k:Nat}{xs:List CV}(h:CL w S A n xs)(f:k<n):∃b c,A=some b∧xs[k]? =some c∧∀j x,c.cells[j]? =some x→w.cell? ((b.add (k*7)).add j)=some x:=by
 obtain⟨b,e,i,d⟩:=h.rd.2 (by omega);have a:k<xs.length:=by rw[h.len];exact f
 refine⟨b,xs[k],e,List.getElem?_eq_getElem a,fun j x g=>?_⟩;rw[iq];exact d _ x (IE xs k xs[k] (List.getElem?_eq_getElem a) j x g)
theorem KY:(Tryz.prog.info? 245).map (·.size)=some 5:=by kernel_rfl
theorem Ii(c:CV):Tryz.prog.built 119 [(0, .agg c.nm.cells.toArray),(1, .string c.value),(2, .bool c.bH)]=some c.cells.toArray:=by kernel_rfl
def bY:Value:= .agg #[.int .i64 0, .string ByteArray.empty, .int .i64 0, .int .i64 0, .string ByteArray.empty, .string ByteArray.empty, .bool false]
theorem LI(w:World):(zeroValue 247).run Tryz.prog w= .ok bY w:=by kernel_rfl
theorem Km:(Tryz.prog.info? 247).map (fun i=>(i.zero,i.size,i.bytes))=some (some bY,7,80):=by kernel_rfl
theorem mZ:(Tryz.prog.info? 119).map (fun i=>(i.zero,i.size,i.bytes))=some (some bY,7,80):=by kernel_rfl
theorem foldl_set:∀(l:List Value)(k off:Nat)(b:List Value),off+k+l.length≤b.length→(l.zipIdx k).foldl (fun cs x=>cs.setIfInBounds (off+x.2) x.1) b.toArray=(b.take (off+k)++l++b.drop (off+k+l.length)).toArray
 |[],k,off,b,_=>by simp
 |c::r,k,off,b,h=>by
  simp only[List.length_cons]at h;rw[List.zipIdx_cons,List.foldl_cons,List.setIfInBounds_toArray,foldl_set r (k+1) off (b.set (off+k) c) (by rw[List.length_set];omega)];congr 1;have a:(b.set (off+k) c).take (off+(k+1))=b.take (off+k)++[c]:=by
   rw[List.take_set,show off+(k+1)=(off+k)+1 by omega,List.take_succ_eq_append_getElem (by omega:off+k<b.length),List.set_append_right _ _ (by simp;omega)];simp;rw[show off+k-min (off+k) b.length=0 by omega];rfl
  have d:(b.set (off+k) c).drop (off+(k+1)+r.length)=b.drop (off+k+(c::r).length):=by
   rw[List.drop_set_of_lt (by omega)];congr 1;simp only[List.length_cons];omega
  rw[a,d];simp
theorem ln(cs b:Array Value)(off:Nat)(h:off+cs.size≤b.size):cs.zipIdx.foldl (fun cs(x:Value×Nat)=>cs.setIfInBounds (off+x.2) x.1) b=(b.toList.take off++cs.toList++b.toList.drop (off+cs.size)).toArray:=by
 rw[←Array.foldl_toList,Array.toList_zipIdx];have:=foldl_set cs.toList 0 off b.toList (by simpa using h);simpa using this
theorem ku(cs b:Array Value)(d:cs.size=7)(c:b.size=7):Instr.fill (fun i=>some (i*7,7)) b [(0, .agg cs)]=some cs:=by
 have a:=ln cs b 0 (by omega);simp only[Instr.fill,Value.cells,d,c,Nat.zero_mul,Nat.zero_add,ne_eq,not_true_eq_false,decide_false,Bool.false_or,gt_iff_lt,Nat.lt_irrefl,Bool.false_eq_true,if_false];simp only[Nat.zero_add,List.take_zero,List.nil_append,d]at a;rw[List.drop_of_length_le (by simp[c]),List.append_nil]at a;rw[a]
theorem nT{w:World}{base n m:Nat}{e l:TypeId}{size a:Nat}{v o:Value}{xs r:List Value}(h:w.ownsRow base e size v n xs)(p:w.ownsRow base l a o m r)(f:e≠l):∀k,v.ownBlock=some k→o.ownBlock≠some k:=by
 intro k c d;rcases h.2 with⟨rfl,_⟩|⟨g,cap,cur,rfl,_,q,_⟩;·cases c
 ·rcases p.2 with⟨rfl,_⟩|⟨s,i,j,rfl,_,b,_⟩;·cases d
  ·simp only[Value.ownBlock,Option.some.injEq]at c d;subst c;subst d;rw[q]at b;cases b;exact f rfl
theorem EJ{w:World}{base n k:Nat}{e:TypeId}{size:Nat}{v:Value}{xs:List Value}(h:w.ownsRow base e size v n xs)(a:v.ownBlock=some k):k<w.heap.size:=by
 rcases h.2 with⟨rfl,_⟩|⟨g,cap,cur,rfl,_,b,_⟩;·cases a
 ·simp only[Value.ownBlock,Option.some.injEq]at a;subst a;exact(Array.getElem?_eq_some_iff.1 b).1
theorem bO.move{e:TypeId}{size:Nat}{w w1 w2:World}{v:Value}{n:Nat}{xs:List Value}{T:Nat→Prop}(h:bO e size w (.slice none 0 0) w1 v n xs)(c:Fr T w1 w2)(b:∀k,v.ownBlock=some k→¬T k)(a:Fr ah w w2):bO e size w (.slice none 0 0) w2 v n xs:=
 ⟨aJ h.own c b,a.bJ,h.eE⟩
theorem JA(n:Nat)(xs:List CV)(A:Option Addr)(cs:Nat)(S:Nat→Prop)(w:World)(cd:CL w S A n xs)(cD:n≤9223372036854775807):
  Calls Tryz.prog 127 #[.slice A n cs] w (fun e w'=>∃v4 v5,e= .returned (.tuple #[v4,v5])∧bO 119 7 w (.slice none 0 0) w' v4 (min n 24) (((xs.take (min n 24)).map CV.cut).flatMap CV.cells)∧bO 247 7 w (.slice none 0 0) w' v5 (min n 24) (((xs.take (min n 24)).map CV.cut).flatMap CV.cells)):=by
 obtain⟨X,aU,aX,E,bA⟩:=info_parts Km;obtain⟨Y,aV,aY,F,bB⟩:=info_parts mZ;have cn:=af cd;clear cd;go_enter Tryz.func127,Tryz.ntmps127;go_wp2;go_loopw[4,5,6](fun v4 v5 i wr=>∃k:Nat,k≤min n 24∧i= .int .i64 k∧bO 119 7 w (.slice none 0 0) wr v4 k (((xs.take k).map CV.cut).flatMap CV.cells)∧bO 247 7 w (.slice none 0 0) wr v5 k (((xs.take k).map CV.cut).flatMap CV.cells))(fun _ _ i _=>24-(intOf i).toNat);case atStart=>exact⟨0,by omega,rfl,bO.start ⟨rfl, .inl ⟨rfl,rfl⟩⟩,bO.start ⟨rfl, .inl ⟨rfl,rfl⟩⟩⟩
 case round=>
  obtain⟨k,cx,rfl,T,U⟩:=hrel;have B:=af T;have D:=af U;obtain⟨ad,n4,aB,rfl,cA,_⟩:=aH T.own;obtain⟨ae,n5,c5,rfl,cB,_⟩:=aH U.own;clear T U;by_cases bL:k<min n 24
  ·have v:k<n:=by omega
   have ce:(k:Int)<(n:Int):=by omega
   have bx:(k:Int)<24:=by omega
   have aK:k<24:=by omega
   obtain⟨cC,c,rfl,C,z⟩:=(cn.out.ao B.out.ao).at_ v;have a4:=af z;have cl:=af c.one;have b2:Hid (((xs.take (k+1)).map CV.cut).flatMap CV.cells=((xs.take k).map CV.cut).flatMap CV.cells++c.cut.cells):=by
    simp only[Hid];rw[List.take_add_one,C];simp
   have f0:Fr ah w wr:=B.out.ao;have cm:=af f0;have NE:=af (nT B.out.own D.out.own (by decide));obtain⟨aa,bG⟩:∃aa:Int,min (c.value.size:Int) 200=aa:=⟨_,rfl⟩;obtain⟨ab,bI⟩:∃ab:Int,min (c.nm.owner.size:Int) 100=ab:=⟨_,rfl⟩;obtain⟨ac,bK⟩:∃ac:Int,min (c.nm.text.size:Int) 100=ac:=⟨_,rfl⟩;have cE:0≤aa:=by omega
   have cH:aa≤(c.value.size:Int):=by omega
   have cF:0≤ab:=by omega
   have cI:ab≤(c.nm.owner.size:Int):=by omega
   have cG:0≤ac:=by omega
   have cy:ac≤(c.nm.text.size:Int):=by omega
   obtain⟨v5,bP⟩:∃v5,c.value.extract 0 aa.toNat=v5:=⟨_,rfl⟩;obtain⟨r,bM⟩:∃r,c.nm.owner.extract 0 ab.toNat=r:=⟨_,rfl⟩;obtain⟨t5,bN⟩:∃t5,c.nm.text.extract 0 ac.toNat=t5:=⟨_,rfl⟩;have J:Hid (c.cut=⟨⟨c.nm.kind,r,c.nm.number,c.nm.index,t5⟩,v5,c.bH⟩):=by
    simp only[Hid,CV.cut,xg,bG,bI,bK,bP,bM,bN]
   clear z C f0 bL cx;go_wp2_with(refine aC rfl 247 (.tmp 20) rfl _ rfl c.cells _ ?zB Tryz.underlying247 rfl Db (aR.go ?hold));case zB=>exact a4.out
   unfold aR;go_wp2_with(refine an rfl 247 rfl bY LI #[.int .i64 0, .string ByteArray.empty, .int .i64 0, .int .i64 0, .string ByteArray.empty, .string ByteArray.empty, .bool false] rfl ?_);intro cz ch;have a8:=af ch;clear ch;generalize aT:wr.heap.size=g7 at*;have t:=af aT;clear aT;have bW:Hid (aq cz g7 247 #[.int .i64 0, .string ByteArray.empty, .int .i64 0, .int .i64 0, .string ByteArray.empty, .string ByteArray.empty, .bool false]):=by have h:=a8.out.aD;rw[t.out]at h;exact h
   go_wp2_with(refine ak rfl 247 (.tmp 7) _ rfl g7 c.cells.toArray rfl rfl _ _ bW.out Db rfl cl.out ?_);intro cj bb cc;have bT:Hid (aq cj g7 247 #[.int .i64 c.nm.kind, .string c.nm.owner, .int .i64 c.nm.number, .int .i64 c.nm.index, .string c.nm.text, .string c.value, .bool c.bH]):=bb;have b0:Hid (Fr ah wr cj):=a8.out.fr.au cc (fun i G e=>by have bc:i=g7:=e;have:=t.out;omega);clear bb cc a8 bW;have cp:Hid ((Value.string v5).oneCell'=true):=by simp[Hid,Value.oneCell']
   go_upto_region 7 with fail;refine gW 9 (fun k=>k=g7) [Is (.pointer (some ⟨g7,5,none⟩)),Is (.string c.value),Is (.pointer (some ⟨g7,5,none⟩)),Is (.string c.value),Is (.int .i64 c.value.size),Is (.int .i64 aa),Is (.string v5),Is (.pointer (some ⟨g7,5,none⟩)),Is (undef)] [(8,fun W=>aq W g7 247 #[.int .i64 c.nm.kind, .string c.nm.owner, .int .i64 c.nm.number, .int .i64 c.nm.index, .string c.nm.text, .string v5, .bool c.bH])] (fun W=>aq W g7 247 #[.int .i64 c.nm.kind, .string c.nm.owner, .int .i64 c.nm.number, .int .i64 c.nm.index, .string c.nm.text, .string c.value, .bool c.bH]) (fun i j=>j==8&&decide (i<8)) (by kernel_rfl) (by kernel_rfl) (by kernel_rfl) ⟨Is.ag _,Is.ag _,Is.ag _,Is.ag _,Is.ag _,Is.ag _,Is.ag _,Is.ag _,Is.ag _,trivial⟩ ⟨fun _ _ _ o h=>h.fr o (fun x=>x),trivial⟩ (fun _ _ _ o h=>h.fr o (fun x=>x)) bT.out ?_ ?_
   ·refine⟨?_,?_,?_,?_,?_,?_,?_,?_,?_,trivial⟩;all_goals intro u w' d o a m l f
    all_goals simp only[bm,bp,bw,bC,ar,Act.put,bD,bE,bF,Nat.reduceAdd,Nat.zero_add]
    ·clear a m l f;refine ai ?_;go_simp;exact⟨_,rfl,al⟩
    ·have bj:u 0=_:=a 0;clear a;simp only[bj];refine ai ?_;have s:aq w' g7 247 #[.int .i64 c.nm.kind, .string c.nm.owner, .int .i64 c.nm.number, .int .i64 c.nm.index, .string c.nm.text, .string c.value, .bool c.bH]:=by rw[dn,if_neg (by rw[l 8 (by kernel_rfl)];exact Bool.false_ne_true)]at f;exact f
     clear m l f;have C:w'.cell? ⟨g7,5,none⟩=some (.string c.value):=s.cell 5;go_simp;exact⟨_,rfl,al⟩
    ·clear a m l f;refine ai ?_;go_simp;exact⟨_,rfl,al⟩
    ·have aG:u 2=_:=a 2;clear a;simp only[aG];refine ai ?_;have s:aq w' g7 247 #[.int .i64 c.nm.kind, .string c.nm.owner, .int .i64 c.nm.number, .int .i64 c.nm.index, .string c.nm.text, .string c.value, .bool c.bH]:=by rw[dn,if_neg (by rw[l 8 (by kernel_rfl)];exact Bool.false_ne_true)]at f;exact f
     clear m l f;have C:w'.cell? ⟨g7,5,none⟩=some (.string c.value):=s.cell 5;go_simp;exact⟨_,rfl,al⟩
    ·have aL:u 3=_:=a 3;clear a m l f;simp only[aL];refine ai ?_;go_simp;exact⟨_,rfl,al⟩
    ·have aN:u 4=_:=a 4;clear a m l f;simp only[aN];refine ai ?_;go_simp;exact⟨_,rfl,al⟩
    ·have aF:u 1=_:=a 1;have aO:u 5=_:=a 5;clear a m l f;simp only[aF,aO];refine ai ?_;go_simp;exact⟨_,rfl,al⟩
    ·clear a m l f;refine ai ?_;go_simp;exact⟨_,rfl,al⟩
    ·have aQ:u 7=_:=a 7;have aP:u 6=_:=a 6;clear a;simp only[aQ,aP];refine ai ?_;have s:aq w' g7 247 #[.int .i64 c.nm.kind, .string c.nm.owner, .int .i64 c.nm.number, .int .i64 c.nm.index, .string c.nm.text, .string c.value, .bool c.bH]:=by rw[dn,if_neg (by rw[l 8 (by kernel_rfl)];exact Bool.false_ne_true)]at f;exact f
     clear m l f;refine lh 9 (.tmp 29) (.tmp 28) rfl g7 5 (.string v5) rfl rfl cp.out oW _ _ #[.int .i64 c.nm.kind, .string c.nm.owner, .int .i64 c.nm.number, .int .i64 c.nm.index, .string c.nm.text, .string v5, .bool c.bH] s (show 5<7 by decide) rfl ?_;intro ci b4 f4;exact⟨_,rfl,f4,rfl,b4⟩
   ·intro u w' o a f;clear a;simp only[bm,bp,bw,bC,ar,Act.put,bD,bE,bF,cZ,da,Nat.reduceAdd,Nat.zero_add];generalize w'=wc at*;have bU:Hid (aq wc g7 247 #[.int .i64 c.nm.kind, .string c.nm.owner, .int .i64 c.nm.number, .int .i64 c.nm.index, .string c.nm.text, .string v5, .bool c.bH]):=f;have b1:Hid (Fr ah wr wc):=b0.out.au o (fun i G e=>by have bc:i=g7:=e;have:=t.out;omega);clear f o bT b0;go_upto_region 8 with fail;refine ay 23 (fun k=>k=g7) [Is (.pointer (some ⟨g7,0,none⟩)),Is (.pointer (some ⟨g7,1,none⟩)),Is (.string c.nm.owner),Is (.pointer (some ⟨g7,0,none⟩)),Is (.pointer (some ⟨g7,1,none⟩)),Is (.string c.nm.owner),Is (.int .i64 c.nm.owner.size),Is (.int .i64 ab),Is (.string r),Is (.pointer (some ⟨g7,0,none⟩)),Is (.pointer (some ⟨g7,4,none⟩)),Is (.string c.nm.text),Is (.pointer (some ⟨g7,0,none⟩)),Is (.pointer (some ⟨g7,4,none⟩)),Is (.string c.nm.text),Is (.int .i64 c.nm.text.size),Is (.int .i64 ac),Is (.string t5),Is (.pointer (some ⟨g7,0,none⟩)),Is (.pointer (some ⟨g7,1,none⟩)),Is (undef),Is (.pointer (some ⟨g7,0,none⟩)),Is (.pointer (some ⟨g7,4,none⟩))] [(20,fun W=>aq W g7 247 #[.int .i64 c.nm.kind, .string r, .int .i64 c.nm.number, .int .i64 c.nm.index, .string c.nm.text, .string v5, .bool c.bH])] (fun W=>aq W g7 247 #[.int .i64 c.nm.kind, .string c.nm.owner, .int .i64 c.nm.number, .int .i64 c.nm.index, .string c.nm.text, .string v5, .bool c.bH]) (fun i j=>j==20&&(decide (i<15)||i==19)) (by kernel_rfl) (by kernel_rfl) (by kernel_rfl) (by kernel_rfl) ⟨Is.ag _,Is.ag _,Is.ag _,Is.ag _,Is.ag _,Is.ag _,Is.ag _,Is.ag _,Is.ag _,Is.ag _,Is.ag _,Is.ag _,Is.ag _,Is.ag _,Is.ag _,Is.ag _,Is.ag _,Is.ag _,Is.ag _,Is.ag _,Is.ag _,Is.ag _,Is.ag _,trivial⟩ ⟨fun _ _ _ o h=>h.fr o (fun x=>x),trivial⟩ (fun _ _ _ o h=>h.fr o (fun x=>x)) bU.out.drew ?_ ?_
    ·refine⟨?_,?_,?_,?_,?_,?_,?_,?_,?_,?_,?_,?_,?_,?_,?_,?_,?_,?_,?_,?_,?_,?_,?_,trivial⟩;all_goals intro u w' d o a m l f
     all_goals simp only[bm,bp,bw,bC,ar,Act.put,bD,bE,bF,Nat.reduceAdd,Nat.zero_add]
     ·clear a m l f;refine ai ?_;go_simp;exact⟨_,rfl,al⟩
     ·have bj:u 0=_:=a 0;clear a m l f;simp only[bj];refine ai ?_;go_simp;exact⟨_,rfl,al⟩
     ·have aF:u 1=_:=a 1;clear a;simp only[aF];refine ai ?_;have s:aq w' g7 247 #[.int .i64 c.nm.kind, .string c.nm.owner, .int .i64 c.nm.number, .int .i64 c.nm.index, .string c.nm.text, .string v5, .bool c.bH]:=by rw[dn,if_neg (by rw[l 20 (by kernel_rfl)];exact Bool.false_ne_true)]at f;exact f
      clear m l f;have C:w'.cell? ⟨g7,1,none⟩=some (.string c.nm.owner):=s.cell 1;go_simp;exact⟨_,rfl,al⟩
     ·clear a m l f;refine ai ?_;go_simp;exact⟨_,rfl,al⟩
     ·have aL:u 3=_:=a 3;clear a m l f;simp only[aL];refine ai ?_;go_simp;exact⟨_,rfl,al⟩
     ·have aN:u 4=_:=a 4;clear a;simp only[aN];refine ai ?_;have s:aq w' g7 247 #[.int .i64 c.nm.kind, .string c.nm.owner, .int .i64 c.nm.number, .int .i64 c.nm.index, .string c.nm.text, .string v5, .bool c.bH]:=by rw[dn,if_neg (by rw[l 20 (by kernel_rfl)];exact Bool.false_ne_true)]at f;exact f
      clear m l f;have C:w'.cell? ⟨g7,1,none⟩=some (.string c.nm.owner):=s.cell 1;go_simp;exact⟨_,rfl,al⟩
     ·have aO:u 5=_:=a 5;clear a m l f;simp only[aO];refine ai ?_;go_simp;exact⟨_,rfl,al⟩
     ·have aP:u 6=_:=a 6;clear a m l f;simp only[aP];refine ai ?_;go_simp;exact⟨_,rfl,al⟩
     ·have aG:u 2=_:=a 2;have aQ:u 7=_:=a 7;clear a m l f;simp only[aG,aQ];refine ai ?_;go_simp;exact⟨_,rfl,al⟩
     ·clear a m l f;refine ai ?_;go_simp;exact⟨_,rfl,al⟩
     ·have ct:u 9=_:=a 9;clear a m l f;simp only[ct];refine ai ?_;go_simp;exact⟨_,rfl,al⟩
     ·have bk:u 10=_:=a 10;clear a;simp only[bk];refine ai ?_;have s:aq w' g7 247 #[.int .i64 c.nm.kind, .string c.nm.owner, .int .i64 c.nm.number, .int .i64 c.nm.index, .string c.nm.text, .string v5, .bool c.bH]:=by rw[dn,if_neg (by rw[l 20 (by kernel_rfl)];exact Bool.false_ne_true)]at f;exact f
      clear m l f;have C:w'.cell? ⟨g7,4,none⟩=some (.string c.nm.text):=s.cell 4;go_simp;exact⟨_,rfl,al⟩
     ·clear a m l f;refine ai ?_;go_simp;exact⟨_,rfl,al⟩
     ·have bn:u 12=_:=a 12;clear a m l f;simp only[bn];refine ai ?_;go_simp;exact⟨_,rfl,al⟩
     ·have bo:u 13=_:=a 13;clear a;simp only[bo];refine ai ?_;have s:aq w' g7 247 #[.int .i64 c.nm.kind, .string c.nm.owner, .int .i64 c.nm.number, .int .i64 c.nm.index, .string c.nm.text, .string v5, .bool c.bH]:=by rw[dn,if_neg (by rw[l 20 (by kernel_rfl)];exact Bool.false_ne_true)]at f;exact f
      clear m l f;have C:w'.cell? ⟨g7,4,none⟩=some (.string c.nm.text):=s.cell 4;go_simp;exact⟨_,rfl,al⟩
     ·have bq:u 14=_:=a 14;clear a m l f;simp only[bq];refine ai ?_;go_simp;exact⟨_,rfl,al⟩
     ·have br:u 15=_:=a 15;clear a m l f;simp only[br];refine ai ?_;go_simp;exact⟨_,rfl,al⟩
     ·have bl:u 11=_:=a 11;have bs:u 16=_:=a 16;clear a m l f;simp only[bl,bs];refine ai ?_;go_simp;exact⟨_,rfl,al⟩
     ·clear a m l f;refine ai ?_;go_simp;exact⟨_,rfl,al⟩
     ·have bt:u 18=_:=a 18;clear a m l f;simp only[bt];refine ai ?_;go_simp;exact⟨_,rfl,al⟩
     ·have bu:u 19=_:=a 19;have bz:u 8=_:=a 8;clear a;simp only[bu,bz];refine ai ?_;have s:aq w' g7 247 #[.int .i64 c.nm.kind, .string c.nm.owner, .int .i64 c.nm.number, .int .i64 c.nm.index, .string c.nm.text, .string v5, .bool c.bH]:=by rw[dn,if_neg (by rw[l 20 (by kernel_rfl)];exact Bool.false_ne_true)]at f;exact f
      clear m l f;refine lh 9 (.tmp 49) (.tmp 38) rfl g7 1 (.string r) rfl rfl rfl oW _ _ _ s (show 1<7 by decide) rfl ?_;intro ci b4 f4;exact⟨_,rfl,f4,rfl,b4⟩
     ·clear a m l f;refine ai ?_;go_simp;exact⟨_,rfl,al⟩
     ·have bv:u 21=_:=a 21;clear a m l f;simp only[bv];refine ai ?_;go_simp;exact⟨_,rfl,al⟩
    ·intro u w' o a f;have aZ:u 17=_:=a 17 (by omega);have a0:u 22=_:=a 22 (by omega);clear a;simp only[bm,bp,bw,bC,ar,Act.put,bD,bE,bF,cZ,da,Nat.reduceAdd,Nat.zero_add,aZ,a0];have bV:Hid (aq w' g7 247 #[.int .i64 c.nm.kind, .string r, .int .i64 c.nm.number, .int .i64 c.nm.index, .string c.nm.text, .string v5, .bool c.bH]):=f;have bX:Hid (Fr ah wr w'):=b1.out.au o (fun i G e=>by have bc:i=g7:=e;have:=t.out;omega);have b6:Hid ((Value.string t5).oneCell'=true):=by simp[Hid,Value.oneCell']
     have aA:Hid (4<(#[.int .i64 c.nm.kind, .string r, .int .i64 c.nm.number, .int .i64 c.nm.index, .string c.nm.text, .string v5, .bool c.bH]:Array Value).size):=by simp[Hid]
     have ax:Hid ((#[.int .i64 c.nm.kind, .string r, .int .i64 c.nm.number, .int .i64 c.nm.index, .string c.nm.text, .string v5, .bool c.bH]:Array Value).setIfInBounds 4 (.string t5)=#[.int .i64 c.nm.kind, .string r, .int .i64 c.nm.number, .int .i64 c.nm.index, .string t5, .string v5, .bool c.bH]):=rfl;clear f o bU b1 aZ a0;refine aM rfl 9 (.tmp 51) (.tmp 47) rfl g7 4 (.string t5) rfl rfl b6.out oW 247 #[.int .i64 c.nm.kind, .string r, .int .i64 c.nm.number, .int .i64 c.nm.index, .string c.nm.text, .string v5, .bool c.bH] #[.int .i64 c.nm.kind, .string r, .int .i64 c.nm.number, .int .i64 c.nm.index, .string t5, .string v5, .bool c.bH] bV.out aA.out ax.out ?_;intro wd cb fd;have I:=af cb;have Z:Hid (Fr ah wr wd):=bX.out.au fd (fun i G e=>by have bc:i=g7:=e;have:=t.out;omega);clear cb fd bV bX b6 aA ax;obtain⟨y,aW⟩:∃y:CV,y=⟨⟨c.nm.kind,r,c.nm.number,c.nm.index,t5⟩,v5,c.bH⟩:=⟨_,rfl⟩;have b3:Hid (c.cut=y):=by rw[aW];exact J.out
     have b7:Hid (∀W,aq W g7 247 #[.int .i64 c.nm.kind, .string r, .int .i64 c.nm.number, .int .i64 c.nm.index, .string t5, .string v5, .bool c.bH]→aq W g7 247 y.cells.toArray):=fun W h=>by rw[aW];exact h
     obtain⟨L,V⟩:∃L:aI,L=y.nm:=⟨_,rfl⟩;have cr:Hid (∀W,aq W g7 247 #[.int .i64 c.nm.kind, .string r, .int .i64 c.nm.number, .int .i64 c.nm.index, .string t5, .string v5, .bool c.bH]→∀j x,L.cells[j]? =some x→W.cell? ⟨g7,j,none⟩=some x):=fun W h j x H=>by
      have cw:j<5:=(List.getElem?_eq_some_iff.1 H).1;rw[(b7.out W h).cell,bQ,CV.cells,List.getElem?_append_left (by rw[aI.eF];exact cw),←V];exact H
     have a2:Hid (Tryz.prog.built 119 [(0, .agg L.cells.toArray),(1, .string v5),(2, .bool c.bH)]=some y.cells.toArray):=by
      have h:=Ii y;rw[←V,show y.value=v5 by rw[aW],show y.bH=c.bH by rw[aW]]at h;exact h
     have ca:Hid (∀u∈y.cells.toArray.toList,u.oneCell'=true):=by
      intro u hu;have h:=y.one;rw[Array.all_eq_true_iff_forall_mem]at h;exact h u (by simpa using hu)
     have b8:Hid (y.cells.toArray.size=1*7):=rfl;have cq:Hid (y.cells=y.cells.toArray.toList):=by simp[Hid]
     have M:=af (b7.out _ I.out);have aE:Hid (Instr.fill (fun i=>some (i*7,7)) ((Array.range (1*7)).map (bY.cells[· %bY.cells.size]!)) [(0, .agg y.cells.toArray)]=some y.cells.toArray):=ku _ _ rfl (by simp);clear J aW V;generalize aS:y.cells=p at*;have N:=af aS;clear aS;have bd:Hid (¬1*X.size>2^24):=by simp only[Hid];rw[E];omega
     have be:Hid (¬1*X.size=0):=by simp only[Hid];rw[E];omega
     have bf:Hid (Instr.fill (fun i=>some (i*X.size,X.size)) ((Array.range (1*X.size)).map (bY.cells[· %bY.cells.size]!)) [(0, .agg p.toArray)]=some p.toArray):=by simp only[Hid];rw[E];exact aE.out
     have bg:Hid (¬1*Y.size>2^24):=by simp only[Hid];rw[F];omega
     have bh:Hid (¬1*Y.size=0):=by simp only[Hid];rw[F];omega
     have bi:Hid (Instr.fill (fun i=>some (i*Y.size,Y.size)) ((Array.range (1*Y.size)).map (bY.cells[· %bY.cells.size]!)) [(0, .agg p.toArray)]=some p.toArray):=by simp only[Hid];rw[F];exact aE.out
     have a5:Hid ((Tryz.prog.info? 247).map (·.size)=some p.length):=by rw[←N.out];exact Db
     have co:Hid (∀i,(Value.slice ae n5 c5).ownBlock=some i→i<g7):=fun i G=>by have q:=EJ D.out.own G;have cy:=t.out;omega
     have b5:Hid (wd.ownsRow 0 247 7 (.slice ae n5 c5) k (((xs.take k).map CV.cut).flatMap CV.cells)):=aJ D.out.own Z.out (fun _ _ x=>x);have a7:Hid (wd.ownsRow 0 119 7 (.slice ad n4 aB) k (((xs.take k).map CV.cut).flatMap CV.cells)):=aJ B.out.own Z.out (fun _ _ x=>x);go_wp2_with(refine aC rfl 247 (.tmp 7) rfl ⟨g7,0,none⟩ rfl p _ ?zA Tryz.underlying247 rfl a5.out (aR.go ?zC));case zA=>exact fun j x H=>by first|(rw[Addr.add_mid,Nat.zero_add,M.out.cell,bQ];exact H)|(rw[M.out.cell,bQ];exact H)
     unfold aR;refine wpList_buildSlice rfl 55 247 1 #[(0, .tmp 53)] rfl p.toArray X bY Tryz.underlying55 aU aX bd.out be.out (by simp only[List.map_toArray,List.map_cons,List.map_nil];exact bf.out) ?_;refine cL _ rfl _ _ 55 rfl 247 X bY 7 80 Tryz.underlying55 aU aX E bA rfl (by decide) _ _ _ rfl b5.out 1 p.toArray _ rfl rfl b8.out ca.out (by omega) (by decide) ?_;intro a1 bS K;have a3:Hid (Fr ah w wd):=cm.out.trans Z.out;have av:Hid (bO 247 7 w (.slice none 0 0) wd (.slice ae n5 c5) k (((xs.take k).map CV.cut).flatMap CV.cells)):=D.out.behind Z.out;have P:Hid (bO 247 7 w (.slice none 0 0) bS a1 (k+1) (((xs.take (k+1)).map CV.cut).flatMap CV.cells)):=by
      have h:=av.out.trans K;simp only[Hid];rw[b2.out,b3.out,N.out];exact h
     have O:Hid (bO 119 7 w (.slice none 0 0) bS (.slice ad n4 aB) k (((xs.take k).map CV.cut).flatMap CV.cells)):=(B.out.behind Z.out).move K.fr (fun i G e=>NE.out i G e) P.out.ao;have aj:Hid (aq bS g7 247 #[.int .i64 c.nm.kind, .string r, .int .i64 c.nm.number, .int .i64 c.nm.index, .string t5, .string v5, .bool c.bH]):=I.out.fr K.fr (fun e=>by have q:=co.out g7 e;omega);clear K D B av b5 a7 I Z a3 M;have I:=aj;have a7:=af O.out.own;go_upto_region 10 with fail;refine ay 10 ah [Is (.slice ad n4 aB),Is (.pointer (some ⟨g7,0,none⟩)),Is (.agg L.cells.toArray),Is (.agg L.cells.toArray),Is (.pointer (some ⟨g7,5,none⟩)),Is (.string v5),Is (.pointer (some ⟨g7,6,none⟩)),Is (.bool c.bH),Is (.agg p.toArray),fun x W=>∃g,x= .slice (some ⟨g,0,none⟩) 1 1∧aq W g 119 p.toArray] [] (fun _=>True) (fun _ _=>false) (by kernel_rfl) (by kernel_rfl) (by kernel_rfl) (by kernel_rfl) ⟨Is.ag _,Is.ag _,Is.ag _,Is.ag _,Is.ag _,Is.ag _,Is.ag _,Is.ag _,Is.ag _,fun _ _ _ _ o⟨g,h,b⟩=>⟨g,h,b.fr o (fun x=>x)⟩,trivial⟩ trivial (fun _ _ _ _ h=>h) trivial ?_ ?_
     ·refine⟨?_,?_,?_,?_,?_,?_,?_,?_,?_,?_,trivial⟩;all_goals intro u w' d o a m l f
      all_goals simp only[bm,bp,bw,bC,ar,Act.put,bD,bE,bF,Nat.reduceAdd,Nat.zero_add]
      ·clear a m l f;refine ai ?_;go_simp;exact⟨_,rfl,al⟩
      ·clear a m l f;refine ai ?_;go_simp;exact⟨_,rfl,al⟩
      ·have aF:u 1=_:=a 1;clear a m l f;simp only[aF];refine ai ?_;exact aw _ _ rfl ⟨g7,0,none⟩ rfl L.cells _ (fun j x H=>by rw[Addr.add_mid,Nat.zero_add];exact cr.out _ (I.out.fr o (fun x=>x)) j x H) Tryz.underlying245 rfl KY ⟨_,rfl,al⟩
      ·have aG:u 2=_:=a 2;clear a m l f;simp only[aG];refine ai ?_;go_simp;refine(Hy L _).mono ?_;rintro e ci⟨rfl,f4⟩;exact⟨_,rfl,f4.bJ,rfl,trivial⟩
      ·clear a m l f;refine ai ?_;go_simp;exact⟨_,rfl,al⟩
      ·have aN:u 4=_:=a 4;clear a m l f;simp only[aN];refine ai ?_;have C:w'.cell? ⟨g7,5,none⟩=some (.string v5):=(I.out.fr o (fun x=>x)).cell 5;go_simp;exact⟨_,rfl,al⟩
      ·clear a m l f;refine ai ?_;go_simp;exact⟨_,rfl,al⟩
      ·have aP:u 6=_:=a 6;clear a m l f;simp only[aP];refine ai ?_;have C:w'.cell? ⟨g7,6,none⟩=some (.bool c.bH):=(I.out.fr o (fun x=>x)).cell 6;go_simp;exact⟨_,rfl,al⟩
      ·have aL:u 3=_:=a 3;have aO:u 5=_:=a 5;have aQ:u 7=_:=a 7;clear a m l f;simp only[aL,aO,aQ];refine ai ?_;exact gR 119 _ rfl p.toArray _ (by simp only[List.map_toArray,List.map_cons,List.map_nil];rfl) a2.out ⟨_,rfl,al⟩
      ·have bz:u 8=_:=a 8;clear a m l f;simp only[bz];refine ai ?_;refine wp_buildSlice 44 119 1 #[(0, .tmp 64)] rfl p.toArray Y bY Tryz.underlying44 aV aY bg.out bh.out ?_ ?_;·simp only[List.map_toArray,List.map_cons,List.map_nil];exact bi.out
       ·exact⟨_,rfl,az.alloc _,⟨w'.heap.size,rfl,aq.new _ _ _⟩,trivial⟩
     ·intro u w' o a f;have l:u 0=_:=a 0 (by omega);obtain⟨g9,cg,b9⟩:∃g,u 9= .slice (some ⟨g,0,none⟩) 1 1∧aq w' g 119 p.toArray:=a 9 (by omega);clear a f;simp only[bm,bp,bw,bC,ar,Act.put,bD,bE,bF,cZ,da,Nat.reduceAdd,Nat.zero_add,l,cg];have ck:=af b9;have R:=af (aJ a7.out o (fun _ _ x=>x));have ap:=af (O.out.behind o);have Q:=af (P.out.behind o);have ba:Hid (∀u∈p,u.oneCell'=true):=fun u hu=>ca.out u (by simpa using hu);have a9:Hid (p.length=1*7):=by have h:=b8.out;rw[List.size_toArray]at h;exact h
      clear o l cg b9 I aj;refine eL _ rfl _ _ 44 rfl 119 Y bY 7 80 Tryz.underlying44 aV aY F bB rfl (by decide) _ _ _ rfl R.out (fun _=>True) (some ⟨g9,0,none⟩) 1 1 p rfl ⟨a9.out,fun _=>⟨_,rfl,trivial,fun j x H=>by rw[Addr.add_mid,Nat.zero_add,ck.out.cell,bQ];exact H⟩⟩ ba.out (by omega) (by decide) ?_;intro bR wf K;have am:Hid (bO 119 7 w (.slice none 0 0) wf bR (k+1) (((xs.take (k+1)).map CV.cut).flatMap CV.cells)):=by
       have h:=ap.out.trans K;simp only[Hid];rw[b2.out,b3.out,N.out];exact h
      have a6:Hid (bO 247 7 w (.slice none 0 0) wf a1 (k+1) (((xs.take (k+1)).map CV.cut).flatMap CV.cells)):=Q.out.move K.fr (fun i G e=>nT Q.out.own R.out (by decide) i G e) am.out.ao;clear K ap Q R O P;go_wp2;go_roundw;case rel=>exact⟨k+1,by omega,by go_num,am.out,a6.out⟩
      case measure=>simp[intOf];omega
  ·have v:k=min n 24:=by omega
   have cf:¬((k:Int)<(n:Int)∧(k:Int)<24):=by omega
   by_cases ce:(k:Int)<(n:Int)
   ·have bx:decide ((k:Int)<24)=false:=bZ (by omega);have aK:¬k<24:=by omega
    have hIn:k<n:=by omega
    go_wp2;go_ret2;exact⟨.slice ad n4 aB, .slice ae n5 c5,rfl,by rw[←v];first|exact B.out|(rw[←List.map_take];exact B.out),by rw[←v];first|exact D.out|(rw[←List.map_take];exact D.out)⟩
   ·have cu:decide ((k:Int)<(n:Int))=false:=decide_eq_false ce;have cv:¬k<n:=by omega
    go_wp2;go_ret2;exact⟨.slice ad n4 aB, .slice ae n5 c5,rfl,by rw[←v];first|exact B.out|(rw[←List.map_take];exact B.out),by rw[←v];first|exact D.out|(rw[←List.map_take];exact D.out)⟩
theorem Fr.JI{w w':World}(h:Fr ah w w'):w.grownBy w' none:=⟨h.os,h.tape,h.output,h.size,fun k a _=>h.block k a (fun x=>x)⟩
def zn(w:World)(e:Ending)(w':World):Prop:=e= .returned (.bool true)∧Fr ah w w'
end Go.Proofs.YtphjagkehiklkaaGreatDoor
namespace Go.Proofs.YtphjagkehiklkaaGreatDoor
open Go.RowKit Go.Shelf
attribute[local go_sem]Oper.semAt_some
theorem RoundIn.ju{F:Fence}(a:F.depth=none){m b:Nat}{P:Program}{l:Nat}{f:FuncId}{tmps:Array Value}{assign body:Code}{w:World}{e:Ending→World→Prop}
  (h:RoundIn F m P l f tmps assign body w e):RoundIn F b P l f tmps assign body w e:=⟨h.1,fun c cs _=>h.2 c cs (fun d h=>by rw[a]at h;cases h)⟩
theorem YieldAt.ju{F:Fence}(b:F.depth=none){m:Nat}(d:Nat){P:Program}{l:Nat}{args:Array Value}{W:World}{e:Ending→World→Prop}(h:YieldAt F m P l args W e):YieldAt F d P l args W e:=by
 obtain⟨fn,tmps,assign,body,c,a⟩:=h;exact⟨fn,tmps,assign,body,c,RoundIn.ju b a⟩
def Tr.bI:Tr→List (aI×ByteArray)
 | .leaf=>[]
 | .node l nm v r=>l.bI++(nm,v)::r.bI
theorem Tr.bW:∀t:Tr,t.bI.length=t.size
 | .leaf=>rfl
 | .node l nm v r=>by
  simp only[Tr.bI,Tr.size,aW,List.length_cons,l.bW,r.bW];omega
def KN(A B:World):Prop:=∀g cs,aq A g 177 cs→aq B g 177 cs
theorem KN.refl(A:World):KN A A:=fun _ _ h=>h
theorem KN.trans{A B C:World}(h:KN A B)(k:KN B C):KN A C:=fun g cs a=>k g cs (h g cs a)
theorem KN.fr{A B:World}{T:Nat→Prop}(h:Fr T A B)(b:∀g cs,aq A g 177 cs→¬T g):KN A B:=fun g cs a=>a.fr h (b g cs a)
theorem KN.below{A B:World}(h:Below A.heap.size A B):KN A B:=fun g _ a=>(h.block g a.lt).trans a
theorem ck.kn{w w':World}:∀{a:Option Addr}{t:Tr},ck w a t→KN w w'→ck w' a t
 |_, .leaf,h,_=>h
 |_, .node _ _ _ _,⟨g,i,ra,e,c,d,f⟩,b=>⟨g,i,ra,e,c.kn b,d.kn b,b g _ f⟩
structure Nd where
 g:Nat
 nm:aI
 v:ByteArray
def lB(w:World)(x:Nd):Prop:=∃a b c d e,aq w x.g 177 ([a,b]++x.nm.cells++[Value.string x.v,c,d,e]).toArray
theorem lB.kn{w w':World}{x:Nd}(h:lB w x)(k:KN w w'):lB w' x:=by
 obtain⟨a,b,c,d,e,f⟩:=h;exact⟨a,b,c,d,e,k _ _ f⟩
theorem lB.jW{w:World}{x:Nd}(h:lB w x):Mid w x.g x.nm x.v:=by
 obtain⟨a,b,c,d,e,f⟩:=h;exact Mid.of f
abbrev oz(w:World):={x:Nd//lB w x}
def Dp{w:World}(x:oz w):Array Value:=#[.pointer (some ⟨x.1.g,0,none⟩)]
def Lp{w:World}(x:oz w):aI×ByteArray:=(x.1.nm,x.1.v)
theorem fJ{n:Nat}{P:Program}{ops:Array Oper}{Q:Exit→Act→World→Prop}{a:Act}{w:World}{rest:List Oper}{b:Oper}(hw:Region.wanted b (yielded ops a.tmps)=false)
  (h:wpListIn Fence.wide n P ops Q rest (a.put b.dst undef) w):wpListIn Fence.wide n P ops Q (b::rest) a w:=by
 rw[wpListIn,if_neg (by rw[hw];simp)];exact⟨fun _ _=>trivial,h⟩
def Jr(w:World)(b a:List (oz w)→World→Prop)(pre xs:List (oz w))(e:Ending)(W':World):Prop:=
 (e= .returned (.bool true)∧b (pre++xs) W'∧KN w W')∨(e= .returned (.bool false)∧∃q,q<+:xs∧a (pre++q) W')
inductive Ord(w:World):Option Addr→Tr→List (oz w)→Prop where
 |leaf:Ord w none .leaf []
 |node{l r:Tr}{nm:aI}{v:ByteArray}{g:Nat}{a ra:Option Addr}{L f:List (oz w)}(c:Ord w a l L)(d:Ord w ra r f)
   (b:aq w g 177 (nP a ra (.node l nm v r)).toArray)(x:oz w)(e:x.1=⟨g,nm,v⟩):Ord w (some ⟨g,0,none⟩) (.node l nm v r) (L++x::f)
theorem Ord.of{w:World}:∀{a:Option Addr}{t:Tr},ck w a t→∃L,Ord w a t L
 |_, .leaf,h=>by
  obtain rfl:_=none:=h;exact⟨[], .leaf⟩
 |_, .node l nm v r,⟨g,j,ra,e,c,d,b⟩=>by
  subst e;obtain⟨L,f⟩:=Ord.of c;obtain⟨k,i⟩:=Ord.of d;exact⟨_, .node f i b ⟨⟨g,nm,v⟩,_,_,_,_,_,b⟩ rfl⟩
theorem Ord.bI{w:World}{a:Option Addr}{t:Tr}{L:List (oz w)}(h:Ord w a t L):L.map Lp=t.bI:=by
 induction h with
 |leaf=>rfl
 |node _ _ _ x d b c=>
  rw[List.map_append,List.map_cons,b,c,Tr.bI];simp only[Lp,d]
theorem Iu(l N:Nat)(w:World)(J p:List (oz w)→World→Prop)
  (hY:∀m pre x W,J pre W→KN w W→pre.length<N→YieldAt Fence.wide m Tryz.prog l (Dp x) W fun e W'=>(e= .returned (.bool true)∧J (pre++[x]) W'∧KN W W')∨(e= .returned (.bool false)∧p (pre++[x]) W'))
  {a:Option Addr}{t:Tr}{L:List (oz w)}(h:Ord w a t L):
  ∀(m:Nat)(pre:List (oz w))(W:World),J pre W→KN w W→pre.length+L.length≤N→
   CallsIn Fence.wide m Tryz.prog 170 #[.pointer a, .func (.yield l) #[] #[]] W (Jr w J p pre L):=by
 induction h with
 |leaf=>
  intro m pre W r i _;refine callsIn_of_wp Tryz.func170 rfl trivial ?_ rfl;simp only[Tryz.ntmps170,List.size_toArray,List.length_cons,List.length_nil,Nat.reduceAdd,Nat.reduceSub,Array.replicate_succ,Array.replicate_zero,List.push_toArray,List.append_toArray,List.nil_append,List.cons_append];gi_wp2_with(refine fJ rfl ?_);go_ret;exact .inl ⟨rfl,by simpa using r,i⟩
 |@node ad ae nm v g Y ra L R aa ab I x X C D=>
  intro m pre W r i P;have d:∀k:Nat,(Fence.wide.depth.isSome=true→1≤k):=fun k h=>by cases h
  rw[aW,List.length_cons]at P;have n:Dp x=#[Value.pointer (some ⟨g,0,none⟩)]:=by rw[Dp,X]
  have y:∀b,J (pre++L) b→KN w b→YieldAt Fence.wide (m-1) Tryz.prog l #[.pointer (some ⟨g,0,none⟩)] b fun e c=>
    (e= .returned (.bool true)∧J (pre++L++[x]) c∧KN b c)∨(e= .returned (.bool false)∧p (pre++L++[x]) c):=fun b F H=>by
   have:=hY (m-1) (pre++L) x b F H (by simp;omega);rw[n]at this;exact this
  have A:=af ((C (m-1) pre W r i (by omega)).mono (R':=fun e b=>
    (e= .returned (.bool true)∧KN w b∧YieldAt Fence.wide (m-1) Tryz.prog l #[.pointer (some ⟨g,0,none⟩)] b fun e c=>
     (e= .returned (.bool true)∧J (pre++L++[x]) c∧KN b c)∨(e= .returned (.bool false)∧p (pre++L++[x]) c))∨
    (e= .returned (.bool false)∧∃q,q<+:L∧p (pre++q) b))
   (fun e b h=>h.elim (fun⟨he,V,j⟩=> .inl ⟨he,j,y b V j⟩) .inr));have B:=af (fun W r i=>D (m-1) (pre++L++[x]) W r i (by simp;omega));have T:W.cell? ⟨g,0,none⟩=some (.pointer Y):=(i _ _ I).cell 0;have HB:=af I;clear y C D hY P I n;refine callsIn_of_wp Tryz.func170 rfl trivial ?_ rfl;simp only[Tryz.ntmps170,List.size_toArray,List.length_cons,List.length_nil,Nat.reduceAdd,Nat.reduceSub,Array.replicate_succ,Array.replicate_zero,List.push_toArray,List.append_toArray,List.nil_append,List.cons_append];gi_wp2_with((try refine⟨trivial,d _,?_⟩);gi_at_call 170;refine A.out.mono ?_;clear A;rintro e b(⟨rfl,f,fn,tmps,assign,body,ac,Q⟩|⟨rfl,q,n,K⟩))
  ·have o:=af f;have U:b.cell? ⟨g,1,none⟩=some (.pointer ra):=(f _ _ HB.out).cell 1;clear f T;refine⟨d _,?_⟩;refine Q.mono ?_;clear Q;rintro e c(⟨rfl,s,u⟩|⟨rfl,M⟩)
   ·have j:=o.out.trans u;have S:=af j;have E:=af s;have U:c.cell? ⟨g,1,none⟩=some (.pointer ra):=(j _ _ HB.out).cell 1;clear j u s o;gi_wp2_with((try refine⟨trivial,d _,?_⟩);gi_at_call 170;refine(B.out _ E.out S.out).mono ?_;clear B;rintro e Z(⟨rfl,G,hk3⟩|⟨rfl,q,n,O⟩));·go_ret;exact .inl ⟨rfl,by simpa[List.append_assoc]using G,hk3⟩
    ·go_ret;exact .inr ⟨rfl,L++x::q,by
      obtain⟨z,rfl⟩:=n;exact⟨z,by simp⟩,by simpa[List.append_assoc]using O⟩
   ·gi_wp2_with(refine fJ rfl ?_);go_ret;exact .inr ⟨rfl,L++[x],by exact⟨R,by simp⟩,by simpa[List.append_assoc]using M⟩
  ·refine⟨fun _ h=>(by cases h),?_⟩;gi_wp2_with(refine fJ rfl ?_);go_ret;exact .inr ⟨rfl,q,n.trans (List.prefix_append _ _),K⟩
theorem yI(m B s:Nat)(a:Option Addr)(t:Tr)(w:World)(L:List (oz w))(r:Ord w a t L)(f:aq w B 25 #[.pointer (some ⟨s,0,none⟩)])(i:aq w s 174 #[.pointer a]):
  SeqStopsK Fence.wide m Tryz.prog 169 #[.pointer (some ⟨B,0,none⟩)] (fun x:oz w=>#[Value.pointer (some ⟨x.1.g,0,none⟩)]) KN (fun C=>C=L) (fun pre=>pre<+:L) L.length w:=by
 intro l G n W c _ _ u o;have d:∀k:Nat,(Fence.wide.depth.isSome=true→1≤k):=fun k h=>by cases h
 have j:=Iu l L.length w G n (fun m pre x W v _ y=>YieldAt.ju rfl m (u pre x W v y)) r (m-1) [] W o (KN.below c) (by simp);have E:W.cell? ⟨B,0,none⟩=some (.pointer (some ⟨s,0,none⟩)):=(c.cell (p:=⟨B,0,none⟩) f.lt).trans (f.cell 0);have F:W.cell? ⟨s,0,none⟩=some (.pointer a):=(c.cell (p:=⟨s,0,none⟩) i.lt).trans (i.cell 0);refine callsIn_of_wp Tryz.func169 rfl trivial ?_ rfl;simp only[Tryz.ntmps169,List.size_toArray,List.length_cons,List.length_nil,Nat.reduceAdd,Nat.reduceSub,Array.replicate_succ,Array.replicate_zero,List.push_toArray,List.append_toArray,List.nil_append,List.cons_append];gi_wp2_with((try refine⟨trivial,d _,?_⟩);gi_at_call 170;refine j.mono ?_;clear j;rintro e D(⟨rfl,b,_⟩|⟨rfl,q,z,A⟩));·go_end0;exact⟨⟨_,rfl⟩, .inl ⟨_,rfl,by simpa using b⟩⟩
 ·go_end0;exact⟨⟨_,rfl⟩, .inr ⟨q,z,by simpa using A⟩⟩
end Go.Proofs.YtphjagkehiklkaaGreatDoor
namespace Go.Proofs.YtphjagkehiklkaaGreatDoor
open Go.ChangeShapes Go.WideShapes Go.ChangeAt Go.RowKit
theorem rS:Tryz.prog.cellsOf 3=1:=by kernel_rfl
theorem rT:Tryz.prog.cellsOf 9=1:=by kernel_rfl
theorem uA:Tryz.prog.cellsOf 4=1:=by kernel_rfl
theorem zJ:Tryz.prog.cellsOf 245=5:=by kernel_rfl
theorem Eu:Tryz.prog.cellsOf 247=7:=by kernel_rfl
theorem xf:Tryz.prog.cellsOf 189=6:=by kernel_rfl
theorem Cm:Tryz.prog.cellsOf 190=126:=by kernel_rfl
theorem xo:Tryz.prog.globalNamed "replevin/object.usages"=some 0:=by kernel_rfl
theorem D3:(Tryz.prog.globals[0]?).map (·.type)=some 190:=by kernel_rfl
def gX.datum{H:Type}(u:gX):DataW H:= .agg [.lit (.string u.word.data.toList), .lit (.bool u.owner), .lit (.bool u.number), .lit (.bool u.index), .lit (.bool u.text), .lit (.int .i64 u.aP)]
theorem Hd:(Rows.laid_replevin_object_usages:DataW Unit)= .agg (ik.map gX.datum):=by kernel_rfl
theorem Gy{H:Type}{enc:TypeId×Value→H}{w:World}{base:Nat}{sp:Nat→Bool}{held:Bool}{fuel:Nat}{l:List Value}{u:gX}{x:DataW H×List MemPlace}(m:x.1=u.datum)
  (h:DataW.trod enc Tryz.prog w base sp held fuel 189 l=some x):l=u.cells:=by
 obtain⟨s,v,_,rfl,b,c,a⟩:=DataW.trod_struct Tryz.underlying189 h;rw[xf]at b;match l,b with
 |[y,z,A,x3,B,C],_=>
  have g0:=a 0 _ rfl;have g1:=a 1 _ rfl;have g2:=a 2 _ rfl;have g3:=a 3 _ rfl;have g4:=a 4 _ rfl;have g5:=a 5 _ rfl;match s,c with
  |[D,E,F,y3,y4,G],_=>
   simp[rS,rT,uA]at g0 g1 g2 g3 g4 g5;obtain⟨a0,d,rfl,_⟩:=DataW.trod_string Tryz.underlying9 g0;obtain⟨t,e,rfl⟩:=DataW.trod_bool Tryz.underlying4 g1;obtain⟨a2,f,rfl⟩:=DataW.trod_bool Tryz.underlying4 g2;obtain⟨a3,g,rfl⟩:=DataW.trod_bool Tryz.underlying4 g3;obtain⟨a4,i,rfl⟩:=DataW.trod_bool Tryz.underlying4 g4;obtain⟨a5,j,rfl,_⟩:=DataW.trod_int Tryz.underlying3 g5;simp only[List.cons.injEq,and_true]at d e f g i j;subst d e f g i j;simp only[gX.datum,List.map_cons,List.map_nil,DataW.agg.injEq,List.cons.injEq,DataW.lit.injEq,Lit.string.injEq,Lit.bool.injEq,Lit.int.injEq,and_true,true_and]at m;obtain⟨k,n,o,p,q,r⟩:=m;have hw:a0=u.word:=by
    cases a0;cases hu:u.word;rw[hu]at k;simpa[Array.toList_inj]using k
   rw[gX.cells,hw,n,o,p,q,r]
theorem Ki{W:World}{rest:List (String×DataW Unit)}(h:laidMet Tryz.prog (("replevin/object.usages",Rows.laid_replevin_object_usages)::rest) W):ed W:=by
 obtain⟨z,⟨y,A,cs,fuel,p,q,c,e,b,r,_,_⟩,_⟩:=h;obtain rfl:=Option.some.inj (xo.symm.trans c);obtain rfl:=Option.some.inj (D3.symm.trans e);obtain⟨xs,m,_,i,w,x,s⟩:=DataW.trod_array Tryz.underlying190 r;rw[Cm]at w;refine⟨fun k u n j v f=>?_⟩;have d:k<21:=by
  have:=(List.getElem?_eq_some_iff.1 n).1;simpa[ik]using this
 have g:=s k d;rw[xf,List.getElem?_eq_getElem (by omega)]at g;have a:(xs[k]).1=u.datum:=by
  rw[Hd]at i;simp only[Prod.mk.injEq,DataW.agg.injEq]at i;have l:=congrArg (·[k]?) i.1;simp only[List.getElem?_map,n,Option.map_some,List.getElem?_eq_getElem (show k<xs.length by omega),Option.some.injEq]at l;exact l.symm
 have o:=Gy a g;have t:j<6:=by
  have:=(List.getElem?_eq_some_iff.1 f).1;simpa[gX.cells]using this
 refine World.var?_cell xo b (k*6+j)|>.trans ?_;rw[←o,List.getElem?_take_of_lt t,List.getElem?_drop]at f;simpa using f
end Go.Proofs.YtphjagkehiklkaaGreatDoor
