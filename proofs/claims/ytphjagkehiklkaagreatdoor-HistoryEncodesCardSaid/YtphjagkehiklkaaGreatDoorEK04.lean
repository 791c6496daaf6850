/- Texts. -/
import Derived.Test.YtphjagkehiklkaaGreatDoorCards
import Derived.Test.YtphjagkehiklkaaGreatDoorEK03
set_option linter.unusedVariables false
set_option linter.unusedSimpArgs false
set_option maxRecDepth 100000
set_option maxHeartbeats 4000000
namespace Go.Proofs.YtphjagkehiklkaaGreatDoor
open Proofs.Tryz Go.RowKit
def bJ(w:World)(v:Value)(e:Ending)(w':World):Prop:=e= .returned v/\w=w'
def aX(p:Prop):Prop:=p
theorem aX.go{p:Prop}(h:aX p):p:=h
theorem kK{P:Program}(w:World)(b:Addr)(ty:TypeId)(cs:List Value)(d:TypeDesc)(f:∀j v,cs[j]? =some v->w.cell? (b.add j)=some v)
  (hu:P.underlying ty=some d)(k:d.isRow=true)(e:(P.info? ty).map (·.size)=some cs.length):(loadVar ty b).run P w= .ok (.agg cs.toArray) w:=by
 have g:(loadCells b cs.length).run P w= .ok cs.toArray w:=run_loadCells_list (P:=P) w b cs f;cases c:P.info? ty with
 |none=>simp[c]at e
 |some i=>
  have h:i.size=cs.length:=by simpa[c]using e
  have a:(isAgg ty).run P w= .ok true w:=by
   unfold isAgg;rw[Sem.run_bind,run_underlying hu w];cases d<;>simp_all
  simp[loadVar,Sem.run_bind,a,sizeOf,typeInfo,c,h,g]
theorem au{P:Program}{op:Oper}{a:Act}{w:World}{K:Act->World->Prop}{Q:Exit->Act->World->Prop}(ty:TypeId)(x:Operand)(g:op.op= .load ty x)
  (b:Addr)(i:a.eval x= .pointer (some b))(cs:List Value)(d:TypeDesc)(c:∀j v,cs[j]? =some v->w.cell? (b.add j)=some v)
  (hu:P.underlying ty=some d)(e:d.isRow=true)(f:(P.info? ty).map (·.size)=some cs.length)
  (h:K (a.put op.dst (.agg cs.toArray)) w):op.wp P a w K Q:=by
 unfold Oper.wp execOp;simp only[g,i,Instr.loadAt,Instr.sureAddr,Sem.run_bind,Sem.run_pure,Result.andThen_ok,kK w b ty cs d c hu e f];exact h
theorem aB{P:Program}{ops:Array Oper}{rest:List Oper}{op:Oper}{a:Act}{w:World}{Q:Exit->Act->World->Prop}(c:op.guard=none)(ty:TypeId)(x:Operand)(k:op.op= .load ty x)
  (b:Addr)(l:a.eval x= .pointer (some b))(cs:List Value)(d:TypeDesc)(f:∀j v,cs[j]? =some v->w.cell? (b.add j)=some v)
  (hu:P.underlying ty=some d)(g:d.isRow=true)(i:(P.info? ty).map (·.size)=some cs.length)
  (h:wpList P ops Q rest (a.put op.dst (.agg cs.toArray)) w):wpList P ops Q (op::rest) a w:=
 wpList_plain c λ_ e=>au ty x k b l cs d f hu g i (e _ _ h)
structure aG where
 kind:Int
 owner:ByteArray
 number:Int
 index:Int
 text:ByteArray
def aG.cells(n:aG):List Value:=[.int .i64 n.kind, .string n.owner, .int .i64 n.number, .int .i64 n.index, .string n.text]
def aG.val(n:aG):Value:= .agg n.cells.toArray
theorem aG.eM(n:aG):n.cells.length=5:=rfl
theorem aW:(prog.info? 106).map (·.size)=some 5:=by kernel_rfl
inductive Tr where
 |leaf
 |node(l:Tr)(nm:aG)(v:ByteArray)(r:Tr)
def Tr.cO:Tr->Nat
 | .leaf=>0
 | .node l _ _ r=>1+max l.cO r.cO
def Tr.size:Tr->Nat
 | .leaf=>0
 | .node l _ _ r=>1+l.size+r.size
def Tr.bytes:Tr->Nat
 | .leaf=>0
 | .node l _ v r=>v.size+l.bytes+r.bytes
theorem Tr.kA:∀t:Tr,t.cO<=t.size
 | .leaf=>Nat.le_refl _
 | .node l _ _ r=>by
  have:=l.kA;have:=r.kA;simp only[Tr.cO,Tr.size];omega
def oB(a ra:Option Addr)(t:Tr):List Value:=
 match t with
 | .leaf=>[]
 | .node _ nm v _=>[.pointer a, .pointer ra]++nm.cells++[.string v, .int .i64 (t.cO:Nat), .int .i64 (t.size:Nat), .int .i64 (t.bytes:Nat)]
theorem AH(a ra:Option Addr)(nm:aG)(v:ByteArray)(h z y:Int):
  prog.built 177 [(0, .pointer a),(1, .pointer ra),(2, .agg #[.int .i64 nm.kind, .string nm.owner, .int .i64 nm.number, .int .i64 nm.index, .string nm.text]),(3, .string v),(4, .int .i64 h),(5, .int .i64 z),(6, .int .i64 y)]=some #[.pointer a, .pointer ra, .int .i64 nm.kind, .string nm.owner, .int .i64 nm.number, .int .i64 nm.index, .string nm.text, .string v, .int .i64 h, .int .i64 z, .int .i64 y]:=by kernel_rfl
theorem dU{P:Program}{ops:Array Oper}{rest:List Oper}{j:Oper}{a:Act}{w:World}{Q:Exit->Act->World->Prop}(e:j.guard=none)(t:TypeId)(parts:Array (Nat×Operand))(f:j.op= .build t parts)
  (cells:Array Value)(c:List (Nat×Value))(g:(parts.map λ(i,x)=>(i,a.eval x)).toList=c)(b:P.built t c=some cells)(h:wpList P ops Q rest (a.put j.dst (.agg cells)) w):wpList P ops Q (j::rest) a w:=by
 subst g;exact wpList_plain e λ_ d=>wp_build t parts f (by rw[b];rfl) (by rw[b];exact d _ _ h)
def ck(w:World):Option Addr->Tr->Prop
 |a, .leaf=>a=none
 |a, .node l nm v r=>∃g b ra,a=some ⟨g,0,none⟩/\ck w b l/\ck w ra r/\aq w g 177 (oB b ra (.node l nm v r)).toArray
theorem ck.ao{w w':World}:∀{a:Option Addr}{t:Tr},ck w a t->Fr Nothing w w'->ck w' a t
 |_, .leaf,h,_=>h
 |_, .node _ _ _ _,⟨g,i,ra,e,c,d,f⟩,b=>⟨g,i,ra,e,c.ao b,d.ao b,f.fr b id⟩
structure Mid(w:World)(g:Nat)(nm:aG)(v:ByteArray):Prop where
 name:∀j x,nm.cells[j]? =some x->w.cell? ⟨g,2+j,none⟩=some x
 val:w.cell? ⟨g,7,none⟩=some (.string v)
theorem Mid.ao{w w':World}{g:Nat}{nm:aG}{v:ByteArray}(h:Mid w g nm v)(a:Fr Nothing w w'):Mid w' g nm v:=
 ⟨λj x b=>a.ak (h.name j x b) id,a.ak h.val id⟩
theorem Mid.of{w:World}{g:Nat}{a b c d e:Value}{nm:aG}{v:ByteArray}(h:aq w g 177 ([a,b]++nm.cells++[.string v,c,d,e]).toArray):Mid w g nm v:=by
 refine⟨λj x f=>?_,h.cell 7⟩;have i:j<5:=(List.getElem?_eq_some_iff.1 f).1;rw[h.cell,bP,List.append_assoc,List.getElem?_append_right (by simp),List.getElem?_append_left (by simp[aG.cells];omega)];rw[show 2+j-[a,b].length=j by simp];exact f
theorem ck.kF{w:World}{g:Nat}{l r:Tr}{nm:aG}{v:ByteArray}(h:ck w (some ⟨g,0,none⟩) (.node l nm v r)):Mid w g nm v:=by
 obtain⟨b,c,ra,e,_,_,a⟩:=h;cases e;exact Mid.of a
theorem fH(w:World)(a:Option Addr)(t:Tr)(h:ck w a t):Calls prog 181 #[.pointer a] w (bJ w (.int .i64 (t.cO:Nat))):=by
 cases t with
 |leaf=>
  obtain rfl:a=none:=h;go_enter func181,ntmps181;go_wp2;go_ret;exact⟨rfl,rfl⟩
 |node l nm v r=>
  obtain⟨g,d,ra,rfl,_,_,b⟩:=h;have c:w.cell? ⟨g,8,none⟩=some (.int .i64 ((Tr.node l nm v r).cO:Nat)):=b.cell 8;generalize(Tr.node l nm v r).cO=x at*;clear b;go_enter func181,ntmps181;go_wp2;go_ret;exact⟨rfl,rfl⟩
theorem pR(w:World)(a:Option Addr)(t:Tr)(h:ck w a t):Calls prog 137 #[.pointer a] w (bJ w (.int .i64 (t.size:Nat))):=by
 cases t with
 |leaf=>
  obtain rfl:a=none:=h;go_enter func137,ntmps137;go_wp2;go_ret;exact⟨rfl,rfl⟩
 |node l nm v r=>
  obtain⟨g,d,ra,rfl,_,_,b⟩:=h;have c:w.cell? ⟨g,9,none⟩=some (.int .i64 ((Tr.node l nm v r).size:Nat)):=b.cell 9;generalize(Tr.node l nm v r).size=x at*;clear b;go_enter func137,ntmps137;go_wp2;go_ret;exact⟨rfl,rfl⟩
theorem og(w:World)(a:Option Addr)(t:Tr)(h:ck w a t):Calls prog 138 #[.pointer a] w (bJ w (.int .i64 (t.bytes:Nat))):=by
 cases t with
 |leaf=>
  obtain rfl:a=none:=h;go_enter func138,ntmps138;go_wp2;go_ret;exact⟨rfl,rfl⟩
 |node l nm v r=>
  obtain⟨g,d,ra,rfl,_,_,b⟩:=h;have c:w.cell? ⟨g,10,none⟩=some (.int .i64 ((Tr.node l nm v r).bytes:Nat)):=b.cell 10;generalize(Tr.node l nm v r).bytes=x at*;clear b;go_enter func138,ntmps138;go_wp2;go_ret;exact⟨rfl,rfl⟩
theorem fK(w:World)(m ra:Option Addr)(l r:Tr)(g:Nat)(nm:aG)(v:ByteArray)(n:ck w m l)(o:ck w ra r)(Q:Mid w g nm v)(aP:l.size+r.size<=1048576)(aO:v.size+l.bytes+r.bytes<=1099511627776):
  Calls prog 178 #[.pointer m, .pointer (some ⟨g,0,none⟩), .pointer ra] w (λe w'=>∃a,e= .returned (.pointer a)/\ck w' a (.node l nm v r)/\Fr Nothing w w'):=by
 have t:Hid (∀w',Fr Nothing w w'->Calls prog 181 #[.pointer m] w' (bJ w' (.int .i64 (l.cO:Nat)))):=λw' k=>fH w' m l (n.ao k);have y:Hid (∀w',Fr Nothing w w'->Calls prog 181 #[.pointer ra] w' (bJ w' (.int .i64 (r.cO:Nat)))):=λw' k=>fH w' ra r (o.ao k);have z:Hid (∀w',Fr Nothing w w'->Calls prog 137 #[.pointer m] w' (bJ w' (.int .i64 (l.size:Nat)))):=λw' k=>pR w' m l (n.ao k);have A:Hid (∀w',Fr Nothing w w'->Calls prog 137 #[.pointer ra] w' (bJ w' (.int .i64 (r.size:Nat)))):=λw' k=>pR w' ra r (o.ao k);have q:Hid (∀w',Fr Nothing w w'->Calls prog 138 #[.pointer m] w' (bJ w' (.int .i64 (l.bytes:Nat)))):=λw' k=>og w' m l (n.ao k);have s:Hid (∀w',Fr Nothing w w'->Calls prog 138 #[.pointer ra] w' (bJ w' (.int .i64 (r.bytes:Nat)))):=λw' k=>og w' ra r (o.ao k);have X:=af Q;have D:=l.kA;have E:=r.kA;have W:Hid (∀w' V,Fr Nothing w w'->aq w' V 177 (oB m ra (.node l nm v r)).toArray->ck w' (some ⟨V,0,none⟩) (.node l nm v r)):=λw' V k a9=>⟨V,m,ra,rfl,n.ao k,o.ao k,a9⟩;have p:Hid (oB m ra (.node l nm v r)=[.pointer m, .pointer ra]++nm.cells++[.string v, .int .i64 ((1+max l.cO r.cO:Nat):Int), .int .i64 ((1+l.size+r.size:Nat):Int), .int .i64 ((v.size+l.bytes+r.bytes:Nat):Int)]):=rfl;generalize oB m ra (.node l nm v r)=B at*;obtain⟨H,M⟩:∃H,H=l.cO:=⟨_,rfl⟩;obtain⟨I,N⟩:∃I,I=r.cO:=⟨_,rfl⟩;obtain⟨sl,O⟩:∃sl,sl=l.size:=⟨_,rfl⟩;obtain⟨J,P⟩:∃J,J=r.size:=⟨_,rfl⟩;obtain⟨F,K⟩:∃F,F=l.bytes:=⟨_,rfl⟩;obtain⟨G,L⟩:∃G,G=r.bytes:=⟨_,rfl⟩;rw[<-M]at t D p;rw[<-N]at y E p;rw[<-O]at z aP D p;rw[<-P]at A aP E p;rw[<-K]at q aO p;rw[<-L]at s aO p;obtain⟨hm,ac⟩:∃hm:Nat,max (H:Int) (I:Int)=(hm:Int):=⟨max H I,by omega⟩;obtain⟨C,ab⟩:∃C:Nat,(1:Int)+(hm:Int)=(C:Int):=⟨1+hm,by omega⟩;obtain⟨s1,ad⟩:∃s1:Nat,(1:Int)+(sl:Int)=(s1:Int):=⟨1+sl,by omega⟩;obtain⟨s2,ae⟩:∃s2:Nat,(s1:Int)+(J:Int)=(s2:Int):=⟨s1+J,by omega⟩;obtain⟨b1,Z⟩:∃b1:Nat,(v.size:Int)+(F:Int)=(b1:Int):=⟨v.size+F,by omega⟩;obtain⟨b2,aa⟩:∃b2:Nat,(b1:Int)+(G:Int)=(b2:Int):=⟨b1+G,by omega⟩;have bc:IntKind.i64.wrap (C:Int)=(C:Int):=IntWalk.i64_in _ (by omega);have aS:IntKind.i64.wrap (s1:Int)=(s1:Int):=IntWalk.i64_in _ (by omega);have aT:IntKind.i64.wrap (s2:Int)=(s2:Int):=IntWalk.i64_in _ (by omega);have aQ:IntKind.i64.wrap (b1:Int)=(b1:Int):=IntWalk.i64_in _ (by omega);have aR:IntKind.i64.wrap (b2:Int)=(b2:Int):=IntWalk.i64_in _ (by omega);rw[show(1+max H I:Nat)=C by omega,show(1+sl+J:Nat)=s2 by omega,show v.size+F+G=b2 by omega]at p;have a1:Hid (prog.built 177 [(0, .pointer m),(1, .pointer ra),(2, .agg nm.cells.toArray),(3, .string v),(4, .int .i64 (C:Nat)),(5, .int .i64 (s2:Nat)),(6, .int .i64 (b2:Nat))]=some B.toArray):=by rw[p.out];exact AH m ra nm v _ _ _
 clear n o Q M N O P K L D E aP aO;go_enter func178,ntmps178;go_upto_region 1 with fail;refine ay 33 Nothing [Is (.pointer m),Is (.pointer ra),Is (.pointer (some ⟨g,0,none⟩)),Is (.pointer (some ⟨g,0,none⟩)),Is (.pointer (some ⟨g,2,none⟩)),Is (.agg nm.cells.toArray),Is (.pointer (some ⟨g,0,none⟩)),Is (.pointer (some ⟨g,0,none⟩)),Is (.pointer (some ⟨g,7,none⟩)),Is (.string v),Is (.pointer m),Is (.int .i64 H),Is (.pointer ra),Is (.int .i64 I),Is (.int .i64 hm),Is (.int .i64 C),Is (.pointer m),Is (.int .i64 sl),Is (.int .i64 s1),Is (.pointer ra),Is (.int .i64 J),Is (.int .i64 s2),Is (.pointer (some ⟨g,0,none⟩)),Is (.pointer (some ⟨g,0,none⟩)),Is (.pointer (some ⟨g,7,none⟩)),Is (.string v),Is (.int .i64 v.size),Is (.pointer m),Is (.int .i64 F),Is (.int .i64 b1),Is (.pointer ra),Is (.int .i64 G),Is (.int .i64 b2)] [] (λ_=>True) (λ_ _=>false) (by kernel_rfl) (by kernel_rfl) (by kernel_rfl) (by kernel_rfl) ⟨Is.ag _,Is.ag _,Is.ag _,Is.ag _,Is.ag _,Is.ag _,Is.ag _,Is.ag _,Is.ag _,Is.ag _,Is.ag _,Is.ag _,Is.ag _,Is.ag _,Is.ag _,Is.ag _,Is.ag _,Is.ag _,Is.ag _,Is.ag _,Is.ag _,Is.ag _,Is.ag _,Is.ag _,Is.ag _,Is.ag _,Is.ag _,Is.ag _,Is.ag _,Is.ag _,Is.ag _,Is.ag _,Is.ag _,trivial⟩ trivial (λ_ _ _ _ h=>h) trivial ?_ ?_
 ·refine⟨?_,?_,?_,?_,?_,?_,?_,?_,?_,?_,?_,?_,?_,?_,?_,?_,?_,?_,?_,?_,?_,?_,?_,?_,?_,?_,?_,?_,?_,?_,?_,?_,?_,trivial⟩;all_goals intro u w' d k b f c i
  all_goals simp only[bC,bD,bE,bF,ar,Act.put,bG,bH,bI,Nat.reduceAdd,Nat.zero_add]
  ·clear b f c i;refine aj ?_;go_simp;exact⟨_,rfl,al⟩
  ·clear b f c i;refine aj ?_;go_simp;exact⟨_,rfl,al⟩
  ·clear b f c i;refine aj ?_;go_simp;exact⟨_,rfl,al⟩
  ·have a3:u 2=_:=b 2;clear b f c i;simp only[a3];refine aj ?_;go_simp;exact⟨_,rfl,al⟩
  ·have a4:u 3=_:=b 3;clear b f c i;simp only[a4];refine aj ?_;go_simp;exact⟨_,rfl,al⟩
  ·have a5:u 4=_:=b 4;clear b f c i;simp only[a5];refine aj ?_;exact au _ _ rfl ⟨g,2,none⟩ rfl nm.cells _ (λj x bb=>by rw[Addr.add_mid];exact k.ak (X.out.name j x bb) id) underlying106 rfl aW ⟨_,rfl,al⟩
  ·clear b f c i;refine aj ?_;go_simp;exact⟨_,rfl,al⟩
  ·have a6:u 6=_:=b 6;clear b f c i;simp only[a6];refine aj ?_;go_simp;exact⟨_,rfl,al⟩
  ·have a7:u 7=_:=b 7;clear b f c i;simp only[a7];refine aj ?_;go_simp;exact⟨_,rfl,al⟩
  ·have a8:u 8=_:=b 8;clear b f c i;simp only[a8];refine aj ?_;have ba:w'.cell? ⟨g,7,none⟩=some (.string v):=k.ak X.out.val id;go_simp;exact⟨_,rfl,al⟩
  ·clear b f c i;refine aj ?_;go_simp;exact⟨_,rfl,al⟩
  ·have ah:u 10=_:=b 10;clear b f c i;simp only[ah];refine aj ?_;go_simp;refine(t.out _ k).mono ?_;rintro e U⟨rfl,rfl⟩;exact⟨_,rfl,al⟩
  ·clear b f c i;refine aj ?_;go_simp;exact⟨_,rfl,al⟩
  ·have am:u 12=_:=b 12;clear b f c i;simp only[am];refine aj ?_;go_simp;refine(y.out _ k).mono ?_;rintro e U⟨rfl,rfl⟩;exact⟨_,rfl,al⟩
  ·have ai:u 11=_:=b 11;have an:u 13=_:=b 13;clear b f c i;simp only[ai,an];refine aj ?_;go_simp;exact⟨_,rfl,al⟩
  ·have ap:u 14=_:=b 14;clear b f c i;simp only[ap];refine aj ?_;go_simp;exact⟨_,rfl,al⟩
  ·clear b f c i;refine aj ?_;go_simp;exact⟨_,rfl,al⟩
  ·have av:u 16=_:=b 16;clear b f c i;simp only[av];refine aj ?_;go_simp;refine(z.out _ k).mono ?_;rintro e U⟨rfl,rfl⟩;exact⟨_,rfl,al⟩
  ·have aw:u 17=_:=b 17;clear b f c i;simp only[aw];refine aj ?_;go_simp;exact⟨_,rfl,al⟩
  ·clear b f c i;refine aj ?_;go_simp;exact⟨_,rfl,al⟩
  ·have az:u 19=_:=b 19;clear b f c i;simp only[az];refine aj ?_;go_simp;refine(A.out _ k).mono ?_;rintro e U⟨rfl,rfl⟩;exact⟨_,rfl,al⟩
  ·have ax:u 18=_:=b 18;have aA:u 20=_:=b 20;clear b f c i;simp only[ax,aA];refine aj ?_;go_simp;exact⟨_,rfl,al⟩
  ·clear b f c i;refine aj ?_;go_simp;exact⟨_,rfl,al⟩
  ·have aB:u 22=_:=b 22;clear b f c i;simp only[aB];refine aj ?_;go_simp;exact⟨_,rfl,al⟩
  ·have aC:u 23=_:=b 23;clear b f c i;simp only[aC];refine aj ?_;go_simp;exact⟨_,rfl,al⟩
  ·have aE:u 24=_:=b 24;clear b f c i;simp only[aE];refine aj ?_;have ba:w'.cell? ⟨g,7,none⟩=some (.string v):=k.ak X.out.val id;go_simp;exact⟨_,rfl,al⟩
  ·have aH:u 25=_:=b 25;clear b f c i;simp only[aH];refine aj ?_;go_simp;exact⟨_,rfl,al⟩
  ·clear b f c i;refine aj ?_;go_simp;exact⟨_,rfl,al⟩
  ·have aJ:u 27=_:=b 27;clear b f c i;simp only[aJ];refine aj ?_;go_simp;refine(q.out _ k).mono ?_;rintro e U⟨rfl,rfl⟩;exact⟨_,rfl,al⟩
  ·have aI:u 26=_:=b 26;have aK:u 28=_:=b 28;clear b f c i;simp only[aI,aK];refine aj ?_;go_simp;exact⟨_,rfl,al⟩
  ·clear b f c i;refine aj ?_;go_simp;exact⟨_,rfl,al⟩
  ·have aM:u 30=_:=b 30;clear b f c i;simp only[aM];refine aj ?_;go_simp;refine(s.out _ k).mono ?_;rintro e U⟨rfl,rfl⟩;exact⟨_,rfl,al⟩
  ·have aL:u 29=_:=b 29;have aN:u 31=_:=b 31;clear b f c i;simp only[aL,aN];refine aj ?_;go_simp;exact⟨_,rfl,al⟩
 ·intro u w' k b i;have c:u 0=_:=b 0 (by omega);have f:u 1=_:=b 1 (by omega);have aY:u 5=_:=b 5 (by omega);have aZ:u 9=_:=b 9 (by omega);have R:u 15=_:=b 15 (by omega);have S:u 21=_:=b 21 (by omega);have T:u 32=_:=b 32 (by omega);clear b i;simp only[bC,bD,bE,bF,ar,Act.put,bG,bH,bI,dt,du,Nat.reduceAdd,Nat.zero_add,c,f,aY,aZ,R,S,T];have aU:=af k;clear k c f aY aZ R S T ac ab ad ae Z aa bc aS aT aQ aR t y z A q s;go_wp2_with(refine dU rfl 177 _ rfl B.toArray _ (by simp only[List.map_toArray,List.map_cons,List.map_nil];rfl) a1.out (aX.go ?hold));unfold aX;go_wp2_with(refine aD rfl 177 (.tmp 40) rfl B.toArray rfl ?_);intro w2 a0;have Y:=af a0;clear a0;generalize aV:w'.heap.size=g2 at*;have a2:=af aV;clear aV;go_wp2;go_ret;exact⟨_,rfl,W.out w2 g2 (aU.out.trans Y.out.fr) (by have h:=Y.out.aF;rw[a2.out]at h;exact h),aU.out.trans Y.out.fr⟩
theorem vY(a:Int)(w:World):Calls prog 164 #[.int .i64 a] w (bJ w (.bool false)):=by
 go_enter func164,ntmps164;go_wp2;go_ret;exact⟨rfl,rfl⟩
def Ge(a b:Int):Int:=if a<b then-1 else if b<a then 1 else 0
theorem iT(a b:Int)(w:World):Calls prog 133 #[.int .i64 a, .int .i64 b] w (bJ w (.int .i64 (Ge a b))):=by
 have f:=af (λw=>vY a w);have g:=af (λw=>vY b w);unfold Ge;by_cases c:a<b;·rw[if_pos c];have t1:decide (a<b)=true:=decide_eq_true c;clear c;go_enter func133,ntmps133;go_wp2_with fail;refine(f.out _).mono ?_;rintro e w'⟨rfl,rfl⟩;go_wp2_with fail;refine(g.out _).mono ?_;rintro e w'⟨rfl,rfl⟩;go_wp2;go_ret;exact⟨rfl,rfl⟩
 ·rw[if_neg c];have t1:decide (a<b)=false:=decide_eq_false c;by_cases d:b<a;·rw[if_pos d];have t2:decide (b<a)=true:=decide_eq_true d;clear c d;go_enter func133,ntmps133;go_wp2_with fail;refine(f.out _).mono ?_;rintro e w'⟨rfl,rfl⟩;go_wp2_with fail;refine(g.out _).mono ?_;rintro e w'⟨rfl,rfl⟩;go_wp2;go_ret;exact⟨rfl,rfl⟩
  ·rw[if_neg d];have t2:decide (b<a)=false:=decide_eq_false d;go_enter func133,ntmps133;go_wp2_with fail;refine(f.out _).mono ?_;rintro e w'⟨rfl,rfl⟩;go_wp2_with fail;refine(g.out _).mono ?_;rintro e w'⟨rfl,rfl⟩;go_wp2;go_ret;exact⟨rfl,rfl⟩
theorem Ev(a:ByteArray)(w:World):Calls prog 176 #[.string a] w (bJ w (.bool false)):=by
 go_enter func176,ntmps176;go_wp2;go_ret;exact⟨rfl,rfl⟩
theorem pF(a:ByteArray)(w:World):Calls prog 134 #[.string a, .string a] w (bJ w (.int .i64 0)):=by
 go_enter func134,ntmps134;go_wp2;go_ret;exact⟨rfl,rfl⟩
def oo:aG:=⟨15,ByteArray.empty,0,0,ByteArray.empty⟩
def lN:Array Value:=#[.int .i64 15, .string ByteArray.empty, .int .i64 0, .int .i64 0, .string ByteArray.empty]
def pG:Value:= .agg #[.int .i64 0, .string ByteArray.empty, .int .i64 0, .int .i64 0, .string ByteArray.empty]
theorem GI(w:World):(zeroValue 106).run prog w= .ok pG w:=by kernel_rfl
theorem AF:prog.built 106 [(0, .int .i64 15)]=some lN:=by kernel_rfl
theorem DY:lN.all (·.oneCell')=true:=by kernel_rfl
theorem rD(w:World):Calls prog 54 #[] w (aM w (.agg lN)):=by
 have B:=af AF;have O:=af DY;have j:Hid ((prog.info? 106).map (·.size)=some lN.size):=aW;have Z:Hid ((#[.int .i64 0, .string ByteArray.empty, .int .i64 0, .int .i64 0, .string ByteArray.empty]:Array Value).size=lN.size):=rfl;generalize lN=a at*;go_enter func54,ntmps54;go_wp2_with(refine an rfl 106 rfl pG GI #[.int .i64 0, .string ByteArray.empty, .int .i64 0, .int .i64 0, .string ByteArray.empty] rfl ?_);intro w1 n1;have b:=af n1;clear n1;go_wp2_with(refine dU rfl 106 #[(0, .const (.int .i64 15))] rfl a _ (by simp only[List.map_toArray,List.map_cons,List.map_nil];rfl) B.out (aX.go ?hold));unfold aX;refine ai rfl 106 (.tmp 0) _ rfl w.heap.size a rfl rfl _ _ b.out.aF j.out Z.out O.out ?_;intro c b5 f5;have d:=af b5;have f:Hid (Fr Nothing w c):=b.out.fr.aw f5 (λi h e=>by have g:i=w.heap.size:=e;omega);clear b5 f5;go_wp2;exact bodyPost_ret (results_cell_row (fn:=Tryz.f54) (p:=0) (ty:=106) results54 _ c _ 106 a (0,0) _ rfl d.out underlying106 rfl j.out) rfl ⟨rfl,f.out⟩
theorem sP(n nm:aG)(v:ByteArray)(l r:Tr)(g:Nat)(w:World)(hN:ck w (some ⟨g,0,none⟩) (.node l nm v r))
  (s:∀w',Fr Nothing w w'->Calls prog 128 #[.agg n.cells.toArray, .agg nm.cells.toArray] w' (aM w' (.int .i64 0))):
  Calls prog 108 #[.pointer (some ⟨g,0,none⟩), .agg n.cells.toArray] w (aM w (.pointer (some ⟨g,0,none⟩))):=by
 have t:=af s;have o:=af hN.kF;clear s hN;go_enter func108,ntmps108;go_wp2_with(refine aD rfl 106 (.tmp 1) rfl n.cells.toArray rfl ?_);intro w1 n1;have m:=af n1.fr;have k:=af n1.aF;clear n1;generalize w.heap.size=q at*;have A:Hid (aq w1 q 106 n.cells.toArray):=k.out;clear k;have z:=af (o.out.ao m.out);go_wp2;refine wp_loop_rounds 1 ?_;rw[rounds_succ];go_upto_region 2 with fail;refine ay 7 Nothing [Is (.agg n.cells.toArray),Is (.pointer (some ⟨g,0,none⟩)),Is (.pointer (some ⟨g,0,none⟩)),Is (.pointer (some ⟨g,2,none⟩)),Is (.agg nm.cells.toArray),Is (.int .i64 0),Is (.int .i64 0)] [] (λ_=>True) (λ_ _=>false) (by kernel_rfl) (by kernel_rfl) (by kernel_rfl) (by kernel_rfl) ⟨Is.ag _,Is.ag _,Is.ag _,Is.ag _,Is.ag _,Is.ag _,Is.ag _,trivial⟩ trivial (λ_ _ _ _ h=>h) trivial ?_ ?_
 ·refine⟨?_,?_,?_,?_,?_,?_,?_,trivial⟩;all_goals intro u w' d i a f c b
  all_goals simp only[bC,bD,bE,bF,ar,Act.put,bG,bH,bI,Nat.reduceAdd,Nat.zero_add]
  ·clear a f c b;refine aj ?_;exact au _ _ rfl ⟨q,0,none⟩ rfl n.cells _ (λj x p=>by rw[Addr.add_mid,Nat.zero_add];exact(A.out.fr i id).cell j|>.trans (by rw[bP];exact p)) underlying106 rfl aW ⟨_,rfl,al⟩
  ·clear a f c b;refine aj ?_;go_simp;exact⟨_,rfl,al⟩
  ·have C:u 1=_:=a 1;clear a f c b;simp only[C];refine aj ?_;go_simp;exact⟨_,rfl,al⟩
  ·have D:u 2=_:=a 2;clear a f c b;simp only[D];refine aj ?_;go_simp;exact⟨_,rfl,al⟩
  ·have E:u 3=_:=a 3;clear a f c b;simp only[E];refine aj ?_;exact au _ _ rfl ⟨g,2,none⟩ rfl nm.cells _ (λj x p=>by rw[Addr.add_mid];exact i.ak (z.out.name j x p) id) underlying106 rfl aW ⟨_,rfl,al⟩
  ·have B:u 0=_:=a 0;have F:u 4=_:=a 4;clear a f c b;simp only[B,F];refine aj ?_;go_simp;refine(t.out _ (m.out.trans i)).mono ?_;rintro e H⟨rfl,f4⟩;exact⟨_,rfl,f4.bR,rfl,trivial⟩
  ·have G:u 5=_:=a 5;clear a f c b;simp only[G];refine aj ?_;go_simp;exact⟨_,rfl,al⟩
 ·intro u w' i a b;have k6:u 6=_:=a 6 (by omega);clear a b;simp only[bC,bD,bE,bF,ar,Act.put,bG,bH,bI,dt,du,Nat.reduceAdd,Nat.zero_add,k6];have y:=af (m.out.trans i);clear i k6;go_wp2;go_ret;exact⟨rfl,y.out⟩
theorem Fz(nm:aG)(v:ByteArray)(g:Nat)(w:World)(c:Mid w g nm v)(h:v.size<=1099511627776):
  Calls prog 163 #[.pointer none, .pointer (some ⟨g,0,none⟩)] w (λe w'=>∃a,e= .returned (.pointer a)/\ck w' a (.node .leaf nm v .leaf)/\Fr Nothing w w'):=by
 have d:=af (fK w none none .leaf .leaf g nm v rfl rfl c (by simp[Tr.size]) (by simp only[Tr.bytes];omega));clear c;go_enter func163,ntmps163;go_wp2_with fail;refine d.out.mono ?_;rintro e w1⟨a,rfl,b,f1⟩;have H1:=af b;have f:=af f1;clear b f1;go_wp2;go_ret;exact⟨_,rfl,H1.out,f.out⟩
def str(l:List UInt8):ByteArray:=⟨l.toArray⟩
structure iE where
 word:ByteArray
 owner:Bool
 number:Bool
 index:Bool
 text:Bool
 aS:Int
def iE.cells(u:iE):List Value:=[.string u.word, .bool u.owner, .bool u.number, .bool u.index, .bool u.text, .int .i64 u.aS]
def iO:List iE:=[
 ⟨str [],false,false,false,false,0⟩,
 ⟨str [112,114,111,99,101,115,115],true,false,false,false,0⟩,
 ⟨str [114,101,103,105,115,116,101,114,115],true,false,false,false,0⟩,
 ⟨str [112,97,103,101],true,false,true,false,63⟩,
 ⟨str [116,97,98,108,101],true,false,false,false,0⟩,
 ⟨str [99,111,117,110,116,101,114],true,false,false,false,0⟩,
 ⟨str [112,101,110,100,105,110,103],true,false,false,false,0⟩,
 ⟨str [110,111,100,101],true,true,false,false,0⟩,
 ⟨str [98,108,111,99,107],true,true,true,false,63⟩,
 ⟨str [101,110,116,114,121],true,true,false,true,0⟩,
 ⟨str [108,105,115,116,105,110,103],true,true,false,false,0⟩,
 ⟨str [112,105,112,101],true,true,false,false,0⟩,
 ⟨str [108,111,99,107],true,true,false,false,0⟩,
 ⟨str [116,101,114,109,105,110,97,108],false,true,false,false,0⟩,
 ⟨str [97,99,99,111,117,110,116],false,false,false,true,0⟩,
 ⟨str [99,108,111,99,107],false,false,false,false,0⟩,
 ⟨str [112,111,114,116],false,true,false,false,0⟩,
 ⟨str [98,111,120],false,false,false,true,0⟩,
 ⟨str [111,117,116],true,true,true,false,1073741824⟩,
 ⟨str [115,104,101,108,108],true,false,false,false,0⟩,
 ⟨str [101,112,111,99,104],false,false,false,false,0⟩]
def IW:List Value:=[.string (str [99,108,111,99,107]), .bool false, .bool false, .bool false, .bool false, .int .i64 0]
structure dO(w:World):Prop where
 row:∀k u,iO[k]? =some u->∀j v,u.cells[j]? =some v->w.cell? ⟨0,k*6+j,none⟩=some v
theorem dO.ao{w w':World}(h:dO w)(a:Fr Nothing w w'):dO w':=⟨λk u b j v c=>a.ak (h.row k u b j v c) id⟩
theorem dO.clock{w:World}(h:dO w):∀j v,IW[j]? =some v->w.cell? ⟨0,90+j,none⟩=some v:=λj v a=>h.row 15 _ rfl j v a
def GB:Value:= .agg #[.string ByteArray.empty, .bool false, .bool false, .bool false, .bool false, .int .i64 0]
theorem xj(w:World):(zeroValue 189).run prog w= .ok GB w:=by kernel_rfl
theorem kB:(prog.info? 189).map (·.size)=some 6:=by kernel_rfl
def xo(w:World)(s:Nat)(t:Tr):Prop:=∃a,aq w s 174 #[.pointer a]/\ck w a t
theorem xo.ao{w w':World}{s:Nat}{t:Tr}(h:xo w s t)(b:Fr Nothing w w'):xo w' s t:=by
 obtain⟨a,c,d⟩:=h;exact⟨a,c.fr b id,d.ao b⟩
theorem iw{P:Program}{f:Oper}{a:Act}{w:World}{K:Act->World->Prop}{Q:Exit->Act->World->Prop}(t:TypeId)(parts:Array (Nat×Operand))(d:f.op= .build t parts)
  (cells:Array Value)(c:List (Nat×Value))(e:(parts.map λ(i,x)=>(i,a.eval x)).toList=c)(b:P.built t c=some cells)(h:K (a.put f.dst (.agg cells)) w):f.wp P a w K Q:=by
 subst e;exact wp_build t parts d (by rw[b];rfl) (by rw[b];exact h)
theorem o3(w:World):Calls prog 52 #[] w (λe w'=>∃s,e= .returned (.pointer (some ⟨s,0,none⟩))/\xo w' s .leaf/\Fr Nothing w w'):=by
 go_enter func52,ntmps52;go_wp2_with(refine aD rfl 174 (.tmp 1) rfl #[.pointer none] rfl ?_);intro w1 n1;have a:=af n1;clear n1;go_wp2;go_ret;exact⟨_,rfl,⟨none,a.out.aF,rfl⟩,a.out.fr⟩
theorem oZ(w:World)(s:Nat)(t:Tr)(h:xo w s t):Calls prog 94 #[.pointer (some ⟨s,0,none⟩)] w (bJ w (.int .i64 (t.size:Nat))):=by
 obtain⟨a,b,d⟩:=h;have f:=af (pR w a t d);have c:w.cell? ⟨s,0,none⟩=some (.pointer a):=b.cell 0;clear b d;go_enter func94,ntmps94;go_wp2_with fail;refine f.out.mono ?_;rintro e w'⟨rfl,rfl⟩;go_wp2;go_ret;exact⟨rfl,rfl⟩
theorem uQ(w:World)(s:Nat)(t:Tr)(h:xo w s t):Calls prog 95 #[.pointer (some ⟨s,0,none⟩)] w (bJ w (.int .i64 (t.bytes:Nat))):=by
 obtain⟨a,b,d⟩:=h;have f:=af (og w a t d);have c:w.cell? ⟨s,0,none⟩=some (.pointer a):=b.cell 0;clear b d;go_enter func95,ntmps95;go_wp2_with fail;refine f.out.mono ?_;rintro e w'⟨rfl,rfl⟩;go_wp2;go_ret;exact⟨rfl,rfl⟩
theorem aZ{P:Program}{ops:Array Oper}{rest:List Oper}{u:Oper}{a:Act}{w:World}{Q:Exit->Act->World->Prop}(j:u.guard=none)(ty:TypeId)(x y:Operand)(p:u.op= .store ty x y)
  (g f:Nat)(v:Value)(r:a.eval x= .pointer (some ⟨g,f,none⟩))(s:a.eval y=v)(m:v.oneCell'=true)(d:(P.info? ty).map (·.size)=some 1)
  (t:TypeId)(cs cs':Array Value)(e:aq w g t cs)(o:f<cs.size)(i:cs.setIfInBounds f v=cs')
  (h:∀w',aq w' g t cs'->Fr (λk=>k=g) w w'->wpList P ops Q rest (a.put u.dst undef) w'):wpList P ops Q (u::rest) a w:=by
 subst i;obtain⟨b,l,q⟩:∃b,P.info? ty=some b/\b.size=1:=by
  cases he:P.info? ty with
  |none=>rw[he]at d;cases d
  |some b=>rw[he]at d;exact⟨b,rfl,by simpa using d⟩
 have c:=Lib.rl_storeVar_one (P:=P) ty b l q ⟨g,f,none⟩ v (cs[f]) m w (by rw[e.cell];simp[o]) (e.frozen _);refine wpList_plain j λK n=>?_;unfold Oper.wp execOp;simp only[p,r,s,Instr.storeAt,Instr.sureAddr,Sem.run_bind,Sem.run_pure,Result.andThen_ok,c];exact n _ _ (h _ (e.kq f v) (Fr.setCell (T:=λk=>k=g) (Fr.refl _ w) (λ_=>rfl) v))
theorem lY{P:Program}{r:Oper}{a:Act}{w:World}{K:Act->World->Prop}{Q:Exit->Act->World->Prop}(ty:TypeId)(x y:Operand)(n:r.op= .store ty x y)
  (g f:Nat)(v:Value)(p:a.eval x= .pointer (some ⟨g,f,none⟩))(q:a.eval y=v)(l:v.oneCell'=true)(d:(P.info? ty).map (·.size)=some 1)
  (t:TypeId)(cs cs':Array Value)(e:aq w g t cs)(m:f<cs.size)(i:cs.setIfInBounds f v=cs')
  (h:∀w',aq w' g t cs'->Fr (λk=>k=g) w w'->K (a.put r.dst undef) w'):r.wp P a w K Q:=by
 subst i;obtain⟨b,j,o⟩:∃b,P.info? ty=some b/\b.size=1:=by
  cases he:P.info? ty with
  |none=>rw[he]at d;cases d
  |some b=>rw[he]at d;exact⟨b,rfl,by simpa using d⟩
 have c:=Lib.rl_storeVar_one (P:=P) ty b j o ⟨g,f,none⟩ v (cs[f]) l w (by rw[e.cell];simp[m]) (e.frozen _);unfold Oper.wp execOp;simp only[n,p,q,Instr.storeAt,Instr.sureAddr,Sem.run_bind,Sem.run_pure,Result.andThen_ok,c];exact h _ (e.kq f v) (Fr.setCell (T:=λk=>k=g) (Fr.refl _ w) (λ_=>rfl) v)
structure CV where
 nm:aG
 value:ByteArray
 bw:Bool
def CV.cells(c:CV):List Value:=c.nm.cells++[.string c.value, .bool c.bw]
theorem CV.eM(c:CV):c.cells.length=7:=rfl
def xY(s:ByteArray)(k:Int):ByteArray:=s.extract 0 (min (s.size:Int) k).toNat
def CV.cut(c:CV):CV:=⟨⟨c.nm.kind,xY c.nm.owner 100,c.nm.number,c.nm.index,xY c.nm.text 100⟩,xY c.value 200,c.bw⟩
theorem Et:(prog.info? 247).map (·.size)=some 7:=by kernel_rfl
theorem j4:(prog.info? 119).map (·.size)=some 7:=by kernel_rfl
theorem pD:(prog.info? 9).map (·.size)=some 1:=by kernel_rfl
theorem CV.one(c:CV):c.cells.toArray.all (·.oneCell')=true:=by
 simp[CV.cells,aG.cells,Value.oneCell']
theorem aG.one(n:aG):n.cells.toArray.all (·.oneCell')=true:=by
 simp[aG.cells,Value.oneCell']
theorem DS(n:aG):prog.built 106 [(0, .int .i64 n.kind),(1, .string n.owner),(2, .int .i64 n.number),(3, .int .i64 n.index),(4, .string n.text)]=some n.cells.toArray:=by kernel_rfl
theorem Jo(n:aG)(w:World):Calls prog 160 #[.agg n.cells.toArray] w (aM w (.agg n.cells.toArray)):=by
 have B:=af (DS n);have O:=af n.one;have D:Hid ((prog.info? 106).map (·.size)=some n.cells.toArray.size):=aW;have Z:Hid ((#[.int .i64 0, .string ByteArray.empty, .int .i64 0, .int .i64 0, .string ByteArray.empty]:Array Value).size=n.cells.toArray.size):=rfl;go_enter func160,ntmps160;go_wp2_with(refine aD rfl 245 (.tmp 0) rfl n.cells.toArray rfl ?_);intro w1 n1;have j:=af n1.fr;have k:=af n1.aF;clear n1;generalize w.heap.size=c at*;go_wp2_with(refine an rfl 106 rfl pG GI #[.int .i64 0, .string ByteArray.empty, .int .i64 0, .int .i64 0, .string ByteArray.empty] rfl ?_);intro w2 m;have f:=af m;clear m;have q:=af (j.out.trans f.out.fr);have a:=af (k.out.fr f.out.fr id);generalize d:w1.heap.size=g at*;have b:=af d;clear d;have l:Hid (aq w2 g 106 #[.int .i64 0, .string ByteArray.empty, .int .i64 0, .int .i64 0, .string ByteArray.empty]):=by have h:=f.out.aF;rw[b.out]at h;exact h
 have t:w2.cell? ⟨c,0,none⟩=some (.int .i64 n.kind):=a.out.cell 0;have u:w2.cell? ⟨c,1,none⟩=some (.string n.owner):=a.out.cell 1;have v:w2.cell? ⟨c,2,none⟩=some (.int .i64 n.number):=a.out.cell 2;have c3:w2.cell? ⟨c,3,none⟩=some (.int .i64 n.index):=a.out.cell 3;have x:w2.cell? ⟨c,4,none⟩=some (.string n.text):=a.out.cell 4;clear k;go_wp2_with(refine dU rfl 106 _ rfl n.cells.toArray _ (by simp only[List.map_toArray,List.map_cons,List.map_nil];rfl) B.out (aX.go ?hold));unfold aX;refine ai rfl 106 (.tmp 2) _ rfl g n.cells.toArray rfl rfl _ _ l.out D.out Z.out O.out ?_;intro o b5 f5;have r:=af b5;have s:Hid (Fr Nothing w o):=q.out.aw f5 (λi z e=>by have y:i=g:=e;have A:=b.out;have C:=j.out.size;omega);clear b5 f5 f a l b t u v c3 x;go_wp2;exact bodyPost_ret (results_cell_row (fn:=Tryz.f160) (p:=2) (ty:=106) results160 _ o _ 106 n.cells.toArray (0,0) _ rfl r.out underlying106 rfl D.out) rfl ⟨rfl,s.out⟩
theorem JQ:∀(xs:List CV)(k:Nat)(c:CV),xs[k]? =some c->∀j x,c.cells[j]? =some x->(xs.flatMap CV.cells)[k*7+j]? =some x
 |[],_,_,h,_,_,_=>by simp at h
 |y::b,0,c,h,j,x,a=>by
  simp only[List.getElem?_cons_zero,Option.some.injEq]at h;subst h;have d:j<7:=(List.getElem?_eq_some_iff.1 a).1;rw[List.flatMap_cons,Nat.zero_mul,Nat.zero_add,List.getElem?_append_left d];exact a
 |y::b,k+1,c,h,j,x,a=>by
  rw[List.flatMap_cons,List.getElem?_append_right (by rw[CV.eM];omega),CV.eM,show(k+1)*7+j-7=k*7+j by omega];exact JQ b k c (by simpa using h) j x a
structure CL(w:World)(S:Nat->Prop)(A:Option Addr)(n:Nat)(xs:List CV):Prop where
 rd:Rd w S 7 A n (xs.flatMap CV.cells)
 len:xs.length=n
theorem CL.ao{w w':World}{S:Nat->Prop}{A:Option Addr}{n:Nat}{xs:List CV}(h:CL w S A n xs)(a:Fr Nothing w w'):CL w' S A n xs:=⟨h.rd.ao a,h.len⟩
theorem CL.at_{w:World}{S:Nat->Prop}{A:Option Addr}{n k:Nat}{xs:List CV}(h:CL w S A n xs)(f:k<n):∃b c,A=some b/\xs[k]? =some c/\∀j x,c.cells[j]? =some x->w.cell? ((b.add (k*7)).add j)=some x:=by
 obtain⟨b,e,i,d⟩:=h.rd.2 (by omega);have a:k<xs.length:=by rw[h.len];exact f
 refine⟨b,xs[k],e,List.getElem?_eq_getElem a,λj x g=>?_⟩;rw[iQ];exact d _ x (JQ xs k xs[k] (List.getElem?_eq_getElem a) j x g)
theorem MU:(prog.info? 245).map (·.size)=some 5:=by kernel_rfl
theorem Jw(c:CV):prog.built 119 [(0, .agg c.nm.cells.toArray),(1, .string c.value),(2, .bool c.bw)]=some c.cells.toArray:=by kernel_rfl
def cm:Value:= .agg #[.int .i64 0, .string ByteArray.empty, .int .i64 0, .int .i64 0, .string ByteArray.empty, .string ByteArray.empty, .bool false]
theorem NI(w:World):(zeroValue 247).run prog w= .ok cm w:=by kernel_rfl
theorem Mn:(prog.info? 247).map (λi=>(i.zero,i.size,i.bytes))=some (some cm,7,80):=by kernel_rfl
theorem nX:(prog.info? 119).map (λi=>(i.zero,i.size,i.bytes))=some (some cm,7,80):=by kernel_rfl
theorem foldl_set:∀(l:List Value)(k off:Nat)(b:List Value),off+k+l.length<=b.length->(l.zipIdx k).foldl (λcs x=>cs.setIfInBounds (off+x.2) x.1) b.toArray=(b.take (off+k)++l++b.drop (off+k+l.length)).toArray
 |[],k,off,b,_=>by simp
 |c::r,k,off,b,h=>by
  simp only[List.length_cons]at h;rw[List.zipIdx_cons,List.foldl_cons,List.setIfInBounds_toArray,foldl_set r (k+1) off (b.set (off+k) c) (by rw[List.length_set];omega)];congr 1;have a:(b.set (off+k) c).take (off+(k+1))=b.take (off+k)++[c]:=by
   rw[List.take_set,show off+(k+1)=(off+k)+1 by omega,List.take_succ_eq_append_getElem (by omega:off+k<b.length),List.set_append_right _ _ (by simp;omega)];simp;rw[show off+k-min (off+k) b.length=0 by omega];rfl
  have d:(b.set (off+k) c).drop (off+(k+1)+r.length)=b.drop (off+k+(c::r).length):=by
   rw[List.drop_set_of_lt (by omega)];congr 1;simp only[List.length_cons];omega
  rw[a,d];simp
theorem mc(cs b:Array Value)(off:Nat)(h:off+cs.size<=b.size):cs.zipIdx.foldl (λcs(x:Value×Nat)=>cs.setIfInBounds (off+x.2) x.1) b=(b.toList.take off++cs.toList++b.toList.drop (off+cs.size)).toArray:=by
 rw[<-Array.foldl_toList,Array.toList_zipIdx];have:=foldl_set cs.toList 0 off b.toList (by simpa using h);simpa using this
theorem lj(cs b:Array Value)(d:cs.size=7)(c:b.size=7):Instr.fill (λi=>some (i*7,7)) b [(0, .agg cs)]=some cs:=by
 have a:=mc cs b 0 (by omega);simp only[Instr.fill,Value.cells,d,c,Nat.zero_mul,Nat.zero_add,ne_eq,not_true_eq_false,decide_false,Bool.false_or,gt_iff_lt,Nat.lt_irrefl,Bool.false_eq_true,if_false];simp only[Nat.zero_add,List.take_zero,List.nil_append,d]at a;rw[List.drop_of_length_le (by simp[c]),List.append_nil]at a;rw[a]
theorem oE{w:World}{base n m:Nat}{e l:TypeId}{size a:Nat}{v o:Value}{xs r:List Value}(h:w.ownsRow base e size v n xs)(p:w.ownsRow base l a o m r)(f:e≠l):∀k,v.ownBlock=some k->o.ownBlock≠some k:=by
 intro k c d;rcases h.2 with⟨rfl,_⟩|⟨g,cap,cur,rfl,_,q,_⟩;·cases c
 ·rcases p.2 with⟨rfl,_⟩|⟨s,i,j,rfl,_,b,_⟩;·cases d
  ·simp only[Value.ownBlock,Option.some.injEq]at c d;subst c;subst d;rw[q]at b;cases b;exact f rfl
theorem Gs{w:World}{base n k:Nat}{e:TypeId}{size:Nat}{v:Value}{xs:List Value}(h:w.ownsRow base e size v n xs)(a:v.ownBlock=some k):k<w.heap.size:=by
 rcases h.2 with⟨rfl,_⟩|⟨g,cap,cur,rfl,_,b,_⟩;·cases a
 ·simp only[Value.ownBlock,Option.some.injEq]at a;subst a;exact(Array.getElem?_eq_some_iff.1 b).1
theorem bT.move{e:TypeId}{size:Nat}{w w1 w2:World}{v:Value}{n:Nat}{xs:List Value}{T:Nat->Prop}(h:bT e size w (.slice none 0 0) w1 v n xs)(b:Fr T w1 w2)(hT:∀k,v.ownBlock=some k->¬T k)(a:Fr Nothing w w2):bT e size w (.slice none 0 0) w2 v n xs:=
 ⟨aP h.own b hT,a.bR,h.eL⟩
theorem Lh(n:Nat)(xs:List CV)(A:Option Addr)(cq:Nat)(S:Nat->Prop)(w:World)(ca:CL w S A n xs)(cC:n<=9223372036854775807):
  Calls prog 127 #[.slice A n cq] w (λe w'=>∃v4 v5,e= .returned (.tuple #[v4,v5])/\bT 119 7 w (.slice none 0 0) w' v4 (min n 24) (((xs.take (min n 24)).map CV.cut).flatMap CV.cells)/\bT 247 7 w (.slice none 0 0) w' v5 (min n 24) (((xs.take (min n 24)).map CV.cut).flatMap CV.cells)):=by
 obtain⟨X,aR,aU,E,bv⟩:=info_parts Mn;obtain⟨Y,aS,aV,F,bx⟩:=info_parts nX;have ck:=af ca;clear ca;go_enter func127,ntmps127;go_wp2;go_loopw[4,5,6](λv4 v5 i wr=>∃k:Nat,k<=min n 24/\i= .int .i64 k/\bT 119 7 w (.slice none 0 0) wr v4 k (((xs.take k).map CV.cut).flatMap CV.cells)/\bT 247 7 w (.slice none 0 0) wr v5 k (((xs.take k).map CV.cut).flatMap CV.cells))(λ_ _ i _=>24-(intOf i).toNat);case atStart=>exact⟨0,by omega,rfl,bT.start ⟨rfl, .inl ⟨rfl,rfl⟩⟩,bT.start ⟨rfl, .inl ⟨rfl,rfl⟩⟩⟩
 case round=>
  obtain⟨k,cw,rfl,T,U⟩:=hrel;have B:=af T;have D:=af U;obtain⟨ad,n4,az,rfl,cz,_⟩:=aK T.own;obtain⟨ae,n5,c5,rfl,cA,_⟩:=aK U.own;clear T U;by_cases bJ:k<min n 24
  ·have v:k<n:=by omega
   have cb:(k:Int)<(n:Int):=by omega
   have bt:(k:Int)<24:=by omega
   have aH:k<24:=by omega
   obtain⟨cB,c,rfl,C,z⟩:=(ck.out.ao B.out.ao).at_ v;have a3:=af z;have ci:=af c.one;have bZ:Hid (((xs.take (k+1)).map CV.cut).flatMap CV.cells=((xs.take k).map CV.cut).flatMap CV.cells++c.cut.cells):=by
    simp only[Hid];rw[List.take_add_one,C];simp
   have f0:Fr Nothing w wr:=B.out.ao;have cj:=af f0;have NE:=af (oE B.out.own D.out.own (by decide));obtain⟨aa,bz⟩:∃aa:Int,min (c.value.size:Int) 200=aa:=⟨_,rfl⟩;obtain⟨ab,bA⟩:∃ab:Int,min (c.nm.owner.size:Int) 100=ab:=⟨_,rfl⟩;obtain⟨ac,bB⟩:∃ac:Int,min (c.nm.text.size:Int) 100=ac:=⟨_,rfl⟩;have cD:0<=aa:=by omega
   have cG:aa<=(c.value.size:Int):=by omega
   have cE:0<=ab:=by omega
   have cH:ab<=(c.nm.owner.size:Int):=by omega
   have cF:0<=ac:=by omega
   have cx:ac<=(c.nm.text.size:Int):=by omega
   obtain⟨v5,bM⟩:∃v5,c.value.extract 0 aa.toNat=v5:=⟨_,rfl⟩;obtain⟨r,bK⟩:∃r,c.nm.owner.extract 0 ab.toNat=r:=⟨_,rfl⟩;obtain⟨t5,bL⟩:∃t5,c.nm.text.extract 0 ac.toNat=t5:=⟨_,rfl⟩;have J:Hid (c.cut=⟨⟨c.nm.kind,r,c.nm.number,c.nm.index,t5⟩,v5,c.bw⟩):=by
    simp only[Hid,CV.cut,xY,bz,bA,bB,bM,bK,bL]
   clear z C f0 bJ cw;go_wp2_with(refine aB rfl 247 (.tmp 20) rfl _ rfl c.cells _ ?zB underlying247 rfl Et (aX.go ?hold));case zB=>exact a3.out
   unfold aX;go_wp2_with(refine an rfl 247 rfl cm NI #[.int .i64 0, .string ByteArray.empty, .int .i64 0, .int .i64 0, .string ByteArray.empty, .string ByteArray.empty, .bool false] rfl ?_);intro cy ce;have a7:=af ce;clear ce;generalize aQ:wr.heap.size=g7 at*;have t:=af aQ;clear aQ;have bV:Hid (aq cy g7 247 #[.int .i64 0, .string ByteArray.empty, .int .i64 0, .int .i64 0, .string ByteArray.empty, .string ByteArray.empty, .bool false]):=by have h:=a7.out.aF;rw[t.out]at h;exact h
   go_wp2_with(refine ai rfl 247 (.tmp 7) _ rfl g7 c.cells.toArray rfl rfl _ _ bV.out Et rfl ci.out ?_);intro cg bb b8;have bQ:Hid (aq cg g7 247 #[.int .i64 c.nm.kind, .string c.nm.owner, .int .i64 c.nm.number, .int .i64 c.nm.index, .string c.nm.text, .string c.value, .bool c.bw]):=bb;have bX:Hid (Fr Nothing wr cg):=a7.out.fr.aw b8 (λi G e=>by have ba:i=g7:=e;have:=t.out;omega);clear bb b8 a7 bV;have cn:Hid ((Value.string v5).oneCell'=true):=by simp[Hid,Value.oneCell']
   go_upto_region 7 with fail;refine iD 9 (λk=>k=g7) [Is (.pointer (some ⟨g7,5,none⟩)),Is (.string c.value),Is (.pointer (some ⟨g7,5,none⟩)),Is (.string c.value),Is (.int .i64 c.value.size),Is (.int .i64 aa),Is (.string v5),Is (.pointer (some ⟨g7,5,none⟩)),Is (undef)] [(8,λW=>aq W g7 247 #[.int .i64 c.nm.kind, .string c.nm.owner, .int .i64 c.nm.number, .int .i64 c.nm.index, .string c.nm.text, .string v5, .bool c.bw])] (λW=>aq W g7 247 #[.int .i64 c.nm.kind, .string c.nm.owner, .int .i64 c.nm.number, .int .i64 c.nm.index, .string c.nm.text, .string c.value, .bool c.bw]) (λi j=>j==8&&decide (i<8)) (by kernel_rfl) (by kernel_rfl) (by kernel_rfl) ⟨Is.ag _,Is.ag _,Is.ag _,Is.ag _,Is.ag _,Is.ag _,Is.ag _,Is.ag _,Is.ag _,trivial⟩ ⟨λ_ _ _ o h=>h.fr o id,trivial⟩ (λ_ _ _ o h=>h.fr o id) bQ.out ?_ ?_
   ·refine⟨?_,?_,?_,?_,?_,?_,?_,?_,?_,trivial⟩;all_goals intro u w' d o a m l f
    all_goals simp only[bC,bD,bE,bF,ar,Act.put,bG,bH,bI,Nat.reduceAdd,Nat.zero_add]
    ·clear a m l f;refine aj ?_;go_simp;exact⟨_,rfl,al⟩
    ·have bi:u 0=_:=a 0;clear a;simp only[bi];refine aj ?_;have s:aq w' g7 247 #[.int .i64 c.nm.kind, .string c.nm.owner, .int .i64 c.nm.number, .int .i64 c.nm.index, .string c.nm.text, .string c.value, .bool c.bw]:=by rw[dx,if_neg (by rw[l 8 (by kernel_rfl)];exact Bool.false_ne_true)]at f;exact f
     clear m l f;have C:w'.cell? ⟨g7,5,none⟩=some (.string c.value):=s.cell 5;go_simp;exact⟨_,rfl,al⟩
    ·clear a m l f;refine aj ?_;go_simp;exact⟨_,rfl,al⟩
    ·have aE:u 2=_:=a 2;clear a;simp only[aE];refine aj ?_;have s:aq w' g7 247 #[.int .i64 c.nm.kind, .string c.nm.owner, .int .i64 c.nm.number, .int .i64 c.nm.index, .string c.nm.text, .string c.value, .bool c.bw]:=by rw[dx,if_neg (by rw[l 8 (by kernel_rfl)];exact Bool.false_ne_true)]at f;exact f
     clear m l f;have C:w'.cell? ⟨g7,5,none⟩=some (.string c.value):=s.cell 5;go_simp;exact⟨_,rfl,al⟩
    ·have aI:u 3=_:=a 3;clear a m l f;simp only[aI];refine aj ?_;go_simp;exact⟨_,rfl,al⟩
    ·have aJ:u 4=_:=a 4;clear a m l f;simp only[aJ];refine aj ?_;go_simp;exact⟨_,rfl,al⟩
    ·have aD:u 1=_:=a 1;have aL:u 5=_:=a 5;clear a m l f;simp only[aD,aL];refine aj ?_;go_simp;exact⟨_,rfl,al⟩
    ·clear a m l f;refine aj ?_;go_simp;exact⟨_,rfl,al⟩
    ·have aN:u 7=_:=a 7;have aM:u 6=_:=a 6;clear a;simp only[aN,aM];refine aj ?_;have s:aq w' g7 247 #[.int .i64 c.nm.kind, .string c.nm.owner, .int .i64 c.nm.number, .int .i64 c.nm.index, .string c.nm.text, .string c.value, .bool c.bw]:=by rw[dx,if_neg (by rw[l 8 (by kernel_rfl)];exact Bool.false_ne_true)]at f;exact f
     clear m l f;refine lY 9 (.tmp 29) (.tmp 28) rfl g7 5 (.string v5) rfl rfl cn.out pD _ _ #[.int .i64 c.nm.kind, .string c.nm.owner, .int .i64 c.nm.number, .int .i64 c.nm.index, .string c.nm.text, .string v5, .bool c.bw] s (show 5<7 by decide) rfl ?_;intro cf b4 f4;exact⟨_,rfl,f4,rfl,b4⟩
   ·intro u w' o a f;clear a;simp only[bC,bD,bE,bF,ar,Act.put,bG,bH,bI,dt,du,Nat.reduceAdd,Nat.zero_add];generalize w'=wc at*;have bS:Hid (aq wc g7 247 #[.int .i64 c.nm.kind, .string c.nm.owner, .int .i64 c.nm.number, .int .i64 c.nm.index, .string c.nm.text, .string v5, .bool c.bw]):=f;have bY:Hid (Fr Nothing wr wc):=bX.out.aw o (λi G e=>by have ba:i=g7:=e;have:=t.out;omega);clear f o bQ bX;go_upto_region 8 with fail;refine ay 23 (λk=>k=g7) [Is (.pointer (some ⟨g7,0,none⟩)),Is (.pointer (some ⟨g7,1,none⟩)),Is (.string c.nm.owner),Is (.pointer (some ⟨g7,0,none⟩)),Is (.pointer (some ⟨g7,1,none⟩)),Is (.string c.nm.owner),Is (.int .i64 c.nm.owner.size),Is (.int .i64 ab),Is (.string r),Is (.pointer (some ⟨g7,0,none⟩)),Is (.pointer (some ⟨g7,4,none⟩)),Is (.string c.nm.text),Is (.pointer (some ⟨g7,0,none⟩)),Is (.pointer (some ⟨g7,4,none⟩)),Is (.string c.nm.text),Is (.int .i64 c.nm.text.size),Is (.int .i64 ac),Is (.string t5),Is (.pointer (some ⟨g7,0,none⟩)),Is (.pointer (some ⟨g7,1,none⟩)),Is (undef),Is (.pointer (some ⟨g7,0,none⟩)),Is (.pointer (some ⟨g7,4,none⟩))] [(20,λW=>aq W g7 247 #[.int .i64 c.nm.kind, .string r, .int .i64 c.nm.number, .int .i64 c.nm.index, .string c.nm.text, .string v5, .bool c.bw])] (λW=>aq W g7 247 #[.int .i64 c.nm.kind, .string c.nm.owner, .int .i64 c.nm.number, .int .i64 c.nm.index, .string c.nm.text, .string v5, .bool c.bw]) (λi j=>j==20&&(decide (i<15)||i==19)) (by kernel_rfl) (by kernel_rfl) (by kernel_rfl) (by kernel_rfl) ⟨Is.ag _,Is.ag _,Is.ag _,Is.ag _,Is.ag _,Is.ag _,Is.ag _,Is.ag _,Is.ag _,Is.ag _,Is.ag _,Is.ag _,Is.ag _,Is.ag _,Is.ag _,Is.ag _,Is.ag _,Is.ag _,Is.ag _,Is.ag _,Is.ag _,Is.ag _,Is.ag _,trivial⟩ ⟨λ_ _ _ o h=>h.fr o id,trivial⟩ (λ_ _ _ o h=>h.fr o id) bS.out.drew ?_ ?_
    ·refine⟨?_,?_,?_,?_,?_,?_,?_,?_,?_,?_,?_,?_,?_,?_,?_,?_,?_,?_,?_,?_,?_,?_,?_,trivial⟩;all_goals intro u w' d o a m l f
     all_goals simp only[bC,bD,bE,bF,ar,Act.put,bG,bH,bI,Nat.reduceAdd,Nat.zero_add]
     ·clear a m l f;refine aj ?_;go_simp;exact⟨_,rfl,al⟩
     ·have bi:u 0=_:=a 0;clear a m l f;simp only[bi];refine aj ?_;go_simp;exact⟨_,rfl,al⟩
     ·have aD:u 1=_:=a 1;clear a;simp only[aD];refine aj ?_;have s:aq w' g7 247 #[.int .i64 c.nm.kind, .string c.nm.owner, .int .i64 c.nm.number, .int .i64 c.nm.index, .string c.nm.text, .string v5, .bool c.bw]:=by rw[dx,if_neg (by rw[l 20 (by kernel_rfl)];exact Bool.false_ne_true)]at f;exact f
      clear m l f;have C:w'.cell? ⟨g7,1,none⟩=some (.string c.nm.owner):=s.cell 1;go_simp;exact⟨_,rfl,al⟩
     ·clear a m l f;refine aj ?_;go_simp;exact⟨_,rfl,al⟩
     ·have aI:u 3=_:=a 3;clear a m l f;simp only[aI];refine aj ?_;go_simp;exact⟨_,rfl,al⟩
     ·have aJ:u 4=_:=a 4;clear a;simp only[aJ];refine aj ?_;have s:aq w' g7 247 #[.int .i64 c.nm.kind, .string c.nm.owner, .int .i64 c.nm.number, .int .i64 c.nm.index, .string c.nm.text, .string v5, .bool c.bw]:=by rw[dx,if_neg (by rw[l 20 (by kernel_rfl)];exact Bool.false_ne_true)]at f;exact f
      clear m l f;have C:w'.cell? ⟨g7,1,none⟩=some (.string c.nm.owner):=s.cell 1;go_simp;exact⟨_,rfl,al⟩
     ·have aL:u 5=_:=a 5;clear a m l f;simp only[aL];refine aj ?_;go_simp;exact⟨_,rfl,al⟩
     ·have aM:u 6=_:=a 6;clear a m l f;simp only[aM];refine aj ?_;go_simp;exact⟨_,rfl,al⟩
     ·have aE:u 2=_:=a 2;have aN:u 7=_:=a 7;clear a m l f;simp only[aE,aN];refine aj ?_;go_simp;exact⟨_,rfl,al⟩
     ·clear a m l f;refine aj ?_;go_simp;exact⟨_,rfl,al⟩
     ·have cr:u 9=_:=a 9;clear a m l f;simp only[cr];refine aj ?_;go_simp;exact⟨_,rfl,al⟩
     ·have bj:u 10=_:=a 10;clear a;simp only[bj];refine aj ?_;have s:aq w' g7 247 #[.int .i64 c.nm.kind, .string c.nm.owner, .int .i64 c.nm.number, .int .i64 c.nm.index, .string c.nm.text, .string v5, .bool c.bw]:=by rw[dx,if_neg (by rw[l 20 (by kernel_rfl)];exact Bool.false_ne_true)]at f;exact f
      clear m l f;have C:w'.cell? ⟨g7,4,none⟩=some (.string c.nm.text):=s.cell 4;go_simp;exact⟨_,rfl,al⟩
     ·clear a m l f;refine aj ?_;go_simp;exact⟨_,rfl,al⟩
     ·have bl:u 12=_:=a 12;clear a m l f;simp only[bl];refine aj ?_;go_simp;exact⟨_,rfl,al⟩
     ·have bm:u 13=_:=a 13;clear a;simp only[bm];refine aj ?_;have s:aq w' g7 247 #[.int .i64 c.nm.kind, .string c.nm.owner, .int .i64 c.nm.number, .int .i64 c.nm.index, .string c.nm.text, .string v5, .bool c.bw]:=by rw[dx,if_neg (by rw[l 20 (by kernel_rfl)];exact Bool.false_ne_true)]at f;exact f
      clear m l f;have C:w'.cell? ⟨g7,4,none⟩=some (.string c.nm.text):=s.cell 4;go_simp;exact⟨_,rfl,al⟩
     ·have bn:u 14=_:=a 14;clear a m l f;simp only[bn];refine aj ?_;go_simp;exact⟨_,rfl,al⟩
     ·have bo:u 15=_:=a 15;clear a m l f;simp only[bo];refine aj ?_;go_simp;exact⟨_,rfl,al⟩
     ·have bk:u 11=_:=a 11;have bp:u 16=_:=a 16;clear a m l f;simp only[bk,bp];refine aj ?_;go_simp;exact⟨_,rfl,al⟩
     ·clear a m l f;refine aj ?_;go_simp;exact⟨_,rfl,al⟩
     ·have bq:u 18=_:=a 18;clear a m l f;simp only[bq];refine aj ?_;go_simp;exact⟨_,rfl,al⟩
     ·have br:u 19=_:=a 19;have bu:u 8=_:=a 8;clear a;simp only[br,bu];refine aj ?_;have s:aq w' g7 247 #[.int .i64 c.nm.kind, .string c.nm.owner, .int .i64 c.nm.number, .int .i64 c.nm.index, .string c.nm.text, .string v5, .bool c.bw]:=by rw[dx,if_neg (by rw[l 20 (by kernel_rfl)];exact Bool.false_ne_true)]at f;exact f
      clear m l f;refine lY 9 (.tmp 49) (.tmp 38) rfl g7 1 (.string r) rfl rfl rfl pD _ _ _ s (show 1<7 by decide) rfl ?_;intro cf b4 f4;exact⟨_,rfl,f4,rfl,b4⟩
     ·clear a m l f;refine aj ?_;go_simp;exact⟨_,rfl,al⟩
     ·have bs:u 21=_:=a 21;clear a m l f;simp only[bs];refine aj ?_;go_simp;exact⟨_,rfl,al⟩
    ·intro u w' o a f;have aW:u 17=_:=a 17 (by omega);have aY:u 22=_:=a 22 (by omega);clear a;simp only[bC,bD,bE,bF,ar,Act.put,bG,bH,bI,dt,du,Nat.reduceAdd,Nat.zero_add,aW,aY];have bU:Hid (aq w' g7 247 #[.int .i64 c.nm.kind, .string r, .int .i64 c.nm.number, .int .i64 c.nm.index, .string c.nm.text, .string v5, .bool c.bw]):=f;have bW:Hid (Fr Nothing wr w'):=bY.out.aw o (λi G e=>by have ba:i=g7:=e;have:=t.out;omega);have b2:Hid ((Value.string t5).oneCell'=true):=by simp[Hid,Value.oneCell']
     have ax:Hid (4<(#[.int .i64 c.nm.kind, .string r, .int .i64 c.nm.number, .int .i64 c.nm.index, .string c.nm.text, .string v5, .bool c.bw]:Array Value).size):=by simp[Hid]
     have av:Hid ((#[.int .i64 c.nm.kind, .string r, .int .i64 c.nm.number, .int .i64 c.nm.index, .string c.nm.text, .string v5, .bool c.bw]:Array Value).setIfInBounds 4 (.string t5)=#[.int .i64 c.nm.kind, .string r, .int .i64 c.nm.number, .int .i64 c.nm.index, .string t5, .string v5, .bool c.bw]):=rfl;clear f o bS bY aW aY;refine aZ rfl 9 (.tmp 51) (.tmp 47) rfl g7 4 (.string t5) rfl rfl b2.out pD 247 #[.int .i64 c.nm.kind, .string r, .int .i64 c.nm.number, .int .i64 c.nm.index, .string c.nm.text, .string v5, .bool c.bw] #[.int .i64 c.nm.kind, .string r, .int .i64 c.nm.number, .int .i64 c.nm.index, .string t5, .string v5, .bool c.bw] bU.out ax.out av.out ?_;intro wd b7 fd;have I:=af b7;have Z:Hid (Fr Nothing wr wd):=bW.out.aw fd (λi G e=>by have ba:i=g7:=e;have:=t.out;omega);clear b7 fd bU bW b2 ax av;obtain⟨y,aT⟩:∃y:CV,y=⟨⟨c.nm.kind,r,c.nm.number,c.nm.index,t5⟩,v5,c.bw⟩:=⟨_,rfl⟩;have b0:Hid (c.cut=y):=by rw[aT];exact J.out
     have b3:Hid (∀W,aq W g7 247 #[.int .i64 c.nm.kind, .string r, .int .i64 c.nm.number, .int .i64 c.nm.index, .string t5, .string v5, .bool c.bw]->aq W g7 247 y.cells.toArray):=λW h=>by rw[aT];exact h
     obtain⟨L,V⟩:∃L:aG,L=y.nm:=⟨_,rfl⟩;have cp:Hid (∀W,aq W g7 247 #[.int .i64 c.nm.kind, .string r, .int .i64 c.nm.number, .int .i64 c.nm.index, .string t5, .string v5, .bool c.bw]->∀j x,L.cells[j]? =some x->W.cell? ⟨g7,j,none⟩=some x):=λW h j x H=>by
      have cv:j<5:=(List.getElem?_eq_some_iff.1 H).1;rw[(b3.out W h).cell,bP,CV.cells,List.getElem?_append_left (by rw[aG.eM];exact cv),<-V];exact H
     have a1:Hid (prog.built 119 [(0, .agg L.cells.toArray),(1, .string v5),(2, .bool c.bw)]=some y.cells.toArray):=by
      have h:=Jw y;rw[<-V,show y.value=v5 by rw[aT],show y.bw=c.bw by rw[aT]]at h;exact h
     have b6:Hid (∀u∈y.cells.toArray.toList,u.oneCell'=true):=by
      intro u hu;have h:=y.one;rw[Array.all_eq_true_iff_forall_mem]at h;exact h u (by simpa using hu)
     have b5:Hid (y.cells.toArray.size=1*7):=rfl;have co:Hid (y.cells=y.cells.toArray.toList):=by simp[Hid]
     have M:=af (b3.out _ I.out);have aC:Hid (Instr.fill (λi=>some (i*7,7)) ((Array.range (1*7)).map (cm.cells[· %cm.cells.size]!)) [(0, .agg y.cells.toArray)]=some y.cells.toArray):=lj _ _ rfl (by simp);clear J aT V;generalize aO:y.cells=p at*;have N:=af aO;clear aO;have bc:Hid (¬1*X.size>2^24):=by simp only[Hid];rw[E];omega
     have bd:Hid (¬1*X.size=0):=by simp only[Hid];rw[E];omega
     have be:Hid (Instr.fill (λi=>some (i*X.size,X.size)) ((Array.range (1*X.size)).map (cm.cells[· %cm.cells.size]!)) [(0, .agg p.toArray)]=some p.toArray):=by simp only[Hid];rw[E];exact aC.out
     have bf:Hid (¬1*Y.size>2^24):=by simp only[Hid];rw[F];omega
     have bg:Hid (¬1*Y.size=0):=by simp only[Hid];rw[F];omega
     have bh:Hid (Instr.fill (λi=>some (i*Y.size,Y.size)) ((Array.range (1*Y.size)).map (cm.cells[· %cm.cells.size]!)) [(0, .agg p.toArray)]=some p.toArray):=by simp only[Hid];rw[F];exact aC.out
     have a4:Hid ((prog.info? 247).map (·.size)=some p.length):=by rw[<-N.out];exact Et
     have cl:Hid (∀i,(Value.slice ae n5 c5).ownBlock=some i->i<g7):=λi G=>by have q:=Gs D.out.own G;have cx:=t.out;omega
     have b1:Hid (wd.ownsRow 0 247 7 (.slice ae n5 c5) k (((xs.take k).map CV.cut).flatMap CV.cells)):=aP D.out.own Z.out (λ_ _ x=>x);have a6:Hid (wd.ownsRow 0 119 7 (.slice ad n4 az) k (((xs.take k).map CV.cut).flatMap CV.cells)):=aP B.out.own Z.out (λ_ _ x=>x);go_wp2_with(refine aB rfl 247 (.tmp 7) rfl ⟨g7,0,none⟩ rfl p _ ?zA underlying247 rfl a4.out (aX.go ?zC));case zA=>exactλj x H=>by first|(rw[Addr.add_mid,Nat.zero_add,M.out.cell,bP];exact H)|(rw[M.out.cell,bP];exact H)
     unfold aX;refine wpList_buildSlice rfl 55 247 1 #[(0, .tmp 53)] rfl p.toArray X cm underlying55 aR aU bc.out bd.out (by simp only[List.map_toArray,List.map_cons,List.map_nil];exact be.out) ?_;refine cQ _ rfl _ _ 55 rfl 247 X cm 7 80 underlying55 aR aU E bv rfl (by decide) _ _ _ rfl b1.out 1 p.toArray _ rfl rfl b5.out b6.out (by omega) (by decide) ?_;intro a0 bO K;have a2:Hid (Fr Nothing w wd):=cj.out.trans Z.out;have ap:Hid (bT 247 7 w (.slice none 0 0) wd (.slice ae n5 c5) k (((xs.take k).map CV.cut).flatMap CV.cells)):=D.out.behind Z.out;have P:Hid (bT 247 7 w (.slice none 0 0) bO a0 (k+1) (((xs.take (k+1)).map CV.cut).flatMap CV.cells)):=by
      have h:=ap.out.trans K;simp only[Hid];rw[bZ.out,b0.out,N.out];exact h
     have O:Hid (bT 119 7 w (.slice none 0 0) bO (.slice ad n4 az) k (((xs.take k).map CV.cut).flatMap CV.cells)):=(B.out.behind Z.out).move K.fr (λi G e=>NE.out i G e) P.out.ao;have ah:Hid (aq bO g7 247 #[.int .i64 c.nm.kind, .string r, .int .i64 c.nm.number, .int .i64 c.nm.index, .string t5, .string v5, .bool c.bw]):=I.out.fr K.fr (λe=>by have q:=cl.out g7 e;omega);clear K D B ap b1 a6 I Z a2 M;have I:=ah;have a6:=af O.out.own;go_upto_region 10 with fail;refine ay 10 Nothing [Is (.slice ad n4 az),Is (.pointer (some ⟨g7,0,none⟩)),Is (.agg L.cells.toArray),Is (.agg L.cells.toArray),Is (.pointer (some ⟨g7,5,none⟩)),Is (.string v5),Is (.pointer (some ⟨g7,6,none⟩)),Is (.bool c.bw),Is (.agg p.toArray),λx W=>∃g,x= .slice (some ⟨g,0,none⟩) 1 1/\aq W g 119 p.toArray] [] (λ_=>True) (λ_ _=>false) (by kernel_rfl) (by kernel_rfl) (by kernel_rfl) (by kernel_rfl) ⟨Is.ag _,Is.ag _,Is.ag _,Is.ag _,Is.ag _,Is.ag _,Is.ag _,Is.ag _,Is.ag _,λ_ _ _ _ o⟨g,h,b⟩=>⟨g,h,b.fr o id⟩,trivial⟩ trivial (λ_ _ _ _ h=>h) trivial ?_ ?_
     ·refine⟨?_,?_,?_,?_,?_,?_,?_,?_,?_,?_,trivial⟩;all_goals intro u w' d o a m l f
      all_goals simp only[bC,bD,bE,bF,ar,Act.put,bG,bH,bI,Nat.reduceAdd,Nat.zero_add]
      ·clear a m l f;refine aj ?_;go_simp;exact⟨_,rfl,al⟩
      ·clear a m l f;refine aj ?_;go_simp;exact⟨_,rfl,al⟩
      ·have aD:u 1=_:=a 1;clear a m l f;simp only[aD];refine aj ?_;exact au _ _ rfl ⟨g7,0,none⟩ rfl L.cells _ (λj x H=>by rw[Addr.add_mid,Nat.zero_add];exact cp.out _ (I.out.fr o id) j x H) underlying245 rfl MU ⟨_,rfl,al⟩
      ·have aE:u 2=_:=a 2;clear a m l f;simp only[aE];refine aj ?_;go_simp;refine(Jo L _).mono ?_;rintro e cf⟨rfl,f4⟩;exact⟨_,rfl,f4.bR,rfl,trivial⟩
      ·clear a m l f;refine aj ?_;go_simp;exact⟨_,rfl,al⟩
      ·have aJ:u 4=_:=a 4;clear a m l f;simp only[aJ];refine aj ?_;have C:w'.cell? ⟨g7,5,none⟩=some (.string v5):=(I.out.fr o id).cell 5;go_simp;exact⟨_,rfl,al⟩
      ·clear a m l f;refine aj ?_;go_simp;exact⟨_,rfl,al⟩
      ·have aM:u 6=_:=a 6;clear a m l f;simp only[aM];refine aj ?_;have C:w'.cell? ⟨g7,6,none⟩=some (.bool c.bw):=(I.out.fr o id).cell 6;go_simp;exact⟨_,rfl,al⟩
      ·have aI:u 3=_:=a 3;have aL:u 5=_:=a 5;have aN:u 7=_:=a 7;clear a m l f;simp only[aI,aL,aN];refine aj ?_;exact iw 119 _ rfl p.toArray _ (by simp only[List.map_toArray,List.map_cons,List.map_nil];rfl) a1.out ⟨_,rfl,al⟩
      ·have bu:u 8=_:=a 8;clear a m l f;simp only[bu];refine aj ?_;refine wp_buildSlice 44 119 1 #[(0, .tmp 64)] rfl p.toArray Y cm underlying44 aS aV bf.out bg.out ?_ ?_;·simp only[List.map_toArray,List.map_cons,List.map_nil];exact bh.out
       ·exact⟨_,rfl,aA.alloc _,⟨w'.heap.size,rfl,aq.new _ _ _⟩,trivial⟩
     ·intro u w' o a f;have l:u 0=_:=a 0 (by omega);obtain⟨g9,cd,b9⟩:∃g,u 9= .slice (some ⟨g,0,none⟩) 1 1/\aq w' g 119 p.toArray:=a 9 (by omega);clear a f;simp only[bC,bD,bE,bF,ar,Act.put,bG,bH,bI,dt,du,Nat.reduceAdd,Nat.zero_add,l,cd];have ch:=af b9;have R:=af (aP a6.out o (λ_ _ x=>x));have am:=af (O.out.behind o);have Q:=af (P.out.behind o);have a9:Hid (∀u∈p,u.oneCell'=true):=λu hu=>b6.out u (by simpa using hu);have a8:Hid (p.length=1*7):=by have h:=b5.out;rw[List.size_toArray]at h;exact h
      clear o l cd b9 I ah;refine fJ _ rfl _ _ 44 rfl 119 Y cm 7 80 underlying44 aS aV F bx rfl (by decide) _ _ _ rfl R.out (λ_=>True) (some ⟨g9,0,none⟩) 1 1 p rfl ⟨a8.out,λ_=>⟨_,rfl,trivial,λj x H=>by rw[Addr.add_mid,Nat.zero_add,ch.out.cell,bP];exact H⟩⟩ a9.out (by omega) (by decide) ?_;intro bN wf K;have ak:Hid (bT 119 7 w (.slice none 0 0) wf bN (k+1) (((xs.take (k+1)).map CV.cut).flatMap CV.cells)):=by
       have h:=am.out.trans K;simp only[Hid];rw[bZ.out,b0.out,N.out];exact h
      have a5:Hid (bT 247 7 w (.slice none 0 0) wf a0 (k+1) (((xs.take (k+1)).map CV.cut).flatMap CV.cells)):=Q.out.move K.fr (λi G e=>oE Q.out.own R.out (by decide) i G e) ak.out.ao;clear K am Q R O P;go_wp2;go_roundw;case rel=>exact⟨k+1,by omega,by go_num,ak.out,a5.out⟩
      case measure=>simp[intOf];omega
  ·have v:k=min n 24:=by omega
   have cc:¬((k:Int)<(n:Int)/\(k:Int)<24):=by omega
   by_cases cb:(k:Int)<(n:Int)
   ·have bt:decide ((k:Int)<24)=false:=ct (by omega);have aH:¬k<24:=by omega
    have hIn:k<n:=by omega
    go_wp2;go_ret2;exact⟨.slice ad n4 az, .slice ae n5 c5,rfl,by rw[<-v];first|exact B.out|(rw[<-List.map_take];exact B.out),by rw[<-v];first|exact D.out|(rw[<-List.map_take];exact D.out)⟩
   ·have cs:decide ((k:Int)<(n:Int))=false:=decide_eq_false cb;have cu:¬k<n:=by omega
    go_wp2;go_ret2;exact⟨.slice ad n4 az, .slice ae n5 c5,rfl,by rw[<-v];first|exact B.out|(rw[<-List.map_take];exact B.out),by rw[<-v];first|exact D.out|(rw[<-List.map_take];exact D.out)⟩
theorem Fr.Lw{w w':World}(h:Fr Nothing w w'):w.grownBy w' none:=⟨h.os,h.tape,h.output,h.size,λk a _=>h.block k a id⟩
def Aq(w:World)(e:Ending)(w':World):Prop:=e= .returned (.bool true)/\Fr Nothing w w'
end Go.Proofs.YtphjagkehiklkaaGreatDoor
namespace Go.Proofs.YtphjagkehiklkaaGreatDoor
open Proofs.Tryz Go.RowKit Go.Shelf
attribute[local go_sem]Oper.semAt_some
theorem RoundIn.jM{F:Fence}(a:F.depth=none){m b:Nat}{P:Program}{l:Nat}{f:FuncId}{tmps:Array Value}{assign body:Code}{w:World}{e:Ending->World->Prop}
  (h:RoundIn F m P l f tmps assign body w e):RoundIn F b P l f tmps assign body w e:=⟨h.1,λc cs _=>h.2 c cs (λd h=>by rw[a]at h;cases h)⟩
theorem YieldAt.jM{F:Fence}(b:F.depth=none){m:Nat}(d:Nat){P:Program}{l:Nat}{args:Array Value}{W:World}{e:Ending->World->Prop}(h:YieldAt F m P l args W e):YieldAt F d P l args W e:=by
 obtain⟨fn,tmps,assign,body,c,a⟩:=h;exact⟨fn,tmps,assign,body,c,RoundIn.jM b a⟩
def Tr.bM:Tr->List (aG×ByteArray)
 | .leaf=>[]
 | .node l nm v r=>l.bM++(nm,v)::r.bM
theorem Tr.cj:∀t:Tr,t.bM.length=t.size
 | .leaf=>rfl
 | .node l nm v r=>by
  simp only[Tr.bM,Tr.size,aT,List.length_cons,l.cj,r.cj];omega
def KN(A B:World):Prop:=∀g cs,aq A g 177 cs->aq B g 177 cs
theorem KN.refl(A:World):KN A A:=λ_ _ h=>h
theorem KN.trans{A B C:World}(h:KN A B)(k:KN B C):KN A C:=λg cs a=>k g cs (h g cs a)
theorem KN.fr{A B:World}{T:Nat->Prop}(h:Fr T A B)(hT:∀g cs,aq A g 177 cs->¬T g):KN A B:=λg cs a=>a.fr h (hT g cs a)
theorem KN.below{A B:World}(h:Below A.heap.size A B):KN A B:=λg _ a=>(h.block g a.lt).trans a
theorem ck.kn{w w':World}:∀{a:Option Addr}{t:Tr},ck w a t->KN w w'->ck w' a t
 |_, .leaf,h,_=>h
 |_, .node _ _ _ _,⟨g,i,ra,e,c,d,f⟩,b=>⟨g,i,ra,e,c.kn b,d.kn b,b g _ f⟩
structure Nd where
 g:Nat
 nm:aG
 v:ByteArray
def mi(w:World)(x:Nd):Prop:=∃a b c d e,aq w x.g 177 ([a,b]++x.nm.cells++[Value.string x.v,c,d,e]).toArray
theorem mi.kn{w w':World}{x:Nd}(h:mi w x)(k:KN w w'):mi w' x:=by
 obtain⟨a,b,c,d,e,f⟩:=h;exact⟨a,b,c,d,e,k _ _ f⟩
theorem mi.kF{w:World}{x:Nd}(h:mi w x):Mid w x.g x.nm x.v:=by
 obtain⟨a,b,c,d,e,f⟩:=h;exact Mid.of f
abbrev oW(w:World):={x:Nd//mi w x}
def EF{w:World}(x:oW w):Array Value:=#[.pointer (some ⟨x.1.g,0,none⟩)]
def Np{w:World}(x:oW w):aG×ByteArray:=(x.1.nm,x.1.v)
theorem fU{n:Nat}{P:Program}{ops:Array Oper}{Q:Exit->Act->World->Prop}{a:Act}{w:World}{rest:List Oper}{b:Oper}(hw:Region.wanted b (yielded ops a.tmps)=false)
  (h:wpListIn Fence.wide n P ops Q rest (a.put b.dst undef) w):wpListIn Fence.wide n P ops Q (b::rest) a w:=by
 rw[wpListIn,if_neg (by rw[hw];simp)];exact⟨λ_ _=>trivial,h⟩
def KZ(w:World)(b a:List (oW w)->World->Prop)(pre xs:List (oW w))(e:Ending)(W':World):Prop:=
 (e= .returned (.bool true)/\b (pre++xs) W'/\KN w W')\/(e= .returned (.bool false)/\∃q,q<+:xs/\a (pre++q) W')
inductive Ord(w:World):Option Addr->Tr->List (oW w)->Prop where
 |leaf:Ord w none .leaf []
 |node{l r:Tr}{nm:aG}{v:ByteArray}{g:Nat}{a ra:Option Addr}{L f:List (oW w)}(c:Ord w a l L)(d:Ord w ra r f)
   (b:aq w g 177 (oB a ra (.node l nm v r)).toArray)(x:oW w)(e:x.1=⟨g,nm,v⟩):Ord w (some ⟨g,0,none⟩) (.node l nm v r) (L++x::f)
theorem Ord.of{w:World}:∀{a:Option Addr}{t:Tr},ck w a t->∃L,Ord w a t L
 |_, .leaf,h=>by
  obtain rfl:_=none:=h;exact⟨[], .leaf⟩
 |_, .node l nm v r,⟨g,j,ra,e,c,d,b⟩=>by
  subst e;obtain⟨L,f⟩:=Ord.of c;obtain⟨k,i⟩:=Ord.of d;exact⟨_, .node f i b ⟨⟨g,nm,v⟩,_,_,_,_,_,b⟩ rfl⟩
theorem Ord.bM{w:World}{a:Option Addr}{t:Tr}{L:List (oW w)}(h:Ord w a t L):L.map Np=t.bM:=by
 induction h with
 |leaf=>rfl
 |node _ _ _ x d b c=>
  rw[List.map_append,List.map_cons,b,c,Tr.bM];simp only[Np,d]
theorem JH(l N:Nat)(w:World)(J p:List (oW w)->World->Prop)
  (Q:∀m pre x W,J pre W->KN w W->pre.length<N->YieldAt Fence.wide m prog l (EF x) W λe W'=>(e= .returned (.bool true)/\J (pre++[x]) W'/\KN W W')\/(e= .returned (.bool false)/\p (pre++[x]) W'))
  {a:Option Addr}{t:Tr}{L:List (oW w)}(h:Ord w a t L):
  ∀(m:Nat)(pre:List (oW w))(W:World),J pre W->KN w W->pre.length+L.length<=N->
   CallsIn Fence.wide m prog 170 #[.pointer a, .func (.yield l) #[] #[]] W (KZ w J p pre L):=by
 induction h with
 |leaf=>
  intro m pre W r i _;refine callsIn_of_wp func170 rfl trivial ?_ rfl;simp only[ntmps170,List.size_toArray,List.length_cons,List.length_nil,Nat.reduceAdd,Nat.reduceSub,Array.replicate_succ,Array.replicate_zero,List.push_toArray,List.append_toArray,List.nil_append,List.cons_append];gi_wp2_with(refine fU rfl ?_);go_ret;exact .inl ⟨rfl,by simpa using r,i⟩
 |@node ac ad nm v g X ra L R Z aa I x V C D=>
  intro m pre W r i hN;have d:∀k:Nat,(Fence.wide.depth.isSome=true->1<=k):=λk h=>by cases h
  rw[aT,List.length_cons]at hN;have n:EF x=#[Value.pointer (some ⟨g,0,none⟩)]:=by rw[EF,V]
  have y:∀b,J (pre++L) b->KN w b->YieldAt Fence.wide (m-1) prog l #[.pointer (some ⟨g,0,none⟩)] b λe c=>
    (e= .returned (.bool true)/\J (pre++L++[x]) c/\KN b c)\/(e= .returned (.bool false)/\p (pre++L++[x]) c):=λb F H=>by
   have:=Q (m-1) (pre++L) x b F H (by simp;omega);rw[n]at this;exact this
  have A:=af ((C (m-1) pre W r i (by omega)).mono (R':=λe b=>
    (e= .returned (.bool true)/\KN w b/\YieldAt Fence.wide (m-1) prog l #[.pointer (some ⟨g,0,none⟩)] b λe c=>
     (e= .returned (.bool true)/\J (pre++L++[x]) c/\KN b c)\/(e= .returned (.bool false)/\p (pre++L++[x]) c))\/
    (e= .returned (.bool false)/\∃q,q<+:L/\p (pre++q) b))
   (λe b h=>h.elim (λ⟨he,U,j⟩=> .inl ⟨he,j,y b U j⟩) .inr));have B:=af (λW r i=>D (m-1) (pre++L++[x]) W r i (by simp;omega));have S:W.cell? ⟨g,0,none⟩=some (.pointer X):=(i _ _ I).cell 0;have HB:=af I;clear y C D Q hN I n;refine callsIn_of_wp func170 rfl trivial ?_ rfl;simp only[ntmps170,List.size_toArray,List.length_cons,List.length_nil,Nat.reduceAdd,Nat.reduceSub,Array.replicate_succ,Array.replicate_zero,List.push_toArray,List.append_toArray,List.nil_append,List.cons_append];gi_wp2_with((try refine⟨trivial,d _,?_⟩);gi_at_call 170;refine A.out.mono ?_;clear A;rintro e b(⟨rfl,f,fn,tmps,assign,body,ab,P⟩|⟨rfl,q,n,K⟩))
  ·have o:=af f;have T:b.cell? ⟨g,1,none⟩=some (.pointer ra):=(f _ _ HB.out).cell 1;clear f S;refine⟨d _,?_⟩;refine P.mono ?_;clear P;rintro e c(⟨rfl,s,u⟩|⟨rfl,M⟩)
   ·have j:=o.out.trans u;have HK:=af j;have E:=af s;have T:c.cell? ⟨g,1,none⟩=some (.pointer ra):=(j _ _ HB.out).cell 1;clear j u s o;gi_wp2_with((try refine⟨trivial,d _,?_⟩);gi_at_call 170;refine(B.out _ E.out HK.out).mono ?_;clear B;rintro e Y(⟨rfl,G,hk3⟩|⟨rfl,q,n,O⟩));·go_ret;exact .inl ⟨rfl,by simpa[List.append_assoc]using G,hk3⟩
    ·go_ret;exact .inr ⟨rfl,L++x::q,by
      obtain⟨z,rfl⟩:=n;exact⟨z,by simp⟩,by simpa[List.append_assoc]using O⟩
   ·gi_wp2_with(refine fU rfl ?_);go_ret;exact .inr ⟨rfl,L++[x],by exact⟨R,by simp⟩,by simpa[List.append_assoc]using M⟩
  ·refine⟨λ_ h=>(by cases h),?_⟩;gi_wp2_with(refine fU rfl ?_);go_ret;exact .inr ⟨rfl,q,n.trans (List.prefix_append _ _),K⟩
theorem zM(m B s:Nat)(a:Option Addr)(t:Tr)(w:World)(L:List (oW w))(r:Ord w a t L)(f:aq w B 25 #[.pointer (some ⟨s,0,none⟩)])(i:aq w s 174 #[.pointer a]):
  SeqStopsK Fence.wide m prog 169 #[.pointer (some ⟨B,0,none⟩)] (λx:oW w=>#[Value.pointer (some ⟨x.1.g,0,none⟩)]) KN (λC=>C=L) (λpre=>pre<+:L) L.length w:=by
 intro l G n W c _ _ u o;have d:∀k:Nat,(Fence.wide.depth.isSome=true->1<=k):=λk h=>by cases h
 have j:=JH l L.length w G n (λm pre x W v _ y=>YieldAt.jM rfl m (u pre x W v y)) r (m-1) [] W o (KN.below c) (by simp);have E:W.cell? ⟨B,0,none⟩=some (.pointer (some ⟨s,0,none⟩)):=(c.cell (p:=⟨B,0,none⟩) f.lt).trans (f.cell 0);have F:W.cell? ⟨s,0,none⟩=some (.pointer a):=(c.cell (p:=⟨s,0,none⟩) i.lt).trans (i.cell 0);refine callsIn_of_wp func169 rfl trivial ?_ rfl;simp only[ntmps169,List.size_toArray,List.length_cons,List.length_nil,Nat.reduceAdd,Nat.reduceSub,Array.replicate_succ,Array.replicate_zero,List.push_toArray,List.append_toArray,List.nil_append,List.cons_append];gi_wp2_with((try refine⟨trivial,d _,?_⟩);gi_at_call 170;refine j.mono ?_;clear j;rintro e D(⟨rfl,b,_⟩|⟨rfl,q,z,A⟩));·go_end0;exact⟨⟨_,rfl⟩, .inl ⟨_,rfl,by simpa using b⟩⟩
 ·go_end0;exact⟨⟨_,rfl⟩, .inr ⟨q,z,by simpa using A⟩⟩
end Go.Proofs.YtphjagkehiklkaaGreatDoor
namespace Go.Proofs.YtphjagkehiklkaaGreatDoor
open Proofs.Tryz Go.ChangeShapes Go.WideShapes Go.ChangeAt Go.RowKit
theorem sI:prog.cellsOf 3=1:=by kernel_rfl
theorem sJ:prog.cellsOf 9=1:=by kernel_rfl
theorem vw:prog.cellsOf 4=1:=by kernel_rfl
theorem AO:prog.cellsOf 245=5:=by kernel_rfl
theorem Gd:prog.cellsOf 247=7:=by kernel_rfl
theorem xX:prog.cellsOf 189=6:=by kernel_rfl
theorem DT:prog.cellsOf 190=126:=by kernel_rfl
theorem ym:prog.globalNamed "replevin/object.usages"=some 0:=by kernel_rfl
theorem Fv:(prog.globals[0]?).map (·.type)=some 190:=by kernel_rfl
def iE.datum{H:Type}(u:iE):DataW H:= .agg [.lit (.string u.word.data.toList), .lit (.bool u.owner), .lit (.bool u.number), .lit (.bool u.index), .lit (.bool u.text), .lit (.int .i64 u.aS)]
theorem IX:(Rows.laid_replevin_object_usages:DataW Unit)= .agg (iO.map iE.datum):=by kernel_rfl
theorem Iz{H:Type}{enc:TypeId×Value->H}{w:World}{base:Nat}{sp:Nat->Bool}{held:Bool}{fuel:Nat}{l:List Value}{u:iE}{x:DataW H×List MemPlace}(m:x.1=u.datum)
  (h:DataW.trod enc prog w base sp held fuel 189 l=some x):l=u.cells:=by
 obtain⟨s,v,_,rfl,b,c,a⟩:=DataW.trod_struct underlying189 h;rw[xX]at b;match l,b with
 |[y,z,A,x3,B,C],_=>
  have g0:=a 0 _ rfl;have g1:=a 1 _ rfl;have g2:=a 2 _ rfl;have g3:=a 3 _ rfl;have g4:=a 4 _ rfl;have g5:=a 5 _ rfl;match s,c with
  |[D,E,F,y3,y4,G],_=>
   simp[sI,sJ,vw]at g0 g1 g2 g3 g4 g5;obtain⟨a0,d,rfl,_⟩:=DataW.trod_string underlying9 g0;obtain⟨t,e,rfl⟩:=DataW.trod_bool underlying4 g1;obtain⟨a2,f,rfl⟩:=DataW.trod_bool underlying4 g2;obtain⟨a3,g,rfl⟩:=DataW.trod_bool underlying4 g3;obtain⟨a4,i,rfl⟩:=DataW.trod_bool underlying4 g4;obtain⟨a5,j,rfl,_⟩:=DataW.trod_int underlying3 g5;simp only[List.cons.injEq,and_true]at d e f g i j;subst d e f g i j;simp only[iE.datum,List.map_cons,List.map_nil,DataW.agg.injEq,List.cons.injEq,DataW.lit.injEq,Lit.string.injEq,Lit.bool.injEq,Lit.int.injEq,and_true,true_and]at m;obtain⟨k,n,o,p,q,r⟩:=m;have hw:a0=u.word:=by
    cases a0;cases hu:u.word;rw[hu]at k;simpa[Array.toList_inj]using k
   rw[iE.cells,hw,n,o,p,q,r]
theorem Mi{W:World}{rest:List (String×DataW Unit)}(h:laidMet prog (("replevin/object.usages",Rows.laid_replevin_object_usages)::rest) W):dO W:=by
 obtain⟨z,⟨y,A,cs,fuel,p,q,c,e,b,r,_,_⟩,_⟩:=h;obtain rfl:=Option.some.inj (ym.symm.trans c);obtain rfl:=Option.some.inj (Fv.symm.trans e);obtain⟨xs,m,_,i,w,x,s⟩:=DataW.trod_array underlying190 r;rw[DT]at w;refine⟨λk u n j v f=>?_⟩;have d:k<21:=by
  have:=(List.getElem?_eq_some_iff.1 n).1;simpa[iO]using this
 have g:=s k d;rw[xX,List.getElem?_eq_getElem (by omega)]at g;have a:(xs[k]).1=u.datum:=by
  rw[IX]at i;simp only[Prod.mk.injEq,DataW.agg.injEq]at i;have l:=congrArg (·[k]?) i.1;simp only[List.getElem?_map,n,Option.map_some,List.getElem?_eq_getElem (show k<xs.length by omega),Option.some.injEq]at l;exact l.symm
 have o:=Iz a g;have t:j<6:=by
  have:=(List.getElem?_eq_some_iff.1 f).1;simpa[iE.cells]using this
 refine World.var?_cell ym b (k*6+j)|>.trans ?_;rw[<-o,List.getElem?_take_of_lt t,List.getElem?_drop]at f;simpa using f
end Go.Proofs.YtphjagkehiklkaaGreatDoor
